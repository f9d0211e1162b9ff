/- Texts of this claim, joined by a program: K2, Cat, GPa, GSa, Sent, GSb, Map, Mut, Pool, Rng, Enc, Disk0, Shelf2, KeysP. -/
import Derived.Test.YtlonpmajnglmoaaDoorJ1
import Derived.Lib.SliceRun
import Derived.Sort.OwnSorted
import Derived.Maps.RangeRun
import Derived.Maps.Keyed
import Derived.Carry
import Derived.StringKeys
import Derived.Shelf.SlIter.Sorted
import Derived.Shelf.SlIter.Collect
import Derived.Ground.GgzProg
import Derived.Test.YtlonpmajnglmoaaDoorProg
/- Slices whose elements take k cells each: append, literals, make. -/
namespace Go.Proofs.YtlonpmajnglmoaaDoor
open Go Go.RowKit
section
variable {α : Type} {k : Nat} {f : α → List Value}
theorem OneK.fidx (h : OneK k f) : ∀ (xs : List α) (p : Nat) (u : Value), (xs.flatMap f)[p]? = some u → ∃ j x i, p = j * k + i ∧ xs[j]? = some x ∧ (f x)[i]? = some u
  | [], p, u, hu => by simp at hu
  | x :: xs, p, u, hu => by
    rw [List.flatMap_cons] at hu
    by_cases hp : p < k
    · rw [List.getElem?_append_left (by rw [h.len]; exact hp)] at hu
      exact ⟨0, x, p, by omega, rfl, hu⟩
    · rw [List.getElem?_append_right (by rw [h.len]; omega), h.len] at hu
      obtain ⟨j, y, i, h1, h2, h3⟩ := h.fidx xs _ u hu
      exact ⟨j + 1, y, i, by rw [Nat.add_mul]; omega, by simpa using h2, h3⟩
/-- the parts' cells of a literal -/
def partsA (L : Slots) : Nat → List (Nat × Operand) → Option (List (List Value))
  | _, [] => some []
  | j, (i, x) :: r => bif Nat.beq i j then (match opv L x, partsA L (j + 1) r with
    | some (.agg ⟨vs⟩), some us => some (vs :: us)
    | _, _ => none) else none
theorem fill_partsA {N : Nat} {L : Slots} {a : Act} (ha : Has N L a) (k : Nat) : ∀ (ps : List (Nat × Operand)) (j : Nat) (vs : List (List Value)) (done : List Value) (cells : Array Value), partsA L j ps = some vs → (∀ u ∈ vs, u.length = k) → done.length = j * k → cells.toList.take (j * k) = done → cells.size = (j + vs.length) * k →
    Instr.fill (fun i => some (i * k, k)) cells (ps.map fun p => (p.1, a.eval p.2)) = some ⟨done ++ vs.flatten⟩
  | [], j, vs, done, cells, hp, _, hdl, ht, hs => by
    simp only [partsA, Option.some.injEq] at hp
    subst hp
    simp only [List.map_nil, Instr.fill, List.flatten_nil, List.append_nil]
    congr 1
    apply Array.ext'
    rw [← ht, List.take_of_length_le (by simp at hs ⊢; omega)]
  | (i, x) :: ps, j, vs, done, cells, hp, h1, hdl, ht, hs => by
    simp only [partsA] at hp
    cases hij : Nat.beq i j with
    | false => simp [hij] at hp
    | true =>
      have := Nat.eq_of_beq_eq_true hij
      subst this
      simp only [hij, cond_true] at hp
      split at hp
      · rename_i v us hv hus
        simp only [Option.some.injEq] at hp
        subst hp
        have hvk : v.length = k := h1 v (by simp)
        have hcs : (Value.agg ⟨v⟩).cells = ⟨v⟩ := rfl
        simp only [List.length_cons] at hs
        have hs2 : cells.size = i * k + k + us.length * k := by rw [hs, Nat.add_mul, Nat.add_mul]; omega
        simp only [List.map_cons, Instr.fill, ha.ev hv, hcs]
        have h5 : ((⟨v⟩ : Array Value).zipIdx.foldl (fun cs (x : Value × Nat) => match x with | (c, j) => cs.setIfInBounds (i * k + j) c) cells).toList = splice cells.toList (i * k) v := by
          have h3 := foldl_splice v 0 cells (i * k) (by omega)
          rw [Nat.add_zero] at h3
          have h4 : ((⟨v⟩ : Array Value).zipIdx.foldl (fun (cs : Array Value) (x : Value × Nat) => cs.setIfInBounds (i * k + x.2) x.1) cells).toList = splice cells.toList (i * k) v := by
            rw [← h3, ← Array.foldl_toList]
            simp
          exact h4
        generalize hq : (⟨v⟩ : Array Value).zipIdx.foldl (fun cs (x : Value × Nat) => match x with | (c, j) => cs.setIfInBounds (i * k + j) c) cells = q at h5
        rw [if_neg (by simp [hvk]; omega)]
        have hql : q.size = cells.size := by
          have := congrArg List.length h5
          rw [splice_length _ _ _ (by simp; omega)] at this
          simpa using this
        have := fill_partsA ha k ps (i + 1) us (done ++ v) q hus (fun u hu => h1 u (by simp [hu])) (by rw [List.length_append, hdl, hvk, Nat.add_mul]; omega) (by
          rw [h5, Nat.add_mul, Nat.one_mul]
          unfold splice
          rw [ht, List.take_left' (by rw [List.length_append, hdl, hvk])]) (by rw [hql, hs2, Nat.add_mul, Nat.add_mul]; omega)
        rw [this]
        simp
      · cases hp
theorem flatten_map (f : α → List Value) : ∀ xs : List α, (xs.map f).flatten = xs.flatMap f
  | [] => rfl
  | x :: xs => by simp [List.flatMap_cons, flatten_map f xs]
end
section rules
variable {P : Program} {T : Tab} {N : Nat} {ops : Array Oper} {Q : Post} {L : Slots} {w : World} {rest : List Oper} {d : Nat} {ty : TypeId} {pos : String} {af : Array Edge} {t t' : TypeId} {x y : Operand} {kk kk' : IntKind}
variable {α : Type} {k : Nat} {f : α → List Value} {A : Option Addr} {c n B : Nat} {xs ys : List α} {e : TypeId}
theorem Eff.litK {b m : Nat} {ps : List (Nat × Operand)} (hf : OneK k f) (hs : ckOwK P t e k b = true) (hp : partsA L 0 ps = some (xs.map f)) (hm : xs.length = m) (hm2 : Nat.ble (m * k) 16777216 = true) :
    Eff P N w ⟨some d, .buildSlice t m ⟨ps⟩, ty, pos, af, none⟩ L (fun v w' => v = .slice (some ⟨w.heap.size, 0, none⟩) m m ∧ Bl w' w.heap.size e (xs.flatMap f) ∧ w.grownBy w' none) := fun a w1 hw ha => by
    have hs1 : w1.heap.size = w.heap.size := by rw [hw.heap]
    have hm2 : m * k ≤ 16777216 := by simpa using hm2
    obtain ⟨hu, j, z, hj, hz, hj1, _, hz1⟩ := ckOwK_spec hs
    refine ⟨_, w1.alloc (.cells ⟨xs.flatMap f⟩ e), ?_, rfl, newBlock w1 hw _ e⟩
    have hne : ¬ (m * k > 2 ^ 24) := by omega
    have hmap : ((⟨ps⟩ : Array (Nat × Operand)).map fun p => (p.1, a.eval p.2)).toList = ps.map fun p => (p.1, a.eval p.2) := by simp
    have hfill : ∀ cells : Array Value, cells.size = m * k → Instr.fill (fun i => some (i * k, k)) cells (ps.map fun p => (p.1, a.eval p.2)) = some ⟨xs.flatMap f⟩ := fun cells hc => by
      have := fill_partsA ha k ps 0 (xs.map f) [] cells hp (fun u hu => by
        obtain ⟨y, _, rfl⟩ := List.mem_map.1 hu
        exact hf.len y) (by simp) (by simp) (by rw [hc, List.length_map, hm, Nat.zero_add])
      rw [this, flatten_map]
      rfl
    have hzr : (zeroValue e).run P w1 = .ok z w1 := by simp [zeroValue, typeInfo, hj, hz]
    unfold execOp
    simp only [Instr.buildSlice, Sem.run_bind, run_underlying hu, Result.andThen_ok, sizeOf, typeInfo, program, Sem.run, hj, hj1, hne, if_false, Sem.run_pure, hmap]
    by_cases hm0 : m * k = 0
    · simp only [hm0, if_true, Sem.run_bind, Sem.run_pure, Result.andThen_ok]
      rw [hfill _ (by simp [hm0])]
      simp only [newRow, newObj, Sem.run_bind, Sem.run_pure]
      rw [← hs1]; rfl
    · rw [if_neg hm0]
      simp only [Sem.run_bind, hzr, Result.andThen_ok, Sem.run_pure]
      rw [hfill _ (by simp)]
      simp only [newRow, newObj, Sem.run_bind, Sem.run_pure]
      rw [← hs1]; rfl
theorem WL.litK {b m : Nat} {ps : List (Nat × Operand)} (xs : List α) (hf : OneK k f) (hd : Nat.blt d N = true) (hs : ckOwK P t e k b = true) (hp : partsA L 0 ps = some (xs.map f)) (hm : xs.length = m) (hm2 : Nat.ble (m * k) 16777216 = true)
    (hk : ∀ g w', Bl w' g e (xs.flatMap f) → w.grownBy w' none → w.heap.size ≤ g → WL P N ops Q rest ((d, .slice (some ⟨g, 0, none⟩) m m) :: L) w') :
    WL P N ops Q (⟨some d, .buildSlice t m ⟨ps⟩, ty, pos, af, none⟩ :: rest) L w :=
  WL.put (R := fun v w' => v = .slice (some ⟨w.heap.size, 0, none⟩) m m ∧ Bl w' w.heap.size e (xs.flatMap f) ∧ w.grownBy w' none) hd (Eff.litK hf hs hp hm hm2) (fun v w' ⟨hv, hb, hg⟩ => by subst hv; exact hk _ _ hb hg (Nat.le_refl _))
theorem run_append_own_srcK {w1 : World} {tx : TypeId} {v : Value} {b m : Nat} {ys : List α} (hs : ckOwK P t e k b = true) (hO : OwnK k f w1 B e A c xs) (hS : Src P k tx v m (ys.flatMap f) w1) (hm : m = ys.length) (hl : (xs.length + ys.length) * b ≤ 140737488355328) (h63 : xs.length + ys.length ≤ maxLen) (hB : B ≤ w1.heap.size) (ty : TypeId) :
    ∃ A' c' w', (Builtin.append_ #[t, tx] ty #[.slice A xs.length c, v]).run P w1 = .ok (.slice A' (xs ++ ys).length c') w' ∧ OwnK k f w' B e A' c' (xs ++ ys) ∧ w1.grownBy w' (blk A) ∧ (∀ g, blk A' = some g → blk A = some g ∨ w1.heap.size ≤ g) := by
  obtain ⟨hu, i, z, hi, hz, hi1, hib, hz1⟩ := ckOwK_spec hs
  subst hib
  subst hm
  have h63' : ((xs.length + ys.length : Nat) : Int) ≤ 9223372036854775807 := by simp only [maxLen] at h63; omega
  have hf := hO.1
  have hfx := hf.flen xs
  have hfy := hf.flen ys
  have hge := grownCap_ge w1 (xs.length + ys.length) c e
  have hcm := grownCap_le_maxLen w1 (xs.length + ys.length) c e (by omega)
  have grow : c < xs.length + ys.length → ∃ A' c' w', (Builtin.append_ #[t, tx] ty #[.slice A xs.length c, v]).run P w1 = .ok (.slice A' (xs ++ ys).length c') w' ∧ OwnK k f w' B e A' c' (xs ++ ys) ∧ w1.grownBy w' (blk A) ∧ (∀ g, blk A' = some g → blk A = some g ∨ w1.heap.size ≤ g) := by
    intro hlt
    have hold : (Builtin.firstCells i.size xs.length (.slice A xs.length c)).run P w1.drew = .ok ((xs.flatMap f).toArray) w1.drew := by
      rw [hi1]
      rcases hO.2.2 with ⟨hv, hn⟩ | ⟨g, cap, cur, hv, hb, hg, hnc, hcm', hcs, htake⟩
      · simp only [Value.slice.injEq] at hv
        obtain ⟨rfl, _, rfl⟩ := hv
        have : xs = [] := List.eq_nil_of_length_eq_zero hn
        subst this
        exact run_firstCells_none w1.drew k 0 0 0
      · simp only [Value.slice.injEq] at hv
        obtain ⟨rfl, _, rfl⟩ := hv
        exact run_firstCells_some w1.drew k xs.length ⟨g, 0, none⟩ xs.length c (xs.flatMap f) hfx (fun j u hj => hO.2.cells (g := g) rfl j u hj)
    have hr := run_append_grow_src (P := P) w1 t tx ty e i z hu hi hz A xs.length c (xs.flatMap f) hold v ys.length (ys.flatMap f) (by rw [hi1]; exact hS) hlt h63' (growslice_fits hlt hl)
    refine ⟨_, _, _, by rw [hr, List.length_append], ⟨hf, ?_⟩, ?_, ?_⟩
    · refine ⟨hf.flen _, .inr ⟨w1.heap.size, _, _, by rw [List.length_append], hB, heap_alloc_new w1.drew _, by rw [List.length_append]; exact hge, hcm, ?_, ?_⟩⟩
      · have : (grownCap w1 (xs.length + ys.length) c e) * k = xs.length * k + ys.length * k + (grownCap w1 (xs.length + ys.length) c e - (xs.length + ys.length)) * k := by
          rw [← Nat.add_mul, ← Nat.add_mul]
          congr 1
          omega
        simp only [Array.size_append, List.size_toArray, List.length_append, size_zeroCells, hz1, hfx, hfy]
        omega
      · rw [hf.flen (xs ++ ys) |>.symm]
        simp only [Array.toList_append, List.flatMap_append]
        rw [List.take_left' (by simp)]
    · exact ⟨rfl, rfl, rfl, by simp, fun k hk _ => heap_alloc_old w1.drew _ hk⟩
    · intro g hg
      simp only [blk, Option.map_some, Option.some.injEq] at hg
      exact .inr (by omega)
  by_cases hroom : xs.length + ys.length ≤ c
  · rcases hO.2.2 with ⟨hv, hn⟩ | ⟨g, cap, cur, hv, hb, hg, hnc, hcm', hcs, htake⟩
    · simp only [Value.slice.injEq] at hv
      obtain ⟨rfl, _, rfl⟩ := hv
      have hx0 : xs = [] := List.eq_nil_of_length_eq_zero hn
      have hy0 : ys = [] := List.eq_nil_of_length_eq_zero (by omega)
      subst hx0; subst hy0
      refine ⟨none, 0, w1, ?_, OwnK.nil hf w1 B e, gr_refl _ _, fun g hg => by simp [blk] at hg⟩
      have := hS.cells
      rcases hS.kind with ⟨e', hk⟩ | hk <;> simp [Builtin.append_, run_underlying hu, run_underlying hk, sizeOf, typeInfo, hi, hi1, hS.len] <;> simp at this <;> simp [this]
    · simp only [Value.slice.injEq] at hv
      obtain ⟨rfl, _, rfl⟩ := hv
      have hB1 : Bl w1 g e cur.toList := hg
      have hcl : cur.toList.length = c * k := by simpa using hcs
      have hxk : xs.length * k + ys.length * k ≤ c * k := by rw [← Nat.add_mul]; exact Nat.mul_le_mul_right k hroom
      have hr := run_append_room_src (P := P) w1 t tx ty e i hu hi g 0 xs.length c v ys.length (ys.flatMap f) (by rw [hi1]; exact hS) hroom (fun j hj => by
        rw [hi1, hB1.cell]
        rw [List.getElem?_eq_getElem (by omega)]
        rfl) (fun j _ => hB1.frozen _)
      have hst := run_storeCells_at P g (xs.length * k) e (ys.flatMap f) 0 cur w1 hg (by simp at hcl; omega) hS.one
      have hst2 := run_storeCells_cells (P := P) g (xs.length * k) (ys.flatMap f) 0 w1 (fun j hj => by
        rw [hB1.cell]
        rw [List.getElem?_eq_getElem (by omega)]
        rfl) (fun j _ => hB1.frozen _) hS.one
      have hw : w1.setCells g (0 + xs.length * i.size) (ys.flatMap f) = w1.setRow g (List.take (xs.length * k + 0) cur.toList ++ ys.flatMap f ++ List.drop (xs.length * k + 0 + (ys.flatMap f).length) cur.toList).toArray := by
        rw [hst] at hst2
        injection hst2 with _ h2
        rw [hi1, Nat.zero_add]
        exact h2.symm
      rw [hw] at hr
      refine ⟨_, _, _, by rw [hr, List.length_append], ⟨hf, ?_⟩, ?_, fun g' hg' => .inl hg'⟩
      · refine ⟨hf.flen _, .inr ⟨g, c, _, by rw [List.length_append], hb, setRow_heap w1 g cur _ e _ hg, by rw [List.length_append]; exact hroom, hcm', ?_, ?_⟩⟩
        · simp only [List.size_toArray, List.length_append, List.length_take, List.length_drop, hcl, hfy]
          omega
        · rw [hf.flen (xs ++ ys) |>.symm]
          simp only [Nat.add_zero, htake, List.flatMap_append]
          rw [List.take_left' (by simp)]
      · exact ⟨rfl, rfl, rfl, by simp, fun k _ hk => setRow_other w1 g k _ (fun e => hk (by simp [blk, e]))⟩
  · exact grow (by omega)
theorem src_rdK {w1 : World} {A2 : Option Addr} {c2 : Nat} {ys : List α} {e' : TypeId} (hu : P.underlying t = some (.slice e')) (hR : RdK k f w1 A2 c2 ys) : Src P k t (.slice A2 ys.length c2) ys.length (ys.flatMap f) w1 := by
  by_cases hy : ys = []
  · subst hy
    cases A2 with
    | none => exact Src.ofNil w1 hu c2
    | some ad => exact Src.ofSlice w1 hu ad 0 c2 [] (by simp) (by simp) (by simp)
  · obtain ⟨g, o, rfl, hc⟩ := hR.cells hy
    exact Src.ofSlice w1 hu ⟨g, o, none⟩ ys.length c2 (ys.flatMap f) (hR.ok.flen ys) (fun p u hp => by
      obtain ⟨j, x, i, rfl, hx, hi⟩ := hR.ok.fidx ys p u hp
      rw [Addr.add_mid]
      exact hc j x i u hx hi) hR.ok.mem
theorem Eff.appendK {A2 : Option Addr} {c2 n2 : Nat} {ys : List α} {b : Nat} (hs : ckOwK P t e k b = true) (hO : OwnK k f w B e A c xs) (hx : opv L x = some (.slice A n c)) (hn : n = xs.length) (hR : RdK k f w A2 c2 ys) (hy : opv L y = some (.slice A2 n2 c2)) (hn2 : n2 = ys.length) (hl : (xs.length + ys.length) * b ≤ 140737488355328) (h63 : xs.length + ys.length ≤ maxLen) (hB : B ≤ w.heap.size) :
    Eff P N w ⟨some d, .call ⟨.builtin .append, ⟨[x, y]⟩, ⟨[t, t]⟩⟩, ty, pos, af, none⟩ L (fun v w' => ∃ A' c', v = .slice A' (xs ++ ys).length c' ∧ OwnK k f w' B e A' c' (xs ++ ys) ∧ w.grownBy w' (blk A) ∧ (∀ g, blk A' = some g → blk A = some g ∨ w.heap.size ≤ g)) := fun a w1 hw ha => by
    obtain ⟨hu, _⟩ := ckOwK_spec hs
    subst hn; subst hn2
    have hs1 : w1.heap.size = w.heap.size := by rw [hw.heap]
    obtain ⟨A', c', w', hr, h1, h2, h3⟩ := run_append_own_srcK (P := P) (ty := ty) hs (hO.eqv hw) (src_rdK hu (hR.eqv hw)) rfl hl h63 (by omega)
    refine ⟨_, w', ?_, A', c', rfl, h1, eqv_gr hw h2, fun g hg => by rw [← hs1]; exact h3 g hg⟩
    unfold execOp
    simp [resolve, invoke, builtin, ha.ev hx, ha.ev hy, hr]
theorem WL.appendK {A2 : Option Addr} {c2 n2 : Nat} {ys : List α} {b : Nat} (hd : Nat.blt d N = true) (hs : ckOwK P t e k b = true) (hO : OwnK k f w B e A c xs) (hx : opv L x = some (.slice A n c)) (hn : n = xs.length) (hR : RdK k f w A2 c2 ys) (hy : opv L y = some (.slice A2 n2 c2)) (hn2 : n2 = ys.length)
    (hl : (xs.length + ys.length) * b ≤ 140737488355328) (h63 : xs.length + ys.length ≤ maxLen) (hB : B ≤ w.heap.size)
    (hk : ∀ A' c' w', OwnK k f w' B e A' c' (xs ++ ys) → w.grownBy w' (blk A) → (∀ g, blk A' = some g → blk A = some g ∨ w.heap.size ≤ g) → WL P N ops Q rest ((d, .slice A' (xs ++ ys).length c') :: L) w') :
    WL P N ops Q (⟨some d, .call ⟨.builtin .append, ⟨[x, y]⟩, ⟨[t, t]⟩⟩, ty, pos, af, none⟩ :: rest) L w :=
  WL.put (R := fun v w' => ∃ A' c', v = .slice A' (xs ++ ys).length c' ∧ OwnK k f w' B e A' c' (xs ++ ys) ∧ w.grownBy w' (blk A) ∧ (∀ g, blk A' = some g → blk A = some g ∨ w.heap.size ≤ g)) hd (Eff.appendK hs hO hx hn hR hy hn2 hl h63 hB) (fun v w' ⟨A', c', hv, h1, h2, h3⟩ => by subst hv; exact hk A' c' w' h1 h2 h3)
end rules
/-! ## what yields, guarded; make, by an integer; what grew of p is new -/
section
variable {P : Program} {T : Tab} {N : Nat} {ops : Array Oper} {Q : Post} {L : Slots} {w : World} {rest : List Oper} {d : Nat} {ty : TypeId} {pos : String} {af : Array Edge} {t : TypeId} {x y : Operand} {k k' : IntKind} {α : Type} {f : α → Value} {B : Nat} {e : TypeId}
theorem WL.putw {op : Op} {gd : Option (Nat × Bool)} {R : Value → World → Prop} (hg : Wants N ops L gd) (hd : Nat.blt d N = true) (hr : Eff P N w ⟨some d, op, ty, pos, af, none⟩ L R)
    (hk : ∀ v w', R v w' → WL P N ops Q rest ((d, v) :: L) w') : WL P N ops Q (⟨some d, op, ty, pos, af, gd⟩ :: rest) L w := fun a w1 e ha =>
  wpList_step fun K hK => by
    rw [if_pos (Wants.wanted (o := ⟨some d, op, ty, pos, af, gd⟩) hg ha)]
    obtain ⟨v, w', h, hR⟩ := hr a w1 e ha
    have h' : (execOp a.eval ⟨some d, op, ty, pos, af, gd⟩).run P w1 = .ok (.value v) w' := h
    unfold Oper.wp
    rw [h']
    exact hK _ _ (hk v w' hR _ w' (Eqv.refl _) (ha.put hd v))
theorem Ge.app {p p' : Option Nat} {n m : Nat} (h : Ge p n) (k : ∀ g, p' = some g → p = some g ∨ m ≤ g) (hm : n ≤ m) : Ge p' n := fun g hg => (k g hg).elim (h g) (Nat.le_trans hm)
end
theorem Rd.take {α : Type} {f : α → Value} {w : World} {A : Option Addr} {c : Nat} {xs : List α} (h : Rd f w A c xs) (m : Nat) : Rd f w A c (xs.take m) :=
  ⟨by have := h.cap; simp; omega, h.max, fun hx => by
    obtain ⟨ad, e, hc⟩ := h.cells (fun e => hx (by rw [e]; simp))
    refine ⟨ad, e, fun j x hj => hc j x ?_⟩
    rw [List.getElem?_take] at hj
    split at hj
    · exact hj
    · cases hj⟩
/-! ## function values -/
section
variable {P : Program} {T : Tab} {N : Nat} {ops : Array Oper} {Q : Post} {L : Slots} {w : World} {rest : List Oper} {d : Nat} {ty : TypeId} {pos : String} {af : Array Edge}
theorem Yld.mkf {dd : Option Tmp} {f : FuncId} {cs : List Operand} {vs : List Value} (hv : opvs L cs = some vs) : Yld P N w ⟨dd, .makeFunc (.func f) ⟨[]⟩ ⟨cs⟩, ty, pos, af, none⟩ L (.func (.func f) #[] ⟨vs⟩) := fun a w1 _ ha => by
  have hm : (⟨cs⟩ : Array Operand).map a.eval = ⟨vs⟩ := by rw [← ha.evs hv]; simp
  unfold execOp
  simp only [Instr.makeFunc, hm, Sem.run_bind, Sem.run_pure, Result.andThen_ok]
  simp
end
end Go.Proofs.YtlonpmajnglmoaaDoor

 /- slices.Concat, Sort, Compact of texts; strings.Cut and Compare, in the generator's form. -/
namespace Go.Proofs.YtlonpmajnglmoaaDoor
open Go Go.RowKit
theorem enc_vs : encStr = vs := by funext l; rfl
def M_slices_Sort_string_string (xs : List (List UInt8)) (K : List (List UInt8) → Prop) : Prop := xs.length < 4611686018427387904 ∧ K (xs.mergeSort fun x y => decide (x ≤ y))
theorem W_slices_Sort_string_string {w : World} {xs : List (List UInt8)} {A : Option Addr} {c n B : Nat} {e : TypeId} {K : List (List UInt8) → Prop} (hO : Own vs w B e A c xs) (hn : n = xs.length) (H : M_slices_Sort_string_string xs K) :
    Fn Tryd.prog 98 ⟨[.slice A n c]⟩ w (fun v w' => ∃ ys : List (List UInt8), v = .tuple #[] ∧ Own vs w' B e A c ys ∧ w.grownBy w' (blk A) ∧ ys.length = xs.length ∧ K ys) := by
  subst hn
  refine ⟨by kernel_rfl, fun w1 e1 => ?_⟩
  have hO1 := own_eqv e1 hO
  rcases hO1.2 with ⟨hv, hn⟩ | ⟨g, cap, cur, hv, hb, hg, hnc, hcm, hcs, htake⟩
  · simp only [Value.slice.injEq] at hv
    obtain ⟨rfl, _, rfl⟩ := hv
    have : xs = [] := List.eq_nil_of_length_eq_zero hn
    subst this
    refine (Tryd.slices_Sort_string_none none 0 w1).mono fun _ w' ⟨he, hw⟩ => ⟨_, w, he, by rw [hw]; exact e1, [], rfl, hO, gr_refl _ _, rfl, ?_⟩
    simpa using H.2
  · simp only [Value.slice.injEq] at hv
    obtain ⟨rfl, _, rfl⟩ := hv
    refine (Tryd.slices_Sort_string g 0 c xs w1 (holds_of_block hg (by rw [enc_vs]; simpa using htake)) (Array.getElem?_eq_some_iff.1 hg).1 H.1).mono fun _ w' ⟨he, q, os, hw⟩ => ?_
    have hl : (xs.mergeSort fun x y => decide (x ≤ y)).length = xs.length := List.length_mergeSort xs
    have h1 := ownsRow_sorted (n := q) (os := os) hl hb hg hnc hcm hcs
    have h2 := grownBy_sorted (w := w1) (g := g) (n := q) (os := os) (xs.mergeSort fun x y => decide (x ≤ y)).toArray
    rw [← hw] at h1 h2
    refine ⟨_, w', he, Eqv.refl _, _, rfl, ?_, eqv_gr e1 h2, hl, H.2⟩
    unfold Own
    rw [hl, ← enc_vs]
    exact h1
end Go.Proofs.YtlonpmajnglmoaaDoor


 /- Printed by a program (wip/vg): what the functions mean, plainly, and their walks. -/
namespace Go.Proofs.YtlonpmajnglmoaaDoor
open Go Go.RowKit
attribute [local irreducible] WL WC WX WQ WK WJ Yld Eff Ef0 Fn
def M_path_letter (c : Int) (K : Bool → Prop) : Prop :=
 ((((((decide ((48 : Int) ≤ c)) && (decide (c ≤ (57 : Int)))) || ((decide ((65 : Int) ≤ c)) && (decide (c ≤ (90 : Int))))) || ((decide ((97 : Int) ≤ c)) && (decide (c ≤ (122 : Int))))) = true → K true) ∧
 (((((decide ((48 : Int) ≤ c)) && (decide (c ≤ (57 : Int)))) || ((decide ((65 : Int) ≤ c)) && (decide (c ≤ (90 : Int))))) || ((decide ((97 : Int) ≤ c)) && (decide (c ≤ (122 : Int))))) = false → M_strings_IndexByte ([33, 35, 37, 43, 44, 45, 46, 61, 64, 95, 126] : List UInt8) c (fun (t26 : Int) =>
 K (decide ((0 : Int) ≤ t26)))))

def M_path_dots (s : List UInt8) (K : Bool → Prop) : Prop :=
 K (((decide (s = ([] : List UInt8))) || (decide (s = ([46] : List UInt8)))) || (decide (s = ([46, 46] : List UInt8))))

def M_path_fair (s : List UInt8) (K : Bool → Prop) : Prop :=
 Lp1 (fun (t6 : Int) kont1 => ((t6 < (s.length : Int) → (0 ≤ t6 ∧ t6 < s.length) ∧
 M_path_letter ((s.getD t6.toNat 0).toNat : Int) (fun (t12 : Bool) =>
 (((!t12) = true → K false) ∧
 ((!t12) = false → (In .i64 (t6 + (1 : Int))) ∧
 kont1 (t6 + (1 : Int)))))) ∧
 (¬ (t6 < (s.length : Int)) → M_path_dots s (fun (t16 : Bool) =>
 K (!t16))))) (0 : Int)

def M_path_Valid (p : List UInt8) (K : Bool → Prop) : Prop :=
 (((200 : Int) < (p.length : Int) → K false) ∧
 (¬ ((200 : Int) < (p.length : Int)) → M_strings_Split p ([47] : List UInt8) (fun (t9 : List (List UInt8)) =>
 Lp1 (fun (t11 : Int) kont1 => ((t11 < (t9.length : Int) → (0 ≤ t11 ∧ t11 < (t9.length : Nat)) ∧
 M_path_fair (t9.getD t11.toNat []) (fun (t16 : Bool) =>
 (((!t16) = true → K false) ∧
 ((!t16) = false → (In .i64 (t11 + (1 : Int))) ∧
 kont1 (t11 + (1 : Int)))))) ∧
 (¬ (t11 < (t9.length : Int)) → K true))) (0 : Int))))

def M_smithyref_AmongTexts (l : List (List UInt8)) (s : List UInt8) (K : Int → Prop) : Prop :=
 (l.length ≤ maxLen →
 Lp1 (fun (i : Int) kont1 => ((i < (l.length : Int) → (0 ≤ i ∧ i < (l.length : Nat)) ∧
 (((l.getD i.toNat []) = s → K i) ∧
 (¬ ((l.getD i.toNat []) = s) → (In .i64 (i + (1 : Int))) ∧
 kont1 (i + (1 : Int))))) ∧
 (¬ (i < (l.length : Int)) → K (-1 : Int)))) (0 : Int))

def M_smithyworld_Number (n : Int) (below : Int) (K : Int → Prop) : Prop :=
 (below ≠ 0) ∧
 (In .i64 ((n.tmod below) + below)) ∧
 (below ≠ 0) ∧
 K (((n.tmod below) + below).tmod below)

set_option maxHeartbeats 8000000 in
theorem W_path_letter {w : World} {c : Int} {K : Bool → Prop} (H : M_path_letter c K) : Fn Tryd.prog 126 ⟨[.int .u8 c]⟩ w (fun v w' => w = w' ∧ ∃ (r : Bool), v = .bool r ∧ K r) := by
  unfold M_path_letter at H
  refine Fn.enter (by kernel_rfl) Tryd.func126 rfl Tryd.ntmps126 rfl ?_
  refine WC.seq ?_
  refine WC.region ?_
  refine WL.y rfl (Yld.pure tab_ok rfl) ?_
  refine WL.nil (WX.then_normal ?_)
  refine WC.seq ?_
  refine WC.seq ?_
  refine WC.region ?_
  refine WL.y rfl (Yld.pure tab_ok rfl) ?_
  refine WL.y rfl (Yld.pure tab_ok rfl) ?_
  refine WL.y rfl (Yld.pure tab_ok rfl) ?_
  refine WL.midF 3 (fun L' w' => ∃ q1 : Bool, L' = [(8, .bool q1), (0, .int .u8 c)] ∧ ((decide ((48 : Int) ≤ c)) && (decide (c ≤ (57 : Int)))) = q1 ∧ w = w') ?_ (fun hQ => ?_)
  · rintro _ _ ⟨q1, rfl, rfl, rfl⟩
    refine WL.y rfl (Yld.pure tab_ok rfl) ?_
    refine WL.midF 7 (fun L' w' => ∃ q2 : Bool, L' = [(16, .bool q2), (0, .int .u8 c)] ∧ (((decide ((48 : Int) ≤ c)) && (decide (c ≤ (57 : Int)))) || ((decide ((65 : Int) ≤ c)) && (decide (c ≤ (90 : Int))))) = q2 ∧ w = w') ?_ (fun hQ => ?_)
    · rintro _ _ ⟨q2, rfl, rfl, rfl⟩
      refine WL.y rfl (Yld.pure tab_ok rfl) ?_
      refine WL.midF 7 (fun L' w' => ∃ q3 : Bool, L' = [(24, .bool q3), (0, .int .u8 c)] ∧ ((((decide ((48 : Int) ≤ c)) && (decide (c ≤ (57 : Int)))) || ((decide ((65 : Int) ≤ c)) && (decide (c ≤ (90 : Int))))) || ((decide ((97 : Int) ≤ c)) && (decide (c ≤ (122 : Int))))) = q3 ∧ w = w') ?_ (fun hQ => ?_)
      · rintro _ _ ⟨q3, rfl, rfl, rfl⟩
        refine WL.nil (WX.then_normal ?_)
        refine WC.cond rfl (fun b1 => ?_) (fun b1 => ?_)
        · replace H := H.1 (b1)
          refine WC.seq ?_
          refine WC.region ?_
          refine WL.y rfl (Yld.pure tab_ok rfl) ?_
          refine WL.nil (WX.then_normal ?_)
          refine WC.ret (WX.then_ret ?_)
          exact WX.ret1 rfl rfl ⟨rfl, true, rfl, H⟩
        · replace H := H.2 (b1)
          refine WC.skip (WX.then_normal ?_)
          refine WC.seq ?_
          refine WC.region ?_
          refine WL.y rfl (Yld.pure tab_ok rfl) ?_
          refine WL.call rfl rfl (W_strings_IndexByte H) ?_
          rintro _ _ ⟨rfl, t26, rfl, H⟩
          refine WL.y rfl (Yld.pure tab_ok rfl) ?_
          refine WL.y rfl (Yld.pure tab_ok rfl) ?_
          refine WL.nil (WX.then_normal ?_)
          refine WC.ret ?_
          exact WX.ret1 rfl rfl ⟨rfl, decide ((0 : Int) ≤ t26), rfl, H⟩
      · clear H
        rcases Bool.eq_false_or_eq_true (((decide ((48 : Int) ≤ c)) && (decide (c ≤ (57 : Int)))) || ((decide ((65 : Int) ≤ c)) && (decide (c ≤ (90 : Int))))) with b2 | b2
        · refine WL.gno rfl rfl (okb b2) rfl ?_
          refine WL.gno rfl rfl (okb b2) rfl ?_
          refine WL.gno rfl rfl (okb b2) rfl ?_
          refine WL.gun rfl rfl rfl rfl ?_
          refine WL.gun rfl rfl rfl rfl ?_
          refine WL.gno rfl rfl (okb b2) rfl ?_
          refine WL.y rfl (Yld.pickT (okb b2) rfl) ?_
          exact WL.weaken (by repeat (first | exact Sub.nil | refine Sub.cons rfl ?_)) (hQ _ _ ⟨true, rfl, by rw [b2] <;> rfl, rfl⟩)
        · refine WL.gyes rfl rfl (okb b2) rfl (Yld.pure tab_ok rfl) ?_
          refine WL.gyes rfl rfl (okb b2) rfl (Yld.pure tab_ok rfl) ?_
          refine WL.gyes rfl rfl (okb b2) rfl (Yld.pure tab_ok rfl) ?_
          rcases Bool.eq_false_or_eq_true (decide ((97 : Int) ≤ c)) with b3 | b3
          · refine WL.gyes rfl rfl (okb b3) rfl (Yld.pure tab_ok rfl) ?_
            refine WL.gyes rfl rfl (okb b3) rfl (Yld.pure tab_ok rfl) ?_
            refine WL.gyes rfl rfl (okb b2) rfl (Yld.pickT (okb b3) rfl) ?_
            refine WL.y rfl (Yld.pickF (okb b2) rfl) ?_
            exact WL.weaken (by repeat (first | exact Sub.nil | refine Sub.cons rfl ?_)) (hQ _ _ ⟨decide (c ≤ (122 : Int)), rfl, by rw [b2, b3] <;> rfl, rfl⟩)
          · refine WL.gno rfl rfl (okb b3) rfl ?_
            refine WL.gno rfl rfl (okb b3) rfl ?_
            refine WL.gyes rfl rfl (okb b2) rfl (Yld.pickF (okb b3) rfl) ?_
            refine WL.y rfl (Yld.pickF (okb b2) rfl) ?_
            exact WL.weaken (by repeat (first | exact Sub.nil | refine Sub.cons rfl ?_)) (hQ _ _ ⟨false, rfl, by rw [b2, b3] <;> rfl, rfl⟩)
    · clear H
      rcases Bool.eq_false_or_eq_true ((decide ((48 : Int) ≤ c)) && (decide (c ≤ (57 : Int)))) with b4 | b4
      · refine WL.gno rfl rfl (okb b4) rfl ?_
        refine WL.gno rfl rfl (okb b4) rfl ?_
        refine WL.gno rfl rfl (okb b4) rfl ?_
        refine WL.gun rfl rfl rfl rfl ?_
        refine WL.gun rfl rfl rfl rfl ?_
        refine WL.gno rfl rfl (okb b4) rfl ?_
        refine WL.y rfl (Yld.pickT (okb b4) rfl) ?_
        exact WL.weaken (by repeat (first | exact Sub.nil | refine Sub.cons rfl ?_)) (hQ _ _ ⟨true, rfl, by rw [b4] <;> rfl, rfl⟩)
      · refine WL.gyes rfl rfl (okb b4) rfl (Yld.pure tab_ok rfl) ?_
        refine WL.gyes rfl rfl (okb b4) rfl (Yld.pure tab_ok rfl) ?_
        refine WL.gyes rfl rfl (okb b4) rfl (Yld.pure tab_ok rfl) ?_
        rcases Bool.eq_false_or_eq_true (decide ((65 : Int) ≤ c)) with b5 | b5
        · refine WL.gyes rfl rfl (okb b5) rfl (Yld.pure tab_ok rfl) ?_
          refine WL.gyes rfl rfl (okb b5) rfl (Yld.pure tab_ok rfl) ?_
          refine WL.gyes rfl rfl (okb b4) rfl (Yld.pickT (okb b5) rfl) ?_
          refine WL.y rfl (Yld.pickF (okb b4) rfl) ?_
          exact WL.weaken (by repeat (first | exact Sub.nil | refine Sub.cons rfl ?_)) (hQ _ _ ⟨decide (c ≤ (90 : Int)), rfl, by rw [b4, b5] <;> rfl, rfl⟩)
        · refine WL.gno rfl rfl (okb b5) rfl ?_
          refine WL.gno rfl rfl (okb b5) rfl ?_
          refine WL.gyes rfl rfl (okb b4) rfl (Yld.pickF (okb b5) rfl) ?_
          refine WL.y rfl (Yld.pickF (okb b4) rfl) ?_
          exact WL.weaken (by repeat (first | exact Sub.nil | refine Sub.cons rfl ?_)) (hQ _ _ ⟨false, rfl, by rw [b4, b5] <;> rfl, rfl⟩)
  · clear H
    rcases Bool.eq_false_or_eq_true (decide ((48 : Int) ≤ c)) with b6 | b6
    · refine WL.gyes rfl rfl (okb b6) rfl (Yld.pure tab_ok rfl) ?_
      refine WL.gyes rfl rfl (okb b6) rfl (Yld.pure tab_ok rfl) ?_
      refine WL.y rfl (Yld.pickT (okb b6) rfl) ?_
      exact WL.weaken (by repeat (first | exact Sub.nil | refine Sub.cons rfl ?_)) (hQ _ _ ⟨decide (c ≤ (57 : Int)), rfl, by rw [b6] <;> rfl, rfl⟩)
    · refine WL.gno rfl rfl (okb b6) rfl ?_
      refine WL.gno rfl rfl (okb b6) rfl ?_
      refine WL.y rfl (Yld.pickF (okb b6) rfl) ?_
      exact WL.weaken (by repeat (first | exact Sub.nil | refine Sub.cons rfl ?_)) (hQ _ _ ⟨false, rfl, by rw [b6] <;> rfl, rfl⟩)

set_option maxHeartbeats 8000000 in
theorem W_path_dots {w : World} {s : List UInt8} {K : Bool → Prop} (H : M_path_dots s K) : Fn Tryd.prog 127 ⟨[vs s]⟩ w (fun v w' => w = w' ∧ ∃ (r : Bool), v = .bool r ∧ K r) := by
  unfold M_path_dots at H
  refine Fn.enter (by kernel_rfl) Tryd.func127 rfl Tryd.ntmps127 rfl ?_
  refine WC.seq ?_
  refine WC.region ?_
  refine WL.y rfl (Yld.pure tab_ok rfl) ?_
  refine WL.nil (WX.then_normal ?_)
  refine WC.seq ?_
  refine WC.region ?_
  refine WL.y rfl (Yld.pure tab_ok rfl) ?_
  refine WL.y rfl (Yld.pure tab_ok rfl) ?_
  refine WL.y rfl (Yld.pure tab_ok rfl) ?_
  refine WL.midF 3 (fun L' w' => ∃ q1 : Bool, L' = [(8, .bool q1), (0, vs s)] ∧ ((decide (s = ([] : List UInt8))) || (decide (s = ([46] : List UInt8)))) = q1 ∧ w = w') ?_ (fun hQ => ?_)
  · rintro _ _ ⟨q1, rfl, rfl, rfl⟩
    refine WL.y rfl (Yld.pure tab_ok rfl) ?_
    refine WL.midF 3 (fun L' w' => ∃ q2 : Bool, L' = [(12, .bool q2)] ∧ (((decide (s = ([] : List UInt8))) || (decide (s = ([46] : List UInt8)))) || (decide (s = ([46, 46] : List UInt8)))) = q2 ∧ w = w') ?_ (fun hQ => ?_)
    · rintro _ _ ⟨q2, rfl, rfl, rfl⟩
      refine WL.y rfl (Yld.pure tab_ok rfl) ?_
      refine WL.nil (WX.then_normal ?_)
      refine WC.ret ?_
      exact WX.ret1 rfl rfl ⟨rfl, ((decide (s = ([] : List UInt8))) || (decide (s = ([46] : List UInt8)))) || (decide (s = ([46, 46] : List UInt8))), rfl, H⟩
    · clear H
      rcases Bool.eq_false_or_eq_true ((decide (s = ([] : List UInt8))) || (decide (s = ([46] : List UInt8)))) with b1 | b1
      · refine WL.gno rfl rfl (okb b1) rfl ?_
        refine WL.gno rfl rfl (okb b1) rfl ?_
        refine WL.y rfl (Yld.pickT (okb b1) rfl) ?_
        exact WL.weaken (by repeat (first | exact Sub.nil | refine Sub.cons rfl ?_)) (hQ _ _ ⟨true, rfl, by rw [b1] <;> rfl, rfl⟩)
      · refine WL.gyes rfl rfl (okb b1) rfl (Yld.pure tab_ok rfl) ?_
        refine WL.gyes rfl rfl (okb b1) rfl (Yld.pure tab_ok rfl) ?_
        refine WL.y rfl (Yld.pickF (okb b1) rfl) ?_
        exact WL.weaken (by repeat (first | exact Sub.nil | refine Sub.cons rfl ?_)) (hQ _ _ ⟨decide (s = ([46, 46] : List UInt8)), rfl, by rw [b1] <;> rfl, rfl⟩)
  · clear H
    rcases Bool.eq_false_or_eq_true (decide (s = ([] : List UInt8))) with b2 | b2
    · refine WL.gno rfl rfl (okb b2) rfl ?_
      refine WL.gno rfl rfl (okb b2) rfl ?_
      refine WL.y rfl (Yld.pickT (okb b2) rfl) ?_
      exact WL.weaken (by repeat (first | exact Sub.nil | refine Sub.cons rfl ?_)) (hQ _ _ ⟨true, rfl, by rw [b2] <;> rfl, rfl⟩)
    · refine WL.gyes rfl rfl (okb b2) rfl (Yld.pure tab_ok rfl) ?_
      refine WL.gyes rfl rfl (okb b2) rfl (Yld.pure tab_ok rfl) ?_
      refine WL.y rfl (Yld.pickF (okb b2) rfl) ?_
      exact WL.weaken (by repeat (first | exact Sub.nil | refine Sub.cons rfl ?_)) (hQ _ _ ⟨decide (s = ([46] : List UInt8)), rfl, by rw [b2] <;> rfl, rfl⟩)

set_option maxHeartbeats 8000000 in
theorem W_path_fair {w : World} {s : List UInt8} {K : Bool → Prop} (H : M_path_fair s K) : Fn Tryd.prog 102 ⟨[vs s]⟩ w (fun v w' => w = w' ∧ ∃ (r : Bool), v = .bool r ∧ K r) := by
  unfold M_path_fair at H
  refine Fn.enter (by kernel_rfl) Tryd.func102 rfl Tryd.ntmps102 rfl ?_
  refine WC.seq ?_
  refine WC.region ?_
  refine WL.y rfl (Yld.pure tab_ok rfl) ?_
  refine WL.nil (WX.then_normal ?_)
  refine WC.seq ?_
  refine WC.seq ?_
  refine WC.region ?_
  refine WL.y rfl (Yld.pure tab_ok rfl) ?_
  refine WL.y rfl (Yld.pure tab_ok rfl) ?_
  refine WL.y rfl (Yld.pure tab_ok rfl) ?_
  refine WL.nil (WX.then_normal ?_)
  refine WC.block ?_
  obtain ⟨I1, mu1, h0_1, HR1⟩ := H
  refine WC.loopF (fun n' L' w' => ∃ (t6 : Int), n' = mu1 t6 ∧ L' = [(0, vs s), (5, .int .i64 (s.length : Int)), (6, .int .i64 t6)] ∧ I1 t6 ∧ w = w') _ _ ⟨(0 : Int), rfl, rfl, h0_1, rfl⟩ (by repeat (first | exact Sub.nil | refine Sub.cons rfl ?_)) ?_
  clear h0_1
  rintro _ _ _ ⟨t6, rfl, rfl, hI1, rfl⟩
  have H := HR1 t6 hI1
  refine WC.seq ?_
  refine WC.region ?_
  refine WL.y rfl (Yld.pure tab_ok rfl) ?_
  refine WL.nil (WX.then_normal ?_)
  refine WC.seq ?_
  refine WC.cond rfl (fun b1 => ?_) (fun b1 => ?_)
  · replace H := H.1 (of_decide_eq_true b1)
    refine WC.skip (WX.then_normal ?_)
    refine WC.seq ?_
    refine WC.block ?_
    refine WC.seq ?_
    refine WC.region ?_
    refine WL.y rfl (Yld.pure tab_ok rfl) ?_
    refine WL.y rfl (Yld.pure tab_ok rfl) ?_
    refine WL.nil (WX.then_normal ?_)
    refine WC.seq ?_
    refine WC.region ?_
    refine WL.y rfl (Yld.pure tab_ok rfl) ?_
    refine WL.y rfl (Yld.pure tab_ok rfl) ?_
    obtain ⟨h1, H⟩ := H
    refine WL.y rfl (Yld.sidx tab_ok rfl rfl rfl h1.1 h1.2) ?_
    refine WL.call rfl rfl (W_path_letter H) ?_
    rintro _ _ ⟨rfl, t12, rfl, H⟩
    refine WL.y rfl (Yld.pure tab_ok rfl) ?_
    refine WL.nil (WX.then_normal ?_)
    refine WC.cond rfl (fun b2 => ?_) (fun b2 => ?_)
    · replace H := H.1 (b2)
      refine WC.seq ?_
      refine WC.region ?_
      refine WL.y rfl (Yld.pure tab_ok rfl) ?_
      refine WL.nil (WX.then_normal ?_)
      refine WC.ret (WX.block_ret (WX.then_ret (WX.then_ret (WX.block_ret (WX.then_ret ?_)))))
      exact WX.ret1 rfl rfl ⟨rfl, false, rfl, H⟩
    · replace H := H.2 (b2)
      refine WC.skip (WX.block_normal (WX.then_normal ?_))
      refine WC.region ?_
      obtain ⟨h2, H⟩ := H
      refine WL.y rfl (Yld.add rfl rfl h2) ?_
      refine WL.y rfl (Yld.pure tab_ok rfl) ?_
      refine WL.nil ?_
      exact WX.roundF _ ⟨t6 + (1 : Int), rfl, rfl, H.1, rfl⟩ (by repeat (first | exact Sub.nil | refine Sub.cons rfl ?_)) H.2
  · replace H := H.2 (of_decide_eq_false b1)
    refine WC.exit (WX.then_exit (WX.then_exit (WX.block_same (WX.then_normal ?_))))
    refine WC.seq ?_
    refine WC.region ?_
    refine WL.y rfl (Yld.pure tab_ok rfl) ?_
    refine WL.call rfl rfl (W_path_dots H) ?_
    rintro _ _ ⟨rfl, t16, rfl, H⟩
    refine WL.y rfl (Yld.pure tab_ok rfl) ?_
    refine WL.y rfl (Yld.pure tab_ok rfl) ?_
    refine WL.nil (WX.then_normal ?_)
    refine WC.ret ?_
    exact WX.ret1 rfl rfl ⟨rfl, !t16, rfl, H⟩

set_option maxHeartbeats 8000000 in
theorem W_path_Valid {S : List Nat} {w : World} {p : List UInt8} {K : Bool → Prop} (hG : GOK S w) (hS100 : 100 ∈ S) (H : M_path_Valid p K) : Fn Tryd.prog 61 ⟨[vs p]⟩ w (fun v w' => w.grownBy w' none ∧ ∃ (r : Bool), v = .bool r ∧ K r) := by
  unfold M_path_Valid at H
  refine Fn.enter (by kernel_rfl) Tryd.func61 rfl Tryd.ntmps61 rfl ?_
  refine WC.seq ?_
  refine WC.region ?_
  refine WL.y rfl (Yld.pure tab_ok rfl) ?_
  refine WL.nil (WX.then_normal ?_)
  refine WC.seq ?_
  refine WC.seq ?_
  refine WC.region ?_
  refine WL.y rfl (Yld.pure tab_ok rfl) ?_
  refine WL.y rfl (Yld.pure tab_ok rfl) ?_
  refine WL.y rfl (Yld.pure tab_ok rfl) ?_
  refine WL.nil (WX.then_normal ?_)
  refine WC.cond rfl (fun b1 => ?_) (fun b1 => ?_)
  · replace H := H.1 (of_decide_eq_true b1)
    refine WC.seq ?_
    refine WC.region ?_
    refine WL.y rfl (Yld.pure tab_ok rfl) ?_
    refine WL.nil (WX.then_normal ?_)
    refine WC.ret (WX.then_ret ?_)
    exact WX.ret1 rfl rfl ⟨(gr_refl _ _), false, rfl, H⟩
  · replace H := H.2 (of_decide_eq_false b1)
    refine WC.skip (WX.then_normal ?_)
    refine WC.seq ?_
    refine WC.seq ?_
    refine WC.region ?_
    refine WL.y rfl (Yld.pure tab_ok rfl) ?_
    refine WL.call rfl rfl (W_strings_Split hG hS100 H) ?_
    rintro _ w1 ⟨hg1, t9, A_t9, c_t9, rfl, ht9, H⟩
    have hb1 := ht9.ge'
    have k1 := ht9.base (fun g hg => Nat.le_trans (Nat.le_refl _) (hb1 g hg))
    have gr1 := hg1
    refine WL.y rfl (Yld.pure tab_ok rfl) ?_
    refine WL.y rfl (Yld.pure tab_ok rfl) ?_
    refine WL.nil (WX.then_normal ?_)
    refine WC.block ?_
    obtain ⟨I1, mu1, h0_1, HR1⟩ := H
    refine WC.loopF (fun n' L' w' => ∃ (t11 : Int), n' = mu1 t11 ∧ L' = [(9, .slice A_t9 t9.length c_t9), (10, .int .i64 (t9.length : Int)), (11, .int .i64 t11)] ∧ I1 t11 ∧ w1 = w') _ _ ⟨(0 : Int), rfl, rfl, h0_1, rfl⟩ (by repeat (first | exact Sub.nil | refine Sub.cons rfl ?_)) ?_
    clear h0_1
    rintro _ _ _ ⟨t11, rfl, rfl, hI1, rfl⟩
    have H := HR1 t11 hI1
    refine WC.seq ?_
    refine WC.region ?_
    refine WL.y rfl (Yld.pure tab_ok rfl) ?_
    refine WL.nil (WX.then_normal ?_)
    refine WC.seq ?_
    refine WC.cond rfl (fun b2 => ?_) (fun b2 => ?_)
    · replace H := H.1 (of_decide_eq_true b2)
      refine WC.skip (WX.then_normal ?_)
      refine WC.seq ?_
      refine WC.block ?_
      refine WC.seq ?_
      refine WC.region ?_
      obtain ⟨h1, H⟩ := H
      refine WL.y rfl (Yld.iaddrW tab_ok k1.rd rfl rfl rfl rfl h1.1 h1.2) ?_
      refine WL.y rfl (Yld.iload [] tab_ok k1.rd rfl rfl (iltN h1 rfl)) ?_
      refine WL.y rfl (Yld.pure tab_ok rfl) ?_
      refine WL.nil (WX.then_normal ?_)
      refine WC.seq ?_
      refine WC.region ?_
      refine WL.y rfl (Yld.pure tab_ok rfl) ?_
      refine WL.call rfl rfl (W_path_fair H) ?_
      rintro _ _ ⟨rfl, t16, rfl, H⟩
      refine WL.y rfl (Yld.pure tab_ok rfl) ?_
      refine WL.nil (WX.then_normal ?_)
      refine WC.cond rfl (fun b3 => ?_) (fun b3 => ?_)
      · replace H := H.1 (b3)
        refine WC.seq ?_
        refine WC.region ?_
        refine WL.y rfl (Yld.pure tab_ok rfl) ?_
        refine WL.nil (WX.then_normal ?_)
        refine WC.ret (WX.block_ret (WX.then_ret (WX.then_ret (WX.block_ret (WX.then_ret ?_)))))
        exact WX.ret1 rfl rfl ⟨gr1, false, rfl, H⟩
      · replace H := H.2 (b3)
        refine WC.skip (WX.block_normal (WX.then_normal ?_))
        refine WC.region ?_
        obtain ⟨h2, H⟩ := H
        refine WL.y rfl (Yld.add rfl rfl h2) ?_
        refine WL.y rfl (Yld.pure tab_ok rfl) ?_
        refine WL.nil ?_
        exact WX.roundF _ ⟨t11 + (1 : Int), rfl, rfl, H.1, rfl⟩ (by repeat (first | exact Sub.nil | refine Sub.cons rfl ?_)) H.2
    · replace H := H.2 (of_decide_eq_false b2)
      refine WC.exit (WX.then_exit (WX.then_exit (WX.block_same (WX.then_normal ?_))))
      refine WC.seq ?_
      refine WC.region ?_
      refine WL.y rfl (Yld.pure tab_ok rfl) ?_
      refine WL.nil (WX.then_normal ?_)
      refine WC.ret ?_
      exact WX.ret1 rfl rfl ⟨gr1, true, rfl, H⟩

set_option maxHeartbeats 8000000 in
theorem W_smithyref_AmongTexts {w : World} {l : List (List UInt8)} {A_l : Option Addr} {c_l : Nat} {s : List UInt8} {n_l : Nat} {K : Int → Prop} (hl : Rd vs w A_l c_l l) (hn_l : n_l = l.length) (H : M_smithyref_AmongTexts l s K) : Fn Tryd.prog 17 ⟨[.slice A_l n_l c_l, vs s]⟩ w (fun v w' => w = w' ∧ ∃ (r : Int), v = .int .i64 r ∧ K r) := by
  subst hn_l
  unfold M_smithyref_AmongTexts at H
  refine Fn.enter (by kernel_rfl) Tryd.func17 rfl Tryd.ntmps17 rfl ?_
  replace H := H (Nat.le_trans hl.cap hl.max)
  refine WC.seq ?_
  refine WC.region ?_
  refine WL.y rfl (Yld.pure tab_ok rfl) ?_
  refine WL.nil (WX.then_normal ?_)
  refine WC.seq ?_
  refine WC.seq ?_
  refine WC.region ?_
  refine WL.y rfl (Yld.pure tab_ok rfl) ?_
  refine WL.nil (WX.then_normal ?_)
  refine WC.block ?_
  obtain ⟨I1, mu1, h0_1, HR1⟩ := H
  refine WC.loopF (fun n' L' w' => ∃ (i : Int), n' = mu1 i ∧ L' = [(0, .slice A_l l.length c_l), (1, vs s), (5, .int .i64 i)] ∧ I1 i ∧ w = w') _ _ ⟨(0 : Int), rfl, rfl, h0_1, rfl⟩ (by repeat (first | exact Sub.nil | refine Sub.cons rfl ?_)) ?_
  clear h0_1
  rintro _ _ _ ⟨i, rfl, rfl, hI1, rfl⟩
  have H := HR1 i hI1
  refine WC.seq ?_
  refine WC.seq ?_
  refine WC.region ?_
  refine WL.y rfl (Yld.pure tab_ok rfl) ?_
  refine WL.y rfl (Yld.pure tab_ok rfl) ?_
  refine WL.y rfl (Yld.pure tab_ok rfl) ?_
  refine WL.y rfl (Yld.pure tab_ok rfl) ?_
  refine WL.nil (WX.then_normal ?_)
  refine WC.cond rfl (fun b1 => ?_) (fun b1 => ?_)
  · replace H := H.1 (of_decide_eq_true b1)
    refine WC.skip (WX.then_normal ?_)
    refine WC.seq ?_
    refine WC.block ?_
    refine WC.seq ?_
    refine WC.region ?_
    refine WL.y rfl (Yld.pure tab_ok rfl) ?_
    refine WL.y rfl (Yld.pure tab_ok rfl) ?_
    obtain ⟨h1, H⟩ := H
    refine WL.y rfl (Yld.iaddrW tab_ok hl rfl rfl rfl rfl h1.1 h1.2) ?_
    refine WL.y rfl (Yld.iload [] tab_ok hl rfl rfl (iltN h1 rfl)) ?_
    refine WL.y rfl (Yld.pure tab_ok rfl) ?_
    refine WL.y rfl (Yld.pure tab_ok rfl) ?_
    refine WL.nil (WX.then_normal ?_)
    refine WC.cond rfl (fun b2 => ?_) (fun b2 => ?_)
    · replace H := H.1 (of_decide_eq_true b2)
      refine WC.seq ?_
      refine WC.region ?_
      refine WL.y rfl (Yld.pure tab_ok rfl) ?_
      refine WL.y rfl (Yld.pure tab_ok rfl) ?_
      refine WL.nil (WX.then_normal ?_)
      refine WC.ret (WX.block_ret (WX.then_ret (WX.then_ret (WX.block_ret (WX.then_ret ?_)))))
      exact WX.ret1 rfl rfl ⟨rfl, i, rfl, H⟩
    · replace H := H.2 (of_decide_eq_false b2)
      refine WC.skip (WX.block_normal (WX.then_normal ?_))
      refine WC.region ?_
      refine WL.y rfl (Yld.pure tab_ok rfl) ?_
      obtain ⟨h2, H⟩ := H
      refine WL.y rfl (Yld.add rfl rfl h2) ?_
      refine WL.y rfl (Yld.pure tab_ok rfl) ?_
      refine WL.nil ?_
      exact WX.roundF _ ⟨i + (1 : Int), rfl, rfl, H.1, rfl⟩ (by repeat (first | exact Sub.nil | refine Sub.cons rfl ?_)) H.2
  · replace H := H.2 (of_decide_eq_false b1)
    refine WC.exit (WX.then_exit (WX.then_exit (WX.block_same (WX.then_normal ?_))))
    refine WC.seq ?_
    refine WC.region ?_
    refine WL.y rfl (Yld.pure tab_ok rfl) ?_
    refine WL.nil (WX.then_normal ?_)
    refine WC.ret ?_
    exact WX.ret1 rfl rfl ⟨rfl, (-1 : Int), rfl, H⟩

set_option maxHeartbeats 8000000 in
theorem W_smithyworld_Number {w : World} {n : Int} {below : Int} {K : Int → Prop} (H : M_smithyworld_Number n below K) : Fn Tryd.prog 20 ⟨[.int .i64 n, .int .i64 below]⟩ w (fun v w' => w = w' ∧ ∃ (r : Int), v = .int .i64 r ∧ K r) := by
  unfold M_smithyworld_Number at H
  refine Fn.enter (by kernel_rfl) Tryd.func20 rfl Tryd.ntmps20 rfl ?_
  refine WC.seq ?_
  refine WC.region ?_
  refine WL.y rfl (Yld.pure tab_ok rfl) ?_
  refine WL.nil (WX.then_normal ?_)
  refine WC.seq ?_
  refine WC.region ?_
  refine WL.y rfl (Yld.pure tab_ok rfl) ?_
  refine WL.y rfl (Yld.pure tab_ok rfl) ?_
  obtain ⟨h1, H⟩ := H
  refine WL.y rfl (Yld.rem' rfl rfl h1) ?_
  refine WL.y rfl (Yld.pure tab_ok rfl) ?_
  obtain ⟨h2, H⟩ := H
  refine WL.y rfl (Yld.add rfl rfl h2) ?_
  refine WL.y rfl (Yld.pure tab_ok rfl) ?_
  obtain ⟨h3, H⟩ := H
  refine WL.y rfl (Yld.rem' rfl rfl h3) ?_
  refine WL.y rfl (Yld.pure tab_ok rfl) ?_
  refine WL.nil (WX.then_normal ?_)
  refine WC.ret ?_
  exact WX.ret1 rfl rfl ⟨rfl, ((n.tmod below) + below).tmod below, rfl, H⟩

end Go.Proofs.YtlonpmajnglmoaaDoor

 /- Printed by a program (wip/vg): what the functions mean, plainly, and their walks. -/
namespace Go.Proofs.YtlonpmajnglmoaaDoor
open Go Go.RowKit
attribute [local irreducible] WL WC WX WQ WK WJ Yld Eff Ef0 Fn
def M_smithysee_Alike (a : Er) (b : Er) (K : Bool → Prop) : Prop :=
 ((((decide (a = Er.ok)) || (decide (b = Er.ok))) = true → K ((decide (a = Er.ok)) && (decide (b = Er.ok)))) ∧
 (((decide (a = Er.ok)) || (decide (b = Er.ok))) = false → (¬ (a = Er.ok ∧ b = Er.ok) ∧ ((∀ p n, a ≠ Er.at_ p n) ∨ ∀ p n, b ≠ Er.at_ p n)) ∧
 K (decide (a = b))))

def M_smithyref_None (K : Int → Bool → Int → Bool → (List UInt8) → Prop) : Prop :=
 K (0 : Int) false (0 : Int) false ([] : List UInt8)

def M_smithyref_Bare (code : Int) (K : Int → Bool → Int → Bool → (List UInt8) → Prop) : Prop :=
 K code false (0 : Int) false ([] : List UInt8)

def M_smithyref_Placed (code : Int) (pos : Int) (K : Int → Bool → Int → Bool → (List UInt8) → Prop) : Prop :=
 ((code = (0 : Int) → M_smithyref_None (fun (t7_Code : Int) (t7_Placed : Bool) (t7_Pos : Int) (t7_Filed : Bool) (t7_File : List UInt8) =>
 K t7_Code t7_Placed t7_Pos t7_Filed t7_File)) ∧
 (¬ (code = (0 : Int)) → K code true pos false ([] : List UInt8)))

def M_smithyref_SameFault (a_Code : Int) (a_Placed : Bool) (a_Pos : Int) (a_Filed : Bool) (a_File : List UInt8) (b_Code : Int) (b_Placed : Bool) (b_Pos : Int) (b_Filed : Bool) (b_File : List UInt8) (K : Bool → Prop) : Prop :=
 K (((((decide (a_Code = b_Code)) && (a_Placed == b_Placed)) && (decide (a_Pos = b_Pos))) && (a_Filed == b_Filed)) && (decide (a_File = b_File)))

set_option maxHeartbeats 8000000 in
theorem W_smithysee_Alike {S : List Nat} {w : World} {v_a : Value} {a : Er} {v_b : Value} {b : Er} {K : Bool → Prop} (ha : ErrR S w v_a a) (hb : ErrR S w v_b b) (H : M_smithysee_Alike a b K) : Fn Tryd.prog 189 ⟨[v_a, v_b]⟩ w (fun v w' => w = w' ∧ ∃ (r : Bool), v = .bool r ∧ K r) := by
  unfold M_smithysee_Alike at H
  refine Fn.enter (by kernel_rfl) Tryd.func189 rfl Tryd.ntmps189 rfl ?_
  refine WC.seq ?_
  refine WC.region ?_
  refine WL.y rfl (Yld.pure tab_ok rfl) ?_
  refine WL.nil (WX.then_normal ?_)
  refine WC.seq ?_
  refine WC.seq ?_
  refine WC.region ?_
  refine WL.y rfl (Yld.pure tab_ok rfl) ?_
  refine WL.y rfl (Yld.erreql Tryd.underlying29 ha rfl) ?_
  refine WL.y rfl (Yld.pure tab_ok rfl) ?_
  refine WL.midF 3 (fun L' w' => ∃ q1 : Bool, L' = [(10, .bool q1), (0, v_a), (1, v_b)] ∧ ((decide (a = Er.ok)) || (decide (b = Er.ok))) = q1 ∧ w = w') ?_ (fun hQ => ?_)
  · rintro _ _ ⟨q1, rfl, rfl, rfl⟩
    refine WL.nil (WX.then_normal ?_)
    refine WC.cond rfl (fun b1 => ?_) (fun b1 => ?_)
    · replace H := H.1 (b1)
      refine WC.seq ?_
      refine WC.region ?_
      refine WL.y rfl (Yld.pure tab_ok rfl) ?_
      refine WL.y rfl (Yld.erreql Tryd.underlying29 ha rfl) ?_
      refine WL.y rfl (Yld.pure tab_ok rfl) ?_
      refine WL.midF 3 (fun L' w' => ∃ q2 : Bool, L' = [(16, .bool q2)] ∧ ((decide (a = Er.ok)) && (decide (b = Er.ok))) = q2 ∧ w = w') ?_ (fun hQ => ?_)
      · rintro _ _ ⟨q2, rfl, rfl, rfl⟩
        refine WL.y rfl (Yld.pure tab_ok rfl) ?_
        refine WL.nil (WX.then_normal ?_)
        refine WC.ret (WX.then_ret ?_)
        exact WX.ret1 rfl rfl ⟨rfl, (decide (a = Er.ok)) && (decide (b = Er.ok)), rfl, H⟩
      · clear H
        rcases Bool.eq_false_or_eq_true (decide (a = Er.ok)) with b2 | b2
        · refine WL.gyes rfl rfl (okb b2) rfl (Yld.pure tab_ok rfl) ?_
          refine WL.gyes rfl rfl (okb b2) rfl (Yld.erreql Tryd.underlying29 hb rfl) ?_
          refine WL.y rfl (Yld.pickT (okb b2) rfl) ?_
          exact WL.weaken (by repeat (first | exact Sub.nil | refine Sub.cons rfl ?_)) (hQ _ _ ⟨decide (b = Er.ok), rfl, by rw [b2] <;> rfl, rfl⟩)
        · refine WL.gno rfl rfl (okb b2) rfl ?_
          refine WL.gno rfl rfl (okb b2) rfl ?_
          refine WL.y rfl (Yld.pickF (okb b2) rfl) ?_
          exact WL.weaken (by repeat (first | exact Sub.nil | refine Sub.cons rfl ?_)) (hQ _ _ ⟨false, rfl, by rw [b2] <;> rfl, rfl⟩)
    · replace H := H.2 (b1)
      refine WC.skip (WX.then_normal ?_)
      refine WC.seq ?_
      refine WC.region ?_
      refine WL.y rfl (Yld.pure tab_ok rfl) ?_
      refine WL.y rfl (Yld.pure tab_ok rfl) ?_
      obtain ⟨h1, H⟩ := H
      refine WL.y rfl (Yld.erreqA ha hb h1 rfl rfl) ?_
      refine WL.y rfl (Yld.pure tab_ok rfl) ?_
      refine WL.nil (WX.then_normal ?_)
      refine WC.ret ?_
      exact WX.ret1 rfl rfl ⟨rfl, decide (a = b), rfl, H⟩
  · clear H
    rcases Bool.eq_false_or_eq_true (decide (a = Er.ok)) with b3 | b3
    · refine WL.gno rfl rfl (okb b3) rfl ?_
      refine WL.gno rfl rfl (okb b3) rfl ?_
      refine WL.y rfl (Yld.pickT (okb b3) rfl) ?_
      exact WL.weaken (by repeat (first | exact Sub.nil | refine Sub.cons rfl ?_)) (hQ _ _ ⟨true, rfl, by rw [b3] <;> rfl, rfl⟩)
    · refine WL.gyes rfl rfl (okb b3) rfl (Yld.pure tab_ok rfl) ?_
      refine WL.gyes rfl rfl (okb b3) rfl (Yld.erreql Tryd.underlying29 hb rfl) ?_
      refine WL.y rfl (Yld.pickF (okb b3) rfl) ?_
      exact WL.weaken (by repeat (first | exact Sub.nil | refine Sub.cons rfl ?_)) (hQ _ _ ⟨decide (b = Er.ok), rfl, by rw [b3] <;> rfl, rfl⟩)

set_option maxHeartbeats 8000000 in
theorem W_smithyref_None {w : World} {K : Int → Bool → Int → Bool → (List UInt8) → Prop} (H : M_smithyref_None  K) : Fn Tryd.prog 96 ⟨[]⟩ w (fun v w' => w.grownBy w' none ∧ ∃ (r_Code : Int), ∃ (r_Placed : Bool), ∃ (r_Pos : Int), ∃ (r_Filed : Bool), ∃ (r_File : List UInt8), v = .agg ⟨[.int .i64 r_Code, .bool r_Placed, .int .i64 r_Pos, .bool r_Filed, vs r_File]⟩ ∧ K r_Code r_Placed r_Pos r_Filed r_File) := by
  unfold M_smithyref_None at H
  refine Fn.enter (by kernel_rfl) Tryd.func96 rfl Tryd.ntmps96 rfl ?_
  refine WC.seq ?_
  refine WC.region ?_
  refine WL.alloc rfl zero105 (fun g1 w1 hB1 hg1 hl1 => ?_)
  have gr1 := hg1
  refine WL.nil (WX.then_normal ?_)
  refine WC.seq ?_
  refine WC.region ?_
  refine WL.y rfl (Yld.struct (us := [.int .i64 (0 : Int), .bool false, .int .i64 (0 : Int), .bool false, vs ([] : List UInt8)]) zero105 places105 rfl rfl) ?_
  refine WL.storeW (vs := [.int .i64 (0 : Int), .bool false, .int .i64 (0 : Int), .bool false, vs ([] : List UInt8)]) tab_ok rfl rfl rfl (all1c rfl (all1c rfl (all1c rfl (all1c rfl (all1c rfl all1n))))) hB1 rfl rfl (fun w2 hB2 hg2 => ?_)
  have gr2 := gr_mod gr1 hg2 (Ge.le (Ge.box hl1) (Nat.le_refl _))
  refine WL.nil (WX.then_normal ?_)
  refine WC.ret ?_
  exact WX.retc tab_ok rfl rfl rfl hB2 rfl ⟨gr2, (0 : Int), false, (0 : Int), false, ([] : List UInt8), rfl, H⟩

set_option maxHeartbeats 8000000 in
theorem W_smithyref_Bare {w : World} {code : Int} {K : Int → Bool → Int → Bool → (List UInt8) → Prop} (H : M_smithyref_Bare code K) : Fn Tryd.prog 71 ⟨[.int .i64 code]⟩ w (fun v w' => w.grownBy w' none ∧ ∃ (r_Code : Int), ∃ (r_Placed : Bool), ∃ (r_Pos : Int), ∃ (r_Filed : Bool), ∃ (r_File : List UInt8), v = .agg ⟨[.int .i64 r_Code, .bool r_Placed, .int .i64 r_Pos, .bool r_Filed, vs r_File]⟩ ∧ K r_Code r_Placed r_Pos r_Filed r_File) := by
  unfold M_smithyref_Bare at H
  refine Fn.enter (by kernel_rfl) Tryd.func71 rfl Tryd.ntmps71 rfl ?_
  refine WC.seq ?_
  refine WC.region ?_
  refine WL.alloc rfl zero105 (fun g1 w1 hB1 hg1 hl1 => ?_)
  have gr1 := hg1
  refine WL.nil (WX.then_normal ?_)
  refine WC.seq ?_
  refine WC.region ?_
  refine WL.y rfl (Yld.pure tab_ok rfl) ?_
  refine WL.y rfl (Yld.struct (us := [.int .i64 code, .bool false, .int .i64 (0 : Int), .bool false, vs ([] : List UInt8)]) zero105 places105 rfl rfl) ?_
  refine WL.storeW (vs := [.int .i64 code, .bool false, .int .i64 (0 : Int), .bool false, vs ([] : List UInt8)]) tab_ok rfl rfl rfl (all1c rfl (all1c rfl (all1c rfl (all1c rfl (all1c rfl all1n))))) hB1 rfl rfl (fun w2 hB2 hg2 => ?_)
  have gr2 := gr_mod gr1 hg2 (Ge.le (Ge.box hl1) (Nat.le_refl _))
  refine WL.nil (WX.then_normal ?_)
  refine WC.ret ?_
  exact WX.retc tab_ok rfl rfl rfl hB2 rfl ⟨gr2, code, false, (0 : Int), false, ([] : List UInt8), rfl, H⟩

set_option maxHeartbeats 8000000 in
theorem W_smithyref_Placed {w : World} {code : Int} {pos : Int} {K : Int → Bool → Int → Bool → (List UInt8) → Prop} (H : M_smithyref_Placed code pos K) : Fn Tryd.prog 55 ⟨[.int .i64 code, .int .i64 pos]⟩ w (fun v w' => w.grownBy w' none ∧ ∃ (r_Code : Int), ∃ (r_Placed : Bool), ∃ (r_Pos : Int), ∃ (r_Filed : Bool), ∃ (r_File : List UInt8), v = .agg ⟨[.int .i64 r_Code, .bool r_Placed, .int .i64 r_Pos, .bool r_Filed, vs r_File]⟩ ∧ K r_Code r_Placed r_Pos r_Filed r_File) := by
  unfold M_smithyref_Placed at H
  refine Fn.enter (by kernel_rfl) Tryd.func55 rfl Tryd.ntmps55 rfl ?_
  refine WC.seq ?_
  refine WC.region ?_
  refine WL.alloc rfl zero105 (fun g1 w1 hB1 hg1 hl1 => ?_)
  have gr1 := hg1
  refine WL.nil (WX.then_normal ?_)
  refine WC.seq ?_
  refine WC.seq ?_
  refine WC.region ?_
  refine WL.y rfl (Yld.pure tab_ok rfl) ?_
  refine WL.y rfl (Yld.pure tab_ok rfl) ?_
  refine WL.nil (WX.then_normal ?_)
  refine WC.cond rfl (fun b1 => ?_) (fun b1 => ?_)
  · replace H := H.1 (of_decide_eq_true b1)
    refine WC.seq ?_
    refine WC.region ?_
    refine WL.call rfl rfl (W_smithyref_None H) ?_
    rintro _ w2 ⟨hg2, t7_Code, t7_Placed, t7_Pos, t7_Filed, t7_File, rfl, H⟩
    have gr2 := gr_trans gr1 hg2
    have k1 := hB1.g0 hg2
    refine WL.storeW (vs := [.int .i64 t7_Code, .bool t7_Placed, .int .i64 t7_Pos, .bool t7_Filed, vs t7_File]) tab_ok rfl rfl rfl (all1c rfl (all1c rfl (all1c rfl (all1c rfl (all1c rfl all1n))))) k1 rfl rfl (fun w3 hB2 hg3 => ?_)
    have gr3 := gr_mod gr2 hg3 (Ge.le (Ge.box hl1) (Nat.le_refl _))
    refine WL.nil (WX.then_normal ?_)
    refine WC.ret (WX.then_ret ?_)
    exact WX.retc tab_ok rfl rfl rfl hB2 rfl ⟨gr3, t7_Code, t7_Placed, t7_Pos, t7_Filed, t7_File, rfl, H⟩
  · replace H := H.2 (of_decide_eq_false b1)
    refine WC.skip (WX.then_normal ?_)
    refine WC.seq ?_
    refine WC.region ?_
    refine WL.y rfl (Yld.pure tab_ok rfl) ?_
    refine WL.y rfl (Yld.pure tab_ok rfl) ?_
    refine WL.y rfl (Yld.struct (us := [.int .i64 code, .bool true, .int .i64 pos, .bool false, vs ([] : List UInt8)]) zero105 places105 rfl rfl) ?_
    refine WL.storeW (vs := [.int .i64 code, .bool true, .int .i64 pos, .bool false, vs ([] : List UInt8)]) tab_ok rfl rfl rfl (all1c rfl (all1c rfl (all1c rfl (all1c rfl (all1c rfl all1n))))) hB1 rfl rfl (fun w4 hB3 hg4 => ?_)
    have gr4 := gr_mod gr1 hg4 (Ge.le (Ge.box hl1) (Nat.le_refl _))
    refine WL.nil (WX.then_normal ?_)
    refine WC.ret ?_
    exact WX.retc tab_ok rfl rfl rfl hB3 rfl ⟨gr4, code, true, pos, false, ([] : List UInt8), rfl, H⟩

set_option maxHeartbeats 8000000 in
theorem W_smithyref_SameFault {w : World} {a_Code : Int} {a_Placed : Bool} {a_Pos : Int} {a_Filed : Bool} {a_File : List UInt8} {b_Code : Int} {b_Placed : Bool} {b_Pos : Int} {b_Filed : Bool} {b_File : List UInt8} {K : Bool → Prop} (H : M_smithyref_SameFault a_Code a_Placed a_Pos a_Filed a_File b_Code b_Placed b_Pos b_Filed b_File K) : Fn Tryd.prog 94 ⟨[.agg ⟨[.int .i64 a_Code, .bool a_Placed, .int .i64 a_Pos, .bool a_Filed, vs a_File]⟩, .agg ⟨[.int .i64 b_Code, .bool b_Placed, .int .i64 b_Pos, .bool b_Filed, vs b_File]⟩]⟩ w (fun v w' => w.grownBy w' none ∧ ∃ (r : Bool), v = .bool r ∧ K r) := by
  unfold M_smithyref_SameFault at H
  refine Fn.enter (by kernel_rfl) Tryd.func94 rfl Tryd.ntmps94 rfl ?_
  refine WC.seq ?_
  refine WC.region ?_
  refine WL.box (us := [.int .i64 a_Code, .bool a_Placed, .int .i64 a_Pos, .bool a_Filed, vs a_File]) rfl rfl rfl (fun g1 w1 hB1 hg1 hl1 => ?_)
  have gr1 := hg1
  refine WL.box (us := [.int .i64 b_Code, .bool b_Placed, .int .i64 b_Pos, .bool b_Filed, vs b_File]) rfl rfl rfl (fun g2 w2 hB2 hg2 hl2 => ?_)
  have gr2 := gr_trans gr1 hg2
  have k1 := hB1.g0 hg2
  refine WL.y rfl (Yld.pure tab_ok rfl) ?_
  refine WL.nil (WX.then_normal ?_)
  refine WC.seq ?_
  refine WC.region ?_
  refine WL.y rfl (Yld.pure tab_ok rfl) ?_
  refine WL.y rfl (Yld.bload tab_ok k1 rfl rfl rfl) ?_
  refine WL.y rfl (Yld.pure tab_ok rfl) ?_
  refine WL.y rfl (Yld.bload tab_ok hB2 rfl rfl rfl) ?_
  refine WL.y rfl (Yld.pure tab_ok rfl) ?_
  refine WL.y rfl (Yld.pure tab_ok rfl) ?_
  refine WL.midF 6 (fun L' w' => ∃ q1 : Bool, L' = [(16, .bool q1), (2, .pointer (some ⟨g1, 0, none⟩)), (3, .pointer (some ⟨g2, 0, none⟩))] ∧ ((decide (a_Code = b_Code)) && (a_Placed == b_Placed)) = q1 ∧ w2 = w') ?_ (fun hQ => ?_)
  · rintro _ _ ⟨q1, rfl, rfl, rfl⟩
    refine WL.y rfl (Yld.pure tab_ok rfl) ?_
    refine WL.midF 6 (fun L' w' => ∃ q2 : Bool, L' = [(23, .bool q2), (2, .pointer (some ⟨g1, 0, none⟩)), (3, .pointer (some ⟨g2, 0, none⟩))] ∧ (((decide (a_Code = b_Code)) && (a_Placed == b_Placed)) && (decide (a_Pos = b_Pos))) = q2 ∧ w2 = w') ?_ (fun hQ => ?_)
    · rintro _ _ ⟨q2, rfl, rfl, rfl⟩
      refine WL.y rfl (Yld.pure tab_ok rfl) ?_
      refine WL.midF 6 (fun L' w' => ∃ q3 : Bool, L' = [(30, .bool q3), (2, .pointer (some ⟨g1, 0, none⟩)), (3, .pointer (some ⟨g2, 0, none⟩))] ∧ ((((decide (a_Code = b_Code)) && (a_Placed == b_Placed)) && (decide (a_Pos = b_Pos))) && (a_Filed == b_Filed)) = q3 ∧ w2 = w') ?_ (fun hQ => ?_)
      · rintro _ _ ⟨q3, rfl, rfl, rfl⟩
        refine WL.y rfl (Yld.pure tab_ok rfl) ?_
        refine WL.midF 6 (fun L' w' => ∃ q4 : Bool, L' = [(37, .bool q4)] ∧ (((((decide (a_Code = b_Code)) && (a_Placed == b_Placed)) && (decide (a_Pos = b_Pos))) && (a_Filed == b_Filed)) && (decide (a_File = b_File))) = q4 ∧ w2 = w') ?_ (fun hQ => ?_)
        · rintro _ _ ⟨q4, rfl, rfl, rfl⟩
          refine WL.y rfl (Yld.pure tab_ok rfl) ?_
          refine WL.nil (WX.then_normal ?_)
          refine WC.ret ?_
          exact WX.ret1 rfl rfl ⟨gr2, ((((decide (a_Code = b_Code)) && (a_Placed == b_Placed)) && (decide (a_Pos = b_Pos))) && (a_Filed == b_Filed)) && (decide (a_File = b_File)), rfl, H⟩
        · clear H
          rcases Bool.eq_false_or_eq_true ((((decide (a_Code = b_Code)) && (a_Placed == b_Placed)) && (decide (a_Pos = b_Pos))) && (a_Filed == b_Filed)) with b1 | b1
          · refine WL.gyes rfl rfl (okb b1) rfl (Yld.pure tab_ok rfl) ?_
            refine WL.gyes rfl rfl (okb b1) rfl (Yld.bload tab_ok k1 rfl rfl rfl) ?_
            refine WL.gyes rfl rfl (okb b1) rfl (Yld.pure tab_ok rfl) ?_
            refine WL.gyes rfl rfl (okb b1) rfl (Yld.bload tab_ok hB2 rfl rfl rfl) ?_
            refine WL.gyes rfl rfl (okb b1) rfl (Yld.pure tab_ok rfl) ?_
            refine WL.y rfl (Yld.pickT (okb b1) rfl) ?_
            exact WL.weaken (by repeat (first | exact Sub.nil | refine Sub.cons rfl ?_)) (hQ _ _ ⟨decide (a_File = b_File), rfl, by rw [b1] <;> rfl, rfl⟩)
          · refine WL.gno rfl rfl (okb b1) rfl ?_
            refine WL.gno rfl rfl (okb b1) rfl ?_
            refine WL.gno rfl rfl (okb b1) rfl ?_
            refine WL.gno rfl rfl (okb b1) rfl ?_
            refine WL.gno rfl rfl (okb b1) rfl ?_
            refine WL.y rfl (Yld.pickF (okb b1) rfl) ?_
            exact WL.weaken (by repeat (first | exact Sub.nil | refine Sub.cons rfl ?_)) (hQ _ _ ⟨false, rfl, by rw [b1] <;> rfl, rfl⟩)
      · clear H
        rcases Bool.eq_false_or_eq_true (((decide (a_Code = b_Code)) && (a_Placed == b_Placed)) && (decide (a_Pos = b_Pos))) with b2 | b2
        · refine WL.gyes rfl rfl (okb b2) rfl (Yld.pure tab_ok rfl) ?_
          refine WL.gyes rfl rfl (okb b2) rfl (Yld.bload tab_ok k1 rfl rfl rfl) ?_
          refine WL.gyes rfl rfl (okb b2) rfl (Yld.pure tab_ok rfl) ?_
          refine WL.gyes rfl rfl (okb b2) rfl (Yld.bload tab_ok hB2 rfl rfl rfl) ?_
          refine WL.gyes rfl rfl (okb b2) rfl (Yld.beql Tryd.underlying4 rfl rfl) ?_
          refine WL.y rfl (Yld.pickT (okb b2) rfl) ?_
          exact WL.weaken (by repeat (first | exact Sub.nil | refine Sub.cons rfl ?_)) (hQ _ _ ⟨a_Filed == b_Filed, rfl, by rw [b2] <;> rfl, rfl⟩)
        · refine WL.gno rfl rfl (okb b2) rfl ?_
          refine WL.gno rfl rfl (okb b2) rfl ?_
          refine WL.gno rfl rfl (okb b2) rfl ?_
          refine WL.gno rfl rfl (okb b2) rfl ?_
          refine WL.gno rfl rfl (okb b2) rfl ?_
          refine WL.y rfl (Yld.pickF (okb b2) rfl) ?_
          exact WL.weaken (by repeat (first | exact Sub.nil | refine Sub.cons rfl ?_)) (hQ _ _ ⟨false, rfl, by rw [b2] <;> rfl, rfl⟩)
    · clear H
      rcases Bool.eq_false_or_eq_true ((decide (a_Code = b_Code)) && (a_Placed == b_Placed)) with b3 | b3
      · refine WL.gyes rfl rfl (okb b3) rfl (Yld.pure tab_ok rfl) ?_
        refine WL.gyes rfl rfl (okb b3) rfl (Yld.bload tab_ok k1 rfl rfl rfl) ?_
        refine WL.gyes rfl rfl (okb b3) rfl (Yld.pure tab_ok rfl) ?_
        refine WL.gyes rfl rfl (okb b3) rfl (Yld.bload tab_ok hB2 rfl rfl rfl) ?_
        refine WL.gyes rfl rfl (okb b3) rfl (Yld.pure tab_ok rfl) ?_
        refine WL.y rfl (Yld.pickT (okb b3) rfl) ?_
        exact WL.weaken (by repeat (first | exact Sub.nil | refine Sub.cons rfl ?_)) (hQ _ _ ⟨decide (a_Pos = b_Pos), rfl, by rw [b3] <;> rfl, rfl⟩)
      · refine WL.gno rfl rfl (okb b3) rfl ?_
        refine WL.gno rfl rfl (okb b3) rfl ?_
        refine WL.gno rfl rfl (okb b3) rfl ?_
        refine WL.gno rfl rfl (okb b3) rfl ?_
        refine WL.gno rfl rfl (okb b3) rfl ?_
        refine WL.y rfl (Yld.pickF (okb b3) rfl) ?_
        exact WL.weaken (by repeat (first | exact Sub.nil | refine Sub.cons rfl ?_)) (hQ _ _ ⟨false, rfl, by rw [b3] <;> rfl, rfl⟩)
  · clear H
    rcases Bool.eq_false_or_eq_true (decide (a_Code = b_Code)) with b4 | b4
    · refine WL.gyes rfl rfl (okb b4) rfl (Yld.pure tab_ok rfl) ?_
      refine WL.gyes rfl rfl (okb b4) rfl (Yld.bload tab_ok k1 rfl rfl rfl) ?_
      refine WL.gyes rfl rfl (okb b4) rfl (Yld.pure tab_ok rfl) ?_
      refine WL.gyes rfl rfl (okb b4) rfl (Yld.bload tab_ok hB2 rfl rfl rfl) ?_
      refine WL.gyes rfl rfl (okb b4) rfl (Yld.beql Tryd.underlying4 rfl rfl) ?_
      refine WL.y rfl (Yld.pickT (okb b4) rfl) ?_
      exact WL.weaken (by repeat (first | exact Sub.nil | refine Sub.cons rfl ?_)) (hQ _ _ ⟨a_Placed == b_Placed, rfl, by rw [b4] <;> rfl, rfl⟩)
    · refine WL.gno rfl rfl (okb b4) rfl ?_
      refine WL.gno rfl rfl (okb b4) rfl ?_
      refine WL.gno rfl rfl (okb b4) rfl ?_
      refine WL.gno rfl rfl (okb b4) rfl ?_
      refine WL.gno rfl rfl (okb b4) rfl ?_
      refine WL.y rfl (Yld.pickF (okb b4) rfl) ?_
      exact WL.weaken (by repeat (first | exact Sub.nil | refine Sub.cons rfl ?_)) (hQ _ _ ⟨false, rfl, by rw [b4] <;> rfl, rfl⟩)

end Go.Proofs.YtlonpmajnglmoaaDoor

 /- smithysee.sentinel: the number of one of api's variables. -/
namespace Go.Proofs.YtlonpmajnglmoaaDoor
open Go Go.RowKit
attribute [local irreducible] WL WC WX WQ WK WJ Yld Eff Ef0 Fn
theorem Rd.ofBlV {w : World} {g m : Nat} {e : TypeId} {us : List Value} (h : Bl w g e us) (hm : us.length = m) (hx : m ≤ maxLen) : Rd (fun v => v) w (some ⟨g, 0, none⟩) m us := ⟨by omega, hx, fun _ => ⟨_, rfl, fun j x hj => by
  have := h.cell j
  rw [hj] at this
  cases j with
  | zero => simpa [Addr.add] using this
  | succ j => simpa [Addr.add] using this⟩⟩
def errsV (S : List Nat) (w : World) (us : List Value) : Prop := us.length = 17 ∧ ∀ n, n < 17 → ErrR S w (us.getD n .nilIface) (.e n)
theorem sentinels_fn {S : List Nat} {w : World} (hG : GOK S w) (hS : ∀ n, n < 17 → n ∈ S) : Fn Tryd.prog 188 ⟨[]⟩ w fun v w' => w.grownBy w' none ∧ ∃ g us, v = .slice (some ⟨g, 0, none⟩) 17 17 ∧ Bl w' g 29 us ∧ errsV S w' us := by
  refine Fn.enter (by kernel_rfl) Tryd.func188 rfl Tryd.ntmps188 rfl ?_
  obtain ⟨v0, hc0, hE0⟩ := hG.get 0 8 (hS 0 (by omega)) rfl rfl
  obtain ⟨v1, hc1, hE1⟩ := hG.get 1 9 (hS 1 (by omega)) rfl rfl
  obtain ⟨v2, hc2, hE2⟩ := hG.get 2 10 (hS 2 (by omega)) rfl rfl
  obtain ⟨v3, hc3, hE3⟩ := hG.get 3 11 (hS 3 (by omega)) rfl rfl
  obtain ⟨v4, hc4, hE4⟩ := hG.get 4 2 (hS 4 (by omega)) rfl rfl
  obtain ⟨v5, hc5, hE5⟩ := hG.get 5 12 (hS 5 (by omega)) rfl rfl
  obtain ⟨v6, hc6, hE6⟩ := hG.get 6 5 (hS 6 (by omega)) rfl rfl
  obtain ⟨v7, hc7, hE7⟩ := hG.get 7 13 (hS 7 (by omega)) rfl rfl
  obtain ⟨v8, hc8, hE8⟩ := hG.get 8 14 (hS 8 (by omega)) rfl rfl
  obtain ⟨v9, hc9, hE9⟩ := hG.get 9 1 (hS 9 (by omega)) rfl rfl
  obtain ⟨v10, hc10, hE10⟩ := hG.get 10 4 (hS 10 (by omega)) rfl rfl
  obtain ⟨v11, hc11, hE11⟩ := hG.get 11 0 (hS 11 (by omega)) rfl rfl
  obtain ⟨v12, hc12, hE12⟩ := hG.get 12 6 (hS 12 (by omega)) rfl rfl
  obtain ⟨v13, hc13, hE13⟩ := hG.get 13 15 (hS 13 (by omega)) rfl rfl
  obtain ⟨v14, hc14, hE14⟩ := hG.get 14 16 (hS 14 (by omega)) rfl rfl
  obtain ⟨v15, hc15, hE15⟩ := hG.get 15 3 (hS 15 (by omega)) rfl rfl
  obtain ⟨v16, hc16, hE16⟩ := hG.get 16 17 (hS 16 (by omega)) rfl rfl
  repeat (first | refine WL.y rfl (Yld.cell tab_ok hc0 rfl rfl) ?_ | refine WL.y rfl (Yld.cell tab_ok hc1 rfl rfl) ?_ | refine WL.y rfl (Yld.cell tab_ok hc2 rfl rfl) ?_ | refine WL.y rfl (Yld.cell tab_ok hc3 rfl rfl) ?_ | refine WL.y rfl (Yld.cell tab_ok hc4 rfl rfl) ?_ | refine WL.y rfl (Yld.cell tab_ok hc5 rfl rfl) ?_ | refine WL.y rfl (Yld.cell tab_ok hc6 rfl rfl) ?_ | refine WL.y rfl (Yld.cell tab_ok hc7 rfl rfl) ?_ | refine WL.y rfl (Yld.cell tab_ok hc8 rfl rfl) ?_ | refine WL.y rfl (Yld.cell tab_ok hc9 rfl rfl) ?_ | refine WL.y rfl (Yld.cell tab_ok hc10 rfl rfl) ?_ | refine WL.y rfl (Yld.cell tab_ok hc11 rfl rfl) ?_ | refine WL.y rfl (Yld.cell tab_ok hc12 rfl rfl) ?_ | refine WL.y rfl (Yld.cell tab_ok hc13 rfl rfl) ?_ | refine WL.y rfl (Yld.cell tab_ok hc14 rfl rfl) ?_ | refine WL.y rfl (Yld.cell tab_ok hc15 rfl rfl) ?_ | refine WL.y rfl (Yld.cell tab_ok hc16 rfl rfl) ?_ | refine WC.seq ?_ | refine WC.block ?_ | refine WC.region ?_ | refine WL.nil ?_ | refine WX.then_normal ?_ | refine WC.skip ?_ | refine WC.exit ?_ | refine WC.ret ?_ | refine WX.then_exit ?_ | refine WX.then_ret ?_ | refine WX.block_normal ?_ | refine WX.block_ret ?_ | refine WX.block_same ?_ | refine WX.block_other rfl ?_ | refine WC.label ?_ | refine WC.scope ?_ | refine WX.scope_normal ?_ | refine WX.scope_ret ?_ | refine WX.scope_exit ?_ | refine WL.y rfl (Yld.add rfl rfl (by simp only [In]; omega)) ?_ | refine WL.y rfl (Yld.sub rfl rfl (by simp only [In]; omega)) ?_ | refine WL.y rfl (Yld.mul rfl rfl (by simp only [In]; omega)) ?_ | refine WL.y rfl (Yld.convB tab_ok rfl rfl rfl rfl) ?_ | refine WL.y rfl (Yld.conv tab_ok rfl rfl rfl (by simp only [In]; omega)) ?_ | refine WL.y rfl (Yld.quo rfl rfl (by omega) (by omega) (by simp only [In]; omega)) ?_ | refine WL.y rfl (Yld.rem rfl rfl (by omega) (by omega)) ?_ | refine WL.y rfl (Yld.shl rfl rfl (by omega)) ?_ | refine WL.y rfl (Yld.shr rfl rfl (by omega)) ?_ | refine WL.y rfl (Yld.pure tab_ok rfl) ?_ | refine WL.y rfl (Yld.fld flds_ok rfl rfl rfl) ?_ | refine WL.y rfl (Yld.max2 rfl rfl) ?_ | refine WL.y rfl (Yld.min2 rfl rfl) ?_ | refine WL.y rfl (Yld.pickV rfl rfl rfl) ?_ | refine WL.gno rfl rfl rfl rfl ?_ | refine WL.gyes rfl rfl rfl rfl (Yld.add rfl rfl (by simp only [In]; omega)) ?_ | refine WL.gyes rfl rfl rfl rfl (Yld.sub rfl rfl (by simp only [In]; omega)) ?_ | refine WL.gyes rfl rfl rfl rfl (Yld.mul rfl rfl (by simp only [In]; omega)) ?_ | refine WL.gyes rfl rfl rfl rfl (Yld.convB tab_ok rfl rfl rfl rfl) ?_ | refine WL.gyes rfl rfl rfl rfl (Yld.conv tab_ok rfl rfl rfl (by simp only [In]; omega)) ?_ | refine WL.gyes rfl rfl rfl rfl (Yld.quo rfl rfl (by omega) (by omega) (by simp only [In]; omega)) ?_ | refine WL.gyes rfl rfl rfl rfl (Yld.rem rfl rfl (by omega) (by omega)) ?_ | refine WL.gyes rfl rfl rfl rfl (Yld.shl rfl rfl (by omega)) ?_ | refine WL.gyes rfl rfl rfl rfl (Yld.shr rfl rfl (by omega)) ?_ | refine WL.gyes rfl rfl rfl rfl (Yld.pure tab_ok rfl) ?_ | refine WL.gyes rfl rfl rfl rfl (Yld.fld flds_ok rfl rfl rfl) ?_ | refine WL.gyes rfl rfl rfl rfl (Yld.max2 rfl rfl) ?_ | refine WL.gyes rfl rfl rfl rfl (Yld.min2 rfl rfl) ?_ | refine WL.gyes rfl rfl rfl rfl (Yld.pickV rfl rfl rfl) ?_ | refine WL.gun rfl rfl rfl rfl ?_)
  refine WL.lit tab_ok rfl rfl rfl (all1c (ErrR.one hE0) (all1c (ErrR.one hE1) (all1c (ErrR.one hE2) (all1c (ErrR.one hE3) (all1c (ErrR.one hE4) (all1c (ErrR.one hE5) (all1c (ErrR.one hE6) (all1c (ErrR.one hE7) (all1c (ErrR.one hE8) (all1c (ErrR.one hE9) (all1c (ErrR.one hE10) (all1c (ErrR.one hE11) (all1c (ErrR.one hE12) (all1c (ErrR.one hE13) (all1c (ErrR.one hE14) (all1c (ErrR.one hE15) (all1c (ErrR.one hE16) all1n))))))))))))))))) rfl (by omega) (fun g w' hB hg hl => ?_)
  repeat (first | refine WC.seq ?_ | refine WC.block ?_ | refine WC.region ?_ | refine WL.nil ?_ | refine WX.then_normal ?_ | refine WC.skip ?_ | refine WC.exit ?_ | refine WC.ret ?_ | refine WX.then_exit ?_ | refine WX.then_ret ?_ | refine WX.block_normal ?_ | refine WX.block_ret ?_ | refine WX.block_same ?_ | refine WX.block_other rfl ?_ | refine WC.label ?_ | refine WC.scope ?_ | refine WX.scope_normal ?_ | refine WX.scope_ret ?_ | refine WX.scope_exit ?_ | refine WL.y rfl (Yld.add rfl rfl (by simp only [In]; omega)) ?_ | refine WL.y rfl (Yld.sub rfl rfl (by simp only [In]; omega)) ?_ | refine WL.y rfl (Yld.mul rfl rfl (by simp only [In]; omega)) ?_ | refine WL.y rfl (Yld.convB tab_ok rfl rfl rfl rfl) ?_ | refine WL.y rfl (Yld.conv tab_ok rfl rfl rfl (by simp only [In]; omega)) ?_ | refine WL.y rfl (Yld.quo rfl rfl (by omega) (by omega) (by simp only [In]; omega)) ?_ | refine WL.y rfl (Yld.rem rfl rfl (by omega) (by omega)) ?_ | refine WL.y rfl (Yld.shl rfl rfl (by omega)) ?_ | refine WL.y rfl (Yld.shr rfl rfl (by omega)) ?_ | refine WL.y rfl (Yld.pure tab_ok rfl) ?_ | refine WL.y rfl (Yld.fld flds_ok rfl rfl rfl) ?_ | refine WL.y rfl (Yld.max2 rfl rfl) ?_ | refine WL.y rfl (Yld.min2 rfl rfl) ?_ | refine WL.y rfl (Yld.pickV rfl rfl rfl) ?_ | refine WL.gno rfl rfl rfl rfl ?_ | refine WL.gyes rfl rfl rfl rfl (Yld.add rfl rfl (by simp only [In]; omega)) ?_ | refine WL.gyes rfl rfl rfl rfl (Yld.sub rfl rfl (by simp only [In]; omega)) ?_ | refine WL.gyes rfl rfl rfl rfl (Yld.mul rfl rfl (by simp only [In]; omega)) ?_ | refine WL.gyes rfl rfl rfl rfl (Yld.convB tab_ok rfl rfl rfl rfl) ?_ | refine WL.gyes rfl rfl rfl rfl (Yld.conv tab_ok rfl rfl rfl (by simp only [In]; omega)) ?_ | refine WL.gyes rfl rfl rfl rfl (Yld.quo rfl rfl (by omega) (by omega) (by simp only [In]; omega)) ?_ | refine WL.gyes rfl rfl rfl rfl (Yld.rem rfl rfl (by omega) (by omega)) ?_ | refine WL.gyes rfl rfl rfl rfl (Yld.shl rfl rfl (by omega)) ?_ | refine WL.gyes rfl rfl rfl rfl (Yld.shr rfl rfl (by omega)) ?_ | refine WL.gyes rfl rfl rfl rfl (Yld.pure tab_ok rfl) ?_ | refine WL.gyes rfl rfl rfl rfl (Yld.fld flds_ok rfl rfl rfl) ?_ | refine WL.gyes rfl rfl rfl rfl (Yld.max2 rfl rfl) ?_ | refine WL.gyes rfl rfl rfl rfl (Yld.min2 rfl rfl) ?_ | refine WL.gyes rfl rfl rfl rfl (Yld.pickV rfl rfl rfl) ?_ | refine WL.gun rfl rfl rfl rfl ?_)
  refine WX.ret1 rfl rfl ⟨hg, g, _, rfl, hB, rfl, fun n hn => ?_⟩
  match n, hn with
  | 0, _ => exact hE0.grown hg
  | 1, _ => exact hE1.grown hg
  | 2, _ => exact hE2.grown hg
  | 3, _ => exact hE3.grown hg
  | 4, _ => exact hE4.grown hg
  | 5, _ => exact hE5.grown hg
  | 6, _ => exact hE6.grown hg
  | 7, _ => exact hE7.grown hg
  | 8, _ => exact hE8.grown hg
  | 9, _ => exact hE9.grown hg
  | 10, _ => exact hE10.grown hg
  | 11, _ => exact hE11.grown hg
  | 12, _ => exact hE12.grown hg
  | 13, _ => exact hE13.grown hg
  | 14, _ => exact hE14.grown hg
  | 15, _ => exact hE15.grown hg
  | 16, _ => exact hE16.grown hg
  | n + 17, hn => omega
def sentV : Er → Int
  | .ok => -1
  | .e n => 101 + n
  | .at_ _ _ => -1
def M_smithysee_sentinel (e : Er) (K : Int → Prop) : Prop := K (sentV e)
theorem W_smithysee_sentinel {S : List Nat} {w : World} {v : Value} {e : Er} {K : Int → Prop} (hG : GOK S w) (hS0 : 0 ∈ S) (hS1 : 1 ∈ S) (hS2 : 2 ∈ S) (hS3 : 3 ∈ S) (hS4 : 4 ∈ S) (hS5 : 5 ∈ S) (hS6 : 6 ∈ S) (hS7 : 7 ∈ S) (hS8 : 8 ∈ S) (hS9 : 9 ∈ S) (hS10 : 10 ∈ S) (hS11 : 11 ∈ S) (hS12 : 12 ∈ S) (hS13 : 13 ∈ S) (hS14 : 14 ∈ S) (hS15 : 15 ∈ S) (hS16 : 16 ∈ S) (hE : ErrR S w v e) (H : M_smithysee_sentinel e K) : Fn Tryd.prog 157 ⟨[v]⟩ w (fun r w' => w.grownBy w' none ∧ ∃ n : Int, r = .int .i64 n ∧ K n) := by
  have hS : ∀ n, n < 17 → n ∈ S := fun n hn => by
    match n, hn with
    | 0, _ => exact hS0
    | 1, _ => exact hS1
    | 2, _ => exact hS2
    | 3, _ => exact hS3
    | 4, _ => exact hS4
    | 5, _ => exact hS5
    | 6, _ => exact hS6
    | 7, _ => exact hS7
    | 8, _ => exact hS8
    | 9, _ => exact hS9
    | 10, _ => exact hS10
    | 11, _ => exact hS11
    | 12, _ => exact hS12
    | 13, _ => exact hS13
    | 14, _ => exact hS14
    | 15, _ => exact hS15
    | 16, _ => exact hS16
    | n + 17, hn => omega
  unfold M_smithysee_sentinel at H
  refine Fn.enter (by kernel_rfl) Tryd.func157 rfl Tryd.ntmps157 rfl ?_
  repeat (first | refine WC.seq ?_ | refine WC.block ?_ | refine WC.region ?_ | refine WL.nil ?_ | refine WX.then_normal ?_ | refine WC.skip ?_ | refine WC.exit ?_ | refine WC.ret ?_ | refine WX.then_exit ?_ | refine WX.then_ret ?_ | refine WX.block_normal ?_ | refine WX.block_ret ?_ | refine WX.block_same ?_ | refine WX.block_other rfl ?_ | refine WC.label ?_ | refine WC.scope ?_ | refine WX.scope_normal ?_ | refine WX.scope_ret ?_ | refine WX.scope_exit ?_ | refine WL.y rfl (Yld.add rfl rfl (by simp only [In]; omega)) ?_ | refine WL.y rfl (Yld.sub rfl rfl (by simp only [In]; omega)) ?_ | refine WL.y rfl (Yld.mul rfl rfl (by simp only [In]; omega)) ?_ | refine WL.y rfl (Yld.convB tab_ok rfl rfl rfl rfl) ?_ | refine WL.y rfl (Yld.conv tab_ok rfl rfl rfl (by simp only [In]; omega)) ?_ | refine WL.y rfl (Yld.quo rfl rfl (by omega) (by omega) (by simp only [In]; omega)) ?_ | refine WL.y rfl (Yld.rem rfl rfl (by omega) (by omega)) ?_ | refine WL.y rfl (Yld.shl rfl rfl (by omega)) ?_ | refine WL.y rfl (Yld.shr rfl rfl (by omega)) ?_ | refine WL.y rfl (Yld.pure tab_ok rfl) ?_ | refine WL.y rfl (Yld.fld flds_ok rfl rfl rfl) ?_ | refine WL.y rfl (Yld.max2 rfl rfl) ?_ | refine WL.y rfl (Yld.min2 rfl rfl) ?_ | refine WL.y rfl (Yld.pickV rfl rfl rfl) ?_ | refine WL.gno rfl rfl rfl rfl ?_ | refine WL.gyes rfl rfl rfl rfl (Yld.add rfl rfl (by simp only [In]; omega)) ?_ | refine WL.gyes rfl rfl rfl rfl (Yld.sub rfl rfl (by simp only [In]; omega)) ?_ | refine WL.gyes rfl rfl rfl rfl (Yld.mul rfl rfl (by simp only [In]; omega)) ?_ | refine WL.gyes rfl rfl rfl rfl (Yld.convB tab_ok rfl rfl rfl rfl) ?_ | refine WL.gyes rfl rfl rfl rfl (Yld.conv tab_ok rfl rfl rfl (by simp only [In]; omega)) ?_ | refine WL.gyes rfl rfl rfl rfl (Yld.quo rfl rfl (by omega) (by omega) (by simp only [In]; omega)) ?_ | refine WL.gyes rfl rfl rfl rfl (Yld.rem rfl rfl (by omega) (by omega)) ?_ | refine WL.gyes rfl rfl rfl rfl (Yld.shl rfl rfl (by omega)) ?_ | refine WL.gyes rfl rfl rfl rfl (Yld.shr rfl rfl (by omega)) ?_ | refine WL.gyes rfl rfl rfl rfl (Yld.pure tab_ok rfl) ?_ | refine WL.gyes rfl rfl rfl rfl (Yld.fld flds_ok rfl rfl rfl) ?_ | refine WL.gyes rfl rfl rfl rfl (Yld.max2 rfl rfl) ?_ | refine WL.gyes rfl rfl rfl rfl (Yld.min2 rfl rfl) ?_ | refine WL.gyes rfl rfl rfl rfl (Yld.pickV rfl rfl rfl) ?_ | refine WL.gun rfl rfl rfl rfl ?_)
  refine WL.call rfl rfl (sentinels_fn hG hS) ?_
  rintro _ w1 ⟨hg1, g, us, rfl, hB, hlen, hus⟩
  have hR := Rd.ofBlV hB hlen (by simp [maxLen])
  have hE1 := hE.grown hg1
  repeat (first | refine WC.seq ?_ | refine WC.block ?_ | refine WC.region ?_ | refine WL.nil ?_ | refine WX.then_normal ?_ | refine WC.skip ?_ | refine WC.exit ?_ | refine WC.ret ?_ | refine WX.then_exit ?_ | refine WX.then_ret ?_ | refine WX.block_normal ?_ | refine WX.block_ret ?_ | refine WX.block_same ?_ | refine WX.block_other rfl ?_ | refine WC.label ?_ | refine WC.scope ?_ | refine WX.scope_normal ?_ | refine WX.scope_ret ?_ | refine WX.scope_exit ?_ | refine WL.y rfl (Yld.add rfl rfl (by simp only [In]; omega)) ?_ | refine WL.y rfl (Yld.sub rfl rfl (by simp only [In]; omega)) ?_ | refine WL.y rfl (Yld.mul rfl rfl (by simp only [In]; omega)) ?_ | refine WL.y rfl (Yld.convB tab_ok rfl rfl rfl rfl) ?_ | refine WL.y rfl (Yld.conv tab_ok rfl rfl rfl (by simp only [In]; omega)) ?_ | refine WL.y rfl (Yld.quo rfl rfl (by omega) (by omega) (by simp only [In]; omega)) ?_ | refine WL.y rfl (Yld.rem rfl rfl (by omega) (by omega)) ?_ | refine WL.y rfl (Yld.shl rfl rfl (by omega)) ?_ | refine WL.y rfl (Yld.shr rfl rfl (by omega)) ?_ | refine WL.y rfl (Yld.pure tab_ok rfl) ?_ | refine WL.y rfl (Yld.fld flds_ok rfl rfl rfl) ?_ | refine WL.y rfl (Yld.max2 rfl rfl) ?_ | refine WL.y rfl (Yld.min2 rfl rfl) ?_ | refine WL.y rfl (Yld.pickV rfl rfl rfl) ?_ | refine WL.gno rfl rfl rfl rfl ?_ | refine WL.gyes rfl rfl rfl rfl (Yld.add rfl rfl (by simp only [In]; omega)) ?_ | refine WL.gyes rfl rfl rfl rfl (Yld.sub rfl rfl (by simp only [In]; omega)) ?_ | refine WL.gyes rfl rfl rfl rfl (Yld.mul rfl rfl (by simp only [In]; omega)) ?_ | refine WL.gyes rfl rfl rfl rfl (Yld.convB tab_ok rfl rfl rfl rfl) ?_ | refine WL.gyes rfl rfl rfl rfl (Yld.conv tab_ok rfl rfl rfl (by simp only [In]; omega)) ?_ | refine WL.gyes rfl rfl rfl rfl (Yld.quo rfl rfl (by omega) (by omega) (by simp only [In]; omega)) ?_ | refine WL.gyes rfl rfl rfl rfl (Yld.rem rfl rfl (by omega) (by omega)) ?_ | refine WL.gyes rfl rfl rfl rfl (Yld.shl rfl rfl (by omega)) ?_ | refine WL.gyes rfl rfl rfl rfl (Yld.shr rfl rfl (by omega)) ?_ | refine WL.gyes rfl rfl rfl rfl (Yld.pure tab_ok rfl) ?_ | refine WL.gyes rfl rfl rfl rfl (Yld.fld flds_ok rfl rfl rfl) ?_ | refine WL.gyes rfl rfl rfl rfl (Yld.max2 rfl rfl) ?_ | refine WL.gyes rfl rfl rfl rfl (Yld.min2 rfl rfl) ?_ | refine WL.gyes rfl rfl rfl rfl (Yld.pickV rfl rfl rfl) ?_ | refine WL.gun rfl rfl rfl rfl ?_)
  refine WC.loopF (fun n' L' w' => ∃ i : Nat, n' = 17 - i ∧ L' = [(4, vi i), (3, .slice (some ⟨g, 0, none⟩) 17 17), (0, v)] ∧ i ≤ 17 ∧ (∀ j, j < i → e ≠ .e j) ∧ w1 = w') _ _ ⟨0, rfl, rfl, by omega, fun j hj => by omega, rfl⟩ (by repeat (first | exact Sub.nil | refine Sub.cons rfl ?_)) ?_
  rintro _ _ _ ⟨i, rfl, rfl, hi, hne, rfl⟩
  repeat (first | refine WC.seq ?_ | refine WC.block ?_ | refine WC.region ?_ | refine WL.nil ?_ | refine WX.then_normal ?_ | refine WC.skip ?_ | refine WC.exit ?_ | refine WC.ret ?_ | refine WX.then_exit ?_ | refine WX.then_ret ?_ | refine WX.block_normal ?_ | refine WX.block_ret ?_ | refine WX.block_same ?_ | refine WX.block_other rfl ?_ | refine WC.label ?_ | refine WC.scope ?_ | refine WX.scope_normal ?_ | refine WX.scope_ret ?_ | refine WX.scope_exit ?_ | refine WL.y rfl (Yld.add rfl rfl (by simp only [In]; omega)) ?_ | refine WL.y rfl (Yld.sub rfl rfl (by simp only [In]; omega)) ?_ | refine WL.y rfl (Yld.mul rfl rfl (by simp only [In]; omega)) ?_ | refine WL.y rfl (Yld.convB tab_ok rfl rfl rfl rfl) ?_ | refine WL.y rfl (Yld.conv tab_ok rfl rfl rfl (by simp only [In]; omega)) ?_ | refine WL.y rfl (Yld.quo rfl rfl (by omega) (by omega) (by simp only [In]; omega)) ?_ | refine WL.y rfl (Yld.rem rfl rfl (by omega) (by omega)) ?_ | refine WL.y rfl (Yld.shl rfl rfl (by omega)) ?_ | refine WL.y rfl (Yld.shr rfl rfl (by omega)) ?_ | refine WL.y rfl (Yld.pure tab_ok rfl) ?_ | refine WL.y rfl (Yld.fld flds_ok rfl rfl rfl) ?_ | refine WL.y rfl (Yld.max2 rfl rfl) ?_ | refine WL.y rfl (Yld.min2 rfl rfl) ?_ | refine WL.y rfl (Yld.pickV rfl rfl rfl) ?_ | refine WL.gno rfl rfl rfl rfl ?_ | refine WL.gyes rfl rfl rfl rfl (Yld.add rfl rfl (by simp only [In]; omega)) ?_ | refine WL.gyes rfl rfl rfl rfl (Yld.sub rfl rfl (by simp only [In]; omega)) ?_ | refine WL.gyes rfl rfl rfl rfl (Yld.mul rfl rfl (by simp only [In]; omega)) ?_ | refine WL.gyes rfl rfl rfl rfl (Yld.convB tab_ok rfl rfl rfl rfl) ?_ | refine WL.gyes rfl rfl rfl rfl (Yld.conv tab_ok rfl rfl rfl (by simp only [In]; omega)) ?_ | refine WL.gyes rfl rfl rfl rfl (Yld.quo rfl rfl (by omega) (by omega) (by simp only [In]; omega)) ?_ | refine WL.gyes rfl rfl rfl rfl (Yld.rem rfl rfl (by omega) (by omega)) ?_ | refine WL.gyes rfl rfl rfl rfl (Yld.shl rfl rfl (by omega)) ?_ | refine WL.gyes rfl rfl rfl rfl (Yld.shr rfl rfl (by omega)) ?_ | refine WL.gyes rfl rfl rfl rfl (Yld.pure tab_ok rfl) ?_ | refine WL.gyes rfl rfl rfl rfl (Yld.fld flds_ok rfl rfl rfl) ?_ | refine WL.gyes rfl rfl rfl rfl (Yld.max2 rfl rfl) ?_ | refine WL.gyes rfl rfl rfl rfl (Yld.min2 rfl rfl) ?_ | refine WL.gyes rfl rfl rfl rfl (Yld.pickV rfl rfl rfl) ?_ | refine WL.gun rfl rfl rfl rfl ?_)
  refine WC.cond rfl (fun h => ?_) (fun h => ?_)
  · simp only [decide_eq_true_eq] at h
    have hi' : i < 17 := by omega
    repeat (first | refine WL.y rfl (Yld.iaddrN tab_ok hR rfl rfl hlen.symm rfl (by omega)) ?_ | refine WL.y rfl (Yld.iload .nilIface tab_ok hR rfl rfl (by omega)) ?_ | refine WC.seq ?_ | refine WC.block ?_ | refine WC.region ?_ | refine WL.nil ?_ | refine WX.then_normal ?_ | refine WC.skip ?_ | refine WC.exit ?_ | refine WC.ret ?_ | refine WX.then_exit ?_ | refine WX.then_ret ?_ | refine WX.block_normal ?_ | refine WX.block_ret ?_ | refine WX.block_same ?_ | refine WX.block_other rfl ?_ | refine WC.label ?_ | refine WC.scope ?_ | refine WX.scope_normal ?_ | refine WX.scope_ret ?_ | refine WX.scope_exit ?_ | refine WL.y rfl (Yld.add rfl rfl (by simp only [In]; omega)) ?_ | refine WL.y rfl (Yld.sub rfl rfl (by simp only [In]; omega)) ?_ | refine WL.y rfl (Yld.mul rfl rfl (by simp only [In]; omega)) ?_ | refine WL.y rfl (Yld.convB tab_ok rfl rfl rfl rfl) ?_ | refine WL.y rfl (Yld.conv tab_ok rfl rfl rfl (by simp only [In]; omega)) ?_ | refine WL.y rfl (Yld.quo rfl rfl (by omega) (by omega) (by simp only [In]; omega)) ?_ | refine WL.y rfl (Yld.rem rfl rfl (by omega) (by omega)) ?_ | refine WL.y rfl (Yld.shl rfl rfl (by omega)) ?_ | refine WL.y rfl (Yld.shr rfl rfl (by omega)) ?_ | refine WL.y rfl (Yld.pure tab_ok rfl) ?_ | refine WL.y rfl (Yld.fld flds_ok rfl rfl rfl) ?_ | refine WL.y rfl (Yld.max2 rfl rfl) ?_ | refine WL.y rfl (Yld.min2 rfl rfl) ?_ | refine WL.y rfl (Yld.pickV rfl rfl rfl) ?_ | refine WL.gno rfl rfl rfl rfl ?_ | refine WL.gyes rfl rfl rfl rfl (Yld.add rfl rfl (by simp only [In]; omega)) ?_ | refine WL.gyes rfl rfl rfl rfl (Yld.sub rfl rfl (by simp only [In]; omega)) ?_ | refine WL.gyes rfl rfl rfl rfl (Yld.mul rfl rfl (by simp only [In]; omega)) ?_ | refine WL.gyes rfl rfl rfl rfl (Yld.convB tab_ok rfl rfl rfl rfl) ?_ | refine WL.gyes rfl rfl rfl rfl (Yld.conv tab_ok rfl rfl rfl (by simp only [In]; omega)) ?_ | refine WL.gyes rfl rfl rfl rfl (Yld.quo rfl rfl (by omega) (by omega) (by simp only [In]; omega)) ?_ | refine WL.gyes rfl rfl rfl rfl (Yld.rem rfl rfl (by omega) (by omega)) ?_ | refine WL.gyes rfl rfl rfl rfl (Yld.shl rfl rfl (by omega)) ?_ | refine WL.gyes rfl rfl rfl rfl (Yld.shr rfl rfl (by omega)) ?_ | refine WL.gyes rfl rfl rfl rfl (Yld.pure tab_ok rfl) ?_ | refine WL.gyes rfl rfl rfl rfl (Yld.fld flds_ok rfl rfl rfl) ?_ | refine WL.gyes rfl rfl rfl rfl (Yld.max2 rfl rfl) ?_ | refine WL.gyes rfl rfl rfl rfl (Yld.min2 rfl rfl) ?_ | refine WL.gyes rfl rfl rfl rfl (Yld.pickV rfl rfl rfl) ?_ | refine WL.gun rfl rfl rfl rfl ?_)
    refine WL.call rfl rfl (W_smithysee_Alike (K := fun b => b = decide (e = .e i)) hE1 (hus i hi') ?_) ?_
    · unfold M_smithysee_Alike
      cases e <;> simp
    rintro _ _ ⟨rfl, b, rfl, hb⟩
    subst hb
    refine WL.nil ?_
    repeat (first | refine WC.seq ?_ | refine WC.block ?_ | refine WC.region ?_ | refine WL.nil ?_ | refine WX.then_normal ?_ | refine WC.skip ?_ | refine WC.exit ?_ | refine WC.ret ?_ | refine WX.then_exit ?_ | refine WX.then_ret ?_ | refine WX.block_normal ?_ | refine WX.block_ret ?_ | refine WX.block_same ?_ | refine WX.block_other rfl ?_ | refine WC.label ?_ | refine WC.scope ?_ | refine WX.scope_normal ?_ | refine WX.scope_ret ?_ | refine WX.scope_exit ?_ | refine WL.y rfl (Yld.add rfl rfl (by simp only [In]; omega)) ?_ | refine WL.y rfl (Yld.sub rfl rfl (by simp only [In]; omega)) ?_ | refine WL.y rfl (Yld.mul rfl rfl (by simp only [In]; omega)) ?_ | refine WL.y rfl (Yld.convB tab_ok rfl rfl rfl rfl) ?_ | refine WL.y rfl (Yld.conv tab_ok rfl rfl rfl (by simp only [In]; omega)) ?_ | refine WL.y rfl (Yld.quo rfl rfl (by omega) (by omega) (by simp only [In]; omega)) ?_ | refine WL.y rfl (Yld.rem rfl rfl (by omega) (by omega)) ?_ | refine WL.y rfl (Yld.shl rfl rfl (by omega)) ?_ | refine WL.y rfl (Yld.shr rfl rfl (by omega)) ?_ | refine WL.y rfl (Yld.pure tab_ok rfl) ?_ | refine WL.y rfl (Yld.fld flds_ok rfl rfl rfl) ?_ | refine WL.y rfl (Yld.max2 rfl rfl) ?_ | refine WL.y rfl (Yld.min2 rfl rfl) ?_ | refine WL.y rfl (Yld.pickV rfl rfl rfl) ?_ | refine WL.gno rfl rfl rfl rfl ?_ | refine WL.gyes rfl rfl rfl rfl (Yld.add rfl rfl (by simp only [In]; omega)) ?_ | refine WL.gyes rfl rfl rfl rfl (Yld.sub rfl rfl (by simp only [In]; omega)) ?_ | refine WL.gyes rfl rfl rfl rfl (Yld.mul rfl rfl (by simp only [In]; omega)) ?_ | refine WL.gyes rfl rfl rfl rfl (Yld.convB tab_ok rfl rfl rfl rfl) ?_ | refine WL.gyes rfl rfl rfl rfl (Yld.conv tab_ok rfl rfl rfl (by simp only [In]; omega)) ?_ | refine WL.gyes rfl rfl rfl rfl (Yld.quo rfl rfl (by omega) (by omega) (by simp only [In]; omega)) ?_ | refine WL.gyes rfl rfl rfl rfl (Yld.rem rfl rfl (by omega) (by omega)) ?_ | refine WL.gyes rfl rfl rfl rfl (Yld.shl rfl rfl (by omega)) ?_ | refine WL.gyes rfl rfl rfl rfl (Yld.shr rfl rfl (by omega)) ?_ | refine WL.gyes rfl rfl rfl rfl (Yld.pure tab_ok rfl) ?_ | refine WL.gyes rfl rfl rfl rfl (Yld.fld flds_ok rfl rfl rfl) ?_ | refine WL.gyes rfl rfl rfl rfl (Yld.max2 rfl rfl) ?_ | refine WL.gyes rfl rfl rfl rfl (Yld.min2 rfl rfl) ?_ | refine WL.gyes rfl rfl rfl rfl (Yld.pickV rfl rfl rfl) ?_ | refine WL.gun rfl rfl rfl rfl ?_)
    refine WC.cond rfl (fun h2 => ?_) (fun h2 => ?_)
    · have h3 : e = .e i := of_decide_eq_true h2
      subst h3
      repeat (first | refine WC.seq ?_ | refine WC.block ?_ | refine WC.region ?_ | refine WL.nil ?_ | refine WX.then_normal ?_ | refine WC.skip ?_ | refine WC.exit ?_ | refine WC.ret ?_ | refine WX.then_exit ?_ | refine WX.then_ret ?_ | refine WX.block_normal ?_ | refine WX.block_ret ?_ | refine WX.block_same ?_ | refine WX.block_other rfl ?_ | refine WC.label ?_ | refine WC.scope ?_ | refine WX.scope_normal ?_ | refine WX.scope_ret ?_ | refine WX.scope_exit ?_ | refine WL.y rfl (Yld.add rfl rfl (by simp only [In]; omega)) ?_ | refine WL.y rfl (Yld.sub rfl rfl (by simp only [In]; omega)) ?_ | refine WL.y rfl (Yld.mul rfl rfl (by simp only [In]; omega)) ?_ | refine WL.y rfl (Yld.convB tab_ok rfl rfl rfl rfl) ?_ | refine WL.y rfl (Yld.conv tab_ok rfl rfl rfl (by simp only [In]; omega)) ?_ | refine WL.y rfl (Yld.quo rfl rfl (by omega) (by omega) (by simp only [In]; omega)) ?_ | refine WL.y rfl (Yld.rem rfl rfl (by omega) (by omega)) ?_ | refine WL.y rfl (Yld.shl rfl rfl (by omega)) ?_ | refine WL.y rfl (Yld.shr rfl rfl (by omega)) ?_ | refine WL.y rfl (Yld.pure tab_ok rfl) ?_ | refine WL.y rfl (Yld.fld flds_ok rfl rfl rfl) ?_ | refine WL.y rfl (Yld.max2 rfl rfl) ?_ | refine WL.y rfl (Yld.min2 rfl rfl) ?_ | refine WL.y rfl (Yld.pickV rfl rfl rfl) ?_ | refine WL.gno rfl rfl rfl rfl ?_ | refine WL.gyes rfl rfl rfl rfl (Yld.add rfl rfl (by simp only [In]; omega)) ?_ | refine WL.gyes rfl rfl rfl rfl (Yld.sub rfl rfl (by simp only [In]; omega)) ?_ | refine WL.gyes rfl rfl rfl rfl (Yld.mul rfl rfl (by simp only [In]; omega)) ?_ | refine WL.gyes rfl rfl rfl rfl (Yld.convB tab_ok rfl rfl rfl rfl) ?_ | refine WL.gyes rfl rfl rfl rfl (Yld.conv tab_ok rfl rfl rfl (by simp only [In]; omega)) ?_ | refine WL.gyes rfl rfl rfl rfl (Yld.quo rfl rfl (by omega) (by omega) (by simp only [In]; omega)) ?_ | refine WL.gyes rfl rfl rfl rfl (Yld.rem rfl rfl (by omega) (by omega)) ?_ | refine WL.gyes rfl rfl rfl rfl (Yld.shl rfl rfl (by omega)) ?_ | refine WL.gyes rfl rfl rfl rfl (Yld.shr rfl rfl (by omega)) ?_ | refine WL.gyes rfl rfl rfl rfl (Yld.pure tab_ok rfl) ?_ | refine WL.gyes rfl rfl rfl rfl (Yld.fld flds_ok rfl rfl rfl) ?_ | refine WL.gyes rfl rfl rfl rfl (Yld.max2 rfl rfl) ?_ | refine WL.gyes rfl rfl rfl rfl (Yld.min2 rfl rfl) ?_ | refine WL.gyes rfl rfl rfl rfl (Yld.pickV rfl rfl rfl) ?_ | refine WL.gun rfl rfl rfl rfl ?_)
      exact WX.ret1 rfl rfl ⟨hg1, _, rfl, H⟩
    · have h3 : e ≠ .e i := of_decide_eq_false h2
      repeat (first | refine WC.seq ?_ | refine WC.block ?_ | refine WC.region ?_ | refine WL.nil ?_ | refine WX.then_normal ?_ | refine WC.skip ?_ | refine WC.exit ?_ | refine WC.ret ?_ | refine WX.then_exit ?_ | refine WX.then_ret ?_ | refine WX.block_normal ?_ | refine WX.block_ret ?_ | refine WX.block_same ?_ | refine WX.block_other rfl ?_ | refine WC.label ?_ | refine WC.scope ?_ | refine WX.scope_normal ?_ | refine WX.scope_ret ?_ | refine WX.scope_exit ?_ | refine WL.y rfl (Yld.add rfl rfl (by simp only [In]; omega)) ?_ | refine WL.y rfl (Yld.sub rfl rfl (by simp only [In]; omega)) ?_ | refine WL.y rfl (Yld.mul rfl rfl (by simp only [In]; omega)) ?_ | refine WL.y rfl (Yld.convB tab_ok rfl rfl rfl rfl) ?_ | refine WL.y rfl (Yld.conv tab_ok rfl rfl rfl (by simp only [In]; omega)) ?_ | refine WL.y rfl (Yld.quo rfl rfl (by omega) (by omega) (by simp only [In]; omega)) ?_ | refine WL.y rfl (Yld.rem rfl rfl (by omega) (by omega)) ?_ | refine WL.y rfl (Yld.shl rfl rfl (by omega)) ?_ | refine WL.y rfl (Yld.shr rfl rfl (by omega)) ?_ | refine WL.y rfl (Yld.pure tab_ok rfl) ?_ | refine WL.y rfl (Yld.fld flds_ok rfl rfl rfl) ?_ | refine WL.y rfl (Yld.max2 rfl rfl) ?_ | refine WL.y rfl (Yld.min2 rfl rfl) ?_ | refine WL.y rfl (Yld.pickV rfl rfl rfl) ?_ | refine WL.gno rfl rfl rfl rfl ?_ | refine WL.gyes rfl rfl rfl rfl (Yld.add rfl rfl (by simp only [In]; omega)) ?_ | refine WL.gyes rfl rfl rfl rfl (Yld.sub rfl rfl (by simp only [In]; omega)) ?_ | refine WL.gyes rfl rfl rfl rfl (Yld.mul rfl rfl (by simp only [In]; omega)) ?_ | refine WL.gyes rfl rfl rfl rfl (Yld.convB tab_ok rfl rfl rfl rfl) ?_ | refine WL.gyes rfl rfl rfl rfl (Yld.conv tab_ok rfl rfl rfl (by simp only [In]; omega)) ?_ | refine WL.gyes rfl rfl rfl rfl (Yld.quo rfl rfl (by omega) (by omega) (by simp only [In]; omega)) ?_ | refine WL.gyes rfl rfl rfl rfl (Yld.rem rfl rfl (by omega) (by omega)) ?_ | refine WL.gyes rfl rfl rfl rfl (Yld.shl rfl rfl (by omega)) ?_ | refine WL.gyes rfl rfl rfl rfl (Yld.shr rfl rfl (by omega)) ?_ | refine WL.gyes rfl rfl rfl rfl (Yld.pure tab_ok rfl) ?_ | refine WL.gyes rfl rfl rfl rfl (Yld.fld flds_ok rfl rfl rfl) ?_ | refine WL.gyes rfl rfl rfl rfl (Yld.max2 rfl rfl) ?_ | refine WL.gyes rfl rfl rfl rfl (Yld.min2 rfl rfl) ?_ | refine WL.gyes rfl rfl rfl rfl (Yld.pickV rfl rfl rfl) ?_ | refine WL.gun rfl rfl rfl rfl ?_)
      refine WX.roundF _ ⟨i + 1, rfl, rfl, by omega, fun j hj => ?_, rfl⟩ (by repeat (first | exact Sub.nil | refine Sub.cons rfl ?_)) (by omega)
      rcases Nat.lt_or_ge j i with hji | hji
      · exact hne j hji
      · obtain rfl : j = i := by omega
        exact h3
  · simp only [decide_eq_false_iff_not] at h
    repeat (first | refine WC.seq ?_ | refine WC.block ?_ | refine WC.region ?_ | refine WL.nil ?_ | refine WX.then_normal ?_ | refine WC.skip ?_ | refine WC.exit ?_ | refine WC.ret ?_ | refine WX.then_exit ?_ | refine WX.then_ret ?_ | refine WX.block_normal ?_ | refine WX.block_ret ?_ | refine WX.block_same ?_ | refine WX.block_other rfl ?_ | refine WC.label ?_ | refine WC.scope ?_ | refine WX.scope_normal ?_ | refine WX.scope_ret ?_ | refine WX.scope_exit ?_ | refine WL.y rfl (Yld.add rfl rfl (by simp only [In]; omega)) ?_ | refine WL.y rfl (Yld.sub rfl rfl (by simp only [In]; omega)) ?_ | refine WL.y rfl (Yld.mul rfl rfl (by simp only [In]; omega)) ?_ | refine WL.y rfl (Yld.convB tab_ok rfl rfl rfl rfl) ?_ | refine WL.y rfl (Yld.conv tab_ok rfl rfl rfl (by simp only [In]; omega)) ?_ | refine WL.y rfl (Yld.quo rfl rfl (by omega) (by omega) (by simp only [In]; omega)) ?_ | refine WL.y rfl (Yld.rem rfl rfl (by omega) (by omega)) ?_ | refine WL.y rfl (Yld.shl rfl rfl (by omega)) ?_ | refine WL.y rfl (Yld.shr rfl rfl (by omega)) ?_ | refine WL.y rfl (Yld.pure tab_ok rfl) ?_ | refine WL.y rfl (Yld.fld flds_ok rfl rfl rfl) ?_ | refine WL.y rfl (Yld.max2 rfl rfl) ?_ | refine WL.y rfl (Yld.min2 rfl rfl) ?_ | refine WL.y rfl (Yld.pickV rfl rfl rfl) ?_ | refine WL.gno rfl rfl rfl rfl ?_ | refine WL.gyes rfl rfl rfl rfl (Yld.add rfl rfl (by simp only [In]; omega)) ?_ | refine WL.gyes rfl rfl rfl rfl (Yld.sub rfl rfl (by simp only [In]; omega)) ?_ | refine WL.gyes rfl rfl rfl rfl (Yld.mul rfl rfl (by simp only [In]; omega)) ?_ | refine WL.gyes rfl rfl rfl rfl (Yld.convB tab_ok rfl rfl rfl rfl) ?_ | refine WL.gyes rfl rfl rfl rfl (Yld.conv tab_ok rfl rfl rfl (by simp only [In]; omega)) ?_ | refine WL.gyes rfl rfl rfl rfl (Yld.quo rfl rfl (by omega) (by omega) (by simp only [In]; omega)) ?_ | refine WL.gyes rfl rfl rfl rfl (Yld.rem rfl rfl (by omega) (by omega)) ?_ | refine WL.gyes rfl rfl rfl rfl (Yld.shl rfl rfl (by omega)) ?_ | refine WL.gyes rfl rfl rfl rfl (Yld.shr rfl rfl (by omega)) ?_ | refine WL.gyes rfl rfl rfl rfl (Yld.pure tab_ok rfl) ?_ | refine WL.gyes rfl rfl rfl rfl (Yld.fld flds_ok rfl rfl rfl) ?_ | refine WL.gyes rfl rfl rfl rfl (Yld.max2 rfl rfl) ?_ | refine WL.gyes rfl rfl rfl rfl (Yld.min2 rfl rfl) ?_ | refine WL.gyes rfl rfl rfl rfl (Yld.pickV rfl rfl rfl) ?_ | refine WL.gun rfl rfl rfl rfl ?_)
    refine WX.ret1 rfl rfl ⟨hg1, _, rfl, ?_⟩
    have : sentV e = -1 := by
      cases e with
      | e n =>
        by_cases hn : n < 17
        · exact absurd rfl (hne n (by omega))
        · exact absurd (ErV.lt hE.1) hn
      | ok => rfl
      | at_ p n => rfl
    rw [this] at H
    exact H
end Go.Proofs.YtlonpmajnglmoaaDoor


 /- Printed by a program (wip/vg): what the functions mean, plainly, and their walks. -/
namespace Go.Proofs.YtlonpmajnglmoaaDoor
open Go Go.RowKit
attribute [local irreducible] WL WC WX WQ WK WJ Yld Eff Ef0 Fn
def M_smithysee_placed (e : Er) (K : Int → Bool → Int → Bool → (List UInt8) → Prop) : Prop :=
 ((∀ (pos : Int) (n : Nat), e = Er.at_ pos n → (((Er.e n) = Er.ok → M_smithyref_Bare (-1 : Int) (fun (t24_Code : Int) (t24_Placed : Bool) (t24_Pos : Int) (t24_Filed : Bool) (t24_File : List UInt8) =>
 K t24_Code t24_Placed t24_Pos t24_Filed t24_File)) ∧
 (¬ ((Er.e n) = Er.ok) → M_smithysee_sentinel (Er.e n) (fun (t29 : Int) =>
 M_smithyref_Placed t29 pos (fun (t34_Code : Int) (t34_Placed : Bool) (t34_Pos : Int) (t34_Filed : Bool) (t34_File : List UInt8) =>
 K t34_Code t34_Placed t34_Pos t34_Filed t34_File))))) ∧
 ((∀ p n, e ≠ Er.at_ p n) → M_smithysee_sentinel e (fun (t13 : Int) =>
 M_smithyref_Bare t13 (fun (t14_Code : Int) (t14_Placed : Bool) (t14_Pos : Int) (t14_Filed : Bool) (t14_File : List UInt8) =>
 K t14_Code t14_Placed t14_Pos t14_Filed t14_File))))

def M_smithysee_Fault (e : Er) (K : Int → Bool → Int → Bool → (List UInt8) → Prop) : Prop :=
 ((e = Er.ok → M_smithyref_None (fun (t8_Code : Int) (t8_Placed : Bool) (t8_Pos : Int) (t8_Filed : Bool) (t8_File : List UInt8) =>
 K t8_Code t8_Placed t8_Pos t8_Filed t8_File)) ∧
 (¬ (e = Er.ok) → M_smithysee_placed e (fun (t17_Code : Int) (t17_Placed : Bool) (t17_Pos : Int) (t17_Filed : Bool) (t17_File : List UInt8) =>
 K t17_Code t17_Placed t17_Pos t17_Filed t17_File)))

def M_smithysee_Same (e : Er) (f_Code : Int) (f_Placed : Bool) (f_Pos : Int) (f_Filed : Bool) (f_File : List UInt8) (K : Bool → Prop) : Prop :=
 M_smithysee_Fault e (fun (t6_Code : Int) (t6_Placed : Bool) (t6_Pos : Int) (t6_Filed : Bool) (t6_File : List UInt8) =>
 M_smithyref_SameFault t6_Code t6_Placed t6_Pos t6_Filed t6_File f_Code f_Placed f_Pos f_Filed f_File (fun (t4 : Bool) =>
 K t4))

def M_smithysee_Is (e : Er) (code : Int) (K : Bool → Prop) : Prop :=
 M_smithyref_Bare code (fun (t7_Code : Int) (t7_Placed : Bool) (t7_Pos : Int) (t7_Filed : Bool) (t7_File : List UInt8) =>
 M_smithysee_Same e t7_Code t7_Placed t7_Pos t7_Filed t7_File (fun (t4 : Bool) =>
 K t4))

set_option maxHeartbeats 8000000 in
theorem W_smithysee_placed {S : List Nat} {w : World} {v_e : Value} {e : Er} {K : Int → Bool → Int → Bool → (List UInt8) → Prop} (hG : GOK S w) (hS0 : 0 ∈ S) (hS1 : 1 ∈ S) (hS2 : 2 ∈ S) (hS3 : 3 ∈ S) (hS4 : 4 ∈ S) (hS5 : 5 ∈ S) (hS6 : 6 ∈ S) (hS7 : 7 ∈ S) (hS8 : 8 ∈ S) (hS9 : 9 ∈ S) (hS10 : 10 ∈ S) (hS11 : 11 ∈ S) (hS12 : 12 ∈ S) (hS13 : 13 ∈ S) (hS14 : 14 ∈ S) (hS15 : 15 ∈ S) (hS16 : 16 ∈ S) (he : ErrR S w v_e e) (H : M_smithysee_placed e K) : Fn Tryd.prog 123 ⟨[v_e]⟩ w (fun v w' => w.grownBy w' none ∧ ∃ (r_Code : Int), ∃ (r_Placed : Bool), ∃ (r_Pos : Int), ∃ (r_Filed : Bool), ∃ (r_File : List UInt8), v = .agg ⟨[.int .i64 r_Code, .bool r_Placed, .int .i64 r_Pos, .bool r_Filed, vs r_File]⟩ ∧ K r_Code r_Placed r_Pos r_Filed r_File) := by
  unfold M_smithysee_placed at H
  refine Fn.enter (by kernel_rfl) Tryd.func123 rfl Tryd.ntmps123 rfl ?_
  refine WC.seq ?_
  refine WC.region ?_
  refine WL.alloc rfl zero105 (fun g1 w1 hB1 hg1 hl1 => ?_)
  have gr1 := hg1
  refine WL.nil (WX.then_normal ?_)
  refine WC.seq ?_
  refine WC.region ?_
  refine WL.y rfl (Yld.pure tab_ok rfl) ?_
  rcases Er.atCases e with ⟨pos, n, he1⟩ | he1
  · replace H := H.1 pos n he1
    obtain ⟨b1, vE1, hv1, hB2, hE1⟩ := ErrR.atOut (he1 ▸ (he.grown gr1))
    refine WL.y rfl (Yld.assertYes Tryd.underlying163 rfl hv1) ?_
    refine WL.y rfl (Yld.pure tab_ok rfl) ?_
    refine WL.y rfl (Yld.pure tab_ok rfl) ?_
    refine WL.y rfl (Yld.pure tab_ok rfl) ?_
    refine WL.y rfl (Yld.pure tab_ok rfl) ?_
    refine WL.y rfl (Yld.pure tab_ok rfl) ?_
    refine WL.nil (WX.then_normal ?_)
    refine WC.seq ?_
    refine WC.seq ?_
    refine WC.region ?_
    refine WL.y rfl (Yld.pure tab_ok rfl) ?_
    refine WL.y rfl (Yld.pure tab_ok rfl) ?_
    refine WL.nil (WX.then_normal ?_)
    refine WC.cond rfl (fun h => by cases h) (fun _ => ?_)
    refine WC.skip (WX.then_normal ?_)
    refine WC.seq ?_
    refine WC.seq ?_
    refine WC.region ?_
    refine WL.y rfl (Yld.pure tab_ok rfl) ?_
    refine WL.y rfl (Yld.peqnil Tryd.underlying163 rfl rfl) ?_
    refine WL.y rfl (Yld.pure tab_ok rfl) ?_
    refine WL.midF 6 (fun L' w' => ∃ q1 : Bool, L' = [(23, .bool q1), (2, .pointer (some ⟨g1, 0, none⟩)), (3, .pointer (some ⟨b1, 0, none⟩))] ∧ (decide ((Er.e n) = Er.ok)) = q1 ∧ w1 = w') ?_ (fun hQ => ?_)
    · rintro _ _ ⟨q1, rfl, rfl, rfl⟩
      refine WL.nil (WX.then_normal ?_)
      refine WC.cond rfl (fun b2 => ?_) (fun b2 => ?_)
      · replace H := H.1 (of_decide_eq_true b2)
        refine WC.seq ?_
        refine WC.region ?_
        refine WL.call rfl rfl (W_smithyref_Bare H) ?_
        rintro _ w2 ⟨hg2, t24_Code, t24_Placed, t24_Pos, t24_Filed, t24_File, rfl, H⟩
        have gr2 := gr_trans gr1 hg2
        have k1 := hB1.g0 hg2
        refine WL.storeW (vs := [.int .i64 t24_Code, .bool t24_Placed, .int .i64 t24_Pos, .bool t24_Filed, vs t24_File]) tab_ok rfl rfl rfl (all1c rfl (all1c rfl (all1c rfl (all1c rfl (all1c rfl all1n))))) k1 rfl rfl (fun w3 hB3 hg3 => ?_)
        have gr3 := gr_mod gr2 hg3 (Ge.le (Ge.box hl1) (Nat.le_refl _))
        refine WL.nil (WX.then_normal ?_)
        refine WC.ret (WX.then_ret ?_)
        exact WX.retc tab_ok rfl rfl rfl hB3 rfl ⟨gr3, t24_Code, t24_Placed, t24_Pos, t24_Filed, t24_File, rfl, H⟩
      · replace H := H.2 (of_decide_eq_false b2)
        refine WC.skip (WX.then_normal ?_)
        refine WC.seq ?_
        refine WC.chainF (fun k => !(Nat.beq k 4 || Nat.beq k 9 || Nat.beq k 10)) (LD [3, 8] (fun w' => Bl w' b1 165 [.int .i64 pos, vE1])) mixed (by kernel_rfl) (fun k w' h _ => (bl_eqv h hB2)) ?_
        refine WJ.y rfl rfl (fun w' hw' => Yld.pure tab_ok rfl) ?_
        refine WJ.y rfl rfl (fun w' hw' => Yld.pure tab_ok rfl) ?_
        refine WJ.y rfl rfl (fun w' hw' => Yld.pure tab_ok rfl) ?_
        refine WJ.y rfl rfl (fun w' hw' => Yld.bload tab_ok (hw' rfl) rfl rfl rfl) ?_
        refine WJ.call rfl (wants_none) rfl rfl (W_smithysee_sentinel (hG.grown gr1) hS0 hS1 hS2 hS3 hS4 hS5 hS6 hS7 hS8 hS9 hS10 hS11 hS12 hS13 hS14 hS15 hS16 hE1 H) (fun v w' h w2 e => DD.keep (Bl.g0 hB2 (gr_eqv h.1 e))) ?_
        rintro _ w4 ⟨hg4, t29, rfl, H⟩
        have gr4 := gr_trans gr1 hg4
        have k2 := hB1.g0 hg4
        have k3 := hE1.grown hg4
        have k4 := hB2.g0 hg4
        refine WJ.y rfl rfl (fun w' hw' => Yld.pure tab_ok rfl) ?_
        refine WJ.y rfl rfl (fun w' hw' => Yld.pure tab_ok rfl) ?_
        refine WJ.y rfl rfl (fun w' hw' => Yld.pure tab_ok rfl) ?_
        refine WJ.y rfl rfl (fun w' hw' => Yld.bload tab_ok (hw' rfl) rfl rfl rfl) ?_
        refine WJ.call rfl (wants_none) rfl rfl (W_smithyref_Placed H) (fun v w' h w2 e => DD.keep (Bl.g0 k4 (gr_eqv h.1 e))) ?_
        rintro _ w5 ⟨hg5, t34_Code, t34_Placed, t34_Pos, t34_Filed, t34_File, rfl, H⟩
        have gr5 := gr_trans gr4 hg5
        have k5 := k2.g0 hg5
        have k6 := k4.g0 hg5
        refine WJ.eff rfl (Ef0.storeW (vs := [.int .i64 t34_Code, .bool t34_Placed, .int .i64 t34_Pos, .bool t34_Filed, vs t34_File]) tab_ok rfl rfl rfl (all1c rfl (all1c rfl (all1c rfl (all1c rfl (all1c rfl all1n))))) k5 rfl rfl) (fun w' h => DD.past (by kernel_rfl)) ?_
        rintro w6 ⟨hB4, hg6⟩
        have gr6 := gr_mod gr5 hg6 (Ge.le (Ge.box hl1) (Nat.le_refl _))
        refine WJ.nil (WX.then_normal ?_)
        refine WC.ret ?_
        exact WX.retc tab_ok rfl rfl rfl hB4 rfl ⟨gr6, t34_Code, t34_Placed, t34_Pos, t34_Filed, t34_File, rfl, H⟩
    · clear H
      refine WL.gyes rfl rfl (rfl) rfl (Yld.pure tab_ok rfl) ?_
      refine WL.gyes rfl rfl (rfl) rfl (Yld.pure tab_ok rfl) ?_
      refine WL.gyes rfl rfl (rfl) rfl (Yld.pure tab_ok rfl) ?_
      refine WL.gyes rfl rfl (rfl) rfl (Yld.bload tab_ok hB2 rfl rfl rfl) ?_
      refine WL.gyes rfl rfl (rfl) rfl (Yld.erreql Tryd.underlying29 hE1 rfl) ?_
      refine WL.y rfl (Yld.pickF (rfl) rfl) ?_
      exact WL.weaken (by repeat (first | exact Sub.nil | refine Sub.cons rfl ?_)) (hQ _ _ ⟨decide ((Er.e n) = Er.ok), rfl, rfl, rfl⟩)
  · replace H := H.2 he1
    refine WL.y rfl (Yld.assertNo Tryd.underlying163 (fun _ => by kernel_rfl) (he.grown gr1) rfl rfl (.inr he1)) ?_
    refine WL.y rfl (Yld.pure tab_ok rfl) ?_
    refine WL.y rfl (Yld.pure tab_ok rfl) ?_
    refine WL.y rfl (Yld.pure tab_ok rfl) ?_
    refine WL.y rfl (Yld.pure tab_ok rfl) ?_
    refine WL.y rfl (Yld.pure tab_ok rfl) ?_
    refine WL.nil (WX.then_normal ?_)
    refine WC.seq ?_
    refine WC.seq ?_
    refine WC.region ?_
    refine WL.y rfl (Yld.pure tab_ok rfl) ?_
    refine WL.y rfl (Yld.pure tab_ok rfl) ?_
    refine WL.nil (WX.then_normal ?_)
    refine WC.cond rfl (fun _ => ?_) (fun h => by cases h)
    refine WC.seq ?_
    refine WC.region ?_
    refine WL.y rfl (Yld.pure tab_ok rfl) ?_
    refine WL.call rfl rfl (W_smithysee_sentinel (hG.grown gr1) hS0 hS1 hS2 hS3 hS4 hS5 hS6 hS7 hS8 hS9 hS10 hS11 hS12 hS13 hS14 hS15 hS16 (he.grown gr1) H) ?_
    rintro _ w7 ⟨hg7, t13, rfl, H⟩
    have gr7 := gr_trans gr1 hg7
    have k8 := hB1.g0 hg7
    refine WL.call rfl rfl (W_smithyref_Bare H) ?_
    rintro _ w8 ⟨hg8, t14_Code, t14_Placed, t14_Pos, t14_Filed, t14_File, rfl, H⟩
    have gr8 := gr_trans gr7 hg8
    have k9 := k8.g0 hg8
    refine WL.storeW (vs := [.int .i64 t14_Code, .bool t14_Placed, .int .i64 t14_Pos, .bool t14_Filed, vs t14_File]) tab_ok rfl rfl rfl (all1c rfl (all1c rfl (all1c rfl (all1c rfl (all1c rfl all1n))))) k9 rfl rfl (fun w9 hB5 hg9 => ?_)
    have gr9 := gr_mod gr8 hg9 (Ge.le (Ge.box hl1) (Nat.le_refl _))
    refine WL.nil (WX.then_normal ?_)
    refine WC.ret (WX.then_ret ?_)
    exact WX.retc tab_ok rfl rfl rfl hB5 rfl ⟨gr9, t14_Code, t14_Placed, t14_Pos, t14_Filed, t14_File, rfl, H⟩

set_option maxHeartbeats 8000000 in
theorem W_smithysee_Fault {S : List Nat} {w : World} {v_e : Value} {e : Er} {K : Int → Bool → Int → Bool → (List UInt8) → Prop} (hG : GOK S w) (hS0 : 0 ∈ S) (hS1 : 1 ∈ S) (hS2 : 2 ∈ S) (hS3 : 3 ∈ S) (hS4 : 4 ∈ S) (hS5 : 5 ∈ S) (hS6 : 6 ∈ S) (hS7 : 7 ∈ S) (hS8 : 8 ∈ S) (hS9 : 9 ∈ S) (hS10 : 10 ∈ S) (hS11 : 11 ∈ S) (hS12 : 12 ∈ S) (hS13 : 13 ∈ S) (hS14 : 14 ∈ S) (hS15 : 15 ∈ S) (hS16 : 16 ∈ S) (he : ErrR S w v_e e) (H : M_smithysee_Fault e K) : Fn Tryd.prog 95 ⟨[v_e]⟩ w (fun v w' => w.grownBy w' none ∧ ∃ (r_Code : Int), ∃ (r_Placed : Bool), ∃ (r_Pos : Int), ∃ (r_Filed : Bool), ∃ (r_File : List UInt8), v = .agg ⟨[.int .i64 r_Code, .bool r_Placed, .int .i64 r_Pos, .bool r_Filed, vs r_File]⟩ ∧ K r_Code r_Placed r_Pos r_Filed r_File) := by
  unfold M_smithysee_Fault at H
  refine Fn.enter (by kernel_rfl) Tryd.func95 rfl Tryd.ntmps95 rfl ?_
  refine WC.seq ?_
  refine WC.region ?_
  refine WL.alloc rfl zero105 (fun g1 w1 hB1 hg1 hl1 => ?_)
  have gr1 := hg1
  refine WL.nil (WX.then_normal ?_)
  refine WC.seq ?_
  refine WC.seq ?_
  refine WC.region ?_
  refine WL.y rfl (Yld.pure tab_ok rfl) ?_
  refine WL.y rfl (Yld.erreql Tryd.underlying29 (he.grown gr1) rfl) ?_
  refine WL.nil (WX.then_normal ?_)
  refine WC.cond rfl (fun b1 => ?_) (fun b1 => ?_)
  · replace H := H.1 (of_decide_eq_true b1)
    refine WC.seq ?_
    refine WC.region ?_
    refine WL.call rfl rfl (W_smithyref_None H) ?_
    rintro _ w2 ⟨hg2, t8_Code, t8_Placed, t8_Pos, t8_Filed, t8_File, rfl, H⟩
    have gr2 := gr_trans gr1 hg2
    have k1 := hB1.g0 hg2
    refine WL.storeW (vs := [.int .i64 t8_Code, .bool t8_Placed, .int .i64 t8_Pos, .bool t8_Filed, vs t8_File]) tab_ok rfl rfl rfl (all1c rfl (all1c rfl (all1c rfl (all1c rfl (all1c rfl all1n))))) k1 rfl rfl (fun w3 hB2 hg3 => ?_)
    have gr3 := gr_mod gr2 hg3 (Ge.le (Ge.box hl1) (Nat.le_refl _))
    refine WL.nil (WX.then_normal ?_)
    refine WC.ret (WX.then_ret ?_)
    exact WX.retc tab_ok rfl rfl rfl hB2 rfl ⟨gr3, t8_Code, t8_Placed, t8_Pos, t8_Filed, t8_File, rfl, H⟩
  · replace H := H.2 (of_decide_eq_false b1)
    refine WC.skip (WX.then_normal ?_)
    refine WC.seq ?_
    refine WC.region ?_
    refine WL.y rfl (Yld.pure tab_ok rfl) ?_
    refine WL.y rfl (Yld.assertNo Tryd.underlying192 (fun _ => by kernel_rfl) (he.grown gr1) rfl rfl (.inl rfl)) ?_
    refine WL.y rfl (Yld.pure tab_ok rfl) ?_
    refine WL.y rfl (Yld.pure tab_ok rfl) ?_
    refine WL.y rfl (Yld.pure tab_ok rfl) ?_
    refine WL.y rfl (Yld.pure tab_ok rfl) ?_
    refine WL.y rfl (Yld.pure tab_ok rfl) ?_
    refine WL.nil (WX.then_normal ?_)
    refine WC.seq ?_
    refine WC.seq ?_
    refine WC.region ?_
    refine WL.y rfl (Yld.pure tab_ok rfl) ?_
    refine WL.y rfl (Yld.pure tab_ok rfl) ?_
    refine WL.nil (WX.then_normal ?_)
    refine WC.cond rfl (fun _ => ?_) (fun h => by cases h)
    refine WC.seq ?_
    refine WC.region ?_
    refine WL.y rfl (Yld.pure tab_ok rfl) ?_
    refine WL.call rfl rfl (W_smithysee_placed (hG.grown gr1) hS0 hS1 hS2 hS3 hS4 hS5 hS6 hS7 hS8 hS9 hS10 hS11 hS12 hS13 hS14 hS15 hS16 (he.grown gr1) H) ?_
    rintro _ w4 ⟨hg4, t17_Code, t17_Placed, t17_Pos, t17_Filed, t17_File, rfl, H⟩
    have gr4 := gr_trans gr1 hg4
    have k2 := hB1.g0 hg4
    refine WL.storeW (vs := [.int .i64 t17_Code, .bool t17_Placed, .int .i64 t17_Pos, .bool t17_Filed, vs t17_File]) tab_ok rfl rfl rfl (all1c rfl (all1c rfl (all1c rfl (all1c rfl (all1c rfl all1n))))) k2 rfl rfl (fun w5 hB3 hg5 => ?_)
    have gr5 := gr_mod gr4 hg5 (Ge.le (Ge.box hl1) (Nat.le_refl _))
    refine WL.nil (WX.then_normal ?_)
    refine WC.ret (WX.then_ret ?_)
    exact WX.retc tab_ok rfl rfl rfl hB3 rfl ⟨gr5, t17_Code, t17_Placed, t17_Pos, t17_Filed, t17_File, rfl, H⟩

set_option maxHeartbeats 8000000 in
theorem W_smithysee_Same {S : List Nat} {w : World} {v_e : Value} {e : Er} {f_Code : Int} {f_Placed : Bool} {f_Pos : Int} {f_Filed : Bool} {f_File : List UInt8} {K : Bool → Prop} (hG : GOK S w) (hS0 : 0 ∈ S) (hS1 : 1 ∈ S) (hS2 : 2 ∈ S) (hS3 : 3 ∈ S) (hS4 : 4 ∈ S) (hS5 : 5 ∈ S) (hS6 : 6 ∈ S) (hS7 : 7 ∈ S) (hS8 : 8 ∈ S) (hS9 : 9 ∈ S) (hS10 : 10 ∈ S) (hS11 : 11 ∈ S) (hS12 : 12 ∈ S) (hS13 : 13 ∈ S) (hS14 : 14 ∈ S) (hS15 : 15 ∈ S) (hS16 : 16 ∈ S) (he : ErrR S w v_e e) (H : M_smithysee_Same e f_Code f_Placed f_Pos f_Filed f_File K) : Fn Tryd.prog 54 ⟨[v_e, .agg ⟨[.int .i64 f_Code, .bool f_Placed, .int .i64 f_Pos, .bool f_Filed, vs f_File]⟩]⟩ w (fun v w' => w.grownBy w' none ∧ ∃ (r : Bool), v = .bool r ∧ K r) := by
  unfold M_smithysee_Same at H
  refine Fn.enter (by kernel_rfl) Tryd.func54 rfl Tryd.ntmps54 rfl ?_
  refine WC.seq ?_
  refine WC.region ?_
  refine WL.box (us := [.int .i64 f_Code, .bool f_Placed, .int .i64 f_Pos, .bool f_Filed, vs f_File]) rfl rfl rfl (fun g1 w1 hB1 hg1 hl1 => ?_)
  have gr1 := hg1
  refine WL.y rfl (Yld.pure tab_ok rfl) ?_
  refine WL.nil (WX.then_normal ?_)
  refine WC.seq ?_
  refine WC.chainF (fun k => !(Nat.beq k 1 || Nat.beq k 3)) (LD [2] (fun w' => Bl w' g1 105 [.int .i64 f_Code, .bool f_Placed, .int .i64 f_Pos, .bool f_Filed, vs f_File])) mixed (by kernel_rfl) (fun k w' h _ => (bl_eqv h hB1)) ?_
  refine WJ.y rfl rfl (fun w' hw' => Yld.pure tab_ok rfl) ?_
  refine WJ.call rfl (wants_none) rfl rfl (W_smithysee_Fault (hG.grown gr1) hS0 hS1 hS2 hS3 hS4 hS5 hS6 hS7 hS8 hS9 hS10 hS11 hS12 hS13 hS14 hS15 hS16 (he.grown gr1) H) (fun v w' h w2 e => DD.keep (Bl.g0 hB1 (gr_eqv h.1 e))) ?_
  rintro _ w2 ⟨hg2, t6_Code, t6_Placed, t6_Pos, t6_Filed, t6_File, rfl, H⟩
  have gr2 := gr_trans gr1 hg2
  have k1 := hB1.g0 hg2
  refine WJ.y rfl rfl (fun w' hw' => Yld.bagg (vs := [.int .i64 f_Code, .bool f_Placed, .int .i64 f_Pos, .bool f_Filed, vs f_File]) tab_ok (hw' rfl) rfl rfl rfl rfl) ?_
  refine WJ.call rfl (wants_none) rfl rfl (W_smithyref_SameFault H) (fun v w' h w2 e => DD.keep (Bl.g0 k1 (gr_eqv h.1 e))) ?_
  rintro _ w3 ⟨hg3, t4, rfl, H⟩
  have gr3 := gr_trans gr2 hg3
  have k2 := k1.g0 hg3
  refine WJ.y rfl rfl (fun w' hw' => Yld.pure tab_ok rfl) ?_
  refine WJ.nil (WX.then_normal ?_)
  refine WC.ret ?_
  exact WX.ret1 rfl rfl ⟨gr3, t4, rfl, H⟩

set_option maxHeartbeats 8000000 in
theorem W_smithysee_Is {S : List Nat} {w : World} {v_e : Value} {e : Er} {code : Int} {K : Bool → Prop} (hG : GOK S w) (hS0 : 0 ∈ S) (hS1 : 1 ∈ S) (hS2 : 2 ∈ S) (hS3 : 3 ∈ S) (hS4 : 4 ∈ S) (hS5 : 5 ∈ S) (hS6 : 6 ∈ S) (hS7 : 7 ∈ S) (hS8 : 8 ∈ S) (hS9 : 9 ∈ S) (hS10 : 10 ∈ S) (hS11 : 11 ∈ S) (hS12 : 12 ∈ S) (hS13 : 13 ∈ S) (hS14 : 14 ∈ S) (hS15 : 15 ∈ S) (hS16 : 16 ∈ S) (he : ErrR S w v_e e) (H : M_smithysee_Is e code K) : Fn Tryd.prog 24 ⟨[v_e, .int .i64 code]⟩ w (fun v w' => w.grownBy w' none ∧ ∃ (r : Bool), v = .bool r ∧ K r) := by
  unfold M_smithysee_Is at H
  refine Fn.enter (by kernel_rfl) Tryd.func24 rfl Tryd.ntmps24 rfl ?_
  refine WC.seq ?_
  refine WC.region ?_
  refine WL.y rfl (Yld.pure tab_ok rfl) ?_
  refine WL.nil (WX.then_normal ?_)
  refine WC.seq ?_
  refine WC.region ?_
  refine WL.y rfl (Yld.pure tab_ok rfl) ?_
  refine WL.y rfl (Yld.pure tab_ok rfl) ?_
  refine WL.call rfl rfl (W_smithyref_Bare H) ?_
  rintro _ w1 ⟨hg1, t7_Code, t7_Placed, t7_Pos, t7_Filed, t7_File, rfl, H⟩
  have gr1 := hg1
  refine WL.call rfl rfl (W_smithysee_Same (hG.grown gr1) hS0 hS1 hS2 hS3 hS4 hS5 hS6 hS7 hS8 hS9 hS10 hS11 hS12 hS13 hS14 hS15 hS16 (he.grown gr1) H) ?_
  rintro _ w2 ⟨hg2, t4, rfl, H⟩
  have gr2 := gr_trans gr1 hg2
  refine WL.y rfl (Yld.pure tab_ok rfl) ?_
  refine WL.nil (WX.then_normal ?_)
  refine WC.ret ?_
  exact WX.ret1 rfl rfl ⟨gr2, t4, rfl, H⟩

end Go.Proofs.YtlonpmajnglmoaaDoor

 /- Maps: plainly, and in the world. -/
namespace Go.Proofs.YtlonpmajnglmoaaDoor
open Go Go.RowKit Go.MapKept Go.ChangeMaps
open Go.Maps (Keyed)
/-! ## plainly: the entries, in the order in which they were laid -/
section
variable {κ ν : Type} [DecidableEq κ]
def mget : List (κ × ν) → κ → Option ν
  | [], _ => none
  | p :: m, k => if p.1 = k then some p.2 else mget m k
def mput : List (κ × ν) → κ → ν → List (κ × ν)
  | [], k, v => [(k, v)]
  | p :: m, k, v => if p.1 = k then (k, v) :: m else p :: mput m k v
def Uq (m : List (κ × ν)) : Prop := (m.map (·.1)).Nodup
theorem mget_none {m : List (κ × ν)} {k : κ} : mget m k = none ↔ ∀ p ∈ m, p.1 ≠ k := by
  induction m with
  | nil => simp [mget]
  | cons p m ih =>
    unfold mget
    split
    · rename_i h; simp [h]
    · rename_i h; rw [ih]; simp [h]
theorem mget_mput (m : List (κ × ν)) (k k' : κ) (v : ν) : mget (mput m k v) k' = if k = k' then some v else mget m k' := by
  induction m with
  | nil => simp [mget, mput]
  | cons p m ih =>
    unfold mput
    split
    · rename_i h
      subst h
      unfold mget
      split <;> simp_all
    · rename_i h
      unfold mget
      rw [ih]
      split
      · rename_i h2
        subst h2
        rw [if_neg (Ne.symm h)]
      · rfl
theorem mput_new {m : List (κ × ν)} {k : κ} {v : ν} (h : mget m k = none) : mput m k v = m ++ [(k, v)] := by
  induction m with
  | nil => rfl
  | cons p m ih =>
    unfold mget at h
    split at h
    · cases h
    · rename_i hne
      unfold mput
      rw [if_neg hne, ih h]
      rfl
theorem mput_set {m : List (κ × ν)} {k : κ} {v v0 : ν} {j : Nat} (hu : Uq m) (h : m[j]? = some (k, v0)) : mput m k v = m.set j (k, v) := by
  induction m generalizing j with
  | nil => simp at h
  | cons p m ih =>
    have hu' := List.nodup_cons.1 hu
    cases j with
    | zero =>
      simp only [List.getElem?_cons_zero, Option.some.injEq] at h
      subst h
      simp [mput]
    | succ j =>
      simp only [List.getElem?_cons_succ] at h
      have hne : p.1 ≠ k := fun e => hu'.1 (List.mem_map.2 ⟨(k, v0), List.mem_of_getElem? h, e.symm⟩)
      unfold mput
      rw [if_neg hne, ih hu'.2 h]
      rfl
theorem mget_mem {m : List (κ × ν)} {k : κ} {v : ν} (hu : Uq m) : mget m k = some v ↔ (k, v) ∈ m := by
  induction m with
  | nil => simp [mget]
  | cons p m ih =>
    have hu' := List.nodup_cons.1 hu
    unfold mget
    split
    · rename_i h
      subst h
      rw [Option.some.injEq, List.mem_cons]
      constructor
      · rintro rfl; exact .inl rfl
      · rintro (h | h)
        · exact (congrArg Prod.snd h).symm
        · exact absurd (List.mem_map.2 ⟨_, h, rfl⟩) hu'.1
    · rename_i h
      rw [ih hu'.2, List.mem_cons]
      constructor
      · exact .inr
      · rintro (h2 | h2)
        · exact absurd (congrArg Prod.fst h2).symm h
        · exact h2
theorem mput_len (m : List (κ × ν)) (k : κ) (v : ν) : (mput m k v).length = if (mget m k).isSome then m.length else m.length + 1 := by
  induction m with
  | nil => simp [mget, mput]
  | cons p m ih =>
    unfold mput mget
    split
    · simp
    · rw [List.length_cons, ih, List.length_cons]
      split <;> rfl
theorem mput_mem {m : List (κ × ν)} {k : κ} {v : ν} {p : κ × ν} (h : p ∈ mput m k v) : p = (k, v) ∨ p ∈ m := by
  induction m with
  | nil => simp [mput] at h; exact .inl h
  | cons q m ih =>
    unfold mput at h
    split at h
    · rcases List.mem_cons.1 h with h | h
      · exact .inl h
      · exact .inr (List.mem_cons_of_mem _ h)
    · rcases List.mem_cons.1 h with h | h
      · exact .inr (by rw [h]; exact List.mem_cons_self)
      · rcases ih h with h | h
        · exact .inl h
        · exact .inr (List.mem_cons_of_mem _ h)
theorem mput_keys (m : List (κ × ν)) (k : κ) (v : ν) : (mput m k v).map (·.1) = if (mget m k).isSome then m.map (·.1) else m.map (·.1) ++ [k] := by
  induction m with
  | nil => simp [mget, mput]
  | cons p m ih =>
    unfold mput mget
    split
    · rename_i h; simp [h]
    · rw [List.map_cons, ih, List.map_cons]
      split <;> rfl
theorem Uq.put {m : List (κ × ν)} (h : Uq m) (k : κ) (v : ν) : Uq (mput m k v) := by
  unfold Uq at *
  rw [mput_keys]
  split
  · exact h
  · rename_i hn
    have : mget m k = none := by simpa using hn
    rw [List.nodup_append]
    refine ⟨h, by simp, fun a ha b hb => ?_⟩
    obtain ⟨p, hp, rfl⟩ := List.mem_map.1 ha
    simp only [List.mem_cons, List.not_mem_nil, or_false] at hb
    subst hb
    exact mget_none.1 this p hp
end
/-! ## in the world -/
structure KeyF {κ : Type} (P : Program) (k : TypeId) (fk : κ → Value) (ok : κ → Prop) : Prop where
  keyed : Keyed P k
  key : ∀ x, ok x → ∃ l, keyOf P k (fk x) = some l
  inj : ∀ x y, ok x → ok y → fk x = fk y → x = y
def okS (s : List UInt8) : Prop := s.length ≤ maxLen
theorem keyF_s {P : Program} {k : TypeId} (h : P.underlying k = some .string) : KeyF P k vs okS where
  keyed := Go.Maps.string_keyed h
  key x hx := ⟨_, Go.WideMaps.keyOf_string_mk h (s := ⟨⟨x⟩⟩) hx⟩
  inj x y _ _ h := by unfold vs at h; injection h with h; injection h with h; injection h
def MapB {κ ν : Type} (fk : κ → Value) (ok : κ → Prop) (fv : ν → Value) (w : World) (b : Nat) (m : List (κ × ν)) : Prop :=
  ∃ es clock, w.heap[b]? = some (.map es clock) ∧ Stamped es clock ∧ es.size ≤ maxLen ∧ (∀ p ∈ m, ok p.1) ∧ es.toList.map (fun e => (e.key, e.val)) = m.map fun p => (fk p.1, fv p.2)
section
variable {κ ν : Type} {P : Program} {k e t : TypeId} {fk : κ → Value} {ok : κ → Prop} {fv : ν → Value} {w w' : World} {b : Nat} {m : List (κ × ν)} {row : Option Nat}
theorem MapB.lt (h : MapB fk ok fv w b m) : b < w.heap.size := by
  obtain ⟨es, clock, hb, _⟩ := h
  exact (Array.getElem?_eq_some_iff.1 hb).1
theorem MapB.lt' (h : MapB fk ok fv w b m) : Lt (some b) w.heap.size := Lt.box h.lt
theorem MapB.go (h : MapB fk ok fv w b m) (hg : w.grownBy w' row) (hd : Dj (some b) row) : MapB fk ok fv w' b m := by
  have hlt := h.lt
  obtain ⟨es, clock, hb, r⟩ := h
  exact ⟨es, clock, (hg.block b hlt (fun e => hd b rfl e.symm)).trans hb, r⟩
theorem MapB.g0 (h : MapB fk ok fv w b m) (hg : w.grownBy w' none) : MapB fk ok fv w' b m := h.go hg Dj.nr
theorem MapB.eqv (hw : Eqv w w') (h : MapB fk ok fv w b m) : MapB fk ok fv w' b m := h.g0 (gr_eqv (gr_refl w none) hw)
theorem MapB.len (h : MapB fk ok fv w b m) : m.length ≤ maxLen := by
  obtain ⟨es, clock, _, _, hs, _, he⟩ := h
  have := congrArg List.length he
  simp at this
  omega
theorem MapB.uq (h : MapB fk ok fv w b m) : Uq m := by
  obtain ⟨es, clock, _, hst, _, _, he⟩ := h
  have h1 : es.toList.map (·.key) = (m.map (·.1)).map fk := by
    have := congrArg (List.map Prod.fst) he
    simpa [Function.comp_def] using this
  have h2 := hst.2.2
  rw [h1] at h2
  unfold Uq
  rw [List.nodup_iff_pairwise_ne, List.pairwise_map] at h2
  rw [List.nodup_iff_pairwise_ne]
  exact h2.imp fun h e => h (by rw [e])
variable [DecidableEq κ]
theorem MapB.find {es : Array MapEntry} (K : KeyF P k fk ok) (hst : Uq m) (hok : ∀ p ∈ m, ok p.1) (he : es.toList.map (fun e => (e.key, e.val)) = m.map fun p => (fk p.1, fv p.2)) {q : κ} (hq : ok q) (w : World) :
    ((Instr.findKey k (fk q) es.toList).run P w = .ok none w ∧ mget m q = none ∧ ∀ x ∈ es.toList, x.key ≠ fk q) ∨ ∃ j v e0, (Instr.findKey k (fk q) es.toList).run P w = .ok (some (j, fv v)) w ∧ mget m q = some v ∧ m[j]? = some (q, v) ∧ es.toList[j]? = some e0 ∧ e0.key = fk q := by
  obtain ⟨l, hl⟩ := K.key q hq
  have hget : ∀ (j : Nat), (es.toList[j]?).map (fun e => (e.key, e.val)) = (m[j]?).map fun p => (fk p.1, fv p.2) := fun j => by
    have := congrArg (fun l => l[j]?) he
    simpa using this
  rcases K.keyed.find w hl es.toList (fun e he' => by
    obtain ⟨j, hj, rfl⟩ := List.getElem_of_mem he'
    have h1 := hget j
    rw [List.getElem?_eq_getElem hj] at h1
    simp only [Option.map_some] at h1
    obtain ⟨p, hp, hpe⟩ := Option.map_eq_some_iff.1 h1.symm
    obtain ⟨l', hl'⟩ := K.key p.1 (hok p (List.mem_of_getElem? hp))
    have h5 : fk p.1 = es.toList[j].key := congrArg Prod.fst hpe
    exact ⟨l', by rw [← h5]; exact hl'⟩) with ⟨h1, h2⟩ | ⟨j, e0, h1, h2, h3⟩
  · refine .inl ⟨h1, mget_none.2 fun p hp hpq => ?_, h2⟩
    obtain ⟨j, hj, rfl⟩ := List.getElem_of_mem hp
    have h4 := hget j
    rw [List.getElem?_eq_getElem hj] at h4
    simp only [Option.map_some] at h4
    obtain ⟨x, hx, hxe⟩ := Option.map_eq_some_iff.1 h4
    have h5 : x.key = fk m[j].1 := congrArg Prod.fst hxe
    exact h2 x (List.mem_of_getElem? hx) (by rw [h5, hpq])
  · have h4 := hget j
    rw [h2] at h4
    simp only [Option.map_some] at h4
    obtain ⟨p, hp, hpe⟩ := Option.map_eq_some_iff.1 h4.symm
    have hpq : p.1 = q := K.inj _ _ (hok p (List.mem_of_getElem? hp)) hq ((congrArg Prod.fst hpe).trans h3)
    have hpv : fv p.2 = e0.val := congrArg Prod.snd hpe
    refine .inr ⟨j, p.2, e0, by rw [hpv]; exact h1, (mget_mem hst).2 (by rw [← hpq]; exact List.mem_of_getElem? hp), by rw [hp, ← hpq], h2, h3⟩
theorem MapB.run_look (K : KeyF P k fk ok) (h : MapB fk ok fv w b m) (ht : P.underlying t = some (.map k e)) {z : ν} (hz : (zeroValue e).run P w = .ok (fv z) w) {q : κ} (hq : ok q) (c : Bool) :
    (Instr.lookup t (.map (some b)) (fk q) c).run P w = .ok (if c then .tuple #[fv ((mget m q).getD z), .bool (mget m q).isSome] else fv ((mget m q).getD z)) w := by
  have hu := h.uq
  obtain ⟨es, clock, hb, hst, hs, hok, he⟩ := h
  obtain ⟨l, hl⟩ := K.key q hq
  rcases MapB.find K hu hok he hq w with ⟨h1, h2, _⟩ | ⟨j, v, e0, h1, h2, _⟩
  · cases c <;> simp [Instr.lookup, run_underlying ht, MapKept.run_getObj_map hb, K.keyed.check w _ hl, h1, h2, hz, Result.andThen]
  · cases c <;> simp [Instr.lookup, run_underlying ht, MapKept.run_getObj_map hb, K.keyed.check w _ hl, h1, h2, Result.andThen]
theorem MapB.run_put (K : KeyF P k fk ok) (h : MapB fk ok fv w b m) (ht : P.underlying t = some (.map k e)) (hn : m.length < maxLen) {q : κ} (hq : ok q) (v : ν) :
    ∃ w', (Instr.mapUpdate t (.map (some b)) (fk q) (fv v)).run P w = .ok () w' ∧ MapB fk ok fv w' b (mput m q v) ∧ w.grownBy w' (some b) := by
  have hu := h.uq
  obtain ⟨es, clock, hb, hst, hs, hok, he⟩ := h
  obtain ⟨l, hl⟩ := K.key q hq
  have hlen : es.size = m.length := by have := congrArg List.length he; simpa using this
  have hok' : ∀ p ∈ mput m q v, ok p.1 := fun p hp => by
    rcases mput_mem hp with rfl | hp
    · exact hq
    · exact hok p hp
  have hgr : ∀ o, w.grownBy (setBlock w b o) (some b) := fun o => ⟨rfl, rfl, rfl, by simp [setBlock], fun i _ hi => heap_setBlock_other hb _ (fun e => hi (by rw [e]))⟩
  rcases MapB.find K hu hok he hq w with ⟨h1, h2, h3⟩ | ⟨j, v0, e0, h1, h2, h3, h4, h5⟩
  · refine ⟨setBlock w b (.map (es.push ⟨fk q, fv v, clock⟩) (clock + 1)), ?_, ⟨es.push ⟨fk q, fv v, clock⟩, clock + 1, heap_setBlock_same hb _, stamped_push hst h3, by simp; omega, hok', ?_⟩, hgr _⟩
    · simp [Instr.mapUpdate, run_underlying ht, MapKept.run_getObj_map hb, K.keyed.check w false hl, h1, MapKept.run_setObj_map _ hb, Result.andThen, setBlock]
    · rw [mput_new h2, Array.toList_push, List.map_append, List.map_append, he]
      rfl
  · have hj : es[j]? = some e0 := by simpa using h4
    have hkeyf : ∀ e', es[j]? = some e' → ({ e' with key := fk q, val := fv v } : MapEntry).key = e'.key := fun e' he' => by rw [hj] at he'; cases he'; exact h5.symm
    have hlist : (es.modify j (fun e' => { e' with key := fk q, val := fv v })).toList = es.toList.set j { e0 with key := fk q, val := fv v } := by rw [Array.toList_modify, modify_eq_set _ _ _ _ h4]
    refine ⟨setBlock w b (.map (es.modify j (fun e' => { e' with key := fk q, val := fv v })) clock), ?_, ⟨es.modify j (fun e' => { e' with key := fk q, val := fv v }), clock, heap_setBlock_same hb _, stamped_modify hst _ _ (fun _ _ => rfl) (fun e' _ he' => hkeyf e' he'), by simpa using hs, hok', ?_⟩, hgr _⟩
    · simp [Instr.mapUpdate, run_underlying ht, MapKept.run_getObj_map hb, K.keyed.check w false hl, h1, hj, h5, K.keyed.stays w hl, MapKept.run_setObj_map _ hb, Result.andThen, setBlock]
    · rw [hlist, mput_set hu h3, List.map_set, List.map_set, he]
 omit [DecidableEq κ] in
theorem MapB.made (w : World) (fk : κ → Value) (ok : κ → Prop) (fv : ν → Value) : MapB fk ok fv (w.alloc (.map #[] 0)) w.heap.size ([] : List (κ × ν)) :=
  ⟨#[], 0, (MapKept.heap_alloc w _).1, stamped_empty 0, by simp, by simp, rfl⟩
variable {N : Nat} {L : Slots} {ty : TypeId} {pos : String} {af : Array Edge} {dd : Option Tmp} {x y u : Operand}
theorem Yld.look (hK : KeyF P k fk ok) (ht : P.underlying t = some (.map k e)) {z : ν} (hz : ∀ w, (zeroValue e).run P w = .ok (fv z) w) (hm : MapB fk ok fv w b m) (hx : opv L x = some (.map (some b))) {q : κ} (hy : opv L y = some (fk q)) (hq : ok q) :
    Yld P N w ⟨dd, .lookup t x y false, ty, pos, af, none⟩ L (fv ((mget m q).getD z)) := fun a w1 hw ha => by
  unfold execOp
  simp [ha.ev hx, ha.ev hy, (MapB.eqv hw hm).run_look hK ht (hz w1) hq false]
 omit [DecidableEq κ] in
theorem Eff.makeMap (fk : κ → Value) (ok : κ → Prop) (fv : ν → Value) : Eff P N w ⟨dd, .makeMap t none, ty, pos, af, none⟩ L fun v w' => v = .map (some w.heap.size) ∧ MapB fk ok fv w' w.heap.size ([] : List (κ × ν)) ∧ w.grownBy w' none := fun a w1 hw ha => by
  refine ⟨_, w1.alloc (.map #[] 0), ?_, rfl, ?_, eqv_gr hw (gr_alloc w1 _ none)⟩
  · unfold execOp
    simp [run_makeMap]
    rw [hw.heap]
  · have := MapB.made w1 fk ok fv
    rwa [hw.heap] at this
theorem Ef0.mapPut (hK : KeyF P k fk ok) (ht : P.underlying t = some (.map k e)) (hm : MapB fk ok fv w b m) (hn : m.length < maxLen) (hx : opv L x = some (.map (some b))) {q : κ} (hy : opv L y = some (fk q)) (hq : ok q) {v : ν} (hu : opv L u = some (fv v)) :
    Ef0 P N w ⟨none, .mapUpdate t x y u, ty, pos, af, none⟩ L fun w' => MapB fk ok fv w' b (mput m q v) ∧ w.grownBy w' (some b) := fun a w1 hw ha => by
  obtain ⟨w', h1, h2, h3⟩ := (MapB.eqv hw hm).run_put hK ht hn hq v
  refine ⟨w', ?_, h2, eqv_gr hw h3⟩
  unfold execOp
  simp [ha.ev hx, ha.ev hy, ha.ev hu, h1]
theorem WL.ef0 {ops : Array Oper} {Q : Post} {rest : List Oper} {op : Op} {R : World → Prop} (hr : Ef0 P N w ⟨none, op, ty, pos, af, none⟩ L R) (hk : ∀ w', R w' → WL P N ops Q rest L w') : WL P N ops Q (⟨none, op, ty, pos, af, none⟩ :: rest) L w := WL.eff hr hk
end
end Go.Proofs.YtlonpmajnglmoaaDoor

 /- Changes within blocks that are named: what calls do to what they are handed. -/
namespace Go.Proofs.YtlonpmajnglmoaaDoor
open Go Go.RowKit
structure GrL (ps : List (Option Nat)) (w w' : World) : Prop where
  os : w'.os = w.os
  tape : w'.tape = w.tape
  output : w'.output = w.output
  size : w.heap.size ≤ w'.heap.size
  block : ∀ i, i < w.heap.size → (∀ p, List.Mem p ps → p ≠ some i) → w'.heap[i]? = w.heap[i]?
def AllP (Q : Option Nat → Prop) (ps : List (Option Nat)) : Prop := ∀ p, List.Mem p ps → Q p
theorem apN {Q : Option Nat → Prop} : AllP Q [] := fun _ h => by cases h
theorem apC {Q : Option Nat → Prop} {p : Option Nat} {ps : List (Option Nat)} (h : Q p) (t : AllP Q ps) : AllP Q (p :: ps) := fun x hx => by
  cases hx with
  | head => exact h
  | tail _ hx => exact t x hx
def InP (ps : List (Option Nat)) (n : Nat) (p : Option Nat) : Prop := ∀ g, p = some g → n ≤ g ∨ List.Mem (some g) ps
section
variable {ps qs : List (Option Nat)} {p p' q row : Option Nat} {n m : Nat} {a b c w w' : World}
theorem InP.ge (h : Ge p n) : InP ps n p := fun g hg => .inl (h g hg)
theorem InP.mem (h : List.Mem p ps) : InP ps n p := fun _ hg => .inr (hg ▸ h)
theorem InP.none : InP ps n none := fun _ h => by cases h
theorem InP.app (h : InP ps n p) (k : ∀ g, p' = some g → p = some g ∨ m ≤ g) (hm : n ≤ m) : InP ps n p' := fun g hg => by
  rcases k g hg with h1 | h1
  · exact h g h1
  · exact .inl (Nat.le_trans hm h1)
theorem InP.trans (h : InP qs m p) (k : AllP (InP ps n) qs) (hm : n ≤ m) : InP ps n p := fun g hg => by
  rcases h g hg with h1 | h1
  · exact .inl (Nat.le_trans hm h1)
  · exact k _ h1 g rfl
theorem InP.toGe (h : InP qs m p) (k : AllP (fun q => Ge q n) qs) (hm : n ≤ m) : Ge p n := fun g hg => by
  rcases h g hg with h1 | h1
  · exact Nat.le_trans hm h1
  · exact k _ h1 g rfl
theorem InP.dj (h : InP qs m p) (hq : Lt q m) (k : AllP (Dj q) qs) : Dj p q := fun g hg hqg => by
  rcases h g hg with h1 | h1
  · have := hq g hqg; omega
  · exact k _ h1 g hqg rfl
theorem GrL.refl (w : World) : GrL ps w w := ⟨rfl, rfl, rfl, Nat.le_refl _, fun _ _ _ => rfl⟩
theorem GrL.of0 (h : w.grownBy w' none) : GrL ps w w' := ⟨h.os, h.tape, h.output, h.size, fun i hi _ => h.block i hi (by simp)⟩
theorem GrL.of1 (h : w.grownBy w' row) : GrL [row] w w' := ⟨h.os, h.tape, h.output, h.size, fun i hi k => h.block i hi fun e => k row (List.Mem.head _) e.symm⟩
theorem GrL.toL (h : GrL [] w w') : w.grownBy w' none := ⟨h.os, h.tape, h.output, h.size, fun i hi _ => h.block i hi fun _ hp => by cases hp⟩
theorem GrL.trans (h : GrL ps a b) (k : GrL ps b c) : GrL ps a c :=
  ⟨k.os.trans h.os, k.tape.trans h.tape, k.output.trans h.output, Nat.le_trans h.size k.size, fun i hi hp => (k.block i (Nat.lt_of_lt_of_le hi h.size) hp).trans (h.block i hi hp)⟩
theorem GrL.modL (h : GrL ps a b) (k : GrL qs b c) (hi : AllP (InP ps a.heap.size) qs) : GrL ps a c :=
  ⟨k.os.trans h.os, k.tape.trans h.tape, k.output.trans h.output, Nat.le_trans h.size k.size, fun i hl hp => (k.block i (Nat.lt_of_lt_of_le hl h.size) fun q hq e => by
    rcases hi q hq i e with h1 | h1
    · omega
    · exact hp _ h1 rfl).trans (h.block i hl hp)⟩
theorem GrL.mod (h : GrL ps a b) (k : b.grownBy c row) (hi : InP ps a.heap.size row) : GrL ps a c := h.modL (GrL.of1 k) (apC hi apN)
theorem GrL.add0 (h : GrL ps a b) (k : b.grownBy c none) : GrL ps a c := h.trans (GrL.of0 k)
theorem gr_modL (h : a.grownBy b none) (k : GrL qs b c) (hi : AllP (fun q => Ge q a.heap.size) qs) : a.grownBy c none :=
  (GrL.modL (ps := []) (GrL.of0 h) k fun q hq => InP.ge (hi q hq)).toL
theorem GrL.eqv (h : GrL ps a b) (k : Eqv b c) : GrL ps a c := h.add0 (gr_eqv (gr_refl b none) k)
theorem GrL.sizeL (h : GrL ps a b) : a.heap.size ≤ b.heap.size := h.size
/-- one block's row, as_ 'grownBy' says it -/
theorem GrL.cell (h : GrL ps w w') {ad : Addr} {v : Value} (hc : w.cell? ad = some v) (hp : ∀ p, List.Mem p ps → p ≠ some ad.block) : w'.cell? ad = some v := by
  have hlt := World.block_lt_of_cell? w _ hc
  have := h.block ad.block hlt hp
  unfold World.cell? at hc ⊢
  rw [this]; exact hc
variable {α : Type} {f : α → Value} {A : Option Addr} {B cc g k : Nat} {xs : List α} {e : TypeId} {us : List Value} {fk : α → List Value}
theorem Bl.goL (h : Bl w g e us) (hg : GrL ps w w') (hd : AllP (Dj (some g)) ps) : Bl w' g e us := (hg.block g h.lt fun p hp e => hd p hp g rfl e).trans h
theorem Rd.goL (h : Rd f w A cc xs) (hg : GrL ps w w') (hd : AllP (Dn xs (blk A)) ps) : Rd f w' A cc xs :=
  ⟨h.cap, h.max, fun hx => by
    obtain ⟨ad, rfl, hc⟩ := h.cells hx
    refine ⟨ad, rfl, fun j x hj => hg.cell (hc j x hj) fun p hp e => ?_⟩
    rw [addr_block] at e
    exact hd p hp hx ad.block rfl e⟩
theorem RdK.goL (h : RdK k fk w A cc xs) (hg : GrL ps w w') (hd : AllP (Dn xs (blk A)) ps) : RdK k fk w' A cc xs :=
  ⟨h.ok, h.cap, h.max, fun hx => by
    obtain ⟨g', o, rfl, hc⟩ := h.cells hx
    refine ⟨g', o, rfl, fun j x i u hj hi => hg.cell (hc j x i u hj hi) fun p hp e => ?_⟩
    exact hd p hp hx g' rfl e⟩
theorem Own.goL (h : Own f w B e A cc xs) (hg : GrL ps w w') (hd : AllP (Dj (blk A)) ps) : Own f w' B e A cc xs := by
  have hlt := h.lt'
  unfold Own at h ⊢
  refine ⟨h.1, ?_⟩
  rcases h.2 with h2 | ⟨g, cap, cur, hv, hb, hg', r⟩
  · exact .inl h2
  · refine .inr ⟨g, cap, cur, hv, hb, ?_, r⟩
    simp only [Value.slice.injEq] at hv
    obtain ⟨rfl, _⟩ := hv
    exact (hg.block g (hlt g rfl) fun p hp e => hd p hp g rfl e).trans hg'
theorem OwnK.goL (h : OwnK k fk w B e A cc xs) (hg : GrL ps w w') (hd : AllP (Dj (blk A)) ps) : OwnK k fk w' B e A cc xs := by
  have hlt := h.lt'
  refine ⟨h.1, h.2.1, ?_⟩
  rcases h.2.2 with h2 | ⟨g, cap, cur, hv, hb, hg', r⟩
  · exact .inl h2
  · refine .inr ⟨g, cap, cur, hv, hb, ?_, r⟩
    simp only [Value.slice.injEq] at hv
    obtain ⟨rfl, _⟩ := hv
    exact (hg.block g (hlt g rfl) fun p hp e => hd p hp g rfl e).trans hg'
theorem MapB.goL {κ ν : Type} {mk : κ → Value} {ok : κ → Prop} {fv : ν → Value} {mm : List (κ × ν)} (h : MapB mk ok fv w g mm) (hg : GrL ps w w') (hd : AllP (Dj (some g)) ps) : MapB mk ok fv w' g mm := by
  have hlt := h.lt
  obtain ⟨es, clock, hb, r⟩ := h
  exact ⟨es, clock, (hg.block g hlt (fun p hp e => hd p hp g rfl e)).trans hb, r⟩
variable {S : List Nat}
/-- the variables hold what they were laid with; they all lie below B -/
def GB (S : List Nat) (B : Nat) (w : World) : Prop := ∃ W, GOK S W ∧ W.heap.size ≤ B ∧ Below W.heap.size W w
theorem GB.ok (h : GB S B w) : GOK S w := by
  obtain ⟨W, h1, _, h3⟩ := h
  exact h1.grown (gr_below h3 none)
theorem belowL {W : World} {n : Nat} (h3 : Below n W w) (hn : n ≤ B) (hg : GrL ps w w') (hp : AllP (fun p => Ge p B) ps) (hW : n ≤ W.heap.size) : Below n W w' := by
  refine ⟨hg.os.trans h3.os, hg.tape.trans h3.tape, hg.output.trans h3.output, Nat.le_trans h3.size hg.size, fun i hi => ?_⟩
  refine (hg.block i (Nat.lt_of_lt_of_le (Nat.lt_of_lt_of_le hi hW) h3.size) fun p hm e => ?_).trans (h3.block i hi)
  have := hp p hm i e
  omega
theorem GB.goL (h : GB S B w) (hg : GrL ps w w') (hp : AllP (fun p => Ge p B) ps) : GB S B w' := by
  obtain ⟨W, h1, h2, h3⟩ := h
  exact ⟨W, h1, h2, belowL h3 h2 hg hp (Nat.le_refl _)⟩
theorem GB.g0 (h : GB S B w) (hg : w.grownBy w' none) : GB S B w' := h.goL (ps := []) (GrL.of0 hg) apN
theorem GB.mono {B' : Nat} (h : GB S B w) (hB : B ≤ B') : GB S B' w := by
  obtain ⟨W, h1, h2, h3⟩ := h
  exact ⟨W, h1, Nat.le_trans h2 hB, h3⟩
theorem GB.grown {W : World} (h : GOK S W) (hg : W.grownBy w none) : GB S W.heap.size w := ⟨W, h, Nat.le_refl _, below_gr hg⟩
/-- no error with a place lies there -/
def NoAt (w : World) (p : Option Nat) : Prop := ∀ g us, p = some g → ¬ Bl w g 165 us
theorem NoAt.bl (h : Bl w g e us) (ht : Nat.beq e 165 = false) : NoAt w (some g) := fun g' us' hg' hB => by
  cases hg'
  exact Bl.ne h hB (Nat.ne_of_beq_eq_false ht) rfl
theorem NoAt.own (h : Own f w B e A cc xs) (ht : Nat.beq e 165 = false) : NoAt w (blk A) := fun g' us' hg' hB => by
  rcases h.2 with ⟨hv, _⟩ | ⟨g, cap, cur, hv, _, hb, _⟩
  · simp only [Value.slice.injEq] at hv
    obtain ⟨rfl, _⟩ := hv
    cases hg'
  · simp only [Value.slice.injEq] at hv
    obtain ⟨rfl, _⟩ := hv
    cases hg'
    exact Bl.ne (us := cur.toList) hb hB (Nat.ne_of_beq_eq_false ht) rfl
theorem NoAt.ownK (h : OwnK k fk w B e A cc xs) (ht : Nat.beq e 165 = false) : NoAt w (blk A) := fun g' us' hg' hB => by
  rcases h.2.2 with ⟨hv, _⟩ | ⟨g, cap, cur, hv, _, hb, _⟩
  · simp only [Value.slice.injEq] at hv
    obtain ⟨rfl, _⟩ := hv
    cases hg'
  · simp only [Value.slice.injEq] at hv
    obtain ⟨rfl, _⟩ := hv
    cases hg'
    exact Bl.ne (us := cur.toList) hb hB (Nat.ne_of_beq_eq_false ht) rfl
theorem NoAt.map {κ ν : Type} {mk : κ → Value} {ok : κ → Prop} {fv : ν → Value} {mm : List (κ × ν)} (h : MapB mk ok fv w g mm) : NoAt w (some g) := fun g' us' hg' hB => by
  cases hg'
  obtain ⟨es, clock, hb, _⟩ := h
  unfold Bl at hB
  rw [hb] at hB
  cases hB
theorem ErrR.goB {v : Value} {er : Er} (h : ErrR S w v er) (hG : GB S B w) (hg : GrL ps w w') (hp : AllP (fun p => Ge p B) ps) (hn : AllP (NoAt w) ps) : ErrR S w' v er := by
  have key : ∀ {v : Value} {n : Nat}, ErV w v n → n ∈ S → ErV w' v n := fun {v n} hv hS => by
    obtain ⟨W, h1, h2, h3⟩ := hG
    obtain ⟨u, hu⟩ := h1.er n hS hv.lt
    rw [ErV.uniq hv (hu.grown (gr_below h3 none))]
    exact hu.grown (gr_below (belowL h3 h2 hg hp (Nat.le_refl _)) none)
  cases er with
  | ok => exact h
  | e n => exact ⟨key h.1 h.2, h.2⟩
  | at_ pos n =>
    obtain ⟨b, u, k1, k2, k3, k4⟩ := h
    exact ⟨b, u, k1, k2.goL hg fun p hm g' hg' hpe => by cases hg'; exact hn p hm _ _ hpe k2, key k3 k4, k4⟩
end
end Go.Proofs.YtlonpmajnglmoaaDoor

 /- Pools: maps from texts to pointers at boxes that lie apart; one of them may be open. -/
namespace Go.Proofs.YtlonpmajnglmoaaDoor
open Go Go.RowKit
section
variable {κ ν μ : Type} [DecidableEq κ]
def mmap (g : ν → μ) (m : List (κ × ν)) : List (κ × μ) := m.map fun p => (p.1, g p.2)
theorem mget_mmap (g : ν → μ) (k : κ) : ∀ m : List (κ × ν), mget (mmap g m) k = (mget m k).map g
  | [] => rfl
  | p :: m => by
    show (if p.1 = k then some (g p.2) else mget (mmap g m) k) = (if p.1 = k then some p.2 else mget m k).map g
    split
    · rfl
    · exact mget_mmap g k m
theorem mput_mmap (g : ν → μ) (k : κ) (v : ν) : ∀ m : List (κ × ν), mput (mmap g m) k (g v) = mmap g (mput m k v)
  | [] => rfl
  | p :: m => by
    show (if p.1 = k then (k, g v) :: mmap g m else (p.1, g p.2) :: mput (mmap g m) k (g v)) = mmap g (if p.1 = k then (k, v) :: m else p :: mput m k v)
    split
    · rfl
    · rw [mput_mmap g k v m]; rfl
theorem mget_keys : ∀ {a : List (κ × ν)} {b : List (κ × μ)}, a.map (·.1) = b.map (·.1) → ∀ k, (mget a k).isSome = (mget b k).isSome
  | [], [], _, _ => rfl
  | [], _ :: _, h, _ => by simp at h
  | _ :: _, [], h, _ => by simp at h
  | p :: a, r :: b, h, k => by
    simp only [List.map_cons, List.cons.injEq] at h
    unfold mget
    rw [h.1]
    split
    · rfl
    · exact mget_keys h.2 k
theorem mput_same {g : ν → μ} {k : κ} {v u : ν} (hg : g v = g u) : ∀ {m : List (κ × ν)}, mget m k = some u → (mput m k v).map (fun p => (p.1, g p.2)) = m.map fun p => (p.1, g p.2)
  | [], h => by simp [mget] at h
  | p :: m, h => by
    unfold mget at h
    unfold mput
    split at h
    · rename_i e
      simp only [Option.some.injEq] at h
      rw [if_pos e, List.map_cons, List.map_cons, hg, ← h, e]
    · rename_i e
      rw [if_neg e, List.map_cons, List.map_cons, mput_same hg h]
theorem mget_same (m : List (κ × ν)) (k : κ) (v : ν) : mget (mput m k v) k = some v := by rw [mget_mput, if_pos rfl]
end
abbrev PH := Nat × Option Nat
def vP (o : Option PH) : Value := .pointer (o.map fun h => ⟨h.1, 0, none⟩)
def pq (hs : List (List UInt8 × PH)) (q : List UInt8) : Value := vP (mget hs q)
theorem pq_some {hs : List (List UInt8 × PH)} {q : List UInt8} {b : Nat} {r : Option Nat} (h : mget hs q = some (b, r)) : pq hs q = .pointer (some ⟨b, 0, none⟩) := by unfold pq; rw [h]; rfl
def pqo (hs : List (List UInt8 × PH)) (q : List UInt8) (o : Nat) : Value := .pointer ((mget hs q).map fun h => ⟨h.1, o, none⟩)
theorem pqo_some {hs : List (List UInt8 × PH)} {q : List UInt8} {b o : Nat} {r : Option Nat} (h : mget hs q = some (b, r)) : pqo hs q o = .pointer (some ⟨b, o, none⟩) := by unfold pqo; rw [h]; rfl
theorem isSome_of {α : Type} {o : Option α} (h : o.isNone = false) : o.isSome = true := by
  cases o with
  | none => cases h
  | some x => rfl
theorem getD_some {α : Type} {o : Option α} {z : α} (h : o.isSome = true) : o = some (o.getD z) := by
  cases o with
  | none => cases h
  | some x => rfl
section
variable {ps : List (Option Nat)} {Q : Option Nat → Prop} {n m : Nat} {F qs : List (Option Nat)} {q row : Option Nat} {w : World}
theorem apH {p : Option Nat} (h : AllP Q (p :: ps)) : Q p := h _ (List.Mem.head _)
theorem apNl : AllP (Dj none) ps := fun _ _ => Dj.nl
theorem InA.mem (h : ∀ p, List.Mem p F → List.Mem p ps) : AllP (InP ps n) F := fun p hp => InP.mem (h p hp)
theorem InA.ge (h : AllP (fun p => Ge p n) F) : AllP (InP ps n) F := fun p hp => InP.ge (h p hp)
theorem InA.trans (h : AllP (InP qs m) F) (k : AllP (InP ps n) qs) (hm : n ≤ m) : AllP (InP ps n) F := fun p hp => (h p hp).trans k hm
theorem InA.toGe (h : AllP (InP qs m) F) (k : AllP (fun q => Ge q n) qs) (hm : n ≤ m) : AllP (fun q => Ge q n) F := fun p hp => (h p hp).toGe k hm
theorem InA.dj (h : AllP (InP qs m) F) (hq : Lt q m) (k : AllP (Dj q) qs) : AllP (Dj q) F := fun p hp => ((h p hp).dj hq k).symm
end
/-- where a pool lies: its map, its boxes, what hangs on them; without the one that is open -/
def FP (m : Nat) (hs : List (List UInt8 × PH)) (q0 : Option (List UInt8)) : List (Option Nat) := some m :: (hs.filter fun h => decide (some h.1 ≠ q0)).flatMap fun h => [some h.2.1, h.2.2]
structure PE (X : Type) where
  rel : World → PH → X → Prop
  goL : ∀ {w w' : World} {h : PH} {x : X} {ps : List (Option Nat)}, rel w h x → GrL ps w w' → AllP (Dj (some h.1)) ps → AllP (Dj h.2) ps → rel w' h x
  lt : ∀ {w : World} {h : PH} {x : X}, rel w h x → Lt (some h.1) w.heap.size ∧ Lt h.2 w.heap.size
  isc : Nat → Bool
  sc : X → Nat → Value
  hsc : ∀ {w : World} {h : PH} {x : X} {o : Nat}, isc o = true → rel w h x → w.cell? ⟨h.1, o, none⟩ = some (sc x o)
  noat : ∀ {w : World} {h : PH} {x : X}, rel w h x → NoAt w (some h.1) ∧ NoAt w h.2
structure PoolO {X : Type} (d : PE X) (w : World) (m : Nat) (hs : List (List UInt8 × PH)) (fs : List (List UInt8 × X)) (q0 : Option (List UInt8)) : Prop where
  map : MapB vs okS vP w m (mmap some hs)
  keys : hs.map (·.1) = fs.map (·.1)
  rel : ∀ q h x, mget hs q = some h → mget fs q = some x → some q ≠ q0 → d.rel w h x
  dm : ∀ q h, mget hs q = some h → some q ≠ q0 → Dj (some m) (some h.1) ∧ Dj (some m) h.2
  dd : ∀ q q' h h', q ≠ q' → mget hs q = some h → mget hs q' = some h' → some q ≠ q0 → some q' ≠ q0 → Dj (some h.1) (some h'.1) ∧ Dj (some h.1) h'.2 ∧ Dj h.2 (some h'.1) ∧ Dj h.2 h'.2
section
variable {X : Type} {d : PE X} {w w' : World} {m : Nat} {hs : List (List UInt8 × PH)} {fs : List (List UInt8 × X)} {q0 : Option (List UInt8)} {Q : Option Nat → Prop} {ps : List (Option Nat)} {row p : Option Nat} {q : List UInt8} {x x' : X} {b : Nat} {r r' : Option Nat}
theorem PoolO.uq (h : PoolO d w m hs fs q0) : Uq hs := by
  have := h.map.uq
  unfold Uq mmap at *
  rw [List.map_map] at this
  exact this
theorem PoolO.some_iff (h : PoolO d w m hs fs q0) (q : List UInt8) : (mget hs q).isSome = (mget fs q).isSome := mget_keys h.keys q
theorem allFP (hu : Uq hs) : AllP Q (FP m hs q0) ↔ Q (some m) ∧ ∀ q h, mget hs q = some h → some q ≠ q0 → Q (some h.1) ∧ Q h.2 := by
  constructor
  · intro h
    refine ⟨h _ (List.Mem.head _), fun q k hk hq => ?_⟩
    have hm := (mget_mem hu).1 hk
    have hf : (q, k) ∈ hs.filter fun h => decide (some h.1 ≠ q0) := List.mem_filter.2 ⟨hm, by simpa using hq⟩
    exact ⟨h _ (List.Mem.tail _ (List.mem_flatMap.2 ⟨_, hf, by simp⟩)), h _ (List.Mem.tail _ (List.mem_flatMap.2 ⟨_, hf, by simp⟩))⟩
  · rintro ⟨h1, h2⟩ p hp
    cases hp with
    | head => exact h1
    | tail _ hp =>
      obtain ⟨k, hk, hp⟩ := List.mem_flatMap.1 hp
      obtain ⟨hm, hq⟩ := List.mem_filter.1 hk
      have h3 := h2 k.1 k.2 ((mget_mem hu).2 hm) (by simpa using hq)
      simp only [List.mem_cons, List.not_mem_nil, or_false] at hp
      rcases hp with rfl | rfl
      · exact h3.1
      · exact h3.2
theorem PoolO.goL (h : PoolO d w m hs fs q0) (hg : GrL ps w w') (hd : AllP (fun r => AllP (Dj r) (FP m hs q0)) ps) : PoolO d w' m hs fs q0 :=
  ⟨h.map.goL hg fun p hp => (((allFP h.uq).1 (hd p hp)).1).symm, h.keys, fun q k x hk hx hq => d.goL (h.rel q k x hk hx hq) hg (fun p hp => ((((allFP h.uq).1 (hd p hp)).2 q k hk hq).1).symm) (fun p hp => ((((allFP h.uq).1 (hd p hp)).2 q k hk hq).2).symm), h.dm, h.dd⟩
theorem PoolO.go (h : PoolO d w m hs fs q0) (hg : w.grownBy w' row) (hd : AllP (Dj row) (FP m hs q0)) : PoolO d w' m hs fs q0 := h.goL (GrL.of1 hg) (apC hd apN)
theorem PoolO.g0 (h : PoolO d w m hs fs q0) (hg : w.grownBy w' none) : PoolO d w' m hs fs q0 := h.goL (ps := []) (GrL.of0 hg) apN
theorem PoolO.eqv (hw : Eqv w w') (h : PoolO d w m hs fs q0) : PoolO d w' m hs fs q0 := h.g0 (gr_eqv (gr_refl w none) hw)
theorem PoolO.lts (h : PoolO d w m hs fs q0) (hf : (∀ q, (mget hs q).isSome = (mget fs q).isSome)) : AllP (fun p => Lt p w.heap.size) (FP m hs q0) := (allFP h.uq).2 ⟨h.map.lt', fun q k hk hq => by
  have h1 := hf q
  rw [hk, Option.isSome_some] at h1
  obtain ⟨x, hx⟩ := Option.isSome_iff_exists.1 h1.symm
  exact d.lt (h.rel q k x hk hx hq)⟩
theorem PoolO.lt' (h : PoolO d w m hs fs q0) : AllP (fun p => Lt p w.heap.size) (FP m hs q0) := h.lts h.some_iff
/-- what is new lies apart from it -/
theorem PoolO.new (h : PoolO d w m hs fs q0) (hp : Ge p w.heap.size) : AllP (Dj p) (FP m hs q0) := fun r hr => (Dj.new (h.lt' r hr) hp).symm
theorem PoolO.inp (h : PoolO d w m hs fs q0) (hp : InP ps w.heap.size p) (hd : AllP (fun r => AllP (Dj r) (FP m hs q0)) ps) : AllP (Dj p) (FP m hs q0) := fun r hr => InP.dj hp (h.lt' r hr) (fun s hs' => (hd s hs' r hr).symm)
theorem PoolO.app {p' : Option Nat} (h : PoolO d w m hs fs q0) (k : AllP (Dj p) (FP m hs q0)) (hk : ∀ g, p' = some g → p = some g ∨ w.heap.size ≤ g) : AllP (Dj p') (FP m hs q0) := fun r hr => Dj.app (k r hr) (h.lt' r hr) hk
/-- one is opened -/
theorem PoolO.open (h : PoolO d w m hs fs none) (hx : mget fs q = some x) : ∃ b r, mget hs q = some (b, r) ∧ d.rel w (b, r) x ∧ PoolO d w m hs fs (some q) ∧ AllP (Dj (some b)) (FP m hs (some q)) ∧ AllP (Dj r) (FP m hs (some q)) := by
  have h1 := h.some_iff q
  rw [hx, Option.isSome_some] at h1
  obtain ⟨⟨b, r⟩, hk⟩ := Option.isSome_iff_exists.1 h1
  have hm := h.dm q _ hk (by simp)
  refine ⟨b, r, hk, h.rel q _ x hk hx (by simp), ⟨h.map, h.keys, fun q' k y hk' hy _ => h.rel q' k y hk' hy (by simp), fun q' k hk' _ => h.dm q' k hk' (by simp), fun q' q2 k k2 hne hk' hk2 _ _ => h.dd q' q2 k k2 hne hk' hk2 (by simp) (by simp)⟩, ?_, ?_⟩
  · refine (allFP h.uq).2 ⟨hm.1.symm, fun q' k hk' hq' => ?_⟩
    have := h.dd q q' _ k (fun e => hq' (by rw [e])) hk hk' (by simp) (by simp)
    exact ⟨this.1, this.2.1⟩
  · refine (allFP h.uq).2 ⟨hm.2.symm, fun q' k hk' hq' => ?_⟩
    have := h.dd q q' _ k (fun e => hq' (by rw [e])) hk hk' (by simp) (by simp)
    exact ⟨this.2.2.1, this.2.2.2⟩
theorem PoolO.peek (h : PoolO d w m hs fs none) (hx : mget fs q = some x) : ∃ b r, mget hs q = some (b, r) ∧ d.rel w (b, r) x := by
  obtain ⟨b, r, h1, h2, _⟩ := h.open hx
  exact ⟨b, r, h1, h2⟩
theorem PoolO.sub (h : PoolO d w m hs fs q0) (k : AllP Q (FP m hs none)) : AllP Q (FP m hs (some q)) := (allFP h.uq).2 ⟨((allFP h.uq).1 k).1, fun q' k' hk' _ => ((allFP h.uq).1 k).2 q' k' hk' (by simp)⟩
theorem PoolO.at1 (h : PoolO d w m hs fs q0) (hk : mget hs q = some (b, r)) (k : AllP Q (FP m hs none)) : Q (some b) := (((allFP h.uq).1 k).2 q _ hk (by simp)).1
theorem PoolO.at2 (h : PoolO d w m hs fs q0) (hk : mget hs q = some (b, r)) (k : AllP Q (FP m hs none)) : Q r := (((allFP h.uq).1 k).2 q _ hk (by simp)).2
/-- closed again -/
theorem PoolO.close (h : PoolO d w m hs fs (some q)) (hk : mget hs q = some (b, r)) (hr : d.rel w (b, r') x') (h1 : AllP (Dj (some b)) (FP m hs (some q))) (h2 : AllP (Dj r') (FP m hs (some q))) : PoolO d w m (mput hs q (b, r')) (mput fs q x') none := by
  have hu := h.uq
  have hS : (mget fs q).isSome = true := by rw [← h.some_iff, hk]; rfl
  have h1' := (allFP hu).1 h1
  have h2' := (allFP hu).1 h2
  have old : ∀ {q' k}, mget (mput hs q (b, r')) q' = some k → (q' = q ∧ k = (b, r')) ∨ (some q' ≠ some q ∧ mget hs q' = some k) := fun {q' k} e => by
    rw [mget_mput] at e
    split at e
    · rename_i e2; simp only [Option.some.injEq] at e; exact .inl ⟨e2.symm, e.symm⟩
    · rename_i e2; exact .inr ⟨fun e3 => e2 (Option.some.inj e3).symm, e⟩
  refine ⟨?_, ?_, ?_, ?_, ?_⟩
  · obtain ⟨es, clock, hb, hst, hsz, hok, he⟩ := h.map
    refine ⟨es, clock, hb, hst, hsz, ?_, ?_⟩
    · intro p hp
      obtain ⟨p', hp', rfl⟩ := List.mem_map.1 hp
      rcases mput_mem hp' with rfl | hp'
      · exact hok (q, some (b, r)) (List.mem_map.2 ⟨_, (mget_mem hu).1 hk, rfl⟩)
      · exact hok _ (List.mem_map.2 ⟨_, hp', rfl⟩)
    · rw [he]
      unfold mmap
      rw [List.map_map, List.map_map]
      have := mput_same (g := fun k : PH => vP (some k)) (v := (b, r')) (u := (b, r)) rfl hk
      have h3 := congrArg (List.map fun p => (vs p.1, p.2)) this
      rw [List.map_map, List.map_map] at h3
      exact h3.symm
  · rw [mput_keys, mput_keys, hk, hS]
    exact h.keys
  · intro q' k x hk' hx _
    rw [mget_mput] at hx
    rcases old hk' with ⟨rfl, rfl⟩ | ⟨hq', hk'⟩
    · rw [if_pos rfl] at hx
      cases hx; exact hr
    · rw [if_neg (fun e => hq' (by rw [e]))] at hx
      exact h.rel q' k x hk' hx hq'
  · intro q' k hk' _
    rcases old hk' with ⟨rfl, rfl⟩ | ⟨hq', hk'⟩
    · exact ⟨h1'.1.symm, h2'.1.symm⟩
    · exact h.dm q' k hk' hq'
  · intro q1 q2 k1 k2 hne hk1 hk2 _ _
    rcases old hk1 with ⟨rfl, rfl⟩ | ⟨hq1, hj1⟩ <;> rcases old hk2 with ⟨rfl, rfl⟩ | ⟨hq2, hj2⟩
    · exact absurd rfl hne
    · have a := h1'.2 q2 k2 hj2 hq2
      have c := h2'.2 q2 k2 hj2 hq2
      exact ⟨a.1, a.2, c.1, c.2⟩
    · have a := h1'.2 q1 k1 hj1 hq1
      have c := h2'.2 q1 k1 hj1 hq1
      exact ⟨a.1.symm, c.1.symm, a.2.symm, c.2.symm⟩
    · exact h.dd q1 q2 k1 k2 hne hj1 hj2 hq1 hq2
theorem PoolO.back (h : PoolO d w m hs fs (some q)) (hk : mget hs q = some (b, r)) (hx : mget fs q = some x) (hr : d.rel w (b, r) x) (h1 : AllP (Dj (some b)) (FP m hs (some q))) (h2 : AllP (Dj r) (FP m hs (some q))) : PoolO d w m hs fs none := by
  have hu := h.uq
  have h1' := (allFP hu).1 h1
  have h2' := (allFP hu).1 h2
  refine ⟨h.map, h.keys, fun q' k y hk' hy _ => ?_, fun q' k hk' _ => ?_, fun q1 q2 k1 k2 hne hk1 hk2 _ _ => ?_⟩
  · by_cases e : q' = q
    · subst e; rw [hk] at hk'; rw [hx] at hy; cases hk'; cases hy; exact hr
    · exact h.rel q' k y hk' hy (fun e2 => e (Option.some.inj e2))
  · by_cases e : q' = q
    · subst e; rw [hk] at hk'; cases hk'; exact ⟨h1'.1.symm, h2'.1.symm⟩
    · exact h.dm q' k hk' (fun e2 => e (Option.some.inj e2))
  · by_cases e1 : q1 = q
    · subst e1
      rw [hk] at hk1; cases hk1
      have e2 : some q2 ≠ some q1 := fun e => hne (Option.some.inj e).symm
      have a := h1'.2 q2 k2 hk2 e2
      have c := h2'.2 q2 k2 hk2 e2
      exact ⟨a.1, a.2, c.1, c.2⟩
    · by_cases e2 : q2 = q
      · subst e2
        rw [hk] at hk2; cases hk2
        have e3 : some q1 ≠ some q2 := fun e => hne (Option.some.inj e)
        have a := h1'.2 q1 k1 hk1 e3
        have c := h2'.2 q1 k1 hk1 e3
        exact ⟨a.1.symm, c.1.symm, a.2.symm, c.2.symm⟩
      · exact h.dd q1 q2 k1 k2 hne hk1 hk2 (fun e => e1 (Option.some.inj e)) (fun e => e2 (Option.some.inj e))
theorem PoolO.backA (h : PoolO d w m hs fs q0) (hk : mget hs q = some (b, r)) (k : AllP Q (FP m hs (some q))) (k1 : Q (some b)) (k2 : Q r) : AllP Q (FP m hs none) := by
  have hu := h.uq
  refine (allFP hu).2 ⟨((allFP hu).1 k).1, fun q' k' hk' _ => ?_⟩
  by_cases e : q' = q
  · subst e; rw [hk] at hk'; cases hk'; exact ⟨k1, k2⟩
  · exact ((allFP hu).1 k).2 q' k' hk' (fun e2 => e (Option.some.inj e2))
theorem PoolO.noats (h : PoolO d w m hs fs q0) : AllP (NoAt w) (FP m hs q0) := (allFP h.uq).2 ⟨NoAt.map h.map, fun q k hk hq => by
  have h1 := h.some_iff q
  rw [hk, Option.isSome_some] at h1
  obtain ⟨x, hx⟩ := Option.isSome_iff_exists.1 h1.symm
  exact d.noat (h.rel q k x hk hx hq)⟩
theorem PoolO.closeA (h : PoolO d w m hs fs q0) (k : AllP Q (FP m hs (some q))) (k1 : Q (some b)) (k2 : Q r') : AllP Q (FP m (mput hs q (b, r')) none) := by
  have hu := h.uq
  refine (allFP (hu.put q _)).2 ⟨((allFP hu).1 k).1, fun q' k' hk' _ => ?_⟩
  rw [mget_mput] at hk'
  split at hk'
  · cases hk'; exact ⟨k1, k2⟩
  · rename_i e
    exact ((allFP hu).1 k).2 q' k' hk' (fun e2 => e (Option.some.inj e2).symm)
/-- one is put in -/
theorem PoolO.putA (h : PoolO d w m hs fs none) (k : AllP Q (FP m hs none)) (k1 : Q (some b)) (k2 : Q r') : AllP Q (FP m (mput hs q (b, r')) none) := h.closeA (h.sub k) k1 k2
theorem PoolO.put (h : PoolO d w m hs fs none) (hM : MapB vs okS vP w' m (mput (mmap some hs) q (some (b, r)))) (hg : w.grownBy w' (some m)) (hr : d.rel w (b, r) x) (h1 : AllP (Dj (some b)) (FP m hs none)) (h2 : AllP (Dj r) (FP m hs none)) : PoolO d w' m (mput hs q (b, r)) (mput fs q x) none := by
  have hu := h.uq
  have h1' := (allFP hu).1 h1
  have h2' := (allFP hu).1 h2
  have old : ∀ {q' k}, mget (mput hs q (b, r)) q' = some k → (q' = q ∧ k = (b, r)) ∨ (q' ≠ q ∧ mget hs q' = some k) := fun {q' k} e => by
    rw [mget_mput] at e
    split at e
    · rename_i e2; simp only [Option.some.injEq] at e; exact .inl ⟨e2.symm, e.symm⟩
    · rename_i e2; exact .inr ⟨fun e3 => e2 e3.symm, e⟩
  have hkeys : (mput hs q (b, r)).map (·.1) = (mput fs q x).map (·.1) := by
    rw [mput_keys, mput_keys, h.some_iff q, h.keys]
  rw [mput_mmap] at hM
  refine ⟨hM, hkeys, ?_, ?_, ?_⟩
  · intro q' k x0 hk' hx _
    rw [mget_mput] at hx
    rcases old hk' with ⟨rfl, rfl⟩ | ⟨hq', hk'⟩
    · rw [if_pos rfl] at hx
      cases hx
      exact d.goL hr (GrL.of1 hg) (apC h1'.1 apN) (apC h2'.1 apN)
    · rw [if_neg (fun e => hq' e.symm)] at hx
      have hm := h.dm q' k hk' (by simp)
      exact d.goL (h.rel q' k x0 hk' hx (by simp)) (GrL.of1 hg) (apC hm.1.symm apN) (apC hm.2.symm apN)
  · intro q' k hk' _
    rcases old hk' with ⟨rfl, rfl⟩ | ⟨hq', hk'⟩
    · exact ⟨h1'.1.symm, h2'.1.symm⟩
    · exact h.dm q' k hk' (by simp)
  · intro q1 q2 k1 k2 hne hk1 hk2 _ _
    rcases old hk1 with ⟨rfl, rfl⟩ | ⟨hq1, hj1⟩ <;> rcases old hk2 with ⟨rfl, rfl⟩ | ⟨hq2, hj2⟩
    · exact absurd rfl hne
    · have a := h1'.2 q2 k2 hj2 (by simp)
      have c := h2'.2 q2 k2 hj2 (by simp)
      exact ⟨a.1, a.2, c.1, c.2⟩
    · have a := h1'.2 q1 k1 hj1 (by simp)
      have c := h2'.2 q1 k1 hj1 (by simp)
      exact ⟨a.1.symm, c.1.symm, a.2.symm, c.2.symm⟩
    · exact h.dd q1 q2 k1 k2 hne hj1 hj2 (by simp) (by simp)
theorem PoolO.empty (d : PE X) (h : MapB vs okS vP w m ([] : List (List UInt8 × Option PH))) : PoolO d w m [] [] none := ⟨h, rfl, fun q k x hk => by simp [mget] at hk, fun q k hk => by simp [mget] at hk, fun q q' k k' _ hk => by simp [mget] at hk⟩
theorem FP.nil (h : Q (some m)) : AllP Q (FP m [] q0) := by
  unfold FP
  exact apC h apN
/-! the rules -/
variable {P : Program} {N : Nat} {L : Slots} {ty t t' k e : TypeId} {pos : String} {af : Array Edge} {dd : Option Tmp} {y z u : Operand}
theorem Yld.plook (hK : KeyF P k vs okS) (ht : P.underlying t = some (.map k e)) (hz : ∀ w, (zeroValue e).run P w = .ok (.pointer none) w) (hm : PoolO d w m hs fs q0) (hx : opv L y = some (.map (some m))) (hy : opv L z = some (vs q)) (hq : q.length ≤ maxLen) :
    Yld P N w ⟨dd, .lookup t y z false, ty, pos, af, none⟩ L (pq hs q) := by
  have := Yld.look (P := P) (N := N) (ty := ty) (pos := pos) (af := af) (dd := dd) (z := (none : Option PH)) hK ht hz hm.map hx hy hq
  rw [mget_mmap] at this
  have e : ((mget hs q).map some).getD none = mget hs q := by cases mget hs q <;> rfl
  rw [e] at this
  exact this
theorem pq_none (h : PoolO d w m hs fs q0) (q : List UInt8) : pq hs q = .pointer none ∧ (mget fs q).isNone = true ∨ (∃ b, pq hs q = .pointer (some ⟨b, 0, none⟩)) ∧ (mget fs q).isNone = false := by
  have h1 := h.some_iff q
  unfold pq vP
  cases e : mget hs q with
  | none =>
    rw [e] at h1
    refine .inl ⟨rfl, ?_⟩
    cases f : mget fs q with
    | none => rfl
    | some x => rw [f] at h1; cases h1
  | some b =>
    rw [e] at h1
    refine .inr ⟨⟨b.1, rfl⟩, ?_⟩
    cases f : mget fs q with
    | none => rw [f] at h1; cases h1
    | some x => rfl
theorem Yld.peqP {w0 : World} (ht : P.underlying t = some (.pointer e)) (hm : PoolO d w0 m hs fs q0) (hx : opv L y = some (pq hs q)) (hy : opv L z = some (.pointer none)) : Yld P N w ⟨dd, .binOp .eql t y z t', ty, pos, af, none⟩ L (.bool (mget fs q).isNone) := by
  rcases pq_none hm q with ⟨h1, h2⟩ | ⟨⟨b, h1⟩, h2⟩
  · rw [h1] at hx; rw [h2]; exact Yld.peqnil ht hx hy
  · rw [h1] at hx; rw [h2]; exact Yld.peqnil ht hx hy
theorem Yld.pnenil {p : Option Addr} (h : P.underlying t = some (.pointer e)) (hx : opv L y = some (.pointer p)) (hy : opv L z = some (.pointer none)) : Yld P N w ⟨dd, .binOp .neq t y z t', ty, pos, af, none⟩ L (.bool p.isSome) := fun a w1 _ ha => by
  refine exec_bin (ha.ev hx) (ha.ev hy) (by unfold eqGuard; rfl) ?_
  have h : (Op.equal t (.pointer p) (.pointer none)).run P w1 = .ok p.isNone w1 := run_equal_of fun d => by
    cases p <;> simp [Op.equalIn, run_underlying h]
  simp [binOp, h]
theorem Yld.pneP {w0 : World} (ht : P.underlying t = some (.pointer e)) (hm : PoolO d w0 m hs fs q0) (hx : opv L y = some (pq hs q)) (hy : opv L z = some (.pointer none)) : Yld P N w ⟨dd, .binOp .neq t y z t', ty, pos, af, none⟩ L (.bool (mget fs q).isSome) := by
  have e : (mget fs q).isSome = !(mget fs q).isNone := by cases mget fs q <;> rfl
  rcases pq_none hm q with ⟨h1, h2⟩ | ⟨⟨b, h1⟩, h2⟩
  · rw [h1] at hx; rw [e, h2]; exact Yld.pnenil ht hx hy
  · rw [h1] at hx; rw [e, h2]; exact Yld.pnenil ht hx hy
theorem Yld.pchk {w0 : World} (h : PoolO d w0 m hs fs q0) (hk : (mget fs q).isSome = true) (hx : opv L y = some (pq hs q)) : Yld P N w ⟨dd, .nilCheck y, ty, pos, af, none⟩ L (pq hs q) := fun a w1 _ ha => by
  rw [← h.some_iff] at hk
  obtain ⟨⟨b, r⟩, hb⟩ := Option.isSome_iff_exists.1 hk
  rw [pq_some hb] at hx ⊢
  unfold execOp
  simp [ha.ev hx]
theorem Yld.pfa {w0 : World} {T : Tab} {fi o : Nat} {s : TypeId} {os : List Nat} (hT : T.Ok P) (h : PoolO d w0 m hs fs q0) (hk : (mget fs q).isSome = true) (hos : nk T.off s = some os) (ho : os[fi]? = some o) (hx : opv L y = some (pq hs q)) :
    Yld P N w ⟨dd, .fieldAddr s y fi, ty, pos, af, none⟩ L (pqo hs q o) := fun a w1 _ ha => by
  rw [← h.some_iff] at hk
  obtain ⟨⟨b, r⟩, hb⟩ := Option.isSome_iff_exists.1 hk
  rw [pq_some hb] at hx
  rw [pqo_some hb]
  obtain ⟨fs, hfs, hall⟩ := hT.off hos
  obtain ⟨fd, hfd, rfl, i, hi, hi0⟩ := hall _ _ ho
  unfold execOp
  simp [ha.ev hx, Instr.fieldAt, run_underlying hfs, hfd, Instr.sureAddr, fieldPlace, sizeOf, typeInfo, hi, hi0, Addr.add_mid]
theorem Yld.pld {T : Tab} {o : Nat} {z : X} {v : Value} {u0 : Unit} (hT : T.Ok P) (h : PoolO d w m hs fs none) (hk : (mget fs q).isSome = true) (hs1 : nk T.one t = some u0) (hx : opv L y = some (pqo hs q o)) (hi : d.isc o = true) (hv : d.sc ((mget fs q).getD z) o = v) :
    Yld P N w ⟨dd, .load t y, ty, pos, af, none⟩ L v := by
  have hx' := getD_some (z := z) hk
  obtain ⟨b, r, hb, hr⟩ := h.peek hx'
  rw [pqo_some hb] at hx
  exact Yld.cell hT ((d.hsc hi hr).trans (by rw [hv])) hs1 hx
theorem Ef0.poolPut (hK : KeyF P k vs okS) (ht : P.underlying t = some (.map k e)) (hm : PoolO d w m hs fs none) (hn : fs.length < maxLen) (hx : opv L y = some (.map (some m))) (hy : opv L z = some (vs q)) (hq : q.length ≤ maxLen) (hu : opv L u = some (.pointer (some ⟨b, 0, none⟩))) (hr : d.rel w (b, r) x) (h1 : AllP (Dj (some b)) (FP m hs none)) (h2 : AllP (Dj r) (FP m hs none)) :
    Ef0 P N w ⟨none, .mapUpdate t y z u, ty, pos, af, none⟩ L fun w' => PoolO d w' m (mput hs q (b, r)) (mput fs q x) none ∧ w.grownBy w' (some m) := by
  have hl : (mmap some hs).length < maxLen := by
    have := congrArg List.length hm.keys
    unfold mmap
    simp only [List.length_map] at this ⊢
    omega
  have := Ef0.mapPut (P := P) (N := N) (ty := ty) (pos := pos) (af := af) (fv := vP) (v := some (b, r)) hK ht hm.map hl hx hy hq hu
  intro a w1 hw ha
  obtain ⟨w', e1, h3, h4⟩ := this a w1 hw ha
  exact ⟨w', e1, hm.put h3 h4 hr h1 h2, h4⟩
end
end Go.Proofs.YtlonpmajnglmoaaDoor


 /- Going over a map: the entries that are still to come, whatever their order. -/
namespace Go.Proofs.YtlonpmajnglmoaaDoor
open Go Go.RowKit Go.MapKept Go.ChangeMaps
theorem setB_same {w : World} {r : Nat} {o0 : Obj} (h : w.heap[r]? = some o0) (o : Obj) : (setBlock w r o).heap[r]? = some o := by
  have := (Array.getElem?_eq_some_iff.1 h).1
  simp [setBlock, this]
theorem setB_other {w : World} {r i : Nat} (o : Obj) (hi : i ≠ r) : (setBlock w r o).heap[i]? = w.heap[i]? := by
  simp [setBlock, Array.getElem?_setIfInBounds, Ne.symm hi]
theorem filter_eraseIdx : ∀ (l : List MapEntry) (i : Nat) (hi : i < l.length), (l.map (·.born)).Nodup → l.filter (fun x => !(x.born == l[i].born)) = l.eraseIdx i
  | [], i, hi, _ => by simp at hi
  | x :: l, 0, _, hn => by
    have hn' := List.nodup_cons.1 hn
    simp only [List.getElem_cons_zero, List.eraseIdx_zero, List.tail_cons]
    rw [List.filter_cons, if_neg (by simp), List.filter_eq_self]
    intro y hy
    have : y.born ≠ x.born := fun e => hn'.1 (List.mem_map.2 ⟨y, hy, e⟩)
    simp [this]
  | x :: l, i + 1, hi, hn => by
    have hn' := List.nodup_cons.1 hn
    simp only [List.getElem_cons_succ, List.eraseIdx_cons_succ]
    have hi' : i < l.length := by simpa using hi
    have : x.born ≠ (l[i]).born := fun e => hn'.1 (List.mem_map.2 ⟨l[i], List.getElem_mem hi', e.symm⟩)
    rw [List.filter_cons, if_pos (by simp [this]), filter_eraseIdx l i hi' hn'.2]
section
variable {κ ν : Type} {P : Program} {k e t : TypeId} {fk : κ → Value} {ok : κ → Prop} {fv : ν → Value} {w w' : World} {b r : Nat} {m todo : List (κ × ν)} {row : Option Nat} {ps : List (Option Nat)}
/-- block r goes over the map b, whose entries are m; todo: those that are still to come -/
def RngB (fk : κ → Value) (fv : ν → Value) (w : World) (b r : Nat) (m todo : List (κ × ν)) : Prop :=
  ∃ es clock since seen c0, w.heap[b]? = some (.map es clock) ∧ Stamped es clock ∧ es.toList.map (fun e => (e.key, e.val)) = m.map (fun p => (fk p.1, fv p.2)) ∧ w.heap[r]? = some (.mapIter (some b) since seen c0) ∧ (∀ x ∈ es.toList, x.born < since) ∧ since ≤ c0 ∧ since ≤ clock ∧
    (leftOf es seen).toList.map (fun e => (e.key, e.val)) = todo.map fun p => (fk p.1, fv p.2)
theorem RngB.lt (h : RngB fk fv w b r m todo) : r < w.heap.size := by
  obtain ⟨_, _, _, _, _, _, _, _, hr, _⟩ := h
  exact (Array.getElem?_eq_some_iff.1 hr).1
theorem RngB.ltm (h : RngB fk fv w b r m todo) : b < w.heap.size := by
  obtain ⟨_, _, _, _, _, hb, _⟩ := h
  exact (Array.getElem?_eq_some_iff.1 hb).1
theorem RngB.lt' (h : RngB fk fv w b r m todo) : Lt (some r) w.heap.size := Lt.box h.lt
theorem RngB.goL (h : RngB fk fv w b r m todo) (hg : GrL ps w w') (h1 : AllP (Dj (some r)) ps) (h2 : AllP (Dj (some b)) ps) : RngB fk fv w' b r m todo := by
  have hlt := h.lt
  have hltm := h.ltm
  obtain ⟨es, clock, since, seen, c0, hb, hs, he, hr, rest⟩ := h
  exact ⟨es, clock, since, seen, c0, (hg.block b hltm (fun p hp e => h2 p hp b rfl e)).trans hb, hs, he, (hg.block r hlt (fun p hp e => h1 p hp r rfl e)).trans hr, rest⟩
theorem RngB.g0 (h : RngB fk fv w b r m todo) (hg : w.grownBy w' none) : RngB fk fv w' b r m todo := h.goL (ps := []) (GrL.of0 hg) apN apN
theorem RngB.go (h : RngB fk fv w b r m todo) (hg : w.grownBy w' row) (h1 : Dj (some r) row) (h2 : Dj (some b) row) : RngB fk fv w' b r m todo := h.goL (GrL.of1 hg) (apC h1 apN) (apC h2 apN)
theorem RngB.noat (h : RngB fk fv w b r m todo) : NoAt w (some r) := fun g' us' hg' hB => by
  cases hg'
  obtain ⟨_, _, _, _, _, _, _, _, hr, _⟩ := h
  unfold Bl at hB
  rw [hr] at hB
  cases hB
theorem RngB.eqv (hw : Eqv w w') (h : RngB fk fv w b r m todo) : RngB fk fv w' b r m todo := h.g0 (gr_eqv (gr_refl w none) hw)
theorem RngB.start (h : MapB fk ok fv w b m) (ht : P.underlying t = some (.map k e)) :
    ∃ w', (Instr.range t (.map (some b))).run P w = .ok (.pointer (some ⟨w.heap.size, 0, none⟩)) w' ∧ RngB fk fv w' b w.heap.size m m ∧ w.grownBy w' none := by
  have hlt := h.lt
  obtain ⟨es, clock, hb, hst, hsz, hok, he⟩ := h
  refine ⟨_, run_range_map w t k e b es clock ht hb, ⟨es, clock, clock, #[], clock, ((MapKept.heap_alloc w _).2 b hlt).trans hb, hst, he, (MapKept.heap_alloc w _).1, hst.1, Nat.le_refl _, Nat.le_refl _, ?_⟩, World.grownBy_alloc w _ none⟩
  have : leftOf es #[] = es := by unfold leftOf; exact Array.filter_eq_self.2 (fun x _ => by simp)
  rw [this, he]
/-- what the last step handed out -/
def RngE (w : World) (r : Nat) (u v : Value) : Prop := ∃ b es clock since seen x, w.heap[b]? = some (.map es clock) ∧ w.heap[r]? = some (.mapIter (some b) since (Array.push seen x.born) clock) ∧ x ∈ es.toList ∧ (es.toList.map (·.born)).Nodup ∧ x.key = u ∧ x.val = v
theorem RngE.eqv {u v : Value} (hw : Eqv w w') (h : RngE w r u v) : RngE w' r u v := by
  obtain ⟨b, es, clock, since, seen, x, h1, h2, h3⟩ := h
  exact ⟨b, es, clock, since, seen, x, by rw [hw.heap]; exact h1, by rw [hw.heap]; exact h2, h3⟩
theorem RngB.next (h : RngB fk fv w b r m todo) (ty : TypeId) :
    (todo = [] ∧ (Instr.next (.pointer (some ⟨r, 0, none⟩)) false ty).run P w = .ok (.tuple #[.bool false]) w) ∨
    ∃ (i : Nat) (q : κ × ν) (w' : World), todo[i]? = some q ∧ (Instr.next (.pointer (some ⟨r, 0, none⟩)) false ty).run P w = .ok (.tuple #[.bool true, fk q.1, fv q.2]) w' ∧ RngB fk fv w' b r m (todo.eraseIdx i) ∧ w.grownBy w' (some r) ∧ RngE w' r (fk q.1) (fv q.2) := by
  have hlt := h.lt
  obtain ⟨es, clock, since, seen, c0, hb, hst, he, hr, hold, hsc, hcl, htd⟩ := h
  rcases run_next_at (P := P) w ty r b since c0 seen es clock hr hb hold hsc with ⟨h0, h1⟩ | ⟨x, hx, w1, hal, h1⟩
  · refine .inl ⟨?_, h1⟩
    have := congrArg List.length htd
    simp only [List.length_map, Array.length_toList, h0] at this
    exact List.eq_nil_of_length_eq_zero this.symm
  · obtain ⟨i, hi, rfl⟩ := List.getElem_of_mem hx
    have hi2 : i < todo.length := by have := congrArg List.length htd; simp only [List.length_map] at this; omega
    have hq := congrArg (fun l => l[i]?) htd
    simp only [List.getElem?_map, List.getElem?_eq_getElem hi, List.getElem?_eq_getElem hi2, Option.map_some, Option.some.injEq, Prod.mk.injEq] at hq
    have hne : r ≠ b := fun e => by rw [e, hb] at hr; cases hr
    have hr1 : w1.heap[r]? = some (.mapIter (some b) since seen c0) := by rcases hal with rfl | rfl <;> exact hr
    have hb1 : w1.heap[b]? = some (.map es clock) := by rcases hal with rfl | rfl <;> exact hb
    refine .inr ⟨i, todo[i], _, List.getElem?_eq_getElem hi2, by rw [← hq.1, ← hq.2]; exact h1, ⟨es, clock, since, seen.push _, clock, (setB_other _ (fun e => hne e.symm)).trans hb1, hst, he, setB_same hr1 _, hold, hcl, hcl, ?_⟩, ?_, ⟨b, es, clock, since, seen, _, (setB_other _ (fun e => hne e.symm)).trans hb1, setB_same hr1 _, (mem_left hx).1, hst.2.1, hq.1, hq.2⟩⟩
    · have hpush : ∀ bn, (leftOf es (seen.push bn)).toList = (leftOf es seen).toList.filter (fun y => !(y.born == bn)) := fun bn => by
        unfold leftOf
        rw [Array.toList_filter, Array.toList_filter, List.filter_filter]
        congr 1
        funext y
        rw [contains_push]
        cases seen.contains y.born <;> simp
      have hnd : ((leftOf es seen).toList.map (·.born)).Nodup := by
        have := hst.2.1
        unfold leftOf
        rw [Array.toList_filter]
        exact this.sublist (List.Sublist.map _ List.filter_sublist)
      rw [hpush, filter_eraseIdx _ i hi hnd, map_eraseIdx, htd, map_eraseIdx]
    · have hg1 : w.grownBy w1 none := by
        rcases hal with rfl | rfl
        · exact gr_refl _ _
        · exact gr_eqv (gr_refl _ _) ⟨rfl, rfl, rfl, rfl⟩
      refine ⟨hg1.os, hg1.tape, hg1.output, ?_, fun j hj hjr => ?_⟩
      · have := hg1.size; simp [setBlock]; exact this
      · rw [setB_other _ (fun e => hjr (by rw [e]))]
        exact hg1.block j hj (by simp)
variable {N : Nat} {L : Slots} {ty : TypeId} {pos : String} {af : Array Edge} {dd : Option Tmp} {x : Operand}
theorem Eff.range (hm : MapB fk ok fv w b m) (ht : P.underlying t = some (.map k e)) (hx : opv L x = some (.map (some b))) : Eff P N w ⟨dd, .range t x, ty, pos, af, none⟩ L fun v w' => v = .pointer (some ⟨w.heap.size, 0, none⟩) ∧ RngB fk fv w' b w.heap.size m m ∧ w.grownBy w' none := fun a w1 hw ha => by
  obtain ⟨w', h1, h2, h3⟩ := RngB.start (P := P) (MapB.eqv hw hm) ht
  rw [hw.heap] at h1 h2
  refine ⟨_, w', ?_, rfl, h2, eqv_gr hw h3⟩
  unfold execOp
  simp [ha.ev hx, h1]
theorem Eff.next (hm : RngB fk fv w b r m todo) (hx : opv L x = some (.pointer (some ⟨r, 0, none⟩))) : Eff P N w ⟨dd, .next x false, ty, pos, af, none⟩ L fun v w' => (todo = [] ∧ v = .tuple #[.bool false] ∧ RngB fk fv w' b r m todo ∧ w.grownBy w' none) ∨ ∃ (i : Nat) (q : κ × ν), todo[i]? = some q ∧ v = .tuple #[.bool true, fk q.1, fv q.2] ∧ RngB fk fv w' b r m (todo.eraseIdx i) ∧ w.grownBy w' (some r) ∧ RngE w' r (fk q.1) (fv q.2) := fun a w1 hw ha => by
  rcases RngB.next (P := P) (hm.eqv hw) ty with ⟨h0, h1⟩ | ⟨i, q, w', h0, h1, h2, h3, h4⟩
  · refine ⟨_, w1, ?_, .inl ⟨h0, rfl, hm.eqv hw, gr_eqv (gr_refl _ _) hw⟩⟩
    unfold execOp
    simp [ha.ev hx, h1]
  · refine ⟨_, w', ?_, .inr ⟨i, q, h0, rfl, h2, eqv_gr hw h3, h4⟩⟩
    unfold execOp
    simp [ha.ev hx, h1]
end
section
variable {P : Program} {w : World} {r : Nat} {u v : Value} {N : Nat} {L : Slots} {ty : TypeId} {pos : String} {af : Array Edge} {dd : Option Tmp} {x : Operand}
theorem Yld.entry (h : RngE w r u v) (hx : opv L x = some (.pointer (some ⟨r, 0, none⟩))) : Yld P N w ⟨dd, .entry x, ty, pos, af, none⟩ L (.tuple #[u, v]) := fun a w1 hw ha => by
  obtain ⟨b, es, clock, since, seen, y, h1, h2, h3, h4, rfl, rfl⟩ := h.eqv hw
  unfold execOp
  simp [ha.ev hx, run_entry_at w1 r b since seen es clock y h2 h1 h3 h4]
end
/-! a pool -/
section
variable {X : Type} {d : PE X} {w w' : World} {m r : Nat} {hs : List (List UInt8 × PH)} {fs : List (List UInt8 × X)} {q0 : Option (List UInt8)} {ks : List (List UInt8)} {row : Option Nat} {ps : List (Option Nat)}
def RngP (w : World) (m r : Nat) (hs : List (List UInt8 × PH)) (ks : List (List UInt8)) : Prop := ∃ todo : List (List UInt8 × Option PH), RngB vs vP w m r (mmap some hs) todo ∧ ks = todo.map (·.1) ∧ ∀ p ∈ todo, p ∈ mmap some hs
theorem RngP.lt' (h : RngP w m r hs ks) : Lt (some r) w.heap.size := h.elim fun _ h => h.1.lt'
theorem RngP.g0 (h : RngP w m r hs ks) (hg : w.grownBy w' none) : RngP w' m r hs ks := h.elim fun t h => ⟨t, h.1.g0 hg, h.2⟩
theorem RngP.go (h : RngP w m r hs ks) (hg : w.grownBy w' row) (h1 : Dj (some r) row) (h2 : Dj (some m) row) : RngP w' m r hs ks := h.elim fun t h => ⟨t, h.1.go hg h1 h2, h.2⟩
theorem RngP.noat (h : RngP w m r hs ks) : NoAt w (some r) := h.elim fun _ h => h.1.noat
theorem RngP.goL (h : RngP w m r hs ks) (hg : GrL ps w w') (h1 : AllP (Dj (some r)) ps) (h2 : AllP (Dj (some m)) ps) : RngP w' m r hs ks := h.elim fun t h => ⟨t, h.1.goL hg h1 h2, h.2⟩
variable {P : Program} {k e t : TypeId} {N : Nat} {L : Slots} {ty : TypeId} {pos : String} {af : Array Edge} {dd : Option Tmp} {x : Operand}
theorem Eff.rangeP (hm : PoolO d w m hs fs q0) (ht : P.underlying t = some (.map k e)) (hx : opv L x = some (.map (some m))) : Eff P N w ⟨dd, .range t x, ty, pos, af, none⟩ L fun v w' => v = .pointer (some ⟨w.heap.size, 0, none⟩) ∧ RngP w' m w.heap.size hs (fs.map (·.1)) ∧ w.grownBy w' none :=
  fun a w1 hw ha => by
    obtain ⟨v, w', h1, h2, h3, h4⟩ := Eff.range (P := P) (N := N) (ty := ty) (pos := pos) (af := af) (dd := dd) hm.map ht hx a w1 hw ha
    exact ⟨v, w', h1, h2, ⟨_, h3, by rw [← hm.keys]; unfold mmap; rw [List.map_map]; rfl, fun p hp => hp⟩, h4⟩
theorem Eff.nextP (hm : RngP w m r hs ks) (hu : Uq hs) (hx : opv L x = some (.pointer (some ⟨r, 0, none⟩))) : Eff P N w ⟨dd, .next x false, ty, pos, af, none⟩ L fun v w' => (ks = [] ∧ v = .tuple #[.bool false] ∧ RngP w' m r hs ks ∧ w.grownBy w' none) ∨ ∃ (i : Nat) (q : List UInt8), ks[i]? = some q ∧ v = .tuple #[.bool true, vs q, pq hs q] ∧ (mget hs q).isSome = true ∧ RngP w' m r hs (ks.eraseIdx i) ∧ w.grownBy w' (some r) ∧ RngE w' r (vs q) (pq hs q) := by
  obtain ⟨todo, h1, rfl, h3⟩ := hm
  refine fun a w1 hw ha => ?_
  obtain ⟨v, w', e1, h⟩ := Eff.next (P := P) (N := N) (ty := ty) (pos := pos) (af := af) (dd := dd) h1 hx a w1 hw ha
  refine ⟨v, w', e1, ?_⟩
  rcases h with ⟨h4, h5, h6, h7⟩ | ⟨i, q, h4, h5, h6, h7, h8⟩
  · exact .inl ⟨by rw [h4]; rfl, h5, ⟨todo, h6, rfl, h3⟩, h7⟩
  · have hq := h3 q (List.mem_of_getElem? h4)
    obtain ⟨p, hp, rfl⟩ := List.mem_map.1 hq
    have hg : mget hs p.1 = some p.2 := (mget_mem hu).2 hp
    refine .inr ⟨i, p.1, by rw [List.getElem?_map, h4]; rfl, ?_, by rw [hg]; rfl, ⟨todo.eraseIdx i, h6, by rw [map_eraseIdx], fun p' hp' => h3 p' (List.mem_of_mem_eraseIdx hp')⟩, h7, ?_⟩
    · rw [h5]
      unfold pq
      rw [hg]
    · unfold pq
      rw [hg]
      exact h8
end
end Go.Proofs.YtlonpmajnglmoaaDoor


 /- Printed by a program (wip/vg): elements of several cells. -/
namespace Go.Proofs.YtlonpmajnglmoaaDoor
open Go Go.RowKit
def enc54 (x : Int × Int × Int × List UInt8 × List UInt8) : List Value := [.int .i64 x.1, .int .i64 x.2.1, .int .i64 x.2.2.1, vs x.2.2.2.1, vs x.2.2.2.2]
theorem enc54_ok : OneK 5 enc54 := ⟨by omega, fun _ => rfl, fun _ => (all1c rfl (all1c rfl (all1c rfl (all1c rfl (all1c rfl all1n)))))⟩
def enc43 (x : List UInt8 × List UInt8) : List Value := [vs x.1, vs x.2]
theorem enc43_ok : OneK 2 enc43 := ⟨by omega, fun _ => rfl, fun _ => (all1c rfl (all1c rfl all1n))⟩
def enc136 (x : Int × List UInt8) : List Value := [.int .i64 x.1, vs x.2]
theorem enc136_ok : OneK 2 enc136 := ⟨by omega, fun _ => rfl, fun _ => (all1c rfl (all1c rfl all1n))⟩
theorem ow126 : ckOwK Tryd.prog 126 136 2 24 = true := by kernel_rfl
end Go.Proofs.YtlonpmajnglmoaaDoor

 /- A disk's files, as_ a pool's boxes. -/
namespace Go.Proofs.YtlonpmajnglmoaaDoor
open Go Go.RowKit
abbrev Fil := List UInt8 × Bool × List UInt8 × Bool × List (Int × List UInt8)
def pe128 : PE Fil where
  rel w h x := ∃ A c, blk A = h.2 ∧ Bl w h.1 128 [vs x.1, .bool x.2.1, vs x.2.2.1, .bool x.2.2.2.1, .slice A x.2.2.2.2.length c] ∧ OwnK 2 enc136 w 0 136 A c x.2.2.2.2 ∧ Dj (some h.1) (blk A)
  goL h hg h1 h2 := by
    obtain ⟨A, c, e, hB, hO, hd⟩ := h
    exact ⟨A, c, e, hB.goL hg h1, hO.goL hg (by rw [e]; exact h2), hd⟩
  lt h := by
    obtain ⟨A, c, e, hB, hO, hd⟩ := h
    exact ⟨hB.lt', by rw [← e]; exact hO.lt'⟩
  isc o := decide (o < 4)
  sc x o := match o with
    | 0 => vs x.1
    | 1 => .bool x.2.1
    | 2 => vs x.2.2.1
    | _ => .bool x.2.2.2.1
  hsc hi h := by
    obtain ⟨A, c, e, hB, hO, hd⟩ := h
    rename_i o
    have ho : o < 4 := of_decide_eq_true hi
    match o, ho with
    | 0, _ => exact hB.cell 0
    | 1, _ => exact hB.cell 1
    | 2, _ => exact hB.cell 2
    | 3, _ => exact hB.cell 3
  noat h := by
    obtain ⟨A, c, e, hB, hO, hd⟩ := h
    exact ⟨NoAt.bl hB rfl, by rw [← e]; exact NoAt.ownK hO rfl⟩
end Go.Proofs.YtlonpmajnglmoaaDoor


 /-
  DERIVED: THE SHELF's CONTRACTS AT THIS DUMP, IN PLAIN WORDS (tools/lay-plain.mjs out of 'TrydShelf2.lean', which tools/lay-shelf.mjs wrote): THE SAME DECLARATIONS UNDER THE SAME NAMES: 'import', 'namespace', 'open', 'def', 'theorem' AND NOTHING ELSE: no command of the shelf's: FOR A HAND-IN. Each laying: the table of numbers ('.._ren') and one theorem, a field a fact of the dump's own or the kernel's comparison; each contract: ONE APPLICATION.
-/
namespace Go.Proofs
open Go.Shelf
def Tryd.keysit111_ren : Go.Shelf.Ren := ⟨fun | 10 => 111 | n => n, fun | 33 => 113 | 23 => 122 | 0 => 0 | 4 => 4 | 26 => 9 | 3 => 125 | n => n, fun | n => n⟩
theorem Tryd.keysit111 : Go.Proofs.SlLaysZ.n10 Tryd.prog Tryd.keysit111_ren := {
  mixed := by kernel_rfl
  f10 := ⟨Tryd.f111.name, by decide, Tryd.func111.trans (congrArg some (by kernel_rfl))⟩
  t0 := Tryd.underlying0
  a0 := Tryd.isAgg0
  z0 := Tryd.sizeOf0
  v0 := Tryd.zeroValue0
  t4 := Tryd.underlying4
  a4 := Tryd.isAgg4
  z4 := Tryd.sizeOf4
  v4 := Tryd.zeroValue4
  t23 := Tryd.underlying122
  a23 := Tryd.isAgg122
  z23 := Tryd.sizeOf122
  v23 := Tryd.zeroValue122
  t26 := Tryd.underlying9
  a26 := Tryd.isAgg9
  z26 := Tryd.sizeOf9
  v26 := Tryd.zeroValue9
  t33 := Tryd.underlying113
  a33 := Tryd.isAgg113
  z33 := Tryd.sizeOf113
  v33 := Tryd.zeroValue113 }
end Go.Proofs

 /- slices.Sorted over maps.Keys, at a pool: its keys in order. -/
namespace Go.Proofs.YtlonpmajnglmoaaDoor
open Go Go.RowKit Go.Proofs Go.Maps Go.Sort Go.Shelf
def rdum : Value → Option (DataW Unit × List MemPlace) := fun _ => some (.nil, [])
theorem strKeys_pool {X : Type} {d : PE X} {w : World} {m : Nat} {hs : List (List UInt8 × PH)} {fs : List (List UInt8 × X)} {q0 : Option (List UInt8)} {P : Program} {k : TypeId} (hk : P.underlying k = some .string) (h : PoolO d w m hs fs q0) :
    ∃ D : DataW Unit, w.ownsMap P k rdum m fs.length D ∧ (strKeys D).Perm (fs.map (·.1)) ∧ Maps.size D = fs.length := by
  obtain ⟨es, clock, hb, hst, hsz, hok, he⟩ := h.map
  have hlen : es.toList.length = fs.length := by
    have h1 := congrArg List.length he
    have h2 := congrArg List.length h.keys
    simp only [List.length_map, mmap] at h1 h2
    omega
  have hkey : ∀ x ∈ es.toList, ∃ q : List UInt8, x.key = vs q ∧ q.length ≤ maxLen := fun x hx => by
    obtain ⟨j, hj, rfl⟩ := List.getElem_of_mem hx
    have h1 := congrArg (fun l => l[j]?) he
    simp only [List.getElem?_map, List.getElem?_eq_getElem hj, Option.map_some] at h1
    obtain ⟨p, hp, hpe⟩ := Option.map_eq_some_iff.1 h1.symm
    exact ⟨p.1, (congrArg Prod.fst hpe).symm, hok p (List.mem_of_getElem? hp)⟩
  have hrd : ∀ x ∈ es.toList, ∃ q : List UInt8, x.key = vs q ∧ Go.WideElems.rd P k rdum x = some (.string q, .nil) := fun x hx => by
    obtain ⟨q, hq, hl⟩ := hkey x hx
    refine ⟨q, hq, ?_⟩
    unfold Go.WideElems.rd rdum
    rw [hq]
    have := Go.WideMaps.keyOf_string_mk hk (s := ⟨⟨q⟩⟩) hl
    unfold vs
    rw [this]
    rfl
  have F : Go.WideElems.Fit P k rdum es clock := ⟨hsz, hst, fun x hx => by
    obtain ⟨q, _, h2⟩ := hrd x hx
    exact ⟨_, h2⟩⟩
  refine ⟨_, ⟨es, clock, hb, F, by simp at hlen; omega, rfl⟩, ?_, ?_⟩
  · unfold strKeys
    refine ((Go.WideShapes.sorted_perm _).map _).trans ?_
    rw [List.map_map]
    have e1 : es.toList.map ((fun p : Lit × DataW Unit => strOf p.1) ∘ Go.WideElems.rg P k rdum) = fs.map (·.1) := by
      have e2 : (es.toList.map (·.key)) = (fs.map (·.1)).map vs := by
        have h1 := congrArg (List.map Prod.fst) he
        rw [List.map_map, List.map_map] at h1
        rw [← h.keys, List.map_map]
        simpa [mmap, Function.comp_def] using h1
      have e3 : es.toList.map (·.key) = (es.toList.map ((fun p : Lit × DataW Unit => strOf p.1) ∘ Go.WideElems.rg P k rdum)).map vs := by
        rw [List.map_map]
        refine List.map_congr_left fun x hx => ?_
        obtain ⟨q, h1, h2⟩ := hrd x hx
        simp only [Function.comp_def, Go.WideElems.rg, h2, Option.getD_some, strOf]
        exact h1
      rw [e3] at e2
      exact List.map_inj_right (fun a b h => by unfold vs at h; injection h with h; injection h with h; injection h with h) |>.1 e2
    rw [e1]
  · simp only [Maps.size, length_sorted, List.length_map]
    exact hlen
theorem sortsHereP (m : Nat) : AnyZ.SortsIn Tryd.prog Tryd.sorted72_ren Fence.wide m :=
  ⟨fun b o cap ss W hH hb hsz => callsIn_wide.2 (Tryd.slices_Sort_string b o cap ss W hH hb hsz), fun p cap W => callsIn_wide.2 (Tryd.slices_Sort_string_none p cap W)⟩
theorem sortedKeys_fn {w : World} {m g : Nat} {hs : List (List UInt8 × PH)} {fs : List (List UInt8 × Fil)} (hM : PoolO pe128 w m hs fs none) (hB : Bl w g 122 [.map (some m)]) (hl : fs.length ≤ 1000000000) :
    Fn Tryd.prog 72 ⟨[.func (.func 111) #[] #[.pointer (some ⟨g, 0, none⟩)]]⟩ w fun v w' => ∃ A' c', v = .slice A' fs.length c' ∧ Own vs w' w.heap.size 9 A' c' ((fs.map (·.1)).mergeSort fun x y => decide (x ≤ y)) ∧ w.grownBy w' none := by
  refine ⟨by kernel_rfl, fun w1 e => ?_⟩
  have hM1 := hM.eqv e
  have hB1 : Bl w1 g 122 [.map (some m)] := bl_eqv e hB
  have hlt := hB1.lt
  obtain ⟨D, hown, hperm, hsize⟩ := strKeys_pool (P := Tryd.prog) (k := 9) (by kernel_rfl) hM1
  have hg := AnyZ.keys_gives Tryd.keysit111 Fence.wide (5 - 1 - 1 - 1) trivial rfl (by omega) g m fs.length D w1 hlt (by rw [hB1.cell]; rfl) hown
  rw [hsize] at hg
  have h := callsIn_wide.1 (AnyZ.sorted_in (Tryd.sorted72) Fence.wide 5 trivial trivial trivial trivial rfl (by omega) (sortsHereP _) (enters_of Tryd.func98 (by kernel_rfl) rfl) 111 #[.pointer (some ⟨g, 0, none⟩)] trivial (enters_of Tryd.func111 (by kernel_rfl) rfl) _ fs.length (by simp only [maxLen]; omega) (by omega) w1 hg)
  refine h.mono ?_
  rintro _ w' ⟨v, ss, rfl, hS, hrow, _, hb⟩
  have hss : ss.Perm (fs.map (·.1)) := hS.trans hperm
  have hlen : ss.length = fs.length := by rw [hss.length_eq, List.length_map]
  have hsort : (ss.mergeSort fun x y => decide (x ≤ y)) = (fs.map (·.1)).mergeSort fun x y => decide (x ≤ y) := mergeSort_of_perm hss
  have hg2 : w.grownBy w' none := eqv_gr e (gr_below hb none)
  have hO : ∃ A' c', v = .slice A' fs.length c' := by
    rcases hrow.2 with ⟨rfl, hz⟩ | ⟨gb, cap, cur, rfl, _⟩
    · exact ⟨none, 0, by rw [← hlen, hz]⟩
    · exact ⟨_, _, by rw [hlen]⟩
  obtain ⟨A', c', rfl⟩ := hO
  refine ⟨_, w', rfl, Eqv.refl _, A', c', rfl, ?_, hg2⟩
  unfold Own
  rw [hlen, hsort] at hrow
  rw [List.length_mergeSort, List.length_map, ← e.heap]
  exact hrow
theorem keysBox_fn {w : World} {m : Nat} : Fn Tryd.prog 73 ⟨[.map (some m)]⟩ w fun v w' => ∃ g, v = .func (.func 111) #[] #[.pointer (some ⟨g, 0, none⟩)] ∧ Bl w' g 122 [.map (some m)] ∧ w.grownBy w' none ∧ w.heap.size ≤ g := by
  refine Fn.enter (by kernel_rfl) Tryd.func73 rfl Tryd.ntmps73 rfl ?_
  refine WC.seq ?_
  refine WC.region ?_
  refine WL.box (us := [.map (some m)]) rfl rfl rfl (fun g w1 hB1 hg1 hl1 => ?_)
  refine WL.y rfl (Yld.pure tab_ok rfl) ?_
  refine WL.nil (WX.then_normal ?_)
  refine WC.seq ?_
  refine WC.region ?_
  refine WL.y rfl (Yld.mkf rfl) ?_
  refine WL.y rfl (Yld.pure tab_ok rfl) ?_
  refine WL.nil (WX.then_normal ?_)
  refine WC.ret ?_
  exact WX.ret1 rfl rfl ⟨g, rfl, hB1, hg1, hl1⟩
def M_slices_Sorted_string_maps_Keys_map_string_pdisk_file_string_pdisk_file_1 (fs : List (List UInt8 × Fil)) (K : List (List UInt8) → Prop) : Prop := fs.length ≤ 1000000000 ∧ K ((fs.map (·.1)).mergeSort fun x y => decide (x ≤ y))
theorem W_slices_Sorted_string_maps_Keys_map_string_pdisk_file_string_pdisk_file_1 {w : World} {m g : Nat} {hs : List (List UInt8 × PH)} {fs : List (List UInt8 × Fil)} {K : List (List UInt8) → Prop} (hM : PoolO pe128 w m hs fs none) (hB : Bl w g 122 [.map (some m)]) (H : M_slices_Sorted_string_maps_Keys_map_string_pdisk_file_string_pdisk_file_1 fs K) :
    Fn Tryd.prog 72 ⟨[.func (.func 111) #[] #[.pointer (some ⟨g, 0, none⟩)]]⟩ w (fun v w' => w.grownBy w' none ∧ ∃ (r : List (List UInt8)) (A : Option Addr) (c : Nat), v = .slice A r.length c ∧ Own vs w' w.heap.size 9 A c r ∧ K r) := by
  refine (sortedKeys_fn hM hB H.1).mono ?_
  rintro v w' ⟨A', c', rfl, hO, hg⟩
  exact ⟨hg, _, A', c', by rw [List.length_mergeSort, List.length_map], hO, H.2⟩
end Go.Proofs.YtlonpmajnglmoaaDoor


 