/- Texts of this claim, joined by a program: Rng, Disk0, Shelf2, KeysP, GDi, Arr, GCa. -/
import Derived.Test.YtlonpmajnglmoaaDoorJ3
import Derived.Shelf.SlIter.Sorted
import Derived.Shelf.SlIter.Collect
import Derived.Ground.GgzProg
import Derived.Test.YtlonpmajnglmoaaDoorProg
import Derived.Stop.BytesEq
import Derived.WideKeyArr
/- Going over a map: the entries that are still to come, whatever their order. -/
namespace Go.Proofs.YtlonpmajnglmoaaDoor
open Go Go.RowKit Go.MapKept Go.ChangeMaps
theorem setB_same {w : World} {r : Nat} {o0 : Obj} (h : w.heap[r]? = some o0) (o : Obj) : (setBlock w r o).heap[r]? = some o := by
  have := (Array.getElem?_eq_some_iff.1 h).1
  simp [setBlock, this]
theorem setB_other {w : World} {r i : Nat} (o : Obj) (hi : i ≠ r) : (setBlock w r o).heap[i]? = w.heap[i]? := by
  simp [setBlock, Array.getElem?_setIfInBounds, Ne.symm hi]
theorem filter_eraseIdx : ∀ (l : List MapEntry) (i : Nat) (hi : i < l.length), (l.map (·.born)).Nodup → l.filter (fun x => !(x.born == l[i].born)) = l.eraseIdx i
  | [], i, hi, _ => by simp at hi
  | x :: l, 0, _, hn => by
    have hn' := List.nodup_cons.1 hn
    simp only [List.getElem_cons_zero, List.eraseIdx_zero, List.tail_cons]
    rw [List.filter_cons, if_neg (by simp), List.filter_eq_self]
    intro y hy
    have : y.born ≠ x.born := fun e => hn'.1 (List.mem_map.2 ⟨y, hy, e⟩)
    simp [this]
  | x :: l, i + 1, hi, hn => by
    have hn' := List.nodup_cons.1 hn
    simp only [List.getElem_cons_succ, List.eraseIdx_cons_succ]
    have hi' : i < l.length := by simpa using hi
    have : x.born ≠ (l[i]).born := fun e => hn'.1 (List.mem_map.2 ⟨l[i], List.getElem_mem hi', e.symm⟩)
    rw [List.filter_cons, if_pos (by simp [this]), filter_eraseIdx l i hi' hn'.2]
section
variable {κ ν : Type} {P : Program} {k e t : TypeId} {fk : κ → Value} {ok : κ → Prop} {fv : ν → Value} {w w' : World} {b r : Nat} {m todo : List (κ × ν)} {row : Option Nat} {ps : List (Option Nat)}
/-- block r goes over the map b, whose entries are m; todo: those that are still to come -/
def RngB (fk : κ → Value) (fv : ν → Value) (w : World) (b r : Nat) (m todo : List (κ × ν)) : Prop :=
  ∃ es clock since seen c0, w.heap[b]? = some (.map es clock) ∧ Stamped es clock ∧ es.toList.map (fun e => (e.key, e.val)) = m.map (fun p => (fk p.1, fv p.2)) ∧ w.heap[r]? = some (.mapIter (some b) since seen c0) ∧ (∀ x ∈ es.toList, x.born < since) ∧ since ≤ c0 ∧ since ≤ clock ∧
    (leftOf es seen).toList.map (fun e => (e.key, e.val)) = todo.map fun p => (fk p.1, fv p.2)
theorem RngB.lt (h : RngB fk fv w b r m todo) : r < w.heap.size := by
  obtain ⟨_, _, _, _, _, _, _, _, hr, _⟩ := h
  exact (Array.getElem?_eq_some_iff.1 hr).1
theorem RngB.ltm (h : RngB fk fv w b r m todo) : b < w.heap.size := by
  obtain ⟨_, _, _, _, _, hb, _⟩ := h
  exact (Array.getElem?_eq_some_iff.1 hb).1
theorem RngB.lt' (h : RngB fk fv w b r m todo) : Lt (some r) w.heap.size := Lt.box h.lt
theorem RngB.goL (h : RngB fk fv w b r m todo) (hg : GrL ps w w') (h1 : AllP (Dj (some r)) ps) (h2 : AllP (Dj (some b)) ps) : RngB fk fv w' b r m todo := by
  have hlt := h.lt
  have hltm := h.ltm
  obtain ⟨es, clock, since, seen, c0, hb, hs, he, hr, rest⟩ := h
  exact ⟨es, clock, since, seen, c0, (hg.block b hltm (fun p hp e => h2 p hp b rfl e)).trans hb, hs, he, (hg.block r hlt (fun p hp e => h1 p hp r rfl e)).trans hr, rest⟩
theorem RngB.g0 (h : RngB fk fv w b r m todo) (hg : w.grownBy w' none) : RngB fk fv w' b r m todo := h.goL (ps := []) (GrL.of0 hg) apN apN
theorem RngB.go (h : RngB fk fv w b r m todo) (hg : w.grownBy w' row) (h1 : Dj (some r) row) (h2 : Dj (some b) row) : RngB fk fv w' b r m todo := h.goL (GrL.of1 hg) (apC h1 apN) (apC h2 apN)
theorem RngB.noat (h : RngB fk fv w b r m todo) : NoAt w (some r) := fun g' us' hg' hB => by
  cases hg'
  obtain ⟨_, _, _, _, _, _, _, _, hr, _⟩ := h
  unfold Bl at hB
  rw [hr] at hB
  cases hB
theorem RngB.eqv (hw : Eqv w w') (h : RngB fk fv w b r m todo) : RngB fk fv w' b r m todo := h.g0 (gr_eqv (gr_refl w none) hw)
theorem RngB.start (h : MapB fk ok fv w b m) (ht : P.underlying t = some (.map k e)) :
    ∃ w', (Instr.range t (.map (some b))).run P w = .ok (.pointer (some ⟨w.heap.size, 0, none⟩)) w' ∧ RngB fk fv w' b w.heap.size m m ∧ w.grownBy w' none := by
  have hlt := h.lt
  obtain ⟨es, clock, hb, hst, hsz, hok, he⟩ := h
  refine ⟨_, run_range_map w t k e b es clock ht hb, ⟨es, clock, clock, #[], clock, ((MapKept.heap_alloc w _).2 b hlt).trans hb, hst, he, (MapKept.heap_alloc w _).1, hst.1, Nat.le_refl _, Nat.le_refl _, ?_⟩, World.grownBy_alloc w _ none⟩
  have : leftOf es #[] = es := by unfold leftOf; exact Array.filter_eq_self.2 (fun x _ => by simp)
  rw [this, he]
/-- what the last step handed out -/
def RngE (w : World) (r : Nat) (u v : Value) : Prop := ∃ b es clock since seen x, w.heap[b]? = some (.map es clock) ∧ w.heap[r]? = some (.mapIter (some b) since (Array.push seen x.born) clock) ∧ x ∈ es.toList ∧ (es.toList.map (·.born)).Nodup ∧ x.key = u ∧ x.val = v
theorem RngE.eqv {u v : Value} (hw : Eqv w w') (h : RngE w r u v) : RngE w' r u v := by
  obtain ⟨b, es, clock, since, seen, x, h1, h2, h3⟩ := h
  exact ⟨b, es, clock, since, seen, x, by rw [hw.heap]; exact h1, by rw [hw.heap]; exact h2, h3⟩
theorem RngB.next (h : RngB fk fv w b r m todo) (ty : TypeId) :
    (todo = [] ∧ (Instr.next (.pointer (some ⟨r, 0, none⟩)) false ty).run P w = .ok (.tuple #[.bool false]) w) ∨
    ∃ (i : Nat) (q : κ × ν) (w' : World), todo[i]? = some q ∧ (Instr.next (.pointer (some ⟨r, 0, none⟩)) false ty).run P w = .ok (.tuple #[.bool true, fk q.1, fv q.2]) w' ∧ RngB fk fv w' b r m (todo.eraseIdx i) ∧ w.grownBy w' (some r) ∧ RngE w' r (fk q.1) (fv q.2) := by
  have hlt := h.lt
  obtain ⟨es, clock, since, seen, c0, hb, hst, he, hr, hold, hsc, hcl, htd⟩ := h
  rcases run_next_at (P := P) w ty r b since c0 seen es clock hr hb hold hsc with ⟨h0, h1⟩ | ⟨x, hx, w1, hal, h1⟩
  · refine .inl ⟨?_, h1⟩
    have := congrArg List.length htd
    simp only [List.length_map, Array.length_toList, h0] at this
    exact List.eq_nil_of_length_eq_zero this.symm
  · obtain ⟨i, hi, rfl⟩ := List.getElem_of_mem hx
    have hi2 : i < todo.length := by have := congrArg List.length htd; simp only [List.length_map] at this; omega
    have hq := congrArg (fun l => l[i]?) htd
    simp only [List.getElem?_map, List.getElem?_eq_getElem hi, List.getElem?_eq_getElem hi2, Option.map_some, Option.some.injEq, Prod.mk.injEq] at hq
    have hne : r ≠ b := fun e => by rw [e, hb] at hr; cases hr
    have hr1 : w1.heap[r]? = some (.mapIter (some b) since seen c0) := by rcases hal with rfl | rfl <;> exact hr
    have hb1 : w1.heap[b]? = some (.map es clock) := by rcases hal with rfl | rfl <;> exact hb
    refine .inr ⟨i, todo[i], _, List.getElem?_eq_getElem hi2, by rw [← hq.1, ← hq.2]; exact h1, ⟨es, clock, since, seen.push _, clock, (setB_other _ (fun e => hne e.symm)).trans hb1, hst, he, setB_same hr1 _, hold, hcl, hcl, ?_⟩, ?_, ⟨b, es, clock, since, seen, _, (setB_other _ (fun e => hne e.symm)).trans hb1, setB_same hr1 _, (mem_left hx).1, hst.2.1, hq.1, hq.2⟩⟩
    · have hpush : ∀ bn, (leftOf es (seen.push bn)).toList = (leftOf es seen).toList.filter (fun y => !(y.born == bn)) := fun bn => by
        unfold leftOf
        rw [Array.toList_filter, Array.toList_filter, List.filter_filter]
        congr 1
        funext y
        rw [contains_push]
        cases seen.contains y.born <;> simp
      have hnd : ((leftOf es seen).toList.map (·.born)).Nodup := by
        have := hst.2.1
        unfold leftOf
        rw [Array.toList_filter]
        exact this.sublist (List.Sublist.map _ List.filter_sublist)
      rw [hpush, filter_eraseIdx _ i hi hnd, map_eraseIdx, htd, map_eraseIdx]
    · have hg1 : w.grownBy w1 none := by
        rcases hal with rfl | rfl
        · exact gr_refl _ _
        · exact gr_eqv (gr_refl _ _) ⟨rfl, rfl, rfl, rfl⟩
      refine ⟨hg1.os, hg1.tape, hg1.output, ?_, fun j hj hjr => ?_⟩
      · have := hg1.size; simp [setBlock]; exact this
      · rw [setB_other _ (fun e => hjr (by rw [e]))]
        exact hg1.block j hj (by simp)
variable {N : Nat} {L : Slots} {ty : TypeId} {pos : String} {af : Array Edge} {dd : Option Tmp} {x : Operand}
theorem Eff.range (hm : MapB fk ok fv w b m) (ht : P.underlying t = some (.map k e)) (hx : opv L x = some (.map (some b))) : Eff P N w ⟨dd, .range t x, ty, pos, af, none⟩ L fun v w' => v = .pointer (some ⟨w.heap.size, 0, none⟩) ∧ RngB fk fv w' b w.heap.size m m ∧ w.grownBy w' none := fun a w1 hw ha => by
  obtain ⟨w', h1, h2, h3⟩ := RngB.start (P := P) (MapB.eqv hw hm) ht
  rw [hw.heap] at h1 h2
  refine ⟨_, w', ?_, rfl, h2, eqv_gr hw h3⟩
  unfold execOp
  simp [ha.ev hx, h1]
theorem Eff.next (hm : RngB fk fv w b r m todo) (hx : opv L x = some (.pointer (some ⟨r, 0, none⟩))) : Eff P N w ⟨dd, .next x false, ty, pos, af, none⟩ L fun v w' => (todo = [] ∧ v = .tuple #[.bool false] ∧ RngB fk fv w' b r m todo ∧ w.grownBy w' none) ∨ ∃ (i : Nat) (q : κ × ν), todo[i]? = some q ∧ v = .tuple #[.bool true, fk q.1, fv q.2] ∧ RngB fk fv w' b r m (todo.eraseIdx i) ∧ w.grownBy w' (some r) ∧ RngE w' r (fk q.1) (fv q.2) := fun a w1 hw ha => by
  rcases RngB.next (P := P) (hm.eqv hw) ty with ⟨h0, h1⟩ | ⟨i, q, w', h0, h1, h2, h3, h4⟩
  · refine ⟨_, w1, ?_, .inl ⟨h0, rfl, hm.eqv hw, gr_eqv (gr_refl _ _) hw⟩⟩
    unfold execOp
    simp [ha.ev hx, h1]
  · refine ⟨_, w', ?_, .inr ⟨i, q, h0, rfl, h2, eqv_gr hw h3, h4⟩⟩
    unfold execOp
    simp [ha.ev hx, h1]
end
section
variable {P : Program} {w : World} {r : Nat} {u v : Value} {N : Nat} {L : Slots} {ty : TypeId} {pos : String} {af : Array Edge} {dd : Option Tmp} {x : Operand}
theorem Yld.entry (h : RngE w r u v) (hx : opv L x = some (.pointer (some ⟨r, 0, none⟩))) : Yld P N w ⟨dd, .entry x, ty, pos, af, none⟩ L (.tuple #[u, v]) := fun a w1 hw ha => by
  obtain ⟨b, es, clock, since, seen, y, h1, h2, h3, h4, rfl, rfl⟩ := h.eqv hw
  unfold execOp
  simp [ha.ev hx, run_entry_at w1 r b since seen es clock y h2 h1 h3 h4]
end
/-! a pool -/
section
variable {X : Type} {d : PE X} {w w' : World} {m r : Nat} {hs : List (List UInt8 × PH)} {fs : List (List UInt8 × X)} {q0 : Option (List UInt8)} {ks : List (List UInt8)} {row : Option Nat} {ps : List (Option Nat)}
def RngP (w : World) (m r : Nat) (hs : List (List UInt8 × PH)) (ks : List (List UInt8)) : Prop := ∃ todo : List (List UInt8 × Option PH), RngB vs vP w m r (mmap some hs) todo ∧ ks = todo.map (·.1) ∧ ∀ p ∈ todo, p ∈ mmap some hs
theorem RngP.lt' (h : RngP w m r hs ks) : Lt (some r) w.heap.size := h.elim fun _ h => h.1.lt'
theorem RngP.g0 (h : RngP w m r hs ks) (hg : w.grownBy w' none) : RngP w' m r hs ks := h.elim fun t h => ⟨t, h.1.g0 hg, h.2⟩
theorem RngP.go (h : RngP w m r hs ks) (hg : w.grownBy w' row) (h1 : Dj (some r) row) (h2 : Dj (some m) row) : RngP w' m r hs ks := h.elim fun t h => ⟨t, h.1.go hg h1 h2, h.2⟩
theorem RngP.noat (h : RngP w m r hs ks) : NoAt w (some r) := h.elim fun _ h => h.1.noat
theorem RngP.goL (h : RngP w m r hs ks) (hg : GrL ps w w') (h1 : AllP (Dj (some r)) ps) (h2 : AllP (Dj (some m)) ps) : RngP w' m r hs ks := h.elim fun t h => ⟨t, h.1.goL hg h1 h2, h.2⟩
variable {P : Program} {k e t : TypeId} {N : Nat} {L : Slots} {ty : TypeId} {pos : String} {af : Array Edge} {dd : Option Tmp} {x : Operand}
theorem Eff.rangeP (hm : PoolO d w m hs fs q0) (ht : P.underlying t = some (.map k e)) (hx : opv L x = some (.map (some m))) : Eff P N w ⟨dd, .range t x, ty, pos, af, none⟩ L fun v w' => v = .pointer (some ⟨w.heap.size, 0, none⟩) ∧ RngP w' m w.heap.size hs (fs.map (·.1)) ∧ w.grownBy w' none :=
  fun a w1 hw ha => by
    obtain ⟨v, w', h1, h2, h3, h4⟩ := Eff.range (P := P) (N := N) (ty := ty) (pos := pos) (af := af) (dd := dd) hm.map ht hx a w1 hw ha
    exact ⟨v, w', h1, h2, ⟨_, h3, by rw [← hm.keys]; unfold mmap; rw [List.map_map]; rfl, fun p hp => hp⟩, h4⟩
theorem Eff.nextP (hm : RngP w m r hs ks) (hu : Uq hs) (hx : opv L x = some (.pointer (some ⟨r, 0, none⟩))) : Eff P N w ⟨dd, .next x false, ty, pos, af, none⟩ L fun v w' => (ks = [] ∧ v = .tuple #[.bool false] ∧ RngP w' m r hs ks ∧ w.grownBy w' none) ∨ ∃ (i : Nat) (q : List UInt8), ks[i]? = some q ∧ v = .tuple #[.bool true, vs q, pq hs q] ∧ (mget hs q).isSome = true ∧ RngP w' m r hs (ks.eraseIdx i) ∧ w.grownBy w' (some r) ∧ RngE w' r (vs q) (pq hs q) := by
  obtain ⟨todo, h1, rfl, h3⟩ := hm
  refine fun a w1 hw ha => ?_
  obtain ⟨v, w', e1, h⟩ := Eff.next (P := P) (N := N) (ty := ty) (pos := pos) (af := af) (dd := dd) h1 hx a w1 hw ha
  refine ⟨v, w', e1, ?_⟩
  rcases h with ⟨h4, h5, h6, h7⟩ | ⟨i, q, h4, h5, h6, h7, h8⟩
  · exact .inl ⟨by rw [h4]; rfl, h5, ⟨todo, h6, rfl, h3⟩, h7⟩
  · have hq := h3 q (List.mem_of_getElem? h4)
    obtain ⟨p, hp, rfl⟩ := List.mem_map.1 hq
    have hg : mget hs p.1 = some p.2 := (mget_mem hu).2 hp
    refine .inr ⟨i, p.1, by rw [List.getElem?_map, h4]; rfl, ?_, by rw [hg]; rfl, ⟨todo.eraseIdx i, h6, by rw [map_eraseIdx], fun p' hp' => h3 p' (List.mem_of_mem_eraseIdx hp')⟩, h7, ?_⟩
    · rw [h5]
      unfold pq
      rw [hg]
    · unfold pq
      rw [hg]
      exact h8
end
end Go.Proofs.YtlonpmajnglmoaaDoor


 /- A disk's files, as_ a pool's boxes. -/
namespace Go.Proofs.YtlonpmajnglmoaaDoor
open Go Go.RowKit
abbrev Fil := List UInt8 × Bool × List UInt8 × Bool × List (Int × List UInt8)
def pe128 : PE Fil where
  rel w h x := ∃ A c, blk A = h.2 ∧ Bl w h.1 128 [vs x.1, .bool x.2.1, vs x.2.2.1, .bool x.2.2.2.1, .slice A x.2.2.2.2.length c] ∧ OwnK 2 enc136 w 0 136 A c x.2.2.2.2 ∧ Dj (some h.1) (blk A)
  goL h hg h1 h2 := by
    obtain ⟨A, c, e, hB, hO, hd⟩ := h
    exact ⟨A, c, e, hB.goL hg h1, hO.goL hg (by rw [e]; exact h2), hd⟩
  lt h := by
    obtain ⟨A, c, e, hB, hO, hd⟩ := h
    exact ⟨hB.lt', by rw [← e]; exact hO.lt'⟩
  isc o := decide (o < 4)
  sc x o := match o with
    | 0 => vs x.1
    | 1 => .bool x.2.1
    | 2 => vs x.2.2.1
    | _ => .bool x.2.2.2.1
  hsc hi h := by
    obtain ⟨A, c, e, hB, hO, hd⟩ := h
    rename_i o
    have ho : o < 4 := of_decide_eq_true hi
    match o, ho with
    | 0, _ => exact hB.cell 0
    | 1, _ => exact hB.cell 1
    | 2, _ => exact hB.cell 2
    | 3, _ => exact hB.cell 3
  noat h := by
    obtain ⟨A, c, e, hB, hO, hd⟩ := h
    exact ⟨NoAt.bl hB rfl, by rw [← e]; exact NoAt.ownK hO rfl⟩
end Go.Proofs.YtlonpmajnglmoaaDoor


 /-
  DERIVED: THE SHELF's CONTRACTS AT THIS DUMP, IN PLAIN WORDS (tools/lay-plain.mjs out of 'TrydShelf2.lean', which tools/lay-shelf.mjs wrote): THE SAME DECLARATIONS UNDER THE SAME NAMES: 'import', 'namespace', 'open', 'def', 'theorem' AND NOTHING ELSE: no command of the shelf's: FOR A HAND-IN. Each laying: the table of numbers ('.._ren') and one theorem, a field a fact of the dump's own or the kernel's comparison; each contract: ONE APPLICATION.
-/
namespace Go.Proofs
open Go.Shelf
end Go.Proofs

 /- slices.Sorted over maps.Keys, at a pool: its keys in order. -/
namespace Go.Proofs.YtlonpmajnglmoaaDoor
open Go Go.RowKit Go.Proofs Go.Maps Go.Sort Go.Shelf
end Go.Proofs.YtlonpmajnglmoaaDoor


 /- Printed by a program (wip/vg): what the functions mean, plainly, and their walks. -/
namespace Go.Proofs.YtlonpmajnglmoaaDoor
open Go Go.RowKit
attribute [local irreducible] WL WC WX WQ WK WJ Yld Eff Ef0 Fn
def M_pdisk_Disk_call (d_files : List (List UInt8 × List UInt8 × Bool × List UInt8 × Bool × List (Int × List UInt8))) (d_ops : Int) (d_left : Int) (d_down : Bool) (K : Er → (List (List UInt8 × List UInt8 × Bool × List UInt8 × Bool × List (Int × List UInt8))) → Int → Int → Bool → Prop) : Prop :=
 ((d_down = true → K (Er.e 15) d_files d_ops d_left d_down) ∧
 (d_down = false → (In .i64 (d_ops + (1 : Int))) ∧
 ∃ J1 : Int → Prop, ((((0 : Int) < d_left → (In .i64 (d_left - (1 : Int))) ∧
 (((d_left - (1 : Int)) = (0 : Int) → K (Er.e 15) d_files (d_ops + (1 : Int)) (d_left - (1 : Int)) true) ∧
 (¬ ((d_left - (1 : Int)) = (0 : Int)) → J1 (d_left - (1 : Int))))) ∧
 (¬ ((0 : Int) < d_left) → J1 d_left))) ∧
 (∀ d2 : Int, J1 d2 → K Er.ok d_files (d_ops + (1 : Int)) d2 d_down)))

def M_pdisk_file_settle (f_text : List UInt8) (f_is : Bool) (f_synced : List UInt8) (f_was : Bool) (f_since : List (Int × List UInt8)) (K : (List UInt8) → Bool → (List UInt8) → Bool → (List (Int × List UInt8)) → Prop) : Prop :=
 (f_since.length ≤ maxLen →
 K f_text f_is f_text f_is [])

def M_pdisk_Disk_there (d_files : List (List UInt8 × List UInt8 × Bool × List UInt8 × Bool × List (Int × List UInt8))) (d_ops : Int) (d_left : Int) (d_down : Bool) (p : List UInt8) (K : Bool → Prop) : Prop :=
 (p.length ≤ maxLen) ∧
 (((mget d_files p).isSome) = true → (p.length ≤ maxLen)) ∧
 (((mget d_files p).isSome) = true → ((mget d_files p).isSome = true)) ∧
 K (((mget d_files p).isSome) && (((mget d_files p).getD ([], false, [], false, [])).2.1))

def M_pdisk_Disk_known (d_files : List (List UInt8 × List UInt8 × Bool × List UInt8 × Bool × List (Int × List UInt8))) (d_ops : Int) (d_left : Int) (d_down : Bool) (p : List UInt8) (K : (List (List UInt8 × List UInt8 × Bool × List UInt8 × Bool × List (Int × List UInt8))) → Int → Int → Bool → Prop) : Prop :=
 ∃ J1 : (List (List UInt8 × List UInt8 × Bool × List UInt8 × Bool × List (Int × List UInt8))) → Prop, ((p.length ≤ maxLen) ∧
 ((((mget d_files p).isNone) = true → (p.length ≤ maxLen ∧ d_files.length < maxLen) ∧
 J1 (mput d_files p (([] : List UInt8), false, ([] : List UInt8), false, []))) ∧
 (((mget d_files p).isNone) = false → J1 d_files))) ∧
 (∀ d0 : List (List UInt8 × List UInt8 × Bool × List UInt8 × Bool × List (Int × List UInt8)), J1 d0 → (p.length ≤ maxLen) ∧
 K d0 d_ops d_left d_down)

def M_pdisk_Disk_Read (d_files : List (List UInt8 × List UInt8 × Bool × List UInt8 × Bool × List (Int × List UInt8))) (d_ops : Int) (d_left : Int) (d_down : Bool) (p : List UInt8) (K : (List UInt8) → Bool → Er → (List (List UInt8 × List UInt8 × Bool × List UInt8 × Bool × List (Int × List UInt8))) → Int → Int → Bool → Prop) : Prop :=
 M_pdisk_Disk_call d_files d_ops d_left d_down (fun (err : Er) (d_ : List (List UInt8 × List UInt8 × Bool × List UInt8 × Bool × List (Int × List UInt8))) (d_2 : Int) (d_3 : Int) (d_4 : Bool) =>
 ∃ J1 : Bool → Prop, ((((!decide (err = Er.ok)) = true → J1 true) ∧
 ((!decide (err = Er.ok)) = false → M_pdisk_Disk_there d_ d_2 d_3 d_4 p (fun (t15 : Bool) =>
 J1 (!t15))))) ∧
 (∀ q1 : Bool, J1 q1 → ((q1 = true → K ([] : List UInt8) false err d_ d_2 d_3 d_4) ∧
 (q1 = false → (p.length ≤ maxLen) ∧
 ((mget d_ p).isSome = true) ∧
 K (((mget d_ p).getD ([], false, [], false, [])).1) true Er.ok d_ d_2 d_3 d_4))))

def M_pdisk_Disk_paths (d_files : List (List UInt8 × List UInt8 × Bool × List UInt8 × Bool × List (Int × List UInt8))) (d_ops : Int) (d_left : Int) (d_down : Bool) (K : (List (List UInt8)) → Prop) : Prop :=
 Lp2 (fun (l : List (List UInt8)) (left : List (List UInt8)) kont1 => ((left = [] → M_slices_Sort_string_string l (fun (ys : List (List UInt8)) =>
 K ys)) ∧
 (∀ (ix : Nat) (key : List UInt8), left[ix]? = some key → ((mget d_files key).isSome = true) ∧
 (((((mget d_files key).getD ([], false, [], false, [])).2.1) = true → ((l.length + (([key] : List (List UInt8))).length) * 16 ≤ 140737488355328) ∧
 kont1 (l ++ ([key] : List (List UInt8))) (left.eraseIdx ix)) ∧
 ((((mget d_files key).getD ([], false, [], false, [])).2.1) = false → kont1 l (left.eraseIdx ix)))))) [] (d_files.map (·.1))

def M_pdisk_Disk_count (d_files : List (List UInt8 × List UInt8 × Bool × List UInt8 × Bool × List (Int × List UInt8))) (d_ops : Int) (d_left : Int) (d_down : Bool) (K : Int → Prop) : Prop :=
 M_pdisk_Disk_paths d_files d_ops d_left d_down (fun (t4 : List (List UInt8)) =>
 K (t4.length : Int))

def M_pdisk_Disk_put (d_files : List (List UInt8 × List UInt8 × Bool × List UInt8 × Bool × List (Int × List UInt8))) (d_ops : Int) (d_left : Int) (d_down : Bool) (p : List UInt8) (text : List UInt8) (c_kind : Int) (c_text : List UInt8) (K : Er → (List (List UInt8 × List UInt8 × Bool × List UInt8 × Bool × List (Int × List UInt8))) → Int → Int → Bool → Prop) : Prop :=
 M_pdisk_Disk_call d_files d_ops d_left d_down (fun (err : Er) (d_ : List (List UInt8 × List UInt8 × Bool × List UInt8 × Bool × List (Int × List UInt8))) (d_2 : Int) (d_3 : Int) (d_4 : Bool) =>
 ((¬ (err = Er.ok) → K err d_ d_2 d_3 d_4) ∧
 (err = Er.ok → ∃ J1 : (List UInt8) → Prop, (∃ J3 : Bool → Prop, ((((decide (c_kind = (1 : Int))) = true → M_pdisk_Disk_there d_ d_2 d_3 d_4 p (fun (t22 : Bool) =>
 J3 t22)) ∧
 ((decide (c_kind = (1 : Int))) = false → J3 false))) ∧
 (∀ q3 : Bool, J3 q3 → ((q3 = true → (p.length ≤ maxLen) ∧
 ((mget d_ p).isSome = true) ∧
 ((((mget d_ p).getD ([], false, [], false, [])).1).length + text.length ≤ 9223372036854775807) ∧
 J1 ((((mget d_ p).getD ([], false, [], false, [])).1) ++ text)) ∧
 (q3 = false → J1 text)))) ∧
 (∀ text2 : List UInt8, J1 text2 → M_path_Valid p (fun (t37 : Bool) =>
 ((((!t37) || (decide ((65536 : Int) < (text2.length : Int)))) = true → K (Er.e 11) d_ d_2 d_3 d_4) ∧
 (((!t37) || (decide ((65536 : Int) < (text2.length : Int)))) = false → M_pdisk_Disk_there d_ d_2 d_3 d_4 p (fun (t48 : Bool) =>
 ∃ J2 : Bool → Prop, ((((!t48) = true → M_pdisk_Disk_count d_ d_2 d_3 d_4 (fun (t52 : Int) =>
 J2 (decide ((2000 : Int) ≤ t52)))) ∧
 ((!t48) = false → J2 false))) ∧
 (∀ q2 : Bool, J2 q2 → ((q2 = true → K (Er.e 9) d_ d_2 d_3 d_4) ∧
 (q2 = false → M_pdisk_Disk_known d_ d_2 d_3 d_4 p (fun (d_5 : List (List UInt8 × List UInt8 × Bool × List UInt8 × Bool × List (Int × List UInt8))) (d_6 : Int) (d_7 : Int) (d_8 : Bool) =>
 ((mget d_5 p).isSome = true) ∧
 (((((mget d_5 p).getD ([], false, [], false, [])).2.2.2.2).length + (([(c_kind, c_text)] : List (Int × List UInt8))).length) * 24 ≤ 140737488355328) ∧
 K Er.ok (mput d_5 p (text2, true, ((mget d_5 p).getD ([], false, [], false, [])).2.2.1, ((mget d_5 p).getD ([], false, [], false, [])).2.2.2.1, (((mget d_5 p).getD ([], false, [], false, [])).2.2.2.2) ++ ([(c_kind, c_text)] : List (Int × List UInt8)))) d_6 d_7 d_8))))))))))))

def M_pdisk_Disk_Write (d_files : List (List UInt8 × List UInt8 × Bool × List UInt8 × Bool × List (Int × List UInt8))) (d_ops : Int) (d_left : Int) (d_down : Bool) (p : List UInt8) (text : List UInt8) (K : Er → (List (List UInt8 × List UInt8 × Bool × List UInt8 × Bool × List (Int × List UInt8))) → Int → Int → Bool → Prop) : Prop :=
 M_pdisk_Disk_put d_files d_ops d_left d_down p text (0 : Int) text (fun (t6 : Er) (d_ : List (List UInt8 × List UInt8 × Bool × List UInt8 × Bool × List (Int × List UInt8))) (d_2 : Int) (d_3 : Int) (d_4 : Bool) =>
 K t6 d_ d_2 d_3 d_4)

def M_pdisk_Disk_Append (d_files : List (List UInt8 × List UInt8 × Bool × List UInt8 × Bool × List (Int × List UInt8))) (d_ops : Int) (d_left : Int) (d_down : Bool) (p : List UInt8) (text : List UInt8) (K : Er → (List (List UInt8 × List UInt8 × Bool × List UInt8 × Bool × List (Int × List UInt8))) → Int → Int → Bool → Prop) : Prop :=
 M_pdisk_Disk_put d_files d_ops d_left d_down p text (1 : Int) text (fun (t6 : Er) (d_ : List (List UInt8 × List UInt8 × Bool × List UInt8 × Bool × List (Int × List UInt8))) (d_2 : Int) (d_3 : Int) (d_4 : Bool) =>
 K t6 d_ d_2 d_3 d_4)

def M_pdisk_Disk_Sync (d_files : List (List UInt8 × List UInt8 × Bool × List UInt8 × Bool × List (Int × List UInt8))) (d_ops : Int) (d_left : Int) (d_down : Bool) (p : List UInt8) (K : Er → (List (List UInt8 × List UInt8 × Bool × List UInt8 × Bool × List (Int × List UInt8))) → Int → Int → Bool → Prop) : Prop :=
 M_pdisk_Disk_call d_files d_ops d_left d_down (fun (err : Er) (d_ : List (List UInt8 × List UInt8 × Bool × List UInt8 × Bool × List (Int × List UInt8))) (d_2 : Int) (d_3 : Int) (d_4 : Bool) =>
 ((¬ (err = Er.ok) → K err d_ d_2 d_3 d_4) ∧
 (err = Er.ok → M_path_Valid p (fun (t13 : Bool) =>
 (((!t13) = true → K (Er.e 11) d_ d_2 d_3 d_4) ∧
 ((!t13) = false → ∃ J1 : (List (List UInt8 × List UInt8 × Bool × List UInt8 × Bool × List (Int × List UInt8))) → Prop, ((p.length ≤ maxLen) ∧
 ((((mget d_ p).isSome) = true → M_pdisk_file_settle (((mget d_ p).getD ([], false, [], false, [])).1) (((mget d_ p).getD ([], false, [], false, [])).2.1) (((mget d_ p).getD ([], false, [], false, [])).2.2.1) (((mget d_ p).getD ([], false, [], false, [])).2.2.2.1) (((mget d_ p).getD ([], false, [], false, [])).2.2.2.2) (fun (pl_ : List UInt8) (pl_2 : Bool) (pl_3 : List UInt8) (pl_4 : Bool) (pl_5 : List (Int × List UInt8)) =>
 J1 (mput d_ p (pl_, pl_2, pl_3, pl_4, pl_5)))) ∧
 (((mget d_ p).isSome) = false → J1 d_))) ∧
 (∀ d0 : List (List UInt8 × List UInt8 × Bool × List UInt8 × Bool × List (Int × List UInt8)), J1 d0 → K Er.ok d0 d_2 d_3 d_4)))))))

def M_disk_New (files : List (List UInt8 × List UInt8)) (K0 : Er → Prop) (K : (List (List UInt8 × List UInt8 × Bool × List UInt8 × Bool × List (Int × List UInt8))) → Int → Int → Bool → Er → Prop) : Prop :=
 (files.length ≤ maxLen →
 Lp2 (fun (t12 : Int) (t90 : List (List UInt8 × List UInt8 × Bool × List UInt8 × Bool × List (Int × List UInt8))) kont1 => ((t12 < (files.length : Int) → (0 ≤ t12 ∧ t12 < (files.length : Nat)) ∧
 M_path_Valid ((files.getD t12.toNat ([], [])).1) (fun (t18 : Bool) =>
 ((!t18) = false → (((files.getD t12.toNat ([], [])).1).length ≤ maxLen)) ∧
 (((((!t18) || ((mget t90 ((files.getD t12.toNat ([], [])).1)).isSome)) || (decide ((65536 : Int) < (((files.getD t12.toNat ([], [])).2).length : Int)))) = true → K0 (Er.e 11)) ∧
 ((((!t18) || ((mget t90 ((files.getD t12.toNat ([], [])).1)).isSome)) || (decide ((65536 : Int) < (((files.getD t12.toNat ([], [])).2).length : Int)))) = false → (((files.getD t12.toNat ([], [])).1).length ≤ maxLen ∧ t90.length < maxLen) ∧
 (In .i64 (t12 + (1 : Int))) ∧
 kont1 (t12 + (1 : Int)) (mput t90 ((files.getD t12.toNat ([], [])).1) ((files.getD t12.toNat ([], [])).2, true, (files.getD t12.toNat ([], [])).2, true, [])))))) ∧
 (¬ (t12 < (files.length : Int)) → (((2000 : Int) < (files.length : Int) → K0 (Er.e 9)) ∧
 (¬ ((2000 : Int) < (files.length : Int)) → K t90 (0 : Int) (0 : Int) false Er.ok))))) (0 : Int) ([] : List (List UInt8 × List UInt8 × Bool × List UInt8 × Bool × List (Int × List UInt8))))

set_option maxHeartbeats 8000000 in
theorem W_pdisk_Disk_call {S : List Nat} {B : Nat} {w : World} {g_d : Nat} {g_d_files : Nat} {hs_d_files : List (List UInt8 × PH)} {d_files : List (List UInt8 × List UInt8 × Bool × List UInt8 × Bool × List (Int × List UInt8))} {d_ops : Int} {d_left : Int} {d_down : Bool} {K : Er → (List (List UInt8 × List UInt8 × Bool × List UInt8 × Bool × List (Int × List UInt8))) → Int → Int → Bool → Prop} (hG : GB S B w) (hB : B ≤ w.heap.size) (hP : AllP (fun p => Ge p B) ((some g_d) :: (FP g_d_files hs_d_files none))) (hS15 : 15 ∈ S) (hd_files : PoolO pe128 w g_d_files hs_d_files d_files none) (hd : Bl w g_d 124 [.map (some g_d_files), .int .i64 d_ops, .int .i64 d_left, .bool d_down]) (hdj0_1 : AllP (Dj (some g_d)) (FP g_d_files hs_d_files none)) (H : M_pdisk_Disk_call d_files d_ops d_left d_down K) : Fn Tryd.prog 69 ⟨[.pointer (some ⟨g_d, 0, none⟩)]⟩ w (fun v w' => GrL ((some g_d) :: (FP g_d_files hs_d_files none)) w w' ∧ ∃ (v_r : Value), ∃ (r : Er), ∃ (hs_d_files2 : List (List UInt8 × PH)), ∃ (d_files2 : List (List UInt8 × List UInt8 × Bool × List UInt8 × Bool × List (Int × List UInt8))), ∃ (d_ops2 : Int), ∃ (d_left2 : Int), ∃ (d_down2 : Bool), v = v_r ∧ ErrR S w' v_r r ∧ Bl w' g_d 124 [.map (some g_d_files), .int .i64 d_ops2, .int .i64 d_left2, .bool d_down2] ∧ PoolO pe128 w' g_d_files hs_d_files2 d_files2 none ∧ AllP (InP ((some g_d) :: (FP g_d_files hs_d_files none)) w.heap.size) (FP g_d_files hs_d_files2 none) ∧ AllP (Dj (some g_d)) (FP g_d_files hs_d_files2 none) ∧ K r d_files2 d_ops2 d_left2 d_down2) := by
  unfold M_pdisk_Disk_call at H
  refine Fn.enter (by kernel_rfl) Tryd.func69 rfl Tryd.ntmps69 rfl ?_
  have hNoAt : AllP (NoAt w) ((some g_d) :: (FP g_d_files hs_d_files none)) := (apC (NoAt.bl hd rfl) hd_files.noats)
  refine WC.seq ?_
  refine WC.region ?_
  refine WL.y rfl (Yld.pure tab_ok rfl) ?_
  refine WL.nil (WX.then_normal ?_)
  refine WC.seq ?_
  refine WC.seq ?_
  refine WC.region ?_
  refine WL.y rfl (Yld.pure tab_ok rfl) ?_
  refine WL.y rfl (Yld.pure tab_ok rfl) ?_
  refine WL.y rfl (Yld.pure tab_ok rfl) ?_
  refine WL.y rfl (Yld.bload tab_ok hd rfl rfl rfl) ?_
  refine WL.nil (WX.then_normal ?_)
  refine WC.cond rfl (fun b1 => ?_) (fun b1 => ?_)
  · replace H := H.1 (b1)
    refine WC.seq ?_
    refine WC.region ?_
    obtain ⟨vE1, _, hE1⟩ := GOK.get hG.ok 15 3 hS15 rfl rfl
    refine WL.y rfl (Yld.cell tab_ok (ErrR.cell hE1 rfl) rfl rfl) ?_
    refine WL.y rfl (Yld.pure tab_ok rfl) ?_
    refine WL.nil (WX.then_normal ?_)
    refine WC.ret (WX.then_ret ?_)
    exact WX.ret1 rfl rfl ⟨(GrL.refl _), vE1, (Er.e 15), hs_d_files, d_files, d_ops, d_left, d_down, rfl, hE1, hd, hd_files, (InA.mem (fun _ hp => List.Mem.tail _ (hp))), hdj0_1, H⟩
  · replace H := H.2 (b1)
    refine WC.skip (WX.then_normal ?_)
    refine WC.seq ?_
    refine WC.region ?_
    refine WL.y rfl (Yld.pure tab_ok rfl) ?_
    refine WL.y rfl (Yld.pure tab_ok rfl) ?_
    refine WL.y rfl (Yld.pure tab_ok rfl) ?_
    refine WL.y rfl (Yld.bload tab_ok hd rfl rfl rfl) ?_
    obtain ⟨h1, H⟩ := H
    refine WL.y rfl (Yld.add rfl rfl h1) ?_
    refine WL.y rfl (Yld.pure tab_ok rfl) ?_
    refine WL.y rfl (Yld.pure tab_ok rfl) ?_
    refine WL.store1 one3 rfl rfl rfl hd (by simp) (fun w1 hB2 hg1 => ?_)
    have hB1 : Bl w1 g_d 124 [.map (some g_d_files), .int .i64 (d_ops + (1 : Int)), .int .i64 d_left, .bool d_down] := hB2
    have gr1 : GrL ((some g_d) :: (FP g_d_files hs_d_files none)) w w1 := GrL.mod (GrL.refl _) hg1 (InP.mem (List.Mem.head _))
    have k1 := hd_files.go hg1 hdj0_1
    refine WL.nil (WX.then_normal ?_)
    refine WC.seq ?_
    obtain ⟨J1, H, hJ1⟩ := H
    refine WC.midF (fun L' w' => ∃ (d2 : Int), L' = [] ∧ J1 d2 ∧ GrL ((some g_d) :: (FP g_d_files hs_d_files none)) w w' ∧ PoolO pe128 w' g_d_files hs_d_files d_files none ∧ Bl w' g_d 124 [.map (some g_d_files), .int .i64 (d_ops + (1 : Int)), .int .i64 d2, .bool d_down] ∧ AllP (Dj (some g_d)) (FP g_d_files hs_d_files none) ∧ AllP (InP ((some g_d) :: (FP g_d_files hs_d_files none)) w.heap.size) (FP g_d_files hs_d_files none)) ?_ (fun hQ => ?_)
    · clear H
      rintro _ w2 ⟨d2, rfl, H, gr2, k2, k3, dj1, hi1⟩
      replace H := hJ1 d2 H
      refine WX.then_normal ?_
      refine WC.seq ?_
      refine WC.region ?_
      refine WL.y rfl (Yld.pure tab_ok rfl) ?_
      refine WL.nil (WX.then_normal ?_)
      refine WC.ret ?_
      exact WX.ret1 rfl rfl ⟨gr2, .nilIface, Er.ok, hs_d_files, d_files, d_ops + (1 : Int), d2, d_down, rfl, (ErrR.okR (S := S) (w := w2)), k3, k2, hi1, dj1, H⟩
    · clear hJ1
      refine WC.seq ?_
      refine WC.region ?_
      refine WL.y rfl (Yld.pure tab_ok rfl) ?_
      refine WL.y rfl (Yld.pure tab_ok rfl) ?_
      refine WL.y rfl (Yld.pure tab_ok rfl) ?_
      refine WL.y rfl (Yld.bload tab_ok hB1 rfl rfl rfl) ?_
      refine WL.y rfl (Yld.pure tab_ok rfl) ?_
      refine WL.nil (WX.then_normal ?_)
      refine WC.cond rfl (fun b2 => ?_) (fun b2 => ?_)
      · replace H := H.1 (of_decide_eq_true b2)
        refine WC.seq ?_
        refine WC.region ?_
        refine WL.y rfl (Yld.pure tab_ok rfl) ?_
        refine WL.y rfl (Yld.pure tab_ok rfl) ?_
        refine WL.y rfl (Yld.pure tab_ok rfl) ?_
        refine WL.y rfl (Yld.bload tab_ok hB1 rfl rfl rfl) ?_
        obtain ⟨h2, H⟩ := H
        refine WL.y rfl (Yld.sub rfl rfl h2) ?_
        refine WL.y rfl (Yld.pure tab_ok rfl) ?_
        refine WL.y rfl (Yld.pure tab_ok rfl) ?_
        refine WL.store1 one3 rfl rfl rfl hB1 (by simp) (fun w3 hB4 hg2 => ?_)
        have hB3 : Bl w3 g_d 124 [.map (some g_d_files), .int .i64 (d_ops + (1 : Int)), .int .i64 (d_left - (1 : Int)), .bool d_down] := hB4
        have gr3 : GrL ((some g_d) :: (FP g_d_files hs_d_files none)) w w3 := GrL.mod gr1 hg2 (InP.mem (List.Mem.head _))
        have k4 := k1.go hg2 hdj0_1
        refine WL.nil (WX.then_normal ?_)
        refine WC.seq ?_
        refine WC.region ?_
        refine WL.y rfl (Yld.pure tab_ok rfl) ?_
        refine WL.y rfl (Yld.pure tab_ok rfl) ?_
        refine WL.y rfl (Yld.pure tab_ok rfl) ?_
        refine WL.y rfl (Yld.bload tab_ok hB3 rfl rfl rfl) ?_
        refine WL.y rfl (Yld.pure tab_ok rfl) ?_
        refine WL.nil (WX.then_normal ?_)
        refine WC.cond rfl (fun b3 => ?_) (fun b3 => ?_)
        · replace H := H.1 (of_decide_eq_true b3)
          refine WC.seq ?_
          refine WC.region ?_
          refine WL.y rfl (Yld.pure tab_ok rfl) ?_
          refine WL.y rfl (Yld.pure tab_ok rfl) ?_
          refine WL.y rfl (Yld.pure tab_ok rfl) ?_
          refine WL.store1 one4 rfl rfl rfl hB3 (by simp) (fun w4 hB6 hg3 => ?_)
          have hB5 : Bl w4 g_d 124 [.map (some g_d_files), .int .i64 (d_ops + (1 : Int)), .int .i64 (d_left - (1 : Int)), .bool true] := hB6
          have gr4 : GrL ((some g_d) :: (FP g_d_files hs_d_files none)) w w4 := GrL.mod gr3 hg3 (InP.mem (List.Mem.head _))
          have k5 := k4.go hg3 hdj0_1
          refine WL.nil (WX.then_normal ?_)
          refine WC.seq ?_
          refine WC.region ?_
          obtain ⟨vE2, _, hE2⟩ := GOK.get (hG.goL gr4 hP).ok 15 3 hS15 rfl rfl
          refine WL.y rfl (Yld.cell tab_ok (ErrR.cell hE2 rfl) rfl rfl) ?_
          refine WL.y rfl (Yld.pure tab_ok rfl) ?_
          refine WL.nil (WX.then_normal ?_)
          refine WC.ret (WX.then_ret ?_)
          exact WX.ret1 rfl rfl ⟨gr4, vE2, (Er.e 15), hs_d_files, d_files, d_ops + (1 : Int), d_left - (1 : Int), true, rfl, hE2, hB5, k5, (InA.mem (fun _ hp => List.Mem.tail _ (hp))), hdj0_1, H⟩
        · replace H := H.2 (of_decide_eq_false b3)
          refine WC.skip ?_
          exact WX.weaken (by repeat (first | exact Sub.nil | refine Sub.cons rfl ?_)) (hQ _ _ ⟨d_left - (1 : Int), rfl, H, gr3, k4, hB3, hdj0_1, (InA.mem (fun _ hp => List.Mem.tail _ (hp)))⟩)
      · replace H := H.2 (of_decide_eq_false b2)
        refine WC.skip ?_
        exact WX.weaken (by repeat (first | exact Sub.nil | refine Sub.cons rfl ?_)) (hQ _ _ ⟨d_left, rfl, H, gr1, k1, hB1, hdj0_1, (InA.mem (fun _ hp => List.Mem.tail _ (hp)))⟩)

set_option maxHeartbeats 8000000 in
theorem W_pdisk_file_settle {w : World} {g_f : Nat} {f_text : List UInt8} {f_is : Bool} {f_synced : List UInt8} {f_was : Bool} {f_since : List (Int × List UInt8)} {A_f_since : Option Addr} {c_f_since : Nat} {n_f_since : Nat} {K : (List UInt8) → Bool → (List UInt8) → Bool → (List (Int × List UInt8)) → Prop} (hf_since : OwnK 2 enc136 w 0 136 A_f_since c_f_since f_since) (hn_f_since : n_f_since = f_since.length) (hf : Bl w g_f 128 [vs f_text, .bool f_is, vs f_synced, .bool f_was, .slice A_f_since n_f_since c_f_since]) (hdj0_1 : Dj (some g_f) (blk A_f_since)) (H : M_pdisk_file_settle f_text f_is f_synced f_was f_since K) : Fn Tryd.prog 75 ⟨[.pointer (some ⟨g_f, 0, none⟩)]⟩ w (fun v w' => GrL [(some g_f), (blk A_f_since)] w w' ∧ ∃ (f_text2 : List UInt8), ∃ (f_is2 : Bool), ∃ (f_synced2 : List UInt8), ∃ (f_was2 : Bool), ∃ (f_since2 : List (Int × List UInt8)), ∃ (A_f_since2 : Option Addr), ∃ (c_f_since2 : Nat), v = .tuple #[] ∧ Bl w' g_f 128 [vs f_text2, .bool f_is2, vs f_synced2, .bool f_was2, .slice A_f_since2 f_since2.length c_f_since2] ∧ OwnK 2 enc136 w' 0 136 A_f_since2 c_f_since2 f_since2 ∧ InP [(some g_f), (blk A_f_since)] w.heap.size (blk A_f_since2) ∧ Dj (some g_f) (blk A_f_since2) ∧ K f_text2 f_is2 f_synced2 f_was2 f_since2) := by
  subst hn_f_since
  unfold M_pdisk_file_settle at H
  refine Fn.enter (by kernel_rfl) Tryd.func75 rfl Tryd.ntmps75 rfl ?_
  replace H := H (Nat.le_trans hf_since.rd.cap hf_since.rd.max)
  have hNoAt : AllP (NoAt w) [(some g_f), (blk A_f_since)] := (apC (NoAt.bl hf rfl) (apC (NoAt.ownK hf_since rfl) apN))
  refine WC.chainF (fun k => !(Nat.beq k 13 || Nat.beq k 16 || Nat.beq k 19)) (LD [6, 10] (fun w' => Bl w' g_f 128 [vs f_text, .bool f_is, vs f_synced, .bool f_was, .slice A_f_since f_since.length c_f_since])) mixed (by kernel_rfl) (fun k w' h _ => (bl_eqv h hf)) ?_
  refine WJ.y rfl rfl (fun w' hw' => Yld.pure tab_ok rfl) ?_
  refine WJ.y rfl rfl (fun w' hw' => Yld.pure tab_ok rfl) ?_
  refine WJ.y rfl rfl (fun w' hw' => Yld.pure tab_ok rfl) ?_
  refine WJ.y rfl rfl (fun w' hw' => Yld.pure tab_ok rfl) ?_
  refine WJ.y rfl rfl (fun w' hw' => Yld.pure tab_ok rfl) ?_
  refine WJ.y rfl rfl (fun w' hw' => Yld.pure tab_ok rfl) ?_
  refine WJ.y rfl rfl (fun w' hw' => Yld.bload tab_ok (hw' rfl) rfl rfl rfl) ?_
  refine WJ.y rfl rfl (fun w' hw' => Yld.pure tab_ok rfl) ?_
  refine WJ.y rfl rfl (fun w' hw' => Yld.pure tab_ok rfl) ?_
  refine WJ.y rfl rfl (fun w' hw' => Yld.pure tab_ok rfl) ?_
  refine WJ.y rfl rfl (fun w' hw' => Yld.bload tab_ok (hw' rfl) rfl rfl rfl) ?_
  refine WJ.y rfl rfl (fun w' hw' => Yld.pure tab_ok rfl) ?_
  refine WJ.y rfl rfl (fun w' hw' => Yld.pure tab_ok rfl) ?_
  refine WJ.eff rfl (Ef0.store1 one9 rfl rfl rfl hf (by simp)) (fun w' h => DD.past (by kernel_rfl)) ?_
  rintro w1 ⟨hB2, hg1⟩
  have hB1 : Bl w1 g_f 128 [vs f_text, .bool f_is, vs f_text, .bool f_was, .slice A_f_since f_since.length c_f_since] := hB2
  have gr1 : GrL [(some g_f), (blk A_f_since)] w w1 := GrL.mod (GrL.refl _) hg1 (InP.mem (List.Mem.head _))
  have k1 := hf_since.go hg1 hdj0_1.symm
  refine WJ.y rfl rfl (fun w' hw' => Yld.pure tab_ok rfl) ?_
  refine WJ.y rfl rfl (fun w' hw' => Yld.pure tab_ok rfl) ?_
  refine WJ.eff rfl (Ef0.store1 one4 rfl rfl rfl hB1 (by simp)) (fun w' h => DD.past (by kernel_rfl)) ?_
  rintro w2 ⟨hB4, hg2⟩
  have hB3 : Bl w2 g_f 128 [vs f_text, .bool f_is, vs f_text, .bool f_is, .slice A_f_since f_since.length c_f_since] := hB4
  have gr2 : GrL [(some g_f), (blk A_f_since)] w w2 := GrL.mod gr1 hg2 (InP.mem (List.Mem.head _))
  have k2 := k1.go hg2 hdj0_1.symm
  refine WJ.y rfl rfl (fun w' hw' => Yld.pure tab_ok rfl) ?_
  refine WJ.y rfl rfl (fun w' hw' => Yld.pure tab_ok rfl) ?_
  refine WJ.eff rfl (Ef0.store1 one126 rfl rfl rfl hB3 (by simp)) (fun w' h => DD.past (by kernel_rfl)) ?_
  rintro w3 ⟨hB6, hg3⟩
  have hB5 : Bl w3 g_f 128 [vs f_text, .bool f_is, vs f_text, .bool f_is, .slice none 0 0] := hB6
  have gr3 : GrL [(some g_f), (blk A_f_since)] w w3 := GrL.mod gr2 hg3 (InP.mem (List.Mem.head _))
  refine WJ.nil ?_
  exact WX.end0 rfl ⟨gr3, f_text, f_is, f_text, f_is, [], none, 0, rfl, hB5, ((OwnK.nil enc136_ok w3 w.heap.size 136).base (fun _ _ => Nat.zero_le _)), InP.none, Dj.nr, H⟩

set_option maxHeartbeats 8000000 in
theorem W_pdisk_Disk_there {w : World} {g_d : Nat} {g_d_files : Nat} {hs_d_files : List (List UInt8 × PH)} {d_files : List (List UInt8 × List UInt8 × Bool × List UInt8 × Bool × List (Int × List UInt8))} {d_ops : Int} {d_left : Int} {d_down : Bool} {p : List UInt8} {K : Bool → Prop} (hd_files : PoolO pe128 w g_d_files hs_d_files d_files none) (hd : Bl w g_d 124 [.map (some g_d_files), .int .i64 d_ops, .int .i64 d_left, .bool d_down]) (H : M_pdisk_Disk_there d_files d_ops d_left d_down p K) : Fn Tryd.prog 70 ⟨[.pointer (some ⟨g_d, 0, none⟩), vs p]⟩ w (fun v w' => w = w' ∧ ∃ (r : Bool), v = .bool r ∧ K r) := by
  unfold M_pdisk_Disk_there at H
  refine Fn.enter (by kernel_rfl) Tryd.func70 rfl Tryd.ntmps70 rfl ?_
  refine WC.seq ?_
  refine WC.region ?_
  refine WL.y rfl (Yld.pure tab_ok rfl) ?_
  refine WL.nil (WX.then_normal ?_)
  refine WC.seq ?_
  refine WC.region ?_
  refine WL.y rfl (Yld.pure tab_ok rfl) ?_
  refine WL.y rfl (Yld.pure tab_ok rfl) ?_
  refine WL.y rfl (Yld.pure tab_ok rfl) ?_
  refine WL.y rfl (Yld.bload tab_ok hd rfl rfl rfl) ?_
  refine WL.y rfl (Yld.pure tab_ok rfl) ?_
  obtain ⟨h1, H⟩ := H
  refine WL.y rfl (Yld.plook (keyF_s Tryd.underlying9) Tryd.underlying122 (fun _ => by kernel_rfl) hd_files rfl rfl h1) ?_
  refine WL.y rfl (Yld.pneP Tryd.underlying125 hd_files rfl rfl) ?_
  refine WL.y rfl (Yld.pure tab_ok rfl) ?_
  obtain ⟨h2, H⟩ := H
  obtain ⟨h3, H⟩ := H
  refine WL.midF 10 (fun L' w' => ∃ q1 : Bool, L' = [(22, .bool q1)] ∧ (((mget d_files p).isSome) && (((mget d_files p).getD ([], false, [], false, [])).2.1)) = q1 ∧ w = w') ?_ (fun hQ => ?_)
  · rintro _ _ ⟨q1, rfl, rfl, rfl⟩
    refine WL.y rfl (Yld.pure tab_ok rfl) ?_
    refine WL.nil (WX.then_normal ?_)
    refine WC.ret ?_
    exact WX.ret1 rfl rfl ⟨rfl, ((mget d_files p).isSome) && (((mget d_files p).getD ([], false, [], false, [])).2.1), rfl, H⟩
  · clear H
    rcases Bool.eq_false_or_eq_true ((mget d_files p).isSome) with b1 | b1
    · refine WL.gyes rfl rfl (okb b1) rfl (Yld.pure tab_ok rfl) ?_
      refine WL.gyes rfl rfl (okb b1) rfl (Yld.pure tab_ok rfl) ?_
      refine WL.gyes rfl rfl (okb b1) rfl (Yld.pure tab_ok rfl) ?_
      refine WL.gyes rfl rfl (okb b1) rfl (Yld.bload tab_ok hd rfl rfl rfl) ?_
      refine WL.gyes rfl rfl (okb b1) rfl (Yld.pure tab_ok rfl) ?_
      refine WL.gyes rfl rfl (okb b1) rfl (Yld.plook (keyF_s Tryd.underlying9) Tryd.underlying122 (fun _ => by kernel_rfl) hd_files rfl rfl (h2 b1)) ?_
      refine WL.gyes rfl rfl (okb b1) rfl (Yld.pchk hd_files (h3 b1) rfl) ?_
      refine WL.gyes rfl rfl (okb b1) rfl (Yld.pfa tab_ok hd_files (h3 b1) rfl rfl rfl) ?_
      refine WL.gyes rfl rfl (okb b1) rfl (Yld.pld (z := ([], false, [], false, [])) (v := .bool (((mget d_files p).getD ([], false, [], false, [])).2.1)) tab_ok hd_files (h3 b1) rfl rfl rfl rfl) ?_
      refine WL.y rfl (Yld.pickT (okb b1) rfl) ?_
      exact WL.weaken (by repeat (first | exact Sub.nil | refine Sub.cons rfl ?_)) (hQ _ _ ⟨((mget d_files p).getD ([], false, [], false, [])).2.1, rfl, by rw [b1] <;> rfl, rfl⟩)
    · refine WL.gno rfl rfl (okb b1) rfl ?_
      refine WL.gno rfl rfl (okb b1) rfl ?_
      refine WL.gno rfl rfl (okb b1) rfl ?_
      refine WL.gno rfl rfl (okb b1) rfl ?_
      refine WL.gno rfl rfl (okb b1) rfl ?_
      refine WL.gno rfl rfl (okb b1) rfl ?_
      refine WL.gno rfl rfl (okb b1) rfl ?_
      refine WL.gno rfl rfl (okb b1) rfl ?_
      refine WL.gno rfl rfl (okb b1) rfl ?_
      refine WL.y rfl (Yld.pickF (okb b1) rfl) ?_
      exact WL.weaken (by repeat (first | exact Sub.nil | refine Sub.cons rfl ?_)) (hQ _ _ ⟨false, rfl, by rw [b1] <;> rfl, rfl⟩)

set_option maxHeartbeats 8000000 in
theorem W_pdisk_Disk_known {w : World} {g_d : Nat} {g_d_files : Nat} {hs_d_files : List (List UInt8 × PH)} {d_files : List (List UInt8 × List UInt8 × Bool × List UInt8 × Bool × List (Int × List UInt8))} {d_ops : Int} {d_left : Int} {d_down : Bool} {p : List UInt8} {K : (List (List UInt8 × List UInt8 × Bool × List UInt8 × Bool × List (Int × List UInt8))) → Int → Int → Bool → Prop} (hd_files : PoolO pe128 w g_d_files hs_d_files d_files none) (hd : Bl w g_d 124 [.map (some g_d_files), .int .i64 d_ops, .int .i64 d_left, .bool d_down]) (hdj0_1 : AllP (Dj (some g_d)) (FP g_d_files hs_d_files none)) (H : M_pdisk_Disk_known d_files d_ops d_left d_down p K) : Fn Tryd.prog 113 ⟨[.pointer (some ⟨g_d, 0, none⟩), vs p]⟩ w (fun v w' => GrL ((some g_d) :: (FP g_d_files hs_d_files none)) w w' ∧ ∃ (hs_d_files2 : List (List UInt8 × PH)), ∃ (d_files2 : List (List UInt8 × List UInt8 × Bool × List UInt8 × Bool × List (Int × List UInt8))), ∃ (d_ops2 : Int), ∃ (d_left2 : Int), ∃ (d_down2 : Bool), v = pq hs_d_files2 p ∧ Bl w' g_d 124 [.map (some g_d_files), .int .i64 d_ops2, .int .i64 d_left2, .bool d_down2] ∧ PoolO pe128 w' g_d_files hs_d_files2 d_files2 none ∧ AllP (InP ((some g_d) :: (FP g_d_files hs_d_files none)) w.heap.size) (FP g_d_files hs_d_files2 none) ∧ AllP (Dj (some g_d)) (FP g_d_files hs_d_files2 none) ∧ K d_files2 d_ops2 d_left2 d_down2) := by
  unfold M_pdisk_Disk_known at H
  refine Fn.enter (by kernel_rfl) Tryd.func113 rfl Tryd.ntmps113 rfl ?_
  have hNoAt : AllP (NoAt w) ((some g_d) :: (FP g_d_files hs_d_files none)) := (apC (NoAt.bl hd rfl) hd_files.noats)
  refine WC.seq ?_
  refine WC.region ?_
  refine WL.y rfl (Yld.pure tab_ok rfl) ?_
  refine WL.nil (WX.then_normal ?_)
  refine WC.seq ?_
  obtain ⟨J1, H, hJ1⟩ := H
  refine WC.midF (fun L' w' => ∃ (d0 : List (List UInt8 × List UInt8 × Bool × List UInt8 × Bool × List (Int × List UInt8))), ∃ (hs_d0 : List (List UInt8 × PH)), L' = [(0, .pointer (some ⟨g_d, 0, none⟩)), (1, vs p)] ∧ J1 d0 ∧ GrL ((some g_d) :: (FP g_d_files hs_d_files none)) w w' ∧ Bl w' g_d 124 [.map (some g_d_files), .int .i64 d_ops, .int .i64 d_left, .bool d_down] ∧ PoolO pe128 w' g_d_files hs_d0 d0 none ∧ AllP (Dj (some g_d)) (FP g_d_files hs_d0 none) ∧ AllP (InP ((some g_d) :: (FP g_d_files hs_d_files none)) w.heap.size) (FP g_d_files hs_d0 none)) ?_ (fun hQ => ?_)
  · clear H
    rintro _ w1 ⟨d0, hs_d0, rfl, H, gr1, k1, k2, dj1, hi1⟩
    replace H := hJ1 d0 H
    refine WX.then_normal ?_
    refine WC.seq ?_
    refine WC.region ?_
    refine WL.y rfl (Yld.pure tab_ok rfl) ?_
    refine WL.y rfl (Yld.pure tab_ok rfl) ?_
    refine WL.y rfl (Yld.pure tab_ok rfl) ?_
    refine WL.y rfl (Yld.bload tab_ok k1 rfl rfl rfl) ?_
    refine WL.y rfl (Yld.pure tab_ok rfl) ?_
    obtain ⟨h1, H⟩ := H
    refine WL.y rfl (Yld.plook (keyF_s Tryd.underlying9) Tryd.underlying122 (fun _ => by kernel_rfl) k2 rfl rfl h1) ?_
    refine WL.y rfl (Yld.pure tab_ok rfl) ?_
    refine WL.nil (WX.then_normal ?_)
    refine WC.ret ?_
    exact WX.ret1 rfl rfl ⟨gr1, hs_d0, d0, d_ops, d_left, d_down, rfl, k1, k2, hi1, dj1, H⟩
  · clear hJ1
    refine WC.seq ?_
    refine WC.region ?_
    refine WL.y rfl (Yld.pure tab_ok rfl) ?_
    refine WL.y rfl (Yld.pure tab_ok rfl) ?_
    refine WL.y rfl (Yld.pure tab_ok rfl) ?_
    refine WL.y rfl (Yld.bload tab_ok hd rfl rfl rfl) ?_
    refine WL.y rfl (Yld.pure tab_ok rfl) ?_
    obtain ⟨h2, H⟩ := H
    refine WL.y rfl (Yld.plook (keyF_s Tryd.underlying9) Tryd.underlying122 (fun _ => by kernel_rfl) hd_files rfl rfl h2) ?_
    refine WL.y rfl (Yld.peqP Tryd.underlying125 hd_files rfl rfl) ?_
    refine WL.nil (WX.then_normal ?_)
    refine WC.cond rfl (fun b1 => ?_) (fun b1 => ?_)
    · replace H := H.1 (b1)
      refine WC.region ?_
      refine WL.y rfl (Yld.pure tab_ok rfl) ?_
      refine WL.y rfl (Yld.pure tab_ok rfl) ?_
      refine WL.y rfl (Yld.pure tab_ok rfl) ?_
      refine WL.y rfl (Yld.bload tab_ok hd rfl rfl rfl) ?_
      refine WL.y rfl (Yld.pure tab_ok rfl) ?_
      refine WL.y rfl (Yld.struct (us := [vs ([] : List UInt8), .bool false, vs ([] : List UInt8), .bool false, .slice none 0 0]) zero128 places128 rfl rfl) ?_
      refine WL.box (us := [vs ([] : List UInt8), .bool false, vs ([] : List UInt8), .bool false, .slice none 0 0]) rfl rfl rfl (fun g1 w2 hB1 hg1 hl1 => ?_)
      have gr2 := (GrL.of0 (ps := ((some g_d) :: (FP g_d_files hs_d_files none))) hg1)
      have k3 := hd_files.g0 hg1
      have k4 := hd.g0 hg1
      obtain ⟨h3, H⟩ := H
      have hr1 : pe128.rel w2 (g1, blk none) (([] : List UInt8), false, ([] : List UInt8), false, []) := ⟨_, _, rfl, hB1, ((OwnK.nil enc136_ok w2 w.heap.size 136).base (fun _ _ => Nat.zero_le _)), Dj.nr⟩
      refine WL.ef0 (Ef0.poolPut (keyF_s Tryd.underlying9) Tryd.underlying122 k3 h3.2 rfl rfl h3.1 rfl hr1 (hd_files.new (Ge.box hl1)) apNl) ?_
      rintro w3 ⟨k5, hg2⟩
      have gr3 : GrL ((some g_d) :: (FP g_d_files hs_d_files none)) w w3 := GrL.mod gr2 hg2 (apH (InA.mem (fun _ hp => List.Mem.tail _ (hp))))
      have k6 := k4.go hg2 (apH hdj0_1)
      refine WL.nil ?_
      exact WX.weaken (by repeat (first | exact Sub.nil | refine Sub.cons rfl ?_)) (hQ _ _ ⟨mput d_files p (([] : List UInt8), false, ([] : List UInt8), false, []), mput hs_d_files p (g1, blk none), rfl, H, gr3, k6, k5, (PoolO.putA k3 hdj0_1 (Dj.new hd.lt' (Ge.box hl1)) Dj.nr), (PoolO.putA k3 (InA.mem (fun _ hp => List.Mem.tail _ (hp))) (InP.ge (Ge.le (Ge.box hl1) (Nat.le_refl _))) InP.none)⟩)
    · replace H := H.2 (b1)
      refine WC.skip ?_
      exact WX.weaken (by repeat (first | exact Sub.nil | refine Sub.cons rfl ?_)) (hQ _ _ ⟨d_files, hs_d_files, rfl, H, (GrL.refl _), hd, hd_files, hdj0_1, (InA.mem (fun _ hp => List.Mem.tail _ (hp)))⟩)

set_option maxHeartbeats 8000000 in
theorem W_pdisk_Disk_Read {S : List Nat} {B : Nat} {w : World} {g_d : Nat} {g_d_files : Nat} {hs_d_files : List (List UInt8 × PH)} {d_files : List (List UInt8 × List UInt8 × Bool × List UInt8 × Bool × List (Int × List UInt8))} {d_ops : Int} {d_left : Int} {d_down : Bool} {p : List UInt8} {K : (List UInt8) → Bool → Er → (List (List UInt8 × List UInt8 × Bool × List UInt8 × Bool × List (Int × List UInt8))) → Int → Int → Bool → Prop} (hG : GB S B w) (hB : B ≤ w.heap.size) (hP : AllP (fun p => Ge p B) ((some g_d) :: (FP g_d_files hs_d_files none))) (hS15 : 15 ∈ S) (hd_files : PoolO pe128 w g_d_files hs_d_files d_files none) (hd : Bl w g_d 124 [.map (some g_d_files), .int .i64 d_ops, .int .i64 d_left, .bool d_down]) (hdj0_1 : AllP (Dj (some g_d)) (FP g_d_files hs_d_files none)) (H : M_pdisk_Disk_Read d_files d_ops d_left d_down p K) : Fn Tryd.prog 23 ⟨[.pointer (some ⟨g_d, 0, none⟩), vs p]⟩ w (fun v w' => GrL ((some g_d) :: (FP g_d_files hs_d_files none)) w w' ∧ ∃ (r0 : List UInt8), ∃ (r1 : Bool), ∃ (v_r2 : Value), ∃ (r2 : Er), ∃ (hs_d_files2 : List (List UInt8 × PH)), ∃ (d_files2 : List (List UInt8 × List UInt8 × Bool × List UInt8 × Bool × List (Int × List UInt8))), ∃ (d_ops2 : Int), ∃ (d_left2 : Int), ∃ (d_down2 : Bool), v = .tuple #[vs r0, .bool r1, v_r2] ∧ ErrR S w' v_r2 r2 ∧ Bl w' g_d 124 [.map (some g_d_files), .int .i64 d_ops2, .int .i64 d_left2, .bool d_down2] ∧ PoolO pe128 w' g_d_files hs_d_files2 d_files2 none ∧ AllP (InP ((some g_d) :: (FP g_d_files hs_d_files none)) w.heap.size) (FP g_d_files hs_d_files2 none) ∧ AllP (Dj (some g_d)) (FP g_d_files hs_d_files2 none) ∧ K r0 r1 r2 d_files2 d_ops2 d_left2 d_down2) := by
  unfold M_pdisk_Disk_Read at H
  refine Fn.enter (by kernel_rfl) Tryd.func23 rfl Tryd.ntmps23 rfl ?_
  have hNoAt : AllP (NoAt w) ((some g_d) :: (FP g_d_files hs_d_files none)) := (apC (NoAt.bl hd rfl) hd_files.noats)
  refine WC.seq ?_
  refine WC.region ?_
  refine WL.y rfl (Yld.pure tab_ok rfl) ?_
  refine WL.y rfl (Yld.pure tab_ok rfl) ?_
  refine WL.y rfl (Yld.pure tab_ok rfl) ?_
  refine WL.nil (WX.then_normal ?_)
  refine WC.seq ?_
  refine WC.seq ?_
  refine WC.region ?_
  refine WL.y rfl (Yld.pure tab_ok rfl) ?_
  refine WL.call rfl rfl (W_pdisk_Disk_call hG (Nat.le_trans hB (Nat.le_refl _)) (apC (InP.toGe (InP.mem (List.Mem.head _)) hP hB) (InA.toGe (InA.mem (fun _ hp => List.Mem.tail _ (hp))) hP hB)) hS15 hd_files hd hdj0_1 H) ?_
  rintro v_err w1 ⟨hgl1, _, err, hs_d_, d_, d_2, d_3, d_4, rfl, herr, hB1, hM1, hi1, dj1, H⟩
  have gr1 : GrL ((some g_d) :: (FP g_d_files hs_d_files none)) w w1 := GrL.modL (GrL.refl _) hgl1 (apC (InP.mem (List.Mem.head _)) (InA.mem (fun _ hp => List.Mem.tail _ (hp))))
  refine WL.y rfl (Yld.pure tab_ok rfl) ?_
  refine WL.nil (WX.then_normal ?_)
  refine WC.seq ?_
  refine WC.region ?_
  refine WL.y rfl (Yld.pure tab_ok rfl) ?_
  refine WL.y rfl (Yld.errneq Tryd.underlying29 herr rfl) ?_
  refine WL.y rfl (Yld.pure tab_ok rfl) ?_
  obtain ⟨J1, H, hJ1⟩ := H
  refine WL.midF 5 (fun L' w' => ∃ q1 : Bool, L' = [(17, .bool q1), (0, .pointer (some ⟨g_d, 0, none⟩)), (1, vs p), (7, v_err)] ∧ J1 q1 ∧ w1 = w') ?_ (fun hQ => ?_)
  · clear H
    rintro _ _ ⟨q1, rfl, H, rfl⟩
    replace H := hJ1 q1 H
    refine WL.nil (WX.then_normal ?_)
    refine WC.cond rfl (fun b1 => ?_) (fun b1 => ?_)
    · replace H := H.1 (b1)
      refine WC.seq ?_
      refine WC.region ?_
      refine WL.y rfl (Yld.pure tab_ok rfl) ?_
      refine WL.y rfl (Yld.pure tab_ok rfl) ?_
      refine WL.y rfl (Yld.pure tab_ok rfl) ?_
      refine WL.y rfl (Yld.pure tab_ok rfl) ?_
      refine WL.nil (WX.then_normal ?_)
      refine WC.ret (WX.then_ret ?_)
      exact WX.ret3 rfl rfl rfl rfl ⟨gr1, ([] : List UInt8), false, v_err, err, hs_d_, d_, d_2, d_3, d_4, rfl, herr, hB1, hM1, (InA.trans hi1 (apC (InP.mem (List.Mem.head _)) (InA.mem (fun _ hp => List.Mem.tail _ (hp)))) (Nat.le_refl _)), dj1, H⟩
    · replace H := H.2 (b1)
      refine WC.skip (WX.then_normal ?_)
      refine WC.seq ?_
      refine WC.region ?_
      refine WL.y rfl (Yld.pure tab_ok rfl) ?_
      refine WL.y rfl (Yld.pure tab_ok rfl) ?_
      refine WL.y rfl (Yld.pure tab_ok rfl) ?_
      refine WL.y rfl (Yld.bload tab_ok hB1 rfl rfl rfl) ?_
      refine WL.y rfl (Yld.pure tab_ok rfl) ?_
      obtain ⟨h1, H⟩ := H
      refine WL.y rfl (Yld.plook (keyF_s Tryd.underlying9) Tryd.underlying122 (fun _ => by kernel_rfl) hM1 rfl rfl h1) ?_
      obtain ⟨h2, H⟩ := H
      refine WL.y rfl (Yld.pchk hM1 h2 rfl) ?_
      refine WL.y rfl (Yld.pfa tab_ok hM1 h2 rfl rfl rfl) ?_
      refine WL.y rfl (Yld.pld (z := ([], false, [], false, [])) (v := vs (((mget d_ p).getD ([], false, [], false, [])).1)) tab_ok hM1 h2 rfl rfl rfl rfl) ?_
      refine WL.y rfl (Yld.pure tab_ok rfl) ?_
      refine WL.y rfl (Yld.pure tab_ok rfl) ?_
      refine WL.y rfl (Yld.pure tab_ok rfl) ?_
      refine WL.nil (WX.then_normal ?_)
      refine WC.ret ?_
      exact WX.ret3 rfl rfl rfl rfl ⟨gr1, ((mget d_ p).getD ([], false, [], false, [])).1, true, .nilIface, Er.ok, hs_d_, d_, d_2, d_3, d_4, rfl, (ErrR.okR (S := S) (w := w1)), hB1, hM1, (InA.trans hi1 (apC (InP.mem (List.Mem.head _)) (InA.mem (fun _ hp => List.Mem.tail _ (hp)))) (Nat.le_refl _)), dj1, H⟩
  · clear hJ1
    rcases Bool.eq_false_or_eq_true (!decide (err = Er.ok)) with b2 | b2
    · replace H := H.1 b2
      refine WL.gno rfl rfl (okb b2) rfl ?_
      refine WL.gno rfl rfl (okb b2) rfl ?_
      refine WL.gno rfl rfl (okb b2) rfl ?_
      refine WL.gno rfl rfl (okb b2) rfl ?_
      refine WL.y rfl (Yld.pickT (okb b2) rfl) ?_
      exact WL.weaken (by repeat (first | exact Sub.nil | refine Sub.cons rfl ?_)) (hQ _ _ ⟨true, rfl, H, rfl⟩)
    · replace H := H.2 b2
      refine WL.gyes rfl rfl (okb b2) rfl (Yld.pure tab_ok rfl) ?_
      refine WL.gyes rfl rfl (okb b2) rfl (Yld.pure tab_ok rfl) ?_
      refine WL.callw (wants_some rfl rfl (okb b2)) rfl rfl (W_pdisk_Disk_there hM1 hB1 H) ?_
      rintro _ _ ⟨rfl, t15, rfl, H⟩
      refine WL.gyes rfl rfl (okb b2) rfl (Yld.pure tab_ok rfl) ?_
      refine WL.y rfl (Yld.pickF (okb b2) rfl) ?_
      exact WL.weaken (by repeat (first | exact Sub.nil | refine Sub.cons rfl ?_)) (hQ _ _ ⟨!t15, rfl, H, rfl⟩)

set_option maxHeartbeats 8000000 in
theorem W_pdisk_Disk_paths {w : World} {g_d : Nat} {g_d_files : Nat} {hs_d_files : List (List UInt8 × PH)} {d_files : List (List UInt8 × List UInt8 × Bool × List UInt8 × Bool × List (Int × List UInt8))} {d_ops : Int} {d_left : Int} {d_down : Bool} {K : (List (List UInt8)) → Prop} (hd_files : PoolO pe128 w g_d_files hs_d_files d_files none) (hd : Bl w g_d 124 [.map (some g_d_files), .int .i64 d_ops, .int .i64 d_left, .bool d_down]) (H : M_pdisk_Disk_paths d_files d_ops d_left d_down K) : Fn Tryd.prog 77 ⟨[.pointer (some ⟨g_d, 0, none⟩)]⟩ w (fun v w' => w.grownBy w' none ∧ ∃ (r : List (List UInt8)), ∃ (A_r : Option Addr), ∃ (c_r : Nat), v = .slice A_r r.length c_r ∧ Own vs w' w.heap.size 9 A_r c_r r ∧ K r) := by
  unfold M_pdisk_Disk_paths at H
  refine Fn.enter (by kernel_rfl) Tryd.func77 rfl Tryd.ntmps77 rfl ?_
  refine WC.seq ?_
  refine WC.region ?_
  refine WL.y rfl (Yld.pure tab_ok rfl) ?_
  refine WL.nil (WX.then_normal ?_)
  refine WC.seq ?_
  refine WC.region ?_
  refine WL.y rfl (Yld.pure tab_ok rfl) ?_
  refine WL.nil (WX.then_normal ?_)
  refine WC.seq ?_
  refine WC.seq ?_
  refine WC.region ?_
  refine WL.y rfl (Yld.pure tab_ok rfl) ?_
  refine WL.y rfl (Yld.pure tab_ok rfl) ?_
  refine WL.y rfl (Yld.pure tab_ok rfl) ?_
  refine WL.y rfl (Yld.bload tab_ok hd rfl rfl rfl) ?_
  refine WL.putw wants_none rfl (Eff.rangeP hd_files Tryd.underlying122 rfl) ?_
  rintro _ w1 ⟨rfl, k1, hg1⟩
  have gr1 := hg1
  refine WL.nil (WX.then_normal ?_)
  refine WC.block ?_
  obtain ⟨I1, mu1, h0_1, HR1⟩ := H
  refine WC.loopF (fun n' L' w' => ∃ (l : List (List UInt8)), ∃ (A_l : Option Addr), ∃ (c_l : Nat), ∃ (n_l : Nat), ∃ (left : List (List UInt8)), n' = mu1 l left ∧ L' = [(3, .slice A_l n_l c_l), (10, .pointer (some ⟨w.heap.size, 0, none⟩))] ∧ I1 l left ∧ n_l = l.length ∧ w.grownBy w' none ∧ RngP w' g_d_files w.heap.size hs_d_files left ∧ Own vs w' w.heap.size 9 A_l c_l l ∧ Dj (some w.heap.size) (blk A_l)) _ _ ⟨[], none, 0, 0, d_files.map (·.1), rfl, rfl, h0_1, rfl, gr1, k1, (Own.nil vs w1 w.heap.size 9), Dj.nr⟩ (by repeat (first | exact Sub.nil | refine Sub.cons rfl ?_)) ?_
  clear h0_1
  rintro _ _ w2 ⟨l, A_l, c_l, n_l, left, rfl, rfl, hI1, rfl, gr2, k2, k3, dj1⟩
  have H := HR1 l left hI1
  refine WC.seq ?_
  refine WC.region ?_
  refine WL.putw wants_none rfl (Eff.nextP k2 (hd_files.g0 gr2).uq rfl) ?_
  rintro _ w3 (⟨hks1, rfl, k4, hg2⟩ | ⟨ix, key, hq1, rfl, hsm1, k4, hg2, hE1⟩)
  · replace H := H.1 hks1
    have gr3 := gr_trans gr2 hg2
    have k5 := k3.grown hg2
    refine WL.y rfl (Yld.pure tab_ok rfl) ?_
    refine WL.nil (WX.then_normal ?_)
    refine WC.seq ?_
    refine WC.cond rfl (fun h => by cases h) (fun _ => ?_)
    refine WC.exit (WX.then_exit (WX.then_exit (WX.block_same (WX.then_normal ?_))))
    refine WC.seq ?_
    refine WC.region ?_
    refine WL.y rfl (Yld.pure tab_ok rfl) ?_
    refine WL.call rfl rfl (W_slices_Sort_string_string k5 rfl H) ?_
    rintro _ w4 ⟨ys, rfl, hO1, hg3, hl2, H⟩
    have gr4 := gr_mod gr3 hg3 k5.ge'
    refine WL.nil (WX.then_normal ?_)
    refine WC.seq ?_
    refine WC.region ?_
    refine WL.y rfl (Yld.pure tab_ok rfl) ?_
    refine WL.y rfl (Yld.pure tab_ok rfl) ?_
    refine WL.nil (WX.then_normal ?_)
    refine WC.ret ?_
    exact WX.ret1 rfl rfl ⟨gr4, ys, A_l, c_l, (by rw [((rfl : l.length = l.length).trans hl2.symm)]), hO1, H⟩
  · replace H := H.2 ix key hq1
    have gr5 := gr_mod gr2 hg2 (Ge.le (Ge.box (Nat.le_refl _)) (Nat.le_refl _))
    have k6 := k3.go hg2 dj1.symm
    refine WL.y rfl (Yld.pure tab_ok rfl) ?_
    refine WL.nil (WX.then_normal ?_)
    refine WC.seq ?_
    refine WC.cond rfl (fun _ => ?_) (fun h => by cases h)
    refine WC.skip (WX.then_normal ?_)
    refine WC.block ?_
    refine WC.seq ?_
    refine WC.region ?_
    refine WL.y rfl (Yld.entry hE1 rfl) ?_
    refine WL.y rfl (Yld.pure tab_ok rfl) ?_
    refine WL.y rfl (Yld.pure tab_ok rfl) ?_
    refine WL.y rfl (Yld.pure tab_ok rfl) ?_
    refine WL.y rfl (Yld.pure tab_ok rfl) ?_
    refine WL.nil (WX.then_normal ?_)
    refine WC.seq ?_
    refine WC.region ?_
    refine WL.y rfl (Yld.pure tab_ok rfl) ?_
    obtain ⟨h1, H⟩ := H
    refine WL.y rfl (Yld.pchk (hd_files.g0 gr5) h1 rfl) ?_
    refine WL.y rfl (Yld.pfa tab_ok (hd_files.g0 gr5) h1 rfl rfl rfl) ?_
    refine WL.y rfl (Yld.pld (z := ([], false, [], false, [])) (v := .bool (((mget d_files key).getD ([], false, [], false, [])).2.1)) tab_ok (hd_files.g0 gr5) h1 rfl rfl rfl rfl) ?_
    refine WL.nil (WX.then_normal ?_)
    refine WC.cond rfl (fun b1 => ?_) (fun b1 => ?_)
    · replace H := H.1 (b1)
      refine WC.region ?_
      refine WL.y rfl (Yld.pure tab_ok rfl) ?_
      refine WL.y rfl (Yld.pure tab_ok rfl) ?_
      refine WL.lit tab_ok rfl rfl rfl (all1c rfl all1n) rfl (by omega) (fun g1 w5 hB1 hg4 hl3 => ?_)
      have hO2 : Own vs w5 w.heap.size 9 (some ⟨g1, 0, none⟩) 1 ([key] : List (List UInt8)) := Own.ofBl hB1 (Nat.le_trans (size_le gr5) hl3) (by simp [maxLen]) rfl
      have gr6 := gr_trans gr5 hg4
      have k7 := k4.g0 hg4
      have k8 := k6.grown hg4
      obtain ⟨h2, H⟩ := H
      refine WL.append tab_ok rfl rfl One.s k8 rfl rfl hO2.rd rfl rfl h2 (applen h2) (size_le gr6) (fun A_l2 c_l2 w6 hO3 hg5 hk1 => ?_)
      have gr7 := gr_mod gr6 hg5 k8.ge'
      have k9 := k7.go hg5 dj1 (apH (hd_files.inp (InP.ge k8.ge') apN)).symm
      refine WL.y rfl (Yld.pure tab_ok rfl) ?_
      refine WL.nil (WX.block_normal ?_)
      exact WX.roundF _ ⟨l ++ ([key] : List (List UInt8)), A_l2, c_l2, (l ++ ([key] : List (List UInt8))).length, left.eraseIdx ix, rfl, rfl, H.1, rfl, gr7, k9, hO3, (Dj.app dj1.symm k7.lt' hk1).symm⟩ (by repeat (first | exact Sub.nil | refine Sub.cons rfl ?_)) H.2
    · replace H := H.2 (b1)
      refine WC.skip (WX.block_normal ?_)
      exact WX.roundF _ ⟨l, A_l, c_l, l.length, left.eraseIdx ix, rfl, rfl, H.1, rfl, gr5, k4, k6, dj1⟩ (by repeat (first | exact Sub.nil | refine Sub.cons rfl ?_)) H.2

set_option maxHeartbeats 8000000 in
theorem W_pdisk_Disk_count {w : World} {g_d : Nat} {g_d_files : Nat} {hs_d_files : List (List UInt8 × PH)} {d_files : List (List UInt8 × List UInt8 × Bool × List UInt8 × Bool × List (Int × List UInt8))} {d_ops : Int} {d_left : Int} {d_down : Bool} {K : Int → Prop} (hd_files : PoolO pe128 w g_d_files hs_d_files d_files none) (hd : Bl w g_d 124 [.map (some g_d_files), .int .i64 d_ops, .int .i64 d_left, .bool d_down]) (H : M_pdisk_Disk_count d_files d_ops d_left d_down K) : Fn Tryd.prog 112 ⟨[.pointer (some ⟨g_d, 0, none⟩)]⟩ w (fun v w' => w.grownBy w' none ∧ ∃ (r : Int), v = .int .i64 r ∧ K r) := by
  unfold M_pdisk_Disk_count at H
  refine Fn.enter (by kernel_rfl) Tryd.func112 rfl Tryd.ntmps112 rfl ?_
  refine WC.seq ?_
  refine WC.region ?_
  refine WL.y rfl (Yld.pure tab_ok rfl) ?_
  refine WL.nil (WX.then_normal ?_)
  refine WC.seq ?_
  refine WC.region ?_
  refine WL.y rfl (Yld.pure tab_ok rfl) ?_
  refine WL.call rfl rfl (W_pdisk_Disk_paths hd_files hd H) ?_
  rintro _ w1 ⟨hg1, t4, A_t4, c_t4, rfl, ht4, H⟩
  have hb1 := ht4.ge'
  have k1 := ht4.base (fun g hg => Nat.le_trans (Nat.le_refl _) (hb1 g hg))
  have gr1 := hg1
  refine WL.y rfl (Yld.pure tab_ok rfl) ?_
  refine WL.y rfl (Yld.pure tab_ok rfl) ?_
  refine WL.nil (WX.then_normal ?_)
  refine WC.ret ?_
  exact WX.ret1 rfl rfl ⟨gr1, (t4.length : Int), rfl, H⟩

set_option maxHeartbeats 8000000 in
theorem W_pdisk_Disk_put {S : List Nat} {B : Nat} {w : World} {g_d : Nat} {g_d_files : Nat} {hs_d_files : List (List UInt8 × PH)} {d_files : List (List UInt8 × List UInt8 × Bool × List UInt8 × Bool × List (Int × List UInt8))} {d_ops : Int} {d_left : Int} {d_down : Bool} {p : List UInt8} {text : List UInt8} {c_kind : Int} {c_text : List UInt8} {K : Er → (List (List UInt8 × List UInt8 × Bool × List UInt8 × Bool × List (Int × List UInt8))) → Int → Int → Bool → Prop} (hG : GB S B w) (hB : B ≤ w.heap.size) (hP : AllP (fun p => Ge p B) ((some g_d) :: (FP g_d_files hs_d_files none))) (hS9 : 9 ∈ S) (hS11 : 11 ∈ S) (hS15 : 15 ∈ S) (hS100 : 100 ∈ S) (hd_files : PoolO pe128 w g_d_files hs_d_files d_files none) (hd : Bl w g_d 124 [.map (some g_d_files), .int .i64 d_ops, .int .i64 d_left, .bool d_down]) (hdj0_1 : AllP (Dj (some g_d)) (FP g_d_files hs_d_files none)) (H : M_pdisk_Disk_put d_files d_ops d_left d_down p text c_kind c_text K) : Fn Tryd.prog 76 ⟨[.pointer (some ⟨g_d, 0, none⟩), vs p, vs text, .agg ⟨[.int .i64 c_kind, vs c_text]⟩]⟩ w (fun v w' => GrL ((some g_d) :: (FP g_d_files hs_d_files none)) w w' ∧ ∃ (v_r : Value), ∃ (r : Er), ∃ (hs_d_files2 : List (List UInt8 × PH)), ∃ (d_files2 : List (List UInt8 × List UInt8 × Bool × List UInt8 × Bool × List (Int × List UInt8))), ∃ (d_ops2 : Int), ∃ (d_left2 : Int), ∃ (d_down2 : Bool), v = v_r ∧ ErrR S w' v_r r ∧ Bl w' g_d 124 [.map (some g_d_files), .int .i64 d_ops2, .int .i64 d_left2, .bool d_down2] ∧ PoolO pe128 w' g_d_files hs_d_files2 d_files2 none ∧ AllP (InP ((some g_d) :: (FP g_d_files hs_d_files none)) w.heap.size) (FP g_d_files hs_d_files2 none) ∧ AllP (Dj (some g_d)) (FP g_d_files hs_d_files2 none) ∧ K r d_files2 d_ops2 d_left2 d_down2) := by
  unfold M_pdisk_Disk_put at H
  refine Fn.enter (by kernel_rfl) Tryd.func76 rfl Tryd.ntmps76 rfl ?_
  have hNoAt : AllP (NoAt w) ((some g_d) :: (FP g_d_files hs_d_files none)) := (apC (NoAt.bl hd rfl) hd_files.noats)
  refine WC.seq ?_
  refine WC.region ?_
  refine WL.box (us := [.int .i64 c_kind, vs c_text]) rfl rfl rfl (fun g1 w1 hB1 hg1 hl1 => ?_)
  have gr1 := (GrL.of0 (ps := ((some g_d) :: (FP g_d_files hs_d_files none))) hg1)
  have k1 := hd_files.g0 hg1
  have k2 := hd.g0 hg1
  refine WL.y rfl (Yld.pure tab_ok rfl) ?_
  refine WL.nil (WX.then_normal ?_)
  refine WC.seq ?_
  refine WC.seq ?_
  refine WC.region ?_
  refine WL.y rfl (Yld.pure tab_ok rfl) ?_
  refine WL.call rfl rfl (W_pdisk_Disk_call (hG.goL gr1 hP) (Nat.le_trans hB (GrL.sizeL gr1)) (apC (InP.toGe (InP.mem (List.Mem.head _)) hP hB) (InA.toGe (InA.mem (fun _ hp => List.Mem.tail _ (hp))) hP hB)) hS15 k1 k2 hdj0_1 H) ?_
  rintro v_err w2 ⟨hgl1, _, err, hs_d_, d_, d_2, d_3, d_4, rfl, herr, hB2, hM1, hi1, dj1, H⟩
  have gr2 : GrL ((some g_d) :: (FP g_d_files hs_d_files none)) w w2 := GrL.modL gr1 hgl1 (apC (InP.mem (List.Mem.head _)) (InA.mem (fun _ hp => List.Mem.tail _ (hp))))
  have k3 := hB1.goL hgl1 (apC (Dj.new hd.lt' (Ge.box hl1)).symm (hd_files.new (Ge.box hl1)))
  refine WL.y rfl (Yld.pure tab_ok rfl) ?_
  refine WL.nil (WX.then_normal ?_)
  refine WC.seq ?_
  refine WC.region ?_
  refine WL.y rfl (Yld.pure tab_ok rfl) ?_
  refine WL.y rfl (Yld.errneq Tryd.underlying29 herr rfl) ?_
  refine WL.nil (WX.then_normal ?_)
  refine WC.cond rfl (fun b1 => ?_) (fun b1 => ?_)
  · replace H := H.1 (nd_true b1)
    refine WC.seq ?_
    refine WC.region ?_
    refine WL.y rfl (Yld.pure tab_ok rfl) ?_
    refine WL.y rfl (Yld.pure tab_ok rfl) ?_
    refine WL.nil (WX.then_normal ?_)
    refine WC.ret (WX.then_ret ?_)
    exact WX.ret1 rfl rfl ⟨gr2, v_err, err, hs_d_, d_, d_2, d_3, d_4, rfl, herr, hB2, hM1, (InA.trans hi1 (apC (InP.mem (List.Mem.head _)) (InA.mem (fun _ hp => List.Mem.tail _ (hp)))) (GrL.sizeL gr1)), dj1, H⟩
  · replace H := H.2 (nd_false b1)
    refine WC.skip (WX.then_normal ?_)
    refine WC.seq ?_
    obtain ⟨J1, H, hJ1⟩ := H
    refine WC.midF (fun L' w' => ∃ (text2 : List UInt8), L' = [(0, .pointer (some ⟨g_d, 0, none⟩)), (1, vs p), (2, vs text2), (7, .pointer (some ⟨g1, 0, none⟩))] ∧ J1 text2 ∧ w2 = w') ?_ (fun hQ => ?_)
    · clear H
      rintro _ _ ⟨text2, rfl, H, rfl⟩
      replace H := hJ1 text2 H
      refine WX.then_normal ?_
      refine WC.seq ?_
      refine WC.block ?_
      refine WC.seq ?_
      refine WC.region ?_
      refine WL.y rfl (Yld.pure tab_ok rfl) ?_
      refine WL.call rfl rfl (W_path_Valid (hG.goL gr2 hP).ok hS100 H) ?_
      rintro _ w3 ⟨hg2, t37, rfl, H⟩
      have gr3 := GrL.add0 gr2 hg2
      have k4 := hM1.g0 hg2
      have k5 := hB2.g0 hg2
      have k6 := k3.g0 hg2
      refine WL.y rfl (Yld.pure tab_ok rfl) ?_
      refine WL.y rfl (Yld.pure tab_ok rfl) ?_
      refine WL.midF 4 (fun L' w' => ∃ q1 : Bool, L' = [(43, .bool q1), (0, .pointer (some ⟨g_d, 0, none⟩)), (1, vs p), (2, vs text2), (7, .pointer (some ⟨g1, 0, none⟩))] ∧ ((!t37) || (decide ((65536 : Int) < (text2.length : Int)))) = q1 ∧ w3 = w') ?_ (fun hQ => ?_)
      · rintro _ _ ⟨q1, rfl, rfl, rfl⟩
        refine WL.y rfl (Yld.pure tab_ok rfl) ?_
        refine WL.nil (WX.then_normal ?_)
        refine WC.cond rfl (fun b2 => ?_) (fun b2 => ?_)
        · replace H := H.1 (b2)
          refine WC.seq ?_
          refine WC.region ?_
          obtain ⟨vE1, _, hE1⟩ := GOK.get (hG.goL gr3 hP).ok 11 0 hS11 rfl rfl
          refine WL.y rfl (Yld.cell tab_ok (ErrR.cell hE1 rfl) rfl rfl) ?_
          refine WL.y rfl (Yld.pure tab_ok rfl) ?_
          refine WL.nil (WX.then_normal ?_)
          refine WC.ret (WX.block_ret (WX.then_ret ?_))
          exact WX.ret1 rfl rfl ⟨gr3, vE1, (Er.e 11), hs_d_, d_, d_2, d_3, d_4, rfl, hE1, k5, k4, (InA.trans hi1 (apC (InP.mem (List.Mem.head _)) (InA.mem (fun _ hp => List.Mem.tail _ (hp)))) (GrL.sizeL gr1)), dj1, H⟩
        · replace H := H.2 (b2)
          refine WC.seq ?_
          refine WC.region ?_
          refine WL.y rfl (Yld.pure tab_ok rfl) ?_
          refine WL.y rfl (Yld.pure tab_ok rfl) ?_
          refine WL.call rfl rfl (W_pdisk_Disk_there k4 k5 H) ?_
          rintro _ _ ⟨rfl, t48, rfl, H⟩
          refine WL.y rfl (Yld.pure tab_ok rfl) ?_
          refine WL.y rfl (Yld.pure tab_ok rfl) ?_
          obtain ⟨J2, H, hJ2⟩ := H
          refine WL.midF 4 (fun L' w' => ∃ q2 : Bool, L' = [(54, .bool q2), (0, .pointer (some ⟨g_d, 0, none⟩)), (1, vs p), (2, vs text2), (7, .pointer (some ⟨g1, 0, none⟩))] ∧ J2 q2 ∧ GrL ((some g_d) :: (FP g_d_files hs_d_files none)) w w' ∧ PoolO pe128 w' g_d_files hs_d_ d_ none ∧ Bl w' g_d 124 [.map (some g_d_files), .int .i64 d_2, .int .i64 d_3, .bool d_4] ∧ Bl w' g1 136 [.int .i64 c_kind, vs c_text]) ?_ (fun hQ => ?_)
          · clear H
            rintro _ w4 ⟨q2, rfl, H, gr4, k7, k8, k9⟩
            replace H := hJ2 q2 H
            refine WL.y rfl (Yld.pure tab_ok rfl) ?_
            refine WL.nil (WX.then_normal ?_)
            refine WC.cond rfl (fun b3 => ?_) (fun b3 => ?_)
            · replace H := H.1 (b3)
              refine WC.seq ?_
              refine WC.region ?_
              obtain ⟨vE2, _, hE2⟩ := GOK.get (hG.goL gr4 hP).ok 9 1 hS9 rfl rfl
              refine WL.y rfl (Yld.cell tab_ok (ErrR.cell hE2 rfl) rfl rfl) ?_
              refine WL.y rfl (Yld.pure tab_ok rfl) ?_
              refine WL.nil (WX.then_normal ?_)
              refine WC.ret (WX.block_ret (WX.then_ret ?_))
              exact WX.ret1 rfl rfl ⟨gr4, vE2, (Er.e 9), hs_d_, d_, d_2, d_3, d_4, rfl, hE2, k8, k7, (InA.trans hi1 (apC (InP.mem (List.Mem.head _)) (InA.mem (fun _ hp => List.Mem.tail _ (hp)))) (GrL.sizeL gr1)), dj1, H⟩
            · replace H := H.2 (b3)
              refine WC.skip (WX.block_normal (WX.then_normal ?_))
              refine WC.seq ?_
              refine WC.region ?_
              refine WL.y rfl (Yld.pure tab_ok rfl) ?_
              refine WL.y rfl (Yld.pure tab_ok rfl) ?_
              refine WL.call rfl rfl (W_pdisk_Disk_known k7 k8 dj1 H) ?_
              rintro _ w5 ⟨hgl2, hs_d_2, d_5, d_6, d_7, d_8, rfl, hB3, hM2, hi2, dj2, H⟩
              have gr5 : GrL ((some g_d) :: (FP g_d_files hs_d_files none)) w w5 := GrL.modL gr4 hgl2 (apC (InP.mem (List.Mem.head _)) (InA.trans hi1 (apC (InP.mem (List.Mem.head _)) (InA.mem (fun _ hp => List.Mem.tail _ (hp)))) (GrL.sizeL gr1)))
              have k10 := k9.goL hgl2 (apC (Dj.new hd.lt' (Ge.box hl1)).symm (InA.dj hi1 hB1.lt' (apC (Dj.new hd.lt' (Ge.box hl1)).symm (hd_files.new (Ge.box hl1)))))
              refine WL.y rfl (Yld.pure tab_ok rfl) ?_
              refine WL.nil (WX.then_normal ?_)
              refine WC.seq ?_
              refine WC.region ?_
              refine WL.y rfl (Yld.pure tab_ok rfl) ?_
              refine WL.y rfl (Yld.pure tab_ok rfl) ?_
              refine WL.y rfl (Yld.pure tab_ok rfl) ?_
              obtain ⟨h1, H⟩ := H
              refine WL.y rfl (Yld.pchk hM2 h1 rfl) ?_
              refine WL.y rfl (Yld.pfa tab_ok hM2 h1 rfl rfl rfl) ?_
              have hx1 : mget d_5 p = some ((mget d_5 p).getD ([], false, [], false, [])) := getD_some h1
              obtain ⟨b_pl, r1, hm1, hr1, k11, dj4, dj5⟩ := PoolO.open hM2 hx1
              obtain ⟨A_pl, c_pl, r1e, hB4, hO1, dj3⟩ := hr1
              subst r1e
              simp only [pq_some hm1, pqo_some hm1]
              refine WL.store1 one9 rfl rfl rfl hB4 (by simp) (fun w6 hB6 hg3 => ?_)
              have hB5 : Bl w6 b_pl 128 [vs text2, .bool (((mget d_5 p).getD ([], false, [], false, [])).2.1), vs (((mget d_5 p).getD ([], false, [], false, [])).2.2.1), .bool (((mget d_5 p).getD ([], false, [], false, [])).2.2.2.1), .slice A_pl ((((mget d_5 p).getD ([], false, [], false, [])).2.2.2.2).length) c_pl] := hB6
              have gr6 : GrL ((some g_d) :: (FP g_d_files hs_d_files none)) w w6 := GrL.mod gr5 hg3 (PoolO.at1 hM2 hm1 (InA.trans hi2 (apC (InP.mem (List.Mem.head _)) (InA.trans hi1 (apC (InP.mem (List.Mem.head _)) (InA.mem (fun _ hp => List.Mem.tail _ (hp)))) (GrL.sizeL gr1))) (GrL.sizeL gr4)))
              have k12 := k11.go hg3 dj4
              have k13 := hB3.go hg3 (PoolO.at1 hM2 hm1 dj2)
              have k14 := k10.go hg3 (PoolO.at1 hM2 hm1 (InA.dj hi2 k9.lt' (apC (Dj.new hd.lt' (Ge.box hl1)).symm (InA.dj hi1 hB1.lt' (apC (Dj.new hd.lt' (Ge.box hl1)).symm (hd_files.new (Ge.box hl1)))))))
              have k15 := hO1.go hg3 dj3.symm
              refine WL.y rfl (Yld.pure tab_ok rfl) ?_
              refine WL.y rfl (Yld.pure tab_ok rfl) ?_
              refine WL.store1 one4 rfl rfl rfl hB5 (by simp) (fun w7 hB8 hg4 => ?_)
              have hB7 : Bl w7 b_pl 128 [vs text2, .bool true, vs (((mget d_5 p).getD ([], false, [], false, [])).2.2.1), .bool (((mget d_5 p).getD ([], false, [], false, [])).2.2.2.1), .slice A_pl ((((mget d_5 p).getD ([], false, [], false, [])).2.2.2.2).length) c_pl] := hB8
              have gr7 : GrL ((some g_d) :: (FP g_d_files hs_d_files none)) w w7 := GrL.mod gr6 hg4 (PoolO.at1 hM2 hm1 (InA.trans hi2 (apC (InP.mem (List.Mem.head _)) (InA.trans hi1 (apC (InP.mem (List.Mem.head _)) (InA.mem (fun _ hp => List.Mem.tail _ (hp)))) (GrL.sizeL gr1))) (GrL.sizeL gr4)))
              have k16 := k12.go hg4 dj4
              have k17 := k13.go hg4 (PoolO.at1 hM2 hm1 dj2)
              have k18 := k14.go hg4 (PoolO.at1 hM2 hm1 (InA.dj hi2 k9.lt' (apC (Dj.new hd.lt' (Ge.box hl1)).symm (InA.dj hi1 hB1.lt' (apC (Dj.new hd.lt' (Ge.box hl1)).symm (hd_files.new (Ge.box hl1)))))))
              have k19 := k15.go hg4 dj3.symm
              refine WL.nil (WX.then_normal ?_)
              refine WC.seq ?_
              refine WC.chainF (fun k => !(Nat.beq k 6 || Nat.beq k 7 || Nat.beq k 10)) (LD [4, 5] (fun w' => Bl w' b_pl 128 [vs text2, .bool true, vs (((mget d_5 p).getD ([], false, [], false, [])).2.2.1), .bool (((mget d_5 p).getD ([], false, [], false, [])).2.2.2.1), .slice A_pl ((((mget d_5 p).getD ([], false, [], false, [])).2.2.2.2).length) c_pl] ∧ Bl w' g1 136 [.int .i64 c_kind, vs c_text])) mixed (by kernel_rfl) (fun k w' h _ => ⟨(bl_eqv h hB7), (bl_eqv h k18)⟩) ?_
              refine WJ.y rfl rfl (fun w' hw' => Yld.pure tab_ok rfl) ?_
              refine WJ.y rfl rfl (fun w' hw' => Yld.pure tab_ok rfl) ?_
              refine WJ.y rfl rfl (fun w' hw' => Yld.pure tab_ok rfl) ?_
              refine WJ.y rfl rfl (fun w' hw' => Yld.pure tab_ok rfl) ?_
              refine WJ.y rfl rfl (fun w' hw' => Yld.bload tab_ok (hw' rfl).1 rfl rfl rfl) ?_
              refine WJ.y rfl rfl (fun w' hw' => Yld.bagg (vs := [.int .i64 c_kind, vs c_text]) tab_ok (hw' rfl).2 rfl rfl rfl rfl) ?_
              refine WJ.putw rfl (wants_none) rfl (Eff.litK (f := enc136) (xs := ([(c_kind, c_text)] : List (Int × List UInt8))) enc136_ok ow126 rfl rfl rfl) (fun v w' ⟨_, _, h⟩ => DD.keep (⟨(Bl.g0 hB7 (gr_eqv h (Eqv.refl _))), (Bl.g0 k18 (gr_eqv h (Eqv.refl _)))⟩)) ?_
              rintro _ w8 ⟨rfl, hB9, hg5⟩
              obtain ⟨g_t72, hl2⟩ : ∃ g, g = w7.heap.size := ⟨_, rfl⟩
              rw [← hl2] at hB9
              rw [← hl2]
              have hO2 : OwnK 2 enc136 w8 w.heap.size 136 (some ⟨g_t72, 0, none⟩) 1 ([(c_kind, c_text)] : List (Int × List UInt8)) := OwnK.ofBl enc136_ok hB9 (Nat.le_trans (GrL.sizeL gr7) (Nat.le_of_eq hl2.symm)) (by simp [maxLen]) rfl
              have gr8 := GrL.add0 gr7 hg5
              have k20 := k16.g0 hg5
              have k21 := k17.g0 hg5
              have k22 := k18.g0 hg5
              have k23 := k19.grown hg5
              have k24 := hB7.g0 hg5
              obtain ⟨h2, H⟩ := H
              refine WJ.putw rfl (wants_none) rfl (Eff.appendK ow126 k23 rfl rfl hO2.rd rfl rfl h2 (applen h2) (Nat.zero_le _)) (fun v w' ⟨_, _, _, _, h, _⟩ => DD.keep (⟨(Bl.go k24 (gr_eqv h (Eqv.refl _)) dj3), (Bl.go k22 (gr_eqv h (Eqv.refl _)) (PoolO.at2 hM2 hm1 (InA.dj hi2 k9.lt' (apC (Dj.new hd.lt' (Ge.box hl1)).symm (InA.dj hi1 hB1.lt' (apC (Dj.new hd.lt' (Ge.box hl1)).symm (hd_files.new (Ge.box hl1))))))))⟩)) ?_
              rintro _ w9 ⟨A_t73, c_t73, rfl, hO3, hg6, hk1⟩
              have gr9 : GrL ((some g_d) :: (FP g_d_files hs_d_files none)) w w9 := GrL.mod gr8 hg6 (PoolO.at2 hM2 hm1 (InA.trans hi2 (apC (InP.mem (List.Mem.head _)) (InA.trans hi1 (apC (InP.mem (List.Mem.head _)) (InA.mem (fun _ hp => List.Mem.tail _ (hp)))) (GrL.sizeL gr1))) (GrL.sizeL gr4)))
              have k25 := k20.go hg6 dj5
              have k26 := k21.go hg6 (PoolO.at2 hM2 hm1 dj2)
              have k27 := k22.go hg6 (PoolO.at2 hM2 hm1 (InA.dj hi2 k9.lt' (apC (Dj.new hd.lt' (Ge.box hl1)).symm (InA.dj hi1 hB1.lt' (apC (Dj.new hd.lt' (Ge.box hl1)).symm (hd_files.new (Ge.box hl1)))))))
              have k28 := k24.go hg6 dj3
              refine WJ.y rfl rfl (fun w' hw' => Yld.pure tab_ok rfl) ?_
              refine WJ.y rfl rfl (fun w' hw' => Yld.pure tab_ok rfl) ?_
              refine WJ.eff rfl (Ef0.store1 one126 rfl rfl rfl k28 (by simp)) (fun w' h => DD.past (by kernel_rfl)) ?_
              rintro w10 ⟨hB11, hg7⟩
              have hB10 : Bl w10 b_pl 128 [vs text2, .bool true, vs (((mget d_5 p).getD ([], false, [], false, [])).2.2.1), .bool (((mget d_5 p).getD ([], false, [], false, [])).2.2.2.1), .slice A_t73 (((((mget d_5 p).getD ([], false, [], false, [])).2.2.2.2) ++ ([(c_kind, c_text)] : List (Int × List UInt8))).length) c_t73] := hB11
              have gr10 : GrL ((some g_d) :: (FP g_d_files hs_d_files none)) w w10 := GrL.mod gr9 hg7 (PoolO.at1 hM2 hm1 (InA.trans hi2 (apC (InP.mem (List.Mem.head _)) (InA.trans hi1 (apC (InP.mem (List.Mem.head _)) (InA.mem (fun _ hp => List.Mem.tail _ (hp)))) (GrL.sizeL gr1))) (GrL.sizeL gr4)))
              have k29 := k25.go hg7 dj4
              have k30 := k26.go hg7 (PoolO.at1 hM2 hm1 dj2)
              have k31 := k27.go hg7 (PoolO.at1 hM2 hm1 (InA.dj hi2 k9.lt' (apC (Dj.new hd.lt' (Ge.box hl1)).symm (InA.dj hi1 hB1.lt' (apC (Dj.new hd.lt' (Ge.box hl1)).symm (hd_files.new (Ge.box hl1)))))))
              have k32 := hO3.go hg7 (Dj.app dj3.symm k24.lt' hk1)
              refine WJ.nil (WX.then_normal ?_)
              refine WC.seq ?_
              refine WC.region ?_
              refine WL.y rfl (Yld.pure tab_ok rfl) ?_
              refine WL.nil (WX.then_normal ?_)
              refine WC.ret ?_
              have hr2 : pe128.rel w10 (b_pl, blk A_t73) (text2, true, ((mget d_5 p).getD ([], false, [], false, [])).2.2.1, ((mget d_5 p).getD ([], false, [], false, [])).2.2.2.1, (((mget d_5 p).getD ([], false, [], false, [])).2.2.2.2) ++ ([(c_kind, c_text)] : List (Int × List UInt8))) := ⟨_, _, rfl, hB10, k32, (Dj.app dj3.symm k24.lt' hk1).symm⟩
              have k33 := PoolO.close k29 hm1 hr2 dj4 (PoolO.app k20 dj5 hk1)
              exact WX.ret1 rfl rfl ⟨gr10, .nilIface, Er.ok, mput hs_d_2 p (b_pl, blk A_t73), mput d_5 p (text2, true, ((mget d_5 p).getD ([], false, [], false, [])).2.2.1, ((mget d_5 p).getD ([], false, [], false, [])).2.2.2.1, (((mget d_5 p).getD ([], false, [], false, [])).2.2.2.2) ++ ([(c_kind, c_text)] : List (Int × List UInt8))), d_6, d_7, d_8, rfl, (ErrR.okR (S := S) (w := w10)), k30, k33, (PoolO.closeA k29 (PoolO.sub hM2 (InA.trans hi2 (apC (InP.mem (List.Mem.head _)) (InA.trans hi1 (apC (InP.mem (List.Mem.head _)) (InA.mem (fun _ hp => List.Mem.tail _ (hp)))) (GrL.sizeL gr1))) (GrL.sizeL gr4))) (PoolO.at1 hM2 hm1 (InA.trans hi2 (apC (InP.mem (List.Mem.head _)) (InA.trans hi1 (apC (InP.mem (List.Mem.head _)) (InA.mem (fun _ hp => List.Mem.tail _ (hp)))) (GrL.sizeL gr1))) (GrL.sizeL gr4))) (InP.app (PoolO.at2 hM2 hm1 (InA.trans hi2 (apC (InP.mem (List.Mem.head _)) (InA.trans hi1 (apC (InP.mem (List.Mem.head _)) (InA.mem (fun _ hp => List.Mem.tail _ (hp)))) (GrL.sizeL gr1))) (GrL.sizeL gr4))) hk1 (GrL.sizeL gr8))), (PoolO.closeA k29 (PoolO.sub hM2 dj2) (PoolO.at1 hM2 hm1 dj2) (Dj.app (PoolO.at2 hM2 hm1 dj2).symm k21.lt' hk1).symm), H⟩
          · clear hJ2
            rcases Bool.eq_false_or_eq_true (!t48) with b4 | b4
            · replace H := H.1 b4
              refine WL.gyes rfl rfl (okb b4) rfl (Yld.pure tab_ok rfl) ?_
              refine WL.callw (wants_some rfl rfl (okb b4)) rfl rfl (W_pdisk_Disk_count k4 k5 H) ?_
              rintro _ w11 ⟨hg8, t52, rfl, H⟩
              have gr11 := GrL.add0 gr3 hg8
              have k34 := k4.g0 hg8
              have k35 := k5.g0 hg8
              have k36 := k6.g0 hg8
              refine WL.gyes rfl rfl (okb b4) rfl (Yld.pure tab_ok rfl) ?_
              refine WL.y rfl (Yld.pickT (okb b4) rfl) ?_
              exact WL.weaken (by repeat (first | exact Sub.nil | refine Sub.cons rfl ?_)) (hQ _ _ ⟨decide ((2000 : Int) ≤ t52), rfl, H, gr11, k34, k35, k36⟩)
            · replace H := H.2 b4
              refine WL.gno rfl rfl (okb b4) rfl ?_
              refine WL.gno rfl rfl (okb b4) rfl ?_
              refine WL.gno rfl rfl (okb b4) rfl ?_
              refine WL.y rfl (Yld.pickF (okb b4) rfl) ?_
              exact WL.weaken (by repeat (first | exact Sub.nil | refine Sub.cons rfl ?_)) (hQ _ _ ⟨false, rfl, H, gr3, k4, k5, k6⟩)
      · clear H
        rcases Bool.eq_false_or_eq_true (!t37) with b5 | b5
        · refine WL.gno rfl rfl (okb b5) rfl ?_
          refine WL.gno rfl rfl (okb b5) rfl ?_
          refine WL.gno rfl rfl (okb b5) rfl ?_
          refine WL.y rfl (Yld.pickT (okb b5) rfl) ?_
          exact WL.weaken (by repeat (first | exact Sub.nil | refine Sub.cons rfl ?_)) (hQ _ _ ⟨true, rfl, by rw [b5] <;> rfl, rfl⟩)
        · refine WL.gyes rfl rfl (okb b5) rfl (Yld.pure tab_ok rfl) ?_
          refine WL.gyes rfl rfl (okb b5) rfl (Yld.pure tab_ok rfl) ?_
          refine WL.gyes rfl rfl (okb b5) rfl (Yld.pure tab_ok rfl) ?_
          refine WL.y rfl (Yld.pickF (okb b5) rfl) ?_
          exact WL.weaken (by repeat (first | exact Sub.nil | refine Sub.cons rfl ?_)) (hQ _ _ ⟨decide ((65536 : Int) < (text2.length : Int)), rfl, by rw [b5] <;> rfl, rfl⟩)
    · clear hJ1
      refine WC.seq ?_
      refine WC.region ?_
      refine WL.y rfl (Yld.pure tab_ok rfl) ?_
      refine WL.y rfl (Yld.bload tab_ok k3 rfl rfl rfl) ?_
      refine WL.y rfl (Yld.pure tab_ok rfl) ?_
      refine WL.y rfl (Yld.pure tab_ok rfl) ?_
      obtain ⟨J3, H, hJ3⟩ := H
      refine WL.midF 4 (fun L' w' => ∃ q3 : Bool, L' = [(23, .bool q3), (0, .pointer (some ⟨g_d, 0, none⟩)), (1, vs p), (2, vs text), (7, .pointer (some ⟨g1, 0, none⟩))] ∧ J3 q3 ∧ w2 = w') ?_ (fun hQ => ?_)
      · clear H
        rintro _ _ ⟨q3, rfl, H, rfl⟩
        replace H := hJ3 q3 H
        refine WL.nil (WX.then_normal ?_)
        refine WC.cond rfl (fun b6 => ?_) (fun b6 => ?_)
        · replace H := H.1 (b6)
          refine WC.region ?_
          refine WL.y rfl (Yld.pure tab_ok rfl) ?_
          refine WL.y rfl (Yld.pure tab_ok rfl) ?_
          refine WL.y rfl (Yld.pure tab_ok rfl) ?_
          refine WL.y rfl (Yld.bload tab_ok hB2 rfl rfl rfl) ?_
          refine WL.y rfl (Yld.pure tab_ok rfl) ?_
          obtain ⟨h3, H⟩ := H
          refine WL.y rfl (Yld.plook (keyF_s Tryd.underlying9) Tryd.underlying122 (fun _ => by kernel_rfl) hM1 rfl rfl h3) ?_
          obtain ⟨h4, H⟩ := H
          refine WL.y rfl (Yld.pchk hM1 h4 rfl) ?_
          refine WL.y rfl (Yld.pfa tab_ok hM1 h4 rfl rfl rfl) ?_
          refine WL.y rfl (Yld.pld (z := ([], false, [], false, [])) (v := vs (((mget d_ p).getD ([], false, [], false, [])).1)) tab_ok hM1 h4 rfl rfl rfl rfl) ?_
          refine WL.y rfl (Yld.pure tab_ok rfl) ?_
          obtain ⟨h5, H⟩ := H
          refine WL.y rfl (Yld.sadd rfl rfl h5) ?_
          refine WL.y rfl (Yld.pure tab_ok rfl) ?_
          refine WL.nil ?_
          exact WX.weaken (by repeat (first | exact Sub.nil | refine Sub.cons rfl ?_)) (hQ _ _ ⟨(((mget d_ p).getD ([], false, [], false, [])).1) ++ text, rfl, H, rfl⟩)
        · replace H := H.2 (b6)
          refine WC.skip ?_
          exact WX.weaken (by repeat (first | exact Sub.nil | refine Sub.cons rfl ?_)) (hQ _ _ ⟨text, rfl, H, rfl⟩)
      · clear hJ3
        rcases Bool.eq_false_or_eq_true (decide (c_kind = (1 : Int))) with b7 | b7
        · replace H := H.1 b7
          refine WL.gyes rfl rfl (okb b7) rfl (Yld.pure tab_ok rfl) ?_
          refine WL.gyes rfl rfl (okb b7) rfl (Yld.pure tab_ok rfl) ?_
          refine WL.callw (wants_some rfl rfl (okb b7)) rfl rfl (W_pdisk_Disk_there hM1 hB2 H) ?_
          rintro _ _ ⟨rfl, t22, rfl, H⟩
          refine WL.y rfl (Yld.pickT (okb b7) rfl) ?_
          exact WL.weaken (by repeat (first | exact Sub.nil | refine Sub.cons rfl ?_)) (hQ _ _ ⟨t22, rfl, H, rfl⟩)
        · replace H := H.2 b7
          refine WL.gno rfl rfl (okb b7) rfl ?_
          refine WL.gno rfl rfl (okb b7) rfl ?_
          refine WL.gno rfl rfl (okb b7) rfl ?_
          refine WL.y rfl (Yld.pickF (okb b7) rfl) ?_
          exact WL.weaken (by repeat (first | exact Sub.nil | refine Sub.cons rfl ?_)) (hQ _ _ ⟨false, rfl, H, rfl⟩)

set_option maxHeartbeats 8000000 in
theorem W_pdisk_Disk_Write {S : List Nat} {B : Nat} {w : World} {g_d : Nat} {g_d_files : Nat} {hs_d_files : List (List UInt8 × PH)} {d_files : List (List UInt8 × List UInt8 × Bool × List UInt8 × Bool × List (Int × List UInt8))} {d_ops : Int} {d_left : Int} {d_down : Bool} {p : List UInt8} {text : List UInt8} {K : Er → (List (List UInt8 × List UInt8 × Bool × List UInt8 × Bool × List (Int × List UInt8))) → Int → Int → Bool → Prop} (hG : GB S B w) (hB : B ≤ w.heap.size) (hP : AllP (fun p => Ge p B) ((some g_d) :: (FP g_d_files hs_d_files none))) (hS9 : 9 ∈ S) (hS11 : 11 ∈ S) (hS15 : 15 ∈ S) (hS100 : 100 ∈ S) (hd_files : PoolO pe128 w g_d_files hs_d_files d_files none) (hd : Bl w g_d 124 [.map (some g_d_files), .int .i64 d_ops, .int .i64 d_left, .bool d_down]) (hdj0_1 : AllP (Dj (some g_d)) (FP g_d_files hs_d_files none)) (H : M_pdisk_Disk_Write d_files d_ops d_left d_down p text K) : Fn Tryd.prog 28 ⟨[.pointer (some ⟨g_d, 0, none⟩), vs p, vs text]⟩ w (fun v w' => GrL ((some g_d) :: (FP g_d_files hs_d_files none)) w w' ∧ ∃ (v_r : Value), ∃ (r : Er), ∃ (hs_d_files2 : List (List UInt8 × PH)), ∃ (d_files2 : List (List UInt8 × List UInt8 × Bool × List UInt8 × Bool × List (Int × List UInt8))), ∃ (d_ops2 : Int), ∃ (d_left2 : Int), ∃ (d_down2 : Bool), v = v_r ∧ ErrR S w' v_r r ∧ Bl w' g_d 124 [.map (some g_d_files), .int .i64 d_ops2, .int .i64 d_left2, .bool d_down2] ∧ PoolO pe128 w' g_d_files hs_d_files2 d_files2 none ∧ AllP (InP ((some g_d) :: (FP g_d_files hs_d_files none)) w.heap.size) (FP g_d_files hs_d_files2 none) ∧ AllP (Dj (some g_d)) (FP g_d_files hs_d_files2 none) ∧ K r d_files2 d_ops2 d_left2 d_down2) := by
  unfold M_pdisk_Disk_Write at H
  refine Fn.enter (by kernel_rfl) Tryd.func28 rfl Tryd.ntmps28 rfl ?_
  have hNoAt : AllP (NoAt w) ((some g_d) :: (FP g_d_files hs_d_files none)) := (apC (NoAt.bl hd rfl) hd_files.noats)
  refine WC.seq ?_
  refine WC.region ?_
  refine WL.y rfl (Yld.pure tab_ok rfl) ?_
  refine WL.nil (WX.then_normal ?_)
  refine WC.seq ?_
  refine WC.region ?_
  refine WL.y rfl (Yld.pure tab_ok rfl) ?_
  refine WL.y rfl (Yld.pure tab_ok rfl) ?_
  refine WL.y rfl (Yld.pure tab_ok rfl) ?_
  refine WL.y rfl (Yld.pure tab_ok rfl) ?_
  refine WL.y rfl (Yld.struct (us := [.int .i64 (0 : Int), vs text]) zero136 places136 rfl rfl) ?_
  refine WL.call rfl rfl (W_pdisk_Disk_put hG (Nat.le_trans hB (Nat.le_refl _)) (apC (InP.toGe (InP.mem (List.Mem.head _)) hP hB) (InA.toGe (InA.mem (fun _ hp => List.Mem.tail _ (hp))) hP hB)) hS9 hS11 hS15 hS100 hd_files hd hdj0_1 H) ?_
  rintro v_t6 w1 ⟨hgl1, _, t6, hs_d_, d_, d_2, d_3, d_4, rfl, ht6, hB1, hM1, hi1, dj1, H⟩
  have gr1 : GrL ((some g_d) :: (FP g_d_files hs_d_files none)) w w1 := GrL.modL (GrL.refl _) hgl1 (apC (InP.mem (List.Mem.head _)) (InA.mem (fun _ hp => List.Mem.tail _ (hp))))
  refine WL.y rfl (Yld.pure tab_ok rfl) ?_
  refine WL.nil (WX.then_normal ?_)
  refine WC.ret ?_
  exact WX.ret1 rfl rfl ⟨gr1, v_t6, t6, hs_d_, d_, d_2, d_3, d_4, rfl, ht6, hB1, hM1, (InA.trans hi1 (apC (InP.mem (List.Mem.head _)) (InA.mem (fun _ hp => List.Mem.tail _ (hp)))) (Nat.le_refl _)), dj1, H⟩

set_option maxHeartbeats 8000000 in
theorem W_pdisk_Disk_Append {S : List Nat} {B : Nat} {w : World} {g_d : Nat} {g_d_files : Nat} {hs_d_files : List (List UInt8 × PH)} {d_files : List (List UInt8 × List UInt8 × Bool × List UInt8 × Bool × List (Int × List UInt8))} {d_ops : Int} {d_left : Int} {d_down : Bool} {p : List UInt8} {text : List UInt8} {K : Er → (List (List UInt8 × List UInt8 × Bool × List UInt8 × Bool × List (Int × List UInt8))) → Int → Int → Bool → Prop} (hG : GB S B w) (hB : B ≤ w.heap.size) (hP : AllP (fun p => Ge p B) ((some g_d) :: (FP g_d_files hs_d_files none))) (hS9 : 9 ∈ S) (hS11 : 11 ∈ S) (hS15 : 15 ∈ S) (hS100 : 100 ∈ S) (hd_files : PoolO pe128 w g_d_files hs_d_files d_files none) (hd : Bl w g_d 124 [.map (some g_d_files), .int .i64 d_ops, .int .i64 d_left, .bool d_down]) (hdj0_1 : AllP (Dj (some g_d)) (FP g_d_files hs_d_files none)) (H : M_pdisk_Disk_Append d_files d_ops d_left d_down p text K) : Fn Tryd.prog 29 ⟨[.pointer (some ⟨g_d, 0, none⟩), vs p, vs text]⟩ w (fun v w' => GrL ((some g_d) :: (FP g_d_files hs_d_files none)) w w' ∧ ∃ (v_r : Value), ∃ (r : Er), ∃ (hs_d_files2 : List (List UInt8 × PH)), ∃ (d_files2 : List (List UInt8 × List UInt8 × Bool × List UInt8 × Bool × List (Int × List UInt8))), ∃ (d_ops2 : Int), ∃ (d_left2 : Int), ∃ (d_down2 : Bool), v = v_r ∧ ErrR S w' v_r r ∧ Bl w' g_d 124 [.map (some g_d_files), .int .i64 d_ops2, .int .i64 d_left2, .bool d_down2] ∧ PoolO pe128 w' g_d_files hs_d_files2 d_files2 none ∧ AllP (InP ((some g_d) :: (FP g_d_files hs_d_files none)) w.heap.size) (FP g_d_files hs_d_files2 none) ∧ AllP (Dj (some g_d)) (FP g_d_files hs_d_files2 none) ∧ K r d_files2 d_ops2 d_left2 d_down2) := by
  unfold M_pdisk_Disk_Append at H
  refine Fn.enter (by kernel_rfl) Tryd.func29 rfl Tryd.ntmps29 rfl ?_
  have hNoAt : AllP (NoAt w) ((some g_d) :: (FP g_d_files hs_d_files none)) := (apC (NoAt.bl hd rfl) hd_files.noats)
  refine WC.seq ?_
  refine WC.region ?_
  refine WL.y rfl (Yld.pure tab_ok rfl) ?_
  refine WL.nil (WX.then_normal ?_)
  refine WC.seq ?_
  refine WC.region ?_
  refine WL.y rfl (Yld.pure tab_ok rfl) ?_
  refine WL.y rfl (Yld.pure tab_ok rfl) ?_
  refine WL.y rfl (Yld.pure tab_ok rfl) ?_
  refine WL.y rfl (Yld.pure tab_ok rfl) ?_
  refine WL.y rfl (Yld.struct (us := [.int .i64 (1 : Int), vs text]) zero136 places136 rfl rfl) ?_
  refine WL.call rfl rfl (W_pdisk_Disk_put hG (Nat.le_trans hB (Nat.le_refl _)) (apC (InP.toGe (InP.mem (List.Mem.head _)) hP hB) (InA.toGe (InA.mem (fun _ hp => List.Mem.tail _ (hp))) hP hB)) hS9 hS11 hS15 hS100 hd_files hd hdj0_1 H) ?_
  rintro v_t6 w1 ⟨hgl1, _, t6, hs_d_, d_, d_2, d_3, d_4, rfl, ht6, hB1, hM1, hi1, dj1, H⟩
  have gr1 : GrL ((some g_d) :: (FP g_d_files hs_d_files none)) w w1 := GrL.modL (GrL.refl _) hgl1 (apC (InP.mem (List.Mem.head _)) (InA.mem (fun _ hp => List.Mem.tail _ (hp))))
  refine WL.y rfl (Yld.pure tab_ok rfl) ?_
  refine WL.nil (WX.then_normal ?_)
  refine WC.ret ?_
  exact WX.ret1 rfl rfl ⟨gr1, v_t6, t6, hs_d_, d_, d_2, d_3, d_4, rfl, ht6, hB1, hM1, (InA.trans hi1 (apC (InP.mem (List.Mem.head _)) (InA.mem (fun _ hp => List.Mem.tail _ (hp)))) (Nat.le_refl _)), dj1, H⟩

set_option maxHeartbeats 8000000 in
theorem W_pdisk_Disk_Sync {S : List Nat} {B : Nat} {w : World} {g_d : Nat} {g_d_files : Nat} {hs_d_files : List (List UInt8 × PH)} {d_files : List (List UInt8 × List UInt8 × Bool × List UInt8 × Bool × List (Int × List UInt8))} {d_ops : Int} {d_left : Int} {d_down : Bool} {p : List UInt8} {K : Er → (List (List UInt8 × List UInt8 × Bool × List UInt8 × Bool × List (Int × List UInt8))) → Int → Int → Bool → Prop} (hG : GB S B w) (hB : B ≤ w.heap.size) (hP : AllP (fun p => Ge p B) ((some g_d) :: (FP g_d_files hs_d_files none))) (hS11 : 11 ∈ S) (hS15 : 15 ∈ S) (hS100 : 100 ∈ S) (hd_files : PoolO pe128 w g_d_files hs_d_files d_files none) (hd : Bl w g_d 124 [.map (some g_d_files), .int .i64 d_ops, .int .i64 d_left, .bool d_down]) (hdj0_1 : AllP (Dj (some g_d)) (FP g_d_files hs_d_files none)) (H : M_pdisk_Disk_Sync d_files d_ops d_left d_down p K) : Fn Tryd.prog 31 ⟨[.pointer (some ⟨g_d, 0, none⟩), vs p]⟩ w (fun v w' => GrL ((some g_d) :: (FP g_d_files hs_d_files none)) w w' ∧ ∃ (v_r : Value), ∃ (r : Er), ∃ (hs_d_files2 : List (List UInt8 × PH)), ∃ (d_files2 : List (List UInt8 × List UInt8 × Bool × List UInt8 × Bool × List (Int × List UInt8))), ∃ (d_ops2 : Int), ∃ (d_left2 : Int), ∃ (d_down2 : Bool), v = v_r ∧ ErrR S w' v_r r ∧ Bl w' g_d 124 [.map (some g_d_files), .int .i64 d_ops2, .int .i64 d_left2, .bool d_down2] ∧ PoolO pe128 w' g_d_files hs_d_files2 d_files2 none ∧ AllP (InP ((some g_d) :: (FP g_d_files hs_d_files none)) w.heap.size) (FP g_d_files hs_d_files2 none) ∧ AllP (Dj (some g_d)) (FP g_d_files hs_d_files2 none) ∧ K r d_files2 d_ops2 d_left2 d_down2) := by
  unfold M_pdisk_Disk_Sync at H
  refine Fn.enter (by kernel_rfl) Tryd.func31 rfl Tryd.ntmps31 rfl ?_
  have hNoAt : AllP (NoAt w) ((some g_d) :: (FP g_d_files hs_d_files none)) := (apC (NoAt.bl hd rfl) hd_files.noats)
  refine WC.seq ?_
  refine WC.region ?_
  refine WL.y rfl (Yld.pure tab_ok rfl) ?_
  refine WL.nil (WX.then_normal ?_)
  refine WC.seq ?_
  refine WC.seq ?_
  refine WC.region ?_
  refine WL.y rfl (Yld.pure tab_ok rfl) ?_
  refine WL.call rfl rfl (W_pdisk_Disk_call hG (Nat.le_trans hB (Nat.le_refl _)) (apC (InP.toGe (InP.mem (List.Mem.head _)) hP hB) (InA.toGe (InA.mem (fun _ hp => List.Mem.tail _ (hp))) hP hB)) hS15 hd_files hd hdj0_1 H) ?_
  rintro v_err w1 ⟨hgl1, _, err, hs_d_, d_, d_2, d_3, d_4, rfl, herr, hB1, hM1, hi1, dj1, H⟩
  have gr1 : GrL ((some g_d) :: (FP g_d_files hs_d_files none)) w w1 := GrL.modL (GrL.refl _) hgl1 (apC (InP.mem (List.Mem.head _)) (InA.mem (fun _ hp => List.Mem.tail _ (hp))))
  refine WL.y rfl (Yld.pure tab_ok rfl) ?_
  refine WL.nil (WX.then_normal ?_)
  refine WC.seq ?_
  refine WC.region ?_
  refine WL.y rfl (Yld.pure tab_ok rfl) ?_
  refine WL.y rfl (Yld.errneq Tryd.underlying29 herr rfl) ?_
  refine WL.nil (WX.then_normal ?_)
  refine WC.cond rfl (fun b1 => ?_) (fun b1 => ?_)
  · replace H := H.1 (nd_true b1)
    refine WC.seq ?_
    refine WC.region ?_
    refine WL.y rfl (Yld.pure tab_ok rfl) ?_
    refine WL.y rfl (Yld.pure tab_ok rfl) ?_
    refine WL.nil (WX.then_normal ?_)
    refine WC.ret (WX.then_ret ?_)
    exact WX.ret1 rfl rfl ⟨gr1, v_err, err, hs_d_, d_, d_2, d_3, d_4, rfl, herr, hB1, hM1, (InA.trans hi1 (apC (InP.mem (List.Mem.head _)) (InA.mem (fun _ hp => List.Mem.tail _ (hp)))) (Nat.le_refl _)), dj1, H⟩
  · replace H := H.2 (nd_false b1)
    refine WC.skip (WX.then_normal ?_)
    refine WC.seq ?_
    refine WC.seq ?_
    refine WC.region ?_
    refine WL.y rfl (Yld.pure tab_ok rfl) ?_
    refine WL.call rfl rfl (W_path_Valid (hG.goL gr1 hP).ok hS100 H) ?_
    rintro _ w2 ⟨hg1, t13, rfl, H⟩
    have gr2 := GrL.add0 gr1 hg1
    have k1 := hM1.g0 hg1
    have k2 := hB1.g0 hg1
    refine WL.y rfl (Yld.pure tab_ok rfl) ?_
    refine WL.nil (WX.then_normal ?_)
    refine WC.cond rfl (fun b2 => ?_) (fun b2 => ?_)
    · replace H := H.1 (b2)
      refine WC.seq ?_
      refine WC.region ?_
      obtain ⟨vE1, _, hE1⟩ := GOK.get (hG.goL gr2 hP).ok 11 0 hS11 rfl rfl
      refine WL.y rfl (Yld.cell tab_ok (ErrR.cell hE1 rfl) rfl rfl) ?_
      refine WL.y rfl (Yld.pure tab_ok rfl) ?_
      refine WL.nil (WX.then_normal ?_)
      refine WC.ret (WX.then_ret ?_)
      exact WX.ret1 rfl rfl ⟨gr2, vE1, (Er.e 11), hs_d_, d_, d_2, d_3, d_4, rfl, hE1, k2, k1, (InA.trans hi1 (apC (InP.mem (List.Mem.head _)) (InA.mem (fun _ hp => List.Mem.tail _ (hp)))) (Nat.le_refl _)), dj1, H⟩
    · replace H := H.2 (b2)
      refine WC.skip (WX.then_normal ?_)
      refine WC.seq ?_
      obtain ⟨J1, H, hJ1⟩ := H
      refine WC.midF (fun L' w' => ∃ (d0 : List (List UInt8 × List UInt8 × Bool × List UInt8 × Bool × List (Int × List UInt8))), ∃ (hs_d0 : List (List UInt8 × PH)), L' = [] ∧ J1 d0 ∧ GrL ((some g_d) :: (FP g_d_files hs_d_files none)) w w' ∧ Bl w' g_d 124 [.map (some g_d_files), .int .i64 d_2, .int .i64 d_3, .bool d_4] ∧ PoolO pe128 w' g_d_files hs_d0 d0 none ∧ AllP (Dj (some g_d)) (FP g_d_files hs_d0 none) ∧ AllP (InP ((some g_d) :: (FP g_d_files hs_d_files none)) w.heap.size) (FP g_d_files hs_d0 none)) ?_ (fun hQ => ?_)
      · clear H
        rintro _ w3 ⟨d0, hs_d0, rfl, H, gr3, k3, k4, dj2, hi2⟩
        replace H := hJ1 d0 H
        refine WX.then_normal ?_
        refine WC.seq ?_
        refine WC.region ?_
        refine WL.y rfl (Yld.pure tab_ok rfl) ?_
        refine WL.nil (WX.then_normal ?_)
        refine WC.ret ?_
        exact WX.ret1 rfl rfl ⟨gr3, .nilIface, Er.ok, hs_d0, d0, d_2, d_3, d_4, rfl, (ErrR.okR (S := S) (w := w3)), k3, k4, hi2, dj2, H⟩
      · clear hJ1
        refine WC.seq ?_
        refine WC.region ?_
        refine WL.y rfl (Yld.pure tab_ok rfl) ?_
        refine WL.y rfl (Yld.pure tab_ok rfl) ?_
        refine WL.y rfl (Yld.pure tab_ok rfl) ?_
        refine WL.y rfl (Yld.bload tab_ok k2 rfl rfl rfl) ?_
        refine WL.y rfl (Yld.pure tab_ok rfl) ?_
        obtain ⟨h1, H⟩ := H
        refine WL.y rfl (Yld.plook (keyF_s Tryd.underlying9) Tryd.underlying122 (fun _ => by kernel_rfl) k1 rfl rfl h1) ?_
        refine WL.y rfl (Yld.pure tab_ok rfl) ?_
        refine WL.nil (WX.then_normal ?_)
        refine WC.seq ?_
        refine WC.region ?_
        refine WL.y rfl (Yld.pure tab_ok rfl) ?_
        refine WL.y rfl (Yld.pneP Tryd.underlying125 k1 rfl rfl) ?_
        refine WL.nil (WX.then_normal ?_)
        refine WC.cond rfl (fun b3 => ?_) (fun b3 => ?_)
        · replace H := H.1 (b3)
          refine WC.region ?_
          refine WL.y rfl (Yld.pure tab_ok rfl) ?_
          have hx1 : mget d_ p = some ((mget d_ p).getD ([], false, [], false, [])) := getD_some b3
          obtain ⟨b_pl, r1, hm1, hr1, k5, dj4, dj5⟩ := PoolO.open k1 hx1
          obtain ⟨A_pl, c_pl, r1e, hB2, hO1, dj3⟩ := hr1
          subst r1e
          simp only [pq_some hm1, pqo_some hm1]
          refine WL.call rfl rfl (W_pdisk_file_settle hO1 rfl hB2 dj3 H) ?_
          rintro _ w4 ⟨hgl2, pl_, pl_2, pl_3, pl_4, pl_5, A_pl_, c_pl_, rfl, hB3, hO2, hi3, dj6, H⟩
          have hi4 : InP ((some g_d) :: (FP g_d_files hs_d_files none)) w.heap.size (blk A_pl_) := InP.trans hi3 (apC (PoolO.at1 k1 hm1 (InA.trans hi1 (apC (InP.mem (List.Mem.head _)) (InA.mem (fun _ hp => List.Mem.tail _ (hp)))) (Nat.le_refl _))) (apC (PoolO.at2 k1 hm1 (InA.trans hi1 (apC (InP.mem (List.Mem.head _)) (InA.mem (fun _ hp => List.Mem.tail _ (hp)))) (Nat.le_refl _))) apN)) (GrL.sizeL gr2)
          have gr4 : GrL ((some g_d) :: (FP g_d_files hs_d_files none)) w w4 := GrL.modL gr2 hgl2 (apC (PoolO.at1 k1 hm1 (InA.trans hi1 (apC (InP.mem (List.Mem.head _)) (InA.mem (fun _ hp => List.Mem.tail _ (hp)))) (Nat.le_refl _))) (apC (PoolO.at2 k1 hm1 (InA.trans hi1 (apC (InP.mem (List.Mem.head _)) (InA.mem (fun _ hp => List.Mem.tail _ (hp)))) (Nat.le_refl _))) apN))
          have k6 := k5.goL hgl2 (apC dj4 (apC dj5 apN))
          have k7 := k2.goL hgl2 (apC (PoolO.at1 k1 hm1 dj1) (apC (PoolO.at2 k1 hm1 dj1) apN))
          refine WL.nil ?_
          have hr2 : pe128.rel w4 (b_pl, blk A_pl_) (pl_, pl_2, pl_3, pl_4, pl_5) := ⟨_, _, rfl, hB3, hO2, dj6⟩
          have k8 := PoolO.close k6 hm1 hr2 dj4 (k5.inp hi3 (apC dj4 (apC dj5 apN)))
          exact WX.weaken (by repeat (first | exact Sub.nil | refine Sub.cons rfl ?_)) (hQ _ _ ⟨mput d_ p (pl_, pl_2, pl_3, pl_4, pl_5), mput hs_d_ p (b_pl, blk A_pl_), rfl, H, gr4, k7, k8, (PoolO.closeA k6 (PoolO.sub k1 dj1) (PoolO.at1 k1 hm1 dj1) (InP.dj hi3 k2.lt' (apC (PoolO.at1 k1 hm1 dj1) (apC (PoolO.at2 k1 hm1 dj1) apN))).symm), (PoolO.closeA k6 (PoolO.sub k1 (InA.trans hi1 (apC (InP.mem (List.Mem.head _)) (InA.mem (fun _ hp => List.Mem.tail _ (hp)))) (Nat.le_refl _))) (PoolO.at1 k1 hm1 (InA.trans hi1 (apC (InP.mem (List.Mem.head _)) (InA.mem (fun _ hp => List.Mem.tail _ (hp)))) (Nat.le_refl _))) hi4)⟩)
        · replace H := H.2 (b3)
          refine WC.skip ?_
          exact WX.weaken (by repeat (first | exact Sub.nil | refine Sub.cons rfl ?_)) (hQ _ _ ⟨d_, hs_d_, rfl, H, gr2, k2, k1, dj1, (InA.trans hi1 (apC (InP.mem (List.Mem.head _)) (InA.mem (fun _ hp => List.Mem.tail _ (hp)))) (Nat.le_refl _))⟩)

set_option maxHeartbeats 8000000 in
theorem W_disk_New {S : List Nat} {w : World} {files : List (List UInt8 × List UInt8)} {A_files : Option Addr} {c_files : Nat} {n_files : Nat} {K0 : Er → Prop} {K : (List (List UInt8 × List UInt8 × Bool × List UInt8 × Bool × List (Int × List UInt8))) → Int → Int → Bool → Er → Prop} (hG : GOK S w) (hS9 : 9 ∈ S) (hS11 : 11 ∈ S) (hS100 : 100 ∈ S) (hfiles : RdK 2 enc43 w A_files c_files files) (hn_files : n_files = files.length) (H : M_disk_New files K0 K) : Fn Tryd.prog 21 ⟨[.slice A_files n_files c_files]⟩ w (fun v w' => w.grownBy w' none ∧ ((∃ (v_r12 : Value), ∃ (r12 : Er), v = .tuple #[.pointer none, v_r12] ∧ ErrR S w' v_r12 r12 ∧ K0 r12) ∨ (∃ (g_r0 : Nat), ∃ (g_r0_files : Nat), ∃ (hs_r0_files : List (List UInt8 × PH)), ∃ (r0_files : List (List UInt8 × List UInt8 × Bool × List UInt8 × Bool × List (Int × List UInt8))), ∃ (r0_ops : Int), ∃ (r0_left : Int), ∃ (r0_down : Bool), ∃ (v_r1 : Value), ∃ (r1 : Er), v = .tuple #[.pointer (some ⟨g_r0, 0, none⟩), v_r1] ∧ ErrR S w' v_r1 r1 ∧ PoolO pe128 w' g_r0_files hs_r0_files r0_files none ∧ AllP (fun p => Ge p w.heap.size) (FP g_r0_files hs_r0_files none) ∧ Bl w' g_r0 124 [.map (some g_r0_files), .int .i64 r0_ops, .int .i64 r0_left, .bool r0_down] ∧ Ge (some g_r0) w.heap.size ∧ AllP (Dj (some g_r0)) (FP g_r0_files hs_r0_files none) ∧ K r0_files r0_ops r0_left r0_down r1))) := by
  subst hn_files
  unfold M_disk_New at H
  refine Fn.enter (by kernel_rfl) Tryd.func21 rfl Tryd.ntmps21 rfl ?_
  replace H := H (Nat.le_trans hfiles.cap hfiles.max)
  refine WC.seq ?_
  refine WC.region ?_
  refine WL.y rfl (Yld.pure tab_ok rfl) ?_
  refine WL.y rfl (Yld.pure tab_ok rfl) ?_
  refine WL.nil (WX.then_normal ?_)
  refine WC.seq ?_
  refine WC.region ?_
  refine WL.putw wants_none rfl (Eff.makeMap vs okS (vP : Option PH → Value)) ?_
  rintro _ w1 ⟨rfl, hB1, hg1⟩
  have k1 : PoolO pe128 w1 w.heap.size [] [] none := PoolO.empty _ hB1
  have gr1 := hg1
  refine WL.y rfl (Yld.struct (us := [.map (some w.heap.size), .int .i64 (0 : Int), .int .i64 (0 : Int), .bool false]) zero124 places124 rfl rfl) ?_
  refine WL.box (us := [.map (some w.heap.size), .int .i64 (0 : Int), .int .i64 (0 : Int), .bool false]) rfl rfl rfl (fun g1 w2 hB2 hg2 hl2 => ?_)
  have gr2 := gr_trans gr1 hg2
  have k2 := k1.g0 hg2
  refine WL.y rfl (Yld.pure tab_ok rfl) ?_
  refine WL.nil (WX.then_normal ?_)
  refine WC.seq ?_
  refine WC.seq ?_
  refine WC.region ?_
  refine WL.y rfl (Yld.pure tab_ok rfl) ?_
  refine WL.y rfl (Yld.pure tab_ok rfl) ?_
  refine WL.y rfl (Yld.pure tab_ok rfl) ?_
  refine WL.nil (WX.then_normal ?_)
  refine WC.block ?_
  obtain ⟨I1, mu1, h0_1, HR1⟩ := H
  refine WC.loopF (fun n' L' w' => ∃ (t12 : Int), ∃ (t90 : List (List UInt8 × List UInt8 × Bool × List UInt8 × Bool × List (Int × List UInt8))), ∃ (hs_t90 : List (List UInt8 × PH)), n' = mu1 t12 t90 ∧ L' = [(0, .slice A_files files.length c_files), (4, .pointer (some ⟨g1, 0, none⟩)), (10, .slice A_files files.length c_files), (11, .int .i64 (files.length : Int)), (12, .int .i64 t12)] ∧ I1 t12 t90 ∧ w.grownBy w' none ∧ Bl w' g1 124 [.map (some w.heap.size), .int .i64 (0 : Int), .int .i64 (0 : Int), .bool false] ∧ PoolO pe128 w' w.heap.size hs_t90 t90 none ∧ AllP (Dj (some g1)) (FP w.heap.size hs_t90 none) ∧ AllP (fun p => Ge p w.heap.size) (FP w.heap.size hs_t90 none)) _ _ ⟨(0 : Int), ([] : List (List UInt8 × List UInt8 × Bool × List UInt8 × Bool × List (Int × List UInt8))), ([] : List (List UInt8 × PH)), rfl, rfl, h0_1, gr2, hB2, k2, (k1.new (Ge.box hl2)), (FP.nil (Ge.le (Ge.box (Nat.le_refl _)) (Nat.le_refl _)))⟩ (by repeat (first | exact Sub.nil | refine Sub.cons rfl ?_)) ?_
  clear h0_1
  rintro _ _ w3 ⟨t12, t90, hs_t90, rfl, rfl, hI1, gr3, k3, k4, dj1, hi1⟩
  have H := HR1 t12 t90 hI1
  refine WC.seq ?_
  refine WC.region ?_
  refine WL.y rfl (Yld.pure tab_ok rfl) ?_
  refine WL.nil (WX.then_normal ?_)
  refine WC.seq ?_
  refine WC.cond rfl (fun b1 => ?_) (fun b1 => ?_)
  · replace H := H.1 (of_decide_eq_true b1)
    refine WC.skip (WX.then_normal ?_)
    refine WC.seq ?_
    refine WC.block ?_
    refine WC.seq ?_
    refine WC.region ?_
    obtain ⟨h1, H⟩ := H
    refine WL.y rfl (Yld.iaddrK tab_ok (hfiles.grown gr3) rfl rfl rfl rfl h1.1 h1.2) ?_
    refine WL.y rfl (Yld.iloadK ([], []) tab_ok (hfiles.grown gr3) rfl rfl (iltN h1 rfl)) ?_
    refine WL.alloc rfl zero43 (fun g2 w4 hB3 hg3 hl3 => ?_)
    have gr4 := gr_trans gr3 hg3
    have k5 := k3.g0 hg3
    have k6 := k4.g0 hg3
    refine WL.storeW (vs := [vs ((files.getD t12.toNat ([], [])).1), vs ((files.getD t12.toNat ([], [])).2)]) tab_ok rfl rfl rfl (all1c rfl (all1c rfl all1n)) hB3 rfl rfl (fun w5 hB4 hg4 => ?_)
    have gr5 := gr_mod gr4 hg4 (Ge.le (Ge.box hl3) (size_le gr3))
    have k7 := k5.go hg4 (Dj.new k3.lt' (Ge.box hl3))
    have k8 := k6.go hg4 (k4.new (Ge.box hl3))
    refine WL.nil (WX.then_normal ?_)
    refine WC.seq ?_
    refine WC.seq ?_
    refine WC.chainF (fun k => !(Nat.beq k 2)) (LD [1, 8, 10, 11, 16] (fun w' => Bl w' g2 43 [vs ((files.getD t12.toNat ([], [])).1), vs ((files.getD t12.toNat ([], [])).2)] ∧ Bl w' g1 124 [.map (some w.heap.size), .int .i64 (0 : Int), .int .i64 (0 : Int), .bool false] ∧ PoolO pe128 w' w.heap.size hs_t90 t90 none)) mixed (by kernel_rfl) (fun k w' h _ => ⟨(bl_eqv h hB4), (bl_eqv h k7), (PoolO.eqv h k8)⟩) ?_
    refine WJ.y rfl rfl (fun w' hw' => Yld.pure tab_ok rfl) ?_
    refine WJ.y rfl rfl (fun w' hw' => Yld.bload tab_ok (hw' rfl).1 rfl rfl rfl) ?_
    refine WJ.call rfl (wants_none) rfl rfl (W_path_Valid (hG.grown gr5) hS100 H) (fun v w' h w2 e => DD.keep (⟨(Bl.g0 hB4 (gr_eqv h.1 e)), (Bl.g0 k7 (gr_eqv h.1 e)), (PoolO.g0 k8 (gr_eqv h.1 e))⟩)) ?_
    rintro _ w6 ⟨hg5, t18, rfl, H⟩
    have gr6 := gr_trans gr5 hg5
    have k9 := k7.g0 hg5
    have k10 := k8.g0 hg5
    have k11 := hB4.g0 hg5
    refine WJ.y rfl rfl (fun w' hw' => Yld.pure tab_ok rfl) ?_
    refine WJ.y rfl rfl (fun w' hw' => Yld.pure tab_ok rfl) ?_
    obtain ⟨h2, H⟩ := H
    refine WJ.midF 9 (fun L' w' => ∃ q1 : Bool, L' = [(29, .bool q1), (0, .slice A_files files.length c_files), (4, .pointer (some ⟨g1, 0, none⟩)), (6, .pointer (some ⟨g2, 0, none⟩)), (10, .slice A_files files.length c_files), (11, .int .i64 (files.length : Int)), (12, .int .i64 t12)] ∧ ((!t18) || ((mget t90 ((files.getD t12.toNat ([], [])).1)).isSome)) = q1 ∧ w6 = w') ?_ (fun hQ => ?_)
    · rintro _ _ ⟨q1, rfl, rfl, rfl⟩
      refine WJ.y rfl rfl (fun w' hw' => Yld.pure tab_ok rfl) ?_
      refine WJ.midF 5 (fun L' w' => ∃ q2 : Bool, L' = [(35, .bool q2), (0, .slice A_files files.length c_files), (4, .pointer (some ⟨g1, 0, none⟩)), (6, .pointer (some ⟨g2, 0, none⟩)), (10, .slice A_files files.length c_files), (11, .int .i64 (files.length : Int)), (12, .int .i64 t12)] ∧ (((!t18) || ((mget t90 ((files.getD t12.toNat ([], [])).1)).isSome)) || (decide ((65536 : Int) < (((files.getD t12.toNat ([], [])).2).length : Int)))) = q2 ∧ w6 = w') ?_ (fun hQ => ?_)
      · rintro _ _ ⟨q2, rfl, rfl, rfl⟩
        refine WJ.nil (WX.then_normal ?_)
        refine WC.cond rfl (fun b2 => ?_) (fun b2 => ?_)
        · replace H := H.1 (b2)
          refine WC.seq ?_
          refine WC.quiet mixed (by kernel_rfl) ?_
          obtain ⟨vE1, _, hE1⟩ := GOK.get (hG.grown gr6) 11 0 hS11 rfl rfl
          refine WQ.y rfl (Yld.cell tab_ok (ErrR.cell hE1 rfl) rfl rfl) ?_
          refine WQ.y rfl (Yld.pure tab_ok rfl) ?_
          refine WQ.y rfl (Yld.pure tab_ok rfl) ?_
          refine WQ.nil (WX.then_normal ?_)
          refine WC.ret (WX.then_ret (WX.block_ret (WX.then_ret (WX.then_ret (WX.block_ret (WX.then_ret ?_))))))
          exact WX.ret2 rfl rfl rfl ⟨gr6, Or.inl ⟨vE1, (Er.e 11), rfl, hE1, H⟩⟩
        · replace H := H.2 (b2)
          refine WC.skip (WX.then_normal ?_)
          refine WC.chainF (fun k => !(Nat.beq k 11 || Nat.beq k 12)) (LD [3, 5, 7, 9] (fun w' => Bl w' g1 124 [.map (some w.heap.size), .int .i64 (0 : Int), .int .i64 (0 : Int), .bool false] ∧ Bl w' g2 43 [vs ((files.getD t12.toNat ([], [])).1), vs ((files.getD t12.toNat ([], [])).2)])) mixed (by kernel_rfl) (fun k w' h _ => ⟨(bl_eqv h k9), (bl_eqv h k11)⟩) ?_
          refine WJ.y rfl rfl (fun w' hw' => Yld.pure tab_ok rfl) ?_
          refine WJ.y rfl rfl (fun w' hw' => Yld.pure tab_ok rfl) ?_
          refine WJ.y rfl rfl (fun w' hw' => Yld.pure tab_ok rfl) ?_
          refine WJ.y rfl rfl (fun w' hw' => Yld.bload tab_ok (hw' rfl).1 rfl rfl rfl) ?_
          refine WJ.y rfl rfl (fun w' hw' => Yld.pure tab_ok rfl) ?_
          refine WJ.y rfl rfl (fun w' hw' => Yld.bload tab_ok (hw' rfl).2 rfl rfl rfl) ?_
          refine WJ.y rfl rfl (fun w' hw' => Yld.pure tab_ok rfl) ?_
          refine WJ.y rfl rfl (fun w' hw' => Yld.bload tab_ok (hw' rfl).2 rfl rfl rfl) ?_
          refine WJ.y rfl rfl (fun w' hw' => Yld.pure tab_ok rfl) ?_
          refine WJ.y rfl rfl (fun w' hw' => Yld.bload tab_ok (hw' rfl).2 rfl rfl rfl) ?_
          refine WJ.y rfl rfl (fun w' hw' => Yld.struct (us := [vs ((files.getD t12.toNat ([], [])).2), .bool true, vs ((files.getD t12.toNat ([], [])).2), .bool true, .slice none 0 0]) zero128 places128 rfl rfl) ?_
          refine WJ.putw rfl wants_none rfl (Eff.box (us := [vs ((files.getD t12.toNat ([], [])).2), .bool true, vs ((files.getD t12.toNat ([], [])).2), .bool true, .slice none 0 0]) rfl rfl) (fun v w' h => DD.keep (⟨(Bl.g0 k9 (gr_eqv h.2.2 (Eqv.refl _))), (Bl.g0 k11 (gr_eqv h.2.2 (Eqv.refl _)))⟩)) ?_
          rintro _ w7 ⟨rfl, hB5, hg6⟩
          have gr7 := gr_trans gr6 hg6
          have k12 := k9.g0 hg6
          have k13 := k10.g0 hg6
          have k14 := k11.g0 hg6
          obtain ⟨h3, H⟩ := H
          have hr1 : pe128.rel w7 (w6.heap.size, blk none) ((files.getD t12.toNat ([], [])).2, true, (files.getD t12.toNat ([], [])).2, true, []) := ⟨_, _, rfl, hB5, ((OwnK.nil enc136_ok w7 w.heap.size 136).base (fun _ _ => Nat.zero_le _)), Dj.nr⟩
          refine WJ.eff rfl (Ef0.poolPut (keyF_s Tryd.underlying9) Tryd.underlying122 k13 h3.2 rfl rfl h3.1 rfl hr1 (k10.new (Ge.box (Nat.le_refl _))) apNl) (fun w' h => DD.past (by kernel_rfl)) ?_
          rintro w8 ⟨k15, hg7⟩
          have gr8 := gr_mod gr7 hg7 (apH hi1)
          have k16 := k12.go hg7 (apH dj1)
          have k17 := k14.go hg7 (apH (k4.new (Ge.box hl3)))
          refine WJ.nil (WX.block_normal (WX.then_normal ?_))
          refine WC.region ?_
          obtain ⟨h4, H⟩ := H
          refine WL.y rfl (Yld.add rfl rfl h4) ?_
          refine WL.y rfl (Yld.pure tab_ok rfl) ?_
          refine WL.nil ?_
          exact WX.roundF _ ⟨t12 + (1 : Int), mput t90 ((files.getD t12.toNat ([], [])).1) ((files.getD t12.toNat ([], [])).2, true, (files.getD t12.toNat ([], [])).2, true, []), mput hs_t90 ((files.getD t12.toNat ([], [])).1) (w6.heap.size, blk none), rfl, rfl, H.1, gr8, k16, k15, (PoolO.putA k13 dj1 (Dj.new k9.lt' (Ge.box (Nat.le_refl _))) Dj.nr), (PoolO.putA k13 hi1 (Ge.le (Ge.box (Nat.le_refl _)) (size_le gr6)) Ge.none)⟩ (by repeat (first | exact Sub.nil | refine Sub.cons rfl ?_)) H.2
      · clear H
        rcases Bool.eq_false_or_eq_true ((!t18) || ((mget t90 ((files.getD t12.toNat ([], [])).1)).isSome)) with b3 | b3
        · refine WJ.no rfl rfl (okb b3) rfl ?_
          refine WJ.no rfl rfl (okb b3) rfl ?_
          refine WJ.no rfl rfl (okb b3) rfl ?_
          refine WJ.no rfl rfl (okb b3) rfl ?_
          refine WJ.y rfl rfl (fun w' hw' => Yld.pickT (okb b3) rfl) ?_
          exact WJ.weaken (by repeat (first | exact Sub.nil | refine Sub.cons rfl ?_)) (hQ _ _ ⟨true, rfl, by rw [b3] <;> rfl, rfl⟩)
        · refine WJ.yw rfl (wants_some rfl rfl (okb b3)) rfl (fun w' hw' => Yld.pure tab_ok rfl) ?_
          refine WJ.yw rfl (wants_some rfl rfl (okb b3)) rfl (fun w' hw' => Yld.bload tab_ok (hw' rfl).1 rfl rfl rfl) ?_
          refine WJ.yw rfl (wants_some rfl rfl (okb b3)) rfl (fun w' hw' => Yld.pure tab_ok rfl) ?_
          refine WJ.yw rfl (wants_some rfl rfl (okb b3)) rfl (fun w' hw' => Yld.pure tab_ok rfl) ?_
          refine WJ.y rfl rfl (fun w' hw' => Yld.pickF (okb b3) rfl) ?_
          exact WJ.weaken (by repeat (first | exact Sub.nil | refine Sub.cons rfl ?_)) (hQ _ _ ⟨decide ((65536 : Int) < (((files.getD t12.toNat ([], [])).2).length : Int)), rfl, by rw [b3] <;> rfl, rfl⟩)
    · clear H
      rcases Bool.eq_false_or_eq_true (!t18) with b4 | b4
      · refine WJ.no rfl rfl (okb b4) rfl ?_
        refine WJ.no rfl rfl (okb b4) rfl ?_
        refine WJ.no rfl rfl (okb b4) rfl ?_
        refine WJ.no rfl rfl (okb b4) rfl ?_
        refine WJ.no rfl rfl (okb b4) rfl ?_
        refine WJ.no rfl rfl (okb b4) rfl ?_
        refine WJ.no rfl rfl (okb b4) rfl ?_
        refine WJ.no rfl rfl (okb b4) rfl ?_
        refine WJ.y rfl rfl (fun w' hw' => Yld.pickT (okb b4) rfl) ?_
        exact WJ.weaken (by repeat (first | exact Sub.nil | refine Sub.cons rfl ?_)) (hQ _ _ ⟨true, rfl, by rw [b4] <;> rfl, rfl⟩)
      · refine WJ.yw rfl (wants_some rfl rfl (okb b4)) rfl (fun w' hw' => Yld.pure tab_ok rfl) ?_
        refine WJ.yw rfl (wants_some rfl rfl (okb b4)) rfl (fun w' hw' => Yld.pure tab_ok rfl) ?_
        refine WJ.yw rfl (wants_some rfl rfl (okb b4)) rfl (fun w' hw' => Yld.pure tab_ok rfl) ?_
        refine WJ.yw rfl (wants_some rfl rfl (okb b4)) rfl (fun w' hw' => Yld.bload tab_ok (hw' rfl).2.1 rfl rfl rfl) ?_
        refine WJ.yw rfl (wants_some rfl rfl (okb b4)) rfl (fun w' hw' => Yld.pure tab_ok rfl) ?_
        refine WJ.yw rfl (wants_some rfl rfl (okb b4)) rfl (fun w' hw' => Yld.bload tab_ok (hw' rfl).1 rfl rfl rfl) ?_
        refine WJ.yw rfl (wants_some rfl rfl (okb b4)) rfl (fun w' hw' => Yld.plook (keyF_s Tryd.underlying9) Tryd.underlying122 (fun _ => by kernel_rfl) (hw' rfl).2.2 rfl rfl (h2 b4)) ?_
        refine WJ.yw rfl (wants_some rfl rfl (okb b4)) rfl (fun w' hw' => Yld.pneP Tryd.underlying125 k10 rfl rfl) ?_
        refine WJ.y rfl rfl (fun w' hw' => Yld.pickF (okb b4) rfl) ?_
        exact WJ.weaken (by repeat (first | exact Sub.nil | refine Sub.cons rfl ?_)) (hQ _ _ ⟨(mget t90 ((files.getD t12.toNat ([], [])).1)).isSome, rfl, by rw [b4] <;> rfl, rfl⟩)
  · replace H := H.2 (of_decide_eq_false b1)
    refine WC.exit (WX.then_exit (WX.then_exit (WX.block_same (WX.then_normal ?_))))
    refine WC.seq ?_
    refine WC.seq ?_
    refine WC.region ?_
    refine WL.y rfl (Yld.pure tab_ok rfl) ?_
    refine WL.y rfl (Yld.pure tab_ok rfl) ?_
    refine WL.y rfl (Yld.pure tab_ok rfl) ?_
    refine WL.nil (WX.then_normal ?_)
    refine WC.cond rfl (fun b5 => ?_) (fun b5 => ?_)
    · replace H := H.1 (of_decide_eq_true b5)
      refine WC.seq ?_
      refine WC.quiet mixed (by kernel_rfl) ?_
      obtain ⟨vE2, _, hE2⟩ := GOK.get (hG.grown gr3) 9 1 hS9 rfl rfl
      refine WQ.y rfl (Yld.cell tab_ok (ErrR.cell hE2 rfl) rfl rfl) ?_
      refine WQ.y rfl (Yld.pure tab_ok rfl) ?_
      refine WQ.y rfl (Yld.pure tab_ok rfl) ?_
      refine WQ.nil (WX.then_normal ?_)
      refine WC.ret (WX.then_ret ?_)
      exact WX.ret2 rfl rfl rfl ⟨gr3, Or.inl ⟨vE2, (Er.e 9), rfl, hE2, H⟩⟩
    · replace H := H.2 (of_decide_eq_false b5)
      refine WC.skip (WX.then_normal ?_)
      refine WC.seq ?_
      refine WC.region ?_
      refine WL.y rfl (Yld.pure tab_ok rfl) ?_
      refine WL.y rfl (Yld.pure tab_ok rfl) ?_
      refine WL.y rfl (Yld.pure tab_ok rfl) ?_
      refine WL.nil (WX.then_normal ?_)
      refine WC.ret ?_
      exact WX.ret2 rfl rfl rfl ⟨gr3, Or.inr ⟨g1, w.heap.size, hs_t90, t90, (0 : Int), (0 : Int), false, .nilIface, Er.ok, rfl, (ErrR.okR (S := S) (w := w3)), k4, hi1, k3, (Ge.le (Ge.box hl2) (size_le gr1)), dj1, H⟩⟩

end Go.Proofs.YtlonpmajnglmoaaDoor

 /- Digests held against each other. -/
namespace Go.Proofs.YtlonpmajnglmoaaDoor
open Go Go.RowKit
theorem Yld.arreq {P : Program} {N : Nat} {L : Slots} {w : World} {ty : TypeId} {pos : String} {af : Array Edge} {dd : Option Tmp} {t t' e : TypeId} {x y : Operand} {xs ys : List UInt8} (ht : P.underlying t = some (.array 32 e)) (he : P.underlying e = some (.int .u8)) (hsz : ∀ w, (sizeOf e).run P w = .ok 1 w) (hg : P.eqGuardType P.depth t = false)
    (hx : opv L x = some (.agg ⟨a32 xs⟩)) (hy : opv L y = some (.agg ⟨a32 ys⟩)) (h1 : xs.length = 32) (h2 : ys.length = 32) : Yld P N w ⟨dd, .binOp .eql t x y t', ty, pos, af, none⟩ L (.bool (decide (xs = ys))) := fun a w1 _ ha => by
  refine exec_bin (ha.ev hx) (ha.ev hy) (run_eqGuard_agg w1 .eql t x y _ _ hg) ?_
  have h := run_eql_bytes w1 t e 32 ht he hsz xs ys h1 h2
  have ex : ((xs.map Extern.Stop.cell).toArray : Array Value) = ⟨a32 xs⟩ := by rw [a32_map xs h1]; rfl
  have ey : ((ys.map Extern.Stop.cell).toArray : Array Value) = ⟨a32 ys⟩ := by rw [a32_map ys h2]; rfl
  rw [ex, ey] at h
  rw [h]
  congr 2
  rw [Bool.eq_iff_iff]
  simp
theorem RdK.take {α : Type} {k : Nat} {f : α → List Value} {w : World} {A : Option Addr} {c : Nat} {xs : List α} (h : RdK k f w A c xs) (m : Nat) : RdK k f w A c (xs.take m) :=
  ⟨h.ok, by have := h.cap; simp; omega, h.max, fun hx => by
    obtain ⟨g, o, e, hc⟩ := h.cells (fun e => hx (by rw [e]; simp))
    refine ⟨g, o, e, fun j x i u hj hi => hc j x i u ?_ hi⟩
    rw [List.getElem?_take] at hj
    split at hj
    · exact hj
    · cases hj⟩
theorem Yld.ocutYK {P : Program} {T : Tab} {N : Nat} {L : Slots} {w w0 : World} {ty : TypeId} {pos : String} {af : Array Edge} {dd : Option Tmp} {t e : TypeId} {x : Operand} {α : Type} {k : Nat} {f : α → List Value} {A : Option Addr} {c n : Nat} {xs : List α} {lo hi : Option Operand} {h : Int} (hT : T.Ok P) (hR : RdK k f w0 A c xs) (hs : nk T.sl t = some (e, k)) (hx : opv L x = some (.slice A n c)) (hn : n = xs.length) (hl : optv L lo 0 = some 0) (hh : optv L hi n = some h) (h1 : 0 ≤ h) (h2 : h ≤ n) :
    Yld P N w ⟨dd, .slice t x lo hi none, ty, pos, af, none⟩ L (.slice A (xs.take h.toNat).length c) := fun a w1 _ ha => by
  obtain ⟨hu, j, hj, hj1⟩ := hT.sl hs
  have hb := run_bounds (P := P) (len := n) (cap := c) (isS := true) ha hl hh (by omega) h1 (by have := hR.cap; omega) w1
  have hA : A.map (·.add 0) = A := by
    cases A with
    | none => rfl
    | some a => simp [Addr.add]
  have hlen : (xs.take h.toNat).length = h.toNat := by simp; omega
  rw [hlen]
  unfold execOp
  simp [ha.ev hx, Instr.sliceAt, run_underlying hu, Instr.slice, hb, sizeOf, typeInfo, hj, hj1, hA]
/-! ### digests as_ keys -/
def vA (x : List UInt8) : Value := .agg ⟨a32 x⟩
def okA (x : List UInt8) : Prop := x.length = 32
theorem mapM_isSome {α β : Type} {f : α → Option β} : ∀ (l : List α), (∀ x ∈ l, (f x).isSome = true) → ∃ r, l.mapM f = some r
  | [], _ => ⟨[], rfl⟩
  | x :: l, h => by
    obtain ⟨r, hr⟩ := mapM_isSome l fun y hy => h y (List.mem_cons_of_mem _ hy)
    obtain ⟨y, hy⟩ := Option.isSome_iff_exists.1 (h x List.mem_cons_self)
    exact ⟨y :: r, by rw [List.mapM_cons, hy, hr]; rfl⟩
theorem keyFA {P : Program} {k e : TypeId} (A : Go.WideMaps.ArrKey P k e 32) (he : P.underlying e = some (.int .u8)) (hs : ∃ m, P.types.size = m + 1) : KeyF P k vA okA where
  keyed := Go.Maps.Keyed.of_law A.law
  key x hx := by
    have hk := A.keyType hs
    obtain ⟨m, hm⟩ := hs
    have hf : (vA x).formed P k = true := by
      unfold vA Value.formed
      simp [A.hu, A.size, a32_len]
    obtain ⟨r, hr⟩ := mapM_isSome (f := fun i => P.keyLits (m + 1) e (((a32 x).drop (i * P.cellsOf e)).take (P.cellsOf e))) (List.range 32) fun i hi => by
      have hi := List.mem_range.1 hi
      have e1 : ((a32 x).drop (i * P.cellsOf e)).take (P.cellsOf e) = [vb (x.getD i 0)] := by
        rw [A.one, Nat.mul_one, List.drop_eq_getElem_cons (by rw [a32_len]; exact hi)]
        have := a32_get x i hi
        rw [List.getElem?_eq_getElem (by rw [a32_len]; exact hi), Option.some.injEq] at this
        rw [this]; rfl
      rw [e1]
      generalize x.getD i 0 = c
      have hb := c.toNat_lt
      unfold Program.keyLits vb
      rw [he]
      have hw : (Lit.int .u8 (c.toNat : Int)).wf = true := by
        simp [Lit.wf, IntKind.min, IntKind.max, IntKind.signed, IntKind.bits]
        omega
      simp [hw]
    refine ⟨.string (keyBytes r.flatten), ?_⟩
    unfold keyOf
    rw [A.hu]
    show (if (P.keyType k && (vA x).formed P k) = true then _ else _) = _
    rw [hk, hf, hm]
    have hc : (vA x).cells.toList = a32 x := rfl
    rw [hc]
    unfold Program.keyLits
    rw [A.hu]
    simp only [a32_len, A.size, Bool.and_self, if_true]
    rw [hr]
    rfl
  inj x y hx hy h := a32_inj hx hy (by unfold vA at h; injection h with h; injection h)
theorem keyF_a : KeyF Tryd.prog 74 vA okA := keyFA ⟨Tryd.underlying74, by kernel_rfl, by kernel_rfl, by kernel_rfl⟩ Tryd.underlying5 ⟨_, rfl⟩
end Go.Proofs.YtlonpmajnglmoaaDoor


 /- Printed by a program (wip/vg): what the functions mean, plainly, and their walks. -/
namespace Go.Proofs.YtlonpmajnglmoaaDoor
open Go Go.RowKit
attribute [local irreducible] WL WC WX WQ WK WJ Yld Eff Ef0 Fn
def M_cache_Record (e_Key : List UInt8) (e_Out : List UInt8) (K : (List UInt8) → Prop) : Prop :=
 M_sha_Text e_Key (fun (k : List UInt8) =>
 M_sha_Text e_Out (fun (o : List UInt8) =>
 (k.length + ([32] : List UInt8).length ≤ 9223372036854775807) ∧
 ((k ++ ([32] : List UInt8)).length + o.length ≤ 9223372036854775807) ∧
 (((k ++ ([32] : List UInt8)) ++ o).length + ([32] : List UInt8).length ≤ 9223372036854775807) ∧
 M_sha_Many ([k, o] : List (List UInt8)) (fun (t19 : List UInt8) =>
 M_sha_Text t19 (fun (t20 : List UInt8) =>
 ((((k ++ ([32] : List UInt8)) ++ o) ++ ([32] : List UInt8)).length + t20.length ≤ 9223372036854775807) ∧
 (((((k ++ ([32] : List UInt8)) ++ o) ++ ([32] : List UInt8)) ++ t20).length + ([10] : List UInt8).length ≤ 9223372036854775807) ∧
 K (((((k ++ ([32] : List UInt8)) ++ o) ++ ([32] : List UInt8)) ++ t20) ++ ([10] : List UInt8))))))

def M_cache_one (s : List UInt8) (K : (List UInt8) → (List UInt8) → Bool → Prop) : Prop :=
 (0 ≤ (64 : Int) ∧ (64 : Int) ≤ s.length) ∧
 M_sha_Parse (s.take 64) (fun (t120 : List UInt8) (t121 : Er) =>
 (0 ≤ (65 : Int) ∧ (65 : Int) ≤ (129 : Int) ∧ (129 : Int) ≤ s.length) ∧
 M_sha_Parse ((s.drop 65).take (129 - 65)) (fun (t180 : List UInt8) (t181 : Er) =>
 ∃ J1 : Bool → Prop, (((((decide (t121 = Er.ok)) && (decide (t181 = Er.ok))) = true → M_cache_Record t120 t180 (fun (t33 : List UInt8) =>
 J1 (decide (t33 = s)))) ∧
 (((decide (t121 = Er.ok)) && (decide (t181 = Er.ok))) = false → J1 false))) ∧
 (∀ q2 : Bool, J1 q2 → K t120 t180 q2)))

def M_cache_Read (text : List UInt8) (K : (List (List UInt8 × List UInt8)) → Int → Prop) : Prop :=
 ∃ J1 : (List (List UInt8 × List UInt8)) → Int → Prop, (Lp2 (fun (l2 : List (List UInt8 × List UInt8)) (n2 : Int) kont1 => (In .i64 (n2 + (195 : Int))) ∧
 (((n2 + (195 : Int)) ≤ (text.length : Int) → (In .i64 (n2 + (195 : Int))) ∧
 (0 ≤ n2 ∧ n2 ≤ n2 + (195 : Int) ∧ n2 + (195 : Int) ≤ text.length) ∧
 M_cache_one ((text.drop n2.toNat).take ((n2 + (195 : Int)).toNat - n2.toNat)) (fun (t190_Key : List UInt8) (t190_Out : List UInt8) (t191 : Bool) =>
 (((!t191) = true → J1 l2 n2) ∧
 ((!t191) = false → ((l2.length + (([(t190_Key, t190_Out)] : List (List UInt8 × List UInt8))).length) * 64 ≤ 140737488355328) ∧
 (In .i64 (n2 + (195 : Int))) ∧
 kont1 (l2 ++ ([(t190_Key, t190_Out)] : List (List UInt8 × List UInt8))) (n2 + (195 : Int)))))) ∧
 (¬ ((n2 + (195 : Int)) ≤ (text.length : Int)) → J1 l2 n2))) [] (0 : Int)) ∧
 (∀ l : List (List UInt8 × List UInt8), ∀ n : Int, J1 l n → K l n)

def M_cache_Open (d_files : List (List UInt8 × List UInt8 × Bool × List UInt8 × Bool × List (Int × List UInt8))) (d_ops : Int) (d_left : Int) (d_down : Bool) (p : List UInt8) (K0 : Er → (List (List UInt8 × List UInt8 × Bool × List UInt8 × Bool × List (Int × List UInt8))) → Int → Int → Bool → Prop) (K : (List UInt8) → (List (List UInt8 × List UInt8)) → Er → (List (List UInt8 × List UInt8 × Bool × List UInt8 × Bool × List (Int × List UInt8))) → Int → Int → Bool → Prop) : Prop :=
 M_pdisk_Disk_Read d_files d_ops d_left d_down p (fun (t190 : List UInt8) (t191 : Bool) (t192 : Er) (d_ : List (List UInt8 × List UInt8 × Bool × List UInt8 × Bool × List (Int × List UInt8))) (d_2 : Int) (d_3 : Int) (d_4 : Bool) =>
 ((¬ (t192 = Er.ok) → K0 t192 d_ d_2 d_3 d_4) ∧
 (t192 = Er.ok → M_cache_Read t190 (fun (t280 : List (List UInt8 × List UInt8)) (t281 : Int) =>
 ∃ J1 : (List (List UInt8 × List UInt8 × Bool × List UInt8 × Bool × List (Int × List UInt8))) → Int → Int → Bool → Prop, (((t281 < (t190.length : Int) → (0 ≤ t281 ∧ t281 ≤ t190.length) ∧
 M_pdisk_Disk_Write d_ d_2 d_3 d_4 p (t190.take t281.toNat) (fun (err : Er) (d_5 : List (List UInt8 × List UInt8 × Bool × List UInt8 × Bool × List (Int × List UInt8))) (d_6 : Int) (d_7 : Int) (d_8 : Bool) =>
 ((¬ (err = Er.ok) → K0 err d_5 d_6 d_7 d_8) ∧
 (err = Er.ok → M_pdisk_Disk_Sync d_5 d_6 d_7 d_8 p (fun (err2 : Er) (d_9 : List (List UInt8 × List UInt8 × Bool × List UInt8 × Bool × List (Int × List UInt8))) (d_10 : Int) (d_11 : Int) (d_12 : Bool) =>
 ((¬ (err2 = Er.ok) → K0 err2 d_9 d_10 d_11 d_12) ∧
 (err2 = Er.ok → J1 d_9 d_10 d_11 d_12))))))) ∧
 (¬ (t281 < (t190.length : Int)) → J1 d_ d_2 d_3 d_4))) ∧
 (∀ d0 : List (List UInt8 × List UInt8 × Bool × List UInt8 × Bool × List (Int × List UInt8)), ∀ d1 : Int, ∀ d2 : Int, ∀ d3 : Bool, J1 d0 d1 d2 d3 → Lp2 (fun (t57 : Int) (t542 : List (List UInt8 × List UInt8)) kont1 => ((t57 < (t280.length : Int) → (0 ≤ t57 ∧ t57 < (t280.length : Nat)) ∧
 (((t280.getD t57.toNat ([], [])).1).length = 32 ∧ t542.length < maxLen) ∧
 (In .i64 (t57 + (1 : Int))) ∧
 kont1 (t57 + (1 : Int)) (mput t542 ((t280.getD t57.toNat ([], [])).1) ((t280.getD t57.toNat ([], [])).2))) ∧
 (¬ (t57 < (t280.length : Int)) → K p t542 Er.ok d0 d1 d2 d3))) (0 : Int) ([] : List (List UInt8 × List UInt8)))))))

def M_pcache_Cache_Put (c_d_files : List (List UInt8 × List UInt8 × Bool × List UInt8 × Bool × List (Int × List UInt8))) (c_d_ops : Int) (c_d_left : Int) (c_d_down : Bool) (c_p : List UInt8) (c_l : List (List UInt8 × List UInt8)) (k : List UInt8) (out : List UInt8) (K : Er → (List UInt8) → (List (List UInt8 × List UInt8)) → (List (List UInt8 × List UInt8 × Bool × List UInt8 × Bool × List (Int × List UInt8))) → Int → Int → Bool → Prop) : Prop :=
 (k.length = 32) ∧
 (((mget c_l k).isSome) = true → (((mget c_l k).getD (List.replicate 32 0)).length = 32 ∧ out.length = 32)) ∧
 (((((mget c_l k).isSome) && (decide (((mget c_l k).getD (List.replicate 32 0)) = out))) = true → K Er.ok c_p c_l c_d_files c_d_ops c_d_left c_d_down) ∧
 ((((mget c_l k).isSome) && (decide (((mget c_l k).getD (List.replicate 32 0)) = out))) = false → M_cache_Record k out (fun (t36 : List UInt8) =>
 M_pdisk_Disk_Append c_d_files c_d_ops c_d_left c_d_down c_p t36 (fun (err : Er) (c_d_ : List (List UInt8 × List UInt8 × Bool × List UInt8 × Bool × List (Int × List UInt8))) (c_d_2 : Int) (c_d_3 : Int) (c_d_4 : Bool) =>
 ((¬ (err = Er.ok) → K err c_p c_l c_d_ c_d_2 c_d_3 c_d_4) ∧
 (err = Er.ok → (k.length = 32 ∧ c_l.length < maxLen) ∧
 K Er.ok c_p (mput c_l k out) c_d_ c_d_2 c_d_3 c_d_4))))))

def M_pcache_Cache_Len (c_d_files : List (List UInt8 × List UInt8 × Bool × List UInt8 × Bool × List (Int × List UInt8))) (c_d_ops : Int) (c_d_left : Int) (c_d_down : Bool) (c_p : List UInt8) (c_l : List (List UInt8 × List UInt8)) (K : Int → Prop) : Prop :=
 K (c_l.length : Int)

set_option maxHeartbeats 8000000 in
theorem W_cache_Record {w : World} {e_Key : List UInt8} {e_Out : List UInt8} {K : (List UInt8) → Prop} (H : M_cache_Record e_Key e_Out K) : Fn Tryd.prog 42 ⟨[.agg ⟨(a32 e_Key ++ a32 e_Out)⟩]⟩ w (fun v w' => w.grownBy w' none ∧ ∃ (r : List UInt8), v = vs r ∧ K r) := by
  unfold M_cache_Record at H
  refine Fn.enter (by kernel_rfl) Tryd.func42 rfl Tryd.ntmps42 rfl ?_
  refine WC.seq ?_
  refine WC.region ?_
  refine WL.box (us := (a32 e_Key ++ a32 e_Out)) rfl rfl rfl (fun g1 w1 hB1 hg1 hl1 => ?_)
  have gr1 := hg1
  refine WL.y rfl (Yld.pure tab_ok rfl) ?_
  refine WL.nil (WX.then_normal ?_)
  refine WC.seq ?_
  refine WC.chainF (fun k => !(Nat.beq k 2 || Nat.beq k 5)) (LD [1, 4] (fun w' => Bl w' g1 78 (a32 e_Key ++ a32 e_Out))) mixed (by kernel_rfl) (fun k w' h _ => (bl_eqv h hB1)) ?_
  refine WJ.y rfl rfl (fun w' hw' => Yld.pure tab_ok rfl) ?_
  refine WJ.y rfl rfl (fun w' hw' => Yld.bagg (vs := (a32 e_Key)) tab_ok (hw' rfl) rfl rfl rfl rfl) ?_
  refine WJ.call rfl (wants_none) rfl rfl (W_sha_Text H) (fun v w' h w2 e => DD.keep (Bl.g0 hB1 (gr_eqv h.1 e))) ?_
  rintro _ w2 ⟨hg2, k, rfl, H⟩
  have gr2 := gr_trans gr1 hg2
  have k1 := hB1.g0 hg2
  refine WJ.y rfl rfl (fun w' hw' => Yld.pure tab_ok rfl) ?_
  refine WJ.y rfl rfl (fun w' hw' => Yld.bagg (vs := (a32 e_Out)) tab_ok (hw' rfl) rfl rfl rfl rfl) ?_
  refine WJ.call rfl (wants_none) rfl rfl (W_sha_Text H) (fun v w' h w2 e => DD.keep (Bl.g0 k1 (gr_eqv h.1 e))) ?_
  rintro _ w3 ⟨hg3, o, rfl, H⟩
  have gr3 := gr_trans gr2 hg3
  have k2 := k1.g0 hg3
  refine WJ.y rfl rfl (fun w' hw' => Yld.pure tab_ok rfl) ?_
  refine WJ.y rfl rfl (fun w' hw' => Yld.pure tab_ok rfl) ?_
  refine WJ.nil (WX.then_normal ?_)
  refine WC.seq ?_
  refine WC.region ?_
  refine WL.y rfl (Yld.pure tab_ok rfl) ?_
  obtain ⟨h1, H⟩ := H
  refine WL.y rfl (Yld.sadd rfl rfl h1) ?_
  refine WL.y rfl (Yld.pure tab_ok rfl) ?_
  obtain ⟨h2, H⟩ := H
  refine WL.y rfl (Yld.sadd rfl rfl h2) ?_
  obtain ⟨h3, H⟩ := H
  refine WL.y rfl (Yld.sadd rfl rfl h3) ?_
  refine WL.y rfl (Yld.pure tab_ok rfl) ?_
  refine WL.y rfl (Yld.pure tab_ok rfl) ?_
  refine WL.lit tab_ok rfl rfl rfl (all1c rfl (all1c rfl all1n)) rfl (by omega) (fun g2 w4 hB2 hg4 hl2 => ?_)
  have hO1 : Own vs w4 w.heap.size 9 (some ⟨g2, 0, none⟩) 2 ([k, o] : List (List UInt8)) := Own.ofBl hB2 (Nat.le_trans (size_le gr3) hl2) (by simp [maxLen]) rfl
  have gr4 := gr_trans gr3 hg4
  refine WL.call rfl rfl (W_sha_Many hO1.rd rfl H) ?_
  rintro _ w5 ⟨hg5, t19, rfl, H⟩
  have gr5 := gr_trans gr4 hg5
  refine WL.call rfl rfl (W_sha_Text H) ?_
  rintro _ w6 ⟨hg6, t20, rfl, H⟩
  have gr6 := gr_trans gr5 hg6
  obtain ⟨h4, H⟩ := H
  refine WL.y rfl (Yld.sadd rfl rfl h4) ?_
  obtain ⟨h5, H⟩ := H
  refine WL.y rfl (Yld.sadd rfl rfl h5) ?_
  refine WL.y rfl (Yld.pure tab_ok rfl) ?_
  refine WL.nil (WX.then_normal ?_)
  refine WC.ret ?_
  exact WX.ret1 rfl rfl ⟨gr6, ((((k ++ ([32] : List UInt8)) ++ o) ++ ([32] : List UInt8)) ++ t20) ++ ([10] : List UInt8), rfl, H⟩

set_option maxHeartbeats 8000000 in
theorem W_cache_one {S : List Nat} {w : World} {s : List UInt8} {K : (List UInt8) → (List UInt8) → Bool → Prop} (hG : GOK S w) (hS12 : 12 ∈ S) (H : M_cache_one s K) : Fn Tryd.prog 78 ⟨[vs s]⟩ w (fun v w' => w.grownBy w' none ∧ ∃ (r0_Key : List UInt8), ∃ (r0_Out : List UInt8), ∃ (r1 : Bool), v = .tuple #[.agg ⟨(a32 r0_Key ++ a32 r0_Out)⟩, .bool r1] ∧ K r0_Key r0_Out r1) := by
  unfold M_cache_one at H
  refine Fn.enter (by kernel_rfl) Tryd.func78 rfl Tryd.ntmps78 rfl ?_
  refine WC.seq ?_
  refine WC.region ?_
  refine WL.alloc rfl zero78 (fun g1 w1 hB1 hg1 hl1 => ?_)
  have gr1 := hg1
  refine WL.y rfl (Yld.pure tab_ok rfl) ?_
  refine WL.nil (WX.then_normal ?_)
  refine WC.seq ?_
  refine WC.region ?_
  refine WL.y rfl (Yld.pure tab_ok rfl) ?_
  obtain ⟨h1, H⟩ := H
  refine WL.y rfl (Yld.scut tab_ok rfl rfl rfl rfl (Int.le_refl 0) h1.1 h1.2) ?_
  refine WL.call rfl rfl (W_sha_Parse (hG.grown gr1) hS12 H) ?_
  rintro _ w2 ⟨hg2, t120, v_t121, t121, rfl, ht121, H⟩
  have gr2 := gr_trans gr1 hg2
  have k1 := hB1.g0 hg2
  refine WL.y rfl (Yld.pure tab_ok rfl) ?_
  refine WL.y rfl (Yld.pure tab_ok rfl) ?_
  refine WL.y rfl (Yld.pure tab_ok rfl) ?_
  refine WL.alloc rfl zero74 (fun g2 w3 hB2 hg3 hl2 => ?_)
  rw [a32_zero] at hB2
  have gr3 := gr_trans gr2 hg3
  have k2 := k1.g0 hg3
  have k3 := ht121.grown hg3
  refine WL.storeW (vs := (a32 t120)) tab_ok rfl rfl rfl (all1a (a32_one _) all1n) hB2 rfl rfl (fun w4 hB3 hg4 => ?_)
  have gr4 := gr_mod gr3 hg4 (Ge.le (Ge.box hl2) (size_le gr2))
  have k4 := k2.go hg4 (Dj.new k1.lt' (Ge.box hl2))
  have k5 := ErrR.go k3 hG gr3 hg4 gr4 hB2 rfl
  refine WL.y rfl (Yld.pure tab_ok rfl) ?_
  refine WL.nil (WX.then_normal ?_)
  refine WC.seq ?_
  refine WC.region ?_
  refine WL.y rfl (Yld.pure tab_ok rfl) ?_
  obtain ⟨h2, H⟩ := H
  refine WL.y rfl (Yld.scut tab_ok rfl rfl rfl rfl h2.1 h2.2.1 h2.2.2) ?_
  refine WL.call rfl rfl (W_sha_Parse (hG.grown gr4) hS12 H) ?_
  rintro _ w5 ⟨hg5, t180, v_t181, t181, rfl, ht181, H⟩
  have gr5 := gr_trans gr4 hg5
  have k6 := k4.g0 hg5
  have k7 := k5.grown hg5
  have k8 := hB3.g0 hg5
  refine WL.y rfl (Yld.pure tab_ok rfl) ?_
  refine WL.y rfl (Yld.pure tab_ok rfl) ?_
  refine WL.y rfl (Yld.pure tab_ok rfl) ?_
  refine WL.alloc rfl zero74 (fun g3 w6 hB4 hg6 hl3 => ?_)
  rw [a32_zero] at hB4
  have gr6 := gr_trans gr5 hg6
  have k9 := k6.g0 hg6
  have k10 := k7.grown hg6
  have k11 := k8.g0 hg6
  have k12 := ht181.grown hg6
  refine WL.storeW (vs := (a32 t180)) tab_ok rfl rfl rfl (all1a (a32_one _) all1n) hB4 rfl rfl (fun w7 hB5 hg7 => ?_)
  have gr7 := gr_mod gr6 hg7 (Ge.le (Ge.box hl3) (size_le gr5))
  have k13 := k9.go hg7 (Dj.new k6.lt' (Ge.box hl3))
  have k14 := ErrR.go k10 hG gr6 hg7 gr7 hB4 rfl
  have k15 := k11.go hg7 (Dj.new k8.lt' (Ge.box hl3))
  have k16 := ErrR.go k12 hG gr6 hg7 gr7 hB4 rfl
  refine WL.y rfl (Yld.pure tab_ok rfl) ?_
  refine WL.nil (WX.then_normal ?_)
  refine WC.seq ?_
  refine WC.region ?_
  refine WL.y rfl (Yld.bagg (vs := (a32 t120)) tab_ok k15 rfl rfl rfl rfl) ?_
  refine WL.y rfl (Yld.bagg (vs := (a32 t180)) tab_ok hB5 rfl rfl rfl rfl) ?_
  refine WL.y rfl (Yld.struct (us := (a32 t120 ++ a32 t180)) zero78 places78 rfl rfl) ?_
  refine WL.alloc rfl zero78 (fun g4 w8 hB6 hg8 hl4 => ?_)
  have gr8 := gr_trans gr7 hg8
  have k17 := k13.g0 hg8
  have k18 := k14.grown hg8
  have k19 := k16.grown hg8
  refine WL.storeW (vs := (a32 t120 ++ a32 t180)) tab_ok rfl rfl rfl (all1a (a32_one _) (all1a (a32_one _) all1n)) hB6 rfl rfl (fun w9 hB7 hg9 => ?_)
  have gr9 := gr_mod gr8 hg9 (Ge.le (Ge.box hl4) (size_le gr7))
  have k20 := k17.go hg9 (Dj.new k13.lt' (Ge.box hl4))
  have k21 := ErrR.go k18 hG gr8 hg9 gr9 hB6 rfl
  have k22 := ErrR.go k19 hG gr8 hg9 gr9 hB6 rfl
  refine WL.nil (WX.then_normal ?_)
  refine WC.seq ?_
  refine WC.chainF (fun k => !(Nat.beq k 9 || Nat.beq k 13)) (LD [0, 8] (fun w' => Bl w' g4 78 (a32 t120 ++ a32 t180))) mixed (by kernel_rfl) (fun k w' h _ => (bl_eqv h hB7)) ?_
  refine WJ.y rfl rfl (fun w' hw' => Yld.bagg (vs := (a32 t120 ++ a32 t180)) tab_ok (hw' rfl) rfl rfl rfl rfl) ?_
  refine WJ.y rfl rfl (fun w' hw' => Yld.pure tab_ok rfl) ?_
  refine WJ.y rfl rfl (fun w' hw' => Yld.erreql Tryd.underlying29 k21 rfl) ?_
  refine WJ.y rfl rfl (fun w' hw' => Yld.pure tab_ok rfl) ?_
  refine WJ.midF 3 (fun L' w' => ∃ q1 : Bool, L' = [(30, .bool q1), (0, vs s), (2, .pointer (some ⟨g1, 0, none⟩)), (8, .pointer (some ⟨g4, 0, none⟩)), (24, .agg ⟨(a32 t120 ++ a32 t180)⟩)] ∧ ((decide (t121 = Er.ok)) && (decide (t181 = Er.ok))) = q1 ∧ w9 = w') ?_ (fun hQ => ?_)
  · rintro _ _ ⟨q1, rfl, rfl, rfl⟩
    refine WJ.y rfl rfl (fun w' hw' => Yld.pure tab_ok rfl) ?_
    obtain ⟨J1, H, hJ1⟩ := H
    refine WJ.midF 5 (fun L' w' => ∃ q2 : Bool, L' = [(36, .bool q2), (2, .pointer (some ⟨g1, 0, none⟩)), (24, .agg ⟨(a32 t120 ++ a32 t180)⟩)] ∧ J1 q2 ∧ w.grownBy w' none ∧ Bl w' g1 78 (a32 (List.replicate 32 0 : List UInt8) ++ a32 (List.replicate 32 0 : List UInt8)) ∧ Bl w' g4 78 (a32 t120 ++ a32 t180)) ?_ (fun hQ => ?_)
    · clear H
      rintro _ w10 ⟨q2, rfl, H, gr10, k23, k24⟩
      replace H := hJ1 q2 H
      refine WJ.eff rfl (Ef0.storeW (vs := (a32 t120 ++ a32 t180)) tab_ok rfl rfl rfl (all1a (a32_one _) (all1a (a32_one _) all1n)) k23 rfl rfl) (fun w' h => DD.keep (Bl.go k24 (gr_eqv h.2 (Eqv.refl _)) (Dj.new k13.lt' (Ge.box hl4)).symm)) ?_
      rintro w11 ⟨hB8, hg10⟩
      have gr11 := gr_mod gr10 hg10 (Ge.le (Ge.box hl1) (Nat.le_refl _))
      have k25 := k24.go hg10 ((Dj.new k13.lt' (Ge.box hl4)).symm)
      refine WJ.y rfl rfl (fun w' hw' => Yld.pure tab_ok rfl) ?_
      refine WJ.nil (WX.then_normal ?_)
      refine WC.ret ?_
      exact WX.retct tab_ok rfl rfl rfl hB8 rfl rfl ⟨gr11, t120, t180, q2, rfl, H⟩
    · clear hJ1
      rcases Bool.eq_false_or_eq_true ((decide (t121 = Er.ok)) && (decide (t181 = Er.ok))) with b1 | b1
      · replace H := H.1 b1
        refine WJ.yw rfl (wants_some rfl rfl (okb b1)) rfl (fun w' hw' => Yld.bagg (vs := (a32 t120 ++ a32 t180)) tab_ok (hw' rfl) rfl rfl rfl rfl) ?_
        refine WJ.call rfl (wants_some rfl rfl (okb b1)) rfl rfl (W_cache_Record H) (fun v w' h w2 e => DD.keep (Bl.g0 hB7 (gr_eqv h.1 e))) ?_
        rintro _ w12 ⟨hg11, t33, rfl, H⟩
        have gr12 := gr_trans gr9 hg11
        have k26 := k20.g0 hg11
        have k27 := hB7.g0 hg11
        refine WJ.yw rfl (wants_some rfl rfl (okb b1)) rfl (fun w' hw' => Yld.pure tab_ok rfl) ?_
        refine WJ.yw rfl (wants_some rfl rfl (okb b1)) rfl (fun w' hw' => Yld.pure tab_ok rfl) ?_
        refine WJ.y rfl rfl (fun w' hw' => Yld.pickT (okb b1) rfl) ?_
        exact WJ.weaken (by repeat (first | exact Sub.nil | refine Sub.cons rfl ?_)) (hQ _ _ ⟨decide (t33 = s), rfl, H, gr12, k26, k27⟩)
      · replace H := H.2 b1
        refine WJ.no rfl rfl (okb b1) rfl ?_
        refine WJ.no rfl rfl (okb b1) rfl ?_
        refine WJ.no rfl rfl (okb b1) rfl ?_
        refine WJ.no rfl rfl (okb b1) rfl ?_
        refine WJ.y rfl rfl (fun w' hw' => Yld.pickF (okb b1) rfl) ?_
        exact WJ.weaken (by repeat (first | exact Sub.nil | refine Sub.cons rfl ?_)) (hQ _ _ ⟨false, rfl, H, gr9, k20, hB7⟩)
  · clear H
    rcases Bool.eq_false_or_eq_true (decide (t121 = Er.ok)) with b2 | b2
    · refine WJ.yw rfl (wants_some rfl rfl (okb b2)) rfl (fun w' hw' => Yld.pure tab_ok rfl) ?_
      refine WJ.yw rfl (wants_some rfl rfl (okb b2)) rfl (fun w' hw' => Yld.erreql Tryd.underlying29 k22 rfl) ?_
      refine WJ.y rfl rfl (fun w' hw' => Yld.pickT (okb b2) rfl) ?_
      exact WJ.weaken (by repeat (first | exact Sub.nil | refine Sub.cons rfl ?_)) (hQ _ _ ⟨decide (t181 = Er.ok), rfl, by rw [b2] <;> rfl, rfl⟩)
    · refine WJ.no rfl rfl (okb b2) rfl ?_
      refine WJ.no rfl rfl (okb b2) rfl ?_
      refine WJ.y rfl rfl (fun w' hw' => Yld.pickF (okb b2) rfl) ?_
      exact WJ.weaken (by repeat (first | exact Sub.nil | refine Sub.cons rfl ?_)) (hQ _ _ ⟨false, rfl, by rw [b2] <;> rfl, rfl⟩)

set_option maxHeartbeats 8000000 in
theorem W_cache_Read {S : List Nat} {w : World} {text : List UInt8} {K : (List (List UInt8 × List UInt8)) → Int → Prop} (hG : GOK S w) (hS12 : 12 ∈ S) (H : M_cache_Read text K) : Fn Tryd.prog 36 ⟨[vs text]⟩ w (fun v w' => w.grownBy w' none ∧ ∃ (r0 : List (List UInt8 × List UInt8)), ∃ (A_r0 : Option Addr), ∃ (c_r0 : Nat), ∃ (r1 : Int), v = .tuple #[.slice A_r0 r0.length c_r0, .int .i64 r1] ∧ OwnK 64 enc78 w' w.heap.size 78 A_r0 c_r0 r0 ∧ K r0 r1) := by
  unfold M_cache_Read at H
  refine Fn.enter (by kernel_rfl) Tryd.func36 rfl Tryd.ntmps36 rfl ?_
  refine WC.seq ?_
  refine WC.region ?_
  refine WL.y rfl (Yld.pure tab_ok rfl) ?_
  refine WL.y rfl (Yld.pure tab_ok rfl) ?_
  refine WL.nil (WX.then_normal ?_)
  refine WC.seq ?_
  refine WC.region ?_
  refine WL.y rfl (Yld.pure tab_ok rfl) ?_
  refine WL.nil (WX.then_normal ?_)
  refine WC.seq ?_
  refine WC.region ?_
  refine WL.y rfl (Yld.pure tab_ok rfl) ?_
  refine WL.nil (WX.then_normal ?_)
  refine WC.seq ?_
  obtain ⟨J1, H, hJ1⟩ := H
  refine WC.midF (fun L' w' => ∃ (l : List (List UInt8 × List UInt8)), ∃ (A_l : Option Addr), ∃ (c_l : Nat), ∃ (n_l : Nat), ∃ (n : Int), L' = [(4, .slice A_l n_l c_l), (5, .int .i64 n)] ∧ J1 l n ∧ n_l = l.length ∧ w.grownBy w' none ∧ OwnK 64 enc78 w' w.heap.size 78 A_l c_l l) ?_ (fun hQ => ?_)
  · clear H
    rintro _ w1 ⟨l, A_l, c_l, n_l, n, rfl, H, rfl, gr1, k1⟩
    replace H := hJ1 l n H
    refine WX.then_normal ?_
    refine WC.seq ?_
    refine WC.region ?_
    refine WL.y rfl (Yld.pure tab_ok rfl) ?_
    refine WL.y rfl (Yld.pure tab_ok rfl) ?_
    refine WL.y rfl (Yld.pure tab_ok rfl) ?_
    refine WL.y rfl (Yld.pure tab_ok rfl) ?_
    refine WL.nil (WX.then_normal ?_)
    refine WC.ret ?_
    exact WX.ret2 rfl rfl rfl ⟨gr1, l, A_l, c_l, n, rfl, k1, H⟩
  · clear hJ1
    refine WC.block ?_
    obtain ⟨I1, mu1, h0_1, HR1⟩ := H
    refine WC.loopF (fun n' L' w' => ∃ (l2 : List (List UInt8 × List UInt8)), ∃ (A_l2 : Option Addr), ∃ (c_l2 : Nat), ∃ (n_l2 : Nat), ∃ (n2 : Int), n' = mu1 l2 n2 ∧ L' = [(0, vs text), (4, .slice A_l2 n_l2 c_l2), (5, .int .i64 n2)] ∧ I1 l2 n2 ∧ n_l2 = l2.length ∧ w.grownBy w' none ∧ OwnK 64 enc78 w' w.heap.size 78 A_l2 c_l2 l2) _ _ ⟨[], none, 0, 0, (0 : Int), rfl, rfl, h0_1, rfl, (gr_refl _ _), (OwnK.nil enc78_ok w w.heap.size 78)⟩ (by repeat (first | exact Sub.nil | refine Sub.cons rfl ?_)) ?_
    clear h0_1
    rintro _ _ w2 ⟨l2, A_l2, c_l2, n_l2, n2, rfl, rfl, hI1, rfl, gr2, k2⟩
    have H := HR1 l2 n2 hI1
    refine WC.seq ?_
    refine WC.seq ?_
    refine WC.region ?_
    refine WL.y rfl (Yld.pure tab_ok rfl) ?_
    obtain ⟨h1, H⟩ := H
    refine WL.y rfl (Yld.add rfl rfl h1) ?_
    refine WL.y rfl (Yld.pure tab_ok rfl) ?_
    refine WL.y rfl (Yld.pure tab_ok rfl) ?_
    refine WL.y rfl (Yld.pure tab_ok rfl) ?_
    refine WL.nil (WX.then_normal ?_)
    refine WC.cond rfl (fun b1 => ?_) (fun b1 => ?_)
    · replace H := H.1 (of_decide_eq_true b1)
      refine WC.skip (WX.then_normal ?_)
      refine WC.block ?_
      refine WC.seq ?_
      refine WC.region ?_
      refine WL.y rfl (Yld.pure tab_ok rfl) ?_
      refine WL.y rfl (Yld.pure tab_ok rfl) ?_
      refine WL.y rfl (Yld.pure tab_ok rfl) ?_
      obtain ⟨h2, H⟩ := H
      refine WL.y rfl (Yld.add rfl rfl h2) ?_
      obtain ⟨h3, H⟩ := H
      refine WL.y rfl (Yld.scut tab_ok rfl rfl rfl rfl h3.1 h3.2.1 h3.2.2) ?_
      refine WL.call rfl rfl (W_cache_one (hG.grown gr2) hS12 H) ?_
      rintro _ w3 ⟨hg1, t190_Key, t190_Out, t191, rfl, H⟩
      have gr3 := gr_trans gr2 hg1
      have k3 := k2.grown hg1
      refine WL.y rfl (Yld.pure tab_ok rfl) ?_
      refine WL.y rfl (Yld.pure tab_ok rfl) ?_
      refine WL.y rfl (Yld.pure tab_ok rfl) ?_
      refine WL.alloc rfl zero78 (fun g1 w4 hB1 hg2 hl1 => ?_)
      have gr4 := gr_trans gr3 hg2
      have k4 := k3.grown hg2
      refine WL.storeW (vs := (a32 t190_Key ++ a32 t190_Out)) tab_ok rfl rfl rfl (all1a (a32_one _) (all1a (a32_one _) all1n)) hB1 rfl rfl (fun w5 hB2 hg3 => ?_)
      have gr5 := gr_mod gr4 hg3 (Ge.le (Ge.box hl1) (size_le gr3))
      have k5 := k4.go hg3 (Dj.new k3.lt' (Ge.box hl1))
      refine WL.y rfl (Yld.pure tab_ok rfl) ?_
      refine WL.nil (WX.then_normal ?_)
      refine WC.seq ?_
      refine WC.seq ?_
      refine WC.region ?_
      refine WL.y rfl (Yld.pure tab_ok rfl) ?_
      refine WL.y rfl (Yld.pure tab_ok rfl) ?_
      refine WL.nil (WX.then_normal ?_)
      refine WC.cond rfl (fun b2 => ?_) (fun b2 => ?_)
      · replace H := H.1 (b2)
        refine WC.exit (WX.then_exit (WX.block_other rfl (WX.then_exit (WX.block_same ?_))))
        exact WX.weaken (by repeat (first | exact Sub.nil | refine Sub.cons rfl ?_)) (hQ _ _ ⟨l2, A_l2, c_l2, l2.length, n2, rfl, H, rfl, gr5, k5⟩)
      · replace H := H.2 (b2)
        refine WC.skip (WX.then_normal ?_)
        refine WC.seq ?_
        refine WC.region ?_
        refine WL.y rfl (Yld.pure tab_ok rfl) ?_
        refine WL.y rfl (Yld.bagg (vs := (a32 t190_Key ++ a32 t190_Out)) tab_ok hB2 rfl rfl rfl rfl) ?_
        refine WL.litK (f := enc78) ([(t190_Key, t190_Out)] : List (List UInt8 × List UInt8)) enc78_ok rfl ow66 rfl rfl rfl (fun g2 w6 hB3 hg4 hl2 => ?_)
        have hO1 : OwnK 64 enc78 w6 w.heap.size 78 (some ⟨g2, 0, none⟩) 1 ([(t190_Key, t190_Out)] : List (List UInt8 × List UInt8)) := OwnK.ofBl enc78_ok hB3 (Nat.le_trans (size_le gr5) hl2) (by simp [maxLen]) rfl
        have gr6 := gr_trans gr5 hg4
        have k6 := k5.grown hg4
        obtain ⟨h4, H⟩ := H
        refine WL.appendK rfl ow66 k6 rfl rfl hO1.rd rfl rfl h4 (applen h4) (size_le gr6) (fun A_l3 c_l3 w7 hO2 hg5 hk1 => ?_)
        have gr7 := gr_mod gr6 hg5 k6.ge'
        refine WL.y rfl (Yld.pure tab_ok rfl) ?_
        refine WL.nil (WX.then_normal ?_)
        refine WC.region ?_
        refine WL.y rfl (Yld.pure tab_ok rfl) ?_
        obtain ⟨h5, H⟩ := H
        refine WL.y rfl (Yld.add rfl rfl h5) ?_
        refine WL.y rfl (Yld.pure tab_ok rfl) ?_
        refine WL.nil (WX.block_normal ?_)
        exact WX.roundF _ ⟨l2 ++ ([(t190_Key, t190_Out)] : List (List UInt8 × List UInt8)), A_l3, c_l3, (l2 ++ ([(t190_Key, t190_Out)] : List (List UInt8 × List UInt8))).length, n2 + (195 : Int), rfl, rfl, H.1, rfl, gr7, hO2⟩ (by repeat (first | exact Sub.nil | refine Sub.cons rfl ?_)) H.2
    · replace H := H.2 (of_decide_eq_false b1)
      refine WC.exit (WX.then_exit (WX.then_exit (WX.block_same ?_)))
      exact WX.weaken (by repeat (first | exact Sub.nil | refine Sub.cons rfl ?_)) (hQ _ _ ⟨l2, A_l2, c_l2, l2.length, n2, rfl, H, rfl, gr2, k2⟩)

set_option maxHeartbeats 8000000 in
theorem W_cache_Open {S : List Nat} {B : Nat} {w : World} {g_d : Nat} {g_d_files : Nat} {hs_d_files : List (List UInt8 × PH)} {d_files : List (List UInt8 × List UInt8 × Bool × List UInt8 × Bool × List (Int × List UInt8))} {d_ops : Int} {d_left : Int} {d_down : Bool} {p : List UInt8} {K0 : Er → (List (List UInt8 × List UInt8 × Bool × List UInt8 × Bool × List (Int × List UInt8))) → Int → Int → Bool → Prop} {K : (List UInt8) → (List (List UInt8 × List UInt8)) → Er → (List (List UInt8 × List UInt8 × Bool × List UInt8 × Bool × List (Int × List UInt8))) → Int → Int → Bool → Prop} (hG : GB S B w) (hB : B ≤ w.heap.size) (hP : AllP (fun p => Ge p B) ((some g_d) :: (FP g_d_files hs_d_files none))) (hS9 : 9 ∈ S) (hS11 : 11 ∈ S) (hS12 : 12 ∈ S) (hS15 : 15 ∈ S) (hS100 : 100 ∈ S) (hd_files : PoolO pe128 w g_d_files hs_d_files d_files none) (hd : Bl w g_d 124 [.map (some g_d_files), .int .i64 d_ops, .int .i64 d_left, .bool d_down]) (hdj0_1 : AllP (Dj (some g_d)) (FP g_d_files hs_d_files none)) (H : M_cache_Open d_files d_ops d_left d_down p K0 K) : Fn Tryd.prog 44 ⟨[.pointer (some ⟨g_d, 0, none⟩), vs p]⟩ w (fun v w' => GrL ((some g_d) :: (FP g_d_files hs_d_files none)) w w' ∧ ((∃ (v_r12 : Value), ∃ (r12 : Er), ∃ (hs_d_files2 : List (List UInt8 × PH)), ∃ (d_files2 : List (List UInt8 × List UInt8 × Bool × List UInt8 × Bool × List (Int × List UInt8))), ∃ (d_ops2 : Int), ∃ (d_left2 : Int), ∃ (d_down2 : Bool), v = .tuple #[.pointer none, v_r12] ∧ ErrR S w' v_r12 r12 ∧ Bl w' g_d 124 [.map (some g_d_files), .int .i64 d_ops2, .int .i64 d_left2, .bool d_down2] ∧ PoolO pe128 w' g_d_files hs_d_files2 d_files2 none ∧ AllP (InP ((some g_d) :: (FP g_d_files hs_d_files none)) w.heap.size) (FP g_d_files hs_d_files2 none) ∧ AllP (Dj (some g_d)) (FP g_d_files hs_d_files2 none) ∧ K0 r12 d_files2 d_ops2 d_left2 d_down2) ∨ (∃ (g_r0 : Nat), ∃ (r0_p : List UInt8), ∃ (g_r0_l : Nat), ∃ (r0_l : List (List UInt8 × List UInt8)), ∃ (v_r1 : Value), ∃ (r1 : Er), ∃ (hs_d_files2 : List (List UInt8 × PH)), ∃ (d_files2 : List (List UInt8 × List UInt8 × Bool × List UInt8 × Bool × List (Int × List UInt8))), ∃ (d_ops2 : Int), ∃ (d_left2 : Int), ∃ (d_down2 : Bool), v = .tuple #[.pointer (some ⟨g_r0, 0, none⟩), v_r1] ∧ ErrR S w' v_r1 r1 ∧ MapB vA okA vA w' g_r0_l r0_l ∧ Ge (some g_r0_l) w.heap.size ∧ Bl w' g_r0 155 [.pointer (some ⟨g_d, 0, none⟩), vs r0_p, .map (some g_r0_l)] ∧ Ge (some g_r0) w.heap.size ∧ Dj (some g_r0_l) (some g_r0) ∧ Bl w' g_d 124 [.map (some g_d_files), .int .i64 d_ops2, .int .i64 d_left2, .bool d_down2] ∧ PoolO pe128 w' g_d_files hs_d_files2 d_files2 none ∧ AllP (InP ((some g_d) :: (FP g_d_files hs_d_files none)) w.heap.size) (FP g_d_files hs_d_files2 none) ∧ AllP (Dj (some g_d)) (FP g_d_files hs_d_files2 none) ∧ Dj (some g_r0_l) (some g_d) ∧ AllP (Dj (some g_r0_l)) (FP g_d_files hs_d_files2 none) ∧ Dj (some g_r0) (some g_d) ∧ AllP (Dj (some g_r0)) (FP g_d_files hs_d_files2 none) ∧ K r0_p r0_l r1 d_files2 d_ops2 d_left2 d_down2))) := by
  unfold M_cache_Open at H
  refine Fn.enter (by kernel_rfl) Tryd.func44 rfl Tryd.ntmps44 rfl ?_
  have hNoAt : AllP (NoAt w) ((some g_d) :: (FP g_d_files hs_d_files none)) := (apC (NoAt.bl hd rfl) hd_files.noats)
  refine WC.seq ?_
  refine WC.region ?_
  refine WL.y rfl (Yld.pure tab_ok rfl) ?_
  refine WL.y rfl (Yld.pure tab_ok rfl) ?_
  refine WL.nil (WX.then_normal ?_)
  refine WC.seq ?_
  refine WC.region ?_
  refine WL.y rfl (Yld.pure tab_ok rfl) ?_
  refine WL.y rfl (Yld.pure tab_ok rfl) ?_
  refine WL.call rfl rfl (W_pdisk_Disk_Read hG (Nat.le_trans hB (Nat.le_refl _)) (apC (InP.toGe (InP.mem (List.Mem.head _)) hP hB) (InA.toGe (InA.mem (fun _ hp => List.Mem.tail _ (hp))) hP hB)) hS15 hd_files hd hdj0_1 H) ?_
  rintro _ w1 ⟨hgl1, t190, t191, v_t192, t192, hs_d_, d_, d_2, d_3, d_4, rfl, ht192, hB1, hM1, hi1, dj1, H⟩
  have gr1 : GrL ((some g_d) :: (FP g_d_files hs_d_files none)) w w1 := GrL.modL (GrL.refl _) hgl1 (apC (InP.mem (List.Mem.head _)) (InA.mem (fun _ hp => List.Mem.tail _ (hp))))
  refine WL.y rfl (Yld.pure tab_ok rfl) ?_
  refine WL.y rfl (Yld.pure tab_ok rfl) ?_
  refine WL.y rfl (Yld.pure tab_ok rfl) ?_
  refine WL.y rfl (Yld.pure tab_ok rfl) ?_
  refine WL.y rfl (Yld.pure tab_ok rfl) ?_
  refine WL.y rfl (Yld.pure tab_ok rfl) ?_
  refine WL.y rfl (Yld.pure tab_ok rfl) ?_
  refine WL.nil (WX.then_normal ?_)
  refine WC.seq ?_
  refine WC.seq ?_
  refine WC.region ?_
  refine WL.y rfl (Yld.pure tab_ok rfl) ?_
  refine WL.y rfl (Yld.errneq Tryd.underlying29 ht192 rfl) ?_
  refine WL.nil (WX.then_normal ?_)
  refine WC.cond rfl (fun b1 => ?_) (fun b1 => ?_)
  · replace H := H.1 (nd_true b1)
    refine WC.seq ?_
    refine WC.region ?_
    refine WL.y rfl (Yld.pure tab_ok rfl) ?_
    refine WL.y rfl (Yld.pure tab_ok rfl) ?_
    refine WL.y rfl (Yld.pure tab_ok rfl) ?_
    refine WL.nil (WX.then_normal ?_)
    refine WC.ret (WX.then_ret ?_)
    exact WX.ret2 rfl rfl rfl ⟨gr1, Or.inl ⟨v_t192, t192, hs_d_, d_, d_2, d_3, d_4, rfl, ht192, hB1, hM1, (InA.trans hi1 (apC (InP.mem (List.Mem.head _)) (InA.mem (fun _ hp => List.Mem.tail _ (hp)))) (Nat.le_refl _)), dj1, H⟩⟩
  · replace H := H.2 (nd_false b1)
    refine WC.skip (WX.then_normal ?_)
    refine WC.seq ?_
    refine WC.region ?_
    refine WL.y rfl (Yld.pure tab_ok rfl) ?_
    refine WL.call rfl rfl (W_cache_Read (hG.goL gr1 hP).ok hS12 H) ?_
    rintro _ w2 ⟨hg1, t280, A_t280, c_t280, t281, rfl, ht280, H⟩
    have hb1 := ht280.ge'
    have k1 := ht280.base (fun g hg => Nat.le_trans (GrL.sizeL gr1) (hb1 g hg))
    have gr2 := GrL.add0 gr1 hg1
    have k2 := hM1.g0 hg1
    have k3 := hB1.g0 hg1
    refine WL.y rfl (Yld.pure tab_ok rfl) ?_
    refine WL.y rfl (Yld.pure tab_ok rfl) ?_
    refine WL.y rfl (Yld.pure tab_ok rfl) ?_
    refine WL.y rfl (Yld.pure tab_ok rfl) ?_
    refine WL.y rfl (Yld.pure tab_ok rfl) ?_
    refine WL.nil (WX.then_normal ?_)
    refine WC.seq ?_
    obtain ⟨J1, H, hJ1⟩ := H
    refine WC.midF (fun L' w' => ∃ (d0 : List (List UInt8 × List UInt8 × Bool × List UInt8 × Bool × List (Int × List UInt8))), ∃ (hs_d0 : List (List UInt8 × PH)), ∃ (d1 : Int), ∃ (d2 : Int), ∃ (d3 : Bool), L' = [(0, .pointer (some ⟨g_d, 0, none⟩)), (1, vs p), (9, .slice A_t280 t280.length c_t280)] ∧ J1 d0 d1 d2 d3 ∧ GrL ((some g_d) :: (FP g_d_files hs_d_files none)) w w' ∧ Bl w' g_d 124 [.map (some g_d_files), .int .i64 d1, .int .i64 d2, .bool d3] ∧ OwnK 64 enc78 w' w.heap.size 78 A_t280 c_t280 t280 ∧ PoolO pe128 w' g_d_files hs_d0 d0 none ∧ Dj (some g_d) (blk A_t280) ∧ AllP (Dj (some g_d)) (FP g_d_files hs_d0 none) ∧ AllP (Dj (blk A_t280)) (FP g_d_files hs_d0 none) ∧ AllP (InP ((some g_d) :: (FP g_d_files hs_d_files none)) w.heap.size) (FP g_d_files hs_d0 none)) ?_ (fun hQ => ?_)
    · clear H
      rintro _ w3 ⟨d0, hs_d0, d1, d2, d3, rfl, H, gr3, k4, k5, k6, dj2, dj3, dj4, hi2⟩
      replace H := hJ1 d0 d1 d2 d3 H
      refine WX.then_normal ?_
      refine WC.seq ?_
      refine WC.region ?_
      refine WL.y rfl (Yld.pure tab_ok rfl) ?_
      refine WL.y rfl (Yld.pure tab_ok rfl) ?_
      refine WL.putw wants_none rfl (Eff.makeMap vA okA vA) ?_
      rintro _ w4 ⟨rfl, hB2, hg2⟩
      obtain ⟨g_t52, hl1⟩ : ∃ g, g = w3.heap.size := ⟨_, rfl⟩
      rw [← hl1] at hB2
      rw [← hl1]
      have gr4 := GrL.add0 gr3 hg2
      have k7 := k4.g0 hg2
      have k8 := k5.grown hg2
      have k9 := k6.g0 hg2
      refine WL.y rfl (Yld.struct (us := [.pointer (some ⟨g_d, 0, none⟩), vs p, .map (some g_t52)]) zero155 places155 rfl rfl) ?_
      refine WL.box (us := [.pointer (some ⟨g_d, 0, none⟩), vs p, .map (some g_t52)]) rfl rfl rfl (fun g1 w5 hB3 hg3 hl2 => ?_)
      have gr5 := GrL.add0 gr4 hg3
      have k10 := k7.g0 hg3
      have k11 := k8.grown hg3
      have k12 := k9.g0 hg3
      have k13 := hB2.g0 hg3
      refine WL.y rfl (Yld.pure tab_ok rfl) ?_
      refine WL.nil (WX.then_normal ?_)
      refine WC.seq ?_
      refine WC.seq ?_
      refine WC.region ?_
      refine WL.y rfl (Yld.pure tab_ok rfl) ?_
      refine WL.y rfl (Yld.pure tab_ok rfl) ?_
      refine WL.y rfl (Yld.pure tab_ok rfl) ?_
      refine WL.nil (WX.then_normal ?_)
      refine WC.block ?_
      obtain ⟨I1, mu1, h0_1, HR1⟩ := H
      refine WC.loopF (fun n' L' w' => ∃ (t57 : Int), ∃ (t542 : List (List UInt8 × List UInt8)), n' = mu1 t57 t542 ∧ L' = [(13, .pointer (some ⟨g1, 0, none⟩)), (55, .slice A_t280 t280.length c_t280), (56, .int .i64 (t280.length : Int)), (57, .int .i64 t57)] ∧ I1 t57 t542 ∧ GrL ((some g_d) :: (FP g_d_files hs_d_files none)) w w' ∧ Bl w' g_d 124 [.map (some g_d_files), .int .i64 d1, .int .i64 d2, .bool d3] ∧ OwnK 64 enc78 w' w.heap.size 78 A_t280 c_t280 t280 ∧ PoolO pe128 w' g_d_files hs_d0 d0 none ∧ Bl w' g1 155 [.pointer (some ⟨g_d, 0, none⟩), vs p, .map (some g_t52)] ∧ MapB vA okA vA w' g_t52 t542 ∧ Dj (some g_d) (blk A_t280) ∧ AllP (Dj (some g_d)) (FP g_d_files hs_d0 none) ∧ Dj (some g_d) (some g1) ∧ Dj (some g_d) (some g_t52) ∧ AllP (Dj (blk A_t280)) (FP g_d_files hs_d0 none) ∧ Dj (blk A_t280) (some g1) ∧ Dj (blk A_t280) (some g_t52) ∧ AllP (Dj (some g1)) (FP g_d_files hs_d0 none) ∧ AllP (Dj (some g_t52)) (FP g_d_files hs_d0 none) ∧ Dj (some g1) (some g_t52) ∧ AllP (InP ((some g_d) :: (FP g_d_files hs_d_files none)) w.heap.size) (FP g_d_files hs_d0 none)) _ _ ⟨(0 : Int), ([] : List (List UInt8 × List UInt8)), rfl, rfl, h0_1, gr5, k10, k11, k12, hB3, k13, dj2, dj3, (Dj.new k7.lt' (Ge.box hl2)), (Dj.new k4.lt' (Ge.box (Nat.le_of_eq hl1.symm))), dj4, (Dj.new k8.lt' (Ge.box hl2)), (Dj.new k5.lt' (Ge.box (Nat.le_of_eq hl1.symm))), (k9.new (Ge.box hl2)), (k6.new (Ge.box (Nat.le_of_eq hl1.symm))), (Dj.new hB2.lt' (Ge.box hl2)).symm, hi2⟩ (by repeat (first | exact Sub.nil | refine Sub.cons rfl ?_)) ?_
      clear h0_1
      rintro _ _ w6 ⟨t57, t542, rfl, rfl, hI1, gr6, k14, k15, k16, k17, k18, dj5, dj6, dj7, dj8, dj9, dj10, dj11, dj12, dj13, dj14, hi3⟩
      have H := HR1 t57 t542 hI1
      refine WC.seq ?_
      refine WC.region ?_
      refine WL.y rfl (Yld.pure tab_ok rfl) ?_
      refine WL.nil (WX.then_normal ?_)
      refine WC.seq ?_
      refine WC.cond rfl (fun b2 => ?_) (fun b2 => ?_)
      · replace H := H.1 (of_decide_eq_true b2)
        refine WC.skip (WX.then_normal ?_)
        refine WC.seq ?_
        refine WC.block ?_
        refine WC.seq ?_
        refine WC.region ?_
        obtain ⟨h1, H⟩ := H
        refine WL.y rfl (Yld.iaddrK tab_ok k15.rd rfl rfl rfl rfl h1.1 h1.2) ?_
        refine WL.y rfl (Yld.iloadK ([], []) tab_ok k15.rd rfl rfl (iltN h1 rfl)) ?_
        refine WL.alloc rfl zero78 (fun g2 w7 hB4 hg4 hl3 => ?_)
        have gr7 := GrL.add0 gr6 hg4
        have k19 := k14.g0 hg4
        have k20 := k15.grown hg4
        have k21 := k16.g0 hg4
        have k22 := k17.g0 hg4
        have k23 := k18.g0 hg4
        refine WL.storeW (vs := (a32 ((t280.getD t57.toNat ([], [])).1) ++ a32 ((t280.getD t57.toNat ([], [])).2))) tab_ok rfl rfl rfl (all1a (a32_one _) (all1a (a32_one _) all1n)) hB4 rfl rfl (fun w8 hB5 hg5 => ?_)
        have gr8 : GrL ((some g_d) :: (FP g_d_files hs_d_files none)) w w8 := GrL.mod gr7 hg5 (InP.ge (Ge.le (Ge.box hl3) (GrL.sizeL gr6)))
        have k24 := k19.go hg5 (Dj.new k14.lt' (Ge.box hl3))
        have k25 := k20.go hg5 (Dj.new k15.lt' (Ge.box hl3))
        have k26 := k21.go hg5 (k16.new (Ge.box hl3))
        have k27 := k22.go hg5 (Dj.new k17.lt' (Ge.box hl3))
        have k28 := k23.go hg5 (Dj.new k18.lt' (Ge.box hl3))
        refine WL.nil (WX.then_normal ?_)
        refine WC.chainF (fun k => !(Nat.beq k 8)) (LD [3, 5, 7] (fun w' => Bl w' g1 155 [.pointer (some ⟨g_d, 0, none⟩), vs p, .map (some g_t52)] ∧ Bl w' g2 78 (a32 ((t280.getD t57.toNat ([], [])).1) ++ a32 ((t280.getD t57.toNat ([], [])).2)))) mixed (by kernel_rfl) (fun k w' h _ => ⟨(bl_eqv h k27), (bl_eqv h hB5)⟩) ?_
        refine WJ.y rfl rfl (fun w' hw' => Yld.pure tab_ok rfl) ?_
        refine WJ.y rfl rfl (fun w' hw' => Yld.pure tab_ok rfl) ?_
        refine WJ.y rfl rfl (fun w' hw' => Yld.pure tab_ok rfl) ?_
        refine WJ.y rfl rfl (fun w' hw' => Yld.bload tab_ok (hw' rfl).1 rfl rfl rfl) ?_
        refine WJ.y rfl rfl (fun w' hw' => Yld.pure tab_ok rfl) ?_
        refine WJ.y rfl rfl (fun w' hw' => Yld.bagg (vs := (a32 ((t280.getD t57.toNat ([], [])).1))) tab_ok (hw' rfl).2 rfl rfl rfl rfl) ?_
        refine WJ.y rfl rfl (fun w' hw' => Yld.pure tab_ok rfl) ?_
        refine WJ.y rfl rfl (fun w' hw' => Yld.bagg (vs := (a32 ((t280.getD t57.toNat ([], [])).2))) tab_ok (hw' rfl).2 rfl rfl rfl rfl) ?_
        obtain ⟨h2, H⟩ := H
        refine WJ.eff rfl (Ef0.mapPut keyF_a Tryd.underlying153 k28 h2.2 rfl rfl h2.1 rfl) (fun w' h => DD.keep (⟨(Bl.go k27 (gr_eqv h.2 (Eqv.refl _)) dj14), (Bl.go hB5 (gr_eqv h.2 (Eqv.refl _)) (Dj.new k18.lt' (Ge.box hl3)).symm)⟩)) ?_
        rintro w9 ⟨hB6, hg6⟩
        have gr9 : GrL ((some g_d) :: (FP g_d_files hs_d_files none)) w w9 := GrL.mod gr8 hg6 (InP.ge (Ge.le (Ge.box (Nat.le_of_eq hl1.symm)) (GrL.sizeL gr3)))
        have k29 := k24.go hg6 dj8
        have k30 := k25.go hg6 dj11
        have k31 := k26.go hg6 dj13
        have k32 := k27.go hg6 dj14
        have k33 := hB5.go hg6 ((Dj.new k18.lt' (Ge.box hl3)).symm)
        refine WJ.nil (WX.block_normal (WX.then_normal ?_))
        refine WC.region ?_
        obtain ⟨h3, H⟩ := H
        refine WL.y rfl (Yld.add rfl rfl h3) ?_
        refine WL.y rfl (Yld.pure tab_ok rfl) ?_
        refine WL.nil ?_
        exact WX.roundF _ ⟨t57 + (1 : Int), mput t542 ((t280.getD t57.toNat ([], [])).1) ((t280.getD t57.toNat ([], [])).2), rfl, rfl, H.1, gr9, k29, k30, k31, k32, hB6, dj5, dj6, dj7, dj8, dj9, dj10, dj11, dj12, dj13, dj14, hi3⟩ (by repeat (first | exact Sub.nil | refine Sub.cons rfl ?_)) H.2
      · replace H := H.2 (of_decide_eq_false b2)
        refine WC.exit (WX.then_exit (WX.then_exit (WX.block_same (WX.then_normal ?_))))
        refine WC.seq ?_
        refine WC.region ?_
        refine WL.y rfl (Yld.pure tab_ok rfl) ?_
        refine WL.y rfl (Yld.pure tab_ok rfl) ?_
        refine WL.y rfl (Yld.pure tab_ok rfl) ?_
        refine WL.nil (WX.then_normal ?_)
        refine WC.ret ?_
        exact WX.ret2 rfl rfl rfl ⟨gr6, Or.inr ⟨g1, p, g_t52, t542, .nilIface, Er.ok, hs_d0, d0, d1, d2, d3, rfl, (ErrR.okR (S := S) (w := w6)), k18, (Ge.le (Ge.box (Nat.le_of_eq hl1.symm)) (GrL.sizeL gr3)), k17, (Ge.le (Ge.box hl2) (GrL.sizeL gr4)), dj14.symm, k14, k16, hi3, dj6, dj8.symm, dj13, dj7.symm, dj12, H⟩⟩
    · clear hJ1
      refine WC.seq ?_
      refine WC.region ?_
      refine WL.y rfl (Yld.pure tab_ok rfl) ?_
      refine WL.y rfl (Yld.pure tab_ok rfl) ?_
      refine WL.y rfl (Yld.pure tab_ok rfl) ?_
      refine WL.y rfl (Yld.pure tab_ok rfl) ?_
      refine WL.nil (WX.then_normal ?_)
      refine WC.cond rfl (fun b3 => ?_) (fun b3 => ?_)
      · replace H := H.1 (of_decide_eq_true b3)
        refine WC.seq ?_
        refine WC.seq ?_
        refine WC.region ?_
        refine WL.y rfl (Yld.pure tab_ok rfl) ?_
        refine WL.y rfl (Yld.pure tab_ok rfl) ?_
        refine WL.y rfl (Yld.pure tab_ok rfl) ?_
        refine WL.y rfl (Yld.pure tab_ok rfl) ?_
        obtain ⟨h4, H⟩ := H
        refine WL.y rfl (Yld.scut tab_ok rfl rfl rfl rfl (Int.le_refl 0) h4.1 h4.2) ?_
        refine WL.call rfl rfl (W_pdisk_Disk_Write (hG.goL gr2 hP) (Nat.le_trans hB (GrL.sizeL gr2)) (apC (InP.toGe (InP.mem (List.Mem.head _)) hP hB) (InA.toGe (InA.trans hi1 (apC (InP.mem (List.Mem.head _)) (InA.mem (fun _ hp => List.Mem.tail _ (hp)))) (Nat.le_refl _)) hP hB)) hS9 hS11 hS15 hS100 k2 k3 dj1 H) ?_
        rintro v_err w10 ⟨hgl2, _, err, hs_d_2, d_5, d_6, d_7, d_8, rfl, herr, hB7, hM2, hi4, dj15, H⟩
        have gr10 : GrL ((some g_d) :: (FP g_d_files hs_d_files none)) w w10 := GrL.modL gr2 hgl2 (apC (InP.mem (List.Mem.head _)) (InA.trans hi1 (apC (InP.mem (List.Mem.head _)) (InA.mem (fun _ hp => List.Mem.tail _ (hp)))) (Nat.le_refl _)))
        have k34 := k1.goL hgl2 (apC (Dj.new hB1.lt' hb1).symm (hM1.new hb1))
        refine WL.y rfl (Yld.pure tab_ok rfl) ?_
        refine WL.nil (WX.then_normal ?_)
        refine WC.seq ?_
        refine WC.region ?_
        refine WL.y rfl (Yld.pure tab_ok rfl) ?_
        refine WL.y rfl (Yld.errneq Tryd.underlying29 herr rfl) ?_
        refine WL.nil (WX.then_normal ?_)
        refine WC.cond rfl (fun b4 => ?_) (fun b4 => ?_)
        · replace H := H.1 (nd_true b4)
          refine WC.seq ?_
          refine WC.region ?_
          refine WL.y rfl (Yld.pure tab_ok rfl) ?_
          refine WL.y rfl (Yld.pure tab_ok rfl) ?_
          refine WL.y rfl (Yld.pure tab_ok rfl) ?_
          refine WL.nil (WX.then_normal ?_)
          refine WC.ret (WX.then_ret (WX.then_ret ?_))
          exact WX.ret2 rfl rfl rfl ⟨gr10, Or.inl ⟨v_err, err, hs_d_2, d_5, d_6, d_7, d_8, rfl, herr, hB7, hM2, (InA.trans hi4 (apC (InP.mem (List.Mem.head _)) (InA.trans hi1 (apC (InP.mem (List.Mem.head _)) (InA.mem (fun _ hp => List.Mem.tail _ (hp)))) (Nat.le_refl _))) (GrL.sizeL gr2)), dj15, H⟩⟩
        · replace H := H.2 (nd_false b4)
          refine WC.skip (WX.then_normal ?_)
          refine WC.seq ?_
          refine WC.region ?_
          refine WL.y rfl (Yld.pure tab_ok rfl) ?_
          refine WL.y rfl (Yld.pure tab_ok rfl) ?_
          refine WL.call rfl rfl (W_pdisk_Disk_Sync (hG.goL gr10 hP) (Nat.le_trans hB (GrL.sizeL gr10)) (apC (InP.toGe (InP.mem (List.Mem.head _)) hP hB) (InA.toGe (InA.trans hi4 (apC (InP.mem (List.Mem.head _)) (InA.trans hi1 (apC (InP.mem (List.Mem.head _)) (InA.mem (fun _ hp => List.Mem.tail _ (hp)))) (Nat.le_refl _))) (GrL.sizeL gr2)) hP hB)) hS11 hS15 hS100 hM2 hB7 dj15 H) ?_
          rintro v_err2 w11 ⟨hgl3, _, err2, hs_d_3, d_9, d_10, d_11, d_12, rfl, herr2, hB8, hM3, hi5, dj16, H⟩
          have gr11 : GrL ((some g_d) :: (FP g_d_files hs_d_files none)) w w11 := GrL.modL gr10 hgl3 (apC (InP.mem (List.Mem.head _)) (InA.trans hi4 (apC (InP.mem (List.Mem.head _)) (InA.trans hi1 (apC (InP.mem (List.Mem.head _)) (InA.mem (fun _ hp => List.Mem.tail _ (hp)))) (Nat.le_refl _))) (GrL.sizeL gr2)))
          have k35 := k34.goL hgl3 (apC (Dj.new hB1.lt' hb1).symm (InA.dj hi4 k1.lt' (apC (Dj.new hB1.lt' hb1).symm (hM1.new hb1))))
          refine WL.y rfl (Yld.pure tab_ok rfl) ?_
          refine WL.nil (WX.then_normal ?_)
          refine WC.seq ?_
          refine WC.region ?_
          refine WL.y rfl (Yld.pure tab_ok rfl) ?_
          refine WL.y rfl (Yld.errneq Tryd.underlying29 herr2 rfl) ?_
          refine WL.nil (WX.then_normal ?_)
          refine WC.cond rfl (fun b5 => ?_) (fun b5 => ?_)
          · replace H := H.1 (nd_true b5)
            refine WC.seq ?_
            refine WC.region ?_
            refine WL.y rfl (Yld.pure tab_ok rfl) ?_
            refine WL.y rfl (Yld.pure tab_ok rfl) ?_
            refine WL.y rfl (Yld.pure tab_ok rfl) ?_
            refine WL.nil (WX.then_normal ?_)
            refine WC.ret (WX.then_ret ?_)
            exact WX.ret2 rfl rfl rfl ⟨gr11, Or.inl ⟨v_err2, err2, hs_d_3, d_9, d_10, d_11, d_12, rfl, herr2, hB8, hM3, (InA.trans hi5 (apC (InP.mem (List.Mem.head _)) (InA.trans hi4 (apC (InP.mem (List.Mem.head _)) (InA.trans hi1 (apC (InP.mem (List.Mem.head _)) (InA.mem (fun _ hp => List.Mem.tail _ (hp)))) (Nat.le_refl _))) (GrL.sizeL gr2))) (GrL.sizeL gr10)), dj16, H⟩⟩
          · replace H := H.2 (nd_false b5)
            refine WC.skip ?_
            exact WX.weaken (by repeat (first | exact Sub.nil | refine Sub.cons rfl ?_)) (hQ _ _ ⟨d_9, hs_d_3, d_10, d_11, d_12, rfl, H, gr11, hB8, k35, hM3, (Dj.new hB1.lt' hb1), dj16, (InA.dj hi5 k34.lt' (apC (Dj.new hB1.lt' hb1).symm (InA.dj hi4 k1.lt' (apC (Dj.new hB1.lt' hb1).symm (hM1.new hb1))))), (InA.trans hi5 (apC (InP.mem (List.Mem.head _)) (InA.trans hi4 (apC (InP.mem (List.Mem.head _)) (InA.trans hi1 (apC (InP.mem (List.Mem.head _)) (InA.mem (fun _ hp => List.Mem.tail _ (hp)))) (Nat.le_refl _))) (GrL.sizeL gr2))) (GrL.sizeL gr10))⟩)
      · replace H := H.2 (of_decide_eq_false b3)
        refine WC.skip ?_
        exact WX.weaken (by repeat (first | exact Sub.nil | refine Sub.cons rfl ?_)) (hQ _ _ ⟨d_, hs_d_, d_2, d_3, d_4, rfl, H, gr2, k3, k1, k2, (Dj.new hB1.lt' hb1), dj1, (hM1.new hb1), (InA.trans hi1 (apC (InP.mem (List.Mem.head _)) (InA.mem (fun _ hp => List.Mem.tail _ (hp)))) (Nat.le_refl _))⟩)

set_option maxHeartbeats 8000000 in
theorem W_pcache_Cache_Put {S : List Nat} {B : Nat} {w : World} {g_c : Nat} {g_c_d : Nat} {g_c_d_files : Nat} {hs_c_d_files : List (List UInt8 × PH)} {c_d_files : List (List UInt8 × List UInt8 × Bool × List UInt8 × Bool × List (Int × List UInt8))} {c_d_ops : Int} {c_d_left : Int} {c_d_down : Bool} {c_p : List UInt8} {g_c_l : Nat} {c_l : List (List UInt8 × List UInt8)} {k : List UInt8} {out : List UInt8} {K : Er → (List UInt8) → (List (List UInt8 × List UInt8)) → (List (List UInt8 × List UInt8 × Bool × List UInt8 × Bool × List (Int × List UInt8))) → Int → Int → Bool → Prop} (hG : GB S B w) (hB : B ≤ w.heap.size) (hP : AllP (fun p => Ge p B) ((some g_c) :: (some g_c_l) :: (some g_c_d) :: (FP g_c_d_files hs_c_d_files none))) (hS9 : 9 ∈ S) (hS11 : 11 ∈ S) (hS15 : 15 ∈ S) (hS100 : 100 ∈ S) (hc_d_files : PoolO pe128 w g_c_d_files hs_c_d_files c_d_files none) (hc_d : Bl w g_c_d 124 [.map (some g_c_d_files), .int .i64 c_d_ops, .int .i64 c_d_left, .bool c_d_down]) (hc_l : MapB vA okA vA w g_c_l c_l) (hc : Bl w g_c 155 [.pointer (some ⟨g_c_d, 0, none⟩), vs c_p, .map (some g_c_l)]) (hdj0_1 : Dj (some g_c) (some g_c_l)) (hdj0_2 : Dj (some g_c) (some g_c_d)) (hdj0_3 : AllP (Dj (some g_c)) (FP g_c_d_files hs_c_d_files none)) (hdj1_2 : Dj (some g_c_l) (some g_c_d)) (hdj1_3 : AllP (Dj (some g_c_l)) (FP g_c_d_files hs_c_d_files none)) (hdj2_3 : AllP (Dj (some g_c_d)) (FP g_c_d_files hs_c_d_files none)) (H : M_pcache_Cache_Put c_d_files c_d_ops c_d_left c_d_down c_p c_l k out K) : Fn Tryd.prog 45 ⟨[.pointer (some ⟨g_c, 0, none⟩), .agg ⟨a32 k⟩, .agg ⟨a32 out⟩]⟩ w (fun v w' => GrL ((some g_c) :: (some g_c_l) :: (some g_c_d) :: (FP g_c_d_files hs_c_d_files none)) w w' ∧ ∃ (v_r : Value), ∃ (r : Er), ∃ (c_p2 : List UInt8), ∃ (c_l2 : List (List UInt8 × List UInt8)), ∃ (hs_c_d_files2 : List (List UInt8 × PH)), ∃ (c_d_files2 : List (List UInt8 × List UInt8 × Bool × List UInt8 × Bool × List (Int × List UInt8))), ∃ (c_d_ops2 : Int), ∃ (c_d_left2 : Int), ∃ (c_d_down2 : Bool), v = v_r ∧ ErrR S w' v_r r ∧ Bl w' g_c 155 [.pointer (some ⟨g_c_d, 0, none⟩), vs c_p2, .map (some g_c_l)] ∧ MapB vA okA vA w' g_c_l c_l2 ∧ Bl w' g_c_d 124 [.map (some g_c_d_files), .int .i64 c_d_ops2, .int .i64 c_d_left2, .bool c_d_down2] ∧ PoolO pe128 w' g_c_d_files hs_c_d_files2 c_d_files2 none ∧ AllP (InP ((some g_c) :: (some g_c_l) :: (some g_c_d) :: (FP g_c_d_files hs_c_d_files none)) w.heap.size) (FP g_c_d_files hs_c_d_files2 none) ∧ Dj (some g_c) (some g_c_l) ∧ Dj (some g_c) (some g_c_d) ∧ AllP (Dj (some g_c)) (FP g_c_d_files hs_c_d_files2 none) ∧ Dj (some g_c_l) (some g_c_d) ∧ AllP (Dj (some g_c_l)) (FP g_c_d_files hs_c_d_files2 none) ∧ AllP (Dj (some g_c_d)) (FP g_c_d_files hs_c_d_files2 none) ∧ K r c_p2 c_l2 c_d_files2 c_d_ops2 c_d_left2 c_d_down2) := by
  unfold M_pcache_Cache_Put at H
  refine Fn.enter (by kernel_rfl) Tryd.func45 rfl Tryd.ntmps45 rfl ?_
  have hNoAt : AllP (NoAt w) ((some g_c) :: (some g_c_l) :: (some g_c_d) :: (FP g_c_d_files hs_c_d_files none)) := (apC (NoAt.bl hc rfl) (apC (NoAt.map hc_l) (apC (NoAt.bl hc_d rfl) hc_d_files.noats)))
  refine WC.seq ?_
  refine WC.region ?_
  refine WL.box (us := (a32 k)) rfl rfl rfl (fun g1 w1 hB1 hg1 hl1 => ?_)
  have gr1 := (GrL.of0 (ps := ((some g_c) :: (some g_c_l) :: (some g_c_d) :: (FP g_c_d_files hs_c_d_files none))) hg1)
  have k1 := hc_d_files.g0 hg1
  have k2 := hc_d.g0 hg1
  have k3 := hc_l.g0 hg1
  have k4 := hc.g0 hg1
  refine WL.box (us := (a32 out)) rfl rfl rfl (fun g2 w2 hB2 hg2 hl2 => ?_)
  have gr2 := GrL.add0 gr1 hg2
  have k5 := k1.g0 hg2
  have k6 := k2.g0 hg2
  have k7 := k3.g0 hg2
  have k8 := k4.g0 hg2
  have k9 := hB1.g0 hg2
  refine WL.y rfl (Yld.pure tab_ok rfl) ?_
  refine WL.nil (WX.then_normal ?_)
  refine WC.seq ?_
  refine WC.seq ?_
  refine WC.chainF (fun k => !(Nat.beq k 9 || Nat.beq k 10)) (LD [3, 4, 5] (fun w' => Bl w' g_c 155 [.pointer (some ⟨g_c_d, 0, none⟩), vs c_p, .map (some g_c_l)] ∧ Bl w' g1 74 (a32 k) ∧ MapB vA okA vA w' g_c_l c_l)) mixed (by kernel_rfl) (fun k w' h _ => ⟨(bl_eqv h k8), (bl_eqv h k9), (MapB.eqv h k7)⟩) ?_
  refine WJ.y rfl rfl (fun w' hw' => Yld.pure tab_ok rfl) ?_
  refine WJ.y rfl rfl (fun w' hw' => Yld.pure tab_ok rfl) ?_
  refine WJ.y rfl rfl (fun w' hw' => Yld.pure tab_ok rfl) ?_
  refine WJ.y rfl rfl (fun w' hw' => Yld.bload tab_ok (hw' rfl).1 rfl rfl rfl) ?_
  refine WJ.y rfl rfl (fun w' hw' => Yld.bagg (vs := (a32 k)) tab_ok (hw' rfl).2.1 rfl rfl rfl rfl) ?_
  obtain ⟨h1, H⟩ := H
  refine WJ.y rfl rfl (fun w' hw' => Yld.lookOk (z := (List.replicate 32 0)) keyF_a Tryd.underlying153 (fun _ => by kernel_rfl) (hw' rfl).2.2 rfl rfl h1) ?_
  refine WJ.y rfl rfl (fun w' hw' => Yld.pure tab_ok rfl) ?_
  refine WJ.y rfl rfl (fun w' hw' => Yld.pure tab_ok rfl) ?_
  refine WJ.y rfl rfl (fun w' hw' => Yld.pure tab_ok rfl) ?_
  refine WJ.putw rfl wants_none rfl (Eff.alloc zero74) (fun v w' h => DD.keep (⟨(Bl.g0 k8 (gr_eqv h.2.2 (Eqv.refl _))), (Bl.g0 k9 (gr_eqv h.2.2 (Eqv.refl _))), (MapB.g0 k7 (gr_eqv h.2.2 (Eqv.refl _)))⟩)) ?_
  rintro _ w3 ⟨rfl, hB3, hg3⟩
  have gr3 := GrL.add0 gr2 hg3
  have k10 := k5.g0 hg3
  have k11 := k6.g0 hg3
  have k12 := k7.g0 hg3
  have k13 := k8.g0 hg3
  have k14 := k9.g0 hg3
  have k15 := hB2.g0 hg3
  refine WJ.eff rfl (Ef0.storeW (vs := (a32 ((mget c_l k).getD (List.replicate 32 0)))) tab_ok rfl rfl rfl (all1a (a32_one _) all1n) hB3 rfl rfl) (fun w' h => DD.keep (⟨(Bl.go k13 (gr_eqv h.2 (Eqv.refl _)) (Dj.new k8.lt' (Ge.box (Nat.le_refl _)))), (Bl.go k14 (gr_eqv h.2 (Eqv.refl _)) (Dj.new k9.lt' (Ge.box (Nat.le_refl _)))), (MapB.go k12 (gr_eqv h.2 (Eqv.refl _)) (Dj.new k7.lt' (Ge.box (Nat.le_refl _))))⟩)) ?_
  rintro w4 ⟨hB4, hg4⟩
  have gr4 : GrL ((some g_c) :: (some g_c_l) :: (some g_c_d) :: (FP g_c_d_files hs_c_d_files none)) w w4 := GrL.mod gr3 hg4 (InP.ge (Ge.le (Ge.box (Nat.le_refl _)) (GrL.sizeL gr2)))
  have k16 := k10.go hg4 (k5.new (Ge.box (Nat.le_refl _)))
  have k17 := k11.go hg4 (Dj.new k6.lt' (Ge.box (Nat.le_refl _)))
  have k18 := k12.go hg4 (Dj.new k7.lt' (Ge.box (Nat.le_refl _)))
  have k19 := k13.go hg4 (Dj.new k8.lt' (Ge.box (Nat.le_refl _)))
  have k20 := k14.go hg4 (Dj.new k9.lt' (Ge.box (Nat.le_refl _)))
  have k21 := k15.go hg4 (Dj.new hB2.lt' (Ge.box (Nat.le_refl _)))
  refine WJ.y rfl rfl (fun w' hw' => Yld.pure tab_ok rfl) ?_
  refine WJ.nil (WX.then_normal ?_)
  refine WC.seq ?_
  refine WC.region ?_
  refine WL.y rfl (Yld.pure tab_ok rfl) ?_
  refine WL.y rfl (Yld.pure tab_ok rfl) ?_
  obtain ⟨h2, H⟩ := H
  refine WL.midF 4 (fun L' w' => ∃ q1 : Bool, L' = [(24, .bool q1), (0, .pointer (some ⟨g_c, 0, none⟩)), (4, .pointer (some ⟨g1, 0, none⟩)), (5, .pointer (some ⟨g2, 0, none⟩))] ∧ (((mget c_l k).isSome) && (decide (((mget c_l k).getD (List.replicate 32 0)) = out))) = q1 ∧ w4 = w') ?_ (fun hQ => ?_)
  · rintro _ _ ⟨q1, rfl, rfl, rfl⟩
    refine WL.nil (WX.then_normal ?_)
    refine WC.cond rfl (fun b1 => ?_) (fun b1 => ?_)
    · replace H := H.1 (b1)
      refine WC.seq ?_
      refine WC.region ?_
      refine WL.y rfl (Yld.pure tab_ok rfl) ?_
      refine WL.nil (WX.then_normal ?_)
      refine WC.ret (WX.then_ret ?_)
      exact WX.ret1 rfl rfl ⟨gr4, .nilIface, Er.ok, c_p, c_l, hs_c_d_files, c_d_files, c_d_ops, c_d_left, c_d_down, rfl, (ErrR.okR (S := S) (w := w4)), k19, k18, k17, k16, (InA.mem (fun _ hp => List.Mem.tail _ (List.Mem.tail _ (List.Mem.tail _ (hp))))), hdj0_1, hdj0_2, hdj0_3, hdj1_2, hdj1_3, hdj2_3, H⟩
    · replace H := H.2 (b1)
      refine WC.skip (WX.then_normal ?_)
      refine WC.seq ?_
      refine WC.seq ?_
      refine WC.chainF (fun k => !(Nat.beq k 11 || Nat.beq k 12)) (LD [3, 7, 8, 9] (fun w' => Bl w' g_c 155 [.pointer (some ⟨g_c_d, 0, none⟩), vs c_p, .map (some g_c_l)] ∧ Bl w' g1 74 (a32 k) ∧ Bl w' g2 74 (a32 out))) mixed (by kernel_rfl) (fun k w' h _ => ⟨(bl_eqv h k19), (bl_eqv h k20), (bl_eqv h k21)⟩) ?_
      refine WJ.y rfl rfl (fun w' hw' => Yld.pure tab_ok rfl) ?_
      refine WJ.y rfl rfl (fun w' hw' => Yld.pure tab_ok rfl) ?_
      refine WJ.y rfl rfl (fun w' hw' => Yld.pure tab_ok rfl) ?_
      refine WJ.y rfl rfl (fun w' hw' => Yld.bload tab_ok (hw' rfl).1 rfl rfl rfl) ?_
      refine WJ.y rfl rfl (fun w' hw' => Yld.pure tab_ok rfl) ?_
      refine WJ.y rfl rfl (fun w' hw' => Yld.pure tab_ok rfl) ?_
      refine WJ.y rfl rfl (fun w' hw' => Yld.pure tab_ok rfl) ?_
      refine WJ.y rfl rfl (fun w' hw' => Yld.bload tab_ok (hw' rfl).1 rfl rfl rfl) ?_
      refine WJ.y rfl rfl (fun w' hw' => Yld.bagg (vs := (a32 k)) tab_ok (hw' rfl).2.1 rfl rfl rfl rfl) ?_
      refine WJ.y rfl rfl (fun w' hw' => Yld.bagg (vs := (a32 out)) tab_ok (hw' rfl).2.2 rfl rfl rfl rfl) ?_
      refine WJ.y rfl rfl (fun w' hw' => Yld.struct (us := (a32 k ++ a32 out)) zero78 places78 rfl rfl) ?_
      refine WJ.call rfl (wants_none) rfl rfl (W_cache_Record H) (fun v w' h w2 e => DD.keep (⟨(Bl.g0 k19 (gr_eqv h.1 e)), (Bl.g0 k20 (gr_eqv h.1 e)), (Bl.g0 k21 (gr_eqv h.1 e))⟩)) ?_
      rintro _ w5 ⟨hg5, t36, rfl, H⟩
      have gr5 := GrL.add0 gr4 hg5
      have k22 := k16.g0 hg5
      have k23 := k17.g0 hg5
      have k24 := k18.g0 hg5
      have k25 := k19.g0 hg5
      have k26 := k20.g0 hg5
      have k27 := k21.g0 hg5
      refine WJ.call rfl wants_none rfl rfl (W_pdisk_Disk_Append (hG.goL gr5 hP) (Nat.le_trans hB (GrL.sizeL gr5)) (apC (InP.toGe (InP.mem (List.Mem.tail _ (List.Mem.tail _ (List.Mem.head _)))) hP hB) (InA.toGe (InA.mem (fun _ hp => List.Mem.tail _ (List.Mem.tail _ (List.Mem.tail _ (hp))))) hP hB)) hS9 hS11 hS15 hS100 k22 k23 hdj2_3 H) (fun v w' h w2 e => DD.past (by kernel_rfl)) ?_
      rintro v_err w6 ⟨hgl1, _, err, hs_c_d_, c_d_, c_d_2, c_d_3, c_d_4, rfl, herr, hB5, hM1, hi1, dj1, H⟩
      have gr6 : GrL ((some g_c) :: (some g_c_l) :: (some g_c_d) :: (FP g_c_d_files hs_c_d_files none)) w w6 := GrL.modL gr5 hgl1 (apC (InP.mem (List.Mem.tail _ (List.Mem.tail _ (List.Mem.head _)))) (InA.mem (fun _ hp => List.Mem.tail _ (List.Mem.tail _ (List.Mem.tail _ (hp))))))
      have k28 := k24.goL hgl1 (apC hdj1_2 hdj1_3)
      have k29 := k25.goL hgl1 (apC hdj0_2 hdj0_3)
      have k30 := k26.goL hgl1 (apC (Dj.new hc_d.lt' (Ge.box hl1)).symm (hc_d_files.new (Ge.box hl1)))
      have k31 := k27.goL hgl1 (apC (Dj.new k2.lt' (Ge.box hl2)).symm (k1.new (Ge.box hl2)))
      refine WJ.y rfl rfl (fun w' hw' => Yld.pure tab_ok rfl) ?_
      refine WJ.nil (WX.then_normal ?_)
      refine WC.seq ?_
      refine WC.region ?_
      refine WL.y rfl (Yld.pure tab_ok rfl) ?_
      refine WL.y rfl (Yld.errneq Tryd.underlying29 herr rfl) ?_
      refine WL.nil (WX.then_normal ?_)
      refine WC.cond rfl (fun b2 => ?_) (fun b2 => ?_)
      · replace H := H.1 (nd_true b2)
        refine WC.seq ?_
        refine WC.region ?_
        refine WL.y rfl (Yld.pure tab_ok rfl) ?_
        refine WL.y rfl (Yld.pure tab_ok rfl) ?_
        refine WL.nil (WX.then_normal ?_)
        refine WC.ret (WX.then_ret ?_)
        exact WX.ret1 rfl rfl ⟨gr6, v_err, err, c_p, c_l, hs_c_d_, c_d_, c_d_2, c_d_3, c_d_4, rfl, herr, k29, k28, hB5, hM1, (InA.trans hi1 (apC (InP.mem (List.Mem.tail _ (List.Mem.tail _ (List.Mem.head _)))) (InA.mem (fun _ hp => List.Mem.tail _ (List.Mem.tail _ (List.Mem.tail _ (hp)))))) (GrL.sizeL gr5)), hdj0_1, hdj0_2, (InA.dj hi1 k25.lt' (apC hdj0_2 hdj0_3)), hdj1_2, (InA.dj hi1 k24.lt' (apC hdj1_2 hdj1_3)), dj1, H⟩
      · replace H := H.2 (nd_false b2)
        refine WC.skip (WX.then_normal ?_)
        refine WC.seq ?_
        refine WC.chainF (fun k => !(Nat.beq k 6)) (LD [3, 4, 5] (fun w' => Bl w' g_c 155 [.pointer (some ⟨g_c_d, 0, none⟩), vs c_p, .map (some g_c_l)] ∧ Bl w' g1 74 (a32 k) ∧ Bl w' g2 74 (a32 out))) mixed (by kernel_rfl) (fun k w' h _ => ⟨(bl_eqv h k29), (bl_eqv h k30), (bl_eqv h k31)⟩) ?_
        refine WJ.y rfl rfl (fun w' hw' => Yld.pure tab_ok rfl) ?_
        refine WJ.y rfl rfl (fun w' hw' => Yld.pure tab_ok rfl) ?_
        refine WJ.y rfl rfl (fun w' hw' => Yld.pure tab_ok rfl) ?_
        refine WJ.y rfl rfl (fun w' hw' => Yld.bload tab_ok (hw' rfl).1 rfl rfl rfl) ?_
        refine WJ.y rfl rfl (fun w' hw' => Yld.bagg (vs := (a32 k)) tab_ok (hw' rfl).2.1 rfl rfl rfl rfl) ?_
        refine WJ.y rfl rfl (fun w' hw' => Yld.bagg (vs := (a32 out)) tab_ok (hw' rfl).2.2 rfl rfl rfl rfl) ?_
        obtain ⟨h3, H⟩ := H
        refine WJ.eff rfl (Ef0.mapPut keyF_a Tryd.underlying153 k28 h3.2 rfl rfl h3.1 rfl) (fun w' h => DD.keep (⟨(Bl.go k29 (gr_eqv h.2 (Eqv.refl _)) hdj0_1), (Bl.go k30 (gr_eqv h.2 (Eqv.refl _)) (Dj.new hc_l.lt' (Ge.box hl1)).symm), (Bl.go k31 (gr_eqv h.2 (Eqv.refl _)) (Dj.new k3.lt' (Ge.box hl2)).symm)⟩)) ?_
        rintro w7 ⟨hB6, hg6⟩
        have gr7 : GrL ((some g_c) :: (some g_c_l) :: (some g_c_d) :: (FP g_c_d_files hs_c_d_files none)) w w7 := GrL.mod gr6 hg6 (InP.mem (List.Mem.tail _ (List.Mem.head _)))
        have k32 := hM1.go hg6 (InA.dj hi1 k24.lt' (apC hdj1_2 hdj1_3))
        have k33 := hB5.go hg6 hdj1_2.symm
        have k34 := k29.go hg6 hdj0_1
        have k35 := k30.go hg6 ((Dj.new hc_l.lt' (Ge.box hl1)).symm)
        have k36 := k31.go hg6 ((Dj.new k3.lt' (Ge.box hl2)).symm)
        refine WJ.nil (WX.then_normal ?_)
        refine WC.seq ?_
        refine WC.region ?_
        refine WL.y rfl (Yld.pure tab_ok rfl) ?_
        refine WL.nil (WX.then_normal ?_)
        refine WC.ret ?_
        exact WX.ret1 rfl rfl ⟨gr7, .nilIface, Er.ok, c_p, mput c_l k out, hs_c_d_, c_d_, c_d_2, c_d_3, c_d_4, rfl, (ErrR.okR (S := S) (w := w7)), k34, hB6, k33, k32, (InA.trans hi1 (apC (InP.mem (List.Mem.tail _ (List.Mem.tail _ (List.Mem.head _)))) (InA.mem (fun _ hp => List.Mem.tail _ (List.Mem.tail _ (List.Mem.tail _ (hp)))))) (GrL.sizeL gr5)), hdj0_1, hdj0_2, (InA.dj hi1 k25.lt' (apC hdj0_2 hdj0_3)), hdj1_2, (InA.dj hi1 k24.lt' (apC hdj1_2 hdj1_3)), dj1, H⟩
  · clear H
    rcases Bool.eq_false_or_eq_true ((mget c_l k).isSome) with b3 | b3
    · refine WL.gyes rfl rfl (okb b3) rfl (Yld.bagg (vs := (a32 ((mget c_l k).getD (List.replicate 32 0)))) tab_ok hB4 rfl rfl rfl rfl) ?_
      refine WL.gyes rfl rfl (okb b3) rfl (Yld.bagg (vs := (a32 out)) tab_ok k21 rfl rfl rfl rfl) ?_
      refine WL.gyes rfl rfl (okb b3) rfl (Yld.arreq Tryd.underlying74 Tryd.underlying5 (fun _ => by kernel_rfl) (by kernel_rfl) rfl rfl (h2 b3).1 (h2 b3).2) ?_
      refine WL.y rfl (Yld.pickT (okb b3) rfl) ?_
      exact WL.weaken (by repeat (first | exact Sub.nil | refine Sub.cons rfl ?_)) (hQ _ _ ⟨decide (((mget c_l k).getD (List.replicate 32 0)) = out), rfl, by rw [b3] <;> rfl, rfl⟩)
    · refine WL.gno rfl rfl (okb b3) rfl ?_
      refine WL.gno rfl rfl (okb b3) rfl ?_
      refine WL.gno rfl rfl (okb b3) rfl ?_
      refine WL.y rfl (Yld.pickF (okb b3) rfl) ?_
      exact WL.weaken (by repeat (first | exact Sub.nil | refine Sub.cons rfl ?_)) (hQ _ _ ⟨false, rfl, by rw [b3] <;> rfl, rfl⟩)

set_option maxHeartbeats 8000000 in
theorem W_pcache_Cache_Len {w : World} {g_c : Nat} {g_c_d : Nat} {g_c_d_files : Nat} {hs_c_d_files : List (List UInt8 × PH)} {c_d_files : List (List UInt8 × List UInt8 × Bool × List UInt8 × Bool × List (Int × List UInt8))} {c_d_ops : Int} {c_d_left : Int} {c_d_down : Bool} {c_p : List UInt8} {g_c_l : Nat} {c_l : List (List UInt8 × List UInt8)} {K : Int → Prop} (hc_d_files : PoolO pe128 w g_c_d_files hs_c_d_files c_d_files none) (hc_d : Bl w g_c_d 124 [.map (some g_c_d_files), .int .i64 c_d_ops, .int .i64 c_d_left, .bool c_d_down]) (hc_l : MapB vA okA vA w g_c_l c_l) (hc : Bl w g_c 155 [.pointer (some ⟨g_c_d, 0, none⟩), vs c_p, .map (some g_c_l)]) (H : M_pcache_Cache_Len c_d_files c_d_ops c_d_left c_d_down c_p c_l K) : Fn Tryd.prog 48 ⟨[.pointer (some ⟨g_c, 0, none⟩)]⟩ w (fun v w' => w = w' ∧ ∃ (r : Int), v = .int .i64 r ∧ K r) := by
  unfold M_pcache_Cache_Len at H
  refine Fn.enter (by kernel_rfl) Tryd.func48 rfl Tryd.ntmps48 rfl ?_
  refine WC.seq ?_
  refine WC.region ?_
  refine WL.y rfl (Yld.pure tab_ok rfl) ?_
  refine WL.nil (WX.then_normal ?_)
  refine WC.seq ?_
  refine WC.region ?_
  refine WL.y rfl (Yld.pure tab_ok rfl) ?_
  refine WL.y rfl (Yld.pure tab_ok rfl) ?_
  refine WL.y rfl (Yld.pure tab_ok rfl) ?_
  refine WL.y rfl (Yld.bload tab_ok hc rfl rfl rfl) ?_
  refine WL.y rfl (Yld.maplen Tryd.underlying153 hc_l rfl) ?_
  refine WL.y rfl (Yld.pure tab_ok rfl) ?_
  refine WL.nil (WX.then_normal ?_)
  refine WC.ret ?_
  exact WX.ret1 rfl rfl ⟨rfl, (c_l.length : Int), rfl, H⟩

end Go.Proofs.YtlonpmajnglmoaaDoor

 