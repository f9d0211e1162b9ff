/- The engine's rules for structs and arrays that are written out. -/
import Derived.Test.YtfibkajdahaggaaDoorWrite
namespace Go.Proofs.YtfibkajdahaggaaDoor
open Go Go.RowKit

def splice (cells : List Value) (off : Nat) (vs : List Value) : List Value := cells.take off ++ vs ++ cells.drop (off + vs.length)
theorem splice_set (cells : List Value) (off : Nat) (v : Value) (vs : List Value) (h : off < cells.length) : splice (cells.set off v) (off + 1) vs = splice cells off (v :: vs) := by
  unfold splice
  rw [List.take_set, List.take_succ_eq_append_getElem h, List.drop_set_of_lt (by omega)]
  have : (List.take off cells ++ [cells[off]]).set off v = List.take off cells ++ [v] := set_last _ _ v off (by simp; omega)
  rw [this]
  simp [Nat.add_assoc, Nat.add_comm 1]
theorem foldl_splice : ∀ (vs : List Value) (k : Nat) (cells : Array Value) (off : Nat), off + k + vs.length ≤ cells.size →
    ((vs.zipIdx k).foldl (fun (cs : Array Value) (x : Value × Nat) => cs.setIfInBounds (off + x.2) x.1) cells).toList = splice cells.toList (off + k) vs
  | [], k, cells, off, _ => by simp [splice]
  | v :: vs, k, cells, off, h => by
    simp only [List.zipIdx_cons, List.foldl_cons]
    simp only [List.length_cons] at h
    rw [foldl_splice vs (k + 1) _ off (by simp; omega), Array.toList_setIfInBounds]
    rw [show off + (k + 1) = (off + k) + 1 by omega, splice_set _ _ _ _ (by simp; omega)]
/-- 'fill', on lists -/
def fillL (place : Nat → Option (Nat × Nat)) (cells : List Value) : List (Nat × Value) → Option (List Value)
  | [] => some cells
  | (i, v) :: rest => match place i with
    | none => none
    | some (off, size) => bif Nat.beq v.cells.toList.length size && Nat.ble (off + size) cells.length then fillL place (splice cells off v.cells.toList) rest else none
theorem splice_length (cells : List Value) (off : Nat) (vs : List Value) (h : off + vs.length ≤ cells.length) : (splice cells off vs).length = cells.length := by
  unfold splice
  simp only [List.length_append, List.length_take, List.length_drop]
  omega
theorem fill_fillL (place : Nat → Option (Nat × Nat)) : ∀ (ps : List (Nat × Value)) (cells : Array Value) (us : List Value), fillL place cells.toList ps = some us → Instr.fill place cells ps = some ⟨us⟩
  | [], cells, us, h => by
    simp only [fillL, Option.some.injEq] at h
    simp only [Instr.fill]
    rw [← h]
  | (i, v) :: rest, cells, us, h => by
    simp only [fillL] at h
    simp only [Instr.fill]
    split at h
    · cases h
    · rename_i off size hp
      simp only [hp]
      cases hb : (Nat.beq v.cells.toList.length size && Nat.ble (off + size) cells.toList.length) with
      | false => rw [hb] at h; cases h
      | true =>
        rw [hb] at h
        simp only [Bool.and_eq_true, Nat.ble_eq] at hb
        have h1 : v.cells.size = size := by have := Nat.eq_of_beq_eq_true hb.1; simpa using this
        have h2 : off + size ≤ cells.size := by simpa using hb.2
        rw [if_neg (by simp [h1]; omega)]
        refine fill_fillL place rest _ us ?_
        have h3 := foldl_splice v.cells.toList 0 cells off (by simp [h1]; omega)
        have h4 : (v.cells.zipIdx.foldl (fun (cs : Array Value) (x : Value × Nat) => cs.setIfInBounds (off + x.2) x.1) cells).toList = splice cells.toList off v.cells.toList := by
          rw [Nat.add_zero] at h3
          rw [← h3, ← Array.foldl_toList]
          simp
        have h5 : (v.cells.zipIdx.foldl (fun cs (x : Value × Nat) => match x with | (c, j) => cs.setIfInBounds (off + j) c) cells).toList = splice cells.toList off v.cells.toList := h4
        rw [h5]
        exact h

def placesOf (P : Program) (t : TypeId) : Option (List (Nat × Nat)) := match P.underlying t with
  | some (.struct fs) => fs.toList.mapM fun f => (P.info? f.type).map fun i => (f.offset, i.size)
  | _ => none
theorem run_places {P : Program} (w : World) : ∀ (fs : List Field) (ps : List (Nat × Nat)), fs.mapM (fun f => (P.info? f.type).map fun i => (f.offset, i.size)) = some ps →
    (fs.mapM (fun f => do pure (f.offset, ← sizeOf f.type)) : Sem (List (Nat × Nat))).run P w = .ok ps w
  | [], ps, h => by
    simp at h
    subst h
    simp
  | f :: fs, ps, h => by
    rw [List.mapM_cons] at h
    cases hi : P.info? f.type with
    | none => simp [hi] at h
    | some i =>
      cases hr : fs.mapM (fun f => (P.info? f.type).map fun i => (f.offset, i.size)) with
      | none => simp [hi, hr] at h
      | some qs =>
        simp [hi, hr] at h
        subst h
        have := run_places w fs qs hr
        simp [List.mapM_cons, sizeOf, typeInfo, hi] at this ⊢
        rw [this]
        simp
def partsE (L : Slots) : List (Nat × Operand) → Option (List (Nat × Value))
  | [] => some []
  | (i, x) :: r => match opv L x, partsE L r with
    | some v, some vs => some ((i, v) :: vs)
    | _, _ => none
theorem partsE_map {N : Nat} {L : Slots} {a : Act} (ha : Has N L a) : ∀ {ps : List (Nat × Operand)} {vs : List (Nat × Value)}, partsE L ps = some vs → ps.map (fun p => (p.1, a.eval p.2)) = vs
  | [], vs, h => by simp only [partsE, Option.some.injEq] at h; rw [← h]; rfl
  | (i, x) :: r, vs, h => by
    simp only [partsE] at h
    split at h
    · rename_i v us hv hus
      simp only [Option.some.injEq] at h
      rw [← h, List.map_cons, partsE_map ha hus, ha.ev hv]
    · cases h

section
variable {P : Program} {T : Tab} {N : Nat} {L : Slots} {w : World} {dd : Option Tmp} {ty t : TypeId} {pos : String} {af : Array Edge} {us zs : List Value}
theorem Yld.struct {ps : List (Nat × Operand)} {vs : List (Nat × Value)} {pl : List (Nat × Nat)} (hz : zeroOf P t = some zs) (hpl : placesOf P t = some pl) (hv : partsE L ps = some vs) (hf : fillL (fun i => pl[i]?) zs vs = some us) :
    Yld P N w ⟨dd, .build t ⟨ps⟩, ty, pos, af, none⟩ L (.agg ⟨us⟩) := fun a w1 _ ha => by
  obtain ⟨z, hz1, hz2⟩ := zeroOf_run hz w1
  unfold placesOf at hpl
  split at hpl
  · rename_i fs hu
    have hr := run_places (P := P) w1 fs.toList pl hpl
    have hfill := fill_fillL (fun i => pl[i]?) vs ⟨zs⟩ us hf
    have hm : ((⟨ps⟩ : Array (Nat × Operand)).map fun (i, x) => (i, a.eval x)).toList = vs := by rw [← partsE_map ha hv]; simp
    unfold execOp
    simp only [Instr.build, Sem.run_bind, hz1, Result.andThen_ok, run_underlying hu, hz2, Array.mapM_eq_mapM_toList, hm]
    have hr2 : (List.toArray <$> (fs.toList.mapM (fun f => do Pure.pure (f.offset, ← sizeOf f.type)) : Sem (List (Nat × Nat)))).run P w1 = .ok pl.toArray w1 := by
      rw [← bind_pure_comp, Sem.run_bind, hr]
      simp
    rw [hr2]
    simp only [Result.andThen_ok]
    have : (fun (x : Nat) => pl.toArray[x]?) = fun i => pl[i]? := by funext i; simp
    rw [this, hfill]
    simp
  · cases hpl
theorem Yld.arr {ps : List (Nat × Operand)} {m : Nat} {e : TypeId} (hT : T.Ok P) (hs : nk T.arr t = some (m, e, 1)) (hz : zeroOf P t = some zs) (hzl : zs.length = m) (hp : partsV L 0 ps = some us) (h1 : ∀ u ∈ us, u.oneCell' = true) (hl : us.length = m) :
    Yld P N w ⟨dd, .build t ⟨ps⟩, ty, pos, af, none⟩ L (.agg ⟨us⟩) := fun a w1 _ ha => by
  obtain ⟨z, hz1, hz2⟩ := zeroOf_run hz w1
  obtain ⟨hu, i, hi, hi1⟩ := hT.arr hs
  have hm : ((⟨ps⟩ : Array (Nat × Operand)).map fun (i, x) => (i, a.eval x)).toList = ps.map fun p => (p.1, a.eval p.2) := by simp
  have hfill := fill_parts ha ps 0 us [] ⟨zs⟩ hp h1 rfl rfl (by simp [hzl, hl])
  unfold execOp
  simp only [Instr.build, Sem.run_bind, hz1, Result.andThen_ok, run_underlying hu, hz2, sizeOf, typeInfo, program, Sem.run, hi, hi1, Sem.run_pure, hm]
  rw [hfill]
  simp
end
end Go.Proofs.YtfibkajdahaggaaDoor
