/- Texts of this claim, joined by a program: Map, Mut, Bld, Shelf, StrA, Enc, GSa, Sent, GSb, GFo, S2b. -/
import Derived.Test.YtjinkmipkfjblaaDoorJ1
import Derived.Maps.RangeRun
import Derived.Maps.Keyed
import Derived.Carry
import Derived.StringKeys
import Derived.Lib.Builder
import Derived.Lib.UnsafeStr
import Derived.Laws.Externs
import Derived.Shelf.Strings.Builder1
import Derived.Shelf.Strings.Builder2
import Derived.Shelf.Strings.OnBuilder
import Derived.Shelf.Small.Bits
import Derived.Shelf.Small.Strs
import Derived.Shelf.Small.Wraps
import Derived.Shelf.Strings.BuilderF
import Derived.Shelf.Strings.BuilderK
import Derived.Shelf.Utf8.RuneCount
import Derived.Shelf.Strings.Builder2Cap
import Derived.Shelf.Strconv.Itoa0
import Derived.Shelf.Strings.Search1
import Derived.Shelf.Strings.Search2
import Derived.Shelf.Strings.Search3
import Derived.Shelf.Strings.Cut
import Derived.Shelf.Strings.Count
import Derived.Shelf.LaysM
import Derived.Shelf.Strings.Shaped
import Derived.Shelf.Strings.LastIndex
import Derived.Shelf.Strings.Prefix
import Derived.Shelf.Strings.Split
import Derived.Shelf.Strings.Replace
import Derived.Shelf.Strings.SplitShaped
import Derived.Shelf.Unicode.Decode
import Derived.Shelf.Strings.RuneCount
import Derived.Shelf.Strings.Explode
import Derived.Shelf.Bits.Mul64
import Derived.Shelf.Strings.Repeat
import Derived.Shelf.Unicode.DecodeSlow
import Derived.Shelf.Unicode.DecodeAny
import Derived.Shelf.Strings.BuilderCap
import Derived.Shelf.Slices.Turned
import Derived.Ground.PaProg
import Derived.Shelf.Path.Small
import Derived.Test.YtjinkmipkfjblaaDoorProg
import Derived.Lib.SplitLaws
/- Maps: plainly, and in the world. -/
namespace Go.Proofs.YtjinkmipkfjblaaDoor
open Go Go.RowKit Go.MapKept Go.ChangeMaps
open Go.Maps (Keyed)
/-! ## plainly: the entries, in the order in which they were laid -/
section
variable {κ ν : Type} [DecidableEq κ]
def mget : List (κ × ν) → κ → Option ν
  | [], _ => none
  | p :: m, k => if p.1 = k then some p.2 else mget m k
def mput : List (κ × ν) → κ → ν → List (κ × ν)
  | [], k, v => [(k, v)]
  | p :: m, k, v => if p.1 = k then (k, v) :: m else p :: mput m k v
def Uq (m : List (κ × ν)) : Prop := (m.map (·.1)).Nodup
theorem mget_none {m : List (κ × ν)} {k : κ} : mget m k = none ↔ ∀ p ∈ m, p.1 ≠ k := by
  induction m with
  | nil => simp [mget]
  | cons p m ih =>
    unfold mget
    split
    · rename_i h; simp [h]
    · rename_i h; rw [ih]; simp [h]
theorem mput_new {m : List (κ × ν)} {k : κ} {v : ν} (h : mget m k = none) : mput m k v = m ++ [(k, v)] := by
  induction m with
  | nil => rfl
  | cons p m ih =>
    unfold mget at h
    split at h
    · cases h
    · rename_i hne
      unfold mput
      rw [if_neg hne, ih h]
      rfl
theorem mput_set {m : List (κ × ν)} {k : κ} {v v0 : ν} {j : Nat} (hu : Uq m) (h : m[j]? = some (k, v0)) : mput m k v = m.set j (k, v) := by
  induction m generalizing j with
  | nil => simp at h
  | cons p m ih =>
    have hu' := List.nodup_cons.1 hu
    cases j with
    | zero =>
      simp only [List.getElem?_cons_zero, Option.some.injEq] at h
      subst h
      simp [mput]
    | succ j =>
      simp only [List.getElem?_cons_succ] at h
      have hne : p.1 ≠ k := fun e => hu'.1 (List.mem_map.2 ⟨(k, v0), List.mem_of_getElem? h, e.symm⟩)
      unfold mput
      rw [if_neg hne, ih hu'.2 h]
      rfl
theorem mget_mem {m : List (κ × ν)} {k : κ} {v : ν} (hu : Uq m) : mget m k = some v ↔ (k, v) ∈ m := by
  induction m with
  | nil => simp [mget]
  | cons p m ih =>
    have hu' := List.nodup_cons.1 hu
    unfold mget
    split
    · rename_i h
      subst h
      rw [Option.some.injEq, List.mem_cons]
      constructor
      · rintro rfl; exact .inl rfl
      · rintro (h | h)
        · exact (congrArg Prod.snd h).symm
        · exact absurd (List.mem_map.2 ⟨_, h, rfl⟩) hu'.1
    · rename_i h
      rw [ih hu'.2, List.mem_cons]
      constructor
      · exact .inr
      · rintro (h2 | h2)
        · exact absurd (congrArg Prod.fst h2).symm h
        · exact h2
theorem mput_mem {m : List (κ × ν)} {k : κ} {v : ν} {p : κ × ν} (h : p ∈ mput m k v) : p = (k, v) ∨ p ∈ m := by
  induction m with
  | nil => simp [mput] at h; exact .inl h
  | cons q m ih =>
    unfold mput at h
    split at h
    · rcases List.mem_cons.1 h with h | h
      · exact .inl h
      · exact .inr (List.mem_cons_of_mem _ h)
    · rcases List.mem_cons.1 h with h | h
      · exact .inr (by rw [h]; exact List.mem_cons_self)
      · rcases ih h with h | h
        · exact .inl h
        · exact .inr (List.mem_cons_of_mem _ h)
theorem mput_keys (m : List (κ × ν)) (k : κ) (v : ν) : (mput m k v).map (·.1) = if (mget m k).isSome then m.map (·.1) else m.map (·.1) ++ [k] := by
  induction m with
  | nil => simp [mget, mput]
  | cons p m ih =>
    unfold mput mget
    split
    · rename_i h; simp [h]
    · rw [List.map_cons, ih, List.map_cons]
      split <;> rfl
theorem Uq.put {m : List (κ × ν)} (h : Uq m) (k : κ) (v : ν) : Uq (mput m k v) := by
  unfold Uq at *
  rw [mput_keys]
  split
  · exact h
  · rename_i hn
    have : mget m k = none := by simpa using hn
    rw [List.nodup_append]
    refine ⟨h, by simp, fun a ha b hb => ?_⟩
    obtain ⟨p, hp, rfl⟩ := List.mem_map.1 ha
    simp only [List.mem_cons, List.not_mem_nil, or_false] at hb
    subst hb
    exact mget_none.1 this p hp
end
/-! ## in the world -/
structure KeyF {κ : Type} (P : Program) (k : TypeId) (fk : κ → Value) (ok : κ → Prop) : Prop where
  keyed : Keyed P k
  key : ∀ x, ok x → ∃ l, keyOf P k (fk x) = some l
  inj : ∀ x y, ok x → ok y → fk x = fk y → x = y
def okS (s : List UInt8) : Prop := s.length ≤ maxLen
theorem keyF_s {P : Program} {k : TypeId} (h : P.underlying k = some .string) : KeyF P k vs okS where
  keyed := Go.Maps.string_keyed h
  key x hx := ⟨_, Go.WideMaps.keyOf_string_mk h (s := ⟨⟨x⟩⟩) hx⟩
  inj x y _ _ h := by unfold vs at h; injection h with h; injection h with h; injection h
def MapB {κ ν : Type} (fk : κ → Value) (ok : κ → Prop) (fv : ν → Value) (w : World) (b : Nat) (m : List (κ × ν)) : Prop :=
  ∃ es clock, w.heap[b]? = some (.map es clock) ∧ Stamped es clock ∧ es.size ≤ maxLen ∧ (∀ p ∈ m, ok p.1) ∧ es.toList.map (fun e => (e.key, e.val)) = m.map fun p => (fk p.1, fv p.2)
section
variable {κ ν : Type} {P : Program} {k e t : TypeId} {fk : κ → Value} {ok : κ → Prop} {fv : ν → Value} {w w' : World} {b : Nat} {m : List (κ × ν)} {row : Option Nat}
theorem MapB.lt (h : MapB fk ok fv w b m) : b < w.heap.size := by
  obtain ⟨es, clock, hb, _⟩ := h
  exact (Array.getElem?_eq_some_iff.1 hb).1
theorem MapB.lt' (h : MapB fk ok fv w b m) : Lt (some b) w.heap.size := Lt.box h.lt
theorem MapB.go (h : MapB fk ok fv w b m) (hg : w.grownBy w' row) (hd : Dj (some b) row) : MapB fk ok fv w' b m := by
  have hlt := h.lt
  obtain ⟨es, clock, hb, r⟩ := h
  exact ⟨es, clock, (hg.block b hlt (fun e => hd b rfl e.symm)).trans hb, r⟩
theorem MapB.g0 (h : MapB fk ok fv w b m) (hg : w.grownBy w' none) : MapB fk ok fv w' b m := h.go hg Dj.nr
theorem MapB.eqv (hw : Eqv w w') (h : MapB fk ok fv w b m) : MapB fk ok fv w' b m := h.g0 (gr_eqv (gr_refl w none) hw)
theorem MapB.len (h : MapB fk ok fv w b m) : m.length ≤ maxLen := by
  obtain ⟨es, clock, _, _, hs, _, he⟩ := h
  have := congrArg List.length he
  simp at this
  omega
theorem MapB.uq (h : MapB fk ok fv w b m) : Uq m := by
  obtain ⟨es, clock, _, hst, _, _, he⟩ := h
  have h1 : es.toList.map (·.key) = (m.map (·.1)).map fk := by
    have := congrArg (List.map Prod.fst) he
    simpa [Function.comp_def] using this
  have h2 := hst.2.2
  rw [h1] at h2
  unfold Uq
  rw [List.nodup_iff_pairwise_ne, List.pairwise_map] at h2
  rw [List.nodup_iff_pairwise_ne]
  exact h2.imp fun h e => h (by rw [e])
variable [DecidableEq κ]
theorem MapB.find {es : Array MapEntry} (K : KeyF P k fk ok) (hst : Uq m) (hok : ∀ p ∈ m, ok p.1) (he : es.toList.map (fun e => (e.key, e.val)) = m.map fun p => (fk p.1, fv p.2)) {q : κ} (hq : ok q) (w : World) :
    ((Instr.findKey k (fk q) es.toList).run P w = .ok none w ∧ mget m q = none ∧ ∀ x ∈ es.toList, x.key ≠ fk q) ∨ ∃ j v e0, (Instr.findKey k (fk q) es.toList).run P w = .ok (some (j, fv v)) w ∧ mget m q = some v ∧ m[j]? = some (q, v) ∧ es.toList[j]? = some e0 ∧ e0.key = fk q := by
  obtain ⟨l, hl⟩ := K.key q hq
  have hget : ∀ (j : Nat), (es.toList[j]?).map (fun e => (e.key, e.val)) = (m[j]?).map fun p => (fk p.1, fv p.2) := fun j => by
    have := congrArg (fun l => l[j]?) he
    simpa using this
  rcases K.keyed.find w hl es.toList (fun e he' => by
    obtain ⟨j, hj, rfl⟩ := List.getElem_of_mem he'
    have h1 := hget j
    rw [List.getElem?_eq_getElem hj] at h1
    simp only [Option.map_some] at h1
    obtain ⟨p, hp, hpe⟩ := Option.map_eq_some_iff.1 h1.symm
    obtain ⟨l', hl'⟩ := K.key p.1 (hok p (List.mem_of_getElem? hp))
    have h5 : fk p.1 = es.toList[j].key := congrArg Prod.fst hpe
    exact ⟨l', by rw [← h5]; exact hl'⟩) with ⟨h1, h2⟩ | ⟨j, e0, h1, h2, h3⟩
  · refine .inl ⟨h1, mget_none.2 fun p hp hpq => ?_, h2⟩
    obtain ⟨j, hj, rfl⟩ := List.getElem_of_mem hp
    have h4 := hget j
    rw [List.getElem?_eq_getElem hj] at h4
    simp only [Option.map_some] at h4
    obtain ⟨x, hx, hxe⟩ := Option.map_eq_some_iff.1 h4
    have h5 : x.key = fk m[j].1 := congrArg Prod.fst hxe
    exact h2 x (List.mem_of_getElem? hx) (by rw [h5, hpq])
  · have h4 := hget j
    rw [h2] at h4
    simp only [Option.map_some] at h4
    obtain ⟨p, hp, hpe⟩ := Option.map_eq_some_iff.1 h4.symm
    have hpq : p.1 = q := K.inj _ _ (hok p (List.mem_of_getElem? hp)) hq ((congrArg Prod.fst hpe).trans h3)
    have hpv : fv p.2 = e0.val := congrArg Prod.snd hpe
    refine .inr ⟨j, p.2, e0, by rw [hpv]; exact h1, (mget_mem hst).2 (by rw [← hpq]; exact List.mem_of_getElem? hp), by rw [hp, ← hpq], h2, h3⟩
theorem MapB.run_look (K : KeyF P k fk ok) (h : MapB fk ok fv w b m) (ht : P.underlying t = some (.map k e)) {z : ν} (hz : (zeroValue e).run P w = .ok (fv z) w) {q : κ} (hq : ok q) (c : Bool) :
    (Instr.lookup t (.map (some b)) (fk q) c).run P w = .ok (if c then .tuple #[fv ((mget m q).getD z), .bool (mget m q).isSome] else fv ((mget m q).getD z)) w := by
  have hu := h.uq
  obtain ⟨es, clock, hb, hst, hs, hok, he⟩ := h
  obtain ⟨l, hl⟩ := K.key q hq
  rcases MapB.find K hu hok he hq w with ⟨h1, h2, _⟩ | ⟨j, v, e0, h1, h2, _⟩
  · cases c <;> simp [Instr.lookup, run_underlying ht, MapKept.run_getObj_map hb, K.keyed.check w _ hl, h1, h2, hz, Result.andThen]
  · cases c <;> simp [Instr.lookup, run_underlying ht, MapKept.run_getObj_map hb, K.keyed.check w _ hl, h1, h2, Result.andThen]
theorem MapB.run_put (K : KeyF P k fk ok) (h : MapB fk ok fv w b m) (ht : P.underlying t = some (.map k e)) (hn : m.length < maxLen) {q : κ} (hq : ok q) (v : ν) :
    ∃ w', (Instr.mapUpdate t (.map (some b)) (fk q) (fv v)).run P w = .ok () w' ∧ MapB fk ok fv w' b (mput m q v) ∧ w.grownBy w' (some b) := by
  have hu := h.uq
  obtain ⟨es, clock, hb, hst, hs, hok, he⟩ := h
  obtain ⟨l, hl⟩ := K.key q hq
  have hlen : es.size = m.length := by have := congrArg List.length he; simpa using this
  have hok' : ∀ p ∈ mput m q v, ok p.1 := fun p hp => by
    rcases mput_mem hp with rfl | hp
    · exact hq
    · exact hok p hp
  have hgr : ∀ o, w.grownBy (setBlock w b o) (some b) := fun o => ⟨rfl, rfl, rfl, by simp [setBlock], fun i _ hi => heap_setBlock_other hb _ (fun e => hi (by rw [e]))⟩
  rcases MapB.find K hu hok he hq w with ⟨h1, h2, h3⟩ | ⟨j, v0, e0, h1, h2, h3, h4, h5⟩
  · refine ⟨setBlock w b (.map (es.push ⟨fk q, fv v, clock⟩) (clock + 1)), ?_, ⟨es.push ⟨fk q, fv v, clock⟩, clock + 1, heap_setBlock_same hb _, stamped_push hst h3, by simp; omega, hok', ?_⟩, hgr _⟩
    · simp [Instr.mapUpdate, run_underlying ht, MapKept.run_getObj_map hb, K.keyed.check w false hl, h1, MapKept.run_setObj_map _ hb, Result.andThen, setBlock]
    · rw [mput_new h2, Array.toList_push, List.map_append, List.map_append, he]
      rfl
  · have hj : es[j]? = some e0 := by simpa using h4
    have hkeyf : ∀ e', es[j]? = some e' → ({ e' with key := fk q, val := fv v } : MapEntry).key = e'.key := fun e' he' => by rw [hj] at he'; cases he'; exact h5.symm
    have hlist : (es.modify j (fun e' => { e' with key := fk q, val := fv v })).toList = es.toList.set j { e0 with key := fk q, val := fv v } := by rw [Array.toList_modify, modify_eq_set _ _ _ _ h4]
    refine ⟨setBlock w b (.map (es.modify j (fun e' => { e' with key := fk q, val := fv v })) clock), ?_, ⟨es.modify j (fun e' => { e' with key := fk q, val := fv v }), clock, heap_setBlock_same hb _, stamped_modify hst _ _ (fun _ _ => rfl) (fun e' _ he' => hkeyf e' he'), by simpa using hs, hok', ?_⟩, hgr _⟩
    · simp [Instr.mapUpdate, run_underlying ht, MapKept.run_getObj_map hb, K.keyed.check w false hl, h1, hj, h5, K.keyed.stays w hl, MapKept.run_setObj_map _ hb, Result.andThen, setBlock]
    · rw [hlist, mput_set hu h3, List.map_set, List.map_set, he]
 omit [DecidableEq κ] in
theorem MapB.made (w : World) (fk : κ → Value) (ok : κ → Prop) (fv : ν → Value) : MapB fk ok fv (w.alloc (.map #[] 0)) w.heap.size ([] : List (κ × ν)) :=
  ⟨#[], 0, (MapKept.heap_alloc w _).1, stamped_empty 0, by simp, by simp, rfl⟩
variable {N : Nat} {L : Slots} {ty : TypeId} {pos : String} {af : Array Edge} {dd : Option Tmp} {x y u : Operand}
theorem Yld.lookOk (hK : KeyF P k fk ok) (ht : P.underlying t = some (.map k e)) {z : ν} (hz : ∀ w, (zeroValue e).run P w = .ok (fv z) w) (hm : MapB fk ok fv w b m) (hx : opv L x = some (.map (some b))) {q : κ} (hy : opv L y = some (fk q)) (hq : ok q) :
    Yld P N w ⟨dd, .lookup t x y true, ty, pos, af, none⟩ L (.tuple #[fv ((mget m q).getD z), .bool (mget m q).isSome]) := fun a w1 hw ha => by
  unfold execOp
  simp [ha.ev hx, ha.ev hy, (MapB.eqv hw hm).run_look hK ht (hz w1) hq true]
 omit [DecidableEq κ] in
theorem Eff.makeMap (fk : κ → Value) (ok : κ → Prop) (fv : ν → Value) : Eff P N w ⟨dd, .makeMap t none, ty, pos, af, none⟩ L fun v w' => v = .map (some w.heap.size) ∧ MapB fk ok fv w' w.heap.size ([] : List (κ × ν)) ∧ w.grownBy w' none := fun a w1 hw ha => by
  refine ⟨_, w1.alloc (.map #[] 0), ?_, rfl, ?_, eqv_gr hw (gr_alloc w1 _ none)⟩
  · unfold execOp
    simp [run_makeMap]
    rw [hw.heap]
  · have := MapB.made w1 fk ok fv
    rwa [hw.heap] at this
theorem Ef0.mapPut (hK : KeyF P k fk ok) (ht : P.underlying t = some (.map k e)) (hm : MapB fk ok fv w b m) (hn : m.length < maxLen) (hx : opv L x = some (.map (some b))) {q : κ} (hy : opv L y = some (fk q)) (hq : ok q) {v : ν} (hu : opv L u = some (fv v)) :
    Ef0 P N w ⟨none, .mapUpdate t x y u, ty, pos, af, none⟩ L fun w' => MapB fk ok fv w' b (mput m q v) ∧ w.grownBy w' (some b) := fun a w1 hw ha => by
  obtain ⟨w', h1, h2, h3⟩ := (MapB.eqv hw hm).run_put hK ht hn hq v
  refine ⟨w', ?_, h2, eqv_gr hw h3⟩
  unfold execOp
  simp [ha.ev hx, ha.ev hy, ha.ev hu, h1]
end
end Go.Proofs.YtjinkmipkfjblaaDoor

 /- Changes within blocks that are named: what calls do to what they are handed. -/
namespace Go.Proofs.YtjinkmipkfjblaaDoor
open Go Go.RowKit
structure GrL (ps : List (Option Nat)) (w w' : World) : Prop where
  os : w'.os = w.os
  tape : w'.tape = w.tape
  output : w'.output = w.output
  size : w.heap.size ≤ w'.heap.size
  block : ∀ i, i < w.heap.size → (∀ p, List.Mem p ps → p ≠ some i) → w'.heap[i]? = w.heap[i]?
def AllP (Q : Option Nat → Prop) (ps : List (Option Nat)) : Prop := ∀ p, List.Mem p ps → Q p
theorem apN {Q : Option Nat → Prop} : AllP Q [] := fun _ h => by cases h
theorem apC {Q : Option Nat → Prop} {p : Option Nat} {ps : List (Option Nat)} (h : Q p) (t : AllP Q ps) : AllP Q (p :: ps) := fun x hx => by
  cases hx with
  | head => exact h
  | tail _ hx => exact t x hx
def InP (ps : List (Option Nat)) (n : Nat) (p : Option Nat) : Prop := ∀ g, p = some g → n ≤ g ∨ List.Mem (some g) ps
section
variable {ps qs : List (Option Nat)} {p p' q row : Option Nat} {n m : Nat} {a b c w w' : World}
theorem InP.ge (h : Ge p n) : InP ps n p := fun g hg => .inl (h g hg)
theorem InP.mem (h : List.Mem p ps) : InP ps n p := fun _ hg => .inr (hg ▸ h)
theorem InP.none : InP ps n none := fun _ h => by cases h
theorem InP.app (h : InP ps n p) (k : ∀ g, p' = some g → p = some g ∨ m ≤ g) (hm : n ≤ m) : InP ps n p' := fun g hg => by
  rcases k g hg with h1 | h1
  · exact h g h1
  · exact .inl (Nat.le_trans hm h1)
theorem InP.trans (h : InP qs m p) (k : AllP (InP ps n) qs) (hm : n ≤ m) : InP ps n p := fun g hg => by
  rcases h g hg with h1 | h1
  · exact .inl (Nat.le_trans hm h1)
  · exact k _ h1 g rfl
theorem InP.toGe (h : InP qs m p) (k : AllP (fun q => Ge q n) qs) (hm : n ≤ m) : Ge p n := fun g hg => by
  rcases h g hg with h1 | h1
  · exact Nat.le_trans hm h1
  · exact k _ h1 g rfl
theorem InP.dj (h : InP qs m p) (hq : Lt q m) (k : AllP (Dj q) qs) : Dj p q := fun g hg hqg => by
  rcases h g hg with h1 | h1
  · have := hq g hqg; omega
  · exact k _ h1 g hqg rfl
theorem InP.dn {α : Type} {xs : List α} (h : InP qs m p) (hq : xs ≠ [] → Lt q m) (k : AllP (Dn xs q) qs) : Dn xs q p := fun hx g hqg hg => by
  rcases h g hg with h1 | h1
  · have := hq hx g hqg; omega
  · exact k _ h1 hx g hqg rfl
theorem GrL.refl (w : World) : GrL ps w w := ⟨rfl, rfl, rfl, Nat.le_refl _, fun _ _ _ => rfl⟩
theorem GrL.of0 (h : w.grownBy w' none) : GrL ps w w' := ⟨h.os, h.tape, h.output, h.size, fun i hi _ => h.block i hi (by simp)⟩
theorem GrL.of1 (h : w.grownBy w' row) : GrL [row] w w' := ⟨h.os, h.tape, h.output, h.size, fun i hi k => h.block i hi fun e => k row (List.Mem.head _) e.symm⟩
theorem GrL.toL (h : GrL [] w w') : w.grownBy w' none := ⟨h.os, h.tape, h.output, h.size, fun i hi _ => h.block i hi fun _ hp => by cases hp⟩
theorem GrL.trans (h : GrL ps a b) (k : GrL ps b c) : GrL ps a c :=
  ⟨k.os.trans h.os, k.tape.trans h.tape, k.output.trans h.output, Nat.le_trans h.size k.size, fun i hi hp => (k.block i (Nat.lt_of_lt_of_le hi h.size) hp).trans (h.block i hi hp)⟩
theorem GrL.modL (h : GrL ps a b) (k : GrL qs b c) (hi : AllP (InP ps a.heap.size) qs) : GrL ps a c :=
  ⟨k.os.trans h.os, k.tape.trans h.tape, k.output.trans h.output, Nat.le_trans h.size k.size, fun i hl hp => (k.block i (Nat.lt_of_lt_of_le hl h.size) fun q hq e => by
    rcases hi q hq i e with h1 | h1
    · omega
    · exact hp _ h1 rfl).trans (h.block i hl hp)⟩
theorem GrL.mod (h : GrL ps a b) (k : b.grownBy c row) (hi : InP ps a.heap.size row) : GrL ps a c := h.modL (GrL.of1 k) (apC hi apN)
theorem GrL.add0 (h : GrL ps a b) (k : b.grownBy c none) : GrL ps a c := h.trans (GrL.of0 k)
theorem gr_modL (h : a.grownBy b none) (k : GrL qs b c) (hi : AllP (fun q => Ge q a.heap.size) qs) : a.grownBy c none :=
  (GrL.modL (ps := []) (GrL.of0 h) k fun q hq => InP.ge (hi q hq)).toL
theorem GrL.eqv (h : GrL ps a b) (k : Eqv b c) : GrL ps a c := h.add0 (gr_eqv (gr_refl b none) k)
theorem GrL.sizeL (h : GrL ps a b) : a.heap.size ≤ b.heap.size := h.size
/-- one block's row, as_ 'grownBy' says it -/
theorem GrL.cell (h : GrL ps w w') {ad : Addr} {v : Value} (hc : w.cell? ad = some v) (hp : ∀ p, List.Mem p ps → p ≠ some ad.block) : w'.cell? ad = some v := by
  have hlt := World.block_lt_of_cell? w _ hc
  have := h.block ad.block hlt hp
  unfold World.cell? at hc ⊢
  rw [this]; exact hc
variable {α : Type} {f : α → Value} {A : Option Addr} {B cc g k : Nat} {xs : List α} {e : TypeId} {us : List Value} {fk : α → List Value}
theorem Bl.goL (h : Bl w g e us) (hg : GrL ps w w') (hd : AllP (Dj (some g)) ps) : Bl w' g e us := (hg.block g h.lt fun p hp e => hd p hp g rfl e).trans h
theorem Rd.goL (h : Rd f w A cc xs) (hg : GrL ps w w') (hd : AllP (Dn xs (blk A)) ps) : Rd f w' A cc xs :=
  ⟨h.cap, h.max, fun hx => by
    obtain ⟨ad, rfl, hc⟩ := h.cells hx
    refine ⟨ad, rfl, fun j x hj => hg.cell (hc j x hj) fun p hp e => ?_⟩
    rw [addr_block] at e
    exact hd p hp hx ad.block rfl e⟩
theorem RdK.goL (h : RdK k fk w A cc xs) (hg : GrL ps w w') (hd : AllP (Dn xs (blk A)) ps) : RdK k fk w' A cc xs :=
  ⟨h.ok, h.cap, h.max, fun hx => by
    obtain ⟨g', o, rfl, hc⟩ := h.cells hx
    refine ⟨g', o, rfl, fun j x i u hj hi => hg.cell (hc j x i u hj hi) fun p hp e => ?_⟩
    exact hd p hp hx g' rfl e⟩
theorem Own.goL (h : Own f w B e A cc xs) (hg : GrL ps w w') (hd : AllP (Dj (blk A)) ps) : Own f w' B e A cc xs := by
  have hlt := h.lt'
  unfold Own at h ⊢
  refine ⟨h.1, ?_⟩
  rcases h.2 with h2 | ⟨g, cap, cur, hv, hb, hg', r⟩
  · exact .inl h2
  · refine .inr ⟨g, cap, cur, hv, hb, ?_, r⟩
    simp only [Value.slice.injEq] at hv
    obtain ⟨rfl, _⟩ := hv
    exact (hg.block g (hlt g rfl) fun p hp e => hd p hp g rfl e).trans hg'
theorem OwnK.goL (h : OwnK k fk w B e A cc xs) (hg : GrL ps w w') (hd : AllP (Dj (blk A)) ps) : OwnK k fk w' B e A cc xs := by
  have hlt := h.lt'
  refine ⟨h.1, h.2.1, ?_⟩
  rcases h.2.2 with h2 | ⟨g, cap, cur, hv, hb, hg', r⟩
  · exact .inl h2
  · refine .inr ⟨g, cap, cur, hv, hb, ?_, r⟩
    simp only [Value.slice.injEq] at hv
    obtain ⟨rfl, _⟩ := hv
    exact (hg.block g (hlt g rfl) fun p hp e => hd p hp g rfl e).trans hg'
theorem MapB.goL {κ ν : Type} {mk : κ → Value} {ok : κ → Prop} {fv : ν → Value} {mm : List (κ × ν)} (h : MapB mk ok fv w g mm) (hg : GrL ps w w') (hd : AllP (Dj (some g)) ps) : MapB mk ok fv w' g mm := by
  have hlt := h.lt
  obtain ⟨es, clock, hb, r⟩ := h
  exact ⟨es, clock, (hg.block g hlt (fun p hp e => hd p hp g rfl e)).trans hb, r⟩
variable {S : List Nat}
/-- the variables hold what they were laid with; they all lie below B -/
def GB (S : List Nat) (B : Nat) (w : World) : Prop := ∃ W, GOK S W ∧ W.heap.size ≤ B ∧ Below W.heap.size W w
theorem GB.ok (h : GB S B w) : GOK S w := by
  obtain ⟨W, h1, _, h3⟩ := h
  exact h1.grown (gr_below h3 none)
theorem belowL {W : World} {n : Nat} (h3 : Below n W w) (hn : n ≤ B) (hg : GrL ps w w') (hp : AllP (fun p => Ge p B) ps) (hW : n ≤ W.heap.size) : Below n W w' := by
  refine ⟨hg.os.trans h3.os, hg.tape.trans h3.tape, hg.output.trans h3.output, Nat.le_trans h3.size hg.size, fun i hi => ?_⟩
  refine (hg.block i (Nat.lt_of_lt_of_le (Nat.lt_of_lt_of_le hi hW) h3.size) fun p hm e => ?_).trans (h3.block i hi)
  have := hp p hm i e
  omega
theorem GB.goL (h : GB S B w) (hg : GrL ps w w') (hp : AllP (fun p => Ge p B) ps) : GB S B w' := by
  obtain ⟨W, h1, h2, h3⟩ := h
  exact ⟨W, h1, h2, belowL h3 h2 hg hp (Nat.le_refl _)⟩
theorem GB.g0 (h : GB S B w) (hg : w.grownBy w' none) : GB S B w' := h.goL (ps := []) (GrL.of0 hg) apN
theorem GB.mono {B' : Nat} (h : GB S B w) (hB : B ≤ B') : GB S B' w := by
  obtain ⟨W, h1, h2, h3⟩ := h
  exact ⟨W, h1, Nat.le_trans h2 hB, h3⟩
theorem GB.grown {W : World} (h : GOK S W) (hg : W.grownBy w none) : GB S W.heap.size w := ⟨W, h, Nat.le_refl _, below_gr hg⟩
/-- no error with a place lies there -/
def NoAt (w : World) (p : Option Nat) : Prop := ∀ g us, p = some g → ¬ Bl w g 160 us
theorem NoAt.bl (h : Bl w g e us) (ht : Nat.beq e 160 = false) : NoAt w (some g) := fun g' us' hg' hB => by
  cases hg'
  exact Bl.ne h hB (Nat.ne_of_beq_eq_false ht) rfl
theorem NoAt.own (h : Own f w B e A cc xs) (ht : Nat.beq e 160 = false) : NoAt w (blk A) := fun g' us' hg' hB => by
  rcases h.2 with ⟨hv, _⟩ | ⟨g, cap, cur, hv, _, hb, _⟩
  · simp only [Value.slice.injEq] at hv
    obtain ⟨rfl, _⟩ := hv
    cases hg'
  · simp only [Value.slice.injEq] at hv
    obtain ⟨rfl, _⟩ := hv
    cases hg'
    exact Bl.ne (us := cur.toList) hb hB (Nat.ne_of_beq_eq_false ht) rfl
theorem NoAt.map {κ ν : Type} {mk : κ → Value} {ok : κ → Prop} {fv : ν → Value} {mm : List (κ × ν)} (h : MapB mk ok fv w g mm) : NoAt w (some g) := fun g' us' hg' hB => by
  cases hg'
  obtain ⟨es, clock, hb, _⟩ := h
  unfold Bl at hB
  rw [hb] at hB
  cases hB
end
end Go.Proofs.YtjinkmipkfjblaaDoor

 /- strings.Builder, wherever it lies: its methods. -/
namespace Go.Proofs.YtjinkmipkfjblaaDoor
open Go Go.RowKit
section
variable {P : Program} {N : Nat} {L : Slots} {w : World} {ty : TypeId} {pos : String} {af : Array Edge} {dd : Option Tmp} {s t : TypeId} {x y : Operand} {e : TypeId} {us : List Value} {g off : Nat} {α : Type} {f : α → Value} {A : Option Addr} {c B : Nat} {xs : List α}
theorem shape_bl (h : Bl w g e us) : w.shape? g = some (e, us.length) := by
  unfold Bl at h
  simp [World.shape?, h]
theorem Yld.toUnsafe {T : TypeId} {j : TypeInfo} (hs : P.underlying s = some (.pointer T)) (hd : P.underlying t = some .unsafePointer) (hj : P.info? T = some j) (hz : j.size ≠ 0) (hB : Bl w g e us) (ho : off < us.length) (hx : opv L x = some (.pointer (some ⟨g, off, none⟩))) :
    Yld P N w ⟨dd, .convert s t x, ty, pos, af, none⟩ L (.pointer (some ⟨g, off, none⟩)) := fun a w1 hw ha => by
  unfold execOp
  simp only [ha.ev hx, Sem.run_bind, Lib.run_to_unsafe w1 ⟨g, off, none⟩ hs hd hj hz (shape_bl (bl_eqv hw hB)) ho, Result.andThen_ok, Sem.run_pure]
theorem Yld.fromUnsafe {T : TypeId} {j : TypeInfo} (hs : P.underlying s = some .unsafePointer) (hd : P.underlying t = some (.pointer T)) (hj : P.info? T = some j) (hB : Bl w g e us) (hl : liesAt P P.depth e (us.length / P.cellsOf e) off T 1 = true) (hx : opv L x = some (.pointer (some ⟨g, off, none⟩))) :
    Yld P N w ⟨dd, .convert s t x, ty, pos, af, none⟩ L (.pointer (some ⟨g, off, none⟩)) := fun a w1 hw ha => by
  unfold execOp
  simp only [ha.ev hx, Sem.run_bind, Lib.run_from_unsafe w1 ⟨g, off, none⟩ hs hd hj (shape_bl (bl_eqv hw hB)) hl, Result.andThen_ok, Sem.run_pure]
theorem Yld.noesc {fn : FuncId} {fd : Func} {ts : Array TypeId} {v : Value} (hf : P.funcs[fn]? = some fd) (hn : (fd.name == "runtime.NumGoroutine") = false) (hb : fd.body.isNone = true) (hn2 : Extern.findNext fd = none) (he : Extern.find fd = some Extern.AbiNoEscape.same) (hx : opv L x = some v) :
    Yld P N w ⟨dd, .call ⟨.value (.func fn), ⟨[x]⟩, ts⟩, ty, pos, af, none⟩ L v := fun a w1 hw ha => by
  have h1 := run_callFunc_extern hf hn hb hn2 he #[v] w1
  rw [Lib.run_noEscape] at h1
  simp only [Result.andThen_ok] at h1
  have hm : (⟨[x]⟩ : Array Operand).map a.eval = #[v] := by simp [ha.ev hx]
  unfold execOp
  simp only [resolve, Act.eval, hm, Deferred.ofValue, Sem.run_bind, Sem.run_pure, Result.andThen_ok, invoke]
  simp [h1]
theorem Yld.pneqsame {T : TypeId} {j : TypeInfo} {ad : Addr} (hp : P.underlying t = some (.pointer T)) (hj : P.info? T = some j) (hx : opv L x = some (.pointer (some ad))) (hy : opv L y = some (.pointer (some ad))) :
    Yld P N w ⟨dd, .binOp .neq t x y s, ty, pos, af, none⟩ L (.bool false) := fun a w1 _ ha =>
  exec_bin (ha.ev hx) (ha.ev hy) (by unfold eqGuard; rfl) (Lib.run_neq_ptr_same w1 ad hp hj)
theorem gr_freeze (w : World) (g n : Nat) : w.grownBy (w.freeze ⟨g, 0, none⟩ n) (some g) := by
  unfold World.freeze
  split
  · exact gr_refl w _
  · refine ⟨rfl, rfl, rfl, by simp, fun i hi hne => ?_⟩
    simp only [Array.getElem?_modify]
    rw [if_neg]
    intro e
    exact hne (by rw [← e])
/-- unsafe.SliceData -/
theorem Eff.sliceData {T : TypeId} {n : Nat} {u : List UInt8} (hT : P.underlying ty = some (.pointer T)) (hO : Own vb w B e A c u) (hn : n = u.length) (hx : opv L x = some (.slice A n c)) :
    Eff P N w ⟨dd, .call ⟨.builtin .unsafeSliceData, ⟨[x]⟩, ⟨[t]⟩⟩, ty, pos, af, none⟩ L fun v w' => w.grownBy w' none ∧ ((u = [] ∧ ∃ p, v = .pointer p) ∨ (u ≠ [] ∧ v = .pointer A)) := fun a w1 hw ha => by
  subst hn
  have hO1 := own_eqv hw hO
  have hrd := hO1.rd
  cases A with
  | none =>
    have hu : u = [] := by
      rcases hO.2 with ⟨hv, hl⟩ | ⟨g, cap, cur, hv, _⟩
      · exact List.eq_nil_of_length_eq_zero hl
      · simp at hv
    refine ⟨.pointer none, w1, ?_, gr_eqv (gr_refl w none) hw, .inl ⟨hu, none, rfl⟩⟩
    unfold execOp
    simp [resolve, invoke, builtin, ha.ev hx, Lib.run_unsafeSliceData_nil]
  | some ad =>
    by_cases hc : c = 0
    · subst hc
      have hu : u = [] := List.eq_nil_of_length_eq_zero (by have := hrd.cap; omega)
      rcases hO1.2 with ⟨hv, _⟩ | ⟨g, cap, cur, hv, hb, hg, _⟩
      · simp at hv
      · simp only [Value.slice.injEq, Option.some.injEq] at hv
        obtain ⟨rfl, _, rfl⟩ := hv
        have h1 := Lib.run_unsafeSliceData_zero w1 #[t] ty T hT ⟨g, 0, none⟩ u.length (e, cur.size) (by simp [World.shape?, hg])
        refine ⟨.pointer (some ⟨w1.heap.size, 0, none⟩), w1.alloc (.view ⟨g, 0, none⟩ T), ?_, eqv_gr hw (gr_alloc w1 _ none), .inl ⟨hu, _, rfl⟩⟩
        unfold execOp
        simp [resolve, invoke, builtin, ha.ev hx, h1]
    · refine ⟨.pointer (some ad), w1, ?_, gr_eqv (gr_refl w none) hw, ?_⟩
      · unfold execOp
        simp [resolve, invoke, builtin, ha.ev hx, Lib.run_unsafeSliceData_row w1 #[t] ty ad u.length c hc]
      · by_cases hu : u = []
        · exact .inl ⟨hu, _, rfl⟩
        · exact .inr ⟨hu, rfl⟩
/-- unsafe.String -/
theorem Eff.ustring {T ti : TypeId} {n : Nat} {u : List UInt8} {v : Value} (hT : P.underlying t = some (.pointer T)) (hc1 : P.cellsOf e = 1) (he : e = T) (hO : Own vb w B e A c u) (hn : n = u.length) (hx : opv L x = some v) (hv : (u = [] ∧ ∃ p, v = .pointer p) ∨ (u ≠ [] ∧ v = .pointer A)) (hy : opv L y = some (.int .i64 (n : Int))) :
    Eff P N w ⟨dd, .call ⟨.builtin .unsafeString, ⟨[x, y]⟩, ⟨[t, ti]⟩⟩, ty, pos, af, none⟩ L fun v w' => v = vs u ∧ w.grownBy w' (blk A) := fun a w1 hw ha => by
  subst hn
  rcases hv with ⟨rfl, p, rfl⟩ | ⟨hu, rfl⟩
  · refine ⟨vs [], w1, ?_, rfl, gr_eqv (gr_refl w _) hw⟩
    unfold execOp
    have h1 := Lib.run_unsafeString_none (P := P) w1 t ti ty p
    simp [resolve, invoke, builtin, ha.ev hx, ha.ev hy, h1]
    rfl
  · have hO1 := own_eqv hw hO
    rcases hO1.2 with ⟨_, hl⟩ | ⟨g, cap, cur, hv, hb, hg, hnc, hcm, hcs, htk⟩
    · exact absurd (List.eq_nil_of_length_eq_zero hl) hu
    · simp only [Value.slice.injEq] at hv
      obtain ⟨rfl, _, rfl⟩ := hv
      obtain ⟨ad, had, hcl⟩ := hO1.rd.cells hu
      cases had
      subst he
      have h1 := Lib.run_unsafeString_row (P := P) w1 t ti ty e hT hc1 g cur.size (by simp [World.shape?, hg]) u hu (by omega) (by have := hnc; simp only [maxLen] at hcm; omega) (fun j x hj => hcl j x hj)
      refine ⟨vs u, w1.freeze ⟨g, 0, none⟩ u.length, ?_, rfl, eqv_gr hw (gr_freeze w1 g _)⟩
      unfold execOp
      simp [resolve, invoke, builtin, ha.ev hx, ha.ev hy, h1]
      rfl
end
abbrev liesB (e : TypeId) (n off : Nat) : Prop := liesAt Tryd.prog Tryd.prog.depth e (n / Tryd.prog.cellsOf e) off 84 1 = true
theorem liesB_of {e : TypeId} {n off : Nat} (h : liesAt Tryd.prog Tryd.prog.depth e (n / Tryd.prog.cellsOf e) off 84 1 = true) : liesB e n off := h
theorem bldInfo : ∃ j, Tryd.prog.info? 84 = some j ∧ j.size ≠ 0 := by
  have h : (Tryd.prog.info? 84).map (fun i => Nat.beq i.size 0) = some false := by kernel_rfl
  rw [Option.map_eq_some_iff] at h
  obtain ⟨j, h1, h2⟩ := h
  exact ⟨j, h1, Nat.ne_of_beq_eq_false h2⟩
attribute [local irreducible] WL WC WX WQ WK WJ Yld Eff Ef0 Fn
theorem bcc_fn {w : World} {g e off : Nat} {us : List Value} {a : Option Addr} (hB : Bl w g e us) (h1 : us[off]? = some (.pointer a)) (ha : a = none ∨ a = some ⟨g, off, none⟩) (hl : liesB e us.length off) :
    Fn Tryd.prog 90 ⟨[.pointer (some ⟨g, off, none⟩)]⟩ w fun v w' => v = .tuple #[] ∧ Bl w' g e (us.set off (.pointer (some ⟨g, off, none⟩))) ∧ w.grownBy w' (some g) := by
  have ho : off < us.length := (List.getElem?_eq_some_iff.1 h1).1
  obtain ⟨j, hj, hz⟩ := bldInfo
  refine Fn.enter (by kernel_rfl) Tryd.func90 rfl Tryd.ntmps90 rfl ?_
  refine WC.seq ?_
  refine WC.region ?_
  refine WL.y rfl (Yld.pure tab_ok rfl) ?_
  refine WL.y rfl (Yld.pure tab_ok rfl) ?_
  refine WL.y rfl (Yld.pure tab_ok rfl) ?_
  refine WL.y rfl (Yld.bload tab_ok hB rfl rfl h1) ?_
  refine WL.y rfl (Yld.peqnil Tryd.underlying81 rfl rfl) ?_
  refine WL.nil (WX.then_normal ?_)
  rcases ha with rfl | rfl
  · refine WC.cond rfl (fun _ => ?_) (fun h => by cases h)
    refine WC.region ?_
    refine WL.y rfl (Yld.pure tab_ok rfl) ?_
    refine WL.y rfl (Yld.pure tab_ok rfl) ?_
    refine WL.y rfl (Yld.toUnsafe Tryd.underlying81 Tryd.underlying133 hj hz hB ho rfl) ?_
    refine WL.y rfl (Yld.noesc Tryd.func118 (by kernel_rfl) (by kernel_rfl) (by kernel_rfl) (by kernel_rfl) rfl) ?_
    refine WL.y rfl (Yld.fromUnsafe Tryd.underlying133 Tryd.underlying81 hj hB hl rfl) ?_
    refine WL.y rfl (Yld.pure tab_ok rfl) ?_
    refine WL.y rfl (Yld.pure tab_ok rfl) ?_
    refine WL.store1 one81 rfl rfl rfl hB ho (fun w1 h2 hg => ?_)
    refine WL.nil ?_
    exact WX.end0 rfl ⟨rfl, h2, hg⟩
  · refine WC.cond rfl (fun h => by cases h) (fun _ => ?_)
    refine WC.seq ?_
    refine WC.region ?_
    refine WL.y rfl (Yld.pure tab_ok rfl) ?_
    refine WL.y rfl (Yld.pure tab_ok rfl) ?_
    refine WL.y rfl (Yld.pure tab_ok rfl) ?_
    refine WL.y rfl (Yld.bload tab_ok hB rfl rfl h1) ?_
    refine WL.y rfl (Yld.pure tab_ok rfl) ?_
    refine WL.y rfl (Yld.pneqsame Tryd.underlying81 hj rfl rfl) ?_
    refine WL.nil (WX.then_normal ?_)
    refine WC.cond rfl (fun h => by cases h) (fun _ => ?_)
    refine WC.skip ?_
    refine WX.end0 rfl ⟨rfl, ?_, gr_refl w _⟩
    have e1 : us.set off (.pointer (some ⟨g, off, none⟩)) = us := List.ext_getElem? fun i => by
      rw [List.getElem?_set]
      split
      · rename_i hi
        subst hi
        exact h1.symm
      · rfl
    rw [e1]; exact hB
theorem bws_fn {w : World} {g e off n c B : Nat} {us : List Value} {a A : Option Addr} {b s : List UInt8} (hB : Bl w g e us) (ha : a = none ∨ a = some ⟨g, off, none⟩) (h1 : us[off]? = some (.pointer a)) (hn : n = b.length) (h2 : us[off + 1]? = some (.slice A n c)) (hl : liesB e us.length off)
    (hO : Own vb w B 5 A c b) (hd : Dj (some g) (blk A)) (hlen : b.length + s.length ≤ 140737488355328) (hBw : B ≤ w.heap.size) :
    Fn Tryd.prog 61 ⟨[.pointer (some ⟨g, off, none⟩), vs s]⟩ w fun v w' => v = .tuple #[.int .i64 (s.length : Int), .nilIface] ∧ ∃ A' c', Bl w' g e ((us.set off (.pointer (some ⟨g, off, none⟩))).set (off + 1) (.slice A' (b ++ s).length c')) ∧ Own vb w' B 5 A' c' (b ++ s) ∧ GrL [some g, blk A] w w' ∧ InP [some g, blk A] w.heap.size (blk A') ∧ Dj (some g) (blk A') := by
  subst hn
  have ho : off < us.length := (List.getElem?_eq_some_iff.1 h1).1
  have ho2 : off + 1 < us.length := (List.getElem?_eq_some_iff.1 h2).1
  refine Fn.enter (by kernel_rfl) Tryd.func61 rfl Tryd.ntmps61 rfl ?_
  refine WC.seq ?_
  refine WC.region ?_
  refine WL.y rfl (Yld.pure tab_ok rfl) ?_
  refine WL.y rfl (Yld.pure tab_ok rfl) ?_
  refine WL.nil (WX.then_normal ?_)
  refine WC.seq ?_
  refine WC.region ?_
  refine WL.y rfl (Yld.pure tab_ok rfl) ?_
  refine WL.call rfl rfl (bcc_fn hB h1 ha hl) ?_
  rintro _ w1 ⟨rfl, hB1, hg1⟩
  refine WL.nil (WX.then_normal ?_)
  have hO1 := hO.go hg1 hd.symm
  have hu1 : (us.set off (.pointer (some ⟨g, off, none⟩)))[off + 1]? = some (.slice A b.length c) := by rw [List.getElem?_set_ne (by omega)]; exact h2
  have hl1 : (us.set off (.pointer (some ⟨g, off, none⟩))).length = us.length := List.length_set
  have hlm := hO.len
  refine WC.seq ?_
  refine WC.region ?_
  refine WL.y rfl (Yld.pure tab_ok rfl) ?_
  refine WL.y rfl (Yld.pure tab_ok rfl) ?_
  refine WL.y rfl (Yld.pure tab_ok rfl) ?_
  refine WL.y rfl (Yld.pure tab_ok rfl) ?_
  refine WL.y rfl (Yld.bload tab_ok hB1 rfl rfl hu1) ?_
  refine WL.y rfl (Yld.pure tab_ok rfl) ?_
  refine WL.appendS tab_ok rfl rfl rfl hO1 rfl rfl rfl (by first | omega | (simp only [maxLen]; omega)) (by first | omega | (simp only [maxLen]; omega)) (Nat.le_trans hBw hg1.size) (fun A' c' w2 hO2 hg2 hk => ?_)
  have hB2 := hB1.go hg2 hd
  refine WL.y rfl (Yld.pure tab_ok rfl) ?_
  refine WL.y rfl (Yld.pure tab_ok rfl) ?_
  have hd2 : Dj (some g) (blk A') := (Dj.app hd.symm hB1.lt' hk).symm
  refine WL.store1 one82 rfl rfl rfl hB2 (by rw [hl1]; exact ho2) (fun w3 hB3 hg3 => ?_)
  have hO3 := hO2.go hg3 hd2.symm
  refine WL.nil (WX.then_normal ?_)
  refine WC.seq ?_
  refine WC.region ?_
  refine WL.y rfl (Yld.pure tab_ok rfl) ?_
  refine WL.y rfl (Yld.pure tab_ok rfl) ?_
  refine WL.y rfl (Yld.pure tab_ok rfl) ?_
  refine WL.y rfl (Yld.pure tab_ok rfl) ?_
  refine WL.nil (WX.then_normal ?_)
  refine WC.ret ?_
  have m1 : List.Mem (some g) [some g, blk A] := List.Mem.head _
  have m2 : List.Mem (blk A) [some g, blk A] := List.Mem.tail _ (List.Mem.head _)
  exact WX.ret2 rfl rfl rfl ⟨rfl, A', c', hB3, hO3, ((GrL.mod (GrL.refl w) hg1 (InP.mem m1)).mod hg2 (InP.mem m2)).mod hg3 (InP.mem m1), (InP.app (InP.mem m2) hk hg1.size), hd2⟩
theorem bstr_fn {w : World} {g e off n c B : Nat} {us : List Value} {A : Option Addr} {b : List UInt8} (hB : Bl w g e us) (h2 : us[off + 1]? = some (.slice A n c)) (hn : n = b.length) (hO : Own vb w B 5 A c b) (hd : Dj (some g) (blk A)) :
    Fn Tryd.prog 63 ⟨[.pointer (some ⟨g, off, none⟩)]⟩ w fun v w' => v = vs b ∧ Bl w' g e us ∧ GrL [blk A] w w' := by
  refine Fn.enter (by kernel_rfl) Tryd.func63 rfl Tryd.ntmps63 rfl ?_
  refine WC.seq ?_
  refine WC.region ?_
  refine WL.y rfl (Yld.pure tab_ok rfl) ?_
  refine WL.nil (WX.then_normal ?_)
  refine WC.seq ?_
  refine WC.chainF (fun k => !(Nat.beq k 4 || Nat.beq k 10)) (LD [3, 8] (fun w' => Bl w' g e us)) mixed (by kernel_rfl) (fun k w' h _ => bl_eqv h hB) ?_
  refine WJ.y rfl rfl (fun w' hw' => Yld.pure tab_ok rfl) ?_
  refine WJ.y rfl rfl (fun w' hw' => Yld.pure tab_ok rfl) ?_
  refine WJ.y rfl rfl (fun w' hw' => Yld.pure tab_ok rfl) ?_
  refine WJ.y rfl rfl (fun w' hw' => Yld.bload tab_ok (hw' rfl) rfl rfl h2) ?_
  refine WJ.putw rfl wants_none rfl (Eff.sliceData Tryd.underlying112 hO hn rfl) (fun v w' h => DD.keep (Bl.g0 hB h.1)) ?_
  rintro v w1 ⟨hg1, hv⟩
  refine WJ.y rfl rfl (fun w' hw' => Yld.pure tab_ok rfl) ?_
  refine WJ.y rfl rfl (fun w' hw' => Yld.pure tab_ok rfl) ?_
  refine WJ.y rfl rfl (fun w' hw' => Yld.pure tab_ok rfl) ?_
  refine WJ.y rfl rfl (fun w' hw' => Yld.bload tab_ok (hw' rfl) rfl rfl h2) ?_
  refine WJ.y rfl rfl (fun w' hw' => Yld.pure tab_ok rfl) ?_
  have hB1 := hB.g0 hg1
  refine WJ.putw rfl wants_none rfl (Eff.ustring Tryd.underlying112 (by kernel_rfl) rfl (hO.grown hg1) hn rfl hv rfl) (fun v w' h => DD.past (by kernel_rfl)) ?_
  rintro _ w2 ⟨rfl, hg2⟩
  refine WJ.y rfl rfl (fun w' hw' => Yld.pure tab_ok rfl) ?_
  refine WJ.nil (WX.then_normal ?_)
  refine WC.ret ?_
  exact WX.ret1 rfl rfl ⟨rfl, hB1.go hg2 hd, (GrL.of0 hg1).mod hg2 (InP.mem (List.Mem.head _))⟩
theorem blen_fn {w : World} {g e off n c : Nat} {us : List Value} {A : Option Addr} {b : List UInt8} (hB : Bl w g e us) (h2 : us[off + 1]? = some (.slice A n c)) (_ : n = b.length) :
    Fn Tryd.prog 82 ⟨[.pointer (some ⟨g, off, none⟩)]⟩ w fun v w' => w = w' ∧ v = .int .i64 (n : Int) := by
  refine Fn.enter (by kernel_rfl) Tryd.func82 rfl Tryd.ntmps82 rfl ?_
  refine WC.seq ?_
  refine WC.region ?_
  refine WL.y rfl (Yld.pure tab_ok rfl) ?_
  refine WL.nil (WX.then_normal ?_)
  refine WC.seq ?_
  refine WC.region ?_
  refine WL.y rfl (Yld.pure tab_ok rfl) ?_
  refine WL.y rfl (Yld.pure tab_ok rfl) ?_
  refine WL.y rfl (Yld.pure tab_ok rfl) ?_
  refine WL.y rfl (Yld.bload tab_ok hB rfl rfl h2) ?_
  refine WL.y rfl (Yld.pure tab_ok rfl) ?_
  refine WL.y rfl (Yld.pure tab_ok rfl) ?_
  refine WL.nil (WX.then_normal ?_)
  refine WC.ret ?_
  exact WX.ret1 rfl rfl ⟨rfl, rfl⟩
theorem bwb_fn {w : World} {g e off n c B : Nat} {us : List Value} {a A : Option Addr} {b : List UInt8} {x : UInt8} (hB : Bl w g e us) (ha : a = none ∨ a = some ⟨g, off, none⟩) (h1 : us[off]? = some (.pointer a)) (hn : n = b.length) (h2 : us[off + 1]? = some (.slice A n c)) (hl : liesB e us.length off)
    (hO : Own vb w B 5 A c b) (hd : Dj (some g) (blk A)) (hlen : b.length + ([x] : List UInt8).length ≤ 140737488355328) (hBw : B ≤ w.heap.size) :
    Fn Tryd.prog 62 ⟨[.pointer (some ⟨g, off, none⟩), vb x]⟩ w fun v w' => v = .nilIface ∧ ∃ A' c', Bl w' g e ((us.set off (.pointer (some ⟨g, off, none⟩))).set (off + 1) (.slice A' (b ++ [x]).length c')) ∧ Own vb w' B 5 A' c' (b ++ [x]) ∧ GrL [some g, blk A] w w' ∧ InP [some g, blk A] w.heap.size (blk A') ∧ Dj (some g) (blk A') := by
  subst hn
  have ho : off < us.length := (List.getElem?_eq_some_iff.1 h1).1
  have ho2 : off + 1 < us.length := (List.getElem?_eq_some_iff.1 h2).1
  refine Fn.enter (by kernel_rfl) Tryd.func62 rfl Tryd.ntmps62 rfl ?_
  refine WC.seq ?_
  refine WC.region ?_
  refine WL.y rfl (Yld.pure tab_ok rfl) ?_
  refine WL.nil (WX.then_normal ?_)
  refine WC.seq ?_
  refine WC.region ?_
  refine WL.y rfl (Yld.pure tab_ok rfl) ?_
  refine WL.call rfl rfl (bcc_fn hB h1 ha hl) ?_
  rintro _ w1 ⟨rfl, hB1, hg1⟩
  refine WL.nil (WX.then_normal ?_)
  have hO1 := hO.go hg1 hd.symm
  have hu1 : (us.set off (.pointer (some ⟨g, off, none⟩)))[off + 1]? = some (.slice A b.length c) := by rw [List.getElem?_set_ne (by omega)]; exact h2
  have hl1 : (us.set off (.pointer (some ⟨g, off, none⟩))).length = us.length := List.length_set
  have hlm := hO.len
  refine WC.seq ?_
  refine WC.region ?_
  refine WL.y rfl (Yld.pure tab_ok rfl) ?_
  refine WL.y rfl (Yld.pure tab_ok rfl) ?_
  refine WL.y rfl (Yld.pure tab_ok rfl) ?_
  refine WL.y rfl (Yld.pure tab_ok rfl) ?_
  refine WL.y rfl (Yld.bload tab_ok hB1 rfl rfl hu1) ?_
  refine WL.y rfl (Yld.pure tab_ok rfl) ?_
  refine WL.lit tab_ok rfl rfl rfl (all1c rfl all1n) rfl (by omega) (fun g2 w2 hL hg2 hl2 => ?_)
  replace hL : Bl w2 g2 5 (([x] : List UInt8).map vb) := hL
  have hB2 := hB1.g0 hg2
  have hO2 := hO1.grown hg2
  have hX : Own vb w2 w1.heap.size 5 (some ⟨g2, 0, none⟩) 1 ([x] : List UInt8) := Own.ofBl hL hl2 (by simp [maxLen]) rfl
  refine WL.append tab_ok rfl rfl One.b hO2 rfl rfl hX.rd rfl rfl (by first | omega | (simp only [maxLen]; omega) | (simp at hlen ⊢; omega)) (by first | omega | (simp only [maxLen]; omega) | (simp at hlen ⊢; simp only [maxLen]; omega)) (Nat.le_trans hBw (Nat.le_trans hg1.size hg2.size)) (fun A' c' w3 hO3 hg3 hk => ?_)
  have hB3 := hB2.go hg3 hd
  refine WL.y rfl (Yld.pure tab_ok rfl) ?_
  refine WL.y rfl (Yld.pure tab_ok rfl) ?_
  have hd2 : Dj (some g) (blk A') := (Dj.app hd.symm hB2.lt' hk).symm
  refine WL.store1 one82 rfl rfl rfl hB3 (by rw [hl1]; exact ho2) (fun w4 hB4 hg4 => ?_)
  have hO4 := hO3.go hg4 hd2.symm
  refine WL.nil (WX.then_normal ?_)
  refine WC.seq ?_
  refine WC.region ?_
  refine WL.y rfl (Yld.pure tab_ok rfl) ?_
  refine WL.nil (WX.then_normal ?_)
  refine WC.ret ?_
  have m1 : List.Mem (some g) [some g, blk A] := List.Mem.head _
  have m2 : List.Mem (blk A) [some g, blk A] := List.Mem.tail _ (List.Mem.head _)
  exact WX.ret1 rfl rfl ⟨rfl, A', c', hB4, hO4, (((GrL.mod (GrL.refl w) hg1 (InP.mem m1)).add0 hg2).mod hg3 (InP.mem m2)).mod hg4 (InP.mem m1), (InP.app (InP.mem m2) hk (Nat.le_trans hg1.size hg2.size)), hd2⟩
end Go.Proofs.YtjinkmipkfjblaaDoor


 /-
  DERIVED: THE SHELF's CONTRACTS AT THIS DUMP, IN PLAIN WORDS (tools/lay-plain.mjs out of 'TrydShelf.lean', which tools/lay-shelf.mjs wrote): THE SAME DECLARATIONS UNDER THE SAME NAMES: 'import', 'namespace', 'open', 'def', 'theorem' AND NOTHING ELSE: no command of the shelf's: FOR A HAND-IN. Each laying: the table of numbers ('.._ren') and one theorem, a field a fact of the dump's own or the kernel's comparison; each contract: ONE APPLICATION.
-/
namespace Go.Proofs
open Go.Shelf
def Tryd.lays156_ren : Go.Shelf.Ren := ⟨fun | 156 => 57 | 165 => 85 | 166 => 61 | 169 => 63 | 240 => 90 | 241 => 115 | 276 => 118 | 277 => 132 | n => n, fun | 31 => 22 | 9 => 9 | 3 => 3 | 4 => 4 | 0 => 0 | 20 => 20 | 72 => 84 | 76 => 85 | 70 => 81 | 37 => 82 | 75 => 29 | 127 => 112 | 164 => 133 | 5 => 5 | 80 => 32 | n => n, fun | n => n⟩
theorem Tryd.lays156 : Go.Proofs.Lays.n156 Tryd.prog Tryd.lays156_ren := {
  mixed := by kernel_rfl
  f156 := Tryd.func57.trans (congrArg some (by kernel_rfl))
  f165 := Tryd.func85.trans (congrArg some (by kernel_rfl))
  f166 := Tryd.func61.trans (congrArg some (by kernel_rfl))
  f169 := Tryd.func63.trans (congrArg some (by kernel_rfl))
  f240 := Tryd.func90.trans (congrArg some (by kernel_rfl))
  f241 := Tryd.func115.trans (congrArg some (by kernel_rfl))
  f276 := Tryd.func118.trans (congrArg some (by kernel_rfl))
  f277 := Tryd.func132.trans (congrArg some (by kernel_rfl))
  t0 := Tryd.underlying0
  a0 := Tryd.isAgg0
  z0 := Tryd.sizeOf0
  v0 := Tryd.zeroValue0
  t3 := Tryd.underlying3
  a3 := Tryd.isAgg3
  z3 := Tryd.sizeOf3
  v3 := Tryd.zeroValue3
  t4 := Tryd.underlying4
  a4 := Tryd.isAgg4
  z4 := Tryd.sizeOf4
  v4 := Tryd.zeroValue4
  t9 := Tryd.underlying9
  a9 := Tryd.isAgg9
  z9 := Tryd.sizeOf9
  v9 := Tryd.zeroValue9
  t20 := Tryd.underlying20
  a20 := Tryd.isAgg20
  z20 := Tryd.sizeOf20
  v20 := Tryd.zeroValue20
  t31 := Tryd.underlying22
  a31 := Tryd.isAgg22
  z31 := Tryd.sizeOf22
  v31 := Tryd.zeroValue22
  t37 := Tryd.underlying82
  a37 := Tryd.isAgg82
  z37 := Tryd.sizeOf82
  v37 := Tryd.zeroValue82
  t70 := Tryd.underlying81
  a70 := Tryd.isAgg81
  z70 := Tryd.sizeOf81
  v70 := Tryd.zeroValue81
  t72 := Tryd.underlying84
  a72 := Tryd.isAgg84
  z72 := Tryd.sizeOf84
  v72 := Tryd.zeroValue84
  t75 := Tryd.underlying29
  a75 := Tryd.isAgg29
  z75 := Tryd.sizeOf29
  v75 := Tryd.zeroValue29
  t76 := Tryd.underlying85
  a76 := Tryd.isAgg85
  z76 := Tryd.sizeOf85
  v76 := Tryd.zeroValue85
  t127 := Tryd.underlying112
  a127 := Tryd.isAgg112
  z127 := Tryd.sizeOf112
  v127 := Tryd.zeroValue112
  t164 := Tryd.underlying133
  a164 := Tryd.isAgg133
  z164 := Tryd.sizeOf133
  v164 := Tryd.zeroValue133 }
theorem Tryd.Builder_Extra_156 : Builder.Extra Tryd.prog Tryd.lays156_ren := {
  sizeBuilder := by kernel_rfl
  liesBuilder := by kernel_rfl
  t5 := Tryd.underlying5
  a5 := Tryd.isAgg5
  z5 := Tryd.sizeOf5
  v5 := Tryd.zeroValue5
  infoByte := by kernel_rfl
  cellsByte := by kernel_rfl
  sizeByte := by kernel_rfl
  neB5 := by decide }
open Go.RowKit in
/-- No element: the empty string; the world is as_ it was. (Whatever the slice's address and capacity: a nil slice too.) (LAID: no walk: one application.) -/
theorem Tryd.strings_Join_none (a : Option Addr) (c : Nat) (sep : ByteArray) (w : World) :
    Calls Tryd.prog 57 #[.slice a 0 c, .string sep] w fun e w' => e = .returned (.string ⟨#[]⟩) ∧ w' = w := Any.strings_Join_none Tryd.lays156 Tryd.Builder_Extra_156 a c sep w
open Go.RowKit in
/-- strings.Join: "Join concatenates the elements of its first argument to create a single string. The separator string sep is placed between elements in the resulting string.": HOWEVER MANY ELEMENTS. Below the heap's end the world is as_ it was. (LAID: no walk: one application.) -/
theorem Tryd.strings_Join (bk o c : Nat) (xs : List ByteArray) (sep : ByteArray) (w : World) (hcells : ∀ (j : Nat) x, xs[j]? = some x → w.cell? ⟨bk, o + j, none⟩ = some (.string x)) (hbk : bk < w.heap.size) (hN : xs.length ≤ 140737488355328) (hcap : xs.length ≤ c) (hlen : (Lib.join (xs.map (·.data.toList)) sep.data.toList).length ≤ 140737488355328) :
    Calls Tryd.prog 57 #[.slice (some ⟨bk, o, none⟩) xs.length c, .string sep] w fun e w' => e = .returned (.string ⟨(Lib.join (xs.map (·.data.toList)) sep.data.toList).toArray⟩) ∧ Below w.heap.size w w' := Any.strings_Join Tryd.lays156 Tryd.Builder_Extra_156 bk o c xs sep w hcells hbk hN hcap hlen
def Tryd.lays137_ren : Go.Shelf.Ren := ⟨fun | 137 => 54 | 217 => 83 | 266 => 111 | n => n, fun | 9 => 9 | 5 => 5 | 3 => 3 | n => n, fun | n => n⟩
theorem Tryd.lays137 : Go.Proofs.Lays.n137 Tryd.prog Tryd.lays137_ren := {
  mixed := by kernel_rfl
  f137 := Tryd.func54.trans (congrArg some (by kernel_rfl))
  f217 := Tryd.func83.trans (congrArg some (by kernel_rfl))
  f266 := Tryd.func111.trans (congrArg some (by kernel_rfl))
  t3 := Tryd.underlying3
  a3 := Tryd.isAgg3
  z3 := Tryd.sizeOf3
  v3 := Tryd.zeroValue3
  t5 := Tryd.underlying5
  a5 := Tryd.isAgg5
  z5 := Tryd.sizeOf5
  v5 := Tryd.zeroValue5
  t9 := Tryd.underlying9
  a9 := Tryd.isAgg9
  z9 := Tryd.sizeOf9
  v9 := Tryd.zeroValue9 }
open Go.RowKit in
/-- strings.IndexByte: "IndexByte returns the index of the first instance of c in s, or -1 if c is not present in s.": IT RETURNS 'Lib.indexByte s c'; the world is as_ it was. (LAID: no walk: one application.) -/
theorem Tryd.strings_IndexByte (s : ByteArray) (c : Int) (w : World) :
    Calls Tryd.prog 54 #[.string s, .int .u8 c] w fun e w' => e = .returned (.int .i64 (Lib.indexByte s.data.toList c.toNat.toUInt8)) ∧ w' = w := Any.strings_IndexByte Tryd.lays137 s c w
def Tryd.lays143_ren : Go.Shelf.Ren := ⟨fun | 143 => 55 | 219 => 84 | 217 => 83 | 225 => 112 | 224 => 113 | 267 => 114 | 266 => 111 | 314 => 131 | n => n, fun | 9 => 9 | 3 => 3 | 4 => 4 | 5 => 5 | 46 => 100 | 146 => 135 | 51 => 127 | n => n, fun | 1 => 3 | n => n⟩
theorem Tryd.lays143 : Go.Proofs.Lays.n143 Tryd.prog Tryd.lays143_ren := {
  mixed := by kernel_rfl
  f143 := Tryd.func55.trans (congrArg some (by kernel_rfl))
  f217 := Tryd.func83.trans (congrArg some (by kernel_rfl))
  f219 := Tryd.func84.trans (congrArg some (by kernel_rfl))
  f224 := Tryd.func113.trans (congrArg some (by kernel_rfl))
  f225 := Tryd.func112.trans (congrArg some (by kernel_rfl))
  f266 := Tryd.func111.trans (congrArg some (by kernel_rfl))
  f267 := Tryd.func114.trans (congrArg some (by kernel_rfl))
  f314 := Tryd.func131.trans (congrArg some (by kernel_rfl))
  t3 := Tryd.underlying3
  a3 := Tryd.isAgg3
  z3 := Tryd.sizeOf3
  v3 := Tryd.zeroValue3
  t4 := Tryd.underlying4
  a4 := Tryd.isAgg4
  z4 := Tryd.sizeOf4
  v4 := Tryd.zeroValue4
  t5 := Tryd.underlying5
  a5 := Tryd.isAgg5
  z5 := Tryd.sizeOf5
  v5 := Tryd.zeroValue5
  t9 := Tryd.underlying9
  a9 := Tryd.isAgg9
  z9 := Tryd.sizeOf9
  v9 := Tryd.zeroValue9
  t46 := Tryd.underlying100
  a46 := Tryd.isAgg100
  z46 := Tryd.sizeOf100
  v46 := Tryd.zeroValue100
  t51 := Tryd.underlying127
  a51 := Tryd.isAgg127
  z51 := Tryd.sizeOf127
  v51 := Tryd.zeroValue127
  t146 := Tryd.underlying135
  a146 := Tryd.isAgg135
  z146 := Tryd.sizeOf135
  v146 := Tryd.zeroValue135
  g1 := by kernel_rfl }
open Go.RowKit Go.Lib in
/-- strings.Index: "Index returns the index of the first instance of substr in s, or -1 if substr is not present in s.": IT RETURNS 'Lib.index s substr'; the world is as_ it was. (LAID: no walk: one application.) -/
theorem Tryd.strings_Index (s sub : ByteArray) (m : Int) (w : World) (hs : s.size < 4294967281) (hm : w.cell? ⟨3, 0, none⟩ = some (.int .i64 m)) :
    Calls Tryd.prog 55 #[.string s, .string sub] w fun e w' => e = .returned (.int .i64 (Lib.index s.data.toList sub.data.toList)) ∧ w' = w := Any.strings_Index Tryd.lays143 s sub m w hs hm
def Tryd.lays138_ren : Go.Shelf.Ren := ⟨fun | 138 => 58 | 195 => 86 | 218 => 87 | 143 => 55 | 219 => 84 | 217 => 83 | 225 => 112 | 224 => 113 | 267 => 114 | 266 => 111 | 314 => 131 | n => n, fun | 9 => 9 | 3 => 3 | 4 => 4 | 5 => 5 | 0 => 0 | 46 => 100 | 146 => 135 | 51 => 127 | n => n, fun | 1 => 3 | n => n⟩
theorem Tryd.lays138 : Go.Proofs.Lays.n138 Tryd.prog Tryd.lays138_ren := {
  mixed := by kernel_rfl
  f138 := Tryd.func58.trans (congrArg some (by kernel_rfl))
  f143 := Tryd.func55.trans (congrArg some (by kernel_rfl))
  f195 := Tryd.func86.trans (congrArg some (by kernel_rfl))
  f217 := Tryd.func83.trans (congrArg some (by kernel_rfl))
  f218 := Tryd.func87.trans (congrArg some (by kernel_rfl))
  f219 := Tryd.func84.trans (congrArg some (by kernel_rfl))
  f224 := Tryd.func113.trans (congrArg some (by kernel_rfl))
  f225 := Tryd.func112.trans (congrArg some (by kernel_rfl))
  f266 := Tryd.func111.trans (congrArg some (by kernel_rfl))
  f267 := Tryd.func114.trans (congrArg some (by kernel_rfl))
  f314 := Tryd.func131.trans (congrArg some (by kernel_rfl))
  t0 := Tryd.underlying0
  a0 := Tryd.isAgg0
  z0 := Tryd.sizeOf0
  v0 := Tryd.zeroValue0
  t3 := Tryd.underlying3
  a3 := Tryd.isAgg3
  z3 := Tryd.sizeOf3
  v3 := Tryd.zeroValue3
  t4 := Tryd.underlying4
  a4 := Tryd.isAgg4
  z4 := Tryd.sizeOf4
  v4 := Tryd.zeroValue4
  t5 := Tryd.underlying5
  a5 := Tryd.isAgg5
  z5 := Tryd.sizeOf5
  v5 := Tryd.zeroValue5
  t9 := Tryd.underlying9
  a9 := Tryd.isAgg9
  z9 := Tryd.sizeOf9
  v9 := Tryd.zeroValue9
  t46 := Tryd.underlying100
  a46 := Tryd.isAgg100
  z46 := Tryd.sizeOf100
  v46 := Tryd.zeroValue100
  t51 := Tryd.underlying127
  a51 := Tryd.isAgg127
  z51 := Tryd.sizeOf127
  v51 := Tryd.zeroValue127
  t146 := Tryd.underlying135
  a146 := Tryd.isAgg135
  z146 := Tryd.sizeOf135
  v146 := Tryd.zeroValue135
  g1 := by kernel_rfl }
open Go.RowKit Go.Lib in
/-- strings.Count at whatever sep that is not empty: the two roads under one statement. (LAID: no walk: one application.) -/
theorem Tryd.strings_Count_any (s sep : ByteArray) (m : Int) (w : World) (hs : s.size < 4294967281) (hm : w.cell? ⟨3, 0, none⟩ = some (.int .i64 m)) (h1 : 1 ≤ sep.size) :
    Calls Tryd.prog 58 #[.string s, .string sep] w fun e w' => e = .returned (.int .i64 (Lib.countB s sep)) ∧ w' = w := Any.strings_Count_any Tryd.lays138 s sep m w hs hm h1
def Tryd.lays147_ren : Go.Shelf.Ren := ⟨fun | 147 => 59 | 221 => 88 | 268 => 116 | 138 => 58 | 143 => 55 | 195 => 86 | 197 => 89 | 218 => 87 | 219 => 84 | 260 => 117 | 217 => 83 | 225 => 112 | 224 => 113 | 267 => 114 | 266 => 111 | 314 => 131 | n => n, fun | 9 => 9 | 3 => 3 | 31 => 22 | 4 => 4 | 0 => 0 | 105 => 110 | 21 => 21 | 5 => 5 | 46 => 100 | 119 => 152 | 139 => 155 | 138 => 154 | 146 => 135 | 51 => 127 | n => n, fun | 1 => 3 | 3 => 4 | 4 => 5 | n => n⟩
theorem Tryd.lays147 : Go.Proofs.Lays.n147 Tryd.prog Tryd.lays147_ren := {
  mixed := by kernel_rfl
  f138 := Tryd.func58.trans (congrArg some (by kernel_rfl))
  f143 := Tryd.func55.trans (congrArg some (by kernel_rfl))
  f147 := Tryd.func59.trans (congrArg some (by kernel_rfl))
  f195 := Tryd.func86.trans (congrArg some (by kernel_rfl))
  f197 := Tryd.func89.trans (congrArg some (by kernel_rfl))
  f217 := Tryd.func83.trans (congrArg some (by kernel_rfl))
  f218 := Tryd.func87.trans (congrArg some (by kernel_rfl))
  f219 := Tryd.func84.trans (congrArg some (by kernel_rfl))
  f221 := Tryd.func88.trans (congrArg some (by kernel_rfl))
  f224 := Tryd.func113.trans (congrArg some (by kernel_rfl))
  f225 := Tryd.func112.trans (congrArg some (by kernel_rfl))
  f260 := Tryd.func117.trans (congrArg some (by kernel_rfl))
  f266 := Tryd.func111.trans (congrArg some (by kernel_rfl))
  f267 := Tryd.func114.trans (congrArg some (by kernel_rfl))
  f268 := Tryd.func116.trans (congrArg some (by kernel_rfl))
  f314 := Tryd.func131.trans (congrArg some (by kernel_rfl))
  t0 := Tryd.underlying0
  a0 := Tryd.isAgg0
  z0 := Tryd.sizeOf0
  v0 := Tryd.zeroValue0
  t3 := Tryd.underlying3
  a3 := Tryd.isAgg3
  z3 := Tryd.sizeOf3
  v3 := Tryd.zeroValue3
  t4 := Tryd.underlying4
  a4 := Tryd.isAgg4
  z4 := Tryd.sizeOf4
  v4 := Tryd.zeroValue4
  t5 := Tryd.underlying5
  a5 := Tryd.isAgg5
  z5 := Tryd.sizeOf5
  v5 := Tryd.zeroValue5
  t9 := Tryd.underlying9
  a9 := Tryd.isAgg9
  z9 := Tryd.sizeOf9
  v9 := Tryd.zeroValue9
  t21 := Tryd.underlying21
  a21 := Tryd.isAgg21
  z21 := Tryd.sizeOf21
  v21 := Tryd.zeroValue21
  t31 := Tryd.underlying22
  a31 := Tryd.isAgg22
  z31 := Tryd.sizeOf22
  v31 := Tryd.zeroValue22
  t46 := Tryd.underlying100
  a46 := Tryd.isAgg100
  z46 := Tryd.sizeOf100
  v46 := Tryd.zeroValue100
  t51 := Tryd.underlying127
  a51 := Tryd.isAgg127
  z51 := Tryd.sizeOf127
  v51 := Tryd.zeroValue127
  t105 := Tryd.underlying110
  a105 := Tryd.isAgg110
  z105 := Tryd.sizeOf110
  v105 := Tryd.zeroValue110
  t119 := Tryd.underlying152
  a119 := Tryd.isAgg152
  z119 := Tryd.sizeOf152
  t138 := Tryd.underlying154
  a138 := Tryd.isAgg154
  z138 := Tryd.sizeOf154
  v138 := Tryd.zeroValue154
  t139 := Tryd.underlying155
  a139 := Tryd.isAgg155
  z139 := Tryd.sizeOf155
  v139 := Tryd.zeroValue155
  t146 := Tryd.underlying135
  a146 := Tryd.isAgg135
  z146 := Tryd.sizeOf135
  v146 := Tryd.zeroValue135
  g1 := by kernel_rfl
  g3 := by kernel_rfl
  g4 := by kernel_rfl }
open Go.RowKit Go.Lib in
/-- strings.SplitN, n > 0. (LAID: no walk: one application.) -/
theorem Tryd.strings_SplitN (s sep : ByteArray) (n : Nat) (m : Int) (w : World) (hs : s.size < 4294967281) (hm : w.cell? ⟨3, 0, none⟩ = some (.int .i64 m)) (h1 : 1 ≤ sep.size) (hn : 1 ≤ n) (hn63 : n ≤ 9223372036854775807) :
    Calls Tryd.prog 59 #[.string s, .string sep, .int .i64 n] w fun e w' =>
      e = .returned (.slice (some ⟨w.heap.size, 0, none⟩) (Lib.splitB sep 0 (min n (s.size + 1) - 1) s).length (min n (s.size + 1))) ∧ w' = w.alloc (.cells (Lib.cellsOf (Lib.splitB sep 0 (min n (s.size + 1) - 1) s) (min n (s.size + 1))) 9) := Any.strings_SplitN Tryd.lays147 (by kernel_rfl) s sep n m w hs hm h1 hn hn63
def Tryd.lays154_ren : Go.Shelf.Ren := ⟨fun | 154 => 60 | 138 => 58 | 165 => 85 | 143 => 55 | 166 => 61 | 197 => 89 | 169 => 63 | 195 => 86 | 218 => 87 | 240 => 90 | 241 => 115 | 219 => 84 | 260 => 117 | 276 => 118 | 277 => 132 | 217 => 83 | 225 => 112 | 224 => 113 | 267 => 114 | 266 => 111 | 314 => 131 | n => n, fun | 9 => 9 | 3 => 3 | 4 => 4 | 72 => 84 | 0 => 0 | 76 => 85 | 105 => 110 | 21 => 21 | 5 => 5 | 70 => 81 | 20 => 20 | 37 => 82 | 75 => 29 | 127 => 112 | 164 => 133 | 46 => 100 | 119 => 152 | 139 => 155 | 138 => 154 | 146 => 135 | 51 => 127 | 80 => 32 | n => n, fun | 1 => 3 | 3 => 4 | 4 => 5 | n => n⟩
theorem Tryd.lays154 : Go.Proofs.Lays.n154 Tryd.prog Tryd.lays154_ren := {
  mixed := by kernel_rfl
  f138 := Tryd.func58.trans (congrArg some (by kernel_rfl))
  f143 := Tryd.func55.trans (congrArg some (by kernel_rfl))
  f154 := Tryd.func60.trans (congrArg some (by kernel_rfl))
  f165 := Tryd.func85.trans (congrArg some (by kernel_rfl))
  f166 := Tryd.func61.trans (congrArg some (by kernel_rfl))
  f169 := Tryd.func63.trans (congrArg some (by kernel_rfl))
  f195 := Tryd.func86.trans (congrArg some (by kernel_rfl))
  f197 := Tryd.func89.trans (congrArg some (by kernel_rfl))
  f217 := Tryd.func83.trans (congrArg some (by kernel_rfl))
  f218 := Tryd.func87.trans (congrArg some (by kernel_rfl))
  f219 := Tryd.func84.trans (congrArg some (by kernel_rfl))
  f224 := Tryd.func113.trans (congrArg some (by kernel_rfl))
  f225 := Tryd.func112.trans (congrArg some (by kernel_rfl))
  f240 := Tryd.func90.trans (congrArg some (by kernel_rfl))
  f241 := Tryd.func115.trans (congrArg some (by kernel_rfl))
  f260 := Tryd.func117.trans (congrArg some (by kernel_rfl))
  f266 := Tryd.func111.trans (congrArg some (by kernel_rfl))
  f267 := Tryd.func114.trans (congrArg some (by kernel_rfl))
  f276 := Tryd.func118.trans (congrArg some (by kernel_rfl))
  f277 := Tryd.func132.trans (congrArg some (by kernel_rfl))
  f314 := Tryd.func131.trans (congrArg some (by kernel_rfl))
  t0 := Tryd.underlying0
  a0 := Tryd.isAgg0
  z0 := Tryd.sizeOf0
  v0 := Tryd.zeroValue0
  t3 := Tryd.underlying3
  a3 := Tryd.isAgg3
  z3 := Tryd.sizeOf3
  v3 := Tryd.zeroValue3
  t4 := Tryd.underlying4
  a4 := Tryd.isAgg4
  z4 := Tryd.sizeOf4
  v4 := Tryd.zeroValue4
  t5 := Tryd.underlying5
  a5 := Tryd.isAgg5
  z5 := Tryd.sizeOf5
  v5 := Tryd.zeroValue5
  t9 := Tryd.underlying9
  a9 := Tryd.isAgg9
  z9 := Tryd.sizeOf9
  v9 := Tryd.zeroValue9
  t20 := Tryd.underlying20
  a20 := Tryd.isAgg20
  z20 := Tryd.sizeOf20
  v20 := Tryd.zeroValue20
  t21 := Tryd.underlying21
  a21 := Tryd.isAgg21
  z21 := Tryd.sizeOf21
  v21 := Tryd.zeroValue21
  t37 := Tryd.underlying82
  a37 := Tryd.isAgg82
  z37 := Tryd.sizeOf82
  v37 := Tryd.zeroValue82
  t46 := Tryd.underlying100
  a46 := Tryd.isAgg100
  z46 := Tryd.sizeOf100
  v46 := Tryd.zeroValue100
  t51 := Tryd.underlying127
  a51 := Tryd.isAgg127
  z51 := Tryd.sizeOf127
  v51 := Tryd.zeroValue127
  t70 := Tryd.underlying81
  a70 := Tryd.isAgg81
  z70 := Tryd.sizeOf81
  v70 := Tryd.zeroValue81
  t72 := Tryd.underlying84
  a72 := Tryd.isAgg84
  z72 := Tryd.sizeOf84
  v72 := Tryd.zeroValue84
  t75 := Tryd.underlying29
  a75 := Tryd.isAgg29
  z75 := Tryd.sizeOf29
  v75 := Tryd.zeroValue29
  t76 := Tryd.underlying85
  a76 := Tryd.isAgg85
  z76 := Tryd.sizeOf85
  v76 := Tryd.zeroValue85
  t105 := Tryd.underlying110
  a105 := Tryd.isAgg110
  z105 := Tryd.sizeOf110
  v105 := Tryd.zeroValue110
  t119 := Tryd.underlying152
  a119 := Tryd.isAgg152
  z119 := Tryd.sizeOf152
  t127 := Tryd.underlying112
  a127 := Tryd.isAgg112
  z127 := Tryd.sizeOf112
  v127 := Tryd.zeroValue112
  t138 := Tryd.underlying154
  a138 := Tryd.isAgg154
  z138 := Tryd.sizeOf154
  v138 := Tryd.zeroValue154
  t139 := Tryd.underlying155
  a139 := Tryd.isAgg155
  z139 := Tryd.sizeOf155
  v139 := Tryd.zeroValue155
  t146 := Tryd.underlying135
  a146 := Tryd.isAgg135
  z146 := Tryd.sizeOf135
  v146 := Tryd.zeroValue135
  t164 := Tryd.underlying133
  a164 := Tryd.isAgg133
  z164 := Tryd.sizeOf133
  v164 := Tryd.zeroValue133
  g1 := by kernel_rfl
  g3 := by kernel_rfl
  g4 := by kernel_rfl }
theorem Tryd.Builder_Extra_154 : Builder.Extra Tryd.prog Tryd.lays154_ren := {
  sizeBuilder := by kernel_rfl
  liesBuilder := by kernel_rfl
  t5 := Tryd.underlying5
  a5 := Tryd.isAgg5
  z5 := Tryd.sizeOf5
  v5 := Tryd.zeroValue5
  infoByte := by kernel_rfl
  cellsByte := by kernel_rfl
  sizeByte := by kernel_rfl
  neB5 := by decide }
open Go.RowKit Go.Lib in
/-- strings.Replace: "Replace returns a copy of the string s with the first n non-overlapping instances of old replaced by new. .. If n < 0, there is no limit on the number of replacements.": AT AN old THAT IS NOT EMPTY: IT RETURNS 'Lib.replace s old new n'. Below the heap's end the world is as_ it was. IT ASKS, as_ strings.Index's contract: 'len(s) < 4294967281', 'hm'; and that what comes out has room: 'len(s) + Count(s, old) * len(new) ≤ 2^47'. (LAID: no walk: one application.) -/
theorem Tryd.strings_Replace (s old new : ByteArray) (n : Int) (m : Int) (w : World) (hs : s.size < 4294967281) (hm : w.cell? ⟨3, 0, none⟩ = some (.int .i64 m)) (h1 : 1 ≤ old.size) (hlen : s.size + Lib.countB s old * new.size ≤ 140737488355328) :
    Calls Tryd.prog 60 #[.string s, .string old, .string new, .int .i64 n] w fun e w' =>
      e = .returned (.string ⟨(Lib.replace s.data.toList old.data.toList new.data.toList n).toArray⟩) ∧ Below w.heap.size w w' := Any.strings_Replace Tryd.lays154 Tryd.Builder_Extra_154 s old new n m w hs hm h1 hlen
def Tryd.lays105_ren : Go.Shelf.Ren := ⟨fun | 105 => 64 | 212 => 91 | 99 => 92 | 165 => 85 | 166 => 61 | 170 => 82 | 169 => 63 | 263 => 119 | 264 => 120 | 206 => 97 | 240 => 90 | 241 => 115 | 276 => 118 | 277 => 132 | n => n, fun | 9 => 9 | 3 => 3 | 4 => 4 | 20 => 20 | 0 => 0 | 46 => 100 | 109 => 113 | 5 => 5 | 72 => 84 | 76 => 85 | 51 => 127 | 146 => 135 | 53 => 129 | 148 => 137 | 70 => 81 | 37 => 82 | 75 => 29 | 127 => 112 | 164 => 133 | 80 => 32 | n => n, fun | n => n⟩
theorem Tryd.lays105 : Go.Proofs.Lays.n105 Tryd.prog Tryd.lays105_ren := {
  mixed := by kernel_rfl
  f99 := Tryd.func92.trans (congrArg some (by kernel_rfl))
  f105 := Tryd.func64.trans (congrArg some (by kernel_rfl))
  f165 := Tryd.func85.trans (congrArg some (by kernel_rfl))
  f166 := Tryd.func61.trans (congrArg some (by kernel_rfl))
  f169 := Tryd.func63.trans (congrArg some (by kernel_rfl))
  f170 := Tryd.func82.trans (congrArg some (by kernel_rfl))
  f206 := Tryd.func97.trans (congrArg some (by kernel_rfl))
  f212 := Tryd.func91.trans (congrArg some (by kernel_rfl))
  f240 := Tryd.func90.trans (congrArg some (by kernel_rfl))
  f241 := Tryd.func115.trans (congrArg some (by kernel_rfl))
  f263 := Tryd.func119.trans (congrArg some (by kernel_rfl))
  f264 := Tryd.func120.trans (congrArg some (by kernel_rfl))
  f276 := Tryd.func118.trans (congrArg some (by kernel_rfl))
  f277 := Tryd.func132.trans (congrArg some (by kernel_rfl))
  t0 := Tryd.underlying0
  a0 := Tryd.isAgg0
  z0 := Tryd.sizeOf0
  v0 := Tryd.zeroValue0
  t3 := Tryd.underlying3
  a3 := Tryd.isAgg3
  z3 := Tryd.sizeOf3
  v3 := Tryd.zeroValue3
  t4 := Tryd.underlying4
  a4 := Tryd.isAgg4
  z4 := Tryd.sizeOf4
  v4 := Tryd.zeroValue4
  t5 := Tryd.underlying5
  a5 := Tryd.isAgg5
  z5 := Tryd.sizeOf5
  v5 := Tryd.zeroValue5
  t9 := Tryd.underlying9
  a9 := Tryd.isAgg9
  z9 := Tryd.sizeOf9
  v9 := Tryd.zeroValue9
  t20 := Tryd.underlying20
  a20 := Tryd.isAgg20
  z20 := Tryd.sizeOf20
  v20 := Tryd.zeroValue20
  t37 := Tryd.underlying82
  a37 := Tryd.isAgg82
  z37 := Tryd.sizeOf82
  v37 := Tryd.zeroValue82
  t46 := Tryd.underlying100
  a46 := Tryd.isAgg100
  z46 := Tryd.sizeOf100
  v46 := Tryd.zeroValue100
  t51 := Tryd.underlying127
  a51 := Tryd.isAgg127
  z51 := Tryd.sizeOf127
  v51 := Tryd.zeroValue127
  t53 := Tryd.underlying129
  a53 := Tryd.isAgg129
  z53 := Tryd.sizeOf129
  v53 := Tryd.zeroValue129
  t70 := Tryd.underlying81
  a70 := Tryd.isAgg81
  z70 := Tryd.sizeOf81
  v70 := Tryd.zeroValue81
  t72 := Tryd.underlying84
  a72 := Tryd.isAgg84
  z72 := Tryd.sizeOf84
  v72 := Tryd.zeroValue84
  t75 := Tryd.underlying29
  a75 := Tryd.isAgg29
  z75 := Tryd.sizeOf29
  v75 := Tryd.zeroValue29
  t76 := Tryd.underlying85
  a76 := Tryd.isAgg85
  z76 := Tryd.sizeOf85
  v76 := Tryd.zeroValue85
  t109 := Tryd.underlying113
  a109 := Tryd.isAgg113
  z109 := Tryd.sizeOf113
  v109 := Tryd.zeroValue113
  t127 := Tryd.underlying112
  a127 := Tryd.isAgg112
  z127 := Tryd.sizeOf112
  v127 := Tryd.zeroValue112
  t146 := Tryd.underlying135
  a146 := Tryd.isAgg135
  z146 := Tryd.sizeOf135
  v146 := Tryd.zeroValue135
  t148 := Tryd.underlying137
  a148 := Tryd.isAgg137
  z148 := Tryd.sizeOf137
  v148 := Tryd.zeroValue137
  t164 := Tryd.underlying133
  a164 := Tryd.isAgg133
  z164 := Tryd.sizeOf133
  v164 := Tryd.zeroValue133 }
theorem Tryd.Builder_Extra_105 : Builder.Extra Tryd.prog Tryd.lays105_ren := {
  sizeBuilder := by kernel_rfl
  liesBuilder := by kernel_rfl
  t5 := Tryd.underlying5
  a5 := Tryd.isAgg5
  z5 := Tryd.sizeOf5
  v5 := Tryd.zeroValue5
  infoByte := by kernel_rfl
  cellsByte := by kernel_rfl
  sizeByte := by kernel_rfl
  neB5 := by decide }
open Go.RowKit Go.Lib in
/-- **strings.Repeat: count ≥ 0, the result within one allocation: count copies of s.** (LAID: no walk: one application.) -/
theorem Tryd.strings_Repeat (s : ByteArray) (c : Nat) (w : World) (hc : c ≤ 9223372036854775807) (hlen : s.size * c ≤ 140737488355328) :
    Calls Tryd.prog 64 #[.string s, .int .i64 c] w fun e w' => e = .returned (.string ⟨(Lib.repeatL s.data.toList c).toArray⟩) ∧ Below w.heap.size w w' := Any.strings_Repeat Tryd.lays105 Tryd.Builder_Extra_105 s c w hc hlen
end Go.Proofs

 /- The library's contracts (the kit's shelf) in the generator's form. -/
namespace Go.Proofs.YtjinkmipkfjblaaDoor
open Go Go.RowKit
theorem Fn.ofCalls {P : Program} {f : FuncId} {args : Array Value} {w : World} {v : Value} (hgo : goesIn P f = true) (h : ∀ w1, Calls P f args w1 fun e w' => e = .returned v ∧ w' = w1) : Fn P f args w (fun r w' => w = w' ∧ r = v) :=
  ⟨hgo, fun w1 e => (h w1).mono fun _ _ ⟨he, hw⟩ => ⟨v, w, he, by rw [hw]; exact e, rfl, rfl⟩⟩
def M_strings_IndexByte (s : List UInt8) (c : Int) (K : Int → Prop) : Prop := K (Lib.indexByte s c.toNat.toUInt8)
theorem W_strings_IndexByte {w : World} {s : List UInt8} {c : Int} {K : Int → Prop} (H : M_strings_IndexByte s c K) : Fn Tryd.prog 54 ⟨[vs s, .int .u8 c]⟩ w (fun v w' => w = w' ∧ ∃ r : Int, v = .int .i64 r ∧ K r) :=
  (Fn.ofCalls (by kernel_rfl) (fun w1 => Tryd.strings_IndexByte ⟨⟨s⟩⟩ c w1)).mono fun _ _ ⟨h1, h2⟩ => ⟨h1, _, h2, H⟩
def M_strings_Join (l : List (List UInt8)) (sep : List UInt8) (K : List UInt8 → Prop) : Prop := l.length ≤ 140737488355328 ∧ (Lib.join l sep).length ≤ 140737488355328 ∧ K (Lib.join l sep)
theorem W_strings_Join {w : World} {l : List (List UInt8)} {A : Option Addr} {c n : Nat} {sep : List UInt8} {K : List UInt8 → Prop} (hR : Rd vs w A c l) (hn : n = l.length) (H : M_strings_Join l sep K) : Fn Tryd.prog 57 ⟨[.slice A n c, vs sep]⟩ w (fun v w' => w.grownBy w' none ∧ ∃ r : List UInt8, v = vs r ∧ K r) := by
  subst hn
  cases l with
  | nil =>
    refine ⟨by kernel_rfl, fun w1 e => (Tryd.strings_Join_none A c ⟨⟨sep⟩⟩ w1).mono fun _ w' ⟨he, hw⟩ => ⟨_, w, he, by rw [hw]; exact e, gr_refl _ _, [], rfl, ?_⟩⟩
    exact H.2.2
  | cons x l =>
    obtain ⟨ad, rfl, hc⟩ := hR.cells (by simp)
    have h0 := hc 0 x rfl
    obtain ⟨bk, o, sp⟩ := ad
    have hsp : sp = none := by
      simp only [Addr.add, if_true] at h0
      unfold World.cell? at h0
      split at h0
      · cases sp with
        | none => rfl
        | some q => simp at h0
      · cases h0
    subst hsp
    have hlt := hR.lt (by simp) (g := bk) rfl
    have e1 : ((x :: l).map fun y => (⟨⟨y⟩⟩ : ByteArray)).map (fun y => y.data.toList) = x :: l := by
      rw [List.map_map]
      exact List.map_id _
    refine ⟨by kernel_rfl, fun w1 e => ?_⟩
    have h := Tryd.strings_Join bk o c ((x :: l).map fun y => (⟨⟨y⟩⟩ : ByteArray)) ⟨⟨sep⟩⟩ w1 (fun j y hj => by
      rw [List.getElem?_map] at hj
      cases hy : (x :: l)[j]? with
      | none => rw [hy] at hj; cases hj
      | some z =>
        rw [hy] at hj
        simp only [Option.map_some, Option.some.injEq] at hj
        subst hj
        have h2 := hc j z hy
        rw [e.cell]
        change w.cell? _ = some (vs z)
        cases j with
        | zero => simpa [Addr.add] using h2
        | succ j => simpa [Addr.add] using h2) (by rw [e.heap]; exact hlt) (by rw [List.length_map]; exact H.1) (by rw [List.length_map]; exact hR.cap) (by rw [e1]; exact H.2.1)
    rw [e1, List.length_map] at h
    exact h.mono fun _ w' ⟨he, hb⟩ => ⟨_, w', he, Eqv.refl _, eqv_gr e (gr_below hb none), _, rfl, H.2.2⟩
def M_strings_Count (s sub : List UInt8) (K : Int → Prop) : Prop := s.length < 4294967281 ∧ 1 ≤ sub.length ∧ K ((Lib.countB ⟨⟨s⟩⟩ ⟨⟨sub⟩⟩ : Nat) : Int)
theorem W_strings_Count {S : List Nat} {w : World} {s sub : List UInt8} {K : Int → Prop} (hG : GOK S w) (h100 : 100 ∈ S) (H : M_strings_Count s sub K) : Fn Tryd.prog 58 ⟨[vs s, vs sub]⟩ w (fun v w' => w = w' ∧ ∃ r : Int, v = .int .i64 r ∧ K r) := by
  obtain ⟨m, hm⟩ := hG.ml h100
  refine ⟨by kernel_rfl, fun w1 e => (Tryd.strings_Count_any ⟨⟨s⟩⟩ ⟨⟨sub⟩⟩ m w1 H.1 (by rw [e.cell]; exact hm) H.2.1).mono fun _ _ ⟨he, hw⟩ => ⟨_, w, he, by rw [hw]; exact e, rfl, _, rfl, H.2.2⟩⟩
def M_strings_Index (s sub : List UInt8) (K : Int → Prop) : Prop := s.length < 4294967281 ∧ K (Lib.index s sub)
theorem W_strings_Index {S : List Nat} {w : World} {s sub : List UInt8} {K : Int → Prop} (hG : GOK S w) (h100 : 100 ∈ S) (H : M_strings_Index s sub K) : Fn Tryd.prog 55 ⟨[vs s, vs sub]⟩ w (fun v w' => w = w' ∧ ∃ r : Int, v = .int .i64 r ∧ K r) := by
  obtain ⟨m, hm⟩ := hG.ml h100
  refine ⟨by kernel_rfl, fun w1 e => (Tryd.strings_Index ⟨⟨s⟩⟩ ⟨⟨sub⟩⟩ m w1 H.1 (by rw [e.cell]; exact hm)).mono fun _ _ ⟨he, hw⟩ => ⟨_, w, he, by rw [hw]; exact e, rfl, _, rfl, H.2⟩⟩
def splitN (sep s : List UInt8) (n : Nat) : List (List UInt8) := Lib.splitK sep 0 (min n (s.length + 1) - 1) s
def M_strings_SplitN (s sep : List UInt8) (n : Int) (K : List (List UInt8) → Prop) : Prop := s.length < 4294967281 ∧ 1 ≤ sep.length ∧ 1 ≤ n ∧ n ≤ 9223372036854775807 ∧ K (splitN sep s n.toNat)
theorem Own.ofPad {α : Type} {f : α → Value} {w : World} {B g : Nat} {e : TypeId} {xs : List α} {c : Nat} {pad : List Value} (h : w.heap[g]? = some (.cells ⟨xs.map f ++ pad⟩ e (0, 0))) (hB : B ≤ g) (hc : xs.length + pad.length = c) (hm : c ≤ maxLen) : Own f w B e (some ⟨g, 0, none⟩) c xs := by
  unfold Own
  exact ⟨by simp, .inr ⟨g, c, ⟨xs.map f ++ pad⟩, rfl, hB, h, by omega, hm, by simp; omega, by rw [Nat.mul_one, List.take_left' (by simp)]⟩⟩
theorem W_strings_SplitN {S : List Nat} {w : World} {s sep : List UInt8} {n : Int} {K : List (List UInt8) → Prop} (hG : GOK S w) (h100 : 100 ∈ S) (H : M_strings_SplitN s sep n K) : Fn Tryd.prog 59 ⟨[vs s, vs sep, .int .i64 n]⟩ w (fun v w' => w.grownBy w' none ∧ ∃ (r : List (List UInt8)) (A : Option Addr) (c : Nat), v = .slice A r.length c ∧ Own vs w' w.heap.size 9 A c r ∧ K r) := by
  obtain ⟨m, hm⟩ := hG.ml h100
  obtain ⟨H1, H2, H3, H4, H5⟩ := H
  obtain ⟨k, rfl⟩ : ∃ k : Nat, n = (k : Int) := ⟨n.toNat, by omega⟩
  rw [Int.toNat_natCast] at H5
  refine ⟨by kernel_rfl, fun w1 e => (Tryd.strings_SplitN ⟨⟨s⟩⟩ ⟨⟨sep⟩⟩ k m w1 H1 (by rw [e.cell]; exact hm) H2 (by omega) (by omega)).mono fun _ w' ⟨he, hw⟩ => ?_⟩
  obtain ⟨N, hN⟩ : ∃ N, N = min k ((⟨⟨s⟩⟩ : ByteArray).size + 1) := ⟨_, rfl⟩
  have hN' : N = min k (s.length + 1) := hN
  rw [← hN] at he hw
  obtain ⟨bsl, hbs⟩ : ∃ bsl, bsl = Lib.splitB ⟨⟨sep⟩⟩ 0 (N - 1) ⟨⟨s⟩⟩ := ⟨_, rfl⟩
  have hle : bsl.length ≤ N := by
    have := Lib.splitB_length_le ⟨⟨sep⟩⟩ 0 (N - 1) ⟨⟨s⟩⟩
    rw [← hbs] at this
    have : 1 ≤ N := by omega
    omega
  have hmap : bsl.map Value.string = (splitN sep s k).map vs := by
    have h := Lib.splitB_data ⟨⟨sep⟩⟩ 0 (N - 1) ⟨⟨s⟩⟩
    unfold splitN
    rw [← hN', show Lib.splitK sep 0 (N - 1) s = _ from h.symm, List.map_map, hbs]
    rfl
  have hlen : bsl.length = (splitN sep s k).length := by have := congrArg List.length hmap; simpa using this
  rw [← hbs] at he hw
  have hcells : Lib.cellsOf bsl N = ⟨(splitN sep s k).map vs ++ List.replicate (N - bsl.length) (vs [])⟩ := by
    unfold Lib.cellsOf
    rw [hmap]
    rfl
  rw [hcells] at hw
  have hb : w'.heap[w.heap.size]? = some (.cells ⟨(splitN sep s k).map vs ++ List.replicate (N - bsl.length) (vs [])⟩ 9 (0, 0)) := by
    rw [hw, ← e.heap]
    exact heap_alloc_new w1 _
  have hg : w.grownBy w' none := by rw [hw]; exact eqv_gr e (gr_alloc w1 _ none)
  exact ⟨_, w', he, Eqv.refl _, hg, splitN sep s k, some ⟨w.heap.size, 0, none⟩, N, by rw [e.heap, hlen], Own.ofPad hb (Nat.le_refl _) (by simp; omega) (by simp only [maxLen]; omega), H5⟩
def M_strings_Replace (s old new : List UInt8) (n : Int) (K : List UInt8 → Prop) : Prop := s.length < 4294967281 ∧ 1 ≤ old.length ∧ s.length + Lib.countB ⟨⟨s⟩⟩ ⟨⟨old⟩⟩ * new.length ≤ 140737488355328 ∧ K (Lib.replace s old new n)
theorem W_strings_Replace {S : List Nat} {w : World} {s old new : List UInt8} {n : Int} {K : List UInt8 → Prop} (hG : GOK S w) (h100 : 100 ∈ S) (H : M_strings_Replace s old new n K) : Fn Tryd.prog 60 ⟨[vs s, vs old, vs new, .int .i64 n]⟩ w (fun v w' => w.grownBy w' none ∧ ∃ r : List UInt8, v = vs r ∧ K r) := by
  obtain ⟨m, hm⟩ := hG.ml h100
  refine ⟨by kernel_rfl, fun w1 e => (Tryd.strings_Replace ⟨⟨s⟩⟩ ⟨⟨old⟩⟩ ⟨⟨new⟩⟩ n m w1 H.1 (by rw [e.cell]; exact hm) H.2.1 H.2.2.1).mono fun _ w' ⟨he, hb⟩ => ⟨_, w', he, Eqv.refl _, eqv_gr e (gr_below hb none), _, rfl, H.2.2.2⟩⟩
def M_strings_Repeat (s : List UInt8) (n : Int) (K : List UInt8 → Prop) : Prop := 0 ≤ n ∧ n ≤ 9223372036854775807 ∧ s.length * n.toNat ≤ 140737488355328 ∧ K (Lib.repeatL s n.toNat)
theorem W_strings_Repeat {w : World} {s : List UInt8} {n : Int} {K : List UInt8 → Prop} (H : M_strings_Repeat s n K) : Fn Tryd.prog 64 ⟨[vs s, .int .i64 n]⟩ w (fun v w' => w.grownBy w' none ∧ ∃ r : List UInt8, v = vs r ∧ K r) := by
  obtain ⟨k, rfl⟩ : ∃ k : Nat, n = (k : Int) := ⟨n.toNat, by have := H.1; omega⟩
  obtain ⟨H1, H2, H3, H4⟩ := H
  rw [Int.toNat_natCast] at H3 H4
  refine ⟨by kernel_rfl, fun w1 e => (Tryd.strings_Repeat ⟨⟨s⟩⟩ k w1 (by omega) H3).mono fun _ w' ⟨he, hb⟩ => ⟨_, w', he, Eqv.refl _, eqv_gr e (gr_below hb none), _, rfl, H4⟩⟩
end Go.Proofs.YtjinkmipkfjblaaDoor


 /- Printed by a program (wip/vg): elements of several cells. -/
namespace Go.Proofs.YtjinkmipkfjblaaDoor
open Go Go.RowKit
end Go.Proofs.YtjinkmipkfjblaaDoor

 /- Printed by a program (wip/vg): what the functions mean, plainly, and their walks. -/
namespace Go.Proofs.YtjinkmipkfjblaaDoor
open Go Go.RowKit
attribute [local irreducible] WL WC WX WQ WK WJ Yld Eff Ef0 Fn
def M_smithysee_Alike (a : Er) (b : Er) (K : Bool → Prop) : Prop :=
 ((((decide (a = Er.ok)) || (decide (b = Er.ok))) = true → K ((decide (a = Er.ok)) && (decide (b = Er.ok)))) ∧
 (((decide (a = Er.ok)) || (decide (b = Er.ok))) = false → (¬ (a = Er.ok ∧ b = Er.ok) ∧ ((∀ p n, a ≠ Er.at_ p n) ∨ ∀ p n, b ≠ Er.at_ p n)) ∧
 K (decide (a = b))))

def M_smithyref_None (K : Int → Bool → Int → Bool → (List UInt8) → Prop) : Prop :=
 K (0 : Int) false (0 : Int) false ([] : List UInt8)

def M_smithyref_Bare (code : Int) (K : Int → Bool → Int → Bool → (List UInt8) → Prop) : Prop :=
 K code false (0 : Int) false ([] : List UInt8)

def M_smithyref_Placed (code : Int) (pos : Int) (K : Int → Bool → Int → Bool → (List UInt8) → Prop) : Prop :=
 ((code = (0 : Int) → M_smithyref_None (fun (t7_Code : Int) (t7_Placed : Bool) (t7_Pos : Int) (t7_Filed : Bool) (t7_File : List UInt8) =>
 K t7_Code t7_Placed t7_Pos t7_Filed t7_File)) ∧
 (¬ (code = (0 : Int)) → K code true pos false ([] : List UInt8)))

def M_smithyref_SameFault (a_Code : Int) (a_Placed : Bool) (a_Pos : Int) (a_Filed : Bool) (a_File : List UInt8) (b_Code : Int) (b_Placed : Bool) (b_Pos : Int) (b_Filed : Bool) (b_File : List UInt8) (K : Bool → Prop) : Prop :=
 K (((((decide (a_Code = b_Code)) && (a_Placed == b_Placed)) && (decide (a_Pos = b_Pos))) && (a_Filed == b_Filed)) && (decide (a_File = b_File)))

set_option maxHeartbeats 8000000 in
theorem W_smithysee_Alike {S : List Nat} {w : World} {v_a : Value} {a : Er} {v_b : Value} {b : Er} {K : Bool → Prop} (ha : ErrR S w v_a a) (hb : ErrR S w v_b b) (H : M_smithysee_Alike a b K) : Fn Tryd.prog 141 ⟨[v_a, v_b]⟩ w (fun v w' => w = w' ∧ ∃ (r : Bool), v = .bool r ∧ K r) := by
  unfold M_smithysee_Alike at H
  refine Fn.enter (by kernel_rfl) Tryd.func141 rfl Tryd.ntmps141 rfl ?_
  refine WC.seq ?_
  refine WC.region ?_
  refine WL.y rfl (Yld.pure tab_ok rfl) ?_
  refine WL.nil (WX.then_normal ?_)
  refine WC.seq ?_
  refine WC.seq ?_
  refine WC.region ?_
  refine WL.y rfl (Yld.pure tab_ok rfl) ?_
  refine WL.y rfl (Yld.erreql Tryd.underlying29 ha rfl) ?_
  refine WL.y rfl (Yld.pure tab_ok rfl) ?_
  refine WL.midF 3 (fun L' w' => ∃ q1 : Bool, L' = [(10, .bool q1), (0, v_a), (1, v_b)] ∧ q1 = ((decide (a = Er.ok)) || (decide (b = Er.ok))) ∧ w = w') ?_ (fun hQ => ?_)
  · rintro _ _ ⟨q1, rfl, rfl, rfl⟩
    refine WL.nil (WX.then_normal ?_)
    refine WC.cond rfl (fun b1 => ?_) (fun b1 => ?_)
    · replace H := H.1 (b1)
      refine WC.seq ?_
      refine WC.region ?_
      refine WL.y rfl (Yld.pure tab_ok rfl) ?_
      refine WL.y rfl (Yld.erreql Tryd.underlying29 ha rfl) ?_
      refine WL.y rfl (Yld.pure tab_ok rfl) ?_
      refine WL.midF 3 (fun L' w' => ∃ q2 : Bool, L' = [(16, .bool q2)] ∧ q2 = ((decide (a = Er.ok)) && (decide (b = Er.ok))) ∧ w = w') ?_ (fun hQ => ?_)
      · rintro _ _ ⟨q2, rfl, rfl, rfl⟩
        refine WL.y rfl (Yld.pure tab_ok rfl) ?_
        refine WL.nil (WX.then_normal ?_)
        refine WC.ret (WX.then_ret ?_)
        exact WX.ret1 rfl rfl ⟨rfl, (decide (a = Er.ok)) && (decide (b = Er.ok)), rfl, H⟩
      · clear H
        rcases Bool.eq_false_or_eq_true (decide (a = Er.ok)) with b2 | b2
        · refine WL.gyes rfl rfl (okb b2) rfl (Yld.pure tab_ok rfl) ?_
          refine WL.gyes rfl rfl (okb b2) rfl (Yld.erreql Tryd.underlying29 hb rfl) ?_
          refine WL.y rfl (Yld.pickT (okb b2) rfl) ?_
          exact WL.weaken (by repeat (first | exact Sub.nil | refine Sub.cons rfl ?_)) (hQ _ _ ⟨decide (b = Er.ok), rfl, by rw [b2] <;> rfl, rfl⟩)
        · refine WL.gno rfl rfl (okb b2) rfl ?_
          refine WL.gno rfl rfl (okb b2) rfl ?_
          refine WL.y rfl (Yld.pickF (okb b2) rfl) ?_
          exact WL.weaken (by repeat (first | exact Sub.nil | refine Sub.cons rfl ?_)) (hQ _ _ ⟨false, rfl, by rw [b2] <;> rfl, rfl⟩)
    · replace H := H.2 (b1)
      refine WC.skip (WX.then_normal ?_)
      refine WC.seq ?_
      refine WC.region ?_
      refine WL.y rfl (Yld.pure tab_ok rfl) ?_
      refine WL.y rfl (Yld.pure tab_ok rfl) ?_
      obtain ⟨h1, H⟩ := H
      refine WL.y rfl (Yld.erreqA ha hb h1 rfl rfl) ?_
      refine WL.y rfl (Yld.pure tab_ok rfl) ?_
      refine WL.nil (WX.then_normal ?_)
      refine WC.ret ?_
      exact WX.ret1 rfl rfl ⟨rfl, decide (a = b), rfl, H⟩
  · clear H
    rcases Bool.eq_false_or_eq_true (decide (a = Er.ok)) with b3 | b3
    · refine WL.gno rfl rfl (okb b3) rfl ?_
      refine WL.gno rfl rfl (okb b3) rfl ?_
      refine WL.y rfl (Yld.pickT (okb b3) rfl) ?_
      exact WL.weaken (by repeat (first | exact Sub.nil | refine Sub.cons rfl ?_)) (hQ _ _ ⟨true, rfl, by rw [b3] <;> rfl, rfl⟩)
    · refine WL.gyes rfl rfl (okb b3) rfl (Yld.pure tab_ok rfl) ?_
      refine WL.gyes rfl rfl (okb b3) rfl (Yld.erreql Tryd.underlying29 hb rfl) ?_
      refine WL.y rfl (Yld.pickF (okb b3) rfl) ?_
      exact WL.weaken (by repeat (first | exact Sub.nil | refine Sub.cons rfl ?_)) (hQ _ _ ⟨decide (b = Er.ok), rfl, by rw [b3] <;> rfl, rfl⟩)

set_option maxHeartbeats 8000000 in
theorem W_smithyref_None {w : World} {K : Int → Bool → Int → Bool → (List UInt8) → Prop} (H : M_smithyref_None  K) : Fn Tryd.prog 121 ⟨[]⟩ w (fun v w' => w.grownBy w' none ∧ ∃ (r_Code : Int), ∃ (r_Placed : Bool), ∃ (r_Pos : Int), ∃ (r_Filed : Bool), ∃ (r_File : List UInt8), v = .agg ⟨[.int .i64 r_Code, .bool r_Placed, .int .i64 r_Pos, .bool r_Filed, vs r_File]⟩ ∧ K r_Code r_Placed r_Pos r_Filed r_File) := by
  unfold M_smithyref_None at H
  refine Fn.enter (by kernel_rfl) Tryd.func121 rfl Tryd.ntmps121 rfl ?_
  refine WC.seq ?_
  refine WC.region ?_
  refine WL.alloc rfl zero91 (fun g1 w1 hB1 hg1 hl1 => ?_)
  have gr1 := hg1
  refine WL.nil (WX.then_normal ?_)
  refine WC.seq ?_
  refine WC.region ?_
  refine WL.y rfl (Yld.struct (us := [.int .i64 (0 : Int), .bool false, .int .i64 (0 : Int), .bool false, vs ([] : List UInt8)]) zero91 places91 rfl rfl) ?_
  refine WL.storeW (vs := [.int .i64 (0 : Int), .bool false, .int .i64 (0 : Int), .bool false, vs ([] : List UInt8)]) tab_ok rfl rfl rfl (all1c rfl (all1c rfl (all1c rfl (all1c rfl (all1c rfl all1n))))) hB1 rfl rfl (fun w2 hB2 hg2 => ?_)
  have gr2 := gr_mod gr1 hg2 (Ge.le (Ge.box hl1) (Nat.le_refl _))
  refine WL.nil (WX.then_normal ?_)
  refine WC.ret ?_
  exact WX.retc tab_ok rfl rfl rfl hB2 rfl ⟨gr2, (0 : Int), false, (0 : Int), false, ([] : List UInt8), rfl, H⟩

set_option maxHeartbeats 8000000 in
theorem W_smithyref_Bare {w : World} {code : Int} {K : Int → Bool → Int → Bool → (List UInt8) → Prop} (H : M_smithyref_Bare code K) : Fn Tryd.prog 66 ⟨[.int .i64 code]⟩ w (fun v w' => w.grownBy w' none ∧ ∃ (r_Code : Int), ∃ (r_Placed : Bool), ∃ (r_Pos : Int), ∃ (r_Filed : Bool), ∃ (r_File : List UInt8), v = .agg ⟨[.int .i64 r_Code, .bool r_Placed, .int .i64 r_Pos, .bool r_Filed, vs r_File]⟩ ∧ K r_Code r_Placed r_Pos r_Filed r_File) := by
  unfold M_smithyref_Bare at H
  refine Fn.enter (by kernel_rfl) Tryd.func66 rfl Tryd.ntmps66 rfl ?_
  refine WC.seq ?_
  refine WC.region ?_
  refine WL.alloc rfl zero91 (fun g1 w1 hB1 hg1 hl1 => ?_)
  have gr1 := hg1
  refine WL.nil (WX.then_normal ?_)
  refine WC.seq ?_
  refine WC.region ?_
  refine WL.y rfl (Yld.pure tab_ok rfl) ?_
  refine WL.y rfl (Yld.struct (us := [.int .i64 code, .bool false, .int .i64 (0 : Int), .bool false, vs ([] : List UInt8)]) zero91 places91 rfl rfl) ?_
  refine WL.storeW (vs := [.int .i64 code, .bool false, .int .i64 (0 : Int), .bool false, vs ([] : List UInt8)]) tab_ok rfl rfl rfl (all1c rfl (all1c rfl (all1c rfl (all1c rfl (all1c rfl all1n))))) hB1 rfl rfl (fun w2 hB2 hg2 => ?_)
  have gr2 := gr_mod gr1 hg2 (Ge.le (Ge.box hl1) (Nat.le_refl _))
  refine WL.nil (WX.then_normal ?_)
  refine WC.ret ?_
  exact WX.retc tab_ok rfl rfl rfl hB2 rfl ⟨gr2, code, false, (0 : Int), false, ([] : List UInt8), rfl, H⟩

set_option maxHeartbeats 8000000 in
theorem W_smithyref_Placed {w : World} {code : Int} {pos : Int} {K : Int → Bool → Int → Bool → (List UInt8) → Prop} (H : M_smithyref_Placed code pos K) : Fn Tryd.prog 134 ⟨[.int .i64 code, .int .i64 pos]⟩ w (fun v w' => w.grownBy w' none ∧ ∃ (r_Code : Int), ∃ (r_Placed : Bool), ∃ (r_Pos : Int), ∃ (r_Filed : Bool), ∃ (r_File : List UInt8), v = .agg ⟨[.int .i64 r_Code, .bool r_Placed, .int .i64 r_Pos, .bool r_Filed, vs r_File]⟩ ∧ K r_Code r_Placed r_Pos r_Filed r_File) := by
  unfold M_smithyref_Placed at H
  refine Fn.enter (by kernel_rfl) Tryd.func134 rfl Tryd.ntmps134 rfl ?_
  refine WC.seq ?_
  refine WC.region ?_
  refine WL.alloc rfl zero91 (fun g1 w1 hB1 hg1 hl1 => ?_)
  have gr1 := hg1
  refine WL.nil (WX.then_normal ?_)
  refine WC.seq ?_
  refine WC.seq ?_
  refine WC.region ?_
  refine WL.y rfl (Yld.pure tab_ok rfl) ?_
  refine WL.y rfl (Yld.pure tab_ok rfl) ?_
  refine WL.nil (WX.then_normal ?_)
  refine WC.cond rfl (fun b1 => ?_) (fun b1 => ?_)
  · replace H := H.1 (of_decide_eq_true b1)
    refine WC.seq ?_
    refine WC.region ?_
    refine WL.call rfl rfl (W_smithyref_None H) ?_
    rintro _ w2 ⟨hg2, t7_Code, t7_Placed, t7_Pos, t7_Filed, t7_File, rfl, H⟩
    have gr2 := gr_trans gr1 hg2
    have k1 := hB1.g0 hg2
    refine WL.storeW (vs := [.int .i64 t7_Code, .bool t7_Placed, .int .i64 t7_Pos, .bool t7_Filed, vs t7_File]) tab_ok rfl rfl rfl (all1c rfl (all1c rfl (all1c rfl (all1c rfl (all1c rfl all1n))))) k1 rfl rfl (fun w3 hB2 hg3 => ?_)
    have gr3 := gr_mod gr2 hg3 (Ge.le (Ge.box hl1) (Nat.le_refl _))
    refine WL.nil (WX.then_normal ?_)
    refine WC.ret (WX.then_ret ?_)
    exact WX.retc tab_ok rfl rfl rfl hB2 rfl ⟨gr3, t7_Code, t7_Placed, t7_Pos, t7_Filed, t7_File, rfl, H⟩
  · replace H := H.2 (of_decide_eq_false b1)
    refine WC.skip (WX.then_normal ?_)
    refine WC.seq ?_
    refine WC.region ?_
    refine WL.y rfl (Yld.pure tab_ok rfl) ?_
    refine WL.y rfl (Yld.pure tab_ok rfl) ?_
    refine WL.y rfl (Yld.struct (us := [.int .i64 code, .bool true, .int .i64 pos, .bool false, vs ([] : List UInt8)]) zero91 places91 rfl rfl) ?_
    refine WL.storeW (vs := [.int .i64 code, .bool true, .int .i64 pos, .bool false, vs ([] : List UInt8)]) tab_ok rfl rfl rfl (all1c rfl (all1c rfl (all1c rfl (all1c rfl (all1c rfl all1n))))) hB1 rfl rfl (fun w4 hB3 hg4 => ?_)
    have gr4 := gr_mod gr1 hg4 (Ge.le (Ge.box hl1) (Nat.le_refl _))
    refine WL.nil (WX.then_normal ?_)
    refine WC.ret ?_
    exact WX.retc tab_ok rfl rfl rfl hB3 rfl ⟨gr4, code, true, pos, false, ([] : List UInt8), rfl, H⟩

set_option maxHeartbeats 8000000 in
theorem W_smithyref_SameFault {w : World} {a_Code : Int} {a_Placed : Bool} {a_Pos : Int} {a_Filed : Bool} {a_File : List UInt8} {b_Code : Int} {b_Placed : Bool} {b_Pos : Int} {b_Filed : Bool} {b_File : List UInt8} {K : Bool → Prop} (H : M_smithyref_SameFault a_Code a_Placed a_Pos a_Filed a_File b_Code b_Placed b_Pos b_Filed b_File K) : Fn Tryd.prog 93 ⟨[.agg ⟨[.int .i64 a_Code, .bool a_Placed, .int .i64 a_Pos, .bool a_Filed, vs a_File]⟩, .agg ⟨[.int .i64 b_Code, .bool b_Placed, .int .i64 b_Pos, .bool b_Filed, vs b_File]⟩]⟩ w (fun v w' => w.grownBy w' none ∧ ∃ (r : Bool), v = .bool r ∧ K r) := by
  unfold M_smithyref_SameFault at H
  refine Fn.enter (by kernel_rfl) Tryd.func93 rfl Tryd.ntmps93 rfl ?_
  refine WC.seq ?_
  refine WC.region ?_
  refine WL.box (us := [.int .i64 a_Code, .bool a_Placed, .int .i64 a_Pos, .bool a_Filed, vs a_File]) rfl rfl rfl (fun g1 w1 hB1 hg1 hl1 => ?_)
  have gr1 := hg1
  refine WL.box (us := [.int .i64 b_Code, .bool b_Placed, .int .i64 b_Pos, .bool b_Filed, vs b_File]) rfl rfl rfl (fun g2 w2 hB2 hg2 hl2 => ?_)
  have gr2 := gr_trans gr1 hg2
  have k1 := hB1.g0 hg2
  refine WL.y rfl (Yld.pure tab_ok rfl) ?_
  refine WL.nil (WX.then_normal ?_)
  refine WC.seq ?_
  refine WC.region ?_
  refine WL.y rfl (Yld.pure tab_ok rfl) ?_
  refine WL.y rfl (Yld.bload tab_ok k1 rfl rfl rfl) ?_
  refine WL.y rfl (Yld.pure tab_ok rfl) ?_
  refine WL.y rfl (Yld.bload tab_ok hB2 rfl rfl rfl) ?_
  refine WL.y rfl (Yld.pure tab_ok rfl) ?_
  refine WL.y rfl (Yld.pure tab_ok rfl) ?_
  refine WL.midF 6 (fun L' w' => ∃ q1 : Bool, L' = [(16, .bool q1), (2, .pointer (some ⟨g1, 0, none⟩)), (3, .pointer (some ⟨g2, 0, none⟩))] ∧ q1 = ((decide (a_Code = b_Code)) && (a_Placed == b_Placed)) ∧ w2 = w') ?_ (fun hQ => ?_)
  · rintro _ _ ⟨q1, rfl, rfl, rfl⟩
    refine WL.y rfl (Yld.pure tab_ok rfl) ?_
    refine WL.midF 6 (fun L' w' => ∃ q2 : Bool, L' = [(23, .bool q2), (2, .pointer (some ⟨g1, 0, none⟩)), (3, .pointer (some ⟨g2, 0, none⟩))] ∧ q2 = (((decide (a_Code = b_Code)) && (a_Placed == b_Placed)) && (decide (a_Pos = b_Pos))) ∧ w2 = w') ?_ (fun hQ => ?_)
    · rintro _ _ ⟨q2, rfl, rfl, rfl⟩
      refine WL.y rfl (Yld.pure tab_ok rfl) ?_
      refine WL.midF 6 (fun L' w' => ∃ q3 : Bool, L' = [(30, .bool q3), (2, .pointer (some ⟨g1, 0, none⟩)), (3, .pointer (some ⟨g2, 0, none⟩))] ∧ q3 = ((((decide (a_Code = b_Code)) && (a_Placed == b_Placed)) && (decide (a_Pos = b_Pos))) && (a_Filed == b_Filed)) ∧ w2 = w') ?_ (fun hQ => ?_)
      · rintro _ _ ⟨q3, rfl, rfl, rfl⟩
        refine WL.y rfl (Yld.pure tab_ok rfl) ?_
        refine WL.midF 6 (fun L' w' => ∃ q4 : Bool, L' = [(37, .bool q4)] ∧ q4 = (((((decide (a_Code = b_Code)) && (a_Placed == b_Placed)) && (decide (a_Pos = b_Pos))) && (a_Filed == b_Filed)) && (decide (a_File = b_File))) ∧ w2 = w') ?_ (fun hQ => ?_)
        · rintro _ _ ⟨q4, rfl, rfl, rfl⟩
          refine WL.y rfl (Yld.pure tab_ok rfl) ?_
          refine WL.nil (WX.then_normal ?_)
          refine WC.ret ?_
          exact WX.ret1 rfl rfl ⟨gr2, ((((decide (a_Code = b_Code)) && (a_Placed == b_Placed)) && (decide (a_Pos = b_Pos))) && (a_Filed == b_Filed)) && (decide (a_File = b_File)), rfl, H⟩
        · clear H
          rcases Bool.eq_false_or_eq_true ((((decide (a_Code = b_Code)) && (a_Placed == b_Placed)) && (decide (a_Pos = b_Pos))) && (a_Filed == b_Filed)) with b1 | b1
          · refine WL.gyes rfl rfl (okb b1) rfl (Yld.pure tab_ok rfl) ?_
            refine WL.gyes rfl rfl (okb b1) rfl (Yld.bload tab_ok k1 rfl rfl rfl) ?_
            refine WL.gyes rfl rfl (okb b1) rfl (Yld.pure tab_ok rfl) ?_
            refine WL.gyes rfl rfl (okb b1) rfl (Yld.bload tab_ok hB2 rfl rfl rfl) ?_
            refine WL.gyes rfl rfl (okb b1) rfl (Yld.pure tab_ok rfl) ?_
            refine WL.y rfl (Yld.pickT (okb b1) rfl) ?_
            exact WL.weaken (by repeat (first | exact Sub.nil | refine Sub.cons rfl ?_)) (hQ _ _ ⟨decide (a_File = b_File), rfl, by rw [b1] <;> rfl, rfl⟩)
          · refine WL.gno rfl rfl (okb b1) rfl ?_
            refine WL.gno rfl rfl (okb b1) rfl ?_
            refine WL.gno rfl rfl (okb b1) rfl ?_
            refine WL.gno rfl rfl (okb b1) rfl ?_
            refine WL.gno rfl rfl (okb b1) rfl ?_
            refine WL.y rfl (Yld.pickF (okb b1) rfl) ?_
            exact WL.weaken (by repeat (first | exact Sub.nil | refine Sub.cons rfl ?_)) (hQ _ _ ⟨false, rfl, by rw [b1] <;> rfl, rfl⟩)
      · clear H
        rcases Bool.eq_false_or_eq_true (((decide (a_Code = b_Code)) && (a_Placed == b_Placed)) && (decide (a_Pos = b_Pos))) with b2 | b2
        · refine WL.gyes rfl rfl (okb b2) rfl (Yld.pure tab_ok rfl) ?_
          refine WL.gyes rfl rfl (okb b2) rfl (Yld.bload tab_ok k1 rfl rfl rfl) ?_
          refine WL.gyes rfl rfl (okb b2) rfl (Yld.pure tab_ok rfl) ?_
          refine WL.gyes rfl rfl (okb b2) rfl (Yld.bload tab_ok hB2 rfl rfl rfl) ?_
          refine WL.gyes rfl rfl (okb b2) rfl (Yld.beql Tryd.underlying4 rfl rfl) ?_
          refine WL.y rfl (Yld.pickT (okb b2) rfl) ?_
          exact WL.weaken (by repeat (first | exact Sub.nil | refine Sub.cons rfl ?_)) (hQ _ _ ⟨a_Filed == b_Filed, rfl, by rw [b2] <;> rfl, rfl⟩)
        · refine WL.gno rfl rfl (okb b2) rfl ?_
          refine WL.gno rfl rfl (okb b2) rfl ?_
          refine WL.gno rfl rfl (okb b2) rfl ?_
          refine WL.gno rfl rfl (okb b2) rfl ?_
          refine WL.gno rfl rfl (okb b2) rfl ?_
          refine WL.y rfl (Yld.pickF (okb b2) rfl) ?_
          exact WL.weaken (by repeat (first | exact Sub.nil | refine Sub.cons rfl ?_)) (hQ _ _ ⟨false, rfl, by rw [b2] <;> rfl, rfl⟩)
    · clear H
      rcases Bool.eq_false_or_eq_true ((decide (a_Code = b_Code)) && (a_Placed == b_Placed)) with b3 | b3
      · refine WL.gyes rfl rfl (okb b3) rfl (Yld.pure tab_ok rfl) ?_
        refine WL.gyes rfl rfl (okb b3) rfl (Yld.bload tab_ok k1 rfl rfl rfl) ?_
        refine WL.gyes rfl rfl (okb b3) rfl (Yld.pure tab_ok rfl) ?_
        refine WL.gyes rfl rfl (okb b3) rfl (Yld.bload tab_ok hB2 rfl rfl rfl) ?_
        refine WL.gyes rfl rfl (okb b3) rfl (Yld.pure tab_ok rfl) ?_
        refine WL.y rfl (Yld.pickT (okb b3) rfl) ?_
        exact WL.weaken (by repeat (first | exact Sub.nil | refine Sub.cons rfl ?_)) (hQ _ _ ⟨decide (a_Pos = b_Pos), rfl, by rw [b3] <;> rfl, rfl⟩)
      · refine WL.gno rfl rfl (okb b3) rfl ?_
        refine WL.gno rfl rfl (okb b3) rfl ?_
        refine WL.gno rfl rfl (okb b3) rfl ?_
        refine WL.gno rfl rfl (okb b3) rfl ?_
        refine WL.gno rfl rfl (okb b3) rfl ?_
        refine WL.y rfl (Yld.pickF (okb b3) rfl) ?_
        exact WL.weaken (by repeat (first | exact Sub.nil | refine Sub.cons rfl ?_)) (hQ _ _ ⟨false, rfl, by rw [b3] <;> rfl, rfl⟩)
  · clear H
    rcases Bool.eq_false_or_eq_true (decide (a_Code = b_Code)) with b4 | b4
    · refine WL.gyes rfl rfl (okb b4) rfl (Yld.pure tab_ok rfl) ?_
      refine WL.gyes rfl rfl (okb b4) rfl (Yld.bload tab_ok k1 rfl rfl rfl) ?_
      refine WL.gyes rfl rfl (okb b4) rfl (Yld.pure tab_ok rfl) ?_
      refine WL.gyes rfl rfl (okb b4) rfl (Yld.bload tab_ok hB2 rfl rfl rfl) ?_
      refine WL.gyes rfl rfl (okb b4) rfl (Yld.beql Tryd.underlying4 rfl rfl) ?_
      refine WL.y rfl (Yld.pickT (okb b4) rfl) ?_
      exact WL.weaken (by repeat (first | exact Sub.nil | refine Sub.cons rfl ?_)) (hQ _ _ ⟨a_Placed == b_Placed, rfl, by rw [b4] <;> rfl, rfl⟩)
    · refine WL.gno rfl rfl (okb b4) rfl ?_
      refine WL.gno rfl rfl (okb b4) rfl ?_
      refine WL.gno rfl rfl (okb b4) rfl ?_
      refine WL.gno rfl rfl (okb b4) rfl ?_
      refine WL.gno rfl rfl (okb b4) rfl ?_
      refine WL.y rfl (Yld.pickF (okb b4) rfl) ?_
      exact WL.weaken (by repeat (first | exact Sub.nil | refine Sub.cons rfl ?_)) (hQ _ _ ⟨false, rfl, by rw [b4] <;> rfl, rfl⟩)

end Go.Proofs.YtjinkmipkfjblaaDoor

 /- smithysee.sentinel: the number of one of api's variables. -/
namespace Go.Proofs.YtjinkmipkfjblaaDoor
open Go Go.RowKit
attribute [local irreducible] WL WC WX WQ WK WJ Yld Eff Ef0 Fn
theorem Rd.ofBlV {w : World} {g m : Nat} {e : TypeId} {us : List Value} (h : Bl w g e us) (hm : us.length = m) (hx : m ≤ maxLen) : Rd (fun v => v) w (some ⟨g, 0, none⟩) m us := ⟨by omega, hx, fun _ => ⟨_, rfl, fun j x hj => by
  have := h.cell j
  rw [hj] at this
  cases j with
  | zero => simpa [Addr.add] using this
  | succ j => simpa [Addr.add] using this⟩⟩
def errsV (S : List Nat) (w : World) (us : List Value) : Prop := us.length = 17 ∧ ∀ n, n < 17 → ErrR S w (us.getD n .nilIface) (.e n)
theorem sentinels_fn {S : List Nat} {w : World} (hG : GOK S w) (hS : ∀ n, n < 17 → n ∈ S) : Fn Tryd.prog 140 ⟨[]⟩ w fun v w' => w.grownBy w' none ∧ ∃ g us, v = .slice (some ⟨g, 0, none⟩) 17 17 ∧ Bl w' g 29 us ∧ errsV S w' us := by
  refine Fn.enter (by kernel_rfl) Tryd.func140 rfl Tryd.ntmps140 rfl ?_
  obtain ⟨v0, hc0, hE0⟩ := hG.get 0 6 (hS 0 (by omega)) rfl rfl
  obtain ⟨v1, hc1, hE1⟩ := hG.get 1 7 (hS 1 (by omega)) rfl rfl
  obtain ⟨v2, hc2, hE2⟩ := hG.get 2 8 (hS 2 (by omega)) rfl rfl
  obtain ⟨v3, hc3, hE3⟩ := hG.get 3 2 (hS 3 (by omega)) rfl rfl
  obtain ⟨v4, hc4, hE4⟩ := hG.get 4 9 (hS 4 (by omega)) rfl rfl
  obtain ⟨v5, hc5, hE5⟩ := hG.get 5 10 (hS 5 (by omega)) rfl rfl
  obtain ⟨v6, hc6, hE6⟩ := hG.get 6 11 (hS 6 (by omega)) rfl rfl
  obtain ⟨v7, hc7, hE7⟩ := hG.get 7 1 (hS 7 (by omega)) rfl rfl
  obtain ⟨v8, hc8, hE8⟩ := hG.get 8 12 (hS 8 (by omega)) rfl rfl
  obtain ⟨v9, hc9, hE9⟩ := hG.get 9 13 (hS 9 (by omega)) rfl rfl
  obtain ⟨v10, hc10, hE10⟩ := hG.get 10 14 (hS 10 (by omega)) rfl rfl
  obtain ⟨v11, hc11, hE11⟩ := hG.get 11 0 (hS 11 (by omega)) rfl rfl
  obtain ⟨v12, hc12, hE12⟩ := hG.get 12 15 (hS 12 (by omega)) rfl rfl
  obtain ⟨v13, hc13, hE13⟩ := hG.get 13 16 (hS 13 (by omega)) rfl rfl
  obtain ⟨v14, hc14, hE14⟩ := hG.get 14 17 (hS 14 (by omega)) rfl rfl
  obtain ⟨v15, hc15, hE15⟩ := hG.get 15 18 (hS 15 (by omega)) rfl rfl
  obtain ⟨v16, hc16, hE16⟩ := hG.get 16 19 (hS 16 (by omega)) rfl rfl
  repeat (first | refine WL.y rfl (Yld.cell tab_ok hc0 rfl rfl) ?_ | refine WL.y rfl (Yld.cell tab_ok hc1 rfl rfl) ?_ | refine WL.y rfl (Yld.cell tab_ok hc2 rfl rfl) ?_ | refine WL.y rfl (Yld.cell tab_ok hc3 rfl rfl) ?_ | refine WL.y rfl (Yld.cell tab_ok hc4 rfl rfl) ?_ | refine WL.y rfl (Yld.cell tab_ok hc5 rfl rfl) ?_ | refine WL.y rfl (Yld.cell tab_ok hc6 rfl rfl) ?_ | refine WL.y rfl (Yld.cell tab_ok hc7 rfl rfl) ?_ | refine WL.y rfl (Yld.cell tab_ok hc8 rfl rfl) ?_ | refine WL.y rfl (Yld.cell tab_ok hc9 rfl rfl) ?_ | refine WL.y rfl (Yld.cell tab_ok hc10 rfl rfl) ?_ | refine WL.y rfl (Yld.cell tab_ok hc11 rfl rfl) ?_ | refine WL.y rfl (Yld.cell tab_ok hc12 rfl rfl) ?_ | refine WL.y rfl (Yld.cell tab_ok hc13 rfl rfl) ?_ | refine WL.y rfl (Yld.cell tab_ok hc14 rfl rfl) ?_ | refine WL.y rfl (Yld.cell tab_ok hc15 rfl rfl) ?_ | refine WL.y rfl (Yld.cell tab_ok hc16 rfl rfl) ?_ | refine WC.seq ?_ | refine WC.block ?_ | refine WC.region ?_ | refine WL.nil ?_ | refine WX.then_normal ?_ | refine WC.skip ?_ | refine WC.exit ?_ | refine WC.ret ?_ | refine WX.then_exit ?_ | refine WX.then_ret ?_ | refine WX.block_normal ?_ | refine WX.block_ret ?_ | refine WX.block_same ?_ | refine WX.block_other rfl ?_ | refine WC.label ?_ | refine WC.scope ?_ | refine WX.scope_normal ?_ | refine WX.scope_ret ?_ | refine WX.scope_exit ?_ | refine WL.y rfl (Yld.add rfl rfl (by simp only [In]; omega)) ?_ | refine WL.y rfl (Yld.sub rfl rfl (by simp only [In]; omega)) ?_ | refine WL.y rfl (Yld.mul rfl rfl (by simp only [In]; omega)) ?_ | refine WL.y rfl (Yld.convB tab_ok rfl rfl rfl rfl) ?_ | refine WL.y rfl (Yld.conv tab_ok rfl rfl rfl (by simp only [In]; omega)) ?_ | refine WL.y rfl (Yld.quo rfl rfl (by omega) (by omega) (by simp only [In]; omega)) ?_ | refine WL.y rfl (Yld.rem rfl rfl (by omega) (by omega)) ?_ | refine WL.y rfl (Yld.shl rfl rfl (by omega)) ?_ | refine WL.y rfl (Yld.shr rfl rfl (by omega)) ?_ | refine WL.y rfl (Yld.pure tab_ok rfl) ?_ | refine WL.y rfl (Yld.fld flds_ok rfl rfl rfl) ?_ | refine WL.y rfl (Yld.max2 rfl rfl) ?_ | refine WL.y rfl (Yld.min2 rfl rfl) ?_ | refine WL.y rfl (Yld.pickV rfl rfl rfl) ?_ | refine WL.gno rfl rfl rfl rfl ?_ | refine WL.gyes rfl rfl rfl rfl (Yld.add rfl rfl (by simp only [In]; omega)) ?_ | refine WL.gyes rfl rfl rfl rfl (Yld.sub rfl rfl (by simp only [In]; omega)) ?_ | refine WL.gyes rfl rfl rfl rfl (Yld.mul rfl rfl (by simp only [In]; omega)) ?_ | refine WL.gyes rfl rfl rfl rfl (Yld.convB tab_ok rfl rfl rfl rfl) ?_ | refine WL.gyes rfl rfl rfl rfl (Yld.conv tab_ok rfl rfl rfl (by simp only [In]; omega)) ?_ | refine WL.gyes rfl rfl rfl rfl (Yld.quo rfl rfl (by omega) (by omega) (by simp only [In]; omega)) ?_ | refine WL.gyes rfl rfl rfl rfl (Yld.rem rfl rfl (by omega) (by omega)) ?_ | refine WL.gyes rfl rfl rfl rfl (Yld.shl rfl rfl (by omega)) ?_ | refine WL.gyes rfl rfl rfl rfl (Yld.shr rfl rfl (by omega)) ?_ | refine WL.gyes rfl rfl rfl rfl (Yld.pure tab_ok rfl) ?_ | refine WL.gyes rfl rfl rfl rfl (Yld.fld flds_ok rfl rfl rfl) ?_ | refine WL.gyes rfl rfl rfl rfl (Yld.max2 rfl rfl) ?_ | refine WL.gyes rfl rfl rfl rfl (Yld.min2 rfl rfl) ?_ | refine WL.gyes rfl rfl rfl rfl (Yld.pickV rfl rfl rfl) ?_ | refine WL.gun rfl rfl rfl rfl ?_)
  refine WL.lit tab_ok rfl rfl rfl (all1c (ErrR.one hE0) (all1c (ErrR.one hE1) (all1c (ErrR.one hE2) (all1c (ErrR.one hE3) (all1c (ErrR.one hE4) (all1c (ErrR.one hE5) (all1c (ErrR.one hE6) (all1c (ErrR.one hE7) (all1c (ErrR.one hE8) (all1c (ErrR.one hE9) (all1c (ErrR.one hE10) (all1c (ErrR.one hE11) (all1c (ErrR.one hE12) (all1c (ErrR.one hE13) (all1c (ErrR.one hE14) (all1c (ErrR.one hE15) (all1c (ErrR.one hE16) all1n))))))))))))))))) rfl (by omega) (fun g w' hB hg hl => ?_)
  repeat (first | refine WC.seq ?_ | refine WC.block ?_ | refine WC.region ?_ | refine WL.nil ?_ | refine WX.then_normal ?_ | refine WC.skip ?_ | refine WC.exit ?_ | refine WC.ret ?_ | refine WX.then_exit ?_ | refine WX.then_ret ?_ | refine WX.block_normal ?_ | refine WX.block_ret ?_ | refine WX.block_same ?_ | refine WX.block_other rfl ?_ | refine WC.label ?_ | refine WC.scope ?_ | refine WX.scope_normal ?_ | refine WX.scope_ret ?_ | refine WX.scope_exit ?_ | refine WL.y rfl (Yld.add rfl rfl (by simp only [In]; omega)) ?_ | refine WL.y rfl (Yld.sub rfl rfl (by simp only [In]; omega)) ?_ | refine WL.y rfl (Yld.mul rfl rfl (by simp only [In]; omega)) ?_ | refine WL.y rfl (Yld.convB tab_ok rfl rfl rfl rfl) ?_ | refine WL.y rfl (Yld.conv tab_ok rfl rfl rfl (by simp only [In]; omega)) ?_ | refine WL.y rfl (Yld.quo rfl rfl (by omega) (by omega) (by simp only [In]; omega)) ?_ | refine WL.y rfl (Yld.rem rfl rfl (by omega) (by omega)) ?_ | refine WL.y rfl (Yld.shl rfl rfl (by omega)) ?_ | refine WL.y rfl (Yld.shr rfl rfl (by omega)) ?_ | refine WL.y rfl (Yld.pure tab_ok rfl) ?_ | refine WL.y rfl (Yld.fld flds_ok rfl rfl rfl) ?_ | refine WL.y rfl (Yld.max2 rfl rfl) ?_ | refine WL.y rfl (Yld.min2 rfl rfl) ?_ | refine WL.y rfl (Yld.pickV rfl rfl rfl) ?_ | refine WL.gno rfl rfl rfl rfl ?_ | refine WL.gyes rfl rfl rfl rfl (Yld.add rfl rfl (by simp only [In]; omega)) ?_ | refine WL.gyes rfl rfl rfl rfl (Yld.sub rfl rfl (by simp only [In]; omega)) ?_ | refine WL.gyes rfl rfl rfl rfl (Yld.mul rfl rfl (by simp only [In]; omega)) ?_ | refine WL.gyes rfl rfl rfl rfl (Yld.convB tab_ok rfl rfl rfl rfl) ?_ | refine WL.gyes rfl rfl rfl rfl (Yld.conv tab_ok rfl rfl rfl (by simp only [In]; omega)) ?_ | refine WL.gyes rfl rfl rfl rfl (Yld.quo rfl rfl (by omega) (by omega) (by simp only [In]; omega)) ?_ | refine WL.gyes rfl rfl rfl rfl (Yld.rem rfl rfl (by omega) (by omega)) ?_ | refine WL.gyes rfl rfl rfl rfl (Yld.shl rfl rfl (by omega)) ?_ | refine WL.gyes rfl rfl rfl rfl (Yld.shr rfl rfl (by omega)) ?_ | refine WL.gyes rfl rfl rfl rfl (Yld.pure tab_ok rfl) ?_ | refine WL.gyes rfl rfl rfl rfl (Yld.fld flds_ok rfl rfl rfl) ?_ | refine WL.gyes rfl rfl rfl rfl (Yld.max2 rfl rfl) ?_ | refine WL.gyes rfl rfl rfl rfl (Yld.min2 rfl rfl) ?_ | refine WL.gyes rfl rfl rfl rfl (Yld.pickV rfl rfl rfl) ?_ | refine WL.gun rfl rfl rfl rfl ?_)
  refine WX.ret1 rfl rfl ⟨hg, g, _, rfl, hB, rfl, fun n hn => ?_⟩
  match n, hn with
  | 0, _ => exact hE0.grown hg
  | 1, _ => exact hE1.grown hg
  | 2, _ => exact hE2.grown hg
  | 3, _ => exact hE3.grown hg
  | 4, _ => exact hE4.grown hg
  | 5, _ => exact hE5.grown hg
  | 6, _ => exact hE6.grown hg
  | 7, _ => exact hE7.grown hg
  | 8, _ => exact hE8.grown hg
  | 9, _ => exact hE9.grown hg
  | 10, _ => exact hE10.grown hg
  | 11, _ => exact hE11.grown hg
  | 12, _ => exact hE12.grown hg
  | 13, _ => exact hE13.grown hg
  | 14, _ => exact hE14.grown hg
  | 15, _ => exact hE15.grown hg
  | 16, _ => exact hE16.grown hg
  | n + 17, hn => omega
def sentV : Er → Int
  | .ok => -1
  | .e n => 101 + n
  | .at_ _ _ => -1
def M_smithysee_sentinel (e : Er) (K : Int → Prop) : Prop := K (sentV e)
theorem W_smithysee_sentinel {S : List Nat} {w : World} {v : Value} {e : Er} {K : Int → Prop} (hG : GOK S w) (hS0 : 0 ∈ S) (hS1 : 1 ∈ S) (hS2 : 2 ∈ S) (hS3 : 3 ∈ S) (hS4 : 4 ∈ S) (hS5 : 5 ∈ S) (hS6 : 6 ∈ S) (hS7 : 7 ∈ S) (hS8 : 8 ∈ S) (hS9 : 9 ∈ S) (hS10 : 10 ∈ S) (hS11 : 11 ∈ S) (hS12 : 12 ∈ S) (hS13 : 13 ∈ S) (hS14 : 14 ∈ S) (hS15 : 15 ∈ S) (hS16 : 16 ∈ S) (hE : ErrR S w v e) (H : M_smithysee_sentinel e K) : Fn Tryd.prog 133 ⟨[v]⟩ w (fun r w' => w.grownBy w' none ∧ ∃ n : Int, r = .int .i64 n ∧ K n) := by
  have hS : ∀ n, n < 17 → n ∈ S := fun n hn => by
    match n, hn with
    | 0, _ => exact hS0
    | 1, _ => exact hS1
    | 2, _ => exact hS2
    | 3, _ => exact hS3
    | 4, _ => exact hS4
    | 5, _ => exact hS5
    | 6, _ => exact hS6
    | 7, _ => exact hS7
    | 8, _ => exact hS8
    | 9, _ => exact hS9
    | 10, _ => exact hS10
    | 11, _ => exact hS11
    | 12, _ => exact hS12
    | 13, _ => exact hS13
    | 14, _ => exact hS14
    | 15, _ => exact hS15
    | 16, _ => exact hS16
    | n + 17, hn => omega
  unfold M_smithysee_sentinel at H
  refine Fn.enter (by kernel_rfl) Tryd.func133 rfl Tryd.ntmps133 rfl ?_
  repeat (first | refine WC.seq ?_ | refine WC.block ?_ | refine WC.region ?_ | refine WL.nil ?_ | refine WX.then_normal ?_ | refine WC.skip ?_ | refine WC.exit ?_ | refine WC.ret ?_ | refine WX.then_exit ?_ | refine WX.then_ret ?_ | refine WX.block_normal ?_ | refine WX.block_ret ?_ | refine WX.block_same ?_ | refine WX.block_other rfl ?_ | refine WC.label ?_ | refine WC.scope ?_ | refine WX.scope_normal ?_ | refine WX.scope_ret ?_ | refine WX.scope_exit ?_ | refine WL.y rfl (Yld.add rfl rfl (by simp only [In]; omega)) ?_ | refine WL.y rfl (Yld.sub rfl rfl (by simp only [In]; omega)) ?_ | refine WL.y rfl (Yld.mul rfl rfl (by simp only [In]; omega)) ?_ | refine WL.y rfl (Yld.convB tab_ok rfl rfl rfl rfl) ?_ | refine WL.y rfl (Yld.conv tab_ok rfl rfl rfl (by simp only [In]; omega)) ?_ | refine WL.y rfl (Yld.quo rfl rfl (by omega) (by omega) (by simp only [In]; omega)) ?_ | refine WL.y rfl (Yld.rem rfl rfl (by omega) (by omega)) ?_ | refine WL.y rfl (Yld.shl rfl rfl (by omega)) ?_ | refine WL.y rfl (Yld.shr rfl rfl (by omega)) ?_ | refine WL.y rfl (Yld.pure tab_ok rfl) ?_ | refine WL.y rfl (Yld.fld flds_ok rfl rfl rfl) ?_ | refine WL.y rfl (Yld.max2 rfl rfl) ?_ | refine WL.y rfl (Yld.min2 rfl rfl) ?_ | refine WL.y rfl (Yld.pickV rfl rfl rfl) ?_ | refine WL.gno rfl rfl rfl rfl ?_ | refine WL.gyes rfl rfl rfl rfl (Yld.add rfl rfl (by simp only [In]; omega)) ?_ | refine WL.gyes rfl rfl rfl rfl (Yld.sub rfl rfl (by simp only [In]; omega)) ?_ | refine WL.gyes rfl rfl rfl rfl (Yld.mul rfl rfl (by simp only [In]; omega)) ?_ | refine WL.gyes rfl rfl rfl rfl (Yld.convB tab_ok rfl rfl rfl rfl) ?_ | refine WL.gyes rfl rfl rfl rfl (Yld.conv tab_ok rfl rfl rfl (by simp only [In]; omega)) ?_ | refine WL.gyes rfl rfl rfl rfl (Yld.quo rfl rfl (by omega) (by omega) (by simp only [In]; omega)) ?_ | refine WL.gyes rfl rfl rfl rfl (Yld.rem rfl rfl (by omega) (by omega)) ?_ | refine WL.gyes rfl rfl rfl rfl (Yld.shl rfl rfl (by omega)) ?_ | refine WL.gyes rfl rfl rfl rfl (Yld.shr rfl rfl (by omega)) ?_ | refine WL.gyes rfl rfl rfl rfl (Yld.pure tab_ok rfl) ?_ | refine WL.gyes rfl rfl rfl rfl (Yld.fld flds_ok rfl rfl rfl) ?_ | refine WL.gyes rfl rfl rfl rfl (Yld.max2 rfl rfl) ?_ | refine WL.gyes rfl rfl rfl rfl (Yld.min2 rfl rfl) ?_ | refine WL.gyes rfl rfl rfl rfl (Yld.pickV rfl rfl rfl) ?_ | refine WL.gun rfl rfl rfl rfl ?_)
  refine WL.call rfl rfl (sentinels_fn hG hS) ?_
  rintro _ w1 ⟨hg1, g, us, rfl, hB, hlen, hus⟩
  have hR := Rd.ofBlV hB hlen (by simp [maxLen])
  have hE1 := hE.grown hg1
  repeat (first | refine WC.seq ?_ | refine WC.block ?_ | refine WC.region ?_ | refine WL.nil ?_ | refine WX.then_normal ?_ | refine WC.skip ?_ | refine WC.exit ?_ | refine WC.ret ?_ | refine WX.then_exit ?_ | refine WX.then_ret ?_ | refine WX.block_normal ?_ | refine WX.block_ret ?_ | refine WX.block_same ?_ | refine WX.block_other rfl ?_ | refine WC.label ?_ | refine WC.scope ?_ | refine WX.scope_normal ?_ | refine WX.scope_ret ?_ | refine WX.scope_exit ?_ | refine WL.y rfl (Yld.add rfl rfl (by simp only [In]; omega)) ?_ | refine WL.y rfl (Yld.sub rfl rfl (by simp only [In]; omega)) ?_ | refine WL.y rfl (Yld.mul rfl rfl (by simp only [In]; omega)) ?_ | refine WL.y rfl (Yld.convB tab_ok rfl rfl rfl rfl) ?_ | refine WL.y rfl (Yld.conv tab_ok rfl rfl rfl (by simp only [In]; omega)) ?_ | refine WL.y rfl (Yld.quo rfl rfl (by omega) (by omega) (by simp only [In]; omega)) ?_ | refine WL.y rfl (Yld.rem rfl rfl (by omega) (by omega)) ?_ | refine WL.y rfl (Yld.shl rfl rfl (by omega)) ?_ | refine WL.y rfl (Yld.shr rfl rfl (by omega)) ?_ | refine WL.y rfl (Yld.pure tab_ok rfl) ?_ | refine WL.y rfl (Yld.fld flds_ok rfl rfl rfl) ?_ | refine WL.y rfl (Yld.max2 rfl rfl) ?_ | refine WL.y rfl (Yld.min2 rfl rfl) ?_ | refine WL.y rfl (Yld.pickV rfl rfl rfl) ?_ | refine WL.gno rfl rfl rfl rfl ?_ | refine WL.gyes rfl rfl rfl rfl (Yld.add rfl rfl (by simp only [In]; omega)) ?_ | refine WL.gyes rfl rfl rfl rfl (Yld.sub rfl rfl (by simp only [In]; omega)) ?_ | refine WL.gyes rfl rfl rfl rfl (Yld.mul rfl rfl (by simp only [In]; omega)) ?_ | refine WL.gyes rfl rfl rfl rfl (Yld.convB tab_ok rfl rfl rfl rfl) ?_ | refine WL.gyes rfl rfl rfl rfl (Yld.conv tab_ok rfl rfl rfl (by simp only [In]; omega)) ?_ | refine WL.gyes rfl rfl rfl rfl (Yld.quo rfl rfl (by omega) (by omega) (by simp only [In]; omega)) ?_ | refine WL.gyes rfl rfl rfl rfl (Yld.rem rfl rfl (by omega) (by omega)) ?_ | refine WL.gyes rfl rfl rfl rfl (Yld.shl rfl rfl (by omega)) ?_ | refine WL.gyes rfl rfl rfl rfl (Yld.shr rfl rfl (by omega)) ?_ | refine WL.gyes rfl rfl rfl rfl (Yld.pure tab_ok rfl) ?_ | refine WL.gyes rfl rfl rfl rfl (Yld.fld flds_ok rfl rfl rfl) ?_ | refine WL.gyes rfl rfl rfl rfl (Yld.max2 rfl rfl) ?_ | refine WL.gyes rfl rfl rfl rfl (Yld.min2 rfl rfl) ?_ | refine WL.gyes rfl rfl rfl rfl (Yld.pickV rfl rfl rfl) ?_ | refine WL.gun rfl rfl rfl rfl ?_)
  refine WC.loopF (fun n' L' w' => ∃ i : Nat, n' = 17 - i ∧ L' = [(4, vi i), (3, .slice (some ⟨g, 0, none⟩) 17 17), (0, v)] ∧ i ≤ 17 ∧ (∀ j, j < i → e ≠ .e j) ∧ w1 = w') _ _ ⟨0, rfl, rfl, by omega, fun j hj => by omega, rfl⟩ (by repeat (first | exact Sub.nil | refine Sub.cons rfl ?_)) ?_
  rintro _ _ _ ⟨i, rfl, rfl, hi, hne, rfl⟩
  repeat (first | refine WC.seq ?_ | refine WC.block ?_ | refine WC.region ?_ | refine WL.nil ?_ | refine WX.then_normal ?_ | refine WC.skip ?_ | refine WC.exit ?_ | refine WC.ret ?_ | refine WX.then_exit ?_ | refine WX.then_ret ?_ | refine WX.block_normal ?_ | refine WX.block_ret ?_ | refine WX.block_same ?_ | refine WX.block_other rfl ?_ | refine WC.label ?_ | refine WC.scope ?_ | refine WX.scope_normal ?_ | refine WX.scope_ret ?_ | refine WX.scope_exit ?_ | refine WL.y rfl (Yld.add rfl rfl (by simp only [In]; omega)) ?_ | refine WL.y rfl (Yld.sub rfl rfl (by simp only [In]; omega)) ?_ | refine WL.y rfl (Yld.mul rfl rfl (by simp only [In]; omega)) ?_ | refine WL.y rfl (Yld.convB tab_ok rfl rfl rfl rfl) ?_ | refine WL.y rfl (Yld.conv tab_ok rfl rfl rfl (by simp only [In]; omega)) ?_ | refine WL.y rfl (Yld.quo rfl rfl (by omega) (by omega) (by simp only [In]; omega)) ?_ | refine WL.y rfl (Yld.rem rfl rfl (by omega) (by omega)) ?_ | refine WL.y rfl (Yld.shl rfl rfl (by omega)) ?_ | refine WL.y rfl (Yld.shr rfl rfl (by omega)) ?_ | refine WL.y rfl (Yld.pure tab_ok rfl) ?_ | refine WL.y rfl (Yld.fld flds_ok rfl rfl rfl) ?_ | refine WL.y rfl (Yld.max2 rfl rfl) ?_ | refine WL.y rfl (Yld.min2 rfl rfl) ?_ | refine WL.y rfl (Yld.pickV rfl rfl rfl) ?_ | refine WL.gno rfl rfl rfl rfl ?_ | refine WL.gyes rfl rfl rfl rfl (Yld.add rfl rfl (by simp only [In]; omega)) ?_ | refine WL.gyes rfl rfl rfl rfl (Yld.sub rfl rfl (by simp only [In]; omega)) ?_ | refine WL.gyes rfl rfl rfl rfl (Yld.mul rfl rfl (by simp only [In]; omega)) ?_ | refine WL.gyes rfl rfl rfl rfl (Yld.convB tab_ok rfl rfl rfl rfl) ?_ | refine WL.gyes rfl rfl rfl rfl (Yld.conv tab_ok rfl rfl rfl (by simp only [In]; omega)) ?_ | refine WL.gyes rfl rfl rfl rfl (Yld.quo rfl rfl (by omega) (by omega) (by simp only [In]; omega)) ?_ | refine WL.gyes rfl rfl rfl rfl (Yld.rem rfl rfl (by omega) (by omega)) ?_ | refine WL.gyes rfl rfl rfl rfl (Yld.shl rfl rfl (by omega)) ?_ | refine WL.gyes rfl rfl rfl rfl (Yld.shr rfl rfl (by omega)) ?_ | refine WL.gyes rfl rfl rfl rfl (Yld.pure tab_ok rfl) ?_ | refine WL.gyes rfl rfl rfl rfl (Yld.fld flds_ok rfl rfl rfl) ?_ | refine WL.gyes rfl rfl rfl rfl (Yld.max2 rfl rfl) ?_ | refine WL.gyes rfl rfl rfl rfl (Yld.min2 rfl rfl) ?_ | refine WL.gyes rfl rfl rfl rfl (Yld.pickV rfl rfl rfl) ?_ | refine WL.gun rfl rfl rfl rfl ?_)
  refine WC.cond rfl (fun h => ?_) (fun h => ?_)
  · simp only [decide_eq_true_eq] at h
    have hi' : i < 17 := by omega
    repeat (first | refine WL.y rfl (Yld.iaddrN tab_ok hR rfl rfl hlen.symm rfl (by omega)) ?_ | refine WL.y rfl (Yld.iload .nilIface tab_ok hR rfl rfl (by omega)) ?_ | refine WC.seq ?_ | refine WC.block ?_ | refine WC.region ?_ | refine WL.nil ?_ | refine WX.then_normal ?_ | refine WC.skip ?_ | refine WC.exit ?_ | refine WC.ret ?_ | refine WX.then_exit ?_ | refine WX.then_ret ?_ | refine WX.block_normal ?_ | refine WX.block_ret ?_ | refine WX.block_same ?_ | refine WX.block_other rfl ?_ | refine WC.label ?_ | refine WC.scope ?_ | refine WX.scope_normal ?_ | refine WX.scope_ret ?_ | refine WX.scope_exit ?_ | refine WL.y rfl (Yld.add rfl rfl (by simp only [In]; omega)) ?_ | refine WL.y rfl (Yld.sub rfl rfl (by simp only [In]; omega)) ?_ | refine WL.y rfl (Yld.mul rfl rfl (by simp only [In]; omega)) ?_ | refine WL.y rfl (Yld.convB tab_ok rfl rfl rfl rfl) ?_ | refine WL.y rfl (Yld.conv tab_ok rfl rfl rfl (by simp only [In]; omega)) ?_ | refine WL.y rfl (Yld.quo rfl rfl (by omega) (by omega) (by simp only [In]; omega)) ?_ | refine WL.y rfl (Yld.rem rfl rfl (by omega) (by omega)) ?_ | refine WL.y rfl (Yld.shl rfl rfl (by omega)) ?_ | refine WL.y rfl (Yld.shr rfl rfl (by omega)) ?_ | refine WL.y rfl (Yld.pure tab_ok rfl) ?_ | refine WL.y rfl (Yld.fld flds_ok rfl rfl rfl) ?_ | refine WL.y rfl (Yld.max2 rfl rfl) ?_ | refine WL.y rfl (Yld.min2 rfl rfl) ?_ | refine WL.y rfl (Yld.pickV rfl rfl rfl) ?_ | refine WL.gno rfl rfl rfl rfl ?_ | refine WL.gyes rfl rfl rfl rfl (Yld.add rfl rfl (by simp only [In]; omega)) ?_ | refine WL.gyes rfl rfl rfl rfl (Yld.sub rfl rfl (by simp only [In]; omega)) ?_ | refine WL.gyes rfl rfl rfl rfl (Yld.mul rfl rfl (by simp only [In]; omega)) ?_ | refine WL.gyes rfl rfl rfl rfl (Yld.convB tab_ok rfl rfl rfl rfl) ?_ | refine WL.gyes rfl rfl rfl rfl (Yld.conv tab_ok rfl rfl rfl (by simp only [In]; omega)) ?_ | refine WL.gyes rfl rfl rfl rfl (Yld.quo rfl rfl (by omega) (by omega) (by simp only [In]; omega)) ?_ | refine WL.gyes rfl rfl rfl rfl (Yld.rem rfl rfl (by omega) (by omega)) ?_ | refine WL.gyes rfl rfl rfl rfl (Yld.shl rfl rfl (by omega)) ?_ | refine WL.gyes rfl rfl rfl rfl (Yld.shr rfl rfl (by omega)) ?_ | refine WL.gyes rfl rfl rfl rfl (Yld.pure tab_ok rfl) ?_ | refine WL.gyes rfl rfl rfl rfl (Yld.fld flds_ok rfl rfl rfl) ?_ | refine WL.gyes rfl rfl rfl rfl (Yld.max2 rfl rfl) ?_ | refine WL.gyes rfl rfl rfl rfl (Yld.min2 rfl rfl) ?_ | refine WL.gyes rfl rfl rfl rfl (Yld.pickV rfl rfl rfl) ?_ | refine WL.gun rfl rfl rfl rfl ?_)
    refine WL.call rfl rfl (W_smithysee_Alike (K := fun b => b = decide (e = .e i)) hE1 (hus i hi') ?_) ?_
    · unfold M_smithysee_Alike
      cases e <;> simp
    rintro _ _ ⟨rfl, b, rfl, hb⟩
    subst hb
    refine WL.nil ?_
    repeat (first | refine WC.seq ?_ | refine WC.block ?_ | refine WC.region ?_ | refine WL.nil ?_ | refine WX.then_normal ?_ | refine WC.skip ?_ | refine WC.exit ?_ | refine WC.ret ?_ | refine WX.then_exit ?_ | refine WX.then_ret ?_ | refine WX.block_normal ?_ | refine WX.block_ret ?_ | refine WX.block_same ?_ | refine WX.block_other rfl ?_ | refine WC.label ?_ | refine WC.scope ?_ | refine WX.scope_normal ?_ | refine WX.scope_ret ?_ | refine WX.scope_exit ?_ | refine WL.y rfl (Yld.add rfl rfl (by simp only [In]; omega)) ?_ | refine WL.y rfl (Yld.sub rfl rfl (by simp only [In]; omega)) ?_ | refine WL.y rfl (Yld.mul rfl rfl (by simp only [In]; omega)) ?_ | refine WL.y rfl (Yld.convB tab_ok rfl rfl rfl rfl) ?_ | refine WL.y rfl (Yld.conv tab_ok rfl rfl rfl (by simp only [In]; omega)) ?_ | refine WL.y rfl (Yld.quo rfl rfl (by omega) (by omega) (by simp only [In]; omega)) ?_ | refine WL.y rfl (Yld.rem rfl rfl (by omega) (by omega)) ?_ | refine WL.y rfl (Yld.shl rfl rfl (by omega)) ?_ | refine WL.y rfl (Yld.shr rfl rfl (by omega)) ?_ | refine WL.y rfl (Yld.pure tab_ok rfl) ?_ | refine WL.y rfl (Yld.fld flds_ok rfl rfl rfl) ?_ | refine WL.y rfl (Yld.max2 rfl rfl) ?_ | refine WL.y rfl (Yld.min2 rfl rfl) ?_ | refine WL.y rfl (Yld.pickV rfl rfl rfl) ?_ | refine WL.gno rfl rfl rfl rfl ?_ | refine WL.gyes rfl rfl rfl rfl (Yld.add rfl rfl (by simp only [In]; omega)) ?_ | refine WL.gyes rfl rfl rfl rfl (Yld.sub rfl rfl (by simp only [In]; omega)) ?_ | refine WL.gyes rfl rfl rfl rfl (Yld.mul rfl rfl (by simp only [In]; omega)) ?_ | refine WL.gyes rfl rfl rfl rfl (Yld.convB tab_ok rfl rfl rfl rfl) ?_ | refine WL.gyes rfl rfl rfl rfl (Yld.conv tab_ok rfl rfl rfl (by simp only [In]; omega)) ?_ | refine WL.gyes rfl rfl rfl rfl (Yld.quo rfl rfl (by omega) (by omega) (by simp only [In]; omega)) ?_ | refine WL.gyes rfl rfl rfl rfl (Yld.rem rfl rfl (by omega) (by omega)) ?_ | refine WL.gyes rfl rfl rfl rfl (Yld.shl rfl rfl (by omega)) ?_ | refine WL.gyes rfl rfl rfl rfl (Yld.shr rfl rfl (by omega)) ?_ | refine WL.gyes rfl rfl rfl rfl (Yld.pure tab_ok rfl) ?_ | refine WL.gyes rfl rfl rfl rfl (Yld.fld flds_ok rfl rfl rfl) ?_ | refine WL.gyes rfl rfl rfl rfl (Yld.max2 rfl rfl) ?_ | refine WL.gyes rfl rfl rfl rfl (Yld.min2 rfl rfl) ?_ | refine WL.gyes rfl rfl rfl rfl (Yld.pickV rfl rfl rfl) ?_ | refine WL.gun rfl rfl rfl rfl ?_)
    refine WC.cond rfl (fun h2 => ?_) (fun h2 => ?_)
    · have h3 : e = .e i := of_decide_eq_true h2
      subst h3
      repeat (first | refine WC.seq ?_ | refine WC.block ?_ | refine WC.region ?_ | refine WL.nil ?_ | refine WX.then_normal ?_ | refine WC.skip ?_ | refine WC.exit ?_ | refine WC.ret ?_ | refine WX.then_exit ?_ | refine WX.then_ret ?_ | refine WX.block_normal ?_ | refine WX.block_ret ?_ | refine WX.block_same ?_ | refine WX.block_other rfl ?_ | refine WC.label ?_ | refine WC.scope ?_ | refine WX.scope_normal ?_ | refine WX.scope_ret ?_ | refine WX.scope_exit ?_ | refine WL.y rfl (Yld.add rfl rfl (by simp only [In]; omega)) ?_ | refine WL.y rfl (Yld.sub rfl rfl (by simp only [In]; omega)) ?_ | refine WL.y rfl (Yld.mul rfl rfl (by simp only [In]; omega)) ?_ | refine WL.y rfl (Yld.convB tab_ok rfl rfl rfl rfl) ?_ | refine WL.y rfl (Yld.conv tab_ok rfl rfl rfl (by simp only [In]; omega)) ?_ | refine WL.y rfl (Yld.quo rfl rfl (by omega) (by omega) (by simp only [In]; omega)) ?_ | refine WL.y rfl (Yld.rem rfl rfl (by omega) (by omega)) ?_ | refine WL.y rfl (Yld.shl rfl rfl (by omega)) ?_ | refine WL.y rfl (Yld.shr rfl rfl (by omega)) ?_ | refine WL.y rfl (Yld.pure tab_ok rfl) ?_ | refine WL.y rfl (Yld.fld flds_ok rfl rfl rfl) ?_ | refine WL.y rfl (Yld.max2 rfl rfl) ?_ | refine WL.y rfl (Yld.min2 rfl rfl) ?_ | refine WL.y rfl (Yld.pickV rfl rfl rfl) ?_ | refine WL.gno rfl rfl rfl rfl ?_ | refine WL.gyes rfl rfl rfl rfl (Yld.add rfl rfl (by simp only [In]; omega)) ?_ | refine WL.gyes rfl rfl rfl rfl (Yld.sub rfl rfl (by simp only [In]; omega)) ?_ | refine WL.gyes rfl rfl rfl rfl (Yld.mul rfl rfl (by simp only [In]; omega)) ?_ | refine WL.gyes rfl rfl rfl rfl (Yld.convB tab_ok rfl rfl rfl rfl) ?_ | refine WL.gyes rfl rfl rfl rfl (Yld.conv tab_ok rfl rfl rfl (by simp only [In]; omega)) ?_ | refine WL.gyes rfl rfl rfl rfl (Yld.quo rfl rfl (by omega) (by omega) (by simp only [In]; omega)) ?_ | refine WL.gyes rfl rfl rfl rfl (Yld.rem rfl rfl (by omega) (by omega)) ?_ | refine WL.gyes rfl rfl rfl rfl (Yld.shl rfl rfl (by omega)) ?_ | refine WL.gyes rfl rfl rfl rfl (Yld.shr rfl rfl (by omega)) ?_ | refine WL.gyes rfl rfl rfl rfl (Yld.pure tab_ok rfl) ?_ | refine WL.gyes rfl rfl rfl rfl (Yld.fld flds_ok rfl rfl rfl) ?_ | refine WL.gyes rfl rfl rfl rfl (Yld.max2 rfl rfl) ?_ | refine WL.gyes rfl rfl rfl rfl (Yld.min2 rfl rfl) ?_ | refine WL.gyes rfl rfl rfl rfl (Yld.pickV rfl rfl rfl) ?_ | refine WL.gun rfl rfl rfl rfl ?_)
      exact WX.ret1 rfl rfl ⟨hg1, _, rfl, H⟩
    · have h3 : e ≠ .e i := of_decide_eq_false h2
      repeat (first | refine WC.seq ?_ | refine WC.block ?_ | refine WC.region ?_ | refine WL.nil ?_ | refine WX.then_normal ?_ | refine WC.skip ?_ | refine WC.exit ?_ | refine WC.ret ?_ | refine WX.then_exit ?_ | refine WX.then_ret ?_ | refine WX.block_normal ?_ | refine WX.block_ret ?_ | refine WX.block_same ?_ | refine WX.block_other rfl ?_ | refine WC.label ?_ | refine WC.scope ?_ | refine WX.scope_normal ?_ | refine WX.scope_ret ?_ | refine WX.scope_exit ?_ | refine WL.y rfl (Yld.add rfl rfl (by simp only [In]; omega)) ?_ | refine WL.y rfl (Yld.sub rfl rfl (by simp only [In]; omega)) ?_ | refine WL.y rfl (Yld.mul rfl rfl (by simp only [In]; omega)) ?_ | refine WL.y rfl (Yld.convB tab_ok rfl rfl rfl rfl) ?_ | refine WL.y rfl (Yld.conv tab_ok rfl rfl rfl (by simp only [In]; omega)) ?_ | refine WL.y rfl (Yld.quo rfl rfl (by omega) (by omega) (by simp only [In]; omega)) ?_ | refine WL.y rfl (Yld.rem rfl rfl (by omega) (by omega)) ?_ | refine WL.y rfl (Yld.shl rfl rfl (by omega)) ?_ | refine WL.y rfl (Yld.shr rfl rfl (by omega)) ?_ | refine WL.y rfl (Yld.pure tab_ok rfl) ?_ | refine WL.y rfl (Yld.fld flds_ok rfl rfl rfl) ?_ | refine WL.y rfl (Yld.max2 rfl rfl) ?_ | refine WL.y rfl (Yld.min2 rfl rfl) ?_ | refine WL.y rfl (Yld.pickV rfl rfl rfl) ?_ | refine WL.gno rfl rfl rfl rfl ?_ | refine WL.gyes rfl rfl rfl rfl (Yld.add rfl rfl (by simp only [In]; omega)) ?_ | refine WL.gyes rfl rfl rfl rfl (Yld.sub rfl rfl (by simp only [In]; omega)) ?_ | refine WL.gyes rfl rfl rfl rfl (Yld.mul rfl rfl (by simp only [In]; omega)) ?_ | refine WL.gyes rfl rfl rfl rfl (Yld.convB tab_ok rfl rfl rfl rfl) ?_ | refine WL.gyes rfl rfl rfl rfl (Yld.conv tab_ok rfl rfl rfl (by simp only [In]; omega)) ?_ | refine WL.gyes rfl rfl rfl rfl (Yld.quo rfl rfl (by omega) (by omega) (by simp only [In]; omega)) ?_ | refine WL.gyes rfl rfl rfl rfl (Yld.rem rfl rfl (by omega) (by omega)) ?_ | refine WL.gyes rfl rfl rfl rfl (Yld.shl rfl rfl (by omega)) ?_ | refine WL.gyes rfl rfl rfl rfl (Yld.shr rfl rfl (by omega)) ?_ | refine WL.gyes rfl rfl rfl rfl (Yld.pure tab_ok rfl) ?_ | refine WL.gyes rfl rfl rfl rfl (Yld.fld flds_ok rfl rfl rfl) ?_ | refine WL.gyes rfl rfl rfl rfl (Yld.max2 rfl rfl) ?_ | refine WL.gyes rfl rfl rfl rfl (Yld.min2 rfl rfl) ?_ | refine WL.gyes rfl rfl rfl rfl (Yld.pickV rfl rfl rfl) ?_ | refine WL.gun rfl rfl rfl rfl ?_)
      refine WX.roundF _ ⟨i + 1, rfl, rfl, by omega, fun j hj => ?_, rfl⟩ (by repeat (first | exact Sub.nil | refine Sub.cons rfl ?_)) (by omega)
      rcases Nat.lt_or_ge j i with hji | hji
      · exact hne j hji
      · obtain rfl : j = i := by omega
        exact h3
  · simp only [decide_eq_false_iff_not] at h
    repeat (first | refine WC.seq ?_ | refine WC.block ?_ | refine WC.region ?_ | refine WL.nil ?_ | refine WX.then_normal ?_ | refine WC.skip ?_ | refine WC.exit ?_ | refine WC.ret ?_ | refine WX.then_exit ?_ | refine WX.then_ret ?_ | refine WX.block_normal ?_ | refine WX.block_ret ?_ | refine WX.block_same ?_ | refine WX.block_other rfl ?_ | refine WC.label ?_ | refine WC.scope ?_ | refine WX.scope_normal ?_ | refine WX.scope_ret ?_ | refine WX.scope_exit ?_ | refine WL.y rfl (Yld.add rfl rfl (by simp only [In]; omega)) ?_ | refine WL.y rfl (Yld.sub rfl rfl (by simp only [In]; omega)) ?_ | refine WL.y rfl (Yld.mul rfl rfl (by simp only [In]; omega)) ?_ | refine WL.y rfl (Yld.convB tab_ok rfl rfl rfl rfl) ?_ | refine WL.y rfl (Yld.conv tab_ok rfl rfl rfl (by simp only [In]; omega)) ?_ | refine WL.y rfl (Yld.quo rfl rfl (by omega) (by omega) (by simp only [In]; omega)) ?_ | refine WL.y rfl (Yld.rem rfl rfl (by omega) (by omega)) ?_ | refine WL.y rfl (Yld.shl rfl rfl (by omega)) ?_ | refine WL.y rfl (Yld.shr rfl rfl (by omega)) ?_ | refine WL.y rfl (Yld.pure tab_ok rfl) ?_ | refine WL.y rfl (Yld.fld flds_ok rfl rfl rfl) ?_ | refine WL.y rfl (Yld.max2 rfl rfl) ?_ | refine WL.y rfl (Yld.min2 rfl rfl) ?_ | refine WL.y rfl (Yld.pickV rfl rfl rfl) ?_ | refine WL.gno rfl rfl rfl rfl ?_ | refine WL.gyes rfl rfl rfl rfl (Yld.add rfl rfl (by simp only [In]; omega)) ?_ | refine WL.gyes rfl rfl rfl rfl (Yld.sub rfl rfl (by simp only [In]; omega)) ?_ | refine WL.gyes rfl rfl rfl rfl (Yld.mul rfl rfl (by simp only [In]; omega)) ?_ | refine WL.gyes rfl rfl rfl rfl (Yld.convB tab_ok rfl rfl rfl rfl) ?_ | refine WL.gyes rfl rfl rfl rfl (Yld.conv tab_ok rfl rfl rfl (by simp only [In]; omega)) ?_ | refine WL.gyes rfl rfl rfl rfl (Yld.quo rfl rfl (by omega) (by omega) (by simp only [In]; omega)) ?_ | refine WL.gyes rfl rfl rfl rfl (Yld.rem rfl rfl (by omega) (by omega)) ?_ | refine WL.gyes rfl rfl rfl rfl (Yld.shl rfl rfl (by omega)) ?_ | refine WL.gyes rfl rfl rfl rfl (Yld.shr rfl rfl (by omega)) ?_ | refine WL.gyes rfl rfl rfl rfl (Yld.pure tab_ok rfl) ?_ | refine WL.gyes rfl rfl rfl rfl (Yld.fld flds_ok rfl rfl rfl) ?_ | refine WL.gyes rfl rfl rfl rfl (Yld.max2 rfl rfl) ?_ | refine WL.gyes rfl rfl rfl rfl (Yld.min2 rfl rfl) ?_ | refine WL.gyes rfl rfl rfl rfl (Yld.pickV rfl rfl rfl) ?_ | refine WL.gun rfl rfl rfl rfl ?_)
    refine WX.ret1 rfl rfl ⟨hg1, _, rfl, ?_⟩
    have : sentV e = -1 := by
      cases e with
      | e n =>
        by_cases hn : n < 17
        · exact absurd rfl (hne n (by omega))
        · exact absurd (ErV.lt hE.1) hn
      | ok => rfl
      | at_ p n => rfl
    rw [this] at H
    exact H
end Go.Proofs.YtjinkmipkfjblaaDoor


 /- Printed by a program (wip/vg): what the functions mean, plainly, and their walks. -/
namespace Go.Proofs.YtjinkmipkfjblaaDoor
open Go Go.RowKit
attribute [local irreducible] WL WC WX WQ WK WJ Yld Eff Ef0 Fn
def M_smithysee_placed (e : Er) (K : Int → Bool → Int → Bool → (List UInt8) → Prop) : Prop :=
 ((∀ (pos : Int) (n : Nat), e = Er.at_ pos n → (((false || (decide ((Er.e n) = Er.ok))) = true → M_smithyref_Bare (-1 : Int) (fun (t24_Code : Int) (t24_Placed : Bool) (t24_Pos : Int) (t24_Filed : Bool) (t24_File : List UInt8) =>
 K t24_Code t24_Placed t24_Pos t24_Filed t24_File)) ∧
 ((false || (decide ((Er.e n) = Er.ok))) = false → M_smithysee_sentinel (Er.e n) (fun (t29 : Int) =>
 M_smithyref_Placed t29 pos (fun (t34_Code : Int) (t34_Placed : Bool) (t34_Pos : Int) (t34_Filed : Bool) (t34_File : List UInt8) =>
 K t34_Code t34_Placed t34_Pos t34_Filed t34_File))))) ∧
 ((∀ p n, e ≠ Er.at_ p n) → M_smithysee_sentinel e (fun (t13 : Int) =>
 M_smithyref_Bare t13 (fun (t14_Code : Int) (t14_Placed : Bool) (t14_Pos : Int) (t14_Filed : Bool) (t14_File : List UInt8) =>
 K t14_Code t14_Placed t14_Pos t14_Filed t14_File))))

def M_smithysee_Fault (e : Er) (K : Int → Bool → Int → Bool → (List UInt8) → Prop) : Prop :=
 ((e = Er.ok → M_smithyref_None (fun (t8_Code : Int) (t8_Placed : Bool) (t8_Pos : Int) (t8_Filed : Bool) (t8_File : List UInt8) =>
 K t8_Code t8_Placed t8_Pos t8_Filed t8_File)) ∧
 (¬ (e = Er.ok) → M_smithysee_placed e (fun (t17_Code : Int) (t17_Placed : Bool) (t17_Pos : Int) (t17_Filed : Bool) (t17_File : List UInt8) =>
 K t17_Code t17_Placed t17_Pos t17_Filed t17_File)))

def M_smithysee_Same (e : Er) (f_Code : Int) (f_Placed : Bool) (f_Pos : Int) (f_Filed : Bool) (f_File : List UInt8) (K : Bool → Prop) : Prop :=
 M_smithysee_Fault e (fun (t6_Code : Int) (t6_Placed : Bool) (t6_Pos : Int) (t6_Filed : Bool) (t6_File : List UInt8) =>
 M_smithyref_SameFault t6_Code t6_Placed t6_Pos t6_Filed t6_File f_Code f_Placed f_Pos f_Filed f_File (fun (t4 : Bool) =>
 K t4))

def M_smithysee_Is (e : Er) (code : Int) (K : Bool → Prop) : Prop :=
 M_smithyref_Bare code (fun (t7_Code : Int) (t7_Placed : Bool) (t7_Pos : Int) (t7_Filed : Bool) (t7_File : List UInt8) =>
 M_smithysee_Same e t7_Code t7_Placed t7_Pos t7_Filed t7_File (fun (t4 : Bool) =>
 K t4))

set_option maxHeartbeats 8000000 in
theorem W_smithysee_placed {S : List Nat} {w : World} {v_e : Value} {e : Er} {K : Int → Bool → Int → Bool → (List UInt8) → Prop} (hG : GOK S w) (hS0 : 0 ∈ S) (hS1 : 1 ∈ S) (hS2 : 2 ∈ S) (hS3 : 3 ∈ S) (hS4 : 4 ∈ S) (hS5 : 5 ∈ S) (hS6 : 6 ∈ S) (hS7 : 7 ∈ S) (hS8 : 8 ∈ S) (hS9 : 9 ∈ S) (hS10 : 10 ∈ S) (hS11 : 11 ∈ S) (hS12 : 12 ∈ S) (hS13 : 13 ∈ S) (hS14 : 14 ∈ S) (hS15 : 15 ∈ S) (hS16 : 16 ∈ S) (he : ErrR S w v_e e) (H : M_smithysee_placed e K) : Fn Tryd.prog 122 ⟨[v_e]⟩ w (fun v w' => w.grownBy w' none ∧ ∃ (r_Code : Int), ∃ (r_Placed : Bool), ∃ (r_Pos : Int), ∃ (r_Filed : Bool), ∃ (r_File : List UInt8), v = .agg ⟨[.int .i64 r_Code, .bool r_Placed, .int .i64 r_Pos, .bool r_Filed, vs r_File]⟩ ∧ K r_Code r_Placed r_Pos r_Filed r_File) := by
  unfold M_smithysee_placed at H
  refine Fn.enter (by kernel_rfl) Tryd.func122 rfl Tryd.ntmps122 rfl ?_
  refine WC.seq ?_
  refine WC.region ?_
  refine WL.alloc rfl zero91 (fun g1 w1 hB1 hg1 hl1 => ?_)
  have gr1 := hg1
  refine WL.nil (WX.then_normal ?_)
  refine WC.seq ?_
  refine WC.region ?_
  refine WL.y rfl (Yld.pure tab_ok rfl) ?_
  rcases Er.atCases e with ⟨pos, n, he1⟩ | he1
  · replace H := H.1 pos n he1
    obtain ⟨b1, vE1, hv1, hB2, hE1⟩ := ErrR.atOut (he1 ▸ (he.grown gr1))
    refine WL.y rfl (Yld.assertYes Tryd.underlying156 rfl hv1) ?_
    refine WL.y rfl (Yld.pure tab_ok rfl) ?_
    refine WL.y rfl (Yld.pure tab_ok rfl) ?_
    refine WL.y rfl (Yld.pure tab_ok rfl) ?_
    refine WL.y rfl (Yld.pure tab_ok rfl) ?_
    refine WL.y rfl (Yld.pure tab_ok rfl) ?_
    refine WL.nil (WX.then_normal ?_)
    refine WC.seq ?_
    refine WC.seq ?_
    refine WC.region ?_
    refine WL.y rfl (Yld.pure tab_ok rfl) ?_
    refine WL.y rfl (Yld.pure tab_ok rfl) ?_
    refine WL.nil (WX.then_normal ?_)
    refine WC.cond rfl (fun h => by cases h) (fun _ => ?_)
    refine WC.skip (WX.then_normal ?_)
    refine WC.seq ?_
    refine WC.seq ?_
    refine WC.region ?_
    refine WL.y rfl (Yld.pure tab_ok rfl) ?_
    refine WL.y rfl (Yld.peqnil Tryd.underlying156 rfl rfl) ?_
    refine WL.y rfl (Yld.pure tab_ok rfl) ?_
    refine WL.midF 6 (fun L' w' => ∃ q1 : Bool, L' = [(23, .bool q1), (2, .pointer (some ⟨g1, 0, none⟩)), (3, .pointer (some ⟨b1, 0, none⟩))] ∧ q1 = (false || (decide ((Er.e n) = Er.ok))) ∧ w1 = w') ?_ (fun hQ => ?_)
    · rintro _ _ ⟨q1, rfl, rfl, rfl⟩
      refine WL.nil (WX.then_normal ?_)
      refine WC.cond rfl (fun b2 => ?_) (fun b2 => ?_)
      · replace H := H.1 (b2)
        refine WC.seq ?_
        refine WC.region ?_
        refine WL.call rfl rfl (W_smithyref_Bare H) ?_
        rintro _ w2 ⟨hg2, t24_Code, t24_Placed, t24_Pos, t24_Filed, t24_File, rfl, H⟩
        have gr2 := gr_trans gr1 hg2
        have k1 := hB1.g0 hg2
        refine WL.storeW (vs := [.int .i64 t24_Code, .bool t24_Placed, .int .i64 t24_Pos, .bool t24_Filed, vs t24_File]) tab_ok rfl rfl rfl (all1c rfl (all1c rfl (all1c rfl (all1c rfl (all1c rfl all1n))))) k1 rfl rfl (fun w3 hB3 hg3 => ?_)
        have gr3 := gr_mod gr2 hg3 (Ge.le (Ge.box hl1) (Nat.le_refl _))
        refine WL.nil (WX.then_normal ?_)
        refine WC.ret (WX.then_ret ?_)
        exact WX.retc tab_ok rfl rfl rfl hB3 rfl ⟨gr3, t24_Code, t24_Placed, t24_Pos, t24_Filed, t24_File, rfl, H⟩
      · replace H := H.2 (b2)
        refine WC.skip (WX.then_normal ?_)
        refine WC.seq ?_
        refine WC.chainF (fun k => !(Nat.beq k 4 || Nat.beq k 9 || Nat.beq k 10)) (LD [3, 8] (fun w' => Bl w' b1 160 [.int .i64 pos, vE1])) mixed (by kernel_rfl) (fun k w' h _ => (bl_eqv h hB2)) ?_
        refine WJ.y rfl rfl (fun w' hw' => Yld.pure tab_ok rfl) ?_
        refine WJ.y rfl rfl (fun w' hw' => Yld.pure tab_ok rfl) ?_
        refine WJ.y rfl rfl (fun w' hw' => Yld.pure tab_ok rfl) ?_
        refine WJ.y rfl rfl (fun w' hw' => Yld.bload tab_ok (hw' rfl) rfl rfl rfl) ?_
        refine WJ.call rfl (wants_none) rfl rfl (W_smithysee_sentinel (hG.grown gr1) hS0 hS1 hS2 hS3 hS4 hS5 hS6 hS7 hS8 hS9 hS10 hS11 hS12 hS13 hS14 hS15 hS16 hE1 H) (fun v w' h w2 e => DD.keep (Bl.g0 hB2 (gr_eqv h.1 e))) ?_
        rintro _ w4 ⟨hg4, t29, rfl, H⟩
        have gr4 := gr_trans gr1 hg4
        have k2 := hB1.g0 hg4
        have k3 := hE1.grown hg4
        have k4 := hB2.g0 hg4
        refine WJ.y rfl rfl (fun w' hw' => Yld.pure tab_ok rfl) ?_
        refine WJ.y rfl rfl (fun w' hw' => Yld.pure tab_ok rfl) ?_
        refine WJ.y rfl rfl (fun w' hw' => Yld.pure tab_ok rfl) ?_
        refine WJ.y rfl rfl (fun w' hw' => Yld.bload tab_ok (hw' rfl) rfl rfl rfl) ?_
        refine WJ.call rfl (wants_none) rfl rfl (W_smithyref_Placed H) (fun v w' h w2 e => DD.keep (Bl.g0 k4 (gr_eqv h.1 e))) ?_
        rintro _ w5 ⟨hg5, t34_Code, t34_Placed, t34_Pos, t34_Filed, t34_File, rfl, H⟩
        have gr5 := gr_trans gr4 hg5
        have k5 := k2.g0 hg5
        have k6 := k4.g0 hg5
        refine WJ.eff rfl (Ef0.storeW (vs := [.int .i64 t34_Code, .bool t34_Placed, .int .i64 t34_Pos, .bool t34_Filed, vs t34_File]) tab_ok rfl rfl rfl (all1c rfl (all1c rfl (all1c rfl (all1c rfl (all1c rfl all1n))))) k5 rfl rfl) (fun w' h => DD.past (by kernel_rfl)) ?_
        rintro w6 ⟨hB4, hg6⟩
        have gr6 := gr_mod gr5 hg6 (Ge.le (Ge.box hl1) (Nat.le_refl _))
        refine WJ.nil (WX.then_normal ?_)
        refine WC.ret ?_
        exact WX.retc tab_ok rfl rfl rfl hB4 rfl ⟨gr6, t34_Code, t34_Placed, t34_Pos, t34_Filed, t34_File, rfl, H⟩
    · clear H
      rcases Bool.eq_false_or_eq_true (false) with b3 | b3
      · refine WL.gno rfl rfl (okb b3) rfl ?_
        refine WL.gno rfl rfl (okb b3) rfl ?_
        refine WL.gno rfl rfl (okb b3) rfl ?_
        refine WL.gno rfl rfl (okb b3) rfl ?_
        refine WL.gno rfl rfl (okb b3) rfl ?_
        refine WL.y rfl (Yld.pickT (okb b3) rfl) ?_
        exact WL.weaken (by repeat (first | exact Sub.nil | refine Sub.cons rfl ?_)) (hQ _ _ ⟨true, rfl, by rw [b3] <;> rfl, rfl⟩)
      · refine WL.gyes rfl rfl (okb b3) rfl (Yld.pure tab_ok rfl) ?_
        refine WL.gyes rfl rfl (okb b3) rfl (Yld.pure tab_ok rfl) ?_
        refine WL.gyes rfl rfl (okb b3) rfl (Yld.pure tab_ok rfl) ?_
        refine WL.gyes rfl rfl (okb b3) rfl (Yld.bload tab_ok hB2 rfl rfl rfl) ?_
        refine WL.gyes rfl rfl (okb b3) rfl (Yld.erreql Tryd.underlying29 hE1 rfl) ?_
        refine WL.y rfl (Yld.pickF (okb b3) rfl) ?_
        exact WL.weaken (by repeat (first | exact Sub.nil | refine Sub.cons rfl ?_)) (hQ _ _ ⟨decide ((Er.e n) = Er.ok), rfl, by rw [b3] <;> rfl, rfl⟩)
  · replace H := H.2 he1
    refine WL.y rfl (Yld.assertNo Tryd.underlying156 (fun _ => by kernel_rfl) (he.grown gr1) rfl rfl (.inr he1)) ?_
    refine WL.y rfl (Yld.pure tab_ok rfl) ?_
    refine WL.y rfl (Yld.pure tab_ok rfl) ?_
    refine WL.y rfl (Yld.pure tab_ok rfl) ?_
    refine WL.y rfl (Yld.pure tab_ok rfl) ?_
    refine WL.y rfl (Yld.pure tab_ok rfl) ?_
    refine WL.nil (WX.then_normal ?_)
    refine WC.seq ?_
    refine WC.seq ?_
    refine WC.region ?_
    refine WL.y rfl (Yld.pure tab_ok rfl) ?_
    refine WL.y rfl (Yld.pure tab_ok rfl) ?_
    refine WL.nil (WX.then_normal ?_)
    refine WC.cond rfl (fun _ => ?_) (fun h => by cases h)
    refine WC.seq ?_
    refine WC.region ?_
    refine WL.y rfl (Yld.pure tab_ok rfl) ?_
    refine WL.call rfl rfl (W_smithysee_sentinel (hG.grown gr1) hS0 hS1 hS2 hS3 hS4 hS5 hS6 hS7 hS8 hS9 hS10 hS11 hS12 hS13 hS14 hS15 hS16 (he.grown gr1) H) ?_
    rintro _ w7 ⟨hg7, t13, rfl, H⟩
    have gr7 := gr_trans gr1 hg7
    have k8 := hB1.g0 hg7
    refine WL.call rfl rfl (W_smithyref_Bare H) ?_
    rintro _ w8 ⟨hg8, t14_Code, t14_Placed, t14_Pos, t14_Filed, t14_File, rfl, H⟩
    have gr8 := gr_trans gr7 hg8
    have k9 := k8.g0 hg8
    refine WL.storeW (vs := [.int .i64 t14_Code, .bool t14_Placed, .int .i64 t14_Pos, .bool t14_Filed, vs t14_File]) tab_ok rfl rfl rfl (all1c rfl (all1c rfl (all1c rfl (all1c rfl (all1c rfl all1n))))) k9 rfl rfl (fun w9 hB5 hg9 => ?_)
    have gr9 := gr_mod gr8 hg9 (Ge.le (Ge.box hl1) (Nat.le_refl _))
    refine WL.nil (WX.then_normal ?_)
    refine WC.ret (WX.then_ret ?_)
    exact WX.retc tab_ok rfl rfl rfl hB5 rfl ⟨gr9, t14_Code, t14_Placed, t14_Pos, t14_Filed, t14_File, rfl, H⟩

set_option maxHeartbeats 8000000 in
theorem W_smithysee_Fault {S : List Nat} {w : World} {v_e : Value} {e : Er} {K : Int → Bool → Int → Bool → (List UInt8) → Prop} (hG : GOK S w) (hS0 : 0 ∈ S) (hS1 : 1 ∈ S) (hS2 : 2 ∈ S) (hS3 : 3 ∈ S) (hS4 : 4 ∈ S) (hS5 : 5 ∈ S) (hS6 : 6 ∈ S) (hS7 : 7 ∈ S) (hS8 : 8 ∈ S) (hS9 : 9 ∈ S) (hS10 : 10 ∈ S) (hS11 : 11 ∈ S) (hS12 : 12 ∈ S) (hS13 : 13 ∈ S) (hS14 : 14 ∈ S) (hS15 : 15 ∈ S) (hS16 : 16 ∈ S) (he : ErrR S w v_e e) (H : M_smithysee_Fault e K) : Fn Tryd.prog 94 ⟨[v_e]⟩ w (fun v w' => w.grownBy w' none ∧ ∃ (r_Code : Int), ∃ (r_Placed : Bool), ∃ (r_Pos : Int), ∃ (r_Filed : Bool), ∃ (r_File : List UInt8), v = .agg ⟨[.int .i64 r_Code, .bool r_Placed, .int .i64 r_Pos, .bool r_Filed, vs r_File]⟩ ∧ K r_Code r_Placed r_Pos r_Filed r_File) := by
  unfold M_smithysee_Fault at H
  refine Fn.enter (by kernel_rfl) Tryd.func94 rfl Tryd.ntmps94 rfl ?_
  refine WC.seq ?_
  refine WC.region ?_
  refine WL.alloc rfl zero91 (fun g1 w1 hB1 hg1 hl1 => ?_)
  have gr1 := hg1
  refine WL.nil (WX.then_normal ?_)
  refine WC.seq ?_
  refine WC.seq ?_
  refine WC.region ?_
  refine WL.y rfl (Yld.pure tab_ok rfl) ?_
  refine WL.y rfl (Yld.erreql Tryd.underlying29 (he.grown gr1) rfl) ?_
  refine WL.nil (WX.then_normal ?_)
  refine WC.cond rfl (fun b1 => ?_) (fun b1 => ?_)
  · replace H := H.1 (of_decide_eq_true b1)
    refine WC.seq ?_
    refine WC.region ?_
    refine WL.call rfl rfl (W_smithyref_None H) ?_
    rintro _ w2 ⟨hg2, t8_Code, t8_Placed, t8_Pos, t8_Filed, t8_File, rfl, H⟩
    have gr2 := gr_trans gr1 hg2
    have k1 := hB1.g0 hg2
    refine WL.storeW (vs := [.int .i64 t8_Code, .bool t8_Placed, .int .i64 t8_Pos, .bool t8_Filed, vs t8_File]) tab_ok rfl rfl rfl (all1c rfl (all1c rfl (all1c rfl (all1c rfl (all1c rfl all1n))))) k1 rfl rfl (fun w3 hB2 hg3 => ?_)
    have gr3 := gr_mod gr2 hg3 (Ge.le (Ge.box hl1) (Nat.le_refl _))
    refine WL.nil (WX.then_normal ?_)
    refine WC.ret (WX.then_ret ?_)
    exact WX.retc tab_ok rfl rfl rfl hB2 rfl ⟨gr3, t8_Code, t8_Placed, t8_Pos, t8_Filed, t8_File, rfl, H⟩
  · replace H := H.2 (of_decide_eq_false b1)
    refine WC.skip (WX.then_normal ?_)
    refine WC.seq ?_
    refine WC.region ?_
    refine WL.y rfl (Yld.pure tab_ok rfl) ?_
    refine WL.y rfl (Yld.assertNo Tryd.underlying140 (fun _ => by kernel_rfl) (he.grown gr1) rfl rfl (.inl rfl)) ?_
    refine WL.y rfl (Yld.pure tab_ok rfl) ?_
    refine WL.y rfl (Yld.pure tab_ok rfl) ?_
    refine WL.y rfl (Yld.pure tab_ok rfl) ?_
    refine WL.y rfl (Yld.pure tab_ok rfl) ?_
    refine WL.y rfl (Yld.pure tab_ok rfl) ?_
    refine WL.nil (WX.then_normal ?_)
    refine WC.seq ?_
    refine WC.seq ?_
    refine WC.region ?_
    refine WL.y rfl (Yld.pure tab_ok rfl) ?_
    refine WL.y rfl (Yld.pure tab_ok rfl) ?_
    refine WL.nil (WX.then_normal ?_)
    refine WC.cond rfl (fun _ => ?_) (fun h => by cases h)
    refine WC.seq ?_
    refine WC.region ?_
    refine WL.y rfl (Yld.pure tab_ok rfl) ?_
    refine WL.call rfl rfl (W_smithysee_placed (hG.grown gr1) hS0 hS1 hS2 hS3 hS4 hS5 hS6 hS7 hS8 hS9 hS10 hS11 hS12 hS13 hS14 hS15 hS16 (he.grown gr1) H) ?_
    rintro _ w4 ⟨hg4, t17_Code, t17_Placed, t17_Pos, t17_Filed, t17_File, rfl, H⟩
    have gr4 := gr_trans gr1 hg4
    have k2 := hB1.g0 hg4
    refine WL.storeW (vs := [.int .i64 t17_Code, .bool t17_Placed, .int .i64 t17_Pos, .bool t17_Filed, vs t17_File]) tab_ok rfl rfl rfl (all1c rfl (all1c rfl (all1c rfl (all1c rfl (all1c rfl all1n))))) k2 rfl rfl (fun w5 hB3 hg5 => ?_)
    have gr5 := gr_mod gr4 hg5 (Ge.le (Ge.box hl1) (Nat.le_refl _))
    refine WL.nil (WX.then_normal ?_)
    refine WC.ret (WX.then_ret ?_)
    exact WX.retc tab_ok rfl rfl rfl hB3 rfl ⟨gr5, t17_Code, t17_Placed, t17_Pos, t17_Filed, t17_File, rfl, H⟩

set_option maxHeartbeats 8000000 in
theorem W_smithysee_Same {S : List Nat} {w : World} {v_e : Value} {e : Er} {f_Code : Int} {f_Placed : Bool} {f_Pos : Int} {f_Filed : Bool} {f_File : List UInt8} {K : Bool → Prop} (hG : GOK S w) (hS0 : 0 ∈ S) (hS1 : 1 ∈ S) (hS2 : 2 ∈ S) (hS3 : 3 ∈ S) (hS4 : 4 ∈ S) (hS5 : 5 ∈ S) (hS6 : 6 ∈ S) (hS7 : 7 ∈ S) (hS8 : 8 ∈ S) (hS9 : 9 ∈ S) (hS10 : 10 ∈ S) (hS11 : 11 ∈ S) (hS12 : 12 ∈ S) (hS13 : 13 ∈ S) (hS14 : 14 ∈ S) (hS15 : 15 ∈ S) (hS16 : 16 ∈ S) (he : ErrR S w v_e e) (H : M_smithysee_Same e f_Code f_Placed f_Pos f_Filed f_File K) : Fn Tryd.prog 65 ⟨[v_e, .agg ⟨[.int .i64 f_Code, .bool f_Placed, .int .i64 f_Pos, .bool f_Filed, vs f_File]⟩]⟩ w (fun v w' => w.grownBy w' none ∧ ∃ (r : Bool), v = .bool r ∧ K r) := by
  unfold M_smithysee_Same at H
  refine Fn.enter (by kernel_rfl) Tryd.func65 rfl Tryd.ntmps65 rfl ?_
  refine WC.seq ?_
  refine WC.region ?_
  refine WL.box (us := [.int .i64 f_Code, .bool f_Placed, .int .i64 f_Pos, .bool f_Filed, vs f_File]) rfl rfl rfl (fun g1 w1 hB1 hg1 hl1 => ?_)
  have gr1 := hg1
  refine WL.y rfl (Yld.pure tab_ok rfl) ?_
  refine WL.nil (WX.then_normal ?_)
  refine WC.seq ?_
  refine WC.chainF (fun k => !(Nat.beq k 1 || Nat.beq k 3)) (LD [2] (fun w' => Bl w' g1 91 [.int .i64 f_Code, .bool f_Placed, .int .i64 f_Pos, .bool f_Filed, vs f_File])) mixed (by kernel_rfl) (fun k w' h _ => (bl_eqv h hB1)) ?_
  refine WJ.y rfl rfl (fun w' hw' => Yld.pure tab_ok rfl) ?_
  refine WJ.call rfl (wants_none) rfl rfl (W_smithysee_Fault (hG.grown gr1) hS0 hS1 hS2 hS3 hS4 hS5 hS6 hS7 hS8 hS9 hS10 hS11 hS12 hS13 hS14 hS15 hS16 (he.grown gr1) H) (fun v w' h w2 e => DD.keep (Bl.g0 hB1 (gr_eqv h.1 e))) ?_
  rintro _ w2 ⟨hg2, t6_Code, t6_Placed, t6_Pos, t6_Filed, t6_File, rfl, H⟩
  have gr2 := gr_trans gr1 hg2
  have k1 := hB1.g0 hg2
  refine WJ.y rfl rfl (fun w' hw' => Yld.bagg (vs := [.int .i64 f_Code, .bool f_Placed, .int .i64 f_Pos, .bool f_Filed, vs f_File]) tab_ok (hw' rfl) rfl rfl rfl rfl) ?_
  refine WJ.call rfl (wants_none) rfl rfl (W_smithyref_SameFault H) (fun v w' h w2 e => DD.keep (Bl.g0 k1 (gr_eqv h.1 e))) ?_
  rintro _ w3 ⟨hg3, t4, rfl, H⟩
  have gr3 := gr_trans gr2 hg3
  have k2 := k1.g0 hg3
  refine WJ.y rfl rfl (fun w' hw' => Yld.pure tab_ok rfl) ?_
  refine WJ.nil (WX.then_normal ?_)
  refine WC.ret ?_
  exact WX.ret1 rfl rfl ⟨gr3, t4, rfl, H⟩

set_option maxHeartbeats 8000000 in
theorem W_smithysee_Is {S : List Nat} {w : World} {v_e : Value} {e : Er} {code : Int} {K : Bool → Prop} (hG : GOK S w) (hS0 : 0 ∈ S) (hS1 : 1 ∈ S) (hS2 : 2 ∈ S) (hS3 : 3 ∈ S) (hS4 : 4 ∈ S) (hS5 : 5 ∈ S) (hS6 : 6 ∈ S) (hS7 : 7 ∈ S) (hS8 : 8 ∈ S) (hS9 : 9 ∈ S) (hS10 : 10 ∈ S) (hS11 : 11 ∈ S) (hS12 : 12 ∈ S) (hS13 : 13 ∈ S) (hS14 : 14 ∈ S) (hS15 : 15 ∈ S) (hS16 : 16 ∈ S) (he : ErrR S w v_e e) (H : M_smithysee_Is e code K) : Fn Tryd.prog 31 ⟨[v_e, .int .i64 code]⟩ w (fun v w' => w.grownBy w' none ∧ ∃ (r : Bool), v = .bool r ∧ K r) := by
  unfold M_smithysee_Is at H
  refine Fn.enter (by kernel_rfl) Tryd.func31 rfl Tryd.ntmps31 rfl ?_
  refine WC.seq ?_
  refine WC.region ?_
  refine WL.y rfl (Yld.pure tab_ok rfl) ?_
  refine WL.nil (WX.then_normal ?_)
  refine WC.seq ?_
  refine WC.region ?_
  refine WL.y rfl (Yld.pure tab_ok rfl) ?_
  refine WL.y rfl (Yld.pure tab_ok rfl) ?_
  refine WL.call rfl rfl (W_smithyref_Bare H) ?_
  rintro _ w1 ⟨hg1, t7_Code, t7_Placed, t7_Pos, t7_Filed, t7_File, rfl, H⟩
  have gr1 := hg1
  refine WL.call rfl rfl (W_smithysee_Same (hG.grown gr1) hS0 hS1 hS2 hS3 hS4 hS5 hS6 hS7 hS8 hS9 hS10 hS11 hS12 hS13 hS14 hS15 hS16 (he.grown gr1) H) ?_
  rintro _ w2 ⟨hg2, t4, rfl, H⟩
  have gr2 := gr_trans gr1 hg2
  refine WL.y rfl (Yld.pure tab_ok rfl) ?_
  refine WL.nil (WX.then_normal ?_)
  refine WC.ret ?_
  exact WX.ret1 rfl rfl ⟨gr2, t4, rfl, H⟩

end Go.Proofs.YtjinkmipkfjblaaDoor

 /- Printed by a program (wip/vg): what the functions mean, plainly, and their walks. -/
namespace Go.Proofs.YtjinkmipkfjblaaDoor
open Go Go.RowKit
attribute [local irreducible] WL WC WX WQ WK WJ Yld Eff Ef0 Fn
def M_internal_stringslite_HasPrefix (s : List UInt8) (prefix_ : List UInt8) (K : Bool → Prop) : Prop :=
 ((decide ((prefix_.length : Int) ≤ (s.length : Int))) = true → (0 ≤ (prefix_.length : Int) ∧ (prefix_.length : Int) ≤ s.length)) ∧
 K ((decide ((prefix_.length : Int) ≤ (s.length : Int))) && (decide ((s.take (prefix_.length : Int).toNat) = prefix_)))

def M_strings_HasPrefix (s : List UInt8) (prefix_ : List UInt8) (K : Bool → Prop) : Prop :=
 M_internal_stringslite_HasPrefix s prefix_ (fun (t4 : Bool) =>
 K t4)

def M_str_IsDigits (s : List UInt8) (K : Bool → Prop) : Prop :=
 Lp1 (fun (t6 : Int) k_1 => ((t6 < (s.length : Int) → (0 ≤ t6 ∧ t6 < s.length) ∧
 ((decide (((s.getD t6.toNat 0).toNat : Int) < (48 : Int))) = false → (0 ≤ t6 ∧ t6 < s.length)) ∧
 ((((decide (((s.getD t6.toNat 0).toNat : Int) < (48 : Int))) || (decide ((57 : Int) < ((s.getD t6.toNat 0).toNat : Int)))) = true → K false) ∧
 (((decide (((s.getD t6.toNat 0).toNat : Int) < (48 : Int))) || (decide ((57 : Int) < ((s.getD t6.toNat 0).toNat : Int)))) = false → (In .i64 (t6 + (1 : Int))) ∧
 k_1 (t6 + (1 : Int))))) ∧
 (¬ (t6 < (s.length : Int)) → K (!decide (s = ([] : List UInt8)))))) (0 : Int)

def M_slices_Index_string_string (s : List (List UInt8)) (v : List UInt8) (K : Int → Prop) : Prop :=
 (s.length ≤ maxLen →
 Lp1 (fun (t8 : Int) k_1 => ((t8 < (s.length : Int) → (0 ≤ t8 ∧ t8 < (s.length : Nat)) ∧
 ((v = (s.getD t8.toNat []) → K t8) ∧
 (¬ (v = (s.getD t8.toNat [])) → (In .i64 (t8 + (1 : Int))) ∧
 k_1 (t8 + (1 : Int))))) ∧
 (¬ (t8 < (s.length : Int)) → K (-1 : Int)))) (0 : Int))

def M_slices_Contains_string_string (s : List (List UInt8)) (v : List UInt8) (K : Bool → Prop) : Prop :=
 (s.length ≤ maxLen →
 M_slices_Index_string_string s v (fun (t7 : Int) =>
 K (decide ((0 : Int) ≤ t7))))

def M_lex_letter (c : Int) (K : Bool → Prop) : Prop :=
 K ((((decide ((97 : Int) ≤ c)) && (decide (c ≤ (122 : Int)))) || ((decide ((65 : Int) ≤ c)) && (decide (c ≤ (90 : Int))))) || (decide (c = (95 : Int))))

def M_lex_digit (c : Int) (K : Bool → Prop) : Prop :=
 K ((decide ((48 : Int) ≤ c)) && (decide (c ≤ (57 : Int))))

def M_lex_Words (K : (List (List UInt8)) → Prop) : Prop :=
 K ([([70, 97, 108, 115, 101] : List UInt8), ([78, 111, 110, 101] : List UInt8), ([84, 114, 117, 101] : List UInt8), ([97, 110, 100] : List UInt8), ([98, 114, 101, 97, 107] : List UInt8), ([99, 111, 110, 116, 105, 110, 117, 101] : List UInt8), ([100, 101, 102] : List UInt8), ([101, 108, 105, 102] : List UInt8), ([101, 108, 115, 101] : List UInt8), ([102, 111, 114] : List UInt8), ([105, 102] : List UInt8), ([105, 110] : List UInt8), ([108, 111, 97, 100] : List UInt8), ([110, 111, 116] : List UInt8), ([111, 114] : List UInt8), ([112, 97, 115, 115] : List UInt8), ([114, 101, 116, 117, 114, 110] : List UInt8)] : List (List UInt8))

def M_lex_Name (s : List UInt8) (K : Bool → Prop) : Prop :=
 Lp1 (fun (t6 : Int) k_1 => ((t6 < (s.length : Int) → (0 ≤ t6 ∧ t6 < s.length) ∧
 M_lex_letter ((s.getD t6.toNat 0).toNat : Int) (fun (t12 : Bool) =>
 ∃ J1 : Bool → Prop, ((((!t12) = true → (((decide (t6 = (0 : Int))) = true → J1 true) ∧
 ((decide (t6 = (0 : Int))) = false → (0 ≤ t6 ∧ t6 < s.length) ∧
 M_lex_digit ((s.getD t6.toNat 0).toNat : Int) (fun (t21 : Bool) =>
 J1 (!t21))))) ∧
 ((!t12) = false → J1 false))) ∧
 (∀ q1 : Bool, J1 q1 → ((q1 = true → K false) ∧
 (q1 = false → (In .i64 (t6 + (1 : Int))) ∧
 k_1 (t6 + (1 : Int))))))) ∧
 (¬ (t6 < (s.length : Int)) → ∃ J2 : Bool → Prop, ((((!decide (s = ([] : List UInt8))) = true → M_lex_Words (fun (t29 : List (List UInt8)) =>
 M_slices_Contains_string_string t29 s (fun (t31 : Bool) =>
 J2 (!t31)))) ∧
 ((!decide (s = ([] : List UInt8))) = false → J2 false))) ∧
 (∀ q2 : Bool, J2 q2 → K q2)))) (0 : Int)

def M_pstr_former_item (f_b_buf : List UInt8) (f_l : List (List UInt8)) (f_by : List (List UInt8 × List UInt8)) (f_next : Int) (f_told : Bool) (f_bad : Bool) (k : Int) (K : (List UInt8) → Int → Bool → Bool → Prop) : Prop :=
 (f_b_buf.length ≤ maxLen →
 (f_l.length ≤ maxLen →
 (((f_l.length : Int) ≤ k → K f_b_buf f_next f_told true) ∧
 (¬ ((f_l.length : Int) ≤ k) → (0 ≤ k ∧ k < (f_l.length : Nat)) ∧
 (f_b_buf.length + (f_l.getD k.toNat []).length ≤ 140737488355328) ∧
 K (f_b_buf ++ (f_l.getD k.toNat [])) f_next f_told f_bad))))

def M_pstr_former_value (f_b_buf : List UInt8) (f_l : List (List UInt8)) (f_by : List (List UInt8 × List UInt8)) (f_next : Int) (f_told : Bool) (f_bad : Bool) (name : List UInt8) (K : (List UInt8) → Int → Bool → Bool → Prop) : Prop :=
 (f_b_buf.length ≤ maxLen →
 (f_l.length ≤ maxLen →
 ((name = ([] : List UInt8) → M_pstr_former_item f_b_buf f_l f_by f_next f_told f_bad f_next (fun (f_ : List UInt8) (f_2 : Int) (f_3 : Bool) (f_4 : Bool) =>
 (In .i64 (f_2 + (1 : Int))) ∧
 K f_ (f_2 + (1 : Int)) f_3 (f_4 || f_3))) ∧
 (¬ (name = ([] : List UInt8)) → M_str_IsDigits name (fun (t69 : Bool) =>
 (((t69 && (decide ((name.length : Int) ≤ (9 : Int)))) = true → Lp2 (fun (k : Int) (t77 : Int) k_1 => ((t77 < (name.length : Int) → (In .i64 ((10 : Int) * k)) ∧
 (0 ≤ t77 ∧ t77 < name.length) ∧
 (In .u8 (((name.getD t77.toNat 0).toNat : Int) - (48 : Int))) ∧
 (In .i64 (((name.getD t77.toNat 0).toNat : Int) - (48 : Int))) ∧
 (In .i64 (((10 : Int) * k) + (((name.getD t77.toNat 0).toNat : Int) - (48 : Int)))) ∧
 (In .i64 (t77 + (1 : Int))) ∧
 k_1 (((10 : Int) * k) + (((name.getD t77.toNat 0).toNat : Int) - (48 : Int))) (t77 + (1 : Int))) ∧
 (¬ (t77 < (name.length : Int)) → M_pstr_former_item f_b_buf f_l f_by f_next f_told f_bad k (fun (f_5 : List UInt8) (f_6 : Int) (f_7 : Bool) (f_8 : Bool) =>
 K f_5 f_6 true (f_8 || (decide ((0 : Int) < f_6))))))) (0 : Int) (0 : Int)) ∧
 ((t69 && (decide ((name.length : Int) ≤ (9 : Int)))) = false → (name.length ≤ maxLen) ∧
 ∃ J1 : Bool → Prop, ((((f_bad || (!((mget f_by name).isSome))) = true → J1 true) ∧
 ((f_bad || (!((mget f_by name).isSome))) = false → M_lex_Name name (fun (t28 : Bool) =>
 J1 (!t28))))) ∧
 (∀ q5 : Bool, J1 q5 → (f_b_buf.length + ((mget f_by name).getD []).length ≤ 140737488355328) ∧
 K (f_b_buf ++ ((mget f_by name).getD [])) f_next f_told q5))))))))

def M_pstr_former_piece (f_b_buf : List UInt8) (f_l : List (List UInt8)) (f_by : List (List UInt8 × List UInt8)) (f_next : Int) (f_told : Bool) (f_bad : Bool) (s : List UInt8) (K : Int → (List UInt8) → Int → Bool → Bool → Prop) : Prop :=
 (f_b_buf.length ≤ maxLen →
 (f_l.length ≤ maxLen →
 ∃ J1 : Bool → Prop, (M_strings_HasPrefix s ([123, 123] : List UInt8) (fun (t62 : Bool) =>
 ((t62 = true → J1 t62) ∧
 (t62 = false → M_strings_HasPrefix s ([125, 125] : List UInt8) (fun (t63 : Bool) =>
 J1 t63))))) ∧
 (∀ t6 : Bool, J1 t6 → ((t6 = true → (0 ≤ (0 : Int) ∧ (0 : Int) < s.length) ∧
 (f_b_buf.length + ([s.getD 0 0] : List UInt8).length ≤ 140737488355328) ∧
 K (2 : Int) (f_b_buf ++ [s.getD 0 0]) f_next f_told f_bad) ∧
 (t6 = false → (0 ≤ (0 : Int) ∧ (0 : Int) < s.length) ∧
 ((((s.getD 0 0).toNat : Int) = (125 : Int) → K (1 : Int) f_b_buf f_next f_told true) ∧
 (¬ (((s.getD 0 0).toNat : Int) = (125 : Int)) → (0 ≤ (0 : Int) ∧ (0 : Int) < s.length) ∧
 ((¬ (((s.getD 0 0).toNat : Int) = (123 : Int)) → (0 ≤ (0 : Int) ∧ (0 : Int) < s.length) ∧
 (f_b_buf.length + ([s.getD 0 0] : List UInt8).length ≤ 140737488355328) ∧
 K (1 : Int) (f_b_buf ++ [s.getD 0 0]) f_next f_told f_bad) ∧
 (((s.getD 0 0).toNat : Int) = (123 : Int) → M_strings_IndexByte s (125 : Int) (fun (end_ : Int) =>
 ((end_ < (0 : Int) → K (1 : Int) f_b_buf f_next f_told true) ∧
 (¬ (end_ < (0 : Int)) → (0 ≤ (1 : Int) ∧ (1 : Int) ≤ end_ ∧ end_ ≤ s.length) ∧
 M_pstr_former_value f_b_buf f_l f_by f_next f_told f_bad ((s.drop 1).take (end_.toNat - 1)) (fun (f_ : List UInt8) (f_2 : Int) (f_3 : Bool) (f_4 : Bool) =>
 (In .i64 (end_ + (1 : Int))) ∧
 K (end_ + (1 : Int)) f_ f_2 f_3 f_4)))))))))))))

def M_str_Format (s : List UInt8) (l : List (List UInt8)) (names : List (List UInt8)) (values : List (List UInt8)) (K : (List UInt8) → Er → Prop) : Prop :=
 (l.length ≤ maxLen →
 (names.length ≤ maxLen →
 (values.length ≤ maxLen →
 Lp2 (fun (t22 : Int) (t193 : List (List UInt8 × List UInt8)) k_1 => ((t22 < (names.length : Int) → ∃ J1 : (List (List UInt8 × List UInt8)) → Prop, ((0 ≤ t22 ∧ t22 < (names.length : Nat)) ∧
 ((names.getD t22.toNat []).length ≤ maxLen) ∧
 ((((!((mget t193 (names.getD t22.toNat [])).isSome)) && (decide (t22 < (values.length : Int)))) = true → (0 ≤ t22 ∧ t22 < (values.length : Nat)) ∧
 ((names.getD t22.toNat []).length ≤ maxLen ∧ t193.length < maxLen) ∧
 J1 (mput t193 (names.getD t22.toNat []) (values.getD t22.toNat []))) ∧
 (((!((mget t193 (names.getD t22.toNat [])).isSome)) && (decide (t22 < (values.length : Int)))) = false → J1 t193))) ∧
 (∀ t1932 : List (List UInt8 × List UInt8), J1 t1932 → (In .i64 (t22 + (1 : Int))) ∧
 k_1 (t22 + (1 : Int)) t1932)) ∧
 (¬ (t22 < (names.length : Int)) → Lp5 (fun (i : Int) (t191 : List UInt8) (t194 : Int) (t195 : Bool) (t196 : Bool) k_2 => ((((decide (i < (s.length : Int))) && (!t196)) = true → (0 ≤ i ∧ i ≤ s.length) ∧
 M_pstr_former_piece t191 l t193 t194 t195 t196 (s.drop i.toNat) (fun (t70 : Int) (t19_ : List UInt8) (t19_2 : Int) (t19_3 : Bool) (t19_4 : Bool) =>
 (In .i64 (i + t70)) ∧
 (((1024 : Int) < (t19_.length : Int) → K ([] : List UInt8) (Er.e 7)) ∧
 (¬ ((1024 : Int) < (t19_.length : Int)) → k_2 (i + t70) t19_ t19_2 t19_3 t19_4)))) ∧
 (((decide (i < (s.length : Int))) && (!t196)) = false → ((t196 = true → K ([] : List UInt8) (Er.e 3)) ∧
 (t196 = false → K t191 Er.ok))))) (0 : Int) [] (0 : Int) false false))) (0 : Int) ([] : List (List UInt8 × List UInt8)))))

set_option maxHeartbeats 8000000 in
theorem W_internal_stringslite_HasPrefix {w : World} {s : List UInt8} {prefix_ : List UInt8} {K : Bool → Prop} (H : M_internal_stringslite_HasPrefix s prefix_ K) : Fn Tryd.prog 97 ⟨[vs s, vs prefix_]⟩ w (fun v w' => w = w' ∧ ∃ (r : Bool), v = .bool r ∧ K r) := by
  unfold M_internal_stringslite_HasPrefix at H
  refine Fn.enter (by kernel_rfl) Tryd.func97 rfl Tryd.ntmps97 rfl ?_
  refine WC.seq ?_
  refine WC.region ?_
  refine WL.y rfl (Yld.pure tab_ok rfl) ?_
  refine WL.nil (WX.then_normal ?_)
  refine WC.seq ?_
  refine WC.region ?_
  refine WL.y rfl (Yld.pure tab_ok rfl) ?_
  refine WL.y rfl (Yld.pure tab_ok rfl) ?_
  refine WL.y rfl (Yld.pure tab_ok rfl) ?_
  refine WL.y rfl (Yld.pure tab_ok rfl) ?_
  refine WL.y rfl (Yld.pure tab_ok rfl) ?_
  refine WL.y rfl (Yld.pure tab_ok rfl) ?_
  obtain ⟨h1, H⟩ := H
  refine WL.midF 7 (fun L' w' => ∃ q1 : Bool, L' = [(17, .bool q1)] ∧ q1 = ((decide ((prefix_.length : Int) ≤ (s.length : Int))) && (decide ((s.take (prefix_.length : Int).toNat) = prefix_))) ∧ w = w') ?_ (fun hQ => ?_)
  · rintro _ _ ⟨q1, rfl, rfl, rfl⟩
    refine WL.y rfl (Yld.pure tab_ok rfl) ?_
    refine WL.nil (WX.then_normal ?_)
    refine WC.ret ?_
    exact WX.ret1 rfl rfl ⟨rfl, (decide ((prefix_.length : Int) ≤ (s.length : Int))) && (decide ((s.take (prefix_.length : Int).toNat) = prefix_)), rfl, H⟩
  · clear H
    rcases Bool.eq_false_or_eq_true (decide ((prefix_.length : Int) ≤ (s.length : Int))) with b1 | b1
    · refine WL.gyes rfl rfl (okb b1) rfl (Yld.pure tab_ok rfl) ?_
      refine WL.gyes rfl rfl (okb b1) rfl (Yld.pure tab_ok rfl) ?_
      refine WL.gyes rfl rfl (okb b1) rfl (Yld.pure tab_ok rfl) ?_
      refine WL.gyes rfl rfl (okb b1) rfl (Yld.scut tab_ok rfl rfl rfl rfl (Int.le_refl 0) (h1 b1).1 (h1 b1).2) ?_
      refine WL.gyes rfl rfl (okb b1) rfl (Yld.pure tab_ok rfl) ?_
      refine WL.gyes rfl rfl (okb b1) rfl (Yld.pure tab_ok rfl) ?_
      refine WL.y rfl (Yld.pickT (okb b1) rfl) ?_
      exact WL.weaken (by repeat (first | exact Sub.nil | refine Sub.cons rfl ?_)) (hQ _ _ ⟨decide ((s.take (prefix_.length : Int).toNat) = prefix_), rfl, by rw [b1] <;> rfl, rfl⟩)
    · refine WL.gno rfl rfl (okb b1) rfl ?_
      refine WL.gno rfl rfl (okb b1) rfl ?_
      refine WL.gno rfl rfl (okb b1) rfl ?_
      refine WL.gno rfl rfl (okb b1) rfl ?_
      refine WL.gno rfl rfl (okb b1) rfl ?_
      refine WL.gno rfl rfl (okb b1) rfl ?_
      refine WL.y rfl (Yld.pickF (okb b1) rfl) ?_
      exact WL.weaken (by repeat (first | exact Sub.nil | refine Sub.cons rfl ?_)) (hQ _ _ ⟨false, rfl, by rw [b1] <;> rfl, rfl⟩)

set_option maxHeartbeats 8000000 in
theorem W_strings_HasPrefix {w : World} {s : List UInt8} {prefix_ : List UInt8} {K : Bool → Prop} (H : M_strings_HasPrefix s prefix_ K) : Fn Tryd.prog 92 ⟨[vs s, vs prefix_]⟩ w (fun v w' => w = w' ∧ ∃ (r : Bool), v = .bool r ∧ K r) := by
  unfold M_strings_HasPrefix at H
  refine Fn.enter (by kernel_rfl) Tryd.func92 rfl Tryd.ntmps92 rfl ?_
  refine WC.seq ?_
  refine WC.region ?_
  refine WL.y rfl (Yld.pure tab_ok rfl) ?_
  refine WL.nil (WX.then_normal ?_)
  refine WC.seq ?_
  refine WC.region ?_
  refine WL.y rfl (Yld.pure tab_ok rfl) ?_
  refine WL.y rfl (Yld.pure tab_ok rfl) ?_
  refine WL.call rfl rfl (W_internal_stringslite_HasPrefix H) ?_
  rintro _ _ ⟨rfl, t4, rfl, H⟩
  refine WL.y rfl (Yld.pure tab_ok rfl) ?_
  refine WL.nil (WX.then_normal ?_)
  refine WC.ret ?_
  exact WX.ret1 rfl rfl ⟨rfl, t4, rfl, H⟩

set_option maxHeartbeats 8000000 in
theorem W_str_IsDigits {w : World} {s : List UInt8} {K : Bool → Prop} (H : M_str_IsDigits s K) : Fn Tryd.prog 42 ⟨[vs s]⟩ w (fun v w' => w = w' ∧ ∃ (r : Bool), v = .bool r ∧ K r) := by
  unfold M_str_IsDigits at H
  refine Fn.enter (by kernel_rfl) Tryd.func42 rfl Tryd.ntmps42 rfl ?_
  refine WC.seq ?_
  refine WC.region ?_
  refine WL.y rfl (Yld.pure tab_ok rfl) ?_
  refine WL.nil (WX.then_normal ?_)
  refine WC.seq ?_
  refine WC.seq ?_
  refine WC.region ?_
  refine WL.y rfl (Yld.pure tab_ok rfl) ?_
  refine WL.y rfl (Yld.pure tab_ok rfl) ?_
  refine WL.y rfl (Yld.pure tab_ok rfl) ?_
  refine WL.nil (WX.then_normal ?_)
  refine WC.block ?_
  obtain ⟨I1, mu1, h0_1, HR1⟩ := H
  refine WC.loopF (fun n' L' w' => ∃ (t6 : Int), n' = mu1 t6 ∧ L' = [(0, vs s), (5, .int .i64 (s.length : Int)), (6, .int .i64 t6)] ∧ I1 t6 ∧ w = w') _ _ ⟨(0 : Int), rfl, rfl, h0_1, rfl⟩ (by repeat (first | exact Sub.nil | refine Sub.cons rfl ?_)) ?_
  clear h0_1
  rintro _ _ _ ⟨t6, rfl, rfl, hI1, rfl⟩
  have H := HR1 t6 hI1
  refine WC.seq ?_
  refine WC.region ?_
  refine WL.y rfl (Yld.pure tab_ok rfl) ?_
  refine WL.nil (WX.then_normal ?_)
  refine WC.seq ?_
  refine WC.cond rfl (fun b1 => ?_) (fun b1 => ?_)
  · replace H := H.1 (of_decide_eq_true b1)
    refine WC.skip (WX.then_normal ?_)
    refine WC.seq ?_
    refine WC.block ?_
    refine WC.seq ?_
    refine WC.region ?_
    refine WL.y rfl (Yld.pure tab_ok rfl) ?_
    refine WL.y rfl (Yld.pure tab_ok rfl) ?_
    refine WL.nil (WX.then_normal ?_)
    refine WC.seq ?_
    refine WC.region ?_
    refine WL.y rfl (Yld.pure tab_ok rfl) ?_
    refine WL.y rfl (Yld.pure tab_ok rfl) ?_
    obtain ⟨h1, H⟩ := H
    refine WL.y rfl (Yld.sidx tab_ok rfl rfl rfl h1.1 h1.2) ?_
    refine WL.y rfl (Yld.pure tab_ok rfl) ?_
    refine WL.y rfl (Yld.pure tab_ok rfl) ?_
    obtain ⟨h2, H⟩ := H
    refine WL.midF 5 (fun L' w' => ∃ q1 : Bool, L' = [(18, .bool q1), (0, vs s), (5, .int .i64 (s.length : Int)), (6, .int .i64 t6)] ∧ q1 = ((decide (((s.getD t6.toNat 0).toNat : Int) < (48 : Int))) || (decide ((57 : Int) < ((s.getD t6.toNat 0).toNat : Int)))) ∧ w = w') ?_ (fun hQ => ?_)
    · rintro _ _ ⟨q1, rfl, rfl, rfl⟩
      refine WL.nil (WX.then_normal ?_)
      refine WC.cond rfl (fun b2 => ?_) (fun b2 => ?_)
      · replace H := H.1 (b2)
        refine WC.seq ?_
        refine WC.region ?_
        refine WL.y rfl (Yld.pure tab_ok rfl) ?_
        refine WL.nil (WX.then_normal ?_)
        refine WC.ret (WX.block_ret (WX.then_ret (WX.then_ret (WX.block_ret (WX.then_ret ?_)))))
        exact WX.ret1 rfl rfl ⟨rfl, false, rfl, H⟩
      · replace H := H.2 (b2)
        refine WC.skip (WX.block_normal (WX.then_normal ?_))
        refine WC.region ?_
        obtain ⟨h3, H⟩ := H
        refine WL.y rfl (Yld.add rfl rfl h3) ?_
        refine WL.y rfl (Yld.pure tab_ok rfl) ?_
        refine WL.nil ?_
        exact WX.roundF _ ⟨t6 + (1 : Int), rfl, rfl, H.1, rfl⟩ (by repeat (first | exact Sub.nil | refine Sub.cons rfl ?_)) H.2
    · clear H
      rcases Bool.eq_false_or_eq_true (decide (((s.getD t6.toNat 0).toNat : Int) < (48 : Int))) with b3 | b3
      · refine WL.gno rfl rfl (okb b3) rfl ?_
        refine WL.gno rfl rfl (okb b3) rfl ?_
        refine WL.gno rfl rfl (okb b3) rfl ?_
        refine WL.gno rfl rfl (okb b3) rfl ?_
        refine WL.y rfl (Yld.pickT (okb b3) rfl) ?_
        exact WL.weaken (by repeat (first | exact Sub.nil | refine Sub.cons rfl ?_)) (hQ _ _ ⟨true, rfl, by rw [b3] <;> rfl, rfl⟩)
      · refine WL.gyes rfl rfl (okb b3) rfl (Yld.pure tab_ok rfl) ?_
        refine WL.gyes rfl rfl (okb b3) rfl (Yld.pure tab_ok rfl) ?_
        refine WL.gyes rfl rfl (okb b3) rfl (Yld.sidx tab_ok rfl rfl rfl (h2 b3).1 (h2 b3).2) ?_
        refine WL.gyes rfl rfl (okb b3) rfl (Yld.pure tab_ok rfl) ?_
        refine WL.y rfl (Yld.pickF (okb b3) rfl) ?_
        exact WL.weaken (by repeat (first | exact Sub.nil | refine Sub.cons rfl ?_)) (hQ _ _ ⟨decide ((57 : Int) < ((s.getD t6.toNat 0).toNat : Int)), rfl, by rw [b3] <;> rfl, rfl⟩)
  · replace H := H.2 (of_decide_eq_false b1)
    refine WC.exit (WX.then_exit (WX.then_exit (WX.block_same (WX.then_normal ?_))))
    refine WC.seq ?_
    refine WC.region ?_
    refine WL.y rfl (Yld.pure tab_ok rfl) ?_
    refine WL.y rfl (Yld.pure tab_ok rfl) ?_
    refine WL.y rfl (Yld.pure tab_ok rfl) ?_
    refine WL.nil (WX.then_normal ?_)
    refine WC.ret ?_
    exact WX.ret1 rfl rfl ⟨rfl, !decide (s = ([] : List UInt8)), rfl, H⟩

set_option maxHeartbeats 8000000 in
theorem W_slices_Index_string_string {w : World} {s : List (List UInt8)} {A_s : Option Addr} {c_s : Nat} {v : List UInt8} {n_s : Nat} {K : Int → Prop} (hs : Rd vs w A_s c_s s) (hn_s : n_s = s.length) (H : M_slices_Index_string_string s v K) : Fn Tryd.prog 142 ⟨[.slice A_s n_s c_s, vs v]⟩ w (fun v w' => w = w' ∧ ∃ (r : Int), v = .int .i64 r ∧ K r) := by
  subst hn_s
  unfold M_slices_Index_string_string at H
  refine Fn.enter (by kernel_rfl) Tryd.func142 rfl Tryd.ntmps142 rfl ?_
  replace H := H (Nat.le_trans hs.cap hs.max)
  refine WC.seq ?_
  refine WC.region ?_
  refine WL.y rfl (Yld.pure tab_ok rfl) ?_
  refine WL.nil (WX.then_normal ?_)
  refine WC.seq ?_
  refine WC.seq ?_
  refine WC.region ?_
  refine WL.y rfl (Yld.pure tab_ok rfl) ?_
  refine WL.y rfl (Yld.pure tab_ok rfl) ?_
  refine WL.y rfl (Yld.pure tab_ok rfl) ?_
  refine WL.nil (WX.then_normal ?_)
  refine WC.block ?_
  obtain ⟨I1, mu1, h0_1, HR1⟩ := H
  refine WC.loopF (fun n' L' w' => ∃ (t8 : Int), n' = mu1 t8 ∧ L' = [(0, .slice A_s s.length c_s), (1, vs v), (7, .int .i64 (s.length : Int)), (8, .int .i64 t8)] ∧ I1 t8 ∧ w = w') _ _ ⟨(0 : Int), rfl, rfl, h0_1, rfl⟩ (by repeat (first | exact Sub.nil | refine Sub.cons rfl ?_)) ?_
  clear h0_1
  rintro _ _ _ ⟨t8, rfl, rfl, hI1, rfl⟩
  have H := HR1 t8 hI1
  refine WC.seq ?_
  refine WC.region ?_
  refine WL.y rfl (Yld.pure tab_ok rfl) ?_
  refine WL.nil (WX.then_normal ?_)
  refine WC.seq ?_
  refine WC.cond rfl (fun b1 => ?_) (fun b1 => ?_)
  · replace H := H.1 (of_decide_eq_true b1)
    refine WC.skip (WX.then_normal ?_)
    refine WC.seq ?_
    refine WC.block ?_
    refine WC.seq ?_
    refine WC.region ?_
    refine WL.y rfl (Yld.pure tab_ok rfl) ?_
    refine WL.y rfl (Yld.pure tab_ok rfl) ?_
    refine WL.nil (WX.then_normal ?_)
    refine WC.seq ?_
    refine WC.region ?_
    refine WL.y rfl (Yld.pure tab_ok rfl) ?_
    refine WL.y rfl (Yld.pure tab_ok rfl) ?_
    refine WL.y rfl (Yld.pure tab_ok rfl) ?_
    obtain ⟨h1, H⟩ := H
    refine WL.y rfl (Yld.iaddrW tab_ok hs rfl rfl rfl rfl h1.1 h1.2) ?_
    refine WL.y rfl (Yld.iload [] tab_ok hs rfl rfl (iltN h1 rfl)) ?_
    refine WL.y rfl (Yld.pure tab_ok rfl) ?_
    refine WL.nil (WX.then_normal ?_)
    refine WC.cond rfl (fun b2 => ?_) (fun b2 => ?_)
    · replace H := H.1 (of_decide_eq_true b2)
      refine WC.seq ?_
      refine WC.region ?_
      refine WL.y rfl (Yld.pure tab_ok rfl) ?_
      refine WL.y rfl (Yld.pure tab_ok rfl) ?_
      refine WL.nil (WX.then_normal ?_)
      refine WC.ret (WX.block_ret (WX.then_ret (WX.then_ret (WX.block_ret (WX.then_ret ?_)))))
      exact WX.ret1 rfl rfl ⟨rfl, t8, rfl, H⟩
    · replace H := H.2 (of_decide_eq_false b2)
      refine WC.skip (WX.block_normal (WX.then_normal ?_))
      refine WC.region ?_
      obtain ⟨h2, H⟩ := H
      refine WL.y rfl (Yld.add rfl rfl h2) ?_
      refine WL.y rfl (Yld.pure tab_ok rfl) ?_
      refine WL.nil ?_
      exact WX.roundF _ ⟨t8 + (1 : Int), rfl, rfl, H.1, rfl⟩ (by repeat (first | exact Sub.nil | refine Sub.cons rfl ?_)) H.2
  · replace H := H.2 (of_decide_eq_false b1)
    refine WC.exit (WX.then_exit (WX.then_exit (WX.block_same (WX.then_normal ?_))))
    refine WC.seq ?_
    refine WC.region ?_
    refine WL.y rfl (Yld.pure tab_ok rfl) ?_
    refine WL.nil (WX.then_normal ?_)
    refine WC.ret ?_
    exact WX.ret1 rfl rfl ⟨rfl, (-1 : Int), rfl, H⟩

set_option maxHeartbeats 8000000 in
theorem W_slices_Contains_string_string {w : World} {s : List (List UInt8)} {A_s : Option Addr} {c_s : Nat} {v : List UInt8} {n_s : Nat} {K : Bool → Prop} (hs : Rd vs w A_s c_s s) (hn_s : n_s = s.length) (H : M_slices_Contains_string_string s v K) : Fn Tryd.prog 138 ⟨[.slice A_s n_s c_s, vs v]⟩ w (fun v w' => w = w' ∧ ∃ (r : Bool), v = .bool r ∧ K r) := by
  subst hn_s
  unfold M_slices_Contains_string_string at H
  refine Fn.enter (by kernel_rfl) Tryd.func138 rfl Tryd.ntmps138 rfl ?_
  replace H := H (Nat.le_trans hs.cap hs.max)
  refine WC.seq ?_
  refine WC.region ?_
  refine WL.y rfl (Yld.pure tab_ok rfl) ?_
  refine WL.nil (WX.then_normal ?_)
  refine WC.seq ?_
  refine WC.region ?_
  refine WL.y rfl (Yld.pure tab_ok rfl) ?_
  refine WL.y rfl (Yld.pure tab_ok rfl) ?_
  refine WL.call rfl rfl (W_slices_Index_string_string hs rfl H) ?_
  rintro _ _ ⟨rfl, t7, rfl, H⟩
  refine WL.y rfl (Yld.pure tab_ok rfl) ?_
  refine WL.y rfl (Yld.pure tab_ok rfl) ?_
  refine WL.nil (WX.then_normal ?_)
  refine WC.ret ?_
  exact WX.ret1 rfl rfl ⟨rfl, decide ((0 : Int) ≤ t7), rfl, H⟩

set_option maxHeartbeats 8000000 in
theorem W_lex_letter {w : World} {c : Int} {K : Bool → Prop} (H : M_lex_letter c K) : Fn Tryd.prog 136 ⟨[.int .u8 c]⟩ w (fun v w' => w = w' ∧ ∃ (r : Bool), v = .bool r ∧ K r) := by
  unfold M_lex_letter at H
  refine Fn.enter (by kernel_rfl) Tryd.func136 rfl Tryd.ntmps136 rfl ?_
  refine WC.seq ?_
  refine WC.region ?_
  refine WL.y rfl (Yld.pure tab_ok rfl) ?_
  refine WL.nil (WX.then_normal ?_)
  refine WC.seq ?_
  refine WC.region ?_
  refine WL.y rfl (Yld.pure tab_ok rfl) ?_
  refine WL.y rfl (Yld.pure tab_ok rfl) ?_
  refine WL.y rfl (Yld.pure tab_ok rfl) ?_
  refine WL.midF 3 (fun L' w' => ∃ q1 : Bool, L' = [(8, .bool q1), (0, .int .u8 c)] ∧ q1 = ((decide ((97 : Int) ≤ c)) && (decide (c ≤ (122 : Int)))) ∧ w = w') ?_ (fun hQ => ?_)
  · rintro _ _ ⟨q1, rfl, rfl, rfl⟩
    refine WL.y rfl (Yld.pure tab_ok rfl) ?_
    refine WL.midF 7 (fun L' w' => ∃ q2 : Bool, L' = [(16, .bool q2), (0, .int .u8 c)] ∧ q2 = (((decide ((97 : Int) ≤ c)) && (decide (c ≤ (122 : Int)))) || ((decide ((65 : Int) ≤ c)) && (decide (c ≤ (90 : Int))))) ∧ w = w') ?_ (fun hQ => ?_)
    · rintro _ _ ⟨q2, rfl, rfl, rfl⟩
      refine WL.y rfl (Yld.pure tab_ok rfl) ?_
      refine WL.midF 3 (fun L' w' => ∃ q3 : Bool, L' = [(20, .bool q3)] ∧ q3 = ((((decide ((97 : Int) ≤ c)) && (decide (c ≤ (122 : Int)))) || ((decide ((65 : Int) ≤ c)) && (decide (c ≤ (90 : Int))))) || (decide (c = (95 : Int)))) ∧ w = w') ?_ (fun hQ => ?_)
      · rintro _ _ ⟨q3, rfl, rfl, rfl⟩
        refine WL.y rfl (Yld.pure tab_ok rfl) ?_
        refine WL.nil (WX.then_normal ?_)
        refine WC.ret ?_
        exact WX.ret1 rfl rfl ⟨rfl, (((decide ((97 : Int) ≤ c)) && (decide (c ≤ (122 : Int)))) || ((decide ((65 : Int) ≤ c)) && (decide (c ≤ (90 : Int))))) || (decide (c = (95 : Int))), rfl, H⟩
      · clear H
        rcases Bool.eq_false_or_eq_true (((decide ((97 : Int) ≤ c)) && (decide (c ≤ (122 : Int)))) || ((decide ((65 : Int) ≤ c)) && (decide (c ≤ (90 : Int))))) with b1 | b1
        · refine WL.gno rfl rfl (okb b1) rfl ?_
          refine WL.gno rfl rfl (okb b1) rfl ?_
          refine WL.y rfl (Yld.pickT (okb b1) rfl) ?_
          exact WL.weaken (by repeat (first | exact Sub.nil | refine Sub.cons rfl ?_)) (hQ _ _ ⟨true, rfl, by rw [b1] <;> rfl, rfl⟩)
        · refine WL.gyes rfl rfl (okb b1) rfl (Yld.pure tab_ok rfl) ?_
          refine WL.gyes rfl rfl (okb b1) rfl (Yld.pure tab_ok rfl) ?_
          refine WL.y rfl (Yld.pickF (okb b1) rfl) ?_
          exact WL.weaken (by repeat (first | exact Sub.nil | refine Sub.cons rfl ?_)) (hQ _ _ ⟨decide (c = (95 : Int)), rfl, by rw [b1] <;> rfl, rfl⟩)
    · clear H
      rcases Bool.eq_false_or_eq_true ((decide ((97 : Int) ≤ c)) && (decide (c ≤ (122 : Int)))) with b2 | b2
      · refine WL.gno rfl rfl (okb b2) rfl ?_
        refine WL.gno rfl rfl (okb b2) rfl ?_
        refine WL.gno rfl rfl (okb b2) rfl ?_
        refine WL.gun rfl rfl rfl rfl ?_
        refine WL.gun rfl rfl rfl rfl ?_
        refine WL.gno rfl rfl (okb b2) rfl ?_
        refine WL.y rfl (Yld.pickT (okb b2) rfl) ?_
        exact WL.weaken (by repeat (first | exact Sub.nil | refine Sub.cons rfl ?_)) (hQ _ _ ⟨true, rfl, by rw [b2] <;> rfl, rfl⟩)
      · refine WL.gyes rfl rfl (okb b2) rfl (Yld.pure tab_ok rfl) ?_
        refine WL.gyes rfl rfl (okb b2) rfl (Yld.pure tab_ok rfl) ?_
        refine WL.gyes rfl rfl (okb b2) rfl (Yld.pure tab_ok rfl) ?_
        rcases Bool.eq_false_or_eq_true (decide ((65 : Int) ≤ c)) with b3 | b3
        · refine WL.gyes rfl rfl (okb b3) rfl (Yld.pure tab_ok rfl) ?_
          refine WL.gyes rfl rfl (okb b3) rfl (Yld.pure tab_ok rfl) ?_
          refine WL.gyes rfl rfl (okb b2) rfl (Yld.pickT (okb b3) rfl) ?_
          refine WL.y rfl (Yld.pickF (okb b2) rfl) ?_
          exact WL.weaken (by repeat (first | exact Sub.nil | refine Sub.cons rfl ?_)) (hQ _ _ ⟨decide (c ≤ (90 : Int)), rfl, by rw [b2, b3] <;> rfl, rfl⟩)
        · refine WL.gno rfl rfl (okb b3) rfl ?_
          refine WL.gno rfl rfl (okb b3) rfl ?_
          refine WL.gyes rfl rfl (okb b2) rfl (Yld.pickF (okb b3) rfl) ?_
          refine WL.y rfl (Yld.pickF (okb b2) rfl) ?_
          exact WL.weaken (by repeat (first | exact Sub.nil | refine Sub.cons rfl ?_)) (hQ _ _ ⟨false, rfl, by rw [b2, b3] <;> rfl, rfl⟩)
  · clear H
    rcases Bool.eq_false_or_eq_true (decide ((97 : Int) ≤ c)) with b4 | b4
    · refine WL.gyes rfl rfl (okb b4) rfl (Yld.pure tab_ok rfl) ?_
      refine WL.gyes rfl rfl (okb b4) rfl (Yld.pure tab_ok rfl) ?_
      refine WL.y rfl (Yld.pickT (okb b4) rfl) ?_
      exact WL.weaken (by repeat (first | exact Sub.nil | refine Sub.cons rfl ?_)) (hQ _ _ ⟨decide (c ≤ (122 : Int)), rfl, by rw [b4] <;> rfl, rfl⟩)
    · refine WL.gno rfl rfl (okb b4) rfl ?_
      refine WL.gno rfl rfl (okb b4) rfl ?_
      refine WL.y rfl (Yld.pickF (okb b4) rfl) ?_
      exact WL.weaken (by repeat (first | exact Sub.nil | refine Sub.cons rfl ?_)) (hQ _ _ ⟨false, rfl, by rw [b4] <;> rfl, rfl⟩)

set_option maxHeartbeats 8000000 in
theorem W_lex_digit {w : World} {c : Int} {K : Bool → Prop} (H : M_lex_digit c K) : Fn Tryd.prog 137 ⟨[.int .u8 c]⟩ w (fun v w' => w = w' ∧ ∃ (r : Bool), v = .bool r ∧ K r) := by
  unfold M_lex_digit at H
  refine Fn.enter (by kernel_rfl) Tryd.func137 rfl Tryd.ntmps137 rfl ?_
  refine WC.seq ?_
  refine WC.region ?_
  refine WL.y rfl (Yld.pure tab_ok rfl) ?_
  refine WL.nil (WX.then_normal ?_)
  refine WC.seq ?_
  refine WC.region ?_
  refine WL.y rfl (Yld.pure tab_ok rfl) ?_
  refine WL.y rfl (Yld.pure tab_ok rfl) ?_
  refine WL.y rfl (Yld.pure tab_ok rfl) ?_
  refine WL.midF 3 (fun L' w' => ∃ q1 : Bool, L' = [(8, .bool q1)] ∧ q1 = ((decide ((48 : Int) ≤ c)) && (decide (c ≤ (57 : Int)))) ∧ w = w') ?_ (fun hQ => ?_)
  · rintro _ _ ⟨q1, rfl, rfl, rfl⟩
    refine WL.y rfl (Yld.pure tab_ok rfl) ?_
    refine WL.nil (WX.then_normal ?_)
    refine WC.ret ?_
    exact WX.ret1 rfl rfl ⟨rfl, (decide ((48 : Int) ≤ c)) && (decide (c ≤ (57 : Int))), rfl, H⟩
  · clear H
    rcases Bool.eq_false_or_eq_true (decide ((48 : Int) ≤ c)) with b1 | b1
    · refine WL.gyes rfl rfl (okb b1) rfl (Yld.pure tab_ok rfl) ?_
      refine WL.gyes rfl rfl (okb b1) rfl (Yld.pure tab_ok rfl) ?_
      refine WL.y rfl (Yld.pickT (okb b1) rfl) ?_
      exact WL.weaken (by repeat (first | exact Sub.nil | refine Sub.cons rfl ?_)) (hQ _ _ ⟨decide (c ≤ (57 : Int)), rfl, by rw [b1] <;> rfl, rfl⟩)
    · refine WL.gno rfl rfl (okb b1) rfl ?_
      refine WL.gno rfl rfl (okb b1) rfl ?_
      refine WL.y rfl (Yld.pickF (okb b1) rfl) ?_
      exact WL.weaken (by repeat (first | exact Sub.nil | refine Sub.cons rfl ?_)) (hQ _ _ ⟨false, rfl, by rw [b1] <;> rfl, rfl⟩)

set_option maxHeartbeats 8000000 in
theorem W_lex_Words {w : World} {K : (List (List UInt8)) → Prop} (H : M_lex_Words  K) : Fn Tryd.prog 139 ⟨[]⟩ w (fun v w' => w.grownBy w' none ∧ ∃ (r : List (List UInt8)), ∃ (A_r : Option Addr), ∃ (c_r : Nat), v = .slice A_r r.length c_r ∧ Own vs w' w.heap.size 9 A_r c_r r ∧ K r) := by
  unfold M_lex_Words at H
  refine Fn.enter (by kernel_rfl) Tryd.func139 rfl Tryd.ntmps139 rfl ?_
  refine WC.seq ?_
  refine WC.region ?_
  refine WL.y rfl (Yld.pure tab_ok rfl) ?_
  refine WL.nil (WX.then_normal ?_)
  refine WC.seq ?_
  refine WC.region ?_
  refine WL.lit tab_ok rfl rfl rfl (all1c rfl (all1c rfl (all1c rfl (all1c rfl (all1c rfl (all1c rfl (all1c rfl (all1c rfl (all1c rfl (all1c rfl (all1c rfl (all1c rfl (all1c rfl (all1c rfl (all1c rfl (all1c rfl (all1c rfl all1n))))))))))))))))) rfl (by omega) (fun g1 w1 hB1 hg1 hl1 => ?_)
  have hO1 : Own vs w1 w.heap.size 9 (some ⟨g1, 0, none⟩) 17 ([([70, 97, 108, 115, 101] : List UInt8), ([78, 111, 110, 101] : List UInt8), ([84, 114, 117, 101] : List UInt8), ([97, 110, 100] : List UInt8), ([98, 114, 101, 97, 107] : List UInt8), ([99, 111, 110, 116, 105, 110, 117, 101] : List UInt8), ([100, 101, 102] : List UInt8), ([101, 108, 105, 102] : List UInt8), ([101, 108, 115, 101] : List UInt8), ([102, 111, 114] : List UInt8), ([105, 102] : List UInt8), ([105, 110] : List UInt8), ([108, 111, 97, 100] : List UInt8), ([110, 111, 116] : List UInt8), ([111, 114] : List UInt8), ([112, 97, 115, 115] : List UInt8), ([114, 101, 116, 117, 114, 110] : List UInt8)] : List (List UInt8)) := Own.ofBl hB1 (Nat.le_trans (Nat.le_refl _) hl1) (by simp [maxLen]) rfl
  have gr1 := hg1
  refine WL.y rfl (Yld.pure tab_ok rfl) ?_
  refine WL.nil (WX.then_normal ?_)
  refine WC.ret ?_
  exact WX.ret1 rfl rfl ⟨gr1, ([([70, 97, 108, 115, 101] : List UInt8), ([78, 111, 110, 101] : List UInt8), ([84, 114, 117, 101] : List UInt8), ([97, 110, 100] : List UInt8), ([98, 114, 101, 97, 107] : List UInt8), ([99, 111, 110, 116, 105, 110, 117, 101] : List UInt8), ([100, 101, 102] : List UInt8), ([101, 108, 105, 102] : List UInt8), ([101, 108, 115, 101] : List UInt8), ([102, 111, 114] : List UInt8), ([105, 102] : List UInt8), ([105, 110] : List UInt8), ([108, 111, 97, 100] : List UInt8), ([110, 111, 116] : List UInt8), ([111, 114] : List UInt8), ([112, 97, 115, 115] : List UInt8), ([114, 101, 116, 117, 114, 110] : List UInt8)] : List (List UInt8)), (some ⟨g1, 0, none⟩), 17, rfl, hO1, H⟩

set_option maxHeartbeats 8000000 in
theorem W_lex_Name {w : World} {s : List UInt8} {K : Bool → Prop} (H : M_lex_Name s K) : Fn Tryd.prog 130 ⟨[vs s]⟩ w (fun v w' => w.grownBy w' none ∧ ∃ (r : Bool), v = .bool r ∧ K r) := by
  unfold M_lex_Name at H
  refine Fn.enter (by kernel_rfl) Tryd.func130 rfl Tryd.ntmps130 rfl ?_
  refine WC.seq ?_
  refine WC.region ?_
  refine WL.y rfl (Yld.pure tab_ok rfl) ?_
  refine WL.nil (WX.then_normal ?_)
  refine WC.seq ?_
  refine WC.seq ?_
  refine WC.region ?_
  refine WL.y rfl (Yld.pure tab_ok rfl) ?_
  refine WL.y rfl (Yld.pure tab_ok rfl) ?_
  refine WL.y rfl (Yld.pure tab_ok rfl) ?_
  refine WL.nil (WX.then_normal ?_)
  refine WC.block ?_
  obtain ⟨I1, mu1, h0_1, HR1⟩ := H
  refine WC.loopF (fun n' L' w' => ∃ (t6 : Int), n' = mu1 t6 ∧ L' = [(0, vs s), (5, .int .i64 (s.length : Int)), (6, .int .i64 t6)] ∧ I1 t6 ∧ w = w') _ _ ⟨(0 : Int), rfl, rfl, h0_1, rfl⟩ (by repeat (first | exact Sub.nil | refine Sub.cons rfl ?_)) ?_
  clear h0_1
  rintro _ _ _ ⟨t6, rfl, rfl, hI1, rfl⟩
  have H := HR1 t6 hI1
  refine WC.seq ?_
  refine WC.region ?_
  refine WL.y rfl (Yld.pure tab_ok rfl) ?_
  refine WL.nil (WX.then_normal ?_)
  refine WC.seq ?_
  refine WC.cond rfl (fun b1 => ?_) (fun b1 => ?_)
  · replace H := H.1 (of_decide_eq_true b1)
    refine WC.skip (WX.then_normal ?_)
    refine WC.seq ?_
    refine WC.block ?_
    refine WC.seq ?_
    refine WC.region ?_
    refine WL.y rfl (Yld.pure tab_ok rfl) ?_
    refine WL.y rfl (Yld.pure tab_ok rfl) ?_
    refine WL.nil (WX.then_normal ?_)
    refine WC.seq ?_
    refine WC.region ?_
    refine WL.y rfl (Yld.pure tab_ok rfl) ?_
    refine WL.y rfl (Yld.pure tab_ok rfl) ?_
    obtain ⟨h1, H⟩ := H
    refine WL.y rfl (Yld.sidx tab_ok rfl rfl rfl h1.1 h1.2) ?_
    refine WL.call rfl rfl (W_lex_letter H) ?_
    rintro _ _ ⟨rfl, t12, rfl, H⟩
    refine WL.y rfl (Yld.pure tab_ok rfl) ?_
    refine WL.y rfl (Yld.pure tab_ok rfl) ?_
    obtain ⟨J1, H, hJ1⟩ := H
    refine WL.midF 10 (fun L' w' => ∃ q1 : Bool, L' = [(24, .bool q1), (0, vs s), (5, .int .i64 (s.length : Int)), (6, .int .i64 t6)] ∧ J1 q1 ∧ w = w') ?_ (fun hQ => ?_)
    · clear H
      rintro _ _ ⟨q1, rfl, H, rfl⟩
      replace H := hJ1 q1 H
      refine WL.nil (WX.then_normal ?_)
      refine WC.cond rfl (fun b2 => ?_) (fun b2 => ?_)
      · replace H := H.1 (b2)
        refine WC.seq ?_
        refine WC.region ?_
        refine WL.y rfl (Yld.pure tab_ok rfl) ?_
        refine WL.nil (WX.then_normal ?_)
        refine WC.ret (WX.block_ret (WX.then_ret (WX.then_ret (WX.block_ret (WX.then_ret ?_)))))
        exact WX.ret1 rfl rfl ⟨(gr_refl _ _), false, rfl, H⟩
      · replace H := H.2 (b2)
        refine WC.skip (WX.block_normal (WX.then_normal ?_))
        refine WC.region ?_
        obtain ⟨h2, H⟩ := H
        refine WL.y rfl (Yld.add rfl rfl h2) ?_
        refine WL.y rfl (Yld.pure tab_ok rfl) ?_
        refine WL.nil ?_
        exact WX.roundF _ ⟨t6 + (1 : Int), rfl, rfl, H.1, rfl⟩ (by repeat (first | exact Sub.nil | refine Sub.cons rfl ?_)) H.2
    · clear hJ1
      rcases Bool.eq_false_or_eq_true (!t12) with b3 | b3
      · replace H := H.1 b3
        refine WL.gyes rfl rfl (okb b3) rfl (Yld.pure tab_ok rfl) ?_
        refine WL.gyes rfl rfl (okb b3) rfl (Yld.pure tab_ok rfl) ?_
        refine WL.gyes rfl rfl (okb b3) rfl (Yld.pure tab_ok rfl) ?_
        rcases Bool.eq_false_or_eq_true (decide (t6 = (0 : Int))) with b4 | b4
        · replace H := H.1 b4
          refine WL.gno rfl rfl (okb b4) rfl ?_
          refine WL.gno rfl rfl (okb b4) rfl ?_
          refine WL.gno rfl rfl (okb b4) rfl ?_
          refine WL.gno rfl rfl (okb b4) rfl ?_
          refine WL.gno rfl rfl (okb b4) rfl ?_
          refine WL.gyes rfl rfl (okb b3) rfl (Yld.pickT (okb b4) rfl) ?_
          refine WL.y rfl (Yld.pickT (okb b3) rfl) ?_
          exact WL.weaken (by repeat (first | exact Sub.nil | refine Sub.cons rfl ?_)) (hQ _ _ ⟨true, rfl, H, rfl⟩)
        · replace H := H.2 b4
          refine WL.gyes rfl rfl (okb b4) rfl (Yld.pure tab_ok rfl) ?_
          refine WL.gyes rfl rfl (okb b4) rfl (Yld.pure tab_ok rfl) ?_
          obtain ⟨h3, H⟩ := H
          refine WL.gyes rfl rfl (okb b4) rfl (Yld.sidx tab_ok rfl rfl rfl h3.1 h3.2) ?_
          refine WL.callw (wants_some rfl rfl (okb b4)) rfl rfl (W_lex_digit H) ?_
          rintro _ _ ⟨rfl, t21, rfl, H⟩
          refine WL.gyes rfl rfl (okb b4) rfl (Yld.pure tab_ok rfl) ?_
          refine WL.gyes rfl rfl (okb b3) rfl (Yld.pickF (okb b4) rfl) ?_
          refine WL.y rfl (Yld.pickT (okb b3) rfl) ?_
          exact WL.weaken (by repeat (first | exact Sub.nil | refine Sub.cons rfl ?_)) (hQ _ _ ⟨!t21, rfl, H, rfl⟩)
      · replace H := H.2 b3
        refine WL.gno rfl rfl (okb b3) rfl ?_
        refine WL.gno rfl rfl (okb b3) rfl ?_
        refine WL.gno rfl rfl (okb b3) rfl ?_
        refine WL.gun rfl rfl rfl rfl ?_
        refine WL.gun rfl rfl rfl rfl ?_
        refine WL.gun rfl rfl rfl rfl ?_
        refine WL.gun rfl rfl rfl rfl ?_
        refine WL.gun rfl rfl rfl rfl ?_
        refine WL.gno rfl rfl (okb b3) rfl ?_
        refine WL.y rfl (Yld.pickF (okb b3) rfl) ?_
        exact WL.weaken (by repeat (first | exact Sub.nil | refine Sub.cons rfl ?_)) (hQ _ _ ⟨false, rfl, H, rfl⟩)
  · replace H := H.2 (of_decide_eq_false b1)
    refine WC.exit (WX.then_exit (WX.then_exit (WX.block_same (WX.then_normal ?_))))
    refine WC.seq ?_
    refine WC.region ?_
    refine WL.y rfl (Yld.pure tab_ok rfl) ?_
    refine WL.y rfl (Yld.pure tab_ok rfl) ?_
    refine WL.y rfl (Yld.pure tab_ok rfl) ?_
    obtain ⟨J2, H, hJ2⟩ := H
    refine WL.midF 5 (fun L' w' => ∃ q2 : Bool, L' = [(33, .bool q2)] ∧ J2 q2 ∧ w.grownBy w' none) ?_ (fun hQ => ?_)
    · clear H
      rintro _ w1 ⟨q2, rfl, H, gr1⟩
      replace H := hJ2 q2 H
      refine WL.y rfl (Yld.pure tab_ok rfl) ?_
      refine WL.nil (WX.then_normal ?_)
      refine WC.ret ?_
      exact WX.ret1 rfl rfl ⟨gr1, q2, rfl, H⟩
    · clear hJ2
      rcases Bool.eq_false_or_eq_true (!decide (s = ([] : List UInt8))) with b5 | b5
      · replace H := H.1 b5
        refine WL.callw (wants_some rfl rfl (okb b5)) rfl rfl (W_lex_Words H) ?_
        rintro _ w2 ⟨hg1, t29, A_t29, c_t29, rfl, ht29, H⟩
        have hb1 := ht29.ge'
        have k1 := ht29.base (fun g hg => Nat.le_trans (Nat.le_refl _) (hb1 g hg))
        have gr2 := hg1
        refine WL.gyes rfl rfl (okb b5) rfl (Yld.pure tab_ok rfl) ?_
        refine WL.callw (wants_some rfl rfl (okb b5)) rfl rfl (W_slices_Contains_string_string k1.rd rfl H) ?_
        rintro _ _ ⟨rfl, t31, rfl, H⟩
        refine WL.gyes rfl rfl (okb b5) rfl (Yld.pure tab_ok rfl) ?_
        refine WL.y rfl (Yld.pickT (okb b5) rfl) ?_
        exact WL.weaken (by repeat (first | exact Sub.nil | refine Sub.cons rfl ?_)) (hQ _ _ ⟨!t31, rfl, H, gr2⟩)
      · replace H := H.2 b5
        refine WL.gno rfl rfl (okb b5) rfl ?_
        refine WL.gno rfl rfl (okb b5) rfl ?_
        refine WL.gno rfl rfl (okb b5) rfl ?_
        refine WL.gno rfl rfl (okb b5) rfl ?_
        refine WL.y rfl (Yld.pickF (okb b5) rfl) ?_
        exact WL.weaken (by repeat (first | exact Sub.nil | refine Sub.cons rfl ?_)) (hQ _ _ ⟨false, rfl, H, (gr_refl _ _)⟩)

set_option maxHeartbeats 8000000 in
theorem W_pstr_former_item {w : World} {g_f : Nat} {a_f_b_addr : Option Addr} {f_b_buf : List UInt8} {A_f_b_buf : Option Addr} {c_f_b_buf : Nat} {f_l : List (List UInt8)} {A_f_l : Option Addr} {c_f_l : Nat} {g_f_by : Nat} {f_by : List (List UInt8 × List UInt8)} {f_next : Int} {f_told : Bool} {f_bad : Bool} {k : Int} {n_f_b_buf : Nat} {n_f_l : Nat} {K : (List UInt8) → Int → Bool → Bool → Prop} (h_f_b_addr : a_f_b_addr = none ∨ a_f_b_addr = some ⟨g_f, 0, none⟩) (hf_b_buf : Own vb w 0 5 A_f_b_buf c_f_b_buf f_b_buf) (hn_f_b_buf : n_f_b_buf = f_b_buf.length) (hf_l : Rd vs w A_f_l c_f_l f_l) (hn_f_l : n_f_l = f_l.length) (hf_by : MapB vs okS vs w g_f_by f_by) (hf : Bl w g_f 105 [.pointer a_f_b_addr, .slice A_f_b_buf n_f_b_buf c_f_b_buf, .slice A_f_l n_f_l c_f_l, .map (some g_f_by), .int .i64 f_next, .bool f_told, .bool f_bad]) (hdj0_1 : Dj (some g_f) (blk A_f_b_buf)) (hap0 : AllP (Dn f_l (blk A_f_l)) [(some g_f), (blk A_f_b_buf)]) (hap1 : AllP (Dj (some g_f_by)) [(some g_f), (blk A_f_b_buf)]) (H : M_pstr_former_item f_b_buf f_l f_by f_next f_told f_bad k K) : Fn Tryd.prog 129 ⟨[.pointer (some ⟨g_f, 0, none⟩), .int .i64 k]⟩ w (fun v w' => GrL [(some g_f), (blk A_f_b_buf)] w w' ∧ ∃ (a_f_b_addr2 : Option Addr), ∃ (f_b_buf2 : List UInt8), ∃ (A_f_b_buf2 : Option Addr), ∃ (c_f_b_buf2 : Nat), ∃ (f_next2 : Int), ∃ (f_told2 : Bool), ∃ (f_bad2 : Bool), v = .tuple #[] ∧ Bl w' g_f 105 [.pointer a_f_b_addr2, .slice A_f_b_buf2 f_b_buf2.length c_f_b_buf2, .slice A_f_l f_l.length c_f_l, .map (some g_f_by), .int .i64 f_next2, .bool f_told2, .bool f_bad2] ∧ (a_f_b_addr2 = none ∨ a_f_b_addr2 = some ⟨g_f, 0, none⟩) ∧ Own vb w' 0 5 A_f_b_buf2 c_f_b_buf2 f_b_buf2 ∧ InP [(some g_f), (blk A_f_b_buf)] w.heap.size (blk A_f_b_buf2) ∧ Dj (some g_f) (blk A_f_b_buf2) ∧ K f_b_buf2 f_next2 f_told2 f_bad2) := by
  subst hn_f_b_buf
  subst hn_f_l
  unfold M_pstr_former_item at H
  refine Fn.enter (by kernel_rfl) Tryd.func129 rfl Tryd.ntmps129 rfl ?_
  replace H := H (Nat.le_trans hf_b_buf.rd.cap hf_b_buf.rd.max)
  replace H := H (Nat.le_trans hf_l.cap hf_l.max)
  have hNoAt : AllP (NoAt w) [(some g_f), (blk A_f_b_buf)] := (apC (NoAt.bl hf rfl) (apC (NoAt.own hf_b_buf rfl) apN))
  refine WC.seq ?_
  refine WC.seq ?_
  refine WC.region ?_
  refine WL.y rfl (Yld.pure tab_ok rfl) ?_
  refine WL.y rfl (Yld.pure tab_ok rfl) ?_
  refine WL.y rfl (Yld.pure tab_ok rfl) ?_
  refine WL.y rfl (Yld.pure tab_ok rfl) ?_
  refine WL.y rfl (Yld.bload tab_ok hf rfl rfl rfl) ?_
  refine WL.y rfl (Yld.pure tab_ok rfl) ?_
  refine WL.y rfl (Yld.pure tab_ok rfl) ?_
  refine WL.nil (WX.then_normal ?_)
  refine WC.cond rfl (fun b1 => ?_) (fun b1 => ?_)
  · replace H := H.1 (of_decide_eq_true b1)
    refine WC.seq ?_
    refine WC.region ?_
    refine WL.y rfl (Yld.pure tab_ok rfl) ?_
    refine WL.y rfl (Yld.pure tab_ok rfl) ?_
    refine WL.y rfl (Yld.pure tab_ok rfl) ?_
    refine WL.store1 one4 rfl rfl rfl hf (by simp) (fun w1 hB2 hg1 => ?_)
    have hB1 : Bl w1 g_f 105 [.pointer a_f_b_addr, .slice A_f_b_buf f_b_buf.length c_f_b_buf, .slice A_f_l f_l.length c_f_l, .map (some g_f_by), .int .i64 f_next, .bool f_told, .bool true] := hB2
    have gr1 : GrL [(some g_f), (blk A_f_b_buf)] w w1 := GrL.mod (GrL.refl _) hg1 (InP.mem (List.Mem.head _))
    have k1 := hf_b_buf.go hg1 hdj0_1.symm
    refine WL.nil (WX.then_normal ?_)
    refine WC.ret (WX.then_ret ?_)
    exact WX.ret0 rfl ⟨gr1, a_f_b_addr, f_b_buf, A_f_b_buf, c_f_b_buf, f_next, f_told, true, rfl, hB1, h_f_b_addr, k1, (InP.mem (List.Mem.tail _ (List.Mem.head _))), hdj0_1, H⟩
  · replace H := H.2 (of_decide_eq_false b1)
    refine WC.skip (WX.then_normal ?_)
    refine WC.chainF (fun k => !(Nat.beq k 10)) (LD [6, 9] (fun w' => Bl w' g_f 105 [.pointer a_f_b_addr, .slice A_f_b_buf f_b_buf.length c_f_b_buf, .slice A_f_l f_l.length c_f_l, .map (some g_f_by), .int .i64 f_next, .bool f_told, .bool f_bad] ∧ Rd vs w' A_f_l c_f_l f_l)) mixed (by kernel_rfl) (fun k w' h _ => ⟨(bl_eqv h hf), (rd_eqv h hf_l)⟩) ?_
    refine WJ.y rfl rfl (fun w' hw' => Yld.pure tab_ok rfl) ?_
    refine WJ.y rfl rfl (fun w' hw' => Yld.pure tab_ok rfl) ?_
    refine WJ.y rfl rfl (fun w' hw' => Yld.pure tab_ok rfl) ?_
    refine WJ.y rfl rfl (fun w' hw' => Yld.pure tab_ok rfl) ?_
    refine WJ.y rfl rfl (fun w' hw' => Yld.pure tab_ok rfl) ?_
    refine WJ.y rfl rfl (fun w' hw' => Yld.pure tab_ok rfl) ?_
    refine WJ.y rfl rfl (fun w' hw' => Yld.bload tab_ok (hw' rfl).1 rfl rfl rfl) ?_
    refine WJ.y rfl rfl (fun w' hw' => Yld.pure tab_ok rfl) ?_
    obtain ⟨h1, H⟩ := H
    refine WJ.y rfl rfl (fun w' hw' => Yld.iaddrW tab_ok hf_l rfl rfl rfl rfl h1.1 h1.2) ?_
    refine WJ.y rfl rfl (fun w' hw' => Yld.iload [] tab_ok (hw' rfl).2 rfl rfl (iltN h1 rfl)) ?_
    obtain ⟨h2, H⟩ := H
    refine WJ.call rfl wants_none rfl rfl (bws_fn hf h_f_b_addr rfl rfl rfl (liesB_of (by kernel_rfl)) hf_b_buf hdj0_1 h2 (Nat.zero_le _)) (fun v w' h w2 e => DD.past (by kernel_rfl)) ?_
    rintro _ w2 ⟨rfl, A_buf, c_buf, hB3, hO1, hgl1, hi1, dj1⟩
    have hB4 : Bl w2 g_f 105 [.pointer (some ⟨g_f, 0, none⟩), .slice A_buf ((f_b_buf ++ (f_l.getD k.toNat [])).length) c_buf, .slice A_f_l f_l.length c_f_l, .map (some g_f_by), .int .i64 f_next, .bool f_told, .bool f_bad] := hB3
    have hi2 : InP [(some g_f), (blk A_f_b_buf)] w.heap.size (blk A_buf) := InP.trans hi1 (apC (InP.mem (List.Mem.head _)) (apC (InP.mem (List.Mem.tail _ (List.Mem.head _))) apN)) (Nat.le_refl _)
    have gr2 : GrL [(some g_f), (blk A_f_b_buf)] w w2 := GrL.modL (GrL.refl _) hgl1 (apC (InP.mem (List.Mem.head _)) (apC (InP.mem (List.Mem.tail _ (List.Mem.head _))) apN))
    refine WJ.nil ?_
    exact WX.end0 rfl ⟨gr2, (some ⟨g_f, 0, none⟩), (f_b_buf ++ (f_l.getD k.toNat [])), A_buf, c_buf, f_next, f_told, f_bad, rfl, hB4, (Or.inr rfl), hO1, hi2, dj1, H⟩

set_option maxHeartbeats 8000000 in
theorem W_pstr_former_value {w : World} {g_f : Nat} {a_f_b_addr : Option Addr} {f_b_buf : List UInt8} {A_f_b_buf : Option Addr} {c_f_b_buf : Nat} {f_l : List (List UInt8)} {A_f_l : Option Addr} {c_f_l : Nat} {g_f_by : Nat} {f_by : List (List UInt8 × List UInt8)} {f_next : Int} {f_told : Bool} {f_bad : Bool} {name : List UInt8} {n_f_b_buf : Nat} {n_f_l : Nat} {K : (List UInt8) → Int → Bool → Bool → Prop} (h_f_b_addr : a_f_b_addr = none ∨ a_f_b_addr = some ⟨g_f, 0, none⟩) (hf_b_buf : Own vb w 0 5 A_f_b_buf c_f_b_buf f_b_buf) (hn_f_b_buf : n_f_b_buf = f_b_buf.length) (hf_l : Rd vs w A_f_l c_f_l f_l) (hn_f_l : n_f_l = f_l.length) (hf_by : MapB vs okS vs w g_f_by f_by) (hf : Bl w g_f 105 [.pointer a_f_b_addr, .slice A_f_b_buf n_f_b_buf c_f_b_buf, .slice A_f_l n_f_l c_f_l, .map (some g_f_by), .int .i64 f_next, .bool f_told, .bool f_bad]) (hdj0_1 : Dj (some g_f) (blk A_f_b_buf)) (hap0 : AllP (Dn f_l (blk A_f_l)) [(some g_f), (blk A_f_b_buf)]) (hap1 : AllP (Dj (some g_f_by)) [(some g_f), (blk A_f_b_buf)]) (H : M_pstr_former_value f_b_buf f_l f_by f_next f_told f_bad name K) : Fn Tryd.prog 110 ⟨[.pointer (some ⟨g_f, 0, none⟩), vs name]⟩ w (fun v w' => GrL [(some g_f), (blk A_f_b_buf)] w w' ∧ ∃ (a_f_b_addr2 : Option Addr), ∃ (f_b_buf2 : List UInt8), ∃ (A_f_b_buf2 : Option Addr), ∃ (c_f_b_buf2 : Nat), ∃ (f_next2 : Int), ∃ (f_told2 : Bool), ∃ (f_bad2 : Bool), v = .tuple #[] ∧ Bl w' g_f 105 [.pointer a_f_b_addr2, .slice A_f_b_buf2 f_b_buf2.length c_f_b_buf2, .slice A_f_l f_l.length c_f_l, .map (some g_f_by), .int .i64 f_next2, .bool f_told2, .bool f_bad2] ∧ (a_f_b_addr2 = none ∨ a_f_b_addr2 = some ⟨g_f, 0, none⟩) ∧ Own vb w' 0 5 A_f_b_buf2 c_f_b_buf2 f_b_buf2 ∧ InP [(some g_f), (blk A_f_b_buf)] w.heap.size (blk A_f_b_buf2) ∧ Dj (some g_f) (blk A_f_b_buf2) ∧ K f_b_buf2 f_next2 f_told2 f_bad2) := by
  subst hn_f_b_buf
  subst hn_f_l
  unfold M_pstr_former_value at H
  refine Fn.enter (by kernel_rfl) Tryd.func110 rfl Tryd.ntmps110 rfl ?_
  replace H := H (Nat.le_trans hf_b_buf.rd.cap hf_b_buf.rd.max)
  replace H := H (Nat.le_trans hf_l.cap hf_l.max)
  have hNoAt : AllP (NoAt w) [(some g_f), (blk A_f_b_buf)] := (apC (NoAt.bl hf rfl) (apC (NoAt.own hf_b_buf rfl) apN))
  refine WC.block ?_
  refine WC.seq ?_
  refine WC.region ?_
  refine WL.y rfl (Yld.pure tab_ok rfl) ?_
  refine WL.y rfl (Yld.pure tab_ok rfl) ?_
  refine WL.y rfl (Yld.pure tab_ok rfl) ?_
  refine WL.nil (WX.then_normal ?_)
  refine WC.cond rfl (fun b1 => ?_) (fun b1 => ?_)
  · replace H := H.1 (of_decide_eq_true b1)
    refine WC.seq ?_
    refine WC.region ?_
    refine WL.y rfl (Yld.pure tab_ok rfl) ?_
    refine WL.y rfl (Yld.pure tab_ok rfl) ?_
    refine WL.y rfl (Yld.pure tab_ok rfl) ?_
    refine WL.y rfl (Yld.pure tab_ok rfl) ?_
    refine WL.y rfl (Yld.bload tab_ok hf rfl rfl rfl) ?_
    refine WL.call rfl rfl (W_pstr_former_item h_f_b_addr hf_b_buf rfl hf_l rfl hf_by hf hdj0_1 (apC (InP.dn (InP.mem (List.Mem.head _)) (fun hx => hf_l.lt' hx) hap0) (apC (InP.dn (InP.mem (List.Mem.tail _ (List.Mem.head _))) (fun hx => hf_l.lt' hx) hap0) apN)) (apC (InP.dj (InP.mem (List.Mem.head _)) hf_by.lt' hap1).symm (apC (InP.dj (InP.mem (List.Mem.tail _ (List.Mem.head _))) hf_by.lt' hap1).symm apN)) H) ?_
    rintro _ w1 ⟨hgl1, a_f_, f_, A_f_, c_f_, f_2, f_3, f_4, rfl, hB1, ha1, hO1, hi1, dj1, H⟩
    have hi2 : InP [(some g_f), (blk A_f_b_buf)] w.heap.size (blk A_f_) := InP.trans hi1 (apC (InP.mem (List.Mem.head _)) (apC (InP.mem (List.Mem.tail _ (List.Mem.head _))) apN)) (Nat.le_refl _)
    have gr1 : GrL [(some g_f), (blk A_f_b_buf)] w w1 := GrL.modL (GrL.refl _) hgl1 (apC (InP.mem (List.Mem.head _)) (apC (InP.mem (List.Mem.tail _ (List.Mem.head _))) apN))
    refine WL.nil (WX.then_normal ?_)
    refine WC.seq ?_
    refine WC.region ?_
    refine WL.y rfl (Yld.pure tab_ok rfl) ?_
    refine WL.y rfl (Yld.pure tab_ok rfl) ?_
    refine WL.y rfl (Yld.pure tab_ok rfl) ?_
    refine WL.y rfl (Yld.pure tab_ok rfl) ?_
    refine WL.y rfl (Yld.bload tab_ok hB1 rfl rfl rfl) ?_
    refine WL.y rfl (Yld.pure tab_ok rfl) ?_
    refine WL.midF 5 (fun L' w' => ∃ q1 : Bool, L' = [(57, .bool q1), (0, .pointer (some ⟨g_f, 0, none⟩)), (47, .pointer (some ⟨g_f, 0, none⟩))] ∧ q1 = (f_4 || f_3) ∧ w1 = w') ?_ (fun hQ => ?_)
    · rintro _ _ ⟨q1, rfl, rfl, rfl⟩
      refine WL.y rfl (Yld.pure tab_ok rfl) ?_
      refine WL.y rfl (Yld.pure tab_ok rfl) ?_
      refine WL.store1 one4 rfl rfl rfl hB1 (by simp) (fun w2 hB3 hg1 => ?_)
      have hB2 : Bl w2 g_f 105 [.pointer a_f_, .slice A_f_ f_.length c_f_, .slice A_f_l f_l.length c_f_l, .map (some g_f_by), .int .i64 f_2, .bool f_3, .bool (f_4 || f_3)] := hB3
      have gr2 : GrL [(some g_f), (blk A_f_b_buf)] w w2 := GrL.mod gr1 hg1 (InP.mem (List.Mem.head _))
      have k1 := hO1.go hg1 dj1.symm
      refine WL.nil (WX.then_normal ?_)
      refine WC.region ?_
      refine WL.y rfl (Yld.pure tab_ok rfl) ?_
      refine WL.y rfl (Yld.pure tab_ok rfl) ?_
      refine WL.y rfl (Yld.pure tab_ok rfl) ?_
      refine WL.y rfl (Yld.bload tab_ok hB2 rfl rfl rfl) ?_
      obtain ⟨h1, H⟩ := H
      refine WL.y rfl (Yld.add rfl rfl h1) ?_
      refine WL.y rfl (Yld.pure tab_ok rfl) ?_
      refine WL.y rfl (Yld.pure tab_ok rfl) ?_
      refine WL.store1 one3 rfl rfl rfl hB2 (by simp) (fun w3 hB5 hg2 => ?_)
      have hB4 : Bl w3 g_f 105 [.pointer a_f_, .slice A_f_ f_.length c_f_, .slice A_f_l f_l.length c_f_l, .map (some g_f_by), .int .i64 (f_2 + (1 : Int)), .bool f_3, .bool (f_4 || f_3)] := hB5
      have gr3 : GrL [(some g_f), (blk A_f_b_buf)] w w3 := GrL.mod gr2 hg2 (InP.mem (List.Mem.head _))
      have k2 := k1.go hg2 dj1.symm
      refine WL.nil (WX.block_normal ?_)
      exact WX.end0 rfl ⟨gr3, a_f_, f_, A_f_, c_f_, f_2 + (1 : Int), f_3, f_4 || f_3, rfl, hB4, ha1, k2, hi2, dj1, H⟩
    · clear H
      rcases Bool.eq_false_or_eq_true (f_4) with b2 | b2
      · refine WL.gno rfl rfl (okb b2) rfl ?_
        refine WL.gno rfl rfl (okb b2) rfl ?_
        refine WL.gno rfl rfl (okb b2) rfl ?_
        refine WL.gno rfl rfl (okb b2) rfl ?_
        refine WL.y rfl (Yld.pickT (okb b2) rfl) ?_
        exact WL.weaken (by repeat (first | exact Sub.nil | refine Sub.cons rfl ?_)) (hQ _ _ ⟨true, rfl, by rw [b2] <;> rfl, rfl⟩)
      · refine WL.gyes rfl rfl (okb b2) rfl (Yld.pure tab_ok rfl) ?_
        refine WL.gyes rfl rfl (okb b2) rfl (Yld.pure tab_ok rfl) ?_
        refine WL.gyes rfl rfl (okb b2) rfl (Yld.pure tab_ok rfl) ?_
        refine WL.gyes rfl rfl (okb b2) rfl (Yld.bload tab_ok hB1 rfl rfl rfl) ?_
        refine WL.y rfl (Yld.pickF (okb b2) rfl) ?_
        exact WL.weaken (by repeat (first | exact Sub.nil | refine Sub.cons rfl ?_)) (hQ _ _ ⟨f_3, rfl, by rw [b2] <;> rfl, rfl⟩)
  · replace H := H.2 (of_decide_eq_false b1)
    refine WC.seq ?_
    refine WC.region ?_
    refine WL.y rfl (Yld.pure tab_ok rfl) ?_
    refine WL.call rfl rfl (W_str_IsDigits H) ?_
    rintro _ _ ⟨rfl, t69, rfl, H⟩
    refine WL.y rfl (Yld.pure tab_ok rfl) ?_
    refine WL.midF 4 (fun L' w' => ∃ q2 : Bool, L' = [(74, .bool q2), (0, .pointer (some ⟨g_f, 0, none⟩)), (1, vs name)] ∧ q2 = (t69 && (decide ((name.length : Int) ≤ (9 : Int)))) ∧ w = w') ?_ (fun hQ => ?_)
    · rintro _ _ ⟨q2, rfl, rfl, rfl⟩
      refine WL.y rfl (Yld.pure tab_ok rfl) ?_
      refine WL.nil (WX.then_normal ?_)
      refine WC.cond rfl (fun b3 => ?_) (fun b3 => ?_)
      · replace H := H.1 (b3)
        refine WC.seq ?_
        refine WC.region ?_
        refine WL.y rfl (Yld.pure tab_ok rfl) ?_
        refine WL.nil (WX.then_normal ?_)
        refine WC.seq ?_
        refine WC.seq ?_
        refine WC.region ?_
        refine WL.y rfl (Yld.pure tab_ok rfl) ?_
        refine WL.y rfl (Yld.pure tab_ok rfl) ?_
        refine WL.y rfl (Yld.pure tab_ok rfl) ?_
        refine WL.nil (WX.then_normal ?_)
        refine WC.block ?_
        obtain ⟨I1, mu1, h0_1, HR1⟩ := H
        refine WC.loopF (fun n' L' w' => ∃ (k : Int), ∃ (t77 : Int), n' = mu1 k t77 ∧ L' = [(0, .pointer (some ⟨g_f, 0, none⟩)), (1, vs name), (4, .int .i64 k), (76, .int .i64 (name.length : Int)), (77, .int .i64 t77)] ∧ I1 k t77 ∧ w = w') _ _ ⟨(0 : Int), (0 : Int), rfl, rfl, h0_1, rfl⟩ (by repeat (first | exact Sub.nil | refine Sub.cons rfl ?_)) ?_
        clear h0_1
        rintro _ _ _ ⟨k, t77, rfl, rfl, hI1, rfl⟩
        have H := HR1 k t77 hI1
        refine WC.seq ?_
        refine WC.region ?_
        refine WL.y rfl (Yld.pure tab_ok rfl) ?_
        refine WL.nil (WX.then_normal ?_)
        refine WC.seq ?_
        refine WC.cond rfl (fun b4 => ?_) (fun b4 => ?_)
        · replace H := H.1 (of_decide_eq_true b4)
          refine WC.skip (WX.then_normal ?_)
          refine WC.seq ?_
          refine WC.block ?_
          refine WC.seq ?_
          refine WC.region ?_
          refine WL.y rfl (Yld.pure tab_ok rfl) ?_
          refine WL.y rfl (Yld.pure tab_ok rfl) ?_
          refine WL.nil (WX.then_normal ?_)
          refine WC.region ?_
          refine WL.y rfl (Yld.pure tab_ok rfl) ?_
          obtain ⟨h2, H⟩ := H
          refine WL.y rfl (Yld.mul rfl rfl h2) ?_
          refine WL.y rfl (Yld.pure tab_ok rfl) ?_
          refine WL.y rfl (Yld.pure tab_ok rfl) ?_
          obtain ⟨h3, H⟩ := H
          refine WL.y rfl (Yld.sidx tab_ok rfl rfl rfl h3.1 h3.2) ?_
          obtain ⟨h4, H⟩ := H
          refine WL.y rfl (Yld.sub rfl rfl h4) ?_
          obtain ⟨h5, H⟩ := H
          refine WL.y rfl (Yld.conv tab_ok rfl rfl rfl h5) ?_
          obtain ⟨h6, H⟩ := H
          refine WL.y rfl (Yld.add rfl rfl h6) ?_
          refine WL.y rfl (Yld.pure tab_ok rfl) ?_
          refine WL.nil (WX.block_normal (WX.then_normal ?_))
          refine WC.region ?_
          obtain ⟨h7, H⟩ := H
          refine WL.y rfl (Yld.add rfl rfl h7) ?_
          refine WL.y rfl (Yld.pure tab_ok rfl) ?_
          refine WL.nil ?_
          exact WX.roundF _ ⟨((10 : Int) * k) + (((name.getD t77.toNat 0).toNat : Int) - (48 : Int)), t77 + (1 : Int), rfl, rfl, H.1, rfl⟩ (by repeat (first | exact Sub.nil | refine Sub.cons rfl ?_)) H.2
        · replace H := H.2 (of_decide_eq_false b4)
          refine WC.exit (WX.then_exit (WX.then_exit (WX.block_same (WX.then_normal ?_))))
          refine WC.seq ?_
          refine WC.region ?_
          refine WL.y rfl (Yld.pure tab_ok rfl) ?_
          refine WL.y rfl (Yld.pure tab_ok rfl) ?_
          refine WL.call rfl rfl (W_pstr_former_item h_f_b_addr hf_b_buf rfl hf_l rfl hf_by hf hdj0_1 (apC (InP.dn (InP.mem (List.Mem.head _)) (fun hx => hf_l.lt' hx) hap0) (apC (InP.dn (InP.mem (List.Mem.tail _ (List.Mem.head _))) (fun hx => hf_l.lt' hx) hap0) apN)) (apC (InP.dj (InP.mem (List.Mem.head _)) hf_by.lt' hap1).symm (apC (InP.dj (InP.mem (List.Mem.tail _ (List.Mem.head _))) hf_by.lt' hap1).symm apN)) H) ?_
          rintro _ w4 ⟨hgl2, a_f_2, f_5, A_f_2, c_f_2, f_6, f_7, f_8, rfl, hB6, ha2, hO2, hi3, dj2, H⟩
          have hi4 : InP [(some g_f), (blk A_f_b_buf)] w.heap.size (blk A_f_2) := InP.trans hi3 (apC (InP.mem (List.Mem.head _)) (apC (InP.mem (List.Mem.tail _ (List.Mem.head _))) apN)) (Nat.le_refl _)
          have gr4 : GrL [(some g_f), (blk A_f_b_buf)] w w4 := GrL.modL (GrL.refl _) hgl2 (apC (InP.mem (List.Mem.head _)) (apC (InP.mem (List.Mem.tail _ (List.Mem.head _))) apN))
          refine WL.nil (WX.then_normal ?_)
          refine WC.seq ?_
          refine WC.region ?_
          refine WL.y rfl (Yld.pure tab_ok rfl) ?_
          refine WL.y rfl (Yld.pure tab_ok rfl) ?_
          refine WL.y rfl (Yld.pure tab_ok rfl) ?_
          refine WL.y rfl (Yld.pure tab_ok rfl) ?_
          refine WL.y rfl (Yld.bload tab_ok hB6 rfl rfl rfl) ?_
          refine WL.y rfl (Yld.pure tab_ok rfl) ?_
          refine WL.midF 6 (fun L' w' => ∃ q3 : Bool, L' = [(103, .bool q3), (0, .pointer (some ⟨g_f, 0, none⟩)), (92, .pointer (some ⟨g_f, 0, none⟩))] ∧ q3 = (f_8 || (decide ((0 : Int) < f_6))) ∧ w4 = w') ?_ (fun hQ => ?_)
          · rintro _ _ ⟨q3, rfl, rfl, rfl⟩
            refine WL.y rfl (Yld.pure tab_ok rfl) ?_
            refine WL.y rfl (Yld.pure tab_ok rfl) ?_
            refine WL.store1 one4 rfl rfl rfl hB6 (by simp) (fun w5 hB8 hg3 => ?_)
            have hB7 : Bl w5 g_f 105 [.pointer a_f_2, .slice A_f_2 f_5.length c_f_2, .slice A_f_l f_l.length c_f_l, .map (some g_f_by), .int .i64 f_6, .bool f_7, .bool (f_8 || (decide ((0 : Int) < f_6)))] := hB8
            have gr5 : GrL [(some g_f), (blk A_f_b_buf)] w w5 := GrL.mod gr4 hg3 (InP.mem (List.Mem.head _))
            have k3 := hO2.go hg3 dj2.symm
            refine WL.nil (WX.then_normal ?_)
            refine WC.region ?_
            refine WL.y rfl (Yld.pure tab_ok rfl) ?_
            refine WL.y rfl (Yld.pure tab_ok rfl) ?_
            refine WL.y rfl (Yld.pure tab_ok rfl) ?_
            refine WL.store1 one4 rfl rfl rfl hB7 (by simp) (fun w6 hB10 hg4 => ?_)
            have hB9 : Bl w6 g_f 105 [.pointer a_f_2, .slice A_f_2 f_5.length c_f_2, .slice A_f_l f_l.length c_f_l, .map (some g_f_by), .int .i64 f_6, .bool true, .bool (f_8 || (decide ((0 : Int) < f_6)))] := hB10
            have gr6 : GrL [(some g_f), (blk A_f_b_buf)] w w6 := GrL.mod gr5 hg4 (InP.mem (List.Mem.head _))
            have k4 := k3.go hg4 dj2.symm
            refine WL.nil (WX.block_normal ?_)
            exact WX.end0 rfl ⟨gr6, a_f_2, f_5, A_f_2, c_f_2, f_6, true, f_8 || (decide ((0 : Int) < f_6)), rfl, hB9, ha2, k4, hi4, dj2, H⟩
          · clear H
            rcases Bool.eq_false_or_eq_true (f_8) with b5 | b5
            · refine WL.gno rfl rfl (okb b5) rfl ?_
              refine WL.gno rfl rfl (okb b5) rfl ?_
              refine WL.gno rfl rfl (okb b5) rfl ?_
              refine WL.gno rfl rfl (okb b5) rfl ?_
              refine WL.gno rfl rfl (okb b5) rfl ?_
              refine WL.y rfl (Yld.pickT (okb b5) rfl) ?_
              exact WL.weaken (by repeat (first | exact Sub.nil | refine Sub.cons rfl ?_)) (hQ _ _ ⟨true, rfl, by rw [b5] <;> rfl, rfl⟩)
            · refine WL.gyes rfl rfl (okb b5) rfl (Yld.pure tab_ok rfl) ?_
              refine WL.gyes rfl rfl (okb b5) rfl (Yld.pure tab_ok rfl) ?_
              refine WL.gyes rfl rfl (okb b5) rfl (Yld.pure tab_ok rfl) ?_
              refine WL.gyes rfl rfl (okb b5) rfl (Yld.bload tab_ok hB6 rfl rfl rfl) ?_
              refine WL.gyes rfl rfl (okb b5) rfl (Yld.pure tab_ok rfl) ?_
              refine WL.y rfl (Yld.pickF (okb b5) rfl) ?_
              exact WL.weaken (by repeat (first | exact Sub.nil | refine Sub.cons rfl ?_)) (hQ _ _ ⟨decide ((0 : Int) < f_6), rfl, by rw [b5] <;> rfl, rfl⟩)
      · replace H := H.2 (b3)
        refine WC.seq ?_
        refine WC.region ?_
        refine WL.y rfl (Yld.pure tab_ok rfl) ?_
        refine WL.y rfl (Yld.pure tab_ok rfl) ?_
        refine WL.y rfl (Yld.pure tab_ok rfl) ?_
        refine WL.y rfl (Yld.bload tab_ok hf rfl rfl rfl) ?_
        refine WL.y rfl (Yld.pure tab_ok rfl) ?_
        obtain ⟨h8, H⟩ := H
        refine WL.y rfl (Yld.lookOk (z := []) (keyF_s Tryd.underlying9) Tryd.underlying103 (fun _ => by kernel_rfl) hf_by rfl rfl h8) ?_
        refine WL.y rfl (Yld.pure tab_ok rfl) ?_
        refine WL.y rfl (Yld.pure tab_ok rfl) ?_
        refine WL.y rfl (Yld.pure tab_ok rfl) ?_
        refine WL.y rfl (Yld.pure tab_ok rfl) ?_
        refine WL.y rfl (Yld.pure tab_ok rfl) ?_
        refine WL.nil (WX.then_normal ?_)
        refine WC.seq ?_
        refine WC.region ?_
        refine WL.y rfl (Yld.pure tab_ok rfl) ?_
        refine WL.y rfl (Yld.pure tab_ok rfl) ?_
        refine WL.y rfl (Yld.pure tab_ok rfl) ?_
        refine WL.y rfl (Yld.pure tab_ok rfl) ?_
        refine WL.y rfl (Yld.bload tab_ok hf rfl rfl rfl) ?_
        refine WL.y rfl (Yld.pure tab_ok rfl) ?_
        refine WL.midF 3 (fun L' w' => ∃ q4 : Bool, L' = [(25, .bool q4), (0, .pointer (some ⟨g_f, 0, none⟩)), (1, vs name), (6, vs ((mget f_by name).getD [])), (17, .pointer (some ⟨g_f, 0, none⟩))] ∧ q4 = (f_bad || (!((mget f_by name).isSome))) ∧ w = w') ?_ (fun hQ => ?_)
        · rintro _ _ ⟨q4, rfl, rfl, rfl⟩
          refine WL.y rfl (Yld.pure tab_ok rfl) ?_
          obtain ⟨J1, H, hJ1⟩ := H
          refine WL.midF 4 (fun L' w' => ∃ q5 : Bool, L' = [(30, .bool q5), (0, .pointer (some ⟨g_f, 0, none⟩)), (6, vs ((mget f_by name).getD [])), (17, .pointer (some ⟨g_f, 0, none⟩))] ∧ J1 q5 ∧ GrL [(some g_f), (blk A_f_b_buf)] w w' ∧ Own vb w' 0 5 A_f_b_buf c_f_b_buf f_b_buf ∧ Bl w' g_f 105 [.pointer a_f_b_addr, .slice A_f_b_buf f_b_buf.length c_f_b_buf, .slice A_f_l f_l.length c_f_l, .map (some g_f_by), .int .i64 f_next, .bool f_told, .bool f_bad]) ?_ (fun hQ => ?_)
          · clear H
            rintro _ w7 ⟨q5, rfl, H, gr7, k5, k6⟩
            replace H := hJ1 q5 H
            refine WL.y rfl (Yld.pure tab_ok rfl) ?_
            refine WL.y rfl (Yld.pure tab_ok rfl) ?_
            refine WL.store1 one4 rfl rfl rfl k6 (by simp) (fun w8 hB12 hg5 => ?_)
            have hB11 : Bl w8 g_f 105 [.pointer a_f_b_addr, .slice A_f_b_buf f_b_buf.length c_f_b_buf, .slice A_f_l f_l.length c_f_l, .map (some g_f_by), .int .i64 f_next, .bool f_told, .bool q5] := hB12
            have gr8 : GrL [(some g_f), (blk A_f_b_buf)] w w8 := GrL.mod gr7 hg5 (InP.mem (List.Mem.head _))
            have k7 := k5.go hg5 hdj0_1.symm
            refine WL.nil (WX.then_normal ?_)
            refine WC.region ?_
            refine WL.y rfl (Yld.pure tab_ok rfl) ?_
            refine WL.y rfl (Yld.pure tab_ok rfl) ?_
            refine WL.y rfl (Yld.pure tab_ok rfl) ?_
            refine WL.y rfl (Yld.pure tab_ok rfl) ?_
            obtain ⟨h9, H⟩ := H
            refine WL.call rfl rfl (bws_fn hB11 h_f_b_addr rfl rfl rfl (liesB_of (by kernel_rfl)) k7 hdj0_1 h9 (Nat.zero_le _)) ?_
            rintro _ w9 ⟨rfl, A_buf, c_buf, hB13, hO3, hgl3, hi5, dj3⟩
            have hB14 : Bl w9 g_f 105 [.pointer (some ⟨g_f, 0, none⟩), .slice A_buf ((f_b_buf ++ ((mget f_by name).getD [])).length) c_buf, .slice A_f_l f_l.length c_f_l, .map (some g_f_by), .int .i64 f_next, .bool f_told, .bool q5] := hB13
            have hi6 : InP [(some g_f), (blk A_f_b_buf)] w.heap.size (blk A_buf) := InP.trans hi5 (apC (InP.mem (List.Mem.head _)) (apC (InP.mem (List.Mem.tail _ (List.Mem.head _))) apN)) (GrL.sizeL gr8)
            have gr9 : GrL [(some g_f), (blk A_f_b_buf)] w w9 := GrL.modL gr8 hgl3 (apC (InP.mem (List.Mem.head _)) (apC (InP.mem (List.Mem.tail _ (List.Mem.head _))) apN))
            refine WL.nil (WX.block_normal ?_)
            exact WX.end0 rfl ⟨gr9, (some ⟨g_f, 0, none⟩), (f_b_buf ++ ((mget f_by name).getD [])), A_buf, c_buf, f_next, f_told, q5, rfl, hB14, (Or.inr rfl), hO3, hi6, dj3, H⟩
          · clear hJ1
            rcases Bool.eq_false_or_eq_true (f_bad || (!((mget f_by name).isSome))) with b6 | b6
            · replace H := H.1 b6
              refine WL.gno rfl rfl (okb b6) rfl ?_
              refine WL.gno rfl rfl (okb b6) rfl ?_
              refine WL.gno rfl rfl (okb b6) rfl ?_
              refine WL.y rfl (Yld.pickT (okb b6) rfl) ?_
              exact WL.weaken (by repeat (first | exact Sub.nil | refine Sub.cons rfl ?_)) (hQ _ _ ⟨true, rfl, H, (GrL.refl _), hf_b_buf, hf⟩)
            · replace H := H.2 b6
              refine WL.gyes rfl rfl (okb b6) rfl (Yld.pure tab_ok rfl) ?_
              refine WL.callw (wants_some rfl rfl (okb b6)) rfl rfl (W_lex_Name H) ?_
              rintro _ w10 ⟨hg6, t28, rfl, H⟩
              have gr10 := (GrL.of0 (ps := [(some g_f), (blk A_f_b_buf)]) hg6)
              have k8 := hf_b_buf.grown hg6
              have k9 := hf.g0 hg6
              refine WL.gyes rfl rfl (okb b6) rfl (Yld.pure tab_ok rfl) ?_
              refine WL.y rfl (Yld.pickF (okb b6) rfl) ?_
              exact WL.weaken (by repeat (first | exact Sub.nil | refine Sub.cons rfl ?_)) (hQ _ _ ⟨!t28, rfl, H, gr10, k8, k9⟩)
        · clear H
          rcases Bool.eq_false_or_eq_true (f_bad) with b7 | b7
          · refine WL.gno rfl rfl (okb b7) rfl ?_
            refine WL.gno rfl rfl (okb b7) rfl ?_
            refine WL.y rfl (Yld.pickT (okb b7) rfl) ?_
            exact WL.weaken (by repeat (first | exact Sub.nil | refine Sub.cons rfl ?_)) (hQ _ _ ⟨true, rfl, by rw [b7] <;> rfl, rfl⟩)
          · refine WL.gyes rfl rfl (okb b7) rfl (Yld.pure tab_ok rfl) ?_
            refine WL.gyes rfl rfl (okb b7) rfl (Yld.pure tab_ok rfl) ?_
            refine WL.y rfl (Yld.pickF (okb b7) rfl) ?_
            exact WL.weaken (by repeat (first | exact Sub.nil | refine Sub.cons rfl ?_)) (hQ _ _ ⟨!((mget f_by name).isSome), rfl, by rw [b7] <;> rfl, rfl⟩)
    · clear H
      rcases Bool.eq_false_or_eq_true (t69) with b8 | b8
      · refine WL.gyes rfl rfl (okb b8) rfl (Yld.pure tab_ok rfl) ?_
        refine WL.gyes rfl rfl (okb b8) rfl (Yld.pure tab_ok rfl) ?_
        refine WL.gyes rfl rfl (okb b8) rfl (Yld.pure tab_ok rfl) ?_
        refine WL.y rfl (Yld.pickT (okb b8) rfl) ?_
        exact WL.weaken (by repeat (first | exact Sub.nil | refine Sub.cons rfl ?_)) (hQ _ _ ⟨decide ((name.length : Int) ≤ (9 : Int)), rfl, by rw [b8] <;> rfl, rfl⟩)
      · refine WL.gno rfl rfl (okb b8) rfl ?_
        refine WL.gno rfl rfl (okb b8) rfl ?_
        refine WL.gno rfl rfl (okb b8) rfl ?_
        refine WL.y rfl (Yld.pickF (okb b8) rfl) ?_
        exact WL.weaken (by repeat (first | exact Sub.nil | refine Sub.cons rfl ?_)) (hQ _ _ ⟨false, rfl, by rw [b8] <;> rfl, rfl⟩)

set_option maxHeartbeats 8000000 in
theorem W_pstr_former_piece {w : World} {g_f : Nat} {a_f_b_addr : Option Addr} {f_b_buf : List UInt8} {A_f_b_buf : Option Addr} {c_f_b_buf : Nat} {f_l : List (List UInt8)} {A_f_l : Option Addr} {c_f_l : Nat} {g_f_by : Nat} {f_by : List (List UInt8 × List UInt8)} {f_next : Int} {f_told : Bool} {f_bad : Bool} {s : List UInt8} {n_f_b_buf : Nat} {n_f_l : Nat} {K : Int → (List UInt8) → Int → Bool → Bool → Prop} (h_f_b_addr : a_f_b_addr = none ∨ a_f_b_addr = some ⟨g_f, 0, none⟩) (hf_b_buf : Own vb w 0 5 A_f_b_buf c_f_b_buf f_b_buf) (hn_f_b_buf : n_f_b_buf = f_b_buf.length) (hf_l : Rd vs w A_f_l c_f_l f_l) (hn_f_l : n_f_l = f_l.length) (hf_by : MapB vs okS vs w g_f_by f_by) (hf : Bl w g_f 105 [.pointer a_f_b_addr, .slice A_f_b_buf n_f_b_buf c_f_b_buf, .slice A_f_l n_f_l c_f_l, .map (some g_f_by), .int .i64 f_next, .bool f_told, .bool f_bad]) (hdj0_1 : Dj (some g_f) (blk A_f_b_buf)) (hap0 : AllP (Dn f_l (blk A_f_l)) [(some g_f), (blk A_f_b_buf)]) (hap1 : AllP (Dj (some g_f_by)) [(some g_f), (blk A_f_b_buf)]) (H : M_pstr_former_piece f_b_buf f_l f_by f_next f_told f_bad s K) : Fn Tryd.prog 81 ⟨[.pointer (some ⟨g_f, 0, none⟩), vs s]⟩ w (fun v w' => GrL [(some g_f), (blk A_f_b_buf)] w w' ∧ ∃ (r : Int), ∃ (a_f_b_addr2 : Option Addr), ∃ (f_b_buf2 : List UInt8), ∃ (A_f_b_buf2 : Option Addr), ∃ (c_f_b_buf2 : Nat), ∃ (f_next2 : Int), ∃ (f_told2 : Bool), ∃ (f_bad2 : Bool), v = .int .i64 r ∧ Bl w' g_f 105 [.pointer a_f_b_addr2, .slice A_f_b_buf2 f_b_buf2.length c_f_b_buf2, .slice A_f_l f_l.length c_f_l, .map (some g_f_by), .int .i64 f_next2, .bool f_told2, .bool f_bad2] ∧ (a_f_b_addr2 = none ∨ a_f_b_addr2 = some ⟨g_f, 0, none⟩) ∧ Own vb w' 0 5 A_f_b_buf2 c_f_b_buf2 f_b_buf2 ∧ InP [(some g_f), (blk A_f_b_buf)] w.heap.size (blk A_f_b_buf2) ∧ Dj (some g_f) (blk A_f_b_buf2) ∧ K r f_b_buf2 f_next2 f_told2 f_bad2) := by
  subst hn_f_b_buf
  subst hn_f_l
  unfold M_pstr_former_piece at H
  refine Fn.enter (by kernel_rfl) Tryd.func81 rfl Tryd.ntmps81 rfl ?_
  replace H := H (Nat.le_trans hf_b_buf.rd.cap hf_b_buf.rd.max)
  replace H := H (Nat.le_trans hf_l.cap hf_l.max)
  have hNoAt : AllP (NoAt w) [(some g_f), (blk A_f_b_buf)] := (apC (NoAt.bl hf rfl) (apC (NoAt.own hf_b_buf rfl) apN))
  refine WC.seq ?_
  refine WC.region ?_
  refine WL.y rfl (Yld.pure tab_ok rfl) ?_
  refine WL.nil (WX.then_normal ?_)
  refine WC.seq ?_
  refine WC.block ?_
  refine WC.seq ?_
  obtain ⟨J1, H, hJ1⟩ := H
  refine WC.midF (fun L' w' => ∃ (t6 : Bool), L' = [(0, .pointer (some ⟨g_f, 0, none⟩)), (1, vs s), (6, .bool t6)] ∧ J1 t6 ∧ w = w') ?_ (fun hQ => ?_)
  · clear H
    rintro _ _ ⟨t6, rfl, H, rfl⟩
    replace H := hJ1 t6 H
    refine WX.then_normal ?_
    refine WC.cond rfl (fun b1 => ?_) (fun b1 => ?_)
    · replace H := H.1 (b1)
      refine WC.seq ?_
      refine WC.chainF (fun k => !(Nat.beq k 5)) (LD [] (fun w' => True)) mixed (by kernel_rfl) (fun k w' h _ => trivial) ?_
      refine WJ.y rfl rfl (fun w' hw' => Yld.pure tab_ok rfl) ?_
      refine WJ.y rfl rfl (fun w' hw' => Yld.pure tab_ok rfl) ?_
      refine WJ.y rfl rfl (fun w' hw' => Yld.pure tab_ok rfl) ?_
      refine WJ.y rfl rfl (fun w' hw' => Yld.pure tab_ok rfl) ?_
      obtain ⟨h1, H⟩ := H
      refine WJ.y rfl rfl (fun w' hw' => Yld.sidx tab_ok rfl rfl rfl h1.1 h1.2) ?_
      obtain ⟨h2, H⟩ := H
      refine WJ.call rfl wants_none rfl rfl (bwb_fn hf h_f_b_addr rfl rfl rfl (liesB_of (by kernel_rfl)) hf_b_buf hdj0_1 h2 (Nat.zero_le _)) (fun v w' h w2 e => DD.past (by kernel_rfl)) ?_
      rintro _ w1 ⟨rfl, A_buf, c_buf, hB1, hO1, hgl1, hi1, dj1⟩
      have hB2 : Bl w1 g_f 105 [.pointer (some ⟨g_f, 0, none⟩), .slice A_buf ((f_b_buf ++ [s.getD 0 0]).length) c_buf, .slice A_f_l f_l.length c_f_l, .map (some g_f_by), .int .i64 f_next, .bool f_told, .bool f_bad] := hB1
      have hi2 : InP [(some g_f), (blk A_f_b_buf)] w.heap.size (blk A_buf) := InP.trans hi1 (apC (InP.mem (List.Mem.head _)) (apC (InP.mem (List.Mem.tail _ (List.Mem.head _))) apN)) (Nat.le_refl _)
      have gr1 : GrL [(some g_f), (blk A_f_b_buf)] w w1 := GrL.modL (GrL.refl _) hgl1 (apC (InP.mem (List.Mem.head _)) (apC (InP.mem (List.Mem.tail _ (List.Mem.head _))) apN))
      refine WJ.nil (WX.then_normal ?_)
      refine WC.seq ?_
      refine WC.region ?_
      refine WL.y rfl (Yld.pure tab_ok rfl) ?_
      refine WL.nil (WX.then_normal ?_)
      refine WC.ret (WX.block_ret (WX.then_ret ?_))
      exact WX.ret1 rfl rfl ⟨gr1, (2 : Int), (some ⟨g_f, 0, none⟩), (f_b_buf ++ [s.getD 0 0]), A_buf, c_buf, f_next, f_told, f_bad, rfl, hB2, (Or.inr rfl), hO1, hi2, dj1, H⟩
    · replace H := H.2 (b1)
      refine WC.seq ?_
      refine WC.region ?_
      refine WL.y rfl (Yld.pure tab_ok rfl) ?_
      obtain ⟨h3, H⟩ := H
      refine WL.y rfl (Yld.sidx tab_ok rfl rfl rfl h3.1 h3.2) ?_
      refine WL.y rfl (Yld.pure tab_ok rfl) ?_
      refine WL.y rfl (Yld.pure tab_ok rfl) ?_
      refine WL.nil (WX.then_normal ?_)
      refine WC.cond rfl (fun b2 => ?_) (fun b2 => ?_)
      · replace H := H.1 (of_decide_eq_true b2)
        refine WC.seq ?_
        refine WC.region ?_
        refine WL.y rfl (Yld.pure tab_ok rfl) ?_
        refine WL.y rfl (Yld.pure tab_ok rfl) ?_
        refine WL.y rfl (Yld.pure tab_ok rfl) ?_
        refine WL.store1 one4 rfl rfl rfl hf (by simp) (fun w2 hB4 hg1 => ?_)
        have hB3 : Bl w2 g_f 105 [.pointer a_f_b_addr, .slice A_f_b_buf f_b_buf.length c_f_b_buf, .slice A_f_l f_l.length c_f_l, .map (some g_f_by), .int .i64 f_next, .bool f_told, .bool true] := hB4
        have gr2 : GrL [(some g_f), (blk A_f_b_buf)] w w2 := GrL.mod (GrL.refl _) hg1 (InP.mem (List.Mem.head _))
        have k1 := hf_b_buf.go hg1 hdj0_1.symm
        refine WL.nil (WX.then_normal ?_)
        refine WC.seq ?_
        refine WC.region ?_
        refine WL.y rfl (Yld.pure tab_ok rfl) ?_
        refine WL.nil (WX.then_normal ?_)
        refine WC.ret (WX.block_ret (WX.then_ret ?_))
        exact WX.ret1 rfl rfl ⟨gr2, (1 : Int), a_f_b_addr, f_b_buf, A_f_b_buf, c_f_b_buf, f_next, f_told, true, rfl, hB3, h_f_b_addr, k1, (InP.mem (List.Mem.tail _ (List.Mem.head _))), hdj0_1, H⟩
      · replace H := H.2 (of_decide_eq_false b2)
        refine WC.seq ?_
        refine WC.region ?_
        refine WL.y rfl (Yld.pure tab_ok rfl) ?_
        obtain ⟨h4, H⟩ := H
        refine WL.y rfl (Yld.sidx tab_ok rfl rfl rfl h4.1 h4.2) ?_
        refine WL.y rfl (Yld.pure tab_ok rfl) ?_
        refine WL.y rfl (Yld.pure tab_ok rfl) ?_
        refine WL.nil (WX.then_normal ?_)
        refine WC.cond rfl (fun b3 => ?_) (fun b3 => ?_)
        · replace H := H.1 (nd_true b3)
          refine WC.seq ?_
          refine WC.chainF (fun k => !(Nat.beq k 5)) (LD [] (fun w' => True)) mixed (by kernel_rfl) (fun k w' h _ => trivial) ?_
          refine WJ.y rfl rfl (fun w' hw' => Yld.pure tab_ok rfl) ?_
          refine WJ.y rfl rfl (fun w' hw' => Yld.pure tab_ok rfl) ?_
          refine WJ.y rfl rfl (fun w' hw' => Yld.pure tab_ok rfl) ?_
          refine WJ.y rfl rfl (fun w' hw' => Yld.pure tab_ok rfl) ?_
          obtain ⟨h5, H⟩ := H
          refine WJ.y rfl rfl (fun w' hw' => Yld.sidx tab_ok rfl rfl rfl h5.1 h5.2) ?_
          obtain ⟨h6, H⟩ := H
          refine WJ.call rfl wants_none rfl rfl (bwb_fn hf h_f_b_addr rfl rfl rfl (liesB_of (by kernel_rfl)) hf_b_buf hdj0_1 h6 (Nat.zero_le _)) (fun v w' h w2 e => DD.past (by kernel_rfl)) ?_
          rintro _ w3 ⟨rfl, A_buf2, c_buf2, hB5, hO2, hgl2, hi3, dj2⟩
          have hB6 : Bl w3 g_f 105 [.pointer (some ⟨g_f, 0, none⟩), .slice A_buf2 ((f_b_buf ++ [s.getD 0 0]).length) c_buf2, .slice A_f_l f_l.length c_f_l, .map (some g_f_by), .int .i64 f_next, .bool f_told, .bool f_bad] := hB5
          have hi4 : InP [(some g_f), (blk A_f_b_buf)] w.heap.size (blk A_buf2) := InP.trans hi3 (apC (InP.mem (List.Mem.head _)) (apC (InP.mem (List.Mem.tail _ (List.Mem.head _))) apN)) (Nat.le_refl _)
          have gr3 : GrL [(some g_f), (blk A_f_b_buf)] w w3 := GrL.modL (GrL.refl _) hgl2 (apC (InP.mem (List.Mem.head _)) (apC (InP.mem (List.Mem.tail _ (List.Mem.head _))) apN))
          refine WJ.nil (WX.then_normal ?_)
          refine WC.seq ?_
          refine WC.region ?_
          refine WL.y rfl (Yld.pure tab_ok rfl) ?_
          refine WL.nil (WX.then_normal ?_)
          refine WC.ret (WX.block_ret (WX.then_ret ?_))
          exact WX.ret1 rfl rfl ⟨gr3, (1 : Int), (some ⟨g_f, 0, none⟩), (f_b_buf ++ [s.getD 0 0]), A_buf2, c_buf2, f_next, f_told, f_bad, rfl, hB6, (Or.inr rfl), hO2, hi4, dj2, H⟩
        · replace H := H.2 (nd_false b3)
          refine WC.skip (WX.block_normal (WX.then_normal ?_))
          refine WC.seq ?_
          refine WC.region ?_
          refine WL.y rfl (Yld.pure tab_ok rfl) ?_
          refine WL.call rfl rfl (W_strings_IndexByte H) ?_
          rintro _ _ ⟨rfl, end_, rfl, H⟩
          refine WL.y rfl (Yld.pure tab_ok rfl) ?_
          refine WL.nil (WX.then_normal ?_)
          refine WC.seq ?_
          refine WC.seq ?_
          refine WC.region ?_
          refine WL.y rfl (Yld.pure tab_ok rfl) ?_
          refine WL.y rfl (Yld.pure tab_ok rfl) ?_
          refine WL.nil (WX.then_normal ?_)
          refine WC.cond rfl (fun b4 => ?_) (fun b4 => ?_)
          · replace H := H.1 (of_decide_eq_true b4)
            refine WC.seq ?_
            refine WC.region ?_
            refine WL.y rfl (Yld.pure tab_ok rfl) ?_
            refine WL.y rfl (Yld.pure tab_ok rfl) ?_
            refine WL.y rfl (Yld.pure tab_ok rfl) ?_
            refine WL.store1 one4 rfl rfl rfl hf (by simp) (fun w4 hB8 hg2 => ?_)
            have hB7 : Bl w4 g_f 105 [.pointer a_f_b_addr, .slice A_f_b_buf f_b_buf.length c_f_b_buf, .slice A_f_l f_l.length c_f_l, .map (some g_f_by), .int .i64 f_next, .bool f_told, .bool true] := hB8
            have gr4 : GrL [(some g_f), (blk A_f_b_buf)] w w4 := GrL.mod (GrL.refl _) hg2 (InP.mem (List.Mem.head _))
            have k2 := hf_b_buf.go hg2 hdj0_1.symm
            refine WL.nil (WX.then_normal ?_)
            refine WC.seq ?_
            refine WC.region ?_
            refine WL.y rfl (Yld.pure tab_ok rfl) ?_
            refine WL.nil (WX.then_normal ?_)
            refine WC.ret (WX.then_ret ?_)
            exact WX.ret1 rfl rfl ⟨gr4, (1 : Int), a_f_b_addr, f_b_buf, A_f_b_buf, c_f_b_buf, f_next, f_told, true, rfl, hB7, h_f_b_addr, k2, (InP.mem (List.Mem.tail _ (List.Mem.head _))), hdj0_1, H⟩
          · replace H := H.2 (of_decide_eq_false b4)
            refine WC.skip (WX.then_normal ?_)
            refine WC.seq ?_
            refine WC.region ?_
            refine WL.y rfl (Yld.pure tab_ok rfl) ?_
            refine WL.y rfl (Yld.pure tab_ok rfl) ?_
            refine WL.y rfl (Yld.pure tab_ok rfl) ?_
            obtain ⟨h7, H⟩ := H
            refine WL.y rfl (Yld.scut tab_ok rfl rfl rfl rfl h7.1 h7.2.1 h7.2.2) ?_
            refine WL.call rfl rfl (W_pstr_former_value h_f_b_addr hf_b_buf rfl hf_l rfl hf_by hf hdj0_1 (apC (InP.dn (InP.mem (List.Mem.head _)) (fun hx => hf_l.lt' hx) hap0) (apC (InP.dn (InP.mem (List.Mem.tail _ (List.Mem.head _))) (fun hx => hf_l.lt' hx) hap0) apN)) (apC (InP.dj (InP.mem (List.Mem.head _)) hf_by.lt' hap1).symm (apC (InP.dj (InP.mem (List.Mem.tail _ (List.Mem.head _))) hf_by.lt' hap1).symm apN)) H) ?_
            rintro _ w5 ⟨hgl3, a_f_, f_, A_f_, c_f_, f_2, f_3, f_4, rfl, hB9, ha1, hO3, hi5, dj3, H⟩
            have hi6 : InP [(some g_f), (blk A_f_b_buf)] w.heap.size (blk A_f_) := InP.trans hi5 (apC (InP.mem (List.Mem.head _)) (apC (InP.mem (List.Mem.tail _ (List.Mem.head _))) apN)) (Nat.le_refl _)
            have gr5 : GrL [(some g_f), (blk A_f_b_buf)] w w5 := GrL.modL (GrL.refl _) hgl3 (apC (InP.mem (List.Mem.head _)) (apC (InP.mem (List.Mem.tail _ (List.Mem.head _))) apN))
            refine WL.nil (WX.then_normal ?_)
            refine WC.seq ?_
            refine WC.region ?_
            refine WL.y rfl (Yld.pure tab_ok rfl) ?_
            obtain ⟨h8, H⟩ := H
            refine WL.y rfl (Yld.add rfl rfl h8) ?_
            refine WL.y rfl (Yld.pure tab_ok rfl) ?_
            refine WL.nil (WX.then_normal ?_)
            refine WC.ret ?_
            exact WX.ret1 rfl rfl ⟨gr5, end_ + (1 : Int), a_f_, f_, A_f_, c_f_, f_2, f_3, f_4, rfl, hB9, ha1, hO3, hi6, dj3, H⟩
  · clear hJ1
    refine WC.seq ?_
    refine WC.region ?_
    refine WL.y rfl (Yld.pure tab_ok rfl) ?_
    refine WL.call rfl rfl (W_strings_HasPrefix H) ?_
    rintro _ _ ⟨rfl, t62, rfl, H⟩
    refine WL.y rfl (Yld.pure tab_ok rfl) ?_
    refine WL.nil (WX.then_normal ?_)
    refine WC.cond rfl (fun b5 => ?_) (fun b5 => ?_)
    · replace H := H.1 (b5)
      refine WC.skip ?_
      exact WX.weaken (by repeat (first | exact Sub.nil | refine Sub.cons rfl ?_)) (hQ _ _ ⟨t62, rfl, H, rfl⟩)
    · replace H := H.2 (b5)
      refine WC.region ?_
      refine WL.y rfl (Yld.pure tab_ok rfl) ?_
      refine WL.call rfl rfl (W_strings_HasPrefix H) ?_
      rintro _ _ ⟨rfl, t63, rfl, H⟩
      refine WL.y rfl (Yld.pure tab_ok rfl) ?_
      refine WL.nil ?_
      exact WX.weaken (by repeat (first | exact Sub.nil | refine Sub.cons rfl ?_)) (hQ _ _ ⟨t63, rfl, H, rfl⟩)

set_option maxHeartbeats 8000000 in
theorem W_str_Format {S : List Nat} {w : World} {s : List UInt8} {l : List (List UInt8)} {A_l : Option Addr} {c_l : Nat} {names : List (List UInt8)} {A_names : Option Addr} {c_names : Nat} {values : List (List UInt8)} {A_values : Option Addr} {c_values : Nat} {n_l : Nat} {n_names : Nat} {n_values : Nat} {K : (List UInt8) → Er → Prop} (hG : GOK S w) (hS3 : 3 ∈ S) (hS7 : 7 ∈ S) (hl : Rd vs w A_l c_l l) (hn_l : n_l = l.length) (hnames : Rd vs w A_names c_names names) (hn_names : n_names = names.length) (hvalues : Rd vs w A_values c_values values) (hn_values : n_values = values.length) (H : M_str_Format s l names values K) : Fn Tryd.prog 52 ⟨[vs s, .slice A_l n_l c_l, .slice A_names n_names c_names, .slice A_values n_values c_values]⟩ w (fun v w' => w.grownBy w' none ∧ ∃ (r0 : List UInt8), ∃ (v_r1 : Value), ∃ (r1 : Er), v = .tuple #[vs r0, v_r1] ∧ ErrR S w' v_r1 r1 ∧ K r0 r1) := by
  subst hn_l
  subst hn_names
  subst hn_values
  unfold M_str_Format at H
  refine Fn.enter (by kernel_rfl) Tryd.func52 rfl Tryd.ntmps52 rfl ?_
  replace H := H (Nat.le_trans hl.cap hl.max)
  replace H := H (Nat.le_trans hnames.cap hnames.max)
  replace H := H (Nat.le_trans hvalues.cap hvalues.max)
  refine WC.seq ?_
  refine WC.region ?_
  refine WL.y rfl (Yld.pure tab_ok rfl) ?_
  refine WL.y rfl (Yld.pure tab_ok rfl) ?_
  refine WL.nil (WX.then_normal ?_)
  refine WC.seq ?_
  refine WC.region ?_
  refine WL.y rfl (Yld.pure tab_ok rfl) ?_
  refine WL.putw wants_none rfl (Eff.makeMap vs okS vs) ?_
  rintro _ w1 ⟨rfl, hB1, hg1⟩
  obtain ⟨g_t17, hl1⟩ : ∃ g, g = w.heap.size := ⟨_, rfl⟩
  rw [← hl1] at hB1
  rw [← hl1]
  have gr1 := hg1
  refine WL.y rfl (Yld.struct (us := [.pointer none, .slice none 0 0, .slice A_l l.length c_l, .map (some g_t17), .int .i64 (0 : Int), .bool false, .bool false]) zero105 places105 rfl rfl) ?_
  refine WL.box (us := [.pointer none, .slice none 0 0, .slice A_l l.length c_l, .map (some g_t17), .int .i64 (0 : Int), .bool false, .bool false]) rfl rfl rfl (fun g1 w2 hB2 hg2 hl2 => ?_)
  have gr2 := gr_trans gr1 hg2
  have k1 := hB1.g0 hg2
  refine WL.y rfl (Yld.pure tab_ok rfl) ?_
  refine WL.nil (WX.then_normal ?_)
  refine WC.seq ?_
  refine WC.seq ?_
  refine WC.region ?_
  refine WL.y rfl (Yld.pure tab_ok rfl) ?_
  refine WL.y rfl (Yld.pure tab_ok rfl) ?_
  refine WL.y rfl (Yld.pure tab_ok rfl) ?_
  refine WL.nil (WX.then_normal ?_)
  refine WC.block ?_
  obtain ⟨I1, mu1, h0_1, HR1⟩ := H
  refine WC.loopF (fun n' L' w' => ∃ (t22 : Int), ∃ (t193 : List (List UInt8 × List UInt8)), n' = mu1 t22 t193 ∧ L' = [(0, vs s), (3, .slice A_values values.length c_values), (10, .pointer (some ⟨g1, 0, none⟩)), (20, .slice A_names names.length c_names), (21, .int .i64 (names.length : Int)), (22, .int .i64 t22)] ∧ I1 t22 t193 ∧ w.grownBy w' none ∧ Bl w' g1 105 [.pointer none, .slice none 0 0, .slice A_l l.length c_l, .map (some g_t17), .int .i64 (0 : Int), .bool false, .bool false] ∧ MapB vs okS vs w' g_t17 t193 ∧ Dj (some g1) (some g_t17)) _ _ ⟨(0 : Int), ([] : List (List UInt8 × List UInt8)), rfl, rfl, h0_1, gr2, hB2, k1, (Dj.new hB1.lt' (Ge.box hl2)).symm⟩ (by repeat (first | exact Sub.nil | refine Sub.cons rfl ?_)) ?_
  clear h0_1
  rintro _ _ w3 ⟨t22, t193, rfl, rfl, hI1, gr3, k2, k3, dj1⟩
  have H := HR1 t22 t193 hI1
  refine WC.seq ?_
  refine WC.region ?_
  refine WL.y rfl (Yld.pure tab_ok rfl) ?_
  refine WL.nil (WX.then_normal ?_)
  refine WC.seq ?_
  refine WC.cond rfl (fun b1 => ?_) (fun b1 => ?_)
  · replace H := H.1 (of_decide_eq_true b1)
    refine WC.skip (WX.then_normal ?_)
    refine WC.seq ?_
    obtain ⟨J1, H, hJ1⟩ := H
    refine WC.midF (fun L' w' => ∃ (t1932 : List (List UInt8 × List UInt8)), L' = [(0, vs s), (3, .slice A_values values.length c_values), (10, .pointer (some ⟨g1, 0, none⟩)), (20, .slice A_names names.length c_names), (21, .int .i64 (names.length : Int)), (22, .int .i64 t22)] ∧ J1 t1932 ∧ w.grownBy w' none ∧ Bl w' g1 105 [.pointer none, .slice none 0 0, .slice A_l l.length c_l, .map (some g_t17), .int .i64 (0 : Int), .bool false, .bool false] ∧ MapB vs okS vs w' g_t17 t1932 ∧ Dj (some g1) (some g_t17)) ?_ (fun hQ => ?_)
    · clear H
      rintro _ w4 ⟨t1932, rfl, H, gr4, k4, k5, dj2⟩
      replace H := hJ1 t1932 H
      refine WX.then_normal ?_
      refine WC.region ?_
      obtain ⟨h1, H⟩ := H
      refine WL.y rfl (Yld.add rfl rfl h1) ?_
      refine WL.y rfl (Yld.pure tab_ok rfl) ?_
      refine WL.nil ?_
      exact WX.roundF _ ⟨t22 + (1 : Int), t1932, rfl, rfl, H.1, gr4, k4, k5, dj2⟩ (by repeat (first | exact Sub.nil | refine Sub.cons rfl ?_)) H.2
    · clear hJ1
      refine WC.block ?_
      refine WC.seq ?_
      refine WC.region ?_
      refine WL.y rfl (Yld.pure tab_ok rfl) ?_
      obtain ⟨h2, H⟩ := H
      refine WL.y rfl (Yld.iaddrW tab_ok (hnames.grown gr3) rfl rfl rfl rfl h2.1 h2.2) ?_
      refine WL.y rfl (Yld.iload [] tab_ok (hnames.grown gr3) rfl rfl (iltN h2 rfl)) ?_
      refine WL.y rfl (Yld.pure tab_ok rfl) ?_
      refine WL.y rfl (Yld.pure tab_ok rfl) ?_
      refine WL.nil (WX.then_normal ?_)
      refine WC.seq ?_
      refine WC.region ?_
      refine WL.y rfl (Yld.pure tab_ok rfl) ?_
      refine WL.y rfl (Yld.pure tab_ok rfl) ?_
      refine WL.y rfl (Yld.pure tab_ok rfl) ?_
      refine WL.y rfl (Yld.bload tab_ok k2 rfl rfl rfl) ?_
      refine WL.y rfl (Yld.pure tab_ok rfl) ?_
      obtain ⟨h3, H⟩ := H
      refine WL.y rfl (Yld.lookOk (z := []) (keyF_s Tryd.underlying9) Tryd.underlying103 (fun _ => by kernel_rfl) k3 rfl rfl h3) ?_
      refine WL.y rfl (Yld.pure tab_ok rfl) ?_
      refine WL.y rfl (Yld.pure tab_ok rfl) ?_
      refine WL.y rfl (Yld.pure tab_ok rfl) ?_
      refine WL.y rfl (Yld.pure tab_ok rfl) ?_
      refine WL.y rfl (Yld.pure tab_ok rfl) ?_
      refine WL.nil (WX.then_normal ?_)
      refine WC.seq ?_
      refine WC.region ?_
      refine WL.y rfl (Yld.pure tab_ok rfl) ?_
      refine WL.y rfl (Yld.pure tab_ok rfl) ?_
      refine WL.y rfl (Yld.pure tab_ok rfl) ?_
      refine WL.midF 5 (fun L' w' => ∃ q1 : Bool, L' = [(43, .bool q1), (0, vs s), (3, .slice A_values values.length c_values), (10, .pointer (some ⟨g1, 0, none⟩)), (11, .int .i64 t22), (12, vs (names.getD t22.toNat [])), (20, .slice A_names names.length c_names), (21, .int .i64 (names.length : Int)), (22, .int .i64 t22)] ∧ q1 = ((!((mget t193 (names.getD t22.toNat [])).isSome)) && (decide (t22 < (values.length : Int)))) ∧ w3 = w') ?_ (fun hQ => ?_)
      · rintro _ _ ⟨q1, rfl, rfl, rfl⟩
        refine WL.nil (WX.then_normal ?_)
        refine WC.cond rfl (fun b2 => ?_) (fun b2 => ?_)
        · replace H := H.1 (b2)
          refine WC.chainF (fun k => !(Nat.beq k 9)) (LD [3, 8] (fun w' => Bl w' g1 105 [.pointer none, .slice none 0 0, .slice A_l l.length c_l, .map (some g_t17), .int .i64 (0 : Int), .bool false, .bool false] ∧ Rd vs w' A_values c_values values)) mixed (by kernel_rfl) (fun k w' h _ => ⟨(bl_eqv h k2), (rd_eqv h (hvalues.grown gr3))⟩) ?_
          refine WJ.y rfl rfl (fun w' hw' => Yld.pure tab_ok rfl) ?_
          refine WJ.y rfl rfl (fun w' hw' => Yld.pure tab_ok rfl) ?_
          refine WJ.y rfl rfl (fun w' hw' => Yld.pure tab_ok rfl) ?_
          refine WJ.y rfl rfl (fun w' hw' => Yld.bload tab_ok (hw' rfl).1 rfl rfl rfl) ?_
          refine WJ.y rfl rfl (fun w' hw' => Yld.pure tab_ok rfl) ?_
          refine WJ.y rfl rfl (fun w' hw' => Yld.pure tab_ok rfl) ?_
          refine WJ.y rfl rfl (fun w' hw' => Yld.pure tab_ok rfl) ?_
          obtain ⟨h4, H⟩ := H
          refine WJ.y rfl rfl (fun w' hw' => Yld.iaddrW tab_ok (hvalues.grown gr3) rfl rfl rfl rfl h4.1 h4.2) ?_
          refine WJ.y rfl rfl (fun w' hw' => Yld.iload [] tab_ok (hw' rfl).2 rfl rfl (iltN h4 rfl)) ?_
          obtain ⟨h5, H⟩ := H
          refine WJ.eff rfl (Ef0.mapPut (keyF_s Tryd.underlying9) Tryd.underlying103 k3 h5.2 rfl rfl h5.1 rfl) (fun w' h => DD.keep (⟨(Bl.go k2 (gr_eqv h.2 (Eqv.refl _)) dj1), (Rd.go (hvalues.grown gr3) (gr_eqv h.2 (Eqv.refl _)) (Dn.new (fun hx => hvalues.lt' hx) (Ge.le (Ge.box (Nat.le_of_eq hl1.symm)) (Nat.le_refl _))))⟩)) ?_
          rintro w5 ⟨hB3, hg3⟩
          have gr5 := gr_mod gr3 hg3 (Ge.le (Ge.box (Nat.le_of_eq hl1.symm)) (Nat.le_refl _))
          have k6 := k2.go hg3 dj1
          refine WJ.nil (WX.block_normal ?_)
          exact WX.weaken (by repeat (first | exact Sub.nil | refine Sub.cons rfl ?_)) (hQ _ _ ⟨mput t193 (names.getD t22.toNat []) (values.getD t22.toNat []), rfl, H, gr5, k6, hB3, dj1⟩)
        · replace H := H.2 (b2)
          refine WC.skip (WX.block_normal ?_)
          exact WX.weaken (by repeat (first | exact Sub.nil | refine Sub.cons rfl ?_)) (hQ _ _ ⟨t193, rfl, H, gr3, k2, k3, dj1⟩)
      · clear H
        rcases Bool.eq_false_or_eq_true (!((mget t193 (names.getD t22.toNat [])).isSome)) with b3 | b3
        · refine WL.gyes rfl rfl (okb b3) rfl (Yld.pure tab_ok rfl) ?_
          refine WL.gyes rfl rfl (okb b3) rfl (Yld.pure tab_ok rfl) ?_
          refine WL.gyes rfl rfl (okb b3) rfl (Yld.pure tab_ok rfl) ?_
          refine WL.gyes rfl rfl (okb b3) rfl (Yld.pure tab_ok rfl) ?_
          refine WL.y rfl (Yld.pickT (okb b3) rfl) ?_
          exact WL.weaken (by repeat (first | exact Sub.nil | refine Sub.cons rfl ?_)) (hQ _ _ ⟨decide (t22 < (values.length : Int)), rfl, by rw [b3] <;> rfl, rfl⟩)
        · refine WL.gno rfl rfl (okb b3) rfl ?_
          refine WL.gno rfl rfl (okb b3) rfl ?_
          refine WL.gno rfl rfl (okb b3) rfl ?_
          refine WL.gno rfl rfl (okb b3) rfl ?_
          refine WL.y rfl (Yld.pickF (okb b3) rfl) ?_
          exact WL.weaken (by repeat (first | exact Sub.nil | refine Sub.cons rfl ?_)) (hQ _ _ ⟨false, rfl, by rw [b3] <;> rfl, rfl⟩)
  · replace H := H.2 (of_decide_eq_false b1)
    refine WC.exit (WX.then_exit (WX.then_exit (WX.block_same (WX.then_normal ?_))))
    refine WC.seq ?_
    refine WC.seq ?_
    refine WC.region ?_
    refine WL.y rfl (Yld.pure tab_ok rfl) ?_
    refine WL.nil (WX.then_normal ?_)
    refine WC.block ?_
    obtain ⟨I2, mu2, h0_2, HR2⟩ := H
    refine WC.loopF (fun n' L' w' => ∃ (i : Int), ∃ (a_bld : Option Addr), ∃ (t191 : List UInt8), ∃ (A_t191 : Option Addr), ∃ (c_t191 : Nat), ∃ (n_t191 : Nat), ∃ (t194 : Int), ∃ (t195 : Bool), ∃ (t196 : Bool), n' = mu2 i t191 t194 t195 t196 ∧ L' = [(0, vs s), (10, .pointer (some ⟨g1, 0, none⟩)), (15, .int .i64 i)] ∧ I2 i t191 t194 t195 t196 ∧ (a_bld = none ∨ a_bld = some ⟨g1, 0, none⟩) ∧ n_t191 = t191.length ∧ w.grownBy w' none ∧ Bl w' g1 105 [.pointer a_bld, .slice A_t191 n_t191 c_t191, .slice A_l l.length c_l, .map (some g_t17), .int .i64 t194, .bool t195, .bool t196] ∧ MapB vs okS vs w' g_t17 t193 ∧ Own vb w' w.heap.size 5 A_t191 c_t191 t191 ∧ Dj (some g1) (some g_t17) ∧ Dj (some g1) (blk A_t191) ∧ Dj (some g_t17) (blk A_t191)) _ _ ⟨(0 : Int), none, [], none, 0, 0, (0 : Int), false, false, rfl, rfl, h0_2, (Or.inl rfl), rfl, gr3, k2, k3, (Own.nil vb w3 w.heap.size 5), dj1, Dj.nr, Dj.nr⟩ (by repeat (first | exact Sub.nil | refine Sub.cons rfl ?_)) ?_
    clear h0_2
    rintro _ _ w6 ⟨i, a_bld, t191, A_t191, c_t191, n_t191, t194, t195, t196, rfl, rfl, hI2, ha_bld, rfl, gr6, k7, k8, k9, dj3, dj4, dj5⟩
    have H := HR2 i t191 t194 t195 t196 hI2
    refine WC.seq ?_
    refine WC.seq ?_
    refine WC.region ?_
    refine WL.y rfl (Yld.pure tab_ok rfl) ?_
    refine WL.y rfl (Yld.pure tab_ok rfl) ?_
    refine WL.y rfl (Yld.pure tab_ok rfl) ?_
    refine WL.y rfl (Yld.pure tab_ok rfl) ?_
    refine WL.y rfl (Yld.pure tab_ok rfl) ?_
    refine WL.midF 6 (fun L' w' => ∃ q2 : Bool, L' = [(64, .bool q2), (0, vs s), (10, .pointer (some ⟨g1, 0, none⟩)), (15, .int .i64 i)] ∧ q2 = ((decide (i < (s.length : Int))) && (!t196)) ∧ w6 = w') ?_ (fun hQ => ?_)
    · rintro _ _ ⟨q2, rfl, rfl, rfl⟩
      refine WL.nil (WX.then_normal ?_)
      refine WC.cond rfl (fun b4 => ?_) (fun b4 => ?_)
      · replace H := H.1 (b4)
        refine WC.skip (WX.then_normal ?_)
        refine WC.block ?_
        refine WC.seq ?_
        refine WC.region ?_
        refine WL.y rfl (Yld.pure tab_ok rfl) ?_
        refine WL.y rfl (Yld.pure tab_ok rfl) ?_
        refine WL.y rfl (Yld.pure tab_ok rfl) ?_
        refine WL.y rfl (Yld.pure tab_ok rfl) ?_
        obtain ⟨h6, H⟩ := H
        refine WL.y rfl (Yld.scutF tab_ok rfl rfl rfl h6.1 h6.2) ?_
        refine WL.call rfl rfl (W_pstr_former_piece ha_bld (k9.base (fun _ _ => Nat.zero_le _)) rfl (hl.grown gr6) rfl k8 k7 dj4 (apC (Dn.new (fun hx => hl.lt' hx) (Ge.le (Ge.box hl2) (size_le gr1))) (apC (Dn.new (fun hx => hl.lt' hx) k9.ge') apN)) (apC dj3.symm (apC dj5 apN)) H) ?_
        rintro _ w7 ⟨hgl1, t70, a_t19_, t19_, A_t19_, c_t19_, t19_2, t19_3, t19_4, rfl, hB4, ha1, hO1, hi1, dj6, H⟩
        have hO2 := hO1.base (InP.toGe hi1 (apC (Ge.le (Ge.box hl2) (size_le gr1)) (apC k9.ge' apN)) (size_le gr6))
        have gr7 := gr_modL gr6 hgl1 (apC (Ge.le (Ge.box hl2) (size_le gr1)) (apC k9.ge' apN))
        have k10 := k8.goL hgl1 (apC dj3.symm (apC dj5 apN))
        obtain ⟨h7, H⟩ := H
        refine WL.y rfl (Yld.add rfl rfl h7) ?_
        refine WL.y rfl (Yld.pure tab_ok rfl) ?_
        refine WL.nil (WX.then_normal ?_)
        refine WC.seq ?_
        refine WC.region ?_
        refine WL.y rfl (Yld.pure tab_ok rfl) ?_
        refine WL.y rfl (Yld.pure tab_ok rfl) ?_
        refine WL.y rfl (Yld.pure tab_ok rfl) ?_
        refine WL.call rfl rfl (blen_fn hB4 rfl rfl) ?_
        rintro _ _ ⟨rfl, rfl⟩
        refine WL.y rfl (Yld.pure tab_ok rfl) ?_
        refine WL.nil (WX.then_normal ?_)
        refine WC.cond rfl (fun b5 => ?_) (fun b5 => ?_)
        · replace H := H.1 (of_decide_eq_true b5)
          refine WC.seq ?_
          refine WC.quiet mixed (by kernel_rfl) ?_
          obtain ⟨vE1, _, hE1⟩ := GOK.get (hG.grown gr7) 7 1 hS7 rfl rfl
          refine WQ.y rfl (Yld.cell tab_ok (ErrR.cell hE1 rfl) rfl rfl) ?_
          refine WQ.y rfl (Yld.pure tab_ok rfl) ?_
          refine WQ.y rfl (Yld.pure tab_ok rfl) ?_
          refine WQ.nil (WX.then_normal ?_)
          refine WC.ret (WX.block_ret (WX.then_ret (WX.block_ret (WX.then_ret ?_))))
          exact WX.ret2 rfl rfl rfl ⟨gr7, ([] : List UInt8), vE1, (Er.e 7), rfl, hE1, H⟩
        · replace H := H.2 (of_decide_eq_false b5)
          refine WC.skip (WX.block_normal ?_)
          exact WX.roundF _ ⟨i + t70, a_t19_, t19_, A_t19_, c_t19_, t19_.length, t19_2, t19_3, t19_4, rfl, rfl, H.1, ha1, rfl, gr7, hB4, k10, hO2, dj3, dj6, (InP.dj hi1 k8.lt' (apC dj3.symm (apC dj5 apN))).symm⟩ (by repeat (first | exact Sub.nil | refine Sub.cons rfl ?_)) H.2
      · replace H := H.2 (b4)
        refine WC.exit (WX.then_exit (WX.then_exit (WX.block_same (WX.then_normal ?_))))
        refine WC.seq ?_
        refine WC.seq ?_
        refine WC.region ?_
        refine WL.y rfl (Yld.pure tab_ok rfl) ?_
        refine WL.y rfl (Yld.pure tab_ok rfl) ?_
        refine WL.y rfl (Yld.pure tab_ok rfl) ?_
        refine WL.y rfl (Yld.bload tab_ok k7 rfl rfl rfl) ?_
        refine WL.nil (WX.then_normal ?_)
        refine WC.cond rfl (fun b6 => ?_) (fun b6 => ?_)
        · replace H := H.1 (b6)
          refine WC.seq ?_
          refine WC.quiet mixed (by kernel_rfl) ?_
          obtain ⟨vE2, _, hE2⟩ := GOK.get (hG.grown gr6) 3 2 hS3 rfl rfl
          refine WQ.y rfl (Yld.cell tab_ok (ErrR.cell hE2 rfl) rfl rfl) ?_
          refine WQ.y rfl (Yld.pure tab_ok rfl) ?_
          refine WQ.y rfl (Yld.pure tab_ok rfl) ?_
          refine WQ.nil (WX.then_normal ?_)
          refine WC.ret (WX.then_ret ?_)
          exact WX.ret2 rfl rfl rfl ⟨gr6, ([] : List UInt8), vE2, (Er.e 3), rfl, hE2, H⟩
        · replace H := H.2 (b6)
          refine WC.skip (WX.then_normal ?_)
          refine WC.seq ?_
          refine WC.region ?_
          refine WL.y rfl (Yld.pure tab_ok rfl) ?_
          refine WL.y rfl (Yld.pure tab_ok rfl) ?_
          refine WL.y rfl (Yld.pure tab_ok rfl) ?_
          refine WL.call rfl rfl (bstr_fn k7 rfl rfl k9 dj4) ?_
          rintro _ w8 ⟨rfl, hB5, hgl2⟩
          have gr8 := gr_modL gr6 hgl2 (apC k9.ge' apN)
          refine WL.y rfl (Yld.pure tab_ok rfl) ?_
          refine WL.y rfl (Yld.pure tab_ok rfl) ?_
          refine WL.nil (WX.then_normal ?_)
          refine WC.ret ?_
          exact WX.ret2 rfl rfl rfl ⟨gr8, t191, .nilIface, Er.ok, rfl, (ErrR.okR (S := S) (w := w8)), H⟩
    · clear H
      rcases Bool.eq_false_or_eq_true (decide (i < (s.length : Int))) with b7 | b7
      · refine WL.gyes rfl rfl (okb b7) rfl (Yld.pure tab_ok rfl) ?_
        refine WL.gyes rfl rfl (okb b7) rfl (Yld.pure tab_ok rfl) ?_
        refine WL.gyes rfl rfl (okb b7) rfl (Yld.pure tab_ok rfl) ?_
        refine WL.gyes rfl rfl (okb b7) rfl (Yld.bload tab_ok k7 rfl rfl rfl) ?_
        refine WL.gyes rfl rfl (okb b7) rfl (Yld.pure tab_ok rfl) ?_
        refine WL.y rfl (Yld.pickT (okb b7) rfl) ?_
        exact WL.weaken (by repeat (first | exact Sub.nil | refine Sub.cons rfl ?_)) (hQ _ _ ⟨!t196, rfl, by rw [b7] <;> rfl, rfl⟩)
      · refine WL.gno rfl rfl (okb b7) rfl ?_
        refine WL.gno rfl rfl (okb b7) rfl ?_
        refine WL.gno rfl rfl (okb b7) rfl ?_
        refine WL.gno rfl rfl (okb b7) rfl ?_
        refine WL.gno rfl rfl (okb b7) rfl ?_
        refine WL.y rfl (Yld.pickF (okb b7) rfl) ?_
        exact WL.weaken (by repeat (first | exact Sub.nil | refine Sub.cons rfl ?_)) (hQ _ _ ⟨false, rfl, by rw [b7] <;> rfl, rfl⟩)

end Go.Proofs.YtjinkmipkfjblaaDoor

 /- The bytes of a string, written. -/
namespace Go.Proofs.YtjinkmipkfjblaaDoor
open Go Go.RowKit
/-- a row of one's own that a string's bytes were laid into -/
def OwnM (f : UInt8 → Value) (w : World) (B : Nat) (e : TypeId) (A : Option Addr) (c : Nat) (xs : List UInt8) : Prop :=
  ∃ g cur, A = some ⟨g, 0, none⟩ ∧ B ≤ g ∧ w.heap[g]? = some (.cells cur e (cur.size, cur.size + 1)) ∧ cur.size = c ∧ xs.length ≤ c ∧ c ≤ maxLen ∧ cur.toList.take xs.length = xs.map f
section
variable {f : UInt8 → Value} {w w' : World} {B B' c : Nat} {e : TypeId} {A : Option Addr} {xs : List UInt8} {row : Option Nat} {ps : List (Option Nat)}
theorem OwnM.rd (h : OwnM f w B e A c xs) : Rd f w A c xs := by
  obtain ⟨g, cur, rfl, hB, hg, hc, hl, hm, ht⟩ := h
  refine ⟨hl, hm, fun _ => ⟨_, rfl, fun j x hj => ?_⟩⟩
  rw [Addr.add_mid]
  refine (cell_of_row _ _ _ _ _ _ hg).trans ?_
  rw [Nat.zero_add]
  have h1 := congrArg (fun l => l[j]?) ht
  have hlt : j < xs.length := (List.getElem?_eq_some_iff.1 hj).1
  simp only [List.getElem?_take, if_pos hlt, List.getElem?_map, hj, Option.map_some] at h1
  simpa using h1
theorem OwnM.lt' (h : OwnM f w B e A c xs) : Lt (blk A) w.heap.size := by
  obtain ⟨g, cur, rfl, hB, hg, _⟩ := h
  exact Lt.box (Array.getElem?_eq_some_iff.1 hg).1
theorem OwnM.ge' (h : OwnM f w B e A c xs) : Ge (blk A) B := by
  obtain ⟨g, cur, rfl, hB, hg, _⟩ := h
  exact Ge.box hB
theorem OwnM.goL (h : OwnM f w B e A c xs) (hg : GrL ps w w') (hd : AllP (Dj (blk A)) ps) : OwnM f w' B e A c xs := by
  obtain ⟨g, cur, rfl, hB, hb, r⟩ := h
  exact ⟨g, cur, rfl, hB, (hg.block g (Array.getElem?_eq_some_iff.1 hb).1 fun p hp e => hd p hp g rfl e).trans hb, r⟩
theorem OwnM.go (h : OwnM f w B e A c xs) (hg : w.grownBy w' row) (hd : Dj (blk A) row) : OwnM f w' B e A c xs := h.goL (GrL.of1 hg) (apC hd apN)
theorem OwnM.grown (h : OwnM f w B e A c xs) (hg : w.grownBy w' none) : OwnM f w' B e A c xs := h.go hg Dj.nr
theorem OwnM.base (h : OwnM f w B e A c xs) (hB : ∀ g, blk A = some g → B' ≤ g) : OwnM f w B' e A c xs := by
  obtain ⟨g, cur, rfl, _, r⟩ := h
  exact ⟨g, cur, rfl, hB g rfl, r⟩
theorem OwnM.eqv (hw : Eqv w w') (h : OwnM f w B e A c xs) : OwnM f w' B e A c xs := h.grown (gr_eqv (gr_refl w none) hw)
end
section
variable {P : Program} {T : Tab} {N : Nat} {ops : Array Oper} {Q : Post} {L : Slots} {w : World} {rest : List Oper} {d : Nat} {ty : TypeId} {pos : String} {af : Array Edge} {t : TypeId} {x y : Operand} {A : Option Addr} {c B : Nat} {xs : List UInt8} {e : TypeId}
theorem Eff.s2bM {p : List UInt8} {u : Unit} {s b : TypeId} (hT : T.Ok P) (hs : nk T.str s = some u) (hb : nk T.sl b = some (e, 1)) (he : nk T.int e = some .u8) (hx : opv L x = some (.string ⟨⟨p⟩⟩)) (hm : p.length ≤ maxLen) (hB : B ≤ w.heap.size) :
    Eff P N w ⟨some d, .convert s b x, ty, pos, af, none⟩ L (fun v w' => ∃ A' c', v = .slice A' p.length c' ∧ OwnM vb w' B e A' c' p ∧ w.grownBy w' none ∧ Ge (blk A') w.heap.size) := fun a w1 hw ha => by
    obtain ⟨hu, _⟩ := hT.sl hb
    have hs1 : w1.heap.size = w.heap.size := by rw [hw.heap]
    have hr := run_bytes_of_string (P := P) w1 s b e ⟨⟨p⟩⟩ (hT.str hs) hu (hT.int he)
    generalize hob : Obj.cells (bytesRow (ByteArray.mk ⟨p⟩) (grownCap w1 (ByteArray.mk ⟨p⟩).size 0 e)) e ((bytesRow (ByteArray.mk ⟨p⟩) (grownCap w1 (ByteArray.mk ⟨p⟩).size 0 e)).size, (bytesRow (ByteArray.mk ⟨p⟩) (grownCap w1 (ByteArray.mk ⟨p⟩).size 0 e)).size + 1) = ob at hr
    have hgr : w1.grownBy (w1.drew.alloc ob) none := ⟨rfl, rfl, rfl, by simp, fun k hk _ => heap_alloc_old w1.drew ob hk⟩
    have hge := grownCap_ge w1 p.length 0 e
    have hsz : (bytesRow (ByteArray.mk ⟨p⟩) (grownCap w1 p.length 0 e)).size = grownCap w1 p.length 0 e := by
      unfold bytesRow
      have : (ByteArray.mk ⟨p⟩).data.size = p.length := rfl
      have h2 : (ByteArray.mk ⟨p⟩).size = p.length := rfl
      simp
      omega
    refine ⟨.slice (some ⟨w1.heap.size, 0, none⟩) p.length (grownCap w1 p.length 0 e), w1.drew.alloc ob, ?_, some ⟨w1.heap.size, 0, none⟩, grownCap w1 p.length 0 e, rfl, ⟨w1.heap.size, bytesRow (ByteArray.mk ⟨p⟩) (grownCap w1 p.length 0 e), rfl, by omega, ?_, hsz, hge, grownCap_le_maxLen w1 p.length 0 e hm, ?_⟩, eqv_gr hw hgr, fun g hg => ?_⟩
    · unfold execOp
      simp only [ha.ev hx, Sem.run_bind, hr, Result.andThen_ok, Sem.run_pure]
      rfl
    · subst hob
      exact heap_alloc_new w1.drew _
    · unfold bytesRow
      rw [Array.toList_append, List.take_left' (by simp)]
      simp [vb]
    · simp only [blk, Option.map_some, Option.some.injEq] at hg
      omega
theorem WL.s2bM {p : List UInt8} {u : Unit} {s b : TypeId} (hT : T.Ok P) (hd : Nat.blt d N = true) (hs : nk T.str s = some u) (hb : nk T.sl b = some (e, 1)) (he : nk T.int e = some .u8) (hx : opv L x = some (.string ⟨⟨p⟩⟩)) (hm : p.length ≤ maxLen) (hB : B ≤ w.heap.size)
    (hk : ∀ A' c' w', OwnM vb w' B e A' c' p → w.grownBy w' none → Ge (blk A') w.heap.size → WL P N ops Q rest ((d, .slice A' p.length c') :: L) w') :
    WL P N ops Q (⟨some d, .convert s b x, ty, pos, af, none⟩ :: rest) L w :=
  WL.put hd (Eff.s2bM hT hs hb he hx hm hB) (fun _ w' ⟨A', c', hv, h1, h2, h3⟩ => by subst hv; exact hk A' c' w' h1 h2 h3)
theorem Ef0.ostoreM {j : Nat} {v : UInt8} (h1 : sz1 P t = true) (hO : OwnM vb w B e A c xs) (hx : opv L x = some (.pointer (A.map (·.add j)))) (hy : opv L y = some (vb v)) (hj : j < xs.length) :
    Ef0 P N w ⟨none, .store t x y, ty, pos, af, none⟩ L (fun w' => OwnM vb w' B e A c (xs.set j v) ∧ w.grownBy w' (blk A)) := fun a w1 hw ha => by
  obtain ⟨g, cur, rfl, hB, hg, hc, hl, hm, ht⟩ := OwnM.eqv hw hO
  have hx' := ha.ev hx
  simp only [Option.map_some, Addr.add_mid, Nat.zero_add] at hx'
  unfold sz1 at h1
  split at h1
  · rename_i i hi
    have hsz : i.size = 1 := Nat.eq_of_beq_eq_true h1
    have hjc : j < cur.size := by omega
    have hfr : w1.frozen? ⟨g, j, none⟩ = false := by
      simp [World.frozen?, hg]
      omega
    have hcl : w1.cell? ⟨g, j, none⟩ = some cur[j] := by
      rw [cell_of_row w1 g j cur e _ hg]
      simp [hjc]
    have hset : (w1.setCell ⟨g, j, none⟩ (vb v)).heap[g]? = some (.cells (cur.setIfInBounds j (vb v)) e (cur.size, cur.size + 1)) := by
      unfold World.setCell
      simp [Array.getElem?_modify, hg]
    refine ⟨w1.setCell ⟨g, j, none⟩ (vb v), ?_, ⟨g, cur.setIfInBounds j (vb v), rfl, hB, by rw [hset]; simp, by simpa using hc, by simpa using hl, hm, ?_⟩, eqv_gr hw (gr_set w1 ⟨g, j, none⟩ (vb v))⟩
    · unfold execOp
      simp only [hx', ha.ev hy, Sem.run_bind]
      have hst : (Instr.storeAt t (.pointer (some ⟨g, j, none⟩)) (vb v)).run P w1 = .ok () (w1.setCell ⟨g, j, none⟩ (vb v)) := by
        have hcs : (vb v).cells = #[vb v] := rfl
        simp only [Instr.storeAt, Instr.sureAddr, Sem.run_bind, Sem.run_pure, Result.andThen_ok, storeVar, hcs, sizeOf, typeInfo, program, Sem.run, hi, hsz]
        simp only [List.size_toArray, List.length_cons, List.length_nil, ne_eq, not_true_eq_false, if_false, storeCells, Sem.run_bind, store, Addr.add_mid, Nat.add_zero, Sem.run_pure]
        unfold vb
        simp [Sem.run, hcl, hfr]
      simp only [hst, Result.andThen_ok, Sem.run_pure]
    · simp only [List.length_set, List.map_set, ← ht, Array.toList_setIfInBounds, List.take_set]
  · cases h1
theorem WL.ostoreM {j : Nat} {v : UInt8} (h1 : sz1 P t = true) (hO : OwnM vb w B e A c xs) (hx : opv L x = some (.pointer (A.map (·.add j)))) (hy : opv L y = some (vb v)) (hj : j < xs.length)
    (hk : ∀ w', OwnM vb w' B e A c (xs.set j v) → w.grownBy w' (blk A) → WL P N ops Q rest L w') : WL P N ops Q (⟨none, .store t x y, ty, pos, af, none⟩ :: rest) L w := WL.eff (Ef0.ostoreM h1 hO hx hy hj) fun w' ⟨h1, h2⟩ => hk w' h1 h2
end
end Go.Proofs.YtjinkmipkfjblaaDoor


 