/- Errors, as plain data: none, one of api's variables, or one of them with a place. -/
import Derived.Test.YtfibkajdahaggaaDoorVg
import Derived.Test.YtfibkajdahaggaaDoorEq
namespace Go.Proofs.YtfibkajdahaggaaDoor
open Go Go.RowKit
inductive Er where
  | ok
  | e (n : Nat)
  | at_ (pos : Int) (n : Nat)
  deriving DecidableEq, Inhabited
/-- the variables of api, by their numbers -/
def eglob : List (Option Nat) := [some 2, some 3, some 4, some 5, some 6, some 7, some 8, some 1, some 9, some 10, some 11, some 12, some 0, some 13, some 14, some 15, some 16]
def etext : List (List UInt8) := [[108, 101, 120], [112, 97, 114, 115, 101], [114, 101, 115, 111, 108, 118, 101], [100, 121, 110, 97, 109, 105, 99], [99, 121, 99, 108, 101], [118, 105, 115, 105, 98, 105, 108, 105, 116, 121], [97, 110, 97, 108, 121, 115, 105, 115], [108, 105, 109, 105, 116], [109, 105, 115, 115, 105, 110, 103], [116, 111, 111, 32, 109, 97, 110, 121], [110, 111, 32, 115, 117, 99, 104, 32, 107, 105, 110, 100], [110, 111, 32, 112, 97, 116, 104], [110, 111, 116, 32, 116, 104, 101, 32, 115, 104, 97, 112, 101, 32, 116, 104, 97, 116, 32, 105, 116, 32, 104, 97, 115, 32, 116, 111, 32, 104, 97, 118, 101], [105, 116, 32, 101, 110, 100, 115, 32, 116, 111, 111, 32, 101, 97, 114, 108, 121], [97, 32, 110, 117, 109, 98, 101, 114, 32, 111, 117, 116, 32, 111, 102, 32, 105, 116, 115, 32, 114, 97, 110, 103, 101], [116, 104, 101, 32, 112, 111, 119, 101, 114, 32, 104, 97, 115, 32, 103, 111, 110, 101], [105, 116, 32, 104, 97, 115, 32, 102, 97, 105, 108, 101, 100]]
/-- v is the value of api's variable n -/
structure ErV (w : World) (v : Value) (n : Nat) : Prop where
  ex : ∃ g t a, eglob[n]? = some (some g) ∧ etext[n]? = some t ∧ w.cell? ⟨g, 0, none⟩ = some v ∧ v = .iface 134 (.pointer (some a)) ∧ w.cell? a = some (vs t)
def ErrR (S : List Nat) (w : World) (v : Value) : Er → Prop
  | .ok => v = .nilIface
  | .e n => ErV w v n ∧ n ∈ S
  | .at_ pos n => ∃ b u, v = .iface 125 (.pointer (some ⟨b, 0, none⟩)) ∧ Bl w b 129 [.int .i64 pos, u] ∧ ErV w u n ∧ n ∈ S
/-- the variables hold what they were laid with -/
def GOK (S : List Nat) (w : World) : Prop := ∀ n ∈ S, ∃ v, ErV w v n
variable {S : List Nat}
theorem ErV.grown {w w' : World} {v : Value} {n : Nat} (h : ErV w v n) (hg : w.grownBy w' none) : ErV w' v n := by
  obtain ⟨g, t, a, h1, h2, h3, h4, h5⟩ := h
  exact ⟨g, t, a, h1, h2, cell_g0 h3 hg, h4, cell_g0 h5 hg⟩
theorem ErV.uniq {w : World} {u v : Value} {n : Nat} (h : ErV w u n) (k : ErV w v n) : u = v := by
  obtain ⟨g, t, a, h1, h2, h3, h4, h5⟩ := h
  obtain ⟨g', t', a', k1, k2, k3, k4, k5⟩ := k
  have e1 := Option.some.inj (Option.some.inj (h1.symm.trans k1))
  subst e1
  exact Option.some.inj (h3.symm.trans k3)
theorem ErV.lt {w : World} {v : Value} {n : Nat} (h : ErV w v n) : n < 17 := by
  obtain ⟨g, t, a, h1, _⟩ := h
  have := (List.getElem?_eq_some_iff.1 h1).1
  simpa [eglob] using this
/-- two of the variables hold unlike values -/
theorem ErV.inj {w : World} {v : Value} {n m : Nat} (h : ErV w v n) (k : ErV w v m) : n = m := by
  have hn := h.lt
  have hm := k.lt
  obtain ⟨g, t, a, h1, h2, h3, h4, h5⟩ := h
  obtain ⟨g', t', a', k1, k2, k3, k4, k5⟩ := k
  have e := h4.symm.trans k4
  simp only [Value.iface.injEq, true_and, Value.pointer.injEq, Option.some.injEq] at e
  subst e
  have e2 := Option.some.inj (h5.symm.trans k5)
  simp only [vs, Value.string.injEq, ByteArray.mk.injEq, Array.mk.injEq] at e2
  subst e2
  have key : (List.range 17).all (fun i => (List.range 17).all fun j => !(decide (etext[i]? = etext[j]?)) || decide (i = j)) = true := by decide +kernel
  have k6 := List.all_eq_true.1 (List.all_eq_true.1 key n (by simpa using hn)) m (by simpa using hm)
  rw [h2, k2] at k6
  simpa using k6
theorem ErV.back {w w' : World} {v : Value} {n : Nat} (h : ErV w' v n) (hS : n ∈ S) (hG : GOK S w) (hg : w.grownBy w' none) : ErV w v n := by
  obtain ⟨u, hu⟩ := hG n hS
  rw [ErV.uniq h (hu.grown hg)]
  exact hu
theorem ErV.iface {w : World} {v : Value} {n : Nat} (h : ErV w v n) : ∃ a, v = .iface 134 (.pointer (some a)) := by
  obtain ⟨g, t, a, h1, h2, h3, h4, h5⟩ := h
  exact ⟨a, h4⟩
theorem ErrR.grown {w w' : World} {v : Value} {e : Er} (h : ErrR S w v e) (hg : w.grownBy w' none) : ErrR S w' v e := by
  cases e with
  | ok => exact h
  | e n => exact ⟨ErV.grown h.1 hg, h.2⟩
  | at_ pos n =>
    obtain ⟨b, u, h1, h2, h3, h4⟩ := h
    exact ⟨b, u, h1, h2.g0 hg, h3.grown hg, h4⟩
theorem ErrR.eqv {w w' : World} {v : Value} {e : Er} (h : ErrR S w v e) (hg : Eqv w w') : ErrR S w' v e := h.grown (gr_eqv (gr_refl w none) hg)
/-- behind a write to a block of another kind -/
theorem ErrR.go {w0 w w' : World} {v : Value} {e : Er} {g : Nat} {t : TypeId} {us : List Value} (h : ErrR S w v e) (hG : GOK S w0) (h0 : w0.grownBy w none) (hg : w.grownBy w' (some g)) (h1 : w0.grownBy w' none) (hB : Bl w g t us) (ht : Nat.beq t 129 = false) : ErrR S w' v e := by
  cases e with
  | ok => exact h
  | e n => exact ⟨(ErV.back h.1 h.2 hG h0).grown h1, h.2⟩
  | at_ pos n =>
    obtain ⟨b, u, k1, k2, k3, k4⟩ := h
    refine ⟨b, u, k1, k2.keep hg (fun e => ?_), (ErV.back k3 k4 hG h0).grown h1, k4⟩
    injection e with e
    subst e
    exact Bl.ne k2 hB (fun e => Nat.ne_of_beq_eq_false ht e.symm) rfl
theorem ErrR.one {w : World} {v : Value} {e : Er} (h : ErrR S w v e) : v.oneCell' = true := by
  cases e with
  | ok => rw [show v = .nilIface from h]; rfl
  | e n => obtain ⟨a, rfl⟩ := ErV.iface h.1; rfl
  | at_ pos n => obtain ⟨b, u, rfl, _⟩ := h; rfl
theorem ErrR.okR {w : World} : ErrR S w .nilIface .ok := rfl
theorem GOK.grown {w w' : World} (h : GOK S w) (hg : w.grownBy w' none) : GOK S w' := fun n hn => by
  obtain ⟨v, hv⟩ := h n hn
  exact ⟨v, hv.grown hg⟩
section
variable {P : Program} {N : Nat} {L : Slots} {w w0 : World} {ty : TypeId} {pos : String} {af : Array Edge} {dd : Option Tmp} {t t' : TypeId} {x : Operand}
theorem Yld.inenil0 {ms : Array (String × TypeId)} {y : Value} (h : P.underlying t = some (.interface ms)) (hx : opv L x = some .nilIface) (hy : y = .nilIface) : Yld P N w ⟨dd, .binOp .neq t x (.const y) t', ty, pos, af, none⟩ L (.bool false) := fun a w1 _ ha => by
  subst hy
  refine exec_bin (ha.ev hx) rfl ?_ ?_
  · unfold eqGuard; cases x <;> rfl
  have h : (Op.equal t .nilIface .nilIface).run P w1 = .ok true w1 := run_equal_of fun d => by
    simp [Op.equalIn, run_underlying h]
  have ec : a.eval (.const .nilIface) = .nilIface := rfl
  simp [binOp, h, ec]
theorem Yld.inenil1 {ms : Array (String × TypeId)} {y u : Value} {tx : TypeId} (h : P.underlying t = some (.interface ms)) (hx : opv L x = some (.iface tx u)) (hy : y = .nilIface) : Yld P N w ⟨dd, .binOp .neq t x (.const y) t', ty, pos, af, none⟩ L (.bool true) := fun a w1 _ ha => by
  subst hy
  refine exec_bin (ha.ev hx) rfl ?_ ?_
  · unfold eqGuard; cases x <;> rfl
  have h : (Op.equal t (.iface tx u) .nilIface).run P w1 = .ok false w1 := run_equal_of fun d => by
    simp [Op.equalIn, run_underlying h]
  have ec : a.eval (.const .nilIface) = .nilIface := rfl
  simp [binOp, h, ec]
theorem Yld.erreql {ms : Array (String × TypeId)} {v : Value} {e : Er} (h : P.underlying t = some (.interface ms)) (hE : ErrR S w0 v e) (hx : opv L x = some v) : Yld P N w ⟨dd, .binOp .eql t x (.const .nilIface) t', ty, pos, af, none⟩ L (.bool (decide (e = .ok))) := by
  cases e with
  | ok => rw [show v = .nilIface from hE] at hx; exact Yld.ieqnil0 h hx rfl
  | e n => obtain ⟨a, rfl⟩ := ErV.iface hE.1; exact Yld.ieqnil1 h hx rfl
  | at_ p n => obtain ⟨b, u, rfl, _⟩ := hE; exact Yld.ieqnil1 h hx rfl
theorem Yld.errneq {ms : Array (String × TypeId)} {v : Value} {e : Er} (h : P.underlying t = some (.interface ms)) (hE : ErrR S w0 v e) (hx : opv L x = some v) : Yld P N w ⟨dd, .binOp .neq t x (.const .nilIface) t', ty, pos, af, none⟩ L (.bool (!decide (e = .ok))) := by
  cases e with
  | ok => rw [show v = .nilIface from hE] at hx; exact Yld.inenil0 h hx rfl
  | e n => obtain ⟨a, rfl⟩ := ErV.iface hE.1; exact Yld.inenil1 h hx rfl
  | at_ p n => obtain ⟨b, u, rfl, _⟩ := hE; exact Yld.inenil1 h hx rfl
end
/-- the variable n, read -/
theorem ErV.read {w : World} {v u : Value} {n g : Nat} (h : ErV w v n) (hg : eglob[n]? = some (some g)) (hu : w.cell? ⟨g, 0, none⟩ = some u) : u = v := by
  obtain ⟨g', t, a, h1, h2, h3, h4, h5⟩ := h
  have e1 := Option.some.inj (Option.some.inj (h1.symm.trans hg))
  subst e1
  exact Option.some.inj (hu.symm.trans h3)
theorem GOK.get {w : World} (h : GOK S w) (n g : Nat) (hS : n ∈ S) (hg : eglob[n]? = some (some g)) : ∃ v, w.cell? ⟨g, 0, none⟩ = some v ∧ ErrR S w v (.e n) := by
  obtain ⟨v, hv⟩ := h n hS
  obtain ⟨g', t, a, h1, h2, h3, h4, h5⟩ := id hv
  have e1 := Option.some.inj (Option.some.inj (h1.symm.trans hg))
  subst e1
  exact ⟨v, h3, hv, hS⟩
theorem ErrR.cell {w : World} {v : Value} {n g : Nat} (h : ErrR S w v (.e n)) (hg : eglob[n]? = some (some g)) : w.cell? ⟨g, 0, none⟩ = some v := by
  obtain ⟨⟨g', t, a, h1, h2, h3, h4, h5⟩, _⟩ := h
  have e1 := Option.some.inj (Option.some.inj (h1.symm.trans hg))
  subst e1
  exact h3
theorem noC {u : Value} {us : List Value} (h : ∀ x, u ≠ vd x) (t : ∀ v ∈ us, ∀ x, v ≠ vd x) : ∀ v ∈ u :: us, ∀ x, v ≠ vd x := fun v hv => by
  rcases List.mem_cons.1 hv with rfl | hv
  · exact h
  · exact t v hv
theorem noN : ∀ v ∈ ([] : List Value), ∀ x, v ≠ vd x := fun _ h => by cases h
end Go.Proofs.YtfibkajdahaggaaDoor
