/- Arguments of bytes and of numbers, opened as the walks take them; what a row's listed error variable gives. -/
import Derived.Test.YtfibkajdahaggaaDoorRow0
import Derived.LaidLaws
import Derived.LaidMore
import Derived.MakeChecks
namespace Go.Proofs.YtfibkajdahaggaaDoor
open Go Go.RowKit Go.WideShapes Go.ChangeShapes Go.ChangeAt
theorem open_rdi {H : Type} {enc : TypeId × Value → H} {P : Program} {W : World} {base : Nat} {t e : TypeId} {v : Value} {d : DataW H} {p : List MemPlace} (ht : P.underlying t = some (.slice e)) (he : P.underlying e = some (.int .i64)) (hc : P.cellsOf e = 1)
    (hval : Value.okWide P W .any base t v) (h : DataW.Trod enc P W 0 (fun _ => true) true t v d p) : ∃ A c l, v = .slice A l.length c ∧ Rd vi W A c l ∧ (∀ x ∈ l, (Lit.int .i64 x).wf = true) := by
  obtain ⟨a0, len, cap, rfl⟩ := okWide_slice ht hval
  obtain ⟨fuel, hf⟩ := h
  rcases open_ints ht he hc hf with ⟨hcs, hx⟩ | ⟨a, len', cap', ss, hcs, _, hl, hm, hz, hx, hcell, hws⟩
  · simp [Value.cells] at hcs
    obtain ⟨rfl, rfl, rfl⟩ := hcs
    exact ⟨none, 0, [], rfl, Rd.nil _ _ (by simp [maxLen]), by simp⟩
  · simp [Value.cells] at hcs
    obtain ⟨rfl, rfl, rfl⟩ := hcs
    simp only [if_true] at hz
    have hlen : (ss.take len).length = len := by rw [List.length_take]; omega
    refine ⟨some a, cap, ss.take len, by rw [hlen], ⟨by rw [hlen]; exact hl, hm, fun _ => ⟨a, rfl, fun j x hj => ?_⟩⟩, fun x hx => hws x (List.mem_of_mem_take hx)⟩
    rw [List.getElem?_take] at hj
    split at hj
    · have hjs : j < ss.length := by omega
      have h1 := hcell j hjs
      rw [List.getElem?_eq_getElem hjs] at hj
      have hg : ss.getD j 0 = ss[j] := by rw [List.getD_eq_getElem?_getD, List.getElem?_eq_getElem hjs]; rfl
      rw [h1, hg, Option.some.inj hj]
      rfl
    · cases hj
theorem open_rdb {H : Type} {enc : TypeId × Value → H} {P : Program} {W : World} {base : Nat} {t e : TypeId} {v : Value} {d : DataW H} {p : List MemPlace} (ht : P.underlying t = some (.slice e)) (he : P.underlying e = some (.int .u8)) (hc : P.cellsOf e = 1)
    (hval : Value.okWide P W .any base t v) (h : DataW.Trod enc P W 0 (fun _ => true) true t v d p) : ∃ A c l, v = .slice A l.length c ∧ Rd vb W A c l := by
  obtain ⟨a0, len, cap, rfl⟩ := okWide_slice ht hval
  obtain ⟨fuel, hf⟩ := h
  rcases open_ints ht he hc hf with ⟨hcs, hx⟩ | ⟨a, len', cap', ss, hcs, _, hl, hm, hz, hx, hcell, hws⟩
  · simp [Value.cells] at hcs
    obtain ⟨rfl, rfl, rfl⟩ := hcs
    exact ⟨none, 0, [], rfl, Rd.nil _ _ (by simp [maxLen])⟩
  · simp [Value.cells] at hcs
    obtain ⟨rfl, rfl, rfl⟩ := hcs
    simp only [if_true] at hz
    have hlen : ((ss.take len).map fun z => UInt8.ofNat z.toNat).length = len := by rw [List.length_map, List.length_take]; omega
    refine ⟨some a, cap, (ss.take len).map fun z => UInt8.ofNat z.toNat, by rw [hlen], ⟨by rw [hlen]; exact hl, hm, fun _ => ⟨a, rfl, fun j x hj => ?_⟩⟩⟩
    rw [List.getElem?_map, List.getElem?_take] at hj
    split at hj
    · have hjs : j < ss.length := by omega
      have h1 := hcell j hjs
      rw [List.getElem?_eq_getElem hjs] at hj
      have hg : ss.getD j 0 = ss[j] := by rw [List.getD_eq_getElem?_getD, List.getElem?_eq_getElem hjs]; rfl
      have hw := hws ss[j] (List.getElem_mem hjs)
      rw [h1, hg, ← Option.some.inj hj]
      have hz : 0 ≤ ss[j] ∧ ss[j] ≤ 255 := by
        simp only [Lit.wf, Bool.and_eq_true, decide_eq_true_eq] at hw
        exact hw
      have e : ((UInt8.ofNat ss[j].toNat).toNat : Int) = ss[j] := by
        rw [UInt8.toNat_ofNat']
        omega
      show some (Value.int .u8 ss[j]) = some (.int .u8 ((UInt8.ofNat ss[j].toNat).toNat : Int))
      rw [e]
    · cases hj
/-- the first of the listed variables holds an error -/
theorem cell_of_laid {P : Program} {W : World} {nm : String} {ty : String} {d : DataW Unit} {rest : List (String × DataW Unit)} {g ti : Nat} {ms : Array (String × TypeId)} (hg : P.globalNamed nm = some g) (ht : (P.globals[g]?).map (·.type) = some ti) (hi : P.underlying ti = some (.interface ms))
    (hp : (((nm, DataW.iface ty d) :: rest).all fun x => x.2.handleName?.isNone) = true) (h : laidMetH P ((nm, .iface ty d) :: rest) W) : ∃ u v, W.cell? ⟨g, 0, none⟩ = some (.iface u v) := by
  rw [MakeChecks.laidMetH_plain _ _ _ hp] at h
  obtain ⟨ps, ⟨g0, t0, cs0, f0, p0, q0, hg0, ht0, hv0, hd0, _⟩, _⟩ := h
  obtain rfl := Option.some.inj (hg.symm.trans hg0)
  obtain rfl := Option.some.inj (ht.symm.trans ht0)
  obtain ⟨f1, u, v, hcs, _⟩ := iface_of_trod hi hd0
  have := World.var?_cell hg0 hv0 0
  obtain ⟨l0⟩ := cs0
  simp only at hcs
  subst hcs
  exact ⟨u, v, by simpa using this⟩
end Go.Proofs.YtfibkajdahaggaaDoor
