/- From a walked contract to a row: what a law that returns true, and turns nothing old, has to show at its end. Arguments are opened as the walks take them. -/
import Derived.Test.YtfibkajdahaggaaDoorTab
import Derived.ProofKit
import Derived.SliceStrings
import Derived.WideKeyArgs
namespace Go.Proofs.YtfibkajdahaggaaDoor
open Go Go.RowKit Go.WideShapes Go.ChangeShapes Go.ChangeAt

/-- parameters whose readings stay where nothing old turns -/
def rowsOk (P : Program) (ts : List TypeId) : Bool := ts.all fun t => P.readableRec t && Nat.blt t P.types.size
theorem trodAll_stays {H : Type} {enc : TypeId × Value → H} {P : Program} (hl : laidOutB P = true) {W W' : World} {sp : Nat → Bool} :
    ∀ {ts : List TypeId} {vs : List Value} {ds : List (DataW H)} {ps : List MemPlace}, rowsOk P ts = true → DataW.TrodAll enc P W 0 (fun _ => true) true ts vs ds ps → (∀ p ∈ ps, W.sameAt W' p) → (∀ p ∈ ps, sp p.block = true) → DataW.TrodAll enc P W' 0 sp true ts vs ds ps
  | [], [], [], _, _, h, _, _ => h
  | [], [], _ :: _, _, _, h, _, _ => h.elim
  | [], _ :: _, _, _, _, h, _, _ => h.elim
  | _ :: _, [], _, _, _, h, _, _ => h.elim
  | _ :: _, _ :: _, [], _, _, h, _, _ => h.elim
  | t :: ts, v :: vs, d :: ds, ps, hr, h, hs, hsp => by
    obtain ⟨p, q, h1, h2, rfl⟩ := h
    simp only [rowsOk, List.all_cons, Bool.and_eq_true] at hr
    refine ⟨p, q, WideElems.Trod_stays hl hr.1.1 (Nat.blt_eq.mp hr.1.2) h1 (fun x hx => hs x (by simp [hx])) (fun x hx => hsp x (by simp [hx])), trodAll_stays hl (by simpa [rowsOk] using hr.2) h2 (fun x hx => hs x (by simp [hx])) (fun x hx => hsp x (by simp [hx])), rfl⟩
theorem below_of_gr {W W' : World} (h : W.grownBy W' none) : Below W.heap.size W W' := ⟨h.os, h.tape, h.output, h.size, fun k hk => h.block k hk (by simp)⟩
/-- THE END: true, and nothing old has turned -/
theorem post_true {H : Type} {enc : TypeId × Value → H} {P : Program} {f : Func} {s : ChangeSpec} {apart fresh handsOn again : Bool} {W W' : World} {args : Array Value} {ds gs : List (DataW H)} {before : List MemPlace} {bt : TypeId}
    (hl : laidOutB P = true) (hr : rowsOk P f.params.toList = true) (hW : DataW.Whole enc P f.params.toList s.vars apart W args.toList ds gs before) (hv : s.vars = [])
    (hres : (s.fn H (ds ++ gs)).results = [.lit (.bool true)]) (hargs : (s.fn H (ds ++ gs)).args = ds) (hvars : (s.fn H (ds ++ gs)).vars = []) (hrt : f.resultTypes = #[bt]) (hbt : P.underlying bt = some .bool)
    (hg : W.grownBy W' none) : s.post enc P f apart fresh handsOn again W args (.bool true) W' := by
  have hb := below_of_gr hg
  have hlt : ∀ p ∈ before, p.block < W.heap.size := fun p hp => hW.lt p hp
  have hW0 := hW
  obtain ⟨p, q, hA, hV, rfl, hz, hn⟩ := hW
  rw [hv] at hV
  obtain ⟨rfl, rfl⟩ := trodVars_none hV
  have hR : ∀ (b : Nat) (sp : Nat → Bool) (hd : Bool), DataW.TrodAll enc P W' b sp hd f.resultTypes.toList ((Value.bool true).resultList f.resultTypes.size) (s.fn H (ds ++ [])).results [] := by
    intro b sp hd
    rw [hres, hrt]
    exact trodAll_mk1 (shut_bool hbt true)
  have hA' : ∀ sp : Nat → Bool, (∀ x ∈ p ++ [], sp x.block = true) → DataW.TrodAll enc P W' 0 sp true f.params.toList args.toList (s.fn H (ds ++ [])).args p := by
    intro sp hsp
    rw [hargs]
    exact trodAll_stays hl hr hA (fun x hx => hb.same (hlt x (by simpa using hx))) (fun x hx => hsp x (by simpa using hx))
  have hV' : ∀ sp : Nat → Bool, DataW.TrodVars enc P W' sp s.vars (s.fn H (ds ++ [])).vars [] := by
    intro sp
    rw [hv, hvars]
    rfl
  have hok : ∀ (j : Nat) (t : TypeId) (r : Value), f.resultTypes[j]? = some t → ((Value.bool true).resultList f.resultTypes.size)[j]? = some r → Value.okWide P W' .any 0 t r := by
    rw [hrt]
    exact ok_one (f := f) hrt rfl (okWide_bool_mk hbt true) |> fun h => by simpa [hrt] using h
  refine ⟨ds, [], p ++ [], [], p, [], hW0, hR _ _ _, hA' _ (fun x hx => by simpa using hlt x hx), hV' _, World.keptBut_mono (fun x hx => ⟨hx, Or.inr (by simpa using hx)⟩) (hb.frame (· ∈ p ++ [])), fun _ => ?_⟩
  refine ⟨hok, _, _, ([] ++ p) ++ [], ⟨[] ++ p, [], trodAll_append (hA' _ (fun _ _ => rfl)) (hR _ _ _), hV' _, rfl, ?_, ?_⟩, ?_⟩
  · intro b off hp
    rw [hb.frozen (hlt _ (by simpa using hp))]
    exact hz b off (by simpa using hp)
  · intro ha
    simpa using hn ha
  · intro x hx _
    simpa using hx
/-- an argument of texts -/
theorem open_rds {H : Type} {enc : TypeId × Value → H} {P : Program} {W : World} {base : Nat} {t e : TypeId} {v : Value} {d : DataW H} {p : List MemPlace} (ht : P.underlying t = some (.slice e)) (he : P.underlying e = some .string) (hc : P.cellsOf e = 1)
    (hval : Value.okWide P W .any base t v) (h : DataW.Trod enc P W 0 (fun _ => true) true t v d p) : ∃ A c l, v = .slice A l.length c ∧ Rd vs W A c l ∧ (∀ x ∈ l, x.length ≤ maxLen) := by
  obtain ⟨a0, len, cap, rfl⟩ := okWide_slice ht hval
  obtain ⟨fuel, hf⟩ := h
  rcases open_strings ht he hc hf with ⟨hcs, hx⟩ | ⟨a, len', cap', ss, hcs, _, hl, hm, hz, hx, hcell, hws⟩
  · simp [Value.cells] at hcs
    obtain ⟨rfl, rfl, rfl⟩ := hcs
    exact ⟨none, 0, [], rfl, Rd.nil _ _ (by simp [maxLen]), by simp⟩
  · simp [Value.cells] at hcs
    obtain ⟨rfl, rfl, rfl⟩ := hcs
    simp only [if_true] at hz
    have hlen : ((ss.take len).map fun s => s.data.toList).length = len := by rw [List.length_map, List.length_take]; omega
    refine ⟨some a, cap, (ss.take len).map fun s => s.data.toList, by rw [hlen], ⟨by rw [hlen]; exact hl, hm, fun _ => ⟨a, rfl, fun j x hj => ?_⟩⟩, fun x hx => ?_⟩
    · rw [List.getElem?_map, List.getElem?_take] at hj
      split at hj
      · rename_i hlt
        have hjs : j < ss.length := by omega
        have h1 := hcell j hjs
        rw [List.getElem?_eq_getElem hjs] at hj
        simp only [Option.map_some, Option.some.injEq] at hj
        have hg : ss.getD j ByteArray.empty = ss[j] := by rw [List.getD_eq_getElem?_getD, List.getElem?_eq_getElem hjs]; rfl
        rw [h1, ← hj, hg]
        rfl
      · cases hj
    · obtain ⟨s, hs, rfl⟩ := List.mem_map.mp hx
      exact hws s (List.mem_of_mem_take hs)
end Go.Proofs.YtfibkajdahaggaaDoor
