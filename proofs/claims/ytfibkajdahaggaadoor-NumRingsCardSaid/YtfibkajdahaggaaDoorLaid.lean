/- What a row's listed variables give: the errors of api, each at its place. -/
import Derived.Test.YtfibkajdahaggaaDoorRow1
import Derived.Test.YtfibkajdahaggaaDoorErr
namespace Go.Proofs.YtfibkajdahaggaaDoor
open Go Go.RowKit Go.WideShapes Go.ChangeShapes Go.ChangeAt
def ename : List String := ["smithy/api.ErrLex", "smithy/api.ErrParse", "smithy/api.ErrResolve", "smithy/api.ErrDynamic", "smithy/api.ErrCycle", "smithy/api.ErrVisibility", "smithy/api.ErrAnalysis", "smithy/api.ErrLimit", "smithy/api.ErrMissing", "smithy/api.ErrMany", "smithy/api.ErrKind", "smithy/api.ErrPath", "smithy/api.ErrShape", "smithy/api.ErrEnd", "smithy/api.ErrRange", "smithy/api.ErrDown", "smithy/api.ErrFail"]
theorem cellsEs : Tryd.prog.cellsOf 149 = 1 := by kernel_rfl
theorem cellsStr : Tryd.prog.cellsOf 9 = 1 := by kernel_rfl
theorem starEs : "*" ++ "errors.errorString" = "*errors.errorString" := by decide
theorem rowEs (u : TypeId) (h : Tryd.prog.typeName? 3 u = some "*errors.errorString") : u = 134 :=
  typeName_ptr_named (nm := "errors.errorString") (by rw [starEs]; kernel_rfl) (by kernel_rfl) (by decide) u (by rw [starEs]; exact h)
set_option maxRecDepth 100000 in
theorem erv_of_vars {W : World} : ∀ {l : List (String × DataW Unit)} {ps : List MemPlace}, DataW.LaidVars Tryd.prog W l ps → (∀ b off, MemPlace.cell b off ∈ ps → ∀ u v, W.cell? ⟨b, off, none⟩ = some (.iface u v) → Value.okWide Tryd.prog W .any 0 u v) →
    ∀ nm t g, (nm, DataW.iface "*errors.errorString" (.ptr (.agg [.lit (.string t)]))) ∈ l → Tryd.prog.globalNamed nm = some g → (Tryd.prog.globals[g]?).map (·.type) = some 34 → ∃ a, W.cell? ⟨g, 0, none⟩ = some (.iface 134 (.pointer (some a))) ∧ W.cell? a = some (vs t)
  | [], _, _, _, _, _, _, h, _, _ => by cases h
  | (n0, d0) :: r, ps, hL, hok, nm, t, g, h, hg, ht => by
    obtain ⟨g0, t0, cs0, f0, p0, q0, hg0, ht0, hv0, hd0, hr, rfl⟩ := hL
    rcases List.mem_cons.1 h with h | h
    · simp only [Prod.mk.injEq] at h
      obtain ⟨rfl, rfl⟩ := h
      obtain rfl := Option.some.inj (hg.symm.trans hg0)
      obtain rfl := Option.some.inj (ht.symm.trans ht0)
      obtain ⟨l0⟩ := cs0
      have ok0 : ∀ u v, l0 = [.iface u v] → Value.okWide Tryd.prog W .any 0 u v := fun u v e => by
        subst e
        exact hok g 0 (by simp [MemPlace.row]) u v (by simpa using World.var?_cell hg0 hv0 0)
      obtain ⟨a0, s0, rfl, hc0, hs0, hz0, _⟩ := errorString_of_trod Tryd.underlying34 rowEs Tryd.underlying134 Tryd.underlying149 rfl rfl Tryd.underlying9 cellsEs cellsStr hd0 ok0
      refine ⟨a0, by simpa using World.var?_cell hg0 hv0 0, ?_⟩
      rw [hc0, ← hs0]
      rfl
    · exact erv_of_vars hr (fun b off hb => hok b off (by simp [hb])) nm t g h hg ht
def errText? : DataW Unit → Option (List UInt8)
  | .iface n (.ptr (.agg [.lit (.string t)])) => if n == "*errors.errorString" then some t else none
  | _ => none
theorem errText_spec {d : DataW Unit} {t : List UInt8} (h : errText? d = some t) : d = .iface "*errors.errorString" (.ptr (.agg [.lit (.string t)])) := by
  unfold errText? at h
  split at h
  · rename_i n t'
    split at h
    · rename_i hn
      have := eq_of_beq hn
      subst this
      cases h
      rfl
    · cases h
  · cases h
def gokB (P : Program) (S : List Nat) (l : List (String × DataW Unit)) : Bool := S.all fun n => match eglob[n]?, etext[n]?, ename[n]? with
  | some (some g), some t, some nm => decide (P.globalNamed nm = some g) && (decide ((P.globals[g]?).map (·.type) = some 34) && l.any fun x => decide (x.1 = nm) && decide (errText? x.2 = some t))
  | _, _, _ => false
set_option maxRecDepth 100000 in
theorem gok_of_laid {S : List Nat} {W : World} {l : List (String × DataW Unit)} (h : laidMetH Tryd.prog l W) (hp : (l.all fun x => x.2.handleName?.isNone) = true) (hB : gokB Tryd.prog S l = true) : GOK S W := fun n hn => by
  rw [MakeChecks.laidMetH_plain _ _ _ hp] at h
  obtain ⟨ps, hL, _, hrows⟩ := h
  have hb := List.all_eq_true.1 hB n hn
  split at hb
  · rename_i g t nm h1 h2 h3
    simp only [Bool.and_eq_true, decide_eq_true_eq, List.any_eq_true] at hb
    obtain ⟨hg, ht, ⟨n', d'⟩, hm, he1, he2⟩ := hb
    simp only at he1 he2
    subst he1
    rw [errText_spec he2] at hm
    obtain ⟨a, k1, k2⟩ := erv_of_vars hL (fun b off hb => (hrows b off hb).2) _ t g hm hg ht
    exact ⟨_, g, t, a, h1, h2, k1, rfl, k2⟩
  · cases hb
end Go.Proofs.YtfibkajdahaggaaDoor
