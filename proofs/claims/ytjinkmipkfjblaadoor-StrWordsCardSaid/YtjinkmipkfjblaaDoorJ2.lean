/- Texts of this claim, joined by a program: Bld, Shelf, StrA, Enc, GSa, Sent, GSb, GFo, S2b, GSt, GSr, Ord, GSl, See, StrP, StrQ. -/
import Derived.Test.YtjinkmipkfjblaaDoorJ1
import Derived.Lib.Builder
import Derived.Lib.UnsafeStr
import Derived.Laws.Externs
import Derived.Shelf.Strings.Builder1
import Derived.Shelf.Strings.Builder2
import Derived.Shelf.Strings.OnBuilder
import Derived.Shelf.Small.Bits
import Derived.Shelf.Small.Strs
import Derived.Shelf.Small.Wraps
import Derived.Shelf.Strings.BuilderF
import Derived.Shelf.Strings.BuilderK
import Derived.Shelf.Utf8.RuneCount
import Derived.Shelf.Strings.Builder2Cap
import Derived.Shelf.Strconv.Itoa0
import Derived.Shelf.Strings.Search1
import Derived.Shelf.Strings.Search2
import Derived.Shelf.Strings.Search3
import Derived.Shelf.Strings.Cut
import Derived.Shelf.Strings.Count
import Derived.Shelf.LaysM
import Derived.Shelf.Strings.Shaped
import Derived.Shelf.Strings.LastIndex
import Derived.Shelf.Strings.Prefix
import Derived.Shelf.Strings.Split
import Derived.Shelf.Strings.Replace
import Derived.Shelf.Strings.SplitShaped
import Derived.Shelf.Unicode.Decode
import Derived.Shelf.Strings.RuneCount
import Derived.Shelf.Strings.Explode
import Derived.Shelf.Bits.Mul64
import Derived.Shelf.Strings.Repeat
import Derived.Shelf.Unicode.DecodeSlow
import Derived.Shelf.Unicode.DecodeAny
import Derived.Shelf.Strings.BuilderCap
import Derived.Shelf.Slices.Turned
import Derived.Ground.PaProg
import Derived.Shelf.Path.Small
import Derived.Test.YtjinkmipkfjblaaDoorProg
import Derived.Lib.SplitLaws
import Derived.Lib.Strings
import Derived.Lib.FieldsLaws
import Derived.Lib.Repeat
/- strings.Builder, wherever it lies: its methods. -/
namespace Go.Proofs.YtjinkmipkfjblaaDoor
open Go Go.RowKit
section
variable {P : Program} {N : Nat} {L : Slots} {w : World} {ty : TypeId} {pos : String} {af : Array Edge} {dd : Option Tmp} {s t : TypeId} {x y : Operand} {e : TypeId} {us : List Value} {g off : Nat} {α : Type} {f : α → Value} {A : Option Addr} {c B : Nat} {xs : List α}
theorem shape_bl (h : Bl w g e us) : w.shape? g = some (e, us.length) := by
  unfold Bl at h
  simp [World.shape?, h]
theorem Yld.toUnsafe {T : TypeId} {j : TypeInfo} (hs : P.underlying s = some (.pointer T)) (hd : P.underlying t = some .unsafePointer) (hj : P.info? T = some j) (hz : j.size ≠ 0) (hB : Bl w g e us) (ho : off < us.length) (hx : opv L x = some (.pointer (some ⟨g, off, none⟩))) :
    Yld P N w ⟨dd, .convert s t x, ty, pos, af, none⟩ L (.pointer (some ⟨g, off, none⟩)) := fun a w1 hw ha => by
  unfold execOp
  simp only [ha.ev hx, Sem.run_bind, Lib.run_to_unsafe w1 ⟨g, off, none⟩ hs hd hj hz (shape_bl (bl_eqv hw hB)) ho, Result.andThen_ok, Sem.run_pure]
theorem Yld.fromUnsafe {T : TypeId} {j : TypeInfo} (hs : P.underlying s = some .unsafePointer) (hd : P.underlying t = some (.pointer T)) (hj : P.info? T = some j) (hB : Bl w g e us) (hl : liesAt P P.depth e (us.length / P.cellsOf e) off T 1 = true) (hx : opv L x = some (.pointer (some ⟨g, off, none⟩))) :
    Yld P N w ⟨dd, .convert s t x, ty, pos, af, none⟩ L (.pointer (some ⟨g, off, none⟩)) := fun a w1 hw ha => by
  unfold execOp
  simp only [ha.ev hx, Sem.run_bind, Lib.run_from_unsafe w1 ⟨g, off, none⟩ hs hd hj (shape_bl (bl_eqv hw hB)) hl, Result.andThen_ok, Sem.run_pure]
theorem Yld.noesc {fn : FuncId} {fd : Func} {ts : Array TypeId} {v : Value} (hf : P.funcs[fn]? = some fd) (hn : (fd.name == "runtime.NumGoroutine") = false) (hb : fd.body.isNone = true) (hn2 : Extern.findNext fd = none) (he : Extern.find fd = some Extern.AbiNoEscape.same) (hx : opv L x = some v) :
    Yld P N w ⟨dd, .call ⟨.value (.func fn), ⟨[x]⟩, ts⟩, ty, pos, af, none⟩ L v := fun a w1 hw ha => by
  have h1 := run_callFunc_extern hf hn hb hn2 he #[v] w1
  rw [Lib.run_noEscape] at h1
  simp only [Result.andThen_ok] at h1
  have hm : (⟨[x]⟩ : Array Operand).map a.eval = #[v] := by simp [ha.ev hx]
  unfold execOp
  simp only [resolve, Act.eval, hm, Deferred.ofValue, Sem.run_bind, Sem.run_pure, Result.andThen_ok, invoke]
  simp [h1]
theorem Yld.pneqsame {T : TypeId} {j : TypeInfo} {ad : Addr} (hp : P.underlying t = some (.pointer T)) (hj : P.info? T = some j) (hx : opv L x = some (.pointer (some ad))) (hy : opv L y = some (.pointer (some ad))) :
    Yld P N w ⟨dd, .binOp .neq t x y s, ty, pos, af, none⟩ L (.bool false) := fun a w1 _ ha =>
  exec_bin (ha.ev hx) (ha.ev hy) (by unfold eqGuard; rfl) (Lib.run_neq_ptr_same w1 ad hp hj)
theorem gr_freeze (w : World) (g n : Nat) : w.grownBy (w.freeze ⟨g, 0, none⟩ n) (some g) := by
  unfold World.freeze
  split
  · exact gr_refl w _
  · refine ⟨rfl, rfl, rfl, by simp, fun i hi hne => ?_⟩
    simp only [Array.getElem?_modify]
    rw [if_neg]
    intro e
    exact hne (by rw [← e])
/-- unsafe.SliceData -/
theorem Eff.sliceData {T : TypeId} {n : Nat} {u : List UInt8} (hT : P.underlying ty = some (.pointer T)) (hO : Own vb w B e A c u) (hn : n = u.length) (hx : opv L x = some (.slice A n c)) :
    Eff P N w ⟨dd, .call ⟨.builtin .unsafeSliceData, ⟨[x]⟩, ⟨[t]⟩⟩, ty, pos, af, none⟩ L fun v w' => w.grownBy w' none ∧ ((u = [] ∧ ∃ p, v = .pointer p) ∨ (u ≠ [] ∧ v = .pointer A)) := fun a w1 hw ha => by
  subst hn
  have hO1 := own_eqv hw hO
  have hrd := hO1.rd
  cases A with
  | none =>
    have hu : u = [] := by
      rcases hO.2 with ⟨hv, hl⟩ | ⟨g, cap, cur, hv, _⟩
      · exact List.eq_nil_of_length_eq_zero hl
      · simp at hv
    refine ⟨.pointer none, w1, ?_, gr_eqv (gr_refl w none) hw, .inl ⟨hu, none, rfl⟩⟩
    unfold execOp
    simp [resolve, invoke, builtin, ha.ev hx, Lib.run_unsafeSliceData_nil]
  | some ad =>
    by_cases hc : c = 0
    · subst hc
      have hu : u = [] := List.eq_nil_of_length_eq_zero (by have := hrd.cap; omega)
      rcases hO1.2 with ⟨hv, _⟩ | ⟨g, cap, cur, hv, hb, hg, _⟩
      · simp at hv
      · simp only [Value.slice.injEq, Option.some.injEq] at hv
        obtain ⟨rfl, _, rfl⟩ := hv
        have h1 := Lib.run_unsafeSliceData_zero w1 #[t] ty T hT ⟨g, 0, none⟩ u.length (e, cur.size) (by simp [World.shape?, hg])
        refine ⟨.pointer (some ⟨w1.heap.size, 0, none⟩), w1.alloc (.view ⟨g, 0, none⟩ T), ?_, eqv_gr hw (gr_alloc w1 _ none), .inl ⟨hu, _, rfl⟩⟩
        unfold execOp
        simp [resolve, invoke, builtin, ha.ev hx, h1]
    · refine ⟨.pointer (some ad), w1, ?_, gr_eqv (gr_refl w none) hw, ?_⟩
      · unfold execOp
        simp [resolve, invoke, builtin, ha.ev hx, Lib.run_unsafeSliceData_row w1 #[t] ty ad u.length c hc]
      · by_cases hu : u = []
        · exact .inl ⟨hu, _, rfl⟩
        · exact .inr ⟨hu, rfl⟩
/-- unsafe.String -/
theorem Eff.ustring {T ti : TypeId} {n : Nat} {u : List UInt8} {v : Value} (hT : P.underlying t = some (.pointer T)) (hc1 : P.cellsOf e = 1) (he : e = T) (hO : Own vb w B e A c u) (hn : n = u.length) (hx : opv L x = some v) (hv : (u = [] ∧ ∃ p, v = .pointer p) ∨ (u ≠ [] ∧ v = .pointer A)) (hy : opv L y = some (.int .i64 (n : Int))) :
    Eff P N w ⟨dd, .call ⟨.builtin .unsafeString, ⟨[x, y]⟩, ⟨[t, ti]⟩⟩, ty, pos, af, none⟩ L fun v w' => v = vs u ∧ w.grownBy w' (blk A) := fun a w1 hw ha => by
  subst hn
  rcases hv with ⟨rfl, p, rfl⟩ | ⟨hu, rfl⟩
  · refine ⟨vs [], w1, ?_, rfl, gr_eqv (gr_refl w _) hw⟩
    unfold execOp
    have h1 := Lib.run_unsafeString_none (P := P) w1 t ti ty p
    simp [resolve, invoke, builtin, ha.ev hx, ha.ev hy, h1]
    rfl
  · have hO1 := own_eqv hw hO
    rcases hO1.2 with ⟨_, hl⟩ | ⟨g, cap, cur, hv, hb, hg, hnc, hcm, hcs, htk⟩
    · exact absurd (List.eq_nil_of_length_eq_zero hl) hu
    · simp only [Value.slice.injEq] at hv
      obtain ⟨rfl, _, rfl⟩ := hv
      obtain ⟨ad, had, hcl⟩ := hO1.rd.cells hu
      cases had
      subst he
      have h1 := Lib.run_unsafeString_row (P := P) w1 t ti ty e hT hc1 g cur.size (by simp [World.shape?, hg]) u hu (by omega) (by have := hnc; simp only [maxLen] at hcm; omega) (fun j x hj => hcl j x hj)
      refine ⟨vs u, w1.freeze ⟨g, 0, none⟩ u.length, ?_, rfl, eqv_gr hw (gr_freeze w1 g _)⟩
      unfold execOp
      simp [resolve, invoke, builtin, ha.ev hx, ha.ev hy, h1]
      rfl
end
abbrev liesB (e : TypeId) (n off : Nat) : Prop := liesAt Tryd.prog Tryd.prog.depth e (n / Tryd.prog.cellsOf e) off 84 1 = true
theorem liesB_of {e : TypeId} {n off : Nat} (h : liesAt Tryd.prog Tryd.prog.depth e (n / Tryd.prog.cellsOf e) off 84 1 = true) : liesB e n off := h
theorem bldInfo : ∃ j, Tryd.prog.info? 84 = some j ∧ j.size ≠ 0 := by
  have h : (Tryd.prog.info? 84).map (fun i => Nat.beq i.size 0) = some false := by kernel_rfl
  rw [Option.map_eq_some_iff] at h
  obtain ⟨j, h1, h2⟩ := h
  exact ⟨j, h1, Nat.ne_of_beq_eq_false h2⟩
attribute [local irreducible] WL WC WX WQ WK WJ Yld Eff Ef0 Fn
theorem bcc_fn {w : World} {g e off : Nat} {us : List Value} {a : Option Addr} (hB : Bl w g e us) (h1 : us[off]? = some (.pointer a)) (ha : a = none ∨ a = some ⟨g, off, none⟩) (hl : liesB e us.length off) :
    Fn Tryd.prog 90 ⟨[.pointer (some ⟨g, off, none⟩)]⟩ w fun v w' => v = .tuple #[] ∧ Bl w' g e (us.set off (.pointer (some ⟨g, off, none⟩))) ∧ w.grownBy w' (some g) := by
  have ho : off < us.length := (List.getElem?_eq_some_iff.1 h1).1
  obtain ⟨j, hj, hz⟩ := bldInfo
  refine Fn.enter (by kernel_rfl) Tryd.func90 rfl Tryd.ntmps90 rfl ?_
  refine WC.seq ?_
  refine WC.region ?_
  refine WL.y rfl (Yld.pure tab_ok rfl) ?_
  refine WL.y rfl (Yld.pure tab_ok rfl) ?_
  refine WL.y rfl (Yld.pure tab_ok rfl) ?_
  refine WL.y rfl (Yld.bload tab_ok hB rfl rfl h1) ?_
  refine WL.y rfl (Yld.peqnil Tryd.underlying81 rfl rfl) ?_
  refine WL.nil (WX.then_normal ?_)
  rcases ha with rfl | rfl
  · refine WC.cond rfl (fun _ => ?_) (fun h => by cases h)
    refine WC.region ?_
    refine WL.y rfl (Yld.pure tab_ok rfl) ?_
    refine WL.y rfl (Yld.pure tab_ok rfl) ?_
    refine WL.y rfl (Yld.toUnsafe Tryd.underlying81 Tryd.underlying133 hj hz hB ho rfl) ?_
    refine WL.y rfl (Yld.noesc Tryd.func118 (by kernel_rfl) (by kernel_rfl) (by kernel_rfl) (by kernel_rfl) rfl) ?_
    refine WL.y rfl (Yld.fromUnsafe Tryd.underlying133 Tryd.underlying81 hj hB hl rfl) ?_
    refine WL.y rfl (Yld.pure tab_ok rfl) ?_
    refine WL.y rfl (Yld.pure tab_ok rfl) ?_
    refine WL.store1 one81 rfl rfl rfl hB ho (fun w1 h2 hg => ?_)
    refine WL.nil ?_
    exact WX.end0 rfl ⟨rfl, h2, hg⟩
  · refine WC.cond rfl (fun h => by cases h) (fun _ => ?_)
    refine WC.seq ?_
    refine WC.region ?_
    refine WL.y rfl (Yld.pure tab_ok rfl) ?_
    refine WL.y rfl (Yld.pure tab_ok rfl) ?_
    refine WL.y rfl (Yld.pure tab_ok rfl) ?_
    refine WL.y rfl (Yld.bload tab_ok hB rfl rfl h1) ?_
    refine WL.y rfl (Yld.pure tab_ok rfl) ?_
    refine WL.y rfl (Yld.pneqsame Tryd.underlying81 hj rfl rfl) ?_
    refine WL.nil (WX.then_normal ?_)
    refine WC.cond rfl (fun h => by cases h) (fun _ => ?_)
    refine WC.skip ?_
    refine WX.end0 rfl ⟨rfl, ?_, gr_refl w _⟩
    have e1 : us.set off (.pointer (some ⟨g, off, none⟩)) = us := List.ext_getElem? fun i => by
      rw [List.getElem?_set]
      split
      · rename_i hi
        subst hi
        exact h1.symm
      · rfl
    rw [e1]; exact hB
theorem bws_fn {w : World} {g e off n c B : Nat} {us : List Value} {a A : Option Addr} {b s : List UInt8} (hB : Bl w g e us) (ha : a = none ∨ a = some ⟨g, off, none⟩) (h1 : us[off]? = some (.pointer a)) (hn : n = b.length) (h2 : us[off + 1]? = some (.slice A n c)) (hl : liesB e us.length off)
    (hO : Own vb w B 5 A c b) (hd : Dj (some g) (blk A)) (hlen : b.length + s.length ≤ 140737488355328) (hBw : B ≤ w.heap.size) :
    Fn Tryd.prog 61 ⟨[.pointer (some ⟨g, off, none⟩), vs s]⟩ w fun v w' => v = .tuple #[.int .i64 (s.length : Int), .nilIface] ∧ ∃ A' c', Bl w' g e ((us.set off (.pointer (some ⟨g, off, none⟩))).set (off + 1) (.slice A' (b ++ s).length c')) ∧ Own vb w' B 5 A' c' (b ++ s) ∧ GrL [some g, blk A] w w' ∧ InP [some g, blk A] w.heap.size (blk A') ∧ Dj (some g) (blk A') := by
  subst hn
  have ho : off < us.length := (List.getElem?_eq_some_iff.1 h1).1
  have ho2 : off + 1 < us.length := (List.getElem?_eq_some_iff.1 h2).1
  refine Fn.enter (by kernel_rfl) Tryd.func61 rfl Tryd.ntmps61 rfl ?_
  refine WC.seq ?_
  refine WC.region ?_
  refine WL.y rfl (Yld.pure tab_ok rfl) ?_
  refine WL.y rfl (Yld.pure tab_ok rfl) ?_
  refine WL.nil (WX.then_normal ?_)
  refine WC.seq ?_
  refine WC.region ?_
  refine WL.y rfl (Yld.pure tab_ok rfl) ?_
  refine WL.call rfl rfl (bcc_fn hB h1 ha hl) ?_
  rintro _ w1 ⟨rfl, hB1, hg1⟩
  refine WL.nil (WX.then_normal ?_)
  have hO1 := hO.go hg1 hd.symm
  have hu1 : (us.set off (.pointer (some ⟨g, off, none⟩)))[off + 1]? = some (.slice A b.length c) := by rw [List.getElem?_set_ne (by omega)]; exact h2
  have hl1 : (us.set off (.pointer (some ⟨g, off, none⟩))).length = us.length := List.length_set
  have hlm := hO.len
  refine WC.seq ?_
  refine WC.region ?_
  refine WL.y rfl (Yld.pure tab_ok rfl) ?_
  refine WL.y rfl (Yld.pure tab_ok rfl) ?_
  refine WL.y rfl (Yld.pure tab_ok rfl) ?_
  refine WL.y rfl (Yld.pure tab_ok rfl) ?_
  refine WL.y rfl (Yld.bload tab_ok hB1 rfl rfl hu1) ?_
  refine WL.y rfl (Yld.pure tab_ok rfl) ?_
  refine WL.appendS tab_ok rfl rfl rfl hO1 rfl rfl rfl (by first | omega | (simp only [maxLen]; omega)) (by first | omega | (simp only [maxLen]; omega)) (Nat.le_trans hBw hg1.size) (fun A' c' w2 hO2 hg2 hk => ?_)
  have hB2 := hB1.go hg2 hd
  refine WL.y rfl (Yld.pure tab_ok rfl) ?_
  refine WL.y rfl (Yld.pure tab_ok rfl) ?_
  have hd2 : Dj (some g) (blk A') := (Dj.app hd.symm hB1.lt' hk).symm
  refine WL.store1 one82 rfl rfl rfl hB2 (by rw [hl1]; exact ho2) (fun w3 hB3 hg3 => ?_)
  have hO3 := hO2.go hg3 hd2.symm
  refine WL.nil (WX.then_normal ?_)
  refine WC.seq ?_
  refine WC.region ?_
  refine WL.y rfl (Yld.pure tab_ok rfl) ?_
  refine WL.y rfl (Yld.pure tab_ok rfl) ?_
  refine WL.y rfl (Yld.pure tab_ok rfl) ?_
  refine WL.y rfl (Yld.pure tab_ok rfl) ?_
  refine WL.nil (WX.then_normal ?_)
  refine WC.ret ?_
  have m1 : List.Mem (some g) [some g, blk A] := List.Mem.head _
  have m2 : List.Mem (blk A) [some g, blk A] := List.Mem.tail _ (List.Mem.head _)
  exact WX.ret2 rfl rfl rfl ⟨rfl, A', c', hB3, hO3, ((GrL.mod (GrL.refl w) hg1 (InP.mem m1)).mod hg2 (InP.mem m2)).mod hg3 (InP.mem m1), (InP.app (InP.mem m2) hk hg1.size), hd2⟩
theorem bstr_fn {w : World} {g e off n c B : Nat} {us : List Value} {A : Option Addr} {b : List UInt8} (hB : Bl w g e us) (h2 : us[off + 1]? = some (.slice A n c)) (hn : n = b.length) (hO : Own vb w B 5 A c b) (hd : Dj (some g) (blk A)) :
    Fn Tryd.prog 63 ⟨[.pointer (some ⟨g, off, none⟩)]⟩ w fun v w' => v = vs b ∧ Bl w' g e us ∧ GrL [blk A] w w' := by
  refine Fn.enter (by kernel_rfl) Tryd.func63 rfl Tryd.ntmps63 rfl ?_
  refine WC.seq ?_
  refine WC.region ?_
  refine WL.y rfl (Yld.pure tab_ok rfl) ?_
  refine WL.nil (WX.then_normal ?_)
  refine WC.seq ?_
  refine WC.chainF (fun k => !(Nat.beq k 4 || Nat.beq k 10)) (LD [3, 8] (fun w' => Bl w' g e us)) mixed (by kernel_rfl) (fun k w' h _ => bl_eqv h hB) ?_
  refine WJ.y rfl rfl (fun w' hw' => Yld.pure tab_ok rfl) ?_
  refine WJ.y rfl rfl (fun w' hw' => Yld.pure tab_ok rfl) ?_
  refine WJ.y rfl rfl (fun w' hw' => Yld.pure tab_ok rfl) ?_
  refine WJ.y rfl rfl (fun w' hw' => Yld.bload tab_ok (hw' rfl) rfl rfl h2) ?_
  refine WJ.putw rfl wants_none rfl (Eff.sliceData Tryd.underlying112 hO hn rfl) (fun v w' h => DD.keep (Bl.g0 hB h.1)) ?_
  rintro v w1 ⟨hg1, hv⟩
  refine WJ.y rfl rfl (fun w' hw' => Yld.pure tab_ok rfl) ?_
  refine WJ.y rfl rfl (fun w' hw' => Yld.pure tab_ok rfl) ?_
  refine WJ.y rfl rfl (fun w' hw' => Yld.pure tab_ok rfl) ?_
  refine WJ.y rfl rfl (fun w' hw' => Yld.bload tab_ok (hw' rfl) rfl rfl h2) ?_
  refine WJ.y rfl rfl (fun w' hw' => Yld.pure tab_ok rfl) ?_
  have hB1 := hB.g0 hg1
  refine WJ.putw rfl wants_none rfl (Eff.ustring Tryd.underlying112 (by kernel_rfl) rfl (hO.grown hg1) hn rfl hv rfl) (fun v w' h => DD.past (by kernel_rfl)) ?_
  rintro _ w2 ⟨rfl, hg2⟩
  refine WJ.y rfl rfl (fun w' hw' => Yld.pure tab_ok rfl) ?_
  refine WJ.nil (WX.then_normal ?_)
  refine WC.ret ?_
  exact WX.ret1 rfl rfl ⟨rfl, hB1.go hg2 hd, (GrL.of0 hg1).mod hg2 (InP.mem (List.Mem.head _))⟩
theorem blen_fn {w : World} {g e off n c : Nat} {us : List Value} {A : Option Addr} {b : List UInt8} (hB : Bl w g e us) (h2 : us[off + 1]? = some (.slice A n c)) (_ : n = b.length) :
    Fn Tryd.prog 82 ⟨[.pointer (some ⟨g, off, none⟩)]⟩ w fun v w' => w = w' ∧ v = .int .i64 (n : Int) := by
  refine Fn.enter (by kernel_rfl) Tryd.func82 rfl Tryd.ntmps82 rfl ?_
  refine WC.seq ?_
  refine WC.region ?_
  refine WL.y rfl (Yld.pure tab_ok rfl) ?_
  refine WL.nil (WX.then_normal ?_)
  refine WC.seq ?_
  refine WC.region ?_
  refine WL.y rfl (Yld.pure tab_ok rfl) ?_
  refine WL.y rfl (Yld.pure tab_ok rfl) ?_
  refine WL.y rfl (Yld.pure tab_ok rfl) ?_
  refine WL.y rfl (Yld.bload tab_ok hB rfl rfl h2) ?_
  refine WL.y rfl (Yld.pure tab_ok rfl) ?_
  refine WL.y rfl (Yld.pure tab_ok rfl) ?_
  refine WL.nil (WX.then_normal ?_)
  refine WC.ret ?_
  exact WX.ret1 rfl rfl ⟨rfl, rfl⟩
theorem bwb_fn {w : World} {g e off n c B : Nat} {us : List Value} {a A : Option Addr} {b : List UInt8} {x : UInt8} (hB : Bl w g e us) (ha : a = none ∨ a = some ⟨g, off, none⟩) (h1 : us[off]? = some (.pointer a)) (hn : n = b.length) (h2 : us[off + 1]? = some (.slice A n c)) (hl : liesB e us.length off)
    (hO : Own vb w B 5 A c b) (hd : Dj (some g) (blk A)) (hlen : b.length + ([x] : List UInt8).length ≤ 140737488355328) (hBw : B ≤ w.heap.size) :
    Fn Tryd.prog 62 ⟨[.pointer (some ⟨g, off, none⟩), vb x]⟩ w fun v w' => v = .nilIface ∧ ∃ A' c', Bl w' g e ((us.set off (.pointer (some ⟨g, off, none⟩))).set (off + 1) (.slice A' (b ++ [x]).length c')) ∧ Own vb w' B 5 A' c' (b ++ [x]) ∧ GrL [some g, blk A] w w' ∧ InP [some g, blk A] w.heap.size (blk A') ∧ Dj (some g) (blk A') := by
  subst hn
  have ho : off < us.length := (List.getElem?_eq_some_iff.1 h1).1
  have ho2 : off + 1 < us.length := (List.getElem?_eq_some_iff.1 h2).1
  refine Fn.enter (by kernel_rfl) Tryd.func62 rfl Tryd.ntmps62 rfl ?_
  refine WC.seq ?_
  refine WC.region ?_
  refine WL.y rfl (Yld.pure tab_ok rfl) ?_
  refine WL.nil (WX.then_normal ?_)
  refine WC.seq ?_
  refine WC.region ?_
  refine WL.y rfl (Yld.pure tab_ok rfl) ?_
  refine WL.call rfl rfl (bcc_fn hB h1 ha hl) ?_
  rintro _ w1 ⟨rfl, hB1, hg1⟩
  refine WL.nil (WX.then_normal ?_)
  have hO1 := hO.go hg1 hd.symm
  have hu1 : (us.set off (.pointer (some ⟨g, off, none⟩)))[off + 1]? = some (.slice A b.length c) := by rw [List.getElem?_set_ne (by omega)]; exact h2
  have hl1 : (us.set off (.pointer (some ⟨g, off, none⟩))).length = us.length := List.length_set
  have hlm := hO.len
  refine WC.seq ?_
  refine WC.region ?_
  refine WL.y rfl (Yld.pure tab_ok rfl) ?_
  refine WL.y rfl (Yld.pure tab_ok rfl) ?_
  refine WL.y rfl (Yld.pure tab_ok rfl) ?_
  refine WL.y rfl (Yld.pure tab_ok rfl) ?_
  refine WL.y rfl (Yld.bload tab_ok hB1 rfl rfl hu1) ?_
  refine WL.y rfl (Yld.pure tab_ok rfl) ?_
  refine WL.lit tab_ok rfl rfl rfl (all1c rfl all1n) rfl (by omega) (fun g2 w2 hL hg2 hl2 => ?_)
  replace hL : Bl w2 g2 5 (([x] : List UInt8).map vb) := hL
  have hB2 := hB1.g0 hg2
  have hO2 := hO1.grown hg2
  have hX : Own vb w2 w1.heap.size 5 (some ⟨g2, 0, none⟩) 1 ([x] : List UInt8) := Own.ofBl hL hl2 (by simp [maxLen]) rfl
  refine WL.append tab_ok rfl rfl One.b hO2 rfl rfl hX.rd rfl rfl (by first | omega | (simp only [maxLen]; omega) | (simp at hlen ⊢; omega)) (by first | omega | (simp only [maxLen]; omega) | (simp at hlen ⊢; simp only [maxLen]; omega)) (Nat.le_trans hBw (Nat.le_trans hg1.size hg2.size)) (fun A' c' w3 hO3 hg3 hk => ?_)
  have hB3 := hB2.go hg3 hd
  refine WL.y rfl (Yld.pure tab_ok rfl) ?_
  refine WL.y rfl (Yld.pure tab_ok rfl) ?_
  have hd2 : Dj (some g) (blk A') := (Dj.app hd.symm hB2.lt' hk).symm
  refine WL.store1 one82 rfl rfl rfl hB3 (by rw [hl1]; exact ho2) (fun w4 hB4 hg4 => ?_)
  have hO4 := hO3.go hg4 hd2.symm
  refine WL.nil (WX.then_normal ?_)
  refine WC.seq ?_
  refine WC.region ?_
  refine WL.y rfl (Yld.pure tab_ok rfl) ?_
  refine WL.nil (WX.then_normal ?_)
  refine WC.ret ?_
  have m1 : List.Mem (some g) [some g, blk A] := List.Mem.head _
  have m2 : List.Mem (blk A) [some g, blk A] := List.Mem.tail _ (List.Mem.head _)
  exact WX.ret1 rfl rfl ⟨rfl, A', c', hB4, hO4, (((GrL.mod (GrL.refl w) hg1 (InP.mem m1)).add0 hg2).mod hg3 (InP.mem m2)).mod hg4 (InP.mem m1), (InP.app (InP.mem m2) hk (Nat.le_trans hg1.size hg2.size)), hd2⟩
end Go.Proofs.YtjinkmipkfjblaaDoor


 /-
  DERIVED: THE SHELF's CONTRACTS AT THIS DUMP, IN PLAIN WORDS (tools/lay-plain.mjs out of 'TrydShelf.lean', which tools/lay-shelf.mjs wrote): THE SAME DECLARATIONS UNDER THE SAME NAMES: 'import', 'namespace', 'open', 'def', 'theorem' AND NOTHING ELSE: no command of the shelf's: FOR A HAND-IN. Each laying: the table of numbers ('.._ren') and one theorem, a field a fact of the dump's own or the kernel's comparison; each contract: ONE APPLICATION.
-/
namespace Go.Proofs
open Go.Shelf
def Tryd.lays156_ren : Go.Shelf.Ren := ⟨fun | 156 => 57 | 165 => 85 | 166 => 61 | 169 => 63 | 240 => 90 | 241 => 115 | 276 => 118 | 277 => 132 | n => n, fun | 31 => 22 | 9 => 9 | 3 => 3 | 4 => 4 | 0 => 0 | 20 => 20 | 72 => 84 | 76 => 85 | 70 => 81 | 37 => 82 | 75 => 29 | 127 => 112 | 164 => 133 | 5 => 5 | 80 => 32 | n => n, fun | n => n⟩
theorem Tryd.lays156 : Go.Proofs.Lays.n156 Tryd.prog Tryd.lays156_ren := {
  mixed := by kernel_rfl
  f156 := Tryd.func57.trans (congrArg some (by kernel_rfl))
  f165 := Tryd.func85.trans (congrArg some (by kernel_rfl))
  f166 := Tryd.func61.trans (congrArg some (by kernel_rfl))
  f169 := Tryd.func63.trans (congrArg some (by kernel_rfl))
  f240 := Tryd.func90.trans (congrArg some (by kernel_rfl))
  f241 := Tryd.func115.trans (congrArg some (by kernel_rfl))
  f276 := Tryd.func118.trans (congrArg some (by kernel_rfl))
  f277 := Tryd.func132.trans (congrArg some (by kernel_rfl))
  t0 := Tryd.underlying0
  a0 := Tryd.isAgg0
  z0 := Tryd.sizeOf0
  v0 := Tryd.zeroValue0
  t3 := Tryd.underlying3
  a3 := Tryd.isAgg3
  z3 := Tryd.sizeOf3
  v3 := Tryd.zeroValue3
  t4 := Tryd.underlying4
  a4 := Tryd.isAgg4
  z4 := Tryd.sizeOf4
  v4 := Tryd.zeroValue4
  t9 := Tryd.underlying9
  a9 := Tryd.isAgg9
  z9 := Tryd.sizeOf9
  v9 := Tryd.zeroValue9
  t20 := Tryd.underlying20
  a20 := Tryd.isAgg20
  z20 := Tryd.sizeOf20
  v20 := Tryd.zeroValue20
  t31 := Tryd.underlying22
  a31 := Tryd.isAgg22
  z31 := Tryd.sizeOf22
  v31 := Tryd.zeroValue22
  t37 := Tryd.underlying82
  a37 := Tryd.isAgg82
  z37 := Tryd.sizeOf82
  v37 := Tryd.zeroValue82
  t70 := Tryd.underlying81
  a70 := Tryd.isAgg81
  z70 := Tryd.sizeOf81
  v70 := Tryd.zeroValue81
  t72 := Tryd.underlying84
  a72 := Tryd.isAgg84
  z72 := Tryd.sizeOf84
  v72 := Tryd.zeroValue84
  t75 := Tryd.underlying29
  a75 := Tryd.isAgg29
  z75 := Tryd.sizeOf29
  v75 := Tryd.zeroValue29
  t76 := Tryd.underlying85
  a76 := Tryd.isAgg85
  z76 := Tryd.sizeOf85
  v76 := Tryd.zeroValue85
  t127 := Tryd.underlying112
  a127 := Tryd.isAgg112
  z127 := Tryd.sizeOf112
  v127 := Tryd.zeroValue112
  t164 := Tryd.underlying133
  a164 := Tryd.isAgg133
  z164 := Tryd.sizeOf133
  v164 := Tryd.zeroValue133 }
theorem Tryd.Builder_Extra_156 : Builder.Extra Tryd.prog Tryd.lays156_ren := {
  sizeBuilder := by kernel_rfl
  liesBuilder := by kernel_rfl
  t5 := Tryd.underlying5
  a5 := Tryd.isAgg5
  z5 := Tryd.sizeOf5
  v5 := Tryd.zeroValue5
  infoByte := by kernel_rfl
  cellsByte := by kernel_rfl
  sizeByte := by kernel_rfl
  neB5 := by decide }
open Go.RowKit in
/-- No element: the empty string; the world is as_ it was. (Whatever the slice's address and capacity: a nil slice too.) (LAID: no walk: one application.) -/
theorem Tryd.strings_Join_none (a : Option Addr) (c : Nat) (sep : ByteArray) (w : World) :
    Calls Tryd.prog 57 #[.slice a 0 c, .string sep] w fun e w' => e = .returned (.string ⟨#[]⟩) ∧ w' = w := Any.strings_Join_none Tryd.lays156 Tryd.Builder_Extra_156 a c sep w
open Go.RowKit in
/-- strings.Join: "Join concatenates the elements of its first argument to create a single string. The separator string sep is placed between elements in the resulting string.": HOWEVER MANY ELEMENTS. Below the heap's end the world is as_ it was. (LAID: no walk: one application.) -/
theorem Tryd.strings_Join (bk o c : Nat) (xs : List ByteArray) (sep : ByteArray) (w : World) (hcells : ∀ (j : Nat) x, xs[j]? = some x → w.cell? ⟨bk, o + j, none⟩ = some (.string x)) (hbk : bk < w.heap.size) (hN : xs.length ≤ 140737488355328) (hcap : xs.length ≤ c) (hlen : (Lib.join (xs.map (·.data.toList)) sep.data.toList).length ≤ 140737488355328) :
    Calls Tryd.prog 57 #[.slice (some ⟨bk, o, none⟩) xs.length c, .string sep] w fun e w' => e = .returned (.string ⟨(Lib.join (xs.map (·.data.toList)) sep.data.toList).toArray⟩) ∧ Below w.heap.size w w' := Any.strings_Join Tryd.lays156 Tryd.Builder_Extra_156 bk o c xs sep w hcells hbk hN hcap hlen
def Tryd.lays137_ren : Go.Shelf.Ren := ⟨fun | 137 => 54 | 217 => 83 | 266 => 111 | n => n, fun | 9 => 9 | 5 => 5 | 3 => 3 | n => n, fun | n => n⟩
theorem Tryd.lays137 : Go.Proofs.Lays.n137 Tryd.prog Tryd.lays137_ren := {
  mixed := by kernel_rfl
  f137 := Tryd.func54.trans (congrArg some (by kernel_rfl))
  f217 := Tryd.func83.trans (congrArg some (by kernel_rfl))
  f266 := Tryd.func111.trans (congrArg some (by kernel_rfl))
  t3 := Tryd.underlying3
  a3 := Tryd.isAgg3
  z3 := Tryd.sizeOf3
  v3 := Tryd.zeroValue3
  t5 := Tryd.underlying5
  a5 := Tryd.isAgg5
  z5 := Tryd.sizeOf5
  v5 := Tryd.zeroValue5
  t9 := Tryd.underlying9
  a9 := Tryd.isAgg9
  z9 := Tryd.sizeOf9
  v9 := Tryd.zeroValue9 }
open Go.RowKit in
/-- strings.IndexByte: "IndexByte returns the index of the first instance of c in s, or -1 if c is not present in s.": IT RETURNS 'Lib.indexByte s c'; the world is as_ it was. (LAID: no walk: one application.) -/
theorem Tryd.strings_IndexByte (s : ByteArray) (c : Int) (w : World) :
    Calls Tryd.prog 54 #[.string s, .int .u8 c] w fun e w' => e = .returned (.int .i64 (Lib.indexByte s.data.toList c.toNat.toUInt8)) ∧ w' = w := Any.strings_IndexByte Tryd.lays137 s c w
def Tryd.lays138_ren : Go.Shelf.Ren := ⟨fun | 138 => 58 | 195 => 86 | 218 => 87 | 143 => 55 | 219 => 84 | 217 => 83 | 225 => 112 | 224 => 113 | 267 => 114 | 266 => 111 | 314 => 131 | n => n, fun | 9 => 9 | 3 => 3 | 4 => 4 | 5 => 5 | 0 => 0 | 46 => 100 | 146 => 135 | 51 => 127 | n => n, fun | 1 => 3 | n => n⟩
theorem Tryd.lays138 : Go.Proofs.Lays.n138 Tryd.prog Tryd.lays138_ren := {
  mixed := by kernel_rfl
  f138 := Tryd.func58.trans (congrArg some (by kernel_rfl))
  f143 := Tryd.func55.trans (congrArg some (by kernel_rfl))
  f195 := Tryd.func86.trans (congrArg some (by kernel_rfl))
  f217 := Tryd.func83.trans (congrArg some (by kernel_rfl))
  f218 := Tryd.func87.trans (congrArg some (by kernel_rfl))
  f219 := Tryd.func84.trans (congrArg some (by kernel_rfl))
  f224 := Tryd.func113.trans (congrArg some (by kernel_rfl))
  f225 := Tryd.func112.trans (congrArg some (by kernel_rfl))
  f266 := Tryd.func111.trans (congrArg some (by kernel_rfl))
  f267 := Tryd.func114.trans (congrArg some (by kernel_rfl))
  f314 := Tryd.func131.trans (congrArg some (by kernel_rfl))
  t0 := Tryd.underlying0
  a0 := Tryd.isAgg0
  z0 := Tryd.sizeOf0
  v0 := Tryd.zeroValue0
  t3 := Tryd.underlying3
  a3 := Tryd.isAgg3
  z3 := Tryd.sizeOf3
  v3 := Tryd.zeroValue3
  t4 := Tryd.underlying4
  a4 := Tryd.isAgg4
  z4 := Tryd.sizeOf4
  v4 := Tryd.zeroValue4
  t5 := Tryd.underlying5
  a5 := Tryd.isAgg5
  z5 := Tryd.sizeOf5
  v5 := Tryd.zeroValue5
  t9 := Tryd.underlying9
  a9 := Tryd.isAgg9
  z9 := Tryd.sizeOf9
  v9 := Tryd.zeroValue9
  t46 := Tryd.underlying100
  a46 := Tryd.isAgg100
  z46 := Tryd.sizeOf100
  v46 := Tryd.zeroValue100
  t51 := Tryd.underlying127
  a51 := Tryd.isAgg127
  z51 := Tryd.sizeOf127
  v51 := Tryd.zeroValue127
  t146 := Tryd.underlying135
  a146 := Tryd.isAgg135
  z146 := Tryd.sizeOf135
  v146 := Tryd.zeroValue135
  g1 := by kernel_rfl }
open Go.RowKit Go.Lib in
/-- strings.Count at whatever sep that is not empty: the two roads under one statement. (LAID: no walk: one application.) -/
theorem Tryd.strings_Count_any (s sep : ByteArray) (m : Int) (w : World) (hs : s.size < 4294967281) (hm : w.cell? ⟨3, 0, none⟩ = some (.int .i64 m)) (h1 : 1 ≤ sep.size) :
    Calls Tryd.prog 58 #[.string s, .string sep] w fun e w' => e = .returned (.int .i64 (Lib.countB s sep)) ∧ w' = w := Any.strings_Count_any Tryd.lays138 s sep m w hs hm h1
def Tryd.lays147_ren : Go.Shelf.Ren := ⟨fun | 147 => 59 | 221 => 88 | 268 => 116 | 138 => 58 | 143 => 55 | 195 => 86 | 197 => 89 | 218 => 87 | 219 => 84 | 260 => 117 | 217 => 83 | 225 => 112 | 224 => 113 | 267 => 114 | 266 => 111 | 314 => 131 | n => n, fun | 9 => 9 | 3 => 3 | 31 => 22 | 4 => 4 | 0 => 0 | 105 => 110 | 21 => 21 | 5 => 5 | 46 => 100 | 119 => 152 | 139 => 155 | 138 => 154 | 146 => 135 | 51 => 127 | n => n, fun | 1 => 3 | 3 => 4 | 4 => 5 | n => n⟩
theorem Tryd.lays147 : Go.Proofs.Lays.n147 Tryd.prog Tryd.lays147_ren := {
  mixed := by kernel_rfl
  f138 := Tryd.func58.trans (congrArg some (by kernel_rfl))
  f143 := Tryd.func55.trans (congrArg some (by kernel_rfl))
  f147 := Tryd.func59.trans (congrArg some (by kernel_rfl))
  f195 := Tryd.func86.trans (congrArg some (by kernel_rfl))
  f197 := Tryd.func89.trans (congrArg some (by kernel_rfl))
  f217 := Tryd.func83.trans (congrArg some (by kernel_rfl))
  f218 := Tryd.func87.trans (congrArg some (by kernel_rfl))
  f219 := Tryd.func84.trans (congrArg some (by kernel_rfl))
  f221 := Tryd.func88.trans (congrArg some (by kernel_rfl))
  f224 := Tryd.func113.trans (congrArg some (by kernel_rfl))
  f225 := Tryd.func112.trans (congrArg some (by kernel_rfl))
  f260 := Tryd.func117.trans (congrArg some (by kernel_rfl))
  f266 := Tryd.func111.trans (congrArg some (by kernel_rfl))
  f267 := Tryd.func114.trans (congrArg some (by kernel_rfl))
  f268 := Tryd.func116.trans (congrArg some (by kernel_rfl))
  f314 := Tryd.func131.trans (congrArg some (by kernel_rfl))
  t0 := Tryd.underlying0
  a0 := Tryd.isAgg0
  z0 := Tryd.sizeOf0
  v0 := Tryd.zeroValue0
  t3 := Tryd.underlying3
  a3 := Tryd.isAgg3
  z3 := Tryd.sizeOf3
  v3 := Tryd.zeroValue3
  t4 := Tryd.underlying4
  a4 := Tryd.isAgg4
  z4 := Tryd.sizeOf4
  v4 := Tryd.zeroValue4
  t5 := Tryd.underlying5
  a5 := Tryd.isAgg5
  z5 := Tryd.sizeOf5
  v5 := Tryd.zeroValue5
  t9 := Tryd.underlying9
  a9 := Tryd.isAgg9
  z9 := Tryd.sizeOf9
  v9 := Tryd.zeroValue9
  t21 := Tryd.underlying21
  a21 := Tryd.isAgg21
  z21 := Tryd.sizeOf21
  v21 := Tryd.zeroValue21
  t31 := Tryd.underlying22
  a31 := Tryd.isAgg22
  z31 := Tryd.sizeOf22
  v31 := Tryd.zeroValue22
  t46 := Tryd.underlying100
  a46 := Tryd.isAgg100
  z46 := Tryd.sizeOf100
  v46 := Tryd.zeroValue100
  t51 := Tryd.underlying127
  a51 := Tryd.isAgg127
  z51 := Tryd.sizeOf127
  v51 := Tryd.zeroValue127
  t105 := Tryd.underlying110
  a105 := Tryd.isAgg110
  z105 := Tryd.sizeOf110
  v105 := Tryd.zeroValue110
  t119 := Tryd.underlying152
  a119 := Tryd.isAgg152
  z119 := Tryd.sizeOf152
  t138 := Tryd.underlying154
  a138 := Tryd.isAgg154
  z138 := Tryd.sizeOf154
  v138 := Tryd.zeroValue154
  t139 := Tryd.underlying155
  a139 := Tryd.isAgg155
  z139 := Tryd.sizeOf155
  v139 := Tryd.zeroValue155
  t146 := Tryd.underlying135
  a146 := Tryd.isAgg135
  z146 := Tryd.sizeOf135
  v146 := Tryd.zeroValue135
  g1 := by kernel_rfl
  g3 := by kernel_rfl
  g4 := by kernel_rfl }
open Go.RowKit Go.Lib in
/-- strings.SplitN, n > 0. (LAID: no walk: one application.) -/
theorem Tryd.strings_SplitN (s sep : ByteArray) (n : Nat) (m : Int) (w : World) (hs : s.size < 4294967281) (hm : w.cell? ⟨3, 0, none⟩ = some (.int .i64 m)) (h1 : 1 ≤ sep.size) (hn : 1 ≤ n) (hn63 : n ≤ 9223372036854775807) :
    Calls Tryd.prog 59 #[.string s, .string sep, .int .i64 n] w fun e w' =>
      e = .returned (.slice (some ⟨w.heap.size, 0, none⟩) (Lib.splitB sep 0 (min n (s.size + 1) - 1) s).length (min n (s.size + 1))) ∧ w' = w.alloc (.cells (Lib.cellsOf (Lib.splitB sep 0 (min n (s.size + 1) - 1) s) (min n (s.size + 1))) 9) := Any.strings_SplitN Tryd.lays147 (by kernel_rfl) s sep n m w hs hm h1 hn hn63
end Go.Proofs

 /- The library's contracts (the kit's shelf) in the generator's form. -/
namespace Go.Proofs.YtjinkmipkfjblaaDoor
open Go Go.RowKit
theorem Fn.ofCalls {P : Program} {f : FuncId} {args : Array Value} {w : World} {v : Value} (hgo : goesIn P f = true) (h : ∀ w1, Calls P f args w1 fun e w' => e = .returned v ∧ w' = w1) : Fn P f args w (fun r w' => w = w' ∧ r = v) :=
  ⟨hgo, fun w1 e => (h w1).mono fun _ _ ⟨he, hw⟩ => ⟨v, w, he, by rw [hw]; exact e, rfl, rfl⟩⟩
def M_strings_IndexByte (s : List UInt8) (c : Int) (K : Int → Prop) : Prop := K (Lib.indexByte s c.toNat.toUInt8)
theorem W_strings_IndexByte {w : World} {s : List UInt8} {c : Int} {K : Int → Prop} (H : M_strings_IndexByte s c K) : Fn Tryd.prog 54 ⟨[vs s, .int .u8 c]⟩ w (fun v w' => w = w' ∧ ∃ r : Int, v = .int .i64 r ∧ K r) :=
  (Fn.ofCalls (by kernel_rfl) (fun w1 => Tryd.strings_IndexByte ⟨⟨s⟩⟩ c w1)).mono fun _ _ ⟨h1, h2⟩ => ⟨h1, _, h2, H⟩
def M_strings_Join (l : List (List UInt8)) (sep : List UInt8) (K : List UInt8 → Prop) : Prop := l.length ≤ 140737488355328 ∧ (Lib.join l sep).length ≤ 140737488355328 ∧ K (Lib.join l sep)
theorem W_strings_Join {w : World} {l : List (List UInt8)} {A : Option Addr} {c n : Nat} {sep : List UInt8} {K : List UInt8 → Prop} (hR : Rd vs w A c l) (hn : n = l.length) (H : M_strings_Join l sep K) : Fn Tryd.prog 57 ⟨[.slice A n c, vs sep]⟩ w (fun v w' => w.grownBy w' none ∧ ∃ r : List UInt8, v = vs r ∧ K r) := by
  subst hn
  cases l with
  | nil =>
    refine ⟨by kernel_rfl, fun w1 e => (Tryd.strings_Join_none A c ⟨⟨sep⟩⟩ w1).mono fun _ w' ⟨he, hw⟩ => ⟨_, w, he, by rw [hw]; exact e, gr_refl _ _, [], rfl, ?_⟩⟩
    exact H.2.2
  | cons x l =>
    obtain ⟨ad, rfl, hc⟩ := hR.cells (by simp)
    have h0 := hc 0 x rfl
    obtain ⟨bk, o, sp⟩ := ad
    have hsp : sp = none := by
      simp only [Addr.add, if_true] at h0
      unfold World.cell? at h0
      split at h0
      · cases sp with
        | none => rfl
        | some q => simp at h0
      · cases h0
    subst hsp
    have hlt := hR.lt (by simp) (g := bk) rfl
    have e1 : ((x :: l).map fun y => (⟨⟨y⟩⟩ : ByteArray)).map (fun y => y.data.toList) = x :: l := by
      rw [List.map_map]
      exact List.map_id _
    refine ⟨by kernel_rfl, fun w1 e => ?_⟩
    have h := Tryd.strings_Join bk o c ((x :: l).map fun y => (⟨⟨y⟩⟩ : ByteArray)) ⟨⟨sep⟩⟩ w1 (fun j y hj => by
      rw [List.getElem?_map] at hj
      cases hy : (x :: l)[j]? with
      | none => rw [hy] at hj; cases hj
      | some z =>
        rw [hy] at hj
        simp only [Option.map_some, Option.some.injEq] at hj
        subst hj
        have h2 := hc j z hy
        rw [e.cell]
        change w.cell? _ = some (vs z)
        cases j with
        | zero => simpa [Addr.add] using h2
        | succ j => simpa [Addr.add] using h2) (by rw [e.heap]; exact hlt) (by rw [List.length_map]; exact H.1) (by rw [List.length_map]; exact hR.cap) (by rw [e1]; exact H.2.1)
    rw [e1, List.length_map] at h
    exact h.mono fun _ w' ⟨he, hb⟩ => ⟨_, w', he, Eqv.refl _, eqv_gr e (gr_below hb none), _, rfl, H.2.2⟩
def M_strings_Count (s sub : List UInt8) (K : Int → Prop) : Prop := s.length < 4294967281 ∧ 1 ≤ sub.length ∧ K ((Lib.countB ⟨⟨s⟩⟩ ⟨⟨sub⟩⟩ : Nat) : Int)
theorem W_strings_Count {S : List Nat} {w : World} {s sub : List UInt8} {K : Int → Prop} (hG : GOK S w) (h100 : 100 ∈ S) (H : M_strings_Count s sub K) : Fn Tryd.prog 58 ⟨[vs s, vs sub]⟩ w (fun v w' => w = w' ∧ ∃ r : Int, v = .int .i64 r ∧ K r) := by
  obtain ⟨m, hm⟩ := hG.ml h100
  refine ⟨by kernel_rfl, fun w1 e => (Tryd.strings_Count_any ⟨⟨s⟩⟩ ⟨⟨sub⟩⟩ m w1 H.1 (by rw [e.cell]; exact hm) H.2.1).mono fun _ _ ⟨he, hw⟩ => ⟨_, w, he, by rw [hw]; exact e, rfl, _, rfl, H.2.2⟩⟩
def splitN (sep s : List UInt8) (n : Nat) : List (List UInt8) := Lib.splitK sep 0 (min n (s.length + 1) - 1) s
def M_strings_SplitN (s sep : List UInt8) (n : Int) (K : List (List UInt8) → Prop) : Prop := s.length < 4294967281 ∧ 1 ≤ sep.length ∧ 1 ≤ n ∧ n ≤ 9223372036854775807 ∧ K (splitN sep s n.toNat)
theorem Own.ofPad {α : Type} {f : α → Value} {w : World} {B g : Nat} {e : TypeId} {xs : List α} {c : Nat} {pad : List Value} (h : w.heap[g]? = some (.cells ⟨xs.map f ++ pad⟩ e (0, 0))) (hB : B ≤ g) (hc : xs.length + pad.length = c) (hm : c ≤ maxLen) : Own f w B e (some ⟨g, 0, none⟩) c xs := by
  unfold Own
  exact ⟨by simp, .inr ⟨g, c, ⟨xs.map f ++ pad⟩, rfl, hB, h, by omega, hm, by simp; omega, by rw [Nat.mul_one, List.take_left' (by simp)]⟩⟩
theorem W_strings_SplitN {S : List Nat} {w : World} {s sep : List UInt8} {n : Int} {K : List (List UInt8) → Prop} (hG : GOK S w) (h100 : 100 ∈ S) (H : M_strings_SplitN s sep n K) : Fn Tryd.prog 59 ⟨[vs s, vs sep, .int .i64 n]⟩ w (fun v w' => w.grownBy w' none ∧ ∃ (r : List (List UInt8)) (A : Option Addr) (c : Nat), v = .slice A r.length c ∧ Own vs w' w.heap.size 9 A c r ∧ K r) := by
  obtain ⟨m, hm⟩ := hG.ml h100
  obtain ⟨H1, H2, H3, H4, H5⟩ := H
  obtain ⟨k, rfl⟩ : ∃ k : Nat, n = (k : Int) := ⟨n.toNat, by omega⟩
  rw [Int.toNat_natCast] at H5
  refine ⟨by kernel_rfl, fun w1 e => (Tryd.strings_SplitN ⟨⟨s⟩⟩ ⟨⟨sep⟩⟩ k m w1 H1 (by rw [e.cell]; exact hm) H2 (by omega) (by omega)).mono fun _ w' ⟨he, hw⟩ => ?_⟩
  obtain ⟨N, hN⟩ : ∃ N, N = min k ((⟨⟨s⟩⟩ : ByteArray).size + 1) := ⟨_, rfl⟩
  have hN' : N = min k (s.length + 1) := hN
  rw [← hN] at he hw
  obtain ⟨bsl, hbs⟩ : ∃ bsl, bsl = Lib.splitB ⟨⟨sep⟩⟩ 0 (N - 1) ⟨⟨s⟩⟩ := ⟨_, rfl⟩
  have hle : bsl.length ≤ N := by
    have := Lib.splitB_length_le ⟨⟨sep⟩⟩ 0 (N - 1) ⟨⟨s⟩⟩
    rw [← hbs] at this
    have : 1 ≤ N := by omega
    omega
  have hmap : bsl.map Value.string = (splitN sep s k).map vs := by
    have h := Lib.splitB_data ⟨⟨sep⟩⟩ 0 (N - 1) ⟨⟨s⟩⟩
    unfold splitN
    rw [← hN', show Lib.splitK sep 0 (N - 1) s = _ from h.symm, List.map_map, hbs]
    rfl
  have hlen : bsl.length = (splitN sep s k).length := by have := congrArg List.length hmap; simpa using this
  rw [← hbs] at he hw
  have hcells : Lib.cellsOf bsl N = ⟨(splitN sep s k).map vs ++ List.replicate (N - bsl.length) (vs [])⟩ := by
    unfold Lib.cellsOf
    rw [hmap]
    rfl
  rw [hcells] at hw
  have hb : w'.heap[w.heap.size]? = some (.cells ⟨(splitN sep s k).map vs ++ List.replicate (N - bsl.length) (vs [])⟩ 9 (0, 0)) := by
    rw [hw, ← e.heap]
    exact heap_alloc_new w1 _
  have hg : w.grownBy w' none := by rw [hw]; exact eqv_gr e (gr_alloc w1 _ none)
  exact ⟨_, w', he, Eqv.refl _, hg, splitN sep s k, some ⟨w.heap.size, 0, none⟩, N, by rw [e.heap, hlen], Own.ofPad hb (Nat.le_refl _) (by simp; omega) (by simp only [maxLen]; omega), H5⟩
end Go.Proofs.YtjinkmipkfjblaaDoor


 /- Printed by a program (wip/vg): elements of several cells. -/
namespace Go.Proofs.YtjinkmipkfjblaaDoor
open Go Go.RowKit
end Go.Proofs.YtjinkmipkfjblaaDoor

 /- Printed by a program (wip/vg): what the functions mean, plainly, and their walks. -/
namespace Go.Proofs.YtjinkmipkfjblaaDoor
open Go Go.RowKit
attribute [local irreducible] WL WC WX WQ WK WJ Yld Eff Ef0 Fn
end Go.Proofs.YtjinkmipkfjblaaDoor

 /- smithysee.sentinel: the number of one of api's variables. -/
namespace Go.Proofs.YtjinkmipkfjblaaDoor
open Go Go.RowKit
attribute [local irreducible] WL WC WX WQ WK WJ Yld Eff Ef0 Fn
end Go.Proofs.YtjinkmipkfjblaaDoor


 /- Printed by a program (wip/vg): what the functions mean, plainly, and their walks. -/
namespace Go.Proofs.YtjinkmipkfjblaaDoor
open Go Go.RowKit
attribute [local irreducible] WL WC WX WQ WK WJ Yld Eff Ef0 Fn
end Go.Proofs.YtjinkmipkfjblaaDoor

 /- Printed by a program (wip/vg): what the functions mean, plainly, and their walks. -/
namespace Go.Proofs.YtjinkmipkfjblaaDoor
open Go Go.RowKit
attribute [local irreducible] WL WC WX WQ WK WJ Yld Eff Ef0 Fn
def M_internal_stringslite_HasPrefix (s : List UInt8) (prefix_ : List UInt8) (K : Bool → Prop) : Prop :=
 ((decide ((prefix_.length : Int) ≤ (s.length : Int))) = true → (0 ≤ (prefix_.length : Int) ∧ (prefix_.length : Int) ≤ s.length)) ∧
 K ((decide ((prefix_.length : Int) ≤ (s.length : Int))) && (decide ((s.take (prefix_.length : Int).toNat) = prefix_)))

def M_strings_HasPrefix (s : List UInt8) (prefix_ : List UInt8) (K : Bool → Prop) : Prop :=
 M_internal_stringslite_HasPrefix s prefix_ (fun (t4 : Bool) =>
 K t4)

def M_str_IsDigits (s : List UInt8) (K : Bool → Prop) : Prop :=
 Lp1 (fun (t6 : Int) k_1 => ((t6 < (s.length : Int) → (0 ≤ t6 ∧ t6 < s.length) ∧
 ((decide (((s.getD t6.toNat 0).toNat : Int) < (48 : Int))) = false → (0 ≤ t6 ∧ t6 < s.length)) ∧
 ((((decide (((s.getD t6.toNat 0).toNat : Int) < (48 : Int))) || (decide ((57 : Int) < ((s.getD t6.toNat 0).toNat : Int)))) = true → K false) ∧
 (((decide (((s.getD t6.toNat 0).toNat : Int) < (48 : Int))) || (decide ((57 : Int) < ((s.getD t6.toNat 0).toNat : Int)))) = false → (In .i64 (t6 + (1 : Int))) ∧
 k_1 (t6 + (1 : Int))))) ∧
 (¬ (t6 < (s.length : Int)) → K (!decide (s = ([] : List UInt8)))))) (0 : Int)

def M_slices_Index_string_string (s : List (List UInt8)) (v : List UInt8) (K : Int → Prop) : Prop :=
 (s.length ≤ maxLen →
 Lp1 (fun (t8 : Int) k_1 => ((t8 < (s.length : Int) → (0 ≤ t8 ∧ t8 < (s.length : Nat)) ∧
 ((v = (s.getD t8.toNat []) → K t8) ∧
 (¬ (v = (s.getD t8.toNat [])) → (In .i64 (t8 + (1 : Int))) ∧
 k_1 (t8 + (1 : Int))))) ∧
 (¬ (t8 < (s.length : Int)) → K (-1 : Int)))) (0 : Int))

def M_slices_Contains_string_string (s : List (List UInt8)) (v : List UInt8) (K : Bool → Prop) : Prop :=
 (s.length ≤ maxLen →
 M_slices_Index_string_string s v (fun (t7 : Int) =>
 K (decide ((0 : Int) ≤ t7))))

def M_lex_letter (c : Int) (K : Bool → Prop) : Prop :=
 K ((((decide ((97 : Int) ≤ c)) && (decide (c ≤ (122 : Int)))) || ((decide ((65 : Int) ≤ c)) && (decide (c ≤ (90 : Int))))) || (decide (c = (95 : Int))))

def M_lex_digit (c : Int) (K : Bool → Prop) : Prop :=
 K ((decide ((48 : Int) ≤ c)) && (decide (c ≤ (57 : Int))))

def M_lex_Words (K : (List (List UInt8)) → Prop) : Prop :=
 K ([([70, 97, 108, 115, 101] : List UInt8), ([78, 111, 110, 101] : List UInt8), ([84, 114, 117, 101] : List UInt8), ([97, 110, 100] : List UInt8), ([98, 114, 101, 97, 107] : List UInt8), ([99, 111, 110, 116, 105, 110, 117, 101] : List UInt8), ([100, 101, 102] : List UInt8), ([101, 108, 105, 102] : List UInt8), ([101, 108, 115, 101] : List UInt8), ([102, 111, 114] : List UInt8), ([105, 102] : List UInt8), ([105, 110] : List UInt8), ([108, 111, 97, 100] : List UInt8), ([110, 111, 116] : List UInt8), ([111, 114] : List UInt8), ([112, 97, 115, 115] : List UInt8), ([114, 101, 116, 117, 114, 110] : List UInt8)] : List (List UInt8))

def M_lex_Name (s : List UInt8) (K : Bool → Prop) : Prop :=
 Lp1 (fun (t6 : Int) k_1 => ((t6 < (s.length : Int) → (0 ≤ t6 ∧ t6 < s.length) ∧
 M_lex_letter ((s.getD t6.toNat 0).toNat : Int) (fun (t12 : Bool) =>
 ∃ J1 : Bool → Prop, ((((!t12) = true → (((decide (t6 = (0 : Int))) = true → J1 true) ∧
 ((decide (t6 = (0 : Int))) = false → (0 ≤ t6 ∧ t6 < s.length) ∧
 M_lex_digit ((s.getD t6.toNat 0).toNat : Int) (fun (t21 : Bool) =>
 J1 (!t21))))) ∧
 ((!t12) = false → J1 false))) ∧
 (∀ q1 : Bool, J1 q1 → ((q1 = true → K false) ∧
 (q1 = false → (In .i64 (t6 + (1 : Int))) ∧
 k_1 (t6 + (1 : Int))))))) ∧
 (¬ (t6 < (s.length : Int)) → ∃ J2 : Bool → Prop, ((((!decide (s = ([] : List UInt8))) = true → M_lex_Words (fun (t29 : List (List UInt8)) =>
 M_slices_Contains_string_string t29 s (fun (t31 : Bool) =>
 J2 (!t31)))) ∧
 ((!decide (s = ([] : List UInt8))) = false → J2 false))) ∧
 (∀ q2 : Bool, J2 q2 → K q2)))) (0 : Int)

def M_pstr_former_item (f_b_buf : List UInt8) (f_l : List (List UInt8)) (f_by : List (List UInt8 × List UInt8)) (f_next : Int) (f_told : Bool) (f_bad : Bool) (k : Int) (K : (List UInt8) → Int → Bool → Bool → Prop) : Prop :=
 (f_b_buf.length ≤ maxLen →
 (f_l.length ≤ maxLen →
 (((f_l.length : Int) ≤ k → K f_b_buf f_next f_told true) ∧
 (¬ ((f_l.length : Int) ≤ k) → (0 ≤ k ∧ k < (f_l.length : Nat)) ∧
 (f_b_buf.length + (f_l.getD k.toNat []).length ≤ 140737488355328) ∧
 K (f_b_buf ++ (f_l.getD k.toNat [])) f_next f_told f_bad))))

def M_pstr_former_value (f_b_buf : List UInt8) (f_l : List (List UInt8)) (f_by : List (List UInt8 × List UInt8)) (f_next : Int) (f_told : Bool) (f_bad : Bool) (name : List UInt8) (K : (List UInt8) → Int → Bool → Bool → Prop) : Prop :=
 (f_b_buf.length ≤ maxLen →
 (f_l.length ≤ maxLen →
 ((name = ([] : List UInt8) → M_pstr_former_item f_b_buf f_l f_by f_next f_told f_bad f_next (fun (f_ : List UInt8) (f_2 : Int) (f_3 : Bool) (f_4 : Bool) =>
 (In .i64 (f_2 + (1 : Int))) ∧
 K f_ (f_2 + (1 : Int)) f_3 (f_4 || f_3))) ∧
 (¬ (name = ([] : List UInt8)) → M_str_IsDigits name (fun (t69 : Bool) =>
 (((t69 && (decide ((name.length : Int) ≤ (9 : Int)))) = true → Lp2 (fun (k : Int) (t77 : Int) k_1 => ((t77 < (name.length : Int) → (In .i64 ((10 : Int) * k)) ∧
 (0 ≤ t77 ∧ t77 < name.length) ∧
 (In .u8 (((name.getD t77.toNat 0).toNat : Int) - (48 : Int))) ∧
 (In .i64 (((name.getD t77.toNat 0).toNat : Int) - (48 : Int))) ∧
 (In .i64 (((10 : Int) * k) + (((name.getD t77.toNat 0).toNat : Int) - (48 : Int)))) ∧
 (In .i64 (t77 + (1 : Int))) ∧
 k_1 (((10 : Int) * k) + (((name.getD t77.toNat 0).toNat : Int) - (48 : Int))) (t77 + (1 : Int))) ∧
 (¬ (t77 < (name.length : Int)) → M_pstr_former_item f_b_buf f_l f_by f_next f_told f_bad k (fun (f_5 : List UInt8) (f_6 : Int) (f_7 : Bool) (f_8 : Bool) =>
 K f_5 f_6 true (f_8 || (decide ((0 : Int) < f_6))))))) (0 : Int) (0 : Int)) ∧
 ((t69 && (decide ((name.length : Int) ≤ (9 : Int)))) = false → (name.length ≤ maxLen) ∧
 ∃ J1 : Bool → Prop, ((((f_bad || (!((mget f_by name).isSome))) = true → J1 true) ∧
 ((f_bad || (!((mget f_by name).isSome))) = false → M_lex_Name name (fun (t28 : Bool) =>
 J1 (!t28))))) ∧
 (∀ q5 : Bool, J1 q5 → (f_b_buf.length + ((mget f_by name).getD []).length ≤ 140737488355328) ∧
 K (f_b_buf ++ ((mget f_by name).getD [])) f_next f_told q5))))))))

def M_pstr_former_piece (f_b_buf : List UInt8) (f_l : List (List UInt8)) (f_by : List (List UInt8 × List UInt8)) (f_next : Int) (f_told : Bool) (f_bad : Bool) (s : List UInt8) (K : Int → (List UInt8) → Int → Bool → Bool → Prop) : Prop :=
 (f_b_buf.length ≤ maxLen →
 (f_l.length ≤ maxLen →
 ∃ J1 : Bool → Prop, (M_strings_HasPrefix s ([123, 123] : List UInt8) (fun (t62 : Bool) =>
 ((t62 = true → J1 t62) ∧
 (t62 = false → M_strings_HasPrefix s ([125, 125] : List UInt8) (fun (t63 : Bool) =>
 J1 t63))))) ∧
 (∀ t6 : Bool, J1 t6 → ((t6 = true → (0 ≤ (0 : Int) ∧ (0 : Int) < s.length) ∧
 (f_b_buf.length + ([s.getD 0 0] : List UInt8).length ≤ 140737488355328) ∧
 K (2 : Int) (f_b_buf ++ [s.getD 0 0]) f_next f_told f_bad) ∧
 (t6 = false → (0 ≤ (0 : Int) ∧ (0 : Int) < s.length) ∧
 ((((s.getD 0 0).toNat : Int) = (125 : Int) → K (1 : Int) f_b_buf f_next f_told true) ∧
 (¬ (((s.getD 0 0).toNat : Int) = (125 : Int)) → (0 ≤ (0 : Int) ∧ (0 : Int) < s.length) ∧
 ((¬ (((s.getD 0 0).toNat : Int) = (123 : Int)) → (0 ≤ (0 : Int) ∧ (0 : Int) < s.length) ∧
 (f_b_buf.length + ([s.getD 0 0] : List UInt8).length ≤ 140737488355328) ∧
 K (1 : Int) (f_b_buf ++ [s.getD 0 0]) f_next f_told f_bad) ∧
 (((s.getD 0 0).toNat : Int) = (123 : Int) → M_strings_IndexByte s (125 : Int) (fun (end_ : Int) =>
 ((end_ < (0 : Int) → K (1 : Int) f_b_buf f_next f_told true) ∧
 (¬ (end_ < (0 : Int)) → (0 ≤ (1 : Int) ∧ (1 : Int) ≤ end_ ∧ end_ ≤ s.length) ∧
 M_pstr_former_value f_b_buf f_l f_by f_next f_told f_bad ((s.drop 1).take (end_.toNat - 1)) (fun (f_ : List UInt8) (f_2 : Int) (f_3 : Bool) (f_4 : Bool) =>
 (In .i64 (end_ + (1 : Int))) ∧
 K (end_ + (1 : Int)) f_ f_2 f_3 f_4)))))))))))))

def M_str_Format (s : List UInt8) (l : List (List UInt8)) (names : List (List UInt8)) (values : List (List UInt8)) (K : (List UInt8) → Er → Prop) : Prop :=
 (l.length ≤ maxLen →
 (names.length ≤ maxLen →
 (values.length ≤ maxLen →
 Lp2 (fun (t22 : Int) (t193 : List (List UInt8 × List UInt8)) k_1 => ((t22 < (names.length : Int) → ∃ J1 : (List (List UInt8 × List UInt8)) → Prop, ((0 ≤ t22 ∧ t22 < (names.length : Nat)) ∧
 ((names.getD t22.toNat []).length ≤ maxLen) ∧
 ((((!((mget t193 (names.getD t22.toNat [])).isSome)) && (decide (t22 < (values.length : Int)))) = true → (0 ≤ t22 ∧ t22 < (values.length : Nat)) ∧
 ((names.getD t22.toNat []).length ≤ maxLen ∧ t193.length < maxLen) ∧
 J1 (mput t193 (names.getD t22.toNat []) (values.getD t22.toNat []))) ∧
 (((!((mget t193 (names.getD t22.toNat [])).isSome)) && (decide (t22 < (values.length : Int)))) = false → J1 t193))) ∧
 (∀ t1932 : List (List UInt8 × List UInt8), J1 t1932 → (In .i64 (t22 + (1 : Int))) ∧
 k_1 (t22 + (1 : Int)) t1932)) ∧
 (¬ (t22 < (names.length : Int)) → Lp5 (fun (i : Int) (t191 : List UInt8) (t194 : Int) (t195 : Bool) (t196 : Bool) k_2 => ((((decide (i < (s.length : Int))) && (!t196)) = true → (0 ≤ i ∧ i ≤ s.length) ∧
 M_pstr_former_piece t191 l t193 t194 t195 t196 (s.drop i.toNat) (fun (t70 : Int) (t19_ : List UInt8) (t19_2 : Int) (t19_3 : Bool) (t19_4 : Bool) =>
 (In .i64 (i + t70)) ∧
 (((1024 : Int) < (t19_.length : Int) → K ([] : List UInt8) (Er.e 7)) ∧
 (¬ ((1024 : Int) < (t19_.length : Int)) → k_2 (i + t70) t19_ t19_2 t19_3 t19_4)))) ∧
 (((decide (i < (s.length : Int))) && (!t196)) = false → ((t196 = true → K ([] : List UInt8) (Er.e 3)) ∧
 (t196 = false → K t191 Er.ok))))) (0 : Int) [] (0 : Int) false false))) (0 : Int) ([] : List (List UInt8 × List UInt8)))))

set_option maxHeartbeats 8000000 in
theorem W_internal_stringslite_HasPrefix {w : World} {s : List UInt8} {prefix_ : List UInt8} {K : Bool → Prop} (H : M_internal_stringslite_HasPrefix s prefix_ K) : Fn Tryd.prog 97 ⟨[vs s, vs prefix_]⟩ w (fun v w' => w = w' ∧ ∃ (r : Bool), v = .bool r ∧ K r) := by
  unfold M_internal_stringslite_HasPrefix at H
  refine Fn.enter (by kernel_rfl) Tryd.func97 rfl Tryd.ntmps97 rfl ?_
  refine WC.seq ?_
  refine WC.region ?_
  refine WL.y rfl (Yld.pure tab_ok rfl) ?_
  refine WL.nil (WX.then_normal ?_)
  refine WC.seq ?_
  refine WC.region ?_
  refine WL.y rfl (Yld.pure tab_ok rfl) ?_
  refine WL.y rfl (Yld.pure tab_ok rfl) ?_
  refine WL.y rfl (Yld.pure tab_ok rfl) ?_
  refine WL.y rfl (Yld.pure tab_ok rfl) ?_
  refine WL.y rfl (Yld.pure tab_ok rfl) ?_
  refine WL.y rfl (Yld.pure tab_ok rfl) ?_
  obtain ⟨h1, H⟩ := H
  refine WL.midF 7 (fun L' w' => ∃ q1 : Bool, L' = [(17, .bool q1)] ∧ q1 = ((decide ((prefix_.length : Int) ≤ (s.length : Int))) && (decide ((s.take (prefix_.length : Int).toNat) = prefix_))) ∧ w = w') ?_ (fun hQ => ?_)
  · rintro _ _ ⟨q1, rfl, rfl, rfl⟩
    refine WL.y rfl (Yld.pure tab_ok rfl) ?_
    refine WL.nil (WX.then_normal ?_)
    refine WC.ret ?_
    exact WX.ret1 rfl rfl ⟨rfl, (decide ((prefix_.length : Int) ≤ (s.length : Int))) && (decide ((s.take (prefix_.length : Int).toNat) = prefix_)), rfl, H⟩
  · clear H
    rcases Bool.eq_false_or_eq_true (decide ((prefix_.length : Int) ≤ (s.length : Int))) with b1 | b1
    · refine WL.gyes rfl rfl (okb b1) rfl (Yld.pure tab_ok rfl) ?_
      refine WL.gyes rfl rfl (okb b1) rfl (Yld.pure tab_ok rfl) ?_
      refine WL.gyes rfl rfl (okb b1) rfl (Yld.pure tab_ok rfl) ?_
      refine WL.gyes rfl rfl (okb b1) rfl (Yld.scut tab_ok rfl rfl rfl rfl (Int.le_refl 0) (h1 b1).1 (h1 b1).2) ?_
      refine WL.gyes rfl rfl (okb b1) rfl (Yld.pure tab_ok rfl) ?_
      refine WL.gyes rfl rfl (okb b1) rfl (Yld.pure tab_ok rfl) ?_
      refine WL.y rfl (Yld.pickT (okb b1) rfl) ?_
      exact WL.weaken (by repeat (first | exact Sub.nil | refine Sub.cons rfl ?_)) (hQ _ _ ⟨decide ((s.take (prefix_.length : Int).toNat) = prefix_), rfl, by rw [b1] <;> rfl, rfl⟩)
    · refine WL.gno rfl rfl (okb b1) rfl ?_
      refine WL.gno rfl rfl (okb b1) rfl ?_
      refine WL.gno rfl rfl (okb b1) rfl ?_
      refine WL.gno rfl rfl (okb b1) rfl ?_
      refine WL.gno rfl rfl (okb b1) rfl ?_
      refine WL.gno rfl rfl (okb b1) rfl ?_
      refine WL.y rfl (Yld.pickF (okb b1) rfl) ?_
      exact WL.weaken (by repeat (first | exact Sub.nil | refine Sub.cons rfl ?_)) (hQ _ _ ⟨false, rfl, by rw [b1] <;> rfl, rfl⟩)

set_option maxHeartbeats 8000000 in
theorem W_strings_HasPrefix {w : World} {s : List UInt8} {prefix_ : List UInt8} {K : Bool → Prop} (H : M_strings_HasPrefix s prefix_ K) : Fn Tryd.prog 92 ⟨[vs s, vs prefix_]⟩ w (fun v w' => w = w' ∧ ∃ (r : Bool), v = .bool r ∧ K r) := by
  unfold M_strings_HasPrefix at H
  refine Fn.enter (by kernel_rfl) Tryd.func92 rfl Tryd.ntmps92 rfl ?_
  refine WC.seq ?_
  refine WC.region ?_
  refine WL.y rfl (Yld.pure tab_ok rfl) ?_
  refine WL.nil (WX.then_normal ?_)
  refine WC.seq ?_
  refine WC.region ?_
  refine WL.y rfl (Yld.pure tab_ok rfl) ?_
  refine WL.y rfl (Yld.pure tab_ok rfl) ?_
  refine WL.call rfl rfl (W_internal_stringslite_HasPrefix H) ?_
  rintro _ _ ⟨rfl, t4, rfl, H⟩
  refine WL.y rfl (Yld.pure tab_ok rfl) ?_
  refine WL.nil (WX.then_normal ?_)
  refine WC.ret ?_
  exact WX.ret1 rfl rfl ⟨rfl, t4, rfl, H⟩

set_option maxHeartbeats 8000000 in
theorem W_str_IsDigits {w : World} {s : List UInt8} {K : Bool → Prop} (H : M_str_IsDigits s K) : Fn Tryd.prog 42 ⟨[vs s]⟩ w (fun v w' => w = w' ∧ ∃ (r : Bool), v = .bool r ∧ K r) := by
  unfold M_str_IsDigits at H
  refine Fn.enter (by kernel_rfl) Tryd.func42 rfl Tryd.ntmps42 rfl ?_
  refine WC.seq ?_
  refine WC.region ?_
  refine WL.y rfl (Yld.pure tab_ok rfl) ?_
  refine WL.nil (WX.then_normal ?_)
  refine WC.seq ?_
  refine WC.seq ?_
  refine WC.region ?_
  refine WL.y rfl (Yld.pure tab_ok rfl) ?_
  refine WL.y rfl (Yld.pure tab_ok rfl) ?_
  refine WL.y rfl (Yld.pure tab_ok rfl) ?_
  refine WL.nil (WX.then_normal ?_)
  refine WC.block ?_
  obtain ⟨I1, mu1, h0_1, HR1⟩ := H
  refine WC.loopF (fun n' L' w' => ∃ (t6 : Int), n' = mu1 t6 ∧ L' = [(0, vs s), (5, .int .i64 (s.length : Int)), (6, .int .i64 t6)] ∧ I1 t6 ∧ w = w') _ _ ⟨(0 : Int), rfl, rfl, h0_1, rfl⟩ (by repeat (first | exact Sub.nil | refine Sub.cons rfl ?_)) ?_
  clear h0_1
  rintro _ _ _ ⟨t6, rfl, rfl, hI1, rfl⟩
  have H := HR1 t6 hI1
  refine WC.seq ?_
  refine WC.region ?_
  refine WL.y rfl (Yld.pure tab_ok rfl) ?_
  refine WL.nil (WX.then_normal ?_)
  refine WC.seq ?_
  refine WC.cond rfl (fun b1 => ?_) (fun b1 => ?_)
  · replace H := H.1 (of_decide_eq_true b1)
    refine WC.skip (WX.then_normal ?_)
    refine WC.seq ?_
    refine WC.block ?_
    refine WC.seq ?_
    refine WC.region ?_
    refine WL.y rfl (Yld.pure tab_ok rfl) ?_
    refine WL.y rfl (Yld.pure tab_ok rfl) ?_
    refine WL.nil (WX.then_normal ?_)
    refine WC.seq ?_
    refine WC.region ?_
    refine WL.y rfl (Yld.pure tab_ok rfl) ?_
    refine WL.y rfl (Yld.pure tab_ok rfl) ?_
    obtain ⟨h1, H⟩ := H
    refine WL.y rfl (Yld.sidx tab_ok rfl rfl rfl h1.1 h1.2) ?_
    refine WL.y rfl (Yld.pure tab_ok rfl) ?_
    refine WL.y rfl (Yld.pure tab_ok rfl) ?_
    obtain ⟨h2, H⟩ := H
    refine WL.midF 5 (fun L' w' => ∃ q1 : Bool, L' = [(18, .bool q1), (0, vs s), (5, .int .i64 (s.length : Int)), (6, .int .i64 t6)] ∧ q1 = ((decide (((s.getD t6.toNat 0).toNat : Int) < (48 : Int))) || (decide ((57 : Int) < ((s.getD t6.toNat 0).toNat : Int)))) ∧ w = w') ?_ (fun hQ => ?_)
    · rintro _ _ ⟨q1, rfl, rfl, rfl⟩
      refine WL.nil (WX.then_normal ?_)
      refine WC.cond rfl (fun b2 => ?_) (fun b2 => ?_)
      · replace H := H.1 (b2)
        refine WC.seq ?_
        refine WC.region ?_
        refine WL.y rfl (Yld.pure tab_ok rfl) ?_
        refine WL.nil (WX.then_normal ?_)
        refine WC.ret (WX.block_ret (WX.then_ret (WX.then_ret (WX.block_ret (WX.then_ret ?_)))))
        exact WX.ret1 rfl rfl ⟨rfl, false, rfl, H⟩
      · replace H := H.2 (b2)
        refine WC.skip (WX.block_normal (WX.then_normal ?_))
        refine WC.region ?_
        obtain ⟨h3, H⟩ := H
        refine WL.y rfl (Yld.add rfl rfl h3) ?_
        refine WL.y rfl (Yld.pure tab_ok rfl) ?_
        refine WL.nil ?_
        exact WX.roundF _ ⟨t6 + (1 : Int), rfl, rfl, H.1, rfl⟩ (by repeat (first | exact Sub.nil | refine Sub.cons rfl ?_)) H.2
    · clear H
      rcases Bool.eq_false_or_eq_true (decide (((s.getD t6.toNat 0).toNat : Int) < (48 : Int))) with b3 | b3
      · refine WL.gno rfl rfl (okb b3) rfl ?_
        refine WL.gno rfl rfl (okb b3) rfl ?_
        refine WL.gno rfl rfl (okb b3) rfl ?_
        refine WL.gno rfl rfl (okb b3) rfl ?_
        refine WL.y rfl (Yld.pickT (okb b3) rfl) ?_
        exact WL.weaken (by repeat (first | exact Sub.nil | refine Sub.cons rfl ?_)) (hQ _ _ ⟨true, rfl, by rw [b3] <;> rfl, rfl⟩)
      · refine WL.gyes rfl rfl (okb b3) rfl (Yld.pure tab_ok rfl) ?_
        refine WL.gyes rfl rfl (okb b3) rfl (Yld.pure tab_ok rfl) ?_
        refine WL.gyes rfl rfl (okb b3) rfl (Yld.sidx tab_ok rfl rfl rfl (h2 b3).1 (h2 b3).2) ?_
        refine WL.gyes rfl rfl (okb b3) rfl (Yld.pure tab_ok rfl) ?_
        refine WL.y rfl (Yld.pickF (okb b3) rfl) ?_
        exact WL.weaken (by repeat (first | exact Sub.nil | refine Sub.cons rfl ?_)) (hQ _ _ ⟨decide ((57 : Int) < ((s.getD t6.toNat 0).toNat : Int)), rfl, by rw [b3] <;> rfl, rfl⟩)
  · replace H := H.2 (of_decide_eq_false b1)
    refine WC.exit (WX.then_exit (WX.then_exit (WX.block_same (WX.then_normal ?_))))
    refine WC.seq ?_
    refine WC.region ?_
    refine WL.y rfl (Yld.pure tab_ok rfl) ?_
    refine WL.y rfl (Yld.pure tab_ok rfl) ?_
    refine WL.y rfl (Yld.pure tab_ok rfl) ?_
    refine WL.nil (WX.then_normal ?_)
    refine WC.ret ?_
    exact WX.ret1 rfl rfl ⟨rfl, !decide (s = ([] : List UInt8)), rfl, H⟩

set_option maxHeartbeats 8000000 in
theorem W_slices_Index_string_string {w : World} {s : List (List UInt8)} {A_s : Option Addr} {c_s : Nat} {v : List UInt8} {n_s : Nat} {K : Int → Prop} (hs : Rd vs w A_s c_s s) (hn_s : n_s = s.length) (H : M_slices_Index_string_string s v K) : Fn Tryd.prog 142 ⟨[.slice A_s n_s c_s, vs v]⟩ w (fun v w' => w = w' ∧ ∃ (r : Int), v = .int .i64 r ∧ K r) := by
  subst hn_s
  unfold M_slices_Index_string_string at H
  refine Fn.enter (by kernel_rfl) Tryd.func142 rfl Tryd.ntmps142 rfl ?_
  replace H := H (Nat.le_trans hs.cap hs.max)
  refine WC.seq ?_
  refine WC.region ?_
  refine WL.y rfl (Yld.pure tab_ok rfl) ?_
  refine WL.nil (WX.then_normal ?_)
  refine WC.seq ?_
  refine WC.seq ?_
  refine WC.region ?_
  refine WL.y rfl (Yld.pure tab_ok rfl) ?_
  refine WL.y rfl (Yld.pure tab_ok rfl) ?_
  refine WL.y rfl (Yld.pure tab_ok rfl) ?_
  refine WL.nil (WX.then_normal ?_)
  refine WC.block ?_
  obtain ⟨I1, mu1, h0_1, HR1⟩ := H
  refine WC.loopF (fun n' L' w' => ∃ (t8 : Int), n' = mu1 t8 ∧ L' = [(0, .slice A_s s.length c_s), (1, vs v), (7, .int .i64 (s.length : Int)), (8, .int .i64 t8)] ∧ I1 t8 ∧ w = w') _ _ ⟨(0 : Int), rfl, rfl, h0_1, rfl⟩ (by repeat (first | exact Sub.nil | refine Sub.cons rfl ?_)) ?_
  clear h0_1
  rintro _ _ _ ⟨t8, rfl, rfl, hI1, rfl⟩
  have H := HR1 t8 hI1
  refine WC.seq ?_
  refine WC.region ?_
  refine WL.y rfl (Yld.pure tab_ok rfl) ?_
  refine WL.nil (WX.then_normal ?_)
  refine WC.seq ?_
  refine WC.cond rfl (fun b1 => ?_) (fun b1 => ?_)
  · replace H := H.1 (of_decide_eq_true b1)
    refine WC.skip (WX.then_normal ?_)
    refine WC.seq ?_
    refine WC.block ?_
    refine WC.seq ?_
    refine WC.region ?_
    refine WL.y rfl (Yld.pure tab_ok rfl) ?_
    refine WL.y rfl (Yld.pure tab_ok rfl) ?_
    refine WL.nil (WX.then_normal ?_)
    refine WC.seq ?_
    refine WC.region ?_
    refine WL.y rfl (Yld.pure tab_ok rfl) ?_
    refine WL.y rfl (Yld.pure tab_ok rfl) ?_
    refine WL.y rfl (Yld.pure tab_ok rfl) ?_
    obtain ⟨h1, H⟩ := H
    refine WL.y rfl (Yld.iaddrW tab_ok hs rfl rfl rfl rfl h1.1 h1.2) ?_
    refine WL.y rfl (Yld.iload [] tab_ok hs rfl rfl (iltN h1 rfl)) ?_
    refine WL.y rfl (Yld.pure tab_ok rfl) ?_
    refine WL.nil (WX.then_normal ?_)
    refine WC.cond rfl (fun b2 => ?_) (fun b2 => ?_)
    · replace H := H.1 (of_decide_eq_true b2)
      refine WC.seq ?_
      refine WC.region ?_
      refine WL.y rfl (Yld.pure tab_ok rfl) ?_
      refine WL.y rfl (Yld.pure tab_ok rfl) ?_
      refine WL.nil (WX.then_normal ?_)
      refine WC.ret (WX.block_ret (WX.then_ret (WX.then_ret (WX.block_ret (WX.then_ret ?_)))))
      exact WX.ret1 rfl rfl ⟨rfl, t8, rfl, H⟩
    · replace H := H.2 (of_decide_eq_false b2)
      refine WC.skip (WX.block_normal (WX.then_normal ?_))
      refine WC.region ?_
      obtain ⟨h2, H⟩ := H
      refine WL.y rfl (Yld.add rfl rfl h2) ?_
      refine WL.y rfl (Yld.pure tab_ok rfl) ?_
      refine WL.nil ?_
      exact WX.roundF _ ⟨t8 + (1 : Int), rfl, rfl, H.1, rfl⟩ (by repeat (first | exact Sub.nil | refine Sub.cons rfl ?_)) H.2
  · replace H := H.2 (of_decide_eq_false b1)
    refine WC.exit (WX.then_exit (WX.then_exit (WX.block_same (WX.then_normal ?_))))
    refine WC.seq ?_
    refine WC.region ?_
    refine WL.y rfl (Yld.pure tab_ok rfl) ?_
    refine WL.nil (WX.then_normal ?_)
    refine WC.ret ?_
    exact WX.ret1 rfl rfl ⟨rfl, (-1 : Int), rfl, H⟩

set_option maxHeartbeats 8000000 in
theorem W_slices_Contains_string_string {w : World} {s : List (List UInt8)} {A_s : Option Addr} {c_s : Nat} {v : List UInt8} {n_s : Nat} {K : Bool → Prop} (hs : Rd vs w A_s c_s s) (hn_s : n_s = s.length) (H : M_slices_Contains_string_string s v K) : Fn Tryd.prog 138 ⟨[.slice A_s n_s c_s, vs v]⟩ w (fun v w' => w = w' ∧ ∃ (r : Bool), v = .bool r ∧ K r) := by
  subst hn_s
  unfold M_slices_Contains_string_string at H
  refine Fn.enter (by kernel_rfl) Tryd.func138 rfl Tryd.ntmps138 rfl ?_
  replace H := H (Nat.le_trans hs.cap hs.max)
  refine WC.seq ?_
  refine WC.region ?_
  refine WL.y rfl (Yld.pure tab_ok rfl) ?_
  refine WL.nil (WX.then_normal ?_)
  refine WC.seq ?_
  refine WC.region ?_
  refine WL.y rfl (Yld.pure tab_ok rfl) ?_
  refine WL.y rfl (Yld.pure tab_ok rfl) ?_
  refine WL.call rfl rfl (W_slices_Index_string_string hs rfl H) ?_
  rintro _ _ ⟨rfl, t7, rfl, H⟩
  refine WL.y rfl (Yld.pure tab_ok rfl) ?_
  refine WL.y rfl (Yld.pure tab_ok rfl) ?_
  refine WL.nil (WX.then_normal ?_)
  refine WC.ret ?_
  exact WX.ret1 rfl rfl ⟨rfl, decide ((0 : Int) ≤ t7), rfl, H⟩

set_option maxHeartbeats 8000000 in
theorem W_lex_letter {w : World} {c : Int} {K : Bool → Prop} (H : M_lex_letter c K) : Fn Tryd.prog 136 ⟨[.int .u8 c]⟩ w (fun v w' => w = w' ∧ ∃ (r : Bool), v = .bool r ∧ K r) := by
  unfold M_lex_letter at H
  refine Fn.enter (by kernel_rfl) Tryd.func136 rfl Tryd.ntmps136 rfl ?_
  refine WC.seq ?_
  refine WC.region ?_
  refine WL.y rfl (Yld.pure tab_ok rfl) ?_
  refine WL.nil (WX.then_normal ?_)
  refine WC.seq ?_
  refine WC.region ?_
  refine WL.y rfl (Yld.pure tab_ok rfl) ?_
  refine WL.y rfl (Yld.pure tab_ok rfl) ?_
  refine WL.y rfl (Yld.pure tab_ok rfl) ?_
  refine WL.midF 3 (fun L' w' => ∃ q1 : Bool, L' = [(8, .bool q1), (0, .int .u8 c)] ∧ q1 = ((decide ((97 : Int) ≤ c)) && (decide (c ≤ (122 : Int)))) ∧ w = w') ?_ (fun hQ => ?_)
  · rintro _ _ ⟨q1, rfl, rfl, rfl⟩
    refine WL.y rfl (Yld.pure tab_ok rfl) ?_
    refine WL.midF 7 (fun L' w' => ∃ q2 : Bool, L' = [(16, .bool q2), (0, .int .u8 c)] ∧ q2 = (((decide ((97 : Int) ≤ c)) && (decide (c ≤ (122 : Int)))) || ((decide ((65 : Int) ≤ c)) && (decide (c ≤ (90 : Int))))) ∧ w = w') ?_ (fun hQ => ?_)
    · rintro _ _ ⟨q2, rfl, rfl, rfl⟩
      refine WL.y rfl (Yld.pure tab_ok rfl) ?_
      refine WL.midF 3 (fun L' w' => ∃ q3 : Bool, L' = [(20, .bool q3)] ∧ q3 = ((((decide ((97 : Int) ≤ c)) && (decide (c ≤ (122 : Int)))) || ((decide ((65 : Int) ≤ c)) && (decide (c ≤ (90 : Int))))) || (decide (c = (95 : Int)))) ∧ w = w') ?_ (fun hQ => ?_)
      · rintro _ _ ⟨q3, rfl, rfl, rfl⟩
        refine WL.y rfl (Yld.pure tab_ok rfl) ?_
        refine WL.nil (WX.then_normal ?_)
        refine WC.ret ?_
        exact WX.ret1 rfl rfl ⟨rfl, (((decide ((97 : Int) ≤ c)) && (decide (c ≤ (122 : Int)))) || ((decide ((65 : Int) ≤ c)) && (decide (c ≤ (90 : Int))))) || (decide (c = (95 : Int))), rfl, H⟩
      · clear H
        rcases Bool.eq_false_or_eq_true (((decide ((97 : Int) ≤ c)) && (decide (c ≤ (122 : Int)))) || ((decide ((65 : Int) ≤ c)) && (decide (c ≤ (90 : Int))))) with b1 | b1
        · refine WL.gno rfl rfl (okb b1) rfl ?_
          refine WL.gno rfl rfl (okb b1) rfl ?_
          refine WL.y rfl (Yld.pickT (okb b1) rfl) ?_
          exact WL.weaken (by repeat (first | exact Sub.nil | refine Sub.cons rfl ?_)) (hQ _ _ ⟨true, rfl, by rw [b1] <;> rfl, rfl⟩)
        · refine WL.gyes rfl rfl (okb b1) rfl (Yld.pure tab_ok rfl) ?_
          refine WL.gyes rfl rfl (okb b1) rfl (Yld.pure tab_ok rfl) ?_
          refine WL.y rfl (Yld.pickF (okb b1) rfl) ?_
          exact WL.weaken (by repeat (first | exact Sub.nil | refine Sub.cons rfl ?_)) (hQ _ _ ⟨decide (c = (95 : Int)), rfl, by rw [b1] <;> rfl, rfl⟩)
    · clear H
      rcases Bool.eq_false_or_eq_true ((decide ((97 : Int) ≤ c)) && (decide (c ≤ (122 : Int)))) with b2 | b2
      · refine WL.gno rfl rfl (okb b2) rfl ?_
        refine WL.gno rfl rfl (okb b2) rfl ?_
        refine WL.gno rfl rfl (okb b2) rfl ?_
        refine WL.gun rfl rfl rfl rfl ?_
        refine WL.gun rfl rfl rfl rfl ?_
        refine WL.gno rfl rfl (okb b2) rfl ?_
        refine WL.y rfl (Yld.pickT (okb b2) rfl) ?_
        exact WL.weaken (by repeat (first | exact Sub.nil | refine Sub.cons rfl ?_)) (hQ _ _ ⟨true, rfl, by rw [b2] <;> rfl, rfl⟩)
      · refine WL.gyes rfl rfl (okb b2) rfl (Yld.pure tab_ok rfl) ?_
        refine WL.gyes rfl rfl (okb b2) rfl (Yld.pure tab_ok rfl) ?_
        refine WL.gyes rfl rfl (okb b2) rfl (Yld.pure tab_ok rfl) ?_
        rcases Bool.eq_false_or_eq_true (decide ((65 : Int) ≤ c)) with b3 | b3
        · refine WL.gyes rfl rfl (okb b3) rfl (Yld.pure tab_ok rfl) ?_
          refine WL.gyes rfl rfl (okb b3) rfl (Yld.pure tab_ok rfl) ?_
          refine WL.gyes rfl rfl (okb b2) rfl (Yld.pickT (okb b3) rfl) ?_
          refine WL.y rfl (Yld.pickF (okb b2) rfl) ?_
          exact WL.weaken (by repeat (first | exact Sub.nil | refine Sub.cons rfl ?_)) (hQ _ _ ⟨decide (c ≤ (90 : Int)), rfl, by rw [b2, b3] <;> rfl, rfl⟩)
        · refine WL.gno rfl rfl (okb b3) rfl ?_
          refine WL.gno rfl rfl (okb b3) rfl ?_
          refine WL.gyes rfl rfl (okb b2) rfl (Yld.pickF (okb b3) rfl) ?_
          refine WL.y rfl (Yld.pickF (okb b2) rfl) ?_
          exact WL.weaken (by repeat (first | exact Sub.nil | refine Sub.cons rfl ?_)) (hQ _ _ ⟨false, rfl, by rw [b2, b3] <;> rfl, rfl⟩)
  · clear H
    rcases Bool.eq_false_or_eq_true (decide ((97 : Int) ≤ c)) with b4 | b4
    · refine WL.gyes rfl rfl (okb b4) rfl (Yld.pure tab_ok rfl) ?_
      refine WL.gyes rfl rfl (okb b4) rfl (Yld.pure tab_ok rfl) ?_
      refine WL.y rfl (Yld.pickT (okb b4) rfl) ?_
      exact WL.weaken (by repeat (first | exact Sub.nil | refine Sub.cons rfl ?_)) (hQ _ _ ⟨decide (c ≤ (122 : Int)), rfl, by rw [b4] <;> rfl, rfl⟩)
    · refine WL.gno rfl rfl (okb b4) rfl ?_
      refine WL.gno rfl rfl (okb b4) rfl ?_
      refine WL.y rfl (Yld.pickF (okb b4) rfl) ?_
      exact WL.weaken (by repeat (first | exact Sub.nil | refine Sub.cons rfl ?_)) (hQ _ _ ⟨false, rfl, by rw [b4] <;> rfl, rfl⟩)

set_option maxHeartbeats 8000000 in
theorem W_lex_digit {w : World} {c : Int} {K : Bool → Prop} (H : M_lex_digit c K) : Fn Tryd.prog 137 ⟨[.int .u8 c]⟩ w (fun v w' => w = w' ∧ ∃ (r : Bool), v = .bool r ∧ K r) := by
  unfold M_lex_digit at H
  refine Fn.enter (by kernel_rfl) Tryd.func137 rfl Tryd.ntmps137 rfl ?_
  refine WC.seq ?_
  refine WC.region ?_
  refine WL.y rfl (Yld.pure tab_ok rfl) ?_
  refine WL.nil (WX.then_normal ?_)
  refine WC.seq ?_
  refine WC.region ?_
  refine WL.y rfl (Yld.pure tab_ok rfl) ?_
  refine WL.y rfl (Yld.pure tab_ok rfl) ?_
  refine WL.y rfl (Yld.pure tab_ok rfl) ?_
  refine WL.midF 3 (fun L' w' => ∃ q1 : Bool, L' = [(8, .bool q1)] ∧ q1 = ((decide ((48 : Int) ≤ c)) && (decide (c ≤ (57 : Int)))) ∧ w = w') ?_ (fun hQ => ?_)
  · rintro _ _ ⟨q1, rfl, rfl, rfl⟩
    refine WL.y rfl (Yld.pure tab_ok rfl) ?_
    refine WL.nil (WX.then_normal ?_)
    refine WC.ret ?_
    exact WX.ret1 rfl rfl ⟨rfl, (decide ((48 : Int) ≤ c)) && (decide (c ≤ (57 : Int))), rfl, H⟩
  · clear H
    rcases Bool.eq_false_or_eq_true (decide ((48 : Int) ≤ c)) with b1 | b1
    · refine WL.gyes rfl rfl (okb b1) rfl (Yld.pure tab_ok rfl) ?_
      refine WL.gyes rfl rfl (okb b1) rfl (Yld.pure tab_ok rfl) ?_
      refine WL.y rfl (Yld.pickT (okb b1) rfl) ?_
      exact WL.weaken (by repeat (first | exact Sub.nil | refine Sub.cons rfl ?_)) (hQ _ _ ⟨decide (c ≤ (57 : Int)), rfl, by rw [b1] <;> rfl, rfl⟩)
    · refine WL.gno rfl rfl (okb b1) rfl ?_
      refine WL.gno rfl rfl (okb b1) rfl ?_
      refine WL.y rfl (Yld.pickF (okb b1) rfl) ?_
      exact WL.weaken (by repeat (first | exact Sub.nil | refine Sub.cons rfl ?_)) (hQ _ _ ⟨false, rfl, by rw [b1] <;> rfl, rfl⟩)

set_option maxHeartbeats 8000000 in
theorem W_lex_Words {w : World} {K : (List (List UInt8)) → Prop} (H : M_lex_Words  K) : Fn Tryd.prog 139 ⟨[]⟩ w (fun v w' => w.grownBy w' none ∧ ∃ (r : List (List UInt8)), ∃ (A_r : Option Addr), ∃ (c_r : Nat), v = .slice A_r r.length c_r ∧ Own vs w' w.heap.size 9 A_r c_r r ∧ K r) := by
  unfold M_lex_Words at H
  refine Fn.enter (by kernel_rfl) Tryd.func139 rfl Tryd.ntmps139 rfl ?_
  refine WC.seq ?_
  refine WC.region ?_
  refine WL.y rfl (Yld.pure tab_ok rfl) ?_
  refine WL.nil (WX.then_normal ?_)
  refine WC.seq ?_
  refine WC.region ?_
  refine WL.lit tab_ok rfl rfl rfl (all1c rfl (all1c rfl (all1c rfl (all1c rfl (all1c rfl (all1c rfl (all1c rfl (all1c rfl (all1c rfl (all1c rfl (all1c rfl (all1c rfl (all1c rfl (all1c rfl (all1c rfl (all1c rfl (all1c rfl all1n))))))))))))))))) rfl (by omega) (fun g1 w1 hB1 hg1 hl1 => ?_)
  have hO1 : Own vs w1 w.heap.size 9 (some ⟨g1, 0, none⟩) 17 ([([70, 97, 108, 115, 101] : List UInt8), ([78, 111, 110, 101] : List UInt8), ([84, 114, 117, 101] : List UInt8), ([97, 110, 100] : List UInt8), ([98, 114, 101, 97, 107] : List UInt8), ([99, 111, 110, 116, 105, 110, 117, 101] : List UInt8), ([100, 101, 102] : List UInt8), ([101, 108, 105, 102] : List UInt8), ([101, 108, 115, 101] : List UInt8), ([102, 111, 114] : List UInt8), ([105, 102] : List UInt8), ([105, 110] : List UInt8), ([108, 111, 97, 100] : List UInt8), ([110, 111, 116] : List UInt8), ([111, 114] : List UInt8), ([112, 97, 115, 115] : List UInt8), ([114, 101, 116, 117, 114, 110] : List UInt8)] : List (List UInt8)) := Own.ofBl hB1 (Nat.le_trans (Nat.le_refl _) hl1) (by simp [maxLen]) rfl
  have gr1 := hg1
  refine WL.y rfl (Yld.pure tab_ok rfl) ?_
  refine WL.nil (WX.then_normal ?_)
  refine WC.ret ?_
  exact WX.ret1 rfl rfl ⟨gr1, ([([70, 97, 108, 115, 101] : List UInt8), ([78, 111, 110, 101] : List UInt8), ([84, 114, 117, 101] : List UInt8), ([97, 110, 100] : List UInt8), ([98, 114, 101, 97, 107] : List UInt8), ([99, 111, 110, 116, 105, 110, 117, 101] : List UInt8), ([100, 101, 102] : List UInt8), ([101, 108, 105, 102] : List UInt8), ([101, 108, 115, 101] : List UInt8), ([102, 111, 114] : List UInt8), ([105, 102] : List UInt8), ([105, 110] : List UInt8), ([108, 111, 97, 100] : List UInt8), ([110, 111, 116] : List UInt8), ([111, 114] : List UInt8), ([112, 97, 115, 115] : List UInt8), ([114, 101, 116, 117, 114, 110] : List UInt8)] : List (List UInt8)), (some ⟨g1, 0, none⟩), 17, rfl, hO1, H⟩

set_option maxHeartbeats 8000000 in
theorem W_lex_Name {w : World} {s : List UInt8} {K : Bool → Prop} (H : M_lex_Name s K) : Fn Tryd.prog 130 ⟨[vs s]⟩ w (fun v w' => w.grownBy w' none ∧ ∃ (r : Bool), v = .bool r ∧ K r) := by
  unfold M_lex_Name at H
  refine Fn.enter (by kernel_rfl) Tryd.func130 rfl Tryd.ntmps130 rfl ?_
  refine WC.seq ?_
  refine WC.region ?_
  refine WL.y rfl (Yld.pure tab_ok rfl) ?_
  refine WL.nil (WX.then_normal ?_)
  refine WC.seq ?_
  refine WC.seq ?_
  refine WC.region ?_
  refine WL.y rfl (Yld.pure tab_ok rfl) ?_
  refine WL.y rfl (Yld.pure tab_ok rfl) ?_
  refine WL.y rfl (Yld.pure tab_ok rfl) ?_
  refine WL.nil (WX.then_normal ?_)
  refine WC.block ?_
  obtain ⟨I1, mu1, h0_1, HR1⟩ := H
  refine WC.loopF (fun n' L' w' => ∃ (t6 : Int), n' = mu1 t6 ∧ L' = [(0, vs s), (5, .int .i64 (s.length : Int)), (6, .int .i64 t6)] ∧ I1 t6 ∧ w = w') _ _ ⟨(0 : Int), rfl, rfl, h0_1, rfl⟩ (by repeat (first | exact Sub.nil | refine Sub.cons rfl ?_)) ?_
  clear h0_1
  rintro _ _ _ ⟨t6, rfl, rfl, hI1, rfl⟩
  have H := HR1 t6 hI1
  refine WC.seq ?_
  refine WC.region ?_
  refine WL.y rfl (Yld.pure tab_ok rfl) ?_
  refine WL.nil (WX.then_normal ?_)
  refine WC.seq ?_
  refine WC.cond rfl (fun b1 => ?_) (fun b1 => ?_)
  · replace H := H.1 (of_decide_eq_true b1)
    refine WC.skip (WX.then_normal ?_)
    refine WC.seq ?_
    refine WC.block ?_
    refine WC.seq ?_
    refine WC.region ?_
    refine WL.y rfl (Yld.pure tab_ok rfl) ?_
    refine WL.y rfl (Yld.pure tab_ok rfl) ?_
    refine WL.nil (WX.then_normal ?_)
    refine WC.seq ?_
    refine WC.region ?_
    refine WL.y rfl (Yld.pure tab_ok rfl) ?_
    refine WL.y rfl (Yld.pure tab_ok rfl) ?_
    obtain ⟨h1, H⟩ := H
    refine WL.y rfl (Yld.sidx tab_ok rfl rfl rfl h1.1 h1.2) ?_
    refine WL.call rfl rfl (W_lex_letter H) ?_
    rintro _ _ ⟨rfl, t12, rfl, H⟩
    refine WL.y rfl (Yld.pure tab_ok rfl) ?_
    refine WL.y rfl (Yld.pure tab_ok rfl) ?_
    obtain ⟨J1, H, hJ1⟩ := H
    refine WL.midF 10 (fun L' w' => ∃ q1 : Bool, L' = [(24, .bool q1), (0, vs s), (5, .int .i64 (s.length : Int)), (6, .int .i64 t6)] ∧ J1 q1 ∧ w = w') ?_ (fun hQ => ?_)
    · clear H
      rintro _ _ ⟨q1, rfl, H, rfl⟩
      replace H := hJ1 q1 H
      refine WL.nil (WX.then_normal ?_)
      refine WC.cond rfl (fun b2 => ?_) (fun b2 => ?_)
      · replace H := H.1 (b2)
        refine WC.seq ?_
        refine WC.region ?_
        refine WL.y rfl (Yld.pure tab_ok rfl) ?_
        refine WL.nil (WX.then_normal ?_)
        refine WC.ret (WX.block_ret (WX.then_ret (WX.then_ret (WX.block_ret (WX.then_ret ?_)))))
        exact WX.ret1 rfl rfl ⟨(gr_refl _ _), false, rfl, H⟩
      · replace H := H.2 (b2)
        refine WC.skip (WX.block_normal (WX.then_normal ?_))
        refine WC.region ?_
        obtain ⟨h2, H⟩ := H
        refine WL.y rfl (Yld.add rfl rfl h2) ?_
        refine WL.y rfl (Yld.pure tab_ok rfl) ?_
        refine WL.nil ?_
        exact WX.roundF _ ⟨t6 + (1 : Int), rfl, rfl, H.1, rfl⟩ (by repeat (first | exact Sub.nil | refine Sub.cons rfl ?_)) H.2
    · clear hJ1
      rcases Bool.eq_false_or_eq_true (!t12) with b3 | b3
      · replace H := H.1 b3
        refine WL.gyes rfl rfl (okb b3) rfl (Yld.pure tab_ok rfl) ?_
        refine WL.gyes rfl rfl (okb b3) rfl (Yld.pure tab_ok rfl) ?_
        refine WL.gyes rfl rfl (okb b3) rfl (Yld.pure tab_ok rfl) ?_
        rcases Bool.eq_false_or_eq_true (decide (t6 = (0 : Int))) with b4 | b4
        · replace H := H.1 b4
          refine WL.gno rfl rfl (okb b4) rfl ?_
          refine WL.gno rfl rfl (okb b4) rfl ?_
          refine WL.gno rfl rfl (okb b4) rfl ?_
          refine WL.gno rfl rfl (okb b4) rfl ?_
          refine WL.gno rfl rfl (okb b4) rfl ?_
          refine WL.gyes rfl rfl (okb b3) rfl (Yld.pickT (okb b4) rfl) ?_
          refine WL.y rfl (Yld.pickT (okb b3) rfl) ?_
          exact WL.weaken (by repeat (first | exact Sub.nil | refine Sub.cons rfl ?_)) (hQ _ _ ⟨true, rfl, H, rfl⟩)
        · replace H := H.2 b4
          refine WL.gyes rfl rfl (okb b4) rfl (Yld.pure tab_ok rfl) ?_
          refine WL.gyes rfl rfl (okb b4) rfl (Yld.pure tab_ok rfl) ?_
          obtain ⟨h3, H⟩ := H
          refine WL.gyes rfl rfl (okb b4) rfl (Yld.sidx tab_ok rfl rfl rfl h3.1 h3.2) ?_
          refine WL.callw (wants_some rfl rfl (okb b4)) rfl rfl (W_lex_digit H) ?_
          rintro _ _ ⟨rfl, t21, rfl, H⟩
          refine WL.gyes rfl rfl (okb b4) rfl (Yld.pure tab_ok rfl) ?_
          refine WL.gyes rfl rfl (okb b3) rfl (Yld.pickF (okb b4) rfl) ?_
          refine WL.y rfl (Yld.pickT (okb b3) rfl) ?_
          exact WL.weaken (by repeat (first | exact Sub.nil | refine Sub.cons rfl ?_)) (hQ _ _ ⟨!t21, rfl, H, rfl⟩)
      · replace H := H.2 b3
        refine WL.gno rfl rfl (okb b3) rfl ?_
        refine WL.gno rfl rfl (okb b3) rfl ?_
        refine WL.gno rfl rfl (okb b3) rfl ?_
        refine WL.gun rfl rfl rfl rfl ?_
        refine WL.gun rfl rfl rfl rfl ?_
        refine WL.gun rfl rfl rfl rfl ?_
        refine WL.gun rfl rfl rfl rfl ?_
        refine WL.gun rfl rfl rfl rfl ?_
        refine WL.gno rfl rfl (okb b3) rfl ?_
        refine WL.y rfl (Yld.pickF (okb b3) rfl) ?_
        exact WL.weaken (by repeat (first | exact Sub.nil | refine Sub.cons rfl ?_)) (hQ _ _ ⟨false, rfl, H, rfl⟩)
  · replace H := H.2 (of_decide_eq_false b1)
    refine WC.exit (WX.then_exit (WX.then_exit (WX.block_same (WX.then_normal ?_))))
    refine WC.seq ?_
    refine WC.region ?_
    refine WL.y rfl (Yld.pure tab_ok rfl) ?_
    refine WL.y rfl (Yld.pure tab_ok rfl) ?_
    refine WL.y rfl (Yld.pure tab_ok rfl) ?_
    obtain ⟨J2, H, hJ2⟩ := H
    refine WL.midF 5 (fun L' w' => ∃ q2 : Bool, L' = [(33, .bool q2)] ∧ J2 q2 ∧ w.grownBy w' none) ?_ (fun hQ => ?_)
    · clear H
      rintro _ w1 ⟨q2, rfl, H, gr1⟩
      replace H := hJ2 q2 H
      refine WL.y rfl (Yld.pure tab_ok rfl) ?_
      refine WL.nil (WX.then_normal ?_)
      refine WC.ret ?_
      exact WX.ret1 rfl rfl ⟨gr1, q2, rfl, H⟩
    · clear hJ2
      rcases Bool.eq_false_or_eq_true (!decide (s = ([] : List UInt8))) with b5 | b5
      · replace H := H.1 b5
        refine WL.callw (wants_some rfl rfl (okb b5)) rfl rfl (W_lex_Words H) ?_
        rintro _ w2 ⟨hg1, t29, A_t29, c_t29, rfl, ht29, H⟩
        have hb1 := ht29.ge'
        have k1 := ht29.base (fun g hg => Nat.le_trans (Nat.le_refl _) (hb1 g hg))
        have gr2 := hg1
        refine WL.gyes rfl rfl (okb b5) rfl (Yld.pure tab_ok rfl) ?_
        refine WL.callw (wants_some rfl rfl (okb b5)) rfl rfl (W_slices_Contains_string_string k1.rd rfl H) ?_
        rintro _ _ ⟨rfl, t31, rfl, H⟩
        refine WL.gyes rfl rfl (okb b5) rfl (Yld.pure tab_ok rfl) ?_
        refine WL.y rfl (Yld.pickT (okb b5) rfl) ?_
        exact WL.weaken (by repeat (first | exact Sub.nil | refine Sub.cons rfl ?_)) (hQ _ _ ⟨!t31, rfl, H, gr2⟩)
      · replace H := H.2 b5
        refine WL.gno rfl rfl (okb b5) rfl ?_
        refine WL.gno rfl rfl (okb b5) rfl ?_
        refine WL.gno rfl rfl (okb b5) rfl ?_
        refine WL.gno rfl rfl (okb b5) rfl ?_
        refine WL.y rfl (Yld.pickF (okb b5) rfl) ?_
        exact WL.weaken (by repeat (first | exact Sub.nil | refine Sub.cons rfl ?_)) (hQ _ _ ⟨false, rfl, H, (gr_refl _ _)⟩)

set_option maxHeartbeats 8000000 in
theorem W_pstr_former_item {w : World} {g_f : Nat} {a_f_b_addr : Option Addr} {f_b_buf : List UInt8} {A_f_b_buf : Option Addr} {c_f_b_buf : Nat} {f_l : List (List UInt8)} {A_f_l : Option Addr} {c_f_l : Nat} {g_f_by : Nat} {f_by : List (List UInt8 × List UInt8)} {f_next : Int} {f_told : Bool} {f_bad : Bool} {k : Int} {n_f_b_buf : Nat} {n_f_l : Nat} {K : (List UInt8) → Int → Bool → Bool → Prop} (h_f_b_addr : a_f_b_addr = none ∨ a_f_b_addr = some ⟨g_f, 0, none⟩) (hf_b_buf : Own vb w 0 5 A_f_b_buf c_f_b_buf f_b_buf) (hn_f_b_buf : n_f_b_buf = f_b_buf.length) (hf_l : Rd vs w A_f_l c_f_l f_l) (hn_f_l : n_f_l = f_l.length) (hf_by : MapB vs okS vs w g_f_by f_by) (hf : Bl w g_f 105 [.pointer a_f_b_addr, .slice A_f_b_buf n_f_b_buf c_f_b_buf, .slice A_f_l n_f_l c_f_l, .map (some g_f_by), .int .i64 f_next, .bool f_told, .bool f_bad]) (hdj0_1 : Dj (some g_f) (blk A_f_b_buf)) (hap0 : AllP (Dn f_l (blk A_f_l)) [(some g_f), (blk A_f_b_buf)]) (hap1 : AllP (Dj (some g_f_by)) [(some g_f), (blk A_f_b_buf)]) (H : M_pstr_former_item f_b_buf f_l f_by f_next f_told f_bad k K) : Fn Tryd.prog 129 ⟨[.pointer (some ⟨g_f, 0, none⟩), .int .i64 k]⟩ w (fun v w' => GrL [(some g_f), (blk A_f_b_buf)] w w' ∧ ∃ (a_f_b_addr2 : Option Addr), ∃ (f_b_buf2 : List UInt8), ∃ (A_f_b_buf2 : Option Addr), ∃ (c_f_b_buf2 : Nat), ∃ (f_next2 : Int), ∃ (f_told2 : Bool), ∃ (f_bad2 : Bool), v = .tuple #[] ∧ Bl w' g_f 105 [.pointer a_f_b_addr2, .slice A_f_b_buf2 f_b_buf2.length c_f_b_buf2, .slice A_f_l f_l.length c_f_l, .map (some g_f_by), .int .i64 f_next2, .bool f_told2, .bool f_bad2] ∧ (a_f_b_addr2 = none ∨ a_f_b_addr2 = some ⟨g_f, 0, none⟩) ∧ Own vb w' 0 5 A_f_b_buf2 c_f_b_buf2 f_b_buf2 ∧ InP [(some g_f), (blk A_f_b_buf)] w.heap.size (blk A_f_b_buf2) ∧ Dj (some g_f) (blk A_f_b_buf2) ∧ K f_b_buf2 f_next2 f_told2 f_bad2) := by
  subst hn_f_b_buf
  subst hn_f_l
  unfold M_pstr_former_item at H
  refine Fn.enter (by kernel_rfl) Tryd.func129 rfl Tryd.ntmps129 rfl ?_
  replace H := H (Nat.le_trans hf_b_buf.rd.cap hf_b_buf.rd.max)
  replace H := H (Nat.le_trans hf_l.cap hf_l.max)
  have hNoAt : AllP (NoAt w) [(some g_f), (blk A_f_b_buf)] := (apC (NoAt.bl hf rfl) (apC (NoAt.own hf_b_buf rfl) apN))
  refine WC.seq ?_
  refine WC.seq ?_
  refine WC.region ?_
  refine WL.y rfl (Yld.pure tab_ok rfl) ?_
  refine WL.y rfl (Yld.pure tab_ok rfl) ?_
  refine WL.y rfl (Yld.pure tab_ok rfl) ?_
  refine WL.y rfl (Yld.pure tab_ok rfl) ?_
  refine WL.y rfl (Yld.bload tab_ok hf rfl rfl rfl) ?_
  refine WL.y rfl (Yld.pure tab_ok rfl) ?_
  refine WL.y rfl (Yld.pure tab_ok rfl) ?_
  refine WL.nil (WX.then_normal ?_)
  refine WC.cond rfl (fun b1 => ?_) (fun b1 => ?_)
  · replace H := H.1 (of_decide_eq_true b1)
    refine WC.seq ?_
    refine WC.region ?_
    refine WL.y rfl (Yld.pure tab_ok rfl) ?_
    refine WL.y rfl (Yld.pure tab_ok rfl) ?_
    refine WL.y rfl (Yld.pure tab_ok rfl) ?_
    refine WL.store1 one4 rfl rfl rfl hf (by simp) (fun w1 hB2 hg1 => ?_)
    have hB1 : Bl w1 g_f 105 [.pointer a_f_b_addr, .slice A_f_b_buf f_b_buf.length c_f_b_buf, .slice A_f_l f_l.length c_f_l, .map (some g_f_by), .int .i64 f_next, .bool f_told, .bool true] := hB2
    have gr1 : GrL [(some g_f), (blk A_f_b_buf)] w w1 := GrL.mod (GrL.refl _) hg1 (InP.mem (List.Mem.head _))
    have k1 := hf_b_buf.go hg1 hdj0_1.symm
    refine WL.nil (WX.then_normal ?_)
    refine WC.ret (WX.then_ret ?_)
    exact WX.ret0 rfl ⟨gr1, a_f_b_addr, f_b_buf, A_f_b_buf, c_f_b_buf, f_next, f_told, true, rfl, hB1, h_f_b_addr, k1, (InP.mem (List.Mem.tail _ (List.Mem.head _))), hdj0_1, H⟩
  · replace H := H.2 (of_decide_eq_false b1)
    refine WC.skip (WX.then_normal ?_)
    refine WC.chainF (fun k => !(Nat.beq k 10)) (LD [6, 9] (fun w' => Bl w' g_f 105 [.pointer a_f_b_addr, .slice A_f_b_buf f_b_buf.length c_f_b_buf, .slice A_f_l f_l.length c_f_l, .map (some g_f_by), .int .i64 f_next, .bool f_told, .bool f_bad] ∧ Rd vs w' A_f_l c_f_l f_l)) mixed (by kernel_rfl) (fun k w' h _ => ⟨(bl_eqv h hf), (rd_eqv h hf_l)⟩) ?_
    refine WJ.y rfl rfl (fun w' hw' => Yld.pure tab_ok rfl) ?_
    refine WJ.y rfl rfl (fun w' hw' => Yld.pure tab_ok rfl) ?_
    refine WJ.y rfl rfl (fun w' hw' => Yld.pure tab_ok rfl) ?_
    refine WJ.y rfl rfl (fun w' hw' => Yld.pure tab_ok rfl) ?_
    refine WJ.y rfl rfl (fun w' hw' => Yld.pure tab_ok rfl) ?_
    refine WJ.y rfl rfl (fun w' hw' => Yld.pure tab_ok rfl) ?_
    refine WJ.y rfl rfl (fun w' hw' => Yld.bload tab_ok (hw' rfl).1 rfl rfl rfl) ?_
    refine WJ.y rfl rfl (fun w' hw' => Yld.pure tab_ok rfl) ?_
    obtain ⟨h1, H⟩ := H
    refine WJ.y rfl rfl (fun w' hw' => Yld.iaddrW tab_ok hf_l rfl rfl rfl rfl h1.1 h1.2) ?_
    refine WJ.y rfl rfl (fun w' hw' => Yld.iload [] tab_ok (hw' rfl).2 rfl rfl (iltN h1 rfl)) ?_
    obtain ⟨h2, H⟩ := H
    refine WJ.call rfl wants_none rfl rfl (bws_fn hf h_f_b_addr rfl rfl rfl (liesB_of (by kernel_rfl)) hf_b_buf hdj0_1 h2 (Nat.zero_le _)) (fun v w' h w2 e => DD.past (by kernel_rfl)) ?_
    rintro _ w2 ⟨rfl, A_buf, c_buf, hB3, hO1, hgl1, hi1, dj1⟩
    have hB4 : Bl w2 g_f 105 [.pointer (some ⟨g_f, 0, none⟩), .slice A_buf ((f_b_buf ++ (f_l.getD k.toNat [])).length) c_buf, .slice A_f_l f_l.length c_f_l, .map (some g_f_by), .int .i64 f_next, .bool f_told, .bool f_bad] := hB3
    have hi2 : InP [(some g_f), (blk A_f_b_buf)] w.heap.size (blk A_buf) := InP.trans hi1 (apC (InP.mem (List.Mem.head _)) (apC (InP.mem (List.Mem.tail _ (List.Mem.head _))) apN)) (Nat.le_refl _)
    have gr2 : GrL [(some g_f), (blk A_f_b_buf)] w w2 := GrL.modL (GrL.refl _) hgl1 (apC (InP.mem (List.Mem.head _)) (apC (InP.mem (List.Mem.tail _ (List.Mem.head _))) apN))
    refine WJ.nil ?_
    exact WX.end0 rfl ⟨gr2, (some ⟨g_f, 0, none⟩), (f_b_buf ++ (f_l.getD k.toNat [])), A_buf, c_buf, f_next, f_told, f_bad, rfl, hB4, (Or.inr rfl), hO1, hi2, dj1, H⟩

set_option maxHeartbeats 8000000 in
theorem W_pstr_former_value {w : World} {g_f : Nat} {a_f_b_addr : Option Addr} {f_b_buf : List UInt8} {A_f_b_buf : Option Addr} {c_f_b_buf : Nat} {f_l : List (List UInt8)} {A_f_l : Option Addr} {c_f_l : Nat} {g_f_by : Nat} {f_by : List (List UInt8 × List UInt8)} {f_next : Int} {f_told : Bool} {f_bad : Bool} {name : List UInt8} {n_f_b_buf : Nat} {n_f_l : Nat} {K : (List UInt8) → Int → Bool → Bool → Prop} (h_f_b_addr : a_f_b_addr = none ∨ a_f_b_addr = some ⟨g_f, 0, none⟩) (hf_b_buf : Own vb w 0 5 A_f_b_buf c_f_b_buf f_b_buf) (hn_f_b_buf : n_f_b_buf = f_b_buf.length) (hf_l : Rd vs w A_f_l c_f_l f_l) (hn_f_l : n_f_l = f_l.length) (hf_by : MapB vs okS vs w g_f_by f_by) (hf : Bl w g_f 105 [.pointer a_f_b_addr, .slice A_f_b_buf n_f_b_buf c_f_b_buf, .slice A_f_l n_f_l c_f_l, .map (some g_f_by), .int .i64 f_next, .bool f_told, .bool f_bad]) (hdj0_1 : Dj (some g_f) (blk A_f_b_buf)) (hap0 : AllP (Dn f_l (blk A_f_l)) [(some g_f), (blk A_f_b_buf)]) (hap1 : AllP (Dj (some g_f_by)) [(some g_f), (blk A_f_b_buf)]) (H : M_pstr_former_value f_b_buf f_l f_by f_next f_told f_bad name K) : Fn Tryd.prog 110 ⟨[.pointer (some ⟨g_f, 0, none⟩), vs name]⟩ w (fun v w' => GrL [(some g_f), (blk A_f_b_buf)] w w' ∧ ∃ (a_f_b_addr2 : Option Addr), ∃ (f_b_buf2 : List UInt8), ∃ (A_f_b_buf2 : Option Addr), ∃ (c_f_b_buf2 : Nat), ∃ (f_next2 : Int), ∃ (f_told2 : Bool), ∃ (f_bad2 : Bool), v = .tuple #[] ∧ Bl w' g_f 105 [.pointer a_f_b_addr2, .slice A_f_b_buf2 f_b_buf2.length c_f_b_buf2, .slice A_f_l f_l.length c_f_l, .map (some g_f_by), .int .i64 f_next2, .bool f_told2, .bool f_bad2] ∧ (a_f_b_addr2 = none ∨ a_f_b_addr2 = some ⟨g_f, 0, none⟩) ∧ Own vb w' 0 5 A_f_b_buf2 c_f_b_buf2 f_b_buf2 ∧ InP [(some g_f), (blk A_f_b_buf)] w.heap.size (blk A_f_b_buf2) ∧ Dj (some g_f) (blk A_f_b_buf2) ∧ K f_b_buf2 f_next2 f_told2 f_bad2) := by
  subst hn_f_b_buf
  subst hn_f_l
  unfold M_pstr_former_value at H
  refine Fn.enter (by kernel_rfl) Tryd.func110 rfl Tryd.ntmps110 rfl ?_
  replace H := H (Nat.le_trans hf_b_buf.rd.cap hf_b_buf.rd.max)
  replace H := H (Nat.le_trans hf_l.cap hf_l.max)
  have hNoAt : AllP (NoAt w) [(some g_f), (blk A_f_b_buf)] := (apC (NoAt.bl hf rfl) (apC (NoAt.own hf_b_buf rfl) apN))
  refine WC.block ?_
  refine WC.seq ?_
  refine WC.region ?_
  refine WL.y rfl (Yld.pure tab_ok rfl) ?_
  refine WL.y rfl (Yld.pure tab_ok rfl) ?_
  refine WL.y rfl (Yld.pure tab_ok rfl) ?_
  refine WL.nil (WX.then_normal ?_)
  refine WC.cond rfl (fun b1 => ?_) (fun b1 => ?_)
  · replace H := H.1 (of_decide_eq_true b1)
    refine WC.seq ?_
    refine WC.region ?_
    refine WL.y rfl (Yld.pure tab_ok rfl) ?_
    refine WL.y rfl (Yld.pure tab_ok rfl) ?_
    refine WL.y rfl (Yld.pure tab_ok rfl) ?_
    refine WL.y rfl (Yld.pure tab_ok rfl) ?_
    refine WL.y rfl (Yld.bload tab_ok hf rfl rfl rfl) ?_
    refine WL.call rfl rfl (W_pstr_former_item h_f_b_addr hf_b_buf rfl hf_l rfl hf_by hf hdj0_1 (apC (InP.dn (InP.mem (List.Mem.head _)) (fun hx => hf_l.lt' hx) hap0) (apC (InP.dn (InP.mem (List.Mem.tail _ (List.Mem.head _))) (fun hx => hf_l.lt' hx) hap0) apN)) (apC (InP.dj (InP.mem (List.Mem.head _)) hf_by.lt' hap1).symm (apC (InP.dj (InP.mem (List.Mem.tail _ (List.Mem.head _))) hf_by.lt' hap1).symm apN)) H) ?_
    rintro _ w1 ⟨hgl1, a_f_, f_, A_f_, c_f_, f_2, f_3, f_4, rfl, hB1, ha1, hO1, hi1, dj1, H⟩
    have hi2 : InP [(some g_f), (blk A_f_b_buf)] w.heap.size (blk A_f_) := InP.trans hi1 (apC (InP.mem (List.Mem.head _)) (apC (InP.mem (List.Mem.tail _ (List.Mem.head _))) apN)) (Nat.le_refl _)
    have gr1 : GrL [(some g_f), (blk A_f_b_buf)] w w1 := GrL.modL (GrL.refl _) hgl1 (apC (InP.mem (List.Mem.head _)) (apC (InP.mem (List.Mem.tail _ (List.Mem.head _))) apN))
    refine WL.nil (WX.then_normal ?_)
    refine WC.seq ?_
    refine WC.region ?_
    refine WL.y rfl (Yld.pure tab_ok rfl) ?_
    refine WL.y rfl (Yld.pure tab_ok rfl) ?_
    refine WL.y rfl (Yld.pure tab_ok rfl) ?_
    refine WL.y rfl (Yld.pure tab_ok rfl) ?_
    refine WL.y rfl (Yld.bload tab_ok hB1 rfl rfl rfl) ?_
    refine WL.y rfl (Yld.pure tab_ok rfl) ?_
    refine WL.midF 5 (fun L' w' => ∃ q1 : Bool, L' = [(57, .bool q1), (0, .pointer (some ⟨g_f, 0, none⟩)), (47, .pointer (some ⟨g_f, 0, none⟩))] ∧ q1 = (f_4 || f_3) ∧ w1 = w') ?_ (fun hQ => ?_)
    · rintro _ _ ⟨q1, rfl, rfl, rfl⟩
      refine WL.y rfl (Yld.pure tab_ok rfl) ?_
      refine WL.y rfl (Yld.pure tab_ok rfl) ?_
      refine WL.store1 one4 rfl rfl rfl hB1 (by simp) (fun w2 hB3 hg1 => ?_)
      have hB2 : Bl w2 g_f 105 [.pointer a_f_, .slice A_f_ f_.length c_f_, .slice A_f_l f_l.length c_f_l, .map (some g_f_by), .int .i64 f_2, .bool f_3, .bool (f_4 || f_3)] := hB3
      have gr2 : GrL [(some g_f), (blk A_f_b_buf)] w w2 := GrL.mod gr1 hg1 (InP.mem (List.Mem.head _))
      have k1 := hO1.go hg1 dj1.symm
      refine WL.nil (WX.then_normal ?_)
      refine WC.region ?_
      refine WL.y rfl (Yld.pure tab_ok rfl) ?_
      refine WL.y rfl (Yld.pure tab_ok rfl) ?_
      refine WL.y rfl (Yld.pure tab_ok rfl) ?_
      refine WL.y rfl (Yld.bload tab_ok hB2 rfl rfl rfl) ?_
      obtain ⟨h1, H⟩ := H
      refine WL.y rfl (Yld.add rfl rfl h1) ?_
      refine WL.y rfl (Yld.pure tab_ok rfl) ?_
      refine WL.y rfl (Yld.pure tab_ok rfl) ?_
      refine WL.store1 one3 rfl rfl rfl hB2 (by simp) (fun w3 hB5 hg2 => ?_)
      have hB4 : Bl w3 g_f 105 [.pointer a_f_, .slice A_f_ f_.length c_f_, .slice A_f_l f_l.length c_f_l, .map (some g_f_by), .int .i64 (f_2 + (1 : Int)), .bool f_3, .bool (f_4 || f_3)] := hB5
      have gr3 : GrL [(some g_f), (blk A_f_b_buf)] w w3 := GrL.mod gr2 hg2 (InP.mem (List.Mem.head _))
      have k2 := k1.go hg2 dj1.symm
      refine WL.nil (WX.block_normal ?_)
      exact WX.end0 rfl ⟨gr3, a_f_, f_, A_f_, c_f_, f_2 + (1 : Int), f_3, f_4 || f_3, rfl, hB4, ha1, k2, hi2, dj1, H⟩
    · clear H
      rcases Bool.eq_false_or_eq_true (f_4) with b2 | b2
      · refine WL.gno rfl rfl (okb b2) rfl ?_
        refine WL.gno rfl rfl (okb b2) rfl ?_
        refine WL.gno rfl rfl (okb b2) rfl ?_
        refine WL.gno rfl rfl (okb b2) rfl ?_
        refine WL.y rfl (Yld.pickT (okb b2) rfl) ?_
        exact WL.weaken (by repeat (first | exact Sub.nil | refine Sub.cons rfl ?_)) (hQ _ _ ⟨true, rfl, by rw [b2] <;> rfl, rfl⟩)
      · refine WL.gyes rfl rfl (okb b2) rfl (Yld.pure tab_ok rfl) ?_
        refine WL.gyes rfl rfl (okb b2) rfl (Yld.pure tab_ok rfl) ?_
        refine WL.gyes rfl rfl (okb b2) rfl (Yld.pure tab_ok rfl) ?_
        refine WL.gyes rfl rfl (okb b2) rfl (Yld.bload tab_ok hB1 rfl rfl rfl) ?_
        refine WL.y rfl (Yld.pickF (okb b2) rfl) ?_
        exact WL.weaken (by repeat (first | exact Sub.nil | refine Sub.cons rfl ?_)) (hQ _ _ ⟨f_3, rfl, by rw [b2] <;> rfl, rfl⟩)
  · replace H := H.2 (of_decide_eq_false b1)
    refine WC.seq ?_
    refine WC.region ?_
    refine WL.y rfl (Yld.pure tab_ok rfl) ?_
    refine WL.call rfl rfl (W_str_IsDigits H) ?_
    rintro _ _ ⟨rfl, t69, rfl, H⟩
    refine WL.y rfl (Yld.pure tab_ok rfl) ?_
    refine WL.midF 4 (fun L' w' => ∃ q2 : Bool, L' = [(74, .bool q2), (0, .pointer (some ⟨g_f, 0, none⟩)), (1, vs name)] ∧ q2 = (t69 && (decide ((name.length : Int) ≤ (9 : Int)))) ∧ w = w') ?_ (fun hQ => ?_)
    · rintro _ _ ⟨q2, rfl, rfl, rfl⟩
      refine WL.y rfl (Yld.pure tab_ok rfl) ?_
      refine WL.nil (WX.then_normal ?_)
      refine WC.cond rfl (fun b3 => ?_) (fun b3 => ?_)
      · replace H := H.1 (b3)
        refine WC.seq ?_
        refine WC.region ?_
        refine WL.y rfl (Yld.pure tab_ok rfl) ?_
        refine WL.nil (WX.then_normal ?_)
        refine WC.seq ?_
        refine WC.seq ?_
        refine WC.region ?_
        refine WL.y rfl (Yld.pure tab_ok rfl) ?_
        refine WL.y rfl (Yld.pure tab_ok rfl) ?_
        refine WL.y rfl (Yld.pure tab_ok rfl) ?_
        refine WL.nil (WX.then_normal ?_)
        refine WC.block ?_
        obtain ⟨I1, mu1, h0_1, HR1⟩ := H
        refine WC.loopF (fun n' L' w' => ∃ (k : Int), ∃ (t77 : Int), n' = mu1 k t77 ∧ L' = [(0, .pointer (some ⟨g_f, 0, none⟩)), (1, vs name), (4, .int .i64 k), (76, .int .i64 (name.length : Int)), (77, .int .i64 t77)] ∧ I1 k t77 ∧ w = w') _ _ ⟨(0 : Int), (0 : Int), rfl, rfl, h0_1, rfl⟩ (by repeat (first | exact Sub.nil | refine Sub.cons rfl ?_)) ?_
        clear h0_1
        rintro _ _ _ ⟨k, t77, rfl, rfl, hI1, rfl⟩
        have H := HR1 k t77 hI1
        refine WC.seq ?_
        refine WC.region ?_
        refine WL.y rfl (Yld.pure tab_ok rfl) ?_
        refine WL.nil (WX.then_normal ?_)
        refine WC.seq ?_
        refine WC.cond rfl (fun b4 => ?_) (fun b4 => ?_)
        · replace H := H.1 (of_decide_eq_true b4)
          refine WC.skip (WX.then_normal ?_)
          refine WC.seq ?_
          refine WC.block ?_
          refine WC.seq ?_
          refine WC.region ?_
          refine WL.y rfl (Yld.pure tab_ok rfl) ?_
          refine WL.y rfl (Yld.pure tab_ok rfl) ?_
          refine WL.nil (WX.then_normal ?_)
          refine WC.region ?_
          refine WL.y rfl (Yld.pure tab_ok rfl) ?_
          obtain ⟨h2, H⟩ := H
          refine WL.y rfl (Yld.mul rfl rfl h2) ?_
          refine WL.y rfl (Yld.pure tab_ok rfl) ?_
          refine WL.y rfl (Yld.pure tab_ok rfl) ?_
          obtain ⟨h3, H⟩ := H
          refine WL.y rfl (Yld.sidx tab_ok rfl rfl rfl h3.1 h3.2) ?_
          obtain ⟨h4, H⟩ := H
          refine WL.y rfl (Yld.sub rfl rfl h4) ?_
          obtain ⟨h5, H⟩ := H
          refine WL.y rfl (Yld.conv tab_ok rfl rfl rfl h5) ?_
          obtain ⟨h6, H⟩ := H
          refine WL.y rfl (Yld.add rfl rfl h6) ?_
          refine WL.y rfl (Yld.pure tab_ok rfl) ?_
          refine WL.nil (WX.block_normal (WX.then_normal ?_))
          refine WC.region ?_
          obtain ⟨h7, H⟩ := H
          refine WL.y rfl (Yld.add rfl rfl h7) ?_
          refine WL.y rfl (Yld.pure tab_ok rfl) ?_
          refine WL.nil ?_
          exact WX.roundF _ ⟨((10 : Int) * k) + (((name.getD t77.toNat 0).toNat : Int) - (48 : Int)), t77 + (1 : Int), rfl, rfl, H.1, rfl⟩ (by repeat (first | exact Sub.nil | refine Sub.cons rfl ?_)) H.2
        · replace H := H.2 (of_decide_eq_false b4)
          refine WC.exit (WX.then_exit (WX.then_exit (WX.block_same (WX.then_normal ?_))))
          refine WC.seq ?_
          refine WC.region ?_
          refine WL.y rfl (Yld.pure tab_ok rfl) ?_
          refine WL.y rfl (Yld.pure tab_ok rfl) ?_
          refine WL.call rfl rfl (W_pstr_former_item h_f_b_addr hf_b_buf rfl hf_l rfl hf_by hf hdj0_1 (apC (InP.dn (InP.mem (List.Mem.head _)) (fun hx => hf_l.lt' hx) hap0) (apC (InP.dn (InP.mem (List.Mem.tail _ (List.Mem.head _))) (fun hx => hf_l.lt' hx) hap0) apN)) (apC (InP.dj (InP.mem (List.Mem.head _)) hf_by.lt' hap1).symm (apC (InP.dj (InP.mem (List.Mem.tail _ (List.Mem.head _))) hf_by.lt' hap1).symm apN)) H) ?_
          rintro _ w4 ⟨hgl2, a_f_2, f_5, A_f_2, c_f_2, f_6, f_7, f_8, rfl, hB6, ha2, hO2, hi3, dj2, H⟩
          have hi4 : InP [(some g_f), (blk A_f_b_buf)] w.heap.size (blk A_f_2) := InP.trans hi3 (apC (InP.mem (List.Mem.head _)) (apC (InP.mem (List.Mem.tail _ (List.Mem.head _))) apN)) (Nat.le_refl _)
          have gr4 : GrL [(some g_f), (blk A_f_b_buf)] w w4 := GrL.modL (GrL.refl _) hgl2 (apC (InP.mem (List.Mem.head _)) (apC (InP.mem (List.Mem.tail _ (List.Mem.head _))) apN))
          refine WL.nil (WX.then_normal ?_)
          refine WC.seq ?_
          refine WC.region ?_
          refine WL.y rfl (Yld.pure tab_ok rfl) ?_
          refine WL.y rfl (Yld.pure tab_ok rfl) ?_
          refine WL.y rfl (Yld.pure tab_ok rfl) ?_
          refine WL.y rfl (Yld.pure tab_ok rfl) ?_
          refine WL.y rfl (Yld.bload tab_ok hB6 rfl rfl rfl) ?_
          refine WL.y rfl (Yld.pure tab_ok rfl) ?_
          refine WL.midF 6 (fun L' w' => ∃ q3 : Bool, L' = [(103, .bool q3), (0, .pointer (some ⟨g_f, 0, none⟩)), (92, .pointer (some ⟨g_f, 0, none⟩))] ∧ q3 = (f_8 || (decide ((0 : Int) < f_6))) ∧ w4 = w') ?_ (fun hQ => ?_)
          · rintro _ _ ⟨q3, rfl, rfl, rfl⟩
            refine WL.y rfl (Yld.pure tab_ok rfl) ?_
            refine WL.y rfl (Yld.pure tab_ok rfl) ?_
            refine WL.store1 one4 rfl rfl rfl hB6 (by simp) (fun w5 hB8 hg3 => ?_)
            have hB7 : Bl w5 g_f 105 [.pointer a_f_2, .slice A_f_2 f_5.length c_f_2, .slice A_f_l f_l.length c_f_l, .map (some g_f_by), .int .i64 f_6, .bool f_7, .bool (f_8 || (decide ((0 : Int) < f_6)))] := hB8
            have gr5 : GrL [(some g_f), (blk A_f_b_buf)] w w5 := GrL.mod gr4 hg3 (InP.mem (List.Mem.head _))
            have k3 := hO2.go hg3 dj2.symm
            refine WL.nil (WX.then_normal ?_)
            refine WC.region ?_
            refine WL.y rfl (Yld.pure tab_ok rfl) ?_
            refine WL.y rfl (Yld.pure tab_ok rfl) ?_
            refine WL.y rfl (Yld.pure tab_ok rfl) ?_
            refine WL.store1 one4 rfl rfl rfl hB7 (by simp) (fun w6 hB10 hg4 => ?_)
            have hB9 : Bl w6 g_f 105 [.pointer a_f_2, .slice A_f_2 f_5.length c_f_2, .slice A_f_l f_l.length c_f_l, .map (some g_f_by), .int .i64 f_6, .bool true, .bool (f_8 || (decide ((0 : Int) < f_6)))] := hB10
            have gr6 : GrL [(some g_f), (blk A_f_b_buf)] w w6 := GrL.mod gr5 hg4 (InP.mem (List.Mem.head _))
            have k4 := k3.go hg4 dj2.symm
            refine WL.nil (WX.block_normal ?_)
            exact WX.end0 rfl ⟨gr6, a_f_2, f_5, A_f_2, c_f_2, f_6, true, f_8 || (decide ((0 : Int) < f_6)), rfl, hB9, ha2, k4, hi4, dj2, H⟩
          · clear H
            rcases Bool.eq_false_or_eq_true (f_8) with b5 | b5
            · refine WL.gno rfl rfl (okb b5) rfl ?_
              refine WL.gno rfl rfl (okb b5) rfl ?_
              refine WL.gno rfl rfl (okb b5) rfl ?_
              refine WL.gno rfl rfl (okb b5) rfl ?_
              refine WL.gno rfl rfl (okb b5) rfl ?_
              refine WL.y rfl (Yld.pickT (okb b5) rfl) ?_
              exact WL.weaken (by repeat (first | exact Sub.nil | refine Sub.cons rfl ?_)) (hQ _ _ ⟨true, rfl, by rw [b5] <;> rfl, rfl⟩)
            · refine WL.gyes rfl rfl (okb b5) rfl (Yld.pure tab_ok rfl) ?_
              refine WL.gyes rfl rfl (okb b5) rfl (Yld.pure tab_ok rfl) ?_
              refine WL.gyes rfl rfl (okb b5) rfl (Yld.pure tab_ok rfl) ?_
              refine WL.gyes rfl rfl (okb b5) rfl (Yld.bload tab_ok hB6 rfl rfl rfl) ?_
              refine WL.gyes rfl rfl (okb b5) rfl (Yld.pure tab_ok rfl) ?_
              refine WL.y rfl (Yld.pickF (okb b5) rfl) ?_
              exact WL.weaken (by repeat (first | exact Sub.nil | refine Sub.cons rfl ?_)) (hQ _ _ ⟨decide ((0 : Int) < f_6), rfl, by rw [b5] <;> rfl, rfl⟩)
      · replace H := H.2 (b3)
        refine WC.seq ?_
        refine WC.region ?_
        refine WL.y rfl (Yld.pure tab_ok rfl) ?_
        refine WL.y rfl (Yld.pure tab_ok rfl) ?_
        refine WL.y rfl (Yld.pure tab_ok rfl) ?_
        refine WL.y rfl (Yld.bload tab_ok hf rfl rfl rfl) ?_
        refine WL.y rfl (Yld.pure tab_ok rfl) ?_
        obtain ⟨h8, H⟩ := H
        refine WL.y rfl (Yld.lookOk (z := []) (keyF_s Tryd.underlying9) Tryd.underlying103 (fun _ => by kernel_rfl) hf_by rfl rfl h8) ?_
        refine WL.y rfl (Yld.pure tab_ok rfl) ?_
        refine WL.y rfl (Yld.pure tab_ok rfl) ?_
        refine WL.y rfl (Yld.pure tab_ok rfl) ?_
        refine WL.y rfl (Yld.pure tab_ok rfl) ?_
        refine WL.y rfl (Yld.pure tab_ok rfl) ?_
        refine WL.nil (WX.then_normal ?_)
        refine WC.seq ?_
        refine WC.region ?_
        refine WL.y rfl (Yld.pure tab_ok rfl) ?_
        refine WL.y rfl (Yld.pure tab_ok rfl) ?_
        refine WL.y rfl (Yld.pure tab_ok rfl) ?_
        refine WL.y rfl (Yld.pure tab_ok rfl) ?_
        refine WL.y rfl (Yld.bload tab_ok hf rfl rfl rfl) ?_
        refine WL.y rfl (Yld.pure tab_ok rfl) ?_
        refine WL.midF 3 (fun L' w' => ∃ q4 : Bool, L' = [(25, .bool q4), (0, .pointer (some ⟨g_f, 0, none⟩)), (1, vs name), (6, vs ((mget f_by name).getD [])), (17, .pointer (some ⟨g_f, 0, none⟩))] ∧ q4 = (f_bad || (!((mget f_by name).isSome))) ∧ w = w') ?_ (fun hQ => ?_)
        · rintro _ _ ⟨q4, rfl, rfl, rfl⟩
          refine WL.y rfl (Yld.pure tab_ok rfl) ?_
          obtain ⟨J1, H, hJ1⟩ := H
          refine WL.midF 4 (fun L' w' => ∃ q5 : Bool, L' = [(30, .bool q5), (0, .pointer (some ⟨g_f, 0, none⟩)), (6, vs ((mget f_by name).getD [])), (17, .pointer (some ⟨g_f, 0, none⟩))] ∧ J1 q5 ∧ GrL [(some g_f), (blk A_f_b_buf)] w w' ∧ Own vb w' 0 5 A_f_b_buf c_f_b_buf f_b_buf ∧ Bl w' g_f 105 [.pointer a_f_b_addr, .slice A_f_b_buf f_b_buf.length c_f_b_buf, .slice A_f_l f_l.length c_f_l, .map (some g_f_by), .int .i64 f_next, .bool f_told, .bool f_bad]) ?_ (fun hQ => ?_)
          · clear H
            rintro _ w7 ⟨q5, rfl, H, gr7, k5, k6⟩
            replace H := hJ1 q5 H
            refine WL.y rfl (Yld.pure tab_ok rfl) ?_
            refine WL.y rfl (Yld.pure tab_ok rfl) ?_
            refine WL.store1 one4 rfl rfl rfl k6 (by simp) (fun w8 hB12 hg5 => ?_)
            have hB11 : Bl w8 g_f 105 [.pointer a_f_b_addr, .slice A_f_b_buf f_b_buf.length c_f_b_buf, .slice A_f_l f_l.length c_f_l, .map (some g_f_by), .int .i64 f_next, .bool f_told, .bool q5] := hB12
            have gr8 : GrL [(some g_f), (blk A_f_b_buf)] w w8 := GrL.mod gr7 hg5 (InP.mem (List.Mem.head _))
            have k7 := k5.go hg5 hdj0_1.symm
            refine WL.nil (WX.then_normal ?_)
            refine WC.region ?_
            refine WL.y rfl (Yld.pure tab_ok rfl) ?_
            refine WL.y rfl (Yld.pure tab_ok rfl) ?_
            refine WL.y rfl (Yld.pure tab_ok rfl) ?_
            refine WL.y rfl (Yld.pure tab_ok rfl) ?_
            obtain ⟨h9, H⟩ := H
            refine WL.call rfl rfl (bws_fn hB11 h_f_b_addr rfl rfl rfl (liesB_of (by kernel_rfl)) k7 hdj0_1 h9 (Nat.zero_le _)) ?_
            rintro _ w9 ⟨rfl, A_buf, c_buf, hB13, hO3, hgl3, hi5, dj3⟩
            have hB14 : Bl w9 g_f 105 [.pointer (some ⟨g_f, 0, none⟩), .slice A_buf ((f_b_buf ++ ((mget f_by name).getD [])).length) c_buf, .slice A_f_l f_l.length c_f_l, .map (some g_f_by), .int .i64 f_next, .bool f_told, .bool q5] := hB13
            have hi6 : InP [(some g_f), (blk A_f_b_buf)] w.heap.size (blk A_buf) := InP.trans hi5 (apC (InP.mem (List.Mem.head _)) (apC (InP.mem (List.Mem.tail _ (List.Mem.head _))) apN)) (GrL.sizeL gr8)
            have gr9 : GrL [(some g_f), (blk A_f_b_buf)] w w9 := GrL.modL gr8 hgl3 (apC (InP.mem (List.Mem.head _)) (apC (InP.mem (List.Mem.tail _ (List.Mem.head _))) apN))
            refine WL.nil (WX.block_normal ?_)
            exact WX.end0 rfl ⟨gr9, (some ⟨g_f, 0, none⟩), (f_b_buf ++ ((mget f_by name).getD [])), A_buf, c_buf, f_next, f_told, q5, rfl, hB14, (Or.inr rfl), hO3, hi6, dj3, H⟩
          · clear hJ1
            rcases Bool.eq_false_or_eq_true (f_bad || (!((mget f_by name).isSome))) with b6 | b6
            · replace H := H.1 b6
              refine WL.gno rfl rfl (okb b6) rfl ?_
              refine WL.gno rfl rfl (okb b6) rfl ?_
              refine WL.gno rfl rfl (okb b6) rfl ?_
              refine WL.y rfl (Yld.pickT (okb b6) rfl) ?_
              exact WL.weaken (by repeat (first | exact Sub.nil | refine Sub.cons rfl ?_)) (hQ _ _ ⟨true, rfl, H, (GrL.refl _), hf_b_buf, hf⟩)
            · replace H := H.2 b6
              refine WL.gyes rfl rfl (okb b6) rfl (Yld.pure tab_ok rfl) ?_
              refine WL.callw (wants_some rfl rfl (okb b6)) rfl rfl (W_lex_Name H) ?_
              rintro _ w10 ⟨hg6, t28, rfl, H⟩
              have gr10 := (GrL.of0 (ps := [(some g_f), (blk A_f_b_buf)]) hg6)
              have k8 := hf_b_buf.grown hg6
              have k9 := hf.g0 hg6
              refine WL.gyes rfl rfl (okb b6) rfl (Yld.pure tab_ok rfl) ?_
              refine WL.y rfl (Yld.pickF (okb b6) rfl) ?_
              exact WL.weaken (by repeat (first | exact Sub.nil | refine Sub.cons rfl ?_)) (hQ _ _ ⟨!t28, rfl, H, gr10, k8, k9⟩)
        · clear H
          rcases Bool.eq_false_or_eq_true (f_bad) with b7 | b7
          · refine WL.gno rfl rfl (okb b7) rfl ?_
            refine WL.gno rfl rfl (okb b7) rfl ?_
            refine WL.y rfl (Yld.pickT (okb b7) rfl) ?_
            exact WL.weaken (by repeat (first | exact Sub.nil | refine Sub.cons rfl ?_)) (hQ _ _ ⟨true, rfl, by rw [b7] <;> rfl, rfl⟩)
          · refine WL.gyes rfl rfl (okb b7) rfl (Yld.pure tab_ok rfl) ?_
            refine WL.gyes rfl rfl (okb b7) rfl (Yld.pure tab_ok rfl) ?_
            refine WL.y rfl (Yld.pickF (okb b7) rfl) ?_
            exact WL.weaken (by repeat (first | exact Sub.nil | refine Sub.cons rfl ?_)) (hQ _ _ ⟨!((mget f_by name).isSome), rfl, by rw [b7] <;> rfl, rfl⟩)
    · clear H
      rcases Bool.eq_false_or_eq_true (t69) with b8 | b8
      · refine WL.gyes rfl rfl (okb b8) rfl (Yld.pure tab_ok rfl) ?_
        refine WL.gyes rfl rfl (okb b8) rfl (Yld.pure tab_ok rfl) ?_
        refine WL.gyes rfl rfl (okb b8) rfl (Yld.pure tab_ok rfl) ?_
        refine WL.y rfl (Yld.pickT (okb b8) rfl) ?_
        exact WL.weaken (by repeat (first | exact Sub.nil | refine Sub.cons rfl ?_)) (hQ _ _ ⟨decide ((name.length : Int) ≤ (9 : Int)), rfl, by rw [b8] <;> rfl, rfl⟩)
      · refine WL.gno rfl rfl (okb b8) rfl ?_
        refine WL.gno rfl rfl (okb b8) rfl ?_
        refine WL.gno rfl rfl (okb b8) rfl ?_
        refine WL.y rfl (Yld.pickF (okb b8) rfl) ?_
        exact WL.weaken (by repeat (first | exact Sub.nil | refine Sub.cons rfl ?_)) (hQ _ _ ⟨false, rfl, by rw [b8] <;> rfl, rfl⟩)

set_option maxHeartbeats 8000000 in
theorem W_pstr_former_piece {w : World} {g_f : Nat} {a_f_b_addr : Option Addr} {f_b_buf : List UInt8} {A_f_b_buf : Option Addr} {c_f_b_buf : Nat} {f_l : List (List UInt8)} {A_f_l : Option Addr} {c_f_l : Nat} {g_f_by : Nat} {f_by : List (List UInt8 × List UInt8)} {f_next : Int} {f_told : Bool} {f_bad : Bool} {s : List UInt8} {n_f_b_buf : Nat} {n_f_l : Nat} {K : Int → (List UInt8) → Int → Bool → Bool → Prop} (h_f_b_addr : a_f_b_addr = none ∨ a_f_b_addr = some ⟨g_f, 0, none⟩) (hf_b_buf : Own vb w 0 5 A_f_b_buf c_f_b_buf f_b_buf) (hn_f_b_buf : n_f_b_buf = f_b_buf.length) (hf_l : Rd vs w A_f_l c_f_l f_l) (hn_f_l : n_f_l = f_l.length) (hf_by : MapB vs okS vs w g_f_by f_by) (hf : Bl w g_f 105 [.pointer a_f_b_addr, .slice A_f_b_buf n_f_b_buf c_f_b_buf, .slice A_f_l n_f_l c_f_l, .map (some g_f_by), .int .i64 f_next, .bool f_told, .bool f_bad]) (hdj0_1 : Dj (some g_f) (blk A_f_b_buf)) (hap0 : AllP (Dn f_l (blk A_f_l)) [(some g_f), (blk A_f_b_buf)]) (hap1 : AllP (Dj (some g_f_by)) [(some g_f), (blk A_f_b_buf)]) (H : M_pstr_former_piece f_b_buf f_l f_by f_next f_told f_bad s K) : Fn Tryd.prog 81 ⟨[.pointer (some ⟨g_f, 0, none⟩), vs s]⟩ w (fun v w' => GrL [(some g_f), (blk A_f_b_buf)] w w' ∧ ∃ (r : Int), ∃ (a_f_b_addr2 : Option Addr), ∃ (f_b_buf2 : List UInt8), ∃ (A_f_b_buf2 : Option Addr), ∃ (c_f_b_buf2 : Nat), ∃ (f_next2 : Int), ∃ (f_told2 : Bool), ∃ (f_bad2 : Bool), v = .int .i64 r ∧ Bl w' g_f 105 [.pointer a_f_b_addr2, .slice A_f_b_buf2 f_b_buf2.length c_f_b_buf2, .slice A_f_l f_l.length c_f_l, .map (some g_f_by), .int .i64 f_next2, .bool f_told2, .bool f_bad2] ∧ (a_f_b_addr2 = none ∨ a_f_b_addr2 = some ⟨g_f, 0, none⟩) ∧ Own vb w' 0 5 A_f_b_buf2 c_f_b_buf2 f_b_buf2 ∧ InP [(some g_f), (blk A_f_b_buf)] w.heap.size (blk A_f_b_buf2) ∧ Dj (some g_f) (blk A_f_b_buf2) ∧ K r f_b_buf2 f_next2 f_told2 f_bad2) := by
  subst hn_f_b_buf
  subst hn_f_l
  unfold M_pstr_former_piece at H
  refine Fn.enter (by kernel_rfl) Tryd.func81 rfl Tryd.ntmps81 rfl ?_
  replace H := H (Nat.le_trans hf_b_buf.rd.cap hf_b_buf.rd.max)
  replace H := H (Nat.le_trans hf_l.cap hf_l.max)
  have hNoAt : AllP (NoAt w) [(some g_f), (blk A_f_b_buf)] := (apC (NoAt.bl hf rfl) (apC (NoAt.own hf_b_buf rfl) apN))
  refine WC.seq ?_
  refine WC.region ?_
  refine WL.y rfl (Yld.pure tab_ok rfl) ?_
  refine WL.nil (WX.then_normal ?_)
  refine WC.seq ?_
  refine WC.block ?_
  refine WC.seq ?_
  obtain ⟨J1, H, hJ1⟩ := H
  refine WC.midF (fun L' w' => ∃ (t6 : Bool), L' = [(0, .pointer (some ⟨g_f, 0, none⟩)), (1, vs s), (6, .bool t6)] ∧ J1 t6 ∧ w = w') ?_ (fun hQ => ?_)
  · clear H
    rintro _ _ ⟨t6, rfl, H, rfl⟩
    replace H := hJ1 t6 H
    refine WX.then_normal ?_
    refine WC.cond rfl (fun b1 => ?_) (fun b1 => ?_)
    · replace H := H.1 (b1)
      refine WC.seq ?_
      refine WC.chainF (fun k => !(Nat.beq k 5)) (LD [] (fun w' => True)) mixed (by kernel_rfl) (fun k w' h _ => trivial) ?_
      refine WJ.y rfl rfl (fun w' hw' => Yld.pure tab_ok rfl) ?_
      refine WJ.y rfl rfl (fun w' hw' => Yld.pure tab_ok rfl) ?_
      refine WJ.y rfl rfl (fun w' hw' => Yld.pure tab_ok rfl) ?_
      refine WJ.y rfl rfl (fun w' hw' => Yld.pure tab_ok rfl) ?_
      obtain ⟨h1, H⟩ := H
      refine WJ.y rfl rfl (fun w' hw' => Yld.sidx tab_ok rfl rfl rfl h1.1 h1.2) ?_
      obtain ⟨h2, H⟩ := H
      refine WJ.call rfl wants_none rfl rfl (bwb_fn hf h_f_b_addr rfl rfl rfl (liesB_of (by kernel_rfl)) hf_b_buf hdj0_1 h2 (Nat.zero_le _)) (fun v w' h w2 e => DD.past (by kernel_rfl)) ?_
      rintro _ w1 ⟨rfl, A_buf, c_buf, hB1, hO1, hgl1, hi1, dj1⟩
      have hB2 : Bl w1 g_f 105 [.pointer (some ⟨g_f, 0, none⟩), .slice A_buf ((f_b_buf ++ [s.getD 0 0]).length) c_buf, .slice A_f_l f_l.length c_f_l, .map (some g_f_by), .int .i64 f_next, .bool f_told, .bool f_bad] := hB1
      have hi2 : InP [(some g_f), (blk A_f_b_buf)] w.heap.size (blk A_buf) := InP.trans hi1 (apC (InP.mem (List.Mem.head _)) (apC (InP.mem (List.Mem.tail _ (List.Mem.head _))) apN)) (Nat.le_refl _)
      have gr1 : GrL [(some g_f), (blk A_f_b_buf)] w w1 := GrL.modL (GrL.refl _) hgl1 (apC (InP.mem (List.Mem.head _)) (apC (InP.mem (List.Mem.tail _ (List.Mem.head _))) apN))
      refine WJ.nil (WX.then_normal ?_)
      refine WC.seq ?_
      refine WC.region ?_
      refine WL.y rfl (Yld.pure tab_ok rfl) ?_
      refine WL.nil (WX.then_normal ?_)
      refine WC.ret (WX.block_ret (WX.then_ret ?_))
      exact WX.ret1 rfl rfl ⟨gr1, (2 : Int), (some ⟨g_f, 0, none⟩), (f_b_buf ++ [s.getD 0 0]), A_buf, c_buf, f_next, f_told, f_bad, rfl, hB2, (Or.inr rfl), hO1, hi2, dj1, H⟩
    · replace H := H.2 (b1)
      refine WC.seq ?_
      refine WC.region ?_
      refine WL.y rfl (Yld.pure tab_ok rfl) ?_
      obtain ⟨h3, H⟩ := H
      refine WL.y rfl (Yld.sidx tab_ok rfl rfl rfl h3.1 h3.2) ?_
      refine WL.y rfl (Yld.pure tab_ok rfl) ?_
      refine WL.y rfl (Yld.pure tab_ok rfl) ?_
      refine WL.nil (WX.then_normal ?_)
      refine WC.cond rfl (fun b2 => ?_) (fun b2 => ?_)
      · replace H := H.1 (of_decide_eq_true b2)
        refine WC.seq ?_
        refine WC.region ?_
        refine WL.y rfl (Yld.pure tab_ok rfl) ?_
        refine WL.y rfl (Yld.pure tab_ok rfl) ?_
        refine WL.y rfl (Yld.pure tab_ok rfl) ?_
        refine WL.store1 one4 rfl rfl rfl hf (by simp) (fun w2 hB4 hg1 => ?_)
        have hB3 : Bl w2 g_f 105 [.pointer a_f_b_addr, .slice A_f_b_buf f_b_buf.length c_f_b_buf, .slice A_f_l f_l.length c_f_l, .map (some g_f_by), .int .i64 f_next, .bool f_told, .bool true] := hB4
        have gr2 : GrL [(some g_f), (blk A_f_b_buf)] w w2 := GrL.mod (GrL.refl _) hg1 (InP.mem (List.Mem.head _))
        have k1 := hf_b_buf.go hg1 hdj0_1.symm
        refine WL.nil (WX.then_normal ?_)
        refine WC.seq ?_
        refine WC.region ?_
        refine WL.y rfl (Yld.pure tab_ok rfl) ?_
        refine WL.nil (WX.then_normal ?_)
        refine WC.ret (WX.block_ret (WX.then_ret ?_))
        exact WX.ret1 rfl rfl ⟨gr2, (1 : Int), a_f_b_addr, f_b_buf, A_f_b_buf, c_f_b_buf, f_next, f_told, true, rfl, hB3, h_f_b_addr, k1, (InP.mem (List.Mem.tail _ (List.Mem.head _))), hdj0_1, H⟩
      · replace H := H.2 (of_decide_eq_false b2)
        refine WC.seq ?_
        refine WC.region ?_
        refine WL.y rfl (Yld.pure tab_ok rfl) ?_
        obtain ⟨h4, H⟩ := H
        refine WL.y rfl (Yld.sidx tab_ok rfl rfl rfl h4.1 h4.2) ?_
        refine WL.y rfl (Yld.pure tab_ok rfl) ?_
        refine WL.y rfl (Yld.pure tab_ok rfl) ?_
        refine WL.nil (WX.then_normal ?_)
        refine WC.cond rfl (fun b3 => ?_) (fun b3 => ?_)
        · replace H := H.1 (nd_true b3)
          refine WC.seq ?_
          refine WC.chainF (fun k => !(Nat.beq k 5)) (LD [] (fun w' => True)) mixed (by kernel_rfl) (fun k w' h _ => trivial) ?_
          refine WJ.y rfl rfl (fun w' hw' => Yld.pure tab_ok rfl) ?_
          refine WJ.y rfl rfl (fun w' hw' => Yld.pure tab_ok rfl) ?_
          refine WJ.y rfl rfl (fun w' hw' => Yld.pure tab_ok rfl) ?_
          refine WJ.y rfl rfl (fun w' hw' => Yld.pure tab_ok rfl) ?_
          obtain ⟨h5, H⟩ := H
          refine WJ.y rfl rfl (fun w' hw' => Yld.sidx tab_ok rfl rfl rfl h5.1 h5.2) ?_
          obtain ⟨h6, H⟩ := H
          refine WJ.call rfl wants_none rfl rfl (bwb_fn hf h_f_b_addr rfl rfl rfl (liesB_of (by kernel_rfl)) hf_b_buf hdj0_1 h6 (Nat.zero_le _)) (fun v w' h w2 e => DD.past (by kernel_rfl)) ?_
          rintro _ w3 ⟨rfl, A_buf2, c_buf2, hB5, hO2, hgl2, hi3, dj2⟩
          have hB6 : Bl w3 g_f 105 [.pointer (some ⟨g_f, 0, none⟩), .slice A_buf2 ((f_b_buf ++ [s.getD 0 0]).length) c_buf2, .slice A_f_l f_l.length c_f_l, .map (some g_f_by), .int .i64 f_next, .bool f_told, .bool f_bad] := hB5
          have hi4 : InP [(some g_f), (blk A_f_b_buf)] w.heap.size (blk A_buf2) := InP.trans hi3 (apC (InP.mem (List.Mem.head _)) (apC (InP.mem (List.Mem.tail _ (List.Mem.head _))) apN)) (Nat.le_refl _)
          have gr3 : GrL [(some g_f), (blk A_f_b_buf)] w w3 := GrL.modL (GrL.refl _) hgl2 (apC (InP.mem (List.Mem.head _)) (apC (InP.mem (List.Mem.tail _ (List.Mem.head _))) apN))
          refine WJ.nil (WX.then_normal ?_)
          refine WC.seq ?_
          refine WC.region ?_
          refine WL.y rfl (Yld.pure tab_ok rfl) ?_
          refine WL.nil (WX.then_normal ?_)
          refine WC.ret (WX.block_ret (WX.then_ret ?_))
          exact WX.ret1 rfl rfl ⟨gr3, (1 : Int), (some ⟨g_f, 0, none⟩), (f_b_buf ++ [s.getD 0 0]), A_buf2, c_buf2, f_next, f_told, f_bad, rfl, hB6, (Or.inr rfl), hO2, hi4, dj2, H⟩
        · replace H := H.2 (nd_false b3)
          refine WC.skip (WX.block_normal (WX.then_normal ?_))
          refine WC.seq ?_
          refine WC.region ?_
          refine WL.y rfl (Yld.pure tab_ok rfl) ?_
          refine WL.call rfl rfl (W_strings_IndexByte H) ?_
          rintro _ _ ⟨rfl, end_, rfl, H⟩
          refine WL.y rfl (Yld.pure tab_ok rfl) ?_
          refine WL.nil (WX.then_normal ?_)
          refine WC.seq ?_
          refine WC.seq ?_
          refine WC.region ?_
          refine WL.y rfl (Yld.pure tab_ok rfl) ?_
          refine WL.y rfl (Yld.pure tab_ok rfl) ?_
          refine WL.nil (WX.then_normal ?_)
          refine WC.cond rfl (fun b4 => ?_) (fun b4 => ?_)
          · replace H := H.1 (of_decide_eq_true b4)
            refine WC.seq ?_
            refine WC.region ?_
            refine WL.y rfl (Yld.pure tab_ok rfl) ?_
            refine WL.y rfl (Yld.pure tab_ok rfl) ?_
            refine WL.y rfl (Yld.pure tab_ok rfl) ?_
            refine WL.store1 one4 rfl rfl rfl hf (by simp) (fun w4 hB8 hg2 => ?_)
            have hB7 : Bl w4 g_f 105 [.pointer a_f_b_addr, .slice A_f_b_buf f_b_buf.length c_f_b_buf, .slice A_f_l f_l.length c_f_l, .map (some g_f_by), .int .i64 f_next, .bool f_told, .bool true] := hB8
            have gr4 : GrL [(some g_f), (blk A_f_b_buf)] w w4 := GrL.mod (GrL.refl _) hg2 (InP.mem (List.Mem.head _))
            have k2 := hf_b_buf.go hg2 hdj0_1.symm
            refine WL.nil (WX.then_normal ?_)
            refine WC.seq ?_
            refine WC.region ?_
            refine WL.y rfl (Yld.pure tab_ok rfl) ?_
            refine WL.nil (WX.then_normal ?_)
            refine WC.ret (WX.then_ret ?_)
            exact WX.ret1 rfl rfl ⟨gr4, (1 : Int), a_f_b_addr, f_b_buf, A_f_b_buf, c_f_b_buf, f_next, f_told, true, rfl, hB7, h_f_b_addr, k2, (InP.mem (List.Mem.tail _ (List.Mem.head _))), hdj0_1, H⟩
          · replace H := H.2 (of_decide_eq_false b4)
            refine WC.skip (WX.then_normal ?_)
            refine WC.seq ?_
            refine WC.region ?_
            refine WL.y rfl (Yld.pure tab_ok rfl) ?_
            refine WL.y rfl (Yld.pure tab_ok rfl) ?_
            refine WL.y rfl (Yld.pure tab_ok rfl) ?_
            obtain ⟨h7, H⟩ := H
            refine WL.y rfl (Yld.scut tab_ok rfl rfl rfl rfl h7.1 h7.2.1 h7.2.2) ?_
            refine WL.call rfl rfl (W_pstr_former_value h_f_b_addr hf_b_buf rfl hf_l rfl hf_by hf hdj0_1 (apC (InP.dn (InP.mem (List.Mem.head _)) (fun hx => hf_l.lt' hx) hap0) (apC (InP.dn (InP.mem (List.Mem.tail _ (List.Mem.head _))) (fun hx => hf_l.lt' hx) hap0) apN)) (apC (InP.dj (InP.mem (List.Mem.head _)) hf_by.lt' hap1).symm (apC (InP.dj (InP.mem (List.Mem.tail _ (List.Mem.head _))) hf_by.lt' hap1).symm apN)) H) ?_
            rintro _ w5 ⟨hgl3, a_f_, f_, A_f_, c_f_, f_2, f_3, f_4, rfl, hB9, ha1, hO3, hi5, dj3, H⟩
            have hi6 : InP [(some g_f), (blk A_f_b_buf)] w.heap.size (blk A_f_) := InP.trans hi5 (apC (InP.mem (List.Mem.head _)) (apC (InP.mem (List.Mem.tail _ (List.Mem.head _))) apN)) (Nat.le_refl _)
            have gr5 : GrL [(some g_f), (blk A_f_b_buf)] w w5 := GrL.modL (GrL.refl _) hgl3 (apC (InP.mem (List.Mem.head _)) (apC (InP.mem (List.Mem.tail _ (List.Mem.head _))) apN))
            refine WL.nil (WX.then_normal ?_)
            refine WC.seq ?_
            refine WC.region ?_
            refine WL.y rfl (Yld.pure tab_ok rfl) ?_
            obtain ⟨h8, H⟩ := H
            refine WL.y rfl (Yld.add rfl rfl h8) ?_
            refine WL.y rfl (Yld.pure tab_ok rfl) ?_
            refine WL.nil (WX.then_normal ?_)
            refine WC.ret ?_
            exact WX.ret1 rfl rfl ⟨gr5, end_ + (1 : Int), a_f_, f_, A_f_, c_f_, f_2, f_3, f_4, rfl, hB9, ha1, hO3, hi6, dj3, H⟩
  · clear hJ1
    refine WC.seq ?_
    refine WC.region ?_
    refine WL.y rfl (Yld.pure tab_ok rfl) ?_
    refine WL.call rfl rfl (W_strings_HasPrefix H) ?_
    rintro _ _ ⟨rfl, t62, rfl, H⟩
    refine WL.y rfl (Yld.pure tab_ok rfl) ?_
    refine WL.nil (WX.then_normal ?_)
    refine WC.cond rfl (fun b5 => ?_) (fun b5 => ?_)
    · replace H := H.1 (b5)
      refine WC.skip ?_
      exact WX.weaken (by repeat (first | exact Sub.nil | refine Sub.cons rfl ?_)) (hQ _ _ ⟨t62, rfl, H, rfl⟩)
    · replace H := H.2 (b5)
      refine WC.region ?_
      refine WL.y rfl (Yld.pure tab_ok rfl) ?_
      refine WL.call rfl rfl (W_strings_HasPrefix H) ?_
      rintro _ _ ⟨rfl, t63, rfl, H⟩
      refine WL.y rfl (Yld.pure tab_ok rfl) ?_
      refine WL.nil ?_
      exact WX.weaken (by repeat (first | exact Sub.nil | refine Sub.cons rfl ?_)) (hQ _ _ ⟨t63, rfl, H, rfl⟩)

set_option maxHeartbeats 8000000 in
theorem W_str_Format {S : List Nat} {w : World} {s : List UInt8} {l : List (List UInt8)} {A_l : Option Addr} {c_l : Nat} {names : List (List UInt8)} {A_names : Option Addr} {c_names : Nat} {values : List (List UInt8)} {A_values : Option Addr} {c_values : Nat} {n_l : Nat} {n_names : Nat} {n_values : Nat} {K : (List UInt8) → Er → Prop} (hG : GOK S w) (hS3 : 3 ∈ S) (hS7 : 7 ∈ S) (hl : Rd vs w A_l c_l l) (hn_l : n_l = l.length) (hnames : Rd vs w A_names c_names names) (hn_names : n_names = names.length) (hvalues : Rd vs w A_values c_values values) (hn_values : n_values = values.length) (H : M_str_Format s l names values K) : Fn Tryd.prog 52 ⟨[vs s, .slice A_l n_l c_l, .slice A_names n_names c_names, .slice A_values n_values c_values]⟩ w (fun v w' => w.grownBy w' none ∧ ∃ (r0 : List UInt8), ∃ (v_r1 : Value), ∃ (r1 : Er), v = .tuple #[vs r0, v_r1] ∧ ErrR S w' v_r1 r1 ∧ K r0 r1) := by
  subst hn_l
  subst hn_names
  subst hn_values
  unfold M_str_Format at H
  refine Fn.enter (by kernel_rfl) Tryd.func52 rfl Tryd.ntmps52 rfl ?_
  replace H := H (Nat.le_trans hl.cap hl.max)
  replace H := H (Nat.le_trans hnames.cap hnames.max)
  replace H := H (Nat.le_trans hvalues.cap hvalues.max)
  refine WC.seq ?_
  refine WC.region ?_
  refine WL.y rfl (Yld.pure tab_ok rfl) ?_
  refine WL.y rfl (Yld.pure tab_ok rfl) ?_
  refine WL.nil (WX.then_normal ?_)
  refine WC.seq ?_
  refine WC.region ?_
  refine WL.y rfl (Yld.pure tab_ok rfl) ?_
  refine WL.putw wants_none rfl (Eff.makeMap vs okS vs) ?_
  rintro _ w1 ⟨rfl, hB1, hg1⟩
  obtain ⟨g_t17, hl1⟩ : ∃ g, g = w.heap.size := ⟨_, rfl⟩
  rw [← hl1] at hB1
  rw [← hl1]
  have gr1 := hg1
  refine WL.y rfl (Yld.struct (us := [.pointer none, .slice none 0 0, .slice A_l l.length c_l, .map (some g_t17), .int .i64 (0 : Int), .bool false, .bool false]) zero105 places105 rfl rfl) ?_
  refine WL.box (us := [.pointer none, .slice none 0 0, .slice A_l l.length c_l, .map (some g_t17), .int .i64 (0 : Int), .bool false, .bool false]) rfl rfl rfl (fun g1 w2 hB2 hg2 hl2 => ?_)
  have gr2 := gr_trans gr1 hg2
  have k1 := hB1.g0 hg2
  refine WL.y rfl (Yld.pure tab_ok rfl) ?_
  refine WL.nil (WX.then_normal ?_)
  refine WC.seq ?_
  refine WC.seq ?_
  refine WC.region ?_
  refine WL.y rfl (Yld.pure tab_ok rfl) ?_
  refine WL.y rfl (Yld.pure tab_ok rfl) ?_
  refine WL.y rfl (Yld.pure tab_ok rfl) ?_
  refine WL.nil (WX.then_normal ?_)
  refine WC.block ?_
  obtain ⟨I1, mu1, h0_1, HR1⟩ := H
  refine WC.loopF (fun n' L' w' => ∃ (t22 : Int), ∃ (t193 : List (List UInt8 × List UInt8)), n' = mu1 t22 t193 ∧ L' = [(0, vs s), (3, .slice A_values values.length c_values), (10, .pointer (some ⟨g1, 0, none⟩)), (20, .slice A_names names.length c_names), (21, .int .i64 (names.length : Int)), (22, .int .i64 t22)] ∧ I1 t22 t193 ∧ w.grownBy w' none ∧ Bl w' g1 105 [.pointer none, .slice none 0 0, .slice A_l l.length c_l, .map (some g_t17), .int .i64 (0 : Int), .bool false, .bool false] ∧ MapB vs okS vs w' g_t17 t193 ∧ Dj (some g1) (some g_t17)) _ _ ⟨(0 : Int), ([] : List (List UInt8 × List UInt8)), rfl, rfl, h0_1, gr2, hB2, k1, (Dj.new hB1.lt' (Ge.box hl2)).symm⟩ (by repeat (first | exact Sub.nil | refine Sub.cons rfl ?_)) ?_
  clear h0_1
  rintro _ _ w3 ⟨t22, t193, rfl, rfl, hI1, gr3, k2, k3, dj1⟩
  have H := HR1 t22 t193 hI1
  refine WC.seq ?_
  refine WC.region ?_
  refine WL.y rfl (Yld.pure tab_ok rfl) ?_
  refine WL.nil (WX.then_normal ?_)
  refine WC.seq ?_
  refine WC.cond rfl (fun b1 => ?_) (fun b1 => ?_)
  · replace H := H.1 (of_decide_eq_true b1)
    refine WC.skip (WX.then_normal ?_)
    refine WC.seq ?_
    obtain ⟨J1, H, hJ1⟩ := H
    refine WC.midF (fun L' w' => ∃ (t1932 : List (List UInt8 × List UInt8)), L' = [(0, vs s), (3, .slice A_values values.length c_values), (10, .pointer (some ⟨g1, 0, none⟩)), (20, .slice A_names names.length c_names), (21, .int .i64 (names.length : Int)), (22, .int .i64 t22)] ∧ J1 t1932 ∧ w.grownBy w' none ∧ Bl w' g1 105 [.pointer none, .slice none 0 0, .slice A_l l.length c_l, .map (some g_t17), .int .i64 (0 : Int), .bool false, .bool false] ∧ MapB vs okS vs w' g_t17 t1932 ∧ Dj (some g1) (some g_t17)) ?_ (fun hQ => ?_)
    · clear H
      rintro _ w4 ⟨t1932, rfl, H, gr4, k4, k5, dj2⟩
      replace H := hJ1 t1932 H
      refine WX.then_normal ?_
      refine WC.region ?_
      obtain ⟨h1, H⟩ := H
      refine WL.y rfl (Yld.add rfl rfl h1) ?_
      refine WL.y rfl (Yld.pure tab_ok rfl) ?_
      refine WL.nil ?_
      exact WX.roundF _ ⟨t22 + (1 : Int), t1932, rfl, rfl, H.1, gr4, k4, k5, dj2⟩ (by repeat (first | exact Sub.nil | refine Sub.cons rfl ?_)) H.2
    · clear hJ1
      refine WC.block ?_
      refine WC.seq ?_
      refine WC.region ?_
      refine WL.y rfl (Yld.pure tab_ok rfl) ?_
      obtain ⟨h2, H⟩ := H
      refine WL.y rfl (Yld.iaddrW tab_ok (hnames.grown gr3) rfl rfl rfl rfl h2.1 h2.2) ?_
      refine WL.y rfl (Yld.iload [] tab_ok (hnames.grown gr3) rfl rfl (iltN h2 rfl)) ?_
      refine WL.y rfl (Yld.pure tab_ok rfl) ?_
      refine WL.y rfl (Yld.pure tab_ok rfl) ?_
      refine WL.nil (WX.then_normal ?_)
      refine WC.seq ?_
      refine WC.region ?_
      refine WL.y rfl (Yld.pure tab_ok rfl) ?_
      refine WL.y rfl (Yld.pure tab_ok rfl) ?_
      refine WL.y rfl (Yld.pure tab_ok rfl) ?_
      refine WL.y rfl (Yld.bload tab_ok k2 rfl rfl rfl) ?_
      refine WL.y rfl (Yld.pure tab_ok rfl) ?_
      obtain ⟨h3, H⟩ := H
      refine WL.y rfl (Yld.lookOk (z := []) (keyF_s Tryd.underlying9) Tryd.underlying103 (fun _ => by kernel_rfl) k3 rfl rfl h3) ?_
      refine WL.y rfl (Yld.pure tab_ok rfl) ?_
      refine WL.y rfl (Yld.pure tab_ok rfl) ?_
      refine WL.y rfl (Yld.pure tab_ok rfl) ?_
      refine WL.y rfl (Yld.pure tab_ok rfl) ?_
      refine WL.y rfl (Yld.pure tab_ok rfl) ?_
      refine WL.nil (WX.then_normal ?_)
      refine WC.seq ?_
      refine WC.region ?_
      refine WL.y rfl (Yld.pure tab_ok rfl) ?_
      refine WL.y rfl (Yld.pure tab_ok rfl) ?_
      refine WL.y rfl (Yld.pure tab_ok rfl) ?_
      refine WL.midF 5 (fun L' w' => ∃ q1 : Bool, L' = [(43, .bool q1), (0, vs s), (3, .slice A_values values.length c_values), (10, .pointer (some ⟨g1, 0, none⟩)), (11, .int .i64 t22), (12, vs (names.getD t22.toNat [])), (20, .slice A_names names.length c_names), (21, .int .i64 (names.length : Int)), (22, .int .i64 t22)] ∧ q1 = ((!((mget t193 (names.getD t22.toNat [])).isSome)) && (decide (t22 < (values.length : Int)))) ∧ w3 = w') ?_ (fun hQ => ?_)
      · rintro _ _ ⟨q1, rfl, rfl, rfl⟩
        refine WL.nil (WX.then_normal ?_)
        refine WC.cond rfl (fun b2 => ?_) (fun b2 => ?_)
        · replace H := H.1 (b2)
          refine WC.chainF (fun k => !(Nat.beq k 9)) (LD [3, 8] (fun w' => Bl w' g1 105 [.pointer none, .slice none 0 0, .slice A_l l.length c_l, .map (some g_t17), .int .i64 (0 : Int), .bool false, .bool false] ∧ Rd vs w' A_values c_values values)) mixed (by kernel_rfl) (fun k w' h _ => ⟨(bl_eqv h k2), (rd_eqv h (hvalues.grown gr3))⟩) ?_
          refine WJ.y rfl rfl (fun w' hw' => Yld.pure tab_ok rfl) ?_
          refine WJ.y rfl rfl (fun w' hw' => Yld.pure tab_ok rfl) ?_
          refine WJ.y rfl rfl (fun w' hw' => Yld.pure tab_ok rfl) ?_
          refine WJ.y rfl rfl (fun w' hw' => Yld.bload tab_ok (hw' rfl).1 rfl rfl rfl) ?_
          refine WJ.y rfl rfl (fun w' hw' => Yld.pure tab_ok rfl) ?_
          refine WJ.y rfl rfl (fun w' hw' => Yld.pure tab_ok rfl) ?_
          refine WJ.y rfl rfl (fun w' hw' => Yld.pure tab_ok rfl) ?_
          obtain ⟨h4, H⟩ := H
          refine WJ.y rfl rfl (fun w' hw' => Yld.iaddrW tab_ok (hvalues.grown gr3) rfl rfl rfl rfl h4.1 h4.2) ?_
          refine WJ.y rfl rfl (fun w' hw' => Yld.iload [] tab_ok (hw' rfl).2 rfl rfl (iltN h4 rfl)) ?_
          obtain ⟨h5, H⟩ := H
          refine WJ.eff rfl (Ef0.mapPut (keyF_s Tryd.underlying9) Tryd.underlying103 k3 h5.2 rfl rfl h5.1 rfl) (fun w' h => DD.keep (⟨(Bl.go k2 (gr_eqv h.2 (Eqv.refl _)) dj1), (Rd.go (hvalues.grown gr3) (gr_eqv h.2 (Eqv.refl _)) (Dn.new (fun hx => hvalues.lt' hx) (Ge.le (Ge.box (Nat.le_of_eq hl1.symm)) (Nat.le_refl _))))⟩)) ?_
          rintro w5 ⟨hB3, hg3⟩
          have gr5 := gr_mod gr3 hg3 (Ge.le (Ge.box (Nat.le_of_eq hl1.symm)) (Nat.le_refl _))
          have k6 := k2.go hg3 dj1
          refine WJ.nil (WX.block_normal ?_)
          exact WX.weaken (by repeat (first | exact Sub.nil | refine Sub.cons rfl ?_)) (hQ _ _ ⟨mput t193 (names.getD t22.toNat []) (values.getD t22.toNat []), rfl, H, gr5, k6, hB3, dj1⟩)
        · replace H := H.2 (b2)
          refine WC.skip (WX.block_normal ?_)
          exact WX.weaken (by repeat (first | exact Sub.nil | refine Sub.cons rfl ?_)) (hQ _ _ ⟨t193, rfl, H, gr3, k2, k3, dj1⟩)
      · clear H
        rcases Bool.eq_false_or_eq_true (!((mget t193 (names.getD t22.toNat [])).isSome)) with b3 | b3
        · refine WL.gyes rfl rfl (okb b3) rfl (Yld.pure tab_ok rfl) ?_
          refine WL.gyes rfl rfl (okb b3) rfl (Yld.pure tab_ok rfl) ?_
          refine WL.gyes rfl rfl (okb b3) rfl (Yld.pure tab_ok rfl) ?_
          refine WL.gyes rfl rfl (okb b3) rfl (Yld.pure tab_ok rfl) ?_
          refine WL.y rfl (Yld.pickT (okb b3) rfl) ?_
          exact WL.weaken (by repeat (first | exact Sub.nil | refine Sub.cons rfl ?_)) (hQ _ _ ⟨decide (t22 < (values.length : Int)), rfl, by rw [b3] <;> rfl, rfl⟩)
        · refine WL.gno rfl rfl (okb b3) rfl ?_
          refine WL.gno rfl rfl (okb b3) rfl ?_
          refine WL.gno rfl rfl (okb b3) rfl ?_
          refine WL.gno rfl rfl (okb b3) rfl ?_
          refine WL.y rfl (Yld.pickF (okb b3) rfl) ?_
          exact WL.weaken (by repeat (first | exact Sub.nil | refine Sub.cons rfl ?_)) (hQ _ _ ⟨false, rfl, by rw [b3] <;> rfl, rfl⟩)
  · replace H := H.2 (of_decide_eq_false b1)
    refine WC.exit (WX.then_exit (WX.then_exit (WX.block_same (WX.then_normal ?_))))
    refine WC.seq ?_
    refine WC.seq ?_
    refine WC.region ?_
    refine WL.y rfl (Yld.pure tab_ok rfl) ?_
    refine WL.nil (WX.then_normal ?_)
    refine WC.block ?_
    obtain ⟨I2, mu2, h0_2, HR2⟩ := H
    refine WC.loopF (fun n' L' w' => ∃ (i : Int), ∃ (a_bld : Option Addr), ∃ (t191 : List UInt8), ∃ (A_t191 : Option Addr), ∃ (c_t191 : Nat), ∃ (n_t191 : Nat), ∃ (t194 : Int), ∃ (t195 : Bool), ∃ (t196 : Bool), n' = mu2 i t191 t194 t195 t196 ∧ L' = [(0, vs s), (10, .pointer (some ⟨g1, 0, none⟩)), (15, .int .i64 i)] ∧ I2 i t191 t194 t195 t196 ∧ (a_bld = none ∨ a_bld = some ⟨g1, 0, none⟩) ∧ n_t191 = t191.length ∧ w.grownBy w' none ∧ Bl w' g1 105 [.pointer a_bld, .slice A_t191 n_t191 c_t191, .slice A_l l.length c_l, .map (some g_t17), .int .i64 t194, .bool t195, .bool t196] ∧ MapB vs okS vs w' g_t17 t193 ∧ Own vb w' w.heap.size 5 A_t191 c_t191 t191 ∧ Dj (some g1) (some g_t17) ∧ Dj (some g1) (blk A_t191) ∧ Dj (some g_t17) (blk A_t191)) _ _ ⟨(0 : Int), none, [], none, 0, 0, (0 : Int), false, false, rfl, rfl, h0_2, (Or.inl rfl), rfl, gr3, k2, k3, (Own.nil vb w3 w.heap.size 5), dj1, Dj.nr, Dj.nr⟩ (by repeat (first | exact Sub.nil | refine Sub.cons rfl ?_)) ?_
    clear h0_2
    rintro _ _ w6 ⟨i, a_bld, t191, A_t191, c_t191, n_t191, t194, t195, t196, rfl, rfl, hI2, ha_bld, rfl, gr6, k7, k8, k9, dj3, dj4, dj5⟩
    have H := HR2 i t191 t194 t195 t196 hI2
    refine WC.seq ?_
    refine WC.seq ?_
    refine WC.region ?_
    refine WL.y rfl (Yld.pure tab_ok rfl) ?_
    refine WL.y rfl (Yld.pure tab_ok rfl) ?_
    refine WL.y rfl (Yld.pure tab_ok rfl) ?_
    refine WL.y rfl (Yld.pure tab_ok rfl) ?_
    refine WL.y rfl (Yld.pure tab_ok rfl) ?_
    refine WL.midF 6 (fun L' w' => ∃ q2 : Bool, L' = [(64, .bool q2), (0, vs s), (10, .pointer (some ⟨g1, 0, none⟩)), (15, .int .i64 i)] ∧ q2 = ((decide (i < (s.length : Int))) && (!t196)) ∧ w6 = w') ?_ (fun hQ => ?_)
    · rintro _ _ ⟨q2, rfl, rfl, rfl⟩
      refine WL.nil (WX.then_normal ?_)
      refine WC.cond rfl (fun b4 => ?_) (fun b4 => ?_)
      · replace H := H.1 (b4)
        refine WC.skip (WX.then_normal ?_)
        refine WC.block ?_
        refine WC.seq ?_
        refine WC.region ?_
        refine WL.y rfl (Yld.pure tab_ok rfl) ?_
        refine WL.y rfl (Yld.pure tab_ok rfl) ?_
        refine WL.y rfl (Yld.pure tab_ok rfl) ?_
        refine WL.y rfl (Yld.pure tab_ok rfl) ?_
        obtain ⟨h6, H⟩ := H
        refine WL.y rfl (Yld.scutF tab_ok rfl rfl rfl h6.1 h6.2) ?_
        refine WL.call rfl rfl (W_pstr_former_piece ha_bld (k9.base (fun _ _ => Nat.zero_le _)) rfl (hl.grown gr6) rfl k8 k7 dj4 (apC (Dn.new (fun hx => hl.lt' hx) (Ge.le (Ge.box hl2) (size_le gr1))) (apC (Dn.new (fun hx => hl.lt' hx) k9.ge') apN)) (apC dj3.symm (apC dj5 apN)) H) ?_
        rintro _ w7 ⟨hgl1, t70, a_t19_, t19_, A_t19_, c_t19_, t19_2, t19_3, t19_4, rfl, hB4, ha1, hO1, hi1, dj6, H⟩
        have hO2 := hO1.base (InP.toGe hi1 (apC (Ge.le (Ge.box hl2) (size_le gr1)) (apC k9.ge' apN)) (size_le gr6))
        have gr7 := gr_modL gr6 hgl1 (apC (Ge.le (Ge.box hl2) (size_le gr1)) (apC k9.ge' apN))
        have k10 := k8.goL hgl1 (apC dj3.symm (apC dj5 apN))
        obtain ⟨h7, H⟩ := H
        refine WL.y rfl (Yld.add rfl rfl h7) ?_
        refine WL.y rfl (Yld.pure tab_ok rfl) ?_
        refine WL.nil (WX.then_normal ?_)
        refine WC.seq ?_
        refine WC.region ?_
        refine WL.y rfl (Yld.pure tab_ok rfl) ?_
        refine WL.y rfl (Yld.pure tab_ok rfl) ?_
        refine WL.y rfl (Yld.pure tab_ok rfl) ?_
        refine WL.call rfl rfl (blen_fn hB4 rfl rfl) ?_
        rintro _ _ ⟨rfl, rfl⟩
        refine WL.y rfl (Yld.pure tab_ok rfl) ?_
        refine WL.nil (WX.then_normal ?_)
        refine WC.cond rfl (fun b5 => ?_) (fun b5 => ?_)
        · replace H := H.1 (of_decide_eq_true b5)
          refine WC.seq ?_
          refine WC.quiet mixed (by kernel_rfl) ?_
          obtain ⟨vE1, _, hE1⟩ := GOK.get (hG.grown gr7) 7 1 hS7 rfl rfl
          refine WQ.y rfl (Yld.cell tab_ok (ErrR.cell hE1 rfl) rfl rfl) ?_
          refine WQ.y rfl (Yld.pure tab_ok rfl) ?_
          refine WQ.y rfl (Yld.pure tab_ok rfl) ?_
          refine WQ.nil (WX.then_normal ?_)
          refine WC.ret (WX.block_ret (WX.then_ret (WX.block_ret (WX.then_ret ?_))))
          exact WX.ret2 rfl rfl rfl ⟨gr7, ([] : List UInt8), vE1, (Er.e 7), rfl, hE1, H⟩
        · replace H := H.2 (of_decide_eq_false b5)
          refine WC.skip (WX.block_normal ?_)
          exact WX.roundF _ ⟨i + t70, a_t19_, t19_, A_t19_, c_t19_, t19_.length, t19_2, t19_3, t19_4, rfl, rfl, H.1, ha1, rfl, gr7, hB4, k10, hO2, dj3, dj6, (InP.dj hi1 k8.lt' (apC dj3.symm (apC dj5 apN))).symm⟩ (by repeat (first | exact Sub.nil | refine Sub.cons rfl ?_)) H.2
      · replace H := H.2 (b4)
        refine WC.exit (WX.then_exit (WX.then_exit (WX.block_same (WX.then_normal ?_))))
        refine WC.seq ?_
        refine WC.seq ?_
        refine WC.region ?_
        refine WL.y rfl (Yld.pure tab_ok rfl) ?_
        refine WL.y rfl (Yld.pure tab_ok rfl) ?_
        refine WL.y rfl (Yld.pure tab_ok rfl) ?_
        refine WL.y rfl (Yld.bload tab_ok k7 rfl rfl rfl) ?_
        refine WL.nil (WX.then_normal ?_)
        refine WC.cond rfl (fun b6 => ?_) (fun b6 => ?_)
        · replace H := H.1 (b6)
          refine WC.seq ?_
          refine WC.quiet mixed (by kernel_rfl) ?_
          obtain ⟨vE2, _, hE2⟩ := GOK.get (hG.grown gr6) 3 2 hS3 rfl rfl
          refine WQ.y rfl (Yld.cell tab_ok (ErrR.cell hE2 rfl) rfl rfl) ?_
          refine WQ.y rfl (Yld.pure tab_ok rfl) ?_
          refine WQ.y rfl (Yld.pure tab_ok rfl) ?_
          refine WQ.nil (WX.then_normal ?_)
          refine WC.ret (WX.then_ret ?_)
          exact WX.ret2 rfl rfl rfl ⟨gr6, ([] : List UInt8), vE2, (Er.e 3), rfl, hE2, H⟩
        · replace H := H.2 (b6)
          refine WC.skip (WX.then_normal ?_)
          refine WC.seq ?_
          refine WC.region ?_
          refine WL.y rfl (Yld.pure tab_ok rfl) ?_
          refine WL.y rfl (Yld.pure tab_ok rfl) ?_
          refine WL.y rfl (Yld.pure tab_ok rfl) ?_
          refine WL.call rfl rfl (bstr_fn k7 rfl rfl k9 dj4) ?_
          rintro _ w8 ⟨rfl, hB5, hgl2⟩
          have gr8 := gr_modL gr6 hgl2 (apC k9.ge' apN)
          refine WL.y rfl (Yld.pure tab_ok rfl) ?_
          refine WL.y rfl (Yld.pure tab_ok rfl) ?_
          refine WL.nil (WX.then_normal ?_)
          refine WC.ret ?_
          exact WX.ret2 rfl rfl rfl ⟨gr8, t191, .nilIface, Er.ok, rfl, (ErrR.okR (S := S) (w := w8)), H⟩
    · clear H
      rcases Bool.eq_false_or_eq_true (decide (i < (s.length : Int))) with b7 | b7
      · refine WL.gyes rfl rfl (okb b7) rfl (Yld.pure tab_ok rfl) ?_
        refine WL.gyes rfl rfl (okb b7) rfl (Yld.pure tab_ok rfl) ?_
        refine WL.gyes rfl rfl (okb b7) rfl (Yld.pure tab_ok rfl) ?_
        refine WL.gyes rfl rfl (okb b7) rfl (Yld.bload tab_ok k7 rfl rfl rfl) ?_
        refine WL.gyes rfl rfl (okb b7) rfl (Yld.pure tab_ok rfl) ?_
        refine WL.y rfl (Yld.pickT (okb b7) rfl) ?_
        exact WL.weaken (by repeat (first | exact Sub.nil | refine Sub.cons rfl ?_)) (hQ _ _ ⟨!t196, rfl, by rw [b7] <;> rfl, rfl⟩)
      · refine WL.gno rfl rfl (okb b7) rfl ?_
        refine WL.gno rfl rfl (okb b7) rfl ?_
        refine WL.gno rfl rfl (okb b7) rfl ?_
        refine WL.gno rfl rfl (okb b7) rfl ?_
        refine WL.gno rfl rfl (okb b7) rfl ?_
        refine WL.y rfl (Yld.pickF (okb b7) rfl) ?_
        exact WL.weaken (by repeat (first | exact Sub.nil | refine Sub.cons rfl ?_)) (hQ _ _ ⟨false, rfl, by rw [b7] <;> rfl, rfl⟩)

end Go.Proofs.YtjinkmipkfjblaaDoor

 /- The bytes of a string, written. -/
namespace Go.Proofs.YtjinkmipkfjblaaDoor
open Go Go.RowKit
/-- a row of one's own that a string's bytes were laid into -/
def OwnM (f : UInt8 → Value) (w : World) (B : Nat) (e : TypeId) (A : Option Addr) (c : Nat) (xs : List UInt8) : Prop :=
  ∃ g cur, A = some ⟨g, 0, none⟩ ∧ B ≤ g ∧ w.heap[g]? = some (.cells cur e (cur.size, cur.size + 1)) ∧ cur.size = c ∧ xs.length ≤ c ∧ c ≤ maxLen ∧ cur.toList.take xs.length = xs.map f
section
variable {f : UInt8 → Value} {w w' : World} {B B' c : Nat} {e : TypeId} {A : Option Addr} {xs : List UInt8} {row : Option Nat} {ps : List (Option Nat)}
theorem OwnM.rd (h : OwnM f w B e A c xs) : Rd f w A c xs := by
  obtain ⟨g, cur, rfl, hB, hg, hc, hl, hm, ht⟩ := h
  refine ⟨hl, hm, fun _ => ⟨_, rfl, fun j x hj => ?_⟩⟩
  rw [Addr.add_mid]
  refine (cell_of_row _ _ _ _ _ _ hg).trans ?_
  rw [Nat.zero_add]
  have h1 := congrArg (fun l => l[j]?) ht
  have hlt : j < xs.length := (List.getElem?_eq_some_iff.1 hj).1
  simp only [List.getElem?_take, if_pos hlt, List.getElem?_map, hj, Option.map_some] at h1
  simpa using h1
theorem OwnM.lt' (h : OwnM f w B e A c xs) : Lt (blk A) w.heap.size := by
  obtain ⟨g, cur, rfl, hB, hg, _⟩ := h
  exact Lt.box (Array.getElem?_eq_some_iff.1 hg).1
theorem OwnM.ge' (h : OwnM f w B e A c xs) : Ge (blk A) B := by
  obtain ⟨g, cur, rfl, hB, hg, _⟩ := h
  exact Ge.box hB
theorem OwnM.goL (h : OwnM f w B e A c xs) (hg : GrL ps w w') (hd : AllP (Dj (blk A)) ps) : OwnM f w' B e A c xs := by
  obtain ⟨g, cur, rfl, hB, hb, r⟩ := h
  exact ⟨g, cur, rfl, hB, (hg.block g (Array.getElem?_eq_some_iff.1 hb).1 fun p hp e => hd p hp g rfl e).trans hb, r⟩
theorem OwnM.go (h : OwnM f w B e A c xs) (hg : w.grownBy w' row) (hd : Dj (blk A) row) : OwnM f w' B e A c xs := h.goL (GrL.of1 hg) (apC hd apN)
theorem OwnM.grown (h : OwnM f w B e A c xs) (hg : w.grownBy w' none) : OwnM f w' B e A c xs := h.go hg Dj.nr
theorem OwnM.base (h : OwnM f w B e A c xs) (hB : ∀ g, blk A = some g → B' ≤ g) : OwnM f w B' e A c xs := by
  obtain ⟨g, cur, rfl, _, r⟩ := h
  exact ⟨g, cur, rfl, hB g rfl, r⟩
theorem OwnM.eqv (hw : Eqv w w') (h : OwnM f w B e A c xs) : OwnM f w' B e A c xs := h.grown (gr_eqv (gr_refl w none) hw)
end
section
variable {P : Program} {T : Tab} {N : Nat} {ops : Array Oper} {Q : Post} {L : Slots} {w : World} {rest : List Oper} {d : Nat} {ty : TypeId} {pos : String} {af : Array Edge} {t : TypeId} {x y : Operand} {A : Option Addr} {c B : Nat} {xs : List UInt8} {e : TypeId}
end
end Go.Proofs.YtjinkmipkfjblaaDoor


 /- Printed by a program (wip/vg): what the functions mean, plainly, and their walks. -/
namespace Go.Proofs.YtjinkmipkfjblaaDoor
open Go Go.RowKit
attribute [local irreducible] WL WC WX WQ WK WJ Yld Eff Ef0 Fn
def M_str_Split (s : List UInt8) (by_ : List UInt8) (most : Int) (K : (List (List UInt8)) → Er → Prop) : Prop :=
 ((by_ = ([] : List UInt8) → K [] (Er.e 3)) ∧
 (¬ (by_ = ([] : List UInt8)) → M_strings_Count s by_ (fun (n : Int) =>
 ∃ J1 : Int → Prop, ((((0 : Int) ≤ most → J1 (if most < n then most else n)) ∧
 (¬ ((0 : Int) ≤ most) → J1 n))) ∧
 (∀ n2 : Int, J1 n2 → (((1024 : Int) ≤ n2 → K [] (Er.e 7)) ∧
 (¬ ((1024 : Int) ≤ n2) → (In .i64 (n2 + (1 : Int))) ∧
 M_strings_SplitN s by_ (n2 + (1 : Int)) (fun (t6 : List (List UInt8)) =>
 K t6 Er.ok)))))))

def M_str_Words (s : List UInt8) (K : (List (List UInt8)) → Prop) : Prop :=
 Lp3 (fun (l : List (List UInt8)) (from_ : Int) (i : Int) k_1 => ((i ≤ (s.length : Int) → ∃ J1 : (List (List UInt8)) → Int → Prop, (∃ J2 : Bool → Prop, ((((decide (i < (s.length : Int))) = true → (0 ≤ i ∧ i < s.length) ∧
 M_strings_IndexByte ([32, 9, 10, 13, 11, 12] : List UInt8) ((s.getD i.toNat 0).toNat : Int) (fun (t20 : Int) =>
 J2 (decide (t20 < (0 : Int))))) ∧
 ((decide (i < (s.length : Int))) = false → J2 false))) ∧
 (∀ q1 : Bool, J2 q1 → ((q1 = true → J1 l from_) ∧
 (q1 = false → ∃ J3 : (List (List UInt8)) → Prop, (((from_ < i → (0 ≤ from_ ∧ from_ ≤ i ∧ i ≤ s.length) ∧
 ((l.length + (([(s.drop from_.toNat).take (i.toNat - from_.toNat)] : List (List UInt8))).length) * 16 ≤ 140737488355328) ∧
 J3 (l ++ ([(s.drop from_.toNat).take (i.toNat - from_.toNat)] : List (List UInt8)))) ∧
 (¬ (from_ < i) → J3 l))) ∧
 (∀ l3 : List (List UInt8), J3 l3 → (In .i64 (i + (1 : Int))) ∧
 J1 l3 (i + (1 : Int))))))) ∧
 (∀ l2 : List (List UInt8), ∀ from_2 : Int, J1 l2 from_2 → (In .i64 (i + (1 : Int))) ∧
 k_1 l2 from_2 (i + (1 : Int)))) ∧
 (¬ (i ≤ (s.length : Int)) → K l))) [] (0 : Int) (0 : Int)

def M_str_Join (by_ : List UInt8) (l : List (List UInt8)) (K : (List UInt8) → Er → Prop) : Prop :=
 (l.length ≤ maxLen →
 Lp2 (fun (n : Int) (t11 : Int) k_1 => ((t11 < (l.length : Int) → (0 ≤ t11 ∧ t11 < (l.length : Nat)) ∧
 ∃ J1 : Int → Prop, ((((0 : Int) < t11 → (In .i64 (n + (by_.length : Int))) ∧
 J1 (n + (by_.length : Int))) ∧
 (¬ ((0 : Int) < t11) → J1 n))) ∧
 (∀ n2 : Int, J1 n2 → (In .i64 (n2 + ((l.getD t11.toNat []).length : Int))) ∧
 (((1024 : Int) < (n2 + ((l.getD t11.toNat []).length : Int)) → K ([] : List UInt8) (Er.e 7)) ∧
 (¬ ((1024 : Int) < (n2 + ((l.getD t11.toNat []).length : Int))) → (In .i64 (t11 + (1 : Int))) ∧
 k_1 (n2 + ((l.getD t11.toNat []).length : Int)) (t11 + (1 : Int)))))) ∧
 (¬ (t11 < (l.length : Int)) → M_strings_Join l by_ (fun (t4 : List UInt8) =>
 K t4 Er.ok)))) (0 : Int) (0 : Int))

def M_str_bound (n : Int) (i : Int) (K : Int → Prop) : Prop :=
 ∃ J1 : Int → Prop, (((i < (0 : Int) → (In .i64 (i + n)) ∧
 J1 (i + n)) ∧
 (¬ (i < (0 : Int)) → J1 i))) ∧
 (∀ i2 : Int, J1 i2 → K (if n < (if i2 < (0 : Int) then (0 : Int) else i2) then n else (if i2 < (0 : Int) then (0 : Int) else i2)))

def M_str_Cut (n : Int) (from_ : Int) (to_ : Int) (has : Bool) (until_ : Bool) (K : Int → Int → Prop) : Prop :=
 ∃ J1 : Int → Prop, ((((!has) = true → J1 (0 : Int)) ∧
 ((!has) = false → J1 from_))) ∧
 (∀ from_2 : Int, J1 from_2 → ∃ J2 : Int → Prop, ((((!until_) = true → J2 (if n < (0 : Int) then (0 : Int) else n)) ∧
 ((!until_) = false → J2 to_))) ∧
 (∀ to_2 : Int, J2 to_2 → M_str_bound (if n < (0 : Int) then (0 : Int) else n) from_2 (fun (from_3 : Int) =>
 M_str_bound (if n < (0 : Int) then (0 : Int) else n) to_2 (fun (to_3 : Int) =>
 K from_3 (if from_3 < to_3 then to_3 else from_3)))))

def M_str_Strip (s : List UInt8) (bytes : List UInt8) (left : Bool) (right : Bool) (K : (List UInt8) → Prop) : Prop :=
 ∃ J1 : (List UInt8) → Prop, (((bytes = ([] : List UInt8) → J1 ([32, 9, 10, 13, 11, 12] : List UInt8)) ∧
 (¬ (bytes = ([] : List UInt8)) → J1 bytes))) ∧
 (∀ bytes2 : List UInt8, J1 bytes2 → Lp1 (fun (s2 : List UInt8) k_1 => ∃ J2 : Bool → Prop, ((((left && (!decide (s2 = ([] : List UInt8)))) = true → (0 ≤ (0 : Int) ∧ (0 : Int) < s2.length) ∧
 M_strings_IndexByte bytes2 ((s2.getD 0 0).toNat : Int) (fun (t20 : Int) =>
 J2 (decide ((0 : Int) ≤ t20)))) ∧
 ((left && (!decide (s2 = ([] : List UInt8)))) = false → J2 false))) ∧
 (∀ q2 : Bool, J2 q2 → ((q2 = true → (0 ≤ (1 : Int) ∧ (1 : Int) ≤ s2.length) ∧
 k_1 (s2.drop 1)) ∧
 (q2 = false → Lp1 (fun (s3 : List UInt8) k_2 => ∃ J3 : Bool → Prop, ((((right && (!decide (s3 = ([] : List UInt8)))) = true → (In .i64 ((s3.length : Int) - (1 : Int))) ∧
 (0 ≤ (s3.length : Int) - (1 : Int) ∧ (s3.length : Int) - (1 : Int) < s3.length) ∧
 M_strings_IndexByte bytes2 ((s3.getD ((s3.length : Int) - (1 : Int)).toNat 0).toNat : Int) (fun (t37 : Int) =>
 J3 (decide ((0 : Int) ≤ t37)))) ∧
 ((right && (!decide (s3 = ([] : List UInt8)))) = false → J3 false))) ∧
 (∀ q4 : Bool, J3 q4 → ((q4 = true → (In .i64 ((s3.length : Int) - (1 : Int))) ∧
 (0 ≤ (s3.length : Int) - (1 : Int) ∧ (s3.length : Int) - (1 : Int) ≤ s3.length) ∧
 k_2 (s3.take ((s3.length : Int) - (1 : Int)).toNat)) ∧
 (q4 = false → K s3)))) s2)))) s)

set_option maxHeartbeats 8000000 in
theorem W_str_Split {S : List Nat} {w : World} {s : List UInt8} {by_ : List UInt8} {most : Int} {K : (List (List UInt8)) → Er → Prop} (hG : GOK S w) (hS3 : 3 ∈ S) (hS7 : 7 ∈ S) (hS100 : 100 ∈ S) (H : M_str_Split s by_ most K) : Fn Tryd.prog 27 ⟨[vs s, vs by_, .int .i64 most]⟩ w (fun v w' => w.grownBy w' none ∧ ∃ (r0 : List (List UInt8)), ∃ (A_r0 : Option Addr), ∃ (c_r0 : Nat), ∃ (v_r1 : Value), ∃ (r1 : Er), v = .tuple #[.slice A_r0 r0.length c_r0, v_r1] ∧ Own vs w' w.heap.size 9 A_r0 c_r0 r0 ∧ ErrR S w' v_r1 r1 ∧ K r0 r1) := by
  unfold M_str_Split at H
  refine Fn.enter (by kernel_rfl) Tryd.func27 rfl Tryd.ntmps27 rfl ?_
  refine WC.seq ?_
  refine WC.region ?_
  refine WL.y rfl (Yld.pure tab_ok rfl) ?_
  refine WL.y rfl (Yld.pure tab_ok rfl) ?_
  refine WL.nil (WX.then_normal ?_)
  refine WC.seq ?_
  refine WC.seq ?_
  refine WC.region ?_
  refine WL.y rfl (Yld.pure tab_ok rfl) ?_
  refine WL.y rfl (Yld.pure tab_ok rfl) ?_
  refine WL.nil (WX.then_normal ?_)
  refine WC.cond rfl (fun b1 => ?_) (fun b1 => ?_)
  · replace H := H.1 (of_decide_eq_true b1)
    refine WC.seq ?_
    refine WC.quiet mixed (by kernel_rfl) ?_
    obtain ⟨vE1, _, hE1⟩ := GOK.get hG 3 2 hS3 rfl rfl
    refine WQ.y rfl (Yld.cell tab_ok (ErrR.cell hE1 rfl) rfl rfl) ?_
    refine WQ.y rfl (Yld.pure tab_ok rfl) ?_
    refine WQ.y rfl (Yld.pure tab_ok rfl) ?_
    refine WQ.nil (WX.then_normal ?_)
    refine WC.ret (WX.then_ret ?_)
    exact WX.ret2 rfl rfl rfl ⟨(gr_refl _ _), [], none, 0, vE1, (Er.e 3), rfl, (Own.nil vs w w.heap.size 9), hE1, H⟩
  · replace H := H.2 (of_decide_eq_false b1)
    refine WC.skip (WX.then_normal ?_)
    refine WC.seq ?_
    refine WC.region ?_
    refine WL.y rfl (Yld.pure tab_ok rfl) ?_
    refine WL.y rfl (Yld.pure tab_ok rfl) ?_
    refine WL.call rfl rfl (W_strings_Count hG hS100 H) ?_
    rintro _ _ ⟨rfl, n, rfl, H⟩
    refine WL.y rfl (Yld.pure tab_ok rfl) ?_
    refine WL.nil (WX.then_normal ?_)
    refine WC.seq ?_
    obtain ⟨J1, H, hJ1⟩ := H
    refine WC.midF (fun L' w' => ∃ (n2 : Int), L' = [(0, vs s), (1, vs by_), (8, .int .i64 n2)] ∧ J1 n2 ∧ w = w') ?_ (fun hQ => ?_)
    · clear H
      rintro _ _ ⟨n2, rfl, H, rfl⟩
      replace H := hJ1 n2 H
      refine WX.then_normal ?_
      refine WC.seq ?_
      refine WC.seq ?_
      refine WC.region ?_
      refine WL.y rfl (Yld.pure tab_ok rfl) ?_
      refine WL.y rfl (Yld.pure tab_ok rfl) ?_
      refine WL.nil (WX.then_normal ?_)
      refine WC.cond rfl (fun b2 => ?_) (fun b2 => ?_)
      · replace H := H.1 (of_decide_eq_true b2)
        refine WC.seq ?_
        refine WC.quiet mixed (by kernel_rfl) ?_
        obtain ⟨vE2, _, hE2⟩ := GOK.get hG 7 1 hS7 rfl rfl
        refine WQ.y rfl (Yld.cell tab_ok (ErrR.cell hE2 rfl) rfl rfl) ?_
        refine WQ.y rfl (Yld.pure tab_ok rfl) ?_
        refine WQ.y rfl (Yld.pure tab_ok rfl) ?_
        refine WQ.nil (WX.then_normal ?_)
        refine WC.ret (WX.then_ret ?_)
        exact WX.ret2 rfl rfl rfl ⟨(gr_refl _ _), [], none, 0, vE2, (Er.e 7), rfl, (Own.nil vs w w.heap.size 9), hE2, H⟩
      · replace H := H.2 (of_decide_eq_false b2)
        refine WC.skip (WX.then_normal ?_)
        refine WC.seq ?_
        refine WC.region ?_
        refine WL.y rfl (Yld.pure tab_ok rfl) ?_
        refine WL.y rfl (Yld.pure tab_ok rfl) ?_
        refine WL.y rfl (Yld.pure tab_ok rfl) ?_
        obtain ⟨h1, H⟩ := H
        refine WL.y rfl (Yld.add rfl rfl h1) ?_
        refine WL.call rfl rfl (W_strings_SplitN hG hS100 H) ?_
        rintro _ w1 ⟨hg1, t6, A_t6, c_t6, rfl, ht6, H⟩
        have hb1 := ht6.ge'
        have k1 := ht6.base (fun g hg => Nat.le_trans (Nat.le_refl _) (hb1 g hg))
        have gr1 := hg1
        refine WL.y rfl (Yld.pure tab_ok rfl) ?_
        refine WL.y rfl (Yld.pure tab_ok rfl) ?_
        refine WL.nil (WX.then_normal ?_)
        refine WC.ret ?_
        exact WX.ret2 rfl rfl rfl ⟨gr1, t6, A_t6, c_t6, .nilIface, Er.ok, rfl, k1, (ErrR.okR (S := S) (w := w1)), H⟩
    · clear hJ1
      refine WC.seq ?_
      refine WC.region ?_
      refine WL.y rfl (Yld.pure tab_ok rfl) ?_
      refine WL.y rfl (Yld.pure tab_ok rfl) ?_
      refine WL.nil (WX.then_normal ?_)
      refine WC.cond rfl (fun b3 => ?_) (fun b3 => ?_)
      · replace H := H.1 (of_decide_eq_true b3)
        refine WC.region ?_
        refine WL.y rfl (Yld.pure tab_ok rfl) ?_
        refine WL.y rfl (Yld.pure tab_ok rfl) ?_
        refine WL.y rfl (Yld.min2 rfl rfl) ?_
        refine WL.y rfl (Yld.pure tab_ok rfl) ?_
        refine WL.nil ?_
        exact WX.weaken (by repeat (first | exact Sub.nil | refine Sub.cons rfl ?_)) (hQ _ _ ⟨(if most < n then most else n), rfl, H, rfl⟩)
      · replace H := H.2 (of_decide_eq_false b3)
        refine WC.skip ?_
        exact WX.weaken (by repeat (first | exact Sub.nil | refine Sub.cons rfl ?_)) (hQ _ _ ⟨n, rfl, H, rfl⟩)

set_option maxHeartbeats 8000000 in
theorem W_str_Words {w : World} {s : List UInt8} {K : (List (List UInt8)) → Prop} (H : M_str_Words s K) : Fn Tryd.prog 24 ⟨[vs s]⟩ w (fun v w' => w.grownBy w' none ∧ ∃ (r : List (List UInt8)), ∃ (A_r : Option Addr), ∃ (c_r : Nat), v = .slice A_r r.length c_r ∧ Own vs w' w.heap.size 9 A_r c_r r ∧ K r) := by
  unfold M_str_Words at H
  refine Fn.enter (by kernel_rfl) Tryd.func24 rfl Tryd.ntmps24 rfl ?_
  refine WC.seq ?_
  refine WC.region ?_
  refine WL.y rfl (Yld.pure tab_ok rfl) ?_
  refine WL.nil (WX.then_normal ?_)
  refine WC.seq ?_
  refine WC.region ?_
  refine WL.y rfl (Yld.pure tab_ok rfl) ?_
  refine WL.nil (WX.then_normal ?_)
  refine WC.seq ?_
  refine WC.region ?_
  refine WL.y rfl (Yld.pure tab_ok rfl) ?_
  refine WL.nil (WX.then_normal ?_)
  refine WC.seq ?_
  refine WC.seq ?_
  refine WC.region ?_
  refine WL.y rfl (Yld.pure tab_ok rfl) ?_
  refine WL.nil (WX.then_normal ?_)
  refine WC.block ?_
  obtain ⟨I1, mu1, h0_1, HR1⟩ := H
  refine WC.loopF (fun n' L' w' => ∃ (l : List (List UInt8)), ∃ (A_l : Option Addr), ∃ (c_l : Nat), ∃ (n_l : Nat), ∃ (from_ : Int), ∃ (i : Int), n' = mu1 l from_ i ∧ L' = [(0, vs s), (3, .slice A_l n_l c_l), (4, .int .i64 from_), (5, .int .i64 i)] ∧ I1 l from_ i ∧ n_l = l.length ∧ w.grownBy w' none ∧ Own vs w' w.heap.size 9 A_l c_l l) _ _ ⟨[], none, 0, 0, (0 : Int), (0 : Int), rfl, rfl, h0_1, rfl, (gr_refl _ _), (Own.nil vs w w.heap.size 9)⟩ (by repeat (first | exact Sub.nil | refine Sub.cons rfl ?_)) ?_
  clear h0_1
  rintro _ _ w1 ⟨l, A_l, c_l, n_l, from_, i, rfl, rfl, hI1, rfl, gr1, k1⟩
  have H := HR1 l from_ i hI1
  refine WC.seq ?_
  refine WC.seq ?_
  refine WC.region ?_
  refine WL.y rfl (Yld.pure tab_ok rfl) ?_
  refine WL.y rfl (Yld.pure tab_ok rfl) ?_
  refine WL.y rfl (Yld.pure tab_ok rfl) ?_
  refine WL.y rfl (Yld.pure tab_ok rfl) ?_
  refine WL.nil (WX.then_normal ?_)
  refine WC.cond rfl (fun b1 => ?_) (fun b1 => ?_)
  · replace H := H.1 (of_decide_eq_true b1)
    refine WC.skip (WX.then_normal ?_)
    refine WC.seq ?_
    obtain ⟨J1, H, hJ1⟩ := H
    refine WC.midF (fun L' w' => ∃ (l2 : List (List UInt8)), ∃ (A_l2 : Option Addr), ∃ (c_l2 : Nat), ∃ (n_l2 : Nat), ∃ (from_2 : Int), L' = [(0, vs s), (3, .slice A_l2 n_l2 c_l2), (4, .int .i64 from_2), (5, .int .i64 i)] ∧ J1 l2 from_2 ∧ n_l2 = l2.length ∧ w.grownBy w' none ∧ Own vs w' w.heap.size 9 A_l2 c_l2 l2) ?_ (fun hQ => ?_)
    · clear H
      rintro _ w2 ⟨l2, A_l2, c_l2, n_l2, from_2, rfl, H, rfl, gr2, k2⟩
      replace H := hJ1 l2 from_2 H
      refine WX.then_normal ?_
      refine WC.region ?_
      refine WL.y rfl (Yld.pure tab_ok rfl) ?_
      obtain ⟨h1, H⟩ := H
      refine WL.y rfl (Yld.add rfl rfl h1) ?_
      refine WL.y rfl (Yld.pure tab_ok rfl) ?_
      refine WL.nil ?_
      exact WX.roundF _ ⟨l2, A_l2, c_l2, l2.length, from_2, i + (1 : Int), rfl, rfl, H.1, rfl, gr2, k2⟩ (by repeat (first | exact Sub.nil | refine Sub.cons rfl ?_)) H.2
    · clear hJ1
      refine WC.block ?_
      refine WC.seq ?_
      refine WC.seq ?_
      refine WC.region ?_
      refine WL.y rfl (Yld.pure tab_ok rfl) ?_
      refine WL.y rfl (Yld.pure tab_ok rfl) ?_
      refine WL.y rfl (Yld.pure tab_ok rfl) ?_
      refine WL.y rfl (Yld.pure tab_ok rfl) ?_
      refine WL.y rfl (Yld.pure tab_ok rfl) ?_
      obtain ⟨J2, H, hJ2⟩ := H
      refine WL.midF 6 (fun L' w' => ∃ q1 : Bool, L' = [(22, .bool q1), (0, vs s), (3, .slice A_l l.length c_l), (4, .int .i64 from_), (5, .int .i64 i)] ∧ J2 q1 ∧ w1 = w') ?_ (fun hQ => ?_)
      · clear H
        rintro _ _ ⟨q1, rfl, H, rfl⟩
        replace H := hJ2 q1 H
        refine WL.nil (WX.then_normal ?_)
        refine WC.cond rfl (fun b2 => ?_) (fun b2 => ?_)
        · replace H := H.1 (b2)
          refine WC.exit (WX.then_exit (WX.block_same ?_))
          exact WX.weaken (by repeat (first | exact Sub.nil | refine Sub.cons rfl ?_)) (hQ _ _ ⟨l, A_l, c_l, l.length, from_, rfl, H, rfl, gr1, k1⟩)
        · replace H := H.2 (b2)
          refine WC.skip (WX.then_normal ?_)
          refine WC.seq ?_
          obtain ⟨J3, H, hJ3⟩ := H
          refine WC.midF (fun L' w' => ∃ (l3 : List (List UInt8)), ∃ (A_l3 : Option Addr), ∃ (c_l3 : Nat), ∃ (n_l3 : Nat), L' = [(0, vs s), (3, .slice A_l3 n_l3 c_l3), (5, .int .i64 i)] ∧ J3 l3 ∧ n_l3 = l3.length ∧ w.grownBy w' none ∧ Own vs w' w.heap.size 9 A_l3 c_l3 l3) ?_ (fun hQ => ?_)
          · clear H
            rintro _ w3 ⟨l3, A_l3, c_l3, n_l3, rfl, H, rfl, gr3, k3⟩
            replace H := hJ3 l3 H
            refine WX.then_normal ?_
            refine WC.region ?_
            refine WL.y rfl (Yld.pure tab_ok rfl) ?_
            obtain ⟨h2, H⟩ := H
            refine WL.y rfl (Yld.add rfl rfl h2) ?_
            refine WL.y rfl (Yld.pure tab_ok rfl) ?_
            refine WL.nil (WX.block_normal ?_)
            exact WX.weaken (by repeat (first | exact Sub.nil | refine Sub.cons rfl ?_)) (hQ _ _ ⟨l3, A_l3, c_l3, l3.length, i + (1 : Int), rfl, H, rfl, gr3, k3⟩)
          · clear hJ3
            refine WC.seq ?_
            refine WC.region ?_
            refine WL.y rfl (Yld.pure tab_ok rfl) ?_
            refine WL.y rfl (Yld.pure tab_ok rfl) ?_
            refine WL.y rfl (Yld.pure tab_ok rfl) ?_
            refine WL.nil (WX.then_normal ?_)
            refine WC.cond rfl (fun b3 => ?_) (fun b3 => ?_)
            · replace H := H.1 (of_decide_eq_true b3)
              refine WC.region ?_
              refine WL.y rfl (Yld.pure tab_ok rfl) ?_
              refine WL.y rfl (Yld.pure tab_ok rfl) ?_
              refine WL.y rfl (Yld.pure tab_ok rfl) ?_
              refine WL.y rfl (Yld.pure tab_ok rfl) ?_
              obtain ⟨h3, H⟩ := H
              refine WL.y rfl (Yld.scut tab_ok rfl rfl rfl rfl h3.1 h3.2.1 h3.2.2) ?_
              refine WL.lit tab_ok rfl rfl rfl (all1c rfl all1n) rfl (by omega) (fun g1 w4 hB1 hg1 hl1 => ?_)
              have hO1 : Own vs w4 w.heap.size 9 (some ⟨g1, 0, none⟩) 1 ([(s.drop from_.toNat).take (i.toNat - from_.toNat)] : List (List UInt8)) := Own.ofBl hB1 (Nat.le_trans (size_le gr1) hl1) (by simp [maxLen]) rfl
              have gr4 := gr_trans gr1 hg1
              have k4 := k1.grown hg1
              obtain ⟨h4, H⟩ := H
              refine WL.append tab_ok rfl rfl One.s k4 rfl rfl hO1.rd rfl rfl h4 (applen h4) (size_le gr4) (fun A_l4 c_l4 w5 hO2 hg2 hk1 => ?_)
              have gr5 := gr_mod gr4 hg2 k4.ge'
              refine WL.y rfl (Yld.pure tab_ok rfl) ?_
              refine WL.nil ?_
              exact WX.weaken (by repeat (first | exact Sub.nil | refine Sub.cons rfl ?_)) (hQ _ _ ⟨l ++ ([(s.drop from_.toNat).take (i.toNat - from_.toNat)] : List (List UInt8)), A_l4, c_l4, (l ++ ([(s.drop from_.toNat).take (i.toNat - from_.toNat)] : List (List UInt8))).length, rfl, H, rfl, gr5, hO2⟩)
            · replace H := H.2 (of_decide_eq_false b3)
              refine WC.skip ?_
              exact WX.weaken (by repeat (first | exact Sub.nil | refine Sub.cons rfl ?_)) (hQ _ _ ⟨l, A_l, c_l, l.length, rfl, H, rfl, gr1, k1⟩)
      · clear hJ2
        rcases Bool.eq_false_or_eq_true (decide (i < (s.length : Int))) with b4 | b4
        · replace H := H.1 b4
          refine WL.gyes rfl rfl (okb b4) rfl (Yld.pure tab_ok rfl) ?_
          refine WL.gyes rfl rfl (okb b4) rfl (Yld.pure tab_ok rfl) ?_
          obtain ⟨h5, H⟩ := H
          refine WL.gyes rfl rfl (okb b4) rfl (Yld.sidx tab_ok rfl rfl rfl h5.1 h5.2) ?_
          refine WL.callw (wants_some rfl rfl (okb b4)) rfl rfl (W_strings_IndexByte H) ?_
          rintro _ _ ⟨rfl, t20, rfl, H⟩
          refine WL.gyes rfl rfl (okb b4) rfl (Yld.pure tab_ok rfl) ?_
          refine WL.y rfl (Yld.pickT (okb b4) rfl) ?_
          exact WL.weaken (by repeat (first | exact Sub.nil | refine Sub.cons rfl ?_)) (hQ _ _ ⟨decide (t20 < (0 : Int)), rfl, H, rfl⟩)
        · replace H := H.2 b4
          refine WL.gno rfl rfl (okb b4) rfl ?_
          refine WL.gno rfl rfl (okb b4) rfl ?_
          refine WL.gno rfl rfl (okb b4) rfl ?_
          refine WL.gno rfl rfl (okb b4) rfl ?_
          refine WL.gno rfl rfl (okb b4) rfl ?_
          refine WL.y rfl (Yld.pickF (okb b4) rfl) ?_
          exact WL.weaken (by repeat (first | exact Sub.nil | refine Sub.cons rfl ?_)) (hQ _ _ ⟨false, rfl, H, rfl⟩)
  · replace H := H.2 (of_decide_eq_false b1)
    refine WC.exit (WX.then_exit (WX.then_exit (WX.block_same (WX.then_normal ?_))))
    refine WC.seq ?_
    refine WC.region ?_
    refine WL.y rfl (Yld.pure tab_ok rfl) ?_
    refine WL.y rfl (Yld.pure tab_ok rfl) ?_
    refine WL.nil (WX.then_normal ?_)
    refine WC.ret ?_
    exact WX.ret1 rfl rfl ⟨gr1, l, A_l, c_l, rfl, k1, H⟩

set_option maxHeartbeats 8000000 in
theorem W_str_Join {S : List Nat} {w : World} {by_ : List UInt8} {l : List (List UInt8)} {A_l : Option Addr} {c_l : Nat} {n_l : Nat} {K : (List UInt8) → Er → Prop} (hG : GOK S w) (hS7 : 7 ∈ S) (hl : Rd vs w A_l c_l l) (hn_l : n_l = l.length) (H : M_str_Join by_ l K) : Fn Tryd.prog 25 ⟨[vs by_, .slice A_l n_l c_l]⟩ w (fun v w' => w.grownBy w' none ∧ ∃ (r0 : List UInt8), ∃ (v_r1 : Value), ∃ (r1 : Er), v = .tuple #[vs r0, v_r1] ∧ ErrR S w' v_r1 r1 ∧ K r0 r1) := by
  subst hn_l
  unfold M_str_Join at H
  refine Fn.enter (by kernel_rfl) Tryd.func25 rfl Tryd.ntmps25 rfl ?_
  replace H := H (Nat.le_trans hl.cap hl.max)
  refine WC.seq ?_
  refine WC.region ?_
  refine WL.y rfl (Yld.pure tab_ok rfl) ?_
  refine WL.y rfl (Yld.pure tab_ok rfl) ?_
  refine WL.nil (WX.then_normal ?_)
  refine WC.seq ?_
  refine WC.region ?_
  refine WL.y rfl (Yld.pure tab_ok rfl) ?_
  refine WL.nil (WX.then_normal ?_)
  refine WC.seq ?_
  refine WC.seq ?_
  refine WC.region ?_
  refine WL.y rfl (Yld.pure tab_ok rfl) ?_
  refine WL.y rfl (Yld.pure tab_ok rfl) ?_
  refine WL.y rfl (Yld.pure tab_ok rfl) ?_
  refine WL.nil (WX.then_normal ?_)
  refine WC.block ?_
  obtain ⟨I1, mu1, h0_1, HR1⟩ := H
  refine WC.loopF (fun n' L' w' => ∃ (n : Int), ∃ (t11 : Int), n' = mu1 n t11 ∧ L' = [(0, vs by_), (1, .slice A_l l.length c_l), (6, .int .i64 n), (9, .slice A_l l.length c_l), (10, .int .i64 (l.length : Int)), (11, .int .i64 t11)] ∧ I1 n t11 ∧ w = w') _ _ ⟨(0 : Int), (0 : Int), rfl, rfl, h0_1, rfl⟩ (by repeat (first | exact Sub.nil | refine Sub.cons rfl ?_)) ?_
  clear h0_1
  rintro _ _ _ ⟨n, t11, rfl, rfl, hI1, rfl⟩
  have H := HR1 n t11 hI1
  refine WC.seq ?_
  refine WC.region ?_
  refine WL.y rfl (Yld.pure tab_ok rfl) ?_
  refine WL.nil (WX.then_normal ?_)
  refine WC.seq ?_
  refine WC.cond rfl (fun b1 => ?_) (fun b1 => ?_)
  · replace H := H.1 (of_decide_eq_true b1)
    refine WC.skip (WX.then_normal ?_)
    refine WC.seq ?_
    refine WC.block ?_
    refine WC.seq ?_
    refine WC.region ?_
    refine WL.y rfl (Yld.pure tab_ok rfl) ?_
    obtain ⟨h1, H⟩ := H
    refine WL.y rfl (Yld.iaddrW tab_ok hl rfl rfl rfl rfl h1.1 h1.2) ?_
    refine WL.y rfl (Yld.iload [] tab_ok hl rfl rfl (iltN h1 rfl)) ?_
    refine WL.y rfl (Yld.pure tab_ok rfl) ?_
    refine WL.y rfl (Yld.pure tab_ok rfl) ?_
    refine WL.nil (WX.then_normal ?_)
    refine WC.seq ?_
    obtain ⟨J1, H, hJ1⟩ := H
    refine WC.midF (fun L' w' => ∃ (n2 : Int), L' = [(0, vs by_), (1, .slice A_l l.length c_l), (6, .int .i64 n2), (8, vs (l.getD t11.toNat [])), (9, .slice A_l l.length c_l), (10, .int .i64 (l.length : Int)), (11, .int .i64 t11)] ∧ J1 n2 ∧ w = w') ?_ (fun hQ => ?_)
    · clear H
      rintro _ _ ⟨n2, rfl, H, rfl⟩
      replace H := hJ1 n2 H
      refine WX.then_normal ?_
      refine WC.seq ?_
      refine WC.region ?_
      refine WL.y rfl (Yld.pure tab_ok rfl) ?_
      refine WL.y rfl (Yld.pure tab_ok rfl) ?_
      refine WL.y rfl (Yld.pure tab_ok rfl) ?_
      obtain ⟨h2, H⟩ := H
      refine WL.y rfl (Yld.add rfl rfl h2) ?_
      refine WL.y rfl (Yld.pure tab_ok rfl) ?_
      refine WL.nil (WX.then_normal ?_)
      refine WC.seq ?_
      refine WC.region ?_
      refine WL.y rfl (Yld.pure tab_ok rfl) ?_
      refine WL.y rfl (Yld.pure tab_ok rfl) ?_
      refine WL.nil (WX.then_normal ?_)
      refine WC.cond rfl (fun b2 => ?_) (fun b2 => ?_)
      · replace H := H.1 (of_decide_eq_true b2)
        refine WC.seq ?_
        refine WC.quiet mixed (by kernel_rfl) ?_
        obtain ⟨vE1, _, hE1⟩ := GOK.get hG 7 1 hS7 rfl rfl
        refine WQ.y rfl (Yld.cell tab_ok (ErrR.cell hE1 rfl) rfl rfl) ?_
        refine WQ.y rfl (Yld.pure tab_ok rfl) ?_
        refine WQ.y rfl (Yld.pure tab_ok rfl) ?_
        refine WQ.nil (WX.then_normal ?_)
        refine WC.ret (WX.block_ret (WX.then_ret (WX.then_ret (WX.block_ret (WX.then_ret ?_)))))
        exact WX.ret2 rfl rfl rfl ⟨(gr_refl _ _), ([] : List UInt8), vE1, (Er.e 7), rfl, hE1, H⟩
      · replace H := H.2 (of_decide_eq_false b2)
        refine WC.skip (WX.block_normal (WX.then_normal ?_))
        refine WC.region ?_
        obtain ⟨h3, H⟩ := H
        refine WL.y rfl (Yld.add rfl rfl h3) ?_
        refine WL.y rfl (Yld.pure tab_ok rfl) ?_
        refine WL.nil ?_
        exact WX.roundF _ ⟨n2 + ((l.getD t11.toNat []).length : Int), t11 + (1 : Int), rfl, rfl, H.1, rfl⟩ (by repeat (first | exact Sub.nil | refine Sub.cons rfl ?_)) H.2
    · clear hJ1
      refine WC.seq ?_
      refine WC.region ?_
      refine WL.y rfl (Yld.pure tab_ok rfl) ?_
      refine WL.y rfl (Yld.pure tab_ok rfl) ?_
      refine WL.nil (WX.then_normal ?_)
      refine WC.cond rfl (fun b3 => ?_) (fun b3 => ?_)
      · replace H := H.1 (of_decide_eq_true b3)
        refine WC.region ?_
        refine WL.y rfl (Yld.pure tab_ok rfl) ?_
        refine WL.y rfl (Yld.pure tab_ok rfl) ?_
        refine WL.y rfl (Yld.pure tab_ok rfl) ?_
        obtain ⟨h4, H⟩ := H
        refine WL.y rfl (Yld.add rfl rfl h4) ?_
        refine WL.y rfl (Yld.pure tab_ok rfl) ?_
        refine WL.nil ?_
        exact WX.weaken (by repeat (first | exact Sub.nil | refine Sub.cons rfl ?_)) (hQ _ _ ⟨n + (by_.length : Int), rfl, H, rfl⟩)
      · replace H := H.2 (of_decide_eq_false b3)
        refine WC.skip ?_
        exact WX.weaken (by repeat (first | exact Sub.nil | refine Sub.cons rfl ?_)) (hQ _ _ ⟨n, rfl, H, rfl⟩)
  · replace H := H.2 (of_decide_eq_false b1)
    refine WC.exit (WX.then_exit (WX.then_exit (WX.block_same (WX.then_normal ?_))))
    refine WC.seq ?_
    refine WC.region ?_
    refine WL.y rfl (Yld.pure tab_ok rfl) ?_
    refine WL.y rfl (Yld.pure tab_ok rfl) ?_
    refine WL.call rfl rfl (W_strings_Join hl rfl H) ?_
    rintro _ w1 ⟨hg1, t4, rfl, H⟩
    have gr1 := hg1
    refine WL.y rfl (Yld.pure tab_ok rfl) ?_
    refine WL.y rfl (Yld.pure tab_ok rfl) ?_
    refine WL.nil (WX.then_normal ?_)
    refine WC.ret ?_
    exact WX.ret2 rfl rfl rfl ⟨gr1, t4, .nilIface, Er.ok, rfl, (ErrR.okR (S := S) (w := w1)), H⟩

set_option maxHeartbeats 8000000 in
theorem W_str_bound {w : World} {n : Int} {i : Int} {K : Int → Prop} (H : M_str_bound n i K) : Fn Tryd.prog 53 ⟨[.int .i64 n, .int .i64 i]⟩ w (fun v w' => w = w' ∧ ∃ (r : Int), v = .int .i64 r ∧ K r) := by
  unfold M_str_bound at H
  refine Fn.enter (by kernel_rfl) Tryd.func53 rfl Tryd.ntmps53 rfl ?_
  refine WC.seq ?_
  refine WC.region ?_
  refine WL.y rfl (Yld.pure tab_ok rfl) ?_
  refine WL.nil (WX.then_normal ?_)
  refine WC.seq ?_
  obtain ⟨J1, H, hJ1⟩ := H
  refine WC.midF (fun L' w' => ∃ (i2 : Int), L' = [(0, .int .i64 n), (1, .int .i64 i2)] ∧ J1 i2 ∧ w = w') ?_ (fun hQ => ?_)
  · clear H
    rintro _ _ ⟨i2, rfl, H, rfl⟩
    replace H := hJ1 i2 H
    refine WX.then_normal ?_
    refine WC.seq ?_
    refine WC.region ?_
    refine WL.y rfl (Yld.pure tab_ok rfl) ?_
    refine WL.y rfl (Yld.max2 rfl rfl) ?_
    refine WL.y rfl (Yld.pure tab_ok rfl) ?_
    refine WL.y rfl (Yld.min2 rfl rfl) ?_
    refine WL.y rfl (Yld.pure tab_ok rfl) ?_
    refine WL.nil (WX.then_normal ?_)
    refine WC.ret ?_
    exact WX.ret1 rfl rfl ⟨rfl, (if n < (if i2 < (0 : Int) then (0 : Int) else i2) then n else (if i2 < (0 : Int) then (0 : Int) else i2)), rfl, H⟩
  · clear hJ1
    refine WC.seq ?_
    refine WC.region ?_
    refine WL.y rfl (Yld.pure tab_ok rfl) ?_
    refine WL.y rfl (Yld.pure tab_ok rfl) ?_
    refine WL.nil (WX.then_normal ?_)
    refine WC.cond rfl (fun b1 => ?_) (fun b1 => ?_)
    · replace H := H.1 (of_decide_eq_true b1)
      refine WC.region ?_
      refine WL.y rfl (Yld.pure tab_ok rfl) ?_
      refine WL.y rfl (Yld.pure tab_ok rfl) ?_
      obtain ⟨h1, H⟩ := H
      refine WL.y rfl (Yld.add rfl rfl h1) ?_
      refine WL.y rfl (Yld.pure tab_ok rfl) ?_
      refine WL.nil ?_
      exact WX.weaken (by repeat (first | exact Sub.nil | refine Sub.cons rfl ?_)) (hQ _ _ ⟨i + n, rfl, H, rfl⟩)
    · replace H := H.2 (of_decide_eq_false b1)
      refine WC.skip ?_
      exact WX.weaken (by repeat (first | exact Sub.nil | refine Sub.cons rfl ?_)) (hQ _ _ ⟨i, rfl, H, rfl⟩)

set_option maxHeartbeats 8000000 in
theorem W_str_Cut {w : World} {n : Int} {from_ : Int} {to_ : Int} {has : Bool} {until_ : Bool} {K : Int → Int → Prop} (H : M_str_Cut n from_ to_ has until_ K) : Fn Tryd.prog 18 ⟨[.int .i64 n, .int .i64 from_, .int .i64 to_, .bool has, .bool until_]⟩ w (fun v w' => w = w' ∧ ∃ (r0 : Int), ∃ (r1 : Int), v = .tuple #[.int .i64 r0, .int .i64 r1] ∧ K r0 r1) := by
  unfold M_str_Cut at H
  refine Fn.enter (by kernel_rfl) Tryd.func18 rfl Tryd.ntmps18 rfl ?_
  refine WC.seq ?_
  refine WC.region ?_
  refine WL.y rfl (Yld.pure tab_ok rfl) ?_
  refine WL.y rfl (Yld.pure tab_ok rfl) ?_
  refine WL.nil (WX.then_normal ?_)
  refine WC.seq ?_
  refine WC.region ?_
  refine WL.y rfl (Yld.pure tab_ok rfl) ?_
  refine WL.y rfl (Yld.max2 rfl rfl) ?_
  refine WL.y rfl (Yld.pure tab_ok rfl) ?_
  refine WL.nil (WX.then_normal ?_)
  refine WC.seq ?_
  obtain ⟨J1, H, hJ1⟩ := H
  refine WC.midF (fun L' w' => ∃ (from_2 : Int), L' = [(0, .int .i64 (if n < (0 : Int) then (0 : Int) else n)), (1, .int .i64 from_2), (2, .int .i64 to_), (4, .bool until_)] ∧ J1 from_2 ∧ w = w') ?_ (fun hQ => ?_)
  · clear H
    rintro _ _ ⟨from_2, rfl, H, rfl⟩
    replace H := hJ1 from_2 H
    refine WX.then_normal ?_
    refine WC.seq ?_
    obtain ⟨J2, H, hJ2⟩ := H
    refine WC.midF (fun L' w' => ∃ (to_2 : Int), L' = [(0, .int .i64 (if n < (0 : Int) then (0 : Int) else n)), (1, .int .i64 from_2), (2, .int .i64 to_2)] ∧ J2 to_2 ∧ w = w') ?_ (fun hQ => ?_)
    · clear H
      rintro _ _ ⟨to_2, rfl, H, rfl⟩
      replace H := hJ2 to_2 H
      refine WX.then_normal ?_
      refine WC.seq ?_
      refine WC.region ?_
      refine WL.y rfl (Yld.pure tab_ok rfl) ?_
      refine WL.y rfl (Yld.pure tab_ok rfl) ?_
      refine WL.call rfl rfl (W_str_bound H) ?_
      rintro _ _ ⟨rfl, from_3, rfl, H⟩
      refine WL.y rfl (Yld.pure tab_ok rfl) ?_
      refine WL.y rfl (Yld.pure tab_ok rfl) ?_
      refine WL.call rfl rfl (W_str_bound H) ?_
      rintro _ _ ⟨rfl, to_3, rfl, H⟩
      refine WL.y rfl (Yld.pure tab_ok rfl) ?_
      refine WL.y rfl (Yld.pure tab_ok rfl) ?_
      refine WL.nil (WX.then_normal ?_)
      refine WC.seq ?_
      refine WC.region ?_
      refine WL.y rfl (Yld.pure tab_ok rfl) ?_
      refine WL.y rfl (Yld.pure tab_ok rfl) ?_
      refine WL.y rfl (Yld.pure tab_ok rfl) ?_
      refine WL.y rfl (Yld.max2 rfl rfl) ?_
      refine WL.y rfl (Yld.pure tab_ok rfl) ?_
      refine WL.y rfl (Yld.pure tab_ok rfl) ?_
      refine WL.nil (WX.then_normal ?_)
      refine WC.ret ?_
      exact WX.ret2 rfl rfl rfl ⟨rfl, from_3, (if from_3 < to_3 then to_3 else from_3), rfl, H⟩
    · clear hJ2
      refine WC.seq ?_
      refine WC.region ?_
      refine WL.y rfl (Yld.pure tab_ok rfl) ?_
      refine WL.y rfl (Yld.pure tab_ok rfl) ?_
      refine WL.nil (WX.then_normal ?_)
      refine WC.cond rfl (fun b1 => ?_) (fun b1 => ?_)
      · replace H := H.1 (b1)
        refine WC.region ?_
        refine WL.y rfl (Yld.pure tab_ok rfl) ?_
        refine WL.y rfl (Yld.pure tab_ok rfl) ?_
        refine WL.nil ?_
        exact WX.weaken (by repeat (first | exact Sub.nil | refine Sub.cons rfl ?_)) (hQ _ _ ⟨(if n < (0 : Int) then (0 : Int) else n), rfl, H, rfl⟩)
      · replace H := H.2 (b1)
        refine WC.skip ?_
        exact WX.weaken (by repeat (first | exact Sub.nil | refine Sub.cons rfl ?_)) (hQ _ _ ⟨to_, rfl, H, rfl⟩)
  · clear hJ1
    refine WC.seq ?_
    refine WC.region ?_
    refine WL.y rfl (Yld.pure tab_ok rfl) ?_
    refine WL.y rfl (Yld.pure tab_ok rfl) ?_
    refine WL.nil (WX.then_normal ?_)
    refine WC.cond rfl (fun b2 => ?_) (fun b2 => ?_)
    · replace H := H.1 (b2)
      refine WC.region ?_
      refine WL.y rfl (Yld.pure tab_ok rfl) ?_
      refine WL.nil ?_
      exact WX.weaken (by repeat (first | exact Sub.nil | refine Sub.cons rfl ?_)) (hQ _ _ ⟨(0 : Int), rfl, H, rfl⟩)
    · replace H := H.2 (b2)
      refine WC.skip ?_
      exact WX.weaken (by repeat (first | exact Sub.nil | refine Sub.cons rfl ?_)) (hQ _ _ ⟨from_, rfl, H, rfl⟩)

set_option maxHeartbeats 8000000 in
theorem W_str_Strip {w : World} {s : List UInt8} {bytes : List UInt8} {left : Bool} {right : Bool} {K : (List UInt8) → Prop} (H : M_str_Strip s bytes left right K) : Fn Tryd.prog 19 ⟨[vs s, vs bytes, .bool left, .bool right]⟩ w (fun v w' => w = w' ∧ ∃ (r : List UInt8), v = vs r ∧ K r) := by
  unfold M_str_Strip at H
  refine Fn.enter (by kernel_rfl) Tryd.func19 rfl Tryd.ntmps19 rfl ?_
  refine WC.seq ?_
  refine WC.region ?_
  refine WL.y rfl (Yld.pure tab_ok rfl) ?_
  refine WL.nil (WX.then_normal ?_)
  refine WC.seq ?_
  obtain ⟨J1, H, hJ1⟩ := H
  refine WC.midF (fun L' w' => ∃ (bytes2 : List UInt8), L' = [(0, vs s), (1, vs bytes2), (2, .bool left), (3, .bool right)] ∧ J1 bytes2 ∧ w = w') ?_ (fun hQ => ?_)
  · clear H
    rintro _ _ ⟨bytes2, rfl, H, rfl⟩
    replace H := hJ1 bytes2 H
    refine WX.then_normal ?_
    refine WC.seq ?_
    refine WC.block ?_
    obtain ⟨I1, mu1, h0_1, HR1⟩ := H
    refine WC.loopF (fun n' L' w' => ∃ (s2 : List UInt8), n' = mu1 s2 ∧ L' = [(0, vs s2), (1, vs bytes2), (2, .bool left), (3, .bool right)] ∧ I1 s2 ∧ w = w') _ _ ⟨s, rfl, rfl, h0_1, rfl⟩ (by repeat (first | exact Sub.nil | refine Sub.cons rfl ?_)) ?_
    clear h0_1
    rintro _ _ _ ⟨s2, rfl, rfl, hI1, rfl⟩
    have H := HR1 s2 hI1
    refine WC.seq ?_
    refine WC.seq ?_
    refine WC.region ?_
    refine WL.y rfl (Yld.pure tab_ok rfl) ?_
    refine WL.y rfl (Yld.pure tab_ok rfl) ?_
    refine WL.midF 3 (fun L' w' => ∃ q1 : Bool, L' = [(15, .bool q1), (0, vs s2), (1, vs bytes2), (2, .bool left), (3, .bool right)] ∧ q1 = (left && (!decide (s2 = ([] : List UInt8)))) ∧ w = w') ?_ (fun hQ => ?_)
    · rintro _ _ ⟨q1, rfl, rfl, rfl⟩
      refine WL.y rfl (Yld.pure tab_ok rfl) ?_
      obtain ⟨J2, H, hJ2⟩ := H
      refine WL.midF 6 (fun L' w' => ∃ q2 : Bool, L' = [(22, .bool q2), (0, vs s2), (1, vs bytes2), (2, .bool left), (3, .bool right)] ∧ J2 q2 ∧ w = w') ?_ (fun hQ => ?_)
      · clear H
        rintro _ _ ⟨q2, rfl, H, rfl⟩
        replace H := hJ2 q2 H
        refine WL.nil (WX.then_normal ?_)
        refine WC.cond rfl (fun b1 => ?_) (fun b1 => ?_)
        · replace H := H.1 (b1)
          refine WC.skip (WX.then_normal ?_)
          refine WC.block ?_
          refine WC.region ?_
          refine WL.y rfl (Yld.pure tab_ok rfl) ?_
          obtain ⟨h1, H⟩ := H
          refine WL.y rfl (Yld.scutF tab_ok rfl rfl rfl h1.1 h1.2) ?_
          refine WL.y rfl (Yld.pure tab_ok rfl) ?_
          refine WL.nil (WX.block_normal ?_)
          exact WX.roundF _ ⟨s2.drop 1, rfl, rfl, H.1, rfl⟩ (by repeat (first | exact Sub.nil | refine Sub.cons rfl ?_)) H.2
        · replace H := H.2 (b1)
          refine WC.exit (WX.then_exit (WX.then_exit (WX.block_same (WX.then_normal ?_))))
          refine WC.seq ?_
          refine WC.block ?_
          obtain ⟨I2, mu2, h0_2, HR2⟩ := H
          refine WC.loopF (fun n' L' w' => ∃ (s3 : List UInt8), n' = mu2 s3 ∧ L' = [(0, vs s3), (1, vs bytes2), (3, .bool right)] ∧ I2 s3 ∧ w = w') _ _ ⟨s2, rfl, rfl, h0_2, rfl⟩ (by repeat (first | exact Sub.nil | refine Sub.cons rfl ?_)) ?_
          clear h0_2
          rintro _ _ _ ⟨s3, rfl, rfl, hI2, rfl⟩
          have H := HR2 s3 hI2
          refine WC.seq ?_
          refine WC.seq ?_
          refine WC.region ?_
          refine WL.y rfl (Yld.pure tab_ok rfl) ?_
          refine WL.y rfl (Yld.pure tab_ok rfl) ?_
          refine WL.midF 3 (fun L' w' => ∃ q3 : Bool, L' = [(29, .bool q3), (0, vs s3), (1, vs bytes2), (3, .bool right)] ∧ q3 = (right && (!decide (s3 = ([] : List UInt8)))) ∧ w = w') ?_ (fun hQ => ?_)
          · rintro _ _ ⟨q3, rfl, rfl, rfl⟩
            refine WL.y rfl (Yld.pure tab_ok rfl) ?_
            obtain ⟨J3, H, hJ3⟩ := H
            refine WL.midF 9 (fun L' w' => ∃ q4 : Bool, L' = [(39, .bool q4), (0, vs s3), (1, vs bytes2), (3, .bool right)] ∧ J3 q4 ∧ w = w') ?_ (fun hQ => ?_)
            · clear H
              rintro _ _ ⟨q4, rfl, H, rfl⟩
              replace H := hJ3 q4 H
              refine WL.nil (WX.then_normal ?_)
              refine WC.cond rfl (fun b2 => ?_) (fun b2 => ?_)
              · replace H := H.1 (b2)
                refine WC.skip (WX.then_normal ?_)
                refine WC.block ?_
                refine WC.region ?_
                refine WL.y rfl (Yld.pure tab_ok rfl) ?_
                refine WL.y rfl (Yld.pure tab_ok rfl) ?_
                refine WL.y rfl (Yld.pure tab_ok rfl) ?_
                obtain ⟨h2, H⟩ := H
                refine WL.y rfl (Yld.sub rfl rfl h2) ?_
                obtain ⟨h3, H⟩ := H
                refine WL.y rfl (Yld.scut tab_ok rfl rfl rfl rfl (Int.le_refl 0) h3.1 h3.2) ?_
                refine WL.y rfl (Yld.pure tab_ok rfl) ?_
                refine WL.nil (WX.block_normal ?_)
                exact WX.roundF _ ⟨s3.take ((s3.length : Int) - (1 : Int)).toNat, rfl, rfl, H.1, rfl⟩ (by repeat (first | exact Sub.nil | refine Sub.cons rfl ?_)) H.2
              · replace H := H.2 (b2)
                refine WC.exit (WX.then_exit (WX.then_exit (WX.block_same (WX.then_normal ?_))))
                refine WC.seq ?_
                refine WC.region ?_
                refine WL.y rfl (Yld.pure tab_ok rfl) ?_
                refine WL.y rfl (Yld.pure tab_ok rfl) ?_
                refine WL.nil (WX.then_normal ?_)
                refine WC.ret ?_
                exact WX.ret1 rfl rfl ⟨rfl, s3, rfl, H⟩
            · clear hJ3
              rcases Bool.eq_false_or_eq_true (right && (!decide (s3 = ([] : List UInt8)))) with b3 | b3
              · replace H := H.1 b3
                refine WL.gyes rfl rfl (okb b3) rfl (Yld.pure tab_ok rfl) ?_
                refine WL.gyes rfl rfl (okb b3) rfl (Yld.pure tab_ok rfl) ?_
                refine WL.gyes rfl rfl (okb b3) rfl (Yld.pure tab_ok rfl) ?_
                refine WL.gyes rfl rfl (okb b3) rfl (Yld.pure tab_ok rfl) ?_
                obtain ⟨h4, H⟩ := H
                refine WL.gyes rfl rfl (okb b3) rfl (Yld.sub rfl rfl h4) ?_
                obtain ⟨h5, H⟩ := H
                refine WL.gyes rfl rfl (okb b3) rfl (Yld.sidx tab_ok rfl rfl rfl h5.1 h5.2) ?_
                refine WL.callw (wants_some rfl rfl (okb b3)) rfl rfl (W_strings_IndexByte H) ?_
                rintro _ _ ⟨rfl, t37, rfl, H⟩
                refine WL.gyes rfl rfl (okb b3) rfl (Yld.pure tab_ok rfl) ?_
                refine WL.y rfl (Yld.pickT (okb b3) rfl) ?_
                exact WL.weaken (by repeat (first | exact Sub.nil | refine Sub.cons rfl ?_)) (hQ _ _ ⟨decide ((0 : Int) ≤ t37), rfl, H, rfl⟩)
              · replace H := H.2 b3
                refine WL.gno rfl rfl (okb b3) rfl ?_
                refine WL.gno rfl rfl (okb b3) rfl ?_
                refine WL.gno rfl rfl (okb b3) rfl ?_
                refine WL.gno rfl rfl (okb b3) rfl ?_
                refine WL.gno rfl rfl (okb b3) rfl ?_
                refine WL.gno rfl rfl (okb b3) rfl ?_
                refine WL.gno rfl rfl (okb b3) rfl ?_
                refine WL.gno rfl rfl (okb b3) rfl ?_
                refine WL.y rfl (Yld.pickF (okb b3) rfl) ?_
                exact WL.weaken (by repeat (first | exact Sub.nil | refine Sub.cons rfl ?_)) (hQ _ _ ⟨false, rfl, H, rfl⟩)
          · clear H
            rcases Bool.eq_false_or_eq_true (right) with b4 | b4
            · refine WL.gyes rfl rfl (okb b4) rfl (Yld.pure tab_ok rfl) ?_
              refine WL.gyes rfl rfl (okb b4) rfl (Yld.pure tab_ok rfl) ?_
              refine WL.y rfl (Yld.pickT (okb b4) rfl) ?_
              exact WL.weaken (by repeat (first | exact Sub.nil | refine Sub.cons rfl ?_)) (hQ _ _ ⟨!decide (s3 = ([] : List UInt8)), rfl, by rw [b4] <;> rfl, rfl⟩)
            · refine WL.gno rfl rfl (okb b4) rfl ?_
              refine WL.gno rfl rfl (okb b4) rfl ?_
              refine WL.y rfl (Yld.pickF (okb b4) rfl) ?_
              exact WL.weaken (by repeat (first | exact Sub.nil | refine Sub.cons rfl ?_)) (hQ _ _ ⟨false, rfl, by rw [b4] <;> rfl, rfl⟩)
      · clear hJ2
        rcases Bool.eq_false_or_eq_true (left && (!decide (s2 = ([] : List UInt8)))) with b5 | b5
        · replace H := H.1 b5
          refine WL.gyes rfl rfl (okb b5) rfl (Yld.pure tab_ok rfl) ?_
          refine WL.gyes rfl rfl (okb b5) rfl (Yld.pure tab_ok rfl) ?_
          obtain ⟨h6, H⟩ := H
          refine WL.gyes rfl rfl (okb b5) rfl (Yld.sidx tab_ok rfl rfl rfl h6.1 h6.2) ?_
          refine WL.callw (wants_some rfl rfl (okb b5)) rfl rfl (W_strings_IndexByte H) ?_
          rintro _ _ ⟨rfl, t20, rfl, H⟩
          refine WL.gyes rfl rfl (okb b5) rfl (Yld.pure tab_ok rfl) ?_
          refine WL.y rfl (Yld.pickT (okb b5) rfl) ?_
          exact WL.weaken (by repeat (first | exact Sub.nil | refine Sub.cons rfl ?_)) (hQ _ _ ⟨decide ((0 : Int) ≤ t20), rfl, H, rfl⟩)
        · replace H := H.2 b5
          refine WL.gno rfl rfl (okb b5) rfl ?_
          refine WL.gno rfl rfl (okb b5) rfl ?_
          refine WL.gno rfl rfl (okb b5) rfl ?_
          refine WL.gno rfl rfl (okb b5) rfl ?_
          refine WL.gno rfl rfl (okb b5) rfl ?_
          refine WL.y rfl (Yld.pickF (okb b5) rfl) ?_
          exact WL.weaken (by repeat (first | exact Sub.nil | refine Sub.cons rfl ?_)) (hQ _ _ ⟨false, rfl, H, rfl⟩)
    · clear H
      rcases Bool.eq_false_or_eq_true (left) with b6 | b6
      · refine WL.gyes rfl rfl (okb b6) rfl (Yld.pure tab_ok rfl) ?_
        refine WL.gyes rfl rfl (okb b6) rfl (Yld.pure tab_ok rfl) ?_
        refine WL.y rfl (Yld.pickT (okb b6) rfl) ?_
        exact WL.weaken (by repeat (first | exact Sub.nil | refine Sub.cons rfl ?_)) (hQ _ _ ⟨!decide (s2 = ([] : List UInt8)), rfl, by rw [b6] <;> rfl, rfl⟩)
      · refine WL.gno rfl rfl (okb b6) rfl ?_
        refine WL.gno rfl rfl (okb b6) rfl ?_
        refine WL.y rfl (Yld.pickF (okb b6) rfl) ?_
        exact WL.weaken (by repeat (first | exact Sub.nil | refine Sub.cons rfl ?_)) (hQ _ _ ⟨false, rfl, by rw [b6] <;> rfl, rfl⟩)
  · clear hJ1
    refine WC.seq ?_
    refine WC.region ?_
    refine WL.y rfl (Yld.pure tab_ok rfl) ?_
    refine WL.y rfl (Yld.pure tab_ok rfl) ?_
    refine WL.nil (WX.then_normal ?_)
    refine WC.cond rfl (fun b7 => ?_) (fun b7 => ?_)
    · replace H := H.1 (of_decide_eq_true b7)
      refine WC.region ?_
      refine WL.y rfl (Yld.pure tab_ok rfl) ?_
      refine WL.nil ?_
      exact WX.weaken (by repeat (first | exact Sub.nil | refine Sub.cons rfl ?_)) (hQ _ _ ⟨([32, 9, 10, 13, 11, 12] : List UInt8), rfl, H, rfl⟩)
    · replace H := H.2 (of_decide_eq_false b7)
      refine WC.skip ?_
      exact WX.weaken (by repeat (first | exact Sub.nil | refine Sub.cons rfl ?_)) (hQ _ _ ⟨bytes, rfl, H, rfl⟩)

end Go.Proofs.YtjinkmipkfjblaaDoor

 /- Printed by a program (wip/vg): what the functions mean, plainly, and their walks. -/
namespace Go.Proofs.YtjinkmipkfjblaaDoor
open Go Go.RowKit
attribute [local irreducible] WL WC WX WQ WK WJ Yld Eff Ef0 Fn
def M_smithyref_SameTexts (a : List (List UInt8)) (b : List (List UInt8)) (K : Bool → Prop) : Prop :=
 (a.length ≤ maxLen →
 (b.length ≤ maxLen →
 ((¬ ((a.length : Int) = (b.length : Int)) → K false) ∧
 ((a.length : Int) = (b.length : Int) → Lp1 (fun (i : Int) k_1 => ((i < (a.length : Int) → (0 ≤ i ∧ i < (a.length : Nat)) ∧
 (0 ≤ i ∧ i < (b.length : Nat)) ∧
 ((¬ ((a.getD i.toNat []) = (b.getD i.toNat [])) → K false) ∧
 ((a.getD i.toNat []) = (b.getD i.toNat []) → (In .i64 (i + (1 : Int))) ∧
 k_1 (i + (1 : Int))))) ∧
 (¬ (i < (a.length : Int)) → K true))) (0 : Int)))))

set_option maxHeartbeats 8000000 in
theorem W_smithyref_SameTexts {w : World} {a : List (List UInt8)} {A_a : Option Addr} {c_a : Nat} {b : List (List UInt8)} {A_b : Option Addr} {c_b : Nat} {n_a : Nat} {n_b : Nat} {K : Bool → Prop} (ha : Rd vs w A_a c_a a) (hn_a : n_a = a.length) (hb : Rd vs w A_b c_b b) (hn_b : n_b = b.length) (H : M_smithyref_SameTexts a b K) : Fn Tryd.prog 26 ⟨[.slice A_a n_a c_a, .slice A_b n_b c_b]⟩ w (fun v w' => w = w' ∧ ∃ (r : Bool), v = .bool r ∧ K r) := by
  subst hn_a
  subst hn_b
  unfold M_smithyref_SameTexts at H
  refine Fn.enter (by kernel_rfl) Tryd.func26 rfl Tryd.ntmps26 rfl ?_
  replace H := H (Nat.le_trans ha.cap ha.max)
  replace H := H (Nat.le_trans hb.cap hb.max)
  refine WC.seq ?_
  refine WC.region ?_
  refine WL.y rfl (Yld.pure tab_ok rfl) ?_
  refine WL.nil (WX.then_normal ?_)
  refine WC.seq ?_
  refine WC.seq ?_
  refine WC.region ?_
  refine WL.y rfl (Yld.pure tab_ok rfl) ?_
  refine WL.y rfl (Yld.pure tab_ok rfl) ?_
  refine WL.y rfl (Yld.pure tab_ok rfl) ?_
  refine WL.y rfl (Yld.pure tab_ok rfl) ?_
  refine WL.y rfl (Yld.pure tab_ok rfl) ?_
  refine WL.nil (WX.then_normal ?_)
  refine WC.cond rfl (fun b1 => ?_) (fun b1 => ?_)
  · replace H := H.1 (nd_true b1)
    refine WC.seq ?_
    refine WC.region ?_
    refine WL.y rfl (Yld.pure tab_ok rfl) ?_
    refine WL.nil (WX.then_normal ?_)
    refine WC.ret (WX.then_ret ?_)
    exact WX.ret1 rfl rfl ⟨rfl, false, rfl, H⟩
  · replace H := H.2 (nd_false b1)
    refine WC.skip (WX.then_normal ?_)
    refine WC.seq ?_
    refine WC.seq ?_
    refine WC.region ?_
    refine WL.y rfl (Yld.pure tab_ok rfl) ?_
    refine WL.nil (WX.then_normal ?_)
    refine WC.block ?_
    obtain ⟨I1, mu1, h0_1, HR1⟩ := H
    refine WC.loopF (fun n' L' w' => ∃ (i : Int), n' = mu1 i ∧ L' = [(0, .slice A_a a.length c_a), (1, .slice A_b b.length c_b), (5, .int .i64 i)] ∧ I1 i ∧ w = w') _ _ ⟨(0 : Int), rfl, rfl, h0_1, rfl⟩ (by repeat (first | exact Sub.nil | refine Sub.cons rfl ?_)) ?_
    clear h0_1
    rintro _ _ _ ⟨i, rfl, rfl, hI1, rfl⟩
    have H := HR1 i hI1
    refine WC.seq ?_
    refine WC.seq ?_
    refine WC.region ?_
    refine WL.y rfl (Yld.pure tab_ok rfl) ?_
    refine WL.y rfl (Yld.pure tab_ok rfl) ?_
    refine WL.y rfl (Yld.pure tab_ok rfl) ?_
    refine WL.y rfl (Yld.pure tab_ok rfl) ?_
    refine WL.nil (WX.then_normal ?_)
    refine WC.cond rfl (fun b2 => ?_) (fun b2 => ?_)
    · replace H := H.1 (of_decide_eq_true b2)
      refine WC.skip (WX.then_normal ?_)
      refine WC.seq ?_
      refine WC.block ?_
      refine WC.seq ?_
      refine WC.quiet mixed (by kernel_rfl) ?_
      refine WQ.y rfl (Yld.pure tab_ok rfl) ?_
      refine WQ.y rfl (Yld.pure tab_ok rfl) ?_
      obtain ⟨h1, H⟩ := H
      refine WQ.y rfl (Yld.iaddrW tab_ok ha rfl rfl rfl rfl h1.1 h1.2) ?_
      refine WQ.y rfl (Yld.iload [] tab_ok ha rfl rfl (iltN h1 rfl)) ?_
      refine WQ.y rfl (Yld.pure tab_ok rfl) ?_
      refine WQ.y rfl (Yld.pure tab_ok rfl) ?_
      obtain ⟨h2, H⟩ := H
      refine WQ.y rfl (Yld.iaddrW tab_ok hb rfl rfl rfl rfl h2.1 h2.2) ?_
      refine WQ.y rfl (Yld.iload [] tab_ok hb rfl rfl (iltN h2 rfl)) ?_
      refine WQ.y rfl (Yld.pure tab_ok rfl) ?_
      refine WQ.y rfl (Yld.pure tab_ok rfl) ?_
      refine WQ.nil (WX.then_normal ?_)
      refine WC.seq ?_
      refine WC.region ?_
      refine WL.y rfl (Yld.pure tab_ok rfl) ?_
      refine WL.y rfl (Yld.pure tab_ok rfl) ?_
      refine WL.nil (WX.then_normal ?_)
      refine WC.cond rfl (fun b3 => ?_) (fun b3 => ?_)
      · replace H := H.1 (nd_true b3)
        refine WC.seq ?_
        refine WC.region ?_
        refine WL.y rfl (Yld.pure tab_ok rfl) ?_
        refine WL.nil (WX.then_normal ?_)
        refine WC.ret (WX.block_ret (WX.then_ret (WX.then_ret (WX.block_ret (WX.then_ret ?_)))))
        exact WX.ret1 rfl rfl ⟨rfl, false, rfl, H⟩
      · replace H := H.2 (nd_false b3)
        refine WC.skip (WX.block_normal (WX.then_normal ?_))
        refine WC.region ?_
        refine WL.y rfl (Yld.pure tab_ok rfl) ?_
        obtain ⟨h3, H⟩ := H
        refine WL.y rfl (Yld.add rfl rfl h3) ?_
        refine WL.y rfl (Yld.pure tab_ok rfl) ?_
        refine WL.nil ?_
        exact WX.roundF _ ⟨i + (1 : Int), rfl, rfl, H.1, rfl⟩ (by repeat (first | exact Sub.nil | refine Sub.cons rfl ?_)) H.2
    · replace H := H.2 (of_decide_eq_false b2)
      refine WC.exit (WX.then_exit (WX.then_exit (WX.block_same (WX.then_normal ?_))))
      refine WC.seq ?_
      refine WC.region ?_
      refine WL.y rfl (Yld.pure tab_ok rfl) ?_
      refine WL.nil (WX.then_normal ?_)
      refine WC.ret ?_
      exact WX.ret1 rfl rfl ⟨rfl, true, rfl, H⟩

end Go.Proofs.YtjinkmipkfjblaaDoor

 /- Regions some of whose operations may come in several orders: the floats once, the others order by order, what stands behind once. -/
namespace Go.Proofs.YtjinkmipkfjblaaDoor
open Go Go.RowKit
section
variable {P : Program} {N : Nat} {ops : Array Oper} {fl : Nat → Bool} {D : World → Prop} {n g : Nat} {K : Act → World → Prop} {Q : Post} {L : Slots} {w : World} {f : Nat} {listed : Array Bool} {d : Nat} {op : Op} {ty : TypeId} {pos : String} {af : Array Edge} {gd : Option (Nat × Bool)}
structure HeadOk (ops : Array Oper) (n : Nat) : Prop where
  sel : Region.noSelect ops = true
  sink : Region.sinkB .any ops n = true
  chain : Region.chainB .any ops n = true
  lt : n < ops.size
def WA (P : Program) (N : Nat) (ops : Array Oper) (fl : Nat → Bool) (D : World → Prop) (n g : Nat) (K : Act → World → Prop) (f : Nat) (listed : Array Bool) (L : Slots) (w : World) : Prop :=
  HeadOk ops n → HeadInv .any ops n listed → ∀ a w1, Eqv w w1 → D w1 → Has N L a → anyT P .any ops fl D n (fun l' a' w' => Region.seqB .any ops g n l' = true ∧ K a' w') f listed a w1
def WI (P : Program) (N : Nat) (ops : Array Oper) (fl : Nat → Bool) (D : World → Prop) (n g : Nat) (K : Act → World → Prop) (f : Nat) (listed : Array Bool) (L : Slots) (w : World) (i : Nat) : Prop :=
  HeadOk ops n → HeadInv .any ops n (listed.setIfInBounds i true) → ∀ a w1, Eqv w w1 → D w1 → Has N L a → ∃ o, ops[i]? = some o ∧ fl i = false ∧ sRun P ops D o a w1 fun a' w' => anyT P .any ops fl D n (fun l' a' w' => Region.seqB .any ops g n l' = true ∧ K a' w') f (listed.setIfInBounds i true) a' w'
theorem WA.y {v : Value} (k : Nat) (ho : ops[k]? = some ⟨some d, op, ty, pos, af, none⟩) (hf : (fl k && ((Region.ready .any ops listed).contains k && (Region.free .any ops listed k && Nat.blt k n))) = true) (hd : Nat.blt d N = true) (hy : ∀ w', D w' → Yld P N w' ⟨some d, op, ty, pos, af, none⟩ L v)
    (h : WA P N ops fl D n g K f (listed.setIfInBounds k true) ((d, v) :: L) w) : WA P N ops fl D n g K (f + 1) listed L w := fun ok inv a w1 e hw ha => by
  simp only [Bool.and_eq_true] at hf
  obtain ⟨hfl, hr, hfr, hkn⟩ := hf
  have hr' : k ∈ Region.ready .any ops listed := by simpa using hr
  have hkn' : k < n := by simpa [Nat.blt_eq] using hkn
  exact float_firstT ho hfl (Region.noSelect_spec ok.sel) ok.sink ok.chain ok.lt hkn' (fun _ _ _ hL => seqB_ready hL.1) f listed a w1 hw inv (Region.free_spec ho hfr) hr'
    (.inl ⟨by simp [Region.wanted], fun w' hw' => hy w' hw' a w' (Eqv.refl _) ha⟩) (h ok (inv.set hr' hkn') _ _ e hw (ha.put hd v))
def AllL {α : Type} (p : α → Prop) : List α → Prop
  | [] => True
  | [x] => p x
  | x :: y :: l => p x ∧ AllL p (y :: l)
theorem AllL.mem {α : Type} {p : α → Prop} : ∀ {l : List α}, AllL p l → ∀ x ∈ l, p x
  | [], _, x, h => by simp at h
  | [y], h, x, hx => by simp at hx; subst hx; exact h
  | y :: z :: l, h, x, hx => by
    rcases List.mem_cons.1 hx with rfl | hx
    · exact h.1
    · exact AllL.mem h.2 x hx
theorem WA.split (is : List Nat) (hr : Region.ready .any ops listed = is) (hc : (!is.isEmpty && is.all fun i => Nat.blt i n) = true) (h : AllL (WI P N ops fl D n g K f listed L w) is) : WA P N ops fl D n g K (f + 1) listed L w := fun ok inv a w1 e hw ha => by
  simp only [Bool.and_eq_true] at hc
  refine ⟨fun h0 => ?_, fun i hi => ?_⟩
  · rw [hr] at h0; subst h0; simp at hc
  · have hi' := hi
    rw [hr] at hi'
    have hin : i < n := by have := List.all_eq_true.1 hc.2 i hi'; simpa [Nat.blt_eq] using this
    obtain ⟨o, ho, hfl, hs⟩ := h.mem i hi' ok (inv.set hi hin) a w1 e hw ha
    exact ⟨hin, o, ho, .inr ⟨hfl, hs⟩⟩
theorem WI.put {i : Nat} {R : Value → World → Prop} (ho : ops[i]? = some ⟨some d, op, ty, pos, af, none⟩) (hf : fl i = false) (hd : Nat.blt d N = true) (hr : Eff P N w ⟨some d, op, ty, pos, af, none⟩ L R) (hD : ∀ v w', R v w' → D w')
    (hk : ∀ v w', R v w' → WA P N ops fl D n g K f (listed.setIfInBounds i true) ((d, v) :: L) w') : WI P N ops fl D n g K f listed L w i := fun ok inv a w1 e hw ha => by
  refine ⟨_, ho, hf, ?_⟩
  unfold sRun
  rw [if_pos (by simp [Region.wanted])]
  obtain ⟨v, w', h, hR⟩ := hr a w1 e ha
  rw [h]
  exact ⟨hD v w' hR, hk v w' hR ok inv _ w' (Eqv.refl _) (hD v w' hR) (ha.put hd v)⟩
theorem WI.eff {i : Nat} {R : World → Prop} (ho : ops[i]? = some ⟨none, op, ty, pos, af, none⟩) (hf : fl i = false) (hr : Ef0 P N w ⟨none, op, ty, pos, af, none⟩ L R) (hD : ∀ w', R w' → D w')
    (hk : ∀ w', R w' → WA P N ops fl D n g K f (listed.setIfInBounds i true) L w') : WI P N ops fl D n g K f listed L w i := fun ok inv a w1 e hw ha => by
  refine ⟨_, ho, hf, ?_⟩
  unfold sRun
  rw [if_pos (by simp [Region.wanted])]
  obtain ⟨w', h, hR⟩ := hr a w1 e ha
  rw [h]
  exact ⟨hD w' hR, hk w' hR ok inv _ w' (Eqv.refl _) (hD w' hR) ha⟩
theorem WI.call {i : Nat} {R : Value → World → Prop} {fn : FuncId} {as_ : List Operand} {ts : Array TypeId} {vs : List Value} (ho : ops[i]? = some ⟨some d, .call ⟨.value (.func fn), ⟨as_⟩, ts⟩, ty, pos, af, gd⟩) (hf : fl i = false) (hg : Wants N ops L gd) (hd : Nat.blt d N = true) (hv : opvs L as_ = some vs) (hc : Fn P fn ⟨vs⟩ w R) (hD : ∀ v w', R v w' → ∀ w2, Eqv w' w2 → D w2)
    (hk : ∀ v w', R v w' → WA P N ops fl D n g K f (listed.setIfInBounds i true) ((d, v) :: L) w') : WI P N ops fl D n g K f listed L w i := fun ok inv a w1 e hw ha => by
  refine ⟨_, ho, hf, ?_⟩
  unfold sRun
  rw [if_pos (Wants.wanted (o := ⟨some d, .call ⟨.value (.func fn), ⟨as_⟩, ts⟩, ty, pos, af, gd⟩) hg ha), run_enter ha hv hc.1]
  refine (hc.2 w1 e).mono ?_
  rintro en w' ⟨v, w0, rfl, h0, hR⟩
  exact ⟨v, rfl, hD v w0 hR w' h0, hk v w0 hR ok inv _ w' h0 (hD v w0 hR w' h0) (ha.put hd v)⟩
end
end Go.Proofs.YtjinkmipkfjblaaDoor

 /- Printed by a program (wip/vg): what the functions mean, plainly, and their walks. -/
namespace Go.Proofs.YtjinkmipkfjblaaDoor
open Go Go.RowKit
attribute [local irreducible] WL WC WX WQ WK WJ Yld Eff Ef0 Fn
def M_smithyworld_Texts (l : List (List UInt8)) (most : Int) (long : Int) (K : Bool → Prop) : Prop :=
 (l.length ≤ maxLen →
 ((most < (l.length : Int) → K false) ∧
 (¬ (most < (l.length : Int)) → Lp1 (fun (i : Int) k_1 => ((i < (l.length : Int) → (0 ≤ i ∧ i < (l.length : Nat)) ∧
 ((long < ((l.getD i.toNat []).length : Int) → K false) ∧
 (¬ (long < ((l.getD i.toNat []).length : Int)) → (In .i64 (i + (1 : Int))) ∧
 k_1 (i + (1 : Int))))) ∧
 (¬ (i < (l.length : Int)) → K true))) (0 : Int))))

def M_smithyworld_Number (n : Int) (below : Int) (K : Int → Prop) : Prop :=
 (below ≠ 0) ∧
 (In .i64 ((n.tmod below) + below)) ∧
 (below ≠ 0) ∧
 K (((n.tmod below) + below).tmod below)

def M_smithylaw11_first (K : Bool → Prop) : Prop :=
 M_str_Split ([97, 44, 98, 44, 44, 99] : List UInt8) ([44] : List UInt8) (2 : Int) (fun (t80 : List (List UInt8)) (t81 : Er) =>
 M_str_Format ([123, 125, 45, 123, 120, 125] : List UInt8) ([([49] : List UInt8)] : List (List UInt8)) ([([120] : List UInt8)] : List (List UInt8)) ([([50] : List UInt8)] : List (List UInt8)) (fun (t150 : List UInt8) (t151 : Er) =>
 M_str_Cut (5 : Int) (-2 : Int) (9 : Int) true true (fun (t190 : Int) (t191 : Int) =>
 ∃ J1 : Bool → Prop, (((((decide (t81 = Er.ok)) && (decide (t151 = Er.ok))) = true → M_smithyref_SameTexts t80 ([([97] : List UInt8), ([98] : List UInt8), ([44, 99] : List UInt8)] : List (List UInt8)) (fun (t31 : Bool) =>
 J1 t31)) ∧
 (((decide (t81 = Er.ok)) && (decide (t151 = Er.ok))) = false → J1 false))) ∧
 (∀ q2 : Bool, J1 q2 → K (((q2 && (decide (t150 = ([49, 45, 50] : List UInt8)))) && (decide (t190 = (3 : Int)))) && (decide (t191 = (5 : Int))))))))

def M_smithylaw11_StrWords (l : List (List UInt8)) (blanks : List Int) (K : Bool → Prop) : Prop :=
 (l.length ≤ maxLen →
 (blanks.length ≤ maxLen →
 M_smithylaw11_first (fun (ok : Bool) =>
 (((!ok) = true → K false) ∧
 ((!ok) = false → M_smithyworld_Texts l (12 : Int) (30 : Int) (fun (t21 : Bool) =>
 (((((!t21) || (decide ((30 : Int) < (blanks.length : Int)))) || (!ok)) = true → K ok) ∧
 ((((!t21) || (decide ((30 : Int) < (blanks.length : Int)))) || (!ok)) = false → Lp3 (fun (s : List UInt8) (want : List (List UInt8)) (i : Int) k_1 => ((i < (l.length : Int) → ∃ J1 : (List UInt8) → (List (List UInt8)) → Prop, (∃ J2 : Int → Prop, (((i < (blanks.length : Int) → (0 ≤ i ∧ i < (blanks.length : Nat)) ∧
 M_smithyworld_Number (blanks.getD i.toNat 0) (4 : Int) (fun (t47 : Int) =>
 (In .i64 (t47 + (1 : Int))) ∧
 J2 (t47 + (1 : Int)))) ∧
 (¬ (i < (blanks.length : Int)) → J2 (1 : Int)))) ∧
 (∀ n : Int, J2 n → (0 ≤ n ∧ n ≤ ([32, 9, 10, 13] : List UInt8).length) ∧
 (s.length + (([32, 9, 10, 13] : List UInt8).take n.toNat).length ≤ 9223372036854775807) ∧
 Lp2 (fun (w_ : List UInt8) (k : Int) k_2 => (0 ≤ i ∧ i < (l.length : Nat)) ∧
 ((k < ((l.getD i.toNat []).length : Int) → ∃ J3 : (List UInt8) → Prop, ((0 ≤ i ∧ i < (l.length : Nat)) ∧
 (0 ≤ k ∧ k < (l.getD i.toNat []).length) ∧
 ((((!decide ((((l.getD i.toNat []).getD k.toNat 0).toNat : Int) = (32 : Int))) && ((decide ((((l.getD i.toNat []).getD k.toNat 0).toNat : Int) < (9 : Int))) || (decide ((13 : Int) < (((l.getD i.toNat []).getD k.toNat 0).toNat : Int))))) = true → (0 ≤ i ∧ i < (l.length : Nat)) ∧
 (In .i64 (k + (1 : Int))) ∧
 (0 ≤ k ∧ k ≤ k + (1 : Int) ∧ k + (1 : Int) ≤ (l.getD i.toNat []).length) ∧
 (w_.length + (((l.getD i.toNat []).drop k.toNat).take ((k + (1 : Int)).toNat - k.toNat)).length ≤ 9223372036854775807) ∧
 J3 (w_ ++ (((l.getD i.toNat []).drop k.toNat).take ((k + (1 : Int)).toNat - k.toNat)))) ∧
 (((!decide ((((l.getD i.toNat []).getD k.toNat 0).toNat : Int) = (32 : Int))) && ((decide ((((l.getD i.toNat []).getD k.toNat 0).toNat : Int) < (9 : Int))) || (decide ((13 : Int) < (((l.getD i.toNat []).getD k.toNat 0).toNat : Int))))) = false → J3 w_))) ∧
 (∀ w_2 : List UInt8, J3 w_2 → (In .i64 (k + (1 : Int))) ∧
 k_2 w_2 (k + (1 : Int)))) ∧
 (¬ (k < ((l.getD i.toNat []).length : Int)) → ((s ++ (([32, 9, 10, 13] : List UInt8).take n.toNat)).length + w_.length ≤ 9223372036854775807) ∧
 ((¬ (w_ = ([] : List UInt8)) → ((want.length + (([w_] : List (List UInt8))).length) * 16 ≤ 140737488355328) ∧
 J1 ((s ++ (([32, 9, 10, 13] : List UInt8).take n.toNat)) ++ w_) (want ++ ([w_] : List (List UInt8)))) ∧
 (w_ = ([] : List UInt8) → J1 ((s ++ (([32, 9, 10, 13] : List UInt8).take n.toNat)) ++ w_) want))))) ([] : List UInt8) (0 : Int))) ∧
 (∀ s2 : List UInt8, ∀ want2 : List (List UInt8), J1 s2 want2 → (In .i64 (i + (1 : Int))) ∧
 k_1 s2 want2 (i + (1 : Int)))) ∧
 (¬ (i < (l.length : Int)) → (s.length + ([32, 32] : List UInt8).length ≤ 9223372036854775807) ∧
 M_str_Words (s ++ ([32, 32] : List UInt8)) (fun (got : List (List UInt8)) =>
 (s.length + ([32] : List UInt8).length ≤ 9223372036854775807) ∧
 M_str_Strip (s ++ ([32] : List UInt8)) ([] : List UInt8) true true (fun (t : List UInt8) =>
 M_str_Join ([32] : List UInt8) want (fun (t1050 : List UInt8) (t1051 : Er) =>
 ∃ J4 : Bool → Prop, ((((decide (t1051 = Er.ok)) = true → M_smithyref_SameTexts got want (fun (t113 : Bool) =>
 J4 t113)) ∧
 ((decide (t1051 = Er.ok)) = false → J4 false))) ∧
 (∀ q4 : Bool, J4 q4 → (q4 = true → (decide (t = ([] : List UInt8))) = false → (0 ≤ (0 : Int) ∧ (0 : Int) < t.length)) ∧
 (q4 = true → (decide (t = ([] : List UInt8))) = false → (decide ((32 : Int) < ((t.getD 0 0).toNat : Int))) = true → (In .i64 ((t.length : Int) - (1 : Int)))) ∧
 (q4 = true → (decide (t = ([] : List UInt8))) = false → (decide ((32 : Int) < ((t.getD 0 0).toNat : Int))) = true → (0 ≤ (t.length : Int) - (1 : Int) ∧ (t.length : Int) - (1 : Int) < t.length)) ∧
 (q4 = true → ((decide (t = ([] : List UInt8))) || ((decide ((32 : Int) < ((t.getD 0 0).toNat : Int))) && (decide ((32 : Int) < ((t.getD ((t.length : Int) - (1 : Int)).toNat 0).toNat : Int))))) = false → (0 ≤ (0 : Int) ∧ (0 : Int) < t.length)) ∧
 (q4 = true → (((decide (t = ([] : List UInt8))) || ((decide ((32 : Int) < ((t.getD 0 0).toNat : Int))) && (decide ((32 : Int) < ((t.getD ((t.length : Int) - (1 : Int)).toNat 0).toNat : Int))))) || (decide ((13 : Int) < ((t.getD 0 0).toNat : Int)))) = false → (0 ≤ (0 : Int) ∧ (0 : Int) < t.length)) ∧
 ∃ J5 : Bool → Prop, ((((q4 && ((((decide (t = ([] : List UInt8))) || ((decide ((32 : Int) < ((t.getD 0 0).toNat : Int))) && (decide ((32 : Int) < ((t.getD ((t.length : Int) - (1 : Int)).toNat 0).toNat : Int))))) || (decide ((13 : Int) < ((t.getD 0 0).toNat : Int)))) || (decide (((t.getD 0 0).toNat : Int) < (9 : Int))))) = true → M_str_Words t1050 (fun (t144 : List (List UInt8)) =>
 M_smithyref_SameTexts t144 want (fun (t146 : Bool) =>
 J5 t146))) ∧
 ((q4 && ((((decide (t = ([] : List UInt8))) || ((decide ((32 : Int) < ((t.getD 0 0).toNat : Int))) && (decide ((32 : Int) < ((t.getD ((t.length : Int) - (1 : Int)).toNat 0).toNat : Int))))) || (decide ((13 : Int) < ((t.getD 0 0).toNat : Int)))) || (decide (((t.getD 0 0).toNat : Int) < (9 : Int))))) = false → J5 false))) ∧
 (∀ q6 : Bool, J5 q6 → K q6)))))))) ([] : List UInt8) [] (0 : Int)))))))))

set_option maxHeartbeats 8000000 in
theorem W_smithyworld_Texts {w : World} {l : List (List UInt8)} {A_l : Option Addr} {c_l : Nat} {most : Int} {long : Int} {n_l : Nat} {K : Bool → Prop} (hl : Rd vs w A_l c_l l) (hn_l : n_l = l.length) (H : M_smithyworld_Texts l most long K) : Fn Tryd.prog 10 ⟨[.slice A_l n_l c_l, .int .i64 most, .int .i64 long]⟩ w (fun v w' => w = w' ∧ ∃ (r : Bool), v = .bool r ∧ K r) := by
  subst hn_l
  unfold M_smithyworld_Texts at H
  refine Fn.enter (by kernel_rfl) Tryd.func10 rfl Tryd.ntmps10 rfl ?_
  replace H := H (Nat.le_trans hl.cap hl.max)
  refine WC.seq ?_
  refine WC.region ?_
  refine WL.y rfl (Yld.pure tab_ok rfl) ?_
  refine WL.nil (WX.then_normal ?_)
  refine WC.seq ?_
  refine WC.seq ?_
  refine WC.region ?_
  refine WL.y rfl (Yld.pure tab_ok rfl) ?_
  refine WL.y rfl (Yld.pure tab_ok rfl) ?_
  refine WL.y rfl (Yld.pure tab_ok rfl) ?_
  refine WL.y rfl (Yld.pure tab_ok rfl) ?_
  refine WL.nil (WX.then_normal ?_)
  refine WC.cond rfl (fun b1 => ?_) (fun b1 => ?_)
  · replace H := H.1 (of_decide_eq_true b1)
    refine WC.seq ?_
    refine WC.region ?_
    refine WL.y rfl (Yld.pure tab_ok rfl) ?_
    refine WL.nil (WX.then_normal ?_)
    refine WC.ret (WX.then_ret ?_)
    exact WX.ret1 rfl rfl ⟨rfl, false, rfl, H⟩
  · replace H := H.2 (of_decide_eq_false b1)
    refine WC.skip (WX.then_normal ?_)
    refine WC.seq ?_
    refine WC.seq ?_
    refine WC.region ?_
    refine WL.y rfl (Yld.pure tab_ok rfl) ?_
    refine WL.nil (WX.then_normal ?_)
    refine WC.block ?_
    obtain ⟨I1, mu1, h0_1, HR1⟩ := H
    refine WC.loopF (fun n' L' w' => ∃ (i : Int), n' = mu1 i ∧ L' = [(0, .slice A_l l.length c_l), (2, .int .i64 long), (7, .int .i64 i)] ∧ I1 i ∧ w = w') _ _ ⟨(0 : Int), rfl, rfl, h0_1, rfl⟩ (by repeat (first | exact Sub.nil | refine Sub.cons rfl ?_)) ?_
    clear h0_1
    rintro _ _ _ ⟨i, rfl, rfl, hI1, rfl⟩
    have H := HR1 i hI1
    refine WC.seq ?_
    refine WC.seq ?_
    refine WC.region ?_
    refine WL.y rfl (Yld.pure tab_ok rfl) ?_
    refine WL.y rfl (Yld.pure tab_ok rfl) ?_
    refine WL.y rfl (Yld.pure tab_ok rfl) ?_
    refine WL.y rfl (Yld.pure tab_ok rfl) ?_
    refine WL.nil (WX.then_normal ?_)
    refine WC.cond rfl (fun b2 => ?_) (fun b2 => ?_)
    · replace H := H.1 (of_decide_eq_true b2)
      refine WC.skip (WX.then_normal ?_)
      refine WC.seq ?_
      refine WC.block ?_
      refine WC.seq ?_
      refine WC.region ?_
      refine WL.y rfl (Yld.pure tab_ok rfl) ?_
      refine WL.y rfl (Yld.pure tab_ok rfl) ?_
      obtain ⟨h1, H⟩ := H
      refine WL.y rfl (Yld.iaddrW tab_ok hl rfl rfl rfl rfl h1.1 h1.2) ?_
      refine WL.y rfl (Yld.iload [] tab_ok hl rfl rfl (iltN h1 rfl)) ?_
      refine WL.y rfl (Yld.pure tab_ok rfl) ?_
      refine WL.y rfl (Yld.pure tab_ok rfl) ?_
      refine WL.y rfl (Yld.pure tab_ok rfl) ?_
      refine WL.nil (WX.then_normal ?_)
      refine WC.cond rfl (fun b3 => ?_) (fun b3 => ?_)
      · replace H := H.1 (of_decide_eq_true b3)
        refine WC.seq ?_
        refine WC.region ?_
        refine WL.y rfl (Yld.pure tab_ok rfl) ?_
        refine WL.nil (WX.then_normal ?_)
        refine WC.ret (WX.block_ret (WX.then_ret (WX.then_ret (WX.block_ret (WX.then_ret ?_)))))
        exact WX.ret1 rfl rfl ⟨rfl, false, rfl, H⟩
      · replace H := H.2 (of_decide_eq_false b3)
        refine WC.skip (WX.block_normal (WX.then_normal ?_))
        refine WC.region ?_
        refine WL.y rfl (Yld.pure tab_ok rfl) ?_
        obtain ⟨h2, H⟩ := H
        refine WL.y rfl (Yld.add rfl rfl h2) ?_
        refine WL.y rfl (Yld.pure tab_ok rfl) ?_
        refine WL.nil ?_
        exact WX.roundF _ ⟨i + (1 : Int), rfl, rfl, H.1, rfl⟩ (by repeat (first | exact Sub.nil | refine Sub.cons rfl ?_)) H.2
    · replace H := H.2 (of_decide_eq_false b2)
      refine WC.exit (WX.then_exit (WX.then_exit (WX.block_same (WX.then_normal ?_))))
      refine WC.seq ?_
      refine WC.region ?_
      refine WL.y rfl (Yld.pure tab_ok rfl) ?_
      refine WL.nil (WX.then_normal ?_)
      refine WC.ret ?_
      exact WX.ret1 rfl rfl ⟨rfl, true, rfl, H⟩

set_option maxHeartbeats 8000000 in
theorem W_smithyworld_Number {w : World} {n : Int} {below : Int} {K : Int → Prop} (H : M_smithyworld_Number n below K) : Fn Tryd.prog 23 ⟨[.int .i64 n, .int .i64 below]⟩ w (fun v w' => w = w' ∧ ∃ (r : Int), v = .int .i64 r ∧ K r) := by
  unfold M_smithyworld_Number at H
  refine Fn.enter (by kernel_rfl) Tryd.func23 rfl Tryd.ntmps23 rfl ?_
  refine WC.seq ?_
  refine WC.region ?_
  refine WL.y rfl (Yld.pure tab_ok rfl) ?_
  refine WL.nil (WX.then_normal ?_)
  refine WC.seq ?_
  refine WC.region ?_
  refine WL.y rfl (Yld.pure tab_ok rfl) ?_
  refine WL.y rfl (Yld.pure tab_ok rfl) ?_
  obtain ⟨h1, H⟩ := H
  refine WL.y rfl (Yld.rem' rfl rfl h1) ?_
  refine WL.y rfl (Yld.pure tab_ok rfl) ?_
  obtain ⟨h2, H⟩ := H
  refine WL.y rfl (Yld.add rfl rfl h2) ?_
  refine WL.y rfl (Yld.pure tab_ok rfl) ?_
  obtain ⟨h3, H⟩ := H
  refine WL.y rfl (Yld.rem' rfl rfl h3) ?_
  refine WL.y rfl (Yld.pure tab_ok rfl) ?_
  refine WL.nil (WX.then_normal ?_)
  refine WC.ret ?_
  exact WX.ret1 rfl rfl ⟨rfl, ((n.tmod below) + below).tmod below, rfl, H⟩

set_option maxHeartbeats 8000000 in
theorem W_smithylaw11_first {S : List Nat} {w : World} {K : Bool → Prop} (hG : GOK S w) (hS3 : 3 ∈ S) (hS7 : 7 ∈ S) (hS100 : 100 ∈ S) (H : M_smithylaw11_first  K) : Fn Tryd.prog 17 ⟨[]⟩ w (fun v w' => w.grownBy w' none ∧ ∃ (r : Bool), v = .bool r ∧ K r) := by
  unfold M_smithylaw11_first at H
  refine Fn.enter (by kernel_rfl) Tryd.func17 rfl Tryd.ntmps17 rfl ?_
  refine WC.seq ?_
  refine WC.region ?_
  refine WL.y rfl (Yld.pure tab_ok rfl) ?_
  refine WL.nil (WX.then_normal ?_)
  refine WC.seq ?_
  refine WC.region ?_
  refine WL.call rfl rfl (W_str_Split hG hS3 hS7 hS100 H) ?_
  rintro _ w1 ⟨hg1, t80, A_t80, c_t80, v_t81, t81, rfl, ht80, ht81, H⟩
  have hb1 := ht80.ge'
  have k1 := ht80.base (fun g hg => Nat.le_trans (Nat.le_refl _) (hb1 g hg))
  have gr1 := hg1
  refine WL.y rfl (Yld.pure tab_ok rfl) ?_
  refine WL.y rfl (Yld.pure tab_ok rfl) ?_
  refine WL.y rfl (Yld.pure tab_ok rfl) ?_
  refine WL.y rfl (Yld.pure tab_ok rfl) ?_
  refine WL.y rfl (Yld.pure tab_ok rfl) ?_
  refine WL.nil (WX.then_normal ?_)
  refine WC.seq ?_
  refine WC.region ?_
  refine WL.lit tab_ok rfl rfl rfl (all1c rfl all1n) rfl (by omega) (fun g1 w2 hB1 hg2 hl1 => ?_)
  have hO1 : Own vs w2 w.heap.size 9 (some ⟨g1, 0, none⟩) 1 ([([49] : List UInt8)] : List (List UInt8)) := Own.ofBl hB1 (Nat.le_trans (size_le gr1) hl1) (by simp [maxLen]) rfl
  have gr2 := gr_trans gr1 hg2
  have k2 := k1.grown hg2
  have k3 := ht81.grown hg2
  refine WL.lit tab_ok rfl rfl rfl (all1c rfl all1n) rfl (by omega) (fun g2 w3 hB2 hg3 hl2 => ?_)
  have hO2 : Own vs w3 w.heap.size 9 (some ⟨g2, 0, none⟩) 1 ([([120] : List UInt8)] : List (List UInt8)) := Own.ofBl hB2 (Nat.le_trans (size_le gr2) hl2) (by simp [maxLen]) rfl
  have gr3 := gr_trans gr2 hg3
  have k4 := k2.grown hg3
  have k5 := k3.grown hg3
  have k6 := hO1.grown hg3
  refine WL.lit tab_ok rfl rfl rfl (all1c rfl all1n) rfl (by omega) (fun g3 w4 hB3 hg4 hl3 => ?_)
  have hO3 : Own vs w4 w.heap.size 9 (some ⟨g3, 0, none⟩) 1 ([([50] : List UInt8)] : List (List UInt8)) := Own.ofBl hB3 (Nat.le_trans (size_le gr3) hl3) (by simp [maxLen]) rfl
  have gr4 := gr_trans gr3 hg4
  have k7 := k4.grown hg4
  have k8 := k5.grown hg4
  have k9 := k6.grown hg4
  have k10 := hO2.grown hg4
  refine WL.call rfl rfl (W_str_Format (hG.grown gr4) hS3 hS7 k9.rd rfl k10.rd rfl hO3.rd rfl H) ?_
  rintro _ w5 ⟨hg5, t150, v_t151, t151, rfl, ht151, H⟩
  have gr5 := gr_trans gr4 hg5
  have k11 := k7.grown hg5
  have k12 := k8.grown hg5
  refine WL.y rfl (Yld.pure tab_ok rfl) ?_
  refine WL.y rfl (Yld.pure tab_ok rfl) ?_
  refine WL.y rfl (Yld.pure tab_ok rfl) ?_
  refine WL.y rfl (Yld.pure tab_ok rfl) ?_
  refine WL.y rfl (Yld.pure tab_ok rfl) ?_
  refine WL.nil (WX.then_normal ?_)
  refine WC.seq ?_
  refine WC.region ?_
  refine WL.call rfl rfl (W_str_Cut H) ?_
  rintro _ _ ⟨rfl, t190, t191, rfl, H⟩
  refine WL.y rfl (Yld.pure tab_ok rfl) ?_
  refine WL.y rfl (Yld.pure tab_ok rfl) ?_
  refine WL.y rfl (Yld.pure tab_ok rfl) ?_
  refine WL.y rfl (Yld.pure tab_ok rfl) ?_
  refine WL.y rfl (Yld.pure tab_ok rfl) ?_
  refine WL.nil (WX.then_normal ?_)
  refine WC.seq ?_
  refine WC.region ?_
  refine WL.y rfl (Yld.pure tab_ok rfl) ?_
  refine WL.y rfl (Yld.erreql Tryd.underlying29 k12 rfl) ?_
  refine WL.y rfl (Yld.pure tab_ok rfl) ?_
  refine WL.midF 3 (fun L' w' => ∃ q1 : Bool, L' = [(27, .bool q1), (1, .slice A_t80 t80.length c_t80), (3, vs t150), (5, .int .i64 t190), (6, .int .i64 t191)] ∧ q1 = ((decide (t81 = Er.ok)) && (decide (t151 = Er.ok))) ∧ w5 = w') ?_ (fun hQ => ?_)
  · rintro _ _ ⟨q1, rfl, rfl, rfl⟩
    refine WL.y rfl (Yld.pure tab_ok rfl) ?_
    obtain ⟨J1, H, hJ1⟩ := H
    refine WL.midF 4 (fun L' w' => ∃ q2 : Bool, L' = [(32, .bool q2), (3, vs t150), (5, .int .i64 t190), (6, .int .i64 t191)] ∧ J1 q2 ∧ w.grownBy w' none) ?_ (fun hQ => ?_)
    · clear H
      rintro _ w6 ⟨q2, rfl, H, gr6⟩
      replace H := hJ1 q2 H
      refine WL.y rfl (Yld.pure tab_ok rfl) ?_
      refine WL.midF 3 (fun L' w' => ∃ q3 : Bool, L' = [(36, .bool q3), (5, .int .i64 t190), (6, .int .i64 t191)] ∧ q3 = (q2 && (decide (t150 = ([49, 45, 50] : List UInt8)))) ∧ w6 = w') ?_ (fun hQ => ?_)
      · rintro _ _ ⟨q3, rfl, rfl, rfl⟩
        refine WL.y rfl (Yld.pure tab_ok rfl) ?_
        refine WL.midF 3 (fun L' w' => ∃ q4 : Bool, L' = [(40, .bool q4), (6, .int .i64 t191)] ∧ q4 = ((q2 && (decide (t150 = ([49, 45, 50] : List UInt8)))) && (decide (t190 = (3 : Int)))) ∧ w6 = w') ?_ (fun hQ => ?_)
        · rintro _ _ ⟨q4, rfl, rfl, rfl⟩
          refine WL.y rfl (Yld.pure tab_ok rfl) ?_
          refine WL.midF 3 (fun L' w' => ∃ q5 : Bool, L' = [(44, .bool q5)] ∧ q5 = (((q2 && (decide (t150 = ([49, 45, 50] : List UInt8)))) && (decide (t190 = (3 : Int)))) && (decide (t191 = (5 : Int)))) ∧ w6 = w') ?_ (fun hQ => ?_)
          · rintro _ _ ⟨q5, rfl, rfl, rfl⟩
            refine WL.y rfl (Yld.pure tab_ok rfl) ?_
            refine WL.nil (WX.then_normal ?_)
            refine WC.ret ?_
            exact WX.ret1 rfl rfl ⟨gr6, ((q2 && (decide (t150 = ([49, 45, 50] : List UInt8)))) && (decide (t190 = (3 : Int)))) && (decide (t191 = (5 : Int))), rfl, H⟩
          · clear H
            rcases Bool.eq_false_or_eq_true ((q2 && (decide (t150 = ([49, 45, 50] : List UInt8)))) && (decide (t190 = (3 : Int)))) with b1 | b1
            · refine WL.gyes rfl rfl (okb b1) rfl (Yld.pure tab_ok rfl) ?_
              refine WL.gyes rfl rfl (okb b1) rfl (Yld.pure tab_ok rfl) ?_
              refine WL.y rfl (Yld.pickT (okb b1) rfl) ?_
              exact WL.weaken (by repeat (first | exact Sub.nil | refine Sub.cons rfl ?_)) (hQ _ _ ⟨decide (t191 = (5 : Int)), rfl, by rw [b1] <;> rfl, rfl⟩)
            · refine WL.gno rfl rfl (okb b1) rfl ?_
              refine WL.gno rfl rfl (okb b1) rfl ?_
              refine WL.y rfl (Yld.pickF (okb b1) rfl) ?_
              exact WL.weaken (by repeat (first | exact Sub.nil | refine Sub.cons rfl ?_)) (hQ _ _ ⟨false, rfl, by rw [b1] <;> rfl, rfl⟩)
        · clear H
          rcases Bool.eq_false_or_eq_true (q2 && (decide (t150 = ([49, 45, 50] : List UInt8)))) with b2 | b2
          · refine WL.gyes rfl rfl (okb b2) rfl (Yld.pure tab_ok rfl) ?_
            refine WL.gyes rfl rfl (okb b2) rfl (Yld.pure tab_ok rfl) ?_
            refine WL.y rfl (Yld.pickT (okb b2) rfl) ?_
            exact WL.weaken (by repeat (first | exact Sub.nil | refine Sub.cons rfl ?_)) (hQ _ _ ⟨decide (t190 = (3 : Int)), rfl, by rw [b2] <;> rfl, rfl⟩)
          · refine WL.gno rfl rfl (okb b2) rfl ?_
            refine WL.gno rfl rfl (okb b2) rfl ?_
            refine WL.y rfl (Yld.pickF (okb b2) rfl) ?_
            exact WL.weaken (by repeat (first | exact Sub.nil | refine Sub.cons rfl ?_)) (hQ _ _ ⟨false, rfl, by rw [b2] <;> rfl, rfl⟩)
      · clear H
        rcases Bool.eq_false_or_eq_true (q2) with b3 | b3
        · refine WL.gyes rfl rfl (okb b3) rfl (Yld.pure tab_ok rfl) ?_
          refine WL.gyes rfl rfl (okb b3) rfl (Yld.pure tab_ok rfl) ?_
          refine WL.y rfl (Yld.pickT (okb b3) rfl) ?_
          exact WL.weaken (by repeat (first | exact Sub.nil | refine Sub.cons rfl ?_)) (hQ _ _ ⟨decide (t150 = ([49, 45, 50] : List UInt8)), rfl, by rw [b3] <;> rfl, rfl⟩)
        · refine WL.gno rfl rfl (okb b3) rfl ?_
          refine WL.gno rfl rfl (okb b3) rfl ?_
          refine WL.y rfl (Yld.pickF (okb b3) rfl) ?_
          exact WL.weaken (by repeat (first | exact Sub.nil | refine Sub.cons rfl ?_)) (hQ _ _ ⟨false, rfl, by rw [b3] <;> rfl, rfl⟩)
    · clear hJ1
      rcases Bool.eq_false_or_eq_true ((decide (t81 = Er.ok)) && (decide (t151 = Er.ok))) with b4 | b4
      · replace H := H.1 b4
        refine WL.gyes rfl rfl (okb b4) rfl (Yld.pure tab_ok rfl) ?_
        refine WL.putw (wants_some rfl rfl (okb b4)) rfl (Eff.lit tab_ok rfl rfl (all1c rfl (all1c rfl (all1c rfl all1n))) rfl (by omega)) ?_
        rintro _ w7 ⟨rfl, hB4, hg6⟩
        obtain ⟨g_t30, hl4⟩ : ∃ g, g = w5.heap.size := ⟨_, rfl⟩
        rw [← hl4] at hB4
        rw [← hl4]
        have hO4 : Own vs w7 w.heap.size 9 (some ⟨g_t30, 0, none⟩) 3 ([([97] : List UInt8), ([98] : List UInt8), ([44, 99] : List UInt8)] : List (List UInt8)) := Own.ofBl hB4 (Nat.le_trans (size_le gr5) (Nat.le_of_eq hl4.symm)) (by simp [maxLen]) rfl
        have gr7 := gr_trans gr5 hg6
        have k13 := k11.grown hg6
        refine WL.callw (wants_some rfl rfl (okb b4)) rfl rfl (W_smithyref_SameTexts k13.rd rfl hO4.rd rfl H) ?_
        rintro _ _ ⟨rfl, t31, rfl, H⟩
        refine WL.y rfl (Yld.pickT (okb b4) rfl) ?_
        exact WL.weaken (by repeat (first | exact Sub.nil | refine Sub.cons rfl ?_)) (hQ _ _ ⟨t31, rfl, H, gr7⟩)
      · replace H := H.2 b4
        refine WL.gno rfl rfl (okb b4) rfl ?_
        refine WL.gno rfl rfl (okb b4) rfl ?_
        refine WL.gno rfl rfl (okb b4) rfl ?_
        refine WL.y rfl (Yld.pickF (okb b4) rfl) ?_
        exact WL.weaken (by repeat (first | exact Sub.nil | refine Sub.cons rfl ?_)) (hQ _ _ ⟨false, rfl, H, gr5⟩)
  · clear H
    rcases Bool.eq_false_or_eq_true (decide (t81 = Er.ok)) with b5 | b5
    · refine WL.gyes rfl rfl (okb b5) rfl (Yld.pure tab_ok rfl) ?_
      refine WL.gyes rfl rfl (okb b5) rfl (Yld.erreql Tryd.underlying29 ht151 rfl) ?_
      refine WL.y rfl (Yld.pickT (okb b5) rfl) ?_
      exact WL.weaken (by repeat (first | exact Sub.nil | refine Sub.cons rfl ?_)) (hQ _ _ ⟨decide (t151 = Er.ok), rfl, by rw [b5] <;> rfl, rfl⟩)
    · refine WL.gno rfl rfl (okb b5) rfl ?_
      refine WL.gno rfl rfl (okb b5) rfl ?_
      refine WL.y rfl (Yld.pickF (okb b5) rfl) ?_
      exact WL.weaken (by repeat (first | exact Sub.nil | refine Sub.cons rfl ?_)) (hQ _ _ ⟨false, rfl, by rw [b5] <;> rfl, rfl⟩)

set_option maxHeartbeats 8000000 in
theorem W_smithylaw11_StrWords {S : List Nat} {w : World} {l : List (List UInt8)} {A_l : Option Addr} {c_l : Nat} {blanks : List Int} {A_blanks : Option Addr} {c_blanks : Nat} {n_l : Nat} {n_blanks : Nat} {K : Bool → Prop} (hG : GOK S w) (hS3 : 3 ∈ S) (hS7 : 7 ∈ S) (hS100 : 100 ∈ S) (hl : Rd vs w A_l c_l l) (hn_l : n_l = l.length) (hblanks : Rd vi w A_blanks c_blanks blanks) (hn_blanks : n_blanks = blanks.length) (H : M_smithylaw11_StrWords l blanks K) : Fn Tryd.prog 5 ⟨[.slice A_l n_l c_l, .slice A_blanks n_blanks c_blanks]⟩ w (fun v w' => w.grownBy w' none ∧ ∃ (r : Bool), v = .bool r ∧ K r) := by
  subst hn_l
  subst hn_blanks
  unfold M_smithylaw11_StrWords at H
  refine Fn.enter (by kernel_rfl) Tryd.func5 rfl Tryd.ntmps5 rfl ?_
  replace H := H (Nat.le_trans hl.cap hl.max)
  replace H := H (Nat.le_trans hblanks.cap hblanks.max)
  refine WC.seq ?_
  refine WC.region ?_
  refine WL.y rfl (Yld.pure tab_ok rfl) ?_
  refine WL.nil (WX.then_normal ?_)
  refine WC.seq ?_
  refine WC.region ?_
  refine WL.call rfl rfl (W_smithylaw11_first hG hS3 hS7 hS100 H) ?_
  rintro _ w1 ⟨hg1, ok, rfl, H⟩
  have gr1 := hg1
  refine WL.y rfl (Yld.pure tab_ok rfl) ?_
  refine WL.nil (WX.then_normal ?_)
  refine WC.seq ?_
  refine WC.seq ?_
  refine WC.region ?_
  refine WL.y rfl (Yld.pure tab_ok rfl) ?_
  refine WL.y rfl (Yld.pure tab_ok rfl) ?_
  refine WL.nil (WX.then_normal ?_)
  refine WC.cond rfl (fun b1 => ?_) (fun b1 => ?_)
  · replace H := H.1 (b1)
    refine WC.seq ?_
    refine WC.region ?_
    refine WL.y rfl (Yld.pure tab_ok rfl) ?_
    refine WL.nil (WX.then_normal ?_)
    refine WC.ret (WX.then_ret ?_)
    exact WX.ret1 rfl rfl ⟨gr1, false, rfl, H⟩
  · replace H := H.2 (b1)
    refine WC.skip (WX.then_normal ?_)
    refine WC.seq ?_
    refine WC.seq ?_
    refine WC.region ?_
    refine WL.y rfl (Yld.pure tab_ok rfl) ?_
    refine WL.call rfl rfl (W_smithyworld_Texts (hl.grown gr1) rfl H) ?_
    rintro _ _ ⟨rfl, t21, rfl, H⟩
    refine WL.y rfl (Yld.pure tab_ok rfl) ?_
    refine WL.y rfl (Yld.pure tab_ok rfl) ?_
    refine WL.midF 4 (fun L' w' => ∃ q1 : Bool, L' = [(27, .bool q1), (0, .slice A_l l.length c_l), (1, .slice A_blanks blanks.length c_blanks), (5, .bool ok)] ∧ q1 = ((!t21) || (decide ((30 : Int) < (blanks.length : Int)))) ∧ w1 = w') ?_ (fun hQ => ?_)
    · rintro _ _ ⟨q1, rfl, rfl, rfl⟩
      refine WL.y rfl (Yld.pure tab_ok rfl) ?_
      refine WL.midF 3 (fun L' w' => ∃ q2 : Bool, L' = [(31, .bool q2), (0, .slice A_l l.length c_l), (1, .slice A_blanks blanks.length c_blanks), (5, .bool ok)] ∧ q2 = (((!t21) || (decide ((30 : Int) < (blanks.length : Int)))) || (!ok)) ∧ w1 = w') ?_ (fun hQ => ?_)
      · rintro _ _ ⟨q2, rfl, rfl, rfl⟩
        refine WL.nil (WX.then_normal ?_)
        refine WC.cond rfl (fun b2 => ?_) (fun b2 => ?_)
        · replace H := H.1 (b2)
          refine WC.seq ?_
          refine WC.region ?_
          refine WL.y rfl (Yld.pure tab_ok rfl) ?_
          refine WL.y rfl (Yld.pure tab_ok rfl) ?_
          refine WL.nil (WX.then_normal ?_)
          refine WC.ret (WX.then_ret ?_)
          exact WX.ret1 rfl rfl ⟨gr1, ok, rfl, H⟩
        · replace H := H.2 (b2)
          refine WC.skip (WX.then_normal ?_)
          refine WC.seq ?_
          refine WC.region ?_
          refine WL.y rfl (Yld.pure tab_ok rfl) ?_
          refine WL.nil (WX.then_normal ?_)
          refine WC.seq ?_
          refine WC.region ?_
          refine WL.y rfl (Yld.pure tab_ok rfl) ?_
          refine WL.nil (WX.then_normal ?_)
          refine WC.seq ?_
          refine WC.seq ?_
          refine WC.region ?_
          refine WL.y rfl (Yld.pure tab_ok rfl) ?_
          refine WL.nil (WX.then_normal ?_)
          refine WC.block ?_
          obtain ⟨I1, mu1, h0_1, HR1⟩ := H
          refine WC.loopF (fun n' L' w' => ∃ (s : List UInt8), ∃ (want : List (List UInt8)), ∃ (A_want : Option Addr), ∃ (c_want : Nat), ∃ (n_want : Nat), ∃ (i : Int), n' = mu1 s want i ∧ L' = [(0, .slice A_l l.length c_l), (1, .slice A_blanks blanks.length c_blanks), (6, vs s), (7, .slice A_want n_want c_want), (8, .int .i64 i)] ∧ I1 s want i ∧ n_want = want.length ∧ w.grownBy w' none ∧ Own vs w' w.heap.size 9 A_want c_want want) _ _ ⟨([] : List UInt8), [], none, 0, 0, (0 : Int), rfl, rfl, h0_1, rfl, gr1, (Own.nil vs w1 w.heap.size 9)⟩ (by repeat (first | exact Sub.nil | refine Sub.cons rfl ?_)) ?_
          clear h0_1
          rintro _ _ w2 ⟨s, want, A_want, c_want, n_want, i, rfl, rfl, hI1, rfl, gr2, k1⟩
          have H := HR1 s want i hI1
          refine WC.seq ?_
          refine WC.seq ?_
          refine WC.region ?_
          refine WL.y rfl (Yld.pure tab_ok rfl) ?_
          refine WL.y rfl (Yld.pure tab_ok rfl) ?_
          refine WL.y rfl (Yld.pure tab_ok rfl) ?_
          refine WL.y rfl (Yld.pure tab_ok rfl) ?_
          refine WL.nil (WX.then_normal ?_)
          refine WC.cond rfl (fun b3 => ?_) (fun b3 => ?_)
          · replace H := H.1 (of_decide_eq_true b3)
            refine WC.skip (WX.then_normal ?_)
            refine WC.seq ?_
            obtain ⟨J1, H, hJ1⟩ := H
            refine WC.midF (fun L' w' => ∃ (s2 : List UInt8), ∃ (want2 : List (List UInt8)), ∃ (A_want2 : Option Addr), ∃ (c_want2 : Nat), ∃ (n_want2 : Nat), L' = [(0, .slice A_l l.length c_l), (1, .slice A_blanks blanks.length c_blanks), (6, vs s2), (7, .slice A_want2 n_want2 c_want2), (8, .int .i64 i)] ∧ J1 s2 want2 ∧ n_want2 = want2.length ∧ w.grownBy w' none ∧ Own vs w' w.heap.size 9 A_want2 c_want2 want2) ?_ (fun hQ => ?_)
            · clear H
              rintro _ w3 ⟨s2, want2, A_want2, c_want2, n_want2, rfl, H, rfl, gr3, k2⟩
              replace H := hJ1 s2 want2 H
              refine WX.then_normal ?_
              refine WC.region ?_
              refine WL.y rfl (Yld.pure tab_ok rfl) ?_
              obtain ⟨h1, H⟩ := H
              refine WL.y rfl (Yld.add rfl rfl h1) ?_
              refine WL.y rfl (Yld.pure tab_ok rfl) ?_
              refine WL.nil ?_
              exact WX.roundF _ ⟨s2, want2, A_want2, c_want2, want2.length, i + (1 : Int), rfl, rfl, H.1, rfl, gr3, k2⟩ (by repeat (first | exact Sub.nil | refine Sub.cons rfl ?_)) H.2
            · clear hJ1
              refine WC.block ?_
              refine WC.seq ?_
              refine WC.region ?_
              refine WL.y rfl (Yld.pure tab_ok rfl) ?_
              refine WL.nil (WX.then_normal ?_)
              refine WC.seq ?_
              obtain ⟨J2, H, hJ2⟩ := H
              refine WC.midF (fun L' w' => ∃ (n : Int), L' = [(0, .slice A_l l.length c_l), (1, .slice A_blanks blanks.length c_blanks), (6, vs s), (7, .slice A_want want.length c_want), (8, .int .i64 i), (9, .int .i64 n)] ∧ J2 n ∧ w2 = w') ?_ (fun hQ => ?_)
              · clear H
                rintro _ _ ⟨n, rfl, H, rfl⟩
                replace H := hJ2 n H
                refine WX.then_normal ?_
                refine WC.seq ?_
                refine WC.region ?_
                refine WL.y rfl (Yld.pure tab_ok rfl) ?_
                refine WL.y rfl (Yld.pure tab_ok rfl) ?_
                obtain ⟨h2, H⟩ := H
                refine WL.y rfl (Yld.scut tab_ok rfl rfl rfl rfl (Int.le_refl 0) h2.1 h2.2) ?_
                obtain ⟨h3, H⟩ := H
                refine WL.y rfl (Yld.sadd rfl rfl h3) ?_
                refine WL.y rfl (Yld.pure tab_ok rfl) ?_
                refine WL.nil (WX.then_normal ?_)
                refine WC.seq ?_
                refine WC.region ?_
                refine WL.y rfl (Yld.pure tab_ok rfl) ?_
                refine WL.nil (WX.then_normal ?_)
                refine WC.seq ?_
                refine WC.seq ?_
                refine WC.region ?_
                refine WL.y rfl (Yld.pure tab_ok rfl) ?_
                refine WL.nil (WX.then_normal ?_)
                refine WC.block ?_
                obtain ⟨I2, mu2, h0_2, HR2⟩ := H
                refine WC.loopF (fun n' L' w' => ∃ (w_ : List UInt8), ∃ (k : Int), n' = mu2 w_ k ∧ L' = [(0, .slice A_l l.length c_l), (1, .slice A_blanks blanks.length c_blanks), (6, vs (s ++ (([32, 9, 10, 13] : List UInt8).take n.toNat))), (7, .slice A_want want.length c_want), (8, .int .i64 i), (10, vs w_), (11, .int .i64 k)] ∧ I2 w_ k ∧ w2 = w') _ _ ⟨([] : List UInt8), (0 : Int), rfl, rfl, h0_2, rfl⟩ (by repeat (first | exact Sub.nil | refine Sub.cons rfl ?_)) ?_
                clear h0_2
                rintro _ _ _ ⟨w_, k, rfl, rfl, hI2, rfl⟩
                have H := HR2 w_ k hI2
                refine WC.seq ?_
                refine WC.seq ?_
                refine WC.region ?_
                refine WL.y rfl (Yld.pure tab_ok rfl) ?_
                refine WL.y rfl (Yld.pure tab_ok rfl) ?_
                refine WL.y rfl (Yld.pure tab_ok rfl) ?_
                obtain ⟨h4, H⟩ := H
                refine WL.y rfl (Yld.iaddrW tab_ok (hl.grown gr2) rfl rfl rfl rfl h4.1 h4.2) ?_
                refine WL.y rfl (Yld.iload [] tab_ok (hl.grown gr2) rfl rfl (iltN h4 rfl)) ?_
                refine WL.y rfl (Yld.pure tab_ok rfl) ?_
                refine WL.y rfl (Yld.pure tab_ok rfl) ?_
                refine WL.nil (WX.then_normal ?_)
                refine WC.cond rfl (fun b4 => ?_) (fun b4 => ?_)
                · replace H := H.1 (of_decide_eq_true b4)
                  refine WC.skip (WX.then_normal ?_)
                  refine WC.seq ?_
                  obtain ⟨J3, H, hJ3⟩ := H
                  refine WC.midF (fun L' w' => ∃ (w_2 : List UInt8), L' = [(0, .slice A_l l.length c_l), (1, .slice A_blanks blanks.length c_blanks), (6, vs (s ++ (([32, 9, 10, 13] : List UInt8).take n.toNat))), (7, .slice A_want want.length c_want), (8, .int .i64 i), (10, vs w_2), (11, .int .i64 k)] ∧ J3 w_2 ∧ w2 = w') ?_ (fun hQ => ?_)
                  · clear H
                    rintro _ _ ⟨w_2, rfl, H, rfl⟩
                    replace H := hJ3 w_2 H
                    refine WX.then_normal ?_
                    refine WC.region ?_
                    refine WL.y rfl (Yld.pure tab_ok rfl) ?_
                    obtain ⟨h5, H⟩ := H
                    refine WL.y rfl (Yld.add rfl rfl h5) ?_
                    refine WL.y rfl (Yld.pure tab_ok rfl) ?_
                    refine WL.nil ?_
                    exact WX.roundF _ ⟨w_2, k + (1 : Int), rfl, rfl, H.1, rfl⟩ (by repeat (first | exact Sub.nil | refine Sub.cons rfl ?_)) H.2
                  · clear hJ3
                    refine WC.block ?_
                    refine WC.seq ?_
                    refine WC.region ?_
                    refine WL.y rfl (Yld.pure tab_ok rfl) ?_
                    refine WL.y rfl (Yld.pure tab_ok rfl) ?_
                    obtain ⟨h6, H⟩ := H
                    refine WL.y rfl (Yld.iaddrW tab_ok (hl.grown gr2) rfl rfl rfl rfl h6.1 h6.2) ?_
                    refine WL.y rfl (Yld.iload [] tab_ok (hl.grown gr2) rfl rfl (iltN h6 rfl)) ?_
                    refine WL.y rfl (Yld.pure tab_ok rfl) ?_
                    obtain ⟨h7, H⟩ := H
                    refine WL.y rfl (Yld.sidx tab_ok rfl rfl rfl h7.1 h7.2) ?_
                    refine WL.y rfl (Yld.pure tab_ok rfl) ?_
                    refine WL.nil (WX.then_normal ?_)
                    refine WC.seq ?_
                    refine WC.region ?_
                    refine WL.y rfl (Yld.pure tab_ok rfl) ?_
                    refine WL.y rfl (Yld.pure tab_ok rfl) ?_
                    refine WL.y rfl (Yld.pure tab_ok rfl) ?_
                    refine WL.midF 7 (fun L' w' => ∃ q3 : Bool, L' = [(77, .bool q3), (0, .slice A_l l.length c_l), (1, .slice A_blanks blanks.length c_blanks), (6, vs (s ++ (([32, 9, 10, 13] : List UInt8).take n.toNat))), (7, .slice A_want want.length c_want), (8, .int .i64 i), (10, vs w_), (11, .int .i64 k)] ∧ q3 = ((!decide ((((l.getD i.toNat []).getD k.toNat 0).toNat : Int) = (32 : Int))) && ((decide ((((l.getD i.toNat []).getD k.toNat 0).toNat : Int) < (9 : Int))) || (decide ((13 : Int) < (((l.getD i.toNat []).getD k.toNat 0).toNat : Int))))) ∧ w2 = w') ?_ (fun hQ => ?_)
                    · rintro _ _ ⟨q3, rfl, rfl, rfl⟩
                      refine WL.nil (WX.then_normal ?_)
                      refine WC.cond rfl (fun b5 => ?_) (fun b5 => ?_)
                      · replace H := H.1 (b5)
                        refine WC.region ?_
                        refine WL.y rfl (Yld.pure tab_ok rfl) ?_
                        refine WL.y rfl (Yld.pure tab_ok rfl) ?_
                        refine WL.y rfl (Yld.pure tab_ok rfl) ?_
                        obtain ⟨h8, H⟩ := H
                        refine WL.y rfl (Yld.iaddrW tab_ok (hl.grown gr2) rfl rfl rfl rfl h8.1 h8.2) ?_
                        refine WL.y rfl (Yld.iload [] tab_ok (hl.grown gr2) rfl rfl (iltN h8 rfl)) ?_
                        refine WL.y rfl (Yld.pure tab_ok rfl) ?_
                        refine WL.y rfl (Yld.pure tab_ok rfl) ?_
                        obtain ⟨h9, H⟩ := H
                        refine WL.y rfl (Yld.add rfl rfl h9) ?_
                        obtain ⟨h10, H⟩ := H
                        refine WL.y rfl (Yld.scut tab_ok rfl rfl rfl rfl h10.1 h10.2.1 h10.2.2) ?_
                        obtain ⟨h11, H⟩ := H
                        refine WL.y rfl (Yld.sadd rfl rfl h11) ?_
                        refine WL.y rfl (Yld.pure tab_ok rfl) ?_
                        refine WL.nil (WX.block_normal ?_)
                        exact WX.weaken (by repeat (first | exact Sub.nil | refine Sub.cons rfl ?_)) (hQ _ _ ⟨w_ ++ (((l.getD i.toNat []).drop k.toNat).take ((k + (1 : Int)).toNat - k.toNat)), rfl, H, rfl⟩)
                      · replace H := H.2 (b5)
                        refine WC.skip (WX.block_normal ?_)
                        exact WX.weaken (by repeat (first | exact Sub.nil | refine Sub.cons rfl ?_)) (hQ _ _ ⟨w_, rfl, H, rfl⟩)
                    · clear H
                      rcases Bool.eq_false_or_eq_true (!decide ((((l.getD i.toNat []).getD k.toNat 0).toNat : Int) = (32 : Int))) with b6 | b6
                      · refine WL.gyes rfl rfl (okb b6) rfl (Yld.pure tab_ok rfl) ?_
                        refine WL.gyes rfl rfl (okb b6) rfl (Yld.pure tab_ok rfl) ?_
                        refine WL.gyes rfl rfl (okb b6) rfl (Yld.pure tab_ok rfl) ?_
                        rcases Bool.eq_false_or_eq_true (decide ((((l.getD i.toNat []).getD k.toNat 0).toNat : Int) < (9 : Int))) with b7 | b7
                        · refine WL.gno rfl rfl (okb b7) rfl ?_
                          refine WL.gno rfl rfl (okb b7) rfl ?_
                          refine WL.gyes rfl rfl (okb b6) rfl (Yld.pickT (okb b7) rfl) ?_
                          refine WL.y rfl (Yld.pickT (okb b6) rfl) ?_
                          exact WL.weaken (by repeat (first | exact Sub.nil | refine Sub.cons rfl ?_)) (hQ _ _ ⟨true, rfl, by rw [b6, b7] <;> rfl, rfl⟩)
                        · refine WL.gyes rfl rfl (okb b7) rfl (Yld.pure tab_ok rfl) ?_
                          refine WL.gyes rfl rfl (okb b7) rfl (Yld.pure tab_ok rfl) ?_
                          refine WL.gyes rfl rfl (okb b6) rfl (Yld.pickF (okb b7) rfl) ?_
                          refine WL.y rfl (Yld.pickT (okb b6) rfl) ?_
                          exact WL.weaken (by repeat (first | exact Sub.nil | refine Sub.cons rfl ?_)) (hQ _ _ ⟨decide ((13 : Int) < (((l.getD i.toNat []).getD k.toNat 0).toNat : Int)), rfl, by rw [b6, b7] <;> rfl, rfl⟩)
                      · refine WL.gno rfl rfl (okb b6) rfl ?_
                        refine WL.gno rfl rfl (okb b6) rfl ?_
                        refine WL.gno rfl rfl (okb b6) rfl ?_
                        refine WL.gun rfl rfl rfl rfl ?_
                        refine WL.gun rfl rfl rfl rfl ?_
                        refine WL.gno rfl rfl (okb b6) rfl ?_
                        refine WL.y rfl (Yld.pickF (okb b6) rfl) ?_
                        exact WL.weaken (by repeat (first | exact Sub.nil | refine Sub.cons rfl ?_)) (hQ _ _ ⟨false, rfl, by rw [b6] <;> rfl, rfl⟩)
                · replace H := H.2 (of_decide_eq_false b4)
                  refine WC.exit (WX.then_exit (WX.then_exit (WX.block_same (WX.then_normal ?_))))
                  refine WC.seq ?_
                  refine WC.region ?_
                  refine WL.y rfl (Yld.pure tab_ok rfl) ?_
                  refine WL.y rfl (Yld.pure tab_ok rfl) ?_
                  obtain ⟨h12, H⟩ := H
                  refine WL.y rfl (Yld.sadd rfl rfl h12) ?_
                  refine WL.y rfl (Yld.pure tab_ok rfl) ?_
                  refine WL.nil (WX.then_normal ?_)
                  refine WC.seq ?_
                  refine WC.region ?_
                  refine WL.y rfl (Yld.pure tab_ok rfl) ?_
                  refine WL.y rfl (Yld.pure tab_ok rfl) ?_
                  refine WL.nil (WX.then_normal ?_)
                  refine WC.cond rfl (fun b8 => ?_) (fun b8 => ?_)
                  · replace H := H.1 (nd_true b8)
                    refine WC.region ?_
                    refine WL.y rfl (Yld.pure tab_ok rfl) ?_
                    refine WL.y rfl (Yld.pure tab_ok rfl) ?_
                    refine WL.lit tab_ok rfl rfl rfl (all1c rfl all1n) rfl (by omega) (fun g1 w4 hB1 hg2 hl1 => ?_)
                    have hO1 : Own vs w4 w.heap.size 9 (some ⟨g1, 0, none⟩) 1 ([w_] : List (List UInt8)) := Own.ofBl hB1 (Nat.le_trans (size_le gr2) hl1) (by simp [maxLen]) rfl
                    have gr4 := gr_trans gr2 hg2
                    have k3 := k1.grown hg2
                    obtain ⟨h13, H⟩ := H
                    refine WL.append tab_ok rfl rfl One.s k3 rfl rfl hO1.rd rfl rfl h13 (applen h13) (size_le gr4) (fun A_want3 c_want3 w5 hO2 hg3 hk1 => ?_)
                    have gr5 := gr_mod gr4 hg3 k3.ge'
                    refine WL.y rfl (Yld.pure tab_ok rfl) ?_
                    refine WL.nil (WX.block_normal ?_)
                    exact WX.weaken (by repeat (first | exact Sub.nil | refine Sub.cons rfl ?_)) (hQ _ _ ⟨(s ++ (([32, 9, 10, 13] : List UInt8).take n.toNat)) ++ w_, want ++ ([w_] : List (List UInt8)), A_want3, c_want3, (want ++ ([w_] : List (List UInt8))).length, rfl, H, rfl, gr5, hO2⟩)
                  · replace H := H.2 (nd_false b8)
                    refine WC.skip (WX.block_normal ?_)
                    exact WX.weaken (by repeat (first | exact Sub.nil | refine Sub.cons rfl ?_)) (hQ _ _ ⟨(s ++ (([32, 9, 10, 13] : List UInt8).take n.toNat)) ++ w_, want, A_want, c_want, want.length, rfl, H, rfl, gr2, k1⟩)
              · clear hJ2
                refine WC.seq ?_
                refine WC.region ?_
                refine WL.y rfl (Yld.pure tab_ok rfl) ?_
                refine WL.y rfl (Yld.pure tab_ok rfl) ?_
                refine WL.y rfl (Yld.pure tab_ok rfl) ?_
                refine WL.y rfl (Yld.pure tab_ok rfl) ?_
                refine WL.nil (WX.then_normal ?_)
                refine WC.cond rfl (fun b9 => ?_) (fun b9 => ?_)
                · replace H := H.1 (of_decide_eq_true b9)
                  refine WC.region ?_
                  refine WL.y rfl (Yld.pure tab_ok rfl) ?_
                  refine WL.y rfl (Yld.pure tab_ok rfl) ?_
                  obtain ⟨h14, H⟩ := H
                  refine WL.y rfl (Yld.iaddrW tab_ok (hblanks.grown gr2) rfl rfl rfl rfl h14.1 h14.2) ?_
                  refine WL.y rfl (Yld.iload 0 tab_ok (hblanks.grown gr2) rfl rfl (iltN h14 rfl)) ?_
                  refine WL.call rfl rfl (W_smithyworld_Number H) ?_
                  rintro _ _ ⟨rfl, t47, rfl, H⟩
                  obtain ⟨h15, H⟩ := H
                  refine WL.y rfl (Yld.add rfl rfl h15) ?_
                  refine WL.y rfl (Yld.pure tab_ok rfl) ?_
                  refine WL.nil ?_
                  exact WX.weaken (by repeat (first | exact Sub.nil | refine Sub.cons rfl ?_)) (hQ _ _ ⟨t47 + (1 : Int), rfl, H, rfl⟩)
                · replace H := H.2 (of_decide_eq_false b9)
                  refine WC.skip ?_
                  exact WX.weaken (by repeat (first | exact Sub.nil | refine Sub.cons rfl ?_)) (hQ _ _ ⟨(1 : Int), rfl, H, rfl⟩)
          · replace H := H.2 (of_decide_eq_false b3)
            refine WC.exit (WX.then_exit (WX.then_exit (WX.block_same (WX.then_normal ?_))))
            refine WC.seq ?_
            refine WC.region ?_
            refine WL.y rfl (Yld.pure tab_ok rfl) ?_
            obtain ⟨h16, H⟩ := H
            refine WL.y rfl (Yld.sadd rfl rfl h16) ?_
            refine WL.call rfl rfl (W_str_Words H) ?_
            rintro _ w6 ⟨hg4, got, A_got, c_got, rfl, hgot, H⟩
            have hb1 := hgot.ge'
            have k4 := hgot.base (fun g hg => Nat.le_trans (size_le gr2) (hb1 g hg))
            have gr6 := gr_trans gr2 hg4
            have k5 := k1.grown hg4
            refine WL.y rfl (Yld.pure tab_ok rfl) ?_
            refine WL.nil (WX.then_normal ?_)
            refine WC.seq ?_
            refine WC.region ?_
            refine WL.y rfl (Yld.pure tab_ok rfl) ?_
            obtain ⟨h17, H⟩ := H
            refine WL.y rfl (Yld.sadd rfl rfl h17) ?_
            refine WL.call rfl rfl (W_str_Strip H) ?_
            rintro _ _ ⟨rfl, t, rfl, H⟩
            refine WL.y rfl (Yld.pure tab_ok rfl) ?_
            refine WL.nil (WX.then_normal ?_)
            refine WC.seq ?_
            refine WC.region ?_
            refine WL.y rfl (Yld.pure tab_ok rfl) ?_
            refine WL.call rfl rfl (W_str_Join (hG.grown gr6) hS7 k5.rd rfl H) ?_
            rintro _ w7 ⟨hg5, t1050, v_t1051, t1051, rfl, ht1051, H⟩
            have gr7 := gr_trans gr6 hg5
            have k6 := k5.grown hg5
            have k7 := k4.grown hg5
            refine WL.y rfl (Yld.pure tab_ok rfl) ?_
            refine WL.y rfl (Yld.pure tab_ok rfl) ?_
            refine WL.y rfl (Yld.pure tab_ok rfl) ?_
            refine WL.y rfl (Yld.pure tab_ok rfl) ?_
            refine WL.y rfl (Yld.pure tab_ok rfl) ?_
            refine WL.nil (WX.then_normal ?_)
            refine WC.seq ?_
            refine WC.region ?_
            refine WL.y rfl (Yld.pure tab_ok rfl) ?_
            refine WL.y rfl (Yld.erreql Tryd.underlying29 ht1051 rfl) ?_
            refine WL.y rfl (Yld.pure tab_ok rfl) ?_
            obtain ⟨J4, H, hJ4⟩ := H
            refine WL.midF 4 (fun L' w' => ∃ q4 : Bool, L' = [(114, .bool q4), (7, .slice A_want want.length c_want), (14, vs t), (15, vs t1050)] ∧ J4 q4 ∧ w7 = w') ?_ (fun hQ => ?_)
            · clear H
              rintro _ _ ⟨q4, rfl, H, rfl⟩
              replace H := hJ4 q4 H
              refine WL.y rfl (Yld.pure tab_ok rfl) ?_
              obtain ⟨h18, H⟩ := H
              obtain ⟨h19, H⟩ := H
              obtain ⟨h20, H⟩ := H
              obtain ⟨h21, H⟩ := H
              obtain ⟨h22, H⟩ := H
              refine WL.midF 26 (fun L' w' => ∃ q5 : Bool, L' = [(141, .bool q5), (7, .slice A_want want.length c_want), (15, vs t1050)] ∧ q5 = (q4 && ((((decide (t = ([] : List UInt8))) || ((decide ((32 : Int) < ((t.getD 0 0).toNat : Int))) && (decide ((32 : Int) < ((t.getD ((t.length : Int) - (1 : Int)).toNat 0).toNat : Int))))) || (decide ((13 : Int) < ((t.getD 0 0).toNat : Int)))) || (decide (((t.getD 0 0).toNat : Int) < (9 : Int))))) ∧ w7 = w') ?_ (fun hQ => ?_)
              · rintro _ _ ⟨q5, rfl, rfl, rfl⟩
                refine WL.y rfl (Yld.pure tab_ok rfl) ?_
                obtain ⟨J5, H, hJ5⟩ := H
                refine WL.midF 5 (fun L' w' => ∃ q6 : Bool, L' = [(147, .bool q6)] ∧ J5 q6 ∧ w.grownBy w' none) ?_ (fun hQ => ?_)
                · clear H
                  rintro _ w8 ⟨q6, rfl, H, gr8⟩
                  replace H := hJ5 q6 H
                  refine WL.y rfl (Yld.pure tab_ok rfl) ?_
                  refine WL.nil (WX.then_normal ?_)
                  refine WC.ret ?_
                  exact WX.ret1 rfl rfl ⟨gr8, q6, rfl, H⟩
                · clear hJ5
                  rcases Bool.eq_false_or_eq_true (q4 && ((((decide (t = ([] : List UInt8))) || ((decide ((32 : Int) < ((t.getD 0 0).toNat : Int))) && (decide ((32 : Int) < ((t.getD ((t.length : Int) - (1 : Int)).toNat 0).toNat : Int))))) || (decide ((13 : Int) < ((t.getD 0 0).toNat : Int)))) || (decide (((t.getD 0 0).toNat : Int) < (9 : Int))))) with b10 | b10
                  · replace H := H.1 b10
                    refine WL.gyes rfl rfl (okb b10) rfl (Yld.pure tab_ok rfl) ?_
                    refine WL.callw (wants_some rfl rfl (okb b10)) rfl rfl (W_str_Words H) ?_
                    rintro _ w9 ⟨hg6, t144, A_t144, c_t144, rfl, ht144, H⟩
                    have hb2 := ht144.ge'
                    have k8 := ht144.base (fun g hg => Nat.le_trans (size_le gr7) (hb2 g hg))
                    have gr9 := gr_trans gr7 hg6
                    have k9 := k6.grown hg6
                    refine WL.gyes rfl rfl (okb b10) rfl (Yld.pure tab_ok rfl) ?_
                    refine WL.callw (wants_some rfl rfl (okb b10)) rfl rfl (W_smithyref_SameTexts k8.rd rfl k9.rd rfl H) ?_
                    rintro _ _ ⟨rfl, t146, rfl, H⟩
                    refine WL.y rfl (Yld.pickT (okb b10) rfl) ?_
                    exact WL.weaken (by repeat (first | exact Sub.nil | refine Sub.cons rfl ?_)) (hQ _ _ ⟨t146, rfl, H, gr9⟩)
                  · replace H := H.2 b10
                    refine WL.gno rfl rfl (okb b10) rfl ?_
                    refine WL.gno rfl rfl (okb b10) rfl ?_
                    refine WL.gno rfl rfl (okb b10) rfl ?_
                    refine WL.gno rfl rfl (okb b10) rfl ?_
                    refine WL.y rfl (Yld.pickF (okb b10) rfl) ?_
                    exact WL.weaken (by repeat (first | exact Sub.nil | refine Sub.cons rfl ?_)) (hQ _ _ ⟨false, rfl, H, gr7⟩)
              · clear H
                rcases Bool.eq_false_or_eq_true (q4) with b11 | b11
                · refine WL.gyes rfl rfl (okb b11) rfl (Yld.pure tab_ok rfl) ?_
                  refine WL.gyes rfl rfl (okb b11) rfl (Yld.pure tab_ok rfl) ?_
                  refine WL.gyes rfl rfl (okb b11) rfl (Yld.pure tab_ok rfl) ?_
                  rcases Bool.eq_false_or_eq_true (decide (t = ([] : List UInt8))) with b12 | b12
                  · refine WL.gno rfl rfl (okb b12) rfl ?_
                    refine WL.gno rfl rfl (okb b12) rfl ?_
                    refine WL.gno rfl rfl (okb b12) rfl ?_
                    refine WL.gno rfl rfl (okb b12) rfl ?_
                    refine WL.gun rfl rfl rfl rfl ?_
                    refine WL.gun rfl rfl rfl rfl ?_
                    refine WL.gun rfl rfl rfl rfl ?_
                    refine WL.gun rfl rfl rfl rfl ?_
                    refine WL.gun rfl rfl rfl rfl ?_
                    refine WL.gun rfl rfl rfl rfl ?_
                    refine WL.gno rfl rfl (okb b12) rfl ?_
                    refine WL.gyes rfl rfl (okb b11) rfl (Yld.pickT (okb b12) rfl) ?_
                    refine WL.gyes rfl rfl (okb b11) rfl (Yld.pure tab_ok rfl) ?_
                    refine WL.gno rfl rfl (rfl) rfl ?_
                    refine WL.gno rfl rfl (rfl) rfl ?_
                    refine WL.gno rfl rfl (rfl) rfl ?_
                    refine WL.gyes rfl rfl (okb b11) rfl (Yld.pickT (rfl) rfl) ?_
                    refine WL.gyes rfl rfl (okb b11) rfl (Yld.pure tab_ok rfl) ?_
                    refine WL.gno rfl rfl (rfl) rfl ?_
                    refine WL.gno rfl rfl (rfl) rfl ?_
                    refine WL.gno rfl rfl (rfl) rfl ?_
                    refine WL.gyes rfl rfl (okb b11) rfl (Yld.pickT (rfl) rfl) ?_
                    refine WL.y rfl (Yld.pickT (okb b11) rfl) ?_
                    exact WL.weaken (by repeat (first | exact Sub.nil | refine Sub.cons rfl ?_)) (hQ _ _ ⟨true, rfl, by rw [b11, b12] <;> rfl, rfl⟩)
                  · refine WL.gyes rfl rfl (okb b12) rfl (Yld.pure tab_ok rfl) ?_
                    refine WL.gyes rfl rfl (okb b12) rfl (Yld.sidx tab_ok rfl rfl rfl (h18 b11 b12).1 (h18 b11 b12).2) ?_
                    refine WL.gyes rfl rfl (okb b12) rfl (Yld.pure tab_ok rfl) ?_
                    refine WL.gyes rfl rfl (okb b12) rfl (Yld.pure tab_ok rfl) ?_
                    rcases Bool.eq_false_or_eq_true (decide ((32 : Int) < ((t.getD 0 0).toNat : Int))) with b13 | b13
                    · refine WL.gyes rfl rfl (okb b13) rfl (Yld.pure tab_ok rfl) ?_
                      refine WL.gyes rfl rfl (okb b13) rfl (Yld.pure tab_ok rfl) ?_
                      refine WL.gyes rfl rfl (okb b13) rfl (Yld.pure tab_ok rfl) ?_
                      refine WL.gyes rfl rfl (okb b13) rfl (Yld.sub rfl rfl (h19 b11 b12 b13)) ?_
                      refine WL.gyes rfl rfl (okb b13) rfl (Yld.sidx tab_ok rfl rfl rfl (h20 b11 b12 b13).1 (h20 b11 b12 b13).2) ?_
                      refine WL.gyes rfl rfl (okb b13) rfl (Yld.pure tab_ok rfl) ?_
                      refine WL.gyes rfl rfl (okb b12) rfl (Yld.pickT (okb b13) rfl) ?_
                      refine WL.gyes rfl rfl (okb b11) rfl (Yld.pickF (okb b12) rfl) ?_
                      refine WL.gyes rfl rfl (okb b11) rfl (Yld.pure tab_ok rfl) ?_
                      rcases Bool.eq_false_or_eq_true (decide ((32 : Int) < ((t.getD ((t.length : Int) - (1 : Int)).toNat 0).toNat : Int))) with b14 | b14
                      · refine WL.gno rfl rfl (okb b14) rfl ?_
                        refine WL.gno rfl rfl (okb b14) rfl ?_
                        refine WL.gno rfl rfl (okb b14) rfl ?_
                        refine WL.gyes rfl rfl (okb b11) rfl (Yld.pickT (okb b14) rfl) ?_
                        refine WL.gyes rfl rfl (okb b11) rfl (Yld.pure tab_ok rfl) ?_
                        refine WL.gno rfl rfl (rfl) rfl ?_
                        refine WL.gno rfl rfl (rfl) rfl ?_
                        refine WL.gno rfl rfl (rfl) rfl ?_
                        refine WL.gyes rfl rfl (okb b11) rfl (Yld.pickT (rfl) rfl) ?_
                        refine WL.y rfl (Yld.pickT (okb b11) rfl) ?_
                        exact WL.weaken (by repeat (first | exact Sub.nil | refine Sub.cons rfl ?_)) (hQ _ _ ⟨true, rfl, by rw [b11, b12, b13, b14] <;> rfl, rfl⟩)
                      · refine WL.gyes rfl rfl (okb b14) rfl (Yld.pure tab_ok rfl) ?_
                        refine WL.gyes rfl rfl (okb b14) rfl (Yld.sidx tab_ok rfl rfl rfl (h21 b11 (by rw [b12, b13, b14] <;> rfl)).1 (h21 b11 (by rw [b12, b13, b14] <;> rfl)).2) ?_
                        refine WL.gyes rfl rfl (okb b14) rfl (Yld.pure tab_ok rfl) ?_
                        refine WL.gyes rfl rfl (okb b11) rfl (Yld.pickF (okb b14) rfl) ?_
                        refine WL.gyes rfl rfl (okb b11) rfl (Yld.pure tab_ok rfl) ?_
                        rcases Bool.eq_false_or_eq_true (decide ((13 : Int) < ((t.getD 0 0).toNat : Int))) with b15 | b15
                        · refine WL.gno rfl rfl (okb b15) rfl ?_
                          refine WL.gno rfl rfl (okb b15) rfl ?_
                          refine WL.gno rfl rfl (okb b15) rfl ?_
                          refine WL.gyes rfl rfl (okb b11) rfl (Yld.pickT (okb b15) rfl) ?_
                          refine WL.y rfl (Yld.pickT (okb b11) rfl) ?_
                          exact WL.weaken (by repeat (first | exact Sub.nil | refine Sub.cons rfl ?_)) (hQ _ _ ⟨true, rfl, by rw [b11, b12, b13, b14, b15] <;> rfl, rfl⟩)
                        · refine WL.gyes rfl rfl (okb b15) rfl (Yld.pure tab_ok rfl) ?_
                          refine WL.gyes rfl rfl (okb b15) rfl (Yld.sidx tab_ok rfl rfl rfl (h22 b11 (by rw [b12, b13, b14, b15] <;> rfl)).1 (h22 b11 (by rw [b12, b13, b14, b15] <;> rfl)).2) ?_
                          refine WL.gyes rfl rfl (okb b15) rfl (Yld.pure tab_ok rfl) ?_
                          refine WL.gyes rfl rfl (okb b11) rfl (Yld.pickF (okb b15) rfl) ?_
                          refine WL.y rfl (Yld.pickT (okb b11) rfl) ?_
                          exact WL.weaken (by repeat (first | exact Sub.nil | refine Sub.cons rfl ?_)) (hQ _ _ ⟨decide (((t.getD 0 0).toNat : Int) < (9 : Int)), rfl, by rw [b11, b12, b13, b14, b15] <;> rfl, rfl⟩)
                    · refine WL.gno rfl rfl (okb b13) rfl ?_
                      refine WL.gno rfl rfl (okb b13) rfl ?_
                      refine WL.gno rfl rfl (okb b13) rfl ?_
                      refine WL.gno rfl rfl (okb b13) rfl ?_
                      refine WL.gno rfl rfl (okb b13) rfl ?_
                      refine WL.gno rfl rfl (okb b13) rfl ?_
                      refine WL.gyes rfl rfl (okb b12) rfl (Yld.pickF (okb b13) rfl) ?_
                      refine WL.gyes rfl rfl (okb b11) rfl (Yld.pickF (okb b12) rfl) ?_
                      refine WL.gyes rfl rfl (okb b11) rfl (Yld.pure tab_ok rfl) ?_
                      refine WL.gyes rfl rfl (rfl) rfl (Yld.pure tab_ok rfl) ?_
                      refine WL.gyes rfl rfl (rfl) rfl (Yld.sidx tab_ok rfl rfl rfl (h21 b11 (by rw [b12, b13] <;> rfl)).1 (h21 b11 (by rw [b12, b13] <;> rfl)).2) ?_
                      refine WL.gyes rfl rfl (rfl) rfl (Yld.pure tab_ok rfl) ?_
                      refine WL.gyes rfl rfl (okb b11) rfl (Yld.pickF (rfl) rfl) ?_
                      refine WL.gyes rfl rfl (okb b11) rfl (Yld.pure tab_ok rfl) ?_
                      rcases Bool.eq_false_or_eq_true (decide ((13 : Int) < ((t.getD 0 0).toNat : Int))) with b16 | b16
                      · refine WL.gno rfl rfl (okb b16) rfl ?_
                        refine WL.gno rfl rfl (okb b16) rfl ?_
                        refine WL.gno rfl rfl (okb b16) rfl ?_
                        refine WL.gyes rfl rfl (okb b11) rfl (Yld.pickT (okb b16) rfl) ?_
                        refine WL.y rfl (Yld.pickT (okb b11) rfl) ?_
                        exact WL.weaken (by repeat (first | exact Sub.nil | refine Sub.cons rfl ?_)) (hQ _ _ ⟨true, rfl, by rw [b11, b12, b13, b16] <;> rfl, rfl⟩)
                      · refine WL.gyes rfl rfl (okb b16) rfl (Yld.pure tab_ok rfl) ?_
                        refine WL.gyes rfl rfl (okb b16) rfl (Yld.sidx tab_ok rfl rfl rfl (h22 b11 (by rw [b12, b13, b16] <;> rfl)).1 (h22 b11 (by rw [b12, b13, b16] <;> rfl)).2) ?_
                        refine WL.gyes rfl rfl (okb b16) rfl (Yld.pure tab_ok rfl) ?_
                        refine WL.gyes rfl rfl (okb b11) rfl (Yld.pickF (okb b16) rfl) ?_
                        refine WL.y rfl (Yld.pickT (okb b11) rfl) ?_
                        exact WL.weaken (by repeat (first | exact Sub.nil | refine Sub.cons rfl ?_)) (hQ _ _ ⟨decide (((t.getD 0 0).toNat : Int) < (9 : Int)), rfl, by rw [b11, b12, b13, b16] <;> rfl, rfl⟩)
                · refine WL.gno rfl rfl (okb b11) rfl ?_
                  refine WL.gno rfl rfl (okb b11) rfl ?_
                  refine WL.gno rfl rfl (okb b11) rfl ?_
                  refine WL.gun rfl rfl rfl rfl ?_
                  refine WL.gun rfl rfl rfl rfl ?_
                  refine WL.gun rfl rfl rfl rfl ?_
                  refine WL.gun rfl rfl rfl rfl ?_
                  refine WL.gun rfl rfl rfl rfl ?_
                  refine WL.gun rfl rfl rfl rfl ?_
                  refine WL.gun rfl rfl rfl rfl ?_
                  refine WL.gun rfl rfl rfl rfl ?_
                  refine WL.gun rfl rfl rfl rfl ?_
                  refine WL.gun rfl rfl rfl rfl ?_
                  refine WL.gun rfl rfl rfl rfl ?_
                  refine WL.gno rfl rfl (okb b11) rfl ?_
                  refine WL.gno rfl rfl (okb b11) rfl ?_
                  refine WL.gun rfl rfl rfl rfl ?_
                  refine WL.gun rfl rfl rfl rfl ?_
                  refine WL.gun rfl rfl rfl rfl ?_
                  refine WL.gno rfl rfl (okb b11) rfl ?_
                  refine WL.gno rfl rfl (okb b11) rfl ?_
                  refine WL.gun rfl rfl rfl rfl ?_
                  refine WL.gun rfl rfl rfl rfl ?_
                  refine WL.gun rfl rfl rfl rfl ?_
                  refine WL.gno rfl rfl (okb b11) rfl ?_
                  refine WL.y rfl (Yld.pickF (okb b11) rfl) ?_
                  exact WL.weaken (by repeat (first | exact Sub.nil | refine Sub.cons rfl ?_)) (hQ _ _ ⟨false, rfl, by rw [b11] <;> rfl, rfl⟩)
            · clear hJ4
              rcases Bool.eq_false_or_eq_true (decide (t1051 = Er.ok)) with b17 | b17
              · replace H := H.1 b17
                refine WL.gyes rfl rfl (okb b17) rfl (Yld.pure tab_ok rfl) ?_
                refine WL.gyes rfl rfl (okb b17) rfl (Yld.pure tab_ok rfl) ?_
                refine WL.callw (wants_some rfl rfl (okb b17)) rfl rfl (W_smithyref_SameTexts k7.rd rfl k6.rd rfl H) ?_
                rintro _ _ ⟨rfl, t113, rfl, H⟩
                refine WL.y rfl (Yld.pickT (okb b17) rfl) ?_
                exact WL.weaken (by repeat (first | exact Sub.nil | refine Sub.cons rfl ?_)) (hQ _ _ ⟨t113, rfl, H, rfl⟩)
              · replace H := H.2 b17
                refine WL.gno rfl rfl (okb b17) rfl ?_
                refine WL.gno rfl rfl (okb b17) rfl ?_
                refine WL.gno rfl rfl (okb b17) rfl ?_
                refine WL.y rfl (Yld.pickF (okb b17) rfl) ?_
                exact WL.weaken (by repeat (first | exact Sub.nil | refine Sub.cons rfl ?_)) (hQ _ _ ⟨false, rfl, H, rfl⟩)
      · clear H
        rcases Bool.eq_false_or_eq_true ((!t21) || (decide ((30 : Int) < (blanks.length : Int)))) with b18 | b18
        · refine WL.gno rfl rfl (okb b18) rfl ?_
          refine WL.gno rfl rfl (okb b18) rfl ?_
          refine WL.y rfl (Yld.pickT (okb b18) rfl) ?_
          exact WL.weaken (by repeat (first | exact Sub.nil | refine Sub.cons rfl ?_)) (hQ _ _ ⟨true, rfl, by rw [b18] <;> rfl, rfl⟩)
        · refine WL.gyes rfl rfl (okb b18) rfl (Yld.pure tab_ok rfl) ?_
          refine WL.gyes rfl rfl (okb b18) rfl (Yld.pure tab_ok rfl) ?_
          refine WL.y rfl (Yld.pickF (okb b18) rfl) ?_
          exact WL.weaken (by repeat (first | exact Sub.nil | refine Sub.cons rfl ?_)) (hQ _ _ ⟨!ok, rfl, by rw [b18] <;> rfl, rfl⟩)
    · clear H
      rcases Bool.eq_false_or_eq_true (!t21) with b19 | b19
      · refine WL.gno rfl rfl (okb b19) rfl ?_
        refine WL.gno rfl rfl (okb b19) rfl ?_
        refine WL.gno rfl rfl (okb b19) rfl ?_
        refine WL.y rfl (Yld.pickT (okb b19) rfl) ?_
        exact WL.weaken (by repeat (first | exact Sub.nil | refine Sub.cons rfl ?_)) (hQ _ _ ⟨true, rfl, by rw [b19] <;> rfl, rfl⟩)
      · refine WL.gyes rfl rfl (okb b19) rfl (Yld.pure tab_ok rfl) ?_
        refine WL.gyes rfl rfl (okb b19) rfl (Yld.pure tab_ok rfl) ?_
        refine WL.gyes rfl rfl (okb b19) rfl (Yld.pure tab_ok rfl) ?_
        refine WL.y rfl (Yld.pickF (okb b19) rfl) ?_
        exact WL.weaken (by repeat (first | exact Sub.nil | refine Sub.cons rfl ?_)) (hQ _ _ ⟨decide ((30 : Int) < (blanks.length : Int)), rfl, by rw [b19] <;> rfl, rfl⟩)

end Go.Proofs.YtjinkmipkfjblaaDoor

 /- smithysee.Is, plainly. -/
namespace Go.Proofs.YtjinkmipkfjblaaDoor
open Go Go.RowKit
end Go.Proofs.YtjinkmipkfjblaaDoor


 /- The chapter's pieces, plainly: splitting, replacing, counting. -/
namespace Go.Proofs.YtjinkmipkfjblaaDoor
open Go Go.RowKit
theorem getD_memB {l : List (List UInt8)} {k : Nat} (h : k < l.length) : l.getD k [] ∈ l := by
  simp [List.getD, h]
theorem cnt_le {a : List UInt8} (ha : a ≠ []) (s : List UInt8) : Lib.count s a * a.length ≤ s.length := by
  generalize hk : Lib.count s a = k
  induction k generalizing s with
  | zero => omega
  | succ k ih =>
    obtain ⟨i, hi⟩ := Lib.index_of_count (s := s) (old := a) (by omega)
    have h1 := Lib.count_hit ha hi
    have h2 := Lib.index_room s a (by omega)
    have h3 := ih (s.drop (i + a.length)) (by omega)
    rw [List.length_drop] at h3
    rw [Nat.add_mul]
    omega
theorem join_two (x o : List UInt8) (l : List (List UInt8)) (hl : l ≠ []) : Lib.join (x :: l) o = x ++ o ++ Lib.join l o := by
  cases l with
  | nil => exact absurd rfl hl
  | cons y l => simp [Lib.join_cons, Lib.joinTail]
theorem join_take {l : List (List UInt8)} {o : List UInt8} {i : Nat} (h : i < l.length) : Lib.join (l.take (i + 1)) o = Lib.join (l.take i) o ++ (if i = 0 then [] else o) ++ l.getD i [] := by
  cases l with
  | nil => simp at h
  | cons x l =>
    cases i with
    | zero => simp [Lib.join_one, Lib.join_nil]
    | succ i =>
      rw [List.take_succ_cons, List.take_succ_cons, Lib.join_cons, Lib.join_cons, Lib.joinTail_take_succ o l i (l.getD i []) (by have h' : i < l.length := (by simpa using h); simp [List.getD, h'])]
      simp
theorem join_le {l : List (List UInt8)} {o : List UInt8} : ∀ {i j : Nat}, i ≤ j → j ≤ l.length → (Lib.join (l.take i) o).length ≤ (Lib.join (l.take j) o).length := by
  intro i j hij hj
  induction j with
  | zero => rw [show i = 0 by omega]; exact Nat.le_refl _
  | succ j ih =>
    by_cases e : i = j + 1
    · rw [e]; exact Nat.le_refl _
    · have := ih (by omega) (by omega)
      rw [join_take (by omega)]
      simp only [List.length_append]
      omega
end Go.Proofs.YtjinkmipkfjblaaDoor


 /- The chapter's splitting, joining, replacing and repeating, plainly: the program's and the reference's. -/
namespace Go.Proofs.YtjinkmipkfjblaaDoor
open Go Go.RowKit
theorem drop_isB {s : List UInt8} {i : Nat} (h : i < s.length) : s.drop i = s.getD i 0 :: s.drop (i + 1) := by
  rw [List.drop_eq_getElem_cons h]; simp [List.getD, h]
theorem piece_moreB {s : List UInt8} {f i : Nat} (hf : f ≤ i) (h : i < s.length) : (s.drop f).take (i + 1 - f) = (s.drop f).take (i - f) ++ [s.getD i 0] := by
  exact Lib.piece_more hf (by simp [List.getD, h])
/-- how many are taken -/
def numP (most : Int) (c : Nat) : Nat := if most < 0 then c else min most.toNat c
theorem num_M {most : Int} {c : Nat} {J : Int → Prop} (h : J (numP most c : Nat)) : ((0 : Int) ≤ most → J (if most < (c : Int) then most else (c : Int))) ∧ (¬ ((0 : Int) ≤ most) → J (c : Int)) := by
  unfold numP at h
  refine ⟨fun e => ?_, fun e => ?_⟩
  · rw [if_neg (by omega)] at h
    refine (congrArg J ?_).mp h
    split <;> omega
  · rw [if_pos (by omega)] at h; exact h
theorem numP_le (most : Int) (c : Nat) : numP most c ≤ c := by unfold numP; split <;> omega
def splP (s a : List UInt8) (most : Int) : List (List UInt8) × Er := if a = [] then ([], .e 3) else if 1024 ≤ numP most (Lib.count s a) then ([], .e 7) else (Lib.splitK a 0 (numP most (Lib.count s a)) s, .ok)
theorem split_M {s a : List UInt8} {most : Int} {K : List (List UInt8) → Er → Prop} (hs : s.length ≤ 1000000) (h : K (splP s a most).1 (splP s a most).2) : M_str_Split s a most K := by
  unfold splP at h
  refine ⟨fun e => by rw [if_pos e] at h; exact h, fun e => ⟨by omega, List.length_pos_iff.2 e, ?_⟩⟩
  rw [if_neg e] at h
  change ∃ J1 : Int → Prop, _
  have hc : Lib.countB ⟨⟨s⟩⟩ ⟨⟨a⟩⟩ = Lib.count s a := rfl
  have hle := cnt_le e s
  have hpos := List.length_pos_iff.2 e
  have hle2 := Nat.le_mul_of_pos_right (Lib.count s a) hpos
  have hn := numP_le most (Lib.count s a)
  refine ⟨fun x => x = (numP most (Lib.count s a) : Nat), num_M (J := fun x => x = (numP most (Lib.count s a) : Nat)) rfl, ?_⟩
  rintro _ rfl
  refine ⟨fun e2 => by rw [if_pos (by omega)] at h; exact h, fun e2 => ?_⟩
  rw [if_neg (by omega)] at h
  refine ⟨by simp only [In]; omega, by omega, hpos, by omega, by omega, ?_⟩
  rw [show splitN a s ((numP most (Lib.count s a) : Int) + 1).toNat = Lib.splitK a 0 (numP most (Lib.count s a)) s by
    unfold splitN
    rw [show min ((numP most (Lib.count s a) : Int) + 1).toNat (s.length + 1) - 1 = numP most (Lib.count s a) by omega]]
  exact h
def joinP (o : List UInt8) (l : List (List UInt8)) : List UInt8 × Er := if 1024 < (Lib.join l o).length then ([], .e 7) else (Lib.join l o, .ok)
theorem join_M {o : List UInt8} {l : List (List UInt8)} {K : List UInt8 → Er → Prop} (hl : l.length ≤ 1000000) (ho : o.length ≤ 1000000) (hx : ∀ x ∈ l, x.length ≤ 1000000) (h : K (joinP o l).1 (joinP o l).2) : M_str_Join o l K := by
  unfold joinP at h
  intro _
  refine ⟨fun n i => 0 ≤ i ∧ i ≤ l.length ∧ n = ((Lib.join (l.take i.toNat) o).length : Nat) ∧ n ≤ 1024, fun _ i => l.length - i.toNat, ⟨by omega, by omega, by simp [Lib.join_nil], by omega⟩, fun n i ⟨a0, a1, a2, a3⟩ => ⟨fun hlt => ?_, fun hge => ?_⟩⟩
  · have hj := congrArg List.length (join_take (l := l) (o := o) (i := i.toNat) (by omega))
    have hxi := hx _ (getD_memB (l := l) (k := i.toNat) (by omega))
    simp only [List.length_append] at hj
    refine ⟨by omega, fun n2 => n2 = n + (if i.toNat = 0 then ([] : List UInt8) else o).length, ⟨fun e => ⟨by simp only [In]; omega, by rw [if_neg (by omega)]⟩, fun e => by rw [if_pos (by omega)]; simp⟩, ?_⟩
    rintro _ rfl
    have ho2 : (if i.toNat = 0 then ([] : List UInt8) else o).length ≤ 1000000 := by split <;> simp [ho]
    refine ⟨by simp only [In]; omega, fun e => ?_, fun e => ⟨by simp only [In]; omega, ⟨by omega, by omega, ?_, by omega⟩, by dsimp only; omega⟩⟩
    · have := join_le (l := l) (o := o) (i := i.toNat + 1) (j := l.length) (by omega) (Nat.le_refl _)
      rw [List.take_length] at this
      rw [if_pos (by omega)] at h; exact h
    · rw [show (i + 1).toNat = i.toNat + 1 by omega]; omega
  · rw [show i.toNat = l.length by omega, List.take_length] at a2
    rw [if_neg (by omega)] at h
    exact ⟨by omega, by omega, h⟩
end Go.Proofs.YtjinkmipkfjblaaDoor


 