/- Texts of this claim, joined by a program: Ord, GPl, PathD, PathE, PathF, See, PathG, Srt, PathH, SrtG, GrA, GrB, GrC, GrO, GrP, GrQ, GrT, PlP, GrR, GrS, GrU, Lin, ToolP, ToolQ, ToolR, KeyD, PlM, GPq, PlG, SrtK, Shelf2, SrtF, GPo, PlO. -/
import Derived.Test.YtjhipfdbionpoaaGreatDoorJ4
import Derived.Lib.SlicesCompact
import Derived.Sort.Walk0
import Derived.Lib.Bytealg
import Derived.Shelf.SlSortCmp.Insertion
import Derived.Lib.SplitLaws
import Derived.Lib.Strings
import Derived.Lib.Replace
import Derived.Lib.CountLaws
import Derived.Lib.IndexMore
import Derived.Lib.ItoaLen
import Derived.Sort.OwnSorted
import Derived.Shelf.SlSortCmp.NoneTotal
import Derived.Ground.SlsfProg
import Derived.Test.YtjhipfdbionpoaaGreatDoorProg
import Derived.Shelf.GgSortFunc.RowK
import Derived.RegionTactic
/- Regions some of whose operations may come in several orders: the floats once, the others order by order, what stands behind once. -/
namespace Go.Proofs.YtjhipfdbionpoaaGreatDoor
open Go Go.RowKit
section
variable {P : Program} {N : Nat} {ops : Array Oper} {fl : Nat → Bool} {D : World → Prop} {n g : Nat} {K : Act → World → Prop} {Q : Post} {L : Slots} {w : World} {f : Nat} {listed : Array Bool} {d : Nat} {op : Op} {ty : TypeId} {pos : String} {af : Array Edge} {gd : Option (Nat × Bool)}
structure HeadOk (ops : Array Oper) (n : Nat) : Prop where
  sel : Region.noSelect ops = true
  sink : Region.sinkB .any ops n = true
  chain : Region.chainB .any ops n = true
  lt : n < ops.size
def WA (P : Program) (N : Nat) (ops : Array Oper) (fl : Nat → Bool) (D : World → Prop) (n g : Nat) (K : Act → World → Prop) (f : Nat) (listed : Array Bool) (L : Slots) (w : World) : Prop :=
  HeadOk ops n → HeadInv .any ops n listed → ∀ a w1, Eqv w w1 → D w1 → Has N L a → anyT P .any ops fl D n (fun l' a' w' => Region.seqB .any ops g n l' = true ∧ K a' w') f listed a w1
def WI (P : Program) (N : Nat) (ops : Array Oper) (fl : Nat → Bool) (D : World → Prop) (n g : Nat) (K : Act → World → Prop) (f : Nat) (listed : Array Bool) (L : Slots) (w : World) (i : Nat) : Prop :=
  HeadOk ops n → HeadInv .any ops n (listed.setIfInBounds i true) → ∀ a w1, Eqv w w1 → D w1 → Has N L a → ∃ o, ops[i]? = some o ∧ fl i = false ∧ sRun P ops D o a w1 fun a' w' => anyT P .any ops fl D n (fun l' a' w' => Region.seqB .any ops g n l' = true ∧ K a' w') f (listed.setIfInBounds i true) a' w'
theorem WA.y {v : Value} (k : Nat) (ho : ops[k]? = some ⟨some d, op, ty, pos, af, none⟩) (hf : (fl k && ((Region.ready .any ops listed).contains k && (Region.free .any ops listed k && Nat.blt k n))) = true) (hd : Nat.blt d N = true) (hy : ∀ w', D w' → Yld P N w' ⟨some d, op, ty, pos, af, none⟩ L v)
    (h : WA P N ops fl D n g K f (listed.setIfInBounds k true) ((d, v) :: L) w) : WA P N ops fl D n g K (f + 1) listed L w := fun ok inv a w1 e hw ha => by
  simp only [Bool.and_eq_true] at hf
  obtain ⟨hfl, hr, hfr, hkn⟩ := hf
  have hr' : k ∈ Region.ready .any ops listed := by simpa using hr
  have hkn' : k < n := by simpa [Nat.blt_eq] using hkn
  exact float_firstT ho hfl (Region.noSelect_spec ok.sel) ok.sink ok.chain ok.lt hkn' (fun _ _ _ hL => seqB_ready hL.1) f listed a w1 hw inv (Region.free_spec ho hfr) hr'
    (.inl ⟨by simp [Region.wanted], fun w' hw' => hy w' hw' a w' (Eqv.refl _) ha⟩) (h ok (inv.set hr' hkn') _ _ e hw (ha.put hd v))
def AllL {α : Type} (p : α → Prop) : List α → Prop
  | [] => True
  | [x] => p x
  | x :: y :: l => p x ∧ AllL p (y :: l)
theorem AllL.mem {α : Type} {p : α → Prop} : ∀ {l : List α}, AllL p l → ∀ x ∈ l, p x
  | [], _, x, h => by simp at h
  | [y], h, x, hx => by simp at hx; subst hx; exact h
  | y :: z :: l, h, x, hx => by
    rcases List.mem_cons.1 hx with rfl | hx
    · exact h.1
    · exact AllL.mem h.2 x hx
theorem WA.split (is : List Nat) (hr : Region.ready .any ops listed = is) (hc : (!is.isEmpty && is.all fun i => Nat.blt i n) = true) (h : AllL (WI P N ops fl D n g K f listed L w) is) : WA P N ops fl D n g K (f + 1) listed L w := fun ok inv a w1 e hw ha => by
  simp only [Bool.and_eq_true] at hc
  refine ⟨fun h0 => ?_, fun i hi => ?_⟩
  · rw [hr] at h0; subst h0; simp at hc
  · have hi' := hi
    rw [hr] at hi'
    have hin : i < n := by have := List.all_eq_true.1 hc.2 i hi'; simpa [Nat.blt_eq] using this
    obtain ⟨o, ho, hfl, hs⟩ := h.mem i hi' ok (inv.set hi hin) a w1 e hw ha
    exact ⟨hin, o, ho, .inr ⟨hfl, hs⟩⟩
theorem WI.put {i : Nat} {R : Value → World → Prop} (ho : ops[i]? = some ⟨some d, op, ty, pos, af, none⟩) (hf : fl i = false) (hd : Nat.blt d N = true) (hr : Eff P N w ⟨some d, op, ty, pos, af, none⟩ L R) (hD : ∀ v w', R v w' → D w')
    (hk : ∀ v w', R v w' → WA P N ops fl D n g K f (listed.setIfInBounds i true) ((d, v) :: L) w') : WI P N ops fl D n g K f listed L w i := fun ok inv a w1 e hw ha => by
  refine ⟨_, ho, hf, ?_⟩
  unfold sRun
  rw [if_pos (by simp [Region.wanted])]
  obtain ⟨v, w', h, hR⟩ := hr a w1 e ha
  rw [h]
  exact ⟨hD v w' hR, hk v w' hR ok inv _ w' (Eqv.refl _) (hD v w' hR) (ha.put hd v)⟩
theorem WI.eff {i : Nat} {R : World → Prop} (ho : ops[i]? = some ⟨none, op, ty, pos, af, none⟩) (hf : fl i = false) (hr : Ef0 P N w ⟨none, op, ty, pos, af, none⟩ L R) (hD : ∀ w', R w' → D w')
    (hk : ∀ w', R w' → WA P N ops fl D n g K f (listed.setIfInBounds i true) L w') : WI P N ops fl D n g K f listed L w i := fun ok inv a w1 e hw ha => by
  refine ⟨_, ho, hf, ?_⟩
  unfold sRun
  rw [if_pos (by simp [Region.wanted])]
  obtain ⟨w', h, hR⟩ := hr a w1 e ha
  rw [h]
  exact ⟨hD w' hR, hk w' hR ok inv _ w' (Eqv.refl _) (hD w' hR) ha⟩
theorem WI.call {i : Nat} {R : Value → World → Prop} {fn : FuncId} {as_ : List Operand} {ts : Array TypeId} {vs : List Value} (ho : ops[i]? = some ⟨some d, .call ⟨.value (.func fn), ⟨as_⟩, ts⟩, ty, pos, af, gd⟩) (hf : fl i = false) (hg : Wants N ops L gd) (hd : Nat.blt d N = true) (hv : opvs L as_ = some vs) (hc : Fn P fn ⟨vs⟩ w R) (hD : ∀ v w', R v w' → ∀ w2, Eqv w' w2 → D w2)
    (hk : ∀ v w', R v w' → WA P N ops fl D n g K f (listed.setIfInBounds i true) ((d, v) :: L) w') : WI P N ops fl D n g K f listed L w i := fun ok inv a w1 e hw ha => by
  refine ⟨_, ho, hf, ?_⟩
  unfold sRun
  rw [if_pos (Wants.wanted (o := ⟨some d, .call ⟨.value (.func fn), ⟨as_⟩, ts⟩, ty, pos, af, gd⟩) hg ha), run_enter ha hv hc.1]
  refine (hc.2 w1 e).mono ?_
  rintro en w' ⟨v, w0, rfl, h0, hR⟩
  exact ⟨v, rfl, hD v w0 hR w' h0, hk v w0 hR ok inv _ w' h0 (hD v w0 hR w' h0) (ha.put hd v)⟩
end
end Go.Proofs.YtjhipfdbionpoaaGreatDoor


 /- Printed by a program (wip/vg): what the functions mean, plainly, and their walks. -/
namespace Go.Proofs.YtjhipfdbionpoaaGreatDoor
open Go Go.RowKit
attribute [local irreducible] WL WC WX WQ WK WJ Yld Eff Ef0 Fn
def M_plan_fate (g_l : List (Int × List (List UInt8) × List (List UInt8) × List UInt8)) (g_makers : List (List UInt8 × Int)) (g_before : List (List Int)) (g_after : List (List Int)) (i : Int) (known : List (Int × List UInt8 × List UInt8)) (texts : List (List UInt8 × List UInt8)) (K : Int → (List UInt8) → (List UInt8) → Prop) : Prop :=
 (g_l.length ≤ maxLen →
 (g_before.length ≤ maxLen →
 (g_after.length ≤ maxLen →
 (known.length ≤ maxLen →
 M_pgraph_Graph_Before g_l g_makers g_before g_after i (fun (t23 : List Int) =>
 Lp4 (fun (t25 : Int) (t80 : Int) (t81 : List UInt8) (t82 : List UInt8) kont1 => ((t25 < (t23.length : Int) → (0 ≤ t25 ∧ t25 < (t23.length : Nat)) ∧
 (0 ≤ t23.getD t25.toNat 0 ∧ t23.getD t25.toNat 0 < (known.length : Nat)) ∧
 ((¬ (((known.getD ((t23.getD t25.toNat 0).toNat) (0, [], [])).1) = (1 : Int)) → K (3 : Int) ([] : List UInt8) (List.replicate 32 0 : List UInt8)) ∧
 (((known.getD ((t23.getD t25.toNat 0).toNat) (0, [], [])).1) = (1 : Int) → (In .i64 (t25 + (1 : Int))) ∧
 kont1 (t25 + (1 : Int)) t80 t81 t82))) ∧
 (¬ (t25 < (t23.length : Int)) → M_pgraph_Graph_Action g_l g_makers g_before g_after i (fun (t400_Tool : Int) (t400_Args : List (List UInt8)) (t400_Inputs : List (List UInt8)) (t400_Output : List UInt8) (t401 : Bool) =>
 Lp6 (fun (inputs : List (List UInt8)) (sums : List (List UInt8)) (t46 : Int) (t802 : Int) (t812 : List UInt8) (t822 : List UInt8) kont2 => ((t46 < (t400_Inputs.length : Int) → (0 ≤ t46 ∧ t46 < (t400_Inputs.length : Nat)) ∧
 ((t400_Inputs.getD t46.toNat []).length ≤ maxLen) ∧
 (((!((mget texts (t400_Inputs.getD t46.toNat [])).isSome)) = true → K (2 : Int) ([] : List UInt8) (List.replicate 32 0 : List UInt8)) ∧
 ((!((mget texts (t400_Inputs.getD t46.toNat [])).isSome)) = false → ((inputs.length + (([(mget texts (t400_Inputs.getD t46.toNat [])).getD []] : List (List UInt8))).length) * 16 ≤ 140737488355328) ∧
 M_key_Source ((mget texts (t400_Inputs.getD t46.toNat [])).getD []) (fun (t65 : List UInt8) =>
 ((sums.length + (([t65] : List (List UInt8))).length) * 32 ≤ 140737488355328) ∧
 (In .i64 (t46 + (1 : Int))) ∧
 kont2 (inputs ++ ([(mget texts (t400_Inputs.getD t46.toNat [])).getD []] : List (List UInt8))) (sums ++ ([t65] : List (List UInt8))) (t46 + (1 : Int)) t802 t812 t822)))) ∧
 (¬ (t46 < (t400_Inputs.length : Int)) → M_key_Of t400_Tool t400_Args sums (fun (t74 : List UInt8) =>
 ∃ J1 : Int → (List UInt8) → Prop, (M_tool_Do t400_Tool t400_Args inputs (fun (t820 : List UInt8) (t821 : Er) =>
 ((¬ (t821 = Er.ok) → J1 (2 : Int) t820) ∧
 (t821 = Er.ok → J1 (1 : Int) t820)))) ∧
 (∀ f0 : Int, ∀ f1 : List UInt8, J1 f0 f1 → K f0 f1 t74))))) [] [] (0 : Int) t80 t81 t82)))) (0 : Int) (0 : Int) ([] : List UInt8) (List.replicate 32 0 : List UInt8))))))

def M_plan_Fates (g_l : List (Int × List (List UInt8) × List (List UInt8) × List UInt8)) (g_makers : List (List UInt8 × Int)) (g_before : List (List Int)) (g_after : List (List Int)) (files : List (List UInt8 × List UInt8)) (K : (List (Int × List UInt8 × List UInt8)) → Prop) : Prop :=
 (g_l.length ≤ maxLen →
 (g_before.length ≤ maxLen →
 (g_after.length ≤ maxLen →
 (files.length ≤ maxLen →
 Lp2 (fun (t16 : Int) (texts : List (List UInt8 × List UInt8)) kont1 => ((t16 < (files.length : Int) → ∃ J1 : (List (List UInt8 × List UInt8)) → Prop, ((0 ≤ t16 ∧ t16 < (files.length : Nat)) ∧
 M_pgraph_Graph_Maker g_l g_makers g_before g_after ((files.getD t16.toNat ([], [])).1) (fun (t23 : Int) =>
 ((t23 < (0 : Int) → (((files.getD t16.toNat ([], [])).1).length ≤ maxLen ∧ texts.length < maxLen) ∧
 J1 (mput texts ((files.getD t16.toNat ([], [])).1) ((files.getD t16.toNat ([], [])).2))) ∧
 (¬ (t23 < (0 : Int)) → J1 texts)))) ∧
 (∀ m : List (List UInt8 × List UInt8), J1 m → (In .i64 (t16 + (1 : Int))) ∧
 kont1 (t16 + (1 : Int)) m)) ∧
 (¬ (t16 < (files.length : Int)) → M_pgraph_Graph_Len g_l g_makers g_before g_after (fun (t32 : Int) =>
 (0 ≤ t32 ∧ t32 * 56 ≤ 140737488355328 ∧ t32 ≤ 140737488355328) ∧
 M_pgraph_Graph_Order g_l g_makers g_before g_after (fun (t35 : List Int) =>
 Lp3 (fun (t37 : Int) (texts2 : List (List UInt8 × List UInt8)) (out : List (Int × List UInt8 × List UInt8)) kont2 => t32.toNat = out.length → ((t37 < (t35.length : Int) → ∃ J2 : (List (List UInt8 × List UInt8)) → (List (Int × List UInt8 × List UInt8)) → Prop, ((0 ≤ t37 ∧ t37 < (t35.length : Nat)) ∧
 M_plan_fate g_l g_makers g_before g_after (t35.getD t37.toNat 0) out texts2 (fun (t47_State : Int) (t47_Out : List UInt8) (t47_Key : List UInt8) =>
 (0 ≤ t35.getD t37.toNat 0 ∧ t35.getD t37.toNat 0 < (t32.toNat : Nat)) ∧
 (0 ≤ t35.getD t37.toNat 0 ∧ t35.getD t37.toNat 0 < (t32.toNat : Nat)) ∧
 (((((out.set ((t35.getD t37.toNat 0).toNat) (t47_State, t47_Out, t47_Key)).getD ((t35.getD t37.toNat 0).toNat) (0, [], [])).1) = (1 : Int) → M_pgraph_Graph_Action g_l g_makers g_before g_after (t35.getD t37.toNat 0) (fun (t580_Tool : Int) (t580_Args : List (List UInt8)) (t580_Inputs : List (List UInt8)) (t580_Output : List UInt8) (t581 : Bool) =>
 (0 ≤ t35.getD t37.toNat 0 ∧ t35.getD t37.toNat 0 < (t32.toNat : Nat)) ∧
 (t580_Output.length ≤ maxLen ∧ texts2.length < maxLen) ∧
 J2 (mput texts2 t580_Output (((out.set ((t35.getD t37.toNat 0).toNat) (t47_State, t47_Out, t47_Key)).getD ((t35.getD t37.toNat 0).toNat) (0, [], [])).2.1)) (out.set ((t35.getD t37.toNat 0).toNat) (t47_State, t47_Out, t47_Key)))) ∧
 (¬ ((((out.set ((t35.getD t37.toNat 0).toNat) (t47_State, t47_Out, t47_Key)).getD ((t35.getD t37.toNat 0).toNat) (0, [], [])).1) = (1 : Int)) → J2 texts2 (out.set ((t35.getD t37.toNat 0).toNat) (t47_State, t47_Out, t47_Key)))))) ∧
 (∀ m2 : List (List UInt8 × List UInt8), ∀ xs : List (Int × List UInt8 × List UInt8), J2 m2 xs → t32.toNat = xs.length → (In .i64 (t37 + (1 : Int))) ∧
 kont2 (t37 + (1 : Int)) m2 xs)) ∧
 (¬ (t37 < (t35.length : Int)) → K out))) (0 : Int) texts (List.replicate t32.toNat (0, [], []))))))) (0 : Int) ([] : List (List UInt8 × List UInt8))))))

set_option maxHeartbeats 8000000 in
theorem W_plan_fate {S : List Nat} {w : World} {g_g : Nat} {g_l : List (Int × List (List UInt8) × List (List UInt8) × List UInt8)} {A_g_l : Option Addr} {c_g_l : Nat} {hs_g_l : List (Int × Hdr × Hdr × List UInt8)} {g_g_makers : Nat} {g_makers : List (List UInt8 × Int)} {g_before : List (List Int)} {A_g_before : Option Addr} {c_g_before : Nat} {hs_g_before : List Hdr} {g_after : List (List Int)} {A_g_after : Option Addr} {c_g_after : Nat} {hs_g_after : List Hdr} {i : Int} {known : List (Int × List UInt8 × List UInt8)} {A_known : Option Addr} {c_known : Nat} {g_texts : Nat} {texts : List (List UInt8 × List UInt8)} {n_g_l : Nat} {n_g_before : Nat} {n_g_after : Nat} {n_known : Nat} {K : Int → (List UInt8) → (List UInt8) → Prop} (hG : GOK S w) (hS10 : 10 ∈ S) (hS16 : 16 ∈ S) (hS100 : 100 ∈ S) (hS101 : 101 ∈ S) (hg_l : RdK 4 encH43 w A_g_l c_g_l hs_g_l) (hn_g_l : n_g_l = g_l.length) (hr_g_l : RelD de43 w hs_g_l g_l) (hg_makers : MapB vs okS vi w g_g_makers g_makers) (hg_before : Rd vh w A_g_before c_g_before hs_g_before) (hn_g_before : n_g_before = g_before.length) (hr_g_before : RelD de38 w hs_g_before g_before) (hg_after : Rd vh w A_g_after c_g_after hs_g_after) (hn_g_after : n_g_after = g_after.length) (hr_g_after : RelD de38 w hs_g_after g_after) (hg : Bl w g_g 79 [.slice A_g_l n_g_l c_g_l, .map (some g_g_makers), .slice A_g_before n_g_before c_g_before, .slice A_g_after n_g_after c_g_after]) (hknown : RdK 34 enc49 w A_known c_known known) (hn_known : n_known = known.length) (htexts : MapB vs okS vs w g_texts texts) (H : M_plan_fate g_l g_makers g_before g_after i known texts K) : Fn Tryz.prog 39 ⟨[.pointer (some ⟨g_g, 0, none⟩), .int .i64 i, .slice A_known n_known c_known, .map (some g_texts)]⟩ w (fun v w' => w.grownBy w' none ∧ ∃ (r_State : Int), ∃ (r_Out : List UInt8), ∃ (r_Key : List UInt8), v = .agg ⟨([.int .i64 r_State, vs r_Out] ++ a32 r_Key)⟩ ∧ K r_State r_Out r_Key) := by
  subst hn_g_l
  subst hn_g_before
  subst hn_g_after
  subst hn_known
  unfold M_plan_fate at H
  refine Fn.enter (by kernel_rfl) Tryz.func39 rfl Tryz.ntmps39 rfl ?_
  replace H := H (by rw [← hr_g_l.1]; exact Nat.le_trans hg_l.cap hg_l.max)
  replace H := H (by rw [← hr_g_before.1]; exact Nat.le_trans hg_before.cap hg_before.max)
  replace H := H (by rw [← hr_g_after.1]; exact Nat.le_trans hg_after.cap hg_after.max)
  replace H := H (Nat.le_trans hknown.cap hknown.max)
  refine WC.seq ?_
  refine WC.region ?_
  refine WL.alloc rfl zero49 (fun g1 w1 hB1 hg1 hl1 => ?_)
  have gr1 := hg1
  refine WL.nil (WX.then_normal ?_)
  refine WC.seq ?_
  refine WC.seq ?_
  refine WC.region ?_
  refine WL.y rfl (Yld.pure tab_ok rfl) ?_
  refine WL.y rfl (Yld.pure tab_ok rfl) ?_
  refine WL.call rfl rfl (W_pgraph_Graph_Before (hg_l.grown gr1) rfl (hr_g_l.grown gr1) (hg_makers.g0 gr1) (hg_before.grown gr1) rfl (hr_g_before.grown gr1) (hg_after.grown gr1) rfl (hr_g_after.grown gr1) (hg.g0 gr1) H) ?_
  rintro _ w2 ⟨hg2, t23, A_t23, c_t23, rfl, ht23, H⟩
  have hb1 := ht23.ge'
  have k1 := ht23.base (fun g hg => Nat.le_trans (size_le gr1) (hb1 g hg))
  have gr2 := gr_trans gr1 hg2
  have k2 := hB1.g0 hg2
  refine WL.y rfl (Yld.pure tab_ok rfl) ?_
  refine WL.y rfl (Yld.pure tab_ok rfl) ?_
  refine WL.nil (WX.then_normal ?_)
  refine WC.block ?_
  obtain ⟨I1, mu1, h0_1, HR1⟩ := H
  refine WC.loopF (fun n' L' w' => ∃ (t25 : Int), ∃ (t80 : Int), ∃ (t81 : List UInt8), ∃ (t82 : List UInt8), n' = mu1 t25 t80 t81 t82 ∧ L' = [(0, .pointer (some ⟨g_g, 0, none⟩)), (1, .int .i64 i), (2, .slice A_known known.length c_known), (3, .map (some g_texts)), (8, .pointer (some ⟨g1, 0, none⟩)), (23, .slice A_t23 t23.length c_t23), (24, .int .i64 (t23.length : Int)), (25, .int .i64 t25)] ∧ I1 t25 t80 t81 t82 ∧ w.grownBy w' none ∧ Bl w' g1 49 ([.int .i64 t80, vs t81] ++ a32 t82) ∧ Own vi w' w.heap.size 3 A_t23 c_t23 t23 ∧ Dj (some g1) (blk A_t23)) _ _ ⟨(0 : Int), (0 : Int), ([] : List UInt8), (List.replicate 32 0 : List UInt8), rfl, rfl, h0_1, gr2, k2, k1, (Dj.new hB1.lt' hb1)⟩ (by repeat (first | exact Sub.nil | refine Sub.cons rfl ?_)) ?_
  clear h0_1
  rintro _ _ w3 ⟨t25, t80, t81, t82, rfl, rfl, hI1, gr3, k3, k4, dj1⟩
  have H := HR1 t25 t80 t81 t82 hI1
  refine WC.seq ?_
  refine WC.region ?_
  refine WL.y rfl (Yld.pure tab_ok rfl) ?_
  refine WL.nil (WX.then_normal ?_)
  refine WC.seq ?_
  refine WC.cond rfl (fun b1 => ?_) (fun b1 => ?_)
  · replace H := H.1 (of_decide_eq_true b1)
    refine WC.skip (WX.then_normal ?_)
    refine WC.seq ?_
    refine WC.block ?_
    refine WC.seq ?_
    refine WC.region ?_
    obtain ⟨h1, H⟩ := H
    refine WL.y rfl (Yld.iaddrW tab_ok k4.rd rfl rfl rfl rfl h1.1 h1.2) ?_
    refine WL.y rfl (Yld.iload 0 tab_ok k4.rd rfl rfl (iltN h1 rfl)) ?_
    refine WL.y rfl (Yld.pure tab_ok rfl) ?_
    refine WL.nil (WX.then_normal ?_)
    refine WC.seq ?_
    refine WC.region ?_
    refine WL.y rfl (Yld.pure tab_ok rfl) ?_
    refine WL.y rfl (Yld.pure tab_ok rfl) ?_
    obtain ⟨h2, H⟩ := H
    refine WL.y rfl (Yld.iaddrK tab_ok (hknown.grown gr3) rfl rfl rfl rfl h2.1 h2.2) ?_
    refine WL.y rfl (Yld.faddrK tab_ok (hknown.grown gr3) (iltN h2 rfl) rfl rfl rfl) ?_
    refine WL.y rfl (Yld.iloadF (0, [], []) tab_ok (hknown.grown gr3) rfl rfl (iltN h2 rfl) rfl) ?_
    refine WL.y rfl (Yld.pure tab_ok rfl) ?_
    refine WL.nil (WX.then_normal ?_)
    refine WC.cond rfl (fun b2 => ?_) (fun b2 => ?_)
    · replace H := H.1 (nd_true b2)
      refine WC.seq ?_
      refine WC.region ?_
      refine WL.y rfl (Yld.struct (us := ([.int .i64 (3 : Int), vs ([] : List UInt8)] ++ a32 (List.replicate 32 0 : List UInt8))) zero49 places49 rfl rfl) ?_
      refine WL.storeW (vs := ([.int .i64 (3 : Int), vs ([] : List UInt8)] ++ a32 (List.replicate 32 0 : List UInt8))) tab_ok rfl rfl rfl (all1c rfl (all1c rfl (a32_one _))) k3 rfl rfl (fun w4 hB2 hg3 => ?_)
      have gr4 := gr_mod gr3 hg3 (Ge.le (Ge.box hl1) (Nat.le_refl _))
      refine WL.nil (WX.then_normal ?_)
      refine WC.ret (WX.block_ret (WX.then_ret (WX.then_ret (WX.block_ret (WX.then_ret ?_)))))
      exact WX.retc tab_ok rfl rfl rfl hB2 rfl ⟨gr4, (3 : Int), ([] : List UInt8), (List.replicate 32 0 : List UInt8), rfl, H⟩
    · replace H := H.2 (nd_false b2)
      refine WC.skip (WX.block_normal (WX.then_normal ?_))
      refine WC.region ?_
      obtain ⟨h3, H⟩ := H
      refine WL.y rfl (Yld.add rfl rfl h3) ?_
      refine WL.y rfl (Yld.pure tab_ok rfl) ?_
      refine WL.nil ?_
      exact WX.roundF _ ⟨t25 + (1 : Int), t80, t81, t82, rfl, rfl, H.1, gr3, k3, k4, dj1⟩ (by repeat (first | exact Sub.nil | refine Sub.cons rfl ?_)) H.2
  · replace H := H.2 (of_decide_eq_false b1)
    refine WC.exit (WX.then_exit (WX.then_exit (WX.block_same (WX.then_normal ?_))))
    refine WC.seq ?_
    refine WC.region ?_
    refine WL.y rfl (Yld.pure tab_ok rfl) ?_
    refine WL.y rfl (Yld.pure tab_ok rfl) ?_
    refine WL.call rfl rfl (W_pgraph_Graph_Action (hg_l.grown gr3) rfl (hr_g_l.grown gr3) (hg_makers.g0 gr3) (hg_before.grown gr3) rfl (hr_g_before.grown gr3) (hg_after.grown gr3) rfl (hr_g_after.grown gr3) (hg.g0 gr3) H) ?_
    rintro _ w5 ⟨hg4, t400_Tool, t400_Args, A_t400_Args, c_t400_Args, t400_Inputs, A_t400_Inputs, c_t400_Inputs, t400_Output, t401, rfl, ht400_Args, ht400_Inputs, dj2, H⟩
    have hb2 := ht400_Args.ge'
    have k5 := ht400_Args.base (fun g hg => Nat.le_trans (size_le gr3) (hb2 g hg))
    have hb3 := ht400_Inputs.ge'
    have k6 := ht400_Inputs.base (fun g hg => Nat.le_trans (size_le gr3) (hb3 g hg))
    have gr5 := gr_trans gr3 hg4
    have k7 := k3.g0 hg4
    refine WL.y rfl (Yld.pure tab_ok rfl) ?_
    refine WL.y rfl (Yld.pure tab_ok rfl) ?_
    refine WL.y rfl (Yld.pure tab_ok rfl) ?_
    refine WL.alloc rfl zero43 (fun g2 w6 hB3 hg5 hl2 => ?_)
    have gr6 := gr_trans gr5 hg5
    have k8 := k7.g0 hg5
    have k9 := k5.grown hg5
    have k10 := k6.grown hg5
    refine WL.storeW (vs := [.int .i64 t400_Tool, .slice A_t400_Args t400_Args.length c_t400_Args, .slice A_t400_Inputs t400_Inputs.length c_t400_Inputs, vs t400_Output]) tab_ok rfl rfl rfl (all1c rfl (all1c rfl (all1c rfl (all1c rfl all1n)))) hB3 rfl rfl (fun w7 hB4 hg6 => ?_)
    have gr7 := gr_mod gr6 hg6 (Ge.le (Ge.box hl2) (size_le gr5))
    have k11 := k8.go hg6 (Dj.new k7.lt' (Ge.box hl2))
    have k12 := k9.go hg6 (Dj.new k5.lt' (Ge.box hl2))
    have k13 := k10.go hg6 (Dj.new k6.lt' (Ge.box hl2))
    refine WL.y rfl (Yld.pure tab_ok rfl) ?_
    refine WL.nil (WX.then_normal ?_)
    refine WC.seq ?_
    refine WC.region ?_
    refine WL.y rfl (Yld.pure tab_ok rfl) ?_
    refine WL.nil (WX.then_normal ?_)
    refine WC.seq ?_
    refine WC.region ?_
    refine WL.y rfl (Yld.pure tab_ok rfl) ?_
    refine WL.nil (WX.then_normal ?_)
    refine WC.seq ?_
    refine WC.seq ?_
    refine WC.region ?_
    refine WL.y rfl (Yld.pure tab_ok rfl) ?_
    refine WL.y rfl (Yld.bload tab_ok hB4 rfl rfl rfl) ?_
    refine WL.y rfl (Yld.pure tab_ok rfl) ?_
    refine WL.y rfl (Yld.pure tab_ok rfl) ?_
    refine WL.nil (WX.then_normal ?_)
    refine WC.block ?_
    obtain ⟨I2, mu2, h0_2, HR2⟩ := H
    refine WC.loopF (fun n' L' w' => ∃ (inputs : List (List UInt8)), ∃ (A_inputs : Option Addr), ∃ (c_inputs : Nat), ∃ (n_inputs : Nat), ∃ (sums : List (List UInt8)), ∃ (A_sums : Option Addr), ∃ (c_sums : Nat), ∃ (n_sums : Nat), ∃ (t46 : Int), ∃ (t802 : Int), ∃ (t812 : List UInt8), ∃ (t822 : List UInt8), n' = mu2 inputs sums t46 t802 t812 t822 ∧ L' = [(3, .map (some g_texts)), (8, .pointer (some ⟨g1, 0, none⟩)), (11, .pointer (some ⟨g2, 0, none⟩)), (13, .slice A_inputs n_inputs c_inputs), (14, .slice A_sums n_sums c_sums), (44, .slice A_t400_Inputs t400_Inputs.length c_t400_Inputs), (45, .int .i64 (t400_Inputs.length : Int)), (46, .int .i64 t46)] ∧ I2 inputs sums t46 t802 t812 t822 ∧ n_inputs = inputs.length ∧ n_sums = sums.length ∧ w.grownBy w' none ∧ Bl w' g1 49 ([.int .i64 t802, vs t812] ++ a32 t822) ∧ Own vs w' w.heap.size 9 A_t400_Args c_t400_Args t400_Args ∧ Own vs w' w.heap.size 9 A_t400_Inputs c_t400_Inputs t400_Inputs ∧ Bl w' g2 43 [.int .i64 t400_Tool, .slice A_t400_Args t400_Args.length c_t400_Args, .slice A_t400_Inputs t400_Inputs.length c_t400_Inputs, vs t400_Output] ∧ Own vs w' w.heap.size 9 A_inputs c_inputs inputs ∧ OwnK 32 a32 w' w.heap.size 47 A_sums c_sums sums ∧ Dj (some g1) (blk A_t400_Args) ∧ Dj (some g1) (blk A_t400_Inputs) ∧ Dj (some g1) (some g2) ∧ Dj (some g1) (blk A_inputs) ∧ Dj (some g1) (blk A_sums) ∧ Dj (blk A_t400_Args) (blk A_t400_Inputs) ∧ Dj (blk A_t400_Args) (some g2) ∧ Dj (blk A_t400_Args) (blk A_inputs) ∧ Dj (blk A_t400_Args) (blk A_sums) ∧ Dj (blk A_t400_Inputs) (some g2) ∧ Dj (blk A_t400_Inputs) (blk A_inputs) ∧ Dj (blk A_t400_Inputs) (blk A_sums) ∧ Dj (some g2) (blk A_inputs) ∧ Dj (some g2) (blk A_sums) ∧ Dj (blk A_inputs) (blk A_sums)) _ _ ⟨[], none, 0, 0, [], none, 0, 0, (0 : Int), t80, t81, t82, rfl, rfl, h0_2, rfl, rfl, gr7, k11, k12, k13, hB4, (Own.nil vs w7 w.heap.size 9), (OwnK.nil a32_ok w7 w.heap.size 47), (Dj.new k3.lt' hb2), (Dj.new k3.lt' hb3), (Dj.new k7.lt' (Ge.box hl2)), Dj.nr, Dj.nr, dj2, (Dj.new k5.lt' (Ge.box hl2)), Dj.nr, Dj.nr, (Dj.new k6.lt' (Ge.box hl2)), Dj.nr, Dj.nr, Dj.nr, Dj.nr, Dj.nl⟩ (by repeat (first | exact Sub.nil | refine Sub.cons rfl ?_)) ?_
    clear h0_2
    rintro _ _ w8 ⟨inputs, A_inputs, c_inputs, n_inputs, sums, A_sums, c_sums, n_sums, t46, t802, t812, t822, rfl, rfl, hI2, rfl, rfl, gr8, k14, k15, k16, k17, k18, k19, dj3, dj4, dj5, dj6, dj7, dj8, dj9, dj10, dj11, dj12, dj13, dj14, dj15, dj16, dj17⟩
    have H := HR2 inputs sums t46 t802 t812 t822 hI2
    refine WC.seq ?_
    refine WC.region ?_
    refine WL.y rfl (Yld.pure tab_ok rfl) ?_
    refine WL.nil (WX.then_normal ?_)
    refine WC.seq ?_
    refine WC.cond rfl (fun b3 => ?_) (fun b3 => ?_)
    · replace H := H.1 (of_decide_eq_true b3)
      refine WC.skip (WX.then_normal ?_)
      refine WC.seq ?_
      refine WC.block ?_
      refine WC.seq ?_
      refine WC.region ?_
      obtain ⟨h4, H⟩ := H
      refine WL.y rfl (Yld.iaddrW tab_ok k16.rd rfl rfl rfl rfl h4.1 h4.2) ?_
      refine WL.y rfl (Yld.iload [] tab_ok k16.rd rfl rfl (iltN h4 rfl)) ?_
      refine WL.y rfl (Yld.pure tab_ok rfl) ?_
      refine WL.nil (WX.then_normal ?_)
      refine WC.seq ?_
      refine WC.region ?_
      refine WL.y rfl (Yld.pure tab_ok rfl) ?_
      refine WL.y rfl (Yld.pure tab_ok rfl) ?_
      obtain ⟨h5, H⟩ := H
      refine WL.y rfl (Yld.lookOk (z := []) (keyF_s Tryz.underlying9) Tryz.underlying91 (fun _ => by kernel_rfl) (htexts.g0 gr8) rfl rfl h5) ?_
      refine WL.y rfl (Yld.pure tab_ok rfl) ?_
      refine WL.y rfl (Yld.pure tab_ok rfl) ?_
      refine WL.y rfl (Yld.pure tab_ok rfl) ?_
      refine WL.y rfl (Yld.pure tab_ok rfl) ?_
      refine WL.y rfl (Yld.pure tab_ok rfl) ?_
      refine WL.nil (WX.then_normal ?_)
      refine WC.seq ?_
      refine WC.seq ?_
      refine WC.region ?_
      refine WL.y rfl (Yld.pure tab_ok rfl) ?_
      refine WL.y rfl (Yld.pure tab_ok rfl) ?_
      refine WL.nil (WX.then_normal ?_)
      refine WC.cond rfl (fun b4 => ?_) (fun b4 => ?_)
      · replace H := H.1 (b4)
        refine WC.seq ?_
        refine WC.region ?_
        refine WL.y rfl (Yld.struct (us := ([.int .i64 (2 : Int), vs ([] : List UInt8)] ++ a32 (List.replicate 32 0 : List UInt8))) zero49 places49 rfl rfl) ?_
        refine WL.storeW (vs := ([.int .i64 (2 : Int), vs ([] : List UInt8)] ++ a32 (List.replicate 32 0 : List UInt8))) tab_ok rfl rfl rfl (all1c rfl (all1c rfl (a32_one _))) k14 rfl rfl (fun w9 hB5 hg7 => ?_)
        have gr9 := gr_mod gr8 hg7 (Ge.le (Ge.box hl1) (Nat.le_refl _))
        refine WL.nil (WX.then_normal ?_)
        refine WC.ret (WX.then_ret (WX.block_ret (WX.then_ret (WX.then_ret (WX.block_ret (WX.then_ret ?_))))))
        exact WX.retc tab_ok rfl rfl rfl hB5 rfl ⟨gr9, (2 : Int), ([] : List UInt8), (List.replicate 32 0 : List UInt8), rfl, H⟩
      · replace H := H.2 (b4)
        refine WC.skip (WX.then_normal ?_)
        refine WC.region ?_
        refine WL.y rfl (Yld.pure tab_ok rfl) ?_
        refine WL.y rfl (Yld.pure tab_ok rfl) ?_
        refine WL.lit tab_ok rfl rfl rfl (all1c rfl all1n) rfl (by omega) (fun g3 w10 hB6 hg8 hl3 => ?_)
        have hO1 : Own vs w10 w.heap.size 9 (some ⟨g3, 0, none⟩) 1 ([(mget texts (t400_Inputs.getD t46.toNat [])).getD []] : List (List UInt8)) := Own.ofBl hB6 (Nat.le_trans (size_le gr8) hl3) (by simp [maxLen]) rfl
        have gr10 := gr_trans gr8 hg8
        have k20 := k14.g0 hg8
        have k21 := k15.grown hg8
        have k22 := k16.grown hg8
        have k23 := k17.g0 hg8
        have k24 := k18.grown hg8
        have k25 := k19.grown hg8
        obtain ⟨h6, H⟩ := H
        refine WL.append tab_ok rfl rfl One.s k24 rfl rfl hO1.rd rfl rfl h6 (applen h6) (size_le gr10) (fun A_inputs2 c_inputs2 w11 hO2 hg9 hk1 => ?_)
        have gr11 := gr_mod gr10 hg9 k24.ge'
        have k26 := k20.go hg9 dj6
        have k27 := k21.go hg9 dj10
        have k28 := k22.go hg9 dj13
        have k29 := k23.go hg9 dj15
        have k30 := k25.go hg9 dj17.symm
        refine WL.y rfl (Yld.pure tab_ok rfl) ?_
        refine WL.y rfl (Yld.pure tab_ok rfl) ?_
        refine WL.call rfl rfl (W_key_Source H) ?_
        rintro _ w12 ⟨hg10, t65, rfl, H⟩
        have gr12 := gr_trans gr11 hg10
        have k31 := k26.g0 hg10
        have k32 := k27.grown hg10
        have k33 := k28.grown hg10
        have k34 := k29.g0 hg10
        have k35 := k30.grown hg10
        have k36 := hO2.grown hg10
        refine WL.litK (f := a32) ([t65] : List (List UInt8)) a32_ok rfl ow120 rfl rfl rfl (fun g4 w13 hB7 hg11 hl4 => ?_)
        have hO3 : OwnK 32 a32 w13 w.heap.size 47 (some ⟨g4, 0, none⟩) 1 ([t65] : List (List UInt8)) := OwnK.ofBl a32_ok hB7 (Nat.le_trans (size_le gr12) hl4) (by simp [maxLen]) rfl
        have gr13 := gr_trans gr12 hg11
        have k37 := k31.g0 hg11
        have k38 := k32.grown hg11
        have k39 := k33.grown hg11
        have k40 := k34.g0 hg11
        have k41 := k35.grown hg11
        have k42 := k36.grown hg11
        obtain ⟨h7, H⟩ := H
        refine WL.appendK rfl ow120 k41 rfl rfl hO3.rd rfl rfl h7 (applen h7) (size_le gr13) (fun A_sums2 c_sums2 w14 hO4 hg12 hk2 => ?_)
        have gr14 := gr_mod gr13 hg12 k41.ge'
        have k43 := k37.go hg12 dj7
        have k44 := k38.go hg12 dj11
        have k45 := k39.go hg12 dj14
        have k46 := k40.go hg12 dj16
        have k47 := k42.go hg12 (Dj.app dj17 k25.lt' hk1)
        refine WL.y rfl (Yld.pure tab_ok rfl) ?_
        refine WL.y rfl (Yld.pure tab_ok rfl) ?_
        refine WL.nil (WX.block_normal (WX.then_normal ?_))
        refine WC.region ?_
        obtain ⟨h8, H⟩ := H
        refine WL.y rfl (Yld.add rfl rfl h8) ?_
        refine WL.y rfl (Yld.pure tab_ok rfl) ?_
        refine WL.nil ?_
        exact WX.roundF _ ⟨inputs ++ ([(mget texts (t400_Inputs.getD t46.toNat [])).getD []] : List (List UInt8)), A_inputs2, c_inputs2, (inputs ++ ([(mget texts (t400_Inputs.getD t46.toNat [])).getD []] : List (List UInt8))).length, sums ++ ([t65] : List (List UInt8)), A_sums2, c_sums2, (sums ++ ([t65] : List (List UInt8))).length, t46 + (1 : Int), t802, t812, t822, rfl, rfl, H.1, rfl, rfl, gr14, k43, k44, k45, k46, k47, hO4, dj3, dj4, dj5, (Dj.app dj6.symm k20.lt' hk1).symm, (Dj.app dj7.symm k37.lt' hk2).symm, dj8, dj9, (Dj.app dj10.symm k21.lt' hk1).symm, (Dj.app dj11.symm k38.lt' hk2).symm, dj12, (Dj.app dj13.symm k22.lt' hk1).symm, (Dj.app dj14.symm k39.lt' hk2).symm, (Dj.app dj15.symm k23.lt' hk1).symm, (Dj.app dj16.symm k40.lt' hk2).symm, (Dj.app (Dj.app dj17 k25.lt' hk1).symm k42.lt' hk2).symm⟩ (by repeat (first | exact Sub.nil | refine Sub.cons rfl ?_)) H.2
    · replace H := H.2 (of_decide_eq_false b3)
      refine WC.exit (WX.then_exit (WX.then_exit (WX.block_same (WX.then_normal ?_))))
      refine WC.seq ?_
      refine WC.region ?_
      refine WL.y rfl (Yld.pure tab_ok rfl) ?_
      refine WL.y rfl (Yld.bload tab_ok k17 rfl rfl rfl) ?_
      refine WL.y rfl (Yld.pure tab_ok rfl) ?_
      refine WL.y rfl (Yld.bload tab_ok k17 rfl rfl rfl) ?_
      refine WL.y rfl (Yld.pure tab_ok rfl) ?_
      refine WL.call rfl rfl (W_key_Of (hG.grown gr8) hS101 k15.rd rfl k19.rd rfl H) ?_
      rintro _ w15 ⟨hg13, t74, rfl, H⟩
      have gr15 := gr_trans gr8 hg13
      have k48 := k14.g0 hg13
      have k49 := k15.grown hg13
      have k50 := k16.grown hg13
      have k51 := k17.g0 hg13
      have k52 := k18.grown hg13
      refine WL.y rfl (Yld.struct (us := ([.int .i64 (1 : Int), vs ([] : List UInt8)] ++ a32 t74)) zero49 places49 rfl rfl) ?_
      refine WL.alloc rfl zero49 (fun g5 w16 hB8 hg14 hl5 => ?_)
      have gr16 := gr_trans gr15 hg14
      have k53 := k48.g0 hg14
      have k54 := k49.grown hg14
      have k55 := k50.grown hg14
      have k56 := k51.g0 hg14
      have k57 := k52.grown hg14
      refine WL.storeW (vs := ([.int .i64 (1 : Int), vs ([] : List UInt8)] ++ a32 t74)) tab_ok rfl rfl rfl (all1c rfl (all1c rfl (a32_one _))) hB8 rfl rfl (fun w17 hB9 hg15 => ?_)
      have gr17 := gr_mod gr16 hg15 (Ge.le (Ge.box hl5) (size_le gr15))
      have k58 := k53.go hg15 (Dj.new k48.lt' (Ge.box hl5))
      have k59 := k54.go hg15 (Dj.new k49.lt' (Ge.box hl5))
      have k60 := k55.go hg15 (Dj.new k50.lt' (Ge.box hl5))
      have k61 := k56.go hg15 (Dj.new k51.lt' (Ge.box hl5))
      have k62 := k57.go hg15 (Dj.new k52.lt' (Ge.box hl5))
      refine WL.nil (WX.then_normal ?_)
      refine WC.seq ?_
      refine WC.region ?_
      refine WL.y rfl (Yld.pure tab_ok rfl) ?_
      refine WL.nil (WX.then_normal ?_)
      refine WC.seq ?_
      obtain ⟨J1, H, hJ1⟩ := H
      refine WC.midF (fun L' w' => ∃ (f0 : Int), ∃ (f1 : List UInt8), L' = [(8, .pointer (some ⟨g1, 0, none⟩)), (19, .pointer (some ⟨g5, 0, none⟩))] ∧ J1 f0 f1 ∧ w.grownBy w' none ∧ Bl w' g1 49 ([.int .i64 t802, vs t812] ++ a32 t822) ∧ Bl w' g5 49 ([.int .i64 f0, vs f1] ++ a32 t74) ∧ Dj (some g1) (some g5)) ?_ (fun hQ => ?_)
      · clear H
        rintro _ w18 ⟨f0, f1, rfl, H, gr18, k63, k64, dj18⟩
        replace H := hJ1 f0 f1 H
        refine WX.then_normal ?_
        refine WC.seq ?_
        refine WC.region ?_
        refine WL.y rfl (Yld.bagg (vs := ([.int .i64 f0, vs f1] ++ a32 t74)) tab_ok k64 rfl rfl rfl rfl) ?_
        refine WL.storeW (vs := ([.int .i64 f0, vs f1] ++ a32 t74)) tab_ok rfl rfl rfl (all1c rfl (all1c rfl (a32_one _))) k63 rfl rfl (fun w19 hB10 hg16 => ?_)
        have gr19 := gr_mod gr18 hg16 (Ge.le (Ge.box hl1) (Nat.le_refl _))
        refine WL.nil (WX.then_normal ?_)
        refine WC.ret ?_
        exact WX.retc tab_ok rfl rfl rfl hB10 rfl ⟨gr19, f0, f1, t74, rfl, H⟩
      · clear hJ1
        refine WC.seq ?_
        refine WC.region ?_
        refine WL.y rfl (Yld.pure tab_ok rfl) ?_
        refine WL.y rfl (Yld.bload tab_ok k61 rfl rfl rfl) ?_
        refine WL.y rfl (Yld.pure tab_ok rfl) ?_
        refine WL.y rfl (Yld.bload tab_ok k61 rfl rfl rfl) ?_
        refine WL.y rfl (Yld.pure tab_ok rfl) ?_
        refine WL.call rfl rfl (W_tool_Do (hG.grown gr17) hS10 hS16 hS100 k59.rd rfl k62.rd rfl H) ?_
        rintro _ w20 ⟨hg17, t820, v_t821, t821, rfl, ht821, H⟩
        have gr20 := gr_trans gr17 hg17
        have k65 := k58.g0 hg17
        have k66 := hB9.g0 hg17
        refine WL.y rfl (Yld.pure tab_ok rfl) ?_
        refine WL.y rfl (Yld.pure tab_ok rfl) ?_
        refine WL.y rfl (Yld.pure tab_ok rfl) ?_
        refine WL.y rfl (Yld.pure tab_ok rfl) ?_
        refine WL.store1 one9 rfl rfl rfl k66 (by simp) (fun w21 hB12 hg18 => ?_)
        have hB11 : Bl w21 g5 49 ([.int .i64 (1 : Int), vs t820] ++ a32 t74) := hB12
        have gr21 := gr_mod gr20 hg18 (Ge.le (Ge.box hl5) (size_le gr15))
        have k67 := k65.go hg18 (Dj.new k48.lt' (Ge.box hl5))
        have k68 := ErrR.go ht821 hG gr20 hg18 gr21 k66 rfl
        refine WL.y rfl (Yld.pure tab_ok rfl) ?_
        refine WL.nil (WX.then_normal ?_)
        refine WC.seq ?_
        refine WC.region ?_
        refine WL.y rfl (Yld.pure tab_ok rfl) ?_
        refine WL.y rfl (Yld.errneq Tryz.underlying29 k68 rfl) ?_
        refine WL.nil (WX.then_normal ?_)
        refine WC.cond rfl (fun b5 => ?_) (fun b5 => ?_)
        · replace H := H.1 (nd_true b5)
          refine WC.region ?_
          refine WL.y rfl (Yld.pure tab_ok rfl) ?_
          refine WL.store1 one3 rfl rfl rfl hB11 (by simp) (fun w22 hB14 hg19 => ?_)
          have hB13 : Bl w22 g5 49 ([.int .i64 (2 : Int), vs t820] ++ a32 t74) := hB14
          have gr22 := gr_mod gr21 hg19 (Ge.le (Ge.box hl5) (size_le gr15))
          have k69 := k67.go hg19 (Dj.new k48.lt' (Ge.box hl5))
          refine WL.nil ?_
          exact WX.weaken (by repeat (first | exact Sub.nil | refine Sub.cons rfl ?_)) (hQ _ _ ⟨(2 : Int), t820, rfl, H, gr22, k69, hB13, (Dj.new k48.lt' (Ge.box hl5))⟩)
        · replace H := H.2 (nd_false b5)
          refine WC.skip ?_
          exact WX.weaken (by repeat (first | exact Sub.nil | refine Sub.cons rfl ?_)) (hQ _ _ ⟨(1 : Int), t820, rfl, H, gr21, k67, hB11, (Dj.new k48.lt' (Ge.box hl5))⟩)

set_option maxHeartbeats 8000000 in
theorem W_plan_Fates {S : List Nat} {w : World} {g_g : Nat} {g_l : List (Int × List (List UInt8) × List (List UInt8) × List UInt8)} {A_g_l : Option Addr} {c_g_l : Nat} {hs_g_l : List (Int × Hdr × Hdr × List UInt8)} {g_g_makers : Nat} {g_makers : List (List UInt8 × Int)} {g_before : List (List Int)} {A_g_before : Option Addr} {c_g_before : Nat} {hs_g_before : List Hdr} {g_after : List (List Int)} {A_g_after : Option Addr} {c_g_after : Nat} {hs_g_after : List Hdr} {files : List (List UInt8 × List UInt8)} {A_files : Option Addr} {c_files : Nat} {n_g_l : Nat} {n_g_before : Nat} {n_g_after : Nat} {n_files : Nat} {K : (List (Int × List UInt8 × List UInt8)) → Prop} (hG : GOK S w) (hS10 : 10 ∈ S) (hS16 : 16 ∈ S) (hS100 : 100 ∈ S) (hS101 : 101 ∈ S) (hg_l : RdK 4 encH43 w A_g_l c_g_l hs_g_l) (hn_g_l : n_g_l = g_l.length) (hr_g_l : RelD de43 w hs_g_l g_l) (hg_makers : MapB vs okS vi w g_g_makers g_makers) (hg_before : Rd vh w A_g_before c_g_before hs_g_before) (hn_g_before : n_g_before = g_before.length) (hr_g_before : RelD de38 w hs_g_before g_before) (hg_after : Rd vh w A_g_after c_g_after hs_g_after) (hn_g_after : n_g_after = g_after.length) (hr_g_after : RelD de38 w hs_g_after g_after) (hg : Bl w g_g 79 [.slice A_g_l n_g_l c_g_l, .map (some g_g_makers), .slice A_g_before n_g_before c_g_before, .slice A_g_after n_g_after c_g_after]) (hfiles : RdK 2 enc35 w A_files c_files files) (hn_files : n_files = files.length) (H : M_plan_Fates g_l g_makers g_before g_after files K) : Fn Tryz.prog 10 ⟨[.pointer (some ⟨g_g, 0, none⟩), .slice A_files n_files c_files]⟩ w (fun v w' => w.grownBy w' none ∧ ∃ (r : List (Int × List UInt8 × List UInt8)), ∃ (A_r : Option Addr), ∃ (c_r : Nat), v = .slice A_r r.length c_r ∧ OwnK 34 enc49 w' w.heap.size 49 A_r c_r r ∧ K r) := by
  subst hn_g_l
  subst hn_g_before
  subst hn_g_after
  subst hn_files
  unfold M_plan_Fates at H
  refine Fn.enter (by kernel_rfl) Tryz.func10 rfl Tryz.ntmps10 rfl ?_
  replace H := H (by rw [← hr_g_l.1]; exact Nat.le_trans hg_l.cap hg_l.max)
  replace H := H (by rw [← hr_g_before.1]; exact Nat.le_trans hg_before.cap hg_before.max)
  replace H := H (by rw [← hr_g_after.1]; exact Nat.le_trans hg_after.cap hg_after.max)
  replace H := H (Nat.le_trans hfiles.cap hfiles.max)
  refine WC.seq ?_
  refine WC.region ?_
  refine WL.y rfl (Yld.pure tab_ok rfl) ?_
  refine WL.nil (WX.then_normal ?_)
  refine WC.seq ?_
  refine WC.region ?_
  refine WL.putw wants_none rfl (Eff.makeMap vs okS vs) ?_
  rintro _ w1 ⟨rfl, hB1, hg1⟩
  have gr1 := hg1
  refine WL.y rfl (Yld.pure tab_ok rfl) ?_
  refine WL.nil (WX.then_normal ?_)
  refine WC.seq ?_
  refine WC.seq ?_
  refine WC.region ?_
  refine WL.y rfl (Yld.pure tab_ok rfl) ?_
  refine WL.y rfl (Yld.pure tab_ok rfl) ?_
  refine WL.y rfl (Yld.pure tab_ok rfl) ?_
  refine WL.nil (WX.then_normal ?_)
  refine WC.block ?_
  obtain ⟨I1, mu1, h0_1, HR1⟩ := H
  refine WC.loopF (fun n' L' w' => ∃ (t16 : Int), ∃ (texts : List (List UInt8 × List UInt8)), n' = mu1 t16 texts ∧ L' = [(0, .pointer (some ⟨g_g, 0, none⟩)), (5, .map (some w.heap.size)), (14, .slice A_files files.length c_files), (15, .int .i64 (files.length : Int)), (16, .int .i64 t16)] ∧ I1 t16 texts ∧ w.grownBy w' none ∧ MapB vs okS vs w' w.heap.size texts) _ _ ⟨(0 : Int), ([] : List (List UInt8 × List UInt8)), rfl, rfl, h0_1, gr1, hB1⟩ (by repeat (first | exact Sub.nil | refine Sub.cons rfl ?_)) ?_
  clear h0_1
  rintro _ _ w2 ⟨t16, texts, rfl, rfl, hI1, gr2, k1⟩
  have H := HR1 t16 texts hI1
  refine WC.seq ?_
  refine WC.region ?_
  refine WL.y rfl (Yld.pure tab_ok rfl) ?_
  refine WL.nil (WX.then_normal ?_)
  refine WC.seq ?_
  refine WC.cond rfl (fun b1 => ?_) (fun b1 => ?_)
  · replace H := H.1 (of_decide_eq_true b1)
    refine WC.skip (WX.then_normal ?_)
    refine WC.seq ?_
    obtain ⟨J1, H, hJ1⟩ := H
    refine WC.midF (fun L' w' => ∃ (m : List (List UInt8 × List UInt8)), L' = [(0, .pointer (some ⟨g_g, 0, none⟩)), (5, .map (some w.heap.size)), (14, .slice A_files files.length c_files), (15, .int .i64 (files.length : Int)), (16, .int .i64 t16)] ∧ J1 m ∧ w.grownBy w' none ∧ MapB vs okS vs w' w.heap.size m) ?_ (fun hQ => ?_)
    · clear H
      rintro _ w3 ⟨m, rfl, H, gr3, k2⟩
      replace H := hJ1 m H
      refine WX.then_normal ?_
      refine WC.region ?_
      obtain ⟨h1, H⟩ := H
      refine WL.y rfl (Yld.add rfl rfl h1) ?_
      refine WL.y rfl (Yld.pure tab_ok rfl) ?_
      refine WL.nil ?_
      exact WX.roundF _ ⟨t16 + (1 : Int), m, rfl, rfl, H.1, gr3, k2⟩ (by repeat (first | exact Sub.nil | refine Sub.cons rfl ?_)) H.2
    · clear hJ1
      refine WC.block ?_
      refine WC.seq ?_
      refine WC.region ?_
      obtain ⟨h2, H⟩ := H
      refine WL.y rfl (Yld.iaddrK tab_ok (hfiles.grown gr2) rfl rfl rfl rfl h2.1 h2.2) ?_
      refine WL.y rfl (Yld.iloadK ([], []) tab_ok (hfiles.grown gr2) rfl rfl (iltN h2 rfl)) ?_
      refine WL.alloc rfl zero35 (fun g1 w4 hB2 hg2 hl2 => ?_)
      have gr4 := gr_trans gr2 hg2
      have k3 := k1.g0 hg2
      refine WL.storeW (vs := [vs ((files.getD t16.toNat ([], [])).1), vs ((files.getD t16.toNat ([], [])).2)]) tab_ok rfl rfl rfl (all1c rfl (all1c rfl all1n)) hB2 rfl rfl (fun w5 hB3 hg3 => ?_)
      have gr5 := gr_mod gr4 hg3 (Ge.le (Ge.box hl2) (size_le gr2))
      have k4 := k3.go hg3 (Dj.new k1.lt' (Ge.box hl2))
      refine WL.nil (WX.then_normal ?_)
      refine WC.seq ?_
      refine WC.region ?_
      refine WL.y rfl (Yld.pure tab_ok rfl) ?_
      refine WL.y rfl (Yld.pure tab_ok rfl) ?_
      refine WL.y rfl (Yld.bload tab_ok hB3 rfl rfl rfl) ?_
      refine WL.call rfl rfl (W_pgraph_Graph_Maker (hg_l.grown gr5) rfl (hr_g_l.grown gr5) (hg_makers.g0 gr5) (hg_before.grown gr5) rfl (hr_g_before.grown gr5) (hg_after.grown gr5) rfl (hr_g_after.grown gr5) (hg.g0 gr5) H) ?_
      rintro _ _ ⟨rfl, t23, rfl, H⟩
      refine WL.y rfl (Yld.pure tab_ok rfl) ?_
      refine WL.nil (WX.then_normal ?_)
      refine WC.cond rfl (fun b2 => ?_) (fun b2 => ?_)
      · replace H := H.1 (of_decide_eq_true b2)
        refine WC.region ?_
        refine WL.y rfl (Yld.pure tab_ok rfl) ?_
        refine WL.y rfl (Yld.pure tab_ok rfl) ?_
        refine WL.y rfl (Yld.bload tab_ok hB3 rfl rfl rfl) ?_
        refine WL.y rfl (Yld.pure tab_ok rfl) ?_
        refine WL.y rfl (Yld.bload tab_ok hB3 rfl rfl rfl) ?_
        obtain ⟨h3, H⟩ := H
        refine WL.ef0 (Ef0.mapPut (keyF_s Tryz.underlying9) Tryz.underlying91 k4 h3.2 rfl rfl h3.1 rfl) ?_
        rintro w6 ⟨hB4, hg4⟩
        have gr6 := gr_mod gr5 hg4 (Ge.le (Ge.box (Nat.le_refl _)) (Nat.le_refl _))
        refine WL.nil (WX.block_normal ?_)
        exact WX.weaken (by repeat (first | exact Sub.nil | refine Sub.cons rfl ?_)) (hQ _ _ ⟨mput texts ((files.getD t16.toNat ([], [])).1) ((files.getD t16.toNat ([], [])).2), rfl, H, gr6, hB4⟩)
      · replace H := H.2 (of_decide_eq_false b2)
        refine WC.skip (WX.block_normal ?_)
        exact WX.weaken (by repeat (first | exact Sub.nil | refine Sub.cons rfl ?_)) (hQ _ _ ⟨texts, rfl, H, gr5, k4⟩)
  · replace H := H.2 (of_decide_eq_false b1)
    refine WC.exit (WX.then_exit (WX.then_exit (WX.block_same (WX.then_normal ?_))))
    refine WC.seq ?_
    refine WC.region ?_
    refine WL.y rfl (Yld.pure tab_ok rfl) ?_
    refine WL.call rfl rfl (W_pgraph_Graph_Len (hg_l.grown gr2) rfl (hr_g_l.grown gr2) (hg_makers.g0 gr2) (hg_before.grown gr2) rfl (hr_g_before.grown gr2) (hg_after.grown gr2) rfl (hr_g_after.grown gr2) (hg.g0 gr2) H) ?_
    rintro _ _ ⟨rfl, t32, rfl, H⟩
    obtain ⟨h4, H⟩ := H
    refine WL.makeZK (f := enc49) (B := w.heap.size) (0, [], []) enc49_ok rfl ow32 zero49 rfl rfl h4.1 h4.2.1 h4.2.2 (size_le gr2) (fun g2 w7 hO1 hg5 hl3 => ?_)
    have gr7 := gr_trans gr2 hg5
    have k5 := k1.g0 hg5
    refine WL.y rfl (Yld.pure tab_ok rfl) ?_
    refine WL.nil (WX.then_normal ?_)
    refine WC.seq ?_
    refine WC.seq ?_
    refine WC.region ?_
    refine WL.y rfl (Yld.pure tab_ok rfl) ?_
    refine WL.call rfl rfl (W_pgraph_Graph_Order (hg_l.grown gr7) rfl (hr_g_l.grown gr7) (hg_makers.g0 gr7) (hg_before.grown gr7) rfl (hr_g_before.grown gr7) (hg_after.grown gr7) rfl (hr_g_after.grown gr7) (hg.g0 gr7) H) ?_
    rintro _ w8 ⟨hg6, t35, A_t35, c_t35, rfl, ht35, H⟩
    have hb1 := ht35.ge'
    have k6 := ht35.base (fun g hg => Nat.le_trans (size_le gr7) (hb1 g hg))
    have gr8 := gr_trans gr7 hg6
    have k7 := k5.g0 hg6
    have k8 := hO1.grown hg6
    refine WL.y rfl (Yld.pure tab_ok rfl) ?_
    refine WL.y rfl (Yld.pure tab_ok rfl) ?_
    refine WL.nil (WX.then_normal ?_)
    refine WC.block ?_
    obtain ⟨I2, mu2, h0_2, HR2⟩ := H
    refine WC.loopF (fun n' L' w' => ∃ (t37 : Int), ∃ (texts2 : List (List UInt8 × List UInt8)), ∃ (out : List (Int × List UInt8 × List UInt8)), n' = mu2 t37 texts2 out ∧ L' = [(0, .pointer (some ⟨g_g, 0, none⟩)), (5, .map (some w.heap.size)), (8, .slice (some ⟨g2, 0, none⟩) t32.toNat t32.toNat), (35, .slice A_t35 t35.length c_t35), (36, .int .i64 (t35.length : Int)), (37, .int .i64 t37)] ∧ I2 t37 texts2 out ∧ t32.toNat = out.length ∧ w.grownBy w' none ∧ MapB vs okS vs w' w.heap.size texts2 ∧ OwnK 34 enc49 w' w.heap.size 49 (some ⟨g2, 0, none⟩) t32.toNat out ∧ Own vi w' w.heap.size 3 A_t35 c_t35 t35 ∧ Dj (some w.heap.size) (blk (some ⟨g2, 0, none⟩)) ∧ Dj (some w.heap.size) (blk A_t35) ∧ Dj (blk (some ⟨g2, 0, none⟩)) (blk A_t35)) _ _ ⟨(0 : Int), texts, (List.replicate t32.toNat (0, [], [])), rfl, rfl, h0_2, (List.length_replicate).symm, gr8, k7, k8, k6, (Dj.new k1.lt' (Ge.box hl3)), (Dj.new k5.lt' hb1), (Dj.new hO1.lt' hb1)⟩ (by repeat (first | exact Sub.nil | refine Sub.cons rfl ?_)) ?_
    clear h0_2
    rintro _ _ w9 ⟨t37, texts2, out, rfl, rfl, hI2, hn_out, gr9, k9, k10, k11, dj1, dj2, dj3⟩
    have H := HR2 t37 texts2 out hI2
    replace H := H hn_out
    refine WC.seq ?_
    refine WC.region ?_
    refine WL.y rfl (Yld.pure tab_ok rfl) ?_
    refine WL.nil (WX.then_normal ?_)
    refine WC.seq ?_
    refine WC.cond rfl (fun b3 => ?_) (fun b3 => ?_)
    · replace H := H.1 (of_decide_eq_true b3)
      refine WC.skip (WX.then_normal ?_)
      refine WC.seq ?_
      obtain ⟨J2, H, hJ2⟩ := H
      refine WC.midF (fun L' w' => ∃ (m2 : List (List UInt8 × List UInt8)), ∃ (xs : List (Int × List UInt8 × List UInt8)), L' = [(0, .pointer (some ⟨g_g, 0, none⟩)), (5, .map (some w.heap.size)), (8, .slice (some ⟨g2, 0, none⟩) t32.toNat t32.toNat), (35, .slice A_t35 t35.length c_t35), (36, .int .i64 (t35.length : Int)), (37, .int .i64 t37)] ∧ J2 m2 xs ∧ t32.toNat = xs.length ∧ w.grownBy w' none ∧ MapB vs okS vs w' w.heap.size m2 ∧ OwnK 34 enc49 w' w.heap.size 49 (some ⟨g2, 0, none⟩) t32.toNat xs ∧ Own vi w' w.heap.size 3 A_t35 c_t35 t35 ∧ Dj (some w.heap.size) (blk (some ⟨g2, 0, none⟩)) ∧ Dj (some w.heap.size) (blk A_t35) ∧ Dj (blk (some ⟨g2, 0, none⟩)) (blk A_t35)) ?_ (fun hQ => ?_)
      · clear H
        rintro _ w10 ⟨m2, xs, rfl, H, hn_xs, gr10, k12, k13, k14, dj4, dj5, dj6⟩
        replace H := hJ2 m2 xs H
        replace H := H hn_xs
        refine WX.then_normal ?_
        refine WC.region ?_
        obtain ⟨h5, H⟩ := H
        refine WL.y rfl (Yld.add rfl rfl h5) ?_
        refine WL.y rfl (Yld.pure tab_ok rfl) ?_
        refine WL.nil ?_
        exact WX.roundF _ ⟨t37 + (1 : Int), m2, xs, rfl, rfl, H.1, hn_xs, gr10, k12, k13, k14, dj4, dj5, dj6⟩ (by repeat (first | exact Sub.nil | refine Sub.cons rfl ?_)) H.2
      · clear hJ2
        refine WC.block ?_
        refine WC.seq ?_
        refine WC.region ?_
        obtain ⟨h6, H⟩ := H
        refine WL.y rfl (Yld.iaddrW tab_ok k11.rd rfl rfl rfl rfl h6.1 h6.2) ?_
        refine WL.y rfl (Yld.iload 0 tab_ok k11.rd rfl rfl (iltN h6 rfl)) ?_
        refine WL.y rfl (Yld.pure tab_ok rfl) ?_
        refine WL.nil (WX.then_normal ?_)
        refine WC.seq ?_
        refine WC.region ?_
        refine WL.y rfl (Yld.pure tab_ok rfl) ?_
        refine WL.y rfl (Yld.pure tab_ok rfl) ?_
        refine WL.y rfl (Yld.pure tab_ok rfl) ?_
        refine WL.y rfl (Yld.pure tab_ok rfl) ?_
        refine WL.y rfl (Yld.pure tab_ok rfl) ?_
        refine WL.y rfl (Yld.pure tab_ok rfl) ?_
        refine WL.call rfl rfl (W_plan_fate (hG.grown gr9) hS10 hS16 hS100 hS101 (hg_l.grown gr9) rfl (hr_g_l.grown gr9) (hg_makers.g0 gr9) (hg_before.grown gr9) rfl (hr_g_before.grown gr9) (hg_after.grown gr9) rfl (hr_g_after.grown gr9) (hg.g0 gr9) k10.rd hn_out k9 H) ?_
        rintro _ w11 ⟨hg7, t47_State, t47_Out, t47_Key, rfl, H⟩
        have gr11 := gr_trans gr9 hg7
        have k15 := k9.g0 hg7
        have k16 := k10.grown hg7
        have k17 := k11.grown hg7
        obtain ⟨h7, H⟩ := H
        refine WL.y rfl (Yld.iaddrK tab_ok k16.rd rfl rfl hn_out rfl h7.1 h7.2) ?_
        refine WL.ostoreK (v := (t47_State, t47_Out, t47_Key)) tab_ok rfl k16 rfl rfl (iltN h7 hn_out) (fun w12 hO2 hg8 => ?_)
        have gr12 := gr_mod gr11 hg8 k16.ge'
        have k18 := k15.go hg8 dj1
        have k19 := k17.go hg8 dj3.symm
        refine WL.nil (WX.then_normal ?_)
        refine WC.seq ?_
        refine WC.region ?_
        refine WL.y rfl (Yld.pure tab_ok rfl) ?_
        refine WL.y rfl (Yld.pure tab_ok rfl) ?_
        obtain ⟨h8, H⟩ := H
        refine WL.y rfl (Yld.iaddrK tab_ok hO2.rd rfl rfl (hn_out.trans List.length_set.symm) rfl h8.1 h8.2) ?_
        refine WL.y rfl (Yld.faddrK tab_ok hO2.rd (iltN h8 (hn_out.trans List.length_set.symm)) rfl rfl rfl) ?_
        refine WL.y rfl (Yld.iloadF (0, [], []) tab_ok hO2.rd rfl rfl (iltN h8 (hn_out.trans List.length_set.symm)) rfl) ?_
        refine WL.y rfl (Yld.pure tab_ok rfl) ?_
        refine WL.nil (WX.then_normal ?_)
        refine WC.cond rfl (fun b4 => ?_) (fun b4 => ?_)
        · replace H := H.1 (of_decide_eq_true b4)
          refine WC.seq ?_
          refine WC.region ?_
          refine WL.y rfl (Yld.pure tab_ok rfl) ?_
          refine WL.y rfl (Yld.pure tab_ok rfl) ?_
          refine WL.call rfl rfl (W_pgraph_Graph_Action (hg_l.grown gr12) rfl (hr_g_l.grown gr12) (hg_makers.g0 gr12) (hg_before.grown gr12) rfl (hr_g_before.grown gr12) (hg_after.grown gr12) rfl (hr_g_after.grown gr12) (hg.g0 gr12) H) ?_
          rintro _ w13 ⟨hg9, t580_Tool, t580_Args, A_t580_Args, c_t580_Args, t580_Inputs, A_t580_Inputs, c_t580_Inputs, t580_Output, t581, rfl, ht580_Args, ht580_Inputs, dj7, H⟩
          have hb2 := ht580_Args.ge'
          have k20 := ht580_Args.base (fun g hg => Nat.le_trans (size_le gr12) (hb2 g hg))
          have hb3 := ht580_Inputs.ge'
          have k21 := ht580_Inputs.base (fun g hg => Nat.le_trans (size_le gr12) (hb3 g hg))
          have gr13 := gr_trans gr12 hg9
          have k22 := k18.g0 hg9
          have k23 := hO2.grown hg9
          have k24 := k19.grown hg9
          refine WL.y rfl (Yld.pure tab_ok rfl) ?_
          refine WL.y rfl (Yld.pure tab_ok rfl) ?_
          refine WL.y rfl (Yld.pure tab_ok rfl) ?_
          refine WL.alloc rfl zero43 (fun g3 w14 hB5 hg10 hl4 => ?_)
          have gr14 := gr_trans gr13 hg10
          have k25 := k22.g0 hg10
          have k26 := k23.grown hg10
          have k27 := k24.grown hg10
          have k28 := k20.grown hg10
          have k29 := k21.grown hg10
          refine WL.storeW (vs := [.int .i64 t580_Tool, .slice A_t580_Args t580_Args.length c_t580_Args, .slice A_t580_Inputs t580_Inputs.length c_t580_Inputs, vs t580_Output]) tab_ok rfl rfl rfl (all1c rfl (all1c rfl (all1c rfl (all1c rfl all1n)))) hB5 rfl rfl (fun w15 hB6 hg11 => ?_)
          have gr15 := gr_mod gr14 hg11 (Ge.le (Ge.box hl4) (size_le gr13))
          have k30 := k25.go hg11 (Dj.new k22.lt' (Ge.box hl4))
          have k31 := k26.go hg11 (Dj.new k23.lt' (Ge.box hl4))
          have k32 := k27.go hg11 (Dj.new k24.lt' (Ge.box hl4))
          have k33 := k28.go hg11 (Dj.new k20.lt' (Ge.box hl4))
          have k34 := k29.go hg11 (Dj.new k21.lt' (Ge.box hl4))
          refine WL.y rfl (Yld.pure tab_ok rfl) ?_
          refine WL.nil (WX.then_normal ?_)
          refine WC.chainF (fun k => !(Nat.beq k 8)) (LD [2, 7] (fun w' => Bl w' g3 43 [.int .i64 t580_Tool, .slice A_t580_Args t580_Args.length c_t580_Args, .slice A_t580_Inputs t580_Inputs.length c_t580_Inputs, vs t580_Output] ∧ RdK 34 enc49 w' (some ⟨g2, 0, none⟩) t32.toNat (out.set ((t35.getD t37.toNat 0).toNat) (t47_State, t47_Out, t47_Key)))) mixed (by kernel_rfl) (fun k w' h _ => ⟨(bl_eqv h hB6), (RdK.eqv h k31.rd)⟩) ?_
          refine WJ.y rfl rfl (fun w' hw' => Yld.pure tab_ok rfl) ?_
          refine WJ.y rfl rfl (fun w' hw' => Yld.pure tab_ok rfl) ?_
          refine WJ.y rfl rfl (fun w' hw' => Yld.bload tab_ok (hw' rfl).1 rfl rfl rfl) ?_
          refine WJ.y rfl rfl (fun w' hw' => Yld.pure tab_ok rfl) ?_
          refine WJ.y rfl rfl (fun w' hw' => Yld.pure tab_ok rfl) ?_
          obtain ⟨h9, H⟩ := H
          refine WJ.y rfl rfl (fun w' hw' => Yld.iaddrK tab_ok k31.rd rfl rfl (hn_out.trans List.length_set.symm) rfl h9.1 h9.2) ?_
          refine WJ.y rfl rfl (fun w' hw' => Yld.faddrK tab_ok k31.rd (iltN h9 (hn_out.trans List.length_set.symm)) rfl rfl rfl) ?_
          refine WJ.y rfl rfl (fun w' hw' => Yld.iloadF (0, [], []) tab_ok (hw' rfl).2 rfl rfl (iltN h9 (hn_out.trans List.length_set.symm)) rfl) ?_
          obtain ⟨h10, H⟩ := H
          refine WJ.eff rfl (Ef0.mapPut (keyF_s Tryz.underlying9) Tryz.underlying91 k30 h10.2 rfl rfl h10.1 rfl) (fun w' h => DD.keep (⟨(Bl.go hB6 (gr_eqv h.2 (Eqv.refl _)) (Dj.new k22.lt' (Ge.box hl4)).symm), (RdK.go k31.rd (gr_eqv h.2 (Eqv.refl _)) (Dn.of dj1.symm))⟩)) ?_
          rintro w16 ⟨hB7, hg12⟩
          have gr16 := gr_mod gr15 hg12 (Ge.le (Ge.box (Nat.le_refl _)) (Nat.le_refl _))
          have k35 := k31.go hg12 dj1.symm
          have k36 := k32.go hg12 dj2.symm
          have k37 := hB6.go hg12 ((Dj.new k22.lt' (Ge.box hl4)).symm)
          refine WJ.nil (WX.block_normal ?_)
          exact WX.weaken (by repeat (first | exact Sub.nil | refine Sub.cons rfl ?_)) (hQ _ _ ⟨mput texts2 t580_Output (((out.set ((t35.getD t37.toNat 0).toNat) (t47_State, t47_Out, t47_Key)).getD ((t35.getD t37.toNat 0).toNat) (0, [], [])).2.1), out.set ((t35.getD t37.toNat 0).toNat) (t47_State, t47_Out, t47_Key), rfl, H, (hn_out.trans List.length_set.symm), gr16, hB7, k35, k36, dj1, dj2, dj3⟩)
        · replace H := H.2 (of_decide_eq_false b4)
          refine WC.skip (WX.block_normal ?_)
          exact WX.weaken (by repeat (first | exact Sub.nil | refine Sub.cons rfl ?_)) (hQ _ _ ⟨texts2, out.set ((t35.getD t37.toNat 0).toNat) (t47_State, t47_Out, t47_Key), rfl, H, (hn_out.trans List.length_set.symm), gr12, k18, hO2, k19, dj1, dj2, dj3⟩)
    · replace H := H.2 (of_decide_eq_false b3)
      refine WC.exit (WX.then_exit (WX.then_exit (WX.block_same (WX.then_normal ?_))))
      refine WC.seq ?_
      refine WC.region ?_
      refine WL.y rfl (Yld.pure tab_ok rfl) ?_
      refine WL.y rfl (Yld.pure tab_ok rfl) ?_
      refine WL.nil (WX.then_normal ?_)
      refine WC.ret ?_
      exact WX.ret1 rfl rfl ⟨gr9, out, (some ⟨g2, 0, none⟩), t32.toNat, (by rw [hn_out]), k10, H⟩

end Go.Proofs.YtjhipfdbionpoaaGreatDoor

 /- smithylaw1.first; Dir, Base, Under; PathDirs. -/
namespace Go.Proofs.YtjhipfdbionpoaaGreatDoor
open Go Go.RowKit
end Go.Proofs.YtjhipfdbionpoaaGreatDoor


 /- Patterns at work: PathStars. -/
namespace Go.Proofs.YtjhipfdbionpoaaGreatDoor
open Go Go.RowKit
end Go.Proofs.YtjhipfdbionpoaaGreatDoor


 /- Clean twice: PathAgain. -/
namespace Go.Proofs.YtjhipfdbionpoaaGreatDoor
open Go Go.RowKit
end Go.Proofs.YtjhipfdbionpoaaGreatDoor


 /- smithysee.Is, plainly. -/
namespace Go.Proofs.YtjhipfdbionpoaaGreatDoor
open Go Go.RowKit
end Go.Proofs.YtjhipfdbionpoaaGreatDoor


 /- The chapter's own words for paths (smithyref1), and PathSays. -/
namespace Go.Proofs.YtjhipfdbionpoaaGreatDoor
open Go Go.RowKit
end Go.Proofs.YtjhipfdbionpoaaGreatDoor


 /- Texts in order, each once: plain, no program. -/
namespace Go.Proofs.YtjhipfdbionpoaaGreatDoor
open Go
abbrev Bs := List UInt8
theorem bs_lt_or (a b : Bs) : a < b ∨ a = b ∨ b < a := by
  by_cases h : a < b
  · exact .inl h
  · by_cases k : b < a
    · exact .inr (.inr k)
    · exact .inr (.inl (List.le_antisymm (List.not_lt.1 k) (List.not_lt.1 h)))
theorem bs_lt_of {a b : Bs} (h : a ≤ b) (hne : a ≠ b) : a < b := by
  rcases bs_lt_or a b with h1 | h1 | h1
  · exact h1
  · exact absurd h1 hne
  · exact absurd h1 (List.not_lt.2 h)
theorem bs_le_lt {a b c : Bs} (h : a ≤ b) (k : b < c) : a < c := by
  by_cases e : a = b
  · rw [e]; exact k
  · exact List.lt_trans (bs_lt_of h e) k
def Strict (l : List Bs) : Prop := l.Pairwise (· < ·)
theorem Strict.nodup {l : List Bs} (h : Strict l) : l.Nodup := List.Pairwise.imp (fun {a b} (hab : a < b) (e : a = b) => List.lt_irrefl b (e ▸ hab)) h
def sortB (l : List Bs) : List Bs := l.mergeSort fun x y => decide (x ≤ y)
theorem sortB_le (l : List Bs) : (sortB l).Pairwise (· ≤ ·) := by
  have h := List.pairwise_mergeSort (le := fun (x y : Bs) => decide (x ≤ y)) (fun a b c h k => by
    simp only [decide_eq_true_eq] at h k ⊢
    exact List.le_trans h k) (fun a b => by
    simp only [Bool.or_eq_true, decide_eq_true_eq]
    exact List.le_total a b) l
  exact h.imp fun h => by simpa using h
theorem sortB_mem (l : List Bs) (x : Bs) : x ∈ sortB l ↔ x ∈ l := (List.mergeSort_perm l _).mem_iff
theorem compactUpTo_strict {ys : List Bs} (h : ys.Pairwise (· ≤ ·)) : ∀ m, m ≤ ys.length → Strict (Lib.compactUpTo ys.toArray m) ∧ ∀ x, x ∈ Lib.compactUpTo ys.toArray m ↔ x ∈ ys.take m
  | 0, _ => ⟨List.Pairwise.nil, fun x => by simp [Lib.compactUpTo]⟩
  | m + 1, hm => by
    obtain ⟨h1, h2⟩ := compactUpTo_strict h m (by omega)
    have hget : ∀ i, i < ys.length → ys.toArray[i]! = ys.getD i [] := fun i hi => by simp [List.getD, hi]
    have hlast : ys.take (m + 1) = ys.take m ++ [ys.getD m []] := by rw [List.take_succ_eq_append_getElem (by omega)]; simp [List.getD, show m < ys.length by omega]
    rw [Lib.compactUpTo_succ, hlast, hget m (by omega)]
    cases hk : Lib.keeps ys.toArray m with
    | true =>
      simp only [if_true]
      refine ⟨List.pairwise_append.2 ⟨h1, List.pairwise_singleton _ _, fun x hx y hy => ?_⟩, fun x => by rw [List.mem_append, List.mem_append, h2]⟩
      simp only [List.mem_singleton] at hy
      subst hy
      have hx' := (h2 x).1 hx
      obtain ⟨i, hi, he⟩ := List.getElem_of_mem hx'
      simp only [List.length_take] at hi
      simp only [List.getElem_take] at he
      have hpw := List.pairwise_iff_getElem.1 h
      have h0 : m ≠ 0 := by omega
      simp only [Lib.keeps, h0, false_or, decide_eq_true_eq, ne_eq] at hk
      rw [hget m (by omega), hget (m - 1) (by omega)] at hk
      have hle : x ≤ ys.getD (m - 1) [] := by
        have e1 : ys.getD (m - 1) [] = ys[m - 1]'(by omega) := by simp [List.getD, show m - 1 < ys.length by omega]
        rw [e1, ← he]
        by_cases e : i = m - 1
        · subst e; exact List.le_refl _
        · exact hpw i (m - 1) (by omega) (by omega) (by omega)
      refine bs_le_lt hle (bs_lt_of ?_ (fun e => hk e.symm))
      have e1 : ys.getD (m - 1) [] = ys[m - 1]'(by omega) := by simp [List.getD, show m - 1 < ys.length by omega]
      have e2 : ys.getD m [] = ys[m]'(by omega) := by simp [List.getD, show m < ys.length by omega]
      rw [e1, e2]
      exact hpw (m - 1) m (by omega) (by omega) (by omega)
    | false =>
      simp only [Bool.false_eq_true, if_false, List.append_nil]
      refine ⟨h1, fun x => ?_⟩
      rw [h2, List.mem_append]
      refine ⟨.inl, fun hx => hx.elim id fun hx => ?_⟩
      simp only [List.mem_singleton] at hx
      subst hx
      simp only [Lib.keeps, decide_eq_false_iff_not, not_or, ne_eq, Classical.not_not] at hk
      have h0 : m ≠ 0 := hk.1
      have he := hk.2
      rw [hget m (by omega), hget (m - 1) (by omega)] at he
      rw [he]
      have : ys.getD (m - 1) [] = (ys.take m)[m - 1]'(by simp; omega) := by simp [List.getD, show m - 1 < ys.length by omega]
      rw [this]
      exact List.getElem_mem _
/-- sorted, each once -/
def sortU (l : List Bs) : List Bs := Lib.compact (sortB l)
theorem sortU_mem (l : List Bs) (x : Bs) : x ∈ sortU l ↔ x ∈ l := by
  have := (compactUpTo_strict (sortB_le l) _ (Nat.le_refl _)).2 x
  rw [List.take_length, sortB_mem] at this
  exact this
theorem compactUpTo_len {α : Type} [Inhabited α] [DecidableEq α] (d : Array α) (m : Nat) : (Lib.compactUpTo d m).length ≤ m := by
  unfold Lib.compactUpTo
  rw [List.length_map]
  exact Nat.le_trans (List.length_filter_le _ _) (by simp)
end Go.Proofs.YtjhipfdbionpoaaGreatDoor


 /- Globs: the plain side. -/
namespace Go.Proofs.YtjhipfdbionpoaaGreatDoor
open Go Go.RowKit
end Go.Proofs.YtjhipfdbionpoaaGreatDoor


 /- What is in order, each once, by any order that parts what is not one: plain, no program. -/
namespace Go.Proofs.YtjhipfdbionpoaaGreatDoor
open Go
/-- an order that parts whatever two things that are not one -/
structure LtT {α : Type} (lt : α → α → Bool) : Prop where
  irrefl : ∀ x, lt x x = false
  trans : ∀ x y z, lt x y = true → lt y z = true → lt x z = true
  tot : ∀ x y, lt x y = false → lt y x = false → x = y
section
variable {α : Type} {lt : α → α → Bool}
theorem LtT.asymm (T : LtT lt) {x y : α} (h : lt x y = true) : lt y x = false := by
  cases k : lt y x with
  | false => rfl
  | true => have := T.trans x y x h k; rw [T.irrefl] at this; cases this
theorem LtT.ntrans (T : LtT lt) (x y z : α) (h : lt x y = false) (k : lt y z = false) : lt x z = false := by
  cases e : lt x z with
  | false => rfl
  | true =>
    cases f : lt z y with
    | true => rw [T.trans x z y e f] at h; cases h
    | false => have := T.tot y z k f; subst this; rw [e] at h; cases h
theorem LtT.le_lt (T : LtT lt) {x y z : α} (h : lt y x = false) (k : lt y z = true) : lt x z = true := by
  cases e : lt x y with
  | true => exact T.trans x y z e k
  | false => have := T.tot x y e h; subst this; exact k
def StrictG (lt : α → α → Bool) (l : List α) : Prop := l.Pairwise fun a b => lt a b = true
theorem StrictG.nodup (T : LtT lt) {l : List α} (h : StrictG lt l) : l.Nodup := List.Pairwise.imp (fun {a b} (hab : lt a b = true) (e : a = b) => by rw [e, T.irrefl] at hab; cases hab) h
def sortG (lt : α → α → Bool) (l : List α) : List α := l.mergeSort fun x y => !(lt y x)
theorem sortG_le (T : LtT lt) (l : List α) : (sortG lt l).Pairwise fun a b => lt b a = false := by
  have h := List.pairwise_mergeSort (le := fun (x y : α) => !(lt y x)) (fun a b c h k => by
    simp only [Bool.not_eq_true'] at h k ⊢
    exact T.ntrans c b a k h) (fun a b => by
    cases e : lt b a with
    | false => simp
    | true => simp [T.asymm e]) l
  exact h.imp fun h => by simpa using h
theorem sortG_perm (l : List α) : (sortG lt l).Perm l := List.mergeSort_perm l _
theorem sortG_mem (l : List α) (x : α) : x ∈ sortG lt l ↔ x ∈ l := (sortG_perm l).mem_iff
theorem sortG_length (l : List α) : (sortG lt l).length = l.length := List.length_mergeSort l
theorem compactUpTo_strictG [Inhabited α] [DecidableEq α] (T : LtT lt) {ys : List α} (h : ys.Pairwise fun a b => lt b a = false) : ∀ m, m ≤ ys.length → StrictG lt (Lib.compactUpTo ys.toArray m) ∧ ∀ x, x ∈ Lib.compactUpTo ys.toArray m ↔ x ∈ ys.take m
  | 0, _ => ⟨List.Pairwise.nil, fun x => by simp [Lib.compactUpTo]⟩
  | m + 1, hm => by
    obtain ⟨h1, h2⟩ := compactUpTo_strictG T h m (by omega)
    have hget : ∀ i, (hi : i < ys.length) → ys.toArray[i]! = ys[i] := fun i hi => by simp [hi]
    have hlast : ys.take (m + 1) = ys.take m ++ [ys[m]'(by omega)] := by rw [List.take_succ_eq_append_getElem (by omega)]
    rw [Lib.compactUpTo_succ, hlast, hget m (by omega)]
    have hpw := List.pairwise_iff_getElem.1 h
    cases hk : Lib.keeps ys.toArray m with
    | true =>
      simp only [if_true]
      refine ⟨List.pairwise_append.2 ⟨h1, List.pairwise_singleton _ _, fun x hx y hy => ?_⟩, fun x => by rw [List.mem_append, List.mem_append, h2]⟩
      simp only [List.mem_singleton] at hy
      subst hy
      have hx' := (h2 x).1 hx
      obtain ⟨i, hi, he⟩ := List.getElem_of_mem hx'
      simp only [List.length_take] at hi
      simp only [List.getElem_take] at he
      have h0 : m ≠ 0 := by omega
      simp only [Lib.keeps, h0, false_or, decide_eq_true_eq, ne_eq] at hk
      rw [hget m (by omega), hget (m - 1) (by omega)] at hk
      have hle : lt (ys[m - 1]'(by omega)) x = false := by
        rw [← he]
        by_cases e : i = m - 1
        · subst e; exact T.irrefl _
        · exact hpw i (m - 1) (by omega) (by omega) (by omega)
      have h3 := hpw (m - 1) m (by omega) (by omega) (by omega)
      have h4 : lt (ys[m - 1]'(by omega)) (ys[m]'(by omega)) = true := by
        cases e : lt (ys[m - 1]'(by omega)) (ys[m]'(by omega)) with
        | true => rfl
        | false => exact absurd (T.tot _ _ h3 e) hk
      exact T.le_lt hle h4
    | false =>
      simp only [Bool.false_eq_true, if_false, List.append_nil]
      refine ⟨h1, fun x => ?_⟩
      rw [h2, List.mem_append]
      refine ⟨.inl, fun hx => hx.elim id fun hx => ?_⟩
      simp only [List.mem_singleton] at hx
      subst hx
      simp only [Lib.keeps, decide_eq_false_iff_not, not_or, ne_eq, Classical.not_not] at hk
      have h0 : m ≠ 0 := hk.1
      have he := hk.2
      rw [hget m (by omega), hget (m - 1) (by omega)] at he
      rw [he]
      have : ys[m - 1]'(by omega) = (ys.take m)[m - 1]'(by simp; omega) := by simp
      rw [this]
      exact List.getElem_mem _
/-- sorted, each once -/
def uniqG [Inhabited α] [DecidableEq α] (lt : α → α → Bool) (l : List α) : List α := Lib.compact (sortG lt l)
theorem uniqG_strict [Inhabited α] [DecidableEq α] (T : LtT lt) (l : List α) : StrictG lt (uniqG lt l) := (compactUpTo_strictG T (sortG_le T l) _ (Nat.le_refl _)).1
theorem uniqG_mem [Inhabited α] [DecidableEq α] (T : LtT lt) (l : List α) (x : α) : x ∈ uniqG lt l ↔ x ∈ l := by
  have := (compactUpTo_strictG T (sortG_le T l) _ (Nat.le_refl _)).2 x
  rw [List.take_length, sortG_mem] at this
  exact this
end
theorem cB_neg : ∀ a b : List UInt8, Lib.compareBytes a b < 0 ↔ a < b
  | [], [] => by simp [Lib.compareBytes]
  | [], _ :: _ => by simp [Lib.compareBytes]
  | _ :: _, [] => by simp [Lib.compareBytes]
  | a :: l, b :: r => by
    unfold Lib.compareBytes
    rw [List.cons_lt_cons_iff]
    split
    · rename_i h; simp [h]
    · split
      · rename_i h k
        constructor
        · intro e; omega
        · rintro (e | ⟨rfl, _⟩)
          · exact absurd e h
          · exact absurd k h
      · rename_i h k
        have e : a = b := UInt8.le_antisymm (UInt8.not_lt.1 k) (UInt8.not_lt.1 h)
        subst e
        rw [cB_neg l r]
        simp [h]
end Go.Proofs.YtjhipfdbionpoaaGreatDoor


 /- A graph of actions, plainly. -/
namespace Go.Proofs.YtjhipfdbionpoaaGreatDoor
open Go Go.RowKit
abbrev TL := List (List UInt8)
abbrev GAct := Int × TL × TL × List UInt8
abbrev MK := List (List UInt8 × Int)
def az : GAct := (0, [], [], [])
theorem clone_M {s : TL} {K : TL → Prop} (hs : s.length ≤ 1000000000) (h : K s) : M_slices_Clone_string_string s K := by
  intro _
  exact ⟨fun e => e ▸ h, by simp only [List.length_nil]; omega, by rw [List.nil_append]; exact h⟩
theorem cloneI_M {s : List Int} {K : List Int → Prop} (hs : s.length ≤ 1000000000) (h : K s) : M_slices_Clone_int_int s K := by
  intro _
  exact ⟨fun e => e ▸ h, by simp only [List.length_nil]; omega, by rw [List.nil_append]; exact h⟩
theorem copied_M {t : Int} {a i : TL} {o : List UInt8} {K : Int → TL → TL → List UInt8 → Prop} (ha : a.length ≤ 1000000) (hi : i.length ≤ 1000000) (h : K t a i o) : M_graph_copied t a i o K := by
  intro _ _
  exact clone_M (by omega) (clone_M (by omega) h)
/-! ### fits -/
def inval (xs : TL) : Bool := xs.any fun s => !validB s
theorem any_take {α : Type} {p : α → Bool} {xs : List α} {d : α} (h : ∀ j, j < xs.length → p (xs.getD j d) = false) : xs.any p = false := by
  rw [List.any_eq_false]
  intro x hx
  obtain ⟨j, hj, rfl⟩ := List.getElem_of_mem hx
  have := h j hj
  simp only [List.getD, List.getElem?_eq_getElem hj, Option.getD_some] at this
  simp [this]
theorem getD_mem2 {α : Type} {l : List α} {k : Nat} {d : α} (h : k < l.length) : l.getD k d ∈ l := by simp [List.getD, h]
theorem contF_M {xs : TL} {K : Bool → Prop} (hl : xs.length ≤ 1000000) (hx : ∀ s ∈ xs, s.length ≤ 4000000000) (h : K (inval xs)) : M_slices_ContainsFunc_string_string_pgraph_Graph_fits_1 xs K := by
  intro _ _
  refine ⟨fun i => 0 ≤ i ∧ i ≤ xs.length ∧ ∀ j, j < i.toNat → (!validB (xs.getD j [])) = false, fun i => xs.length - i.toNat, ⟨by omega, by omega, by intro j hj; simp at hj⟩, fun i ⟨a0, a1, a2⟩ => ⟨fun hlt => ⟨⟨a0, hlt⟩, valid_M (hx _ (getD_mem2 (by omega))) ⟨fun ht => ?_, fun hf => ⟨by simp only [In]; omega, ⟨by omega, by omega, fun j hj => ?_⟩, by (try dsimp only); omega⟩⟩⟩, fun hge => ?_⟩⟩
  · have : inval xs = true := List.any_eq_true.2 ⟨_, getD_mem2 (by omega), ht⟩
    rw [this] at h
    show K (decide (0 ≤ i))
    rw [decide_eq_true a0]; exact h
  · by_cases e : j = i.toNat
    · rw [e]; exact hf
    · exact a2 j (by omega)
  · have : inval xs = false := any_take (d := []) fun j hj => a2 j (by omega)
    rw [this] at h
    exact h
def fitsP (mk : MK) (a : GAct) : Er :=
  if a.1 < 1 ∨ 5 < a.1 then .e 10 else if validB a.2.2.2 = false ∨ inval a.2.2.1 = true then .e 11 else if (mget mk a.2.2.2).isSome = true then .e 6 else .ok
theorem fits_M {gl : List GAct} {mk : MK} {gb ga : List (List Int)} {a : GAct} {K : Er → Prop} (hi : a.2.2.1.length ≤ 1000000) (hx : ∀ s ∈ a.2.2.1, s.length ≤ 4000000000) (ho : a.2.2.2.length ≤ 4000000000) (h : K (fitsP mk a)) : M_pgraph_Graph_fits gl mk gb ga a.1 a.2.1 a.2.2.1 a.2.2.2 K := by
  intro _ _ _ _ _
  unfold fitsP at h
  refine ⟨fun hb => ?_, fun hb => ?_⟩
  · have : a.1 < 1 ∨ 5 < a.1 := by simpa using hb
    rwa [if_pos this] at h
  · have : ¬ (a.1 < 1 ∨ 5 < a.1) := fun hn => by
      rw [Bool.or_eq_false_iff, decide_eq_false_iff_not, decide_eq_false_iff_not] at hb
      exact hn.elim hb.1 hb.2
    rw [if_neg this] at h
    refine valid_M ho ⟨fun b => b = decide (validB a.2.2.2 = false ∨ inval a.2.2.1 = true), ⟨fun hv => ?_, fun hv => contF_M hi hx ?_⟩, fun q hq => ⟨fun ht => ?_, fun hf => ⟨by unfold maxLen; omega, fun hs => ?_, fun hs => ?_⟩⟩⟩
    · have : validB a.2.2.2 = false := by simpa using hv
      rw [decide_eq_true (.inl this)]
    · have hv' : validB a.2.2.2 = true := by simpa using hv
      cases hin : inval a.2.2.1 <;> simp [hv']
    · rw [hq, decide_eq_true_eq] at ht
      rwa [if_pos ht] at h
    · rw [hq, decide_eq_false_iff_not] at hf
      rwa [if_neg hf, if_pos hs] at h
    · rw [hq, decide_eq_false_iff_not] at hf
      rwa [if_neg hf, if_neg (by rw [hs]; simp)] at h
def manyA (a : GAct) : Bool := decide ((1000 : Int) < (a.2.2.1.length : Int)) || decide ((1000 : Int) < (a.2.1.length : Int))
theorem contA_M {l : List GAct} {K : Bool → Prop} (hl : l.length ≤ 1000000) (h : K (l.any manyA)) : M_slices_ContainsFunc_api_Action_api_Action_graph_New_1 l K := by
  intro _ _
  refine ⟨fun i => 0 ≤ i ∧ i ≤ l.length ∧ ∀ j, j < i.toNat → manyA (l.getD j az) = false, fun i => l.length - i.toNat, ⟨by omega, by omega, by intro j hj; simp at hj⟩, fun i ⟨a0, a1, a2⟩ => ⟨fun hlt => ⟨⟨a0, hlt⟩, fun _ _ => ⟨fun ht => ?_, fun hf => ⟨by simp only [In]; omega, ⟨by omega, by omega, fun j hj => ?_⟩, by (try dsimp only); omega⟩⟩⟩, fun hge => ?_⟩⟩
  · have : l.any manyA = true := List.any_eq_true.2 ⟨_, getD_mem2 (d := az) (by omega), ht⟩
    rw [this] at h
    show K (decide (0 ≤ i))
    rw [decide_eq_true a0]; exact h
  · by_cases e : j = i.toNat
    · rw [e]; exact hf
    · exact a2 j (by omega)
  · have : l.any manyA = false := any_take (d := az) fun j hj => a2 j (by omega)
    rw [this] at h
    exact h
/-! ### what is reached -/
theorem getD_setG {α : Type} {l : List α} {i j : Nat} {x d : α} (hi : i < l.length) : (l.set i x).getD j d = if i = j then x else l.getD j d := by
  simp only [List.getD, List.getElem?_set]
  by_cases e : i = j
  · subst e; simp [hi]
  · simp [e]
inductive Rch (bef : List (List Int)) (fr : List Int) : Int → Prop
  | base {k : Int} : k ∈ fr → Rch bef fr k
  | step {j k : Int} : Rch bef fr j → k ∈ bef.getD j.toNat [] → Rch bef fr k
def unm (bef : List (List Int)) (met : List Bool) : Nat → Nat
  | 0 => 0
  | m + 1 => unm bef met m + if met.getD m false = true then 0 else (bef.getD m []).length
def tot (bef : List (List Int)) : Nat → Nat
  | 0 => 0
  | m + 1 => tot bef m + (bef.getD m []).length
theorem unm_le (bef : List (List Int)) (met : List Bool) : ∀ m, unm bef met m ≤ tot bef m
  | 0 => Nat.le_refl _
  | m + 1 => by
    have := unm_le bef met m
    unfold unm tot
    split <;> omega
theorem unm_set (bef : List (List Int)) {met : List Bool} {k : Nat} (hk : k < met.length) (hf : met.getD k false = false) : ∀ m, m ≤ met.length → unm bef (met.set k true) m + (if k < m then (bef.getD k []).length else 0) = unm bef met m
  | 0, _ => by rw [if_neg (Nat.not_lt_zero _)]; rfl
  | m + 1, h => by
    have ih := unm_set bef hk hf m (by omega)
    unfold unm
    rw [getD_setG hk]
    by_cases e : k = m
    · subst e
      rw [if_neg (Nat.lt_irrefl _)] at ih
      rw [if_pos rfl, if_pos rfl, if_pos (by omega), hf]
      simp only [Bool.false_eq_true, if_false]
      omega
    · rw [if_neg e]
      generalize (if met.getD m false = true then 0 else (bef.getD m []).length) = z
      by_cases h2 : k < m
      · have h3 : k < m + 1 := by omega
        rw [if_pos h2] at ih
        rw [if_pos h3]; omega
      · have h3 : ¬ k < m + 1 := by omega
        rw [if_neg h2] at ih
        rw [if_neg h3]; omega
theorem reach_M {gl : List GAct} {mk : MK} {bef ga : List (List Int)} {fr : List Int} {K : List Bool → Prop} (hn : gl.length ≤ 1000000) (hb : bef.length = gl.length) (hr : ∀ j, j < bef.length → ∀ k ∈ bef.getD j [], 0 ≤ k ∧ k < gl.length) (hf : ∀ k ∈ fr, 0 ≤ k ∧ k < (gl.length : Int)) (hs : fr.length + tot bef gl.length ≤ 100000000)
    (h : ∀ met : List Bool, met.length = gl.length → (∀ k : Nat, k < gl.length → (met.getD k false = true ↔ Rch bef fr k)) → K met) : M_pgraph_Graph_reach gl mk bef ga fr K := by
  intro _ _ _ _
  refine ⟨⟨by omega, by omega, by omega⟩, cloneI_M (by omega) ?_⟩
  refine ⟨fun work met => met.length = gl.length ∧ (∀ k ∈ work, Rch bef fr k ∧ 0 ≤ k ∧ k < (gl.length : Int)) ∧ (∀ k : Nat, k < gl.length → met.getD k false = true → Rch bef fr k) ∧ (∀ f ∈ fr, f ∈ work ∨ met.getD f.toNat false = true) ∧ (∀ k : Nat, k < gl.length → met.getD k false = true → ∀ j ∈ bef.getD k [], j ∈ work ∨ met.getD j.toNat false = true) ∧ work.length + unm bef met gl.length ≤ fr.length + tot bef gl.length, fun work met => work.length + unm bef met gl.length, ⟨by simp, fun k hk => ⟨.base hk, hf k hk⟩, fun k hk hm => ?_, fun f hf => .inl hf, fun k hk hm => ?_, ?_⟩, fun work met ⟨a0, a1, a2, a3, a4, a5⟩ _ => ⟨fun hpos => ?_, fun hz => ?_⟩⟩
  · simp [List.getD, List.getElem?_replicate, hk] at hm
  · simp [List.getD, List.getElem?_replicate, hk] at hm
  · have := unm_le bef (List.replicate (gl.length : Int).toNat false) gl.length
    omega
  · have hne : work ≠ [] := fun e => by rw [e] at hpos; simp at hpos
    obtain ⟨w', k, rfl⟩ : ∃ w' k, work = w' ++ [k] := ⟨work.dropLast, work.getLast hne, (List.dropLast_concat_getLast hne).symm⟩
    have hwl : (w' ++ [k]).length = w'.length + 1 := by simp
    have ht : (((w' ++ [k]).length : Int) - 1).toNat = w'.length := by omega
    have hg : (w' ++ [k]).getD w'.length 0 = k := by simp [List.getD]
    have htk : (w' ++ [k]).take w'.length = w' := List.take_left' rfl
    obtain ⟨k1, k2, k3⟩ := a1 k (by simp)
    have hkn : k.toNat < gl.length := by omega
    have hkk : ((k.toNat : Nat) : Int) = k := by omega
    have hnn : ((gl.length : Int).toNat : Int) = gl.length := by omega
    rw [ht, hg, htk]
    refine ⟨by simp only [In]; omega, ⟨by omega, by omega⟩, by simp only [In]; omega, ⟨by omega, by omega⟩, ⟨k2, by omega⟩, fun hm => ?_, fun hm => ?_⟩
    · have hm' : met.getD k.toNat false = false := by simpa using hm
      have hu := unm_set bef (met := met) (by omega) hm' gl.length (by omega)
      rw [if_pos hkn] at hu
      refine ⟨⟨k2, by omega⟩, ⟨k2, by omega⟩, by omega, ⟨by rw [List.length_set, a0], fun j hj => ?_, fun j hj hmj => ?_, fun f hf => ?_, fun j hj hmj x hx => ?_, by rw [List.length_append]; omega⟩, by (try dsimp only); rw [List.length_append]; omega⟩
      · rcases List.mem_append.1 hj with hj | hj
        · exact a1 j (List.mem_append_left _ hj)
        · exact ⟨.step k1 hj, hr _ (by omega) j hj⟩
      · rw [getD_setG (by omega)] at hmj
        by_cases e : k.toNat = j
        · rw [← e, hkk]; exact k1
        · rw [if_neg e] at hmj; exact a2 j hj hmj
      · rcases a3 f hf with hf' | hf'
        · rcases List.mem_append.1 hf' with hf' | hf'
          · exact .inl (List.mem_append_left _ hf')
          · right
            rw [List.mem_singleton.1 hf', getD_setG (by omega), if_pos rfl]
        · right
          rw [getD_setG (by omega)]
          split
          · rfl
          · exact hf'
      · rw [getD_setG (by omega)] at hmj
        by_cases e : k.toNat = j
        · rw [← e] at hx
          exact .inl (List.mem_append_right _ hx)
        · rw [if_neg e] at hmj
          rcases a4 j hj hmj x hx with hx' | hx'
          · rcases List.mem_append.1 hx' with hx' | hx'
            · exact .inl (List.mem_append_left _ hx')
            · right
              rw [List.mem_singleton.1 hx', getD_setG (by omega), if_pos rfl]
          · right
            rw [getD_setG (by omega)]
            split
            · rfl
            · exact hx'
    · have hm' : met.getD k.toNat false = true := by simpa using hm
      refine ⟨⟨a0, fun j hj => a1 j (List.mem_append_left _ hj), a2, fun f hf => ?_, fun j hj hmj x hx => ?_, by omega⟩, by (try dsimp only); omega⟩
      · rcases a3 f hf with hf' | hf'
        · rcases List.mem_append.1 hf' with hf' | hf'
          · exact .inl hf'
          · right; rw [List.mem_singleton.1 hf']; exact hm'
        · exact .inr hf'
      · rcases a4 j hj hmj x hx with hx' | hx'
        · rcases List.mem_append.1 hx' with hx' | hx'
          · exact .inl hx'
          · right; rw [List.mem_singleton.1 hx']; exact hm'
        · exact .inr hx'
  · have hw : work = [] := List.eq_nil_of_length_eq_zero (by omega)
    subst hw
    have hin : ∀ k, Rch bef fr k → 0 ≤ k ∧ k < (gl.length : Int) ∧ met.getD k.toNat false = true := fun k hk => by
      induction hk with
      | base hf' => 
        obtain ⟨h1, h2⟩ := hf _ hf'
        exact ⟨h1, h2, (a3 _ hf').resolve_left (by simp)⟩
      | step _ hj ih =>
        obtain ⟨i1, i2, i3⟩ := ih
        obtain ⟨h1, h2⟩ := hr _ (by omega) _ hj
        exact ⟨h1, h2, (a4 _ (by omega) i3 _ hj).resolve_left (by simp)⟩
    exact h met a0 fun k hk => ⟨fun hm => a2 k hk hm, fun hR => by have := (hin _ hR).2.2; simpa using this⟩
end Go.Proofs.YtjhipfdbionpoaaGreatDoor


 /- A graph of actions, plainly: made, and asked. -/
namespace Go.Proofs.YtjhipfdbionpoaaGreatDoor
open Go Go.RowKit
def ltI (a b : Int) : Bool := decide (a < b)
theorem ltI_T : LtT ltI := ⟨fun x => by simp [ltI], fun x y z h k => by simp [ltI] at *; omega, fun x y h k => by simp [ltI] at *; omega⟩
theorem sortI_eq (xs : List Int) : (xs.mergeSort fun x y => decide (x ≤ y)) = sortG ltI xs := by
  unfold sortG ltI
  congr 1
  funext x y
  rw [Bool.eq_iff_iff]
  simp
theorem uniqG_len {xs : List Int} : (uniqG ltI xs).length ≤ xs.length := by
  unfold uniqG Lib.compact
  have h := compactUpTo_len (sortG ltI xs).toArray (sortG ltI xs).length
  have h2 := sortG_length (lt := ltI) xs
  omega
def mkP (l : List GAct) : Nat → MK
  | 0 => []
  | i + 1 => mput (mkP l i) (l.getD i az).2.2.2 (i : Int)
def fitsAt (l : List GAct) (i : Nat) : Er := fitsP (mkP l i) (l.getD i az)
def befA (mk : MK) (inp : TL) : List Int := uniqG ltI (inp.filterMap (mget mk))
def bsP (l : List GAct) (i : Nat) : List Int := befA (mkP l l.length) (l.getD i az).2.2.1
def befL (l : List GAct) (m : Nat) : List (List Int) := (List.range m).map (bsP l)
def aftK (l : List GAct) (i k : Nat) : List Int := ((List.range i).filter fun j => decide ((k : Int) ∈ bsP l j)).map fun (j : Nat) => (j : Int)
def aftL (l : List GAct) (i : Nat) : List (List Int) := (List.range l.length).map (aftK l i)
theorem rng_getD {β : Type} {f : Nat → β} {n k : Nat} {d : β} (h : k < n) : ((List.range n).map f).getD k d = f k := by simp [List.getD, h]
theorem rng_set {β : Type} {f : Nat → β} {n k : Nat} {v : β} : ((List.range n).map f).set k v = (List.range n).map fun j => if k = j then v else f j := by
  refine List.ext_getElem (by simp) fun i h1 h2 => ?_
  simp only [List.getElem_set, List.getElem_map, List.getElem_range]
theorem mkP_succ (l : List GAct) (i : Nat) : mkP l (i + 1) = mput (mkP l i) (l.getD i az).2.2.2 (i : Int) := rfl
theorem mkP_len (l : List GAct) : ∀ i, (mkP l i).length ≤ i
  | 0 => Nat.le_refl _
  | i + 1 => by
    have := mkP_len l i
    unfold mkP
    rw [mput_len]; split <;> omega
theorem mkP_val {l : List GAct} {s : List UInt8} {v : Int} : ∀ {i : Nat}, mget (mkP l i) s = some v → ∃ j, j < i ∧ v = (j : Int) ∧ (l.getD j az).2.2.2 = s
  | 0, h => by simp [mkP, mget] at h
  | i + 1, h => by
    unfold mkP at h
    rw [mget_mput] at h
    split at h
    · rename_i e
      simp only [Option.some.injEq] at h
      exact ⟨i, by omega, h.symm, e⟩
    · obtain ⟨j, h1, h2, h3⟩ := mkP_val h
      exact ⟨j, by omega, h2, h3⟩
theorem bsP_mem {l : List GAct} {i : Nat} {k : Int} : k ∈ bsP l i ↔ ∃ s ∈ (l.getD i az).2.2.1, mget (mkP l l.length) s = some k := by
  unfold bsP befA
  rw [uniqG_mem ltI_T, List.mem_filterMap]
theorem bsP_in {l : List GAct} {i : Nat} {k : Int} (h : k ∈ bsP l i) : 0 ≤ k ∧ k < (l.length : Int) := by
  obtain ⟨s, _, hs⟩ := bsP_mem.1 h
  obtain ⟨j, h1, h2, _⟩ := mkP_val hs
  omega
theorem bsP_nodup (l : List GAct) (i : Nat) : (bsP l i).Nodup := StrictG.nodup ltI_T (uniqG_strict ltI_T _)
theorem bsP_len (l : List GAct) (i : Nat) : (bsP l i).length ≤ (l.getD i az).2.2.1.length := Nat.le_trans uniqG_len (List.length_filterMap_le _ _)
theorem tot_le {bef : List (List Int)} {c : Nat} (h : ∀ j, (bef.getD j []).length ≤ c) : ∀ m, tot bef m ≤ c * m
  | 0 => by simp [tot]
  | m + 1 => by
    have h1 := tot_le h m
    have h2 := h m
    unfold tot
    rw [Nat.mul_succ]; omega
theorem befL_getD {l : List GAct} {m j : Nat} : (befL l m).getD j [] = if j < m then bsP l j else [] := by
  unfold befL
  split
  · rename_i h; exact rng_getD h
  · rename_i h
    simp [List.getD, h]
theorem aftK_succ (l : List GAct) (i k : Nat) : aftK l (i + 1) k = aftK l i k ++ if (k : Int) ∈ bsP l i then [(i : Int)] else [] := by
  unfold aftK
  rw [List.range_succ, List.filter_append, List.map_append]
  congr 1
  rw [List.filter_cons, List.filter_nil]
  by_cases h : (k : Int) ∈ bsP l i
  · rw [if_pos h, if_pos (decide_eq_true h)]; rfl
  · rw [if_neg h, if_neg (by simpa using h)]; rfl
theorem aftK_len (l : List GAct) (i k : Nat) : (aftK l i k).length ≤ i := by
  unfold aftK
  rw [List.length_map]
  exact Nat.le_trans (List.length_filter_le _ _) (by simp)
theorem fitsP_cases (mk : MK) (a : GAct) : fitsP mk a = .ok ∨ ∃ n, fitsP mk a = .e n := by
  unfold fitsP
  split
  · exact .inr ⟨_, rfl⟩
  · split
    · exact .inr ⟨_, rfl⟩
    · split
      · exact .inr ⟨_, rfl⟩
      · exact .inl rfl
theorem take_succ_getD {α : Type} {xs : List α} {t : Nat} (d : α) (h : t < xs.length) : xs.take (t + 1) = xs.take t ++ [xs.getD t d] := by
  rw [List.take_succ_eq_append_getElem h]
  simp [List.getD, h]
theorem new_M {l : List GAct} {K0 : Er → Prop} {K : List GAct → MK → List (List Int) → List (List Int) → Er → Prop} (hl : l.length ≤ 1000000) (hsz : ∀ a ∈ l, (∀ s ∈ a.2.2.1, s.length ≤ 4000000000) ∧ a.2.2.2.length ≤ 4000000000)
    (hmany : 1000 < l.length ∨ l.any manyA = true → K0 (.e 9))
    (hfit : l.length ≤ 1000 → l.any manyA = false → ∀ i n, i < l.length → (∀ j, j < i → fitsAt l j = .ok) → fitsAt l i = .e n → K0 (.at_ i n))
    (hcyc : l.length ≤ 1000 → l.any manyA = false → (∀ j, j < l.length → fitsAt l j = .ok) → ∀ i, i < l.length → (∀ j, j < i → ¬ Rch (befL l l.length) (bsP l j) (j : Int)) → Rch (befL l l.length) (bsP l i) (i : Int) → K0 (.at_ i 4))
    (hok : l.length ≤ 1000 → l.any manyA = false → (∀ j, j < l.length → fitsAt l j = .ok) → (∀ j, j < l.length → ¬ Rch (befL l l.length) (bsP l j) (j : Int)) → K l (mkP l l.length) (befL l l.length) (aftL l l.length) .ok) : M_graph_New l K0 K := by
  intro _
  refine ⟨fun b => b = (decide ((1000 : Int) < (l.length : Int)) || l.any manyA), ⟨fun h => by rw [h]; rfl, fun h => contA_M (by omega) (by rw [h]; rfl)⟩, fun q hq => ⟨fun ht => hmany ?_, fun hf => ?_⟩⟩
  · rw [hq, Bool.or_eq_true, decide_eq_true_eq] at ht
    exact ht.imp (fun h => by omega) id
  rw [hq, Bool.or_eq_false_iff, decide_eq_false_iff_not] at hf
  have hl1 : l.length ≤ 1000 := by omega
  have hm := hf.2
  have hfit := hfit hl1 hm
  have hcyc := hcyc hl1 hm
  have hok := hok hl1 hm
  have hge : ∀ i, i < l.length → (∀ s ∈ (l.getD i az).2.2.1, s.length ≤ 4000000000) ∧ (l.getD i az).2.2.2.length ≤ 4000000000 ∧ (l.getD i az).2.2.1.length ≤ 1000 ∧ (l.getD i az).2.1.length ≤ 1000 := fun i hi => by
    have h1 := hsz _ (getD_mem2 (d := az) hi)
    have h2 := List.any_eq_false.1 hm _ (getD_mem2 (d := az) hi)
    have h3 : manyA (l.getD i az) = false := by simpa using h2
    unfold manyA at h3
    rw [Bool.or_eq_false_iff, decide_eq_false_iff_not, decide_eq_false_iff_not] at h3
    exact ⟨h1.1, h1.2, by omega, by omega⟩
  clear hf hm hmany hq
  refine ⟨fun i l' mk => 0 ≤ i ∧ i ≤ l.length ∧ l' = l.take i.toNat ∧ mk = mkP l i.toNat ∧ ∀ j, j < i.toNat → fitsAt l j = .ok, fun i _ _ => l.length - i.toNat, ⟨by omega, by omega, rfl, rfl, fun j hj => by simp at hj⟩, fun i l' mk ⟨a0, a1, a2, a3, a4⟩ => ⟨fun hlt => ?_, fun hge2 => ?_⟩⟩
  · have hi : i.toNat < l.length := by omega
    obtain ⟨g1, g2, g3, g4⟩ := hge _ hi
    have hii : (i.toNat : Int) = i := by omega
    have hml := mkP_len l i.toNat
    refine ⟨⟨a0, hlt⟩, fits_M (a := l.getD i.toNat az) (by omega) g1 g2 ⟨fun hne => ?_, fun he => ⟨⟨by unfold maxLen; exact Nat.le_trans g2 (by omega), by unfold maxLen; rw [a3]; omega⟩, copied_M (by show (l.getD i.toNat az).2.1.length ≤ _; omega) (by show (l.getD i.toNat az).2.2.1.length ≤ _; omega) ⟨?_, by simp only [In]; omega, ⟨by omega, by omega, ?_, ?_, fun j hj => ?_⟩, by (try dsimp only); omega⟩⟩⟩⟩
    · rw [a3] at hne
      rcases fitsP_cases (mkP l i.toNat) (l.getD i.toNat az) with h | ⟨n, h⟩
      · exact absurd h hne
      · refine ⟨n, by rw [a3]; exact h, ?_⟩
        have := hfit i.toNat n hi a4 h
        rwa [hii] at this
    · rw [a2, List.length_take, List.length_singleton]; omega
    · rw [show (i + 1).toNat = i.toNat + 1 by omega, List.take_succ_eq_append_getElem hi, a2]
      have : l.getD i.toNat az = l[i.toNat] := by simp [List.getD, hi]
      show l.take i.toNat ++ [l.getD i.toNat az] = _
      rw [this]
    · rw [show (i + 1).toNat = i.toNat + 1 by omega, a3]
      rw [mkP_succ, hii]; rfl
    · by_cases e : j = i.toNat
      · rw [e]; rw [a3] at he; exact he
      · exact a4 j (by omega)
  · obtain rfl : i = l.length := by omega
    have e1 : l' = l := by rw [a2]; simp
    have e2 : mk = mkP l l.length := by rw [a3]; simp
    have hfits : ∀ j, j < l.length → fitsAt l j = .ok := fun j hj => a4 j (by omega)
    rw [e1, e2]
    clear a0 a1 a2 a3 a4 e1 e2 hge2 hfit
    have hnn : ((l.length : Nat) : Int).toNat = l.length := by omega
    have hbin : ∀ i, i < l.length → (bsP l i).length ≤ 1000 := fun i hi => Nat.le_trans (bsP_len l i) (hge i hi).2.2.1
    rw [hnn]
    refine ⟨⟨by omega, by omega, by omega⟩, fun i bef aft => 0 ≤ i ∧ i ≤ l.length ∧ bef = befL l i.toNat ∧ aft = aftL l i.toNat, fun i _ _ => l.length - i.toNat, ⟨by omega, by omega, rfl, ?_⟩, fun i bef aft ⟨a0, a1, a2, a3⟩ => ⟨fun hlt => ?_, fun hge2 => ?_⟩⟩
    · unfold aftL
      refine List.ext_getElem (by simp) fun k h1 h2 => ?_
      simp [aftK]
    · have hi : i.toNat < l.length := by omega
      have hii : (i.toNat : Int) = i := by omega
      obtain ⟨g1, g2, g3, g4⟩ := hge _ hi
      refine ⟨⟨a0, hlt⟩, ?_⟩
      show Lp2 (fun before t84 kont3 => ((t84 < ((l.getD i.toNat az).2.2.1.length : Int) → _) ∧ _)) _ _
      refine ⟨fun before t => 0 ≤ t ∧ t ≤ (l.getD i.toNat az).2.2.1.length ∧ before = ((l.getD i.toNat az).2.2.1.take t.toNat).filterMap (mget (mkP l l.length)), fun _ t => (l.getD i.toNat az).2.2.1.length - t.toNat, ⟨by omega, by omega, rfl⟩, fun before t ⟨b0, b1, b2⟩ => ⟨fun hlt2 => ?_, fun hge3 => ?_⟩⟩
      · have ht : t.toNat < (l.getD i.toNat az).2.2.1.length := by omega
        have hsl := g1 _ (getD_mem2 (d := []) ht)
        have hbl : before.length ≤ 1000 := by
          rw [b2]
          exact Nat.le_trans (List.length_filterMap_le _ _) (by rw [List.length_take]; omega)
        have htk : (l.getD i.toNat az).2.2.1.take (t + 1).toNat = (l.getD i.toNat az).2.2.1.take t.toNat ++ [(l.getD i.toNat az).2.2.1.getD t.toNat []] := by
          rw [show (t + 1).toNat = t.toNat + 1 by omega]
          exact take_succ_getD [] ht
        refine ⟨fun b2' => b2' = ((l.getD i.toNat az).2.2.1.take (t + 1).toNat).filterMap (mget (mkP l l.length)), ⟨⟨b0, hlt2⟩, by unfold maxLen; exact Nat.le_trans hsl (by omega), fun hs => ⟨by rw [List.length_singleton]; omega, ?_⟩, fun hs => ?_⟩, fun b2' hb => ⟨by simp only [In]; omega, ⟨by omega, by omega, hb⟩, by (try dsimp only); omega⟩⟩
        · obtain ⟨v, hv⟩ := Option.isSome_iff_exists.1 hs
          rw [htk, List.filterMap_append, ← b2]
          show _ = before ++ [(l.getD i.toNat az).2.2.1.getD t.toNat []].filterMap (mget (mkP l l.length))
          have hv' : mget (mkP l l.length) ((l.getD i.toNat az).2.2.1.getD t.toNat []) = some v := hv
          rw [List.filterMap_cons, hv']
          show before ++ [(mget (mkP l l.length) ((l.getD i.toNat az).2.2.1.getD t.toNat [])).getD 0] = _
          rw [hv']; rfl
        · have hn : mget (mkP l l.length) ((l.getD i.toNat az).2.2.1.getD t.toNat []) = none := by
            have : (mget (mkP l l.length) ((l.getD i.toNat az).2.2.1.getD t.toNat [])).isSome = false := hs
            simpa using this
          rw [htk, List.filterMap_append, ← b2, List.filterMap_cons, hn]
          simp
      · have hge3' : ¬ t < ((l.getD i.toNat az).2.2.1.length : Int) := hge3
        have ht : t.toNat = (l.getD i.toNat az).2.2.1.length := by omega
        rw [ht, List.take_length] at b2
        have hbl : before.length ≤ 1000 := by
          rw [b2]
          exact Nat.le_trans (List.length_filterMap_le _ _) g3
        refine ⟨by omega, ?_⟩
        rw [sortI_eq]
        have hbs : Lib.compact (sortG ltI before) = bsP l i.toNat := by rw [b2]; rfl
        have hbsl := hbin _ hi
        show _ ∧ _
        rw [hbs]
        refine ⟨by rw [a2]; unfold befL; rw [List.length_map, List.length_range, List.length_singleton]; omega, ?_⟩
        refine ⟨fun t aft2 => 0 ≤ t ∧ t ≤ (bsP l i.toNat).length ∧ aft2 = (List.range l.length).map fun k => aftK l i.toNat k ++ (if (k : Int) ∈ (bsP l i.toNat).take t.toNat then [i] else []), fun t _ => (bsP l i.toNat).length - t.toNat, ⟨by omega, by omega, ?_⟩, fun t aft2 ⟨c0, c1, c2⟩ => ⟨fun hlt3 => ?_, fun hge4 => ?_⟩⟩
        · rw [a3]; unfold aftL; simp
        · have ht2 : t.toNat < (bsP l i.toNat).length := by omega
          have he := bsP_in (getD_mem2 (d := 0) ht2)
          have hel : (bsP l i.toNat).getD t.toNat 0 = (bsP l i.toNat)[t.toNat] := by simp [List.getD, ht2]
          generalize hx : (bsP l i.toNat).getD t.toNat 0 = x at he
          have hxk : x.toNat < l.length := by omega
          have hxx : ((x.toNat : Nat) : Int) = x := by omega
          have hnd := bsP_nodup l i.toNat
          have htk : (bsP l i.toNat).take (t + 1).toNat = (bsP l i.toNat).take t.toNat ++ [x] := by
            rw [show (t + 1).toNat = t.toNat + 1 by omega, List.take_succ_eq_append_getElem ht2, ← hel, hx]
          have hnot : x ∉ (bsP l i.toNat).take t.toNat := fun hm => by
            have : ((bsP l i.toNat).take (t + 1).toNat).Nodup := hnd.sublist (List.take_sublist _ _)
            rw [htk, List.nodup_append] at this
            exact this.2.2 x hm x (by simp) rfl
          have hal : aft2.length = l.length := by rw [c2, List.length_map, List.length_range]
          have hgx : aft2.getD x.toNat [] = aftK l i.toNat x.toNat := by
            rw [c2, rng_getD hxk, hxx, if_neg hnot, List.append_nil]
          have hkl := aftK_len l i.toNat x.toNat
          rw [hgx]
          refine ⟨⟨c0, hlt3⟩, ⟨he.1, by omega⟩, by rw [List.length_singleton]; omega, ⟨he.1, by omega⟩, by simp only [In]; omega, ⟨by omega, by omega, ?_⟩, by (try dsimp only); omega⟩
          rw [c2, rng_set, htk]
          refine List.map_congr_left fun k _ => ?_
          by_cases e : x.toNat = k
          · subst e
            rw [if_pos rfl, hxx, if_pos (by simp)]
          · rw [if_neg e]
            have : ((k : Int) ∈ (bsP l i.toNat).take t.toNat ++ [x]) ↔ (k : Int) ∈ (bsP l i.toNat).take t.toNat := by
              rw [List.mem_append, List.mem_singleton]
              exact ⟨fun h => h.resolve_right (fun e2 => e (by omega)), .inl⟩
            simp only [this]
        · have ht2 : t.toNat = (bsP l i.toNat).length := by omega
          rw [ht2, List.take_length] at c2
          refine ⟨by simp only [In]; omega, ⟨by omega, by omega, ?_, ?_⟩, by (try dsimp only); omega⟩
          · rw [show (i + 1).toNat = i.toNat + 1 by omega, a2]
            unfold befL
            rw [List.range_succ, List.map_append]; rfl
          · rw [show (i + 1).toNat = i.toNat + 1 by omega, c2]
            unfold aftL
            refine List.map_congr_left fun k _ => ?_
            rw [aftK_succ, hii]
    · obtain rfl : i = l.length := by omega
      rw [hnn] at a2 a3
      subst a2; subst a3
      have hbl : (befL l l.length).length = l.length := by unfold befL; rw [List.length_map, List.length_range]
      have htot : tot (befL l l.length) l.length ≤ 1000 * l.length := tot_le (fun j => by
        rw [befL_getD]
        split
        · exact hbin _ (by assumption)
        · simp) _
      refine ⟨fun i => 0 ≤ i ∧ i ≤ l.length ∧ ∀ j, j < i.toNat → ¬ Rch (befL l l.length) (bsP l j) (j : Int), fun i => l.length - i.toNat, ⟨by omega, by omega, fun j hj => by simp at hj⟩, fun i ⟨a0, a1, a2⟩ => ⟨fun hlt => ?_, fun hge2 => hok hfits fun j hj => a2 j (by omega)⟩⟩
      have hi : i.toNat < l.length := by omega
      have hii : (i.toNat : Int) = i := by omega
      have hgi : (befL l l.length).getD i.toNat [] = bsP l i.toNat := by rw [befL_getD, if_pos hi]
      have := hbin _ hi
      rw [hgi]
      refine ⟨⟨a0, by omega⟩, reach_M (by omega) hbl (fun j hj k hk => ?_) (fun k hk => bsP_in hk) (by omega) fun met m1 m2 => ⟨⟨a0, by omega⟩, fun ht => ⟨4, rfl, ?_⟩, fun hf => ⟨by simp only [In]; omega, ⟨by omega, by omega, fun j hj => ?_⟩, by (try dsimp only); omega⟩⟩⟩
      · rw [befL_getD] at hk
        split at hk
        · exact bsP_in hk
        · simp at hk
      · have := hcyc hfits i.toNat hi a2 ((m2 _ hi).1 ht)
        rwa [hii] at this
      · by_cases e : j = i.toNat
        · rw [e]
          exact fun hR => by rw [(m2 _ hi).2 hR] at hf; cases hf
        · exact a2 j (by omega)
end Go.Proofs.YtjhipfdbionpoaaGreatDoor


 /- A graph of actions, plainly: what is needed, the sources, what hangs on an action. -/
namespace Go.Proofs.YtjhipfdbionpoaaGreatDoor
open Go Go.RowKit
theorem numG_M {n below : Int} {K : Int → Prop} (hn : In .i64 n) (hb : 0 < below) (hb2 : below ≤ 100000) (h : ∀ m, 0 ≤ m → m < below → K m) : M_smithyworld_Number n below K := by
  unfold M_smithyworld_Number
  have h1 := Int.tmod_lt_of_pos n hb
  have h2 := Int.lt_tmod_of_pos n hb
  simp only [In] at hn
  refine ⟨by omega, by simp only [In]; omega, by omega, ?_⟩
  have h3 : 0 ≤ n.tmod below + below := by omega
  rw [Int.tmod_eq_emod_of_nonneg h3]
  exact h _ (Int.emod_nonneg _ (by omega)) (Int.emod_lt_of_pos _ hb)
section
variable {gl : List GAct} {mk : MK} {bef aft : List (List Int)}
theorem index_M {xs : List Int} {v : Int} {i : Nat} {K : Int → Prop} (hl : xs.length ≤ 1000000) (hi : i < xs.length) (h1 : xs.getD i 0 = v) (h0 : ∀ j, j < i → xs.getD j 0 ≠ v) (h : K (i : Int)) : M_slices_Index_int_int xs v K := by
  intro _
  refine ⟨fun t => 0 ≤ t ∧ t ≤ i, fun t => i - t.toNat, ⟨by omega, by omega⟩, fun t ⟨a0, a1⟩ => ⟨fun hlt => ⟨⟨a0, hlt⟩, fun he => ?_, fun hne => ⟨by simp only [In]; omega, ⟨by omega, ?_⟩, ?_⟩⟩, fun hge => by omega⟩⟩
  · have : t.toNat = i := by
      rcases Nat.lt_or_ge t.toNat i with hlt2 | hge2
      · exact absurd he.symm (h0 _ hlt2)
      · omega
    have e : t = (i : Int) := by omega
    rw [e]; exact h
  · have : t.toNat ≠ i := fun e => hne (by rw [e]; exact h1.symm)
    omega
  · have : t.toNat ≠ i := fun e => hne (by rw [e]; exact h1.symm)
    (try dsimp only); omega
end
end Go.Proofs.YtjhipfdbionpoaaGreatDoor


 /- A graph of actions, plainly: the order. -/
namespace Go.Proofs.YtjhipfdbionpoaaGreatDoor
open Go Go.RowKit
section
variable {bef : List (List Int)} {n : Nat}
/-- the first that is not out yet, and all ahead of which are -/
def freeB (bef : List (List Int)) (out : List Int) (i : Nat) : Bool := !out.contains (i : Int) && (bef.getD i []).all fun b => out.contains b
def pickF (bef : List (List Int)) (out : List Int) (n : Nat) : Option Nat := (List.range n).find? (freeB bef out)
def ordR (bef : List (List Int)) (n : Nat) : Nat → List Int
  | 0 => []
  | m + 1 => match pickF bef (ordR bef n m) n with | some i => ordR bef n m ++ [(i : Int)] | none => ordR bef n m
def AcyB (bef : List (List Int)) (n : Nat) : Prop := (∀ j, j < n → ∀ k ∈ bef.getD j [], 0 ≤ k ∧ k < (n : Int)) ∧ ∀ j, j < n → ¬ Rch bef (bef.getD j []) (j : Int)
theorem rch_sub {fr fr' : List Int} (h : ∀ f ∈ fr, Rch bef fr' f) {k : Int} (hk : Rch bef fr k) : Rch bef fr' k := by
  induction hk with
  | base hm => exact h _ hm
  | step _ hm ih => exact .step ih hm
theorem countP_lt {α : Type} {p q : α → Bool} : ∀ {l : List α}, (∀ x ∈ l, p x = true → q x = true) → (∃ x ∈ l, p x = false ∧ q x = true) → l.countP p < l.countP q
  | [], _, h => by obtain ⟨x, hx, _⟩ := h; cases hx
  | a :: l, h1, h2 => by
    have hle : l.countP p ≤ l.countP q := List.countP_mono_left fun x hx => h1 x (List.mem_cons_of_mem _ hx)
    rw [List.countP_cons, List.countP_cons]
    obtain ⟨x, hx, px, qx⟩ := h2
    rcases List.mem_cons.1 hx with rfl | hx
    · rw [px, qx]; simp; omega
    · have := countP_lt (l := l) (fun x hx => h1 x (List.mem_cons_of_mem _ hx)) ⟨x, hx, px, qx⟩
      have ha := h1 a (List.mem_cons_self ..)
      by_cases e : p a = true
      · rw [e, ha e]; simp; omega
      · simp only [Bool.not_eq_true] at e
        rw [e]; simp; omega
open Classical in
/-- in what has no ring, if something is not out yet, then something that may be taken is not -/
theorem acy_pick (ha : AcyB bef n) {out : List Int} (h : ∃ i, i < n ∧ (i : Int) ∉ out) : ∃ i, pickF bef out n = some i := by
  have key : ∀ c j, j < n → (j : Int) ∉ out → ((List.range n).countP fun (k : Nat) => decide (Rch bef (bef.getD j []) (k : Int))) = c → ∃ i, i < n ∧ freeB bef out i = true := by
    intro c
    induction c using Nat.strongRecOn with
    | _ c ih =>
      intro j hj hjo hc
      by_cases hf : (bef.getD j []).all fun b => out.contains b
      · refine ⟨j, hj, ?_⟩
        unfold freeB
        rw [hf]
        simpa using hjo
      · simp only [Bool.not_eq_true, List.all_eq_false] at hf
        obtain ⟨b, hb, hbo⟩ := hf
        obtain ⟨b0, b1⟩ := ha.1 j hj b hb
        have hbb : ((b.toNat : Nat) : Int) = b := by omega
        have hbn : b.toNat < n := by omega
        refine ih _ ?_ b.toNat hbn (by rw [hbb]; simpa using hbo) rfl
        rw [← hc]
        refine countP_lt (fun k _ hk => ?_) ⟨b.toNat, List.mem_range.2 hbn, ?_, ?_⟩
        · simp only [decide_eq_true_eq] at hk ⊢
          refine rch_sub (fun f hf => ?_) hk
          exact .step (.base hb) hf
        · simpa using ha.2 _ hbn
        · rw [hbb]
          simpa using Rch.base hb
  obtain ⟨i, hi, ho⟩ := h
  obtain ⟨k, hk, hf⟩ := key _ i hi ho rfl
  unfold pickF
  cases hp : (List.range n).find? (freeB bef out) with
  | some q => exact ⟨q, rfl⟩
  | none => rw [List.find?_eq_none] at hp; exact absurd hf (hp k (List.mem_range.2 hk))
theorem pickF_some {out : List Int} {i : Nat} (h : pickF bef out n = some i) : i < n ∧ freeB bef out i = true ∧ ∀ j, j < i → freeB bef out j = false := by
  unfold pickF at h
  have h1 := List.find?_some h
  have h2 := List.mem_range.1 (List.mem_of_find?_eq_some h)
  refine ⟨h2, h1, fun j hj => ?_⟩
  obtain ⟨_, xa, xb, hab, hn⟩ := List.find?_eq_some_iff_append.1 h
  have hi : xa.length = i := by
    have : (List.range n)[xa.length]? = some i := by rw [hab]; simp
    rw [List.getElem?_range (by
      have := congrArg List.length hab; simp at this; omega)] at this
    simpa using this
  have hm : j ∈ xa := by
    have hg : (List.range n)[j]? = some j := List.getElem?_range (by omega)
    rw [hab, List.getElem?_append_left (by omega)] at hg
    exact List.mem_of_getElem? hg
  simpa using hn j hm
theorem ordR_props (ha : AcyB bef n) : ∀ m, m ≤ n → (ordR bef n m).length = m ∧ (ordR bef n m).Nodup ∧ (∀ x ∈ ordR bef n m, 0 ≤ x ∧ x < (n : Int))
  | 0, _ => ⟨rfl, List.Pairwise.nil, fun x hx => by cases hx⟩
  | m + 1, h => by
    obtain ⟨a, b, c⟩ := ordR_props ha m (by omega)
    have hex : ∃ i, i < n ∧ (i : Int) ∉ ordR bef n m := by
      refine Classical.byContradiction fun hne => ?_
      have hall : ∀ i, i < n → (i : Int) ∈ ordR bef n m := fun i hi => Classical.byContradiction fun hx => hne ⟨i, hi, hx⟩
      have this := List.Nodup.length_le_of_subset (l₁ := (List.range n).map fun (k : Nat) => (k : Int)) (l₂ := ordR bef n m) (List.Pairwise.map _ (fun a b (hab : a ≠ b) (e : (a : Int) = (b : Int)) => hab (by omega)) List.nodup_range) (fun x hx => by
        obtain ⟨k, hk, rfl⟩ := List.mem_map.1 hx
        exact hall k (List.mem_range.1 hk))
      rw [List.length_map, List.length_range, a] at this
      omega
    obtain ⟨i, hi⟩ := acy_pick ha hex
    obtain ⟨i1, i2, _⟩ := pickF_some hi
    unfold freeB at i2
    rw [Bool.and_eq_true] at i2
    have hno : (i : Int) ∉ ordR bef n m := by simpa using i2.1
    unfold ordR
    rw [hi]
    refine ⟨by rw [List.length_append, a]; rfl, ?_, fun x hx => ?_⟩
    · rw [List.nodup_append]
      refine ⟨b, List.pairwise_singleton _ _, fun x hx y hy e => ?_⟩
      rw [List.mem_singleton.1 hy] at e
      exact hno (e ▸ hx)
    · rcases List.mem_append.1 hx with hx | hx
      · exact c x hx
      · rw [List.mem_singleton.1 hx]; omega
theorem ordR_step (ha : AcyB bef n) {m : Nat} (h : m < n) : ∃ i, pickF bef (ordR bef n m) n = some i ∧ ordR bef n (m + 1) = ordR bef n m ++ [(i : Int)] := by
  obtain ⟨a, b, c⟩ := ordR_props ha m (by omega)
  have h1 := (ordR_props ha (m + 1) h).1
  cases hp : pickF bef (ordR bef n m) n with
  | some i => exact ⟨i, rfl, by show (match pickF bef (ordR bef n m) n with | some i => ordR bef n m ++ [(i : Int)] | none => ordR bef n m) = _; rw [hp]⟩
  | none =>
    have : ordR bef n (m + 1) = ordR bef n m := by show (match pickF bef (ordR bef n m) n with | some i => ordR bef n m ++ [(i : Int)] | none => ordR bef n m) = _; rw [hp]
    rw [this] at h1; omega
/-- how many ahead of one are not out yet -/
def cntL (out : List Int) (xs : List Int) : Nat := xs.countP fun b => !out.contains b
theorem cntL_zero {out xs : List Int} : cntL out xs = 0 ↔ (xs.all fun b => out.contains b) = true := by
  unfold cntL
  rw [List.countP_eq_zero, List.all_eq_true]
  refine forall_congr' fun x => forall_congr' fun _ => ?_
  simp
theorem cntL_snoc {out : List Int} {i : Int} (ho : i ∉ out) : ∀ {xs : List Int}, xs.Nodup → cntL (out ++ [i]) xs + (if i ∈ xs then 1 else 0) = cntL out xs
  | [], _ => rfl
  | a :: xs, h => by
    have ih := cntL_snoc ho (xs := xs) (List.nodup_cons.1 h).2
    have hna := (List.nodup_cons.1 h).1
    unfold cntL at ih ⊢
    rw [List.countP_cons, List.countP_cons]
    by_cases e : i = a
    · subst e
      rw [if_neg hna] at ih
      rw [if_pos (List.mem_cons_self ..)]
      have h1 : (out ++ [i]).contains i = true := by simp
      have h2 : out.contains i = false := by simpa using ho
      rw [h1, h2]
      simp only [Bool.not_true, Bool.not_false, if_true, if_false, Bool.false_eq_true]
      omega
    · have h1 : (out ++ [i]).contains a = out.contains a := by
        rw [Bool.eq_iff_iff, List.contains_iff_mem, List.contains_iff_mem, List.mem_append, List.mem_singleton]
        exact ⟨fun h => h.resolve_right fun h2 => e h2.symm, .inl⟩
      have h2 : (i ∈ a :: xs) ↔ i ∈ xs := by
        rw [List.mem_cons]; exact ⟨fun h => h.resolve_left e, .inr⟩
      rw [h1]
      by_cases h3 : i ∈ xs
      · rw [if_pos h3] at ih; rw [if_pos (h2.2 h3)]; omega
      · rw [if_neg h3] at ih; rw [if_neg (fun h => h3 (h2.1 h))]; omega
theorem ordR_closed (ha : AcyB bef n) : ∀ m, m ≤ n → ∀ x ∈ ordR bef n m, ∀ b ∈ bef.getD x.toNat [], b ∈ ordR bef n m
  | 0, _, x, hx, _, _ => by cases hx
  | m + 1, h, x, hx, b, hb => by
    obtain ⟨i, hi, he⟩ := ordR_step ha (m := m) (by omega)
    obtain ⟨i1, i2, _⟩ := pickF_some hi
    rw [he] at hx ⊢
    rcases List.mem_append.1 hx with hx | hx
    · exact List.mem_append_left _ (ordR_closed ha m (by omega) x hx b hb)
    · rw [List.mem_singleton.1 hx, Int.toNat_natCast] at hb
      unfold freeB at i2
      rw [Bool.and_eq_true, List.all_eq_true] at i2
      exact List.mem_append_left _ (by simpa using i2.2 b hb)
end
theorem befL_len (l : List GAct) (m : Nat) : (befL l m).length = m := by unfold befL; rw [List.length_map, List.length_range]
theorem aftL_len (l : List GAct) (i : Nat) : (aftL l i).length = l.length := by unfold aftL; rw [List.length_map, List.length_range]
theorem aftK_mem {l : List GAct} {i k : Nat} {j : Int} : j ∈ aftK l i k ↔ ∃ q : Nat, q < i ∧ j = (q : Int) ∧ (k : Int) ∈ bsP l q := by
  unfold aftK
  rw [List.mem_map]
  constructor
  · rintro ⟨q, hq, rfl⟩
    rw [List.mem_filter, List.mem_range, decide_eq_true_eq] at hq
    exact ⟨q, hq.1, rfl, hq.2⟩
  · rintro ⟨q, h1, rfl, h2⟩
    exact ⟨q, List.mem_filter.2 ⟨List.mem_range.2 h1, by simpa using h2⟩, rfl⟩
theorem aftK_nodup (l : List GAct) (i k : Nat) : (aftK l i k).Nodup := by
  unfold aftK
  exact List.Pairwise.map _ (fun a b (hab : a ≠ b) (e : (a : Int) = (b : Int)) => hab (by omega)) (List.Pairwise.filter _ List.nodup_range)
theorem map_set_eq {f g : Nat → Int} {n k : Nat} {v : Int} (h1 : k < n → g k = v) (h2 : ∀ j, j < n → j ≠ k → g j = f j) : ((List.range n).map f).set k v = (List.range n).map g := by
  rw [rng_set]
  refine List.map_congr_left fun j hj => ?_
  have hj := List.mem_range.1 hj
  by_cases e : k = j
  · subst e; rw [if_pos rfl, h1 hj]
  · rw [if_neg e, h2 j hj fun h => e h.symm]
theorem order_M {l : List GAct} {mk : MK} {K : List Int → Prop} (hl : l.length ≤ 1000) (hbl : ∀ j, (bsP l j).length ≤ 1000) (ha : AcyB (befL l l.length) l.length) (h : K (ordR (befL l l.length) l.length l.length)) : M_pgraph_Graph_Order l mk (befL l l.length) (aftL l l.length) K := by
  have hbn := befL_len l l.length
  have hal := aftL_len l l.length
  have hB : ∀ j, j < l.length → (befL l l.length).getD j [] = bsP l j := fun j hj => by rw [befL_getD, if_pos hj]
  have hA : ∀ j, j < l.length → (aftL l l.length).getD j [] = aftK l l.length j := fun j hj => by unfold aftL; rw [rng_getD hj]
  intro _ _ _
  obtain ⟨n, hn⟩ : ∃ n, l.length = n := ⟨_, rfl⟩
  have hnn : ((n : Nat) : Int).toNat = n := by omega
  rw [hn] at hl ha h hbn hal hB hA ⊢
  rw [hnn]
  refine ⟨⟨by omega, by omega, by omega⟩, fun t left => 0 ≤ t ∧ t ≤ n ∧ left = (List.range n).map fun j => if j < t.toNat then ((bsP l j).length : Int) else 0, fun t _ => n - t.toNat, ⟨by omega, by omega, ?_⟩, fun t left ⟨a0, a1, a2⟩ _ => ⟨fun hlt => ?_, fun hge => ?_⟩⟩
  · refine List.ext_getElem (by simp) fun k h1 h2 => ?_
    simp
  · have ht : t.toNat < n := by omega
    refine ⟨⟨a0, by omega⟩, ⟨a0, by omega⟩, by simp only [In]; omega, ⟨by omega, by omega, ?_⟩, by (try dsimp only); omega⟩
    rw [hB _ ht, a2]
    refine map_set_eq (fun _ => by rw [if_pos (by omega)]) fun j _ hj => ?_
    by_cases h1 : j < t.toNat
    · rw [if_pos (by omega), if_pos h1]
    · rw [if_neg (by omega), if_neg h1]
  · have ht : t.toNat = n := by omega
    refine ⟨fun out t left => 0 ≤ t ∧ t ≤ n ∧ out = ordR (befL l n) n t.toNat ∧ left = (List.range n).map fun (j : Nat) => if (j : Int) ∈ out then (-1 : Int) else (cntL out (bsP l j) : Int), fun _ t _ => n - t.toNat, ⟨by omega, by omega, rfl, ?_⟩, fun out t left ⟨b0, b1, b2, b3⟩ _ => ⟨fun hlt => ?_, fun hge2 => ?_⟩⟩
    · rw [a2, ht]
      refine List.map_congr_left fun k hk => ?_
      have := List.mem_range.1 hk
      rw [if_pos this, if_neg (by simp)]
      unfold cntL
      simp
    · have ht2 : t.toNat < n := by omega
      have htt : (t.toNat : Int) = t := by omega
      have hll : left.length = n := by rw [b3, List.length_map, List.length_range]
      obtain ⟨i, hi, he⟩ := ordR_step ha ht2
      rw [← b2] at hi he
      obtain ⟨i1, i2, i3⟩ := pickF_some hi
      obtain ⟨o1, o2, o3⟩ := ordR_props ha t.toNat (by omega)
      rw [← b2] at o1 o2 o3
      have hcl := ordR_closed ha t.toNat (by omega)
      rw [← b2] at hcl
      unfold freeB at i2
      rw [Bool.and_eq_true, hB i i1] at i2
      have hio : (i : Int) ∉ out := by simpa using i2.1
      have hall := i2.2
      have hc0 : cntL out (bsP l i) = 0 := cntL_zero.2 hall
      have hcle : ∀ j, cntL out (bsP l j) ≤ 1000 := fun j => Nat.le_trans List.countP_le_length (hbl j)
      refine index_M (i := i) (by omega) (by omega) (by rw [b3, rng_getD i1, if_neg hio, hc0]; rfl) (fun j hj => ?_) ?_
      · rw [b3, rng_getD (by omega)]
        split
        · decide
        · rename_i hjo
          have hf := i3 j hj
          unfold freeB at hf
          rw [hB j (by omega), Bool.and_eq_false_iff] at hf
          rcases hf with hf | hf
          · exact absurd (by simpa using hf) hjo
          · intro e
            have : cntL out (bsP l j) = 0 := by omega
            rw [cntL_zero.1 this] at hf
            cases hf
      have hAi := hA i i1
      have hAn := aftK_nodup l n i
      have hAm : ∀ j : Int, j ∈ aftK l n i ↔ ∃ q : Nat, q < n ∧ j = (q : Int) ∧ (i : Int) ∈ bsP l q := fun j => aftK_mem
      rw [Int.toNat_natCast, hAi]
      generalize aftK l n i = A at hAn hAm
      have hAl : A.length ≤ n := by
        have := List.Nodup.length_le_of_subset (l₁ := A) (l₂ := (List.range n).map fun (k : Nat) => (k : Int)) hAn fun x hx => by
          obtain ⟨q, h1, h2, _⟩ := (hAm x).1 hx
          exact List.mem_map.2 ⟨q, List.mem_range.2 h1, h2.symm⟩
        rwa [List.length_map, List.length_range] at this
      have hAo : ∀ x ∈ A, x ∉ out ++ [(i : Int)] := fun x hx hxo => by
        obtain ⟨q, h1, h2, h3⟩ := (hAm x).1 hx
        rcases List.mem_append.1 hxo with hxo | hxo
        · have h4 := hcl x hxo (i : Int)
          rw [h2, Int.toNat_natCast, hB q h1] at h4
          exact hio (h4 h3)
        · have : q = i := by have := List.mem_singleton.1 hxo; omega
          subst this
          rw [List.all_eq_true] at hall
          exact hio (by simpa using hall _ h3)
      refine ⟨⟨by omega, by omega⟩, by rw [o1, List.length_singleton]; omega, ⟨by omega, by omega⟩, fun q left3 => 0 ≤ q ∧ q ≤ A.length ∧ left3 = (List.range n).map fun (j : Nat) => if (j : Int) ∈ out ++ [(i : Int)] then (-1 : Int) else (cntL out (bsP l j) : Int) - (if (j : Int) ∈ A.take q.toNat then 1 else 0), fun q _ => A.length - q.toNat, ⟨by omega, by omega, ?_⟩, fun q left3 ⟨c0, c1, c2⟩ _ => ⟨fun hlt3 => ?_, fun hge3 => ?_⟩⟩
      · rw [b3]
        refine map_set_eq (fun _ => by rw [if_pos (by simp)]) fun j _ hj => ?_
        have e : ((j : Int) ∈ out ++ [(i : Int)]) ↔ (j : Int) ∈ out := by
          rw [List.mem_append, List.mem_singleton]
          exact ⟨fun h => h.resolve_right fun h2 => hj (by omega), .inl⟩
        by_cases h1 : (j : Int) ∈ out
        · rw [if_pos (e.2 h1), if_pos h1]
        · rw [if_neg fun h => h1 (e.1 h), if_neg h1]
          simp
      · have hq : q.toNat < A.length := by omega
        obtain ⟨k, k1, k2, k3⟩ := (hAm _).1 (getD_mem2 (d := 0) hq)
        have hkx : ((A.getD q.toNat 0).toNat) = k := by omega
        have hko := hAo _ (getD_mem2 (d := 0) hq)
        have hnt : (k : Int) ∉ A.take q.toNat := fun hm => by
          obtain ⟨r, hr, hre⟩ := List.getElem_of_mem hm
          have hr2 : r < q.toNat := by rw [List.length_take] at hr; omega
          rw [List.getElem_take] at hre
          have h1 : A[r]'(by omega) = A[q.toNat] := by
            rw [hre, ← k2]; simp [List.getD, hq]
          have := (List.nodup_iff_pairwise_ne.1 hAn)
          have h2 := List.pairwise_iff_getElem.1 hAn r q.toNat (by omega) hq hr2
          exact h2 h1
        have hst : A.take (q + 1).toNat = A.take q.toNat ++ [A.getD q.toNat 0] := by
          rw [show (q + 1).toNat = q.toNat + 1 by omega]
          exact take_succ_getD 0 hq
        have hg : left3.getD k 0 = (cntL out (bsP l k) : Int) := by
          rw [c2, rng_getD k1, if_neg (by rw [← k2]; exact hko), if_neg hnt]; omega
        have hck := hcle k
        rw [hkx, hg]
        refine ⟨⟨by omega, by omega⟩, ⟨by omega, by omega⟩, by simp only [In]; omega, ⟨by omega, by omega⟩, by simp only [In]; omega, ⟨by omega, by omega, ?_⟩, by (try dsimp only); omega⟩
        rw [c2]
        refine map_set_eq (fun _ => ?_) fun j _ hj => ?_
        · rw [if_neg (by rw [← k2]; exact hko), hst, if_pos (List.mem_append_right _ (List.mem_singleton.2 k2.symm))]
        · have e : ((j : Int) ∈ A.take (q + 1).toNat) ↔ (j : Int) ∈ A.take q.toNat := by
            rw [hst, List.mem_append, List.mem_singleton]
            exact ⟨fun h => h.resolve_right fun h2 => hj (by omega), .inl⟩
          by_cases h1 : (j : Int) ∈ A.take q.toNat
          · rw [if_pos (e.2 h1), if_pos h1]
          · rw [if_neg fun h => h1 (e.1 h), if_neg h1]
      · refine ⟨by simp only [In]; omega, ⟨by omega, by omega, ?_, ?_⟩, by (try dsimp only); omega⟩
        · rw [show (t + 1).toNat = t.toNat + 1 by omega, he]
        · have hqA : q.toNat = A.length := by omega
          rw [c2, hqA, List.take_length]
          refine List.map_congr_left fun j hj => ?_
          have hj := List.mem_range.1 hj
          by_cases h1 : (j : Int) ∈ out ++ [(i : Int)]
          · rw [if_pos h1, if_pos h1]
          · rw [if_neg h1, if_neg h1]
            have h2 := cntL_snoc hio (bsP_nodup l j)
            have h3 : (j : Int) ∈ A ↔ (i : Int) ∈ bsP l j := by
              rw [hAm]
              exact ⟨fun ⟨q, _, e, m⟩ => by have : q = j := by omega
                                            subst this; exact m, fun m => ⟨j, hj, rfl, m⟩⟩
            by_cases h4 : (i : Int) ∈ bsP l j
            · rw [if_pos (h3.2 h4)]; rw [if_pos h4] at h2; omega
            · rw [if_neg fun h => h4 (h3.1 h)]; rw [if_neg h4] at h2; omega
    · have ht2 : t.toNat = n := by omega
      rw [b2, ht2]
      exact h
theorem ordR_take {bef : List (List Int)} {n : Nat} (ha : AcyB bef n) : ∀ d m, m + d = n → ordR bef n m = (ordR bef n n).take m
  | 0, m, h => by
    obtain rfl : m = n := by omega
    rw [List.take_of_length_le (by rw [(ordR_props ha m (Nat.le_refl _)).1]; exact Nat.le_refl _)]
  | d + 1, m, h => by
    have ih := ordR_take ha d (m + 1) (by omega)
    obtain ⟨i, _, he⟩ := ordR_step ha (show m < n by omega)
    rw [he] at ih
    have h2 := congrArg (List.take m) ih
    have hl := (ordR_props ha m (by omega)).1
    rw [List.take_append_of_le_length (by omega), List.take_of_length_le (by omega), List.take_take, Nat.min_eq_left (by omega)] at h2
    exact h2
end Go.Proofs.YtjhipfdbionpoaaGreatDoor


 /- A graph of actions, plainly: the chapter's own words. -/
namespace Go.Proofs.YtjhipfdbionpoaaGreatDoor
open Go Go.RowKit
/-! ### who writes what -/
def Dst (l : List GAct) : Prop := ∀ i j, i < l.length → j < l.length → (l.getD i az).2.2.2 = (l.getD j az).2.2.2 → i = j
theorem mkP_get {l : List GAct} (hd : Dst l) : ∀ {i : Nat}, i ≤ l.length → ∀ j, j < i → mget (mkP l i) (l.getD j az).2.2.2 = some (j : Int)
  | 0, _, j, hj => absurd hj (Nat.not_lt_zero _)
  | i + 1, hi, j, hj => by
    rw [mkP_succ, mget_mput]
    by_cases e : (l.getD i az).2.2.2 = (l.getD j az).2.2.2
    · rw [if_pos e, hd i j (by omega) (by omega) e]
    · rw [if_neg e]
      have hne : j ≠ i := fun h => e (by rw [h])
      exact mkP_get hd (by omega) j (by omega)
theorem fits_dst {l : List GAct} (h : ∀ j, j < l.length → fitsAt l j = .ok) : Dst l := by
  have key : ∀ i, i ≤ l.length → ∀ j k, j < i → k < i → (l.getD j az).2.2.2 = (l.getD k az).2.2.2 → j = k := by
    intro i
    induction i with
    | zero => intro _ j k hj; exact absurd hj (Nat.not_lt_zero _)
    | succ i ih =>
      intro hi j k hj hk e
      have hf := h i (by omega)
      have hnew : ∀ q, q < i → (l.getD q az).2.2.2 ≠ (l.getD i az).2.2.2 := fun q hq he => by
        have hdst : ∀ m, m ≤ i → q < m → mget (mkP l m) (l.getD q az).2.2.2 = some (q : Int) := by
          intro m
          induction m with
          | zero => intro _ h; exact absurd h (Nat.not_lt_zero _)
          | succ m ihm =>
            intro hm hqm
            rw [mkP_succ, mget_mput]
            by_cases e2 : (l.getD m az).2.2.2 = (l.getD q az).2.2.2
            · rw [if_pos e2, ih (by omega) m q (by omega) (by omega) e2]
            · rw [if_neg e2]
              have hne : q ≠ m := fun h => e2 (by rw [h])
              exact ihm (by omega) (by omega)
        have hg := hdst i (Nat.le_refl _) hq
        unfold fitsAt fitsP at hf
        rw [← he, hg] at hf
        split at hf
        · cases hf
        · split at hf
          · cases hf
          · rw [if_pos (show (some (q : Int)).isSome = true from rfl)] at hf; cases hf
      rcases Nat.lt_or_eq_of_le (Nat.le_of_lt_succ hj) with hj | hj <;> rcases Nat.lt_or_eq_of_le (Nat.le_of_lt_succ hk) with hk | hk
      · exact ih (by omega) j k hj hk e
      · subst hk; exact absurd e (hnew j hj)
      · subst hj; exact absurd e.symm (hnew k hk)
      · omega
  exact fun i j hi hj e => key l.length (Nat.le_refl _) i j hi hj e
def mkI (l : List GAct) (s : List UInt8) : Int := (mget (mkP l l.length) s).getD (-1)
end Go.Proofs.YtjhipfdbionpoaaGreatDoor


 /- A graph of actions, plainly: the chapter's reach, order, needs, sources; whether actions are a graph. -/
namespace Go.Proofs.YtjhipfdbionpoaaGreatDoor
open Go Go.RowKit
section
variable {l : List GAct}
theorem bef_in {j : Nat} {k : Int} (h : k ∈ (befL l l.length).getD j []) : 0 ≤ k ∧ k < (l.length : Int) := by
  rw [befL_getD] at h
  split at h
  · exact bsP_in h
  · cases h
end
end Go.Proofs.YtjhipfdbionpoaaGreatDoor


 /- A graph of actions, plainly: whether actions are one, by the program and by the chapter. -/
namespace Go.Proofs.YtjhipfdbionpoaaGreatDoor
open Go Go.RowKit
/-- what comes of actions -/
def GBad (l : List GAct) : Prop := 1000 < l.length ∨ l.any manyA = true
def GCy (l : List GAct) (i : Nat) : Prop := Rch (befL l l.length) (bsP l i) (i : Int)
def GRes (l : List GAct) (e : Er) : Prop :=
  (GBad l ∧ e = .e 9) ∨ (¬ GBad l ∧ ∃ (i n : Nat), i < l.length ∧ (∀ j, j < i → fitsAt l j = .ok) ∧ fitsAt l i = .e n ∧ e = .at_ (i : Int) n) ∨
  (¬ GBad l ∧ (∀ j, j < l.length → fitsAt l j = .ok) ∧ ∃ i : Nat, i < l.length ∧ (∀ j, j < i → ¬ GCy l j) ∧ GCy l i ∧ e = .at_ (i : Int) 4) ∨
  (¬ GBad l ∧ (∀ j, j < l.length → fitsAt l j = .ok) ∧ (∀ j, j < l.length → ¬ GCy l j) ∧ e = .ok)
theorem GRes.uniq {l : List GAct} {e e' : Er} (h : GRes l e) (h' : GRes l e') : e = e' := by
  rcases h with ⟨a, rfl⟩ | ⟨a, i, n, a1, a2, a3, rfl⟩ | ⟨a, a1, i, a2, a3, a4, rfl⟩ | ⟨a, a1, a2, rfl⟩ <;>
  rcases h' with ⟨b, rfl⟩ | ⟨b, i', n', b1, b2, b3, rfl⟩ | ⟨b, b1, i', b2, b3, b4, rfl⟩ | ⟨b, b1, b2, rfl⟩
  · rfl
  · exact absurd a b
  · exact absurd a b
  · exact absurd a b
  · exact absurd b a
  · rcases Nat.lt_trichotomy i i' with h | h | h
    · rw [b2 i h] at a3; cases a3
    · subst h; rw [a3] at b3; cases b3; rfl
    · rw [a2 i' h] at b3; cases b3
  · rw [b1 i a1] at a3; cases a3
  · rw [b1 i a1] at a3; cases a3
  · exact absurd b a
  · rw [a1 i' b1] at b3; cases b3
  · rcases Nat.lt_trichotomy i i' with h | h | h
    · exact absurd a4 (b3 i h)
    · subst h; rfl
    · exact absurd b4 (a3 i' h)
  · exact absurd a4 (b2 i a2)
  · exact absurd b a
  · rw [a1 i' b1] at b3; cases b3
  · exact absurd b4 (a2 i' b2)
  · rfl
structure GOk (l : List GAct) : Prop where
  len : l.length ≤ 1000
  dst : Dst l
  inp : ∀ j, (l.getD j az).2.2.1.length ≤ 1000
  arg : ∀ j, (l.getD j az).2.1.length ≤ 1000
  acy : AcyB (befL l l.length) l.length
theorem not_bad {l : List GAct} (h : ¬ GBad l) : l.length ≤ 1000 ∧ l.any manyA = false ∧ ∀ j, (l.getD j az).2.2.1.length ≤ 1000 ∧ (l.getD j az).2.1.length ≤ 1000 := by
  have h1 : l.length ≤ 1000 := Nat.le_of_not_lt fun h2 => h (.inl h2)
  have h2 : l.any manyA = false := by simpa using fun h3 => h (.inr h3)
  refine ⟨h1, h2, fun j => ?_⟩
  by_cases hj : j < l.length
  · have h3 := List.any_eq_false.1 h2 _ (getD_mem2 (d := az) hj)
    have h3 : manyA (l.getD j az) = false := by simpa using h3
    unfold manyA at h3
    rw [Bool.or_eq_false_iff, decide_eq_false_iff_not, decide_eq_false_iff_not] at h3
    omega
  · have : l.getD j az = az := by simp [List.getD, List.getElem?_eq_none (show l.length ≤ j by omega)]
    rw [this]; decide
theorem GRes.good {l : List GAct} (h : GRes l .ok) : GOk l := by
  rcases h with ⟨_, h⟩ | ⟨_, _, _, _, _, _, h⟩ | ⟨_, _, _, _, _, _, h⟩ | ⟨a, a1, a2, _⟩
  · cases h
  · cases h
  · cases h
  · obtain ⟨h1, h2, h3⟩ := not_bad a
    refine ⟨h1, fits_dst a1, fun j => (h3 j).1, fun j => (h3 j).2, fun j hj k hk => bef_in hk, fun j hj => ?_⟩
    have := a2 j hj
    unfold GCy at this
    rwa [befL_getD, if_pos hj]
theorem new_R {l : List GAct} {K0 : Er → Prop} {K : List GAct → MK → List (List Int) → List (List Int) → Er → Prop} (hl : l.length ≤ 1000000) (hsz : ∀ a ∈ l, (∀ s ∈ a.2.2.1, s.length ≤ 3999999999) ∧ a.2.2.2.length ≤ 3999999999)
    (h0 : ∀ e, GRes l e → e ≠ .ok → K0 e) (h1 : GRes l .ok → K l (mkP l l.length) (befL l l.length) (aftL l l.length) .ok) : M_graph_New l K0 K := by
  have nb : l.length ≤ 1000 → l.any manyA = false → ¬ GBad l := fun a b h => h.elim (fun h => by omega) (fun h => by rw [b] at h; cases h)
  refine new_M hl (fun a ha => ⟨fun s hs => Nat.le_trans ((hsz a ha).1 s hs) (by omega), Nat.le_trans (hsz a ha).2 (by omega)⟩) (fun h => h0 _ (.inl ⟨h, rfl⟩) (by simp)) (fun a b i n hi hj he => ?_) (fun a b hf i hi hj hc => ?_) (fun a b hf hc => ?_)
  · exact h0 _ (.inr (.inl ⟨nb a b, i, n, hi, hj, he, rfl⟩)) (by simp)
  · exact h0 _ (.inr (.inr (.inl ⟨nb a b, hf, i, hi, hj, hc, rfl⟩))) (by simp)
  · exact h1 (.inr (.inr (.inr ⟨nb a b, hf, hc, rfl⟩)))
end Go.Proofs.YtjhipfdbionpoaaGreatDoor


 /- Plans, plainly: what actions come to, over texts by path. -/
namespace Go.Proofs.YtjhipfdbionpoaaGreatDoor
open Go Go.RowKit
abbrev FT := Int × List UInt8 × List UInt8
abbrev TX := List (List UInt8 × List UInt8)
section
variable (F : GAct → TL → FT) (l : List GAct)
def fskip : FT := (3, [], List.replicate 32 0)
def flack : FT := (2, [], List.replicate 32 0)
def fz : FT := (0, [], [])
/-- all inputs' texts, if none lacks -/
def allT (tx : TX) : TL → Option TL
  | [] => some []
  | s :: xs => match mget tx s with
    | none => none
    | some t => (allT tx xs).map (t :: ·)
def fate1 (i : Nat) (known : List FT) (tx : TX) : FT :=
  if ((bsP l i).any fun k => !decide ((known.getD k.toNat fz).1 = 1)) = true then fskip
  else match allT tx (l.getD i az).2.2.1 with
    | none => flack
    | some ts => F (l.getD i az) ts
def step1 (st : List FT × TX) (i : Int) : List FT × TX :=
  (st.1.set i.toNat (fate1 F l i.toNat st.1 st.2), if (fate1 F l i.toNat st.1 st.2).1 = 1 then mput st.2 (l.getD i.toNat az).2.2.2 (fate1 F l i.toNat st.1 st.2).2.1 else st.2)
def text0 (files : TX) : TX := files.foldl (fun m f => if mkI l f.1 < 0 then mput m f.1 f.2 else m) []
def runP (files : TX) (m : Nat) : List FT × TX := ((ordR (befL l l.length) l.length l.length).take m).foldl (step1 F l) (List.replicate l.length fz, text0 l files)
def fatesP (files : TX) : List FT := (runP F l files l.length).1
end
section
variable {F : GAct → TL → FT} {l : List GAct}
theorem text0_snoc (files : TX) (f : List UInt8 × List UInt8) : text0 l (files ++ [f]) = if mkI l f.1 < 0 then mput (text0 l files) f.1 f.2 else text0 l files := by
  unfold text0
  rw [List.foldl_append]; rfl
theorem runP_zero (files : TX) : runP F l files 0 = (List.replicate l.length fz, text0 l files) := rfl
theorem runP_succ (files : TX) {m : Nat} (g : GOk l) (h : m < l.length) : ∃ i : Nat, i < l.length ∧ (ordR (befL l l.length) l.length l.length).getD m 0 = (i : Int) ∧ (i : Int) ∉ (ordR (befL l l.length) l.length l.length).take m ∧ (∀ k ∈ bsP l i, k ∈ (ordR (befL l l.length) l.length l.length).take m) ∧ runP F l files (m + 1) = step1 F l (runP F l files m) (i : Int) := by
  obtain ⟨o1, o2, o3⟩ := ordR_props g.acy l.length (Nat.le_refl _)
  obtain ⟨q, hq, he⟩ := ordR_step g.acy h
  obtain ⟨q1, q2, _⟩ := pickF_some hq
  have ht := ordR_take g.acy (l.length - m) m (by omega)
  have ht1 := ordR_take g.acy (l.length - (m + 1)) (m + 1) (by omega)
  have hl := (ordR_props g.acy m (by omega)).1
  unfold freeB at q2
  rw [Bool.and_eq_true, befL_getD, if_pos q1, List.all_eq_true] at q2
  have hg : (ordR (befL l l.length) l.length l.length).getD m 0 = (q : Int) := by
    rw [he] at ht1
    have h2 := congrArg (fun l => l.getD m 0) ht1
    simp only [List.getD, List.getElem?_append_right (show (ordR (befL l l.length) l.length m).length ≤ m by omega), hl, Nat.sub_self, List.getElem?_cons_zero, Option.getD_some, List.getElem?_take, if_pos (Nat.lt_succ_self m)] at h2
    exact h2.symm
  refine ⟨q, q1, hg, ?_, fun k hk => ?_, ?_⟩
  · rw [← ht]; simpa using q2.1
  · rw [← ht]; simpa using q2.2 k hk
  · unfold runP
    rw [take_succ_getD 0 (by omega), List.foldl_append, hg]; rfl
theorem runP_len (files : TX) (g : GOk l) : ∀ m, m ≤ l.length → (runP F l files m).1.length = l.length
  | 0, _ => by rw [runP_zero]; simp
  | m + 1, h => by
    obtain ⟨i, _, _, _, _, he⟩ := runP_succ (F := F) files g (show m < l.length by omega)
    rw [he]
    show ((runP F l files m).1.set _ _).length = _
    rw [List.length_set]; exact runP_len files g m (by omega)
end
end Go.Proofs.YtjhipfdbionpoaaGreatDoor


 /- Actions in a row, and in a ring, plainly. -/
namespace Go.Proofs.YtjhipfdbionpoaaGreatDoor
open Go Go.RowKit
structure NOk (nm : Nat → List UInt8) (ex : TL) (N : Nat) : Prop where
  inj : ∀ i, i < N → ∀ j, j < N → nm i = nm j → i = j
  val : ∀ i, i < N → validB (nm i) = true
  len : ∀ i, i < N → (nm i).length ≤ 10
  exv : ∀ s ∈ ex, validB s = true
  exs : ∀ s ∈ ex, s.length ≤ 10
  exn : ∀ s ∈ ex, ∀ i, i < N → nm i ≠ s
  exl : ex.length ≤ 10
section
variable {nm : Nat → List UInt8} {ex : TL} {N n : Nat} {b : Option Nat}
end
end Go.Proofs.YtjhipfdbionpoaaGreatDoor


 /- GraphRings, plainly. -/
namespace Go.Proofs.YtjhipfdbionpoaaGreatDoor
open Go Go.RowKit
end Go.Proofs.YtjhipfdbionpoaaGreatDoor


 /- GraphSays, plainly. -/
namespace Go.Proofs.YtjhipfdbionpoaaGreatDoor
open Go Go.RowKit
def pick (l : List GAct) (ns : List Int) : List GAct := ns.map fun k => l.getD k.toNat az
structure GSmall (l : List GAct) : Prop where
  len : l.length ≤ 24
  arg : ∀ a ∈ l, a.2.1.length ≤ 8 ∧ ∀ s ∈ a.2.1, s.length ≤ 100
  inp : ∀ a ∈ l, a.2.2.1.length ≤ 10 ∧ ∀ s ∈ a.2.2.1, s.length ≤ 250
  out : ∀ a ∈ l, a.2.2.2.length ≤ 250
theorem GSmall.sz {l : List GAct} (h : GSmall l) : ∀ a ∈ l, (∀ s ∈ a.2.2.1, s.length ≤ 3999999999) ∧ a.2.2.2.length ≤ 3999999999 := fun a ha => ⟨fun s hs => Nat.le_trans ((h.inp a ha).2 s hs) (by omega), Nat.le_trans (h.out a ha) (by omega)⟩
theorem GSmall.at {l : List GAct} (h : GSmall l) (j : Nat) : (l.getD j az).2.1.length ≤ 8 ∧ (l.getD j az).2.2.1.length ≤ 10 := by
  by_cases hj : j < l.length
  · exact ⟨(h.arg _ (getD_mem2 hj)).1, (h.inp _ (getD_mem2 hj)).1⟩
  · have : l.getD j az = az := by simp [List.getD, List.getElem?_eq_none (show l.length ≤ j by omega)]
    rw [this]; decide
section
variable {l : List GAct} {outs : TL}
variable {i : Int}
def inR (l : List GAct) (i : Int) : Prop := 0 ≤ i ∧ i < (l.length : Int)
theorem action_R {mk : MK} {bef aft : List (List Int)} {K : Int → TL → TL → List UInt8 → Bool → Prop} (hs : GSmall l) (h : ∀ (a : GAct) (b : Bool), (b = true ∧ inR l i ∧ a = l.getD i.toNat az) ∨ (b = false ∧ ¬ inR l i ∧ a = az) → a.2.2.1.length ≤ 1000 → K a.1 a.2.1 a.2.2.1 a.2.2.2 b) : M_pgraph_Graph_Action l mk bef aft i K := by
  intro _ _ _
  refine ⟨fun hb => ?_, fun hb => ?_⟩
  · rw [Bool.or_eq_true, decide_eq_true_eq, decide_eq_true_eq] at hb
    exact h az false (.inr ⟨rfl, fun hc => by unfold inR at hc; omega, rfl⟩) (by decide)
  · rw [Bool.or_eq_false_iff, decide_eq_false_iff_not, decide_eq_false_iff_not] at hb
    have hat := hs.at i.toNat
    have hr : inR l i := by unfold inR; omega
    exact ⟨hr, copied_M (by show (l.getD i.toNat az).2.1.length ≤ _; omega) (by show (l.getD i.toNat az).2.2.1.length ≤ _; omega) (h (l.getD i.toNat az) true (.inl ⟨rfl, hr, rfl⟩) (by omega))⟩
theorem pmaker_R {bef aft : List (List Int)} {p : List UInt8} {K : Int → Prop} (hp : p.length ≤ 1000000) (h : K (mkI l p)) : M_pgraph_Graph_Maker l (mkP l l.length) bef aft p K := by
  intro _ _ _
  unfold mkI at h
  refine ⟨by unfold maxLen; omega, fun hs => ?_, fun hs => ?_⟩
  · obtain ⟨v, hv⟩ := Option.isSome_iff_exists.1 hs
    rw [hv] at h ⊢; exact h
  · have hn : mget (mkP l l.length) p = none := by simpa using hs
    rw [hn] at h; exact h
theorem pbefore_R {mk : MK} {aft : List (List Int)} {K : List Int → Prop} (hs : GSmall l) (h0 : ¬ inR l i → K []) (h : inR l i → K (bsP l i.toNat)) : M_pgraph_Graph_Before l mk (befL l l.length) aft i K := by
  intro _ _ _
  refine ⟨fun hb => h0 fun hc => ?_, fun hb => ?_⟩
  · rw [Bool.or_eq_true, decide_eq_true_eq, decide_eq_true_eq] at hb
    unfold inR at hc; omega
  · rw [Bool.or_eq_false_iff, decide_eq_false_iff_not, decide_eq_false_iff_not] at hb
    have hr : inR l i := by unfold inR; omega
    have hil : i.toNat < l.length := by omega
    have h1 := bsP_len l i.toNat
    have h2 := (hs.at i.toNat).2
    refine ⟨by rw [befL_len]; exact hr, ?_⟩
    rw [befL_getD, if_pos hil]
    exact cloneI_M (by omega) (h hr)
end
end Go.Proofs.YtjhipfdbionpoaaGreatDoor


 /- Lines, plainly; sorting, plainly. -/
namespace Go.Proofs.YtjhipfdbionpoaaGreatDoor
open Go Go.RowKit
/-- a text between the bytes c -/
def cutC (c : UInt8) : Bs → List Bs
  | [] => [[]]
  | x :: s => if x = c then [] :: cutC c s else match cutC c s with
    | [] => [[x]]
    | h :: t => (x :: h) :: t
theorem split_cutC (d : UInt8) : ∀ s : Bs, Lib.split s [d] = cutC d s
  | [] => by simp [Lib.split, Lib.count_miss, Lib.index, Lib.splitK, cutC]
  | c :: s => by
    have ih := split_cutC d s
    unfold Lib.split at ih ⊢
    by_cases hc : c = d
    · subst hc
      have hix : Lib.index (c :: s) [c] = 0 := by rw [Lib.index]; simp [List.isPrefixOf]
      rw [Lib.count_cons_eq, Nat.add_comm, Lib.splitK, if_neg (by rw [hix]; decide), hix]
      simp only [cutC, if_true]
      rw [← ih]
      simp
    · have hp : ([d] : List UInt8).isPrefixOf (c :: s) = false := by simp [List.isPrefixOf, Ne.symm hc]
      have hix : Lib.index (c :: s) [d] = if Lib.index s [d] == -1 then -1 else Lib.index s [d] + 1 := by rw [Lib.index, hp]; simp
      rw [Lib.count_cons_ne c d s hc]
      simp only [cutC, if_neg hc]
      rw [← ih]
      cases hk : Lib.count s [d] with
      | zero => simp [Lib.splitK]
      | succ k =>
        have hne : Lib.index s [d] ≠ -1 := fun e => by rw [Lib.count_miss e] at hk; cases hk
        have hge := Lib.index_ge s [d]
        obtain ⟨j, hj⟩ : ∃ j : Nat, Lib.index s [d] = j := ⟨(Lib.index s [d]).toNat, by omega⟩
        have hix' : Lib.index (c :: s) [d] = ((j + 1 : Nat) : Int) := by rw [hix, if_neg (fun e => hne (beq_iff_eq.1 e)), hj]; omega
        rw [Lib.splitK, Lib.splitK, if_neg (fun e => hne (beq_iff_eq.1 e)), if_neg (by rw [hix']; simp; omega), hix', hj]
        simp
/-- a text's lines -/
def lineR : Bs → List Bs
  | [] => []
  | x :: s => if x = 10 then [] :: lineR s else match lineR s with
    | [] => [[x]]
    | h :: t => (x :: h) :: t
theorem suffix_one (x : UInt8) : ∀ s : Bs, s ≠ [] → Lib.hasSuffix (x :: s) [10] = Lib.hasSuffix s [10] := by
  intro s hs
  unfold Lib.hasSuffix
  rw [Bool.eq_iff_iff, List.isSuffixOf_iff_suffix, List.isSuffixOf_iff_suffix, List.suffix_cons_iff]
  constructor
  · rintro (h | h)
    · cases s with
      | nil => exact absurd rfl hs
      | cons y s => cases h
    · exact h
  · exact .inr
theorem trim_cons (x : UInt8) {s : Bs} (hs : s ≠ []) : Lib.trimSuffix (x :: s) [10] = x :: Lib.trimSuffix s [10] := by
  unfold Lib.trimSuffix
  rw [suffix_one x s hs]
  have hl : 0 < s.length := List.length_pos_iff.2 hs
  split
  · rw [show (x :: s).length - ([10] : Bs).length = (s.length - ([10] : Bs).length) + 1 by simp; omega]
    rfl
  · rfl
theorem lineR_cut : ∀ s : Bs, lineR s = if s = [] then [] else cutC 10 (Lib.trimSuffix s [10])
  | [] => by simp [lineR]
  | x :: s => by
    rw [if_neg (by simp)]
    have ih := lineR_cut s
    by_cases hs : s = []
    · subst hs
      by_cases hx : x = 10
      · subst hx; decide
      · have : Lib.hasSuffix [x] [10] = false := by
          unfold Lib.hasSuffix
          rw [← Bool.not_eq_true, List.isSuffixOf_iff_suffix]
          intro h
          have := h.eq_of_length rfl
          simp at this
          exact hx this.symm
        unfold Lib.trimSuffix
        rw [this]
        simp [lineR, cutC, hx]
    · rw [if_neg hs] at ih
      rw [trim_cons x hs]
      unfold lineR cutC
      rw [ih]
def wtL (l : List Bs) : Nat := (l.map fun x => x.length + 1).sum
theorem lineR_wt : ∀ s : Bs, wtL (lineR s) ≤ s.length + 1
  | [] => by simp [lineR, wtL]
  | c :: s => by
    have ih := lineR_wt s
    unfold lineR
    split
    · simp only [wtL, List.map_cons, List.sum_cons, List.length_nil, List.length_cons] at ih ⊢; omega
    · split
      · simp [wtL]
      · rename_i h t e
        rw [e] at ih
        simp only [wtL, List.map_cons, List.sum_cons, List.length_cons] at ih ⊢; omega
theorem wtL_mem {a : List Bs} {x : Bs} (h : x ∈ a) : x.length + 1 ≤ wtL a := by
  induction a with
  | nil => cases h
  | cons y a ih =>
    rcases List.mem_cons.1 h with h | h
    · subst h; simp only [wtL, List.map_cons, List.sum_cons]; omega
    · have := ih h; simp only [wtL, List.map_cons, List.sum_cons] at this ⊢; omega
theorem wtL_len (a : List Bs) : a.length ≤ wtL a := by
  induction a with
  | nil => simp [wtL]
  | cons y a ih => simp only [wtL, List.map_cons, List.sum_cons, List.length_cons] at ih ⊢; omega
def linesA (l : List Bs) : List Bs := l.flatMap lineR
end Go.Proofs.YtjhipfdbionpoaaGreatDoor


 /- What the tools write: the plain side of the program. -/
namespace Go.Proofs.YtjhipfdbionpoaaGreatDoor
open Go Go.RowKit
theorem trimS_M {s : List UInt8} {K : List UInt8 → Prop} (hs : s.length ≤ 4000000000) (h : K (Lib.trimSuffix s [10])) : M_strings_TrimSuffix s [10] K := by
  have e : ((decide ((([10] : List UInt8).length : Int) ≤ (s.length : Int))) && (decide ((s.drop ((s.length : Int) - (([10] : List UInt8).length : Int)).toNat) = ([10] : List UInt8)))) = Lib.hasSuffix s [10] := by
    unfold Lib.hasSuffix
    rw [Bool.eq_iff_iff, Bool.and_eq_true, decide_eq_true_eq, decide_eq_true_eq, List.isSuffixOf_iff_suffix]
    have hn : ((s.length : Int) - (([10] : List UInt8).length : Int)).toNat = s.length - ([10] : List UInt8).length := by simp
    rw [hn]
    exact ⟨fun h => List.suffix_iff_eq_drop.2 h.2.symm, fun h => ⟨by have := h.length_le; omega, (List.suffix_iff_eq_drop.1 h).symm⟩⟩
  refine ⟨fun h1 => ?_, fun h1 => ?_, ?_⟩
  · simp only [In]; simp; omega
  · rw [decide_eq_true_eq] at h1; simp at h1 ⊢; omega
  · rw [e]
    unfold Lib.trimSuffix at h
    refine ⟨fun h1 => ?_, fun h1 => ?_⟩
    · rw [if_pos h1] at h
      have hl : 1 ≤ s.length := by
        unfold Lib.hasSuffix at h1
        have := (List.isSuffixOf_iff_suffix.1 h1).length_le
        simpa using this
      refine ⟨by simp only [In]; simp; omega, by simp; omega, ?_⟩
      have hn : ((s.length : Int) - (([10] : List UInt8).length : Int)).toNat = s.length - ([10] : List UInt8).length := by simp
      rw [hn]
      exact h
    · rw [if_neg (by rw [h1]; decide)] at h
      exact h
theorem lineRs_M {s : List UInt8} {K : List (List UInt8) → Prop} (hs : s.length ≤ 4000000000) (h : K (lineR s)) : M_tool_Lines s K := by
  rw [lineR_cut] at h
  refine ⟨fun e => by rw [if_pos e] at h; exact h, fun e => trimS_M hs ⟨?_, by simp, ?_⟩⟩
  · have : (Lib.trimSuffix s [10]).length ≤ s.length := by
      unfold Lib.trimSuffix
      split
      · rw [List.length_take]; omega
      · exact Nat.le_refl _
    omega
  · rw [if_neg e] at h
    rw [show splitL [10] (Lib.trimSuffix s [10]) = cutC 10 (Lib.trimSuffix s [10]) from split_cutC 10 _]
    exact h
theorem lineR_len (s : List UInt8) : (lineR s).length ≤ s.length + 1 := Nat.le_trans (wtL_len _) (lineR_wt s)
theorem linesA_take {l : List (List UInt8)} {i : Nat} (h : i < l.length) : linesA (l.take (i + 1)) = linesA (l.take i) ++ lineR (l.getD i []) := by
  unfold linesA
  rw [List.take_succ_eq_append_getElem h, List.flatMap_append]
  simp [List.getD, h]
theorem linesA_len {l : List (List UInt8)} (h : ∀ x ∈ l, x.length ≤ 100000) : (linesA l).length ≤ 100001 * l.length := by
  induction l with
  | nil => simp [linesA]
  | cons x l ih =>
    have h1 := lineR_len x
    have h2 := h x (by simp)
    have h3 := ih fun y hy => h y (by simp [hy])
    have e : linesA (x :: l) = lineR x ++ linesA l := rfl
    rw [e, List.length_append, List.length_cons]
    omega
theorem linesA_M {l : List (List UInt8)} {K : List (List UInt8) → Prop} (hl : l.length ≤ 1000) (hx : ∀ x ∈ l, x.length ≤ 100000) (h : K (linesA l)) : M_tool_lines l K := by
  intro _
  refine ⟨fun o i => 0 ≤ i ∧ i ≤ l.length ∧ o = linesA (l.take i.toNat), fun _ i => l.length - i.toNat, ⟨by omega, by omega, rfl⟩, fun o i ⟨a0, a1, a2⟩ => ⟨fun hlt => ?_, fun hge => ?_⟩⟩
  · have h1 := hx _ (getD_mem (l := l) (k := i.toNat) (d := []) (by omega))
    have h2 := lineR_len (l.getD i.toNat [])
    have h3 := linesA_len (l := l.take i.toNat) fun x hx' => hx x (List.mem_of_mem_take hx')
    rw [List.length_take, ← a2] at h3
    refine ⟨by omega, lineRs_M (by omega) ⟨by omega, by simp only [In]; omega, ⟨by omega, by omega, ?_⟩, by dsimp only; omega⟩⟩
    rw [show (i + 1).toNat = i.toNat + 1 by omega, linesA_take (by omega), ← a2]
  · rw [a2, List.take_of_length_le (by omega)]
    exact h
def wNot : List UInt8 := [110, 111, 116]
def wRev : List UInt8 := [114, 101, 118, 101, 114, 115, 101]
def wUni : List UInt8 := [117, 110, 105, 113, 117, 101]
def filtOk (args : List (List UInt8)) : Bool := !((decide ((args.length : Int) < 1) || decide ((2 : Int) < (args.length : Int))) || (decide ((args.length : Int) = 2) && !decide (args.getD 1 [] = wNot)))
def filtB (args : List (List UInt8)) (x : List UInt8) : Bool := Lib.contains x (args.getD 0 []) == decide ((args.length : Int) = 1)
theorem filter_step (p : List UInt8 → Bool) (l : List (List UInt8)) (i : Nat) (h : i < l.length) : (l.take (i + 1)).filter p = (l.take i).filter p ++ (if p (l.getD i []) = true then [l.getD i []] else []) := by
  rw [List.take_succ_eq_append_getElem h, List.filter_append]
  have : l.getD i [] = l[i] := by simp [List.getD, h]
  rw [this]
  cases hp : p l[i] <;> simp [hp]
theorem filter_M {args l : List (List UInt8)} {K : List (List UInt8) → Bool → Prop} (hl : l.length ≤ 1000000000) (hx : ∀ x ∈ l, x.length ≤ 1000000) (h0 : filtOk args = false → K [] false) (h1 : filtOk args = true → K (l.filter (filtB args)) true) : M_tool_filter args l K := by
  intro _ _
  refine ⟨fun _ h2 => by rw [decide_eq_true_eq] at h2; omega, fun h => h0 (by unfold filtOk; rw [show wNot = ([110, 111, 116] : List UInt8) from rfl, h]; rfl), fun h => ?_⟩
  have hok : filtOk args = true := by unfold filtOk; rw [show wNot = ([110, 111, 116] : List UInt8) from rfl, h]; rfl
  have hn : 1 ≤ args.length := by
    rw [Bool.or_eq_false_iff, Bool.or_eq_false_iff, decide_eq_false_iff_not] at h
    omega
  refine ⟨fun o i => 0 ≤ i ∧ i ≤ l.length ∧ o = (l.take i.toNat).filter (filtB args), fun _ i => l.length - i.toNat, ⟨by omega, by omega, rfl⟩, fun o i ⟨a0, a1, a2⟩ => ⟨fun hlt => ?_, fun hge => ?_⟩⟩
  · have hol : o.length ≤ l.length := by
      rw [a2]
      exact Nat.le_trans (List.length_filter_le _ _) (by rw [List.length_take]; omega)
    have hxl := hx _ (getD_mem (l := l) (k := i.toNat) (d := []) (by omega))
    refine ⟨fun o' => o' = (l.take (i.toNat + 1)).filter (filtB args), ⟨by omega, by omega, by omega, fun e => ⟨by simp only [List.length_singleton]; omega, ?_⟩, fun e => ?_⟩, ?_⟩
    · rw [filter_step _ _ _ (by omega), if_pos (show filtB args (l.getD i.toNat []) = true from e), ← a2]
    · rw [filter_step _ _ _ (by omega), if_neg (by rw [show filtB args (l.getD i.toNat []) = false from e]; decide), ← a2, List.append_nil]
    · rintro _ rfl
      exact ⟨by simp only [In]; omega, ⟨by omega, by omega, by rw [show (i + 1).toNat = i.toNat + 1 by omega]⟩, by dsimp only; omega⟩
  · rw [a2, List.take_of_length_le (by omega)]
    exact h1 hok
theorem contains_M {l : List (List UInt8)} {v : List UInt8} {K : Bool → Prop} (h : K (l.contains v)) : M_slices_Contains_string_string l v K := by
  intro hm _
  refine ⟨fun i => 0 ≤ i ∧ i ≤ l.length ∧ ∀ j, j < i.toNat → l.getD j [] ≠ v, fun i => l.length - i.toNat, ⟨by omega, by omega, fun j hj => by simp at hj⟩, fun i ⟨a0, a1, a2⟩ => ⟨fun hlt => ⟨by omega, fun e => ?_, fun e => ⟨by simp only [In]; simp only [maxLen] at hm; omega, ⟨by omega, by omega, fun j hj => ?_⟩, by dsimp only; omega⟩⟩, fun hge => ?_⟩⟩
  · have : l.contains v = true := by rw [e]; exact List.contains_iff_mem.2 (getD_mem (by omega))
    rw [this] at h
    show K (decide ((0 : Int) ≤ i))
    rw [decide_eq_true a0]; exact h
  · by_cases e2 : j = i.toNat
    · rw [e2]; exact fun e3 => e e3.symm
    · exact a2 j (by omega)
  · have : l.contains v = false := by
      rw [← Bool.not_eq_true, List.contains_iff_mem]
      intro hmem
      obtain ⟨j, hj, rfl⟩ := List.getElem_of_mem hmem
      exact a2 j (by omega) (by simp [List.getD, hj])
    rw [this] at h
    exact h
def sortOk (args : List (List UInt8)) : Bool := decide (((if args.contains wRev then 1 else 0) + (if args.contains wUni then 1 else 0) : Int) = (args.length : Int))
def sortR (args l : List (List UInt8)) : List (List UInt8) := if args.contains wRev then (if args.contains wUni then sortU l else sortB l).reverse else (if args.contains wUni then sortU l else sortB l)
theorem sorted_M {args l : List (List UInt8)} {K : List (List UInt8) → Bool → Prop} (hl : l.length ≤ 1000000000) (h0 : sortOk args = false → K [] false) (h1 : sortOk args = true → K (sortR args l) true) : M_tool_sorted args l K := by
  intro _ _
  refine contains_M (contains_M ?_)
  have e1 : args.contains ([114, 101, 118, 101, 114, 115, 101] : List UInt8) = args.contains wRev := rfl
  have e2 : args.contains ([117, 110, 105, 113, 117, 101] : List UInt8) = args.contains wUni := rfl
  rw [e1, e2]
  unfold sortOk at h0 h1
  unfold sortR at h1
  revert h0 h1
  generalize args.contains wRev = r
  generalize args.contains wUni = u
  intro h0 h1
  cases r <;> cases u
  all_goals
    simp only [if_true, if_false, Bool.false_eq_true, decide_eq_true_eq, decide_eq_false_iff_not] at h0 h1
  · refine ⟨fun n => n = 0, ⟨fun h => (by cases h), fun _ => rfl⟩, ?_⟩
    rintro _ rfl
    refine ⟨fun n => n = 0, ⟨fun h => (by cases h), fun _ => rfl⟩, ?_⟩
    rintro _ rfl
    refine ⟨fun h => h0 (by simpa using h), fun h => ⟨hl, fun o => o = sortB l, ⟨fun h => (by cases h), fun _ => rfl⟩, ?_⟩⟩
    rintro _ rfl
    refine ⟨fun o => o = sortB l, ⟨fun h => (by cases h), fun _ => rfl⟩, ?_⟩
    rintro _ rfl
    exact h1 (by simpa using h)
  · refine ⟨fun n => n = 0, ⟨fun h => (by cases h), fun _ => rfl⟩, ?_⟩
    rintro _ rfl
    refine ⟨fun n => n = 1, ⟨fun _ => ⟨by simp only [In]; omega, rfl⟩, fun h => (by cases h)⟩, ?_⟩
    rintro _ rfl
    refine ⟨fun h => h0 (by simpa using h), fun h => ⟨hl, fun o => o = sortU l, ⟨fun _ => rfl, fun h => (by cases h)⟩, ?_⟩⟩
    rintro _ rfl
    refine ⟨fun o => o = sortU l, ⟨fun h => (by cases h), fun _ => rfl⟩, ?_⟩
    rintro _ rfl
    exact h1 (by simpa using h)
  · refine ⟨fun n => n = 1, ⟨fun _ => ⟨by simp only [In]; omega, rfl⟩, fun h => (by cases h)⟩, ?_⟩
    rintro _ rfl
    refine ⟨fun n => n = 1, ⟨fun h => (by cases h), fun _ => rfl⟩, ?_⟩
    rintro _ rfl
    refine ⟨fun h => h0 (by simpa using h), fun h => ⟨hl, fun o => o = sortB l, ⟨fun h => (by cases h), fun _ => rfl⟩, ?_⟩⟩
    rintro _ rfl
    refine ⟨fun o => o = (sortB l).reverse, ⟨fun _ => rfl, fun h => (by cases h)⟩, ?_⟩
    rintro _ rfl
    exact h1 (by simpa using h)
  · refine ⟨fun n => n = 1, ⟨fun _ => ⟨by simp only [In]; omega, rfl⟩, fun h => (by cases h)⟩, ?_⟩
    rintro _ rfl
    refine ⟨fun n => n = 2, ⟨fun _ => ⟨by simp only [In]; omega, rfl⟩, fun h => (by cases h)⟩, ?_⟩
    rintro _ rfl
    refine ⟨fun h => h0 (by simpa using h), fun h => ⟨hl, fun o => o = sortU l, ⟨fun _ => rfl, fun h => (by cases h)⟩, ?_⟩⟩
    rintro _ rfl
    refine ⟨fun o => o = (sortU l).reverse, ⟨fun _ => rfl, fun h => (by cases h)⟩, ?_⟩
    rintro _ rfl
    exact h1 (by simpa using h)
end Go.Proofs.YtjhipfdbionpoaaGreatDoor


 /- What the tools write: joining, listing: the plain side of the program. -/
namespace Go.Proofs.YtjhipfdbionpoaaGreatDoor
open Go Go.RowKit
theorem joined_M {l : List (List UInt8)} {by_ end_ : List UInt8} {K : List UInt8 → Er → Prop} (hx : ∀ x ∈ l, x.length ≤ 1000000000) (hb : by_.length ≤ 1000000000) (he : end_.length ≤ 1000000000)
    (h1 : (joinE l by_ end_).length ≤ 65536 → K (joinE l by_ end_) .ok) (h0 : 65536 < (joinE l by_ end_).length → K [] (.e 16)) : M_tool_joined l by_ end_ K := by
  intro hm
  refine ⟨fun n i => 0 ≤ i ∧ i ≤ l.length ∧ n = ((joinE (l.take i.toNat) by_ end_).length : Int) ∧ n ≤ 65536, fun _ i => l.length - i.toNat, ⟨by omega, by omega, rfl, by omega⟩, fun n i ⟨a0, a1, a2, a3⟩ => ⟨fun hlt => ⟨by omega, ?_⟩, fun hge => ?_⟩⟩
  · have hxl := hx _ (getD_mem (l := l) (k := i.toNat) (d := []) (by omega))
    have ht := congrArg List.length (joinE_take (l := l) (i := i.toNat) (by omega) by_ end_)
    have hle := joinE_le l (i.toNat + 1) by_ end_
    simp only [List.length_append] at ht
    simp only [maxLen] at hm
    refine ⟨fun n2 => n2 = n + ((if i.toNat = 0 then ([] : List UInt8) else by_).length : Int), ⟨fun h => ⟨by simp only [In]; omega, by rw [if_neg (by omega)]⟩, fun h => by rw [if_pos (by omega)]; simp⟩, ?_⟩
    rintro n2 rfl
    have hif : (if i.toNat = 0 then ([] : List UInt8) else by_).length ≤ 1000000000 := by
      split
      · simp
      · exact hb
    refine ⟨by simp only [In]; omega, by simp only [In]; omega, fun h => h0 (by omega), fun h => ⟨by simp only [In]; omega, ⟨by omega, by omega, ?_, by omega⟩, by dsimp only; omega⟩⟩
    rw [show (i + 1).toNat = i.toNat + 1 by omega]
    omega
  · rw [List.take_of_length_le (by omega)] at a2
    exact ⟨by omega, h1 (by omega)⟩
def digestsP (l : List (List UInt8)) : List (List UInt8) := l.map fun s => hexS (shaS s)
theorem textZ_M {s : List UInt8} {K : List UInt8 → Prop} (hl : s.length = 32) (h : K (hexS s)) : M_sha_Text s K := by
  intro t ht he
  have : t = s := List.ext_getElem (by omega) fun i h1 h2 => by
    have := he i (by omega)
    simpa [List.getD, h1, h2] using this
  rw [this]; exact h
/-- the lines that a tool lists, and whether its arguments may be -/
def listP (tool : Int) (args inputs : List (List UInt8)) : List (List UInt8) × Bool :=
  if tool = 2 then (if filtOk args then ((linesA inputs).filter (filtB args), true) else ([], false))
  else if tool = 4 then (if sortOk args then (sortR args (linesA inputs), true) else ([], false))
  else (digestsP inputs, decide ((args.length : Int) = 0))
theorem lineR_le {s x : List UInt8} (h : x ∈ lineR s) : x.length ≤ s.length := by
  have h1 := wtL_mem h
  have h2 := lineR_wt s
  omega
theorem linesA_le {l : List (List UInt8)} {x : List UInt8} (h : x ∈ linesA l) (hx : ∀ y ∈ l, y.length ≤ 100000) : x.length ≤ 100000 := by
  unfold linesA at h
  obtain ⟨y, hy, hxy⟩ := List.mem_flatMap.1 h
  have := lineR_le hxy
  have := hx y hy
  omega
theorem listed_M {tool : Int} {args inputs : List (List UInt8)} {K : List (List UInt8) → Bool → Prop} (hl : inputs.length ≤ 1000) (hx : ∀ x ∈ inputs, x.length ≤ 100000) (h : K (listP tool args inputs).1 (listP tool args inputs).2) : M_tool_listed tool args inputs K := by
  intro _ _
  have hlen := linesA_len hx
  unfold listP at h
  refine ⟨fun e => linesA_M hl hx (filter_M (by omega) (fun x hx' => by have := linesA_le hx' hx; omega) (fun e2 => ?_) (fun e2 => ?_)), fun e => ⟨fun e3 => linesA_M hl hx (sorted_M (by omega) (fun e2 => ?_) (fun e2 => ?_)), fun e3 => ?_⟩⟩
  · rw [if_pos e, if_neg (by rw [e2]; decide)] at h; exact h
  · rw [if_pos e, if_pos e2] at h; exact h
  · rw [if_neg e, if_pos e3, if_neg (by rw [e2]; decide)] at h; exact h
  · rw [if_neg e, if_pos e3, if_pos e2] at h; exact h
  · rw [if_neg e, if_neg e3] at h
    refine ⟨fun o i => 0 ≤ i ∧ i ≤ inputs.length ∧ o = digestsP (inputs.take i.toNat), fun _ i => inputs.length - i.toNat, ⟨by omega, by omega, rfl⟩, fun o i ⟨a0, a1, a2⟩ => ⟨fun hlt => ?_, fun hge => ?_⟩⟩
    · have hxl := hx _ (getD_mem (l := inputs) (k := i.toNat) (d := []) (by omega))
      have hol : o.length ≤ 1000 := by rw [a2, digestsP, List.length_map, List.length_take]; omega
      refine ⟨by omega, by simp only [maxLen]; omega, by omega, textZ_M (shaS_len _) ⟨by simp only [List.length_singleton]; omega, by simp only [In]; omega, ⟨by omega, by omega, ?_⟩, by dsimp only; omega⟩⟩
      rw [show (i + 1).toNat = i.toNat + 1 by omega, a2]
      unfold digestsP
      rw [List.take_succ_eq_append_getElem (show i.toNat < inputs.length by omega), List.map_append]
      simp [List.getD, show i.toNat < inputs.length by omega]
    · rw [a2, List.take_of_length_le (by omega)]
      exact h
end Go.Proofs.YtjhipfdbionpoaaGreatDoor


 /- What the tools write: replacing; all of Do: the plain side of the program. -/
namespace Go.Proofs.YtjhipfdbionpoaaGreatDoor
open Go Go.RowKit
theorem replK_len (old new : List UInt8) (ho : old ≠ []) : ∀ (k : Nat) (s : List UInt8), Lib.count s old = k → (Lib.replaceK old new k s).length + k * old.length = s.length + k * new.length := by
  intro k
  induction k with
  | zero => intro s _; simp [Lib.replaceK]
  | succ k ih =>
    intro s hc
    obtain ⟨i, hi⟩ := Lib.index_of_count (s := s) (old := old) (by omega)
    have h1 := Lib.count_hit ho hi
    have h2 := Lib.index_room s old (by omega)
    have h3 := ih (s.drop (i + old.length)) (by omega)
    rw [Lib.replaceK_hit old new k s i hi, List.length_append, List.length_append, List.length_take]
    rw [List.length_drop] at h3
    rw [Nat.succ_mul, Nat.succ_mul]
    omega
theorem replAll_len (s old new : List UInt8) (ho : old ≠ []) : (Lib.replaceAll s old new).length + Lib.count s old * old.length = s.length + Lib.count s old * new.length := by
  by_cases he : old = new
  · have : Lib.replaceAll s old new = s := by
      unfold Lib.replaceAll Lib.replace
      simp [he]
    rw [this, he]
  · have : Lib.replaceAll s old new = Lib.replaceK old new (Lib.count s old) s := by
      unfold Lib.replaceAll Lib.replace Lib.replaceNum
      simp [he]
    rw [this]
    exact replK_len old new ho _ s rfl
def subP : List (List UInt8) → List UInt8 → List UInt8 × Er
  | a :: b :: r, s => if a = [] then ([], .e 16) else if (0 : Int) < (b.length : Int) - (a.length : Int) ∧ (65536 - (s.length : Int)) / ((b.length : Int) - (a.length : Int)) < (Lib.count s a : Int) then ([], .e 16) else subP r (Lib.replaceAll s a b)
  | _, s => (s, .ok)
theorem subP_cons (a b : List UInt8) (r : List (List UInt8)) (s : List UInt8) : subP (a :: b :: r) s = if a = [] then ([], .e 16) else if (0 : Int) < (b.length : Int) - (a.length : Int) ∧ (65536 - (s.length : Int)) / ((b.length : Int) - (a.length : Int)) < (Lib.count s a : Int) then ([], .e 16) else subP r (Lib.replaceAll s a b) := rfl
def substP (args inputs : List (List UInt8)) : List UInt8 × Er :=
  if (args.length : Int) % 2 = 0 then (if 65536 < (joinE inputs [] []).length then ([], .e 16) else subP args (joinE inputs [] [])) else ([], .e 16)
theorem substitute_M {args inputs : List (List UInt8)} {K : List UInt8 → Er → Prop} (ha : ∀ x ∈ args, x.length ≤ 1000000) (hx : ∀ x ∈ inputs, x.length ≤ 1000000000) (h : K (substP args inputs).1 (substP args inputs).2) : M_tool_substitute args inputs K := by
  intro hm _
  simp only [maxLen] at hm
  unfold substP at h
  refine ⟨by omega, fun e => by rw [if_neg e] at h; exact h, fun e => ?_⟩
  rw [if_pos e] at h
  refine joined_M hx (by simp) (by simp) (fun hj => ⟨fun e2 => absurd rfl e2, fun _ => ?_⟩) (fun hj => ⟨fun _ => ?_, fun e2 => by cases e2⟩)
  · rw [if_neg (by omega)] at h
    generalize joinE inputs [] [] = s0 at *
    refine ⟨fun s i => 0 ≤ i ∧ i ≤ args.length ∧ i % 2 = 0 ∧ s.length ≤ 65536 ∧ subP args s0 = subP (args.drop i.toNat) s, fun _ i => args.length - i.toNat, ⟨by omega, by omega, by omega, hj, by simp⟩, fun s i ⟨a0, a1, a2, a3, a4⟩ => ⟨fun hlt => ⟨by omega, ?_⟩, fun hge => ?_⟩⟩
    · have hd : args.drop i.toNat = args.getD i.toNat [] :: args.getD (i.toNat + 1) [] :: args.drop (i.toNat + 2) := by
        rw [List.drop_eq_getElem_cons (show i.toNat < args.length by omega), List.drop_eq_getElem_cons (show i.toNat + 1 < args.length by omega)]
        simp [List.getD, show i.toNat < args.length by omega, show i.toNat + 1 < args.length by omega]
      rw [hd] at a4
      have l1 := ha _ (getD_mem (l := args) (k := i.toNat) (d := []) (by omega))
      have l2 := ha _ (getD_mem (l := args) (k := i.toNat + 1) (d := []) (by omega))
      have ei : (i + 1).toNat = i.toNat + 1 := by omega
      rw [ei]
      generalize args.getD i.toNat [] = a at *
      generalize args.getD (i.toNat + 1) [] = b at *
      rw [subP_cons] at a4
      refine ⟨fun hn => ?_, fun hn => ?_⟩
      · rw [if_pos hn] at a4
        rw [a4] at h; exact h
      · rw [if_neg hn] at a4
        have hal : 1 ≤ a.length := List.length_pos_iff.2 hn
        have hcnt : (Lib.countB ⟨⟨s⟩⟩ ⟨⟨a⟩⟩ : Nat) = Lib.count s a := rfl
        have hlen := replAll_len s a b hn
        have hcl := Lib.count_le s a
        have hmulle : Lib.count s a * b.length ≤ 65537 * 1000000 := Nat.mul_le_mul (by omega) l2
        refine ⟨by omega, by omega, hal, ?_⟩
        rw [hcnt]
        refine ⟨by simp only [In]; omega, by omega, by omega, by simp only [In]; omega, fun _ => by simp only [In]; omega, fun hp => ?_, fun hp => ?_, fun hp => ?_⟩
        · rw [decide_eq_true_eq] at hp
          exact ⟨by omega, by omega, by simp only [In]; omega⟩
        · rw [Bool.and_eq_true, decide_eq_true_eq, decide_eq_true_eq] at hp
          rw [if_pos hp] at a4
          rw [a4] at h; exact h
        · rw [Bool.and_eq_false_iff, decide_eq_false_iff_not, decide_eq_false_iff_not] at hp
          rw [if_neg (by rintro ⟨q1, q2⟩; rcases hp with hp | hp <;> contradiction)] at a4
          refine ⟨by omega, by simp only [In]; omega, by omega, by omega, hal, by rw [hcnt]; omega, by simp only [In]; omega, ⟨by omega, by omega, by omega, ?_, ?_⟩, by dsimp only; omega⟩
          · rcases hp with hp | hp
            · have : Lib.count s a * b.length ≤ Lib.count s a * a.length := Nat.mul_le_mul_left _ (by omega)
              omega
            · by_cases hd0 : (0 : Int) < (b.length : Int) - (a.length : Int)
              · have h5 : (Lib.count s a : Int) * ((b.length : Int) - (a.length : Int)) ≤ 65536 - (s.length : Int) := (Int.le_ediv_iff_mul_le hd0).1 (by omega)
                rw [Int.mul_sub] at h5
                have h6 : ((Lib.count s a * b.length : Nat) : Int) = (Lib.count s a : Int) * (b.length : Int) := Int.natCast_mul _ _
                have h7 : ((Lib.count s a * a.length : Nat) : Int) = (Lib.count s a : Int) * (a.length : Int) := Int.natCast_mul _ _
                omega
              · have : Lib.count s a * b.length ≤ Lib.count s a * a.length := Nat.mul_le_mul_left _ (by omega)
                omega
          · rw [show (i + 2).toNat = i.toNat + 2 by omega]
            exact a4
    · rw [List.drop_eq_nil_of_le (by omega)] at a4
      rw [a4] at h
      exact h
  · rw [if_pos hj] at h
    exact h
/-- what Do answers -/
def fitP (t : List UInt8) : List UInt8 × Er := if t.length ≤ 65536 then (t, .ok) else ([], .e 16)
def doP (tool : Int) (args inputs : List (List UInt8)) : List UInt8 × Er :=
  if tool = 3 then substP args inputs
  else if tool = 1 then (if 1 < args.length then ([], .e 16) else fitP (joinE inputs (if args.length = 1 then args.getD 0 [] else []) []))
  else if tool = 2 ∨ tool = 4 ∨ tool = 5 then (if (listP tool args inputs).2 = true then fitP (joinE (listP tool args inputs).1 [] [10]) else ([], .e 16))
  else ([], .e 10)
theorem sortU_le {l : List (List UInt8)} {x : List UInt8} (h : x ∈ sortU l) : x ∈ l := (sortU_mem l x).1 h
theorem listP_le {tool : Int} {args inputs : List (List UInt8)} (hx : ∀ x ∈ inputs, x.length ≤ 100000) : ∀ x ∈ (listP tool args inputs).1, x.length ≤ 100000 := by
  intro x h
  unfold listP at h
  split at h
  · split at h
    · exact linesA_le (List.mem_filter.1 h).1 hx
    · cases h
  · split at h
    · split at h
      · refine linesA_le (l := inputs) ?_ hx
        unfold sortR at h
        split at h
        · rw [List.mem_reverse] at h
          split at h
          · exact sortU_le h
          · exact (sortB_mem _ _).1 h
        · split at h
          · exact sortU_le h
          · exact (sortB_mem _ _).1 h
      · cases h
    · unfold digestsP at h
      obtain ⟨y, _, rfl⟩ := List.mem_map.1 h
      rw [hexS_len, shaS_len]; omega
theorem do_M {tool : Int} {args inputs : List (List UInt8)} {K : List UInt8 → Er → Prop} (ha : ∀ x ∈ args, x.length ≤ 1000000) (hl : inputs.length ≤ 1000) (hx : ∀ x ∈ inputs, x.length ≤ 100000) (h : K (doP tool args inputs).1 (doP tool args inputs).2) : M_tool_Do tool args inputs K := by
  intro _ _
  have fit : ∀ (l : List (List UInt8)) (b e : List UInt8), (∀ x ∈ l, x.length ≤ 1000000) → b.length ≤ 1000000 → e.length ≤ 1000000 → K (fitP (joinE l b e)).1 (fitP (joinE l b e)).2 → M_tool_joined l b e K := fun l b e q1 q2 q3 q4 => by
    unfold fitP at q4
    refine joined_M (fun x hx' => by have := q1 x hx'; omega) (by omega) (by omega) (fun q5 => ?_) (fun q5 => ?_)
    · rw [if_pos q5] at q4; exact q4
    · rw [if_neg (by omega)] at q4; exact q4
  unfold doP at h
  refine ⟨fun a2 i2 e is => (tool = 1 ∧ a2 = args ∧ i2 = inputs ∧ e = [] ∧ is = true) ∨ ((tool = 2 ∨ tool = 4 ∨ tool = 5) ∧ a2 = [] ∧ i2 = (listP tool args inputs).1 ∧ e = [10] ∧ is = (listP tool args inputs).2), ⟨fun e => substitute_M ha (fun x hx' => by have := hx x hx'; omega) (by rw [if_pos e] at h; exact h), fun e => ?_⟩, ?_⟩
  · rw [if_neg e] at h
    refine ⟨fun b => b = decide (tool = 2 ∨ tool = 4 ∨ tool = 5), ⟨fun e2 => by simp [e2], fun e2 => ⟨fun e3 => by simp [e3], fun e3 => by simp [e2, e3]⟩⟩, ?_⟩
    rintro b rfl
    refine ⟨fun hb => listed_M hl hx (.inr ⟨of_decide_eq_true hb, rfl, rfl, rfl, rfl⟩), fun hb => ⟨fun e1 => .inl ⟨e1, rfl, rfl, rfl, rfl⟩, fun e1 => ?_⟩⟩
    rw [if_neg e1, if_neg (of_decide_eq_false hb)] at h
    exact h
  · rintro a2 i2 e is (⟨rfl, rfl, rfl, rfl, rfl⟩ | ⟨ht, rfl, rfl, rfl, rfl⟩)
    · rw [if_neg (by decide), if_pos rfl] at h
      refine ⟨fun h1 => ?_, fun h1 => ?_⟩
      · have : 1 < a2.length := by simp at h1; omega
        rw [if_pos this] at h
        exact h
      · have hle : ¬ 1 < a2.length := by simp at h1; omega
        rw [if_neg hle] at h
        refine ⟨fun b => b = (if a2.length = 1 then a2.getD 0 [] else []), ⟨fun e1 => ⟨by omega, by rw [if_pos (by omega)]⟩, fun e1 => by rw [if_neg (by omega)]⟩, ?_⟩
        rintro b rfl
        refine fit _ _ _ (fun x hx' => by have := hx x hx'; omega) ?_ (by simp) h
        split
        · exact ha _ (getD_mem (by omega))
        · simp
    · have hn3 : ¬ tool = 3 := by omega
      have hn1 : ¬ tool = 1 := by omega
      rw [if_neg hn3, if_neg hn1, if_pos ht] at h
      refine ⟨fun h1 => ?_, fun h1 => ?_⟩
      · have : ¬ (listP tool args inputs).2 = true := by simpa using h1
        rw [if_neg this] at h
        exact h
      · have : (listP tool args inputs).2 = true := by simpa using h1
        rw [if_pos this] at h
        refine ⟨fun b => b = [], ⟨fun e1 => by simp at e1, fun _ => rfl⟩, ?_⟩
        rintro b rfl
        exact fit _ _ _ (fun x hx' => by have := listP_le hx x hx'; omega) (by simp) (by simp) h
end Go.Proofs.YtjhipfdbionpoaaGreatDoor


 /- Keys: the program's side alone. -/
namespace Go.Proofs.YtjhipfdbionpoaaGreatDoor
open Go Go.RowKit
theorem text_M {s : List UInt8} {K : List UInt8 → Prop} (hl : s.length = 32) (h : K (hexS s)) : M_sha_Text s K := by
  intro t ht he
  have : t = s := List.ext_getElem (by omega) fun i h1 h2 => by
    have := he i (by omega)
    simpa [List.getD, h1, h2] using this
  rw [this]; exact h
def smithyT : List UInt8 := [115, 109, 105, 116, 104, 121]
def partsP (tool : Int) (args inputs : List (List UInt8)) : List (List UInt8) := [smithyT, Lib.itoa tool, Lib.itoa (args.length : Int)] ++ args ++ inputs.map hexS
theorem map_take_succ {α β : Type} (f : α → β) (l : List α) (d : α) (i : Nat) (h : i < l.length) : (l.take (i + 1)).map f = (l.take i).map f ++ [f (l.getD i d)] := by
  rw [List.take_succ_eq_append_getElem h, List.map_append]
  simp [List.getD, h]
theorem parts_loop {inputs pre : List (List UInt8)} {K : List (List UInt8) → Prop} {T : List UInt8 → (List UInt8 → Prop) → Prop} (hT : ∀ s (K : List UInt8 → Prop), s.length = 32 → K (hexS s) → T s K) (hp : pre.length ≤ 1000) (hi : inputs.length ≤ 1000) (hx : ∀ x ∈ inputs, x.length = 32) (h : K (pre ++ inputs.map hexS)) :
    Lp2 (fun (l : List (List UInt8)) (i : Int) k_1 => ((i < (inputs.length : Int) → (0 ≤ i ∧ i < (inputs.length : Nat)) ∧ T (inputs.getD i.toNat []) (fun (t27 : List UInt8) => ((l.length + (([t27] : List (List UInt8))).length) * 16 ≤ 140737488355328) ∧ (In .i64 (i + (1 : Int))) ∧ k_1 (l ++ ([t27] : List (List UInt8))) (i + (1 : Int)))) ∧ (¬ (i < (inputs.length : Int)) → K l))) pre (0 : Int) := by
  refine ⟨fun l i => 0 ≤ i ∧ i ≤ inputs.length ∧ l = pre ++ (inputs.take i.toNat).map hexS, fun _ i => inputs.length - i.toNat, ⟨by omega, by omega, by simp⟩, fun l i ⟨a0, a1, a2⟩ => ⟨fun hlt => ⟨by omega, ?_⟩, fun hge => ?_⟩⟩
  · have hl : l.length ≤ 2000 := by rw [a2, List.length_append, List.length_map, List.length_take]; omega
    refine hT _ _ (hx _ (getD_mem (by omega))) ⟨by simp only [List.length_singleton]; omega, by simp only [In]; omega, ⟨by omega, by omega, ?_⟩, by dsimp only; omega⟩
    rw [show (i + 1).toNat = i.toNat + 1 by omega, map_take_succ hexS inputs [] i.toNat (by omega), a2, List.append_assoc]
  · rw [a2, List.take_of_length_le (by omega)]
    exact h
theorem kparts_M {tool : Int} {args inputs : List (List UInt8)} {K : List (List UInt8) → Prop} (ht : In .i64 tool) (ha : args.length ≤ 100) (hi : inputs.length ≤ 100) (hx : ∀ x ∈ inputs, x.length = 32) (h : K (partsP tool args inputs)) : M_key_Parts tool args inputs K := by
  intro _ _
  refine ⟨ht, by simp only [In]; omega, by simp only [List.length_cons, List.length_nil]; omega, parts_loop (fun s K h1 h2 => text_M h1 h2) (by simp only [List.length_append, List.length_cons, List.length_nil]; omega) (by omega) hx h⟩
theorem itoa_le {n : Int} (h : In .i64 n) : (Lib.itoa n).length ≤ 21 := by
  simp only [In] at h
  exact Lib.itoa_length_le n (by omega) (by omega)
theorem partsP_le {tool : Int} {args inputs : List (List UInt8)} (ht : In .i64 tool) (ha : args.length ≤ 100) (hax : ∀ x ∈ args, x.length ≤ 1000) (hx : ∀ x ∈ inputs, x.length = 32) : ∀ x ∈ partsP tool args inputs, x.length ≤ 1000 := by
  intro x h
  unfold partsP at h
  rcases List.mem_append.1 h with h | h
  · rcases List.mem_append.1 h with h | h
    · have h1 := itoa_le ht
      have h2 := itoa_le (n := (args.length : Int)) (by simp only [In]; omega)
      simp only [List.mem_cons, List.not_mem_nil, or_false] at h
      rcases h with rfl | rfl | rfl
      · decide
      · omega
      · omega
    · exact hax x h
  · obtain ⟨y, hy, rfl⟩ := List.mem_map.1 h
    rw [hexS_len, hx y hy]; omega
theorem partsP_len (tool : Int) (args inputs : List (List UInt8)) : (partsP tool args inputs).length = 3 + args.length + inputs.length := by simp [partsP]; omega
theorem kof_M {tool : Int} {args inputs : List (List UInt8)} {K : List UInt8 → Prop} (ht : In .i64 tool) (ha : args.length ≤ 40) (hi : inputs.length ≤ 40) (hax : ∀ x ∈ args, x.length ≤ 1000) (hx : ∀ x ∈ inputs, x.length = 32) (h : K (manyS (partsP tool args inputs))) : M_key_Of tool args inputs K := by
  intro _ _
  refine kparts_M ht (by omega) (by omega) hx ⟨by rw [partsP_len]; omega, fun x hx' => ?_, h⟩
  have := partsP_le ht (by omega) hax hx x hx'
  omega
theorem map_sha (l : List (List UInt8)) : ∀ x ∈ l.map shaS, x.length = 32 := fun x h => by
  obtain ⟨y, _, rfl⟩ := List.mem_map.1 h
  exact shaS_len y
end Go.Proofs.YtjhipfdbionpoaaGreatDoor


 /- What actions come to: the program's side. -/
namespace Go.Proofs.YtjhipfdbionpoaaGreatDoor
open Go Go.RowKit
def okN : Er → Int
  | .ok => 1
  | _ => 2
theorem okN_ok {e : Er} (h : e = .ok) : okN e = 1 := by rw [h]; rfl
theorem okN_ne {e : Er} (h : ¬ e = .ok) : okN e = 2 := by
  cases e with
  | ok => exact absurd rfl h
  | e n => rfl
  | at_ p n => rfl
/-- what an action comes to whose inputs are all there -/
def FQ1 (a : GAct) (ts : TL) : FT := (okN (doP a.1 a.2.1 ts).2, (doP a.1 a.2.1 ts).1, manyS (partsP a.1 a.2.1 (ts.map shaS)))
theorem subP_le : ∀ (n : Nat) (args : TL) (s : List UInt8), args.length ≤ n → s.length ≤ 65536 → (subP args s).1.length ≤ 65536
  | _, [], _, _, hs => hs
  | _, [_], _, _, hs => hs
  | 0, _ :: _ :: _, _, h, _ => by simp at h
  | n + 1, a :: b :: r, s, h, hs => by
    rw [subP_cons]
    split
    · simp
    rename_i ha
    split
    · simp
    rename_i hp
    refine subP_le n r _ (by simp at h; omega) ?_
    have hlen := replAll_len s a b ha
    by_cases hd0 : (0 : Int) < (b.length : Int) - (a.length : Int)
    · have h4 : ¬ (65536 - (s.length : Int)) / ((b.length : Int) - (a.length : Int)) < (Lib.count s a : Int) := fun h => hp ⟨hd0, h⟩
      have h5 : (Lib.count s a : Int) * ((b.length : Int) - (a.length : Int)) ≤ 65536 - (s.length : Int) := (Int.le_ediv_iff_mul_le hd0).1 (by omega)
      rw [Int.mul_sub] at h5
      have h6 : ((Lib.count s a * b.length : Nat) : Int) = (Lib.count s a : Int) * (b.length : Int) := Int.natCast_mul _ _
      have h7 : ((Lib.count s a * a.length : Nat) : Int) = (Lib.count s a : Int) * (a.length : Int) := Int.natCast_mul _ _
      omega
    · have : Lib.count s a * b.length ≤ Lib.count s a * a.length := Nat.mul_le_mul_left _ (by omega)
      omega
theorem fitP_le (t : List UInt8) : (fitP t).1.length ≤ 65536 := by unfold fitP; split <;> simp_all
theorem doP_le (t : Int) (args inputs : TL) : (doP t args inputs).1.length ≤ 65536 := by
  unfold doP
  split
  · unfold substP
    split
    · split
      · simp
      · exact subP_le _ _ _ (Nat.le_refl _) (by omega)
    · simp
  · split
    · split
      · simp
      · exact fitP_le _
    · split
      · split
        · exact fitP_le _
        · simp
      · simp
section
variable {tx : TX}
theorem allT_snoc {s t : List UInt8} (h2 : mget tx s = some t) : ∀ {xs ts : TL}, allT tx xs = some ts → allT tx (xs ++ [s]) = some (ts ++ [t])
  | [], ts, h => by
    cases h
    show allT tx [s] = _
    unfold allT
    rw [h2]; rfl
  | x :: xs, ts, h => by
    rw [List.cons_append]
    unfold allT at h ⊢
    cases hx : mget tx x with
    | none => rw [hx] at h; cases h
    | some u =>
      rw [hx] at h
      cases ha : allT tx xs with
      | none => rw [ha] at h; cases h
      | some ts' => rw [ha] at h; cases h; dsimp only; rw [allT_snoc h2 ha]; rfl
theorem allT_none {s : List UInt8} (h2 : mget tx s = none) : ∀ {xs : TL}, s ∈ xs → allT tx xs = none
  | x :: xs, h => by
    unfold allT
    rcases List.mem_cons.1 h with rfl | h
    · rw [h2]
    · rw [allT_none h2 h]; cases mget tx x <;> rfl
theorem allT_mem {P : List UInt8 → Prop} (hp : ∀ s v, mget tx s = some v → P v) : ∀ {xs ts : TL}, allT tx xs = some ts → ts.length = xs.length ∧ ∀ t ∈ ts, P t
  | [], ts, h => by cases h; exact ⟨rfl, fun t ht => by cases ht⟩
  | x :: xs, ts, h => by
    unfold allT at h
    cases hx : mget tx x with
    | none => rw [hx] at h; cases h
    | some u =>
      rw [hx] at h
      cases ha : allT tx xs with
      | none => rw [ha] at h; cases h
      | some ts' =>
        rw [ha] at h; cases h
        obtain ⟨h1, h3⟩ := allT_mem hp ha
        exact ⟨by simp only [List.length_cons, h1], fun t ht => by
          rcases List.mem_cons.1 ht with rfl | ht
          · exact hp _ _ hx
          · exact h3 t ht⟩
end
section
variable {l : List GAct}
theorem fate1_le (i : Nat) (known : List FT) (tx : TX) : (fate1 FQ1 l i known tx).2.1.length ≤ 65536 := by
  unfold fate1
  split
  · simp [fskip]
  · split
    · simp [flack]
    · exact doP_le _ _ _
theorem fate_M {i : Nat} {known : List FT} {tx : TX} {aft : List (List Int)} {K : Int → List UInt8 → List UInt8 → Prop} (hs : GSmall l) (hi : i < l.length) (hk : known.length = l.length) (ht : ∀ s v, mget tx s = some v → v.length ≤ 100000) (hty : 1 ≤ (l.getD i az).1 ∧ (l.getD i az).1 ≤ 5) (h : K (fate1 FQ1 l i known tx).1 (fate1 FQ1 l i known tx).2.1 (fate1 FQ1 l i known tx).2.2) : M_plan_fate l (mkP l l.length) (befL l l.length) aft (i : Int) known tx K := by
  intro _ _ _ _
  have hir : inR l (i : Int) := by unfold inR; omega
  refine pbefore_R hs (fun hn => absurd hir hn) fun _ => ?_
  rw [Int.toNat_natCast]
  unfold fate1 at h
  have hbl : (bsP l i).length ≤ 10 := Nat.le_trans (bsP_len l i) (hs.at i).2
  refine ⟨fun k _ _ _ => 0 ≤ k ∧ k ≤ (bsP l i).length ∧ ∀ j, j < k.toNat → (known.getD ((bsP l i).getD j 0).toNat fz).1 = 1, fun k _ _ _ => (bsP l i).length - k.toNat, ⟨by omega, by omega, fun j hj => by simp at hj⟩, fun k c1 c2 c3 ⟨a0, a1, a2⟩ => ⟨fun hlt => ?_, fun hge => ?_⟩⟩
  · have hkl : k.toNat < (bsP l i).length := by omega
    have hb := bsP_in (getD_mem2 (d := 0) hkl)
    refine ⟨⟨a0, hlt⟩, ⟨hb.1, by omega⟩, fun hne => ?_, fun he => ⟨by simp only [In]; omega, ⟨by omega, by omega, fun j hj => ?_⟩, by (try dsimp only); omega⟩⟩
    · rw [if_pos (List.any_eq_true.2 ⟨_, getD_mem2 (d := 0) hkl, by have hne' : ¬ (known.getD ((bsP l i).getD k.toNat 0).toNat fz).1 = 1 := hne; rw [decide_eq_false hne']; rfl⟩)] at h
      exact h
    · by_cases e : j = k.toNat
      · rw [e]; exact he
      · exact a2 j (by omega)
  · have hfalse : ¬ ((bsP l i).any fun k => !decide ((known.getD k.toNat fz).1 = 1)) = true := by
      rw [List.any_eq_true]
      rintro ⟨x, hx, hb⟩
      obtain ⟨j, hj, rfl⟩ := List.getElem_of_mem hx
      have := a2 j (by omega)
      rw [show (bsP l i).getD j 0 = (bsP l i)[j] by simp [List.getD, hj]] at this
      rw [decide_eq_true this] at hb
      cases hb
    rw [if_neg hfalse] at h
    refine action_R hs fun a b hab hal => ?_
    obtain rfl : a = l.getD (i : Int).toNat az := hab.elim (fun h => h.2.2) fun h => absurd hir h.2.1
    rw [Int.toNat_natCast] at hal ⊢
    have hin := hs.inp _ (getD_mem2 (d := az) hi)
    have harg := hs.arg _ (getD_mem2 (d := az) hi)
    generalize l.getD i az = a at *
    refine ⟨fun ins sums k _ _ _ => 0 ≤ k ∧ k ≤ a.2.2.1.length ∧ allT tx (a.2.2.1.take k.toNat) = some ins ∧ sums = ins.map shaS, fun _ _ k _ _ _ => a.2.2.1.length - k.toNat, ⟨by omega, by omega, rfl, rfl⟩, fun ins sums k d1 d2 d3 ⟨b0, b1, b2, b3⟩ => ⟨fun hlt => ?_, fun hge2 => ?_⟩⟩
    · have hkk : k.toNat < a.2.2.1.length := by omega
      obtain ⟨n1, n2⟩ := allT_mem ht b2
      rw [List.length_take] at n1
      have hpl := hin.2 _ (getD_mem2 (d := []) hkk)
      refine ⟨⟨b0, hlt⟩, by unfold maxLen; omega, fun hno => ?_, fun his => ?_⟩
      · have hn : mget tx (a.2.2.1.getD k.toNat []) = none := by simpa using hno
        rw [allT_none hn (getD_mem2 hkk)] at h
        exact h
      · obtain ⟨v, hv⟩ := Option.isSome_iff_exists.1 (show (mget tx (a.2.2.1.getD k.toNat [])).isSome = true by simpa using his)
        have hvl := ht _ _ hv
        rw [hv, Option.getD_some]
        refine ⟨by simp only [List.length_singleton]; omega, ⟨by unfold maxLen; omega, by omega, ?_⟩⟩
        refine ⟨by rw [b3]; simp only [List.length_map, List.length_singleton]; omega, by simp only [In]; omega, ⟨by omega, by omega, ?_, ?_⟩, by (try dsimp only); omega⟩
        · rw [show (k + 1).toNat = k.toNat + 1 by omega, take_succ_getD [] hkk]
          exact allT_snoc hv b2
        · rw [b3, List.map_append]; rfl
    · have hkk : k.toNat = a.2.2.1.length := by omega
      rw [hkk, List.take_length] at b2
      rw [b2] at h
      obtain ⟨n1, n2⟩ := allT_mem ht b2
      rw [b3]
      refine kof_M (by simp only [In]; omega) (by omega) (by rw [List.length_map]; omega) (fun x hx => by have := harg.2 x hx; omega) (map_sha ins) ?_
      refine ⟨fun f0 f1 => f0 = okN (doP a.1 a.2.1 ins).2 ∧ f1 = (doP a.1 a.2.1 ins).1, do_M (fun x hx => by have := harg.2 x hx; omega) (by omega) (fun x hx => n2 x hx) ⟨fun hne => ⟨(okN_ne hne).symm, rfl⟩, fun he => ⟨(okN_ok he).symm, rfl⟩⟩, fun f0 f1 hf => ?_⟩
      rw [hf.1, hf.2]
      dsimp only [FQ1] at h
      exact h
theorem mput_leT (m : TX) (k v : List UInt8) : (mput m k v).length ≤ m.length + 1 := by rw [mput_len]; split <;> omega
theorem mput_all {m : TX} {k v : List UInt8} {n : Nat} (hm : ∀ s w, mget m s = some w → w.length ≤ n) (hv : v.length ≤ n) : ∀ s w, mget (mput m k v) s = some w → w.length ≤ n := fun s w h => by
  rw [mget_mput] at h
  split at h
  · cases h; exact hv
  · exact hm s w h
theorem fates_M {files : TX} {K : List FT → Prop} (hs : GSmall l) (g : GOk l) (hty : ∀ j, j < l.length → 1 ≤ (l.getD j az).1 ∧ (l.getD j az).1 ≤ 5) (hf : files.length ≤ 100) (hfp : ∀ f ∈ files, f.1.length ≤ 1000 ∧ f.2.length ≤ 100000) (h : K (fatesP FQ1 l files)) : M_plan_Fates l (mkP l l.length) (befL l l.length) (aftL l l.length) files K := by
  intro _ _ _ _
  have hl := hs.len
  refine ⟨fun k tx => 0 ≤ k ∧ k ≤ files.length ∧ tx = text0 l (files.take k.toNat) ∧ tx.length ≤ k.toNat ∧ ∀ s v, mget tx s = some v → v.length ≤ 100000, fun k _ => files.length - k.toNat, ⟨by omega, by omega, rfl, by simp, fun s v hv => by cases hv⟩, fun k tx ⟨a0, a1, a2, a3, a4⟩ => ⟨fun hlt => ?_, fun hge => ?_⟩⟩
  · have hkk : k.toNat < files.length := by omega
    have hfk := hfp _ (getD_mem2 (d := ([], [])) hkk)
    have hst : text0 l (files.take (k + 1).toNat) = if mkI l (files.getD k.toNat ([], [])).1 < 0 then mput tx (files.getD k.toNat ([], [])).1 (files.getD k.toNat ([], [])).2 else tx := by
      rw [show (k + 1).toNat = k.toNat + 1 by omega, take_succ_getD ([], []) hkk, text0_snoc, a2]
    refine ⟨fun m => m = text0 l (files.take (k + 1).toNat) ∧ m.length ≤ k.toNat + 1 ∧ ∀ s v, mget m s = some v → v.length ≤ 100000, ⟨⟨a0, hlt⟩, pmaker_R (by omega) ⟨fun hn => ⟨⟨by unfold maxLen; omega, by unfold maxLen; omega⟩, ?_, ?_, ?_⟩, fun hn => ⟨?_, by omega, a4⟩⟩⟩, fun m ⟨m1, m2, m3⟩ => ⟨by simp only [In]; omega, ⟨by omega, by omega, m1, by omega, m3⟩, by (try dsimp only); omega⟩⟩
    · rw [hst, if_pos hn]
    · have := mput_leT tx (files.getD k.toNat ([], [])).1 (files.getD k.toNat ([], [])).2; omega
    · exact mput_all a4 hfk.2
    · rw [hst, if_neg hn]
  · have hkk : k.toNat = files.length := by omega
    rw [hkk, List.take_length] at a2
    rw [hkk] at a3
    intro _ _ _
    refine ⟨by omega, order_M (by omega) (fun j => by have := bsP_len l j; have := (hs.at j).2; omega) g.acy ?_⟩
    obtain ⟨o1, o2, o3⟩ := ordR_props g.acy l.length (Nat.le_refl _)
    rw [Int.toNat_natCast]
    refine ⟨fun k2 tx2 out => 0 ≤ k2 ∧ k2 ≤ l.length ∧ (out, tx2) = runP FQ1 l files k2.toNat ∧ tx2.length ≤ 100 + k2.toNat ∧ ∀ s v, mget tx2 s = some v → v.length ≤ 100000, fun k2 _ _ => l.length - k2.toNat, ⟨by omega, by omega, by rw [a2]; rfl, by omega, a4⟩, fun k2 tx2 out ⟨b0, b1, b2, b3, b4⟩ _ => ⟨fun hlt => ?_, fun hge2 => ?_⟩⟩
    · have hk2 : k2.toNat < l.length := by omega
      obtain ⟨i, i1, i2, _, _, e1⟩ := runP_succ (F := FQ1) files g hk2
      have hol := runP_len (F := FQ1) files g k2.toNat (by omega)
      rw [← b2] at e1 hol
      dsimp only at hol
      rw [i2]
      have hin : 0 ≤ (i : Int) ∧ (i : Int) < (l.length : Nat) := by omega
      refine ⟨fun m xs => (xs, m) = step1 FQ1 l (out, tx2) (i : Int) ∧ m.length ≤ tx2.length + 1 ∧ ∀ s v, mget m s = some v → v.length ≤ 100000, ⟨⟨b0, hlt⟩, fate_M hs i1 hol b4 (hty i i1) ⟨hin, hin, ?_⟩⟩, fun m xs ⟨m1, m2, m3⟩ _ => ⟨by simp only [In]; omega, ⟨by omega, by omega, ?_, by omega, m3⟩, by (try dsimp only); omega⟩⟩
      · have hle := fate1_le (l := l) i out tx2
        unfold step1
        rw [Int.toNat_natCast]
        dsimp only
        generalize fate1 FQ1 l i out tx2 = fv at hle ⊢
        rw [getD_setG (by omega), if_pos rfl]
        refine ⟨fun hc => action_R hs fun a b hab hal => ?_, fun hc => ⟨by rw [if_neg hc], by omega, b4⟩⟩
        obtain rfl : a = l.getD (i : Int).toNat az := hab.elim (fun h => h.2.2) fun h => absurd hin h.2.1
        rw [Int.toNat_natCast, if_pos hc]
        have ho := hs.out _ (getD_mem2 (d := az) i1)
        exact ⟨hin, ⟨by unfold maxLen; omega, by unfold maxLen; omega⟩, rfl, mput_leT _ _ _, mput_all b4 (Nat.le_trans hle (by omega))⟩
      · rw [m1, show (k2 + 1).toNat = k2.toNat + 1 by omega, e1]
    · have : k2.toNat = l.length := by omega
      rw [this] at b2
      unfold fatesP at h
      rw [← b2] at h
      exact h
end
end Go.Proofs.YtjhipfdbionpoaaGreatDoor


 /- Printed by a program (wip/vg): what the functions mean, plainly, and their walks. -/
namespace Go.Proofs.YtjhipfdbionpoaaGreatDoor
open Go Go.RowKit
attribute [local irreducible] WL WC WX WQ WK WJ Yld Eff Ef0 Fn
def M_smithylaw26_first (K : Bool → Prop) : Prop :=
 M_graph_New ([((1 : Int), ([([97] : List UInt8), ([98] : List UInt8)] : List (List UInt8)), [], ([120] : List UInt8)), ((1 : Int), [], ([([120] : List UInt8)] : List (List UInt8)), ([121] : List UInt8))] : List (Int × List (List UInt8) × List (List UInt8) × List UInt8)) (fun (t101 : Er) =>
 K false) (fun (t100_l : List (Int × List (List UInt8) × List (List UInt8) × List UInt8)) (t100_makers : List (List UInt8 × Int)) (t100_before : List (List Int)) (t100_after : List (List Int)) (t1012 : Er) =>
 ((¬ (t1012 = Er.ok) → K false) ∧
 (t1012 = Er.ok → M_plan_Fates t100_l t100_makers t100_before t100_after [] (fun (f : List (Int × List UInt8 × List UInt8)) =>
 ((decide ((f.length : Int) = (2 : Int))) = true → (0 ≤ (0 : Int) ∧ (0 : Int) < (f.length : Nat))) ∧
 (((decide ((f.length : Int) = (2 : Int))) && (decide (((f.getD 0 (0, [], [])).1) = (2 : Int)))) = true → (0 ≤ (1 : Int) ∧ (1 : Int) < (f.length : Nat))) ∧
 K (((decide ((f.length : Int) = (2 : Int))) && (decide (((f.getD 0 (0, [], [])).1) = (2 : Int)))) && (decide (((f.getD 1 (0, [], [])).1) = (3 : Int))))))))

set_option maxHeartbeats 8000000 in
theorem W_smithylaw26_first {S : List Nat} {w : World} {K : Bool → Prop} (hG : GOK S w) (hS4 : 4 ∈ S) (hS6 : 6 ∈ S) (hS9 : 9 ∈ S) (hS10 : 10 ∈ S) (hS11 : 11 ∈ S) (hS16 : 16 ∈ S) (hS100 : 100 ∈ S) (hS101 : 101 ∈ S) (H : M_smithylaw26_first  K) : Fn Tryz.prog 6 ⟨[]⟩ w (fun v w' => w.grownBy w' none ∧ ∃ (r : Bool), v = .bool r ∧ K r) := by
  unfold M_smithylaw26_first at H
  refine Fn.enter (by kernel_rfl) Tryz.func6 rfl Tryz.ntmps6 rfl ?_
  refine WC.seq ?_
  refine WC.region ?_
  refine WL.y rfl (Yld.pure tab_ok rfl) ?_
  refine WL.nil (WX.then_normal ?_)
  refine WC.seq ?_
  refine WC.region ?_
  refine WL.lit tab_ok rfl rfl rfl (all1c rfl (all1c rfl all1n)) rfl (by omega) (fun g1 w1 hB1 hg1 hl1 => ?_)
  have hO1 : Own vs w1 w.heap.size 9 (some ⟨g1, 0, none⟩) 2 ([([97] : List UInt8), ([98] : List UInt8)] : List (List UInt8)) := Own.ofBl hB1 (Nat.le_trans (Nat.le_refl _) hl1) (by simp [maxLen]) rfl
  have gr1 := hg1
  refine WL.y rfl (Yld.struct (us := [.int .i64 (1 : Int), .slice (some ⟨g1, 0, none⟩) 2 2, .slice none 0 0, vs ([120] : List UInt8)]) zero43 places43 rfl rfl) ?_
  refine WL.lit tab_ok rfl rfl rfl (all1c rfl all1n) rfl (by omega) (fun g2 w2 hB2 hg2 hl2 => ?_)
  have hO2 : Own vs w2 w.heap.size 9 (some ⟨g2, 0, none⟩) 1 ([([120] : List UInt8)] : List (List UInt8)) := Own.ofBl hB2 (Nat.le_trans (size_le gr1) hl2) (by simp [maxLen]) rfl
  have gr2 := gr_trans gr1 hg2
  have k1 := hO1.grown hg2
  refine WL.y rfl (Yld.struct (us := [.int .i64 (1 : Int), .slice none 0 0, .slice (some ⟨g2, 0, none⟩) 1 1, vs ([121] : List UInt8)]) zero43 places43 rfl rfl) ?_
  refine WL.litK (f := encH43) ([((1 : Int), ⟨(some ⟨g1, 0, none⟩), 2, 2⟩, ⟨none, 0, 0⟩, ([120] : List UInt8)), ((1 : Int), ⟨none, 0, 0⟩, ⟨(some ⟨g2, 0, none⟩), 1, 1⟩, ([121] : List UInt8))] : List (Int × Hdr × Hdr × List UInt8)) encH43_ok rfl ow22 rfl rfl rfl (fun g4 w4 hB4 hg4 hl4 => ?_)
  have hO4 : OwnK 4 encH43 w4 w.heap.size 43 (some ⟨g4, 0, none⟩) 2 ([((1 : Int), ⟨(some ⟨g1, 0, none⟩), 2, 2⟩, ⟨none, 0, 0⟩, ([120] : List UInt8)), ((1 : Int), ⟨none, 0, 0⟩, ⟨(some ⟨g2, 0, none⟩), 1, 1⟩, ([121] : List UInt8))] : List (Int × Hdr × Hdr × List UInt8)) := OwnK.ofBl encH43_ok hB4 (Nat.le_trans (size_le gr2) hl4) (by simp [maxLen]) rfl
  have gr3 := gr_trans gr2 hg4
  have k2 := k1.grown hg4
  have k3 := hO2.grown hg4
  have hr1 : RelD de43 w4 ([((1 : Int), ⟨(some ⟨g1, 0, none⟩), 2, 2⟩, ⟨none, 0, 0⟩, ([120] : List UInt8)), ((1 : Int), ⟨none, 0, 0⟩, ⟨(some ⟨g2, 0, none⟩), 1, 1⟩, ([121] : List UInt8))] : List (Int × Hdr × Hdr × List UInt8)) ([((1 : Int), ([([97] : List UInt8), ([98] : List UInt8)] : List (List UInt8)), [], ([120] : List UInt8)), ((1 : Int), [], ([([120] : List UInt8)] : List (List UInt8)), ([121] : List UInt8))] : List (Int × List (List UInt8) × List (List UInt8) × List UInt8)) := (RelD.cons ⟨rfl, ⟨rfl, k2.rd⟩, ⟨rfl, (Own.nil vs w4 w.heap.size 9).rd⟩, rfl⟩ (RelD.cons ⟨rfl, ⟨rfl, (Own.nil vs w4 w.heap.size 9).rd⟩, ⟨rfl, k3.rd⟩, rfl⟩ RelD.nil))
  have nd1 : NewD de43 ([((1 : Int), ⟨(some ⟨g1, 0, none⟩), 2, 2⟩, ⟨none, 0, 0⟩, ([120] : List UInt8)), ((1 : Int), ⟨none, 0, 0⟩, ⟨(some ⟨g2, 0, none⟩), 1, 1⟩, ([121] : List UInt8))] : List (Int × Hdr × Hdr × List UInt8)) ([((1 : Int), ([([97] : List UInt8), ([98] : List UInt8)] : List (List UInt8)), [], ([120] : List UInt8)), ((1 : Int), [], ([([120] : List UInt8)] : List (List UInt8)), ([121] : List UInt8))] : List (Int × List (List UInt8) × List (List UInt8) × List UInt8)) w.heap.size := (NewD.cons (d := de43) (fun p_ hp_ => ⟨trivial, (Dn.of (Dj.new hp_ k2.ge').symm), (fun h => absurd rfl h), trivial⟩) (NewD.cons (d := de43) (fun p_ hp_ => ⟨trivial, (fun h => absurd rfl h), (Dn.of (Dj.new hp_ k3.ge').symm), trivial⟩) NewD.nil))
  have dj1 : DnD de43 ([((1 : Int), ⟨(some ⟨g1, 0, none⟩), 2, 2⟩, ⟨none, 0, 0⟩, ([120] : List UInt8)), ((1 : Int), ⟨none, 0, 0⟩, ⟨(some ⟨g2, 0, none⟩), 1, 1⟩, ([121] : List UInt8))] : List (Int × Hdr × Hdr × List UInt8)) ([((1 : Int), ([([97] : List UInt8), ([98] : List UInt8)] : List (List UInt8)), [], ([120] : List UInt8)), ((1 : Int), [], ([([120] : List UInt8)] : List (List UInt8)), ([121] : List UInt8))] : List (Int × List (List UInt8) × List (List UInt8) × List UInt8)) (blk (some ⟨g4, 0, none⟩)) := (DnD.cons (d := de43) ⟨trivial, (Dn.of (Dj.new k1.lt' (Ge.box hl4))), (Dn.of Dj.nl), trivial⟩ (DnD.cons (d := de43) ⟨trivial, (Dn.of Dj.nl), (Dn.of (Dj.new hO2.lt' (Ge.box hl4))), trivial⟩ DnD.nil))
  refine WL.call rfl rfl (W_graph_New (hG.grown gr3) hS4 hS6 hS9 hS10 hS11 hS100 hO4.rd (rfl.trans hr1.1) hr1 H) ?_
  rintro v_ w5 ⟨hg_, hc_ | hc_⟩
  · obtain ⟨v_t101, t101, rfl, ht101, H⟩ := hc_
    have hg5 := hg_
    have gr4 := gr_trans gr3 hg5
    refine WL.y rfl (Yld.pure tab_ok rfl) ?_
    refine WL.y rfl (Yld.pure tab_ok rfl) ?_
    refine WL.y rfl (Yld.pure tab_ok rfl) ?_
    refine WL.y rfl (Yld.pure tab_ok rfl) ?_
    refine WL.y rfl (Yld.pure tab_ok rfl) ?_
    refine WL.nil (WX.then_normal ?_)
    refine WC.seq ?_
    refine WC.seq ?_
    refine WC.region ?_
    refine WL.y rfl (Yld.pure tab_ok rfl) ?_
    refine WL.y rfl (Yld.peqnil Tryz.underlying27 rfl rfl) ?_
    refine WL.y rfl (Yld.pure tab_ok rfl) ?_
    refine WL.midF 3 (fun L' w' => ∃ q1 : Bool, L' = [(18, .bool q1), (1, .pointer none)] ∧ true = q1 ∧ w5 = w') ?_ (fun hQ => ?_)
    · rintro _ _ ⟨q1, rfl, rfl, rfl⟩
      refine WL.nil (WX.then_normal ?_)
      refine WC.cond rfl (fun _ => ?_) (fun h => by cases h)
      refine WC.seq ?_
      refine WC.region ?_
      refine WL.y rfl (Yld.pure tab_ok rfl) ?_
      refine WL.nil (WX.then_normal ?_)
      refine WC.ret (WX.then_ret ?_)
      exact WX.ret1 rfl rfl ⟨gr4, false, rfl, H⟩
    · clear H
      refine WL.gno rfl rfl (rfl) rfl ?_
      refine WL.gno rfl rfl (rfl) rfl ?_
      refine WL.y rfl (Yld.pickT (rfl) rfl) ?_
      exact WL.weaken (by repeat (first | exact Sub.nil | refine Sub.cons rfl ?_)) (hQ _ _ ⟨true, rfl, rfl, rfl⟩)
  · obtain ⟨g_t100, t100_l, A_t100_l, c_t100_l, hs_t100_l, g_t100_makers, t100_makers, t100_before, A_t100_before, c_t100_before, hs_t100_before, t100_after, A_t100_after, c_t100_after, hs_t100_after, v_t1012, t1012, rfl, ht100_l, hr_t100_l, nd2, dj2, ht100_before, hr_t100_before, nd3, dj3, ht100_after, hr_t100_after, nd4, dj4, ht1012, ht100_makers, hge1, ht100, hge2, dj5, dj6, dj7, dj8, dj9, dj10, dj11, dj12, dj13, dj14, dj15, dj16, dj17, dj18, dj19, dj20, dj21, dj22, dj23, dj24, dj25, dj26, dj27, dj28, dj29, H⟩ := hc_
    have hg6 := hg_
    have hb1 := ht100_l.ge'
    have k4 := ht100_l.base (fun g hg => Nat.le_trans (size_le gr3) (hb1 g hg))
    have hb2 := ht100_before.ge'
    have k5 := ht100_before.base (fun g hg => Nat.le_trans (size_le gr3) (hb2 g hg))
    have hb3 := ht100_after.ge'
    have k6 := ht100_after.base (fun g hg => Nat.le_trans (size_le gr3) (hb3 g hg))
    have gr5 := gr_trans gr3 hg6
    refine WL.y rfl (Yld.pure tab_ok rfl) ?_
    refine WL.y rfl (Yld.pure tab_ok rfl) ?_
    refine WL.y rfl (Yld.pure tab_ok rfl) ?_
    refine WL.y rfl (Yld.pure tab_ok rfl) ?_
    refine WL.y rfl (Yld.pure tab_ok rfl) ?_
    refine WL.nil (WX.then_normal ?_)
    refine WC.seq ?_
    refine WC.seq ?_
    refine WC.region ?_
    refine WL.y rfl (Yld.pure tab_ok rfl) ?_
    refine WL.y rfl (Yld.peqnil Tryz.underlying27 rfl rfl) ?_
    refine WL.y rfl (Yld.pure tab_ok rfl) ?_
    refine WL.midF 3 (fun L' w' => ∃ q2 : Bool, L' = [(18, .bool q2), (1, .pointer (some ⟨g_t100, 0, none⟩))] ∧ (!decide (t1012 = Er.ok)) = q2 ∧ w5 = w') ?_ (fun hQ => ?_)
    · rintro _ _ ⟨q2, rfl, rfl, rfl⟩
      refine WL.nil (WX.then_normal ?_)
      refine WC.cond rfl (fun b1 => ?_) (fun b1 => ?_)
      · replace H := H.1 (nd_true b1)
        refine WC.seq ?_
        refine WC.region ?_
        refine WL.y rfl (Yld.pure tab_ok rfl) ?_
        refine WL.nil (WX.then_normal ?_)
        refine WC.ret (WX.then_ret ?_)
        exact WX.ret1 rfl rfl ⟨gr5, false, rfl, H⟩
      · replace H := H.2 (nd_false b1)
        refine WC.skip (WX.then_normal ?_)
        refine WC.seq ?_
        refine WC.region ?_
        refine WL.y rfl (Yld.pure tab_ok rfl) ?_
        refine WL.call rfl rfl (W_plan_Fates (hG.grown gr5) hS10 hS16 hS100 hS101 k4.rd rfl hr_t100_l ht100_makers k5.rd rfl hr_t100_before k6.rd rfl hr_t100_after ht100 (OwnK.nil enc35_ok w5 w.heap.size 35).rd rfl H) ?_
        rintro _ w8 ⟨hg7, f, A_f, c_f, rfl, hf, H⟩
        have hb4 := hf.ge'
        have k7 := hf.base (fun g hg => Nat.le_trans (size_le gr5) (hb4 g hg))
        have gr6 := gr_trans gr5 hg7
        refine WL.y rfl (Yld.pure tab_ok rfl) ?_
        refine WL.nil (WX.then_normal ?_)
        refine WC.seq ?_
        refine WC.region ?_
        refine WL.y rfl (Yld.pure tab_ok rfl) ?_
        refine WL.y rfl (Yld.pure tab_ok rfl) ?_
        refine WL.y rfl (Yld.pure tab_ok rfl) ?_
        refine WL.y rfl (Yld.pure tab_ok rfl) ?_
        obtain ⟨h1, H⟩ := H
        refine WL.midF 6 (fun L' w' => ∃ q3 : Bool, L' = [(30, .bool q3), (3, .slice A_f f.length c_f)] ∧ ((decide ((f.length : Int) = (2 : Int))) && (decide (((f.getD 0 (0, [], [])).1) = (2 : Int)))) = q3 ∧ w8 = w') ?_ (fun hQ => ?_)
        · rintro _ _ ⟨q3, rfl, rfl, rfl⟩
          refine WL.y rfl (Yld.pure tab_ok rfl) ?_
          obtain ⟨h2, H⟩ := H
          refine WL.midF 6 (fun L' w' => ∃ q4 : Bool, L' = [(37, .bool q4)] ∧ (((decide ((f.length : Int) = (2 : Int))) && (decide (((f.getD 0 (0, [], [])).1) = (2 : Int)))) && (decide (((f.getD 1 (0, [], [])).1) = (3 : Int)))) = q4 ∧ w8 = w') ?_ (fun hQ => ?_)
          · rintro _ _ ⟨q4, rfl, rfl, rfl⟩
            refine WL.y rfl (Yld.pure tab_ok rfl) ?_
            refine WL.nil (WX.then_normal ?_)
            refine WC.ret ?_
            exact WX.ret1 rfl rfl ⟨gr6, ((decide ((f.length : Int) = (2 : Int))) && (decide (((f.getD 0 (0, [], [])).1) = (2 : Int)))) && (decide (((f.getD 1 (0, [], [])).1) = (3 : Int))), rfl, H⟩
          · clear H
            rcases Bool.eq_false_or_eq_true ((decide ((f.length : Int) = (2 : Int))) && (decide (((f.getD 0 (0, [], [])).1) = (2 : Int)))) with b2 | b2
            · refine WL.gyes rfl rfl (okb b2) rfl (Yld.pure tab_ok rfl) ?_
              refine WL.gyes rfl rfl (okb b2) rfl (Yld.iaddrK tab_ok k7.rd rfl rfl rfl rfl (h2 b2).1 (h2 b2).2) ?_
              refine WL.gyes rfl rfl (okb b2) rfl (Yld.faddrK tab_ok k7.rd (iltN (h2 b2) rfl) rfl rfl rfl) ?_
              refine WL.gyes rfl rfl (okb b2) rfl (Yld.iloadF (0, [], []) tab_ok k7.rd rfl rfl (iltN (h2 b2) rfl) rfl) ?_
              refine WL.gyes rfl rfl (okb b2) rfl (Yld.pure tab_ok rfl) ?_
              refine WL.y rfl (Yld.pickT (okb b2) rfl) ?_
              exact WL.weaken (by repeat (first | exact Sub.nil | refine Sub.cons rfl ?_)) (hQ _ _ ⟨decide (((f.getD 1 (0, [], [])).1) = (3 : Int)), rfl, by rw [b2] <;> rfl, rfl⟩)
            · refine WL.gno rfl rfl (okb b2) rfl ?_
              refine WL.gno rfl rfl (okb b2) rfl ?_
              refine WL.gno rfl rfl (okb b2) rfl ?_
              refine WL.gno rfl rfl (okb b2) rfl ?_
              refine WL.gno rfl rfl (okb b2) rfl ?_
              refine WL.y rfl (Yld.pickF (okb b2) rfl) ?_
              exact WL.weaken (by repeat (first | exact Sub.nil | refine Sub.cons rfl ?_)) (hQ _ _ ⟨false, rfl, by rw [b2] <;> rfl, rfl⟩)
        · clear H
          rcases Bool.eq_false_or_eq_true (decide ((f.length : Int) = (2 : Int))) with b3 | b3
          · refine WL.gyes rfl rfl (okb b3) rfl (Yld.pure tab_ok rfl) ?_
            refine WL.gyes rfl rfl (okb b3) rfl (Yld.iaddrK tab_ok k7.rd rfl rfl rfl rfl (h1 b3).1 (h1 b3).2) ?_
            refine WL.gyes rfl rfl (okb b3) rfl (Yld.faddrK tab_ok k7.rd (iltN (h1 b3) rfl) rfl rfl rfl) ?_
            refine WL.gyes rfl rfl (okb b3) rfl (Yld.iloadF (0, [], []) tab_ok k7.rd rfl rfl (iltN (h1 b3) rfl) rfl) ?_
            refine WL.gyes rfl rfl (okb b3) rfl (Yld.pure tab_ok rfl) ?_
            refine WL.y rfl (Yld.pickT (okb b3) rfl) ?_
            exact WL.weaken (by repeat (first | exact Sub.nil | refine Sub.cons rfl ?_)) (hQ _ _ ⟨decide (((f.getD 0 (0, [], [])).1) = (2 : Int)), rfl, by rw [b3] <;> rfl, rfl⟩)
          · refine WL.gno rfl rfl (okb b3) rfl ?_
            refine WL.gno rfl rfl (okb b3) rfl ?_
            refine WL.gno rfl rfl (okb b3) rfl ?_
            refine WL.gno rfl rfl (okb b3) rfl ?_
            refine WL.gno rfl rfl (okb b3) rfl ?_
            refine WL.y rfl (Yld.pickF (okb b3) rfl) ?_
            exact WL.weaken (by repeat (first | exact Sub.nil | refine Sub.cons rfl ?_)) (hQ _ _ ⟨false, rfl, by rw [b3] <;> rfl, rfl⟩)
    · clear H
      refine WL.gyes rfl rfl (rfl) rfl (Yld.pure tab_ok rfl) ?_
      refine WL.gyes rfl rfl (rfl) rfl (Yld.errneq Tryz.underlying29 ht1012 rfl) ?_
      refine WL.y rfl (Yld.pickF (rfl) rfl) ?_
      exact WL.weaken (by repeat (first | exact Sub.nil | refine Sub.cons rfl ?_)) (hQ _ _ ⟨!decide (t1012 = Er.ok), rfl, rfl, rfl⟩)

end Go.Proofs.YtjhipfdbionpoaaGreatDoor

 /- Plans: the chapter's example, plainly. -/
namespace Go.Proofs.YtjhipfdbionpoaaGreatDoor
open Go Go.RowKit
theorem fits_ty {l : List GAct} {j : Nat} (h : fitsAt l j = .ok) : 1 ≤ (l.getD j az).1 ∧ (l.getD j az).1 ≤ 5 := by
  have h : fitsP (mkP l j) (l.getD j az) = .ok := h
  unfold fitsP at h
  split at h
  · cases h
  · omega
theorem GRes.ty {l : List GAct} (h : GRes l .ok) : ∀ j, j < l.length → 1 ≤ (l.getD j az).1 ∧ (l.getD j az).1 ≤ 5 := by
  rcases h with ⟨_, h⟩ | ⟨_, _, _, _, _, _, h⟩ | ⟨_, _, _, _, _, _, h⟩ | ⟨_, a1, _, _⟩
  · cases h
  · cases h
  · cases h
  · exact fun j hj => fits_ty (a1 j hj)
/-! the chapter's example -/
def P2 : List GAct := [(1, [[97], [98]], [], [120]), (1, [], [[120]], [121])]
theorem P2_bs : bsP P2 0 = [] ∧ bsP P2 1 = [0] := by
  constructor
  · exact List.length_eq_zero_iff.1 (Nat.le_zero.1 (bsP_len P2 0))
  · have h1 : (0 : Int) ∈ bsP P2 1 := bsP_mem.2 ⟨[120], by decide, by decide⟩
    have h2 : (bsP P2 1).length ≤ 1 := bsP_len P2 1
    match hb : bsP P2 1, h1, h2 with
    | [x], h1, _ => rw [List.mem_singleton.1 h1]
theorem P2_rch {k : Int} (h : Rch (befL P2 P2.length) [0] k) : k = 0 := by
  induction h with
  | base h => simpa using h
  | step _ h ih =>
    subst ih
    rw [befL_getD, if_pos (by decide), show (0 : Int).toNat = 0 from rfl, P2_bs.1] at h
    cases h
theorem P2_no {k : Int} (h : Rch (befL P2 P2.length) [] k) : False := by
  induction h with
  | base h => cases h
  | step _ _ ih => exact ih
theorem P2_res : GRes P2 .ok := by
  refine .inr (.inr (.inr ⟨fun h => h.elim (by decide) (by decide), fun j hj => ?_, fun j hj => ?_, rfl⟩))
  · match j, hj with
    | 0, _ => decide
    | 1, _ => decide
  · match j, hj with
    | 0, _ => intro h; unfold GCy at h; rw [P2_bs.1] at h; exact P2_no h
    | 1, _ => intro h; unfold GCy at h; rw [P2_bs.2] at h; exact absurd (P2_rch h) (by decide)
theorem P2_small : GSmall P2 := ⟨by decide, by decide, by decide, by decide⟩
theorem P2_fates : ((fatesP FQ1 P2 []).getD 0 fz).1 = 2 ∧ ((fatesP FQ1 P2 []).getD 1 fz).1 = 3 := by
  have g := P2_res.good
  obtain ⟨i, i1, i2, i3, i4, e1⟩ := runP_succ (F := FQ1) [] g (show 0 < P2.length by decide)
  obtain rfl : i = 0 := by
    match i, i1 with
    | 0, _ => rfl
    | 1, _ => have := i4 0 (by rw [P2_bs.2]; simp); simp at this
  obtain ⟨j, j1, j2, j3, j4, e2⟩ := runP_succ (F := FQ1) [] g (show 1 < P2.length by decide)
  obtain rfl : j = 1 := by
    match j, j1 with
    | 0, _ =>
      have ho := (ordR_props g.acy P2.length (Nat.le_refl _)).1
      rw [show (1 : Nat) = 0 + 1 from rfl, take_succ_getD 0 (by rw [ho]; decide), i2] at j3
      simp at j3
    | 1, _ => rfl
  have e : fatesP FQ1 P2 [] = (step1 FQ1 P2 (step1 FQ1 P2 (runP FQ1 P2 [] 0) ((0 : Nat) : Int)) ((1 : Nat) : Int)).1 := by
    rw [← e1, ← e2]; rfl
  have f0 : fate1 FQ1 P2 0 [fz, fz] [] = FQ1 (P2.getD 0 az) [] := by
    unfold fate1
    rw [P2_bs.1]; rfl
  have f1 : ∀ v : FT, v.1 = 2 → fate1 FQ1 P2 1 [v, fz] [] = fskip := fun v hv => by
    unfold fate1
    rw [P2_bs.2, if_pos]
    show (!decide (v.1 = 1) || _) = true
    rw [hv]; rfl
  have hv : (FQ1 (P2.getD 0 az) []).1 = 2 := by decide
  have s0 : step1 FQ1 P2 (runP FQ1 P2 [] 0) ((0 : Nat) : Int) = ([FQ1 (P2.getD 0 az) [], fz], []) := by
    show step1 FQ1 P2 ([fz, fz], []) _ = _
    unfold step1
    rw [Int.toNat_natCast]
    dsimp only
    rw [f0, if_neg (by rw [hv]; decide)]; rfl
  rw [e, s0]
  generalize FQ1 (P2.getD 0 az) [] = v at hv
  unfold step1
  rw [Int.toNat_natCast]
  dsimp only
  rw [f1 v hv]
  exact ⟨hv, rfl⟩
theorem pfirst_M {K : Bool → Prop} (h : K true) : M_smithylaw26_first K := by
  show M_graph_New P2 _ _
  have g := P2_res.good
  refine new_R (by decide) P2_small.sz (fun e he hne => absurd (GRes.uniq he P2_res) hne) fun _ => ⟨fun h => absurd rfl h, fun _ => fates_M P2_small g P2_res.ty (by simp) (by simp) ?_⟩
  have hl : (fatesP FQ1 P2 []).length = 2 := runP_len (F := FQ1) [] g P2.length (Nat.le_refl _)
  refine ⟨fun _ => by omega, fun _ => by omega, ?_⟩
  have e1 := P2_fates.1
  have e2 := P2_fates.2
  unfold fz at e1 e2
  rw [hl, decide_eq_true e1, decide_eq_true e2]
  exact h
end Go.Proofs.YtjhipfdbionpoaaGreatDoor


 /- Slices of elements of several cells: what the library's sort, its compaction, leave, owned. -/
namespace Go.Proofs.YtjhipfdbionpoaaGreatDoor
open Go Go.Proofs Go.RowKit Go.Sort
section
variable {α : Type} [Inhabited α] {k : Nat} {f : α → List Value} {w : World} {g : Nat} {cur : Array Value} {e : TypeId}
theorem flatK_list (h : OneK k f) (xs : List α) : flatK f k xs.toArray = (xs.flatMap f).toArray := by
  have hl := h.flen xs
  apply Array.ext
  · simp [flatK, hl]
  · intro t h1 h2
    have ht : t < xs.length * k := by simpa [flatK] using h1
    have hq : t / k < xs.length := Nat.div_lt_of_lt_mul (by rw [Nat.mul_comm]; exact ht)
    have hr : t % k < k := Nat.mod_lt _ h.pos
    have e := h.fget xs (t / k) xs[t / k] (t % k) (List.getElem?_eq_getElem hq) hr
    rw [Nat.div_add_mod'] at e
    have hx := h.len xs[t / k]
    simp only [flatK, Array.getElem_map, Array.getElem_range]
    rw [getElem!_pos xs.toArray (t / k) (by simpa using hq)]
    simp only [List.getElem_toArray]
    rw [getElem!_pos (f xs[t / k]) (t % k) (by omega)]
    rw [List.getElem?_eq_getElem (by rw [hl]; exact ht), List.getElem?_eq_getElem (by omega)] at e
    exact (Option.some.inj e).symm
theorem holds_of_blockV {us : List Value} (hb : w.heap[g]? = some (.cells cur e (0, 0))) (ht : cur.toList.take us.length = us) : Holds id w g 0 us.toArray := by
  intro j hj
  have hj' : j < us.length := by simpa using hj
  refine ⟨?_, by simp [World.frozen?, hb]⟩
  have h1 : (cur.toList.take us.length)[j]? = us[j]? := by rw [ht]
  rw [List.getElem?_take_of_lt hj'] at h1
  simp only [World.cell?, hb, Nat.zero_add]
  simp only [Option.isSome_none, Bool.false_eq_true, if_false]
  rw [← Array.getElem?_toList, h1]
  simp [hj']
theorem heap_sortedV {n : Nat} {os : Array Obj} {fr : Nat × Nat} (d : Array Value) (hb : w.heap[g]? = some (.cells cur e fr)) :
    (grow (putRow id (Sort.ahead w n) g 0 d) os).heap[g]? = some (.cells (putCells id 0 d cur) e fr) := by
  have hg : g < w.heap.size := (Array.getElem?_eq_some_iff.1 hb).1
  rw [heap_grow_old _ _ (by simpa using hg)]
  simp [putRow, mapBlock, Sort.ahead, Array.getElem?_modify, hb, onCells]
theorem grownBy_sortedV {n : Nat} {os : Array Obj} (d : Array Value) : w.grownBy (grow (putRow id (Sort.ahead w n) g 0 d) os) (some g) := by
  refine ⟨rfl, rfl, rfl, by simp, fun k hk hne => ?_⟩
  rw [heap_grow_old _ _ (by simpa using hk)]
  have : g ≠ k := fun e => hne (by rw [e])
  simp [putRow, mapBlock, Sort.ahead, Array.getElem?_modify, this]
theorem take_putCellsV (cur : Array Value) (ts : List Value) (h : ts.length ≤ cur.size) : (putCells id 0 ts.toArray cur).toList.take ts.length = ts := by
  apply List.ext_getElem?
  intro j
  by_cases hj : j < ts.length
  · rw [List.getElem?_take_of_lt hj, Array.getElem?_toList]
    simp [putCells, hj, show j < cur.size by omega]
  · rw [List.getElem?_take_eq_none (by omega), List.getElem?_eq_none (by omega)]
theorem ownK_sorted {B cap n : Nat} {os : Array Obj} {ss ts : List α} (h : OneK k f) (hl : ts.length = ss.length) (hbase : B ≤ g) (hb : w.heap[g]? = some (.cells cur e (0, 0))) (h1 : ss.length ≤ cap) (h2 : cap ≤ maxLen) (h3 : cur.size = cap * k) :
    OwnK k f (grow (putRowK f k (Sort.ahead w n) g 0 ts.toArray) os) B e (some ⟨g, 0, none⟩) cap ts := by
  unfold putRowK
  rw [flatK_list h]
  have hf := h.flen ts
  have hle : ts.length * k ≤ cur.size := by rw [h3]; exact Nat.mul_le_mul_right k (by omega)
  refine ⟨h, hf, .inr ⟨g, cap, _, rfl, hbase, heap_sortedV _ hb, by omega, h2, by simp [putCells, h3], ?_⟩⟩
  rw [← hf]
  exact take_putCellsV cur _ (by omega)
end
end Go.Proofs.YtjhipfdbionpoaaGreatDoor


 /-
  DERIVED: THE SHELF's CONTRACTS AT THIS DUMP, IN PLAIN WORDS (tools/lay-plain.mjs out of 'TryzShelf2.lean', which tools/lay-shelf.mjs wrote): THE SAME DECLARATIONS UNDER THE SAME NAMES: 'import', 'namespace', 'open', 'def', 'theorem' AND NOTHING ELSE: no command of the shelf's: FOR A HAND-IN. Each laying: the table of numbers ('.._ren') and one theorem, a field a fact of the dump's own or the kernel's comparison; each contract: ONE APPLICATION.
-/
namespace Go.Proofs
open Go.Shelf
def Tryz.sortf43_ren : Go.Shelf.Ren := ⟨fun | 6 => 43 | 15 => 67 | 14 => 71 | 28 => 93 | 29 => 94 | 20 => 101 | 21 => 102 | 22 => 103 | 23 => 104 | 24 => 105 | 25 => 106 | 26 => 107 | 27 => 108 | 46 => 140 | 47 => 125 | 48 => 126 | 49 => 141 | 50 => 142 | 57 => 166 | n => n, fun | 22 => 23 | 24 => 35 | 25 => 98 | 3 => 3 | 39 => 113 | 0 => 0 | 53 => 130 | 55 => 131 | 4 => 4 | 46 => 140 | 45 => 139 | 50 => 87 | 5 => 5 | 9 => 9 | 66 => 169 | 70 => 173 | 76 => 195 | 77 => 190 | n => n, fun | n => n⟩
theorem Tryz.sortf43 : Go.Proofs.SlLaysF0.n6 Tryz.prog Tryz.sortf43_ren := {
  mixed := by kernel_rfl
  f6 := ⟨Tryz.f43.name, by decide, Tryz.func43.trans (congrArg some (by kernel_rfl))⟩
  f14 := ⟨Tryz.f71.name, by decide, Tryz.func71.trans (congrArg some (by kernel_rfl))⟩
  f15 := Tryz.func67.trans (congrArg some (by kernel_rfl))
  f20 := ⟨Tryz.f101.name, by decide, Tryz.func101.trans (congrArg some (by kernel_rfl))⟩
  f21 := ⟨Tryz.f102.name, by decide, Tryz.func102.trans (congrArg some (by kernel_rfl))⟩
  f22 := ⟨Tryz.f103.name, by decide, Tryz.func103.trans (congrArg some (by kernel_rfl))⟩
  f23 := ⟨Tryz.f104.name, by decide, Tryz.func104.trans (congrArg some (by kernel_rfl))⟩
  f24 := ⟨Tryz.f105.name, by decide, Tryz.func105.trans (congrArg some (by kernel_rfl))⟩
  f25 := ⟨Tryz.f106.name, by decide, Tryz.func106.trans (congrArg some (by kernel_rfl))⟩
  f26 := ⟨Tryz.f107.name, by decide, Tryz.func107.trans (congrArg some (by kernel_rfl))⟩
  f27 := ⟨Tryz.f108.name, by decide, Tryz.func108.trans (congrArg some (by kernel_rfl))⟩
  f28 := Tryz.func93.trans (congrArg some (by kernel_rfl))
  f29 := Tryz.func94.trans (congrArg some (by kernel_rfl))
  f46 := ⟨Tryz.f140.name, by decide, Tryz.func140.trans (congrArg some (by kernel_rfl))⟩
  f47 := Tryz.func125.trans (congrArg some (by kernel_rfl))
  f48 := Tryz.func126.trans (congrArg some (by kernel_rfl))
  f49 := ⟨Tryz.f141.name, by decide, Tryz.func141.trans (congrArg some (by kernel_rfl))⟩
  f50 := ⟨Tryz.f142.name, by decide, Tryz.func142.trans (congrArg some (by kernel_rfl))⟩
  f57 := ⟨Tryz.f166.name, by decide, Tryz.func166.trans (congrArg some (by kernel_rfl))⟩
  t0 := Tryz.underlying0
  a0 := Tryz.isAgg0
  z0 := Tryz.sizeOf0
  v0 := Tryz.zeroValue0
  t3 := Tryz.underlying3
  a3 := Tryz.isAgg3
  z3 := Tryz.sizeOf3
  v3 := Tryz.zeroValue3
  t4 := Tryz.underlying4
  a4 := Tryz.isAgg4
  z4 := Tryz.sizeOf4
  v4 := Tryz.zeroValue4
  t5 := Tryz.underlying5
  a5 := Tryz.isAgg5
  z5 := Tryz.sizeOf5
  v5 := Tryz.zeroValue5
  t9 := Tryz.underlying9
  a9 := Tryz.isAgg9
  z9 := Tryz.sizeOf9
  v9 := Tryz.zeroValue9
  t22 := Tryz.underlying23
  a22 := Tryz.isAgg23
  z22 := Tryz.sizeOf23
  v22 := Tryz.zeroValue23
  t25 := Tryz.underlying98
  a25 := Tryz.isAgg98
  z25 := Tryz.sizeOf98
  v25 := Tryz.zeroValue98
  t39 := Tryz.underlying113
  a39 := Tryz.isAgg113
  z39 := Tryz.sizeOf113
  v39 := Tryz.zeroValue113
  t45 := Tryz.underlying139
  a45 := Tryz.isAgg139
  z45 := Tryz.sizeOf139
  v45 := Tryz.zeroValue139
  t46 := Tryz.underlying140
  a46 := Tryz.isAgg140
  z46 := Tryz.sizeOf140
  v46 := Tryz.zeroValue140
  t50 := Tryz.underlying87
  a50 := Tryz.isAgg87
  z50 := Tryz.sizeOf87
  v50 := Tryz.zeroValue87
  t53 := Tryz.underlying130
  a53 := Tryz.isAgg130
  z53 := Tryz.sizeOf130
  v53 := Tryz.zeroValue130
  t55 := Tryz.underlying131
  a55 := Tryz.isAgg131
  z55 := Tryz.sizeOf131
  v55 := Tryz.zeroValue131
  t66 := Tryz.underlying169
  a66 := Tryz.isAgg169
  z66 := Tryz.sizeOf169
  v66 := Tryz.zeroValue169
  t70 := Tryz.underlying173
  a70 := Tryz.isAgg173
  z70 := Tryz.sizeOf173
  v70 := Tryz.zeroValue173
  t76 := Tryz.underlying195
  a76 := Tryz.isAgg195
  z76 := Tryz.sizeOf195
  v76 := Tryz.zeroValue195
  t77 := Tryz.underlying190
  a77 := Tryz.isAgg190
  z77 := Tryz.sizeOf190
  v77 := Tryz.zeroValue190 }
end Go.Proofs

 /- slices.SortFunc of files by their paths: in the generator's form. -/
namespace Go.Proofs.YtjhipfdbionpoaaGreatDoor
open Go Go.Proofs Go.Shelf Go.RowKit Go.Lib Go.Sort
abbrev FF := List UInt8 × List UInt8
def cmpFF (x y : FF) : Int := compareBytes x.1 y.1
set_option maxHeartbeats 4000000 in
set_option maxRecDepth 100000 in
theorem compare_FF (x y : FF) (W : World) : Calls Tryz.prog 44 #[.agg #[.string ⟨⟨x.1⟩⟩, .string ⟨⟨x.2⟩⟩], .agg #[.string ⟨⟨y.1⟩⟩, .string ⟨⟨y.2⟩⟩]] W fun e w' => e = .returned (.int .i64 (cmpFF x y)) ∧ ∃ q os', w' = grow (W.drewN q) os' := by
  have hc := fun a b w => Tryz.strings_Compare a b w
  have mixed : Tryz.prog.follows .mixedOrders = true := by kernel_rfl
  go_enter Tryz.func44, Tryz.ntmps44
  go_wp2_with (go_at_call 45; refine (hc _ _ _).mono ?_; rintro e w' ⟨rfl, rfl⟩)
  go_ret
  exact ⟨rfl, 0, #[_, _], by rw [alloc_eq_grow, alloc_eq_grow, grow_grow]; rfl⟩
section
variable {α : Type} [Inhabited α] {k : Nat} {f : α → List Value} {w : World} {e : TypeId}
/-- a sort that leaves some order of what there was -/
theorem sortP_fn {P : Program} {F : FuncId} {fv : Value} {R : List α → Prop} {A : Option Addr} {c n B : Nat} {xs : List α} (hE : goesIn P F = true)
    (hS : ∀ (b cap : Nat) (w1 : World), HoldsK f k w1 b 0 xs.toArray → b < w1.heap.size → Calls P F #[.slice (some ⟨b, 0, none⟩) xs.length cap, fv] w1 fun e w' => e = .returned (.tuple #[]) ∧ ∃ (ys : List α) (n : Nat) (os : Array Obj), ys.length = xs.length ∧ R ys ∧ w' = sortWorldK f k w1 b 0 n ys.toArray os)
    (hN : ∀ (p : Option Addr) (cap : Nat) (w1 : World), Calls P F #[.slice p 0 cap, fv] w1 fun e w' => e = .returned (.tuple #[]) ∧ w' = w1) (hR : xs = [] → R [])
    (hO : OwnK k f w B e A c xs) (hn : n = xs.length) :
    Fn P F ⟨[.slice A n c, fv]⟩ w (fun v w' => ∃ ys : List α, v = .tuple #[] ∧ OwnK k f w' B e A c ys ∧ w.grownBy w' (blk A) ∧ ys.length = xs.length ∧ R ys) := by
  subst hn
  refine ⟨hE, fun w1 e1 => ?_⟩
  have hO1 := hO.eqv e1
  rcases hO1.2.2 with ⟨hv, hn⟩ | ⟨b, cap, cur, hv, hb, hg, hnc, hcm, hcs, htake⟩
  · simp only [Value.slice.injEq] at hv
    obtain ⟨rfl, _, rfl⟩ := hv
    have : xs = [] := List.eq_nil_of_length_eq_zero hn
    subst this
    exact (hN none 0 w1).mono fun _ w' ⟨he, hw⟩ => ⟨_, w, he, by rw [hw]; exact e1, [], rfl, hO, gr_refl _ _, rfl, hR rfl⟩
  · simp only [Value.slice.injEq] at hv
    obtain ⟨rfl, _, rfl⟩ := hv
    have hH : HoldsK f k w1 b 0 xs.toArray := by
      unfold HoldsK
      rw [flatK_list hO.1]
      exact holds_of_blockV hg (by rw [hO.1.flen xs]; exact htake)
    refine (hS b c w1 hH (Array.getElem?_eq_some_iff.1 hg).1).mono fun _ w' ⟨he, ys, q, os, hl, hr, hw⟩ => ?_
    have h1 := ownK_sorted (n := q) (os := os) hO.1 hl hb hg hnc hcm hcs
    have h2 := grownBy_sortedV (w := w1) (g := b) (n := q) (os := os) (flatK f k ys.toArray)
    unfold sortWorldK at hw
    rw [← hw] at h1
    unfold putRowK at hw
    rw [← hw] at h2
    exact ⟨_, w', he, Eqv.refl _, _, rfl, h1, eqv_gr e1 h2, hl, hr⟩
end
theorem ltFF_iff (x y : FF) : ltOf cmpFF x y = true ↔ x.1 < y.1 := by
  unfold ltOf cmpFF
  rw [decide_eq_true_iff, cB_neg]
theorem ltFF_no (x y : FF) : ltOf cmpFF x y = false ↔ ¬ x.1 < y.1 := by rw [← ltFF_iff, Bool.not_eq_true]
theorem ltFF_swo : SWO (ltOf cmpFF) where
  irrefl x := (ltFF_no x x).2 (List.lt_irrefl _)
  trans x y z h k := (ltFF_iff x z).2 (List.lt_trans ((ltFF_iff x y).1 h) ((ltFF_iff y z).1 k))
  ntrans x y z h k := by
    rw [ltFF_no] at *
    exact List.not_lt.2 (List.le_trans (List.not_lt.1 k) (List.not_lt.1 h))
def SortedF (ys : List FF) : Prop := ∀ i j, i < j → j < ys.length → ¬ (ys.getD j ([], [])).1 < (ys.getD i ([], [])).1
def M_slices_SortFunc_api_File_api_File_plan_Outputs_1 (xs : List FF) (K : List FF → Prop) : Prop := xs.length < 4611686018427387904 ∧ ∀ ys : List FF, ys.Perm xs → SortedF ys → K ys
theorem W_slices_SortFunc_api_File_api_File_plan_Outputs_1 {w : World} {xs : List FF} {A : Option Addr} {c n B : Nat} {e : TypeId} {K : List FF → Prop} (hO : OwnK 2 enc35 w B e A c xs) (hn : n = xs.length) (H : M_slices_SortFunc_api_File_api_File_plan_Outputs_1 xs K) :
    Fn Tryz.prog 43 ⟨[.slice A n c, .func (.func 44) #[] #[]]⟩ w (fun v w' => ∃ ys : List FF, v = .tuple #[] ∧ OwnK 2 enc35 w' B e A c ys ∧ w.grownBy w' (blk A) ∧ ys.length = xs.length ∧ K ys) := by
  refine sortP_fn (by kernel_rfl) (fun b cap w1 hH hb => ?_) (fun p cap w1 => AnyF.slices_SortFunc_none Tryz.sortf43 p cap _ w1) (fun h => H.2 _ (by rw [h]) fun i j _ hj => by simp at hj) hO hn
  have hsz : xs.toArray.size < 4611686018427387904 := H.1
  refine (AnyQ.slices_SortFunc Tryz.sortf43 2 Tryz.isAgg35 Tryz.sizeOf35 enc35 (fun _ => rfl) (fun x v hv => by
      simp only [enc35, List.mem_cons, List.not_mem_nil, or_false] at hv
      rcases hv with rfl | rfl <;> rfl) cmpFF ltFF_swo 44 #[] b 0 cap xs.toArray w1 (fun _ _ => by kernel_rfl) (fun _ _ _ _ x y => compare_FF x y _) hH hb hsz).mono fun _ w' ⟨he, d, q, os, ⟨p1, _, p3⟩, hs, hw⟩ => ?_
  have hd : d.toList.length = xs.length := by simpa using p1
  refine ⟨he, d.toList, q, os, hd, H.2 _ ?_ fun i j hij hj => ?_, hw⟩
  · have e1 : d.extract 0 xs.toArray.size = d := by rw [← p1]; exact Array.extract_size
    rw [e1, Array.extract_size] at p3
    simpa using p3
  · have := hs i j (Nat.zero_le _) hij (by rw [← p1]; simpa using hj)
    rw [ltFF_no] at this
    have h1 : i < d.size := by simp at hj; omega
    have h2 : j < d.size := by simpa using hj
    simpa [List.getD, h1, h2] using this
end Go.Proofs.YtjhipfdbionpoaaGreatDoor


 /- Printed by a program (wip/vg): what the functions mean, plainly, and their walks. -/
namespace Go.Proofs.YtjhipfdbionpoaaGreatDoor
open Go Go.RowKit
attribute [local irreducible] WL WC WX WQ WK WJ Yld Eff Ef0 Fn
def M_plan_Outputs (g_l : List (Int × List (List UInt8) × List (List UInt8) × List UInt8)) (g_makers : List (List UInt8 × Int)) (g_before : List (List Int)) (g_after : List (List Int)) (files : List (List UInt8 × List UInt8)) (K : (List (List UInt8 × List UInt8)) → Prop) : Prop :=
 (g_l.length ≤ maxLen →
 (g_before.length ≤ maxLen →
 (g_after.length ≤ maxLen →
 (files.length ≤ maxLen →
 M_plan_Fates g_l g_makers g_before g_after files (fun (t12 : List (Int × List UInt8 × List UInt8)) =>
 Lp2 (fun (l : List (List UInt8 × List UInt8)) (t14 : Int) kont1 => ((t14 < (t12.length : Int) → ∃ J1 : (List (List UInt8 × List UInt8)) → Prop, ((0 ≤ t14 ∧ t14 < (t12.length : Nat)) ∧
 ((((t12.getD t14.toNat (0, [], [])).1) = (1 : Int) → M_pgraph_Graph_Action g_l g_makers g_before g_after t14 (fun (t250_Tool : Int) (t250_Args : List (List UInt8)) (t250_Inputs : List (List UInt8)) (t250_Output : List UInt8) (t251 : Bool) =>
 ((l.length + (([(t250_Output, (t12.getD t14.toNat (0, [], [])).2.1)] : List (List UInt8 × List UInt8))).length) * 32 ≤ 140737488355328) ∧
 J1 (l ++ ([(t250_Output, (t12.getD t14.toNat (0, [], [])).2.1)] : List (List UInt8 × List UInt8))))) ∧
 (¬ (((t12.getD t14.toNat (0, [], [])).1) = (1 : Int)) → J1 l))) ∧
 (∀ l2 : List (List UInt8 × List UInt8), J1 l2 → (In .i64 (t14 + (1 : Int))) ∧
 kont1 l2 (t14 + (1 : Int)))) ∧
 (¬ (t14 < (t12.length : Int)) → M_slices_SortFunc_api_File_api_File_plan_Outputs_1 l (fun (ys : List (List UInt8 × List UInt8)) =>
 K ys)))) [] (0 : Int))))))

set_option maxHeartbeats 8000000 in
theorem W_plan_Outputs {S : List Nat} {w : World} {g_g : Nat} {g_l : List (Int × List (List UInt8) × List (List UInt8) × List UInt8)} {A_g_l : Option Addr} {c_g_l : Nat} {hs_g_l : List (Int × Hdr × Hdr × List UInt8)} {g_g_makers : Nat} {g_makers : List (List UInt8 × Int)} {g_before : List (List Int)} {A_g_before : Option Addr} {c_g_before : Nat} {hs_g_before : List Hdr} {g_after : List (List Int)} {A_g_after : Option Addr} {c_g_after : Nat} {hs_g_after : List Hdr} {files : List (List UInt8 × List UInt8)} {A_files : Option Addr} {c_files : Nat} {n_g_l : Nat} {n_g_before : Nat} {n_g_after : Nat} {n_files : Nat} {K : (List (List UInt8 × List UInt8)) → Prop} (hG : GOK S w) (hS10 : 10 ∈ S) (hS16 : 16 ∈ S) (hS100 : 100 ∈ S) (hS101 : 101 ∈ S) (hg_l : RdK 4 encH43 w A_g_l c_g_l hs_g_l) (hn_g_l : n_g_l = g_l.length) (hr_g_l : RelD de43 w hs_g_l g_l) (hg_makers : MapB vs okS vi w g_g_makers g_makers) (hg_before : Rd vh w A_g_before c_g_before hs_g_before) (hn_g_before : n_g_before = g_before.length) (hr_g_before : RelD de38 w hs_g_before g_before) (hg_after : Rd vh w A_g_after c_g_after hs_g_after) (hn_g_after : n_g_after = g_after.length) (hr_g_after : RelD de38 w hs_g_after g_after) (hg : Bl w g_g 79 [.slice A_g_l n_g_l c_g_l, .map (some g_g_makers), .slice A_g_before n_g_before c_g_before, .slice A_g_after n_g_after c_g_after]) (hfiles : RdK 2 enc35 w A_files c_files files) (hn_files : n_files = files.length) (H : M_plan_Outputs g_l g_makers g_before g_after files K) : Fn Tryz.prog 17 ⟨[.pointer (some ⟨g_g, 0, none⟩), .slice A_files n_files c_files]⟩ w (fun v w' => w.grownBy w' none ∧ ∃ (r : List (List UInt8 × List UInt8)), ∃ (A_r : Option Addr), ∃ (c_r : Nat), v = .slice A_r r.length c_r ∧ OwnK 2 enc35 w' w.heap.size 35 A_r c_r r ∧ K r) := by
  subst hn_g_l
  subst hn_g_before
  subst hn_g_after
  subst hn_files
  unfold M_plan_Outputs at H
  refine Fn.enter (by kernel_rfl) Tryz.func17 rfl Tryz.ntmps17 rfl ?_
  replace H := H (by rw [← hr_g_l.1]; exact Nat.le_trans hg_l.cap hg_l.max)
  replace H := H (by rw [← hr_g_before.1]; exact Nat.le_trans hg_before.cap hg_before.max)
  replace H := H (by rw [← hr_g_after.1]; exact Nat.le_trans hg_after.cap hg_after.max)
  replace H := H (Nat.le_trans hfiles.cap hfiles.max)
  refine WC.seq ?_
  refine WC.region ?_
  refine WL.y rfl (Yld.pure tab_ok rfl) ?_
  refine WL.nil (WX.then_normal ?_)
  refine WC.seq ?_
  refine WC.region ?_
  refine WL.y rfl (Yld.pure tab_ok rfl) ?_
  refine WL.nil (WX.then_normal ?_)
  refine WC.seq ?_
  refine WC.seq ?_
  refine WC.region ?_
  refine WL.y rfl (Yld.pure tab_ok rfl) ?_
  refine WL.y rfl (Yld.pure tab_ok rfl) ?_
  refine WL.call rfl rfl (W_plan_Fates hG hS10 hS16 hS100 hS101 hg_l rfl hr_g_l hg_makers hg_before rfl hr_g_before hg_after rfl hr_g_after hg hfiles rfl H) ?_
  rintro _ w1 ⟨hg1, t12, A_t12, c_t12, rfl, ht12, H⟩
  have hb1 := ht12.ge'
  have k1 := ht12.base (fun g hg => Nat.le_trans (Nat.le_refl _) (hb1 g hg))
  have gr1 := hg1
  refine WL.y rfl (Yld.pure tab_ok rfl) ?_
  refine WL.y rfl (Yld.pure tab_ok rfl) ?_
  refine WL.nil (WX.then_normal ?_)
  refine WC.block ?_
  obtain ⟨I1, mu1, h0_1, HR1⟩ := H
  refine WC.loopF (fun n' L' w' => ∃ (l : List (List UInt8 × List UInt8)), ∃ (A_l : Option Addr), ∃ (c_l : Nat), ∃ (n_l : Nat), ∃ (t14 : Int), n' = mu1 l t14 ∧ L' = [(0, .pointer (some ⟨g_g, 0, none⟩)), (5, .slice A_l n_l c_l), (12, .slice A_t12 t12.length c_t12), (13, .int .i64 (t12.length : Int)), (14, .int .i64 t14)] ∧ I1 l t14 ∧ n_l = l.length ∧ w.grownBy w' none ∧ OwnK 34 enc49 w' w.heap.size 49 A_t12 c_t12 t12 ∧ OwnK 2 enc35 w' w.heap.size 35 A_l c_l l ∧ Dj (blk A_t12) (blk A_l)) _ _ ⟨[], none, 0, 0, (0 : Int), rfl, rfl, h0_1, rfl, gr1, k1, (OwnK.nil enc35_ok w1 w.heap.size 35), Dj.nr⟩ (by repeat (first | exact Sub.nil | refine Sub.cons rfl ?_)) ?_
  clear h0_1
  rintro _ _ w2 ⟨l, A_l, c_l, n_l, t14, rfl, rfl, hI1, rfl, gr2, k2, k3, dj1⟩
  have H := HR1 l t14 hI1
  refine WC.seq ?_
  refine WC.region ?_
  refine WL.y rfl (Yld.pure tab_ok rfl) ?_
  refine WL.nil (WX.then_normal ?_)
  refine WC.seq ?_
  refine WC.cond rfl (fun b1 => ?_) (fun b1 => ?_)
  · replace H := H.1 (of_decide_eq_true b1)
    refine WC.skip (WX.then_normal ?_)
    refine WC.seq ?_
    obtain ⟨J1, H, hJ1⟩ := H
    refine WC.midF (fun L' w' => ∃ (l2 : List (List UInt8 × List UInt8)), ∃ (A_l2 : Option Addr), ∃ (c_l2 : Nat), ∃ (n_l2 : Nat), L' = [(0, .pointer (some ⟨g_g, 0, none⟩)), (5, .slice A_l2 n_l2 c_l2), (12, .slice A_t12 t12.length c_t12), (13, .int .i64 (t12.length : Int)), (14, .int .i64 t14)] ∧ J1 l2 ∧ n_l2 = l2.length ∧ w.grownBy w' none ∧ OwnK 34 enc49 w' w.heap.size 49 A_t12 c_t12 t12 ∧ OwnK 2 enc35 w' w.heap.size 35 A_l2 c_l2 l2 ∧ Dj (blk A_t12) (blk A_l2)) ?_ (fun hQ => ?_)
    · clear H
      rintro _ w3 ⟨l2, A_l2, c_l2, n_l2, rfl, H, rfl, gr3, k4, k5, dj2⟩
      replace H := hJ1 l2 H
      refine WX.then_normal ?_
      refine WC.region ?_
      obtain ⟨h1, H⟩ := H
      refine WL.y rfl (Yld.add rfl rfl h1) ?_
      refine WL.y rfl (Yld.pure tab_ok rfl) ?_
      refine WL.nil ?_
      exact WX.roundF _ ⟨l2, A_l2, c_l2, l2.length, t14 + (1 : Int), rfl, rfl, H.1, rfl, gr3, k4, k5, dj2⟩ (by repeat (first | exact Sub.nil | refine Sub.cons rfl ?_)) H.2
    · clear hJ1
      refine WC.block ?_
      refine WC.seq ?_
      refine WC.region ?_
      refine WL.y rfl (Yld.pure tab_ok rfl) ?_
      obtain ⟨h2, H⟩ := H
      refine WL.y rfl (Yld.iaddrK tab_ok k2.rd rfl rfl rfl rfl h2.1 h2.2) ?_
      refine WL.y rfl (Yld.iloadK (0, [], []) tab_ok k2.rd rfl rfl (iltN h2 rfl)) ?_
      refine WL.alloc rfl zero49 (fun g1 w4 hB1 hg2 hl1 => ?_)
      have gr4 := gr_trans gr2 hg2
      have k6 := k2.grown hg2
      have k7 := k3.grown hg2
      refine WL.y rfl (Yld.pure tab_ok rfl) ?_
      refine WL.storeW (vs := ([.int .i64 ((t12.getD t14.toNat (0, [], [])).1), vs ((t12.getD t14.toNat (0, [], [])).2.1)] ++ a32 ((t12.getD t14.toNat (0, [], [])).2.2))) tab_ok rfl rfl rfl (all1c rfl (all1c rfl (a32_one _))) hB1 rfl rfl (fun w5 hB2 hg3 => ?_)
      have gr5 := gr_mod gr4 hg3 (Ge.le (Ge.box hl1) (size_le gr2))
      have k8 := k6.go hg3 (Dj.new k2.lt' (Ge.box hl1))
      have k9 := k7.go hg3 (Dj.new k3.lt' (Ge.box hl1))
      refine WL.nil (WX.then_normal ?_)
      refine WC.seq ?_
      refine WC.region ?_
      refine WL.y rfl (Yld.pure tab_ok rfl) ?_
      refine WL.y rfl (Yld.bload tab_ok hB2 rfl rfl rfl) ?_
      refine WL.y rfl (Yld.pure tab_ok rfl) ?_
      refine WL.nil (WX.then_normal ?_)
      refine WC.cond rfl (fun b2 => ?_) (fun b2 => ?_)
      · replace H := H.1 (of_decide_eq_true b2)
        refine WC.seq ?_
        refine WC.region ?_
        refine WL.y rfl (Yld.pure tab_ok rfl) ?_
        refine WL.y rfl (Yld.pure tab_ok rfl) ?_
        refine WL.call rfl rfl (W_pgraph_Graph_Action (hg_l.grown gr5) rfl (hr_g_l.grown gr5) (hg_makers.g0 gr5) (hg_before.grown gr5) rfl (hr_g_before.grown gr5) (hg_after.grown gr5) rfl (hr_g_after.grown gr5) (hg.g0 gr5) H) ?_
        rintro _ w6 ⟨hg4, t250_Tool, t250_Args, A_t250_Args, c_t250_Args, t250_Inputs, A_t250_Inputs, c_t250_Inputs, t250_Output, t251, rfl, ht250_Args, ht250_Inputs, dj3, H⟩
        have hb2 := ht250_Args.ge'
        have k10 := ht250_Args.base (fun g hg => Nat.le_trans (size_le gr5) (hb2 g hg))
        have hb3 := ht250_Inputs.ge'
        have k11 := ht250_Inputs.base (fun g hg => Nat.le_trans (size_le gr5) (hb3 g hg))
        have gr6 := gr_trans gr5 hg4
        have k12 := k8.grown hg4
        have k13 := k9.grown hg4
        have k14 := hB2.g0 hg4
        refine WL.y rfl (Yld.pure tab_ok rfl) ?_
        refine WL.y rfl (Yld.pure tab_ok rfl) ?_
        refine WL.y rfl (Yld.pure tab_ok rfl) ?_
        refine WL.alloc rfl zero43 (fun g2 w7 hB3 hg5 hl2 => ?_)
        have gr7 := gr_trans gr6 hg5
        have k15 := k12.grown hg5
        have k16 := k13.grown hg5
        have k17 := k14.g0 hg5
        have k18 := k10.grown hg5
        have k19 := k11.grown hg5
        refine WL.storeW (vs := [.int .i64 t250_Tool, .slice A_t250_Args t250_Args.length c_t250_Args, .slice A_t250_Inputs t250_Inputs.length c_t250_Inputs, vs t250_Output]) tab_ok rfl rfl rfl (all1c rfl (all1c rfl (all1c rfl (all1c rfl all1n)))) hB3 rfl rfl (fun w8 hB4 hg6 => ?_)
        have gr8 := gr_mod gr7 hg6 (Ge.le (Ge.box hl2) (size_le gr6))
        have k20 := k15.go hg6 (Dj.new k12.lt' (Ge.box hl2))
        have k21 := k16.go hg6 (Dj.new k13.lt' (Ge.box hl2))
        have k22 := k17.go hg6 (Dj.new k14.lt' (Ge.box hl2))
        have k23 := k18.go hg6 (Dj.new k10.lt' (Ge.box hl2))
        have k24 := k19.go hg6 (Dj.new k11.lt' (Ge.box hl2))
        refine WL.y rfl (Yld.pure tab_ok rfl) ?_
        refine WL.nil (WX.then_normal ?_)
        refine WC.region ?_
        refine WL.y rfl (Yld.pure tab_ok rfl) ?_
        refine WL.y rfl (Yld.pure tab_ok rfl) ?_
        refine WL.y rfl (Yld.bload tab_ok hB4 rfl rfl rfl) ?_
        refine WL.y rfl (Yld.pure tab_ok rfl) ?_
        refine WL.y rfl (Yld.bload tab_ok k22 rfl rfl rfl) ?_
        refine WL.y rfl (Yld.struct (us := [vs t250_Output, vs ((t12.getD t14.toNat (0, [], [])).2.1)]) zero35 places35 rfl rfl) ?_
        refine WL.litK (f := enc35) ([(t250_Output, (t12.getD t14.toNat (0, [], [])).2.1)] : List (List UInt8 × List UInt8)) enc35_ok rfl ow23 rfl rfl rfl (fun g3 w9 hB5 hg7 hl3 => ?_)
        have hO1 : OwnK 2 enc35 w9 w.heap.size 35 (some ⟨g3, 0, none⟩) 1 ([(t250_Output, (t12.getD t14.toNat (0, [], [])).2.1)] : List (List UInt8 × List UInt8)) := OwnK.ofBl enc35_ok hB5 (Nat.le_trans (size_le gr8) hl3) (by simp [maxLen]) rfl
        have gr9 := gr_trans gr8 hg7
        have k25 := k20.grown hg7
        have k26 := k21.grown hg7
        obtain ⟨h3, H⟩ := H
        refine WL.appendK rfl ow23 k26 rfl rfl hO1.rd rfl rfl h3 (applen h3) (size_le gr9) (fun A_l3 c_l3 w10 hO2 hg8 hk1 => ?_)
        have gr10 := gr_mod gr9 hg8 k26.ge'
        have k27 := k25.go hg8 dj1
        refine WL.y rfl (Yld.pure tab_ok rfl) ?_
        refine WL.nil (WX.block_normal ?_)
        exact WX.weaken (by repeat (first | exact Sub.nil | refine Sub.cons rfl ?_)) (hQ _ _ ⟨l ++ ([(t250_Output, (t12.getD t14.toNat (0, [], [])).2.1)] : List (List UInt8 × List UInt8)), A_l3, c_l3, (l ++ ([(t250_Output, (t12.getD t14.toNat (0, [], [])).2.1)] : List (List UInt8 × List UInt8))).length, rfl, H, rfl, gr10, k27, hO2, (Dj.app dj1.symm k25.lt' hk1).symm⟩)
      · replace H := H.2 (of_decide_eq_false b2)
        refine WC.skip (WX.block_normal ?_)
        exact WX.weaken (by repeat (first | exact Sub.nil | refine Sub.cons rfl ?_)) (hQ _ _ ⟨l, A_l, c_l, l.length, rfl, H, rfl, gr5, k8, k9, dj1⟩)
  · replace H := H.2 (of_decide_eq_false b1)
    refine WC.exit (WX.then_exit (WX.then_exit (WX.block_same (WX.then_normal ?_))))
    refine WC.seq ?_
    refine WC.region ?_
    refine WL.y rfl (Yld.pure tab_ok rfl) ?_
    refine WL.call rfl rfl (W_slices_SortFunc_api_File_api_File_plan_Outputs_1 k3 rfl H) ?_
    rintro _ w11 ⟨ys, rfl, hO3, hg9, hl4, H⟩
    have gr11 := gr_mod gr2 hg9 k3.ge'
    refine WL.nil (WX.then_normal ?_)
    refine WC.seq ?_
    refine WC.region ?_
    refine WL.y rfl (Yld.pure tab_ok rfl) ?_
    refine WL.y rfl (Yld.pure tab_ok rfl) ?_
    refine WL.nil (WX.then_normal ?_)
    refine WC.ret ?_
    exact WX.ret1 rfl rfl ⟨gr11, ys, A_l, c_l, (by rw [((rfl : l.length = l.length).trans hl4.symm)]), hO3, H⟩

end Go.Proofs.YtjhipfdbionpoaaGreatDoor

 /- What is written, plainly: the program's side. -/
namespace Go.Proofs.YtjhipfdbionpoaaGreatDoor
open Go Go.RowKit
def outF (l : List GAct) (fs : List FT) : Nat → TX
  | 0 => []
  | m + 1 => outF l fs m ++ if (fs.getD m fz).1 = 1 then [((l.getD m az).2.2.2, (fs.getD m fz).2.1)] else []
theorem outF_len (l : List GAct) (fs : List FT) : ∀ m, (outF l fs m).length ≤ m
  | 0 => Nat.le_refl _
  | m + 1 => by
    have := outF_len l fs m
    unfold outF
    rw [List.length_append]
    split <;> simp <;> omega
theorem outputs_M {l : List GAct} {files : TX} {K : TX → Prop} (hs : GSmall l) (g : GOk l) (hty : ∀ j, j < l.length → 1 ≤ (l.getD j az).1 ∧ (l.getD j az).1 ≤ 5) (hf : files.length ≤ 100) (hfp : ∀ f ∈ files, f.1.length ≤ 1000 ∧ f.2.length ≤ 100000) (h : ∀ ys : TX, List.Perm ys (outF l (fatesP FQ1 l files) l.length) → SortedF ys → K ys) : M_plan_Outputs l (mkP l l.length) (befL l l.length) (aftL l l.length) files K := by
  intro _ _ _ _
  have hl := hs.len
  refine fates_M hs g hty hf hfp ?_
  have la : (fatesP FQ1 l files).length = l.length := runP_len (F := FQ1) files g l.length (Nat.le_refl _)
  generalize fatesP FQ1 l files = fs at *
  refine ⟨fun o k => 0 ≤ k ∧ k ≤ l.length ∧ o = outF l fs k.toNat, fun _ k => l.length - k.toNat, ⟨by omega, by omega, rfl⟩, fun o k ⟨a0, a1, a2⟩ => ⟨fun hlt => ?_, fun hge => ?_⟩⟩
  · have hk : k.toNat < l.length := by omega
    have hol := outF_len l fs k.toNat
    rw [← a2] at hol
    have hst : outF l fs (k + 1).toNat = o ++ if (fs.getD k.toNat fz).1 = 1 then [((l.getD k.toNat az).2.2.2, (fs.getD k.toNat fz).2.1)] else [] := by
      rw [show (k + 1).toNat = k.toNat + 1 by omega, a2]; rfl
    have hin : inR l k := by unfold inR; omega
    refine ⟨fun m => m = outF l fs (k + 1).toNat, ⟨⟨a0, hlt⟩, fun hc => action_R hs fun a b hab hal => ?_, fun hc => ?_⟩, fun m hm => ⟨by simp only [In]; omega, ⟨by omega, by omega, hm⟩, by (try dsimp only); omega⟩⟩
    · obtain rfl : a = l.getD k.toNat az := hab.elim (fun h => h.2.2) fun h => absurd hin h.2.1
      refine ⟨by simp only [List.length_singleton]; omega, ?_⟩
      have hc' : (fs.getD k.toNat fz).1 = 1 := hc
      rw [hst, if_pos hc']; rfl
    · have hc' : ¬ (fs.getD k.toNat fz).1 = 1 := hc
      rw [hst, if_neg hc', List.append_nil]
  · have := outF_len l fs l.length
    rw [show k.toNat = l.length by omega] at a2
    rw [a2]
    exact ⟨by show (outF l fs l.length).length < _; omega, fun ys hp hy => h ys hp hy⟩
end Go.Proofs.YtjhipfdbionpoaaGreatDoor


 