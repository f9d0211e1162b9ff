/- Texts of this claim, joined by a program: Ord, Enc, GKa, KeyB, Tx, KeyC. -/
import Derived.Test.YtcfljnfaakjdjaaDoorJ3
import Derived.Lib.ItoaLen
/- Regions some of whose operations may come in several orders: the floats once, the others order by order, what stands behind once. -/
namespace Go.Proofs.YtcfljnfaakjdjaaDoor
open Go Go.RowKit
section
variable {P : Program} {N : Nat} {ops : Array Oper} {fl : Nat → Bool} {D : World → Prop} {n g : Nat} {K : Act → World → Prop} {Q : Post} {L : Slots} {w : World} {f : Nat} {listed : Array Bool} {d : Nat} {op : Op} {ty : TypeId} {pos : String} {af : Array Edge} {gd : Option (Nat × Bool)}
structure HeadOk (ops : Array Oper) (n : Nat) : Prop where
  sel : Region.noSelect ops = true
  sink : Region.sinkB .any ops n = true
  chain : Region.chainB .any ops n = true
  lt : n < ops.size
def WA (P : Program) (N : Nat) (ops : Array Oper) (fl : Nat → Bool) (D : World → Prop) (n g : Nat) (K : Act → World → Prop) (f : Nat) (listed : Array Bool) (L : Slots) (w : World) : Prop :=
  HeadOk ops n → HeadInv .any ops n listed → ∀ a w1, Eqv w w1 → D w1 → Has N L a → anyT P .any ops fl D n (fun l' a' w' => Region.seqB .any ops g n l' = true ∧ K a' w') f listed a w1
def WI (P : Program) (N : Nat) (ops : Array Oper) (fl : Nat → Bool) (D : World → Prop) (n g : Nat) (K : Act → World → Prop) (f : Nat) (listed : Array Bool) (L : Slots) (w : World) (i : Nat) : Prop :=
  HeadOk ops n → HeadInv .any ops n (listed.setIfInBounds i true) → ∀ a w1, Eqv w w1 → D w1 → Has N L a → ∃ o, ops[i]? = some o ∧ fl i = false ∧ sRun P ops D o a w1 fun a' w' => anyT P .any ops fl D n (fun l' a' w' => Region.seqB .any ops g n l' = true ∧ K a' w') f (listed.setIfInBounds i true) a' w'
theorem WC.ordersK {i : Nat} {l : List Oper} (n : Nat) (fl : Nat → Bool) (D : World → Prop) (K : Act → World → Prop) (hm : P.follows .mixedOrders = true) (hB : (Region.noSelect l.toArray && (Region.sinkB .any l.toArray n && (Region.chainB .any l.toArray n && Nat.blt n l.length))) = true) (hE : ∀ w', Eqv w w' → D w')
    (h : WA P N l.toArray fl D n (l.length - n) K n (Array.replicate l.length false) L w)
    (ht : ∀ a w', K a w' → wpList P l.toArray Q (l.drop n) a w') : WC P N Q (.region i l.toArray true) L w := fun a wx e ha => by
  simp only [Bool.and_eq_true] at hB
  obtain ⟨hsel, hs, hc, hlt⟩ := hB
  have hn' : n < l.length := by simpa [Nat.blt_eq] using hlt
  refine wp_region_any hm ?_
  have inv0 : HeadInv .any l.toArray n (Array.replicate l.length false) :=
    ⟨by simp, fun j oj _ hl => (by rw [getD_replicate_false] at hl; cases hl), fun t _ ht => getD_in (by simpa using ht) (getD_replicate_false _ _)⟩
  have H := h ⟨hsel, hs, hc, by simpa using hn'⟩ inv0 a { wx with drawn := wx.drawn + 1 } (e.drawn _) (hE _ (e.drawn _)) ha
  have h2 := any_of_anyT (Q' := Q) (g := l.length - n) (fun listed a' w' _ hL => by
    obtain ⟨hq, hK⟩ := hL
    have := wpAny_of_seq (md := .any) (Q' := Q) (l.drop n) n listed a' w' (fun j => by simp [List.getElem?_drop]) (by rw [List.length_drop]; exact hq) (ht a' w' hK)
    rwa [List.length_drop] at this) _ _ _ _ (hE { wx with drawn := wx.drawn + 1 } (e.drawn _)) H
  rw [show n + (l.length - n) = l.length by omega] at h2
  simpa using h2
def Ends4 {S1 S2 S3 S4 : Type} (N : Nat) (Ls : S1 → S2 → S3 → S4 → Slots) (I : S1 → S2 → S3 → S4 → World → Prop) (a : Act) (w : World) : Prop := ∃ p q r s w0, I p q r s w0 ∧ Eqv w0 w ∧ Has N (Ls p q r s) a
theorem WC.orders4 {S1 S2 S3 S4 : Type} {i : Nat} {l : List Oper} (n : Nat) (fl : Nat → Bool) (D : World → Prop) (Ls : S1 → S2 → S3 → S4 → Slots) (I : S1 → S2 → S3 → S4 → World → Prop) (hm : P.follows .mixedOrders = true) (hB : (Region.noSelect l.toArray && (Region.sinkB .any l.toArray n && (Region.chainB .any l.toArray n && Nat.blt n l.length))) = true) (hE : ∀ w', Eqv w w' → D w')
    (h : WA P N l.toArray fl D n (l.length - n) (Ends4 N Ls I) n (Array.replicate l.length false) L w)
    (ht : ∀ p q r s w0, I p q r s w0 → WL P N l.toArray Q (l.drop n) (Ls p q r s) w0) : WC P N Q (.region i l.toArray true) L w :=
  WC.ordersK n fl D _ hm hB hE h fun a w' ⟨p, q, r, s, w0, hI, he, hh⟩ => ht p q r s w0 hI a w' he hh
theorem WA.done4 {S1 S2 S3 S4 : Type} {Ls : S1 → S2 → S3 → S4 → Slots} {I : S1 → S2 → S3 → S4 → World → Prop} (p : S1) (q : S2) (r : S3) (s : S4) (hq : Region.seqB .any ops g n listed = true) (hI : I p q r s w) (hs : Sub L (Ls p q r s)) : WA P N ops fl D n g (Ends4 N Ls I) 0 listed L w := fun _ _ _ _ e _ ha => ⟨hq, p, q, r, s, w, hI, e, ha.sub hs⟩
def EndsF (N : Nat) (F : Slots → World → Prop) (a : Act) (w : World) : Prop := ∃ L w0, F L w0 ∧ Eqv w0 w ∧ Has N L a
theorem WC.ordersF {i : Nat} {l : List Oper} (n : Nat) (fl : Nat → Bool) (D : World → Prop) (F : Slots → World → Prop) (hm : P.follows .mixedOrders = true) (hB : (Region.noSelect l.toArray && (Region.sinkB .any l.toArray n && (Region.chainB .any l.toArray n && Nat.blt n l.length))) = true) (hE : ∀ w', Eqv w w' → D w')
    (ht : ∀ L' w', F L' w' → WL P N l.toArray Q (l.drop n) L' w')
    (h : WA P N l.toArray fl D n (l.length - n) (EndsF N F) n (Array.replicate l.length false) L w) : WC P N Q (.region i l.toArray true) L w :=
  WC.ordersK n fl D _ hm hB hE h fun a w' ⟨L', w0, hI, he, hh⟩ => ht L' w0 hI a w' he hh
theorem WA.doneF {F : Slots → World → Prop} (L' : Slots) (hq : Region.seqB .any ops g n listed = true) (hI : F L' w) (hs : Sub L L') : WA P N ops fl D n g (EndsF N F) 0 listed L w := fun _ _ _ _ e _ ha => ⟨hq, L', w, hI, e, ha.sub hs⟩
theorem WA.y {v : Value} (k : Nat) (ho : ops[k]? = some ⟨some d, op, ty, pos, af, none⟩) (hf : (fl k && ((Region.ready .any ops listed).contains k && (Region.free .any ops listed k && Nat.blt k n))) = true) (hd : Nat.blt d N = true) (hy : ∀ w', D w' → Yld P N w' ⟨some d, op, ty, pos, af, none⟩ L v)
    (h : WA P N ops fl D n g K f (listed.setIfInBounds k true) ((d, v) :: L) w) : WA P N ops fl D n g K (f + 1) listed L w := fun ok inv a w1 e hw ha => by
  simp only [Bool.and_eq_true] at hf
  obtain ⟨hfl, hr, hfr, hkn⟩ := hf
  have hr' : k ∈ Region.ready .any ops listed := by simpa using hr
  have hkn' : k < n := by simpa [Nat.blt_eq] using hkn
  exact float_firstT ho hfl (Region.noSelect_spec ok.sel) ok.sink ok.chain ok.lt hkn' (fun _ _ _ hL => seqB_ready hL.1) f listed a w1 hw inv (Region.free_spec ho hfr) hr'
    (.inl ⟨by simp [Region.wanted], fun w' hw' => hy w' hw' a w' (Eqv.refl _) ha⟩) (h ok (inv.set hr' hkn') _ _ e hw (ha.put hd v))
def AllL {α : Type} (p : α → Prop) : List α → Prop
  | [] => True
  | [x] => p x
  | x :: y :: l => p x ∧ AllL p (y :: l)
theorem AllL.mem {α : Type} {p : α → Prop} : ∀ {l : List α}, AllL p l → ∀ x ∈ l, p x
  | [], _, x, h => by simp at h
  | [y], h, x, hx => by simp at hx; subst hx; exact h
  | y :: z :: l, h, x, hx => by
    rcases List.mem_cons.1 hx with rfl | hx
    · exact h.1
    · exact AllL.mem h.2 x hx
theorem WA.split (is : List Nat) (hr : Region.ready .any ops listed = is) (hc : (!is.isEmpty && is.all fun i => Nat.blt i n) = true) (h : AllL (WI P N ops fl D n g K f listed L w) is) : WA P N ops fl D n g K (f + 1) listed L w := fun ok inv a w1 e hw ha => by
  simp only [Bool.and_eq_true] at hc
  refine ⟨fun h0 => ?_, fun i hi => ?_⟩
  · rw [hr] at h0; subst h0; simp at hc
  · have hi' := hi
    rw [hr] at hi'
    have hin : i < n := by have := List.all_eq_true.1 hc.2 i hi'; simpa [Nat.blt_eq] using this
    obtain ⟨o, ho, hfl, hs⟩ := h.mem i hi' ok (inv.set hi hin) a w1 e hw ha
    exact ⟨hin, o, ho, .inr ⟨hfl, hs⟩⟩
theorem WI.put {i : Nat} {R : Value → World → Prop} (ho : ops[i]? = some ⟨some d, op, ty, pos, af, none⟩) (hf : fl i = false) (hd : Nat.blt d N = true) (hr : Eff P N w ⟨some d, op, ty, pos, af, none⟩ L R) (hD : ∀ v w', R v w' → D w')
    (hk : ∀ v w', R v w' → WA P N ops fl D n g K f (listed.setIfInBounds i true) ((d, v) :: L) w') : WI P N ops fl D n g K f listed L w i := fun ok inv a w1 e hw ha => by
  refine ⟨_, ho, hf, ?_⟩
  unfold sRun
  rw [if_pos (by simp [Region.wanted])]
  obtain ⟨v, w', h, hR⟩ := hr a w1 e ha
  rw [h]
  exact ⟨hD v w' hR, hk v w' hR ok inv _ w' (Eqv.refl _) (hD v w' hR) (ha.put hd v)⟩
theorem WI.eff {i : Nat} {R : World → Prop} (ho : ops[i]? = some ⟨none, op, ty, pos, af, none⟩) (hf : fl i = false) (hr : Ef0 P N w ⟨none, op, ty, pos, af, none⟩ L R) (hD : ∀ w', R w' → D w')
    (hk : ∀ w', R w' → WA P N ops fl D n g K f (listed.setIfInBounds i true) L w') : WI P N ops fl D n g K f listed L w i := fun ok inv a w1 e hw ha => by
  refine ⟨_, ho, hf, ?_⟩
  unfold sRun
  rw [if_pos (by simp [Region.wanted])]
  obtain ⟨w', h, hR⟩ := hr a w1 e ha
  rw [h]
  exact ⟨hD w' hR, hk w' hR ok inv _ w' (Eqv.refl _) (hD w' hR) ha⟩
theorem WI.call {i : Nat} {R : Value → World → Prop} {fn : FuncId} {as_ : List Operand} {ts : Array TypeId} {vs : List Value} (ho : ops[i]? = some ⟨some d, .call ⟨.value (.func fn), ⟨as_⟩, ts⟩, ty, pos, af, gd⟩) (hf : fl i = false) (hg : Wants N ops L gd) (hd : Nat.blt d N = true) (hv : opvs L as_ = some vs) (hc : Fn P fn ⟨vs⟩ w R) (hD : ∀ v w', R v w' → ∀ w2, Eqv w' w2 → D w2)
    (hk : ∀ v w', R v w' → WA P N ops fl D n g K f (listed.setIfInBounds i true) ((d, v) :: L) w') : WI P N ops fl D n g K f listed L w i := fun ok inv a w1 e hw ha => by
  refine ⟨_, ho, hf, ?_⟩
  unfold sRun
  rw [if_pos (Wants.wanted (o := ⟨some d, .call ⟨.value (.func fn), ⟨as_⟩, ts⟩, ty, pos, af, gd⟩) hg ha), run_enter ha hv hc.1]
  refine (hc.2 w1 e).mono ?_
  rintro en w' ⟨v, w0, rfl, h0, hR⟩
  exact ⟨v, rfl, hD v w0 hR w' h0, hk v w0 hR ok inv _ w' h0 (hD v w0 hR w' h0) (ha.put hd v)⟩
end
end Go.Proofs.YtcfljnfaakjdjaaDoor
 /- Printed by a program (wip/vg): elements of several cells. -/
namespace Go.Proofs.YtcfljnfaakjdjaaDoor
open Go Go.RowKit
def enc24 (x : List UInt8 × List UInt8) : List Value := [vs x.1, vs x.2]
theorem enc24_ok : OneK 2 enc24 := ⟨by omega, fun _ => rfl, fun _ => (all1c rfl (all1c rfl all1n))⟩
theorem ow33 : ckOwK Tryd.prog 33 39 32 32 = true := by kernel_rfl
theorem ow34 : ckOwK Tryd.prog 34 38 32 32 = true := by kernel_rfl
theorem ow53 : ckOwK Tryd.prog 53 24 2 32 = true := by kernel_rfl
end Go.Proofs.YtcfljnfaakjdjaaDoor
 /- Printed by a program (wip/vg): what the functions mean, plainly, and their walks. -/
namespace Go.Proofs.YtcfljnfaakjdjaaDoor
open Go Go.RowKit
attribute [local irreducible] WL WC WX WQ WK WJ Yld Eff Ef0 Fn
def M_key_Parts (tool : Int) (args : List (List UInt8)) (inputs : List (List UInt8)) (K : (List (List UInt8)) → Prop) : Prop :=
 (args.length ≤ maxLen →
 (inputs.length ≤ maxLen →
 M_strconv_Itoa tool (fun (t11 : List UInt8) =>
 M_strconv_Itoa (args.length : Int) (fun (t14 : List UInt8) =>
 (((([([115, 109, 105, 116, 104, 121] : List UInt8), t11, t14] : List (List UInt8))).length + args.length) * 16 ≤ 140737488355328) ∧
 Lp2 (fun (l : List (List UInt8)) (t21 : Int) k_1 => ((t21 < (inputs.length : Int) → (0 ≤ t21 ∧ t21 < (inputs.length : Nat)) ∧
 M_sha_Text (inputs.getD t21.toNat []) (fun (t27 : List UInt8) =>
 ((l.length + (([t27] : List (List UInt8))).length) * 16 ≤ 140737488355328) ∧
 (In .i64 (t21 + (1 : Int))) ∧
 k_1 (l ++ ([t27] : List (List UInt8))) (t21 + (1 : Int)))) ∧
 (¬ (t21 < (inputs.length : Int)) → K l))) (([([115, 109, 105, 116, 104, 121] : List UInt8), t11, t14] : List (List UInt8)) ++ args) (0 : Int)))))

def M_key_Source (text : List UInt8) (K : (List UInt8) → Prop) : Prop :=
 (text.length ≤ maxLen) ∧
 M_sha_Of text (fun (t5 : List UInt8) =>
 K t5)

def M_key_Of (tool : Int) (args : List (List UInt8)) (inputs : List (List UInt8)) (K : (List UInt8) → Prop) : Prop :=
 (args.length ≤ maxLen →
 (inputs.length ≤ maxLen →
 M_key_Parts tool args inputs (fun (t10 : List (List UInt8)) =>
 M_sha_Many t10 (fun (t11 : List UInt8) =>
 K t11))))

def M_smithyref1_table (K : (List Int) → Prop) : Prop :=
 K ([(1116352408 : Int), (1899447441 : Int), (3049323471 : Int), (3921009573 : Int), (961987163 : Int), (1508970993 : Int), (2453635748 : Int), (2870763221 : Int), (3624381080 : Int), (310598401 : Int), (607225278 : Int), (1426881987 : Int), (1925078388 : Int), (2162078206 : Int), (2614888103 : Int), (3248222580 : Int), (3835390401 : Int), (4022224774 : Int), (264347078 : Int), (604807628 : Int), (770255983 : Int), (1249150122 : Int), (1555081692 : Int), (1996064986 : Int), (2554220882 : Int), (2821834349 : Int), (2952996808 : Int), (3210313671 : Int), (3336571891 : Int), (3584528711 : Int), (113926993 : Int), (338241895 : Int), (666307205 : Int), (773529912 : Int), (1294757372 : Int), (1396182291 : Int), (1695183700 : Int), (1986661051 : Int), (2177026350 : Int), (2456956037 : Int), (2730485921 : Int), (2820302411 : Int), (3259730800 : Int), (3345764771 : Int), (3516065817 : Int), (3600352804 : Int), (4094571909 : Int), (275423344 : Int), (430227734 : Int), (506948616 : Int), (659060556 : Int), (883997877 : Int), (958139571 : Int), (1322822218 : Int), (1537002063 : Int), (1747873779 : Int), (1955562222 : Int), (2024104815 : Int), (2227730452 : Int), (2361852424 : Int), (2428436474 : Int), (2756734187 : Int), (3204031479 : Int), (3329325298 : Int)] : List Int)

def M_smithyref1_turn (x : Int) (n : Int) (K : Int → Prop) : Prop :=
 (0 ≤ n) ∧
 (0 ≤ IntKind.wrap .u64 ((32 : Int) - n)) ∧
 K (bits .or .u32 (shrV .u32 x n.toNat) (shlV .u32 x (IntKind.wrap .u64 ((32 : Int) - n)).toNat))

def M_smithyref1_Sum (s : List UInt8) (K : (List UInt8) → Prop) : Prop :=
 M_smithyref1_table (fun (k : List Int) =>
 (In .i64 ((s.length : Int) + (72 : Int))) ∧
 (0 ≤ (s.length : Int) + (72 : Int) ∧ ((s.length : Int) + (72 : Int)) * 1 ≤ 140737488355328 ∧ (s.length : Int) + (72 : Int) ≤ 140737488355328) ∧
 (((([] : List UInt8)).length + s.length) * 1 ≤ 140737488355328) ∧
 (((([] : List UInt8) ++ s).length + (([128] : List UInt8)).length) * 1 ≤ 140737488355328) ∧
 Lp1 (fun (m : List UInt8) k_1 => (0 ≤ (m.length : Int) ∧ 0 < (64 : Int)) ∧
 ((¬ (((m.length : Int) % (64 : Int)) = (56 : Int)) → ((m.length + (([0] : List UInt8)).length) * 1 ≤ 140737488355328) ∧
 k_1 (m ++ ([0] : List UInt8))) ∧
 (((m.length : Int) % (64 : Int)) = (56 : Int) → Lp2 (fun (m2 : List UInt8) (i : Int) k_2 => (((0 : Int) ≤ i → (In .i64 ((8 : Int) * i)) ∧
 (0 ≤ IntKind.wrap .u64 ((8 : Int) * i)) ∧
 (0 ≤ IntKind.wrap .u8 (shrV .u64 (IntKind.wrap .u64 ((IntKind.wrap .u64 (s.length : Int)) * (8 : Int))) (IntKind.wrap .u64 ((8 : Int) * i)).toNat) ∧ IntKind.wrap .u8 (shrV .u64 (IntKind.wrap .u64 ((IntKind.wrap .u64 (s.length : Int)) * (8 : Int))) (IntKind.wrap .u64 ((8 : Int) * i)).toNat) ≤ 255) ∧
 ((m2.length + (([UInt8.ofNat (IntKind.wrap .u8 (shrV .u64 (IntKind.wrap .u64 ((IntKind.wrap .u64 (s.length : Int)) * (8 : Int))) (IntKind.wrap .u64 ((8 : Int) * i)).toNat)).toNat] : List UInt8)).length) * 1 ≤ 140737488355328) ∧
 (In .i64 (i - (1 : Int))) ∧
 k_2 (m2 ++ ([UInt8.ofNat (IntKind.wrap .u8 (shrV .u64 (IntKind.wrap .u64 ((IntKind.wrap .u64 (s.length : Int)) * (8 : Int))) (IntKind.wrap .u64 ((8 : Int) * i)).toNat)).toNat] : List UInt8)) (i - (1 : Int))) ∧
 (¬ ((0 : Int) ≤ i) → Lp2 (fun (at_ : Int) (h : List Int) k_3 => 8 = h.length → ((at_ < (m2.length : Int) → (0 ≤ (64 : Int) ∧ (64 : Int) * 4 ≤ 140737488355328 ∧ (64 : Int) ≤ 140737488355328) ∧
 Lp2 (fun (i2 : Int) (w_ : List Int) k_4 => 64 = w_.length → ((i2 < (16 : Int) → (In .i64 ((4 : Int) * i2)) ∧
 (In .i64 (at_ + ((4 : Int) * i2))) ∧
 (0 ≤ at_ + ((4 : Int) * i2) ∧ at_ + ((4 : Int) * i2) < (m2.length : Nat)) ∧
 (In .i64 ((4 : Int) * i2)) ∧
 (In .i64 (at_ + ((4 : Int) * i2))) ∧
 (In .i64 ((at_ + ((4 : Int) * i2)) + (1 : Int))) ∧
 (0 ≤ (at_ + ((4 : Int) * i2)) + (1 : Int) ∧ (at_ + ((4 : Int) * i2)) + (1 : Int) < (m2.length : Nat)) ∧
 (In .i64 ((4 : Int) * i2)) ∧
 (In .i64 (at_ + ((4 : Int) * i2))) ∧
 (In .i64 ((at_ + ((4 : Int) * i2)) + (2 : Int))) ∧
 (0 ≤ (at_ + ((4 : Int) * i2)) + (2 : Int) ∧ (at_ + ((4 : Int) * i2)) + (2 : Int) < (m2.length : Nat)) ∧
 (In .i64 ((4 : Int) * i2)) ∧
 (In .i64 (at_ + ((4 : Int) * i2))) ∧
 (In .i64 ((at_ + ((4 : Int) * i2)) + (3 : Int))) ∧
 (0 ≤ (at_ + ((4 : Int) * i2)) + (3 : Int) ∧ (at_ + ((4 : Int) * i2)) + (3 : Int) < (m2.length : Nat)) ∧
 (0 ≤ i2 ∧ i2 < (64 : Nat)) ∧
 (In .i64 (i2 + (1 : Int))) ∧
 k_4 (i2 + (1 : Int)) (w_.set i2.toNat (bits .or .u32 (bits .or .u32 (bits .or .u32 (shlV .u32 ((m2.getD ((at_ + ((4 : Int) * i2)).toNat) 0).toNat : Int) 24) (shlV .u32 ((m2.getD (((at_ + ((4 : Int) * i2)) + (1 : Int)).toNat) 0).toNat : Int) 16)) (shlV .u32 ((m2.getD (((at_ + ((4 : Int) * i2)) + (2 : Int)).toNat) 0).toNat : Int) 8)) ((m2.getD (((at_ + ((4 : Int) * i2)) + (3 : Int)).toNat) 0).toNat : Int)))) ∧
 (¬ (i2 < (16 : Int)) → Lp2 (fun (i3 : Int) (w_2 : List Int) k_5 => 64 = w_2.length → ((i3 < (64 : Int) → (In .i64 (i3 - (15 : Int))) ∧
 (0 ≤ i3 - (15 : Int) ∧ i3 - (15 : Int) < (64 : Nat)) ∧
 M_smithyref1_turn (w_2.getD ((i3 - (15 : Int)).toNat) 0) (7 : Int) (fun (t124 : Int) =>
 (In .i64 (i3 - (15 : Int))) ∧
 (0 ≤ i3 - (15 : Int) ∧ i3 - (15 : Int) < (64 : Nat)) ∧
 M_smithyref1_turn (w_2.getD ((i3 - (15 : Int)).toNat) 0) (18 : Int) (fun (t130 : Int) =>
 (In .i64 (i3 - (15 : Int))) ∧
 (0 ≤ i3 - (15 : Int) ∧ i3 - (15 : Int) < (64 : Nat)) ∧
 (In .i64 (i3 - (2 : Int))) ∧
 (0 ≤ i3 - (2 : Int) ∧ i3 - (2 : Int) < (64 : Nat)) ∧
 M_smithyref1_turn (w_2.getD ((i3 - (2 : Int)).toNat) 0) (17 : Int) (fun (t144 : Int) =>
 (In .i64 (i3 - (2 : Int))) ∧
 (0 ≤ i3 - (2 : Int) ∧ i3 - (2 : Int) < (64 : Nat)) ∧
 M_smithyref1_turn (w_2.getD ((i3 - (2 : Int)).toNat) 0) (19 : Int) (fun (t150 : Int) =>
 (In .i64 (i3 - (2 : Int))) ∧
 (0 ≤ i3 - (2 : Int) ∧ i3 - (2 : Int) < (64 : Nat)) ∧
 (In .i64 (i3 - (16 : Int))) ∧
 (0 ≤ i3 - (16 : Int) ∧ i3 - (16 : Int) < (64 : Nat)) ∧
 (In .i64 (i3 - (7 : Int))) ∧
 (0 ≤ i3 - (7 : Int) ∧ i3 - (7 : Int) < (64 : Nat)) ∧
 (0 ≤ i3 ∧ i3 < (64 : Nat)) ∧
 (In .i64 (i3 + (1 : Int))) ∧
 k_5 (i3 + (1 : Int)) (w_2.set i3.toNat (IntKind.wrap .u32 ((IntKind.wrap .u32 ((IntKind.wrap .u32 ((w_2.getD ((i3 - (16 : Int)).toNat) 0) + (bits .xor .u32 (bits .xor .u32 t124 t130) (shrV .u32 (w_2.getD ((i3 - (15 : Int)).toNat) 0) 3)))) + (w_2.getD ((i3 - (7 : Int)).toNat) 0))) + (bits .xor .u32 (bits .xor .u32 t144 t150) (shrV .u32 (w_2.getD ((i3 - (2 : Int)).toNat) 0) 10)))))))))) ∧
 (¬ (i3 < (64 : Int)) → (0 ≤ (8 : Int) ∧ (8 : Int) * 4 ≤ 140737488355328 ∧ (8 : Int) ≤ 140737488355328) ∧
 (((([] : List Int)).length + h.length) * 4 ≤ 140737488355328) ∧
 Lp2 (fun (v : List Int) (i4 : Int) k_6 => ((i4 < (64 : Int) → (0 ≤ (4 : Int) ∧ (4 : Int) < (v.length : Nat)) ∧
 M_smithyref1_turn (v.getD 4 0) (6 : Int) (fun (t187 : Int) =>
 (0 ≤ (4 : Int) ∧ (4 : Int) < (v.length : Nat)) ∧
 M_smithyref1_turn (v.getD 4 0) (11 : Int) (fun (t191 : Int) =>
 (0 ≤ (4 : Int) ∧ (4 : Int) < (v.length : Nat)) ∧
 M_smithyref1_turn (v.getD 4 0) (25 : Int) (fun (t196 : Int) =>
 (0 ≤ (4 : Int) ∧ (4 : Int) < (v.length : Nat)) ∧
 (0 ≤ (5 : Int) ∧ (5 : Int) < (v.length : Nat)) ∧
 (0 ≤ (4 : Int) ∧ (4 : Int) < (v.length : Nat)) ∧
 (0 ≤ (6 : Int) ∧ (6 : Int) < (v.length : Nat)) ∧
 (0 ≤ (7 : Int) ∧ (7 : Int) < (v.length : Nat)) ∧
 (0 ≤ i4 ∧ i4 < (k.length : Nat)) ∧
 (0 ≤ i4 ∧ i4 < (64 : Nat)) ∧
 (0 ≤ (0 : Int) ∧ (0 : Int) < (v.length : Nat)) ∧
 M_smithyref1_turn (v.getD 0 0) (2 : Int) (fun (t234 : Int) =>
 (0 ≤ (0 : Int) ∧ (0 : Int) < (v.length : Nat)) ∧
 M_smithyref1_turn (v.getD 0 0) (13 : Int) (fun (t238 : Int) =>
 (0 ≤ (0 : Int) ∧ (0 : Int) < (v.length : Nat)) ∧
 M_smithyref1_turn (v.getD 0 0) (22 : Int) (fun (t243 : Int) =>
 (0 ≤ (0 : Int) ∧ (0 : Int) < (v.length : Nat)) ∧
 (0 ≤ (1 : Int) ∧ (1 : Int) < (v.length : Nat)) ∧
 (0 ≤ (0 : Int) ∧ (0 : Int) < (v.length : Nat)) ∧
 (0 ≤ (2 : Int) ∧ (2 : Int) < (v.length : Nat)) ∧
 (0 ≤ (1 : Int) ∧ (1 : Int) < (v.length : Nat)) ∧
 (0 ≤ (2 : Int) ∧ (2 : Int) < (v.length : Nat)) ∧
 (0 ≤ (0 : Int) ∧ (0 : Int) < (v.length : Nat)) ∧
 (0 ≤ (1 : Int) ∧ (1 : Int) < (v.length : Nat)) ∧
 (0 ≤ (2 : Int) ∧ (2 : Int) < (v.length : Nat)) ∧
 (0 ≤ (3 : Int) ∧ (3 : Int) < (v.length : Nat)) ∧
 (0 ≤ (4 : Int) ∧ (4 : Int) < (v.length : Nat)) ∧
 (0 ≤ (5 : Int) ∧ (5 : Int) < (v.length : Nat)) ∧
 (0 ≤ (6 : Int) ∧ (6 : Int) < (v.length : Nat)) ∧
 (In .i64 (i4 + (1 : Int))) ∧
 k_6 ([IntKind.wrap .u32 ((IntKind.wrap .u32 ((IntKind.wrap .u32 ((IntKind.wrap .u32 ((IntKind.wrap .u32 ((IntKind.wrap .u32 ((v.getD 7 0) + (bits .xor .u32 (bits .xor .u32 t187 t191) t196))) + (bits .xor .u32 (bits .and .u32 (v.getD 4 0) (v.getD 5 0)) (bits .and .u32 (bits .xor .u32 (if IntKind.signed .u32 then -1 else IntKind.max .u32) (v.getD 4 0)) (v.getD 6 0))))) + (k.getD i4.toNat 0))) + (w_2.getD i4.toNat 0))) + (bits .xor .u32 (bits .xor .u32 t234 t238) t243))) + (bits .xor .u32 (bits .xor .u32 (bits .and .u32 (v.getD 0 0) (v.getD 1 0)) (bits .and .u32 (v.getD 0 0) (v.getD 2 0))) (bits .and .u32 (v.getD 1 0) (v.getD 2 0)))), v.getD 0 0, v.getD 1 0, v.getD 2 0, IntKind.wrap .u32 ((v.getD 3 0) + (IntKind.wrap .u32 ((IntKind.wrap .u32 ((IntKind.wrap .u32 ((IntKind.wrap .u32 ((v.getD 7 0) + (bits .xor .u32 (bits .xor .u32 t187 t191) t196))) + (bits .xor .u32 (bits .and .u32 (v.getD 4 0) (v.getD 5 0)) (bits .and .u32 (bits .xor .u32 (if IntKind.signed .u32 then -1 else IntKind.max .u32) (v.getD 4 0)) (v.getD 6 0))))) + (k.getD i4.toNat 0))) + (w_2.getD i4.toNat 0)))), v.getD 4 0, v.getD 5 0, v.getD 6 0] : List Int) (i4 + (1 : Int))))))))) ∧
 (¬ (i4 < (64 : Int)) → Lp2 (fun (i5 : Int) (h2 : List Int) k_7 => 8 = h2.length → ((i5 < (8 : Int) → (0 ≤ i5 ∧ i5 < (8 : Nat)) ∧
 (0 ≤ i5 ∧ i5 < (v.length : Nat)) ∧
 (0 ≤ i5 ∧ i5 < (8 : Nat)) ∧
 (In .i64 (i5 + (1 : Int))) ∧
 k_7 (i5 + (1 : Int)) (h2.set i5.toNat (IntKind.wrap .u32 ((h2.getD i5.toNat 0) + (v.getD i5.toNat 0))))) ∧
 (¬ (i5 < (8 : Int)) → (In .i64 (at_ + (64 : Int))) ∧
 k_3 (at_ + (64 : Int)) h2))) (0 : Int) h))) (([] : List Int) ++ h) (0 : Int)))) (16 : Int) w_))) (0 : Int) (List.replicate 64 0)) ∧
 (¬ (at_ < (m2.length : Int)) → Lp2 (fun (i6 : Int) (out0 : List UInt8) k_8 => ((i6 < (8 : Int) → Lp2 (fun (j : Int) (out02 : List UInt8) k_9 => ((j < (4 : Int) → (In .i64 ((4 : Int) * i6)) ∧
 (In .i64 (((4 : Int) * i6) + j)) ∧
 (0 ≤ i6 ∧ i6 < (8 : Nat)) ∧
 (In .i64 ((8 : Int) * j)) ∧
 (In .i64 ((24 : Int) - ((8 : Int) * j))) ∧
 (0 ≤ IntKind.wrap .u64 ((24 : Int) - ((8 : Int) * j))) ∧
 (0 ≤ ((4 : Int) * i6) + j ∧ ((4 : Int) * i6) + j < 32) ∧
 (0 ≤ IntKind.wrap .u8 (shrV .u32 (h.getD i6.toNat 0) (IntKind.wrap .u64 ((24 : Int) - ((8 : Int) * j))).toNat) ∧ IntKind.wrap .u8 (shrV .u32 (h.getD i6.toNat 0) (IntKind.wrap .u64 ((24 : Int) - ((8 : Int) * j))).toNat) ≤ 255) ∧
 (out02.length = 32) ∧
 (In .i64 (j + (1 : Int))) ∧
 k_9 (j + (1 : Int)) (out02.set ((((4 : Int) * i6) + j).toNat) (UInt8.ofNat (IntKind.wrap .u8 (shrV .u32 (h.getD i6.toNat 0) (IntKind.wrap .u64 ((24 : Int) - ((8 : Int) * j))).toNat)).toNat))) ∧
 (¬ (j < (4 : Int)) → (In .i64 (i6 + (1 : Int))) ∧
 k_8 (i6 + (1 : Int)) out02))) (0 : Int) out0) ∧
 (¬ (i6 < (8 : Int)) → K out0))) (0 : Int) (List.replicate 32 0 : List UInt8)))) (0 : Int) ([(1779033703 : Int), (3144134277 : Int), (1013904242 : Int), (2773480762 : Int), (1359893119 : Int), (2600822924 : Int), (528734635 : Int), (1541459225 : Int)] : List Int)))) m (7 : Int)))) ((([] : List UInt8) ++ s) ++ ([128] : List UInt8)))

def M_smithyref1_Many (l : List (List UInt8)) (K : (List UInt8) → Prop) : Prop :=
 (l.length ≤ maxLen →
 Lp2 (fun (m : List UInt8) (i : Int) k_1 => ((i < (l.length : Int) → (0 ≤ i ∧ i < (l.length : Nat)) ∧
 (0 ≤ IntKind.wrap .u8 (shrV .i64 ((l.getD i.toNat []).length : Int) 24) ∧ IntKind.wrap .u8 (shrV .i64 ((l.getD i.toNat []).length : Int) 24) ≤ 255) ∧
 (0 ≤ IntKind.wrap .u8 (shrV .i64 ((l.getD i.toNat []).length : Int) 16) ∧ IntKind.wrap .u8 (shrV .i64 ((l.getD i.toNat []).length : Int) 16) ≤ 255) ∧
 (0 ≤ IntKind.wrap .u8 (shrV .i64 ((l.getD i.toNat []).length : Int) 8) ∧ IntKind.wrap .u8 (shrV .i64 ((l.getD i.toNat []).length : Int) 8) ≤ 255) ∧
 (0 ≤ IntKind.wrap .u8 ((l.getD i.toNat []).length : Int) ∧ IntKind.wrap .u8 ((l.getD i.toNat []).length : Int) ≤ 255) ∧
 ((m.length + (([UInt8.ofNat (IntKind.wrap .u8 (shrV .i64 ((l.getD i.toNat []).length : Int) 24)).toNat, UInt8.ofNat (IntKind.wrap .u8 (shrV .i64 ((l.getD i.toNat []).length : Int) 16)).toNat, UInt8.ofNat (IntKind.wrap .u8 (shrV .i64 ((l.getD i.toNat []).length : Int) 8)).toNat, UInt8.ofNat (IntKind.wrap .u8 ((l.getD i.toNat []).length : Int)).toNat] : List UInt8)).length) * 1 ≤ 140737488355328) ∧
 (0 ≤ i ∧ i < (l.length : Nat)) ∧
 (((m ++ ([UInt8.ofNat (IntKind.wrap .u8 (shrV .i64 ((l.getD i.toNat []).length : Int) 24)).toNat, UInt8.ofNat (IntKind.wrap .u8 (shrV .i64 ((l.getD i.toNat []).length : Int) 16)).toNat, UInt8.ofNat (IntKind.wrap .u8 (shrV .i64 ((l.getD i.toNat []).length : Int) 8)).toNat, UInt8.ofNat (IntKind.wrap .u8 ((l.getD i.toNat []).length : Int)).toNat] : List UInt8)).length + (l.getD i.toNat []).length) * 1 ≤ 140737488355328) ∧
 (In .i64 (i + (1 : Int))) ∧
 k_1 ((m ++ ([UInt8.ofNat (IntKind.wrap .u8 (shrV .i64 ((l.getD i.toNat []).length : Int) 24)).toNat, UInt8.ofNat (IntKind.wrap .u8 (shrV .i64 ((l.getD i.toNat []).length : Int) 16)).toNat, UInt8.ofNat (IntKind.wrap .u8 (shrV .i64 ((l.getD i.toNat []).length : Int) 8)).toNat, UInt8.ofNat (IntKind.wrap .u8 ((l.getD i.toNat []).length : Int)).toNat] : List UInt8)) ++ (l.getD i.toNat [])) (i + (1 : Int))) ∧
 (¬ (i < (l.length : Int)) → M_smithyref1_Sum m (fun (t39 : List UInt8) =>
 K t39)))) [] (0 : Int))

def M_smithyref1_Hex (s : List UInt8) (K : (List UInt8) → Prop) : Prop :=
 (0 ≤ (64 : Int) ∧ (64 : Int) * 1 ≤ 140737488355328 ∧ (64 : Int) ≤ 140737488355328) ∧
 Lp2 (fun (out : List UInt8) (i : Int) k_1 => ((i < (32 : Int) → (0 ≤ i ∧ i < 32) ∧
 (0 ≤ shrV .u8 ((s.getD i.toNat 0).toNat : Int) 4 ∧ shrV .u8 ((s.getD i.toNat 0).toNat : Int) 4 < ([48, 49, 50, 51, 52, 53, 54, 55, 56, 57, 97, 98, 99, 100, 101, 102] : List UInt8).length) ∧
 (0 ≤ i ∧ i < 32) ∧
 (0 ≤ bits .and .u8 ((s.getD i.toNat 0).toNat : Int) (15 : Int) ∧ bits .and .u8 ((s.getD i.toNat 0).toNat : Int) (15 : Int) < ([48, 49, 50, 51, 52, 53, 54, 55, 56, 57, 97, 98, 99, 100, 101, 102] : List UInt8).length) ∧
 ((out.length + (([([48, 49, 50, 51, 52, 53, 54, 55, 56, 57, 97, 98, 99, 100, 101, 102] : List UInt8).getD (shrV .u8 ((s.getD i.toNat 0).toNat : Int) 4).toNat 0, ([48, 49, 50, 51, 52, 53, 54, 55, 56, 57, 97, 98, 99, 100, 101, 102] : List UInt8).getD (bits .and .u8 ((s.getD i.toNat 0).toNat : Int) (15 : Int)).toNat 0] : List UInt8)).length) * 1 ≤ 140737488355328) ∧
 (In .i64 (i + (1 : Int))) ∧
 k_1 (out ++ ([([48, 49, 50, 51, 52, 53, 54, 55, 56, 57, 97, 98, 99, 100, 101, 102] : List UInt8).getD (shrV .u8 ((s.getD i.toNat 0).toNat : Int) 4).toNat 0, ([48, 49, 50, 51, 52, 53, 54, 55, 56, 57, 97, 98, 99, 100, 101, 102] : List UInt8).getD (bits .and .u8 ((s.getD i.toNat 0).toNat : Int) (15 : Int)).toNat 0] : List UInt8)) (i + (1 : Int))) ∧
 (¬ (i < (32 : Int)) → K out))) ([] : List UInt8) (0 : Int)

def M_smithyref17_SameSum (a : List UInt8) (b : List UInt8) (K : Bool → Prop) : Prop :=
 M_smithyref1_Hex a (fun (t6 : List UInt8) =>
 M_smithyref1_Hex b (fun (t8 : List UInt8) =>
 K (decide (t6 = t8))))

def M_smithyref17_Parts (tool : Int) (args : List (List UInt8)) (inputs : List (List UInt8)) (K : (List (List UInt8)) → Prop) : Prop :=
 (args.length ≤ maxLen →
 (inputs.length ≤ maxLen →
 M_strconv_Itoa tool (fun (t10 : List UInt8) =>
 M_strconv_Itoa (args.length : Int) (fun (t13 : List UInt8) =>
 (((([([115, 109, 105, 116, 104, 121] : List UInt8), t10, t13] : List (List UInt8))).length + args.length) * 16 ≤ 140737488355328) ∧
 Lp2 (fun (l : List (List UInt8)) (i : Int) k_1 => ((i < (inputs.length : Int) → (0 ≤ i ∧ i < (inputs.length : Nat)) ∧
 M_smithyref1_Hex (inputs.getD i.toNat []) (fun (t29 : List UInt8) =>
 ((l.length + (([t29] : List (List UInt8))).length) * 16 ≤ 140737488355328) ∧
 (In .i64 (i + (1 : Int))) ∧
 k_1 (l ++ ([t29] : List (List UInt8))) (i + (1 : Int)))) ∧
 (¬ (i < (inputs.length : Int)) → K l))) (([([115, 109, 105, 116, 104, 121] : List UInt8), t10, t13] : List (List UInt8)) ++ args) (0 : Int)))))

def M_smithyref17_Key (tool : Int) (args : List (List UInt8)) (inputs : List (List UInt8)) (K : (List UInt8) → Prop) : Prop :=
 (args.length ≤ maxLen →
 (inputs.length ≤ maxLen →
 M_smithyref17_Parts tool args inputs (fun (t10 : List (List UInt8)) =>
 M_smithyref1_Many t10 (fun (t11 : List UInt8) =>
 K t11))))

def M_smithylaw24_first (K : Bool → Prop) : Prop :=
 M_key_Of (1 : Int) [] [] (fun (t1 : List UInt8) =>
 M_sha_Many ([([115, 109, 105, 116, 104, 121] : List UInt8), ([49] : List UInt8), ([48] : List UInt8)] : List (List UInt8)) (fun (t3 : List UInt8) =>
 M_smithyref17_SameSum t1 t3 (fun (t0 : Bool) =>
 K t0)))

def M_smithylaw24_sums (l : List (List UInt8)) (K : (List (List UInt8)) → (List (List UInt8)) → Prop) : Prop :=
 (l.length ≤ maxLen →
 Lp3 (fun (a : List (List UInt8)) (b : List (List UInt8)) (i : Int) k_1 => ((i < (l.length : Int) → (0 ≤ i ∧ i < (l.length : Nat)) ∧
 M_key_Source (l.getD i.toNat []) (fun (t18 : List UInt8) =>
 ((a.length + (([t18] : List (List UInt8))).length) * 32 ≤ 140737488355328) ∧
 (0 ≤ i ∧ i < (l.length : Nat)) ∧
 M_smithyref1_Sum (l.getD i.toNat []) (fun (t26 : List UInt8) =>
 ((b.length + (([t26] : List (List UInt8))).length) * 32 ≤ 140737488355328) ∧
 (In .i64 (i + (1 : Int))) ∧
 k_1 (a ++ ([t18] : List (List UInt8))) (b ++ ([t26] : List (List UInt8))) (i + (1 : Int))))) ∧
 (¬ (i < (l.length : Int)) → K a b))) [] [] (0 : Int))

def M_smithylaw24_KeySays (tool : Int) (args : List (List UInt8)) (inputs : List (List UInt8)) (K : Bool → Prop) : Prop :=
 (args.length ≤ maxLen →
 (inputs.length ≤ maxLen →
 M_smithylaw24_first (fun (ok : Bool) =>
 (((!ok) = true → K false) ∧
 ((!ok) = false → M_smithyworld_Texts args (8 : Int) (100 : Int) (fun (t15 : Bool) =>
 ∃ J1 : Bool → Prop, ((((!t15) = true → J1 true) ∧
 ((!t15) = false → M_smithyworld_Texts inputs (8 : Int) (200 : Int) (fun (t19 : Bool) =>
 J1 (!t19))))) ∧
 (∀ q1 : Bool, J1 q1 → (((q1 || (!ok)) = true → K ok) ∧
 ((q1 || (!ok)) = false → M_smithylaw24_sums inputs (fun (t290 : List (List UInt8)) (t291 : List (List UInt8)) =>
 Lp1 (fun (i : Int) k_1 => ((i < (t290.length : Int) → (0 ≤ i ∧ i < (t290.length : Nat)) ∧
 (0 ≤ i ∧ i < (t291.length : Nat)) ∧
 M_smithyref17_SameSum (t290.getD i.toNat []) (t291.getD i.toNat []) (fun (t46 : Bool) =>
 (((!t46) = true → K false) ∧
 ((!t46) = false → (In .i64 (i + (1 : Int))) ∧
 k_1 (i + (1 : Int)))))) ∧
 (¬ (i < (t290.length : Int)) → M_key_Parts tool args t290 (fun (t51 : List (List UInt8)) =>
 M_smithyref17_Parts tool args t291 (fun (t55 : List (List UInt8)) =>
 M_smithyref_SameTexts t51 t55 (fun (t56 : Bool) =>
 ∃ J2 : Bool → Prop, (((t56 = true → M_key_Of tool args t290 (fun (t61 : List UInt8) =>
 M_smithyref17_Key tool args t291 (fun (t65 : List UInt8) =>
 M_smithyref17_SameSum t61 t65 (fun (t66 : Bool) =>
 J2 t66)))) ∧
 (t56 = false → J2 false))) ∧
 (∀ q3 : Bool, J2 q3 → K q3))))))) (0 : Int)))))))))))

def M_smithylaw24_KeyUnlike (t : Int) (u : Int) (a : List (List UInt8)) (b : List (List UInt8)) (c : List (List UInt8)) (d : List (List UInt8)) (K : Bool → Prop) : Prop :=
 (a.length ≤ maxLen →
 (b.length ≤ maxLen →
 (c.length ≤ maxLen →
 (d.length ≤ maxLen →
 M_smithylaw24_first (fun (ok : Bool) =>
 (((!ok) = true → K false) ∧
 ((!ok) = false → M_smithyworld_Texts a (6 : Int) (80 : Int) (fun (t28 : Bool) =>
 ∃ J1 : Bool → Prop, ((((!t28) = true → J1 true) ∧
 ((!t28) = false → M_smithyworld_Texts b (6 : Int) (80 : Int) (fun (t32 : Bool) =>
 J1 (!t32))))) ∧
 (∀ q1 : Bool, J1 q1 → ∃ J2 : Bool → Prop, (((q1 = true → J2 true) ∧
 (q1 = false → M_smithyworld_Texts c (6 : Int) (80 : Int) (fun (t37 : Bool) =>
 J2 (!t37))))) ∧
 (∀ q2 : Bool, J2 q2 → ∃ J3 : Bool → Prop, (((q2 = true → J3 true) ∧
 (q2 = false → M_smithyworld_Texts d (6 : Int) (80 : Int) (fun (t42 : Bool) =>
 J3 (!t42))))) ∧
 (∀ q3 : Bool, J3 q3 → (((q3 || (!ok)) = true → K ok) ∧
 ((q3 || (!ok)) = false → M_smithylaw24_sums c (fun (t520 : List (List UInt8)) (t521 : List (List UInt8)) =>
 M_smithylaw24_sums d (fun (t570 : List (List UInt8)) (t571 : List (List UInt8)) =>
 Lp2 (fun (p : List (List UInt8)) (i : Int) k_1 => ((i < (t520.length : Int) → (0 ≤ i ∧ i < (t520.length : Nat)) ∧
 M_sha_Text (t520.getD i.toNat []) (fun (t71 : List UInt8) =>
 ((p.length + (([t71] : List (List UInt8))).length) * 16 ≤ 140737488355328) ∧
 (In .i64 (i + (1 : Int))) ∧
 k_1 (p ++ ([t71] : List (List UInt8))) (i + (1 : Int)))) ∧
 (¬ (i < (t520.length : Int)) → Lp2 (fun (q : List (List UInt8)) (i2 : Int) k_2 => ((i2 < (t570.length : Int) → (0 ≤ i2 ∧ i2 < (t570.length : Nat)) ∧
 M_sha_Text (t570.getD i2.toNat []) (fun (t85 : List UInt8) =>
 ((q.length + (([t85] : List (List UInt8))).length) * 16 ≤ 140737488355328) ∧
 (In .i64 (i2 + (1 : Int))) ∧
 k_2 (q ++ ([t85] : List (List UInt8))) (i2 + (1 : Int)))) ∧
 (¬ (i2 < (t570.length : Int)) → ∃ J4 : Bool → Prop, ((((decide (t = u)) = true → M_smithyref_SameTexts a b (fun (t94 : Bool) =>
 J4 t94)) ∧
 ((decide (t = u)) = false → J4 false))) ∧
 (∀ q5 : Bool, J4 q5 → ∃ J5 : Bool → Prop, (((q5 = true → M_smithyref_SameTexts p q (fun (t99 : Bool) =>
 J5 t99)) ∧
 (q5 = false → J5 false))) ∧
 (∀ q6 : Bool, J5 q6 → M_key_Parts t a t520 (fun (t104 : List (List UInt8)) =>
 M_key_Parts u b t570 (fun (t108 : List (List UInt8)) =>
 M_smithyref_SameTexts t104 t108 (fun (parts : Bool) =>
 ∃ J6 : Bool → Prop, ((((parts == q6) = true → (((!q6) = true → J6 true) ∧
 ((!q6) = false → M_key_Of t a t520 (fun (t120 : List UInt8) =>
 M_key_Of u b t570 (fun (t124 : List UInt8) =>
 M_smithyref17_SameSum t120 t124 (fun (t125 : Bool) =>
 J6 t125)))))) ∧
 ((parts == q6) = false → J6 false))) ∧
 (∀ q7 : Bool, J6 q7 → K q7))))))))) [] (0 : Int)))) [] (0 : Int))))))))))))))))

def M_smithylaw24_KeyParts (tool : Int) (args : List (List UInt8)) (inputs : List (List UInt8)) (K : Bool → Prop) : Prop :=
 (args.length ≤ maxLen →
 (inputs.length ≤ maxLen →
 M_smithylaw24_first (fun (ok : Bool) =>
 (((!ok) = true → K false) ∧
 ((!ok) = false → M_smithyworld_Texts args (8 : Int) (100 : Int) (fun (t16 : Bool) =>
 ∃ J1 : Bool → Prop, ((((!t16) = true → J1 true) ∧
 ((!t16) = false → M_smithyworld_Texts inputs (8 : Int) (100 : Int) (fun (t20 : Bool) =>
 J1 (!t20))))) ∧
 (∀ q1 : Bool, J1 q1 → (((q1 || (!ok)) = true → K ok) ∧
 ((q1 || (!ok)) = false → M_smithylaw24_sums inputs (fun (t300 : List (List UInt8)) (t301 : List (List UInt8)) =>
 M_key_Parts tool args t300 (fun (p : List (List UInt8)) =>
 (In .i64 ((3 : Int) + (args.length : Int))) ∧
 (In .i64 (((3 : Int) + (args.length : Int)) + (inputs.length : Int))) ∧
 ((!decide ((p.length : Int) = (((3 : Int) + (args.length : Int)) + (inputs.length : Int)))) = false → (0 ≤ (0 : Int) ∧ (0 : Int) < (p.length : Nat))) ∧
 (((!decide ((p.length : Int) = (((3 : Int) + (args.length : Int)) + (inputs.length : Int)))) || (!decide ((p.getD 0 []) = ([115, 109, 105, 116, 104, 121] : List UInt8)))) = false → (0 ≤ (2 : Int) ∧ (2 : Int) < (p.length : Nat))) ∧
 (((!decide ((p.length : Int) = (((3 : Int) + (args.length : Int)) + (inputs.length : Int)))) || (!decide ((p.getD 0 []) = ([115, 109, 105, 116, 104, 121] : List UInt8)))) = false → (In .i64 ((args.length : Int) + (1 : Int)))) ∧
 (((!decide ((p.length : Int) = (((3 : Int) + (args.length : Int)) + (inputs.length : Int)))) || (!decide ((p.getD 0 []) = ([115, 109, 105, 116, 104, 121] : List UInt8)))) = false → (0 ≤ (args.length : Int) ∧ (args.length : Int) ≤ (args.length : Int) + (1 : Int) ∧ (args.length : Int) + (1 : Int) ≤ ([48, 49, 50, 51, 52, 53, 54, 55, 56] : List UInt8).length)) ∧
 ∃ J2 : Bool → Prop, ((((((!decide ((p.length : Int) = (((3 : Int) + (args.length : Int)) + (inputs.length : Int)))) || (!decide ((p.getD 0 []) = ([115, 109, 105, 116, 104, 121] : List UInt8)))) || (!decide ((p.getD 2 []) = ((([48, 49, 50, 51, 52, 53, 54, 55, 56] : List UInt8).drop (args.length : Int).toNat).take (((args.length : Int) + (1 : Int)).toNat - (args.length : Int).toNat))))) = true → J2 true) ∧
 ((((!decide ((p.length : Int) = (((3 : Int) + (args.length : Int)) + (inputs.length : Int)))) || (!decide ((p.getD 0 []) = ([115, 109, 105, 116, 104, 121] : List UInt8)))) || (!decide ((p.getD 2 []) = ((([48, 49, 50, 51, 52, 53, 54, 55, 56] : List UInt8).drop (args.length : Int).toNat).take (((args.length : Int) + (1 : Int)).toNat - (args.length : Int).toNat))))) = false → (In .i64 ((3 : Int) + (args.length : Int))) ∧
 (0 ≤ (3 : Int) ∧ (3 : Int) ≤ (3 : Int) + (args.length : Int) ∧ (3 : Int) + (args.length : Int) ≤ (p.length : Nat)) ∧
 M_smithyref_SameTexts ((p.drop 3).take (((3 : Int) + (args.length : Int)).toNat - 3)) args (fun (t71 : Bool) =>
 J2 (!t71))))) ∧
 (∀ q5 : Bool, J2 q5 → ((q5 = true → K false) ∧
 (q5 = false → (In .i64 ((3 : Int) + (args.length : Int))) ∧
 Lp1 (fun (i : Int) k_1 => ((i < (p.length : Int) → (0 ≤ i ∧ i < (p.length : Nat)) ∧
 ((¬ (((p.getD i.toNat []).length : Int) = (64 : Int)) → K false) ∧
 (((p.getD i.toNat []).length : Int) = (64 : Int) → (In .i64 (i + (1 : Int))) ∧
 k_1 (i + (1 : Int))))) ∧
 (¬ (i < (p.length : Int)) → (0 ≤ (0 : Int) ∧ (0 : Int) < (p.length : Nat)) ∧
 M_key_Parts tool args t300 (fun (t94 : List (List UInt8)) =>
 (0 ≤ (0 : Int) ∧ (0 : Int) < (t94.length : Nat)) ∧
 K (decide ((t94.getD 0 []) = ([115, 109, 105, 116, 104, 121] : List UInt8))))))) ((3 : Int) + (args.length : Int))))))))))))))))

set_option maxHeartbeats 8000000 in
theorem W_key_Parts {S : List Nat} {w : World} {tool : Int} {args : List (List UInt8)} {A_args : Option Addr} {c_args : Nat} {inputs : List (List UInt8)} {A_inputs : Option Addr} {c_inputs : Nat} {n_args : Nat} {n_inputs : Nat} {K : (List (List UInt8)) → Prop} (hG : GOK S w) (hS101 : 101 ∈ S) (hargs : Rd vs w A_args c_args args) (hn_args : n_args = args.length) (hinputs : RdK 32 a32 w A_inputs c_inputs inputs) (hn_inputs : n_inputs = inputs.length) (H : M_key_Parts tool args inputs K) : Fn Tryd.prog 24 ⟨[.int .i64 tool, .slice A_args n_args c_args, .slice A_inputs n_inputs c_inputs]⟩ w (fun v w' => w.grownBy w' none ∧ ∃ (r : List (List UInt8)), ∃ (A_r : Option Addr), ∃ (c_r : Nat), v = .slice A_r r.length c_r ∧ Own vs w' w.heap.size 9 A_r c_r r ∧ K r) := by
  subst hn_args
  subst hn_inputs
  unfold M_key_Parts at H
  refine Fn.enter (by kernel_rfl) Tryd.func24 rfl Tryd.ntmps24 rfl ?_
  replace H := H (Nat.le_trans hargs.cap hargs.max)
  replace H := H (Nat.le_trans hinputs.cap hinputs.max)
  refine WC.seq ?_
  refine WC.region ?_
  refine WL.y rfl (Yld.pure tab_ok rfl) ?_
  refine WL.nil (WX.then_normal ?_)
  refine WC.seq ?_
  refine WC.region ?_
  refine WL.y rfl (Yld.pure tab_ok rfl) ?_
  refine WL.call rfl rfl (W_strconv_Itoa hG hS101 H) ?_
  rintro _ w1 ⟨hg1, t11, rfl, H⟩
  have gr1 := hg1
  refine WL.y rfl (Yld.pure tab_ok rfl) ?_
  refine WL.y rfl (Yld.pure tab_ok rfl) ?_
  refine WL.call rfl rfl (W_strconv_Itoa (hG.grown gr1) hS101 H) ?_
  rintro _ w2 ⟨hg2, t14, rfl, H⟩
  have gr2 := gr_trans gr1 hg2
  refine WL.lit tab_ok rfl rfl rfl (all1c rfl (all1c rfl (all1c rfl all1n))) rfl (by omega) (fun g1 w3 hB1 hg3 hl1 => ?_)
  have hO1 : Own vs w3 w.heap.size 9 (some ⟨g1, 0, none⟩) 3 ([([115, 109, 105, 116, 104, 121] : List UInt8), t11, t14] : List (List UInt8)) := Own.ofBl hB1 (Nat.le_trans (size_le gr2) hl1) (by simp [maxLen]) rfl
  have gr3 := gr_trans gr2 hg3
  refine WL.y rfl (Yld.pure tab_ok rfl) ?_
  refine WL.nil (WX.then_normal ?_)
  refine WC.seq ?_
  refine WC.region ?_
  refine WL.y rfl (Yld.pure tab_ok rfl) ?_
  refine WL.y rfl (Yld.pure tab_ok rfl) ?_
  obtain ⟨h1, H⟩ := H
  refine WL.append tab_ok rfl rfl One.s hO1 rfl rfl (hargs.grown gr3) rfl rfl h1 (applen h1) (size_le gr3) (fun A_l c_l w4 hO2 hg4 hk1 => ?_)
  have gr4 := gr_mod gr3 hg4 hO1.ge'
  refine WL.y rfl (Yld.pure tab_ok rfl) ?_
  refine WL.nil (WX.then_normal ?_)
  refine WC.seq ?_
  refine WC.seq ?_
  refine WC.region ?_
  refine WL.y rfl (Yld.pure tab_ok rfl) ?_
  refine WL.y rfl (Yld.pure tab_ok rfl) ?_
  refine WL.y rfl (Yld.pure tab_ok rfl) ?_
  refine WL.nil (WX.then_normal ?_)
  refine WC.block ?_
  obtain ⟨I1, mu1, h0_1, HR1⟩ := H
  refine WC.loopF (fun n' L' w' => ∃ (l : List (List UInt8)), ∃ (A_l2 : Option Addr), ∃ (c_l2 : Nat), ∃ (n_l : Nat), ∃ (t21 : Int), n' = mu1 l t21 ∧ L' = [(7, .slice A_l2 n_l c_l2), (19, .slice A_inputs inputs.length c_inputs), (20, .int .i64 (inputs.length : Int)), (21, .int .i64 t21)] ∧ I1 l t21 ∧ n_l = l.length ∧ w.grownBy w' none ∧ Own vs w' w.heap.size 9 A_l2 c_l2 l) _ _ ⟨([([115, 109, 105, 116, 104, 121] : List UInt8), t11, t14] : List (List UInt8)) ++ args, A_l, c_l, (([([115, 109, 105, 116, 104, 121] : List UInt8), t11, t14] : List (List UInt8)) ++ args).length, (0 : Int), rfl, rfl, h0_1, rfl, gr4, hO2⟩ (by repeat (first | exact Sub.nil | refine Sub.cons rfl ?_)) ?_
  clear h0_1
  rintro _ _ w5 ⟨l, A_l2, c_l2, n_l, t21, rfl, rfl, hI1, rfl, gr5, k1⟩
  have H := HR1 l t21 hI1
  refine WC.seq ?_
  refine WC.region ?_
  refine WL.y rfl (Yld.pure tab_ok rfl) ?_
  refine WL.nil (WX.then_normal ?_)
  refine WC.seq ?_
  refine WC.cond rfl (fun b1 => ?_) (fun b1 => ?_)
  · replace H := H.1 (of_decide_eq_true b1)
    refine WC.skip (WX.then_normal ?_)
    refine WC.seq ?_
    refine WC.block ?_
    refine WC.seq ?_
    refine WC.region ?_
    obtain ⟨h2, H⟩ := H
    refine WL.y rfl (Yld.iaddrK tab_ok (hinputs.grown gr5) rfl rfl rfl rfl h2.1 h2.2) ?_
    refine WL.y rfl (Yld.iloadK [] tab_ok (hinputs.grown gr5) rfl rfl (iltN h2 rfl)) ?_
    refine WL.alloc rfl zero39 (fun g2 w6 hB2 hg5 hl2 => ?_)
    rw [a32_zero] at hB2
    have gr6 := gr_trans gr5 hg5
    have k2 := k1.grown hg5
    refine WL.storeW (vs := (a32 (inputs.getD t21.toNat []))) tab_ok rfl rfl rfl (all1a (a32_one _) all1n) hB2 rfl rfl (fun w7 hB3 hg6 => ?_)
    have gr7 := gr_mod gr6 hg6 (Ge.le (Ge.box hl2) (size_le gr5))
    have k3 := k2.go hg6 (Dj.new k1.lt' (Ge.box hl2))
    refine WL.nil (WX.then_normal ?_)
    refine WC.region ?_
    refine WL.y rfl (Yld.pure tab_ok rfl) ?_
    refine WL.y rfl (Yld.bagg (vs := (a32 (inputs.getD t21.toNat []))) tab_ok hB3 rfl rfl rfl rfl) ?_
    refine WL.call rfl rfl (W_sha_Text H) ?_
    rintro _ w8 ⟨hg7, t27, rfl, H⟩
    have gr8 := gr_trans gr7 hg7
    have k4 := k3.grown hg7
    refine WL.lit tab_ok rfl rfl rfl (all1c rfl all1n) rfl (by omega) (fun g3 w9 hB4 hg8 hl3 => ?_)
    have hO3 : Own vs w9 w.heap.size 9 (some ⟨g3, 0, none⟩) 1 ([t27] : List (List UInt8)) := Own.ofBl hB4 (Nat.le_trans (size_le gr8) hl3) (by simp [maxLen]) rfl
    have gr9 := gr_trans gr8 hg8
    have k5 := k4.grown hg8
    obtain ⟨h3, H⟩ := H
    refine WL.append tab_ok rfl rfl One.s k5 rfl rfl hO3.rd rfl rfl h3 (applen h3) (size_le gr9) (fun A_l3 c_l3 w10 hO4 hg9 hk2 => ?_)
    have gr10 := gr_mod gr9 hg9 k5.ge'
    refine WL.y rfl (Yld.pure tab_ok rfl) ?_
    refine WL.nil (WX.block_normal (WX.then_normal ?_))
    refine WC.region ?_
    obtain ⟨h4, H⟩ := H
    refine WL.y rfl (Yld.add rfl rfl h4) ?_
    refine WL.y rfl (Yld.pure tab_ok rfl) ?_
    refine WL.nil ?_
    exact WX.roundF _ ⟨l ++ ([t27] : List (List UInt8)), A_l3, c_l3, (l ++ ([t27] : List (List UInt8))).length, t21 + (1 : Int), rfl, rfl, H.1, rfl, gr10, hO4⟩ (by repeat (first | exact Sub.nil | refine Sub.cons rfl ?_)) H.2
  · replace H := H.2 (of_decide_eq_false b1)
    refine WC.exit (WX.then_exit (WX.then_exit (WX.block_same (WX.then_normal ?_))))
    refine WC.seq ?_
    refine WC.region ?_
    refine WL.y rfl (Yld.pure tab_ok rfl) ?_
    refine WL.y rfl (Yld.pure tab_ok rfl) ?_
    refine WL.nil (WX.then_normal ?_)
    refine WC.ret ?_
    exact WX.ret1 rfl rfl ⟨gr5, l, A_l2, c_l2, rfl, k1, H⟩

set_option maxHeartbeats 8000000 in
theorem W_key_Source {w : World} {text : List UInt8} {K : (List UInt8) → Prop} (H : M_key_Source text K) : Fn Tryd.prog 66 ⟨[vs text]⟩ w (fun v w' => w.grownBy w' none ∧ ∃ (r : List UInt8), v = .agg ⟨a32 r⟩ ∧ K r) := by
  unfold M_key_Source at H
  refine Fn.enter (by kernel_rfl) Tryd.func66 rfl Tryd.ntmps66 rfl ?_
  refine WC.seq ?_
  refine WC.region ?_
  refine WL.alloc rfl zero39 (fun g1 w1 hB1 hg1 hl1 => ?_)
  rw [a32_zero] at hB1
  have gr1 := hg1
  refine WL.nil (WX.then_normal ?_)
  refine WC.seq ?_
  refine WC.region ?_
  refine WL.y rfl (Yld.pure tab_ok rfl) ?_
  obtain ⟨h1, H⟩ := H
  refine WL.s2b tab_ok rfl rfl rfl rfl rfl h1 (fun A_t4 c_t4 w2 hR1 hg2 hge1 => ?_)
  have gr2 := gr_trans gr1 hg2
  have k1 := hB1.g0 hg2
  refine WL.call rfl rfl (W_sha_Of hR1 rfl H) ?_
  rintro _ w3 ⟨hg3, t5, rfl, H⟩
  have gr3 := gr_trans gr2 hg3
  have k2 := k1.g0 hg3
  refine WL.storeW (vs := (a32 t5)) tab_ok rfl rfl rfl (all1a (a32_one _) all1n) k2 rfl rfl (fun w4 hB2 hg4 => ?_)
  have gr4 := gr_mod gr3 hg4 (Ge.le (Ge.box hl1) (Nat.le_refl _))
  refine WL.nil (WX.then_normal ?_)
  refine WC.ret ?_
  exact WX.retc tab_ok rfl rfl rfl hB2 rfl ⟨gr4, t5, rfl, H⟩

set_option maxHeartbeats 8000000 in
theorem W_key_Of {S : List Nat} {w : World} {tool : Int} {args : List (List UInt8)} {A_args : Option Addr} {c_args : Nat} {inputs : List (List UInt8)} {A_inputs : Option Addr} {c_inputs : Nat} {n_args : Nat} {n_inputs : Nat} {K : (List UInt8) → Prop} (hG : GOK S w) (hS101 : 101 ∈ S) (hargs : Rd vs w A_args c_args args) (hn_args : n_args = args.length) (hinputs : RdK 32 a32 w A_inputs c_inputs inputs) (hn_inputs : n_inputs = inputs.length) (H : M_key_Of tool args inputs K) : Fn Tryd.prog 26 ⟨[.int .i64 tool, .slice A_args n_args c_args, .slice A_inputs n_inputs c_inputs]⟩ w (fun v w' => w.grownBy w' none ∧ ∃ (r : List UInt8), v = .agg ⟨a32 r⟩ ∧ K r) := by
  subst hn_args
  subst hn_inputs
  unfold M_key_Of at H
  refine Fn.enter (by kernel_rfl) Tryd.func26 rfl Tryd.ntmps26 rfl ?_
  replace H := H (Nat.le_trans hargs.cap hargs.max)
  replace H := H (Nat.le_trans hinputs.cap hinputs.max)
  refine WC.seq ?_
  refine WC.region ?_
  refine WL.alloc rfl zero39 (fun g1 w1 hB1 hg1 hl1 => ?_)
  rw [a32_zero] at hB1
  have gr1 := hg1
  refine WL.nil (WX.then_normal ?_)
  refine WC.seq ?_
  refine WC.region ?_
  refine WL.y rfl (Yld.pure tab_ok rfl) ?_
  refine WL.y rfl (Yld.pure tab_ok rfl) ?_
  refine WL.y rfl (Yld.pure tab_ok rfl) ?_
  refine WL.call rfl rfl (W_key_Parts (hG.grown gr1) hS101 (hargs.grown gr1) rfl (hinputs.grown gr1) rfl H) ?_
  rintro _ w2 ⟨hg2, t10, A_t10, c_t10, rfl, ht10, H⟩
  have hb1 := ht10.ge'
  have k1 := ht10.base (fun g hg => Nat.le_trans (size_le gr1) (hb1 g hg))
  have gr2 := gr_trans gr1 hg2
  have k2 := hB1.g0 hg2
  refine WL.call rfl rfl (W_sha_Many k1.rd rfl H) ?_
  rintro _ w3 ⟨hg3, t11, rfl, H⟩
  have gr3 := gr_trans gr2 hg3
  have k3 := k2.g0 hg3
  refine WL.storeW (vs := (a32 t11)) tab_ok rfl rfl rfl (all1a (a32_one _) all1n) k3 rfl rfl (fun w4 hB2 hg4 => ?_)
  have gr4 := gr_mod gr3 hg4 (Ge.le (Ge.box hl1) (Nat.le_refl _))
  refine WL.nil (WX.then_normal ?_)
  refine WC.ret ?_
  exact WX.retc tab_ok rfl rfl rfl hB2 rfl ⟨gr4, t11, rfl, H⟩

set_option maxHeartbeats 8000000 in
theorem W_smithyref1_table {w : World} {K : (List Int) → Prop} (H : M_smithyref1_table  K) : Fn Tryd.prog 101 ⟨[]⟩ w (fun v w' => w.grownBy w' none ∧ ∃ (r : List Int), ∃ (A_r : Option Addr), ∃ (c_r : Nat), v = .slice A_r r.length c_r ∧ Own vu w' w.heap.size 124 A_r c_r r ∧ K r) := by
  unfold M_smithyref1_table at H
  refine Fn.enter (by kernel_rfl) Tryd.func101 rfl Tryd.ntmps101 rfl ?_
  refine WC.seq ?_
  refine WC.region ?_
  refine WL.y rfl (Yld.pure tab_ok rfl) ?_
  refine WL.nil (WX.then_normal ?_)
  refine WC.seq ?_
  refine WC.region ?_
  refine WL.lit tab_ok rfl rfl rfl (all1c rfl (all1c rfl (all1c rfl (all1c rfl (all1c rfl (all1c rfl (all1c rfl (all1c rfl (all1c rfl (all1c rfl (all1c rfl (all1c rfl (all1c rfl (all1c rfl (all1c rfl (all1c rfl (all1c rfl (all1c rfl (all1c rfl (all1c rfl (all1c rfl (all1c rfl (all1c rfl (all1c rfl (all1c rfl (all1c rfl (all1c rfl (all1c rfl (all1c rfl (all1c rfl (all1c rfl (all1c rfl (all1c rfl (all1c rfl (all1c rfl (all1c rfl (all1c rfl (all1c rfl (all1c rfl (all1c rfl (all1c rfl (all1c rfl (all1c rfl (all1c rfl (all1c rfl (all1c rfl (all1c rfl (all1c rfl (all1c rfl (all1c rfl (all1c rfl (all1c rfl (all1c rfl (all1c rfl (all1c rfl (all1c rfl (all1c rfl (all1c rfl (all1c rfl (all1c rfl (all1c rfl (all1c rfl (all1c rfl (all1c rfl all1n)))))))))))))))))))))))))))))))))))))))))))))))))))))))))))))))) rfl (by omega) (fun g1 w1 hB1 hg1 hl1 => ?_)
  have hO1 : Own vu w1 w.heap.size 124 (some ⟨g1, 0, none⟩) 64 ([(1116352408 : Int), (1899447441 : Int), (3049323471 : Int), (3921009573 : Int), (961987163 : Int), (1508970993 : Int), (2453635748 : Int), (2870763221 : Int), (3624381080 : Int), (310598401 : Int), (607225278 : Int), (1426881987 : Int), (1925078388 : Int), (2162078206 : Int), (2614888103 : Int), (3248222580 : Int), (3835390401 : Int), (4022224774 : Int), (264347078 : Int), (604807628 : Int), (770255983 : Int), (1249150122 : Int), (1555081692 : Int), (1996064986 : Int), (2554220882 : Int), (2821834349 : Int), (2952996808 : Int), (3210313671 : Int), (3336571891 : Int), (3584528711 : Int), (113926993 : Int), (338241895 : Int), (666307205 : Int), (773529912 : Int), (1294757372 : Int), (1396182291 : Int), (1695183700 : Int), (1986661051 : Int), (2177026350 : Int), (2456956037 : Int), (2730485921 : Int), (2820302411 : Int), (3259730800 : Int), (3345764771 : Int), (3516065817 : Int), (3600352804 : Int), (4094571909 : Int), (275423344 : Int), (430227734 : Int), (506948616 : Int), (659060556 : Int), (883997877 : Int), (958139571 : Int), (1322822218 : Int), (1537002063 : Int), (1747873779 : Int), (1955562222 : Int), (2024104815 : Int), (2227730452 : Int), (2361852424 : Int), (2428436474 : Int), (2756734187 : Int), (3204031479 : Int), (3329325298 : Int)] : List Int) := Own.ofBl hB1 (Nat.le_trans (Nat.le_refl _) hl1) (by simp [maxLen]) rfl
  have gr1 := hg1
  refine WL.y rfl (Yld.pure tab_ok rfl) ?_
  refine WL.nil (WX.then_normal ?_)
  refine WC.ret ?_
  exact WX.ret1 rfl rfl ⟨gr1, ([(1116352408 : Int), (1899447441 : Int), (3049323471 : Int), (3921009573 : Int), (961987163 : Int), (1508970993 : Int), (2453635748 : Int), (2870763221 : Int), (3624381080 : Int), (310598401 : Int), (607225278 : Int), (1426881987 : Int), (1925078388 : Int), (2162078206 : Int), (2614888103 : Int), (3248222580 : Int), (3835390401 : Int), (4022224774 : Int), (264347078 : Int), (604807628 : Int), (770255983 : Int), (1249150122 : Int), (1555081692 : Int), (1996064986 : Int), (2554220882 : Int), (2821834349 : Int), (2952996808 : Int), (3210313671 : Int), (3336571891 : Int), (3584528711 : Int), (113926993 : Int), (338241895 : Int), (666307205 : Int), (773529912 : Int), (1294757372 : Int), (1396182291 : Int), (1695183700 : Int), (1986661051 : Int), (2177026350 : Int), (2456956037 : Int), (2730485921 : Int), (2820302411 : Int), (3259730800 : Int), (3345764771 : Int), (3516065817 : Int), (3600352804 : Int), (4094571909 : Int), (275423344 : Int), (430227734 : Int), (506948616 : Int), (659060556 : Int), (883997877 : Int), (958139571 : Int), (1322822218 : Int), (1537002063 : Int), (1747873779 : Int), (1955562222 : Int), (2024104815 : Int), (2227730452 : Int), (2361852424 : Int), (2428436474 : Int), (2756734187 : Int), (3204031479 : Int), (3329325298 : Int)] : List Int), (some ⟨g1, 0, none⟩), 64, rfl, hO1, H⟩

set_option maxHeartbeats 8000000 in
theorem W_smithyref1_turn {w : World} {x : Int} {n : Int} {K : Int → Prop} (H : M_smithyref1_turn x n K) : Fn Tryd.prog 102 ⟨[.int .u32 x, .int .u64 n]⟩ w (fun v w' => w = w' ∧ ∃ (r : Int), v = .int .u32 r ∧ K r) := by
  unfold M_smithyref1_turn at H
  refine Fn.enter (by kernel_rfl) Tryd.func102 rfl Tryd.ntmps102 rfl ?_
  refine WC.seq ?_
  refine WC.region ?_
  refine WL.y rfl (Yld.pure tab_ok rfl) ?_
  refine WL.nil (WX.then_normal ?_)
  refine WC.seq ?_
  refine WC.region ?_
  refine WL.y rfl (Yld.pure tab_ok rfl) ?_
  refine WL.y rfl (Yld.pure tab_ok rfl) ?_
  obtain ⟨h1, H⟩ := H
  refine WL.y rfl (Yld.shr rfl rfl h1) ?_
  refine WL.y rfl (Yld.pure tab_ok rfl) ?_
  refine WL.y rfl (Yld.pure tab_ok rfl) ?_
  refine WL.y rfl (Yld.pure tab_ok rfl) ?_
  obtain ⟨h2, H⟩ := H
  refine WL.y rfl (Yld.shl rfl rfl h2) ?_
  refine WL.y rfl (Yld.pure tab_ok rfl) ?_
  refine WL.y rfl (Yld.pure tab_ok rfl) ?_
  refine WL.nil (WX.then_normal ?_)
  refine WC.ret ?_
  exact WX.ret1 rfl rfl ⟨rfl, bits .or .u32 (shrV .u32 x n.toNat) (shlV .u32 x (IntKind.wrap .u64 ((32 : Int) - n)).toNat), rfl, H⟩

set_option maxHeartbeats 8000000 in
theorem W_smithyref1_Sum {w : World} {s : List UInt8} {K : (List UInt8) → Prop} (H : M_smithyref1_Sum s K) : Fn Tryd.prog 67 ⟨[vs s]⟩ w (fun v w' => w.grownBy w' none ∧ ∃ (r : List UInt8), v = .agg ⟨a32 r⟩ ∧ K r) := by
  unfold M_smithyref1_Sum at H
  refine Fn.enter (by kernel_rfl) Tryd.func67 rfl Tryd.ntmps67 rfl ?_
  refine WC.seq ?_
  refine WC.region ?_
  refine WL.alloc rfl zero38 (fun g1 w1 hB1 hg1 hl1 => ?_)
  rw [a32_zero] at hB1
  have gr1 := hg1
  refine WL.nil (WX.then_normal ?_)
  refine WC.seq ?_
  refine WC.region ?_
  refine WL.call rfl rfl (W_smithyref1_table H) ?_
  rintro _ w2 ⟨hg2, k, A_k, c_k, rfl, hk, H⟩
  have hb1 := hk.ge'
  have k1 := hk.base (fun g hg => Nat.le_trans (size_le gr1) (hb1 g hg))
  have gr2 := gr_trans gr1 hg2
  have k2 := hB1.g0 hg2
  refine WL.y rfl (Yld.pure tab_ok rfl) ?_
  refine WL.nil (WX.then_normal ?_)
  refine WC.seq ?_
  refine WC.region ?_
  refine WL.lit tab_ok rfl rfl rfl (all1c rfl (all1c rfl (all1c rfl (all1c rfl (all1c rfl (all1c rfl (all1c rfl (all1c rfl all1n)))))))) rfl (by omega) (fun g2 w3 hB2 hg3 hl2 => ?_)
  have hO1 : Own vu w3 w.heap.size 124 (some ⟨g2, 0, none⟩) 8 ([(1779033703 : Int), (3144134277 : Int), (1013904242 : Int), (2773480762 : Int), (1359893119 : Int), (2600822924 : Int), (528734635 : Int), (1541459225 : Int)] : List Int) := Own.ofBl hB2 (Nat.le_trans (size_le gr2) hl2) (by simp [maxLen]) rfl
  have gr3 := gr_trans gr2 hg3
  have k3 := k2.g0 hg3
  have k4 := k1.grown hg3
  refine WL.y rfl (Yld.pure tab_ok rfl) ?_
  refine WL.nil (WX.then_normal ?_)
  refine WC.seq ?_
  refine WC.region ?_
  refine WL.y rfl (Yld.pure tab_ok rfl) ?_
  refine WL.y rfl (Yld.pure tab_ok rfl) ?_
  obtain ⟨h1, H⟩ := H
  refine WL.y rfl (Yld.add rfl rfl h1) ?_
  obtain ⟨h2, H⟩ := H
  refine WL.makeCI (f := vb) (B := w.heap.size) tab_ok rfl rfl rfl rfl h2.1 h2.2.1 h2.2.2 (size_le gr3) (fun g3 w4 hO2 hg4 hl3 => ?_)
  have gr4 := gr_trans gr3 hg4
  have k5 := k3.g0 hg4
  have k6 := k4.grown hg4
  have k7 := hO1.grown hg4
  refine WL.y rfl (Yld.pure tab_ok rfl) ?_
  obtain ⟨h3, H⟩ := H
  refine WL.appendS tab_ok rfl rfl rfl hO2 rfl rfl rfl h3 (applen h3) (size_le gr4) (fun A_m c_m w5 hO3 hg5 hk1 => ?_)
  have gr5 := gr_mod gr4 hg5 hO2.ge'
  have k8 := k5.go hg5 (Dj.new k3.lt' (Ge.box hl3))
  have k9 := k6.go hg5 (Dj.new k4.lt' (Ge.box hl3))
  have k10 := k7.go hg5 (Dj.new hO1.lt' (Ge.box hl3))
  refine WL.y rfl (Yld.pure tab_ok rfl) ?_
  refine WL.nil (WX.then_normal ?_)
  refine WC.seq ?_
  refine WC.region ?_
  refine WL.y rfl (Yld.pure tab_ok rfl) ?_
  refine WL.lit tab_ok rfl rfl rfl (all1c rfl all1n) rfl (by omega) (fun g4 w6 hB3 hg6 hl4 => ?_)
  have hO4 : Own vb w6 w.heap.size 5 (some ⟨g4, 0, none⟩) 1 ([128] : List UInt8) := Own.ofBl hB3 (Nat.le_trans (size_le gr5) hl4) (by simp [maxLen]) rfl
  have gr6 := gr_trans gr5 hg6
  have k11 := k8.g0 hg6
  have k12 := k9.grown hg6
  have k13 := k10.grown hg6
  have k14 := hO3.grown hg6
  obtain ⟨h4, H⟩ := H
  refine WL.append tab_ok rfl rfl One.b k14 rfl rfl hO4.rd rfl rfl h4 (applen h4) (size_le gr6) (fun A_m2 c_m2 w7 hO5 hg7 hk2 => ?_)
  have gr7 := gr_mod gr6 hg7 k14.ge'
  have k15 := k11.go hg7 ((Dj.app (Dj.new k3.lt' (Ge.box hl3)).symm k5.lt' hk1).symm)
  have k16 := k12.go hg7 ((Dj.app (Dj.new k4.lt' (Ge.box hl3)).symm k6.lt' hk1).symm)
  have k17 := k13.go hg7 ((Dj.app (Dj.new hO1.lt' (Ge.box hl3)).symm k7.lt' hk1).symm)
  refine WL.y rfl (Yld.pure tab_ok rfl) ?_
  refine WL.nil (WX.then_normal ?_)
  refine WC.seq ?_
  refine WC.block ?_
  obtain ⟨I1, mu1, h0_1, HR1⟩ := H
  refine WC.loopF (fun n' L' w' => ∃ (m : List UInt8), ∃ (A_m3 : Option Addr), ∃ (c_m3 : Nat), ∃ (n_m : Nat), n' = mu1 m ∧ L' = [(0, vs s), (2, .pointer (some ⟨g1, 0, none⟩)), (3, .slice A_k k.length c_k), (4, .slice (some ⟨g2, 0, none⟩) 8 8), (5, .slice A_m3 n_m c_m3)] ∧ I1 m ∧ n_m = m.length ∧ w.grownBy w' none ∧ Bl w' g1 38 (a32 (List.replicate 32 0 : List UInt8)) ∧ Own vu w' w.heap.size 124 A_k c_k k ∧ Own vu w' w.heap.size 124 (some ⟨g2, 0, none⟩) 8 ([(1779033703 : Int), (3144134277 : Int), (1013904242 : Int), (2773480762 : Int), (1359893119 : Int), (2600822924 : Int), (528734635 : Int), (1541459225 : Int)] : List Int) ∧ Own vb w' w.heap.size 5 A_m3 c_m3 m ∧ Dj (some g1) (blk A_k) ∧ Dj (some g1) (blk (some ⟨g2, 0, none⟩)) ∧ Dj (some g1) (blk A_m3) ∧ Dj (blk A_k) (blk (some ⟨g2, 0, none⟩)) ∧ Dj (blk A_k) (blk A_m3) ∧ Dj (blk (some ⟨g2, 0, none⟩)) (blk A_m3)) _ _ ⟨(([] : List UInt8) ++ s) ++ ([128] : List UInt8), A_m2, c_m2, ((([] : List UInt8) ++ s) ++ ([128] : List UInt8)).length, rfl, rfl, h0_1, rfl, gr7, k15, k16, k17, hO5, (Dj.new hB1.lt' hb1), (Dj.new k2.lt' (Ge.box hl2)), (Dj.app (Dj.app (Dj.new k3.lt' (Ge.box hl3)).symm k5.lt' hk1) k11.lt' hk2).symm, (Dj.new k1.lt' (Ge.box hl2)), (Dj.app (Dj.app (Dj.new k4.lt' (Ge.box hl3)).symm k6.lt' hk1) k12.lt' hk2).symm, (Dj.app (Dj.app (Dj.new hO1.lt' (Ge.box hl3)).symm k7.lt' hk1) k13.lt' hk2).symm⟩ (by repeat (first | exact Sub.nil | refine Sub.cons rfl ?_)) ?_
  clear h0_1
  rintro _ _ w8 ⟨m, A_m3, c_m3, n_m, rfl, rfl, hI1, rfl, gr8, k18, k19, k20, k21, dj1, dj2, dj3, dj4, dj5, dj6⟩
  have H := HR1 m hI1
  refine WC.seq ?_
  refine WC.seq ?_
  refine WC.region ?_
  refine WL.y rfl (Yld.pure tab_ok rfl) ?_
  refine WL.y rfl (Yld.pure tab_ok rfl) ?_
  obtain ⟨h5, H⟩ := H
  refine WL.y rfl (Yld.rem rfl rfl h5.1 h5.2) ?_
  refine WL.y rfl (Yld.pure tab_ok rfl) ?_
  refine WL.nil (WX.then_normal ?_)
  refine WC.cond rfl (fun b1 => ?_) (fun b1 => ?_)
  · replace H := H.1 (nd_true b1)
    refine WC.skip (WX.then_normal ?_)
    refine WC.block ?_
    refine WC.region ?_
    refine WL.y rfl (Yld.pure tab_ok rfl) ?_
    refine WL.lit tab_ok rfl rfl rfl (all1c rfl all1n) rfl (by omega) (fun g5 w9 hB4 hg8 hl5 => ?_)
    have hO6 : Own vb w9 w.heap.size 5 (some ⟨g5, 0, none⟩) 1 ([0] : List UInt8) := Own.ofBl hB4 (Nat.le_trans (size_le gr8) hl5) (by simp [maxLen]) rfl
    have gr9 := gr_trans gr8 hg8
    have k22 := k18.g0 hg8
    have k23 := k19.grown hg8
    have k24 := k20.grown hg8
    have k25 := k21.grown hg8
    obtain ⟨h6, H⟩ := H
    refine WL.append tab_ok rfl rfl One.b k25 rfl rfl hO6.rd rfl rfl h6 (applen h6) (size_le gr9) (fun A_m4 c_m4 w10 hO7 hg9 hk3 => ?_)
    have gr10 := gr_mod gr9 hg9 k25.ge'
    have k26 := k22.go hg9 dj3
    have k27 := k23.go hg9 dj5
    have k28 := k24.go hg9 dj6
    refine WL.y rfl (Yld.pure tab_ok rfl) ?_
    refine WL.nil (WX.block_normal ?_)
    exact WX.roundF _ ⟨m ++ ([0] : List UInt8), A_m4, c_m4, (m ++ ([0] : List UInt8)).length, rfl, rfl, H.1, rfl, gr10, k26, k27, k28, hO7, dj1, dj2, (Dj.app dj3.symm k22.lt' hk3).symm, dj4, (Dj.app dj5.symm k23.lt' hk3).symm, (Dj.app dj6.symm k24.lt' hk3).symm⟩ (by repeat (first | exact Sub.nil | refine Sub.cons rfl ?_)) H.2
  · replace H := H.2 (nd_false b1)
    refine WC.exit (WX.then_exit (WX.then_exit (WX.block_same (WX.then_normal ?_))))
    refine WC.seq ?_
    refine WC.region ?_
    refine WL.y rfl (Yld.pure tab_ok rfl) ?_
    refine WL.y rfl (Yld.pure tab_ok rfl) ?_
    refine WL.y rfl (Yld.pure tab_ok rfl) ?_
    refine WL.y rfl (Yld.pure tab_ok rfl) ?_
    refine WL.y rfl (Yld.pure tab_ok rfl) ?_
    refine WL.nil (WX.then_normal ?_)
    refine WC.seq ?_
    refine WC.seq ?_
    refine WC.region ?_
    refine WL.y rfl (Yld.pure tab_ok rfl) ?_
    refine WL.nil (WX.then_normal ?_)
    refine WC.block ?_
    obtain ⟨I2, mu2, h0_2, HR2⟩ := H
    refine WC.loopF (fun n' L' w' => ∃ (m2 : List UInt8), ∃ (A_m5 : Option Addr), ∃ (c_m5 : Nat), ∃ (n_m2 : Nat), ∃ (i : Int), n' = mu2 m2 i ∧ L' = [(2, .pointer (some ⟨g1, 0, none⟩)), (3, .slice A_k k.length c_k), (4, .slice (some ⟨g2, 0, none⟩) 8 8), (5, .slice A_m5 n_m2 c_m5), (6, .int .u64 (IntKind.wrap .u64 ((IntKind.wrap .u64 (s.length : Int)) * (8 : Int)))), (7, .int .i64 i)] ∧ I2 m2 i ∧ n_m2 = m2.length ∧ w.grownBy w' none ∧ Bl w' g1 38 (a32 (List.replicate 32 0 : List UInt8)) ∧ Own vu w' w.heap.size 124 A_k c_k k ∧ Own vu w' w.heap.size 124 (some ⟨g2, 0, none⟩) 8 ([(1779033703 : Int), (3144134277 : Int), (1013904242 : Int), (2773480762 : Int), (1359893119 : Int), (2600822924 : Int), (528734635 : Int), (1541459225 : Int)] : List Int) ∧ Own vb w' w.heap.size 5 A_m5 c_m5 m2 ∧ Dj (some g1) (blk A_k) ∧ Dj (some g1) (blk (some ⟨g2, 0, none⟩)) ∧ Dj (some g1) (blk A_m5) ∧ Dj (blk A_k) (blk (some ⟨g2, 0, none⟩)) ∧ Dj (blk A_k) (blk A_m5) ∧ Dj (blk (some ⟨g2, 0, none⟩)) (blk A_m5)) _ _ ⟨m, A_m3, c_m3, m.length, (7 : Int), rfl, rfl, h0_2, rfl, gr8, k18, k19, k20, k21, dj1, dj2, dj3, dj4, dj5, dj6⟩ (by repeat (first | exact Sub.nil | refine Sub.cons rfl ?_)) ?_
    clear h0_2
    rintro _ _ w11 ⟨m2, A_m5, c_m5, n_m2, i, rfl, rfl, hI2, rfl, gr11, k29, k30, k31, k32, dj7, dj8, dj9, dj10, dj11, dj12⟩
    have H := HR2 m2 i hI2
    refine WC.seq ?_
    refine WC.seq ?_
    refine WC.region ?_
    refine WL.y rfl (Yld.pure tab_ok rfl) ?_
    refine WL.y rfl (Yld.pure tab_ok rfl) ?_
    refine WL.nil (WX.then_normal ?_)
    refine WC.cond rfl (fun b2 => ?_) (fun b2 => ?_)
    · replace H := H.1 (of_decide_eq_true b2)
      refine WC.skip (WX.then_normal ?_)
      refine WC.seq ?_
      refine WC.block ?_
      refine WC.region ?_
      refine WL.y rfl (Yld.pure tab_ok rfl) ?_
      refine WL.y rfl (Yld.pure tab_ok rfl) ?_
      refine WL.y rfl (Yld.pure tab_ok rfl) ?_
      obtain ⟨h7, H⟩ := H
      refine WL.y rfl (Yld.mul rfl rfl h7) ?_
      refine WL.y rfl (Yld.pure tab_ok rfl) ?_
      obtain ⟨h8, H⟩ := H
      refine WL.y rfl (Yld.shr rfl rfl h8) ?_
      refine WL.y rfl (Yld.pure tab_ok rfl) ?_
      obtain ⟨h9, H⟩ := H
      refine WL.lit tab_ok rfl rfl rfl (all1c rfl all1n) rfl (by omega) (fun g6 w12 hB5 hg10 hl6 => ?_)
      replace hB5 : Bl w12 g6 5 (([UInt8.ofNat (IntKind.wrap .u8 (shrV .u64 (IntKind.wrap .u64 ((IntKind.wrap .u64 (s.length : Int)) * (8 : Int))) (IntKind.wrap .u64 ((8 : Int) * i)).toNat)).toNat] : List UInt8).map vb) := Bl.cast (lcons (byte_eq' h9) lnil) hB5
      have hO8 : Own vb w12 w.heap.size 5 (some ⟨g6, 0, none⟩) 1 ([UInt8.ofNat (IntKind.wrap .u8 (shrV .u64 (IntKind.wrap .u64 ((IntKind.wrap .u64 (s.length : Int)) * (8 : Int))) (IntKind.wrap .u64 ((8 : Int) * i)).toNat)).toNat] : List UInt8) := Own.ofBl hB5 (Nat.le_trans (size_le gr11) hl6) (by simp [maxLen]) rfl
      have gr12 := gr_trans gr11 hg10
      have k33 := k29.g0 hg10
      have k34 := k30.grown hg10
      have k35 := k31.grown hg10
      have k36 := k32.grown hg10
      obtain ⟨h10, H⟩ := H
      refine WL.append tab_ok rfl rfl One.b k36 rfl rfl hO8.rd rfl rfl h10 (applen h10) (size_le gr12) (fun A_m6 c_m6 w13 hO9 hg11 hk4 => ?_)
      have gr13 := gr_mod gr12 hg11 k36.ge'
      have k37 := k33.go hg11 dj9
      have k38 := k34.go hg11 dj11
      have k39 := k35.go hg11 dj12
      refine WL.y rfl (Yld.pure tab_ok rfl) ?_
      refine WL.nil (WX.block_normal (WX.then_normal ?_))
      refine WC.region ?_
      refine WL.y rfl (Yld.pure tab_ok rfl) ?_
      obtain ⟨h11, H⟩ := H
      refine WL.y rfl (Yld.sub rfl rfl h11) ?_
      refine WL.y rfl (Yld.pure tab_ok rfl) ?_
      refine WL.nil ?_
      exact WX.roundF _ ⟨m2 ++ ([UInt8.ofNat (IntKind.wrap .u8 (shrV .u64 (IntKind.wrap .u64 ((IntKind.wrap .u64 (s.length : Int)) * (8 : Int))) (IntKind.wrap .u64 ((8 : Int) * i)).toNat)).toNat] : List UInt8), A_m6, c_m6, (m2 ++ ([UInt8.ofNat (IntKind.wrap .u8 (shrV .u64 (IntKind.wrap .u64 ((IntKind.wrap .u64 (s.length : Int)) * (8 : Int))) (IntKind.wrap .u64 ((8 : Int) * i)).toNat)).toNat] : List UInt8)).length, i - (1 : Int), rfl, rfl, H.1, rfl, gr13, k37, k38, k39, hO9, dj7, dj8, (Dj.app dj9.symm k33.lt' hk4).symm, dj10, (Dj.app dj11.symm k34.lt' hk4).symm, (Dj.app dj12.symm k35.lt' hk4).symm⟩ (by repeat (first | exact Sub.nil | refine Sub.cons rfl ?_)) H.2
    · replace H := H.2 (of_decide_eq_false b2)
      refine WC.exit (WX.then_exit (WX.then_exit (WX.block_same (WX.then_normal ?_))))
      refine WC.seq ?_
      refine WC.seq ?_
      refine WC.region ?_
      refine WL.y rfl (Yld.pure tab_ok rfl) ?_
      refine WL.nil (WX.then_normal ?_)
      refine WC.block ?_
      obtain ⟨I3, mu3, h0_3, HR3⟩ := H
      refine WC.loopF (fun n' L' w' => ∃ (at_ : Int), ∃ (h : List Int), n' = mu3 at_ h ∧ L' = [(2, .pointer (some ⟨g1, 0, none⟩)), (3, .slice A_k k.length c_k), (4, .slice (some ⟨g2, 0, none⟩) 8 8), (5, .slice A_m5 m2.length c_m5), (8, .int .i64 at_)] ∧ I3 at_ h ∧ 8 = h.length ∧ w.grownBy w' none ∧ Bl w' g1 38 (a32 (List.replicate 32 0 : List UInt8)) ∧ Own vu w' w.heap.size 124 A_k c_k k ∧ Own vu w' w.heap.size 124 (some ⟨g2, 0, none⟩) 8 h ∧ Own vb w' w.heap.size 5 A_m5 c_m5 m2 ∧ Dj (some g1) (blk A_k) ∧ Dj (some g1) (blk (some ⟨g2, 0, none⟩)) ∧ Dj (some g1) (blk A_m5) ∧ Dj (blk A_k) (blk (some ⟨g2, 0, none⟩)) ∧ Dj (blk A_k) (blk A_m5) ∧ Dj (blk (some ⟨g2, 0, none⟩)) (blk A_m5)) _ _ ⟨(0 : Int), ([(1779033703 : Int), (3144134277 : Int), (1013904242 : Int), (2773480762 : Int), (1359893119 : Int), (2600822924 : Int), (528734635 : Int), (1541459225 : Int)] : List Int), rfl, rfl, h0_3, rfl, gr11, k29, k30, k31, k32, dj7, dj8, dj9, dj10, dj11, dj12⟩ (by repeat (first | exact Sub.nil | refine Sub.cons rfl ?_)) ?_
      clear h0_3
      rintro _ _ w14 ⟨at_, h, rfl, rfl, hI3, hn_h, gr14, k40, k41, k42, k43, dj13, dj14, dj15, dj16, dj17, dj18⟩
      have H := HR3 at_ h hI3
      replace H := H hn_h
      refine WC.seq ?_
      refine WC.seq ?_
      refine WC.region ?_
      refine WL.y rfl (Yld.pure tab_ok rfl) ?_
      refine WL.y rfl (Yld.pure tab_ok rfl) ?_
      refine WL.y rfl (Yld.pure tab_ok rfl) ?_
      refine WL.y rfl (Yld.pure tab_ok rfl) ?_
      refine WL.nil (WX.then_normal ?_)
      refine WC.cond rfl (fun b3 => ?_) (fun b3 => ?_)
      · replace H := H.1 (of_decide_eq_true b3)
        refine WC.skip (WX.then_normal ?_)
        refine WC.seq ?_
        refine WC.block ?_
        refine WC.seq ?_
        refine WC.region ?_
        obtain ⟨h12, H⟩ := H
        refine WL.makeZI (f := vu) (z := 0) (B := w.heap.size) tab_ok rfl rfl zero124 rfl rfl h12.1 h12.2.1 h12.2.2 (size_le gr14) (fun g7 w15 hO10 hg12 hl7 => ?_)
        have gr15 := gr_trans gr14 hg12
        have k44 := k40.g0 hg12
        have k45 := k41.grown hg12
        have k46 := k42.grown hg12
        have k47 := k43.grown hg12
        refine WL.y rfl (Yld.pure tab_ok rfl) ?_
        refine WL.nil (WX.then_normal ?_)
        refine WC.seq ?_
        refine WC.seq ?_
        refine WC.region ?_
        refine WL.y rfl (Yld.pure tab_ok rfl) ?_
        refine WL.nil (WX.then_normal ?_)
        refine WC.block ?_
        obtain ⟨I4, mu4, h0_4, HR4⟩ := H
        refine WC.loopF (fun n' L' w' => ∃ (i2 : Int), ∃ (w_ : List Int), n' = mu4 i2 w_ ∧ L' = [(2, .pointer (some ⟨g1, 0, none⟩)), (3, .slice A_k k.length c_k), (4, .slice (some ⟨g2, 0, none⟩) 8 8), (5, .slice A_m5 m2.length c_m5), (8, .int .i64 at_), (9, .slice (some ⟨g7, 0, none⟩) 64 64), (10, .int .i64 i2)] ∧ I4 i2 w_ ∧ 64 = w_.length ∧ w.grownBy w' none ∧ Bl w' g1 38 (a32 (List.replicate 32 0 : List UInt8)) ∧ Own vu w' w.heap.size 124 A_k c_k k ∧ Own vu w' w.heap.size 124 (some ⟨g2, 0, none⟩) 8 h ∧ Own vb w' w.heap.size 5 A_m5 c_m5 m2 ∧ Own vu w' w.heap.size 124 (some ⟨g7, 0, none⟩) 64 w_ ∧ Dj (some g1) (blk A_k) ∧ Dj (some g1) (blk (some ⟨g2, 0, none⟩)) ∧ Dj (some g1) (blk A_m5) ∧ Dj (some g1) (blk (some ⟨g7, 0, none⟩)) ∧ Dj (blk A_k) (blk (some ⟨g2, 0, none⟩)) ∧ Dj (blk A_k) (blk A_m5) ∧ Dj (blk A_k) (blk (some ⟨g7, 0, none⟩)) ∧ Dj (blk (some ⟨g2, 0, none⟩)) (blk A_m5) ∧ Dj (blk (some ⟨g2, 0, none⟩)) (blk (some ⟨g7, 0, none⟩)) ∧ Dj (blk A_m5) (blk (some ⟨g7, 0, none⟩))) _ _ ⟨(0 : Int), (List.replicate 64 0), rfl, rfl, h0_4, (List.length_replicate).symm, gr15, k44, k45, k46, k47, hO10, dj13, dj14, dj15, (Dj.new k40.lt' (Ge.box hl7)), dj16, dj17, (Dj.new k41.lt' (Ge.box hl7)), dj18, (Dj.new k42.lt' (Ge.box hl7)), (Dj.new k43.lt' (Ge.box hl7))⟩ (by repeat (first | exact Sub.nil | refine Sub.cons rfl ?_)) ?_
        clear h0_4
        rintro _ _ w16 ⟨i2, w_, rfl, rfl, hI4, hn_w_, gr16, k48, k49, k50, k51, k52, dj19, dj20, dj21, dj22, dj23, dj24, dj25, dj26, dj27, dj28⟩
        have H := HR4 i2 w_ hI4
        replace H := H hn_w_
        refine WC.seq ?_
        refine WC.seq ?_
        refine WC.region ?_
        refine WL.y rfl (Yld.pure tab_ok rfl) ?_
        refine WL.y rfl (Yld.pure tab_ok rfl) ?_
        refine WL.nil (WX.then_normal ?_)
        refine WC.cond rfl (fun b4 => ?_) (fun b4 => ?_)
        · replace H := H.1 (of_decide_eq_true b4)
          refine WC.skip (WX.then_normal ?_)
          refine WC.seq ?_
          refine WC.block ?_
          refine WC.chainF (fun k => !(Nat.beq k 44)) (LD [8, 18, 29, 40] (fun w' => Rd vb w' A_m5 c_m5 m2)) mixed (by kernel_rfl) (fun k w' h _ => (rd_eqv h k51.rd)) ?_
          refine WJ.y rfl rfl (fun w' hw' => Yld.pure tab_ok rfl) ?_
          refine WJ.y rfl rfl (fun w' hw' => Yld.pure tab_ok rfl) ?_
          refine WJ.y rfl rfl (fun w' hw' => Yld.pure tab_ok rfl) ?_
          refine WJ.y rfl rfl (fun w' hw' => Yld.pure tab_ok rfl) ?_
          refine WJ.y rfl rfl (fun w' hw' => Yld.pure tab_ok rfl) ?_
          obtain ⟨h13, H⟩ := H
          refine WJ.y rfl rfl (fun w' hw' => Yld.mul rfl rfl h13) ?_
          obtain ⟨h14, H⟩ := H
          refine WJ.y rfl rfl (fun w' hw' => Yld.add rfl rfl h14) ?_
          obtain ⟨h15, H⟩ := H
          refine WJ.y rfl rfl (fun w' hw' => Yld.iaddrW tab_ok k51.rd rfl rfl rfl rfl h15.1 h15.2) ?_
          refine WJ.y rfl rfl (fun w' hw' => Yld.iload 0 tab_ok (hw' rfl) rfl rfl (iltN h15 rfl)) ?_
          refine WJ.y rfl rfl (fun w' hw' => Yld.convB tab_ok rfl rfl rfl rfl) ?_
          refine WJ.y rfl rfl (fun w' hw' => Yld.shl rfl rfl (by omega)) ?_
          refine WJ.y rfl rfl (fun w' hw' => Yld.pure tab_ok rfl) ?_
          refine WJ.y rfl rfl (fun w' hw' => Yld.pure tab_ok rfl) ?_
          refine WJ.y rfl rfl (fun w' hw' => Yld.pure tab_ok rfl) ?_
          obtain ⟨h16, H⟩ := H
          refine WJ.y rfl rfl (fun w' hw' => Yld.mul rfl rfl h16) ?_
          obtain ⟨h17, H⟩ := H
          refine WJ.y rfl rfl (fun w' hw' => Yld.add rfl rfl h17) ?_
          obtain ⟨h18, H⟩ := H
          refine WJ.y rfl rfl (fun w' hw' => Yld.add rfl rfl h18) ?_
          obtain ⟨h19, H⟩ := H
          refine WJ.y rfl rfl (fun w' hw' => Yld.iaddrW tab_ok k51.rd rfl rfl rfl rfl h19.1 h19.2) ?_
          refine WJ.y rfl rfl (fun w' hw' => Yld.iload 0 tab_ok (hw' rfl) rfl rfl (iltN h19 rfl)) ?_
          refine WJ.y rfl rfl (fun w' hw' => Yld.convB tab_ok rfl rfl rfl rfl) ?_
          refine WJ.y rfl rfl (fun w' hw' => Yld.shl rfl rfl (by omega)) ?_
          refine WJ.y rfl rfl (fun w' hw' => Yld.pure tab_ok rfl) ?_
          refine WJ.y rfl rfl (fun w' hw' => Yld.pure tab_ok rfl) ?_
          refine WJ.y rfl rfl (fun w' hw' => Yld.pure tab_ok rfl) ?_
          refine WJ.y rfl rfl (fun w' hw' => Yld.pure tab_ok rfl) ?_
          obtain ⟨h20, H⟩ := H
          refine WJ.y rfl rfl (fun w' hw' => Yld.mul rfl rfl h20) ?_
          obtain ⟨h21, H⟩ := H
          refine WJ.y rfl rfl (fun w' hw' => Yld.add rfl rfl h21) ?_
          obtain ⟨h22, H⟩ := H
          refine WJ.y rfl rfl (fun w' hw' => Yld.add rfl rfl h22) ?_
          obtain ⟨h23, H⟩ := H
          refine WJ.y rfl rfl (fun w' hw' => Yld.iaddrW tab_ok k51.rd rfl rfl rfl rfl h23.1 h23.2) ?_
          refine WJ.y rfl rfl (fun w' hw' => Yld.iload 0 tab_ok (hw' rfl) rfl rfl (iltN h23 rfl)) ?_
          refine WJ.y rfl rfl (fun w' hw' => Yld.convB tab_ok rfl rfl rfl rfl) ?_
          refine WJ.y rfl rfl (fun w' hw' => Yld.shl rfl rfl (by omega)) ?_
          refine WJ.y rfl rfl (fun w' hw' => Yld.pure tab_ok rfl) ?_
          refine WJ.y rfl rfl (fun w' hw' => Yld.pure tab_ok rfl) ?_
          refine WJ.y rfl rfl (fun w' hw' => Yld.pure tab_ok rfl) ?_
          refine WJ.y rfl rfl (fun w' hw' => Yld.pure tab_ok rfl) ?_
          obtain ⟨h24, H⟩ := H
          refine WJ.y rfl rfl (fun w' hw' => Yld.mul rfl rfl h24) ?_
          obtain ⟨h25, H⟩ := H
          refine WJ.y rfl rfl (fun w' hw' => Yld.add rfl rfl h25) ?_
          obtain ⟨h26, H⟩ := H
          refine WJ.y rfl rfl (fun w' hw' => Yld.add rfl rfl h26) ?_
          obtain ⟨h27, H⟩ := H
          refine WJ.y rfl rfl (fun w' hw' => Yld.iaddrW tab_ok k51.rd rfl rfl rfl rfl h27.1 h27.2) ?_
          refine WJ.y rfl rfl (fun w' hw' => Yld.iload 0 tab_ok (hw' rfl) rfl rfl (iltN h27 rfl)) ?_
          refine WJ.y rfl rfl (fun w' hw' => Yld.convB tab_ok rfl rfl rfl rfl) ?_
          refine WJ.y rfl rfl (fun w' hw' => Yld.pure tab_ok rfl) ?_
          obtain ⟨h28, H⟩ := H
          refine WJ.y rfl rfl (fun w' hw' => Yld.iaddrW tab_ok k52.rd rfl rfl hn_w_ rfl h28.1 h28.2) ?_
          refine WJ.eff rfl (Ef0.ostore (v := bits .or .u32 (bits .or .u32 (bits .or .u32 (shlV .u32 ((m2.getD ((at_ + ((4 : Int) * i2)).toNat) 0).toNat : Int) 24) (shlV .u32 ((m2.getD (((at_ + ((4 : Int) * i2)) + (1 : Int)).toNat) 0).toNat : Int) 16)) (shlV .u32 ((m2.getD (((at_ + ((4 : Int) * i2)) + (2 : Int)).toNat) 0).toNat : Int) 8)) ((m2.getD (((at_ + ((4 : Int) * i2)) + (3 : Int)).toNat) 0).toNat : Int)) one124 One.u k52 rfl rfl (iltN h28 hn_w_)) (fun w' h => DD.keep (Rd.go k51.rd (gr_eqv h.2 (Eqv.refl _)) (Dn.of dj28))) ?_
          rintro w17 ⟨hO11, hg13⟩
          have gr17 := gr_mod gr16 hg13 k52.ge'
          have k53 := k48.go hg13 dj22
          have k54 := k49.go hg13 dj25
          have k55 := k50.go hg13 dj27
          have k56 := k51.go hg13 dj28
          refine WJ.nil (WX.block_normal (WX.then_normal ?_))
          refine WC.region ?_
          refine WL.y rfl (Yld.pure tab_ok rfl) ?_
          obtain ⟨h29, H⟩ := H
          refine WL.y rfl (Yld.add rfl rfl h29) ?_
          refine WL.y rfl (Yld.pure tab_ok rfl) ?_
          refine WL.nil ?_
          exact WX.roundF _ ⟨i2 + (1 : Int), w_.set i2.toNat (bits .or .u32 (bits .or .u32 (bits .or .u32 (shlV .u32 ((m2.getD ((at_ + ((4 : Int) * i2)).toNat) 0).toNat : Int) 24) (shlV .u32 ((m2.getD (((at_ + ((4 : Int) * i2)) + (1 : Int)).toNat) 0).toNat : Int) 16)) (shlV .u32 ((m2.getD (((at_ + ((4 : Int) * i2)) + (2 : Int)).toNat) 0).toNat : Int) 8)) ((m2.getD (((at_ + ((4 : Int) * i2)) + (3 : Int)).toNat) 0).toNat : Int)), rfl, rfl, H.1, (hn_w_.trans List.length_set.symm), gr17, k53, k54, k55, k56, hO11, dj19, dj20, dj21, dj22, dj23, dj24, dj25, dj26, dj27, dj28⟩ (by repeat (first | exact Sub.nil | refine Sub.cons rfl ?_)) H.2
        · replace H := H.2 (of_decide_eq_false b4)
          refine WC.exit (WX.then_exit (WX.then_exit (WX.block_same (WX.then_normal ?_))))
          refine WC.seq ?_
          refine WC.seq ?_
          refine WC.region ?_
          refine WL.y rfl (Yld.pure tab_ok rfl) ?_
          refine WL.nil (WX.then_normal ?_)
          refine WC.block ?_
          obtain ⟨I5, mu5, h0_5, HR5⟩ := H
          refine WC.loopF (fun n' L' w' => ∃ (i3 : Int), ∃ (w_2 : List Int), n' = mu5 i3 w_2 ∧ L' = [(2, .pointer (some ⟨g1, 0, none⟩)), (3, .slice A_k k.length c_k), (4, .slice (some ⟨g2, 0, none⟩) 8 8), (5, .slice A_m5 m2.length c_m5), (8, .int .i64 at_), (9, .slice (some ⟨g7, 0, none⟩) 64 64), (11, .int .i64 i3)] ∧ I5 i3 w_2 ∧ 64 = w_2.length ∧ w.grownBy w' none ∧ Bl w' g1 38 (a32 (List.replicate 32 0 : List UInt8)) ∧ Own vu w' w.heap.size 124 A_k c_k k ∧ Own vu w' w.heap.size 124 (some ⟨g2, 0, none⟩) 8 h ∧ Own vb w' w.heap.size 5 A_m5 c_m5 m2 ∧ Own vu w' w.heap.size 124 (some ⟨g7, 0, none⟩) 64 w_2 ∧ Dj (some g1) (blk A_k) ∧ Dj (some g1) (blk (some ⟨g2, 0, none⟩)) ∧ Dj (some g1) (blk A_m5) ∧ Dj (some g1) (blk (some ⟨g7, 0, none⟩)) ∧ Dj (blk A_k) (blk (some ⟨g2, 0, none⟩)) ∧ Dj (blk A_k) (blk A_m5) ∧ Dj (blk A_k) (blk (some ⟨g7, 0, none⟩)) ∧ Dj (blk (some ⟨g2, 0, none⟩)) (blk A_m5) ∧ Dj (blk (some ⟨g2, 0, none⟩)) (blk (some ⟨g7, 0, none⟩)) ∧ Dj (blk A_m5) (blk (some ⟨g7, 0, none⟩))) _ _ ⟨(16 : Int), w_, rfl, rfl, h0_5, hn_w_, gr16, k48, k49, k50, k51, k52, dj19, dj20, dj21, dj22, dj23, dj24, dj25, dj26, dj27, dj28⟩ (by repeat (first | exact Sub.nil | refine Sub.cons rfl ?_)) ?_
          clear h0_5
          rintro _ _ w18 ⟨i3, w_2, rfl, rfl, hI5, hn_w_2, gr18, k57, k58, k59, k60, k61, dj29, dj30, dj31, dj32, dj33, dj34, dj35, dj36, dj37, dj38⟩
          have H := HR5 i3 w_2 hI5
          replace H := H hn_w_2
          refine WC.seq ?_
          refine WC.seq ?_
          refine WC.region ?_
          refine WL.y rfl (Yld.pure tab_ok rfl) ?_
          refine WL.y rfl (Yld.pure tab_ok rfl) ?_
          refine WL.nil (WX.then_normal ?_)
          refine WC.cond rfl (fun b5 => ?_) (fun b5 => ?_)
          · replace H := H.1 (of_decide_eq_true b5)
            refine WC.skip (WX.then_normal ?_)
            refine WC.seq ?_
            refine WC.block ?_
            refine WC.seq ?_
            refine WC.chainF (fun k => !(Nat.beq k 5 || Nat.beq k 11)) (LD [4, 10, 17] (fun w' => Rd vu w' (some ⟨g7, 0, none⟩) 64 w_2)) mixed (by kernel_rfl) (fun k w' h _ => (rd_eqv h k61.rd)) ?_
            refine WJ.y rfl rfl (fun w' hw' => Yld.pure tab_ok rfl) ?_
            refine WJ.y rfl rfl (fun w' hw' => Yld.pure tab_ok rfl) ?_
            obtain ⟨h30, H⟩ := H
            refine WJ.y rfl rfl (fun w' hw' => Yld.sub rfl rfl h30) ?_
            obtain ⟨h31, H⟩ := H
            refine WJ.y rfl rfl (fun w' hw' => Yld.iaddrW tab_ok k61.rd rfl rfl hn_w_2 rfl h31.1 h31.2) ?_
            refine WJ.y rfl rfl (fun w' hw' => Yld.iload 0 tab_ok (hw' rfl) rfl rfl (iltN h31 hn_w_2)) ?_
            refine WJ.call rfl (wants_none) rfl rfl (W_smithyref1_turn H) (fun v w' h w2 e => DD.keep (rd_eqv (eqvL h.1 e) k61.rd)) ?_
            rintro _ _ ⟨rfl, t124, rfl, H⟩
            refine WJ.y rfl rfl (fun w' hw' => Yld.pure tab_ok rfl) ?_
            refine WJ.y rfl rfl (fun w' hw' => Yld.pure tab_ok rfl) ?_
            obtain ⟨h32, H⟩ := H
            refine WJ.y rfl rfl (fun w' hw' => Yld.sub rfl rfl h32) ?_
            obtain ⟨h33, H⟩ := H
            refine WJ.y rfl rfl (fun w' hw' => Yld.iaddrW tab_ok k61.rd rfl rfl hn_w_2 rfl h33.1 h33.2) ?_
            refine WJ.y rfl rfl (fun w' hw' => Yld.iload 0 tab_ok (hw' rfl) rfl rfl (iltN h33 hn_w_2)) ?_
            refine WJ.call rfl (wants_none) rfl rfl (W_smithyref1_turn H) (fun v w' h w2 e => DD.keep (rd_eqv (eqvL h.1 e) k61.rd)) ?_
            rintro _ _ ⟨rfl, t130, rfl, H⟩
            refine WJ.y rfl rfl (fun w' hw' => Yld.pure tab_ok rfl) ?_
            refine WJ.y rfl rfl (fun w' hw' => Yld.pure tab_ok rfl) ?_
            refine WJ.y rfl rfl (fun w' hw' => Yld.pure tab_ok rfl) ?_
            obtain ⟨h34, H⟩ := H
            refine WJ.y rfl rfl (fun w' hw' => Yld.sub rfl rfl h34) ?_
            obtain ⟨h35, H⟩ := H
            refine WJ.y rfl rfl (fun w' hw' => Yld.iaddrW tab_ok k61.rd rfl rfl hn_w_2 rfl h35.1 h35.2) ?_
            refine WJ.y rfl rfl (fun w' hw' => Yld.iload 0 tab_ok (hw' rfl) rfl rfl (iltN h35 hn_w_2)) ?_
            refine WJ.y rfl rfl (fun w' hw' => Yld.shr rfl rfl (by omega)) ?_
            refine WJ.y rfl rfl (fun w' hw' => Yld.pure tab_ok rfl) ?_
            refine WJ.y rfl rfl (fun w' hw' => Yld.pure tab_ok rfl) ?_
            refine WJ.nil (WX.then_normal ?_)
            refine WC.seq ?_
            refine WC.chainF (fun k => !(Nat.beq k 5 || Nat.beq k 11)) (LD [4, 10, 17] (fun w' => Rd vu w' (some ⟨g7, 0, none⟩) 64 w_2)) mixed (by kernel_rfl) (fun k w' h _ => (rd_eqv h k61.rd)) ?_
            refine WJ.y rfl rfl (fun w' hw' => Yld.pure tab_ok rfl) ?_
            refine WJ.y rfl rfl (fun w' hw' => Yld.pure tab_ok rfl) ?_
            obtain ⟨h36, H⟩ := H
            refine WJ.y rfl rfl (fun w' hw' => Yld.sub rfl rfl h36) ?_
            obtain ⟨h37, H⟩ := H
            refine WJ.y rfl rfl (fun w' hw' => Yld.iaddrW tab_ok k61.rd rfl rfl hn_w_2 rfl h37.1 h37.2) ?_
            refine WJ.y rfl rfl (fun w' hw' => Yld.iload 0 tab_ok (hw' rfl) rfl rfl (iltN h37 hn_w_2)) ?_
            refine WJ.call rfl (wants_none) rfl rfl (W_smithyref1_turn H) (fun v w' h w2 e => DD.keep (rd_eqv (eqvL h.1 e) k61.rd)) ?_
            rintro _ _ ⟨rfl, t144, rfl, H⟩
            refine WJ.y rfl rfl (fun w' hw' => Yld.pure tab_ok rfl) ?_
            refine WJ.y rfl rfl (fun w' hw' => Yld.pure tab_ok rfl) ?_
            obtain ⟨h38, H⟩ := H
            refine WJ.y rfl rfl (fun w' hw' => Yld.sub rfl rfl h38) ?_
            obtain ⟨h39, H⟩ := H
            refine WJ.y rfl rfl (fun w' hw' => Yld.iaddrW tab_ok k61.rd rfl rfl hn_w_2 rfl h39.1 h39.2) ?_
            refine WJ.y rfl rfl (fun w' hw' => Yld.iload 0 tab_ok (hw' rfl) rfl rfl (iltN h39 hn_w_2)) ?_
            refine WJ.call rfl (wants_none) rfl rfl (W_smithyref1_turn H) (fun v w' h w2 e => DD.keep (rd_eqv (eqvL h.1 e) k61.rd)) ?_
            rintro _ _ ⟨rfl, t150, rfl, H⟩
            refine WJ.y rfl rfl (fun w' hw' => Yld.pure tab_ok rfl) ?_
            refine WJ.y rfl rfl (fun w' hw' => Yld.pure tab_ok rfl) ?_
            refine WJ.y rfl rfl (fun w' hw' => Yld.pure tab_ok rfl) ?_
            obtain ⟨h40, H⟩ := H
            refine WJ.y rfl rfl (fun w' hw' => Yld.sub rfl rfl h40) ?_
            obtain ⟨h41, H⟩ := H
            refine WJ.y rfl rfl (fun w' hw' => Yld.iaddrW tab_ok k61.rd rfl rfl hn_w_2 rfl h41.1 h41.2) ?_
            refine WJ.y rfl rfl (fun w' hw' => Yld.iload 0 tab_ok (hw' rfl) rfl rfl (iltN h41 hn_w_2)) ?_
            refine WJ.y rfl rfl (fun w' hw' => Yld.shr rfl rfl (by omega)) ?_
            refine WJ.y rfl rfl (fun w' hw' => Yld.pure tab_ok rfl) ?_
            refine WJ.y rfl rfl (fun w' hw' => Yld.pure tab_ok rfl) ?_
            refine WJ.nil (WX.then_normal ?_)
            refine WC.chainF (fun k => !(Nat.beq k 18)) (LD [6, 13] (fun w' => Rd vu w' (some ⟨g7, 0, none⟩) 64 w_2)) mixed (by kernel_rfl) (fun k w' h _ => (rd_eqv h k61.rd)) ?_
            refine WJ.y rfl rfl (fun w' hw' => Yld.pure tab_ok rfl) ?_
            refine WJ.y rfl rfl (fun w' hw' => Yld.pure tab_ok rfl) ?_
            refine WJ.y rfl rfl (fun w' hw' => Yld.pure tab_ok rfl) ?_
            refine WJ.y rfl rfl (fun w' hw' => Yld.pure tab_ok rfl) ?_
            obtain ⟨h42, H⟩ := H
            refine WJ.y rfl rfl (fun w' hw' => Yld.sub rfl rfl h42) ?_
            obtain ⟨h43, H⟩ := H
            refine WJ.y rfl rfl (fun w' hw' => Yld.iaddrW tab_ok k61.rd rfl rfl hn_w_2 rfl h43.1 h43.2) ?_
            refine WJ.y rfl rfl (fun w' hw' => Yld.iload 0 tab_ok (hw' rfl) rfl rfl (iltN h43 hn_w_2)) ?_
            refine WJ.y rfl rfl (fun w' hw' => Yld.pure tab_ok rfl) ?_
            refine WJ.y rfl rfl (fun w' hw' => Yld.pure tab_ok rfl) ?_
            refine WJ.y rfl rfl (fun w' hw' => Yld.pure tab_ok rfl) ?_
            refine WJ.y rfl rfl (fun w' hw' => Yld.pure tab_ok rfl) ?_
            obtain ⟨h44, H⟩ := H
            refine WJ.y rfl rfl (fun w' hw' => Yld.sub rfl rfl h44) ?_
            obtain ⟨h45, H⟩ := H
            refine WJ.y rfl rfl (fun w' hw' => Yld.iaddrW tab_ok k61.rd rfl rfl hn_w_2 rfl h45.1 h45.2) ?_
            refine WJ.y rfl rfl (fun w' hw' => Yld.iload 0 tab_ok (hw' rfl) rfl rfl (iltN h45 hn_w_2)) ?_
            refine WJ.y rfl rfl (fun w' hw' => Yld.pure tab_ok rfl) ?_
            refine WJ.y rfl rfl (fun w' hw' => Yld.pure tab_ok rfl) ?_
            refine WJ.y rfl rfl (fun w' hw' => Yld.pure tab_ok rfl) ?_
            obtain ⟨h46, H⟩ := H
            refine WJ.y rfl rfl (fun w' hw' => Yld.iaddrW tab_ok k61.rd rfl rfl hn_w_2 rfl h46.1 h46.2) ?_
            refine WJ.eff rfl (Ef0.ostore (v := IntKind.wrap .u32 ((IntKind.wrap .u32 ((IntKind.wrap .u32 ((w_2.getD ((i3 - (16 : Int)).toNat) 0) + (bits .xor .u32 (bits .xor .u32 t124 t130) (shrV .u32 (w_2.getD ((i3 - (15 : Int)).toNat) 0) 3)))) + (w_2.getD ((i3 - (7 : Int)).toNat) 0))) + (bits .xor .u32 (bits .xor .u32 t144 t150) (shrV .u32 (w_2.getD ((i3 - (2 : Int)).toNat) 0) 10)))) one124 One.u k61 rfl rfl (iltN h46 hn_w_2)) (fun w' h => DD.past (by kernel_rfl)) ?_
            rintro w19 ⟨hO12, hg14⟩
            have gr19 := gr_mod gr18 hg14 k61.ge'
            have k62 := k57.go hg14 dj32
            have k63 := k58.go hg14 dj35
            have k64 := k59.go hg14 dj37
            have k65 := k60.go hg14 dj38
            refine WJ.nil (WX.block_normal (WX.then_normal ?_))
            refine WC.region ?_
            refine WL.y rfl (Yld.pure tab_ok rfl) ?_
            obtain ⟨h47, H⟩ := H
            refine WL.y rfl (Yld.add rfl rfl h47) ?_
            refine WL.y rfl (Yld.pure tab_ok rfl) ?_
            refine WL.nil ?_
            exact WX.roundF _ ⟨i3 + (1 : Int), w_2.set i3.toNat (IntKind.wrap .u32 ((IntKind.wrap .u32 ((IntKind.wrap .u32 ((w_2.getD ((i3 - (16 : Int)).toNat) 0) + (bits .xor .u32 (bits .xor .u32 t124 t130) (shrV .u32 (w_2.getD ((i3 - (15 : Int)).toNat) 0) 3)))) + (w_2.getD ((i3 - (7 : Int)).toNat) 0))) + (bits .xor .u32 (bits .xor .u32 t144 t150) (shrV .u32 (w_2.getD ((i3 - (2 : Int)).toNat) 0) 10)))), rfl, rfl, H.1, (hn_w_2.trans List.length_set.symm), gr19, k62, k63, k64, k65, hO12, dj29, dj30, dj31, dj32, dj33, dj34, dj35, dj36, dj37, dj38⟩ (by repeat (first | exact Sub.nil | refine Sub.cons rfl ?_)) H.2
          · replace H := H.2 (of_decide_eq_false b5)
            refine WC.exit (WX.then_exit (WX.then_exit (WX.block_same (WX.then_normal ?_))))
            refine WC.seq ?_
            refine WC.region ?_
            obtain ⟨h48, H⟩ := H
            refine WL.makeCI (f := vu) (B := w.heap.size) tab_ok rfl rfl rfl rfl h48.1 h48.2.1 h48.2.2 (size_le gr18) (fun g8 w20 hO13 hg15 hl8 => ?_)
            have gr20 := gr_trans gr18 hg15
            have k66 := k57.g0 hg15
            have k67 := k58.grown hg15
            have k68 := k59.grown hg15
            have k69 := k60.grown hg15
            have k70 := k61.grown hg15
            refine WL.y rfl (Yld.pure tab_ok rfl) ?_
            obtain ⟨h49, H⟩ := H
            refine WL.append tab_ok rfl rfl One.u hO13 rfl rfl k68.rd rfl hn_h h49 (applen h49) (size_le gr20) (fun A_v c_v w21 hO14 hg16 hk5 => ?_)
            have gr21 := gr_mod gr20 hg16 hO13.ge'
            have k71 := k66.go hg16 (Dj.new k57.lt' (Ge.box hl8))
            have k72 := k67.go hg16 (Dj.new k58.lt' (Ge.box hl8))
            have k73 := k68.go hg16 (Dj.new k59.lt' (Ge.box hl8))
            have k74 := k69.go hg16 (Dj.new k60.lt' (Ge.box hl8))
            have k75 := k70.go hg16 (Dj.new k61.lt' (Ge.box hl8))
            refine WL.y rfl (Yld.pure tab_ok rfl) ?_
            refine WL.nil (WX.then_normal ?_)
            refine WC.seq ?_
            refine WC.seq ?_
            refine WC.region ?_
            refine WL.y rfl (Yld.pure tab_ok rfl) ?_
            refine WL.nil (WX.then_normal ?_)
            refine WC.block ?_
            obtain ⟨I6, mu6, h0_6, HR6⟩ := H
            refine WC.loopF (fun n' L' w' => ∃ (v : List Int), ∃ (A_v2 : Option Addr), ∃ (c_v2 : Nat), ∃ (n_v : Nat), ∃ (i4 : Int), n' = mu6 v i4 ∧ L' = [(2, .pointer (some ⟨g1, 0, none⟩)), (3, .slice A_k k.length c_k), (4, .slice (some ⟨g2, 0, none⟩) 8 8), (5, .slice A_m5 m2.length c_m5), (8, .int .i64 at_), (9, .slice (some ⟨g7, 0, none⟩) 64 64), (14, .slice A_v2 n_v c_v2), (15, .int .i64 i4)] ∧ I6 v i4 ∧ n_v = v.length ∧ w.grownBy w' none ∧ Bl w' g1 38 (a32 (List.replicate 32 0 : List UInt8)) ∧ Own vu w' w.heap.size 124 A_k c_k k ∧ Own vu w' w.heap.size 124 (some ⟨g2, 0, none⟩) 8 h ∧ Own vb w' w.heap.size 5 A_m5 c_m5 m2 ∧ Own vu w' w.heap.size 124 (some ⟨g7, 0, none⟩) 64 w_2 ∧ Own vu w' w.heap.size 124 A_v2 c_v2 v ∧ Dj (some g1) (blk A_k) ∧ Dj (some g1) (blk (some ⟨g2, 0, none⟩)) ∧ Dj (some g1) (blk A_m5) ∧ Dj (some g1) (blk (some ⟨g7, 0, none⟩)) ∧ Dj (some g1) (blk A_v2) ∧ Dj (blk A_k) (blk (some ⟨g2, 0, none⟩)) ∧ Dj (blk A_k) (blk A_m5) ∧ Dj (blk A_k) (blk (some ⟨g7, 0, none⟩)) ∧ Dj (blk A_k) (blk A_v2) ∧ Dj (blk (some ⟨g2, 0, none⟩)) (blk A_m5) ∧ Dj (blk (some ⟨g2, 0, none⟩)) (blk (some ⟨g7, 0, none⟩)) ∧ Dj (blk (some ⟨g2, 0, none⟩)) (blk A_v2) ∧ Dj (blk A_m5) (blk (some ⟨g7, 0, none⟩)) ∧ Dj (blk A_m5) (blk A_v2) ∧ Dj (blk (some ⟨g7, 0, none⟩)) (blk A_v2)) _ _ ⟨([] : List Int) ++ h, A_v, c_v, (([] : List Int) ++ h).length, (0 : Int), rfl, rfl, h0_6, rfl, gr21, k71, k72, k73, k74, k75, hO14, dj29, dj30, dj31, dj32, (Dj.app (Dj.new k57.lt' (Ge.box hl8)).symm k66.lt' hk5).symm, dj33, dj34, dj35, (Dj.app (Dj.new k58.lt' (Ge.box hl8)).symm k67.lt' hk5).symm, dj36, dj37, (Dj.app (Dj.new k59.lt' (Ge.box hl8)).symm k68.lt' hk5).symm, dj38, (Dj.app (Dj.new k60.lt' (Ge.box hl8)).symm k69.lt' hk5).symm, (Dj.app (Dj.new k61.lt' (Ge.box hl8)).symm k70.lt' hk5).symm⟩ (by repeat (first | exact Sub.nil | refine Sub.cons rfl ?_)) ?_
            clear h0_6
            rintro _ _ w22 ⟨v, A_v2, c_v2, n_v, i4, rfl, rfl, hI6, rfl, gr22, k76, k77, k78, k79, k80, k81, dj39, dj40, dj41, dj42, dj43, dj44, dj45, dj46, dj47, dj48, dj49, dj50, dj51, dj52, dj53⟩
            have H := HR6 v i4 hI6
            refine WC.seq ?_
            refine WC.seq ?_
            refine WC.region ?_
            refine WL.y rfl (Yld.pure tab_ok rfl) ?_
            refine WL.y rfl (Yld.pure tab_ok rfl) ?_
            refine WL.nil (WX.then_normal ?_)
            refine WC.cond rfl (fun b6 => ?_) (fun b6 => ?_)
            · replace H := H.1 (of_decide_eq_true b6)
              refine WC.skip (WX.then_normal ?_)
              refine WC.seq ?_
              refine WC.block ?_
              refine WC.seq ?_
              refine WC.chainF (fun k => !(Nat.beq k 3 || Nat.beq k 7 || Nat.beq k 12)) (LD [2, 6, 11] (fun w' => Rd vu w' A_v2 c_v2 v)) mixed (by kernel_rfl) (fun k w' h _ => (rd_eqv h k81.rd)) ?_
              refine WJ.y rfl rfl (fun w' hw' => Yld.pure tab_ok rfl) ?_
              obtain ⟨h50, H⟩ := H
              refine WJ.y rfl rfl (fun w' hw' => Yld.iaddrW tab_ok k81.rd rfl rfl rfl rfl h50.1 h50.2) ?_
              refine WJ.y rfl rfl (fun w' hw' => Yld.iload 0 tab_ok (hw' rfl) rfl rfl (iltN h50 rfl)) ?_
              refine WJ.call rfl (wants_none) rfl rfl (W_smithyref1_turn H) (fun v w' h w2 e => DD.keep (rd_eqv (eqvL h.1 e) k81.rd)) ?_
              rintro _ _ ⟨rfl, t187, rfl, H⟩
              refine WJ.y rfl rfl (fun w' hw' => Yld.pure tab_ok rfl) ?_
              obtain ⟨h51, H⟩ := H
              refine WJ.y rfl rfl (fun w' hw' => Yld.iaddrW tab_ok k81.rd rfl rfl rfl rfl h51.1 h51.2) ?_
              refine WJ.y rfl rfl (fun w' hw' => Yld.iload 0 tab_ok (hw' rfl) rfl rfl (iltN h51 rfl)) ?_
              refine WJ.call rfl (wants_none) rfl rfl (W_smithyref1_turn H) (fun v w' h w2 e => DD.keep (rd_eqv (eqvL h.1 e) k81.rd)) ?_
              rintro _ _ ⟨rfl, t191, rfl, H⟩
              refine WJ.y rfl rfl (fun w' hw' => Yld.pure tab_ok rfl) ?_
              refine WJ.y rfl rfl (fun w' hw' => Yld.pure tab_ok rfl) ?_
              obtain ⟨h52, H⟩ := H
              refine WJ.y rfl rfl (fun w' hw' => Yld.iaddrW tab_ok k81.rd rfl rfl rfl rfl h52.1 h52.2) ?_
              refine WJ.y rfl rfl (fun w' hw' => Yld.iload 0 tab_ok (hw' rfl) rfl rfl (iltN h52 rfl)) ?_
              refine WJ.call rfl (wants_none) rfl rfl (W_smithyref1_turn H) (fun v w' h w2 e => DD.keep (rd_eqv (eqvL h.1 e) k81.rd)) ?_
              rintro _ _ ⟨rfl, t196, rfl, H⟩
              refine WJ.y rfl rfl (fun w' hw' => Yld.pure tab_ok rfl) ?_
              refine WJ.y rfl rfl (fun w' hw' => Yld.pure tab_ok rfl) ?_
              refine WJ.nil (WX.then_normal ?_)
              refine WC.seq ?_
              refine WC.quiet mixed (by kernel_rfl) ?_
              refine WQ.y rfl (Yld.pure tab_ok rfl) ?_
              obtain ⟨h53, H⟩ := H
              refine WQ.y rfl (Yld.iaddrW tab_ok k81.rd rfl rfl rfl rfl h53.1 h53.2) ?_
              refine WQ.y rfl (Yld.iload 0 tab_ok k81.rd rfl rfl (iltN h53 rfl)) ?_
              refine WQ.y rfl (Yld.pure tab_ok rfl) ?_
              obtain ⟨h54, H⟩ := H
              refine WQ.y rfl (Yld.iaddrW tab_ok k81.rd rfl rfl rfl rfl h54.1 h54.2) ?_
              refine WQ.y rfl (Yld.iload 0 tab_ok k81.rd rfl rfl (iltN h54 rfl)) ?_
              refine WQ.y rfl (Yld.pure tab_ok rfl) ?_
              refine WQ.y rfl (Yld.pure tab_ok rfl) ?_
              obtain ⟨h55, H⟩ := H
              refine WQ.y rfl (Yld.iaddrW tab_ok k81.rd rfl rfl rfl rfl h55.1 h55.2) ?_
              refine WQ.y rfl (Yld.iload 0 tab_ok k81.rd rfl rfl (iltN h55 rfl)) ?_
              refine WQ.y rfl (Yld.pure tab_ok rfl) ?_
              refine WQ.y rfl (Yld.pure tab_ok rfl) ?_
              obtain ⟨h56, H⟩ := H
              refine WQ.y rfl (Yld.iaddrW tab_ok k81.rd rfl rfl rfl rfl h56.1 h56.2) ?_
              refine WQ.y rfl (Yld.iload 0 tab_ok k81.rd rfl rfl (iltN h56 rfl)) ?_
              refine WQ.y rfl (Yld.pure tab_ok rfl) ?_
              refine WQ.y rfl (Yld.pure tab_ok rfl) ?_
              refine WQ.y rfl (Yld.pure tab_ok rfl) ?_
              refine WQ.nil (WX.then_normal ?_)
              refine WC.seq ?_
              refine WC.quiet mixed (by kernel_rfl) ?_
              refine WQ.y rfl (Yld.pure tab_ok rfl) ?_
              obtain ⟨h57, H⟩ := H
              refine WQ.y rfl (Yld.iaddrW tab_ok k81.rd rfl rfl rfl rfl h57.1 h57.2) ?_
              refine WQ.y rfl (Yld.iload 0 tab_ok k81.rd rfl rfl (iltN h57 rfl)) ?_
              refine WQ.y rfl (Yld.pure tab_ok rfl) ?_
              refine WQ.y rfl (Yld.pure tab_ok rfl) ?_
              refine WQ.y rfl (Yld.pure tab_ok rfl) ?_
              refine WQ.y rfl (Yld.pure tab_ok rfl) ?_
              refine WQ.y rfl (Yld.pure tab_ok rfl) ?_
              refine WQ.y rfl (Yld.pure tab_ok rfl) ?_
              obtain ⟨h58, H⟩ := H
              refine WQ.y rfl (Yld.iaddrW tab_ok k77.rd rfl rfl rfl rfl h58.1 h58.2) ?_
              refine WQ.y rfl (Yld.iload 0 tab_ok k77.rd rfl rfl (iltN h58 rfl)) ?_
              refine WQ.y rfl (Yld.pure tab_ok rfl) ?_
              refine WQ.y rfl (Yld.pure tab_ok rfl) ?_
              refine WQ.y rfl (Yld.pure tab_ok rfl) ?_
              obtain ⟨h59, H⟩ := H
              refine WQ.y rfl (Yld.iaddrW tab_ok k80.rd rfl rfl hn_w_2 rfl h59.1 h59.2) ?_
              refine WQ.y rfl (Yld.iload 0 tab_ok k80.rd rfl rfl (iltN h59 hn_w_2)) ?_
              refine WQ.y rfl (Yld.pure tab_ok rfl) ?_
              refine WQ.y rfl (Yld.pure tab_ok rfl) ?_
              refine WQ.nil (WX.then_normal ?_)
              refine WC.seq ?_
              refine WC.chainF (fun k => !(Nat.beq k 3 || Nat.beq k 7 || Nat.beq k 12)) (LD [2, 6, 11] (fun w' => Rd vu w' A_v2 c_v2 v)) mixed (by kernel_rfl) (fun k w' h _ => (rd_eqv h k81.rd)) ?_
              refine WJ.y rfl rfl (fun w' hw' => Yld.pure tab_ok rfl) ?_
              obtain ⟨h60, H⟩ := H
              refine WJ.y rfl rfl (fun w' hw' => Yld.iaddrW tab_ok k81.rd rfl rfl rfl rfl h60.1 h60.2) ?_
              refine WJ.y rfl rfl (fun w' hw' => Yld.iload 0 tab_ok (hw' rfl) rfl rfl (iltN h60 rfl)) ?_
              refine WJ.call rfl (wants_none) rfl rfl (W_smithyref1_turn H) (fun v w' h w2 e => DD.keep (rd_eqv (eqvL h.1 e) k81.rd)) ?_
              rintro _ _ ⟨rfl, t234, rfl, H⟩
              refine WJ.y rfl rfl (fun w' hw' => Yld.pure tab_ok rfl) ?_
              obtain ⟨h61, H⟩ := H
              refine WJ.y rfl rfl (fun w' hw' => Yld.iaddrW tab_ok k81.rd rfl rfl rfl rfl h61.1 h61.2) ?_
              refine WJ.y rfl rfl (fun w' hw' => Yld.iload 0 tab_ok (hw' rfl) rfl rfl (iltN h61 rfl)) ?_
              refine WJ.call rfl (wants_none) rfl rfl (W_smithyref1_turn H) (fun v w' h w2 e => DD.keep (rd_eqv (eqvL h.1 e) k81.rd)) ?_
              rintro _ _ ⟨rfl, t238, rfl, H⟩
              refine WJ.y rfl rfl (fun w' hw' => Yld.pure tab_ok rfl) ?_
              refine WJ.y rfl rfl (fun w' hw' => Yld.pure tab_ok rfl) ?_
              obtain ⟨h62, H⟩ := H
              refine WJ.y rfl rfl (fun w' hw' => Yld.iaddrW tab_ok k81.rd rfl rfl rfl rfl h62.1 h62.2) ?_
              refine WJ.y rfl rfl (fun w' hw' => Yld.iload 0 tab_ok (hw' rfl) rfl rfl (iltN h62 rfl)) ?_
              refine WJ.call rfl (wants_none) rfl rfl (W_smithyref1_turn H) (fun v w' h w2 e => DD.keep (rd_eqv (eqvL h.1 e) k81.rd)) ?_
              rintro _ _ ⟨rfl, t243, rfl, H⟩
              refine WJ.y rfl rfl (fun w' hw' => Yld.pure tab_ok rfl) ?_
              refine WJ.y rfl rfl (fun w' hw' => Yld.pure tab_ok rfl) ?_
              refine WJ.nil (WX.then_normal ?_)
              refine WC.seq ?_
              refine WC.quiet mixed (by kernel_rfl) ?_
              refine WQ.y rfl (Yld.pure tab_ok rfl) ?_
              obtain ⟨h63, H⟩ := H
              refine WQ.y rfl (Yld.iaddrW tab_ok k81.rd rfl rfl rfl rfl h63.1 h63.2) ?_
              refine WQ.y rfl (Yld.iload 0 tab_ok k81.rd rfl rfl (iltN h63 rfl)) ?_
              refine WQ.y rfl (Yld.pure tab_ok rfl) ?_
              obtain ⟨h64, H⟩ := H
              refine WQ.y rfl (Yld.iaddrW tab_ok k81.rd rfl rfl rfl rfl h64.1 h64.2) ?_
              refine WQ.y rfl (Yld.iload 0 tab_ok k81.rd rfl rfl (iltN h64 rfl)) ?_
              refine WQ.y rfl (Yld.pure tab_ok rfl) ?_
              refine WQ.y rfl (Yld.pure tab_ok rfl) ?_
              obtain ⟨h65, H⟩ := H
              refine WQ.y rfl (Yld.iaddrW tab_ok k81.rd rfl rfl rfl rfl h65.1 h65.2) ?_
              refine WQ.y rfl (Yld.iload 0 tab_ok k81.rd rfl rfl (iltN h65 rfl)) ?_
              refine WQ.y rfl (Yld.pure tab_ok rfl) ?_
              obtain ⟨h66, H⟩ := H
              refine WQ.y rfl (Yld.iaddrW tab_ok k81.rd rfl rfl rfl rfl h66.1 h66.2) ?_
              refine WQ.y rfl (Yld.iload 0 tab_ok k81.rd rfl rfl (iltN h66 rfl)) ?_
              refine WQ.y rfl (Yld.pure tab_ok rfl) ?_
              refine WQ.y rfl (Yld.pure tab_ok rfl) ?_
              refine WQ.y rfl (Yld.pure tab_ok rfl) ?_
              obtain ⟨h67, H⟩ := H
              refine WQ.y rfl (Yld.iaddrW tab_ok k81.rd rfl rfl rfl rfl h67.1 h67.2) ?_
              refine WQ.y rfl (Yld.iload 0 tab_ok k81.rd rfl rfl (iltN h67 rfl)) ?_
              refine WQ.y rfl (Yld.pure tab_ok rfl) ?_
              obtain ⟨h68, H⟩ := H
              refine WQ.y rfl (Yld.iaddrW tab_ok k81.rd rfl rfl rfl rfl h68.1 h68.2) ?_
              refine WQ.y rfl (Yld.iload 0 tab_ok k81.rd rfl rfl (iltN h68 rfl)) ?_
              refine WQ.y rfl (Yld.pure tab_ok rfl) ?_
              refine WQ.y rfl (Yld.pure tab_ok rfl) ?_
              refine WQ.y rfl (Yld.pure tab_ok rfl) ?_
              refine WQ.nil (WX.then_normal ?_)
              refine WC.chainF (fun k => !(Nat.beq k 28)) (LD [7, 10, 13, 16, 21, 24, 27] (fun w' => Rd vu w' A_v2 c_v2 v)) mixed (by kernel_rfl) (fun k w' h _ => (rd_eqv h k81.rd)) ?_
              refine WJ.y rfl rfl (fun w' hw' => Yld.pure tab_ok rfl) ?_
              refine WJ.y rfl rfl (fun w' hw' => Yld.pure tab_ok rfl) ?_
              refine WJ.y rfl rfl (fun w' hw' => Yld.pure tab_ok rfl) ?_
              refine WJ.y rfl rfl (fun w' hw' => Yld.pure tab_ok rfl) ?_
              refine WJ.y rfl rfl (fun w' hw' => Yld.pure tab_ok rfl) ?_
              refine WJ.y rfl rfl (fun w' hw' => Yld.pure tab_ok rfl) ?_
              obtain ⟨h69, H⟩ := H
              refine WJ.y rfl rfl (fun w' hw' => Yld.iaddrW tab_ok k81.rd rfl rfl rfl rfl h69.1 h69.2) ?_
              refine WJ.y rfl rfl (fun w' hw' => Yld.iload 0 tab_ok (hw' rfl) rfl rfl (iltN h69 rfl)) ?_
              refine WJ.y rfl rfl (fun w' hw' => Yld.pure tab_ok rfl) ?_
              obtain ⟨h70, H⟩ := H
              refine WJ.y rfl rfl (fun w' hw' => Yld.iaddrW tab_ok k81.rd rfl rfl rfl rfl h70.1 h70.2) ?_
              refine WJ.y rfl rfl (fun w' hw' => Yld.iload 0 tab_ok (hw' rfl) rfl rfl (iltN h70 rfl)) ?_
              refine WJ.y rfl rfl (fun w' hw' => Yld.pure tab_ok rfl) ?_
              obtain ⟨h71, H⟩ := H
              refine WJ.y rfl rfl (fun w' hw' => Yld.iaddrW tab_ok k81.rd rfl rfl rfl rfl h71.1 h71.2) ?_
              refine WJ.y rfl rfl (fun w' hw' => Yld.iload 0 tab_ok (hw' rfl) rfl rfl (iltN h71 rfl)) ?_
              refine WJ.y rfl rfl (fun w' hw' => Yld.pure tab_ok rfl) ?_
              obtain ⟨h72, H⟩ := H
              refine WJ.y rfl rfl (fun w' hw' => Yld.iaddrW tab_ok k81.rd rfl rfl rfl rfl h72.1 h72.2) ?_
              refine WJ.y rfl rfl (fun w' hw' => Yld.iload 0 tab_ok (hw' rfl) rfl rfl (iltN h72 rfl)) ?_
              refine WJ.y rfl rfl (fun w' hw' => Yld.pure tab_ok rfl) ?_
              refine WJ.y rfl rfl (fun w' hw' => Yld.pure tab_ok rfl) ?_
              refine WJ.y rfl rfl (fun w' hw' => Yld.pure tab_ok rfl) ?_
              obtain ⟨h73, H⟩ := H
              refine WJ.y rfl rfl (fun w' hw' => Yld.iaddrW tab_ok k81.rd rfl rfl rfl rfl h73.1 h73.2) ?_
              refine WJ.y rfl rfl (fun w' hw' => Yld.iload 0 tab_ok (hw' rfl) rfl rfl (iltN h73 rfl)) ?_
              refine WJ.y rfl rfl (fun w' hw' => Yld.pure tab_ok rfl) ?_
              obtain ⟨h74, H⟩ := H
              refine WJ.y rfl rfl (fun w' hw' => Yld.iaddrW tab_ok k81.rd rfl rfl rfl rfl h74.1 h74.2) ?_
              refine WJ.y rfl rfl (fun w' hw' => Yld.iload 0 tab_ok (hw' rfl) rfl rfl (iltN h74 rfl)) ?_
              refine WJ.y rfl rfl (fun w' hw' => Yld.pure tab_ok rfl) ?_
              obtain ⟨h75, H⟩ := H
              refine WJ.y rfl rfl (fun w' hw' => Yld.iaddrW tab_ok k81.rd rfl rfl rfl rfl h75.1 h75.2) ?_
              refine WJ.y rfl rfl (fun w' hw' => Yld.iload 0 tab_ok (hw' rfl) rfl rfl (iltN h75 rfl)) ?_
              refine WJ.putw rfl (wants_none) rfl (Eff.lit tab_ok rfl rfl (all1c rfl (all1c rfl (all1c rfl (all1c rfl (all1c rfl (all1c rfl (all1c rfl (all1c rfl all1n)))))))) rfl (by omega)) (fun v w' ⟨_, _, h⟩ => DD.keep (Rd.grown k81.rd (gr_eqv h (Eqv.refl _)))) ?_
              rintro _ w23 ⟨rfl, hB6, hg17⟩
              obtain ⟨g_v, hl9⟩ : ∃ g, g = w22.heap.size := ⟨_, rfl⟩
              rw [← hl9] at hB6
              rw [← hl9]
              have hO15 : Own vu w23 w.heap.size 124 (some ⟨g_v, 0, none⟩) 8 ([IntKind.wrap .u32 ((IntKind.wrap .u32 ((IntKind.wrap .u32 ((IntKind.wrap .u32 ((IntKind.wrap .u32 ((IntKind.wrap .u32 ((v.getD 7 0) + (bits .xor .u32 (bits .xor .u32 t187 t191) t196))) + (bits .xor .u32 (bits .and .u32 (v.getD 4 0) (v.getD 5 0)) (bits .and .u32 (bits .xor .u32 (if IntKind.signed .u32 then -1 else IntKind.max .u32) (v.getD 4 0)) (v.getD 6 0))))) + (k.getD i4.toNat 0))) + (w_2.getD i4.toNat 0))) + (bits .xor .u32 (bits .xor .u32 t234 t238) t243))) + (bits .xor .u32 (bits .xor .u32 (bits .and .u32 (v.getD 0 0) (v.getD 1 0)) (bits .and .u32 (v.getD 0 0) (v.getD 2 0))) (bits .and .u32 (v.getD 1 0) (v.getD 2 0)))), v.getD 0 0, v.getD 1 0, v.getD 2 0, IntKind.wrap .u32 ((v.getD 3 0) + (IntKind.wrap .u32 ((IntKind.wrap .u32 ((IntKind.wrap .u32 ((IntKind.wrap .u32 ((v.getD 7 0) + (bits .xor .u32 (bits .xor .u32 t187 t191) t196))) + (bits .xor .u32 (bits .and .u32 (v.getD 4 0) (v.getD 5 0)) (bits .and .u32 (bits .xor .u32 (if IntKind.signed .u32 then -1 else IntKind.max .u32) (v.getD 4 0)) (v.getD 6 0))))) + (k.getD i4.toNat 0))) + (w_2.getD i4.toNat 0)))), v.getD 4 0, v.getD 5 0, v.getD 6 0] : List Int) := Own.ofBl hB6 (Nat.le_trans (size_le gr22) (Nat.le_of_eq hl9.symm)) (by simp [maxLen]) rfl
              have gr23 := gr_trans gr22 hg17
              have k82 := k76.g0 hg17
              have k83 := k77.grown hg17
              have k84 := k78.grown hg17
              have k85 := k79.grown hg17
              have k86 := k80.grown hg17
              have k87 := k81.grown hg17
              refine WJ.y rfl rfl (fun w' hw' => Yld.pure tab_ok rfl) ?_
              refine WJ.nil (WX.block_normal (WX.then_normal ?_))
              refine WC.region ?_
              refine WL.y rfl (Yld.pure tab_ok rfl) ?_
              obtain ⟨h76, H⟩ := H
              refine WL.y rfl (Yld.add rfl rfl h76) ?_
              refine WL.y rfl (Yld.pure tab_ok rfl) ?_
              refine WL.nil ?_
              exact WX.roundF _ ⟨([IntKind.wrap .u32 ((IntKind.wrap .u32 ((IntKind.wrap .u32 ((IntKind.wrap .u32 ((IntKind.wrap .u32 ((IntKind.wrap .u32 ((v.getD 7 0) + (bits .xor .u32 (bits .xor .u32 t187 t191) t196))) + (bits .xor .u32 (bits .and .u32 (v.getD 4 0) (v.getD 5 0)) (bits .and .u32 (bits .xor .u32 (if IntKind.signed .u32 then -1 else IntKind.max .u32) (v.getD 4 0)) (v.getD 6 0))))) + (k.getD i4.toNat 0))) + (w_2.getD i4.toNat 0))) + (bits .xor .u32 (bits .xor .u32 t234 t238) t243))) + (bits .xor .u32 (bits .xor .u32 (bits .and .u32 (v.getD 0 0) (v.getD 1 0)) (bits .and .u32 (v.getD 0 0) (v.getD 2 0))) (bits .and .u32 (v.getD 1 0) (v.getD 2 0)))), v.getD 0 0, v.getD 1 0, v.getD 2 0, IntKind.wrap .u32 ((v.getD 3 0) + (IntKind.wrap .u32 ((IntKind.wrap .u32 ((IntKind.wrap .u32 ((IntKind.wrap .u32 ((v.getD 7 0) + (bits .xor .u32 (bits .xor .u32 t187 t191) t196))) + (bits .xor .u32 (bits .and .u32 (v.getD 4 0) (v.getD 5 0)) (bits .and .u32 (bits .xor .u32 (if IntKind.signed .u32 then -1 else IntKind.max .u32) (v.getD 4 0)) (v.getD 6 0))))) + (k.getD i4.toNat 0))) + (w_2.getD i4.toNat 0)))), v.getD 4 0, v.getD 5 0, v.getD 6 0] : List Int), (some ⟨g_v, 0, none⟩), 8, 8, i4 + (1 : Int), rfl, rfl, H.1, rfl, gr23, k82, k83, k84, k85, k86, hO15, dj39, dj40, dj41, dj42, (Dj.new k76.lt' (Ge.box (Nat.le_of_eq hl9.symm))), dj44, dj45, dj46, (Dj.new k77.lt' (Ge.box (Nat.le_of_eq hl9.symm))), dj48, dj49, (Dj.new k78.lt' (Ge.box (Nat.le_of_eq hl9.symm))), dj51, (Dj.new k79.lt' (Ge.box (Nat.le_of_eq hl9.symm))), (Dj.new k80.lt' (Ge.box (Nat.le_of_eq hl9.symm)))⟩ (by repeat (first | exact Sub.nil | refine Sub.cons rfl ?_)) H.2
            · replace H := H.2 (of_decide_eq_false b6)
              refine WC.exit (WX.then_exit (WX.then_exit (WX.block_same (WX.then_normal ?_))))
              refine WC.seq ?_
              refine WC.region ?_
              refine WL.y rfl (Yld.pure tab_ok rfl) ?_
              refine WL.nil (WX.then_normal ?_)
              refine WC.block ?_
              obtain ⟨I7, mu7, h0_7, HR7⟩ := H
              refine WC.loopF (fun n' L' w' => ∃ (i5 : Int), ∃ (h2 : List Int), n' = mu7 i5 h2 ∧ L' = [(2, .pointer (some ⟨g1, 0, none⟩)), (3, .slice A_k k.length c_k), (4, .slice (some ⟨g2, 0, none⟩) 8 8), (5, .slice A_m5 m2.length c_m5), (8, .int .i64 at_), (14, .slice A_v2 v.length c_v2), (21, .int .i64 i5)] ∧ I7 i5 h2 ∧ 8 = h2.length ∧ w.grownBy w' none ∧ Bl w' g1 38 (a32 (List.replicate 32 0 : List UInt8)) ∧ Own vu w' w.heap.size 124 A_k c_k k ∧ Own vu w' w.heap.size 124 (some ⟨g2, 0, none⟩) 8 h2 ∧ Own vb w' w.heap.size 5 A_m5 c_m5 m2 ∧ Own vu w' w.heap.size 124 A_v2 c_v2 v ∧ Dj (some g1) (blk A_k) ∧ Dj (some g1) (blk (some ⟨g2, 0, none⟩)) ∧ Dj (some g1) (blk A_m5) ∧ Dj (some g1) (blk A_v2) ∧ Dj (blk A_k) (blk (some ⟨g2, 0, none⟩)) ∧ Dj (blk A_k) (blk A_m5) ∧ Dj (blk A_k) (blk A_v2) ∧ Dj (blk (some ⟨g2, 0, none⟩)) (blk A_m5) ∧ Dj (blk (some ⟨g2, 0, none⟩)) (blk A_v2) ∧ Dj (blk A_m5) (blk A_v2)) _ _ ⟨(0 : Int), h, rfl, rfl, h0_7, hn_h, gr22, k76, k77, k78, k79, k81, dj39, dj40, dj41, dj43, dj44, dj45, dj47, dj48, dj50, dj52⟩ (by repeat (first | exact Sub.nil | refine Sub.cons rfl ?_)) ?_
              clear h0_7
              rintro _ _ w24 ⟨i5, h2, rfl, rfl, hI7, hn_h2, gr24, k88, k89, k90, k91, k92, dj54, dj55, dj56, dj57, dj58, dj59, dj60, dj61, dj62, dj63⟩
              have H := HR7 i5 h2 hI7
              replace H := H hn_h2
              refine WC.seq ?_
              refine WC.seq ?_
              refine WC.region ?_
              refine WL.y rfl (Yld.pure tab_ok rfl) ?_
              refine WL.y rfl (Yld.pure tab_ok rfl) ?_
              refine WL.nil (WX.then_normal ?_)
              refine WC.cond rfl (fun b7 => ?_) (fun b7 => ?_)
              · replace H := H.1 (of_decide_eq_true b7)
                refine WC.skip (WX.then_normal ?_)
                refine WC.seq ?_
                refine WC.block ?_
                refine WC.chainF (fun k => !(Nat.beq k 12)) (LD [5, 9] (fun w' => Rd vu w' (some ⟨g2, 0, none⟩) 8 h2 ∧ Rd vu w' A_v2 c_v2 v)) mixed (by kernel_rfl) (fun k w' h _ => ⟨(rd_eqv h k90.rd), (rd_eqv h k92.rd)⟩) ?_
                refine WJ.y rfl rfl (fun w' hw' => Yld.pure tab_ok rfl) ?_
                refine WJ.y rfl rfl (fun w' hw' => Yld.pure tab_ok rfl) ?_
                refine WJ.y rfl rfl (fun w' hw' => Yld.pure tab_ok rfl) ?_
                refine WJ.y rfl rfl (fun w' hw' => Yld.pure tab_ok rfl) ?_
                obtain ⟨h77, H⟩ := H
                refine WJ.y rfl rfl (fun w' hw' => Yld.iaddrW tab_ok k90.rd rfl rfl hn_h2 rfl h77.1 h77.2) ?_
                refine WJ.y rfl rfl (fun w' hw' => Yld.iload 0 tab_ok (hw' rfl).1 rfl rfl (iltN h77 hn_h2)) ?_
                refine WJ.y rfl rfl (fun w' hw' => Yld.pure tab_ok rfl) ?_
                refine WJ.y rfl rfl (fun w' hw' => Yld.pure tab_ok rfl) ?_
                obtain ⟨h78, H⟩ := H
                refine WJ.y rfl rfl (fun w' hw' => Yld.iaddrW tab_ok k92.rd rfl rfl rfl rfl h78.1 h78.2) ?_
                refine WJ.y rfl rfl (fun w' hw' => Yld.iload 0 tab_ok (hw' rfl).2 rfl rfl (iltN h78 rfl)) ?_
                refine WJ.y rfl rfl (fun w' hw' => Yld.pure tab_ok rfl) ?_
                obtain ⟨h79, H⟩ := H
                refine WJ.y rfl rfl (fun w' hw' => Yld.iaddrW tab_ok k90.rd rfl rfl hn_h2 rfl h79.1 h79.2) ?_
                refine WJ.eff rfl (Ef0.ostore (v := IntKind.wrap .u32 ((h2.getD i5.toNat 0) + (v.getD i5.toNat 0))) one124 One.u k90 rfl rfl (iltN h79 hn_h2)) (fun w' h => DD.past (by kernel_rfl)) ?_
                rintro w25 ⟨hO16, hg18⟩
                have gr25 := gr_mod gr24 hg18 k90.ge'
                have k93 := k88.go hg18 dj55
                have k94 := k89.go hg18 dj58
                have k95 := k91.go hg18 dj61.symm
                have k96 := k92.go hg18 dj62.symm
                refine WJ.nil (WX.block_normal (WX.then_normal ?_))
                refine WC.region ?_
                refine WL.y rfl (Yld.pure tab_ok rfl) ?_
                obtain ⟨h80, H⟩ := H
                refine WL.y rfl (Yld.add rfl rfl h80) ?_
                refine WL.y rfl (Yld.pure tab_ok rfl) ?_
                refine WL.nil ?_
                exact WX.roundF _ ⟨i5 + (1 : Int), h2.set i5.toNat (IntKind.wrap .u32 ((h2.getD i5.toNat 0) + (v.getD i5.toNat 0))), rfl, rfl, H.1, (hn_h2.trans List.length_set.symm), gr25, k93, k94, hO16, k95, k96, dj54, dj55, dj56, dj57, dj58, dj59, dj60, dj61, dj62, dj63⟩ (by repeat (first | exact Sub.nil | refine Sub.cons rfl ?_)) H.2
              · replace H := H.2 (of_decide_eq_false b7)
                refine WC.exit (WX.then_exit (WX.then_exit (WX.block_same (WX.block_normal (WX.then_normal ?_)))))
                refine WC.region ?_
                refine WL.y rfl (Yld.pure tab_ok rfl) ?_
                obtain ⟨h81, H⟩ := H
                refine WL.y rfl (Yld.add rfl rfl h81) ?_
                refine WL.y rfl (Yld.pure tab_ok rfl) ?_
                refine WL.nil ?_
                exact WX.roundF _ ⟨at_ + (64 : Int), h2, rfl, rfl, H.1, hn_h2, gr24, k88, k89, k90, k91, dj54, dj55, dj56, dj58, dj59, dj61⟩ (by repeat (first | exact Sub.nil | refine Sub.cons rfl ?_)) H.2
      · replace H := H.2 (of_decide_eq_false b3)
        refine WC.exit (WX.then_exit (WX.then_exit (WX.block_same (WX.then_normal ?_))))
        refine WC.seq ?_
        refine WC.region ?_
        refine WL.alloc rfl zero38 (fun g9 w26 hB7 hg19 hl10 => ?_)
        rw [a32_zero] at hB7
        have gr26 := gr_trans gr14 hg19
        have k97 := k40.g0 hg19
        have k98 := k42.grown hg19
        refine WL.nil (WX.then_normal ?_)
        refine WC.seq ?_
        refine WC.seq ?_
        refine WC.region ?_
        refine WL.y rfl (Yld.pure tab_ok rfl) ?_
        refine WL.nil (WX.then_normal ?_)
        refine WC.block ?_
        obtain ⟨I8, mu8, h0_8, HR8⟩ := H
        refine WC.loopF (fun n' L' w' => ∃ (i6 : Int), ∃ (out0 : List UInt8), n' = mu8 i6 out0 ∧ L' = [(2, .pointer (some ⟨g1, 0, none⟩)), (4, .slice (some ⟨g2, 0, none⟩) 8 8), (22, .pointer (some ⟨g9, 0, none⟩)), (23, .int .i64 i6)] ∧ I8 i6 out0 ∧ w.grownBy w' none ∧ Bl w' g1 38 (a32 (List.replicate 32 0 : List UInt8)) ∧ Own vu w' w.heap.size 124 (some ⟨g2, 0, none⟩) 8 h ∧ Bl w' g9 38 (a32 out0) ∧ Dj (some g1) (blk (some ⟨g2, 0, none⟩)) ∧ Dj (some g1) (some g9) ∧ Dj (blk (some ⟨g2, 0, none⟩)) (some g9)) _ _ ⟨(0 : Int), (List.replicate 32 0 : List UInt8), rfl, rfl, h0_8, gr26, k97, k98, hB7, dj14, (Dj.new k40.lt' (Ge.box hl10)), (Dj.new k42.lt' (Ge.box hl10))⟩ (by repeat (first | exact Sub.nil | refine Sub.cons rfl ?_)) ?_
        clear h0_8
        rintro _ _ w27 ⟨i6, out0, rfl, rfl, hI8, gr27, k99, k100, k101, dj64, dj65, dj66⟩
        have H := HR8 i6 out0 hI8
        refine WC.seq ?_
        refine WC.seq ?_
        refine WC.region ?_
        refine WL.y rfl (Yld.pure tab_ok rfl) ?_
        refine WL.y rfl (Yld.pure tab_ok rfl) ?_
        refine WL.nil (WX.then_normal ?_)
        refine WC.cond rfl (fun b8 => ?_) (fun b8 => ?_)
        · replace H := H.1 (of_decide_eq_true b8)
          refine WC.skip (WX.then_normal ?_)
          refine WC.seq ?_
          refine WC.block ?_
          refine WC.seq ?_
          refine WC.region ?_
          refine WL.y rfl (Yld.pure tab_ok rfl) ?_
          refine WL.nil (WX.then_normal ?_)
          refine WC.block ?_
          obtain ⟨I9, mu9, h0_9, HR9⟩ := H
          refine WC.loopF (fun n' L' w' => ∃ (j : Int), ∃ (out02 : List UInt8), n' = mu9 j out02 ∧ L' = [(2, .pointer (some ⟨g1, 0, none⟩)), (4, .slice (some ⟨g2, 0, none⟩) 8 8), (22, .pointer (some ⟨g9, 0, none⟩)), (23, .int .i64 i6), (24, .int .i64 j)] ∧ I9 j out02 ∧ w.grownBy w' none ∧ Bl w' g1 38 (a32 (List.replicate 32 0 : List UInt8)) ∧ Own vu w' w.heap.size 124 (some ⟨g2, 0, none⟩) 8 h ∧ Bl w' g9 38 (a32 out02) ∧ Dj (some g1) (blk (some ⟨g2, 0, none⟩)) ∧ Dj (some g1) (some g9) ∧ Dj (blk (some ⟨g2, 0, none⟩)) (some g9)) _ _ ⟨(0 : Int), out0, rfl, rfl, h0_9, gr27, k99, k100, k101, dj64, dj65, dj66⟩ (by repeat (first | exact Sub.nil | refine Sub.cons rfl ?_)) ?_
          clear h0_9
          rintro _ _ w28 ⟨j, out02, rfl, rfl, hI9, gr28, k102, k103, k104, dj67, dj68, dj69⟩
          have H := HR9 j out02 hI9
          refine WC.seq ?_
          refine WC.seq ?_
          refine WC.region ?_
          refine WL.y rfl (Yld.pure tab_ok rfl) ?_
          refine WL.y rfl (Yld.pure tab_ok rfl) ?_
          refine WL.nil (WX.then_normal ?_)
          refine WC.cond rfl (fun b9 => ?_) (fun b9 => ?_)
          · replace H := H.1 (of_decide_eq_true b9)
            refine WC.skip (WX.then_normal ?_)
            refine WC.seq ?_
            refine WC.block ?_
            refine WC.region ?_
            refine WL.y rfl (Yld.pure tab_ok rfl) ?_
            obtain ⟨h82, H⟩ := H
            refine WL.y rfl (Yld.mul rfl rfl h82) ?_
            refine WL.y rfl (Yld.pure tab_ok rfl) ?_
            obtain ⟨h83, H⟩ := H
            refine WL.y rfl (Yld.add rfl rfl h83) ?_
            refine WL.y rfl (Yld.pure tab_ok rfl) ?_
            refine WL.y rfl (Yld.pure tab_ok rfl) ?_
            obtain ⟨h84, H⟩ := H
            refine WL.y rfl (Yld.iaddrW tab_ok k103.rd rfl rfl hn_h rfl h84.1 h84.2) ?_
            refine WL.y rfl (Yld.iload 0 tab_ok k103.rd rfl rfl (iltN h84 hn_h)) ?_
            refine WL.y rfl (Yld.pure tab_ok rfl) ?_
            obtain ⟨h85, H⟩ := H
            refine WL.y rfl (Yld.mul rfl rfl h85) ?_
            obtain ⟨h86, H⟩ := H
            refine WL.y rfl (Yld.sub rfl rfl h86) ?_
            refine WL.y rfl (Yld.pure tab_ok rfl) ?_
            obtain ⟨h87, H⟩ := H
            refine WL.y rfl (Yld.shr rfl rfl h87) ?_
            refine WL.y rfl (Yld.pure tab_ok rfl) ?_
            obtain ⟨h88, H⟩ := H
            refine WL.y rfl (Yld.aaddr tab_ok rfl rfl rfl h88.1 h88.2) ?_
            obtain ⟨h89, H⟩ := H
            obtain ⟨h90, H⟩ := H
            refine WL.store1 (u := vb (UInt8.ofNat (IntKind.wrap .u8 (shrV .u32 (h.getD i6.toNat 0) (IntKind.wrap .u64 ((24 : Int) - ((8 : Int) * j))).toNat)).toNat)) one5 rfl (byte_eq h89) rfl k104 (a32_lt (lt32 h88)) (fun w29 hB8 hg20 => ?_)
            have hB9 : Bl w29 g9 38 (a32 (out02.set ((((4 : Int) * i6) + j).toNat) (UInt8.ofNat (IntKind.wrap .u8 (shrV .u32 (h.getD i6.toNat 0) (IntKind.wrap .u64 ((24 : Int) - ((8 : Int) * j))).toNat)).toNat))) := a32_setO h90 ▸ hB8
            have gr29 := gr_mod gr28 hg20 (Ge.le (Ge.box hl10) (size_le gr14))
            have k105 := k102.go hg20 dj68
            have k106 := k103.go hg20 dj69
            refine WL.nil (WX.block_normal (WX.then_normal ?_))
            refine WC.region ?_
            refine WL.y rfl (Yld.pure tab_ok rfl) ?_
            obtain ⟨h91, H⟩ := H
            refine WL.y rfl (Yld.add rfl rfl h91) ?_
            refine WL.y rfl (Yld.pure tab_ok rfl) ?_
            refine WL.nil ?_
            exact WX.roundF _ ⟨j + (1 : Int), out02.set ((((4 : Int) * i6) + j).toNat) (UInt8.ofNat (IntKind.wrap .u8 (shrV .u32 (h.getD i6.toNat 0) (IntKind.wrap .u64 ((24 : Int) - ((8 : Int) * j))).toNat)).toNat), rfl, rfl, H.1, gr29, k105, k106, hB9, dj67, dj68, dj69⟩ (by repeat (first | exact Sub.nil | refine Sub.cons rfl ?_)) H.2
          · replace H := H.2 (of_decide_eq_false b9)
            refine WC.exit (WX.then_exit (WX.then_exit (WX.block_same (WX.block_normal (WX.then_normal ?_)))))
            refine WC.region ?_
            refine WL.y rfl (Yld.pure tab_ok rfl) ?_
            obtain ⟨h92, H⟩ := H
            refine WL.y rfl (Yld.add rfl rfl h92) ?_
            refine WL.y rfl (Yld.pure tab_ok rfl) ?_
            refine WL.nil ?_
            exact WX.roundF _ ⟨i6 + (1 : Int), out02, rfl, rfl, H.1, gr28, k102, k103, k104, dj67, dj68, dj69⟩ (by repeat (first | exact Sub.nil | refine Sub.cons rfl ?_)) H.2
        · replace H := H.2 (of_decide_eq_false b8)
          refine WC.exit (WX.then_exit (WX.then_exit (WX.block_same (WX.then_normal ?_))))
          refine WC.seq ?_
          refine WC.region ?_
          refine WL.y rfl (Yld.bagg (vs := (a32 out0)) tab_ok k101 rfl rfl rfl rfl) ?_
          refine WL.storeW (vs := (a32 out0)) tab_ok rfl rfl rfl (all1a (a32_one _) all1n) k99 rfl rfl (fun w30 hB10 hg21 => ?_)
          have gr30 := gr_mod gr27 hg21 (Ge.le (Ge.box hl1) (Nat.le_refl _))
          refine WL.nil (WX.then_normal ?_)
          refine WC.ret ?_
          exact WX.retc tab_ok rfl rfl rfl hB10 rfl ⟨gr30, out0, rfl, H⟩

set_option maxHeartbeats 8000000 in
theorem W_smithyref1_Many {w : World} {l : List (List UInt8)} {A_l : Option Addr} {c_l : Nat} {n_l : Nat} {K : (List UInt8) → Prop} (hl : Rd vs w A_l c_l l) (hn_l : n_l = l.length) (H : M_smithyref1_Many l K) : Fn Tryd.prog 70 ⟨[.slice A_l n_l c_l]⟩ w (fun v w' => w.grownBy w' none ∧ ∃ (r : List UInt8), v = .agg ⟨a32 r⟩ ∧ K r) := by
  subst hn_l
  unfold M_smithyref1_Many at H
  refine Fn.enter (by kernel_rfl) Tryd.func70 rfl Tryd.ntmps70 rfl ?_
  replace H := H (Nat.le_trans hl.cap hl.max)
  refine WC.seq ?_
  refine WC.region ?_
  refine WL.alloc rfl zero38 (fun g1 w1 hB1 hg1 hl1 => ?_)
  rw [a32_zero] at hB1
  have gr1 := hg1
  refine WL.nil (WX.then_normal ?_)
  refine WC.seq ?_
  refine WC.region ?_
  refine WL.y rfl (Yld.pure tab_ok rfl) ?_
  refine WL.nil (WX.then_normal ?_)
  refine WC.seq ?_
  refine WC.seq ?_
  refine WC.region ?_
  refine WL.y rfl (Yld.pure tab_ok rfl) ?_
  refine WL.nil (WX.then_normal ?_)
  refine WC.block ?_
  obtain ⟨I1, mu1, h0_1, HR1⟩ := H
  refine WC.loopF (fun n' L' w' => ∃ (m : List UInt8), ∃ (A_m : Option Addr), ∃ (c_m : Nat), ∃ (n_m : Nat), ∃ (i : Int), n' = mu1 m i ∧ L' = [(0, .slice A_l l.length c_l), (2, .pointer (some ⟨g1, 0, none⟩)), (3, .slice A_m n_m c_m), (4, .int .i64 i)] ∧ I1 m i ∧ n_m = m.length ∧ w.grownBy w' none ∧ Bl w' g1 38 (a32 (List.replicate 32 0 : List UInt8)) ∧ Own vb w' w.heap.size 5 A_m c_m m ∧ Dj (some g1) (blk A_m)) _ _ ⟨[], none, 0, 0, (0 : Int), rfl, rfl, h0_1, rfl, gr1, hB1, (Own.nil vb w1 w.heap.size 5), Dj.nr⟩ (by repeat (first | exact Sub.nil | refine Sub.cons rfl ?_)) ?_
  clear h0_1
  rintro _ _ w2 ⟨m, A_m, c_m, n_m, i, rfl, rfl, hI1, rfl, gr2, k1, k2, dj1⟩
  have H := HR1 m i hI1
  refine WC.seq ?_
  refine WC.seq ?_
  refine WC.region ?_
  refine WL.y rfl (Yld.pure tab_ok rfl) ?_
  refine WL.y rfl (Yld.pure tab_ok rfl) ?_
  refine WL.y rfl (Yld.pure tab_ok rfl) ?_
  refine WL.y rfl (Yld.pure tab_ok rfl) ?_
  refine WL.nil (WX.then_normal ?_)
  refine WC.cond rfl (fun b1 => ?_) (fun b1 => ?_)
  · replace H := H.1 (of_decide_eq_true b1)
    refine WC.skip (WX.then_normal ?_)
    refine WC.seq ?_
    refine WC.block ?_
    refine WC.seq ?_
    refine WC.region ?_
    refine WL.y rfl (Yld.pure tab_ok rfl) ?_
    refine WL.y rfl (Yld.pure tab_ok rfl) ?_
    obtain ⟨h1, H⟩ := H
    refine WL.y rfl (Yld.iaddrW tab_ok (hl.grown gr2) rfl rfl rfl rfl h1.1 h1.2) ?_
    refine WL.y rfl (Yld.iload [] tab_ok (hl.grown gr2) rfl rfl (iltN h1 rfl)) ?_
    refine WL.y rfl (Yld.pure tab_ok rfl) ?_
    refine WL.y rfl (Yld.pure tab_ok rfl) ?_
    refine WL.nil (WX.then_normal ?_)
    refine WC.seq ?_
    refine WC.region ?_
    refine WL.y rfl (Yld.pure tab_ok rfl) ?_
    refine WL.y rfl (Yld.pure tab_ok rfl) ?_
    refine WL.y rfl (Yld.shr rfl rfl (by omega)) ?_
    refine WL.y rfl (Yld.pure tab_ok rfl) ?_
    refine WL.y rfl (Yld.pure tab_ok rfl) ?_
    refine WL.y rfl (Yld.shr rfl rfl (by omega)) ?_
    refine WL.y rfl (Yld.pure tab_ok rfl) ?_
    refine WL.y rfl (Yld.pure tab_ok rfl) ?_
    refine WL.y rfl (Yld.shr rfl rfl (by omega)) ?_
    refine WL.y rfl (Yld.pure tab_ok rfl) ?_
    refine WL.y rfl (Yld.pure tab_ok rfl) ?_
    refine WL.y rfl (Yld.pure tab_ok rfl) ?_
    obtain ⟨h2, H⟩ := H
    obtain ⟨h3, H⟩ := H
    obtain ⟨h4, H⟩ := H
    obtain ⟨h5, H⟩ := H
    refine WL.lit tab_ok rfl rfl rfl (all1c rfl (all1c rfl (all1c rfl (all1c rfl all1n)))) rfl (by omega) (fun g2 w3 hB2 hg2 hl2 => ?_)
    replace hB2 : Bl w3 g2 5 (([UInt8.ofNat (IntKind.wrap .u8 (shrV .i64 ((l.getD i.toNat []).length : Int) 24)).toNat, UInt8.ofNat (IntKind.wrap .u8 (shrV .i64 ((l.getD i.toNat []).length : Int) 16)).toNat, UInt8.ofNat (IntKind.wrap .u8 (shrV .i64 ((l.getD i.toNat []).length : Int) 8)).toNat, UInt8.ofNat (IntKind.wrap .u8 ((l.getD i.toNat []).length : Int)).toNat] : List UInt8).map vb) := Bl.cast (lcons (byte_eq' h2) (lcons (byte_eq' h3) (lcons (byte_eq' h4) (lcons (byte_eq' h5) lnil)))) hB2
    have hO1 : Own vb w3 w.heap.size 5 (some ⟨g2, 0, none⟩) 4 ([UInt8.ofNat (IntKind.wrap .u8 (shrV .i64 ((l.getD i.toNat []).length : Int) 24)).toNat, UInt8.ofNat (IntKind.wrap .u8 (shrV .i64 ((l.getD i.toNat []).length : Int) 16)).toNat, UInt8.ofNat (IntKind.wrap .u8 (shrV .i64 ((l.getD i.toNat []).length : Int) 8)).toNat, UInt8.ofNat (IntKind.wrap .u8 ((l.getD i.toNat []).length : Int)).toNat] : List UInt8) := Own.ofBl hB2 (Nat.le_trans (size_le gr2) hl2) (by simp [maxLen]) rfl
    have gr3 := gr_trans gr2 hg2
    have k3 := k1.g0 hg2
    have k4 := k2.grown hg2
    obtain ⟨h6, H⟩ := H
    refine WL.append tab_ok rfl rfl One.b k4 rfl rfl hO1.rd rfl rfl h6 (applen h6) (size_le gr3) (fun A_m2 c_m2 w4 hO2 hg3 hk1 => ?_)
    have gr4 := gr_mod gr3 hg3 k4.ge'
    have k5 := k3.go hg3 dj1
    refine WL.y rfl (Yld.pure tab_ok rfl) ?_
    refine WL.nil (WX.then_normal ?_)
    refine WC.region ?_
    refine WL.y rfl (Yld.pure tab_ok rfl) ?_
    refine WL.y rfl (Yld.pure tab_ok rfl) ?_
    refine WL.y rfl (Yld.pure tab_ok rfl) ?_
    obtain ⟨h7, H⟩ := H
    refine WL.y rfl (Yld.iaddrW tab_ok (hl.grown gr4) rfl rfl rfl rfl h7.1 h7.2) ?_
    refine WL.y rfl (Yld.iload [] tab_ok (hl.grown gr4) rfl rfl (iltN h7 rfl)) ?_
    obtain ⟨h8, H⟩ := H
    refine WL.appendS tab_ok rfl rfl rfl hO2 rfl rfl rfl h8 (applen h8) (size_le gr4) (fun A_m3 c_m3 w5 hO3 hg4 hk2 => ?_)
    have gr5 := gr_mod gr4 hg4 hO2.ge'
    have k6 := k5.go hg4 ((Dj.app dj1.symm k3.lt' hk1).symm)
    refine WL.y rfl (Yld.pure tab_ok rfl) ?_
    refine WL.nil (WX.block_normal (WX.then_normal ?_))
    refine WC.region ?_
    refine WL.y rfl (Yld.pure tab_ok rfl) ?_
    obtain ⟨h9, H⟩ := H
    refine WL.y rfl (Yld.add rfl rfl h9) ?_
    refine WL.y rfl (Yld.pure tab_ok rfl) ?_
    refine WL.nil ?_
    exact WX.roundF _ ⟨(m ++ ([UInt8.ofNat (IntKind.wrap .u8 (shrV .i64 ((l.getD i.toNat []).length : Int) 24)).toNat, UInt8.ofNat (IntKind.wrap .u8 (shrV .i64 ((l.getD i.toNat []).length : Int) 16)).toNat, UInt8.ofNat (IntKind.wrap .u8 (shrV .i64 ((l.getD i.toNat []).length : Int) 8)).toNat, UInt8.ofNat (IntKind.wrap .u8 ((l.getD i.toNat []).length : Int)).toNat] : List UInt8)) ++ (l.getD i.toNat []), A_m3, c_m3, ((m ++ ([UInt8.ofNat (IntKind.wrap .u8 (shrV .i64 ((l.getD i.toNat []).length : Int) 24)).toNat, UInt8.ofNat (IntKind.wrap .u8 (shrV .i64 ((l.getD i.toNat []).length : Int) 16)).toNat, UInt8.ofNat (IntKind.wrap .u8 (shrV .i64 ((l.getD i.toNat []).length : Int) 8)).toNat, UInt8.ofNat (IntKind.wrap .u8 ((l.getD i.toNat []).length : Int)).toNat] : List UInt8)) ++ (l.getD i.toNat [])).length, i + (1 : Int), rfl, rfl, H.1, rfl, gr5, k6, hO3, (Dj.app (Dj.app dj1.symm k3.lt' hk1) k5.lt' hk2).symm⟩ (by repeat (first | exact Sub.nil | refine Sub.cons rfl ?_)) H.2
  · replace H := H.2 (of_decide_eq_false b1)
    refine WC.exit (WX.then_exit (WX.then_exit (WX.block_same (WX.then_normal ?_))))
    refine WC.seq ?_
    refine WC.region ?_
    refine WL.y rfl (Yld.pure tab_ok rfl) ?_
    refine WL.y rfl (Yld.b2s tab_ok k2.rd rfl rfl rfl rfl rfl) ?_
    refine WL.call rfl rfl (W_smithyref1_Sum H) ?_
    rintro _ w6 ⟨hg5, t39, rfl, H⟩
    have gr6 := gr_trans gr2 hg5
    have k7 := k1.g0 hg5
    refine WL.storeW (vs := (a32 t39)) tab_ok rfl rfl rfl (all1a (a32_one _) all1n) k7 rfl rfl (fun w7 hB3 hg6 => ?_)
    have gr7 := gr_mod gr6 hg6 (Ge.le (Ge.box hl1) (Nat.le_refl _))
    refine WL.nil (WX.then_normal ?_)
    refine WC.ret ?_
    exact WX.retc tab_ok rfl rfl rfl hB3 rfl ⟨gr7, t39, rfl, H⟩

set_option maxHeartbeats 8000000 in
theorem W_smithyref1_Hex {w : World} {s : List UInt8} {K : (List UInt8) → Prop} (H : M_smithyref1_Hex s K) : Fn Tryd.prog 68 ⟨[.agg ⟨a32 s⟩]⟩ w (fun v w' => w.grownBy w' none ∧ ∃ (r : List UInt8), v = vs r ∧ K r) := by
  unfold M_smithyref1_Hex at H
  refine Fn.enter (by kernel_rfl) Tryd.func68 rfl Tryd.ntmps68 rfl ?_
  refine WC.seq ?_
  refine WC.region ?_
  refine WL.box (us := (a32 s)) rfl rfl rfl (fun g1 w1 hB1 hg1 hl1 => ?_)
  have gr1 := hg1
  refine WL.y rfl (Yld.pure tab_ok rfl) ?_
  refine WL.nil (WX.then_normal ?_)
  refine WC.seq ?_
  refine WC.region ?_
  refine WL.y rfl (Yld.pure tab_ok rfl) ?_
  refine WL.nil (WX.then_normal ?_)
  refine WC.seq ?_
  refine WC.region ?_
  obtain ⟨h1, H⟩ := H
  refine WL.makeCI (f := vb) (B := w.heap.size) tab_ok rfl rfl rfl rfl h1.1 h1.2.1 h1.2.2 (size_le gr1) (fun g2 w2 hO1 hg2 hl2 => ?_)
  have gr2 := gr_trans gr1 hg2
  have k1 := hB1.g0 hg2
  refine WL.y rfl (Yld.pure tab_ok rfl) ?_
  refine WL.nil (WX.then_normal ?_)
  refine WC.seq ?_
  refine WC.seq ?_
  refine WC.region ?_
  refine WL.y rfl (Yld.pure tab_ok rfl) ?_
  refine WL.nil (WX.then_normal ?_)
  refine WC.block ?_
  obtain ⟨I1, mu1, h0_1, HR1⟩ := H
  refine WC.loopF (fun n' L' w' => ∃ (out : List UInt8), ∃ (A_out : Option Addr), ∃ (c_out : Nat), ∃ (n_out : Nat), ∃ (i : Int), n' = mu1 out i ∧ L' = [(1, .pointer (some ⟨g1, 0, none⟩)), (3, vs ([48, 49, 50, 51, 52, 53, 54, 55, 56, 57, 97, 98, 99, 100, 101, 102] : List UInt8)), (4, .slice A_out n_out c_out), (5, .int .i64 i)] ∧ I1 out i ∧ n_out = out.length ∧ w.grownBy w' none ∧ Bl w' g1 38 (a32 s) ∧ Own vb w' w.heap.size 5 A_out c_out out ∧ Dj (some g1) (blk A_out)) _ _ ⟨([] : List UInt8), (some ⟨g2, 0, none⟩), 64, 0, (0 : Int), rfl, rfl, h0_1, rfl, gr2, k1, hO1, (Dj.new hB1.lt' (Ge.box hl2))⟩ (by repeat (first | exact Sub.nil | refine Sub.cons rfl ?_)) ?_
  clear h0_1
  rintro _ _ w3 ⟨out, A_out, c_out, n_out, i, rfl, rfl, hI1, rfl, gr3, k2, k3, dj1⟩
  have H := HR1 out i hI1
  refine WC.seq ?_
  refine WC.seq ?_
  refine WC.region ?_
  refine WL.y rfl (Yld.pure tab_ok rfl) ?_
  refine WL.y rfl (Yld.pure tab_ok rfl) ?_
  refine WL.nil (WX.then_normal ?_)
  refine WC.cond rfl (fun b1 => ?_) (fun b1 => ?_)
  · replace H := H.1 (of_decide_eq_true b1)
    refine WC.skip (WX.then_normal ?_)
    refine WC.seq ?_
    refine WC.block ?_
    refine WC.chainF (fun k => !(Nat.beq k 13 || Nat.beq k 14)) (LD [4, 10] (fun w' => Bl w' g1 38 (a32 s))) mixed (by kernel_rfl) (fun k w' h _ => (bl_eqv h k2)) ?_
    refine WJ.y rfl rfl (fun w' hw' => Yld.pure tab_ok rfl) ?_
    refine WJ.y rfl rfl (fun w' hw' => Yld.pure tab_ok rfl) ?_
    refine WJ.y rfl rfl (fun w' hw' => Yld.pure tab_ok rfl) ?_
    obtain ⟨h2, H⟩ := H
    refine WJ.y rfl rfl (fun w' hw' => Yld.aaddr tab_ok rfl rfl rfl h2.1 h2.2) ?_
    refine WJ.y rfl rfl (fun w' hw' => Yld.bload tab_ok (hw' rfl) rfl rfl (a32_getO _ _ (lt32 h2))) ?_
    refine WJ.y rfl rfl (fun w' hw' => Yld.shr rfl rfl (by omega)) ?_
    obtain ⟨h3, H⟩ := H
    refine WJ.y rfl rfl (fun w' hw' => Yld.sidx tab_ok rfl rfl rfl h3.1 h3.2) ?_
    refine WJ.y rfl rfl (fun w' hw' => Yld.pure tab_ok rfl) ?_
    refine WJ.y rfl rfl (fun w' hw' => Yld.pure tab_ok rfl) ?_
    obtain ⟨h4, H⟩ := H
    refine WJ.y rfl rfl (fun w' hw' => Yld.aaddr tab_ok rfl rfl rfl h4.1 h4.2) ?_
    refine WJ.y rfl rfl (fun w' hw' => Yld.bload tab_ok (hw' rfl) rfl rfl (a32_getO _ _ (lt32 h4))) ?_
    refine WJ.y rfl rfl (fun w' hw' => Yld.pure tab_ok rfl) ?_
    obtain ⟨h5, H⟩ := H
    refine WJ.y rfl rfl (fun w' hw' => Yld.sidx tab_ok rfl rfl rfl h5.1 h5.2) ?_
    refine WJ.putw rfl (wants_none) rfl (Eff.lit tab_ok rfl rfl (all1c rfl (all1c rfl all1n)) rfl (by omega)) (fun v w' ⟨_, _, h⟩ => DD.keep (Bl.g0 k2 (gr_eqv h (Eqv.refl _)))) ?_
    rintro _ w4 ⟨rfl, hB2, hg3⟩
    obtain ⟨g_t24, hl3⟩ : ∃ g, g = w3.heap.size := ⟨_, rfl⟩
    rw [← hl3] at hB2
    rw [← hl3]
    have hO2 : Own vb w4 w.heap.size 5 (some ⟨g_t24, 0, none⟩) 2 ([([48, 49, 50, 51, 52, 53, 54, 55, 56, 57, 97, 98, 99, 100, 101, 102] : List UInt8).getD (shrV .u8 ((s.getD i.toNat 0).toNat : Int) 4).toNat 0, ([48, 49, 50, 51, 52, 53, 54, 55, 56, 57, 97, 98, 99, 100, 101, 102] : List UInt8).getD (bits .and .u8 ((s.getD i.toNat 0).toNat : Int) (15 : Int)).toNat 0] : List UInt8) := Own.ofBl hB2 (Nat.le_trans (size_le gr3) (Nat.le_of_eq hl3.symm)) (by simp [maxLen]) rfl
    have gr4 := gr_trans gr3 hg3
    have k4 := k2.g0 hg3
    have k5 := k3.grown hg3
    obtain ⟨h6, H⟩ := H
    refine WJ.putw rfl (wants_none) rfl (Eff.append tab_ok rfl One.b k5 rfl rfl hO2.rd rfl rfl h6 (applen h6) (size_le gr4)) (fun v w' ⟨_, _, _, _, h, _⟩ => DD.keep (Bl.go k4 (gr_eqv h (Eqv.refl _)) dj1)) ?_
    rintro _ w5 ⟨A_out2, c_out2, rfl, hO3, hg4, hk1⟩
    have gr5 := gr_mod gr4 hg4 k5.ge'
    have k6 := k4.go hg4 dj1
    refine WJ.y rfl rfl (fun w' hw' => Yld.pure tab_ok rfl) ?_
    refine WJ.nil (WX.block_normal (WX.then_normal ?_))
    refine WC.region ?_
    refine WL.y rfl (Yld.pure tab_ok rfl) ?_
    obtain ⟨h7, H⟩ := H
    refine WL.y rfl (Yld.add rfl rfl h7) ?_
    refine WL.y rfl (Yld.pure tab_ok rfl) ?_
    refine WL.nil ?_
    exact WX.roundF _ ⟨out ++ ([([48, 49, 50, 51, 52, 53, 54, 55, 56, 57, 97, 98, 99, 100, 101, 102] : List UInt8).getD (shrV .u8 ((s.getD i.toNat 0).toNat : Int) 4).toNat 0, ([48, 49, 50, 51, 52, 53, 54, 55, 56, 57, 97, 98, 99, 100, 101, 102] : List UInt8).getD (bits .and .u8 ((s.getD i.toNat 0).toNat : Int) (15 : Int)).toNat 0] : List UInt8), A_out2, c_out2, (out ++ ([([48, 49, 50, 51, 52, 53, 54, 55, 56, 57, 97, 98, 99, 100, 101, 102] : List UInt8).getD (shrV .u8 ((s.getD i.toNat 0).toNat : Int) 4).toNat 0, ([48, 49, 50, 51, 52, 53, 54, 55, 56, 57, 97, 98, 99, 100, 101, 102] : List UInt8).getD (bits .and .u8 ((s.getD i.toNat 0).toNat : Int) (15 : Int)).toNat 0] : List UInt8)).length, i + (1 : Int), rfl, rfl, H.1, rfl, gr5, k6, hO3, (Dj.app dj1.symm k4.lt' hk1).symm⟩ (by repeat (first | exact Sub.nil | refine Sub.cons rfl ?_)) H.2
  · replace H := H.2 (of_decide_eq_false b1)
    refine WC.exit (WX.then_exit (WX.then_exit (WX.block_same (WX.then_normal ?_))))
    refine WC.seq ?_
    refine WC.region ?_
    refine WL.y rfl (Yld.pure tab_ok rfl) ?_
    refine WL.y rfl (Yld.b2s tab_ok k3.rd rfl rfl rfl rfl rfl) ?_
    refine WL.y rfl (Yld.pure tab_ok rfl) ?_
    refine WL.nil (WX.then_normal ?_)
    refine WC.ret ?_
    exact WX.ret1 rfl rfl ⟨gr3, out, rfl, H⟩

set_option maxHeartbeats 8000000 in
theorem W_smithyref17_SameSum {w : World} {a : List UInt8} {b : List UInt8} {K : Bool → Prop} (H : M_smithyref17_SameSum a b K) : Fn Tryd.prog 22 ⟨[.agg ⟨a32 a⟩, .agg ⟨a32 b⟩]⟩ w (fun v w' => w.grownBy w' none ∧ ∃ (r : Bool), v = .bool r ∧ K r) := by
  unfold M_smithyref17_SameSum at H
  refine Fn.enter (by kernel_rfl) Tryd.func22 rfl Tryd.ntmps22 rfl ?_
  refine WC.seq ?_
  refine WC.region ?_
  refine WL.box (us := (a32 a)) rfl rfl rfl (fun g1 w1 hB1 hg1 hl1 => ?_)
  have gr1 := hg1
  refine WL.box (us := (a32 b)) rfl rfl rfl (fun g2 w2 hB2 hg2 hl2 => ?_)
  have gr2 := gr_trans gr1 hg2
  have k1 := hB1.g0 hg2
  refine WL.y rfl (Yld.pure tab_ok rfl) ?_
  refine WL.nil (WX.then_normal ?_)
  refine WC.seq ?_
  refine WC.chainF (fun k => !(Nat.beq k 1 || Nat.beq k 3)) (LD [0, 2] (fun w' => Bl w' g1 38 (a32 a) ∧ Bl w' g2 38 (a32 b))) mixed (by kernel_rfl) (fun k w' h _ => ⟨(bl_eqv h k1), (bl_eqv h hB2)⟩) ?_
  refine WJ.y rfl rfl (fun w' hw' => Yld.bagg (vs := (a32 a)) tab_ok (hw' rfl).1 rfl rfl rfl rfl) ?_
  refine WJ.call rfl (wants_none) rfl rfl (W_smithyref1_Hex H) (fun v w' h w2 e => DD.keep (⟨(Bl.g0 k1 (gr_eqv h.1 e)), (Bl.g0 hB2 (gr_eqv h.1 e))⟩)) ?_
  rintro _ w3 ⟨hg3, t6, rfl, H⟩
  have gr3 := gr_trans gr2 hg3
  have k2 := k1.g0 hg3
  have k3 := hB2.g0 hg3
  refine WJ.y rfl rfl (fun w' hw' => Yld.bagg (vs := (a32 b)) tab_ok (hw' rfl).2 rfl rfl rfl rfl) ?_
  refine WJ.call rfl (wants_none) rfl rfl (W_smithyref1_Hex H) (fun v w' h w2 e => DD.keep (⟨(Bl.g0 k2 (gr_eqv h.1 e)), (Bl.g0 k3 (gr_eqv h.1 e))⟩)) ?_
  rintro _ w4 ⟨hg4, t8, rfl, H⟩
  have gr4 := gr_trans gr3 hg4
  have k4 := k2.g0 hg4
  have k5 := k3.g0 hg4
  refine WJ.y rfl rfl (fun w' hw' => Yld.pure tab_ok rfl) ?_
  refine WJ.y rfl rfl (fun w' hw' => Yld.pure tab_ok rfl) ?_
  refine WJ.nil (WX.then_normal ?_)
  refine WC.ret ?_
  exact WX.ret1 rfl rfl ⟨gr4, decide (t6 = t8), rfl, H⟩

set_option maxHeartbeats 8000000 in
theorem W_smithyref17_Parts {S : List Nat} {w : World} {tool : Int} {args : List (List UInt8)} {A_args : Option Addr} {c_args : Nat} {inputs : List (List UInt8)} {A_inputs : Option Addr} {c_inputs : Nat} {n_args : Nat} {n_inputs : Nat} {K : (List (List UInt8)) → Prop} (hG : GOK S w) (hS101 : 101 ∈ S) (hargs : Rd vs w A_args c_args args) (hn_args : n_args = args.length) (hinputs : RdK 32 a32 w A_inputs c_inputs inputs) (hn_inputs : n_inputs = inputs.length) (H : M_smithyref17_Parts tool args inputs K) : Fn Tryd.prog 25 ⟨[.int .i64 tool, .slice A_args n_args c_args, .slice A_inputs n_inputs c_inputs]⟩ w (fun v w' => w.grownBy w' none ∧ ∃ (r : List (List UInt8)), ∃ (A_r : Option Addr), ∃ (c_r : Nat), v = .slice A_r r.length c_r ∧ Own vs w' w.heap.size 9 A_r c_r r ∧ K r) := by
  subst hn_args
  subst hn_inputs
  unfold M_smithyref17_Parts at H
  refine Fn.enter (by kernel_rfl) Tryd.func25 rfl Tryd.ntmps25 rfl ?_
  replace H := H (Nat.le_trans hargs.cap hargs.max)
  replace H := H (Nat.le_trans hinputs.cap hinputs.max)
  refine WC.seq ?_
  refine WC.region ?_
  refine WL.y rfl (Yld.pure tab_ok rfl) ?_
  refine WL.nil (WX.then_normal ?_)
  refine WC.seq ?_
  refine WC.region ?_
  refine WL.y rfl (Yld.pure tab_ok rfl) ?_
  refine WL.call rfl rfl (W_strconv_Itoa hG hS101 H) ?_
  rintro _ w1 ⟨hg1, t10, rfl, H⟩
  have gr1 := hg1
  refine WL.y rfl (Yld.pure tab_ok rfl) ?_
  refine WL.y rfl (Yld.pure tab_ok rfl) ?_
  refine WL.call rfl rfl (W_strconv_Itoa (hG.grown gr1) hS101 H) ?_
  rintro _ w2 ⟨hg2, t13, rfl, H⟩
  have gr2 := gr_trans gr1 hg2
  refine WL.lit tab_ok rfl rfl rfl (all1c rfl (all1c rfl (all1c rfl all1n))) rfl (by omega) (fun g1 w3 hB1 hg3 hl1 => ?_)
  have hO1 : Own vs w3 w.heap.size 9 (some ⟨g1, 0, none⟩) 3 ([([115, 109, 105, 116, 104, 121] : List UInt8), t10, t13] : List (List UInt8)) := Own.ofBl hB1 (Nat.le_trans (size_le gr2) hl1) (by simp [maxLen]) rfl
  have gr3 := gr_trans gr2 hg3
  refine WL.y rfl (Yld.pure tab_ok rfl) ?_
  refine WL.nil (WX.then_normal ?_)
  refine WC.seq ?_
  refine WC.region ?_
  refine WL.y rfl (Yld.pure tab_ok rfl) ?_
  refine WL.y rfl (Yld.pure tab_ok rfl) ?_
  obtain ⟨h1, H⟩ := H
  refine WL.append tab_ok rfl rfl One.s hO1 rfl rfl (hargs.grown gr3) rfl rfl h1 (applen h1) (size_le gr3) (fun A_l c_l w4 hO2 hg4 hk1 => ?_)
  have gr4 := gr_mod gr3 hg4 hO1.ge'
  refine WL.y rfl (Yld.pure tab_ok rfl) ?_
  refine WL.nil (WX.then_normal ?_)
  refine WC.seq ?_
  refine WC.seq ?_
  refine WC.region ?_
  refine WL.y rfl (Yld.pure tab_ok rfl) ?_
  refine WL.nil (WX.then_normal ?_)
  refine WC.block ?_
  obtain ⟨I1, mu1, h0_1, HR1⟩ := H
  refine WC.loopF (fun n' L' w' => ∃ (l : List (List UInt8)), ∃ (A_l2 : Option Addr), ∃ (c_l2 : Nat), ∃ (n_l : Nat), ∃ (i : Int), n' = mu1 l i ∧ L' = [(2, .slice A_inputs inputs.length c_inputs), (7, .slice A_l2 n_l c_l2), (8, .int .i64 i)] ∧ I1 l i ∧ n_l = l.length ∧ w.grownBy w' none ∧ Own vs w' w.heap.size 9 A_l2 c_l2 l) _ _ ⟨([([115, 109, 105, 116, 104, 121] : List UInt8), t10, t13] : List (List UInt8)) ++ args, A_l, c_l, (([([115, 109, 105, 116, 104, 121] : List UInt8), t10, t13] : List (List UInt8)) ++ args).length, (0 : Int), rfl, rfl, h0_1, rfl, gr4, hO2⟩ (by repeat (first | exact Sub.nil | refine Sub.cons rfl ?_)) ?_
  clear h0_1
  rintro _ _ w5 ⟨l, A_l2, c_l2, n_l, i, rfl, rfl, hI1, rfl, gr5, k1⟩
  have H := HR1 l i hI1
  refine WC.seq ?_
  refine WC.seq ?_
  refine WC.region ?_
  refine WL.y rfl (Yld.pure tab_ok rfl) ?_
  refine WL.y rfl (Yld.pure tab_ok rfl) ?_
  refine WL.y rfl (Yld.pure tab_ok rfl) ?_
  refine WL.y rfl (Yld.pure tab_ok rfl) ?_
  refine WL.nil (WX.then_normal ?_)
  refine WC.cond rfl (fun b1 => ?_) (fun b1 => ?_)
  · replace H := H.1 (of_decide_eq_true b1)
    refine WC.skip (WX.then_normal ?_)
    refine WC.seq ?_
    refine WC.block ?_
    refine WC.region ?_
    refine WL.y rfl (Yld.pure tab_ok rfl) ?_
    refine WL.y rfl (Yld.pure tab_ok rfl) ?_
    refine WL.y rfl (Yld.pure tab_ok rfl) ?_
    obtain ⟨h2, H⟩ := H
    refine WL.y rfl (Yld.iaddrK tab_ok (hinputs.grown gr5) rfl rfl rfl rfl h2.1 h2.2) ?_
    refine WL.y rfl (Yld.iloadK [] tab_ok (hinputs.grown gr5) rfl rfl (iltN h2 rfl)) ?_
    refine WL.call rfl rfl (W_smithyref1_Hex H) ?_
    rintro _ w6 ⟨hg5, t29, rfl, H⟩
    have gr6 := gr_trans gr5 hg5
    have k2 := k1.grown hg5
    refine WL.lit tab_ok rfl rfl rfl (all1c rfl all1n) rfl (by omega) (fun g2 w7 hB2 hg6 hl2 => ?_)
    have hO3 : Own vs w7 w.heap.size 9 (some ⟨g2, 0, none⟩) 1 ([t29] : List (List UInt8)) := Own.ofBl hB2 (Nat.le_trans (size_le gr6) hl2) (by simp [maxLen]) rfl
    have gr7 := gr_trans gr6 hg6
    have k3 := k2.grown hg6
    obtain ⟨h3, H⟩ := H
    refine WL.append tab_ok rfl rfl One.s k3 rfl rfl hO3.rd rfl rfl h3 (applen h3) (size_le gr7) (fun A_l3 c_l3 w8 hO4 hg7 hk2 => ?_)
    have gr8 := gr_mod gr7 hg7 k3.ge'
    refine WL.y rfl (Yld.pure tab_ok rfl) ?_
    refine WL.nil (WX.block_normal (WX.then_normal ?_))
    refine WC.region ?_
    refine WL.y rfl (Yld.pure tab_ok rfl) ?_
    obtain ⟨h4, H⟩ := H
    refine WL.y rfl (Yld.add rfl rfl h4) ?_
    refine WL.y rfl (Yld.pure tab_ok rfl) ?_
    refine WL.nil ?_
    exact WX.roundF _ ⟨l ++ ([t29] : List (List UInt8)), A_l3, c_l3, (l ++ ([t29] : List (List UInt8))).length, i + (1 : Int), rfl, rfl, H.1, rfl, gr8, hO4⟩ (by repeat (first | exact Sub.nil | refine Sub.cons rfl ?_)) H.2
  · replace H := H.2 (of_decide_eq_false b1)
    refine WC.exit (WX.then_exit (WX.then_exit (WX.block_same (WX.then_normal ?_))))
    refine WC.seq ?_
    refine WC.region ?_
    refine WL.y rfl (Yld.pure tab_ok rfl) ?_
    refine WL.y rfl (Yld.pure tab_ok rfl) ?_
    refine WL.nil (WX.then_normal ?_)
    refine WC.ret ?_
    exact WX.ret1 rfl rfl ⟨gr5, l, A_l2, c_l2, rfl, k1, H⟩

set_option maxHeartbeats 8000000 in
theorem W_smithyref17_Key {S : List Nat} {w : World} {tool : Int} {args : List (List UInt8)} {A_args : Option Addr} {c_args : Nat} {inputs : List (List UInt8)} {A_inputs : Option Addr} {c_inputs : Nat} {n_args : Nat} {n_inputs : Nat} {K : (List UInt8) → Prop} (hG : GOK S w) (hS101 : 101 ∈ S) (hargs : Rd vs w A_args c_args args) (hn_args : n_args = args.length) (hinputs : RdK 32 a32 w A_inputs c_inputs inputs) (hn_inputs : n_inputs = inputs.length) (H : M_smithyref17_Key tool args inputs K) : Fn Tryd.prog 27 ⟨[.int .i64 tool, .slice A_args n_args c_args, .slice A_inputs n_inputs c_inputs]⟩ w (fun v w' => w.grownBy w' none ∧ ∃ (r : List UInt8), v = .agg ⟨a32 r⟩ ∧ K r) := by
  subst hn_args
  subst hn_inputs
  unfold M_smithyref17_Key at H
  refine Fn.enter (by kernel_rfl) Tryd.func27 rfl Tryd.ntmps27 rfl ?_
  replace H := H (Nat.le_trans hargs.cap hargs.max)
  replace H := H (Nat.le_trans hinputs.cap hinputs.max)
  refine WC.seq ?_
  refine WC.region ?_
  refine WL.alloc rfl zero38 (fun g1 w1 hB1 hg1 hl1 => ?_)
  rw [a32_zero] at hB1
  have gr1 := hg1
  refine WL.nil (WX.then_normal ?_)
  refine WC.seq ?_
  refine WC.region ?_
  refine WL.y rfl (Yld.pure tab_ok rfl) ?_
  refine WL.y rfl (Yld.pure tab_ok rfl) ?_
  refine WL.y rfl (Yld.pure tab_ok rfl) ?_
  refine WL.call rfl rfl (W_smithyref17_Parts (hG.grown gr1) hS101 (hargs.grown gr1) rfl (hinputs.grown gr1) rfl H) ?_
  rintro _ w2 ⟨hg2, t10, A_t10, c_t10, rfl, ht10, H⟩
  have hb1 := ht10.ge'
  have k1 := ht10.base (fun g hg => Nat.le_trans (size_le gr1) (hb1 g hg))
  have gr2 := gr_trans gr1 hg2
  have k2 := hB1.g0 hg2
  refine WL.call rfl rfl (W_smithyref1_Many k1.rd rfl H) ?_
  rintro _ w3 ⟨hg3, t11, rfl, H⟩
  have gr3 := gr_trans gr2 hg3
  have k3 := k2.g0 hg3
  refine WL.storeW (vs := (a32 t11)) tab_ok rfl rfl rfl (all1a (a32_one _) all1n) k3 rfl rfl (fun w4 hB2 hg4 => ?_)
  have gr4 := gr_mod gr3 hg4 (Ge.le (Ge.box hl1) (Nat.le_refl _))
  refine WL.nil (WX.then_normal ?_)
  refine WC.ret ?_
  exact WX.retc tab_ok rfl rfl rfl hB2 rfl ⟨gr4, t11, rfl, H⟩

set_option maxHeartbeats 8000000 in
theorem W_smithylaw24_first {S : List Nat} {w : World} {K : Bool → Prop} (hG : GOK S w) (hS101 : 101 ∈ S) (H : M_smithylaw24_first  K) : Fn Tryd.prog 20 ⟨[]⟩ w (fun v w' => w.grownBy w' none ∧ ∃ (r : Bool), v = .bool r ∧ K r) := by
  unfold M_smithylaw24_first at H
  refine Fn.enter (by kernel_rfl) Tryd.func20 rfl Tryd.ntmps20 rfl ?_
  refine WC.seq ?_
  refine WC.region ?_
  refine WL.y rfl (Yld.pure tab_ok rfl) ?_
  refine WL.nil (WX.then_normal ?_)
  refine WC.seq ?_
  refine WC.region ?_
  refine WL.call rfl rfl (W_key_Of hG hS101 (Own.nil vs w w.heap.size 9).rd rfl (OwnK.nil a32_ok w w.heap.size 39).rd rfl H) ?_
  rintro _ w1 ⟨hg1, t1, rfl, H⟩
  have gr1 := hg1
  refine WL.lit tab_ok rfl rfl rfl (all1c rfl (all1c rfl (all1c rfl all1n))) rfl (by omega) (fun g1 w2 hB1 hg2 hl1 => ?_)
  have hO1 : Own vs w2 w.heap.size 9 (some ⟨g1, 0, none⟩) 3 ([([115, 109, 105, 116, 104, 121] : List UInt8), ([49] : List UInt8), ([48] : List UInt8)] : List (List UInt8)) := Own.ofBl hB1 (Nat.le_trans (size_le gr1) hl1) (by simp [maxLen]) rfl
  have gr2 := gr_trans gr1 hg2
  refine WL.call rfl rfl (W_sha_Many hO1.rd rfl H) ?_
  rintro _ w3 ⟨hg3, t3, rfl, H⟩
  have gr3 := gr_trans gr2 hg3
  refine WL.call rfl rfl (W_smithyref17_SameSum H) ?_
  rintro _ w4 ⟨hg4, t0, rfl, H⟩
  have gr4 := gr_trans gr3 hg4
  refine WL.y rfl (Yld.pure tab_ok rfl) ?_
  refine WL.nil (WX.then_normal ?_)
  refine WC.ret ?_
  exact WX.ret1 rfl rfl ⟨gr4, t0, rfl, H⟩

set_option maxHeartbeats 8000000 in
theorem W_smithylaw24_sums {w : World} {l : List (List UInt8)} {A_l : Option Addr} {c_l : Nat} {n_l : Nat} {K : (List (List UInt8)) → (List (List UInt8)) → Prop} (hl : Rd vs w A_l c_l l) (hn_l : n_l = l.length) (H : M_smithylaw24_sums l K) : Fn Tryd.prog 21 ⟨[.slice A_l n_l c_l]⟩ w (fun v w' => w.grownBy w' none ∧ ∃ (r0 : List (List UInt8)), ∃ (A_r0 : Option Addr), ∃ (c_r0 : Nat), ∃ (r1 : List (List UInt8)), ∃ (A_r1 : Option Addr), ∃ (c_r1 : Nat), v = .tuple #[.slice A_r0 r0.length c_r0, .slice A_r1 r1.length c_r1] ∧ OwnK 32 a32 w' w.heap.size 39 A_r0 c_r0 r0 ∧ OwnK 32 a32 w' w.heap.size 38 A_r1 c_r1 r1 ∧ K r0 r1) := by
  subst hn_l
  unfold M_smithylaw24_sums at H
  refine Fn.enter (by kernel_rfl) Tryd.func21 rfl Tryd.ntmps21 rfl ?_
  replace H := H (Nat.le_trans hl.cap hl.max)
  refine WC.seq ?_
  refine WC.region ?_
  refine WL.y rfl (Yld.pure tab_ok rfl) ?_
  refine WL.y rfl (Yld.pure tab_ok rfl) ?_
  refine WL.nil (WX.then_normal ?_)
  refine WC.seq ?_
  refine WC.region ?_
  refine WL.y rfl (Yld.pure tab_ok rfl) ?_
  refine WL.nil (WX.then_normal ?_)
  refine WC.seq ?_
  refine WC.region ?_
  refine WL.y rfl (Yld.pure tab_ok rfl) ?_
  refine WL.nil (WX.then_normal ?_)
  refine WC.seq ?_
  refine WC.seq ?_
  refine WC.region ?_
  refine WL.y rfl (Yld.pure tab_ok rfl) ?_
  refine WL.nil (WX.then_normal ?_)
  refine WC.block ?_
  obtain ⟨I1, mu1, h0_1, HR1⟩ := H
  refine WC.loopF (fun n' L' w' => ∃ (a : List (List UInt8)), ∃ (A_a : Option Addr), ∃ (c_a : Nat), ∃ (n_a : Nat), ∃ (b : List (List UInt8)), ∃ (A_b : Option Addr), ∃ (c_b : Nat), ∃ (n_b : Nat), ∃ (i : Int), n' = mu1 a b i ∧ L' = [(0, .slice A_l l.length c_l), (4, .slice A_a n_a c_a), (5, .slice A_b n_b c_b), (6, .int .i64 i)] ∧ I1 a b i ∧ n_a = a.length ∧ n_b = b.length ∧ w.grownBy w' none ∧ OwnK 32 a32 w' w.heap.size 39 A_a c_a a ∧ OwnK 32 a32 w' w.heap.size 38 A_b c_b b ∧ Dj (blk A_a) (blk A_b)) _ _ ⟨[], none, 0, 0, [], none, 0, 0, (0 : Int), rfl, rfl, h0_1, rfl, rfl, (gr_refl _ _), (OwnK.nil a32_ok w w.heap.size 39), (OwnK.nil a32_ok w w.heap.size 38), Dj.nl⟩ (by repeat (first | exact Sub.nil | refine Sub.cons rfl ?_)) ?_
  clear h0_1
  rintro _ _ w1 ⟨a, A_a, c_a, n_a, b, A_b, c_b, n_b, i, rfl, rfl, hI1, rfl, rfl, gr1, k1, k2, dj1⟩
  have H := HR1 a b i hI1
  refine WC.seq ?_
  refine WC.seq ?_
  refine WC.region ?_
  refine WL.y rfl (Yld.pure tab_ok rfl) ?_
  refine WL.y rfl (Yld.pure tab_ok rfl) ?_
  refine WL.y rfl (Yld.pure tab_ok rfl) ?_
  refine WL.y rfl (Yld.pure tab_ok rfl) ?_
  refine WL.nil (WX.then_normal ?_)
  refine WC.cond rfl (fun b1 => ?_) (fun b1 => ?_)
  · replace H := H.1 (of_decide_eq_true b1)
    refine WC.skip (WX.then_normal ?_)
    refine WC.seq ?_
    refine WC.block ?_
    refine WC.seq ?_
    refine WC.region ?_
    refine WL.y rfl (Yld.pure tab_ok rfl) ?_
    refine WL.y rfl (Yld.pure tab_ok rfl) ?_
    refine WL.y rfl (Yld.pure tab_ok rfl) ?_
    obtain ⟨h1, H⟩ := H
    refine WL.y rfl (Yld.iaddrW tab_ok (hl.grown gr1) rfl rfl rfl rfl h1.1 h1.2) ?_
    refine WL.y rfl (Yld.iload [] tab_ok (hl.grown gr1) rfl rfl (iltN h1 rfl)) ?_
    refine WL.call rfl rfl (W_key_Source H) ?_
    rintro _ w2 ⟨hg1, t18, rfl, H⟩
    have gr2 := gr_trans gr1 hg1
    have k3 := k1.grown hg1
    have k4 := k2.grown hg1
    refine WL.litK (f := a32) ([t18] : List (List UInt8)) a32_ok rfl ow33 rfl rfl rfl (fun g1 w3 hB1 hg2 hl1 => ?_)
    have hO1 : OwnK 32 a32 w3 w.heap.size 39 (some ⟨g1, 0, none⟩) 1 ([t18] : List (List UInt8)) := OwnK.ofBl a32_ok hB1 (Nat.le_trans (size_le gr2) hl1) (by simp [maxLen]) rfl
    have gr3 := gr_trans gr2 hg2
    have k5 := k3.grown hg2
    have k6 := k4.grown hg2
    obtain ⟨h2, H⟩ := H
    refine WL.appendK rfl ow33 k5 rfl rfl hO1.rd rfl rfl h2 (applen h2) (size_le gr3) (fun A_a2 c_a2 w4 hO2 hg3 hk1 => ?_)
    have gr4 := gr_mod gr3 hg3 k5.ge'
    have k7 := k6.go hg3 dj1.symm
    refine WL.y rfl (Yld.pure tab_ok rfl) ?_
    refine WL.nil (WX.then_normal ?_)
    refine WC.region ?_
    refine WL.y rfl (Yld.pure tab_ok rfl) ?_
    refine WL.y rfl (Yld.pure tab_ok rfl) ?_
    refine WL.y rfl (Yld.pure tab_ok rfl) ?_
    obtain ⟨h3, H⟩ := H
    refine WL.y rfl (Yld.iaddrW tab_ok (hl.grown gr4) rfl rfl rfl rfl h3.1 h3.2) ?_
    refine WL.y rfl (Yld.iload [] tab_ok (hl.grown gr4) rfl rfl (iltN h3 rfl)) ?_
    refine WL.call rfl rfl (W_smithyref1_Sum H) ?_
    rintro _ w5 ⟨hg4, t26, rfl, H⟩
    have gr5 := gr_trans gr4 hg4
    have k8 := k7.grown hg4
    have k9 := hO2.grown hg4
    refine WL.litK (f := a32) ([t26] : List (List UInt8)) a32_ok rfl ow34 rfl rfl rfl (fun g2 w6 hB2 hg5 hl2 => ?_)
    have hO3 : OwnK 32 a32 w6 w.heap.size 38 (some ⟨g2, 0, none⟩) 1 ([t26] : List (List UInt8)) := OwnK.ofBl a32_ok hB2 (Nat.le_trans (size_le gr5) hl2) (by simp [maxLen]) rfl
    have gr6 := gr_trans gr5 hg5
    have k10 := k8.grown hg5
    have k11 := k9.grown hg5
    obtain ⟨h4, H⟩ := H
    refine WL.appendK rfl ow34 k10 rfl rfl hO3.rd rfl rfl h4 (applen h4) (size_le gr6) (fun A_b2 c_b2 w7 hO4 hg6 hk2 => ?_)
    have gr7 := gr_mod gr6 hg6 k10.ge'
    have k12 := k11.go hg6 (Dj.app dj1 k6.lt' hk1)
    refine WL.y rfl (Yld.pure tab_ok rfl) ?_
    refine WL.nil (WX.block_normal (WX.then_normal ?_))
    refine WC.region ?_
    refine WL.y rfl (Yld.pure tab_ok rfl) ?_
    obtain ⟨h5, H⟩ := H
    refine WL.y rfl (Yld.add rfl rfl h5) ?_
    refine WL.y rfl (Yld.pure tab_ok rfl) ?_
    refine WL.nil ?_
    exact WX.roundF _ ⟨a ++ ([t18] : List (List UInt8)), A_a2, c_a2, (a ++ ([t18] : List (List UInt8))).length, b ++ ([t26] : List (List UInt8)), A_b2, c_b2, (b ++ ([t26] : List (List UInt8))).length, i + (1 : Int), rfl, rfl, H.1, rfl, rfl, gr7, k12, hO4, (Dj.app (Dj.app dj1 k6.lt' hk1).symm k11.lt' hk2).symm⟩ (by repeat (first | exact Sub.nil | refine Sub.cons rfl ?_)) H.2
  · replace H := H.2 (of_decide_eq_false b1)
    refine WC.exit (WX.then_exit (WX.then_exit (WX.block_same (WX.then_normal ?_))))
    refine WC.seq ?_
    refine WC.region ?_
    refine WL.y rfl (Yld.pure tab_ok rfl) ?_
    refine WL.y rfl (Yld.pure tab_ok rfl) ?_
    refine WL.y rfl (Yld.pure tab_ok rfl) ?_
    refine WL.y rfl (Yld.pure tab_ok rfl) ?_
    refine WL.nil (WX.then_normal ?_)
    refine WC.ret ?_
    exact WX.ret2 rfl rfl rfl ⟨gr1, a, A_a, c_a, b, A_b, c_b, rfl, k1, k2, H⟩

set_option maxHeartbeats 8000000 in
theorem W_smithylaw24_KeySays {S : List Nat} {w : World} {tool : Int} {args : List (List UInt8)} {A_args : Option Addr} {c_args : Nat} {inputs : List (List UInt8)} {A_inputs : Option Addr} {c_inputs : Nat} {n_args : Nat} {n_inputs : Nat} {K : Bool → Prop} (hG : GOK S w) (hS101 : 101 ∈ S) (hargs : Rd vs w A_args c_args args) (hn_args : n_args = args.length) (hinputs : Rd vs w A_inputs c_inputs inputs) (hn_inputs : n_inputs = inputs.length) (H : M_smithylaw24_KeySays tool args inputs K) : Fn Tryd.prog 4 ⟨[.int .i64 tool, .slice A_args n_args c_args, .slice A_inputs n_inputs c_inputs]⟩ w (fun v w' => w.grownBy w' none ∧ ∃ (r : Bool), v = .bool r ∧ K r) := by
  subst hn_args
  subst hn_inputs
  unfold M_smithylaw24_KeySays at H
  refine Fn.enter (by kernel_rfl) Tryd.func4 rfl Tryd.ntmps4 rfl ?_
  replace H := H (Nat.le_trans hargs.cap hargs.max)
  replace H := H (Nat.le_trans hinputs.cap hinputs.max)
  refine WC.seq ?_
  refine WC.region ?_
  refine WL.y rfl (Yld.pure tab_ok rfl) ?_
  refine WL.nil (WX.then_normal ?_)
  refine WC.seq ?_
  refine WC.region ?_
  refine WL.call rfl rfl (W_smithylaw24_first hG hS101 H) ?_
  rintro _ w1 ⟨hg1, ok, rfl, H⟩
  have gr1 := hg1
  refine WL.y rfl (Yld.pure tab_ok rfl) ?_
  refine WL.nil (WX.then_normal ?_)
  refine WC.seq ?_
  refine WC.seq ?_
  refine WC.region ?_
  refine WL.y rfl (Yld.pure tab_ok rfl) ?_
  refine WL.y rfl (Yld.pure tab_ok rfl) ?_
  refine WL.nil (WX.then_normal ?_)
  refine WC.cond rfl (fun b1 => ?_) (fun b1 => ?_)
  · replace H := H.1 (b1)
    refine WC.seq ?_
    refine WC.region ?_
    refine WL.y rfl (Yld.pure tab_ok rfl) ?_
    refine WL.nil (WX.then_normal ?_)
    refine WC.ret (WX.then_ret ?_)
    exact WX.ret1 rfl rfl ⟨gr1, false, rfl, H⟩
  · replace H := H.2 (b1)
    refine WC.skip (WX.then_normal ?_)
    refine WC.seq ?_
    refine WC.seq ?_
    refine WC.region ?_
    refine WL.y rfl (Yld.pure tab_ok rfl) ?_
    refine WL.call rfl rfl (W_smithyworld_Texts (hargs.grown gr1) rfl H) ?_
    rintro _ _ ⟨rfl, t15, rfl, H⟩
    refine WL.y rfl (Yld.pure tab_ok rfl) ?_
    refine WL.y rfl (Yld.pure tab_ok rfl) ?_
    obtain ⟨J1, H, hJ1⟩ := H
    refine WL.midF 4 (fun L' w' => ∃ q1 : Bool, L' = [(21, .bool q1), (0, .int .i64 tool), (1, .slice A_args args.length c_args), (2, .slice A_inputs inputs.length c_inputs), (7, .bool ok)] ∧ J1 q1 ∧ w1 = w') ?_ (fun hQ => ?_)
    · clear H
      rintro _ _ ⟨q1, rfl, H, rfl⟩
      replace H := hJ1 q1 H
      refine WL.y rfl (Yld.pure tab_ok rfl) ?_
      refine WL.midF 3 (fun L' w' => ∃ q2 : Bool, L' = [(25, .bool q2), (0, .int .i64 tool), (1, .slice A_args args.length c_args), (2, .slice A_inputs inputs.length c_inputs), (7, .bool ok)] ∧ q2 = (q1 || (!ok)) ∧ w1 = w') ?_ (fun hQ => ?_)
      · rintro _ _ ⟨q2, rfl, rfl, rfl⟩
        refine WL.nil (WX.then_normal ?_)
        refine WC.cond rfl (fun b2 => ?_) (fun b2 => ?_)
        · replace H := H.1 (b2)
          refine WC.seq ?_
          refine WC.region ?_
          refine WL.y rfl (Yld.pure tab_ok rfl) ?_
          refine WL.y rfl (Yld.pure tab_ok rfl) ?_
          refine WL.nil (WX.then_normal ?_)
          refine WC.ret (WX.then_ret ?_)
          exact WX.ret1 rfl rfl ⟨gr1, ok, rfl, H⟩
        · replace H := H.2 (b2)
          refine WC.skip (WX.then_normal ?_)
          refine WC.seq ?_
          refine WC.region ?_
          refine WL.y rfl (Yld.pure tab_ok rfl) ?_
          refine WL.call rfl rfl (W_smithylaw24_sums (hinputs.grown gr1) rfl H) ?_
          rintro _ w2 ⟨hg2, t290, A_t290, c_t290, t291, A_t291, c_t291, rfl, ht290, ht291, H⟩
          have hb1 := ht290.ge'
          have k1 := ht290.base (fun g hg => Nat.le_trans (size_le gr1) (hb1 g hg))
          have hb2 := ht291.ge'
          have k2 := ht291.base (fun g hg => Nat.le_trans (size_le gr1) (hb2 g hg))
          have gr2 := gr_trans gr1 hg2
          refine WL.y rfl (Yld.pure tab_ok rfl) ?_
          refine WL.y rfl (Yld.pure tab_ok rfl) ?_
          refine WL.y rfl (Yld.pure tab_ok rfl) ?_
          refine WL.y rfl (Yld.pure tab_ok rfl) ?_
          refine WL.y rfl (Yld.pure tab_ok rfl) ?_
          refine WL.nil (WX.then_normal ?_)
          refine WC.seq ?_
          refine WC.seq ?_
          refine WC.region ?_
          refine WL.y rfl (Yld.pure tab_ok rfl) ?_
          refine WL.nil (WX.then_normal ?_)
          refine WC.block ?_
          obtain ⟨I1, mu1, h0_1, HR1⟩ := H
          refine WC.loopF (fun n' L' w' => ∃ (i : Int), n' = mu1 i ∧ L' = [(0, .int .i64 tool), (1, .slice A_args args.length c_args), (8, .slice A_t290 t290.length c_t290), (9, .slice A_t291 t291.length c_t291), (10, .int .i64 i)] ∧ I1 i ∧ w.grownBy w' none ∧ OwnK 32 a32 w' w.heap.size 39 A_t290 c_t290 t290 ∧ OwnK 32 a32 w' w.heap.size 38 A_t291 c_t291 t291) _ _ ⟨(0 : Int), rfl, rfl, h0_1, gr2, k1, k2⟩ (by repeat (first | exact Sub.nil | refine Sub.cons rfl ?_)) ?_
          clear h0_1
          rintro _ _ w3 ⟨i, rfl, rfl, hI1, gr3, k3, k4⟩
          have H := HR1 i hI1
          refine WC.seq ?_
          refine WC.seq ?_
          refine WC.region ?_
          refine WL.y rfl (Yld.pure tab_ok rfl) ?_
          refine WL.y rfl (Yld.pure tab_ok rfl) ?_
          refine WL.y rfl (Yld.pure tab_ok rfl) ?_
          refine WL.y rfl (Yld.pure tab_ok rfl) ?_
          refine WL.nil (WX.then_normal ?_)
          refine WC.cond rfl (fun b3 => ?_) (fun b3 => ?_)
          · replace H := H.1 (of_decide_eq_true b3)
            refine WC.skip (WX.then_normal ?_)
            refine WC.seq ?_
            refine WC.block ?_
            refine WC.seq ?_
            refine WC.chainF (fun k => !(Nat.beq k 8)) (LD [3, 7] (fun w' => RdK 32 a32 w' A_t290 c_t290 t290 ∧ RdK 32 a32 w' A_t291 c_t291 t291)) mixed (by kernel_rfl) (fun k w' h _ => ⟨(RdK.eqv h k3.rd), (RdK.eqv h k4.rd)⟩) ?_
            refine WJ.y rfl rfl (fun w' hw' => Yld.pure tab_ok rfl) ?_
            refine WJ.y rfl rfl (fun w' hw' => Yld.pure tab_ok rfl) ?_
            obtain ⟨h1, H⟩ := H
            refine WJ.y rfl rfl (fun w' hw' => Yld.iaddrK tab_ok k3.rd rfl rfl rfl rfl h1.1 h1.2) ?_
            refine WJ.y rfl rfl (fun w' hw' => Yld.iloadK [] tab_ok (hw' rfl).1 rfl rfl (iltN h1 rfl)) ?_
            refine WJ.y rfl rfl (fun w' hw' => Yld.pure tab_ok rfl) ?_
            refine WJ.y rfl rfl (fun w' hw' => Yld.pure tab_ok rfl) ?_
            obtain ⟨h2, H⟩ := H
            refine WJ.y rfl rfl (fun w' hw' => Yld.iaddrK tab_ok k4.rd rfl rfl rfl rfl h2.1 h2.2) ?_
            refine WJ.y rfl rfl (fun w' hw' => Yld.iloadK [] tab_ok (hw' rfl).2 rfl rfl (iltN h2 rfl)) ?_
            refine WJ.call rfl (wants_none) rfl rfl (W_smithyref17_SameSum H) (fun v w' h w2 e => DD.keep (⟨(RdK.grown k3.rd (gr_eqv h.1 e)), (RdK.grown k4.rd (gr_eqv h.1 e))⟩)) ?_
            rintro _ w4 ⟨hg3, t46, rfl, H⟩
            have gr4 := gr_trans gr3 hg3
            have k5 := k3.grown hg3
            have k6 := k4.grown hg3
            refine WJ.y rfl rfl (fun w' hw' => Yld.pure tab_ok rfl) ?_
            refine WJ.nil (WX.then_normal ?_)
            refine WC.cond rfl (fun b4 => ?_) (fun b4 => ?_)
            · replace H := H.1 (b4)
              refine WC.seq ?_
              refine WC.region ?_
              refine WL.y rfl (Yld.pure tab_ok rfl) ?_
              refine WL.nil (WX.then_normal ?_)
              refine WC.ret (WX.block_ret (WX.then_ret (WX.then_ret (WX.block_ret (WX.then_ret ?_)))))
              exact WX.ret1 rfl rfl ⟨gr4, false, rfl, H⟩
            · replace H := H.2 (b4)
              refine WC.skip (WX.block_normal (WX.then_normal ?_))
              refine WC.region ?_
              refine WL.y rfl (Yld.pure tab_ok rfl) ?_
              obtain ⟨h3, H⟩ := H
              refine WL.y rfl (Yld.add rfl rfl h3) ?_
              refine WL.y rfl (Yld.pure tab_ok rfl) ?_
              refine WL.nil ?_
              exact WX.roundF _ ⟨i + (1 : Int), rfl, rfl, H.1, gr4, k5, k6⟩ (by repeat (first | exact Sub.nil | refine Sub.cons rfl ?_)) H.2
          · replace H := H.2 (of_decide_eq_false b3)
            refine WC.exit (WX.then_exit (WX.then_exit (WX.block_same (WX.then_normal ?_))))
            refine WC.seq ?_
            refine WC.region ?_
            refine WL.y rfl (Yld.pure tab_ok rfl) ?_
            refine WL.y rfl (Yld.pure tab_ok rfl) ?_
            refine WL.y rfl (Yld.pure tab_ok rfl) ?_
            refine WL.call rfl rfl (W_key_Parts (hG.grown gr3) hS101 (hargs.grown gr3) rfl k3.rd rfl H) ?_
            rintro _ w5 ⟨hg4, t51, A_t51, c_t51, rfl, ht51, H⟩
            have hb3 := ht51.ge'
            have k7 := ht51.base (fun g hg => Nat.le_trans (size_le gr3) (hb3 g hg))
            have gr5 := gr_trans gr3 hg4
            have k8 := k3.grown hg4
            have k9 := k4.grown hg4
            refine WL.y rfl (Yld.pure tab_ok rfl) ?_
            refine WL.y rfl (Yld.pure tab_ok rfl) ?_
            refine WL.y rfl (Yld.pure tab_ok rfl) ?_
            refine WL.call rfl rfl (W_smithyref17_Parts (hG.grown gr5) hS101 (hargs.grown gr5) rfl k9.rd rfl H) ?_
            rintro _ w6 ⟨hg5, t55, A_t55, c_t55, rfl, ht55, H⟩
            have hb4 := ht55.ge'
            have k10 := ht55.base (fun g hg => Nat.le_trans (size_le gr5) (hb4 g hg))
            have gr6 := gr_trans gr5 hg5
            have k11 := k8.grown hg5
            have k12 := k9.grown hg5
            have k13 := k7.grown hg5
            refine WL.call rfl rfl (W_smithyref_SameTexts k13.rd rfl k10.rd rfl H) ?_
            rintro _ _ ⟨rfl, t56, rfl, H⟩
            refine WL.y rfl (Yld.pure tab_ok rfl) ?_
            obtain ⟨J2, H, hJ2⟩ := H
            refine WL.midF 10 (fun L' w' => ∃ q3 : Bool, L' = [(67, .bool q3)] ∧ J2 q3 ∧ w.grownBy w' none) ?_ (fun hQ => ?_)
            · clear H
              rintro _ w7 ⟨q3, rfl, H, gr7⟩
              replace H := hJ2 q3 H
              refine WL.y rfl (Yld.pure tab_ok rfl) ?_
              refine WL.nil (WX.then_normal ?_)
              refine WC.ret ?_
              exact WX.ret1 rfl rfl ⟨gr7, q3, rfl, H⟩
            · clear hJ2
              rcases Bool.eq_false_or_eq_true (t56) with b5 | b5
              · replace H := H.1 b5
                refine WL.gyes rfl rfl (okb b5) rfl (Yld.pure tab_ok rfl) ?_
                refine WL.gyes rfl rfl (okb b5) rfl (Yld.pure tab_ok rfl) ?_
                refine WL.gyes rfl rfl (okb b5) rfl (Yld.pure tab_ok rfl) ?_
                refine WL.callw (wants_some rfl rfl (okb b5)) rfl rfl (W_key_Of (hG.grown gr6) hS101 (hargs.grown gr6) rfl k11.rd rfl H) ?_
                rintro _ w8 ⟨hg6, t61, rfl, H⟩
                have gr8 := gr_trans gr6 hg6
                have k14 := k11.grown hg6
                have k15 := k12.grown hg6
                refine WL.gyes rfl rfl (okb b5) rfl (Yld.pure tab_ok rfl) ?_
                refine WL.gyes rfl rfl (okb b5) rfl (Yld.pure tab_ok rfl) ?_
                refine WL.gyes rfl rfl (okb b5) rfl (Yld.pure tab_ok rfl) ?_
                refine WL.callw (wants_some rfl rfl (okb b5)) rfl rfl (W_smithyref17_Key (hG.grown gr8) hS101 (hargs.grown gr8) rfl k15.rd rfl H) ?_
                rintro _ w9 ⟨hg7, t65, rfl, H⟩
                have gr9 := gr_trans gr8 hg7
                have k16 := k15.grown hg7
                refine WL.callw (wants_some rfl rfl (okb b5)) rfl rfl (W_smithyref17_SameSum H) ?_
                rintro _ w10 ⟨hg8, t66, rfl, H⟩
                have gr10 := gr_trans gr9 hg8
                refine WL.y rfl (Yld.pickT (okb b5) rfl) ?_
                exact WL.weaken (by repeat (first | exact Sub.nil | refine Sub.cons rfl ?_)) (hQ _ _ ⟨t66, rfl, H, gr10⟩)
              · replace H := H.2 b5
                refine WL.gno rfl rfl (okb b5) rfl ?_
                refine WL.gno rfl rfl (okb b5) rfl ?_
                refine WL.gno rfl rfl (okb b5) rfl ?_
                refine WL.gno rfl rfl (okb b5) rfl ?_
                refine WL.gno rfl rfl (okb b5) rfl ?_
                refine WL.gno rfl rfl (okb b5) rfl ?_
                refine WL.gno rfl rfl (okb b5) rfl ?_
                refine WL.gno rfl rfl (okb b5) rfl ?_
                refine WL.gno rfl rfl (okb b5) rfl ?_
                refine WL.y rfl (Yld.pickF (okb b5) rfl) ?_
                exact WL.weaken (by repeat (first | exact Sub.nil | refine Sub.cons rfl ?_)) (hQ _ _ ⟨false, rfl, H, gr6⟩)
      · clear H
        rcases Bool.eq_false_or_eq_true (q1) with b6 | b6
        · refine WL.gno rfl rfl (okb b6) rfl ?_
          refine WL.gno rfl rfl (okb b6) rfl ?_
          refine WL.y rfl (Yld.pickT (okb b6) rfl) ?_
          exact WL.weaken (by repeat (first | exact Sub.nil | refine Sub.cons rfl ?_)) (hQ _ _ ⟨true, rfl, by rw [b6] <;> rfl, rfl⟩)
        · refine WL.gyes rfl rfl (okb b6) rfl (Yld.pure tab_ok rfl) ?_
          refine WL.gyes rfl rfl (okb b6) rfl (Yld.pure tab_ok rfl) ?_
          refine WL.y rfl (Yld.pickF (okb b6) rfl) ?_
          exact WL.weaken (by repeat (first | exact Sub.nil | refine Sub.cons rfl ?_)) (hQ _ _ ⟨!ok, rfl, by rw [b6] <;> rfl, rfl⟩)
    · clear hJ1
      rcases Bool.eq_false_or_eq_true (!t15) with b7 | b7
      · replace H := H.1 b7
        refine WL.gno rfl rfl (okb b7) rfl ?_
        refine WL.gno rfl rfl (okb b7) rfl ?_
        refine WL.gno rfl rfl (okb b7) rfl ?_
        refine WL.y rfl (Yld.pickT (okb b7) rfl) ?_
        exact WL.weaken (by repeat (first | exact Sub.nil | refine Sub.cons rfl ?_)) (hQ _ _ ⟨true, rfl, H, rfl⟩)
      · replace H := H.2 b7
        refine WL.gyes rfl rfl (okb b7) rfl (Yld.pure tab_ok rfl) ?_
        refine WL.callw (wants_some rfl rfl (okb b7)) rfl rfl (W_smithyworld_Texts (hinputs.grown gr1) rfl H) ?_
        rintro _ _ ⟨rfl, t19, rfl, H⟩
        refine WL.gyes rfl rfl (okb b7) rfl (Yld.pure tab_ok rfl) ?_
        refine WL.y rfl (Yld.pickF (okb b7) rfl) ?_
        exact WL.weaken (by repeat (first | exact Sub.nil | refine Sub.cons rfl ?_)) (hQ _ _ ⟨!t19, rfl, H, rfl⟩)

set_option maxHeartbeats 8000000 in
theorem W_smithylaw24_KeyUnlike {S : List Nat} {w : World} {t : Int} {u : Int} {a : List (List UInt8)} {A_a : Option Addr} {c_a : Nat} {b : List (List UInt8)} {A_b : Option Addr} {c_b : Nat} {c : List (List UInt8)} {A_c : Option Addr} {c_c : Nat} {d : List (List UInt8)} {A_d : Option Addr} {c_d : Nat} {n_a : Nat} {n_b : Nat} {n_c : Nat} {n_d : Nat} {K : Bool → Prop} (hG : GOK S w) (hS101 : 101 ∈ S) (ha : Rd vs w A_a c_a a) (hn_a : n_a = a.length) (hb : Rd vs w A_b c_b b) (hn_b : n_b = b.length) (hc : Rd vs w A_c c_c c) (hn_c : n_c = c.length) (hd : Rd vs w A_d c_d d) (hn_d : n_d = d.length) (H : M_smithylaw24_KeyUnlike t u a b c d K) : Fn Tryd.prog 5 ⟨[.int .i64 t, .int .i64 u, .slice A_a n_a c_a, .slice A_b n_b c_b, .slice A_c n_c c_c, .slice A_d n_d c_d]⟩ w (fun v w' => w.grownBy w' none ∧ ∃ (r : Bool), v = .bool r ∧ K r) := by
  subst hn_a
  subst hn_b
  subst hn_c
  subst hn_d
  unfold M_smithylaw24_KeyUnlike at H
  refine Fn.enter (by kernel_rfl) Tryd.func5 rfl Tryd.ntmps5 rfl ?_
  replace H := H (Nat.le_trans ha.cap ha.max)
  replace H := H (Nat.le_trans hb.cap hb.max)
  replace H := H (Nat.le_trans hc.cap hc.max)
  replace H := H (Nat.le_trans hd.cap hd.max)
  refine WC.seq ?_
  refine WC.region ?_
  refine WL.y rfl (Yld.pure tab_ok rfl) ?_
  refine WL.nil (WX.then_normal ?_)
  refine WC.seq ?_
  refine WC.region ?_
  refine WL.call rfl rfl (W_smithylaw24_first hG hS101 H) ?_
  rintro _ w1 ⟨hg1, ok, rfl, H⟩
  have gr1 := hg1
  refine WL.y rfl (Yld.pure tab_ok rfl) ?_
  refine WL.nil (WX.then_normal ?_)
  refine WC.seq ?_
  refine WC.seq ?_
  refine WC.region ?_
  refine WL.y rfl (Yld.pure tab_ok rfl) ?_
  refine WL.y rfl (Yld.pure tab_ok rfl) ?_
  refine WL.nil (WX.then_normal ?_)
  refine WC.cond rfl (fun b1 => ?_) (fun b1 => ?_)
  · replace H := H.1 (b1)
    refine WC.seq ?_
    refine WC.region ?_
    refine WL.y rfl (Yld.pure tab_ok rfl) ?_
    refine WL.nil (WX.then_normal ?_)
    refine WC.ret (WX.then_ret ?_)
    exact WX.ret1 rfl rfl ⟨gr1, false, rfl, H⟩
  · replace H := H.2 (b1)
    refine WC.skip (WX.then_normal ?_)
    refine WC.seq ?_
    refine WC.seq ?_
    refine WC.region ?_
    refine WL.y rfl (Yld.pure tab_ok rfl) ?_
    refine WL.call rfl rfl (W_smithyworld_Texts (ha.grown gr1) rfl H) ?_
    rintro _ _ ⟨rfl, t28, rfl, H⟩
    refine WL.y rfl (Yld.pure tab_ok rfl) ?_
    refine WL.y rfl (Yld.pure tab_ok rfl) ?_
    obtain ⟨J1, H, hJ1⟩ := H
    refine WL.midF 4 (fun L' w' => ∃ q1 : Bool, L' = [(34, .bool q1), (0, .int .i64 t), (1, .int .i64 u), (2, .slice A_a a.length c_a), (3, .slice A_b b.length c_b), (4, .slice A_c c.length c_c), (5, .slice A_d d.length c_d), (13, .bool ok)] ∧ J1 q1 ∧ w1 = w') ?_ (fun hQ => ?_)
    · clear H
      rintro _ _ ⟨q1, rfl, H, rfl⟩
      replace H := hJ1 q1 H
      refine WL.y rfl (Yld.pure tab_ok rfl) ?_
      obtain ⟨J2, H, hJ2⟩ := H
      refine WL.midF 4 (fun L' w' => ∃ q2 : Bool, L' = [(39, .bool q2), (0, .int .i64 t), (1, .int .i64 u), (2, .slice A_a a.length c_a), (3, .slice A_b b.length c_b), (4, .slice A_c c.length c_c), (5, .slice A_d d.length c_d), (13, .bool ok)] ∧ J2 q2 ∧ w1 = w') ?_ (fun hQ => ?_)
      · clear H
        rintro _ _ ⟨q2, rfl, H, rfl⟩
        replace H := hJ2 q2 H
        refine WL.y rfl (Yld.pure tab_ok rfl) ?_
        obtain ⟨J3, H, hJ3⟩ := H
        refine WL.midF 4 (fun L' w' => ∃ q3 : Bool, L' = [(44, .bool q3), (0, .int .i64 t), (1, .int .i64 u), (2, .slice A_a a.length c_a), (3, .slice A_b b.length c_b), (4, .slice A_c c.length c_c), (5, .slice A_d d.length c_d), (13, .bool ok)] ∧ J3 q3 ∧ w1 = w') ?_ (fun hQ => ?_)
        · clear H
          rintro _ _ ⟨q3, rfl, H, rfl⟩
          replace H := hJ3 q3 H
          refine WL.y rfl (Yld.pure tab_ok rfl) ?_
          refine WL.midF 3 (fun L' w' => ∃ q4 : Bool, L' = [(48, .bool q4), (0, .int .i64 t), (1, .int .i64 u), (2, .slice A_a a.length c_a), (3, .slice A_b b.length c_b), (4, .slice A_c c.length c_c), (5, .slice A_d d.length c_d), (13, .bool ok)] ∧ q4 = (q3 || (!ok)) ∧ w1 = w') ?_ (fun hQ => ?_)
          · rintro _ _ ⟨q4, rfl, rfl, rfl⟩
            refine WL.nil (WX.then_normal ?_)
            refine WC.cond rfl (fun b2 => ?_) (fun b2 => ?_)
            · replace H := H.1 (b2)
              refine WC.seq ?_
              refine WC.region ?_
              refine WL.y rfl (Yld.pure tab_ok rfl) ?_
              refine WL.y rfl (Yld.pure tab_ok rfl) ?_
              refine WL.nil (WX.then_normal ?_)
              refine WC.ret (WX.then_ret ?_)
              exact WX.ret1 rfl rfl ⟨gr1, ok, rfl, H⟩
            · replace H := H.2 (b2)
              refine WC.skip (WX.then_normal ?_)
              refine WC.seq ?_
              refine WC.region ?_
              refine WL.y rfl (Yld.pure tab_ok rfl) ?_
              refine WL.call rfl rfl (W_smithylaw24_sums (hc.grown gr1) rfl H) ?_
              rintro _ w2 ⟨hg2, t520, A_t520, c_t520, t521, A_t521, c_t521, rfl, ht520, ht521, H⟩
              have hb1 := ht520.ge'
              have k1 := ht520.base (fun g hg => Nat.le_trans (size_le gr1) (hb1 g hg))
              have hb2 := ht521.ge'
              have k2 := ht521.base (fun g hg => Nat.le_trans (size_le gr1) (hb2 g hg))
              have gr2 := gr_trans gr1 hg2
              refine WL.y rfl (Yld.pure tab_ok rfl) ?_
              refine WL.y rfl (Yld.pure tab_ok rfl) ?_
              refine WL.y rfl (Yld.pure tab_ok rfl) ?_
              refine WL.y rfl (Yld.pure tab_ok rfl) ?_
              refine WL.y rfl (Yld.pure tab_ok rfl) ?_
              refine WL.nil (WX.then_normal ?_)
              refine WC.seq ?_
              refine WC.region ?_
              refine WL.y rfl (Yld.pure tab_ok rfl) ?_
              refine WL.call rfl rfl (W_smithylaw24_sums (hd.grown gr2) rfl H) ?_
              rintro _ w3 ⟨hg3, t570, A_t570, c_t570, t571, A_t571, c_t571, rfl, ht570, ht571, H⟩
              have hb3 := ht570.ge'
              have k3 := ht570.base (fun g hg => Nat.le_trans (size_le gr2) (hb3 g hg))
              have hb4 := ht571.ge'
              have k4 := ht571.base (fun g hg => Nat.le_trans (size_le gr2) (hb4 g hg))
              have gr3 := gr_trans gr2 hg3
              have k5 := k1.grown hg3
              refine WL.y rfl (Yld.pure tab_ok rfl) ?_
              refine WL.y rfl (Yld.pure tab_ok rfl) ?_
              refine WL.y rfl (Yld.pure tab_ok rfl) ?_
              refine WL.y rfl (Yld.pure tab_ok rfl) ?_
              refine WL.y rfl (Yld.pure tab_ok rfl) ?_
              refine WL.nil (WX.then_normal ?_)
              refine WC.seq ?_
              refine WC.region ?_
              refine WL.y rfl (Yld.pure tab_ok rfl) ?_
              refine WL.y rfl (Yld.pure tab_ok rfl) ?_
              refine WL.nil (WX.then_normal ?_)
              refine WC.seq ?_
              refine WC.seq ?_
              refine WC.region ?_
              refine WL.y rfl (Yld.pure tab_ok rfl) ?_
              refine WL.nil (WX.then_normal ?_)
              refine WC.block ?_
              obtain ⟨I1, mu1, h0_1, HR1⟩ := H
              refine WC.loopF (fun n' L' w' => ∃ (p : List (List UInt8)), ∃ (A_p : Option Addr), ∃ (c_p : Nat), ∃ (n_p : Nat), ∃ (i : Int), n' = mu1 p i ∧ L' = [(0, .int .i64 t), (1, .int .i64 u), (2, .slice A_a a.length c_a), (3, .slice A_b b.length c_b), (14, .slice A_t520 t520.length c_t520), (16, .slice A_t570 t570.length c_t570), (18, .slice A_p n_p c_p), (19, .slice none 0 0), (20, .int .i64 i)] ∧ I1 p i ∧ n_p = p.length ∧ w.grownBy w' none ∧ OwnK 32 a32 w' w.heap.size 39 A_t520 c_t520 t520 ∧ OwnK 32 a32 w' w.heap.size 39 A_t570 c_t570 t570 ∧ Own vs w' w.heap.size 9 A_p c_p p ∧ Dj (blk A_t520) (blk A_t570) ∧ Dj (blk A_t520) (blk A_p) ∧ Dj (blk A_t570) (blk A_p)) _ _ ⟨[], none, 0, 0, (0 : Int), rfl, rfl, h0_1, rfl, gr3, k5, k3, (Own.nil vs w3 w.heap.size 9), (Dj.new k1.lt' hb3), Dj.nr, Dj.nr⟩ (by repeat (first | exact Sub.nil | refine Sub.cons rfl ?_)) ?_
              clear h0_1
              rintro _ _ w4 ⟨p, A_p, c_p, n_p, i, rfl, rfl, hI1, rfl, gr4, k6, k7, k8, dj1, dj2, dj3⟩
              have H := HR1 p i hI1
              refine WC.seq ?_
              refine WC.seq ?_
              refine WC.region ?_
              refine WL.y rfl (Yld.pure tab_ok rfl) ?_
              refine WL.y rfl (Yld.pure tab_ok rfl) ?_
              refine WL.y rfl (Yld.pure tab_ok rfl) ?_
              refine WL.y rfl (Yld.pure tab_ok rfl) ?_
              refine WL.nil (WX.then_normal ?_)
              refine WC.cond rfl (fun b3 => ?_) (fun b3 => ?_)
              · replace H := H.1 (of_decide_eq_true b3)
                refine WC.skip (WX.then_normal ?_)
                refine WC.seq ?_
                refine WC.block ?_
                refine WC.region ?_
                refine WL.y rfl (Yld.pure tab_ok rfl) ?_
                refine WL.y rfl (Yld.pure tab_ok rfl) ?_
                refine WL.y rfl (Yld.pure tab_ok rfl) ?_
                obtain ⟨h1, H⟩ := H
                refine WL.y rfl (Yld.iaddrK tab_ok k6.rd rfl rfl rfl rfl h1.1 h1.2) ?_
                refine WL.y rfl (Yld.iloadK [] tab_ok k6.rd rfl rfl (iltN h1 rfl)) ?_
                refine WL.call rfl rfl (W_sha_Text H) ?_
                rintro _ w5 ⟨hg4, t71, rfl, H⟩
                have gr5 := gr_trans gr4 hg4
                have k9 := k6.grown hg4
                have k10 := k7.grown hg4
                have k11 := k8.grown hg4
                refine WL.lit tab_ok rfl rfl rfl (all1c rfl all1n) rfl (by omega) (fun g1 w6 hB1 hg5 hl1 => ?_)
                have hO1 : Own vs w6 w.heap.size 9 (some ⟨g1, 0, none⟩) 1 ([t71] : List (List UInt8)) := Own.ofBl hB1 (Nat.le_trans (size_le gr5) hl1) (by simp [maxLen]) rfl
                have gr6 := gr_trans gr5 hg5
                have k12 := k9.grown hg5
                have k13 := k10.grown hg5
                have k14 := k11.grown hg5
                obtain ⟨h2, H⟩ := H
                refine WL.append tab_ok rfl rfl One.s k14 rfl rfl hO1.rd rfl rfl h2 (applen h2) (size_le gr6) (fun A_p2 c_p2 w7 hO2 hg6 hk1 => ?_)
                have gr7 := gr_mod gr6 hg6 k14.ge'
                have k15 := k12.go hg6 dj2
                have k16 := k13.go hg6 dj3
                refine WL.y rfl (Yld.pure tab_ok rfl) ?_
                refine WL.nil (WX.block_normal (WX.then_normal ?_))
                refine WC.region ?_
                refine WL.y rfl (Yld.pure tab_ok rfl) ?_
                obtain ⟨h3, H⟩ := H
                refine WL.y rfl (Yld.add rfl rfl h3) ?_
                refine WL.y rfl (Yld.pure tab_ok rfl) ?_
                refine WL.nil ?_
                exact WX.roundF _ ⟨p ++ ([t71] : List (List UInt8)), A_p2, c_p2, (p ++ ([t71] : List (List UInt8))).length, i + (1 : Int), rfl, rfl, H.1, rfl, gr7, k15, k16, hO2, dj1, (Dj.app dj2.symm k12.lt' hk1).symm, (Dj.app dj3.symm k13.lt' hk1).symm⟩ (by repeat (first | exact Sub.nil | refine Sub.cons rfl ?_)) H.2
              · replace H := H.2 (of_decide_eq_false b3)
                refine WC.exit (WX.then_exit (WX.then_exit (WX.block_same (WX.then_normal ?_))))
                refine WC.seq ?_
                refine WC.seq ?_
                refine WC.region ?_
                refine WL.y rfl (Yld.pure tab_ok rfl) ?_
                refine WL.nil (WX.then_normal ?_)
                refine WC.block ?_
                obtain ⟨I2, mu2, h0_2, HR2⟩ := H
                refine WC.loopF (fun n' L' w' => ∃ (q : List (List UInt8)), ∃ (A_q : Option Addr), ∃ (c_q : Nat), ∃ (n_q : Nat), ∃ (i2 : Int), n' = mu2 q i2 ∧ L' = [(0, .int .i64 t), (1, .int .i64 u), (2, .slice A_a a.length c_a), (3, .slice A_b b.length c_b), (14, .slice A_t520 t520.length c_t520), (16, .slice A_t570 t570.length c_t570), (18, .slice A_p p.length c_p), (19, .slice A_q n_q c_q), (21, .int .i64 i2)] ∧ I2 q i2 ∧ n_q = q.length ∧ w.grownBy w' none ∧ OwnK 32 a32 w' w.heap.size 39 A_t520 c_t520 t520 ∧ OwnK 32 a32 w' w.heap.size 39 A_t570 c_t570 t570 ∧ Own vs w' w.heap.size 9 A_p c_p p ∧ Own vs w' w.heap.size 9 A_q c_q q ∧ Dj (blk A_t520) (blk A_t570) ∧ Dj (blk A_t520) (blk A_p) ∧ Dj (blk A_t520) (blk A_q) ∧ Dj (blk A_t570) (blk A_p) ∧ Dj (blk A_t570) (blk A_q) ∧ Dj (blk A_p) (blk A_q)) _ _ ⟨[], none, 0, 0, (0 : Int), rfl, rfl, h0_2, rfl, gr4, k6, k7, k8, (Own.nil vs w4 w.heap.size 9), dj1, dj2, Dj.nr, dj3, Dj.nr, Dj.nr⟩ (by repeat (first | exact Sub.nil | refine Sub.cons rfl ?_)) ?_
                clear h0_2
                rintro _ _ w8 ⟨q, A_q, c_q, n_q, i2, rfl, rfl, hI2, rfl, gr8, k17, k18, k19, k20, dj4, dj5, dj6, dj7, dj8, dj9⟩
                have H := HR2 q i2 hI2
                refine WC.seq ?_
                refine WC.seq ?_
                refine WC.region ?_
                refine WL.y rfl (Yld.pure tab_ok rfl) ?_
                refine WL.y rfl (Yld.pure tab_ok rfl) ?_
                refine WL.y rfl (Yld.pure tab_ok rfl) ?_
                refine WL.y rfl (Yld.pure tab_ok rfl) ?_
                refine WL.nil (WX.then_normal ?_)
                refine WC.cond rfl (fun b4 => ?_) (fun b4 => ?_)
                · replace H := H.1 (of_decide_eq_true b4)
                  refine WC.skip (WX.then_normal ?_)
                  refine WC.seq ?_
                  refine WC.block ?_
                  refine WC.region ?_
                  refine WL.y rfl (Yld.pure tab_ok rfl) ?_
                  refine WL.y rfl (Yld.pure tab_ok rfl) ?_
                  refine WL.y rfl (Yld.pure tab_ok rfl) ?_
                  obtain ⟨h4, H⟩ := H
                  refine WL.y rfl (Yld.iaddrK tab_ok k18.rd rfl rfl rfl rfl h4.1 h4.2) ?_
                  refine WL.y rfl (Yld.iloadK [] tab_ok k18.rd rfl rfl (iltN h4 rfl)) ?_
                  refine WL.call rfl rfl (W_sha_Text H) ?_
                  rintro _ w9 ⟨hg7, t85, rfl, H⟩
                  have gr9 := gr_trans gr8 hg7
                  have k21 := k17.grown hg7
                  have k22 := k18.grown hg7
                  have k23 := k19.grown hg7
                  have k24 := k20.grown hg7
                  refine WL.lit tab_ok rfl rfl rfl (all1c rfl all1n) rfl (by omega) (fun g2 w10 hB2 hg8 hl2 => ?_)
                  have hO3 : Own vs w10 w.heap.size 9 (some ⟨g2, 0, none⟩) 1 ([t85] : List (List UInt8)) := Own.ofBl hB2 (Nat.le_trans (size_le gr9) hl2) (by simp [maxLen]) rfl
                  have gr10 := gr_trans gr9 hg8
                  have k25 := k21.grown hg8
                  have k26 := k22.grown hg8
                  have k27 := k23.grown hg8
                  have k28 := k24.grown hg8
                  obtain ⟨h5, H⟩ := H
                  refine WL.append tab_ok rfl rfl One.s k28 rfl rfl hO3.rd rfl rfl h5 (applen h5) (size_le gr10) (fun A_q2 c_q2 w11 hO4 hg9 hk2 => ?_)
                  have gr11 := gr_mod gr10 hg9 k28.ge'
                  have k29 := k25.go hg9 dj6
                  have k30 := k26.go hg9 dj8
                  have k31 := k27.go hg9 dj9
                  refine WL.y rfl (Yld.pure tab_ok rfl) ?_
                  refine WL.nil (WX.block_normal (WX.then_normal ?_))
                  refine WC.region ?_
                  refine WL.y rfl (Yld.pure tab_ok rfl) ?_
                  obtain ⟨h6, H⟩ := H
                  refine WL.y rfl (Yld.add rfl rfl h6) ?_
                  refine WL.y rfl (Yld.pure tab_ok rfl) ?_
                  refine WL.nil ?_
                  exact WX.roundF _ ⟨q ++ ([t85] : List (List UInt8)), A_q2, c_q2, (q ++ ([t85] : List (List UInt8))).length, i2 + (1 : Int), rfl, rfl, H.1, rfl, gr11, k29, k30, k31, hO4, dj4, dj5, (Dj.app dj6.symm k25.lt' hk2).symm, dj7, (Dj.app dj8.symm k26.lt' hk2).symm, (Dj.app dj9.symm k27.lt' hk2).symm⟩ (by repeat (first | exact Sub.nil | refine Sub.cons rfl ?_)) H.2
                · replace H := H.2 (of_decide_eq_false b4)
                  refine WC.exit (WX.then_exit (WX.then_exit (WX.block_same (WX.then_normal ?_))))
                  refine WC.seq ?_
                  refine WC.region ?_
                  refine WL.y rfl (Yld.pure tab_ok rfl) ?_
                  refine WL.y rfl (Yld.pure tab_ok rfl) ?_
                  refine WL.y rfl (Yld.pure tab_ok rfl) ?_
                  refine WL.y rfl (Yld.pure tab_ok rfl) ?_
                  obtain ⟨J4, H, hJ4⟩ := H
                  refine WL.midF 4 (fun L' w' => ∃ q5 : Bool, L' = [(95, .bool q5), (0, .int .i64 t), (1, .int .i64 u), (2, .slice A_a a.length c_a), (3, .slice A_b b.length c_b), (14, .slice A_t520 t520.length c_t520), (16, .slice A_t570 t570.length c_t570), (18, .slice A_p p.length c_p), (19, .slice A_q q.length c_q)] ∧ J4 q5 ∧ w8 = w') ?_ (fun hQ => ?_)
                  · clear H
                    rintro _ _ ⟨q5, rfl, H, rfl⟩
                    replace H := hJ4 q5 H
                    refine WL.y rfl (Yld.pure tab_ok rfl) ?_
                    obtain ⟨J5, H, hJ5⟩ := H
                    refine WL.midF 4 (fun L' w' => ∃ q6 : Bool, L' = [(100, .bool q6), (0, .int .i64 t), (1, .int .i64 u), (2, .slice A_a a.length c_a), (3, .slice A_b b.length c_b), (14, .slice A_t520 t520.length c_t520), (16, .slice A_t570 t570.length c_t570)] ∧ J5 q6 ∧ w8 = w') ?_ (fun hQ => ?_)
                    · clear H
                      rintro _ _ ⟨q6, rfl, H, rfl⟩
                      replace H := hJ5 q6 H
                      refine WL.y rfl (Yld.pure tab_ok rfl) ?_
                      refine WL.nil (WX.then_normal ?_)
                      refine WC.seq ?_
                      refine WC.region ?_
                      refine WL.y rfl (Yld.pure tab_ok rfl) ?_
                      refine WL.y rfl (Yld.pure tab_ok rfl) ?_
                      refine WL.y rfl (Yld.pure tab_ok rfl) ?_
                      refine WL.call rfl rfl (W_key_Parts (hG.grown gr8) hS101 (ha.grown gr8) rfl k17.rd rfl H) ?_
                      rintro _ w12 ⟨hg10, t104, A_t104, c_t104, rfl, ht104, H⟩
                      have hb5 := ht104.ge'
                      have k32 := ht104.base (fun g hg => Nat.le_trans (size_le gr8) (hb5 g hg))
                      have gr12 := gr_trans gr8 hg10
                      have k33 := k17.grown hg10
                      have k34 := k18.grown hg10
                      refine WL.y rfl (Yld.pure tab_ok rfl) ?_
                      refine WL.y rfl (Yld.pure tab_ok rfl) ?_
                      refine WL.y rfl (Yld.pure tab_ok rfl) ?_
                      refine WL.call rfl rfl (W_key_Parts (hG.grown gr12) hS101 (hb.grown gr12) rfl k34.rd rfl H) ?_
                      rintro _ w13 ⟨hg11, t108, A_t108, c_t108, rfl, ht108, H⟩
                      have hb6 := ht108.ge'
                      have k35 := ht108.base (fun g hg => Nat.le_trans (size_le gr12) (hb6 g hg))
                      have gr13 := gr_trans gr12 hg11
                      have k36 := k33.grown hg11
                      have k37 := k34.grown hg11
                      have k38 := k32.grown hg11
                      refine WL.call rfl rfl (W_smithyref_SameTexts k38.rd rfl k35.rd rfl H) ?_
                      rintro _ _ ⟨rfl, parts, rfl, H⟩
                      refine WL.y rfl (Yld.pure tab_ok rfl) ?_
                      refine WL.nil (WX.then_normal ?_)
                      refine WC.seq ?_
                      refine WC.region ?_
                      refine WL.y rfl (Yld.pure tab_ok rfl) ?_
                      refine WL.y rfl (Yld.pure tab_ok rfl) ?_
                      refine WL.y rfl (Yld.beql Tryd.underlying4 rfl rfl) ?_
                      refine WL.y rfl (Yld.pure tab_ok rfl) ?_
                      obtain ⟨J6, H, hJ6⟩ := H
                      refine WL.midF 14 (fun L' w' => ∃ q7 : Bool, L' = [(127, .bool q7)] ∧ J6 q7 ∧ w.grownBy w' none) ?_ (fun hQ => ?_)
                      · clear H
                        rintro _ w14 ⟨q7, rfl, H, gr14⟩
                        replace H := hJ6 q7 H
                        refine WL.y rfl (Yld.pure tab_ok rfl) ?_
                        refine WL.nil (WX.then_normal ?_)
                        refine WC.ret ?_
                        exact WX.ret1 rfl rfl ⟨gr14, q7, rfl, H⟩
                      · clear hJ6
                        rcases Bool.eq_false_or_eq_true (parts == q6) with b5 | b5
                        · replace H := H.1 b5
                          refine WL.gyes rfl rfl (okb b5) rfl (Yld.pure tab_ok rfl) ?_
                          refine WL.gyes rfl rfl (okb b5) rfl (Yld.pure tab_ok rfl) ?_
                          refine WL.gyes rfl rfl (okb b5) rfl (Yld.pure tab_ok rfl) ?_
                          rcases Bool.eq_false_or_eq_true (!q6) with b6 | b6
                          · replace H := H.1 b6
                            refine WL.gno rfl rfl (okb b6) rfl ?_
                            refine WL.gno rfl rfl (okb b6) rfl ?_
                            refine WL.gno rfl rfl (okb b6) rfl ?_
                            refine WL.gno rfl rfl (okb b6) rfl ?_
                            refine WL.gno rfl rfl (okb b6) rfl ?_
                            refine WL.gno rfl rfl (okb b6) rfl ?_
                            refine WL.gno rfl rfl (okb b6) rfl ?_
                            refine WL.gno rfl rfl (okb b6) rfl ?_
                            refine WL.gno rfl rfl (okb b6) rfl ?_
                            refine WL.gyes rfl rfl (okb b5) rfl (Yld.pickT (okb b6) rfl) ?_
                            refine WL.y rfl (Yld.pickT (okb b5) rfl) ?_
                            exact WL.weaken (by repeat (first | exact Sub.nil | refine Sub.cons rfl ?_)) (hQ _ _ ⟨true, rfl, H, gr13⟩)
                          · replace H := H.2 b6
                            refine WL.gyes rfl rfl (okb b6) rfl (Yld.pure tab_ok rfl) ?_
                            refine WL.gyes rfl rfl (okb b6) rfl (Yld.pure tab_ok rfl) ?_
                            refine WL.gyes rfl rfl (okb b6) rfl (Yld.pure tab_ok rfl) ?_
                            refine WL.callw (wants_some rfl rfl (okb b6)) rfl rfl (W_key_Of (hG.grown gr13) hS101 (ha.grown gr13) rfl k36.rd rfl H) ?_
                            rintro _ w15 ⟨hg12, t120, rfl, H⟩
                            have gr15 := gr_trans gr13 hg12
                            have k39 := k36.grown hg12
                            have k40 := k37.grown hg12
                            refine WL.gyes rfl rfl (okb b6) rfl (Yld.pure tab_ok rfl) ?_
                            refine WL.gyes rfl rfl (okb b6) rfl (Yld.pure tab_ok rfl) ?_
                            refine WL.gyes rfl rfl (okb b6) rfl (Yld.pure tab_ok rfl) ?_
                            refine WL.callw (wants_some rfl rfl (okb b6)) rfl rfl (W_key_Of (hG.grown gr15) hS101 (hb.grown gr15) rfl k40.rd rfl H) ?_
                            rintro _ w16 ⟨hg13, t124, rfl, H⟩
                            have gr16 := gr_trans gr15 hg13
                            have k41 := k40.grown hg13
                            refine WL.callw (wants_some rfl rfl (okb b6)) rfl rfl (W_smithyref17_SameSum H) ?_
                            rintro _ w17 ⟨hg14, t125, rfl, H⟩
                            have gr17 := gr_trans gr16 hg14
                            refine WL.gyes rfl rfl (okb b5) rfl (Yld.pickF (okb b6) rfl) ?_
                            refine WL.y rfl (Yld.pickT (okb b5) rfl) ?_
                            exact WL.weaken (by repeat (first | exact Sub.nil | refine Sub.cons rfl ?_)) (hQ _ _ ⟨t125, rfl, H, gr17⟩)
                        · replace H := H.2 b5
                          refine WL.gno rfl rfl (okb b5) rfl ?_
                          refine WL.gno rfl rfl (okb b5) rfl ?_
                          refine WL.gno rfl rfl (okb b5) rfl ?_
                          refine WL.gun rfl rfl rfl rfl ?_
                          refine WL.gun rfl rfl rfl rfl ?_
                          refine WL.gun rfl rfl rfl rfl ?_
                          refine WL.gun rfl rfl rfl rfl ?_
                          refine WL.gun rfl rfl rfl rfl ?_
                          refine WL.gun rfl rfl rfl rfl ?_
                          refine WL.gun rfl rfl rfl rfl ?_
                          refine WL.gun rfl rfl rfl rfl ?_
                          refine WL.gun rfl rfl rfl rfl ?_
                          refine WL.gno rfl rfl (okb b5) rfl ?_
                          refine WL.y rfl (Yld.pickF (okb b5) rfl) ?_
                          exact WL.weaken (by repeat (first | exact Sub.nil | refine Sub.cons rfl ?_)) (hQ _ _ ⟨false, rfl, H, gr13⟩)
                    · clear hJ5
                      rcases Bool.eq_false_or_eq_true (q5) with b7 | b7
                      · replace H := H.1 b7
                        refine WL.gyes rfl rfl (okb b7) rfl (Yld.pure tab_ok rfl) ?_
                        refine WL.gyes rfl rfl (okb b7) rfl (Yld.pure tab_ok rfl) ?_
                        refine WL.callw (wants_some rfl rfl (okb b7)) rfl rfl (W_smithyref_SameTexts k19.rd rfl k20.rd rfl H) ?_
                        rintro _ _ ⟨rfl, t99, rfl, H⟩
                        refine WL.y rfl (Yld.pickT (okb b7) rfl) ?_
                        exact WL.weaken (by repeat (first | exact Sub.nil | refine Sub.cons rfl ?_)) (hQ _ _ ⟨t99, rfl, H, rfl⟩)
                      · replace H := H.2 b7
                        refine WL.gno rfl rfl (okb b7) rfl ?_
                        refine WL.gno rfl rfl (okb b7) rfl ?_
                        refine WL.gno rfl rfl (okb b7) rfl ?_
                        refine WL.y rfl (Yld.pickF (okb b7) rfl) ?_
                        exact WL.weaken (by repeat (first | exact Sub.nil | refine Sub.cons rfl ?_)) (hQ _ _ ⟨false, rfl, H, rfl⟩)
                  · clear hJ4
                    rcases Bool.eq_false_or_eq_true (decide (t = u)) with b8 | b8
                    · replace H := H.1 b8
                      refine WL.gyes rfl rfl (okb b8) rfl (Yld.pure tab_ok rfl) ?_
                      refine WL.gyes rfl rfl (okb b8) rfl (Yld.pure tab_ok rfl) ?_
                      refine WL.callw (wants_some rfl rfl (okb b8)) rfl rfl (W_smithyref_SameTexts (ha.grown gr8) rfl (hb.grown gr8) rfl H) ?_
                      rintro _ _ ⟨rfl, t94, rfl, H⟩
                      refine WL.y rfl (Yld.pickT (okb b8) rfl) ?_
                      exact WL.weaken (by repeat (first | exact Sub.nil | refine Sub.cons rfl ?_)) (hQ _ _ ⟨t94, rfl, H, rfl⟩)
                    · replace H := H.2 b8
                      refine WL.gno rfl rfl (okb b8) rfl ?_
                      refine WL.gno rfl rfl (okb b8) rfl ?_
                      refine WL.gno rfl rfl (okb b8) rfl ?_
                      refine WL.y rfl (Yld.pickF (okb b8) rfl) ?_
                      exact WL.weaken (by repeat (first | exact Sub.nil | refine Sub.cons rfl ?_)) (hQ _ _ ⟨false, rfl, H, rfl⟩)
          · clear H
            rcases Bool.eq_false_or_eq_true (q3) with b9 | b9
            · refine WL.gno rfl rfl (okb b9) rfl ?_
              refine WL.gno rfl rfl (okb b9) rfl ?_
              refine WL.y rfl (Yld.pickT (okb b9) rfl) ?_
              exact WL.weaken (by repeat (first | exact Sub.nil | refine Sub.cons rfl ?_)) (hQ _ _ ⟨true, rfl, by rw [b9] <;> rfl, rfl⟩)
            · refine WL.gyes rfl rfl (okb b9) rfl (Yld.pure tab_ok rfl) ?_
              refine WL.gyes rfl rfl (okb b9) rfl (Yld.pure tab_ok rfl) ?_
              refine WL.y rfl (Yld.pickF (okb b9) rfl) ?_
              exact WL.weaken (by repeat (first | exact Sub.nil | refine Sub.cons rfl ?_)) (hQ _ _ ⟨!ok, rfl, by rw [b9] <;> rfl, rfl⟩)
        · clear hJ3
          rcases Bool.eq_false_or_eq_true (q2) with b10 | b10
          · replace H := H.1 b10
            refine WL.gno rfl rfl (okb b10) rfl ?_
            refine WL.gno rfl rfl (okb b10) rfl ?_
            refine WL.gno rfl rfl (okb b10) rfl ?_
            refine WL.y rfl (Yld.pickT (okb b10) rfl) ?_
            exact WL.weaken (by repeat (first | exact Sub.nil | refine Sub.cons rfl ?_)) (hQ _ _ ⟨true, rfl, H, rfl⟩)
          · replace H := H.2 b10
            refine WL.gyes rfl rfl (okb b10) rfl (Yld.pure tab_ok rfl) ?_
            refine WL.callw (wants_some rfl rfl (okb b10)) rfl rfl (W_smithyworld_Texts (hd.grown gr1) rfl H) ?_
            rintro _ _ ⟨rfl, t42, rfl, H⟩
            refine WL.gyes rfl rfl (okb b10) rfl (Yld.pure tab_ok rfl) ?_
            refine WL.y rfl (Yld.pickF (okb b10) rfl) ?_
            exact WL.weaken (by repeat (first | exact Sub.nil | refine Sub.cons rfl ?_)) (hQ _ _ ⟨!t42, rfl, H, rfl⟩)
      · clear hJ2
        rcases Bool.eq_false_or_eq_true (q1) with b11 | b11
        · replace H := H.1 b11
          refine WL.gno rfl rfl (okb b11) rfl ?_
          refine WL.gno rfl rfl (okb b11) rfl ?_
          refine WL.gno rfl rfl (okb b11) rfl ?_
          refine WL.y rfl (Yld.pickT (okb b11) rfl) ?_
          exact WL.weaken (by repeat (first | exact Sub.nil | refine Sub.cons rfl ?_)) (hQ _ _ ⟨true, rfl, H, rfl⟩)
        · replace H := H.2 b11
          refine WL.gyes rfl rfl (okb b11) rfl (Yld.pure tab_ok rfl) ?_
          refine WL.callw (wants_some rfl rfl (okb b11)) rfl rfl (W_smithyworld_Texts (hc.grown gr1) rfl H) ?_
          rintro _ _ ⟨rfl, t37, rfl, H⟩
          refine WL.gyes rfl rfl (okb b11) rfl (Yld.pure tab_ok rfl) ?_
          refine WL.y rfl (Yld.pickF (okb b11) rfl) ?_
          exact WL.weaken (by repeat (first | exact Sub.nil | refine Sub.cons rfl ?_)) (hQ _ _ ⟨!t37, rfl, H, rfl⟩)
    · clear hJ1
      rcases Bool.eq_false_or_eq_true (!t28) with b12 | b12
      · replace H := H.1 b12
        refine WL.gno rfl rfl (okb b12) rfl ?_
        refine WL.gno rfl rfl (okb b12) rfl ?_
        refine WL.gno rfl rfl (okb b12) rfl ?_
        refine WL.y rfl (Yld.pickT (okb b12) rfl) ?_
        exact WL.weaken (by repeat (first | exact Sub.nil | refine Sub.cons rfl ?_)) (hQ _ _ ⟨true, rfl, H, rfl⟩)
      · replace H := H.2 b12
        refine WL.gyes rfl rfl (okb b12) rfl (Yld.pure tab_ok rfl) ?_
        refine WL.callw (wants_some rfl rfl (okb b12)) rfl rfl (W_smithyworld_Texts (hb.grown gr1) rfl H) ?_
        rintro _ _ ⟨rfl, t32, rfl, H⟩
        refine WL.gyes rfl rfl (okb b12) rfl (Yld.pure tab_ok rfl) ?_
        refine WL.y rfl (Yld.pickF (okb b12) rfl) ?_
        exact WL.weaken (by repeat (first | exact Sub.nil | refine Sub.cons rfl ?_)) (hQ _ _ ⟨!t32, rfl, H, rfl⟩)

set_option maxHeartbeats 8000000 in
theorem W_smithylaw24_KeyParts {S : List Nat} {w : World} {tool : Int} {args : List (List UInt8)} {A_args : Option Addr} {c_args : Nat} {inputs : List (List UInt8)} {A_inputs : Option Addr} {c_inputs : Nat} {n_args : Nat} {n_inputs : Nat} {K : Bool → Prop} (hG : GOK S w) (hS101 : 101 ∈ S) (hargs : Rd vs w A_args c_args args) (hn_args : n_args = args.length) (hinputs : Rd vs w A_inputs c_inputs inputs) (hn_inputs : n_inputs = inputs.length) (H : M_smithylaw24_KeyParts tool args inputs K) : Fn Tryd.prog 6 ⟨[.int .i64 tool, .slice A_args n_args c_args, .slice A_inputs n_inputs c_inputs]⟩ w (fun v w' => w.grownBy w' none ∧ ∃ (r : Bool), v = .bool r ∧ K r) := by
  subst hn_args
  subst hn_inputs
  unfold M_smithylaw24_KeyParts at H
  refine Fn.enter (by kernel_rfl) Tryd.func6 rfl Tryd.ntmps6 rfl ?_
  replace H := H (Nat.le_trans hargs.cap hargs.max)
  replace H := H (Nat.le_trans hinputs.cap hinputs.max)
  refine WC.seq ?_
  refine WC.region ?_
  refine WL.y rfl (Yld.pure tab_ok rfl) ?_
  refine WL.nil (WX.then_normal ?_)
  refine WC.seq ?_
  refine WC.region ?_
  refine WL.call rfl rfl (W_smithylaw24_first hG hS101 H) ?_
  rintro _ w1 ⟨hg1, ok, rfl, H⟩
  have gr1 := hg1
  refine WL.y rfl (Yld.pure tab_ok rfl) ?_
  refine WL.nil (WX.then_normal ?_)
  refine WC.seq ?_
  refine WC.seq ?_
  refine WC.region ?_
  refine WL.y rfl (Yld.pure tab_ok rfl) ?_
  refine WL.y rfl (Yld.pure tab_ok rfl) ?_
  refine WL.nil (WX.then_normal ?_)
  refine WC.cond rfl (fun b1 => ?_) (fun b1 => ?_)
  · replace H := H.1 (b1)
    refine WC.seq ?_
    refine WC.region ?_
    refine WL.y rfl (Yld.pure tab_ok rfl) ?_
    refine WL.nil (WX.then_normal ?_)
    refine WC.ret (WX.then_ret ?_)
    exact WX.ret1 rfl rfl ⟨gr1, false, rfl, H⟩
  · replace H := H.2 (b1)
    refine WC.skip (WX.then_normal ?_)
    refine WC.seq ?_
    refine WC.seq ?_
    refine WC.region ?_
    refine WL.y rfl (Yld.pure tab_ok rfl) ?_
    refine WL.call rfl rfl (W_smithyworld_Texts (hargs.grown gr1) rfl H) ?_
    rintro _ _ ⟨rfl, t16, rfl, H⟩
    refine WL.y rfl (Yld.pure tab_ok rfl) ?_
    refine WL.y rfl (Yld.pure tab_ok rfl) ?_
    obtain ⟨J1, H, hJ1⟩ := H
    refine WL.midF 4 (fun L' w' => ∃ q1 : Bool, L' = [(22, .bool q1), (0, .int .i64 tool), (1, .slice A_args args.length c_args), (2, .slice A_inputs inputs.length c_inputs), (7, .bool ok)] ∧ J1 q1 ∧ w1 = w') ?_ (fun hQ => ?_)
    · clear H
      rintro _ _ ⟨q1, rfl, H, rfl⟩
      replace H := hJ1 q1 H
      refine WL.y rfl (Yld.pure tab_ok rfl) ?_
      refine WL.midF 3 (fun L' w' => ∃ q2 : Bool, L' = [(26, .bool q2), (0, .int .i64 tool), (1, .slice A_args args.length c_args), (2, .slice A_inputs inputs.length c_inputs), (7, .bool ok)] ∧ q2 = (q1 || (!ok)) ∧ w1 = w') ?_ (fun hQ => ?_)
      · rintro _ _ ⟨q2, rfl, rfl, rfl⟩
        refine WL.nil (WX.then_normal ?_)
        refine WC.cond rfl (fun b2 => ?_) (fun b2 => ?_)
        · replace H := H.1 (b2)
          refine WC.seq ?_
          refine WC.region ?_
          refine WL.y rfl (Yld.pure tab_ok rfl) ?_
          refine WL.y rfl (Yld.pure tab_ok rfl) ?_
          refine WL.nil (WX.then_normal ?_)
          refine WC.ret (WX.then_ret ?_)
          exact WX.ret1 rfl rfl ⟨gr1, ok, rfl, H⟩
        · replace H := H.2 (b2)
          refine WC.skip (WX.then_normal ?_)
          refine WC.seq ?_
          refine WC.region ?_
          refine WL.y rfl (Yld.pure tab_ok rfl) ?_
          refine WL.call rfl rfl (W_smithylaw24_sums (hinputs.grown gr1) rfl H) ?_
          rintro _ w2 ⟨hg2, t300, A_t300, c_t300, t301, A_t301, c_t301, rfl, ht300, ht301, H⟩
          have hb1 := ht300.ge'
          have k1 := ht300.base (fun g hg => Nat.le_trans (size_le gr1) (hb1 g hg))
          have hb2 := ht301.ge'
          have k2 := ht301.base (fun g hg => Nat.le_trans (size_le gr1) (hb2 g hg))
          have gr2 := gr_trans gr1 hg2
          refine WL.y rfl (Yld.pure tab_ok rfl) ?_
          refine WL.y rfl (Yld.pure tab_ok rfl) ?_
          refine WL.y rfl (Yld.pure tab_ok rfl) ?_
          refine WL.y rfl (Yld.pure tab_ok rfl) ?_
          refine WL.y rfl (Yld.pure tab_ok rfl) ?_
          refine WL.nil (WX.then_normal ?_)
          refine WC.seq ?_
          refine WC.region ?_
          refine WL.y rfl (Yld.pure tab_ok rfl) ?_
          refine WL.y rfl (Yld.pure tab_ok rfl) ?_
          refine WL.y rfl (Yld.pure tab_ok rfl) ?_
          refine WL.call rfl rfl (W_key_Parts (hG.grown gr2) hS101 (hargs.grown gr2) rfl k1.rd rfl H) ?_
          rintro _ w3 ⟨hg3, p, A_p, c_p, rfl, hp, H⟩
          have hb3 := hp.ge'
          have k3 := hp.base (fun g hg => Nat.le_trans (size_le gr2) (hb3 g hg))
          have gr3 := gr_trans gr2 hg3
          have k4 := k1.grown hg3
          refine WL.y rfl (Yld.pure tab_ok rfl) ?_
          refine WL.nil (WX.then_normal ?_)
          refine WC.seq ?_
          refine WC.seq ?_
          refine WC.chainF (fun k => !(Nat.beq k 34)) (LD [12, 18] (fun w' => Rd vs w' A_p c_p p)) mixed (by kernel_rfl) (fun k w' h _ => (rd_eqv h k3.rd)) ?_
          refine WJ.y rfl rfl (fun w' hw' => Yld.pure tab_ok rfl) ?_
          refine WJ.y rfl rfl (fun w' hw' => Yld.pure tab_ok rfl) ?_
          refine WJ.y rfl rfl (fun w' hw' => Yld.pure tab_ok rfl) ?_
          refine WJ.y rfl rfl (fun w' hw' => Yld.pure tab_ok rfl) ?_
          obtain ⟨h1, H⟩ := H
          refine WJ.y rfl rfl (fun w' hw' => Yld.add rfl rfl h1) ?_
          refine WJ.y rfl rfl (fun w' hw' => Yld.pure tab_ok rfl) ?_
          refine WJ.y rfl rfl (fun w' hw' => Yld.pure tab_ok rfl) ?_
          obtain ⟨h2, H⟩ := H
          refine WJ.y rfl rfl (fun w' hw' => Yld.add rfl rfl h2) ?_
          refine WJ.y rfl rfl (fun w' hw' => Yld.pure tab_ok rfl) ?_
          refine WJ.y rfl rfl (fun w' hw' => Yld.pure tab_ok rfl) ?_
          obtain ⟨h3, H⟩ := H
          refine WJ.midF 5 (fun L' w' => ∃ q3 : Bool, L' = [(51, .bool q3), (0, .int .i64 tool), (1, .slice A_args args.length c_args), (8, .slice A_t300 t300.length c_t300), (10, .slice A_p p.length c_p)] ∧ q3 = ((!decide ((p.length : Int) = (((3 : Int) + (args.length : Int)) + (inputs.length : Int)))) || (!decide ((p.getD 0 []) = ([115, 109, 105, 116, 104, 121] : List UInt8)))) ∧ w3 = w') ?_ (fun hQ => ?_)
          · rintro _ _ ⟨q3, rfl, rfl, rfl⟩
            refine WJ.y rfl rfl (fun w' hw' => Yld.pure tab_ok rfl) ?_
            obtain ⟨h4, H⟩ := H
            obtain ⟨h5, H⟩ := H
            obtain ⟨h6, H⟩ := H
            refine WJ.midF 11 (fun L' w' => ∃ q4 : Bool, L' = [(63, .bool q4), (0, .int .i64 tool), (1, .slice A_args args.length c_args), (8, .slice A_t300 t300.length c_t300), (10, .slice A_p p.length c_p)] ∧ q4 = (((!decide ((p.length : Int) = (((3 : Int) + (args.length : Int)) + (inputs.length : Int)))) || (!decide ((p.getD 0 []) = ([115, 109, 105, 116, 104, 121] : List UInt8)))) || (!decide ((p.getD 2 []) = ((([48, 49, 50, 51, 52, 53, 54, 55, 56] : List UInt8).drop (args.length : Int).toNat).take (((args.length : Int) + (1 : Int)).toNat - (args.length : Int).toNat))))) ∧ w3 = w') ?_ (fun hQ => ?_)
            · rintro _ _ ⟨q4, rfl, rfl, rfl⟩
              refine WJ.y rfl rfl (fun w' hw' => Yld.pure tab_ok rfl) ?_
              obtain ⟨J2, H, hJ2⟩ := H
              refine WJ.midF 9 (fun L' w' => ∃ q5 : Bool, L' = [(73, .bool q5), (0, .int .i64 tool), (1, .slice A_args args.length c_args), (8, .slice A_t300 t300.length c_t300), (10, .slice A_p p.length c_p)] ∧ J2 q5 ∧ w3 = w') ?_ (fun hQ => ?_)
              · clear H
                rintro _ _ ⟨q5, rfl, H, rfl⟩
                replace H := hJ2 q5 H
                refine WJ.nil (WX.then_normal ?_)
                refine WC.cond rfl (fun b3 => ?_) (fun b3 => ?_)
                · replace H := H.1 (b3)
                  refine WC.seq ?_
                  refine WC.region ?_
                  refine WL.y rfl (Yld.pure tab_ok rfl) ?_
                  refine WL.nil (WX.then_normal ?_)
                  refine WC.ret (WX.then_ret ?_)
                  exact WX.ret1 rfl rfl ⟨gr3, false, rfl, H⟩
                · replace H := H.2 (b3)
                  refine WC.skip (WX.then_normal ?_)
                  refine WC.seq ?_
                  refine WC.seq ?_
                  refine WC.region ?_
                  refine WL.y rfl (Yld.pure tab_ok rfl) ?_
                  refine WL.y rfl (Yld.pure tab_ok rfl) ?_
                  obtain ⟨h7, H⟩ := H
                  refine WL.y rfl (Yld.add rfl rfl h7) ?_
                  refine WL.y rfl (Yld.pure tab_ok rfl) ?_
                  refine WL.nil (WX.then_normal ?_)
                  refine WC.block ?_
                  obtain ⟨I1, mu1, h0_1, HR1⟩ := H
                  refine WC.loopF (fun n' L' w' => ∃ (i : Int), n' = mu1 i ∧ L' = [(0, .int .i64 tool), (1, .slice A_args args.length c_args), (8, .slice A_t300 t300.length c_t300), (10, .slice A_p p.length c_p), (11, .int .i64 i)] ∧ I1 i ∧ w3 = w') _ _ ⟨(3 : Int) + (args.length : Int), rfl, rfl, h0_1, rfl⟩ (by repeat (first | exact Sub.nil | refine Sub.cons rfl ?_)) ?_
                  clear h0_1
                  rintro _ _ _ ⟨i, rfl, rfl, hI1, rfl⟩
                  have H := HR1 i hI1
                  refine WC.seq ?_
                  refine WC.seq ?_
                  refine WC.region ?_
                  refine WL.y rfl (Yld.pure tab_ok rfl) ?_
                  refine WL.y rfl (Yld.pure tab_ok rfl) ?_
                  refine WL.y rfl (Yld.pure tab_ok rfl) ?_
                  refine WL.y rfl (Yld.pure tab_ok rfl) ?_
                  refine WL.nil (WX.then_normal ?_)
                  refine WC.cond rfl (fun b4 => ?_) (fun b4 => ?_)
                  · replace H := H.1 (of_decide_eq_true b4)
                    refine WC.skip (WX.then_normal ?_)
                    refine WC.seq ?_
                    refine WC.block ?_
                    refine WC.seq ?_
                    refine WC.region ?_
                    refine WL.y rfl (Yld.pure tab_ok rfl) ?_
                    refine WL.y rfl (Yld.pure tab_ok rfl) ?_
                    obtain ⟨h8, H⟩ := H
                    refine WL.y rfl (Yld.iaddrW tab_ok k3.rd rfl rfl rfl rfl h8.1 h8.2) ?_
                    refine WL.y rfl (Yld.iload [] tab_ok k3.rd rfl rfl (iltN h8 rfl)) ?_
                    refine WL.y rfl (Yld.pure tab_ok rfl) ?_
                    refine WL.y rfl (Yld.pure tab_ok rfl) ?_
                    refine WL.nil (WX.then_normal ?_)
                    refine WC.cond rfl (fun b5 => ?_) (fun b5 => ?_)
                    · replace H := H.1 (nd_true b5)
                      refine WC.seq ?_
                      refine WC.region ?_
                      refine WL.y rfl (Yld.pure tab_ok rfl) ?_
                      refine WL.nil (WX.then_normal ?_)
                      refine WC.ret (WX.block_ret (WX.then_ret (WX.then_ret (WX.block_ret (WX.then_ret ?_)))))
                      exact WX.ret1 rfl rfl ⟨gr3, false, rfl, H⟩
                    · replace H := H.2 (nd_false b5)
                      refine WC.skip (WX.block_normal (WX.then_normal ?_))
                      refine WC.region ?_
                      refine WL.y rfl (Yld.pure tab_ok rfl) ?_
                      obtain ⟨h9, H⟩ := H
                      refine WL.y rfl (Yld.add rfl rfl h9) ?_
                      refine WL.y rfl (Yld.pure tab_ok rfl) ?_
                      refine WL.nil ?_
                      exact WX.roundF _ ⟨i + (1 : Int), rfl, rfl, H.1, rfl⟩ (by repeat (first | exact Sub.nil | refine Sub.cons rfl ?_)) H.2
                  · replace H := H.2 (of_decide_eq_false b4)
                    refine WC.exit (WX.then_exit (WX.then_exit (WX.block_same (WX.then_normal ?_))))
                    refine WC.seq ?_
                    refine WC.region ?_
                    refine WL.y rfl (Yld.pure tab_ok rfl) ?_
                    obtain ⟨h10, H⟩ := H
                    refine WL.y rfl (Yld.iaddrW tab_ok k3.rd rfl rfl rfl rfl h10.1 h10.2) ?_
                    refine WL.ostore (v := ([122, 122] : List UInt8)) one9 One.s k3 rfl rfl (iltN h10 rfl) (fun w4 hO1 hg4 => ?_)
                    have gr4 := gr_mod gr3 hg4 k3.ge'
                    have k5 := k4.go hg4 (Dj.new k1.lt' hb3)
                    refine WL.nil (WX.then_normal ?_)
                    refine WC.seq ?_
                    refine WC.region ?_
                    refine WL.y rfl (Yld.pure tab_ok rfl) ?_
                    refine WL.y rfl (Yld.pure tab_ok rfl) ?_
                    refine WL.y rfl (Yld.pure tab_ok rfl) ?_
                    refine WL.call rfl rfl (W_key_Parts (hG.grown gr4) hS101 (hargs.grown gr4) rfl k5.rd rfl H) ?_
                    rintro _ w5 ⟨hg5, t94, A_t94, c_t94, rfl, ht94, H⟩
                    have hb4 := ht94.ge'
                    have k6 := ht94.base (fun g hg => Nat.le_trans (size_le gr4) (hb4 g hg))
                    have gr5 := gr_trans gr4 hg5
                    obtain ⟨h11, H⟩ := H
                    refine WL.y rfl (Yld.iaddrW tab_ok k6.rd rfl rfl rfl rfl h11.1 h11.2) ?_
                    refine WL.y rfl (Yld.iload [] tab_ok k6.rd rfl rfl (iltN h11 rfl)) ?_
                    refine WL.y rfl (Yld.pure tab_ok rfl) ?_
                    refine WL.y rfl (Yld.pure tab_ok rfl) ?_
                    refine WL.nil (WX.then_normal ?_)
                    refine WC.ret ?_
                    exact WX.ret1 rfl rfl ⟨gr5, decide ((t94.getD 0 []) = ([115, 109, 105, 116, 104, 121] : List UInt8)), rfl, H⟩
              · clear hJ2
                rcases Bool.eq_false_or_eq_true (((!decide ((p.length : Int) = (((3 : Int) + (args.length : Int)) + (inputs.length : Int)))) || (!decide ((p.getD 0 []) = ([115, 109, 105, 116, 104, 121] : List UInt8)))) || (!decide ((p.getD 2 []) = ((([48, 49, 50, 51, 52, 53, 54, 55, 56] : List UInt8).drop (args.length : Int).toNat).take (((args.length : Int) + (1 : Int)).toNat - (args.length : Int).toNat))))) with b6 | b6
                · replace H := H.1 b6
                  refine WJ.no rfl rfl (okb b6) rfl ?_
                  refine WJ.no rfl rfl (okb b6) rfl ?_
                  refine WJ.no rfl rfl (okb b6) rfl ?_
                  refine WJ.no rfl rfl (okb b6) rfl ?_
                  refine WJ.no rfl rfl (okb b6) rfl ?_
                  refine WJ.no rfl rfl (okb b6) rfl ?_
                  refine WJ.no rfl rfl (okb b6) rfl ?_
                  refine WJ.no rfl rfl (okb b6) rfl ?_
                  refine WJ.y rfl rfl (fun w' hw' => Yld.pickT (okb b6) rfl) ?_
                  exact WJ.weaken (by repeat (first | exact Sub.nil | refine Sub.cons rfl ?_)) (hQ _ _ ⟨true, rfl, H, rfl⟩)
                · replace H := H.2 b6
                  refine WJ.yw rfl (wants_some rfl rfl (okb b6)) rfl (fun w' hw' => Yld.pure tab_ok rfl) ?_
                  refine WJ.yw rfl (wants_some rfl rfl (okb b6)) rfl (fun w' hw' => Yld.pure tab_ok rfl) ?_
                  refine WJ.yw rfl (wants_some rfl rfl (okb b6)) rfl (fun w' hw' => Yld.pure tab_ok rfl) ?_
                  obtain ⟨h12, H⟩ := H
                  refine WJ.yw rfl (wants_some rfl rfl (okb b6)) rfl (fun w' hw' => Yld.add rfl rfl h12) ?_
                  obtain ⟨h13, H⟩ := H
                  refine WJ.yw rfl (wants_some rfl rfl (okb b6)) rfl (fun w' hw' => Yld.cutY tab_ok k3.rd rfl rfl rfl rfl rfl h13.1 h13.2.1 h13.2.2) ?_
                  refine WJ.yw rfl (wants_some rfl rfl (okb b6)) rfl (fun w' hw' => Yld.pure tab_ok rfl) ?_
                  refine WJ.call rfl (wants_some rfl rfl (okb b6)) rfl rfl (W_smithyref_SameTexts (k3.rd.cut2 rfl h13.1 h13.2.1 h13.2.2) rfl (hargs.grown gr3) rfl H) (fun v w' h w2 e => DD.keep (rd_eqv (eqvL h.1 e) k3.rd)) ?_
                  rintro _ _ ⟨rfl, t71, rfl, H⟩
                  refine WJ.yw rfl (wants_some rfl rfl (okb b6)) rfl (fun w' hw' => Yld.pure tab_ok rfl) ?_
                  refine WJ.y rfl rfl (fun w' hw' => Yld.pickF (okb b6) rfl) ?_
                  exact WJ.weaken (by repeat (first | exact Sub.nil | refine Sub.cons rfl ?_)) (hQ _ _ ⟨!t71, rfl, H, rfl⟩)
            · clear H
              rcases Bool.eq_false_or_eq_true ((!decide ((p.length : Int) = (((3 : Int) + (args.length : Int)) + (inputs.length : Int)))) || (!decide ((p.getD 0 []) = ([115, 109, 105, 116, 104, 121] : List UInt8)))) with b7 | b7
              · refine WJ.no rfl rfl (okb b7) rfl ?_
                refine WJ.no rfl rfl (okb b7) rfl ?_
                refine WJ.no rfl rfl (okb b7) rfl ?_
                refine WJ.no rfl rfl (okb b7) rfl ?_
                refine WJ.no rfl rfl (okb b7) rfl ?_
                refine WJ.no rfl rfl (okb b7) rfl ?_
                refine WJ.no rfl rfl (okb b7) rfl ?_
                refine WJ.no rfl rfl (okb b7) rfl ?_
                refine WJ.no rfl rfl (okb b7) rfl ?_
                refine WJ.no rfl rfl (okb b7) rfl ?_
                refine WJ.y rfl rfl (fun w' hw' => Yld.pickT (okb b7) rfl) ?_
                exact WJ.weaken (by repeat (first | exact Sub.nil | refine Sub.cons rfl ?_)) (hQ _ _ ⟨true, rfl, by rw [b7] <;> rfl, rfl⟩)
              · refine WJ.yw rfl (wants_some rfl rfl (okb b7)) rfl (fun w' hw' => Yld.pure tab_ok rfl) ?_
                refine WJ.yw rfl (wants_some rfl rfl (okb b7)) rfl (fun w' hw' => Yld.iaddrW tab_ok k3.rd rfl rfl rfl rfl (h4 b7).1 (h4 b7).2) ?_
                refine WJ.yw rfl (wants_some rfl rfl (okb b7)) rfl (fun w' hw' => Yld.iload [] tab_ok (hw' rfl) rfl rfl (iltN (h4 b7) rfl)) ?_
                refine WJ.yw rfl (wants_some rfl rfl (okb b7)) rfl (fun w' hw' => Yld.pure tab_ok rfl) ?_
                refine WJ.yw rfl (wants_some rfl rfl (okb b7)) rfl (fun w' hw' => Yld.pure tab_ok rfl) ?_
                refine WJ.yw rfl (wants_some rfl rfl (okb b7)) rfl (fun w' hw' => Yld.pure tab_ok rfl) ?_
                refine WJ.yw rfl (wants_some rfl rfl (okb b7)) rfl (fun w' hw' => Yld.pure tab_ok rfl) ?_
                refine WJ.yw rfl (wants_some rfl rfl (okb b7)) rfl (fun w' hw' => Yld.add rfl rfl (h5 b7)) ?_
                refine WJ.yw rfl (wants_some rfl rfl (okb b7)) rfl (fun w' hw' => Yld.scut tab_ok rfl rfl rfl rfl (h6 b7).1 (h6 b7).2.1 (h6 b7).2.2) ?_
                refine WJ.yw rfl (wants_some rfl rfl (okb b7)) rfl (fun w' hw' => Yld.pure tab_ok rfl) ?_
                refine WJ.y rfl rfl (fun w' hw' => Yld.pickF (okb b7) rfl) ?_
                exact WJ.weaken (by repeat (first | exact Sub.nil | refine Sub.cons rfl ?_)) (hQ _ _ ⟨!decide ((p.getD 2 []) = ((([48, 49, 50, 51, 52, 53, 54, 55, 56] : List UInt8).drop (args.length : Int).toNat).take (((args.length : Int) + (1 : Int)).toNat - (args.length : Int).toNat))), rfl, by rw [b7] <;> rfl, rfl⟩)
          · clear H
            rcases Bool.eq_false_or_eq_true (!decide ((p.length : Int) = (((3 : Int) + (args.length : Int)) + (inputs.length : Int)))) with b8 | b8
            · refine WJ.no rfl rfl (okb b8) rfl ?_
              refine WJ.no rfl rfl (okb b8) rfl ?_
              refine WJ.no rfl rfl (okb b8) rfl ?_
              refine WJ.no rfl rfl (okb b8) rfl ?_
              refine WJ.y rfl rfl (fun w' hw' => Yld.pickT (okb b8) rfl) ?_
              exact WJ.weaken (by repeat (first | exact Sub.nil | refine Sub.cons rfl ?_)) (hQ _ _ ⟨true, rfl, by rw [b8] <;> rfl, rfl⟩)
            · refine WJ.yw rfl (wants_some rfl rfl (okb b8)) rfl (fun w' hw' => Yld.pure tab_ok rfl) ?_
              refine WJ.yw rfl (wants_some rfl rfl (okb b8)) rfl (fun w' hw' => Yld.iaddrW tab_ok k3.rd rfl rfl rfl rfl (h3 b8).1 (h3 b8).2) ?_
              refine WJ.yw rfl (wants_some rfl rfl (okb b8)) rfl (fun w' hw' => Yld.iload [] tab_ok (hw' rfl) rfl rfl (iltN (h3 b8) rfl)) ?_
              refine WJ.yw rfl (wants_some rfl rfl (okb b8)) rfl (fun w' hw' => Yld.pure tab_ok rfl) ?_
              refine WJ.y rfl rfl (fun w' hw' => Yld.pickF (okb b8) rfl) ?_
              exact WJ.weaken (by repeat (first | exact Sub.nil | refine Sub.cons rfl ?_)) (hQ _ _ ⟨!decide ((p.getD 0 []) = ([115, 109, 105, 116, 104, 121] : List UInt8)), rfl, by rw [b8] <;> rfl, rfl⟩)
      · clear H
        rcases Bool.eq_false_or_eq_true (q1) with b9 | b9
        · refine WL.gno rfl rfl (okb b9) rfl ?_
          refine WL.gno rfl rfl (okb b9) rfl ?_
          refine WL.y rfl (Yld.pickT (okb b9) rfl) ?_
          exact WL.weaken (by repeat (first | exact Sub.nil | refine Sub.cons rfl ?_)) (hQ _ _ ⟨true, rfl, by rw [b9] <;> rfl, rfl⟩)
        · refine WL.gyes rfl rfl (okb b9) rfl (Yld.pure tab_ok rfl) ?_
          refine WL.gyes rfl rfl (okb b9) rfl (Yld.pure tab_ok rfl) ?_
          refine WL.y rfl (Yld.pickF (okb b9) rfl) ?_
          exact WL.weaken (by repeat (first | exact Sub.nil | refine Sub.cons rfl ?_)) (hQ _ _ ⟨!ok, rfl, by rw [b9] <;> rfl, rfl⟩)
    · clear hJ1
      rcases Bool.eq_false_or_eq_true (!t16) with b10 | b10
      · replace H := H.1 b10
        refine WL.gno rfl rfl (okb b10) rfl ?_
        refine WL.gno rfl rfl (okb b10) rfl ?_
        refine WL.gno rfl rfl (okb b10) rfl ?_
        refine WL.y rfl (Yld.pickT (okb b10) rfl) ?_
        exact WL.weaken (by repeat (first | exact Sub.nil | refine Sub.cons rfl ?_)) (hQ _ _ ⟨true, rfl, H, rfl⟩)
      · replace H := H.2 b10
        refine WL.gyes rfl rfl (okb b10) rfl (Yld.pure tab_ok rfl) ?_
        refine WL.callw (wants_some rfl rfl (okb b10)) rfl rfl (W_smithyworld_Texts (hinputs.grown gr1) rfl H) ?_
        rintro _ _ ⟨rfl, t20, rfl, H⟩
        refine WL.gyes rfl rfl (okb b10) rfl (Yld.pure tab_ok rfl) ?_
        refine WL.y rfl (Yld.pickF (okb b10) rfl) ?_
        exact WL.weaken (by repeat (first | exact Sub.nil | refine Sub.cons rfl ?_)) (hQ _ _ ⟨!t20, rfl, H, rfl⟩)

end Go.Proofs.YtcfljnfaakjdjaaDoor
 /- The chapter's digest is the program's: plain. -/
namespace Go.Proofs.YtcfljnfaakjdjaaDoor
open Go Go.RowKit
theorem bits_or_comm (k : IntKind) (a b : Int) : bits .or k a b = bits .or k b a := by
  unfold bits
  dsimp only
  rw [BitVec.or_comm]
theorem wr32 (z : Int) : IntKind.wrap .u32 z = z % 4294967296 := by simp [IntKind.wrap, IntKind.bits, IntKind.signed]
theorem wr64 (z : Int) : IntKind.wrap .u64 z = z % 18446744073709551616 := by simp [IntKind.wrap, IntKind.bits, IntKind.signed]
theorem wr8 (z : Int) : IntKind.wrap .u8 z = z % 256 := by simp [IntKind.wrap, IntKind.bits, IntKind.signed]
theorem wr8_ok (z : Int) : 0 ≤ IntKind.wrap .u8 z ∧ IntKind.wrap .u8 z ≤ 255 := by rw [wr8]; omega
theorem turn_M {x n : Int} {K : Int → Prop} (h0 : 0 < n) (h1 : n < 32) (h : K (rotr x n)) : M_smithyref1_turn x n K := by
  have hw : IntKind.wrap .u64 (32 - n) = 32 - n := by rw [wr64]; omega
  have e : rotr x n = bits .or .u32 (shrV .u32 x n.toNat) (shlV .u32 x (32 - n).toNat) := by
    unfold rotr rotl
    rw [show (0 - n) % 32 = 32 - n by omega, show 32 - (32 - n) = n by omega, bits_or_comm]
  refine ⟨by omega, by rw [hw]; omega, ?_⟩
  rw [hw, ← e]
  exact h
theorem D_len : ∀ (n : Nat) (hs : List Int) (x : List UInt8), x.length ≤ n → (D hs x).2.length = x.length % 64
  | 0, hs, x, h => by
    rw [D_step, if_neg (by omega)]
    show x.length = _
    omega
  | n + 1, hs, x, h => by
    rw [D_step]
    split
    · rw [D_len n _ _ (by rw [List.length_drop]; omega), List.length_drop]; omega
    · show x.length = _
      omega
theorem shaS_whole (b : List UInt8) : shaS b = outAt (D h0s (endS b (b.length : Int))).1 32 := by
  unfold shaS sumS
  rw [absorb_fuel _ _ _ (Nat.le_refl _)]
  have e : wrS h0s [] b = D h0s b := by unfold wrS D; rw [List.nil_append]
  rw [e]
  have h1 : endS b (b.length : Int) = b ++ ([128] ++ List.replicate ((120 - (b.length + 1) % 64) % 64) 0 ++ lenBs (8 * (b.length : Int)) 8) := by
    unfold endS padS; simp
  have h2 : endS (D h0s b).2 (b.length : Int) = (D h0s b).2 ++ ([128] ++ List.replicate ((120 - (b.length + 1) % 64) % 64) 0 ++ lenBs (8 * (b.length : Int)) 8) := by
    have h3 := D_len _ h0s b (Nat.le_refl _)
    have h4 : (120 - ((D h0s b).2 ++ [(128 : UInt8)]).length % 64) % 64 = (120 - (b.length + 1) % 64) % 64 := by
      rw [List.length_append, h3, List.length_singleton]; omega
    unfold endS padS
    rw [h4]; simp
  rw [h1, h2, D_app _ b.length h0s b (Nat.le_refl _)]
theorem padS_ge (l : List UInt8) : l.length ≤ (padS l).length ∧ (padS l).length ≤ l.length + 63 ∧ (padS l).length % 64 = 56 := by
  unfold padS
  rw [List.length_append, List.length_replicate]
  omega
theorem padS_id {l : List UInt8} (h : l.length % 64 = 56) : padS l = l := by
  unfold padS
  rw [show (120 - l.length % 64) % 64 = 0 by omega]
  simp
theorem endS_len (s : List UInt8) : (endS s (s.length : Int)).length % 64 = 0 ∧ (endS s (s.length : Int)).length ≤ s.length + 72 := by
  have := padS_ge (s ++ [128])
  unfold endS
  rw [List.length_append, lenBs_len]
  rw [List.length_append, List.length_singleton] at this
  omega
theorem getbs (M : List UInt8) (a j : Nat) (hj : j < 64) : ((M.drop a).take 64).getD j 0 = M.getD (a + j) 0 := by
  simp [List.getD, List.getElem?_take, hj]
theorem table_M {K : List Int → Prop} (h : K ktab) : M_smithyref1_table K := h
theorem sum_M {s : List UInt8} {K : List UInt8 → Prop} (hs : s.length ≤ 1000000) (h : K (shaS s)) : M_smithyref1_Sum s K := by
  have hP := padS_ge (s ++ [128])
  have hPl : (s ++ [(128 : UInt8)]).length = s.length + 1 := by simp
  rw [hPl] at hP
  have hE := endS_len s
  refine table_M ⟨by simp only [In]; omega, by omega, by simp; omega, by simp; omega, ?_⟩
  refine ⟨fun m => padS m = padS (s ++ [128]), fun m => (padS (s ++ [128])).length - m.length, by rw [List.nil_append], fun m hm => ⟨by omega, fun h56 => ?_, fun h56 => ?_⟩⟩
  · have h1 : m.length % 64 ≠ 56 := by omega
    have h2 := padS_step m h1
    have h3 := (padS_ge (m ++ [0])).1
    rw [h2, hm, List.length_append, List.length_singleton] at h3
    refine ⟨by simp only [List.length_singleton]; omega, h2.trans hm, ?_⟩
    dsimp only
    rw [List.length_append, List.length_singleton]
    omega
  have hm : padS m = padS (s ++ [128]) := hm
  rw [padS_id (l := m) (by omega)] at hm
  subst hm
  have hn8 : IntKind.wrap .u64 ((IntKind.wrap .u64 (s.length : Int)) * (8 : Int)) = 8 * (s.length : Int) := by rw [wr64, wr64]; omega
  rw [hn8]
  refine ⟨fun m2 i => -1 ≤ i ∧ i ≤ 7 ∧ m2 = padS (s ++ [128]) ++ lenBs (8 * (s.length : Int)) (7 - i).toNat, fun _ i => (i + 1).toNat, ⟨by omega, by omega, by simp [lenBs]⟩, fun m2 i ⟨a0, a1, a2⟩ => ⟨fun hlt => ?_, fun hge => ?_⟩⟩
  · have e8 : IntKind.wrap .u64 ((8 : Int) * i) = 8 * i := by rw [wr64]; omega
    have hb : UInt8.ofNat (IntKind.wrap .u8 (shrV .u64 (8 * (s.length : Int)) (8 * i).toNat)).toNat = lenB (8 * (s.length : Int)) (7 - i).toNat := by
      unfold lenB u8v
      rw [show (8 * (7 - (((7 - i).toNat : Nat) : Int))).toNat = (8 * i).toNat by omega]
    have hl2 : m2.length ≤ s.length + 80 := by rw [a2, List.length_append, lenBs_len]; omega
    rw [e8, hb]
    refine ⟨by simp only [In]; omega, by omega, wr8_ok _, by simp only [List.length_singleton]; omega, by simp only [In]; omega, ⟨by omega, by omega, ?_⟩, by dsimp only; omega⟩
    rw [show (7 - (i - 1)).toNat = (7 - i).toNat + 1 by omega, lenBs, ← List.append_assoc, ← a2]
  have hm2 : m2 = endS s (s.length : Int) := by
    rw [a2, show (7 - i).toNat = 8 by omega]; rfl
  clear a2 hn8
  subst hm2
  generalize hMd : endS s (s.length : Int) = M at *
  rw [shaS_whole, hMd] at h
  refine ⟨fun at_ hh => 0 ≤ at_ ∧ at_ ≤ M.length ∧ at_ % 64 = 0 ∧ hh.length = 8 ∧ D h0s M = D hh (M.drop at_.toNat), fun at_ _ => M.length - at_.toNat, ⟨by omega, by omega, by omega, rfl, rfl⟩, fun at_ hh ⟨b0, b1, b2, b3, b4⟩ _ => ⟨fun hlt => ⟨by omega, ?_⟩, fun hge => ?_⟩⟩
  · have hfit : at_ + 64 ≤ M.length := by omega
    generalize hbs : (M.drop at_.toNat).take 64 = bs
    have hget : ∀ j : Nat, j < 64 → M.getD (at_.toNat + j) 0 = bs.getD j 0 := fun j hj => by rw [← hbs, getbs M _ j hj]
    refine ⟨fun i w_ => 0 ≤ i ∧ i ≤ 16 ∧ w_ = wsAt bs i.toNat, fun i _ => 16 - i.toNat, ⟨by omega, by omega, rfl⟩, fun i w_ ⟨c0, c1, c2⟩ _ => ⟨fun hi => ?_, fun hi => ?_⟩⟩
    · refine ⟨by simp only [In]; omega, by simp only [In]; omega, by omega, by simp only [In]; omega, by simp only [In]; omega, by simp only [In]; omega, by omega, by simp only [In]; omega, by simp only [In]; omega, by simp only [In]; omega, by omega, by simp only [In]; omega, by simp only [In]; omega, by simp only [In]; omega, by omega, by omega, by simp only [In]; omega, ⟨by omega, by omega, ?_⟩, by dsimp only; omega⟩
      rw [show (i + 1).toNat = i.toNat + 1 by omega, wsAt, ← c2]
      congr 1
      rw [wnext, if_pos (by omega)]
      rw [show (at_ + 4 * i).toNat = at_.toNat + (4 * i.toNat) by omega, show (at_ + 4 * i + 1).toNat = at_.toNat + (4 * i.toNat + 1) by omega, show (at_ + 4 * i + 2).toNat = at_.toNat + (4 * i.toNat + 2) by omega, show (at_ + 4 * i + 3).toNat = at_.toNat + (4 * i.toNat + 3) by omega]
      rw [hget _ (by omega), hget _ (by omega), hget _ (by omega), hget _ (by omega)]
    refine ⟨fun i w_ => 16 ≤ i ∧ i ≤ 64 ∧ w_ = wsAt bs i.toNat, fun i _ => 64 - i.toNat, ⟨by omega, by omega, by rw [c2, show i.toNat = 16 by omega]; rfl⟩, fun i3 w_2 ⟨d0, d1, d2⟩ _ => ⟨fun hi3 => ?_, fun hi3 => ?_⟩⟩
    · refine ⟨by simp only [In]; omega, by omega, turn_M (by decide) (by decide) ⟨by simp only [In]; omega, by omega, turn_M (by decide) (by decide) ⟨by simp only [In]; omega, by omega, by simp only [In]; omega, by omega, turn_M (by decide) (by decide) ⟨by simp only [In]; omega, by omega, turn_M (by decide) (by decide) ⟨by simp only [In]; omega, by omega, by simp only [In]; omega, by omega, by simp only [In]; omega, by omega, by omega, by simp only [In]; omega, ⟨by omega, by omega, ?_⟩, by dsimp only; omega⟩⟩⟩⟩⟩
      rw [show (i3 + 1).toNat = i3.toNat + 1 by omega, wsAt, ← d2]
      congr 1
      rw [wnext, if_neg (by omega)]
      rw [show (i3 - 15).toNat = i3.toNat - 15 by omega, show (i3 - 2).toNat = i3.toNat - 2 by omega, show (i3 - 16).toNat = i3.toNat - 16 by omega, show (i3 - 7).toNat = i3.toNat - 7 by omega]
      dsimp only
      generalize bits .xor .u32 _ _ = A
      generalize bits .xor .u32 _ _ = B
      generalize w_2.getD (i3.toNat - 16) 0 = x
      generalize w_2.getD (i3.toNat - 7) 0 = y
      simp only [wr32]
      omega
    obtain rfl : i3 = 64 := by omega
    have e64 : (64 : Int).toNat = 64 := rfl
    have e8 : (8 : Int).toNat = 8 := rfl
    rw [e64] at d2
    refine ⟨by omega, by simp [b3], ?_⟩
    refine ⟨fun v i => 0 ≤ i ∧ i ≤ 64 ∧ v = hAt w_2 hh i.toNat, fun _ i => 64 - i.toNat, ⟨by omega, by omega, by rw [List.nil_append]; rfl⟩, fun v i4 ⟨e0, e1, e2⟩ => ⟨fun hi4 => ?_, fun hi4 => ?_⟩⟩
    · have hv : v.length = 8 := by rw [e2]; exact hAt_len _ _ b3 _
      have hk : ktab.length = 64 := rfl
      refine ⟨by omega, turn_M (by decide) (by decide) ⟨by omega, turn_M (by decide) (by decide) ⟨by omega, turn_M (by decide) (by decide) ⟨by omega, by omega, by omega, by omega, by omega, by omega, by omega, by omega, turn_M (by decide) (by decide) ⟨by omega, turn_M (by decide) (by decide) ⟨by omega, turn_M (by decide) (by decide) ⟨by omega, by omega, by omega, by omega, by omega, by omega, by omega, by omega, by omega, by omega, by omega, by omega, by omega, by simp only [In]; omega, ⟨by omega, by omega, ?_⟩, by dsimp only; omega⟩⟩⟩⟩⟩⟩⟩
      have hmax : (if IntKind.signed .u32 = true then (-1 : Int) else IntKind.max .u32) = IntKind.u32.max := rfl
      rw [show (i4 + 1).toNat = i4.toNat + 1 by omega, hAt, ← e2, hnext, hmax]
      generalize IntKind.wrap .u32 (IntKind.wrap .u32 (IntKind.wrap .u32 (IntKind.wrap .u32 (v.getD 7 0 + _) + _) + _) + _) = one
      have e3 : ∀ A B : Int, IntKind.wrap .u32 (IntKind.wrap .u32 (one + A) + B) = IntKind.wrap .u32 (one + IntKind.wrap .u32 (A + B)) := fun A B => by
        simp only [wr32]
        omega
      rw [e3]
    obtain rfl : i4 = 64 := by omega
    have hv : v.length = 8 := by rw [e2]; exact hAt_len _ _ b3 _
    refine ⟨fun i h2 => 0 ≤ i ∧ i ≤ 8 ∧ h2 = sumAt hh v i.toNat, fun i _ => 8 - i.toNat, ⟨by omega, by omega, rfl⟩, fun i5 h2 ⟨f0, f1, f2⟩ _ => ⟨fun hi5 => ?_, fun hi5 => ?_⟩⟩
    · refine ⟨by omega, by omega, by omega, by simp only [In]; omega, ⟨by omega, by omega, ?_⟩, by dsimp only; omega⟩
      rw [show (i5 + 1).toNat = i5.toNat + 1 by omega, sumAt, ← f2]
    obtain rfl : i5 = 8 := by omega
    have hmix : h2 = mixS hh bs := by rw [f2, e2, e64, e8, d2, mixS]
    refine ⟨by simp only [In]; omega, ⟨by omega, by omega, by omega, by rw [hmix, mixS_len]; exact b3, ?_⟩, by dsimp only; omega⟩
    rw [b4, D_step, if_pos (by rw [List.length_drop]; omega), hbs, ← hmix, List.drop_drop]
    rw [show (at_ + 64).toNat = at_.toNat + 64 by omega]
  have hd : M.drop at_.toNat = [] := List.drop_eq_nil_of_le (by omega)
  rw [hd, D_step hh [], if_neg (by simp)] at b4
  have hh1 : (D h0s M).1 = hh := by rw [b4]
  rw [hh1] at h
  refine ⟨fun i o => 0 ≤ i ∧ i ≤ 8 ∧ o = outAt hh (4 * i).toNat, fun i _ => 8 - i.toNat, ⟨by omega, by omega, rfl⟩, fun i6 o ⟨g0, g1, g2⟩ => ⟨fun hi6 => ?_, fun hi6 => ?_⟩⟩
  · refine ⟨fun j o => 0 ≤ j ∧ j ≤ 4 ∧ o = outAt hh (4 * i6 + j).toNat, fun j _ => 4 - j.toNat, ⟨by omega, by omega, by rw [g2, Int.add_zero]⟩, fun j o2 ⟨p0, p1, p2⟩ => ⟨fun hj => ?_, fun hj => ?_⟩⟩
    · have e64 : IntKind.wrap .u64 (24 - 8 * j) = 24 - 8 * j := by rw [wr64]; omega
      rw [e64]
      refine ⟨by simp only [In]; omega, by simp only [In]; omega, by omega, by simp only [In]; omega, by simp only [In]; omega, by omega, by omega, wr8_ok _, by rw [p2]; exact outAt_len _ _, by simp only [In]; omega, ⟨by omega, by omega, ?_⟩, by dsimp only; omega⟩
      rw [show (4 * i6 + (j + 1)).toNat = (4 * i6 + j).toNat + 1 by omega, outAt, ← p2]
      congr 1
      unfold u8v
      rw [show (4 * i6 + j).toNat / 4 = i6.toNat by omega, show (24 - 8 * ((((4 * i6 + j).toNat : Nat) : Int) % 4)) = 24 - 8 * j by omega]
    · refine ⟨by simp only [In]; omega, ⟨by omega, by omega, ?_⟩, by dsimp only; omega⟩
      rw [p2, show 4 * (i6 + 1) = 4 * i6 + j by omega]
  · rw [g2, show (4 * i6).toNat = 32 by omega]
    exact h
end Go.Proofs.YtcfljnfaakjdjaaDoor
 /- Texts held against each other; texts within bounds. -/
namespace Go.Proofs.YtcfljnfaakjdjaaDoor
open Go Go.RowKit
theorem getD_mem {α : Type} {l : List α} {k : Nat} {d : α} (h : k < l.length) : l.getD k d ∈ l := by
  simp [List.getD, h]
theorem sameTexts_M {a b : List (List UInt8)} {K : Bool → Prop} (ha : a.length ≤ 1000000000) (h : K (decide (a = b))) : M_smithyref_SameTexts a b K := by
  intro _ _
  refine ⟨fun hne => ?_, fun he => ?_⟩
  · rw [decide_eq_false (fun e => hne (by rw [e]))] at h
    exact h
  · refine ⟨fun i => 0 ≤ i ∧ i ≤ a.length ∧ ∀ j, j < i.toNat → a.getD j [] = b.getD j [], fun i => a.length - i.toNat, ⟨by omega, by omega, by intro j hj; simp at hj⟩, fun i ⟨h0, h1, h2⟩ => ⟨fun hlt => ⟨by omega, by omega, fun hne => ?_, fun hee => ⟨by simp only [In]; omega, ⟨by omega, by omega, fun j hj => ?_⟩, by (try dsimp only); omega⟩⟩, fun hge => ?_⟩⟩
    · rw [decide_eq_false (fun e => hne (by rw [e]))] at h
      exact h
    · by_cases e : j = i.toNat
      · rw [e]; exact hee
      · exact h2 j (by omega)
    · have e : a = b := List.ext_getElem (by omega) fun j h3 h4 => by
        have := h2 j (by omega)
        simpa [List.getD, h3, h4] using this
      rw [decide_eq_true e] at h
      exact h
theorem vtexts_M {l : List (List UInt8)} {most long : Int} {K : Bool → Prop} (h0 : K false) (h1 : (l.length : Int) ≤ most → l.length ≤ 1000000 → (∀ x ∈ l, (x.length : Int) ≤ long) → K true) (hl : most ≤ 1000000) : M_smithyworld_Texts l most long K := by
  intro _
  refine ⟨fun _ => h0, fun hm => ⟨fun i => 0 ≤ i ∧ i ≤ l.length ∧ ∀ j, j < i.toNat → ((l.getD j []).length : Int) ≤ long, fun i => l.length - i.toNat, ⟨by omega, by omega, by intro j hj; simp at hj⟩, fun i ⟨a0, a1, a2⟩ => ⟨fun hlt => ⟨by omega, fun _ => h0, fun hle => ⟨by simp only [In]; omega, ⟨by omega, by omega, fun j hj => ?_⟩, by (try dsimp only); omega⟩⟩, fun hge => h1 (by omega) (by omega) fun x hx => ?_⟩⟩⟩
  · by_cases e : j = i.toNat
    · rw [e]; omega
    · exact a2 j (by omega)
  · obtain ⟨j, hj, rfl⟩ := List.getElem_of_mem hx
    have := a2 j (by omega)
    simpa [List.getD, hj] using this
end Go.Proofs.YtcfljnfaakjdjaaDoor
 /- Keys: the plain side. -/
namespace Go.Proofs.YtcfljnfaakjdjaaDoor
open Go Go.RowKit
theorem hex_M {s : List UInt8} {K : List UInt8 → Prop} (hl : s.length = 32) (h : K (hexS s)) : M_smithyref1_Hex s K := by
  refine ⟨by omega, fun out i => 0 ≤ i ∧ i ≤ 32 ∧ out = hexS (s.take i.toNat), fun _ i => 32 - i.toNat, ⟨by omega, by omega, rfl⟩, fun out i ⟨a0, a1, a2⟩ => ⟨fun hlt => ?_, fun hge => ?_⟩⟩
  · have hs := shr_4 (s.getD i.toNat 0)
    have ha := and_15 (s.getD i.toNat 0)
    have ho : out.length ≤ 64 := by rw [a2, hexS_len, List.length_take]; omega
    refine ⟨by omega, by simp only [List.length_cons, List.length_nil]; omega, by omega, by simp only [List.length_cons, List.length_nil]; omega, by simp only [List.length_cons, List.length_nil]; omega, by simp only [In]; omega, ⟨by omega, by omega, ?_⟩, by dsimp only; omega⟩
    rw [show (i + 1).toNat = i.toNat + 1 by omega, hexS_take s i.toNat (by omega), ← a2]
    rfl
  · rw [a2, show i.toNat = 32 by omega, List.take_of_length_le (by omega)]
    exact h
theorem text_M {s : List UInt8} {K : List UInt8 → Prop} (hl : s.length = 32) (h : K (hexS s)) : M_sha_Text s K := by
  intro t ht he
  have : t = s := List.ext_getElem (by omega) fun i h1 h2 => by
    have := he i (by omega)
    simpa [List.getD, h1, h2] using this
  rw [this]; exact h
theorem sameSum_M {a b : List UInt8} {K : Bool → Prop} (ha : a.length = 32) (hb : b.length = 32) (h : K (decide (hexS a = hexS b))) : M_smithyref17_SameSum a b K := hex_M ha (hex_M hb h)
def smithyT : List UInt8 := [115, 109, 105, 116, 104, 121]
def partsP (tool : Int) (args inputs : List (List UInt8)) : List (List UInt8) := [smithyT, Lib.itoa tool, Lib.itoa (args.length : Int)] ++ args ++ inputs.map hexS
theorem map_take_succ {α β : Type} (f : α → β) (l : List α) (d : α) (i : Nat) (h : i < l.length) : (l.take (i + 1)).map f = (l.take i).map f ++ [f (l.getD i d)] := by
  rw [List.take_succ_eq_append_getElem h, List.map_append]
  simp [List.getD, h]
theorem parts_loop {inputs pre : List (List UInt8)} {K : List (List UInt8) → Prop} {T : List UInt8 → (List UInt8 → Prop) → Prop} (hT : ∀ s (K : List UInt8 → Prop), s.length = 32 → K (hexS s) → T s K) (hp : pre.length ≤ 1000) (hi : inputs.length ≤ 1000) (hx : ∀ x ∈ inputs, x.length = 32) (h : K (pre ++ inputs.map hexS)) :
    Lp2 (fun (l : List (List UInt8)) (i : Int) k_1 => ((i < (inputs.length : Int) → (0 ≤ i ∧ i < (inputs.length : Nat)) ∧ T (inputs.getD i.toNat []) (fun (t27 : List UInt8) => ((l.length + (([t27] : List (List UInt8))).length) * 16 ≤ 140737488355328) ∧ (In .i64 (i + (1 : Int))) ∧ k_1 (l ++ ([t27] : List (List UInt8))) (i + (1 : Int)))) ∧ (¬ (i < (inputs.length : Int)) → K l))) pre (0 : Int) := by
  refine ⟨fun l i => 0 ≤ i ∧ i ≤ inputs.length ∧ l = pre ++ (inputs.take i.toNat).map hexS, fun _ i => inputs.length - i.toNat, ⟨by omega, by omega, by simp⟩, fun l i ⟨a0, a1, a2⟩ => ⟨fun hlt => ⟨by omega, ?_⟩, fun hge => ?_⟩⟩
  · have hl : l.length ≤ 2000 := by rw [a2, List.length_append, List.length_map, List.length_take]; omega
    refine hT _ _ (hx _ (getD_mem (by omega))) ⟨by simp only [List.length_singleton]; omega, by simp only [In]; omega, ⟨by omega, by omega, ?_⟩, by dsimp only; omega⟩
    rw [show (i + 1).toNat = i.toNat + 1 by omega, map_take_succ hexS inputs [] i.toNat (by omega), a2, List.append_assoc]
  · rw [a2, List.take_of_length_le (by omega)]
    exact h
theorem kparts_M {tool : Int} {args inputs : List (List UInt8)} {K : List (List UInt8) → Prop} (ht : In .i64 tool) (ha : args.length ≤ 100) (hi : inputs.length ≤ 100) (hx : ∀ x ∈ inputs, x.length = 32) (h : K (partsP tool args inputs)) : M_key_Parts tool args inputs K := by
  intro _ _
  refine ⟨ht, by simp only [In]; omega, by simp only [List.length_cons, List.length_nil]; omega, parts_loop (fun s K h1 h2 => text_M h1 h2) (by simp only [List.length_append, List.length_cons, List.length_nil]; omega) (by omega) hx h⟩
theorem rkparts_M {tool : Int} {args inputs : List (List UInt8)} {K : List (List UInt8) → Prop} (ht : In .i64 tool) (ha : args.length ≤ 100) (hi : inputs.length ≤ 100) (hx : ∀ x ∈ inputs, x.length = 32) (h : K (partsP tool args inputs)) : M_smithyref17_Parts tool args inputs K := by
  intro _ _
  refine ⟨ht, by simp only [In]; omega, by simp only [List.length_cons, List.length_nil]; omega, parts_loop (fun s K h1 h2 => hex_M h1 h2) (by simp only [List.length_append, List.length_cons, List.length_nil]; omega) (by omega) hx h⟩
theorem catM_le (l : List (List UInt8)) (h : ∀ x ∈ l, x.length ≤ 1000) : (catM l).length ≤ 1004 * l.length := by
  induction l with
  | nil => simp [catM]
  | cons x l ih =>
    have hx := h x (by simp)
    have := ih (fun y hy => h y (by simp [hy]))
    have e : catM (x :: l) = be4 x.length ++ x ++ catM l := rfl
    have hb : (be4 x.length).length = 4 := rfl
    rw [e, List.length_append, List.length_append, hb, List.length_cons]
    omega
theorem rmany_M {l : List (List UInt8)} {K : List UInt8 → Prop} (hl : l.length ≤ 500) (hx : ∀ x ∈ l, x.length ≤ 1000) (h : K (manyS l)) : M_smithyref1_Many l K := by
  intro _
  refine ⟨fun m i => 0 ≤ i ∧ i ≤ l.length ∧ m = catM (l.take i.toNat), fun _ i => l.length - i.toNat, ⟨by omega, by omega, rfl⟩, fun m i ⟨a0, a1, a2⟩ => ⟨fun hlt => ?_, fun hge => ?_⟩⟩
  · have h1 := hx _ (getD_mem (l := l) (k := i.toNat) (d := []) (by omega))
    have hm : m.length ≤ 1004 * 500 := by
      have := catM_le (l.take i.toNat) fun x hx' => hx x (List.mem_of_mem_take hx')
      rw [List.length_take] at this
      rw [a2]; omega
    refine ⟨by omega, wr8_ok _, wr8_ok _, wr8_ok _, wr8_ok _, by simp only [List.length_cons, List.length_nil]; omega, by omega, by simp only [List.length_append, List.length_cons, List.length_nil]; omega, by simp only [In]; omega, ⟨by omega, by omega, ?_⟩, by dsimp only; omega⟩
    rw [show (i + 1).toNat = i.toNat + 1 by omega, catM_take l i.toNat (by omega), ← a2, ← List.append_assoc]
    rfl
  · have hm := catM_le l hx
    rw [a2, List.take_of_length_le (by omega)]
    refine sum_M (by omega) ?_
    rw [← manyS_eq]
    exact h
theorem itoa_le {n : Int} (h : In .i64 n) : (Lib.itoa n).length ≤ 21 := by
  simp only [In] at h
  exact Lib.itoa_length_le n (by omega) (by omega)
theorem partsP_le {tool : Int} {args inputs : List (List UInt8)} (ht : In .i64 tool) (ha : args.length ≤ 100) (hax : ∀ x ∈ args, x.length ≤ 1000) (hx : ∀ x ∈ inputs, x.length = 32) : ∀ x ∈ partsP tool args inputs, x.length ≤ 1000 := by
  intro x h
  unfold partsP at h
  rcases List.mem_append.1 h with h | h
  · rcases List.mem_append.1 h with h | h
    · have h1 := itoa_le ht
      have h2 := itoa_le (n := (args.length : Int)) (by simp only [In]; omega)
      simp only [List.mem_cons, List.not_mem_nil, or_false] at h
      rcases h with rfl | rfl | rfl
      · decide
      · omega
      · omega
    · exact hax x h
  · obtain ⟨y, hy, rfl⟩ := List.mem_map.1 h
    rw [hexS_len, hx y hy]; omega
theorem partsP_len (tool : Int) (args inputs : List (List UInt8)) : (partsP tool args inputs).length = 3 + args.length + inputs.length := by simp [partsP]; omega
theorem kof_M {tool : Int} {args inputs : List (List UInt8)} {K : List UInt8 → Prop} (ht : In .i64 tool) (ha : args.length ≤ 40) (hi : inputs.length ≤ 40) (hax : ∀ x ∈ args, x.length ≤ 1000) (hx : ∀ x ∈ inputs, x.length = 32) (h : K (manyS (partsP tool args inputs))) : M_key_Of tool args inputs K := by
  intro _ _
  refine kparts_M ht (by omega) (by omega) hx ⟨by rw [partsP_len]; omega, fun x hx' => ?_, h⟩
  have := partsP_le ht (by omega) hax hx x hx'
  omega
theorem rkey_M {tool : Int} {args inputs : List (List UInt8)} {K : List UInt8 → Prop} (ht : In .i64 tool) (ha : args.length ≤ 40) (hi : inputs.length ≤ 40) (hax : ∀ x ∈ args, x.length ≤ 1000) (hx : ∀ x ∈ inputs, x.length = 32) (h : K (manyS (partsP tool args inputs))) : M_smithyref17_Key tool args inputs K := by
  intro _ _
  exact rkparts_M ht (by omega) (by omega) hx (rmany_M (by rw [partsP_len]; omega) (partsP_le ht (by omega) hax hx) h)
theorem itoa_digit (n : Nat) (h : n < 10) : Lib.itoa (n : Int) = [UInt8.ofNat (48 + n)] := by
  rw [Lib.itoa_nonneg, Lib.decDigits, dif_pos h]
theorem kfirst_M {K : Bool → Prop} (h : K true) : M_smithylaw24_first K := by
  have e : partsP 1 [] [] = [([115, 109, 105, 116, 104, 121] : List UInt8), ([49] : List UInt8), ([48] : List UInt8)] := by
    unfold partsP
    rw [show Lib.itoa 1 = [49] from itoa_digit 1 (by omega), show Lib.itoa ((([] : List (List UInt8)).length : Nat) : Int) = [48] from itoa_digit 0 (by omega)]
    rfl
  refine kof_M (by simp only [In]; omega) (by simp) (by simp) (by simp) (by simp) ⟨by simp, by simp, sameSum_M (manyS_len _) (manyS_len _) ?_⟩
  rw [e, decide_eq_true rfl]
  exact h
theorem sums_M {l : List (List UInt8)} {K : List (List UInt8) → List (List UInt8) → Prop} (hl : l.length ≤ 100) (hx : ∀ x ∈ l, x.length ≤ 1000) (h : K (l.map shaS) (l.map shaS)) : M_smithylaw24_sums l K := by
  intro _
  refine ⟨fun a b i => 0 ≤ i ∧ i ≤ l.length ∧ a = (l.take i.toNat).map shaS ∧ b = (l.take i.toNat).map shaS, fun _ _ i => l.length - i.toNat, ⟨by omega, by omega, rfl, rfl⟩, fun a b i ⟨a0, a1, a2, a3⟩ => ⟨fun hlt => ?_, fun hge => ?_⟩⟩
  · have h1 := hx _ (getD_mem (l := l) (k := i.toNat) (d := []) (by omega))
    have ha : a.length ≤ 100 := by rw [a2, List.length_map, List.length_take]; omega
    have hb : b.length ≤ 100 := by rw [a3, List.length_map, List.length_take]; omega
    have e := map_take_succ shaS l [] i.toNat (by omega)
    refine ⟨by omega, by simp only [maxLen]; omega, by omega, by simp only [List.length_singleton]; omega, by omega, sum_M (by omega) ⟨by simp only [List.length_singleton]; omega, by simp only [In]; omega, ⟨by omega, by omega, ?_, ?_⟩, by dsimp only; omega⟩⟩
    · rw [show (i + 1).toNat = i.toNat + 1 by omega, e, ← a2]
    · rw [show (i + 1).toNat = i.toNat + 1 by omega, e, ← a3]
  · rw [a2, a3, List.take_of_length_le (by omega)]
    exact h
theorem map_sha (l : List (List UInt8)) : ∀ x ∈ l.map shaS, x.length = 32 := fun x h => by
  obtain ⟨y, _, rfl⟩ := List.mem_map.1 h
  exact shaS_len y
theorem vtexts_B {l : List (List UInt8)} {most long : Int} {K : Bool → Prop} (hl : most ≤ 1000000) (h : ∀ t : Bool, (t = true → (l.length : Int) ≤ most ∧ ∀ x ∈ l, (x.length : Int) ≤ long) → K t) : M_smithyworld_Texts l most long K := vtexts_M (h false (fun h => by cases h)) (fun a _ b => h true fun _ => ⟨a, b⟩) hl
theorem says_key {tool : Int} {args inputs : List (List UInt8)} {K : Bool → Prop} (ht : In .i64 tool) (_ : ∀ x ∈ args, x.length ≤ maxLen) (_ : ∀ x ∈ inputs, x.length ≤ maxLen) (H : K true) : M_smithylaw24_KeySays tool args inputs K := by
  intro _ _
  refine kfirst_M ⟨fun h => by simp at h, fun _ => ?_⟩
  refine vtexts_B (by decide) fun t1 h1 => ⟨fun b => b = false → ((args.length : Int) ≤ 8 ∧ ∀ x ∈ args, (x.length : Int) ≤ 100) ∧ ((inputs.length : Int) ≤ 8 ∧ ∀ x ∈ inputs, (x.length : Int) ≤ 200), ⟨fun _ h => (by cases h), fun e => vtexts_B (by decide) fun t2 h2 e2 => ⟨h1 (by simpa using e), h2 (by simpa using e2)⟩⟩, fun q hq => ⟨fun _ => H, fun h => ?_⟩⟩
  obtain ⟨⟨a1, a2⟩, b1, b2⟩ := hq (by simpa using h)
  have hS := map_sha inputs
  have hSl : (inputs.map shaS).length = inputs.length := List.length_map _
  have ha : ∀ x ∈ args, x.length ≤ 1000 := fun x hx => by have := a2 x hx; omega
  refine sums_M (by omega) (fun x hx => by have := b2 x hx; omega) ?_
  refine ⟨fun i => 0 ≤ i, fun i => inputs.length - i.toNat, Int.le_refl 0, fun i (a0 : 0 ≤ i) => ⟨fun hlt => ?_, fun hge => ?_⟩⟩
  · rw [hSl] at hlt
    have hm := hS _ (getD_mem (l := inputs.map shaS) (k := i.toNat) (d := []) (by omega))
    exact ⟨by omega, by omega, sameSum_M hm hm ⟨fun h => by simp at h, fun _ => ⟨by simp only [In]; omega, by omega, by dsimp only; omega⟩⟩⟩
  · refine kparts_M ht (by omega) (by omega) hS (rkparts_M ht (by omega) (by omega) hS (sameTexts_M (by rw [partsP_len]; omega) ?_))
    rw [decide_eq_true rfl]
    exact ⟨fun b => b = true, ⟨fun _ => kof_M ht (by omega) (by omega) ha hS (rkey_M ht (by omega) (by omega) ha hS (sameSum_M (manyS_len _) (manyS_len _) (by simp))), fun h => by cases h⟩, fun q hq => by rw [hq]; exact H⟩
/-! numerals are unlike -/
def dvl (l : List UInt8) : Nat := l.foldl (fun a c => 10 * a + (c.toNat - 48)) 0
theorem dvl_dec : ∀ u : Nat, dvl (Lib.decDigits u) = u := by
  intro u
  induction u using Nat.strongRecOn with
  | _ u ih =>
    rw [Lib.decDigits]
    split
    · rename_i h
      simp only [dvl, List.foldl_cons, List.foldl_nil, UInt8.toNat_ofNat']
      omega
    · rename_i h
      have := ih (u / 10) (by omega)
      unfold dvl at this ⊢
      rw [List.foldl_append, this]
      simp only [List.foldl_cons, List.foldl_nil, UInt8.toNat_ofNat']
      omega
theorem dec_ge : ∀ u : Nat, ∀ c ∈ Lib.decDigits u, 48 ≤ c.toNat := by
  intro u
  induction u using Nat.strongRecOn with
  | _ u ih =>
    intro c hc
    rw [Lib.decDigits] at hc
    split at hc
    · rename_i h
      simp only [List.mem_singleton] at hc
      subst hc
      rw [UInt8.toNat_ofNat']; omega
    · rename_i h
      rcases List.mem_append.1 hc with hc | hc
      · exact ih (u / 10) (by omega) c hc
      · simp only [List.mem_singleton] at hc
        subst hc
        rw [UInt8.toNat_ofNat']; omega
theorem itoa_inj {m n : Int} (h : Lib.itoa m = Lib.itoa n) : m = n := by
  unfold Lib.itoa at h
  have no : ∀ u v : Nat, 45 :: Lib.decDigits u ≠ Lib.decDigits v := fun u v e => by
    have := dec_ge v 45 (by rw [← e]; simp)
    revert this; decide
  have inj : ∀ u v : Nat, Lib.decDigits u = Lib.decDigits v → u = v := fun u v e => by rw [← dvl_dec u, e, dvl_dec]
  split at h <;> split at h
  · have := inj _ _ (List.cons.inj h).2
    omega
  · exact absurd h (no _ _)
  · exact absurd h.symm (no _ _)
  · have := inj _ _ h
    omega
theorem partsP_inj {t u : Int} {a b x y : List (List UInt8)} : partsP t a x = partsP u b y ↔ t = u ∧ a = b ∧ x.map hexS = y.map hexS := by
  constructor
  · intro h
    unfold partsP at h
    simp only [List.cons_append, List.nil_append, List.cons.injEq, true_and] at h
    obtain ⟨h1, h2, h3⟩ := h
    have e := itoa_inj h2
    have := List.append_inj h3 (by omega)
    exact ⟨itoa_inj h1, this.1, this.2⟩
  · rintro ⟨rfl, rfl, h⟩
    unfold partsP
    rw [h]
theorem unlike_key {t u : Int} {a b c d : List (List UInt8)} {K : Bool → Prop} (ht : In .i64 t) (hu : In .i64 u) (_ : ∀ x ∈ a, x.length ≤ maxLen) (_ : ∀ x ∈ b, x.length ≤ maxLen) (_ : ∀ x ∈ c, x.length ≤ maxLen) (_ : ∀ x ∈ d, x.length ≤ maxLen) (H : K true) : M_smithylaw24_KeyUnlike t u a b c d K := by
  intro _ _ _ _
  refine kfirst_M ⟨fun h => by simp at h, fun _ => ?_⟩
  have B : List (List UInt8) → Prop := fun l => (l.length : Int) ≤ 6 ∧ ∀ x ∈ l, (x.length : Int) ≤ 80
  refine vtexts_B (by decide) fun t1 h1 => ⟨fun q => q = false → ((a.length : Int) ≤ 6 ∧ ∀ x ∈ a, (x.length : Int) ≤ 80) ∧ ((b.length : Int) ≤ 6 ∧ ∀ x ∈ b, (x.length : Int) ≤ 80), ⟨fun _ h => (by cases h), fun e => vtexts_B (by decide) fun t2 h2 e2 => ⟨h1 (by simpa using e), h2 (by simpa using e2)⟩⟩, fun q1 hq1 => ?_⟩
  refine ⟨fun q => q = false → (((a.length : Int) ≤ 6 ∧ ∀ x ∈ a, (x.length : Int) ≤ 80) ∧ ((b.length : Int) ≤ 6 ∧ ∀ x ∈ b, (x.length : Int) ≤ 80)) ∧ ((c.length : Int) ≤ 6 ∧ ∀ x ∈ c, (x.length : Int) ≤ 80), ⟨fun _ h => (by cases h), fun e => vtexts_B (by decide) fun t2 h2 e2 => ⟨hq1 e, h2 (by simpa using e2)⟩⟩, fun q2 hq2 => ?_⟩
  refine ⟨fun q => q = false → ((((a.length : Int) ≤ 6 ∧ ∀ x ∈ a, (x.length : Int) ≤ 80) ∧ ((b.length : Int) ≤ 6 ∧ ∀ x ∈ b, (x.length : Int) ≤ 80)) ∧ ((c.length : Int) ≤ 6 ∧ ∀ x ∈ c, (x.length : Int) ≤ 80)) ∧ ((d.length : Int) ≤ 6 ∧ ∀ x ∈ d, (x.length : Int) ≤ 80), ⟨fun _ h => (by cases h), fun e => vtexts_B (by decide) fun t2 h2 e2 => ⟨hq2 e, h2 (by simpa using e2)⟩⟩, fun q3 hq3 => ⟨fun _ => H, fun h => ?_⟩⟩
  obtain ⟨⟨⟨⟨a1, a2⟩, b1, b2⟩, c1, c2⟩, d1, d2⟩ := hq3 (by simpa using h)
  have hS := map_sha c
  have hSl : (c.map shaS).length = c.length := List.length_map _
  have hT := map_sha d
  have hTl : (d.map shaS).length = d.length := List.length_map _
  have ha : ∀ x ∈ a, x.length ≤ 1000 := fun x hx => by have := a2 x hx; omega
  have hb : ∀ x ∈ b, x.length ≤ 1000 := fun x hx => by have := b2 x hx; omega
  refine sums_M (by omega) (fun x hx => by have := c2 x hx; omega) (sums_M (by omega) (fun x hx => by have := d2 x hx; omega) ?_)
  generalize c.map shaS = x at *
  generalize d.map shaS = y at *
  refine parts_loop (fun s K h1 h2 => text_M h1 h2) (by simp) (by omega) hS ?_
  refine parts_loop (fun s K h1 h2 => text_M h1 h2) (by simp) (by omega) hT ?_
  rw [List.nil_append, List.nil_append]
  refine ⟨fun q => q = (decide (t = u) && decide (a = b)), ⟨fun e => sameTexts_M (by omega) (by rw [e, Bool.true_and]), fun e => by rw [e]; rfl⟩, fun q5 hq5 => ?_⟩
  refine ⟨fun q => q = ((decide (t = u) && decide (a = b)) && decide (x.map hexS = y.map hexS)), ⟨fun e => sameTexts_M (by rw [List.length_map]; omega) (by rw [← hq5, e, Bool.true_and]), fun e => by rw [← hq5, e]; rfl⟩, fun q6 hq6 => ?_⟩
  refine kparts_M ht (by omega) (by omega) hS (kparts_M hu (by omega) (by omega) hT (sameTexts_M (by rw [partsP_len]; omega) ?_))
  have hq : decide (partsP t a x = partsP u b y) = q6 := by
    rw [hq6, Bool.eq_iff_iff]
    simp only [decide_eq_true_eq, Bool.and_eq_true]
    rw [partsP_inj, and_assoc]
  rw [hq]
  refine ⟨fun q => q = true, ⟨fun _ => ⟨fun _ => rfl, fun e => ?_⟩, fun e => by simp at e⟩, fun q hq => by rw [hq]; exact H⟩
  have e2 : partsP t a x = partsP u b y := of_decide_eq_true (hq.trans (by simpa using e))
  refine kof_M ht (by omega) (by omega) ha hS (kof_M hu (by omega) (by omega) hb hT (sameSum_M (manyS_len _) (manyS_len _) ?_))
  rw [e2]
  exact decide_eq_true rfl
theorem parts_key {tool : Int} {args inputs : List (List UInt8)} {K : Bool → Prop} (ht : In .i64 tool) (_ : ∀ x ∈ args, x.length ≤ maxLen) (_ : ∀ x ∈ inputs, x.length ≤ maxLen) (H : K true) : M_smithylaw24_KeyParts tool args inputs K := by
  intro _ _
  refine kfirst_M ⟨fun h => by simp at h, fun _ => ?_⟩
  refine vtexts_B (by decide) fun t1 h1 => ⟨fun b => b = false → ((args.length : Int) ≤ 8 ∧ ∀ x ∈ args, (x.length : Int) ≤ 100) ∧ ((inputs.length : Int) ≤ 8 ∧ ∀ x ∈ inputs, (x.length : Int) ≤ 100), ⟨fun _ h => (by cases h), fun e => vtexts_B (by decide) fun t2 h2 e2 => ⟨h1 (by simpa using e), h2 (by simpa using e2)⟩⟩, fun q hq => ⟨fun _ => H, fun h => ?_⟩⟩
  obtain ⟨⟨a1, a2⟩, b1, b2⟩ := hq (by simpa using h)
  have hS := map_sha inputs
  have hSl : (inputs.map shaS).length = inputs.length := List.length_map _
  refine sums_M (by omega) (fun x hx => by have := b2 x hx; omega) (kparts_M ht (by omega) (by omega) hS ?_)
  generalize inputs.map shaS = xs at *
  have hPl := partsP_len tool args xs
  have p0 : (partsP tool args xs).getD 0 [] = ([115, 109, 105, 116, 104, 121] : List UInt8) := rfl
  have p2 : (partsP tool args xs).getD 2 [] = (([48, 49, 50, 51, 52, 53, 54, 55, 56] : List UInt8).drop (args.length : Int).toNat).take (((args.length : Int) + (1 : Int)).toNat - (args.length : Int).toNat) := by
    have e : (partsP tool args xs).getD 2 [] = Lib.itoa (args.length : Int) := rfl
    have : ∀ n : Nat, n < 9 → [UInt8.ofNat (48 + n)] = (([48, 49, 50, 51, 52, 53, 54, 55, 56] : List UInt8).drop n).take 1 := by decide
    rw [e, itoa_digit _ (by omega), show ((args.length : Int) + 1).toNat - (args.length : Int).toNat = 1 by omega, Int.toNat_natCast]
    exact this _ (by omega)
  have p3 : ((partsP tool args xs).drop 3).take (((3 : Int) + (args.length : Int)).toNat - 3) = args := by
    rw [show ((3 : Int) + (args.length : Int)).toNat - 3 = args.length by omega]
    simp [partsP]
  have p4 : ∀ i : Nat, 3 + args.length ≤ i → i < (partsP tool args xs).length → ((partsP tool args xs).getD i []).length = 64 := fun i h1 h2 => by
    have hl : ([smithyT, Lib.itoa tool, Lib.itoa (args.length : Int)] ++ args).length = 3 + args.length := by simp; omega
    have hm : (partsP tool args xs).getD i [] = hexS (xs.getD (i - (3 + args.length)) []) := by
      unfold partsP
      simp only [List.getD]
      rw [List.getElem?_append_right (by omega), hl, List.getElem?_map]
      rw [hPl] at h2
      rw [List.getElem?_eq_getElem (by omega)]
      simp
    rw [hm, hexS_len, hS _ (getD_mem (by omega))]
  generalize partsP tool args xs = P at *
  have hPi : (P.length : Int) = 3 + (args.length : Int) + (inputs.length : Int) := by omega
  refine ⟨by simp only [In]; omega, by simp only [In]; omega, fun _ => by omega, fun _ => by omega, fun _ => by simp only [In]; omega, fun _ => by simp only [List.length_cons, List.length_nil]; omega, ?_⟩
  rw [decide_eq_true hPi, decide_eq_true p0, decide_eq_true p2]
  refine ⟨fun b => b = false, ⟨fun h => by simp at h, fun _ => ⟨by simp only [In]; omega, by omega, sameTexts_M (by rw [p3]; omega) (by rw [p3]; simp)⟩⟩, fun q hq => ⟨fun h => (by rw [hq] at h; cases h), fun _ => ⟨by simp only [In]; omega, ?_⟩⟩⟩
  refine ⟨fun i => 3 + (args.length : Int) ≤ i, fun i => P.length - i.toNat, Int.le_refl _, fun i (a0 : 3 + (args.length : Int) ≤ i) => ⟨fun hlt => ⟨by omega, fun hne => absurd (by rw [p4 i.toNat (by omega) (by omega)]; rfl) hne, fun _ => ⟨by simp only [In]; omega, by omega, by dsimp only; omega⟩⟩, fun _ => ⟨by omega, ?_⟩⟩⟩
  refine kparts_M ht (by omega) (by omega) hS ⟨by rw [partsP_len]; omega, ?_⟩
  have e : (partsP tool args xs).getD 0 [] = ([115, 109, 105, 116, 104, 121] : List UInt8) := rfl
  rw [decide_eq_true e]
  exact H
end Go.Proofs.YtcfljnfaakjdjaaDoor
 