/- The engine's rules for single operations. -/
import Derived.Test.YtfibkajdahaggaaDoorEng
import Derived.Deep.AppendSrc
import Derived.Laws.MakeOwn
import Derived.Laws.OwnMore
import Derived.Lib.Strings
import Derived.Deep.MidRow
namespace Go.Proofs.YtfibkajdahaggaaDoor
open Go Go.RowKit

/-! ## What the program's types are: a table, checked once by the kernel -/
structure Tab where
  int : List (Nat × IntKind)
  str : List (Nat × Unit)
  one : List (Nat × Unit)
  sl : List (Nat × (Nat × Nat))
  arr : List (Nat × (Nat × Nat × Nat))
  agg : List (Nat × Nat)
  off : List (Nat × List Nat)
  ow : List (Nat × (Nat × Nat))
def nk {B : Type} : List (Nat × B) → Nat → Option B
  | [], _ => none
  | (t, v) :: L, s => bif Nat.beq t s then some v else nk L s
theorem nk_all {B : Type} {p : Nat × B → Bool} : ∀ {l : List (Nat × B)}, l.all p = true → ∀ {t : Nat} {b : B}, nk l t = some b → p (t, b) = true
  | [], _, _, _, h => by simp [nk] at h
  | (s, v) :: l, ha, t, b, h => by
    simp only [List.all_cons, Bool.and_eq_true] at ha
    simp only [nk] at h
    cases hb : Nat.beq s t with
    | true =>
      have := Nat.eq_of_beq_eq_true hb
      subst this
      simp only [hb, cond_true, Option.some.injEq] at h
      rw [← h]; exact ha.1
    | false => simp only [hb, cond_false] at h; exact nk_all ha.2 h
def isRow : TypeDesc → Bool
  | .struct _ | .array _ _ => true
  | _ => false
def ckInt (P : Program) (x : Nat × IntKind) : Bool := match P.underlying x.1 with | some (.int k) => decide (k = x.2) | _ => false
def ckStr (P : Program) (x : Nat × Unit) : Bool := match P.underlying x.1 with | some .string => true | _ => false
def ckOne (P : Program) (x : Nat × Unit) : Bool := match P.underlying x.1 with | some d => !isRow d | _ => false
def ckSl (P : Program) (x : Nat × (Nat × Nat)) : Bool := match P.underlying x.1 with | some (.slice e) => Nat.beq e x.2.1 && (match P.info? e with | some i => Nat.beq i.size x.2.2 | _ => false) | _ => false
def ckArr (P : Program) (x : Nat × (Nat × Nat × Nat)) : Bool := match P.underlying x.1 with | some (.array n e) => Nat.beq n x.2.1 && Nat.beq e x.2.2.1 && (match P.info? e with | some i => Nat.beq i.size x.2.2.2 | _ => false) | _ => false
def ckAgg (P : Program) (x : Nat × Nat) : Bool := (match P.underlying x.1 with | some d => isRow d | _ => false) && (match P.info? x.1 with | some i => Nat.beq i.size x.2 | _ => false)
def ckOffs (P : Program) : List Field → List Nat → Bool
  | [], [] => true
  | f :: fs, o :: os => Nat.beq f.offset o && (match P.info? f.type with | some i => !Nat.beq i.size 0 | _ => false) && ckOffs P fs os
  | _, _ => false
def ckOff (P : Program) (x : Nat × List Nat) : Bool := match P.underlying x.1 with | some (.struct fs) => ckOffs P fs.toList x.2 | _ => false
def ckOw (P : Program) (x : Nat × (Nat × Nat)) : Bool := match P.underlying x.1 with
  | some (.slice e) => Nat.beq e x.2.1 && (match P.info? e with
    | some i => Nat.beq i.size 1 && Nat.beq i.bytes x.2.2 && (match i.zero with | some z => Nat.beq z.cells.size 1 | none => false)
    | _ => false)
  | _ => false
def Tab.check (P : Program) (T : Tab) : Bool :=
  T.int.all (ckInt P) && (T.str.all (ckStr P) && (T.one.all (ckOne P) && (T.sl.all (ckSl P) && (T.arr.all (ckArr P) && (T.agg.all (ckAgg P) && (T.off.all (ckOff P) && T.ow.all (ckOw P)))))))

structure Tab.Ok (P : Program) (T : Tab) : Prop where
  int : ∀ {t k}, nk T.int t = some k → P.underlying t = some (.int k)
  str : ∀ {t u}, nk T.str t = some u → P.underlying t = some .string
  one : ∀ {t u}, nk T.one t = some u → ∃ d, P.underlying t = some d ∧ isRow d = false
  sl : ∀ {t e s}, nk T.sl t = some (e, s) → P.underlying t = some (.slice e) ∧ ∃ i, P.info? e = some i ∧ i.size = s
  arr : ∀ {t n e s}, nk T.arr t = some (n, e, s) → P.underlying t = some (.array n e) ∧ ∃ i, P.info? e = some i ∧ i.size = s
  agg : ∀ {t n}, nk T.agg t = some n → (∃ d, P.underlying t = some d ∧ isRow d = true) ∧ ∃ i, P.info? t = some i ∧ i.size = n
  off : ∀ {t os}, nk T.off t = some os → ∃ fs : Array Field, P.underlying t = some (.struct fs) ∧ ∀ (f o : Nat), os[f]? = some o → ∃ fd : Field, fs[f]? = some fd ∧ fd.offset = o ∧ ∃ i, P.info? fd.type = some i ∧ i.size ≠ 0
  ow : ∀ {t e b}, nk T.ow t = some (e, b) → P.underlying t = some (.slice e) ∧ ∃ i z, P.info? e = some i ∧ i.zero = some z ∧ i.size = 1 ∧ i.bytes = b ∧ z.cells.size = 1

theorem ckOffs_spec {P : Program} : ∀ {fs : List Field} {os : List Nat}, ckOffs P fs os = true → ∀ (f o : Nat), os[f]? = some o → ∃ fd : Field, fs[f]? = some fd ∧ fd.offset = o ∧ ∃ i, P.info? fd.type = some i ∧ i.size ≠ 0
  | [], [], _, f, o, h => by simp at h
  | [], _ :: _, h, _, _, _ => by simp [ckOffs] at h
  | _ :: _, [], h, _, _, _ => by simp [ckOffs] at h
  | fd :: fs, o' :: os, h, f, o, ho => by
    simp only [ckOffs, Bool.and_eq_true] at h
    obtain ⟨⟨h1, h2⟩, h3⟩ := h
    cases f with
    | zero =>
      simp only [List.getElem?_cons_zero, Option.some.injEq] at ho
      refine ⟨fd, rfl, (Nat.eq_of_beq_eq_true h1).trans ho, ?_⟩
      cases hq : P.info? fd.type with
      | none => rw [hq] at h2; simp at h2
      | some i =>
        rw [hq] at h2
        simp only [Bool.not_eq_true'] at h2
        exact ⟨i, rfl, Nat.ne_of_beq_eq_false h2⟩
    | succ f => exact ckOffs_spec h3 f o (by simpa using ho)

theorem Tab.ok_of_check {P : Program} {T : Tab} (h : T.check P = true) : T.Ok P := by
  simp only [Tab.check, Bool.and_eq_true] at h
  obtain ⟨h1, h2, h3, h4, h5, h6, h7, h8⟩ := h
  refine ⟨fun {t k} e => ?_, fun {t u} e => ?_, fun {t u} e => ?_, fun {t a s} e => ?_, fun {t n a s} e => ?_, fun {t n} e => ?_, fun {t os} e => ?_, fun {t a b} e => ?_⟩
  · have := nk_all h1 e
    unfold ckInt at this
    split at this
    · rename_i hq; rw [hq, of_decide_eq_true this]
    · cases this
  · have := nk_all h2 e
    unfold ckStr at this
    split at this
    · rename_i hq; exact hq
    · cases this
  · have := nk_all h3 e
    unfold ckOne at this
    split at this
    · rename_i d hq; exact ⟨d, hq, by simpa using this⟩
    · cases this
  · have := nk_all h4 e
    unfold ckSl at this
    split at this
    · rename_i e' hq
      simp only [Bool.and_eq_true] at this
      have he := Nat.eq_of_beq_eq_true this.1
      subst he
      have h2 := this.2
      split at h2
      · rename_i i hi; exact ⟨hq, i, hi, Nat.eq_of_beq_eq_true h2⟩
      · cases h2
    · cases this
  · have := nk_all h5 e
    unfold ckArr at this
    split at this
    · rename_i n' e' hq
      simp only [Bool.and_eq_true] at this
      have he := Nat.eq_of_beq_eq_true this.1.1
      have he2 := Nat.eq_of_beq_eq_true this.1.2
      subst he
      subst he2
      have h2 := this.2
      split at h2
      · rename_i i hi; exact ⟨hq, i, hi, Nat.eq_of_beq_eq_true h2⟩
      · cases h2
    · cases this
  · have := nk_all h6 e
    unfold ckAgg at this
    simp only [Bool.and_eq_true] at this
    obtain ⟨ha, hb⟩ := this
    constructor
    · split at ha
      · rename_i d hq; exact ⟨d, hq, ha⟩
      · cases ha
    · split at hb
      · rename_i i hq; exact ⟨i, hq, Nat.eq_of_beq_eq_true hb⟩
      · cases hb
  · have := nk_all h7 e
    unfold ckOff at this
    split at this
    · rename_i fs hq
      exact ⟨fs, hq, fun f o ho => by simpa using ckOffs_spec this f o ho⟩
    · cases this
  · have := nk_all h8 e
    unfold ckOw at this
    split at this
    · rename_i e' hq
      simp only [Bool.and_eq_true] at this
      have he := Nat.eq_of_beq_eq_true this.1
      subst he
      have h2 := this.2
      split at h2
      · rename_i i hi
        simp only [Bool.and_eq_true] at h2
        have h3 := h2.2
        split at h3
        · rename_i z hz; exact ⟨hq, i, z, hi, hz, Nat.eq_of_beq_eq_true h2.1.1, Nat.eq_of_beq_eq_true h2.1.2, Nat.eq_of_beq_eq_true h3⟩
        · cases h3
      · cases h2
    · cases this

/-! ## Pure operations -/
def shlV (k : IntKind) (a : Int) (n : Nat) : Int := k.wrap (a * 2 ^ (min n k.bits))
def shrV (k : IntKind) (a : Int) (n : Nat) : Int := a.fdiv (2 ^ (min n k.bits))

def pvInt (op : BinOp) (k : IntKind) (a b : Int) : Option Value :=
  match op with
  | .add => some (.int k (k.wrap (a + b)))
  | .sub => some (.int k (k.wrap (a - b)))
  | .mul => some (.int k (k.wrap (a * b)))
  | .and => some (.int k (bits .and k a b))
  | .or => some (.int k (bits .or k a b))
  | .xor => some (.int k (bits .xor k a b))
  | .andNot => some (.int k (bits .andNot k a b))
  | .eql => some (.bool (decide (a = b)))
  | .neq => some (.bool (!decide (a = b)))
  | .lss => some (.bool (decide (a < b)))
  | .leq => some (.bool (decide (a ≤ b)))
  | .gtr => some (.bool (decide (b < a)))
  | .geq => some (.bool (decide (b ≤ a)))
  | _ => none
def pvStr (op : BinOp) (a b : List UInt8) : Option Value :=
  match op with
  | .eql => some (.bool (decide (a = b)))
  | .neq => some (.bool (!decide (a = b)))
  | .lss => some (.bool (Op.bytesLess a b))
  | .leq => some (.bool (Op.bytesLess a b || decide (a = b)))
  | .gtr => some (.bool (!(Op.bytesLess a b || decide (a = b))))
  | .geq => some (.bool (!Op.bytesLess a b))
  | _ => none
def pvBin (op : BinOp) : Value → Value → Option Value
  | .int k a, .int k' b => bif decide (k = k') then pvInt op k a b else none
  | .string ⟨⟨a⟩⟩, .string ⟨⟨b⟩⟩ => pvStr op a b
  | _, _ => none
def pvUn (op : UnOp) : Value → Option Value
  | .int k n => match op with
    | .neg => some (.int k (k.wrap (0 - n)))
    | .xor => some (.int k (bits .xor k (if k.signed then -1 else k.max) n))
    | _ => none
  | .bool b => match op with
    | .not => some (.bool (!b))
    | _ => none
  | _ => none
def addA (a : Addr) (n : Nat) : Addr := ⟨a.block, a.off + n, none⟩
def pvCall (T : Tab) (b : Builtin) (t : TypeId) (x : Value) : Option Value :=
  match b with
  | .len => match x with
    | .string ⟨⟨s⟩⟩ => match nk T.str t with
      | some _ => some (.int .i64 s.length)
      | none => none
    | .slice _ n _ => match nk T.sl t with
      | some _ => some (.int .i64 n)
      | none => none
    | _ => match nk T.arr t with
      | some (n, _, _) => some (.int .i64 n)
      | none => none
  | .cap => match x with
    | .slice _ _ n => match nk T.sl t with
      | some _ => some (.int .i64 n)
      | none => none
    | _ => none
  | _ => none
def pvPick (c x y : Value) : Option Value :=
  match c with
  | .bool b => match x, y with
    | .bool p, .bool q => some (.bool (bif b then p else q))
    | _, _ => none
  | _ => none
def pvConv (T : Tab) (src dst : TypeId) (x : Value) : Option Value :=
  match x with
  | .int _ n => match nk T.int src, nk T.int dst with
    | some _, some k => some (.int k (k.wrap n))
    | _, _ => none
  | .string s => match nk T.str src, nk T.str dst with
    | some _, some _ => some (.string s)
    | _, _ => none
  | _ => none
def pvField (T : Tab) (s : TypeId) (f : Nat) (x : Value) : Option Value :=
  match nk T.off s, x with
  | some os, .pointer (some a) => match os[f]? with
    | some o => match a with
      | ⟨b, p, none⟩ => some (.pointer (some ⟨b, p + o, none⟩))
      | _ => none
    | none => none
  | _, _ => none
def pvNil (x : Value) : Option Value :=
  match x with
  | .pointer (some a) => some (.pointer (some a))
  | _ => none
def pvExt (x : Value) (i : Nat) : Option Value :=
  match x with
  | .tuple vs => vs[i]?
  | _ => none
def o1 (f : Value → Option Value) (x : Option Value) : Option Value := match x with | some v => f v | none => none
def o2 (f : Value → Value → Option Value) (x y : Option Value) : Option Value := match x with | some v => (match y with | some u => f v u | none => none) | none => none
def pv (T : Tab) (L : Slots) (op : Op) : Option Value :=
  match op with
  | .move x => opv L x
  | .assign x => opv L x
  | .pick c x y => match opv L c with
    | some v => o2 (pvPick v) (opv L x) (opv L y)
    | none => none
  | .binOp b _ x y _ => o2 (pvBin b) (opv L x) (opv L y)
  | .unOp u _ x => o1 (pvUn u) (opv L x)
  | .convert s d x => o1 (pvConv T s d) (opv L x)
  | .extract x i => o1 (fun v => pvExt v i) (opv L x)
  | .nilCheck x => o1 pvNil (opv L x)
  | .fieldAddr s x f => o1 (pvField T s f) (opv L x)
  | .call ⟨.builtin b, ⟨[x]⟩, ⟨[t]⟩⟩ => o1 (pvCall T b t) (opv L x)
  | _ => none

theorem o1_some {f : Value → Option Value} {x : Option Value} {v : Value} (h : o1 f x = some v) : ∃ u, x = some u ∧ f u = some v := by
  cases x with
  | none => simp [o1] at h
  | some u => exact ⟨u, rfl, h⟩
theorem o2_some {f : Value → Value → Option Value} {x y : Option Value} {v : Value} (h : o2 f x y = some v) : ∃ u u', x = some u ∧ y = some u' ∧ f u u' = some v := by
  cases x with
  | none => simp [o2] at h
  | some u => cases y with
    | none => simp [o2] at h
    | some u' => exact ⟨u, u', rfl, rfl, h⟩

theorem mk_toList (l : List UInt8) : (⟨⟨l⟩⟩ : ByteArray).toList = l := by rw [ByteArray.toList_eq]
theorem mk_size (l : List UInt8) : (⟨⟨l⟩⟩ : ByteArray).size = l.length := rfl

section
variable {P : Program} {T : Tab} {L : Slots} {N : Nat} {w : World}

theorem run_pvInt {op : BinOp} {k : IntKind} {a b : Int} {v : Value} (t : TypeId) (h : pvInt op k a b = some v) (w1 : World) : (binOp op t (.int k a) (.int k b)).run P w1 = .ok v w1 := by
  cases op <;> simp only [pvInt, Option.some.injEq, reduceCtorEq] at h <;> subst h <;> simp [binOp, Op.intArith, Op.intBits, Op.intCmp, bits, bne] <;> rfl
theorem run_pvStr {op : BinOp} {a b : List UInt8} {v : Value} (t : TypeId) (h : pvStr op a b = some v) (w1 : World) : (binOp op t (.string ⟨⟨a⟩⟩) (.string ⟨⟨b⟩⟩)).run P w1 = .ok v w1 := by
  cases op <;> simp only [pvStr, Option.some.injEq, reduceCtorEq] at h <;> subst h <;> simp only [binOp, Op.stringOp, mk_toList, Sem.run_pure, Bool.beq_eq_decide_eq] <;> first | rfl | (congr 3 <;> (rw [Bool.eq_iff_iff]; simp))
theorem run_eqGuard (op : BinOp) (t : TypeId) (x y : Operand) {a b : Value} (h : (∃ k n k' n', a = .int k n ∧ b = .int k' n') ∨ (∃ s s', a = .string s ∧ b = .string s')) (w1 : World) : (eqGuard op t x y a b).run P w1 = .ok () w1 := by
  rcases h with ⟨k, n, k', n', rfl, rfl⟩ | ⟨s, s', rfl, rfl⟩ <;> unfold eqGuard <;> split <;> rfl

theorem exec_bin {op : BinOp} {t : TypeId} {x y : Operand} {ty' : TypeId} {d : Option Tmp} {ty : TypeId} {pos : String} {af : Array Edge} {ev : Operand → Value} {a b v : Value} (hx : ev x = a) (hy : ev y = b) {w1 : World}
    (h1 : (eqGuard op t x y a b).run P w1 = .ok () w1) (h2 : (binOp op t a b).run P w1 = .ok v w1) : (execOp ev ⟨d, .binOp op t x y ty', ty, pos, af, none⟩).run P w1 = .ok (.value v) w1 := by
  unfold execOp
  simp only [hx, hy, Sem.run_bind, h1, h2, Result.andThen_ok, Sem.run_pure]

theorem Yld.move {x : Operand} {v : Value} {d : Option Tmp} {ty : TypeId} {pos : String} {af : Array Edge} (hx : opv L x = some v) : Yld P N w ⟨d, .move x, ty, pos, af, none⟩ L v := fun a w1 _ ha => by
  unfold execOp
  simp only [ha.ev hx, Sem.run_pure]
theorem Yld.pure (hT : T.Ok P) {op : Op} {v : Value} {d : Option Tmp} {ty : TypeId} {pos : String} {af : Array Edge} (h : pv T L op = some v) : Yld P N w ⟨d, op, ty, pos, af, none⟩ L v := fun a w1 _ ha => by
  unfold pv at h
  split at h
  · exact Yld.move h a w1 (Eqv.refl _) ha
  · unfold execOp
    simp only [ha.ev h, Sem.run_pure]
  · rename_i c x y
    split at h
    · rename_i u hc
      obtain ⟨p, q, hx, hy, hp⟩ := o2_some h
      unfold execOp
      unfold pvPick at hp
      split at hp
      · split at hp
        · simp only [Option.some.injEq] at hp
          subst hp
          rename_i b _ _ p q
          simp only [ha.ev hc, ha.ev hx, ha.ev hy, Sem.run_bind, asBool, Sem.run_pure, Result.andThen_ok]
          cases b <;> rfl
        · cases hp
      · cases hp
    · cases h
  · obtain ⟨p, q, hx, hy, hp⟩ := o2_some h
    unfold pvBin at hp
    split at hp
    · rename_i k n k' n'
      cases hk : decide (k = k') with
      | false => simp [hk] at hp
      | true =>
        have := of_decide_eq_true hk
        subst this
        rw [hk] at hp
        exact exec_bin (ha.ev hx) (ha.ev hy) (run_eqGuard _ _ _ _ (.inl ⟨_, _, _, _, rfl, rfl⟩) _) (run_pvInt _ hp _)
    · exact exec_bin (ha.ev hx) (ha.ev hy) (run_eqGuard _ _ _ _ (.inr ⟨_, _, rfl, rfl⟩) _) (run_pvStr _ hp _)
    · cases hp
  · obtain ⟨p, hx, hp⟩ := o1_some h
    unfold execOp
    unfold pvUn at hp
    split at hp
    · split at hp <;> simp only [Option.some.injEq, reduceCtorEq] at hp <;> subst hp <;> simp [ha.ev hx, Op.unary, Op.intArith, Op.intBits, bits]
    · split at hp <;> simp only [Option.some.injEq, reduceCtorEq] at hp <;> subst hp <;> simp [ha.ev hx, Op.unary]
    · cases hp
  · obtain ⟨p, hx, hp⟩ := o1_some h
    unfold execOp
    unfold pvConv at hp
    split at hp
    · split at hp
      · rename_i k k' h1 h2
        simp only [Option.some.injEq] at hp
        subst hp
        simp [ha.ev hx, convert, run_underlying (hT.int h1), run_underlying (hT.int h2), Conv.intToInt]
      · cases hp
    · split at hp
      · rename_i h1 h2
        simp only [Option.some.injEq] at hp
        subst hp
        simp [ha.ev hx, convert, run_underlying (hT.str h1), run_underlying (hT.str h2)]
      · cases hp
    · cases hp
  · obtain ⟨p, hx, hp⟩ := o1_some h
    unfold execOp
    unfold pvExt at hp
    split at hp
    · rename_i vs
      simp [ha.ev hx, Instr.extract, hp]
    · cases hp
  · obtain ⟨p, hx, hp⟩ := o1_some h
    unfold execOp
    unfold pvNil at hp
    split at hp
    · simp only [Option.some.injEq] at hp
      subst hp
      simp [ha.ev hx]
    · cases hp
  · obtain ⟨p, hx, hp⟩ := o1_some h
    unfold execOp
    unfold pvField at hp
    split at hp
    · rename_i hos
      obtain ⟨fs, hfs, hall⟩ := hT.off hos
      split at hp
      · rename_i o ho
        obtain ⟨fd, hfd, rfl, i, hi, hi0⟩ := hall _ _ ho
        split at hp
        · simp only [Option.some.injEq] at hp
          subst hp
          simp [ha.ev hx, Instr.fieldAt, run_underlying hfs, hfd, Instr.sureAddr, fieldPlace, sizeOf, typeInfo, hi, hi0, Addr.add_mid]
        · cases hp
      · cases hp
    · cases hp
  · obtain ⟨p, hx, hp⟩ := o1_some h
    unfold execOp
    unfold pvCall at hp
    split at hp
    · split at hp
      · split at hp
        · rename_i hu
          simp only [Option.some.injEq] at hp
          subst hp
          simp [ha.ev hx, resolve, invoke, builtin, Builtin.len_, run_underlying (hT.str hu), goInt, mk_size]
        · cases hp
      · split at hp
        · rename_i u hu
          simp only [Option.some.injEq] at hp
          subst hp
          simp [ha.ev hx, resolve, invoke, builtin, Builtin.len_, run_underlying (hT.sl (e := u.1) (s := u.2) hu).1, goInt]
        · cases hp
      · split at hp
        · rename_i n e s hu
          simp only [Option.some.injEq] at hp
          subst hp
          obtain ⟨he, _⟩ := hT.arr hu
          simp [ha.ev hx, resolve, invoke, builtin, Builtin.len_, run_underlying he, goInt]
        · cases hp
    · split at hp
      · split at hp
        · rename_i u hu
          simp only [Option.some.injEq] at hp
          subst hp
          simp [ha.ev hx, resolve, invoke, builtin, Builtin.cap_, run_underlying (hT.sl (e := u.1) (s := u.2) hu).1, goInt]
        · cases hp
      · cases hp
    · cases hp
  · cases h
end
end Go.Proofs.YtfibkajdahaggaaDoor
