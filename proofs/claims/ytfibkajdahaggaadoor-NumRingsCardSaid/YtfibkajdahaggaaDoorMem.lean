/- The engine's rules: numbers that fit, strings, slices that are read, blocks, appends, calls, returns. -/
import Derived.Test.YtfibkajdahaggaaDoorOps
namespace Go.Proofs.YtfibkajdahaggaaDoor
open Go Go.RowKit

/-! ## numbers that fit -/
def In : IntKind → Int → Prop
  | .i8, n => -128 ≤ n ∧ n ≤ 127
  | .i16, n => -32768 ≤ n ∧ n ≤ 32767
  | .i32, n => -2147483648 ≤ n ∧ n ≤ 2147483647
  | .i64, n => -9223372036854775808 ≤ n ∧ n ≤ 9223372036854775807
  | .u8, n => 0 ≤ n ∧ n ≤ 255
  | .u16, n => 0 ≤ n ∧ n ≤ 65535
  | .u32, n => 0 ≤ n ∧ n ≤ 4294967295
  | .u64, n => 0 ≤ n ∧ n ≤ 18446744073709551615
theorem In.wrap {k : IntKind} {n : Int} (h : In k n) : k.wrap n = n := by
  cases k
  · exact IntWalk.i8_in n h
  · exact IntWalk.i16_in n h
  · exact IntWalk.i32_in n h
  · exact IntWalk.i64_in n h
  · exact IntWalk.u8_in n h
  · exact IntWalk.u16_in n h
  · exact IntWalk.u32_in n h
  · exact IntWalk.u64_in n h

section
variable {P : Program} {T : Tab} {L : Slots} {N : Nat} {w : World} {x y : Operand} {d : Option Tmp} {ty : TypeId} {pos : String} {af : Array Edge} {t t' : TypeId} {k k' : IntKind} {a b : Int}
theorem Yld.bin {op : BinOp} {v : Value} (hx : opv L x = some (.int k a)) (hy : opv L y = some (.int k' b)) (hr : ∀ w1, (binOp op t (.int k a) (.int k' b)).run P w1 = .ok v w1) : Yld P N w ⟨d, .binOp op t x y t', ty, pos, af, none⟩ L v := fun _ w1 _ ha =>
  exec_bin (ha.ev hx) (ha.ev hy) (run_eqGuard _ _ _ _ (.inl ⟨_, _, _, _, rfl, rfl⟩) _) (hr w1)
theorem Yld.add (hx : opv L x = some (.int k a)) (hy : opv L y = some (.int k b)) (hi : In k (a + b)) : Yld P N w ⟨d, .binOp .add t x y t', ty, pos, af, none⟩ L (.int k (a + b)) := Yld.bin hx hy fun w1 => by simp [binOp, Op.intArith, hi.wrap]
theorem Yld.sub (hx : opv L x = some (.int k a)) (hy : opv L y = some (.int k b)) (hi : In k (a - b)) : Yld P N w ⟨d, .binOp .sub t x y t', ty, pos, af, none⟩ L (.int k (a - b)) := Yld.bin hx hy fun w1 => by simp [binOp, Op.intArith, hi.wrap]
theorem Yld.mul (hx : opv L x = some (.int k a)) (hy : opv L y = some (.int k b)) (hi : In k (a * b)) : Yld P N w ⟨d, .binOp .mul t x y t', ty, pos, af, none⟩ L (.int k (a * b)) := Yld.bin hx hy fun w1 => by simp [binOp, Op.intArith, hi.wrap]
theorem Yld.quo (hx : opv L x = some (.int k a)) (hy : opv L y = some (.int k b)) (ha : 0 ≤ a) (hb : 0 < b) (hi : In k a) : Yld P N w ⟨d, .binOp .quo t x y t', ty, pos, af, none⟩ L (.int k (a / b)) := Yld.bin hx hy fun w1 => by
  have h1 : a.tdiv b = a / b := Int.tdiv_eq_ediv_of_nonneg ha
  have h2 : 0 ≤ a / b := Int.ediv_nonneg ha (by omega)
  have h3 : a / b ≤ a := Int.ediv_le_self _ ha
  have h4 : In k (a / b) := by cases k <;> simp only [In] at hi ⊢ <;> omega
  have h5 : ¬ b = 0 := by omega
  simp [binOp, Op.intDiv, h5, h1, h4.wrap]
theorem Yld.rem (hx : opv L x = some (.int k a)) (hy : opv L y = some (.int k b)) (ha : 0 ≤ a) (hb : 0 < b) : Yld P N w ⟨d, .binOp .rem t x y t', ty, pos, af, none⟩ L (.int k (a % b)) := Yld.bin hx hy fun w1 => by
  have h1 : a.tmod b = a % b := Int.tmod_eq_emod_of_nonneg ha
  have h5 : ¬ b = 0 := by omega
  simp [binOp, Op.intDiv, h5, h1]
theorem Yld.quo' (hx : opv L x = some (.int k a)) (hy : opv L y = some (.int k b)) (hb : b ≠ 0) : Yld P N w ⟨d, .binOp .quo t x y t', ty, pos, af, none⟩ L (.int k (k.wrap (a.tdiv b))) := Yld.bin hx hy fun w1 => by simp [binOp, Op.intDiv, hb]
theorem Yld.rem' (hx : opv L x = some (.int k a)) (hy : opv L y = some (.int k b)) (hb : b ≠ 0) : Yld P N w ⟨d, .binOp .rem t x y t', ty, pos, af, none⟩ L (.int k (a.tmod b)) := Yld.bin hx hy fun w1 => by simp [binOp, Op.intDiv, hb]
theorem Yld.shl (hx : opv L x = some (.int k a)) (hy : opv L y = some (.int k' b)) (hb : 0 ≤ b) : Yld P N w ⟨d, .binOp .shl t x y t', ty, pos, af, none⟩ L (.int k (shlV k a b.toNat)) := Yld.bin hx hy fun w1 => by
  have : ¬ b < 0 := by omega
  simp only [binOp, Op.shift, if_neg this, shlV]; rfl
theorem Yld.shr (hx : opv L x = some (.int k a)) (hy : opv L y = some (.int k' b)) (hb : 0 ≤ b) : Yld P N w ⟨d, .binOp .shr t x y t', ty, pos, af, none⟩ L (.int k (shrV k a b.toNat)) := Yld.bin hx hy fun w1 => by
  have : ¬ b < 0 := by omega
  simp only [binOp, Op.shift, if_neg this, shrV]; rfl
theorem Yld.conv (hT : T.Ok P) {s e : TypeId} (hs : nk T.int s = some k') (he : nk T.int e = some k) {k2 : IntKind} (hx : opv L x = some (.int k2 a)) (hi : In k a) : Yld P N w ⟨d, .convert s e x, ty, pos, af, none⟩ L (.int k a) := fun ac w1 _ ha => by
  unfold execOp
  simp [ha.ev hx, convert, run_underlying (hT.int hs), run_underlying (hT.int he), Conv.intToInt, hi.wrap]
/-! ## strings -/
theorem Yld.sadd {p q : List UInt8} (hx : opv L x = some (.string ⟨⟨p⟩⟩)) (hy : opv L y = some (.string ⟨⟨q⟩⟩)) (hi : p.length + q.length ≤ 9223372036854775807) : Yld P N w ⟨d, .binOp .add t x y t', ty, pos, af, none⟩ L (.string ⟨⟨p ++ q⟩⟩) := fun ac w1 _ ha =>
  exec_bin (ha.ev hx) (ha.ev hy) (run_eqGuard _ _ _ _ (.inr ⟨_, _, rfl, rfl⟩) _) (by
    have := run_string_add_sum (P := P) w1 ⟨⟨p⟩⟩ ⟨⟨q⟩⟩ (by simpa [mk_size] using hi)
    simp only [binOp]
    rw [this]
    rfl)
theorem Yld.sidx (hT : T.Ok P) {i : Operand} {p : List UInt8} {u : Unit} (ht : nk T.str t = some u) (hx : opv L x = some (.string ⟨⟨p⟩⟩)) (hi : opv L i = some (.int k a)) (h0 : 0 ≤ a) (h1 : a < p.length) :
    Yld P N w ⟨d, .index t x i, ty, pos, af, none⟩ L (.int .u8 ((p.getD a.toNat 0).toNat : Int)) := fun ac w1 _ ha => by
  have h2 : a.toNat < p.length := by omega
  have h3 : (⟨⟨p⟩⟩ : ByteArray)[a.toNat]? = some (p.getD a.toNat 0) := by
    show (if h : a.toNat < (⟨⟨p⟩⟩ : ByteArray).size then some _ else none) = _
    rw [dif_pos (by rw [mk_size]; exact h2)]
    simp [List.getD, h2]
    rfl
  unfold execOp
  simp [ha.ev hx, ha.ev hi, Instr.index, run_underlying (hT.str ht), asIntOf, h0, h3]
def optv (L : Slots) (o : Option Operand) (dflt : Int) : Option Int := match o with
  | none => some dflt
  | some x => match opv L x with
    | some (.int _ v) => some v
    | _ => none
theorem run_bound {N : Nat} {ac : Act} (ha : Has N L ac) {o : Operand} {l : Int} {dflt : Int} (h : optv L (some o) dflt = some l) : ∃ k, ac.eval o = .int k l := by
  unfold optv at h
  simp only at h
  split at h
  · rename_i k v hv
    simp only [Option.some.injEq] at h
    subst h
    exact ⟨k, ha.ev hv⟩
  · cases h
/-- the bounds of a cut, reckoned -/
theorem run_bounds {ac : Act} (ha : Has N L ac) {lo hi : Option Operand} {l h : Int} {len cap : Nat} {isS : Bool} (hl : optv L lo 0 = some l) (hh : optv L hi len = some h) (h0 : 0 ≤ l) (h1 : l ≤ h) (h2 : h ≤ cap) (w1 : World) :
    (Instr.sliceBounds isS len cap (lo.map ac.eval) (hi.map ac.eval) none).run P w1 = .ok (l.toNat, h.toNat, cap) w1 := by
  have g1 : 0 ≤ h := by omega
  cases lo with
  | none =>
    simp only [optv, Option.some.injEq] at hl
    subst hl
    cases hi with
    | none =>
      simp only [optv, Option.some.injEq] at hh
      subst hh
      simp [Instr.sliceBounds]
    | some y =>
      obtain ⟨k, hy⟩ := run_bound ha hh
      simp [Instr.sliceBounds, Instr.sliceBound, hy, asIntOf, g1, h2]
  | some x =>
    obtain ⟨k, hx⟩ := run_bound ha hl
    cases hi with
    | none =>
      simp only [optv, Option.some.injEq] at hh
      subst hh
      simp [Instr.sliceBounds, Instr.sliceBound, hx, asIntOf, h0, h1]
    | some y =>
      obtain ⟨k', hy⟩ := run_bound ha hh
      have g2 : l ≤ max h 0 := by omega
      simp [Instr.sliceBounds, Instr.sliceBound, hx, hy, asIntOf, h0, g1, g2, h2]
/-- a piece of a string -/
theorem Yld.scut (hT : T.Ok P) {lo hi : Option Operand} {p : List UInt8} {u : Unit} {l h : Int} (ht : nk T.str t = some u) (hx : opv L x = some (.string ⟨⟨p⟩⟩))
    (hl : optv L lo 0 = some l) (hh : optv L hi p.length = some h) (h0 : 0 ≤ l) (h1 : l ≤ h) (h2 : h ≤ p.length) :
    Yld P N w ⟨d, .slice t x lo hi none, ty, pos, af, none⟩ L (.string ⟨⟨(p.drop l.toNat).take (h.toNat - l.toNat)⟩⟩) := fun ac w1 _ ha => by
  unfold execOp
  have e : (⟨⟨p⟩⟩ : ByteArray).extract l.toNat h.toNat = ⟨⟨(p.drop l.toNat).take (h.toNat - l.toNat)⟩⟩ := ByteArray.extract_mk p l.toNat h.toNat
  have hb := run_bounds (P := P) (len := p.length) (cap := p.length) (isS := false) ha hl hh h0 h1 h2 w1
  simp [ha.ev hx, Instr.sliceAt, run_underlying (hT.str ht), Instr.slice, mk_size, hb, e]
end
end Go.Proofs.YtfibkajdahaggaaDoor
