/- The generator's rules: joins and loops over any number of ghosts; objects that lie apart; guards by an equation; results in a row. -/
import Derived.Test.YtfibkajdahaggaaDoorFast
import Derived.Test.YtfibkajdahaggaaDoorTab
namespace Go.Proofs.YtfibkajdahaggaaDoor
open Go Go.RowKit
/-! ## the plain side: loops as 'there is an invariant and a measure' -/
def Lp1 {A : Type} (b : A → (A → Prop) → Prop) (a : A) : Prop := ∃ (I : A → Prop) (mu : A → Nat), I a ∧ ∀ a, I a → b a fun a' => I a' ∧ mu a' < mu a
def Lp2 {A B : Type} (b : A → B → (A → B → Prop) → Prop) (x : A) (y : B) : Prop := ∃ (I : A → B → Prop) (mu : A → B → Nat), I x y ∧ ∀ x y, I x y → b x y fun x' y' => I x' y' ∧ mu x' y' < mu x y
def Lp3 {A B C : Type} (b : A → B → C → (A → B → C → Prop) → Prop) (x : A) (y : B) (z : C) : Prop := ∃ (I : A → B → C → Prop) (mu : A → B → C → Nat), I x y z ∧ ∀ x y z, I x y z → b x y z fun x' y' z' => I x' y' z' ∧ mu x' y' z' < mu x y z
def Lp4 {A B C D : Type} (b : A → B → C → D → (A → B → C → D → Prop) → Prop) (x : A) (y : B) (z : C) (u : D) : Prop := ∃ (I : A → B → C → D → Prop) (mu : A → B → C → D → Nat), I x y z u ∧ ∀ x y z u, I x y z u → b x y z u fun x' y' z' u' => I x' y' z' u' ∧ mu x' y' z' u' < mu x y z u
def Lp5 {A B C D E : Type} (b : A → B → C → D → E → (A → B → C → D → E → Prop) → Prop) (x : A) (y : B) (z : C) (u : D) (v : E) : Prop := ∃ (I : A → B → C → D → E → Prop) (mu : A → B → C → D → E → Nat), I x y z u v ∧ ∀ x y z u v, I x y z u v → b x y z u v fun x' y' z' u' v' => I x' y' z' u' v' ∧ mu x' y' z' u' v' < mu x y z u v
def Lp6 {A B C D E F : Type} (b : A → B → C → D → E → F → (A → B → C → D → E → F → Prop) → Prop) (x : A) (y : B) (z : C) (u : D) (v : E) (s : F) : Prop := ∃ (I : A → B → C → D → E → F → Prop) (mu : A → B → C → D → E → F → Nat), I x y z u v s ∧ ∀ x y z u v s, I x y z u v s → b x y z u v s fun x' y' z' u' v' s' => I x' y' z' u' v' s' ∧ mu x' y' z' u' v' s' < mu x y z u v s
def vB (b : Bool) : Value := .bool b
theorem One.B : One vB := fun _ => rfl
/-- what lies at p is not what lies at q -/
def Dj (p q : Option Nat) : Prop := ∀ g, p = some g → q ≠ some g
theorem Dj.symm {p q : Option Nat} (h : Dj p q) : Dj q p := fun g hq hp => h g hp hq
def Dn {α : Type} (xs : List α) (p q : Option Nat) : Prop := xs ≠ [] → Dj p q
theorem Dn.of {α : Type} {xs : List α} {p q : Option Nat} (h : Dj p q) : Dn xs p q := fun _ => h
theorem Dn.sub {α β : Type} {xs : List α} {ys : List β} {p p' q : Option Nat} (h : Dn xs p q) (hx : ys ≠ [] → xs ≠ []) (hb : ∀ g, p' = some g → p = some g) : Dn ys p' q := fun hy g hg => h (hx hy) g (hb g hg)
theorem Dj.nl {q : Option Nat} : Dj none q := fun _ h => by cases h
theorem Dj.nr {q : Option Nat} : Dj q none := fun _ _ h => by cases h
theorem Dn.nr {α : Type} {xs : List α} {q : Option Nat} : Dn xs q none := fun _ => Dj.nr
/-- old and new -/
def Lt (p : Option Nat) (n : Nat) : Prop := ∀ g, p = some g → g < n
def Ge (p : Option Nat) (n : Nat) : Prop := ∀ g, p = some g → n ≤ g
theorem Dj.new {p q : Option Nat} {n : Nat} (h : Lt p n) (k : Ge q n) : Dj p q := fun g hp hq => by have := h g hp; have := k g hq; omega
theorem Dn.new {α : Type} {xs : List α} {p q : Option Nat} {n : Nat} (h : xs ≠ [] → Lt p n) (k : Ge q n) : Dn xs p q := fun hx => Dj.new (h hx) k
/-- what grew of p stays apart from q -/
theorem Dj.app {p p' q : Option Nat} {n : Nat} (h : Dj p q) (hq : Lt q n) (k : ∀ g, p' = some g → p = some g ∨ n ≤ g) : Dj p' q := fun g hp hqg => by
  rcases k g hp with h1 | h1
  · exact h g h1 hqg
  · have := hq g hqg; omega
theorem Dn.app {α : Type} {xs : List α} {r p p' : Option Nat} {n : Nat} (h : Dn xs r p) (hq : xs ≠ [] → Lt r n) (k : ∀ g, p' = some g → p = some g ∨ n ≤ g) : Dn xs r p' := fun hx => ((h hx).symm.app (hq hx) k).symm
theorem Lt.box {g n : Nat} (h : g < n) : Lt (some g) n := fun _ e => by cases e; exact h
theorem Ge.box {g n : Nat} (h : n ≤ g) : Ge (some g) n := fun _ e => by cases e; exact h
section
variable {α : Type} {f : α → Value} {w w' w0 : World} {A : Option Addr} {c B g : Nat} {xs : List α} {e : TypeId} {us : List Value} {row : Option Nat}
theorem Bl.lt' (h : Bl w g e us) : Lt (some g) w.heap.size := Lt.box h.lt
theorem Own.lt' (h : Own f w B e A c xs) : Lt (blk A) w.heap.size := fun _ hg => (h.lt hg).2
theorem Own.ge' (h : Own f w B e A c xs) : Ge (blk A) B := fun _ hg => (h.lt hg).1
theorem Rd.lt' (h : Rd f w A c xs) (hx : xs ≠ []) : Lt (blk A) w.heap.size := fun _ hg => h.lt hx hg
theorem Bl.go (h : Bl w g e us) (hg : w.grownBy w' row) (hd : Dj (some g) row) : Bl w' g e us := h.keep hg fun e => hd g rfl e
theorem Own.go (h : Own f w B e A c xs) (hg : w.grownBy w' row) (hd : Dj (blk A) row) : Own f w' B e A c xs := h.keep hg fun g e k => hd g k e
theorem Rd.go (h : Rd f w A c xs) (hg : w.grownBy w' row) (hd : Dn xs (blk A) row) : Rd f w' A c xs := h.keep' hg fun hx g e k => hd hx g k e
theorem Bl.g0 (h : Bl w g e us) (hg : w.grownBy w' none) : Bl w' g e us := h.keep hg (by simp)
theorem cell_g0 {p : Addr} {v : Value} (h : w.cell? p = some v) (hg : w.grownBy w' none) : w'.cell? p = some v := by
  have hlt := World.block_lt_of_cell? w _ h
  have := hg.block p.block hlt (by simp)
  unfold World.cell? at h ⊢
  rw [this]; exact h
/-- a write to what the call made itself -/
theorem gr_mod (h : w0.grownBy w none) (k : w.grownBy w' row) (hn : Ge row w0.heap.size) : w0.grownBy w' none := by
  cases row with
  | none => exact gr_trans h k
  | some g => exact gr_new h k (hn g rfl)
theorem size_le (h : w.grownBy w' row) : w.heap.size ≤ w'.heap.size := h.size
theorem Ge.none {n : Nat} : Ge Option.none n := fun _ h => by cases h
theorem Ge.le {p : Option Nat} {m n : Nat} (h : Ge p n) (k : m ≤ n) : Ge p m := fun g hg => Nat.le_trans k (h g hg)
end
/-! ## joins and loops -/
section
variable {P : Program} {N : Nat} {Q : Post} {L : Slots} {w : World}
theorem WC.midF {x : Code} (F : Slots → World → Prop) (h2 : ∀ L' w', F L' w' → WX N Q .normal L' w') (h1 : (∀ L' w', F L' w' → WX N Q .normal L' w') → WC P N Q x L w) : WC P N Q x L w := h1 h2
theorem WC.loopF {k : Code} (F : Nat → Slots → World → Prop) (n0 : Nat) (L0 : Slots) (h0 : F n0 L0 w) (hL : Sub L L0)
    (round : ∀ n L w, F n L w → WC P N (Exit.then (fun a' w' => ∃ n' L' w0, F n' L' w0 ∧ Eqv w0 w' ∧ Has N L' a' ∧ n' < n) Q) k L w) : WC P N Q (.loop k) L w :=
  WC.loopG (S := Nat × Slots) (fun s a' w' => ∃ n' L' w0, F n' L' w0 ∧ Eqv w0 w' ∧ Has N L' a' ∧ n' < s.1) (fun s => s.1) (fun s => s.2) (fun s => F s.1 s.2)
    (fun _ _ _ ⟨n', L', w0, h⟩ => ⟨(n', L'), w0, h⟩) (n0, L0) h0 hL (fun s w h => round s.1 s.2 w h)
theorem WX.roundF {F : Nat → Slots → World → Prop} {n n' : Nat} (L' : Slots) (hI : F n' L' w) (hL : Sub L L') (hm : n' < n) :
    WX N (Exit.then (fun a' w' => ∃ n' L' w0, F n' L' w0 ∧ Eqv w0 w' ∧ Has N L' a' ∧ n' < n) Q) .normal L w := fun _ _ e ha => ⟨n', L', w, hI, e, ha.sub hL, hm⟩
theorem WC.cut {c : Code} {L' : Slots} (hs : Sub L L') (h : WC P N Q c L' w) : WC P N Q c L w := h.weaken hs
end
theorem all1n : ∀ u ∈ ([] : List Value), u.oneCell' = true := fun _ h => by cases h
theorem all1c {u : Value} {us : List Value} (h : u.oneCell' = true) (t : ∀ v ∈ us, v.oneCell' = true) : ∀ v ∈ u :: us, v.oneCell' = true := fun v hv => by
  rcases List.mem_cons.1 hv with rfl | hv
  · exact h
  · exact t v hv
/-! ## guards -/
theorem okb {e t : Bool} (h : e = t) : some (Value.bool e) = some (Value.bool t) := by rw [h]
section
variable {P : Program} {T : Tab} {N : Nat} {L : Slots} {w : World} {ty : TypeId} {pos : String} {af : Array Edge} {dd : Option Tmp} {t t' : TypeId} {x y c i : Operand} {k : IntKind} {q : Int}
theorem Yld.pickT {u : Value} (hc : opv L c = some (.bool true)) (hx : opv L x = some u) : Yld P N w ⟨dd, .pick c x y, ty, pos, af, none⟩ L u := fun a w1 _ ha => by
  unfold execOp
  simp only [ha.ev hc, ha.ev hx, Sem.run_bind, asBool, Sem.run_pure, Result.andThen_ok]
  rfl
theorem Yld.pickF {u : Value} (hc : opv L c = some (.bool false)) (hy : opv L y = some u) : Yld P N w ⟨dd, .pick c x y, ty, pos, af, none⟩ L u := fun a w1 _ ha => by
  unfold execOp
  simp only [ha.ev hc, ha.ev hy, Sem.run_bind, asBool, Sem.run_pure, Result.andThen_ok]
  rfl
theorem Yld.scutF (hT : T.Ok P) {lo : Operand} {p : List UInt8} {u : Unit} {l : Int} (ht : nk T.str t = some u) (hx : opv L x = some (.string ⟨⟨p⟩⟩)) (hl : optv L (some lo) 0 = some l) (h0 : 0 ≤ l) (h1 : l ≤ p.length) : Yld P N w ⟨dd, .slice t x (some lo) none none, ty, pos, af, none⟩ L (.string ⟨⟨p.drop l.toNat⟩⟩) := by
  have h := Yld.scut (P := P) (N := N) (w := w) (d := dd) (ty := ty) (pos := pos) (af := af) hT ht hx hl (hi := none) (h := (p.length : Int)) rfl h0 h1 (by omega)
  have e : (p.drop l.toNat).take ((p.length : Int).toNat - l.toNat) = p.drop l.toNat := List.take_of_length_le (by simp)
  rw [e] at h
  exact h
end
section
variable {P : Program} {T : Tab} {N : Nat} {L : Slots} {w : World} {ty : TypeId} {pos : String} {af : Array Edge} {dd : Option Tmp} {t : TypeId} {x : Operand} {k : IntKind} {q : Int}
theorem Yld.neg (hT : T.Ok P) (hx : opv L x = some (.int k q)) (hi : In k (0 - q)) : Yld P N w ⟨dd, .unOp .neg t x, ty, pos, af, none⟩ L (.int k (0 - q)) := by
  have h := Yld.pure (P := P) (T := T) (L := L) (N := N) (w := w) (d := dd) (ty := ty) (pos := pos) (af := af) hT (op := .unOp .neg t x) (v := .int k (k.wrap (0 - q))) (by simp only [pv, hx, o1, pvUn])
  rw [In.wrap hi] at h
  exact h
end
/-! ## small facts -/
theorem nd_true {p : Prop} [Decidable p] (h : (!decide p) = true) : ¬ p := by simpa using h
theorem nd_false {p : Prop} [Decidable p] (h : (!decide p) = false) : p := by simpa using h
theorem iltN {α : Type} {xs : List α} {i : Int} {n : Nat} (h : 0 ≤ i ∧ i < (n : Int)) (hn : n = xs.length) : i.toNat < xs.length := by omega
theorem applen {a b c : Nat} (h : (a + b) * (c + 1) ≤ 140737488355328) : a + b ≤ maxLen := by
  have : (a + b) * 1 ≤ (a + b) * (c + 1) := Nat.mul_le_mul_left _ (by omega)
  simp only [maxLen]; omega
theorem ne_drop {α : Type} {xs : List α} {n : Nat} (h : xs.drop n ≠ []) : xs ≠ [] := fun e => h (by rw [e]; simp)
theorem ne_cut {α : Type} {xs : List α} {n m : Nat} (h : (xs.drop n).take m ≠ []) : xs ≠ [] := fun e => h (by rw [e]; simp)
theorem byte_eq {k : IntKind} {e : Int} (h : 0 ≤ e ∧ e ≤ 255) : some (Value.int k e) = some (Value.int k ((UInt8.ofNat e.toNat).toNat : Int)) := by
  have : ((UInt8.ofNat e.toNat).toNat : Int) = e := by rw [UInt8.toNat_ofNat']; omega
  rw [this]
theorem byte_eq' {e : Int} (h : 0 ≤ e ∧ e ≤ 255) : Value.int .u8 e = vb (UInt8.ofNat e.toNat) := by
  have : ((UInt8.ofNat e.toNat).toNat : Int) = e := by rw [UInt8.toNat_ofNat']; omega
  unfold vb; rw [this]
/-! ## where a result lies: new, or where an argument lies -/
def Orig (ne : Prop) (p : Option Nat) (n : Nat) (ps : List (Prop × Option Nat)) : Prop := ne → ∀ g, p = some g → n ≤ g ∨ ∃ x, List.Mem x ps ∧ x.1 ∧ x.2 = some g
def OrAll (Q : Prop → Option Nat → Prop) (ps : List (Prop × Option Nat)) : Prop := ∀ x, List.Mem x ps → Q x.1 x.2
theorem orN {Q : Prop → Option Nat → Prop} : OrAll Q [] := fun _ h => by cases h
theorem orC {Q : Prop → Option Nat → Prop} {a : Prop} {b : Option Nat} {ps : List (Prop × Option Nat)} (h : Q a b) (t : OrAll Q ps) : OrAll Q ((a, b) :: ps) := fun x hx => by
  cases hx with
  | head => exact h
  | tail _ hx => exact t x hx
theorem Orig.apart {α : Type} {ys : List α} {p z : Option Nat} {n : Nat} {ps : List (Prop × Option Nat)} (h : Orig (ys ≠ []) p n ps) (hz : Lt z n) (hs : OrAll (fun ne q => ne → Dj q z) ps) : Dn ys p z := fun hy g hg hzg => by
  rcases h hy g hg with h1 | ⟨x, hx, hne, hxg⟩
  · have := hz g hzg; omega
  · exact hs x hx hne g hxg hzg
theorem Orig.par {ne : Prop} {p : Option Nat} {n : Nat} {ps : List (Prop × Option Nat)} (h : List.Mem (ne, p) ps) : Orig ne p n ps := fun hn _ hg => .inr ⟨_, h, hn, hg⟩
theorem Orig.new {ne : Prop} {p : Option Nat} {n : Nat} {ps : List (Prop × Option Nat)} (h : Ge p n) : Orig ne p n ps := fun _ g hg => .inl (h g hg)
theorem Orig.sub {ne ne' : Prop} {p p' : Option Nat} {n : Nat} {ps : List (Prop × Option Nat)} (h : Orig ne p n ps) (hx : ne' → ne) (hb : ∀ g, p' = some g → p = some g) : Orig ne' p' n ps := fun hn g hg => h (hx hn) g (hb g hg)
theorem Orig.trans {ne : Prop} {p : Option Nat} {n m : Nat} {ps qs : List (Prop × Option Nat)} (h : Orig ne p n qs) (hm : m ≤ n) (hs : OrAll (fun ne q => Orig ne q m ps) qs) : Orig ne p m ps := fun hn g hg => by
  rcases h hn g hg with h1 | ⟨x, hx, hne, hxg⟩
  · exact .inl (by omega)
  · exact hs x hx hne g hxg
section
variable {P : Program} {T : Tab} {N : Nat} {ops : Array Oper} {Q : Post} {L : Slots} {w : World} {rest : List Oper} {d : Nat} {ty : TypeId} {pos : String} {af : Array Edge} {t t' : TypeId} {x y i : Operand} {k k' : IntKind} {q : Int}
variable {α : Type} {f : α → Value} {A : Option Addr} {c n B : Nat} {xs ys : List α} {e : TypeId}
theorem WL.cutF {e : TypeId} {lo : Operand} {l : Int} (hT : T.Ok P) (hR : Rd f w A c xs) (hd : Nat.blt d N = true) (hs : nk T.sl t = some (e, 1)) (hx : opv L x = some (.slice A n c)) (hn : n = xs.length) (hl : optv L (some lo) 0 = some l) (h0 : 0 ≤ l) (h1 : l ≤ (n : Int))
    (hk : ∀ A' c', Rd f w A' c' (xs.drop l.toNat) → (∀ g, blk A' = some g → blk A = some g) → WL P N ops Q rest ((d, .slice A' (xs.drop l.toNat).length c') :: L) w) : WL P N ops Q (⟨some d, .slice t x (some lo) none none, ty, pos, af, none⟩ :: rest) L w := by
  refine WL.cut (h := (n : Int)) hT hR hd hs hx hn hl rfl h0 h1 (Int.le_refl _) (fun A' c' => ?_)
  have e : (xs.drop l.toNat).take ((n : Int).toNat - l.toNat) = xs.drop l.toNat := List.take_of_length_le (by simp; omega)
  rw [e]
  exact hk A' c'
theorem WL.makeZI {q : Int} {z : α} {b : Nat} (hT : T.Ok P) (hd : Nat.blt d N = true) (hs : nk T.ow t = some (e, b)) (hz : zeroOf P e = some [f z]) (hx : opv L x = some (.int k q)) (hy : opv L y = some (.int k' q)) (h0 : 0 ≤ q) (hm : q * (b : Int) ≤ 140737488355328) (h63 : q ≤ 140737488355328) (hB : B ≤ w.heap.size)
    (hk : ∀ g w', Own f w' B e (some ⟨g, 0, none⟩) q.toNat (List.replicate q.toNat z) → w.grownBy w' none → w.heap.size ≤ g → WL P N ops Q rest ((d, .slice (some ⟨g, 0, none⟩) q.toNat q.toNat) :: L) w') :
    WL P N ops Q (⟨some d, .makeSlice t x y, ty, pos, af, none⟩ :: rest) L w := by
  have e1 : ((q.toNat : Nat) : Int) = q := Int.toNat_of_nonneg h0
  have e2 : q.toNat * b ≤ 140737488355328 := by
    have : ((q.toNat * b : Nat) : Int) ≤ 140737488355328 := by rw [Int.natCast_mul, e1]; exact hm
    omega
  exact WL.makeZ hT hd hs hz (by rw [e1]; exact hx) (by rw [e1]; exact hy) e2 (by omega) hB hk
theorem WL.makeCI {q : Int} {b : Nat} (hT : T.Ok P) (hd : Nat.blt d N = true) (hs : nk T.ow t = some (e, b)) (hx : opv L x = some (.int k 0)) (hy : opv L y = some (.int k' q)) (h0 : 0 ≤ q) (hm : q * (b : Int) ≤ 140737488355328) (h63 : q ≤ 140737488355328) (hB : B ≤ w.heap.size)
    (hk : ∀ g w', Own f w' B e (some ⟨g, 0, none⟩) q.toNat [] → w.grownBy w' none → w.heap.size ≤ g → WL P N ops Q rest ((d, .slice (some ⟨g, 0, none⟩) 0 q.toNat) :: L) w') :
    WL P N ops Q (⟨some d, .makeSlice t x y, ty, pos, af, none⟩ :: rest) L w := by
  have e1 : ((q.toNat : Nat) : Int) = q := Int.toNat_of_nonneg h0
  have e2 : q.toNat * b ≤ 140737488355328 := by
    have : ((q.toNat * b : Nat) : Int) ≤ 140737488355328 := by rw [Int.natCast_mul, e1]; exact hm
    omega
  exact WL.makeC hT hd hs hx (by rw [e1]; exact hy) e2 (by omega) hB hk
/-! ## in the midst of a region -/
theorem WL.midF {l : List Oper} (m : Nat) (F : Slots → World → Prop) (h2 : ∀ L' w', F L' w' → WL P N ops Q (l.drop m) L' w') (h1 : (∀ L' w', F L' w' → WL P N ops Q (l.drop m) L' w') → WL P N ops Q l L w) : WL P N ops Q l L w := h1 h2
theorem WQ.midF {K : Act → Prop} {l : List Oper} (m : Nat) (F : Slots → World → Prop) (h2 : ∀ L' w', F L' w' → WQ P N ops K (l.drop m) L' w') (h1 : (∀ L' w', F L' w' → WQ P N ops K (l.drop m) L' w') → WQ P N ops K l L w) : WQ P N ops K l L w := h1 h2
theorem WJ.midF {fl : Nat → Bool} {D : Nat → World → Prop} {l : List Oper} {j : Nat} (m : Nat) (F : Slots → World → Prop) (h2 : ∀ L' w', F L' w' → WJ P N ops fl D Q (l.drop m) (j + m) L' w') (h1 : (∀ L' w', F L' w' → WJ P N ops fl D Q (l.drop m) (j + m) L' w') → WJ P N ops fl D Q l j L w) : WJ P N ops fl D Q l j L w := h1 h2
theorem WQ.weaken {K : Act → Prop} {l : List Oper} {L' : Slots} (hs : Sub L L') (h : WQ P N ops K l L' w) : WQ P N ops K l L w := fun a ha => h a (ha.sub hs)
theorem WJ.weaken {fl : Nat → Bool} {D : Nat → World → Prop} {l : List Oper} {j : Nat} {L' : Slots} (hs : Sub L L') (h : WJ P N ops fl D Q l j L' w) : WJ P N ops fl D Q l j L w := fun a w1 e ha => h a w1 e (ha.sub hs)
end
end Go.Proofs.YtfibkajdahaggaaDoor
