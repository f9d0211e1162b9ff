import Derived.Test.YtfibkajdahaggaaDoorSha7
import Derived.Test.YtfibkajdahaggaaDoorMore3
namespace Go.Proofs.YtfibkajdahaggaaDoor
open Go Go.RowKit
attribute [local irreducible] WL WC WX WQ WK Yld Eff Fn

/-- bytes to bytes: nothing but a mark behind the row -/
theorem WL.b2b {P : Program} {T : Tab} {N : Nat} {ops : Array Oper} {Q : Post} {L : Slots} {w : World} {d : Tmp} {x : Operand} {ty : TypeId} {pos : String} {af : Array Edge} {rest : List Oper} {g n c : Nat} {e e' b : TypeId} {xs : List UInt8}
    (hT : T.Ok P) (hd : Nat.blt d N = true) (hb : nk T.sl b = some (e, 1)) (he : nk T.int e = some .u8) (hB : Bl w g e' (xs.map vb)) (hx : opv L x = some (.slice (some ⟨g, 0, none⟩) n c))
    (hk : ∀ w', (∀ i, w'.cell? ⟨g, i, none⟩ = (xs.map vb)[i]?) → w.grownBy w' (some g) → WL P N ops Q rest ((d, .slice (some ⟨g, 0, none⟩) n c) :: L) w') :
    WL P N ops Q (⟨some d, .convert b b x, ty, pos, af, none⟩ :: rest) L w :=
  WL.put (R := fun v w' => v = .slice (some ⟨g, 0, none⟩) n c ∧ (∀ i, w'.cell? ⟨g, i, none⟩ = (xs.map vb)[i]?) ∧ w.grownBy w' (some g)) hd (fun a w1 hw ha => by
    obtain ⟨hu, _⟩ := hT.sl hb
    have hB1 := bl_eqv hw hB
    have hsh : w1.shape? g = some (e', (xs.map vb).length) := by unfold World.shape?; rw [hB1]; rfl
    refine ⟨_, w1.freeze ⟨g, (xs.map vb).length, none⟩ 1, ?_, rfl, ?_, eqv_gr hw ?_⟩
    · unfold execOp
      simp [ha.ev hx, convert, run_underlying hu, run_underlying (hT.int he), markStringish, hsh]
    · intro i
      refine (cell_of_row _ g i ⟨xs.map vb⟩ e' ((xs.map vb).length, (xs.map vb).length + 1) ?_).trans (by simp)
      unfold World.freeze
      simp only [Nat.one_ne_zero, if_false]
      rw [Array.getElem?_modify]
      rw [if_pos rfl, hB1]
      simp
    · refine ⟨rfl, rfl, rfl, by simp [World.freeze], fun k _ hk => ?_⟩
      have hkg : g ≠ k := fun e => hk (by rw [e])
      simp [World.freeze, Array.getElem?_modify, hkg]) (fun v w' ⟨hv, h1, h2⟩ => by subst hv; exact hk w' h1 h2)

theorem abc : hexS (shaS [97, 98, 99]) = [98, 97, 55, 56, 49, 54, 98, 102, 56, 102, 48, 49, 99, 102, 101, 97, 52, 49, 52, 49, 52, 48, 100, 101, 53, 100, 97, 101, 50, 50, 50, 51, 98, 48, 48, 51, 54, 49, 97, 51, 57, 54, 49, 55, 55, 97, 57, 99, 98, 52, 49, 48, 102, 102, 54, 49, 102, 50, 48, 48, 49, 53, 97, 100] := by kernel_rfl
theorem shaS_len (b : List UInt8) : (shaS b).length = 32 := sumS_len _ _ _
theorem manyS_len (l : List (List UInt8)) : (manyS l).length = 32 := sumS_len _ _ _
theorem sfirst_fn (w : World) : Fn Tryd.prog 8 ⟨[]⟩ w fun v w' => v = .bool true ∧ w.grownBy w' none := by
  refine Fn.enter (by kernel_rfl) Tryd.func8 rfl Tryd.ntmps8 rfl ?_
  repeat (first | refine WC.seq ?_ | refine WC.block ?_ | refine WC.region ?_ | refine WL.nil ?_ | refine WX.then_normal ?_ | refine WC.skip ?_ | refine WC.exit ?_ | refine WC.ret ?_ | refine WX.then_exit ?_ | refine WX.then_ret ?_ | refine WX.block_normal ?_ | refine WX.block_ret ?_ | refine WX.block_same ?_ | refine WX.block_other rfl ?_ | refine WC.label ?_ | refine WC.scope ?_ | refine WX.scope_normal ?_ | refine WX.scope_ret ?_ | refine WX.scope_exit ?_ | refine WL.y rfl (Yld.add rfl rfl (by simp only [In]; omega)) ?_ | refine WL.y rfl (Yld.sub rfl rfl (by simp only [In]; omega)) ?_ | refine WL.y rfl (Yld.mul rfl rfl (by simp only [In]; omega)) ?_ | refine WL.y rfl (Yld.convB tab_ok rfl rfl rfl rfl) ?_ | refine WL.y rfl (Yld.conv tab_ok rfl rfl rfl (by simp only [In]; omega)) ?_ | refine WL.y rfl (Yld.quo rfl rfl (by omega) (by omega) (by simp only [In]; omega)) ?_ | refine WL.y rfl (Yld.rem rfl rfl (by omega) (by omega)) ?_ | refine WL.y rfl (Yld.shl rfl rfl (by omega)) ?_ | refine WL.y rfl (Yld.shr rfl rfl (by omega)) ?_ | refine WL.y rfl (Yld.pure tab_ok rfl) ?_)
  refine WL.lit (us := ([97, 98, 99] : List UInt8).map vb) tab_ok rfl rfl rfl (oneM One.b _) rfl (by omega) (fun g w1 hL1 hg1 hl1 => ?_)
  refine WL.b2b tab_ok rfl rfl rfl hL1 rfl (fun w2 hc2 hg2 => ?_)
  have hR2 : Rd vb w2 (some ⟨g, 0, none⟩) 3 [97, 98, 99] := ⟨by simp, by simp [maxLen], fun _ => ⟨_, rfl, fun j x hj => by rw [Addr.add_mid, Nat.zero_add, hc2, List.getElem?_map, hj]; rfl⟩⟩
  have hgr2 : w.grownBy w2 none := gr_new hg1 hg2 hl1
  refine WL.call rfl rfl (of_fn _ _ [97, 98, 99] w2 hR2 (by simp)) ?_
  rintro _ w3 ⟨rfl, hg3⟩
  refine WL.call rfl rfl (text_fn _ w3 (shaS_len _)) ?_
  rintro _ w4 ⟨rfl, hg4⟩
  rw [abc]
  repeat (first | refine WC.seq ?_ | refine WC.block ?_ | refine WC.region ?_ | refine WL.nil ?_ | refine WX.then_normal ?_ | refine WC.skip ?_ | refine WC.exit ?_ | refine WC.ret ?_ | refine WX.then_exit ?_ | refine WX.then_ret ?_ | refine WX.block_normal ?_ | refine WX.block_ret ?_ | refine WX.block_same ?_ | refine WX.block_other rfl ?_ | refine WC.label ?_ | refine WC.scope ?_ | refine WX.scope_normal ?_ | refine WX.scope_ret ?_ | refine WX.scope_exit ?_ | refine WL.y rfl (Yld.add rfl rfl (by simp only [In]; omega)) ?_ | refine WL.y rfl (Yld.sub rfl rfl (by simp only [In]; omega)) ?_ | refine WL.y rfl (Yld.mul rfl rfl (by simp only [In]; omega)) ?_ | refine WL.y rfl (Yld.convB tab_ok rfl rfl rfl rfl) ?_ | refine WL.y rfl (Yld.conv tab_ok rfl rfl rfl (by simp only [In]; omega)) ?_ | refine WL.y rfl (Yld.quo rfl rfl (by omega) (by omega) (by simp only [In]; omega)) ?_ | refine WL.y rfl (Yld.rem rfl rfl (by omega) (by omega)) ?_ | refine WL.y rfl (Yld.shl rfl rfl (by omega)) ?_ | refine WL.y rfl (Yld.shr rfl rfl (by omega)) ?_ | refine WL.y rfl (Yld.pure tab_ok rfl) ?_)
  exact WX.ret1 rfl rfl ⟨rfl, gr_trans (gr_trans hgr2 hg3) hg4⟩

/-! the law of streaming -/
def D (hs : List Int) (all : List UInt8) : List Int × List UInt8 := absorb all.length hs all
theorem absorb_fuel (hs : List Int) (all : List UInt8) : ∀ m, all.length ≤ m → absorb m hs all = D hs all := by
  intro m
  induction m with
  | zero => intro h; unfold D; rw [Nat.le_zero.mp h]
  | succ m ih =>
    intro h
    rcases Nat.lt_or_ge m all.length with h1 | h1
    · unfold D; rw [show all.length = m + 1 by omega]
    · rw [absorb_more m hs all h1]; exact ih h1
theorem D_step (hs : List Int) (all : List UInt8) : D hs all = if 64 ≤ all.length then D (mixS hs (all.take 64)) (all.drop 64) else (hs, all) := by
  have e := absorb_fuel hs all (all.length + 1) (by omega)
  rw [← e, absorb]
  split
  · exact absorb_fuel _ _ _ (by rw [List.length_drop]; omega)
  · rfl
theorem D_app (y : List UInt8) : ∀ (n : Nat) (hs : List Int) (x : List UInt8), x.length ≤ n → D hs (x ++ y) = D (D hs x).1 ((D hs x).2 ++ y)
  | 0, hs, x, h => by
    have : x = [] := List.length_eq_zero_iff.mp (by omega)
    subst this
    rfl
  | n + 1, hs, x, h => by
    rcases Nat.lt_or_ge x.length 64 with h1 | h1
    · rw [D_step hs x, if_neg (by omega)]
    · rw [D_step hs (x ++ y), if_pos (by rw [List.length_append]; omega), D_step hs x, if_pos h1, List.take_append_of_le_length h1, List.drop_append_of_le_length h1]
      exact D_app y n _ _ (by rw [List.length_drop]; omega)
theorem wrS_app (hs : List Int) (r a b : List UInt8) : wrS hs r (a ++ b) = wrS (wrS hs r a).1 (wrS hs r a).2 b := by
  show D hs (r ++ (a ++ b)) = D (D hs (r ++ a)).1 ((D hs (r ++ a)).2 ++ b)
  rw [← List.append_assoc]
  exact D_app b _ hs (r ++ a) (Nat.le_refl _)
theorem wrS_nil (hs : List Int) (r : List UInt8) (h : r.length < 64) : wrS hs r [] = (hs, r) := by
  show D hs (r ++ []) = _
  rw [List.append_nil, D_step, if_neg (by omega)]
/-- the bytes of texts, each behind its length -/
def catM (l : List (List UInt8)) : List UInt8 := l.flatMap fun x => be4 x.length ++ x
theorem catM_app (a b : List (List UInt8)) : catM (a ++ b) = catM a ++ catM b := by simp [catM]
theorem fold_catM : ∀ (l : List (List UInt8)) (hs : List Int) (r : List UInt8) (n : Int), r.length < 64 → l.foldl stepM (hs, r, n) = ((wrS hs r (catM l)).1, (wrS hs r (catM l)).2, n + (catM l).length)
  | [], hs, r, n, h => by simp [catM, wrS_nil hs r h]
  | x :: l, hs, r, n, h => by
    rw [List.foldl_cons]
    show l.foldl stepM ((wrS (wrS hs r (be4 x.length)).1 (wrS hs r (be4 x.length)).2 x).1, (wrS (wrS hs r (be4 x.length)).1 (wrS hs r (be4 x.length)).2 x).2, n + 4 + x.length) = _
    rw [fold_catM l _ _ _ (wrS_len _ _ _), ← wrS_app, ← wrS_app]
    have e : catM (x :: l) = be4 x.length ++ x ++ catM l := rfl
    have hb : (be4 x.length).length = 4 := rfl
    rw [e, List.length_append, List.length_append, hb]
    congr 2
    omega
/-- THE PLAIN LAW -/
theorem manyS_eq (l : List (List UInt8)) : manyS l = shaS (catM l) := by
  unfold manyS shaS
  rw [fold_catM l h0s [] 0 (by simp)]
  simp
theorem catM_take (l : List (List UInt8)) (i : Nat) (h : i < l.length) : catM (l.take (i + 1)) = catM (l.take i) ++ (be4 (l.getD i []).length ++ l.getD i []) := by
  rw [List.take_succ_eq_append_getElem h, catM_app]
  simp [catM, List.getD, h]
theorem be4_small : ∀ n : Nat, n ≤ 100 → be4 n = [0, 0, 0, u8v (n : Int)] := by
  intro n h
  have : ∀ k : Fin 101, be4 k.val = [0, 0, 0, u8v (k.val : Int)] := by decide
  exact this ⟨n, by omega⟩
end Go.Proofs.YtfibkajdahaggaaDoor
