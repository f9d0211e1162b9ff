/- Texts of this claim, joined by a program: GPv, DwA, RevV, DwB. -/
import Derived.Test.YtofenpiiihhigaaDoorJ2
import Derived.LaidEql
/- Printed by a program (wip/vg): what the functions mean, plainly, and their walks. -/
namespace Go.Proofs.YtofenpiiihhigaaDoor
open Go Go.RowKit
attribute [local irreducible] WL WC WX WQ WK WJ Yld Eff Ef0 Fn
def M_pval_printer_full (p_b : List UInt8) (K : Bool → Prop) : Prop :=
 (p_b.length ≤ maxLen →
 K (decide ((65536 : Int) ≤ (p_b.length : Int))))

def M_pval_printer_put (p_b : List UInt8) (l : List (List UInt8)) (K : (List UInt8) → Prop) : Prop :=
 (p_b.length ≤ maxLen →
 (l.length ≤ maxLen →
 Lp2 (fun (t8 : Int) (p0 : List UInt8) kont1 => ((t8 < (l.length : Int) → (0 ≤ t8 ∧ t8 < (l.length : Nat)) ∧
 (In .i64 ((65536 : Int) - (p0.length : Int))) ∧
 (0 ≤ (if ((65536 : Int) - (p0.length : Int)) < ((l.getD t8.toNat []).length : Int) then (65536 : Int) - (p0.length : Int) else ((l.getD t8.toNat []).length : Int)) ∧ (if ((65536 : Int) - (p0.length : Int)) < ((l.getD t8.toNat []).length : Int) then (65536 : Int) - (p0.length : Int) else ((l.getD t8.toNat []).length : Int)) ≤ (l.getD t8.toNat []).length) ∧
 ((p0.length + ((l.getD t8.toNat []).take (if ((65536 : Int) - (p0.length : Int)) < ((l.getD t8.toNat []).length : Int) then (65536 : Int) - (p0.length : Int) else ((l.getD t8.toNat []).length : Int)).toNat).length) * 1 ≤ 140737488355328) ∧
 (In .i64 (t8 + (1 : Int))) ∧
 kont1 (t8 + (1 : Int)) (p0 ++ ((l.getD t8.toNat []).take (if ((65536 : Int) - (p0.length : Int)) < ((l.getD t8.toNat []).length : Int) then (65536 : Int) - (p0.length : Int) else ((l.getD t8.toNat []).length : Int)).toNat))) ∧
 (¬ (t8 < (l.length : Int)) → K p0))) (0 : Int) p_b))

def M_pval_printer_repr (p_b : List UInt8) (v : PV) (deep : Int) (K : (List UInt8) → Prop) : Prop :=
 (p_b.length ≤ maxLen →
 M_pval_printer_full p_b (fun (t17 : Bool) =>
 ((t17 = true → K p_b) ∧
 (t17 = false → (v ≠ PV.none) ∧
 ((∀ z : Int, v = PV.int z → M_num_Num_Text z 3 (fun (t41 : List UInt8) =>
 M_pval_printer_put p_b ([t41] : List (List UInt8)) (fun (p_ : List UInt8) =>
 K p_))) ∧
 ((∀ z, v ≠ PV.int z) → False))))))

def M_pval_printer_items (p_b : List UInt8) (l : List PV) (deep : Int) (K : (List UInt8) → Prop) : Prop :=
 (p_b.length ≤ maxLen →
 (l.length ≤ maxLen →
 Lp2 (fun (t10 : Int) (p0 : List UInt8) kont1 => ((t10 < (l.length : Int) → (0 ≤ t10 ∧ t10 < (l.length : Nat)) ∧
 M_pval_printer_full p0 (fun (t16 : Bool) =>
 ((t16 = true → K p0) ∧
 (t16 = false → ∃ J1 : (List UInt8) → Prop, ((((0 : Int) < t10 → M_pval_printer_put p0 ([([44, 32] : List UInt8)] : List (List UInt8)) (fun (p_2 : List UInt8) =>
 J1 p_2)) ∧
 (¬ ((0 : Int) < t10) → J1 p0))) ∧
 (∀ p02 : List UInt8, J1 p02 → M_pval_printer_repr p02 (l.getD t10.toNat PV.nil) deep (fun (p_ : List UInt8) =>
 (In .i64 (t10 + (1 : Int))) ∧
 kont1 (t10 + (1 : Int)) p_)))))) ∧
 (¬ (t10 < (l.length : Int)) → K p0))) (0 : Int) p_b))

def M_pval_printer_parts (p_b : List UInt8) (v : PV) (deep : Int) (K : (List UInt8) → Prop) : Prop :=
 (p_b.length ≤ maxLen →
 (((60 : Int) ≤ deep → M_pval_printer_put p_b ([([46, 46, 46] : List UInt8)] : List (List UInt8)) (fun (p_ : List UInt8) =>
 K p_)) ∧
 (¬ ((60 : Int) ≤ deep) → ((v = PV.emp → M_pval_printer_put p_b ([([91] : List UInt8)] : List (List UInt8)) (fun (p_2 : List UInt8) =>
 (In .i64 (deep + (1 : Int))) ∧
 M_pval_printer_items p_2 ([] : List PV) (deep + (1 : Int)) (fun (p_3 : List UInt8) =>
 M_pval_printer_put p_3 ([([93] : List UInt8)] : List (List UInt8)) (fun (p_4 : List UInt8) =>
 K p_4)))) ∧
 (v ≠ PV.emp → ((∀ l : List Int, v = PV.tup l → M_pval_printer_put p_b ([([40] : List UInt8)] : List (List UInt8)) (fun (p_5 : List UInt8) =>
 (In .i64 (deep + (1 : Int))) ∧
 M_pval_printer_items p_5 (l.map PV.int) (deep + (1 : Int)) (fun (p_6 : List UInt8) =>
 ∃ J1 : (List UInt8) → Prop, (((((l.map PV.int).length : Int) = (1 : Int) → M_pval_printer_put p_6 ([([44] : List UInt8)] : List (List UInt8)) (fun (p_8 : List UInt8) =>
 J1 p_8)) ∧
 (¬ (((l.map PV.int).length : Int) = (1 : Int)) → J1 p_6))) ∧
 (∀ p0 : List UInt8, J1 p0 → M_pval_printer_put p0 ([([41] : List UInt8)] : List (List UInt8)) (fun (p_7 : List UInt8) =>
 K p_7))))) ∧
 ((∀ l, v ≠ PV.tup l) → K p_b)))))))

def M_val_printer_reprT (p_b : List UInt8) (v : PV) (deep : Int) (K : (List UInt8) → Prop) : Prop :=
 (p_b.length ≤ maxLen →
 M_pval_printer_full p_b (fun (t17 : Bool) =>
 ((t17 = true → K p_b) ∧
 (t17 = false → (v ≠ PV.none) ∧
 ((∀ z : Int, v = PV.int z → M_num_Num_Text z 3 (fun (t41 : List UInt8) =>
 M_pval_printer_put p_b ([t41] : List (List UInt8)) (fun (p_ : List UInt8) =>
 K p_))) ∧
 ((∀ z, v ≠ PV.int z) → M_pval_printer_parts p_b v deep (fun (p_2 : List UInt8) =>
 K p_2)))))))

def M_val_Repr (v : PV) (K : (List UInt8) → Prop) : Prop :=
 M_val_printer_reprT [] v (0 : Int) (fun (t5_ : List UInt8) =>
 K t5_)

def M_pval_keyer_key (k_b : List UInt8) (k_left : Int) (v : PV) (deep : Int) (K : Er → (List UInt8) → Int → Prop) : Prop :=
 (k_b.length ≤ maxLen →
 (In .i64 (k_left - (1 : Int))) ∧
 (((k_left - (1 : Int)) < (0 : Int) → K (Er.e 7) k_b (k_left - (1 : Int))) ∧
 (¬ ((k_left - (1 : Int)) < (0 : Int)) → ∃ J1 : (List UInt8) → Prop, ((v ≠ PV.none) ∧
 ((∀ z : Int, v = PV.int z → ((k_b.length + (([73] : List UInt8)).length) * 1 ≤ 140737488355328) ∧
 M_num_Num_Text z 3 (fun (t83 : List UInt8) =>
 (((k_b ++ ([73] : List UInt8)).length + t83.length) * 1 ≤ 140737488355328) ∧
 J1 ((k_b ++ ([73] : List UInt8)) ++ t83))) ∧
 ((∀ z, v ≠ PV.int z) → ((∀ l : List Int, v = PV.tup l → (((60 : Int) ≤ deep → K (Er.e 7) k_b (k_left - (1 : Int))) ∧
 (¬ ((60 : Int) ≤ deep) → ((k_b.length + (([84] : List UInt8)).length) * 1 ≤ 140737488355328) ∧
 Lp1 (fun (t147 : Int) kont1 => ((t147 < ((l.map PV.int).length : Int) → (0 ≤ t147 ∧ t147 < ((l.map PV.int).length : Nat)) ∧
 (In .i64 (deep + (1 : Int))) ∧
 False) ∧
 (¬ (t147 < ((l.map PV.int).length : Int)) → (((k_b ++ ([84] : List UInt8)).length + (([69] : List UInt8)).length) * 1 ≤ 140737488355328) ∧
 J1 ((k_b ++ ([84] : List UInt8)) ++ ([69] : List UInt8))))) (0 : Int)))) ∧
 ((∀ l, v ≠ PV.tup l) → K (Er.e 3) k_b (k_left - (1 : Int))))))) ∧
 (∀ k0 : List UInt8, J1 k0 → ((k0.length + (([59] : List UInt8)).length) * 1 ≤ 140737488355328) ∧
 K Er.ok (k0 ++ ([59] : List UInt8)) (k_left - (1 : Int))))))

def M_val_Key (v : PV) (K : (List UInt8) → Er → Prop) : Prop :=
 M_pval_keyer_key [] (4096 : Int) v (0 : Int) (fun (err : Er) (t7_ : List UInt8) (t7_2 : Int) =>
 ((¬ (err = Er.ok) → K ([] : List UInt8) err) ∧
 (err = Er.ok → K t7_ Er.ok)))

def M_val_weight (v : PV) (most : Int) (K : Int → Prop) : Prop :=
 ∃ J1 : (List PV) → Prop, (((v = PV.emp → J1 ([] : List PV)) ∧
 (v ≠ PV.emp → ((∀ l2 : List Int, v = PV.tup l2 → J1 (l2.map PV.int)) ∧
 ((∀ l, v ≠ PV.tup l) → J1 []))))) ∧
 (∀ l : List PV, J1 l → Lp2 (fun (n : Int) (t63 : Int) kont1 => ((t63 < (l.length : Int) → (0 ≤ t63 ∧ t63 < (l.length : Nat)) ∧
 ((most < n → K n) ∧
 (¬ (most < n) → (In .i64 (most - n)) ∧
 False))) ∧
 (¬ (t63 < (l.length : Int)) → K n))) (1 : Int) (0 : Int))

def M_val_Light (most : Int) (l : List PV) (K : Bool → Prop) : Prop :=
 (l.length ≤ maxLen →
 Lp2 (fun (most2 : Int) (t9 : Int) kont1 => ((t9 < (l.length : Int) → (0 ≤ t9 ∧ t9 < (l.length : Nat)) ∧
 M_val_weight (l.getD t9.toNat PV.nil) most2 (fun (t16 : Int) =>
 (In .i64 (most2 - t16)) ∧
 (((most2 - t16) < (0 : Int) → K false) ∧
 (¬ ((most2 - t16) < (0 : Int)) → (In .i64 (t9 + (1 : Int))) ∧
 kont1 (most2 - t16) (t9 + (1 : Int)))))) ∧
 (¬ (t9 < (l.length : Int)) → K true))) most (0 : Int))

def M_slices_Clone_val_Value_val_Value (s : List PV) (K : (List PV) → Prop) : Prop :=
 (s.length ≤ maxLen →
 ((s = [] → K []) ∧
 ((((([] : List PV)).length + s.length) * 16 ≤ 140737488355328) ∧
 K (([] : List PV) ++ s))))

def M_slices_Clone_pdeps_Set_pdeps_Set (s : List PS) (K : (List PS) → Prop) : Prop :=
 (s.length ≤ maxLen →
 ((s = [] → K []) ∧
 ((((([] : List PS)).length + s.length) * 8 ≤ 140737488355328) ∧
 K (([] : List PS) ++ s))))

set_option maxHeartbeats 8000000 in
theorem W_pval_printer_full {w : World} {g_p : Nat} {p_b : List UInt8} {A_p_b : Option Addr} {c_p_b : Nat} {n_p_b : Nat} {K : Bool → Prop} (hp_b : Rd vb w A_p_b c_p_b p_b) (hn_p_b : n_p_b = p_b.length) (hp : Bl w g_p 88 [.slice A_p_b n_p_b c_p_b]) (H : M_pval_printer_full p_b K) : Fn Tryd.prog 58 ⟨[.pointer (some ⟨g_p, 0, none⟩)]⟩ w (fun v w' => w = w' ∧ ∃ (r : Bool), v = .bool r ∧ K r) := by
  subst hn_p_b
  unfold M_pval_printer_full at H
  refine Fn.enter (by kernel_rfl) Tryd.func58 rfl Tryd.ntmps58 rfl ?_
  replace H := H (Nat.le_trans hp_b.cap hp_b.max)
  refine WC.seq ?_
  refine WC.region ?_
  refine WL.y rfl (Yld.pure tab_ok rfl) ?_
  refine WL.nil (WX.then_normal ?_)
  refine WC.seq ?_
  refine WC.region ?_
  refine WL.y rfl (Yld.pure tab_ok rfl) ?_
  refine WL.y rfl (Yld.pure tab_ok rfl) ?_
  refine WL.y rfl (Yld.pure tab_ok rfl) ?_
  refine WL.y rfl (Yld.bload tab_ok hp rfl rfl rfl) ?_
  refine WL.y rfl (Yld.pure tab_ok rfl) ?_
  refine WL.y rfl (Yld.pure tab_ok rfl) ?_
  refine WL.y rfl (Yld.pure tab_ok rfl) ?_
  refine WL.nil (WX.then_normal ?_)
  refine WC.ret ?_
  exact WX.ret1 rfl rfl ⟨rfl, decide ((65536 : Int) ≤ (p_b.length : Int)), rfl, H⟩

set_option maxHeartbeats 8000000 in
theorem W_pval_printer_put {w : World} {g_p : Nat} {p_b : List UInt8} {A_p_b : Option Addr} {c_p_b : Nat} {l : List (List UInt8)} {A_l : Option Addr} {c_l : Nat} {n_p_b : Nat} {n_l : Nat} {K : (List UInt8) → Prop} (hp_b : Own vb w 0 5 A_p_b c_p_b p_b) (hn_p_b : n_p_b = p_b.length) (hp : Bl w g_p 88 [.slice A_p_b n_p_b c_p_b]) (hl : Rd vs w A_l c_l l) (hn_l : n_l = l.length) (hdj0_1 : Dj (some g_p) (blk A_p_b)) (hap0 : AllP (Dn l (blk A_l)) [(some g_p), (blk A_p_b)]) (H : M_pval_printer_put p_b l K) : Fn Tryd.prog 59 ⟨[.pointer (some ⟨g_p, 0, none⟩), .slice A_l n_l c_l]⟩ w (fun v w' => GrL [(some g_p), (blk A_p_b)] w w' ∧ ∃ (p_b2 : List UInt8), ∃ (A_p_b2 : Option Addr), ∃ (c_p_b2 : Nat), v = .tuple #[] ∧ Bl w' g_p 88 [.slice A_p_b2 p_b2.length c_p_b2] ∧ Own vb w' 0 5 A_p_b2 c_p_b2 p_b2 ∧ InP [(some g_p), (blk A_p_b)] w.heap.size (blk A_p_b2) ∧ Dj (some g_p) (blk A_p_b2) ∧ K p_b2) := by
  subst hn_p_b
  subst hn_l
  unfold M_pval_printer_put at H
  refine Fn.enter (by kernel_rfl) Tryd.func59 rfl Tryd.ntmps59 rfl ?_
  replace H := H (Nat.le_trans hp_b.rd.cap hp_b.rd.max)
  replace H := H (Nat.le_trans hl.cap hl.max)
  have hNoAt : AllP (NoAt w) [(some g_p), (blk A_p_b)] := (apC (NoAt.bl hp rfl) (apC (NoAt.own hp_b rfl) apN))
  refine WC.seq ?_
  refine WC.region ?_
  refine WL.y rfl (Yld.pure tab_ok rfl) ?_
  refine WL.y rfl (Yld.pure tab_ok rfl) ?_
  refine WL.y rfl (Yld.pure tab_ok rfl) ?_
  refine WL.nil (WX.then_normal ?_)
  refine WC.block ?_
  obtain ⟨I1, mu1, h0_1, HR1⟩ := H
  refine WC.loopF (fun n' L' w' => ∃ (t8 : Int), ∃ (p0 : List UInt8), ∃ (A_p0 : Option Addr), ∃ (c_p0 : Nat), ∃ (n_p0 : Nat), n' = mu1 t8 p0 ∧ L' = [(0, .pointer (some ⟨g_p, 0, none⟩)), (6, .slice A_l l.length c_l), (7, .int .i64 (l.length : Int)), (8, .int .i64 t8)] ∧ I1 t8 p0 ∧ n_p0 = p0.length ∧ GrL [(some g_p), (blk A_p_b)] w w' ∧ Bl w' g_p 88 [.slice A_p0 n_p0 c_p0] ∧ Own vb w' 0 5 A_p0 c_p0 p0 ∧ Dj (some g_p) (blk A_p0) ∧ InP [(some g_p), (blk A_p_b)] w.heap.size (blk A_p0)) _ _ ⟨(0 : Int), p_b, A_p_b, c_p_b, p_b.length, rfl, rfl, h0_1, rfl, (GrL.refl _), hp, hp_b, hdj0_1, (InP.mem (List.Mem.tail _ (List.Mem.head _)))⟩ (by repeat (first | exact Sub.nil | refine Sub.cons rfl ?_)) ?_
  clear h0_1
  rintro _ _ w1 ⟨t8, p0, A_p0, c_p0, n_p0, rfl, rfl, hI1, rfl, gr1, k1, k2, dj1, hi1⟩
  have H := HR1 t8 p0 hI1
  refine WC.seq ?_
  refine WC.region ?_
  refine WL.y rfl (Yld.pure tab_ok rfl) ?_
  refine WL.nil (WX.then_normal ?_)
  refine WC.seq ?_
  refine WC.cond rfl (fun b1 => ?_) (fun b1 => ?_)
  · replace H := H.1 (of_decide_eq_true b1)
    refine WC.skip (WX.then_normal ?_)
    refine WC.seq ?_
    refine WC.block ?_
    refine WC.seq ?_
    refine WC.region ?_
    obtain ⟨h1, H⟩ := H
    refine WL.y rfl (Yld.iaddrW tab_ok (hl.goL gr1 hap0) rfl rfl rfl rfl h1.1 h1.2) ?_
    refine WL.y rfl (Yld.iload [] tab_ok (hl.goL gr1 hap0) rfl rfl (iltN h1 rfl)) ?_
    refine WL.y rfl (Yld.pure tab_ok rfl) ?_
    refine WL.nil (WX.then_normal ?_)
    refine WC.chainF (fun k => !(Nat.beq k 16 || Nat.beq k 19)) (LD [4, 11] (fun w' => Bl w' g_p 88 [.slice A_p0 p0.length c_p0])) mixed (by kernel_rfl) (fun k w' h _ => (bl_eqv h k1)) ?_
    refine WJ.y rfl rfl (fun w' hw' => Yld.pure tab_ok rfl) ?_
    refine WJ.y rfl rfl (fun w' hw' => Yld.pure tab_ok rfl) ?_
    refine WJ.y rfl rfl (fun w' hw' => Yld.pure tab_ok rfl) ?_
    refine WJ.y rfl rfl (fun w' hw' => Yld.pure tab_ok rfl) ?_
    refine WJ.y rfl rfl (fun w' hw' => Yld.bload tab_ok (hw' rfl) rfl rfl rfl) ?_
    refine WJ.y rfl rfl (fun w' hw' => Yld.pure tab_ok rfl) ?_
    refine WJ.y rfl rfl (fun w' hw' => Yld.pure tab_ok rfl) ?_
    refine WJ.y rfl rfl (fun w' hw' => Yld.pure tab_ok rfl) ?_
    refine WJ.y rfl rfl (fun w' hw' => Yld.pure tab_ok rfl) ?_
    refine WJ.y rfl rfl (fun w' hw' => Yld.pure tab_ok rfl) ?_
    refine WJ.y rfl rfl (fun w' hw' => Yld.pure tab_ok rfl) ?_
    refine WJ.y rfl rfl (fun w' hw' => Yld.bload tab_ok (hw' rfl) rfl rfl rfl) ?_
    refine WJ.y rfl rfl (fun w' hw' => Yld.pure tab_ok rfl) ?_
    obtain ⟨h2, H⟩ := H
    refine WJ.y rfl rfl (fun w' hw' => Yld.sub rfl rfl h2) ?_
    refine WJ.y rfl rfl (fun w' hw' => Yld.min2 rfl rfl) ?_
    obtain ⟨h3, H⟩ := H
    refine WJ.y rfl rfl (fun w' hw' => Yld.scut tab_ok rfl rfl rfl rfl (Int.le_refl 0) h3.1 h3.2) ?_
    obtain ⟨h4, H⟩ := H
    refine WJ.putw rfl (wants_none) rfl (Eff.appendS tab_ok rfl rfl k2 rfl rfl rfl h4 (applen h4) (Nat.zero_le _)) (fun v w' ⟨_, _, _, _, h, _⟩ => DD.keep (Bl.go k1 (gr_eqv h (Eqv.refl _)) dj1)) ?_
    rintro _ w2 ⟨A_t28, c_t28, rfl, hO1, hg1, hk1⟩
    have gr2 : GrL [(some g_p), (blk A_p_b)] w w2 := GrL.mod gr1 hg1 hi1
    have k3 := k1.go hg1 dj1
    refine WJ.y rfl rfl (fun w' hw' => Yld.pure tab_ok rfl) ?_
    refine WJ.y rfl rfl (fun w' hw' => Yld.pure tab_ok rfl) ?_
    refine WJ.eff rfl (Ef0.store1 one86 rfl rfl rfl k3 (by simp)) (fun w' h => DD.past (by kernel_rfl)) ?_
    rintro w3 ⟨hB2, hg2⟩
    have hB1 : Bl w3 g_p 88 [.slice A_t28 ((p0 ++ ((l.getD t8.toNat []).take (if ((65536 : Int) - (p0.length : Int)) < ((l.getD t8.toNat []).length : Int) then (65536 : Int) - (p0.length : Int) else ((l.getD t8.toNat []).length : Int)).toNat)).length) c_t28] := hB2
    have gr3 : GrL [(some g_p), (blk A_p_b)] w w3 := GrL.mod gr2 hg2 (InP.mem (List.Mem.head _))
    have k4 := hO1.go hg2 (Dj.app dj1.symm k1.lt' hk1)
    refine WJ.nil (WX.block_normal (WX.then_normal ?_))
    refine WC.region ?_
    obtain ⟨h5, H⟩ := H
    refine WL.y rfl (Yld.add rfl rfl h5) ?_
    refine WL.y rfl (Yld.pure tab_ok rfl) ?_
    refine WL.nil ?_
    exact WX.roundF _ ⟨t8 + (1 : Int), p0 ++ ((l.getD t8.toNat []).take (if ((65536 : Int) - (p0.length : Int)) < ((l.getD t8.toNat []).length : Int) then (65536 : Int) - (p0.length : Int) else ((l.getD t8.toNat []).length : Int)).toNat), A_t28, c_t28, (p0 ++ ((l.getD t8.toNat []).take (if ((65536 : Int) - (p0.length : Int)) < ((l.getD t8.toNat []).length : Int) then (65536 : Int) - (p0.length : Int) else ((l.getD t8.toNat []).length : Int)).toNat)).length, rfl, rfl, H.1, rfl, gr3, hB1, k4, (Dj.app dj1.symm k1.lt' hk1).symm, (InP.app hi1 hk1 (GrL.sizeL gr1))⟩ (by repeat (first | exact Sub.nil | refine Sub.cons rfl ?_)) H.2
  · replace H := H.2 (of_decide_eq_false b1)
    refine WC.exit (WX.then_exit (WX.then_exit (WX.block_same ?_)))
    exact WX.end0 rfl ⟨gr1, p0, A_p0, c_p0, rfl, k1, k2, hi1, dj1, H⟩

set_option maxHeartbeats 8000000 in
theorem W_pval_printer_repr {w : World} {g_p : Nat} {p_b : List UInt8} {A_p_b : Option Addr} {c_p_b : Nat} {v_v : OV} {F_v : Nat → Prop} {v : PV} {deep : Int} {n_p_b : Nat} {K : (List UInt8) → Prop} (hp_b : Own vb w 0 5 A_p_b c_p_b p_b) (hn_p_b : n_p_b = p_b.length) (hp : Bl w g_p 88 [.slice A_p_b n_p_b c_p_b]) (hv : RelD deV w [(v_v, F_v)] [v]) (hdj0_1 : Dj (some g_p) (blk A_p_b)) (hap0 : AllP (DnD deV [(v_v, F_v)] [v]) [(some g_p), (blk A_p_b)]) (H : M_pval_printer_repr p_b v deep K) : Fn Tryd.prog 36 ⟨[.pointer (some ⟨g_p, 0, none⟩), v_v.1, .int .i64 deep]⟩ w (fun v w' => GrL [(some g_p), (blk A_p_b)] w w' ∧ ∃ (p_b2 : List UInt8), ∃ (A_p_b2 : Option Addr), ∃ (c_p_b2 : Nat), v = .tuple #[] ∧ Bl w' g_p 88 [.slice A_p_b2 p_b2.length c_p_b2] ∧ Own vb w' 0 5 A_p_b2 c_p_b2 p_b2 ∧ InP [(some g_p), (blk A_p_b)] w.heap.size (blk A_p_b2) ∧ Dj (some g_p) (blk A_p_b2) ∧ K p_b2) := by
  subst hn_p_b
  unfold M_pval_printer_repr at H
  refine Fn.enter (by kernel_rfl) Tryd.func36 rfl Tryd.ntmps36 rfl ?_
  replace H := H (Nat.le_trans hp_b.rd.cap hp_b.rd.max)
  have hNoAt : AllP (NoAt w) [(some g_p), (blk A_p_b)] := (apC (NoAt.bl hp rfl) (apC (NoAt.own hp_b rfl) apN))
  refine WC.seq ?_
  refine WC.seq ?_
  refine WC.region ?_
  refine WL.y rfl (Yld.pure tab_ok rfl) ?_
  refine WL.call rfl rfl (W_pval_printer_full hp_b.rd rfl hp H) ?_
  rintro _ _ ⟨rfl, t17, rfl, H⟩
  refine WL.nil (WX.then_normal ?_)
  refine WC.cond rfl (fun b1 => ?_) (fun b1 => ?_)
  · replace H := H.1 (b1)
    refine WC.ret (WX.then_ret ?_)
    exact WX.ret0 rfl ⟨(GrL.refl _), p_b, A_p_b, c_p_b, rfl, hp, hp_b, (InP.mem (List.Mem.tail _ (List.Mem.head _))), hdj0_1, H⟩
  · replace H := H.2 (b1)
    refine WC.skip (WX.then_normal ?_)
    refine WC.seq ?_
    refine WC.region ?_
    refine WL.y rfl (Yld.pure tab_ok rfl) ?_
    refine WL.nil (WX.then_normal ?_)
    refine WC.block ?_
    refine WC.seq ?_
    refine WC.region ?_
    obtain ⟨h1, H⟩ := H
    refine WL.y rfl (assertNoV (z := .agg ⟨[]⟩) Tryd.underlying101 rfl (fun _ => by kernel_rfl) hv rfl (tyP_none h1)) ?_
    refine WL.y rfl (Yld.pure tab_ok rfl) ?_
    refine WL.y rfl (Yld.pure tab_ok rfl) ?_
    refine WL.nil (WX.then_normal ?_)
    refine WC.cond rfl (fun h => by cases h) (fun _ => ?_)
    refine WC.seq ?_
    refine WC.region ?_
    refine WL.y rfl (assertNoV (z := .bool false) Tryd.underlying125 rfl (fun _ => by kernel_rfl) hv rfl (tyP_no rfl v)) ?_
    refine WL.y rfl (Yld.pure tab_ok rfl) ?_
    refine WL.y rfl (Yld.pure tab_ok rfl) ?_
    refine WL.nil (WX.then_normal ?_)
    refine WC.cond rfl (fun h => by cases h) (fun _ => ?_)
    refine WC.seq ?_
    refine WC.region ?_
    rcases PV.intCases v with ⟨z, he1⟩ | he1
    · replace H := H.1 z he1
      obtain ⟨a, b, hv1, hN1, one1, one2, hL1⟩ := VR.intOut hv he1
      refine WL.y rfl (assertYesV Tryd.underlying128 rfl rfl hv1) ?_
      refine WL.y rfl (Yld.pure tab_ok rfl) ?_
      refine WL.y rfl (Yld.pure tab_ok rfl) ?_
      refine WL.nil (WX.then_normal ?_)
      refine WC.cond rfl (fun _ => ?_) (fun h => by cases h)
      refine WC.seq ?_
      refine WC.region ?_
      refine WL.alloc rfl zero128 (fun g1 w1 hB1 hg1 hl1 => ?_)
      have gr1 := (GrL.of0 (ps := [(some g_p), (blk A_p_b)]) hg1)
      have k1 := hp_b.grown hg1
      have k2 := hp.g0 hg1
      have k3 := hN1.grown hg1
      refine WL.storeW (vs := [a, b]) tab_ok rfl rfl rfl (all1c one1 (all1c one2 all1n)) hB1 rfl rfl (fun w2 hB2 hg2 => ?_)
      have gr2 : GrL [(some g_p), (blk A_p_b)] w w2 := GrL.mod gr1 hg2 (InP.ge (Ge.le (Ge.box hl1) (Nat.le_refl _)))
      have k4 := k1.go hg2 (Dj.new hp_b.lt' (Ge.box hl1))
      have k5 := k2.go hg2 (Dj.new hp.lt' (Ge.box hl1))
      have k6 := Nm.goV k3 hL1 (GrL.of1 hg2) (apC (DnD.one (hv.inp hap0 (InP.ge (Ge.le (Ge.box hl1) (Nat.le_refl _))))) apN)
      refine WL.nil (WX.then_normal ?_)
      refine WC.region ?_
      refine WL.y rfl (Yld.pure tab_ok rfl) ?_
      refine WL.y rfl (Yld.fa0 (o := 0) (by kernel_rfl) rfl) ?_
      refine WL.y rfl (Yld.bagg (vs := [a, b]) tab_ok hB2 rfl rfl rfl rfl) ?_
      refine WL.call rfl rfl (W_num_Num_Text k6 H) ?_
      rintro _ w3 ⟨hg3, t41, rfl, H⟩
      have gr3 := GrL.add0 gr2 hg3
      have k7 := k4.grown hg3
      have k8 := k5.g0 hg3
      refine WL.lit tab_ok rfl rfl rfl (all1c rfl all1n) rfl (by omega) (fun g2 w4 hB3 hg4 hl2 => ?_)
      have hO1 : Own vs w4 w.heap.size 9 (some ⟨g2, 0, none⟩) 1 ([t41] : List (List UInt8)) := Own.ofBl hB3 (Nat.le_trans (GrL.sizeL gr3) hl2) (by simp [maxLen]) rfl
      have gr4 := GrL.add0 gr3 hg4
      have k9 := k7.grown hg4
      have k10 := k8.g0 hg4
      refine WL.call rfl rfl (W_pval_printer_put k9 rfl k10 hO1.rd rfl hdj0_1 (apC (Dn.of (Dj.new k8.lt' (Ge.box hl2)).symm) (apC (Dn.of (Dj.new k7.lt' (Ge.box hl2)).symm) apN)) H) ?_
      rintro _ w5 ⟨hgl1, p_, A_p_, c_p_, rfl, hB4, hO2, hi1, dj1, H⟩
      have hi2 : InP [(some g_p), (blk A_p_b)] w.heap.size (blk A_p_) := InP.trans hi1 (apC (InP.mem (List.Mem.head _)) (apC (InP.mem (List.Mem.tail _ (List.Mem.head _))) apN)) (GrL.sizeL gr4)
      have gr5 : GrL [(some g_p), (blk A_p_b)] w w5 := GrL.modL gr4 hgl1 (apC (InP.mem (List.Mem.head _)) (apC (InP.mem (List.Mem.tail _ (List.Mem.head _))) apN))
      refine WL.nil (WX.block_normal ?_)
      exact WX.end0 rfl ⟨gr5, p_, A_p_, c_p_, rfl, hB4, hO2, hi2, dj1, H⟩
    · replace H := H.2 he1
      refine WL.y rfl (assertNoV (z := .agg ⟨[.bool false, .slice none 0 0]⟩) Tryd.underlying128 rfl (fun _ => by kernel_rfl) hv rfl (tyP_int he1)) ?_
      refine WL.y rfl (Yld.pure tab_ok rfl) ?_
      refine WL.y rfl (Yld.pure tab_ok rfl) ?_
      refine WL.nil (WX.then_normal ?_)
      refine WC.cond rfl (fun h => by cases h) (fun _ => ?_)
      refine WC.seq ?_
      refine WC.region ?_
      refine WL.y rfl (assertNoV (z := vs ([] : List UInt8)) Tryd.underlying129 rfl (fun _ => by kernel_rfl) hv rfl (tyP_no rfl v)) ?_
      refine WL.y rfl (Yld.pure tab_ok rfl) ?_
      refine WL.y rfl (Yld.pure tab_ok rfl) ?_
      refine WL.nil (WX.then_normal ?_)
      refine WC.cond rfl (fun h => by cases h) (fun _ => ?_)
      refine WC.seq ?_
      refine WC.region ?_
      refine WL.y rfl (assertNoI (z := .nilIface) Tryd.underlying132 (fun _ => by kernel_rfl) (by decide +kernel) hv rfl) ?_
      refine WL.y rfl (Yld.pure tab_ok rfl) ?_
      refine WL.y rfl (Yld.pure tab_ok rfl) ?_
      refine WL.nil (WX.then_normal ?_)
      refine WC.cond rfl (fun h => by cases h) (fun _ => ?_)
      refine WC.seq ?_
      refine WC.region ?_
      refine WL.y rfl (assertNoI (z := .nilIface) Tryd.underlying134 (fun _ => by kernel_rfl) (by decide +kernel) hv rfl) ?_
      refine WL.y rfl (Yld.pure tab_ok rfl) ?_
      refine WL.y rfl (Yld.pure tab_ok rfl) ?_
      refine WL.nil (WX.then_normal ?_)
      refine WC.cond rfl (fun h => by cases h) (fun _ => ?_)
      refine WC.seq ?_
      refine WC.region ?_
      refine WL.y rfl (assertNoI (z := .nilIface) Tryd.underlying137 (fun _ => by kernel_rfl) (by decide +kernel) hv rfl) ?_
      refine WL.y rfl (Yld.pure tab_ok rfl) ?_
      refine WL.y rfl (Yld.pure tab_ok rfl) ?_
      refine WL.nil (WX.then_normal ?_)
      refine WC.cond rfl (fun h => by cases h) (fun _ => ?_)
      refine WC.seq ?_
      refine WC.region ?_
      refine WL.y rfl (Yld.pure tab_ok rfl) ?_
      refine WL.nil (WX.then_normal ?_)
      refine WC.region ?_
      refine WL.y rfl (Yld.pure tab_ok rfl) ?_
      refine WL.y rfl (Yld.pure tab_ok rfl) ?_
      refine WL.y rfl (Yld.pure tab_ok rfl) ?_
      exact False.elim H

set_option maxHeartbeats 8000000 in
theorem W_pval_printer_items {w : World} {g_p : Nat} {p_b : List UInt8} {A_p_b : Option Addr} {c_p_b : Nat} {l : List PV} {A_l : Option Addr} {c_l : Nat} {hs_l : List VH} {deep : Int} {n_p_b : Nat} {n_l : Nat} {K : (List UInt8) → Prop} (hp_b : Own vb w 0 5 A_p_b c_p_b p_b) (hn_p_b : n_p_b = p_b.length) (hp : Bl w g_p 88 [.slice A_p_b n_p_b c_p_b]) (hl : Rd vv w A_l c_l hs_l) (hn_l : n_l = l.length) (hr_l : RelD deV w hs_l l) (hdj0_1 : Dj (some g_p) (blk A_p_b)) (hap0 : AllP (Dn hs_l (blk A_l)) [(some g_p), (blk A_p_b)]) (hap1 : AllP (DnD deV hs_l l) [(some g_p), (blk A_p_b)]) (H : M_pval_printer_items p_b l deep K) : Fn Tryd.prog 63 ⟨[.pointer (some ⟨g_p, 0, none⟩), .slice A_l n_l c_l, .int .i64 deep]⟩ w (fun v w' => GrL [(some g_p), (blk A_p_b)] w w' ∧ ∃ (p_b2 : List UInt8), ∃ (A_p_b2 : Option Addr), ∃ (c_p_b2 : Nat), v = .tuple #[] ∧ Bl w' g_p 88 [.slice A_p_b2 p_b2.length c_p_b2] ∧ Own vb w' 0 5 A_p_b2 c_p_b2 p_b2 ∧ InP [(some g_p), (blk A_p_b)] w.heap.size (blk A_p_b2) ∧ Dj (some g_p) (blk A_p_b2) ∧ K p_b2) := by
  subst hn_p_b
  subst hn_l
  unfold M_pval_printer_items at H
  refine Fn.enter (by kernel_rfl) Tryd.func63 rfl Tryd.ntmps63 rfl ?_
  replace H := H (Nat.le_trans hp_b.rd.cap hp_b.rd.max)
  replace H := H (by rw [← hr_l.1]; exact Nat.le_trans hl.cap hl.max)
  have hNoAt : AllP (NoAt w) [(some g_p), (blk A_p_b)] := (apC (NoAt.bl hp rfl) (apC (NoAt.own hp_b rfl) apN))
  refine WC.seq ?_
  refine WC.region ?_
  refine WL.y rfl (Yld.pure tab_ok rfl) ?_
  refine WL.y rfl (Yld.pure tab_ok rfl) ?_
  refine WL.y rfl (Yld.pure tab_ok rfl) ?_
  refine WL.nil (WX.then_normal ?_)
  refine WC.block ?_
  obtain ⟨I1, mu1, h0_1, HR1⟩ := H
  refine WC.loopF (fun n' L' w' => ∃ (t10 : Int), ∃ (p0 : List UInt8), ∃ (A_p0 : Option Addr), ∃ (c_p0 : Nat), ∃ (n_p0 : Nat), n' = mu1 t10 p0 ∧ L' = [(0, .pointer (some ⟨g_p, 0, none⟩)), (2, .int .i64 deep), (8, .slice A_l l.length c_l), (9, .int .i64 (l.length : Int)), (10, .int .i64 t10)] ∧ I1 t10 p0 ∧ n_p0 = p0.length ∧ GrL [(some g_p), (blk A_p_b)] w w' ∧ Bl w' g_p 88 [.slice A_p0 n_p0 c_p0] ∧ Own vb w' 0 5 A_p0 c_p0 p0 ∧ Dj (some g_p) (blk A_p0) ∧ InP [(some g_p), (blk A_p_b)] w.heap.size (blk A_p0)) _ _ ⟨(0 : Int), p_b, A_p_b, c_p_b, p_b.length, rfl, rfl, h0_1, rfl, (GrL.refl _), hp, hp_b, hdj0_1, (InP.mem (List.Mem.tail _ (List.Mem.head _)))⟩ (by repeat (first | exact Sub.nil | refine Sub.cons rfl ?_)) ?_
  clear h0_1
  rintro _ _ w1 ⟨t10, p0, A_p0, c_p0, n_p0, rfl, rfl, hI1, rfl, gr1, k1, k2, dj1, hi1⟩
  have H := HR1 t10 p0 hI1
  refine WC.seq ?_
  refine WC.region ?_
  refine WL.y rfl (Yld.pure tab_ok rfl) ?_
  refine WL.nil (WX.then_normal ?_)
  refine WC.seq ?_
  refine WC.cond rfl (fun b1 => ?_) (fun b1 => ?_)
  · replace H := H.1 (of_decide_eq_true b1)
    refine WC.skip (WX.then_normal ?_)
    refine WC.seq ?_
    refine WC.block ?_
    refine WC.seq ?_
    refine WC.region ?_
    refine WL.y rfl (Yld.pure tab_ok rfl) ?_
    obtain ⟨h1, H⟩ := H
    refine WL.y rfl (Yld.iaddrW tab_ok (hl.goL gr1 hap0) rfl rfl hr_l.1.symm rfl h1.1 h1.2) ?_
    obtain ⟨⟨v_el, F_el⟩, eh1, hR1⟩ := RelD.at (hr_l.goL gr1 hap1) vh0 PV.nil (j := t10.toNat) (Nat.lt_of_lt_of_eq (iltN h1 hr_l.1.symm) (hr_l.goL gr1 hap1).1)
    have hv1 : RelD deV w1 [(v_el, F_el)] [l.getD t10.toNat PV.nil] := RelD.cons hR1 RelD.nil
    refine WL.y rfl (Yld.to (v := v_el.1) (Yld.iload vh0 tab_ok (hl.goL gr1 hap0) rfl rfl (iltN h1 hr_l.1.symm)) (congrArg vv eh1)) ?_
    refine WL.y rfl (Yld.pure tab_ok rfl) ?_
    refine WL.y rfl (Yld.pure tab_ok rfl) ?_
    refine WL.nil (WX.then_normal ?_)
    refine WC.seq ?_
    refine WC.seq ?_
    refine WC.region ?_
    refine WL.y rfl (Yld.pure tab_ok rfl) ?_
    refine WL.call rfl rfl (W_pval_printer_full k2.rd rfl k1 H) ?_
    rintro _ _ ⟨rfl, t16, rfl, H⟩
    refine WL.nil (WX.then_normal ?_)
    refine WC.cond rfl (fun b2 => ?_) (fun b2 => ?_)
    · replace H := H.1 (b2)
      refine WC.ret (WX.then_ret (WX.block_ret (WX.then_ret (WX.then_ret (WX.block_ret ?_)))))
      exact WX.ret0 rfl ⟨gr1, p0, A_p0, c_p0, rfl, k1, k2, hi1, dj1, H⟩
    · replace H := H.2 (b2)
      refine WC.skip (WX.then_normal ?_)
      refine WC.seq ?_
      obtain ⟨J1, H, hJ1⟩ := H
      refine WC.midF (fun L' w' => ∃ (p02 : List UInt8), ∃ (A_p02 : Option Addr), ∃ (c_p02 : Nat), ∃ (n_p02 : Nat), L' = [(0, .pointer (some ⟨g_p, 0, none⟩)), (2, .int .i64 deep), (7, v_el.1), (8, .slice A_l l.length c_l), (9, .int .i64 (l.length : Int)), (10, .int .i64 t10)] ∧ J1 p02 ∧ n_p02 = p02.length ∧ GrL [(some g_p), (blk A_p_b)] w w' ∧ Bl w' g_p 88 [.slice A_p02 n_p02 c_p02] ∧ RelD deV w' [(v_el, F_el)] [l.getD t10.toNat PV.nil] ∧ Own vb w' 0 5 A_p02 c_p02 p02 ∧ Dj (some g_p) (blk A_p02) ∧ DnD deV [(v_el, F_el)] [l.getD t10.toNat PV.nil] (some g_p) ∧ DnD deV [(v_el, F_el)] [l.getD t10.toNat PV.nil] (blk A_p02) ∧ InP [(some g_p), (blk A_p_b)] w.heap.size (blk A_p02)) ?_ (fun hQ => ?_)
      · clear H
        rintro _ w2 ⟨p02, A_p02, c_p02, n_p02, rfl, H, rfl, gr2, k3, k4, k5, dj2, dj3, dj4, hi2⟩
        replace H := hJ1 p02 H
        refine WX.then_normal ?_
        refine WC.region ?_
        refine WL.y rfl (Yld.pure tab_ok rfl) ?_
        refine WL.y rfl (Yld.pure tab_ok rfl) ?_
        refine WL.y rfl (Yld.pure tab_ok rfl) ?_
        refine WL.call rfl rfl (W_pval_printer_repr k5 rfl k3 k4 dj2 (apC dj3 (apC dj4 apN)) H) ?_
        rintro _ w3 ⟨hgl1, p_, A_p_, c_p_, rfl, hB1, hO1, hi3, dj5, H⟩
        have hi4 : InP [(some g_p), (blk A_p_b)] w.heap.size (blk A_p_) := InP.trans hi3 (apC (InP.mem (List.Mem.head _)) (apC hi2 apN)) (GrL.sizeL gr2)
        have gr3 : GrL [(some g_p), (blk A_p_b)] w w3 := GrL.modL gr2 hgl1 (apC (InP.mem (List.Mem.head _)) (apC hi2 apN))
        refine WL.nil (WX.block_normal (WX.then_normal ?_))
        refine WC.region ?_
        obtain ⟨h2, H⟩ := H
        refine WL.y rfl (Yld.add rfl rfl h2) ?_
        refine WL.y rfl (Yld.pure tab_ok rfl) ?_
        refine WL.nil ?_
        exact WX.roundF _ ⟨t10 + (1 : Int), p_, A_p_, c_p_, p_.length, rfl, rfl, H.1, rfl, gr3, hB1, hO1, dj5, hi4⟩ (by repeat (first | exact Sub.nil | refine Sub.cons rfl ?_)) H.2
      · clear hJ1
        refine WC.seq ?_
        refine WC.region ?_
        refine WL.y rfl (Yld.pure tab_ok rfl) ?_
        refine WL.y rfl (Yld.pure tab_ok rfl) ?_
        refine WL.nil (WX.then_normal ?_)
        refine WC.cond rfl (fun b3 => ?_) (fun b3 => ?_)
        · replace H := H.1 (of_decide_eq_true b3)
          refine WC.region ?_
          refine WL.y rfl (Yld.pure tab_ok rfl) ?_
          refine WL.lit tab_ok rfl rfl rfl (all1c rfl all1n) rfl (by omega) (fun g1 w4 hB2 hg1 hl1 => ?_)
          have hO2 : Own vs w4 w.heap.size 9 (some ⟨g1, 0, none⟩) 1 ([([44, 32] : List UInt8)] : List (List UInt8)) := Own.ofBl hB2 (Nat.le_trans (GrL.sizeL gr1) hl1) (by simp [maxLen]) rfl
          have gr4 := GrL.add0 gr1 hg1
          have k6 := k1.g0 hg1
          have k7 := k2.grown hg1
          have k8 := hv1.grown hg1
          refine WL.call rfl rfl (W_pval_printer_put k7 rfl k6 hO2.rd rfl dj1 (apC (Dn.of (Dj.new k1.lt' (Ge.box hl1)).symm) (apC (Dn.of (Dj.new k2.lt' (Ge.box hl1)).symm) apN)) H) ?_
          rintro _ w5 ⟨hgl2, p_2, A_p_2, c_p_2, rfl, hB3, hO3, hi5, dj6, H⟩
          have hi6 : InP [(some g_p), (blk A_p_b)] w.heap.size (blk A_p_2) := InP.trans hi5 (apC (InP.mem (List.Mem.head _)) (apC hi1 apN)) (GrL.sizeL gr4)
          have gr5 : GrL [(some g_p), (blk A_p_b)] w w5 := GrL.modL gr4 hgl2 (apC (InP.mem (List.Mem.head _)) (apC hi1 apN))
          have k9 := k8.goL hgl2 (apC (DnD.cons (DnD.at (hr_l.inp hap1 (InP.mem (List.Mem.head _))) (hr_l.goL gr1 hap1).1 (Nat.lt_of_lt_of_eq (iltN h1 hr_l.1.symm) (hr_l.goL gr1 hap1).1) eh1) DnD.nil) (apC (DnD.cons (DnD.at (hr_l.inp hap1 hi1) (hr_l.goL gr1 hap1).1 (Nat.lt_of_lt_of_eq (iltN h1 hr_l.1.symm) (hr_l.goL gr1 hap1).1) eh1) DnD.nil) apN))
          refine WL.nil ?_
          exact WX.weaken (by repeat (first | exact Sub.nil | refine Sub.cons rfl ?_)) (hQ _ _ ⟨p_2, A_p_2, c_p_2, p_2.length, rfl, H, rfl, gr5, hB3, k9, hO3, dj6, (DnD.cons (DnD.at (hr_l.inp hap1 (InP.mem (List.Mem.head _))) (hr_l.goL gr1 hap1).1 (Nat.lt_of_lt_of_eq (iltN h1 hr_l.1.symm) (hr_l.goL gr1 hap1).1) eh1) DnD.nil), (RelD.inp k8 (apC (DnD.cons (DnD.at (hr_l.inp hap1 (InP.mem (List.Mem.head _))) (hr_l.goL gr1 hap1).1 (Nat.lt_of_lt_of_eq (iltN h1 hr_l.1.symm) (hr_l.goL gr1 hap1).1) eh1) DnD.nil) (apC (DnD.cons (DnD.at (hr_l.inp hap1 hi1) (hr_l.goL gr1 hap1).1 (Nat.lt_of_lt_of_eq (iltN h1 hr_l.1.symm) (hr_l.goL gr1 hap1).1) eh1) DnD.nil) apN)) hi5), hi6⟩)
        · replace H := H.2 (of_decide_eq_false b3)
          refine WC.skip ?_
          exact WX.weaken (by repeat (first | exact Sub.nil | refine Sub.cons rfl ?_)) (hQ _ _ ⟨p0, A_p0, c_p0, p0.length, rfl, H, rfl, gr1, k1, hv1, k2, dj1, (DnD.cons (DnD.at (hr_l.inp hap1 (InP.mem (List.Mem.head _))) (hr_l.goL gr1 hap1).1 (Nat.lt_of_lt_of_eq (iltN h1 hr_l.1.symm) (hr_l.goL gr1 hap1).1) eh1) DnD.nil), (DnD.cons (DnD.at (hr_l.inp hap1 hi1) (hr_l.goL gr1 hap1).1 (Nat.lt_of_lt_of_eq (iltN h1 hr_l.1.symm) (hr_l.goL gr1 hap1).1) eh1) DnD.nil), hi1⟩)
  · replace H := H.2 (of_decide_eq_false b1)
    refine WC.exit (WX.then_exit (WX.then_exit (WX.block_same ?_)))
    exact WX.end0 rfl ⟨gr1, p0, A_p0, c_p0, rfl, k1, k2, hi1, dj1, H⟩

set_option maxHeartbeats 8000000 in
theorem W_pval_printer_parts {w : World} {g_p : Nat} {p_b : List UInt8} {A_p_b : Option Addr} {c_p_b : Nat} {v_v : OV} {F_v : Nat → Prop} {v : PV} {deep : Int} {n_p_b : Nat} {K : (List UInt8) → Prop} (hp_b : Own vb w 0 5 A_p_b c_p_b p_b) (hn_p_b : n_p_b = p_b.length) (hp : Bl w g_p 88 [.slice A_p_b n_p_b c_p_b]) (hv : RelD deV w [(v_v, F_v)] [v]) (hdj0_1 : Dj (some g_p) (blk A_p_b)) (hap0 : AllP (DnD deV [(v_v, F_v)] [v]) [(some g_p), (blk A_p_b)]) (H : M_pval_printer_parts p_b v deep K) : Fn Tryd.prog 64 ⟨[.pointer (some ⟨g_p, 0, none⟩), v_v.1, .int .i64 deep]⟩ w (fun v w' => GrL [(some g_p), (blk A_p_b)] w w' ∧ ∃ (p_b2 : List UInt8), ∃ (A_p_b2 : Option Addr), ∃ (c_p_b2 : Nat), v = .tuple #[] ∧ Bl w' g_p 88 [.slice A_p_b2 p_b2.length c_p_b2] ∧ Own vb w' 0 5 A_p_b2 c_p_b2 p_b2 ∧ InP [(some g_p), (blk A_p_b)] w.heap.size (blk A_p_b2) ∧ Dj (some g_p) (blk A_p_b2) ∧ K p_b2) := by
  subst hn_p_b
  unfold M_pval_printer_parts at H
  refine Fn.enter (by kernel_rfl) Tryd.func64 rfl Tryd.ntmps64 rfl ?_
  replace H := H (Nat.le_trans hp_b.rd.cap hp_b.rd.max)
  have hNoAt : AllP (NoAt w) [(some g_p), (blk A_p_b)] := (apC (NoAt.bl hp rfl) (apC (NoAt.own hp_b rfl) apN))
  refine WC.seq ?_
  refine WC.seq ?_
  refine WC.region ?_
  refine WL.y rfl (Yld.pure tab_ok rfl) ?_
  refine WL.y rfl (Yld.pure tab_ok rfl) ?_
  refine WL.nil (WX.then_normal ?_)
  refine WC.cond rfl (fun b1 => ?_) (fun b1 => ?_)
  · replace H := H.1 (of_decide_eq_true b1)
    refine WC.seq ?_
    refine WC.region ?_
    refine WL.y rfl (Yld.pure tab_ok rfl) ?_
    refine WL.lit tab_ok rfl rfl rfl (all1c rfl all1n) rfl (by omega) (fun g1 w1 hB1 hg1 hl1 => ?_)
    have hO1 : Own vs w1 w.heap.size 9 (some ⟨g1, 0, none⟩) 1 ([([46, 46, 46] : List UInt8)] : List (List UInt8)) := Own.ofBl hB1 (Nat.le_trans (Nat.le_refl _) hl1) (by simp [maxLen]) rfl
    have gr1 := (GrL.of0 (ps := [(some g_p), (blk A_p_b)]) hg1)
    have k1 := hp_b.grown hg1
    have k2 := hp.g0 hg1
    refine WL.call rfl rfl (W_pval_printer_put k1 rfl k2 hO1.rd rfl hdj0_1 (apC (Dn.of (Dj.new hp.lt' (Ge.box hl1)).symm) (apC (Dn.of (Dj.new hp_b.lt' (Ge.box hl1)).symm) apN)) H) ?_
    rintro _ w2 ⟨hgl1, p_, A_p_, c_p_, rfl, hB2, hO2, hi1, dj1, H⟩
    have hi2 : InP [(some g_p), (blk A_p_b)] w.heap.size (blk A_p_) := InP.trans hi1 (apC (InP.mem (List.Mem.head _)) (apC (InP.mem (List.Mem.tail _ (List.Mem.head _))) apN)) (GrL.sizeL gr1)
    have gr2 : GrL [(some g_p), (blk A_p_b)] w w2 := GrL.modL gr1 hgl1 (apC (InP.mem (List.Mem.head _)) (apC (InP.mem (List.Mem.tail _ (List.Mem.head _))) apN))
    refine WL.nil (WX.then_normal ?_)
    refine WC.ret (WX.then_ret ?_)
    exact WX.ret0 rfl ⟨gr2, p_, A_p_, c_p_, rfl, hB2, hO2, hi2, dj1, H⟩
  · replace H := H.2 (of_decide_eq_false b1)
    refine WC.skip (WX.then_normal ?_)
    refine WC.seq ?_
    refine WC.region ?_
    refine WL.y rfl (Yld.pure tab_ok rfl) ?_
    refine WL.nil (WX.then_normal ?_)
    refine WC.block ?_
    refine WC.seq ?_
    refine WC.region ?_
    rcases PV.empCases v with he1 | he1
    · replace H := H.1 he1
      obtain ⟨g_l, A_l, c_l, hv1, hB3, hR1, hr1, hd1⟩ := VR.empOut hv he1
      refine WL.y rfl (assertYesV Tryd.underlying59 rfl rfl hv1) ?_
      refine WL.y rfl (Yld.pure tab_ok rfl) ?_
      refine WL.y rfl (Yld.pure tab_ok rfl) ?_
      refine WL.nil (WX.then_normal ?_)
      refine WC.cond rfl (fun _ => ?_) (fun h => by cases h)
      refine WC.seq ?_
      refine WC.region ?_
      refine WL.y rfl (Yld.pure tab_ok rfl) ?_
      refine WL.nil (WX.then_normal ?_)
      refine WC.seq ?_
      refine WC.region ?_
      refine WL.y rfl (Yld.pure tab_ok rfl) ?_
      refine WL.lit tab_ok rfl rfl rfl (all1c rfl all1n) rfl (by omega) (fun g2 w3 hB4 hg2 hl2 => ?_)
      have hO3 : Own vs w3 w.heap.size 9 (some ⟨g2, 0, none⟩) 1 ([([91] : List UInt8)] : List (List UInt8)) := Own.ofBl hB4 (Nat.le_trans (Nat.le_refl _) hl2) (by simp [maxLen]) rfl
      have gr3 := (GrL.of0 (ps := [(some g_p), (blk A_p_b)]) hg2)
      have k3 := hp_b.grown hg2
      have k4 := hp.g0 hg2
      have k5 := hR1.grown hg2
      have k6 := hr1.grown hg2
      have k7 := hB3.g0 hg2
      refine WL.call rfl rfl (W_pval_printer_put k3 rfl k4 hO3.rd rfl hdj0_1 (apC (Dn.of (Dj.new hp.lt' (Ge.box hl2)).symm) (apC (Dn.of (Dj.new hp_b.lt' (Ge.box hl2)).symm) apN)) H) ?_
      rintro _ w4 ⟨hgl2, p_2, A_p_2, c_p_2, rfl, hB5, hO4, hi3, dj2, H⟩
      have hi4 : InP [(some g_p), (blk A_p_b)] w.heap.size (blk A_p_2) := InP.trans hi3 (apC (InP.mem (List.Mem.head _)) (apC (InP.mem (List.Mem.tail _ (List.Mem.head _))) apN)) (GrL.sizeL gr3)
      have gr4 : GrL [(some g_p), (blk A_p_b)] w w4 := GrL.modL gr3 hgl2 (apC (InP.mem (List.Mem.head _)) (apC (InP.mem (List.Mem.tail _ (List.Mem.head _))) apN))
      have k8 := k5.goL hgl2 (apC (fun h => absurd rfl h) (apC (fun h => absurd rfl h) apN))
      have k9 := k6.goL hgl2 (apC (DnD.nil (d := deV)) (apC (DnD.nil (d := deV)) apN))
      have k10 := k7.goL hgl2 (apC (hd1 _ (hv.inp hap0 (InP.mem (List.Mem.head _)))) (apC (hd1 _ (hv.inp hap0 (InP.mem (List.Mem.tail _ (List.Mem.head _))))) apN))
      refine WL.nil (WX.then_normal ?_)
      refine WC.seq ?_
      refine WC.region ?_
      refine WL.y rfl (Yld.pure tab_ok rfl) ?_
      refine WL.y rfl (Yld.pure tab_ok rfl) ?_
      refine WL.y rfl (Yld.pure tab_ok rfl) ?_
      refine WL.y rfl (Yld.fa0 (o := 0) (by kernel_rfl) rfl) ?_
      refine WL.y rfl (Yld.bload tab_ok k10 rfl rfl rfl) ?_
      refine WL.y rfl (Yld.pure tab_ok rfl) ?_
      obtain ⟨h1, H⟩ := H
      refine WL.y rfl (Yld.add rfl rfl h1) ?_
      refine WL.call rfl rfl (W_pval_printer_items hO4 rfl hB5 k8 rfl k9 dj2 (apC (fun h => absurd rfl h) (apC (InP.dn hi3 (fun hx => k5.lt' hx) (apC (fun h => absurd rfl h) (apC (fun h => absurd rfl h) apN))) apN)) (apC (DnD.nil (d := deV)) (apC (RelD.inp k6 (apC (DnD.nil (d := deV)) (apC (DnD.nil (d := deV)) apN)) hi3) apN)) H) ?_
      rintro _ w5 ⟨hgl3, p_3, A_p_3, c_p_3, rfl, hB6, hO5, hi5, dj3, H⟩
      have hi6 : InP [(some g_p), (blk A_p_b)] w.heap.size (blk A_p_3) := InP.trans hi5 (apC (InP.mem (List.Mem.head _)) (apC hi4 apN)) (GrL.sizeL gr4)
      have gr5 : GrL [(some g_p), (blk A_p_b)] w w5 := GrL.modL gr4 hgl3 (apC (InP.mem (List.Mem.head _)) (apC hi4 apN))
      refine WL.nil (WX.then_normal ?_)
      refine WC.region ?_
      refine WL.y rfl (Yld.pure tab_ok rfl) ?_
      refine WL.lit tab_ok rfl rfl rfl (all1c rfl all1n) rfl (by omega) (fun g3 w6 hB7 hg3 hl3 => ?_)
      have hO6 : Own vs w6 w.heap.size 9 (some ⟨g3, 0, none⟩) 1 ([([93] : List UInt8)] : List (List UInt8)) := Own.ofBl hB7 (Nat.le_trans (GrL.sizeL gr5) hl3) (by simp [maxLen]) rfl
      have gr6 := GrL.add0 gr5 hg3
      have k11 := hB6.g0 hg3
      have k12 := hO5.grown hg3
      refine WL.call rfl rfl (W_pval_printer_put k12 rfl k11 hO6.rd rfl dj3 (apC (Dn.of (Dj.new hB6.lt' (Ge.box hl3)).symm) (apC (Dn.of (Dj.new hO5.lt' (Ge.box hl3)).symm) apN)) H) ?_
      rintro _ w7 ⟨hgl4, p_4, A_p_4, c_p_4, rfl, hB8, hO7, hi7, dj4, H⟩
      have hi8 : InP [(some g_p), (blk A_p_b)] w.heap.size (blk A_p_4) := InP.trans hi7 (apC (InP.mem (List.Mem.head _)) (apC hi6 apN)) (GrL.sizeL gr6)
      have gr7 : GrL [(some g_p), (blk A_p_b)] w w7 := GrL.modL gr6 hgl4 (apC (InP.mem (List.Mem.head _)) (apC hi6 apN))
      refine WL.nil (WX.block_normal ?_)
      exact WX.end0 rfl ⟨gr7, p_4, A_p_4, c_p_4, rfl, hB8, hO7, hi8, dj4, H⟩
    · replace H := H.2 he1
      refine WL.y rfl (assertNoV (z := .pointer none) Tryd.underlying59 rfl (fun _ => by kernel_rfl) hv rfl (tyP_emp he1)) ?_
      refine WL.y rfl (Yld.pure tab_ok rfl) ?_
      refine WL.y rfl (Yld.pure tab_ok rfl) ?_
      refine WL.nil (WX.then_normal ?_)
      refine WC.cond rfl (fun h => by cases h) (fun _ => ?_)
      refine WC.seq ?_
      refine WC.region ?_
      rcases PV.tupCases v with ⟨l, he2⟩ | he2
      · replace H := H.1 l he2
        obtain ⟨g_t, A_t, c_t, hs_t, hv2, hB9, hR2, hr2, hd2, hd3, hd4⟩ := VR.tupOut hv he2
        refine WL.y rfl (assertYesV Tryd.underlying113 rfl rfl hv2) ?_
        refine WL.y rfl (Yld.pure tab_ok rfl) ?_
        refine WL.y rfl (Yld.pure tab_ok rfl) ?_
        refine WL.nil (WX.then_normal ?_)
        refine WC.cond rfl (fun _ => ?_) (fun h => by cases h)
        refine WC.seq ?_
        refine WC.region ?_
        refine WL.y rfl (Yld.pure tab_ok rfl) ?_
        refine WL.nil (WX.then_normal ?_)
        refine WC.seq ?_
        refine WC.region ?_
        refine WL.y rfl (Yld.pure tab_ok rfl) ?_
        refine WL.lit tab_ok rfl rfl rfl (all1c rfl all1n) rfl (by omega) (fun g4 w8 hB10 hg4 hl4 => ?_)
        have hO8 : Own vs w8 w.heap.size 9 (some ⟨g4, 0, none⟩) 1 ([([40] : List UInt8)] : List (List UInt8)) := Own.ofBl hB10 (Nat.le_trans (Nat.le_refl _) hl4) (by simp [maxLen]) rfl
        have gr8 := (GrL.of0 (ps := [(some g_p), (blk A_p_b)]) hg4)
        have k13 := hp_b.grown hg4
        have k14 := hp.g0 hg4
        have k15 := hR2.grown hg4
        have k16 := hr2.grown hg4
        have k17 := hB9.g0 hg4
        refine WL.call rfl rfl (W_pval_printer_put k13 rfl k14 hO8.rd rfl hdj0_1 (apC (Dn.of (Dj.new hp.lt' (Ge.box hl4)).symm) (apC (Dn.of (Dj.new hp_b.lt' (Ge.box hl4)).symm) apN)) H) ?_
        rintro _ w9 ⟨hgl5, p_5, A_p_5, c_p_5, rfl, hB11, hO9, hi9, dj5, H⟩
        have hi10 : InP [(some g_p), (blk A_p_b)] w.heap.size (blk A_p_5) := InP.trans hi9 (apC (InP.mem (List.Mem.head _)) (apC (InP.mem (List.Mem.tail _ (List.Mem.head _))) apN)) (GrL.sizeL gr8)
        have gr9 : GrL [(some g_p), (blk A_p_b)] w w9 := GrL.modL gr8 hgl5 (apC (InP.mem (List.Mem.head _)) (apC (InP.mem (List.Mem.tail _ (List.Mem.head _))) apN))
        have k18 := k15.goL hgl5 (apC (hd3 _ (hv.inp hap0 (InP.mem (List.Mem.head _)))) (apC (hd3 _ (hv.inp hap0 (InP.mem (List.Mem.tail _ (List.Mem.head _))))) apN))
        have k19 := k16.goL hgl5 (apC (hd4 _ (hv.inp hap0 (InP.mem (List.Mem.head _)))) (apC (hd4 _ (hv.inp hap0 (InP.mem (List.Mem.tail _ (List.Mem.head _))))) apN))
        have k20 := k17.goL hgl5 (apC (hd2 _ (hv.inp hap0 (InP.mem (List.Mem.head _)))) (apC (hd2 _ (hv.inp hap0 (InP.mem (List.Mem.tail _ (List.Mem.head _))))) apN))
        refine WL.nil (WX.then_normal ?_)
        refine WC.seq ?_
        refine WC.region ?_
        refine WL.y rfl (Yld.pure tab_ok rfl) ?_
        refine WL.y rfl (Yld.pure tab_ok rfl) ?_
        refine WL.y rfl (Yld.pure tab_ok rfl) ?_
        refine WL.y rfl (Yld.fa0 (o := 0) (by kernel_rfl) rfl) ?_
        refine WL.y rfl (Yld.bload tab_ok k20 rfl rfl rfl) ?_
        refine WL.y rfl (Yld.pure tab_ok rfl) ?_
        obtain ⟨h2, H⟩ := H
        refine WL.y rfl (Yld.add rfl rfl h2) ?_
        refine WL.call rfl rfl (W_pval_printer_items hO9 rfl hB11 k18 rfl k19 dj5 (apC (hd3 _ (hv.inp hap0 (InP.mem (List.Mem.head _)))) (apC (InP.dn hi9 (fun hx => k15.lt' hx) (apC (hd3 _ (hv.inp hap0 (InP.mem (List.Mem.head _)))) (apC (hd3 _ (hv.inp hap0 (InP.mem (List.Mem.tail _ (List.Mem.head _))))) apN))) apN)) (apC (hd4 _ (hv.inp hap0 (InP.mem (List.Mem.head _)))) (apC (RelD.inp k16 (apC (hd4 _ (hv.inp hap0 (InP.mem (List.Mem.head _)))) (apC (hd4 _ (hv.inp hap0 (InP.mem (List.Mem.tail _ (List.Mem.head _))))) apN)) hi9) apN)) H) ?_
        rintro _ w10 ⟨hgl6, p_6, A_p_6, c_p_6, rfl, hB12, hO10, hi11, dj6, H⟩
        have hi12 : InP [(some g_p), (blk A_p_b)] w.heap.size (blk A_p_6) := InP.trans hi11 (apC (InP.mem (List.Mem.head _)) (apC hi10 apN)) (GrL.sizeL gr9)
        have gr10 : GrL [(some g_p), (blk A_p_b)] w w10 := GrL.modL gr9 hgl6 (apC (InP.mem (List.Mem.head _)) (apC hi10 apN))
        have k21 := k18.goL hgl6 (apC (hd3 _ (hv.inp hap0 (InP.mem (List.Mem.head _)))) (apC (InP.dn hi9 (fun hx => k15.lt' hx) (apC (hd3 _ (hv.inp hap0 (InP.mem (List.Mem.head _)))) (apC (hd3 _ (hv.inp hap0 (InP.mem (List.Mem.tail _ (List.Mem.head _))))) apN))) apN))
        have k22 := k19.goL hgl6 (apC (hd4 _ (hv.inp hap0 (InP.mem (List.Mem.head _)))) (apC (RelD.inp k16 (apC (hd4 _ (hv.inp hap0 (InP.mem (List.Mem.head _)))) (apC (hd4 _ (hv.inp hap0 (InP.mem (List.Mem.tail _ (List.Mem.head _))))) apN)) hi9) apN))
        have k23 := k20.goL hgl6 (apC (hd2 _ (hv.inp hap0 (InP.mem (List.Mem.head _)))) (apC (InP.dj hi9 k17.lt' (apC (hd2 _ (hv.inp hap0 (InP.mem (List.Mem.head _)))) (apC (hd2 _ (hv.inp hap0 (InP.mem (List.Mem.tail _ (List.Mem.head _))))) apN))).symm apN))
        refine WL.nil (WX.then_normal ?_)
        refine WC.seq ?_
        obtain ⟨J1, H, hJ1⟩ := H
        refine WC.midF (fun L' w' => ∃ (p0 : List UInt8), ∃ (A_p0 : Option Addr), ∃ (c_p0 : Nat), ∃ (n_p0 : Nat), L' = [(0, .pointer (some ⟨g_p, 0, none⟩))] ∧ J1 p0 ∧ n_p0 = p0.length ∧ GrL [(some g_p), (blk A_p_b)] w w' ∧ Bl w' g_p 88 [.slice A_p0 n_p0 c_p0] ∧ Own vb w' 0 5 A_p0 c_p0 p0 ∧ Dj (some g_p) (blk A_p0) ∧ InP [(some g_p), (blk A_p_b)] w.heap.size (blk A_p0)) ?_ (fun hQ => ?_)
        · clear H
          rintro _ w11 ⟨p0, A_p0, c_p0, n_p0, rfl, H, rfl, gr11, k24, k25, dj7, hi13⟩
          replace H := hJ1 p0 H
          refine WX.then_normal ?_
          refine WC.region ?_
          refine WL.y rfl (Yld.pure tab_ok rfl) ?_
          refine WL.lit tab_ok rfl rfl rfl (all1c rfl all1n) rfl (by omega) (fun g5 w12 hB13 hg5 hl5 => ?_)
          have hO11 : Own vs w12 w.heap.size 9 (some ⟨g5, 0, none⟩) 1 ([([41] : List UInt8)] : List (List UInt8)) := Own.ofBl hB13 (Nat.le_trans (GrL.sizeL gr11) hl5) (by simp [maxLen]) rfl
          have gr12 := GrL.add0 gr11 hg5
          have k26 := k24.g0 hg5
          have k27 := k25.grown hg5
          refine WL.call rfl rfl (W_pval_printer_put k27 rfl k26 hO11.rd rfl dj7 (apC (Dn.of (Dj.new k24.lt' (Ge.box hl5)).symm) (apC (Dn.of (Dj.new k25.lt' (Ge.box hl5)).symm) apN)) H) ?_
          rintro _ w13 ⟨hgl7, p_7, A_p_7, c_p_7, rfl, hB14, hO12, hi14, dj8, H⟩
          have hi15 : InP [(some g_p), (blk A_p_b)] w.heap.size (blk A_p_7) := InP.trans hi14 (apC (InP.mem (List.Mem.head _)) (apC hi13 apN)) (GrL.sizeL gr12)
          have gr13 : GrL [(some g_p), (blk A_p_b)] w w13 := GrL.modL gr12 hgl7 (apC (InP.mem (List.Mem.head _)) (apC hi13 apN))
          refine WL.nil (WX.block_normal ?_)
          exact WX.end0 rfl ⟨gr13, p_7, A_p_7, c_p_7, rfl, hB14, hO12, hi15, dj8, H⟩
        · clear hJ1
          refine WC.seq ?_
          refine WC.region ?_
          refine WL.y rfl (Yld.pure tab_ok rfl) ?_
          refine WL.y rfl (Yld.pure tab_ok rfl) ?_
          refine WL.y rfl (Yld.fa0 (o := 0) (by kernel_rfl) rfl) ?_
          refine WL.y rfl (Yld.bload tab_ok k23 rfl rfl rfl) ?_
          refine WL.y rfl (Yld.pure tab_ok rfl) ?_
          refine WL.y rfl (Yld.pure tab_ok rfl) ?_
          refine WL.nil (WX.then_normal ?_)
          refine WC.cond rfl (fun b2 => ?_) (fun b2 => ?_)
          · replace H := H.1 (of_decide_eq_true b2)
            refine WC.region ?_
            refine WL.y rfl (Yld.pure tab_ok rfl) ?_
            refine WL.lit tab_ok rfl rfl rfl (all1c rfl all1n) rfl (by omega) (fun g6 w14 hB15 hg6 hl6 => ?_)
            have hO13 : Own vs w14 w.heap.size 9 (some ⟨g6, 0, none⟩) 1 ([([44] : List UInt8)] : List (List UInt8)) := Own.ofBl hB15 (Nat.le_trans (GrL.sizeL gr10) hl6) (by simp [maxLen]) rfl
            have gr14 := GrL.add0 gr10 hg6
            have k28 := hB12.g0 hg6
            have k29 := hO10.grown hg6
            refine WL.call rfl rfl (W_pval_printer_put k29 rfl k28 hO13.rd rfl dj6 (apC (Dn.of (Dj.new hB12.lt' (Ge.box hl6)).symm) (apC (Dn.of (Dj.new hO10.lt' (Ge.box hl6)).symm) apN)) H) ?_
            rintro _ w15 ⟨hgl8, p_8, A_p_8, c_p_8, rfl, hB16, hO14, hi16, dj9, H⟩
            have hi17 : InP [(some g_p), (blk A_p_b)] w.heap.size (blk A_p_8) := InP.trans hi16 (apC (InP.mem (List.Mem.head _)) (apC hi12 apN)) (GrL.sizeL gr14)
            have gr15 : GrL [(some g_p), (blk A_p_b)] w w15 := GrL.modL gr14 hgl8 (apC (InP.mem (List.Mem.head _)) (apC hi12 apN))
            refine WL.nil ?_
            exact WX.weaken (by repeat (first | exact Sub.nil | refine Sub.cons rfl ?_)) (hQ _ _ ⟨p_8, A_p_8, c_p_8, p_8.length, rfl, H, rfl, gr15, hB16, hO14, dj9, hi17⟩)
          · replace H := H.2 (of_decide_eq_false b2)
            refine WC.skip ?_
            exact WX.weaken (by repeat (first | exact Sub.nil | refine Sub.cons rfl ?_)) (hQ _ _ ⟨p_6, A_p_6, c_p_6, p_6.length, rfl, H, rfl, gr10, hB12, hO10, dj6, hi12⟩)
      · replace H := H.2 he2
        refine WL.y rfl (assertNoV (z := .pointer none) Tryd.underlying113 rfl (fun _ => by kernel_rfl) hv rfl (tyP_tup he2)) ?_
        refine WL.y rfl (Yld.pure tab_ok rfl) ?_
        refine WL.y rfl (Yld.pure tab_ok rfl) ?_
        refine WL.nil (WX.then_normal ?_)
        refine WC.cond rfl (fun h => by cases h) (fun _ => ?_)
        refine WC.seq ?_
        refine WC.region ?_
        refine WL.y rfl (assertNoV (z := .pointer none) Tryd.underlying150 rfl (fun _ => by kernel_rfl) hv rfl (tyP_no rfl v)) ?_
        refine WL.y rfl (Yld.pure tab_ok rfl) ?_
        refine WL.y rfl (Yld.pure tab_ok rfl) ?_
        refine WL.nil (WX.then_normal ?_)
        refine WC.cond rfl (fun h => by cases h) (fun _ => ?_)
        refine WC.seq ?_
        refine WC.region ?_
        refine WL.y rfl (assertNoV (z := .pointer none) Tryd.underlying166 rfl (fun _ => by kernel_rfl) hv rfl (tyP_no rfl v)) ?_
        refine WL.y rfl (Yld.pure tab_ok rfl) ?_
        refine WL.y rfl (Yld.pure tab_ok rfl) ?_
        refine WL.nil (WX.then_normal ?_)
        refine WC.cond rfl (fun h => by cases h) (fun _ => ?_)
        refine WC.skip (WX.block_normal ?_)
        exact WX.end0 rfl ⟨(GrL.refl _), p_b, A_p_b, c_p_b, rfl, hp, hp_b, (InP.mem (List.Mem.tail _ (List.Mem.head _))), hdj0_1, H⟩

set_option maxHeartbeats 8000000 in
theorem W_val_printer_reprT {w : World} {g_p : Nat} {p_b : List UInt8} {A_p_b : Option Addr} {c_p_b : Nat} {v_v : OV} {F_v : Nat → Prop} {v : PV} {deep : Int} {n_p_b : Nat} {K : (List UInt8) → Prop} (hp_b : Own vb w 0 5 A_p_b c_p_b p_b) (hn_p_b : n_p_b = p_b.length) (hp : Bl w g_p 88 [.slice A_p_b n_p_b c_p_b]) (hv : RelD deV w [(v_v, F_v)] [v]) (hdj0_1 : Dj (some g_p) (blk A_p_b)) (hap0 : AllP (DnD deV [(v_v, F_v)] [v]) [(some g_p), (blk A_p_b)]) (H : M_val_printer_reprT p_b v deep K) : Fn Tryd.prog 36 ⟨[.pointer (some ⟨g_p, 0, none⟩), v_v.1, .int .i64 deep]⟩ w (fun v w' => GrL [(some g_p), (blk A_p_b)] w w' ∧ ∃ (p_b2 : List UInt8), ∃ (A_p_b2 : Option Addr), ∃ (c_p_b2 : Nat), v = .tuple #[] ∧ Bl w' g_p 88 [.slice A_p_b2 p_b2.length c_p_b2] ∧ Own vb w' 0 5 A_p_b2 c_p_b2 p_b2 ∧ InP [(some g_p), (blk A_p_b)] w.heap.size (blk A_p_b2) ∧ Dj (some g_p) (blk A_p_b2) ∧ K p_b2) := by
  subst hn_p_b
  unfold M_val_printer_reprT at H
  refine Fn.enter (by kernel_rfl) Tryd.func36 rfl Tryd.ntmps36 rfl ?_
  replace H := H (Nat.le_trans hp_b.rd.cap hp_b.rd.max)
  have hNoAt : AllP (NoAt w) [(some g_p), (blk A_p_b)] := (apC (NoAt.bl hp rfl) (apC (NoAt.own hp_b rfl) apN))
  refine WC.seq ?_
  refine WC.seq ?_
  refine WC.region ?_
  refine WL.y rfl (Yld.pure tab_ok rfl) ?_
  refine WL.call rfl rfl (W_pval_printer_full hp_b.rd rfl hp H) ?_
  rintro _ _ ⟨rfl, t17, rfl, H⟩
  refine WL.nil (WX.then_normal ?_)
  refine WC.cond rfl (fun b1 => ?_) (fun b1 => ?_)
  · replace H := H.1 (b1)
    refine WC.ret (WX.then_ret ?_)
    exact WX.ret0 rfl ⟨(GrL.refl _), p_b, A_p_b, c_p_b, rfl, hp, hp_b, (InP.mem (List.Mem.tail _ (List.Mem.head _))), hdj0_1, H⟩
  · replace H := H.2 (b1)
    refine WC.skip (WX.then_normal ?_)
    refine WC.seq ?_
    refine WC.region ?_
    refine WL.y rfl (Yld.pure tab_ok rfl) ?_
    refine WL.nil (WX.then_normal ?_)
    refine WC.block ?_
    refine WC.seq ?_
    refine WC.region ?_
    obtain ⟨h1, H⟩ := H
    refine WL.y rfl (assertNoV (z := .agg ⟨[]⟩) Tryd.underlying101 rfl (fun _ => by kernel_rfl) hv rfl (tyP_none h1)) ?_
    refine WL.y rfl (Yld.pure tab_ok rfl) ?_
    refine WL.y rfl (Yld.pure tab_ok rfl) ?_
    refine WL.nil (WX.then_normal ?_)
    refine WC.cond rfl (fun h => by cases h) (fun _ => ?_)
    refine WC.seq ?_
    refine WC.region ?_
    refine WL.y rfl (assertNoV (z := .bool false) Tryd.underlying125 rfl (fun _ => by kernel_rfl) hv rfl (tyP_no rfl v)) ?_
    refine WL.y rfl (Yld.pure tab_ok rfl) ?_
    refine WL.y rfl (Yld.pure tab_ok rfl) ?_
    refine WL.nil (WX.then_normal ?_)
    refine WC.cond rfl (fun h => by cases h) (fun _ => ?_)
    refine WC.seq ?_
    refine WC.region ?_
    rcases PV.intCases v with ⟨z, he1⟩ | he1
    · replace H := H.1 z he1
      obtain ⟨a, b, hv1, hN1, one1, one2, hL1⟩ := VR.intOut hv he1
      refine WL.y rfl (assertYesV Tryd.underlying128 rfl rfl hv1) ?_
      refine WL.y rfl (Yld.pure tab_ok rfl) ?_
      refine WL.y rfl (Yld.pure tab_ok rfl) ?_
      refine WL.nil (WX.then_normal ?_)
      refine WC.cond rfl (fun _ => ?_) (fun h => by cases h)
      refine WC.seq ?_
      refine WC.region ?_
      refine WL.alloc rfl zero128 (fun g1 w1 hB1 hg1 hl1 => ?_)
      have gr1 := (GrL.of0 (ps := [(some g_p), (blk A_p_b)]) hg1)
      have k1 := hp_b.grown hg1
      have k2 := hp.g0 hg1
      have k3 := hN1.grown hg1
      refine WL.storeW (vs := [a, b]) tab_ok rfl rfl rfl (all1c one1 (all1c one2 all1n)) hB1 rfl rfl (fun w2 hB2 hg2 => ?_)
      have gr2 : GrL [(some g_p), (blk A_p_b)] w w2 := GrL.mod gr1 hg2 (InP.ge (Ge.le (Ge.box hl1) (Nat.le_refl _)))
      have k4 := k1.go hg2 (Dj.new hp_b.lt' (Ge.box hl1))
      have k5 := k2.go hg2 (Dj.new hp.lt' (Ge.box hl1))
      have k6 := Nm.goV k3 hL1 (GrL.of1 hg2) (apC (DnD.one (hv.inp hap0 (InP.ge (Ge.le (Ge.box hl1) (Nat.le_refl _))))) apN)
      refine WL.nil (WX.then_normal ?_)
      refine WC.region ?_
      refine WL.y rfl (Yld.pure tab_ok rfl) ?_
      refine WL.y rfl (Yld.fa0 (o := 0) (by kernel_rfl) rfl) ?_
      refine WL.y rfl (Yld.bagg (vs := [a, b]) tab_ok hB2 rfl rfl rfl rfl) ?_
      refine WL.call rfl rfl (W_num_Num_Text k6 H) ?_
      rintro _ w3 ⟨hg3, t41, rfl, H⟩
      have gr3 := GrL.add0 gr2 hg3
      have k7 := k4.grown hg3
      have k8 := k5.g0 hg3
      refine WL.lit tab_ok rfl rfl rfl (all1c rfl all1n) rfl (by omega) (fun g2 w4 hB3 hg4 hl2 => ?_)
      have hO1 : Own vs w4 w.heap.size 9 (some ⟨g2, 0, none⟩) 1 ([t41] : List (List UInt8)) := Own.ofBl hB3 (Nat.le_trans (GrL.sizeL gr3) hl2) (by simp [maxLen]) rfl
      have gr4 := GrL.add0 gr3 hg4
      have k9 := k7.grown hg4
      have k10 := k8.g0 hg4
      refine WL.call rfl rfl (W_pval_printer_put k9 rfl k10 hO1.rd rfl hdj0_1 (apC (Dn.of (Dj.new k8.lt' (Ge.box hl2)).symm) (apC (Dn.of (Dj.new k7.lt' (Ge.box hl2)).symm) apN)) H) ?_
      rintro _ w5 ⟨hgl1, p_, A_p_, c_p_, rfl, hB4, hO2, hi1, dj1, H⟩
      have hi2 : InP [(some g_p), (blk A_p_b)] w.heap.size (blk A_p_) := InP.trans hi1 (apC (InP.mem (List.Mem.head _)) (apC (InP.mem (List.Mem.tail _ (List.Mem.head _))) apN)) (GrL.sizeL gr4)
      have gr5 : GrL [(some g_p), (blk A_p_b)] w w5 := GrL.modL gr4 hgl1 (apC (InP.mem (List.Mem.head _)) (apC (InP.mem (List.Mem.tail _ (List.Mem.head _))) apN))
      refine WL.nil (WX.block_normal ?_)
      exact WX.end0 rfl ⟨gr5, p_, A_p_, c_p_, rfl, hB4, hO2, hi2, dj1, H⟩
    · replace H := H.2 he1
      refine WL.y rfl (assertNoV (z := .agg ⟨[.bool false, .slice none 0 0]⟩) Tryd.underlying128 rfl (fun _ => by kernel_rfl) hv rfl (tyP_int he1)) ?_
      refine WL.y rfl (Yld.pure tab_ok rfl) ?_
      refine WL.y rfl (Yld.pure tab_ok rfl) ?_
      refine WL.nil (WX.then_normal ?_)
      refine WC.cond rfl (fun h => by cases h) (fun _ => ?_)
      refine WC.seq ?_
      refine WC.region ?_
      refine WL.y rfl (assertNoV (z := vs ([] : List UInt8)) Tryd.underlying129 rfl (fun _ => by kernel_rfl) hv rfl (tyP_no rfl v)) ?_
      refine WL.y rfl (Yld.pure tab_ok rfl) ?_
      refine WL.y rfl (Yld.pure tab_ok rfl) ?_
      refine WL.nil (WX.then_normal ?_)
      refine WC.cond rfl (fun h => by cases h) (fun _ => ?_)
      refine WC.seq ?_
      refine WC.region ?_
      refine WL.y rfl (assertNoI (z := .nilIface) Tryd.underlying132 (fun _ => by kernel_rfl) (by decide +kernel) hv rfl) ?_
      refine WL.y rfl (Yld.pure tab_ok rfl) ?_
      refine WL.y rfl (Yld.pure tab_ok rfl) ?_
      refine WL.nil (WX.then_normal ?_)
      refine WC.cond rfl (fun h => by cases h) (fun _ => ?_)
      refine WC.seq ?_
      refine WC.region ?_
      refine WL.y rfl (assertNoI (z := .nilIface) Tryd.underlying134 (fun _ => by kernel_rfl) (by decide +kernel) hv rfl) ?_
      refine WL.y rfl (Yld.pure tab_ok rfl) ?_
      refine WL.y rfl (Yld.pure tab_ok rfl) ?_
      refine WL.nil (WX.then_normal ?_)
      refine WC.cond rfl (fun h => by cases h) (fun _ => ?_)
      refine WC.seq ?_
      refine WC.region ?_
      refine WL.y rfl (assertNoI (z := .nilIface) Tryd.underlying137 (fun _ => by kernel_rfl) (by decide +kernel) hv rfl) ?_
      refine WL.y rfl (Yld.pure tab_ok rfl) ?_
      refine WL.y rfl (Yld.pure tab_ok rfl) ?_
      refine WL.nil (WX.then_normal ?_)
      refine WC.cond rfl (fun h => by cases h) (fun _ => ?_)
      refine WC.seq ?_
      refine WC.region ?_
      refine WL.y rfl (Yld.pure tab_ok rfl) ?_
      refine WL.nil (WX.then_normal ?_)
      refine WC.region ?_
      refine WL.y rfl (Yld.pure tab_ok rfl) ?_
      refine WL.y rfl (Yld.pure tab_ok rfl) ?_
      refine WL.y rfl (Yld.pure tab_ok rfl) ?_
      refine WL.call rfl rfl (W_pval_printer_parts hp_b rfl hp hv hdj0_1 (apC (hv.inp hap0 (InP.mem (List.Mem.head _))) (apC (hv.inp hap0 (InP.mem (List.Mem.tail _ (List.Mem.head _)))) apN)) H) ?_
      rintro _ w6 ⟨hgl2, p_2, A_p_2, c_p_2, rfl, hB5, hO3, hi3, dj2, H⟩
      have hi4 : InP [(some g_p), (blk A_p_b)] w.heap.size (blk A_p_2) := InP.trans hi3 (apC (InP.mem (List.Mem.head _)) (apC (InP.mem (List.Mem.tail _ (List.Mem.head _))) apN)) (Nat.le_refl _)
      have gr6 : GrL [(some g_p), (blk A_p_b)] w w6 := GrL.modL (GrL.refl _) hgl2 (apC (InP.mem (List.Mem.head _)) (apC (InP.mem (List.Mem.tail _ (List.Mem.head _))) apN))
      refine WL.nil (WX.block_normal ?_)
      exact WX.end0 rfl ⟨gr6, p_2, A_p_2, c_p_2, rfl, hB5, hO3, hi4, dj2, H⟩

set_option maxHeartbeats 8000000 in
theorem W_val_Repr {w : World} {v_v : OV} {F_v : Nat → Prop} {v : PV} {K : (List UInt8) → Prop} (hv : RelD deV w [(v_v, F_v)] [v]) (H : M_val_Repr v K) : Fn Tryd.prog 12 ⟨[v_v.1]⟩ w (fun v w' => w.grownBy w' none ∧ ∃ (r : List UInt8), v = vs r ∧ K r) := by
  unfold M_val_Repr at H
  refine Fn.enter (by kernel_rfl) Tryd.func12 rfl Tryd.ntmps12 rfl ?_
  refine WC.seq ?_
  refine WC.region ?_
  refine WL.y rfl (Yld.pure tab_ok rfl) ?_
  refine WL.nil (WX.then_normal ?_)
  refine WC.seq ?_
  refine WC.region ?_
  refine WL.y rfl (Yld.struct (us := [.slice none 0 0]) zero88 places88 rfl rfl) ?_
  refine WL.box (us := [.slice none 0 0]) rfl rfl rfl (fun g1 w1 hB1 hg1 hl1 => ?_)
  have gr1 := hg1
  refine WL.y rfl (Yld.pure tab_ok rfl) ?_
  refine WL.nil (WX.then_normal ?_)
  refine WC.seq ?_
  refine WC.region ?_
  refine WL.y rfl (Yld.pure tab_ok rfl) ?_
  refine WL.y rfl (Yld.pure tab_ok rfl) ?_
  refine WL.call rfl rfl (W_val_printer_reprT ((Own.nil vb w1 w.heap.size 5).base (fun _ _ => Nat.zero_le _)) rfl hB1 (hv.grown gr1) Dj.nr (apC (hv.new (Ge.le (Ge.box hl1) (Nat.le_refl _))) (apC (DnD.none hv) apN)) H) ?_
  rintro _ w2 ⟨hgl1, t5_, A_t5_, c_t5_, rfl, hB2, hO1, hi1, dj1, H⟩
  have hO2 := hO1.base (InP.toGe hi1 (apC (Ge.le (Ge.box hl1) (Nat.le_refl _)) (apC Ge.none apN)) (size_le gr1))
  have gr2 := gr_modL gr1 hgl1 (apC (Ge.le (Ge.box hl1) (Nat.le_refl _)) (apC Ge.none apN))
  refine WL.nil (WX.then_normal ?_)
  refine WC.seq ?_
  refine WC.region ?_
  refine WL.y rfl (Yld.pure tab_ok rfl) ?_
  refine WL.y rfl (Yld.pure tab_ok rfl) ?_
  refine WL.y rfl (Yld.pure tab_ok rfl) ?_
  refine WL.y rfl (Yld.bload tab_ok hB2 rfl rfl rfl) ?_
  refine WL.y rfl (Yld.b2s tab_ok hO2.rd rfl rfl rfl rfl rfl) ?_
  refine WL.y rfl (Yld.pure tab_ok rfl) ?_
  refine WL.nil (WX.then_normal ?_)
  refine WC.ret ?_
  exact WX.ret1 rfl rfl ⟨gr2, t5_, rfl, H⟩

set_option maxHeartbeats 8000000 in
theorem W_pval_keyer_key {S : List Nat} {B : Nat} {w : World} {g_k : Nat} {k_b : List UInt8} {A_k_b : Option Addr} {c_k_b : Nat} {k_left : Int} {v_v : OV} {F_v : Nat → Prop} {v : PV} {deep : Int} {n_k_b : Nat} {K : Er → (List UInt8) → Int → Prop} (hG : GB S B w) (hB : B ≤ w.heap.size) (hP : AllP (fun p => Ge p B) [(some g_k), (blk A_k_b)]) (hS3 : 3 ∈ S) (hS7 : 7 ∈ S) (hk_b : Own vb w 0 5 A_k_b c_k_b k_b) (hn_k_b : n_k_b = k_b.length) (hk : Bl w g_k 142 [.slice A_k_b n_k_b c_k_b, .int .i64 k_left]) (hv : RelD deV w [(v_v, F_v)] [v]) (hdj0_1 : Dj (some g_k) (blk A_k_b)) (hap0 : AllP (DnD deV [(v_v, F_v)] [v]) [(some g_k), (blk A_k_b)]) (H : M_pval_keyer_key k_b k_left v deep K) : Fn Tryd.prog 66 ⟨[.pointer (some ⟨g_k, 0, none⟩), v_v.1, .int .i64 deep]⟩ w (fun v w' => GrL [(some g_k), (blk A_k_b)] w w' ∧ ∃ (v_r : Value), ∃ (r : Er), ∃ (k_b2 : List UInt8), ∃ (A_k_b2 : Option Addr), ∃ (c_k_b2 : Nat), ∃ (k_left2 : Int), v = v_r ∧ ErrR S w' v_r r ∧ Bl w' g_k 142 [.slice A_k_b2 k_b2.length c_k_b2, .int .i64 k_left2] ∧ Own vb w' 0 5 A_k_b2 c_k_b2 k_b2 ∧ InP [(some g_k), (blk A_k_b)] w.heap.size (blk A_k_b2) ∧ Dj (some g_k) (blk A_k_b2) ∧ K r k_b2 k_left2) := by
  subst hn_k_b
  unfold M_pval_keyer_key at H
  refine Fn.enter (by kernel_rfl) Tryd.func66 rfl Tryd.ntmps66 rfl ?_
  replace H := H (Nat.le_trans hk_b.rd.cap hk_b.rd.max)
  have hNoAt : AllP (NoAt w) [(some g_k), (blk A_k_b)] := (apC (NoAt.bl hk rfl) (apC (NoAt.own hk_b rfl) apN))
  refine WC.seq ?_
  refine WC.region ?_
  refine WL.y rfl (Yld.pure tab_ok rfl) ?_
  refine WL.nil (WX.then_normal ?_)
  refine WC.seq ?_
  refine WC.seq ?_
  refine WC.region ?_
  refine WL.y rfl (Yld.pure tab_ok rfl) ?_
  refine WL.y rfl (Yld.pure tab_ok rfl) ?_
  refine WL.y rfl (Yld.pure tab_ok rfl) ?_
  refine WL.y rfl (Yld.bload tab_ok hk rfl rfl rfl) ?_
  obtain ⟨h1, H⟩ := H
  refine WL.y rfl (Yld.sub rfl rfl h1) ?_
  refine WL.y rfl (Yld.pure tab_ok rfl) ?_
  refine WL.y rfl (Yld.pure tab_ok rfl) ?_
  refine WL.store1 one3 rfl rfl rfl hk (by simp) (fun w1 hB2 hg1 => ?_)
  have hB1 : Bl w1 g_k 142 [.slice A_k_b k_b.length c_k_b, .int .i64 (k_left - (1 : Int))] := hB2
  have gr1 : GrL [(some g_k), (blk A_k_b)] w w1 := GrL.mod (GrL.refl _) hg1 (InP.mem (List.Mem.head _))
  have k1 := hk_b.go hg1 hdj0_1.symm
  refine WL.nil (WX.then_normal ?_)
  refine WC.seq ?_
  refine WC.region ?_
  refine WL.y rfl (Yld.pure tab_ok rfl) ?_
  refine WL.y rfl (Yld.pure tab_ok rfl) ?_
  refine WL.y rfl (Yld.pure tab_ok rfl) ?_
  refine WL.y rfl (Yld.bload tab_ok hB1 rfl rfl rfl) ?_
  refine WL.y rfl (Yld.pure tab_ok rfl) ?_
  refine WL.nil (WX.then_normal ?_)
  refine WC.cond rfl (fun b1 => ?_) (fun b1 => ?_)
  · replace H := H.1 (of_decide_eq_true b1)
    refine WC.seq ?_
    refine WC.region ?_
    obtain ⟨vE1, _, hE1⟩ := GOK.get (hG.goL gr1 hP).ok 7 0 hS7 rfl rfl
    refine WL.y rfl (Yld.cell tab_ok (ErrR.cell hE1 rfl) rfl rfl) ?_
    refine WL.y rfl (Yld.pure tab_ok rfl) ?_
    refine WL.nil (WX.then_normal ?_)
    refine WC.ret (WX.then_ret ?_)
    exact WX.ret1 rfl rfl ⟨gr1, vE1, (Er.e 7), k_b, A_k_b, c_k_b, k_left - (1 : Int), rfl, hE1, hB1, k1, (InP.mem (List.Mem.tail _ (List.Mem.head _))), hdj0_1, H⟩
  · replace H := H.2 (of_decide_eq_false b1)
    refine WC.skip (WX.then_normal ?_)
    refine WC.seq ?_
    obtain ⟨J1, H, hJ1⟩ := H
    refine WC.midF (fun L' w' => ∃ (k0 : List UInt8), ∃ (A_k0 : Option Addr), ∃ (c_k0 : Nat), ∃ (n_k0 : Nat), L' = [(0, .pointer (some ⟨g_k, 0, none⟩))] ∧ J1 k0 ∧ n_k0 = k0.length ∧ GrL [(some g_k), (blk A_k_b)] w w' ∧ Bl w' g_k 142 [.slice A_k0 n_k0 c_k0, .int .i64 (k_left - (1 : Int))] ∧ Own vb w' 0 5 A_k0 c_k0 k0 ∧ Dj (some g_k) (blk A_k0) ∧ InP [(some g_k), (blk A_k_b)] w.heap.size (blk A_k0)) ?_ (fun hQ => ?_)
    · clear H
      rintro _ w2 ⟨k0, A_k0, c_k0, n_k0, rfl, H, rfl, gr2, k2, k3, dj1, hi1⟩
      replace H := hJ1 k0 H
      refine WX.then_normal ?_
      refine WC.seq ?_
      refine WC.region ?_
      refine WL.y rfl (Yld.pure tab_ok rfl) ?_
      refine WL.y rfl (Yld.pure tab_ok rfl) ?_
      refine WL.y rfl (Yld.pure tab_ok rfl) ?_
      refine WL.y rfl (Yld.pure tab_ok rfl) ?_
      refine WL.y rfl (Yld.bload tab_ok k2 rfl rfl rfl) ?_
      refine WL.lit tab_ok rfl rfl rfl (all1c rfl all1n) rfl (by omega) (fun g1 w3 hB3 hg2 hl1 => ?_)
      have hO1 : Own vb w3 w.heap.size 5 (some ⟨g1, 0, none⟩) 1 ([59] : List UInt8) := Own.ofBl hB3 (Nat.le_trans (GrL.sizeL gr2) hl1) (by simp [maxLen]) rfl
      have gr3 := GrL.add0 gr2 hg2
      have k4 := k2.g0 hg2
      have k5 := k3.grown hg2
      obtain ⟨h2, H⟩ := H
      refine WL.append tab_ok rfl rfl One.b k5 rfl rfl hO1.rd rfl rfl h2 (applen h2) (Nat.zero_le _) (fun A_t175 c_t175 w4 hO2 hg3 hk1 => ?_)
      have gr4 : GrL [(some g_k), (blk A_k_b)] w w4 := GrL.mod gr3 hg3 hi1
      have k6 := k4.go hg3 dj1
      refine WL.y rfl (Yld.pure tab_ok rfl) ?_
      refine WL.y rfl (Yld.pure tab_ok rfl) ?_
      refine WL.store1 one86 rfl rfl rfl k6 (by simp) (fun w5 hB5 hg4 => ?_)
      have hB4 : Bl w5 g_k 142 [.slice A_t175 ((k0 ++ ([59] : List UInt8)).length) c_t175, .int .i64 (k_left - (1 : Int))] := hB5
      have gr5 : GrL [(some g_k), (blk A_k_b)] w w5 := GrL.mod gr4 hg4 (InP.mem (List.Mem.head _))
      have k7 := hO2.go hg4 (Dj.app dj1.symm k4.lt' hk1)
      refine WL.nil (WX.then_normal ?_)
      refine WC.seq ?_
      refine WC.region ?_
      refine WL.y rfl (Yld.pure tab_ok rfl) ?_
      refine WL.nil (WX.then_normal ?_)
      refine WC.ret ?_
      exact WX.ret1 rfl rfl ⟨gr5, .nilIface, Er.ok, (k0 ++ ([59] : List UInt8)), A_t175, c_t175, k_left - (1 : Int), rfl, (ErrR.okR (S := S) (w := w5)), hB4, k7, (InP.app hi1 hk1 (GrL.sizeL gr3)), (Dj.app dj1.symm k4.lt' hk1).symm, H⟩
    · clear hJ1
      refine WC.seq ?_
      refine WC.region ?_
      refine WL.y rfl (Yld.pure tab_ok rfl) ?_
      refine WL.nil (WX.then_normal ?_)
      refine WC.block ?_
      refine WC.seq ?_
      refine WC.region ?_
      obtain ⟨h3, H⟩ := H
      refine WL.y rfl (assertNoV (z := .agg ⟨[]⟩) Tryd.underlying101 rfl (fun _ => by kernel_rfl) (hv.goL gr1 hap0) rfl (tyP_none h3)) ?_
      refine WL.y rfl (Yld.pure tab_ok rfl) ?_
      refine WL.y rfl (Yld.pure tab_ok rfl) ?_
      refine WL.nil (WX.then_normal ?_)
      refine WC.cond rfl (fun h => by cases h) (fun _ => ?_)
      refine WC.seq ?_
      refine WC.region ?_
      refine WL.y rfl (assertNoV (z := .bool false) Tryd.underlying125 rfl (fun _ => by kernel_rfl) (hv.goL gr1 hap0) rfl (tyP_no rfl v)) ?_
      refine WL.y rfl (Yld.pure tab_ok rfl) ?_
      refine WL.y rfl (Yld.pure tab_ok rfl) ?_
      refine WL.nil (WX.then_normal ?_)
      refine WC.cond rfl (fun h => by cases h) (fun _ => ?_)
      refine WC.seq ?_
      refine WC.region ?_
      rcases PV.intCases v with ⟨z, he1⟩ | he1
      · replace H := H.1 z he1
        obtain ⟨a, b, hv1, hN1, one1, one2, hL1⟩ := VR.intOut (hv.goL gr1 hap0) he1
        refine WL.y rfl (assertYesV Tryd.underlying128 rfl rfl hv1) ?_
        refine WL.y rfl (Yld.pure tab_ok rfl) ?_
        refine WL.y rfl (Yld.pure tab_ok rfl) ?_
        refine WL.nil (WX.then_normal ?_)
        refine WC.cond rfl (fun _ => ?_) (fun h => by cases h)
        refine WC.seq ?_
        refine WC.region ?_
        refine WL.alloc rfl zero128 (fun g2 w6 hB6 hg5 hl2 => ?_)
        have gr6 := GrL.add0 gr1 hg5
        have k8 := k1.grown hg5
        have k9 := hB1.g0 hg5
        have k10 := hN1.grown hg5
        refine WL.storeW (vs := [a, b]) tab_ok rfl rfl rfl (all1c one1 (all1c one2 all1n)) hB6 rfl rfl (fun w7 hB7 hg6 => ?_)
        have gr7 : GrL [(some g_k), (blk A_k_b)] w w7 := GrL.mod gr6 hg6 (InP.ge (Ge.le (Ge.box hl2) (GrL.sizeL gr1)))
        have k11 := k8.go hg6 (Dj.new k1.lt' (Ge.box hl2))
        have k12 := k9.go hg6 (Dj.new hB1.lt' (Ge.box hl2))
        have k13 := Nm.goV k10 hL1 (GrL.of1 hg6) (apC (DnD.one (hv.inp hap0 (InP.ge (Ge.le (Ge.box hl2) (GrL.sizeL gr1))))) apN)
        refine WL.nil (WX.then_normal ?_)
        refine WC.seq ?_
        refine WC.region ?_
        refine WL.y rfl (Yld.pure tab_ok rfl) ?_
        refine WL.y rfl (Yld.pure tab_ok rfl) ?_
        refine WL.y rfl (Yld.pure tab_ok rfl) ?_
        refine WL.y rfl (Yld.pure tab_ok rfl) ?_
        refine WL.y rfl (Yld.bload tab_ok k12 rfl rfl rfl) ?_
        refine WL.lit tab_ok rfl rfl rfl (all1c rfl all1n) rfl (by omega) (fun g3 w8 hB8 hg7 hl3 => ?_)
        have hO3 : Own vb w8 w.heap.size 5 (some ⟨g3, 0, none⟩) 1 ([73] : List UInt8) := Own.ofBl hB8 (Nat.le_trans (GrL.sizeL gr7) hl3) (by simp [maxLen]) rfl
        have gr8 := GrL.add0 gr7 hg7
        have k14 := k11.grown hg7
        have k15 := k12.g0 hg7
        have k16 := k13.grown hg7
        have k17 := hB7.g0 hg7
        obtain ⟨h4, H⟩ := H
        refine WL.append tab_ok rfl rfl One.b k14 rfl rfl hO3.rd rfl rfl h4 (applen h4) (Nat.zero_le _) (fun A_t73 c_t73 w9 hO4 hg8 hk2 => ?_)
        have gr9 : GrL [(some g_k), (blk A_k_b)] w w9 := GrL.mod gr8 hg8 (InP.mem (List.Mem.tail _ (List.Mem.head _)))
        have k18 := k15.go hg8 hdj0_1
        have k19 := Nm.goV k16 hL1 (GrL.of1 hg8) (apC (DnD.one (hv.inp hap0 (InP.mem (List.Mem.tail _ (List.Mem.head _))))) apN)
        have k20 := k17.go hg8 ((Dj.new k1.lt' (Ge.box hl2)).symm)
        refine WL.y rfl (Yld.pure tab_ok rfl) ?_
        refine WL.y rfl (Yld.pure tab_ok rfl) ?_
        refine WL.store1 one86 rfl rfl rfl k18 (by simp) (fun w10 hB10 hg9 => ?_)
        have hB9 : Bl w10 g_k 142 [.slice A_t73 ((k_b ++ ([73] : List UInt8)).length) c_t73, .int .i64 (k_left - (1 : Int))] := hB10
        have gr10 : GrL [(some g_k), (blk A_k_b)] w w10 := GrL.mod gr9 hg9 (InP.mem (List.Mem.head _))
        have k21 := Nm.goV k19 hL1 (GrL.of1 hg9) (apC (DnD.one (hv.inp hap0 (InP.mem (List.Mem.head _)))) apN)
        have k22 := k20.go hg9 ((Dj.new hB1.lt' (Ge.box hl2)).symm)
        have k23 := hO4.go hg9 (Dj.app hdj0_1.symm k15.lt' hk2)
        refine WL.nil (WX.then_normal ?_)
        refine WC.chainF (fun k => !(Nat.beq k 7 || Nat.beq k 8 || Nat.beq k 11)) (LD [4, 6] (fun w' => Bl w' g_k 142 [.slice A_t73 ((k_b ++ ([73] : List UInt8)).length) c_t73, .int .i64 (k_left - (1 : Int))] ∧ Bl w' g2 128 [a, b])) mixed (by kernel_rfl) (fun k w' h _ => ⟨(bl_eqv h hB9), (bl_eqv h k22)⟩) ?_
        refine WJ.y rfl rfl (fun w' hw' => Yld.pure tab_ok rfl) ?_
        refine WJ.y rfl rfl (fun w' hw' => Yld.pure tab_ok rfl) ?_
        refine WJ.y rfl rfl (fun w' hw' => Yld.pure tab_ok rfl) ?_
        refine WJ.y rfl rfl (fun w' hw' => Yld.pure tab_ok rfl) ?_
        refine WJ.y rfl rfl (fun w' hw' => Yld.bload tab_ok (hw' rfl).1 rfl rfl rfl) ?_
        refine WJ.y rfl rfl (fun w' hw' => Yld.fa0 (o := 0) (by kernel_rfl) rfl) ?_
        refine WJ.y rfl rfl (fun w' hw' => Yld.bagg (vs := [a, b]) tab_ok (hw' rfl).2 rfl rfl rfl rfl) ?_
        refine WJ.call rfl (wants_none) rfl rfl (W_num_Num_Text k21 H) (fun v w' h w2 e => DD.keep (⟨(Bl.g0 hB9 (gr_eqv h.1 e)), (Bl.g0 k22 (gr_eqv h.1 e))⟩)) ?_
        rintro _ w11 ⟨hg10, t83, rfl, H⟩
        have gr11 := GrL.add0 gr10 hg10
        have k24 := hB9.g0 hg10
        have k25 := k22.g0 hg10
        have k26 := k23.grown hg10
        obtain ⟨h5, H⟩ := H
        refine WJ.putw rfl (wants_none) rfl (Eff.appendS tab_ok rfl rfl k26 rfl rfl rfl h5 (applen h5) (Nat.zero_le _)) (fun v w' ⟨_, _, _, _, h, _⟩ => DD.keep (⟨(Bl.go k24 (gr_eqv h (Eqv.refl _)) (Dj.app hdj0_1.symm k15.lt' hk2).symm), (Bl.go k25 (gr_eqv h (Eqv.refl _)) (Dj.app (Dj.new k1.lt' (Ge.box hl2)) k17.lt' hk2).symm)⟩)) ?_
        rintro _ w12 ⟨A_t84, c_t84, rfl, hO5, hg11, hk3⟩
        have gr12 : GrL [(some g_k), (blk A_k_b)] w w12 := GrL.mod gr11 hg11 (InP.app (InP.mem (List.Mem.tail _ (List.Mem.head _))) hk2 (GrL.sizeL gr8))
        have k27 := k24.go hg11 ((Dj.app hdj0_1.symm k15.lt' hk2).symm)
        have k28 := k25.go hg11 ((Dj.app (Dj.new k1.lt' (Ge.box hl2)) k17.lt' hk2).symm)
        refine WJ.y rfl rfl (fun w' hw' => Yld.pure tab_ok rfl) ?_
        refine WJ.y rfl rfl (fun w' hw' => Yld.pure tab_ok rfl) ?_
        refine WJ.eff rfl (Ef0.store1 one86 rfl rfl rfl k27 (by simp)) (fun w' h => DD.past (by kernel_rfl)) ?_
        rintro w13 ⟨hB12, hg12⟩
        have hB11 : Bl w13 g_k 142 [.slice A_t84 (((k_b ++ ([73] : List UInt8)) ++ t83).length) c_t84, .int .i64 (k_left - (1 : Int))] := hB12
        have gr13 : GrL [(some g_k), (blk A_k_b)] w w13 := GrL.mod gr12 hg12 (InP.mem (List.Mem.head _))
        have k29 := k28.go hg12 ((Dj.new hB1.lt' (Ge.box hl2)).symm)
        have k30 := hO5.go hg12 (Dj.app (Dj.app hdj0_1.symm k15.lt' hk2) k24.lt' hk3)
        refine WJ.nil (WX.block_normal ?_)
        exact WX.weaken (by repeat (first | exact Sub.nil | refine Sub.cons rfl ?_)) (hQ _ _ ⟨(k_b ++ ([73] : List UInt8)) ++ t83, A_t84, c_t84, ((k_b ++ ([73] : List UInt8)) ++ t83).length, rfl, H, rfl, gr13, hB11, k30, (Dj.app (Dj.app hdj0_1.symm k15.lt' hk2) k24.lt' hk3).symm, (InP.app (InP.app (InP.mem (List.Mem.tail _ (List.Mem.head _))) hk2 (GrL.sizeL gr8)) hk3 (GrL.sizeL gr11))⟩)
      · replace H := H.2 he1
        refine WL.y rfl (assertNoV (z := .agg ⟨[.bool false, .slice none 0 0]⟩) Tryd.underlying128 rfl (fun _ => by kernel_rfl) (hv.goL gr1 hap0) rfl (tyP_int he1)) ?_
        refine WL.y rfl (Yld.pure tab_ok rfl) ?_
        refine WL.y rfl (Yld.pure tab_ok rfl) ?_
        refine WL.nil (WX.then_normal ?_)
        refine WC.cond rfl (fun h => by cases h) (fun _ => ?_)
        refine WC.seq ?_
        refine WC.region ?_
        refine WL.y rfl (assertNoV (z := vs ([] : List UInt8)) Tryd.underlying129 rfl (fun _ => by kernel_rfl) (hv.goL gr1 hap0) rfl (tyP_no rfl v)) ?_
        refine WL.y rfl (Yld.pure tab_ok rfl) ?_
        refine WL.y rfl (Yld.pure tab_ok rfl) ?_
        refine WL.nil (WX.then_normal ?_)
        refine WC.cond rfl (fun h => by cases h) (fun _ => ?_)
        refine WC.seq ?_
        refine WC.region ?_
        rcases PV.tupCases v with ⟨l, he2⟩ | he2
        · replace H := H.1 l he2
          obtain ⟨g_t, A_t, c_t, hs_t, hv2, hB13, hR1, hr1, hd1, hd2, hd3⟩ := VR.tupOut (hv.goL gr1 hap0) he2
          refine WL.y rfl (assertYesV Tryd.underlying113 rfl rfl hv2) ?_
          refine WL.y rfl (Yld.pure tab_ok rfl) ?_
          refine WL.y rfl (Yld.pure tab_ok rfl) ?_
          refine WL.nil (WX.then_normal ?_)
          refine WC.cond rfl (fun _ => ?_) (fun h => by cases h)
          refine WC.seq ?_
          refine WC.region ?_
          refine WL.y rfl (Yld.pure tab_ok rfl) ?_
          refine WL.nil (WX.then_normal ?_)
          refine WC.seq ?_
          refine WC.seq ?_
          refine WC.region ?_
          refine WL.y rfl (Yld.pure tab_ok rfl) ?_
          refine WL.y rfl (Yld.pure tab_ok rfl) ?_
          refine WL.nil (WX.then_normal ?_)
          refine WC.cond rfl (fun b2 => ?_) (fun b2 => ?_)
          · replace H := H.1 (of_decide_eq_true b2)
            refine WC.seq ?_
            refine WC.region ?_
            obtain ⟨vE2, _, hE2⟩ := GOK.get (hG.goL gr1 hP).ok 7 0 hS7 rfl rfl
            refine WL.y rfl (Yld.cell tab_ok (ErrR.cell hE2 rfl) rfl rfl) ?_
            refine WL.y rfl (Yld.pure tab_ok rfl) ?_
            refine WL.nil (WX.then_normal ?_)
            refine WC.ret (WX.then_ret (WX.block_ret (WX.then_ret ?_)))
            exact WX.ret1 rfl rfl ⟨gr1, vE2, (Er.e 7), k_b, A_k_b, c_k_b, k_left - (1 : Int), rfl, hE2, hB1, k1, (InP.mem (List.Mem.tail _ (List.Mem.head _))), hdj0_1, H⟩
          · replace H := H.2 (of_decide_eq_false b2)
            refine WC.skip (WX.then_normal ?_)
            refine WC.seq ?_
            refine WC.region ?_
            refine WL.y rfl (Yld.pure tab_ok rfl) ?_
            refine WL.y rfl (Yld.pure tab_ok rfl) ?_
            refine WL.y rfl (Yld.pure tab_ok rfl) ?_
            refine WL.y rfl (Yld.pure tab_ok rfl) ?_
            refine WL.y rfl (Yld.bload tab_ok hB1 rfl rfl rfl) ?_
            refine WL.lit tab_ok rfl rfl rfl (all1c rfl all1n) rfl (by omega) (fun g4 w14 hB14 hg13 hl4 => ?_)
            have hO6 : Own vb w14 w.heap.size 5 (some ⟨g4, 0, none⟩) 1 ([84] : List UInt8) := Own.ofBl hB14 (Nat.le_trans (GrL.sizeL gr1) hl4) (by simp [maxLen]) rfl
            have gr14 := GrL.add0 gr1 hg13
            have k31 := k1.grown hg13
            have k32 := hB1.g0 hg13
            have k33 := hR1.grown hg13
            have k34 := hr1.grown hg13
            have k35 := hB13.g0 hg13
            obtain ⟨h6, H⟩ := H
            refine WL.append tab_ok rfl rfl One.b k31 rfl rfl hO6.rd rfl rfl h6 (applen h6) (Nat.zero_le _) (fun A_t139 c_t139 w15 hO7 hg14 hk4 => ?_)
            have gr15 : GrL [(some g_k), (blk A_k_b)] w w15 := GrL.mod gr14 hg14 (InP.mem (List.Mem.tail _ (List.Mem.head _)))
            have k36 := k32.go hg14 hdj0_1
            have k37 := k33.go hg14 (hd2 _ (hv.inp hap0 (InP.mem (List.Mem.tail _ (List.Mem.head _)))))
            have k38 := k34.go hg14 (hd3 _ (hv.inp hap0 (InP.mem (List.Mem.tail _ (List.Mem.head _)))))
            have k39 := k35.go hg14 (hd1 _ (hv.inp hap0 (InP.mem (List.Mem.tail _ (List.Mem.head _)))))
            refine WL.y rfl (Yld.pure tab_ok rfl) ?_
            refine WL.y rfl (Yld.pure tab_ok rfl) ?_
            refine WL.store1 one86 rfl rfl rfl k36 (by simp) (fun w16 hB16 hg15 => ?_)
            have hB15 : Bl w16 g_k 142 [.slice A_t139 ((k_b ++ ([84] : List UInt8)).length) c_t139, .int .i64 (k_left - (1 : Int))] := hB16
            have gr16 : GrL [(some g_k), (blk A_k_b)] w w16 := GrL.mod gr15 hg15 (InP.mem (List.Mem.head _))
            have k40 := k37.go hg15 (hd2 _ (hv.inp hap0 (InP.mem (List.Mem.head _))))
            have k41 := k38.go hg15 (hd3 _ (hv.inp hap0 (InP.mem (List.Mem.head _))))
            have k42 := k39.go hg15 (hd1 _ (hv.inp hap0 (InP.mem (List.Mem.head _))))
            have k43 := hO7.go hg15 (Dj.app hdj0_1.symm k32.lt' hk4)
            refine WL.nil (WX.then_normal ?_)
            refine WC.seq ?_
            refine WC.seq ?_
            refine WC.region ?_
            refine WL.y rfl (Yld.pure tab_ok rfl) ?_
            refine WL.y rfl (Yld.pure tab_ok rfl) ?_
            refine WL.y rfl (Yld.fa0 (o := 0) (by kernel_rfl) rfl) ?_
            refine WL.y rfl (Yld.bload tab_ok k42 rfl rfl rfl) ?_
            refine WL.y rfl (Yld.pure tab_ok rfl) ?_
            refine WL.y rfl (Yld.pure tab_ok rfl) ?_
            refine WL.nil (WX.then_normal ?_)
            refine WC.block ?_
            obtain ⟨I1, mu1, h0_1, HR1⟩ := H
            refine WC.loopF (fun n' L' w' => ∃ (t147 : Int), n' = mu1 t147 ∧ L' = [(0, .pointer (some ⟨g_k, 0, none⟩)), (2, .int .i64 deep), (145, .slice A_t ((l.map PV.int).length) c_t), (146, .int .i64 ((l.map PV.int).length : Int)), (147, .int .i64 t147)] ∧ I1 t147 ∧ GrL [(some g_k), (blk A_k_b)] w w' ∧ Bl w' g_k 142 [.slice A_t139 ((k_b ++ ([84] : List UInt8)).length) c_t139, .int .i64 (k_left - (1 : Int))] ∧ Rd vv w' A_t c_t hs_t ∧ RelD deV w' hs_t (l.map PV.int) ∧ Own vb w' 0 5 A_t139 c_t139 (k_b ++ ([84] : List UInt8)) ∧ Dj (some g_k) (blk A_t139) ∧ Dn hs_t (blk A_t) (some g_k) ∧ Dn hs_t (blk A_t) (blk A_t139) ∧ DnD deV hs_t (l.map PV.int) (some g_k) ∧ DnD deV hs_t (l.map PV.int) (blk A_t139)) _ _ ⟨(0 : Int), rfl, rfl, h0_1, gr16, hB15, k40, k41, k43, (Dj.app hdj0_1.symm k32.lt' hk4).symm, (hd2 _ (hv.inp hap0 (InP.mem (List.Mem.head _)))), (Dn.app (hd2 _ (hv.inp hap0 (InP.mem (List.Mem.tail _ (List.Mem.head _))))) (fun hx => k33.lt' hx) hk4), (hd3 _ (hv.inp hap0 (InP.mem (List.Mem.head _)))), (RelD.app k34 (hd3 _ (hv.inp hap0 (InP.mem (List.Mem.tail _ (List.Mem.head _))))) hk4)⟩ (by repeat (first | exact Sub.nil | refine Sub.cons rfl ?_)) ?_
            clear h0_1
            rintro _ _ w17 ⟨t147, rfl, rfl, hI1, gr17, k44, k45, k46, k47, dj2, dj3, dj4, dj5, dj6⟩
            have H := HR1 t147 hI1
            refine WC.seq ?_
            refine WC.region ?_
            refine WL.y rfl (Yld.pure tab_ok rfl) ?_
            refine WL.nil (WX.then_normal ?_)
            refine WC.seq ?_
            refine WC.cond rfl (fun b3 => ?_) (fun b3 => ?_)
            · replace H := H.1 (of_decide_eq_true b3)
              refine WC.skip (WX.then_normal ?_)
              refine WC.seq ?_
              refine WC.block ?_
              refine WC.seq ?_
              refine WC.region ?_
              obtain ⟨h7, H⟩ := H
              refine WL.y rfl (Yld.iaddrW tab_ok k45 rfl rfl hr1.1.symm rfl h7.1 h7.2) ?_
              obtain ⟨⟨v_el, F_el⟩, eh1, hR2⟩ := RelD.at k46 vh0 PV.nil (j := t147.toNat) (Nat.lt_of_lt_of_eq (iltN h7 hr1.1.symm) k46.1)
              have hv3 : RelD deV w17 [(v_el, F_el)] [(l.map PV.int).getD t147.toNat PV.nil] := RelD.cons hR2 RelD.nil
              refine WL.y rfl (Yld.to (v := v_el.1) (Yld.iload vh0 tab_ok k45 rfl rfl (iltN h7 hr1.1.symm)) (congrArg vv eh1)) ?_
              refine WL.y rfl (Yld.pure tab_ok rfl) ?_
              refine WL.nil (WX.then_normal ?_)
              refine WC.seq ?_
              refine WC.region ?_
              refine WL.y rfl (Yld.pure tab_ok rfl) ?_
              refine WL.y rfl (Yld.pure tab_ok rfl) ?_
              refine WL.y rfl (Yld.pure tab_ok rfl) ?_
              obtain ⟨h8, H⟩ := H
              refine WL.y rfl (Yld.add rfl rfl h8) ?_
              exact False.elim H
            · replace H := H.2 (of_decide_eq_false b3)
              refine WC.exit (WX.then_exit (WX.then_exit (WX.block_same (WX.then_normal ?_))))
              refine WC.region ?_
              refine WL.y rfl (Yld.pure tab_ok rfl) ?_
              refine WL.y rfl (Yld.pure tab_ok rfl) ?_
              refine WL.y rfl (Yld.pure tab_ok rfl) ?_
              refine WL.y rfl (Yld.pure tab_ok rfl) ?_
              refine WL.y rfl (Yld.bload tab_ok k44 rfl rfl rfl) ?_
              refine WL.lit tab_ok rfl rfl rfl (all1c rfl all1n) rfl (by omega) (fun g5 w18 hB17 hg16 hl5 => ?_)
              have hO8 : Own vb w18 w.heap.size 5 (some ⟨g5, 0, none⟩) 1 ([69] : List UInt8) := Own.ofBl hB17 (Nat.le_trans (GrL.sizeL gr17) hl5) (by simp [maxLen]) rfl
              have gr18 := GrL.add0 gr17 hg16
              have k48 := k44.g0 hg16
              have k49 := k47.grown hg16
              obtain ⟨h9, H⟩ := H
              refine WL.append tab_ok rfl rfl One.b k49 rfl rfl hO8.rd rfl rfl h9 (applen h9) (Nat.zero_le _) (fun A_t166 c_t166 w19 hO9 hg17 hk5 => ?_)
              have gr19 : GrL [(some g_k), (blk A_k_b)] w w19 := GrL.mod gr18 hg17 (InP.app (InP.mem (List.Mem.tail _ (List.Mem.head _))) hk4 (GrL.sizeL gr14))
              have k50 := k48.go hg17 dj2
              refine WL.y rfl (Yld.pure tab_ok rfl) ?_
              refine WL.y rfl (Yld.pure tab_ok rfl) ?_
              refine WL.store1 one86 rfl rfl rfl k50 (by simp) (fun w20 hB19 hg18 => ?_)
              have hB18 : Bl w20 g_k 142 [.slice A_t166 (((k_b ++ ([84] : List UInt8)) ++ ([69] : List UInt8)).length) c_t166, .int .i64 (k_left - (1 : Int))] := hB19
              have gr20 : GrL [(some g_k), (blk A_k_b)] w w20 := GrL.mod gr19 hg18 (InP.mem (List.Mem.head _))
              have k51 := hO9.go hg18 (Dj.app dj2.symm k48.lt' hk5)
              refine WL.nil (WX.block_normal ?_)
              exact WX.weaken (by repeat (first | exact Sub.nil | refine Sub.cons rfl ?_)) (hQ _ _ ⟨(k_b ++ ([84] : List UInt8)) ++ ([69] : List UInt8), A_t166, c_t166, ((k_b ++ ([84] : List UInt8)) ++ ([69] : List UInt8)).length, rfl, H, rfl, gr20, hB18, k51, (Dj.app dj2.symm k48.lt' hk5).symm, (InP.app (InP.app (InP.mem (List.Mem.tail _ (List.Mem.head _))) hk4 (GrL.sizeL gr14)) hk5 (GrL.sizeL gr18))⟩)
        · replace H := H.2 he2
          refine WL.y rfl (assertNoV (z := .pointer none) Tryd.underlying113 rfl (fun _ => by kernel_rfl) (hv.goL gr1 hap0) rfl (tyP_tup he2)) ?_
          refine WL.y rfl (Yld.pure tab_ok rfl) ?_
          refine WL.y rfl (Yld.pure tab_ok rfl) ?_
          refine WL.nil (WX.then_normal ?_)
          refine WC.cond rfl (fun h => by cases h) (fun _ => ?_)
          refine WC.seq ?_
          refine WC.region ?_
          refine WL.y rfl (Yld.pure tab_ok rfl) ?_
          refine WL.nil (WX.then_normal ?_)
          refine WC.seq ?_
          refine WC.region ?_
          obtain ⟨vE3, _, hE3⟩ := GOK.get (hG.goL gr1 hP).ok 3 1 hS3 rfl rfl
          refine WL.y rfl (Yld.cell tab_ok (ErrR.cell hE3 rfl) rfl rfl) ?_
          refine WL.y rfl (Yld.pure tab_ok rfl) ?_
          refine WL.nil (WX.then_normal ?_)
          refine WC.ret (WX.block_ret (WX.then_ret ?_))
          exact WX.ret1 rfl rfl ⟨gr1, vE3, (Er.e 3), k_b, A_k_b, c_k_b, k_left - (1 : Int), rfl, hE3, hB1, k1, (InP.mem (List.Mem.tail _ (List.Mem.head _))), hdj0_1, H⟩

set_option maxHeartbeats 8000000 in
theorem W_val_Key {S : List Nat} {w : World} {v_v : OV} {F_v : Nat → Prop} {v : PV} {K : (List UInt8) → Er → Prop} (hG : GOK S w) (hS3 : 3 ∈ S) (hS7 : 7 ∈ S) (hv : RelD deV w [(v_v, F_v)] [v]) (H : M_val_Key v K) : Fn Tryd.prog 41 ⟨[v_v.1]⟩ w (fun v w' => w.grownBy w' none ∧ ∃ (r0 : List UInt8), ∃ (v_r1 : Value), ∃ (r1 : Er), v = .tuple #[vs r0, v_r1] ∧ ErrR S w' v_r1 r1 ∧ K r0 r1) := by
  unfold M_val_Key at H
  refine Fn.enter (by kernel_rfl) Tryd.func41 rfl Tryd.ntmps41 rfl ?_
  refine WC.seq ?_
  refine WC.region ?_
  refine WL.y rfl (Yld.pure tab_ok rfl) ?_
  refine WL.y rfl (Yld.pure tab_ok rfl) ?_
  refine WL.nil (WX.then_normal ?_)
  refine WC.seq ?_
  refine WC.region ?_
  refine WL.y rfl (Yld.struct (us := [.slice none 0 0, .int .i64 (4096 : Int)]) zero142 places142 rfl rfl) ?_
  refine WL.box (us := [.slice none 0 0, .int .i64 (4096 : Int)]) rfl rfl rfl (fun g1 w1 hB1 hg1 hl1 => ?_)
  have gr1 := hg1
  refine WL.y rfl (Yld.pure tab_ok rfl) ?_
  refine WL.nil (WX.then_normal ?_)
  refine WC.seq ?_
  refine WC.seq ?_
  refine WC.region ?_
  refine WL.y rfl (Yld.pure tab_ok rfl) ?_
  refine WL.y rfl (Yld.pure tab_ok rfl) ?_
  refine WL.call rfl rfl (W_pval_keyer_key (GB.grown hG gr1) (size_le gr1) (apC (Ge.le (Ge.box hl1) (Nat.le_refl _)) (apC (show Ge (blk none) _ from Ge.none) apN)) hS3 hS7 ((Own.nil vb w1 w.heap.size 5).base (fun _ _ => Nat.zero_le _)) rfl hB1 (hv.grown gr1) Dj.nr (apC (hv.new (Ge.le (Ge.box hl1) (Nat.le_refl _))) (apC (DnD.none hv) apN)) H) ?_
  rintro v_err w2 ⟨hgl1, _, err, t7_, A_t7_, c_t7_, t7_2, rfl, herr, hB2, hO1, hi1, dj1, H⟩
  have hO2 := hO1.base (InP.toGe hi1 (apC (Ge.le (Ge.box hl1) (Nat.le_refl _)) (apC Ge.none apN)) (size_le gr1))
  have gr2 := gr_modL gr1 hgl1 (apC (Ge.le (Ge.box hl1) (Nat.le_refl _)) (apC Ge.none apN))
  refine WL.y rfl (Yld.pure tab_ok rfl) ?_
  refine WL.nil (WX.then_normal ?_)
  refine WC.seq ?_
  refine WC.region ?_
  refine WL.y rfl (Yld.pure tab_ok rfl) ?_
  refine WL.y rfl (Yld.errneq Tryd.underlying34 herr rfl) ?_
  refine WL.nil (WX.then_normal ?_)
  refine WC.cond rfl (fun b1 => ?_) (fun b1 => ?_)
  · replace H := H.1 (nd_true b1)
    refine WC.seq ?_
    refine WC.region ?_
    refine WL.y rfl (Yld.pure tab_ok rfl) ?_
    refine WL.y rfl (Yld.pure tab_ok rfl) ?_
    refine WL.y rfl (Yld.pure tab_ok rfl) ?_
    refine WL.nil (WX.then_normal ?_)
    refine WC.ret (WX.then_ret ?_)
    exact WX.ret2 rfl rfl rfl ⟨gr2, ([] : List UInt8), v_err, err, rfl, herr, H⟩
  · replace H := H.2 (nd_false b1)
    refine WC.skip (WX.then_normal ?_)
    refine WC.seq ?_
    refine WC.region ?_
    refine WL.y rfl (Yld.pure tab_ok rfl) ?_
    refine WL.y rfl (Yld.pure tab_ok rfl) ?_
    refine WL.y rfl (Yld.pure tab_ok rfl) ?_
    refine WL.y rfl (Yld.bload tab_ok hB2 rfl rfl rfl) ?_
    refine WL.y rfl (Yld.b2s tab_ok hO2.rd rfl rfl rfl rfl rfl) ?_
    refine WL.y rfl (Yld.pure tab_ok rfl) ?_
    refine WL.y rfl (Yld.pure tab_ok rfl) ?_
    refine WL.nil (WX.then_normal ?_)
    refine WC.ret ?_
    exact WX.ret2 rfl rfl rfl ⟨gr2, t7_, .nilIface, Er.ok, rfl, (ErrR.okR (S := S) (w := w2)), H⟩

set_option maxHeartbeats 8000000 in
theorem W_val_weight {w : World} {v_v : OV} {F_v : Nat → Prop} {v : PV} {most : Int} {K : Int → Prop} (hv : RelD deV w [(v_v, F_v)] [v]) (H : M_val_weight v most K) : Fn Tryd.prog 65 ⟨[v_v.1, .int .i64 most]⟩ w (fun v w' => w.grownBy w' none ∧ ∃ (r : Int), v = .int .i64 r ∧ K r) := by
  unfold M_val_weight at H
  refine Fn.enter (by kernel_rfl) Tryd.func65 rfl Tryd.ntmps65 rfl ?_
  refine WC.seq ?_
  refine WC.region ?_
  refine WL.y rfl (Yld.pure tab_ok rfl) ?_
  refine WL.nil (WX.then_normal ?_)
  refine WC.seq ?_
  refine WC.region ?_
  refine WL.y rfl (Yld.pure tab_ok rfl) ?_
  refine WL.nil (WX.then_normal ?_)
  refine WC.seq ?_
  obtain ⟨J1, H, hJ1⟩ := H
  refine WC.midF (fun L' w' => ∃ (l : List PV), ∃ (A_l : Option Addr), ∃ (c_l : Nat), ∃ (n_l : Nat), ∃ (hs_l : List VH), L' = [(1, .int .i64 most), (5, .slice A_l n_l c_l)] ∧ J1 l ∧ n_l = l.length ∧ w = w' ∧ Rd vv w' A_l c_l hs_l ∧ RelD deV w' hs_l l) ?_ (fun hQ => ?_)
  · clear H
    rintro _ _ ⟨l, A_l, c_l, n_l, hs_l, rfl, H, rfl, rfl, k1, k2⟩
    replace H := hJ1 l H
    refine WX.then_normal ?_
    refine WC.seq ?_
    refine WC.region ?_
    refine WL.y rfl (Yld.pure tab_ok rfl) ?_
    refine WL.nil (WX.then_normal ?_)
    refine WC.seq ?_
    refine WC.seq ?_
    refine WC.region ?_
    refine WL.y rfl (Yld.pure tab_ok rfl) ?_
    refine WL.y rfl (Yld.pure tab_ok rfl) ?_
    refine WL.y rfl (Yld.pure tab_ok rfl) ?_
    refine WL.nil (WX.then_normal ?_)
    refine WC.block ?_
    obtain ⟨I1, mu1, h0_1, HR1⟩ := H
    refine WC.loopF (fun n' L' w' => ∃ (n : Int), ∃ (t63 : Int), n' = mu1 n t63 ∧ L' = [(1, .int .i64 most), (12, .int .i64 n), (61, .slice A_l l.length c_l), (62, .int .i64 (l.length : Int)), (63, .int .i64 t63)] ∧ I1 n t63 ∧ w.grownBy w' none ∧ Rd vv w' A_l c_l hs_l ∧ RelD deV w' hs_l l) _ _ ⟨(1 : Int), (0 : Int), rfl, rfl, h0_1, (gr_refl _ _), k1, k2⟩ (by repeat (first | exact Sub.nil | refine Sub.cons rfl ?_)) ?_
    clear h0_1
    rintro _ _ w1 ⟨n, t63, rfl, rfl, hI1, gr1, k3, k4⟩
    have H := HR1 n t63 hI1
    refine WC.seq ?_
    refine WC.region ?_
    refine WL.y rfl (Yld.pure tab_ok rfl) ?_
    refine WL.nil (WX.then_normal ?_)
    refine WC.seq ?_
    refine WC.cond rfl (fun b1 => ?_) (fun b1 => ?_)
    · replace H := H.1 (of_decide_eq_true b1)
      refine WC.skip (WX.then_normal ?_)
      refine WC.seq ?_
      refine WC.block ?_
      refine WC.seq ?_
      refine WC.region ?_
      obtain ⟨h1, H⟩ := H
      refine WL.y rfl (Yld.iaddrW tab_ok k3 rfl rfl k2.1.symm rfl h1.1 h1.2) ?_
      obtain ⟨⟨v_el, F_el⟩, eh1, hR1⟩ := RelD.at k4 vh0 PV.nil (j := t63.toNat) (Nat.lt_of_lt_of_eq (iltN h1 k2.1.symm) k4.1)
      have hv1 : RelD deV w1 [(v_el, F_el)] [l.getD t63.toNat PV.nil] := RelD.cons hR1 RelD.nil
      refine WL.y rfl (Yld.to (v := v_el.1) (Yld.iload vh0 tab_ok k3 rfl rfl (iltN h1 k2.1.symm)) (congrArg vv eh1)) ?_
      refine WL.y rfl (Yld.pure tab_ok rfl) ?_
      refine WL.nil (WX.then_normal ?_)
      refine WC.seq ?_
      refine WC.seq ?_
      refine WC.region ?_
      refine WL.y rfl (Yld.pure tab_ok rfl) ?_
      refine WL.y rfl (Yld.pure tab_ok rfl) ?_
      refine WL.y rfl (Yld.pure tab_ok rfl) ?_
      refine WL.nil (WX.then_normal ?_)
      refine WC.cond rfl (fun b2 => ?_) (fun b2 => ?_)
      · replace H := H.1 (of_decide_eq_true b2)
        refine WC.seq ?_
        refine WC.region ?_
        refine WL.y rfl (Yld.pure tab_ok rfl) ?_
        refine WL.y rfl (Yld.pure tab_ok rfl) ?_
        refine WL.nil (WX.then_normal ?_)
        refine WC.ret (WX.then_ret (WX.block_ret (WX.then_ret (WX.then_ret (WX.block_ret (WX.then_ret ?_))))))
        exact WX.ret1 rfl rfl ⟨gr1, n, rfl, H⟩
      · replace H := H.2 (of_decide_eq_false b2)
        refine WC.skip (WX.then_normal ?_)
        refine WC.region ?_
        refine WL.y rfl (Yld.pure tab_ok rfl) ?_
        refine WL.y rfl (Yld.pure tab_ok rfl) ?_
        refine WL.y rfl (Yld.pure tab_ok rfl) ?_
        refine WL.y rfl (Yld.pure tab_ok rfl) ?_
        obtain ⟨h2, H⟩ := H
        refine WL.y rfl (Yld.sub rfl rfl h2) ?_
        exact False.elim H
    · replace H := H.2 (of_decide_eq_false b1)
      refine WC.exit (WX.then_exit (WX.then_exit (WX.block_same (WX.then_normal ?_))))
      refine WC.seq ?_
      refine WC.region ?_
      refine WL.y rfl (Yld.pure tab_ok rfl) ?_
      refine WL.y rfl (Yld.pure tab_ok rfl) ?_
      refine WL.nil (WX.then_normal ?_)
      refine WC.ret ?_
      exact WX.ret1 rfl rfl ⟨gr1, n, rfl, H⟩
  · clear hJ1
    refine WC.seq ?_
    refine WC.region ?_
    refine WL.y rfl (Yld.pure tab_ok rfl) ?_
    refine WL.nil (WX.then_normal ?_)
    refine WC.block ?_
    refine WC.seq ?_
    refine WC.region ?_
    rcases PV.empCases v with he1 | he1
    · replace H := H.1 he1
      obtain ⟨g_l, A_l2, c_l2, hv2, hB1, hR2, hr1, hd1⟩ := VR.empOut hv he1
      refine WL.y rfl (assertYesV Tryd.underlying59 rfl rfl hv2) ?_
      refine WL.y rfl (Yld.pure tab_ok rfl) ?_
      refine WL.y rfl (Yld.pure tab_ok rfl) ?_
      refine WL.nil (WX.then_normal ?_)
      refine WC.cond rfl (fun _ => ?_) (fun h => by cases h)
      refine WC.seq ?_
      refine WC.region ?_
      refine WL.y rfl (Yld.pure tab_ok rfl) ?_
      refine WL.nil (WX.then_normal ?_)
      refine WC.region ?_
      refine WL.y rfl (Yld.pure tab_ok rfl) ?_
      refine WL.y rfl (Yld.pure tab_ok rfl) ?_
      refine WL.y rfl (Yld.fa0 (o := 0) (by kernel_rfl) rfl) ?_
      refine WL.y rfl (Yld.bload tab_ok hB1 rfl rfl rfl) ?_
      refine WL.y rfl (Yld.pure tab_ok rfl) ?_
      refine WL.nil (WX.block_normal ?_)
      exact WX.weaken (by repeat (first | exact Sub.nil | refine Sub.cons rfl ?_)) (hQ _ _ ⟨([] : List PV), A_l2, c_l2, (([] : List PV)).length, ([] : List VH), rfl, H, rfl, rfl, hR2, hr1⟩)
    · replace H := H.2 he1
      refine WL.y rfl (assertNoV (z := .pointer none) Tryd.underlying59 rfl (fun _ => by kernel_rfl) hv rfl (tyP_emp he1)) ?_
      refine WL.y rfl (Yld.pure tab_ok rfl) ?_
      refine WL.y rfl (Yld.pure tab_ok rfl) ?_
      refine WL.nil (WX.then_normal ?_)
      refine WC.cond rfl (fun h => by cases h) (fun _ => ?_)
      refine WC.seq ?_
      refine WC.region ?_
      rcases PV.tupCases v with ⟨l2, he2⟩ | he2
      · replace H := H.1 l2 he2
        obtain ⟨g_t, A_t, c_t, hs_t, hv3, hB2, hR3, hr2, hd2, hd3, hd4⟩ := VR.tupOut hv he2
        refine WL.y rfl (assertYesV Tryd.underlying113 rfl rfl hv3) ?_
        refine WL.y rfl (Yld.pure tab_ok rfl) ?_
        refine WL.y rfl (Yld.pure tab_ok rfl) ?_
        refine WL.nil (WX.then_normal ?_)
        refine WC.cond rfl (fun _ => ?_) (fun h => by cases h)
        refine WC.seq ?_
        refine WC.region ?_
        refine WL.y rfl (Yld.pure tab_ok rfl) ?_
        refine WL.nil (WX.then_normal ?_)
        refine WC.region ?_
        refine WL.y rfl (Yld.pure tab_ok rfl) ?_
        refine WL.y rfl (Yld.pure tab_ok rfl) ?_
        refine WL.y rfl (Yld.fa0 (o := 0) (by kernel_rfl) rfl) ?_
        refine WL.y rfl (Yld.bload tab_ok hB2 rfl rfl rfl) ?_
        refine WL.y rfl (Yld.pure tab_ok rfl) ?_
        refine WL.nil (WX.block_normal ?_)
        exact WX.weaken (by repeat (first | exact Sub.nil | refine Sub.cons rfl ?_)) (hQ _ _ ⟨l2.map PV.int, A_t, c_t, (l2.map PV.int).length, hs_t, rfl, H, rfl, rfl, hR3, hr2⟩)
      · replace H := H.2 he2
        refine WL.y rfl (assertNoV (z := .pointer none) Tryd.underlying113 rfl (fun _ => by kernel_rfl) hv rfl (tyP_tup he2)) ?_
        refine WL.y rfl (Yld.pure tab_ok rfl) ?_
        refine WL.y rfl (Yld.pure tab_ok rfl) ?_
        refine WL.nil (WX.then_normal ?_)
        refine WC.cond rfl (fun h => by cases h) (fun _ => ?_)
        refine WC.seq ?_
        refine WC.region ?_
        refine WL.y rfl (assertNoV (z := .pointer none) Tryd.underlying166 rfl (fun _ => by kernel_rfl) hv rfl (tyP_no rfl v)) ?_
        refine WL.y rfl (Yld.pure tab_ok rfl) ?_
        refine WL.y rfl (Yld.pure tab_ok rfl) ?_
        refine WL.nil (WX.then_normal ?_)
        refine WC.cond rfl (fun h => by cases h) (fun _ => ?_)
        refine WC.seq ?_
        refine WC.region ?_
        refine WL.y rfl (assertNoV (z := .pointer none) Tryd.underlying150 rfl (fun _ => by kernel_rfl) hv rfl (tyP_no rfl v)) ?_
        refine WL.y rfl (Yld.pure tab_ok rfl) ?_
        refine WL.y rfl (Yld.pure tab_ok rfl) ?_
        refine WL.nil (WX.then_normal ?_)
        refine WC.cond rfl (fun h => by cases h) (fun _ => ?_)
        refine WC.skip (WX.block_normal ?_)
        exact WX.weaken (by repeat (first | exact Sub.nil | refine Sub.cons rfl ?_)) (hQ _ _ ⟨[], none, 0, 0, [], rfl, H, rfl, rfl, (Own.nil vv w w.heap.size 41).rd, (RelD.nil (d := deV) (w := w))⟩)

set_option maxHeartbeats 8000000 in
theorem W_val_Light {w : World} {most : Int} {l : List PV} {A_l : Option Addr} {c_l : Nat} {hs_l : List VH} {n_l : Nat} {K : Bool → Prop} (hl : Rd vv w A_l c_l hs_l) (hn_l : n_l = l.length) (hr_l : RelD deV w hs_l l) (H : M_val_Light most l K) : Fn Tryd.prog 39 ⟨[.int .i64 most, .slice A_l n_l c_l]⟩ w (fun v w' => w.grownBy w' none ∧ ∃ (r : Bool), v = .bool r ∧ K r) := by
  subst hn_l
  unfold M_val_Light at H
  refine Fn.enter (by kernel_rfl) Tryd.func39 rfl Tryd.ntmps39 rfl ?_
  replace H := H (by rw [← hr_l.1]; exact Nat.le_trans hl.cap hl.max)
  refine WC.seq ?_
  refine WC.region ?_
  refine WL.y rfl (Yld.pure tab_ok rfl) ?_
  refine WL.nil (WX.then_normal ?_)
  refine WC.seq ?_
  refine WC.seq ?_
  refine WC.region ?_
  refine WL.y rfl (Yld.pure tab_ok rfl) ?_
  refine WL.y rfl (Yld.pure tab_ok rfl) ?_
  refine WL.y rfl (Yld.pure tab_ok rfl) ?_
  refine WL.nil (WX.then_normal ?_)
  refine WC.block ?_
  obtain ⟨I1, mu1, h0_1, HR1⟩ := H
  refine WC.loopF (fun n' L' w' => ∃ (most2 : Int), ∃ (t9 : Int), n' = mu1 most2 t9 ∧ L' = [(0, .int .i64 most2), (7, .slice A_l l.length c_l), (8, .int .i64 (l.length : Int)), (9, .int .i64 t9)] ∧ I1 most2 t9 ∧ w.grownBy w' none) _ _ ⟨most, (0 : Int), rfl, rfl, h0_1, (gr_refl _ _)⟩ (by repeat (first | exact Sub.nil | refine Sub.cons rfl ?_)) ?_
  clear h0_1
  rintro _ _ w1 ⟨most2, t9, rfl, rfl, hI1, gr1⟩
  have H := HR1 most2 t9 hI1
  refine WC.seq ?_
  refine WC.region ?_
  refine WL.y rfl (Yld.pure tab_ok rfl) ?_
  refine WL.nil (WX.then_normal ?_)
  refine WC.seq ?_
  refine WC.cond rfl (fun b1 => ?_) (fun b1 => ?_)
  · replace H := H.1 (of_decide_eq_true b1)
    refine WC.skip (WX.then_normal ?_)
    refine WC.seq ?_
    refine WC.block ?_
    refine WC.seq ?_
    refine WC.region ?_
    obtain ⟨h1, H⟩ := H
    refine WL.y rfl (Yld.iaddrW tab_ok (hl.grown gr1) rfl rfl hr_l.1.symm rfl h1.1 h1.2) ?_
    obtain ⟨⟨v_el, F_el⟩, eh1, hR1⟩ := RelD.at (hr_l.grown gr1) vh0 PV.nil (j := t9.toNat) (Nat.lt_of_lt_of_eq (iltN h1 hr_l.1.symm) (hr_l.grown gr1).1)
    have hv1 : RelD deV w1 [(v_el, F_el)] [l.getD t9.toNat PV.nil] := RelD.cons hR1 RelD.nil
    refine WL.y rfl (Yld.to (v := v_el.1) (Yld.iload vh0 tab_ok (hl.grown gr1) rfl rfl (iltN h1 hr_l.1.symm)) (congrArg vv eh1)) ?_
    refine WL.y rfl (Yld.pure tab_ok rfl) ?_
    refine WL.nil (WX.then_normal ?_)
    refine WC.seq ?_
    refine WC.region ?_
    refine WL.y rfl (Yld.pure tab_ok rfl) ?_
    refine WL.y rfl (Yld.pure tab_ok rfl) ?_
    refine WL.y rfl (Yld.pure tab_ok rfl) ?_
    refine WL.call rfl rfl (W_val_weight hv1 H) ?_
    rintro _ w2 ⟨hg1, t16, rfl, H⟩
    have gr2 := gr_trans gr1 hg1
    obtain ⟨h2, H⟩ := H
    refine WL.y rfl (Yld.sub rfl rfl h2) ?_
    refine WL.y rfl (Yld.pure tab_ok rfl) ?_
    refine WL.nil (WX.then_normal ?_)
    refine WC.seq ?_
    refine WC.region ?_
    refine WL.y rfl (Yld.pure tab_ok rfl) ?_
    refine WL.y rfl (Yld.pure tab_ok rfl) ?_
    refine WL.nil (WX.then_normal ?_)
    refine WC.cond rfl (fun b2 => ?_) (fun b2 => ?_)
    · replace H := H.1 (of_decide_eq_true b2)
      refine WC.seq ?_
      refine WC.region ?_
      refine WL.y rfl (Yld.pure tab_ok rfl) ?_
      refine WL.nil (WX.then_normal ?_)
      refine WC.ret (WX.block_ret (WX.then_ret (WX.then_ret (WX.block_ret (WX.then_ret ?_)))))
      exact WX.ret1 rfl rfl ⟨gr2, false, rfl, H⟩
    · replace H := H.2 (of_decide_eq_false b2)
      refine WC.skip (WX.block_normal (WX.then_normal ?_))
      refine WC.region ?_
      obtain ⟨h3, H⟩ := H
      refine WL.y rfl (Yld.add rfl rfl h3) ?_
      refine WL.y rfl (Yld.pure tab_ok rfl) ?_
      refine WL.nil ?_
      exact WX.roundF _ ⟨most2 - t16, t9 + (1 : Int), rfl, rfl, H.1, gr2⟩ (by repeat (first | exact Sub.nil | refine Sub.cons rfl ?_)) H.2
  · replace H := H.2 (of_decide_eq_false b1)
    refine WC.exit (WX.then_exit (WX.then_exit (WX.block_same (WX.then_normal ?_))))
    refine WC.seq ?_
    refine WC.region ?_
    refine WL.y rfl (Yld.pure tab_ok rfl) ?_
    refine WL.nil (WX.then_normal ?_)
    refine WC.ret ?_
    exact WX.ret1 rfl rfl ⟨gr1, true, rfl, H⟩

set_option maxHeartbeats 8000000 in
theorem W_slices_Clone_val_Value_val_Value {w : World} {s : List PV} {A_s : Option Addr} {c_s : Nat} {hs_s : List VH} {n_s : Nat} {K : (List PV) → Prop} (hs : Rd vv w A_s c_s hs_s) (hn_s : n_s = s.length) (hr_s : RelD deV w hs_s s) (H : M_slices_Clone_val_Value_val_Value s K) : Fn Tryd.prog 47 ⟨[.slice A_s n_s c_s]⟩ w (fun v w' => w.grownBy w' none ∧ ∃ (r : List PV), ∃ (A_r : Option Addr), ∃ (c_r : Nat), ∃ (hs_r : List VH), v = .slice A_r r.length c_r ∧ Own vv w' w.heap.size 41 A_r c_r hs_r ∧ RelD deV w' hs_r r ∧ (∀ p : Option Nat, Lt p w.heap.size → DnD deV hs_s s p → DnD deV hs_r r p) ∧ DnD deV hs_r r (blk A_r) ∧ K r) := by
  subst hn_s
  unfold M_slices_Clone_val_Value_val_Value at H
  refine Fn.enter (by kernel_rfl) Tryd.func47 rfl Tryd.ntmps47 rfl ?_
  replace H := H (by rw [← hr_s.1]; exact Nat.le_trans hs.cap hs.max)
  refine WC.seq ?_
  refine WC.region ?_
  refine WL.y rfl (Yld.pure tab_ok rfl) ?_
  refine WL.nil (WX.then_normal ?_)
  refine WC.seq ?_
  refine WC.seq ?_
  refine WC.region ?_
  refine WL.y rfl (Yld.pure tab_ok rfl) ?_
  refine WL.y rfl (Yld.sleqnil Tryd.underlying32 rfl) ?_
  refine WL.nil (WX.then_normal ?_)
  refine WC.cond rfl (fun b1 => ?_) (fun b1 => ?_)
  · replace H := H.1 (RelD.nilx hr_s (hs.nil_of b1))
    refine WC.seq ?_
    refine WC.region ?_
    refine WL.y rfl (Yld.pure tab_ok rfl) ?_
    refine WL.nil (WX.then_normal ?_)
    refine WC.ret (WX.then_ret ?_)
    exact WX.ret1 rfl rfl ⟨(gr_refl _ _), [], none, 0, [], rfl, (Own.nil vv w w.heap.size 41), (RelD.nil (d := deV) (w := w)), (fun p_ hp_ v0_ => have q_ := v0_; (DnD.nil (d := deV))), DnD.nil, H⟩
  · replace H := H.2
    refine WC.skip (WX.then_normal ?_)
    refine WC.seq ?_
    refine WC.region ?_
    refine WL.lit (us := []) tab_ok rfl rfl rfl all1n rfl (by omega) (fun g2 w2 hB2 hg2 hl2 => ?_)
    have hO2 : Own vv w2 w.heap.size 41 (some ⟨g2, 0, none⟩) 0 ([] : List VH) := Own.ofBl hB2 (Nat.le_trans (Nat.le_refl _) hl2) (by simp [maxLen]) rfl
    have gr1 := hg2
    have hr1 : RelD deV w2 ([] : List VH) ([] : List PV) := RelD.nil
    have nd1 : OrD (fun p => DnD deV hs_s s p) deV ([] : List VH) ([] : List PV) w.heap.size := (fun _ _ _ => DnD.nil)
    have dj1 : DnD deV ([] : List VH) ([] : List PV) (blk (some ⟨g2, 0, none⟩)) := DnD.nil
    refine WL.y rfl (Yld.pure tab_ok rfl) ?_
    obtain ⟨h1, H⟩ := H
    have h2 : ((([] : List VH) : List VH).length + hs_s.length) * 16 ≤ 140737488355328 := by rw [hr1.1, (hr_s.grown gr1).1]; exact h1
    refine WL.append tab_ok rfl rfl One.vv hO2 rfl rfl (hs.grown gr1) rfl hr_s.1.symm h2 (applen h2) (size_le gr1) (fun A_t2 c_t2 w3 hO3 hg3 hk1 => ?_)
    have el1 : (([] : List VH) ++ hs_s).length = (([] : List PV) ++ s).length := by rw [List.length_append, List.length_append, hr1.1, (hr_s.grown gr1).1]
    rw [el1]
    have gr2 := gr_mod gr1 hg3 hO2.ge'
    have k1 := hr1.go hg3 dj1
    have hr2 : RelD deV w3 (([] : List VH) ++ hs_s) (([] : List PV) ++ s) := RelD.append k1 (hr_s.grown gr2)
    have nd2 : OrD (fun p => DnD deV hs_s s p) deV (([] : List VH) ++ hs_s) (([] : List PV) ++ s) w.heap.size := OrD.append hr1.1 nd1 (fun p_ hp_ q_ => q_)
    have dj2 : DnD deV (([] : List VH) ++ hs_s) (([] : List PV) ++ s) (blk A_t2) := (DnD.append hr1.1 (RelD.app hr1 dj1 hk1) (RelD.app (hr_s.grown gr1) (hr_s.new hO2.ge') hk1))
    refine WL.y rfl (Yld.pure tab_ok rfl) ?_
    refine WL.nil (WX.then_normal ?_)
    refine WC.ret ?_
    exact WX.ret1 rfl rfl ⟨gr2, (([] : List PV) ++ s), A_t2, c_t2, (([] : List VH) ++ hs_s), (by rw [el1.symm]), hO3, hr2, (fun p_ hp_ v0_ => nd2 p_ hp_ v0_), dj2, H⟩

set_option maxHeartbeats 8000000 in
theorem W_slices_Clone_pdeps_Set_pdeps_Set {w : World} {s : List PS} {A_s : Option Addr} {c_s : Nat} {hs_s : List VH} {n_s : Nat} {K : (List PS) → Prop} (hs : Rd vv w A_s c_s hs_s) (hn_s : n_s = s.length) (hr_s : RelD deS w hs_s s) (H : M_slices_Clone_pdeps_Set_pdeps_Set s K) : Fn Tryd.prog 40 ⟨[.slice A_s n_s c_s]⟩ w (fun v w' => w.grownBy w' none ∧ ∃ (r : List PS), ∃ (A_r : Option Addr), ∃ (c_r : Nat), ∃ (hs_r : List VH), v = .slice A_r r.length c_r ∧ Own vv w' w.heap.size 36 A_r c_r hs_r ∧ RelD deS w' hs_r r ∧ (∀ p : Option Nat, Lt p w.heap.size → DnD deS hs_s s p → DnD deS hs_r r p) ∧ DnD deS hs_r r (blk A_r) ∧ K r) := by
  subst hn_s
  unfold M_slices_Clone_pdeps_Set_pdeps_Set at H
  refine Fn.enter (by kernel_rfl) Tryd.func40 rfl Tryd.ntmps40 rfl ?_
  replace H := H (by rw [← hr_s.1]; exact Nat.le_trans hs.cap hs.max)
  refine WC.seq ?_
  refine WC.region ?_
  refine WL.y rfl (Yld.pure tab_ok rfl) ?_
  refine WL.nil (WX.then_normal ?_)
  refine WC.seq ?_
  refine WC.seq ?_
  refine WC.region ?_
  refine WL.y rfl (Yld.pure tab_ok rfl) ?_
  refine WL.y rfl (Yld.sleqnil Tryd.underlying29 rfl) ?_
  refine WL.nil (WX.then_normal ?_)
  refine WC.cond rfl (fun b1 => ?_) (fun b1 => ?_)
  · replace H := H.1 (RelD.nilx hr_s (hs.nil_of b1))
    refine WC.seq ?_
    refine WC.region ?_
    refine WL.y rfl (Yld.pure tab_ok rfl) ?_
    refine WL.nil (WX.then_normal ?_)
    refine WC.ret (WX.then_ret ?_)
    exact WX.ret1 rfl rfl ⟨(gr_refl _ _), [], none, 0, [], rfl, (Own.nil vv w w.heap.size 36), (RelD.nil (d := deS) (w := w)), (fun p_ hp_ v0_ => have q_ := v0_; (DnD.nil (d := deS))), DnD.nil, H⟩
  · replace H := H.2
    refine WC.skip (WX.then_normal ?_)
    refine WC.seq ?_
    refine WC.region ?_
    refine WL.lit (us := []) tab_ok rfl rfl rfl all1n rfl (by omega) (fun g2 w2 hB2 hg2 hl2 => ?_)
    have hO2 : Own vv w2 w.heap.size 36 (some ⟨g2, 0, none⟩) 0 ([] : List VH) := Own.ofBl hB2 (Nat.le_trans (Nat.le_refl _) hl2) (by simp [maxLen]) rfl
    have gr1 := hg2
    have hr1 : RelD deS w2 ([] : List VH) ([] : List PS) := RelD.nil
    have nd1 : OrD (fun p => DnD deS hs_s s p) deS ([] : List VH) ([] : List PS) w.heap.size := (fun _ _ _ => DnD.nil)
    have dj1 : DnD deS ([] : List VH) ([] : List PS) (blk (some ⟨g2, 0, none⟩)) := DnD.nil
    refine WL.y rfl (Yld.pure tab_ok rfl) ?_
    obtain ⟨h1, H⟩ := H
    have h2 : ((([] : List VH) : List VH).length + hs_s.length) * 8 ≤ 140737488355328 := by rw [hr1.1, (hr_s.grown gr1).1]; exact h1
    refine WL.append tab_ok rfl rfl One.vv hO2 rfl rfl (hs.grown gr1) rfl hr_s.1.symm h2 (applen h2) (size_le gr1) (fun A_t2 c_t2 w3 hO3 hg3 hk1 => ?_)
    have el1 : (([] : List VH) ++ hs_s).length = (([] : List PS) ++ s).length := by rw [List.length_append, List.length_append, hr1.1, (hr_s.grown gr1).1]
    rw [el1]
    have gr2 := gr_mod gr1 hg3 hO2.ge'
    have k1 := hr1.go hg3 dj1
    have hr2 : RelD deS w3 (([] : List VH) ++ hs_s) (([] : List PS) ++ s) := RelD.append k1 (hr_s.grown gr2)
    have nd2 : OrD (fun p => DnD deS hs_s s p) deS (([] : List VH) ++ hs_s) (([] : List PS) ++ s) w.heap.size := OrD.append hr1.1 nd1 (fun p_ hp_ q_ => q_)
    have dj2 : DnD deS (([] : List VH) ++ hs_s) (([] : List PS) ++ s) (blk A_t2) := (DnD.append hr1.1 (RelD.app hr1 dj1 hk1) (RelD.app (hr_s.grown gr1) (hr_s.new hO2.ge') hk1))
    refine WL.y rfl (Yld.pure tab_ok rfl) ?_
    refine WL.nil (WX.then_normal ?_)
    refine WC.ret ?_
    exact WX.ret1 rfl rfl ⟨gr2, (([] : List PS) ++ s), A_t2, c_t2, (([] : List VH) ++ hs_s), (by rw [el1.symm]), hO3, hr2, (fun p_ hp_ v0_ => nd2 p_ hp_ v0_), dj2, H⟩

end Go.Proofs.YtofenpiiihhigaaDoor

 /- The sets that a set is made of, each once: maps keyed by pointers, and the walk of sets. -/
namespace Go.Proofs.YtofenpiiihhigaaDoor
open Go Go.RowKit
def vp (g : Nat) : Value := .pointer (some ⟨g, 0, none⟩)
def LiveB (w : World) (g : Nat) : Prop := ∃ c e, w.heap[g]? = some (.cells c e (0, 0))
theorem Bl.live {w : World} {g : Nat} {e : TypeId} {us : List Value} (h : Bl w g e us) : LiveB w g := ⟨_, _, h⟩
section
variable {P : Program} {k e : TypeId} {j : TypeInfo} {w : World}
theorem run_eqP (hk : P.underlying k = some (.pointer e)) (hj : P.info? e = some j) (h0 : j.size ≠ 0) {a b : Nat} (ha : LiveB w a) (hb : LiveB w b) : (Op.equal k (vp a) (vp b)).run P w = .ok (decide (a = b)) w := by
  refine run_equal_of fun d => ?_
  by_cases h : a = b
  · subst h
    simp [vp, Op.equalIn, run_underlying hk, sizeOf, typeInfo, hj, h0, run_sameAddr_same]
  · obtain ⟨ca, ta, ha⟩ := ha
    obtain ⟨cb, tb, hb⟩ := hb
    have := run_sameAddr_other (P := P) w (a := ⟨a, 0, none⟩) (b := ⟨b, 0, none⟩) (by intro e; injection e with e; exact h e) ha hb
    simp [vp, Op.equalIn, run_underlying hk, sizeOf, typeInfo, hj, h0, this, h]
theorem findP (hk : P.underlying k = some (.pointer e)) (hj : P.info? e = some j) (h0 : j.size ≠ 0) {q : Nat} (hq : LiveB w q) : ∀ (es : List MapEntry) (i : Nat), (∀ x ∈ es, ∃ y, LiveB w y ∧ x.key = vp y) →
    ((Instr.findAsking k (vp q) es i).run P w = .ok none w ∧ ∀ x ∈ es, x.key ≠ vp q) ∨ ∃ n x, (Instr.findAsking k (vp q) es i).run P w = .ok (some (i + n, x.val)) w ∧ es[n]? = some x ∧ x.key = vp q
  | [], i, _ => .inl ⟨by simp [Instr.findAsking], fun x hx => by simp at hx⟩
  | x :: es, i, h => by
    obtain ⟨y, hy, ey⟩ := h x (by simp)
    have h1 := run_eqP hk hj h0 hq hy
    by_cases hqy : q = y
    · subst hqy
      refine .inr ⟨0, x, ?_, rfl, ey⟩
      simp [Instr.findAsking, ey, h1]
    · rcases findP hk hj h0 hq es (i + 1) (fun x hx => h x (by simp [hx])) with ⟨h2, h3⟩ | ⟨n, x', h2, h3, h4⟩
      · refine .inl ⟨by simp [Instr.findAsking, ey, h1, hqy, h2], fun x' hx' => ?_⟩
        rcases List.mem_cons.1 hx' with rfl | hx'
        · rw [ey]; intro e; exact hqy (by injection e with e; injection e with e; injection e with e; exact e.symm)
        · exact h3 x' hx'
      · refine .inr ⟨n + 1, x', ?_, by simpa using h3, h4⟩
        simp [Instr.findAsking, ey, h1, hqy, h2]
        omega
theorem keyW_p {ok : Nat → Prop} (hk : P.underlying k = some (.pointer e)) (hj : P.info? e = some j) (h0 : j.size ≠ 0) (hl : ∀ g, ok g → LiveB w g) : KeyW P k vp ok w where
  check em x hx := by
    have h : ∀ n, (Instr.checkKey em (n + 1) k (vp x)).run P w = .ok () w := fun n => by
      unfold Instr.checkKey
      simp only [Sem.run_bind, run_underlying hk, Result.andThen_ok, vp]
      rfl
    exact h 9999
  find q hq es hes := by
    cases es with
    | nil => exact .inl ⟨by simp [Instr.findKey, Instr.findNow, run_underlying hk], fun x hx => by simp at hx⟩
    | cons x es =>
      have hf := findP hk hj h0 (hl q hq) (x :: es) 0 (fun y hy => by obtain ⟨z, hz, e⟩ := hes y hy; exact ⟨z, hl z hz, e⟩)
      have e1 : (Instr.findKey k (vp q) (x :: es)).run P w = (Instr.findAsking k (vp q) (x :: es) 0).run P w := by
        simp only [Instr.findKey, Sem.run_bind, run_underlying hk, Result.andThen_ok]
        simp [Instr.findNow, Instr.sameNow]
      rw [e1]
      rcases hf with h | ⟨n, y, h1, h2⟩
      · exact .inl h
      · exact .inr ⟨n, y, by simpa using h1, h2⟩
  stays x hx := by
    have h : ∀ n, Instr.sameBits n (vp x) (vp x) = true := fun n => by cases n <;> simp [Instr.sameBits, vp]
    unfold Instr.keyThatStays
    rw [if_pos (h _)]
    rfl
  inj x y _ _ h := by injection h with h; injection h with h; injection h
end
section
variable {κ ν : Type} [DecidableEq κ] {P : Program} {k e t : TypeId} {fk : κ → Value} {ok : κ → Prop} {fv : ν → Value} {w w' : World} {b : Nat} {m : List (κ × ν)}
variable {N : Nat} {L : Slots} {ty : TypeId} {pos : String} {af : Array Edge} {dd : Option Tmp} {x y u : Operand}
theorem Yld.lookW (hK : ∀ w1, Eqv w w1 → KeyW P k fk ok w1) (ht : P.underlying t = some (.map k e)) {z : ν} (hz : ∀ w, (zeroValue e).run P w = .ok (fv z) w) (hm : MapB fk ok fv w b m) (hx : opv L x = some (.map (some b))) {q : κ} (hy : opv L y = some (fk q)) (hq : ok q) :
    Yld P N w ⟨dd, .lookup t x y false, ty, pos, af, none⟩ L (fv ((mget m q).getD z)) := fun a w1 hw ha => by
  unfold execOp
  simp [ha.ev hx, ha.ev hy, (MapB.eqv hw hm).run_look (hK w1 hw) ht (hz w1) hq false]
theorem Ef0.putW (hK : ∀ w1, Eqv w w1 → KeyW P k fk ok w1) (ht : P.underlying t = some (.map k e)) (hm : MapB fk ok fv w b m) (hn : m.length < maxLen) (hx : opv L x = some (.map (some b))) {q : κ} (hy : opv L y = some (fk q)) (hq : ok q) {v : ν} (hu : opv L u = some (fv v)) :
    Ef0 P N w ⟨none, .mapUpdate t x y u, ty, pos, af, none⟩ L fun w' => MapB fk ok fv w' b (mput m q v) ∧ w.grownBy w' (some b) := fun a w1 hw ha => by
  obtain ⟨w', h1, h2, h3⟩ := (MapB.eqv hw hm).run_put (hK w1 hw) ht hn hq v
  refine ⟨w', ?_, h2, eqv_gr hw h3⟩
  unfold execOp
  simp [ha.ev hx, ha.ev hy, ha.ev hu, h1]
theorem Ef0.insW (hK : ∀ w1, Eqv w w1 → KeyW P k fk ok w1) (ht : P.underlying t = some (.map k e)) (hm : MapB fk ok fv w b m) (hn : m.length < maxLen) (hx : opv L x = some (.map (some b))) {q : κ} (hy : opv L y = some (fk q)) (hq : ok q) {v : ν} (hu : opv L u = some (fv v)) :
    Ef0 P N w ⟨none, .insert t x y u, ty, pos, af, none⟩ L fun w' => MapB fk ok fv w' b (mput m q v) ∧ w.grownBy w' (some b) := fun a w1 hw ha => by
  obtain ⟨w', h1, h2, h3⟩ := (MapB.eqv hw hm).run_put (hK w1 hw) ht hn hq v
  refine ⟨w', ?_, h2, eqv_gr hw h3⟩
  unfold execOp
  simp [ha.ev hx, ha.ev hy, ha.ev hu, h1]
end
attribute [local irreducible] WL WC WX WQ WK WJ Yld Eff Ef0 Fn
def okR (s : PS) (g : Nat) : Prop := ∃ y, Reach s y ∧ y ≠ .nil ∧ y.id = g
def hdS (F : Nat → Prop) (x : PS) : VH := (ovP x.id, F)
section
variable {w w2 : World} {v : OV} {F : Nat → Prop} {s x : PS}
theorem relS (h : RelD deS w [(v, F)] [s]) (hx : Reach s x) (hn : x ≠ .nil) : RelD deS w [hdS F x] [x] := by
  obtain ⟨⟨n, h⟩, hF⟩ := h.one
  obtain ⟨m, u, k⟩ := h.reach hx hn
  have e := k.ptr
  refine RelD.cons ⟨⟨m, ?_⟩, hF⟩ RelD.nil
  cases x with
  | nil => exact absurd rfl hn
  | mk => rw [e] at k; exact k
theorem liveS (h : RelD deS w [(v, F)] [s]) {g : Nat} (hg : okR s g) : LiveB w g := by
  obtain ⟨y, h1, h2, rfl⟩ := hg
  obtain ⟨_, _, _, _, _, _, _, _, _, hB, _⟩ := SR.out (relS h h1 h2) h2
  exact hB.live
def szNZ (P : Program) (e : TypeId) : Bool := match P.info? e with
  | some i => !Nat.beq i.size 0
  | none => false
theorem szNZ_ok {P : Program} {e : TypeId} (h : szNZ P e = true) : ∃ j, P.info? e = some j ∧ j.size ≠ 0 := by
  unfold szNZ at h
  split at h
  · rename_i i hi
    exact ⟨i, hi, Nat.ne_of_beq_eq_false (by simpa using h)⟩
  · cases h
theorem keyS {k e : TypeId} {P : Program} (hk : P.underlying k = some (.pointer e)) (hc : szNZ P e = true) (h : RelD deS w [(v, F)] [s]) : ∀ w1, Eqv w w1 → KeyW P k vp (okR s) w1 := fun w1 hw =>
  (szNZ_ok hc).elim fun _ hj => keyW_p hk hj.1 hj.2 fun g hg => by
    obtain ⟨c, e, hc⟩ := liveS h hg
    exact ⟨c, e, by rw [hw.heap]; exact hc⟩
theorem mget_ids (l : List PS) (q : Nat) : (mget (l.map fun x => (x.id, true)) q).getD false = decide (q ∈ l.map PS.id) := by
  induction l with
  | nil => simp [mget]
  | cons x l ih =>
    simp only [List.map_cons, mget]
    split
    · rename_i h; simp [h]
    · rename_i h
      rw [ih]
      congr 1
      simp [Ne.symm h]
theorem Some'.push {l : List PS} {f : PS} (h : Some' s l) (hf : Reach s f) (hn : f.id ∉ l.map PS.id) : Some' s (l ++ [f]) :=
  ⟨by
    rw [List.map_append, List.nodup_append]
    refine ⟨h.nd, by simp, fun a ha b hb e => ?_⟩
    simp only [List.map_cons, List.map_nil, List.mem_cons, List.not_mem_nil, or_false] at hb
    subst e; subst hb
    exact hn ha, fun x hx => by
    rcases List.mem_append.1 hx with hx | hx
    · exact h.re x hx
    · simp only [List.mem_cons, List.not_mem_nil, or_false] at hx
      subst hx; exact hf⟩
end
/-- what holds while the sets are gathered -/
structure SI (w : World) (F : Nat → Prop) (s : PS) (gm : Nat) (w2 : World) (l : List PS) (A : Option Addr) (c : Nat) : Prop where
  so : Some' s l
  nn : ∀ x ∈ l, x ≠ .nil
  top : s ∈ l
  gr : w.grownBy w2 none
  own : Own vv w2 w.heap.size 36 A c (l.map (hdS F))
  mp : MapB vp (okR s) vB w2 gm (l.map fun x => (x.id, true))
  dj : Dj (some gm) (blk A)
  ge : w.heap.size ≤ gm
set_option maxHeartbeats 4000000 in
theorem W_pdeps_Set_sets {w : World} {v_s : OV} {F_s : Nat → Prop} {s : PS} {K : List PS → Prop} (hs : RelD deS w [(v_s, F_s)] [s]) (H : M_pdeps_Set_sets s K) : Fn Tryd.prog 42 ⟨[v_s.1]⟩ w
    (fun v w' => w.grownBy w' none ∧ ∃ (r : List PS), ∃ (A_r : Option Addr), ∃ (c_r : Nat), ∃ (hs_r : List VH), v = .slice A_r r.length c_r ∧ Own vv w' w.heap.size 36 A_r c_r hs_r ∧ RelD deS w' hs_r r ∧ (∀ p : Option Nat, Lt p w.heap.size → DnD deS [(v_s, F_s)] [s] p → DnD deS hs_r r p) ∧ DnD deS hs_r r (blk A_r) ∧ K r) := by
  obtain ⟨hne, hB1, hK⟩ := H
  have hv : v_s.1 = .pointer (some ⟨s.id, 0, none⟩) := by
    obtain ⟨⟨n, h⟩, _⟩ := hs.one
    rw [h.ptr]
    cases s with
    | nil => exact absurd rfl hne
    | mk => rfl
  have hF := hs.one.2
  rw [hv]
  refine Fn.enter (by kernel_rfl) Tryd.func42 rfl Tryd.ntmps42 rfl ?_
  repeat (first | refine WC.seq ?_ | refine WC.block ?_ | refine WC.region ?_ | refine WL.nil ?_ | refine WX.then_normal ?_ | refine WC.skip ?_ | refine WC.exit ?_ | refine WC.ret ?_ | refine WX.then_exit ?_ | refine WX.then_ret ?_ | refine WX.block_normal ?_ | refine WX.block_ret ?_ | refine WX.block_same ?_ | refine WX.block_other rfl ?_ | refine WC.label ?_ | refine WC.scope ?_ | refine WX.scope_normal ?_ | refine WX.scope_ret ?_ | refine WX.scope_exit ?_ | refine WL.y rfl (Yld.add rfl rfl (by simp only [In]; omega)) ?_ | refine WL.y rfl (Yld.sub rfl rfl (by simp only [In]; omega)) ?_ | refine WL.y rfl (Yld.mul rfl rfl (by simp only [In]; omega)) ?_ | refine WL.y rfl (Yld.convB tab_ok rfl rfl rfl rfl) ?_ | refine WL.y rfl (Yld.conv tab_ok rfl rfl rfl (by simp only [In]; omega)) ?_ | refine WL.y rfl (Yld.quo rfl rfl (by omega) (by omega) (by simp only [In]; omega)) ?_ | refine WL.y rfl (Yld.rem rfl rfl (by omega) (by omega)) ?_ | refine WL.y rfl (Yld.shl rfl rfl (by omega)) ?_ | refine WL.y rfl (Yld.shr rfl rfl (by omega)) ?_ | refine WL.y rfl (Yld.pure tab_ok rfl) ?_ | refine WL.y rfl (Yld.fld flds_ok rfl rfl rfl) ?_ | refine WL.y rfl (Yld.max2 rfl rfl) ?_ | refine WL.y rfl (Yld.min2 rfl rfl) ?_ | refine WL.y rfl (Yld.pickV rfl rfl rfl) ?_ | refine WL.gno rfl rfl rfl rfl ?_ | refine WL.gyes rfl rfl rfl rfl (Yld.add rfl rfl (by simp only [In]; omega)) ?_ | refine WL.gyes rfl rfl rfl rfl (Yld.sub rfl rfl (by simp only [In]; omega)) ?_ | refine WL.gyes rfl rfl rfl rfl (Yld.mul rfl rfl (by simp only [In]; omega)) ?_ | refine WL.gyes rfl rfl rfl rfl (Yld.convB tab_ok rfl rfl rfl rfl) ?_ | refine WL.gyes rfl rfl rfl rfl (Yld.conv tab_ok rfl rfl rfl (by simp only [In]; omega)) ?_ | refine WL.gyes rfl rfl rfl rfl (Yld.quo rfl rfl (by omega) (by omega) (by simp only [In]; omega)) ?_ | refine WL.gyes rfl rfl rfl rfl (Yld.rem rfl rfl (by omega) (by omega)) ?_ | refine WL.gyes rfl rfl rfl rfl (Yld.shl rfl rfl (by omega)) ?_ | refine WL.gyes rfl rfl rfl rfl (Yld.shr rfl rfl (by omega)) ?_ | refine WL.gyes rfl rfl rfl rfl (Yld.pure tab_ok rfl) ?_ | refine WL.gyes rfl rfl rfl rfl (Yld.fld flds_ok rfl rfl rfl) ?_ | refine WL.gyes rfl rfl rfl rfl (Yld.max2 rfl rfl) ?_ | refine WL.gyes rfl rfl rfl rfl (Yld.min2 rfl rfl) ?_ | refine WL.gyes rfl rfl rfl rfl (Yld.pickV rfl rfl rfl) ?_)
  refine WL.putw wants_none rfl (Eff.makeMap vp (okR s) vB) ?_
  rintro _ w1 ⟨rfl, hM1, hg1⟩
  have hs1 := hs.grown hg1
  repeat (first | refine WC.seq ?_ | refine WC.block ?_ | refine WC.region ?_ | refine WL.nil ?_ | refine WX.then_normal ?_ | refine WC.skip ?_ | refine WC.exit ?_ | refine WC.ret ?_ | refine WX.then_exit ?_ | refine WX.then_ret ?_ | refine WX.block_normal ?_ | refine WX.block_ret ?_ | refine WX.block_same ?_ | refine WX.block_other rfl ?_ | refine WC.label ?_ | refine WC.scope ?_ | refine WX.scope_normal ?_ | refine WX.scope_ret ?_ | refine WX.scope_exit ?_ | refine WL.y rfl (Yld.add rfl rfl (by simp only [In]; omega)) ?_ | refine WL.y rfl (Yld.sub rfl rfl (by simp only [In]; omega)) ?_ | refine WL.y rfl (Yld.mul rfl rfl (by simp only [In]; omega)) ?_ | refine WL.y rfl (Yld.convB tab_ok rfl rfl rfl rfl) ?_ | refine WL.y rfl (Yld.conv tab_ok rfl rfl rfl (by simp only [In]; omega)) ?_ | refine WL.y rfl (Yld.quo rfl rfl (by omega) (by omega) (by simp only [In]; omega)) ?_ | refine WL.y rfl (Yld.rem rfl rfl (by omega) (by omega)) ?_ | refine WL.y rfl (Yld.shl rfl rfl (by omega)) ?_ | refine WL.y rfl (Yld.shr rfl rfl (by omega)) ?_ | refine WL.y rfl (Yld.pure tab_ok rfl) ?_ | refine WL.y rfl (Yld.fld flds_ok rfl rfl rfl) ?_ | refine WL.y rfl (Yld.max2 rfl rfl) ?_ | refine WL.y rfl (Yld.min2 rfl rfl) ?_ | refine WL.y rfl (Yld.pickV rfl rfl rfl) ?_ | refine WL.gno rfl rfl rfl rfl ?_ | refine WL.gyes rfl rfl rfl rfl (Yld.add rfl rfl (by simp only [In]; omega)) ?_ | refine WL.gyes rfl rfl rfl rfl (Yld.sub rfl rfl (by simp only [In]; omega)) ?_ | refine WL.gyes rfl rfl rfl rfl (Yld.mul rfl rfl (by simp only [In]; omega)) ?_ | refine WL.gyes rfl rfl rfl rfl (Yld.convB tab_ok rfl rfl rfl rfl) ?_ | refine WL.gyes rfl rfl rfl rfl (Yld.conv tab_ok rfl rfl rfl (by simp only [In]; omega)) ?_ | refine WL.gyes rfl rfl rfl rfl (Yld.quo rfl rfl (by omega) (by omega) (by simp only [In]; omega)) ?_ | refine WL.gyes rfl rfl rfl rfl (Yld.rem rfl rfl (by omega) (by omega)) ?_ | refine WL.gyes rfl rfl rfl rfl (Yld.shl rfl rfl (by omega)) ?_ | refine WL.gyes rfl rfl rfl rfl (Yld.shr rfl rfl (by omega)) ?_ | refine WL.gyes rfl rfl rfl rfl (Yld.pure tab_ok rfl) ?_ | refine WL.gyes rfl rfl rfl rfl (Yld.fld flds_ok rfl rfl rfl) ?_ | refine WL.gyes rfl rfl rfl rfl (Yld.max2 rfl rfl) ?_ | refine WL.gyes rfl rfl rfl rfl (Yld.min2 rfl rfl) ?_ | refine WL.gyes rfl rfl rfl rfl (Yld.pickV rfl rfl rfl) ?_)
  refine WL.ef0 (Ef0.insW (v := true) (q := s.id) (keyS Tryd.underlying36 (by kernel_rfl) hs1) Tryd.underlying75 hM1 (by simp [maxLen]) rfl rfl ⟨s, .refl, hne, rfl⟩ rfl) ?_
  rintro w2 ⟨hM2, hg2⟩
  have gr2 : w.grownBy w2 none := gr_mod hg1 hg2 (Ge.box (Nat.le_refl _))
  repeat (first | refine WC.seq ?_ | refine WC.block ?_ | refine WC.region ?_ | refine WL.nil ?_ | refine WX.then_normal ?_ | refine WC.skip ?_ | refine WC.exit ?_ | refine WC.ret ?_ | refine WX.then_exit ?_ | refine WX.then_ret ?_ | refine WX.block_normal ?_ | refine WX.block_ret ?_ | refine WX.block_same ?_ | refine WX.block_other rfl ?_ | refine WC.label ?_ | refine WC.scope ?_ | refine WX.scope_normal ?_ | refine WX.scope_ret ?_ | refine WX.scope_exit ?_ | refine WL.y rfl (Yld.add rfl rfl (by simp only [In]; omega)) ?_ | refine WL.y rfl (Yld.sub rfl rfl (by simp only [In]; omega)) ?_ | refine WL.y rfl (Yld.mul rfl rfl (by simp only [In]; omega)) ?_ | refine WL.y rfl (Yld.convB tab_ok rfl rfl rfl rfl) ?_ | refine WL.y rfl (Yld.conv tab_ok rfl rfl rfl (by simp only [In]; omega)) ?_ | refine WL.y rfl (Yld.quo rfl rfl (by omega) (by omega) (by simp only [In]; omega)) ?_ | refine WL.y rfl (Yld.rem rfl rfl (by omega) (by omega)) ?_ | refine WL.y rfl (Yld.shl rfl rfl (by omega)) ?_ | refine WL.y rfl (Yld.shr rfl rfl (by omega)) ?_ | refine WL.y rfl (Yld.pure tab_ok rfl) ?_ | refine WL.y rfl (Yld.fld flds_ok rfl rfl rfl) ?_ | refine WL.y rfl (Yld.max2 rfl rfl) ?_ | refine WL.y rfl (Yld.min2 rfl rfl) ?_ | refine WL.y rfl (Yld.pickV rfl rfl rfl) ?_ | refine WL.gno rfl rfl rfl rfl ?_ | refine WL.gyes rfl rfl rfl rfl (Yld.add rfl rfl (by simp only [In]; omega)) ?_ | refine WL.gyes rfl rfl rfl rfl (Yld.sub rfl rfl (by simp only [In]; omega)) ?_ | refine WL.gyes rfl rfl rfl rfl (Yld.mul rfl rfl (by simp only [In]; omega)) ?_ | refine WL.gyes rfl rfl rfl rfl (Yld.convB tab_ok rfl rfl rfl rfl) ?_ | refine WL.gyes rfl rfl rfl rfl (Yld.conv tab_ok rfl rfl rfl (by simp only [In]; omega)) ?_ | refine WL.gyes rfl rfl rfl rfl (Yld.quo rfl rfl (by omega) (by omega) (by simp only [In]; omega)) ?_ | refine WL.gyes rfl rfl rfl rfl (Yld.rem rfl rfl (by omega) (by omega)) ?_ | refine WL.gyes rfl rfl rfl rfl (Yld.shl rfl rfl (by omega)) ?_ | refine WL.gyes rfl rfl rfl rfl (Yld.shr rfl rfl (by omega)) ?_ | refine WL.gyes rfl rfl rfl rfl (Yld.pure tab_ok rfl) ?_ | refine WL.gyes rfl rfl rfl rfl (Yld.fld flds_ok rfl rfl rfl) ?_ | refine WL.gyes rfl rfl rfl rfl (Yld.max2 rfl rfl) ?_ | refine WL.gyes rfl rfl rfl rfl (Yld.min2 rfl rfl) ?_ | refine WL.gyes rfl rfl rfl rfl (Yld.pickV rfl rfl rfl) ?_)
  refine WL.lit (us := [vp s.id]) tab_ok rfl rfl rfl (all1c rfl all1n) rfl (by omega) (fun g w3 hB hg3 hl => ?_)
  have hO3 : Own vv w3 w.heap.size 36 (some ⟨g, 0, none⟩) 1 ([s].map (hdS F_s)) := Own.ofBl hB (Nat.le_trans gr2.size hl) (by simp [maxLen]) rfl
  have gr3 := gr_trans gr2 hg3
  have hM3 : MapB vp (okR s) vB w3 w.heap.size ([s].map fun x => (x.id, true)) := hM2.g0 hg3
  have i0 : SI w F_s s w.heap.size w3 [s] (some ⟨g, 0, none⟩) 1 := ⟨⟨by simp, fun x hx => by simp at hx; subst hx; exact .refl⟩, fun x hx => by simp at hx; subst hx; exact hne, by simp, gr3, hO3, hM3, fun a e e2 => by
    cases e; simp only [blk, Option.map_some, Option.some.injEq] at e2
    have := hM2.lt
    omega, Nat.le_refl _⟩
  generalize hgm : w.heap.size = gm at i0
  clear hM1 hM2 hM3 hO3 hB
  repeat (first | refine WC.seq ?_ | refine WC.block ?_ | refine WC.region ?_ | refine WL.nil ?_ | refine WX.then_normal ?_ | refine WC.skip ?_ | refine WC.exit ?_ | refine WC.ret ?_ | refine WX.then_exit ?_ | refine WX.then_ret ?_ | refine WX.block_normal ?_ | refine WX.block_ret ?_ | refine WX.block_same ?_ | refine WX.block_other rfl ?_ | refine WC.label ?_ | refine WC.scope ?_ | refine WX.scope_normal ?_ | refine WX.scope_ret ?_ | refine WX.scope_exit ?_ | refine WL.y rfl (Yld.add rfl rfl (by simp only [In]; omega)) ?_ | refine WL.y rfl (Yld.sub rfl rfl (by simp only [In]; omega)) ?_ | refine WL.y rfl (Yld.mul rfl rfl (by simp only [In]; omega)) ?_ | refine WL.y rfl (Yld.convB tab_ok rfl rfl rfl rfl) ?_ | refine WL.y rfl (Yld.conv tab_ok rfl rfl rfl (by simp only [In]; omega)) ?_ | refine WL.y rfl (Yld.quo rfl rfl (by omega) (by omega) (by simp only [In]; omega)) ?_ | refine WL.y rfl (Yld.rem rfl rfl (by omega) (by omega)) ?_ | refine WL.y rfl (Yld.shl rfl rfl (by omega)) ?_ | refine WL.y rfl (Yld.shr rfl rfl (by omega)) ?_ | refine WL.y rfl (Yld.pure tab_ok rfl) ?_ | refine WL.y rfl (Yld.fld flds_ok rfl rfl rfl) ?_ | refine WL.y rfl (Yld.max2 rfl rfl) ?_ | refine WL.y rfl (Yld.min2 rfl rfl) ?_ | refine WL.y rfl (Yld.pickV rfl rfl rfl) ?_ | refine WL.gno rfl rfl rfl rfl ?_ | refine WL.gyes rfl rfl rfl rfl (Yld.add rfl rfl (by simp only [In]; omega)) ?_ | refine WL.gyes rfl rfl rfl rfl (Yld.sub rfl rfl (by simp only [In]; omega)) ?_ | refine WL.gyes rfl rfl rfl rfl (Yld.mul rfl rfl (by simp only [In]; omega)) ?_ | refine WL.gyes rfl rfl rfl rfl (Yld.convB tab_ok rfl rfl rfl rfl) ?_ | refine WL.gyes rfl rfl rfl rfl (Yld.conv tab_ok rfl rfl rfl (by simp only [In]; omega)) ?_ | refine WL.gyes rfl rfl rfl rfl (Yld.quo rfl rfl (by omega) (by omega) (by simp only [In]; omega)) ?_ | refine WL.gyes rfl rfl rfl rfl (Yld.rem rfl rfl (by omega) (by omega)) ?_ | refine WL.gyes rfl rfl rfl rfl (Yld.shl rfl rfl (by omega)) ?_ | refine WL.gyes rfl rfl rfl rfl (Yld.shr rfl rfl (by omega)) ?_ | refine WL.gyes rfl rfl rfl rfl (Yld.pure tab_ok rfl) ?_ | refine WL.gyes rfl rfl rfl rfl (Yld.fld flds_ok rfl rfl rfl) ?_ | refine WL.gyes rfl rfl rfl rfl (Yld.max2 rfl rfl) ?_ | refine WL.gyes rfl rfl rfl rfl (Yld.min2 rfl rfl) ?_ | refine WL.gyes rfl rfl rfl rfl (Yld.pickV rfl rfl rfl) ?_)
  refine WC.loopF (fun n' L' w' => ∃ (i : Nat) (l : List PS) (A : Option Addr) (c : Nat), n' = 100001 - i ∧ L' = [(3, .map (some gm)), (4, .slice A l.length c), (5, .int .i64 (i : Int))] ∧ SI w F_s s gm w' l A c ∧ i ≤ l.length ∧ ∀ x ∈ l.take i, ∀ f ∈ x.fr, ∃ y ∈ l, y.id = f.id) _ _ ⟨0, [s], some ⟨g, 0, none⟩, 1, rfl, rfl, i0, by simp, by simp⟩ (by repeat (first | exact Sub.nil | refine Sub.cons rfl ?_)) ?_
  rintro _ _ w4 ⟨i, l, A, c, rfl, rfl, I, hi, hcl⟩
  repeat (first | refine WC.seq ?_ | refine WC.block ?_ | refine WC.region ?_ | refine WL.nil ?_ | refine WX.then_normal ?_ | refine WC.skip ?_ | refine WC.exit ?_ | refine WC.ret ?_ | refine WX.then_exit ?_ | refine WX.then_ret ?_ | refine WX.block_normal ?_ | refine WX.block_ret ?_ | refine WX.block_same ?_ | refine WX.block_other rfl ?_ | refine WC.label ?_ | refine WC.scope ?_ | refine WX.scope_normal ?_ | refine WX.scope_ret ?_ | refine WX.scope_exit ?_ | refine WL.y rfl (Yld.add rfl rfl (by simp only [In]; omega)) ?_ | refine WL.y rfl (Yld.sub rfl rfl (by simp only [In]; omega)) ?_ | refine WL.y rfl (Yld.mul rfl rfl (by simp only [In]; omega)) ?_ | refine WL.y rfl (Yld.convB tab_ok rfl rfl rfl rfl) ?_ | refine WL.y rfl (Yld.conv tab_ok rfl rfl rfl (by simp only [In]; omega)) ?_ | refine WL.y rfl (Yld.quo rfl rfl (by omega) (by omega) (by simp only [In]; omega)) ?_ | refine WL.y rfl (Yld.rem rfl rfl (by omega) (by omega)) ?_ | refine WL.y rfl (Yld.shl rfl rfl (by omega)) ?_ | refine WL.y rfl (Yld.shr rfl rfl (by omega)) ?_ | refine WL.y rfl (Yld.pure tab_ok rfl) ?_ | refine WL.y rfl (Yld.fld flds_ok rfl rfl rfl) ?_ | refine WL.y rfl (Yld.max2 rfl rfl) ?_ | refine WL.y rfl (Yld.min2 rfl rfl) ?_ | refine WL.y rfl (Yld.pickV rfl rfl rfl) ?_ | refine WL.gno rfl rfl rfl rfl ?_ | refine WL.gyes rfl rfl rfl rfl (Yld.add rfl rfl (by simp only [In]; omega)) ?_ | refine WL.gyes rfl rfl rfl rfl (Yld.sub rfl rfl (by simp only [In]; omega)) ?_ | refine WL.gyes rfl rfl rfl rfl (Yld.mul rfl rfl (by simp only [In]; omega)) ?_ | refine WL.gyes rfl rfl rfl rfl (Yld.convB tab_ok rfl rfl rfl rfl) ?_ | refine WL.gyes rfl rfl rfl rfl (Yld.conv tab_ok rfl rfl rfl (by simp only [In]; omega)) ?_ | refine WL.gyes rfl rfl rfl rfl (Yld.quo rfl rfl (by omega) (by omega) (by simp only [In]; omega)) ?_ | refine WL.gyes rfl rfl rfl rfl (Yld.rem rfl rfl (by omega) (by omega)) ?_ | refine WL.gyes rfl rfl rfl rfl (Yld.shl rfl rfl (by omega)) ?_ | refine WL.gyes rfl rfl rfl rfl (Yld.shr rfl rfl (by omega)) ?_ | refine WL.gyes rfl rfl rfl rfl (Yld.pure tab_ok rfl) ?_ | refine WL.gyes rfl rfl rfl rfl (Yld.fld flds_ok rfl rfl rfl) ?_ | refine WL.gyes rfl rfl rfl rfl (Yld.max2 rfl rfl) ?_ | refine WL.gyes rfl rfl rfl rfl (Yld.min2 rfl rfl) ?_ | refine WL.gyes rfl rfl rfl rfl (Yld.pickV rfl rfl rfl) ?_)
  refine WC.cond rfl (fun b1 => ?_) (fun b1 => ?_)
  · have b1 := of_decide_eq_true b1
    have hil : i < l.length := by omega
    have hil' : i < (l.map (hdS F_s)).length := by simpa using hil
    have hx : ∃ x, l[i]? = some x := ⟨_, List.getElem?_eq_getElem hil⟩
    obtain ⟨x, hx⟩ := hx
    have hxm : x ∈ l := List.mem_of_getElem? hx
    have hxr := I.so.re x hxm
    have hxn := I.nn x hxm
    have e1 : vv ((l.map (hdS F_s)).getD i vh0) = .pointer (some ⟨x.id, 0, none⟩) := by simp [List.getD, hx, hdS, vv]
    obtain ⟨Ao, co, Ak, ck, Af, cf, ho, hf, _, hBx, _, _, _, hRf, hrf, _⟩ := SR.out (relS hs hxr hxn) hxn
    have hgr4 := I.gr
    have hi5 : (i : Int) < 100000 := by have := hB1 _ I.so; omega
    have hfl : (x.fr.length : Int) ≤ 9223372036854775807 := by
      have h1 := hRf.cap
      have h2 := hRf.max
      rw [hrf.1] at h1
      simp only [maxLen] at h2
      omega
    repeat (first | refine WL.y rfl (Yld.iaddrNW tab_ok I.own.rd rfl rfl (by simp) rfl (by omega)) ?_ | refine WL.y rfl (Yld.iaddrW tab_ok I.own.rd rfl rfl (by simp) rfl (by omega) (by omega)) ?_ | refine WC.seq ?_ | refine WC.block ?_ | refine WC.region ?_ | refine WL.nil ?_ | refine WX.then_normal ?_ | refine WC.skip ?_ | refine WC.exit ?_ | refine WC.ret ?_ | refine WX.then_exit ?_ | refine WX.then_ret ?_ | refine WX.block_normal ?_ | refine WX.block_ret ?_ | refine WX.block_same ?_ | refine WX.block_other rfl ?_ | refine WC.label ?_ | refine WC.scope ?_ | refine WX.scope_normal ?_ | refine WX.scope_ret ?_ | refine WX.scope_exit ?_ | refine WL.y rfl (Yld.add rfl rfl (by simp only [In]; omega)) ?_ | refine WL.y rfl (Yld.sub rfl rfl (by simp only [In]; omega)) ?_ | refine WL.y rfl (Yld.mul rfl rfl (by simp only [In]; omega)) ?_ | refine WL.y rfl (Yld.convB tab_ok rfl rfl rfl rfl) ?_ | refine WL.y rfl (Yld.conv tab_ok rfl rfl rfl (by simp only [In]; omega)) ?_ | refine WL.y rfl (Yld.quo rfl rfl (by omega) (by omega) (by simp only [In]; omega)) ?_ | refine WL.y rfl (Yld.rem rfl rfl (by omega) (by omega)) ?_ | refine WL.y rfl (Yld.shl rfl rfl (by omega)) ?_ | refine WL.y rfl (Yld.shr rfl rfl (by omega)) ?_ | refine WL.y rfl (Yld.pure tab_ok rfl) ?_ | refine WL.y rfl (Yld.fld flds_ok rfl rfl rfl) ?_ | refine WL.y rfl (Yld.max2 rfl rfl) ?_ | refine WL.y rfl (Yld.min2 rfl rfl) ?_ | refine WL.y rfl (Yld.pickV rfl rfl rfl) ?_ | refine WL.gno rfl rfl rfl rfl ?_ | refine WL.gyes rfl rfl rfl rfl (Yld.add rfl rfl (by simp only [In]; omega)) ?_ | refine WL.gyes rfl rfl rfl rfl (Yld.sub rfl rfl (by simp only [In]; omega)) ?_ | refine WL.gyes rfl rfl rfl rfl (Yld.mul rfl rfl (by simp only [In]; omega)) ?_ | refine WL.gyes rfl rfl rfl rfl (Yld.convB tab_ok rfl rfl rfl rfl) ?_ | refine WL.gyes rfl rfl rfl rfl (Yld.conv tab_ok rfl rfl rfl (by simp only [In]; omega)) ?_ | refine WL.gyes rfl rfl rfl rfl (Yld.quo rfl rfl (by omega) (by omega) (by simp only [In]; omega)) ?_ | refine WL.gyes rfl rfl rfl rfl (Yld.rem rfl rfl (by omega) (by omega)) ?_ | refine WL.gyes rfl rfl rfl rfl (Yld.shl rfl rfl (by omega)) ?_ | refine WL.gyes rfl rfl rfl rfl (Yld.shr rfl rfl (by omega)) ?_ | refine WL.gyes rfl rfl rfl rfl (Yld.pure tab_ok rfl) ?_ | refine WL.gyes rfl rfl rfl rfl (Yld.fld flds_ok rfl rfl rfl) ?_ | refine WL.gyes rfl rfl rfl rfl (Yld.max2 rfl rfl) ?_ | refine WL.gyes rfl rfl rfl rfl (Yld.min2 rfl rfl) ?_ | refine WL.gyes rfl rfl rfl rfl (Yld.pickV rfl rfl rfl) ?_)
    refine WL.y rfl (Yld.to (v := .pointer (some ⟨x.id, 0, none⟩)) (Yld.iload vh0 tab_ok I.own.rd rfl rfl hil') e1) ?_
    refine WL.y rfl (Yld.pure tab_ok rfl) ?_
    refine WL.y rfl (Yld.fa0 (o := 3) (by kernel_rfl) rfl) ?_
    refine WL.y rfl (Yld.bload tab_ok (hBx.g0 hgr4) rfl rfl rfl) ?_
    repeat (first | refine WC.seq ?_ | refine WC.block ?_ | refine WC.region ?_ | refine WL.nil ?_ | refine WX.then_normal ?_ | refine WC.skip ?_ | refine WC.exit ?_ | refine WC.ret ?_ | refine WX.then_exit ?_ | refine WX.then_ret ?_ | refine WX.block_normal ?_ | refine WX.block_ret ?_ | refine WX.block_same ?_ | refine WX.block_other rfl ?_ | refine WC.label ?_ | refine WC.scope ?_ | refine WX.scope_normal ?_ | refine WX.scope_ret ?_ | refine WX.scope_exit ?_ | refine WL.y rfl (Yld.add rfl rfl (by simp only [In]; omega)) ?_ | refine WL.y rfl (Yld.sub rfl rfl (by simp only [In]; omega)) ?_ | refine WL.y rfl (Yld.mul rfl rfl (by simp only [In]; omega)) ?_ | refine WL.y rfl (Yld.convB tab_ok rfl rfl rfl rfl) ?_ | refine WL.y rfl (Yld.conv tab_ok rfl rfl rfl (by simp only [In]; omega)) ?_ | refine WL.y rfl (Yld.quo rfl rfl (by omega) (by omega) (by simp only [In]; omega)) ?_ | refine WL.y rfl (Yld.rem rfl rfl (by omega) (by omega)) ?_ | refine WL.y rfl (Yld.shl rfl rfl (by omega)) ?_ | refine WL.y rfl (Yld.shr rfl rfl (by omega)) ?_ | refine WL.y rfl (Yld.pure tab_ok rfl) ?_ | refine WL.y rfl (Yld.fld flds_ok rfl rfl rfl) ?_ | refine WL.y rfl (Yld.max2 rfl rfl) ?_ | refine WL.y rfl (Yld.min2 rfl rfl) ?_ | refine WL.y rfl (Yld.pickV rfl rfl rfl) ?_ | refine WL.gno rfl rfl rfl rfl ?_ | refine WL.gyes rfl rfl rfl rfl (Yld.add rfl rfl (by simp only [In]; omega)) ?_ | refine WL.gyes rfl rfl rfl rfl (Yld.sub rfl rfl (by simp only [In]; omega)) ?_ | refine WL.gyes rfl rfl rfl rfl (Yld.mul rfl rfl (by simp only [In]; omega)) ?_ | refine WL.gyes rfl rfl rfl rfl (Yld.convB tab_ok rfl rfl rfl rfl) ?_ | refine WL.gyes rfl rfl rfl rfl (Yld.conv tab_ok rfl rfl rfl (by simp only [In]; omega)) ?_ | refine WL.gyes rfl rfl rfl rfl (Yld.quo rfl rfl (by omega) (by omega) (by simp only [In]; omega)) ?_ | refine WL.gyes rfl rfl rfl rfl (Yld.rem rfl rfl (by omega) (by omega)) ?_ | refine WL.gyes rfl rfl rfl rfl (Yld.shl rfl rfl (by omega)) ?_ | refine WL.gyes rfl rfl rfl rfl (Yld.shr rfl rfl (by omega)) ?_ | refine WL.gyes rfl rfl rfl rfl (Yld.pure tab_ok rfl) ?_ | refine WL.gyes rfl rfl rfl rfl (Yld.fld flds_ok rfl rfl rfl) ?_ | refine WL.gyes rfl rfl rfl rfl (Yld.max2 rfl rfl) ?_ | refine WL.gyes rfl rfl rfl rfl (Yld.min2 rfl rfl) ?_ | refine WL.gyes rfl rfl rfl rfl (Yld.pickV rfl rfl rfl) ?_)
    refine WC.loopF (fun n' L' w' => ∃ (j : Nat) (l' : List PS) (A' : Option Addr) (c' : Nat), n' = x.fr.length - j ∧ L' = [(3, .map (some gm)), (4, .slice A' l'.length c'), (5, .int .i64 (i : Int)), (25, .slice Af x.fr.length cf), (26, .int .i64 (x.fr.length : Int)), (27, .int .i64 (j : Int))] ∧ SI w F_s s gm w' l' A' c' ∧ j ≤ x.fr.length ∧ (∃ t, l' = l ++ t) ∧ ∀ f ∈ x.fr.take j, ∃ y ∈ l', y.id = f.id) _ _ ⟨0, l, A, c, rfl, rfl, I, by simp, ⟨[], by simp⟩, by simp⟩ (by repeat (first | exact Sub.nil | refine Sub.cons rfl ?_)) ?_
    rintro _ _ w5 ⟨j, l', A', c', rfl, rfl, I', hj, ⟨t, ht⟩, hcl'⟩
    repeat (first | refine WC.seq ?_ | refine WC.block ?_ | refine WC.region ?_ | refine WL.nil ?_ | refine WX.then_normal ?_ | refine WC.skip ?_ | refine WC.exit ?_ | refine WC.ret ?_ | refine WX.then_exit ?_ | refine WX.then_ret ?_ | refine WX.block_normal ?_ | refine WX.block_ret ?_ | refine WX.block_same ?_ | refine WX.block_other rfl ?_ | refine WC.label ?_ | refine WC.scope ?_ | refine WX.scope_normal ?_ | refine WX.scope_ret ?_ | refine WX.scope_exit ?_ | refine WL.y rfl (Yld.add rfl rfl (by simp only [In]; omega)) ?_ | refine WL.y rfl (Yld.sub rfl rfl (by simp only [In]; omega)) ?_ | refine WL.y rfl (Yld.mul rfl rfl (by simp only [In]; omega)) ?_ | refine WL.y rfl (Yld.convB tab_ok rfl rfl rfl rfl) ?_ | refine WL.y rfl (Yld.conv tab_ok rfl rfl rfl (by simp only [In]; omega)) ?_ | refine WL.y rfl (Yld.quo rfl rfl (by omega) (by omega) (by simp only [In]; omega)) ?_ | refine WL.y rfl (Yld.rem rfl rfl (by omega) (by omega)) ?_ | refine WL.y rfl (Yld.shl rfl rfl (by omega)) ?_ | refine WL.y rfl (Yld.shr rfl rfl (by omega)) ?_ | refine WL.y rfl (Yld.pure tab_ok rfl) ?_ | refine WL.y rfl (Yld.fld flds_ok rfl rfl rfl) ?_ | refine WL.y rfl (Yld.max2 rfl rfl) ?_ | refine WL.y rfl (Yld.min2 rfl rfl) ?_ | refine WL.y rfl (Yld.pickV rfl rfl rfl) ?_ | refine WL.gno rfl rfl rfl rfl ?_ | refine WL.gyes rfl rfl rfl rfl (Yld.add rfl rfl (by simp only [In]; omega)) ?_ | refine WL.gyes rfl rfl rfl rfl (Yld.sub rfl rfl (by simp only [In]; omega)) ?_ | refine WL.gyes rfl rfl rfl rfl (Yld.mul rfl rfl (by simp only [In]; omega)) ?_ | refine WL.gyes rfl rfl rfl rfl (Yld.convB tab_ok rfl rfl rfl rfl) ?_ | refine WL.gyes rfl rfl rfl rfl (Yld.conv tab_ok rfl rfl rfl (by simp only [In]; omega)) ?_ | refine WL.gyes rfl rfl rfl rfl (Yld.quo rfl rfl (by omega) (by omega) (by simp only [In]; omega)) ?_ | refine WL.gyes rfl rfl rfl rfl (Yld.rem rfl rfl (by omega) (by omega)) ?_ | refine WL.gyes rfl rfl rfl rfl (Yld.shl rfl rfl (by omega)) ?_ | refine WL.gyes rfl rfl rfl rfl (Yld.shr rfl rfl (by omega)) ?_ | refine WL.gyes rfl rfl rfl rfl (Yld.pure tab_ok rfl) ?_ | refine WL.gyes rfl rfl rfl rfl (Yld.fld flds_ok rfl rfl rfl) ?_ | refine WL.gyes rfl rfl rfl rfl (Yld.max2 rfl rfl) ?_ | refine WL.gyes rfl rfl rfl rfl (Yld.min2 rfl rfl) ?_ | refine WL.gyes rfl rfl rfl rfl (Yld.pickV rfl rfl rfl) ?_)
    refine WC.cond rfl (fun b2 => ?_) (fun b2 => ?_)
    · have b2 := of_decide_eq_true b2
      have hjl : j < x.fr.length := by omega
      have hjh : j < hf.length := by rw [hrf.1]; exact hjl
      obtain ⟨f, hfj⟩ : ∃ f, x.fr[j]? = some f := ⟨_, List.getElem?_eq_getElem hjl⟩
      have hfm : f ∈ x.fr := List.mem_of_getElem? hfj
      have hfr : Reach s f := .step hxr hfm
      have hfn : f ≠ .nil := by
        cases x with
        | nil => exact absurd rfl hxn
        | mk =>
          obtain ⟨⟨n, k⟩, _⟩ := (relS hs hxr hxn).one
          cases n with
          | zero => exact k.elim
          | succ n =>
            obtain ⟨_, _, _, _, _, _, _, _, _, hq, _, _, _, _, _, _, _, _, q2, _, q4⟩ := k
            exact (q4 j _ f (List.getElem?_eq_getElem (by rw [q2]; exact hjl)) hfj).1
      have e2 : vv (hf.getD j vh0) = .pointer (some ⟨f.id, 0, none⟩) := by
        obtain ⟨⟨n, k⟩, _⟩ := hrf.2 j _ f (List.getElem?_eq_getElem hjh) hfj
        have := k.ptr
        cases f with
        | nil => exact absurd rfl hfn
        | mk => simp [List.getD, hjh, vv]; exact this
      have hgr5 := I'.gr
      repeat (first | refine WL.y rfl (Yld.iaddrNW tab_ok (hRf.grown hgr5) rfl rfl hrf.1.symm rfl (by omega)) ?_ | refine WL.y rfl (Yld.iaddrW tab_ok (hRf.grown hgr5) rfl rfl hrf.1.symm rfl (by omega) (by omega)) ?_ | refine WC.seq ?_ | refine WC.block ?_ | refine WC.region ?_ | refine WL.nil ?_ | refine WX.then_normal ?_ | refine WC.skip ?_ | refine WC.exit ?_ | refine WC.ret ?_ | refine WX.then_exit ?_ | refine WX.then_ret ?_ | refine WX.block_normal ?_ | refine WX.block_ret ?_ | refine WX.block_same ?_ | refine WX.block_other rfl ?_ | refine WC.label ?_ | refine WC.scope ?_ | refine WX.scope_normal ?_ | refine WX.scope_ret ?_ | refine WX.scope_exit ?_ | refine WL.y rfl (Yld.add rfl rfl (by simp only [In]; omega)) ?_ | refine WL.y rfl (Yld.sub rfl rfl (by simp only [In]; omega)) ?_ | refine WL.y rfl (Yld.mul rfl rfl (by simp only [In]; omega)) ?_ | refine WL.y rfl (Yld.convB tab_ok rfl rfl rfl rfl) ?_ | refine WL.y rfl (Yld.conv tab_ok rfl rfl rfl (by simp only [In]; omega)) ?_ | refine WL.y rfl (Yld.quo rfl rfl (by omega) (by omega) (by simp only [In]; omega)) ?_ | refine WL.y rfl (Yld.rem rfl rfl (by omega) (by omega)) ?_ | refine WL.y rfl (Yld.shl rfl rfl (by omega)) ?_ | refine WL.y rfl (Yld.shr rfl rfl (by omega)) ?_ | refine WL.y rfl (Yld.pure tab_ok rfl) ?_ | refine WL.y rfl (Yld.fld flds_ok rfl rfl rfl) ?_ | refine WL.y rfl (Yld.max2 rfl rfl) ?_ | refine WL.y rfl (Yld.min2 rfl rfl) ?_ | refine WL.y rfl (Yld.pickV rfl rfl rfl) ?_ | refine WL.gno rfl rfl rfl rfl ?_ | refine WL.gyes rfl rfl rfl rfl (Yld.add rfl rfl (by simp only [In]; omega)) ?_ | refine WL.gyes rfl rfl rfl rfl (Yld.sub rfl rfl (by simp only [In]; omega)) ?_ | refine WL.gyes rfl rfl rfl rfl (Yld.mul rfl rfl (by simp only [In]; omega)) ?_ | refine WL.gyes rfl rfl rfl rfl (Yld.convB tab_ok rfl rfl rfl rfl) ?_ | refine WL.gyes rfl rfl rfl rfl (Yld.conv tab_ok rfl rfl rfl (by simp only [In]; omega)) ?_ | refine WL.gyes rfl rfl rfl rfl (Yld.quo rfl rfl (by omega) (by omega) (by simp only [In]; omega)) ?_ | refine WL.gyes rfl rfl rfl rfl (Yld.rem rfl rfl (by omega) (by omega)) ?_ | refine WL.gyes rfl rfl rfl rfl (Yld.shl rfl rfl (by omega)) ?_ | refine WL.gyes rfl rfl rfl rfl (Yld.shr rfl rfl (by omega)) ?_ | refine WL.gyes rfl rfl rfl rfl (Yld.pure tab_ok rfl) ?_ | refine WL.gyes rfl rfl rfl rfl (Yld.fld flds_ok rfl rfl rfl) ?_ | refine WL.gyes rfl rfl rfl rfl (Yld.max2 rfl rfl) ?_ | refine WL.gyes rfl rfl rfl rfl (Yld.min2 rfl rfl) ?_ | refine WL.gyes rfl rfl rfl rfl (Yld.pickV rfl rfl rfl) ?_)
      refine WL.y rfl (Yld.to (v := .pointer (some ⟨f.id, 0, none⟩)) (Yld.iload vh0 tab_ok (hRf.grown hgr5) rfl rfl hjh) e2) ?_
      have hs5 := hs.grown hgr5
      have hok : okR s f.id := ⟨f, hfr, hfn, rfl⟩
      repeat (first | refine WC.seq ?_ | refine WC.block ?_ | refine WC.region ?_ | refine WL.nil ?_ | refine WX.then_normal ?_ | refine WC.skip ?_ | refine WC.exit ?_ | refine WC.ret ?_ | refine WX.then_exit ?_ | refine WX.then_ret ?_ | refine WX.block_normal ?_ | refine WX.block_ret ?_ | refine WX.block_same ?_ | refine WX.block_other rfl ?_ | refine WC.label ?_ | refine WC.scope ?_ | refine WX.scope_normal ?_ | refine WX.scope_ret ?_ | refine WX.scope_exit ?_ | refine WL.y rfl (Yld.add rfl rfl (by simp only [In]; omega)) ?_ | refine WL.y rfl (Yld.sub rfl rfl (by simp only [In]; omega)) ?_ | refine WL.y rfl (Yld.mul rfl rfl (by simp only [In]; omega)) ?_ | refine WL.y rfl (Yld.convB tab_ok rfl rfl rfl rfl) ?_ | refine WL.y rfl (Yld.conv tab_ok rfl rfl rfl (by simp only [In]; omega)) ?_ | refine WL.y rfl (Yld.quo rfl rfl (by omega) (by omega) (by simp only [In]; omega)) ?_ | refine WL.y rfl (Yld.rem rfl rfl (by omega) (by omega)) ?_ | refine WL.y rfl (Yld.shl rfl rfl (by omega)) ?_ | refine WL.y rfl (Yld.shr rfl rfl (by omega)) ?_ | refine WL.y rfl (Yld.pure tab_ok rfl) ?_ | refine WL.y rfl (Yld.fld flds_ok rfl rfl rfl) ?_ | refine WL.y rfl (Yld.max2 rfl rfl) ?_ | refine WL.y rfl (Yld.min2 rfl rfl) ?_ | refine WL.y rfl (Yld.pickV rfl rfl rfl) ?_ | refine WL.gno rfl rfl rfl rfl ?_ | refine WL.gyes rfl rfl rfl rfl (Yld.add rfl rfl (by simp only [In]; omega)) ?_ | refine WL.gyes rfl rfl rfl rfl (Yld.sub rfl rfl (by simp only [In]; omega)) ?_ | refine WL.gyes rfl rfl rfl rfl (Yld.mul rfl rfl (by simp only [In]; omega)) ?_ | refine WL.gyes rfl rfl rfl rfl (Yld.convB tab_ok rfl rfl rfl rfl) ?_ | refine WL.gyes rfl rfl rfl rfl (Yld.conv tab_ok rfl rfl rfl (by simp only [In]; omega)) ?_ | refine WL.gyes rfl rfl rfl rfl (Yld.quo rfl rfl (by omega) (by omega) (by simp only [In]; omega)) ?_ | refine WL.gyes rfl rfl rfl rfl (Yld.rem rfl rfl (by omega) (by omega)) ?_ | refine WL.gyes rfl rfl rfl rfl (Yld.shl rfl rfl (by omega)) ?_ | refine WL.gyes rfl rfl rfl rfl (Yld.shr rfl rfl (by omega)) ?_ | refine WL.gyes rfl rfl rfl rfl (Yld.pure tab_ok rfl) ?_ | refine WL.gyes rfl rfl rfl rfl (Yld.fld flds_ok rfl rfl rfl) ?_ | refine WL.gyes rfl rfl rfl rfl (Yld.max2 rfl rfl) ?_ | refine WL.gyes rfl rfl rfl rfl (Yld.min2 rfl rfl) ?_ | refine WL.gyes rfl rfl rfl rfl (Yld.pickV rfl rfl rfl) ?_)
      refine WL.y rfl (Yld.lookW (z := false) (q := f.id) (keyS Tryd.underlying36 (by kernel_rfl) hs5) Tryd.underlying75 (fun _ => by kernel_rfl) I'.mp rfl rfl hok) ?_
      rw [mget_ids]
      repeat (first | refine WC.seq ?_ | refine WC.block ?_ | refine WC.region ?_ | refine WL.nil ?_ | refine WX.then_normal ?_ | refine WC.skip ?_ | refine WC.exit ?_ | refine WC.ret ?_ | refine WX.then_exit ?_ | refine WX.then_ret ?_ | refine WX.block_normal ?_ | refine WX.block_ret ?_ | refine WX.block_same ?_ | refine WX.block_other rfl ?_ | refine WC.label ?_ | refine WC.scope ?_ | refine WX.scope_normal ?_ | refine WX.scope_ret ?_ | refine WX.scope_exit ?_ | refine WL.y rfl (Yld.add rfl rfl (by simp only [In]; omega)) ?_ | refine WL.y rfl (Yld.sub rfl rfl (by simp only [In]; omega)) ?_ | refine WL.y rfl (Yld.mul rfl rfl (by simp only [In]; omega)) ?_ | refine WL.y rfl (Yld.convB tab_ok rfl rfl rfl rfl) ?_ | refine WL.y rfl (Yld.conv tab_ok rfl rfl rfl (by simp only [In]; omega)) ?_ | refine WL.y rfl (Yld.quo rfl rfl (by omega) (by omega) (by simp only [In]; omega)) ?_ | refine WL.y rfl (Yld.rem rfl rfl (by omega) (by omega)) ?_ | refine WL.y rfl (Yld.shl rfl rfl (by omega)) ?_ | refine WL.y rfl (Yld.shr rfl rfl (by omega)) ?_ | refine WL.y rfl (Yld.pure tab_ok rfl) ?_ | refine WL.y rfl (Yld.fld flds_ok rfl rfl rfl) ?_ | refine WL.y rfl (Yld.max2 rfl rfl) ?_ | refine WL.y rfl (Yld.min2 rfl rfl) ?_ | refine WL.y rfl (Yld.pickV rfl rfl rfl) ?_ | refine WL.gno rfl rfl rfl rfl ?_ | refine WL.gyes rfl rfl rfl rfl (Yld.add rfl rfl (by simp only [In]; omega)) ?_ | refine WL.gyes rfl rfl rfl rfl (Yld.sub rfl rfl (by simp only [In]; omega)) ?_ | refine WL.gyes rfl rfl rfl rfl (Yld.mul rfl rfl (by simp only [In]; omega)) ?_ | refine WL.gyes rfl rfl rfl rfl (Yld.convB tab_ok rfl rfl rfl rfl) ?_ | refine WL.gyes rfl rfl rfl rfl (Yld.conv tab_ok rfl rfl rfl (by simp only [In]; omega)) ?_ | refine WL.gyes rfl rfl rfl rfl (Yld.quo rfl rfl (by omega) (by omega) (by simp only [In]; omega)) ?_ | refine WL.gyes rfl rfl rfl rfl (Yld.rem rfl rfl (by omega) (by omega)) ?_ | refine WL.gyes rfl rfl rfl rfl (Yld.shl rfl rfl (by omega)) ?_ | refine WL.gyes rfl rfl rfl rfl (Yld.shr rfl rfl (by omega)) ?_ | refine WL.gyes rfl rfl rfl rfl (Yld.pure tab_ok rfl) ?_ | refine WL.gyes rfl rfl rfl rfl (Yld.fld flds_ok rfl rfl rfl) ?_ | refine WL.gyes rfl rfl rfl rfl (Yld.max2 rfl rfl) ?_ | refine WL.gyes rfl rfl rfl rfl (Yld.min2 rfl rfl) ?_ | refine WL.gyes rfl rfl rfl rfl (Yld.pickV rfl rfl rfl) ?_)
      refine WC.cond rfl (fun b3 => ?_) (fun b3 => ?_)
      · have hnot : f.id ∉ l'.map PS.id := by simpa using b3
        have hso := I'.so.push hfr hnot
        have hlen := hB1 _ hso
        simp only [List.length_append, List.length_cons, List.length_nil] at hlen
        repeat (first | refine WC.seq ?_ | refine WC.block ?_ | refine WC.region ?_ | refine WL.nil ?_ | refine WX.then_normal ?_ | refine WC.skip ?_ | refine WC.exit ?_ | refine WC.ret ?_ | refine WX.then_exit ?_ | refine WX.then_ret ?_ | refine WX.block_normal ?_ | refine WX.block_ret ?_ | refine WX.block_same ?_ | refine WX.block_other rfl ?_ | refine WC.label ?_ | refine WC.scope ?_ | refine WX.scope_normal ?_ | refine WX.scope_ret ?_ | refine WX.scope_exit ?_ | refine WL.y rfl (Yld.add rfl rfl (by simp only [In]; omega)) ?_ | refine WL.y rfl (Yld.sub rfl rfl (by simp only [In]; omega)) ?_ | refine WL.y rfl (Yld.mul rfl rfl (by simp only [In]; omega)) ?_ | refine WL.y rfl (Yld.convB tab_ok rfl rfl rfl rfl) ?_ | refine WL.y rfl (Yld.conv tab_ok rfl rfl rfl (by simp only [In]; omega)) ?_ | refine WL.y rfl (Yld.quo rfl rfl (by omega) (by omega) (by simp only [In]; omega)) ?_ | refine WL.y rfl (Yld.rem rfl rfl (by omega) (by omega)) ?_ | refine WL.y rfl (Yld.shl rfl rfl (by omega)) ?_ | refine WL.y rfl (Yld.shr rfl rfl (by omega)) ?_ | refine WL.y rfl (Yld.pure tab_ok rfl) ?_ | refine WL.y rfl (Yld.fld flds_ok rfl rfl rfl) ?_ | refine WL.y rfl (Yld.max2 rfl rfl) ?_ | refine WL.y rfl (Yld.min2 rfl rfl) ?_ | refine WL.y rfl (Yld.pickV rfl rfl rfl) ?_ | refine WL.gno rfl rfl rfl rfl ?_ | refine WL.gyes rfl rfl rfl rfl (Yld.add rfl rfl (by simp only [In]; omega)) ?_ | refine WL.gyes rfl rfl rfl rfl (Yld.sub rfl rfl (by simp only [In]; omega)) ?_ | refine WL.gyes rfl rfl rfl rfl (Yld.mul rfl rfl (by simp only [In]; omega)) ?_ | refine WL.gyes rfl rfl rfl rfl (Yld.convB tab_ok rfl rfl rfl rfl) ?_ | refine WL.gyes rfl rfl rfl rfl (Yld.conv tab_ok rfl rfl rfl (by simp only [In]; omega)) ?_ | refine WL.gyes rfl rfl rfl rfl (Yld.quo rfl rfl (by omega) (by omega) (by simp only [In]; omega)) ?_ | refine WL.gyes rfl rfl rfl rfl (Yld.rem rfl rfl (by omega) (by omega)) ?_ | refine WL.gyes rfl rfl rfl rfl (Yld.shl rfl rfl (by omega)) ?_ | refine WL.gyes rfl rfl rfl rfl (Yld.shr rfl rfl (by omega)) ?_ | refine WL.gyes rfl rfl rfl rfl (Yld.pure tab_ok rfl) ?_ | refine WL.gyes rfl rfl rfl rfl (Yld.fld flds_ok rfl rfl rfl) ?_ | refine WL.gyes rfl rfl rfl rfl (Yld.max2 rfl rfl) ?_ | refine WL.gyes rfl rfl rfl rfl (Yld.min2 rfl rfl) ?_ | refine WL.gyes rfl rfl rfl rfl (Yld.pickV rfl rfl rfl) ?_)
        refine WL.ef0 (Ef0.putW (v := true) (q := f.id) (keyS Tryd.underlying36 (by kernel_rfl) hs5) Tryd.underlying75 I'.mp (by simp [maxLen]; omega) rfl rfl hok rfl) ?_
        rintro w6 ⟨hM6, hg6⟩
        have gr6 : w.grownBy w6 none := gr_mod hgr5 hg6 (Ge.box I'.ge)
        have hO6 := I'.own.go hg6 I'.dj.symm
        repeat (first | refine WC.seq ?_ | refine WC.block ?_ | refine WC.region ?_ | refine WL.nil ?_ | refine WX.then_normal ?_ | refine WC.skip ?_ | refine WC.exit ?_ | refine WC.ret ?_ | refine WX.then_exit ?_ | refine WX.then_ret ?_ | refine WX.block_normal ?_ | refine WX.block_ret ?_ | refine WX.block_same ?_ | refine WX.block_other rfl ?_ | refine WC.label ?_ | refine WC.scope ?_ | refine WX.scope_normal ?_ | refine WX.scope_ret ?_ | refine WX.scope_exit ?_ | refine WL.y rfl (Yld.add rfl rfl (by simp only [In]; omega)) ?_ | refine WL.y rfl (Yld.sub rfl rfl (by simp only [In]; omega)) ?_ | refine WL.y rfl (Yld.mul rfl rfl (by simp only [In]; omega)) ?_ | refine WL.y rfl (Yld.convB tab_ok rfl rfl rfl rfl) ?_ | refine WL.y rfl (Yld.conv tab_ok rfl rfl rfl (by simp only [In]; omega)) ?_ | refine WL.y rfl (Yld.quo rfl rfl (by omega) (by omega) (by simp only [In]; omega)) ?_ | refine WL.y rfl (Yld.rem rfl rfl (by omega) (by omega)) ?_ | refine WL.y rfl (Yld.shl rfl rfl (by omega)) ?_ | refine WL.y rfl (Yld.shr rfl rfl (by omega)) ?_ | refine WL.y rfl (Yld.pure tab_ok rfl) ?_ | refine WL.y rfl (Yld.fld flds_ok rfl rfl rfl) ?_ | refine WL.y rfl (Yld.max2 rfl rfl) ?_ | refine WL.y rfl (Yld.min2 rfl rfl) ?_ | refine WL.y rfl (Yld.pickV rfl rfl rfl) ?_ | refine WL.gno rfl rfl rfl rfl ?_ | refine WL.gyes rfl rfl rfl rfl (Yld.add rfl rfl (by simp only [In]; omega)) ?_ | refine WL.gyes rfl rfl rfl rfl (Yld.sub rfl rfl (by simp only [In]; omega)) ?_ | refine WL.gyes rfl rfl rfl rfl (Yld.mul rfl rfl (by simp only [In]; omega)) ?_ | refine WL.gyes rfl rfl rfl rfl (Yld.convB tab_ok rfl rfl rfl rfl) ?_ | refine WL.gyes rfl rfl rfl rfl (Yld.conv tab_ok rfl rfl rfl (by simp only [In]; omega)) ?_ | refine WL.gyes rfl rfl rfl rfl (Yld.quo rfl rfl (by omega) (by omega) (by simp only [In]; omega)) ?_ | refine WL.gyes rfl rfl rfl rfl (Yld.rem rfl rfl (by omega) (by omega)) ?_ | refine WL.gyes rfl rfl rfl rfl (Yld.shl rfl rfl (by omega)) ?_ | refine WL.gyes rfl rfl rfl rfl (Yld.shr rfl rfl (by omega)) ?_ | refine WL.gyes rfl rfl rfl rfl (Yld.pure tab_ok rfl) ?_ | refine WL.gyes rfl rfl rfl rfl (Yld.fld flds_ok rfl rfl rfl) ?_ | refine WL.gyes rfl rfl rfl rfl (Yld.max2 rfl rfl) ?_ | refine WL.gyes rfl rfl rfl rfl (Yld.min2 rfl rfl) ?_ | refine WL.gyes rfl rfl rfl rfl (Yld.pickV rfl rfl rfl) ?_)
        refine WL.lit (us := [vp f.id]) tab_ok rfl rfl rfl (all1c rfl all1n) rfl (by omega) (fun g7 w7 hB7 hg7 hl7 => ?_)
        have hO7 : Own vv w7 w.heap.size 36 (some ⟨g7, 0, none⟩) 1 ([f].map (hdS F_s)) := Own.ofBl hB7 (Nat.le_trans gr6.size hl7) (by simp [maxLen]) rfl
        have gr7 := gr_trans gr6 hg7
        have hO7' := hO6.grown hg7
        have hM7 := hM6.g0 hg7
        refine WL.append tab_ok rfl rfl One.vv hO7' rfl (by simp) hO7.rd rfl (by simp) (by simp only [List.length_map, List.length_cons, List.length_nil]; omega) (by simp only [maxLen, List.length_map, List.length_cons, List.length_nil]; omega) gr7.size (fun A8 c8 w8 hO8 hg8 hk8 => ?_)
        have el : ((l'.map (hdS F_s)) ++ [f].map (hdS F_s)).length = (l' ++ [f]).length := by simp
        rw [el]
        have em : l'.map (hdS F_s) ++ [f].map (hdS F_s) = (l' ++ [f]).map (hdS F_s) := by simp
        rw [em] at hO8
        have gr8 : w.grownBy w8 none := gr_mod gr7 hg8 hO7'.ge'
        have hd7 : Dj (some gm) (blk A') := I'.dj
        have hM8 : MapB vp (okR s) vB w8 gm ((l' ++ [f]).map fun x => (x.id, true)) := by
          have h1 := hM7.go hg8 hd7
          have h2 : mput (l'.map fun x => (x.id, true)) f.id true = (l' ++ [f]).map fun x => (x.id, true) := by
            rw [mput_new, List.map_append]
            · rfl
            · rw [mget_none]
              intro p hp e
              obtain ⟨y, hy, rfl⟩ := List.mem_map.1 hp
              exact hnot (List.mem_map.2 ⟨y, hy, e⟩)
          rw [h2] at h1
          exact h1
        have hdj8 : Dj (some gm) (blk A8) := (Dj.app hd7.symm hM7.lt' hk8).symm
        repeat (first | refine WC.seq ?_ | refine WC.block ?_ | refine WC.region ?_ | refine WL.nil ?_ | refine WX.then_normal ?_ | refine WC.skip ?_ | refine WC.exit ?_ | refine WC.ret ?_ | refine WX.then_exit ?_ | refine WX.then_ret ?_ | refine WX.block_normal ?_ | refine WX.block_ret ?_ | refine WX.block_same ?_ | refine WX.block_other rfl ?_ | refine WC.label ?_ | refine WC.scope ?_ | refine WX.scope_normal ?_ | refine WX.scope_ret ?_ | refine WX.scope_exit ?_ | refine WL.y rfl (Yld.add rfl rfl (by simp only [In]; omega)) ?_ | refine WL.y rfl (Yld.sub rfl rfl (by simp only [In]; omega)) ?_ | refine WL.y rfl (Yld.mul rfl rfl (by simp only [In]; omega)) ?_ | refine WL.y rfl (Yld.convB tab_ok rfl rfl rfl rfl) ?_ | refine WL.y rfl (Yld.conv tab_ok rfl rfl rfl (by simp only [In]; omega)) ?_ | refine WL.y rfl (Yld.quo rfl rfl (by omega) (by omega) (by simp only [In]; omega)) ?_ | refine WL.y rfl (Yld.rem rfl rfl (by omega) (by omega)) ?_ | refine WL.y rfl (Yld.shl rfl rfl (by omega)) ?_ | refine WL.y rfl (Yld.shr rfl rfl (by omega)) ?_ | refine WL.y rfl (Yld.pure tab_ok rfl) ?_ | refine WL.y rfl (Yld.fld flds_ok rfl rfl rfl) ?_ | refine WL.y rfl (Yld.max2 rfl rfl) ?_ | refine WL.y rfl (Yld.min2 rfl rfl) ?_ | refine WL.y rfl (Yld.pickV rfl rfl rfl) ?_ | refine WL.gno rfl rfl rfl rfl ?_ | refine WL.gyes rfl rfl rfl rfl (Yld.add rfl rfl (by simp only [In]; omega)) ?_ | refine WL.gyes rfl rfl rfl rfl (Yld.sub rfl rfl (by simp only [In]; omega)) ?_ | refine WL.gyes rfl rfl rfl rfl (Yld.mul rfl rfl (by simp only [In]; omega)) ?_ | refine WL.gyes rfl rfl rfl rfl (Yld.convB tab_ok rfl rfl rfl rfl) ?_ | refine WL.gyes rfl rfl rfl rfl (Yld.conv tab_ok rfl rfl rfl (by simp only [In]; omega)) ?_ | refine WL.gyes rfl rfl rfl rfl (Yld.quo rfl rfl (by omega) (by omega) (by simp only [In]; omega)) ?_ | refine WL.gyes rfl rfl rfl rfl (Yld.rem rfl rfl (by omega) (by omega)) ?_ | refine WL.gyes rfl rfl rfl rfl (Yld.shl rfl rfl (by omega)) ?_ | refine WL.gyes rfl rfl rfl rfl (Yld.shr rfl rfl (by omega)) ?_ | refine WL.gyes rfl rfl rfl rfl (Yld.pure tab_ok rfl) ?_ | refine WL.gyes rfl rfl rfl rfl (Yld.fld flds_ok rfl rfl rfl) ?_ | refine WL.gyes rfl rfl rfl rfl (Yld.max2 rfl rfl) ?_ | refine WL.gyes rfl rfl rfl rfl (Yld.min2 rfl rfl) ?_ | refine WL.gyes rfl rfl rfl rfl (Yld.pickV rfl rfl rfl) ?_)
        refine WX.roundF _ ⟨j + 1, l' ++ [f], A8, c8, rfl, rfl, ⟨hso, fun y hy => ?_, List.mem_append_left _ I'.top, gr8, hO8, hM8, hdj8, I'.ge⟩, by omega, ⟨t ++ [f], by rw [ht, List.append_assoc]⟩, fun y hy => ?_⟩ (by repeat (first | exact Sub.nil | refine Sub.cons rfl ?_)) (by omega)
        · rcases List.mem_append.1 hy with hy | hy
          · exact I'.nn y hy
          · simp at hy; subst hy; exact hfn
        · rw [List.take_add_one, hfj] at hy
          rcases List.mem_append.1 hy with hy | hy
          · obtain ⟨z, hz, e⟩ := hcl' y hy
            exact ⟨z, List.mem_append_left _ hz, e⟩
          · simp at hy; subst hy; exact ⟨y, by simp, rfl⟩
      · have hin : f.id ∈ l'.map PS.id := by simpa using b3
        repeat (first | refine WC.seq ?_ | refine WC.block ?_ | refine WC.region ?_ | refine WL.nil ?_ | refine WX.then_normal ?_ | refine WC.skip ?_ | refine WC.exit ?_ | refine WC.ret ?_ | refine WX.then_exit ?_ | refine WX.then_ret ?_ | refine WX.block_normal ?_ | refine WX.block_ret ?_ | refine WX.block_same ?_ | refine WX.block_other rfl ?_ | refine WC.label ?_ | refine WC.scope ?_ | refine WX.scope_normal ?_ | refine WX.scope_ret ?_ | refine WX.scope_exit ?_ | refine WL.y rfl (Yld.add rfl rfl (by simp only [In]; omega)) ?_ | refine WL.y rfl (Yld.sub rfl rfl (by simp only [In]; omega)) ?_ | refine WL.y rfl (Yld.mul rfl rfl (by simp only [In]; omega)) ?_ | refine WL.y rfl (Yld.convB tab_ok rfl rfl rfl rfl) ?_ | refine WL.y rfl (Yld.conv tab_ok rfl rfl rfl (by simp only [In]; omega)) ?_ | refine WL.y rfl (Yld.quo rfl rfl (by omega) (by omega) (by simp only [In]; omega)) ?_ | refine WL.y rfl (Yld.rem rfl rfl (by omega) (by omega)) ?_ | refine WL.y rfl (Yld.shl rfl rfl (by omega)) ?_ | refine WL.y rfl (Yld.shr rfl rfl (by omega)) ?_ | refine WL.y rfl (Yld.pure tab_ok rfl) ?_ | refine WL.y rfl (Yld.fld flds_ok rfl rfl rfl) ?_ | refine WL.y rfl (Yld.max2 rfl rfl) ?_ | refine WL.y rfl (Yld.min2 rfl rfl) ?_ | refine WL.y rfl (Yld.pickV rfl rfl rfl) ?_ | refine WL.gno rfl rfl rfl rfl ?_ | refine WL.gyes rfl rfl rfl rfl (Yld.add rfl rfl (by simp only [In]; omega)) ?_ | refine WL.gyes rfl rfl rfl rfl (Yld.sub rfl rfl (by simp only [In]; omega)) ?_ | refine WL.gyes rfl rfl rfl rfl (Yld.mul rfl rfl (by simp only [In]; omega)) ?_ | refine WL.gyes rfl rfl rfl rfl (Yld.convB tab_ok rfl rfl rfl rfl) ?_ | refine WL.gyes rfl rfl rfl rfl (Yld.conv tab_ok rfl rfl rfl (by simp only [In]; omega)) ?_ | refine WL.gyes rfl rfl rfl rfl (Yld.quo rfl rfl (by omega) (by omega) (by simp only [In]; omega)) ?_ | refine WL.gyes rfl rfl rfl rfl (Yld.rem rfl rfl (by omega) (by omega)) ?_ | refine WL.gyes rfl rfl rfl rfl (Yld.shl rfl rfl (by omega)) ?_ | refine WL.gyes rfl rfl rfl rfl (Yld.shr rfl rfl (by omega)) ?_ | refine WL.gyes rfl rfl rfl rfl (Yld.pure tab_ok rfl) ?_ | refine WL.gyes rfl rfl rfl rfl (Yld.fld flds_ok rfl rfl rfl) ?_ | refine WL.gyes rfl rfl rfl rfl (Yld.max2 rfl rfl) ?_ | refine WL.gyes rfl rfl rfl rfl (Yld.min2 rfl rfl) ?_ | refine WL.gyes rfl rfl rfl rfl (Yld.pickV rfl rfl rfl) ?_)
        refine WX.roundF _ ⟨j + 1, l', A', c', rfl, rfl, I', by omega, ⟨t, ht⟩, fun y hy => ?_⟩ (by repeat (first | exact Sub.nil | refine Sub.cons rfl ?_)) (by omega)
        rw [List.take_add_one, hfj] at hy
        rcases List.mem_append.1 hy with hy | hy
        · exact hcl' y hy
        · simp at hy; subst hy
          obtain ⟨z, hz, e⟩ := List.mem_map.1 hin
          exact ⟨z, hz, e⟩
    · have b2 := of_decide_eq_false b2
      obtain rfl : j = x.fr.length := by omega
      rw [List.take_length] at hcl'
      have hlb := hB1 _ I'.so
      have hsub : ∀ y ∈ l, y ∈ l' := fun y hy => by rw [ht]; exact List.mem_append_left _ hy
      repeat (first | refine WC.seq ?_ | refine WC.block ?_ | refine WC.region ?_ | refine WL.nil ?_ | refine WX.then_normal ?_ | refine WC.skip ?_ | refine WC.exit ?_ | refine WC.ret ?_ | refine WX.then_exit ?_ | refine WX.then_ret ?_ | refine WX.block_normal ?_ | refine WX.block_ret ?_ | refine WX.block_same ?_ | refine WX.block_other rfl ?_ | refine WC.label ?_ | refine WC.scope ?_ | refine WX.scope_normal ?_ | refine WX.scope_ret ?_ | refine WX.scope_exit ?_ | refine WL.y rfl (Yld.add rfl rfl (by simp only [In]; omega)) ?_ | refine WL.y rfl (Yld.sub rfl rfl (by simp only [In]; omega)) ?_ | refine WL.y rfl (Yld.mul rfl rfl (by simp only [In]; omega)) ?_ | refine WL.y rfl (Yld.convB tab_ok rfl rfl rfl rfl) ?_ | refine WL.y rfl (Yld.conv tab_ok rfl rfl rfl (by simp only [In]; omega)) ?_ | refine WL.y rfl (Yld.quo rfl rfl (by omega) (by omega) (by simp only [In]; omega)) ?_ | refine WL.y rfl (Yld.rem rfl rfl (by omega) (by omega)) ?_ | refine WL.y rfl (Yld.shl rfl rfl (by omega)) ?_ | refine WL.y rfl (Yld.shr rfl rfl (by omega)) ?_ | refine WL.y rfl (Yld.pure tab_ok rfl) ?_ | refine WL.y rfl (Yld.fld flds_ok rfl rfl rfl) ?_ | refine WL.y rfl (Yld.max2 rfl rfl) ?_ | refine WL.y rfl (Yld.min2 rfl rfl) ?_ | refine WL.y rfl (Yld.pickV rfl rfl rfl) ?_ | refine WL.gno rfl rfl rfl rfl ?_ | refine WL.gyes rfl rfl rfl rfl (Yld.add rfl rfl (by simp only [In]; omega)) ?_ | refine WL.gyes rfl rfl rfl rfl (Yld.sub rfl rfl (by simp only [In]; omega)) ?_ | refine WL.gyes rfl rfl rfl rfl (Yld.mul rfl rfl (by simp only [In]; omega)) ?_ | refine WL.gyes rfl rfl rfl rfl (Yld.convB tab_ok rfl rfl rfl rfl) ?_ | refine WL.gyes rfl rfl rfl rfl (Yld.conv tab_ok rfl rfl rfl (by simp only [In]; omega)) ?_ | refine WL.gyes rfl rfl rfl rfl (Yld.quo rfl rfl (by omega) (by omega) (by simp only [In]; omega)) ?_ | refine WL.gyes rfl rfl rfl rfl (Yld.rem rfl rfl (by omega) (by omega)) ?_ | refine WL.gyes rfl rfl rfl rfl (Yld.shl rfl rfl (by omega)) ?_ | refine WL.gyes rfl rfl rfl rfl (Yld.shr rfl rfl (by omega)) ?_ | refine WL.gyes rfl rfl rfl rfl (Yld.pure tab_ok rfl) ?_ | refine WL.gyes rfl rfl rfl rfl (Yld.fld flds_ok rfl rfl rfl) ?_ | refine WL.gyes rfl rfl rfl rfl (Yld.max2 rfl rfl) ?_ | refine WL.gyes rfl rfl rfl rfl (Yld.min2 rfl rfl) ?_ | refine WL.gyes rfl rfl rfl rfl (Yld.pickV rfl rfl rfl) ?_)
      refine WX.roundF _ ⟨i + 1, l', A', c', rfl, rfl, I', by have := congrArg List.length ht; rw [List.length_append] at this; omega, fun y hy f hf => ?_⟩ (by repeat (first | exact Sub.nil | refine Sub.cons rfl ?_)) (by have := hB1 _ I.so; omega)
      rw [ht, List.take_append_of_le_length (by omega), List.take_add_one, hx] at hy
      rcases List.mem_append.1 hy with hy | hy
      · obtain ⟨z, hz, e⟩ := hcl y hy f hf
        exact ⟨z, hsub z hz, e⟩
      · simp at hy; subst hy
        exact hcl' f hf
  · have b1 := of_decide_eq_false b1
    obtain rfl : i = l.length := by omega
    rw [List.take_length] at hcl
    have hsets : SetsOf s l := ⟨I.so, I.top, hcl⟩
    subst hgm
    repeat (first | refine WC.seq ?_ | refine WC.block ?_ | refine WC.region ?_ | refine WL.nil ?_ | refine WX.then_normal ?_ | refine WC.skip ?_ | refine WC.exit ?_ | refine WC.ret ?_ | refine WX.then_exit ?_ | refine WX.then_ret ?_ | refine WX.block_normal ?_ | refine WX.block_ret ?_ | refine WX.block_same ?_ | refine WX.block_other rfl ?_ | refine WC.label ?_ | refine WC.scope ?_ | refine WX.scope_normal ?_ | refine WX.scope_ret ?_ | refine WX.scope_exit ?_ | refine WL.y rfl (Yld.add rfl rfl (by simp only [In]; omega)) ?_ | refine WL.y rfl (Yld.sub rfl rfl (by simp only [In]; omega)) ?_ | refine WL.y rfl (Yld.mul rfl rfl (by simp only [In]; omega)) ?_ | refine WL.y rfl (Yld.convB tab_ok rfl rfl rfl rfl) ?_ | refine WL.y rfl (Yld.conv tab_ok rfl rfl rfl (by simp only [In]; omega)) ?_ | refine WL.y rfl (Yld.quo rfl rfl (by omega) (by omega) (by simp only [In]; omega)) ?_ | refine WL.y rfl (Yld.rem rfl rfl (by omega) (by omega)) ?_ | refine WL.y rfl (Yld.shl rfl rfl (by omega)) ?_ | refine WL.y rfl (Yld.shr rfl rfl (by omega)) ?_ | refine WL.y rfl (Yld.pure tab_ok rfl) ?_ | refine WL.y rfl (Yld.fld flds_ok rfl rfl rfl) ?_ | refine WL.y rfl (Yld.max2 rfl rfl) ?_ | refine WL.y rfl (Yld.min2 rfl rfl) ?_ | refine WL.y rfl (Yld.pickV rfl rfl rfl) ?_ | refine WL.gno rfl rfl rfl rfl ?_ | refine WL.gyes rfl rfl rfl rfl (Yld.add rfl rfl (by simp only [In]; omega)) ?_ | refine WL.gyes rfl rfl rfl rfl (Yld.sub rfl rfl (by simp only [In]; omega)) ?_ | refine WL.gyes rfl rfl rfl rfl (Yld.mul rfl rfl (by simp only [In]; omega)) ?_ | refine WL.gyes rfl rfl rfl rfl (Yld.convB tab_ok rfl rfl rfl rfl) ?_ | refine WL.gyes rfl rfl rfl rfl (Yld.conv tab_ok rfl rfl rfl (by simp only [In]; omega)) ?_ | refine WL.gyes rfl rfl rfl rfl (Yld.quo rfl rfl (by omega) (by omega) (by simp only [In]; omega)) ?_ | refine WL.gyes rfl rfl rfl rfl (Yld.rem rfl rfl (by omega) (by omega)) ?_ | refine WL.gyes rfl rfl rfl rfl (Yld.shl rfl rfl (by omega)) ?_ | refine WL.gyes rfl rfl rfl rfl (Yld.shr rfl rfl (by omega)) ?_ | refine WL.gyes rfl rfl rfl rfl (Yld.pure tab_ok rfl) ?_ | refine WL.gyes rfl rfl rfl rfl (Yld.fld flds_ok rfl rfl rfl) ?_ | refine WL.gyes rfl rfl rfl rfl (Yld.max2 rfl rfl) ?_ | refine WL.gyes rfl rfl rfl rfl (Yld.min2 rfl rfl) ?_ | refine WL.gyes rfl rfl rfl rfl (Yld.pickV rfl rfl rfl) ?_)
    refine WX.ret1 rfl rfl ⟨I.gr, l, A, c, l.map (hdS F_s), rfl, I.own, ⟨by simp, fun i h x hh hx => ?_⟩, fun p hp hd i h x hh hx => ?_, fun i h x hh hx => ?_, hK l hsets⟩
    · rw [List.getElem?_map, hx] at hh
      simp only [Option.map_some, Option.some.injEq] at hh
      subst hh
      have hm := List.mem_of_getElem? hx
      exact ((relS hs (I.so.re x hm) (I.nn x hm)).grown I.gr).one
    · rw [List.getElem?_map, hx] at hh
      simp only [Option.map_some, Option.some.injEq] at hh
      subst hh
      exact hd.one
    · rw [List.getElem?_map, hx] at hh
      simp only [Option.map_some, Option.some.injEq] at hh
      subst hh
      intro q hq hFq
      have := hF q hFq
      have := I.own.ge' q hq
      omega
end Go.Proofs.YtofenpiiihhigaaDoor


 namespace Go.Proofs.YtofenpiiihhigaaDoor
open Go Go.RowKit
attribute [local irreducible] WL WC WX WQ WK WJ Yld Eff Ef0 Fn
theorem getD_set_eqV (l : List VH) (j : Nat) (d : VH) (h : j < l.length) : (l.set j d).getD j vh0 = d := by simp [List.getD, h]
theorem getD_set_neV (l : List VH) (j i : Nat) (d : VH) (h : j ≠ i) : (l.set j d).getD i vh0 = l.getD i vh0 := by simp [List.getD, List.getElem?_set_ne h]
theorem rev_endV (xs ys : List VH) (i : Nat) (hl : ys.length = xs.length) (hi : xs.length ≤ 2 * i + 1) (h : ∀ t, t < xs.length → ys.getD t vh0 = if t < i ∨ xs.length - i ≤ t then xs.getD (xs.length - 1 - t) vh0 else xs.getD t vh0) : ys = xs.reverse := by
  apply List.ext_getElem
  · simp [hl]
  · intro t h1 h2
    have h3 : t < xs.length := by omega
    have e := h t h3
    rw [List.getElem_reverse]
    have e1 : ys.getD t vh0 = ys[t] := by simp [List.getD, h1]
    have e2 : xs.getD (xs.length - 1 - t) vh0 = xs[xs.length - 1 - t] := by simp [List.getD, (by omega : xs.length - 1 - t < xs.length)]
    rw [← e1, ← e2, e]
    split
    · rfl
    · congr 1; omega
set_option maxHeartbeats 1000000 in
theorem reverse_fnV (A : Option Addr) (c B : Nat) (xs : List VH) (w : World) (hO : Own vv w B 41 A c xs) : Fn Tryd.prog 35 ⟨[.slice A xs.length c]⟩ w fun v w' => v = .tuple #[] ∧ Own vv w' B 41 A c xs.reverse ∧ w.grownBy w' (blk A) := by
  have hlen := hO.len
  simp only [maxLen] at hlen
  refine Fn.enter (by kernel_rfl) Tryd.func35 rfl Tryd.ntmps35 rfl ?_
  repeat (first | refine WC.seq ?_ | refine WC.block ?_ | refine WC.region ?_ | refine WL.nil ?_ | refine WX.then_normal ?_ | refine WC.skip ?_ | refine WC.exit ?_ | refine WC.ret ?_ | refine WX.then_exit ?_ | refine WX.then_ret ?_ | refine WX.block_normal ?_ | refine WX.block_ret ?_ | refine WX.block_same ?_ | refine WX.block_other rfl ?_ | refine WC.label ?_ | refine WC.scope ?_ | refine WX.scope_normal ?_ | refine WX.scope_ret ?_ | refine WX.scope_exit ?_ | refine WL.y rfl (Yld.add rfl rfl (by simp only [In]; omega)) ?_ | refine WL.y rfl (Yld.sub rfl rfl (by simp only [In]; omega)) ?_ | refine WL.y rfl (Yld.mul rfl rfl (by simp only [In]; omega)) ?_ | refine WL.y rfl (Yld.convB tab_ok rfl rfl rfl rfl) ?_ | refine WL.y rfl (Yld.conv tab_ok rfl rfl rfl (by simp only [In]; omega)) ?_ | refine WL.y rfl (Yld.quo rfl rfl (by omega) (by omega) (by simp only [In]; omega)) ?_ | refine WL.y rfl (Yld.rem rfl rfl (by omega) (by omega)) ?_ | refine WL.y rfl (Yld.shl rfl rfl (by omega)) ?_ | refine WL.y rfl (Yld.shr rfl rfl (by omega)) ?_ | refine WL.y rfl (Yld.pure tab_ok rfl) ?_ | refine WL.y rfl (Yld.fld flds_ok rfl rfl rfl) ?_ | refine WL.y rfl (Yld.max2 rfl rfl) ?_ | refine WL.y rfl (Yld.min2 rfl rfl) ?_ | refine WL.y rfl (Yld.pickV rfl rfl rfl) ?_ | refine WL.gno rfl rfl rfl rfl ?_ | refine WL.gyes rfl rfl rfl rfl (Yld.add rfl rfl (by simp only [In]; omega)) ?_ | refine WL.gyes rfl rfl rfl rfl (Yld.sub rfl rfl (by simp only [In]; omega)) ?_ | refine WL.gyes rfl rfl rfl rfl (Yld.mul rfl rfl (by simp only [In]; omega)) ?_ | refine WL.gyes rfl rfl rfl rfl (Yld.convB tab_ok rfl rfl rfl rfl) ?_ | refine WL.gyes rfl rfl rfl rfl (Yld.conv tab_ok rfl rfl rfl (by simp only [In]; omega)) ?_ | refine WL.gyes rfl rfl rfl rfl (Yld.quo rfl rfl (by omega) (by omega) (by simp only [In]; omega)) ?_ | refine WL.gyes rfl rfl rfl rfl (Yld.rem rfl rfl (by omega) (by omega)) ?_ | refine WL.gyes rfl rfl rfl rfl (Yld.shl rfl rfl (by omega)) ?_ | refine WL.gyes rfl rfl rfl rfl (Yld.shr rfl rfl (by omega)) ?_ | refine WL.gyes rfl rfl rfl rfl (Yld.pure tab_ok rfl) ?_ | refine WL.gyes rfl rfl rfl rfl (Yld.fld flds_ok rfl rfl rfl) ?_ | refine WL.gyes rfl rfl rfl rfl (Yld.max2 rfl rfl) ?_ | refine WL.gyes rfl rfl rfl rfl (Yld.min2 rfl rfl) ?_ | refine WL.gyes rfl rfl rfl rfl (Yld.pickV rfl rfl rfl) ?_)
  refine WC.loop2 (S1 := Nat) (S2 := List VH) (fun i _ => xs.length - i) (fun i _ => [(2, vi i), (3, .int .i64 ((xs.length : Int) - 1 - (i : Int))), (0, .slice A xs.length c)])
    (fun i ys w2 => ys.length = xs.length ∧ 2 * i ≤ xs.length + 1 ∧ (∀ t, t < xs.length → ys.getD t vh0 = if t < i ∨ xs.length - i ≤ t then xs.getD (xs.length - 1 - t) vh0 else xs.getD t vh0) ∧ Own vv w2 B 41 A c ys ∧ w.grownBy w2 (blk A))
    0 xs ⟨rfl, by omega, fun t ht => by rw [if_neg (by omega)], hO, gr_refl _ _⟩ (by rw [show (xs.length : Int) - 1 - ((0 : Nat) : Int) = (xs.length : Int) - 1 by omega]; repeat (first | exact Sub.nil | refine Sub.cons rfl ?_)) (fun i ys w2 ⟨hyl, hi, hy, hO2, hg2⟩ => ?_)
  repeat (first | refine WC.seq ?_ | refine WC.block ?_ | refine WC.region ?_ | refine WL.nil ?_ | refine WX.then_normal ?_ | refine WC.skip ?_ | refine WC.exit ?_ | refine WC.ret ?_ | refine WX.then_exit ?_ | refine WX.then_ret ?_ | refine WX.block_normal ?_ | refine WX.block_ret ?_ | refine WX.block_same ?_ | refine WX.block_other rfl ?_ | refine WC.label ?_ | refine WC.scope ?_ | refine WX.scope_normal ?_ | refine WX.scope_ret ?_ | refine WX.scope_exit ?_ | refine WL.y rfl (Yld.add rfl rfl (by simp only [In]; omega)) ?_ | refine WL.y rfl (Yld.sub rfl rfl (by simp only [In]; omega)) ?_ | refine WL.y rfl (Yld.mul rfl rfl (by simp only [In]; omega)) ?_ | refine WL.y rfl (Yld.convB tab_ok rfl rfl rfl rfl) ?_ | refine WL.y rfl (Yld.conv tab_ok rfl rfl rfl (by simp only [In]; omega)) ?_ | refine WL.y rfl (Yld.quo rfl rfl (by omega) (by omega) (by simp only [In]; omega)) ?_ | refine WL.y rfl (Yld.rem rfl rfl (by omega) (by omega)) ?_ | refine WL.y rfl (Yld.shl rfl rfl (by omega)) ?_ | refine WL.y rfl (Yld.shr rfl rfl (by omega)) ?_ | refine WL.y rfl (Yld.pure tab_ok rfl) ?_ | refine WL.y rfl (Yld.fld flds_ok rfl rfl rfl) ?_ | refine WL.y rfl (Yld.max2 rfl rfl) ?_ | refine WL.y rfl (Yld.min2 rfl rfl) ?_ | refine WL.y rfl (Yld.pickV rfl rfl rfl) ?_ | refine WL.gno rfl rfl rfl rfl ?_ | refine WL.gyes rfl rfl rfl rfl (Yld.add rfl rfl (by simp only [In]; omega)) ?_ | refine WL.gyes rfl rfl rfl rfl (Yld.sub rfl rfl (by simp only [In]; omega)) ?_ | refine WL.gyes rfl rfl rfl rfl (Yld.mul rfl rfl (by simp only [In]; omega)) ?_ | refine WL.gyes rfl rfl rfl rfl (Yld.convB tab_ok rfl rfl rfl rfl) ?_ | refine WL.gyes rfl rfl rfl rfl (Yld.conv tab_ok rfl rfl rfl (by simp only [In]; omega)) ?_ | refine WL.gyes rfl rfl rfl rfl (Yld.quo rfl rfl (by omega) (by omega) (by simp only [In]; omega)) ?_ | refine WL.gyes rfl rfl rfl rfl (Yld.rem rfl rfl (by omega) (by omega)) ?_ | refine WL.gyes rfl rfl rfl rfl (Yld.shl rfl rfl (by omega)) ?_ | refine WL.gyes rfl rfl rfl rfl (Yld.shr rfl rfl (by omega)) ?_ | refine WL.gyes rfl rfl rfl rfl (Yld.pure tab_ok rfl) ?_ | refine WL.gyes rfl rfl rfl rfl (Yld.fld flds_ok rfl rfl rfl) ?_ | refine WL.gyes rfl rfl rfl rfl (Yld.max2 rfl rfl) ?_ | refine WL.gyes rfl rfl rfl rfl (Yld.min2 rfl rfl) ?_ | refine WL.gyes rfl rfl rfl rfl (Yld.pickV rfl rfl rfl) ?_)
  refine WC.cond rfl (fun h => ?_) (fun h => ?_)
  · simp only [decide_eq_true_eq] at h
    have hR2 := hO2.rd
    have hjt : ((xs.length : Int) - 1 - (i : Int)).toNat = xs.length - 1 - i := by omega
    repeat (first | refine WC.seq ?_ | refine WC.block ?_ | refine WC.region ?_ | refine WL.nil ?_ | refine WX.then_normal ?_ | refine WC.skip ?_ | refine WC.exit ?_ | refine WC.ret ?_ | refine WX.then_exit ?_ | refine WX.then_ret ?_ | refine WX.block_normal ?_ | refine WX.block_ret ?_ | refine WX.block_same ?_ | refine WX.block_other rfl ?_ | refine WC.label ?_ | refine WC.scope ?_ | refine WX.scope_normal ?_ | refine WX.scope_ret ?_ | refine WX.scope_exit ?_ | refine WL.y rfl (Yld.add rfl rfl (by simp only [In]; omega)) ?_ | refine WL.y rfl (Yld.sub rfl rfl (by simp only [In]; omega)) ?_ | refine WL.y rfl (Yld.mul rfl rfl (by simp only [In]; omega)) ?_ | refine WL.y rfl (Yld.convB tab_ok rfl rfl rfl rfl) ?_ | refine WL.y rfl (Yld.conv tab_ok rfl rfl rfl (by simp only [In]; omega)) ?_ | refine WL.y rfl (Yld.quo rfl rfl (by omega) (by omega) (by simp only [In]; omega)) ?_ | refine WL.y rfl (Yld.rem rfl rfl (by omega) (by omega)) ?_ | refine WL.y rfl (Yld.shl rfl rfl (by omega)) ?_ | refine WL.y rfl (Yld.shr rfl rfl (by omega)) ?_ | refine WL.y rfl (Yld.pure tab_ok rfl) ?_ | refine WL.y rfl (Yld.fld flds_ok rfl rfl rfl) ?_ | refine WL.y rfl (Yld.max2 rfl rfl) ?_ | refine WL.y rfl (Yld.min2 rfl rfl) ?_ | refine WL.y rfl (Yld.pickV rfl rfl rfl) ?_ | refine WL.gno rfl rfl rfl rfl ?_ | refine WL.gyes rfl rfl rfl rfl (Yld.add rfl rfl (by simp only [In]; omega)) ?_ | refine WL.gyes rfl rfl rfl rfl (Yld.sub rfl rfl (by simp only [In]; omega)) ?_ | refine WL.gyes rfl rfl rfl rfl (Yld.mul rfl rfl (by simp only [In]; omega)) ?_ | refine WL.gyes rfl rfl rfl rfl (Yld.convB tab_ok rfl rfl rfl rfl) ?_ | refine WL.gyes rfl rfl rfl rfl (Yld.conv tab_ok rfl rfl rfl (by simp only [In]; omega)) ?_ | refine WL.gyes rfl rfl rfl rfl (Yld.quo rfl rfl (by omega) (by omega) (by simp only [In]; omega)) ?_ | refine WL.gyes rfl rfl rfl rfl (Yld.rem rfl rfl (by omega) (by omega)) ?_ | refine WL.gyes rfl rfl rfl rfl (Yld.shl rfl rfl (by omega)) ?_ | refine WL.gyes rfl rfl rfl rfl (Yld.shr rfl rfl (by omega)) ?_ | refine WL.gyes rfl rfl rfl rfl (Yld.pure tab_ok rfl) ?_ | refine WL.gyes rfl rfl rfl rfl (Yld.fld flds_ok rfl rfl rfl) ?_ | refine WL.gyes rfl rfl rfl rfl (Yld.max2 rfl rfl) ?_ | refine WL.gyes rfl rfl rfl rfl (Yld.min2 rfl rfl) ?_ | refine WL.gyes rfl rfl rfl rfl (Yld.pickV rfl rfl rfl) ?_)
    refine WC.chainJ (fun k => !(Nat.beq k 13 || Nat.beq k 15)) (LD [7, 11] (fun w' => Rd vv w' A c ys)) mixed (by kernel_rfl) (fun k w' e _ => rd_eqv e hR2) ?_
    have hyl3 : xs.length = (ys.set i (ys.getD (xs.length - 1 - i) vh0)).length := by simp [hyl]
    repeat (first | refine WJ.y rfl rfl (fun _ _ => Yld.iaddrNW tab_ok hR2 rfl rfl hyl.symm rfl (by omega)) ?_ | refine WJ.y rfl rfl (fun _ _ => Yld.iaddrW tab_ok hR2 rfl rfl hyl.symm rfl (by omega) (by omega)) ?_ | refine WJ.y rfl rfl (fun w' h => Yld.iload vh0 tab_ok (h rfl) rfl rfl (by omega)) ?_ | refine WJ.y rfl rfl (fun _ _ => Yld.add rfl rfl (by simp only [In]; omega)) ?_ | refine WJ.y rfl rfl (fun _ _ => Yld.sub rfl rfl (by simp only [In]; omega)) ?_ | refine WJ.y rfl rfl (fun _ _ => Yld.mul rfl rfl (by simp only [In]; omega)) ?_ | refine WJ.y rfl rfl (fun _ _ => Yld.convB tab_ok rfl rfl rfl rfl) ?_ | refine WJ.y rfl rfl (fun _ _ => Yld.conv tab_ok rfl rfl rfl (by simp only [In]; omega)) ?_ | refine WJ.y rfl rfl (fun _ _ => Yld.quo rfl rfl (by omega) (by omega) (by simp only [In]; omega)) ?_ | refine WJ.y rfl rfl (fun _ _ => Yld.rem rfl rfl (by omega) (by omega)) ?_ | refine WJ.y rfl rfl (fun _ _ => Yld.shl rfl rfl (by omega)) ?_ | refine WJ.y rfl rfl (fun _ _ => Yld.shr rfl rfl (by omega)) ?_ | refine WJ.y rfl rfl (fun _ _ => Yld.pure tab_ok rfl) ?_ | refine WJ.y rfl rfl (fun _ _ => Yld.fld flds_ok rfl rfl rfl) ?_ | refine WJ.y rfl rfl (fun _ _ => Yld.max2 rfl rfl) ?_ | refine WJ.y rfl rfl (fun _ _ => Yld.min2 rfl rfl) ?_ | refine WJ.y rfl rfl (fun _ _ => Yld.pickV rfl rfl rfl) ?_ | refine WJ.no rfl rfl rfl rfl ?_ | refine WJ.gun rfl rfl rfl rfl ?_ | refine WJ.yw rfl (wants_some rfl rfl rfl) rfl (fun _ _ => Yld.add rfl rfl (by simp only [In]; omega)) ?_ | refine WJ.yw rfl (wants_some rfl rfl rfl) rfl (fun _ _ => Yld.sub rfl rfl (by simp only [In]; omega)) ?_ | refine WJ.yw rfl (wants_some rfl rfl rfl) rfl (fun _ _ => Yld.mul rfl rfl (by simp only [In]; omega)) ?_ | refine WJ.yw rfl (wants_some rfl rfl rfl) rfl (fun _ _ => Yld.convB tab_ok rfl rfl rfl rfl) ?_ | refine WJ.yw rfl (wants_some rfl rfl rfl) rfl (fun _ _ => Yld.conv tab_ok rfl rfl rfl (by simp only [In]; omega)) ?_ | refine WJ.yw rfl (wants_some rfl rfl rfl) rfl (fun _ _ => Yld.quo rfl rfl (by omega) (by omega) (by simp only [In]; omega)) ?_ | refine WJ.yw rfl (wants_some rfl rfl rfl) rfl (fun _ _ => Yld.rem rfl rfl (by omega) (by omega)) ?_ | refine WJ.yw rfl (wants_some rfl rfl rfl) rfl (fun _ _ => Yld.shl rfl rfl (by omega)) ?_ | refine WJ.yw rfl (wants_some rfl rfl rfl) rfl (fun _ _ => Yld.shr rfl rfl (by omega)) ?_ | refine WJ.yw rfl (wants_some rfl rfl rfl) rfl (fun _ _ => Yld.pure tab_ok rfl) ?_)
    rw [hjt]
    refine WJ.eff rfl (Ef0.ostore (v := ys.getD (xs.length - 1 - i) vh0) one41 One.vv hO2 rfl rfl (by omega)) (fun w' _ => DD.past (by kernel_rfl)) ?_
    rintro w3 ⟨hO3, hg3⟩
    repeat (first | refine WJ.y rfl rfl (fun _ _ => Yld.iaddrNW tab_ok hR2 rfl rfl hyl.symm rfl (by omega)) ?_ | refine WJ.y rfl rfl (fun _ _ => Yld.iaddrW tab_ok hR2 rfl rfl hyl.symm rfl (by omega) (by omega)) ?_ | refine WJ.y rfl rfl (fun _ _ => Yld.add rfl rfl (by simp only [In]; omega)) ?_ | refine WJ.y rfl rfl (fun _ _ => Yld.sub rfl rfl (by simp only [In]; omega)) ?_ | refine WJ.y rfl rfl (fun _ _ => Yld.mul rfl rfl (by simp only [In]; omega)) ?_ | refine WJ.y rfl rfl (fun _ _ => Yld.convB tab_ok rfl rfl rfl rfl) ?_ | refine WJ.y rfl rfl (fun _ _ => Yld.conv tab_ok rfl rfl rfl (by simp only [In]; omega)) ?_ | refine WJ.y rfl rfl (fun _ _ => Yld.quo rfl rfl (by omega) (by omega) (by simp only [In]; omega)) ?_ | refine WJ.y rfl rfl (fun _ _ => Yld.rem rfl rfl (by omega) (by omega)) ?_ | refine WJ.y rfl rfl (fun _ _ => Yld.shl rfl rfl (by omega)) ?_ | refine WJ.y rfl rfl (fun _ _ => Yld.shr rfl rfl (by omega)) ?_ | refine WJ.y rfl rfl (fun _ _ => Yld.pure tab_ok rfl) ?_ | refine WJ.y rfl rfl (fun _ _ => Yld.fld flds_ok rfl rfl rfl) ?_ | refine WJ.y rfl rfl (fun _ _ => Yld.max2 rfl rfl) ?_ | refine WJ.y rfl rfl (fun _ _ => Yld.min2 rfl rfl) ?_ | refine WJ.y rfl rfl (fun _ _ => Yld.pickV rfl rfl rfl) ?_ | refine WJ.no rfl rfl rfl rfl ?_ | refine WJ.gun rfl rfl rfl rfl ?_ | refine WJ.yw rfl (wants_some rfl rfl rfl) rfl (fun _ _ => Yld.add rfl rfl (by simp only [In]; omega)) ?_ | refine WJ.yw rfl (wants_some rfl rfl rfl) rfl (fun _ _ => Yld.sub rfl rfl (by simp only [In]; omega)) ?_ | refine WJ.yw rfl (wants_some rfl rfl rfl) rfl (fun _ _ => Yld.mul rfl rfl (by simp only [In]; omega)) ?_ | refine WJ.yw rfl (wants_some rfl rfl rfl) rfl (fun _ _ => Yld.convB tab_ok rfl rfl rfl rfl) ?_ | refine WJ.yw rfl (wants_some rfl rfl rfl) rfl (fun _ _ => Yld.conv tab_ok rfl rfl rfl (by simp only [In]; omega)) ?_ | refine WJ.yw rfl (wants_some rfl rfl rfl) rfl (fun _ _ => Yld.quo rfl rfl (by omega) (by omega) (by simp only [In]; omega)) ?_ | refine WJ.yw rfl (wants_some rfl rfl rfl) rfl (fun _ _ => Yld.rem rfl rfl (by omega) (by omega)) ?_ | refine WJ.yw rfl (wants_some rfl rfl rfl) rfl (fun _ _ => Yld.shl rfl rfl (by omega)) ?_ | refine WJ.yw rfl (wants_some rfl rfl rfl) rfl (fun _ _ => Yld.shr rfl rfl (by omega)) ?_ | refine WJ.yw rfl (wants_some rfl rfl rfl) rfl (fun _ _ => Yld.pure tab_ok rfl) ?_)
    rw [hjt]
    refine WJ.eff rfl (Ef0.ostore (v := ys.getD i vh0) one41 One.vv hO3 rfl rfl (by simp; omega)) (fun w' _ => DD.past (by kernel_rfl)) ?_
    rintro w4 ⟨hO4, hg4⟩
    refine WJ.nil ?_
    repeat (first | refine WC.seq ?_ | refine WC.block ?_ | refine WC.region ?_ | refine WL.nil ?_ | refine WX.then_normal ?_ | refine WC.skip ?_ | refine WC.exit ?_ | refine WC.ret ?_ | refine WX.then_exit ?_ | refine WX.then_ret ?_ | refine WX.block_normal ?_ | refine WX.block_ret ?_ | refine WX.block_same ?_ | refine WX.block_other rfl ?_ | refine WC.label ?_ | refine WC.scope ?_ | refine WX.scope_normal ?_ | refine WX.scope_ret ?_ | refine WX.scope_exit ?_ | refine WL.y rfl (Yld.add rfl rfl (by simp only [In]; omega)) ?_ | refine WL.y rfl (Yld.sub rfl rfl (by simp only [In]; omega)) ?_ | refine WL.y rfl (Yld.mul rfl rfl (by simp only [In]; omega)) ?_ | refine WL.y rfl (Yld.convB tab_ok rfl rfl rfl rfl) ?_ | refine WL.y rfl (Yld.conv tab_ok rfl rfl rfl (by simp only [In]; omega)) ?_ | refine WL.y rfl (Yld.quo rfl rfl (by omega) (by omega) (by simp only [In]; omega)) ?_ | refine WL.y rfl (Yld.rem rfl rfl (by omega) (by omega)) ?_ | refine WL.y rfl (Yld.shl rfl rfl (by omega)) ?_ | refine WL.y rfl (Yld.shr rfl rfl (by omega)) ?_ | refine WL.y rfl (Yld.pure tab_ok rfl) ?_ | refine WL.y rfl (Yld.fld flds_ok rfl rfl rfl) ?_ | refine WL.y rfl (Yld.max2 rfl rfl) ?_ | refine WL.y rfl (Yld.min2 rfl rfl) ?_ | refine WL.y rfl (Yld.pickV rfl rfl rfl) ?_ | refine WL.gno rfl rfl rfl rfl ?_ | refine WL.gyes rfl rfl rfl rfl (Yld.add rfl rfl (by simp only [In]; omega)) ?_ | refine WL.gyes rfl rfl rfl rfl (Yld.sub rfl rfl (by simp only [In]; omega)) ?_ | refine WL.gyes rfl rfl rfl rfl (Yld.mul rfl rfl (by simp only [In]; omega)) ?_ | refine WL.gyes rfl rfl rfl rfl (Yld.convB tab_ok rfl rfl rfl rfl) ?_ | refine WL.gyes rfl rfl rfl rfl (Yld.conv tab_ok rfl rfl rfl (by simp only [In]; omega)) ?_ | refine WL.gyes rfl rfl rfl rfl (Yld.quo rfl rfl (by omega) (by omega) (by simp only [In]; omega)) ?_ | refine WL.gyes rfl rfl rfl rfl (Yld.rem rfl rfl (by omega) (by omega)) ?_ | refine WL.gyes rfl rfl rfl rfl (Yld.shl rfl rfl (by omega)) ?_ | refine WL.gyes rfl rfl rfl rfl (Yld.shr rfl rfl (by omega)) ?_ | refine WL.gyes rfl rfl rfl rfl (Yld.pure tab_ok rfl) ?_ | refine WL.gyes rfl rfl rfl rfl (Yld.fld flds_ok rfl rfl rfl) ?_ | refine WL.gyes rfl rfl rfl rfl (Yld.max2 rfl rfl) ?_ | refine WL.gyes rfl rfl rfl rfl (Yld.min2 rfl rfl) ?_ | refine WL.gyes rfl rfl rfl rfl (Yld.pickV rfl rfl rfl) ?_)
    have e1 : (i : Int) + 1 = ((i + 1 : Nat) : Int) := by omega
    have e2 : (xs.length : Int) - 1 - (i : Int) - 1 = (xs.length : Int) - 1 - ((i + 1 : Nat) : Int) := by omega
    rw [e1, e2]
    refine WX.round2 (i + 1) ((ys.set i (ys.getD (xs.length - 1 - i) vh0)).set (xs.length - 1 - i) (ys.getD i vh0)) ⟨by simp [hyl], by omega, fun t ht => ?_, hO4, gr_trans (gr_trans hg2 hg3) hg4⟩ (by omega) (by repeat (first | exact Sub.nil | refine Sub.cons rfl ?_))
    have hy1 := hy i (by omega)
    have hy2 := hy (xs.length - 1 - i) (by omega)
    rw [if_neg (by omega)] at hy1 hy2
    rcases Classical.em (xs.length - 1 - i = t) with et | et
    · subst et
      rw [getD_set_eqV _ _ _ (by simp; omega), if_pos (by omega), hy1]
      congr 1; omega
    · rw [getD_set_neV _ _ _ _ et]
      rcases Classical.em (i = t) with et2 | et2
      · subst et2
        rw [getD_set_eqV _ _ _ (by omega), if_pos (by omega), hy2]
      · rw [getD_set_neV _ _ _ _ et2, hy t ht]
        by_cases hc : t < i ∨ xs.length - i ≤ t
        · rw [if_pos hc, if_pos (by omega)]
        · rw [if_neg hc, if_neg (by omega)]
  · simp only [decide_eq_false_iff_not] at h
    repeat (first | refine WC.seq ?_ | refine WC.block ?_ | refine WC.region ?_ | refine WL.nil ?_ | refine WX.then_normal ?_ | refine WC.skip ?_ | refine WC.exit ?_ | refine WC.ret ?_ | refine WX.then_exit ?_ | refine WX.then_ret ?_ | refine WX.block_normal ?_ | refine WX.block_ret ?_ | refine WX.block_same ?_ | refine WX.block_other rfl ?_ | refine WC.label ?_ | refine WC.scope ?_ | refine WX.scope_normal ?_ | refine WX.scope_ret ?_ | refine WX.scope_exit ?_ | refine WL.y rfl (Yld.add rfl rfl (by simp only [In]; omega)) ?_ | refine WL.y rfl (Yld.sub rfl rfl (by simp only [In]; omega)) ?_ | refine WL.y rfl (Yld.mul rfl rfl (by simp only [In]; omega)) ?_ | refine WL.y rfl (Yld.convB tab_ok rfl rfl rfl rfl) ?_ | refine WL.y rfl (Yld.conv tab_ok rfl rfl rfl (by simp only [In]; omega)) ?_ | refine WL.y rfl (Yld.quo rfl rfl (by omega) (by omega) (by simp only [In]; omega)) ?_ | refine WL.y rfl (Yld.rem rfl rfl (by omega) (by omega)) ?_ | refine WL.y rfl (Yld.shl rfl rfl (by omega)) ?_ | refine WL.y rfl (Yld.shr rfl rfl (by omega)) ?_ | refine WL.y rfl (Yld.pure tab_ok rfl) ?_ | refine WL.y rfl (Yld.fld flds_ok rfl rfl rfl) ?_ | refine WL.y rfl (Yld.max2 rfl rfl) ?_ | refine WL.y rfl (Yld.min2 rfl rfl) ?_ | refine WL.y rfl (Yld.pickV rfl rfl rfl) ?_ | refine WL.gno rfl rfl rfl rfl ?_ | refine WL.gyes rfl rfl rfl rfl (Yld.add rfl rfl (by simp only [In]; omega)) ?_ | refine WL.gyes rfl rfl rfl rfl (Yld.sub rfl rfl (by simp only [In]; omega)) ?_ | refine WL.gyes rfl rfl rfl rfl (Yld.mul rfl rfl (by simp only [In]; omega)) ?_ | refine WL.gyes rfl rfl rfl rfl (Yld.convB tab_ok rfl rfl rfl rfl) ?_ | refine WL.gyes rfl rfl rfl rfl (Yld.conv tab_ok rfl rfl rfl (by simp only [In]; omega)) ?_ | refine WL.gyes rfl rfl rfl rfl (Yld.quo rfl rfl (by omega) (by omega) (by simp only [In]; omega)) ?_ | refine WL.gyes rfl rfl rfl rfl (Yld.rem rfl rfl (by omega) (by omega)) ?_ | refine WL.gyes rfl rfl rfl rfl (Yld.shl rfl rfl (by omega)) ?_ | refine WL.gyes rfl rfl rfl rfl (Yld.shr rfl rfl (by omega)) ?_ | refine WL.gyes rfl rfl rfl rfl (Yld.pure tab_ok rfl) ?_ | refine WL.gyes rfl rfl rfl rfl (Yld.fld flds_ok rfl rfl rfl) ?_ | refine WL.gyes rfl rfl rfl rfl (Yld.max2 rfl rfl) ?_ | refine WL.gyes rfl rfl rfl rfl (Yld.min2 rfl rfl) ?_ | refine WL.gyes rfl rfl rfl rfl (Yld.pickV rfl rfl rfl) ?_)
    have e := rev_endV xs ys i hyl (by omega) hy
    subst e
    exact WX.end0 rfl ⟨rfl, hO2, hg2⟩
end Go.Proofs.YtofenpiiihhigaaDoor


 /- Values that are made, and what a set tells (by hand). -/
namespace Go.Proofs.YtofenpiiihhigaaDoor
open Go Go.RowKit
attribute [local irreducible] WL WC WX WQ WK WJ Yld Eff Ef0 Fn
theorem clone_MV {l : List PV} {K : List PV → Prop} (hl : l.length ≤ 1000000) (h : K l) : M_slices_Clone_val_Value_val_Value l K := by
  unfold M_slices_Clone_val_Value_val_Value
  intro _
  exact ⟨fun e => e ▸ h, by simp; omega, by simpa using h⟩
theorem clone_MS {l : List PS} {K : List PS → Prop} (hl : l.length ≤ 1000000) (h : K l) : M_slices_Clone_pdeps_Set_pdeps_Set l K := by
  unfold M_slices_Clone_pdeps_Set_pdeps_Set
  intro _
  exact ⟨fun e => e ▸ h, by simp; omega, by simpa using h⟩
theorem W_smithylaw13_small {w : World} {n : Int} {K : PV → Prop} (H : M_smithylaw13_small n K) : Fn Tryd.prog 17 ⟨[.int .i64 n]⟩ w (fun v w' => w.grownBy w' none ∧ ∃ (v_r : OV), ∃ (F_r : Nat → Prop), ∃ (r : PV), v = v_r.1 ∧ RelD deV w' [(v_r, F_r)] [r] ∧ (∀ p : Option Nat, Lt p w.heap.size → DnD deV [(v_r, F_r)] [r] p) ∧ K r) := by
  obtain ⟨⟨h1, h2⟩, hK⟩ := H
  refine Fn.enter (by kernel_rfl) Tryd.func17 rfl Tryd.ntmps17 rfl ?_
  repeat (first | refine WC.seq ?_ | refine WC.block ?_ | refine WC.region ?_ | refine WL.nil ?_ | refine WX.then_normal ?_ | refine WC.skip ?_ | refine WC.exit ?_ | refine WC.ret ?_ | refine WX.then_exit ?_ | refine WX.then_ret ?_ | refine WX.block_normal ?_ | refine WX.block_ret ?_ | refine WX.block_same ?_ | refine WX.block_other rfl ?_ | refine WC.label ?_ | refine WC.scope ?_ | refine WX.scope_normal ?_ | refine WX.scope_ret ?_ | refine WX.scope_exit ?_ | refine WL.y rfl (Yld.add rfl rfl (by simp only [In]; omega)) ?_ | refine WL.y rfl (Yld.sub rfl rfl (by simp only [In]; omega)) ?_ | refine WL.y rfl (Yld.mul rfl rfl (by simp only [In]; omega)) ?_ | refine WL.y rfl (Yld.convB tab_ok rfl rfl rfl rfl) ?_ | refine WL.y rfl (Yld.conv tab_ok rfl rfl rfl (by simp only [In]; omega)) ?_ | refine WL.y rfl (Yld.quo rfl rfl (by omega) (by omega) (by simp only [In]; omega)) ?_ | refine WL.y rfl (Yld.rem rfl rfl (by omega) (by omega)) ?_ | refine WL.y rfl (Yld.shl rfl rfl (by omega)) ?_ | refine WL.y rfl (Yld.shr rfl rfl (by omega)) ?_ | refine WL.y rfl (Yld.pure tab_ok rfl) ?_ | refine WL.y rfl (Yld.fld flds_ok rfl rfl rfl) ?_ | refine WL.y rfl (Yld.max2 rfl rfl) ?_ | refine WL.y rfl (Yld.min2 rfl rfl) ?_ | refine WL.y rfl (Yld.pickV rfl rfl rfl) ?_ | refine WL.gno rfl rfl rfl rfl ?_ | refine WL.gyes rfl rfl rfl rfl (Yld.add rfl rfl (by simp only [In]; omega)) ?_ | refine WL.gyes rfl rfl rfl rfl (Yld.sub rfl rfl (by simp only [In]; omega)) ?_ | refine WL.gyes rfl rfl rfl rfl (Yld.mul rfl rfl (by simp only [In]; omega)) ?_ | refine WL.gyes rfl rfl rfl rfl (Yld.convB tab_ok rfl rfl rfl rfl) ?_ | refine WL.gyes rfl rfl rfl rfl (Yld.conv tab_ok rfl rfl rfl (by simp only [In]; omega)) ?_ | refine WL.gyes rfl rfl rfl rfl (Yld.quo rfl rfl (by omega) (by omega) (by simp only [In]; omega)) ?_ | refine WL.gyes rfl rfl rfl rfl (Yld.rem rfl rfl (by omega) (by omega)) ?_ | refine WL.gyes rfl rfl rfl rfl (Yld.shl rfl rfl (by omega)) ?_ | refine WL.gyes rfl rfl rfl rfl (Yld.shr rfl rfl (by omega)) ?_ | refine WL.gyes rfl rfl rfl rfl (Yld.pure tab_ok rfl) ?_ | refine WL.gyes rfl rfl rfl rfl (Yld.fld flds_ok rfl rfl rfl) ?_ | refine WL.gyes rfl rfl rfl rfl (Yld.max2 rfl rfl) ?_ | refine WL.gyes rfl rfl rfl rfl (Yld.min2 rfl rfl) ?_ | refine WL.gyes rfl rfl rfl rfl (Yld.pickV rfl rfl rfl) ?_)
  refine WL.call rfl rfl (of_fn' n w h1 h2) ?_
  rintro u w1 ⟨hN, hg, hL⟩
  obtain ⟨a, b, rfl, ha, hb⟩ := hN.agg
  have hint : Fn Tryd.prog 43 ⟨[.agg ⟨[a, b]⟩]⟩ w1 fun v w' => v = .iface 128 (.agg ⟨[a, b]⟩) ∧ w1.grownBy w' none := by
    refine Fn.enter (by kernel_rfl) Tryd.func43 rfl Tryd.ntmps43 rfl ?_
    repeat (first | refine WC.seq ?_ | refine WC.block ?_ | refine WC.region ?_ | refine WL.nil ?_ | refine WX.then_normal ?_ | refine WC.skip ?_ | refine WC.exit ?_ | refine WC.ret ?_ | refine WX.then_exit ?_ | refine WX.then_ret ?_ | refine WX.block_normal ?_ | refine WX.block_ret ?_ | refine WX.block_same ?_ | refine WX.block_other rfl ?_ | refine WC.label ?_ | refine WC.scope ?_ | refine WX.scope_normal ?_ | refine WX.scope_ret ?_ | refine WX.scope_exit ?_ | refine WL.y rfl (Yld.add rfl rfl (by simp only [In]; omega)) ?_ | refine WL.y rfl (Yld.sub rfl rfl (by simp only [In]; omega)) ?_ | refine WL.y rfl (Yld.mul rfl rfl (by simp only [In]; omega)) ?_ | refine WL.y rfl (Yld.convB tab_ok rfl rfl rfl rfl) ?_ | refine WL.y rfl (Yld.conv tab_ok rfl rfl rfl (by simp only [In]; omega)) ?_ | refine WL.y rfl (Yld.quo rfl rfl (by omega) (by omega) (by simp only [In]; omega)) ?_ | refine WL.y rfl (Yld.rem rfl rfl (by omega) (by omega)) ?_ | refine WL.y rfl (Yld.shl rfl rfl (by omega)) ?_ | refine WL.y rfl (Yld.shr rfl rfl (by omega)) ?_ | refine WL.y rfl (Yld.pure tab_ok rfl) ?_ | refine WL.y rfl (Yld.fld flds_ok rfl rfl rfl) ?_ | refine WL.y rfl (Yld.max2 rfl rfl) ?_ | refine WL.y rfl (Yld.min2 rfl rfl) ?_ | refine WL.y rfl (Yld.pickV rfl rfl rfl) ?_ | refine WL.gno rfl rfl rfl rfl ?_ | refine WL.gyes rfl rfl rfl rfl (Yld.add rfl rfl (by simp only [In]; omega)) ?_ | refine WL.gyes rfl rfl rfl rfl (Yld.sub rfl rfl (by simp only [In]; omega)) ?_ | refine WL.gyes rfl rfl rfl rfl (Yld.mul rfl rfl (by simp only [In]; omega)) ?_ | refine WL.gyes rfl rfl rfl rfl (Yld.convB tab_ok rfl rfl rfl rfl) ?_ | refine WL.gyes rfl rfl rfl rfl (Yld.conv tab_ok rfl rfl rfl (by simp only [In]; omega)) ?_ | refine WL.gyes rfl rfl rfl rfl (Yld.quo rfl rfl (by omega) (by omega) (by simp only [In]; omega)) ?_ | refine WL.gyes rfl rfl rfl rfl (Yld.rem rfl rfl (by omega) (by omega)) ?_ | refine WL.gyes rfl rfl rfl rfl (Yld.shl rfl rfl (by omega)) ?_ | refine WL.gyes rfl rfl rfl rfl (Yld.shr rfl rfl (by omega)) ?_ | refine WL.gyes rfl rfl rfl rfl (Yld.pure tab_ok rfl) ?_ | refine WL.gyes rfl rfl rfl rfl (Yld.fld flds_ok rfl rfl rfl) ?_ | refine WL.gyes rfl rfl rfl rfl (Yld.max2 rfl rfl) ?_ | refine WL.gyes rfl rfl rfl rfl (Yld.min2 rfl rfl) ?_ | refine WL.gyes rfl rfl rfl rfl (Yld.pickV rfl rfl rfl) ?_)
    refine WL.box (us := [a, b]) rfl rfl rfl (fun g w2 hB hg hl => ?_)
    repeat (first | refine WC.seq ?_ | refine WC.block ?_ | refine WC.region ?_ | refine WL.nil ?_ | refine WX.then_normal ?_ | refine WC.skip ?_ | refine WC.exit ?_ | refine WC.ret ?_ | refine WX.then_exit ?_ | refine WX.then_ret ?_ | refine WX.block_normal ?_ | refine WX.block_ret ?_ | refine WX.block_same ?_ | refine WX.block_other rfl ?_ | refine WC.label ?_ | refine WC.scope ?_ | refine WX.scope_normal ?_ | refine WX.scope_ret ?_ | refine WX.scope_exit ?_ | refine WL.y rfl (Yld.add rfl rfl (by simp only [In]; omega)) ?_ | refine WL.y rfl (Yld.sub rfl rfl (by simp only [In]; omega)) ?_ | refine WL.y rfl (Yld.mul rfl rfl (by simp only [In]; omega)) ?_ | refine WL.y rfl (Yld.convB tab_ok rfl rfl rfl rfl) ?_ | refine WL.y rfl (Yld.conv tab_ok rfl rfl rfl (by simp only [In]; omega)) ?_ | refine WL.y rfl (Yld.quo rfl rfl (by omega) (by omega) (by simp only [In]; omega)) ?_ | refine WL.y rfl (Yld.rem rfl rfl (by omega) (by omega)) ?_ | refine WL.y rfl (Yld.shl rfl rfl (by omega)) ?_ | refine WL.y rfl (Yld.shr rfl rfl (by omega)) ?_ | refine WL.y rfl (Yld.pure tab_ok rfl) ?_ | refine WL.y rfl (Yld.fld flds_ok rfl rfl rfl) ?_ | refine WL.y rfl (Yld.max2 rfl rfl) ?_ | refine WL.y rfl (Yld.min2 rfl rfl) ?_ | refine WL.y rfl (Yld.pickV rfl rfl rfl) ?_ | refine WL.gno rfl rfl rfl rfl ?_ | refine WL.gyes rfl rfl rfl rfl (Yld.add rfl rfl (by simp only [In]; omega)) ?_ | refine WL.gyes rfl rfl rfl rfl (Yld.sub rfl rfl (by simp only [In]; omega)) ?_ | refine WL.gyes rfl rfl rfl rfl (Yld.mul rfl rfl (by simp only [In]; omega)) ?_ | refine WL.gyes rfl rfl rfl rfl (Yld.convB tab_ok rfl rfl rfl rfl) ?_ | refine WL.gyes rfl rfl rfl rfl (Yld.conv tab_ok rfl rfl rfl (by simp only [In]; omega)) ?_ | refine WL.gyes rfl rfl rfl rfl (Yld.quo rfl rfl (by omega) (by omega) (by simp only [In]; omega)) ?_ | refine WL.gyes rfl rfl rfl rfl (Yld.rem rfl rfl (by omega) (by omega)) ?_ | refine WL.gyes rfl rfl rfl rfl (Yld.shl rfl rfl (by omega)) ?_ | refine WL.gyes rfl rfl rfl rfl (Yld.shr rfl rfl (by omega)) ?_ | refine WL.gyes rfl rfl rfl rfl (Yld.pure tab_ok rfl) ?_ | refine WL.gyes rfl rfl rfl rfl (Yld.fld flds_ok rfl rfl rfl) ?_ | refine WL.gyes rfl rfl rfl rfl (Yld.max2 rfl rfl) ?_ | refine WL.gyes rfl rfl rfl rfl (Yld.min2 rfl rfl) ?_ | refine WL.gyes rfl rfl rfl rfl (Yld.pickV rfl rfl rfl) ?_)
    refine WL.y rfl (Yld.bagg (vs := [a, b]) tab_ok hB rfl rfl rfl rfl) ?_
    refine WL.y rfl (Yld.struct (us := [a, b]) (vs := [(1, .agg ⟨[a, b]⟩)]) zero128 places128 rfl rfl) ?_
    refine WL.y rfl (Yld.mki Tryd.underlying128 rfl rfl) ?_
    repeat (first | refine WC.seq ?_ | refine WC.block ?_ | refine WC.region ?_ | refine WL.nil ?_ | refine WX.then_normal ?_ | refine WC.skip ?_ | refine WC.exit ?_ | refine WC.ret ?_ | refine WX.then_exit ?_ | refine WX.then_ret ?_ | refine WX.block_normal ?_ | refine WX.block_ret ?_ | refine WX.block_same ?_ | refine WX.block_other rfl ?_ | refine WC.label ?_ | refine WC.scope ?_ | refine WX.scope_normal ?_ | refine WX.scope_ret ?_ | refine WX.scope_exit ?_ | refine WL.y rfl (Yld.add rfl rfl (by simp only [In]; omega)) ?_ | refine WL.y rfl (Yld.sub rfl rfl (by simp only [In]; omega)) ?_ | refine WL.y rfl (Yld.mul rfl rfl (by simp only [In]; omega)) ?_ | refine WL.y rfl (Yld.convB tab_ok rfl rfl rfl rfl) ?_ | refine WL.y rfl (Yld.conv tab_ok rfl rfl rfl (by simp only [In]; omega)) ?_ | refine WL.y rfl (Yld.quo rfl rfl (by omega) (by omega) (by simp only [In]; omega)) ?_ | refine WL.y rfl (Yld.rem rfl rfl (by omega) (by omega)) ?_ | refine WL.y rfl (Yld.shl rfl rfl (by omega)) ?_ | refine WL.y rfl (Yld.shr rfl rfl (by omega)) ?_ | refine WL.y rfl (Yld.pure tab_ok rfl) ?_ | refine WL.y rfl (Yld.fld flds_ok rfl rfl rfl) ?_ | refine WL.y rfl (Yld.max2 rfl rfl) ?_ | refine WL.y rfl (Yld.min2 rfl rfl) ?_ | refine WL.y rfl (Yld.pickV rfl rfl rfl) ?_ | refine WL.gno rfl rfl rfl rfl ?_ | refine WL.gyes rfl rfl rfl rfl (Yld.add rfl rfl (by simp only [In]; omega)) ?_ | refine WL.gyes rfl rfl rfl rfl (Yld.sub rfl rfl (by simp only [In]; omega)) ?_ | refine WL.gyes rfl rfl rfl rfl (Yld.mul rfl rfl (by simp only [In]; omega)) ?_ | refine WL.gyes rfl rfl rfl rfl (Yld.convB tab_ok rfl rfl rfl rfl) ?_ | refine WL.gyes rfl rfl rfl rfl (Yld.conv tab_ok rfl rfl rfl (by simp only [In]; omega)) ?_ | refine WL.gyes rfl rfl rfl rfl (Yld.quo rfl rfl (by omega) (by omega) (by simp only [In]; omega)) ?_ | refine WL.gyes rfl rfl rfl rfl (Yld.rem rfl rfl (by omega) (by omega)) ?_ | refine WL.gyes rfl rfl rfl rfl (Yld.shl rfl rfl (by omega)) ?_ | refine WL.gyes rfl rfl rfl rfl (Yld.shr rfl rfl (by omega)) ?_ | refine WL.gyes rfl rfl rfl rfl (Yld.pure tab_ok rfl) ?_ | refine WL.gyes rfl rfl rfl rfl (Yld.fld flds_ok rfl rfl rfl) ?_ | refine WL.gyes rfl rfl rfl rfl (Yld.max2 rfl rfl) ?_ | refine WL.gyes rfl rfl rfl rfl (Yld.min2 rfl rfl) ?_ | refine WL.gyes rfl rfl rfl rfl (Yld.pickV rfl rfl rfl) ?_)
    exact WX.ret1 rfl rfl ⟨rfl, hg⟩
  refine WL.call rfl rfl hint ?_
  rintro v w2 ⟨rfl, hg2⟩
  repeat (first | refine WC.seq ?_ | refine WC.block ?_ | refine WC.region ?_ | refine WL.nil ?_ | refine WX.then_normal ?_ | refine WC.skip ?_ | refine WC.exit ?_ | refine WC.ret ?_ | refine WX.then_exit ?_ | refine WX.then_ret ?_ | refine WX.block_normal ?_ | refine WX.block_ret ?_ | refine WX.block_same ?_ | refine WX.block_other rfl ?_ | refine WC.label ?_ | refine WC.scope ?_ | refine WX.scope_normal ?_ | refine WX.scope_ret ?_ | refine WX.scope_exit ?_ | refine WL.y rfl (Yld.add rfl rfl (by simp only [In]; omega)) ?_ | refine WL.y rfl (Yld.sub rfl rfl (by simp only [In]; omega)) ?_ | refine WL.y rfl (Yld.mul rfl rfl (by simp only [In]; omega)) ?_ | refine WL.y rfl (Yld.convB tab_ok rfl rfl rfl rfl) ?_ | refine WL.y rfl (Yld.conv tab_ok rfl rfl rfl (by simp only [In]; omega)) ?_ | refine WL.y rfl (Yld.quo rfl rfl (by omega) (by omega) (by simp only [In]; omega)) ?_ | refine WL.y rfl (Yld.rem rfl rfl (by omega) (by omega)) ?_ | refine WL.y rfl (Yld.shl rfl rfl (by omega)) ?_ | refine WL.y rfl (Yld.shr rfl rfl (by omega)) ?_ | refine WL.y rfl (Yld.pure tab_ok rfl) ?_ | refine WL.y rfl (Yld.fld flds_ok rfl rfl rfl) ?_ | refine WL.y rfl (Yld.max2 rfl rfl) ?_ | refine WL.y rfl (Yld.min2 rfl rfl) ?_ | refine WL.y rfl (Yld.pickV rfl rfl rfl) ?_ | refine WL.gno rfl rfl rfl rfl ?_ | refine WL.gyes rfl rfl rfl rfl (Yld.add rfl rfl (by simp only [In]; omega)) ?_ | refine WL.gyes rfl rfl rfl rfl (Yld.sub rfl rfl (by simp only [In]; omega)) ?_ | refine WL.gyes rfl rfl rfl rfl (Yld.mul rfl rfl (by simp only [In]; omega)) ?_ | refine WL.gyes rfl rfl rfl rfl (Yld.convB tab_ok rfl rfl rfl rfl) ?_ | refine WL.gyes rfl rfl rfl rfl (Yld.conv tab_ok rfl rfl rfl (by simp only [In]; omega)) ?_ | refine WL.gyes rfl rfl rfl rfl (Yld.quo rfl rfl (by omega) (by omega) (by simp only [In]; omega)) ?_ | refine WL.gyes rfl rfl rfl rfl (Yld.rem rfl rfl (by omega) (by omega)) ?_ | refine WL.gyes rfl rfl rfl rfl (Yld.shl rfl rfl (by omega)) ?_ | refine WL.gyes rfl rfl rfl rfl (Yld.shr rfl rfl (by omega)) ?_ | refine WL.gyes rfl rfl rfl rfl (Yld.pure tab_ok rfl) ?_ | refine WL.gyes rfl rfl rfl rfl (Yld.fld flds_ok rfl rfl rfl) ?_ | refine WL.gyes rfl rfl rfl rfl (Yld.max2 rfl rfl) ?_ | refine WL.gyes rfl rfl rfl rfl (Yld.min2 rfl rfl) ?_ | refine WL.gyes rfl rfl rfl rfl (Yld.pickV rfl rfl rfl) ?_)
  have hN2 := hN.grown hg2
  refine WX.ret1 rfl rfl ⟨gr_trans hg hg2, ⟨.iface 128 (.agg ⟨[a, b]⟩), rfl⟩, fun q => w.heap.size ≤ q ∧ q < w2.heap.size, .int n, rfl, RelD.cons ⟨⟨a, b, rfl, hN2, ?_⟩, fun q hq => hq.2⟩ RelD.nil, fun p hp => DnD.cons (fun q e hq => ?_) DnD.nil, hK⟩
  · intro neg A m c e q hq
    have := hL neg A m c e q hq
    have := hg2.size
    omega
  · have := hp q e
    omega
theorem W_val_Tuple {w : World} {l : List PV} {A_l : Option Addr} {c_l : Nat} {hs_l : List VH} {n_l : Nat} {K : PV → Prop} (hl : Rd vv w A_l c_l hs_l) (hn_l : n_l = l.length) (hr_l : RelD deV w hs_l l) (H : M_val_Tuple l K) : Fn Tryd.prog 26 ⟨[.slice A_l n_l c_l]⟩ w
    (fun v w' => w.grownBy w' none ∧ ∃ (v_r : OV), ∃ (F_r : Nat → Prop), ∃ (r : PV), v = v_r.1 ∧ RelD deV w' [(v_r, F_r)] [r] ∧ (∀ p : Option Nat, Lt p w.heap.size → DnD deV hs_l l p → DnD deV [(v_r, F_r)] [r] p) ∧ K r) := by
  obtain ⟨hlen, zs, rfl, hK⟩ := H
  refine Fn.enter (by kernel_rfl) Tryd.func26 rfl Tryd.ntmps26 rfl ?_
  repeat (first | refine WC.seq ?_ | refine WC.block ?_ | refine WC.region ?_ | refine WL.nil ?_ | refine WX.then_normal ?_ | refine WC.skip ?_ | refine WC.exit ?_ | refine WC.ret ?_ | refine WX.then_exit ?_ | refine WX.then_ret ?_ | refine WX.block_normal ?_ | refine WX.block_ret ?_ | refine WX.block_same ?_ | refine WX.block_other rfl ?_ | refine WC.label ?_ | refine WC.scope ?_ | refine WX.scope_normal ?_ | refine WX.scope_ret ?_ | refine WX.scope_exit ?_ | refine WL.y rfl (Yld.add rfl rfl (by simp only [In]; omega)) ?_ | refine WL.y rfl (Yld.sub rfl rfl (by simp only [In]; omega)) ?_ | refine WL.y rfl (Yld.mul rfl rfl (by simp only [In]; omega)) ?_ | refine WL.y rfl (Yld.convB tab_ok rfl rfl rfl rfl) ?_ | refine WL.y rfl (Yld.conv tab_ok rfl rfl rfl (by simp only [In]; omega)) ?_ | refine WL.y rfl (Yld.quo rfl rfl (by omega) (by omega) (by simp only [In]; omega)) ?_ | refine WL.y rfl (Yld.rem rfl rfl (by omega) (by omega)) ?_ | refine WL.y rfl (Yld.shl rfl rfl (by omega)) ?_ | refine WL.y rfl (Yld.shr rfl rfl (by omega)) ?_ | refine WL.y rfl (Yld.pure tab_ok rfl) ?_ | refine WL.y rfl (Yld.fld flds_ok rfl rfl rfl) ?_ | refine WL.y rfl (Yld.max2 rfl rfl) ?_ | refine WL.y rfl (Yld.min2 rfl rfl) ?_ | refine WL.y rfl (Yld.pickV rfl rfl rfl) ?_ | refine WL.gno rfl rfl rfl rfl ?_ | refine WL.gyes rfl rfl rfl rfl (Yld.add rfl rfl (by simp only [In]; omega)) ?_ | refine WL.gyes rfl rfl rfl rfl (Yld.sub rfl rfl (by simp only [In]; omega)) ?_ | refine WL.gyes rfl rfl rfl rfl (Yld.mul rfl rfl (by simp only [In]; omega)) ?_ | refine WL.gyes rfl rfl rfl rfl (Yld.convB tab_ok rfl rfl rfl rfl) ?_ | refine WL.gyes rfl rfl rfl rfl (Yld.conv tab_ok rfl rfl rfl (by simp only [In]; omega)) ?_ | refine WL.gyes rfl rfl rfl rfl (Yld.quo rfl rfl (by omega) (by omega) (by simp only [In]; omega)) ?_ | refine WL.gyes rfl rfl rfl rfl (Yld.rem rfl rfl (by omega) (by omega)) ?_ | refine WL.gyes rfl rfl rfl rfl (Yld.shl rfl rfl (by omega)) ?_ | refine WL.gyes rfl rfl rfl rfl (Yld.shr rfl rfl (by omega)) ?_ | refine WL.gyes rfl rfl rfl rfl (Yld.pure tab_ok rfl) ?_ | refine WL.gyes rfl rfl rfl rfl (Yld.fld flds_ok rfl rfl rfl) ?_ | refine WL.gyes rfl rfl rfl rfl (Yld.max2 rfl rfl) ?_ | refine WL.gyes rfl rfl rfl rfl (Yld.min2 rfl rfl) ?_ | refine WL.gyes rfl rfl rfl rfl (Yld.pickV rfl rfl rfl) ?_)
  refine WL.call rfl rfl (W_slices_Clone_val_Value_val_Value (K := fun r => r = zs.map .int) hl hn_l hr_l (clone_MV hlen rfl)) ?_
  rintro _ w1 ⟨hg1, r, A, c, hs, rfl, hO, hr, ho, hc, hrn⟩
  subst hrn
  refine WL.y rfl (Yld.struct (us := [.slice A (zs.map PV.int).length c]) (vs := [(1, .slice A (zs.map PV.int).length c)]) zero115 places115 rfl rfl) ?_
  refine WL.box (us := [.slice A (zs.map PV.int).length c]) rfl rfl rfl (fun g w2 hB hg2 hl2 => ?_)
  repeat (first | refine WC.seq ?_ | refine WC.block ?_ | refine WC.region ?_ | refine WL.nil ?_ | refine WX.then_normal ?_ | refine WC.skip ?_ | refine WC.exit ?_ | refine WC.ret ?_ | refine WX.then_exit ?_ | refine WX.then_ret ?_ | refine WX.block_normal ?_ | refine WX.block_ret ?_ | refine WX.block_same ?_ | refine WX.block_other rfl ?_ | refine WC.label ?_ | refine WC.scope ?_ | refine WX.scope_normal ?_ | refine WX.scope_ret ?_ | refine WX.scope_exit ?_ | refine WL.y rfl (Yld.add rfl rfl (by simp only [In]; omega)) ?_ | refine WL.y rfl (Yld.sub rfl rfl (by simp only [In]; omega)) ?_ | refine WL.y rfl (Yld.mul rfl rfl (by simp only [In]; omega)) ?_ | refine WL.y rfl (Yld.convB tab_ok rfl rfl rfl rfl) ?_ | refine WL.y rfl (Yld.conv tab_ok rfl rfl rfl (by simp only [In]; omega)) ?_ | refine WL.y rfl (Yld.quo rfl rfl (by omega) (by omega) (by simp only [In]; omega)) ?_ | refine WL.y rfl (Yld.rem rfl rfl (by omega) (by omega)) ?_ | refine WL.y rfl (Yld.shl rfl rfl (by omega)) ?_ | refine WL.y rfl (Yld.shr rfl rfl (by omega)) ?_ | refine WL.y rfl (Yld.pure tab_ok rfl) ?_ | refine WL.y rfl (Yld.fld flds_ok rfl rfl rfl) ?_ | refine WL.y rfl (Yld.max2 rfl rfl) ?_ | refine WL.y rfl (Yld.min2 rfl rfl) ?_ | refine WL.y rfl (Yld.pickV rfl rfl rfl) ?_ | refine WL.gno rfl rfl rfl rfl ?_ | refine WL.gyes rfl rfl rfl rfl (Yld.add rfl rfl (by simp only [In]; omega)) ?_ | refine WL.gyes rfl rfl rfl rfl (Yld.sub rfl rfl (by simp only [In]; omega)) ?_ | refine WL.gyes rfl rfl rfl rfl (Yld.mul rfl rfl (by simp only [In]; omega)) ?_ | refine WL.gyes rfl rfl rfl rfl (Yld.convB tab_ok rfl rfl rfl rfl) ?_ | refine WL.gyes rfl rfl rfl rfl (Yld.conv tab_ok rfl rfl rfl (by simp only [In]; omega)) ?_ | refine WL.gyes rfl rfl rfl rfl (Yld.quo rfl rfl (by omega) (by omega) (by simp only [In]; omega)) ?_ | refine WL.gyes rfl rfl rfl rfl (Yld.rem rfl rfl (by omega) (by omega)) ?_ | refine WL.gyes rfl rfl rfl rfl (Yld.shl rfl rfl (by omega)) ?_ | refine WL.gyes rfl rfl rfl rfl (Yld.shr rfl rfl (by omega)) ?_ | refine WL.gyes rfl rfl rfl rfl (Yld.pure tab_ok rfl) ?_ | refine WL.gyes rfl rfl rfl rfl (Yld.fld flds_ok rfl rfl rfl) ?_ | refine WL.gyes rfl rfl rfl rfl (Yld.max2 rfl rfl) ?_ | refine WL.gyes rfl rfl rfl rfl (Yld.min2 rfl rfl) ?_ | refine WL.gyes rfl rfl rfl rfl (Yld.pickV rfl rfl rfl) ?_)
  refine WL.y rfl (Yld.mki Tryd.underlying113 rfl rfl) ?_
  repeat (first | refine WC.seq ?_ | refine WC.block ?_ | refine WC.region ?_ | refine WL.nil ?_ | refine WX.then_normal ?_ | refine WC.skip ?_ | refine WC.exit ?_ | refine WC.ret ?_ | refine WX.then_exit ?_ | refine WX.then_ret ?_ | refine WX.block_normal ?_ | refine WX.block_ret ?_ | refine WX.block_same ?_ | refine WX.block_other rfl ?_ | refine WC.label ?_ | refine WC.scope ?_ | refine WX.scope_normal ?_ | refine WX.scope_ret ?_ | refine WX.scope_exit ?_ | refine WL.y rfl (Yld.add rfl rfl (by simp only [In]; omega)) ?_ | refine WL.y rfl (Yld.sub rfl rfl (by simp only [In]; omega)) ?_ | refine WL.y rfl (Yld.mul rfl rfl (by simp only [In]; omega)) ?_ | refine WL.y rfl (Yld.convB tab_ok rfl rfl rfl rfl) ?_ | refine WL.y rfl (Yld.conv tab_ok rfl rfl rfl (by simp only [In]; omega)) ?_ | refine WL.y rfl (Yld.quo rfl rfl (by omega) (by omega) (by simp only [In]; omega)) ?_ | refine WL.y rfl (Yld.rem rfl rfl (by omega) (by omega)) ?_ | refine WL.y rfl (Yld.shl rfl rfl (by omega)) ?_ | refine WL.y rfl (Yld.shr rfl rfl (by omega)) ?_ | refine WL.y rfl (Yld.pure tab_ok rfl) ?_ | refine WL.y rfl (Yld.fld flds_ok rfl rfl rfl) ?_ | refine WL.y rfl (Yld.max2 rfl rfl) ?_ | refine WL.y rfl (Yld.min2 rfl rfl) ?_ | refine WL.y rfl (Yld.pickV rfl rfl rfl) ?_ | refine WL.gno rfl rfl rfl rfl ?_ | refine WL.gyes rfl rfl rfl rfl (Yld.add rfl rfl (by simp only [In]; omega)) ?_ | refine WL.gyes rfl rfl rfl rfl (Yld.sub rfl rfl (by simp only [In]; omega)) ?_ | refine WL.gyes rfl rfl rfl rfl (Yld.mul rfl rfl (by simp only [In]; omega)) ?_ | refine WL.gyes rfl rfl rfl rfl (Yld.convB tab_ok rfl rfl rfl rfl) ?_ | refine WL.gyes rfl rfl rfl rfl (Yld.conv tab_ok rfl rfl rfl (by simp only [In]; omega)) ?_ | refine WL.gyes rfl rfl rfl rfl (Yld.quo rfl rfl (by omega) (by omega) (by simp only [In]; omega)) ?_ | refine WL.gyes rfl rfl rfl rfl (Yld.rem rfl rfl (by omega) (by omega)) ?_ | refine WL.gyes rfl rfl rfl rfl (Yld.shl rfl rfl (by omega)) ?_ | refine WL.gyes rfl rfl rfl rfl (Yld.shr rfl rfl (by omega)) ?_ | refine WL.gyes rfl rfl rfl rfl (Yld.pure tab_ok rfl) ?_ | refine WL.gyes rfl rfl rfl rfl (Yld.fld flds_ok rfl rfl rfl) ?_ | refine WL.gyes rfl rfl rfl rfl (Yld.max2 rfl rfl) ?_ | refine WL.gyes rfl rfl rfl rfl (Yld.min2 rfl rfl) ?_ | refine WL.gyes rfl rfl rfl rfl (Yld.pickV rfl rfl rfl) ?_)
  have h0 := hg1.size
  have hO2 := hO.grown hg2
  have hr2 := hr.grown hg2
  have at1 : ∀ h ∈ hs, ∃ i x, hs[i]? = some h ∧ (zs.map PV.int)[i]? = some x := fun h hh => by
    obtain ⟨i, hi, rfl⟩ := List.getElem_of_mem hh
    exact ⟨i, _, List.getElem?_eq_getElem hi, List.getElem?_eq_getElem (by rw [← hr.1]; exact hi)⟩
  refine WX.ret1 rfl rfl ⟨gr_trans hg1 hg2, ⟨.iface 113 (.pointer (some ⟨g, 0, none⟩)), rfl⟩, fun q => q = g ∨ blk A = some q ∨ ∃ h, h ∈ hs ∧ h.2 q, .tup zs, rfl, RelD.cons ⟨⟨g, A, c, hs, rfl, by rw [List.length_map] at hB; exact hB, hO2.rd, by rw [hr.1, List.length_map], fun q hq => .inr (.inl hq), .inl rfl, fun i h z hh hz => ?_⟩, fun q hq => ?_⟩ RelD.nil, fun p hp hd => DnD.cons (fun q e hq => ?_) DnD.nil, hK⟩
  · have := hr2.2 i h (.int z) hh (by rw [List.getElem?_map, hz]; rfl)
    exact AI.mono this.1 fun q hq => .inr (.inr ⟨h, List.mem_of_getElem? hh, hq⟩)
  · rcases hq with rfl | hq | ⟨h, hh, hq⟩
    · exact hB.lt
    · exact (hO2.lt hq).2
    · obtain ⟨i, x, a, b⟩ := at1 h hh; exact (hr2.2 i h x a b).2 q hq
  · have hpq := hp q e
    rcases hq with rfl | hq | ⟨h, hh, hq⟩
    · omega
    · have := (hO.lt hq).1; omega
    · obtain ⟨i, x, a, b⟩ := at1 h hh
      exact ho p hp hd i h x a b q e hq
end Go.Proofs.YtofenpiiihhigaaDoor


 