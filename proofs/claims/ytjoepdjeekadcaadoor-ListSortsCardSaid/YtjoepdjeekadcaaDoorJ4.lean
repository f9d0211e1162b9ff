/- Texts of this claim, joined by a program: GLu, Sym, LsA, LsB, Lq, GSa, Sent, GSb. -/
import Derived.Test.YtjoepdjeekadcaaDoorJ3
/- Printed by a program (wip/vg): what the functions mean, plainly, and their walks. -/
namespace Go.Proofs.YtjoepdjeekadcaaDoor
open Go Go.RowKit
attribute [local irreducible] WL WC WX WQ WK WJ Yld Eff Ef0 Fn
def M_slices_insertionSortCmpFunc_val_Value_list_Sorted_1 (data : List PV) (a : Int) (b : Int) (cap0 : Bool) (cap1 : Bool) (K : (List PV) → Prop) : Prop :=
 (data.length ≤ maxLen →
 (In .i64 (a + (1 : Int))) ∧
 Lp2 (fun (i : Int) (data2 : List PV) kont1 => data.length = data2.length → ((i < b → Lp2 (fun (j : Int) (data3 : List PV) kont2 => data.length = data3.length → ∃ J1 : Bool → Prop, ((((decide (a < j)) = true → (0 ≤ j ∧ j < (data.length : Nat)) ∧
 (In .i64 (j - (1 : Int))) ∧
 (0 ≤ j - (1 : Int) ∧ j - (1 : Int) < (data.length : Nat)) ∧
 M_list_Sorted_1 (data3.getD j.toNat PV.nil) (data3.getD ((j - (1 : Int)).toNat) PV.nil) cap0 cap1 (fun (t32 : Int) =>
 J1 (decide (t32 < (0 : Int))))) ∧
 ((decide (a < j)) = false → J1 false))) ∧
 (∀ q1 : Bool, J1 q1 → ((q1 = true → (In .i64 (j - (1 : Int))) ∧
 (In .i64 (j - (1 : Int))) ∧
 (0 ≤ j - (1 : Int) ∧ j - (1 : Int) < (data.length : Nat)) ∧
 (0 ≤ j ∧ j < (data.length : Nat)) ∧
 (0 ≤ j ∧ j < (data.length : Nat)) ∧
 (0 ≤ j - (1 : Int) ∧ j - (1 : Int) < (data.length : Nat)) ∧
 (In .i64 (j - (1 : Int))) ∧
 kont2 (j - (1 : Int)) ((data3.set j.toNat (data3.getD ((j - (1 : Int)).toNat) PV.nil)).set ((j - (1 : Int)).toNat) (data3.getD j.toNat PV.nil))) ∧
 (q1 = false → (In .i64 (i + (1 : Int))) ∧
 kont1 (i + (1 : Int)) data3)))) i data2) ∧
 (¬ (i < b) → K data2))) (a + (1 : Int)) data)

def M_slices_swapRangeCmpFunc_val_Value_list_Sorted_1 (data : List PV) (a : Int) (b : Int) (n : Int) (cap0 : Bool) (cap1 : Bool) (K : (List PV) → Prop) : Prop :=
 (data.length ≤ maxLen →
 Lp2 (fun (i : Int) (data2 : List PV) kont1 => data.length = data2.length → ((i < n → (In .i64 (a + i)) ∧
 (In .i64 (b + i)) ∧
 (In .i64 (b + i)) ∧
 (0 ≤ b + i ∧ b + i < (data.length : Nat)) ∧
 (In .i64 (a + i)) ∧
 (0 ≤ a + i ∧ a + i < (data.length : Nat)) ∧
 (0 ≤ a + i ∧ a + i < (data.length : Nat)) ∧
 (0 ≤ b + i ∧ b + i < (data.length : Nat)) ∧
 (In .i64 (i + (1 : Int))) ∧
 kont1 (i + (1 : Int)) ((data2.set ((a + i).toNat) (data2.getD ((b + i).toNat) PV.nil)).set ((b + i).toNat) (data2.getD ((a + i).toNat) PV.nil))) ∧
 (¬ (i < n) → K data2))) (0 : Int) data)

def M_slices_rotateCmpFunc_val_Value_list_Sorted_1 (data : List PV) (a : Int) (m : Int) (b : Int) (cap0 : Bool) (cap1 : Bool) (K : (List PV) → Prop) : Prop :=
 (data.length ≤ maxLen →
 (In .i64 (m - a)) ∧
 (In .i64 (b - m)) ∧
 Lp3 (fun (i : Int) (j : Int) (data2 : List PV) kont1 => data.length = data2.length → ((¬ (i = j) → ((j < i → (In .i64 (m - i)) ∧
 M_slices_swapRangeCmpFunc_val_Value_list_Sorted_1 data2 (m - i) m j cap0 cap1 (fun (ys : List PV) =>
 (In .i64 (i - j)) ∧
 kont1 (i - j) j ys)) ∧
 (¬ (j < i) → (In .i64 (m - i)) ∧
 (In .i64 (m + j)) ∧
 (In .i64 ((m + j) - i)) ∧
 M_slices_swapRangeCmpFunc_val_Value_list_Sorted_1 data2 (m - i) ((m + j) - i) i cap0 cap1 (fun (ys2 : List PV) =>
 (In .i64 (j - i)) ∧
 kont1 i (j - i) ys2)))) ∧
 (i = j → (In .i64 (m - i)) ∧
 M_slices_swapRangeCmpFunc_val_Value_list_Sorted_1 data2 (m - i) m i cap0 cap1 (fun (ys3 : List PV) =>
 K ys3)))) (m - a) (b - m) data)

def M_slices_symMergeCmpFunc_val_Value_list_Sorted_1_step (MR : (List PV) → Int → Int → Int → Bool → Bool → ((List PV) → Prop) → Prop) (data : List PV) (a : Int) (m : Int) (b : Int) (cap0 : Bool) (cap1 : Bool) (K : (List PV) → Prop) : Prop :=
 (data.length ≤ maxLen →
 (In .i64 (m - a)) ∧
 (((m - a) = (1 : Int) → Lp2 (fun (i : Int) (j : Int) kont1 => ((i < j → (In .i64 (i + j)) ∧
 (In .u64 (i + j)) ∧
 (In .i64 (shrV .u64 (i + j) 1)) ∧
 (0 ≤ shrV .u64 (i + j) 1 ∧ shrV .u64 (i + j) 1 < (data.length : Nat)) ∧
 (0 ≤ a ∧ a < (data.length : Nat)) ∧
 M_list_Sorted_1 (data.getD ((shrV .u64 (i + j) 1).toNat) PV.nil) (data.getD a.toNat PV.nil) cap0 cap1 (fun (t49 : Int) =>
 ((t49 < (0 : Int) → (In .i64 ((shrV .u64 (i + j) 1) + (1 : Int))) ∧
 kont1 ((shrV .u64 (i + j) 1) + (1 : Int)) j) ∧
 (¬ (t49 < (0 : Int)) → kont1 i (shrV .u64 (i + j) 1))))) ∧
 (¬ (i < j) → Lp2 (fun (k : Int) (data2 : List PV) kont2 => data.length = data2.length → (In .i64 (i - (1 : Int))) ∧
 ((k < (i - (1 : Int)) → (In .i64 (k + (1 : Int))) ∧
 (In .i64 (k + (1 : Int))) ∧
 (0 ≤ k + (1 : Int) ∧ k + (1 : Int) < (data.length : Nat)) ∧
 (0 ≤ k ∧ k < (data.length : Nat)) ∧
 (0 ≤ k ∧ k < (data.length : Nat)) ∧
 (0 ≤ k + (1 : Int) ∧ k + (1 : Int) < (data.length : Nat)) ∧
 (In .i64 (k + (1 : Int))) ∧
 kont2 (k + (1 : Int)) ((data2.set k.toNat (data2.getD ((k + (1 : Int)).toNat) PV.nil)).set ((k + (1 : Int)).toNat) (data2.getD k.toNat PV.nil))) ∧
 (¬ (k < (i - (1 : Int))) → K data2))) a data))) m b) ∧
 (¬ ((m - a) = (1 : Int)) → (In .i64 (b - m)) ∧
 (((b - m) = (1 : Int) → Lp2 (fun (i2 : Int) (j2 : Int) kont3 => ((i2 < j2 → (In .i64 (i2 + j2)) ∧
 (In .u64 (i2 + j2)) ∧
 (In .i64 (shrV .u64 (i2 + j2) 1)) ∧
 (0 ≤ m ∧ m < (data.length : Nat)) ∧
 (0 ≤ shrV .u64 (i2 + j2) 1 ∧ shrV .u64 (i2 + j2) 1 < (data.length : Nat)) ∧
 M_list_Sorted_1 (data.getD m.toNat PV.nil) (data.getD ((shrV .u64 (i2 + j2) 1).toNat) PV.nil) cap0 cap1 (fun (t101 : Int) =>
 ((¬ (t101 < (0 : Int)) → (In .i64 ((shrV .u64 (i2 + j2) 1) + (1 : Int))) ∧
 kont3 ((shrV .u64 (i2 + j2) 1) + (1 : Int)) j2) ∧
 (t101 < (0 : Int) → kont3 i2 (shrV .u64 (i2 + j2) 1))))) ∧
 (¬ (i2 < j2) → Lp2 (fun (k_2 : Int) (data3 : List PV) kont4 => data.length = data3.length → ((i2 < k_2 → (In .i64 (k_2 - (1 : Int))) ∧
 (In .i64 (k_2 - (1 : Int))) ∧
 (0 ≤ k_2 - (1 : Int) ∧ k_2 - (1 : Int) < (data.length : Nat)) ∧
 (0 ≤ k_2 ∧ k_2 < (data.length : Nat)) ∧
 (0 ≤ k_2 ∧ k_2 < (data.length : Nat)) ∧
 (0 ≤ k_2 - (1 : Int) ∧ k_2 - (1 : Int) < (data.length : Nat)) ∧
 (In .i64 (k_2 - (1 : Int))) ∧
 kont4 (k_2 - (1 : Int)) ((data3.set k_2.toNat (data3.getD ((k_2 - (1 : Int)).toNat) PV.nil)).set ((k_2 - (1 : Int)).toNat) (data3.getD k_2.toNat PV.nil))) ∧
 (¬ (i2 < k_2) → K data3))) m data))) a m) ∧
 (¬ ((b - m) = (1 : Int)) → (In .i64 (a + b)) ∧
 (In .u64 (a + b)) ∧
 (In .i64 (shrV .u64 (a + b) 1)) ∧
 (In .i64 ((shrV .u64 (a + b) 1) + m)) ∧
 ∃ J1 : Int → Int → Prop, ((((shrV .u64 (a + b) 1) < m → (In .i64 (((shrV .u64 (a + b) 1) + m) - b)) ∧
 J1 (((shrV .u64 (a + b) 1) + m) - b) (shrV .u64 (a + b) 1)) ∧
 (¬ ((shrV .u64 (a + b) 1) < m) → J1 a m))) ∧
 (∀ start : Int, ∀ r : Int, J1 start r → (In .i64 (((shrV .u64 (a + b) 1) + m) - (1 : Int))) ∧
 Lp2 (fun (start2 : Int) (r2 : Int) kont5 => ((start2 < r2 → (In .i64 (start2 + r2)) ∧
 (In .u64 (start2 + r2)) ∧
 (In .i64 (shrV .u64 (start2 + r2) 1)) ∧
 (In .i64 ((((shrV .u64 (a + b) 1) + m) - (1 : Int)) - (shrV .u64 (start2 + r2) 1))) ∧
 (0 ≤ (((shrV .u64 (a + b) 1) + m) - (1 : Int)) - (shrV .u64 (start2 + r2) 1) ∧ (((shrV .u64 (a + b) 1) + m) - (1 : Int)) - (shrV .u64 (start2 + r2) 1) < (data.length : Nat)) ∧
 (0 ≤ shrV .u64 (start2 + r2) 1 ∧ shrV .u64 (start2 + r2) 1 < (data.length : Nat)) ∧
 M_list_Sorted_1 (data.getD (((((shrV .u64 (a + b) 1) + m) - (1 : Int)) - (shrV .u64 (start2 + r2) 1)).toNat) PV.nil) (data.getD ((shrV .u64 (start2 + r2) 1).toNat) PV.nil) cap0 cap1 (fun (t169 : Int) =>
 ((¬ (t169 < (0 : Int)) → (In .i64 ((shrV .u64 (start2 + r2) 1) + (1 : Int))) ∧
 kont5 ((shrV .u64 (start2 + r2) 1) + (1 : Int)) r2) ∧
 (t169 < (0 : Int) → kont5 start2 (shrV .u64 (start2 + r2) 1))))) ∧
 (¬ (start2 < r2) → (In .i64 (((shrV .u64 (a + b) 1) + m) - start2)) ∧
 ∃ J2 : (List PV) → Prop, (((((decide (start2 < m)) && (decide (m < (((shrV .u64 (a + b) 1) + m) - start2)))) = true → M_slices_rotateCmpFunc_val_Value_list_Sorted_1 data start2 m (((shrV .u64 (a + b) 1) + m) - start2) cap0 cap1 (fun (ys3 : List PV) =>
 J2 ys3)) ∧
 (((decide (start2 < m)) && (decide (m < (((shrV .u64 (a + b) 1) + m) - start2)))) = false → J2 data))) ∧
 (∀ xs : List PV, J2 xs → data.length = xs.length → ∃ J3 : (List PV) → Prop, (((((decide (a < start2)) && (decide (start2 < (shrV .u64 (a + b) 1)))) = true → MR xs a start2 (shrV .u64 (a + b) 1) cap0 cap1 (fun (ys2 : List PV) =>
 J3 ys2)) ∧
 (((decide (a < start2)) && (decide (start2 < (shrV .u64 (a + b) 1)))) = false → J3 xs))) ∧
 (∀ xs2 : List PV, J3 xs2 → data.length = xs2.length → ((((decide ((shrV .u64 (a + b) 1) < (((shrV .u64 (a + b) 1) + m) - start2))) && (decide ((((shrV .u64 (a + b) 1) + m) - start2) < b))) = true → MR xs2 (shrV .u64 (a + b) 1) (((shrV .u64 (a + b) 1) + m) - start2) b cap0 cap1 (fun (ys : List PV) =>
 K ys)) ∧
 (((decide ((shrV .u64 (a + b) 1) < (((shrV .u64 (a + b) 1) + m) - start2))) && (decide ((((shrV .u64 (a + b) 1) + m) - start2) < b))) = false → K xs2))))))) start r))))))
def MF_slices_symMergeCmpFunc_val_Value_list_Sorted_1 : Nat → (List PV) → Int → Int → Int → Bool → Bool → ((List PV) → Prop) → Prop
  | 0 => fun _ _ _ _ _ _ _ => False
  | n + 1 => M_slices_symMergeCmpFunc_val_Value_list_Sorted_1_step (MF_slices_symMergeCmpFunc_val_Value_list_Sorted_1 n)
def M_slices_symMergeCmpFunc_val_Value_list_Sorted_1 (data : List PV) (a : Int) (m : Int) (b : Int) (cap0 : Bool) (cap1 : Bool) (K : (List PV) → Prop) : Prop := ∃ n, MF_slices_symMergeCmpFunc_val_Value_list_Sorted_1 n data a m b cap0 cap1 K

def M_slices_stableCmpFunc_val_Value_list_Sorted_1 (data : List PV) (n : Int) (cap0 : Bool) (cap1 : Bool) (K : (List PV) → Prop) : Prop :=
 (data.length ≤ maxLen →
 Lp3 (fun (a : Int) (b : Int) (data2 : List PV) kont1 => data.length = data2.length → ((b ≤ n → M_slices_insertionSortCmpFunc_val_Value_list_Sorted_1 data2 a b cap0 cap1 (fun (ys : List PV) =>
 (In .i64 (b + (20 : Int))) ∧
 kont1 b (b + (20 : Int)) ys)) ∧
 (¬ (b ≤ n) → M_slices_insertionSortCmpFunc_val_Value_list_Sorted_1 data2 a n cap0 cap1 (fun (ys2 : List PV) =>
 Lp2 (fun (blockSize : Int) (data3 : List PV) kont2 => data.length = data3.length → ((blockSize < n → (In .i64 ((2 : Int) * blockSize)) ∧
 Lp3 (fun (a2 : Int) (b_2 : Int) (data4 : List PV) kont3 => data.length = data4.length → ((b_2 ≤ n → (In .i64 (a2 + blockSize)) ∧
 M_slices_symMergeCmpFunc_val_Value_list_Sorted_1 data4 a2 (a2 + blockSize) b_2 cap0 cap1 (fun (ys3 : List PV) =>
 (In .i64 ((2 : Int) * blockSize)) ∧
 (In .i64 (b_2 + ((2 : Int) * blockSize))) ∧
 kont3 b_2 (b_2 + ((2 : Int) * blockSize)) ys3)) ∧
 (¬ (b_2 ≤ n) → ∃ J1 : (List PV) → Prop, ((In .i64 (a2 + blockSize)) ∧
 (((a2 + blockSize) < n → M_slices_symMergeCmpFunc_val_Value_list_Sorted_1 data4 a2 (a2 + blockSize) n cap0 cap1 (fun (ys4 : List PV) =>
 J1 ys4)) ∧
 (¬ ((a2 + blockSize) < n) → J1 data4))) ∧
 (∀ xs : List PV, J1 xs → data.length = xs.length → (In .i64 (blockSize * (2 : Int))) ∧
 kont2 (blockSize * (2 : Int)) xs)))) (0 : Int) ((2 : Int) * blockSize) data3) ∧
 (¬ (blockSize < n) → K data3))) (20 : Int) ys2)))) (0 : Int) (20 : Int) data)

def M_slices_SortStableFunc_val_Value_val_Value_list_Sorted_1 (x : List PV) (cap0 : Bool) (cap1 : Bool) (K : (List PV) → Prop) : Prop :=
 (x.length ≤ maxLen →
 M_slices_stableCmpFunc_val_Value_list_Sorted_1 x (x.length : Int) cap0 cap1 (fun (ys : List PV) =>
 K ys))

def M_list_Sorted (l : List PV) (back : Bool) (K : (List PV) → Er → Prop) : Prop :=
 (l.length ≤ maxLen →
 M_val_Light (4096 : Int) l (fun (t9 : Bool) =>
 (((!t9) = true → K [] (Er.e 7)) ∧
 ((!t9) = false → M_slices_Clone_val_Value_val_Value l (fun (out : List PV) =>
 M_slices_SortStableFunc_val_Value_val_Value_list_Sorted_1 out back false (fun (ys : List PV) =>
 K ys Er.ok))))))

set_option maxHeartbeats 8000000 in
theorem W_slices_insertionSortCmpFunc_val_Value_list_Sorted_1 {S : List Nat} {B : Nat} {w : World} {data : List PV} {A_data : Option Addr} {c_data : Nat} {hs_data : List VH} {a : Int} {b : Int} {g_cap0 : Nat} {cap0 : Bool} {g_cap1 : Nat} {cap1 : Bool} {n_data : Nat} {K : (List PV) → Prop} (hG : GB S B w) (hB : B ≤ w.heap.size) (hP : AllP (fun p => Ge p B) [(blk A_data)]) (hS3 : 3 ∈ S) (hS7 : 7 ∈ S) (hdata : Own vv w 0 41 A_data c_data hs_data) (hn_data : n_data = data.length) (hr_data : RelD deV w hs_data data) (hcap0 : Bl w g_cap0 4 [.bool cap0]) (hcap1 : Bl w g_cap1 4 [.bool cap1]) (hap0 : AllP (DnD deV hs_data data) [(blk A_data)]) (hap1 : AllP (Dj (some g_cap0)) [(blk A_data)]) (hap2 : AllP (Dj (some g_cap1)) [(blk A_data)]) (H : M_slices_insertionSortCmpFunc_val_Value_list_Sorted_1 data a b cap0 cap1 K) : Fn Tryd.prog 72 ⟨[.slice A_data n_data c_data, .int .i64 a, .int .i64 b, .func (.func 39) #[] #[.pointer (some ⟨g_cap0, 0, none⟩), .pointer (some ⟨g_cap1, 0, none⟩)]]⟩ w (fun v w' => GrL [(blk A_data)] w w' ∧ ∃ (ys : List PV), ∃ (hs_ys : List VH), v = .tuple #[] ∧ Own vv w' 0 41 A_data c_data hs_ys ∧ hs_ys.length = data.length ∧ RelD deV w' hs_ys ys ∧ (∀ p : Option Nat, Lt p w.heap.size → DnD deV hs_data data p → DnD deV hs_ys ys p) ∧ DnD deV hs_ys ys (blk A_data) ∧ K ys) := by
  subst hn_data
  unfold M_slices_insertionSortCmpFunc_val_Value_list_Sorted_1 at H
  refine Fn.enter (by kernel_rfl) Tryd.func72 rfl Tryd.ntmps72 rfl ?_
  replace H := H (by rw [← hr_data.1]; exact Nat.le_trans hdata.rd.cap hdata.rd.max)
  have hNoAt : AllP (NoAt w) [(blk A_data)] := (apC (NoAt.own hdata rfl) apN)
  refine WC.seq ?_
  refine WC.region ?_
  refine WL.y rfl (Yld.pure tab_ok rfl) ?_
  obtain ⟨h1, H⟩ := H
  refine WL.y rfl (Yld.add rfl rfl h1) ?_
  refine WL.y rfl (Yld.pure tab_ok rfl) ?_
  refine WL.nil (WX.then_normal ?_)
  refine WC.block ?_
  obtain ⟨I1, mu1, h0_1, HR1⟩ := H
  refine WC.loopF (fun n' L' w' => ∃ (i : Int), ∃ (data2 : List PV), ∃ (hs : List VH), n' = mu1 i data2 ∧ L' = [(0, .slice A_data data.length c_data), (1, .int .i64 a), (2, .int .i64 b), (3, .func (.func 39) #[] #[.pointer (some ⟨g_cap0, 0, none⟩), .pointer (some ⟨g_cap1, 0, none⟩)]), (8, .int .i64 i)] ∧ I1 i data2 ∧ data.length = data2.length ∧ GrL [(blk A_data)] w w' ∧ Own vv w' 0 41 A_data c_data hs ∧ RelD deV w' hs data2 ∧ DnD deV hs data2 (blk A_data) ∧ OrD (fun p => DnD deV hs_data data p) deV hs data2 w.heap.size) _ _ ⟨a + (1 : Int), data, hs_data, rfl, rfl, h0_1, rfl, (GrL.refl _), hdata, hr_data, (hap0 _ (List.Mem.head _)), (fun p_ hp_ q_ => q_)⟩ (by repeat (first | exact Sub.nil | refine Sub.cons rfl ?_)) ?_
  clear h0_1
  rintro _ _ w1 ⟨i, data2, hs, rfl, rfl, hI1, hn_data2, gr1, k1, k2, dj1, or1⟩
  have H := HR1 i data2 hI1
  replace H := H hn_data2
  refine WC.seq ?_
  refine WC.seq ?_
  refine WC.region ?_
  refine WL.y rfl (Yld.pure tab_ok rfl) ?_
  refine WL.y rfl (Yld.pure tab_ok rfl) ?_
  refine WL.y rfl (Yld.pure tab_ok rfl) ?_
  refine WL.nil (WX.then_normal ?_)
  refine WC.cond rfl (fun b1 => ?_) (fun b1 => ?_)
  · replace H := H.1 (of_decide_eq_true b1)
    refine WC.skip (WX.then_normal ?_)
    refine WC.seq ?_
    refine WC.block ?_
    refine WC.seq ?_
    refine WC.region ?_
    refine WL.y rfl (Yld.pure tab_ok rfl) ?_
    refine WL.y rfl (Yld.pure tab_ok rfl) ?_
    refine WL.nil (WX.then_normal ?_)
    refine WC.block ?_
    obtain ⟨I2, mu2, h0_2, HR2⟩ := H
    refine WC.loopF (fun n' L' w' => ∃ (j : Int), ∃ (data3 : List PV), ∃ (hs2 : List VH), n' = mu2 j data3 ∧ L' = [(0, .slice A_data data.length c_data), (1, .int .i64 a), (2, .int .i64 b), (3, .func (.func 39) #[] #[.pointer (some ⟨g_cap0, 0, none⟩), .pointer (some ⟨g_cap1, 0, none⟩)]), (8, .int .i64 i), (9, .int .i64 j)] ∧ I2 j data3 ∧ data.length = data3.length ∧ GrL [(blk A_data)] w w' ∧ Own vv w' 0 41 A_data c_data hs2 ∧ RelD deV w' hs2 data3 ∧ DnD deV hs2 data3 (blk A_data) ∧ OrD (fun p => DnD deV hs_data data p) deV hs2 data3 w.heap.size) _ _ ⟨i, data2, hs, rfl, rfl, h0_2, ((hn_data2.trans k2.1.symm).trans k2.1), gr1, k1, k2, dj1, or1⟩ (by repeat (first | exact Sub.nil | refine Sub.cons rfl ?_)) ?_
    clear h0_2
    rintro _ _ w2 ⟨j, data3, hs2, rfl, rfl, hI2, hn_data3, gr2, k3, k4, dj2, or2⟩
    have H := HR2 j data3 hI2
    replace H := H hn_data3
    refine WC.seq ?_
    refine WC.seq ?_
    refine WC.chainF (fun k => !(Nat.beq k 14)) (LD [8, 13] (fun w' => Rd vv w' A_data c_data hs2)) mixed (by kernel_rfl) (fun k w' h _ => (rd_eqv h k3.rd)) ?_
    refine WJ.y rfl rfl (fun w' hw' => Yld.pure tab_ok rfl) ?_
    refine WJ.y rfl rfl (fun w' hw' => Yld.pure tab_ok rfl) ?_
    refine WJ.y rfl rfl (fun w' hw' => Yld.pure tab_ok rfl) ?_
    refine WJ.y rfl rfl (fun w' hw' => Yld.pure tab_ok rfl) ?_
    obtain ⟨J1, H, hJ1⟩ := H
    refine WJ.midF 13 (fun L' w' => ∃ q1 : Bool, L' = [(34, .bool q1), (0, .slice A_data data.length c_data), (1, .int .i64 a), (2, .int .i64 b), (3, .func (.func 39) #[] #[.pointer (some ⟨g_cap0, 0, none⟩), .pointer (some ⟨g_cap1, 0, none⟩)]), (8, .int .i64 i), (9, .int .i64 j)] ∧ J1 q1 ∧ GrL [(blk A_data)] w w' ∧ Own vv w' 0 41 A_data c_data hs2 ∧ RelD deV w' hs2 data3) ?_ (fun hQ => ?_)
    · clear H
      rintro _ w3 ⟨q1, rfl, H, gr3, k5, k6⟩
      replace H := hJ1 q1 H
      refine WJ.nil (WX.then_normal ?_)
      refine WC.cond rfl (fun b2 => ?_) (fun b2 => ?_)
      · replace H := H.1 (b2)
        refine WC.skip (WX.then_normal ?_)
        refine WC.seq ?_
        refine WC.block ?_
        refine WC.chainF (fun k => !(Nat.beq k 15 || Nat.beq k 17)) (LD [9, 13] (fun w' => Rd vv w' A_data c_data hs2)) mixed (by kernel_rfl) (fun k w' h _ => (rd_eqv h k5.rd)) ?_
        refine WJ.y rfl rfl (fun w' hw' => Yld.pure tab_ok rfl) ?_
        refine WJ.y rfl rfl (fun w' hw' => Yld.pure tab_ok rfl) ?_
        refine WJ.y rfl rfl (fun w' hw' => Yld.pure tab_ok rfl) ?_
        refine WJ.y rfl rfl (fun w' hw' => Yld.pure tab_ok rfl) ?_
        obtain ⟨h2, H⟩ := H
        refine WJ.y rfl rfl (fun w' hw' => Yld.sub rfl rfl h2) ?_
        refine WJ.y rfl rfl (fun w' hw' => Yld.pure tab_ok rfl) ?_
        refine WJ.y rfl rfl (fun w' hw' => Yld.pure tab_ok rfl) ?_
        obtain ⟨h3, H⟩ := H
        refine WJ.y rfl rfl (fun w' hw' => Yld.sub rfl rfl h3) ?_
        obtain ⟨h4, H⟩ := H
        refine WJ.y rfl rfl (fun w' hw' => Yld.iaddrW tab_ok k5.rd rfl rfl (hn_data3.trans k4.1.symm) rfl h4.1 h4.2) ?_
        obtain ⟨⟨v_el, F_el⟩, eh1, hR1⟩ := RelD.at k6 vh0 PV.nil (j := (j - (1 : Int)).toNat) (Nat.lt_of_lt_of_eq (iltN h4 (hn_data3.trans k4.1.symm)) k6.1)
        have hv1 : RelD deV w3 [(v_el, F_el)] [data3.getD ((j - (1 : Int)).toNat) PV.nil] := RelD.cons hR1 RelD.nil
        refine WJ.y rfl rfl (fun w' hw' => Yld.to (v := v_el.1) (Yld.iload vh0 tab_ok (hw' rfl) rfl rfl (iltN h4 (hn_data3.trans k4.1.symm))) (congrArg vv eh1)) ?_
        refine WJ.y rfl rfl (fun w' hw' => Yld.pure tab_ok rfl) ?_
        refine WJ.y rfl rfl (fun w' hw' => Yld.pure tab_ok rfl) ?_
        obtain ⟨h5, H⟩ := H
        refine WJ.y rfl rfl (fun w' hw' => Yld.iaddrW tab_ok k5.rd rfl rfl (hn_data3.trans k4.1.symm) rfl h5.1 h5.2) ?_
        obtain ⟨⟨v_el2, F_el2⟩, eh2, hR2⟩ := RelD.at k6 vh0 PV.nil (j := j.toNat) (Nat.lt_of_lt_of_eq (iltN h5 (hn_data3.trans k4.1.symm)) k6.1)
        have hv2 : RelD deV w3 [(v_el2, F_el2)] [data3.getD j.toNat PV.nil] := RelD.cons hR2 RelD.nil
        refine WJ.y rfl rfl (fun w' hw' => Yld.to (v := v_el2.1) (Yld.iload vh0 tab_ok (hw' rfl) rfl rfl (iltN h5 (hn_data3.trans k4.1.symm))) (congrArg vv eh2)) ?_
        obtain ⟨h6, H⟩ := H
        refine WJ.y rfl rfl (fun w' hw' => Yld.iaddrW tab_ok k5.rd rfl rfl (hn_data3.trans k4.1.symm) rfl h6.1 h6.2) ?_
        refine WJ.eff rfl (Ef0.ostore (v := ((v_el, F_el) : VH)) one41 One.vv k5 rfl rfl (iltN h6 (hn_data3.trans k4.1.symm))) (fun w' h => DD.past (by kernel_rfl)) ?_
        rintro w5 ⟨hO1, hg2⟩
        have gr4 : GrL [(blk A_data)] w w5 := GrL.mod gr3 hg2 (InP.mem (List.Mem.head _))
        have k7 := k6.go hg2 dj2
        have k8 := hv1.go hg2 (DnD.cons (DnD.at dj2 k6.1 (Nat.lt_of_lt_of_eq (iltN h4 (hn_data3.trans k4.1.symm)) k6.1) eh1) DnD.nil)
        have k9 := hv2.go hg2 (DnD.cons (DnD.at dj2 k6.1 (Nat.lt_of_lt_of_eq (iltN h5 (hn_data3.trans k4.1.symm)) k6.1) eh2) DnD.nil)
        have hr1 : RelD deV w5 (hs2.set j.toNat (v_el, F_el)) (data3.set j.toNat (data3.getD ((j - (1 : Int)).toNat) PV.nil)) := RelD.set k7 (RelD.one k8) j.toNat
        have nd1 : OrD (fun p => DnD deV hs_data data p) deV (hs2.set j.toNat (v_el, F_el)) (data3.set j.toNat (data3.getD ((j - (1 : Int)).toNat) PV.nil)) w.heap.size := fun p_ hp_ q_ => DnD.set (or2 p_ hp_ q_) (DnD.one (DnD.cons (DnD.at (or2 p_ hp_ q_) k6.1 (Nat.lt_of_lt_of_eq (iltN h4 (hn_data3.trans k4.1.symm)) k6.1) eh1) DnD.nil)) j.toNat
        have dj3 : DnD deV (hs2.set j.toNat (v_el, F_el)) (data3.set j.toNat (data3.getD ((j - (1 : Int)).toNat) PV.nil)) (blk A_data) := (DnD.set dj2 (DnD.one (DnD.cons (DnD.at dj2 k6.1 (Nat.lt_of_lt_of_eq (iltN h4 (hn_data3.trans k4.1.symm)) k6.1) eh1) DnD.nil)) j.toNat)
        obtain ⟨h7, H⟩ := H
        refine WJ.y rfl rfl (fun w' hw' => Yld.iaddrW tab_ok hO1.rd rfl rfl ((hn_data3.trans k4.1.symm).trans List.length_set.symm) rfl h7.1 h7.2) ?_
        refine WJ.eff rfl (Ef0.ostore (v := ((v_el2, F_el2) : VH)) one41 One.vv hO1 rfl rfl (iltN h7 ((hn_data3.trans k4.1.symm).trans List.length_set.symm))) (fun w' h => DD.past (by kernel_rfl)) ?_
        rintro w7 ⟨hO2, hg4⟩
        have gr5 : GrL [(blk A_data)] w w7 := GrL.mod gr4 hg4 (InP.mem (List.Mem.head _))
        have k10 := hr1.go hg4 dj3
        have k11 := k9.go hg4 (DnD.cons (DnD.at dj2 k6.1 (Nat.lt_of_lt_of_eq (iltN h5 (hn_data3.trans k4.1.symm)) k6.1) eh2) DnD.nil)
        have hr2 : RelD deV w7 ((hs2.set j.toNat (v_el, F_el)).set ((j - (1 : Int)).toNat) (v_el2, F_el2)) ((data3.set j.toNat (data3.getD ((j - (1 : Int)).toNat) PV.nil)).set ((j - (1 : Int)).toNat) (data3.getD j.toNat PV.nil)) := RelD.set k10 (RelD.one k11) ((j - (1 : Int)).toNat)
        have nd2 : OrD (fun p => DnD deV hs_data data p) deV ((hs2.set j.toNat (v_el, F_el)).set ((j - (1 : Int)).toNat) (v_el2, F_el2)) ((data3.set j.toNat (data3.getD ((j - (1 : Int)).toNat) PV.nil)).set ((j - (1 : Int)).toNat) (data3.getD j.toNat PV.nil)) w.heap.size := fun p_ hp_ q_ => DnD.set (nd1 p_ hp_ q_) (DnD.one (DnD.cons (DnD.at (or2 p_ hp_ q_) k6.1 (Nat.lt_of_lt_of_eq (iltN h5 (hn_data3.trans k4.1.symm)) k6.1) eh2) DnD.nil)) ((j - (1 : Int)).toNat)
        have dj4 : DnD deV ((hs2.set j.toNat (v_el, F_el)).set ((j - (1 : Int)).toNat) (v_el2, F_el2)) ((data3.set j.toNat (data3.getD ((j - (1 : Int)).toNat) PV.nil)).set ((j - (1 : Int)).toNat) (data3.getD j.toNat PV.nil)) (blk A_data) := (DnD.set dj3 (DnD.one (DnD.cons (DnD.at dj2 k6.1 (Nat.lt_of_lt_of_eq (iltN h5 (hn_data3.trans k4.1.symm)) k6.1) eh2) DnD.nil)) ((j - (1 : Int)).toNat))
        refine WJ.nil (WX.block_normal (WX.then_normal ?_))
        refine WC.region ?_
        refine WL.y rfl (Yld.pure tab_ok rfl) ?_
        obtain ⟨h8, H⟩ := H
        refine WL.y rfl (Yld.sub rfl rfl h8) ?_
        refine WL.y rfl (Yld.pure tab_ok rfl) ?_
        refine WL.nil ?_
        exact WX.roundF _ ⟨j - (1 : Int), (data3.set j.toNat (data3.getD ((j - (1 : Int)).toNat) PV.nil)).set ((j - (1 : Int)).toNat) (data3.getD j.toNat PV.nil), (hs2.set j.toNat (v_el, F_el)).set ((j - (1 : Int)).toNat) (v_el2, F_el2), rfl, rfl, H.1, ((((hn_data3.trans k4.1.symm).trans List.length_set.symm).trans List.length_set.symm).trans hr2.1), gr5, hO2, hr2, dj4, nd2⟩ (by repeat (first | exact Sub.nil | refine Sub.cons rfl ?_)) H.2
      · replace H := H.2 (b2)
        refine WC.exit (WX.then_exit (WX.then_exit (WX.block_same (WX.block_normal (WX.then_normal ?_)))))
        refine WC.region ?_
        refine WL.y rfl (Yld.pure tab_ok rfl) ?_
        obtain ⟨h9, H⟩ := H
        refine WL.y rfl (Yld.add rfl rfl h9) ?_
        refine WL.y rfl (Yld.pure tab_ok rfl) ?_
        refine WL.nil ?_
        exact WX.roundF _ ⟨i + (1 : Int), data3, hs2, rfl, rfl, H.1, ((hn_data3.trans k4.1.symm).trans k6.1), gr3, k5, k6, dj2, or2⟩ (by repeat (first | exact Sub.nil | refine Sub.cons rfl ?_)) H.2
    · clear hJ1
      rcases Bool.eq_false_or_eq_true (decide (a < j)) with b3 | b3
      · replace H := H.1 b3
        refine WJ.yw rfl (wants_some rfl rfl (okb b3)) rfl (fun w' hw' => Yld.pure tab_ok rfl) ?_
        refine WJ.yw rfl (wants_some rfl rfl (okb b3)) rfl (fun w' hw' => Yld.pure tab_ok rfl) ?_
        refine WJ.yw rfl (wants_some rfl rfl (okb b3)) rfl (fun w' hw' => Yld.pure tab_ok rfl) ?_
        obtain ⟨h10, H⟩ := H
        refine WJ.yw rfl (wants_some rfl rfl (okb b3)) rfl (fun w' hw' => Yld.iaddrW tab_ok k3.rd rfl rfl (hn_data3.trans k4.1.symm) rfl h10.1 h10.2) ?_
        obtain ⟨⟨v_el3, F_el3⟩, eh3, hR3⟩ := RelD.at k4 vh0 PV.nil (j := j.toNat) (Nat.lt_of_lt_of_eq (iltN h10 (hn_data3.trans k4.1.symm)) k4.1)
        have hv3 : RelD deV w2 [(v_el3, F_el3)] [data3.getD j.toNat PV.nil] := RelD.cons hR3 RelD.nil
        refine WJ.yw rfl (wants_some rfl rfl (okb b3)) rfl (fun w' hw' => Yld.to (v := v_el3.1) (Yld.iload vh0 tab_ok (hw' rfl) rfl rfl (iltN h10 (hn_data3.trans k4.1.symm))) (congrArg vv eh3)) ?_
        refine WJ.yw rfl (wants_some rfl rfl (okb b3)) rfl (fun w' hw' => Yld.pure tab_ok rfl) ?_
        refine WJ.yw rfl (wants_some rfl rfl (okb b3)) rfl (fun w' hw' => Yld.pure tab_ok rfl) ?_
        obtain ⟨h11, H⟩ := H
        refine WJ.yw rfl (wants_some rfl rfl (okb b3)) rfl (fun w' hw' => Yld.sub rfl rfl h11) ?_
        obtain ⟨h12, H⟩ := H
        refine WJ.yw rfl (wants_some rfl rfl (okb b3)) rfl (fun w' hw' => Yld.iaddrW tab_ok k3.rd rfl rfl (hn_data3.trans k4.1.symm) rfl h12.1 h12.2) ?_
        obtain ⟨⟨v_el4, F_el4⟩, eh4, hR4⟩ := RelD.at k4 vh0 PV.nil (j := (j - (1 : Int)).toNat) (Nat.lt_of_lt_of_eq (iltN h12 (hn_data3.trans k4.1.symm)) k4.1)
        have hv4 : RelD deV w2 [(v_el4, F_el4)] [data3.getD ((j - (1 : Int)).toNat) PV.nil] := RelD.cons hR4 RelD.nil
        refine WJ.yw rfl (wants_some rfl rfl (okb b3)) rfl (fun w' hw' => Yld.to (v := v_el4.1) (Yld.iload vh0 tab_ok (hw' rfl) rfl rfl (iltN h12 (hn_data3.trans k4.1.symm))) (congrArg vv eh4)) ?_
        refine WJ.callvw rfl (wants_some rfl rfl (okb b3)) rfl rfl rfl (W_list_Sorted_1 (hG.goL gr2 hP).ok hS3 hS7 hv3 hv4 (hcap0.goL gr2 hap1) (hcap1.goL gr2 hap2) H) (fun v w' h w2 e => DD.keep (Rd.grown k3.rd (gr_eqv h.1 e))) ?_
        rintro _ w8 ⟨hg5, t32, rfl, H⟩
        have gr6 := GrL.add0 gr2 hg5
        have k12 := k3.grown hg5
        have k13 := k4.grown hg5
        have k14 := hv3.grown hg5
        have k15 := hv4.grown hg5
        refine WJ.yw rfl (wants_some rfl rfl (okb b3)) rfl (fun w' hw' => Yld.pure tab_ok rfl) ?_
        refine WJ.y rfl rfl (fun w' hw' => Yld.pickT (okb b3) rfl) ?_
        exact WJ.weaken (by repeat (first | exact Sub.nil | refine Sub.cons rfl ?_)) (hQ _ _ ⟨decide (t32 < (0 : Int)), rfl, H, gr6, k12, k13⟩)
      · replace H := H.2 b3
        refine WJ.no rfl rfl (okb b3) rfl ?_
        refine WJ.no rfl rfl (okb b3) rfl ?_
        refine WJ.no rfl rfl (okb b3) rfl ?_
        refine WJ.no rfl rfl (okb b3) rfl ?_
        refine WJ.no rfl rfl (okb b3) rfl ?_
        refine WJ.no rfl rfl (okb b3) rfl ?_
        refine WJ.no rfl rfl (okb b3) rfl ?_
        refine WJ.no rfl rfl (okb b3) rfl ?_
        refine WJ.no rfl rfl (okb b3) rfl ?_
        refine WJ.no rfl rfl (okb b3) rfl ?_
        refine WJ.no rfl rfl (okb b3) rfl ?_
        refine WJ.no rfl rfl (okb b3) rfl ?_
        refine WJ.y rfl rfl (fun w' hw' => Yld.pickF (okb b3) rfl) ?_
        exact WJ.weaken (by repeat (first | exact Sub.nil | refine Sub.cons rfl ?_)) (hQ _ _ ⟨false, rfl, H, gr2, k3, k4⟩)
  · replace H := H.2 (of_decide_eq_false b1)
    refine WC.exit (WX.then_exit (WX.then_exit (WX.block_same ?_)))
    exact WX.end0 rfl ⟨gr1, data2, hs, rfl, k1, (hn_data2.trans k2.1.symm).symm, k2, (fun p_ hp_ v0_ => or1 p_ hp_ v0_), dj1, H⟩

set_option maxHeartbeats 8000000 in
theorem W_slices_swapRangeCmpFunc_val_Value_list_Sorted_1 {w : World} {data : List PV} {A_data : Option Addr} {c_data : Nat} {hs_data : List VH} {a : Int} {b : Int} {n : Int} {g_cap0 : Nat} {cap0 : Bool} {g_cap1 : Nat} {cap1 : Bool} {n_data : Nat} {K : (List PV) → Prop} (hdata : Own vv w 0 41 A_data c_data hs_data) (hn_data : n_data = data.length) (hr_data : RelD deV w hs_data data) (hcap0 : Bl w g_cap0 4 [.bool cap0]) (hcap1 : Bl w g_cap1 4 [.bool cap1]) (hap0 : AllP (DnD deV hs_data data) [(blk A_data)]) (hap1 : AllP (Dj (some g_cap0)) [(blk A_data)]) (hap2 : AllP (Dj (some g_cap1)) [(blk A_data)]) (H : M_slices_swapRangeCmpFunc_val_Value_list_Sorted_1 data a b n cap0 cap1 K) : Fn Tryd.prog 89 ⟨[.slice A_data n_data c_data, .int .i64 a, .int .i64 b, .int .i64 n, .func (.func 39) #[] #[.pointer (some ⟨g_cap0, 0, none⟩), .pointer (some ⟨g_cap1, 0, none⟩)]]⟩ w (fun v w' => GrL [(blk A_data)] w w' ∧ ∃ (ys : List PV), ∃ (hs_ys : List VH), v = .tuple #[] ∧ Own vv w' 0 41 A_data c_data hs_ys ∧ hs_ys.length = data.length ∧ RelD deV w' hs_ys ys ∧ (∀ p : Option Nat, Lt p w.heap.size → DnD deV hs_data data p → DnD deV hs_ys ys p) ∧ DnD deV hs_ys ys (blk A_data) ∧ K ys) := by
  subst hn_data
  unfold M_slices_swapRangeCmpFunc_val_Value_list_Sorted_1 at H
  refine Fn.enter (by kernel_rfl) Tryd.func89 rfl Tryd.ntmps89 rfl ?_
  replace H := H (by rw [← hr_data.1]; exact Nat.le_trans hdata.rd.cap hdata.rd.max)
  have hNoAt : AllP (NoAt w) [(blk A_data)] := (apC (NoAt.own hdata rfl) apN)
  refine WC.seq ?_
  refine WC.region ?_
  refine WL.y rfl (Yld.pure tab_ok rfl) ?_
  refine WL.nil (WX.then_normal ?_)
  refine WC.block ?_
  obtain ⟨I1, mu1, h0_1, HR1⟩ := H
  refine WC.loopF (fun n' L' w' => ∃ (i : Int), ∃ (data2 : List PV), ∃ (hs : List VH), n' = mu1 i data2 ∧ L' = [(0, .slice A_data data.length c_data), (1, .int .i64 a), (2, .int .i64 b), (3, .int .i64 n), (10, .int .i64 i)] ∧ I1 i data2 ∧ data.length = data2.length ∧ GrL [(blk A_data)] w w' ∧ Own vv w' 0 41 A_data c_data hs ∧ RelD deV w' hs data2 ∧ DnD deV hs data2 (blk A_data) ∧ OrD (fun p => DnD deV hs_data data p) deV hs data2 w.heap.size) _ _ ⟨(0 : Int), data, hs_data, rfl, rfl, h0_1, rfl, (GrL.refl _), hdata, hr_data, (hap0 _ (List.Mem.head _)), (fun p_ hp_ q_ => q_)⟩ (by repeat (first | exact Sub.nil | refine Sub.cons rfl ?_)) ?_
  clear h0_1
  rintro _ _ w1 ⟨i, data2, hs, rfl, rfl, hI1, hn_data2, gr1, k1, k2, dj1, or1⟩
  have H := HR1 i data2 hI1
  replace H := H hn_data2
  refine WC.seq ?_
  refine WC.seq ?_
  refine WC.region ?_
  refine WL.y rfl (Yld.pure tab_ok rfl) ?_
  refine WL.y rfl (Yld.pure tab_ok rfl) ?_
  refine WL.y rfl (Yld.pure tab_ok rfl) ?_
  refine WL.nil (WX.then_normal ?_)
  refine WC.cond rfl (fun b1 => ?_) (fun b1 => ?_)
  · replace H := H.1 (of_decide_eq_true b1)
    refine WC.skip (WX.then_normal ?_)
    refine WC.seq ?_
    refine WC.block ?_
    refine WC.chainF (fun k => !(Nat.beq k 21 || Nat.beq k 23)) (LD [13, 19] (fun w' => Rd vv w' A_data c_data hs)) mixed (by kernel_rfl) (fun k w' h _ => (rd_eqv h k1.rd)) ?_
    refine WJ.y rfl rfl (fun w' hw' => Yld.pure tab_ok rfl) ?_
    refine WJ.y rfl rfl (fun w' hw' => Yld.pure tab_ok rfl) ?_
    refine WJ.y rfl rfl (fun w' hw' => Yld.pure tab_ok rfl) ?_
    obtain ⟨h1, H⟩ := H
    refine WJ.y rfl rfl (fun w' hw' => Yld.add rfl rfl h1) ?_
    refine WJ.y rfl rfl (fun w' hw' => Yld.pure tab_ok rfl) ?_
    refine WJ.y rfl rfl (fun w' hw' => Yld.pure tab_ok rfl) ?_
    refine WJ.y rfl rfl (fun w' hw' => Yld.pure tab_ok rfl) ?_
    obtain ⟨h2, H⟩ := H
    refine WJ.y rfl rfl (fun w' hw' => Yld.add rfl rfl h2) ?_
    refine WJ.y rfl rfl (fun w' hw' => Yld.pure tab_ok rfl) ?_
    refine WJ.y rfl rfl (fun w' hw' => Yld.pure tab_ok rfl) ?_
    refine WJ.y rfl rfl (fun w' hw' => Yld.pure tab_ok rfl) ?_
    obtain ⟨h3, H⟩ := H
    refine WJ.y rfl rfl (fun w' hw' => Yld.add rfl rfl h3) ?_
    obtain ⟨h4, H⟩ := H
    refine WJ.y rfl rfl (fun w' hw' => Yld.iaddrW tab_ok k1.rd rfl rfl (hn_data2.trans k2.1.symm) rfl h4.1 h4.2) ?_
    obtain ⟨⟨v_el, F_el⟩, eh1, hR1⟩ := RelD.at k2 vh0 PV.nil (j := (b + i).toNat) (Nat.lt_of_lt_of_eq (iltN h4 (hn_data2.trans k2.1.symm)) k2.1)
    have hv1 : RelD deV w1 [(v_el, F_el)] [data2.getD ((b + i).toNat) PV.nil] := RelD.cons hR1 RelD.nil
    refine WJ.y rfl rfl (fun w' hw' => Yld.to (v := v_el.1) (Yld.iload vh0 tab_ok (hw' rfl) rfl rfl (iltN h4 (hn_data2.trans k2.1.symm))) (congrArg vv eh1)) ?_
    refine WJ.y rfl rfl (fun w' hw' => Yld.pure tab_ok rfl) ?_
    refine WJ.y rfl rfl (fun w' hw' => Yld.pure tab_ok rfl) ?_
    refine WJ.y rfl rfl (fun w' hw' => Yld.pure tab_ok rfl) ?_
    obtain ⟨h5, H⟩ := H
    refine WJ.y rfl rfl (fun w' hw' => Yld.add rfl rfl h5) ?_
    obtain ⟨h6, H⟩ := H
    refine WJ.y rfl rfl (fun w' hw' => Yld.iaddrW tab_ok k1.rd rfl rfl (hn_data2.trans k2.1.symm) rfl h6.1 h6.2) ?_
    obtain ⟨⟨v_el2, F_el2⟩, eh2, hR2⟩ := RelD.at k2 vh0 PV.nil (j := (a + i).toNat) (Nat.lt_of_lt_of_eq (iltN h6 (hn_data2.trans k2.1.symm)) k2.1)
    have hv2 : RelD deV w1 [(v_el2, F_el2)] [data2.getD ((a + i).toNat) PV.nil] := RelD.cons hR2 RelD.nil
    refine WJ.y rfl rfl (fun w' hw' => Yld.to (v := v_el2.1) (Yld.iload vh0 tab_ok (hw' rfl) rfl rfl (iltN h6 (hn_data2.trans k2.1.symm))) (congrArg vv eh2)) ?_
    obtain ⟨h7, H⟩ := H
    refine WJ.y rfl rfl (fun w' hw' => Yld.iaddrW tab_ok k1.rd rfl rfl (hn_data2.trans k2.1.symm) rfl h7.1 h7.2) ?_
    refine WJ.eff rfl (Ef0.ostore (v := ((v_el, F_el) : VH)) one41 One.vv k1 rfl rfl (iltN h7 (hn_data2.trans k2.1.symm))) (fun w' h => DD.past (by kernel_rfl)) ?_
    rintro w3 ⟨hO1, hg2⟩
    have gr2 : GrL [(blk A_data)] w w3 := GrL.mod gr1 hg2 (InP.mem (List.Mem.head _))
    have k3 := k2.go hg2 dj1
    have k4 := hv1.go hg2 (DnD.cons (DnD.at dj1 k2.1 (Nat.lt_of_lt_of_eq (iltN h4 (hn_data2.trans k2.1.symm)) k2.1) eh1) DnD.nil)
    have k5 := hv2.go hg2 (DnD.cons (DnD.at dj1 k2.1 (Nat.lt_of_lt_of_eq (iltN h6 (hn_data2.trans k2.1.symm)) k2.1) eh2) DnD.nil)
    have hr1 : RelD deV w3 (hs.set ((a + i).toNat) (v_el, F_el)) (data2.set ((a + i).toNat) (data2.getD ((b + i).toNat) PV.nil)) := RelD.set k3 (RelD.one k4) ((a + i).toNat)
    have nd1 : OrD (fun p => DnD deV hs_data data p) deV (hs.set ((a + i).toNat) (v_el, F_el)) (data2.set ((a + i).toNat) (data2.getD ((b + i).toNat) PV.nil)) w.heap.size := fun p_ hp_ q_ => DnD.set (or1 p_ hp_ q_) (DnD.one (DnD.cons (DnD.at (or1 p_ hp_ q_) k2.1 (Nat.lt_of_lt_of_eq (iltN h4 (hn_data2.trans k2.1.symm)) k2.1) eh1) DnD.nil)) ((a + i).toNat)
    have dj2 : DnD deV (hs.set ((a + i).toNat) (v_el, F_el)) (data2.set ((a + i).toNat) (data2.getD ((b + i).toNat) PV.nil)) (blk A_data) := (DnD.set dj1 (DnD.one (DnD.cons (DnD.at dj1 k2.1 (Nat.lt_of_lt_of_eq (iltN h4 (hn_data2.trans k2.1.symm)) k2.1) eh1) DnD.nil)) ((a + i).toNat))
    obtain ⟨h8, H⟩ := H
    refine WJ.y rfl rfl (fun w' hw' => Yld.iaddrW tab_ok hO1.rd rfl rfl ((hn_data2.trans k2.1.symm).trans List.length_set.symm) rfl h8.1 h8.2) ?_
    refine WJ.eff rfl (Ef0.ostore (v := ((v_el2, F_el2) : VH)) one41 One.vv hO1 rfl rfl (iltN h8 ((hn_data2.trans k2.1.symm).trans List.length_set.symm))) (fun w' h => DD.past (by kernel_rfl)) ?_
    rintro w5 ⟨hO2, hg4⟩
    have gr3 : GrL [(blk A_data)] w w5 := GrL.mod gr2 hg4 (InP.mem (List.Mem.head _))
    have k6 := hr1.go hg4 dj2
    have k7 := k5.go hg4 (DnD.cons (DnD.at dj1 k2.1 (Nat.lt_of_lt_of_eq (iltN h6 (hn_data2.trans k2.1.symm)) k2.1) eh2) DnD.nil)
    have hr2 : RelD deV w5 ((hs.set ((a + i).toNat) (v_el, F_el)).set ((b + i).toNat) (v_el2, F_el2)) ((data2.set ((a + i).toNat) (data2.getD ((b + i).toNat) PV.nil)).set ((b + i).toNat) (data2.getD ((a + i).toNat) PV.nil)) := RelD.set k6 (RelD.one k7) ((b + i).toNat)
    have nd2 : OrD (fun p => DnD deV hs_data data p) deV ((hs.set ((a + i).toNat) (v_el, F_el)).set ((b + i).toNat) (v_el2, F_el2)) ((data2.set ((a + i).toNat) (data2.getD ((b + i).toNat) PV.nil)).set ((b + i).toNat) (data2.getD ((a + i).toNat) PV.nil)) w.heap.size := fun p_ hp_ q_ => DnD.set (nd1 p_ hp_ q_) (DnD.one (DnD.cons (DnD.at (or1 p_ hp_ q_) k2.1 (Nat.lt_of_lt_of_eq (iltN h6 (hn_data2.trans k2.1.symm)) k2.1) eh2) DnD.nil)) ((b + i).toNat)
    have dj3 : DnD deV ((hs.set ((a + i).toNat) (v_el, F_el)).set ((b + i).toNat) (v_el2, F_el2)) ((data2.set ((a + i).toNat) (data2.getD ((b + i).toNat) PV.nil)).set ((b + i).toNat) (data2.getD ((a + i).toNat) PV.nil)) (blk A_data) := (DnD.set dj2 (DnD.one (DnD.cons (DnD.at dj1 k2.1 (Nat.lt_of_lt_of_eq (iltN h6 (hn_data2.trans k2.1.symm)) k2.1) eh2) DnD.nil)) ((b + i).toNat))
    refine WJ.nil (WX.block_normal (WX.then_normal ?_))
    refine WC.region ?_
    refine WL.y rfl (Yld.pure tab_ok rfl) ?_
    obtain ⟨h9, H⟩ := H
    refine WL.y rfl (Yld.add rfl rfl h9) ?_
    refine WL.y rfl (Yld.pure tab_ok rfl) ?_
    refine WL.nil ?_
    exact WX.roundF _ ⟨i + (1 : Int), (data2.set ((a + i).toNat) (data2.getD ((b + i).toNat) PV.nil)).set ((b + i).toNat) (data2.getD ((a + i).toNat) PV.nil), (hs.set ((a + i).toNat) (v_el, F_el)).set ((b + i).toNat) (v_el2, F_el2), rfl, rfl, H.1, ((((hn_data2.trans k2.1.symm).trans List.length_set.symm).trans List.length_set.symm).trans hr2.1), gr3, hO2, hr2, dj3, nd2⟩ (by repeat (first | exact Sub.nil | refine Sub.cons rfl ?_)) H.2
  · replace H := H.2 (of_decide_eq_false b1)
    refine WC.exit (WX.then_exit (WX.then_exit (WX.block_same ?_)))
    exact WX.end0 rfl ⟨gr1, data2, hs, rfl, k1, (hn_data2.trans k2.1.symm).symm, k2, (fun p_ hp_ v0_ => or1 p_ hp_ v0_), dj1, H⟩

set_option maxHeartbeats 8000000 in
theorem W_slices_rotateCmpFunc_val_Value_list_Sorted_1 {w : World} {data : List PV} {A_data : Option Addr} {c_data : Nat} {hs_data : List VH} {a : Int} {m : Int} {b : Int} {g_cap0 : Nat} {cap0 : Bool} {g_cap1 : Nat} {cap1 : Bool} {n_data : Nat} {K : (List PV) → Prop} (hdata : Own vv w 0 41 A_data c_data hs_data) (hn_data : n_data = data.length) (hr_data : RelD deV w hs_data data) (hcap0 : Bl w g_cap0 4 [.bool cap0]) (hcap1 : Bl w g_cap1 4 [.bool cap1]) (hap0 : AllP (DnD deV hs_data data) [(blk A_data)]) (hap1 : AllP (Dj (some g_cap0)) [(blk A_data)]) (hap2 : AllP (Dj (some g_cap1)) [(blk A_data)]) (H : M_slices_rotateCmpFunc_val_Value_list_Sorted_1 data a m b cap0 cap1 K) : Fn Tryd.prog 80 ⟨[.slice A_data n_data c_data, .int .i64 a, .int .i64 m, .int .i64 b, .func (.func 39) #[] #[.pointer (some ⟨g_cap0, 0, none⟩), .pointer (some ⟨g_cap1, 0, none⟩)]]⟩ w (fun v w' => GrL [(blk A_data)] w w' ∧ ∃ (ys4 : List PV), ∃ (hs_ys4 : List VH), v = .tuple #[] ∧ Own vv w' 0 41 A_data c_data hs_ys4 ∧ hs_ys4.length = data.length ∧ RelD deV w' hs_ys4 ys4 ∧ (∀ p : Option Nat, Lt p w.heap.size → DnD deV hs_data data p → DnD deV hs_ys4 ys4 p) ∧ DnD deV hs_ys4 ys4 (blk A_data) ∧ K ys4) := by
  subst hn_data
  unfold M_slices_rotateCmpFunc_val_Value_list_Sorted_1 at H
  refine Fn.enter (by kernel_rfl) Tryd.func80 rfl Tryd.ntmps80 rfl ?_
  replace H := H (by rw [← hr_data.1]; exact Nat.le_trans hdata.rd.cap hdata.rd.max)
  have hNoAt : AllP (NoAt w) [(blk A_data)] := (apC (NoAt.own hdata rfl) apN)
  refine WC.seq ?_
  refine WC.region ?_
  refine WL.y rfl (Yld.pure tab_ok rfl) ?_
  refine WL.y rfl (Yld.pure tab_ok rfl) ?_
  obtain ⟨h1, H⟩ := H
  refine WL.y rfl (Yld.sub rfl rfl h1) ?_
  refine WL.y rfl (Yld.pure tab_ok rfl) ?_
  refine WL.nil (WX.then_normal ?_)
  refine WC.seq ?_
  refine WC.region ?_
  refine WL.y rfl (Yld.pure tab_ok rfl) ?_
  refine WL.y rfl (Yld.pure tab_ok rfl) ?_
  obtain ⟨h2, H⟩ := H
  refine WL.y rfl (Yld.sub rfl rfl h2) ?_
  refine WL.y rfl (Yld.pure tab_ok rfl) ?_
  refine WL.nil (WX.then_normal ?_)
  refine WC.seq ?_
  refine WC.block ?_
  obtain ⟨I1, mu1, h0_1, HR1⟩ := H
  refine WC.loopF (fun n' L' w' => ∃ (i : Int), ∃ (j : Int), ∃ (data2 : List PV), ∃ (hs : List VH), n' = mu1 i j data2 ∧ L' = [(0, .slice A_data data.length c_data), (2, .int .i64 m), (4, .func (.func 39) #[] #[.pointer (some ⟨g_cap0, 0, none⟩), .pointer (some ⟨g_cap1, 0, none⟩)]), (10, .int .i64 i), (11, .int .i64 j)] ∧ I1 i j data2 ∧ data.length = data2.length ∧ GrL [(blk A_data)] w w' ∧ Own vv w' 0 41 A_data c_data hs ∧ RelD deV w' hs data2 ∧ DnD deV hs data2 (blk A_data) ∧ OrD (fun p => DnD deV hs_data data p) deV hs data2 w.heap.size) _ _ ⟨m - a, b - m, data, hs_data, rfl, rfl, h0_1, rfl, (GrL.refl _), hdata, hr_data, (hap0 _ (List.Mem.head _)), (fun p_ hp_ q_ => q_)⟩ (by repeat (first | exact Sub.nil | refine Sub.cons rfl ?_)) ?_
  clear h0_1
  rintro _ _ w1 ⟨i, j, data2, hs, rfl, rfl, hI1, hn_data2, gr1, k1, k2, dj1, or1⟩
  have H := HR1 i j data2 hI1
  replace H := H hn_data2
  refine WC.seq ?_
  refine WC.seq ?_
  refine WC.region ?_
  refine WL.y rfl (Yld.pure tab_ok rfl) ?_
  refine WL.y rfl (Yld.pure tab_ok rfl) ?_
  refine WL.y rfl (Yld.pure tab_ok rfl) ?_
  refine WL.nil (WX.then_normal ?_)
  refine WC.cond rfl (fun b1 => ?_) (fun b1 => ?_)
  · replace H := H.1 (nd_true b1)
    refine WC.skip (WX.then_normal ?_)
    refine WC.block ?_
    refine WC.seq ?_
    refine WC.region ?_
    refine WL.y rfl (Yld.pure tab_ok rfl) ?_
    refine WL.y rfl (Yld.pure tab_ok rfl) ?_
    refine WL.y rfl (Yld.pure tab_ok rfl) ?_
    refine WL.nil (WX.then_normal ?_)
    refine WC.cond rfl (fun b2 => ?_) (fun b2 => ?_)
    · replace H := H.1 (of_decide_eq_true b2)
      refine WC.seq ?_
      refine WC.region ?_
      refine WL.y rfl (Yld.pure tab_ok rfl) ?_
      refine WL.y rfl (Yld.pure tab_ok rfl) ?_
      refine WL.y rfl (Yld.pure tab_ok rfl) ?_
      obtain ⟨h3, H⟩ := H
      refine WL.y rfl (Yld.sub rfl rfl h3) ?_
      refine WL.y rfl (Yld.pure tab_ok rfl) ?_
      refine WL.y rfl (Yld.pure tab_ok rfl) ?_
      refine WL.y rfl (Yld.pure tab_ok rfl) ?_
      refine WL.call rfl rfl (W_slices_swapRangeCmpFunc_val_Value_list_Sorted_1 k1 ((hn_data2.trans k2.1.symm).trans k2.1) k2 (hcap0.goL gr1 hap1) (hcap1.goL gr1 hap2) (apC dj1 apN) (apC (InP.dj (InP.mem (List.Mem.head _)) hcap0.lt' hap1).symm apN) (apC (InP.dj (InP.mem (List.Mem.head _)) hcap1.lt' hap2).symm apN) H) ?_
      rintro _ w2 ⟨hgl1, ys, hs_ys, rfl, hO1, hl1, hr1, ho1, dj2, H⟩
      have gr2 : GrL [(blk A_data)] w w2 := GrL.modL gr1 hgl1 (apC (InP.mem (List.Mem.head _)) apN)
      have k3 := k2.goL hgl1 (apC dj1 apN)
      refine WL.nil (WX.then_normal ?_)
      refine WC.region ?_
      refine WL.y rfl (Yld.pure tab_ok rfl) ?_
      refine WL.y rfl (Yld.pure tab_ok rfl) ?_
      obtain ⟨h4, H⟩ := H
      refine WL.y rfl (Yld.sub rfl rfl h4) ?_
      refine WL.y rfl (Yld.pure tab_ok rfl) ?_
      refine WL.nil (WX.block_normal ?_)
      exact WX.roundF _ ⟨i - j, j, ys, hs_ys, rfl, rfl, H.1, (((hn_data2.trans k2.1.symm).trans (k2.1.trans hl1.symm)).trans hr1.1), gr2, hO1, hr1, dj2, (fun p_ hp_ q_ => ho1 p_ (fun g_ e_ => Nat.lt_of_lt_of_le (hp_ g_ e_) (GrL.sizeL gr1)) (or1 p_ hp_ q_))⟩ (by repeat (first | exact Sub.nil | refine Sub.cons rfl ?_)) H.2
    · replace H := H.2 (of_decide_eq_false b2)
      refine WC.seq ?_
      refine WC.region ?_
      refine WL.y rfl (Yld.pure tab_ok rfl) ?_
      refine WL.y rfl (Yld.pure tab_ok rfl) ?_
      refine WL.y rfl (Yld.pure tab_ok rfl) ?_
      obtain ⟨h5, H⟩ := H
      refine WL.y rfl (Yld.sub rfl rfl h5) ?_
      refine WL.y rfl (Yld.pure tab_ok rfl) ?_
      refine WL.y rfl (Yld.pure tab_ok rfl) ?_
      obtain ⟨h6, H⟩ := H
      refine WL.y rfl (Yld.add rfl rfl h6) ?_
      refine WL.y rfl (Yld.pure tab_ok rfl) ?_
      obtain ⟨h7, H⟩ := H
      refine WL.y rfl (Yld.sub rfl rfl h7) ?_
      refine WL.y rfl (Yld.pure tab_ok rfl) ?_
      refine WL.y rfl (Yld.pure tab_ok rfl) ?_
      refine WL.call rfl rfl (W_slices_swapRangeCmpFunc_val_Value_list_Sorted_1 k1 ((hn_data2.trans k2.1.symm).trans k2.1) k2 (hcap0.goL gr1 hap1) (hcap1.goL gr1 hap2) (apC dj1 apN) (apC (InP.dj (InP.mem (List.Mem.head _)) hcap0.lt' hap1).symm apN) (apC (InP.dj (InP.mem (List.Mem.head _)) hcap1.lt' hap2).symm apN) H) ?_
      rintro _ w3 ⟨hgl2, ys2, hs_ys2, rfl, hO2, hl2, hr2, ho2, dj3, H⟩
      have gr3 : GrL [(blk A_data)] w w3 := GrL.modL gr1 hgl2 (apC (InP.mem (List.Mem.head _)) apN)
      have k4 := k2.goL hgl2 (apC dj1 apN)
      refine WL.nil (WX.then_normal ?_)
      refine WC.region ?_
      refine WL.y rfl (Yld.pure tab_ok rfl) ?_
      refine WL.y rfl (Yld.pure tab_ok rfl) ?_
      obtain ⟨h8, H⟩ := H
      refine WL.y rfl (Yld.sub rfl rfl h8) ?_
      refine WL.y rfl (Yld.pure tab_ok rfl) ?_
      refine WL.nil (WX.block_normal ?_)
      exact WX.roundF _ ⟨i, j - i, ys2, hs_ys2, rfl, rfl, H.1, (((hn_data2.trans k2.1.symm).trans (k2.1.trans hl2.symm)).trans hr2.1), gr3, hO2, hr2, dj3, (fun p_ hp_ q_ => ho2 p_ (fun g_ e_ => Nat.lt_of_lt_of_le (hp_ g_ e_) (GrL.sizeL gr1)) (or1 p_ hp_ q_))⟩ (by repeat (first | exact Sub.nil | refine Sub.cons rfl ?_)) H.2
  · replace H := H.2 (nd_false b1)
    refine WC.exit (WX.then_exit (WX.then_exit (WX.block_same (WX.then_normal ?_))))
    refine WC.region ?_
    refine WL.y rfl (Yld.pure tab_ok rfl) ?_
    refine WL.y rfl (Yld.pure tab_ok rfl) ?_
    refine WL.y rfl (Yld.pure tab_ok rfl) ?_
    obtain ⟨h9, H⟩ := H
    refine WL.y rfl (Yld.sub rfl rfl h9) ?_
    refine WL.y rfl (Yld.pure tab_ok rfl) ?_
    refine WL.y rfl (Yld.pure tab_ok rfl) ?_
    refine WL.y rfl (Yld.pure tab_ok rfl) ?_
    refine WL.call rfl rfl (W_slices_swapRangeCmpFunc_val_Value_list_Sorted_1 k1 ((hn_data2.trans k2.1.symm).trans k2.1) k2 (hcap0.goL gr1 hap1) (hcap1.goL gr1 hap2) (apC dj1 apN) (apC (InP.dj (InP.mem (List.Mem.head _)) hcap0.lt' hap1).symm apN) (apC (InP.dj (InP.mem (List.Mem.head _)) hcap1.lt' hap2).symm apN) H) ?_
    rintro _ w4 ⟨hgl3, ys3, hs_ys3, rfl, hO3, hl3, hr3, ho3, dj4, H⟩
    have gr4 : GrL [(blk A_data)] w w4 := GrL.modL gr1 hgl3 (apC (InP.mem (List.Mem.head _)) apN)
    have k5 := k2.goL hgl3 (apC dj1 apN)
    refine WL.nil ?_
    exact WX.end0 rfl ⟨gr4, ys3, hs_ys3, rfl, hO3, ((hn_data2.trans k2.1.symm).trans (k2.1.trans hl3.symm)).symm, hr3, (fun p_ hp_ v0_ => have q_ := v0_; ho3 p_ (fun g_ e_ => Nat.lt_of_lt_of_le (hp_ g_ e_) (GrL.sizeL gr1)) (or1 p_ hp_ q_)), dj4, H⟩

set_option maxHeartbeats 8000000 in
theorem W_slices_symMergeCmpFunc_val_Value_list_Sorted_1_step {S : List Nat} {B : Nat} {MR : (List PV) → Int → Int → Int → Bool → Bool → ((List PV) → Prop) → Prop} (WR : ∀ {B : Nat} {w : World} {data : List PV} {A_data : Option Addr} {c_data : Nat} {hs_data : List VH} {a : Int} {m : Int} {b : Int} {g_cap0 : Nat} {cap0 : Bool} {g_cap1 : Nat} {cap1 : Bool} {n_data : Nat} {K : (List PV) → Prop} (hG : GB S B w) (hB : B ≤ w.heap.size) (hP : AllP (fun p => Ge p B) [(blk A_data)]) (hS3 : 3 ∈ S) (hS7 : 7 ∈ S) (hdata : Own vv w 0 41 A_data c_data hs_data) (hn_data : n_data = data.length) (hr_data : RelD deV w hs_data data) (hcap0 : Bl w g_cap0 4 [.bool cap0]) (hcap1 : Bl w g_cap1 4 [.bool cap1]) (hap0 : AllP (DnD deV hs_data data) [(blk A_data)]) (hap1 : AllP (Dj (some g_cap0)) [(blk A_data)]) (hap2 : AllP (Dj (some g_cap1)) [(blk A_data)]) (H : MR data a m b cap0 cap1 K), Fn Tryd.prog 73 ⟨[.slice A_data n_data c_data, .int .i64 a, .int .i64 m, .int .i64 b, .func (.func 39) #[] #[.pointer (some ⟨g_cap0, 0, none⟩), .pointer (some ⟨g_cap1, 0, none⟩)]]⟩ w (fun v w' => GrL [(blk A_data)] w w' ∧ ∃ (ys4 : List PV), ∃ (hs_ys4 : List VH), v = .tuple #[] ∧ Own vv w' 0 41 A_data c_data hs_ys4 ∧ hs_ys4.length = data.length ∧ RelD deV w' hs_ys4 ys4 ∧ (∀ p : Option Nat, Lt p w.heap.size → DnD deV hs_data data p → DnD deV hs_ys4 ys4 p) ∧ DnD deV hs_ys4 ys4 (blk A_data) ∧ K ys4)) {w : World} {data : List PV} {A_data : Option Addr} {c_data : Nat} {hs_data : List VH} {a : Int} {m : Int} {b : Int} {g_cap0 : Nat} {cap0 : Bool} {g_cap1 : Nat} {cap1 : Bool} {n_data : Nat} {K : (List PV) → Prop} (hG : GB S B w) (hB : B ≤ w.heap.size) (hP : AllP (fun p => Ge p B) [(blk A_data)]) (hS3 : 3 ∈ S) (hS7 : 7 ∈ S) (hdata : Own vv w 0 41 A_data c_data hs_data) (hn_data : n_data = data.length) (hr_data : RelD deV w hs_data data) (hcap0 : Bl w g_cap0 4 [.bool cap0]) (hcap1 : Bl w g_cap1 4 [.bool cap1]) (hap0 : AllP (DnD deV hs_data data) [(blk A_data)]) (hap1 : AllP (Dj (some g_cap0)) [(blk A_data)]) (hap2 : AllP (Dj (some g_cap1)) [(blk A_data)]) (H : M_slices_symMergeCmpFunc_val_Value_list_Sorted_1_step MR data a m b cap0 cap1 K) : Fn Tryd.prog 73 ⟨[.slice A_data n_data c_data, .int .i64 a, .int .i64 m, .int .i64 b, .func (.func 39) #[] #[.pointer (some ⟨g_cap0, 0, none⟩), .pointer (some ⟨g_cap1, 0, none⟩)]]⟩ w (fun v w' => GrL [(blk A_data)] w w' ∧ ∃ (ys4 : List PV), ∃ (hs_ys4 : List VH), v = .tuple #[] ∧ Own vv w' 0 41 A_data c_data hs_ys4 ∧ hs_ys4.length = data.length ∧ RelD deV w' hs_ys4 ys4 ∧ (∀ p : Option Nat, Lt p w.heap.size → DnD deV hs_data data p → DnD deV hs_ys4 ys4 p) ∧ DnD deV hs_ys4 ys4 (blk A_data) ∧ K ys4) := by
  subst hn_data
  unfold M_slices_symMergeCmpFunc_val_Value_list_Sorted_1_step at H
  refine Fn.enter (by kernel_rfl) Tryd.func73 rfl Tryd.ntmps73 rfl ?_
  replace H := H (by rw [← hr_data.1]; exact Nat.le_trans hdata.rd.cap hdata.rd.max)
  have hNoAt : AllP (NoAt w) [(blk A_data)] := (apC (NoAt.own hdata rfl) apN)
  refine WC.seq ?_
  refine WC.seq ?_
  refine WC.region ?_
  refine WL.y rfl (Yld.pure tab_ok rfl) ?_
  refine WL.y rfl (Yld.pure tab_ok rfl) ?_
  obtain ⟨h1, H⟩ := H
  refine WL.y rfl (Yld.sub rfl rfl h1) ?_
  refine WL.y rfl (Yld.pure tab_ok rfl) ?_
  refine WL.nil (WX.then_normal ?_)
  refine WC.cond rfl (fun b1 => ?_) (fun b1 => ?_)
  · replace H := H.1 (of_decide_eq_true b1)
    refine WC.seq ?_
    refine WC.region ?_
    refine WL.y rfl (Yld.pure tab_ok rfl) ?_
    refine WL.y rfl (Yld.pure tab_ok rfl) ?_
    refine WL.nil (WX.then_normal ?_)
    refine WC.seq ?_
    refine WC.region ?_
    refine WL.y rfl (Yld.pure tab_ok rfl) ?_
    refine WL.y rfl (Yld.pure tab_ok rfl) ?_
    refine WL.nil (WX.then_normal ?_)
    refine WC.seq ?_
    refine WC.block ?_
    obtain ⟨I1, mu1, h0_1, HR1⟩ := H
    refine WC.loopF (fun n' L' w' => ∃ (i : Int), ∃ (j : Int), n' = mu1 i j ∧ L' = [(0, .slice A_data data.length c_data), (1, .int .i64 a), (4, .func (.func 39) #[] #[.pointer (some ⟨g_cap0, 0, none⟩), .pointer (some ⟨g_cap1, 0, none⟩)]), (10, .int .i64 i), (11, .int .i64 j)] ∧ I1 i j ∧ GrL [(blk A_data)] w w' ∧ Own vv w' 0 41 A_data c_data hs_data ∧ RelD deV w' hs_data data) _ _ ⟨m, b, rfl, rfl, h0_1, (GrL.refl _), hdata, hr_data⟩ (by repeat (first | exact Sub.nil | refine Sub.cons rfl ?_)) ?_
    clear h0_1
    rintro _ _ w1 ⟨i, j, rfl, rfl, hI1, gr1, k1, k2⟩
    have H := HR1 i j hI1
    refine WC.seq ?_
    refine WC.seq ?_
    refine WC.region ?_
    refine WL.y rfl (Yld.pure tab_ok rfl) ?_
    refine WL.y rfl (Yld.pure tab_ok rfl) ?_
    refine WL.y rfl (Yld.pure tab_ok rfl) ?_
    refine WL.nil (WX.then_normal ?_)
    refine WC.cond rfl (fun b2 => ?_) (fun b2 => ?_)
    · replace H := H.1 (of_decide_eq_true b2)
      refine WC.skip (WX.then_normal ?_)
      refine WC.block ?_
      refine WC.seq ?_
      refine WC.region ?_
      refine WL.y rfl (Yld.pure tab_ok rfl) ?_
      refine WL.y rfl (Yld.pure tab_ok rfl) ?_
      obtain ⟨h2, H⟩ := H
      refine WL.y rfl (Yld.add rfl rfl h2) ?_
      obtain ⟨h3, H⟩ := H
      refine WL.y rfl (Yld.conv tab_ok rfl rfl rfl h3) ?_
      refine WL.y rfl (Yld.shr rfl rfl (by omega)) ?_
      obtain ⟨h4, H⟩ := H
      refine WL.y rfl (Yld.conv tab_ok rfl rfl rfl h4) ?_
      refine WL.y rfl (Yld.pure tab_ok rfl) ?_
      refine WL.nil (WX.then_normal ?_)
      refine WC.seq ?_
      refine WC.chainF (fun k => !(Nat.beq k 9)) (LD [4, 8] (fun w' => Rd vv w' A_data c_data hs_data)) mixed (by kernel_rfl) (fun k w' h _ => (rd_eqv h k1.rd)) ?_
      refine WJ.y rfl rfl (fun w' hw' => Yld.pure tab_ok rfl) ?_
      refine WJ.y rfl rfl (fun w' hw' => Yld.pure tab_ok rfl) ?_
      refine WJ.y rfl rfl (fun w' hw' => Yld.pure tab_ok rfl) ?_
      obtain ⟨h5, H⟩ := H
      refine WJ.y rfl rfl (fun w' hw' => Yld.iaddrW tab_ok k1.rd rfl rfl hr_data.1.symm rfl h5.1 h5.2) ?_
      obtain ⟨⟨v_el, F_el⟩, eh1, hR1⟩ := RelD.at k2 vh0 PV.nil (j := (shrV .u64 (i + j) 1).toNat) (Nat.lt_of_lt_of_eq (iltN h5 hr_data.1.symm) k2.1)
      have hv1 : RelD deV w1 [(v_el, F_el)] [data.getD ((shrV .u64 (i + j) 1).toNat) PV.nil] := RelD.cons hR1 RelD.nil
      refine WJ.y rfl rfl (fun w' hw' => Yld.to (v := v_el.1) (Yld.iload vh0 tab_ok (hw' rfl) rfl rfl (iltN h5 hr_data.1.symm)) (congrArg vv eh1)) ?_
      refine WJ.y rfl rfl (fun w' hw' => Yld.pure tab_ok rfl) ?_
      refine WJ.y rfl rfl (fun w' hw' => Yld.pure tab_ok rfl) ?_
      obtain ⟨h6, H⟩ := H
      refine WJ.y rfl rfl (fun w' hw' => Yld.iaddrW tab_ok k1.rd rfl rfl hr_data.1.symm rfl h6.1 h6.2) ?_
      obtain ⟨⟨v_el2, F_el2⟩, eh2, hR2⟩ := RelD.at k2 vh0 PV.nil (j := a.toNat) (Nat.lt_of_lt_of_eq (iltN h6 hr_data.1.symm) k2.1)
      have hv2 : RelD deV w1 [(v_el2, F_el2)] [data.getD a.toNat PV.nil] := RelD.cons hR2 RelD.nil
      refine WJ.y rfl rfl (fun w' hw' => Yld.to (v := v_el2.1) (Yld.iload vh0 tab_ok (hw' rfl) rfl rfl (iltN h6 hr_data.1.symm)) (congrArg vv eh2)) ?_
      refine WJ.callv rfl rfl rfl rfl (W_list_Sorted_1 (hG.goL gr1 hP).ok hS3 hS7 hv1 hv2 (hcap0.goL gr1 hap1) (hcap1.goL gr1 hap2) H) (fun v w' h w2 e => DD.keep (Rd.grown k1.rd (gr_eqv h.1 e))) ?_
      rintro _ w2 ⟨hg1, t49, rfl, H⟩
      have gr2 := GrL.add0 gr1 hg1
      have k3 := k1.grown hg1
      have k4 := k2.grown hg1
      refine WJ.y rfl rfl (fun w' hw' => Yld.pure tab_ok rfl) ?_
      refine WJ.nil (WX.then_normal ?_)
      refine WC.cond rfl (fun b3 => ?_) (fun b3 => ?_)
      · replace H := H.1 (of_decide_eq_true b3)
        refine WC.region ?_
        refine WL.y rfl (Yld.pure tab_ok rfl) ?_
        obtain ⟨h7, H⟩ := H
        refine WL.y rfl (Yld.add rfl rfl h7) ?_
        refine WL.y rfl (Yld.pure tab_ok rfl) ?_
        refine WL.nil (WX.block_normal ?_)
        exact WX.roundF _ ⟨(shrV .u64 (i + j) 1) + (1 : Int), j, rfl, rfl, H.1, gr2, k3, k4⟩ (by repeat (first | exact Sub.nil | refine Sub.cons rfl ?_)) H.2
      · replace H := H.2 (of_decide_eq_false b3)
        refine WC.region ?_
        refine WL.y rfl (Yld.pure tab_ok rfl) ?_
        refine WL.y rfl (Yld.pure tab_ok rfl) ?_
        refine WL.nil (WX.block_normal ?_)
        exact WX.roundF _ ⟨i, shrV .u64 (i + j) 1, rfl, rfl, H.1, gr2, k3, k4⟩ (by repeat (first | exact Sub.nil | refine Sub.cons rfl ?_)) H.2
    · replace H := H.2 (of_decide_eq_false b2)
      refine WC.exit (WX.then_exit (WX.then_exit (WX.block_same (WX.then_normal ?_))))
      refine WC.seq ?_
      refine WC.seq ?_
      refine WC.region ?_
      refine WL.y rfl (Yld.pure tab_ok rfl) ?_
      refine WL.y rfl (Yld.pure tab_ok rfl) ?_
      refine WL.nil (WX.then_normal ?_)
      refine WC.block ?_
      obtain ⟨I2, mu2, h0_2, HR2⟩ := H
      refine WC.loopF (fun n' L' w' => ∃ (k : Int), ∃ (data2 : List PV), ∃ (hs : List VH), n' = mu2 k data2 ∧ L' = [(0, .slice A_data data.length c_data), (10, .int .i64 i), (13, .int .i64 k)] ∧ I2 k data2 ∧ data.length = data2.length ∧ GrL [(blk A_data)] w w' ∧ Own vv w' 0 41 A_data c_data hs ∧ RelD deV w' hs data2 ∧ DnD deV hs data2 (blk A_data) ∧ OrD (fun p => DnD deV hs_data data p) deV hs data2 w.heap.size) _ _ ⟨a, data, hs_data, rfl, rfl, h0_2, rfl, gr1, k1, k2, (hap0 _ (List.Mem.head _)), (fun p_ hp_ q_ => q_)⟩ (by repeat (first | exact Sub.nil | refine Sub.cons rfl ?_)) ?_
      clear h0_2
      rintro _ _ w3 ⟨k, data2, hs, rfl, rfl, hI2, hn_data2, gr3, k5, k6, dj1, or1⟩
      have H := HR2 k data2 hI2
      replace H := H hn_data2
      refine WC.seq ?_
      refine WC.seq ?_
      refine WC.region ?_
      refine WL.y rfl (Yld.pure tab_ok rfl) ?_
      refine WL.y rfl (Yld.pure tab_ok rfl) ?_
      obtain ⟨h8, H⟩ := H
      refine WL.y rfl (Yld.sub rfl rfl h8) ?_
      refine WL.y rfl (Yld.pure tab_ok rfl) ?_
      refine WL.nil (WX.then_normal ?_)
      refine WC.cond rfl (fun b4 => ?_) (fun b4 => ?_)
      · replace H := H.1 (of_decide_eq_true b4)
        refine WC.skip (WX.then_normal ?_)
        refine WC.seq ?_
        refine WC.block ?_
        refine WC.chainF (fun k => !(Nat.beq k 15 || Nat.beq k 17)) (LD [9, 13] (fun w' => Rd vv w' A_data c_data hs)) mixed (by kernel_rfl) (fun k w' h _ => (rd_eqv h k5.rd)) ?_
        refine WJ.y rfl rfl (fun w' hw' => Yld.pure tab_ok rfl) ?_
        refine WJ.y rfl rfl (fun w' hw' => Yld.pure tab_ok rfl) ?_
        refine WJ.y rfl rfl (fun w' hw' => Yld.pure tab_ok rfl) ?_
        refine WJ.y rfl rfl (fun w' hw' => Yld.pure tab_ok rfl) ?_
        obtain ⟨h9, H⟩ := H
        refine WJ.y rfl rfl (fun w' hw' => Yld.add rfl rfl h9) ?_
        refine WJ.y rfl rfl (fun w' hw' => Yld.pure tab_ok rfl) ?_
        refine WJ.y rfl rfl (fun w' hw' => Yld.pure tab_ok rfl) ?_
        obtain ⟨h10, H⟩ := H
        refine WJ.y rfl rfl (fun w' hw' => Yld.add rfl rfl h10) ?_
        obtain ⟨h11, H⟩ := H
        refine WJ.y rfl rfl (fun w' hw' => Yld.iaddrW tab_ok k5.rd rfl rfl (hn_data2.trans k6.1.symm) rfl h11.1 h11.2) ?_
        obtain ⟨⟨v_el3, F_el3⟩, eh3, hR3⟩ := RelD.at k6 vh0 PV.nil (j := (k + (1 : Int)).toNat) (Nat.lt_of_lt_of_eq (iltN h11 (hn_data2.trans k6.1.symm)) k6.1)
        have hv3 : RelD deV w3 [(v_el3, F_el3)] [data2.getD ((k + (1 : Int)).toNat) PV.nil] := RelD.cons hR3 RelD.nil
        refine WJ.y rfl rfl (fun w' hw' => Yld.to (v := v_el3.1) (Yld.iload vh0 tab_ok (hw' rfl) rfl rfl (iltN h11 (hn_data2.trans k6.1.symm))) (congrArg vv eh3)) ?_
        refine WJ.y rfl rfl (fun w' hw' => Yld.pure tab_ok rfl) ?_
        refine WJ.y rfl rfl (fun w' hw' => Yld.pure tab_ok rfl) ?_
        obtain ⟨h12, H⟩ := H
        refine WJ.y rfl rfl (fun w' hw' => Yld.iaddrW tab_ok k5.rd rfl rfl (hn_data2.trans k6.1.symm) rfl h12.1 h12.2) ?_
        obtain ⟨⟨v_el4, F_el4⟩, eh4, hR4⟩ := RelD.at k6 vh0 PV.nil (j := k.toNat) (Nat.lt_of_lt_of_eq (iltN h12 (hn_data2.trans k6.1.symm)) k6.1)
        have hv4 : RelD deV w3 [(v_el4, F_el4)] [data2.getD k.toNat PV.nil] := RelD.cons hR4 RelD.nil
        refine WJ.y rfl rfl (fun w' hw' => Yld.to (v := v_el4.1) (Yld.iload vh0 tab_ok (hw' rfl) rfl rfl (iltN h12 (hn_data2.trans k6.1.symm))) (congrArg vv eh4)) ?_
        obtain ⟨h13, H⟩ := H
        refine WJ.y rfl rfl (fun w' hw' => Yld.iaddrW tab_ok k5.rd rfl rfl (hn_data2.trans k6.1.symm) rfl h13.1 h13.2) ?_
        refine WJ.eff rfl (Ef0.ostore (v := ((v_el3, F_el3) : VH)) one41 One.vv k5 rfl rfl (iltN h13 (hn_data2.trans k6.1.symm))) (fun w' h => DD.past (by kernel_rfl)) ?_
        rintro w5 ⟨hO1, hg3⟩
        have gr4 : GrL [(blk A_data)] w w5 := GrL.mod gr3 hg3 (InP.mem (List.Mem.head _))
        have k7 := k6.go hg3 dj1
        have k8 := hv3.go hg3 (DnD.cons (DnD.at dj1 k6.1 (Nat.lt_of_lt_of_eq (iltN h11 (hn_data2.trans k6.1.symm)) k6.1) eh3) DnD.nil)
        have k9 := hv4.go hg3 (DnD.cons (DnD.at dj1 k6.1 (Nat.lt_of_lt_of_eq (iltN h12 (hn_data2.trans k6.1.symm)) k6.1) eh4) DnD.nil)
        have hr1 : RelD deV w5 (hs.set k.toNat (v_el3, F_el3)) (data2.set k.toNat (data2.getD ((k + (1 : Int)).toNat) PV.nil)) := RelD.set k7 (RelD.one k8) k.toNat
        have nd1 : OrD (fun p => DnD deV hs_data data p) deV (hs.set k.toNat (v_el3, F_el3)) (data2.set k.toNat (data2.getD ((k + (1 : Int)).toNat) PV.nil)) w.heap.size := fun p_ hp_ q_ => DnD.set (or1 p_ hp_ q_) (DnD.one (DnD.cons (DnD.at (or1 p_ hp_ q_) k6.1 (Nat.lt_of_lt_of_eq (iltN h11 (hn_data2.trans k6.1.symm)) k6.1) eh3) DnD.nil)) k.toNat
        have dj2 : DnD deV (hs.set k.toNat (v_el3, F_el3)) (data2.set k.toNat (data2.getD ((k + (1 : Int)).toNat) PV.nil)) (blk A_data) := (DnD.set dj1 (DnD.one (DnD.cons (DnD.at dj1 k6.1 (Nat.lt_of_lt_of_eq (iltN h11 (hn_data2.trans k6.1.symm)) k6.1) eh3) DnD.nil)) k.toNat)
        obtain ⟨h14, H⟩ := H
        refine WJ.y rfl rfl (fun w' hw' => Yld.iaddrW tab_ok hO1.rd rfl rfl ((hn_data2.trans k6.1.symm).trans List.length_set.symm) rfl h14.1 h14.2) ?_
        refine WJ.eff rfl (Ef0.ostore (v := ((v_el4, F_el4) : VH)) one41 One.vv hO1 rfl rfl (iltN h14 ((hn_data2.trans k6.1.symm).trans List.length_set.symm))) (fun w' h => DD.past (by kernel_rfl)) ?_
        rintro w7 ⟨hO2, hg5⟩
        have gr5 : GrL [(blk A_data)] w w7 := GrL.mod gr4 hg5 (InP.mem (List.Mem.head _))
        have k10 := hr1.go hg5 dj2
        have k11 := k9.go hg5 (DnD.cons (DnD.at dj1 k6.1 (Nat.lt_of_lt_of_eq (iltN h12 (hn_data2.trans k6.1.symm)) k6.1) eh4) DnD.nil)
        have hr2 : RelD deV w7 ((hs.set k.toNat (v_el3, F_el3)).set ((k + (1 : Int)).toNat) (v_el4, F_el4)) ((data2.set k.toNat (data2.getD ((k + (1 : Int)).toNat) PV.nil)).set ((k + (1 : Int)).toNat) (data2.getD k.toNat PV.nil)) := RelD.set k10 (RelD.one k11) ((k + (1 : Int)).toNat)
        have nd2 : OrD (fun p => DnD deV hs_data data p) deV ((hs.set k.toNat (v_el3, F_el3)).set ((k + (1 : Int)).toNat) (v_el4, F_el4)) ((data2.set k.toNat (data2.getD ((k + (1 : Int)).toNat) PV.nil)).set ((k + (1 : Int)).toNat) (data2.getD k.toNat PV.nil)) w.heap.size := fun p_ hp_ q_ => DnD.set (nd1 p_ hp_ q_) (DnD.one (DnD.cons (DnD.at (or1 p_ hp_ q_) k6.1 (Nat.lt_of_lt_of_eq (iltN h12 (hn_data2.trans k6.1.symm)) k6.1) eh4) DnD.nil)) ((k + (1 : Int)).toNat)
        have dj3 : DnD deV ((hs.set k.toNat (v_el3, F_el3)).set ((k + (1 : Int)).toNat) (v_el4, F_el4)) ((data2.set k.toNat (data2.getD ((k + (1 : Int)).toNat) PV.nil)).set ((k + (1 : Int)).toNat) (data2.getD k.toNat PV.nil)) (blk A_data) := (DnD.set dj2 (DnD.one (DnD.cons (DnD.at dj1 k6.1 (Nat.lt_of_lt_of_eq (iltN h12 (hn_data2.trans k6.1.symm)) k6.1) eh4) DnD.nil)) ((k + (1 : Int)).toNat))
        refine WJ.nil (WX.block_normal (WX.then_normal ?_))
        refine WC.region ?_
        refine WL.y rfl (Yld.pure tab_ok rfl) ?_
        obtain ⟨h15, H⟩ := H
        refine WL.y rfl (Yld.add rfl rfl h15) ?_
        refine WL.y rfl (Yld.pure tab_ok rfl) ?_
        refine WL.nil ?_
        exact WX.roundF _ ⟨k + (1 : Int), (data2.set k.toNat (data2.getD ((k + (1 : Int)).toNat) PV.nil)).set ((k + (1 : Int)).toNat) (data2.getD k.toNat PV.nil), (hs.set k.toNat (v_el3, F_el3)).set ((k + (1 : Int)).toNat) (v_el4, F_el4), rfl, rfl, H.1, ((((hn_data2.trans k6.1.symm).trans List.length_set.symm).trans List.length_set.symm).trans hr2.1), gr5, hO2, hr2, dj3, nd2⟩ (by repeat (first | exact Sub.nil | refine Sub.cons rfl ?_)) H.2
      · replace H := H.2 (of_decide_eq_false b4)
        refine WC.exit (WX.then_exit (WX.then_exit (WX.block_same (WX.then_normal ?_))))
        refine WC.ret (WX.then_ret ?_)
        exact WX.ret0 rfl ⟨gr3, data2, hs, rfl, k5, (hn_data2.trans k6.1.symm).symm, k6, (fun p_ hp_ v0_ => or1 p_ hp_ v0_), dj1, H⟩
  · replace H := H.2 (of_decide_eq_false b1)
    refine WC.skip (WX.then_normal ?_)
    refine WC.seq ?_
    refine WC.seq ?_
    refine WC.region ?_
    refine WL.y rfl (Yld.pure tab_ok rfl) ?_
    refine WL.y rfl (Yld.pure tab_ok rfl) ?_
    obtain ⟨h16, H⟩ := H
    refine WL.y rfl (Yld.sub rfl rfl h16) ?_
    refine WL.y rfl (Yld.pure tab_ok rfl) ?_
    refine WL.nil (WX.then_normal ?_)
    refine WC.cond rfl (fun b5 => ?_) (fun b5 => ?_)
    · replace H := H.1 (of_decide_eq_true b5)
      refine WC.seq ?_
      refine WC.region ?_
      refine WL.y rfl (Yld.pure tab_ok rfl) ?_
      refine WL.y rfl (Yld.pure tab_ok rfl) ?_
      refine WL.nil (WX.then_normal ?_)
      refine WC.seq ?_
      refine WC.region ?_
      refine WL.y rfl (Yld.pure tab_ok rfl) ?_
      refine WL.y rfl (Yld.pure tab_ok rfl) ?_
      refine WL.nil (WX.then_normal ?_)
      refine WC.seq ?_
      refine WC.block ?_
      obtain ⟨I3, mu3, h0_3, HR3⟩ := H
      refine WC.loopF (fun n' L' w' => ∃ (i2 : Int), ∃ (j2 : Int), n' = mu3 i2 j2 ∧ L' = [(0, .slice A_data data.length c_data), (2, .int .i64 m), (4, .func (.func 39) #[] #[.pointer (some ⟨g_cap0, 0, none⟩), .pointer (some ⟨g_cap1, 0, none⟩)]), (14, .int .i64 i2), (15, .int .i64 j2)] ∧ I3 i2 j2 ∧ GrL [(blk A_data)] w w' ∧ Own vv w' 0 41 A_data c_data hs_data ∧ RelD deV w' hs_data data) _ _ ⟨a, m, rfl, rfl, h0_3, (GrL.refl _), hdata, hr_data⟩ (by repeat (first | exact Sub.nil | refine Sub.cons rfl ?_)) ?_
      clear h0_3
      rintro _ _ w8 ⟨i2, j2, rfl, rfl, hI3, gr6, k12, k13⟩
      have H := HR3 i2 j2 hI3
      refine WC.seq ?_
      refine WC.seq ?_
      refine WC.region ?_
      refine WL.y rfl (Yld.pure tab_ok rfl) ?_
      refine WL.y rfl (Yld.pure tab_ok rfl) ?_
      refine WL.y rfl (Yld.pure tab_ok rfl) ?_
      refine WL.nil (WX.then_normal ?_)
      refine WC.cond rfl (fun b6 => ?_) (fun b6 => ?_)
      · replace H := H.1 (of_decide_eq_true b6)
        refine WC.skip (WX.then_normal ?_)
        refine WC.block ?_
        refine WC.seq ?_
        refine WC.region ?_
        refine WL.y rfl (Yld.pure tab_ok rfl) ?_
        refine WL.y rfl (Yld.pure tab_ok rfl) ?_
        obtain ⟨h17, H⟩ := H
        refine WL.y rfl (Yld.add rfl rfl h17) ?_
        obtain ⟨h18, H⟩ := H
        refine WL.y rfl (Yld.conv tab_ok rfl rfl rfl h18) ?_
        refine WL.y rfl (Yld.shr rfl rfl (by omega)) ?_
        obtain ⟨h19, H⟩ := H
        refine WL.y rfl (Yld.conv tab_ok rfl rfl rfl h19) ?_
        refine WL.y rfl (Yld.pure tab_ok rfl) ?_
        refine WL.nil (WX.then_normal ?_)
        refine WC.seq ?_
        refine WC.chainF (fun k => !(Nat.beq k 9)) (LD [4, 8] (fun w' => Rd vv w' A_data c_data hs_data)) mixed (by kernel_rfl) (fun k w' h _ => (rd_eqv h k12.rd)) ?_
        refine WJ.y rfl rfl (fun w' hw' => Yld.pure tab_ok rfl) ?_
        refine WJ.y rfl rfl (fun w' hw' => Yld.pure tab_ok rfl) ?_
        refine WJ.y rfl rfl (fun w' hw' => Yld.pure tab_ok rfl) ?_
        obtain ⟨h20, H⟩ := H
        refine WJ.y rfl rfl (fun w' hw' => Yld.iaddrW tab_ok k12.rd rfl rfl hr_data.1.symm rfl h20.1 h20.2) ?_
        obtain ⟨⟨v_el5, F_el5⟩, eh5, hR5⟩ := RelD.at k13 vh0 PV.nil (j := m.toNat) (Nat.lt_of_lt_of_eq (iltN h20 hr_data.1.symm) k13.1)
        have hv5 : RelD deV w8 [(v_el5, F_el5)] [data.getD m.toNat PV.nil] := RelD.cons hR5 RelD.nil
        refine WJ.y rfl rfl (fun w' hw' => Yld.to (v := v_el5.1) (Yld.iload vh0 tab_ok (hw' rfl) rfl rfl (iltN h20 hr_data.1.symm)) (congrArg vv eh5)) ?_
        refine WJ.y rfl rfl (fun w' hw' => Yld.pure tab_ok rfl) ?_
        refine WJ.y rfl rfl (fun w' hw' => Yld.pure tab_ok rfl) ?_
        obtain ⟨h21, H⟩ := H
        refine WJ.y rfl rfl (fun w' hw' => Yld.iaddrW tab_ok k12.rd rfl rfl hr_data.1.symm rfl h21.1 h21.2) ?_
        obtain ⟨⟨v_el6, F_el6⟩, eh6, hR6⟩ := RelD.at k13 vh0 PV.nil (j := (shrV .u64 (i2 + j2) 1).toNat) (Nat.lt_of_lt_of_eq (iltN h21 hr_data.1.symm) k13.1)
        have hv6 : RelD deV w8 [(v_el6, F_el6)] [data.getD ((shrV .u64 (i2 + j2) 1).toNat) PV.nil] := RelD.cons hR6 RelD.nil
        refine WJ.y rfl rfl (fun w' hw' => Yld.to (v := v_el6.1) (Yld.iload vh0 tab_ok (hw' rfl) rfl rfl (iltN h21 hr_data.1.symm)) (congrArg vv eh6)) ?_
        refine WJ.callv rfl rfl rfl rfl (W_list_Sorted_1 (hG.goL gr6 hP).ok hS3 hS7 hv5 hv6 (hcap0.goL gr6 hap1) (hcap1.goL gr6 hap2) H) (fun v w' h w2 e => DD.keep (Rd.grown k12.rd (gr_eqv h.1 e))) ?_
        rintro _ w9 ⟨hg6, t101, rfl, H⟩
        have gr7 := GrL.add0 gr6 hg6
        have k14 := k12.grown hg6
        have k15 := k13.grown hg6
        refine WJ.y rfl rfl (fun w' hw' => Yld.pure tab_ok rfl) ?_
        refine WJ.y rfl rfl (fun w' hw' => Yld.pure tab_ok rfl) ?_
        refine WJ.nil (WX.then_normal ?_)
        refine WC.cond rfl (fun b7 => ?_) (fun b7 => ?_)
        · replace H := H.1 (nd_true b7)
          refine WC.region ?_
          refine WL.y rfl (Yld.pure tab_ok rfl) ?_
          obtain ⟨h22, H⟩ := H
          refine WL.y rfl (Yld.add rfl rfl h22) ?_
          refine WL.y rfl (Yld.pure tab_ok rfl) ?_
          refine WL.nil (WX.block_normal ?_)
          exact WX.roundF _ ⟨(shrV .u64 (i2 + j2) 1) + (1 : Int), j2, rfl, rfl, H.1, gr7, k14, k15⟩ (by repeat (first | exact Sub.nil | refine Sub.cons rfl ?_)) H.2
        · replace H := H.2 (nd_false b7)
          refine WC.region ?_
          refine WL.y rfl (Yld.pure tab_ok rfl) ?_
          refine WL.y rfl (Yld.pure tab_ok rfl) ?_
          refine WL.nil (WX.block_normal ?_)
          exact WX.roundF _ ⟨i2, shrV .u64 (i2 + j2) 1, rfl, rfl, H.1, gr7, k14, k15⟩ (by repeat (first | exact Sub.nil | refine Sub.cons rfl ?_)) H.2
      · replace H := H.2 (of_decide_eq_false b6)
        refine WC.exit (WX.then_exit (WX.then_exit (WX.block_same (WX.then_normal ?_))))
        refine WC.seq ?_
        refine WC.seq ?_
        refine WC.region ?_
        refine WL.y rfl (Yld.pure tab_ok rfl) ?_
        refine WL.y rfl (Yld.pure tab_ok rfl) ?_
        refine WL.nil (WX.then_normal ?_)
        refine WC.block ?_
        obtain ⟨I4, mu4, h0_4, HR4⟩ := H
        refine WC.loopF (fun n' L' w' => ∃ (k_2 : Int), ∃ (data3 : List PV), ∃ (hs2 : List VH), n' = mu4 k_2 data3 ∧ L' = [(0, .slice A_data data.length c_data), (14, .int .i64 i2), (17, .int .i64 k_2)] ∧ I4 k_2 data3 ∧ data.length = data3.length ∧ GrL [(blk A_data)] w w' ∧ Own vv w' 0 41 A_data c_data hs2 ∧ RelD deV w' hs2 data3 ∧ DnD deV hs2 data3 (blk A_data) ∧ OrD (fun p => DnD deV hs_data data p) deV hs2 data3 w.heap.size) _ _ ⟨m, data, hs_data, rfl, rfl, h0_4, rfl, gr6, k12, k13, (hap0 _ (List.Mem.head _)), (fun p_ hp_ q_ => q_)⟩ (by repeat (first | exact Sub.nil | refine Sub.cons rfl ?_)) ?_
        clear h0_4
        rintro _ _ w10 ⟨k_2, data3, hs2, rfl, rfl, hI4, hn_data3, gr8, k16, k17, dj4, or2⟩
        have H := HR4 k_2 data3 hI4
        replace H := H hn_data3
        refine WC.seq ?_
        refine WC.seq ?_
        refine WC.region ?_
        refine WL.y rfl (Yld.pure tab_ok rfl) ?_
        refine WL.y rfl (Yld.pure tab_ok rfl) ?_
        refine WL.y rfl (Yld.pure tab_ok rfl) ?_
        refine WL.nil (WX.then_normal ?_)
        refine WC.cond rfl (fun b8 => ?_) (fun b8 => ?_)
        · replace H := H.1 (of_decide_eq_true b8)
          refine WC.skip (WX.then_normal ?_)
          refine WC.seq ?_
          refine WC.block ?_
          refine WC.chainF (fun k => !(Nat.beq k 15 || Nat.beq k 17)) (LD [9, 13] (fun w' => Rd vv w' A_data c_data hs2)) mixed (by kernel_rfl) (fun k w' h _ => (rd_eqv h k16.rd)) ?_
          refine WJ.y rfl rfl (fun w' hw' => Yld.pure tab_ok rfl) ?_
          refine WJ.y rfl rfl (fun w' hw' => Yld.pure tab_ok rfl) ?_
          refine WJ.y rfl rfl (fun w' hw' => Yld.pure tab_ok rfl) ?_
          refine WJ.y rfl rfl (fun w' hw' => Yld.pure tab_ok rfl) ?_
          obtain ⟨h23, H⟩ := H
          refine WJ.y rfl rfl (fun w' hw' => Yld.sub rfl rfl h23) ?_
          refine WJ.y rfl rfl (fun w' hw' => Yld.pure tab_ok rfl) ?_
          refine WJ.y rfl rfl (fun w' hw' => Yld.pure tab_ok rfl) ?_
          obtain ⟨h24, H⟩ := H
          refine WJ.y rfl rfl (fun w' hw' => Yld.sub rfl rfl h24) ?_
          obtain ⟨h25, H⟩ := H
          refine WJ.y rfl rfl (fun w' hw' => Yld.iaddrW tab_ok k16.rd rfl rfl (hn_data3.trans k17.1.symm) rfl h25.1 h25.2) ?_
          obtain ⟨⟨v_el7, F_el7⟩, eh7, hR7⟩ := RelD.at k17 vh0 PV.nil (j := (k_2 - (1 : Int)).toNat) (Nat.lt_of_lt_of_eq (iltN h25 (hn_data3.trans k17.1.symm)) k17.1)
          have hv7 : RelD deV w10 [(v_el7, F_el7)] [data3.getD ((k_2 - (1 : Int)).toNat) PV.nil] := RelD.cons hR7 RelD.nil
          refine WJ.y rfl rfl (fun w' hw' => Yld.to (v := v_el7.1) (Yld.iload vh0 tab_ok (hw' rfl) rfl rfl (iltN h25 (hn_data3.trans k17.1.symm))) (congrArg vv eh7)) ?_
          refine WJ.y rfl rfl (fun w' hw' => Yld.pure tab_ok rfl) ?_
          refine WJ.y rfl rfl (fun w' hw' => Yld.pure tab_ok rfl) ?_
          obtain ⟨h26, H⟩ := H
          refine WJ.y rfl rfl (fun w' hw' => Yld.iaddrW tab_ok k16.rd rfl rfl (hn_data3.trans k17.1.symm) rfl h26.1 h26.2) ?_
          obtain ⟨⟨v_el8, F_el8⟩, eh8, hR8⟩ := RelD.at k17 vh0 PV.nil (j := k_2.toNat) (Nat.lt_of_lt_of_eq (iltN h26 (hn_data3.trans k17.1.symm)) k17.1)
          have hv8 : RelD deV w10 [(v_el8, F_el8)] [data3.getD k_2.toNat PV.nil] := RelD.cons hR8 RelD.nil
          refine WJ.y rfl rfl (fun w' hw' => Yld.to (v := v_el8.1) (Yld.iload vh0 tab_ok (hw' rfl) rfl rfl (iltN h26 (hn_data3.trans k17.1.symm))) (congrArg vv eh8)) ?_
          obtain ⟨h27, H⟩ := H
          refine WJ.y rfl rfl (fun w' hw' => Yld.iaddrW tab_ok k16.rd rfl rfl (hn_data3.trans k17.1.symm) rfl h27.1 h27.2) ?_
          refine WJ.eff rfl (Ef0.ostore (v := ((v_el7, F_el7) : VH)) one41 One.vv k16 rfl rfl (iltN h27 (hn_data3.trans k17.1.symm))) (fun w' h => DD.past (by kernel_rfl)) ?_
          rintro w12 ⟨hO3, hg8⟩
          have gr9 : GrL [(blk A_data)] w w12 := GrL.mod gr8 hg8 (InP.mem (List.Mem.head _))
          have k18 := k17.go hg8 dj4
          have k19 := hv7.go hg8 (DnD.cons (DnD.at dj4 k17.1 (Nat.lt_of_lt_of_eq (iltN h25 (hn_data3.trans k17.1.symm)) k17.1) eh7) DnD.nil)
          have k20 := hv8.go hg8 (DnD.cons (DnD.at dj4 k17.1 (Nat.lt_of_lt_of_eq (iltN h26 (hn_data3.trans k17.1.symm)) k17.1) eh8) DnD.nil)
          have hr3 : RelD deV w12 (hs2.set k_2.toNat (v_el7, F_el7)) (data3.set k_2.toNat (data3.getD ((k_2 - (1 : Int)).toNat) PV.nil)) := RelD.set k18 (RelD.one k19) k_2.toNat
          have nd3 : OrD (fun p => DnD deV hs_data data p) deV (hs2.set k_2.toNat (v_el7, F_el7)) (data3.set k_2.toNat (data3.getD ((k_2 - (1 : Int)).toNat) PV.nil)) w.heap.size := fun p_ hp_ q_ => DnD.set (or2 p_ hp_ q_) (DnD.one (DnD.cons (DnD.at (or2 p_ hp_ q_) k17.1 (Nat.lt_of_lt_of_eq (iltN h25 (hn_data3.trans k17.1.symm)) k17.1) eh7) DnD.nil)) k_2.toNat
          have dj5 : DnD deV (hs2.set k_2.toNat (v_el7, F_el7)) (data3.set k_2.toNat (data3.getD ((k_2 - (1 : Int)).toNat) PV.nil)) (blk A_data) := (DnD.set dj4 (DnD.one (DnD.cons (DnD.at dj4 k17.1 (Nat.lt_of_lt_of_eq (iltN h25 (hn_data3.trans k17.1.symm)) k17.1) eh7) DnD.nil)) k_2.toNat)
          obtain ⟨h28, H⟩ := H
          refine WJ.y rfl rfl (fun w' hw' => Yld.iaddrW tab_ok hO3.rd rfl rfl ((hn_data3.trans k17.1.symm).trans List.length_set.symm) rfl h28.1 h28.2) ?_
          refine WJ.eff rfl (Ef0.ostore (v := ((v_el8, F_el8) : VH)) one41 One.vv hO3 rfl rfl (iltN h28 ((hn_data3.trans k17.1.symm).trans List.length_set.symm))) (fun w' h => DD.past (by kernel_rfl)) ?_
          rintro w14 ⟨hO4, hg10⟩
          have gr10 : GrL [(blk A_data)] w w14 := GrL.mod gr9 hg10 (InP.mem (List.Mem.head _))
          have k21 := hr3.go hg10 dj5
          have k22 := k20.go hg10 (DnD.cons (DnD.at dj4 k17.1 (Nat.lt_of_lt_of_eq (iltN h26 (hn_data3.trans k17.1.symm)) k17.1) eh8) DnD.nil)
          have hr4 : RelD deV w14 ((hs2.set k_2.toNat (v_el7, F_el7)).set ((k_2 - (1 : Int)).toNat) (v_el8, F_el8)) ((data3.set k_2.toNat (data3.getD ((k_2 - (1 : Int)).toNat) PV.nil)).set ((k_2 - (1 : Int)).toNat) (data3.getD k_2.toNat PV.nil)) := RelD.set k21 (RelD.one k22) ((k_2 - (1 : Int)).toNat)
          have nd4 : OrD (fun p => DnD deV hs_data data p) deV ((hs2.set k_2.toNat (v_el7, F_el7)).set ((k_2 - (1 : Int)).toNat) (v_el8, F_el8)) ((data3.set k_2.toNat (data3.getD ((k_2 - (1 : Int)).toNat) PV.nil)).set ((k_2 - (1 : Int)).toNat) (data3.getD k_2.toNat PV.nil)) w.heap.size := fun p_ hp_ q_ => DnD.set (nd3 p_ hp_ q_) (DnD.one (DnD.cons (DnD.at (or2 p_ hp_ q_) k17.1 (Nat.lt_of_lt_of_eq (iltN h26 (hn_data3.trans k17.1.symm)) k17.1) eh8) DnD.nil)) ((k_2 - (1 : Int)).toNat)
          have dj6 : DnD deV ((hs2.set k_2.toNat (v_el7, F_el7)).set ((k_2 - (1 : Int)).toNat) (v_el8, F_el8)) ((data3.set k_2.toNat (data3.getD ((k_2 - (1 : Int)).toNat) PV.nil)).set ((k_2 - (1 : Int)).toNat) (data3.getD k_2.toNat PV.nil)) (blk A_data) := (DnD.set dj5 (DnD.one (DnD.cons (DnD.at dj4 k17.1 (Nat.lt_of_lt_of_eq (iltN h26 (hn_data3.trans k17.1.symm)) k17.1) eh8) DnD.nil)) ((k_2 - (1 : Int)).toNat))
          refine WJ.nil (WX.block_normal (WX.then_normal ?_))
          refine WC.region ?_
          refine WL.y rfl (Yld.pure tab_ok rfl) ?_
          obtain ⟨h29, H⟩ := H
          refine WL.y rfl (Yld.sub rfl rfl h29) ?_
          refine WL.y rfl (Yld.pure tab_ok rfl) ?_
          refine WL.nil ?_
          exact WX.roundF _ ⟨k_2 - (1 : Int), (data3.set k_2.toNat (data3.getD ((k_2 - (1 : Int)).toNat) PV.nil)).set ((k_2 - (1 : Int)).toNat) (data3.getD k_2.toNat PV.nil), (hs2.set k_2.toNat (v_el7, F_el7)).set ((k_2 - (1 : Int)).toNat) (v_el8, F_el8), rfl, rfl, H.1, ((((hn_data3.trans k17.1.symm).trans List.length_set.symm).trans List.length_set.symm).trans hr4.1), gr10, hO4, hr4, dj6, nd4⟩ (by repeat (first | exact Sub.nil | refine Sub.cons rfl ?_)) H.2
        · replace H := H.2 (of_decide_eq_false b8)
          refine WC.exit (WX.then_exit (WX.then_exit (WX.block_same (WX.then_normal ?_))))
          refine WC.ret (WX.then_ret ?_)
          exact WX.ret0 rfl ⟨gr8, data3, hs2, rfl, k16, (hn_data3.trans k17.1.symm).symm, k17, (fun p_ hp_ v0_ => or2 p_ hp_ v0_), dj4, H⟩
    · replace H := H.2 (of_decide_eq_false b5)
      refine WC.skip (WX.then_normal ?_)
      refine WC.seq ?_
      refine WC.region ?_
      refine WL.y rfl (Yld.pure tab_ok rfl) ?_
      refine WL.y rfl (Yld.pure tab_ok rfl) ?_
      obtain ⟨h30, H⟩ := H
      refine WL.y rfl (Yld.add rfl rfl h30) ?_
      obtain ⟨h31, H⟩ := H
      refine WL.y rfl (Yld.conv tab_ok rfl rfl rfl h31) ?_
      refine WL.y rfl (Yld.shr rfl rfl (by omega)) ?_
      obtain ⟨h32, H⟩ := H
      refine WL.y rfl (Yld.conv tab_ok rfl rfl rfl h32) ?_
      refine WL.y rfl (Yld.pure tab_ok rfl) ?_
      refine WL.nil (WX.then_normal ?_)
      refine WC.seq ?_
      refine WC.region ?_
      refine WL.y rfl (Yld.pure tab_ok rfl) ?_
      refine WL.y rfl (Yld.pure tab_ok rfl) ?_
      obtain ⟨h33, H⟩ := H
      refine WL.y rfl (Yld.add rfl rfl h33) ?_
      refine WL.y rfl (Yld.pure tab_ok rfl) ?_
      refine WL.nil (WX.then_normal ?_)
      refine WC.seq ?_
      refine WC.region ?_
      refine WL.y rfl (Yld.pure tab_ok rfl) ?_
      refine WL.y rfl (Yld.pure tab_ok rfl) ?_
      refine WL.nil (WX.then_normal ?_)
      refine WC.seq ?_
      obtain ⟨J1, H, hJ1⟩ := H
      refine WC.midF (fun L' w' => ∃ (start : Int), ∃ (r : Int), L' = [(0, .slice A_data data.length c_data), (1, .int .i64 a), (2, .int .i64 m), (3, .int .i64 b), (4, .func (.func 39) #[] #[.pointer (some ⟨g_cap0, 0, none⟩), .pointer (some ⟨g_cap1, 0, none⟩)]), (18, .int .i64 (shrV .u64 (a + b) 1)), (19, .int .i64 ((shrV .u64 (a + b) 1) + m)), (20, .int .i64 start), (21, .int .i64 r)] ∧ J1 start r ∧ w = w') ?_ (fun hQ => ?_)
      · clear H
        rintro _ _ ⟨start, r, rfl, H, rfl⟩
        replace H := hJ1 start r H
        refine WX.then_normal ?_
        refine WC.seq ?_
        refine WC.region ?_
        refine WL.y rfl (Yld.pure tab_ok rfl) ?_
        obtain ⟨h34, H⟩ := H
        refine WL.y rfl (Yld.sub rfl rfl h34) ?_
        refine WL.y rfl (Yld.pure tab_ok rfl) ?_
        refine WL.nil (WX.then_normal ?_)
        refine WC.seq ?_
        refine WC.block ?_
        obtain ⟨I5, mu5, h0_5, HR5⟩ := H
        refine WC.loopF (fun n' L' w' => ∃ (start2 : Int), ∃ (r2 : Int), n' = mu5 start2 r2 ∧ L' = [(0, .slice A_data data.length c_data), (1, .int .i64 a), (2, .int .i64 m), (3, .int .i64 b), (4, .func (.func 39) #[] #[.pointer (some ⟨g_cap0, 0, none⟩), .pointer (some ⟨g_cap1, 0, none⟩)]), (18, .int .i64 (shrV .u64 (a + b) 1)), (19, .int .i64 ((shrV .u64 (a + b) 1) + m)), (20, .int .i64 start2), (21, .int .i64 r2), (22, .int .i64 (((shrV .u64 (a + b) 1) + m) - (1 : Int)))] ∧ I5 start2 r2 ∧ GrL [(blk A_data)] w w' ∧ Own vv w' 0 41 A_data c_data hs_data ∧ RelD deV w' hs_data data) _ _ ⟨start, r, rfl, rfl, h0_5, (GrL.refl _), hdata, hr_data⟩ (by repeat (first | exact Sub.nil | refine Sub.cons rfl ?_)) ?_
        clear h0_5
        rintro _ _ w15 ⟨start2, r2, rfl, rfl, hI5, gr11, k23, k24⟩
        have H := HR5 start2 r2 hI5
        refine WC.seq ?_
        refine WC.seq ?_
        refine WC.region ?_
        refine WL.y rfl (Yld.pure tab_ok rfl) ?_
        refine WL.y rfl (Yld.pure tab_ok rfl) ?_
        refine WL.y rfl (Yld.pure tab_ok rfl) ?_
        refine WL.nil (WX.then_normal ?_)
        refine WC.cond rfl (fun b9 => ?_) (fun b9 => ?_)
        · replace H := H.1 (of_decide_eq_true b9)
          refine WC.skip (WX.then_normal ?_)
          refine WC.block ?_
          refine WC.seq ?_
          refine WC.region ?_
          refine WL.y rfl (Yld.pure tab_ok rfl) ?_
          refine WL.y rfl (Yld.pure tab_ok rfl) ?_
          obtain ⟨h35, H⟩ := H
          refine WL.y rfl (Yld.add rfl rfl h35) ?_
          obtain ⟨h36, H⟩ := H
          refine WL.y rfl (Yld.conv tab_ok rfl rfl rfl h36) ?_
          refine WL.y rfl (Yld.shr rfl rfl (by omega)) ?_
          obtain ⟨h37, H⟩ := H
          refine WL.y rfl (Yld.conv tab_ok rfl rfl rfl h37) ?_
          refine WL.y rfl (Yld.pure tab_ok rfl) ?_
          refine WL.nil (WX.then_normal ?_)
          refine WC.seq ?_
          refine WC.chainF (fun k => !(Nat.beq k 11)) (LD [6, 10] (fun w' => Rd vv w' A_data c_data hs_data)) mixed (by kernel_rfl) (fun k w' h _ => (rd_eqv h k23.rd)) ?_
          refine WJ.y rfl rfl (fun w' hw' => Yld.pure tab_ok rfl) ?_
          refine WJ.y rfl rfl (fun w' hw' => Yld.pure tab_ok rfl) ?_
          refine WJ.y rfl rfl (fun w' hw' => Yld.pure tab_ok rfl) ?_
          refine WJ.y rfl rfl (fun w' hw' => Yld.pure tab_ok rfl) ?_
          obtain ⟨h38, H⟩ := H
          refine WJ.y rfl rfl (fun w' hw' => Yld.sub rfl rfl h38) ?_
          obtain ⟨h39, H⟩ := H
          refine WJ.y rfl rfl (fun w' hw' => Yld.iaddrW tab_ok k23.rd rfl rfl hr_data.1.symm rfl h39.1 h39.2) ?_
          obtain ⟨⟨v_el9, F_el9⟩, eh9, hR9⟩ := RelD.at k24 vh0 PV.nil (j := ((((shrV .u64 (a + b) 1) + m) - (1 : Int)) - (shrV .u64 (start2 + r2) 1)).toNat) (Nat.lt_of_lt_of_eq (iltN h39 hr_data.1.symm) k24.1)
          have hv9 : RelD deV w15 [(v_el9, F_el9)] [data.getD (((((shrV .u64 (a + b) 1) + m) - (1 : Int)) - (shrV .u64 (start2 + r2) 1)).toNat) PV.nil] := RelD.cons hR9 RelD.nil
          refine WJ.y rfl rfl (fun w' hw' => Yld.to (v := v_el9.1) (Yld.iload vh0 tab_ok (hw' rfl) rfl rfl (iltN h39 hr_data.1.symm)) (congrArg vv eh9)) ?_
          refine WJ.y rfl rfl (fun w' hw' => Yld.pure tab_ok rfl) ?_
          refine WJ.y rfl rfl (fun w' hw' => Yld.pure tab_ok rfl) ?_
          obtain ⟨h40, H⟩ := H
          refine WJ.y rfl rfl (fun w' hw' => Yld.iaddrW tab_ok k23.rd rfl rfl hr_data.1.symm rfl h40.1 h40.2) ?_
          obtain ⟨⟨v_el10, F_el10⟩, eh10, hR10⟩ := RelD.at k24 vh0 PV.nil (j := (shrV .u64 (start2 + r2) 1).toNat) (Nat.lt_of_lt_of_eq (iltN h40 hr_data.1.symm) k24.1)
          have hv10 : RelD deV w15 [(v_el10, F_el10)] [data.getD ((shrV .u64 (start2 + r2) 1).toNat) PV.nil] := RelD.cons hR10 RelD.nil
          refine WJ.y rfl rfl (fun w' hw' => Yld.to (v := v_el10.1) (Yld.iload vh0 tab_ok (hw' rfl) rfl rfl (iltN h40 hr_data.1.symm)) (congrArg vv eh10)) ?_
          refine WJ.callv rfl rfl rfl rfl (W_list_Sorted_1 (hG.goL gr11 hP).ok hS3 hS7 hv9 hv10 (hcap0.goL gr11 hap1) (hcap1.goL gr11 hap2) H) (fun v w' h w2 e => DD.keep (Rd.grown k23.rd (gr_eqv h.1 e))) ?_
          rintro _ w16 ⟨hg11, t169, rfl, H⟩
          have gr12 := GrL.add0 gr11 hg11
          have k25 := k23.grown hg11
          have k26 := k24.grown hg11
          refine WJ.y rfl rfl (fun w' hw' => Yld.pure tab_ok rfl) ?_
          refine WJ.y rfl rfl (fun w' hw' => Yld.pure tab_ok rfl) ?_
          refine WJ.nil (WX.then_normal ?_)
          refine WC.cond rfl (fun b10 => ?_) (fun b10 => ?_)
          · replace H := H.1 (nd_true b10)
            refine WC.region ?_
            refine WL.y rfl (Yld.pure tab_ok rfl) ?_
            obtain ⟨h41, H⟩ := H
            refine WL.y rfl (Yld.add rfl rfl h41) ?_
            refine WL.y rfl (Yld.pure tab_ok rfl) ?_
            refine WL.nil (WX.block_normal ?_)
            exact WX.roundF _ ⟨(shrV .u64 (start2 + r2) 1) + (1 : Int), r2, rfl, rfl, H.1, gr12, k25, k26⟩ (by repeat (first | exact Sub.nil | refine Sub.cons rfl ?_)) H.2
          · replace H := H.2 (nd_false b10)
            refine WC.region ?_
            refine WL.y rfl (Yld.pure tab_ok rfl) ?_
            refine WL.y rfl (Yld.pure tab_ok rfl) ?_
            refine WL.nil (WX.block_normal ?_)
            exact WX.roundF _ ⟨start2, shrV .u64 (start2 + r2) 1, rfl, rfl, H.1, gr12, k25, k26⟩ (by repeat (first | exact Sub.nil | refine Sub.cons rfl ?_)) H.2
        · replace H := H.2 (of_decide_eq_false b9)
          refine WC.exit (WX.then_exit (WX.then_exit (WX.block_same (WX.then_normal ?_))))
          refine WC.seq ?_
          refine WC.region ?_
          refine WL.y rfl (Yld.pure tab_ok rfl) ?_
          refine WL.y rfl (Yld.pure tab_ok rfl) ?_
          obtain ⟨h42, H⟩ := H
          refine WL.y rfl (Yld.sub rfl rfl h42) ?_
          refine WL.y rfl (Yld.pure tab_ok rfl) ?_
          refine WL.nil (WX.then_normal ?_)
          refine WC.seq ?_
          obtain ⟨J2, H, hJ2⟩ := H
          refine WC.midF (fun L' w' => ∃ (xs : List PV), ∃ (hs3 : List VH), L' = [(0, .slice A_data data.length c_data), (1, .int .i64 a), (3, .int .i64 b), (4, .func (.func 39) #[] #[.pointer (some ⟨g_cap0, 0, none⟩), .pointer (some ⟨g_cap1, 0, none⟩)]), (18, .int .i64 (shrV .u64 (a + b) 1)), (20, .int .i64 start2), (24, .int .i64 (((shrV .u64 (a + b) 1) + m) - start2))] ∧ J2 xs ∧ data.length = xs.length ∧ GrL [(blk A_data)] w w' ∧ Own vv w' 0 41 A_data c_data hs3 ∧ RelD deV w' hs3 xs ∧ DnD deV hs3 xs (blk A_data) ∧ OrD (fun p => DnD deV hs_data data p) deV hs3 xs w.heap.size) ?_ (fun hQ => ?_)
          · clear H
            rintro _ w17 ⟨xs, hs3, rfl, H, hn_xs, gr13, k27, k28, dj7, or3⟩
            replace H := hJ2 xs H
            replace H := H hn_xs
            refine WX.then_normal ?_
            refine WC.seq ?_
            obtain ⟨J3, H, hJ3⟩ := H
            refine WC.midF (fun L' w' => ∃ (xs2 : List PV), ∃ (hs4 : List VH), L' = [(0, .slice A_data data.length c_data), (3, .int .i64 b), (4, .func (.func 39) #[] #[.pointer (some ⟨g_cap0, 0, none⟩), .pointer (some ⟨g_cap1, 0, none⟩)]), (18, .int .i64 (shrV .u64 (a + b) 1)), (24, .int .i64 (((shrV .u64 (a + b) 1) + m) - start2))] ∧ J3 xs2 ∧ data.length = xs2.length ∧ GrL [(blk A_data)] w w' ∧ Own vv w' 0 41 A_data c_data hs4 ∧ RelD deV w' hs4 xs2 ∧ DnD deV hs4 xs2 (blk A_data) ∧ OrD (fun p => DnD deV hs_data data p) deV hs4 xs2 w.heap.size) ?_ (fun hQ => ?_)
            · clear H
              rintro _ w18 ⟨xs2, hs4, rfl, H, hn_xs2, gr14, k29, k30, dj8, or4⟩
              replace H := hJ3 xs2 H
              replace H := H hn_xs2
              refine WX.then_normal ?_
              refine WC.seq ?_
              refine WC.region ?_
              refine WL.y rfl (Yld.pure tab_ok rfl) ?_
              refine WL.y rfl (Yld.pure tab_ok rfl) ?_
              refine WL.y rfl (Yld.pure tab_ok rfl) ?_
              refine WL.y rfl (Yld.pure tab_ok rfl) ?_
              refine WL.midF 4 (fun L' w' => ∃ q1 : Bool, L' = [(213, .bool q1), (0, .slice A_data data.length c_data), (3, .int .i64 b), (4, .func (.func 39) #[] #[.pointer (some ⟨g_cap0, 0, none⟩), .pointer (some ⟨g_cap1, 0, none⟩)]), (18, .int .i64 (shrV .u64 (a + b) 1)), (24, .int .i64 (((shrV .u64 (a + b) 1) + m) - start2))] ∧ ((decide ((shrV .u64 (a + b) 1) < (((shrV .u64 (a + b) 1) + m) - start2))) && (decide ((((shrV .u64 (a + b) 1) + m) - start2) < b))) = q1 ∧ w18 = w') ?_ (fun hQ => ?_)
              · rintro _ _ ⟨q1, rfl, rfl, rfl⟩
                refine WL.nil (WX.then_normal ?_)
                refine WC.cond rfl (fun b11 => ?_) (fun b11 => ?_)
                · replace H := H.1 (b11)
                  refine WC.region ?_
                  refine WL.y rfl (Yld.pure tab_ok rfl) ?_
                  refine WL.y rfl (Yld.pure tab_ok rfl) ?_
                  refine WL.y rfl (Yld.pure tab_ok rfl) ?_
                  refine WL.y rfl (Yld.pure tab_ok rfl) ?_
                  refine WL.y rfl (Yld.pure tab_ok rfl) ?_
                  refine WL.call rfl rfl (WR (hG.goL gr14 hP) (Nat.le_trans hB (GrL.sizeL gr14)) (apC (InP.toGe (InP.mem (List.Mem.head _)) hP hB) apN) hS3 hS7 k29 ((hn_xs2.trans k30.1.symm).trans k30.1) k30 (hcap0.goL gr14 hap1) (hcap1.goL gr14 hap2) (apC dj8 apN) (apC (InP.dj (InP.mem (List.Mem.head _)) hcap0.lt' hap1).symm apN) (apC (InP.dj (InP.mem (List.Mem.head _)) hcap1.lt' hap2).symm apN) H) ?_
                  rintro _ w19 ⟨hgl1, ys, hs_ys, rfl, hO5, hl1, hr5, ho1, dj9, H⟩
                  have gr15 : GrL [(blk A_data)] w w19 := GrL.modL gr14 hgl1 (apC (InP.mem (List.Mem.head _)) apN)
                  have k31 := k30.goL hgl1 (apC dj8 apN)
                  refine WL.nil ?_
                  exact WX.end0 rfl ⟨gr15, ys, hs_ys, rfl, hO5, ((hn_xs2.trans k30.1.symm).trans (k30.1.trans hl1.symm)).symm, hr5, (fun p_ hp_ v0_ => have q_ := v0_; ho1 p_ (fun g_ e_ => Nat.lt_of_lt_of_le (hp_ g_ e_) (GrL.sizeL gr14)) (or4 p_ hp_ q_)), dj9, H⟩
                · replace H := H.2 (b11)
                  refine WC.skip ?_
                  exact WX.end0 rfl ⟨gr14, xs2, hs4, rfl, k29, (hn_xs2.trans k30.1.symm).symm, k30, (fun p_ hp_ v0_ => or4 p_ hp_ v0_), dj8, H⟩
              · clear H
                rcases Bool.eq_false_or_eq_true (decide ((shrV .u64 (a + b) 1) < (((shrV .u64 (a + b) 1) + m) - start2))) with b12 | b12
                · refine WL.gyes rfl rfl (okb b12) rfl (Yld.pure tab_ok rfl) ?_
                  refine WL.gyes rfl rfl (okb b12) rfl (Yld.pure tab_ok rfl) ?_
                  refine WL.gyes rfl rfl (okb b12) rfl (Yld.pure tab_ok rfl) ?_
                  refine WL.y rfl (Yld.pickT (okb b12) rfl) ?_
                  exact WL.weaken (by repeat (first | exact Sub.nil | refine Sub.cons rfl ?_)) (hQ _ _ ⟨decide ((((shrV .u64 (a + b) 1) + m) - start2) < b), rfl, by rw [b12] <;> rfl, rfl⟩)
                · refine WL.gno rfl rfl (okb b12) rfl ?_
                  refine WL.gno rfl rfl (okb b12) rfl ?_
                  refine WL.gno rfl rfl (okb b12) rfl ?_
                  refine WL.y rfl (Yld.pickF (okb b12) rfl) ?_
                  exact WL.weaken (by repeat (first | exact Sub.nil | refine Sub.cons rfl ?_)) (hQ _ _ ⟨false, rfl, by rw [b12] <;> rfl, rfl⟩)
            · clear hJ3
              refine WC.seq ?_
              refine WC.region ?_
              refine WL.y rfl (Yld.pure tab_ok rfl) ?_
              refine WL.y rfl (Yld.pure tab_ok rfl) ?_
              refine WL.y rfl (Yld.pure tab_ok rfl) ?_
              refine WL.y rfl (Yld.pure tab_ok rfl) ?_
              refine WL.midF 4 (fun L' w' => ∃ q2 : Bool, L' = [(199, .bool q2), (0, .slice A_data data.length c_data), (1, .int .i64 a), (3, .int .i64 b), (4, .func (.func 39) #[] #[.pointer (some ⟨g_cap0, 0, none⟩), .pointer (some ⟨g_cap1, 0, none⟩)]), (18, .int .i64 (shrV .u64 (a + b) 1)), (20, .int .i64 start2), (24, .int .i64 (((shrV .u64 (a + b) 1) + m) - start2))] ∧ ((decide (a < start2)) && (decide (start2 < (shrV .u64 (a + b) 1)))) = q2 ∧ w17 = w') ?_ (fun hQ => ?_)
              · rintro _ _ ⟨q2, rfl, rfl, rfl⟩
                refine WL.nil (WX.then_normal ?_)
                refine WC.cond rfl (fun b13 => ?_) (fun b13 => ?_)
                · replace H := H.1 (b13)
                  refine WC.region ?_
                  refine WL.y rfl (Yld.pure tab_ok rfl) ?_
                  refine WL.y rfl (Yld.pure tab_ok rfl) ?_
                  refine WL.y rfl (Yld.pure tab_ok rfl) ?_
                  refine WL.y rfl (Yld.pure tab_ok rfl) ?_
                  refine WL.y rfl (Yld.pure tab_ok rfl) ?_
                  refine WL.call rfl rfl (WR (hG.goL gr13 hP) (Nat.le_trans hB (GrL.sizeL gr13)) (apC (InP.toGe (InP.mem (List.Mem.head _)) hP hB) apN) hS3 hS7 k27 ((hn_xs.trans k28.1.symm).trans k28.1) k28 (hcap0.goL gr13 hap1) (hcap1.goL gr13 hap2) (apC dj7 apN) (apC (InP.dj (InP.mem (List.Mem.head _)) hcap0.lt' hap1).symm apN) (apC (InP.dj (InP.mem (List.Mem.head _)) hcap1.lt' hap2).symm apN) H) ?_
                  rintro _ w20 ⟨hgl2, ys2, hs_ys2, rfl, hO6, hl2, hr6, ho2, dj10, H⟩
                  have gr16 : GrL [(blk A_data)] w w20 := GrL.modL gr13 hgl2 (apC (InP.mem (List.Mem.head _)) apN)
                  have k32 := k28.goL hgl2 (apC dj7 apN)
                  refine WL.nil ?_
                  exact WX.weaken (by repeat (first | exact Sub.nil | refine Sub.cons rfl ?_)) (hQ _ _ ⟨ys2, hs_ys2, rfl, H, (((hn_xs.trans k28.1.symm).trans (k28.1.trans hl2.symm)).trans hr6.1), gr16, hO6, hr6, dj10, (fun p_ hp_ q_ => ho2 p_ (fun g_ e_ => Nat.lt_of_lt_of_le (hp_ g_ e_) (GrL.sizeL gr13)) (or3 p_ hp_ q_))⟩)
                · replace H := H.2 (b13)
                  refine WC.skip ?_
                  exact WX.weaken (by repeat (first | exact Sub.nil | refine Sub.cons rfl ?_)) (hQ _ _ ⟨xs, hs3, rfl, H, ((hn_xs.trans k28.1.symm).trans k28.1), gr13, k27, k28, dj7, or3⟩)
              · clear H
                rcases Bool.eq_false_or_eq_true (decide (a < start2)) with b14 | b14
                · refine WL.gyes rfl rfl (okb b14) rfl (Yld.pure tab_ok rfl) ?_
                  refine WL.gyes rfl rfl (okb b14) rfl (Yld.pure tab_ok rfl) ?_
                  refine WL.gyes rfl rfl (okb b14) rfl (Yld.pure tab_ok rfl) ?_
                  refine WL.y rfl (Yld.pickT (okb b14) rfl) ?_
                  exact WL.weaken (by repeat (first | exact Sub.nil | refine Sub.cons rfl ?_)) (hQ _ _ ⟨decide (start2 < (shrV .u64 (a + b) 1)), rfl, by rw [b14] <;> rfl, rfl⟩)
                · refine WL.gno rfl rfl (okb b14) rfl ?_
                  refine WL.gno rfl rfl (okb b14) rfl ?_
                  refine WL.gno rfl rfl (okb b14) rfl ?_
                  refine WL.y rfl (Yld.pickF (okb b14) rfl) ?_
                  exact WL.weaken (by repeat (first | exact Sub.nil | refine Sub.cons rfl ?_)) (hQ _ _ ⟨false, rfl, by rw [b14] <;> rfl, rfl⟩)
          · clear hJ2
            refine WC.seq ?_
            refine WC.region ?_
            refine WL.y rfl (Yld.pure tab_ok rfl) ?_
            refine WL.y rfl (Yld.pure tab_ok rfl) ?_
            refine WL.y rfl (Yld.pure tab_ok rfl) ?_
            refine WL.y rfl (Yld.pure tab_ok rfl) ?_
            refine WL.midF 4 (fun L' w' => ∃ q3 : Bool, L' = [(185, .bool q3), (0, .slice A_data data.length c_data), (1, .int .i64 a), (2, .int .i64 m), (3, .int .i64 b), (4, .func (.func 39) #[] #[.pointer (some ⟨g_cap0, 0, none⟩), .pointer (some ⟨g_cap1, 0, none⟩)]), (18, .int .i64 (shrV .u64 (a + b) 1)), (20, .int .i64 start2), (24, .int .i64 (((shrV .u64 (a + b) 1) + m) - start2))] ∧ ((decide (start2 < m)) && (decide (m < (((shrV .u64 (a + b) 1) + m) - start2)))) = q3 ∧ w15 = w') ?_ (fun hQ => ?_)
            · rintro _ _ ⟨q3, rfl, rfl, rfl⟩
              refine WL.nil (WX.then_normal ?_)
              refine WC.cond rfl (fun b15 => ?_) (fun b15 => ?_)
              · replace H := H.1 (b15)
                refine WC.region ?_
                refine WL.y rfl (Yld.pure tab_ok rfl) ?_
                refine WL.y rfl (Yld.pure tab_ok rfl) ?_
                refine WL.y rfl (Yld.pure tab_ok rfl) ?_
                refine WL.y rfl (Yld.pure tab_ok rfl) ?_
                refine WL.y rfl (Yld.pure tab_ok rfl) ?_
                refine WL.call rfl rfl (W_slices_rotateCmpFunc_val_Value_list_Sorted_1 k23 rfl k24 (hcap0.goL gr11 hap1) (hcap1.goL gr11 hap2) (apC (hap0 _ (List.Mem.head _)) apN) (apC (InP.dj (InP.mem (List.Mem.head _)) hcap0.lt' hap1).symm apN) (apC (InP.dj (InP.mem (List.Mem.head _)) hcap1.lt' hap2).symm apN) H) ?_
                rintro _ w21 ⟨hgl3, ys3, hs_ys3, rfl, hO7, hl3, hr7, ho3, dj11, H⟩
                have gr17 : GrL [(blk A_data)] w w21 := GrL.modL gr11 hgl3 (apC (InP.mem (List.Mem.head _)) apN)
                have k33 := k24.goL hgl3 (apC (hap0 _ (List.Mem.head _)) apN)
                refine WL.nil ?_
                exact WX.weaken (by repeat (first | exact Sub.nil | refine Sub.cons rfl ?_)) (hQ _ _ ⟨ys3, hs_ys3, rfl, H, ((hr_data.1.symm.trans (k24.1.trans hl3.symm)).trans hr7.1), gr17, hO7, hr7, dj11, (fun p_ hp_ q_ => ho3 p_ (fun g_ e_ => Nat.lt_of_lt_of_le (hp_ g_ e_) (GrL.sizeL gr11)) (q_))⟩)
              · replace H := H.2 (b15)
                refine WC.skip ?_
                exact WX.weaken (by repeat (first | exact Sub.nil | refine Sub.cons rfl ?_)) (hQ _ _ ⟨data, hs_data, rfl, H, rfl, gr11, k23, k24, (hap0 _ (List.Mem.head _)), (fun p_ hp_ q_ => q_)⟩)
            · clear H
              rcases Bool.eq_false_or_eq_true (decide (start2 < m)) with b16 | b16
              · refine WL.gyes rfl rfl (okb b16) rfl (Yld.pure tab_ok rfl) ?_
                refine WL.gyes rfl rfl (okb b16) rfl (Yld.pure tab_ok rfl) ?_
                refine WL.gyes rfl rfl (okb b16) rfl (Yld.pure tab_ok rfl) ?_
                refine WL.y rfl (Yld.pickT (okb b16) rfl) ?_
                exact WL.weaken (by repeat (first | exact Sub.nil | refine Sub.cons rfl ?_)) (hQ _ _ ⟨decide (m < (((shrV .u64 (a + b) 1) + m) - start2)), rfl, by rw [b16] <;> rfl, rfl⟩)
              · refine WL.gno rfl rfl (okb b16) rfl ?_
                refine WL.gno rfl rfl (okb b16) rfl ?_
                refine WL.gno rfl rfl (okb b16) rfl ?_
                refine WL.y rfl (Yld.pickF (okb b16) rfl) ?_
                exact WL.weaken (by repeat (first | exact Sub.nil | refine Sub.cons rfl ?_)) (hQ _ _ ⟨false, rfl, by rw [b16] <;> rfl, rfl⟩)
      · clear hJ1
        refine WC.seq ?_
        refine WC.region ?_
        refine WL.y rfl (Yld.pure tab_ok rfl) ?_
        refine WL.y rfl (Yld.pure tab_ok rfl) ?_
        refine WL.y rfl (Yld.pure tab_ok rfl) ?_
        refine WL.nil (WX.then_normal ?_)
        refine WC.cond rfl (fun b17 => ?_) (fun b17 => ?_)
        · replace H := H.1 (of_decide_eq_true b17)
          refine WC.seq ?_
          refine WC.region ?_
          refine WL.y rfl (Yld.pure tab_ok rfl) ?_
          refine WL.y rfl (Yld.pure tab_ok rfl) ?_
          obtain ⟨h43, H⟩ := H
          refine WL.y rfl (Yld.sub rfl rfl h43) ?_
          refine WL.y rfl (Yld.pure tab_ok rfl) ?_
          refine WL.nil (WX.then_normal ?_)
          refine WC.region ?_
          refine WL.y rfl (Yld.pure tab_ok rfl) ?_
          refine WL.y rfl (Yld.pure tab_ok rfl) ?_
          refine WL.nil ?_
          exact WX.weaken (by repeat (first | exact Sub.nil | refine Sub.cons rfl ?_)) (hQ _ _ ⟨((shrV .u64 (a + b) 1) + m) - b, shrV .u64 (a + b) 1, rfl, H, rfl⟩)
        · replace H := H.2 (of_decide_eq_false b17)
          refine WC.seq ?_
          refine WC.region ?_
          refine WL.y rfl (Yld.pure tab_ok rfl) ?_
          refine WL.y rfl (Yld.pure tab_ok rfl) ?_
          refine WL.nil (WX.then_normal ?_)
          refine WC.region ?_
          refine WL.y rfl (Yld.pure tab_ok rfl) ?_
          refine WL.y rfl (Yld.pure tab_ok rfl) ?_
          refine WL.nil ?_
          exact WX.weaken (by repeat (first | exact Sub.nil | refine Sub.cons rfl ?_)) (hQ _ _ ⟨a, m, rfl, H, rfl⟩)
theorem WF_slices_symMergeCmpFunc_val_Value_list_Sorted_1 {S : List Nat} : ∀ (n : Nat) {B : Nat} {w : World} {data : List PV} {A_data : Option Addr} {c_data : Nat} {hs_data : List VH} {a : Int} {m : Int} {b : Int} {g_cap0 : Nat} {cap0 : Bool} {g_cap1 : Nat} {cap1 : Bool} {n_data : Nat} {K : (List PV) → Prop} (hG : GB S B w) (hB : B ≤ w.heap.size) (hP : AllP (fun p => Ge p B) [(blk A_data)]) (hS3 : 3 ∈ S) (hS7 : 7 ∈ S) (hdata : Own vv w 0 41 A_data c_data hs_data) (hn_data : n_data = data.length) (hr_data : RelD deV w hs_data data) (hcap0 : Bl w g_cap0 4 [.bool cap0]) (hcap1 : Bl w g_cap1 4 [.bool cap1]) (hap0 : AllP (DnD deV hs_data data) [(blk A_data)]) (hap1 : AllP (Dj (some g_cap0)) [(blk A_data)]) (hap2 : AllP (Dj (some g_cap1)) [(blk A_data)]) (H : MF_slices_symMergeCmpFunc_val_Value_list_Sorted_1 n data a m b cap0 cap1 K), Fn Tryd.prog 73 ⟨[.slice A_data n_data c_data, .int .i64 a, .int .i64 m, .int .i64 b, .func (.func 39) #[] #[.pointer (some ⟨g_cap0, 0, none⟩), .pointer (some ⟨g_cap1, 0, none⟩)]]⟩ w (fun v w' => GrL [(blk A_data)] w w' ∧ ∃ (ys4 : List PV), ∃ (hs_ys4 : List VH), v = .tuple #[] ∧ Own vv w' 0 41 A_data c_data hs_ys4 ∧ hs_ys4.length = data.length ∧ RelD deV w' hs_ys4 ys4 ∧ (∀ p : Option Nat, Lt p w.heap.size → DnD deV hs_data data p → DnD deV hs_ys4 ys4 p) ∧ DnD deV hs_ys4 ys4 (blk A_data) ∧ K ys4)
  | 0 => by
    intros
    rename_i H
    exact (show False from H).elim
  | n + 1 => W_slices_symMergeCmpFunc_val_Value_list_Sorted_1_step (MR := MF_slices_symMergeCmpFunc_val_Value_list_Sorted_1 n) (WF_slices_symMergeCmpFunc_val_Value_list_Sorted_1 n)
theorem W_slices_symMergeCmpFunc_val_Value_list_Sorted_1 {S : List Nat} {B : Nat} {w : World} {data : List PV} {A_data : Option Addr} {c_data : Nat} {hs_data : List VH} {a : Int} {m : Int} {b : Int} {g_cap0 : Nat} {cap0 : Bool} {g_cap1 : Nat} {cap1 : Bool} {n_data : Nat} {K : (List PV) → Prop} (hG : GB S B w) (hB : B ≤ w.heap.size) (hP : AllP (fun p => Ge p B) [(blk A_data)]) (hS3 : 3 ∈ S) (hS7 : 7 ∈ S) (hdata : Own vv w 0 41 A_data c_data hs_data) (hn_data : n_data = data.length) (hr_data : RelD deV w hs_data data) (hcap0 : Bl w g_cap0 4 [.bool cap0]) (hcap1 : Bl w g_cap1 4 [.bool cap1]) (hap0 : AllP (DnD deV hs_data data) [(blk A_data)]) (hap1 : AllP (Dj (some g_cap0)) [(blk A_data)]) (hap2 : AllP (Dj (some g_cap1)) [(blk A_data)]) (H : M_slices_symMergeCmpFunc_val_Value_list_Sorted_1 data a m b cap0 cap1 K) : Fn Tryd.prog 73 ⟨[.slice A_data n_data c_data, .int .i64 a, .int .i64 m, .int .i64 b, .func (.func 39) #[] #[.pointer (some ⟨g_cap0, 0, none⟩), .pointer (some ⟨g_cap1, 0, none⟩)]]⟩ w (fun v w' => GrL [(blk A_data)] w w' ∧ ∃ (ys4 : List PV), ∃ (hs_ys4 : List VH), v = .tuple #[] ∧ Own vv w' 0 41 A_data c_data hs_ys4 ∧ hs_ys4.length = data.length ∧ RelD deV w' hs_ys4 ys4 ∧ (∀ p : Option Nat, Lt p w.heap.size → DnD deV hs_data data p → DnD deV hs_ys4 ys4 p) ∧ DnD deV hs_ys4 ys4 (blk A_data) ∧ K ys4) := by
  obtain ⟨n, H⟩ := H
  exact WF_slices_symMergeCmpFunc_val_Value_list_Sorted_1 n hG hB hP hS3 hS7 hdata hn_data hr_data hcap0 hcap1 hap0 hap1 hap2 H

set_option maxHeartbeats 8000000 in
theorem W_slices_stableCmpFunc_val_Value_list_Sorted_1 {S : List Nat} {B : Nat} {w : World} {data : List PV} {A_data : Option Addr} {c_data : Nat} {hs_data : List VH} {n : Int} {g_cap0 : Nat} {cap0 : Bool} {g_cap1 : Nat} {cap1 : Bool} {n_data : Nat} {K : (List PV) → Prop} (hG : GB S B w) (hB : B ≤ w.heap.size) (hP : AllP (fun p => Ge p B) [(blk A_data)]) (hS3 : 3 ∈ S) (hS7 : 7 ∈ S) (hdata : Own vv w 0 41 A_data c_data hs_data) (hn_data : n_data = data.length) (hr_data : RelD deV w hs_data data) (hcap0 : Bl w g_cap0 4 [.bool cap0]) (hcap1 : Bl w g_cap1 4 [.bool cap1]) (hap0 : AllP (DnD deV hs_data data) [(blk A_data)]) (hap1 : AllP (Dj (some g_cap0)) [(blk A_data)]) (hap2 : AllP (Dj (some g_cap1)) [(blk A_data)]) (H : M_slices_stableCmpFunc_val_Value_list_Sorted_1 data n cap0 cap1 K) : Fn Tryd.prog 60 ⟨[.slice A_data n_data c_data, .int .i64 n, .func (.func 39) #[] #[.pointer (some ⟨g_cap0, 0, none⟩), .pointer (some ⟨g_cap1, 0, none⟩)]]⟩ w (fun v w' => GrL [(blk A_data)] w w' ∧ ∃ (ys5 : List PV), ∃ (hs_ys5 : List VH), v = .tuple #[] ∧ Own vv w' 0 41 A_data c_data hs_ys5 ∧ hs_ys5.length = data.length ∧ RelD deV w' hs_ys5 ys5 ∧ (∀ p : Option Nat, Lt p w.heap.size → DnD deV hs_data data p → DnD deV hs_ys5 ys5 p) ∧ DnD deV hs_ys5 ys5 (blk A_data) ∧ K ys5) := by
  subst hn_data
  unfold M_slices_stableCmpFunc_val_Value_list_Sorted_1 at H
  refine Fn.enter (by kernel_rfl) Tryd.func60 rfl Tryd.ntmps60 rfl ?_
  replace H := H (by rw [← hr_data.1]; exact Nat.le_trans hdata.rd.cap hdata.rd.max)
  have hNoAt : AllP (NoAt w) [(blk A_data)] := (apC (NoAt.own hdata rfl) apN)
  refine WC.seq ?_
  refine WC.region ?_
  refine WL.y rfl (Yld.pure tab_ok rfl) ?_
  refine WL.nil (WX.then_normal ?_)
  refine WC.seq ?_
  refine WC.region ?_
  refine WL.y rfl (Yld.pure tab_ok rfl) ?_
  refine WL.y rfl (Yld.pure tab_ok rfl) ?_
  refine WL.y rfl (Yld.pure tab_ok rfl) ?_
  refine WL.nil (WX.then_normal ?_)
  refine WC.seq ?_
  refine WC.block ?_
  obtain ⟨I1, mu1, h0_1, HR1⟩ := H
  refine WC.loopF (fun n' L' w' => ∃ (a : Int), ∃ (b : Int), ∃ (data2 : List PV), ∃ (hs : List VH), n' = mu1 a b data2 ∧ L' = [(0, .slice A_data data.length c_data), (1, .int .i64 n), (2, .func (.func 39) #[] #[.pointer (some ⟨g_cap0, 0, none⟩), .pointer (some ⟨g_cap1, 0, none⟩)]), (6, .int .i64 (20 : Int)), (7, .int .i64 a), (8, .int .i64 b)] ∧ I1 a b data2 ∧ data.length = data2.length ∧ GrL [(blk A_data)] w w' ∧ Own vv w' 0 41 A_data c_data hs ∧ RelD deV w' hs data2 ∧ DnD deV hs data2 (blk A_data) ∧ OrD (fun p => DnD deV hs_data data p) deV hs data2 w.heap.size) _ _ ⟨(0 : Int), (20 : Int), data, hs_data, rfl, rfl, h0_1, rfl, (GrL.refl _), hdata, hr_data, (hap0 _ (List.Mem.head _)), (fun p_ hp_ q_ => q_)⟩ (by repeat (first | exact Sub.nil | refine Sub.cons rfl ?_)) ?_
  clear h0_1
  rintro _ _ w1 ⟨a, b, data2, hs, rfl, rfl, hI1, hn_data2, gr1, k1, k2, dj1, or1⟩
  have H := HR1 a b data2 hI1
  replace H := H hn_data2
  refine WC.seq ?_
  refine WC.seq ?_
  refine WC.region ?_
  refine WL.y rfl (Yld.pure tab_ok rfl) ?_
  refine WL.y rfl (Yld.pure tab_ok rfl) ?_
  refine WL.y rfl (Yld.pure tab_ok rfl) ?_
  refine WL.nil (WX.then_normal ?_)
  refine WC.cond rfl (fun b1 => ?_) (fun b1 => ?_)
  · replace H := H.1 (of_decide_eq_true b1)
    refine WC.skip (WX.then_normal ?_)
    refine WC.block ?_
    refine WC.seq ?_
    refine WC.region ?_
    refine WL.y rfl (Yld.pure tab_ok rfl) ?_
    refine WL.y rfl (Yld.pure tab_ok rfl) ?_
    refine WL.y rfl (Yld.pure tab_ok rfl) ?_
    refine WL.y rfl (Yld.pure tab_ok rfl) ?_
    refine WL.call rfl rfl (W_slices_insertionSortCmpFunc_val_Value_list_Sorted_1 (hG.goL gr1 hP) (Nat.le_trans hB (GrL.sizeL gr1)) (apC (InP.toGe (InP.mem (List.Mem.head _)) hP hB) apN) hS3 hS7 k1 ((hn_data2.trans k2.1.symm).trans k2.1) k2 (hcap0.goL gr1 hap1) (hcap1.goL gr1 hap2) (apC dj1 apN) (apC (InP.dj (InP.mem (List.Mem.head _)) hcap0.lt' hap1).symm apN) (apC (InP.dj (InP.mem (List.Mem.head _)) hcap1.lt' hap2).symm apN) H) ?_
    rintro _ w2 ⟨hgl1, ys, hs_ys, rfl, hO1, hl1, hr1, ho1, dj2, H⟩
    have gr2 : GrL [(blk A_data)] w w2 := GrL.modL gr1 hgl1 (apC (InP.mem (List.Mem.head _)) apN)
    have k3 := k2.goL hgl1 (apC dj1 apN)
    refine WL.nil (WX.then_normal ?_)
    refine WC.seq ?_
    refine WC.region ?_
    refine WL.y rfl (Yld.pure tab_ok rfl) ?_
    refine WL.y rfl (Yld.pure tab_ok rfl) ?_
    refine WL.nil (WX.then_normal ?_)
    refine WC.region ?_
    refine WL.y rfl (Yld.pure tab_ok rfl) ?_
    refine WL.y rfl (Yld.pure tab_ok rfl) ?_
    obtain ⟨h1, H⟩ := H
    refine WL.y rfl (Yld.add rfl rfl h1) ?_
    refine WL.y rfl (Yld.pure tab_ok rfl) ?_
    refine WL.nil (WX.block_normal ?_)
    exact WX.roundF _ ⟨b, b + (20 : Int), ys, hs_ys, rfl, rfl, H.1, (((hn_data2.trans k2.1.symm).trans (k2.1.trans hl1.symm)).trans hr1.1), gr2, hO1, hr1, dj2, (fun p_ hp_ q_ => ho1 p_ (fun g_ e_ => Nat.lt_of_lt_of_le (hp_ g_ e_) (GrL.sizeL gr1)) (or1 p_ hp_ q_))⟩ (by repeat (first | exact Sub.nil | refine Sub.cons rfl ?_)) H.2
  · replace H := H.2 (of_decide_eq_false b1)
    refine WC.exit (WX.then_exit (WX.then_exit (WX.block_same (WX.then_normal ?_))))
    refine WC.seq ?_
    refine WC.region ?_
    refine WL.y rfl (Yld.pure tab_ok rfl) ?_
    refine WL.y rfl (Yld.pure tab_ok rfl) ?_
    refine WL.y rfl (Yld.pure tab_ok rfl) ?_
    refine WL.y rfl (Yld.pure tab_ok rfl) ?_
    refine WL.call rfl rfl (W_slices_insertionSortCmpFunc_val_Value_list_Sorted_1 (hG.goL gr1 hP) (Nat.le_trans hB (GrL.sizeL gr1)) (apC (InP.toGe (InP.mem (List.Mem.head _)) hP hB) apN) hS3 hS7 k1 ((hn_data2.trans k2.1.symm).trans k2.1) k2 (hcap0.goL gr1 hap1) (hcap1.goL gr1 hap2) (apC dj1 apN) (apC (InP.dj (InP.mem (List.Mem.head _)) hcap0.lt' hap1).symm apN) (apC (InP.dj (InP.mem (List.Mem.head _)) hcap1.lt' hap2).symm apN) H) ?_
    rintro _ w3 ⟨hgl2, ys2, hs_ys2, rfl, hO2, hl2, hr2, ho2, dj3, H⟩
    have gr3 : GrL [(blk A_data)] w w3 := GrL.modL gr1 hgl2 (apC (InP.mem (List.Mem.head _)) apN)
    have k4 := k2.goL hgl2 (apC dj1 apN)
    refine WL.nil (WX.then_normal ?_)
    refine WC.block ?_
    obtain ⟨I2, mu2, h0_2, HR2⟩ := H
    refine WC.loopF (fun n' L' w' => ∃ (blockSize : Int), ∃ (data3 : List PV), ∃ (hs2 : List VH), n' = mu2 blockSize data3 ∧ L' = [(0, .slice A_data data.length c_data), (1, .int .i64 n), (2, .func (.func 39) #[] #[.pointer (some ⟨g_cap0, 0, none⟩), .pointer (some ⟨g_cap1, 0, none⟩)]), (6, .int .i64 blockSize)] ∧ I2 blockSize data3 ∧ data.length = data3.length ∧ GrL [(blk A_data)] w w' ∧ Own vv w' 0 41 A_data c_data hs2 ∧ RelD deV w' hs2 data3 ∧ DnD deV hs2 data3 (blk A_data) ∧ OrD (fun p => DnD deV hs_data data p) deV hs2 data3 w.heap.size) _ _ ⟨(20 : Int), ys2, hs_ys2, rfl, rfl, h0_2, (((hn_data2.trans k2.1.symm).trans (k2.1.trans hl2.symm)).trans hr2.1), gr3, hO2, hr2, dj3, (fun p_ hp_ q_ => ho2 p_ (fun g_ e_ => Nat.lt_of_lt_of_le (hp_ g_ e_) (GrL.sizeL gr1)) (or1 p_ hp_ q_))⟩ (by repeat (first | exact Sub.nil | refine Sub.cons rfl ?_)) ?_
    clear h0_2
    rintro _ _ w4 ⟨blockSize, data3, hs2, rfl, rfl, hI2, hn_data3, gr4, k5, k6, dj4, or2⟩
    have H := HR2 blockSize data3 hI2
    replace H := H hn_data3
    refine WC.seq ?_
    refine WC.seq ?_
    refine WC.region ?_
    refine WL.y rfl (Yld.pure tab_ok rfl) ?_
    refine WL.y rfl (Yld.pure tab_ok rfl) ?_
    refine WL.y rfl (Yld.pure tab_ok rfl) ?_
    refine WL.nil (WX.then_normal ?_)
    refine WC.cond rfl (fun b2 => ?_) (fun b2 => ?_)
    · replace H := H.1 (of_decide_eq_true b2)
      refine WC.skip (WX.then_normal ?_)
      refine WC.block ?_
      refine WC.seq ?_
      refine WC.region ?_
      refine WL.y rfl (Yld.pure tab_ok rfl) ?_
      obtain ⟨h2, H⟩ := H
      refine WL.y rfl (Yld.mul rfl rfl h2) ?_
      refine WL.y rfl (Yld.pure tab_ok rfl) ?_
      refine WL.y rfl (Yld.pure tab_ok rfl) ?_
      refine WL.nil (WX.then_normal ?_)
      refine WC.seq ?_
      refine WC.block ?_
      obtain ⟨I3, mu3, h0_3, HR3⟩ := H
      refine WC.loopF (fun n' L' w' => ∃ (a2 : Int), ∃ (b_2 : Int), ∃ (data4 : List PV), ∃ (hs3 : List VH), n' = mu3 a2 b_2 data4 ∧ L' = [(0, .slice A_data data.length c_data), (1, .int .i64 n), (2, .func (.func 39) #[] #[.pointer (some ⟨g_cap0, 0, none⟩), .pointer (some ⟨g_cap1, 0, none⟩)]), (6, .int .i64 blockSize), (7, .int .i64 a2), (8, .int .i64 b_2)] ∧ I3 a2 b_2 data4 ∧ data.length = data4.length ∧ GrL [(blk A_data)] w w' ∧ Own vv w' 0 41 A_data c_data hs3 ∧ RelD deV w' hs3 data4 ∧ DnD deV hs3 data4 (blk A_data) ∧ OrD (fun p => DnD deV hs_data data p) deV hs3 data4 w.heap.size) _ _ ⟨(0 : Int), (2 : Int) * blockSize, data3, hs2, rfl, rfl, h0_3, ((hn_data3.trans k6.1.symm).trans k6.1), gr4, k5, k6, dj4, or2⟩ (by repeat (first | exact Sub.nil | refine Sub.cons rfl ?_)) ?_
      clear h0_3
      rintro _ _ w5 ⟨a2, b_2, data4, hs3, rfl, rfl, hI3, hn_data4, gr5, k7, k8, dj5, or3⟩
      have H := HR3 a2 b_2 data4 hI3
      replace H := H hn_data4
      refine WC.seq ?_
      refine WC.seq ?_
      refine WC.region ?_
      refine WL.y rfl (Yld.pure tab_ok rfl) ?_
      refine WL.y rfl (Yld.pure tab_ok rfl) ?_
      refine WL.y rfl (Yld.pure tab_ok rfl) ?_
      refine WL.nil (WX.then_normal ?_)
      refine WC.cond rfl (fun b3 => ?_) (fun b3 => ?_)
      · replace H := H.1 (of_decide_eq_true b3)
        refine WC.skip (WX.then_normal ?_)
        refine WC.block ?_
        refine WC.seq ?_
        refine WC.region ?_
        refine WL.y rfl (Yld.pure tab_ok rfl) ?_
        refine WL.y rfl (Yld.pure tab_ok rfl) ?_
        refine WL.y rfl (Yld.pure tab_ok rfl) ?_
        refine WL.y rfl (Yld.pure tab_ok rfl) ?_
        obtain ⟨h3, H⟩ := H
        refine WL.y rfl (Yld.add rfl rfl h3) ?_
        refine WL.y rfl (Yld.pure tab_ok rfl) ?_
        refine WL.y rfl (Yld.pure tab_ok rfl) ?_
        refine WL.call rfl rfl (W_slices_symMergeCmpFunc_val_Value_list_Sorted_1 (hG.goL gr5 hP) (Nat.le_trans hB (GrL.sizeL gr5)) (apC (InP.toGe (InP.mem (List.Mem.head _)) hP hB) apN) hS3 hS7 k7 ((hn_data4.trans k8.1.symm).trans k8.1) k8 (hcap0.goL gr5 hap1) (hcap1.goL gr5 hap2) (apC dj5 apN) (apC (InP.dj (InP.mem (List.Mem.head _)) hcap0.lt' hap1).symm apN) (apC (InP.dj (InP.mem (List.Mem.head _)) hcap1.lt' hap2).symm apN) H) ?_
        rintro _ w6 ⟨hgl3, ys3, hs_ys3, rfl, hO3, hl3, hr3, ho3, dj6, H⟩
        have gr6 : GrL [(blk A_data)] w w6 := GrL.modL gr5 hgl3 (apC (InP.mem (List.Mem.head _)) apN)
        have k9 := k8.goL hgl3 (apC dj5 apN)
        refine WL.nil (WX.then_normal ?_)
        refine WC.seq ?_
        refine WC.region ?_
        refine WL.y rfl (Yld.pure tab_ok rfl) ?_
        refine WL.y rfl (Yld.pure tab_ok rfl) ?_
        refine WL.nil (WX.then_normal ?_)
        refine WC.region ?_
        refine WL.y rfl (Yld.pure tab_ok rfl) ?_
        refine WL.y rfl (Yld.pure tab_ok rfl) ?_
        obtain ⟨h4, H⟩ := H
        refine WL.y rfl (Yld.mul rfl rfl h4) ?_
        obtain ⟨h5, H⟩ := H
        refine WL.y rfl (Yld.add rfl rfl h5) ?_
        refine WL.y rfl (Yld.pure tab_ok rfl) ?_
        refine WL.nil (WX.block_normal ?_)
        exact WX.roundF _ ⟨b_2, b_2 + ((2 : Int) * blockSize), ys3, hs_ys3, rfl, rfl, H.1, (((hn_data4.trans k8.1.symm).trans (k8.1.trans hl3.symm)).trans hr3.1), gr6, hO3, hr3, dj6, (fun p_ hp_ q_ => ho3 p_ (fun g_ e_ => Nat.lt_of_lt_of_le (hp_ g_ e_) (GrL.sizeL gr5)) (or3 p_ hp_ q_))⟩ (by repeat (first | exact Sub.nil | refine Sub.cons rfl ?_)) H.2
      · replace H := H.2 (of_decide_eq_false b3)
        refine WC.exit (WX.then_exit (WX.then_exit (WX.block_same (WX.then_normal ?_))))
        refine WC.seq ?_
        obtain ⟨J1, H, hJ1⟩ := H
        refine WC.midF (fun L' w' => ∃ (xs : List PV), ∃ (hs4 : List VH), L' = [(0, .slice A_data data.length c_data), (1, .int .i64 n), (2, .func (.func 39) #[] #[.pointer (some ⟨g_cap0, 0, none⟩), .pointer (some ⟨g_cap1, 0, none⟩)]), (6, .int .i64 blockSize)] ∧ J1 xs ∧ data.length = xs.length ∧ GrL [(blk A_data)] w w' ∧ Own vv w' 0 41 A_data c_data hs4 ∧ RelD deV w' hs4 xs ∧ DnD deV hs4 xs (blk A_data) ∧ OrD (fun p => DnD deV hs_data data p) deV hs4 xs w.heap.size) ?_ (fun hQ => ?_)
        · clear H
          rintro _ w7 ⟨xs, hs4, rfl, H, hn_xs, gr7, k10, k11, dj7, or4⟩
          replace H := hJ1 xs H
          replace H := H hn_xs
          refine WX.then_normal ?_
          refine WC.region ?_
          refine WL.y rfl (Yld.pure tab_ok rfl) ?_
          obtain ⟨h6, H⟩ := H
          refine WL.y rfl (Yld.mul rfl rfl h6) ?_
          refine WL.y rfl (Yld.pure tab_ok rfl) ?_
          refine WL.nil (WX.block_normal ?_)
          exact WX.roundF _ ⟨blockSize * (2 : Int), xs, hs4, rfl, rfl, H.1, ((hn_xs.trans k11.1.symm).trans k11.1), gr7, k10, k11, dj7, or4⟩ (by repeat (first | exact Sub.nil | refine Sub.cons rfl ?_)) H.2
        · clear hJ1
          refine WC.seq ?_
          refine WC.region ?_
          refine WL.y rfl (Yld.pure tab_ok rfl) ?_
          refine WL.y rfl (Yld.pure tab_ok rfl) ?_
          obtain ⟨h7, H⟩ := H
          refine WL.y rfl (Yld.add rfl rfl h7) ?_
          refine WL.y rfl (Yld.pure tab_ok rfl) ?_
          refine WL.nil (WX.then_normal ?_)
          refine WC.seq ?_
          refine WC.region ?_
          refine WL.y rfl (Yld.pure tab_ok rfl) ?_
          refine WL.y rfl (Yld.pure tab_ok rfl) ?_
          refine WL.y rfl (Yld.pure tab_ok rfl) ?_
          refine WL.nil (WX.then_normal ?_)
          refine WC.cond rfl (fun b4 => ?_) (fun b4 => ?_)
          · replace H := H.1 (of_decide_eq_true b4)
            refine WC.region ?_
            refine WL.y rfl (Yld.pure tab_ok rfl) ?_
            refine WL.y rfl (Yld.pure tab_ok rfl) ?_
            refine WL.y rfl (Yld.pure tab_ok rfl) ?_
            refine WL.y rfl (Yld.pure tab_ok rfl) ?_
            refine WL.y rfl (Yld.pure tab_ok rfl) ?_
            refine WL.call rfl rfl (W_slices_symMergeCmpFunc_val_Value_list_Sorted_1 (hG.goL gr5 hP) (Nat.le_trans hB (GrL.sizeL gr5)) (apC (InP.toGe (InP.mem (List.Mem.head _)) hP hB) apN) hS3 hS7 k7 ((hn_data4.trans k8.1.symm).trans k8.1) k8 (hcap0.goL gr5 hap1) (hcap1.goL gr5 hap2) (apC dj5 apN) (apC (InP.dj (InP.mem (List.Mem.head _)) hcap0.lt' hap1).symm apN) (apC (InP.dj (InP.mem (List.Mem.head _)) hcap1.lt' hap2).symm apN) H) ?_
            rintro _ w8 ⟨hgl4, ys4, hs_ys4, rfl, hO4, hl4, hr4, ho4, dj8, H⟩
            have gr8 : GrL [(blk A_data)] w w8 := GrL.modL gr5 hgl4 (apC (InP.mem (List.Mem.head _)) apN)
            have k12 := k8.goL hgl4 (apC dj5 apN)
            refine WL.nil ?_
            exact WX.weaken (by repeat (first | exact Sub.nil | refine Sub.cons rfl ?_)) (hQ _ _ ⟨ys4, hs_ys4, rfl, H, (((hn_data4.trans k8.1.symm).trans (k8.1.trans hl4.symm)).trans hr4.1), gr8, hO4, hr4, dj8, (fun p_ hp_ q_ => ho4 p_ (fun g_ e_ => Nat.lt_of_lt_of_le (hp_ g_ e_) (GrL.sizeL gr5)) (or3 p_ hp_ q_))⟩)
          · replace H := H.2 (of_decide_eq_false b4)
            refine WC.skip ?_
            exact WX.weaken (by repeat (first | exact Sub.nil | refine Sub.cons rfl ?_)) (hQ _ _ ⟨data4, hs3, rfl, H, ((hn_data4.trans k8.1.symm).trans k8.1), gr5, k7, k8, dj5, or3⟩)
    · replace H := H.2 (of_decide_eq_false b2)
      refine WC.exit (WX.then_exit (WX.then_exit (WX.block_same ?_)))
      exact WX.end0 rfl ⟨gr4, data3, hs2, rfl, k5, (hn_data3.trans k6.1.symm).symm, k6, (fun p_ hp_ v0_ => or2 p_ hp_ v0_), dj4, H⟩

set_option maxHeartbeats 8000000 in
theorem W_slices_SortStableFunc_val_Value_val_Value_list_Sorted_1 {S : List Nat} {B : Nat} {w : World} {x : List PV} {A_x : Option Addr} {c_x : Nat} {hs_x : List VH} {g_cap0 : Nat} {cap0 : Bool} {g_cap1 : Nat} {cap1 : Bool} {n_x : Nat} {K : (List PV) → Prop} (hG : GB S B w) (hB : B ≤ w.heap.size) (hP : AllP (fun p => Ge p B) [(blk A_x)]) (hS3 : 3 ∈ S) (hS7 : 7 ∈ S) (hx : Own vv w 0 41 A_x c_x hs_x) (hn_x : n_x = x.length) (hr_x : RelD deV w hs_x x) (hcap0 : Bl w g_cap0 4 [.bool cap0]) (hcap1 : Bl w g_cap1 4 [.bool cap1]) (hap0 : AllP (DnD deV hs_x x) [(blk A_x)]) (hap1 : AllP (Dj (some g_cap0)) [(blk A_x)]) (hap2 : AllP (Dj (some g_cap1)) [(blk A_x)]) (H : M_slices_SortStableFunc_val_Value_val_Value_list_Sorted_1 x cap0 cap1 K) : Fn Tryd.prog 38 ⟨[.slice A_x n_x c_x, .func (.func 39) #[] #[.pointer (some ⟨g_cap0, 0, none⟩), .pointer (some ⟨g_cap1, 0, none⟩)]]⟩ w (fun v w' => GrL [(blk A_x)] w w' ∧ ∃ (ys2 : List PV), ∃ (hs_ys2 : List VH), v = .tuple #[] ∧ Own vv w' 0 41 A_x c_x hs_ys2 ∧ hs_ys2.length = x.length ∧ RelD deV w' hs_ys2 ys2 ∧ (∀ p : Option Nat, Lt p w.heap.size → DnD deV hs_x x p → DnD deV hs_ys2 ys2 p) ∧ DnD deV hs_ys2 ys2 (blk A_x) ∧ K ys2) := by
  subst hn_x
  unfold M_slices_SortStableFunc_val_Value_val_Value_list_Sorted_1 at H
  refine Fn.enter (by kernel_rfl) Tryd.func38 rfl Tryd.ntmps38 rfl ?_
  replace H := H (by rw [← hr_x.1]; exact Nat.le_trans hx.rd.cap hx.rd.max)
  have hNoAt : AllP (NoAt w) [(blk A_x)] := (apC (NoAt.own hx rfl) apN)
  refine WC.region ?_
  refine WL.y rfl (Yld.pure tab_ok rfl) ?_
  refine WL.y rfl (Yld.pure tab_ok rfl) ?_
  refine WL.y rfl (Yld.pure tab_ok rfl) ?_
  refine WL.y rfl (Yld.pure tab_ok rfl) ?_
  refine WL.call rfl rfl (W_slices_stableCmpFunc_val_Value_list_Sorted_1 hG (Nat.le_trans hB (Nat.le_refl _)) (apC (InP.toGe (InP.mem (List.Mem.head _)) hP hB) apN) hS3 hS7 hx rfl hr_x hcap0 hcap1 (apC (hap0 _ (List.Mem.head _)) apN) (apC (InP.dj (InP.mem (List.Mem.head _)) hcap0.lt' hap1).symm apN) (apC (InP.dj (InP.mem (List.Mem.head _)) hcap1.lt' hap2).symm apN) H) ?_
  rintro _ w1 ⟨hgl1, ys, hs_ys, rfl, hO1, hl1, hr1, ho1, dj1, H⟩
  have gr1 : GrL [(blk A_x)] w w1 := GrL.modL (GrL.refl _) hgl1 (apC (InP.mem (List.Mem.head _)) apN)
  have k1 := hr_x.goL hgl1 (apC (hap0 _ (List.Mem.head _)) apN)
  refine WL.nil ?_
  exact WX.end0 rfl ⟨gr1, ys, hs_ys, rfl, hO1, (hr_x.1.symm.trans (hr_x.1.trans hl1.symm)).symm, hr1, (fun p_ hp_ v0_ => have q_ := v0_; ho1 p_ (fun g_ e_ => Nat.lt_of_lt_of_le (hp_ g_ e_) (Nat.le_refl _)) (q_)), dj1, H⟩

set_option maxHeartbeats 8000000 in
theorem W_list_Sorted {S : List Nat} {w : World} {l : List PV} {A_l : Option Addr} {c_l : Nat} {hs_l : List VH} {back : Bool} {n_l : Nat} {K : (List PV) → Er → Prop} (hG : GOK S w) (hS3 : 3 ∈ S) (hS7 : 7 ∈ S) (hl : Rd vv w A_l c_l hs_l) (hn_l : n_l = l.length) (hr_l : RelD deV w hs_l l) (H : M_list_Sorted l back K) : Fn Tryd.prog 17 ⟨[.slice A_l n_l c_l, .bool back]⟩ w (fun v w' => w.grownBy w' none ∧ ∃ (r0 : List PV), ∃ (A_r0 : Option Addr), ∃ (c_r0 : Nat), ∃ (hs_r0 : List VH), ∃ (v_r1 : Value), ∃ (r1 : Er), v = .tuple #[.slice A_r0 r0.length c_r0, v_r1] ∧ Own vv w' w.heap.size 41 A_r0 c_r0 hs_r0 ∧ RelD deV w' hs_r0 r0 ∧ (∀ p : Option Nat, Lt p w.heap.size → DnD deV hs_l l p → DnD deV hs_r0 r0 p) ∧ DnD deV hs_r0 r0 (blk A_r0) ∧ ErrR S w' v_r1 r1 ∧ K r0 r1) := by
  subst hn_l
  unfold M_list_Sorted at H
  refine Fn.enter (by kernel_rfl) Tryd.func17 rfl Tryd.ntmps17 rfl ?_
  replace H := H (by rw [← hr_l.1]; exact Nat.le_trans hl.cap hl.max)
  refine WC.seq ?_
  refine WC.region ?_
  refine WL.box (us := [.bool back]) rfl rfl rfl (fun g1 w1 hB1 hg1 hl1 => ?_)
  have gr1 := hg1
  refine WL.y rfl (Yld.pure tab_ok rfl) ?_
  refine WL.y rfl (Yld.pure tab_ok rfl) ?_
  refine WL.nil (WX.then_normal ?_)
  refine WC.seq ?_
  refine WC.seq ?_
  refine WC.region ?_
  refine WL.y rfl (Yld.pure tab_ok rfl) ?_
  refine WL.call rfl rfl (W_val_Light (hl.grown gr1) rfl (hr_l.grown gr1) H) ?_
  rintro _ w2 ⟨hg2, t9, rfl, H⟩
  have gr2 := gr_trans gr1 hg2
  have k1 := hB1.g0 hg2
  refine WL.y rfl (Yld.pure tab_ok rfl) ?_
  refine WL.nil (WX.then_normal ?_)
  refine WC.cond rfl (fun b1 => ?_) (fun b1 => ?_)
  · replace H := H.1 (b1)
    refine WC.seq ?_
    refine WC.quiet mixed (by kernel_rfl) ?_
    obtain ⟨vE1, _, hE1⟩ := GOK.get (hG.grown gr2) 7 0 hS7 rfl rfl
    refine WQ.y rfl (Yld.cell tab_ok (ErrR.cell hE1 rfl) rfl rfl) ?_
    refine WQ.y rfl (Yld.pure tab_ok rfl) ?_
    refine WQ.y rfl (Yld.pure tab_ok rfl) ?_
    refine WQ.nil (WX.then_normal ?_)
    refine WC.ret (WX.then_ret ?_)
    exact WX.ret2 rfl rfl rfl ⟨gr2, [], none, 0, [], vE1, (Er.e 7), rfl, (Own.nil vv w2 w.heap.size 41), (RelD.nil (d := deV) (w := w2)), (fun p_ hp_ v0_ => have q_ := v0_; (DnD.nil (d := deV))), DnD.nil, hE1, H⟩
  · replace H := H.2 (b1)
    refine WC.skip (WX.then_normal ?_)
    refine WC.seq ?_
    refine WC.region ?_
    refine WL.y rfl (Yld.pure tab_ok rfl) ?_
    refine WL.call rfl rfl (W_slices_Clone_val_Value_val_Value (hl.grown gr2) rfl (hr_l.grown gr2) H) ?_
    rintro _ w3 ⟨hg3, out, A_out, c_out, hs_out, rfl, hout, hr_out, ho1, dj1, H⟩
    have hb1 := hout.ge'
    have k2 := hout.base (fun g hg => Nat.le_trans (size_le gr2) (hb1 g hg))
    have gr3 := gr_trans gr2 hg3
    have k3 := k1.g0 hg3
    refine WL.y rfl (Yld.pure tab_ok rfl) ?_
    refine WL.nil (WX.then_normal ?_)
    refine WC.seq ?_
    refine WC.region ?_
    refine WL.alloc rfl zero4 (fun g2 w4 hB2 hg4 hl2 => ?_)
    have gr4 := gr_trans gr3 hg4
    have k4 := k3.g0 hg4
    have k5 := k2.grown hg4
    have k6 := hr_out.grown hg4
    refine WL.store1 one4 rfl rfl rfl hB2 (by simp) (fun w5 hB4 hg5 => ?_)
    have hB3 : Bl w5 g2 4 [.bool false] := hB4
    have gr5 := gr_mod gr4 hg5 (Ge.le (Ge.box hl2) (size_le gr3))
    have k7 := k4.go hg5 (Dj.new k3.lt' (Ge.box hl2))
    have k8 := k5.go hg5 (Dj.new k2.lt' (Ge.box hl2))
    have k9 := k6.go hg5 (hr_out.new (Ge.box hl2))
    refine WL.nil (WX.then_normal ?_)
    refine WC.seq ?_
    refine WC.region ?_
    refine WL.y rfl (Yld.pure tab_ok rfl) ?_
    refine WL.y rfl (Yld.mkf rfl) ?_
    refine WL.call rfl rfl (W_slices_SortStableFunc_val_Value_val_Value_list_Sorted_1 (GB.grown hG gr5) (size_le gr5) (apC k8.ge' apN) hS3 hS7 (k8.base (fun _ _ => Nat.zero_le _)) rfl k9 k7 hB3 (apC dj1 apN) (apC (Dj.new k1.lt' hb1) apN) (apC (Dj.new k2.lt' (Ge.box hl2)).symm apN) H) ?_
    rintro _ w6 ⟨hgl1, ys, hs_ys, rfl, hO1, hl3, hr1, ho2, dj2, H⟩
    have gr6 := gr_modL gr5 hgl1 (apC k8.ge' apN)
    have k10 := k9.goL hgl1 (apC dj1 apN)
    have k11 := hB3.goL hgl1 (apC (Dj.new k2.lt' (Ge.box hl2)).symm apN)
    refine WL.nil (WX.then_normal ?_)
    refine WC.seq ?_
    refine WC.seq ?_
    refine WC.region ?_
    refine WL.y rfl (Yld.bload tab_ok k11 rfl rfl rfl) ?_
    refine WL.nil (WX.then_normal ?_)
    refine WC.cond rfl (fun h => by cases h) (fun _ => ?_)
    refine WC.skip (WX.then_normal ?_)
    refine WC.seq ?_
    refine WC.region ?_
    refine WL.y rfl (Yld.pure tab_ok rfl) ?_
    refine WL.y rfl (Yld.pure tab_ok rfl) ?_
    refine WL.y rfl (Yld.pure tab_ok rfl) ?_
    refine WL.nil (WX.then_normal ?_)
    refine WC.ret ?_
    exact WX.ret2 rfl rfl rfl ⟨gr6, ys, A_out, c_out, hs_ys, .nilIface, Er.ok, (by rw [((hr_out.1.symm.trans (k9.1.trans hl3.symm)).trans hr1.1)]), (hO1.base k8.ge'), hr1, (fun p_ hp_ v0_ => have q_ := v0_; ho2 p_ (fun g_ e_ => Nat.lt_of_lt_of_le (hp_ g_ e_) (size_le gr5)) (ho1 p_ (fun g_ e_ => Nat.lt_of_lt_of_le (hp_ g_ e_) (size_le gr2)) (q_))), dj2, (ErrR.okR (S := S) (w := w6)), H⟩

end Go.Proofs.YtjoepdjeekadcaaDoor

 /- The merge that slices.SortStableFunc is made of, plainly. -/
namespace Go.Proofs.YtjoepdjeekadcaaDoor
section
variable {α : Type}
theorem getD_setY (l : List α) (i j : Nat) (a d : α) : (l.set i a).getD j d = if i = j ∧ i < l.length then a else l.getD j d := by
  simp only [List.getD, List.getElem?_set]
  by_cases h : i = j
  · subst h
    by_cases h2 : i < l.length
    · simp [h2]
    · simp [h2]
  · simp [h]
/-- the items at two places, changed for each other -/
def sySwp (d : α) (l : List α) (i j : Nat) : List α := (l.set i (l.getD j d)).set j (l.getD i d)
theorem sySwp_len (d : α) (l : List α) (i j : Nat) : (sySwp d l i j).length = l.length := by simp [sySwp]
theorem sySwp_get (d : α) (l : List α) {i j : Nat} (hi : i < l.length) (hj : j < l.length) (k : Nat) : (sySwp d l i j).getD k d = if k = j then l.getD i d else if k = i then l.getD j d else l.getD k d := by
  unfold sySwp
  rw [getD_setY, getD_setY]
  simp only [List.length_set]
  by_cases h1 : j = k
  · subst h1; simp [hj]
  · have h1' : ¬ k = j := fun e => h1 e.symm
    by_cases h2 : i = k
    · subst h2; simp [h1, h1', hi]
    · have h2' : ¬ k = i := fun e => h2 e.symm
      simp [h1, h2, h1', h2']
theorem set_permY (d : α) : ∀ (l : List α) (i : Nat) (x : α), i < l.length → (l.getD i d :: l.set i x).Perm (x :: l)
  | [], _, _, h => by simp at h
  | a :: l, 0, x, _ => by simp [List.getD]; exact List.Perm.swap _ _ _
  | a :: l, i + 1, x, h => by
    have := set_permY d l i x (by simpa using h)
    simp only [List.set_cons_succ]
    refine (List.Perm.swap _ _ _).trans ?_
    refine List.Perm.trans ?_ (List.Perm.swap _ _ _)
    refine List.Perm.cons _ ?_
    simpa [List.getD] using this
theorem sySwp_perm (d : α) (l : List α) {i j : Nat} (hi : i < l.length) (hj : j < l.length) : (sySwp d l i j).Perm l := by
  unfold sySwp
  have h1 := set_permY d l i (l.getD j d) hi
  have h2 := set_permY d (l.set i (l.getD j d)) j (l.getD i d) (by simpa using hj)
  have e : (l.set i (l.getD j d)).getD j d = l.getD j d := by
    rw [getD_setY]; split <;> rfl
  rw [e] at h2
  exact (List.perm_cons _).1 (h2.trans h1)
/-- l' is l, changed within a stretch alone -/
structure SyO (d : α) (l l' : List α) (a b : Nat) : Prop where
  len : l'.length = l.length
  perm : l'.Perm l
  out : ∀ k, k < a ∨ b ≤ k → l'.getD k d = l.getD k d
  ins : ∀ k, a ≤ k → k < b → ∃ k', a ≤ k' ∧ k' < b ∧ l'.getD k d = l.getD k' d
theorem SyO.refl (d : α) (l : List α) (a b : Nat) : SyO d l l a b := ⟨rfl, List.Perm.refl _, fun _ _ => rfl, fun k h1 h2 => ⟨k, h1, h2, rfl⟩⟩
variable {d : α} {l l' l'' : List α} {a b a' b' m n : Nat}
theorem SyO.trans (h : SyO d l l' a b) (k : SyO d l' l'' a b) : SyO d l l'' a b :=
  ⟨k.len.trans h.len, k.perm.trans h.perm, fun i hi => (k.out i hi).trans (h.out i hi), fun i h1 h2 => by
    obtain ⟨j, h3, h4, e⟩ := k.ins i h1 h2
    obtain ⟨j', h5, h6, e'⟩ := h.ins j h3 h4
    exact ⟨j', h5, h6, e.trans e'⟩⟩
theorem SyO.wide (h : SyO d l l' a b) (h1 : a' ≤ a) (h2 : b ≤ b') : SyO d l l' a' b' :=
  ⟨h.len, h.perm, fun i hi => h.out i (by omega), fun i h3 h4 => by
    by_cases hi : a ≤ i ∧ i < b
    · obtain ⟨j, h5, h6, e⟩ := h.ins i hi.1 hi.2
      exact ⟨j, by omega, by omega, e⟩
    · exact ⟨i, h3, h4, h.out i (by omega)⟩⟩
theorem SyO.sySwp {i j : Nat} (hi : i < l.length) (hj : j < l.length) (h1 : a ≤ i) (h2 : i < b) (h3 : a ≤ j) (h4 : j < b) : SyO d l (sySwp d l i j) a b :=
  ⟨sySwp_len _ _ _ _, sySwp_perm _ _ hi hj, fun k hk => by rw [sySwp_get d l hi hj, if_neg (by omega), if_neg (by omega)], fun k h5 h6 => by
    rw [sySwp_get d l hi hj]
    by_cases e1 : k = j
    · rw [if_pos e1]; exact ⟨i, h1, h2, rfl⟩
    · rw [if_neg e1]
      by_cases e2 : k = i
      · rw [if_pos e2]; exact ⟨j, h3, h4, rfl⟩
      · rw [if_neg e2]; exact ⟨k, h5, h6, rfl⟩⟩
/-- the stretch [a, m) laid behind [m, b) -/
structure SyR (d : α) (l l' : List α) (a m b : Nat) : Prop where
  len : l'.length = l.length
  perm : l'.Perm l
  out : ∀ k, k < a ∨ b ≤ k → l'.getD k d = l.getD k d
  lo : ∀ k, a ≤ k → k < a + (b - m) → l'.getD k d = l.getD (k - a + m) d
  hi : ∀ k, a + (b - m) ≤ k → k < b → l'.getD k d = l.getD (k - (b - m)) d
theorem SyR.toOut (h : SyR d l l' a m b) (h1 : a ≤ m) (h2 : m ≤ b) : SyO d l l' a b :=
  ⟨h.len, h.perm, h.out, fun k h3 h4 => by
    by_cases hk : k < a + (b - m)
    · exact ⟨k - a + m, by omega, by omega, h.lo k h3 hk⟩
    · exact ⟨k - (b - m), by omega, by omega, h.hi k (by omega) h4⟩⟩
variable (lt : α → α → Bool)
/-- no less than the one ahead, all along a stretch -/
def SySrt (d : α) (l : List α) (a b : Nat) : Prop := ∀ i j, a ≤ i → i < j → j < b → lt (l.getD j d) (l.getD i d) = false
structure SyOrd : Prop where
  tot : ∀ x y, lt x y = true → lt y x = false
  tr : ∀ x y z, lt y x = false → lt z y = false → lt z x = false
variable {lt}
theorem SySrt.sub (h : SySrt lt d l a b) (h1 : a ≤ a') (h2 : b' ≤ b) : SySrt lt d l a' b' := fun i j h3 h4 h5 => h i j (by omega) h4 (by omega)
theorem SySrt.join (_ho : SyOrd lt) (h1 : SySrt lt d l a m) (h2 : SySrt lt d l m b) (h : ∀ i j, a ≤ i → i < m → m ≤ j → j < b → lt (l.getD j d) (l.getD i d) = false) : SySrt lt d l a b := fun i j h3 h4 h5 => by
  by_cases hj : j < m
  · exact h1 i j h3 h4 hj
  · by_cases hi : i < m
    · exact h i j h3 hi (by omega) h5
    · exact h2 i j (by omega) h4 h5
theorem SySrt.out (h : SySrt lt d l a b) (k : SyO d l l' a' b') (hd : b' ≤ a ∨ b ≤ a') : SySrt lt d l' a b := fun i j h1 h2 h3 => by
  rw [k.out i (by omega), k.out j (by omega)]; exact h i j h1 h2 h3
theorem SySrt.le (ho : SyOrd lt) (h : SySrt lt d l a b) {i j : Nat} (h1 : a ≤ i) (h2 : i ≤ j) (h3 : j < b) : lt (l.getD j d) (l.getD i d) = false := by
  rcases Nat.lt_or_ge i j with h4 | h4
  · exact h i j h1 h4 h3
  · have : i = j := by omega
    subst this
    cases hq : lt (l.getD i d) (l.getD i d) with
    | false => rfl
    | true => exact absurd (ho.tot _ _ hq) (by rw [hq]; simp)
/-- two runs, cut at s and e, their middle parts changed for each other -/
structure SyC (lt : α → α → Bool) (d : α) (l l' : List α) (a m b s e : Nat) : Prop where
  h1 : SySrt lt d l a m
  h2 : SySrt lt d l m b
  rot : SyR d l l' s m e
  hs : a ≤ s ∧ s ≤ m ∧ m ≤ e ∧ e ≤ b
  x : a < s → e < b → lt (l.getD e d) (l.getD (s - 1) d) = false
  y : s < m → m < e → lt (l.getD (e - 1) d) (l.getD s d) = true
theorem SyC.fin (ho : SyOrd lt) {s e : Nat} (h : SyC lt d l l' a m b s e) : SySrt lt d l' a s ∧ SySrt lt d l' s (s + (e - m)) ∧ SySrt lt d l' (s + (e - m)) e ∧ SySrt lt d l' e b ∧ ∀ i j, a ≤ i → i < s + (e - m) → s + (e - m) ≤ j → j < b → lt (l'.getD j d) (l'.getD i d) = false := by
  obtain ⟨h1, h2, rot, hs, hx, hy⟩ := h
  refine ⟨fun i j h3 h4 h5 => ?_, fun i j h3 h4 h5 => ?_, fun i j h3 h4 h5 => ?_, fun i j h3 h4 h5 => ?_, fun i j h3 h4 h5 h6 => ?_⟩
  · rw [rot.out i (by omega), rot.out j (by omega)]; exact h1 i j h3 h4 (by omega)
  · rw [rot.lo i h3 (by omega), rot.lo j (by omega) h5]; exact h2 _ _ (by omega) (by omega) (by omega)
  · rw [rot.hi i h3 (by omega), rot.hi j (by omega) h5]; exact h1 _ _ (by omega) (by omega) (by omega)
  · rw [rot.out i (by omega), rot.out j (by omega)]; exact h2 i j (by omega) h4 h5
  · by_cases hi : i < s
    · rw [rot.out i (by omega)]
      by_cases hj : j < e
      · rw [rot.hi j h5 hj]; exact h1 i _ h3 (by omega) (by omega)
      · rw [rot.out j (by omega)]
        exact ho.tr _ _ _ (ho.tr _ _ _ (h1.le ho (i := i) (j := s - 1) h3 (by omega) (by omega)) (hx (by omega) (by omega))) (h2.le ho (i := e) (j := j) (by omega) (by omega) h6)
    · rw [rot.lo i (by omega) h4]
      by_cases hj : j < e
      · rw [rot.hi j h5 hj]
        exact ho.tr _ _ _ (ho.tr _ _ _ (h2.le ho (i := i - s + m) (j := e - 1) (by omega) (by omega) (by omega)) (ho.tot _ _ (hy (by omega) (by omega)))) (h1.le ho (i := s) (j := j - (e - m)) (by omega) (by omega) (by omega))
      · rw [rot.out j (by omega)]; exact h2 _ _ (by omega) (by omega) h6
/-- what a merge gives -/
def SyM (lt : α → α → Bool) (d : α) (l l' : List α) (a b : Nat) : Prop := SyO d l l' a b ∧ SySrt lt d l' a b
theorem SyC.halves (ho : SyOrd lt) {s e q : Nat} {l1 l2 : List α} (h : SyC lt d l l' a m b s e) (hq : q = s + (e - m)) (k1 : SyM lt d l' l1 a q) (k2 : SyM lt d l1 l2 q b) : SyM lt d l l2 a b := by
  obtain ⟨_, _, _, _, cr⟩ := h.fin ho
  have hs := h.hs
  refine ⟨((h.rot.toOut hs.2.1 hs.2.2.1).wide hs.1 hs.2.2.2).trans ((k1.1.wide (Nat.le_refl _) (by omega)).trans (k2.1.wide (by omega) (Nat.le_refl _))), SySrt.join ho (m := q) (k1.2.out k2.1 (.inr (Nat.le_refl _))) k2.2 fun i j h1 h2 h3 h4 => ?_⟩
  rw [k2.1.out i (.inl h2)]
  obtain ⟨j', h5, h6, e'⟩ := k2.1.ins j h3 h4
  rw [e', k1.1.out j' (.inr h5)]
  obtain ⟨i', h7, h8, e''⟩ := k1.1.ins i h1 h2
  rw [e'']
  exact cr i' j' h7 (by omega) (by omega) h6
/-- both halves in order already -/
theorem SyC.done (ho : SyOrd lt) {s e : Nat} (h : SyC lt d l l' a m b s e) (k1 : s = a ∨ e = m) (k2 : s = m ∨ e = b) : SyM lt d l l' a b := by
  obtain ⟨f1, f2, f3, f4, cr⟩ := h.fin ho
  have hs := h.hs
  refine ⟨(h.rot.toOut hs.2.1 hs.2.2.1).wide hs.1 hs.2.2.2, SySrt.join ho (m := s + (e - m)) ?_ ?_ cr⟩
  · rcases k1 with rfl | rfl
    · exact f2
    · simpa using f1
  · rcases k2 with rfl | rfl
    · have : s + (e - s) = e := by omega
      rw [this]; exact f4
    · exact f3
theorem SyR.zero1 (d : α) (l : List α) (a : Nat) : SyR d l l a (a + 1) (a + 1) := ⟨rfl, List.Perm.refl _, fun _ _ => rfl, fun k h1 h2 => absurd h2 (by omega), fun k h1 h2 => by rw [Nat.sub_self, Nat.sub_zero]⟩
theorem SyR.up {k : Nat} (h : SyR d l l' a (a + 1) (k + 1)) (hk : a ≤ k) (hl : k + 1 < l.length) : SyR d l (sySwp d l' k (k + 1)) a (a + 1) (k + 2) := by
  have e := h.len
  have g := sySwp_get d l' (i := k) (j := k + 1) (by omega) (by omega)
  refine ⟨(sySwp_len _ _ _ _).trans e, (sySwp_perm d l' (by omega) (by omega)).trans h.perm, fun q hq => ?_, fun q h1 h2 => ?_, fun q h1 h2 => ?_⟩
  · rw [g, if_neg (by omega), if_neg (by omega)]; exact h.out q (by omega)
  · rw [g, if_neg (by omega)]
    by_cases e2 : q = k
    · subst e2; rw [if_pos rfl, h.out (q + 1) (by omega)]; congr 1; omega
    · rw [if_neg e2, h.lo q h1 (by omega)]
  · have : q = k + 1 := by omega
    subst this
    rw [g, if_pos rfl, h.hi k (by omega) (by omega)]; congr 1; omega
theorem SyR.zero2 (d : α) (l : List α) (m : Nat) : SyR d l l m m (m + 1) := ⟨rfl, List.Perm.refl _, fun _ _ => rfl, fun k h1 h2 => by congr 1; omega, fun k h1 h2 => absurd h2 (by omega)⟩
theorem SyR.down {k : Nat} (h : SyR d l l' k m (m + 1)) (hk : 0 < k) (hm : k ≤ m) (hl : m < l.length) : SyR d l (sySwp d l' k (k - 1)) (k - 1) m (m + 1) := by
  have e := h.len
  have g := sySwp_get d l' (i := k) (j := k - 1) (by omega) (by omega)
  refine ⟨(sySwp_len _ _ _ _).trans e, (sySwp_perm d l' (by omega) (by omega)).trans h.perm, fun q hq => ?_, fun q h1 h2 => ?_, fun q h1 h2 => ?_⟩
  · rw [g, if_neg (by omega), if_neg (by omega)]; exact h.out q (by omega)
  · have : q = k - 1 := by omega
    subst this
    rw [g, if_pos rfl, h.lo k (by omega) (by omega)]; congr 1; omega
  · rw [g, if_neg (by omega)]
    by_cases e2 : q = k
    · subst e2; rw [if_pos rfl, h.out (q - 1) (by omega)]; congr 1; omega
    · rw [if_neg e2, h.hi q (by omega) h2]
/-- two stretches of n items, changed for each other -/
structure SyW (d : α) (l l' : List α) (a b n : Nat) : Prop where
  len : l'.length = l.length
  perm : l'.Perm l
  get : ∀ k, l'.getD k d = if a ≤ k ∧ k < a + n then l.getD (k - a + b) d else if b ≤ k ∧ k < b + n then l.getD (k - b + a) d else l.getD k d
theorem SyW.zero (d : α) (l : List α) (a b : Nat) : SyW d l l a b 0 := ⟨rfl, List.Perm.refl _, fun k => by rw [if_neg (by omega), if_neg (by omega)]⟩
theorem SyW.succ (h : SyW d l l' a b n) (h1 : a + n < b) (h2 : b + n < l.length) : SyW d l (sySwp d l' (a + n) (b + n)) a b (n + 1) := by
  have e := h.len
  refine ⟨(sySwp_len _ _ _ _).trans e, (sySwp_perm d l' (by omega) (by omega)).trans h.perm, fun q => ?_⟩
  rw [sySwp_get d l' (i := a + n) (j := b + n) (by omega) (by omega)]
  by_cases e1 : q = b + n
  · rw [if_pos e1, if_neg (by omega), if_pos (by omega), h.get, if_neg (by omega), if_neg (by omega)]; congr 1; omega
  · rw [if_neg e1]
    by_cases e2 : q = a + n
    · rw [if_pos e2, if_pos (by omega), h.get, if_neg (by omega), if_neg (by omega)]; congr 1; omega
    · rw [if_neg e2, h.get]
      by_cases e3 : a ≤ q ∧ q < a + n
      · rw [if_pos e3, if_pos (by omega)]
      · rw [if_neg e3, if_neg (c := a ≤ q ∧ q < a + (n + 1)) (by omega)]
        by_cases e4 : b ≤ q ∧ q < b + n
        · rw [if_pos e4, if_pos (by omega)]
        · rw [if_neg e4, if_neg (by omega)]
theorem SyR.big {c : List α} {i j : Nat} (h : SyW d l c (m - i) m j) (hj : 0 < j) (hij : j < i) (hi : i ≤ m) (k : SyR d c l' (m - i + j) m (m + j)) : SyR d l l' (m - i) m (m + j) :=
  ⟨k.len.trans h.len, k.perm.trans h.perm, fun q hq => by rw [k.out q (by omega), h.get, if_neg (by omega), if_neg (by omega)],
    fun q h1 h2 => by rw [k.out q (by omega), h.get, if_pos (by omega)],
    fun q h1 h2 => by
      by_cases e : q < m - i + j + (m + j - m)
      · rw [k.lo q (by omega) e, h.get, if_neg (by omega), if_pos (by omega)]; congr 1; omega
      · rw [k.hi q (by omega) (by omega), h.get, if_neg (by omega), if_neg (by omega)]⟩
theorem SyR.small {c : List α} {i j : Nat} (h : SyW d l c (m - i) (m + j - i) i) (hj : 0 < i) (hij : i < j) (hi : i ≤ m) (k : SyR d c l' (m - i) m (m + j - i)) : SyR d l l' (m - i) m (m + j) :=
  ⟨k.len.trans h.len, k.perm.trans h.perm, fun q hq => by rw [k.out q (by omega), h.get, if_neg (by omega), if_neg (by omega)],
    fun q h1 h2 => by
      by_cases e : q < m - i + (m + j - i - m)
      · rw [k.lo q (by omega) e, h.get, if_neg (by omega), if_neg (by omega)]
      · rw [k.hi q (by omega) (by omega), h.get, if_pos (by omega)]; congr 1; omega,
    fun q h1 h2 => by rw [k.out q (by omega), h.get, if_neg (by omega), if_pos (by omega)]; congr 1; omega⟩
theorem SyR.even {i : Nat} (h : SyW d l l' (m - i) m i) (hi : i ≤ m) : SyR d l l' (m - i) m (m + i) :=
  ⟨h.len, h.perm, fun q hq => by rw [h.get, if_neg (by omega), if_neg (by omega)], fun q h1 h2 => by rw [h.get, if_pos (by omega)], fun q h1 h2 => by rw [h.get, if_neg (by omega), if_pos (by omega)]; congr 1; omega⟩
/-- an item is brought to its place -/
structure SyI (lt : α → α → Bool) (d : α) (l l' : List α) (a i j : Nat) : Prop where
  out : SyO d l l' a (i + 1)
  srt : ∀ p q, a ≤ p → p < q → q ≤ i → q ≠ j → lt (l'.getD q d) (l'.getD p d) = false
theorem SyI.start {i : Nat} (h : SySrt lt d l a i) (hi : a ≤ i) : SyI lt d l l a i i := ⟨SyO.refl _ _ _ _, fun p q h1 h2 h3 h4 => h p q h1 h2 (by omega)⟩
theorem SyI.step (ho : SyOrd lt) {i j : Nat} (h : SyI lt d l l' a i j) (hj : a < j) (hji : j ≤ i) (hl : i < l.length) (hlt : lt (l'.getD j d) (l'.getD (j - 1) d) = true) : SyI lt d l (sySwp d l' j (j - 1)) a i (j - 1) := by
  have e := h.out.len
  have g := sySwp_get d l' (i := j) (j := j - 1) (by omega) (by omega)
  refine ⟨h.out.trans (SyO.sySwp (by omega) (by omega) (by omega) (by omega) (by omega) (by omega)), fun p q h1 h2 h3 h4 => ?_⟩
  rw [g, g, if_neg h4]
  by_cases e1 : q = j
  · rw [if_pos e1]
    by_cases e2 : p = j - 1
    · rw [if_pos e2]; exact ho.tot _ _ hlt
    · rw [if_neg e2, if_neg (by omega)]; exact h.srt p (j - 1) h1 (by omega) (by omega) (by omega)
  · rw [if_neg e1]
    by_cases e2 : p = j - 1
    · rw [if_pos e2]; exact h.srt j q (by omega) (by omega) h3 e1
    · rw [if_neg e2]
      by_cases e3 : p = j
      · rw [if_pos e3]; exact h.srt (j - 1) q (by omega) (by omega) h3 e1
      · rw [if_neg e3]; exact h.srt p q h1 h2 h3 e1
theorem SyI.fin (ho : SyOrd lt) {i j : Nat} (h : SyI lt d l l' a i j) (hj : a ≤ j) (hji : j ≤ i) (hlt : j = a ∨ lt (l'.getD j d) (l'.getD (j - 1) d) = false) : SyM lt d l l' a (i + 1) := by
  refine ⟨h.out, fun p q h1 h2 h3 => ?_⟩
  by_cases e : q = j
  · subst e
    rcases hlt with e2 | hlt
    · omega
    · by_cases e3 : p = q - 1
      · subst e3; exact hlt
      · exact ho.tr _ _ _ (h.srt p (q - 1) h1 (by omega) (by omega) (by omega)) hlt
  · exact h.srt p q h1 h2 (by omega) e
end
end Go.Proofs.YtjoepdjeekadcaaDoor


 /- list.Sorted, plainly: the comparison, and the sort. -/
namespace Go.Proofs.YtjoepdjeekadcaaDoor
open Go Go.RowKit
/-- rows of numbers, by the first that are not equal -/
def lexB : List Int → List Int → Bool
  | [], [] => false
  | [], _ :: _ => true
  | _ :: _, [] => false
  | a :: l, b :: m => decide (a < b) || (decide (a = b) && lexB l m)
theorem lexB_tot : ∀ x y, lexB x y = true → lexB y x = false
  | [], [], h => by cases h
  | [], _ :: _, _ => rfl
  | _ :: _, [], h => by cases h
  | a :: l, b :: m, h => by
    simp only [lexB, Bool.or_eq_true, decide_eq_true_eq, Bool.and_eq_true] at h
    simp only [lexB, Bool.or_eq_false_iff, decide_eq_false_iff_not, Bool.and_eq_false_iff]
    rcases h with h | ⟨h, h2⟩
    · exact ⟨by omega, .inl (by omega)⟩
    · exact ⟨by omega, .inr (lexB_tot _ _ h2)⟩
theorem lexB_tr : ∀ x y z, lexB y x = false → lexB z y = false → lexB z x = false
  | [], _, [], _, _ => rfl
  | [], _, _ :: _, _, _ => rfl
  | _ :: _, [], _, h, _ => by cases h
  | _ :: _, _ :: _, [], _, h => by cases h
  | a :: l, b :: m, c :: n, h1, h2 => by
    simp only [lexB, Bool.or_eq_false_iff, decide_eq_false_iff_not, Bool.and_eq_false_iff] at h1 h2 ⊢
    refine ⟨by omega, ?_⟩
    by_cases e : c = a
    · refine .inr (lexB_tr l m n ?_ ?_)
      · rcases h1.2 with h | h
        · omega
        · exact h
      · rcases h2.2 with h | h
        · omega
        · exact h
    · exact .inl e
def keyQ : PV → List Int
  | .int z => [z]
  | .tup l => l
  | _ => []
def ltP (back : Bool) (x y : PV) : Bool := if back then lexB (keyQ y) (keyQ x) else lexB (keyQ x) (keyQ y)
theorem ltP_ord (back : Bool) : SyOrd (ltP back) := by
  cases back
  · exact ⟨fun x y h => lexB_tot _ _ h, fun x y z h1 h2 => lexB_tr _ _ _ h1 h2⟩
  · exact ⟨fun x y h => lexB_tot _ _ h, fun x y z h1 h2 => lexB_tr (keyQ z) (keyQ y) (keyQ x) h2 h1⟩
/-- of one kind: rows of numbers, or numbers -/
def Okv : Bool → PV → Prop
  | true, x => ∃ l, x = .tup l ∧ l.length ≤ 50
  | false, x => ∃ z, x = .int z
theorem look_M {k deep : Int} {K : Er → Int → Prop} (h1 : 1 ≤ k) (h2 : k ≤ 5000) (hd : deep ≤ 60) (h : K .ok (k - 1)) : M_pval_looker_look k deep K :=
  ⟨by simp only [In]; omega, fun e => absurd e (by simp; omega), fun _ => h⟩
theorem cmp0 {x y : Int} : ((if x < y then -1 else if y < x then 1 else 0 : Int) = 0) ↔ x = y := by
  by_cases h1 : x < y
  · rw [if_pos h1]; omega
  · by_cases h2 : y < x
    · rw [if_neg h1, if_pos h2]; omega
    · rw [if_neg h1, if_neg h2]; omega
theorem cmpN {x y : Int} : ((if x < y then -1 else if y < x then 1 else 0 : Int) < 0) ↔ x < y := by
  by_cases h1 : x < y
  · rw [if_pos h1]; omega
  · by_cases h2 : y < x
    · rw [if_neg h1, if_pos h2]; omega
    · rw [if_neg h1, if_neg h2]; omega
theorem equal_int {k deep x y : Int} {K : Bool → Er → Int → Prop} (h1 : 1 ≤ k) (h2 : k ≤ 5000) (hd : deep ≤ 60) (h : K (decide (x = y)) .ok (k - 1)) : M_pval_looker_equal k (.int x) (.int y) deep K := by
  refine look_M h1 h2 hd ⟨fun e => absurd rfl e, fun _ => ⟨by simp, by simp, fun e => absurd rfl e, fun _ => ⟨by simp, fun z e => ?_, fun e => absurd rfl (e x)⟩⟩⟩
  cases e
  refine ⟨y, rfl, by decide, ?_⟩
  dsimp only
  rw [decide_eq_decide.2 cmp0]
  exact h
theorem less_int {k deep x y : Int} {K : Bool → Er → Int → Prop} (h1 : 1 ≤ k) (h2 : k ≤ 5000) (hd : deep ≤ 60) (h : K (decide (x < y)) .ok (k - 1)) : M_pval_looker_less k (.int x) (.int y) deep K := by
  refine look_M h1 h2 hd ⟨fun e => absurd rfl e, fun _ => ⟨by simp, by simp, fun e => absurd rfl e, fun _ => ⟨fun z e => ?_, fun e => absurd rfl (e x)⟩⟩⟩
  cases e
  refine ⟨y, rfl, by decide, ?_⟩
  dsimp only
  rw [decide_eq_decide.2 cmpN]
  exact h
theorem shallow_M {n deep : Int} {K : Er → Prop} (hd : deep < 60) (h : K .ok) : M_val_shallow n deep K :=
  ⟨fun e => absurd e (by simp; omega), fun _ => h⟩
theorem map_int {l : List Int} {i : Nat} (h : i < l.length) : (l.map PV.int).getD i PV.nil = .int l[i] := by simp [List.getD, h]
theorem looker_first_M {k : Int} {la lb : List Int} {K : Bool → Er → Int → Prop} (hk : 200 ≤ k ∧ k ≤ 5000) (hla : la.length ≤ 50) (hlb : lb.length ≤ 50) (h : ∀ k', K (lexB la lb) .ok k') : M_pval_looker_first k (la.map .int) (lb.map .int) 0 K := by
  intro _ _
  refine ⟨fun t q => 0 ≤ t ∧ t ≤ la.length ∧ t ≤ lb.length ∧ q = k - t ∧ lexB la lb = lexB (la.drop t.toNat) (lb.drop t.toNat), fun t _ => ((la.length : Int) - t).toNat, ⟨by omega, by omega, by omega, by omega, rfl⟩, ?_⟩
  rintro t q ⟨h0, h1, h2, rfl, he⟩
  simp only [List.length_map]
  refine ⟨fun hi => ?_, fun hi => ?_⟩
  · have ha : t.toNat < la.length := by split at hi <;> omega
    have hb : t.toNat < lb.length := by split at hi <;> omega
    rw [List.drop_eq_getElem_cons ha, List.drop_eq_getElem_cons hb] at he
    rw [map_int ha, map_int hb]
    refine ⟨⟨h0, by omega⟩, ⟨h0, by omega⟩, by simp only [In]; omega, equal_int (by omega) (by omega) (by omega) ⟨fun e => absurd rfl e, fun _ => ⟨fun hne => ?_, fun heq => ?_⟩⟩⟩
    · refine ⟨⟨h0, by omega⟩, ⟨h0, by omega⟩, by simp only [In]; omega, less_int (by omega) (by omega) (by omega) ?_⟩
      have hx : ¬ la[t.toNat] = lb[t.toNat] := by simpa using hne
      have : lexB la lb = decide (la[t.toNat] < lb[t.toNat]) := by rw [he]; simp [lexB, hx]
      rw [← this]; exact h _
    · have hx : la[t.toNat] = lb[t.toNat] := by simpa using heq
      refine ⟨by simp only [In]; omega, ⟨by omega, by omega, by omega, by omega, ?_⟩, by first | omega | (dsimp only; omega)⟩
      rw [show (t + 1).toNat = t.toNat + 1 by omega, he]
      simp [lexB, hx]
  · refine shallow_M (by omega) ⟨fun e => absurd rfl e, fun _ => ?_⟩
    have : lexB la lb = decide ((la.length : Int) < (lb.length : Int)) := by
      rw [he]
      by_cases e1 : t.toNat = la.length
      · rw [show la.drop t.toNat = [] from List.drop_eq_nil_of_le (by omega)]
        cases hq : lb.drop t.toNat with
        | nil =>
          have := congrArg List.length hq
          rw [List.length_drop, List.length_nil] at this
          exact (decide_eq_false (by omega)).symm
        | cons c m =>
          have := congrArg List.length hq
          rw [List.length_drop, List.length_cons] at this
          exact (decide_eq_true (by omega)).symm
      · have e2 : t.toNat = lb.length := by split at hi <;> omega
        rw [show lb.drop t.toNat = [] from List.drop_eq_nil_of_le (by omega), List.drop_eq_getElem_cons (show t.toNat < la.length by omega)]
        exact (decide_eq_false (by omega)).symm
    rw [← this]; exact h _
theorem vless_M {t : Bool} {x y : PV} {K : Bool → Er → Prop} (hx : Okv t x) (hy : Okv t y) (h : K (lexB (keyQ x) (keyQ y)) .ok) : M_val_Less x y K := by
  cases t with
  | false =>
    obtain ⟨a, rfl⟩ := hx
    obtain ⟨b, rfl⟩ := hy
    unfold M_val_Less M_val_looker_lessT
    refine look_M (by omega) (by omega) (by omega) ⟨fun e => absurd rfl e, fun _ => ⟨by simp, by simp, fun e => absurd rfl e, fun _ => ⟨fun z e => ?_, fun e => absurd rfl (e a)⟩⟩⟩
    cases e
    refine ⟨b, rfl, by decide, ?_⟩
    dsimp only
    rw [decide_eq_decide.2 cmpN]
    simpa [keyQ, lexB] using h
  | true =>
    obtain ⟨la, rfl, hla⟩ := hx
    obtain ⟨lb, rfl, hlb⟩ := hy
    unfold M_val_Less M_val_looker_lessT
    refine look_M (by omega) (by omega) (by omega) ⟨fun e => absurd rfl e, fun _ => ⟨by simp, by simp, fun e => absurd rfl e, fun _ => ⟨fun z e => (by cases e), fun _ => ⟨fun e => (by cases e), fun _ => ⟨fun l e => ?_, fun e => absurd rfl (e la)⟩⟩⟩⟩⟩
    cases e
    exact ⟨lb, rfl, looker_first_M ⟨by omega, by omega⟩ hla hlb fun _ => h⟩
theorem scmp_M {t back : Bool} {x y : PV} {K : Int → Prop} (hx : Okv t x) (hy : Okv t y) (h : K (if ltP back x y then -1 else if ltP back y x then 1 else 0)) : M_list_Sorted_1 x y back false K := by
  refine ⟨fun a b => (back = true → a = y ∧ b = x) ∧ (back = false → a = x ∧ b = y), ⟨fun e => ⟨fun _ => ⟨rfl, rfl⟩, fun e2 => absurd (e.symm.trans e2) (by simp)⟩, fun e => ⟨fun e2 => absurd (e.symm.trans e2) (by simp), fun _ => ⟨rfl, rfl⟩⟩⟩, fun a b hab => ?_⟩
  have key : Okv t a ∧ Okv t b ∧ lexB (keyQ a) (keyQ b) = ltP back x y ∧ lexB (keyQ b) (keyQ a) = ltP back y x := by
    cases back with
    | true => obtain ⟨rfl, rfl⟩ := hab.1 rfl; exact ⟨hy, hx, rfl, rfl⟩
    | false => obtain ⟨rfl, rfl⟩ := hab.2 rfl; exact ⟨hx, hy, rfl, rfl⟩
  obtain ⟨ha, hb, e1, e2⟩ := key
  refine vless_M ha hb (vless_M hb ha ⟨fun e => absurd e (by simp), fun _ => ⟨fun e => ?_, fun e => ⟨fun e' => ?_, fun e' => ?_⟩⟩⟩)
  · rw [e1] at e; rw [e, if_pos rfl] at h; exact h
  · rw [e1] at e; rw [e2] at e'; rw [e, e', if_neg (by simp), if_pos rfl] at h; exact h
  · rw [e1] at e; rw [e2] at e'; rw [e, e', if_neg (by simp), if_neg (by simp)] at h; exact h
theorem b3_neg {p q : Bool} : ((if p = true then -1 else if q = true then 1 else 0 : Int) < 0) ↔ p = true := by
  cases p <;> cases q <;> simp
/-- all are of one kind -/
abbrev Okl (t : Bool) (l : List PV) : Prop := ∀ x ∈ l, Okv t x
theorem Okl.at {t : Bool} {l : List PV} (h : Okl t l) {i : Nat} (hi : i < l.length) : Okv t (l.getD i PV.nil) := by
  have : l.getD i PV.nil = l[i] := by simp [List.getD, hi]
  rw [this]; exact h _ (List.getElem_mem hi)
theorem Okl.perm {t : Bool} {l m : List PV} (h : Okl t l) (k : m.Perm l) : Okl t m := fun x hx => h x (k.mem_iff.1 hx)
variable {t back : Bool} {data : List PV} {K : List PV → Prop}
theorem insertion_M {a b : Int} (hP : Okl t data) (h0 : 0 ≤ a) (hab : a ≤ b) (hb : b ≤ data.length) (hl : data.length ≤ 1000) (h : ∀ d', SyM (ltP back) PV.nil data d' a.toNat b.toNat → K d') :
    M_slices_insertionSortCmpFunc_val_Value_list_Sorted_1 data a b back false K := by
  intro _
  refine ⟨by simp only [In]; omega, fun i d2 => a + 1 ≤ i ∧ (i ≤ b ∨ i = a + 1) ∧ SyM (ltP back) PV.nil data d2 a.toNat (min i b).toNat, fun i _ => (b - i).toNat, ⟨by omega, .inr rfl, SyO.refl _ _ _ _, fun i j h1 h2 h3 => by omega⟩, ?_⟩
  rintro i d2 ⟨h1, h2, h3⟩ hlen
  refine ⟨fun hi => ?_, fun hi => ?_⟩
  · rw [Int.min_eq_left (by omega)] at h3
    refine ⟨fun j d3 => a ≤ j ∧ j ≤ i ∧ SyI (ltP back) PV.nil d2 d3 a.toNat i.toNat j.toNat, fun j _ => j.toNat, ⟨by omega, by omega, SyI.start h3.2 (by omega)⟩, ?_⟩
    rintro j d3 ⟨k1, k2, k3⟩ hlen3
    have hP3 : Okl t d3 := hP.perm (k3.out.perm.trans h3.1.perm)
    refine ⟨fun q => q = (decide (a < j) && ltP back (d3.getD j.toNat PV.nil) (d3.getD (j - 1).toNat PV.nil)), ⟨fun hj => ?_, fun hj => ?_⟩, fun q hq => ⟨fun hq1 => ?_, fun hq0 => ?_⟩⟩
    · have hj := of_decide_eq_true hj
      refine ⟨⟨by omega, by omega⟩, by simp only [In]; omega, ⟨by omega, by omega⟩, scmp_M (hP3.at (by omega)) (hP3.at (by omega)) ?_⟩
      dsimp only
      generalize ltP back (d3.getD j.toNat PV.nil) (d3.getD (j - 1).toNat PV.nil) = p
      generalize ltP back (d3.getD (j - 1).toNat PV.nil) (d3.getD j.toNat PV.nil) = q
      cases p <;> cases q <;> simp [hj]
    · rw [hj]; rfl
    · rw [hq, Bool.and_eq_true] at hq1
      have hj := of_decide_eq_true hq1.1
      have ej : (j - 1).toNat = j.toNat - 1 := by omega
      refine ⟨by simp only [In]; omega, by simp only [In]; omega, ⟨by omega, by omega⟩, ⟨by omega, by omega⟩, ⟨by omega, by omega⟩, ⟨by omega, by omega⟩, by simp only [In]; omega, ⟨by omega, by omega, ?_⟩, by first | omega | (dsimp only; omega)⟩
      rw [ej] at hq1 ⊢
      exact k3.step (ltP_ord back) (by omega) (by omega) (by omega) hq1.2
    · rw [hq, Bool.and_eq_false_iff] at hq0
      refine ⟨by simp only [In]; omega, ⟨by omega, by omega, ?_⟩, by first | omega | (dsimp only; omega)⟩
      rw [Int.min_eq_left (show i + 1 ≤ b by omega), show (i + 1).toNat = i.toNat + 1 by omega]
      have f := k3.fin (ltP_ord back) (by omega) (by omega) (by
        rcases hq0 with e | e
        · have := of_decide_eq_false e; exact .inl (by omega)
        · rw [show (j - 1).toNat = j.toNat - 1 by omega] at e; exact .inr e)
      exact ⟨(h3.1.wide (Nat.le_refl _) (by omega)).trans f.1, f.2⟩
  · rw [Int.min_eq_right (by omega)] at h3
    exact h _ h3
theorem swapRange_M {a b n : Int} (h0 : 0 ≤ a) (hn : 0 ≤ n) (hab : a + n ≤ b) (hb : b + n ≤ data.length) (hl : data.length ≤ 1000) (h : ∀ d', SyW PV.nil data d' a.toNat b.toNat n.toNat → K d') :
    M_slices_swapRangeCmpFunc_val_Value_list_Sorted_1 data a b n back false K := by
  intro _
  refine ⟨fun i d2 => 0 ≤ i ∧ i ≤ n ∧ SyW PV.nil data d2 a.toNat b.toNat i.toNat, fun i _ => (n - i).toNat, ⟨by omega, hn, SyW.zero _ _ _ _⟩, ?_⟩
  rintro i d2 ⟨h1, h2, h3⟩ hlen
  refine ⟨fun hi => ?_, fun hi => ?_⟩
  · have e1 : (a + i).toNat = a.toNat + i.toNat := by omega
    have e2 : (b + i).toNat = b.toNat + i.toNat := by omega
    refine ⟨by simp only [In]; omega, by simp only [In]; omega, by simp only [In]; omega, ⟨by omega, by omega⟩, by simp only [In]; omega, ⟨by omega, by omega⟩, ⟨by omega, by omega⟩, ⟨by omega, by omega⟩, by simp only [In]; omega, ⟨by omega, by omega, ?_⟩, by first | omega | (dsimp only; omega)⟩
    rw [show (i + 1).toNat = i.toNat + 1 by omega, e1, e2]
    exact h3.succ (by omega) (by omega)
  · have : i = n := by omega
    subst this; exact h _ h3
theorem rotate_M {a m b : Int} (h0 : 0 ≤ a) (hm : a < m) (hb : m < b) (hbl : b ≤ data.length) (hl : data.length ≤ 1000) (h : ∀ d', SyR PV.nil data d' a.toNat m.toNat b.toNat → K d') :
    M_slices_rotateCmpFunc_val_Value_list_Sorted_1 data a m b back false K := by
  intro _
  refine ⟨by simp only [In]; omega, by simp only [In]; omega, fun i j d2 => 0 < i ∧ 0 < j ∧ i ≤ m - a ∧ j ≤ b - m ∧ d2.length = data.length ∧ ∀ d', SyR PV.nil d2 d' (m.toNat - i.toNat) m.toNat (m.toNat + j.toNat) → SyR PV.nil data d' a.toNat m.toNat b.toNat, fun i j _ => (i + j).toNat, ⟨by omega, by omega, by omega, by omega, rfl, fun d' k => ?_⟩, ?_⟩
  · rwa [show m.toNat - (m - a).toNat = a.toNat by omega, show m.toNat + (b - m).toNat = b.toNat by omega] at k
  · rintro i j d2 ⟨h1, h2, h3, h4, hlen2, h5⟩ hlen
    have em : (m - i).toNat = m.toNat - i.toNat := by omega
    refine ⟨fun hij => ⟨fun hji => ?_, fun hji => ?_⟩, fun hij => ?_⟩
    · refine ⟨by simp only [In]; omega, swapRange_M (by omega) (by omega) (by omega) (by omega) (by omega) fun c hc => ⟨by simp only [In]; omega, ⟨by omega, by omega, by omega, by omega, hc.len.trans hlen2, fun d' k => h5 d' ?_⟩, by first | omega | (dsimp only; omega)⟩⟩
      rw [em] at hc
      refine SyR.big hc (by omega) (by omega) (by omega) ?_
      rwa [show m.toNat - (i - j).toNat = m.toNat - i.toNat + j.toNat by omega] at k
    · refine ⟨by simp only [In]; omega, by simp only [In]; omega, by simp only [In]; omega, swapRange_M (by omega) (by omega) (by omega) (by omega) (by omega) fun c hc => ⟨by simp only [In]; omega, ⟨by omega, by omega, by omega, by omega, hc.len.trans hlen2, fun d' k => h5 d' ?_⟩, by first | omega | (dsimp only; omega)⟩⟩
      rw [em, show (m + j - i).toNat = m.toNat + j.toNat - i.toNat by omega] at hc
      refine SyR.small hc (by omega) (by omega) (by omega) ?_
      rwa [show m.toNat + (j - i).toNat = m.toNat + j.toNat - i.toNat by omega] at k
    · subst hij
      refine ⟨by simp only [In]; omega, swapRange_M (by omega) (by omega) (by omega) (by omega) (by omega) fun c hc => h _ (h5 _ ?_)⟩
      rw [em] at hc
      exact SyR.even hc (by omega)
end Go.Proofs.YtjoepdjeekadcaaDoor


 /- list.Sorted, plainly: the merge, and all of it. -/
namespace Go.Proofs.YtjoepdjeekadcaaDoor
open Go Go.RowKit
section
variable {α : Type} {d : α} {l l' : List α} {a b m : Nat} {lt : α → α → Bool}
/-- one item ahead, put where it belongs -/
theorem SyM.ahead (ho : SyOrd lt) {e : Nat} (h2 : SySrt lt d l (a + 1) b) (rot : SyR d l l' a (a + 1) e) (h3 : a + 1 ≤ e) (h4 : e ≤ b) (c1 : e = a + 1 ∨ lt (l.getD (e - 1) d) (l.getD a d) = true) (c2 : e = b ∨ lt (l.getD e d) (l.getD a d) = false) : SyM lt d l l' a b := by
  refine ⟨(rot.toOut (by omega) (by omega)).wide (Nat.le_refl _) h4, fun i j h5 h6 h7 => ?_⟩
  have lo : ∀ k, a ≤ k → k < e - 1 → l'.getD k d = l.getD (k + 1) d := fun k q1 q2 => by rw [rot.lo k q1 (by omega)]; congr 1; omega
  have at1 : l'.getD (e - 1) d = l.getD a d := by rw [rot.hi (e - 1) (by omega) (by omega)]; congr 1; omega
  have lta : ∀ k, a + 1 ≤ k → k < e → lt (l.getD a d) (l.getD k d) = false := fun k q1 q2 => by
    rcases c1 with c1 | c1
    · omega
    · exact ho.tr _ _ _ (h2.le ho (i := k) (j := e - 1) q1 (by omega) (by omega)) (ho.tot _ _ c1)
  have gta : ∀ k, e ≤ k → k < b → lt (l.getD k d) (l.getD a d) = false := fun k q1 q2 => by
    rcases c2 with c2 | c2
    · omega
    · exact ho.tr _ _ _ c2 (h2.le ho (i := e) (j := k) (by omega) q1 q2)
  rcases Nat.lt_trichotomy j (e - 1) with hj | hj | hj
  · rw [lo i h5 (by omega), lo j (by omega) hj]; exact h2 _ _ (by omega) (by omega) (by omega)
  · subst hj; rw [at1, lo i h5 h6]; exact lta _ (by omega) (by omega)
  · rw [rot.out j (by omega)]
    rcases Nat.lt_trichotomy i (e - 1) with hi | hi | hi
    · rw [lo i h5 hi]; exact h2 _ _ (by omega) (by omega) (by omega)
    · subst hi; rw [at1]; exact gta _ (by omega) h7
    · rw [rot.out i (by omega)]; exact h2 _ _ (by omega) h6 h7
/-- one item behind, put where it belongs -/
theorem SyM.behind (ho : SyOrd lt) {e : Nat} (h1 : SySrt lt d l a m) (rot : SyR d l l' e m (m + 1)) (h3 : a ≤ e) (h4 : e ≤ m) (c1 : e = a ∨ lt (l.getD m d) (l.getD (e - 1) d) = false) (c2 : e = m ∨ lt (l.getD m d) (l.getD e d) = true) : SyM lt d l l' a (m + 1) := by
  refine ⟨(rot.toOut (by omega) (by omega)).wide h3 (Nat.le_refl _), fun i j h5 h6 h7 => ?_⟩
  have at1 : l'.getD e d = l.getD m d := by rw [rot.lo e (by omega) (by omega)]; congr 1; omega
  have hi1 : ∀ k, e < k → k < m + 1 → l'.getD k d = l.getD (k - 1) d := fun k q1 q2 => by rw [rot.hi k (by omega) q2]; congr 1; omega
  have lta : ∀ k, a ≤ k → k < e → lt (l.getD m d) (l.getD k d) = false := fun k q1 q2 => by
    rcases c1 with c1 | c1
    · omega
    · exact ho.tr _ _ _ (h1.le ho (i := k) (j := e - 1) q1 (by omega) (by omega)) c1
  have gta : ∀ k, e ≤ k → k < m → lt (l.getD k d) (l.getD m d) = false := fun k q1 q2 => by
    rcases c2 with c2 | c2
    · omega
    · exact ho.tr _ _ _ (ho.tot _ _ c2) (h1.le ho (i := e) (j := k) (by omega) q1 q2)
  rcases Nat.lt_trichotomy i e with hi | hi | hi
  · rw [rot.out i (by omega)]
    rcases Nat.lt_trichotomy j e with hj | hj | hj
    · rw [rot.out j (by omega)]; exact h1 _ _ h5 h6 (by omega)
    · subst hj; rw [at1]; exact lta _ h5 hi
    · rw [hi1 j hj h7]; exact h1 _ _ h5 (by omega) (by omega)
  · subst hi; rw [at1, hi1 j h6 h7]; exact gta _ (by omega) (by omega)
  · rw [hi1 i hi (by omega), hi1 j (by omega) h7]; exact h1 _ _ (by omega) (by omega) (by omega)
end
theorem shr_half {x : Int} (h : 0 ≤ x) : shrV .u64 x 1 = x / 2 := by
  unfold shrV
  rw [show min 1 IntKind.u64.bits = 1 from rfl, Int.fdiv_eq_ediv_of_nonneg _ (by omega)]; rfl
theorem sym_M {t back : Bool} : ∀ (n : Nat) {data : List PV} {K : List PV → Prop} {a m b : Int}, b - a ≤ n → Okl t data → 0 ≤ a → a < m → m < b → b ≤ data.length → data.length ≤ 1000 → SySrt (ltP back) PV.nil data a.toNat m.toNat → SySrt (ltP back) PV.nil data m.toNat b.toNat →
    (∀ d', SyM (ltP back) PV.nil data d' a.toNat b.toNat → K d') → MF_slices_symMergeCmpFunc_val_Value_list_Sorted_1 n data a m b back false K
  | 0, _, _, _, _, _, hn, _, _, _, _, _, _, _, _, _ => by omega
  | n + 1, data, K, a, m, b, hn, hP, h0, ham, hmb, hb, hl, s1, s2, h => by
    have ho := ltP_ord back
    show M_slices_symMergeCmpFunc_val_Value_list_Sorted_1_step _ _ _ _ _ _ _ _
    intro _
    refine ⟨by simp only [In]; omega, fun e1 => ?_, fun e1 => ⟨by simp only [In]; omega, fun e2 => ?_, fun e2 => ?_⟩⟩
    · -- one item ahead
      have em : m.toNat = a.toNat + 1 := by omega
      refine ⟨fun i j => m ≤ i ∧ i ≤ j ∧ j ≤ b ∧ (i = m ∨ ltP back (data.getD (i.toNat - 1) PV.nil) (data.getD a.toNat PV.nil) = true) ∧ (j = b ∨ ltP back (data.getD j.toNat PV.nil) (data.getD a.toNat PV.nil) = false), fun i j => (j - i).toNat, ⟨by omega, by omega, by omega, .inl rfl, .inl rfl⟩, ?_⟩
      rintro i j ⟨h1, h2, h3, c1, c2⟩
      refine ⟨fun hij => ?_, fun hij => ?_⟩
      · have hs := shr_half (x := i + j) (by omega)
        rw [hs]
        refine ⟨by simp only [In]; omega, by simp only [In]; omega, by simp only [In]; omega, ⟨by omega, by omega⟩, ⟨by omega, by omega⟩, scmp_M (hP.at (by omega)) (hP.at (by omega)) ⟨fun e => ?_, fun e => ?_⟩⟩
        · rw [b3_neg] at e
          refine ⟨by simp only [In]; omega, ⟨by omega, by omega, by omega, .inr ?_, c2⟩, by first | omega | (dsimp only; omega)⟩
          rw [show ((i + j) / 2 + 1).toNat - 1 = ((i + j) / 2).toNat by omega]; exact e
        · rw [b3_neg] at e
          exact ⟨⟨by omega, by omega, by omega, c1, .inr (by simpa using e)⟩, by first | omega | (dsimp only; omega)⟩
      · have eij : i = j := by omega
        subst eij
        refine ⟨fun k d2 => a ≤ k ∧ k ≤ i - 1 ∧ SyR PV.nil data d2 a.toNat (a.toNat + 1) (k.toNat + 1), fun k _ => (i - k).toNat, ⟨by omega, by omega, SyR.zero1 _ _ _⟩, ?_⟩
        rintro k d2 ⟨k1, k2, k3⟩ hlen
        refine ⟨by simp only [In]; omega, fun hk => ?_, fun hk => ?_⟩
        · refine ⟨by simp only [In]; omega, by simp only [In]; omega, ⟨by omega, by omega⟩, ⟨by omega, by omega⟩, ⟨by omega, by omega⟩, ⟨by omega, by omega⟩, by simp only [In]; omega, ⟨by omega, by omega, ?_⟩, by first | omega | (dsimp only; omega)⟩
          rw [show (k + 1).toNat = k.toNat + 1 by omega]
          exact k3.up (by omega) (by omega)
        · have ek : k.toNat + 1 = i.toNat := by omega
          rw [ek] at k3
          rw [em] at s2
          refine h _ (SyM.ahead ho s2 k3 (by omega) (by omega) ?_ ?_)
          · rcases c1 with c | c
            · left; omega
            · exact .inr c
          · rcases c2 with c | c
            · left; omega
            · exact .inr c
    · -- one item behind
      have eb : b.toNat = m.toNat + 1 := by omega
      refine ⟨fun i j => a ≤ i ∧ i ≤ j ∧ j ≤ m ∧ (i = a ∨ ltP back (data.getD m.toNat PV.nil) (data.getD (i.toNat - 1) PV.nil) = false) ∧ (j = m ∨ ltP back (data.getD m.toNat PV.nil) (data.getD j.toNat PV.nil) = true), fun i j => (j - i).toNat, ⟨by omega, by omega, by omega, .inl rfl, .inl rfl⟩, ?_⟩
      rintro i j ⟨h1, h2, h3, c1, c2⟩
      refine ⟨fun hij => ?_, fun hij => ?_⟩
      · have hs := shr_half (x := i + j) (by omega)
        rw [hs]
        refine ⟨by simp only [In]; omega, by simp only [In]; omega, by simp only [In]; omega, ⟨by omega, by omega⟩, ⟨by omega, by omega⟩, scmp_M (hP.at (by omega)) (hP.at (by omega)) ⟨fun e => ?_, fun e => ?_⟩⟩
        · rw [b3_neg] at e
          refine ⟨by simp only [In]; omega, ⟨by omega, by omega, by omega, .inr ?_, c2⟩, by first | omega | (dsimp only; omega)⟩
          rw [show ((i + j) / 2 + 1).toNat - 1 = ((i + j) / 2).toNat by omega]; simpa using e
        · rw [b3_neg] at e
          exact ⟨⟨by omega, by omega, by omega, c1, .inr e⟩, by first | omega | (dsimp only; omega)⟩
      · have eij : i = j := by omega
        subst eij
        refine ⟨fun k d2 => i ≤ k ∧ k ≤ m ∧ SyR PV.nil data d2 k.toNat m.toNat (m.toNat + 1), fun k _ => k.toNat, ⟨by omega, by omega, SyR.zero2 _ _ _⟩, ?_⟩
        rintro k d2 ⟨k1, k2, k3⟩ hlen
        refine ⟨fun hk => ?_, fun hk => ?_⟩
        · refine ⟨by simp only [In]; omega, by simp only [In]; omega, ⟨by omega, by omega⟩, ⟨by omega, by omega⟩, ⟨by omega, by omega⟩, ⟨by omega, by omega⟩, by simp only [In]; omega, ⟨by omega, by omega, ?_⟩, by first | omega | (dsimp only; omega)⟩
          rw [show (k - 1).toNat = k.toNat - 1 by omega]
          exact k3.down (by omega) (by omega) (by omega)
        · have ek : k = i := by omega
          subst ek
          rw [eb] at h
          refine h _ (SyM.behind ho s1 k3 (by omega) (by omega) ?_ ?_)
          · rcases c1 with c | c
            · left; omega
            · exact .inr c
          · rcases c2 with c | c
            · left; omega
            · exact .inr c
    · have hs := shr_half (x := a + b) (by omega)
      rw [hs]
      generalize hmid : (a + b) / 2 = mid
      have hmid1 : a < mid ∧ mid < b := by omega
      refine ⟨by simp only [In]; omega, by simp only [In]; omega, by simp only [In]; omega, by simp only [In]; omega, fun lo hi => (mid < m ∧ lo = mid + m - b ∧ hi = mid) ∨ (m ≤ mid ∧ lo = a ∧ hi = m), ⟨fun e => ⟨by simp only [In]; omega, .inl ⟨e, rfl, rfl⟩⟩, fun e => .inr ⟨by omega, rfl, rfl⟩⟩, fun lo hi hlh => ?_⟩
      have hlo : a ≤ lo ∧ lo ≤ hi ∧ hi ≤ m ∧ hi ≤ mid ∧ mid + m - lo ≤ b ∧ m ≤ mid + m - hi := by
        rcases hlh with ⟨e, rfl, rfl⟩ | ⟨e, rfl, rfl⟩ <;> omega
      refine ⟨by simp only [In]; omega, fun i j => lo ≤ i ∧ i ≤ j ∧ j ≤ hi ∧ (i = lo ∨ ltP back (data.getD (mid + m - i).toNat PV.nil) (data.getD (i.toNat - 1) PV.nil) = false) ∧ (j = hi ∨ ltP back (data.getD ((mid + m - j).toNat - 1) PV.nil) (data.getD j.toNat PV.nil) = true), fun i j => (j - i).toNat, ⟨by omega, by omega, by omega, .inl rfl, .inl rfl⟩, ?_⟩
      rintro i j ⟨h1, h2, h3, c1, c2⟩
      refine ⟨fun hij => ?_, fun hij => ?_⟩
      · have hs := shr_half (x := i + j) (by omega)
        rw [hs]
        refine ⟨by simp only [In]; omega, by simp only [In]; omega, by simp only [In]; omega, by simp only [In]; omega, ⟨by omega, by omega⟩, ⟨by omega, by omega⟩, scmp_M (hP.at (by omega)) (hP.at (by omega)) ⟨fun e => ?_, fun e => ?_⟩⟩
        · rw [b3_neg] at e
          refine ⟨by simp only [In]; omega, ⟨by omega, by omega, by omega, .inr ?_, c2⟩, by first | omega | (dsimp only; omega)⟩
          rw [show ((i + j) / 2 + 1).toNat - 1 = ((i + j) / 2).toNat by omega, show mid + m - ((i + j) / 2 + 1) = mid + m - 1 - (i + j) / 2 by omega]; simpa using e
        · rw [b3_neg] at e
          refine ⟨⟨by omega, by omega, by omega, c1, .inr ?_⟩, by first | omega | (dsimp only; omega)⟩
          rw [show (mid + m - (i + j) / 2).toNat - 1 = (mid + m - 1 - (i + j) / 2).toNat by omega]; exact e
      · have eij : i = j := by omega
        subst eij
        have cut : ∀ d', SyR PV.nil data d' i.toNat m.toNat (mid + m - i).toNat → SyC (ltP back) PV.nil data d' a.toNat m.toNat b.toNat i.toNat (mid + m - i).toNat := fun d' rot => by
          refine ⟨s1, s2, rot, by omega, fun x1 x2 => ?_, fun y1 y2 => ?_⟩
          · rcases c1 with c | c
            · exfalso
              rcases hlh with ⟨e, rfl, rfl⟩ | ⟨e, rfl, rfl⟩ <;> omega
            · exact c
          · rcases c2 with c | c
            · exfalso
              rcases hlh with ⟨e, rfl, rfl⟩ | ⟨e, rfl, rfl⟩ <;> omega
            · exact c
        refine ⟨by simp only [In]; omega, fun xs => SyR PV.nil data xs i.toNat m.toNat (mid + m - i).toNat, ⟨fun e => ?_, fun e => ?_⟩, fun xs hxs hlen => ?_⟩
        · simp only [Bool.and_eq_true, decide_eq_true_eq] at e
          exact rotate_M (by omega) (by omega) (by omega) (by omega) hl fun d' k => k
        · simp only [Bool.and_eq_false_iff, decide_eq_false_iff_not] at e
          rcases Int.lt_or_le i m with e3 | e3
          · have e4 : (mid + m - i).toNat = m.toNat := by omega
            rw [e4]
            exact ⟨rfl, List.Perm.refl _, fun _ _ => rfl, fun k q1 q2 => by omega, fun k q1 q2 => by congr 1; omega⟩
          · have e4 : i.toNat = m.toNat := by omega
            rw [e4]
            exact ⟨rfl, List.Perm.refl _, fun _ _ => rfl, fun k q1 q2 => by congr 1; omega, fun k q1 q2 => by omega⟩
        · have hC := cut xs hxs
          obtain ⟨f1, f2, f3, f4, _⟩ := hC.fin ho
          have eq : mid.toNat = i.toNat + ((mid + m - i).toNat - m.toNat) := by omega
          have hPx : Okl t xs := hP.perm hxs.perm
          rw [← eq] at f2 f3
          refine ⟨fun ys => SyM (ltP back) PV.nil xs ys a.toNat mid.toNat, ⟨fun e => ?_, fun e => ?_⟩, fun ys hys hlen2 => ⟨fun e => ?_, fun e => ?_⟩⟩
          · simp only [Bool.and_eq_true, decide_eq_true_eq] at e
            exact sym_M n (by omega) hPx h0 e.1 e.2 (by omega) (by omega) f1 f2 fun d' k => k
          · simp only [Bool.and_eq_false_iff, decide_eq_false_iff_not] at e
            refine ⟨SyO.refl _ _ _ _, ?_⟩
            rcases Int.lt_or_le a i with e3 | e3
            · rwa [show i.toNat = mid.toNat by omega] at f1
            · rwa [show i.toNat = a.toNat by omega] at f2
          · simp only [Bool.and_eq_true, decide_eq_true_eq] at e
            refine sym_M n (by omega) (hPx.perm hys.1.perm) (by omega) e.1 e.2 (by omega) (by omega) (f3.out hys.1 (.inl (by omega))) (f4.out hys.1 (.inl (by omega))) fun d' k => h _ ?_
            exact hC.halves ho eq hys k
          · simp only [Bool.and_eq_false_iff, decide_eq_false_iff_not] at e
            refine h _ (hC.halves ho eq hys ⟨SyO.refl _ _ _ _, ?_⟩)
            rcases Int.lt_or_le mid (mid + m - i) with e3 | e3
            · have := f3.out hys.1 (.inl (Nat.le_refl _))
              rwa [show (mid + m - i).toNat = b.toNat by omega] at this
            · have := f4.out hys.1 (.inl (by omega))
              rwa [show (mid + m - i).toNat = mid.toNat by omega] at this
end Go.Proofs.YtjoepdjeekadcaaDoor


 /- Whole numbers and rows of them, as_ they are written. -/
namespace Go.Proofs.YtjoepdjeekadcaaDoor
open Go Go.RowKit
/-- numbers with commas between -/
def comT : List Int → List UInt8
  | [] => []
  | [z] => txt z
  | z :: y :: l => txt z ++ [44, 32] ++ comT (y :: l)
def tupT (l : List Int) : List UInt8 := [40] ++ comT l ++ (if l.length = 1 then [44, 41] else [41])
theorem txt_len {z : Int} (h : -100000000 < z ∧ z < 100000000) : (txt z).length ≤ 9 := by
  have := dd_len 8 z.natAbs (by omega)
  unfold txt
  split
  · simp
  · split <;> simp <;> omega
theorem full_M {p : List UInt8} {K : Bool → Prop} (hp : p.length < 65536) (h : K false) : M_pval_printer_full p K := by
  intro _
  rw [decide_eq_false (by omega)]; exact h
theorem put_M {p t : List UInt8} {K : List UInt8 → Prop} (hp : p.length + t.length ≤ 65536) (h : K (p ++ t)) : M_pval_printer_put p [t] K := by
  intro _ _
  refine ⟨fun i q => (i = 0 ∧ q = p) ∨ (i = 1 ∧ q = p ++ t), fun i _ => (1 - i).toNat, .inl ⟨rfl, rfl⟩, ?_⟩
  rintro i q (⟨rfl, rfl⟩ | ⟨rfl, rfl⟩)
  · have e : (if (65536 : Int) - (q.length : Int) < (t.length : Int) then (65536 : Int) - (q.length : Int) else (t.length : Int)).toNat = t.length := by
      split <;> omega
    refine ⟨fun _ => ⟨by simp, by simp only [In]; omega, ?_, ?_, by simp only [In]; omega, ?_, by dsimp only; omega⟩, fun hn => absurd (by simp) hn⟩
    · simp only [Int.toNat_zero, List.getD_cons_zero]; split <;> omega
    · simp only [Int.toNat_zero, List.getD_cons_zero, e, List.take_length]; omega
    · simp only [Int.toNat_zero, List.getD_cons_zero, e, List.take_length]
      exact .inr ⟨by omega, by first | rfl | trivial⟩
  · exact ⟨fun hl => absurd hl (by simp), fun _ => h⟩
theorem text_M {z : Int} {K : List UInt8 → Prop} (h : K (txt z)) : M_num_Num_Text z 3 K := ⟨by decide, h⟩
theorem repr_int {p : List UInt8} {z deep : Int} {K : List UInt8 → Prop} (hp : p.length + (txt z).length ≤ 65000) (h : K (p ++ txt z)) : M_pval_printer_repr p (.int z) deep K := by
  intro _
  refine full_M (by omega) ⟨fun e => (by cases e), fun _ => ⟨fun e => (by cases e), fun z' e => ?_, fun e => absurd rfl (e z)⟩⟩
  cases e
  exact text_M (put_M (by omega) h)
theorem vrepr_int {z : Int} {K : List UInt8 → Prop} (hp : (txt z).length ≤ 65000) (h : K (txt z)) : M_val_Repr (.int z) K := by
  intro _
  refine full_M (by decide) ⟨fun e => (by cases e), fun _ => ⟨fun e => (by cases e), fun z' e => ?_, fun e => absurd rfl (e z)⟩⟩
  cases e
  exact text_M (put_M (by simp; omega) h)
theorem comT_push : ∀ (l : List Int) (z : Int), comT (l ++ [z]) = comT l ++ (if l = [] then [] else [44, 32]) ++ txt z
  | [], z => by simp [comT]
  | [y], z => by simp [comT]
  | y :: x :: l, z => by
    have := comT_push (x :: l) z
    rw [List.cons_append, List.cons_append, comT, ← List.cons_append, this, comT]
    simp
theorem comT_len : ∀ {l : List Int}, (∀ z ∈ l, (txt z).length ≤ 9) → (comT l).length ≤ 11 * l.length
  | [], _ => by simp [comT]
  | [z], h => by have := h z (by simp); simp [comT]; omega
  | z :: y :: l, h => by
    have h1 := comT_len (l := y :: l) fun x hx => h x (List.mem_cons_of_mem _ hx)
    have h2 := h z (by simp)
    rw [comT]
    simp only [List.length_append, List.length_cons, List.length_nil] at h1 ⊢
    omega
theorem getD_get' {α : Type} {l : List α} {i : Nat} {d : α} (h : i < l.length) : l.getD i d = l[i] := by simp [List.getD, h]
theorem items_M {p : List UInt8} {l : List Int} {deep : Int} {K : List UInt8 → Prop} (hl : l.length ≤ 2000) (hp : p.length ≤ 1000) (ht : ∀ z ∈ l, (txt z).length ≤ 9) (h : K (p ++ comT l)) : M_pval_printer_items p (l.map .int) deep K := by
  intro _ _
  refine ⟨fun i q => 0 ≤ i ∧ i ≤ l.length ∧ q = p ++ comT (l.take i.toNat), fun i _ => ((l.length : Int) - i).toNat, ⟨by omega, by omega, by simp [comT]⟩, ?_⟩
  rintro i q ⟨h0, h1, rfl⟩
  have hc := comT_len (l := l.take i.toNat) fun z hz => ht z (List.mem_of_mem_take hz)
  have hcl : (l.take i.toNat).length ≤ 2000 := by rw [List.length_take]; omega
  rw [List.length_map]
  refine ⟨fun hi => ⟨⟨h0, by omega⟩, full_M (by simp; omega) ⟨fun e => (by cases e), fun _ => ?_⟩⟩, fun hi => ?_⟩
  · have hlt : i.toNat < l.length := by omega
    have e1 : (l.map PV.int).getD i.toNat PV.nil = .int l[i.toNat] := by rw [getD_get' (by simpa using hlt)]; simp
    have e2 : l.take (i + 1).toNat = l.take i.toNat ++ [l[i.toNat]] := by
      rw [show (i + 1).toNat = i.toNat + 1 by omega, List.take_add_one, List.getElem?_eq_getElem hlt]; rfl
    have e3 := ht l[i.toNat] (List.getElem_mem hlt)
    refine ⟨fun q => q = p ++ (comT (l.take i.toNat) ++ (if l.take i.toNat = [] then [] else [44, 32])), ⟨fun hpos => ?_, fun hn => ?_⟩, ?_⟩
    · refine put_M (by simp; omega) ?_
      have : l.take i.toNat ≠ [] := by
        intro e
        have := congrArg List.length e
        rw [List.length_take, List.length_nil] at this
        omega
      rw [if_neg this, List.append_assoc]
    · have e0 : i = 0 := by omega
      subst e0
      simp
    · rintro _ rfl
      rw [e1]
      refine repr_int ?_ ⟨by simp only [In]; omega, ⟨by omega, by omega, ?_⟩, by dsimp only; omega⟩
      · simp only [List.length_append]
        split <;> simp only [List.length_nil, List.length_cons] <;> omega
      · rw [e2, comT_push]; simp
  · have : l.take i.toNat = l := List.take_of_length_le (by omega)
    rw [this]; exact h
theorem vrepr_tup {l : List Int} {K : List UInt8 → Prop} (hl : l.length ≤ 1000) (ht : ∀ z ∈ l, (txt z).length ≤ 9) (h : K (tupT l)) : M_val_Repr (.tup l) K := by
  have hc := comT_len ht
  intro _
  refine full_M (by decide) ⟨fun e => (by cases e), fun _ => ⟨fun e => (by cases e), fun z' e => (by cases e), fun _ => ?_⟩⟩
  intro _
  refine ⟨fun e => absurd e (by decide), fun _ => ⟨fun e => (by cases e), fun _ => ⟨fun l' e => ?_, fun e => absurd rfl (e l)⟩⟩⟩
  cases e
  refine put_M (by simp) ⟨by simp only [In]; omega, items_M (by omega) (by simp) ht ?_⟩
  refine ⟨fun q => q = [40] ++ comT l ++ (if l.length = 1 then [44] else []), ⟨fun e => ?_, fun e => ?_⟩, ?_⟩
  · rw [List.length_map] at e
    rw [if_pos (by omega)]
    exact put_M (by simp; omega) rfl
  · rw [List.length_map] at e
    rw [if_neg (by omega), List.append_nil]; rfl
  · rintro _ rfl
    refine put_M (by simp only [List.length_append]; split <;> simp <;> omega) ?_
    have : [40] ++ comT l ++ (if l.length = 1 then [44] else []) ++ [41] = tupT l := by
      unfold tupT
      split <;> simp
    rw [this]; exact h
theorem txt_dig {d : Nat} (h0 : 0 < d) (h1 : d < 10) : txt (d : Int) = [UInt8.ofNat (48 + d)] := by
  unfold txt
  rw [if_neg (by omega), if_neg (by omega), Int.natAbs_natCast, dd_pos h0, show d / 10 = 0 by omega, dd_zero]
  simp only [dc, show d % 10 = d by omega]
  rfl
end Go.Proofs.YtjoepdjeekadcaaDoor


 /- Printed by a program (wip/vg): what the functions mean, plainly, and their walks. -/
namespace Go.Proofs.YtjoepdjeekadcaaDoor
open Go Go.RowKit
attribute [local irreducible] WL WC WX WQ WK WJ Yld Eff Ef0 Fn
def M_smithysee_Alike (a : Er) (b : Er) (K : Bool → Prop) : Prop :=
 ((((decide (a = Er.ok)) || (decide (b = Er.ok))) = true → K ((decide (a = Er.ok)) && (decide (b = Er.ok)))) ∧
 (((decide (a = Er.ok)) || (decide (b = Er.ok))) = false → (¬ (a = Er.ok ∧ b = Er.ok) ∧ ((∀ p n, a ≠ Er.at_ p n) ∨ ∀ p n, b ≠ Er.at_ p n)) ∧
 K (decide (a = b))))

def M_smithyref_None (K : Int → Bool → Int → Bool → (List UInt8) → Prop) : Prop :=
 K (0 : Int) false (0 : Int) false ([] : List UInt8)

def M_smithyref_Bare (code : Int) (K : Int → Bool → Int → Bool → (List UInt8) → Prop) : Prop :=
 K code false (0 : Int) false ([] : List UInt8)

def M_smithyref_Placed (code : Int) (pos : Int) (K : Int → Bool → Int → Bool → (List UInt8) → Prop) : Prop :=
 ((code = (0 : Int) → M_smithyref_None (fun (t7_Code : Int) (t7_Placed : Bool) (t7_Pos : Int) (t7_Filed : Bool) (t7_File : List UInt8) =>
 K t7_Code t7_Placed t7_Pos t7_Filed t7_File)) ∧
 (¬ (code = (0 : Int)) → K code true pos false ([] : List UInt8)))

def M_smithyref_SameFault (a_Code : Int) (a_Placed : Bool) (a_Pos : Int) (a_Filed : Bool) (a_File : List UInt8) (b_Code : Int) (b_Placed : Bool) (b_Pos : Int) (b_Filed : Bool) (b_File : List UInt8) (K : Bool → Prop) : Prop :=
 K (((((decide (a_Code = b_Code)) && (a_Placed == b_Placed)) && (decide (a_Pos = b_Pos))) && (a_Filed == b_Filed)) && (decide (a_File = b_File)))

set_option maxHeartbeats 8000000 in
theorem W_smithysee_Alike {S : List Nat} {w : World} {v_a : Value} {a : Er} {v_b : Value} {b : Er} {K : Bool → Prop} (ha : ErrR S w v_a a) (hb : ErrR S w v_b b) (H : M_smithysee_Alike a b K) : Fn Tryd.prog 92 ⟨[v_a, v_b]⟩ w (fun v w' => w = w' ∧ ∃ (r : Bool), v = .bool r ∧ K r) := by
  unfold M_smithysee_Alike at H
  refine Fn.enter (by kernel_rfl) Tryd.func92 rfl Tryd.ntmps92 rfl ?_
  refine WC.seq ?_
  refine WC.region ?_
  refine WL.y rfl (Yld.pure tab_ok rfl) ?_
  refine WL.nil (WX.then_normal ?_)
  refine WC.seq ?_
  refine WC.seq ?_
  refine WC.region ?_
  refine WL.y rfl (Yld.pure tab_ok rfl) ?_
  refine WL.y rfl (Yld.erreql Tryd.underlying34 ha rfl) ?_
  refine WL.y rfl (Yld.pure tab_ok rfl) ?_
  refine WL.midF 3 (fun L' w' => ∃ q1 : Bool, L' = [(10, .bool q1), (0, v_a), (1, v_b)] ∧ ((decide (a = Er.ok)) || (decide (b = Er.ok))) = q1 ∧ w = w') ?_ (fun hQ => ?_)
  · rintro _ _ ⟨q1, rfl, rfl, rfl⟩
    refine WL.nil (WX.then_normal ?_)
    refine WC.cond rfl (fun b1 => ?_) (fun b1 => ?_)
    · replace H := H.1 (b1)
      refine WC.seq ?_
      refine WC.region ?_
      refine WL.y rfl (Yld.pure tab_ok rfl) ?_
      refine WL.y rfl (Yld.erreql Tryd.underlying34 ha rfl) ?_
      refine WL.y rfl (Yld.pure tab_ok rfl) ?_
      refine WL.midF 3 (fun L' w' => ∃ q2 : Bool, L' = [(16, .bool q2)] ∧ ((decide (a = Er.ok)) && (decide (b = Er.ok))) = q2 ∧ w = w') ?_ (fun hQ => ?_)
      · rintro _ _ ⟨q2, rfl, rfl, rfl⟩
        refine WL.y rfl (Yld.pure tab_ok rfl) ?_
        refine WL.nil (WX.then_normal ?_)
        refine WC.ret (WX.then_ret ?_)
        exact WX.ret1 rfl rfl ⟨rfl, (decide (a = Er.ok)) && (decide (b = Er.ok)), rfl, H⟩
      · clear H
        rcases Bool.eq_false_or_eq_true (decide (a = Er.ok)) with b2 | b2
        · refine WL.gyes rfl rfl (okb b2) rfl (Yld.pure tab_ok rfl) ?_
          refine WL.gyes rfl rfl (okb b2) rfl (Yld.erreql Tryd.underlying34 hb rfl) ?_
          refine WL.y rfl (Yld.pickT (okb b2) rfl) ?_
          exact WL.weaken (by repeat (first | exact Sub.nil | refine Sub.cons rfl ?_)) (hQ _ _ ⟨decide (b = Er.ok), rfl, by rw [b2] <;> rfl, rfl⟩)
        · refine WL.gno rfl rfl (okb b2) rfl ?_
          refine WL.gno rfl rfl (okb b2) rfl ?_
          refine WL.y rfl (Yld.pickF (okb b2) rfl) ?_
          exact WL.weaken (by repeat (first | exact Sub.nil | refine Sub.cons rfl ?_)) (hQ _ _ ⟨false, rfl, by rw [b2] <;> rfl, rfl⟩)
    · replace H := H.2 (b1)
      refine WC.skip (WX.then_normal ?_)
      refine WC.seq ?_
      refine WC.region ?_
      refine WL.y rfl (Yld.pure tab_ok rfl) ?_
      refine WL.y rfl (Yld.pure tab_ok rfl) ?_
      obtain ⟨h1, H⟩ := H
      refine WL.y rfl (Yld.erreqA ha hb h1 rfl rfl) ?_
      refine WL.y rfl (Yld.pure tab_ok rfl) ?_
      refine WL.nil (WX.then_normal ?_)
      refine WC.ret ?_
      exact WX.ret1 rfl rfl ⟨rfl, decide (a = b), rfl, H⟩
  · clear H
    rcases Bool.eq_false_or_eq_true (decide (a = Er.ok)) with b3 | b3
    · refine WL.gno rfl rfl (okb b3) rfl ?_
      refine WL.gno rfl rfl (okb b3) rfl ?_
      refine WL.y rfl (Yld.pickT (okb b3) rfl) ?_
      exact WL.weaken (by repeat (first | exact Sub.nil | refine Sub.cons rfl ?_)) (hQ _ _ ⟨true, rfl, by rw [b3] <;> rfl, rfl⟩)
    · refine WL.gyes rfl rfl (okb b3) rfl (Yld.pure tab_ok rfl) ?_
      refine WL.gyes rfl rfl (okb b3) rfl (Yld.erreql Tryd.underlying34 hb rfl) ?_
      refine WL.y rfl (Yld.pickF (okb b3) rfl) ?_
      exact WL.weaken (by repeat (first | exact Sub.nil | refine Sub.cons rfl ?_)) (hQ _ _ ⟨decide (b = Er.ok), rfl, by rw [b3] <;> rfl, rfl⟩)

set_option maxHeartbeats 8000000 in
theorem W_smithyref_None {w : World} {K : Int → Bool → Int → Bool → (List UInt8) → Prop} (H : M_smithyref_None  K) : Fn Tryd.prog 78 ⟨[]⟩ w (fun v w' => w.grownBy w' none ∧ ∃ (r_Code : Int), ∃ (r_Placed : Bool), ∃ (r_Pos : Int), ∃ (r_Filed : Bool), ∃ (r_File : List UInt8), v = .agg ⟨[.int .i64 r_Code, .bool r_Placed, .int .i64 r_Pos, .bool r_Filed, vs r_File]⟩ ∧ K r_Code r_Placed r_Pos r_Filed r_File) := by
  unfold M_smithyref_None at H
  refine Fn.enter (by kernel_rfl) Tryd.func78 rfl Tryd.ntmps78 rfl ?_
  refine WC.seq ?_
  refine WC.region ?_
  refine WL.alloc rfl zero135 (fun g1 w1 hB1 hg1 hl1 => ?_)
  have gr1 := hg1
  refine WL.nil (WX.then_normal ?_)
  refine WC.seq ?_
  refine WC.region ?_
  refine WL.y rfl (Yld.struct (us := [.int .i64 (0 : Int), .bool false, .int .i64 (0 : Int), .bool false, vs ([] : List UInt8)]) zero135 places135 rfl rfl) ?_
  refine WL.storeW (vs := [.int .i64 (0 : Int), .bool false, .int .i64 (0 : Int), .bool false, vs ([] : List UInt8)]) tab_ok rfl rfl rfl (all1c rfl (all1c rfl (all1c rfl (all1c rfl (all1c rfl all1n))))) hB1 rfl rfl (fun w2 hB2 hg2 => ?_)
  have gr2 := gr_mod gr1 hg2 (Ge.le (Ge.box hl1) (Nat.le_refl _))
  refine WL.nil (WX.then_normal ?_)
  refine WC.ret ?_
  exact WX.retc tab_ok rfl rfl rfl hB2 rfl ⟨gr2, (0 : Int), false, (0 : Int), false, ([] : List UInt8), rfl, H⟩

set_option maxHeartbeats 8000000 in
theorem W_smithyref_Bare {w : World} {code : Int} {K : Int → Bool → Int → Bool → (List UInt8) → Prop} (H : M_smithyref_Bare code K) : Fn Tryd.prog 58 ⟨[.int .i64 code]⟩ w (fun v w' => w.grownBy w' none ∧ ∃ (r_Code : Int), ∃ (r_Placed : Bool), ∃ (r_Pos : Int), ∃ (r_Filed : Bool), ∃ (r_File : List UInt8), v = .agg ⟨[.int .i64 r_Code, .bool r_Placed, .int .i64 r_Pos, .bool r_Filed, vs r_File]⟩ ∧ K r_Code r_Placed r_Pos r_Filed r_File) := by
  unfold M_smithyref_Bare at H
  refine Fn.enter (by kernel_rfl) Tryd.func58 rfl Tryd.ntmps58 rfl ?_
  refine WC.seq ?_
  refine WC.region ?_
  refine WL.alloc rfl zero135 (fun g1 w1 hB1 hg1 hl1 => ?_)
  have gr1 := hg1
  refine WL.nil (WX.then_normal ?_)
  refine WC.seq ?_
  refine WC.region ?_
  refine WL.y rfl (Yld.pure tab_ok rfl) ?_
  refine WL.y rfl (Yld.struct (us := [.int .i64 code, .bool false, .int .i64 (0 : Int), .bool false, vs ([] : List UInt8)]) zero135 places135 rfl rfl) ?_
  refine WL.storeW (vs := [.int .i64 code, .bool false, .int .i64 (0 : Int), .bool false, vs ([] : List UInt8)]) tab_ok rfl rfl rfl (all1c rfl (all1c rfl (all1c rfl (all1c rfl (all1c rfl all1n))))) hB1 rfl rfl (fun w2 hB2 hg2 => ?_)
  have gr2 := gr_mod gr1 hg2 (Ge.le (Ge.box hl1) (Nat.le_refl _))
  refine WL.nil (WX.then_normal ?_)
  refine WC.ret ?_
  exact WX.retc tab_ok rfl rfl rfl hB2 rfl ⟨gr2, code, false, (0 : Int), false, ([] : List UInt8), rfl, H⟩

set_option maxHeartbeats 8000000 in
theorem W_smithyref_Placed {w : World} {code : Int} {pos : Int} {K : Int → Bool → Int → Bool → (List UInt8) → Prop} (H : M_smithyref_Placed code pos K) : Fn Tryd.prog 88 ⟨[.int .i64 code, .int .i64 pos]⟩ w (fun v w' => w.grownBy w' none ∧ ∃ (r_Code : Int), ∃ (r_Placed : Bool), ∃ (r_Pos : Int), ∃ (r_Filed : Bool), ∃ (r_File : List UInt8), v = .agg ⟨[.int .i64 r_Code, .bool r_Placed, .int .i64 r_Pos, .bool r_Filed, vs r_File]⟩ ∧ K r_Code r_Placed r_Pos r_Filed r_File) := by
  unfold M_smithyref_Placed at H
  refine Fn.enter (by kernel_rfl) Tryd.func88 rfl Tryd.ntmps88 rfl ?_
  refine WC.seq ?_
  refine WC.region ?_
  refine WL.alloc rfl zero135 (fun g1 w1 hB1 hg1 hl1 => ?_)
  have gr1 := hg1
  refine WL.nil (WX.then_normal ?_)
  refine WC.seq ?_
  refine WC.seq ?_
  refine WC.region ?_
  refine WL.y rfl (Yld.pure tab_ok rfl) ?_
  refine WL.y rfl (Yld.pure tab_ok rfl) ?_
  refine WL.nil (WX.then_normal ?_)
  refine WC.cond rfl (fun b1 => ?_) (fun b1 => ?_)
  · replace H := H.1 (of_decide_eq_true b1)
    refine WC.seq ?_
    refine WC.region ?_
    refine WL.call rfl rfl (W_smithyref_None H) ?_
    rintro _ w2 ⟨hg2, t7_Code, t7_Placed, t7_Pos, t7_Filed, t7_File, rfl, H⟩
    have gr2 := gr_trans gr1 hg2
    have k1 := hB1.g0 hg2
    refine WL.storeW (vs := [.int .i64 t7_Code, .bool t7_Placed, .int .i64 t7_Pos, .bool t7_Filed, vs t7_File]) tab_ok rfl rfl rfl (all1c rfl (all1c rfl (all1c rfl (all1c rfl (all1c rfl all1n))))) k1 rfl rfl (fun w3 hB2 hg3 => ?_)
    have gr3 := gr_mod gr2 hg3 (Ge.le (Ge.box hl1) (Nat.le_refl _))
    refine WL.nil (WX.then_normal ?_)
    refine WC.ret (WX.then_ret ?_)
    exact WX.retc tab_ok rfl rfl rfl hB2 rfl ⟨gr3, t7_Code, t7_Placed, t7_Pos, t7_Filed, t7_File, rfl, H⟩
  · replace H := H.2 (of_decide_eq_false b1)
    refine WC.skip (WX.then_normal ?_)
    refine WC.seq ?_
    refine WC.region ?_
    refine WL.y rfl (Yld.pure tab_ok rfl) ?_
    refine WL.y rfl (Yld.pure tab_ok rfl) ?_
    refine WL.y rfl (Yld.struct (us := [.int .i64 code, .bool true, .int .i64 pos, .bool false, vs ([] : List UInt8)]) zero135 places135 rfl rfl) ?_
    refine WL.storeW (vs := [.int .i64 code, .bool true, .int .i64 pos, .bool false, vs ([] : List UInt8)]) tab_ok rfl rfl rfl (all1c rfl (all1c rfl (all1c rfl (all1c rfl (all1c rfl all1n))))) hB1 rfl rfl (fun w4 hB3 hg4 => ?_)
    have gr4 := gr_mod gr1 hg4 (Ge.le (Ge.box hl1) (Nat.le_refl _))
    refine WL.nil (WX.then_normal ?_)
    refine WC.ret ?_
    exact WX.retc tab_ok rfl rfl rfl hB3 rfl ⟨gr4, code, true, pos, false, ([] : List UInt8), rfl, H⟩

set_option maxHeartbeats 8000000 in
theorem W_smithyref_SameFault {w : World} {a_Code : Int} {a_Placed : Bool} {a_Pos : Int} {a_Filed : Bool} {a_File : List UInt8} {b_Code : Int} {b_Placed : Bool} {b_Pos : Int} {b_Filed : Bool} {b_File : List UInt8} {K : Bool → Prop} (H : M_smithyref_SameFault a_Code a_Placed a_Pos a_Filed a_File b_Code b_Placed b_Pos b_Filed b_File K) : Fn Tryd.prog 70 ⟨[.agg ⟨[.int .i64 a_Code, .bool a_Placed, .int .i64 a_Pos, .bool a_Filed, vs a_File]⟩, .agg ⟨[.int .i64 b_Code, .bool b_Placed, .int .i64 b_Pos, .bool b_Filed, vs b_File]⟩]⟩ w (fun v w' => w.grownBy w' none ∧ ∃ (r : Bool), v = .bool r ∧ K r) := by
  unfold M_smithyref_SameFault at H
  refine Fn.enter (by kernel_rfl) Tryd.func70 rfl Tryd.ntmps70 rfl ?_
  refine WC.seq ?_
  refine WC.region ?_
  refine WL.box (us := [.int .i64 a_Code, .bool a_Placed, .int .i64 a_Pos, .bool a_Filed, vs a_File]) rfl rfl rfl (fun g1 w1 hB1 hg1 hl1 => ?_)
  have gr1 := hg1
  refine WL.box (us := [.int .i64 b_Code, .bool b_Placed, .int .i64 b_Pos, .bool b_Filed, vs b_File]) rfl rfl rfl (fun g2 w2 hB2 hg2 hl2 => ?_)
  have gr2 := gr_trans gr1 hg2
  have k1 := hB1.g0 hg2
  refine WL.y rfl (Yld.pure tab_ok rfl) ?_
  refine WL.nil (WX.then_normal ?_)
  refine WC.seq ?_
  refine WC.region ?_
  refine WL.y rfl (Yld.pure tab_ok rfl) ?_
  refine WL.y rfl (Yld.bload tab_ok k1 rfl rfl rfl) ?_
  refine WL.y rfl (Yld.pure tab_ok rfl) ?_
  refine WL.y rfl (Yld.bload tab_ok hB2 rfl rfl rfl) ?_
  refine WL.y rfl (Yld.pure tab_ok rfl) ?_
  refine WL.y rfl (Yld.pure tab_ok rfl) ?_
  refine WL.midF 6 (fun L' w' => ∃ q1 : Bool, L' = [(16, .bool q1), (2, .pointer (some ⟨g1, 0, none⟩)), (3, .pointer (some ⟨g2, 0, none⟩))] ∧ ((decide (a_Code = b_Code)) && (a_Placed == b_Placed)) = q1 ∧ w2 = w') ?_ (fun hQ => ?_)
  · rintro _ _ ⟨q1, rfl, rfl, rfl⟩
    refine WL.y rfl (Yld.pure tab_ok rfl) ?_
    refine WL.midF 6 (fun L' w' => ∃ q2 : Bool, L' = [(23, .bool q2), (2, .pointer (some ⟨g1, 0, none⟩)), (3, .pointer (some ⟨g2, 0, none⟩))] ∧ (((decide (a_Code = b_Code)) && (a_Placed == b_Placed)) && (decide (a_Pos = b_Pos))) = q2 ∧ w2 = w') ?_ (fun hQ => ?_)
    · rintro _ _ ⟨q2, rfl, rfl, rfl⟩
      refine WL.y rfl (Yld.pure tab_ok rfl) ?_
      refine WL.midF 6 (fun L' w' => ∃ q3 : Bool, L' = [(30, .bool q3), (2, .pointer (some ⟨g1, 0, none⟩)), (3, .pointer (some ⟨g2, 0, none⟩))] ∧ ((((decide (a_Code = b_Code)) && (a_Placed == b_Placed)) && (decide (a_Pos = b_Pos))) && (a_Filed == b_Filed)) = q3 ∧ w2 = w') ?_ (fun hQ => ?_)
      · rintro _ _ ⟨q3, rfl, rfl, rfl⟩
        refine WL.y rfl (Yld.pure tab_ok rfl) ?_
        refine WL.midF 6 (fun L' w' => ∃ q4 : Bool, L' = [(37, .bool q4)] ∧ (((((decide (a_Code = b_Code)) && (a_Placed == b_Placed)) && (decide (a_Pos = b_Pos))) && (a_Filed == b_Filed)) && (decide (a_File = b_File))) = q4 ∧ w2 = w') ?_ (fun hQ => ?_)
        · rintro _ _ ⟨q4, rfl, rfl, rfl⟩
          refine WL.y rfl (Yld.pure tab_ok rfl) ?_
          refine WL.nil (WX.then_normal ?_)
          refine WC.ret ?_
          exact WX.ret1 rfl rfl ⟨gr2, ((((decide (a_Code = b_Code)) && (a_Placed == b_Placed)) && (decide (a_Pos = b_Pos))) && (a_Filed == b_Filed)) && (decide (a_File = b_File)), rfl, H⟩
        · clear H
          rcases Bool.eq_false_or_eq_true ((((decide (a_Code = b_Code)) && (a_Placed == b_Placed)) && (decide (a_Pos = b_Pos))) && (a_Filed == b_Filed)) with b1 | b1
          · refine WL.gyes rfl rfl (okb b1) rfl (Yld.pure tab_ok rfl) ?_
            refine WL.gyes rfl rfl (okb b1) rfl (Yld.bload tab_ok k1 rfl rfl rfl) ?_
            refine WL.gyes rfl rfl (okb b1) rfl (Yld.pure tab_ok rfl) ?_
            refine WL.gyes rfl rfl (okb b1) rfl (Yld.bload tab_ok hB2 rfl rfl rfl) ?_
            refine WL.gyes rfl rfl (okb b1) rfl (Yld.pure tab_ok rfl) ?_
            refine WL.y rfl (Yld.pickT (okb b1) rfl) ?_
            exact WL.weaken (by repeat (first | exact Sub.nil | refine Sub.cons rfl ?_)) (hQ _ _ ⟨decide (a_File = b_File), rfl, by rw [b1] <;> rfl, rfl⟩)
          · refine WL.gno rfl rfl (okb b1) rfl ?_
            refine WL.gno rfl rfl (okb b1) rfl ?_
            refine WL.gno rfl rfl (okb b1) rfl ?_
            refine WL.gno rfl rfl (okb b1) rfl ?_
            refine WL.gno rfl rfl (okb b1) rfl ?_
            refine WL.y rfl (Yld.pickF (okb b1) rfl) ?_
            exact WL.weaken (by repeat (first | exact Sub.nil | refine Sub.cons rfl ?_)) (hQ _ _ ⟨false, rfl, by rw [b1] <;> rfl, rfl⟩)
      · clear H
        rcases Bool.eq_false_or_eq_true (((decide (a_Code = b_Code)) && (a_Placed == b_Placed)) && (decide (a_Pos = b_Pos))) with b2 | b2
        · refine WL.gyes rfl rfl (okb b2) rfl (Yld.pure tab_ok rfl) ?_
          refine WL.gyes rfl rfl (okb b2) rfl (Yld.bload tab_ok k1 rfl rfl rfl) ?_
          refine WL.gyes rfl rfl (okb b2) rfl (Yld.pure tab_ok rfl) ?_
          refine WL.gyes rfl rfl (okb b2) rfl (Yld.bload tab_ok hB2 rfl rfl rfl) ?_
          refine WL.gyes rfl rfl (okb b2) rfl (Yld.beql Tryd.underlying4 rfl rfl) ?_
          refine WL.y rfl (Yld.pickT (okb b2) rfl) ?_
          exact WL.weaken (by repeat (first | exact Sub.nil | refine Sub.cons rfl ?_)) (hQ _ _ ⟨a_Filed == b_Filed, rfl, by rw [b2] <;> rfl, rfl⟩)
        · refine WL.gno rfl rfl (okb b2) rfl ?_
          refine WL.gno rfl rfl (okb b2) rfl ?_
          refine WL.gno rfl rfl (okb b2) rfl ?_
          refine WL.gno rfl rfl (okb b2) rfl ?_
          refine WL.gno rfl rfl (okb b2) rfl ?_
          refine WL.y rfl (Yld.pickF (okb b2) rfl) ?_
          exact WL.weaken (by repeat (first | exact Sub.nil | refine Sub.cons rfl ?_)) (hQ _ _ ⟨false, rfl, by rw [b2] <;> rfl, rfl⟩)
    · clear H
      rcases Bool.eq_false_or_eq_true ((decide (a_Code = b_Code)) && (a_Placed == b_Placed)) with b3 | b3
      · refine WL.gyes rfl rfl (okb b3) rfl (Yld.pure tab_ok rfl) ?_
        refine WL.gyes rfl rfl (okb b3) rfl (Yld.bload tab_ok k1 rfl rfl rfl) ?_
        refine WL.gyes rfl rfl (okb b3) rfl (Yld.pure tab_ok rfl) ?_
        refine WL.gyes rfl rfl (okb b3) rfl (Yld.bload tab_ok hB2 rfl rfl rfl) ?_
        refine WL.gyes rfl rfl (okb b3) rfl (Yld.pure tab_ok rfl) ?_
        refine WL.y rfl (Yld.pickT (okb b3) rfl) ?_
        exact WL.weaken (by repeat (first | exact Sub.nil | refine Sub.cons rfl ?_)) (hQ _ _ ⟨decide (a_Pos = b_Pos), rfl, by rw [b3] <;> rfl, rfl⟩)
      · refine WL.gno rfl rfl (okb b3) rfl ?_
        refine WL.gno rfl rfl (okb b3) rfl ?_
        refine WL.gno rfl rfl (okb b3) rfl ?_
        refine WL.gno rfl rfl (okb b3) rfl ?_
        refine WL.gno rfl rfl (okb b3) rfl ?_
        refine WL.y rfl (Yld.pickF (okb b3) rfl) ?_
        exact WL.weaken (by repeat (first | exact Sub.nil | refine Sub.cons rfl ?_)) (hQ _ _ ⟨false, rfl, by rw [b3] <;> rfl, rfl⟩)
  · clear H
    rcases Bool.eq_false_or_eq_true (decide (a_Code = b_Code)) with b4 | b4
    · refine WL.gyes rfl rfl (okb b4) rfl (Yld.pure tab_ok rfl) ?_
      refine WL.gyes rfl rfl (okb b4) rfl (Yld.bload tab_ok k1 rfl rfl rfl) ?_
      refine WL.gyes rfl rfl (okb b4) rfl (Yld.pure tab_ok rfl) ?_
      refine WL.gyes rfl rfl (okb b4) rfl (Yld.bload tab_ok hB2 rfl rfl rfl) ?_
      refine WL.gyes rfl rfl (okb b4) rfl (Yld.beql Tryd.underlying4 rfl rfl) ?_
      refine WL.y rfl (Yld.pickT (okb b4) rfl) ?_
      exact WL.weaken (by repeat (first | exact Sub.nil | refine Sub.cons rfl ?_)) (hQ _ _ ⟨a_Placed == b_Placed, rfl, by rw [b4] <;> rfl, rfl⟩)
    · refine WL.gno rfl rfl (okb b4) rfl ?_
      refine WL.gno rfl rfl (okb b4) rfl ?_
      refine WL.gno rfl rfl (okb b4) rfl ?_
      refine WL.gno rfl rfl (okb b4) rfl ?_
      refine WL.gno rfl rfl (okb b4) rfl ?_
      refine WL.y rfl (Yld.pickF (okb b4) rfl) ?_
      exact WL.weaken (by repeat (first | exact Sub.nil | refine Sub.cons rfl ?_)) (hQ _ _ ⟨false, rfl, by rw [b4] <;> rfl, rfl⟩)

end Go.Proofs.YtjoepdjeekadcaaDoor

 /- smithysee.sentinel: the number of one of api's variables. -/
namespace Go.Proofs.YtjoepdjeekadcaaDoor
open Go Go.RowKit
attribute [local irreducible] WL WC WX WQ WK WJ Yld Eff Ef0 Fn
theorem Rd.ofBlV {w : World} {g m : Nat} {e : TypeId} {us : List Value} (h : Bl w g e us) (hm : us.length = m) (hx : m ≤ maxLen) : Rd (fun v => v) w (some ⟨g, 0, none⟩) m us := ⟨by omega, hx, fun _ => ⟨_, rfl, fun j x hj => by
  have := h.cell j
  rw [hj] at this
  cases j with
  | zero => simpa [Addr.add] using this
  | succ j => simpa [Addr.add] using this⟩⟩
def errsV (S : List Nat) (w : World) (us : List Value) : Prop := us.length = 17 ∧ ∀ n, n < 17 → ErrR S w (us.getD n .nilIface) (.e n)
theorem sentinels_fn {S : List Nat} {w : World} (hG : GOK S w) (hS : ∀ n, n < 17 → n ∈ S) : Fn Tryd.prog 91 ⟨[]⟩ w fun v w' => w.grownBy w' none ∧ ∃ g us, v = .slice (some ⟨g, 0, none⟩) 17 17 ∧ Bl w' g 34 us ∧ errsV S w' us := by
  refine Fn.enter (by kernel_rfl) Tryd.func91 rfl Tryd.ntmps91 rfl ?_
  obtain ⟨v0, hc0, hE0⟩ := hG.get 0 2 (hS 0 (by omega)) rfl rfl
  obtain ⟨v1, hc1, hE1⟩ := hG.get 1 3 (hS 1 (by omega)) rfl rfl
  obtain ⟨v2, hc2, hE2⟩ := hG.get 2 4 (hS 2 (by omega)) rfl rfl
  obtain ⟨v3, hc3, hE3⟩ := hG.get 3 1 (hS 3 (by omega)) rfl rfl
  obtain ⟨v4, hc4, hE4⟩ := hG.get 4 5 (hS 4 (by omega)) rfl rfl
  obtain ⟨v5, hc5, hE5⟩ := hG.get 5 6 (hS 5 (by omega)) rfl rfl
  obtain ⟨v6, hc6, hE6⟩ := hG.get 6 7 (hS 6 (by omega)) rfl rfl
  obtain ⟨v7, hc7, hE7⟩ := hG.get 7 0 (hS 7 (by omega)) rfl rfl
  obtain ⟨v8, hc8, hE8⟩ := hG.get 8 8 (hS 8 (by omega)) rfl rfl
  obtain ⟨v9, hc9, hE9⟩ := hG.get 9 9 (hS 9 (by omega)) rfl rfl
  obtain ⟨v10, hc10, hE10⟩ := hG.get 10 10 (hS 10 (by omega)) rfl rfl
  obtain ⟨v11, hc11, hE11⟩ := hG.get 11 11 (hS 11 (by omega)) rfl rfl
  obtain ⟨v12, hc12, hE12⟩ := hG.get 12 12 (hS 12 (by omega)) rfl rfl
  obtain ⟨v13, hc13, hE13⟩ := hG.get 13 13 (hS 13 (by omega)) rfl rfl
  obtain ⟨v14, hc14, hE14⟩ := hG.get 14 14 (hS 14 (by omega)) rfl rfl
  obtain ⟨v15, hc15, hE15⟩ := hG.get 15 15 (hS 15 (by omega)) rfl rfl
  obtain ⟨v16, hc16, hE16⟩ := hG.get 16 16 (hS 16 (by omega)) rfl rfl
  repeat (first | refine WL.y rfl (Yld.cell tab_ok hc0 rfl rfl) ?_ | refine WL.y rfl (Yld.cell tab_ok hc1 rfl rfl) ?_ | refine WL.y rfl (Yld.cell tab_ok hc2 rfl rfl) ?_ | refine WL.y rfl (Yld.cell tab_ok hc3 rfl rfl) ?_ | refine WL.y rfl (Yld.cell tab_ok hc4 rfl rfl) ?_ | refine WL.y rfl (Yld.cell tab_ok hc5 rfl rfl) ?_ | refine WL.y rfl (Yld.cell tab_ok hc6 rfl rfl) ?_ | refine WL.y rfl (Yld.cell tab_ok hc7 rfl rfl) ?_ | refine WL.y rfl (Yld.cell tab_ok hc8 rfl rfl) ?_ | refine WL.y rfl (Yld.cell tab_ok hc9 rfl rfl) ?_ | refine WL.y rfl (Yld.cell tab_ok hc10 rfl rfl) ?_ | refine WL.y rfl (Yld.cell tab_ok hc11 rfl rfl) ?_ | refine WL.y rfl (Yld.cell tab_ok hc12 rfl rfl) ?_ | refine WL.y rfl (Yld.cell tab_ok hc13 rfl rfl) ?_ | refine WL.y rfl (Yld.cell tab_ok hc14 rfl rfl) ?_ | refine WL.y rfl (Yld.cell tab_ok hc15 rfl rfl) ?_ | refine WL.y rfl (Yld.cell tab_ok hc16 rfl rfl) ?_ | refine WC.seq ?_ | refine WC.block ?_ | refine WC.region ?_ | refine WL.nil ?_ | refine WX.then_normal ?_ | refine WC.skip ?_ | refine WC.exit ?_ | refine WC.ret ?_ | refine WX.then_exit ?_ | refine WX.then_ret ?_ | refine WX.block_normal ?_ | refine WX.block_ret ?_ | refine WX.block_same ?_ | refine WX.block_other rfl ?_ | refine WC.label ?_ | refine WC.scope ?_ | refine WX.scope_normal ?_ | refine WX.scope_ret ?_ | refine WX.scope_exit ?_ | refine WL.y rfl (Yld.add rfl rfl (by simp only [In]; omega)) ?_ | refine WL.y rfl (Yld.sub rfl rfl (by simp only [In]; omega)) ?_ | refine WL.y rfl (Yld.mul rfl rfl (by simp only [In]; omega)) ?_ | refine WL.y rfl (Yld.convB tab_ok rfl rfl rfl rfl) ?_ | refine WL.y rfl (Yld.conv tab_ok rfl rfl rfl (by simp only [In]; omega)) ?_ | refine WL.y rfl (Yld.quo rfl rfl (by omega) (by omega) (by simp only [In]; omega)) ?_ | refine WL.y rfl (Yld.rem rfl rfl (by omega) (by omega)) ?_ | refine WL.y rfl (Yld.shl rfl rfl (by omega)) ?_ | refine WL.y rfl (Yld.shr rfl rfl (by omega)) ?_ | refine WL.y rfl (Yld.pure tab_ok rfl) ?_ | refine WL.y rfl (Yld.fld flds_ok rfl rfl rfl) ?_ | refine WL.y rfl (Yld.max2 rfl rfl) ?_ | refine WL.y rfl (Yld.min2 rfl rfl) ?_ | refine WL.y rfl (Yld.pickV rfl rfl rfl) ?_ | refine WL.gno rfl rfl rfl rfl ?_ | refine WL.gyes rfl rfl rfl rfl (Yld.add rfl rfl (by simp only [In]; omega)) ?_ | refine WL.gyes rfl rfl rfl rfl (Yld.sub rfl rfl (by simp only [In]; omega)) ?_ | refine WL.gyes rfl rfl rfl rfl (Yld.mul rfl rfl (by simp only [In]; omega)) ?_ | refine WL.gyes rfl rfl rfl rfl (Yld.convB tab_ok rfl rfl rfl rfl) ?_ | refine WL.gyes rfl rfl rfl rfl (Yld.conv tab_ok rfl rfl rfl (by simp only [In]; omega)) ?_ | refine WL.gyes rfl rfl rfl rfl (Yld.quo rfl rfl (by omega) (by omega) (by simp only [In]; omega)) ?_ | refine WL.gyes rfl rfl rfl rfl (Yld.rem rfl rfl (by omega) (by omega)) ?_ | refine WL.gyes rfl rfl rfl rfl (Yld.shl rfl rfl (by omega)) ?_ | refine WL.gyes rfl rfl rfl rfl (Yld.shr rfl rfl (by omega)) ?_ | refine WL.gyes rfl rfl rfl rfl (Yld.pure tab_ok rfl) ?_ | refine WL.gyes rfl rfl rfl rfl (Yld.fld flds_ok rfl rfl rfl) ?_ | refine WL.gyes rfl rfl rfl rfl (Yld.max2 rfl rfl) ?_ | refine WL.gyes rfl rfl rfl rfl (Yld.min2 rfl rfl) ?_ | refine WL.gyes rfl rfl rfl rfl (Yld.pickV rfl rfl rfl) ?_ | refine WL.gun rfl rfl rfl rfl ?_)
  refine WL.lit tab_ok rfl rfl rfl (all1c (ErrR.one hE0) (all1c (ErrR.one hE1) (all1c (ErrR.one hE2) (all1c (ErrR.one hE3) (all1c (ErrR.one hE4) (all1c (ErrR.one hE5) (all1c (ErrR.one hE6) (all1c (ErrR.one hE7) (all1c (ErrR.one hE8) (all1c (ErrR.one hE9) (all1c (ErrR.one hE10) (all1c (ErrR.one hE11) (all1c (ErrR.one hE12) (all1c (ErrR.one hE13) (all1c (ErrR.one hE14) (all1c (ErrR.one hE15) (all1c (ErrR.one hE16) all1n))))))))))))))))) rfl (by omega) (fun g w' hB hg hl => ?_)
  repeat (first | refine WC.seq ?_ | refine WC.block ?_ | refine WC.region ?_ | refine WL.nil ?_ | refine WX.then_normal ?_ | refine WC.skip ?_ | refine WC.exit ?_ | refine WC.ret ?_ | refine WX.then_exit ?_ | refine WX.then_ret ?_ | refine WX.block_normal ?_ | refine WX.block_ret ?_ | refine WX.block_same ?_ | refine WX.block_other rfl ?_ | refine WC.label ?_ | refine WC.scope ?_ | refine WX.scope_normal ?_ | refine WX.scope_ret ?_ | refine WX.scope_exit ?_ | refine WL.y rfl (Yld.add rfl rfl (by simp only [In]; omega)) ?_ | refine WL.y rfl (Yld.sub rfl rfl (by simp only [In]; omega)) ?_ | refine WL.y rfl (Yld.mul rfl rfl (by simp only [In]; omega)) ?_ | refine WL.y rfl (Yld.convB tab_ok rfl rfl rfl rfl) ?_ | refine WL.y rfl (Yld.conv tab_ok rfl rfl rfl (by simp only [In]; omega)) ?_ | refine WL.y rfl (Yld.quo rfl rfl (by omega) (by omega) (by simp only [In]; omega)) ?_ | refine WL.y rfl (Yld.rem rfl rfl (by omega) (by omega)) ?_ | refine WL.y rfl (Yld.shl rfl rfl (by omega)) ?_ | refine WL.y rfl (Yld.shr rfl rfl (by omega)) ?_ | refine WL.y rfl (Yld.pure tab_ok rfl) ?_ | refine WL.y rfl (Yld.fld flds_ok rfl rfl rfl) ?_ | refine WL.y rfl (Yld.max2 rfl rfl) ?_ | refine WL.y rfl (Yld.min2 rfl rfl) ?_ | refine WL.y rfl (Yld.pickV rfl rfl rfl) ?_ | refine WL.gno rfl rfl rfl rfl ?_ | refine WL.gyes rfl rfl rfl rfl (Yld.add rfl rfl (by simp only [In]; omega)) ?_ | refine WL.gyes rfl rfl rfl rfl (Yld.sub rfl rfl (by simp only [In]; omega)) ?_ | refine WL.gyes rfl rfl rfl rfl (Yld.mul rfl rfl (by simp only [In]; omega)) ?_ | refine WL.gyes rfl rfl rfl rfl (Yld.convB tab_ok rfl rfl rfl rfl) ?_ | refine WL.gyes rfl rfl rfl rfl (Yld.conv tab_ok rfl rfl rfl (by simp only [In]; omega)) ?_ | refine WL.gyes rfl rfl rfl rfl (Yld.quo rfl rfl (by omega) (by omega) (by simp only [In]; omega)) ?_ | refine WL.gyes rfl rfl rfl rfl (Yld.rem rfl rfl (by omega) (by omega)) ?_ | refine WL.gyes rfl rfl rfl rfl (Yld.shl rfl rfl (by omega)) ?_ | refine WL.gyes rfl rfl rfl rfl (Yld.shr rfl rfl (by omega)) ?_ | refine WL.gyes rfl rfl rfl rfl (Yld.pure tab_ok rfl) ?_ | refine WL.gyes rfl rfl rfl rfl (Yld.fld flds_ok rfl rfl rfl) ?_ | refine WL.gyes rfl rfl rfl rfl (Yld.max2 rfl rfl) ?_ | refine WL.gyes rfl rfl rfl rfl (Yld.min2 rfl rfl) ?_ | refine WL.gyes rfl rfl rfl rfl (Yld.pickV rfl rfl rfl) ?_ | refine WL.gun rfl rfl rfl rfl ?_)
  refine WX.ret1 rfl rfl ⟨hg, g, _, rfl, hB, rfl, fun n hn => ?_⟩
  match n, hn with
  | 0, _ => exact hE0.grown hg
  | 1, _ => exact hE1.grown hg
  | 2, _ => exact hE2.grown hg
  | 3, _ => exact hE3.grown hg
  | 4, _ => exact hE4.grown hg
  | 5, _ => exact hE5.grown hg
  | 6, _ => exact hE6.grown hg
  | 7, _ => exact hE7.grown hg
  | 8, _ => exact hE8.grown hg
  | 9, _ => exact hE9.grown hg
  | 10, _ => exact hE10.grown hg
  | 11, _ => exact hE11.grown hg
  | 12, _ => exact hE12.grown hg
  | 13, _ => exact hE13.grown hg
  | 14, _ => exact hE14.grown hg
  | 15, _ => exact hE15.grown hg
  | 16, _ => exact hE16.grown hg
  | n + 17, hn => omega
def sentV : Er → Int
  | .ok => -1
  | .e n => 101 + n
  | .at_ _ _ => -1
def M_smithysee_sentinel (e : Er) (K : Int → Prop) : Prop := K (sentV e)
theorem W_smithysee_sentinel {S : List Nat} {w : World} {v : Value} {e : Er} {K : Int → Prop} (hG : GOK S w) (hS0 : 0 ∈ S) (hS1 : 1 ∈ S) (hS2 : 2 ∈ S) (hS3 : 3 ∈ S) (hS4 : 4 ∈ S) (hS5 : 5 ∈ S) (hS6 : 6 ∈ S) (hS7 : 7 ∈ S) (hS8 : 8 ∈ S) (hS9 : 9 ∈ S) (hS10 : 10 ∈ S) (hS11 : 11 ∈ S) (hS12 : 12 ∈ S) (hS13 : 13 ∈ S) (hS14 : 14 ∈ S) (hS15 : 15 ∈ S) (hS16 : 16 ∈ S) (hE : ErrR S w v e) (H : M_smithysee_sentinel e K) : Fn Tryd.prog 87 ⟨[v]⟩ w (fun r w' => w.grownBy w' none ∧ ∃ n : Int, r = .int .i64 n ∧ K n) := by
  have hS : ∀ n, n < 17 → n ∈ S := fun n hn => by
    match n, hn with
    | 0, _ => exact hS0
    | 1, _ => exact hS1
    | 2, _ => exact hS2
    | 3, _ => exact hS3
    | 4, _ => exact hS4
    | 5, _ => exact hS5
    | 6, _ => exact hS6
    | 7, _ => exact hS7
    | 8, _ => exact hS8
    | 9, _ => exact hS9
    | 10, _ => exact hS10
    | 11, _ => exact hS11
    | 12, _ => exact hS12
    | 13, _ => exact hS13
    | 14, _ => exact hS14
    | 15, _ => exact hS15
    | 16, _ => exact hS16
    | n + 17, hn => omega
  unfold M_smithysee_sentinel at H
  refine Fn.enter (by kernel_rfl) Tryd.func87 rfl Tryd.ntmps87 rfl ?_
  repeat (first | refine WC.seq ?_ | refine WC.block ?_ | refine WC.region ?_ | refine WL.nil ?_ | refine WX.then_normal ?_ | refine WC.skip ?_ | refine WC.exit ?_ | refine WC.ret ?_ | refine WX.then_exit ?_ | refine WX.then_ret ?_ | refine WX.block_normal ?_ | refine WX.block_ret ?_ | refine WX.block_same ?_ | refine WX.block_other rfl ?_ | refine WC.label ?_ | refine WC.scope ?_ | refine WX.scope_normal ?_ | refine WX.scope_ret ?_ | refine WX.scope_exit ?_ | refine WL.y rfl (Yld.add rfl rfl (by simp only [In]; omega)) ?_ | refine WL.y rfl (Yld.sub rfl rfl (by simp only [In]; omega)) ?_ | refine WL.y rfl (Yld.mul rfl rfl (by simp only [In]; omega)) ?_ | refine WL.y rfl (Yld.convB tab_ok rfl rfl rfl rfl) ?_ | refine WL.y rfl (Yld.conv tab_ok rfl rfl rfl (by simp only [In]; omega)) ?_ | refine WL.y rfl (Yld.quo rfl rfl (by omega) (by omega) (by simp only [In]; omega)) ?_ | refine WL.y rfl (Yld.rem rfl rfl (by omega) (by omega)) ?_ | refine WL.y rfl (Yld.shl rfl rfl (by omega)) ?_ | refine WL.y rfl (Yld.shr rfl rfl (by omega)) ?_ | refine WL.y rfl (Yld.pure tab_ok rfl) ?_ | refine WL.y rfl (Yld.fld flds_ok rfl rfl rfl) ?_ | refine WL.y rfl (Yld.max2 rfl rfl) ?_ | refine WL.y rfl (Yld.min2 rfl rfl) ?_ | refine WL.y rfl (Yld.pickV rfl rfl rfl) ?_ | refine WL.gno rfl rfl rfl rfl ?_ | refine WL.gyes rfl rfl rfl rfl (Yld.add rfl rfl (by simp only [In]; omega)) ?_ | refine WL.gyes rfl rfl rfl rfl (Yld.sub rfl rfl (by simp only [In]; omega)) ?_ | refine WL.gyes rfl rfl rfl rfl (Yld.mul rfl rfl (by simp only [In]; omega)) ?_ | refine WL.gyes rfl rfl rfl rfl (Yld.convB tab_ok rfl rfl rfl rfl) ?_ | refine WL.gyes rfl rfl rfl rfl (Yld.conv tab_ok rfl rfl rfl (by simp only [In]; omega)) ?_ | refine WL.gyes rfl rfl rfl rfl (Yld.quo rfl rfl (by omega) (by omega) (by simp only [In]; omega)) ?_ | refine WL.gyes rfl rfl rfl rfl (Yld.rem rfl rfl (by omega) (by omega)) ?_ | refine WL.gyes rfl rfl rfl rfl (Yld.shl rfl rfl (by omega)) ?_ | refine WL.gyes rfl rfl rfl rfl (Yld.shr rfl rfl (by omega)) ?_ | refine WL.gyes rfl rfl rfl rfl (Yld.pure tab_ok rfl) ?_ | refine WL.gyes rfl rfl rfl rfl (Yld.fld flds_ok rfl rfl rfl) ?_ | refine WL.gyes rfl rfl rfl rfl (Yld.max2 rfl rfl) ?_ | refine WL.gyes rfl rfl rfl rfl (Yld.min2 rfl rfl) ?_ | refine WL.gyes rfl rfl rfl rfl (Yld.pickV rfl rfl rfl) ?_ | refine WL.gun rfl rfl rfl rfl ?_)
  refine WL.call rfl rfl (sentinels_fn hG hS) ?_
  rintro _ w1 ⟨hg1, g, us, rfl, hB, hlen, hus⟩
  have hR := Rd.ofBlV hB hlen (by simp [maxLen])
  have hE1 := hE.grown hg1
  repeat (first | refine WC.seq ?_ | refine WC.block ?_ | refine WC.region ?_ | refine WL.nil ?_ | refine WX.then_normal ?_ | refine WC.skip ?_ | refine WC.exit ?_ | refine WC.ret ?_ | refine WX.then_exit ?_ | refine WX.then_ret ?_ | refine WX.block_normal ?_ | refine WX.block_ret ?_ | refine WX.block_same ?_ | refine WX.block_other rfl ?_ | refine WC.label ?_ | refine WC.scope ?_ | refine WX.scope_normal ?_ | refine WX.scope_ret ?_ | refine WX.scope_exit ?_ | refine WL.y rfl (Yld.add rfl rfl (by simp only [In]; omega)) ?_ | refine WL.y rfl (Yld.sub rfl rfl (by simp only [In]; omega)) ?_ | refine WL.y rfl (Yld.mul rfl rfl (by simp only [In]; omega)) ?_ | refine WL.y rfl (Yld.convB tab_ok rfl rfl rfl rfl) ?_ | refine WL.y rfl (Yld.conv tab_ok rfl rfl rfl (by simp only [In]; omega)) ?_ | refine WL.y rfl (Yld.quo rfl rfl (by omega) (by omega) (by simp only [In]; omega)) ?_ | refine WL.y rfl (Yld.rem rfl rfl (by omega) (by omega)) ?_ | refine WL.y rfl (Yld.shl rfl rfl (by omega)) ?_ | refine WL.y rfl (Yld.shr rfl rfl (by omega)) ?_ | refine WL.y rfl (Yld.pure tab_ok rfl) ?_ | refine WL.y rfl (Yld.fld flds_ok rfl rfl rfl) ?_ | refine WL.y rfl (Yld.max2 rfl rfl) ?_ | refine WL.y rfl (Yld.min2 rfl rfl) ?_ | refine WL.y rfl (Yld.pickV rfl rfl rfl) ?_ | refine WL.gno rfl rfl rfl rfl ?_ | refine WL.gyes rfl rfl rfl rfl (Yld.add rfl rfl (by simp only [In]; omega)) ?_ | refine WL.gyes rfl rfl rfl rfl (Yld.sub rfl rfl (by simp only [In]; omega)) ?_ | refine WL.gyes rfl rfl rfl rfl (Yld.mul rfl rfl (by simp only [In]; omega)) ?_ | refine WL.gyes rfl rfl rfl rfl (Yld.convB tab_ok rfl rfl rfl rfl) ?_ | refine WL.gyes rfl rfl rfl rfl (Yld.conv tab_ok rfl rfl rfl (by simp only [In]; omega)) ?_ | refine WL.gyes rfl rfl rfl rfl (Yld.quo rfl rfl (by omega) (by omega) (by simp only [In]; omega)) ?_ | refine WL.gyes rfl rfl rfl rfl (Yld.rem rfl rfl (by omega) (by omega)) ?_ | refine WL.gyes rfl rfl rfl rfl (Yld.shl rfl rfl (by omega)) ?_ | refine WL.gyes rfl rfl rfl rfl (Yld.shr rfl rfl (by omega)) ?_ | refine WL.gyes rfl rfl rfl rfl (Yld.pure tab_ok rfl) ?_ | refine WL.gyes rfl rfl rfl rfl (Yld.fld flds_ok rfl rfl rfl) ?_ | refine WL.gyes rfl rfl rfl rfl (Yld.max2 rfl rfl) ?_ | refine WL.gyes rfl rfl rfl rfl (Yld.min2 rfl rfl) ?_ | refine WL.gyes rfl rfl rfl rfl (Yld.pickV rfl rfl rfl) ?_ | refine WL.gun rfl rfl rfl rfl ?_)
  refine WC.loopF (fun n' L' w' => ∃ i : Nat, n' = 17 - i ∧ L' = [(4, vi i), (3, .slice (some ⟨g, 0, none⟩) 17 17), (0, v)] ∧ i ≤ 17 ∧ (∀ j, j < i → e ≠ .e j) ∧ w1 = w') _ _ ⟨0, rfl, rfl, by omega, fun j hj => by omega, rfl⟩ (by repeat (first | exact Sub.nil | refine Sub.cons rfl ?_)) ?_
  rintro _ _ _ ⟨i, rfl, rfl, hi, hne, rfl⟩
  repeat (first | refine WC.seq ?_ | refine WC.block ?_ | refine WC.region ?_ | refine WL.nil ?_ | refine WX.then_normal ?_ | refine WC.skip ?_ | refine WC.exit ?_ | refine WC.ret ?_ | refine WX.then_exit ?_ | refine WX.then_ret ?_ | refine WX.block_normal ?_ | refine WX.block_ret ?_ | refine WX.block_same ?_ | refine WX.block_other rfl ?_ | refine WC.label ?_ | refine WC.scope ?_ | refine WX.scope_normal ?_ | refine WX.scope_ret ?_ | refine WX.scope_exit ?_ | refine WL.y rfl (Yld.add rfl rfl (by simp only [In]; omega)) ?_ | refine WL.y rfl (Yld.sub rfl rfl (by simp only [In]; omega)) ?_ | refine WL.y rfl (Yld.mul rfl rfl (by simp only [In]; omega)) ?_ | refine WL.y rfl (Yld.convB tab_ok rfl rfl rfl rfl) ?_ | refine WL.y rfl (Yld.conv tab_ok rfl rfl rfl (by simp only [In]; omega)) ?_ | refine WL.y rfl (Yld.quo rfl rfl (by omega) (by omega) (by simp only [In]; omega)) ?_ | refine WL.y rfl (Yld.rem rfl rfl (by omega) (by omega)) ?_ | refine WL.y rfl (Yld.shl rfl rfl (by omega)) ?_ | refine WL.y rfl (Yld.shr rfl rfl (by omega)) ?_ | refine WL.y rfl (Yld.pure tab_ok rfl) ?_ | refine WL.y rfl (Yld.fld flds_ok rfl rfl rfl) ?_ | refine WL.y rfl (Yld.max2 rfl rfl) ?_ | refine WL.y rfl (Yld.min2 rfl rfl) ?_ | refine WL.y rfl (Yld.pickV rfl rfl rfl) ?_ | refine WL.gno rfl rfl rfl rfl ?_ | refine WL.gyes rfl rfl rfl rfl (Yld.add rfl rfl (by simp only [In]; omega)) ?_ | refine WL.gyes rfl rfl rfl rfl (Yld.sub rfl rfl (by simp only [In]; omega)) ?_ | refine WL.gyes rfl rfl rfl rfl (Yld.mul rfl rfl (by simp only [In]; omega)) ?_ | refine WL.gyes rfl rfl rfl rfl (Yld.convB tab_ok rfl rfl rfl rfl) ?_ | refine WL.gyes rfl rfl rfl rfl (Yld.conv tab_ok rfl rfl rfl (by simp only [In]; omega)) ?_ | refine WL.gyes rfl rfl rfl rfl (Yld.quo rfl rfl (by omega) (by omega) (by simp only [In]; omega)) ?_ | refine WL.gyes rfl rfl rfl rfl (Yld.rem rfl rfl (by omega) (by omega)) ?_ | refine WL.gyes rfl rfl rfl rfl (Yld.shl rfl rfl (by omega)) ?_ | refine WL.gyes rfl rfl rfl rfl (Yld.shr rfl rfl (by omega)) ?_ | refine WL.gyes rfl rfl rfl rfl (Yld.pure tab_ok rfl) ?_ | refine WL.gyes rfl rfl rfl rfl (Yld.fld flds_ok rfl rfl rfl) ?_ | refine WL.gyes rfl rfl rfl rfl (Yld.max2 rfl rfl) ?_ | refine WL.gyes rfl rfl rfl rfl (Yld.min2 rfl rfl) ?_ | refine WL.gyes rfl rfl rfl rfl (Yld.pickV rfl rfl rfl) ?_ | refine WL.gun rfl rfl rfl rfl ?_)
  refine WC.cond rfl (fun h => ?_) (fun h => ?_)
  · simp only [decide_eq_true_eq] at h
    have hi' : i < 17 := by omega
    repeat (first | refine WL.y rfl (Yld.iaddrN tab_ok hR rfl rfl hlen.symm rfl (by omega)) ?_ | refine WL.y rfl (Yld.iload .nilIface tab_ok hR rfl rfl (by omega)) ?_ | refine WC.seq ?_ | refine WC.block ?_ | refine WC.region ?_ | refine WL.nil ?_ | refine WX.then_normal ?_ | refine WC.skip ?_ | refine WC.exit ?_ | refine WC.ret ?_ | refine WX.then_exit ?_ | refine WX.then_ret ?_ | refine WX.block_normal ?_ | refine WX.block_ret ?_ | refine WX.block_same ?_ | refine WX.block_other rfl ?_ | refine WC.label ?_ | refine WC.scope ?_ | refine WX.scope_normal ?_ | refine WX.scope_ret ?_ | refine WX.scope_exit ?_ | refine WL.y rfl (Yld.add rfl rfl (by simp only [In]; omega)) ?_ | refine WL.y rfl (Yld.sub rfl rfl (by simp only [In]; omega)) ?_ | refine WL.y rfl (Yld.mul rfl rfl (by simp only [In]; omega)) ?_ | refine WL.y rfl (Yld.convB tab_ok rfl rfl rfl rfl) ?_ | refine WL.y rfl (Yld.conv tab_ok rfl rfl rfl (by simp only [In]; omega)) ?_ | refine WL.y rfl (Yld.quo rfl rfl (by omega) (by omega) (by simp only [In]; omega)) ?_ | refine WL.y rfl (Yld.rem rfl rfl (by omega) (by omega)) ?_ | refine WL.y rfl (Yld.shl rfl rfl (by omega)) ?_ | refine WL.y rfl (Yld.shr rfl rfl (by omega)) ?_ | refine WL.y rfl (Yld.pure tab_ok rfl) ?_ | refine WL.y rfl (Yld.fld flds_ok rfl rfl rfl) ?_ | refine WL.y rfl (Yld.max2 rfl rfl) ?_ | refine WL.y rfl (Yld.min2 rfl rfl) ?_ | refine WL.y rfl (Yld.pickV rfl rfl rfl) ?_ | refine WL.gno rfl rfl rfl rfl ?_ | refine WL.gyes rfl rfl rfl rfl (Yld.add rfl rfl (by simp only [In]; omega)) ?_ | refine WL.gyes rfl rfl rfl rfl (Yld.sub rfl rfl (by simp only [In]; omega)) ?_ | refine WL.gyes rfl rfl rfl rfl (Yld.mul rfl rfl (by simp only [In]; omega)) ?_ | refine WL.gyes rfl rfl rfl rfl (Yld.convB tab_ok rfl rfl rfl rfl) ?_ | refine WL.gyes rfl rfl rfl rfl (Yld.conv tab_ok rfl rfl rfl (by simp only [In]; omega)) ?_ | refine WL.gyes rfl rfl rfl rfl (Yld.quo rfl rfl (by omega) (by omega) (by simp only [In]; omega)) ?_ | refine WL.gyes rfl rfl rfl rfl (Yld.rem rfl rfl (by omega) (by omega)) ?_ | refine WL.gyes rfl rfl rfl rfl (Yld.shl rfl rfl (by omega)) ?_ | refine WL.gyes rfl rfl rfl rfl (Yld.shr rfl rfl (by omega)) ?_ | refine WL.gyes rfl rfl rfl rfl (Yld.pure tab_ok rfl) ?_ | refine WL.gyes rfl rfl rfl rfl (Yld.fld flds_ok rfl rfl rfl) ?_ | refine WL.gyes rfl rfl rfl rfl (Yld.max2 rfl rfl) ?_ | refine WL.gyes rfl rfl rfl rfl (Yld.min2 rfl rfl) ?_ | refine WL.gyes rfl rfl rfl rfl (Yld.pickV rfl rfl rfl) ?_ | refine WL.gun rfl rfl rfl rfl ?_)
    refine WL.call rfl rfl (W_smithysee_Alike (K := fun b => b = decide (e = .e i)) hE1 (hus i hi') ?_) ?_
    · unfold M_smithysee_Alike
      cases e <;> simp
    rintro _ _ ⟨rfl, b, rfl, hb⟩
    subst hb
    refine WL.nil ?_
    repeat (first | refine WC.seq ?_ | refine WC.block ?_ | refine WC.region ?_ | refine WL.nil ?_ | refine WX.then_normal ?_ | refine WC.skip ?_ | refine WC.exit ?_ | refine WC.ret ?_ | refine WX.then_exit ?_ | refine WX.then_ret ?_ | refine WX.block_normal ?_ | refine WX.block_ret ?_ | refine WX.block_same ?_ | refine WX.block_other rfl ?_ | refine WC.label ?_ | refine WC.scope ?_ | refine WX.scope_normal ?_ | refine WX.scope_ret ?_ | refine WX.scope_exit ?_ | refine WL.y rfl (Yld.add rfl rfl (by simp only [In]; omega)) ?_ | refine WL.y rfl (Yld.sub rfl rfl (by simp only [In]; omega)) ?_ | refine WL.y rfl (Yld.mul rfl rfl (by simp only [In]; omega)) ?_ | refine WL.y rfl (Yld.convB tab_ok rfl rfl rfl rfl) ?_ | refine WL.y rfl (Yld.conv tab_ok rfl rfl rfl (by simp only [In]; omega)) ?_ | refine WL.y rfl (Yld.quo rfl rfl (by omega) (by omega) (by simp only [In]; omega)) ?_ | refine WL.y rfl (Yld.rem rfl rfl (by omega) (by omega)) ?_ | refine WL.y rfl (Yld.shl rfl rfl (by omega)) ?_ | refine WL.y rfl (Yld.shr rfl rfl (by omega)) ?_ | refine WL.y rfl (Yld.pure tab_ok rfl) ?_ | refine WL.y rfl (Yld.fld flds_ok rfl rfl rfl) ?_ | refine WL.y rfl (Yld.max2 rfl rfl) ?_ | refine WL.y rfl (Yld.min2 rfl rfl) ?_ | refine WL.y rfl (Yld.pickV rfl rfl rfl) ?_ | refine WL.gno rfl rfl rfl rfl ?_ | refine WL.gyes rfl rfl rfl rfl (Yld.add rfl rfl (by simp only [In]; omega)) ?_ | refine WL.gyes rfl rfl rfl rfl (Yld.sub rfl rfl (by simp only [In]; omega)) ?_ | refine WL.gyes rfl rfl rfl rfl (Yld.mul rfl rfl (by simp only [In]; omega)) ?_ | refine WL.gyes rfl rfl rfl rfl (Yld.convB tab_ok rfl rfl rfl rfl) ?_ | refine WL.gyes rfl rfl rfl rfl (Yld.conv tab_ok rfl rfl rfl (by simp only [In]; omega)) ?_ | refine WL.gyes rfl rfl rfl rfl (Yld.quo rfl rfl (by omega) (by omega) (by simp only [In]; omega)) ?_ | refine WL.gyes rfl rfl rfl rfl (Yld.rem rfl rfl (by omega) (by omega)) ?_ | refine WL.gyes rfl rfl rfl rfl (Yld.shl rfl rfl (by omega)) ?_ | refine WL.gyes rfl rfl rfl rfl (Yld.shr rfl rfl (by omega)) ?_ | refine WL.gyes rfl rfl rfl rfl (Yld.pure tab_ok rfl) ?_ | refine WL.gyes rfl rfl rfl rfl (Yld.fld flds_ok rfl rfl rfl) ?_ | refine WL.gyes rfl rfl rfl rfl (Yld.max2 rfl rfl) ?_ | refine WL.gyes rfl rfl rfl rfl (Yld.min2 rfl rfl) ?_ | refine WL.gyes rfl rfl rfl rfl (Yld.pickV rfl rfl rfl) ?_ | refine WL.gun rfl rfl rfl rfl ?_)
    refine WC.cond rfl (fun h2 => ?_) (fun h2 => ?_)
    · have h3 : e = .e i := of_decide_eq_true h2
      subst h3
      repeat (first | refine WC.seq ?_ | refine WC.block ?_ | refine WC.region ?_ | refine WL.nil ?_ | refine WX.then_normal ?_ | refine WC.skip ?_ | refine WC.exit ?_ | refine WC.ret ?_ | refine WX.then_exit ?_ | refine WX.then_ret ?_ | refine WX.block_normal ?_ | refine WX.block_ret ?_ | refine WX.block_same ?_ | refine WX.block_other rfl ?_ | refine WC.label ?_ | refine WC.scope ?_ | refine WX.scope_normal ?_ | refine WX.scope_ret ?_ | refine WX.scope_exit ?_ | refine WL.y rfl (Yld.add rfl rfl (by simp only [In]; omega)) ?_ | refine WL.y rfl (Yld.sub rfl rfl (by simp only [In]; omega)) ?_ | refine WL.y rfl (Yld.mul rfl rfl (by simp only [In]; omega)) ?_ | refine WL.y rfl (Yld.convB tab_ok rfl rfl rfl rfl) ?_ | refine WL.y rfl (Yld.conv tab_ok rfl rfl rfl (by simp only [In]; omega)) ?_ | refine WL.y rfl (Yld.quo rfl rfl (by omega) (by omega) (by simp only [In]; omega)) ?_ | refine WL.y rfl (Yld.rem rfl rfl (by omega) (by omega)) ?_ | refine WL.y rfl (Yld.shl rfl rfl (by omega)) ?_ | refine WL.y rfl (Yld.shr rfl rfl (by omega)) ?_ | refine WL.y rfl (Yld.pure tab_ok rfl) ?_ | refine WL.y rfl (Yld.fld flds_ok rfl rfl rfl) ?_ | refine WL.y rfl (Yld.max2 rfl rfl) ?_ | refine WL.y rfl (Yld.min2 rfl rfl) ?_ | refine WL.y rfl (Yld.pickV rfl rfl rfl) ?_ | refine WL.gno rfl rfl rfl rfl ?_ | refine WL.gyes rfl rfl rfl rfl (Yld.add rfl rfl (by simp only [In]; omega)) ?_ | refine WL.gyes rfl rfl rfl rfl (Yld.sub rfl rfl (by simp only [In]; omega)) ?_ | refine WL.gyes rfl rfl rfl rfl (Yld.mul rfl rfl (by simp only [In]; omega)) ?_ | refine WL.gyes rfl rfl rfl rfl (Yld.convB tab_ok rfl rfl rfl rfl) ?_ | refine WL.gyes rfl rfl rfl rfl (Yld.conv tab_ok rfl rfl rfl (by simp only [In]; omega)) ?_ | refine WL.gyes rfl rfl rfl rfl (Yld.quo rfl rfl (by omega) (by omega) (by simp only [In]; omega)) ?_ | refine WL.gyes rfl rfl rfl rfl (Yld.rem rfl rfl (by omega) (by omega)) ?_ | refine WL.gyes rfl rfl rfl rfl (Yld.shl rfl rfl (by omega)) ?_ | refine WL.gyes rfl rfl rfl rfl (Yld.shr rfl rfl (by omega)) ?_ | refine WL.gyes rfl rfl rfl rfl (Yld.pure tab_ok rfl) ?_ | refine WL.gyes rfl rfl rfl rfl (Yld.fld flds_ok rfl rfl rfl) ?_ | refine WL.gyes rfl rfl rfl rfl (Yld.max2 rfl rfl) ?_ | refine WL.gyes rfl rfl rfl rfl (Yld.min2 rfl rfl) ?_ | refine WL.gyes rfl rfl rfl rfl (Yld.pickV rfl rfl rfl) ?_ | refine WL.gun rfl rfl rfl rfl ?_)
      exact WX.ret1 rfl rfl ⟨hg1, _, rfl, H⟩
    · have h3 : e ≠ .e i := of_decide_eq_false h2
      repeat (first | refine WC.seq ?_ | refine WC.block ?_ | refine WC.region ?_ | refine WL.nil ?_ | refine WX.then_normal ?_ | refine WC.skip ?_ | refine WC.exit ?_ | refine WC.ret ?_ | refine WX.then_exit ?_ | refine WX.then_ret ?_ | refine WX.block_normal ?_ | refine WX.block_ret ?_ | refine WX.block_same ?_ | refine WX.block_other rfl ?_ | refine WC.label ?_ | refine WC.scope ?_ | refine WX.scope_normal ?_ | refine WX.scope_ret ?_ | refine WX.scope_exit ?_ | refine WL.y rfl (Yld.add rfl rfl (by simp only [In]; omega)) ?_ | refine WL.y rfl (Yld.sub rfl rfl (by simp only [In]; omega)) ?_ | refine WL.y rfl (Yld.mul rfl rfl (by simp only [In]; omega)) ?_ | refine WL.y rfl (Yld.convB tab_ok rfl rfl rfl rfl) ?_ | refine WL.y rfl (Yld.conv tab_ok rfl rfl rfl (by simp only [In]; omega)) ?_ | refine WL.y rfl (Yld.quo rfl rfl (by omega) (by omega) (by simp only [In]; omega)) ?_ | refine WL.y rfl (Yld.rem rfl rfl (by omega) (by omega)) ?_ | refine WL.y rfl (Yld.shl rfl rfl (by omega)) ?_ | refine WL.y rfl (Yld.shr rfl rfl (by omega)) ?_ | refine WL.y rfl (Yld.pure tab_ok rfl) ?_ | refine WL.y rfl (Yld.fld flds_ok rfl rfl rfl) ?_ | refine WL.y rfl (Yld.max2 rfl rfl) ?_ | refine WL.y rfl (Yld.min2 rfl rfl) ?_ | refine WL.y rfl (Yld.pickV rfl rfl rfl) ?_ | refine WL.gno rfl rfl rfl rfl ?_ | refine WL.gyes rfl rfl rfl rfl (Yld.add rfl rfl (by simp only [In]; omega)) ?_ | refine WL.gyes rfl rfl rfl rfl (Yld.sub rfl rfl (by simp only [In]; omega)) ?_ | refine WL.gyes rfl rfl rfl rfl (Yld.mul rfl rfl (by simp only [In]; omega)) ?_ | refine WL.gyes rfl rfl rfl rfl (Yld.convB tab_ok rfl rfl rfl rfl) ?_ | refine WL.gyes rfl rfl rfl rfl (Yld.conv tab_ok rfl rfl rfl (by simp only [In]; omega)) ?_ | refine WL.gyes rfl rfl rfl rfl (Yld.quo rfl rfl (by omega) (by omega) (by simp only [In]; omega)) ?_ | refine WL.gyes rfl rfl rfl rfl (Yld.rem rfl rfl (by omega) (by omega)) ?_ | refine WL.gyes rfl rfl rfl rfl (Yld.shl rfl rfl (by omega)) ?_ | refine WL.gyes rfl rfl rfl rfl (Yld.shr rfl rfl (by omega)) ?_ | refine WL.gyes rfl rfl rfl rfl (Yld.pure tab_ok rfl) ?_ | refine WL.gyes rfl rfl rfl rfl (Yld.fld flds_ok rfl rfl rfl) ?_ | refine WL.gyes rfl rfl rfl rfl (Yld.max2 rfl rfl) ?_ | refine WL.gyes rfl rfl rfl rfl (Yld.min2 rfl rfl) ?_ | refine WL.gyes rfl rfl rfl rfl (Yld.pickV rfl rfl rfl) ?_ | refine WL.gun rfl rfl rfl rfl ?_)
      refine WX.roundF _ ⟨i + 1, rfl, rfl, by omega, fun j hj => ?_, rfl⟩ (by repeat (first | exact Sub.nil | refine Sub.cons rfl ?_)) (by omega)
      rcases Nat.lt_or_ge j i with hji | hji
      · exact hne j hji
      · obtain rfl : j = i := by omega
        exact h3
  · simp only [decide_eq_false_iff_not] at h
    repeat (first | refine WC.seq ?_ | refine WC.block ?_ | refine WC.region ?_ | refine WL.nil ?_ | refine WX.then_normal ?_ | refine WC.skip ?_ | refine WC.exit ?_ | refine WC.ret ?_ | refine WX.then_exit ?_ | refine WX.then_ret ?_ | refine WX.block_normal ?_ | refine WX.block_ret ?_ | refine WX.block_same ?_ | refine WX.block_other rfl ?_ | refine WC.label ?_ | refine WC.scope ?_ | refine WX.scope_normal ?_ | refine WX.scope_ret ?_ | refine WX.scope_exit ?_ | refine WL.y rfl (Yld.add rfl rfl (by simp only [In]; omega)) ?_ | refine WL.y rfl (Yld.sub rfl rfl (by simp only [In]; omega)) ?_ | refine WL.y rfl (Yld.mul rfl rfl (by simp only [In]; omega)) ?_ | refine WL.y rfl (Yld.convB tab_ok rfl rfl rfl rfl) ?_ | refine WL.y rfl (Yld.conv tab_ok rfl rfl rfl (by simp only [In]; omega)) ?_ | refine WL.y rfl (Yld.quo rfl rfl (by omega) (by omega) (by simp only [In]; omega)) ?_ | refine WL.y rfl (Yld.rem rfl rfl (by omega) (by omega)) ?_ | refine WL.y rfl (Yld.shl rfl rfl (by omega)) ?_ | refine WL.y rfl (Yld.shr rfl rfl (by omega)) ?_ | refine WL.y rfl (Yld.pure tab_ok rfl) ?_ | refine WL.y rfl (Yld.fld flds_ok rfl rfl rfl) ?_ | refine WL.y rfl (Yld.max2 rfl rfl) ?_ | refine WL.y rfl (Yld.min2 rfl rfl) ?_ | refine WL.y rfl (Yld.pickV rfl rfl rfl) ?_ | refine WL.gno rfl rfl rfl rfl ?_ | refine WL.gyes rfl rfl rfl rfl (Yld.add rfl rfl (by simp only [In]; omega)) ?_ | refine WL.gyes rfl rfl rfl rfl (Yld.sub rfl rfl (by simp only [In]; omega)) ?_ | refine WL.gyes rfl rfl rfl rfl (Yld.mul rfl rfl (by simp only [In]; omega)) ?_ | refine WL.gyes rfl rfl rfl rfl (Yld.convB tab_ok rfl rfl rfl rfl) ?_ | refine WL.gyes rfl rfl rfl rfl (Yld.conv tab_ok rfl rfl rfl (by simp only [In]; omega)) ?_ | refine WL.gyes rfl rfl rfl rfl (Yld.quo rfl rfl (by omega) (by omega) (by simp only [In]; omega)) ?_ | refine WL.gyes rfl rfl rfl rfl (Yld.rem rfl rfl (by omega) (by omega)) ?_ | refine WL.gyes rfl rfl rfl rfl (Yld.shl rfl rfl (by omega)) ?_ | refine WL.gyes rfl rfl rfl rfl (Yld.shr rfl rfl (by omega)) ?_ | refine WL.gyes rfl rfl rfl rfl (Yld.pure tab_ok rfl) ?_ | refine WL.gyes rfl rfl rfl rfl (Yld.fld flds_ok rfl rfl rfl) ?_ | refine WL.gyes rfl rfl rfl rfl (Yld.max2 rfl rfl) ?_ | refine WL.gyes rfl rfl rfl rfl (Yld.min2 rfl rfl) ?_ | refine WL.gyes rfl rfl rfl rfl (Yld.pickV rfl rfl rfl) ?_ | refine WL.gun rfl rfl rfl rfl ?_)
    refine WX.ret1 rfl rfl ⟨hg1, _, rfl, ?_⟩
    have : sentV e = -1 := by
      cases e with
      | e n =>
        by_cases hn : n < 17
        · exact absurd rfl (hne n (by omega))
        · exact absurd (ErV.lt hE.1) hn
      | ok => rfl
      | at_ p n => rfl
    rw [this] at H
    exact H
end Go.Proofs.YtjoepdjeekadcaaDoor


 /- Printed by a program (wip/vg): what the functions mean, plainly, and their walks. -/
namespace Go.Proofs.YtjoepdjeekadcaaDoor
open Go Go.RowKit
attribute [local irreducible] WL WC WX WQ WK WJ Yld Eff Ef0 Fn
def M_smithysee_placed (e : Er) (K : Int → Bool → Int → Bool → (List UInt8) → Prop) : Prop :=
 ((∀ (pos : Int) (n : Nat), e = Er.at_ pos n → (((Er.e n) = Er.ok → M_smithyref_Bare (-1 : Int) (fun (t24_Code : Int) (t24_Placed : Bool) (t24_Pos : Int) (t24_Filed : Bool) (t24_File : List UInt8) =>
 K t24_Code t24_Placed t24_Pos t24_Filed t24_File)) ∧
 (¬ ((Er.e n) = Er.ok) → M_smithysee_sentinel (Er.e n) (fun (t29 : Int) =>
 M_smithyref_Placed t29 pos (fun (t34_Code : Int) (t34_Placed : Bool) (t34_Pos : Int) (t34_Filed : Bool) (t34_File : List UInt8) =>
 K t34_Code t34_Placed t34_Pos t34_Filed t34_File))))) ∧
 ((∀ p n, e ≠ Er.at_ p n) → M_smithysee_sentinel e (fun (t13 : Int) =>
 M_smithyref_Bare t13 (fun (t14_Code : Int) (t14_Placed : Bool) (t14_Pos : Int) (t14_Filed : Bool) (t14_File : List UInt8) =>
 K t14_Code t14_Placed t14_Pos t14_Filed t14_File))))

def M_smithysee_Fault (e : Er) (K : Int → Bool → Int → Bool → (List UInt8) → Prop) : Prop :=
 ((e = Er.ok → M_smithyref_None (fun (t8_Code : Int) (t8_Placed : Bool) (t8_Pos : Int) (t8_Filed : Bool) (t8_File : List UInt8) =>
 K t8_Code t8_Placed t8_Pos t8_Filed t8_File)) ∧
 (¬ (e = Er.ok) → M_smithysee_placed e (fun (t17_Code : Int) (t17_Placed : Bool) (t17_Pos : Int) (t17_Filed : Bool) (t17_File : List UInt8) =>
 K t17_Code t17_Placed t17_Pos t17_Filed t17_File)))

def M_smithysee_Same (e : Er) (f_Code : Int) (f_Placed : Bool) (f_Pos : Int) (f_Filed : Bool) (f_File : List UInt8) (K : Bool → Prop) : Prop :=
 M_smithysee_Fault e (fun (t6_Code : Int) (t6_Placed : Bool) (t6_Pos : Int) (t6_Filed : Bool) (t6_File : List UInt8) =>
 M_smithyref_SameFault t6_Code t6_Placed t6_Pos t6_Filed t6_File f_Code f_Placed f_Pos f_Filed f_File (fun (t4 : Bool) =>
 K t4))

def M_smithysee_Is (e : Er) (code : Int) (K : Bool → Prop) : Prop :=
 M_smithyref_Bare code (fun (t7_Code : Int) (t7_Placed : Bool) (t7_Pos : Int) (t7_Filed : Bool) (t7_File : List UInt8) =>
 M_smithysee_Same e t7_Code t7_Placed t7_Pos t7_Filed t7_File (fun (t4 : Bool) =>
 K t4))

set_option maxHeartbeats 8000000 in
theorem W_smithysee_placed {S : List Nat} {w : World} {v_e : Value} {e : Er} {K : Int → Bool → Int → Bool → (List UInt8) → Prop} (hG : GOK S w) (hS0 : 0 ∈ S) (hS1 : 1 ∈ S) (hS2 : 2 ∈ S) (hS3 : 3 ∈ S) (hS4 : 4 ∈ S) (hS5 : 5 ∈ S) (hS6 : 6 ∈ S) (hS7 : 7 ∈ S) (hS8 : 8 ∈ S) (hS9 : 9 ∈ S) (hS10 : 10 ∈ S) (hS11 : 11 ∈ S) (hS12 : 12 ∈ S) (hS13 : 13 ∈ S) (hS14 : 14 ∈ S) (hS15 : 15 ∈ S) (hS16 : 16 ∈ S) (he : ErrR S w v_e e) (H : M_smithysee_placed e K) : Fn Tryd.prog 79 ⟨[v_e]⟩ w (fun v w' => w.grownBy w' none ∧ ∃ (r_Code : Int), ∃ (r_Placed : Bool), ∃ (r_Pos : Int), ∃ (r_Filed : Bool), ∃ (r_File : List UInt8), v = .agg ⟨[.int .i64 r_Code, .bool r_Placed, .int .i64 r_Pos, .bool r_Filed, vs r_File]⟩ ∧ K r_Code r_Placed r_Pos r_Filed r_File) := by
  unfold M_smithysee_placed at H
  refine Fn.enter (by kernel_rfl) Tryd.func79 rfl Tryd.ntmps79 rfl ?_
  refine WC.seq ?_
  refine WC.region ?_
  refine WL.alloc rfl zero135 (fun g1 w1 hB1 hg1 hl1 => ?_)
  have gr1 := hg1
  refine WL.nil (WX.then_normal ?_)
  refine WC.seq ?_
  refine WC.region ?_
  refine WL.y rfl (Yld.pure tab_ok rfl) ?_
  rcases Er.atCases e with ⟨pos, n, he1⟩ | he1
  · replace H := H.1 pos n he1
    obtain ⟨b1, vE1, hv1, hB2, hE1⟩ := ErrR.atOut (he1 ▸ (he.grown gr1))
    refine WL.y rfl (Yld.assertYes Tryd.underlying178 rfl hv1) ?_
    refine WL.y rfl (Yld.pure tab_ok rfl) ?_
    refine WL.y rfl (Yld.pure tab_ok rfl) ?_
    refine WL.y rfl (Yld.pure tab_ok rfl) ?_
    refine WL.y rfl (Yld.pure tab_ok rfl) ?_
    refine WL.y rfl (Yld.pure tab_ok rfl) ?_
    refine WL.nil (WX.then_normal ?_)
    refine WC.seq ?_
    refine WC.seq ?_
    refine WC.region ?_
    refine WL.y rfl (Yld.pure tab_ok rfl) ?_
    refine WL.y rfl (Yld.pure tab_ok rfl) ?_
    refine WL.nil (WX.then_normal ?_)
    refine WC.cond rfl (fun h => by cases h) (fun _ => ?_)
    refine WC.skip (WX.then_normal ?_)
    refine WC.seq ?_
    refine WC.seq ?_
    refine WC.region ?_
    refine WL.y rfl (Yld.pure tab_ok rfl) ?_
    refine WL.y rfl (Yld.peqnil Tryd.underlying178 rfl rfl) ?_
    refine WL.y rfl (Yld.pure tab_ok rfl) ?_
    refine WL.midF 6 (fun L' w' => ∃ q1 : Bool, L' = [(23, .bool q1), (2, .pointer (some ⟨g1, 0, none⟩)), (3, .pointer (some ⟨b1, 0, none⟩))] ∧ (decide ((Er.e n) = Er.ok)) = q1 ∧ w1 = w') ?_ (fun hQ => ?_)
    · rintro _ _ ⟨q1, rfl, rfl, rfl⟩
      refine WL.nil (WX.then_normal ?_)
      refine WC.cond rfl (fun b2 => ?_) (fun b2 => ?_)
      · replace H := H.1 (of_decide_eq_true b2)
        refine WC.seq ?_
        refine WC.region ?_
        refine WL.call rfl rfl (W_smithyref_Bare H) ?_
        rintro _ w2 ⟨hg2, t24_Code, t24_Placed, t24_Pos, t24_Filed, t24_File, rfl, H⟩
        have gr2 := gr_trans gr1 hg2
        have k1 := hB1.g0 hg2
        refine WL.storeW (vs := [.int .i64 t24_Code, .bool t24_Placed, .int .i64 t24_Pos, .bool t24_Filed, vs t24_File]) tab_ok rfl rfl rfl (all1c rfl (all1c rfl (all1c rfl (all1c rfl (all1c rfl all1n))))) k1 rfl rfl (fun w3 hB3 hg3 => ?_)
        have gr3 := gr_mod gr2 hg3 (Ge.le (Ge.box hl1) (Nat.le_refl _))
        refine WL.nil (WX.then_normal ?_)
        refine WC.ret (WX.then_ret ?_)
        exact WX.retc tab_ok rfl rfl rfl hB3 rfl ⟨gr3, t24_Code, t24_Placed, t24_Pos, t24_Filed, t24_File, rfl, H⟩
      · replace H := H.2 (of_decide_eq_false b2)
        refine WC.skip (WX.then_normal ?_)
        refine WC.seq ?_
        refine WC.chainF (fun k => !(Nat.beq k 4 || Nat.beq k 9 || Nat.beq k 10)) (LD [3, 8] (fun w' => Bl w' b1 182 [.int .i64 pos, vE1])) mixed (by kernel_rfl) (fun k w' h _ => (bl_eqv h hB2)) ?_
        refine WJ.y rfl rfl (fun w' hw' => Yld.pure tab_ok rfl) ?_
        refine WJ.y rfl rfl (fun w' hw' => Yld.pure tab_ok rfl) ?_
        refine WJ.y rfl rfl (fun w' hw' => Yld.pure tab_ok rfl) ?_
        refine WJ.y rfl rfl (fun w' hw' => Yld.bload tab_ok (hw' rfl) rfl rfl rfl) ?_
        refine WJ.call rfl (wants_none) rfl rfl (W_smithysee_sentinel (hG.grown gr1) hS0 hS1 hS2 hS3 hS4 hS5 hS6 hS7 hS8 hS9 hS10 hS11 hS12 hS13 hS14 hS15 hS16 hE1 H) (fun v w' h w2 e => DD.keep (Bl.g0 hB2 (gr_eqv h.1 e))) ?_
        rintro _ w4 ⟨hg4, t29, rfl, H⟩
        have gr4 := gr_trans gr1 hg4
        have k2 := hB1.g0 hg4
        have k3 := hE1.grown hg4
        have k4 := hB2.g0 hg4
        refine WJ.y rfl rfl (fun w' hw' => Yld.pure tab_ok rfl) ?_
        refine WJ.y rfl rfl (fun w' hw' => Yld.pure tab_ok rfl) ?_
        refine WJ.y rfl rfl (fun w' hw' => Yld.pure tab_ok rfl) ?_
        refine WJ.y rfl rfl (fun w' hw' => Yld.bload tab_ok (hw' rfl) rfl rfl rfl) ?_
        refine WJ.call rfl (wants_none) rfl rfl (W_smithyref_Placed H) (fun v w' h w2 e => DD.keep (Bl.g0 k4 (gr_eqv h.1 e))) ?_
        rintro _ w5 ⟨hg5, t34_Code, t34_Placed, t34_Pos, t34_Filed, t34_File, rfl, H⟩
        have gr5 := gr_trans gr4 hg5
        have k5 := k2.g0 hg5
        have k6 := k4.g0 hg5
        refine WJ.eff rfl (Ef0.storeW (vs := [.int .i64 t34_Code, .bool t34_Placed, .int .i64 t34_Pos, .bool t34_Filed, vs t34_File]) tab_ok rfl rfl rfl (all1c rfl (all1c rfl (all1c rfl (all1c rfl (all1c rfl all1n))))) k5 rfl rfl) (fun w' h => DD.past (by kernel_rfl)) ?_
        rintro w6 ⟨hB4, hg6⟩
        have gr6 := gr_mod gr5 hg6 (Ge.le (Ge.box hl1) (Nat.le_refl _))
        refine WJ.nil (WX.then_normal ?_)
        refine WC.ret ?_
        exact WX.retc tab_ok rfl rfl rfl hB4 rfl ⟨gr6, t34_Code, t34_Placed, t34_Pos, t34_Filed, t34_File, rfl, H⟩
    · clear H
      refine WL.gyes rfl rfl (rfl) rfl (Yld.pure tab_ok rfl) ?_
      refine WL.gyes rfl rfl (rfl) rfl (Yld.pure tab_ok rfl) ?_
      refine WL.gyes rfl rfl (rfl) rfl (Yld.pure tab_ok rfl) ?_
      refine WL.gyes rfl rfl (rfl) rfl (Yld.bload tab_ok hB2 rfl rfl rfl) ?_
      refine WL.gyes rfl rfl (rfl) rfl (Yld.erreql Tryd.underlying34 hE1 rfl) ?_
      refine WL.y rfl (Yld.pickF (rfl) rfl) ?_
      exact WL.weaken (by repeat (first | exact Sub.nil | refine Sub.cons rfl ?_)) (hQ _ _ ⟨decide ((Er.e n) = Er.ok), rfl, rfl, rfl⟩)
  · replace H := H.2 he1
    refine WL.y rfl (Yld.assertNo Tryd.underlying178 (fun _ => by kernel_rfl) (he.grown gr1) rfl rfl (.inr he1)) ?_
    refine WL.y rfl (Yld.pure tab_ok rfl) ?_
    refine WL.y rfl (Yld.pure tab_ok rfl) ?_
    refine WL.y rfl (Yld.pure tab_ok rfl) ?_
    refine WL.y rfl (Yld.pure tab_ok rfl) ?_
    refine WL.y rfl (Yld.pure tab_ok rfl) ?_
    refine WL.nil (WX.then_normal ?_)
    refine WC.seq ?_
    refine WC.seq ?_
    refine WC.region ?_
    refine WL.y rfl (Yld.pure tab_ok rfl) ?_
    refine WL.y rfl (Yld.pure tab_ok rfl) ?_
    refine WL.nil (WX.then_normal ?_)
    refine WC.cond rfl (fun _ => ?_) (fun h => by cases h)
    refine WC.seq ?_
    refine WC.region ?_
    refine WL.y rfl (Yld.pure tab_ok rfl) ?_
    refine WL.call rfl rfl (W_smithysee_sentinel (hG.grown gr1) hS0 hS1 hS2 hS3 hS4 hS5 hS6 hS7 hS8 hS9 hS10 hS11 hS12 hS13 hS14 hS15 hS16 (he.grown gr1) H) ?_
    rintro _ w7 ⟨hg7, t13, rfl, H⟩
    have gr7 := gr_trans gr1 hg7
    have k8 := hB1.g0 hg7
    refine WL.call rfl rfl (W_smithyref_Bare H) ?_
    rintro _ w8 ⟨hg8, t14_Code, t14_Placed, t14_Pos, t14_Filed, t14_File, rfl, H⟩
    have gr8 := gr_trans gr7 hg8
    have k9 := k8.g0 hg8
    refine WL.storeW (vs := [.int .i64 t14_Code, .bool t14_Placed, .int .i64 t14_Pos, .bool t14_Filed, vs t14_File]) tab_ok rfl rfl rfl (all1c rfl (all1c rfl (all1c rfl (all1c rfl (all1c rfl all1n))))) k9 rfl rfl (fun w9 hB5 hg9 => ?_)
    have gr9 := gr_mod gr8 hg9 (Ge.le (Ge.box hl1) (Nat.le_refl _))
    refine WL.nil (WX.then_normal ?_)
    refine WC.ret (WX.then_ret ?_)
    exact WX.retc tab_ok rfl rfl rfl hB5 rfl ⟨gr9, t14_Code, t14_Placed, t14_Pos, t14_Filed, t14_File, rfl, H⟩

set_option maxHeartbeats 8000000 in
theorem W_smithysee_Fault {S : List Nat} {w : World} {v_e : Value} {e : Er} {K : Int → Bool → Int → Bool → (List UInt8) → Prop} (hG : GOK S w) (hS0 : 0 ∈ S) (hS1 : 1 ∈ S) (hS2 : 2 ∈ S) (hS3 : 3 ∈ S) (hS4 : 4 ∈ S) (hS5 : 5 ∈ S) (hS6 : 6 ∈ S) (hS7 : 7 ∈ S) (hS8 : 8 ∈ S) (hS9 : 9 ∈ S) (hS10 : 10 ∈ S) (hS11 : 11 ∈ S) (hS12 : 12 ∈ S) (hS13 : 13 ∈ S) (hS14 : 14 ∈ S) (hS15 : 15 ∈ S) (hS16 : 16 ∈ S) (he : ErrR S w v_e e) (H : M_smithysee_Fault e K) : Fn Tryd.prog 71 ⟨[v_e]⟩ w (fun v w' => w.grownBy w' none ∧ ∃ (r_Code : Int), ∃ (r_Placed : Bool), ∃ (r_Pos : Int), ∃ (r_Filed : Bool), ∃ (r_File : List UInt8), v = .agg ⟨[.int .i64 r_Code, .bool r_Placed, .int .i64 r_Pos, .bool r_Filed, vs r_File]⟩ ∧ K r_Code r_Placed r_Pos r_Filed r_File) := by
  unfold M_smithysee_Fault at H
  refine Fn.enter (by kernel_rfl) Tryd.func71 rfl Tryd.ntmps71 rfl ?_
  refine WC.seq ?_
  refine WC.region ?_
  refine WL.alloc rfl zero135 (fun g1 w1 hB1 hg1 hl1 => ?_)
  have gr1 := hg1
  refine WL.nil (WX.then_normal ?_)
  refine WC.seq ?_
  refine WC.seq ?_
  refine WC.region ?_
  refine WL.y rfl (Yld.pure tab_ok rfl) ?_
  refine WL.y rfl (Yld.erreql Tryd.underlying34 (he.grown gr1) rfl) ?_
  refine WL.nil (WX.then_normal ?_)
  refine WC.cond rfl (fun b1 => ?_) (fun b1 => ?_)
  · replace H := H.1 (of_decide_eq_true b1)
    refine WC.seq ?_
    refine WC.region ?_
    refine WL.call rfl rfl (W_smithyref_None H) ?_
    rintro _ w2 ⟨hg2, t8_Code, t8_Placed, t8_Pos, t8_Filed, t8_File, rfl, H⟩
    have gr2 := gr_trans gr1 hg2
    have k1 := hB1.g0 hg2
    refine WL.storeW (vs := [.int .i64 t8_Code, .bool t8_Placed, .int .i64 t8_Pos, .bool t8_Filed, vs t8_File]) tab_ok rfl rfl rfl (all1c rfl (all1c rfl (all1c rfl (all1c rfl (all1c rfl all1n))))) k1 rfl rfl (fun w3 hB2 hg3 => ?_)
    have gr3 := gr_mod gr2 hg3 (Ge.le (Ge.box hl1) (Nat.le_refl _))
    refine WL.nil (WX.then_normal ?_)
    refine WC.ret (WX.then_ret ?_)
    exact WX.retc tab_ok rfl rfl rfl hB2 rfl ⟨gr3, t8_Code, t8_Placed, t8_Pos, t8_Filed, t8_File, rfl, H⟩
  · replace H := H.2 (of_decide_eq_false b1)
    refine WC.skip (WX.then_normal ?_)
    refine WC.seq ?_
    refine WC.region ?_
    refine WL.y rfl (Yld.pure tab_ok rfl) ?_
    refine WL.y rfl (Yld.assertNo Tryd.underlying171 (fun _ => by kernel_rfl) (he.grown gr1) rfl rfl (.inl rfl)) ?_
    refine WL.y rfl (Yld.pure tab_ok rfl) ?_
    refine WL.y rfl (Yld.pure tab_ok rfl) ?_
    refine WL.y rfl (Yld.pure tab_ok rfl) ?_
    refine WL.y rfl (Yld.pure tab_ok rfl) ?_
    refine WL.y rfl (Yld.pure tab_ok rfl) ?_
    refine WL.nil (WX.then_normal ?_)
    refine WC.seq ?_
    refine WC.seq ?_
    refine WC.region ?_
    refine WL.y rfl (Yld.pure tab_ok rfl) ?_
    refine WL.y rfl (Yld.pure tab_ok rfl) ?_
    refine WL.nil (WX.then_normal ?_)
    refine WC.cond rfl (fun _ => ?_) (fun h => by cases h)
    refine WC.seq ?_
    refine WC.region ?_
    refine WL.y rfl (Yld.pure tab_ok rfl) ?_
    refine WL.call rfl rfl (W_smithysee_placed (hG.grown gr1) hS0 hS1 hS2 hS3 hS4 hS5 hS6 hS7 hS8 hS9 hS10 hS11 hS12 hS13 hS14 hS15 hS16 (he.grown gr1) H) ?_
    rintro _ w4 ⟨hg4, t17_Code, t17_Placed, t17_Pos, t17_Filed, t17_File, rfl, H⟩
    have gr4 := gr_trans gr1 hg4
    have k2 := hB1.g0 hg4
    refine WL.storeW (vs := [.int .i64 t17_Code, .bool t17_Placed, .int .i64 t17_Pos, .bool t17_Filed, vs t17_File]) tab_ok rfl rfl rfl (all1c rfl (all1c rfl (all1c rfl (all1c rfl (all1c rfl all1n))))) k2 rfl rfl (fun w5 hB3 hg5 => ?_)
    have gr5 := gr_mod gr4 hg5 (Ge.le (Ge.box hl1) (Nat.le_refl _))
    refine WL.nil (WX.then_normal ?_)
    refine WC.ret (WX.then_ret ?_)
    exact WX.retc tab_ok rfl rfl rfl hB3 rfl ⟨gr5, t17_Code, t17_Placed, t17_Pos, t17_Filed, t17_File, rfl, H⟩

set_option maxHeartbeats 8000000 in
theorem W_smithysee_Same {S : List Nat} {w : World} {v_e : Value} {e : Er} {f_Code : Int} {f_Placed : Bool} {f_Pos : Int} {f_Filed : Bool} {f_File : List UInt8} {K : Bool → Prop} (hG : GOK S w) (hS0 : 0 ∈ S) (hS1 : 1 ∈ S) (hS2 : 2 ∈ S) (hS3 : 3 ∈ S) (hS4 : 4 ∈ S) (hS5 : 5 ∈ S) (hS6 : 6 ∈ S) (hS7 : 7 ∈ S) (hS8 : 8 ∈ S) (hS9 : 9 ∈ S) (hS10 : 10 ∈ S) (hS11 : 11 ∈ S) (hS12 : 12 ∈ S) (hS13 : 13 ∈ S) (hS14 : 14 ∈ S) (hS15 : 15 ∈ S) (hS16 : 16 ∈ S) (he : ErrR S w v_e e) (H : M_smithysee_Same e f_Code f_Placed f_Pos f_Filed f_File K) : Fn Tryd.prog 57 ⟨[v_e, .agg ⟨[.int .i64 f_Code, .bool f_Placed, .int .i64 f_Pos, .bool f_Filed, vs f_File]⟩]⟩ w (fun v w' => w.grownBy w' none ∧ ∃ (r : Bool), v = .bool r ∧ K r) := by
  unfold M_smithysee_Same at H
  refine Fn.enter (by kernel_rfl) Tryd.func57 rfl Tryd.ntmps57 rfl ?_
  refine WC.seq ?_
  refine WC.region ?_
  refine WL.box (us := [.int .i64 f_Code, .bool f_Placed, .int .i64 f_Pos, .bool f_Filed, vs f_File]) rfl rfl rfl (fun g1 w1 hB1 hg1 hl1 => ?_)
  have gr1 := hg1
  refine WL.y rfl (Yld.pure tab_ok rfl) ?_
  refine WL.nil (WX.then_normal ?_)
  refine WC.seq ?_
  refine WC.chainF (fun k => !(Nat.beq k 1 || Nat.beq k 3)) (LD [2] (fun w' => Bl w' g1 135 [.int .i64 f_Code, .bool f_Placed, .int .i64 f_Pos, .bool f_Filed, vs f_File])) mixed (by kernel_rfl) (fun k w' h _ => (bl_eqv h hB1)) ?_
  refine WJ.y rfl rfl (fun w' hw' => Yld.pure tab_ok rfl) ?_
  refine WJ.call rfl (wants_none) rfl rfl (W_smithysee_Fault (hG.grown gr1) hS0 hS1 hS2 hS3 hS4 hS5 hS6 hS7 hS8 hS9 hS10 hS11 hS12 hS13 hS14 hS15 hS16 (he.grown gr1) H) (fun v w' h w2 e => DD.keep (Bl.g0 hB1 (gr_eqv h.1 e))) ?_
  rintro _ w2 ⟨hg2, t6_Code, t6_Placed, t6_Pos, t6_Filed, t6_File, rfl, H⟩
  have gr2 := gr_trans gr1 hg2
  have k1 := hB1.g0 hg2
  refine WJ.y rfl rfl (fun w' hw' => Yld.bagg (vs := [.int .i64 f_Code, .bool f_Placed, .int .i64 f_Pos, .bool f_Filed, vs f_File]) tab_ok (hw' rfl) rfl rfl rfl rfl) ?_
  refine WJ.call rfl (wants_none) rfl rfl (W_smithyref_SameFault H) (fun v w' h w2 e => DD.keep (Bl.g0 k1 (gr_eqv h.1 e))) ?_
  rintro _ w3 ⟨hg3, t4, rfl, H⟩
  have gr3 := gr_trans gr2 hg3
  have k2 := k1.g0 hg3
  refine WJ.y rfl rfl (fun w' hw' => Yld.pure tab_ok rfl) ?_
  refine WJ.nil (WX.then_normal ?_)
  refine WC.ret ?_
  exact WX.ret1 rfl rfl ⟨gr3, t4, rfl, H⟩

set_option maxHeartbeats 8000000 in
theorem W_smithysee_Is {S : List Nat} {w : World} {v_e : Value} {e : Er} {code : Int} {K : Bool → Prop} (hG : GOK S w) (hS0 : 0 ∈ S) (hS1 : 1 ∈ S) (hS2 : 2 ∈ S) (hS3 : 3 ∈ S) (hS4 : 4 ∈ S) (hS5 : 5 ∈ S) (hS6 : 6 ∈ S) (hS7 : 7 ∈ S) (hS8 : 8 ∈ S) (hS9 : 9 ∈ S) (hS10 : 10 ∈ S) (hS11 : 11 ∈ S) (hS12 : 12 ∈ S) (hS13 : 13 ∈ S) (hS14 : 14 ∈ S) (hS15 : 15 ∈ S) (hS16 : 16 ∈ S) (he : ErrR S w v_e e) (H : M_smithysee_Is e code K) : Fn Tryd.prog 34 ⟨[v_e, .int .i64 code]⟩ w (fun v w' => w.grownBy w' none ∧ ∃ (r : Bool), v = .bool r ∧ K r) := by
  unfold M_smithysee_Is at H
  refine Fn.enter (by kernel_rfl) Tryd.func34 rfl Tryd.ntmps34 rfl ?_
  refine WC.seq ?_
  refine WC.region ?_
  refine WL.y rfl (Yld.pure tab_ok rfl) ?_
  refine WL.nil (WX.then_normal ?_)
  refine WC.seq ?_
  refine WC.region ?_
  refine WL.y rfl (Yld.pure tab_ok rfl) ?_
  refine WL.y rfl (Yld.pure tab_ok rfl) ?_
  refine WL.call rfl rfl (W_smithyref_Bare H) ?_
  rintro _ w1 ⟨hg1, t7_Code, t7_Placed, t7_Pos, t7_Filed, t7_File, rfl, H⟩
  have gr1 := hg1
  refine WL.call rfl rfl (W_smithysee_Same (hG.grown gr1) hS0 hS1 hS2 hS3 hS4 hS5 hS6 hS7 hS8 hS9 hS10 hS11 hS12 hS13 hS14 hS15 hS16 (he.grown gr1) H) ?_
  rintro _ w2 ⟨hg2, t4, rfl, H⟩
  have gr2 := gr_trans gr1 hg2
  refine WL.y rfl (Yld.pure tab_ok rfl) ?_
  refine WL.nil (WX.then_normal ?_)
  refine WC.ret ?_
  exact WX.ret1 rfl rfl ⟨gr2, t4, rfl, H⟩

end Go.Proofs.YtjoepdjeekadcaaDoor

 