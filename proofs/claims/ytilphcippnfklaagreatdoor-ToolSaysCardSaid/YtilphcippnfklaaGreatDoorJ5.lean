/- Texts of this claim, joined by a program: GTr, Ord. -/
import Derived.Test.YtilphcippnfklaaGreatDoorJ4
/- Printed by a program (wip/vg): what the functions mean, plainly, and their walks. -/
namespace Go.Proofs.YtilphcippnfklaaGreatDoor
open Go Go.RowKit
attribute [local irreducible] WL WC WX WQ WK WJ Yld Eff Ef0 Fn
def M_smithyref1_table (K : (List Int) → Prop) : Prop :=
 K ([(1116352408 : Int), (1899447441 : Int), (3049323471 : Int), (3921009573 : Int), (961987163 : Int), (1508970993 : Int), (2453635748 : Int), (2870763221 : Int), (3624381080 : Int), (310598401 : Int), (607225278 : Int), (1426881987 : Int), (1925078388 : Int), (2162078206 : Int), (2614888103 : Int), (3248222580 : Int), (3835390401 : Int), (4022224774 : Int), (264347078 : Int), (604807628 : Int), (770255983 : Int), (1249150122 : Int), (1555081692 : Int), (1996064986 : Int), (2554220882 : Int), (2821834349 : Int), (2952996808 : Int), (3210313671 : Int), (3336571891 : Int), (3584528711 : Int), (113926993 : Int), (338241895 : Int), (666307205 : Int), (773529912 : Int), (1294757372 : Int), (1396182291 : Int), (1695183700 : Int), (1986661051 : Int), (2177026350 : Int), (2456956037 : Int), (2730485921 : Int), (2820302411 : Int), (3259730800 : Int), (3345764771 : Int), (3516065817 : Int), (3600352804 : Int), (4094571909 : Int), (275423344 : Int), (430227734 : Int), (506948616 : Int), (659060556 : Int), (883997877 : Int), (958139571 : Int), (1322822218 : Int), (1537002063 : Int), (1747873779 : Int), (1955562222 : Int), (2024104815 : Int), (2227730452 : Int), (2361852424 : Int), (2428436474 : Int), (2756734187 : Int), (3204031479 : Int), (3329325298 : Int)] : List Int)

def M_smithyref1_turn (x : Int) (n : Int) (K : Int → Prop) : Prop :=
 (0 ≤ n) ∧
 (0 ≤ IntKind.wrap .u64 ((32 : Int) - n)) ∧
 K (bits .or .u32 (shrV .u32 x n.toNat) (shlV .u32 x (IntKind.wrap .u64 ((32 : Int) - n)).toNat))

def M_smithyref1_Sum (s : List UInt8) (K : (List UInt8) → Prop) : Prop :=
 M_smithyref1_table (fun (k : List Int) =>
 (In .i64 ((s.length : Int) + (72 : Int))) ∧
 (0 ≤ (s.length : Int) + (72 : Int) ∧ ((s.length : Int) + (72 : Int)) * 1 ≤ 140737488355328 ∧ (s.length : Int) + (72 : Int) ≤ 140737488355328) ∧
 (((([] : List UInt8)).length + s.length) * 1 ≤ 140737488355328) ∧
 (((([] : List UInt8) ++ s).length + (([128] : List UInt8)).length) * 1 ≤ 140737488355328) ∧
 Lp1 (fun (m : List UInt8) k_1 => (0 ≤ (m.length : Int) ∧ 0 < (64 : Int)) ∧
 ((¬ (((m.length : Int) % (64 : Int)) = (56 : Int)) → ((m.length + (([0] : List UInt8)).length) * 1 ≤ 140737488355328) ∧
 k_1 (m ++ ([0] : List UInt8))) ∧
 (((m.length : Int) % (64 : Int)) = (56 : Int) → Lp2 (fun (m2 : List UInt8) (i : Int) k_2 => (((0 : Int) ≤ i → (In .i64 ((8 : Int) * i)) ∧
 (0 ≤ IntKind.wrap .u64 ((8 : Int) * i)) ∧
 (0 ≤ IntKind.wrap .u8 (shrV .u64 (IntKind.wrap .u64 ((IntKind.wrap .u64 (s.length : Int)) * (8 : Int))) (IntKind.wrap .u64 ((8 : Int) * i)).toNat) ∧ IntKind.wrap .u8 (shrV .u64 (IntKind.wrap .u64 ((IntKind.wrap .u64 (s.length : Int)) * (8 : Int))) (IntKind.wrap .u64 ((8 : Int) * i)).toNat) ≤ 255) ∧
 ((m2.length + (([UInt8.ofNat (IntKind.wrap .u8 (shrV .u64 (IntKind.wrap .u64 ((IntKind.wrap .u64 (s.length : Int)) * (8 : Int))) (IntKind.wrap .u64 ((8 : Int) * i)).toNat)).toNat] : List UInt8)).length) * 1 ≤ 140737488355328) ∧
 (In .i64 (i - (1 : Int))) ∧
 k_2 (m2 ++ ([UInt8.ofNat (IntKind.wrap .u8 (shrV .u64 (IntKind.wrap .u64 ((IntKind.wrap .u64 (s.length : Int)) * (8 : Int))) (IntKind.wrap .u64 ((8 : Int) * i)).toNat)).toNat] : List UInt8)) (i - (1 : Int))) ∧
 (¬ ((0 : Int) ≤ i) → Lp2 (fun (at_ : Int) (h : List Int) k_3 => 8 = h.length → ((at_ < (m2.length : Int) → (0 ≤ (64 : Int) ∧ (64 : Int) * 4 ≤ 140737488355328 ∧ (64 : Int) ≤ 140737488355328) ∧
 Lp2 (fun (i2 : Int) (w_ : List Int) k_4 => 64 = w_.length → ((i2 < (16 : Int) → (In .i64 ((4 : Int) * i2)) ∧
 (In .i64 (at_ + ((4 : Int) * i2))) ∧
 (0 ≤ at_ + ((4 : Int) * i2) ∧ at_ + ((4 : Int) * i2) < (m2.length : Nat)) ∧
 (In .i64 ((4 : Int) * i2)) ∧
 (In .i64 (at_ + ((4 : Int) * i2))) ∧
 (In .i64 ((at_ + ((4 : Int) * i2)) + (1 : Int))) ∧
 (0 ≤ (at_ + ((4 : Int) * i2)) + (1 : Int) ∧ (at_ + ((4 : Int) * i2)) + (1 : Int) < (m2.length : Nat)) ∧
 (In .i64 ((4 : Int) * i2)) ∧
 (In .i64 (at_ + ((4 : Int) * i2))) ∧
 (In .i64 ((at_ + ((4 : Int) * i2)) + (2 : Int))) ∧
 (0 ≤ (at_ + ((4 : Int) * i2)) + (2 : Int) ∧ (at_ + ((4 : Int) * i2)) + (2 : Int) < (m2.length : Nat)) ∧
 (In .i64 ((4 : Int) * i2)) ∧
 (In .i64 (at_ + ((4 : Int) * i2))) ∧
 (In .i64 ((at_ + ((4 : Int) * i2)) + (3 : Int))) ∧
 (0 ≤ (at_ + ((4 : Int) * i2)) + (3 : Int) ∧ (at_ + ((4 : Int) * i2)) + (3 : Int) < (m2.length : Nat)) ∧
 (0 ≤ i2 ∧ i2 < (64 : Nat)) ∧
 (In .i64 (i2 + (1 : Int))) ∧
 k_4 (i2 + (1 : Int)) (w_.set i2.toNat (bits .or .u32 (bits .or .u32 (bits .or .u32 (shlV .u32 ((m2.getD ((at_ + ((4 : Int) * i2)).toNat) 0).toNat : Int) 24) (shlV .u32 ((m2.getD (((at_ + ((4 : Int) * i2)) + (1 : Int)).toNat) 0).toNat : Int) 16)) (shlV .u32 ((m2.getD (((at_ + ((4 : Int) * i2)) + (2 : Int)).toNat) 0).toNat : Int) 8)) ((m2.getD (((at_ + ((4 : Int) * i2)) + (3 : Int)).toNat) 0).toNat : Int)))) ∧
 (¬ (i2 < (16 : Int)) → Lp2 (fun (i3 : Int) (w_2 : List Int) k_5 => 64 = w_2.length → ((i3 < (64 : Int) → (In .i64 (i3 - (15 : Int))) ∧
 (0 ≤ i3 - (15 : Int) ∧ i3 - (15 : Int) < (64 : Nat)) ∧
 M_smithyref1_turn (w_2.getD ((i3 - (15 : Int)).toNat) 0) (7 : Int) (fun (t124 : Int) =>
 (In .i64 (i3 - (15 : Int))) ∧
 (0 ≤ i3 - (15 : Int) ∧ i3 - (15 : Int) < (64 : Nat)) ∧
 M_smithyref1_turn (w_2.getD ((i3 - (15 : Int)).toNat) 0) (18 : Int) (fun (t130 : Int) =>
 (In .i64 (i3 - (15 : Int))) ∧
 (0 ≤ i3 - (15 : Int) ∧ i3 - (15 : Int) < (64 : Nat)) ∧
 (In .i64 (i3 - (2 : Int))) ∧
 (0 ≤ i3 - (2 : Int) ∧ i3 - (2 : Int) < (64 : Nat)) ∧
 M_smithyref1_turn (w_2.getD ((i3 - (2 : Int)).toNat) 0) (17 : Int) (fun (t144 : Int) =>
 (In .i64 (i3 - (2 : Int))) ∧
 (0 ≤ i3 - (2 : Int) ∧ i3 - (2 : Int) < (64 : Nat)) ∧
 M_smithyref1_turn (w_2.getD ((i3 - (2 : Int)).toNat) 0) (19 : Int) (fun (t150 : Int) =>
 (In .i64 (i3 - (2 : Int))) ∧
 (0 ≤ i3 - (2 : Int) ∧ i3 - (2 : Int) < (64 : Nat)) ∧
 (In .i64 (i3 - (16 : Int))) ∧
 (0 ≤ i3 - (16 : Int) ∧ i3 - (16 : Int) < (64 : Nat)) ∧
 (In .i64 (i3 - (7 : Int))) ∧
 (0 ≤ i3 - (7 : Int) ∧ i3 - (7 : Int) < (64 : Nat)) ∧
 (0 ≤ i3 ∧ i3 < (64 : Nat)) ∧
 (In .i64 (i3 + (1 : Int))) ∧
 k_5 (i3 + (1 : Int)) (w_2.set i3.toNat (IntKind.wrap .u32 ((IntKind.wrap .u32 ((IntKind.wrap .u32 ((w_2.getD ((i3 - (16 : Int)).toNat) 0) + (bits .xor .u32 (bits .xor .u32 t124 t130) (shrV .u32 (w_2.getD ((i3 - (15 : Int)).toNat) 0) 3)))) + (w_2.getD ((i3 - (7 : Int)).toNat) 0))) + (bits .xor .u32 (bits .xor .u32 t144 t150) (shrV .u32 (w_2.getD ((i3 - (2 : Int)).toNat) 0) 10)))))))))) ∧
 (¬ (i3 < (64 : Int)) → (0 ≤ (8 : Int) ∧ (8 : Int) * 4 ≤ 140737488355328 ∧ (8 : Int) ≤ 140737488355328) ∧
 (((([] : List Int)).length + h.length) * 4 ≤ 140737488355328) ∧
 Lp2 (fun (v : List Int) (i4 : Int) k_6 => ((i4 < (64 : Int) → (0 ≤ (4 : Int) ∧ (4 : Int) < (v.length : Nat)) ∧
 M_smithyref1_turn (v.getD 4 0) (6 : Int) (fun (t187 : Int) =>
 (0 ≤ (4 : Int) ∧ (4 : Int) < (v.length : Nat)) ∧
 M_smithyref1_turn (v.getD 4 0) (11 : Int) (fun (t191 : Int) =>
 (0 ≤ (4 : Int) ∧ (4 : Int) < (v.length : Nat)) ∧
 M_smithyref1_turn (v.getD 4 0) (25 : Int) (fun (t196 : Int) =>
 (0 ≤ (4 : Int) ∧ (4 : Int) < (v.length : Nat)) ∧
 (0 ≤ (5 : Int) ∧ (5 : Int) < (v.length : Nat)) ∧
 (0 ≤ (4 : Int) ∧ (4 : Int) < (v.length : Nat)) ∧
 (0 ≤ (6 : Int) ∧ (6 : Int) < (v.length : Nat)) ∧
 (0 ≤ (7 : Int) ∧ (7 : Int) < (v.length : Nat)) ∧
 (0 ≤ i4 ∧ i4 < (k.length : Nat)) ∧
 (0 ≤ i4 ∧ i4 < (64 : Nat)) ∧
 (0 ≤ (0 : Int) ∧ (0 : Int) < (v.length : Nat)) ∧
 M_smithyref1_turn (v.getD 0 0) (2 : Int) (fun (t234 : Int) =>
 (0 ≤ (0 : Int) ∧ (0 : Int) < (v.length : Nat)) ∧
 M_smithyref1_turn (v.getD 0 0) (13 : Int) (fun (t238 : Int) =>
 (0 ≤ (0 : Int) ∧ (0 : Int) < (v.length : Nat)) ∧
 M_smithyref1_turn (v.getD 0 0) (22 : Int) (fun (t243 : Int) =>
 (0 ≤ (0 : Int) ∧ (0 : Int) < (v.length : Nat)) ∧
 (0 ≤ (1 : Int) ∧ (1 : Int) < (v.length : Nat)) ∧
 (0 ≤ (0 : Int) ∧ (0 : Int) < (v.length : Nat)) ∧
 (0 ≤ (2 : Int) ∧ (2 : Int) < (v.length : Nat)) ∧
 (0 ≤ (1 : Int) ∧ (1 : Int) < (v.length : Nat)) ∧
 (0 ≤ (2 : Int) ∧ (2 : Int) < (v.length : Nat)) ∧
 (0 ≤ (0 : Int) ∧ (0 : Int) < (v.length : Nat)) ∧
 (0 ≤ (1 : Int) ∧ (1 : Int) < (v.length : Nat)) ∧
 (0 ≤ (2 : Int) ∧ (2 : Int) < (v.length : Nat)) ∧
 (0 ≤ (3 : Int) ∧ (3 : Int) < (v.length : Nat)) ∧
 (0 ≤ (4 : Int) ∧ (4 : Int) < (v.length : Nat)) ∧
 (0 ≤ (5 : Int) ∧ (5 : Int) < (v.length : Nat)) ∧
 (0 ≤ (6 : Int) ∧ (6 : Int) < (v.length : Nat)) ∧
 (In .i64 (i4 + (1 : Int))) ∧
 k_6 ([IntKind.wrap .u32 ((IntKind.wrap .u32 ((IntKind.wrap .u32 ((IntKind.wrap .u32 ((IntKind.wrap .u32 ((IntKind.wrap .u32 ((v.getD 7 0) + (bits .xor .u32 (bits .xor .u32 t187 t191) t196))) + (bits .xor .u32 (bits .and .u32 (v.getD 4 0) (v.getD 5 0)) (bits .and .u32 (bits .xor .u32 (if IntKind.signed .u32 then -1 else IntKind.max .u32) (v.getD 4 0)) (v.getD 6 0))))) + (k.getD i4.toNat 0))) + (w_2.getD i4.toNat 0))) + (bits .xor .u32 (bits .xor .u32 t234 t238) t243))) + (bits .xor .u32 (bits .xor .u32 (bits .and .u32 (v.getD 0 0) (v.getD 1 0)) (bits .and .u32 (v.getD 0 0) (v.getD 2 0))) (bits .and .u32 (v.getD 1 0) (v.getD 2 0)))), v.getD 0 0, v.getD 1 0, v.getD 2 0, IntKind.wrap .u32 ((v.getD 3 0) + (IntKind.wrap .u32 ((IntKind.wrap .u32 ((IntKind.wrap .u32 ((IntKind.wrap .u32 ((v.getD 7 0) + (bits .xor .u32 (bits .xor .u32 t187 t191) t196))) + (bits .xor .u32 (bits .and .u32 (v.getD 4 0) (v.getD 5 0)) (bits .and .u32 (bits .xor .u32 (if IntKind.signed .u32 then -1 else IntKind.max .u32) (v.getD 4 0)) (v.getD 6 0))))) + (k.getD i4.toNat 0))) + (w_2.getD i4.toNat 0)))), v.getD 4 0, v.getD 5 0, v.getD 6 0] : List Int) (i4 + (1 : Int))))))))) ∧
 (¬ (i4 < (64 : Int)) → Lp2 (fun (i5 : Int) (h2 : List Int) k_7 => 8 = h2.length → ((i5 < (8 : Int) → (0 ≤ i5 ∧ i5 < (8 : Nat)) ∧
 (0 ≤ i5 ∧ i5 < (v.length : Nat)) ∧
 (0 ≤ i5 ∧ i5 < (8 : Nat)) ∧
 (In .i64 (i5 + (1 : Int))) ∧
 k_7 (i5 + (1 : Int)) (h2.set i5.toNat (IntKind.wrap .u32 ((h2.getD i5.toNat 0) + (v.getD i5.toNat 0))))) ∧
 (¬ (i5 < (8 : Int)) → (In .i64 (at_ + (64 : Int))) ∧
 k_3 (at_ + (64 : Int)) h2))) (0 : Int) h))) (([] : List Int) ++ h) (0 : Int)))) (16 : Int) w_))) (0 : Int) (List.replicate 64 0)) ∧
 (¬ (at_ < (m2.length : Int)) → Lp2 (fun (i6 : Int) (out0 : List UInt8) k_8 => ((i6 < (8 : Int) → Lp2 (fun (j : Int) (out02 : List UInt8) k_9 => ((j < (4 : Int) → (In .i64 ((4 : Int) * i6)) ∧
 (In .i64 (((4 : Int) * i6) + j)) ∧
 (0 ≤ i6 ∧ i6 < (8 : Nat)) ∧
 (In .i64 ((8 : Int) * j)) ∧
 (In .i64 ((24 : Int) - ((8 : Int) * j))) ∧
 (0 ≤ IntKind.wrap .u64 ((24 : Int) - ((8 : Int) * j))) ∧
 (0 ≤ ((4 : Int) * i6) + j ∧ ((4 : Int) * i6) + j < 32) ∧
 (0 ≤ IntKind.wrap .u8 (shrV .u32 (h.getD i6.toNat 0) (IntKind.wrap .u64 ((24 : Int) - ((8 : Int) * j))).toNat) ∧ IntKind.wrap .u8 (shrV .u32 (h.getD i6.toNat 0) (IntKind.wrap .u64 ((24 : Int) - ((8 : Int) * j))).toNat) ≤ 255) ∧
 (out02.length = 32) ∧
 (In .i64 (j + (1 : Int))) ∧
 k_9 (j + (1 : Int)) (out02.set ((((4 : Int) * i6) + j).toNat) (UInt8.ofNat (IntKind.wrap .u8 (shrV .u32 (h.getD i6.toNat 0) (IntKind.wrap .u64 ((24 : Int) - ((8 : Int) * j))).toNat)).toNat))) ∧
 (¬ (j < (4 : Int)) → (In .i64 (i6 + (1 : Int))) ∧
 k_8 (i6 + (1 : Int)) out02))) (0 : Int) out0) ∧
 (¬ (i6 < (8 : Int)) → K out0))) (0 : Int) (List.replicate 32 0 : List UInt8)))) (0 : Int) ([(1779033703 : Int), (3144134277 : Int), (1013904242 : Int), (2773480762 : Int), (1359893119 : Int), (2600822924 : Int), (528734635 : Int), (1541459225 : Int)] : List Int)))) m (7 : Int)))) ((([] : List UInt8) ++ s) ++ ([128] : List UInt8)))

def M_smithyref1_Hex (s : List UInt8) (K : (List UInt8) → Prop) : Prop :=
 (0 ≤ (64 : Int) ∧ (64 : Int) * 1 ≤ 140737488355328 ∧ (64 : Int) ≤ 140737488355328) ∧
 Lp2 (fun (out : List UInt8) (i : Int) k_1 => ((i < (32 : Int) → (0 ≤ i ∧ i < 32) ∧
 (0 ≤ shrV .u8 ((s.getD i.toNat 0).toNat : Int) 4 ∧ shrV .u8 ((s.getD i.toNat 0).toNat : Int) 4 < ([48, 49, 50, 51, 52, 53, 54, 55, 56, 57, 97, 98, 99, 100, 101, 102] : List UInt8).length) ∧
 (0 ≤ i ∧ i < 32) ∧
 (0 ≤ bits .and .u8 ((s.getD i.toNat 0).toNat : Int) (15 : Int) ∧ bits .and .u8 ((s.getD i.toNat 0).toNat : Int) (15 : Int) < ([48, 49, 50, 51, 52, 53, 54, 55, 56, 57, 97, 98, 99, 100, 101, 102] : List UInt8).length) ∧
 ((out.length + (([([48, 49, 50, 51, 52, 53, 54, 55, 56, 57, 97, 98, 99, 100, 101, 102] : List UInt8).getD (shrV .u8 ((s.getD i.toNat 0).toNat : Int) 4).toNat 0, ([48, 49, 50, 51, 52, 53, 54, 55, 56, 57, 97, 98, 99, 100, 101, 102] : List UInt8).getD (bits .and .u8 ((s.getD i.toNat 0).toNat : Int) (15 : Int)).toNat 0] : List UInt8)).length) * 1 ≤ 140737488355328) ∧
 (In .i64 (i + (1 : Int))) ∧
 k_1 (out ++ ([([48, 49, 50, 51, 52, 53, 54, 55, 56, 57, 97, 98, 99, 100, 101, 102] : List UInt8).getD (shrV .u8 ((s.getD i.toNat 0).toNat : Int) 4).toNat 0, ([48, 49, 50, 51, 52, 53, 54, 55, 56, 57, 97, 98, 99, 100, 101, 102] : List UInt8).getD (bits .and .u8 ((s.getD i.toNat 0).toNat : Int) (15 : Int)).toNat 0] : List UInt8)) (i + (1 : Int))) ∧
 (¬ (i < (32 : Int)) → K out))) ([] : List UInt8) (0 : Int)

def M_smithyref11_bound (n : Int) (i : Int) (K : Int → Prop) : Prop :=
 ((i < (0 : Int) → (In .i64 (0 - n)) ∧
 ((i < (0 - n) → K (0 : Int)) ∧
 (¬ (i < (0 - n)) → (In .i64 (n + i)) ∧
 K (n + i)))) ∧
 (¬ (i < (0 : Int)) → K (if n < i then n else i)))

def M_smithyref11_at (s : List UInt8) (what : List UInt8) (i : Int) (K : Bool → Prop) : Prop :=
 (In .i64 ((s.length : Int) - i)) ∧
 ((decide ((what.length : Int) ≤ ((s.length : Int) - i))) = true → (In .i64 (i + (what.length : Int)))) ∧
 ((decide ((what.length : Int) ≤ ((s.length : Int) - i))) = true → (0 ≤ i ∧ i ≤ i + (what.length : Int) ∧ i + (what.length : Int) ≤ s.length)) ∧
 K ((decide ((what.length : Int) ≤ ((s.length : Int) - i))) && (decide (((s.drop i.toNat).take ((i + (what.length : Int)).toNat - i.toNat)) = what)))

def M_smithyref11_Cut (n : Int) (from_ : Int) (to_ : Int) (has : Bool) (until_ : Bool) (K : Int → Int → Prop) : Prop :=
 M_smithyref11_bound n from_ (fun (a : Int) =>
 M_smithyref11_bound n to_ (fun (b : Int) =>
 ∃ J1 : Int → Prop, ((((!has) = true → J1 (0 : Int)) ∧
 ((!has) = false → J1 a))) ∧
 (∀ a2 : Int, J1 a2 → ∃ J2 : Int → Prop, ((((!until_) = true → J2 n) ∧
 ((!until_) = false → J2 b))) ∧
 (∀ b2 : Int, J2 b2 → K a2 (if a2 < b2 then b2 else a2)))))

def M_smithyref11_Find (s : List UInt8) (what : List UInt8) (from_ : Int) (to_ : Int) (K : Int → Prop) : Prop :=
 M_smithyref11_Cut (s.length : Int) from_ to_ true true (fun (t170 : Int) (t171 : Int) =>
 Lp1 (fun (i : Int) k_1 => (In .i64 (t171 - (what.length : Int))) ∧
 ((i ≤ (t171 - (what.length : Int)) → M_smithyref11_at s what i (fun (t32 : Bool) =>
 ((t32 = true → K i) ∧
 (t32 = false → (In .i64 (i + (1 : Int))) ∧
 k_1 (i + (1 : Int)))))) ∧
 (¬ (i ≤ (t171 - (what.length : Int))) → K (-1 : Int)))) t170)

def M_smithyref17_Lines (s : List UInt8) (K : (List (List UInt8)) → Prop) : Prop :=
 Lp3 (fun (l : List (List UInt8)) (from_ : Int) (i : Int) k_1 => ((i < (s.length : Int) → ∃ J1 : (List (List UInt8)) → Int → Prop, ((0 ≤ i ∧ i < s.length) ∧
 ((((s.getD i.toNat 0).toNat : Int) = (10 : Int) → (0 ≤ from_ ∧ from_ ≤ i ∧ i ≤ s.length) ∧
 ((l.length + (([(s.drop from_.toNat).take (i.toNat - from_.toNat)] : List (List UInt8))).length) * 16 ≤ 140737488355328) ∧
 (In .i64 (i + (1 : Int))) ∧
 J1 (l ++ ([(s.drop from_.toNat).take (i.toNat - from_.toNat)] : List (List UInt8))) (i + (1 : Int))) ∧
 (¬ (((s.getD i.toNat 0).toNat : Int) = (10 : Int)) → J1 l from_))) ∧
 (∀ l2 : List (List UInt8), ∀ from_2 : Int, J1 l2 from_2 → (In .i64 (i + (1 : Int))) ∧
 k_1 l2 from_2 (i + (1 : Int)))) ∧
 (¬ (i < (s.length : Int)) → ∃ J2 : (List (List UInt8)) → Prop, (((from_ < (s.length : Int) → (0 ≤ from_ ∧ from_ ≤ s.length) ∧
 ((l.length + (([s.drop from_.toNat] : List (List UInt8))).length) * 16 ≤ 140737488355328) ∧
 J2 (l ++ ([s.drop from_.toNat] : List (List UInt8)))) ∧
 (¬ (from_ < (s.length : Int)) → J2 l))) ∧
 (∀ l3 : List (List UInt8), J2 l3 → K l3)))) [] (0 : Int) (0 : Int)

def M_smithyref17_lines (inputs : List (List UInt8)) (K : (List (List UInt8)) → Prop) : Prop :=
 (inputs.length ≤ maxLen →
 Lp2 (fun (out : List (List UInt8)) (i : Int) k_1 => ((i < (inputs.length : Int) → (0 ≤ i ∧ i < (inputs.length : Nat)) ∧
 M_smithyref17_Lines (inputs.getD i.toNat []) (fun (t16 : List (List UInt8)) =>
 ((out.length + t16.length) * 16 ≤ 140737488355328) ∧
 (In .i64 (i + (1 : Int))) ∧
 k_1 (out ++ t16) (i + (1 : Int)))) ∧
 (¬ (i < (inputs.length : Int)) → K out))) [] (0 : Int))

def M_smithyref17_joined (l : List (List UInt8)) (K : (List UInt8) → Prop) : Prop :=
 (l.length ≤ maxLen →
 Lp2 (fun (b : List UInt8) (i : Int) k_1 => ((i < (l.length : Int) → (0 ≤ i ∧ i < (l.length : Nat)) ∧
 ((b.length + (l.getD i.toNat []).length) * 1 ≤ 140737488355328) ∧
 (((b ++ (l.getD i.toNat [])).length + (([10] : List UInt8)).length) * 1 ≤ 140737488355328) ∧
 (In .i64 (i + (1 : Int))) ∧
 k_1 ((b ++ (l.getD i.toNat [])) ++ ([10] : List UInt8)) (i + (1 : Int))) ∧
 (¬ (i < (l.length : Int)) → K b))) [] (0 : Int))

def M_smithyref17_concat (by_ : List UInt8) (l : List (List UInt8)) (K : (List UInt8) → Prop) : Prop :=
 (l.length ≤ maxLen →
 Lp2 (fun (b : List UInt8) (i : Int) k_1 => ((i < (l.length : Int) → ∃ J1 : (List UInt8) → Prop, ((((0 : Int) < i → ((b.length + by_.length) * 1 ≤ 140737488355328) ∧
 J1 (b ++ by_)) ∧
 (¬ ((0 : Int) < i) → J1 b))) ∧
 (∀ b2 : List UInt8, J1 b2 → (0 ≤ i ∧ i < (l.length : Nat)) ∧
 ((b2.length + (l.getD i.toNat []).length) * 1 ≤ 140737488355328) ∧
 (In .i64 (i + (1 : Int))) ∧
 k_1 (b2 ++ (l.getD i.toNat [])) (i + (1 : Int)))) ∧
 (¬ (i < (l.length : Int)) → K b))) [] (0 : Int))

def M_smithyref17_substituted (args : List (List UInt8)) (inputs : List (List UInt8)) (K : (List UInt8) → Bool → Prop) : Prop :=
 (args.length ≤ maxLen →
 (inputs.length ≤ maxLen →
 (0 ≤ (args.length : Int) ∧ 0 < (2 : Int)) ∧
 ((¬ (((args.length : Int) % (2 : Int)) = (0 : Int)) → K ([] : List UInt8) false) ∧
 (((args.length : Int) % (2 : Int)) = (0 : Int) → M_smithyref17_concat ([] : List UInt8) inputs (fun (s : List UInt8) =>
 Lp2 (fun (s2 : List UInt8) (i : Int) k_1 => (In .i64 (i + (1 : Int))) ∧
 (((i + (1 : Int)) < (args.length : Int) → (0 ≤ i ∧ i < (args.length : Nat)) ∧
 ((((decide ((args.getD i.toNat []) = ([] : List UInt8))) || (decide ((65536 : Int) < (s2.length : Int)))) = true → K ([] : List UInt8) false) ∧
 (((decide ((args.getD i.toNat []) = ([] : List UInt8))) || (decide ((65536 : Int) < (s2.length : Int)))) = false → Lp2 (fun (b : List UInt8) (k : Int) k_2 => ((k < (s2.length : Int) → (In .i64 ((s2.length : Int) - k)) ∧
 (0 ≤ i ∧ i < (args.length : Nat)) ∧
 ((decide (((args.getD i.toNat []).length : Int) ≤ ((s2.length : Int) - k))) = true → (0 ≤ i ∧ i < (args.length : Nat))) ∧
 ((decide (((args.getD i.toNat []).length : Int) ≤ ((s2.length : Int) - k))) = true → (In .i64 (k + ((args.getD i.toNat []).length : Int)))) ∧
 ((decide (((args.getD i.toNat []).length : Int) ≤ ((s2.length : Int) - k))) = true → (0 ≤ k ∧ k ≤ k + ((args.getD i.toNat []).length : Int) ∧ k + ((args.getD i.toNat []).length : Int) ≤ s2.length)) ∧
 ((decide (((args.getD i.toNat []).length : Int) ≤ ((s2.length : Int) - k))) = true → (0 ≤ i ∧ i < (args.length : Nat))) ∧
 ((((decide (((args.getD i.toNat []).length : Int) ≤ ((s2.length : Int) - k))) && (decide (((s2.drop k.toNat).take ((k + ((args.getD i.toNat []).length : Int)).toNat - k.toNat)) = (args.getD i.toNat [])))) = true → (In .i64 (i + (1 : Int))) ∧
 (0 ≤ i + (1 : Int) ∧ i + (1 : Int) < (args.length : Nat)) ∧
 ((b.length + (args.getD ((i + (1 : Int)).toNat) []).length) * 1 ≤ 140737488355328) ∧
 (0 ≤ i ∧ i < (args.length : Nat)) ∧
 (In .i64 (k + ((args.getD i.toNat []).length : Int))) ∧
 k_2 (b ++ (args.getD ((i + (1 : Int)).toNat) [])) (k + ((args.getD i.toNat []).length : Int))) ∧
 (((decide (((args.getD i.toNat []).length : Int) ≤ ((s2.length : Int) - k))) && (decide (((s2.drop k.toNat).take ((k + ((args.getD i.toNat []).length : Int)).toNat - k.toNat)) = (args.getD i.toNat [])))) = false → (0 ≤ k ∧ k < s2.length) ∧
 ((b.length + (([s2.getD k.toNat 0] : List UInt8)).length) * 1 ≤ 140737488355328) ∧
 (In .i64 (k + (1 : Int))) ∧
 k_2 (b ++ ([s2.getD k.toNat 0] : List UInt8)) (k + (1 : Int))))) ∧
 (¬ (k < (s2.length : Int)) → (In .i64 (i + (2 : Int))) ∧
 k_1 b (i + (2 : Int))))) [] (0 : Int)))) ∧
 (¬ ((i + (1 : Int)) < (args.length : Int)) → K s2 true))) s (0 : Int))))))

def M_smithyref17_sorted (args : List (List UInt8)) (inputs : List (List UInt8)) (K : (List UInt8) → Bool → Prop) : Prop :=
 (args.length ≤ maxLen →
 (inputs.length ≤ maxLen →
 Lp3 (fun (back : Bool) (unique : Bool) (i : Int) k_1 => ((i < (args.length : Int) → ∃ J1 : Bool → Bool → Prop, ((0 ≤ i ∧ i < (args.length : Nat)) ∧
 ((((decide ((args.getD i.toNat []) = ([114, 101, 118, 101, 114, 115, 101] : List UInt8))) && (!back)) = true → J1 true unique) ∧
 (((decide ((args.getD i.toNat []) = ([114, 101, 118, 101, 114, 115, 101] : List UInt8))) && (!back)) = false → (0 ≤ i ∧ i < (args.length : Nat)) ∧
 ((((decide ((args.getD i.toNat []) = ([117, 110, 105, 113, 117, 101] : List UInt8))) && (!unique)) = true → J1 back true) ∧
 (((decide ((args.getD i.toNat []) = ([117, 110, 105, 113, 117, 101] : List UInt8))) && (!unique)) = false → K ([] : List UInt8) false))))) ∧
 (∀ back2 : Bool, ∀ unique2 : Bool, J1 back2 unique2 → (In .i64 (i + (1 : Int))) ∧
 k_1 back2 unique2 (i + (1 : Int)))) ∧
 (¬ (i < (args.length : Int)) → M_smithyref17_lines inputs (fun (l : List (List UInt8)) =>
 Lp2 (fun (out : List (List UInt8)) (i2 : Int) k_2 => ((i2 < (l.length : Int) → ∃ J2 : (List (List UInt8)) → Prop, (Lp1 (fun (k : Int) k_3 => ((decide (k < (out.length : Int))) = true → (0 ≤ k ∧ k < (out.length : Nat))) ∧
 ((decide (k < (out.length : Int))) = true → (0 ≤ i2 ∧ i2 < (l.length : Nat))) ∧
 ((((decide (k < (out.length : Int))) && (Op.bytesLess (out.getD k.toNat []) (l.getD i2.toNat []) || decide ((out.getD k.toNat []) = (l.getD i2.toNat [])))) = true → (In .i64 (k + (1 : Int))) ∧
 k_3 (k + (1 : Int))) ∧
 (((decide (k < (out.length : Int))) && (Op.bytesLess (out.getD k.toNat []) (l.getD i2.toNat []) || decide ((out.getD k.toNat []) = (l.getD i2.toNat [])))) = false → ((unique && (decide ((0 : Int) < k))) = true → (In .i64 (k - (1 : Int)))) ∧
 ((unique && (decide ((0 : Int) < k))) = true → (0 ≤ k - (1 : Int) ∧ k - (1 : Int) < (out.length : Nat))) ∧
 ((unique && (decide ((0 : Int) < k))) = true → (0 ≤ i2 ∧ i2 < (l.length : Nat))) ∧
 ((((unique && (decide ((0 : Int) < k))) && (decide ((out.getD ((k - (1 : Int)).toNat) []) = (l.getD i2.toNat [])))) = true → J2 out) ∧
 (((unique && (decide ((0 : Int) < k))) && (decide ((out.getD ((k - (1 : Int)).toNat) []) = (l.getD i2.toNat [])))) = false → (In .i64 ((out.length : Int) + (1 : Int))) ∧
 (0 ≤ (out.length : Int) + (1 : Int) ∧ ((out.length : Int) + (1 : Int)) * 16 ≤ 140737488355328 ∧ (out.length : Int) + (1 : Int) ≤ 140737488355328) ∧
 (0 ≤ k ∧ k ≤ (out.length : Nat)) ∧
 (((([] : List (List UInt8))).length + (out.take k.toNat).length) * 16 ≤ 140737488355328) ∧
 (0 ≤ i2 ∧ i2 < (l.length : Nat)) ∧
 (((([] : List (List UInt8)) ++ (out.take k.toNat)).length + (([l.getD i2.toNat []] : List (List UInt8))).length) * 16 ≤ 140737488355328) ∧
 (0 ≤ k ∧ k ≤ (out.length : Int) ∧ (out.length : Int) ≤ (out.length : Nat)) ∧
 ((((([] : List (List UInt8)) ++ (out.take k.toNat)) ++ ([l.getD i2.toNat []] : List (List UInt8))).length + (out.drop k.toNat).length) * 16 ≤ 140737488355328) ∧
 J2 (((([] : List (List UInt8)) ++ (out.take k.toNat)) ++ ([l.getD i2.toNat []] : List (List UInt8))) ++ (out.drop k.toNat))))))) (0 : Int)) ∧
 (∀ out2 : List (List UInt8), J2 out2 → (In .i64 (i2 + (1 : Int))) ∧
 k_2 out2 (i2 + (1 : Int)))) ∧
 (¬ (i2 < (l.length : Int)) → ∃ J3 : (List (List UInt8)) → Prop, (((back = true → (In .i64 ((out.length : Int) - (1 : Int))) ∧
 Lp2 (fun (turned : List (List UInt8)) (i3 : Int) k_4 => (((0 : Int) ≤ i3 → (0 ≤ i3 ∧ i3 < (out.length : Nat)) ∧
 ((turned.length + (([out.getD i3.toNat []] : List (List UInt8))).length) * 16 ≤ 140737488355328) ∧
 (In .i64 (i3 - (1 : Int))) ∧
 k_4 (turned ++ ([out.getD i3.toNat []] : List (List UInt8))) (i3 - (1 : Int))) ∧
 (¬ ((0 : Int) ≤ i3) → J3 turned))) [] ((out.length : Int) - (1 : Int))) ∧
 (back = false → J3 out))) ∧
 (∀ out3 : List (List UInt8), J3 out3 → M_smithyref17_joined out3 (fun (t4 : List UInt8) =>
 K t4 true))))) [] (0 : Int))))) false false (0 : Int)))

def M_smithyref17_done (tool : Int) (args : List (List UInt8)) (inputs : List (List UInt8)) (K : (List UInt8) → Bool → Prop) : Prop :=
 (args.length ≤ maxLen →
 (inputs.length ≤ maxLen →
 ((tool = (1 : Int) → ∃ J1 : (List UInt8) → Prop, ((((args.length : Int) = (1 : Int) → (0 ≤ (0 : Int) ∧ (0 : Int) < (args.length : Nat)) ∧
 J1 (args.getD 0 [])) ∧
 (¬ ((args.length : Int) = (1 : Int)) → J1 ([] : List UInt8)))) ∧
 (∀ by_ : List UInt8, J1 by_ → M_smithyref17_concat by_ inputs (fun (t6 : List UInt8) =>
 K t6 (decide ((args.length : Int) ≤ (1 : Int)))))) ∧
 (¬ (tool = (1 : Int)) → ((tool = (2 : Int) → (((decide ((args.length : Int) < (1 : Int))) || (decide ((2 : Int) < (args.length : Int)))) = false → (decide ((args.length : Int) = (2 : Int))) = true → (0 ≤ (1 : Int) ∧ (1 : Int) < (args.length : Nat))) ∧
 (((((decide ((args.length : Int) < (1 : Int))) || (decide ((2 : Int) < (args.length : Int)))) || ((decide ((args.length : Int) = (2 : Int))) && (!decide ((args.getD 1 []) = ([110, 111, 116] : List UInt8))))) = true → K ([] : List UInt8) false) ∧
 ((((decide ((args.length : Int) < (1 : Int))) || (decide ((2 : Int) < (args.length : Int)))) || ((decide ((args.length : Int) = (2 : Int))) && (!decide ((args.getD 1 []) = ([110, 111, 116] : List UInt8))))) = false → M_smithyref17_lines inputs (fun (l : List (List UInt8)) =>
 Lp2 (fun (out : List (List UInt8)) (i : Int) k_1 => ((i < (l.length : Int) → ∃ J2 : (List (List UInt8)) → Prop, ((0 ≤ i ∧ i < (l.length : Nat)) ∧
 (0 ≤ (0 : Int) ∧ (0 : Int) < (args.length : Nat)) ∧
 (0 ≤ i ∧ i < (l.length : Nat)) ∧
 M_smithyref11_Find (l.getD i.toNat []) (args.getD 0 []) (0 : Int) ((l.getD i.toNat []).length : Int) (fun (t70 : Int) =>
 ((((decide ((0 : Int) ≤ t70)) == (decide ((args.length : Int) = (1 : Int)))) = true → (0 ≤ i ∧ i < (l.length : Nat)) ∧
 ((out.length + (([l.getD i.toNat []] : List (List UInt8))).length) * 16 ≤ 140737488355328) ∧
 J2 (out ++ ([l.getD i.toNat []] : List (List UInt8)))) ∧
 (((decide ((0 : Int) ≤ t70)) == (decide ((args.length : Int) = (1 : Int)))) = false → J2 out)))) ∧
 (∀ out2 : List (List UInt8), J2 out2 → (In .i64 (i + (1 : Int))) ∧
 k_1 out2 (i + (1 : Int)))) ∧
 (¬ (i < (l.length : Int)) → M_smithyref17_joined out (fun (t62 : List UInt8) =>
 K t62 true)))) [] (0 : Int))))) ∧
 (¬ (tool = (2 : Int)) → ((tool = (3 : Int) → M_smithyref17_substituted args inputs (fun (t890 : List UInt8) (t891 : Bool) =>
 K t890 t891)) ∧
 (¬ (tool = (3 : Int)) → ((tool = (4 : Int) → M_smithyref17_sorted args inputs (fun (t960 : List UInt8) (t961 : Bool) =>
 K t960 t961)) ∧
 (¬ (tool = (4 : Int)) → Lp2 (fun (out3 : List (List UInt8)) (i2 : Int) k_2 => ((i2 < (inputs.length : Int) → (0 ≤ i2 ∧ i2 < (inputs.length : Nat)) ∧
 M_smithyref1_Sum (inputs.getD i2.toNat []) (fun (t110 : List UInt8) =>
 M_smithyref1_Hex t110 (fun (t111 : List UInt8) =>
 ((out3.length + (([t111] : List (List UInt8))).length) * 16 ≤ 140737488355328) ∧
 (In .i64 (i2 + (1 : Int))) ∧
 k_2 (out3 ++ ([t111] : List (List UInt8))) (i2 + (1 : Int))))) ∧
 (¬ (i2 < (inputs.length : Int)) → M_smithyref17_joined out3 (fun (t63 : List UInt8) =>
 K t63 (decide ((args.length : Int) = (0 : Int))))))) [] (0 : Int)))))))))))

def M_smithyref17_Do (tool : Int) (args : List (List UInt8)) (inputs : List (List UInt8)) (K : (List UInt8) → Int → Prop) : Prop :=
 (args.length ≤ maxLen →
 (inputs.length ≤ maxLen →
 ((((decide (tool < (1 : Int))) || (decide ((5 : Int) < tool))) = true → K ([] : List UInt8) (111 : Int)) ∧
 (((decide (tool < (1 : Int))) || (decide ((5 : Int) < tool))) = false → M_smithyref17_done tool args inputs (fun (t200 : List UInt8) (t201 : Bool) =>
 ((((!t201) || (decide ((65536 : Int) < (t200.length : Int)))) = true → K ([] : List UInt8) (117 : Int)) ∧
 (((!t201) || (decide ((65536 : Int) < (t200.length : Int)))) = false → K t200 (0 : Int))))))))

def M_smithyref_SameTexts (a : List (List UInt8)) (b : List (List UInt8)) (K : Bool → Prop) : Prop :=
 (a.length ≤ maxLen →
 (b.length ≤ maxLen →
 ((¬ ((a.length : Int) = (b.length : Int)) → K false) ∧
 ((a.length : Int) = (b.length : Int) → Lp1 (fun (i : Int) k_1 => ((i < (a.length : Int) → (0 ≤ i ∧ i < (a.length : Nat)) ∧
 (0 ≤ i ∧ i < (b.length : Nat)) ∧
 ((¬ ((a.getD i.toNat []) = (b.getD i.toNat [])) → K false) ∧
 ((a.getD i.toNat []) = (b.getD i.toNat []) → (In .i64 (i + (1 : Int))) ∧
 k_1 (i + (1 : Int))))) ∧
 (¬ (i < (a.length : Int)) → K true))) (0 : Int)))))

def M_smithyref_SortedTexts (l : List (List UInt8)) (K : (List (List UInt8)) → Prop) : Prop :=
 (l.length ≤ maxLen →
 Lp2 (fun (out : List (List UInt8)) (i : Int) k_1 => ((i < (l.length : Int) → ∃ J1 : (List (List UInt8)) → Prop, (Lp1 (fun (k : Int) k_2 => ((decide (k < (out.length : Int))) = true → (0 ≤ k ∧ k < (out.length : Nat))) ∧
 ((decide (k < (out.length : Int))) = true → (0 ≤ i ∧ i < (l.length : Nat))) ∧
 ((((decide (k < (out.length : Int))) && (Op.bytesLess (out.getD k.toNat []) (l.getD i.toNat []))) = true → (In .i64 (k + (1 : Int))) ∧
 k_2 (k + (1 : Int))) ∧
 (((decide (k < (out.length : Int))) && (Op.bytesLess (out.getD k.toNat []) (l.getD i.toNat []))) = false → ((decide (k < (out.length : Int))) = true → (0 ≤ k ∧ k < (out.length : Nat))) ∧
 ((decide (k < (out.length : Int))) = true → (0 ≤ i ∧ i < (l.length : Nat))) ∧
 ((((decide (k < (out.length : Int))) && (decide ((out.getD k.toNat []) = (l.getD i.toNat [])))) = true → J1 out) ∧
 (((decide (k < (out.length : Int))) && (decide ((out.getD k.toNat []) = (l.getD i.toNat [])))) = false → (In .i64 ((out.length : Int) + (1 : Int))) ∧
 (0 ≤ (out.length : Int) + (1 : Int) ∧ ((out.length : Int) + (1 : Int)) * 16 ≤ 140737488355328 ∧ (out.length : Int) + (1 : Int) ≤ 140737488355328) ∧
 (0 ≤ k ∧ k ≤ (out.length : Nat)) ∧
 (((([] : List (List UInt8))).length + (out.take k.toNat).length) * 16 ≤ 140737488355328) ∧
 (0 ≤ i ∧ i < (l.length : Nat)) ∧
 (((([] : List (List UInt8)) ++ (out.take k.toNat)).length + (([l.getD i.toNat []] : List (List UInt8))).length) * 16 ≤ 140737488355328) ∧
 (0 ≤ k ∧ k ≤ (out.length : Int) ∧ (out.length : Int) ≤ (out.length : Nat)) ∧
 ((((([] : List (List UInt8)) ++ (out.take k.toNat)) ++ ([l.getD i.toNat []] : List (List UInt8))).length + (out.drop k.toNat).length) * 16 ≤ 140737488355328) ∧
 J1 (((([] : List (List UInt8)) ++ (out.take k.toNat)) ++ ([l.getD i.toNat []] : List (List UInt8))) ++ (out.drop k.toNat))))))) (0 : Int)) ∧
 (∀ out2 : List (List UInt8), J1 out2 → (In .i64 (i + (1 : Int))) ∧
 k_1 out2 (i + (1 : Int)))) ∧
 (¬ (i < (l.length : Int)) → K out))) [] (0 : Int))

def M_smithyref_AmongTexts (l : List (List UInt8)) (s : List UInt8) (K : Int → Prop) : Prop :=
 (l.length ≤ maxLen →
 Lp1 (fun (i : Int) k_1 => ((i < (l.length : Int) → (0 ≤ i ∧ i < (l.length : Nat)) ∧
 (((l.getD i.toNat []) = s → K i) ∧
 (¬ ((l.getD i.toNat []) = s) → (In .i64 (i + (1 : Int))) ∧
 k_1 (i + (1 : Int))))) ∧
 (¬ (i < (l.length : Int)) → K (-1 : Int)))) (0 : Int))

def M_smithyworld_Texts (l : List (List UInt8)) (most : Int) (long : Int) (K : Bool → Prop) : Prop :=
 (l.length ≤ maxLen →
 ((most < (l.length : Int) → K false) ∧
 (¬ (most < (l.length : Int)) → Lp1 (fun (i : Int) k_1 => ((i < (l.length : Int) → (0 ≤ i ∧ i < (l.length : Nat)) ∧
 ((long < ((l.getD i.toNat []).length : Int) → K false) ∧
 (¬ (long < ((l.getD i.toNat []).length : Int)) → (In .i64 (i + (1 : Int))) ∧
 k_1 (i + (1 : Int))))) ∧
 (¬ (i < (l.length : Int)) → K true))) (0 : Int))))

def M_smithyworld_Number (n : Int) (below : Int) (K : Int → Prop) : Prop :=
 (below ≠ 0) ∧
 (In .i64 ((n.tmod below) + below)) ∧
 (below ≠ 0) ∧
 K (((n.tmod below) + below).tmod below)

def M_smithylaw23_first (K : Bool → Prop) : Prop :=
 M_tool_Do (4 : Int) [] ([([98, 10, 97, 10] : List UInt8)] : List (List UInt8)) (fun (t70 : List UInt8) (t71 : Er) =>
 M_tool_Do (3 : Int) ([([97] : List UInt8), ([98] : List UInt8)] : List (List UInt8)) ([([97, 97] : List UInt8)] : List (List UInt8)) (fun (t130 : List UInt8) (t131 : Er) =>
 K ((((decide (t71 = Er.ok)) && (decide (t131 = Er.ok))) && (decide (t70 = ([97, 10, 98, 10] : List UInt8)))) && (decide (t130 = ([98, 98] : List UInt8))))))

set_option maxHeartbeats 8000000 in
theorem W_smithyref1_table {w : World} {K : (List Int) → Prop} (H : M_smithyref1_table  K) : Fn Tryz.prog 67 ⟨[]⟩ w (fun v w' => w.grownBy w' none ∧ ∃ (r : List Int), ∃ (A_r : Option Addr), ∃ (c_r : Nat), v = .slice A_r r.length c_r ∧ Own vu w' w.heap.size 102 A_r c_r r ∧ K r) := by
  unfold M_smithyref1_table at H
  refine Fn.enter (by kernel_rfl) Tryz.func67 rfl Tryz.ntmps67 rfl ?_
  refine WC.seq ?_
  refine WC.region ?_
  refine WL.y rfl (Yld.pure tab_ok rfl) ?_
  refine WL.nil (WX.then_normal ?_)
  refine WC.seq ?_
  refine WC.region ?_
  refine WL.lit tab_ok rfl rfl rfl (all1c rfl (all1c rfl (all1c rfl (all1c rfl (all1c rfl (all1c rfl (all1c rfl (all1c rfl (all1c rfl (all1c rfl (all1c rfl (all1c rfl (all1c rfl (all1c rfl (all1c rfl (all1c rfl (all1c rfl (all1c rfl (all1c rfl (all1c rfl (all1c rfl (all1c rfl (all1c rfl (all1c rfl (all1c rfl (all1c rfl (all1c rfl (all1c rfl (all1c rfl (all1c rfl (all1c rfl (all1c rfl (all1c rfl (all1c rfl (all1c rfl (all1c rfl (all1c rfl (all1c rfl (all1c rfl (all1c rfl (all1c rfl (all1c rfl (all1c rfl (all1c rfl (all1c rfl (all1c rfl (all1c rfl (all1c rfl (all1c rfl (all1c rfl (all1c rfl (all1c rfl (all1c rfl (all1c rfl (all1c rfl (all1c rfl (all1c rfl (all1c rfl (all1c rfl (all1c rfl (all1c rfl (all1c rfl (all1c rfl (all1c rfl all1n)))))))))))))))))))))))))))))))))))))))))))))))))))))))))))))))) rfl (by omega) (fun g1 w1 hB1 hg1 hl1 => ?_)
  have hO1 : Own vu w1 w.heap.size 102 (some ⟨g1, 0, none⟩) 64 ([(1116352408 : Int), (1899447441 : Int), (3049323471 : Int), (3921009573 : Int), (961987163 : Int), (1508970993 : Int), (2453635748 : Int), (2870763221 : Int), (3624381080 : Int), (310598401 : Int), (607225278 : Int), (1426881987 : Int), (1925078388 : Int), (2162078206 : Int), (2614888103 : Int), (3248222580 : Int), (3835390401 : Int), (4022224774 : Int), (264347078 : Int), (604807628 : Int), (770255983 : Int), (1249150122 : Int), (1555081692 : Int), (1996064986 : Int), (2554220882 : Int), (2821834349 : Int), (2952996808 : Int), (3210313671 : Int), (3336571891 : Int), (3584528711 : Int), (113926993 : Int), (338241895 : Int), (666307205 : Int), (773529912 : Int), (1294757372 : Int), (1396182291 : Int), (1695183700 : Int), (1986661051 : Int), (2177026350 : Int), (2456956037 : Int), (2730485921 : Int), (2820302411 : Int), (3259730800 : Int), (3345764771 : Int), (3516065817 : Int), (3600352804 : Int), (4094571909 : Int), (275423344 : Int), (430227734 : Int), (506948616 : Int), (659060556 : Int), (883997877 : Int), (958139571 : Int), (1322822218 : Int), (1537002063 : Int), (1747873779 : Int), (1955562222 : Int), (2024104815 : Int), (2227730452 : Int), (2361852424 : Int), (2428436474 : Int), (2756734187 : Int), (3204031479 : Int), (3329325298 : Int)] : List Int) := Own.ofBl hB1 (Nat.le_trans (Nat.le_refl _) hl1) (by simp [maxLen]) rfl
  have gr1 := hg1
  refine WL.y rfl (Yld.pure tab_ok rfl) ?_
  refine WL.nil (WX.then_normal ?_)
  refine WC.ret ?_
  exact WX.ret1 rfl rfl ⟨gr1, ([(1116352408 : Int), (1899447441 : Int), (3049323471 : Int), (3921009573 : Int), (961987163 : Int), (1508970993 : Int), (2453635748 : Int), (2870763221 : Int), (3624381080 : Int), (310598401 : Int), (607225278 : Int), (1426881987 : Int), (1925078388 : Int), (2162078206 : Int), (2614888103 : Int), (3248222580 : Int), (3835390401 : Int), (4022224774 : Int), (264347078 : Int), (604807628 : Int), (770255983 : Int), (1249150122 : Int), (1555081692 : Int), (1996064986 : Int), (2554220882 : Int), (2821834349 : Int), (2952996808 : Int), (3210313671 : Int), (3336571891 : Int), (3584528711 : Int), (113926993 : Int), (338241895 : Int), (666307205 : Int), (773529912 : Int), (1294757372 : Int), (1396182291 : Int), (1695183700 : Int), (1986661051 : Int), (2177026350 : Int), (2456956037 : Int), (2730485921 : Int), (2820302411 : Int), (3259730800 : Int), (3345764771 : Int), (3516065817 : Int), (3600352804 : Int), (4094571909 : Int), (275423344 : Int), (430227734 : Int), (506948616 : Int), (659060556 : Int), (883997877 : Int), (958139571 : Int), (1322822218 : Int), (1537002063 : Int), (1747873779 : Int), (1955562222 : Int), (2024104815 : Int), (2227730452 : Int), (2361852424 : Int), (2428436474 : Int), (2756734187 : Int), (3204031479 : Int), (3329325298 : Int)] : List Int), (some ⟨g1, 0, none⟩), 64, rfl, hO1, H⟩

set_option maxHeartbeats 8000000 in
theorem W_smithyref1_turn {w : World} {x : Int} {n : Int} {K : Int → Prop} (H : M_smithyref1_turn x n K) : Fn Tryz.prog 68 ⟨[.int .u32 x, .int .u64 n]⟩ w (fun v w' => w = w' ∧ ∃ (r : Int), v = .int .u32 r ∧ K r) := by
  unfold M_smithyref1_turn at H
  refine Fn.enter (by kernel_rfl) Tryz.func68 rfl Tryz.ntmps68 rfl ?_
  refine WC.seq ?_
  refine WC.region ?_
  refine WL.y rfl (Yld.pure tab_ok rfl) ?_
  refine WL.nil (WX.then_normal ?_)
  refine WC.seq ?_
  refine WC.region ?_
  refine WL.y rfl (Yld.pure tab_ok rfl) ?_
  refine WL.y rfl (Yld.pure tab_ok rfl) ?_
  obtain ⟨h1, H⟩ := H
  refine WL.y rfl (Yld.shr rfl rfl h1) ?_
  refine WL.y rfl (Yld.pure tab_ok rfl) ?_
  refine WL.y rfl (Yld.pure tab_ok rfl) ?_
  refine WL.y rfl (Yld.pure tab_ok rfl) ?_
  obtain ⟨h2, H⟩ := H
  refine WL.y rfl (Yld.shl rfl rfl h2) ?_
  refine WL.y rfl (Yld.pure tab_ok rfl) ?_
  refine WL.y rfl (Yld.pure tab_ok rfl) ?_
  refine WL.nil (WX.then_normal ?_)
  refine WC.ret ?_
  exact WX.ret1 rfl rfl ⟨rfl, bits .or .u32 (shrV .u32 x n.toNat) (shlV .u32 x (IntKind.wrap .u64 ((32 : Int) - n)).toNat), rfl, H⟩

set_option maxHeartbeats 8000000 in
theorem W_smithyref1_Sum {w : World} {s : List UInt8} {K : (List UInt8) → Prop} (H : M_smithyref1_Sum s K) : Fn Tryz.prog 46 ⟨[vs s]⟩ w (fun v w' => w.grownBy w' none ∧ ∃ (r : List UInt8), v = .agg ⟨a32 r⟩ ∧ K r) := by
  unfold M_smithyref1_Sum at H
  refine Fn.enter (by kernel_rfl) Tryz.func46 rfl Tryz.ntmps46 rfl ?_
  refine WC.seq ?_
  refine WC.region ?_
  refine WL.alloc rfl zero59 (fun g1 w1 hB1 hg1 hl1 => ?_)
  rw [a32_zero] at hB1
  have gr1 := hg1
  refine WL.nil (WX.then_normal ?_)
  refine WC.seq ?_
  refine WC.region ?_
  refine WL.call rfl rfl (W_smithyref1_table H) ?_
  rintro _ w2 ⟨hg2, k, A_k, c_k, rfl, hk, H⟩
  have hb1 := hk.ge'
  have k1 := hk.base (fun g hg => Nat.le_trans (size_le gr1) (hb1 g hg))
  have gr2 := gr_trans gr1 hg2
  have k2 := hB1.g0 hg2
  refine WL.y rfl (Yld.pure tab_ok rfl) ?_
  refine WL.nil (WX.then_normal ?_)
  refine WC.seq ?_
  refine WC.region ?_
  refine WL.lit tab_ok rfl rfl rfl (all1c rfl (all1c rfl (all1c rfl (all1c rfl (all1c rfl (all1c rfl (all1c rfl (all1c rfl all1n)))))))) rfl (by omega) (fun g2 w3 hB2 hg3 hl2 => ?_)
  have hO1 : Own vu w3 w.heap.size 102 (some ⟨g2, 0, none⟩) 8 ([(1779033703 : Int), (3144134277 : Int), (1013904242 : Int), (2773480762 : Int), (1359893119 : Int), (2600822924 : Int), (528734635 : Int), (1541459225 : Int)] : List Int) := Own.ofBl hB2 (Nat.le_trans (size_le gr2) hl2) (by simp [maxLen]) rfl
  have gr3 := gr_trans gr2 hg3
  have k3 := k2.g0 hg3
  have k4 := k1.grown hg3
  refine WL.y rfl (Yld.pure tab_ok rfl) ?_
  refine WL.nil (WX.then_normal ?_)
  refine WC.seq ?_
  refine WC.region ?_
  refine WL.y rfl (Yld.pure tab_ok rfl) ?_
  refine WL.y rfl (Yld.pure tab_ok rfl) ?_
  obtain ⟨h1, H⟩ := H
  refine WL.y rfl (Yld.add rfl rfl h1) ?_
  obtain ⟨h2, H⟩ := H
  refine WL.makeCI (f := vb) (B := w.heap.size) tab_ok rfl rfl rfl rfl h2.1 h2.2.1 h2.2.2 (size_le gr3) (fun g3 w4 hO2 hg4 hl3 => ?_)
  have gr4 := gr_trans gr3 hg4
  have k5 := k3.g0 hg4
  have k6 := k4.grown hg4
  have k7 := hO1.grown hg4
  refine WL.y rfl (Yld.pure tab_ok rfl) ?_
  obtain ⟨h3, H⟩ := H
  refine WL.appendS tab_ok rfl rfl rfl hO2 rfl rfl rfl h3 (applen h3) (size_le gr4) (fun A_m c_m w5 hO3 hg5 hk1 => ?_)
  have gr5 := gr_mod gr4 hg5 hO2.ge'
  have k8 := k5.go hg5 (Dj.new k3.lt' (Ge.box hl3))
  have k9 := k6.go hg5 (Dj.new k4.lt' (Ge.box hl3))
  have k10 := k7.go hg5 (Dj.new hO1.lt' (Ge.box hl3))
  refine WL.y rfl (Yld.pure tab_ok rfl) ?_
  refine WL.nil (WX.then_normal ?_)
  refine WC.seq ?_
  refine WC.region ?_
  refine WL.y rfl (Yld.pure tab_ok rfl) ?_
  refine WL.lit tab_ok rfl rfl rfl (all1c rfl all1n) rfl (by omega) (fun g4 w6 hB3 hg6 hl4 => ?_)
  have hO4 : Own vb w6 w.heap.size 5 (some ⟨g4, 0, none⟩) 1 ([128] : List UInt8) := Own.ofBl hB3 (Nat.le_trans (size_le gr5) hl4) (by simp [maxLen]) rfl
  have gr6 := gr_trans gr5 hg6
  have k11 := k8.g0 hg6
  have k12 := k9.grown hg6
  have k13 := k10.grown hg6
  have k14 := hO3.grown hg6
  obtain ⟨h4, H⟩ := H
  refine WL.append tab_ok rfl rfl One.b k14 rfl rfl hO4.rd rfl rfl h4 (applen h4) (size_le gr6) (fun A_m2 c_m2 w7 hO5 hg7 hk2 => ?_)
  have gr7 := gr_mod gr6 hg7 k14.ge'
  have k15 := k11.go hg7 ((Dj.app (Dj.new k3.lt' (Ge.box hl3)).symm k5.lt' hk1).symm)
  have k16 := k12.go hg7 ((Dj.app (Dj.new k4.lt' (Ge.box hl3)).symm k6.lt' hk1).symm)
  have k17 := k13.go hg7 ((Dj.app (Dj.new hO1.lt' (Ge.box hl3)).symm k7.lt' hk1).symm)
  refine WL.y rfl (Yld.pure tab_ok rfl) ?_
  refine WL.nil (WX.then_normal ?_)
  refine WC.seq ?_
  refine WC.block ?_
  obtain ⟨I1, mu1, h0_1, HR1⟩ := H
  refine WC.loopF (fun n' L' w' => ∃ (m : List UInt8), ∃ (A_m3 : Option Addr), ∃ (c_m3 : Nat), ∃ (n_m : Nat), n' = mu1 m ∧ L' = [(0, vs s), (2, .pointer (some ⟨g1, 0, none⟩)), (3, .slice A_k k.length c_k), (4, .slice (some ⟨g2, 0, none⟩) 8 8), (5, .slice A_m3 n_m c_m3)] ∧ I1 m ∧ n_m = m.length ∧ w.grownBy w' none ∧ Bl w' g1 59 (a32 (List.replicate 32 0 : List UInt8)) ∧ Own vu w' w.heap.size 102 A_k c_k k ∧ Own vu w' w.heap.size 102 (some ⟨g2, 0, none⟩) 8 ([(1779033703 : Int), (3144134277 : Int), (1013904242 : Int), (2773480762 : Int), (1359893119 : Int), (2600822924 : Int), (528734635 : Int), (1541459225 : Int)] : List Int) ∧ Own vb w' w.heap.size 5 A_m3 c_m3 m ∧ Dj (some g1) (blk A_k) ∧ Dj (some g1) (blk (some ⟨g2, 0, none⟩)) ∧ Dj (some g1) (blk A_m3) ∧ Dj (blk A_k) (blk (some ⟨g2, 0, none⟩)) ∧ Dj (blk A_k) (blk A_m3) ∧ Dj (blk (some ⟨g2, 0, none⟩)) (blk A_m3)) _ _ ⟨(([] : List UInt8) ++ s) ++ ([128] : List UInt8), A_m2, c_m2, ((([] : List UInt8) ++ s) ++ ([128] : List UInt8)).length, rfl, rfl, h0_1, rfl, gr7, k15, k16, k17, hO5, (Dj.new hB1.lt' hb1), (Dj.new k2.lt' (Ge.box hl2)), (Dj.app (Dj.app (Dj.new k3.lt' (Ge.box hl3)).symm k5.lt' hk1) k11.lt' hk2).symm, (Dj.new k1.lt' (Ge.box hl2)), (Dj.app (Dj.app (Dj.new k4.lt' (Ge.box hl3)).symm k6.lt' hk1) k12.lt' hk2).symm, (Dj.app (Dj.app (Dj.new hO1.lt' (Ge.box hl3)).symm k7.lt' hk1) k13.lt' hk2).symm⟩ (by repeat (first | exact Sub.nil | refine Sub.cons rfl ?_)) ?_
  clear h0_1
  rintro _ _ w8 ⟨m, A_m3, c_m3, n_m, rfl, rfl, hI1, rfl, gr8, k18, k19, k20, k21, dj1, dj2, dj3, dj4, dj5, dj6⟩
  have H := HR1 m hI1
  refine WC.seq ?_
  refine WC.seq ?_
  refine WC.region ?_
  refine WL.y rfl (Yld.pure tab_ok rfl) ?_
  refine WL.y rfl (Yld.pure tab_ok rfl) ?_
  obtain ⟨h5, H⟩ := H
  refine WL.y rfl (Yld.rem rfl rfl h5.1 h5.2) ?_
  refine WL.y rfl (Yld.pure tab_ok rfl) ?_
  refine WL.nil (WX.then_normal ?_)
  refine WC.cond rfl (fun b1 => ?_) (fun b1 => ?_)
  · replace H := H.1 (nd_true b1)
    refine WC.skip (WX.then_normal ?_)
    refine WC.block ?_
    refine WC.region ?_
    refine WL.y rfl (Yld.pure tab_ok rfl) ?_
    refine WL.lit tab_ok rfl rfl rfl (all1c rfl all1n) rfl (by omega) (fun g5 w9 hB4 hg8 hl5 => ?_)
    have hO6 : Own vb w9 w.heap.size 5 (some ⟨g5, 0, none⟩) 1 ([0] : List UInt8) := Own.ofBl hB4 (Nat.le_trans (size_le gr8) hl5) (by simp [maxLen]) rfl
    have gr9 := gr_trans gr8 hg8
    have k22 := k18.g0 hg8
    have k23 := k19.grown hg8
    have k24 := k20.grown hg8
    have k25 := k21.grown hg8
    obtain ⟨h6, H⟩ := H
    refine WL.append tab_ok rfl rfl One.b k25 rfl rfl hO6.rd rfl rfl h6 (applen h6) (size_le gr9) (fun A_m4 c_m4 w10 hO7 hg9 hk3 => ?_)
    have gr10 := gr_mod gr9 hg9 k25.ge'
    have k26 := k22.go hg9 dj3
    have k27 := k23.go hg9 dj5
    have k28 := k24.go hg9 dj6
    refine WL.y rfl (Yld.pure tab_ok rfl) ?_
    refine WL.nil (WX.block_normal ?_)
    exact WX.roundF _ ⟨m ++ ([0] : List UInt8), A_m4, c_m4, (m ++ ([0] : List UInt8)).length, rfl, rfl, H.1, rfl, gr10, k26, k27, k28, hO7, dj1, dj2, (Dj.app dj3.symm k22.lt' hk3).symm, dj4, (Dj.app dj5.symm k23.lt' hk3).symm, (Dj.app dj6.symm k24.lt' hk3).symm⟩ (by repeat (first | exact Sub.nil | refine Sub.cons rfl ?_)) H.2
  · replace H := H.2 (nd_false b1)
    refine WC.exit (WX.then_exit (WX.then_exit (WX.block_same (WX.then_normal ?_))))
    refine WC.seq ?_
    refine WC.region ?_
    refine WL.y rfl (Yld.pure tab_ok rfl) ?_
    refine WL.y rfl (Yld.pure tab_ok rfl) ?_
    refine WL.y rfl (Yld.pure tab_ok rfl) ?_
    refine WL.y rfl (Yld.pure tab_ok rfl) ?_
    refine WL.y rfl (Yld.pure tab_ok rfl) ?_
    refine WL.nil (WX.then_normal ?_)
    refine WC.seq ?_
    refine WC.seq ?_
    refine WC.region ?_
    refine WL.y rfl (Yld.pure tab_ok rfl) ?_
    refine WL.nil (WX.then_normal ?_)
    refine WC.block ?_
    obtain ⟨I2, mu2, h0_2, HR2⟩ := H
    refine WC.loopF (fun n' L' w' => ∃ (m2 : List UInt8), ∃ (A_m5 : Option Addr), ∃ (c_m5 : Nat), ∃ (n_m2 : Nat), ∃ (i : Int), n' = mu2 m2 i ∧ L' = [(2, .pointer (some ⟨g1, 0, none⟩)), (3, .slice A_k k.length c_k), (4, .slice (some ⟨g2, 0, none⟩) 8 8), (5, .slice A_m5 n_m2 c_m5), (6, .int .u64 (IntKind.wrap .u64 ((IntKind.wrap .u64 (s.length : Int)) * (8 : Int)))), (7, .int .i64 i)] ∧ I2 m2 i ∧ n_m2 = m2.length ∧ w.grownBy w' none ∧ Bl w' g1 59 (a32 (List.replicate 32 0 : List UInt8)) ∧ Own vu w' w.heap.size 102 A_k c_k k ∧ Own vu w' w.heap.size 102 (some ⟨g2, 0, none⟩) 8 ([(1779033703 : Int), (3144134277 : Int), (1013904242 : Int), (2773480762 : Int), (1359893119 : Int), (2600822924 : Int), (528734635 : Int), (1541459225 : Int)] : List Int) ∧ Own vb w' w.heap.size 5 A_m5 c_m5 m2 ∧ Dj (some g1) (blk A_k) ∧ Dj (some g1) (blk (some ⟨g2, 0, none⟩)) ∧ Dj (some g1) (blk A_m5) ∧ Dj (blk A_k) (blk (some ⟨g2, 0, none⟩)) ∧ Dj (blk A_k) (blk A_m5) ∧ Dj (blk (some ⟨g2, 0, none⟩)) (blk A_m5)) _ _ ⟨m, A_m3, c_m3, m.length, (7 : Int), rfl, rfl, h0_2, rfl, gr8, k18, k19, k20, k21, dj1, dj2, dj3, dj4, dj5, dj6⟩ (by repeat (first | exact Sub.nil | refine Sub.cons rfl ?_)) ?_
    clear h0_2
    rintro _ _ w11 ⟨m2, A_m5, c_m5, n_m2, i, rfl, rfl, hI2, rfl, gr11, k29, k30, k31, k32, dj7, dj8, dj9, dj10, dj11, dj12⟩
    have H := HR2 m2 i hI2
    refine WC.seq ?_
    refine WC.seq ?_
    refine WC.region ?_
    refine WL.y rfl (Yld.pure tab_ok rfl) ?_
    refine WL.y rfl (Yld.pure tab_ok rfl) ?_
    refine WL.nil (WX.then_normal ?_)
    refine WC.cond rfl (fun b2 => ?_) (fun b2 => ?_)
    · replace H := H.1 (of_decide_eq_true b2)
      refine WC.skip (WX.then_normal ?_)
      refine WC.seq ?_
      refine WC.block ?_
      refine WC.region ?_
      refine WL.y rfl (Yld.pure tab_ok rfl) ?_
      refine WL.y rfl (Yld.pure tab_ok rfl) ?_
      refine WL.y rfl (Yld.pure tab_ok rfl) ?_
      obtain ⟨h7, H⟩ := H
      refine WL.y rfl (Yld.mul rfl rfl h7) ?_
      refine WL.y rfl (Yld.pure tab_ok rfl) ?_
      obtain ⟨h8, H⟩ := H
      refine WL.y rfl (Yld.shr rfl rfl h8) ?_
      refine WL.y rfl (Yld.pure tab_ok rfl) ?_
      obtain ⟨h9, H⟩ := H
      refine WL.lit tab_ok rfl rfl rfl (all1c rfl all1n) rfl (by omega) (fun g6 w12 hB5 hg10 hl6 => ?_)
      replace hB5 : Bl w12 g6 5 (([UInt8.ofNat (IntKind.wrap .u8 (shrV .u64 (IntKind.wrap .u64 ((IntKind.wrap .u64 (s.length : Int)) * (8 : Int))) (IntKind.wrap .u64 ((8 : Int) * i)).toNat)).toNat] : List UInt8).map vb) := Bl.cast (lcons (byte_eq' h9) lnil) hB5
      have hO8 : Own vb w12 w.heap.size 5 (some ⟨g6, 0, none⟩) 1 ([UInt8.ofNat (IntKind.wrap .u8 (shrV .u64 (IntKind.wrap .u64 ((IntKind.wrap .u64 (s.length : Int)) * (8 : Int))) (IntKind.wrap .u64 ((8 : Int) * i)).toNat)).toNat] : List UInt8) := Own.ofBl hB5 (Nat.le_trans (size_le gr11) hl6) (by simp [maxLen]) rfl
      have gr12 := gr_trans gr11 hg10
      have k33 := k29.g0 hg10
      have k34 := k30.grown hg10
      have k35 := k31.grown hg10
      have k36 := k32.grown hg10
      obtain ⟨h10, H⟩ := H
      refine WL.append tab_ok rfl rfl One.b k36 rfl rfl hO8.rd rfl rfl h10 (applen h10) (size_le gr12) (fun A_m6 c_m6 w13 hO9 hg11 hk4 => ?_)
      have gr13 := gr_mod gr12 hg11 k36.ge'
      have k37 := k33.go hg11 dj9
      have k38 := k34.go hg11 dj11
      have k39 := k35.go hg11 dj12
      refine WL.y rfl (Yld.pure tab_ok rfl) ?_
      refine WL.nil (WX.block_normal (WX.then_normal ?_))
      refine WC.region ?_
      refine WL.y rfl (Yld.pure tab_ok rfl) ?_
      obtain ⟨h11, H⟩ := H
      refine WL.y rfl (Yld.sub rfl rfl h11) ?_
      refine WL.y rfl (Yld.pure tab_ok rfl) ?_
      refine WL.nil ?_
      exact WX.roundF _ ⟨m2 ++ ([UInt8.ofNat (IntKind.wrap .u8 (shrV .u64 (IntKind.wrap .u64 ((IntKind.wrap .u64 (s.length : Int)) * (8 : Int))) (IntKind.wrap .u64 ((8 : Int) * i)).toNat)).toNat] : List UInt8), A_m6, c_m6, (m2 ++ ([UInt8.ofNat (IntKind.wrap .u8 (shrV .u64 (IntKind.wrap .u64 ((IntKind.wrap .u64 (s.length : Int)) * (8 : Int))) (IntKind.wrap .u64 ((8 : Int) * i)).toNat)).toNat] : List UInt8)).length, i - (1 : Int), rfl, rfl, H.1, rfl, gr13, k37, k38, k39, hO9, dj7, dj8, (Dj.app dj9.symm k33.lt' hk4).symm, dj10, (Dj.app dj11.symm k34.lt' hk4).symm, (Dj.app dj12.symm k35.lt' hk4).symm⟩ (by repeat (first | exact Sub.nil | refine Sub.cons rfl ?_)) H.2
    · replace H := H.2 (of_decide_eq_false b2)
      refine WC.exit (WX.then_exit (WX.then_exit (WX.block_same (WX.then_normal ?_))))
      refine WC.seq ?_
      refine WC.seq ?_
      refine WC.region ?_
      refine WL.y rfl (Yld.pure tab_ok rfl) ?_
      refine WL.nil (WX.then_normal ?_)
      refine WC.block ?_
      obtain ⟨I3, mu3, h0_3, HR3⟩ := H
      refine WC.loopF (fun n' L' w' => ∃ (at_ : Int), ∃ (h : List Int), n' = mu3 at_ h ∧ L' = [(2, .pointer (some ⟨g1, 0, none⟩)), (3, .slice A_k k.length c_k), (4, .slice (some ⟨g2, 0, none⟩) 8 8), (5, .slice A_m5 m2.length c_m5), (8, .int .i64 at_)] ∧ I3 at_ h ∧ 8 = h.length ∧ w.grownBy w' none ∧ Bl w' g1 59 (a32 (List.replicate 32 0 : List UInt8)) ∧ Own vu w' w.heap.size 102 A_k c_k k ∧ Own vu w' w.heap.size 102 (some ⟨g2, 0, none⟩) 8 h ∧ Own vb w' w.heap.size 5 A_m5 c_m5 m2 ∧ Dj (some g1) (blk A_k) ∧ Dj (some g1) (blk (some ⟨g2, 0, none⟩)) ∧ Dj (some g1) (blk A_m5) ∧ Dj (blk A_k) (blk (some ⟨g2, 0, none⟩)) ∧ Dj (blk A_k) (blk A_m5) ∧ Dj (blk (some ⟨g2, 0, none⟩)) (blk A_m5)) _ _ ⟨(0 : Int), ([(1779033703 : Int), (3144134277 : Int), (1013904242 : Int), (2773480762 : Int), (1359893119 : Int), (2600822924 : Int), (528734635 : Int), (1541459225 : Int)] : List Int), rfl, rfl, h0_3, rfl, gr11, k29, k30, k31, k32, dj7, dj8, dj9, dj10, dj11, dj12⟩ (by repeat (first | exact Sub.nil | refine Sub.cons rfl ?_)) ?_
      clear h0_3
      rintro _ _ w14 ⟨at_, h, rfl, rfl, hI3, hn_h, gr14, k40, k41, k42, k43, dj13, dj14, dj15, dj16, dj17, dj18⟩
      have H := HR3 at_ h hI3
      replace H := H hn_h
      refine WC.seq ?_
      refine WC.seq ?_
      refine WC.region ?_
      refine WL.y rfl (Yld.pure tab_ok rfl) ?_
      refine WL.y rfl (Yld.pure tab_ok rfl) ?_
      refine WL.y rfl (Yld.pure tab_ok rfl) ?_
      refine WL.y rfl (Yld.pure tab_ok rfl) ?_
      refine WL.nil (WX.then_normal ?_)
      refine WC.cond rfl (fun b3 => ?_) (fun b3 => ?_)
      · replace H := H.1 (of_decide_eq_true b3)
        refine WC.skip (WX.then_normal ?_)
        refine WC.seq ?_
        refine WC.block ?_
        refine WC.seq ?_
        refine WC.region ?_
        obtain ⟨h12, H⟩ := H
        refine WL.makeZI (f := vu) (z := 0) (B := w.heap.size) tab_ok rfl rfl zero102 rfl rfl h12.1 h12.2.1 h12.2.2 (size_le gr14) (fun g7 w15 hO10 hg12 hl7 => ?_)
        have gr15 := gr_trans gr14 hg12
        have k44 := k40.g0 hg12
        have k45 := k41.grown hg12
        have k46 := k42.grown hg12
        have k47 := k43.grown hg12
        refine WL.y rfl (Yld.pure tab_ok rfl) ?_
        refine WL.nil (WX.then_normal ?_)
        refine WC.seq ?_
        refine WC.seq ?_
        refine WC.region ?_
        refine WL.y rfl (Yld.pure tab_ok rfl) ?_
        refine WL.nil (WX.then_normal ?_)
        refine WC.block ?_
        obtain ⟨I4, mu4, h0_4, HR4⟩ := H
        refine WC.loopF (fun n' L' w' => ∃ (i2 : Int), ∃ (w_ : List Int), n' = mu4 i2 w_ ∧ L' = [(2, .pointer (some ⟨g1, 0, none⟩)), (3, .slice A_k k.length c_k), (4, .slice (some ⟨g2, 0, none⟩) 8 8), (5, .slice A_m5 m2.length c_m5), (8, .int .i64 at_), (9, .slice (some ⟨g7, 0, none⟩) 64 64), (10, .int .i64 i2)] ∧ I4 i2 w_ ∧ 64 = w_.length ∧ w.grownBy w' none ∧ Bl w' g1 59 (a32 (List.replicate 32 0 : List UInt8)) ∧ Own vu w' w.heap.size 102 A_k c_k k ∧ Own vu w' w.heap.size 102 (some ⟨g2, 0, none⟩) 8 h ∧ Own vb w' w.heap.size 5 A_m5 c_m5 m2 ∧ Own vu w' w.heap.size 102 (some ⟨g7, 0, none⟩) 64 w_ ∧ Dj (some g1) (blk A_k) ∧ Dj (some g1) (blk (some ⟨g2, 0, none⟩)) ∧ Dj (some g1) (blk A_m5) ∧ Dj (some g1) (blk (some ⟨g7, 0, none⟩)) ∧ Dj (blk A_k) (blk (some ⟨g2, 0, none⟩)) ∧ Dj (blk A_k) (blk A_m5) ∧ Dj (blk A_k) (blk (some ⟨g7, 0, none⟩)) ∧ Dj (blk (some ⟨g2, 0, none⟩)) (blk A_m5) ∧ Dj (blk (some ⟨g2, 0, none⟩)) (blk (some ⟨g7, 0, none⟩)) ∧ Dj (blk A_m5) (blk (some ⟨g7, 0, none⟩))) _ _ ⟨(0 : Int), (List.replicate 64 0), rfl, rfl, h0_4, (List.length_replicate).symm, gr15, k44, k45, k46, k47, hO10, dj13, dj14, dj15, (Dj.new k40.lt' (Ge.box hl7)), dj16, dj17, (Dj.new k41.lt' (Ge.box hl7)), dj18, (Dj.new k42.lt' (Ge.box hl7)), (Dj.new k43.lt' (Ge.box hl7))⟩ (by repeat (first | exact Sub.nil | refine Sub.cons rfl ?_)) ?_
        clear h0_4
        rintro _ _ w16 ⟨i2, w_, rfl, rfl, hI4, hn_w_, gr16, k48, k49, k50, k51, k52, dj19, dj20, dj21, dj22, dj23, dj24, dj25, dj26, dj27, dj28⟩
        have H := HR4 i2 w_ hI4
        replace H := H hn_w_
        refine WC.seq ?_
        refine WC.seq ?_
        refine WC.region ?_
        refine WL.y rfl (Yld.pure tab_ok rfl) ?_
        refine WL.y rfl (Yld.pure tab_ok rfl) ?_
        refine WL.nil (WX.then_normal ?_)
        refine WC.cond rfl (fun b4 => ?_) (fun b4 => ?_)
        · replace H := H.1 (of_decide_eq_true b4)
          refine WC.skip (WX.then_normal ?_)
          refine WC.seq ?_
          refine WC.block ?_
          refine WC.chainF (fun k => !(Nat.beq k 44)) (LD [8, 18, 29, 40] (fun w' => Rd vb w' A_m5 c_m5 m2)) mixed (by kernel_rfl) (fun k w' h _ => (rd_eqv h k51.rd)) ?_
          refine WJ.y rfl rfl (fun w' hw' => Yld.pure tab_ok rfl) ?_
          refine WJ.y rfl rfl (fun w' hw' => Yld.pure tab_ok rfl) ?_
          refine WJ.y rfl rfl (fun w' hw' => Yld.pure tab_ok rfl) ?_
          refine WJ.y rfl rfl (fun w' hw' => Yld.pure tab_ok rfl) ?_
          refine WJ.y rfl rfl (fun w' hw' => Yld.pure tab_ok rfl) ?_
          obtain ⟨h13, H⟩ := H
          refine WJ.y rfl rfl (fun w' hw' => Yld.mul rfl rfl h13) ?_
          obtain ⟨h14, H⟩ := H
          refine WJ.y rfl rfl (fun w' hw' => Yld.add rfl rfl h14) ?_
          obtain ⟨h15, H⟩ := H
          refine WJ.y rfl rfl (fun w' hw' => Yld.iaddrW tab_ok k51.rd rfl rfl rfl rfl h15.1 h15.2) ?_
          refine WJ.y rfl rfl (fun w' hw' => Yld.iload 0 tab_ok (hw' rfl) rfl rfl (iltN h15 rfl)) ?_
          refine WJ.y rfl rfl (fun w' hw' => Yld.convB tab_ok rfl rfl rfl rfl) ?_
          refine WJ.y rfl rfl (fun w' hw' => Yld.shl rfl rfl (by omega)) ?_
          refine WJ.y rfl rfl (fun w' hw' => Yld.pure tab_ok rfl) ?_
          refine WJ.y rfl rfl (fun w' hw' => Yld.pure tab_ok rfl) ?_
          refine WJ.y rfl rfl (fun w' hw' => Yld.pure tab_ok rfl) ?_
          obtain ⟨h16, H⟩ := H
          refine WJ.y rfl rfl (fun w' hw' => Yld.mul rfl rfl h16) ?_
          obtain ⟨h17, H⟩ := H
          refine WJ.y rfl rfl (fun w' hw' => Yld.add rfl rfl h17) ?_
          obtain ⟨h18, H⟩ := H
          refine WJ.y rfl rfl (fun w' hw' => Yld.add rfl rfl h18) ?_
          obtain ⟨h19, H⟩ := H
          refine WJ.y rfl rfl (fun w' hw' => Yld.iaddrW tab_ok k51.rd rfl rfl rfl rfl h19.1 h19.2) ?_
          refine WJ.y rfl rfl (fun w' hw' => Yld.iload 0 tab_ok (hw' rfl) rfl rfl (iltN h19 rfl)) ?_
          refine WJ.y rfl rfl (fun w' hw' => Yld.convB tab_ok rfl rfl rfl rfl) ?_
          refine WJ.y rfl rfl (fun w' hw' => Yld.shl rfl rfl (by omega)) ?_
          refine WJ.y rfl rfl (fun w' hw' => Yld.pure tab_ok rfl) ?_
          refine WJ.y rfl rfl (fun w' hw' => Yld.pure tab_ok rfl) ?_
          refine WJ.y rfl rfl (fun w' hw' => Yld.pure tab_ok rfl) ?_
          refine WJ.y rfl rfl (fun w' hw' => Yld.pure tab_ok rfl) ?_
          obtain ⟨h20, H⟩ := H
          refine WJ.y rfl rfl (fun w' hw' => Yld.mul rfl rfl h20) ?_
          obtain ⟨h21, H⟩ := H
          refine WJ.y rfl rfl (fun w' hw' => Yld.add rfl rfl h21) ?_
          obtain ⟨h22, H⟩ := H
          refine WJ.y rfl rfl (fun w' hw' => Yld.add rfl rfl h22) ?_
          obtain ⟨h23, H⟩ := H
          refine WJ.y rfl rfl (fun w' hw' => Yld.iaddrW tab_ok k51.rd rfl rfl rfl rfl h23.1 h23.2) ?_
          refine WJ.y rfl rfl (fun w' hw' => Yld.iload 0 tab_ok (hw' rfl) rfl rfl (iltN h23 rfl)) ?_
          refine WJ.y rfl rfl (fun w' hw' => Yld.convB tab_ok rfl rfl rfl rfl) ?_
          refine WJ.y rfl rfl (fun w' hw' => Yld.shl rfl rfl (by omega)) ?_
          refine WJ.y rfl rfl (fun w' hw' => Yld.pure tab_ok rfl) ?_
          refine WJ.y rfl rfl (fun w' hw' => Yld.pure tab_ok rfl) ?_
          refine WJ.y rfl rfl (fun w' hw' => Yld.pure tab_ok rfl) ?_
          refine WJ.y rfl rfl (fun w' hw' => Yld.pure tab_ok rfl) ?_
          obtain ⟨h24, H⟩ := H
          refine WJ.y rfl rfl (fun w' hw' => Yld.mul rfl rfl h24) ?_
          obtain ⟨h25, H⟩ := H
          refine WJ.y rfl rfl (fun w' hw' => Yld.add rfl rfl h25) ?_
          obtain ⟨h26, H⟩ := H
          refine WJ.y rfl rfl (fun w' hw' => Yld.add rfl rfl h26) ?_
          obtain ⟨h27, H⟩ := H
          refine WJ.y rfl rfl (fun w' hw' => Yld.iaddrW tab_ok k51.rd rfl rfl rfl rfl h27.1 h27.2) ?_
          refine WJ.y rfl rfl (fun w' hw' => Yld.iload 0 tab_ok (hw' rfl) rfl rfl (iltN h27 rfl)) ?_
          refine WJ.y rfl rfl (fun w' hw' => Yld.convB tab_ok rfl rfl rfl rfl) ?_
          refine WJ.y rfl rfl (fun w' hw' => Yld.pure tab_ok rfl) ?_
          obtain ⟨h28, H⟩ := H
          refine WJ.y rfl rfl (fun w' hw' => Yld.iaddrW tab_ok k52.rd rfl rfl hn_w_ rfl h28.1 h28.2) ?_
          refine WJ.eff rfl (Ef0.ostore (v := bits .or .u32 (bits .or .u32 (bits .or .u32 (shlV .u32 ((m2.getD ((at_ + ((4 : Int) * i2)).toNat) 0).toNat : Int) 24) (shlV .u32 ((m2.getD (((at_ + ((4 : Int) * i2)) + (1 : Int)).toNat) 0).toNat : Int) 16)) (shlV .u32 ((m2.getD (((at_ + ((4 : Int) * i2)) + (2 : Int)).toNat) 0).toNat : Int) 8)) ((m2.getD (((at_ + ((4 : Int) * i2)) + (3 : Int)).toNat) 0).toNat : Int)) one102 One.u k52 rfl rfl (iltN h28 hn_w_)) (fun w' h => DD.keep (Rd.go k51.rd (gr_eqv h.2 (Eqv.refl _)) (Dn.of dj28))) ?_
          rintro w17 ⟨hO11, hg13⟩
          have gr17 := gr_mod gr16 hg13 k52.ge'
          have k53 := k48.go hg13 dj22
          have k54 := k49.go hg13 dj25
          have k55 := k50.go hg13 dj27
          have k56 := k51.go hg13 dj28
          refine WJ.nil (WX.block_normal (WX.then_normal ?_))
          refine WC.region ?_
          refine WL.y rfl (Yld.pure tab_ok rfl) ?_
          obtain ⟨h29, H⟩ := H
          refine WL.y rfl (Yld.add rfl rfl h29) ?_
          refine WL.y rfl (Yld.pure tab_ok rfl) ?_
          refine WL.nil ?_
          exact WX.roundF _ ⟨i2 + (1 : Int), w_.set i2.toNat (bits .or .u32 (bits .or .u32 (bits .or .u32 (shlV .u32 ((m2.getD ((at_ + ((4 : Int) * i2)).toNat) 0).toNat : Int) 24) (shlV .u32 ((m2.getD (((at_ + ((4 : Int) * i2)) + (1 : Int)).toNat) 0).toNat : Int) 16)) (shlV .u32 ((m2.getD (((at_ + ((4 : Int) * i2)) + (2 : Int)).toNat) 0).toNat : Int) 8)) ((m2.getD (((at_ + ((4 : Int) * i2)) + (3 : Int)).toNat) 0).toNat : Int)), rfl, rfl, H.1, (hn_w_.trans List.length_set.symm), gr17, k53, k54, k55, k56, hO11, dj19, dj20, dj21, dj22, dj23, dj24, dj25, dj26, dj27, dj28⟩ (by repeat (first | exact Sub.nil | refine Sub.cons rfl ?_)) H.2
        · replace H := H.2 (of_decide_eq_false b4)
          refine WC.exit (WX.then_exit (WX.then_exit (WX.block_same (WX.then_normal ?_))))
          refine WC.seq ?_
          refine WC.seq ?_
          refine WC.region ?_
          refine WL.y rfl (Yld.pure tab_ok rfl) ?_
          refine WL.nil (WX.then_normal ?_)
          refine WC.block ?_
          obtain ⟨I5, mu5, h0_5, HR5⟩ := H
          refine WC.loopF (fun n' L' w' => ∃ (i3 : Int), ∃ (w_2 : List Int), n' = mu5 i3 w_2 ∧ L' = [(2, .pointer (some ⟨g1, 0, none⟩)), (3, .slice A_k k.length c_k), (4, .slice (some ⟨g2, 0, none⟩) 8 8), (5, .slice A_m5 m2.length c_m5), (8, .int .i64 at_), (9, .slice (some ⟨g7, 0, none⟩) 64 64), (11, .int .i64 i3)] ∧ I5 i3 w_2 ∧ 64 = w_2.length ∧ w.grownBy w' none ∧ Bl w' g1 59 (a32 (List.replicate 32 0 : List UInt8)) ∧ Own vu w' w.heap.size 102 A_k c_k k ∧ Own vu w' w.heap.size 102 (some ⟨g2, 0, none⟩) 8 h ∧ Own vb w' w.heap.size 5 A_m5 c_m5 m2 ∧ Own vu w' w.heap.size 102 (some ⟨g7, 0, none⟩) 64 w_2 ∧ Dj (some g1) (blk A_k) ∧ Dj (some g1) (blk (some ⟨g2, 0, none⟩)) ∧ Dj (some g1) (blk A_m5) ∧ Dj (some g1) (blk (some ⟨g7, 0, none⟩)) ∧ Dj (blk A_k) (blk (some ⟨g2, 0, none⟩)) ∧ Dj (blk A_k) (blk A_m5) ∧ Dj (blk A_k) (blk (some ⟨g7, 0, none⟩)) ∧ Dj (blk (some ⟨g2, 0, none⟩)) (blk A_m5) ∧ Dj (blk (some ⟨g2, 0, none⟩)) (blk (some ⟨g7, 0, none⟩)) ∧ Dj (blk A_m5) (blk (some ⟨g7, 0, none⟩))) _ _ ⟨(16 : Int), w_, rfl, rfl, h0_5, hn_w_, gr16, k48, k49, k50, k51, k52, dj19, dj20, dj21, dj22, dj23, dj24, dj25, dj26, dj27, dj28⟩ (by repeat (first | exact Sub.nil | refine Sub.cons rfl ?_)) ?_
          clear h0_5
          rintro _ _ w18 ⟨i3, w_2, rfl, rfl, hI5, hn_w_2, gr18, k57, k58, k59, k60, k61, dj29, dj30, dj31, dj32, dj33, dj34, dj35, dj36, dj37, dj38⟩
          have H := HR5 i3 w_2 hI5
          replace H := H hn_w_2
          refine WC.seq ?_
          refine WC.seq ?_
          refine WC.region ?_
          refine WL.y rfl (Yld.pure tab_ok rfl) ?_
          refine WL.y rfl (Yld.pure tab_ok rfl) ?_
          refine WL.nil (WX.then_normal ?_)
          refine WC.cond rfl (fun b5 => ?_) (fun b5 => ?_)
          · replace H := H.1 (of_decide_eq_true b5)
            refine WC.skip (WX.then_normal ?_)
            refine WC.seq ?_
            refine WC.block ?_
            refine WC.seq ?_
            refine WC.chainF (fun k => !(Nat.beq k 5 || Nat.beq k 11)) (LD [4, 10, 17] (fun w' => Rd vu w' (some ⟨g7, 0, none⟩) 64 w_2)) mixed (by kernel_rfl) (fun k w' h _ => (rd_eqv h k61.rd)) ?_
            refine WJ.y rfl rfl (fun w' hw' => Yld.pure tab_ok rfl) ?_
            refine WJ.y rfl rfl (fun w' hw' => Yld.pure tab_ok rfl) ?_
            obtain ⟨h30, H⟩ := H
            refine WJ.y rfl rfl (fun w' hw' => Yld.sub rfl rfl h30) ?_
            obtain ⟨h31, H⟩ := H
            refine WJ.y rfl rfl (fun w' hw' => Yld.iaddrW tab_ok k61.rd rfl rfl hn_w_2 rfl h31.1 h31.2) ?_
            refine WJ.y rfl rfl (fun w' hw' => Yld.iload 0 tab_ok (hw' rfl) rfl rfl (iltN h31 hn_w_2)) ?_
            refine WJ.call rfl (wants_none) rfl rfl (W_smithyref1_turn H) (fun v w' h w2 e => DD.keep (rd_eqv (eqvL h.1 e) k61.rd)) ?_
            rintro _ _ ⟨rfl, t124, rfl, H⟩
            refine WJ.y rfl rfl (fun w' hw' => Yld.pure tab_ok rfl) ?_
            refine WJ.y rfl rfl (fun w' hw' => Yld.pure tab_ok rfl) ?_
            obtain ⟨h32, H⟩ := H
            refine WJ.y rfl rfl (fun w' hw' => Yld.sub rfl rfl h32) ?_
            obtain ⟨h33, H⟩ := H
            refine WJ.y rfl rfl (fun w' hw' => Yld.iaddrW tab_ok k61.rd rfl rfl hn_w_2 rfl h33.1 h33.2) ?_
            refine WJ.y rfl rfl (fun w' hw' => Yld.iload 0 tab_ok (hw' rfl) rfl rfl (iltN h33 hn_w_2)) ?_
            refine WJ.call rfl (wants_none) rfl rfl (W_smithyref1_turn H) (fun v w' h w2 e => DD.keep (rd_eqv (eqvL h.1 e) k61.rd)) ?_
            rintro _ _ ⟨rfl, t130, rfl, H⟩
            refine WJ.y rfl rfl (fun w' hw' => Yld.pure tab_ok rfl) ?_
            refine WJ.y rfl rfl (fun w' hw' => Yld.pure tab_ok rfl) ?_
            refine WJ.y rfl rfl (fun w' hw' => Yld.pure tab_ok rfl) ?_
            obtain ⟨h34, H⟩ := H
            refine WJ.y rfl rfl (fun w' hw' => Yld.sub rfl rfl h34) ?_
            obtain ⟨h35, H⟩ := H
            refine WJ.y rfl rfl (fun w' hw' => Yld.iaddrW tab_ok k61.rd rfl rfl hn_w_2 rfl h35.1 h35.2) ?_
            refine WJ.y rfl rfl (fun w' hw' => Yld.iload 0 tab_ok (hw' rfl) rfl rfl (iltN h35 hn_w_2)) ?_
            refine WJ.y rfl rfl (fun w' hw' => Yld.shr rfl rfl (by omega)) ?_
            refine WJ.y rfl rfl (fun w' hw' => Yld.pure tab_ok rfl) ?_
            refine WJ.y rfl rfl (fun w' hw' => Yld.pure tab_ok rfl) ?_
            refine WJ.nil (WX.then_normal ?_)
            refine WC.seq ?_
            refine WC.chainF (fun k => !(Nat.beq k 5 || Nat.beq k 11)) (LD [4, 10, 17] (fun w' => Rd vu w' (some ⟨g7, 0, none⟩) 64 w_2)) mixed (by kernel_rfl) (fun k w' h _ => (rd_eqv h k61.rd)) ?_
            refine WJ.y rfl rfl (fun w' hw' => Yld.pure tab_ok rfl) ?_
            refine WJ.y rfl rfl (fun w' hw' => Yld.pure tab_ok rfl) ?_
            obtain ⟨h36, H⟩ := H
            refine WJ.y rfl rfl (fun w' hw' => Yld.sub rfl rfl h36) ?_
            obtain ⟨h37, H⟩ := H
            refine WJ.y rfl rfl (fun w' hw' => Yld.iaddrW tab_ok k61.rd rfl rfl hn_w_2 rfl h37.1 h37.2) ?_
            refine WJ.y rfl rfl (fun w' hw' => Yld.iload 0 tab_ok (hw' rfl) rfl rfl (iltN h37 hn_w_2)) ?_
            refine WJ.call rfl (wants_none) rfl rfl (W_smithyref1_turn H) (fun v w' h w2 e => DD.keep (rd_eqv (eqvL h.1 e) k61.rd)) ?_
            rintro _ _ ⟨rfl, t144, rfl, H⟩
            refine WJ.y rfl rfl (fun w' hw' => Yld.pure tab_ok rfl) ?_
            refine WJ.y rfl rfl (fun w' hw' => Yld.pure tab_ok rfl) ?_
            obtain ⟨h38, H⟩ := H
            refine WJ.y rfl rfl (fun w' hw' => Yld.sub rfl rfl h38) ?_
            obtain ⟨h39, H⟩ := H
            refine WJ.y rfl rfl (fun w' hw' => Yld.iaddrW tab_ok k61.rd rfl rfl hn_w_2 rfl h39.1 h39.2) ?_
            refine WJ.y rfl rfl (fun w' hw' => Yld.iload 0 tab_ok (hw' rfl) rfl rfl (iltN h39 hn_w_2)) ?_
            refine WJ.call rfl (wants_none) rfl rfl (W_smithyref1_turn H) (fun v w' h w2 e => DD.keep (rd_eqv (eqvL h.1 e) k61.rd)) ?_
            rintro _ _ ⟨rfl, t150, rfl, H⟩
            refine WJ.y rfl rfl (fun w' hw' => Yld.pure tab_ok rfl) ?_
            refine WJ.y rfl rfl (fun w' hw' => Yld.pure tab_ok rfl) ?_
            refine WJ.y rfl rfl (fun w' hw' => Yld.pure tab_ok rfl) ?_
            obtain ⟨h40, H⟩ := H
            refine WJ.y rfl rfl (fun w' hw' => Yld.sub rfl rfl h40) ?_
            obtain ⟨h41, H⟩ := H
            refine WJ.y rfl rfl (fun w' hw' => Yld.iaddrW tab_ok k61.rd rfl rfl hn_w_2 rfl h41.1 h41.2) ?_
            refine WJ.y rfl rfl (fun w' hw' => Yld.iload 0 tab_ok (hw' rfl) rfl rfl (iltN h41 hn_w_2)) ?_
            refine WJ.y rfl rfl (fun w' hw' => Yld.shr rfl rfl (by omega)) ?_
            refine WJ.y rfl rfl (fun w' hw' => Yld.pure tab_ok rfl) ?_
            refine WJ.y rfl rfl (fun w' hw' => Yld.pure tab_ok rfl) ?_
            refine WJ.nil (WX.then_normal ?_)
            refine WC.chainF (fun k => !(Nat.beq k 18)) (LD [6, 13] (fun w' => Rd vu w' (some ⟨g7, 0, none⟩) 64 w_2)) mixed (by kernel_rfl) (fun k w' h _ => (rd_eqv h k61.rd)) ?_
            refine WJ.y rfl rfl (fun w' hw' => Yld.pure tab_ok rfl) ?_
            refine WJ.y rfl rfl (fun w' hw' => Yld.pure tab_ok rfl) ?_
            refine WJ.y rfl rfl (fun w' hw' => Yld.pure tab_ok rfl) ?_
            refine WJ.y rfl rfl (fun w' hw' => Yld.pure tab_ok rfl) ?_
            obtain ⟨h42, H⟩ := H
            refine WJ.y rfl rfl (fun w' hw' => Yld.sub rfl rfl h42) ?_
            obtain ⟨h43, H⟩ := H
            refine WJ.y rfl rfl (fun w' hw' => Yld.iaddrW tab_ok k61.rd rfl rfl hn_w_2 rfl h43.1 h43.2) ?_
            refine WJ.y rfl rfl (fun w' hw' => Yld.iload 0 tab_ok (hw' rfl) rfl rfl (iltN h43 hn_w_2)) ?_
            refine WJ.y rfl rfl (fun w' hw' => Yld.pure tab_ok rfl) ?_
            refine WJ.y rfl rfl (fun w' hw' => Yld.pure tab_ok rfl) ?_
            refine WJ.y rfl rfl (fun w' hw' => Yld.pure tab_ok rfl) ?_
            refine WJ.y rfl rfl (fun w' hw' => Yld.pure tab_ok rfl) ?_
            obtain ⟨h44, H⟩ := H
            refine WJ.y rfl rfl (fun w' hw' => Yld.sub rfl rfl h44) ?_
            obtain ⟨h45, H⟩ := H
            refine WJ.y rfl rfl (fun w' hw' => Yld.iaddrW tab_ok k61.rd rfl rfl hn_w_2 rfl h45.1 h45.2) ?_
            refine WJ.y rfl rfl (fun w' hw' => Yld.iload 0 tab_ok (hw' rfl) rfl rfl (iltN h45 hn_w_2)) ?_
            refine WJ.y rfl rfl (fun w' hw' => Yld.pure tab_ok rfl) ?_
            refine WJ.y rfl rfl (fun w' hw' => Yld.pure tab_ok rfl) ?_
            refine WJ.y rfl rfl (fun w' hw' => Yld.pure tab_ok rfl) ?_
            obtain ⟨h46, H⟩ := H
            refine WJ.y rfl rfl (fun w' hw' => Yld.iaddrW tab_ok k61.rd rfl rfl hn_w_2 rfl h46.1 h46.2) ?_
            refine WJ.eff rfl (Ef0.ostore (v := IntKind.wrap .u32 ((IntKind.wrap .u32 ((IntKind.wrap .u32 ((w_2.getD ((i3 - (16 : Int)).toNat) 0) + (bits .xor .u32 (bits .xor .u32 t124 t130) (shrV .u32 (w_2.getD ((i3 - (15 : Int)).toNat) 0) 3)))) + (w_2.getD ((i3 - (7 : Int)).toNat) 0))) + (bits .xor .u32 (bits .xor .u32 t144 t150) (shrV .u32 (w_2.getD ((i3 - (2 : Int)).toNat) 0) 10)))) one102 One.u k61 rfl rfl (iltN h46 hn_w_2)) (fun w' h => DD.past (by kernel_rfl)) ?_
            rintro w19 ⟨hO12, hg14⟩
            have gr19 := gr_mod gr18 hg14 k61.ge'
            have k62 := k57.go hg14 dj32
            have k63 := k58.go hg14 dj35
            have k64 := k59.go hg14 dj37
            have k65 := k60.go hg14 dj38
            refine WJ.nil (WX.block_normal (WX.then_normal ?_))
            refine WC.region ?_
            refine WL.y rfl (Yld.pure tab_ok rfl) ?_
            obtain ⟨h47, H⟩ := H
            refine WL.y rfl (Yld.add rfl rfl h47) ?_
            refine WL.y rfl (Yld.pure tab_ok rfl) ?_
            refine WL.nil ?_
            exact WX.roundF _ ⟨i3 + (1 : Int), w_2.set i3.toNat (IntKind.wrap .u32 ((IntKind.wrap .u32 ((IntKind.wrap .u32 ((w_2.getD ((i3 - (16 : Int)).toNat) 0) + (bits .xor .u32 (bits .xor .u32 t124 t130) (shrV .u32 (w_2.getD ((i3 - (15 : Int)).toNat) 0) 3)))) + (w_2.getD ((i3 - (7 : Int)).toNat) 0))) + (bits .xor .u32 (bits .xor .u32 t144 t150) (shrV .u32 (w_2.getD ((i3 - (2 : Int)).toNat) 0) 10)))), rfl, rfl, H.1, (hn_w_2.trans List.length_set.symm), gr19, k62, k63, k64, k65, hO12, dj29, dj30, dj31, dj32, dj33, dj34, dj35, dj36, dj37, dj38⟩ (by repeat (first | exact Sub.nil | refine Sub.cons rfl ?_)) H.2
          · replace H := H.2 (of_decide_eq_false b5)
            refine WC.exit (WX.then_exit (WX.then_exit (WX.block_same (WX.then_normal ?_))))
            refine WC.seq ?_
            refine WC.region ?_
            obtain ⟨h48, H⟩ := H
            refine WL.makeCI (f := vu) (B := w.heap.size) tab_ok rfl rfl rfl rfl h48.1 h48.2.1 h48.2.2 (size_le gr18) (fun g8 w20 hO13 hg15 hl8 => ?_)
            have gr20 := gr_trans gr18 hg15
            have k66 := k57.g0 hg15
            have k67 := k58.grown hg15
            have k68 := k59.grown hg15
            have k69 := k60.grown hg15
            have k70 := k61.grown hg15
            refine WL.y rfl (Yld.pure tab_ok rfl) ?_
            obtain ⟨h49, H⟩ := H
            refine WL.append tab_ok rfl rfl One.u hO13 rfl rfl k68.rd rfl hn_h h49 (applen h49) (size_le gr20) (fun A_v c_v w21 hO14 hg16 hk5 => ?_)
            have gr21 := gr_mod gr20 hg16 hO13.ge'
            have k71 := k66.go hg16 (Dj.new k57.lt' (Ge.box hl8))
            have k72 := k67.go hg16 (Dj.new k58.lt' (Ge.box hl8))
            have k73 := k68.go hg16 (Dj.new k59.lt' (Ge.box hl8))
            have k74 := k69.go hg16 (Dj.new k60.lt' (Ge.box hl8))
            have k75 := k70.go hg16 (Dj.new k61.lt' (Ge.box hl8))
            refine WL.y rfl (Yld.pure tab_ok rfl) ?_
            refine WL.nil (WX.then_normal ?_)
            refine WC.seq ?_
            refine WC.seq ?_
            refine WC.region ?_
            refine WL.y rfl (Yld.pure tab_ok rfl) ?_
            refine WL.nil (WX.then_normal ?_)
            refine WC.block ?_
            obtain ⟨I6, mu6, h0_6, HR6⟩ := H
            refine WC.loopF (fun n' L' w' => ∃ (v : List Int), ∃ (A_v2 : Option Addr), ∃ (c_v2 : Nat), ∃ (n_v : Nat), ∃ (i4 : Int), n' = mu6 v i4 ∧ L' = [(2, .pointer (some ⟨g1, 0, none⟩)), (3, .slice A_k k.length c_k), (4, .slice (some ⟨g2, 0, none⟩) 8 8), (5, .slice A_m5 m2.length c_m5), (8, .int .i64 at_), (9, .slice (some ⟨g7, 0, none⟩) 64 64), (14, .slice A_v2 n_v c_v2), (15, .int .i64 i4)] ∧ I6 v i4 ∧ n_v = v.length ∧ w.grownBy w' none ∧ Bl w' g1 59 (a32 (List.replicate 32 0 : List UInt8)) ∧ Own vu w' w.heap.size 102 A_k c_k k ∧ Own vu w' w.heap.size 102 (some ⟨g2, 0, none⟩) 8 h ∧ Own vb w' w.heap.size 5 A_m5 c_m5 m2 ∧ Own vu w' w.heap.size 102 (some ⟨g7, 0, none⟩) 64 w_2 ∧ Own vu w' w.heap.size 102 A_v2 c_v2 v ∧ Dj (some g1) (blk A_k) ∧ Dj (some g1) (blk (some ⟨g2, 0, none⟩)) ∧ Dj (some g1) (blk A_m5) ∧ Dj (some g1) (blk (some ⟨g7, 0, none⟩)) ∧ Dj (some g1) (blk A_v2) ∧ Dj (blk A_k) (blk (some ⟨g2, 0, none⟩)) ∧ Dj (blk A_k) (blk A_m5) ∧ Dj (blk A_k) (blk (some ⟨g7, 0, none⟩)) ∧ Dj (blk A_k) (blk A_v2) ∧ Dj (blk (some ⟨g2, 0, none⟩)) (blk A_m5) ∧ Dj (blk (some ⟨g2, 0, none⟩)) (blk (some ⟨g7, 0, none⟩)) ∧ Dj (blk (some ⟨g2, 0, none⟩)) (blk A_v2) ∧ Dj (blk A_m5) (blk (some ⟨g7, 0, none⟩)) ∧ Dj (blk A_m5) (blk A_v2) ∧ Dj (blk (some ⟨g7, 0, none⟩)) (blk A_v2)) _ _ ⟨([] : List Int) ++ h, A_v, c_v, (([] : List Int) ++ h).length, (0 : Int), rfl, rfl, h0_6, rfl, gr21, k71, k72, k73, k74, k75, hO14, dj29, dj30, dj31, dj32, (Dj.app (Dj.new k57.lt' (Ge.box hl8)).symm k66.lt' hk5).symm, dj33, dj34, dj35, (Dj.app (Dj.new k58.lt' (Ge.box hl8)).symm k67.lt' hk5).symm, dj36, dj37, (Dj.app (Dj.new k59.lt' (Ge.box hl8)).symm k68.lt' hk5).symm, dj38, (Dj.app (Dj.new k60.lt' (Ge.box hl8)).symm k69.lt' hk5).symm, (Dj.app (Dj.new k61.lt' (Ge.box hl8)).symm k70.lt' hk5).symm⟩ (by repeat (first | exact Sub.nil | refine Sub.cons rfl ?_)) ?_
            clear h0_6
            rintro _ _ w22 ⟨v, A_v2, c_v2, n_v, i4, rfl, rfl, hI6, rfl, gr22, k76, k77, k78, k79, k80, k81, dj39, dj40, dj41, dj42, dj43, dj44, dj45, dj46, dj47, dj48, dj49, dj50, dj51, dj52, dj53⟩
            have H := HR6 v i4 hI6
            refine WC.seq ?_
            refine WC.seq ?_
            refine WC.region ?_
            refine WL.y rfl (Yld.pure tab_ok rfl) ?_
            refine WL.y rfl (Yld.pure tab_ok rfl) ?_
            refine WL.nil (WX.then_normal ?_)
            refine WC.cond rfl (fun b6 => ?_) (fun b6 => ?_)
            · replace H := H.1 (of_decide_eq_true b6)
              refine WC.skip (WX.then_normal ?_)
              refine WC.seq ?_
              refine WC.block ?_
              refine WC.seq ?_
              refine WC.chainF (fun k => !(Nat.beq k 3 || Nat.beq k 7 || Nat.beq k 12)) (LD [2, 6, 11] (fun w' => Rd vu w' A_v2 c_v2 v)) mixed (by kernel_rfl) (fun k w' h _ => (rd_eqv h k81.rd)) ?_
              refine WJ.y rfl rfl (fun w' hw' => Yld.pure tab_ok rfl) ?_
              obtain ⟨h50, H⟩ := H
              refine WJ.y rfl rfl (fun w' hw' => Yld.iaddrW tab_ok k81.rd rfl rfl rfl rfl h50.1 h50.2) ?_
              refine WJ.y rfl rfl (fun w' hw' => Yld.iload 0 tab_ok (hw' rfl) rfl rfl (iltN h50 rfl)) ?_
              refine WJ.call rfl (wants_none) rfl rfl (W_smithyref1_turn H) (fun v w' h w2 e => DD.keep (rd_eqv (eqvL h.1 e) k81.rd)) ?_
              rintro _ _ ⟨rfl, t187, rfl, H⟩
              refine WJ.y rfl rfl (fun w' hw' => Yld.pure tab_ok rfl) ?_
              obtain ⟨h51, H⟩ := H
              refine WJ.y rfl rfl (fun w' hw' => Yld.iaddrW tab_ok k81.rd rfl rfl rfl rfl h51.1 h51.2) ?_
              refine WJ.y rfl rfl (fun w' hw' => Yld.iload 0 tab_ok (hw' rfl) rfl rfl (iltN h51 rfl)) ?_
              refine WJ.call rfl (wants_none) rfl rfl (W_smithyref1_turn H) (fun v w' h w2 e => DD.keep (rd_eqv (eqvL h.1 e) k81.rd)) ?_
              rintro _ _ ⟨rfl, t191, rfl, H⟩
              refine WJ.y rfl rfl (fun w' hw' => Yld.pure tab_ok rfl) ?_
              refine WJ.y rfl rfl (fun w' hw' => Yld.pure tab_ok rfl) ?_
              obtain ⟨h52, H⟩ := H
              refine WJ.y rfl rfl (fun w' hw' => Yld.iaddrW tab_ok k81.rd rfl rfl rfl rfl h52.1 h52.2) ?_
              refine WJ.y rfl rfl (fun w' hw' => Yld.iload 0 tab_ok (hw' rfl) rfl rfl (iltN h52 rfl)) ?_
              refine WJ.call rfl (wants_none) rfl rfl (W_smithyref1_turn H) (fun v w' h w2 e => DD.keep (rd_eqv (eqvL h.1 e) k81.rd)) ?_
              rintro _ _ ⟨rfl, t196, rfl, H⟩
              refine WJ.y rfl rfl (fun w' hw' => Yld.pure tab_ok rfl) ?_
              refine WJ.y rfl rfl (fun w' hw' => Yld.pure tab_ok rfl) ?_
              refine WJ.nil (WX.then_normal ?_)
              refine WC.seq ?_
              refine WC.quiet mixed (by kernel_rfl) ?_
              refine WQ.y rfl (Yld.pure tab_ok rfl) ?_
              obtain ⟨h53, H⟩ := H
              refine WQ.y rfl (Yld.iaddrW tab_ok k81.rd rfl rfl rfl rfl h53.1 h53.2) ?_
              refine WQ.y rfl (Yld.iload 0 tab_ok k81.rd rfl rfl (iltN h53 rfl)) ?_
              refine WQ.y rfl (Yld.pure tab_ok rfl) ?_
              obtain ⟨h54, H⟩ := H
              refine WQ.y rfl (Yld.iaddrW tab_ok k81.rd rfl rfl rfl rfl h54.1 h54.2) ?_
              refine WQ.y rfl (Yld.iload 0 tab_ok k81.rd rfl rfl (iltN h54 rfl)) ?_
              refine WQ.y rfl (Yld.pure tab_ok rfl) ?_
              refine WQ.y rfl (Yld.pure tab_ok rfl) ?_
              obtain ⟨h55, H⟩ := H
              refine WQ.y rfl (Yld.iaddrW tab_ok k81.rd rfl rfl rfl rfl h55.1 h55.2) ?_
              refine WQ.y rfl (Yld.iload 0 tab_ok k81.rd rfl rfl (iltN h55 rfl)) ?_
              refine WQ.y rfl (Yld.pure tab_ok rfl) ?_
              refine WQ.y rfl (Yld.pure tab_ok rfl) ?_
              obtain ⟨h56, H⟩ := H
              refine WQ.y rfl (Yld.iaddrW tab_ok k81.rd rfl rfl rfl rfl h56.1 h56.2) ?_
              refine WQ.y rfl (Yld.iload 0 tab_ok k81.rd rfl rfl (iltN h56 rfl)) ?_
              refine WQ.y rfl (Yld.pure tab_ok rfl) ?_
              refine WQ.y rfl (Yld.pure tab_ok rfl) ?_
              refine WQ.y rfl (Yld.pure tab_ok rfl) ?_
              refine WQ.nil (WX.then_normal ?_)
              refine WC.seq ?_
              refine WC.quiet mixed (by kernel_rfl) ?_
              refine WQ.y rfl (Yld.pure tab_ok rfl) ?_
              obtain ⟨h57, H⟩ := H
              refine WQ.y rfl (Yld.iaddrW tab_ok k81.rd rfl rfl rfl rfl h57.1 h57.2) ?_
              refine WQ.y rfl (Yld.iload 0 tab_ok k81.rd rfl rfl (iltN h57 rfl)) ?_
              refine WQ.y rfl (Yld.pure tab_ok rfl) ?_
              refine WQ.y rfl (Yld.pure tab_ok rfl) ?_
              refine WQ.y rfl (Yld.pure tab_ok rfl) ?_
              refine WQ.y rfl (Yld.pure tab_ok rfl) ?_
              refine WQ.y rfl (Yld.pure tab_ok rfl) ?_
              refine WQ.y rfl (Yld.pure tab_ok rfl) ?_
              obtain ⟨h58, H⟩ := H
              refine WQ.y rfl (Yld.iaddrW tab_ok k77.rd rfl rfl rfl rfl h58.1 h58.2) ?_
              refine WQ.y rfl (Yld.iload 0 tab_ok k77.rd rfl rfl (iltN h58 rfl)) ?_
              refine WQ.y rfl (Yld.pure tab_ok rfl) ?_
              refine WQ.y rfl (Yld.pure tab_ok rfl) ?_
              refine WQ.y rfl (Yld.pure tab_ok rfl) ?_
              obtain ⟨h59, H⟩ := H
              refine WQ.y rfl (Yld.iaddrW tab_ok k80.rd rfl rfl hn_w_2 rfl h59.1 h59.2) ?_
              refine WQ.y rfl (Yld.iload 0 tab_ok k80.rd rfl rfl (iltN h59 hn_w_2)) ?_
              refine WQ.y rfl (Yld.pure tab_ok rfl) ?_
              refine WQ.y rfl (Yld.pure tab_ok rfl) ?_
              refine WQ.nil (WX.then_normal ?_)
              refine WC.seq ?_
              refine WC.chainF (fun k => !(Nat.beq k 3 || Nat.beq k 7 || Nat.beq k 12)) (LD [2, 6, 11] (fun w' => Rd vu w' A_v2 c_v2 v)) mixed (by kernel_rfl) (fun k w' h _ => (rd_eqv h k81.rd)) ?_
              refine WJ.y rfl rfl (fun w' hw' => Yld.pure tab_ok rfl) ?_
              obtain ⟨h60, H⟩ := H
              refine WJ.y rfl rfl (fun w' hw' => Yld.iaddrW tab_ok k81.rd rfl rfl rfl rfl h60.1 h60.2) ?_
              refine WJ.y rfl rfl (fun w' hw' => Yld.iload 0 tab_ok (hw' rfl) rfl rfl (iltN h60 rfl)) ?_
              refine WJ.call rfl (wants_none) rfl rfl (W_smithyref1_turn H) (fun v w' h w2 e => DD.keep (rd_eqv (eqvL h.1 e) k81.rd)) ?_
              rintro _ _ ⟨rfl, t234, rfl, H⟩
              refine WJ.y rfl rfl (fun w' hw' => Yld.pure tab_ok rfl) ?_
              obtain ⟨h61, H⟩ := H
              refine WJ.y rfl rfl (fun w' hw' => Yld.iaddrW tab_ok k81.rd rfl rfl rfl rfl h61.1 h61.2) ?_
              refine WJ.y rfl rfl (fun w' hw' => Yld.iload 0 tab_ok (hw' rfl) rfl rfl (iltN h61 rfl)) ?_
              refine WJ.call rfl (wants_none) rfl rfl (W_smithyref1_turn H) (fun v w' h w2 e => DD.keep (rd_eqv (eqvL h.1 e) k81.rd)) ?_
              rintro _ _ ⟨rfl, t238, rfl, H⟩
              refine WJ.y rfl rfl (fun w' hw' => Yld.pure tab_ok rfl) ?_
              refine WJ.y rfl rfl (fun w' hw' => Yld.pure tab_ok rfl) ?_
              obtain ⟨h62, H⟩ := H
              refine WJ.y rfl rfl (fun w' hw' => Yld.iaddrW tab_ok k81.rd rfl rfl rfl rfl h62.1 h62.2) ?_
              refine WJ.y rfl rfl (fun w' hw' => Yld.iload 0 tab_ok (hw' rfl) rfl rfl (iltN h62 rfl)) ?_
              refine WJ.call rfl (wants_none) rfl rfl (W_smithyref1_turn H) (fun v w' h w2 e => DD.keep (rd_eqv (eqvL h.1 e) k81.rd)) ?_
              rintro _ _ ⟨rfl, t243, rfl, H⟩
              refine WJ.y rfl rfl (fun w' hw' => Yld.pure tab_ok rfl) ?_
              refine WJ.y rfl rfl (fun w' hw' => Yld.pure tab_ok rfl) ?_
              refine WJ.nil (WX.then_normal ?_)
              refine WC.seq ?_
              refine WC.quiet mixed (by kernel_rfl) ?_
              refine WQ.y rfl (Yld.pure tab_ok rfl) ?_
              obtain ⟨h63, H⟩ := H
              refine WQ.y rfl (Yld.iaddrW tab_ok k81.rd rfl rfl rfl rfl h63.1 h63.2) ?_
              refine WQ.y rfl (Yld.iload 0 tab_ok k81.rd rfl rfl (iltN h63 rfl)) ?_
              refine WQ.y rfl (Yld.pure tab_ok rfl) ?_
              obtain ⟨h64, H⟩ := H
              refine WQ.y rfl (Yld.iaddrW tab_ok k81.rd rfl rfl rfl rfl h64.1 h64.2) ?_
              refine WQ.y rfl (Yld.iload 0 tab_ok k81.rd rfl rfl (iltN h64 rfl)) ?_
              refine WQ.y rfl (Yld.pure tab_ok rfl) ?_
              refine WQ.y rfl (Yld.pure tab_ok rfl) ?_
              obtain ⟨h65, H⟩ := H
              refine WQ.y rfl (Yld.iaddrW tab_ok k81.rd rfl rfl rfl rfl h65.1 h65.2) ?_
              refine WQ.y rfl (Yld.iload 0 tab_ok k81.rd rfl rfl (iltN h65 rfl)) ?_
              refine WQ.y rfl (Yld.pure tab_ok rfl) ?_
              obtain ⟨h66, H⟩ := H
              refine WQ.y rfl (Yld.iaddrW tab_ok k81.rd rfl rfl rfl rfl h66.1 h66.2) ?_
              refine WQ.y rfl (Yld.iload 0 tab_ok k81.rd rfl rfl (iltN h66 rfl)) ?_
              refine WQ.y rfl (Yld.pure tab_ok rfl) ?_
              refine WQ.y rfl (Yld.pure tab_ok rfl) ?_
              refine WQ.y rfl (Yld.pure tab_ok rfl) ?_
              obtain ⟨h67, H⟩ := H
              refine WQ.y rfl (Yld.iaddrW tab_ok k81.rd rfl rfl rfl rfl h67.1 h67.2) ?_
              refine WQ.y rfl (Yld.iload 0 tab_ok k81.rd rfl rfl (iltN h67 rfl)) ?_
              refine WQ.y rfl (Yld.pure tab_ok rfl) ?_
              obtain ⟨h68, H⟩ := H
              refine WQ.y rfl (Yld.iaddrW tab_ok k81.rd rfl rfl rfl rfl h68.1 h68.2) ?_
              refine WQ.y rfl (Yld.iload 0 tab_ok k81.rd rfl rfl (iltN h68 rfl)) ?_
              refine WQ.y rfl (Yld.pure tab_ok rfl) ?_
              refine WQ.y rfl (Yld.pure tab_ok rfl) ?_
              refine WQ.y rfl (Yld.pure tab_ok rfl) ?_
              refine WQ.nil (WX.then_normal ?_)
              refine WC.chainF (fun k => !(Nat.beq k 28)) (LD [7, 10, 13, 16, 21, 24, 27] (fun w' => Rd vu w' A_v2 c_v2 v)) mixed (by kernel_rfl) (fun k w' h _ => (rd_eqv h k81.rd)) ?_
              refine WJ.y rfl rfl (fun w' hw' => Yld.pure tab_ok rfl) ?_
              refine WJ.y rfl rfl (fun w' hw' => Yld.pure tab_ok rfl) ?_
              refine WJ.y rfl rfl (fun w' hw' => Yld.pure tab_ok rfl) ?_
              refine WJ.y rfl rfl (fun w' hw' => Yld.pure tab_ok rfl) ?_
              refine WJ.y rfl rfl (fun w' hw' => Yld.pure tab_ok rfl) ?_
              refine WJ.y rfl rfl (fun w' hw' => Yld.pure tab_ok rfl) ?_
              obtain ⟨h69, H⟩ := H
              refine WJ.y rfl rfl (fun w' hw' => Yld.iaddrW tab_ok k81.rd rfl rfl rfl rfl h69.1 h69.2) ?_
              refine WJ.y rfl rfl (fun w' hw' => Yld.iload 0 tab_ok (hw' rfl) rfl rfl (iltN h69 rfl)) ?_
              refine WJ.y rfl rfl (fun w' hw' => Yld.pure tab_ok rfl) ?_
              obtain ⟨h70, H⟩ := H
              refine WJ.y rfl rfl (fun w' hw' => Yld.iaddrW tab_ok k81.rd rfl rfl rfl rfl h70.1 h70.2) ?_
              refine WJ.y rfl rfl (fun w' hw' => Yld.iload 0 tab_ok (hw' rfl) rfl rfl (iltN h70 rfl)) ?_
              refine WJ.y rfl rfl (fun w' hw' => Yld.pure tab_ok rfl) ?_
              obtain ⟨h71, H⟩ := H
              refine WJ.y rfl rfl (fun w' hw' => Yld.iaddrW tab_ok k81.rd rfl rfl rfl rfl h71.1 h71.2) ?_
              refine WJ.y rfl rfl (fun w' hw' => Yld.iload 0 tab_ok (hw' rfl) rfl rfl (iltN h71 rfl)) ?_
              refine WJ.y rfl rfl (fun w' hw' => Yld.pure tab_ok rfl) ?_
              obtain ⟨h72, H⟩ := H
              refine WJ.y rfl rfl (fun w' hw' => Yld.iaddrW tab_ok k81.rd rfl rfl rfl rfl h72.1 h72.2) ?_
              refine WJ.y rfl rfl (fun w' hw' => Yld.iload 0 tab_ok (hw' rfl) rfl rfl (iltN h72 rfl)) ?_
              refine WJ.y rfl rfl (fun w' hw' => Yld.pure tab_ok rfl) ?_
              refine WJ.y rfl rfl (fun w' hw' => Yld.pure tab_ok rfl) ?_
              refine WJ.y rfl rfl (fun w' hw' => Yld.pure tab_ok rfl) ?_
              obtain ⟨h73, H⟩ := H
              refine WJ.y rfl rfl (fun w' hw' => Yld.iaddrW tab_ok k81.rd rfl rfl rfl rfl h73.1 h73.2) ?_
              refine WJ.y rfl rfl (fun w' hw' => Yld.iload 0 tab_ok (hw' rfl) rfl rfl (iltN h73 rfl)) ?_
              refine WJ.y rfl rfl (fun w' hw' => Yld.pure tab_ok rfl) ?_
              obtain ⟨h74, H⟩ := H
              refine WJ.y rfl rfl (fun w' hw' => Yld.iaddrW tab_ok k81.rd rfl rfl rfl rfl h74.1 h74.2) ?_
              refine WJ.y rfl rfl (fun w' hw' => Yld.iload 0 tab_ok (hw' rfl) rfl rfl (iltN h74 rfl)) ?_
              refine WJ.y rfl rfl (fun w' hw' => Yld.pure tab_ok rfl) ?_
              obtain ⟨h75, H⟩ := H
              refine WJ.y rfl rfl (fun w' hw' => Yld.iaddrW tab_ok k81.rd rfl rfl rfl rfl h75.1 h75.2) ?_
              refine WJ.y rfl rfl (fun w' hw' => Yld.iload 0 tab_ok (hw' rfl) rfl rfl (iltN h75 rfl)) ?_
              refine WJ.putw rfl (wants_none) rfl (Eff.lit tab_ok rfl rfl (all1c rfl (all1c rfl (all1c rfl (all1c rfl (all1c rfl (all1c rfl (all1c rfl (all1c rfl all1n)))))))) rfl (by omega)) (fun v w' ⟨_, _, h⟩ => DD.keep (Rd.grown k81.rd (gr_eqv h (Eqv.refl _)))) ?_
              rintro _ w23 ⟨rfl, hB6, hg17⟩
              obtain ⟨g_v, hl9⟩ : ∃ g, g = w22.heap.size := ⟨_, rfl⟩
              rw [← hl9] at hB6
              rw [← hl9]
              have hO15 : Own vu w23 w.heap.size 102 (some ⟨g_v, 0, none⟩) 8 ([IntKind.wrap .u32 ((IntKind.wrap .u32 ((IntKind.wrap .u32 ((IntKind.wrap .u32 ((IntKind.wrap .u32 ((IntKind.wrap .u32 ((v.getD 7 0) + (bits .xor .u32 (bits .xor .u32 t187 t191) t196))) + (bits .xor .u32 (bits .and .u32 (v.getD 4 0) (v.getD 5 0)) (bits .and .u32 (bits .xor .u32 (if IntKind.signed .u32 then -1 else IntKind.max .u32) (v.getD 4 0)) (v.getD 6 0))))) + (k.getD i4.toNat 0))) + (w_2.getD i4.toNat 0))) + (bits .xor .u32 (bits .xor .u32 t234 t238) t243))) + (bits .xor .u32 (bits .xor .u32 (bits .and .u32 (v.getD 0 0) (v.getD 1 0)) (bits .and .u32 (v.getD 0 0) (v.getD 2 0))) (bits .and .u32 (v.getD 1 0) (v.getD 2 0)))), v.getD 0 0, v.getD 1 0, v.getD 2 0, IntKind.wrap .u32 ((v.getD 3 0) + (IntKind.wrap .u32 ((IntKind.wrap .u32 ((IntKind.wrap .u32 ((IntKind.wrap .u32 ((v.getD 7 0) + (bits .xor .u32 (bits .xor .u32 t187 t191) t196))) + (bits .xor .u32 (bits .and .u32 (v.getD 4 0) (v.getD 5 0)) (bits .and .u32 (bits .xor .u32 (if IntKind.signed .u32 then -1 else IntKind.max .u32) (v.getD 4 0)) (v.getD 6 0))))) + (k.getD i4.toNat 0))) + (w_2.getD i4.toNat 0)))), v.getD 4 0, v.getD 5 0, v.getD 6 0] : List Int) := Own.ofBl hB6 (Nat.le_trans (size_le gr22) (Nat.le_of_eq hl9.symm)) (by simp [maxLen]) rfl
              have gr23 := gr_trans gr22 hg17
              have k82 := k76.g0 hg17
              have k83 := k77.grown hg17
              have k84 := k78.grown hg17
              have k85 := k79.grown hg17
              have k86 := k80.grown hg17
              have k87 := k81.grown hg17
              refine WJ.y rfl rfl (fun w' hw' => Yld.pure tab_ok rfl) ?_
              refine WJ.nil (WX.block_normal (WX.then_normal ?_))
              refine WC.region ?_
              refine WL.y rfl (Yld.pure tab_ok rfl) ?_
              obtain ⟨h76, H⟩ := H
              refine WL.y rfl (Yld.add rfl rfl h76) ?_
              refine WL.y rfl (Yld.pure tab_ok rfl) ?_
              refine WL.nil ?_
              exact WX.roundF _ ⟨([IntKind.wrap .u32 ((IntKind.wrap .u32 ((IntKind.wrap .u32 ((IntKind.wrap .u32 ((IntKind.wrap .u32 ((IntKind.wrap .u32 ((v.getD 7 0) + (bits .xor .u32 (bits .xor .u32 t187 t191) t196))) + (bits .xor .u32 (bits .and .u32 (v.getD 4 0) (v.getD 5 0)) (bits .and .u32 (bits .xor .u32 (if IntKind.signed .u32 then -1 else IntKind.max .u32) (v.getD 4 0)) (v.getD 6 0))))) + (k.getD i4.toNat 0))) + (w_2.getD i4.toNat 0))) + (bits .xor .u32 (bits .xor .u32 t234 t238) t243))) + (bits .xor .u32 (bits .xor .u32 (bits .and .u32 (v.getD 0 0) (v.getD 1 0)) (bits .and .u32 (v.getD 0 0) (v.getD 2 0))) (bits .and .u32 (v.getD 1 0) (v.getD 2 0)))), v.getD 0 0, v.getD 1 0, v.getD 2 0, IntKind.wrap .u32 ((v.getD 3 0) + (IntKind.wrap .u32 ((IntKind.wrap .u32 ((IntKind.wrap .u32 ((IntKind.wrap .u32 ((v.getD 7 0) + (bits .xor .u32 (bits .xor .u32 t187 t191) t196))) + (bits .xor .u32 (bits .and .u32 (v.getD 4 0) (v.getD 5 0)) (bits .and .u32 (bits .xor .u32 (if IntKind.signed .u32 then -1 else IntKind.max .u32) (v.getD 4 0)) (v.getD 6 0))))) + (k.getD i4.toNat 0))) + (w_2.getD i4.toNat 0)))), v.getD 4 0, v.getD 5 0, v.getD 6 0] : List Int), (some ⟨g_v, 0, none⟩), 8, 8, i4 + (1 : Int), rfl, rfl, H.1, rfl, gr23, k82, k83, k84, k85, k86, hO15, dj39, dj40, dj41, dj42, (Dj.new k76.lt' (Ge.box (Nat.le_of_eq hl9.symm))), dj44, dj45, dj46, (Dj.new k77.lt' (Ge.box (Nat.le_of_eq hl9.symm))), dj48, dj49, (Dj.new k78.lt' (Ge.box (Nat.le_of_eq hl9.symm))), dj51, (Dj.new k79.lt' (Ge.box (Nat.le_of_eq hl9.symm))), (Dj.new k80.lt' (Ge.box (Nat.le_of_eq hl9.symm)))⟩ (by repeat (first | exact Sub.nil | refine Sub.cons rfl ?_)) H.2
            · replace H := H.2 (of_decide_eq_false b6)
              refine WC.exit (WX.then_exit (WX.then_exit (WX.block_same (WX.then_normal ?_))))
              refine WC.seq ?_
              refine WC.region ?_
              refine WL.y rfl (Yld.pure tab_ok rfl) ?_
              refine WL.nil (WX.then_normal ?_)
              refine WC.block ?_
              obtain ⟨I7, mu7, h0_7, HR7⟩ := H
              refine WC.loopF (fun n' L' w' => ∃ (i5 : Int), ∃ (h2 : List Int), n' = mu7 i5 h2 ∧ L' = [(2, .pointer (some ⟨g1, 0, none⟩)), (3, .slice A_k k.length c_k), (4, .slice (some ⟨g2, 0, none⟩) 8 8), (5, .slice A_m5 m2.length c_m5), (8, .int .i64 at_), (14, .slice A_v2 v.length c_v2), (21, .int .i64 i5)] ∧ I7 i5 h2 ∧ 8 = h2.length ∧ w.grownBy w' none ∧ Bl w' g1 59 (a32 (List.replicate 32 0 : List UInt8)) ∧ Own vu w' w.heap.size 102 A_k c_k k ∧ Own vu w' w.heap.size 102 (some ⟨g2, 0, none⟩) 8 h2 ∧ Own vb w' w.heap.size 5 A_m5 c_m5 m2 ∧ Own vu w' w.heap.size 102 A_v2 c_v2 v ∧ Dj (some g1) (blk A_k) ∧ Dj (some g1) (blk (some ⟨g2, 0, none⟩)) ∧ Dj (some g1) (blk A_m5) ∧ Dj (some g1) (blk A_v2) ∧ Dj (blk A_k) (blk (some ⟨g2, 0, none⟩)) ∧ Dj (blk A_k) (blk A_m5) ∧ Dj (blk A_k) (blk A_v2) ∧ Dj (blk (some ⟨g2, 0, none⟩)) (blk A_m5) ∧ Dj (blk (some ⟨g2, 0, none⟩)) (blk A_v2) ∧ Dj (blk A_m5) (blk A_v2)) _ _ ⟨(0 : Int), h, rfl, rfl, h0_7, hn_h, gr22, k76, k77, k78, k79, k81, dj39, dj40, dj41, dj43, dj44, dj45, dj47, dj48, dj50, dj52⟩ (by repeat (first | exact Sub.nil | refine Sub.cons rfl ?_)) ?_
              clear h0_7
              rintro _ _ w24 ⟨i5, h2, rfl, rfl, hI7, hn_h2, gr24, k88, k89, k90, k91, k92, dj54, dj55, dj56, dj57, dj58, dj59, dj60, dj61, dj62, dj63⟩
              have H := HR7 i5 h2 hI7
              replace H := H hn_h2
              refine WC.seq ?_
              refine WC.seq ?_
              refine WC.region ?_
              refine WL.y rfl (Yld.pure tab_ok rfl) ?_
              refine WL.y rfl (Yld.pure tab_ok rfl) ?_
              refine WL.nil (WX.then_normal ?_)
              refine WC.cond rfl (fun b7 => ?_) (fun b7 => ?_)
              · replace H := H.1 (of_decide_eq_true b7)
                refine WC.skip (WX.then_normal ?_)
                refine WC.seq ?_
                refine WC.block ?_
                refine WC.chainF (fun k => !(Nat.beq k 12)) (LD [5, 9] (fun w' => Rd vu w' (some ⟨g2, 0, none⟩) 8 h2 ∧ Rd vu w' A_v2 c_v2 v)) mixed (by kernel_rfl) (fun k w' h _ => ⟨(rd_eqv h k90.rd), (rd_eqv h k92.rd)⟩) ?_
                refine WJ.y rfl rfl (fun w' hw' => Yld.pure tab_ok rfl) ?_
                refine WJ.y rfl rfl (fun w' hw' => Yld.pure tab_ok rfl) ?_
                refine WJ.y rfl rfl (fun w' hw' => Yld.pure tab_ok rfl) ?_
                refine WJ.y rfl rfl (fun w' hw' => Yld.pure tab_ok rfl) ?_
                obtain ⟨h77, H⟩ := H
                refine WJ.y rfl rfl (fun w' hw' => Yld.iaddrW tab_ok k90.rd rfl rfl hn_h2 rfl h77.1 h77.2) ?_
                refine WJ.y rfl rfl (fun w' hw' => Yld.iload 0 tab_ok (hw' rfl).1 rfl rfl (iltN h77 hn_h2)) ?_
                refine WJ.y rfl rfl (fun w' hw' => Yld.pure tab_ok rfl) ?_
                refine WJ.y rfl rfl (fun w' hw' => Yld.pure tab_ok rfl) ?_
                obtain ⟨h78, H⟩ := H
                refine WJ.y rfl rfl (fun w' hw' => Yld.iaddrW tab_ok k92.rd rfl rfl rfl rfl h78.1 h78.2) ?_
                refine WJ.y rfl rfl (fun w' hw' => Yld.iload 0 tab_ok (hw' rfl).2 rfl rfl (iltN h78 rfl)) ?_
                refine WJ.y rfl rfl (fun w' hw' => Yld.pure tab_ok rfl) ?_
                obtain ⟨h79, H⟩ := H
                refine WJ.y rfl rfl (fun w' hw' => Yld.iaddrW tab_ok k90.rd rfl rfl hn_h2 rfl h79.1 h79.2) ?_
                refine WJ.eff rfl (Ef0.ostore (v := IntKind.wrap .u32 ((h2.getD i5.toNat 0) + (v.getD i5.toNat 0))) one102 One.u k90 rfl rfl (iltN h79 hn_h2)) (fun w' h => DD.past (by kernel_rfl)) ?_
                rintro w25 ⟨hO16, hg18⟩
                have gr25 := gr_mod gr24 hg18 k90.ge'
                have k93 := k88.go hg18 dj55
                have k94 := k89.go hg18 dj58
                have k95 := k91.go hg18 dj61.symm
                have k96 := k92.go hg18 dj62.symm
                refine WJ.nil (WX.block_normal (WX.then_normal ?_))
                refine WC.region ?_
                refine WL.y rfl (Yld.pure tab_ok rfl) ?_
                obtain ⟨h80, H⟩ := H
                refine WL.y rfl (Yld.add rfl rfl h80) ?_
                refine WL.y rfl (Yld.pure tab_ok rfl) ?_
                refine WL.nil ?_
                exact WX.roundF _ ⟨i5 + (1 : Int), h2.set i5.toNat (IntKind.wrap .u32 ((h2.getD i5.toNat 0) + (v.getD i5.toNat 0))), rfl, rfl, H.1, (hn_h2.trans List.length_set.symm), gr25, k93, k94, hO16, k95, k96, dj54, dj55, dj56, dj57, dj58, dj59, dj60, dj61, dj62, dj63⟩ (by repeat (first | exact Sub.nil | refine Sub.cons rfl ?_)) H.2
              · replace H := H.2 (of_decide_eq_false b7)
                refine WC.exit (WX.then_exit (WX.then_exit (WX.block_same (WX.block_normal (WX.then_normal ?_)))))
                refine WC.region ?_
                refine WL.y rfl (Yld.pure tab_ok rfl) ?_
                obtain ⟨h81, H⟩ := H
                refine WL.y rfl (Yld.add rfl rfl h81) ?_
                refine WL.y rfl (Yld.pure tab_ok rfl) ?_
                refine WL.nil ?_
                exact WX.roundF _ ⟨at_ + (64 : Int), h2, rfl, rfl, H.1, hn_h2, gr24, k88, k89, k90, k91, dj54, dj55, dj56, dj58, dj59, dj61⟩ (by repeat (first | exact Sub.nil | refine Sub.cons rfl ?_)) H.2
      · replace H := H.2 (of_decide_eq_false b3)
        refine WC.exit (WX.then_exit (WX.then_exit (WX.block_same (WX.then_normal ?_))))
        refine WC.seq ?_
        refine WC.region ?_
        refine WL.alloc rfl zero59 (fun g9 w26 hB7 hg19 hl10 => ?_)
        rw [a32_zero] at hB7
        have gr26 := gr_trans gr14 hg19
        have k97 := k40.g0 hg19
        have k98 := k42.grown hg19
        refine WL.nil (WX.then_normal ?_)
        refine WC.seq ?_
        refine WC.seq ?_
        refine WC.region ?_
        refine WL.y rfl (Yld.pure tab_ok rfl) ?_
        refine WL.nil (WX.then_normal ?_)
        refine WC.block ?_
        obtain ⟨I8, mu8, h0_8, HR8⟩ := H
        refine WC.loopF (fun n' L' w' => ∃ (i6 : Int), ∃ (out0 : List UInt8), n' = mu8 i6 out0 ∧ L' = [(2, .pointer (some ⟨g1, 0, none⟩)), (4, .slice (some ⟨g2, 0, none⟩) 8 8), (22, .pointer (some ⟨g9, 0, none⟩)), (23, .int .i64 i6)] ∧ I8 i6 out0 ∧ w.grownBy w' none ∧ Bl w' g1 59 (a32 (List.replicate 32 0 : List UInt8)) ∧ Own vu w' w.heap.size 102 (some ⟨g2, 0, none⟩) 8 h ∧ Bl w' g9 59 (a32 out0) ∧ Dj (some g1) (blk (some ⟨g2, 0, none⟩)) ∧ Dj (some g1) (some g9) ∧ Dj (blk (some ⟨g2, 0, none⟩)) (some g9)) _ _ ⟨(0 : Int), (List.replicate 32 0 : List UInt8), rfl, rfl, h0_8, gr26, k97, k98, hB7, dj14, (Dj.new k40.lt' (Ge.box hl10)), (Dj.new k42.lt' (Ge.box hl10))⟩ (by repeat (first | exact Sub.nil | refine Sub.cons rfl ?_)) ?_
        clear h0_8
        rintro _ _ w27 ⟨i6, out0, rfl, rfl, hI8, gr27, k99, k100, k101, dj64, dj65, dj66⟩
        have H := HR8 i6 out0 hI8
        refine WC.seq ?_
        refine WC.seq ?_
        refine WC.region ?_
        refine WL.y rfl (Yld.pure tab_ok rfl) ?_
        refine WL.y rfl (Yld.pure tab_ok rfl) ?_
        refine WL.nil (WX.then_normal ?_)
        refine WC.cond rfl (fun b8 => ?_) (fun b8 => ?_)
        · replace H := H.1 (of_decide_eq_true b8)
          refine WC.skip (WX.then_normal ?_)
          refine WC.seq ?_
          refine WC.block ?_
          refine WC.seq ?_
          refine WC.region ?_
          refine WL.y rfl (Yld.pure tab_ok rfl) ?_
          refine WL.nil (WX.then_normal ?_)
          refine WC.block ?_
          obtain ⟨I9, mu9, h0_9, HR9⟩ := H
          refine WC.loopF (fun n' L' w' => ∃ (j : Int), ∃ (out02 : List UInt8), n' = mu9 j out02 ∧ L' = [(2, .pointer (some ⟨g1, 0, none⟩)), (4, .slice (some ⟨g2, 0, none⟩) 8 8), (22, .pointer (some ⟨g9, 0, none⟩)), (23, .int .i64 i6), (24, .int .i64 j)] ∧ I9 j out02 ∧ w.grownBy w' none ∧ Bl w' g1 59 (a32 (List.replicate 32 0 : List UInt8)) ∧ Own vu w' w.heap.size 102 (some ⟨g2, 0, none⟩) 8 h ∧ Bl w' g9 59 (a32 out02) ∧ Dj (some g1) (blk (some ⟨g2, 0, none⟩)) ∧ Dj (some g1) (some g9) ∧ Dj (blk (some ⟨g2, 0, none⟩)) (some g9)) _ _ ⟨(0 : Int), out0, rfl, rfl, h0_9, gr27, k99, k100, k101, dj64, dj65, dj66⟩ (by repeat (first | exact Sub.nil | refine Sub.cons rfl ?_)) ?_
          clear h0_9
          rintro _ _ w28 ⟨j, out02, rfl, rfl, hI9, gr28, k102, k103, k104, dj67, dj68, dj69⟩
          have H := HR9 j out02 hI9
          refine WC.seq ?_
          refine WC.seq ?_
          refine WC.region ?_
          refine WL.y rfl (Yld.pure tab_ok rfl) ?_
          refine WL.y rfl (Yld.pure tab_ok rfl) ?_
          refine WL.nil (WX.then_normal ?_)
          refine WC.cond rfl (fun b9 => ?_) (fun b9 => ?_)
          · replace H := H.1 (of_decide_eq_true b9)
            refine WC.skip (WX.then_normal ?_)
            refine WC.seq ?_
            refine WC.block ?_
            refine WC.region ?_
            refine WL.y rfl (Yld.pure tab_ok rfl) ?_
            obtain ⟨h82, H⟩ := H
            refine WL.y rfl (Yld.mul rfl rfl h82) ?_
            refine WL.y rfl (Yld.pure tab_ok rfl) ?_
            obtain ⟨h83, H⟩ := H
            refine WL.y rfl (Yld.add rfl rfl h83) ?_
            refine WL.y rfl (Yld.pure tab_ok rfl) ?_
            refine WL.y rfl (Yld.pure tab_ok rfl) ?_
            obtain ⟨h84, H⟩ := H
            refine WL.y rfl (Yld.iaddrW tab_ok k103.rd rfl rfl hn_h rfl h84.1 h84.2) ?_
            refine WL.y rfl (Yld.iload 0 tab_ok k103.rd rfl rfl (iltN h84 hn_h)) ?_
            refine WL.y rfl (Yld.pure tab_ok rfl) ?_
            obtain ⟨h85, H⟩ := H
            refine WL.y rfl (Yld.mul rfl rfl h85) ?_
            obtain ⟨h86, H⟩ := H
            refine WL.y rfl (Yld.sub rfl rfl h86) ?_
            refine WL.y rfl (Yld.pure tab_ok rfl) ?_
            obtain ⟨h87, H⟩ := H
            refine WL.y rfl (Yld.shr rfl rfl h87) ?_
            refine WL.y rfl (Yld.pure tab_ok rfl) ?_
            obtain ⟨h88, H⟩ := H
            refine WL.y rfl (Yld.aaddr tab_ok rfl rfl rfl h88.1 h88.2) ?_
            obtain ⟨h89, H⟩ := H
            obtain ⟨h90, H⟩ := H
            refine WL.store1 (u := vb (UInt8.ofNat (IntKind.wrap .u8 (shrV .u32 (h.getD i6.toNat 0) (IntKind.wrap .u64 ((24 : Int) - ((8 : Int) * j))).toNat)).toNat)) one5 rfl (byte_eq h89) rfl k104 (a32_lt (lt32 h88)) (fun w29 hB8 hg20 => ?_)
            have hB9 : Bl w29 g9 59 (a32 (out02.set ((((4 : Int) * i6) + j).toNat) (UInt8.ofNat (IntKind.wrap .u8 (shrV .u32 (h.getD i6.toNat 0) (IntKind.wrap .u64 ((24 : Int) - ((8 : Int) * j))).toNat)).toNat))) := a32_setO h90 ▸ hB8
            have gr29 := gr_mod gr28 hg20 (Ge.le (Ge.box hl10) (size_le gr14))
            have k105 := k102.go hg20 dj68
            have k106 := k103.go hg20 dj69
            refine WL.nil (WX.block_normal (WX.then_normal ?_))
            refine WC.region ?_
            refine WL.y rfl (Yld.pure tab_ok rfl) ?_
            obtain ⟨h91, H⟩ := H
            refine WL.y rfl (Yld.add rfl rfl h91) ?_
            refine WL.y rfl (Yld.pure tab_ok rfl) ?_
            refine WL.nil ?_
            exact WX.roundF _ ⟨j + (1 : Int), out02.set ((((4 : Int) * i6) + j).toNat) (UInt8.ofNat (IntKind.wrap .u8 (shrV .u32 (h.getD i6.toNat 0) (IntKind.wrap .u64 ((24 : Int) - ((8 : Int) * j))).toNat)).toNat), rfl, rfl, H.1, gr29, k105, k106, hB9, dj67, dj68, dj69⟩ (by repeat (first | exact Sub.nil | refine Sub.cons rfl ?_)) H.2
          · replace H := H.2 (of_decide_eq_false b9)
            refine WC.exit (WX.then_exit (WX.then_exit (WX.block_same (WX.block_normal (WX.then_normal ?_)))))
            refine WC.region ?_
            refine WL.y rfl (Yld.pure tab_ok rfl) ?_
            obtain ⟨h92, H⟩ := H
            refine WL.y rfl (Yld.add rfl rfl h92) ?_
            refine WL.y rfl (Yld.pure tab_ok rfl) ?_
            refine WL.nil ?_
            exact WX.roundF _ ⟨i6 + (1 : Int), out02, rfl, rfl, H.1, gr28, k102, k103, k104, dj67, dj68, dj69⟩ (by repeat (first | exact Sub.nil | refine Sub.cons rfl ?_)) H.2
        · replace H := H.2 (of_decide_eq_false b8)
          refine WC.exit (WX.then_exit (WX.then_exit (WX.block_same (WX.then_normal ?_))))
          refine WC.seq ?_
          refine WC.region ?_
          refine WL.y rfl (Yld.bagg (vs := (a32 out0)) tab_ok k101 rfl rfl rfl rfl) ?_
          refine WL.storeW (vs := (a32 out0)) tab_ok rfl rfl rfl (all1a (a32_one _) all1n) k99 rfl rfl (fun w30 hB10 hg21 => ?_)
          have gr30 := gr_mod gr27 hg21 (Ge.le (Ge.box hl1) (Nat.le_refl _))
          refine WL.nil (WX.then_normal ?_)
          refine WC.ret ?_
          exact WX.retc tab_ok rfl rfl rfl hB10 rfl ⟨gr30, out0, rfl, H⟩

set_option maxHeartbeats 8000000 in
theorem W_smithyref1_Hex {w : World} {s : List UInt8} {K : (List UInt8) → Prop} (H : M_smithyref1_Hex s K) : Fn Tryz.prog 45 ⟨[.agg ⟨a32 s⟩]⟩ w (fun v w' => w.grownBy w' none ∧ ∃ (r : List UInt8), v = vs r ∧ K r) := by
  unfold M_smithyref1_Hex at H
  refine Fn.enter (by kernel_rfl) Tryz.func45 rfl Tryz.ntmps45 rfl ?_
  refine WC.seq ?_
  refine WC.region ?_
  refine WL.box (us := (a32 s)) rfl rfl rfl (fun g1 w1 hB1 hg1 hl1 => ?_)
  have gr1 := hg1
  refine WL.y rfl (Yld.pure tab_ok rfl) ?_
  refine WL.nil (WX.then_normal ?_)
  refine WC.seq ?_
  refine WC.region ?_
  refine WL.y rfl (Yld.pure tab_ok rfl) ?_
  refine WL.nil (WX.then_normal ?_)
  refine WC.seq ?_
  refine WC.region ?_
  obtain ⟨h1, H⟩ := H
  refine WL.makeCI (f := vb) (B := w.heap.size) tab_ok rfl rfl rfl rfl h1.1 h1.2.1 h1.2.2 (size_le gr1) (fun g2 w2 hO1 hg2 hl2 => ?_)
  have gr2 := gr_trans gr1 hg2
  have k1 := hB1.g0 hg2
  refine WL.y rfl (Yld.pure tab_ok rfl) ?_
  refine WL.nil (WX.then_normal ?_)
  refine WC.seq ?_
  refine WC.seq ?_
  refine WC.region ?_
  refine WL.y rfl (Yld.pure tab_ok rfl) ?_
  refine WL.nil (WX.then_normal ?_)
  refine WC.block ?_
  obtain ⟨I1, mu1, h0_1, HR1⟩ := H
  refine WC.loopF (fun n' L' w' => ∃ (out : List UInt8), ∃ (A_out : Option Addr), ∃ (c_out : Nat), ∃ (n_out : Nat), ∃ (i : Int), n' = mu1 out i ∧ L' = [(1, .pointer (some ⟨g1, 0, none⟩)), (3, vs ([48, 49, 50, 51, 52, 53, 54, 55, 56, 57, 97, 98, 99, 100, 101, 102] : List UInt8)), (4, .slice A_out n_out c_out), (5, .int .i64 i)] ∧ I1 out i ∧ n_out = out.length ∧ w.grownBy w' none ∧ Bl w' g1 59 (a32 s) ∧ Own vb w' w.heap.size 5 A_out c_out out ∧ Dj (some g1) (blk A_out)) _ _ ⟨([] : List UInt8), (some ⟨g2, 0, none⟩), 64, 0, (0 : Int), rfl, rfl, h0_1, rfl, gr2, k1, hO1, (Dj.new hB1.lt' (Ge.box hl2))⟩ (by repeat (first | exact Sub.nil | refine Sub.cons rfl ?_)) ?_
  clear h0_1
  rintro _ _ w3 ⟨out, A_out, c_out, n_out, i, rfl, rfl, hI1, rfl, gr3, k2, k3, dj1⟩
  have H := HR1 out i hI1
  refine WC.seq ?_
  refine WC.seq ?_
  refine WC.region ?_
  refine WL.y rfl (Yld.pure tab_ok rfl) ?_
  refine WL.y rfl (Yld.pure tab_ok rfl) ?_
  refine WL.nil (WX.then_normal ?_)
  refine WC.cond rfl (fun b1 => ?_) (fun b1 => ?_)
  · replace H := H.1 (of_decide_eq_true b1)
    refine WC.skip (WX.then_normal ?_)
    refine WC.seq ?_
    refine WC.block ?_
    refine WC.chainF (fun k => !(Nat.beq k 13 || Nat.beq k 14)) (LD [4, 10] (fun w' => Bl w' g1 59 (a32 s))) mixed (by kernel_rfl) (fun k w' h _ => (bl_eqv h k2)) ?_
    refine WJ.y rfl rfl (fun w' hw' => Yld.pure tab_ok rfl) ?_
    refine WJ.y rfl rfl (fun w' hw' => Yld.pure tab_ok rfl) ?_
    refine WJ.y rfl rfl (fun w' hw' => Yld.pure tab_ok rfl) ?_
    obtain ⟨h2, H⟩ := H
    refine WJ.y rfl rfl (fun w' hw' => Yld.aaddr tab_ok rfl rfl rfl h2.1 h2.2) ?_
    refine WJ.y rfl rfl (fun w' hw' => Yld.bload tab_ok (hw' rfl) rfl rfl (a32_getO _ _ (lt32 h2))) ?_
    refine WJ.y rfl rfl (fun w' hw' => Yld.shr rfl rfl (by omega)) ?_
    obtain ⟨h3, H⟩ := H
    refine WJ.y rfl rfl (fun w' hw' => Yld.sidx tab_ok rfl rfl rfl h3.1 h3.2) ?_
    refine WJ.y rfl rfl (fun w' hw' => Yld.pure tab_ok rfl) ?_
    refine WJ.y rfl rfl (fun w' hw' => Yld.pure tab_ok rfl) ?_
    obtain ⟨h4, H⟩ := H
    refine WJ.y rfl rfl (fun w' hw' => Yld.aaddr tab_ok rfl rfl rfl h4.1 h4.2) ?_
    refine WJ.y rfl rfl (fun w' hw' => Yld.bload tab_ok (hw' rfl) rfl rfl (a32_getO _ _ (lt32 h4))) ?_
    refine WJ.y rfl rfl (fun w' hw' => Yld.pure tab_ok rfl) ?_
    obtain ⟨h5, H⟩ := H
    refine WJ.y rfl rfl (fun w' hw' => Yld.sidx tab_ok rfl rfl rfl h5.1 h5.2) ?_
    refine WJ.putw rfl (wants_none) rfl (Eff.lit tab_ok rfl rfl (all1c rfl (all1c rfl all1n)) rfl (by omega)) (fun v w' ⟨_, _, h⟩ => DD.keep (Bl.g0 k2 (gr_eqv h (Eqv.refl _)))) ?_
    rintro _ w4 ⟨rfl, hB2, hg3⟩
    obtain ⟨g_t24, hl3⟩ : ∃ g, g = w3.heap.size := ⟨_, rfl⟩
    rw [← hl3] at hB2
    rw [← hl3]
    have hO2 : Own vb w4 w.heap.size 5 (some ⟨g_t24, 0, none⟩) 2 ([([48, 49, 50, 51, 52, 53, 54, 55, 56, 57, 97, 98, 99, 100, 101, 102] : List UInt8).getD (shrV .u8 ((s.getD i.toNat 0).toNat : Int) 4).toNat 0, ([48, 49, 50, 51, 52, 53, 54, 55, 56, 57, 97, 98, 99, 100, 101, 102] : List UInt8).getD (bits .and .u8 ((s.getD i.toNat 0).toNat : Int) (15 : Int)).toNat 0] : List UInt8) := Own.ofBl hB2 (Nat.le_trans (size_le gr3) (Nat.le_of_eq hl3.symm)) (by simp [maxLen]) rfl
    have gr4 := gr_trans gr3 hg3
    have k4 := k2.g0 hg3
    have k5 := k3.grown hg3
    obtain ⟨h6, H⟩ := H
    refine WJ.putw rfl (wants_none) rfl (Eff.append tab_ok rfl One.b k5 rfl rfl hO2.rd rfl rfl h6 (applen h6) (size_le gr4)) (fun v w' ⟨_, _, _, _, h, _⟩ => DD.keep (Bl.go k4 (gr_eqv h (Eqv.refl _)) dj1)) ?_
    rintro _ w5 ⟨A_out2, c_out2, rfl, hO3, hg4, hk1⟩
    have gr5 := gr_mod gr4 hg4 k5.ge'
    have k6 := k4.go hg4 dj1
    refine WJ.y rfl rfl (fun w' hw' => Yld.pure tab_ok rfl) ?_
    refine WJ.nil (WX.block_normal (WX.then_normal ?_))
    refine WC.region ?_
    refine WL.y rfl (Yld.pure tab_ok rfl) ?_
    obtain ⟨h7, H⟩ := H
    refine WL.y rfl (Yld.add rfl rfl h7) ?_
    refine WL.y rfl (Yld.pure tab_ok rfl) ?_
    refine WL.nil ?_
    exact WX.roundF _ ⟨out ++ ([([48, 49, 50, 51, 52, 53, 54, 55, 56, 57, 97, 98, 99, 100, 101, 102] : List UInt8).getD (shrV .u8 ((s.getD i.toNat 0).toNat : Int) 4).toNat 0, ([48, 49, 50, 51, 52, 53, 54, 55, 56, 57, 97, 98, 99, 100, 101, 102] : List UInt8).getD (bits .and .u8 ((s.getD i.toNat 0).toNat : Int) (15 : Int)).toNat 0] : List UInt8), A_out2, c_out2, (out ++ ([([48, 49, 50, 51, 52, 53, 54, 55, 56, 57, 97, 98, 99, 100, 101, 102] : List UInt8).getD (shrV .u8 ((s.getD i.toNat 0).toNat : Int) 4).toNat 0, ([48, 49, 50, 51, 52, 53, 54, 55, 56, 57, 97, 98, 99, 100, 101, 102] : List UInt8).getD (bits .and .u8 ((s.getD i.toNat 0).toNat : Int) (15 : Int)).toNat 0] : List UInt8)).length, i + (1 : Int), rfl, rfl, H.1, rfl, gr5, k6, hO3, (Dj.app dj1.symm k4.lt' hk1).symm⟩ (by repeat (first | exact Sub.nil | refine Sub.cons rfl ?_)) H.2
  · replace H := H.2 (of_decide_eq_false b1)
    refine WC.exit (WX.then_exit (WX.then_exit (WX.block_same (WX.then_normal ?_))))
    refine WC.seq ?_
    refine WC.region ?_
    refine WL.y rfl (Yld.pure tab_ok rfl) ?_
    refine WL.y rfl (Yld.b2s tab_ok k3.rd rfl rfl rfl rfl rfl) ?_
    refine WL.y rfl (Yld.pure tab_ok rfl) ?_
    refine WL.nil (WX.then_normal ?_)
    refine WC.ret ?_
    exact WX.ret1 rfl rfl ⟨gr3, out, rfl, H⟩

set_option maxHeartbeats 8000000 in
theorem W_smithyref11_bound {w : World} {n : Int} {i : Int} {K : Int → Prop} (H : M_smithyref11_bound n i K) : Fn Tryz.prog 83 ⟨[.int .i64 n, .int .i64 i]⟩ w (fun v w' => w = w' ∧ ∃ (r : Int), v = .int .i64 r ∧ K r) := by
  unfold M_smithyref11_bound at H
  refine Fn.enter (by kernel_rfl) Tryz.func83 rfl Tryz.ntmps83 rfl ?_
  refine WC.seq ?_
  refine WC.region ?_
  refine WL.y rfl (Yld.pure tab_ok rfl) ?_
  refine WL.nil (WX.then_normal ?_)
  refine WC.seq ?_
  refine WC.seq ?_
  refine WC.region ?_
  refine WL.y rfl (Yld.pure tab_ok rfl) ?_
  refine WL.y rfl (Yld.pure tab_ok rfl) ?_
  refine WL.nil (WX.then_normal ?_)
  refine WC.cond rfl (fun b1 => ?_) (fun b1 => ?_)
  · replace H := H.1 (of_decide_eq_true b1)
    refine WC.seq ?_
    refine WC.seq ?_
    refine WC.region ?_
    refine WL.y rfl (Yld.pure tab_ok rfl) ?_
    refine WL.y rfl (Yld.pure tab_ok rfl) ?_
    obtain ⟨h1, H⟩ := H
    refine WL.y rfl (Yld.neg tab_ok rfl h1) ?_
    refine WL.y rfl (Yld.pure tab_ok rfl) ?_
    refine WL.nil (WX.then_normal ?_)
    refine WC.cond rfl (fun b2 => ?_) (fun b2 => ?_)
    · replace H := H.1 (of_decide_eq_true b2)
      refine WC.seq ?_
      refine WC.region ?_
      refine WL.y rfl (Yld.pure tab_ok rfl) ?_
      refine WL.nil (WX.then_normal ?_)
      refine WC.ret (WX.then_ret (WX.then_ret ?_))
      exact WX.ret1 rfl rfl ⟨rfl, (0 : Int), rfl, H⟩
    · replace H := H.2 (of_decide_eq_false b2)
      refine WC.skip (WX.then_normal ?_)
      refine WC.seq ?_
      refine WC.region ?_
      refine WL.y rfl (Yld.pure tab_ok rfl) ?_
      refine WL.y rfl (Yld.pure tab_ok rfl) ?_
      obtain ⟨h2, H⟩ := H
      refine WL.y rfl (Yld.add rfl rfl h2) ?_
      refine WL.y rfl (Yld.pure tab_ok rfl) ?_
      refine WL.nil (WX.then_normal ?_)
      refine WC.ret (WX.then_ret ?_)
      exact WX.ret1 rfl rfl ⟨rfl, n + i, rfl, H⟩
  · replace H := H.2 (of_decide_eq_false b1)
    refine WC.skip (WX.then_normal ?_)
    refine WC.seq ?_
    refine WC.region ?_
    refine WL.y rfl (Yld.pure tab_ok rfl) ?_
    refine WL.y rfl (Yld.pure tab_ok rfl) ?_
    refine WL.y rfl (Yld.min2 rfl rfl) ?_
    refine WL.y rfl (Yld.pure tab_ok rfl) ?_
    refine WL.nil (WX.then_normal ?_)
    refine WC.ret ?_
    exact WX.ret1 rfl rfl ⟨rfl, (if n < i then n else i), rfl, H⟩

set_option maxHeartbeats 8000000 in
theorem W_smithyref11_at {w : World} {s : List UInt8} {what : List UInt8} {i : Int} {K : Bool → Prop} (H : M_smithyref11_at s what i K) : Fn Tryz.prog 66 ⟨[vs s, vs what, .int .i64 i]⟩ w (fun v w' => w = w' ∧ ∃ (r : Bool), v = .bool r ∧ K r) := by
  unfold M_smithyref11_at at H
  refine Fn.enter (by kernel_rfl) Tryz.func66 rfl Tryz.ntmps66 rfl ?_
  refine WC.seq ?_
  refine WC.region ?_
  refine WL.y rfl (Yld.pure tab_ok rfl) ?_
  refine WL.nil (WX.then_normal ?_)
  refine WC.seq ?_
  refine WC.region ?_
  refine WL.y rfl (Yld.pure tab_ok rfl) ?_
  refine WL.y rfl (Yld.pure tab_ok rfl) ?_
  refine WL.y rfl (Yld.pure tab_ok rfl) ?_
  obtain ⟨h1, H⟩ := H
  refine WL.y rfl (Yld.sub rfl rfl h1) ?_
  refine WL.y rfl (Yld.pure tab_ok rfl) ?_
  refine WL.y rfl (Yld.pure tab_ok rfl) ?_
  refine WL.y rfl (Yld.pure tab_ok rfl) ?_
  refine WL.y rfl (Yld.pure tab_ok rfl) ?_
  obtain ⟨h2, H⟩ := H
  obtain ⟨h3, H⟩ := H
  refine WL.midF 10 (fun L' w' => ∃ q1 : Bool, L' = [(24, .bool q1)] ∧ q1 = ((decide ((what.length : Int) ≤ ((s.length : Int) - i))) && (decide (((s.drop i.toNat).take ((i + (what.length : Int)).toNat - i.toNat)) = what))) ∧ w = w') ?_ (fun hQ => ?_)
  · rintro _ _ ⟨q1, rfl, rfl, rfl⟩
    refine WL.y rfl (Yld.pure tab_ok rfl) ?_
    refine WL.nil (WX.then_normal ?_)
    refine WC.ret ?_
    exact WX.ret1 rfl rfl ⟨rfl, (decide ((what.length : Int) ≤ ((s.length : Int) - i))) && (decide (((s.drop i.toNat).take ((i + (what.length : Int)).toNat - i.toNat)) = what)), rfl, H⟩
  · clear H
    rcases Bool.eq_false_or_eq_true (decide ((what.length : Int) ≤ ((s.length : Int) - i))) with b1 | b1
    · refine WL.gyes rfl rfl (okb b1) rfl (Yld.pure tab_ok rfl) ?_
      refine WL.gyes rfl rfl (okb b1) rfl (Yld.pure tab_ok rfl) ?_
      refine WL.gyes rfl rfl (okb b1) rfl (Yld.pure tab_ok rfl) ?_
      refine WL.gyes rfl rfl (okb b1) rfl (Yld.pure tab_ok rfl) ?_
      refine WL.gyes rfl rfl (okb b1) rfl (Yld.pure tab_ok rfl) ?_
      refine WL.gyes rfl rfl (okb b1) rfl (Yld.add rfl rfl (h2 b1)) ?_
      refine WL.gyes rfl rfl (okb b1) rfl (Yld.scut tab_ok rfl rfl rfl rfl (h3 b1).1 (h3 b1).2.1 (h3 b1).2.2) ?_
      refine WL.gyes rfl rfl (okb b1) rfl (Yld.pure tab_ok rfl) ?_
      refine WL.gyes rfl rfl (okb b1) rfl (Yld.pure tab_ok rfl) ?_
      refine WL.y rfl (Yld.pickT (okb b1) rfl) ?_
      exact WL.weaken (by repeat (first | exact Sub.nil | refine Sub.cons rfl ?_)) (hQ _ _ ⟨decide (((s.drop i.toNat).take ((i + (what.length : Int)).toNat - i.toNat)) = what), rfl, by rw [b1] <;> rfl, rfl⟩)
    · refine WL.gno rfl rfl (okb b1) rfl ?_
      refine WL.gno rfl rfl (okb b1) rfl ?_
      refine WL.gno rfl rfl (okb b1) rfl ?_
      refine WL.gno rfl rfl (okb b1) rfl ?_
      refine WL.gno rfl rfl (okb b1) rfl ?_
      refine WL.gno rfl rfl (okb b1) rfl ?_
      refine WL.gno rfl rfl (okb b1) rfl ?_
      refine WL.gno rfl rfl (okb b1) rfl ?_
      refine WL.gno rfl rfl (okb b1) rfl ?_
      refine WL.y rfl (Yld.pickF (okb b1) rfl) ?_
      exact WL.weaken (by repeat (first | exact Sub.nil | refine Sub.cons rfl ?_)) (hQ _ _ ⟨false, rfl, by rw [b1] <;> rfl, rfl⟩)

set_option maxHeartbeats 8000000 in
theorem W_smithyref11_Cut {w : World} {n : Int} {from_ : Int} {to_ : Int} {has : Bool} {until_ : Bool} {K : Int → Int → Prop} (H : M_smithyref11_Cut n from_ to_ has until_ K) : Fn Tryz.prog 65 ⟨[.int .i64 n, .int .i64 from_, .int .i64 to_, .bool has, .bool until_]⟩ w (fun v w' => w = w' ∧ ∃ (r0 : Int), ∃ (r1 : Int), v = .tuple #[.int .i64 r0, .int .i64 r1] ∧ K r0 r1) := by
  unfold M_smithyref11_Cut at H
  refine Fn.enter (by kernel_rfl) Tryz.func65 rfl Tryz.ntmps65 rfl ?_
  refine WC.seq ?_
  refine WC.region ?_
  refine WL.y rfl (Yld.pure tab_ok rfl) ?_
  refine WL.y rfl (Yld.pure tab_ok rfl) ?_
  refine WL.nil (WX.then_normal ?_)
  refine WC.seq ?_
  refine WC.region ?_
  refine WL.y rfl (Yld.pure tab_ok rfl) ?_
  refine WL.y rfl (Yld.pure tab_ok rfl) ?_
  refine WL.call rfl rfl (W_smithyref11_bound H) ?_
  rintro _ _ ⟨rfl, a, rfl, H⟩
  refine WL.y rfl (Yld.pure tab_ok rfl) ?_
  refine WL.nil (WX.then_normal ?_)
  refine WC.seq ?_
  refine WC.region ?_
  refine WL.y rfl (Yld.pure tab_ok rfl) ?_
  refine WL.y rfl (Yld.pure tab_ok rfl) ?_
  refine WL.call rfl rfl (W_smithyref11_bound H) ?_
  rintro _ _ ⟨rfl, b, rfl, H⟩
  refine WL.y rfl (Yld.pure tab_ok rfl) ?_
  refine WL.nil (WX.then_normal ?_)
  refine WC.seq ?_
  obtain ⟨J1, H, hJ1⟩ := H
  refine WC.midF (fun L' w' => ∃ (a2 : Int), L' = [(0, .int .i64 n), (4, .bool until_), (12, .int .i64 a2), (13, .int .i64 b)] ∧ J1 a2 ∧ w = w') ?_ (fun hQ => ?_)
  · clear H
    rintro _ _ ⟨a2, rfl, H, rfl⟩
    replace H := hJ1 a2 H
    refine WX.then_normal ?_
    refine WC.seq ?_
    obtain ⟨J2, H, hJ2⟩ := H
    refine WC.midF (fun L' w' => ∃ (b2 : Int), L' = [(12, .int .i64 a2), (13, .int .i64 b2)] ∧ J2 b2 ∧ w = w') ?_ (fun hQ => ?_)
    · clear H
      rintro _ _ ⟨b2, rfl, H, rfl⟩
      replace H := hJ2 b2 H
      refine WX.then_normal ?_
      refine WC.seq ?_
      refine WC.region ?_
      refine WL.y rfl (Yld.pure tab_ok rfl) ?_
      refine WL.y rfl (Yld.pure tab_ok rfl) ?_
      refine WL.y rfl (Yld.pure tab_ok rfl) ?_
      refine WL.y rfl (Yld.max2 rfl rfl) ?_
      refine WL.y rfl (Yld.pure tab_ok rfl) ?_
      refine WL.y rfl (Yld.pure tab_ok rfl) ?_
      refine WL.nil (WX.then_normal ?_)
      refine WC.ret ?_
      exact WX.ret2 rfl rfl rfl ⟨rfl, a2, (if a2 < b2 then b2 else a2), rfl, H⟩
    · clear hJ2
      refine WC.seq ?_
      refine WC.region ?_
      refine WL.y rfl (Yld.pure tab_ok rfl) ?_
      refine WL.y rfl (Yld.pure tab_ok rfl) ?_
      refine WL.nil (WX.then_normal ?_)
      refine WC.cond rfl (fun b1 => ?_) (fun b1 => ?_)
      · replace H := H.1 (b1)
        refine WC.region ?_
        refine WL.y rfl (Yld.pure tab_ok rfl) ?_
        refine WL.y rfl (Yld.pure tab_ok rfl) ?_
        refine WL.nil ?_
        exact WX.weaken (by repeat (first | exact Sub.nil | refine Sub.cons rfl ?_)) (hQ _ _ ⟨n, rfl, H, rfl⟩)
      · replace H := H.2 (b1)
        refine WC.skip ?_
        exact WX.weaken (by repeat (first | exact Sub.nil | refine Sub.cons rfl ?_)) (hQ _ _ ⟨b, rfl, H, rfl⟩)
  · clear hJ1
    refine WC.seq ?_
    refine WC.region ?_
    refine WL.y rfl (Yld.pure tab_ok rfl) ?_
    refine WL.y rfl (Yld.pure tab_ok rfl) ?_
    refine WL.nil (WX.then_normal ?_)
    refine WC.cond rfl (fun b2 => ?_) (fun b2 => ?_)
    · replace H := H.1 (b2)
      refine WC.region ?_
      refine WL.y rfl (Yld.pure tab_ok rfl) ?_
      refine WL.nil ?_
      exact WX.weaken (by repeat (first | exact Sub.nil | refine Sub.cons rfl ?_)) (hQ _ _ ⟨(0 : Int), rfl, H, rfl⟩)
    · replace H := H.2 (b2)
      refine WC.skip ?_
      exact WX.weaken (by repeat (first | exact Sub.nil | refine Sub.cons rfl ?_)) (hQ _ _ ⟨a, rfl, H, rfl⟩)

set_option maxHeartbeats 8000000 in
theorem W_smithyref11_Find {w : World} {s : List UInt8} {what : List UInt8} {from_ : Int} {to_ : Int} {K : Int → Prop} (H : M_smithyref11_Find s what from_ to_ K) : Fn Tryz.prog 41 ⟨[vs s, vs what, .int .i64 from_, .int .i64 to_]⟩ w (fun v w' => w = w' ∧ ∃ (r : Int), v = .int .i64 r ∧ K r) := by
  unfold M_smithyref11_Find at H
  refine Fn.enter (by kernel_rfl) Tryz.func41 rfl Tryz.ntmps41 rfl ?_
  refine WC.seq ?_
  refine WC.region ?_
  refine WL.y rfl (Yld.pure tab_ok rfl) ?_
  refine WL.nil (WX.then_normal ?_)
  refine WC.seq ?_
  refine WC.region ?_
  refine WL.y rfl (Yld.pure tab_ok rfl) ?_
  refine WL.y rfl (Yld.pure tab_ok rfl) ?_
  refine WL.y rfl (Yld.pure tab_ok rfl) ?_
  refine WL.y rfl (Yld.pure tab_ok rfl) ?_
  refine WL.call rfl rfl (W_smithyref11_Cut H) ?_
  rintro _ _ ⟨rfl, t170, t171, rfl, H⟩
  refine WL.y rfl (Yld.pure tab_ok rfl) ?_
  refine WL.y rfl (Yld.pure tab_ok rfl) ?_
  refine WL.y rfl (Yld.pure tab_ok rfl) ?_
  refine WL.y rfl (Yld.pure tab_ok rfl) ?_
  refine WL.y rfl (Yld.pure tab_ok rfl) ?_
  refine WL.nil (WX.then_normal ?_)
  refine WC.seq ?_
  refine WC.seq ?_
  refine WC.region ?_
  refine WL.y rfl (Yld.pure tab_ok rfl) ?_
  refine WL.y rfl (Yld.pure tab_ok rfl) ?_
  refine WL.nil (WX.then_normal ?_)
  refine WC.block ?_
  obtain ⟨I1, mu1, h0_1, HR1⟩ := H
  refine WC.loopF (fun n' L' w' => ∃ (i : Int), n' = mu1 i ∧ L' = [(0, vs s), (1, vs what), (10, .int .i64 t171), (11, .int .i64 i)] ∧ I1 i ∧ w = w') _ _ ⟨t170, rfl, rfl, h0_1, rfl⟩ (by repeat (first | exact Sub.nil | refine Sub.cons rfl ?_)) ?_
  clear h0_1
  rintro _ _ _ ⟨i, rfl, rfl, hI1, rfl⟩
  have H := HR1 i hI1
  refine WC.seq ?_
  refine WC.seq ?_
  refine WC.region ?_
  refine WL.y rfl (Yld.pure tab_ok rfl) ?_
  refine WL.y rfl (Yld.pure tab_ok rfl) ?_
  refine WL.y rfl (Yld.pure tab_ok rfl) ?_
  refine WL.y rfl (Yld.pure tab_ok rfl) ?_
  obtain ⟨h1, H⟩ := H
  refine WL.y rfl (Yld.sub rfl rfl h1) ?_
  refine WL.y rfl (Yld.pure tab_ok rfl) ?_
  refine WL.nil (WX.then_normal ?_)
  refine WC.cond rfl (fun b1 => ?_) (fun b1 => ?_)
  · replace H := H.1 (of_decide_eq_true b1)
    refine WC.skip (WX.then_normal ?_)
    refine WC.seq ?_
    refine WC.block ?_
    refine WC.seq ?_
    refine WC.region ?_
    refine WL.y rfl (Yld.pure tab_ok rfl) ?_
    refine WL.y rfl (Yld.pure tab_ok rfl) ?_
    refine WL.y rfl (Yld.pure tab_ok rfl) ?_
    refine WL.call rfl rfl (W_smithyref11_at H) ?_
    rintro _ _ ⟨rfl, t32, rfl, H⟩
    refine WL.nil (WX.then_normal ?_)
    refine WC.cond rfl (fun b2 => ?_) (fun b2 => ?_)
    · replace H := H.1 (b2)
      refine WC.seq ?_
      refine WC.region ?_
      refine WL.y rfl (Yld.pure tab_ok rfl) ?_
      refine WL.y rfl (Yld.pure tab_ok rfl) ?_
      refine WL.nil (WX.then_normal ?_)
      refine WC.ret (WX.block_ret (WX.then_ret (WX.then_ret (WX.block_ret (WX.then_ret ?_)))))
      exact WX.ret1 rfl rfl ⟨rfl, i, rfl, H⟩
    · replace H := H.2 (b2)
      refine WC.skip (WX.block_normal (WX.then_normal ?_))
      refine WC.region ?_
      refine WL.y rfl (Yld.pure tab_ok rfl) ?_
      obtain ⟨h2, H⟩ := H
      refine WL.y rfl (Yld.add rfl rfl h2) ?_
      refine WL.y rfl (Yld.pure tab_ok rfl) ?_
      refine WL.nil ?_
      exact WX.roundF _ ⟨i + (1 : Int), rfl, rfl, H.1, rfl⟩ (by repeat (first | exact Sub.nil | refine Sub.cons rfl ?_)) H.2
  · replace H := H.2 (of_decide_eq_false b1)
    refine WC.exit (WX.then_exit (WX.then_exit (WX.block_same (WX.then_normal ?_))))
    refine WC.seq ?_
    refine WC.region ?_
    refine WL.y rfl (Yld.pure tab_ok rfl) ?_
    refine WL.nil (WX.then_normal ?_)
    refine WC.ret ?_
    exact WX.ret1 rfl rfl ⟨rfl, (-1 : Int), rfl, H⟩

set_option maxHeartbeats 8000000 in
theorem W_smithyref17_Lines {w : World} {s : List UInt8} {K : (List (List UInt8)) → Prop} (H : M_smithyref17_Lines s K) : Fn Tryz.prog 17 ⟨[vs s]⟩ w (fun v w' => w.grownBy w' none ∧ ∃ (r : List (List UInt8)), ∃ (A_r : Option Addr), ∃ (c_r : Nat), v = .slice A_r r.length c_r ∧ Own vs w' w.heap.size 9 A_r c_r r ∧ K r) := by
  unfold M_smithyref17_Lines at H
  refine Fn.enter (by kernel_rfl) Tryz.func17 rfl Tryz.ntmps17 rfl ?_
  refine WC.seq ?_
  refine WC.region ?_
  refine WL.y rfl (Yld.pure tab_ok rfl) ?_
  refine WL.nil (WX.then_normal ?_)
  refine WC.seq ?_
  refine WC.region ?_
  refine WL.y rfl (Yld.pure tab_ok rfl) ?_
  refine WL.nil (WX.then_normal ?_)
  refine WC.seq ?_
  refine WC.region ?_
  refine WL.y rfl (Yld.pure tab_ok rfl) ?_
  refine WL.nil (WX.then_normal ?_)
  refine WC.seq ?_
  refine WC.seq ?_
  refine WC.region ?_
  refine WL.y rfl (Yld.pure tab_ok rfl) ?_
  refine WL.nil (WX.then_normal ?_)
  refine WC.block ?_
  obtain ⟨I1, mu1, h0_1, HR1⟩ := H
  refine WC.loopF (fun n' L' w' => ∃ (l : List (List UInt8)), ∃ (A_l : Option Addr), ∃ (c_l : Nat), ∃ (n_l : Nat), ∃ (from_ : Int), ∃ (i : Int), n' = mu1 l from_ i ∧ L' = [(0, vs s), (3, .slice A_l n_l c_l), (4, .int .i64 from_), (5, .int .i64 i)] ∧ I1 l from_ i ∧ n_l = l.length ∧ w.grownBy w' none ∧ Own vs w' w.heap.size 9 A_l c_l l) _ _ ⟨[], none, 0, 0, (0 : Int), (0 : Int), rfl, rfl, h0_1, rfl, (gr_refl _ _), (Own.nil vs w w.heap.size 9)⟩ (by repeat (first | exact Sub.nil | refine Sub.cons rfl ?_)) ?_
  clear h0_1
  rintro _ _ w1 ⟨l, A_l, c_l, n_l, from_, i, rfl, rfl, hI1, rfl, gr1, k1⟩
  have H := HR1 l from_ i hI1
  refine WC.seq ?_
  refine WC.seq ?_
  refine WC.region ?_
  refine WL.y rfl (Yld.pure tab_ok rfl) ?_
  refine WL.y rfl (Yld.pure tab_ok rfl) ?_
  refine WL.y rfl (Yld.pure tab_ok rfl) ?_
  refine WL.y rfl (Yld.pure tab_ok rfl) ?_
  refine WL.nil (WX.then_normal ?_)
  refine WC.cond rfl (fun b1 => ?_) (fun b1 => ?_)
  · replace H := H.1 (of_decide_eq_true b1)
    refine WC.skip (WX.then_normal ?_)
    refine WC.seq ?_
    obtain ⟨J1, H, hJ1⟩ := H
    refine WC.midF (fun L' w' => ∃ (l2 : List (List UInt8)), ∃ (A_l2 : Option Addr), ∃ (c_l2 : Nat), ∃ (n_l2 : Nat), ∃ (from_2 : Int), L' = [(0, vs s), (3, .slice A_l2 n_l2 c_l2), (4, .int .i64 from_2), (5, .int .i64 i)] ∧ J1 l2 from_2 ∧ n_l2 = l2.length ∧ w.grownBy w' none ∧ Own vs w' w.heap.size 9 A_l2 c_l2 l2) ?_ (fun hQ => ?_)
    · clear H
      rintro _ w2 ⟨l2, A_l2, c_l2, n_l2, from_2, rfl, H, rfl, gr2, k2⟩
      replace H := hJ1 l2 from_2 H
      refine WX.then_normal ?_
      refine WC.region ?_
      refine WL.y rfl (Yld.pure tab_ok rfl) ?_
      obtain ⟨h1, H⟩ := H
      refine WL.y rfl (Yld.add rfl rfl h1) ?_
      refine WL.y rfl (Yld.pure tab_ok rfl) ?_
      refine WL.nil ?_
      exact WX.roundF _ ⟨l2, A_l2, c_l2, l2.length, from_2, i + (1 : Int), rfl, rfl, H.1, rfl, gr2, k2⟩ (by repeat (first | exact Sub.nil | refine Sub.cons rfl ?_)) H.2
    · clear hJ1
      refine WC.block ?_
      refine WC.seq ?_
      refine WC.region ?_
      refine WL.y rfl (Yld.pure tab_ok rfl) ?_
      refine WL.y rfl (Yld.pure tab_ok rfl) ?_
      obtain ⟨h2, H⟩ := H
      refine WL.y rfl (Yld.sidx tab_ok rfl rfl rfl h2.1 h2.2) ?_
      refine WL.y rfl (Yld.pure tab_ok rfl) ?_
      refine WL.nil (WX.then_normal ?_)
      refine WC.cond rfl (fun b2 => ?_) (fun b2 => ?_)
      · replace H := H.1 (of_decide_eq_true b2)
        refine WC.seq ?_
        refine WC.region ?_
        refine WL.y rfl (Yld.pure tab_ok rfl) ?_
        refine WL.y rfl (Yld.pure tab_ok rfl) ?_
        refine WL.y rfl (Yld.pure tab_ok rfl) ?_
        refine WL.y rfl (Yld.pure tab_ok rfl) ?_
        obtain ⟨h3, H⟩ := H
        refine WL.y rfl (Yld.scut tab_ok rfl rfl rfl rfl h3.1 h3.2.1 h3.2.2) ?_
        refine WL.lit tab_ok rfl rfl rfl (all1c rfl all1n) rfl (by omega) (fun g1 w3 hB1 hg1 hl1 => ?_)
        have hO1 : Own vs w3 w.heap.size 9 (some ⟨g1, 0, none⟩) 1 ([(s.drop from_.toNat).take (i.toNat - from_.toNat)] : List (List UInt8)) := Own.ofBl hB1 (Nat.le_trans (size_le gr1) hl1) (by simp [maxLen]) rfl
        have gr3 := gr_trans gr1 hg1
        have k3 := k1.grown hg1
        obtain ⟨h4, H⟩ := H
        refine WL.append tab_ok rfl rfl One.s k3 rfl rfl hO1.rd rfl rfl h4 (applen h4) (size_le gr3) (fun A_l3 c_l3 w4 hO2 hg2 hk1 => ?_)
        have gr4 := gr_mod gr3 hg2 k3.ge'
        refine WL.y rfl (Yld.pure tab_ok rfl) ?_
        refine WL.nil (WX.then_normal ?_)
        refine WC.region ?_
        refine WL.y rfl (Yld.pure tab_ok rfl) ?_
        obtain ⟨h5, H⟩ := H
        refine WL.y rfl (Yld.add rfl rfl h5) ?_
        refine WL.y rfl (Yld.pure tab_ok rfl) ?_
        refine WL.nil (WX.block_normal ?_)
        exact WX.weaken (by repeat (first | exact Sub.nil | refine Sub.cons rfl ?_)) (hQ _ _ ⟨l ++ ([(s.drop from_.toNat).take (i.toNat - from_.toNat)] : List (List UInt8)), A_l3, c_l3, (l ++ ([(s.drop from_.toNat).take (i.toNat - from_.toNat)] : List (List UInt8))).length, i + (1 : Int), rfl, H, rfl, gr4, hO2⟩)
      · replace H := H.2 (of_decide_eq_false b2)
        refine WC.skip (WX.block_normal ?_)
        exact WX.weaken (by repeat (first | exact Sub.nil | refine Sub.cons rfl ?_)) (hQ _ _ ⟨l, A_l, c_l, l.length, from_, rfl, H, rfl, gr1, k1⟩)
  · replace H := H.2 (of_decide_eq_false b1)
    refine WC.exit (WX.then_exit (WX.then_exit (WX.block_same (WX.then_normal ?_))))
    refine WC.seq ?_
    obtain ⟨J2, H, hJ2⟩ := H
    refine WC.midF (fun L' w' => ∃ (l3 : List (List UInt8)), ∃ (A_l4 : Option Addr), ∃ (c_l4 : Nat), ∃ (n_l3 : Nat), L' = [(3, .slice A_l4 n_l3 c_l4)] ∧ J2 l3 ∧ n_l3 = l3.length ∧ w.grownBy w' none ∧ Own vs w' w.heap.size 9 A_l4 c_l4 l3) ?_ (fun hQ => ?_)
    · clear H
      rintro _ w5 ⟨l3, A_l4, c_l4, n_l3, rfl, H, rfl, gr5, k4⟩
      replace H := hJ2 l3 H
      refine WX.then_normal ?_
      refine WC.seq ?_
      refine WC.region ?_
      refine WL.y rfl (Yld.pure tab_ok rfl) ?_
      refine WL.y rfl (Yld.pure tab_ok rfl) ?_
      refine WL.nil (WX.then_normal ?_)
      refine WC.ret ?_
      exact WX.ret1 rfl rfl ⟨gr5, l3, A_l4, c_l4, rfl, k4, H⟩
    · clear hJ2
      refine WC.seq ?_
      refine WC.region ?_
      refine WL.y rfl (Yld.pure tab_ok rfl) ?_
      refine WL.y rfl (Yld.pure tab_ok rfl) ?_
      refine WL.y rfl (Yld.pure tab_ok rfl) ?_
      refine WL.y rfl (Yld.pure tab_ok rfl) ?_
      refine WL.nil (WX.then_normal ?_)
      refine WC.cond rfl (fun b3 => ?_) (fun b3 => ?_)
      · replace H := H.1 (of_decide_eq_true b3)
        refine WC.region ?_
        refine WL.y rfl (Yld.pure tab_ok rfl) ?_
        refine WL.y rfl (Yld.pure tab_ok rfl) ?_
        refine WL.y rfl (Yld.pure tab_ok rfl) ?_
        obtain ⟨h6, H⟩ := H
        refine WL.y rfl (Yld.scutF tab_ok rfl rfl rfl h6.1 h6.2) ?_
        refine WL.lit tab_ok rfl rfl rfl (all1c rfl all1n) rfl (by omega) (fun g2 w6 hB2 hg3 hl2 => ?_)
        have hO3 : Own vs w6 w.heap.size 9 (some ⟨g2, 0, none⟩) 1 ([s.drop from_.toNat] : List (List UInt8)) := Own.ofBl hB2 (Nat.le_trans (size_le gr1) hl2) (by simp [maxLen]) rfl
        have gr6 := gr_trans gr1 hg3
        have k5 := k1.grown hg3
        obtain ⟨h7, H⟩ := H
        refine WL.append tab_ok rfl rfl One.s k5 rfl rfl hO3.rd rfl rfl h7 (applen h7) (size_le gr6) (fun A_l5 c_l5 w7 hO4 hg4 hk2 => ?_)
        have gr7 := gr_mod gr6 hg4 k5.ge'
        refine WL.y rfl (Yld.pure tab_ok rfl) ?_
        refine WL.nil ?_
        exact WX.weaken (by repeat (first | exact Sub.nil | refine Sub.cons rfl ?_)) (hQ _ _ ⟨l ++ ([s.drop from_.toNat] : List (List UInt8)), A_l5, c_l5, (l ++ ([s.drop from_.toNat] : List (List UInt8))).length, rfl, H, rfl, gr7, hO4⟩)
      · replace H := H.2 (of_decide_eq_false b3)
        refine WC.skip ?_
        exact WX.weaken (by repeat (first | exact Sub.nil | refine Sub.cons rfl ?_)) (hQ _ _ ⟨l, A_l, c_l, l.length, rfl, H, rfl, gr1, k1⟩)

set_option maxHeartbeats 8000000 in
theorem W_smithyref17_lines {w : World} {inputs : List (List UInt8)} {A_inputs : Option Addr} {c_inputs : Nat} {n_inputs : Nat} {K : (List (List UInt8)) → Prop} (hinputs : Rd vs w A_inputs c_inputs inputs) (hn_inputs : n_inputs = inputs.length) (H : M_smithyref17_lines inputs K) : Fn Tryz.prog 40 ⟨[.slice A_inputs n_inputs c_inputs]⟩ w (fun v w' => w.grownBy w' none ∧ ∃ (r : List (List UInt8)), ∃ (A_r : Option Addr), ∃ (c_r : Nat), v = .slice A_r r.length c_r ∧ Own vs w' w.heap.size 9 A_r c_r r ∧ K r) := by
  subst hn_inputs
  unfold M_smithyref17_lines at H
  refine Fn.enter (by kernel_rfl) Tryz.func40 rfl Tryz.ntmps40 rfl ?_
  replace H := H (Nat.le_trans hinputs.cap hinputs.max)
  refine WC.seq ?_
  refine WC.region ?_
  refine WL.y rfl (Yld.pure tab_ok rfl) ?_
  refine WL.nil (WX.then_normal ?_)
  refine WC.seq ?_
  refine WC.region ?_
  refine WL.y rfl (Yld.pure tab_ok rfl) ?_
  refine WL.nil (WX.then_normal ?_)
  refine WC.seq ?_
  refine WC.seq ?_
  refine WC.region ?_
  refine WL.y rfl (Yld.pure tab_ok rfl) ?_
  refine WL.nil (WX.then_normal ?_)
  refine WC.block ?_
  obtain ⟨I1, mu1, h0_1, HR1⟩ := H
  refine WC.loopF (fun n' L' w' => ∃ (out : List (List UInt8)), ∃ (A_out : Option Addr), ∃ (c_out : Nat), ∃ (n_out : Nat), ∃ (i : Int), n' = mu1 out i ∧ L' = [(0, .slice A_inputs inputs.length c_inputs), (3, .slice A_out n_out c_out), (4, .int .i64 i)] ∧ I1 out i ∧ n_out = out.length ∧ w.grownBy w' none ∧ Own vs w' w.heap.size 9 A_out c_out out) _ _ ⟨[], none, 0, 0, (0 : Int), rfl, rfl, h0_1, rfl, (gr_refl _ _), (Own.nil vs w w.heap.size 9)⟩ (by repeat (first | exact Sub.nil | refine Sub.cons rfl ?_)) ?_
  clear h0_1
  rintro _ _ w1 ⟨out, A_out, c_out, n_out, i, rfl, rfl, hI1, rfl, gr1, k1⟩
  have H := HR1 out i hI1
  refine WC.seq ?_
  refine WC.seq ?_
  refine WC.region ?_
  refine WL.y rfl (Yld.pure tab_ok rfl) ?_
  refine WL.y rfl (Yld.pure tab_ok rfl) ?_
  refine WL.y rfl (Yld.pure tab_ok rfl) ?_
  refine WL.y rfl (Yld.pure tab_ok rfl) ?_
  refine WL.nil (WX.then_normal ?_)
  refine WC.cond rfl (fun b1 => ?_) (fun b1 => ?_)
  · replace H := H.1 (of_decide_eq_true b1)
    refine WC.skip (WX.then_normal ?_)
    refine WC.seq ?_
    refine WC.block ?_
    refine WC.region ?_
    refine WL.y rfl (Yld.pure tab_ok rfl) ?_
    refine WL.y rfl (Yld.pure tab_ok rfl) ?_
    refine WL.y rfl (Yld.pure tab_ok rfl) ?_
    obtain ⟨h1, H⟩ := H
    refine WL.y rfl (Yld.iaddrW tab_ok (hinputs.grown gr1) rfl rfl rfl rfl h1.1 h1.2) ?_
    refine WL.y rfl (Yld.iload [] tab_ok (hinputs.grown gr1) rfl rfl (iltN h1 rfl)) ?_
    refine WL.call rfl rfl (W_smithyref17_Lines H) ?_
    rintro _ w2 ⟨hg1, t16, A_t16, c_t16, rfl, ht16, H⟩
    have hb1 := ht16.ge'
    have k2 := ht16.base (fun g hg => Nat.le_trans (size_le gr1) (hb1 g hg))
    have gr2 := gr_trans gr1 hg1
    have k3 := k1.grown hg1
    obtain ⟨h2, H⟩ := H
    refine WL.append tab_ok rfl rfl One.s k3 rfl rfl k2.rd rfl rfl h2 (applen h2) (size_le gr2) (fun A_out2 c_out2 w3 hO1 hg2 hk1 => ?_)
    have gr3 := gr_mod gr2 hg2 k3.ge'
    refine WL.y rfl (Yld.pure tab_ok rfl) ?_
    refine WL.nil (WX.block_normal (WX.then_normal ?_))
    refine WC.region ?_
    refine WL.y rfl (Yld.pure tab_ok rfl) ?_
    obtain ⟨h3, H⟩ := H
    refine WL.y rfl (Yld.add rfl rfl h3) ?_
    refine WL.y rfl (Yld.pure tab_ok rfl) ?_
    refine WL.nil ?_
    exact WX.roundF _ ⟨out ++ t16, A_out2, c_out2, (out ++ t16).length, i + (1 : Int), rfl, rfl, H.1, rfl, gr3, hO1⟩ (by repeat (first | exact Sub.nil | refine Sub.cons rfl ?_)) H.2
  · replace H := H.2 (of_decide_eq_false b1)
    refine WC.exit (WX.then_exit (WX.then_exit (WX.block_same (WX.then_normal ?_))))
    refine WC.seq ?_
    refine WC.region ?_
    refine WL.y rfl (Yld.pure tab_ok rfl) ?_
    refine WL.y rfl (Yld.pure tab_ok rfl) ?_
    refine WL.nil (WX.then_normal ?_)
    refine WC.ret ?_
    exact WX.ret1 rfl rfl ⟨gr1, out, A_out, c_out, rfl, k1, H⟩

set_option maxHeartbeats 8000000 in
theorem W_smithyref17_joined {w : World} {l : List (List UInt8)} {A_l : Option Addr} {c_l : Nat} {n_l : Nat} {K : (List UInt8) → Prop} (hl : Rd vs w A_l c_l l) (hn_l : n_l = l.length) (H : M_smithyref17_joined l K) : Fn Tryz.prog 42 ⟨[.slice A_l n_l c_l]⟩ w (fun v w' => w.grownBy w' none ∧ ∃ (r : List UInt8), v = vs r ∧ K r) := by
  subst hn_l
  unfold M_smithyref17_joined at H
  refine Fn.enter (by kernel_rfl) Tryz.func42 rfl Tryz.ntmps42 rfl ?_
  replace H := H (Nat.le_trans hl.cap hl.max)
  refine WC.seq ?_
  refine WC.region ?_
  refine WL.y rfl (Yld.pure tab_ok rfl) ?_
  refine WL.nil (WX.then_normal ?_)
  refine WC.seq ?_
  refine WC.region ?_
  refine WL.y rfl (Yld.pure tab_ok rfl) ?_
  refine WL.nil (WX.then_normal ?_)
  refine WC.seq ?_
  refine WC.seq ?_
  refine WC.region ?_
  refine WL.y rfl (Yld.pure tab_ok rfl) ?_
  refine WL.nil (WX.then_normal ?_)
  refine WC.block ?_
  obtain ⟨I1, mu1, h0_1, HR1⟩ := H
  refine WC.loopF (fun n' L' w' => ∃ (b : List UInt8), ∃ (A_b : Option Addr), ∃ (c_b : Nat), ∃ (n_b : Nat), ∃ (i : Int), n' = mu1 b i ∧ L' = [(0, .slice A_l l.length c_l), (3, .slice A_b n_b c_b), (4, .int .i64 i)] ∧ I1 b i ∧ n_b = b.length ∧ w.grownBy w' none ∧ Own vb w' w.heap.size 5 A_b c_b b) _ _ ⟨[], none, 0, 0, (0 : Int), rfl, rfl, h0_1, rfl, (gr_refl _ _), (Own.nil vb w w.heap.size 5)⟩ (by repeat (first | exact Sub.nil | refine Sub.cons rfl ?_)) ?_
  clear h0_1
  rintro _ _ w1 ⟨b, A_b, c_b, n_b, i, rfl, rfl, hI1, rfl, gr1, k1⟩
  have H := HR1 b i hI1
  refine WC.seq ?_
  refine WC.seq ?_
  refine WC.region ?_
  refine WL.y rfl (Yld.pure tab_ok rfl) ?_
  refine WL.y rfl (Yld.pure tab_ok rfl) ?_
  refine WL.y rfl (Yld.pure tab_ok rfl) ?_
  refine WL.y rfl (Yld.pure tab_ok rfl) ?_
  refine WL.nil (WX.then_normal ?_)
  refine WC.cond rfl (fun b1 => ?_) (fun b1 => ?_)
  · replace H := H.1 (of_decide_eq_true b1)
    refine WC.skip (WX.then_normal ?_)
    refine WC.seq ?_
    refine WC.block ?_
    refine WC.seq ?_
    refine WC.region ?_
    refine WL.y rfl (Yld.pure tab_ok rfl) ?_
    refine WL.y rfl (Yld.pure tab_ok rfl) ?_
    refine WL.y rfl (Yld.pure tab_ok rfl) ?_
    obtain ⟨h1, H⟩ := H
    refine WL.y rfl (Yld.iaddrW tab_ok (hl.grown gr1) rfl rfl rfl rfl h1.1 h1.2) ?_
    refine WL.y rfl (Yld.iload [] tab_ok (hl.grown gr1) rfl rfl (iltN h1 rfl)) ?_
    obtain ⟨h2, H⟩ := H
    refine WL.appendS tab_ok rfl rfl rfl k1 rfl rfl rfl h2 (applen h2) (size_le gr1) (fun A_b2 c_b2 w2 hO1 hg1 hk1 => ?_)
    have gr2 := gr_mod gr1 hg1 k1.ge'
    refine WL.y rfl (Yld.pure tab_ok rfl) ?_
    refine WL.nil (WX.then_normal ?_)
    refine WC.region ?_
    refine WL.y rfl (Yld.pure tab_ok rfl) ?_
    refine WL.lit tab_ok rfl rfl rfl (all1c rfl all1n) rfl (by omega) (fun g1 w3 hB1 hg2 hl1 => ?_)
    have hO2 : Own vb w3 w.heap.size 5 (some ⟨g1, 0, none⟩) 1 ([10] : List UInt8) := Own.ofBl hB1 (Nat.le_trans (size_le gr2) hl1) (by simp [maxLen]) rfl
    have gr3 := gr_trans gr2 hg2
    have k2 := hO1.grown hg2
    obtain ⟨h3, H⟩ := H
    refine WL.append tab_ok rfl rfl One.b k2 rfl rfl hO2.rd rfl rfl h3 (applen h3) (size_le gr3) (fun A_b3 c_b3 w4 hO3 hg3 hk2 => ?_)
    have gr4 := gr_mod gr3 hg3 k2.ge'
    refine WL.y rfl (Yld.pure tab_ok rfl) ?_
    refine WL.nil (WX.block_normal (WX.then_normal ?_))
    refine WC.region ?_
    refine WL.y rfl (Yld.pure tab_ok rfl) ?_
    obtain ⟨h4, H⟩ := H
    refine WL.y rfl (Yld.add rfl rfl h4) ?_
    refine WL.y rfl (Yld.pure tab_ok rfl) ?_
    refine WL.nil ?_
    exact WX.roundF _ ⟨(b ++ (l.getD i.toNat [])) ++ ([10] : List UInt8), A_b3, c_b3, ((b ++ (l.getD i.toNat [])) ++ ([10] : List UInt8)).length, i + (1 : Int), rfl, rfl, H.1, rfl, gr4, hO3⟩ (by repeat (first | exact Sub.nil | refine Sub.cons rfl ?_)) H.2
  · replace H := H.2 (of_decide_eq_false b1)
    refine WC.exit (WX.then_exit (WX.then_exit (WX.block_same (WX.then_normal ?_))))
    refine WC.seq ?_
    refine WC.region ?_
    refine WL.y rfl (Yld.pure tab_ok rfl) ?_
    refine WL.y rfl (Yld.b2s tab_ok k1.rd rfl rfl rfl rfl rfl) ?_
    refine WL.y rfl (Yld.pure tab_ok rfl) ?_
    refine WL.nil (WX.then_normal ?_)
    refine WC.ret ?_
    exact WX.ret1 rfl rfl ⟨gr1, b, rfl, H⟩

set_option maxHeartbeats 8000000 in
theorem W_smithyref17_concat {w : World} {by_ : List UInt8} {l : List (List UInt8)} {A_l : Option Addr} {c_l : Nat} {n_l : Nat} {K : (List UInt8) → Prop} (hl : Rd vs w A_l c_l l) (hn_l : n_l = l.length) (H : M_smithyref17_concat by_ l K) : Fn Tryz.prog 39 ⟨[vs by_, .slice A_l n_l c_l]⟩ w (fun v w' => w.grownBy w' none ∧ ∃ (r : List UInt8), v = vs r ∧ K r) := by
  subst hn_l
  unfold M_smithyref17_concat at H
  refine Fn.enter (by kernel_rfl) Tryz.func39 rfl Tryz.ntmps39 rfl ?_
  replace H := H (Nat.le_trans hl.cap hl.max)
  refine WC.seq ?_
  refine WC.region ?_
  refine WL.y rfl (Yld.pure tab_ok rfl) ?_
  refine WL.nil (WX.then_normal ?_)
  refine WC.seq ?_
  refine WC.region ?_
  refine WL.y rfl (Yld.pure tab_ok rfl) ?_
  refine WL.nil (WX.then_normal ?_)
  refine WC.seq ?_
  refine WC.seq ?_
  refine WC.region ?_
  refine WL.y rfl (Yld.pure tab_ok rfl) ?_
  refine WL.nil (WX.then_normal ?_)
  refine WC.block ?_
  obtain ⟨I1, mu1, h0_1, HR1⟩ := H
  refine WC.loopF (fun n' L' w' => ∃ (b : List UInt8), ∃ (A_b : Option Addr), ∃ (c_b : Nat), ∃ (n_b : Nat), ∃ (i : Int), n' = mu1 b i ∧ L' = [(0, vs by_), (1, .slice A_l l.length c_l), (5, .slice A_b n_b c_b), (6, .int .i64 i)] ∧ I1 b i ∧ n_b = b.length ∧ w.grownBy w' none ∧ Own vb w' w.heap.size 5 A_b c_b b) _ _ ⟨[], none, 0, 0, (0 : Int), rfl, rfl, h0_1, rfl, (gr_refl _ _), (Own.nil vb w w.heap.size 5)⟩ (by repeat (first | exact Sub.nil | refine Sub.cons rfl ?_)) ?_
  clear h0_1
  rintro _ _ w1 ⟨b, A_b, c_b, n_b, i, rfl, rfl, hI1, rfl, gr1, k1⟩
  have H := HR1 b i hI1
  refine WC.seq ?_
  refine WC.seq ?_
  refine WC.region ?_
  refine WL.y rfl (Yld.pure tab_ok rfl) ?_
  refine WL.y rfl (Yld.pure tab_ok rfl) ?_
  refine WL.y rfl (Yld.pure tab_ok rfl) ?_
  refine WL.y rfl (Yld.pure tab_ok rfl) ?_
  refine WL.nil (WX.then_normal ?_)
  refine WC.cond rfl (fun b1 => ?_) (fun b1 => ?_)
  · replace H := H.1 (of_decide_eq_true b1)
    refine WC.skip (WX.then_normal ?_)
    refine WC.seq ?_
    refine WC.block ?_
    refine WC.seq ?_
    obtain ⟨J1, H, hJ1⟩ := H
    refine WC.midF (fun L' w' => ∃ (b2 : List UInt8), ∃ (A_b2 : Option Addr), ∃ (c_b2 : Nat), ∃ (n_b2 : Nat), L' = [(0, vs by_), (1, .slice A_l l.length c_l), (5, .slice A_b2 n_b2 c_b2), (6, .int .i64 i)] ∧ J1 b2 ∧ n_b2 = b2.length ∧ w.grownBy w' none ∧ Own vb w' w.heap.size 5 A_b2 c_b2 b2) ?_ (fun hQ => ?_)
    · clear H
      rintro _ w2 ⟨b2, A_b2, c_b2, n_b2, rfl, H, rfl, gr2, k2⟩
      replace H := hJ1 b2 H
      refine WX.then_normal ?_
      refine WC.region ?_
      refine WL.y rfl (Yld.pure tab_ok rfl) ?_
      refine WL.y rfl (Yld.pure tab_ok rfl) ?_
      refine WL.y rfl (Yld.pure tab_ok rfl) ?_
      obtain ⟨h1, H⟩ := H
      refine WL.y rfl (Yld.iaddrW tab_ok (hl.grown gr2) rfl rfl rfl rfl h1.1 h1.2) ?_
      refine WL.y rfl (Yld.iload [] tab_ok (hl.grown gr2) rfl rfl (iltN h1 rfl)) ?_
      obtain ⟨h2, H⟩ := H
      refine WL.appendS tab_ok rfl rfl rfl k2 rfl rfl rfl h2 (applen h2) (size_le gr2) (fun A_b3 c_b3 w3 hO1 hg1 hk1 => ?_)
      have gr3 := gr_mod gr2 hg1 k2.ge'
      refine WL.y rfl (Yld.pure tab_ok rfl) ?_
      refine WL.nil (WX.block_normal (WX.then_normal ?_))
      refine WC.region ?_
      refine WL.y rfl (Yld.pure tab_ok rfl) ?_
      obtain ⟨h3, H⟩ := H
      refine WL.y rfl (Yld.add rfl rfl h3) ?_
      refine WL.y rfl (Yld.pure tab_ok rfl) ?_
      refine WL.nil ?_
      exact WX.roundF _ ⟨b2 ++ (l.getD i.toNat []), A_b3, c_b3, (b2 ++ (l.getD i.toNat [])).length, i + (1 : Int), rfl, rfl, H.1, rfl, gr3, hO1⟩ (by repeat (first | exact Sub.nil | refine Sub.cons rfl ?_)) H.2
    · clear hJ1
      refine WC.seq ?_
      refine WC.region ?_
      refine WL.y rfl (Yld.pure tab_ok rfl) ?_
      refine WL.y rfl (Yld.pure tab_ok rfl) ?_
      refine WL.nil (WX.then_normal ?_)
      refine WC.cond rfl (fun b2 => ?_) (fun b2 => ?_)
      · replace H := H.1 (of_decide_eq_true b2)
        refine WC.region ?_
        refine WL.y rfl (Yld.pure tab_ok rfl) ?_
        refine WL.y rfl (Yld.pure tab_ok rfl) ?_
        obtain ⟨h4, H⟩ := H
        refine WL.appendS tab_ok rfl rfl rfl k1 rfl rfl rfl h4 (applen h4) (size_le gr1) (fun A_b4 c_b4 w4 hO2 hg2 hk2 => ?_)
        have gr4 := gr_mod gr1 hg2 k1.ge'
        refine WL.y rfl (Yld.pure tab_ok rfl) ?_
        refine WL.nil ?_
        exact WX.weaken (by repeat (first | exact Sub.nil | refine Sub.cons rfl ?_)) (hQ _ _ ⟨b ++ by_, A_b4, c_b4, (b ++ by_).length, rfl, H, rfl, gr4, hO2⟩)
      · replace H := H.2 (of_decide_eq_false b2)
        refine WC.skip ?_
        exact WX.weaken (by repeat (first | exact Sub.nil | refine Sub.cons rfl ?_)) (hQ _ _ ⟨b, A_b, c_b, b.length, rfl, H, rfl, gr1, k1⟩)
  · replace H := H.2 (of_decide_eq_false b1)
    refine WC.exit (WX.then_exit (WX.then_exit (WX.block_same (WX.then_normal ?_))))
    refine WC.seq ?_
    refine WC.region ?_
    refine WL.y rfl (Yld.pure tab_ok rfl) ?_
    refine WL.y rfl (Yld.b2s tab_ok k1.rd rfl rfl rfl rfl rfl) ?_
    refine WL.y rfl (Yld.pure tab_ok rfl) ?_
    refine WL.nil (WX.then_normal ?_)
    refine WC.ret ?_
    exact WX.ret1 rfl rfl ⟨gr1, b, rfl, H⟩

set_option maxHeartbeats 8000000 in
theorem W_smithyref17_substituted {w : World} {args : List (List UInt8)} {A_args : Option Addr} {c_args : Nat} {inputs : List (List UInt8)} {A_inputs : Option Addr} {c_inputs : Nat} {n_args : Nat} {n_inputs : Nat} {K : (List UInt8) → Bool → Prop} (hargs : Rd vs w A_args c_args args) (hn_args : n_args = args.length) (hinputs : Rd vs w A_inputs c_inputs inputs) (hn_inputs : n_inputs = inputs.length) (H : M_smithyref17_substituted args inputs K) : Fn Tryz.prog 43 ⟨[.slice A_args n_args c_args, .slice A_inputs n_inputs c_inputs]⟩ w (fun v w' => w.grownBy w' none ∧ ∃ (r0 : List UInt8), ∃ (r1 : Bool), v = .tuple #[vs r0, .bool r1] ∧ K r0 r1) := by
  subst hn_args
  subst hn_inputs
  unfold M_smithyref17_substituted at H
  refine Fn.enter (by kernel_rfl) Tryz.func43 rfl Tryz.ntmps43 rfl ?_
  replace H := H (Nat.le_trans hargs.cap hargs.max)
  replace H := H (Nat.le_trans hinputs.cap hinputs.max)
  refine WC.seq ?_
  refine WC.region ?_
  refine WL.y rfl (Yld.pure tab_ok rfl) ?_
  refine WL.y rfl (Yld.pure tab_ok rfl) ?_
  refine WL.nil (WX.then_normal ?_)
  refine WC.seq ?_
  refine WC.seq ?_
  refine WC.region ?_
  refine WL.y rfl (Yld.pure tab_ok rfl) ?_
  refine WL.y rfl (Yld.pure tab_ok rfl) ?_
  obtain ⟨h1, H⟩ := H
  refine WL.y rfl (Yld.rem rfl rfl h1.1 h1.2) ?_
  refine WL.y rfl (Yld.pure tab_ok rfl) ?_
  refine WL.nil (WX.then_normal ?_)
  refine WC.cond rfl (fun b1 => ?_) (fun b1 => ?_)
  · replace H := H.1 (nd_true b1)
    refine WC.seq ?_
    refine WC.region ?_
    refine WL.y rfl (Yld.pure tab_ok rfl) ?_
    refine WL.y rfl (Yld.pure tab_ok rfl) ?_
    refine WL.nil (WX.then_normal ?_)
    refine WC.ret (WX.then_ret ?_)
    exact WX.ret2 rfl rfl rfl ⟨(gr_refl _ _), ([] : List UInt8), false, rfl, H⟩
  · replace H := H.2 (nd_false b1)
    refine WC.skip (WX.then_normal ?_)
    refine WC.seq ?_
    refine WC.region ?_
    refine WL.y rfl (Yld.pure tab_ok rfl) ?_
    refine WL.call rfl rfl (W_smithyref17_concat hinputs rfl H) ?_
    rintro _ w1 ⟨hg1, s, rfl, H⟩
    have gr1 := hg1
    refine WL.y rfl (Yld.pure tab_ok rfl) ?_
    refine WL.nil (WX.then_normal ?_)
    refine WC.seq ?_
    refine WC.seq ?_
    refine WC.region ?_
    refine WL.y rfl (Yld.pure tab_ok rfl) ?_
    refine WL.nil (WX.then_normal ?_)
    refine WC.block ?_
    obtain ⟨I1, mu1, h0_1, HR1⟩ := H
    refine WC.loopF (fun n' L' w' => ∃ (s2 : List UInt8), ∃ (i : Int), n' = mu1 s2 i ∧ L' = [(0, .slice A_args args.length c_args), (6, vs s2), (7, .int .i64 i)] ∧ I1 s2 i ∧ w.grownBy w' none) _ _ ⟨s, (0 : Int), rfl, rfl, h0_1, gr1⟩ (by repeat (first | exact Sub.nil | refine Sub.cons rfl ?_)) ?_
    clear h0_1
    rintro _ _ w2 ⟨s2, i, rfl, rfl, hI1, gr2⟩
    have H := HR1 s2 i hI1
    refine WC.seq ?_
    refine WC.seq ?_
    refine WC.region ?_
    refine WL.y rfl (Yld.pure tab_ok rfl) ?_
    obtain ⟨h2, H⟩ := H
    refine WL.y rfl (Yld.add rfl rfl h2) ?_
    refine WL.y rfl (Yld.pure tab_ok rfl) ?_
    refine WL.y rfl (Yld.pure tab_ok rfl) ?_
    refine WL.y rfl (Yld.pure tab_ok rfl) ?_
    refine WL.nil (WX.then_normal ?_)
    refine WC.cond rfl (fun b2 => ?_) (fun b2 => ?_)
    · replace H := H.1 (of_decide_eq_true b2)
      refine WC.skip (WX.then_normal ?_)
      refine WC.seq ?_
      refine WC.block ?_
      refine WC.seq ?_
      refine WC.seq ?_
      refine WC.region ?_
      refine WL.y rfl (Yld.pure tab_ok rfl) ?_
      refine WL.y rfl (Yld.pure tab_ok rfl) ?_
      obtain ⟨h3, H⟩ := H
      refine WL.y rfl (Yld.iaddrW tab_ok (hargs.grown gr2) rfl rfl rfl rfl h3.1 h3.2) ?_
      refine WL.y rfl (Yld.iload [] tab_ok (hargs.grown gr2) rfl rfl (iltN h3 rfl)) ?_
      refine WL.y rfl (Yld.pure tab_ok rfl) ?_
      refine WL.y rfl (Yld.pure tab_ok rfl) ?_
      refine WL.midF 4 (fun L' w' => ∃ q1 : Bool, L' = [(32, .bool q1), (0, .slice A_args args.length c_args), (6, vs s2), (7, .int .i64 i)] ∧ q1 = ((decide ((args.getD i.toNat []) = ([] : List UInt8))) || (decide ((65536 : Int) < (s2.length : Int)))) ∧ w2 = w') ?_ (fun hQ => ?_)
      · rintro _ _ ⟨q1, rfl, rfl, rfl⟩
        refine WL.nil (WX.then_normal ?_)
        refine WC.cond rfl (fun b3 => ?_) (fun b3 => ?_)
        · replace H := H.1 (b3)
          refine WC.seq ?_
          refine WC.region ?_
          refine WL.y rfl (Yld.pure tab_ok rfl) ?_
          refine WL.y rfl (Yld.pure tab_ok rfl) ?_
          refine WL.nil (WX.then_normal ?_)
          refine WC.ret (WX.then_ret (WX.block_ret (WX.then_ret (WX.then_ret (WX.block_ret (WX.then_ret ?_))))))
          exact WX.ret2 rfl rfl rfl ⟨gr2, ([] : List UInt8), false, rfl, H⟩
        · replace H := H.2 (b3)
          refine WC.skip (WX.then_normal ?_)
          refine WC.seq ?_
          refine WC.region ?_
          refine WL.y rfl (Yld.pure tab_ok rfl) ?_
          refine WL.nil (WX.then_normal ?_)
          refine WC.seq ?_
          refine WC.region ?_
          refine WL.y rfl (Yld.pure tab_ok rfl) ?_
          refine WL.nil (WX.then_normal ?_)
          refine WC.seq ?_
          refine WC.block ?_
          obtain ⟨I2, mu2, h0_2, HR2⟩ := H
          refine WC.loopF (fun n' L' w' => ∃ (b : List UInt8), ∃ (A_b : Option Addr), ∃ (c_b : Nat), ∃ (n_b : Nat), ∃ (k : Int), n' = mu2 b k ∧ L' = [(0, .slice A_args args.length c_args), (6, vs s2), (7, .int .i64 i), (8, .slice A_b n_b c_b), (9, .int .i64 k)] ∧ I2 b k ∧ n_b = b.length ∧ w.grownBy w' none ∧ Own vb w' w.heap.size 5 A_b c_b b) _ _ ⟨[], none, 0, 0, (0 : Int), rfl, rfl, h0_2, rfl, gr2, (Own.nil vb w2 w.heap.size 5)⟩ (by repeat (first | exact Sub.nil | refine Sub.cons rfl ?_)) ?_
          clear h0_2
          rintro _ _ w3 ⟨b, A_b, c_b, n_b, k, rfl, rfl, hI2, rfl, gr3, k1⟩
          have H := HR2 b k hI2
          refine WC.seq ?_
          refine WC.seq ?_
          refine WC.region ?_
          refine WL.y rfl (Yld.pure tab_ok rfl) ?_
          refine WL.y rfl (Yld.pure tab_ok rfl) ?_
          refine WL.y rfl (Yld.pure tab_ok rfl) ?_
          refine WL.y rfl (Yld.pure tab_ok rfl) ?_
          refine WL.nil (WX.then_normal ?_)
          refine WC.cond rfl (fun b4 => ?_) (fun b4 => ?_)
          · replace H := H.1 (of_decide_eq_true b4)
            refine WC.skip (WX.then_normal ?_)
            refine WC.block ?_
            refine WC.seq ?_
            refine WC.quiet mixed (by kernel_rfl) ?_
            refine WQ.y rfl (Yld.pure tab_ok rfl) ?_
            refine WQ.y rfl (Yld.pure tab_ok rfl) ?_
            refine WQ.y rfl (Yld.pure tab_ok rfl) ?_
            obtain ⟨h4, H⟩ := H
            refine WQ.y rfl (Yld.sub rfl rfl h4) ?_
            refine WQ.y rfl (Yld.pure tab_ok rfl) ?_
            refine WQ.y rfl (Yld.pure tab_ok rfl) ?_
            obtain ⟨h5, H⟩ := H
            refine WQ.y rfl (Yld.iaddrW tab_ok (hargs.grown gr3) rfl rfl rfl rfl h5.1 h5.2) ?_
            refine WQ.y rfl (Yld.iload [] tab_ok (hargs.grown gr3) rfl rfl (iltN h5 rfl)) ?_
            refine WQ.y rfl (Yld.pure tab_ok rfl) ?_
            refine WQ.y rfl (Yld.pure tab_ok rfl) ?_
            refine WQ.y rfl (Yld.pure tab_ok rfl) ?_
            obtain ⟨h6, H⟩ := H
            obtain ⟨h7, H⟩ := H
            obtain ⟨h8, H⟩ := H
            obtain ⟨h9, H⟩ := H
            refine WQ.midF 16 (fun L' w' => ∃ q2 : Bool, L' = [(63, .bool q2), (0, .slice A_args args.length c_args), (6, vs s2), (7, .int .i64 i), (8, .slice A_b b.length c_b), (9, .int .i64 k)] ∧ q2 = ((decide (((args.getD i.toNat []).length : Int) ≤ ((s2.length : Int) - k))) && (decide (((s2.drop k.toNat).take ((k + ((args.getD i.toNat []).length : Int)).toNat - k.toNat)) = (args.getD i.toNat [])))) ∧ w3 = w') ?_ (fun hQ => ?_)
            · rintro _ _ ⟨q2, rfl, rfl, rfl⟩
              refine WQ.nil (WX.then_normal ?_)
              refine WC.cond rfl (fun b5 => ?_) (fun b5 => ?_)
              · replace H := H.1 (b5)
                refine WC.seq ?_
                refine WC.region ?_
                refine WL.y rfl (Yld.pure tab_ok rfl) ?_
                refine WL.y rfl (Yld.pure tab_ok rfl) ?_
                refine WL.y rfl (Yld.pure tab_ok rfl) ?_
                obtain ⟨h10, H⟩ := H
                refine WL.y rfl (Yld.add rfl rfl h10) ?_
                obtain ⟨h11, H⟩ := H
                refine WL.y rfl (Yld.iaddrW tab_ok (hargs.grown gr3) rfl rfl rfl rfl h11.1 h11.2) ?_
                refine WL.y rfl (Yld.iload [] tab_ok (hargs.grown gr3) rfl rfl (iltN h11 rfl)) ?_
                obtain ⟨h12, H⟩ := H
                refine WL.appendS tab_ok rfl rfl rfl k1 rfl rfl rfl h12 (applen h12) (size_le gr3) (fun A_b2 c_b2 w4 hO1 hg2 hk1 => ?_)
                have gr4 := gr_mod gr3 hg2 k1.ge'
                refine WL.y rfl (Yld.pure tab_ok rfl) ?_
                refine WL.nil (WX.then_normal ?_)
                refine WC.region ?_
                refine WL.y rfl (Yld.pure tab_ok rfl) ?_
                refine WL.y rfl (Yld.pure tab_ok rfl) ?_
                refine WL.y rfl (Yld.pure tab_ok rfl) ?_
                obtain ⟨h13, H⟩ := H
                refine WL.y rfl (Yld.iaddrW tab_ok (hargs.grown gr4) rfl rfl rfl rfl h13.1 h13.2) ?_
                refine WL.y rfl (Yld.iload [] tab_ok (hargs.grown gr4) rfl rfl (iltN h13 rfl)) ?_
                refine WL.y rfl (Yld.pure tab_ok rfl) ?_
                obtain ⟨h14, H⟩ := H
                refine WL.y rfl (Yld.add rfl rfl h14) ?_
                refine WL.y rfl (Yld.pure tab_ok rfl) ?_
                refine WL.nil (WX.block_normal ?_)
                exact WX.roundF _ ⟨b ++ (args.getD ((i + (1 : Int)).toNat) []), A_b2, c_b2, (b ++ (args.getD ((i + (1 : Int)).toNat) [])).length, k + ((args.getD i.toNat []).length : Int), rfl, rfl, H.1, rfl, gr4, hO1⟩ (by repeat (first | exact Sub.nil | refine Sub.cons rfl ?_)) H.2
              · replace H := H.2 (b5)
                refine WC.seq ?_
                refine WC.region ?_
                refine WL.y rfl (Yld.pure tab_ok rfl) ?_
                refine WL.y rfl (Yld.pure tab_ok rfl) ?_
                refine WL.y rfl (Yld.pure tab_ok rfl) ?_
                obtain ⟨h15, H⟩ := H
                refine WL.y rfl (Yld.sidx tab_ok rfl rfl rfl h15.1 h15.2) ?_
                refine WL.lit tab_ok rfl rfl rfl (all1c rfl all1n) rfl (by omega) (fun g1 w5 hB1 hg3 hl1 => ?_)
                have hO2 : Own vb w5 w.heap.size 5 (some ⟨g1, 0, none⟩) 1 ([s2.getD k.toNat 0] : List UInt8) := Own.ofBl hB1 (Nat.le_trans (size_le gr3) hl1) (by simp [maxLen]) rfl
                have gr5 := gr_trans gr3 hg3
                have k2 := k1.grown hg3
                obtain ⟨h16, H⟩ := H
                refine WL.append tab_ok rfl rfl One.b k2 rfl rfl hO2.rd rfl rfl h16 (applen h16) (size_le gr5) (fun A_b3 c_b3 w6 hO3 hg4 hk2 => ?_)
                have gr6 := gr_mod gr5 hg4 k2.ge'
                refine WL.y rfl (Yld.pure tab_ok rfl) ?_
                refine WL.nil (WX.then_normal ?_)
                refine WC.region ?_
                refine WL.y rfl (Yld.pure tab_ok rfl) ?_
                obtain ⟨h17, H⟩ := H
                refine WL.y rfl (Yld.add rfl rfl h17) ?_
                refine WL.y rfl (Yld.pure tab_ok rfl) ?_
                refine WL.nil (WX.block_normal ?_)
                exact WX.roundF _ ⟨b ++ ([s2.getD k.toNat 0] : List UInt8), A_b3, c_b3, (b ++ ([s2.getD k.toNat 0] : List UInt8)).length, k + (1 : Int), rfl, rfl, H.1, rfl, gr6, hO3⟩ (by repeat (first | exact Sub.nil | refine Sub.cons rfl ?_)) H.2
            · clear H
              rcases Bool.eq_false_or_eq_true (decide (((args.getD i.toNat []).length : Int) ≤ ((s2.length : Int) - k))) with b6 | b6
              · refine WQ.gyes rfl rfl (okb b6) rfl (Yld.pure tab_ok rfl) ?_
                refine WQ.gyes rfl rfl (okb b6) rfl (Yld.pure tab_ok rfl) ?_
                refine WQ.gyes rfl rfl (okb b6) rfl (Yld.pure tab_ok rfl) ?_
                refine WQ.gyes rfl rfl (okb b6) rfl (Yld.pure tab_ok rfl) ?_
                refine WQ.gyes rfl rfl (okb b6) rfl (Yld.pure tab_ok rfl) ?_
                refine WQ.gyes rfl rfl (okb b6) rfl (Yld.iaddrW tab_ok (hargs.grown gr3) rfl rfl rfl rfl (h6 b6).1 (h6 b6).2) ?_
                refine WQ.gyes rfl rfl (okb b6) rfl (Yld.iload [] tab_ok (hargs.grown gr3) rfl rfl (iltN (h6 b6) rfl)) ?_
                refine WQ.gyes rfl rfl (okb b6) rfl (Yld.pure tab_ok rfl) ?_
                refine WQ.gyes rfl rfl (okb b6) rfl (Yld.add rfl rfl (h7 b6)) ?_
                refine WQ.gyes rfl rfl (okb b6) rfl (Yld.scut tab_ok rfl rfl rfl rfl (h8 b6).1 (h8 b6).2.1 (h8 b6).2.2) ?_
                refine WQ.gyes rfl rfl (okb b6) rfl (Yld.pure tab_ok rfl) ?_
                refine WQ.gyes rfl rfl (okb b6) rfl (Yld.pure tab_ok rfl) ?_
                refine WQ.gyes rfl rfl (okb b6) rfl (Yld.iaddrW tab_ok (hargs.grown gr3) rfl rfl rfl rfl (h9 b6).1 (h9 b6).2) ?_
                refine WQ.gyes rfl rfl (okb b6) rfl (Yld.iload [] tab_ok (hargs.grown gr3) rfl rfl (iltN (h9 b6) rfl)) ?_
                refine WQ.gyes rfl rfl (okb b6) rfl (Yld.pure tab_ok rfl) ?_
                refine WQ.y rfl (Yld.pickT (okb b6) rfl) ?_
                exact WQ.weaken (by repeat (first | exact Sub.nil | refine Sub.cons rfl ?_)) (hQ _ _ ⟨decide (((s2.drop k.toNat).take ((k + ((args.getD i.toNat []).length : Int)).toNat - k.toNat)) = (args.getD i.toNat [])), rfl, by rw [b6] <;> rfl, rfl⟩)
              · refine WQ.gno rfl rfl (okb b6) rfl ?_
                refine WQ.gno rfl rfl (okb b6) rfl ?_
                refine WQ.gno rfl rfl (okb b6) rfl ?_
                refine WQ.gno rfl rfl (okb b6) rfl ?_
                refine WQ.gno rfl rfl (okb b6) rfl ?_
                refine WQ.gno rfl rfl (okb b6) rfl ?_
                refine WQ.gno rfl rfl (okb b6) rfl ?_
                refine WQ.gno rfl rfl (okb b6) rfl ?_
                refine WQ.gno rfl rfl (okb b6) rfl ?_
                refine WQ.gno rfl rfl (okb b6) rfl ?_
                refine WQ.gno rfl rfl (okb b6) rfl ?_
                refine WQ.gno rfl rfl (okb b6) rfl ?_
                refine WQ.gno rfl rfl (okb b6) rfl ?_
                refine WQ.gno rfl rfl (okb b6) rfl ?_
                refine WQ.gno rfl rfl (okb b6) rfl ?_
                refine WQ.y rfl (Yld.pickF (okb b6) rfl) ?_
                exact WQ.weaken (by repeat (first | exact Sub.nil | refine Sub.cons rfl ?_)) (hQ _ _ ⟨false, rfl, by rw [b6] <;> rfl, rfl⟩)
          · replace H := H.2 (of_decide_eq_false b4)
            refine WC.exit (WX.then_exit (WX.then_exit (WX.block_same (WX.then_normal ?_))))
            refine WC.region ?_
            refine WL.y rfl (Yld.pure tab_ok rfl) ?_
            refine WL.y rfl (Yld.b2s tab_ok k1.rd rfl rfl rfl rfl rfl) ?_
            refine WL.y rfl (Yld.pure tab_ok rfl) ?_
            refine WL.nil (WX.block_normal (WX.then_normal ?_))
            refine WC.region ?_
            refine WL.y rfl (Yld.pure tab_ok rfl) ?_
            obtain ⟨h18, H⟩ := H
            refine WL.y rfl (Yld.add rfl rfl h18) ?_
            refine WL.y rfl (Yld.pure tab_ok rfl) ?_
            refine WL.nil ?_
            exact WX.roundF _ ⟨b, i + (2 : Int), rfl, rfl, H.1, gr3⟩ (by repeat (first | exact Sub.nil | refine Sub.cons rfl ?_)) H.2
      · clear H
        rcases Bool.eq_false_or_eq_true (decide ((args.getD i.toNat []) = ([] : List UInt8))) with b7 | b7
        · refine WL.gno rfl rfl (okb b7) rfl ?_
          refine WL.gno rfl rfl (okb b7) rfl ?_
          refine WL.gno rfl rfl (okb b7) rfl ?_
          refine WL.y rfl (Yld.pickT (okb b7) rfl) ?_
          exact WL.weaken (by repeat (first | exact Sub.nil | refine Sub.cons rfl ?_)) (hQ _ _ ⟨true, rfl, by rw [b7] <;> rfl, rfl⟩)
        · refine WL.gyes rfl rfl (okb b7) rfl (Yld.pure tab_ok rfl) ?_
          refine WL.gyes rfl rfl (okb b7) rfl (Yld.pure tab_ok rfl) ?_
          refine WL.gyes rfl rfl (okb b7) rfl (Yld.pure tab_ok rfl) ?_
          refine WL.y rfl (Yld.pickF (okb b7) rfl) ?_
          exact WL.weaken (by repeat (first | exact Sub.nil | refine Sub.cons rfl ?_)) (hQ _ _ ⟨decide ((65536 : Int) < (s2.length : Int)), rfl, by rw [b7] <;> rfl, rfl⟩)
    · replace H := H.2 (of_decide_eq_false b2)
      refine WC.exit (WX.then_exit (WX.then_exit (WX.block_same (WX.then_normal ?_))))
      refine WC.seq ?_
      refine WC.region ?_
      refine WL.y rfl (Yld.pure tab_ok rfl) ?_
      refine WL.y rfl (Yld.pure tab_ok rfl) ?_
      refine WL.y rfl (Yld.pure tab_ok rfl) ?_
      refine WL.nil (WX.then_normal ?_)
      refine WC.ret ?_
      exact WX.ret2 rfl rfl rfl ⟨gr2, s2, true, rfl, H⟩

set_option maxHeartbeats 8000000 in
theorem W_smithyref17_sorted {w : World} {args : List (List UInt8)} {A_args : Option Addr} {c_args : Nat} {inputs : List (List UInt8)} {A_inputs : Option Addr} {c_inputs : Nat} {n_args : Nat} {n_inputs : Nat} {K : (List UInt8) → Bool → Prop} (hargs : Rd vs w A_args c_args args) (hn_args : n_args = args.length) (hinputs : Rd vs w A_inputs c_inputs inputs) (hn_inputs : n_inputs = inputs.length) (H : M_smithyref17_sorted args inputs K) : Fn Tryz.prog 44 ⟨[.slice A_args n_args c_args, .slice A_inputs n_inputs c_inputs]⟩ w (fun v w' => w.grownBy w' none ∧ ∃ (r0 : List UInt8), ∃ (r1 : Bool), v = .tuple #[vs r0, .bool r1] ∧ K r0 r1) := by
  subst hn_args
  subst hn_inputs
  unfold M_smithyref17_sorted at H
  refine Fn.enter (by kernel_rfl) Tryz.func44 rfl Tryz.ntmps44 rfl ?_
  replace H := H (Nat.le_trans hargs.cap hargs.max)
  replace H := H (Nat.le_trans hinputs.cap hinputs.max)
  refine WC.seq ?_
  refine WC.region ?_
  refine WL.y rfl (Yld.pure tab_ok rfl) ?_
  refine WL.y rfl (Yld.pure tab_ok rfl) ?_
  refine WL.nil (WX.then_normal ?_)
  refine WC.seq ?_
  refine WC.region ?_
  refine WL.y rfl (Yld.pure tab_ok rfl) ?_
  refine WL.nil (WX.then_normal ?_)
  refine WC.seq ?_
  refine WC.region ?_
  refine WL.y rfl (Yld.pure tab_ok rfl) ?_
  refine WL.nil (WX.then_normal ?_)
  refine WC.seq ?_
  refine WC.seq ?_
  refine WC.region ?_
  refine WL.y rfl (Yld.pure tab_ok rfl) ?_
  refine WL.nil (WX.then_normal ?_)
  refine WC.block ?_
  obtain ⟨I1, mu1, h0_1, HR1⟩ := H
  refine WC.loopF (fun n' L' w' => ∃ (back : Bool), ∃ (unique : Bool), ∃ (i : Int), n' = mu1 back unique i ∧ L' = [(0, .slice A_args args.length c_args), (1, .slice A_inputs inputs.length c_inputs), (6, .bool back), (7, .bool unique), (8, .int .i64 i)] ∧ I1 back unique i ∧ w = w') _ _ ⟨false, false, (0 : Int), rfl, rfl, h0_1, rfl⟩ (by repeat (first | exact Sub.nil | refine Sub.cons rfl ?_)) ?_
  clear h0_1
  rintro _ _ _ ⟨back, unique, i, rfl, rfl, hI1, rfl⟩
  have H := HR1 back unique i hI1
  refine WC.seq ?_
  refine WC.seq ?_
  refine WC.region ?_
  refine WL.y rfl (Yld.pure tab_ok rfl) ?_
  refine WL.y rfl (Yld.pure tab_ok rfl) ?_
  refine WL.y rfl (Yld.pure tab_ok rfl) ?_
  refine WL.y rfl (Yld.pure tab_ok rfl) ?_
  refine WL.nil (WX.then_normal ?_)
  refine WC.cond rfl (fun b1 => ?_) (fun b1 => ?_)
  · replace H := H.1 (of_decide_eq_true b1)
    refine WC.skip (WX.then_normal ?_)
    refine WC.seq ?_
    obtain ⟨J1, H, hJ1⟩ := H
    refine WC.midF (fun L' w' => ∃ (back2 : Bool), ∃ (unique2 : Bool), L' = [(0, .slice A_args args.length c_args), (1, .slice A_inputs inputs.length c_inputs), (6, .bool back2), (7, .bool unique2), (8, .int .i64 i)] ∧ J1 back2 unique2 ∧ w = w') ?_ (fun hQ => ?_)
    · clear H
      rintro _ _ ⟨back2, unique2, rfl, H, rfl⟩
      replace H := hJ1 back2 unique2 H
      refine WX.then_normal ?_
      refine WC.region ?_
      refine WL.y rfl (Yld.pure tab_ok rfl) ?_
      obtain ⟨h1, H⟩ := H
      refine WL.y rfl (Yld.add rfl rfl h1) ?_
      refine WL.y rfl (Yld.pure tab_ok rfl) ?_
      refine WL.nil ?_
      exact WX.roundF _ ⟨back2, unique2, i + (1 : Int), rfl, rfl, H.1, rfl⟩ (by repeat (first | exact Sub.nil | refine Sub.cons rfl ?_)) H.2
    · clear hJ1
      refine WC.block ?_
      refine WC.block ?_
      refine WC.seq ?_
      refine WC.region ?_
      refine WL.y rfl (Yld.pure tab_ok rfl) ?_
      refine WL.y rfl (Yld.pure tab_ok rfl) ?_
      obtain ⟨h2, H⟩ := H
      refine WL.y rfl (Yld.iaddrW tab_ok hargs rfl rfl rfl rfl h2.1 h2.2) ?_
      refine WL.y rfl (Yld.iload [] tab_ok hargs rfl rfl (iltN h2 rfl)) ?_
      refine WL.y rfl (Yld.pure tab_ok rfl) ?_
      refine WL.y rfl (Yld.pure tab_ok rfl) ?_
      refine WL.midF 3 (fun L' w' => ∃ q1 : Bool, L' = [(31, .bool q1), (0, .slice A_args args.length c_args), (1, .slice A_inputs inputs.length c_inputs), (6, .bool back), (7, .bool unique), (8, .int .i64 i)] ∧ q1 = ((decide ((args.getD i.toNat []) = ([114, 101, 118, 101, 114, 115, 101] : List UInt8))) && (!back)) ∧ w = w') ?_ (fun hQ => ?_)
      · rintro _ _ ⟨q1, rfl, rfl, rfl⟩
        refine WL.y rfl (Yld.pure tab_ok rfl) ?_
        refine WL.nil (WX.then_normal ?_)
        refine WC.cond rfl (fun b2 => ?_) (fun b2 => ?_)
        · replace H := H.1 (b2)
          refine WC.region ?_
          refine WL.y rfl (Yld.pure tab_ok rfl) ?_
          refine WL.nil (WX.block_normal (WX.block_normal ?_))
          exact WX.weaken (by repeat (first | exact Sub.nil | refine Sub.cons rfl ?_)) (hQ _ _ ⟨true, unique, rfl, H, rfl⟩)
        · replace H := H.2 (b2)
          refine WC.seq ?_
          refine WC.region ?_
          refine WL.y rfl (Yld.pure tab_ok rfl) ?_
          refine WL.y rfl (Yld.pure tab_ok rfl) ?_
          obtain ⟨h3, H⟩ := H
          refine WL.y rfl (Yld.iaddrW tab_ok hargs rfl rfl rfl rfl h3.1 h3.2) ?_
          refine WL.y rfl (Yld.iload [] tab_ok hargs rfl rfl (iltN h3 rfl)) ?_
          refine WL.y rfl (Yld.pure tab_ok rfl) ?_
          refine WL.y rfl (Yld.pure tab_ok rfl) ?_
          refine WL.midF 3 (fun L' w' => ∃ q2 : Bool, L' = [(41, .bool q2), (0, .slice A_args args.length c_args), (1, .slice A_inputs inputs.length c_inputs), (6, .bool back), (8, .int .i64 i)] ∧ q2 = ((decide ((args.getD i.toNat []) = ([117, 110, 105, 113, 117, 101] : List UInt8))) && (!unique)) ∧ w = w') ?_ (fun hQ => ?_)
          · rintro _ _ ⟨q2, rfl, rfl, rfl⟩
            refine WL.y rfl (Yld.pure tab_ok rfl) ?_
            refine WL.nil (WX.then_normal ?_)
            refine WC.cond rfl (fun b3 => ?_) (fun b3 => ?_)
            · replace H := H.1 (b3)
              refine WC.region ?_
              refine WL.y rfl (Yld.pure tab_ok rfl) ?_
              refine WL.nil (WX.block_normal (WX.block_normal ?_))
              exact WX.weaken (by repeat (first | exact Sub.nil | refine Sub.cons rfl ?_)) (hQ _ _ ⟨back, true, rfl, H, rfl⟩)
            · replace H := H.2 (b3)
              refine WC.seq ?_
              refine WC.region ?_
              refine WL.y rfl (Yld.pure tab_ok rfl) ?_
              refine WL.y rfl (Yld.pure tab_ok rfl) ?_
              refine WL.nil (WX.then_normal ?_)
              refine WC.ret (WX.block_ret (WX.block_ret (WX.then_ret (WX.then_ret (WX.block_ret (WX.then_ret ?_))))))
              exact WX.ret2 rfl rfl rfl ⟨(gr_refl _ _), ([] : List UInt8), false, rfl, H⟩
          · clear H
            rcases Bool.eq_false_or_eq_true (decide ((args.getD i.toNat []) = ([117, 110, 105, 113, 117, 101] : List UInt8))) with b4 | b4
            · refine WL.gyes rfl rfl (okb b4) rfl (Yld.pure tab_ok rfl) ?_
              refine WL.gyes rfl rfl (okb b4) rfl (Yld.pure tab_ok rfl) ?_
              refine WL.y rfl (Yld.pickT (okb b4) rfl) ?_
              exact WL.weaken (by repeat (first | exact Sub.nil | refine Sub.cons rfl ?_)) (hQ _ _ ⟨!unique, rfl, by rw [b4] <;> rfl, rfl⟩)
            · refine WL.gno rfl rfl (okb b4) rfl ?_
              refine WL.gno rfl rfl (okb b4) rfl ?_
              refine WL.y rfl (Yld.pickF (okb b4) rfl) ?_
              exact WL.weaken (by repeat (first | exact Sub.nil | refine Sub.cons rfl ?_)) (hQ _ _ ⟨false, rfl, by rw [b4] <;> rfl, rfl⟩)
      · clear H
        rcases Bool.eq_false_or_eq_true (decide ((args.getD i.toNat []) = ([114, 101, 118, 101, 114, 115, 101] : List UInt8))) with b5 | b5
        · refine WL.gyes rfl rfl (okb b5) rfl (Yld.pure tab_ok rfl) ?_
          refine WL.gyes rfl rfl (okb b5) rfl (Yld.pure tab_ok rfl) ?_
          refine WL.y rfl (Yld.pickT (okb b5) rfl) ?_
          exact WL.weaken (by repeat (first | exact Sub.nil | refine Sub.cons rfl ?_)) (hQ _ _ ⟨!back, rfl, by rw [b5] <;> rfl, rfl⟩)
        · refine WL.gno rfl rfl (okb b5) rfl ?_
          refine WL.gno rfl rfl (okb b5) rfl ?_
          refine WL.y rfl (Yld.pickF (okb b5) rfl) ?_
          exact WL.weaken (by repeat (first | exact Sub.nil | refine Sub.cons rfl ?_)) (hQ _ _ ⟨false, rfl, by rw [b5] <;> rfl, rfl⟩)
  · replace H := H.2 (of_decide_eq_false b1)
    refine WC.exit (WX.then_exit (WX.then_exit (WX.block_same (WX.then_normal ?_))))
    refine WC.seq ?_
    refine WC.region ?_
    refine WL.y rfl (Yld.pure tab_ok rfl) ?_
    refine WL.call rfl rfl (W_smithyref17_lines hinputs rfl H) ?_
    rintro _ w1 ⟨hg1, l, A_l, c_l, rfl, hl, H⟩
    have hb1 := hl.ge'
    have k1 := hl.base (fun g hg => Nat.le_trans (Nat.le_refl _) (hb1 g hg))
    have gr1 := hg1
    refine WL.y rfl (Yld.pure tab_ok rfl) ?_
    refine WL.nil (WX.then_normal ?_)
    refine WC.seq ?_
    refine WC.region ?_
    refine WL.y rfl (Yld.pure tab_ok rfl) ?_
    refine WL.nil (WX.then_normal ?_)
    refine WC.seq ?_
    refine WC.seq ?_
    refine WC.region ?_
    refine WL.y rfl (Yld.pure tab_ok rfl) ?_
    refine WL.nil (WX.then_normal ?_)
    refine WC.block ?_
    obtain ⟨I2, mu2, h0_2, HR2⟩ := H
    refine WC.loopF (fun n' L' w' => ∃ (out : List (List UInt8)), ∃ (A_out : Option Addr), ∃ (c_out : Nat), ∃ (n_out : Nat), ∃ (i2 : Int), n' = mu2 out i2 ∧ L' = [(6, .bool back), (7, .bool unique), (9, .slice A_l l.length c_l), (10, .slice A_out n_out c_out), (11, .int .i64 i2)] ∧ I2 out i2 ∧ n_out = out.length ∧ w.grownBy w' none ∧ Own vs w' w.heap.size 9 A_l c_l l ∧ Own vs w' w.heap.size 9 A_out c_out out ∧ Dj (blk A_l) (blk A_out)) _ _ ⟨[], none, 0, 0, (0 : Int), rfl, rfl, h0_2, rfl, gr1, k1, (Own.nil vs w1 w.heap.size 9), Dj.nr⟩ (by repeat (first | exact Sub.nil | refine Sub.cons rfl ?_)) ?_
    clear h0_2
    rintro _ _ w2 ⟨out, A_out, c_out, n_out, i2, rfl, rfl, hI2, rfl, gr2, k2, k3, dj1⟩
    have H := HR2 out i2 hI2
    refine WC.seq ?_
    refine WC.seq ?_
    refine WC.region ?_
    refine WL.y rfl (Yld.pure tab_ok rfl) ?_
    refine WL.y rfl (Yld.pure tab_ok rfl) ?_
    refine WL.y rfl (Yld.pure tab_ok rfl) ?_
    refine WL.y rfl (Yld.pure tab_ok rfl) ?_
    refine WL.nil (WX.then_normal ?_)
    refine WC.cond rfl (fun b6 => ?_) (fun b6 => ?_)
    · replace H := H.1 (of_decide_eq_true b6)
      refine WC.skip (WX.then_normal ?_)
      refine WC.seq ?_
      obtain ⟨J2, H, hJ2⟩ := H
      refine WC.midF (fun L' w' => ∃ (out2 : List (List UInt8)), ∃ (A_out2 : Option Addr), ∃ (c_out2 : Nat), ∃ (n_out2 : Nat), L' = [(6, .bool back), (7, .bool unique), (9, .slice A_l l.length c_l), (10, .slice A_out2 n_out2 c_out2), (11, .int .i64 i2)] ∧ J2 out2 ∧ n_out2 = out2.length ∧ w.grownBy w' none ∧ Own vs w' w.heap.size 9 A_l c_l l ∧ Own vs w' w.heap.size 9 A_out2 c_out2 out2 ∧ Dj (blk A_l) (blk A_out2)) ?_ (fun hQ => ?_)
      · clear H
        rintro _ w3 ⟨out2, A_out2, c_out2, n_out2, rfl, H, rfl, gr3, k4, k5, dj2⟩
        replace H := hJ2 out2 H
        refine WX.then_normal ?_
        refine WC.region ?_
        refine WL.y rfl (Yld.pure tab_ok rfl) ?_
        obtain ⟨h4, H⟩ := H
        refine WL.y rfl (Yld.add rfl rfl h4) ?_
        refine WL.y rfl (Yld.pure tab_ok rfl) ?_
        refine WL.nil ?_
        exact WX.roundF _ ⟨out2, A_out2, c_out2, out2.length, i2 + (1 : Int), rfl, rfl, H.1, rfl, gr3, k4, k5, dj2⟩ (by repeat (first | exact Sub.nil | refine Sub.cons rfl ?_)) H.2
      · clear hJ2
        refine WC.block ?_
        refine WC.seq ?_
        refine WC.region ?_
        refine WL.y rfl (Yld.pure tab_ok rfl) ?_
        refine WL.nil (WX.then_normal ?_)
        refine WC.seq ?_
        refine WC.block ?_
        obtain ⟨I3, mu3, h0_3, HR3⟩ := H
        refine WC.loopF (fun n' L' w' => ∃ (k : Int), n' = mu3 k ∧ L' = [(6, .bool back), (7, .bool unique), (9, .slice A_l l.length c_l), (10, .slice A_out out.length c_out), (11, .int .i64 i2), (12, .int .i64 k)] ∧ I3 k ∧ w2 = w') _ _ ⟨(0 : Int), rfl, rfl, h0_3, rfl⟩ (by repeat (first | exact Sub.nil | refine Sub.cons rfl ?_)) ?_
        clear h0_3
        rintro _ _ _ ⟨k, rfl, rfl, hI3, rfl⟩
        have H := HR3 k hI3
        refine WC.seq ?_
        refine WC.seq ?_
        refine WC.quiet mixed (by kernel_rfl) ?_
        refine WQ.y rfl (Yld.pure tab_ok rfl) ?_
        refine WQ.y rfl (Yld.pure tab_ok rfl) ?_
        refine WQ.y rfl (Yld.pure tab_ok rfl) ?_
        refine WQ.y rfl (Yld.pure tab_ok rfl) ?_
        refine WQ.y rfl (Yld.pure tab_ok rfl) ?_
        obtain ⟨h5, H⟩ := H
        obtain ⟨h6, H⟩ := H
        refine WQ.midF 10 (fun L' w' => ∃ q3 : Bool, L' = [(64, .bool q3), (6, .bool back), (7, .bool unique), (9, .slice A_l l.length c_l), (10, .slice A_out out.length c_out), (11, .int .i64 i2), (12, .int .i64 k)] ∧ q3 = ((decide (k < (out.length : Int))) && (Op.bytesLess (out.getD k.toNat []) (l.getD i2.toNat []) || decide ((out.getD k.toNat []) = (l.getD i2.toNat [])))) ∧ w2 = w') ?_ (fun hQ => ?_)
        · rintro _ _ ⟨q3, rfl, rfl, rfl⟩
          refine WQ.nil (WX.then_normal ?_)
          refine WC.cond rfl (fun b7 => ?_) (fun b7 => ?_)
          · replace H := H.1 (b7)
            refine WC.skip (WX.then_normal ?_)
            refine WC.block ?_
            refine WC.region ?_
            refine WL.y rfl (Yld.pure tab_ok rfl) ?_
            obtain ⟨h7, H⟩ := H
            refine WL.y rfl (Yld.add rfl rfl h7) ?_
            refine WL.y rfl (Yld.pure tab_ok rfl) ?_
            refine WL.nil (WX.block_normal ?_)
            exact WX.roundF _ ⟨k + (1 : Int), rfl, rfl, H.1, rfl⟩ (by repeat (first | exact Sub.nil | refine Sub.cons rfl ?_)) H.2
          · replace H := H.2 (b7)
            refine WC.exit (WX.then_exit (WX.then_exit (WX.block_same (WX.then_normal ?_))))
            refine WC.seq ?_
            refine WC.seq ?_
            refine WC.quiet mixed (by kernel_rfl) ?_
            refine WQ.y rfl (Yld.pure tab_ok rfl) ?_
            refine WQ.y rfl (Yld.pure tab_ok rfl) ?_
            refine WQ.midF 3 (fun L' w' => ∃ q4 : Bool, L' = [(71, .bool q4), (6, .bool back), (7, .bool unique), (9, .slice A_l l.length c_l), (10, .slice A_out out.length c_out), (11, .int .i64 i2), (12, .int .i64 k)] ∧ q4 = (unique && (decide ((0 : Int) < k))) ∧ w2 = w') ?_ (fun hQ => ?_)
            · rintro _ _ ⟨q4, rfl, rfl, rfl⟩
              refine WQ.y rfl (Yld.pure tab_ok rfl) ?_
              obtain ⟨h8, H⟩ := H
              obtain ⟨h9, H⟩ := H
              obtain ⟨h10, H⟩ := H
              refine WQ.midF 11 (fun L' w' => ∃ q5 : Bool, L' = [(83, .bool q5), (6, .bool back), (7, .bool unique), (9, .slice A_l l.length c_l), (10, .slice A_out out.length c_out), (11, .int .i64 i2), (12, .int .i64 k)] ∧ q5 = ((unique && (decide ((0 : Int) < k))) && (decide ((out.getD ((k - (1 : Int)).toNat) []) = (l.getD i2.toNat [])))) ∧ w2 = w') ?_ (fun hQ => ?_)
              · rintro _ _ ⟨q5, rfl, rfl, rfl⟩
                refine WQ.nil (WX.then_normal ?_)
                refine WC.cond rfl (fun b8 => ?_) (fun b8 => ?_)
                · replace H := H.1 (b8)
                  refine WC.exit (WX.then_exit (WX.block_same ?_))
                  exact WX.weaken (by repeat (first | exact Sub.nil | refine Sub.cons rfl ?_)) (hQ _ _ ⟨out, A_out, c_out, out.length, rfl, H, rfl, gr2, k2, k3, dj1⟩)
                · replace H := H.2 (b8)
                  refine WC.skip (WX.then_normal ?_)
                  refine WC.seq ?_
                  refine WC.chainF (fun k => !(Nat.beq k 3 || Nat.beq k 7)) (LD [] (fun w' => True)) mixed (by kernel_rfl) (fun k w' h _ => trivial) ?_
                  refine WJ.y rfl rfl (fun w' hw' => Yld.pure tab_ok rfl) ?_
                  refine WJ.y rfl rfl (fun w' hw' => Yld.pure tab_ok rfl) ?_
                  obtain ⟨h11, H⟩ := H
                  refine WJ.y rfl rfl (fun w' hw' => Yld.add rfl rfl h11) ?_
                  obtain ⟨h12, H⟩ := H
                  refine WJ.putw rfl (wants_none) rfl (Eff.makeCI (f := vs) (B := w.heap.size) tab_ok rfl rfl rfl h12.1 h12.2.1 h12.2.2 (size_le gr2)) (fun v w' ⟨_, _, h⟩ => DD.keep trivial) ?_
                  rintro _ w4 ⟨rfl, hB1, hg2⟩
                  obtain ⟨g_t87, hl1⟩ : ∃ g, g = w2.heap.size := ⟨_, rfl⟩
                  rw [← hl1] at hB1
                  rw [← hl1]
                  have hO1 : Own vs w4 w.heap.size 9 (some ⟨g_t87, 0, none⟩) (((out.length : Int) + (1 : Int)).toNat) ([] : List (List UInt8)) := hB1.base (fun g hg => by cases hg; exact Nat.le_trans (size_le gr2) (Nat.le_of_eq hl1.symm))
                  have gr4 := gr_trans gr2 hg2
                  have k6 := k2.grown hg2
                  have k7 := k3.grown hg2
                  refine WJ.y rfl rfl (fun w' hw' => Yld.pure tab_ok rfl) ?_
                  refine WJ.y rfl rfl (fun w' hw' => Yld.pure tab_ok rfl) ?_
                  obtain ⟨h13, H⟩ := H
                  refine WJ.y rfl rfl (fun w' hw' => Yld.ocutY tab_ok k7.rd rfl rfl rfl rfl rfl h13.1 h13.2) ?_
                  obtain ⟨h14, H⟩ := H
                  refine WJ.putw rfl (wants_none) rfl (Eff.append tab_ok rfl One.s hO1 rfl rfl (k7.rd.take k.toNat) rfl rfl h14 (applen h14) (size_le gr4)) (fun v w' ⟨_, _, _, _, h, _⟩ => DD.keep trivial) ?_
                  rintro _ w5 ⟨A_next, c_next, rfl, hO2, hg3, hk1⟩
                  have gr5 := gr_mod gr4 hg3 hO1.ge'
                  have k8 := k6.go hg3 (Dj.new k2.lt' (Ge.box (Nat.le_of_eq hl1.symm)))
                  have k9 := k7.go hg3 (Dj.new k3.lt' (Ge.box (Nat.le_of_eq hl1.symm)))
                  refine WJ.y rfl rfl (fun w' hw' => Yld.pure tab_ok rfl) ?_
                  refine WJ.nil (WX.then_normal ?_)
                  refine WC.seq ?_
                  refine WC.region ?_
                  refine WL.y rfl (Yld.pure tab_ok rfl) ?_
                  refine WL.y rfl (Yld.pure tab_ok rfl) ?_
                  refine WL.y rfl (Yld.pure tab_ok rfl) ?_
                  obtain ⟨h15, H⟩ := H
                  refine WL.y rfl (Yld.iaddrW tab_ok k8.rd rfl rfl rfl rfl h15.1 h15.2) ?_
                  refine WL.y rfl (Yld.iload [] tab_ok k8.rd rfl rfl (iltN h15 rfl)) ?_
                  refine WL.lit tab_ok rfl rfl rfl (all1c rfl all1n) rfl (by omega) (fun g1 w6 hB2 hg4 hl2 => ?_)
                  have hO3 : Own vs w6 w.heap.size 9 (some ⟨g1, 0, none⟩) 1 ([l.getD i2.toNat []] : List (List UInt8)) := Own.ofBl hB2 (Nat.le_trans (size_le gr5) hl2) (by simp [maxLen]) rfl
                  have gr6 := gr_trans gr5 hg4
                  have k10 := k8.grown hg4
                  have k11 := k9.grown hg4
                  have k12 := hO2.grown hg4
                  obtain ⟨h16, H⟩ := H
                  refine WL.append tab_ok rfl rfl One.s k12 rfl rfl hO3.rd rfl rfl h16 (applen h16) (size_le gr6) (fun A_next2 c_next2 w7 hO4 hg5 hk2 => ?_)
                  have gr7 := gr_mod gr6 hg5 k12.ge'
                  have k13 := k10.go hg5 ((Dj.app (Dj.new k2.lt' (Ge.box (Nat.le_of_eq hl1.symm))).symm k6.lt' hk1).symm)
                  have k14 := k11.go hg5 ((Dj.app (Dj.new k3.lt' (Ge.box (Nat.le_of_eq hl1.symm))).symm k7.lt' hk1).symm)
                  refine WL.y rfl (Yld.pure tab_ok rfl) ?_
                  refine WL.nil (WX.then_normal ?_)
                  refine WC.region ?_
                  refine WL.y rfl (Yld.pure tab_ok rfl) ?_
                  refine WL.y rfl (Yld.pure tab_ok rfl) ?_
                  refine WL.y rfl (Yld.pure tab_ok rfl) ?_
                  obtain ⟨h17, H⟩ := H
                  refine WL.cutF tab_ok k14.rd rfl rfl rfl rfl rfl h17.1 h17.2.1 (fun A_t102 c_t102 hR1 hb2 => ?_)
                  obtain ⟨h18, H⟩ := H
                  refine WL.append tab_ok rfl rfl One.s hO4 rfl rfl hR1 rfl rfl h18 (applen h18) (size_le gr7) (fun A_out3 c_out3 w8 hO5 hg6 hk3 => ?_)
                  have gr8 := gr_mod gr7 hg6 hO4.ge'
                  have k15 := k13.go hg6 ((Dj.app (Dj.app (Dj.new k2.lt' (Ge.box (Nat.le_of_eq hl1.symm))).symm k6.lt' hk1) k10.lt' hk2).symm)
                  refine WL.y rfl (Yld.pure tab_ok rfl) ?_
                  refine WL.nil (WX.block_normal ?_)
                  exact WX.weaken (by repeat (first | exact Sub.nil | refine Sub.cons rfl ?_)) (hQ _ _ ⟨((([] : List (List UInt8)) ++ (out.take k.toNat)) ++ ([l.getD i2.toNat []] : List (List UInt8))) ++ (out.drop k.toNat), A_out3, c_out3, (((([] : List (List UInt8)) ++ (out.take k.toNat)) ++ ([l.getD i2.toNat []] : List (List UInt8))) ++ (out.drop k.toNat)).length, rfl, H, rfl, gr8, k15, hO5, (Dj.app (Dj.app (Dj.app (Dj.new k2.lt' (Ge.box (Nat.le_of_eq hl1.symm))).symm k6.lt' hk1) k10.lt' hk2) k13.lt' hk3).symm⟩)
              · clear H
                rcases Bool.eq_false_or_eq_true (unique && (decide ((0 : Int) < k))) with b9 | b9
                · refine WQ.gyes rfl rfl (okb b9) rfl (Yld.pure tab_ok rfl) ?_
                  refine WQ.gyes rfl rfl (okb b9) rfl (Yld.pure tab_ok rfl) ?_
                  refine WQ.gyes rfl rfl (okb b9) rfl (Yld.sub rfl rfl (h8 b9)) ?_
                  refine WQ.gyes rfl rfl (okb b9) rfl (Yld.iaddrW tab_ok k3.rd rfl rfl rfl rfl (h9 b9).1 (h9 b9).2) ?_
                  refine WQ.gyes rfl rfl (okb b9) rfl (Yld.iload [] tab_ok k3.rd rfl rfl (iltN (h9 b9) rfl)) ?_
                  refine WQ.gyes rfl rfl (okb b9) rfl (Yld.pure tab_ok rfl) ?_
                  refine WQ.gyes rfl rfl (okb b9) rfl (Yld.pure tab_ok rfl) ?_
                  refine WQ.gyes rfl rfl (okb b9) rfl (Yld.iaddrW tab_ok k2.rd rfl rfl rfl rfl (h10 b9).1 (h10 b9).2) ?_
                  refine WQ.gyes rfl rfl (okb b9) rfl (Yld.iload [] tab_ok k2.rd rfl rfl (iltN (h10 b9) rfl)) ?_
                  refine WQ.gyes rfl rfl (okb b9) rfl (Yld.pure tab_ok rfl) ?_
                  refine WQ.y rfl (Yld.pickT (okb b9) rfl) ?_
                  exact WQ.weaken (by repeat (first | exact Sub.nil | refine Sub.cons rfl ?_)) (hQ _ _ ⟨decide ((out.getD ((k - (1 : Int)).toNat) []) = (l.getD i2.toNat [])), rfl, by rw [b9] <;> rfl, rfl⟩)
                · refine WQ.gno rfl rfl (okb b9) rfl ?_
                  refine WQ.gno rfl rfl (okb b9) rfl ?_
                  refine WQ.gno rfl rfl (okb b9) rfl ?_
                  refine WQ.gno rfl rfl (okb b9) rfl ?_
                  refine WQ.gno rfl rfl (okb b9) rfl ?_
                  refine WQ.gno rfl rfl (okb b9) rfl ?_
                  refine WQ.gno rfl rfl (okb b9) rfl ?_
                  refine WQ.gno rfl rfl (okb b9) rfl ?_
                  refine WQ.gno rfl rfl (okb b9) rfl ?_
                  refine WQ.gno rfl rfl (okb b9) rfl ?_
                  refine WQ.y rfl (Yld.pickF (okb b9) rfl) ?_
                  exact WQ.weaken (by repeat (first | exact Sub.nil | refine Sub.cons rfl ?_)) (hQ _ _ ⟨false, rfl, by rw [b9] <;> rfl, rfl⟩)
            · clear H
              rcases Bool.eq_false_or_eq_true (unique) with b10 | b10
              · refine WQ.gyes rfl rfl (okb b10) rfl (Yld.pure tab_ok rfl) ?_
                refine WQ.gyes rfl rfl (okb b10) rfl (Yld.pure tab_ok rfl) ?_
                refine WQ.y rfl (Yld.pickT (okb b10) rfl) ?_
                exact WQ.weaken (by repeat (first | exact Sub.nil | refine Sub.cons rfl ?_)) (hQ _ _ ⟨decide ((0 : Int) < k), rfl, by rw [b10] <;> rfl, rfl⟩)
              · refine WQ.gno rfl rfl (okb b10) rfl ?_
                refine WQ.gno rfl rfl (okb b10) rfl ?_
                refine WQ.y rfl (Yld.pickF (okb b10) rfl) ?_
                exact WQ.weaken (by repeat (first | exact Sub.nil | refine Sub.cons rfl ?_)) (hQ _ _ ⟨false, rfl, by rw [b10] <;> rfl, rfl⟩)
        · clear H
          rcases Bool.eq_false_or_eq_true (decide (k < (out.length : Int))) with b11 | b11
          · refine WQ.gyes rfl rfl (okb b11) rfl (Yld.pure tab_ok rfl) ?_
            refine WQ.gyes rfl rfl (okb b11) rfl (Yld.pure tab_ok rfl) ?_
            refine WQ.gyes rfl rfl (okb b11) rfl (Yld.iaddrW tab_ok k3.rd rfl rfl rfl rfl (h5 b11).1 (h5 b11).2) ?_
            refine WQ.gyes rfl rfl (okb b11) rfl (Yld.iload [] tab_ok k3.rd rfl rfl (iltN (h5 b11) rfl)) ?_
            refine WQ.gyes rfl rfl (okb b11) rfl (Yld.pure tab_ok rfl) ?_
            refine WQ.gyes rfl rfl (okb b11) rfl (Yld.pure tab_ok rfl) ?_
            refine WQ.gyes rfl rfl (okb b11) rfl (Yld.iaddrW tab_ok k2.rd rfl rfl rfl rfl (h6 b11).1 (h6 b11).2) ?_
            refine WQ.gyes rfl rfl (okb b11) rfl (Yld.iload [] tab_ok k2.rd rfl rfl (iltN (h6 b11) rfl)) ?_
            refine WQ.gyes rfl rfl (okb b11) rfl (Yld.pure tab_ok rfl) ?_
            refine WQ.y rfl (Yld.pickT (okb b11) rfl) ?_
            exact WQ.weaken (by repeat (first | exact Sub.nil | refine Sub.cons rfl ?_)) (hQ _ _ ⟨Op.bytesLess (out.getD k.toNat []) (l.getD i2.toNat []) || decide ((out.getD k.toNat []) = (l.getD i2.toNat [])), rfl, by rw [b11] <;> rfl, rfl⟩)
          · refine WQ.gno rfl rfl (okb b11) rfl ?_
            refine WQ.gno rfl rfl (okb b11) rfl ?_
            refine WQ.gno rfl rfl (okb b11) rfl ?_
            refine WQ.gno rfl rfl (okb b11) rfl ?_
            refine WQ.gno rfl rfl (okb b11) rfl ?_
            refine WQ.gno rfl rfl (okb b11) rfl ?_
            refine WQ.gno rfl rfl (okb b11) rfl ?_
            refine WQ.gno rfl rfl (okb b11) rfl ?_
            refine WQ.gno rfl rfl (okb b11) rfl ?_
            refine WQ.y rfl (Yld.pickF (okb b11) rfl) ?_
            exact WQ.weaken (by repeat (first | exact Sub.nil | refine Sub.cons rfl ?_)) (hQ _ _ ⟨false, rfl, by rw [b11] <;> rfl, rfl⟩)
    · replace H := H.2 (of_decide_eq_false b6)
      refine WC.exit (WX.then_exit (WX.then_exit (WX.block_same (WX.then_normal ?_))))
      refine WC.seq ?_
      obtain ⟨J3, H, hJ3⟩ := H
      refine WC.midF (fun L' w' => ∃ (out3 : List (List UInt8)), ∃ (A_out4 : Option Addr), ∃ (c_out4 : Nat), ∃ (n_out3 : Nat), L' = [(10, .slice A_out4 n_out3 c_out4)] ∧ J3 out3 ∧ n_out3 = out3.length ∧ w.grownBy w' none ∧ Own vs w' w.heap.size 9 A_out4 c_out4 out3) ?_ (fun hQ => ?_)
      · clear H
        rintro _ w9 ⟨out3, A_out4, c_out4, n_out3, rfl, H, rfl, gr9, k16⟩
        replace H := hJ3 out3 H
        refine WX.then_normal ?_
        refine WC.seq ?_
        refine WC.region ?_
        refine WL.y rfl (Yld.pure tab_ok rfl) ?_
        refine WL.call rfl rfl (W_smithyref17_joined k16.rd rfl H) ?_
        rintro _ w10 ⟨hg7, t4, rfl, H⟩
        have gr10 := gr_trans gr9 hg7
        refine WL.y rfl (Yld.pure tab_ok rfl) ?_
        refine WL.y rfl (Yld.pure tab_ok rfl) ?_
        refine WL.nil (WX.then_normal ?_)
        refine WC.ret ?_
        exact WX.ret2 rfl rfl rfl ⟨gr10, t4, true, rfl, H⟩
      · clear hJ3
        refine WC.seq ?_
        refine WC.region ?_
        refine WL.y rfl (Yld.pure tab_ok rfl) ?_
        refine WL.nil (WX.then_normal ?_)
        refine WC.cond rfl (fun b12 => ?_) (fun b12 => ?_)
        · replace H := H.1 (b12)
          refine WC.seq ?_
          refine WC.region ?_
          refine WL.y rfl (Yld.pure tab_ok rfl) ?_
          refine WL.nil (WX.then_normal ?_)
          refine WC.seq ?_
          refine WC.seq ?_
          refine WC.region ?_
          refine WL.y rfl (Yld.pure tab_ok rfl) ?_
          refine WL.y rfl (Yld.pure tab_ok rfl) ?_
          obtain ⟨h19, H⟩ := H
          refine WL.y rfl (Yld.sub rfl rfl h19) ?_
          refine WL.y rfl (Yld.pure tab_ok rfl) ?_
          refine WL.nil (WX.then_normal ?_)
          refine WC.block ?_
          obtain ⟨I4, mu4, h0_4, HR4⟩ := H
          refine WC.loopF (fun n' L' w' => ∃ (turned : List (List UInt8)), ∃ (A_turned : Option Addr), ∃ (c_turned : Nat), ∃ (n_turned : Nat), ∃ (i3 : Int), n' = mu4 turned i3 ∧ L' = [(10, .slice A_out out.length c_out), (14, .slice A_turned n_turned c_turned), (15, .int .i64 i3)] ∧ I4 turned i3 ∧ n_turned = turned.length ∧ w.grownBy w' none ∧ Own vs w' w.heap.size 9 A_out c_out out ∧ Own vs w' w.heap.size 9 A_turned c_turned turned ∧ Dj (blk A_out) (blk A_turned)) _ _ ⟨[], none, 0, 0, (out.length : Int) - (1 : Int), rfl, rfl, h0_4, rfl, gr2, k3, (Own.nil vs w2 w.heap.size 9), Dj.nr⟩ (by repeat (first | exact Sub.nil | refine Sub.cons rfl ?_)) ?_
          clear h0_4
          rintro _ _ w11 ⟨turned, A_turned, c_turned, n_turned, i3, rfl, rfl, hI4, rfl, gr11, k17, k18, dj3⟩
          have H := HR4 turned i3 hI4
          refine WC.seq ?_
          refine WC.seq ?_
          refine WC.region ?_
          refine WL.y rfl (Yld.pure tab_ok rfl) ?_
          refine WL.y rfl (Yld.pure tab_ok rfl) ?_
          refine WL.nil (WX.then_normal ?_)
          refine WC.cond rfl (fun b13 => ?_) (fun b13 => ?_)
          · replace H := H.1 (of_decide_eq_true b13)
            refine WC.skip (WX.then_normal ?_)
            refine WC.seq ?_
            refine WC.block ?_
            refine WC.region ?_
            refine WL.y rfl (Yld.pure tab_ok rfl) ?_
            refine WL.y rfl (Yld.pure tab_ok rfl) ?_
            refine WL.y rfl (Yld.pure tab_ok rfl) ?_
            obtain ⟨h20, H⟩ := H
            refine WL.y rfl (Yld.iaddrW tab_ok k17.rd rfl rfl rfl rfl h20.1 h20.2) ?_
            refine WL.y rfl (Yld.iload [] tab_ok k17.rd rfl rfl (iltN h20 rfl)) ?_
            refine WL.lit tab_ok rfl rfl rfl (all1c rfl all1n) rfl (by omega) (fun g2 w12 hB3 hg8 hl3 => ?_)
            have hO6 : Own vs w12 w.heap.size 9 (some ⟨g2, 0, none⟩) 1 ([out.getD i3.toNat []] : List (List UInt8)) := Own.ofBl hB3 (Nat.le_trans (size_le gr11) hl3) (by simp [maxLen]) rfl
            have gr12 := gr_trans gr11 hg8
            have k19 := k17.grown hg8
            have k20 := k18.grown hg8
            obtain ⟨h21, H⟩ := H
            refine WL.append tab_ok rfl rfl One.s k20 rfl rfl hO6.rd rfl rfl h21 (applen h21) (size_le gr12) (fun A_turned2 c_turned2 w13 hO7 hg9 hk4 => ?_)
            have gr13 := gr_mod gr12 hg9 k20.ge'
            have k21 := k19.go hg9 dj3
            refine WL.y rfl (Yld.pure tab_ok rfl) ?_
            refine WL.nil (WX.block_normal (WX.then_normal ?_))
            refine WC.region ?_
            refine WL.y rfl (Yld.pure tab_ok rfl) ?_
            obtain ⟨h22, H⟩ := H
            refine WL.y rfl (Yld.sub rfl rfl h22) ?_
            refine WL.y rfl (Yld.pure tab_ok rfl) ?_
            refine WL.nil ?_
            exact WX.roundF _ ⟨turned ++ ([out.getD i3.toNat []] : List (List UInt8)), A_turned2, c_turned2, (turned ++ ([out.getD i3.toNat []] : List (List UInt8))).length, i3 - (1 : Int), rfl, rfl, H.1, rfl, gr13, k21, hO7, (Dj.app dj3.symm k19.lt' hk4).symm⟩ (by repeat (first | exact Sub.nil | refine Sub.cons rfl ?_)) H.2
          · replace H := H.2 (of_decide_eq_false b13)
            refine WC.exit (WX.then_exit (WX.then_exit (WX.block_same (WX.then_normal ?_))))
            refine WC.region ?_
            refine WL.y rfl (Yld.pure tab_ok rfl) ?_
            refine WL.y rfl (Yld.pure tab_ok rfl) ?_
            refine WL.nil ?_
            exact WX.weaken (by repeat (first | exact Sub.nil | refine Sub.cons rfl ?_)) (hQ _ _ ⟨turned, A_turned, c_turned, turned.length, rfl, H, rfl, gr11, k18⟩)
        · replace H := H.2 (b12)
          refine WC.skip ?_
          exact WX.weaken (by repeat (first | exact Sub.nil | refine Sub.cons rfl ?_)) (hQ _ _ ⟨out, A_out, c_out, out.length, rfl, H, rfl, gr2, k3⟩)

set_option maxHeartbeats 8000000 in
theorem W_smithyref17_done {w : World} {tool : Int} {args : List (List UInt8)} {A_args : Option Addr} {c_args : Nat} {inputs : List (List UInt8)} {A_inputs : Option Addr} {c_inputs : Nat} {n_args : Nat} {n_inputs : Nat} {K : (List UInt8) → Bool → Prop} (hargs : Rd vs w A_args c_args args) (hn_args : n_args = args.length) (hinputs : Rd vs w A_inputs c_inputs inputs) (hn_inputs : n_inputs = inputs.length) (H : M_smithyref17_done tool args inputs K) : Fn Tryz.prog 24 ⟨[.int .i64 tool, .slice A_args n_args c_args, .slice A_inputs n_inputs c_inputs]⟩ w (fun v w' => w.grownBy w' none ∧ ∃ (r0 : List UInt8), ∃ (r1 : Bool), v = .tuple #[vs r0, .bool r1] ∧ K r0 r1) := by
  subst hn_args
  subst hn_inputs
  unfold M_smithyref17_done at H
  refine Fn.enter (by kernel_rfl) Tryz.func24 rfl Tryz.ntmps24 rfl ?_
  replace H := H (Nat.le_trans hargs.cap hargs.max)
  replace H := H (Nat.le_trans hinputs.cap hinputs.max)
  refine WC.seq ?_
  refine WC.region ?_
  refine WL.y rfl (Yld.pure tab_ok rfl) ?_
  refine WL.y rfl (Yld.pure tab_ok rfl) ?_
  refine WL.nil (WX.then_normal ?_)
  refine WC.seq ?_
  refine WC.seq ?_
  refine WC.region ?_
  refine WL.y rfl (Yld.pure tab_ok rfl) ?_
  refine WL.nil (WX.then_normal ?_)
  refine WC.block ?_
  refine WC.seq ?_
  refine WC.region ?_
  refine WL.y rfl (Yld.pure tab_ok rfl) ?_
  refine WL.y rfl (Yld.pure tab_ok rfl) ?_
  refine WL.nil (WX.then_normal ?_)
  refine WC.cond rfl (fun b1 => ?_) (fun b1 => ?_)
  · replace H := H.1 (of_decide_eq_true b1)
    refine WC.seq ?_
    refine WC.region ?_
    refine WL.y rfl (Yld.pure tab_ok rfl) ?_
    refine WL.nil (WX.then_normal ?_)
    refine WC.seq ?_
    obtain ⟨J1, H, hJ1⟩ := H
    refine WC.midF (fun L' w' => ∃ (by_ : List UInt8), L' = [(1, .slice A_args args.length c_args), (2, .slice A_inputs inputs.length c_inputs), (8, vs by_)] ∧ J1 by_ ∧ w = w') ?_ (fun hQ => ?_)
    · clear H
      rintro _ _ ⟨by_, rfl, H, rfl⟩
      replace H := hJ1 by_ H
      refine WX.then_normal ?_
      refine WC.seq ?_
      refine WC.region ?_
      refine WL.y rfl (Yld.pure tab_ok rfl) ?_
      refine WL.y rfl (Yld.pure tab_ok rfl) ?_
      refine WL.call rfl rfl (W_smithyref17_concat hinputs rfl H) ?_
      rintro _ w1 ⟨hg1, t6, rfl, H⟩
      have gr1 := hg1
      refine WL.y rfl (Yld.pure tab_ok rfl) ?_
      refine WL.y rfl (Yld.pure tab_ok rfl) ?_
      refine WL.y rfl (Yld.pure tab_ok rfl) ?_
      refine WL.y rfl (Yld.pure tab_ok rfl) ?_
      refine WL.y rfl (Yld.pure tab_ok rfl) ?_
      refine WL.nil (WX.then_normal ?_)
      refine WC.ret (WX.block_ret (WX.then_ret ?_))
      exact WX.ret2 rfl rfl rfl ⟨gr1, t6, decide ((args.length : Int) ≤ (1 : Int)), rfl, H⟩
    · clear hJ1
      refine WC.seq ?_
      refine WC.region ?_
      refine WL.y rfl (Yld.pure tab_ok rfl) ?_
      refine WL.y rfl (Yld.pure tab_ok rfl) ?_
      refine WL.y rfl (Yld.pure tab_ok rfl) ?_
      refine WL.nil (WX.then_normal ?_)
      refine WC.cond rfl (fun b2 => ?_) (fun b2 => ?_)
      · replace H := H.1 (of_decide_eq_true b2)
        refine WC.region ?_
        refine WL.y rfl (Yld.pure tab_ok rfl) ?_
        obtain ⟨h1, H⟩ := H
        refine WL.y rfl (Yld.iaddrW tab_ok hargs rfl rfl rfl rfl h1.1 h1.2) ?_
        refine WL.y rfl (Yld.iload [] tab_ok hargs rfl rfl (iltN h1 rfl)) ?_
        refine WL.y rfl (Yld.pure tab_ok rfl) ?_
        refine WL.nil ?_
        exact WX.weaken (by repeat (first | exact Sub.nil | refine Sub.cons rfl ?_)) (hQ _ _ ⟨args.getD 0 [], rfl, H, rfl⟩)
      · replace H := H.2 (of_decide_eq_false b2)
        refine WC.skip ?_
        exact WX.weaken (by repeat (first | exact Sub.nil | refine Sub.cons rfl ?_)) (hQ _ _ ⟨([] : List UInt8), rfl, H, rfl⟩)
  · replace H := H.2 (of_decide_eq_false b1)
    refine WC.seq ?_
    refine WC.region ?_
    refine WL.y rfl (Yld.pure tab_ok rfl) ?_
    refine WL.y rfl (Yld.pure tab_ok rfl) ?_
    refine WL.nil (WX.then_normal ?_)
    refine WC.cond rfl (fun b3 => ?_) (fun b3 => ?_)
    · replace H := H.1 (of_decide_eq_true b3)
      refine WC.seq ?_
      refine WC.seq ?_
      refine WC.region ?_
      refine WL.y rfl (Yld.pure tab_ok rfl) ?_
      refine WL.y rfl (Yld.pure tab_ok rfl) ?_
      refine WL.y rfl (Yld.pure tab_ok rfl) ?_
      refine WL.y rfl (Yld.pure tab_ok rfl) ?_
      refine WL.midF 4 (fun L' w' => ∃ q1 : Bool, L' = [(38, .bool q1), (1, .slice A_args args.length c_args), (2, .slice A_inputs inputs.length c_inputs)] ∧ q1 = ((decide ((args.length : Int) < (1 : Int))) || (decide ((2 : Int) < (args.length : Int)))) ∧ w = w') ?_ (fun hQ => ?_)
      · rintro _ _ ⟨q1, rfl, rfl, rfl⟩
        refine WL.y rfl (Yld.pure tab_ok rfl) ?_
        obtain ⟨h2, H⟩ := H
        refine WL.midF 10 (fun L' w' => ∃ q2 : Bool, L' = [(49, .bool q2), (1, .slice A_args args.length c_args), (2, .slice A_inputs inputs.length c_inputs)] ∧ q2 = (((decide ((args.length : Int) < (1 : Int))) || (decide ((2 : Int) < (args.length : Int)))) || ((decide ((args.length : Int) = (2 : Int))) && (!decide ((args.getD 1 []) = ([110, 111, 116] : List UInt8))))) ∧ w = w') ?_ (fun hQ => ?_)
        · rintro _ _ ⟨q2, rfl, rfl, rfl⟩
          refine WL.nil (WX.then_normal ?_)
          refine WC.cond rfl (fun b4 => ?_) (fun b4 => ?_)
          · replace H := H.1 (b4)
            refine WC.seq ?_
            refine WC.region ?_
            refine WL.y rfl (Yld.pure tab_ok rfl) ?_
            refine WL.y rfl (Yld.pure tab_ok rfl) ?_
            refine WL.nil (WX.then_normal ?_)
            refine WC.ret (WX.then_ret (WX.block_ret (WX.then_ret ?_)))
            exact WX.ret2 rfl rfl rfl ⟨(gr_refl _ _), ([] : List UInt8), false, rfl, H⟩
          · replace H := H.2 (b4)
            refine WC.skip (WX.then_normal ?_)
            refine WC.seq ?_
            refine WC.region ?_
            refine WL.y rfl (Yld.pure tab_ok rfl) ?_
            refine WL.nil (WX.then_normal ?_)
            refine WC.seq ?_
            refine WC.region ?_
            refine WL.y rfl (Yld.pure tab_ok rfl) ?_
            refine WL.call rfl rfl (W_smithyref17_lines hinputs rfl H) ?_
            rintro _ w2 ⟨hg2, l, A_l, c_l, rfl, hl, H⟩
            have hb1 := hl.ge'
            have k1 := hl.base (fun g hg => Nat.le_trans (Nat.le_refl _) (hb1 g hg))
            have gr2 := hg2
            refine WL.y rfl (Yld.pure tab_ok rfl) ?_
            refine WL.nil (WX.then_normal ?_)
            refine WC.seq ?_
            refine WC.seq ?_
            refine WC.region ?_
            refine WL.y rfl (Yld.pure tab_ok rfl) ?_
            refine WL.nil (WX.then_normal ?_)
            refine WC.block ?_
            obtain ⟨I1, mu1, h0_1, HR1⟩ := H
            refine WC.loopF (fun n' L' w' => ∃ (out : List (List UInt8)), ∃ (A_out : Option Addr), ∃ (c_out : Nat), ∃ (n_out : Nat), ∃ (i : Int), n' = mu1 out i ∧ L' = [(1, .slice A_args args.length c_args), (9, .slice A_out n_out c_out), (10, .slice A_l l.length c_l), (11, .int .i64 i)] ∧ I1 out i ∧ n_out = out.length ∧ w.grownBy w' none ∧ Own vs w' w.heap.size 9 A_l c_l l ∧ Own vs w' w.heap.size 9 A_out c_out out ∧ Dj (blk A_l) (blk A_out)) _ _ ⟨[], none, 0, 0, (0 : Int), rfl, rfl, h0_1, rfl, gr2, k1, (Own.nil vs w2 w.heap.size 9), Dj.nr⟩ (by repeat (first | exact Sub.nil | refine Sub.cons rfl ?_)) ?_
            clear h0_1
            rintro _ _ w3 ⟨out, A_out, c_out, n_out, i, rfl, rfl, hI1, rfl, gr3, k2, k3, dj1⟩
            have H := HR1 out i hI1
            refine WC.seq ?_
            refine WC.seq ?_
            refine WC.region ?_
            refine WL.y rfl (Yld.pure tab_ok rfl) ?_
            refine WL.y rfl (Yld.pure tab_ok rfl) ?_
            refine WL.y rfl (Yld.pure tab_ok rfl) ?_
            refine WL.y rfl (Yld.pure tab_ok rfl) ?_
            refine WL.nil (WX.then_normal ?_)
            refine WC.cond rfl (fun b5 => ?_) (fun b5 => ?_)
            · replace H := H.1 (of_decide_eq_true b5)
              refine WC.skip (WX.then_normal ?_)
              refine WC.seq ?_
              obtain ⟨J2, H, hJ2⟩ := H
              refine WC.midF (fun L' w' => ∃ (out2 : List (List UInt8)), ∃ (A_out2 : Option Addr), ∃ (c_out2 : Nat), ∃ (n_out2 : Nat), L' = [(1, .slice A_args args.length c_args), (9, .slice A_out2 n_out2 c_out2), (10, .slice A_l l.length c_l), (11, .int .i64 i)] ∧ J2 out2 ∧ n_out2 = out2.length ∧ w.grownBy w' none ∧ Own vs w' w.heap.size 9 A_l c_l l ∧ Own vs w' w.heap.size 9 A_out2 c_out2 out2 ∧ Dj (blk A_l) (blk A_out2)) ?_ (fun hQ => ?_)
              · clear H
                rintro _ w4 ⟨out2, A_out2, c_out2, n_out2, rfl, H, rfl, gr4, k4, k5, dj2⟩
                replace H := hJ2 out2 H
                refine WX.then_normal ?_
                refine WC.region ?_
                refine WL.y rfl (Yld.pure tab_ok rfl) ?_
                obtain ⟨h3, H⟩ := H
                refine WL.y rfl (Yld.add rfl rfl h3) ?_
                refine WL.y rfl (Yld.pure tab_ok rfl) ?_
                refine WL.nil ?_
                exact WX.roundF _ ⟨out2, A_out2, c_out2, out2.length, i + (1 : Int), rfl, rfl, H.1, rfl, gr4, k4, k5, dj2⟩ (by repeat (first | exact Sub.nil | refine Sub.cons rfl ?_)) H.2
              · clear hJ2
                refine WC.block ?_
                refine WC.seq ?_
                refine WC.chainF (fun k => !(Nat.beq k 12)) (LD [3, 6, 10] (fun w' => Rd vs w' A_l c_l l ∧ Rd vs w' A_args c_args args)) mixed (by kernel_rfl) (fun k w' h _ => ⟨(rd_eqv h k2.rd), (rd_eqv h (hargs.grown gr3))⟩) ?_
                refine WJ.y rfl rfl (fun w' hw' => Yld.pure tab_ok rfl) ?_
                refine WJ.y rfl rfl (fun w' hw' => Yld.pure tab_ok rfl) ?_
                obtain ⟨h4, H⟩ := H
                refine WJ.y rfl rfl (fun w' hw' => Yld.iaddrW tab_ok k2.rd rfl rfl rfl rfl h4.1 h4.2) ?_
                refine WJ.y rfl rfl (fun w' hw' => Yld.iload [] tab_ok (hw' rfl).1 rfl rfl (iltN h4 rfl)) ?_
                refine WJ.y rfl rfl (fun w' hw' => Yld.pure tab_ok rfl) ?_
                obtain ⟨h5, H⟩ := H
                refine WJ.y rfl rfl (fun w' hw' => Yld.iaddrW tab_ok (hargs.grown gr3) rfl rfl rfl rfl h5.1 h5.2) ?_
                refine WJ.y rfl rfl (fun w' hw' => Yld.iload [] tab_ok (hw' rfl).2 rfl rfl (iltN h5 rfl)) ?_
                refine WJ.y rfl rfl (fun w' hw' => Yld.pure tab_ok rfl) ?_
                refine WJ.y rfl rfl (fun w' hw' => Yld.pure tab_ok rfl) ?_
                obtain ⟨h6, H⟩ := H
                refine WJ.y rfl rfl (fun w' hw' => Yld.iaddrW tab_ok k2.rd rfl rfl rfl rfl h6.1 h6.2) ?_
                refine WJ.y rfl rfl (fun w' hw' => Yld.iload [] tab_ok (hw' rfl).1 rfl rfl (iltN h6 rfl)) ?_
                refine WJ.y rfl rfl (fun w' hw' => Yld.pure tab_ok rfl) ?_
                refine WJ.call rfl (wants_none) rfl rfl (W_smithyref11_Find H) (fun v w' h w2 e => DD.keep (⟨(rd_eqv (eqvL h.1 e) k2.rd), (rd_eqv (eqvL h.1 e) (hargs.grown gr3))⟩)) ?_
                rintro _ _ ⟨rfl, t70, rfl, H⟩
                refine WJ.y rfl rfl (fun w' hw' => Yld.pure tab_ok rfl) ?_
                refine WJ.y rfl rfl (fun w' hw' => Yld.pure tab_ok rfl) ?_
                refine WJ.y rfl rfl (fun w' hw' => Yld.pure tab_ok rfl) ?_
                refine WJ.y rfl rfl (fun w' hw' => Yld.pure tab_ok rfl) ?_
                refine WJ.y rfl rfl (fun w' hw' => Yld.beql Tryz.underlying4 rfl rfl) ?_
                refine WJ.nil (WX.then_normal ?_)
                refine WC.cond rfl (fun b6 => ?_) (fun b6 => ?_)
                · replace H := H.1 (b6)
                  refine WC.region ?_
                  refine WL.y rfl (Yld.pure tab_ok rfl) ?_
                  refine WL.y rfl (Yld.pure tab_ok rfl) ?_
                  refine WL.y rfl (Yld.pure tab_ok rfl) ?_
                  obtain ⟨h7, H⟩ := H
                  refine WL.y rfl (Yld.iaddrW tab_ok k2.rd rfl rfl rfl rfl h7.1 h7.2) ?_
                  refine WL.y rfl (Yld.iload [] tab_ok k2.rd rfl rfl (iltN h7 rfl)) ?_
                  refine WL.lit tab_ok rfl rfl rfl (all1c rfl all1n) rfl (by omega) (fun g1 w5 hB1 hg3 hl1 => ?_)
                  have hO1 : Own vs w5 w.heap.size 9 (some ⟨g1, 0, none⟩) 1 ([l.getD i.toNat []] : List (List UInt8)) := Own.ofBl hB1 (Nat.le_trans (size_le gr3) hl1) (by simp [maxLen]) rfl
                  have gr5 := gr_trans gr3 hg3
                  have k6 := k2.grown hg3
                  have k7 := k3.grown hg3
                  obtain ⟨h8, H⟩ := H
                  refine WL.append tab_ok rfl rfl One.s k7 rfl rfl hO1.rd rfl rfl h8 (applen h8) (size_le gr5) (fun A_out3 c_out3 w6 hO2 hg4 hk1 => ?_)
                  have gr6 := gr_mod gr5 hg4 k7.ge'
                  have k8 := k6.go hg4 dj1
                  refine WL.y rfl (Yld.pure tab_ok rfl) ?_
                  refine WL.nil (WX.block_normal ?_)
                  exact WX.weaken (by repeat (first | exact Sub.nil | refine Sub.cons rfl ?_)) (hQ _ _ ⟨out ++ ([l.getD i.toNat []] : List (List UInt8)), A_out3, c_out3, (out ++ ([l.getD i.toNat []] : List (List UInt8))).length, rfl, H, rfl, gr6, k8, hO2, (Dj.app dj1.symm k6.lt' hk1).symm⟩)
                · replace H := H.2 (b6)
                  refine WC.skip (WX.block_normal ?_)
                  exact WX.weaken (by repeat (first | exact Sub.nil | refine Sub.cons rfl ?_)) (hQ _ _ ⟨out, A_out, c_out, out.length, rfl, H, rfl, gr3, k2, k3, dj1⟩)
            · replace H := H.2 (of_decide_eq_false b5)
              refine WC.exit (WX.then_exit (WX.then_exit (WX.block_same (WX.then_normal ?_))))
              refine WC.seq ?_
              refine WC.region ?_
              refine WL.y rfl (Yld.pure tab_ok rfl) ?_
              refine WL.call rfl rfl (W_smithyref17_joined k3.rd rfl H) ?_
              rintro _ w7 ⟨hg5, t62, rfl, H⟩
              have gr7 := gr_trans gr3 hg5
              refine WL.y rfl (Yld.pure tab_ok rfl) ?_
              refine WL.y rfl (Yld.pure tab_ok rfl) ?_
              refine WL.nil (WX.then_normal ?_)
              refine WC.ret (WX.block_ret (WX.then_ret ?_))
              exact WX.ret2 rfl rfl rfl ⟨gr7, t62, true, rfl, H⟩
        · clear H
          rcases Bool.eq_false_or_eq_true ((decide ((args.length : Int) < (1 : Int))) || (decide ((2 : Int) < (args.length : Int)))) with b7 | b7
          · refine WL.gno rfl rfl (okb b7) rfl ?_
            refine WL.gno rfl rfl (okb b7) rfl ?_
            refine WL.gno rfl rfl (okb b7) rfl ?_
            refine WL.gno rfl rfl (okb b7) rfl ?_
            refine WL.gun rfl rfl rfl rfl ?_
            refine WL.gun rfl rfl rfl rfl ?_
            refine WL.gun rfl rfl rfl rfl ?_
            refine WL.gun rfl rfl rfl rfl ?_
            refine WL.gno rfl rfl (okb b7) rfl ?_
            refine WL.y rfl (Yld.pickT (okb b7) rfl) ?_
            exact WL.weaken (by repeat (first | exact Sub.nil | refine Sub.cons rfl ?_)) (hQ _ _ ⟨true, rfl, by rw [b7] <;> rfl, rfl⟩)
          · refine WL.gyes rfl rfl (okb b7) rfl (Yld.pure tab_ok rfl) ?_
            refine WL.gyes rfl rfl (okb b7) rfl (Yld.pure tab_ok rfl) ?_
            refine WL.gyes rfl rfl (okb b7) rfl (Yld.pure tab_ok rfl) ?_
            refine WL.gyes rfl rfl (okb b7) rfl (Yld.pure tab_ok rfl) ?_
            rcases Bool.eq_false_or_eq_true (decide ((args.length : Int) = (2 : Int))) with b8 | b8
            · refine WL.gyes rfl rfl (okb b8) rfl (Yld.pure tab_ok rfl) ?_
              refine WL.gyes rfl rfl (okb b8) rfl (Yld.iaddrW tab_ok hargs rfl rfl rfl rfl (h2 b7 b8).1 (h2 b7 b8).2) ?_
              refine WL.gyes rfl rfl (okb b8) rfl (Yld.iload [] tab_ok hargs rfl rfl (iltN (h2 b7 b8) rfl)) ?_
              refine WL.gyes rfl rfl (okb b8) rfl (Yld.pure tab_ok rfl) ?_
              refine WL.gyes rfl rfl (okb b7) rfl (Yld.pickT (okb b8) rfl) ?_
              refine WL.y rfl (Yld.pickF (okb b7) rfl) ?_
              exact WL.weaken (by repeat (first | exact Sub.nil | refine Sub.cons rfl ?_)) (hQ _ _ ⟨!decide ((args.getD 1 []) = ([110, 111, 116] : List UInt8)), rfl, by rw [b7, b8] <;> rfl, rfl⟩)
            · refine WL.gno rfl rfl (okb b8) rfl ?_
              refine WL.gno rfl rfl (okb b8) rfl ?_
              refine WL.gno rfl rfl (okb b8) rfl ?_
              refine WL.gno rfl rfl (okb b8) rfl ?_
              refine WL.gyes rfl rfl (okb b7) rfl (Yld.pickF (okb b8) rfl) ?_
              refine WL.y rfl (Yld.pickF (okb b7) rfl) ?_
              exact WL.weaken (by repeat (first | exact Sub.nil | refine Sub.cons rfl ?_)) (hQ _ _ ⟨false, rfl, by rw [b7, b8] <;> rfl, rfl⟩)
      · clear H
        rcases Bool.eq_false_or_eq_true (decide ((args.length : Int) < (1 : Int))) with b9 | b9
        · refine WL.gno rfl rfl (okb b9) rfl ?_
          refine WL.gno rfl rfl (okb b9) rfl ?_
          refine WL.gno rfl rfl (okb b9) rfl ?_
          refine WL.y rfl (Yld.pickT (okb b9) rfl) ?_
          exact WL.weaken (by repeat (first | exact Sub.nil | refine Sub.cons rfl ?_)) (hQ _ _ ⟨true, rfl, by rw [b9] <;> rfl, rfl⟩)
        · refine WL.gyes rfl rfl (okb b9) rfl (Yld.pure tab_ok rfl) ?_
          refine WL.gyes rfl rfl (okb b9) rfl (Yld.pure tab_ok rfl) ?_
          refine WL.gyes rfl rfl (okb b9) rfl (Yld.pure tab_ok rfl) ?_
          refine WL.y rfl (Yld.pickF (okb b9) rfl) ?_
          exact WL.weaken (by repeat (first | exact Sub.nil | refine Sub.cons rfl ?_)) (hQ _ _ ⟨decide ((2 : Int) < (args.length : Int)), rfl, by rw [b9] <;> rfl, rfl⟩)
    · replace H := H.2 (of_decide_eq_false b3)
      refine WC.seq ?_
      refine WC.region ?_
      refine WL.y rfl (Yld.pure tab_ok rfl) ?_
      refine WL.y rfl (Yld.pure tab_ok rfl) ?_
      refine WL.nil (WX.then_normal ?_)
      refine WC.cond rfl (fun b10 => ?_) (fun b10 => ?_)
      · replace H := H.1 (of_decide_eq_true b10)
        refine WC.seq ?_
        refine WC.region ?_
        refine WL.y rfl (Yld.pure tab_ok rfl) ?_
        refine WL.y rfl (Yld.pure tab_ok rfl) ?_
        refine WL.call rfl rfl (W_smithyref17_substituted hargs rfl hinputs rfl H) ?_
        rintro _ w8 ⟨hg6, t890, t891, rfl, H⟩
        have gr8 := hg6
        refine WL.y rfl (Yld.pure tab_ok rfl) ?_
        refine WL.y rfl (Yld.pure tab_ok rfl) ?_
        refine WL.y rfl (Yld.pure tab_ok rfl) ?_
        refine WL.y rfl (Yld.pure tab_ok rfl) ?_
        refine WL.nil (WX.then_normal ?_)
        refine WC.ret (WX.block_ret (WX.then_ret ?_))
        exact WX.ret2 rfl rfl rfl ⟨gr8, t890, t891, rfl, H⟩
      · replace H := H.2 (of_decide_eq_false b10)
        refine WC.seq ?_
        refine WC.region ?_
        refine WL.y rfl (Yld.pure tab_ok rfl) ?_
        refine WL.y rfl (Yld.pure tab_ok rfl) ?_
        refine WL.nil (WX.then_normal ?_)
        refine WC.cond rfl (fun b11 => ?_) (fun b11 => ?_)
        · replace H := H.1 (of_decide_eq_true b11)
          refine WC.seq ?_
          refine WC.region ?_
          refine WL.y rfl (Yld.pure tab_ok rfl) ?_
          refine WL.y rfl (Yld.pure tab_ok rfl) ?_
          refine WL.call rfl rfl (W_smithyref17_sorted hargs rfl hinputs rfl H) ?_
          rintro _ w9 ⟨hg7, t960, t961, rfl, H⟩
          have gr9 := hg7
          refine WL.y rfl (Yld.pure tab_ok rfl) ?_
          refine WL.y rfl (Yld.pure tab_ok rfl) ?_
          refine WL.y rfl (Yld.pure tab_ok rfl) ?_
          refine WL.y rfl (Yld.pure tab_ok rfl) ?_
          refine WL.nil (WX.then_normal ?_)
          refine WC.ret (WX.block_ret (WX.then_ret ?_))
          exact WX.ret2 rfl rfl rfl ⟨gr9, t960, t961, rfl, H⟩
        · replace H := H.2 (of_decide_eq_false b11)
          refine WC.skip (WX.block_normal (WX.then_normal ?_))
          refine WC.seq ?_
          refine WC.region ?_
          refine WL.y rfl (Yld.pure tab_ok rfl) ?_
          refine WL.nil (WX.then_normal ?_)
          refine WC.seq ?_
          refine WC.seq ?_
          refine WC.region ?_
          refine WL.y rfl (Yld.pure tab_ok rfl) ?_
          refine WL.nil (WX.then_normal ?_)
          refine WC.block ?_
          obtain ⟨I2, mu2, h0_2, HR2⟩ := H
          refine WC.loopF (fun n' L' w' => ∃ (out3 : List (List UInt8)), ∃ (A_out4 : Option Addr), ∃ (c_out4 : Nat), ∃ (n_out3 : Nat), ∃ (i2 : Int), n' = mu2 out3 i2 ∧ L' = [(1, .slice A_args args.length c_args), (2, .slice A_inputs inputs.length c_inputs), (12, .slice A_out4 n_out3 c_out4), (13, .int .i64 i2)] ∧ I2 out3 i2 ∧ n_out3 = out3.length ∧ w.grownBy w' none ∧ Own vs w' w.heap.size 9 A_out4 c_out4 out3) _ _ ⟨[], none, 0, 0, (0 : Int), rfl, rfl, h0_2, rfl, (gr_refl _ _), (Own.nil vs w w.heap.size 9)⟩ (by repeat (first | exact Sub.nil | refine Sub.cons rfl ?_)) ?_
          clear h0_2
          rintro _ _ w10 ⟨out3, A_out4, c_out4, n_out3, i2, rfl, rfl, hI2, rfl, gr10, k9⟩
          have H := HR2 out3 i2 hI2
          refine WC.seq ?_
          refine WC.seq ?_
          refine WC.region ?_
          refine WL.y rfl (Yld.pure tab_ok rfl) ?_
          refine WL.y rfl (Yld.pure tab_ok rfl) ?_
          refine WL.y rfl (Yld.pure tab_ok rfl) ?_
          refine WL.y rfl (Yld.pure tab_ok rfl) ?_
          refine WL.nil (WX.then_normal ?_)
          refine WC.cond rfl (fun b12 => ?_) (fun b12 => ?_)
          · replace H := H.1 (of_decide_eq_true b12)
            refine WC.skip (WX.then_normal ?_)
            refine WC.seq ?_
            refine WC.block ?_
            refine WC.region ?_
            refine WL.y rfl (Yld.pure tab_ok rfl) ?_
            refine WL.y rfl (Yld.pure tab_ok rfl) ?_
            refine WL.y rfl (Yld.pure tab_ok rfl) ?_
            obtain ⟨h9, H⟩ := H
            refine WL.y rfl (Yld.iaddrW tab_ok (hinputs.grown gr10) rfl rfl rfl rfl h9.1 h9.2) ?_
            refine WL.y rfl (Yld.iload [] tab_ok (hinputs.grown gr10) rfl rfl (iltN h9 rfl)) ?_
            refine WL.call rfl rfl (W_smithyref1_Sum H) ?_
            rintro _ w11 ⟨hg8, t110, rfl, H⟩
            have gr11 := gr_trans gr10 hg8
            have k10 := k9.grown hg8
            refine WL.call rfl rfl (W_smithyref1_Hex H) ?_
            rintro _ w12 ⟨hg9, t111, rfl, H⟩
            have gr12 := gr_trans gr11 hg9
            have k11 := k10.grown hg9
            refine WL.lit tab_ok rfl rfl rfl (all1c rfl all1n) rfl (by omega) (fun g2 w13 hB2 hg10 hl2 => ?_)
            have hO3 : Own vs w13 w.heap.size 9 (some ⟨g2, 0, none⟩) 1 ([t111] : List (List UInt8)) := Own.ofBl hB2 (Nat.le_trans (size_le gr12) hl2) (by simp [maxLen]) rfl
            have gr13 := gr_trans gr12 hg10
            have k12 := k11.grown hg10
            obtain ⟨h10, H⟩ := H
            refine WL.append tab_ok rfl rfl One.s k12 rfl rfl hO3.rd rfl rfl h10 (applen h10) (size_le gr13) (fun A_out5 c_out5 w14 hO4 hg11 hk2 => ?_)
            have gr14 := gr_mod gr13 hg11 k12.ge'
            refine WL.y rfl (Yld.pure tab_ok rfl) ?_
            refine WL.nil (WX.block_normal (WX.then_normal ?_))
            refine WC.region ?_
            refine WL.y rfl (Yld.pure tab_ok rfl) ?_
            obtain ⟨h11, H⟩ := H
            refine WL.y rfl (Yld.add rfl rfl h11) ?_
            refine WL.y rfl (Yld.pure tab_ok rfl) ?_
            refine WL.nil ?_
            exact WX.roundF _ ⟨out3 ++ ([t111] : List (List UInt8)), A_out5, c_out5, (out3 ++ ([t111] : List (List UInt8))).length, i2 + (1 : Int), rfl, rfl, H.1, rfl, gr14, hO4⟩ (by repeat (first | exact Sub.nil | refine Sub.cons rfl ?_)) H.2
          · replace H := H.2 (of_decide_eq_false b12)
            refine WC.exit (WX.then_exit (WX.then_exit (WX.block_same (WX.then_normal ?_))))
            refine WC.seq ?_
            refine WC.region ?_
            refine WL.y rfl (Yld.pure tab_ok rfl) ?_
            refine WL.call rfl rfl (W_smithyref17_joined k9.rd rfl H) ?_
            rintro _ w15 ⟨hg12, t63, rfl, H⟩
            have gr15 := gr_trans gr10 hg12
            refine WL.y rfl (Yld.pure tab_ok rfl) ?_
            refine WL.y rfl (Yld.pure tab_ok rfl) ?_
            refine WL.y rfl (Yld.pure tab_ok rfl) ?_
            refine WL.y rfl (Yld.pure tab_ok rfl) ?_
            refine WL.y rfl (Yld.pure tab_ok rfl) ?_
            refine WL.nil (WX.then_normal ?_)
            refine WC.ret ?_
            exact WX.ret2 rfl rfl rfl ⟨gr15, t63, decide ((args.length : Int) = (0 : Int)), rfl, H⟩

set_option maxHeartbeats 8000000 in
theorem W_smithyref17_Do {w : World} {tool : Int} {args : List (List UInt8)} {A_args : Option Addr} {c_args : Nat} {inputs : List (List UInt8)} {A_inputs : Option Addr} {c_inputs : Nat} {n_args : Nat} {n_inputs : Nat} {K : (List UInt8) → Int → Prop} (hargs : Rd vs w A_args c_args args) (hn_args : n_args = args.length) (hinputs : Rd vs w A_inputs c_inputs inputs) (hn_inputs : n_inputs = inputs.length) (H : M_smithyref17_Do tool args inputs K) : Fn Tryz.prog 12 ⟨[.int .i64 tool, .slice A_args n_args c_args, .slice A_inputs n_inputs c_inputs]⟩ w (fun v w' => w.grownBy w' none ∧ ∃ (r0 : List UInt8), ∃ (r1 : Int), v = .tuple #[vs r0, .int .i64 r1] ∧ K r0 r1) := by
  subst hn_args
  subst hn_inputs
  unfold M_smithyref17_Do at H
  refine Fn.enter (by kernel_rfl) Tryz.func12 rfl Tryz.ntmps12 rfl ?_
  replace H := H (Nat.le_trans hargs.cap hargs.max)
  replace H := H (Nat.le_trans hinputs.cap hinputs.max)
  refine WC.seq ?_
  refine WC.region ?_
  refine WL.y rfl (Yld.pure tab_ok rfl) ?_
  refine WL.y rfl (Yld.pure tab_ok rfl) ?_
  refine WL.nil (WX.then_normal ?_)
  refine WC.seq ?_
  refine WC.seq ?_
  refine WC.region ?_
  refine WL.y rfl (Yld.pure tab_ok rfl) ?_
  refine WL.y rfl (Yld.pure tab_ok rfl) ?_
  refine WL.y rfl (Yld.pure tab_ok rfl) ?_
  refine WL.midF 3 (fun L' w' => ∃ q1 : Bool, L' = [(15, .bool q1), (0, .int .i64 tool), (1, .slice A_args args.length c_args), (2, .slice A_inputs inputs.length c_inputs)] ∧ q1 = ((decide (tool < (1 : Int))) || (decide ((5 : Int) < tool))) ∧ w = w') ?_ (fun hQ => ?_)
  · rintro _ _ ⟨q1, rfl, rfl, rfl⟩
    refine WL.nil (WX.then_normal ?_)
    refine WC.cond rfl (fun b1 => ?_) (fun b1 => ?_)
    · replace H := H.1 (b1)
      refine WC.seq ?_
      refine WC.region ?_
      refine WL.y rfl (Yld.pure tab_ok rfl) ?_
      refine WL.y rfl (Yld.pure tab_ok rfl) ?_
      refine WL.nil (WX.then_normal ?_)
      refine WC.ret (WX.then_ret ?_)
      exact WX.ret2 rfl rfl rfl ⟨(gr_refl _ _), ([] : List UInt8), (111 : Int), rfl, H⟩
    · replace H := H.2 (b1)
      refine WC.skip (WX.then_normal ?_)
      refine WC.seq ?_
      refine WC.region ?_
      refine WL.y rfl (Yld.pure tab_ok rfl) ?_
      refine WL.y rfl (Yld.pure tab_ok rfl) ?_
      refine WL.y rfl (Yld.pure tab_ok rfl) ?_
      refine WL.call rfl rfl (W_smithyref17_done hargs rfl hinputs rfl H) ?_
      rintro _ w1 ⟨hg1, t200, t201, rfl, H⟩
      have gr1 := hg1
      refine WL.y rfl (Yld.pure tab_ok rfl) ?_
      refine WL.y rfl (Yld.pure tab_ok rfl) ?_
      refine WL.y rfl (Yld.pure tab_ok rfl) ?_
      refine WL.y rfl (Yld.pure tab_ok rfl) ?_
      refine WL.y rfl (Yld.pure tab_ok rfl) ?_
      refine WL.nil (WX.then_normal ?_)
      refine WC.seq ?_
      refine WC.seq ?_
      refine WC.region ?_
      refine WL.y rfl (Yld.pure tab_ok rfl) ?_
      refine WL.y rfl (Yld.pure tab_ok rfl) ?_
      refine WL.y rfl (Yld.pure tab_ok rfl) ?_
      refine WL.midF 4 (fun L' w' => ∃ q2 : Bool, L' = [(29, .bool q2), (8, vs t200)] ∧ q2 = ((!t201) || (decide ((65536 : Int) < (t200.length : Int)))) ∧ w1 = w') ?_ (fun hQ => ?_)
      · rintro _ _ ⟨q2, rfl, rfl, rfl⟩
        refine WL.nil (WX.then_normal ?_)
        refine WC.cond rfl (fun b2 => ?_) (fun b2 => ?_)
        · replace H := H.1 (b2)
          refine WC.seq ?_
          refine WC.region ?_
          refine WL.y rfl (Yld.pure tab_ok rfl) ?_
          refine WL.y rfl (Yld.pure tab_ok rfl) ?_
          refine WL.nil (WX.then_normal ?_)
          refine WC.ret (WX.then_ret ?_)
          exact WX.ret2 rfl rfl rfl ⟨gr1, ([] : List UInt8), (117 : Int), rfl, H⟩
        · replace H := H.2 (b2)
          refine WC.skip (WX.then_normal ?_)
          refine WC.seq ?_
          refine WC.region ?_
          refine WL.y rfl (Yld.pure tab_ok rfl) ?_
          refine WL.y rfl (Yld.pure tab_ok rfl) ?_
          refine WL.y rfl (Yld.pure tab_ok rfl) ?_
          refine WL.nil (WX.then_normal ?_)
          refine WC.ret ?_
          exact WX.ret2 rfl rfl rfl ⟨gr1, t200, (0 : Int), rfl, H⟩
      · clear H
        rcases Bool.eq_false_or_eq_true (!t201) with b3 | b3
        · refine WL.gno rfl rfl (okb b3) rfl ?_
          refine WL.gno rfl rfl (okb b3) rfl ?_
          refine WL.gno rfl rfl (okb b3) rfl ?_
          refine WL.y rfl (Yld.pickT (okb b3) rfl) ?_
          exact WL.weaken (by repeat (first | exact Sub.nil | refine Sub.cons rfl ?_)) (hQ _ _ ⟨true, rfl, by rw [b3] <;> rfl, rfl⟩)
        · refine WL.gyes rfl rfl (okb b3) rfl (Yld.pure tab_ok rfl) ?_
          refine WL.gyes rfl rfl (okb b3) rfl (Yld.pure tab_ok rfl) ?_
          refine WL.gyes rfl rfl (okb b3) rfl (Yld.pure tab_ok rfl) ?_
          refine WL.y rfl (Yld.pickF (okb b3) rfl) ?_
          exact WL.weaken (by repeat (first | exact Sub.nil | refine Sub.cons rfl ?_)) (hQ _ _ ⟨decide ((65536 : Int) < (t200.length : Int)), rfl, by rw [b3] <;> rfl, rfl⟩)
  · clear H
    rcases Bool.eq_false_or_eq_true (decide (tool < (1 : Int))) with b4 | b4
    · refine WL.gno rfl rfl (okb b4) rfl ?_
      refine WL.gno rfl rfl (okb b4) rfl ?_
      refine WL.y rfl (Yld.pickT (okb b4) rfl) ?_
      exact WL.weaken (by repeat (first | exact Sub.nil | refine Sub.cons rfl ?_)) (hQ _ _ ⟨true, rfl, by rw [b4] <;> rfl, rfl⟩)
    · refine WL.gyes rfl rfl (okb b4) rfl (Yld.pure tab_ok rfl) ?_
      refine WL.gyes rfl rfl (okb b4) rfl (Yld.pure tab_ok rfl) ?_
      refine WL.y rfl (Yld.pickF (okb b4) rfl) ?_
      exact WL.weaken (by repeat (first | exact Sub.nil | refine Sub.cons rfl ?_)) (hQ _ _ ⟨decide ((5 : Int) < tool), rfl, by rw [b4] <;> rfl, rfl⟩)

set_option maxHeartbeats 8000000 in
theorem W_smithyref_SameTexts {w : World} {a : List (List UInt8)} {A_a : Option Addr} {c_a : Nat} {b : List (List UInt8)} {A_b : Option Addr} {c_b : Nat} {n_a : Nat} {n_b : Nat} {K : Bool → Prop} (ha : Rd vs w A_a c_a a) (hn_a : n_a = a.length) (hb : Rd vs w A_b c_b b) (hn_b : n_b = b.length) (H : M_smithyref_SameTexts a b K) : Fn Tryz.prog 15 ⟨[.slice A_a n_a c_a, .slice A_b n_b c_b]⟩ w (fun v w' => w = w' ∧ ∃ (r : Bool), v = .bool r ∧ K r) := by
  subst hn_a
  subst hn_b
  unfold M_smithyref_SameTexts at H
  refine Fn.enter (by kernel_rfl) Tryz.func15 rfl Tryz.ntmps15 rfl ?_
  replace H := H (Nat.le_trans ha.cap ha.max)
  replace H := H (Nat.le_trans hb.cap hb.max)
  refine WC.seq ?_
  refine WC.region ?_
  refine WL.y rfl (Yld.pure tab_ok rfl) ?_
  refine WL.nil (WX.then_normal ?_)
  refine WC.seq ?_
  refine WC.seq ?_
  refine WC.region ?_
  refine WL.y rfl (Yld.pure tab_ok rfl) ?_
  refine WL.y rfl (Yld.pure tab_ok rfl) ?_
  refine WL.y rfl (Yld.pure tab_ok rfl) ?_
  refine WL.y rfl (Yld.pure tab_ok rfl) ?_
  refine WL.y rfl (Yld.pure tab_ok rfl) ?_
  refine WL.nil (WX.then_normal ?_)
  refine WC.cond rfl (fun b1 => ?_) (fun b1 => ?_)
  · replace H := H.1 (nd_true b1)
    refine WC.seq ?_
    refine WC.region ?_
    refine WL.y rfl (Yld.pure tab_ok rfl) ?_
    refine WL.nil (WX.then_normal ?_)
    refine WC.ret (WX.then_ret ?_)
    exact WX.ret1 rfl rfl ⟨rfl, false, rfl, H⟩
  · replace H := H.2 (nd_false b1)
    refine WC.skip (WX.then_normal ?_)
    refine WC.seq ?_
    refine WC.seq ?_
    refine WC.region ?_
    refine WL.y rfl (Yld.pure tab_ok rfl) ?_
    refine WL.nil (WX.then_normal ?_)
    refine WC.block ?_
    obtain ⟨I1, mu1, h0_1, HR1⟩ := H
    refine WC.loopF (fun n' L' w' => ∃ (i : Int), n' = mu1 i ∧ L' = [(0, .slice A_a a.length c_a), (1, .slice A_b b.length c_b), (5, .int .i64 i)] ∧ I1 i ∧ w = w') _ _ ⟨(0 : Int), rfl, rfl, h0_1, rfl⟩ (by repeat (first | exact Sub.nil | refine Sub.cons rfl ?_)) ?_
    clear h0_1
    rintro _ _ _ ⟨i, rfl, rfl, hI1, rfl⟩
    have H := HR1 i hI1
    refine WC.seq ?_
    refine WC.seq ?_
    refine WC.region ?_
    refine WL.y rfl (Yld.pure tab_ok rfl) ?_
    refine WL.y rfl (Yld.pure tab_ok rfl) ?_
    refine WL.y rfl (Yld.pure tab_ok rfl) ?_
    refine WL.y rfl (Yld.pure tab_ok rfl) ?_
    refine WL.nil (WX.then_normal ?_)
    refine WC.cond rfl (fun b2 => ?_) (fun b2 => ?_)
    · replace H := H.1 (of_decide_eq_true b2)
      refine WC.skip (WX.then_normal ?_)
      refine WC.seq ?_
      refine WC.block ?_
      refine WC.seq ?_
      refine WC.quiet mixed (by kernel_rfl) ?_
      refine WQ.y rfl (Yld.pure tab_ok rfl) ?_
      refine WQ.y rfl (Yld.pure tab_ok rfl) ?_
      obtain ⟨h1, H⟩ := H
      refine WQ.y rfl (Yld.iaddrW tab_ok ha rfl rfl rfl rfl h1.1 h1.2) ?_
      refine WQ.y rfl (Yld.iload [] tab_ok ha rfl rfl (iltN h1 rfl)) ?_
      refine WQ.y rfl (Yld.pure tab_ok rfl) ?_
      refine WQ.y rfl (Yld.pure tab_ok rfl) ?_
      obtain ⟨h2, H⟩ := H
      refine WQ.y rfl (Yld.iaddrW tab_ok hb rfl rfl rfl rfl h2.1 h2.2) ?_
      refine WQ.y rfl (Yld.iload [] tab_ok hb rfl rfl (iltN h2 rfl)) ?_
      refine WQ.y rfl (Yld.pure tab_ok rfl) ?_
      refine WQ.y rfl (Yld.pure tab_ok rfl) ?_
      refine WQ.nil (WX.then_normal ?_)
      refine WC.seq ?_
      refine WC.region ?_
      refine WL.y rfl (Yld.pure tab_ok rfl) ?_
      refine WL.y rfl (Yld.pure tab_ok rfl) ?_
      refine WL.nil (WX.then_normal ?_)
      refine WC.cond rfl (fun b3 => ?_) (fun b3 => ?_)
      · replace H := H.1 (nd_true b3)
        refine WC.seq ?_
        refine WC.region ?_
        refine WL.y rfl (Yld.pure tab_ok rfl) ?_
        refine WL.nil (WX.then_normal ?_)
        refine WC.ret (WX.block_ret (WX.then_ret (WX.then_ret (WX.block_ret (WX.then_ret ?_)))))
        exact WX.ret1 rfl rfl ⟨rfl, false, rfl, H⟩
      · replace H := H.2 (nd_false b3)
        refine WC.skip (WX.block_normal (WX.then_normal ?_))
        refine WC.region ?_
        refine WL.y rfl (Yld.pure tab_ok rfl) ?_
        obtain ⟨h3, H⟩ := H
        refine WL.y rfl (Yld.add rfl rfl h3) ?_
        refine WL.y rfl (Yld.pure tab_ok rfl) ?_
        refine WL.nil ?_
        exact WX.roundF _ ⟨i + (1 : Int), rfl, rfl, H.1, rfl⟩ (by repeat (first | exact Sub.nil | refine Sub.cons rfl ?_)) H.2
    · replace H := H.2 (of_decide_eq_false b2)
      refine WC.exit (WX.then_exit (WX.then_exit (WX.block_same (WX.then_normal ?_))))
      refine WC.seq ?_
      refine WC.region ?_
      refine WL.y rfl (Yld.pure tab_ok rfl) ?_
      refine WL.nil (WX.then_normal ?_)
      refine WC.ret ?_
      exact WX.ret1 rfl rfl ⟨rfl, true, rfl, H⟩

set_option maxHeartbeats 8000000 in
theorem W_smithyref_SortedTexts {w : World} {l : List (List UInt8)} {A_l : Option Addr} {c_l : Nat} {n_l : Nat} {K : (List (List UInt8)) → Prop} (hl : Rd vs w A_l c_l l) (hn_l : n_l = l.length) (H : M_smithyref_SortedTexts l K) : Fn Tryz.prog 8 ⟨[.slice A_l n_l c_l]⟩ w (fun v w' => w.grownBy w' none ∧ ∃ (r : List (List UInt8)), ∃ (A_r : Option Addr), ∃ (c_r : Nat), v = .slice A_r r.length c_r ∧ Own vs w' w.heap.size 9 A_r c_r r ∧ K r) := by
  subst hn_l
  unfold M_smithyref_SortedTexts at H
  refine Fn.enter (by kernel_rfl) Tryz.func8 rfl Tryz.ntmps8 rfl ?_
  replace H := H (Nat.le_trans hl.cap hl.max)
  refine WC.seq ?_
  refine WC.region ?_
  refine WL.y rfl (Yld.pure tab_ok rfl) ?_
  refine WL.nil (WX.then_normal ?_)
  refine WC.seq ?_
  refine WC.region ?_
  refine WL.y rfl (Yld.pure tab_ok rfl) ?_
  refine WL.nil (WX.then_normal ?_)
  refine WC.seq ?_
  refine WC.seq ?_
  refine WC.region ?_
  refine WL.y rfl (Yld.pure tab_ok rfl) ?_
  refine WL.nil (WX.then_normal ?_)
  refine WC.block ?_
  obtain ⟨I1, mu1, h0_1, HR1⟩ := H
  refine WC.loopF (fun n' L' w' => ∃ (out : List (List UInt8)), ∃ (A_out : Option Addr), ∃ (c_out : Nat), ∃ (n_out : Nat), ∃ (i : Int), n' = mu1 out i ∧ L' = [(0, .slice A_l l.length c_l), (3, .slice A_out n_out c_out), (4, .int .i64 i)] ∧ I1 out i ∧ n_out = out.length ∧ w.grownBy w' none ∧ Own vs w' w.heap.size 9 A_out c_out out) _ _ ⟨[], none, 0, 0, (0 : Int), rfl, rfl, h0_1, rfl, (gr_refl _ _), (Own.nil vs w w.heap.size 9)⟩ (by repeat (first | exact Sub.nil | refine Sub.cons rfl ?_)) ?_
  clear h0_1
  rintro _ _ w1 ⟨out, A_out, c_out, n_out, i, rfl, rfl, hI1, rfl, gr1, k1⟩
  have H := HR1 out i hI1
  refine WC.seq ?_
  refine WC.seq ?_
  refine WC.region ?_
  refine WL.y rfl (Yld.pure tab_ok rfl) ?_
  refine WL.y rfl (Yld.pure tab_ok rfl) ?_
  refine WL.y rfl (Yld.pure tab_ok rfl) ?_
  refine WL.y rfl (Yld.pure tab_ok rfl) ?_
  refine WL.nil (WX.then_normal ?_)
  refine WC.cond rfl (fun b1 => ?_) (fun b1 => ?_)
  · replace H := H.1 (of_decide_eq_true b1)
    refine WC.skip (WX.then_normal ?_)
    refine WC.seq ?_
    obtain ⟨J1, H, hJ1⟩ := H
    refine WC.midF (fun L' w' => ∃ (out2 : List (List UInt8)), ∃ (A_out2 : Option Addr), ∃ (c_out2 : Nat), ∃ (n_out2 : Nat), L' = [(0, .slice A_l l.length c_l), (3, .slice A_out2 n_out2 c_out2), (4, .int .i64 i)] ∧ J1 out2 ∧ n_out2 = out2.length ∧ w.grownBy w' none ∧ Own vs w' w.heap.size 9 A_out2 c_out2 out2) ?_ (fun hQ => ?_)
    · clear H
      rintro _ w2 ⟨out2, A_out2, c_out2, n_out2, rfl, H, rfl, gr2, k2⟩
      replace H := hJ1 out2 H
      refine WX.then_normal ?_
      refine WC.region ?_
      refine WL.y rfl (Yld.pure tab_ok rfl) ?_
      obtain ⟨h1, H⟩ := H
      refine WL.y rfl (Yld.add rfl rfl h1) ?_
      refine WL.y rfl (Yld.pure tab_ok rfl) ?_
      refine WL.nil ?_
      exact WX.roundF _ ⟨out2, A_out2, c_out2, out2.length, i + (1 : Int), rfl, rfl, H.1, rfl, gr2, k2⟩ (by repeat (first | exact Sub.nil | refine Sub.cons rfl ?_)) H.2
    · clear hJ1
      refine WC.block ?_
      refine WC.seq ?_
      refine WC.region ?_
      refine WL.y rfl (Yld.pure tab_ok rfl) ?_
      refine WL.nil (WX.then_normal ?_)
      refine WC.seq ?_
      refine WC.block ?_
      obtain ⟨I2, mu2, h0_2, HR2⟩ := H
      refine WC.loopF (fun n' L' w' => ∃ (k : Int), n' = mu2 k ∧ L' = [(0, .slice A_l l.length c_l), (3, .slice A_out out.length c_out), (4, .int .i64 i), (5, .int .i64 k)] ∧ I2 k ∧ w1 = w') _ _ ⟨(0 : Int), rfl, rfl, h0_2, rfl⟩ (by repeat (first | exact Sub.nil | refine Sub.cons rfl ?_)) ?_
      clear h0_2
      rintro _ _ _ ⟨k, rfl, rfl, hI2, rfl⟩
      have H := HR2 k hI2
      refine WC.seq ?_
      refine WC.seq ?_
      refine WC.quiet mixed (by kernel_rfl) ?_
      refine WQ.y rfl (Yld.pure tab_ok rfl) ?_
      refine WQ.y rfl (Yld.pure tab_ok rfl) ?_
      refine WQ.y rfl (Yld.pure tab_ok rfl) ?_
      refine WQ.y rfl (Yld.pure tab_ok rfl) ?_
      refine WQ.y rfl (Yld.pure tab_ok rfl) ?_
      obtain ⟨h2, H⟩ := H
      obtain ⟨h3, H⟩ := H
      refine WQ.midF 10 (fun L' w' => ∃ q1 : Bool, L' = [(27, .bool q1), (0, .slice A_l l.length c_l), (3, .slice A_out out.length c_out), (4, .int .i64 i), (5, .int .i64 k)] ∧ q1 = ((decide (k < (out.length : Int))) && (Op.bytesLess (out.getD k.toNat []) (l.getD i.toNat []))) ∧ w1 = w') ?_ (fun hQ => ?_)
      · rintro _ _ ⟨q1, rfl, rfl, rfl⟩
        refine WQ.nil (WX.then_normal ?_)
        refine WC.cond rfl (fun b2 => ?_) (fun b2 => ?_)
        · replace H := H.1 (b2)
          refine WC.skip (WX.then_normal ?_)
          refine WC.block ?_
          refine WC.region ?_
          refine WL.y rfl (Yld.pure tab_ok rfl) ?_
          obtain ⟨h4, H⟩ := H
          refine WL.y rfl (Yld.add rfl rfl h4) ?_
          refine WL.y rfl (Yld.pure tab_ok rfl) ?_
          refine WL.nil (WX.block_normal ?_)
          exact WX.roundF _ ⟨k + (1 : Int), rfl, rfl, H.1, rfl⟩ (by repeat (first | exact Sub.nil | refine Sub.cons rfl ?_)) H.2
        · replace H := H.2 (b2)
          refine WC.exit (WX.then_exit (WX.then_exit (WX.block_same (WX.then_normal ?_))))
          refine WC.seq ?_
          refine WC.seq ?_
          refine WC.quiet mixed (by kernel_rfl) ?_
          refine WQ.y rfl (Yld.pure tab_ok rfl) ?_
          refine WQ.y rfl (Yld.pure tab_ok rfl) ?_
          refine WQ.y rfl (Yld.pure tab_ok rfl) ?_
          refine WQ.y rfl (Yld.pure tab_ok rfl) ?_
          refine WQ.y rfl (Yld.pure tab_ok rfl) ?_
          obtain ⟨h5, H⟩ := H
          obtain ⟨h6, H⟩ := H
          refine WQ.midF 10 (fun L' w' => ∃ q2 : Bool, L' = [(44, .bool q2), (0, .slice A_l l.length c_l), (3, .slice A_out out.length c_out), (4, .int .i64 i), (5, .int .i64 k)] ∧ q2 = ((decide (k < (out.length : Int))) && (decide ((out.getD k.toNat []) = (l.getD i.toNat [])))) ∧ w1 = w') ?_ (fun hQ => ?_)
          · rintro _ _ ⟨q2, rfl, rfl, rfl⟩
            refine WQ.nil (WX.then_normal ?_)
            refine WC.cond rfl (fun b3 => ?_) (fun b3 => ?_)
            · replace H := H.1 (b3)
              refine WC.exit (WX.then_exit (WX.block_same ?_))
              exact WX.weaken (by repeat (first | exact Sub.nil | refine Sub.cons rfl ?_)) (hQ _ _ ⟨out, A_out, c_out, out.length, rfl, H, rfl, gr1, k1⟩)
            · replace H := H.2 (b3)
              refine WC.skip (WX.then_normal ?_)
              refine WC.seq ?_
              refine WC.chainF (fun k => !(Nat.beq k 3 || Nat.beq k 7)) (LD [] (fun w' => True)) mixed (by kernel_rfl) (fun k w' h _ => trivial) ?_
              refine WJ.y rfl rfl (fun w' hw' => Yld.pure tab_ok rfl) ?_
              refine WJ.y rfl rfl (fun w' hw' => Yld.pure tab_ok rfl) ?_
              obtain ⟨h7, H⟩ := H
              refine WJ.y rfl rfl (fun w' hw' => Yld.add rfl rfl h7) ?_
              obtain ⟨h8, H⟩ := H
              refine WJ.putw rfl (wants_none) rfl (Eff.makeCI (f := vs) (B := w.heap.size) tab_ok rfl rfl rfl h8.1 h8.2.1 h8.2.2 (size_le gr1)) (fun v w' ⟨_, _, h⟩ => DD.keep trivial) ?_
              rintro _ w3 ⟨rfl, hB1, hg1⟩
              obtain ⟨g_t48, hl1⟩ : ∃ g, g = w1.heap.size := ⟨_, rfl⟩
              rw [← hl1] at hB1
              rw [← hl1]
              have hO1 : Own vs w3 w.heap.size 9 (some ⟨g_t48, 0, none⟩) (((out.length : Int) + (1 : Int)).toNat) ([] : List (List UInt8)) := hB1.base (fun g hg => by cases hg; exact Nat.le_trans (size_le gr1) (Nat.le_of_eq hl1.symm))
              have gr3 := gr_trans gr1 hg1
              have k3 := k1.grown hg1
              refine WJ.y rfl rfl (fun w' hw' => Yld.pure tab_ok rfl) ?_
              refine WJ.y rfl rfl (fun w' hw' => Yld.pure tab_ok rfl) ?_
              obtain ⟨h9, H⟩ := H
              refine WJ.y rfl rfl (fun w' hw' => Yld.ocutY tab_ok k3.rd rfl rfl rfl rfl rfl h9.1 h9.2) ?_
              obtain ⟨h10, H⟩ := H
              refine WJ.putw rfl (wants_none) rfl (Eff.append tab_ok rfl One.s hO1 rfl rfl (k3.rd.take k.toNat) rfl rfl h10 (applen h10) (size_le gr3)) (fun v w' ⟨_, _, _, _, h, _⟩ => DD.keep trivial) ?_
              rintro _ w4 ⟨A_next, c_next, rfl, hO2, hg2, hk1⟩
              have gr4 := gr_mod gr3 hg2 hO1.ge'
              have k4 := k3.go hg2 (Dj.new k1.lt' (Ge.box (Nat.le_of_eq hl1.symm)))
              refine WJ.y rfl rfl (fun w' hw' => Yld.pure tab_ok rfl) ?_
              refine WJ.nil (WX.then_normal ?_)
              refine WC.seq ?_
              refine WC.region ?_
              refine WL.y rfl (Yld.pure tab_ok rfl) ?_
              refine WL.y rfl (Yld.pure tab_ok rfl) ?_
              refine WL.y rfl (Yld.pure tab_ok rfl) ?_
              obtain ⟨h11, H⟩ := H
              refine WL.y rfl (Yld.iaddrW tab_ok (hl.grown gr4) rfl rfl rfl rfl h11.1 h11.2) ?_
              refine WL.y rfl (Yld.iload [] tab_ok (hl.grown gr4) rfl rfl (iltN h11 rfl)) ?_
              refine WL.lit tab_ok rfl rfl rfl (all1c rfl all1n) rfl (by omega) (fun g1 w5 hB2 hg3 hl2 => ?_)
              have hO3 : Own vs w5 w.heap.size 9 (some ⟨g1, 0, none⟩) 1 ([l.getD i.toNat []] : List (List UInt8)) := Own.ofBl hB2 (Nat.le_trans (size_le gr4) hl2) (by simp [maxLen]) rfl
              have gr5 := gr_trans gr4 hg3
              have k5 := k4.grown hg3
              have k6 := hO2.grown hg3
              obtain ⟨h12, H⟩ := H
              refine WL.append tab_ok rfl rfl One.s k6 rfl rfl hO3.rd rfl rfl h12 (applen h12) (size_le gr5) (fun A_next2 c_next2 w6 hO4 hg4 hk2 => ?_)
              have gr6 := gr_mod gr5 hg4 k6.ge'
              have k7 := k5.go hg4 ((Dj.app (Dj.new k1.lt' (Ge.box (Nat.le_of_eq hl1.symm))).symm k3.lt' hk1).symm)
              refine WL.y rfl (Yld.pure tab_ok rfl) ?_
              refine WL.nil (WX.then_normal ?_)
              refine WC.region ?_
              refine WL.y rfl (Yld.pure tab_ok rfl) ?_
              refine WL.y rfl (Yld.pure tab_ok rfl) ?_
              refine WL.y rfl (Yld.pure tab_ok rfl) ?_
              obtain ⟨h13, H⟩ := H
              refine WL.cutF tab_ok k7.rd rfl rfl rfl rfl rfl h13.1 h13.2.1 (fun A_t63 c_t63 hR1 hb1 => ?_)
              obtain ⟨h14, H⟩ := H
              refine WL.append tab_ok rfl rfl One.s hO4 rfl rfl hR1 rfl rfl h14 (applen h14) (size_le gr6) (fun A_out3 c_out3 w7 hO5 hg5 hk3 => ?_)
              have gr7 := gr_mod gr6 hg5 hO4.ge'
              refine WL.y rfl (Yld.pure tab_ok rfl) ?_
              refine WL.nil (WX.block_normal ?_)
              exact WX.weaken (by repeat (first | exact Sub.nil | refine Sub.cons rfl ?_)) (hQ _ _ ⟨((([] : List (List UInt8)) ++ (out.take k.toNat)) ++ ([l.getD i.toNat []] : List (List UInt8))) ++ (out.drop k.toNat), A_out3, c_out3, (((([] : List (List UInt8)) ++ (out.take k.toNat)) ++ ([l.getD i.toNat []] : List (List UInt8))) ++ (out.drop k.toNat)).length, rfl, H, rfl, gr7, hO5⟩)
          · clear H
            rcases Bool.eq_false_or_eq_true (decide (k < (out.length : Int))) with b4 | b4
            · refine WQ.gyes rfl rfl (okb b4) rfl (Yld.pure tab_ok rfl) ?_
              refine WQ.gyes rfl rfl (okb b4) rfl (Yld.pure tab_ok rfl) ?_
              refine WQ.gyes rfl rfl (okb b4) rfl (Yld.iaddrW tab_ok k1.rd rfl rfl rfl rfl (h5 b4).1 (h5 b4).2) ?_
              refine WQ.gyes rfl rfl (okb b4) rfl (Yld.iload [] tab_ok k1.rd rfl rfl (iltN (h5 b4) rfl)) ?_
              refine WQ.gyes rfl rfl (okb b4) rfl (Yld.pure tab_ok rfl) ?_
              refine WQ.gyes rfl rfl (okb b4) rfl (Yld.pure tab_ok rfl) ?_
              refine WQ.gyes rfl rfl (okb b4) rfl (Yld.iaddrW tab_ok (hl.grown gr1) rfl rfl rfl rfl (h6 b4).1 (h6 b4).2) ?_
              refine WQ.gyes rfl rfl (okb b4) rfl (Yld.iload [] tab_ok (hl.grown gr1) rfl rfl (iltN (h6 b4) rfl)) ?_
              refine WQ.gyes rfl rfl (okb b4) rfl (Yld.pure tab_ok rfl) ?_
              refine WQ.y rfl (Yld.pickT (okb b4) rfl) ?_
              exact WQ.weaken (by repeat (first | exact Sub.nil | refine Sub.cons rfl ?_)) (hQ _ _ ⟨decide ((out.getD k.toNat []) = (l.getD i.toNat [])), rfl, by rw [b4] <;> rfl, rfl⟩)
            · refine WQ.gno rfl rfl (okb b4) rfl ?_
              refine WQ.gno rfl rfl (okb b4) rfl ?_
              refine WQ.gno rfl rfl (okb b4) rfl ?_
              refine WQ.gno rfl rfl (okb b4) rfl ?_
              refine WQ.gno rfl rfl (okb b4) rfl ?_
              refine WQ.gno rfl rfl (okb b4) rfl ?_
              refine WQ.gno rfl rfl (okb b4) rfl ?_
              refine WQ.gno rfl rfl (okb b4) rfl ?_
              refine WQ.gno rfl rfl (okb b4) rfl ?_
              refine WQ.y rfl (Yld.pickF (okb b4) rfl) ?_
              exact WQ.weaken (by repeat (first | exact Sub.nil | refine Sub.cons rfl ?_)) (hQ _ _ ⟨false, rfl, by rw [b4] <;> rfl, rfl⟩)
      · clear H
        rcases Bool.eq_false_or_eq_true (decide (k < (out.length : Int))) with b5 | b5
        · refine WQ.gyes rfl rfl (okb b5) rfl (Yld.pure tab_ok rfl) ?_
          refine WQ.gyes rfl rfl (okb b5) rfl (Yld.pure tab_ok rfl) ?_
          refine WQ.gyes rfl rfl (okb b5) rfl (Yld.iaddrW tab_ok k1.rd rfl rfl rfl rfl (h2 b5).1 (h2 b5).2) ?_
          refine WQ.gyes rfl rfl (okb b5) rfl (Yld.iload [] tab_ok k1.rd rfl rfl (iltN (h2 b5) rfl)) ?_
          refine WQ.gyes rfl rfl (okb b5) rfl (Yld.pure tab_ok rfl) ?_
          refine WQ.gyes rfl rfl (okb b5) rfl (Yld.pure tab_ok rfl) ?_
          refine WQ.gyes rfl rfl (okb b5) rfl (Yld.iaddrW tab_ok (hl.grown gr1) rfl rfl rfl rfl (h3 b5).1 (h3 b5).2) ?_
          refine WQ.gyes rfl rfl (okb b5) rfl (Yld.iload [] tab_ok (hl.grown gr1) rfl rfl (iltN (h3 b5) rfl)) ?_
          refine WQ.gyes rfl rfl (okb b5) rfl (Yld.pure tab_ok rfl) ?_
          refine WQ.y rfl (Yld.pickT (okb b5) rfl) ?_
          exact WQ.weaken (by repeat (first | exact Sub.nil | refine Sub.cons rfl ?_)) (hQ _ _ ⟨Op.bytesLess (out.getD k.toNat []) (l.getD i.toNat []), rfl, by rw [b5] <;> rfl, rfl⟩)
        · refine WQ.gno rfl rfl (okb b5) rfl ?_
          refine WQ.gno rfl rfl (okb b5) rfl ?_
          refine WQ.gno rfl rfl (okb b5) rfl ?_
          refine WQ.gno rfl rfl (okb b5) rfl ?_
          refine WQ.gno rfl rfl (okb b5) rfl ?_
          refine WQ.gno rfl rfl (okb b5) rfl ?_
          refine WQ.gno rfl rfl (okb b5) rfl ?_
          refine WQ.gno rfl rfl (okb b5) rfl ?_
          refine WQ.gno rfl rfl (okb b5) rfl ?_
          refine WQ.y rfl (Yld.pickF (okb b5) rfl) ?_
          exact WQ.weaken (by repeat (first | exact Sub.nil | refine Sub.cons rfl ?_)) (hQ _ _ ⟨false, rfl, by rw [b5] <;> rfl, rfl⟩)
  · replace H := H.2 (of_decide_eq_false b1)
    refine WC.exit (WX.then_exit (WX.then_exit (WX.block_same (WX.then_normal ?_))))
    refine WC.seq ?_
    refine WC.region ?_
    refine WL.y rfl (Yld.pure tab_ok rfl) ?_
    refine WL.y rfl (Yld.pure tab_ok rfl) ?_
    refine WL.nil (WX.then_normal ?_)
    refine WC.ret ?_
    exact WX.ret1 rfl rfl ⟨gr1, out, A_out, c_out, rfl, k1, H⟩

set_option maxHeartbeats 8000000 in
theorem W_smithyref_AmongTexts {w : World} {l : List (List UInt8)} {A_l : Option Addr} {c_l : Nat} {s : List UInt8} {n_l : Nat} {K : Int → Prop} (hl : Rd vs w A_l c_l l) (hn_l : n_l = l.length) (H : M_smithyref_AmongTexts l s K) : Fn Tryz.prog 13 ⟨[.slice A_l n_l c_l, vs s]⟩ w (fun v w' => w = w' ∧ ∃ (r : Int), v = .int .i64 r ∧ K r) := by
  subst hn_l
  unfold M_smithyref_AmongTexts at H
  refine Fn.enter (by kernel_rfl) Tryz.func13 rfl Tryz.ntmps13 rfl ?_
  replace H := H (Nat.le_trans hl.cap hl.max)
  refine WC.seq ?_
  refine WC.region ?_
  refine WL.y rfl (Yld.pure tab_ok rfl) ?_
  refine WL.nil (WX.then_normal ?_)
  refine WC.seq ?_
  refine WC.seq ?_
  refine WC.region ?_
  refine WL.y rfl (Yld.pure tab_ok rfl) ?_
  refine WL.nil (WX.then_normal ?_)
  refine WC.block ?_
  obtain ⟨I1, mu1, h0_1, HR1⟩ := H
  refine WC.loopF (fun n' L' w' => ∃ (i : Int), n' = mu1 i ∧ L' = [(0, .slice A_l l.length c_l), (1, vs s), (5, .int .i64 i)] ∧ I1 i ∧ w = w') _ _ ⟨(0 : Int), rfl, rfl, h0_1, rfl⟩ (by repeat (first | exact Sub.nil | refine Sub.cons rfl ?_)) ?_
  clear h0_1
  rintro _ _ _ ⟨i, rfl, rfl, hI1, rfl⟩
  have H := HR1 i hI1
  refine WC.seq ?_
  refine WC.seq ?_
  refine WC.region ?_
  refine WL.y rfl (Yld.pure tab_ok rfl) ?_
  refine WL.y rfl (Yld.pure tab_ok rfl) ?_
  refine WL.y rfl (Yld.pure tab_ok rfl) ?_
  refine WL.y rfl (Yld.pure tab_ok rfl) ?_
  refine WL.nil (WX.then_normal ?_)
  refine WC.cond rfl (fun b1 => ?_) (fun b1 => ?_)
  · replace H := H.1 (of_decide_eq_true b1)
    refine WC.skip (WX.then_normal ?_)
    refine WC.seq ?_
    refine WC.block ?_
    refine WC.seq ?_
    refine WC.region ?_
    refine WL.y rfl (Yld.pure tab_ok rfl) ?_
    refine WL.y rfl (Yld.pure tab_ok rfl) ?_
    obtain ⟨h1, H⟩ := H
    refine WL.y rfl (Yld.iaddrW tab_ok hl rfl rfl rfl rfl h1.1 h1.2) ?_
    refine WL.y rfl (Yld.iload [] tab_ok hl rfl rfl (iltN h1 rfl)) ?_
    refine WL.y rfl (Yld.pure tab_ok rfl) ?_
    refine WL.y rfl (Yld.pure tab_ok rfl) ?_
    refine WL.nil (WX.then_normal ?_)
    refine WC.cond rfl (fun b2 => ?_) (fun b2 => ?_)
    · replace H := H.1 (of_decide_eq_true b2)
      refine WC.seq ?_
      refine WC.region ?_
      refine WL.y rfl (Yld.pure tab_ok rfl) ?_
      refine WL.y rfl (Yld.pure tab_ok rfl) ?_
      refine WL.nil (WX.then_normal ?_)
      refine WC.ret (WX.block_ret (WX.then_ret (WX.then_ret (WX.block_ret (WX.then_ret ?_)))))
      exact WX.ret1 rfl rfl ⟨rfl, i, rfl, H⟩
    · replace H := H.2 (of_decide_eq_false b2)
      refine WC.skip (WX.block_normal (WX.then_normal ?_))
      refine WC.region ?_
      refine WL.y rfl (Yld.pure tab_ok rfl) ?_
      obtain ⟨h2, H⟩ := H
      refine WL.y rfl (Yld.add rfl rfl h2) ?_
      refine WL.y rfl (Yld.pure tab_ok rfl) ?_
      refine WL.nil ?_
      exact WX.roundF _ ⟨i + (1 : Int), rfl, rfl, H.1, rfl⟩ (by repeat (first | exact Sub.nil | refine Sub.cons rfl ?_)) H.2
  · replace H := H.2 (of_decide_eq_false b1)
    refine WC.exit (WX.then_exit (WX.then_exit (WX.block_same (WX.then_normal ?_))))
    refine WC.seq ?_
    refine WC.region ?_
    refine WL.y rfl (Yld.pure tab_ok rfl) ?_
    refine WL.nil (WX.then_normal ?_)
    refine WC.ret ?_
    exact WX.ret1 rfl rfl ⟨rfl, (-1 : Int), rfl, H⟩

set_option maxHeartbeats 8000000 in
theorem W_smithyworld_Texts {w : World} {l : List (List UInt8)} {A_l : Option Addr} {c_l : Nat} {most : Int} {long : Int} {n_l : Nat} {K : Bool → Prop} (hl : Rd vs w A_l c_l l) (hn_l : n_l = l.length) (H : M_smithyworld_Texts l most long K) : Fn Tryz.prog 6 ⟨[.slice A_l n_l c_l, .int .i64 most, .int .i64 long]⟩ w (fun v w' => w = w' ∧ ∃ (r : Bool), v = .bool r ∧ K r) := by
  subst hn_l
  unfold M_smithyworld_Texts at H
  refine Fn.enter (by kernel_rfl) Tryz.func6 rfl Tryz.ntmps6 rfl ?_
  replace H := H (Nat.le_trans hl.cap hl.max)
  refine WC.seq ?_
  refine WC.region ?_
  refine WL.y rfl (Yld.pure tab_ok rfl) ?_
  refine WL.nil (WX.then_normal ?_)
  refine WC.seq ?_
  refine WC.seq ?_
  refine WC.region ?_
  refine WL.y rfl (Yld.pure tab_ok rfl) ?_
  refine WL.y rfl (Yld.pure tab_ok rfl) ?_
  refine WL.y rfl (Yld.pure tab_ok rfl) ?_
  refine WL.y rfl (Yld.pure tab_ok rfl) ?_
  refine WL.nil (WX.then_normal ?_)
  refine WC.cond rfl (fun b1 => ?_) (fun b1 => ?_)
  · replace H := H.1 (of_decide_eq_true b1)
    refine WC.seq ?_
    refine WC.region ?_
    refine WL.y rfl (Yld.pure tab_ok rfl) ?_
    refine WL.nil (WX.then_normal ?_)
    refine WC.ret (WX.then_ret ?_)
    exact WX.ret1 rfl rfl ⟨rfl, false, rfl, H⟩
  · replace H := H.2 (of_decide_eq_false b1)
    refine WC.skip (WX.then_normal ?_)
    refine WC.seq ?_
    refine WC.seq ?_
    refine WC.region ?_
    refine WL.y rfl (Yld.pure tab_ok rfl) ?_
    refine WL.nil (WX.then_normal ?_)
    refine WC.block ?_
    obtain ⟨I1, mu1, h0_1, HR1⟩ := H
    refine WC.loopF (fun n' L' w' => ∃ (i : Int), n' = mu1 i ∧ L' = [(0, .slice A_l l.length c_l), (2, .int .i64 long), (7, .int .i64 i)] ∧ I1 i ∧ w = w') _ _ ⟨(0 : Int), rfl, rfl, h0_1, rfl⟩ (by repeat (first | exact Sub.nil | refine Sub.cons rfl ?_)) ?_
    clear h0_1
    rintro _ _ _ ⟨i, rfl, rfl, hI1, rfl⟩
    have H := HR1 i hI1
    refine WC.seq ?_
    refine WC.seq ?_
    refine WC.region ?_
    refine WL.y rfl (Yld.pure tab_ok rfl) ?_
    refine WL.y rfl (Yld.pure tab_ok rfl) ?_
    refine WL.y rfl (Yld.pure tab_ok rfl) ?_
    refine WL.y rfl (Yld.pure tab_ok rfl) ?_
    refine WL.nil (WX.then_normal ?_)
    refine WC.cond rfl (fun b2 => ?_) (fun b2 => ?_)
    · replace H := H.1 (of_decide_eq_true b2)
      refine WC.skip (WX.then_normal ?_)
      refine WC.seq ?_
      refine WC.block ?_
      refine WC.seq ?_
      refine WC.region ?_
      refine WL.y rfl (Yld.pure tab_ok rfl) ?_
      refine WL.y rfl (Yld.pure tab_ok rfl) ?_
      obtain ⟨h1, H⟩ := H
      refine WL.y rfl (Yld.iaddrW tab_ok hl rfl rfl rfl rfl h1.1 h1.2) ?_
      refine WL.y rfl (Yld.iload [] tab_ok hl rfl rfl (iltN h1 rfl)) ?_
      refine WL.y rfl (Yld.pure tab_ok rfl) ?_
      refine WL.y rfl (Yld.pure tab_ok rfl) ?_
      refine WL.y rfl (Yld.pure tab_ok rfl) ?_
      refine WL.nil (WX.then_normal ?_)
      refine WC.cond rfl (fun b3 => ?_) (fun b3 => ?_)
      · replace H := H.1 (of_decide_eq_true b3)
        refine WC.seq ?_
        refine WC.region ?_
        refine WL.y rfl (Yld.pure tab_ok rfl) ?_
        refine WL.nil (WX.then_normal ?_)
        refine WC.ret (WX.block_ret (WX.then_ret (WX.then_ret (WX.block_ret (WX.then_ret ?_)))))
        exact WX.ret1 rfl rfl ⟨rfl, false, rfl, H⟩
      · replace H := H.2 (of_decide_eq_false b3)
        refine WC.skip (WX.block_normal (WX.then_normal ?_))
        refine WC.region ?_
        refine WL.y rfl (Yld.pure tab_ok rfl) ?_
        obtain ⟨h2, H⟩ := H
        refine WL.y rfl (Yld.add rfl rfl h2) ?_
        refine WL.y rfl (Yld.pure tab_ok rfl) ?_
        refine WL.nil ?_
        exact WX.roundF _ ⟨i + (1 : Int), rfl, rfl, H.1, rfl⟩ (by repeat (first | exact Sub.nil | refine Sub.cons rfl ?_)) H.2
    · replace H := H.2 (of_decide_eq_false b2)
      refine WC.exit (WX.then_exit (WX.then_exit (WX.block_same (WX.then_normal ?_))))
      refine WC.seq ?_
      refine WC.region ?_
      refine WL.y rfl (Yld.pure tab_ok rfl) ?_
      refine WL.nil (WX.then_normal ?_)
      refine WC.ret ?_
      exact WX.ret1 rfl rfl ⟨rfl, true, rfl, H⟩

set_option maxHeartbeats 8000000 in
theorem W_smithyworld_Number {w : World} {n : Int} {below : Int} {K : Int → Prop} (H : M_smithyworld_Number n below K) : Fn Tryz.prog 11 ⟨[.int .i64 n, .int .i64 below]⟩ w (fun v w' => w = w' ∧ ∃ (r : Int), v = .int .i64 r ∧ K r) := by
  unfold M_smithyworld_Number at H
  refine Fn.enter (by kernel_rfl) Tryz.func11 rfl Tryz.ntmps11 rfl ?_
  refine WC.seq ?_
  refine WC.region ?_
  refine WL.y rfl (Yld.pure tab_ok rfl) ?_
  refine WL.nil (WX.then_normal ?_)
  refine WC.seq ?_
  refine WC.region ?_
  refine WL.y rfl (Yld.pure tab_ok rfl) ?_
  refine WL.y rfl (Yld.pure tab_ok rfl) ?_
  obtain ⟨h1, H⟩ := H
  refine WL.y rfl (Yld.rem' rfl rfl h1) ?_
  refine WL.y rfl (Yld.pure tab_ok rfl) ?_
  obtain ⟨h2, H⟩ := H
  refine WL.y rfl (Yld.add rfl rfl h2) ?_
  refine WL.y rfl (Yld.pure tab_ok rfl) ?_
  obtain ⟨h3, H⟩ := H
  refine WL.y rfl (Yld.rem' rfl rfl h3) ?_
  refine WL.y rfl (Yld.pure tab_ok rfl) ?_
  refine WL.nil (WX.then_normal ?_)
  refine WC.ret ?_
  exact WX.ret1 rfl rfl ⟨rfl, ((n.tmod below) + below).tmod below, rfl, H⟩

set_option maxHeartbeats 8000000 in
theorem W_smithylaw23_first {S : List Nat} {w : World} {K : Bool → Prop} (hG : GOK S w) (hS10 : 10 ∈ S) (hS16 : 16 ∈ S) (hS100 : 100 ∈ S) (H : M_smithylaw23_first  K) : Fn Tryz.prog 5 ⟨[]⟩ w (fun v w' => w.grownBy w' none ∧ ∃ (r : Bool), v = .bool r ∧ K r) := by
  unfold M_smithylaw23_first at H
  refine Fn.enter (by kernel_rfl) Tryz.func5 rfl Tryz.ntmps5 rfl ?_
  refine WC.seq ?_
  refine WC.region ?_
  refine WL.y rfl (Yld.pure tab_ok rfl) ?_
  refine WL.nil (WX.then_normal ?_)
  refine WC.seq ?_
  refine WC.region ?_
  refine WL.lit tab_ok rfl rfl rfl (all1c rfl all1n) rfl (by omega) (fun g1 w1 hB1 hg1 hl1 => ?_)
  have hO1 : Own vs w1 w.heap.size 9 (some ⟨g1, 0, none⟩) 1 ([([98, 10, 97, 10] : List UInt8)] : List (List UInt8)) := Own.ofBl hB1 (Nat.le_trans (Nat.le_refl _) hl1) (by simp [maxLen]) rfl
  have gr1 := hg1
  refine WL.call rfl rfl (W_tool_Do (hG.grown gr1) hS10 hS16 hS100 (Own.nil vs w1 w.heap.size 9).rd rfl hO1.rd rfl H) ?_
  rintro _ w2 ⟨hg2, t70, v_t71, t71, rfl, ht71, H⟩
  have gr2 := gr_trans gr1 hg2
  refine WL.y rfl (Yld.pure tab_ok rfl) ?_
  refine WL.y rfl (Yld.pure tab_ok rfl) ?_
  refine WL.y rfl (Yld.pure tab_ok rfl) ?_
  refine WL.y rfl (Yld.pure tab_ok rfl) ?_
  refine WL.y rfl (Yld.pure tab_ok rfl) ?_
  refine WL.nil (WX.then_normal ?_)
  refine WC.seq ?_
  refine WC.region ?_
  refine WL.lit tab_ok rfl rfl rfl (all1c rfl (all1c rfl all1n)) rfl (by omega) (fun g2 w3 hB2 hg3 hl2 => ?_)
  have hO2 : Own vs w3 w.heap.size 9 (some ⟨g2, 0, none⟩) 2 ([([97] : List UInt8), ([98] : List UInt8)] : List (List UInt8)) := Own.ofBl hB2 (Nat.le_trans (size_le gr2) hl2) (by simp [maxLen]) rfl
  have gr3 := gr_trans gr2 hg3
  have k1 := ht71.grown hg3
  refine WL.lit tab_ok rfl rfl rfl (all1c rfl all1n) rfl (by omega) (fun g3 w4 hB3 hg4 hl3 => ?_)
  have hO3 : Own vs w4 w.heap.size 9 (some ⟨g3, 0, none⟩) 1 ([([97, 97] : List UInt8)] : List (List UInt8)) := Own.ofBl hB3 (Nat.le_trans (size_le gr3) hl3) (by simp [maxLen]) rfl
  have gr4 := gr_trans gr3 hg4
  have k2 := k1.grown hg4
  have k3 := hO2.grown hg4
  refine WL.call rfl rfl (W_tool_Do (hG.grown gr4) hS10 hS16 hS100 k3.rd rfl hO3.rd rfl H) ?_
  rintro _ w5 ⟨hg5, t130, v_t131, t131, rfl, ht131, H⟩
  have gr5 := gr_trans gr4 hg5
  have k4 := k2.grown hg5
  refine WL.y rfl (Yld.pure tab_ok rfl) ?_
  refine WL.y rfl (Yld.pure tab_ok rfl) ?_
  refine WL.y rfl (Yld.pure tab_ok rfl) ?_
  refine WL.y rfl (Yld.pure tab_ok rfl) ?_
  refine WL.y rfl (Yld.pure tab_ok rfl) ?_
  refine WL.nil (WX.then_normal ?_)
  refine WC.seq ?_
  refine WC.region ?_
  refine WL.y rfl (Yld.pure tab_ok rfl) ?_
  refine WL.y rfl (Yld.erreql Tryz.underlying26 k4 rfl) ?_
  refine WL.y rfl (Yld.pure tab_ok rfl) ?_
  refine WL.midF 3 (fun L' w' => ∃ q1 : Bool, L' = [(21, .bool q1), (1, vs t70), (3, vs t130)] ∧ q1 = ((decide (t71 = Er.ok)) && (decide (t131 = Er.ok))) ∧ w5 = w') ?_ (fun hQ => ?_)
  · rintro _ _ ⟨q1, rfl, rfl, rfl⟩
    refine WL.y rfl (Yld.pure tab_ok rfl) ?_
    refine WL.midF 3 (fun L' w' => ∃ q2 : Bool, L' = [(25, .bool q2), (3, vs t130)] ∧ q2 = (((decide (t71 = Er.ok)) && (decide (t131 = Er.ok))) && (decide (t70 = ([97, 10, 98, 10] : List UInt8)))) ∧ w5 = w') ?_ (fun hQ => ?_)
    · rintro _ _ ⟨q2, rfl, rfl, rfl⟩
      refine WL.y rfl (Yld.pure tab_ok rfl) ?_
      refine WL.midF 3 (fun L' w' => ∃ q3 : Bool, L' = [(29, .bool q3)] ∧ q3 = ((((decide (t71 = Er.ok)) && (decide (t131 = Er.ok))) && (decide (t70 = ([97, 10, 98, 10] : List UInt8)))) && (decide (t130 = ([98, 98] : List UInt8)))) ∧ w5 = w') ?_ (fun hQ => ?_)
      · rintro _ _ ⟨q3, rfl, rfl, rfl⟩
        refine WL.y rfl (Yld.pure tab_ok rfl) ?_
        refine WL.nil (WX.then_normal ?_)
        refine WC.ret ?_
        exact WX.ret1 rfl rfl ⟨gr5, (((decide (t71 = Er.ok)) && (decide (t131 = Er.ok))) && (decide (t70 = ([97, 10, 98, 10] : List UInt8)))) && (decide (t130 = ([98, 98] : List UInt8))), rfl, H⟩
      · clear H
        rcases Bool.eq_false_or_eq_true (((decide (t71 = Er.ok)) && (decide (t131 = Er.ok))) && (decide (t70 = ([97, 10, 98, 10] : List UInt8)))) with b1 | b1
        · refine WL.gyes rfl rfl (okb b1) rfl (Yld.pure tab_ok rfl) ?_
          refine WL.gyes rfl rfl (okb b1) rfl (Yld.pure tab_ok rfl) ?_
          refine WL.y rfl (Yld.pickT (okb b1) rfl) ?_
          exact WL.weaken (by repeat (first | exact Sub.nil | refine Sub.cons rfl ?_)) (hQ _ _ ⟨decide (t130 = ([98, 98] : List UInt8)), rfl, by rw [b1] <;> rfl, rfl⟩)
        · refine WL.gno rfl rfl (okb b1) rfl ?_
          refine WL.gno rfl rfl (okb b1) rfl ?_
          refine WL.y rfl (Yld.pickF (okb b1) rfl) ?_
          exact WL.weaken (by repeat (first | exact Sub.nil | refine Sub.cons rfl ?_)) (hQ _ _ ⟨false, rfl, by rw [b1] <;> rfl, rfl⟩)
    · clear H
      rcases Bool.eq_false_or_eq_true ((decide (t71 = Er.ok)) && (decide (t131 = Er.ok))) with b2 | b2
      · refine WL.gyes rfl rfl (okb b2) rfl (Yld.pure tab_ok rfl) ?_
        refine WL.gyes rfl rfl (okb b2) rfl (Yld.pure tab_ok rfl) ?_
        refine WL.y rfl (Yld.pickT (okb b2) rfl) ?_
        exact WL.weaken (by repeat (first | exact Sub.nil | refine Sub.cons rfl ?_)) (hQ _ _ ⟨decide (t70 = ([97, 10, 98, 10] : List UInt8)), rfl, by rw [b2] <;> rfl, rfl⟩)
      · refine WL.gno rfl rfl (okb b2) rfl ?_
        refine WL.gno rfl rfl (okb b2) rfl ?_
        refine WL.y rfl (Yld.pickF (okb b2) rfl) ?_
        exact WL.weaken (by repeat (first | exact Sub.nil | refine Sub.cons rfl ?_)) (hQ _ _ ⟨false, rfl, by rw [b2] <;> rfl, rfl⟩)
  · clear H
    rcases Bool.eq_false_or_eq_true (decide (t71 = Er.ok)) with b3 | b3
    · refine WL.gyes rfl rfl (okb b3) rfl (Yld.pure tab_ok rfl) ?_
      refine WL.gyes rfl rfl (okb b3) rfl (Yld.erreql Tryz.underlying26 ht131 rfl) ?_
      refine WL.y rfl (Yld.pickT (okb b3) rfl) ?_
      exact WL.weaken (by repeat (first | exact Sub.nil | refine Sub.cons rfl ?_)) (hQ _ _ ⟨decide (t131 = Er.ok), rfl, by rw [b3] <;> rfl, rfl⟩)
    · refine WL.gno rfl rfl (okb b3) rfl ?_
      refine WL.gno rfl rfl (okb b3) rfl ?_
      refine WL.y rfl (Yld.pickF (okb b3) rfl) ?_
      exact WL.weaken (by repeat (first | exact Sub.nil | refine Sub.cons rfl ?_)) (hQ _ _ ⟨false, rfl, by rw [b3] <;> rfl, rfl⟩)

end Go.Proofs.YtilphcippnfklaaGreatDoor
 /- Regions some of whose operations may come in several orders: the floats once, the others order by order, what stands behind once. -/
namespace Go.Proofs.YtilphcippnfklaaGreatDoor
open Go Go.RowKit
section
variable {P : Program} {N : Nat} {ops : Array Oper} {fl : Nat → Bool} {D : World → Prop} {n g : Nat} {K : Act → World → Prop} {Q : Post} {L : Slots} {w : World} {f : Nat} {listed : Array Bool} {d : Nat} {op : Op} {ty : TypeId} {pos : String} {af : Array Edge} {gd : Option (Nat × Bool)}
structure HeadOk (ops : Array Oper) (n : Nat) : Prop where
  sel : Region.noSelect ops = true
  sink : Region.sinkB .any ops n = true
  chain : Region.chainB .any ops n = true
  lt : n < ops.size
def WA (P : Program) (N : Nat) (ops : Array Oper) (fl : Nat → Bool) (D : World → Prop) (n g : Nat) (K : Act → World → Prop) (f : Nat) (listed : Array Bool) (L : Slots) (w : World) : Prop :=
  HeadOk ops n → HeadInv .any ops n listed → ∀ a w1, Eqv w w1 → D w1 → Has N L a → anyT P .any ops fl D n (fun l' a' w' => Region.seqB .any ops g n l' = true ∧ K a' w') f listed a w1
def WI (P : Program) (N : Nat) (ops : Array Oper) (fl : Nat → Bool) (D : World → Prop) (n g : Nat) (K : Act → World → Prop) (f : Nat) (listed : Array Bool) (L : Slots) (w : World) (i : Nat) : Prop :=
  HeadOk ops n → HeadInv .any ops n (listed.setIfInBounds i true) → ∀ a w1, Eqv w w1 → D w1 → Has N L a → ∃ o, ops[i]? = some o ∧ fl i = false ∧ sRun P ops D o a w1 fun a' w' => anyT P .any ops fl D n (fun l' a' w' => Region.seqB .any ops g n l' = true ∧ K a' w') f (listed.setIfInBounds i true) a' w'
theorem WC.ordersK {i : Nat} {l : List Oper} (n : Nat) (fl : Nat → Bool) (D : World → Prop) (K : Act → World → Prop) (hm : P.follows .mixedOrders = true) (hB : (Region.noSelect l.toArray && (Region.sinkB .any l.toArray n && (Region.chainB .any l.toArray n && Nat.blt n l.length))) = true) (hE : ∀ w', Eqv w w' → D w')
    (h : WA P N l.toArray fl D n (l.length - n) K n (Array.replicate l.length false) L w)
    (ht : ∀ a w', K a w' → wpList P l.toArray Q (l.drop n) a w') : WC P N Q (.region i l.toArray true) L w := fun a wx e ha => by
  simp only [Bool.and_eq_true] at hB
  obtain ⟨hsel, hs, hc, hlt⟩ := hB
  have hn' : n < l.length := by simpa [Nat.blt_eq] using hlt
  refine wp_region_any hm ?_
  have inv0 : HeadInv .any l.toArray n (Array.replicate l.length false) :=
    ⟨by simp, fun j oj _ hl => (by rw [getD_replicate_false] at hl; cases hl), fun t _ ht => getD_in (by simpa using ht) (getD_replicate_false _ _)⟩
  have H := h ⟨hsel, hs, hc, by simpa using hn'⟩ inv0 a { wx with drawn := wx.drawn + 1 } (e.drawn _) (hE _ (e.drawn _)) ha
  have h2 := any_of_anyT (Q' := Q) (g := l.length - n) (fun listed a' w' _ hL => by
    obtain ⟨hq, hK⟩ := hL
    have := wpAny_of_seq (md := .any) (Q' := Q) (l.drop n) n listed a' w' (fun j => by simp [List.getElem?_drop]) (by rw [List.length_drop]; exact hq) (ht a' w' hK)
    rwa [List.length_drop] at this) _ _ _ _ (hE { wx with drawn := wx.drawn + 1 } (e.drawn _)) H
  rw [show n + (l.length - n) = l.length by omega] at h2
  simpa using h2
def Ends4 {S1 S2 S3 S4 : Type} (N : Nat) (Ls : S1 → S2 → S3 → S4 → Slots) (I : S1 → S2 → S3 → S4 → World → Prop) (a : Act) (w : World) : Prop := ∃ p q r s w0, I p q r s w0 ∧ Eqv w0 w ∧ Has N (Ls p q r s) a
theorem WC.orders4 {S1 S2 S3 S4 : Type} {i : Nat} {l : List Oper} (n : Nat) (fl : Nat → Bool) (D : World → Prop) (Ls : S1 → S2 → S3 → S4 → Slots) (I : S1 → S2 → S3 → S4 → World → Prop) (hm : P.follows .mixedOrders = true) (hB : (Region.noSelect l.toArray && (Region.sinkB .any l.toArray n && (Region.chainB .any l.toArray n && Nat.blt n l.length))) = true) (hE : ∀ w', Eqv w w' → D w')
    (h : WA P N l.toArray fl D n (l.length - n) (Ends4 N Ls I) n (Array.replicate l.length false) L w)
    (ht : ∀ p q r s w0, I p q r s w0 → WL P N l.toArray Q (l.drop n) (Ls p q r s) w0) : WC P N Q (.region i l.toArray true) L w :=
  WC.ordersK n fl D _ hm hB hE h fun a w' ⟨p, q, r, s, w0, hI, he, hh⟩ => ht p q r s w0 hI a w' he hh
theorem WA.done4 {S1 S2 S3 S4 : Type} {Ls : S1 → S2 → S3 → S4 → Slots} {I : S1 → S2 → S3 → S4 → World → Prop} (p : S1) (q : S2) (r : S3) (s : S4) (hq : Region.seqB .any ops g n listed = true) (hI : I p q r s w) (hs : Sub L (Ls p q r s)) : WA P N ops fl D n g (Ends4 N Ls I) 0 listed L w := fun _ _ _ _ e _ ha => ⟨hq, p, q, r, s, w, hI, e, ha.sub hs⟩
def EndsF (N : Nat) (F : Slots → World → Prop) (a : Act) (w : World) : Prop := ∃ L w0, F L w0 ∧ Eqv w0 w ∧ Has N L a
theorem WC.ordersF {i : Nat} {l : List Oper} (n : Nat) (fl : Nat → Bool) (D : World → Prop) (F : Slots → World → Prop) (hm : P.follows .mixedOrders = true) (hB : (Region.noSelect l.toArray && (Region.sinkB .any l.toArray n && (Region.chainB .any l.toArray n && Nat.blt n l.length))) = true) (hE : ∀ w', Eqv w w' → D w')
    (ht : ∀ L' w', F L' w' → WL P N l.toArray Q (l.drop n) L' w')
    (h : WA P N l.toArray fl D n (l.length - n) (EndsF N F) n (Array.replicate l.length false) L w) : WC P N Q (.region i l.toArray true) L w :=
  WC.ordersK n fl D _ hm hB hE h fun a w' ⟨L', w0, hI, he, hh⟩ => ht L' w0 hI a w' he hh
theorem WA.doneF {F : Slots → World → Prop} (L' : Slots) (hq : Region.seqB .any ops g n listed = true) (hI : F L' w) (hs : Sub L L') : WA P N ops fl D n g (EndsF N F) 0 listed L w := fun _ _ _ _ e _ ha => ⟨hq, L', w, hI, e, ha.sub hs⟩
theorem WA.y {v : Value} (k : Nat) (ho : ops[k]? = some ⟨some d, op, ty, pos, af, none⟩) (hf : (fl k && ((Region.ready .any ops listed).contains k && (Region.free .any ops listed k && Nat.blt k n))) = true) (hd : Nat.blt d N = true) (hy : ∀ w', D w' → Yld P N w' ⟨some d, op, ty, pos, af, none⟩ L v)
    (h : WA P N ops fl D n g K f (listed.setIfInBounds k true) ((d, v) :: L) w) : WA P N ops fl D n g K (f + 1) listed L w := fun ok inv a w1 e hw ha => by
  simp only [Bool.and_eq_true] at hf
  obtain ⟨hfl, hr, hfr, hkn⟩ := hf
  have hr' : k ∈ Region.ready .any ops listed := by simpa using hr
  have hkn' : k < n := by simpa [Nat.blt_eq] using hkn
  exact float_firstT ho hfl (Region.noSelect_spec ok.sel) ok.sink ok.chain ok.lt hkn' (fun _ _ _ hL => seqB_ready hL.1) f listed a w1 hw inv (Region.free_spec ho hfr) hr'
    (.inl ⟨by simp [Region.wanted], fun w' hw' => hy w' hw' a w' (Eqv.refl _) ha⟩) (h ok (inv.set hr' hkn') _ _ e hw (ha.put hd v))
def AllL {α : Type} (p : α → Prop) : List α → Prop
  | [] => True
  | [x] => p x
  | x :: y :: l => p x ∧ AllL p (y :: l)
theorem AllL.mem {α : Type} {p : α → Prop} : ∀ {l : List α}, AllL p l → ∀ x ∈ l, p x
  | [], _, x, h => by simp at h
  | [y], h, x, hx => by simp at hx; subst hx; exact h
  | y :: z :: l, h, x, hx => by
    rcases List.mem_cons.1 hx with rfl | hx
    · exact h.1
    · exact AllL.mem h.2 x hx
theorem WA.split (is : List Nat) (hr : Region.ready .any ops listed = is) (hc : (!is.isEmpty && is.all fun i => Nat.blt i n) = true) (h : AllL (WI P N ops fl D n g K f listed L w) is) : WA P N ops fl D n g K (f + 1) listed L w := fun ok inv a w1 e hw ha => by
  simp only [Bool.and_eq_true] at hc
  refine ⟨fun h0 => ?_, fun i hi => ?_⟩
  · rw [hr] at h0; subst h0; simp at hc
  · have hi' := hi
    rw [hr] at hi'
    have hin : i < n := by have := List.all_eq_true.1 hc.2 i hi'; simpa [Nat.blt_eq] using this
    obtain ⟨o, ho, hfl, hs⟩ := h.mem i hi' ok (inv.set hi hin) a w1 e hw ha
    exact ⟨hin, o, ho, .inr ⟨hfl, hs⟩⟩
theorem WI.put {i : Nat} {R : Value → World → Prop} (ho : ops[i]? = some ⟨some d, op, ty, pos, af, none⟩) (hf : fl i = false) (hd : Nat.blt d N = true) (hr : Eff P N w ⟨some d, op, ty, pos, af, none⟩ L R) (hD : ∀ v w', R v w' → D w')
    (hk : ∀ v w', R v w' → WA P N ops fl D n g K f (listed.setIfInBounds i true) ((d, v) :: L) w') : WI P N ops fl D n g K f listed L w i := fun ok inv a w1 e hw ha => by
  refine ⟨_, ho, hf, ?_⟩
  unfold sRun
  rw [if_pos (by simp [Region.wanted])]
  obtain ⟨v, w', h, hR⟩ := hr a w1 e ha
  rw [h]
  exact ⟨hD v w' hR, hk v w' hR ok inv _ w' (Eqv.refl _) (hD v w' hR) (ha.put hd v)⟩
theorem WI.eff {i : Nat} {R : World → Prop} (ho : ops[i]? = some ⟨none, op, ty, pos, af, none⟩) (hf : fl i = false) (hr : Ef0 P N w ⟨none, op, ty, pos, af, none⟩ L R) (hD : ∀ w', R w' → D w')
    (hk : ∀ w', R w' → WA P N ops fl D n g K f (listed.setIfInBounds i true) L w') : WI P N ops fl D n g K f listed L w i := fun ok inv a w1 e hw ha => by
  refine ⟨_, ho, hf, ?_⟩
  unfold sRun
  rw [if_pos (by simp [Region.wanted])]
  obtain ⟨w', h, hR⟩ := hr a w1 e ha
  rw [h]
  exact ⟨hD w' hR, hk w' hR ok inv _ w' (Eqv.refl _) (hD w' hR) ha⟩
theorem WI.call {i : Nat} {R : Value → World → Prop} {fn : FuncId} {as_ : List Operand} {ts : Array TypeId} {vs : List Value} (ho : ops[i]? = some ⟨some d, .call ⟨.value (.func fn), ⟨as_⟩, ts⟩, ty, pos, af, gd⟩) (hf : fl i = false) (hg : Wants N ops L gd) (hd : Nat.blt d N = true) (hv : opvs L as_ = some vs) (hc : Fn P fn ⟨vs⟩ w R) (hD : ∀ v w', R v w' → ∀ w2, Eqv w' w2 → D w2)
    (hk : ∀ v w', R v w' → WA P N ops fl D n g K f (listed.setIfInBounds i true) ((d, v) :: L) w') : WI P N ops fl D n g K f listed L w i := fun ok inv a w1 e hw ha => by
  refine ⟨_, ho, hf, ?_⟩
  unfold sRun
  rw [if_pos (Wants.wanted (o := ⟨some d, .call ⟨.value (.func fn), ⟨as_⟩, ts⟩, ty, pos, af, gd⟩) hg ha), run_enter ha hv hc.1]
  refine (hc.2 w1 e).mono ?_
  rintro en w' ⟨v, w0, rfl, h0, hR⟩
  exact ⟨v, rfl, hD v w0 hR w' h0, hk v w0 hR ok inv _ w' h0 (hD v w0 hR w' h0) (ha.put hd v)⟩
end
end Go.Proofs.YtilphcippnfklaaGreatDoor
 