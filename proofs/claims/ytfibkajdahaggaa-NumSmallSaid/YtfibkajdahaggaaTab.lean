/- The table of this seat's types, printed by program (wip/gentab.py). -/
import Derived.Test.YtfibkajdahaggaaFld
import Derived.Test.YtfibkajdahaggaaProg
import Derived.KernelRfl
namespace Go.Proofs.Ytfibkajdahaggaa
open Go Go.RowKit
def tab : Tab := { int := [(2, .i64), (3, .i64), (5, .u8), (6, .u8), (12, .u64), (21, .i32), (42, .u64), (48, .u64), (49, .u32), (76, .u8), (77, .u8), (80, .i32), (81, .i32)], str := [(9, ()), (10, ()), (11, ())], one := [(1, ()), (2, ()), (3, ()), (4, ()), (5, ()), (6, ()), (9, ()), (10, ()), (11, ()), (12, ()), (15, ()), (16, ()), (17, ()), (20, ()), (21, ()), (22, ()), (23, ()), (24, ()), (25, ()), (28, ()), (29, ()), (30, ()), (31, ()), (34, ()), (36, ()), (37, ()), (38, ()), (40, ()), (41, ()), (42, ()), (43, ()), (44, ()), (45, ()), (46, ()), (47, ()), (48, ()), (49, ()), (50, ()), (51, ()), (52, ()), (53, ()), (54, ()), (56, ()), (60, ()), (61, ()), (63, ()), (64, ()), (65, ()), (67, ()), (68, ()), (69, ()), (75, ()), (76, ()), (77, ()), (78, ()), (79, ()), (80, ()), (81, ()), (84, ())], sl := [(22, (9, 1)), (24, (5, 1)), (31, (49, 1)), (64, (24, 1))], arr := [(26, (32, 5, 1)), (27, (32, 5, 1)), (57, (8, 49, 1)), (66, (64, 49, 1)), (72, (0, 16, 1))], agg := [(7, 4), (8, 4), (13, 2), (14, 2), (18, 1), (19, 1), (26, 32), (27, 32), (32, 2), (33, 2), (57, 8), (58, 10), (59, 10), (66, 64), (70, 4), (71, 4), (72, 0), (73, 0), (74, 0), (82, 11), (83, 11)], off := [(7, [0, 1, 2, 3]), (8, [0, 1, 2, 3]), (13, [0, 1]), (14, [0, 1]), (18, [0]), (19, [0]), (32, [0, 1]), (33, [0, 1]), (58, [0, 8, 9]), (59, [0, 8, 9]), (70, [0, 1, 2, 3]), (71, [0, 1, 2, 3]), (82, [0, 1, 2, 3, 4, 5, 6, 7, 8, 9, 10]), (83, [0, 1, 2, 3, 4, 5, 6, 7, 8, 9, 10])], ow := [(22, (9, 16)), (24, (5, 1)), (31, (49, 4)), (64, (24, 24))] }
theorem tab_ok : tab.Ok Try.prog := Tab.ok_of_check (by kernel_rfl)
theorem mixed : Try.prog.follows .mixedOrders = true := by kernel_rfl
def flds : List (Nat × List (Nat × Option Nat)) := [(7, [(0, none), (1, none), (2, none), (3, none)]), (8, [(0, none), (1, none), (2, none), (3, none)]), (13, [(0, none), (1, none)]), (14, [(0, none), (1, none)]), (18, [(0, none)]), (19, [(0, none)]), (32, [(0, none), (1, none)]), (33, [(0, none), (1, none)]), (58, [(0, some 8), (8, none), (9, none)]), (59, [(0, some 8), (8, none), (9, none)]), (70, [(0, none), (1, none), (2, none), (3, none)]), (71, [(0, none), (1, none), (2, none), (3, none)]), (73, [(0, some 0)]), (74, [(0, some 0)]), (82, [(0, none), (1, none), (2, none), (3, none), (4, none), (5, none), (6, none), (7, none), (8, none), (9, none), (10, none)]), (83, [(0, none), (1, none), (2, none), (3, none), (4, none), (5, none), (6, none), (7, none), (8, none), (9, none), (10, none)])]
theorem flds_ok : flds.all (ckFld Try.prog) = true := by kernel_rfl
theorem zero1 : zeroOf Try.prog 1 = some ([.nilFunc]) := by kernel_rfl
theorem zero2 : zeroOf Try.prog 2 = some ([.int .i64 0]) := by kernel_rfl
theorem zero3 : zeroOf Try.prog 3 = some ([.int .i64 0]) := by kernel_rfl
theorem zero4 : zeroOf Try.prog 4 = some ([.bool false]) := by kernel_rfl
theorem zero5 : zeroOf Try.prog 5 = some ([.int .u8 0]) := by kernel_rfl
theorem zero6 : zeroOf Try.prog 6 = some ([.int .u8 0]) := by kernel_rfl
theorem zero7 : zeroOf Try.prog 7 = some ([.int .i64 0, .int .i64 0, .bool false, .int .u8 0]) := by kernel_rfl
theorem zero8 : zeroOf Try.prog 8 = some ([.int .i64 0, .int .i64 0, .bool false, .int .u8 0]) := by kernel_rfl
theorem zero9 : zeroOf Try.prog 9 = some ([.string ⟨⟨[]⟩⟩]) := by kernel_rfl
theorem zero10 : zeroOf Try.prog 10 = some ([.string ⟨⟨[]⟩⟩]) := by kernel_rfl
theorem zero11 : zeroOf Try.prog 11 = some ([.string ⟨⟨[]⟩⟩]) := by kernel_rfl
theorem zero12 : zeroOf Try.prog 12 = some ([.int .u64 0]) := by kernel_rfl
theorem zero13 : zeroOf Try.prog 13 = some ([.string ⟨⟨[]⟩⟩, .int .u64 0]) := by kernel_rfl
theorem zero14 : zeroOf Try.prog 14 = some ([.string ⟨⟨[]⟩⟩, .int .u64 0]) := by kernel_rfl
theorem zero15 : zeroOf Try.prog 15 = some ([.pointer none]) := by kernel_rfl
theorem zero16 : zeroOf Try.prog 16 = some ([.pointer none]) := by kernel_rfl
theorem zero17 : zeroOf Try.prog 17 = some ([.pointer none]) := by kernel_rfl
theorem zero18 : zeroOf Try.prog 18 = some ([.pointer none]) := by kernel_rfl
theorem zero19 : zeroOf Try.prog 19 = some ([.pointer none]) := by kernel_rfl
theorem zero20 : zeroOf Try.prog 20 = some ([.nilIface]) := by kernel_rfl
theorem zero21 : zeroOf Try.prog 21 = some ([.int .i32 0]) := by kernel_rfl
theorem zero22 : zeroOf Try.prog 22 = some ([.slice none 0 0]) := by kernel_rfl
theorem zero23 : zeroOf Try.prog 23 = some ([.nilFunc]) := by kernel_rfl
theorem zero24 : zeroOf Try.prog 24 = some ([.slice none 0 0]) := by kernel_rfl
theorem zero25 : zeroOf Try.prog 25 = some ([.nilFunc]) := by kernel_rfl
theorem zero26 : zeroOf Try.prog 26 = some (List.replicate 32 (.int .u8 0)) := by kernel_rfl
theorem zero27 : zeroOf Try.prog 27 = some (List.replicate 32 (.int .u8 0)) := by kernel_rfl
theorem zero28 : zeroOf Try.prog 28 = some ([.nilFunc]) := by kernel_rfl
theorem zero29 : zeroOf Try.prog 29 = some ([.nilFunc]) := by kernel_rfl
theorem zero30 : zeroOf Try.prog 30 = some ([.nilFunc]) := by kernel_rfl
theorem zero31 : zeroOf Try.prog 31 = some ([.slice none 0 0]) := by kernel_rfl
theorem zero32 : zeroOf Try.prog 32 = some ([.bool false, .slice none 0 0]) := by kernel_rfl
theorem zero33 : zeroOf Try.prog 33 = some ([.bool false, .slice none 0 0]) := by kernel_rfl
theorem zero34 : zeroOf Try.prog 34 = some ([.nilFunc]) := by kernel_rfl
theorem zero36 : zeroOf Try.prog 36 = some ([.nilFunc]) := by kernel_rfl
theorem zero37 : zeroOf Try.prog 37 = some ([.nilFunc]) := by kernel_rfl
theorem zero38 : zeroOf Try.prog 38 = some ([.nilFunc]) := by kernel_rfl
theorem zero40 : zeroOf Try.prog 40 = some ([.nilFunc]) := by kernel_rfl
theorem zero41 : zeroOf Try.prog 41 = some ([.nilFunc]) := by kernel_rfl
theorem zero42 : zeroOf Try.prog 42 = some ([.int .u64 0]) := by kernel_rfl
theorem zero43 : zeroOf Try.prog 43 = some ([.pointer none]) := by kernel_rfl
theorem zero44 : zeroOf Try.prog 44 = some ([.nilFunc]) := by kernel_rfl
theorem zero45 : zeroOf Try.prog 45 = some ([.nilFunc]) := by kernel_rfl
theorem zero46 : zeroOf Try.prog 46 = some ([.nilFunc]) := by kernel_rfl
theorem zero47 : zeroOf Try.prog 47 = some ([.nilFunc]) := by kernel_rfl
theorem zero48 : zeroOf Try.prog 48 = some ([.int .u64 0]) := by kernel_rfl
theorem zero49 : zeroOf Try.prog 49 = some ([.int .u32 0]) := by kernel_rfl
theorem zero50 : zeroOf Try.prog 50 = some ([.nilFunc]) := by kernel_rfl
theorem zero51 : zeroOf Try.prog 51 = some ([.nilFunc]) := by kernel_rfl
theorem zero52 : zeroOf Try.prog 52 = some ([.nilFunc]) := by kernel_rfl
theorem zero53 : zeroOf Try.prog 53 = some ([.nilFunc]) := by kernel_rfl
theorem zero54 : zeroOf Try.prog 54 = some ([.nilFunc]) := by kernel_rfl
theorem zero56 : zeroOf Try.prog 56 = some ([.nilFunc]) := by kernel_rfl
theorem zero57 : zeroOf Try.prog 57 = some (List.replicate 8 (.int .u32 0)) := by kernel_rfl
theorem zero58 : zeroOf Try.prog 58 = some ([.int .u32 0, .int .u32 0, .int .u32 0, .int .u32 0, .int .u32 0, .int .u32 0, .int .u32 0, .int .u32 0, .slice none 0 0, .int .u64 0]) := by kernel_rfl
theorem zero59 : zeroOf Try.prog 59 = some ([.int .u32 0, .int .u32 0, .int .u32 0, .int .u32 0, .int .u32 0, .int .u32 0, .int .u32 0, .int .u32 0, .slice none 0 0, .int .u64 0]) := by kernel_rfl
theorem zero60 : zeroOf Try.prog 60 = some ([.nilFunc]) := by kernel_rfl
theorem zero61 : zeroOf Try.prog 61 = some ([.nilFunc]) := by kernel_rfl
theorem zero63 : zeroOf Try.prog 63 = some ([.nilFunc]) := by kernel_rfl
theorem zero64 : zeroOf Try.prog 64 = some ([.slice none 0 0]) := by kernel_rfl
theorem zero65 : zeroOf Try.prog 65 = some ([.nilFunc]) := by kernel_rfl
theorem zero66 : zeroOf Try.prog 66 = some (List.replicate 64 (.int .u32 0)) := by kernel_rfl
theorem zero67 : zeroOf Try.prog 67 = some ([.nilFunc]) := by kernel_rfl
theorem zero68 : zeroOf Try.prog 68 = some ([.nilFunc]) := by kernel_rfl
theorem zero69 : zeroOf Try.prog 69 = some ([.nilFunc]) := by kernel_rfl
theorem zero70 : zeroOf Try.prog 70 = some ([.pointer none, .pointer none, .pointer none, .string ⟨⟨[]⟩⟩]) := by kernel_rfl
theorem zero71 : zeroOf Try.prog 71 = some ([.pointer none, .pointer none, .pointer none, .string ⟨⟨[]⟩⟩]) := by kernel_rfl
theorem zero75 : zeroOf Try.prog 75 = some ([.nilFunc]) := by kernel_rfl
theorem zero76 : zeroOf Try.prog 76 = some ([.int .u8 0]) := by kernel_rfl
theorem zero77 : zeroOf Try.prog 77 = some ([.int .u8 0]) := by kernel_rfl
theorem zero78 : zeroOf Try.prog 78 = some ([.nilFunc]) := by kernel_rfl
theorem zero79 : zeroOf Try.prog 79 = some ([.pointer none]) := by kernel_rfl
theorem zero80 : zeroOf Try.prog 80 = some ([.int .i32 0]) := by kernel_rfl
theorem zero81 : zeroOf Try.prog 81 = some ([.int .i32 0]) := by kernel_rfl
theorem zero82 : zeroOf Try.prog 82 = some ([.int .u64 0, .int .u64 0, .int .u32 0, .int .u8 0, .int .u8 0, .int .u8 0, .int .u8 0, .nilFunc, .pointer none, .int .i32 0, .int .i32 0]) := by kernel_rfl
theorem zero83 : zeroOf Try.prog 83 = some ([.int .u64 0, .int .u64 0, .int .u32 0, .int .u8 0, .int .u8 0, .int .u8 0, .int .u8 0, .nilFunc, .pointer none, .int .i32 0, .int .i32 0]) := by kernel_rfl
theorem zero84 : zeroOf Try.prog 84 = some ([.pointer none]) := by kernel_rfl
theorem places7 : placesOf Try.prog 7 = some [(0, 1), (1, 1), (2, 1), (3, 1)] := by kernel_rfl
theorem places8 : placesOf Try.prog 8 = some [(0, 1), (1, 1), (2, 1), (3, 1)] := by kernel_rfl
theorem places13 : placesOf Try.prog 13 = some [(0, 1), (1, 1)] := by kernel_rfl
theorem places14 : placesOf Try.prog 14 = some [(0, 1), (1, 1)] := by kernel_rfl
theorem places18 : placesOf Try.prog 18 = some [(0, 1)] := by kernel_rfl
theorem places19 : placesOf Try.prog 19 = some [(0, 1)] := by kernel_rfl
theorem places32 : placesOf Try.prog 32 = some [(0, 1), (1, 1)] := by kernel_rfl
theorem places33 : placesOf Try.prog 33 = some [(0, 1), (1, 1)] := by kernel_rfl
theorem places58 : placesOf Try.prog 58 = some [(0, 8), (8, 1), (9, 1)] := by kernel_rfl
theorem places59 : placesOf Try.prog 59 = some [(0, 8), (8, 1), (9, 1)] := by kernel_rfl
theorem places70 : placesOf Try.prog 70 = some [(0, 1), (1, 1), (2, 1), (3, 1)] := by kernel_rfl
theorem places71 : placesOf Try.prog 71 = some [(0, 1), (1, 1), (2, 1), (3, 1)] := by kernel_rfl
theorem places82 : placesOf Try.prog 82 = some [(0, 1), (1, 1), (2, 1), (3, 1), (4, 1), (5, 1), (6, 1), (7, 1), (8, 1), (9, 1), (10, 1)] := by kernel_rfl
theorem places83 : placesOf Try.prog 83 = some [(0, 1), (1, 1), (2, 1), (3, 1), (4, 1), (5, 1), (6, 1), (7, 1), (8, 1), (9, 1), (10, 1)] := by kernel_rfl
theorem one0 : sz1 Try.prog 0 = true := by kernel_rfl
theorem one1 : sz1 Try.prog 1 = true := by kernel_rfl
theorem one2 : sz1 Try.prog 2 = true := by kernel_rfl
theorem one3 : sz1 Try.prog 3 = true := by kernel_rfl
theorem one4 : sz1 Try.prog 4 = true := by kernel_rfl
theorem one5 : sz1 Try.prog 5 = true := by kernel_rfl
theorem one6 : sz1 Try.prog 6 = true := by kernel_rfl
theorem one9 : sz1 Try.prog 9 = true := by kernel_rfl
theorem one10 : sz1 Try.prog 10 = true := by kernel_rfl
theorem one11 : sz1 Try.prog 11 = true := by kernel_rfl
theorem one12 : sz1 Try.prog 12 = true := by kernel_rfl
theorem one15 : sz1 Try.prog 15 = true := by kernel_rfl
theorem one16 : sz1 Try.prog 16 = true := by kernel_rfl
theorem one17 : sz1 Try.prog 17 = true := by kernel_rfl
theorem one18 : sz1 Try.prog 18 = true := by kernel_rfl
theorem one19 : sz1 Try.prog 19 = true := by kernel_rfl
theorem one20 : sz1 Try.prog 20 = true := by kernel_rfl
theorem one21 : sz1 Try.prog 21 = true := by kernel_rfl
theorem one22 : sz1 Try.prog 22 = true := by kernel_rfl
theorem one23 : sz1 Try.prog 23 = true := by kernel_rfl
theorem one24 : sz1 Try.prog 24 = true := by kernel_rfl
theorem one25 : sz1 Try.prog 25 = true := by kernel_rfl
theorem one28 : sz1 Try.prog 28 = true := by kernel_rfl
theorem one29 : sz1 Try.prog 29 = true := by kernel_rfl
theorem one30 : sz1 Try.prog 30 = true := by kernel_rfl
theorem one31 : sz1 Try.prog 31 = true := by kernel_rfl
theorem one34 : sz1 Try.prog 34 = true := by kernel_rfl
theorem one35 : sz1 Try.prog 35 = true := by kernel_rfl
theorem one36 : sz1 Try.prog 36 = true := by kernel_rfl
theorem one37 : sz1 Try.prog 37 = true := by kernel_rfl
theorem one38 : sz1 Try.prog 38 = true := by kernel_rfl
theorem one39 : sz1 Try.prog 39 = true := by kernel_rfl
theorem one40 : sz1 Try.prog 40 = true := by kernel_rfl
theorem one41 : sz1 Try.prog 41 = true := by kernel_rfl
theorem one42 : sz1 Try.prog 42 = true := by kernel_rfl
theorem one43 : sz1 Try.prog 43 = true := by kernel_rfl
theorem one44 : sz1 Try.prog 44 = true := by kernel_rfl
theorem one45 : sz1 Try.prog 45 = true := by kernel_rfl
theorem one46 : sz1 Try.prog 46 = true := by kernel_rfl
theorem one47 : sz1 Try.prog 47 = true := by kernel_rfl
theorem one48 : sz1 Try.prog 48 = true := by kernel_rfl
theorem one49 : sz1 Try.prog 49 = true := by kernel_rfl
theorem one50 : sz1 Try.prog 50 = true := by kernel_rfl
theorem one51 : sz1 Try.prog 51 = true := by kernel_rfl
theorem one52 : sz1 Try.prog 52 = true := by kernel_rfl
theorem one53 : sz1 Try.prog 53 = true := by kernel_rfl
theorem one54 : sz1 Try.prog 54 = true := by kernel_rfl
theorem one55 : sz1 Try.prog 55 = true := by kernel_rfl
theorem one56 : sz1 Try.prog 56 = true := by kernel_rfl
theorem one60 : sz1 Try.prog 60 = true := by kernel_rfl
theorem one61 : sz1 Try.prog 61 = true := by kernel_rfl
theorem one62 : sz1 Try.prog 62 = true := by kernel_rfl
theorem one63 : sz1 Try.prog 63 = true := by kernel_rfl
theorem one64 : sz1 Try.prog 64 = true := by kernel_rfl
theorem one65 : sz1 Try.prog 65 = true := by kernel_rfl
theorem one67 : sz1 Try.prog 67 = true := by kernel_rfl
theorem one68 : sz1 Try.prog 68 = true := by kernel_rfl
theorem one69 : sz1 Try.prog 69 = true := by kernel_rfl
theorem one75 : sz1 Try.prog 75 = true := by kernel_rfl
theorem one76 : sz1 Try.prog 76 = true := by kernel_rfl
theorem one77 : sz1 Try.prog 77 = true := by kernel_rfl
theorem one78 : sz1 Try.prog 78 = true := by kernel_rfl
theorem one79 : sz1 Try.prog 79 = true := by kernel_rfl
theorem one80 : sz1 Try.prog 80 = true := by kernel_rfl
theorem one81 : sz1 Try.prog 81 = true := by kernel_rfl
theorem one84 : sz1 Try.prog 84 = true := by kernel_rfl
end Go.Proofs.Ytfibkajdahaggaa
