/- The table of this seat's types, printed by program (wip/gentab.py). -/
import Derived.Test.YtfibkajdahaggaaDoorFld
import Derived.Test.YtfibkajdahaggaaDoorProg
import Derived.KernelRfl
namespace Go.Proofs.YtfibkajdahaggaaDoor
open Go Go.RowKit
def tab : Tab := { int := [(2, .i64), (3, .i64), (5, .u8), (6, .u8), (12, .u64), (21, .i32), (77, .u32), (79, .u64), (83, .u64), (140, .u8), (141, .u8), (144, .i32), (145, .i32)], str := [(9, ()), (10, ()), (11, ())], one := [(1, ()), (2, ()), (3, ()), (4, ()), (5, ()), (6, ()), (9, ()), (10, ()), (11, ()), (12, ()), (15, ()), (16, ()), (17, ()), (20, ()), (21, ()), (22, ()), (23, ()), (24, ()), (25, ()), (26, ()), (27, ()), (28, ()), (31, ()), (32, ()), (33, ()), (34, ()), (36, ()), (37, ()), (38, ()), (40, ()), (41, ()), (42, ()), (43, ()), (44, ()), (45, ()), (46, ()), (47, ()), (48, ()), (52, ()), (53, ()), (54, ()), (55, ()), (57, ()), (58, ()), (59, ()), (60, ()), (61, ()), (62, ()), (66, ()), (68, ()), (70, ()), (72, ()), (73, ()), (74, ()), (75, ()), (76, ()), (77, ()), (79, ()), (82, ()), (83, ()), (84, ()), (86, ()), (87, ()), (88, ()), (89, ()), (92, ()), (94, ()), (95, ()), (96, ()), (97, ()), (98, ()), (100, ()), (101, ()), (102, ()), (104, ()), (105, ()), (106, ()), (107, ()), (108, ()), (109, ()), (110, ()), (112, ()), (113, ()), (114, ()), (115, ()), (117, ()), (118, ()), (119, ()), (120, ()), (124, ()), (125, ()), (127, ()), (130, ()), (131, ()), (132, ()), (133, ()), (134, ()), (140, ()), (141, ()), (142, ()), (143, ()), (144, ()), (145, ()), (150, ()), (151, ())], sl := [(22, (5, 1)), (23, (3, 1)), (38, (9, 1)), (48, (77, 1)), (109, (22, 1)), (131, (34, 1))], arr := [(29, (32, 5, 1)), (30, (32, 5, 1)), (78, (8, 77, 1)), (111, (64, 77, 1)), (137, (0, 16, 1))], agg := [(7, 4), (8, 4), (13, 2), (14, 2), (18, 1), (19, 1), (29, 32), (30, 32), (49, 2), (50, 2), (63, 2), (64, 2), (78, 8), (80, 10), (81, 10), (90, 5), (91, 5), (111, 64), (122, 2), (123, 2), (128, 2), (129, 2), (135, 4), (136, 4), (137, 0), (138, 0), (139, 0), (146, 11), (147, 11), (148, 1), (149, 1)], off := [(7, [0, 1, 2, 3]), (8, [0, 1, 2, 3]), (13, [0, 1]), (14, [0, 1]), (18, [0]), (19, [0]), (49, [0, 1]), (50, [0, 1]), (63, [0, 1]), (64, [0, 1]), (80, [0, 8, 9]), (81, [0, 8, 9]), (90, [0, 1, 2, 3, 4]), (91, [0, 1, 2, 3, 4]), (122, [0, 1]), (123, [0, 1]), (128, [0, 1]), (129, [0, 1]), (135, [0, 1, 2, 3]), (136, [0, 1, 2, 3]), (146, [0, 1, 2, 3, 4, 5, 6, 7, 8, 9, 10]), (147, [0, 1, 2, 3, 4, 5, 6, 7, 8, 9, 10]), (148, [0]), (149, [0])], ow := [(22, (5, 1)), (23, (3, 8)), (38, (9, 16)), (48, (77, 4)), (109, (22, 24)), (131, (34, 16))] }
theorem tab_ok : tab.Ok Tryd.prog := Tab.ok_of_check (by kernel_rfl)
theorem mixed : Tryd.prog.follows .mixedOrders = true := by kernel_rfl
def flds : List (Nat × List (Nat × Option Nat)) := [(7, [(0, none), (1, none), (2, none), (3, none)]), (8, [(0, none), (1, none), (2, none), (3, none)]), (13, [(0, none), (1, none)]), (14, [(0, none), (1, none)]), (18, [(0, none)]), (19, [(0, none)]), (49, [(0, none), (1, none)]), (50, [(0, none), (1, none)]), (63, [(0, none), (1, none)]), (64, [(0, none), (1, none)]), (80, [(0, some 8), (8, none), (9, none)]), (81, [(0, some 8), (8, none), (9, none)]), (90, [(0, none), (1, none), (2, none), (3, none), (4, none)]), (91, [(0, none), (1, none), (2, none), (3, none), (4, none)]), (122, [(0, none), (1, none)]), (123, [(0, none), (1, none)]), (128, [(0, none), (1, none)]), (129, [(0, none), (1, none)]), (135, [(0, none), (1, none), (2, none), (3, none)]), (136, [(0, none), (1, none), (2, none), (3, none)]), (138, [(0, some 0)]), (139, [(0, some 0)]), (146, [(0, none), (1, none), (2, none), (3, none), (4, none), (5, none), (6, none), (7, none), (8, none), (9, none), (10, none)]), (147, [(0, none), (1, none), (2, none), (3, none), (4, none), (5, none), (6, none), (7, none), (8, none), (9, none), (10, none)]), (148, [(0, none)]), (149, [(0, none)])]
theorem flds_ok : flds.all (ckFld Tryd.prog) = true := by kernel_rfl
theorem zero1 : zeroOf Tryd.prog 1 = some ([.nilFunc]) := by kernel_rfl
theorem zero2 : zeroOf Tryd.prog 2 = some ([.int .i64 0]) := by kernel_rfl
theorem zero3 : zeroOf Tryd.prog 3 = some ([.int .i64 0]) := by kernel_rfl
theorem zero4 : zeroOf Tryd.prog 4 = some ([.bool false]) := by kernel_rfl
theorem zero5 : zeroOf Tryd.prog 5 = some ([.int .u8 0]) := by kernel_rfl
theorem zero6 : zeroOf Tryd.prog 6 = some ([.int .u8 0]) := by kernel_rfl
theorem zero7 : zeroOf Tryd.prog 7 = some ([.int .i64 0, .int .i64 0, .bool false, .int .u8 0]) := by kernel_rfl
theorem zero8 : zeroOf Tryd.prog 8 = some ([.int .i64 0, .int .i64 0, .bool false, .int .u8 0]) := by kernel_rfl
theorem zero9 : zeroOf Tryd.prog 9 = some ([.string ⟨⟨[]⟩⟩]) := by kernel_rfl
theorem zero10 : zeroOf Tryd.prog 10 = some ([.string ⟨⟨[]⟩⟩]) := by kernel_rfl
theorem zero11 : zeroOf Tryd.prog 11 = some ([.string ⟨⟨[]⟩⟩]) := by kernel_rfl
theorem zero12 : zeroOf Tryd.prog 12 = some ([.int .u64 0]) := by kernel_rfl
theorem zero13 : zeroOf Tryd.prog 13 = some ([.string ⟨⟨[]⟩⟩, .int .u64 0]) := by kernel_rfl
theorem zero14 : zeroOf Tryd.prog 14 = some ([.string ⟨⟨[]⟩⟩, .int .u64 0]) := by kernel_rfl
theorem zero15 : zeroOf Tryd.prog 15 = some ([.pointer none]) := by kernel_rfl
theorem zero16 : zeroOf Tryd.prog 16 = some ([.pointer none]) := by kernel_rfl
theorem zero17 : zeroOf Tryd.prog 17 = some ([.pointer none]) := by kernel_rfl
theorem zero18 : zeroOf Tryd.prog 18 = some ([.pointer none]) := by kernel_rfl
theorem zero19 : zeroOf Tryd.prog 19 = some ([.pointer none]) := by kernel_rfl
theorem zero20 : zeroOf Tryd.prog 20 = some ([.nilIface]) := by kernel_rfl
theorem zero21 : zeroOf Tryd.prog 21 = some ([.int .i32 0]) := by kernel_rfl
theorem zero22 : zeroOf Tryd.prog 22 = some ([.slice none 0 0]) := by kernel_rfl
theorem zero23 : zeroOf Tryd.prog 23 = some ([.slice none 0 0]) := by kernel_rfl
theorem zero24 : zeroOf Tryd.prog 24 = some ([.nilFunc]) := by kernel_rfl
theorem zero25 : zeroOf Tryd.prog 25 = some ([.pointer none]) := by kernel_rfl
theorem zero26 : zeroOf Tryd.prog 26 = some ([.nilFunc]) := by kernel_rfl
theorem zero27 : zeroOf Tryd.prog 27 = some ([.nilFunc]) := by kernel_rfl
theorem zero28 : zeroOf Tryd.prog 28 = some ([.nilFunc]) := by kernel_rfl
theorem zero29 : zeroOf Tryd.prog 29 = some (List.replicate 32 (.int .u8 0)) := by kernel_rfl
theorem zero30 : zeroOf Tryd.prog 30 = some (List.replicate 32 (.int .u8 0)) := by kernel_rfl
theorem zero31 : zeroOf Tryd.prog 31 = some ([.nilFunc]) := by kernel_rfl
theorem zero32 : zeroOf Tryd.prog 32 = some ([.nilFunc]) := by kernel_rfl
theorem zero33 : zeroOf Tryd.prog 33 = some ([.nilIface]) := by kernel_rfl
theorem zero34 : zeroOf Tryd.prog 34 = some ([.nilIface]) := by kernel_rfl
theorem zero36 : zeroOf Tryd.prog 36 = some ([.nilFunc]) := by kernel_rfl
theorem zero37 : zeroOf Tryd.prog 37 = some ([.nilFunc]) := by kernel_rfl
theorem zero38 : zeroOf Tryd.prog 38 = some ([.slice none 0 0]) := by kernel_rfl
theorem zero40 : zeroOf Tryd.prog 40 = some ([.nilFunc]) := by kernel_rfl
theorem zero41 : zeroOf Tryd.prog 41 = some ([.nilFunc]) := by kernel_rfl
theorem zero42 : zeroOf Tryd.prog 42 = some ([.nilFunc]) := by kernel_rfl
theorem zero43 : zeroOf Tryd.prog 43 = some ([.nilFunc]) := by kernel_rfl
theorem zero44 : zeroOf Tryd.prog 44 = some ([.nilFunc]) := by kernel_rfl
theorem zero45 : zeroOf Tryd.prog 45 = some ([.nilFunc]) := by kernel_rfl
theorem zero46 : zeroOf Tryd.prog 46 = some ([.nilFunc]) := by kernel_rfl
theorem zero47 : zeroOf Tryd.prog 47 = some ([.nilFunc]) := by kernel_rfl
theorem zero48 : zeroOf Tryd.prog 48 = some ([.slice none 0 0]) := by kernel_rfl
theorem zero49 : zeroOf Tryd.prog 49 = some ([.bool false, .slice none 0 0]) := by kernel_rfl
theorem zero50 : zeroOf Tryd.prog 50 = some ([.bool false, .slice none 0 0]) := by kernel_rfl
theorem zero52 : zeroOf Tryd.prog 52 = some ([.nilFunc]) := by kernel_rfl
theorem zero53 : zeroOf Tryd.prog 53 = some ([.nilFunc]) := by kernel_rfl
theorem zero54 : zeroOf Tryd.prog 54 = some ([.nilFunc]) := by kernel_rfl
theorem zero55 : zeroOf Tryd.prog 55 = some ([.nilFunc]) := by kernel_rfl
theorem zero57 : zeroOf Tryd.prog 57 = some ([.nilFunc]) := by kernel_rfl
theorem zero58 : zeroOf Tryd.prog 58 = some ([.nilFunc]) := by kernel_rfl
theorem zero59 : zeroOf Tryd.prog 59 = some ([.nilFunc]) := by kernel_rfl
theorem zero60 : zeroOf Tryd.prog 60 = some ([.nilFunc]) := by kernel_rfl
theorem zero61 : zeroOf Tryd.prog 61 = some ([.nilFunc]) := by kernel_rfl
theorem zero62 : zeroOf Tryd.prog 62 = some ([.nilFunc]) := by kernel_rfl
theorem zero63 : zeroOf Tryd.prog 63 = some ([.bool false, .slice none 0 0]) := by kernel_rfl
theorem zero64 : zeroOf Tryd.prog 64 = some ([.bool false, .slice none 0 0]) := by kernel_rfl
theorem zero66 : zeroOf Tryd.prog 66 = some ([.nilFunc]) := by kernel_rfl
theorem zero68 : zeroOf Tryd.prog 68 = some ([.nilFunc]) := by kernel_rfl
theorem zero70 : zeroOf Tryd.prog 70 = some ([.nilFunc]) := by kernel_rfl
theorem zero72 : zeroOf Tryd.prog 72 = some ([.nilFunc]) := by kernel_rfl
theorem zero73 : zeroOf Tryd.prog 73 = some ([.nilFunc]) := by kernel_rfl
theorem zero74 : zeroOf Tryd.prog 74 = some ([.nilFunc]) := by kernel_rfl
theorem zero75 : zeroOf Tryd.prog 75 = some ([.nilFunc]) := by kernel_rfl
theorem zero76 : zeroOf Tryd.prog 76 = some ([.nilFunc]) := by kernel_rfl
theorem zero77 : zeroOf Tryd.prog 77 = some ([.int .u32 0]) := by kernel_rfl
theorem zero78 : zeroOf Tryd.prog 78 = some (List.replicate 8 (.int .u32 0)) := by kernel_rfl
theorem zero79 : zeroOf Tryd.prog 79 = some ([.int .u64 0]) := by kernel_rfl
theorem zero80 : zeroOf Tryd.prog 80 = some ([.int .u32 0, .int .u32 0, .int .u32 0, .int .u32 0, .int .u32 0, .int .u32 0, .int .u32 0, .int .u32 0, .slice none 0 0, .int .u64 0]) := by kernel_rfl
theorem zero81 : zeroOf Tryd.prog 81 = some ([.int .u32 0, .int .u32 0, .int .u32 0, .int .u32 0, .int .u32 0, .int .u32 0, .int .u32 0, .int .u32 0, .slice none 0 0, .int .u64 0]) := by kernel_rfl
theorem zero82 : zeroOf Tryd.prog 82 = some ([.nilFunc]) := by kernel_rfl
theorem zero83 : zeroOf Tryd.prog 83 = some ([.int .u64 0]) := by kernel_rfl
theorem zero84 : zeroOf Tryd.prog 84 = some ([.nilFunc]) := by kernel_rfl
theorem zero86 : zeroOf Tryd.prog 86 = some ([.nilFunc]) := by kernel_rfl
theorem zero87 : zeroOf Tryd.prog 87 = some ([.nilFunc]) := by kernel_rfl
theorem zero88 : zeroOf Tryd.prog 88 = some ([.nilFunc]) := by kernel_rfl
theorem zero89 : zeroOf Tryd.prog 89 = some ([.nilFunc]) := by kernel_rfl
theorem zero90 : zeroOf Tryd.prog 90 = some ([.int .i64 0, .bool false, .int .i64 0, .bool false, .string ⟨⟨[]⟩⟩]) := by kernel_rfl
theorem zero91 : zeroOf Tryd.prog 91 = some ([.int .i64 0, .bool false, .int .i64 0, .bool false, .string ⟨⟨[]⟩⟩]) := by kernel_rfl
theorem zero92 : zeroOf Tryd.prog 92 = some ([.nilFunc]) := by kernel_rfl
theorem zero94 : zeroOf Tryd.prog 94 = some ([.nilFunc]) := by kernel_rfl
theorem zero95 : zeroOf Tryd.prog 95 = some ([.nilFunc]) := by kernel_rfl
theorem zero96 : zeroOf Tryd.prog 96 = some ([.nilFunc]) := by kernel_rfl
theorem zero97 : zeroOf Tryd.prog 97 = some ([.nilFunc]) := by kernel_rfl
theorem zero98 : zeroOf Tryd.prog 98 = some ([.nilFunc]) := by kernel_rfl
theorem zero100 : zeroOf Tryd.prog 100 = some ([.nilFunc]) := by kernel_rfl
theorem zero101 : zeroOf Tryd.prog 101 = some ([.nilFunc]) := by kernel_rfl
theorem zero102 : zeroOf Tryd.prog 102 = some ([.nilFunc]) := by kernel_rfl
theorem zero104 : zeroOf Tryd.prog 104 = some ([.nilFunc]) := by kernel_rfl
theorem zero105 : zeroOf Tryd.prog 105 = some ([.nilFunc]) := by kernel_rfl
theorem zero106 : zeroOf Tryd.prog 106 = some ([.nilFunc]) := by kernel_rfl
theorem zero107 : zeroOf Tryd.prog 107 = some ([.nilFunc]) := by kernel_rfl
theorem zero108 : zeroOf Tryd.prog 108 = some ([.nilFunc]) := by kernel_rfl
theorem zero109 : zeroOf Tryd.prog 109 = some ([.slice none 0 0]) := by kernel_rfl
theorem zero110 : zeroOf Tryd.prog 110 = some ([.nilFunc]) := by kernel_rfl
theorem zero111 : zeroOf Tryd.prog 111 = some (List.replicate 64 (.int .u32 0)) := by kernel_rfl
theorem zero112 : zeroOf Tryd.prog 112 = some ([.nilFunc]) := by kernel_rfl
theorem zero113 : zeroOf Tryd.prog 113 = some ([.nilFunc]) := by kernel_rfl
theorem zero114 : zeroOf Tryd.prog 114 = some ([.nilFunc]) := by kernel_rfl
theorem zero115 : zeroOf Tryd.prog 115 = some ([.nilFunc]) := by kernel_rfl
theorem zero117 : zeroOf Tryd.prog 117 = some ([.nilFunc]) := by kernel_rfl
theorem zero118 : zeroOf Tryd.prog 118 = some ([.nilFunc]) := by kernel_rfl
theorem zero119 : zeroOf Tryd.prog 119 = some ([.nilFunc]) := by kernel_rfl
theorem zero120 : zeroOf Tryd.prog 120 = some ([.pointer none]) := by kernel_rfl
theorem zero122 : zeroOf Tryd.prog 122 = some ([.string ⟨⟨[]⟩⟩, .nilIface]) := by kernel_rfl
theorem zero123 : zeroOf Tryd.prog 123 = some ([.string ⟨⟨[]⟩⟩, .nilIface]) := by kernel_rfl
theorem zero124 : zeroOf Tryd.prog 124 = some ([.nilFunc]) := by kernel_rfl
theorem zero125 : zeroOf Tryd.prog 125 = some ([.pointer none]) := by kernel_rfl
theorem zero127 : zeroOf Tryd.prog 127 = some ([.nilFunc]) := by kernel_rfl
theorem zero128 : zeroOf Tryd.prog 128 = some ([.int .i64 0, .nilIface]) := by kernel_rfl
theorem zero129 : zeroOf Tryd.prog 129 = some ([.int .i64 0, .nilIface]) := by kernel_rfl
theorem zero130 : zeroOf Tryd.prog 130 = some ([.nilFunc]) := by kernel_rfl
theorem zero131 : zeroOf Tryd.prog 131 = some ([.slice none 0 0]) := by kernel_rfl
theorem zero132 : zeroOf Tryd.prog 132 = some ([.nilFunc]) := by kernel_rfl
theorem zero133 : zeroOf Tryd.prog 133 = some ([.nilFunc]) := by kernel_rfl
theorem zero134 : zeroOf Tryd.prog 134 = some ([.pointer none]) := by kernel_rfl
theorem zero135 : zeroOf Tryd.prog 135 = some ([.pointer none, .pointer none, .pointer none, .string ⟨⟨[]⟩⟩]) := by kernel_rfl
theorem zero136 : zeroOf Tryd.prog 136 = some ([.pointer none, .pointer none, .pointer none, .string ⟨⟨[]⟩⟩]) := by kernel_rfl
theorem zero140 : zeroOf Tryd.prog 140 = some ([.int .u8 0]) := by kernel_rfl
theorem zero141 : zeroOf Tryd.prog 141 = some ([.int .u8 0]) := by kernel_rfl
theorem zero142 : zeroOf Tryd.prog 142 = some ([.nilFunc]) := by kernel_rfl
theorem zero143 : zeroOf Tryd.prog 143 = some ([.pointer none]) := by kernel_rfl
theorem zero144 : zeroOf Tryd.prog 144 = some ([.int .i32 0]) := by kernel_rfl
theorem zero145 : zeroOf Tryd.prog 145 = some ([.int .i32 0]) := by kernel_rfl
theorem zero146 : zeroOf Tryd.prog 146 = some ([.int .u64 0, .int .u64 0, .int .u32 0, .int .u8 0, .int .u8 0, .int .u8 0, .int .u8 0, .nilFunc, .pointer none, .int .i32 0, .int .i32 0]) := by kernel_rfl
theorem zero147 : zeroOf Tryd.prog 147 = some ([.int .u64 0, .int .u64 0, .int .u32 0, .int .u8 0, .int .u8 0, .int .u8 0, .int .u8 0, .nilFunc, .pointer none, .int .i32 0, .int .i32 0]) := by kernel_rfl
theorem zero148 : zeroOf Tryd.prog 148 = some ([.string ⟨⟨[]⟩⟩]) := by kernel_rfl
theorem zero149 : zeroOf Tryd.prog 149 = some ([.string ⟨⟨[]⟩⟩]) := by kernel_rfl
theorem zero150 : zeroOf Tryd.prog 150 = some ([.pointer none]) := by kernel_rfl
theorem zero151 : zeroOf Tryd.prog 151 = some ([.nilFunc]) := by kernel_rfl
theorem places7 : placesOf Tryd.prog 7 = some [(0, 1), (1, 1), (2, 1), (3, 1)] := by kernel_rfl
theorem places8 : placesOf Tryd.prog 8 = some [(0, 1), (1, 1), (2, 1), (3, 1)] := by kernel_rfl
theorem places13 : placesOf Tryd.prog 13 = some [(0, 1), (1, 1)] := by kernel_rfl
theorem places14 : placesOf Tryd.prog 14 = some [(0, 1), (1, 1)] := by kernel_rfl
theorem places18 : placesOf Tryd.prog 18 = some [(0, 1)] := by kernel_rfl
theorem places19 : placesOf Tryd.prog 19 = some [(0, 1)] := by kernel_rfl
theorem places49 : placesOf Tryd.prog 49 = some [(0, 1), (1, 1)] := by kernel_rfl
theorem places50 : placesOf Tryd.prog 50 = some [(0, 1), (1, 1)] := by kernel_rfl
theorem places63 : placesOf Tryd.prog 63 = some [(0, 1), (1, 1)] := by kernel_rfl
theorem places64 : placesOf Tryd.prog 64 = some [(0, 1), (1, 1)] := by kernel_rfl
theorem places80 : placesOf Tryd.prog 80 = some [(0, 8), (8, 1), (9, 1)] := by kernel_rfl
theorem places81 : placesOf Tryd.prog 81 = some [(0, 8), (8, 1), (9, 1)] := by kernel_rfl
theorem places90 : placesOf Tryd.prog 90 = some [(0, 1), (1, 1), (2, 1), (3, 1), (4, 1)] := by kernel_rfl
theorem places91 : placesOf Tryd.prog 91 = some [(0, 1), (1, 1), (2, 1), (3, 1), (4, 1)] := by kernel_rfl
theorem places122 : placesOf Tryd.prog 122 = some [(0, 1), (1, 1)] := by kernel_rfl
theorem places123 : placesOf Tryd.prog 123 = some [(0, 1), (1, 1)] := by kernel_rfl
theorem places128 : placesOf Tryd.prog 128 = some [(0, 1), (1, 1)] := by kernel_rfl
theorem places129 : placesOf Tryd.prog 129 = some [(0, 1), (1, 1)] := by kernel_rfl
theorem places135 : placesOf Tryd.prog 135 = some [(0, 1), (1, 1), (2, 1), (3, 1)] := by kernel_rfl
theorem places136 : placesOf Tryd.prog 136 = some [(0, 1), (1, 1), (2, 1), (3, 1)] := by kernel_rfl
theorem places146 : placesOf Tryd.prog 146 = some [(0, 1), (1, 1), (2, 1), (3, 1), (4, 1), (5, 1), (6, 1), (7, 1), (8, 1), (9, 1), (10, 1)] := by kernel_rfl
theorem places147 : placesOf Tryd.prog 147 = some [(0, 1), (1, 1), (2, 1), (3, 1), (4, 1), (5, 1), (6, 1), (7, 1), (8, 1), (9, 1), (10, 1)] := by kernel_rfl
theorem places148 : placesOf Tryd.prog 148 = some [(0, 1)] := by kernel_rfl
theorem places149 : placesOf Tryd.prog 149 = some [(0, 1)] := by kernel_rfl
theorem one0 : sz1 Tryd.prog 0 = true := by kernel_rfl
theorem one1 : sz1 Tryd.prog 1 = true := by kernel_rfl
theorem one2 : sz1 Tryd.prog 2 = true := by kernel_rfl
theorem one3 : sz1 Tryd.prog 3 = true := by kernel_rfl
theorem one4 : sz1 Tryd.prog 4 = true := by kernel_rfl
theorem one5 : sz1 Tryd.prog 5 = true := by kernel_rfl
theorem one6 : sz1 Tryd.prog 6 = true := by kernel_rfl
theorem one9 : sz1 Tryd.prog 9 = true := by kernel_rfl
theorem one10 : sz1 Tryd.prog 10 = true := by kernel_rfl
theorem one11 : sz1 Tryd.prog 11 = true := by kernel_rfl
theorem one12 : sz1 Tryd.prog 12 = true := by kernel_rfl
theorem one15 : sz1 Tryd.prog 15 = true := by kernel_rfl
theorem one16 : sz1 Tryd.prog 16 = true := by kernel_rfl
theorem one17 : sz1 Tryd.prog 17 = true := by kernel_rfl
theorem one18 : sz1 Tryd.prog 18 = true := by kernel_rfl
theorem one19 : sz1 Tryd.prog 19 = true := by kernel_rfl
theorem one20 : sz1 Tryd.prog 20 = true := by kernel_rfl
theorem one21 : sz1 Tryd.prog 21 = true := by kernel_rfl
theorem one22 : sz1 Tryd.prog 22 = true := by kernel_rfl
theorem one23 : sz1 Tryd.prog 23 = true := by kernel_rfl
theorem one24 : sz1 Tryd.prog 24 = true := by kernel_rfl
theorem one25 : sz1 Tryd.prog 25 = true := by kernel_rfl
theorem one26 : sz1 Tryd.prog 26 = true := by kernel_rfl
theorem one27 : sz1 Tryd.prog 27 = true := by kernel_rfl
theorem one28 : sz1 Tryd.prog 28 = true := by kernel_rfl
theorem one31 : sz1 Tryd.prog 31 = true := by kernel_rfl
theorem one32 : sz1 Tryd.prog 32 = true := by kernel_rfl
theorem one33 : sz1 Tryd.prog 33 = true := by kernel_rfl
theorem one34 : sz1 Tryd.prog 34 = true := by kernel_rfl
theorem one35 : sz1 Tryd.prog 35 = true := by kernel_rfl
theorem one36 : sz1 Tryd.prog 36 = true := by kernel_rfl
theorem one37 : sz1 Tryd.prog 37 = true := by kernel_rfl
theorem one38 : sz1 Tryd.prog 38 = true := by kernel_rfl
theorem one39 : sz1 Tryd.prog 39 = true := by kernel_rfl
theorem one40 : sz1 Tryd.prog 40 = true := by kernel_rfl
theorem one41 : sz1 Tryd.prog 41 = true := by kernel_rfl
theorem one42 : sz1 Tryd.prog 42 = true := by kernel_rfl
theorem one43 : sz1 Tryd.prog 43 = true := by kernel_rfl
theorem one44 : sz1 Tryd.prog 44 = true := by kernel_rfl
theorem one45 : sz1 Tryd.prog 45 = true := by kernel_rfl
theorem one46 : sz1 Tryd.prog 46 = true := by kernel_rfl
theorem one47 : sz1 Tryd.prog 47 = true := by kernel_rfl
theorem one48 : sz1 Tryd.prog 48 = true := by kernel_rfl
theorem one51 : sz1 Tryd.prog 51 = true := by kernel_rfl
theorem one52 : sz1 Tryd.prog 52 = true := by kernel_rfl
theorem one53 : sz1 Tryd.prog 53 = true := by kernel_rfl
theorem one54 : sz1 Tryd.prog 54 = true := by kernel_rfl
theorem one55 : sz1 Tryd.prog 55 = true := by kernel_rfl
theorem one56 : sz1 Tryd.prog 56 = true := by kernel_rfl
theorem one57 : sz1 Tryd.prog 57 = true := by kernel_rfl
theorem one58 : sz1 Tryd.prog 58 = true := by kernel_rfl
theorem one59 : sz1 Tryd.prog 59 = true := by kernel_rfl
theorem one60 : sz1 Tryd.prog 60 = true := by kernel_rfl
theorem one61 : sz1 Tryd.prog 61 = true := by kernel_rfl
theorem one62 : sz1 Tryd.prog 62 = true := by kernel_rfl
theorem one65 : sz1 Tryd.prog 65 = true := by kernel_rfl
theorem one66 : sz1 Tryd.prog 66 = true := by kernel_rfl
theorem one67 : sz1 Tryd.prog 67 = true := by kernel_rfl
theorem one68 : sz1 Tryd.prog 68 = true := by kernel_rfl
theorem one69 : sz1 Tryd.prog 69 = true := by kernel_rfl
theorem one70 : sz1 Tryd.prog 70 = true := by kernel_rfl
theorem one71 : sz1 Tryd.prog 71 = true := by kernel_rfl
theorem one72 : sz1 Tryd.prog 72 = true := by kernel_rfl
theorem one73 : sz1 Tryd.prog 73 = true := by kernel_rfl
theorem one74 : sz1 Tryd.prog 74 = true := by kernel_rfl
theorem one75 : sz1 Tryd.prog 75 = true := by kernel_rfl
theorem one76 : sz1 Tryd.prog 76 = true := by kernel_rfl
theorem one77 : sz1 Tryd.prog 77 = true := by kernel_rfl
theorem one79 : sz1 Tryd.prog 79 = true := by kernel_rfl
theorem one82 : sz1 Tryd.prog 82 = true := by kernel_rfl
theorem one83 : sz1 Tryd.prog 83 = true := by kernel_rfl
theorem one84 : sz1 Tryd.prog 84 = true := by kernel_rfl
theorem one85 : sz1 Tryd.prog 85 = true := by kernel_rfl
theorem one86 : sz1 Tryd.prog 86 = true := by kernel_rfl
theorem one87 : sz1 Tryd.prog 87 = true := by kernel_rfl
theorem one88 : sz1 Tryd.prog 88 = true := by kernel_rfl
theorem one89 : sz1 Tryd.prog 89 = true := by kernel_rfl
theorem one92 : sz1 Tryd.prog 92 = true := by kernel_rfl
theorem one93 : sz1 Tryd.prog 93 = true := by kernel_rfl
theorem one94 : sz1 Tryd.prog 94 = true := by kernel_rfl
theorem one95 : sz1 Tryd.prog 95 = true := by kernel_rfl
theorem one96 : sz1 Tryd.prog 96 = true := by kernel_rfl
theorem one97 : sz1 Tryd.prog 97 = true := by kernel_rfl
theorem one98 : sz1 Tryd.prog 98 = true := by kernel_rfl
theorem one99 : sz1 Tryd.prog 99 = true := by kernel_rfl
theorem one100 : sz1 Tryd.prog 100 = true := by kernel_rfl
theorem one101 : sz1 Tryd.prog 101 = true := by kernel_rfl
theorem one102 : sz1 Tryd.prog 102 = true := by kernel_rfl
theorem one103 : sz1 Tryd.prog 103 = true := by kernel_rfl
theorem one104 : sz1 Tryd.prog 104 = true := by kernel_rfl
theorem one105 : sz1 Tryd.prog 105 = true := by kernel_rfl
theorem one106 : sz1 Tryd.prog 106 = true := by kernel_rfl
theorem one107 : sz1 Tryd.prog 107 = true := by kernel_rfl
theorem one108 : sz1 Tryd.prog 108 = true := by kernel_rfl
theorem one109 : sz1 Tryd.prog 109 = true := by kernel_rfl
theorem one110 : sz1 Tryd.prog 110 = true := by kernel_rfl
theorem one112 : sz1 Tryd.prog 112 = true := by kernel_rfl
theorem one113 : sz1 Tryd.prog 113 = true := by kernel_rfl
theorem one114 : sz1 Tryd.prog 114 = true := by kernel_rfl
theorem one115 : sz1 Tryd.prog 115 = true := by kernel_rfl
theorem one116 : sz1 Tryd.prog 116 = true := by kernel_rfl
theorem one117 : sz1 Tryd.prog 117 = true := by kernel_rfl
theorem one118 : sz1 Tryd.prog 118 = true := by kernel_rfl
theorem one119 : sz1 Tryd.prog 119 = true := by kernel_rfl
theorem one120 : sz1 Tryd.prog 120 = true := by kernel_rfl
theorem one121 : sz1 Tryd.prog 121 = true := by kernel_rfl
theorem one124 : sz1 Tryd.prog 124 = true := by kernel_rfl
theorem one125 : sz1 Tryd.prog 125 = true := by kernel_rfl
theorem one126 : sz1 Tryd.prog 126 = true := by kernel_rfl
theorem one127 : sz1 Tryd.prog 127 = true := by kernel_rfl
theorem one130 : sz1 Tryd.prog 130 = true := by kernel_rfl
theorem one131 : sz1 Tryd.prog 131 = true := by kernel_rfl
theorem one132 : sz1 Tryd.prog 132 = true := by kernel_rfl
theorem one133 : sz1 Tryd.prog 133 = true := by kernel_rfl
theorem one134 : sz1 Tryd.prog 134 = true := by kernel_rfl
theorem one140 : sz1 Tryd.prog 140 = true := by kernel_rfl
theorem one141 : sz1 Tryd.prog 141 = true := by kernel_rfl
theorem one142 : sz1 Tryd.prog 142 = true := by kernel_rfl
theorem one143 : sz1 Tryd.prog 143 = true := by kernel_rfl
theorem one144 : sz1 Tryd.prog 144 = true := by kernel_rfl
theorem one145 : sz1 Tryd.prog 145 = true := by kernel_rfl
theorem one148 : sz1 Tryd.prog 148 = true := by kernel_rfl
theorem one149 : sz1 Tryd.prog 149 = true := by kernel_rfl
theorem one150 : sz1 Tryd.prog 150 = true := by kernel_rfl
theorem one151 : sz1 Tryd.prog 151 = true := by kernel_rfl
end Go.Proofs.YtfibkajdahaggaaDoor
