/- What the logic needs to know of each type of the program. The program's structs as plain data, and how they lie in memory. The mixing functions. mix.Of. tree.Name, slices.Index, slices.Contains. tree.places. Plain facts of trees: what 'places' tells. tree.Chain. cursor.Move. Plain facts of chains and cursors. Plain laws of cursors. tree.May, Find, Slot, Kids. The examples of the laws of trees and cursors. Plain tools for printed functions: loops by what holds at their heads. What the laws hand over, with the bounds of its numbers. Plain facts of trees: what the program's Find, Slot, Kids tell. Plain facts of a beginning of blocks. Conditions: none. -/
import Derived.Test.YtlhocfhoocmfiaaL2
import Derived.Test.YtlhocfhoocmfiaaProg
namespace Go.Mg
open Go.Proofs
section
variable {w : World}
theorem at23 : arrTy Try.prog 23 = some (2, 1, false) := by kernel_rfl
theorem at24 : arrTy Try.prog 24 = some (2, 1, false) := by kernel_rfl
theorem at115 : arrTy Try.prog 115 = some (10, 5, true) := by kernel_rfl
theorem at209 : arrTy Try.prog 209 = some (0, 1, false) := by kernel_rfl
theorem bt7 : buildTy Try.prog 7 = some ([LV.p (PV.int IntKind.i64 0), LV.p (PV.int IntKind.i64 0), LV.p (PV.bool false), LV.p (PV.int IntKind.u8 0)], [(0, 1), (1, 1), (2, 1), (3, 1)]) := by kernel_rfl
theorem bt8 : buildTy Try.prog 8 = some ([LV.p (PV.int IntKind.i64 0), LV.p (PV.int IntKind.i64 0), LV.p (PV.bool false), LV.p (PV.int IntKind.u8 0)], [(0, 1), (1, 1), (2, 1), (3, 1)]) := by kernel_rfl
theorem bt18 : buildTy Try.prog 18 = some ([LV.any], [(0, 1)]) := by kernel_rfl
theorem bt19 : buildTy Try.prog 19 = some ([LV.any], [(0, 1)]) := by kernel_rfl
theorem bt23 : buildTy Try.prog 23 = some ([LV.p (PV.int IntKind.u64 0), LV.p (PV.int IntKind.u64 0)], [(0, 1), (1, 1)]) := by kernel_rfl
theorem bt24 : buildTy Try.prog 24 = some ([LV.p (PV.int IntKind.u64 0), LV.p (PV.int IntKind.u64 0)], [(0, 1), (1, 1)]) := by kernel_rfl
theorem bt25 : buildTy Try.prog 25 = some ([LV.p (PV.int IntKind.u64 0), LV.p (PV.int IntKind.u64 0), LV.p (PV.int IntKind.i64 0), LV.p (PV.int IntKind.i64 0)], [(0, 2), (2, 1), (3, 1)]) := by kernel_rfl
theorem bt26 : buildTy Try.prog 26 = some ([LV.p (PV.int IntKind.u64 0), LV.p (PV.int IntKind.u64 0), LV.p (PV.int IntKind.i64 0), LV.p (PV.int IntKind.i64 0)], [(0, 2), (2, 1), (3, 1)]) := by kernel_rfl
theorem bt41 : buildTy Try.prog 41 = some ([LV.p (PV.int IntKind.i64 0), LV.p (PV.int IntKind.i64 0), LV.p (PV.int IntKind.u64 0), LV.p (PV.int IntKind.u64 0), LV.p (PV.int IntKind.u64 0)], [(0, 1), (1, 1), (2, 2), (4, 1)]) := by kernel_rfl
theorem bt42 : buildTy Try.prog 42 = some ([LV.p (PV.int IntKind.i64 0), LV.p (PV.int IntKind.i64 0), LV.p (PV.int IntKind.u64 0), LV.p (PV.int IntKind.u64 0), LV.p (PV.int IntKind.u64 0)], [(0, 1), (1, 1), (2, 2), (4, 1)]) := by kernel_rfl
theorem bt54 : buildTy Try.prog 54 = some ([LV.zs, LV.p (PV.int IntKind.u64 0), LV.p (PV.int IntKind.i64 0), LV.p (PV.int IntKind.i64 0), LV.p (PV.int IntKind.i64 0)], [(0, 1), (1, 1), (2, 1), (3, 1), (4, 1)]) := by kernel_rfl
theorem bt55 : buildTy Try.prog 55 = some ([LV.zs, LV.p (PV.int IntKind.u64 0), LV.p (PV.int IntKind.i64 0), LV.p (PV.int IntKind.i64 0), LV.p (PV.int IntKind.i64 0)], [(0, 1), (1, 1), (2, 1), (3, 1), (4, 1)]) := by kernel_rfl
theorem bt74 : buildTy Try.prog 74 = some ([LV.zs, LV.zs], [(0, 1), (1, 1)]) := by kernel_rfl
theorem bt75 : buildTy Try.prog 75 = some ([LV.zs, LV.zs], [(0, 1), (1, 1)]) := by kernel_rfl
theorem bt81 : buildTy Try.prog 81 = some ([LV.p (PV.int IntKind.i64 0), LV.p (PV.int IntKind.i64 0), LV.p (PV.int IntKind.u64 0), LV.p (PV.int IntKind.u64 0)], [(0, 1), (1, 1), (2, 2)]) := by kernel_rfl
theorem bt82 : buildTy Try.prog 82 = some ([LV.p (PV.int IntKind.i64 0), LV.p (PV.int IntKind.i64 0), LV.p (PV.int IntKind.u64 0), LV.p (PV.int IntKind.u64 0)], [(0, 1), (1, 1), (2, 2)]) := by kernel_rfl
theorem bt101 : buildTy Try.prog 101 = some ([], []) := by kernel_rfl
theorem bt102 : buildTy Try.prog 102 = some ([], []) := by kernel_rfl
theorem bt103 : buildTy Try.prog 103 = some ([], []) := by kernel_rfl
theorem bt105 : buildTy Try.prog 105 = some ([LV.p (PV.int IntKind.u32 0)], [(0, 0), (0, 1)]) := by kernel_rfl
theorem bt106 : buildTy Try.prog 106 = some ([LV.p (PV.int IntKind.u32 0)], [(0, 0), (0, 1)]) := by kernel_rfl
theorem bt107 : buildTy Try.prog 107 = some ([LV.p (PV.int IntKind.i32 0), LV.p (PV.int IntKind.u32 0)], [(0, 1), (1, 1)]) := by kernel_rfl
theorem bt108 : buildTy Try.prog 108 = some ([LV.p (PV.int IntKind.i32 0), LV.p (PV.int IntKind.u32 0)], [(0, 1), (1, 1)]) := by kernel_rfl
theorem bt109 : buildTy Try.prog 109 = some ([LV.p (PV.int IntKind.i32 0), LV.p (PV.int IntKind.u32 0)], [(0, 0), (0, 2)]) := by kernel_rfl
theorem bt110 : buildTy Try.prog 110 = some ([LV.p (PV.int IntKind.i32 0), LV.p (PV.int IntKind.u32 0)], [(0, 0), (0, 2)]) := by kernel_rfl
theorem bt111 : buildTy Try.prog 111 = some ([LV.p (PV.int IntKind.u32 0), LV.p (PV.int IntKind.i32 0), LV.p (PV.int IntKind.u32 0)], [(0, 0), (0, 1), (1, 2)]) := by kernel_rfl
theorem bt112 : buildTy Try.prog 112 = some ([LV.p (PV.int IntKind.u32 0), LV.p (PV.int IntKind.i32 0), LV.p (PV.int IntKind.u32 0)], [(0, 0), (0, 1), (1, 2)]) := by kernel_rfl
theorem bt113 : buildTy Try.prog 113 = some ([LV.p (PV.int IntKind.u32 0), LV.p (PV.int IntKind.i32 0), LV.p (PV.int IntKind.u32 0), LV.p (PV.int IntKind.i64 0), LV.p (PV.int IntKind.u64 0)], [(0, 3), (3, 1), (4, 1)]) := by kernel_rfl
theorem bt114 : buildTy Try.prog 114 = some ([LV.p (PV.int IntKind.u32 0), LV.p (PV.int IntKind.i32 0), LV.p (PV.int IntKind.u32 0), LV.p (PV.int IntKind.i64 0), LV.p (PV.int IntKind.u64 0)], [(0, 3), (3, 1), (4, 1)]) := by kernel_rfl
theorem bt115 : buildTy Try.prog 115 = some ([LV.p (PV.int IntKind.u32 0), LV.p (PV.int IntKind.i32 0), LV.p (PV.int IntKind.u32 0), LV.p (PV.int IntKind.i64 0), LV.p (PV.int IntKind.u64 0), LV.p (PV.int IntKind.u32 0), LV.p (PV.int IntKind.i32 0), LV.p (PV.int IntKind.u32 0), LV.p (PV.int IntKind.i64 0), LV.p (PV.int IntKind.u64 0), LV.p (PV.int IntKind.u32 0), LV.p (PV.int IntKind.i32 0), LV.p (PV.int IntKind.u32 0), LV.p (PV.int IntKind.i64 0), LV.p (PV.int IntKind.u64 0), LV.p (PV.int IntKind.u32 0), LV.p (PV.int IntKind.i32 0), LV.p (PV.int IntKind.u32 0), LV.p (PV.int IntKind.i64 0), LV.p (PV.int IntKind.u64 0), LV.p (PV.int IntKind.u32 0), LV.p (PV.int IntKind.i32 0), LV.p (PV.int IntKind.u32 0), LV.p (PV.int IntKind.i64 0), LV.p (PV.int IntKind.u64 0), LV.p (PV.int IntKind.u32 0), LV.p (PV.int IntKind.i32 0), LV.p (PV.int IntKind.u32 0), LV.p (PV.int IntKind.i64 0), LV.p (PV.int IntKind.u64 0), LV.p (PV.int IntKind.u32 0), LV.p (PV.int IntKind.i32 0), LV.p (PV.int IntKind.u32 0), LV.p (PV.int IntKind.i64 0), LV.p (PV.int IntKind.u64 0), LV.p (PV.int IntKind.u32 0), LV.p (PV.int IntKind.i32 0), LV.p (PV.int IntKind.u32 0), LV.p (PV.int IntKind.i64 0), LV.p (PV.int IntKind.u64 0), LV.p (PV.int IntKind.u32 0), LV.p (PV.int IntKind.i32 0), LV.p (PV.int IntKind.u32 0), LV.p (PV.int IntKind.i64 0), LV.p (PV.int IntKind.u64 0), LV.p (PV.int IntKind.u32 0), LV.p (PV.int IntKind.i32 0), LV.p (PV.int IntKind.u32 0), LV.p (PV.int IntKind.i64 0), LV.p (PV.int IntKind.u64 0)], [(0, 5), (5, 5), (10, 5), (15, 5), (20, 5), (25, 5), (30, 5), (35, 5), (40, 5), (45, 5)]) := by kernel_rfl
theorem bt116 : buildTy Try.prog 116 = some ([], []) := by kernel_rfl
theorem bt117 : buildTy Try.prog 117 = some ([LV.p (PV.int IntKind.i64 0)], [(0, 0), (0, 0), (0, 1)]) := by kernel_rfl
theorem bt118 : buildTy Try.prog 118 = some ([LV.p (PV.int IntKind.i64 0)], [(0, 0), (0, 0), (0, 1)]) := by kernel_rfl
theorem bt119 : buildTy Try.prog 119 = some ([LV.p (PV.int IntKind.u64 0), LV.p (PV.int IntKind.i64 0), LV.p (PV.int IntKind.u32 0), LV.p (PV.int IntKind.i32 0), LV.p (PV.int IntKind.u32 0), LV.p (PV.int IntKind.i64 0), LV.p (PV.int IntKind.u64 0), LV.p (PV.int IntKind.u32 0), LV.p (PV.int IntKind.i32 0), LV.p (PV.int IntKind.u32 0), LV.p (PV.int IntKind.i64 0), LV.p (PV.int IntKind.u64 0), LV.p (PV.int IntKind.u32 0), LV.p (PV.int IntKind.i32 0), LV.p (PV.int IntKind.u32 0), LV.p (PV.int IntKind.i64 0), LV.p (PV.int IntKind.u64 0), LV.p (PV.int IntKind.u32 0), LV.p (PV.int IntKind.i32 0), LV.p (PV.int IntKind.u32 0), LV.p (PV.int IntKind.i64 0), LV.p (PV.int IntKind.u64 0), LV.p (PV.int IntKind.u32 0), LV.p (PV.int IntKind.i32 0), LV.p (PV.int IntKind.u32 0), LV.p (PV.int IntKind.i64 0), LV.p (PV.int IntKind.u64 0), LV.p (PV.int IntKind.u32 0), LV.p (PV.int IntKind.i32 0), LV.p (PV.int IntKind.u32 0), LV.p (PV.int IntKind.i64 0), LV.p (PV.int IntKind.u64 0), LV.p (PV.int IntKind.u32 0), LV.p (PV.int IntKind.i32 0), LV.p (PV.int IntKind.u32 0), LV.p (PV.int IntKind.i64 0), LV.p (PV.int IntKind.u64 0), LV.p (PV.int IntKind.u32 0), LV.p (PV.int IntKind.i32 0), LV.p (PV.int IntKind.u32 0), LV.p (PV.int IntKind.i64 0), LV.p (PV.int IntKind.u64 0), LV.p (PV.int IntKind.u32 0), LV.p (PV.int IntKind.i32 0), LV.p (PV.int IntKind.u32 0), LV.p (PV.int IntKind.i64 0), LV.p (PV.int IntKind.u64 0), LV.p (PV.int IntKind.u32 0), LV.p (PV.int IntKind.i32 0), LV.p (PV.int IntKind.u32 0), LV.p (PV.int IntKind.i64 0), LV.p (PV.int IntKind.u64 0), LV.p (PV.int IntKind.i64 0)], [(0, 1), (1, 1), (2, 50), (52, 1)]) := by kernel_rfl
theorem bt120 : buildTy Try.prog 120 = some ([LV.p (PV.int IntKind.u64 0), LV.p (PV.int IntKind.i64 0), LV.p (PV.int IntKind.u32 0), LV.p (PV.int IntKind.i32 0), LV.p (PV.int IntKind.u32 0), LV.p (PV.int IntKind.i64 0), LV.p (PV.int IntKind.u64 0), LV.p (PV.int IntKind.u32 0), LV.p (PV.int IntKind.i32 0), LV.p (PV.int IntKind.u32 0), LV.p (PV.int IntKind.i64 0), LV.p (PV.int IntKind.u64 0), LV.p (PV.int IntKind.u32 0), LV.p (PV.int IntKind.i32 0), LV.p (PV.int IntKind.u32 0), LV.p (PV.int IntKind.i64 0), LV.p (PV.int IntKind.u64 0), LV.p (PV.int IntKind.u32 0), LV.p (PV.int IntKind.i32 0), LV.p (PV.int IntKind.u32 0), LV.p (PV.int IntKind.i64 0), LV.p (PV.int IntKind.u64 0), LV.p (PV.int IntKind.u32 0), LV.p (PV.int IntKind.i32 0), LV.p (PV.int IntKind.u32 0), LV.p (PV.int IntKind.i64 0), LV.p (PV.int IntKind.u64 0), LV.p (PV.int IntKind.u32 0), LV.p (PV.int IntKind.i32 0), LV.p (PV.int IntKind.u32 0), LV.p (PV.int IntKind.i64 0), LV.p (PV.int IntKind.u64 0), LV.p (PV.int IntKind.u32 0), LV.p (PV.int IntKind.i32 0), LV.p (PV.int IntKind.u32 0), LV.p (PV.int IntKind.i64 0), LV.p (PV.int IntKind.u64 0), LV.p (PV.int IntKind.u32 0), LV.p (PV.int IntKind.i32 0), LV.p (PV.int IntKind.u32 0), LV.p (PV.int IntKind.i64 0), LV.p (PV.int IntKind.u64 0), LV.p (PV.int IntKind.u32 0), LV.p (PV.int IntKind.i32 0), LV.p (PV.int IntKind.u32 0), LV.p (PV.int IntKind.i64 0), LV.p (PV.int IntKind.u64 0), LV.p (PV.int IntKind.u32 0), LV.p (PV.int IntKind.i32 0), LV.p (PV.int IntKind.u32 0), LV.p (PV.int IntKind.i64 0), LV.p (PV.int IntKind.u64 0), LV.p (PV.int IntKind.i64 0)], [(0, 1), (1, 1), (2, 50), (52, 1)]) := by kernel_rfl
theorem bt135 : buildTy Try.prog 135 = some ([LV.p (PV.int IntKind.i64 0), LV.p (PV.int IntKind.u64 0), LV.p (PV.int IntKind.u64 0)], [(0, 1), (1, 2)]) := by kernel_rfl
theorem bt136 : buildTy Try.prog 136 = some ([LV.p (PV.int IntKind.i64 0), LV.p (PV.int IntKind.u64 0), LV.p (PV.int IntKind.u64 0)], [(0, 1), (1, 2)]) := by kernel_rfl
theorem bt148 : buildTy Try.prog 148 = some ([LV.zs, LV.zs, LV.nilmap, LV.nilmap, LV.p (PV.int IntKind.i64 0), LV.p (PV.bool false)], [(0, 2), (2, 1), (3, 1), (4, 1), (5, 1)]) := by kernel_rfl
theorem bt149 : buildTy Try.prog 149 = some ([LV.zs, LV.zs, LV.nilmap, LV.nilmap, LV.p (PV.int IntKind.i64 0), LV.p (PV.bool false)], [(0, 2), (2, 1), (3, 1), (4, 1), (5, 1)]) := by kernel_rfl
theorem bt209 : buildTy Try.prog 209 = some ([], []) := by kernel_rfl
theorem bt210 : buildTy Try.prog 210 = some ([], [(0, 0)]) := by kernel_rfl
theorem bt211 : buildTy Try.prog 211 = some ([], [(0, 0)]) := by kernel_rfl
theorem bt219 : buildTy Try.prog 219 = some ([LV.p (PV.int IntKind.u64 0), LV.p (PV.int IntKind.u64 0), LV.p (PV.int IntKind.u32 0), LV.p (PV.int IntKind.u8 0), LV.p (PV.int IntKind.u8 0), LV.p (PV.int IntKind.u8 0), LV.p (PV.int IntKind.u8 0), LV.any, LV.any, LV.p (PV.int IntKind.i32 0), LV.p (PV.int IntKind.i32 0)], [(0, 1), (1, 1), (2, 1), (3, 1), (4, 1), (5, 1), (6, 1), (7, 1), (8, 1), (9, 1), (10, 1)]) := by kernel_rfl
theorem eqt23 : eqTy Try.prog 23 2 = true := by kernel_rfl
theorem eqt24 : eqTy Try.prog 24 2 = true := by kernel_rfl
theorem eqt25 : eqTy Try.prog 25 4 = true := by kernel_rfl
theorem eqt26 : eqTy Try.prog 26 4 = true := by kernel_rfl
theorem eqt41 : eqTy Try.prog 41 5 = true := by kernel_rfl
theorem eqt42 : eqTy Try.prog 42 5 = true := by kernel_rfl
theorem eqt81 : eqTy Try.prog 81 4 = true := by kernel_rfl
theorem eqt82 : eqTy Try.prog 82 4 = true := by kernel_rfl
theorem eqt101 : eqTy Try.prog 101 0 = true := by kernel_rfl
theorem eqt102 : eqTy Try.prog 102 0 = true := by kernel_rfl
theorem eqt103 : eqTy Try.prog 103 0 = true := by kernel_rfl
theorem eqt107 : eqTy Try.prog 107 2 = true := by kernel_rfl
theorem eqt108 : eqTy Try.prog 108 2 = true := by kernel_rfl
theorem eqt116 : eqTy Try.prog 116 0 = true := by kernel_rfl
theorem eqt135 : eqTy Try.prog 135 3 = true := by kernel_rfl
theorem eqt136 : eqTy Try.prog 136 3 = true := by kernel_rfl
theorem ft7_0 : fieldTy Try.prog 7 0 = some (0, 1, false) := by kernel_rfl
theorem ft7_1 : fieldTy Try.prog 7 1 = some (1, 1, false) := by kernel_rfl
theorem ft7_2 : fieldTy Try.prog 7 2 = some (2, 1, false) := by kernel_rfl
theorem ft7_3 : fieldTy Try.prog 7 3 = some (3, 1, false) := by kernel_rfl
theorem ft8_0 : fieldTy Try.prog 8 0 = some (0, 1, false) := by kernel_rfl
theorem ft8_1 : fieldTy Try.prog 8 1 = some (1, 1, false) := by kernel_rfl
theorem ft8_2 : fieldTy Try.prog 8 2 = some (2, 1, false) := by kernel_rfl
theorem ft8_3 : fieldTy Try.prog 8 3 = some (3, 1, false) := by kernel_rfl
theorem ft13_0 : fieldTy Try.prog 13 0 = some (0, 1, false) := by kernel_rfl
theorem ft13_1 : fieldTy Try.prog 13 1 = some (1, 1, false) := by kernel_rfl
theorem ft14_0 : fieldTy Try.prog 14 0 = some (0, 1, false) := by kernel_rfl
theorem ft14_1 : fieldTy Try.prog 14 1 = some (1, 1, false) := by kernel_rfl
theorem ft18_0 : fieldTy Try.prog 18 0 = some (0, 1, false) := by kernel_rfl
theorem ft19_0 : fieldTy Try.prog 19 0 = some (0, 1, false) := by kernel_rfl
theorem ft25_0 : fieldTy Try.prog 25 0 = some (0, 2, true) := by kernel_rfl
theorem ft25_1 : fieldTy Try.prog 25 1 = some (2, 1, false) := by kernel_rfl
theorem ft25_2 : fieldTy Try.prog 25 2 = some (3, 1, false) := by kernel_rfl
theorem ft26_0 : fieldTy Try.prog 26 0 = some (0, 2, true) := by kernel_rfl
theorem ft26_1 : fieldTy Try.prog 26 1 = some (2, 1, false) := by kernel_rfl
theorem ft26_2 : fieldTy Try.prog 26 2 = some (3, 1, false) := by kernel_rfl
theorem ft41_0 : fieldTy Try.prog 41 0 = some (0, 1, false) := by kernel_rfl
theorem ft41_1 : fieldTy Try.prog 41 1 = some (1, 1, false) := by kernel_rfl
theorem ft41_2 : fieldTy Try.prog 41 2 = some (2, 2, true) := by kernel_rfl
theorem ft41_3 : fieldTy Try.prog 41 3 = some (4, 1, false) := by kernel_rfl
theorem ft42_0 : fieldTy Try.prog 42 0 = some (0, 1, false) := by kernel_rfl
theorem ft42_1 : fieldTy Try.prog 42 1 = some (1, 1, false) := by kernel_rfl
theorem ft42_2 : fieldTy Try.prog 42 2 = some (2, 2, true) := by kernel_rfl
theorem ft42_3 : fieldTy Try.prog 42 3 = some (4, 1, false) := by kernel_rfl
theorem ft54_0 : fieldTy Try.prog 54 0 = some (0, 1, false) := by kernel_rfl
theorem ft54_1 : fieldTy Try.prog 54 1 = some (1, 1, false) := by kernel_rfl
theorem ft54_2 : fieldTy Try.prog 54 2 = some (2, 1, false) := by kernel_rfl
theorem ft54_3 : fieldTy Try.prog 54 3 = some (3, 1, false) := by kernel_rfl
theorem ft54_4 : fieldTy Try.prog 54 4 = some (4, 1, false) := by kernel_rfl
theorem ft55_0 : fieldTy Try.prog 55 0 = some (0, 1, false) := by kernel_rfl
theorem ft55_1 : fieldTy Try.prog 55 1 = some (1, 1, false) := by kernel_rfl
theorem ft55_2 : fieldTy Try.prog 55 2 = some (2, 1, false) := by kernel_rfl
theorem ft55_3 : fieldTy Try.prog 55 3 = some (3, 1, false) := by kernel_rfl
theorem ft55_4 : fieldTy Try.prog 55 4 = some (4, 1, false) := by kernel_rfl
theorem ft74_0 : fieldTy Try.prog 74 0 = some (0, 1, false) := by kernel_rfl
theorem ft74_1 : fieldTy Try.prog 74 1 = some (1, 1, false) := by kernel_rfl
theorem ft75_0 : fieldTy Try.prog 75 0 = some (0, 1, false) := by kernel_rfl
theorem ft75_1 : fieldTy Try.prog 75 1 = some (1, 1, false) := by kernel_rfl
theorem ft81_0 : fieldTy Try.prog 81 0 = some (0, 1, false) := by kernel_rfl
theorem ft81_1 : fieldTy Try.prog 81 1 = some (1, 1, false) := by kernel_rfl
theorem ft81_2 : fieldTy Try.prog 81 2 = some (2, 2, true) := by kernel_rfl
theorem ft82_0 : fieldTy Try.prog 82 0 = some (0, 1, false) := by kernel_rfl
theorem ft82_1 : fieldTy Try.prog 82 1 = some (1, 1, false) := by kernel_rfl
theorem ft82_2 : fieldTy Try.prog 82 2 = some (2, 2, true) := by kernel_rfl
theorem ft105_1 : fieldTy Try.prog 105 1 = some (0, 1, false) := by kernel_rfl
theorem ft106_1 : fieldTy Try.prog 106 1 = some (0, 1, false) := by kernel_rfl
theorem ft107_0 : fieldTy Try.prog 107 0 = some (0, 1, false) := by kernel_rfl
theorem ft107_1 : fieldTy Try.prog 107 1 = some (1, 1, false) := by kernel_rfl
theorem ft108_0 : fieldTy Try.prog 108 0 = some (0, 1, false) := by kernel_rfl
theorem ft108_1 : fieldTy Try.prog 108 1 = some (1, 1, false) := by kernel_rfl
theorem ft109_1 : fieldTy Try.prog 109 1 = some (0, 2, true) := by kernel_rfl
theorem ft110_1 : fieldTy Try.prog 110 1 = some (0, 2, true) := by kernel_rfl
theorem ft111_1 : fieldTy Try.prog 111 1 = some (0, 1, true) := by kernel_rfl
theorem ft111_2 : fieldTy Try.prog 111 2 = some (1, 2, true) := by kernel_rfl
theorem ft112_1 : fieldTy Try.prog 112 1 = some (0, 1, true) := by kernel_rfl
theorem ft112_2 : fieldTy Try.prog 112 2 = some (1, 2, true) := by kernel_rfl
theorem ft113_0 : fieldTy Try.prog 113 0 = some (0, 3, true) := by kernel_rfl
theorem ft113_1 : fieldTy Try.prog 113 1 = some (3, 1, false) := by kernel_rfl
theorem ft113_2 : fieldTy Try.prog 113 2 = some (4, 1, false) := by kernel_rfl
theorem ft114_0 : fieldTy Try.prog 114 0 = some (0, 3, true) := by kernel_rfl
theorem ft114_1 : fieldTy Try.prog 114 1 = some (3, 1, false) := by kernel_rfl
theorem ft114_2 : fieldTy Try.prog 114 2 = some (4, 1, false) := by kernel_rfl
theorem ft117_2 : fieldTy Try.prog 117 2 = some (0, 1, false) := by kernel_rfl
theorem ft118_2 : fieldTy Try.prog 118 2 = some (0, 1, false) := by kernel_rfl
theorem ft119_0 : fieldTy Try.prog 119 0 = some (0, 1, false) := by kernel_rfl
theorem ft119_1 : fieldTy Try.prog 119 1 = some (1, 1, false) := by kernel_rfl
theorem ft119_2 : fieldTy Try.prog 119 2 = some (2, 50, true) := by kernel_rfl
theorem ft119_3 : fieldTy Try.prog 119 3 = some (52, 1, true) := by kernel_rfl
theorem ft120_0 : fieldTy Try.prog 120 0 = some (0, 1, false) := by kernel_rfl
theorem ft120_1 : fieldTy Try.prog 120 1 = some (1, 1, false) := by kernel_rfl
theorem ft120_2 : fieldTy Try.prog 120 2 = some (2, 50, true) := by kernel_rfl
theorem ft120_3 : fieldTy Try.prog 120 3 = some (52, 1, true) := by kernel_rfl
theorem ft135_0 : fieldTy Try.prog 135 0 = some (0, 1, false) := by kernel_rfl
theorem ft135_1 : fieldTy Try.prog 135 1 = some (1, 2, true) := by kernel_rfl
theorem ft136_0 : fieldTy Try.prog 136 0 = some (0, 1, false) := by kernel_rfl
theorem ft136_1 : fieldTy Try.prog 136 1 = some (1, 2, true) := by kernel_rfl
theorem ft148_0 : fieldTy Try.prog 148 0 = some (0, 2, true) := by kernel_rfl
theorem ft148_1 : fieldTy Try.prog 148 1 = some (2, 1, false) := by kernel_rfl
theorem ft148_2 : fieldTy Try.prog 148 2 = some (3, 1, false) := by kernel_rfl
theorem ft148_3 : fieldTy Try.prog 148 3 = some (4, 1, false) := by kernel_rfl
theorem ft148_4 : fieldTy Try.prog 148 4 = some (5, 1, false) := by kernel_rfl
theorem ft149_0 : fieldTy Try.prog 149 0 = some (0, 2, true) := by kernel_rfl
theorem ft149_1 : fieldTy Try.prog 149 1 = some (2, 1, false) := by kernel_rfl
theorem ft149_2 : fieldTy Try.prog 149 2 = some (3, 1, false) := by kernel_rfl
theorem ft149_3 : fieldTy Try.prog 149 3 = some (4, 1, false) := by kernel_rfl
theorem ft149_4 : fieldTy Try.prog 149 4 = some (5, 1, false) := by kernel_rfl
theorem ft207_0 : fieldTy Try.prog 207 0 = some (0, 1, false) := by kernel_rfl
theorem ft207_1 : fieldTy Try.prog 207 1 = some (1, 1, false) := by kernel_rfl
theorem ft207_2 : fieldTy Try.prog 207 2 = some (2, 1, false) := by kernel_rfl
theorem ft207_3 : fieldTy Try.prog 207 3 = some (3, 1, false) := by kernel_rfl
theorem ft208_0 : fieldTy Try.prog 208 0 = some (0, 1, false) := by kernel_rfl
theorem ft208_1 : fieldTy Try.prog 208 1 = some (1, 1, false) := by kernel_rfl
theorem ft208_2 : fieldTy Try.prog 208 2 = some (2, 1, false) := by kernel_rfl
theorem ft208_3 : fieldTy Try.prog 208 3 = some (3, 1, false) := by kernel_rfl
theorem ft219_0 : fieldTy Try.prog 219 0 = some (0, 1, false) := by kernel_rfl
theorem ft219_1 : fieldTy Try.prog 219 1 = some (1, 1, false) := by kernel_rfl
theorem ft219_2 : fieldTy Try.prog 219 2 = some (2, 1, false) := by kernel_rfl
theorem ft219_3 : fieldTy Try.prog 219 3 = some (3, 1, false) := by kernel_rfl
theorem ft219_4 : fieldTy Try.prog 219 4 = some (4, 1, false) := by kernel_rfl
theorem ft219_5 : fieldTy Try.prog 219 5 = some (5, 1, false) := by kernel_rfl
theorem ft219_6 : fieldTy Try.prog 219 6 = some (6, 1, false) := by kernel_rfl
theorem ft219_7 : fieldTy Try.prog 219 7 = some (7, 1, false) := by kernel_rfl
theorem ft219_8 : fieldTy Try.prog 219 8 = some (8, 1, false) := by kernel_rfl
theorem ft219_9 : fieldTy Try.prog 219 9 = some (9, 1, false) := by kernel_rfl
theorem ft219_10 : fieldTy Try.prog 219 10 = some (10, 1, false) := by kernel_rfl
theorem mt91 : mapTy Try.prog 91 = some (24, 3, 2, true) := by kernel_rfl
theorem mt132 : mapTy Try.prog 132 = some (3, 4, 1, false) := by kernel_rfl
theorem mt147 : mapTy Try.prog 147 = some (82, 4, 4, true) := by kernel_rfl
theorem mt169 : mapTy Try.prog 169 = some (24, 4, 2, true) := by kernel_rfl
theorem st27 : slTy Try.prog 27 = some (5, 40) := by kernel_rfl
theorem st31 : slTy Try.prog 31 = some (2, 16) := by kernel_rfl
theorem st49 : slTy Try.prog 49 = some (1, 8) := by kernel_rfl
theorem st52 : slTy Try.prog 52 = some (1, 1) := by kernel_rfl
theorem st68 : slTy Try.prog 68 = some (4, 32) := by kernel_rfl
theorem st98 : slTy Try.prog 98 = some (1, 8) := by kernel_rfl
theorem vt0 : varTy Try.prog 0 = some (1, false) := by kernel_rfl
theorem vt1 : varTy Try.prog 1 = some (1, false) := by kernel_rfl
theorem vt2 : varTy Try.prog 2 = some (1, false) := by kernel_rfl
theorem vt3 : varTy Try.prog 3 = some (1, false) := by kernel_rfl
theorem vt4 : varTy Try.prog 4 = some (1, false) := by kernel_rfl
theorem vt5 : varTy Try.prog 5 = some (1, false) := by kernel_rfl
theorem vt6 : varTy Try.prog 6 = some (1, false) := by kernel_rfl
theorem vt7 : varTy Try.prog 7 = some (4, true) := by kernel_rfl
theorem vt8 : varTy Try.prog 8 = some (4, true) := by kernel_rfl
theorem vt9 : varTy Try.prog 9 = some (1, false) := by kernel_rfl
theorem vt10 : varTy Try.prog 10 = some (1, false) := by kernel_rfl
theorem vt11 : varTy Try.prog 11 = some (1, false) := by kernel_rfl
theorem vt12 : varTy Try.prog 12 = some (1, false) := by kernel_rfl
theorem vt13 : varTy Try.prog 13 = some (2, true) := by kernel_rfl
theorem vt14 : varTy Try.prog 14 = some (2, true) := by kernel_rfl
theorem vt15 : varTy Try.prog 15 = some (1, false) := by kernel_rfl
theorem vt16 : varTy Try.prog 16 = some (1, false) := by kernel_rfl
theorem vt17 : varTy Try.prog 17 = some (1, false) := by kernel_rfl
theorem vt18 : varTy Try.prog 18 = some (1, true) := by kernel_rfl
theorem vt19 : varTy Try.prog 19 = some (1, true) := by kernel_rfl
theorem vt20 : varTy Try.prog 20 = some (1, false) := by kernel_rfl
theorem vt21 : varTy Try.prog 21 = some (1, false) := by kernel_rfl
theorem vt22 : varTy Try.prog 22 = some (1, false) := by kernel_rfl
theorem vt23 : varTy Try.prog 23 = some (2, true) := by kernel_rfl
theorem vt24 : varTy Try.prog 24 = some (2, true) := by kernel_rfl
theorem vt25 : varTy Try.prog 25 = some (4, true) := by kernel_rfl
theorem vt26 : varTy Try.prog 26 = some (4, true) := by kernel_rfl
theorem vt27 : varTy Try.prog 27 = some (1, false) := by kernel_rfl
theorem vt28 : varTy Try.prog 28 = some (1, false) := by kernel_rfl
theorem vt29 : varTy Try.prog 29 = some (1, false) := by kernel_rfl
theorem vt30 : varTy Try.prog 30 = some (1, false) := by kernel_rfl
theorem vt31 : varTy Try.prog 31 = some (1, false) := by kernel_rfl
theorem vt32 : varTy Try.prog 32 = some (1, false) := by kernel_rfl
theorem vt33 : varTy Try.prog 33 = some (1, false) := by kernel_rfl
theorem vt34 : varTy Try.prog 34 = some (1, false) := by kernel_rfl
theorem vt35 : varTy Try.prog 35 = some (1, false) := by kernel_rfl
theorem vt36 : varTy Try.prog 36 = some (1, false) := by kernel_rfl
theorem vt37 : varTy Try.prog 37 = some (1, false) := by kernel_rfl
theorem vt38 : varTy Try.prog 38 = some (1, false) := by kernel_rfl
theorem vt39 : varTy Try.prog 39 = some (1, false) := by kernel_rfl
theorem vt40 : varTy Try.prog 40 = some (1, false) := by kernel_rfl
theorem vt41 : varTy Try.prog 41 = some (5, true) := by kernel_rfl
theorem vt42 : varTy Try.prog 42 = some (5, true) := by kernel_rfl
theorem vt43 : varTy Try.prog 43 = some (1, false) := by kernel_rfl
theorem vt44 : varTy Try.prog 44 = some (1, false) := by kernel_rfl
theorem vt45 : varTy Try.prog 45 = some (1, false) := by kernel_rfl
theorem vt46 : varTy Try.prog 46 = some (1, false) := by kernel_rfl
theorem vt47 : varTy Try.prog 47 = some (1, false) := by kernel_rfl
theorem vt48 : varTy Try.prog 48 = some (1, false) := by kernel_rfl
theorem vt49 : varTy Try.prog 49 = some (1, false) := by kernel_rfl
theorem vt50 : varTy Try.prog 50 = some (1, false) := by kernel_rfl
theorem vt51 : varTy Try.prog 51 = some (1, false) := by kernel_rfl
theorem vt52 : varTy Try.prog 52 = some (1, false) := by kernel_rfl
theorem vt53 : varTy Try.prog 53 = some (1, false) := by kernel_rfl
theorem vt54 : varTy Try.prog 54 = some (5, true) := by kernel_rfl
theorem vt55 : varTy Try.prog 55 = some (5, true) := by kernel_rfl
theorem vt56 : varTy Try.prog 56 = some (1, false) := by kernel_rfl
theorem vt57 : varTy Try.prog 57 = some (1, false) := by kernel_rfl
theorem vt58 : varTy Try.prog 58 = some (1, false) := by kernel_rfl
theorem vt59 : varTy Try.prog 59 = some (1, false) := by kernel_rfl
theorem vt60 : varTy Try.prog 60 = some (1, false) := by kernel_rfl
theorem vt61 : varTy Try.prog 61 = some (1, false) := by kernel_rfl
theorem vt62 : varTy Try.prog 62 = some (1, false) := by kernel_rfl
theorem vt63 : varTy Try.prog 63 = some (1, false) := by kernel_rfl
theorem vt64 : varTy Try.prog 64 = some (1, false) := by kernel_rfl
theorem vt65 : varTy Try.prog 65 = some (1, false) := by kernel_rfl
theorem vt66 : varTy Try.prog 66 = some (1, false) := by kernel_rfl
theorem vt67 : varTy Try.prog 67 = some (1, false) := by kernel_rfl
theorem vt68 : varTy Try.prog 68 = some (1, false) := by kernel_rfl
theorem vt69 : varTy Try.prog 69 = some (1, false) := by kernel_rfl
theorem vt70 : varTy Try.prog 70 = some (1, false) := by kernel_rfl
theorem vt71 : varTy Try.prog 71 = some (1, false) := by kernel_rfl
theorem vt72 : varTy Try.prog 72 = some (1, false) := by kernel_rfl
theorem vt73 : varTy Try.prog 73 = some (1, false) := by kernel_rfl
theorem vt74 : varTy Try.prog 74 = some (2, true) := by kernel_rfl
theorem vt75 : varTy Try.prog 75 = some (2, true) := by kernel_rfl
theorem vt76 : varTy Try.prog 76 = some (1, false) := by kernel_rfl
theorem vt77 : varTy Try.prog 77 = some (1, false) := by kernel_rfl
theorem vt78 : varTy Try.prog 78 = some (1, false) := by kernel_rfl
theorem vt79 : varTy Try.prog 79 = some (1, false) := by kernel_rfl
theorem vt80 : varTy Try.prog 80 = some (1, false) := by kernel_rfl
theorem vt81 : varTy Try.prog 81 = some (4, true) := by kernel_rfl
theorem vt82 : varTy Try.prog 82 = some (4, true) := by kernel_rfl
theorem vt83 : varTy Try.prog 83 = some (1, false) := by kernel_rfl
theorem vt84 : varTy Try.prog 84 = some (1, false) := by kernel_rfl
theorem vt85 : varTy Try.prog 85 = some (1, false) := by kernel_rfl
theorem vt86 : varTy Try.prog 86 = some (1, false) := by kernel_rfl
theorem vt87 : varTy Try.prog 87 = some (1, false) := by kernel_rfl
theorem vt88 : varTy Try.prog 88 = some (1, false) := by kernel_rfl
theorem vt89 : varTy Try.prog 89 = some (1, false) := by kernel_rfl
theorem vt90 : varTy Try.prog 90 = some (1, false) := by kernel_rfl
theorem vt91 : varTy Try.prog 91 = some (1, false) := by kernel_rfl
theorem vt92 : varTy Try.prog 92 = some (1, false) := by kernel_rfl
theorem vt93 : varTy Try.prog 93 = some (1, false) := by kernel_rfl
theorem vt94 : varTy Try.prog 94 = some (1, false) := by kernel_rfl
theorem vt95 : varTy Try.prog 95 = some (1, false) := by kernel_rfl
theorem vt96 : varTy Try.prog 96 = some (1, false) := by kernel_rfl
theorem vt97 : varTy Try.prog 97 = some (1, false) := by kernel_rfl
theorem vt98 : varTy Try.prog 98 = some (1, false) := by kernel_rfl
theorem vt99 : varTy Try.prog 99 = some (1, false) := by kernel_rfl
theorem vt100 : varTy Try.prog 100 = some (1, false) := by kernel_rfl
theorem vt101 : varTy Try.prog 101 = some (0, true) := by kernel_rfl
theorem vt102 : varTy Try.prog 102 = some (0, true) := by kernel_rfl
theorem vt103 : varTy Try.prog 103 = some (0, true) := by kernel_rfl
theorem vt104 : varTy Try.prog 104 = some (1, false) := by kernel_rfl
theorem vt105 : varTy Try.prog 105 = some (1, true) := by kernel_rfl
theorem vt106 : varTy Try.prog 106 = some (1, true) := by kernel_rfl
theorem vt107 : varTy Try.prog 107 = some (2, true) := by kernel_rfl
theorem vt108 : varTy Try.prog 108 = some (2, true) := by kernel_rfl
theorem vt109 : varTy Try.prog 109 = some (2, true) := by kernel_rfl
theorem vt110 : varTy Try.prog 110 = some (2, true) := by kernel_rfl
theorem vt111 : varTy Try.prog 111 = some (3, true) := by kernel_rfl
theorem vt112 : varTy Try.prog 112 = some (3, true) := by kernel_rfl
theorem vt113 : varTy Try.prog 113 = some (5, true) := by kernel_rfl
theorem vt114 : varTy Try.prog 114 = some (5, true) := by kernel_rfl
theorem vt115 : varTy Try.prog 115 = some (50, true) := by kernel_rfl
theorem vt116 : varTy Try.prog 116 = some (0, true) := by kernel_rfl
theorem vt117 : varTy Try.prog 117 = some (1, true) := by kernel_rfl
theorem vt118 : varTy Try.prog 118 = some (1, true) := by kernel_rfl
theorem vt119 : varTy Try.prog 119 = some (53, true) := by kernel_rfl
theorem vt120 : varTy Try.prog 120 = some (53, true) := by kernel_rfl
theorem vt121 : varTy Try.prog 121 = some (1, false) := by kernel_rfl
theorem vt122 : varTy Try.prog 122 = some (1, false) := by kernel_rfl
theorem vt123 : varTy Try.prog 123 = some (1, false) := by kernel_rfl
theorem vt124 : varTy Try.prog 124 = some (1, false) := by kernel_rfl
theorem vt125 : varTy Try.prog 125 = some (1, false) := by kernel_rfl
theorem vt126 : varTy Try.prog 126 = some (1, false) := by kernel_rfl
theorem vt127 : varTy Try.prog 127 = some (1, false) := by kernel_rfl
theorem vt128 : varTy Try.prog 128 = some (1, false) := by kernel_rfl
theorem vt129 : varTy Try.prog 129 = some (1, false) := by kernel_rfl
theorem vt130 : varTy Try.prog 130 = some (1, false) := by kernel_rfl
theorem vt131 : varTy Try.prog 131 = some (1, false) := by kernel_rfl
theorem vt132 : varTy Try.prog 132 = some (1, false) := by kernel_rfl
theorem vt133 : varTy Try.prog 133 = some (1, false) := by kernel_rfl
theorem vt134 : varTy Try.prog 134 = some (1, false) := by kernel_rfl
theorem vt135 : varTy Try.prog 135 = some (3, true) := by kernel_rfl
theorem vt136 : varTy Try.prog 136 = some (3, true) := by kernel_rfl
theorem vt137 : varTy Try.prog 137 = some (1, false) := by kernel_rfl
theorem vt138 : varTy Try.prog 138 = some (1, false) := by kernel_rfl
theorem vt139 : varTy Try.prog 139 = some (1, false) := by kernel_rfl
theorem vt140 : varTy Try.prog 140 = some (1, false) := by kernel_rfl
theorem vt141 : varTy Try.prog 141 = some (1, false) := by kernel_rfl
theorem vt142 : varTy Try.prog 142 = some (1, false) := by kernel_rfl
theorem vt143 : varTy Try.prog 143 = some (1, false) := by kernel_rfl
theorem vt144 : varTy Try.prog 144 = some (1, false) := by kernel_rfl
theorem vt145 : varTy Try.prog 145 = some (1, false) := by kernel_rfl
theorem vt146 : varTy Try.prog 146 = some (1, false) := by kernel_rfl
theorem vt147 : varTy Try.prog 147 = some (1, false) := by kernel_rfl
theorem vt148 : varTy Try.prog 148 = some (6, true) := by kernel_rfl
theorem vt149 : varTy Try.prog 149 = some (6, true) := by kernel_rfl
theorem vt150 : varTy Try.prog 150 = some (1, false) := by kernel_rfl
theorem vt151 : varTy Try.prog 151 = some (1, false) := by kernel_rfl
theorem vt152 : varTy Try.prog 152 = some (1, false) := by kernel_rfl
theorem vt153 : varTy Try.prog 153 = some (1, false) := by kernel_rfl
theorem vt154 : varTy Try.prog 154 = some (1, false) := by kernel_rfl
theorem vt155 : varTy Try.prog 155 = some (1, false) := by kernel_rfl
theorem vt156 : varTy Try.prog 156 = some (1, false) := by kernel_rfl
theorem vt157 : varTy Try.prog 157 = some (1, false) := by kernel_rfl
theorem vt158 : varTy Try.prog 158 = some (1, false) := by kernel_rfl
theorem vt159 : varTy Try.prog 159 = some (1, false) := by kernel_rfl
theorem vt160 : varTy Try.prog 160 = some (1, false) := by kernel_rfl
theorem vt161 : varTy Try.prog 161 = some (1, false) := by kernel_rfl
theorem vt162 : varTy Try.prog 162 = some (1, false) := by kernel_rfl
theorem vt163 : varTy Try.prog 163 = some (1, false) := by kernel_rfl
theorem vt164 : varTy Try.prog 164 = some (1, false) := by kernel_rfl
theorem vt165 : varTy Try.prog 165 = some (1, false) := by kernel_rfl
theorem vt166 : varTy Try.prog 166 = some (1, false) := by kernel_rfl
theorem vt167 : varTy Try.prog 167 = some (1, false) := by kernel_rfl
theorem vt168 : varTy Try.prog 168 = some (1, false) := by kernel_rfl
theorem vt169 : varTy Try.prog 169 = some (1, false) := by kernel_rfl
theorem vt170 : varTy Try.prog 170 = some (1, false) := by kernel_rfl
theorem vt171 : varTy Try.prog 171 = some (1, false) := by kernel_rfl
theorem vt172 : varTy Try.prog 172 = some (1, false) := by kernel_rfl
theorem vt173 : varTy Try.prog 173 = some (1, false) := by kernel_rfl
theorem vt174 : varTy Try.prog 174 = some (1, false) := by kernel_rfl
theorem vt175 : varTy Try.prog 175 = some (1, false) := by kernel_rfl
theorem vt176 : varTy Try.prog 176 = some (1, false) := by kernel_rfl
theorem vt177 : varTy Try.prog 177 = some (1, false) := by kernel_rfl
theorem vt178 : varTy Try.prog 178 = some (1, false) := by kernel_rfl
theorem vt179 : varTy Try.prog 179 = some (1, false) := by kernel_rfl
theorem vt180 : varTy Try.prog 180 = some (1, false) := by kernel_rfl
theorem vt181 : varTy Try.prog 181 = some (1, false) := by kernel_rfl
theorem vt182 : varTy Try.prog 182 = some (1, false) := by kernel_rfl
theorem vt183 : varTy Try.prog 183 = some (1, false) := by kernel_rfl
theorem vt184 : varTy Try.prog 184 = some (1, false) := by kernel_rfl
theorem vt185 : varTy Try.prog 185 = some (1, false) := by kernel_rfl
theorem vt186 : varTy Try.prog 186 = some (1, false) := by kernel_rfl
theorem vt187 : varTy Try.prog 187 = some (1, false) := by kernel_rfl
theorem vt188 : varTy Try.prog 188 = some (1, false) := by kernel_rfl
theorem vt189 : varTy Try.prog 189 = some (1, false) := by kernel_rfl
theorem vt190 : varTy Try.prog 190 = some (1, false) := by kernel_rfl
theorem vt191 : varTy Try.prog 191 = some (1, false) := by kernel_rfl
theorem vt192 : varTy Try.prog 192 = some (1, false) := by kernel_rfl
theorem vt193 : varTy Try.prog 193 = some (1, false) := by kernel_rfl
theorem vt194 : varTy Try.prog 194 = some (1, false) := by kernel_rfl
theorem vt195 : varTy Try.prog 195 = some (1, false) := by kernel_rfl
theorem vt196 : varTy Try.prog 196 = some (1, false) := by kernel_rfl
theorem vt197 : varTy Try.prog 197 = some (1, false) := by kernel_rfl
theorem vt198 : varTy Try.prog 198 = some (1, false) := by kernel_rfl
theorem vt199 : varTy Try.prog 199 = some (1, false) := by kernel_rfl
theorem vt200 : varTy Try.prog 200 = some (1, false) := by kernel_rfl
theorem vt201 : varTy Try.prog 201 = some (1, false) := by kernel_rfl
theorem vt202 : varTy Try.prog 202 = some (1, false) := by kernel_rfl
theorem vt203 : varTy Try.prog 203 = some (1, false) := by kernel_rfl
theorem vt204 : varTy Try.prog 204 = some (1, false) := by kernel_rfl
theorem vt205 : varTy Try.prog 205 = some (1, false) := by kernel_rfl
theorem vt206 : varTy Try.prog 206 = some (1, false) := by kernel_rfl
theorem vt207 : varTy Try.prog 207 = some (4, true) := by kernel_rfl
theorem vt208 : varTy Try.prog 208 = some (4, true) := by kernel_rfl
theorem vt209 : varTy Try.prog 209 = some (0, true) := by kernel_rfl
theorem vt210 : varTy Try.prog 210 = some (0, true) := by kernel_rfl
theorem vt211 : varTy Try.prog 211 = some (0, true) := by kernel_rfl
theorem vt212 : varTy Try.prog 212 = some (1, false) := by kernel_rfl
theorem vt213 : varTy Try.prog 213 = some (1, false) := by kernel_rfl
theorem vt214 : varTy Try.prog 214 = some (1, false) := by kernel_rfl
theorem vt215 : varTy Try.prog 215 = some (1, false) := by kernel_rfl
theorem vt216 : varTy Try.prog 216 = some (1, false) := by kernel_rfl
theorem vt217 : varTy Try.prog 217 = some (1, false) := by kernel_rfl
theorem vt218 : varTy Try.prog 218 = some (1, false) := by kernel_rfl
theorem vt219 : varTy Try.prog 219 = some (11, true) := by kernel_rfl
theorem zl1 : zeroL Try.prog 1 = some LV.any := by kernel_rfl
theorem zl2 : zeroL Try.prog 2 = some (LV.p (PV.int IntKind.i64 0)) := by kernel_rfl
theorem zl3 : zeroL Try.prog 3 = some (LV.p (PV.int IntKind.i64 0)) := by kernel_rfl
theorem zl4 : zeroL Try.prog 4 = some (LV.p (PV.bool false)) := by kernel_rfl
theorem zl5 : zeroL Try.prog 5 = some (LV.p (PV.int IntKind.u8 0)) := by kernel_rfl
theorem zl6 : zeroL Try.prog 6 = some (LV.p (PV.int IntKind.u8 0)) := by kernel_rfl
theorem zl7 : zeroL Try.prog 7 = some (LV.p (PV.agg [PV.int IntKind.i64 0, PV.int IntKind.i64 0, PV.bool false, PV.int IntKind.u8 0])) := by kernel_rfl
theorem zl8 : zeroL Try.prog 8 = some (LV.p (PV.agg [PV.int IntKind.i64 0, PV.int IntKind.i64 0, PV.bool false, PV.int IntKind.u8 0])) := by kernel_rfl
theorem zl12 : zeroL Try.prog 12 = some (LV.p (PV.int IntKind.u64 0)) := by kernel_rfl
theorem zl15 : zeroL Try.prog 15 = some LV.any := by kernel_rfl
theorem zl16 : zeroL Try.prog 16 = some LV.any := by kernel_rfl
theorem zl17 : zeroL Try.prog 17 = some LV.any := by kernel_rfl
theorem zl18 : zeroL Try.prog 18 = some (LV.agg [LV.any]) := by kernel_rfl
theorem zl19 : zeroL Try.prog 19 = some (LV.agg [LV.any]) := by kernel_rfl
theorem zl21 : zeroL Try.prog 21 = some (LV.p (PV.int IntKind.i32 0)) := by kernel_rfl
theorem zl22 : zeroL Try.prog 22 = some (LV.p (PV.int IntKind.u64 0)) := by kernel_rfl
theorem zl23 : zeroL Try.prog 23 = some (LV.p (PV.agg [PV.int IntKind.u64 0, PV.int IntKind.u64 0])) := by kernel_rfl
theorem zl24 : zeroL Try.prog 24 = some (LV.p (PV.agg [PV.int IntKind.u64 0, PV.int IntKind.u64 0])) := by kernel_rfl
theorem zl25 : zeroL Try.prog 25 = some (LV.p (PV.agg [PV.int IntKind.u64 0, PV.int IntKind.u64 0, PV.int IntKind.i64 0, PV.int IntKind.i64 0])) := by kernel_rfl
theorem zl26 : zeroL Try.prog 26 = some (LV.p (PV.agg [PV.int IntKind.u64 0, PV.int IntKind.u64 0, PV.int IntKind.i64 0, PV.int IntKind.i64 0])) := by kernel_rfl
theorem zl27 : zeroL Try.prog 27 = some LV.zs := by kernel_rfl
theorem zl28 : zeroL Try.prog 28 = some LV.any := by kernel_rfl
theorem zl29 : zeroL Try.prog 29 = some LV.any := by kernel_rfl
theorem zl30 : zeroL Try.prog 30 = some LV.any := by kernel_rfl
theorem zl31 : zeroL Try.prog 31 = some LV.zs := by kernel_rfl
theorem zl32 : zeroL Try.prog 32 = some LV.any := by kernel_rfl
theorem zl33 : zeroL Try.prog 33 = some LV.any := by kernel_rfl
theorem zl34 : zeroL Try.prog 34 = some LV.any := by kernel_rfl
theorem zl35 : zeroL Try.prog 35 = some LV.any := by kernel_rfl
theorem zl36 : zeroL Try.prog 36 = some LV.any := by kernel_rfl
theorem zl38 : zeroL Try.prog 38 = some LV.any := by kernel_rfl
theorem zl39 : zeroL Try.prog 39 = some LV.any := by kernel_rfl
theorem zl40 : zeroL Try.prog 40 = some LV.any := by kernel_rfl
theorem zl41 : zeroL Try.prog 41 = some (LV.p (PV.agg [PV.int IntKind.i64 0, PV.int IntKind.i64 0, PV.int IntKind.u64 0, PV.int IntKind.u64 0, PV.int IntKind.u64 0])) := by kernel_rfl
theorem zl42 : zeroL Try.prog 42 = some (LV.p (PV.agg [PV.int IntKind.i64 0, PV.int IntKind.i64 0, PV.int IntKind.u64 0, PV.int IntKind.u64 0, PV.int IntKind.u64 0])) := by kernel_rfl
theorem zl43 : zeroL Try.prog 43 = some LV.any := by kernel_rfl
theorem zl44 : zeroL Try.prog 44 = some LV.any := by kernel_rfl
theorem zl45 : zeroL Try.prog 45 = some LV.any := by kernel_rfl
theorem zl46 : zeroL Try.prog 46 = some LV.any := by kernel_rfl
theorem zl47 : zeroL Try.prog 47 = some LV.any := by kernel_rfl
theorem zl48 : zeroL Try.prog 48 = some LV.any := by kernel_rfl
theorem zl49 : zeroL Try.prog 49 = some LV.zs := by kernel_rfl
theorem zl50 : zeroL Try.prog 50 = some LV.any := by kernel_rfl
theorem zl51 : zeroL Try.prog 51 = some LV.any := by kernel_rfl
theorem zl52 : zeroL Try.prog 52 = some LV.zs := by kernel_rfl
theorem zl53 : zeroL Try.prog 53 = some LV.any := by kernel_rfl
theorem zl54 : zeroL Try.prog 54 = some (LV.agg [LV.zs, LV.p (PV.int IntKind.u64 0), LV.p (PV.int IntKind.i64 0), LV.p (PV.int IntKind.i64 0), LV.p (PV.int IntKind.i64 0)]) := by kernel_rfl
theorem zl55 : zeroL Try.prog 55 = some (LV.agg [LV.zs, LV.p (PV.int IntKind.u64 0), LV.p (PV.int IntKind.i64 0), LV.p (PV.int IntKind.i64 0), LV.p (PV.int IntKind.i64 0)]) := by kernel_rfl
theorem zl56 : zeroL Try.prog 56 = some LV.any := by kernel_rfl
theorem zl57 : zeroL Try.prog 57 = some LV.any := by kernel_rfl
theorem zl58 : zeroL Try.prog 58 = some LV.any := by kernel_rfl
theorem zl59 : zeroL Try.prog 59 = some LV.any := by kernel_rfl
theorem zl60 : zeroL Try.prog 60 = some LV.any := by kernel_rfl
theorem zl61 : zeroL Try.prog 61 = some LV.any := by kernel_rfl
theorem zl62 : zeroL Try.prog 62 = some LV.any := by kernel_rfl
theorem zl63 : zeroL Try.prog 63 = some LV.any := by kernel_rfl
theorem zl64 : zeroL Try.prog 64 = some LV.any := by kernel_rfl
theorem zl65 : zeroL Try.prog 65 = some LV.any := by kernel_rfl
theorem zl66 : zeroL Try.prog 66 = some LV.any := by kernel_rfl
theorem zl67 : zeroL Try.prog 67 = some LV.any := by kernel_rfl
theorem zl68 : zeroL Try.prog 68 = some LV.zs := by kernel_rfl
theorem zl69 : zeroL Try.prog 69 = some LV.any := by kernel_rfl
theorem zl71 : zeroL Try.prog 71 = some LV.any := by kernel_rfl
theorem zl72 : zeroL Try.prog 72 = some LV.any := by kernel_rfl
theorem zl73 : zeroL Try.prog 73 = some LV.any := by kernel_rfl
theorem zl74 : zeroL Try.prog 74 = some (LV.agg [LV.zs, LV.zs]) := by kernel_rfl
theorem zl75 : zeroL Try.prog 75 = some (LV.agg [LV.zs, LV.zs]) := by kernel_rfl
theorem zl76 : zeroL Try.prog 76 = some LV.any := by kernel_rfl
theorem zl77 : zeroL Try.prog 77 = some LV.any := by kernel_rfl
theorem zl78 : zeroL Try.prog 78 = some LV.any := by kernel_rfl
theorem zl79 : zeroL Try.prog 79 = some LV.any := by kernel_rfl
theorem zl80 : zeroL Try.prog 80 = some LV.any := by kernel_rfl
theorem zl81 : zeroL Try.prog 81 = some (LV.p (PV.agg [PV.int IntKind.i64 0, PV.int IntKind.i64 0, PV.int IntKind.u64 0, PV.int IntKind.u64 0])) := by kernel_rfl
theorem zl82 : zeroL Try.prog 82 = some (LV.p (PV.agg [PV.int IntKind.i64 0, PV.int IntKind.i64 0, PV.int IntKind.u64 0, PV.int IntKind.u64 0])) := by kernel_rfl
theorem zl83 : zeroL Try.prog 83 = some LV.any := by kernel_rfl
theorem zl84 : zeroL Try.prog 84 = some LV.any := by kernel_rfl
theorem zl86 : zeroL Try.prog 86 = some LV.any := by kernel_rfl
theorem zl87 : zeroL Try.prog 87 = some LV.any := by kernel_rfl
theorem zl88 : zeroL Try.prog 88 = some LV.any := by kernel_rfl
theorem zl89 : zeroL Try.prog 89 = some LV.any := by kernel_rfl
theorem zl90 : zeroL Try.prog 90 = some LV.any := by kernel_rfl
theorem zl91 : zeroL Try.prog 91 = some LV.nilmap := by kernel_rfl
theorem zl93 : zeroL Try.prog 93 = some LV.any := by kernel_rfl
theorem zl94 : zeroL Try.prog 94 = some LV.any := by kernel_rfl
theorem zl95 : zeroL Try.prog 95 = some LV.any := by kernel_rfl
theorem zl96 : zeroL Try.prog 96 = some LV.any := by kernel_rfl
theorem zl97 : zeroL Try.prog 97 = some LV.any := by kernel_rfl
theorem zl98 : zeroL Try.prog 98 = some LV.zs := by kernel_rfl
theorem zl99 : zeroL Try.prog 99 = some LV.any := by kernel_rfl
theorem zl100 : zeroL Try.prog 100 = some LV.any := by kernel_rfl
theorem zl101 : zeroL Try.prog 101 = some (LV.p (PV.agg [])) := by kernel_rfl
theorem zl102 : zeroL Try.prog 102 = some (LV.p (PV.agg [])) := by kernel_rfl
theorem zl103 : zeroL Try.prog 103 = some (LV.p (PV.agg [])) := by kernel_rfl
theorem zl104 : zeroL Try.prog 104 = some (LV.p (PV.int IntKind.u32 0)) := by kernel_rfl
theorem zl105 : zeroL Try.prog 105 = some (LV.p (PV.agg [PV.int IntKind.u32 0])) := by kernel_rfl
theorem zl106 : zeroL Try.prog 106 = some (LV.p (PV.agg [PV.int IntKind.u32 0])) := by kernel_rfl
theorem zl107 : zeroL Try.prog 107 = some (LV.p (PV.agg [PV.int IntKind.i32 0, PV.int IntKind.u32 0])) := by kernel_rfl
theorem zl108 : zeroL Try.prog 108 = some (LV.p (PV.agg [PV.int IntKind.i32 0, PV.int IntKind.u32 0])) := by kernel_rfl
theorem zl109 : zeroL Try.prog 109 = some (LV.p (PV.agg [PV.int IntKind.i32 0, PV.int IntKind.u32 0])) := by kernel_rfl
theorem zl110 : zeroL Try.prog 110 = some (LV.p (PV.agg [PV.int IntKind.i32 0, PV.int IntKind.u32 0])) := by kernel_rfl
theorem zl111 : zeroL Try.prog 111 = some (LV.p (PV.agg [PV.int IntKind.u32 0, PV.int IntKind.i32 0, PV.int IntKind.u32 0])) := by kernel_rfl
theorem zl112 : zeroL Try.prog 112 = some (LV.p (PV.agg [PV.int IntKind.u32 0, PV.int IntKind.i32 0, PV.int IntKind.u32 0])) := by kernel_rfl
theorem zl113 : zeroL Try.prog 113 = some (LV.p (PV.agg [PV.int IntKind.u32 0, PV.int IntKind.i32 0, PV.int IntKind.u32 0, PV.int IntKind.i64 0, PV.int IntKind.u64 0])) := by kernel_rfl
theorem zl114 : zeroL Try.prog 114 = some (LV.p (PV.agg [PV.int IntKind.u32 0, PV.int IntKind.i32 0, PV.int IntKind.u32 0, PV.int IntKind.i64 0, PV.int IntKind.u64 0])) := by kernel_rfl
theorem zl115 : zeroL Try.prog 115 = some (LV.p (PV.agg [PV.int IntKind.u32 0, PV.int IntKind.i32 0, PV.int IntKind.u32 0, PV.int IntKind.i64 0, PV.int IntKind.u64 0, PV.int IntKind.u32 0, PV.int IntKind.i32 0, PV.int IntKind.u32 0, PV.int IntKind.i64 0, PV.int IntKind.u64 0, PV.int IntKind.u32 0, PV.int IntKind.i32 0, PV.int IntKind.u32 0, PV.int IntKind.i64 0, PV.int IntKind.u64 0, PV.int IntKind.u32 0, PV.int IntKind.i32 0, PV.int IntKind.u32 0, PV.int IntKind.i64 0, PV.int IntKind.u64 0, PV.int IntKind.u32 0, PV.int IntKind.i32 0, PV.int IntKind.u32 0, PV.int IntKind.i64 0, PV.int IntKind.u64 0, PV.int IntKind.u32 0, PV.int IntKind.i32 0, PV.int IntKind.u32 0, PV.int IntKind.i64 0, PV.int IntKind.u64 0, PV.int IntKind.u32 0, PV.int IntKind.i32 0, PV.int IntKind.u32 0, PV.int IntKind.i64 0, PV.int IntKind.u64 0, PV.int IntKind.u32 0, PV.int IntKind.i32 0, PV.int IntKind.u32 0, PV.int IntKind.i64 0, PV.int IntKind.u64 0, PV.int IntKind.u32 0, PV.int IntKind.i32 0, PV.int IntKind.u32 0, PV.int IntKind.i64 0, PV.int IntKind.u64 0, PV.int IntKind.u32 0, PV.int IntKind.i32 0, PV.int IntKind.u32 0, PV.int IntKind.i64 0, PV.int IntKind.u64 0])) := by kernel_rfl
theorem zl116 : zeroL Try.prog 116 = some (LV.p (PV.agg [])) := by kernel_rfl
theorem zl117 : zeroL Try.prog 117 = some (LV.p (PV.agg [PV.int IntKind.i64 0])) := by kernel_rfl
theorem zl118 : zeroL Try.prog 118 = some (LV.p (PV.agg [PV.int IntKind.i64 0])) := by kernel_rfl
theorem zl119 : zeroL Try.prog 119 = some (LV.p (PV.agg [PV.int IntKind.u64 0, PV.int IntKind.i64 0, PV.int IntKind.u32 0, PV.int IntKind.i32 0, PV.int IntKind.u32 0, PV.int IntKind.i64 0, PV.int IntKind.u64 0, PV.int IntKind.u32 0, PV.int IntKind.i32 0, PV.int IntKind.u32 0, PV.int IntKind.i64 0, PV.int IntKind.u64 0, PV.int IntKind.u32 0, PV.int IntKind.i32 0, PV.int IntKind.u32 0, PV.int IntKind.i64 0, PV.int IntKind.u64 0, PV.int IntKind.u32 0, PV.int IntKind.i32 0, PV.int IntKind.u32 0, PV.int IntKind.i64 0, PV.int IntKind.u64 0, PV.int IntKind.u32 0, PV.int IntKind.i32 0, PV.int IntKind.u32 0, PV.int IntKind.i64 0, PV.int IntKind.u64 0, PV.int IntKind.u32 0, PV.int IntKind.i32 0, PV.int IntKind.u32 0, PV.int IntKind.i64 0, PV.int IntKind.u64 0, PV.int IntKind.u32 0, PV.int IntKind.i32 0, PV.int IntKind.u32 0, PV.int IntKind.i64 0, PV.int IntKind.u64 0, PV.int IntKind.u32 0, PV.int IntKind.i32 0, PV.int IntKind.u32 0, PV.int IntKind.i64 0, PV.int IntKind.u64 0, PV.int IntKind.u32 0, PV.int IntKind.i32 0, PV.int IntKind.u32 0, PV.int IntKind.i64 0, PV.int IntKind.u64 0, PV.int IntKind.u32 0, PV.int IntKind.i32 0, PV.int IntKind.u32 0, PV.int IntKind.i64 0, PV.int IntKind.u64 0, PV.int IntKind.i64 0])) := by kernel_rfl
theorem zl120 : zeroL Try.prog 120 = some (LV.p (PV.agg [PV.int IntKind.u64 0, PV.int IntKind.i64 0, PV.int IntKind.u32 0, PV.int IntKind.i32 0, PV.int IntKind.u32 0, PV.int IntKind.i64 0, PV.int IntKind.u64 0, PV.int IntKind.u32 0, PV.int IntKind.i32 0, PV.int IntKind.u32 0, PV.int IntKind.i64 0, PV.int IntKind.u64 0, PV.int IntKind.u32 0, PV.int IntKind.i32 0, PV.int IntKind.u32 0, PV.int IntKind.i64 0, PV.int IntKind.u64 0, PV.int IntKind.u32 0, PV.int IntKind.i32 0, PV.int IntKind.u32 0, PV.int IntKind.i64 0, PV.int IntKind.u64 0, PV.int IntKind.u32 0, PV.int IntKind.i32 0, PV.int IntKind.u32 0, PV.int IntKind.i64 0, PV.int IntKind.u64 0, PV.int IntKind.u32 0, PV.int IntKind.i32 0, PV.int IntKind.u32 0, PV.int IntKind.i64 0, PV.int IntKind.u64 0, PV.int IntKind.u32 0, PV.int IntKind.i32 0, PV.int IntKind.u32 0, PV.int IntKind.i64 0, PV.int IntKind.u64 0, PV.int IntKind.u32 0, PV.int IntKind.i32 0, PV.int IntKind.u32 0, PV.int IntKind.i64 0, PV.int IntKind.u64 0, PV.int IntKind.u32 0, PV.int IntKind.i32 0, PV.int IntKind.u32 0, PV.int IntKind.i64 0, PV.int IntKind.u64 0, PV.int IntKind.u32 0, PV.int IntKind.i32 0, PV.int IntKind.u32 0, PV.int IntKind.i64 0, PV.int IntKind.u64 0, PV.int IntKind.i64 0])) := by kernel_rfl
theorem zl121 : zeroL Try.prog 121 = some LV.any := by kernel_rfl
theorem zl122 : zeroL Try.prog 122 = some LV.any := by kernel_rfl
theorem zl123 : zeroL Try.prog 123 = some LV.any := by kernel_rfl
theorem zl124 : zeroL Try.prog 124 = some LV.any := by kernel_rfl
theorem zl125 : zeroL Try.prog 125 = some LV.any := by kernel_rfl
theorem zl126 : zeroL Try.prog 126 = some LV.any := by kernel_rfl
theorem zl127 : zeroL Try.prog 127 = some LV.any := by kernel_rfl
theorem zl128 : zeroL Try.prog 128 = some LV.any := by kernel_rfl
theorem zl129 : zeroL Try.prog 129 = some LV.any := by kernel_rfl
theorem zl130 : zeroL Try.prog 130 = some LV.any := by kernel_rfl
theorem zl131 : zeroL Try.prog 131 = some LV.any := by kernel_rfl
theorem zl132 : zeroL Try.prog 132 = some LV.nilmap := by kernel_rfl
theorem zl133 : zeroL Try.prog 133 = some LV.any := by kernel_rfl
theorem zl134 : zeroL Try.prog 134 = some LV.any := by kernel_rfl
theorem zl135 : zeroL Try.prog 135 = some (LV.p (PV.agg [PV.int IntKind.i64 0, PV.int IntKind.u64 0, PV.int IntKind.u64 0])) := by kernel_rfl
theorem zl136 : zeroL Try.prog 136 = some (LV.p (PV.agg [PV.int IntKind.i64 0, PV.int IntKind.u64 0, PV.int IntKind.u64 0])) := by kernel_rfl
theorem zl137 : zeroL Try.prog 137 = some LV.any := by kernel_rfl
theorem zl138 : zeroL Try.prog 138 = some LV.any := by kernel_rfl
theorem zl139 : zeroL Try.prog 139 = some LV.any := by kernel_rfl
theorem zl140 : zeroL Try.prog 140 = some LV.any := by kernel_rfl
theorem zl141 : zeroL Try.prog 141 = some LV.any := by kernel_rfl
theorem zl142 : zeroL Try.prog 142 = some LV.any := by kernel_rfl
theorem zl143 : zeroL Try.prog 143 = some LV.any := by kernel_rfl
theorem zl144 : zeroL Try.prog 144 = some LV.any := by kernel_rfl
theorem zl145 : zeroL Try.prog 145 = some LV.any := by kernel_rfl
theorem zl146 : zeroL Try.prog 146 = some LV.any := by kernel_rfl
theorem zl147 : zeroL Try.prog 147 = some LV.nilmap := by kernel_rfl
theorem zl148 : zeroL Try.prog 148 = some (LV.agg [LV.zs, LV.zs, LV.nilmap, LV.nilmap, LV.p (PV.int IntKind.i64 0), LV.p (PV.bool false)]) := by kernel_rfl
theorem zl149 : zeroL Try.prog 149 = some (LV.agg [LV.zs, LV.zs, LV.nilmap, LV.nilmap, LV.p (PV.int IntKind.i64 0), LV.p (PV.bool false)]) := by kernel_rfl
theorem zl150 : zeroL Try.prog 150 = some LV.any := by kernel_rfl
theorem zl151 : zeroL Try.prog 151 = some LV.any := by kernel_rfl
theorem zl152 : zeroL Try.prog 152 = some LV.any := by kernel_rfl
theorem zl153 : zeroL Try.prog 153 = some LV.any := by kernel_rfl
theorem zl154 : zeroL Try.prog 154 = some LV.any := by kernel_rfl
theorem zl155 : zeroL Try.prog 155 = some LV.any := by kernel_rfl
theorem zl156 : zeroL Try.prog 156 = some LV.any := by kernel_rfl
theorem zl157 : zeroL Try.prog 157 = some LV.any := by kernel_rfl
theorem zl158 : zeroL Try.prog 158 = some LV.any := by kernel_rfl
theorem zl159 : zeroL Try.prog 159 = some LV.any := by kernel_rfl
theorem zl160 : zeroL Try.prog 160 = some LV.any := by kernel_rfl
theorem zl161 : zeroL Try.prog 161 = some LV.any := by kernel_rfl
theorem zl162 : zeroL Try.prog 162 = some LV.any := by kernel_rfl
theorem zl163 : zeroL Try.prog 163 = some LV.any := by kernel_rfl
theorem zl164 : zeroL Try.prog 164 = some LV.any := by kernel_rfl
theorem zl165 : zeroL Try.prog 165 = some LV.any := by kernel_rfl
theorem zl166 : zeroL Try.prog 166 = some LV.any := by kernel_rfl
theorem zl167 : zeroL Try.prog 167 = some LV.any := by kernel_rfl
theorem zl168 : zeroL Try.prog 168 = some LV.any := by kernel_rfl
theorem zl169 : zeroL Try.prog 169 = some LV.nilmap := by kernel_rfl
theorem zl171 : zeroL Try.prog 171 = some LV.any := by kernel_rfl
theorem zl172 : zeroL Try.prog 172 = some LV.any := by kernel_rfl
theorem zl173 : zeroL Try.prog 173 = some LV.any := by kernel_rfl
theorem zl174 : zeroL Try.prog 174 = some LV.any := by kernel_rfl
theorem zl175 : zeroL Try.prog 175 = some LV.any := by kernel_rfl
theorem zl176 : zeroL Try.prog 176 = some LV.any := by kernel_rfl
theorem zl177 : zeroL Try.prog 177 = some LV.any := by kernel_rfl
theorem zl178 : zeroL Try.prog 178 = some LV.any := by kernel_rfl
theorem zl179 : zeroL Try.prog 179 = some LV.any := by kernel_rfl
theorem zl180 : zeroL Try.prog 180 = some LV.any := by kernel_rfl
theorem zl181 : zeroL Try.prog 181 = some LV.any := by kernel_rfl
theorem zl182 : zeroL Try.prog 182 = some (LV.p (PV.int IntKind.u64 0)) := by kernel_rfl
theorem zl183 : zeroL Try.prog 183 = some LV.any := by kernel_rfl
theorem zl184 : zeroL Try.prog 184 = some LV.any := by kernel_rfl
theorem zl185 : zeroL Try.prog 185 = some LV.any := by kernel_rfl
theorem zl186 : zeroL Try.prog 186 = some LV.any := by kernel_rfl
theorem zl187 : zeroL Try.prog 187 = some LV.any := by kernel_rfl
theorem zl188 : zeroL Try.prog 188 = some LV.any := by kernel_rfl
theorem zl189 : zeroL Try.prog 189 = some LV.any := by kernel_rfl
theorem zl190 : zeroL Try.prog 190 = some LV.any := by kernel_rfl
theorem zl191 : zeroL Try.prog 191 = some LV.any := by kernel_rfl
theorem zl192 : zeroL Try.prog 192 = some LV.any := by kernel_rfl
theorem zl193 : zeroL Try.prog 193 = some LV.any := by kernel_rfl
theorem zl194 : zeroL Try.prog 194 = some LV.any := by kernel_rfl
theorem zl195 : zeroL Try.prog 195 = some LV.any := by kernel_rfl
theorem zl196 : zeroL Try.prog 196 = some LV.any := by kernel_rfl
theorem zl197 : zeroL Try.prog 197 = some LV.any := by kernel_rfl
theorem zl198 : zeroL Try.prog 198 = some LV.any := by kernel_rfl
theorem zl199 : zeroL Try.prog 199 = some LV.any := by kernel_rfl
theorem zl200 : zeroL Try.prog 200 = some LV.any := by kernel_rfl
theorem zl201 : zeroL Try.prog 201 = some LV.any := by kernel_rfl
theorem zl202 : zeroL Try.prog 202 = some LV.any := by kernel_rfl
theorem zl203 : zeroL Try.prog 203 = some LV.any := by kernel_rfl
theorem zl204 : zeroL Try.prog 204 = some LV.any := by kernel_rfl
theorem zl205 : zeroL Try.prog 205 = some LV.any := by kernel_rfl
theorem zl206 : zeroL Try.prog 206 = some LV.any := by kernel_rfl
theorem zl209 : zeroL Try.prog 209 = some (LV.p (PV.agg [])) := by kernel_rfl
theorem zl210 : zeroL Try.prog 210 = some (LV.p (PV.agg [])) := by kernel_rfl
theorem zl211 : zeroL Try.prog 211 = some (LV.p (PV.agg [])) := by kernel_rfl
theorem zl212 : zeroL Try.prog 212 = some LV.any := by kernel_rfl
theorem zl213 : zeroL Try.prog 213 = some (LV.p (PV.int IntKind.u8 0)) := by kernel_rfl
theorem zl214 : zeroL Try.prog 214 = some (LV.p (PV.int IntKind.u8 0)) := by kernel_rfl
theorem zl215 : zeroL Try.prog 215 = some LV.any := by kernel_rfl
theorem zl216 : zeroL Try.prog 216 = some LV.any := by kernel_rfl
theorem zl217 : zeroL Try.prog 217 = some (LV.p (PV.int IntKind.i32 0)) := by kernel_rfl
theorem zl218 : zeroL Try.prog 218 = some (LV.p (PV.int IntKind.i32 0)) := by kernel_rfl
theorem zl219 : zeroL Try.prog 219 = some (LV.agg [LV.p (PV.int IntKind.u64 0), LV.p (PV.int IntKind.u64 0), LV.p (PV.int IntKind.u32 0), LV.p (PV.int IntKind.u8 0), LV.p (PV.int IntKind.u8 0), LV.p (PV.int IntKind.u8 0), LV.p (PV.int IntKind.u8 0), LV.any, LV.any, LV.p (PV.int IntKind.i32 0), LV.p (PV.int IntKind.i32 0)]) := by kernel_rfl
theorem zt1 : zeroTy Try.prog 1 = some [LV.any] := by kernel_rfl
theorem zt2 : zeroTy Try.prog 2 = some [LV.p (PV.int IntKind.i64 0)] := by kernel_rfl
theorem zt3 : zeroTy Try.prog 3 = some [LV.p (PV.int IntKind.i64 0)] := by kernel_rfl
theorem zt4 : zeroTy Try.prog 4 = some [LV.p (PV.bool false)] := by kernel_rfl
theorem zt5 : zeroTy Try.prog 5 = some [LV.p (PV.int IntKind.u8 0)] := by kernel_rfl
theorem zt6 : zeroTy Try.prog 6 = some [LV.p (PV.int IntKind.u8 0)] := by kernel_rfl
theorem zt7 : zeroTy Try.prog 7 = some [LV.p (PV.int IntKind.i64 0), LV.p (PV.int IntKind.i64 0), LV.p (PV.bool false), LV.p (PV.int IntKind.u8 0)] := by kernel_rfl
theorem zt8 : zeroTy Try.prog 8 = some [LV.p (PV.int IntKind.i64 0), LV.p (PV.int IntKind.i64 0), LV.p (PV.bool false), LV.p (PV.int IntKind.u8 0)] := by kernel_rfl
theorem zt12 : zeroTy Try.prog 12 = some [LV.p (PV.int IntKind.u64 0)] := by kernel_rfl
theorem zt15 : zeroTy Try.prog 15 = some [LV.any] := by kernel_rfl
theorem zt16 : zeroTy Try.prog 16 = some [LV.any] := by kernel_rfl
theorem zt17 : zeroTy Try.prog 17 = some [LV.any] := by kernel_rfl
theorem zt18 : zeroTy Try.prog 18 = some [LV.any] := by kernel_rfl
theorem zt19 : zeroTy Try.prog 19 = some [LV.any] := by kernel_rfl
theorem zt21 : zeroTy Try.prog 21 = some [LV.p (PV.int IntKind.i32 0)] := by kernel_rfl
theorem zt22 : zeroTy Try.prog 22 = some [LV.p (PV.int IntKind.u64 0)] := by kernel_rfl
theorem zt23 : zeroTy Try.prog 23 = some [LV.p (PV.int IntKind.u64 0), LV.p (PV.int IntKind.u64 0)] := by kernel_rfl
theorem zt24 : zeroTy Try.prog 24 = some [LV.p (PV.int IntKind.u64 0), LV.p (PV.int IntKind.u64 0)] := by kernel_rfl
theorem zt25 : zeroTy Try.prog 25 = some [LV.p (PV.int IntKind.u64 0), LV.p (PV.int IntKind.u64 0), LV.p (PV.int IntKind.i64 0), LV.p (PV.int IntKind.i64 0)] := by kernel_rfl
theorem zt26 : zeroTy Try.prog 26 = some [LV.p (PV.int IntKind.u64 0), LV.p (PV.int IntKind.u64 0), LV.p (PV.int IntKind.i64 0), LV.p (PV.int IntKind.i64 0)] := by kernel_rfl
theorem zt27 : zeroTy Try.prog 27 = some [LV.zs] := by kernel_rfl
theorem zt28 : zeroTy Try.prog 28 = some [LV.any] := by kernel_rfl
theorem zt29 : zeroTy Try.prog 29 = some [LV.any] := by kernel_rfl
theorem zt30 : zeroTy Try.prog 30 = some [LV.any] := by kernel_rfl
theorem zt31 : zeroTy Try.prog 31 = some [LV.zs] := by kernel_rfl
theorem zt32 : zeroTy Try.prog 32 = some [LV.any] := by kernel_rfl
theorem zt33 : zeroTy Try.prog 33 = some [LV.any] := by kernel_rfl
theorem zt34 : zeroTy Try.prog 34 = some [LV.any] := by kernel_rfl
theorem zt35 : zeroTy Try.prog 35 = some [LV.any] := by kernel_rfl
theorem zt36 : zeroTy Try.prog 36 = some [LV.any] := by kernel_rfl
theorem zt38 : zeroTy Try.prog 38 = some [LV.any] := by kernel_rfl
theorem zt39 : zeroTy Try.prog 39 = some [LV.any] := by kernel_rfl
theorem zt40 : zeroTy Try.prog 40 = some [LV.any] := by kernel_rfl
theorem zt41 : zeroTy Try.prog 41 = some [LV.p (PV.int IntKind.i64 0), LV.p (PV.int IntKind.i64 0), LV.p (PV.int IntKind.u64 0), LV.p (PV.int IntKind.u64 0), LV.p (PV.int IntKind.u64 0)] := by kernel_rfl
theorem zt42 : zeroTy Try.prog 42 = some [LV.p (PV.int IntKind.i64 0), LV.p (PV.int IntKind.i64 0), LV.p (PV.int IntKind.u64 0), LV.p (PV.int IntKind.u64 0), LV.p (PV.int IntKind.u64 0)] := by kernel_rfl
theorem zt43 : zeroTy Try.prog 43 = some [LV.any] := by kernel_rfl
theorem zt44 : zeroTy Try.prog 44 = some [LV.any] := by kernel_rfl
theorem zt45 : zeroTy Try.prog 45 = some [LV.any] := by kernel_rfl
theorem zt46 : zeroTy Try.prog 46 = some [LV.any] := by kernel_rfl
theorem zt47 : zeroTy Try.prog 47 = some [LV.any] := by kernel_rfl
theorem zt48 : zeroTy Try.prog 48 = some [LV.any] := by kernel_rfl
theorem zt49 : zeroTy Try.prog 49 = some [LV.zs] := by kernel_rfl
theorem zt50 : zeroTy Try.prog 50 = some [LV.any] := by kernel_rfl
theorem zt51 : zeroTy Try.prog 51 = some [LV.any] := by kernel_rfl
theorem zt52 : zeroTy Try.prog 52 = some [LV.zs] := by kernel_rfl
theorem zt53 : zeroTy Try.prog 53 = some [LV.any] := by kernel_rfl
theorem zt54 : zeroTy Try.prog 54 = some [LV.zs, LV.p (PV.int IntKind.u64 0), LV.p (PV.int IntKind.i64 0), LV.p (PV.int IntKind.i64 0), LV.p (PV.int IntKind.i64 0)] := by kernel_rfl
theorem zt55 : zeroTy Try.prog 55 = some [LV.zs, LV.p (PV.int IntKind.u64 0), LV.p (PV.int IntKind.i64 0), LV.p (PV.int IntKind.i64 0), LV.p (PV.int IntKind.i64 0)] := by kernel_rfl
theorem zt56 : zeroTy Try.prog 56 = some [LV.any] := by kernel_rfl
theorem zt57 : zeroTy Try.prog 57 = some [LV.any] := by kernel_rfl
theorem zt58 : zeroTy Try.prog 58 = some [LV.any] := by kernel_rfl
theorem zt59 : zeroTy Try.prog 59 = some [LV.any] := by kernel_rfl
theorem zt60 : zeroTy Try.prog 60 = some [LV.any] := by kernel_rfl
theorem zt61 : zeroTy Try.prog 61 = some [LV.any] := by kernel_rfl
theorem zt62 : zeroTy Try.prog 62 = some [LV.any] := by kernel_rfl
theorem zt63 : zeroTy Try.prog 63 = some [LV.any] := by kernel_rfl
theorem zt64 : zeroTy Try.prog 64 = some [LV.any] := by kernel_rfl
theorem zt65 : zeroTy Try.prog 65 = some [LV.any] := by kernel_rfl
theorem zt66 : zeroTy Try.prog 66 = some [LV.any] := by kernel_rfl
theorem zt67 : zeroTy Try.prog 67 = some [LV.any] := by kernel_rfl
theorem zt68 : zeroTy Try.prog 68 = some [LV.zs] := by kernel_rfl
theorem zt69 : zeroTy Try.prog 69 = some [LV.any] := by kernel_rfl
theorem zt71 : zeroTy Try.prog 71 = some [LV.any] := by kernel_rfl
theorem zt72 : zeroTy Try.prog 72 = some [LV.any] := by kernel_rfl
theorem zt73 : zeroTy Try.prog 73 = some [LV.any] := by kernel_rfl
theorem zt74 : zeroTy Try.prog 74 = some [LV.zs, LV.zs] := by kernel_rfl
theorem zt75 : zeroTy Try.prog 75 = some [LV.zs, LV.zs] := by kernel_rfl
theorem zt76 : zeroTy Try.prog 76 = some [LV.any] := by kernel_rfl
theorem zt77 : zeroTy Try.prog 77 = some [LV.any] := by kernel_rfl
theorem zt78 : zeroTy Try.prog 78 = some [LV.any] := by kernel_rfl
theorem zt79 : zeroTy Try.prog 79 = some [LV.any] := by kernel_rfl
theorem zt80 : zeroTy Try.prog 80 = some [LV.any] := by kernel_rfl
theorem zt81 : zeroTy Try.prog 81 = some [LV.p (PV.int IntKind.i64 0), LV.p (PV.int IntKind.i64 0), LV.p (PV.int IntKind.u64 0), LV.p (PV.int IntKind.u64 0)] := by kernel_rfl
theorem zt82 : zeroTy Try.prog 82 = some [LV.p (PV.int IntKind.i64 0), LV.p (PV.int IntKind.i64 0), LV.p (PV.int IntKind.u64 0), LV.p (PV.int IntKind.u64 0)] := by kernel_rfl
theorem zt83 : zeroTy Try.prog 83 = some [LV.any] := by kernel_rfl
theorem zt84 : zeroTy Try.prog 84 = some [LV.any] := by kernel_rfl
theorem zt86 : zeroTy Try.prog 86 = some [LV.any] := by kernel_rfl
theorem zt87 : zeroTy Try.prog 87 = some [LV.any] := by kernel_rfl
theorem zt88 : zeroTy Try.prog 88 = some [LV.any] := by kernel_rfl
theorem zt89 : zeroTy Try.prog 89 = some [LV.any] := by kernel_rfl
theorem zt90 : zeroTy Try.prog 90 = some [LV.any] := by kernel_rfl
theorem zt91 : zeroTy Try.prog 91 = some [LV.nilmap] := by kernel_rfl
theorem zt93 : zeroTy Try.prog 93 = some [LV.any] := by kernel_rfl
theorem zt94 : zeroTy Try.prog 94 = some [LV.any] := by kernel_rfl
theorem zt95 : zeroTy Try.prog 95 = some [LV.any] := by kernel_rfl
theorem zt96 : zeroTy Try.prog 96 = some [LV.any] := by kernel_rfl
theorem zt97 : zeroTy Try.prog 97 = some [LV.any] := by kernel_rfl
theorem zt98 : zeroTy Try.prog 98 = some [LV.zs] := by kernel_rfl
theorem zt99 : zeroTy Try.prog 99 = some [LV.any] := by kernel_rfl
theorem zt100 : zeroTy Try.prog 100 = some [LV.any] := by kernel_rfl
theorem zt101 : zeroTy Try.prog 101 = some [] := by kernel_rfl
theorem zt102 : zeroTy Try.prog 102 = some [] := by kernel_rfl
theorem zt103 : zeroTy Try.prog 103 = some [] := by kernel_rfl
theorem zt104 : zeroTy Try.prog 104 = some [LV.p (PV.int IntKind.u32 0)] := by kernel_rfl
theorem zt105 : zeroTy Try.prog 105 = some [LV.p (PV.int IntKind.u32 0)] := by kernel_rfl
theorem zt106 : zeroTy Try.prog 106 = some [LV.p (PV.int IntKind.u32 0)] := by kernel_rfl
theorem zt107 : zeroTy Try.prog 107 = some [LV.p (PV.int IntKind.i32 0), LV.p (PV.int IntKind.u32 0)] := by kernel_rfl
theorem zt108 : zeroTy Try.prog 108 = some [LV.p (PV.int IntKind.i32 0), LV.p (PV.int IntKind.u32 0)] := by kernel_rfl
theorem zt109 : zeroTy Try.prog 109 = some [LV.p (PV.int IntKind.i32 0), LV.p (PV.int IntKind.u32 0)] := by kernel_rfl
theorem zt110 : zeroTy Try.prog 110 = some [LV.p (PV.int IntKind.i32 0), LV.p (PV.int IntKind.u32 0)] := by kernel_rfl
theorem zt111 : zeroTy Try.prog 111 = some [LV.p (PV.int IntKind.u32 0), LV.p (PV.int IntKind.i32 0), LV.p (PV.int IntKind.u32 0)] := by kernel_rfl
theorem zt112 : zeroTy Try.prog 112 = some [LV.p (PV.int IntKind.u32 0), LV.p (PV.int IntKind.i32 0), LV.p (PV.int IntKind.u32 0)] := by kernel_rfl
theorem zt113 : zeroTy Try.prog 113 = some [LV.p (PV.int IntKind.u32 0), LV.p (PV.int IntKind.i32 0), LV.p (PV.int IntKind.u32 0), LV.p (PV.int IntKind.i64 0), LV.p (PV.int IntKind.u64 0)] := by kernel_rfl
theorem zt114 : zeroTy Try.prog 114 = some [LV.p (PV.int IntKind.u32 0), LV.p (PV.int IntKind.i32 0), LV.p (PV.int IntKind.u32 0), LV.p (PV.int IntKind.i64 0), LV.p (PV.int IntKind.u64 0)] := by kernel_rfl
theorem zt115 : zeroTy Try.prog 115 = some [LV.p (PV.int IntKind.u32 0), LV.p (PV.int IntKind.i32 0), LV.p (PV.int IntKind.u32 0), LV.p (PV.int IntKind.i64 0), LV.p (PV.int IntKind.u64 0), LV.p (PV.int IntKind.u32 0), LV.p (PV.int IntKind.i32 0), LV.p (PV.int IntKind.u32 0), LV.p (PV.int IntKind.i64 0), LV.p (PV.int IntKind.u64 0), LV.p (PV.int IntKind.u32 0), LV.p (PV.int IntKind.i32 0), LV.p (PV.int IntKind.u32 0), LV.p (PV.int IntKind.i64 0), LV.p (PV.int IntKind.u64 0), LV.p (PV.int IntKind.u32 0), LV.p (PV.int IntKind.i32 0), LV.p (PV.int IntKind.u32 0), LV.p (PV.int IntKind.i64 0), LV.p (PV.int IntKind.u64 0), LV.p (PV.int IntKind.u32 0), LV.p (PV.int IntKind.i32 0), LV.p (PV.int IntKind.u32 0), LV.p (PV.int IntKind.i64 0), LV.p (PV.int IntKind.u64 0), LV.p (PV.int IntKind.u32 0), LV.p (PV.int IntKind.i32 0), LV.p (PV.int IntKind.u32 0), LV.p (PV.int IntKind.i64 0), LV.p (PV.int IntKind.u64 0), LV.p (PV.int IntKind.u32 0), LV.p (PV.int IntKind.i32 0), LV.p (PV.int IntKind.u32 0), LV.p (PV.int IntKind.i64 0), LV.p (PV.int IntKind.u64 0), LV.p (PV.int IntKind.u32 0), LV.p (PV.int IntKind.i32 0), LV.p (PV.int IntKind.u32 0), LV.p (PV.int IntKind.i64 0), LV.p (PV.int IntKind.u64 0), LV.p (PV.int IntKind.u32 0), LV.p (PV.int IntKind.i32 0), LV.p (PV.int IntKind.u32 0), LV.p (PV.int IntKind.i64 0), LV.p (PV.int IntKind.u64 0), LV.p (PV.int IntKind.u32 0), LV.p (PV.int IntKind.i32 0), LV.p (PV.int IntKind.u32 0), LV.p (PV.int IntKind.i64 0), LV.p (PV.int IntKind.u64 0)] := by kernel_rfl
theorem zt116 : zeroTy Try.prog 116 = some [] := by kernel_rfl
theorem zt117 : zeroTy Try.prog 117 = some [LV.p (PV.int IntKind.i64 0)] := by kernel_rfl
theorem zt118 : zeroTy Try.prog 118 = some [LV.p (PV.int IntKind.i64 0)] := by kernel_rfl
theorem zt119 : zeroTy Try.prog 119 = some [LV.p (PV.int IntKind.u64 0), LV.p (PV.int IntKind.i64 0), LV.p (PV.int IntKind.u32 0), LV.p (PV.int IntKind.i32 0), LV.p (PV.int IntKind.u32 0), LV.p (PV.int IntKind.i64 0), LV.p (PV.int IntKind.u64 0), LV.p (PV.int IntKind.u32 0), LV.p (PV.int IntKind.i32 0), LV.p (PV.int IntKind.u32 0), LV.p (PV.int IntKind.i64 0), LV.p (PV.int IntKind.u64 0), LV.p (PV.int IntKind.u32 0), LV.p (PV.int IntKind.i32 0), LV.p (PV.int IntKind.u32 0), LV.p (PV.int IntKind.i64 0), LV.p (PV.int IntKind.u64 0), LV.p (PV.int IntKind.u32 0), LV.p (PV.int IntKind.i32 0), LV.p (PV.int IntKind.u32 0), LV.p (PV.int IntKind.i64 0), LV.p (PV.int IntKind.u64 0), LV.p (PV.int IntKind.u32 0), LV.p (PV.int IntKind.i32 0), LV.p (PV.int IntKind.u32 0), LV.p (PV.int IntKind.i64 0), LV.p (PV.int IntKind.u64 0), LV.p (PV.int IntKind.u32 0), LV.p (PV.int IntKind.i32 0), LV.p (PV.int IntKind.u32 0), LV.p (PV.int IntKind.i64 0), LV.p (PV.int IntKind.u64 0), LV.p (PV.int IntKind.u32 0), LV.p (PV.int IntKind.i32 0), LV.p (PV.int IntKind.u32 0), LV.p (PV.int IntKind.i64 0), LV.p (PV.int IntKind.u64 0), LV.p (PV.int IntKind.u32 0), LV.p (PV.int IntKind.i32 0), LV.p (PV.int IntKind.u32 0), LV.p (PV.int IntKind.i64 0), LV.p (PV.int IntKind.u64 0), LV.p (PV.int IntKind.u32 0), LV.p (PV.int IntKind.i32 0), LV.p (PV.int IntKind.u32 0), LV.p (PV.int IntKind.i64 0), LV.p (PV.int IntKind.u64 0), LV.p (PV.int IntKind.u32 0), LV.p (PV.int IntKind.i32 0), LV.p (PV.int IntKind.u32 0), LV.p (PV.int IntKind.i64 0), LV.p (PV.int IntKind.u64 0), LV.p (PV.int IntKind.i64 0)] := by kernel_rfl
theorem zt120 : zeroTy Try.prog 120 = some [LV.p (PV.int IntKind.u64 0), LV.p (PV.int IntKind.i64 0), LV.p (PV.int IntKind.u32 0), LV.p (PV.int IntKind.i32 0), LV.p (PV.int IntKind.u32 0), LV.p (PV.int IntKind.i64 0), LV.p (PV.int IntKind.u64 0), LV.p (PV.int IntKind.u32 0), LV.p (PV.int IntKind.i32 0), LV.p (PV.int IntKind.u32 0), LV.p (PV.int IntKind.i64 0), LV.p (PV.int IntKind.u64 0), LV.p (PV.int IntKind.u32 0), LV.p (PV.int IntKind.i32 0), LV.p (PV.int IntKind.u32 0), LV.p (PV.int IntKind.i64 0), LV.p (PV.int IntKind.u64 0), LV.p (PV.int IntKind.u32 0), LV.p (PV.int IntKind.i32 0), LV.p (PV.int IntKind.u32 0), LV.p (PV.int IntKind.i64 0), LV.p (PV.int IntKind.u64 0), LV.p (PV.int IntKind.u32 0), LV.p (PV.int IntKind.i32 0), LV.p (PV.int IntKind.u32 0), LV.p (PV.int IntKind.i64 0), LV.p (PV.int IntKind.u64 0), LV.p (PV.int IntKind.u32 0), LV.p (PV.int IntKind.i32 0), LV.p (PV.int IntKind.u32 0), LV.p (PV.int IntKind.i64 0), LV.p (PV.int IntKind.u64 0), LV.p (PV.int IntKind.u32 0), LV.p (PV.int IntKind.i32 0), LV.p (PV.int IntKind.u32 0), LV.p (PV.int IntKind.i64 0), LV.p (PV.int IntKind.u64 0), LV.p (PV.int IntKind.u32 0), LV.p (PV.int IntKind.i32 0), LV.p (PV.int IntKind.u32 0), LV.p (PV.int IntKind.i64 0), LV.p (PV.int IntKind.u64 0), LV.p (PV.int IntKind.u32 0), LV.p (PV.int IntKind.i32 0), LV.p (PV.int IntKind.u32 0), LV.p (PV.int IntKind.i64 0), LV.p (PV.int IntKind.u64 0), LV.p (PV.int IntKind.u32 0), LV.p (PV.int IntKind.i32 0), LV.p (PV.int IntKind.u32 0), LV.p (PV.int IntKind.i64 0), LV.p (PV.int IntKind.u64 0), LV.p (PV.int IntKind.i64 0)] := by kernel_rfl
theorem zt121 : zeroTy Try.prog 121 = some [LV.any] := by kernel_rfl
theorem zt122 : zeroTy Try.prog 122 = some [LV.any] := by kernel_rfl
theorem zt123 : zeroTy Try.prog 123 = some [LV.any] := by kernel_rfl
theorem zt124 : zeroTy Try.prog 124 = some [LV.any] := by kernel_rfl
theorem zt125 : zeroTy Try.prog 125 = some [LV.any] := by kernel_rfl
theorem zt126 : zeroTy Try.prog 126 = some [LV.any] := by kernel_rfl
theorem zt127 : zeroTy Try.prog 127 = some [LV.any] := by kernel_rfl
theorem zt128 : zeroTy Try.prog 128 = some [LV.any] := by kernel_rfl
theorem zt129 : zeroTy Try.prog 129 = some [LV.any] := by kernel_rfl
theorem zt130 : zeroTy Try.prog 130 = some [LV.any] := by kernel_rfl
theorem zt131 : zeroTy Try.prog 131 = some [LV.any] := by kernel_rfl
theorem zt132 : zeroTy Try.prog 132 = some [LV.nilmap] := by kernel_rfl
theorem zt133 : zeroTy Try.prog 133 = some [LV.any] := by kernel_rfl
theorem zt134 : zeroTy Try.prog 134 = some [LV.any] := by kernel_rfl
theorem zt135 : zeroTy Try.prog 135 = some [LV.p (PV.int IntKind.i64 0), LV.p (PV.int IntKind.u64 0), LV.p (PV.int IntKind.u64 0)] := by kernel_rfl
theorem zt136 : zeroTy Try.prog 136 = some [LV.p (PV.int IntKind.i64 0), LV.p (PV.int IntKind.u64 0), LV.p (PV.int IntKind.u64 0)] := by kernel_rfl
theorem zt137 : zeroTy Try.prog 137 = some [LV.any] := by kernel_rfl
theorem zt138 : zeroTy Try.prog 138 = some [LV.any] := by kernel_rfl
theorem zt139 : zeroTy Try.prog 139 = some [LV.any] := by kernel_rfl
theorem zt140 : zeroTy Try.prog 140 = some [LV.any] := by kernel_rfl
theorem zt141 : zeroTy Try.prog 141 = some [LV.any] := by kernel_rfl
theorem zt142 : zeroTy Try.prog 142 = some [LV.any] := by kernel_rfl
theorem zt143 : zeroTy Try.prog 143 = some [LV.any] := by kernel_rfl
theorem zt144 : zeroTy Try.prog 144 = some [LV.any] := by kernel_rfl
theorem zt145 : zeroTy Try.prog 145 = some [LV.any] := by kernel_rfl
theorem zt146 : zeroTy Try.prog 146 = some [LV.any] := by kernel_rfl
theorem zt147 : zeroTy Try.prog 147 = some [LV.nilmap] := by kernel_rfl
theorem zt148 : zeroTy Try.prog 148 = some [LV.zs, LV.zs, LV.nilmap, LV.nilmap, LV.p (PV.int IntKind.i64 0), LV.p (PV.bool false)] := by kernel_rfl
theorem zt149 : zeroTy Try.prog 149 = some [LV.zs, LV.zs, LV.nilmap, LV.nilmap, LV.p (PV.int IntKind.i64 0), LV.p (PV.bool false)] := by kernel_rfl
theorem zt150 : zeroTy Try.prog 150 = some [LV.any] := by kernel_rfl
theorem zt151 : zeroTy Try.prog 151 = some [LV.any] := by kernel_rfl
theorem zt152 : zeroTy Try.prog 152 = some [LV.any] := by kernel_rfl
theorem zt153 : zeroTy Try.prog 153 = some [LV.any] := by kernel_rfl
theorem zt154 : zeroTy Try.prog 154 = some [LV.any] := by kernel_rfl
theorem zt155 : zeroTy Try.prog 155 = some [LV.any] := by kernel_rfl
theorem zt156 : zeroTy Try.prog 156 = some [LV.any] := by kernel_rfl
theorem zt157 : zeroTy Try.prog 157 = some [LV.any] := by kernel_rfl
theorem zt158 : zeroTy Try.prog 158 = some [LV.any] := by kernel_rfl
theorem zt159 : zeroTy Try.prog 159 = some [LV.any] := by kernel_rfl
theorem zt160 : zeroTy Try.prog 160 = some [LV.any] := by kernel_rfl
theorem zt161 : zeroTy Try.prog 161 = some [LV.any] := by kernel_rfl
theorem zt162 : zeroTy Try.prog 162 = some [LV.any] := by kernel_rfl
theorem zt163 : zeroTy Try.prog 163 = some [LV.any] := by kernel_rfl
theorem zt164 : zeroTy Try.prog 164 = some [LV.any] := by kernel_rfl
theorem zt165 : zeroTy Try.prog 165 = some [LV.any] := by kernel_rfl
theorem zt166 : zeroTy Try.prog 166 = some [LV.any] := by kernel_rfl
theorem zt167 : zeroTy Try.prog 167 = some [LV.any] := by kernel_rfl
theorem zt168 : zeroTy Try.prog 168 = some [LV.any] := by kernel_rfl
theorem zt169 : zeroTy Try.prog 169 = some [LV.nilmap] := by kernel_rfl
theorem zt171 : zeroTy Try.prog 171 = some [LV.any] := by kernel_rfl
theorem zt172 : zeroTy Try.prog 172 = some [LV.any] := by kernel_rfl
theorem zt173 : zeroTy Try.prog 173 = some [LV.any] := by kernel_rfl
theorem zt174 : zeroTy Try.prog 174 = some [LV.any] := by kernel_rfl
theorem zt175 : zeroTy Try.prog 175 = some [LV.any] := by kernel_rfl
theorem zt176 : zeroTy Try.prog 176 = some [LV.any] := by kernel_rfl
theorem zt177 : zeroTy Try.prog 177 = some [LV.any] := by kernel_rfl
theorem zt178 : zeroTy Try.prog 178 = some [LV.any] := by kernel_rfl
theorem zt179 : zeroTy Try.prog 179 = some [LV.any] := by kernel_rfl
theorem zt180 : zeroTy Try.prog 180 = some [LV.any] := by kernel_rfl
theorem zt181 : zeroTy Try.prog 181 = some [LV.any] := by kernel_rfl
theorem zt182 : zeroTy Try.prog 182 = some [LV.p (PV.int IntKind.u64 0)] := by kernel_rfl
theorem zt183 : zeroTy Try.prog 183 = some [LV.any] := by kernel_rfl
theorem zt184 : zeroTy Try.prog 184 = some [LV.any] := by kernel_rfl
theorem zt185 : zeroTy Try.prog 185 = some [LV.any] := by kernel_rfl
theorem zt186 : zeroTy Try.prog 186 = some [LV.any] := by kernel_rfl
theorem zt187 : zeroTy Try.prog 187 = some [LV.any] := by kernel_rfl
theorem zt188 : zeroTy Try.prog 188 = some [LV.any] := by kernel_rfl
theorem zt189 : zeroTy Try.prog 189 = some [LV.any] := by kernel_rfl
theorem zt190 : zeroTy Try.prog 190 = some [LV.any] := by kernel_rfl
theorem zt191 : zeroTy Try.prog 191 = some [LV.any] := by kernel_rfl
theorem zt192 : zeroTy Try.prog 192 = some [LV.any] := by kernel_rfl
theorem zt193 : zeroTy Try.prog 193 = some [LV.any] := by kernel_rfl
theorem zt194 : zeroTy Try.prog 194 = some [LV.any] := by kernel_rfl
theorem zt195 : zeroTy Try.prog 195 = some [LV.any] := by kernel_rfl
theorem zt196 : zeroTy Try.prog 196 = some [LV.any] := by kernel_rfl
theorem zt197 : zeroTy Try.prog 197 = some [LV.any] := by kernel_rfl
theorem zt198 : zeroTy Try.prog 198 = some [LV.any] := by kernel_rfl
theorem zt199 : zeroTy Try.prog 199 = some [LV.any] := by kernel_rfl
theorem zt200 : zeroTy Try.prog 200 = some [LV.any] := by kernel_rfl
theorem zt201 : zeroTy Try.prog 201 = some [LV.any] := by kernel_rfl
theorem zt202 : zeroTy Try.prog 202 = some [LV.any] := by kernel_rfl
theorem zt203 : zeroTy Try.prog 203 = some [LV.any] := by kernel_rfl
theorem zt204 : zeroTy Try.prog 204 = some [LV.any] := by kernel_rfl
theorem zt205 : zeroTy Try.prog 205 = some [LV.any] := by kernel_rfl
theorem zt206 : zeroTy Try.prog 206 = some [LV.any] := by kernel_rfl
theorem zt209 : zeroTy Try.prog 209 = some [] := by kernel_rfl
theorem zt210 : zeroTy Try.prog 210 = some [] := by kernel_rfl
theorem zt211 : zeroTy Try.prog 211 = some [] := by kernel_rfl
theorem zt212 : zeroTy Try.prog 212 = some [LV.any] := by kernel_rfl
theorem zt213 : zeroTy Try.prog 213 = some [LV.p (PV.int IntKind.u8 0)] := by kernel_rfl
theorem zt214 : zeroTy Try.prog 214 = some [LV.p (PV.int IntKind.u8 0)] := by kernel_rfl
theorem zt215 : zeroTy Try.prog 215 = some [LV.any] := by kernel_rfl
theorem zt216 : zeroTy Try.prog 216 = some [LV.any] := by kernel_rfl
theorem zt217 : zeroTy Try.prog 217 = some [LV.p (PV.int IntKind.i32 0)] := by kernel_rfl
theorem zt218 : zeroTy Try.prog 218 = some [LV.p (PV.int IntKind.i32 0)] := by kernel_rfl
theorem zt219 : zeroTy Try.prog 219 = some [LV.p (PV.int IntKind.u64 0), LV.p (PV.int IntKind.u64 0), LV.p (PV.int IntKind.u32 0), LV.p (PV.int IntKind.u8 0), LV.p (PV.int IntKind.u8 0), LV.p (PV.int IntKind.u8 0), LV.p (PV.int IntKind.u8 0), LV.any, LV.any, LV.p (PV.int IntKind.i32 0), LV.p (PV.int IntKind.i32 0)] := by kernel_rfl
end
end Go.Mg

namespace Go.Mg

abbrev ID := Int × Int
def idP (p : ID) : PV := .agg [.int .u64 p.1, .int .u64 p.2]
def wordP (x : Int) : PV := .int .u64 x

/-- A block. -/
structure Bk where
  Slot : Int
  From : Int
  Parent : ID
  Salt : Int
  deriving DecidableEq
def blkP (b : Bk) : PV := .agg [.int .i64 b.Slot, .int .i64 b.From, .int .u64 b.Parent.1, .int .u64 b.Parent.2, .int .u64 b.Salt]

/-- A vote. -/
structure Vt where
  From : Int
  Slot : Int
  Head : ID
  deriving DecidableEq
def vtP (v : Vt) : PV := .agg [.int .i64 v.From, .int .i64 v.Slot, .int .u64 v.Head.1, .int .u64 v.Head.2]

/-- What all agree on. -/
structure Cf where
  W : List Int
  Seed : Int
  Epoch : Int
  Num : Int
  Den : Int
def cfP (c : Cf) : PV := .agg [.slice 1 (c.W.map i64P), .int .u64 c.Seed, .int .i64 c.Epoch, .int .i64 c.Num, .int .i64 c.Den]

/-- A view. -/
structure Vw where
  B : List Bk
  V : List Vt
def vwP (v : Vw) : PV := .agg [.slice 5 (v.B.map blkP), .slice 4 (v.V.map vtP)]

/-- A cursor. -/
structure Cu where
  ID : Go.Mg.ID
  Slot : Int
  Revoked : Int
  deriving DecidableEq
def curP (c : Cu) : PV := .agg [.int .u64 c.ID.1, .int .u64 c.ID.2, .int .i64 c.Slot, .int .i64 c.Revoked]

/-- A block, and how much is on it. -/
structure Rk where
  n : Int
  id : Go.Mg.ID
def rkP (c : Rk) : PV := .agg [.int .i64 c.n, .int .u64 c.id.1, .int .u64 c.id.2]

theorem idEq {a b : ID} {r : Bool} (h : eqCells [.int .u64 a.1, .int .u64 a.2] [.int .u64 b.1, .int .u64 b.2] = some r) : r = decide (a = b) := by
  rw [eqCells2] at h
  cases h
  obtain ⟨x, y⟩ := a
  obtain ⟨z, w⟩ := b
  simp only [Bool.and_true, Prod.mk.injEq]
  by_cases h1 : x = z <;> by_cases h2 : y = w <;> simp [h1, h2]

theorem idKey : KeyOk idP 2 true := ⟨fun a b => by
  obtain ⟨x, y⟩ := a
  obtain ⟨z, w⟩ := b
  simp only [idP, keyEq, eqCells2, Bool.and_true, Prod.mk.injEq, Option.some.injEq]
  by_cases h1 : x = z <;> by_cases h2 : y = w <;> simp [h1, h2], fun _ => rfl⟩

theorem i64Key : KeyOk i64P 1 false := ⟨fun a b => by simp only [i64P, keyEq, if_pos, Option.some.injEq]; by_cases h : a = b <;> simp [h], fun _ => rfl⟩
theorem vtKey : KeyOk vtP 4 true := ⟨fun a b => by
  obtain ⟨a1, a2, a3⟩ := a
  obtain ⟨b1, b2, b3⟩ := b
  simp only [vtP, keyEq, eqCells, if_pos, Option.some.injEq, Vt.mk.injEq]
  rw [Bool.eq_iff_iff]
  obtain ⟨a3, a4⟩ := a3
  obtain ⟨b3, b4⟩ := b3
  simp, fun _ => rfl⟩

/-- What the program's comparisons tell. -/
theorem eqID (a b : ID) : ((a.1 == b.1) && ((a.2 == b.2) && true)) = decide (a = b) := by
  obtain ⟨x, y⟩ := a
  obtain ⟨z, w⟩ := b
  by_cases h1 : x = z <;> by_cases h2 : y = w <;> simp [h1, h2]
theorem eqBk (a b : Bk) : ((a.Slot == b.Slot) && ((a.From == b.From) && ((a.Parent.1 == b.Parent.1) && ((a.Parent.2 == b.Parent.2) && ((a.Salt == b.Salt) && true))))) = decide (a = b) := by
  obtain ⟨a1, a2, ⟨a3, a4⟩, a5⟩ := a
  obtain ⟨b1, b2, ⟨b3, b4⟩, b5⟩ := b
  simp only [Bool.and_true, Bk.mk.injEq, Prod.mk.injEq]
  rw [Bool.eq_iff_iff]
  simp [and_assoc]
theorem eqVt (a b : Vt) : ((a.From == b.From) && ((a.Slot == b.Slot) && ((a.Head.1 == b.Head.1) && ((a.Head.2 == b.Head.2) && true)))) = decide (a = b) := by
  obtain ⟨a1, a2, ⟨a3, a4⟩⟩ := a
  obtain ⟨b1, b2, ⟨b3, b4⟩⟩ := b
  rw [Bool.eq_iff_iff]
  simp
theorem eqCu (a b : Cu) : ((a.ID.1 == b.ID.1) && ((a.ID.2 == b.ID.2) && ((a.Slot == b.Slot) && ((a.Revoked == b.Revoked) && true)))) = decide (a = b) := by
  obtain ⟨⟨a1, a2⟩, a3, a4⟩ := a
  obtain ⟨⟨b1, b2⟩, b3, b4⟩ := b
  rw [Bool.eq_iff_iff]
  simp [and_assoc]
end Go.Mg

namespace Go.Mg
open Go.Proofs

/-- What mix.Word does. -/
def word (x : Int) : Int :=
  let a := IntKind.u64.wrap (bits .xor .u64 x (x.fdiv (2 ^ (min (Int.toNat 30) IntKind.u64.bits))) * 13787848793156543929)
  let b := IntKind.u64.wrap (bits .xor .u64 a (a.fdiv (2 ^ (min (Int.toNat 27) IntKind.u64.bits))) * 10723151780598845931)
  bits .xor .u64 b (b.fdiv (2 ^ (min (Int.toNat 31) IntKind.u64.bits)))

def step (h x : Int) : Int := word (IntKind.u64.wrap (bits .xor .u64 h x + 11400714819323198485))

/-- The complement of a word. -/
def inv (x : Int) : Int := bits .xor .u64 (if IntKind.u64.signed then -1 else IntKind.u64.max) x

set_option maxRecDepth 100000 in
theorem c146 {x : Int} : LPure Try.prog 146 [.int .u64 x] [.int .u64 (word x)] := by
  refine LPure.start Try.func146 rfl rfl rfl rfl ?_
  refine LW.seq ?_
  refine LW.region ?_
  refine LOps.st rfl rfl rfl (LOp.assign rfl rfl) ?_
  refine LOps.nil ?_
  refine thn_n ?_
  refine LW.seq ?_
  refine LW.region ?_
  refine LOps.st rfl rfl rfl (LOp.move rfl rfl) ?_
  refine LOps.st rfl rfl rfl (LOp.move rfl rfl) ?_
  refine LOps.st rfl rfl rfl (LOp.shr rfl rfl rfl (by decide)) ?_
  refine LOps.st rfl rfl rfl (LOp.bin rfl rfl rfl rfl) ?_
  refine LOps.st rfl rfl rfl (LOp.bin rfl rfl rfl rfl) ?_
  refine LOps.st rfl rfl rfl (LOp.assign rfl rfl) ?_
  refine LOps.nil ?_
  refine thn_n ?_
  refine LW.seq ?_
  refine LW.region ?_
  refine LOps.st rfl rfl rfl (LOp.move rfl rfl) ?_
  refine LOps.st rfl rfl rfl (LOp.move rfl rfl) ?_
  refine LOps.st rfl rfl rfl (LOp.shr rfl rfl rfl (by decide)) ?_
  refine LOps.st rfl rfl rfl (LOp.bin rfl rfl rfl rfl) ?_
  refine LOps.st rfl rfl rfl (LOp.bin rfl rfl rfl rfl) ?_
  refine LOps.st rfl rfl rfl (LOp.assign rfl rfl) ?_
  refine LOps.nil ?_
  refine thn_n ?_
  refine LW.seq ?_
  refine LW.region ?_
  refine LOps.st rfl rfl rfl (LOp.move rfl rfl) ?_
  refine LOps.st rfl rfl rfl (LOp.move rfl rfl) ?_
  refine LOps.st rfl rfl rfl (LOp.shr rfl rfl rfl (by decide)) ?_
  refine LOps.st rfl rfl rfl (LOp.bin rfl rfl rfl rfl) ?_
  refine LOps.st rfl rfl rfl (LOp.assign rfl rfl) ?_
  refine LOps.nil ?_
  refine thn_n ?_
  refine LW.ret ?_
  refine finP_ret (.one (.tmp rfl)) ?_
  exact Conv.p

set_option maxRecDepth 100000 in
theorem c108 {h x : Int} : LPure Try.prog 108 [.int .u64 h, .int .u64 x] [.int .u64 (step h x)] := by
  refine LPure.start Try.func108 rfl rfl rfl rfl ?_
  refine LW.seq ?_
  refine LW.region ?_
  refine LOps.st rfl rfl rfl (LOp.assign rfl rfl) ?_
  refine LOps.nil ?_
  refine thn_n ?_
  refine LW.seq ?_
  refine LW.region ?_
  refine LOps.st rfl rfl rfl (LOp.move rfl rfl) ?_
  refine LOps.st rfl rfl rfl (LOp.move rfl rfl) ?_
  refine LOps.st rfl rfl rfl (LOp.bin rfl rfl rfl rfl) ?_
  refine LOps.st rfl rfl rfl (LOp.bin rfl rfl rfl rfl) ?_
  refine LOps.st rfl rfl rfl (LOp.call rfl rfl rfl (by kernel_rfl) (LC.pure c146 (.cons Conv.p .nil))) ?_
  refine LOps.st rfl rfl rfl (LOp.assign rfl rfl) ?_
  refine LOps.nil ?_
  refine thn_n ?_
  refine LW.ret ?_
  refine finP_ret (.one (.tmp rfl)) ?_
  exact Conv.p

set_option maxRecDepth 100000 in
theorem c143 {x a b : Int} {id : Nat} {H H' : List LObj} (hH : nth H id = some (.box [.p (.int .u64 a), .p (.int .u64 b)])) (hH' : setC H id (.box [.p (.int .u64 (step a x)), .p (.int .u64 (step b (inv x)))]) = some H') : LC Try.prog 143 [.p (.int .u64 x), .ptr id 0] H (Is (.tup []) H') := by
  refine LC.start Try.func143 rfl rfl rfl ?_
  refine LW.drawLast (m := 10) (by kernel_rfl) (by kernel_rfl) (by kernel_rfl) ?_
  refine LO.st rfl rfl rfl (LOp.indexAddrA rfl rfl rfl at24 (by decide) (by decide)) ?_
  refine LO.st rfl rfl rfl (LOp.load rfl rfl hH vt22 rfl rfl) ?_
  refine LO.st rfl rfl rfl (LOp.move rfl rfl) ?_
  refine LO.st rfl rfl rfl (LOp.call rfl rfl rfl (by kernel_rfl) (LC.pure c108 (.cons Conv.p (.cons Conv.p .nil)))) ?_
  refine LO.st rfl rfl rfl (LOp.indexAddrA rfl rfl rfl at24 (by decide) (by decide)) ?_
  refine LO.st rfl rfl rfl (LOp.load rfl rfl hH vt22 rfl rfl) ?_
  refine LO.st rfl rfl rfl (LOp.move rfl rfl) ?_
  refine LO.st rfl rfl rfl (LOp.compl rfl rfl) ?_
  refine LO.st rfl rfl rfl (LOp.call rfl rfl rfl (by kernel_rfl) (LC.pure c108 (.cons Conv.p (.cons Conv.p .nil)))) ?_
  refine LO.st rfl rfl rfl (LOp.build rfl bt24 rfl rfl rfl) ?_
  refine LO.nil ?_
  refine LOps.st rfl rfl rfl (LOp.store rfl rfl rfl hH vt24 rfl rfl rfl hH') ?_
  refine LOps.nil ?_
  refine fin_end .none ?_
  exact ⟨rfl, rfl⟩

end Go.Mg

namespace Go.Mg
open Go.Proofs

/-- A word more. -/
def mixStep (p : Int × Int) (x : Int) : Int × Int := (step p.1 x, step p.2 (inv x))
/-- What mix.Of tells of words. -/
def mixOf (l : List Int) : Int × Int := mixStep (l.foldl mixStep (1, 2)) (IntKind.u64.wrap l.length)

set_option maxRecDepth 100000 in
theorem c99 {l : List Int} : LPure Try.prog 99 [.slice 1 (l.map wordP)] [idP (mixOf l)] := by
  refine LPure.start Try.func99 rfl rfl rfl rfl ?_
  refine LW.seq ?_
  refine LW.ok (t := 0) rfl (fun ok => ?_)
  have hlen := ok.len
  simp only [List.length_map, maxLen] at hlen
  refine LW.region ?_
  refine LOps.st rfl rfl rfl (LOp.alloc rfl zt24 rfl rfl) ?_
  refine LOps.nil ?_
  refine thn_n ?_
  refine LW.seq ?_
  refine LW.region ?_
  refine LOps.st rfl rfl rfl (LOp.build rfl bt24 rfl rfl rfl) ?_
  refine LOps.st rfl rfl rfl (LOp.alloc rfl zt24 rfl rfl) ?_
  refine LOps.st rfl rfl rfl (LOp.store rfl rfl rfl rfl vt24 rfl rfl rfl rfl) ?_
  refine LOps.nil ?_
  refine thn_n ?_
  refine LW.seq ?_
  refine LW.region ?_
  refine LOps.st rfl rfl rfl (LOp.makeFunc rfl rfl rfl) ?_
  refine LOps.st rfl rfl rfl (LOp.assign rfl rfl) ?_
  refine LOps.nil ?_
  refine thn_n ?_
  refine LW.seq ?_
  refine LW.seq ?_
  refine LW.region ?_
  refine LOps.st rfl rfl rfl (LOp.move rfl rfl) ?_
  refine LOps.st rfl rfl rfl (LOp.len rfl rfl (by kernel_rfl)) ?_
  refine LOps.st rfl rfl rfl (LOp.move rfl rfl) ?_
  refine LOps.nil ?_
  refine thn_n ?_
  refine LW.block ?_
  refine LW.loopOf (E := fun x : Nat × Int × Int => [(0, .p (.slice 1 (l.map wordP))), (2, .ptr 0 0), (3, .ptr 1 0), (4, .fn 143 [] [.ptr 1 0]), (9, .p (.slice 1 (l.map wordP))), (10, .p (.int .i64 (l.map wordP).length)), (11, .p (.int .i64 (x.1 : Nat)))]) (O := fun x => [.box [.p (.int .u64 0), .p (.int .u64 0)], .box [.p (.int .u64 x.2.1), .p (.int .u64 x.2.2)]]) (G := fun x => x.1 ≤ l.length ∧ x.2 = (l.take x.1).foldl mixStep (1, 2)) (meas := fun x => l.length - x.1) (0, 1, 2) (Weak.of 2 ⟨rfl, rfl, rfl, rfl, rfl, rfl, rfl, trivial⟩ rfl rfl rfl rfl) ⟨Nat.zero_le _, rfl⟩ (fun x hx => ?_)
  refine LW.seq ?_
  refine LW.region ?_
  refine LOps.st rfl rfl rfl (LOp.bin rfl rfl rfl rfl) ?_
  refine LOps.nil ?_
  refine thn_n ?_
  refine LW.seq ?_
  refine LW.cond rfl (fun g1 => ?_) (fun g1 => ?_)
  · -- g1 is True
    refine LW.skip ?_
    refine thn_n ?_
    refine LW.seq ?_
    refine LW.block ?_
    refine LW.seq ?_
    have hlt : x.1 < l.length := by simpa using g1
    obtain ⟨y, hy⟩ := list_get hlt
    refine LW.region ?_
    refine LOps.st rfl rfl rfl (LOp.indexAddr rfl rfl rfl st98 (by omega) (map_get hy) rfl) ?_
    refine LOps.st rfl rfl rfl (LOp.loadC rfl rfl rfl vt22 rfl rfl) ?_
    refine LOps.st rfl rfl rfl (LOp.assign rfl rfl) ?_
    refine LOps.nil ?_
    refine thn_n ?_
    refine LW.region ?_
    refine LOps.st rfl rfl rfl (LOp.move rfl rfl) ?_
    refine LOps.st rfl rfl rfl (LOp.move rfl rfl) ?_
    refine LOps.st rfl rfl rfl (LOp.call rfl rfl rfl (by kernel_rfl) (c143 (id := 1) rfl rfl)) ?_
    refine LOps.nil ?_
    refine inBlk_n ?_
    refine thn_n ?_
    refine LW.region ?_
    refine LOps.st rfl rfl rfl (LOp.isEq (y := .p (.int .i64 ((x.1 + 1 : Nat) : Int))) (LOp.bin rfl rfl rfl rfl) (by rw [wrapI (by omega) (by omega)]; rfl)) ?_
    refine LOps.st rfl rfl rfl (LOp.move rfl rfl) ?_
    refine LOps.nil ?_
    refine thn_n ?_
    refine ⟨(x.1 + 1, mixStep x.2 y), ?_, ?_, Weak.of 2 ⟨rfl, rfl, rfl, rfl, rfl, rfl, rfl, trivial⟩ rfl rfl rfl rfl⟩
    · simp only; omega
    · refine ⟨hlt, ?_⟩; rw [List.take_add_one, hy, List.foldl_append, ← hx.2]; rfl
  · -- g1 is False
    refine LW.exit ?_
    refine thn_e ?_
    refine thn_e ?_
    refine inBlk_self ?_
    refine thn_n ?_
    refine LW.seq ?_
    have hnlt : ¬ x.1 < l.length := by simpa using g1
    have hend : x.1 = l.length := by omega
    have hfold : x.2 = l.foldl mixStep (1, 2) := by rw [hx.2, hend, List.take_length]
    refine LW.region ?_
    refine LOps.st rfl rfl rfl (LOp.move rfl rfl) ?_
    refine LOps.st rfl rfl rfl (LOp.move rfl rfl) ?_
    refine LOps.st rfl rfl rfl (LOp.len rfl rfl (by kernel_rfl)) ?_
    refine LOps.st rfl rfl rfl (LOp.convert (k' := .u64) rfl rfl (by kernel_rfl)) ?_
    refine LOps.st rfl rfl rfl (LOp.call rfl rfl rfl (by kernel_rfl) (c143 (id := 1) rfl rfl)) ?_
    refine LOps.nil ?_
    refine thn_n ?_
    refine LW.seq ?_
    refine LW.region ?_
    refine LOps.st rfl rfl rfl (LOp.load rfl rfl rfl vt24 rfl rfl) ?_
    refine LOps.st rfl rfl rfl (LOp.store rfl rfl rfl rfl vt24 rfl rfl rfl rfl) ?_
    refine LOps.nil ?_
    refine thn_n ?_
    refine LW.ret ?_
    refine finP_ret (.one (.cellAgg rfl rfl (by kernel_rfl) rfl)) ?_
    refine Conv.pe ?_
    simp only [List.length_map, idP, mixOf, ← hfold]
    rfl

end Go.Mg

namespace Go.Mg
open Go.Proofs

def nameWords (b : Bk) : List Int := [1, IntKind.u64.wrap b.Slot, IntKind.u64.wrap b.From, b.Parent.1, b.Parent.2, b.Salt]
/-- A block's name. -/
def nm (b : Bk) : ID := mixOf (nameWords b)

/-- Where one is in a list, or -1. -/
def indexOf (l : List ID) (v : ID) : Int := match l.findIdx? (fun x => decide (v = x)) with | some i => (i : Nat) | none => -1

theorem indexOf_at {l : List ID} {v : ID} {i : Nat} (h : l[i]? = some v) (hno : ∀ j, j < i → l[j]? ≠ some v) : indexOf l v = i := by
  have hi := (List.getElem?_eq_some_iff.1 h).1
  have : l.findIdx? (fun x => decide (v = x)) = some i := by
    rw [List.findIdx?_eq_some_iff_getElem]
    refine ⟨hi, by simp [(List.getElem?_eq_some_iff.1 h).2], fun j hj => ?_⟩
    have := hno j hj
    rw [List.getElem?_eq_getElem (by omega)] at this
    simpa using fun e => this (by rw [e])
  simp [indexOf, this]

theorem indexOf_none {l : List ID} {v : ID} (hno : ∀ j, j < l.length → l[j]? ≠ some v) : indexOf l v = -1 := by
  have : l.findIdx? (fun x => decide (v = x)) = none := by
    rw [List.findIdx?_eq_none_iff]
    intro x hx
    obtain ⟨j, hj, rfl⟩ := List.mem_iff_getElem.1 hx
    have := hno j hj
    rw [List.getElem?_eq_getElem hj] at this
    simpa using fun e => this (by rw [e])
  simp [indexOf, this]

set_option maxRecDepth 100000 in
theorem c50 {b : Bk} : LPure Try.prog 50 [blkP b] [idP (nm b)] := by
  refine LPure.start Try.func50 rfl rfl rfl rfl ?_
  refine LW.seq ?_
  refine LW.region ?_
  refine LOps.st rfl rfl rfl (LOp.box rfl rfl rfl rfl rfl) ?_
  refine LOps.st rfl rfl rfl (LOp.alloc rfl zt24 rfl rfl) ?_
  refine LOps.nil ?_
  refine thn_n ?_
  refine LW.seq ?_
  refine LW.region ?_
  refine LOps.st rfl rfl rfl (LOp.fieldAddr rfl rfl ft42_0) ?_
  refine LOps.st rfl rfl rfl (LOp.load rfl rfl rfl vt3 rfl rfl) ?_
  refine LOps.st rfl rfl rfl (LOp.convert (k' := .u64) rfl rfl (by kernel_rfl)) ?_
  refine LOps.st rfl rfl rfl (LOp.fieldAddr rfl rfl ft42_1) ?_
  refine LOps.st rfl rfl rfl (LOp.load rfl rfl rfl vt3 rfl rfl) ?_
  refine LOps.st rfl rfl rfl (LOp.convert (k' := .u64) rfl rfl (by kernel_rfl)) ?_
  refine LOps.st rfl rfl rfl (LOp.fieldAddr rfl rfl ft42_2) ?_
  refine LOps.st rfl rfl rfl (LOp.indexAddrA rfl rfl rfl at24 (by decide) (by decide)) ?_
  refine LOps.st rfl rfl rfl (LOp.load rfl rfl rfl vt22 rfl rfl) ?_
  refine LOps.st rfl rfl rfl (LOp.fieldAddr rfl rfl ft42_2) ?_
  refine LOps.st rfl rfl rfl (LOp.indexAddrA rfl rfl rfl at24 (by decide) (by decide)) ?_
  refine LOps.st rfl rfl rfl (LOp.load rfl rfl rfl vt22 rfl rfl) ?_
  refine LOps.st rfl rfl rfl (LOp.fieldAddr rfl rfl ft42_3) ?_
  refine LOps.st rfl rfl rfl (LOp.load rfl rfl rfl vt22 rfl rfl) ?_
  refine LOps.st rfl rfl rfl (LOp.buildSlice rfl st98 rfl rfl rfl rfl rfl) ?_
  refine LOps.st rfl rfl rfl (LOp.call rfl rfl rfl (by kernel_rfl) (LC.pure (c99 (l := nameWords b)) (.cons Conv.p .nil))) ?_
  refine LOps.st rfl rfl rfl (LOp.store rfl rfl rfl rfl vt24 rfl rfl rfl rfl) ?_
  refine LOps.nil ?_
  refine thn_n ?_
  refine LW.ret ?_
  refine finP_ret (.one (.cellAgg rfl rfl (by kernel_rfl) rfl)) ?_
  exact Conv.p

set_option maxRecDepth 100000 in
theorem c93 {l : List ID} {v : ID} : LPure Try.prog 93 [.slice 2 (l.map idP), idP v] [.int .i64 (indexOf l v)] := by
  refine LPure.start Try.func93 rfl rfl rfl rfl ?_
  refine LW.seq ?_
  refine LW.ok (t := 0) rfl (fun ok => ?_)
  have hlen := ok.len
  simp only [List.length_map, maxLen] at hlen
  refine LW.region ?_
  refine LOps.st rfl rfl rfl (LOp.box rfl rfl rfl rfl rfl) ?_
  refine LOps.st rfl rfl rfl (LOp.assign rfl rfl) ?_
  refine LOps.nil ?_
  refine thn_n ?_
  refine LW.seq ?_
  refine LW.seq ?_
  refine LW.region ?_
  refine LOps.st rfl rfl rfl (LOp.move rfl rfl) ?_
  refine LOps.st rfl rfl rfl (LOp.len rfl rfl (by kernel_rfl)) ?_
  refine LOps.st rfl rfl rfl (LOp.move rfl rfl) ?_
  refine LOps.nil ?_
  refine thn_n ?_
  refine LW.block ?_
  refine LW.loopOf (E := fun x : Nat => [(0, .p (.slice 2 (l.map idP))), (3, .ptr 0 0), (6, .p (.slice 2 (l.map idP))), (7, .p (.int .i64 (l.map idP).length)), (8, .p (.int .i64 (x : Nat)))]) (O := fun x => [.box [.p (.int .u64 v.1), .p (.int .u64 v.2)]]) (G := fun x => x ≤ l.length ∧ ∀ j, j < x → l[j]? ≠ some v) (meas := fun x => l.length - x) 0 (Weak.of 1 ⟨rfl, rfl, rfl, rfl, rfl, trivial⟩ rfl rfl rfl rfl) ⟨Nat.zero_le _, fun j hj => absurd hj (by omega)⟩ (fun x hx => ?_)
  refine LW.seq ?_
  refine LW.region ?_
  refine LOps.st rfl rfl rfl (LOp.bin rfl rfl rfl rfl) ?_
  refine LOps.nil ?_
  refine thn_n ?_
  refine LW.seq ?_
  refine LW.cond rfl (fun g1 => ?_) (fun g1 => ?_)
  · -- g1 is True
    refine LW.skip ?_
    refine thn_n ?_
    refine LW.seq ?_
    refine LW.block ?_
    refine LW.seq ?_
    have hlt : x < l.length := by simpa using g1
    obtain ⟨y, hy⟩ := list_get hlt
    refine LW.region ?_
    refine LOps.st rfl rfl rfl (LOp.move rfl rfl) ?_
    refine LOps.st rfl rfl rfl (LOp.assign rfl rfl) ?_
    refine LOps.nil ?_
    refine thn_n ?_
    refine LW.seq ?_
    refine LW.draw (by kernel_rfl) (by kernel_rfl) ?_
    refine LO.st rfl rfl rfl (LOp.load rfl rfl rfl vt24 rfl rfl) ?_
    refine LO.st rfl rfl rfl (LOp.move rfl rfl) ?_
    refine LO.st rfl rfl rfl (LOp.move rfl rfl) ?_
    refine LO.st rfl rfl rfl (LOp.indexAddr rfl rfl rfl st31 (by omega) (map_get hy) rfl) ?_
    refine LO.st rfl rfl rfl (LOp.loadC rfl rfl rfl vt24 rfl rfl) ?_
    refine LO.st rfl rfl rfl (LOp.eqlAgg rfl rfl rfl rfl rfl eqt24) ?_
    refine LO.nil ?_
    refine thn_n ?_
    refine LW.cond rfl (fun g2 => ?_) (fun g2 => ?_)
    · -- g2 is True
      refine LW.seq ?_
      have he : v = y := of_decide_eq_true ((idEq (a := v) (b := y) rfl).symm.trans g2)
      refine LW.region ?_
      refine LOps.st rfl rfl rfl (LOp.move rfl rfl) ?_
      refine LOps.st rfl rfl rfl (LOp.assign rfl rfl) ?_
      refine LOps.nil ?_
      refine thn_n ?_
      refine LW.ret ?_
      refine inBlk_r ?_
      refine thn_r ?_
      refine thn_r ?_
      refine inBlk_r ?_
      refine thn_r ?_
      refine finP_ret (.one (.tmp rfl)) ?_
      exact Conv.pe (by rw [indexOf_at (hy.trans (congrArg some he.symm)) hx.2])
    · -- g2 is False
      refine LW.skip ?_
      refine inBlk_n ?_
      refine thn_n ?_
      have hne : v ≠ y := of_decide_eq_false ((idEq (a := v) (b := y) rfl).symm.trans g2)
      refine LW.region ?_
      refine LOps.st rfl rfl rfl (LOp.isEq (y := .p (.int .i64 ((x + 1 : Nat) : Int))) (LOp.bin rfl rfl rfl rfl) (by rw [wrapI (by omega) (by omega)]; rfl)) ?_
      refine LOps.st rfl rfl rfl (LOp.move rfl rfl) ?_
      refine LOps.nil ?_
      refine thn_n ?_
      refine ⟨x + 1, ?_, ?_, Weak.of 1 ⟨rfl, rfl, rfl, rfl, rfl, trivial⟩ rfl rfl rfl rfl⟩
      · omega
      · exact ⟨hlt, fun j hj => by rcases Nat.lt_succ_iff_lt_or_eq.1 hj with h | h; exact hx.2 j h; subst h; rw [hy]; exact fun e => hne (Option.some.inj e).symm⟩
  · -- g1 is False
    refine LW.exit ?_
    refine thn_e ?_
    refine thn_e ?_
    refine inBlk_self ?_
    refine thn_n ?_
    refine LW.seq ?_
    have hnlt : ¬ x < l.length := by simpa using g1
    have hend : x = l.length := by omega
    refine LW.region ?_
    refine LOps.st rfl rfl rfl (LOp.assign rfl rfl) ?_
    refine LOps.nil ?_
    refine thn_n ?_
    refine LW.ret ?_
    refine finP_ret (.one (.tmp rfl)) ?_
    exact Conv.pe (by rw [indexOf_none fun j hj => hx.2 j (by omega)])

set_option maxRecDepth 100000 in
theorem c95 {l : List ID} {v : ID} : LPure Try.prog 95 [.slice 2 (l.map idP), idP v] [.bool (decide (indexOf l v ≥ 0))] := by
  refine LPure.start Try.func95 rfl rfl rfl rfl ?_
  refine LW.seq ?_
  refine LW.region ?_
  refine LOps.st rfl rfl rfl (LOp.box rfl rfl rfl rfl rfl) ?_
  refine LOps.st rfl rfl rfl (LOp.assign rfl rfl) ?_
  refine LOps.nil ?_
  refine thn_n ?_
  refine LW.seq ?_
  refine LW.region ?_
  refine LOps.st rfl rfl rfl (LOp.move rfl rfl) ?_
  refine LOps.st rfl rfl rfl (LOp.load rfl rfl rfl vt24 rfl rfl) ?_
  refine LOps.st rfl rfl rfl (LOp.call rfl rfl rfl (by kernel_rfl) (LC.pure c93 (.cons Conv.p (.cons Conv.p .nil)))) ?_
  refine LOps.st rfl rfl rfl (LOp.bin rfl rfl rfl rfl) ?_
  refine LOps.st rfl rfl rfl (LOp.assign rfl rfl) ?_
  refine LOps.nil ?_
  refine thn_n ?_
  refine LW.ret ?_
  refine finP_ret (.one (.tmp rfl)) ?_
  exact Conv.p

end Go.Mg

namespace Go.Mg
open Go.Proofs

/-- The slot of the block at i; -1 is the beginning. -/
def slotIx (l : List Bk) (i : Int) : Int := if i = -1 then 0 else match l[i.toNat]? with
  | some b => b.Slot
  | none => 0

abbrev ixV : Int → LV := fun v => .p (.int .i64 v)

/-- Where each block is, by its name, if blocks may be. -/
def placesGo (l : List Bk) : List Bk → Nat → List (ID × Int) → Option (List (ID × Int))
  | [], _, m => some m
  | b :: r, i, m => match findE m b.Parent with
    | none => none
    | some p => if b.Slot ≤ slotIx l p then none else match findE m (nm b) with
      | some _ => none
      | none => placesGo l r (i + 1) (m ++ [(nm b, (i : Int))])

def places (l : List Bk) : Option (List (ID × Int)) := placesGo l l 0 [((0, 0), -1)]

theorem placesGo_at {l : List Bk} {i : Nat} {y : Bk} (hy : l[i]? = some y) (m : List (ID × Int)) : placesGo l (l.drop i) i m = match findE m y.Parent with
    | none => none
    | some p => if y.Slot ≤ slotIx l p then none else match findE m (nm y) with
      | some _ => none
      | none => placesGo l (l.drop (i + 1)) (i + 1) (m ++ [(nm y, (i : Int))]) := by
  obtain ⟨hi, rfl⟩ := List.getElem?_eq_some_iff.1 hy
  rw [List.drop_eq_getElem_cons hi]
  rfl

set_option maxRecDepth 100000 in
theorem c142 {l : List Bk} {i : Int} {id : Nat} {H : List LObj} (hH : nth H id = some (.box [.p (.slice 5 (l.map blkP))])) (hi : i = -1 ∨ 0 ≤ i ∧ i < l.length) :
    LC Try.prog 142 [.p (.int .i64 i), .ptr id 0] H (Is (.p (.int .i64 (slotIx l i))) H) := by
  refine LC.start Try.func142 rfl rfl rfl ?_
  refine LW.seq ?_
  refine LW.region ?_
  refine LOps.st rfl rfl rfl (LOp.assign rfl rfl) ?_
  refine LOps.nil ?_
  refine thn_n ?_
  refine LW.seq ?_
  refine LW.seq ?_
  refine LW.region ?_
  refine LOps.st rfl rfl rfl (LOp.move rfl rfl) ?_
  refine LOps.st rfl rfl rfl (LOp.bin rfl rfl rfl rfl) ?_
  refine LOps.nil ?_
  refine thn_n ?_
  refine LW.cond rfl (fun g1 => ?_) (fun g1 => ?_)
  · -- g1 is True
    refine LW.seq ?_
    have he : i = -1 := by simpa using g1
    refine LW.region ?_
    refine LOps.st rfl rfl rfl (LOp.assign rfl rfl) ?_
    refine LOps.nil ?_
    refine thn_n ?_
    refine LW.ret ?_
    refine thn_r ?_
    refine fin_ret (.one (.tmp rfl)) ?_
    exact ⟨by simp [slotIx, he], rfl⟩
  · -- g1 is False
    refine LW.skip ?_
    refine thn_n ?_
    refine LW.seq ?_
    have hne : i ≠ -1 := by simpa using g1
    obtain ⟨y, hy⟩ := list_get (l := l) (i := i.toNat) (by omega)
    have hiy : (l.map blkP)[i.toNat]? = some (blkP y) := by simp [hy]
    refine LW.region ?_
    refine LOps.st rfl rfl rfl (LOp.load rfl rfl hH vt27 rfl rfl) ?_
    refine LOps.st rfl rfl rfl (LOp.move rfl rfl) ?_
    refine LOps.st rfl rfl rfl (LOp.indexAddr rfl rfl rfl st27 (by omega) hiy rfl) ?_
    refine LOps.st rfl rfl rfl (LOp.fieldAddrC rfl rfl ft42_0 rfl) ?_
    refine LOps.st rfl rfl rfl (LOp.loadC rfl rfl rfl vt3 rfl rfl) ?_
    refine LOps.st rfl rfl rfl (LOp.assign rfl rfl) ?_
    refine LOps.nil ?_
    refine thn_n ?_
    refine LW.ret ?_
    refine fin_ret (.one (.tmp rfl)) ?_
    exact ⟨by simp [slotIx, hne, hy], rfl⟩

set_option maxRecDepth 100000 in
theorem c94 {l : List Bk} : LC Try.prog 94 [.p (.slice 5 (l.map blkP))] [] fun x H =>
    (∃ m, places l = some m ∧ x = .tup [.map 1, .p (.bool true)] ∧ H = [.box [.p (.slice 5 (l.map blkP))], .map (entsOf idP ixV m)]) ∨ (places l = none ∧ x = .tup [.nilmap, .p (.bool false)] ∧ H = []) := by
  refine LC.start Try.func94 rfl rfl rfl ?_
  refine LW.seq ?_
  refine LW.ok (t := 0) rfl (fun ok => ?_)
  have hlen := ok.len
  simp only [List.length_map, maxLen] at hlen
  refine LW.region ?_
  refine LOps.st rfl rfl rfl (LOp.box rfl rfl rfl rfl rfl) ?_
  refine LOps.st rfl rfl rfl (LOp.assign rfl rfl) ?_
  refine LOps.st rfl rfl rfl (LOp.assign rfl rfl) ?_
  refine LOps.nil ?_
  refine thn_n ?_
  refine LW.seq ?_
  refine LW.region ?_
  refine LOps.st rfl rfl rfl (LOp.makeMap rfl rfl rfl) ?_
  refine LOps.st rfl rfl rfl (LOp.build rfl bt24 rfl rfl rfl) ?_
  refine LOps.st rfl rfl rfl (LOp.setNew (f := idP) (g := ixV) (m := []) (a := (0, 0)) (v := -1) idKey rfl (.inr rfl) rfl rfl rfl rfl rfl mt91 rfl) ?_
  refine LOps.st rfl rfl rfl (LOp.move rfl rfl) ?_
  refine LOps.st rfl rfl rfl (LOp.assign rfl rfl) ?_
  refine LOps.nil ?_
  refine thn_n ?_
  refine LW.seq ?_
  refine LW.region ?_
  refine LOps.st rfl rfl rfl (LOp.makeFunc rfl rfl rfl) ?_
  refine LOps.st rfl rfl rfl (LOp.assign rfl rfl) ?_
  refine LOps.nil ?_
  refine thn_n ?_
  refine LW.seq ?_
  refine LW.seq ?_
  refine LW.region ?_
  refine LOps.st rfl rfl rfl (LOp.load rfl rfl rfl vt27 rfl rfl) ?_
  refine LOps.st rfl rfl rfl (LOp.len rfl rfl (by kernel_rfl)) ?_
  refine LOps.st rfl rfl rfl (LOp.move rfl rfl) ?_
  refine LOps.nil ?_
  refine thn_n ?_
  refine LW.block ?_
  refine LW.loopOf (E := fun x : Nat × List (ID × Int) => [(1, .ptr 0 0), (4, .map 1), (5, .fn 142 [] [.ptr 0 0]), (17, .p (.slice 5 (l.map blkP))), (18, .p (.int .i64 (l.map blkP).length)), (19, .p (.int .i64 (x.1 : Nat)))]) (O := fun x => [.box [.p (.slice 5 (l.map blkP))], .map (entsOf idP ixV x.2)]) (G := fun x => x.1 ≤ l.length ∧ placesGo l (l.drop x.1) x.1 x.2 = places l ∧ ∀ k v, findE x.2 k = some v → v = -1 ∨ 0 ≤ v ∧ v < l.length) (meas := fun x => l.length - x.1) (0, [((0, 0), -1)]) (Weak.of 2 ⟨rfl, rfl, rfl, rfl, rfl, rfl, trivial⟩ rfl rfl rfl (lowObjs_cons rfl (lowObjs_cons (entsLow (fun _ => rfl) _) rfl))) ⟨Nat.zero_le _, rfl, fun k v h => by unfold findE findE at h; split at h <;> cases h; exact .inl rfl⟩ (fun x hx => ?_)
  refine LW.seq ?_
  refine LW.region ?_
  refine LOps.st rfl rfl rfl (LOp.bin rfl rfl rfl rfl) ?_
  refine LOps.nil ?_
  refine thn_n ?_
  refine LW.seq ?_
  refine LW.cond rfl (fun g1 => ?_) (fun g1 => ?_)
  · -- g1 is True
    refine LW.skip ?_
    refine thn_n ?_
    refine LW.seq ?_
    refine LW.block ?_
    refine LW.seq ?_
    have hlt : x.1 < l.length := by simpa using g1
    obtain ⟨y, hy⟩ := list_get hlt
    refine LW.region ?_
    refine LOps.st rfl rfl rfl (LOp.move rfl rfl) ?_
    refine LOps.st rfl rfl rfl (LOp.indexAddr rfl rfl rfl st27 (by omega) (map_get hy) rfl) ?_
    refine LOps.st rfl rfl rfl (LOp.loadC rfl rfl rfl vt42 rfl rfl) ?_
    refine LOps.st rfl rfl rfl (LOp.alloc rfl zt42 rfl rfl) ?_
    refine LOps.st rfl rfl rfl (LOp.assign rfl rfl) ?_
    refine LOps.st rfl rfl rfl (LOp.store rfl rfl rfl rfl vt42 rfl rfl rfl rfl) ?_
    refine LOps.nil ?_
    refine thn_n ?_
    refine LW.seq ?_
    refine LW.region ?_
    refine LOps.st rfl rfl rfl (LOp.move rfl rfl) ?_
    refine LOps.st rfl rfl rfl (LOp.fieldAddr rfl rfl ft42_2) ?_
    refine LOps.st rfl rfl rfl (LOp.load rfl rfl rfl vt24 rfl rfl) ?_
    rcases hp : findE x.2 y.Parent with _ | p
    · -- case 0
      refine LOps.st rfl rfl rfl ((LOp.getMiss idKey hp rfl rfl rfl rfl mt91 zl3 rfl)) ?_
      refine LOps.st rfl rfl rfl (LOp.move rfl rfl) ?_
      refine LOps.st rfl rfl rfl (LOp.extract rfl rfl rfl) ?_
      refine LOps.st rfl rfl rfl (LOp.extract rfl rfl rfl) ?_
      refine LOps.st rfl rfl rfl (LOp.assign rfl rfl) ?_
      refine LOps.st rfl rfl rfl (LOp.assign rfl rfl) ?_
      refine LOps.nil ?_
      refine thn_n ?_
      refine LW.seq ?_
      refine LW.seq ?_
      refine LW.draw (by kernel_rfl) (by kernel_rfl) ?_
      refine LO.st rfl rfl rfl (LOp.move rfl rfl) ?_
      refine LO.st rfl rfl rfl (LOp.not rfl rfl) ?_
      refine LO.st rfl rfl rfl (LOp.move rfl rfl) ?_
      refine LO.sk rfl rfl rfl rfl rfl rfl ?_
      refine LO.sk rfl rfl rfl rfl rfl rfl ?_
      refine LO.sk rfl rfl rfl rfl rfl rfl ?_
      refine LO.sk rfl rfl rfl rfl rfl rfl ?_
      refine LO.sk rfl rfl rfl rfl rfl rfl ?_
      refine LO.sk rfl rfl rfl rfl rfl rfl ?_
      refine LO.st rfl rfl rfl (LOp.pickT rfl rfl rfl) ?_
      refine LO.nil ?_
      refine thn_n ?_
      refine LW.condT rfl ?_
      refine LW.seq ?_
      refine LW.region ?_
      refine LOps.st rfl rfl rfl (LOp.assign rfl rfl) ?_
      refine LOps.st rfl rfl rfl (LOp.assign rfl rfl) ?_
      refine LOps.nil ?_
      refine thn_n ?_
      refine LW.ret ?_
      refine thn_r ?_
      refine inBlk_r ?_
      refine thn_r ?_
      refine thn_r ?_
      refine inBlk_r ?_
      refine thn_r ?_
      refine fin_retW (env' := [(2, .nilmap), (3, .p (.bool false))]) (H' := []) (Weak.of 0 ⟨rfl, rfl, trivial⟩ rfl rfl rfl rfl) (.two (.tmp rfl) (.tmp rfl)) (.inr ⟨?_, rfl, rfl⟩)
      rw [← hx.2.1, placesGo_at hy]
      first | (simp only [hp]; done) | (simp only [hp]; rw [if_pos (of_decide_eq_true g2)]; done) | (simp only [hp, hq]; split <;> rfl)
    · -- case 1
      refine LOps.st rfl rfl rfl ((LOp.getHit idKey hp rfl rfl rfl rfl mt91 rfl)) ?_
      refine LOps.st rfl rfl rfl (LOp.move rfl rfl) ?_
      refine LOps.st rfl rfl rfl (LOp.extract rfl rfl rfl) ?_
      refine LOps.st rfl rfl rfl (LOp.extract rfl rfl rfl) ?_
      refine LOps.st rfl rfl rfl (LOp.assign rfl rfl) ?_
      refine LOps.st rfl rfl rfl (LOp.assign rfl rfl) ?_
      refine LOps.nil ?_
      refine thn_n ?_
      refine LW.seq ?_
      refine LW.seq ?_
      refine LW.draw (by kernel_rfl) (by kernel_rfl) ?_
      refine LO.st rfl rfl rfl (LOp.move rfl rfl) ?_
      refine LO.st rfl rfl rfl (LOp.not rfl rfl) ?_
      refine LO.st rfl rfl rfl (LOp.move rfl rfl) ?_
      refine LO.gd rfl rfl rfl rfl rfl (LOp.fieldAddr rfl rfl ft42_0) ?_
      refine LO.gd rfl rfl rfl rfl rfl (LOp.load rfl rfl rfl vt3 rfl rfl) ?_
      refine LO.gd rfl rfl rfl rfl rfl (LOp.move rfl rfl) ?_
      refine LO.gd rfl rfl rfl rfl rfl (LOp.move rfl rfl) ?_
      refine LO.gd rfl rfl rfl rfl rfl (LOp.call rfl rfl rfl (by kernel_rfl) (c142 (id := 0) rfl (hx.2.2 _ _ hp))) ?_
      refine LO.gd rfl rfl rfl rfl rfl (LOp.bin rfl rfl rfl rfl) ?_
      refine LO.st rfl rfl rfl (LOp.pickF rfl rfl rfl) ?_
      refine LO.nil ?_
      refine thn_n ?_
      refine LW.cond rfl (fun g2 => ?_) (fun g2 => ?_)
      · -- g2 is True
        refine LW.seq ?_
        refine LW.region ?_
        refine LOps.st rfl rfl rfl (LOp.assign rfl rfl) ?_
        refine LOps.st rfl rfl rfl (LOp.assign rfl rfl) ?_
        refine LOps.nil ?_
        refine thn_n ?_
        refine LW.ret ?_
        refine thn_r ?_
        refine inBlk_r ?_
        refine thn_r ?_
        refine thn_r ?_
        refine inBlk_r ?_
        refine thn_r ?_
        refine fin_retW (env' := [(2, .nilmap), (3, .p (.bool false))]) (H' := []) (Weak.of 0 ⟨rfl, rfl, trivial⟩ rfl rfl rfl rfl) (.two (.tmp rfl) (.tmp rfl)) (.inr ⟨?_, rfl, rfl⟩)
        rw [← hx.2.1, placesGo_at hy]
        first | (simp only [hp]; done) | (simp only [hp]; rw [if_pos (of_decide_eq_true g2)]; done) | (simp only [hp, hq]; split <;> rfl)
      · -- g2 is False
        refine LW.skip ?_
        refine thn_n ?_
        refine LW.seq ?_
        refine LW.region ?_
        refine LOps.st rfl rfl rfl (LOp.load rfl rfl rfl vt42 rfl rfl) ?_
        refine LOps.st rfl rfl rfl (LOp.call rfl rfl rfl (by kernel_rfl) (LC.pure (c50 (b := y)) (.cons Conv.p .nil))) ?_
        refine LOps.st rfl rfl rfl (LOp.alloc rfl zt24 rfl rfl) ?_
        refine LOps.st rfl rfl rfl (LOp.store rfl rfl rfl rfl vt24 rfl rfl rfl rfl) ?_
        refine LOps.nil ?_
        refine thn_n ?_
        refine LW.seq ?_
        refine LW.seq ?_
        refine LW.region ?_
        refine LOps.st rfl rfl rfl (LOp.move rfl rfl) ?_
        refine LOps.st rfl rfl rfl (LOp.load rfl rfl rfl vt24 rfl rfl) ?_
        rcases hq : findE x.2 (nm y) with _ | q
        · -- case 0
          refine LOps.st rfl rfl rfl ((LOp.getMiss idKey hq rfl rfl rfl rfl mt91 zl3 rfl)) ?_
          refine LOps.st rfl rfl rfl (LOp.move rfl rfl) ?_
          refine LOps.st rfl rfl rfl (LOp.extract rfl rfl rfl) ?_
          refine LOps.st rfl rfl rfl (LOp.extract rfl rfl rfl) ?_
          refine LOps.st rfl rfl rfl (LOp.assign rfl rfl) ?_
          refine LOps.st rfl rfl rfl (LOp.assign rfl rfl) ?_
          refine LOps.nil ?_
          refine thn_n ?_
          refine LW.seq ?_
          refine LW.region ?_
          refine LOps.st rfl rfl rfl (LOp.move rfl rfl) ?_
          refine LOps.nil ?_
          refine thn_n ?_
          refine LW.condF rfl ?_
          refine LW.skip ?_
          refine thn_n ?_
          refine LW.region ?_
          refine LOps.st rfl rfl rfl (LOp.move rfl rfl) ?_
          refine LOps.st rfl rfl rfl (LOp.load rfl rfl rfl vt24 rfl rfl) ?_
          refine LOps.st rfl rfl rfl (LOp.move rfl rfl) ?_
          refine LOps.st rfl rfl rfl (LOp.setNew (f := idP) (g := ixV) (m := x.2) (a := nm y) (v := ((x.1 : Nat) : Int)) idKey hq (.inl rfl) rfl rfl rfl rfl rfl mt91 rfl) ?_
          refine LOps.nil ?_
          refine inBlk_n ?_
          refine thn_n ?_
          refine LW.region ?_
          refine LOps.st rfl rfl rfl (LOp.isEq (y := .p (.int .i64 ((x.1 + 1 : Nat) : Int))) (LOp.bin rfl rfl rfl rfl) (by rw [wrapI (by omega) (by omega)]; rfl)) ?_
          refine LOps.st rfl rfl rfl (LOp.move rfl rfl) ?_
          refine LOps.nil ?_
          refine thn_n ?_
          refine ⟨(x.1 + 1, x.2 ++ [(nm y, ((x.1 : Nat) : Int))]), ?_, ?_, Weak.of 2 ⟨rfl, rfl, rfl, rfl, rfl, rfl, trivial⟩ rfl rfl rfl (lowObjs_cons rfl (lowObjs_cons (entsLow (fun _ => rfl) _) rfl))⟩
          · simp only; omega
          · refine ⟨hlt, ?_, fun k v h => ?_⟩
            · rw [← hx.2.1, placesGo_at hy]; simp only [hp, hq]; rw [if_neg (of_decide_eq_false g2)]
            · rw [findE_append] at h
              rcases hk : findE x.2 k with _ | u
              · rw [hk] at h; simp only [Option.none_or] at h; split at h <;> cases h; omega
              · rw [hk] at h; cases h; exact hx.2.2 k _ hk
        · -- case 1
          refine LOps.st rfl rfl rfl ((LOp.getHit idKey hq rfl rfl rfl rfl mt91 rfl)) ?_
          refine LOps.st rfl rfl rfl (LOp.move rfl rfl) ?_
          refine LOps.st rfl rfl rfl (LOp.extract rfl rfl rfl) ?_
          refine LOps.st rfl rfl rfl (LOp.extract rfl rfl rfl) ?_
          refine LOps.st rfl rfl rfl (LOp.assign rfl rfl) ?_
          refine LOps.st rfl rfl rfl (LOp.assign rfl rfl) ?_
          refine LOps.nil ?_
          refine thn_n ?_
          refine LW.seq ?_
          refine LW.region ?_
          refine LOps.st rfl rfl rfl (LOp.move rfl rfl) ?_
          refine LOps.nil ?_
          refine thn_n ?_
          refine LW.condT rfl ?_
          refine LW.seq ?_
          refine LW.region ?_
          refine LOps.st rfl rfl rfl (LOp.assign rfl rfl) ?_
          refine LOps.st rfl rfl rfl (LOp.assign rfl rfl) ?_
          refine LOps.nil ?_
          refine thn_n ?_
          refine LW.ret ?_
          refine thn_r ?_
          refine inBlk_r ?_
          refine thn_r ?_
          refine thn_r ?_
          refine inBlk_r ?_
          refine thn_r ?_
          refine fin_retW (env' := [(2, .nilmap), (3, .p (.bool false))]) (H' := []) (Weak.of 0 ⟨rfl, rfl, trivial⟩ rfl rfl rfl rfl) (.two (.tmp rfl) (.tmp rfl)) (.inr ⟨?_, rfl, rfl⟩)
          rw [← hx.2.1, placesGo_at hy]
          first | (simp only [hp]; done) | (simp only [hp]; rw [if_pos (of_decide_eq_true g2)]; done) | (simp only [hp, hq]; split <;> rfl)
  · -- g1 is False
    refine LW.exit ?_
    refine thn_e ?_
    refine thn_e ?_
    refine inBlk_self ?_
    refine thn_n ?_
    refine LW.seq ?_
    have hnlt : ¬ x.1 < l.length := by simpa using g1
    have hend : x.1 = l.length := by omega
    refine LW.region ?_
    refine LOps.st rfl rfl rfl (LOp.move rfl rfl) ?_
    refine LOps.st rfl rfl rfl (LOp.assign rfl rfl) ?_
    refine LOps.st rfl rfl rfl (LOp.assign rfl rfl) ?_
    refine LOps.nil ?_
    refine thn_n ?_
    refine LW.ret ?_
    refine fin_retW (env' := [(2, .map 1), (3, .p (.bool true))]) (H' := [.box [.p (.slice 5 (l.map blkP))], .map (entsOf idP ixV x.2)]) (Weak.of 2 ⟨rfl, rfl, trivial⟩ rfl rfl rfl (lowObjs_cons rfl (lowObjs_cons (entsLow (fun _ => rfl) _) rfl))) (.two (.tmp rfl) (.tmp rfl)) (.inl ⟨x.2, ?_, rfl, rfl⟩)
    rw [← hx.2.1, hend, List.drop_length]; rfl

end Go.Mg

namespace Go.Mg

/-- What holds of a map of places. -/
structure PInv (l : List Bk) (m : List (ID × Int)) (n : Nat) : Prop where
  zero : findE m (0, 0) = some (-1)
  known : ∀ k i, findE m k = some i → (i = -1 ∧ k = (0, 0)) ∨ ∃ b p, 0 ≤ i ∧ i < n ∧ l[i.toNat]? = some b ∧ nm b = k ∧ findE m b.Parent = some p ∧ p < i ∧ -1 ≤ p ∧ slotIx l p < b.Slot
  names : ∀ i b, i < n → l[i]? = some b → findE m (nm b) = some (i : Int)

theorem PInv.step {l : List Bk} {m : List (ID × Int)} {n : Nat} {y : Bk} {p : Int} (h : PInv l m n) (hy : l[n]? = some y) (hp : findE m y.Parent = some p) (hs : ¬ y.Slot ≤ slotIx l p) (hq : findE m (nm y) = none) :
    PInv l (m ++ [(nm y, (n : Int))]) (n + 1) := by
  have old : ∀ k i, findE m k = some i → findE (m ++ [(nm y, (n : Int))]) k = some i := fun k i hk => by rw [findE_append, hk]; rfl
  refine ⟨old _ _ h.zero, fun k i hk => ?_, fun i b hi hb => ?_⟩
  · rw [findE_append] at hk
    rcases hm : findE m k with _ | j
    · rw [hm] at hk
      simp only [Option.none_or] at hk
      split at hk
      · rename_i e
        cases hk
        right
        refine ⟨y, p, by omega, by omega, by simpa using hy, e, old _ _ hp, ?_, ?_, by omega⟩
        · rcases h.known _ _ hp with ⟨h1, -⟩ | ⟨b, q, h1, h2, -⟩ <;> omega
        · rcases h.known _ _ hp with ⟨h1, -⟩ | ⟨b, q, h1, h2, -⟩ <;> omega
      · cases hk
    · rw [hm] at hk
      cases hk
      rcases h.known _ _ hm with h1 | ⟨b, q, h1, h2, h3, h4, h5, h6, h7, h8⟩
      · exact .inl h1
      · exact .inr ⟨b, q, h1, by omega, h3, h4, old _ _ h5, h6, h7, h8⟩
  · rcases Nat.lt_succ_iff_lt_or_eq.1 hi with hi | hi
    · exact old _ _ (h.names i b hi hb)
    · subst hi
      rw [hy] at hb; cases hb
      rw [findE_append, hq]; simp

theorem placesGo_inv {l : List Bk} : ∀ (r : List Bk) (i : Nat) (m m' : List (ID × Int)), r = l.drop i → i ≤ l.length → PInv l m i → placesGo l r i m = some m' → PInv l m' l.length
  | [], i, m, m', hr, hi, h, hg => by
    cases hg
    have : l.length ≤ i := by
      have := congrArg List.length hr
      simp at this; omega
    rw [show l.length = i by omega]; exact h
  | y :: r, i, m, m', hr, hi, h, hg => by
    have hil : i < l.length := by
      have := congrArg List.length hr
      simp at this; omega
    have hd := List.drop_eq_getElem_cons hil
    rw [hd, List.cons.injEq] at hr
    obtain ⟨rfl, rfl⟩ := hr
    unfold placesGo at hg
    split at hg
    · cases hg
    · rename_i p hp
      split at hg
      · cases hg
      · rename_i hs
        split at hg
        · cases hg
        · rename_i hq
          exact placesGo_inv _ (i + 1) _ m' rfl (by omega) (h.step (List.getElem?_eq_getElem hil) hp hs hq) hg

theorem places_inv0 {l : List Bk} : ∀ (k : ID) (i : Int), findE [(((0, 0) : ID), (-1 : Int))] k = some i → (i = -1 ∧ k = (0, 0)) ∨ ∃ b p, 0 ≤ i ∧ i < (0 : Nat) ∧ l[i.toNat]? = some b ∧ nm b = k ∧ findE [(((0, 0) : ID), (-1 : Int))] b.Parent = some p ∧ p < i ∧ -1 ≤ p ∧ slotIx l p < b.Slot := by
  intro k i hk
  unfold findE findE at hk
  split at hk
  · rename_i e; cases hk; exact .inl ⟨rfl, e.symm⟩
  · cases hk

theorem places_inv {l : List Bk} {m : List (ID × Int)} (h : places l = some m) : PInv l m l.length :=
  placesGo_inv l 0 _ m rfl (Nat.zero_le _) ⟨rfl, places_inv0, fun i b hi => by omega⟩ h

/-- A block, and all below it. -/
def chainF (l : List Bk) : Nat → ID → Int → List ID
  | 0, id, _ => [id]
  | n + 1, id, i => if i = -1 then [id] else match l[i.toNat]? with
    | none => [id]
    | some b => match places l with
      | none => [id]
      | some m => match findE m b.Parent with
        | none => [id]
        | some p => id :: chainF l n b.Parent p

def chainOf (l : List Bk) (id : ID) : List ID := match places l with
  | none => []
  | some m => match findE m id with
    | none => []
    | some i => chainF l (i + 1).toNat id i
theorem chainF_more {l : List Bk} {m : List (ID × Int)} (hpl : places l = some m) : ∀ (n : Nat) (k : Nat) (id : ID) (i : Int), i + 1 ≤ n → n ≤ k → findE m id = some i → chainF l k id i = chainF l n id i := by
  intro n
  induction n with
  | zero =>
    intro k id i hi hk hf
    have : i = -1 := by
      rcases (places_inv hpl).known _ _ hf with ⟨h, -⟩ | ⟨_, _, h, -⟩ <;> omega
    cases k with
    | zero => rfl
    | succ k => simp [chainF, this]
  | succ n ih =>
    intro k id i hi hk hf
    obtain ⟨k, rfl⟩ : ∃ j, k = j + 1 := ⟨k - 1, by omega⟩
    rcases (places_inv hpl).known _ _ hf with ⟨h, -⟩ | ⟨b, p, h0, h1, h2, h3, h4, h5, h6, h7⟩
    · simp [chainF, h]
    · simp only [chainF, if_neg (show i ≠ -1 by omega), h2, hpl, h4]
      rw [ih k b.Parent p (by omega) (by omega) h4]

theorem chainF_step {l : List Bk} {m : List (ID × Int)} {id : ID} {i p : Int} {b : Bk} (hpl : places l = some m) (hne : i ≠ -1) (h0 : 0 ≤ i) (hb : l[i.toNat]? = some b) (hp : findE m b.Parent = some p) (hpi : p < i) (hp1 : -1 ≤ p) :
    chainF l (i + 1).toNat id i = id :: chainF l (p + 1).toNat b.Parent p := by
  obtain ⟨n, hn⟩ : ∃ n, (i + 1).toNat = n + 1 := ⟨i.toNat, by omega⟩
  rw [hn]
  simp only [chainF, if_neg hne, hb, hpl, hp]
  rw [chainF_more hpl (p + 1).toNat n b.Parent p (by omega) (by omega) hp]

theorem map_get' {α : Type} {f : α → PV} {l : List α} {i : Int} {a : α} (h : l[i.toNat]? = some a) : (l.map f)[i.toNat]? = some (f a) := by
  simp [h]

theorem Conv.zs' {H : List LObj} {m : Nat} {xs : List PV} (h : xs = []) : Conv true H .zs (.slice m xs) := by subst h; exact Conv.zs
theorem Conv.vecAll' {H : List LObj} {m id n len : Nat} {xs ys : List PV} (hH : H[id]? = some (.vec m xs)) (hn : n = xs.length) (hl : len = xs.length) (h : ys = xs) : Conv true H (.vec m id n 0 len) (.slice m ys) := by
  subst h; exact Conv.vecAll hH hn hl
end Go.Mg

namespace Go.Mg
open Go.Proofs

theorem c94N {l : List Bk} {H : List LObj} (h : places l = none) : LC Try.prog 94 [.p (.slice 5 (l.map blkP))] H (Is (.tup [.nilmap, .p (.bool false)]) H) := by
  have h0 : LC Try.prog 94 ([PV.slice 5 (l.map blkP)].map .p) [] (Is (.tup [.nilmap, .p (.bool false)]) []) := c94.mono fun x H hx => by
    rcases hx with ⟨m, hm, -⟩ | ⟨-, h1, h2⟩
    · rw [h] at hm; cases hm
    · exact ⟨h1, h2⟩
  have := LC.frame (H := H) (d := H.length) h0 (.cons Conv.p .nil) (by rw [lenC_of])
  simpa [LV.shift, LV.shifts] using this

theorem c94S {l : List Bk} {m : List (ID × Int)} {H H1 H2 : List LObj} {d : Nat} (h : places l = some m) (hd : lenC H = some d) (h1 : appC H (.box [.p (.slice 5 (l.map blkP))]) = some H1) (h2 : appC H1 (.map (entsOf idP ixV m)) = some H2) :
    LC Try.prog 94 [.p (.slice 5 (l.map blkP))] H (Is (.tup [.map (d + 1), .p (.bool true)]) H2) := by
  have h0 : LC Try.prog 94 ([PV.slice 5 (l.map blkP)].map .p) [] (Is (.tup [.map 1, .p (.bool true)]) [.box [.p (.slice 5 (l.map blkP))], .map (entsOf idP ixV m)]) := c94.mono fun x H hx => by
    rcases hx with ⟨m', hm, h1, h2⟩ | ⟨h1, -⟩
    · rw [h] at hm; cases hm; exact ⟨h1, h2⟩
    · rw [h] at h1; cases h1
  have := LC.frame (H := H) (d := d) h0 (.cons Conv.p .nil) hd
  have e1 := appC_eq h1
  have e2 := appC_eq h2
  subst e1; subst e2
  simpa [LV.shift, LV.shifts, LObj.shift, entsOf, List.append_assoc, Function.comp_def] using this

set_option maxRecDepth 100000 in
theorem c39n {l : List Bk} {id : ID} (hpl : places l = none) : LPure Try.prog 39 [.slice 5 (l.map blkP), idP id] [.slice 2 ((chainOf l id).map idP)] := by
  refine LPure.start Try.func39 rfl rfl rfl rfl ?_
  refine LW.seq ?_
  refine LW.region ?_
  refine LOps.st rfl rfl rfl (LOp.box rfl rfl rfl rfl rfl) ?_
  refine LOps.st rfl rfl rfl (LOp.assign rfl rfl) ?_
  refine LOps.nil ?_
  refine thn_n ?_
  refine LW.scope ?_
  refine LW.seq ?_
  refine LW.region ?_
  refine LOps.st rfl rfl rfl (LOp.move rfl rfl) ?_
  refine LOps.st rfl rfl rfl ((LOp.call rfl rfl rfl (by kernel_rfl) (c94N hpl))) ?_
  refine LOps.st rfl rfl rfl (LOp.move rfl rfl) ?_
  refine LOps.st rfl rfl rfl (LOp.extract rfl rfl rfl) ?_
  refine LOps.st rfl rfl rfl (LOp.extract rfl rfl rfl) ?_
  refine LOps.st rfl rfl rfl (LOp.assign rfl rfl) ?_
  refine LOps.st rfl rfl rfl (LOp.assign rfl rfl) ?_
  refine LOps.nil ?_
  refine thn_n ?_
  refine LW.seq ?_
  refine LW.seq ?_
  refine LW.region ?_
  refine LOps.st rfl rfl rfl (LOp.move rfl rfl) ?_
  refine LOps.st rfl rfl rfl (LOp.load rfl rfl rfl vt24 rfl rfl) ?_
  refine LOps.st rfl rfl rfl ((LOp.getNil idKey rfl rfl rfl mt91 zl3 rfl)) ?_
  refine LOps.st rfl rfl rfl (LOp.move rfl rfl) ?_
  refine LOps.st rfl rfl rfl (LOp.extract rfl rfl rfl) ?_
  refine LOps.st rfl rfl rfl (LOp.extract rfl rfl rfl) ?_
  refine LOps.st rfl rfl rfl (LOp.assign rfl rfl) ?_
  refine LOps.st rfl rfl rfl (LOp.assign rfl rfl) ?_
  refine LOps.nil ?_
  refine thn_n ?_
  refine LW.seq ?_
  refine LW.region ?_
  refine LOps.st rfl rfl rfl (LOp.move rfl rfl) ?_
  refine LOps.st rfl rfl rfl (LOp.not rfl rfl) ?_
  refine LOps.nil ?_
  refine thn_n ?_
  refine LW.condT rfl ?_
  refine LW.seq ?_
  refine LW.region ?_
  refine LOps.st rfl rfl rfl (LOp.assign rfl rfl) ?_
  refine LOps.nil ?_
  refine thn_n ?_
  refine LW.ret ?_
  refine thn_r ?_
  refine noGo_r ?_
  refine finP_ret (.one (.tmp rfl)) ?_
  exact Conv.zs' (by simp [chainOf, hpl])

set_option maxRecDepth 100000 in
theorem c39s {l : List Bk} {id : ID} {m : List (ID × Int)} (hl : l.length ≤ 1000) (hpl : places l = some m) : LPure Try.prog 39 [.slice 5 (l.map blkP), idP id] [.slice 2 ((chainOf l id).map idP)] := by
  refine LPure.start Try.func39 rfl rfl rfl rfl ?_
  refine LW.seq ?_
  refine LW.region ?_
  refine LOps.st rfl rfl rfl (LOp.box rfl rfl rfl rfl rfl) ?_
  refine LOps.st rfl rfl rfl (LOp.assign rfl rfl) ?_
  refine LOps.nil ?_
  refine thn_n ?_
  refine LW.jumpsOf (l := 0) (E := fun x : List ID × ID × Int => [(0, .p (.slice 5 (l.map blkP))), (3, .ptr 0 0), (5, .map 2), (9, .vec 2 3 (x.1.map idP).length 0 (x.1.map idP).length)]) (O := fun x => [.box [.p (.int .u64 x.2.1.1), .p (.int .u64 x.2.1.2)], .box [.p (.slice 5 (l.map blkP))], .map (entsOf idP ixV m), .vec 2 (x.1.map idP)]) (G := fun x => findE m x.2.1 = some x.2.2 ∧ x.1.length + (x.2.2 + 1).toNat ≤ 1001 ∧ chainOf l id = x.1 ++ chainF l (x.2.2 + 1).toNat x.2.1 x.2.2) (meas := fun x => (x.2.2 + 1).toNat) rfl ?_ (fun x hx => ?_)
  · -- as far as the label, and on
    refine LW.seq ?_
    refine LW.region ?_
    refine LOps.st rfl rfl rfl (LOp.move rfl rfl) ?_
    refine LOps.st rfl rfl rfl ((LOp.call rfl rfl rfl (by kernel_rfl) (c94S hpl rfl rfl rfl))) ?_
    refine LOps.st rfl rfl rfl (LOp.move rfl rfl) ?_
    refine LOps.st rfl rfl rfl (LOp.extract rfl rfl rfl) ?_
    refine LOps.st rfl rfl rfl (LOp.extract rfl rfl rfl) ?_
    refine LOps.st rfl rfl rfl (LOp.assign rfl rfl) ?_
    refine LOps.st rfl rfl rfl (LOp.assign rfl rfl) ?_
    refine LOps.nil ?_
    refine thn_n ?_
    refine LW.seq ?_
    refine LW.seq ?_
    refine LW.region ?_
    refine LOps.st rfl rfl rfl (LOp.move rfl rfl) ?_
    refine LOps.st rfl rfl rfl (LOp.load rfl rfl rfl vt24 rfl rfl) ?_
    rcases hf : findE m id with _ | i
    · -- case 0
      refine LOps.st rfl rfl rfl ((LOp.getMiss idKey hf rfl rfl rfl rfl mt91 zl3 rfl)) ?_
      refine LOps.st rfl rfl rfl (LOp.move rfl rfl) ?_
      refine LOps.st rfl rfl rfl (LOp.extract rfl rfl rfl) ?_
      refine LOps.st rfl rfl rfl (LOp.extract rfl rfl rfl) ?_
      refine LOps.st rfl rfl rfl (LOp.assign rfl rfl) ?_
      refine LOps.st rfl rfl rfl (LOp.assign rfl rfl) ?_
      refine LOps.nil ?_
      refine thn_n ?_
      refine LW.seq ?_
      refine LW.region ?_
      refine LOps.st rfl rfl rfl (LOp.move rfl rfl) ?_
      refine LOps.st rfl rfl rfl (LOp.not rfl rfl) ?_
      refine LOps.nil ?_
      refine thn_n ?_
      refine LW.condT rfl ?_
      refine LW.seq ?_
      refine LW.region ?_
      refine LOps.st rfl rfl rfl (LOp.assign rfl rfl) ?_
      refine LOps.nil ?_
      refine thn_n ?_
      refine LW.ret ?_
      refine thn_r ?_
      refine jmp_r ?_
      refine finP_ret (.one (.tmp rfl)) ?_
      refine Conv.zs' ?_
      simp [chainOf, hpl, hf]
    · -- case 1
      refine LOps.st rfl rfl rfl ((LOp.getHit idKey hf rfl rfl rfl rfl mt91 rfl)) ?_
      refine LOps.st rfl rfl rfl (LOp.move rfl rfl) ?_
      refine LOps.st rfl rfl rfl (LOp.extract rfl rfl rfl) ?_
      refine LOps.st rfl rfl rfl (LOp.extract rfl rfl rfl) ?_
      refine LOps.st rfl rfl rfl (LOp.assign rfl rfl) ?_
      refine LOps.st rfl rfl rfl (LOp.assign rfl rfl) ?_
      refine LOps.nil ?_
      refine thn_n ?_
      refine LW.seq ?_
      refine LW.region ?_
      refine LOps.st rfl rfl rfl (LOp.move rfl rfl) ?_
      refine LOps.st rfl rfl rfl (LOp.not rfl rfl) ?_
      refine LOps.nil ?_
      refine thn_n ?_
      refine LW.condF rfl ?_
      refine LW.skip ?_
      refine thn_n ?_
      refine LW.seq ?_
      refine LW.region ?_
      refine LOps.st rfl rfl rfl (LOp.assign rfl rfl) ?_
      refine LOps.nil ?_
      refine thn_n ?_
      refine LW.seq ?_
      refine LW.label ?_
      refine thn_n ?_
      refine LW.seq ?_
      refine LW.region ?_
      refine LOps.st rfl rfl rfl (LOp.move rfl rfl) ?_
      refine LOps.st rfl rfl rfl (LOp.load rfl rfl rfl vt24 rfl rfl) ?_
      refine LOps.st rfl rfl rfl (LOp.buildSlice rfl st31 rfl rfl rfl rfl rfl) ?_
      refine LOps.st rfl rfl rfl (LOp.appendZ rfl rfl rfl rfl Src.p st31 (by simp only [List.length_singleton]; omega) rfl) ?_
      refine LOps.st rfl rfl rfl (LOp.assign rfl rfl) ?_
      refine LOps.nil ?_
      refine thn_n ?_
      refine LW.seq ?_
      refine LW.seq ?_
      refine LW.region ?_
      refine LOps.st rfl rfl rfl (LOp.move rfl rfl) ?_
      refine LOps.st rfl rfl rfl (LOp.load rfl rfl rfl vt24 rfl rfl) ?_
      refine LOps.st rfl rfl rfl ((LOp.getHit idKey hf rfl rfl rfl rfl mt91 rfl)) ?_
      refine LOps.st rfl rfl rfl (LOp.assign rfl rfl) ?_
      refine LOps.nil ?_
      refine thn_n ?_
      refine LW.seq ?_
      refine LW.region ?_
      refine LOps.st rfl rfl rfl (LOp.move rfl rfl) ?_
      refine LOps.st rfl rfl rfl (LOp.bin rfl rfl rfl rfl) ?_
      refine LOps.nil ?_
      refine thn_n ?_
      refine LW.cond rfl (fun g1 => ?_) (fun g1 => ?_)
      · -- g1 is True
        refine LW.seq ?_
        have hne : i ≠ -1 := by simpa using g1
        obtain ⟨h1, -⟩ | ⟨b, p, h0, hlt, hb, hnb, hp, hpi, hp1, hs⟩ := (places_inv hpl).known _ _ hf
        · exact absurd h1 hne
        have hc : chainOf l id = id :: chainF l (p + 1).toNat b.Parent p := by
          simp only [chainOf, hpl, hf]
          exact chainF_step hpl hne h0 hb hp hpi hp1
        refine LW.region ?_
        refine LOps.st rfl rfl rfl (LOp.move rfl rfl) ?_
        refine LOps.st rfl rfl rfl (LOp.move rfl rfl) ?_
        refine LOps.st rfl rfl rfl (LOp.indexAddr rfl rfl rfl st27 (by omega) (map_get' hb) rfl) ?_
        refine LOps.st rfl rfl rfl (LOp.fieldAddrC rfl rfl ft42_2 rfl) ?_
        refine LOps.st rfl rfl rfl (LOp.loadC rfl rfl rfl vt24 rfl rfl) ?_
        refine LOps.st rfl rfl rfl (LOp.store rfl rfl rfl rfl vt24 rfl rfl rfl rfl) ?_
        refine LOps.nil ?_
        refine thn_n ?_
        refine LW.goto ?_
        refine thn_g ?_
        refine jmp_g ?_
        refine ⟨([id], b.Parent, p), ?_, Weak.of 4 ⟨rfl, rfl, rfl, rfl, trivial⟩ rfl rfl rfl (lowObjs_cons rfl (lowObjs_cons rfl (lowObjs_cons (entsLow (fun _ => rfl) _) rfl)))⟩
        · exact ⟨hp, by simp only [List.length_singleton]; omega, hc⟩
      · -- g1 is False
        refine LW.skip ?_
        refine thn_n ?_
        refine LW.seq ?_
        have hend : i = -1 := by simpa using g1
        refine LW.region ?_
        refine LOps.st rfl rfl rfl (LOp.move rfl rfl) ?_
        refine LOps.st rfl rfl rfl (LOp.assign rfl rfl) ?_
        refine LOps.nil ?_
        refine thn_n ?_
        refine LW.ret ?_
        refine jmp_r ?_
        refine finP_ret (.one (.tmp rfl)) ?_
        refine Conv.vecAll' rfl rfl rfl ?_
        rw [show chainOf l id = [id] by simp only [chainOf, hpl, hf, hend]; rfl]; rfl
  · -- from the label
    refine LW.seq ?_
    refine LW.skip ?_
    refine thn_n ?_
    refine LW.seq ?_
    refine LW.region ?_
    refine LOps.st rfl rfl rfl (LOp.move rfl rfl) ?_
    refine LOps.st rfl rfl rfl (LOp.load rfl rfl rfl vt24 rfl rfl) ?_
    refine LOps.st rfl rfl rfl (LOp.buildSlice rfl st31 rfl rfl rfl rfl rfl) ?_
    refine LOps.st rfl rfl rfl (LOp.appendM (f := idP) (xs := x.1) (ys := [x.2.1]) rfl rfl rfl rfl rfl st31 (by simp only [List.length_singleton]; omega) rfl) ?_
    refine LOps.st rfl rfl rfl (LOp.assign rfl rfl) ?_
    refine LOps.nil ?_
    refine thn_n ?_
    refine LW.seq ?_
    refine LW.seq ?_
    refine LW.region ?_
    refine LOps.st rfl rfl rfl (LOp.move rfl rfl) ?_
    refine LOps.st rfl rfl rfl (LOp.load rfl rfl rfl vt24 rfl rfl) ?_
    refine LOps.st rfl rfl rfl ((LOp.getHit idKey hx.1 rfl rfl rfl rfl mt91 rfl)) ?_
    refine LOps.st rfl rfl rfl (LOp.assign rfl rfl) ?_
    refine LOps.nil ?_
    refine thn_n ?_
    refine LW.seq ?_
    refine LW.region ?_
    refine LOps.st rfl rfl rfl (LOp.move rfl rfl) ?_
    refine LOps.st rfl rfl rfl (LOp.bin rfl rfl rfl rfl) ?_
    refine LOps.nil ?_
    refine thn_n ?_
    refine LW.cond rfl (fun g2 => ?_) (fun g2 => ?_)
    · -- g2 is True
      refine LW.seq ?_
      have hne : x.2.2 ≠ -1 := by simpa using g2
      obtain ⟨h1, -⟩ | ⟨b, p, h0, hlt, hb, hnb, hp, hpi, hp1, hs⟩ := (places_inv hpl).known _ _ hx.1
      · exact absurd h1 hne
      have hc := chainF_step (id := x.2.1) hpl hne h0 hb hp hpi hp1
      refine LW.region ?_
      refine LOps.st rfl rfl rfl (LOp.move rfl rfl) ?_
      refine LOps.st rfl rfl rfl (LOp.move rfl rfl) ?_
      refine LOps.st rfl rfl rfl (LOp.indexAddr rfl rfl rfl st27 (by omega) (map_get' hb) rfl) ?_
      refine LOps.st rfl rfl rfl (LOp.fieldAddrC rfl rfl ft42_2 rfl) ?_
      refine LOps.st rfl rfl rfl (LOp.loadC rfl rfl rfl vt24 rfl rfl) ?_
      refine LOps.st rfl rfl rfl (LOp.store rfl rfl rfl rfl vt24 rfl rfl rfl rfl) ?_
      refine LOps.nil ?_
      refine thn_n ?_
      refine LW.goto ?_
      refine thn_g ?_
      refine jmp_g ?_
      refine ⟨(x.1 ++ [x.2.1], b.Parent, p), ?_, ?_, Weak.of 4 ⟨rfl, rfl, rfl, rfl, trivial⟩ rfl rfl rfl (lowObjs_cons rfl (lowObjs_cons rfl (lowObjs_cons (entsLow (fun _ => rfl) _) rfl)))⟩
      · simp only; omega
      · refine ⟨hp, ?_, ?_⟩
        · have := hx.2.1; simp only [List.length_append, List.length_singleton]; omega
        · rw [hx.2.2, hc, List.append_assoc]; rfl
    · -- g2 is False
      refine LW.skip ?_
      refine thn_n ?_
      refine LW.seq ?_
      have hend : x.2.2 = -1 := by simpa using g2
      refine LW.region ?_
      refine LOps.st rfl rfl rfl (LOp.move rfl rfl) ?_
      refine LOps.st rfl rfl rfl (LOp.assign rfl rfl) ?_
      refine LOps.nil ?_
      refine thn_n ?_
      refine LW.ret ?_
      refine jmp_r ?_
      refine finP_ret (.one (.tmp rfl)) ?_
      refine Conv.vecAll' rfl rfl rfl ?_
      rw [hx.2.2, hend]; rfl

theorem c39 {l : List Bk} {id : ID} (hl : l.length ≤ 1000) : LPure Try.prog 39 [.slice 5 (l.map blkP), idP id] [.slice 2 ((chainOf l id).map idP)] := by
  rcases hpl : places l with _ | m
  · exact c39n hpl
  · exact c39s hl hpl

set_option maxRecDepth 100000 in
theorem c40 {l : List Bk} {a b : ID} (hl : l.length ≤ 1000) : LPure Try.prog 40 [.slice 5 (l.map blkP), idP a, idP b] [.bool (decide (indexOf (chainOf l b) a ≥ 0))] := by
  refine LPure.start Try.func40 rfl rfl rfl rfl ?_
  refine LW.seq ?_
  refine LW.region ?_
  refine LOps.st rfl rfl rfl (LOp.box rfl rfl rfl rfl rfl) ?_
  refine LOps.st rfl rfl rfl (LOp.box rfl rfl rfl rfl rfl) ?_
  refine LOps.st rfl rfl rfl (LOp.assign rfl rfl) ?_
  refine LOps.nil ?_
  refine thn_n ?_
  refine LW.seq ?_
  refine LW.draw (by kernel_rfl) (by kernel_rfl) ?_
  refine LO.st rfl rfl rfl (LOp.move rfl rfl) ?_
  refine LO.st rfl rfl rfl (LOp.load rfl rfl rfl vt24 rfl rfl) ?_
  refine LO.st rfl rfl rfl (LOp.call rfl rfl rfl (by kernel_rfl) (LC.pure (c39 hl) (.cons Conv.p (.cons Conv.p .nil)))) ?_
  refine LO.st rfl rfl rfl (LOp.load rfl rfl rfl vt24 rfl rfl) ?_
  refine LO.st rfl rfl rfl (LOp.call rfl rfl rfl (by kernel_rfl) (LC.pure c95 (.cons Conv.p (.cons Conv.p .nil)))) ?_
  refine LO.st rfl rfl rfl (LOp.assign rfl rfl) ?_
  refine LO.nil ?_
  refine thn_n ?_
  refine LW.ret ?_
  refine finP_ret (.one (.tmp rfl)) ?_
  exact Conv.p

end Go.Mg

namespace Go.Mg
open Go.Proofs

/-- What cursor.Move answers. -/
def moveOf (c : Cu) (l : List Bk) (head found : ID) (is : Bool) (slot : Int) : Cu :=
  let c' : Cu := if indexOf (chainOf l head) c.ID < 0 then ⟨(0, 0), slot, IntKind.i64.wrap (c.Revoked + 1)⟩ else c
  let at_ : Int := if indexOf (chainOf l head) c.ID < 0 then IntKind.i64.wrap ((chainOf l head).length - 1) else indexOf (chainOf l head) c.ID
  if is = true ∧ indexOf (chainOf l head) found ≥ 0 ∧ indexOf (chainOf l head) found < at_ then ⟨found, slot, c'.Revoked⟩ else c'

set_option maxRecDepth 100000 in
theorem c37 {c : Cu} {l : List Bk} {head found : ID} {is : Bool} {slot : Int} (hl : l.length ≤ 1000) : LPure Try.prog 37 [curP c, .slice 5 (l.map blkP), idP head, idP found, .bool is, .int .i64 slot] [curP (moveOf c l head found is slot)] := by
  refine LPure.start Try.func37 rfl rfl rfl rfl ?_
  refine LW.seq ?_
  refine LW.region ?_
  refine LOps.st rfl rfl rfl (LOp.box rfl rfl rfl rfl rfl) ?_
  refine LOps.st rfl rfl rfl (LOp.box rfl rfl rfl rfl rfl) ?_
  refine LOps.st rfl rfl rfl (LOp.box rfl rfl rfl rfl rfl) ?_
  refine LOps.st rfl rfl rfl (LOp.alloc rfl zt26 rfl rfl) ?_
  refine LOps.nil ?_
  refine thn_n ?_
  refine LW.seq ?_
  refine LW.region ?_
  refine LOps.st rfl rfl rfl (LOp.move rfl rfl) ?_
  refine LOps.st rfl rfl rfl (LOp.load rfl rfl rfl vt24 rfl rfl) ?_
  refine LOps.st rfl rfl rfl (LOp.call rfl rfl rfl (by kernel_rfl) (LC.pure (c39 hl) (.cons Conv.p (.cons Conv.p .nil)))) ?_
  refine LOps.st rfl rfl rfl (LOp.assign rfl rfl) ?_
  refine LOps.nil ?_
  refine thn_n ?_
  refine LW.seq ?_
  refine LW.region ?_
  refine LOps.st rfl rfl rfl (LOp.move rfl rfl) ?_
  refine LOps.st rfl rfl rfl (LOp.fieldAddr rfl rfl ft26_0) ?_
  refine LOps.st rfl rfl rfl (LOp.load rfl rfl rfl vt24 rfl rfl) ?_
  refine LOps.st rfl rfl rfl (LOp.call rfl rfl rfl (by kernel_rfl) (LC.pure c93 (.cons Conv.p (.cons Conv.p .nil)))) ?_
  refine LOps.st rfl rfl rfl (LOp.assign rfl rfl) ?_
  refine LOps.nil ?_
  refine thn_n ?_
  refine LW.seq ?_
  refine LW.block ?_
  refine LW.seq ?_
  refine LW.block ?_
  refine LW.seq ?_
  refine LW.block ?_
  refine LW.seq ?_
  refine LW.seq ?_
  refine LW.region ?_
  refine LOps.st rfl rfl rfl (LOp.move rfl rfl) ?_
  refine LOps.st rfl rfl rfl (LOp.bin rfl rfl rfl rfl) ?_
  refine LOps.st rfl rfl rfl (LOp.assign rfl rfl) ?_
  refine LOps.nil ?_
  refine thn_n ?_
  refine LW.cond rfl (fun g1 => ?_) (fun g1 => ?_)
  · -- g1 is True
    refine LW.exit ?_
    refine thn_e ?_
    refine inBlk_self ?_
    refine thn_n ?_
    refine LW.seq ?_
    refine LW.region ?_
    refine LOps.st rfl rfl rfl (LOp.move rfl rfl) ?_
    refine LOps.st rfl rfl rfl (LOp.fieldAddr rfl rfl ft26_2) ?_
    refine LOps.st rfl rfl rfl (LOp.load rfl rfl rfl vt3 rfl rfl) ?_
    refine LOps.st rfl rfl rfl (LOp.bin rfl rfl rfl rfl) ?_
    refine LOps.st rfl rfl rfl (LOp.build rfl bt26 rfl rfl rfl) ?_
    refine LOps.st rfl rfl rfl (LOp.store rfl rfl rfl rfl vt26 rfl rfl rfl rfl) ?_
    refine LOps.nil ?_
    refine thn_n ?_
    refine LW.region ?_
    refine LOps.st rfl rfl rfl (LOp.move rfl rfl) ?_
    refine LOps.st rfl rfl rfl (LOp.len rfl rfl (by kernel_rfl)) ?_
    refine LOps.st rfl rfl rfl (LOp.bin rfl rfl rfl rfl) ?_
    refine LOps.st rfl rfl rfl (LOp.assign rfl rfl) ?_
    refine LOps.nil ?_
    refine inBlk_n ?_
    refine thn_n ?_
    refine LW.seq ?_
    refine LW.seq ?_
    refine LW.region ?_
    refine LOps.st rfl rfl rfl (LOp.move rfl rfl) ?_
    refine LOps.st rfl rfl rfl (LOp.load rfl rfl rfl vt24 rfl rfl) ?_
    refine LOps.st rfl rfl rfl (LOp.call rfl rfl rfl (by kernel_rfl) (LC.pure c93 (.cons Conv.p (.cons Conv.p .nil)))) ?_
    refine LOps.st rfl rfl rfl (LOp.assign rfl rfl) ?_
    refine LOps.nil ?_
    refine thn_n ?_
    refine LW.seq ?_
    refine LW.region ?_
    refine LOps.st rfl rfl rfl (LOp.move rfl rfl) ?_
    refine LOps.st rfl rfl rfl (LOp.move rfl rfl) ?_
    refine LOps.cases 38 rfl (fun g2 => ?_) (fun g2 => ?_)
    · -- g2 is True
      refine LOps.gd rfl rfl rfl (gd g2 rfl) rfl (LOp.move rfl rfl) ?_
      refine LOps.gd rfl rfl rfl (gd g2 rfl) rfl (LOp.bin rfl rfl rfl rfl) ?_
      refine LOps.st rfl rfl rfl (LOp.pickT rfl (gdl g2 rfl) rfl) ?_
      refine LOps.st rfl rfl rfl (LOp.move rfl rfl) ?_
      refine LOps.cases 42 rfl (fun g3 => ?_) (fun g3 => ?_)
      · -- g3 is True
        refine LOps.gd rfl rfl rfl (gd g3 rfl) rfl (LOp.move rfl rfl) ?_
        refine LOps.gd rfl rfl rfl (gd g3 rfl) rfl (LOp.move rfl rfl) ?_
        refine LOps.gd rfl rfl rfl (gd g3 rfl) rfl (LOp.bin rfl rfl rfl rfl) ?_
        refine LOps.st rfl rfl rfl (LOp.pickT rfl (gdl g3 rfl) rfl) ?_
        refine LOps.nil ?_
        refine thn_n ?_
        refine LW.cond rfl (fun g4 => ?_) (fun g4 => ?_)
        · -- g4 is True
          refine LW.region ?_
          refine LOps.st rfl rfl rfl (LOp.load rfl rfl rfl vt24 rfl rfl) ?_
          refine LOps.st rfl rfl rfl (LOp.move rfl rfl) ?_
          refine LOps.st rfl rfl rfl (LOp.fieldAddr rfl rfl ft26_0) ?_
          refine LOps.st rfl rfl rfl (LOp.store rfl rfl rfl rfl vt24 rfl rfl rfl rfl) ?_
          refine LOps.st rfl rfl rfl (LOp.fieldAddr rfl rfl ft26_1) ?_
          refine LOps.st rfl rfl rfl (LOp.store rfl rfl rfl rfl vt3 rfl rfl rfl rfl) ?_
          refine LOps.nil ?_
          refine thn_n ?_
          refine LW.exit ?_
          refine inBlk_self ?_
          refine thn_n ?_
          refine LW.seq ?_
          refine LW.region ?_
          refine LOps.st rfl rfl rfl (LOp.load rfl rfl rfl vt26 rfl rfl) ?_
          refine LOps.st rfl rfl rfl (LOp.store rfl rfl rfl rfl vt26 rfl rfl rfl rfl) ?_
          refine LOps.nil ?_
          refine thn_n ?_
          refine LW.ret ?_
          refine finP_ret (.one (.cellAgg rfl rfl (by kernel_rfl) rfl)) ?_
          refine Conv.pe ?_
          simp only [decide_eq_true_eq, List.length_map] at g1 g2 g3 g4
          simp only [moveOf, curP]
          (repeat' split) <;> first | rfl | (exfalso; simp_all; done) | (exfalso; simp_all; omega)
        · -- g4 is False
          refine LW.skip ?_
          refine thn_n ?_
          refine LW.exit ?_
          refine inBlk_self ?_
          refine thn_n ?_
          refine LW.seq ?_
          refine LW.region ?_
          refine LOps.st rfl rfl rfl (LOp.load rfl rfl rfl vt26 rfl rfl) ?_
          refine LOps.st rfl rfl rfl (LOp.store rfl rfl rfl rfl vt26 rfl rfl rfl rfl) ?_
          refine LOps.nil ?_
          refine thn_n ?_
          refine LW.ret ?_
          refine finP_ret (.one (.cellAgg rfl rfl (by kernel_rfl) rfl)) ?_
          refine Conv.pe ?_
          simp only [decide_eq_true_eq, decide_eq_false_iff_not, List.length_map] at g1 g2 g3 g4
          simp only [moveOf, curP]
          (repeat' split) <;> first | rfl | (exfalso; simp_all; done) | (exfalso; simp_all; omega)
      · -- g3 is False
        refine LOps.sk rfl rfl rfl (gd g3 rfl) rfl rfl ?_
        refine LOps.sk rfl rfl rfl (gd g3 rfl) rfl rfl ?_
        refine LOps.sk rfl rfl rfl (gd g3 rfl) rfl rfl ?_
        refine LOps.st rfl rfl rfl (LOp.pickF rfl (gdl g3 rfl) rfl) ?_
        refine LOps.nil ?_
        refine thn_n ?_
        refine LW.condF rfl ?_
        refine LW.skip ?_
        refine thn_n ?_
        refine LW.exit ?_
        refine inBlk_self ?_
        refine thn_n ?_
        refine LW.seq ?_
        refine LW.region ?_
        refine LOps.st rfl rfl rfl (LOp.load rfl rfl rfl vt26 rfl rfl) ?_
        refine LOps.st rfl rfl rfl (LOp.store rfl rfl rfl rfl vt26 rfl rfl rfl rfl) ?_
        refine LOps.nil ?_
        refine thn_n ?_
        refine LW.ret ?_
        refine finP_ret (.one (.cellAgg rfl rfl (by kernel_rfl) rfl)) ?_
        refine Conv.pe ?_
        simp only [decide_eq_true_eq, decide_eq_false_iff_not] at g1 g2 g3
        simp only [moveOf, curP]
        (repeat' split) <;> first | rfl | (exfalso; simp_all; done) | (exfalso; simp_all; omega)
    · -- g2 is False
      refine LOps.sk rfl rfl rfl (gd g2 rfl) rfl rfl ?_
      refine LOps.sk rfl rfl rfl (gd g2 rfl) rfl rfl ?_
      refine LOps.st rfl rfl rfl (LOp.pickF rfl (gdl g2 rfl) rfl) ?_
      refine LOps.st rfl rfl rfl (LOp.move rfl rfl) ?_
      refine LOps.sk rfl rfl rfl rfl rfl rfl ?_
      refine LOps.sk rfl rfl rfl rfl rfl rfl ?_
      refine LOps.sk rfl rfl rfl rfl rfl rfl ?_
      refine LOps.st rfl rfl rfl (LOp.pickF rfl rfl rfl) ?_
      refine LOps.nil ?_
      refine thn_n ?_
      refine LW.condF rfl ?_
      refine LW.skip ?_
      refine thn_n ?_
      refine LW.exit ?_
      refine inBlk_self ?_
      refine thn_n ?_
      refine LW.seq ?_
      refine LW.region ?_
      refine LOps.st rfl rfl rfl (LOp.load rfl rfl rfl vt26 rfl rfl) ?_
      refine LOps.st rfl rfl rfl (LOp.store rfl rfl rfl rfl vt26 rfl rfl rfl rfl) ?_
      refine LOps.nil ?_
      refine thn_n ?_
      refine LW.ret ?_
      refine finP_ret (.one (.cellAgg rfl rfl (by kernel_rfl) rfl)) ?_
      refine Conv.pe ?_
      simp only [decide_eq_true_eq] at g1 g2
      simp only [moveOf, curP]
      (repeat' split) <;> first | rfl | (exfalso; simp_all; done) | (exfalso; simp_all; omega)
  · -- g1 is False
    refine LW.skip ?_
    refine thn_n ?_
    refine LW.exit ?_
    refine inBlk_other (by decide) ?_
    refine thn_e ?_
    refine inBlk_self ?_
    refine thn_n ?_
    refine LW.seq ?_
    refine LW.seq ?_
    refine LW.region ?_
    refine LOps.st rfl rfl rfl (LOp.move rfl rfl) ?_
    refine LOps.st rfl rfl rfl (LOp.load rfl rfl rfl vt24 rfl rfl) ?_
    refine LOps.st rfl rfl rfl (LOp.call rfl rfl rfl (by kernel_rfl) (LC.pure c93 (.cons Conv.p (.cons Conv.p .nil)))) ?_
    refine LOps.st rfl rfl rfl (LOp.assign rfl rfl) ?_
    refine LOps.nil ?_
    refine thn_n ?_
    refine LW.seq ?_
    refine LW.region ?_
    refine LOps.st rfl rfl rfl (LOp.move rfl rfl) ?_
    refine LOps.st rfl rfl rfl (LOp.move rfl rfl) ?_
    refine LOps.cases 38 rfl (fun g5 => ?_) (fun g5 => ?_)
    · -- g5 is True
      refine LOps.gd rfl rfl rfl (gd g5 rfl) rfl (LOp.move rfl rfl) ?_
      refine LOps.gd rfl rfl rfl (gd g5 rfl) rfl (LOp.bin rfl rfl rfl rfl) ?_
      refine LOps.st rfl rfl rfl (LOp.pickT rfl (gdl g5 rfl) rfl) ?_
      refine LOps.st rfl rfl rfl (LOp.move rfl rfl) ?_
      refine LOps.cases 42 rfl (fun g6 => ?_) (fun g6 => ?_)
      · -- g6 is True
        refine LOps.gd rfl rfl rfl (gd g6 rfl) rfl (LOp.move rfl rfl) ?_
        refine LOps.gd rfl rfl rfl (gd g6 rfl) rfl (LOp.move rfl rfl) ?_
        refine LOps.gd rfl rfl rfl (gd g6 rfl) rfl (LOp.bin rfl rfl rfl rfl) ?_
        refine LOps.st rfl rfl rfl (LOp.pickT rfl (gdl g6 rfl) rfl) ?_
        refine LOps.nil ?_
        refine thn_n ?_
        refine LW.cond rfl (fun g7 => ?_) (fun g7 => ?_)
        · -- g7 is True
          refine LW.region ?_
          refine LOps.st rfl rfl rfl (LOp.load rfl rfl rfl vt24 rfl rfl) ?_
          refine LOps.st rfl rfl rfl (LOp.move rfl rfl) ?_
          refine LOps.st rfl rfl rfl (LOp.fieldAddr rfl rfl ft26_0) ?_
          refine LOps.st rfl rfl rfl (LOp.store rfl rfl rfl rfl vt24 rfl rfl rfl rfl) ?_
          refine LOps.st rfl rfl rfl (LOp.fieldAddr rfl rfl ft26_1) ?_
          refine LOps.st rfl rfl rfl (LOp.store rfl rfl rfl rfl vt3 rfl rfl rfl rfl) ?_
          refine LOps.nil ?_
          refine thn_n ?_
          refine LW.exit ?_
          refine inBlk_self ?_
          refine thn_n ?_
          refine LW.seq ?_
          refine LW.region ?_
          refine LOps.st rfl rfl rfl (LOp.load rfl rfl rfl vt26 rfl rfl) ?_
          refine LOps.st rfl rfl rfl (LOp.store rfl rfl rfl rfl vt26 rfl rfl rfl rfl) ?_
          refine LOps.nil ?_
          refine thn_n ?_
          refine LW.ret ?_
          refine finP_ret (.one (.cellAgg rfl rfl (by kernel_rfl) rfl)) ?_
          refine Conv.pe ?_
          simp only [decide_eq_true_eq, decide_eq_false_iff_not] at g1 g5 g6 g7
          simp only [moveOf, curP]
          (repeat' split) <;> first | rfl | (exfalso; simp_all; done) | (exfalso; simp_all; omega)
        · -- g7 is False
          refine LW.skip ?_
          refine thn_n ?_
          refine LW.exit ?_
          refine inBlk_self ?_
          refine thn_n ?_
          refine LW.seq ?_
          refine LW.region ?_
          refine LOps.st rfl rfl rfl (LOp.load rfl rfl rfl vt26 rfl rfl) ?_
          refine LOps.st rfl rfl rfl (LOp.store rfl rfl rfl rfl vt26 rfl rfl rfl rfl) ?_
          refine LOps.nil ?_
          refine thn_n ?_
          refine LW.ret ?_
          refine finP_ret (.one (.cellAgg rfl rfl (by kernel_rfl) rfl)) ?_
          refine Conv.pe ?_
          simp only [decide_eq_true_eq, decide_eq_false_iff_not] at g1 g5 g6 g7
          simp only [moveOf, curP]
          (repeat' split) <;> first | rfl | (exfalso; simp_all; done) | (exfalso; simp_all; omega)
      · -- g6 is False
        refine LOps.sk rfl rfl rfl (gd g6 rfl) rfl rfl ?_
        refine LOps.sk rfl rfl rfl (gd g6 rfl) rfl rfl ?_
        refine LOps.sk rfl rfl rfl (gd g6 rfl) rfl rfl ?_
        refine LOps.st rfl rfl rfl (LOp.pickF rfl (gdl g6 rfl) rfl) ?_
        refine LOps.nil ?_
        refine thn_n ?_
        refine LW.condF rfl ?_
        refine LW.skip ?_
        refine thn_n ?_
        refine LW.exit ?_
        refine inBlk_self ?_
        refine thn_n ?_
        refine LW.seq ?_
        refine LW.region ?_
        refine LOps.st rfl rfl rfl (LOp.load rfl rfl rfl vt26 rfl rfl) ?_
        refine LOps.st rfl rfl rfl (LOp.store rfl rfl rfl rfl vt26 rfl rfl rfl rfl) ?_
        refine LOps.nil ?_
        refine thn_n ?_
        refine LW.ret ?_
        refine finP_ret (.one (.cellAgg rfl rfl (by kernel_rfl) rfl)) ?_
        refine Conv.pe ?_
        simp only [decide_eq_false_iff_not] at g1 g5 g6
        simp only [moveOf, curP]
        (repeat' split) <;> first | rfl | (exfalso; simp_all; done) | (exfalso; simp_all; omega)
    · -- g5 is False
      refine LOps.sk rfl rfl rfl (gd g5 rfl) rfl rfl ?_
      refine LOps.sk rfl rfl rfl (gd g5 rfl) rfl rfl ?_
      refine LOps.st rfl rfl rfl (LOp.pickF rfl (gdl g5 rfl) rfl) ?_
      refine LOps.st rfl rfl rfl (LOp.move rfl rfl) ?_
      refine LOps.sk rfl rfl rfl rfl rfl rfl ?_
      refine LOps.sk rfl rfl rfl rfl rfl rfl ?_
      refine LOps.sk rfl rfl rfl rfl rfl rfl ?_
      refine LOps.st rfl rfl rfl (LOp.pickF rfl rfl rfl) ?_
      refine LOps.nil ?_
      refine thn_n ?_
      refine LW.condF rfl ?_
      refine LW.skip ?_
      refine thn_n ?_
      refine LW.exit ?_
      refine inBlk_self ?_
      refine thn_n ?_
      refine LW.seq ?_
      refine LW.region ?_
      refine LOps.st rfl rfl rfl (LOp.load rfl rfl rfl vt26 rfl rfl) ?_
      refine LOps.st rfl rfl rfl (LOp.store rfl rfl rfl rfl vt26 rfl rfl rfl rfl) ?_
      refine LOps.nil ?_
      refine thn_n ?_
      refine LW.ret ?_
      refine finP_ret (.one (.cellAgg rfl rfl (by kernel_rfl) rfl)) ?_
      refine Conv.pe ?_
      simp only [decide_eq_false_iff_not] at g1 g5
      simp only [moveOf, curP]
      (repeat' split) <;> first | rfl | (exfalso; simp_all; done) | (exfalso; simp_all; omega)

end Go.Mg

namespace Go.Mg

theorem indexOf_lt {l : List ID} {v : ID} : indexOf l v = -1 ∧ v ∉ l ∨ ∃ i : Nat, indexOf l v = i ∧ l[i]? = some v ∧ ∀ j, j < i → l[j]? ≠ some v := by
  unfold indexOf
  cases h : l.findIdx? (fun x => decide (v = x)) with
  | none =>
    left
    rw [List.findIdx?_eq_none_iff] at h
    exact ⟨rfl, fun hm => by simpa using h v hm⟩
  | some i =>
    right
    rw [List.findIdx?_eq_some_iff_getElem] at h
    obtain ⟨hi, h1, h2⟩ := h
    refine ⟨i, rfl, by rw [List.getElem?_eq_getElem hi]; simpa using (of_decide_eq_true h1).symm, fun j hj hc => ?_⟩
    have := h2 j hj
    rw [List.getElem?_eq_getElem (by omega)] at hc
    simp at hc this
    exact this hc.symm

theorem indexOf_mem {l : List ID} {v : ID} : 0 ≤ indexOf l v ↔ v ∈ l := by
  rcases indexOf_lt (l := l) (v := v) with ⟨h1, h2⟩ | ⟨i, h1, h2, h3⟩
  · rw [h1]; constructor
    · intro h; omega
    · intro h; exact absurd h h2
  · rw [h1]; exact ⟨fun _ => List.mem_of_getElem? h2, fun _ => by omega⟩

theorem indexOf_ge (l : List ID) (v : ID) : -1 ≤ indexOf l v := by
  rcases indexOf_lt (l := l) (v := v) with ⟨h1, h2⟩ | ⟨i, h1, h2, h3⟩ <;> omega

theorem indexOf_le {l : List ID} {v : ID} : indexOf l v < l.length := by
  rcases indexOf_lt (l := l) (v := v) with ⟨h1, h2⟩ | ⟨i, h1, h2, h3⟩
  · omega
  · have := (List.getElem?_eq_some_iff.1 h2).1; omega

section
variable {l : List Bk} {m : List (ID × Int)}

theorem chainF_zero (hpl : places l = some m) : ∀ (n : Nat) (id : ID) (i : Int), i + 1 ≤ n → findE m id = some i → (0, 0) ∈ chainF l n id i := by
  intro n
  induction n with
  | zero =>
    intro id i hi hf
    rcases (places_inv hpl).known _ _ hf with ⟨-, h⟩ | ⟨_, _, h, -⟩
    · simp [chainF, h]
    · omega
  | succ n ih =>
    intro id i hi hf
    rcases (places_inv hpl).known _ _ hf with ⟨h, h'⟩ | ⟨b, p, h0, h1, h2, h3, h4, h5, h6, h7⟩
    · simp [chainF, h, h']
    · simp only [chainF, if_neg (show i ≠ -1 by omega), h2, hpl, h4]
      exact List.mem_cons_of_mem _ (ih b.Parent p (by omega) h4)

theorem chainF_len (n : Nat) : ∀ (id : ID) (i : Int), (chainF l n id i).length ≤ n + 1 := by
  induction n with
  | zero => intro id i; simp [chainF]
  | succ n ih =>
    intro id i
    simp only [chainF]
    split
    · simp
    · split
      · simp
      · split
        · simp
        · split
          · simp
          · simp; exact ih _ _

theorem chain_len (id : ID) : (chainOf l id).length ≤ l.length + 1 := by
  unfold chainOf
  split
  · simp
  · rename_i m hpl
    split
    · simp
    · rename_i i hf
      have := chainF_len (l := l) (i + 1).toNat id i
      rcases (places_inv hpl).known _ _ hf with ⟨h, h'⟩ | ⟨b, p, h0, h1, h2, h3, h4, h5, h6, h7⟩
      · rw [h] at this ⊢; simp at this ⊢; omega
      · omega

theorem chain_zero {id : ID} (h : chainOf l id ≠ []) : (0, 0) ∈ chainOf l id := by
  unfold chainOf at h ⊢
  split
  · simp_all
  · rename_i m hpl
    split
    · simp_all
    · rename_i i hf
      refine chainF_zero hpl _ id i ?_ hf
      rcases (places_inv hpl).known _ _ hf with ⟨h, h'⟩ | ⟨b, p, h0, h1, h2, h3, h4, h5, h6, h7⟩ <;> omega

theorem chainF_end (_ : places l = some m) {id : ID} (_ : findE m id = some (-1)) (n : Nat) : chainF l n id (-1) = [id] := by
  cases n with
  | zero => rfl
  | succ n => simp [chainF]

/-- Each on a chain is known, and its own chain is what is left. -/
theorem chainF_at (hpl : places l = some m) : ∀ (n : Nat) (id : ID) (i : Int), i + 1 ≤ n → findE m id = some i → ∀ (k : Nat) x, (chainF l (i + 1).toNat id i)[k]? = some x →
    ∃ j : Int, findE m x = some j ∧ j ≤ i ∧ (0 < k → j < i) ∧ chainF l (j + 1).toNat x j = (chainF l (i + 1).toNat id i).drop k := by
  intro n
  induction n with
  | zero =>
    intro id i hi hf k x hx
    rcases (places_inv hpl).known _ _ hf with ⟨h, h'⟩ | ⟨b, p, h0, h1, h2, h3, h4, h5, h6, h7⟩
    · subst h
      have hk : k = 0 := by
        have := (List.getElem?_eq_some_iff.1 hx).1
        simp [chainF] at this; exact this
      subst hk
      simp [chainF] at hx; subst hx
      exact ⟨-1, hf, Int.le_refl _, by omega, rfl⟩
    · omega
  | succ n ih =>
    intro id i hi hf k x hx
    rcases (places_inv hpl).known _ _ hf with ⟨h, h'⟩ | ⟨b, p, h0, h1, h2, h3, h4, h5, h6, h7⟩
    · exact ih id i (by omega) hf k x hx
    · have e := chainF_step (id := id) hpl (by omega) h0 h2 h4 h5 h6
      rw [e] at hx
      cases k with
      | zero =>
        simp at hx; subst hx
        exact ⟨i, hf, Int.le_refl _, by omega, rfl⟩
      | succ k =>
        simp at hx
        obtain ⟨j, g1, g2, g3, g4⟩ := ih b.Parent p (by omega) h4 k x hx
        exact ⟨j, g1, by omega, fun _ => by omega, by rw [g4, e]; rfl⟩

/-- What is on a chain has what is left for its chain. -/
theorem chain_at {id x : ID} {k : Nat} (h : (chainOf l id)[k]? = some x) : chainOf l x = (chainOf l id).drop k := by
  unfold chainOf at h ⊢
  cases hpl : places l with
  | none => rw [hpl] at h; simp at h
  | some m =>
    rw [hpl] at h
    simp only at h ⊢
    cases hf : findE m id with
    | none => rw [hf] at h; simp at h
    | some i =>
      rw [hf] at h
      simp only at h ⊢
      obtain ⟨j, g1, g2, g3, g4⟩ := chainF_at hpl (i + 1).toNat id i (by omega) hf k x h
      rw [g1]; exact g4

theorem chain_head {id : ID} (h : chainOf l id ≠ []) : (chainOf l id)[0]? = some id := by
  unfold chainOf at h ⊢
  split
  · simp_all
  · rename_i m hpl
    split
    · simp_all
    · rename_i i hf
      rcases (places_inv hpl).known _ _ hf with ⟨h, h'⟩ | ⟨b, p, h0, h1, h2, h3, h4, h5, h6, h7⟩
      · subst h; rfl
      · rw [chainF_step (id := id) hpl (by omega) h0 h2 h4 h5 h6]; rfl

theorem chain_lt (hpl : places l = some m) {id : ID} {i : Int} (hf : findE m id = some i) : ∀ {a b : Nat} {x y : ID}, a < b → (chainF l (i + 1).toNat id i)[a]? = some x → (chainF l (i + 1).toNat id i)[b]? = some y → x ≠ y := by
  intro a b x y hab ha hb
  obtain ⟨j, g1, g2, g3, g4⟩ := chainF_at hpl (i + 1).toNat id i (by omega) hf a x ha
  have hy : (chainF l (j + 1).toNat x j)[b - a]? = some y := by
    rw [g4, List.getElem?_drop, show a + (b - a) = b by omega]; exact hb
  obtain ⟨j', g5, g6, g7, -⟩ := chainF_at hpl (j + 1).toNat x j (by omega) g1 (b - a) y hy
  intro e
  subst e
  rw [g1] at g5
  cases g5
  have := g7 (by omega)
  omega

/-- On a chain nothing is twice. -/
theorem chain_inj {id x : ID} {a b : Nat} (ha : (chainOf l id)[a]? = some x) (hb : (chainOf l id)[b]? = some x) : a = b := by
  unfold chainOf at ha hb
  cases hpl : places l with
  | none => rw [hpl] at ha; simp at ha
  | some m =>
    rw [hpl] at ha hb
    simp only at ha hb
    cases hf : findE m id with
    | none => rw [hf] at ha; simp at ha
    | some i =>
      rw [hf] at ha hb
      simp only at ha hb
      rcases Nat.lt_trichotomy a b with h | h | h
      · exact absurd rfl (chain_lt hpl hf h ha hb)
      · exact h
      · exact absurd rfl (chain_lt hpl hf h hb ha)

theorem chain_mem {id x : ID} (h : x ∈ chainOf l id) : ∃ k : Nat, (chainOf l id)[k]? = some x ∧ indexOf (chainOf l id) x = k := by
  rcases indexOf_lt (l := chainOf l id) (v := x) with ⟨h1, h2⟩ | ⟨i, h1, h2, h3⟩
  · exact absurd h h2
  · exact ⟨i, h2, h1⟩

theorem indexOf_of {id x : ID} {k : Nat} (h : (chainOf l id)[k]? = some x) : indexOf (chainOf l id) x = k := by
  obtain ⟨k', h1, h2⟩ := chain_mem (List.mem_of_getElem? h)
  rw [h2, chain_inj h h1]

/-- Under: on the chain. -/
theorem chain_sub {a b c : ID} (h : a ∈ chainOf l b) (h' : b ∈ chainOf l c) : a ∈ chainOf l c := by
  obtain ⟨k, h1, -⟩ := chain_mem h'
  rw [chain_at h1] at h
  exact List.mem_of_mem_drop h

theorem chain_self {a b : ID} (h : a ∈ chainOf l b) : a ∈ chainOf l a := by
  obtain ⟨k, h1, -⟩ := chain_mem h
  rw [chain_at h1]
  have : ((chainOf l b).drop k)[0]? = some a := by simpa using h1
  exact List.mem_of_getElem? this

/-- Of two on a chain: the further down is on the other one's chain. -/
theorem chain_le {id x y : ID} (hx : x ∈ chainOf l id) (hy : y ∈ chainOf l id) : y ∈ chainOf l x ↔ indexOf (chainOf l id) x ≤ indexOf (chainOf l id) y := by
  obtain ⟨a, h1, h2⟩ := chain_mem hx
  obtain ⟨b, h3, h4⟩ := chain_mem hy
  rw [h2, h4, chain_at h1]
  constructor
  · intro h
    obtain ⟨q, hq, e⟩ := List.mem_iff_getElem.1 h
    have : (chainOf l id)[a + q]? = some y := by
      rw [← List.getElem?_drop, List.getElem?_eq_getElem hq, e]
    have := chain_inj this h3
    omega
  · intro h
    have : ((chainOf l id).drop a)[b - a]? = some y := by
      rw [List.getElem?_drop, show a + (b - a) = b by omega]; exact h3
    exact List.mem_of_getElem? this
end

/-! What the laws hand over. -/

theorem isCur {p : PV} (h : TIs (.agg [.int .u64, .int .u64, .int .i64, .int .i64]) p) : ∃ c : Cu, p = curP c := by
  cases h with
  | agg h =>
    cases h with | cons a h => cases h with | cons b h => cases h with | cons c h => cases h with | cons d h => cases h; cases a; cases b; cases c; cases d; exact ⟨⟨(_, _), _, _⟩, rfl⟩

theorem isId {p : PV} (h : TIs (.agg [.int .u64, .int .u64]) p) : ∃ c : ID, p = idP c := by
  cases h with
  | agg h =>
    cases h with | cons a h => cases h with | cons b h => cases h; cases a; cases b; exact ⟨(_, _), rfl⟩

theorem isBk {p : PV} (h : TIs (.agg [.int .i64, .int .i64, .int .u64, .int .u64, .int .u64]) p) : ∃ c : Bk, p = blkP c := by
  cases h with
  | agg h =>
    cases h with | cons a h => cases h with | cons b h => cases h with | cons c h => cases h with | cons d h => cases h with | cons e h => cases h; cases a; cases b; cases c; cases d; cases e; exact ⟨⟨_, _, (_, _), _⟩, rfl⟩

theorem isList {α : Type} {f : α → PV} {T : TS} (hf : ∀ p, TIs T p → ∃ a, p = f a) : ∀ {xs : List PV}, (∀ x ∈ xs, TIs T x) → ∃ l : List α, xs = l.map f
  | [], _ => ⟨[], rfl⟩
  | x :: xs, h => by
    obtain ⟨a, rfl⟩ := hf x (h x (.head _))
    obtain ⟨l, rfl⟩ := isList hf fun y hy => h y (.tail _ hy)
    exact ⟨a :: l, rfl⟩

theorem isSlice {α : Type} {f : α → PV} {T : TS} {m : Nat} (hf : ∀ p, TIs T p → ∃ a, p = f a) {p : PV} (h : TIs (.slice m T) p) : ∃ l : List α, p = .slice m (l.map f) := by
  cases h with
  | slice h =>
    obtain ⟨l, rfl⟩ := isList hf h
    exact ⟨l, rfl⟩

theorem isBool {p : PV} (h : TIs .bool p) : ∃ b, p = .bool b := by cases h; exact ⟨_, rfl⟩
theorem isInt {k : IntKind} {p : PV} (h : TIs (.int k) p) : ∃ n, p = .int k n ∧ InKind k n := by
  cases h with | int h => exact ⟨_, rfl, h⟩

theorem len40 {l : List Bk} {b : Bool} (hb : b = false) (h : decide (((l.map blkP).length : Int) > 40) = b) : l.length ≤ 1000 := by
  subst hb
  have := of_decide_eq_false h
  simp at this
  omega
end Go.Mg

namespace Go.Mg

theorem wrap_len {l : List Bk} {id : ID} (hl : l.length ≤ 1000) : IntKind.i64.wrap ((chainOf l id).length - 1) = (chainOf l id).length - 1 := by
  have := chain_len (l := l) id
  exact wrapI (by omega) (by omega)

/-- CursorTwice's plain law. -/
theorem move_twice {c : Cu} {l : List Bk} {head found : ID} {is : Bool} {slot : Int} (hl : l.length ≤ 1000) (hne : chainOf l head ≠ []) :
    moveOf (moveOf c l head found is slot) l head found is slot = moveOf c l head found is slot := by
  have h0 := indexOf_mem.2 (chain_zero hne)
  have h1 := indexOf_le (l := chainOf l head) (v := (0, 0))
  have hw := wrap_len (id := head) hl
  simp only [moveOf, hw]
  by_cases h2 : indexOf (chainOf l head) c.ID < 0
  · simp only [if_pos h2]
    by_cases h3 : is = true ∧ indexOf (chainOf l head) found ≥ 0 ∧ indexOf (chainOf l head) found < ((chainOf l head).length : Int) - 1
    · simp only [if_pos h3]
      rw [if_neg (show ¬ indexOf (chainOf l head) found < 0 by omega)]
      rw [if_neg (by rintro ⟨-, -, h⟩; omega)]
      rw [if_neg (show ¬ indexOf (chainOf l head) found < 0 by omega)]
    · simp only [if_neg h3]
      rw [if_neg (show ¬ indexOf (chainOf l head) (0, 0) < 0 by omega)]
      rw [if_neg (by rintro ⟨h4, h5, h6⟩; exact h3 ⟨h4, h5, by omega⟩)]
      rw [if_neg (show ¬ indexOf (chainOf l head) (0, 0) < 0 by omega)]
  · simp only [if_neg h2]
    by_cases h3 : is = true ∧ indexOf (chainOf l head) found ≥ 0 ∧ indexOf (chainOf l head) found < indexOf (chainOf l head) c.ID
    · simp only [if_pos h3]
      rw [if_neg (show ¬ indexOf (chainOf l head) found < 0 by omega)]
      rw [if_neg (by rintro ⟨-, -, h⟩; omega)]
      rw [if_neg (show ¬ indexOf (chainOf l head) found < 0 by omega)]
    · simp only [if_neg h3, if_neg h2]

/-- CursorLost's plain law. -/
theorem move_lost {c : Cu} {l : List Bk} {head found : ID} {is : Bool} {slot : Int} (h : chainOf l head = []) :
    moveOf c l head found is slot = ⟨(0, 0), slot, IntKind.i64.wrap (c.Revoked + 1)⟩ := by
  have hi : ∀ v, indexOf [] v = -1 := fun v => rfl
  simp only [moveOf, h, hi]
  have h0 : ¬ (is = true ∧ (-1 : Int) ≥ 0 ∧ (-1 : Int) < if (-1 : Int) < 0 then IntKind.i64.wrap ((([] : List ID).length : Int) - 1) else -1) := by rintro ⟨-, h, -⟩; omega
  rw [if_neg h0, if_pos (by decide)]
end Go.Mg

namespace Go.Mg
open Go.Proofs

def few (l : List Bk) : Bool := decide (l.length ≤ 1000)
theorem few_le {l : List Bk} (h : few l = true) : l.length ≤ 1000 := of_decide_eq_true h

/-! marigold/tree.May -/

def F52 (l : List Bk) : Option Bool :=
  (match places l with
  | none =>
    some false
  | some _ =>
    some true)

set_option maxRecDepth 100000 in
theorem c52 {l : List Bk} {r_ : Bool} (hr : F52 l = some r_) : LPure Try.prog 52 [.slice 5 (l.map blkP)] [.bool r_] := by
  refine LPure.start Try.func52 rfl rfl rfl rfl ?_
  unfold F52 at hr
  refine LW.seq ?_
  refine LW.region ?_
  refine LOps.st rfl rfl rfl (LOp.assign rfl rfl) ?_
  refine LOps.nil ?_
  refine thn_n ?_
  refine LW.seq ?_
  refine LW.region ?_
  refine LOps.st rfl rfl rfl (LOp.move rfl rfl) ?_
  rcases h_f1 : places l with _ | m_
  · -- way 0
    rw [h_f1] at hr
    simp only at hr
    refine LOps.st rfl rfl rfl (LOp.call rfl rfl rfl (by kernel_rfl) (c94N h_f1)) ?_
    refine LOps.st rfl rfl rfl (LOp.move rfl rfl) ?_
    refine LOps.st rfl rfl rfl (LOp.extract rfl rfl rfl) ?_
    refine LOps.st rfl rfl rfl (LOp.extract rfl rfl rfl) ?_
    refine LOps.st rfl rfl rfl (LOp.assign rfl rfl) ?_
    refine LOps.st rfl rfl rfl (LOp.assign rfl rfl) ?_
    refine LOps.nil ?_
    refine thn_n ?_
    refine LW.seq ?_
    refine LW.region ?_
    refine LOps.st rfl rfl rfl (LOp.move rfl rfl) ?_
    refine LOps.st rfl rfl rfl (LOp.assign rfl rfl) ?_
    refine LOps.nil ?_
    refine thn_n ?_
    refine LW.ret ?_
    obtain rfl := Option.some.inj hr
    refine finP_ret (.one (.tmp rfl)) ?_
    exact Conv.p
  · -- way 1
    rw [h_f1] at hr
    simp only at hr
    refine LOps.st rfl rfl rfl (LOp.call rfl rfl rfl (by kernel_rfl) (c94S h_f1 rfl rfl rfl)) ?_
    refine LOps.st rfl rfl rfl (LOp.move rfl rfl) ?_
    refine LOps.st rfl rfl rfl (LOp.extract rfl rfl rfl) ?_
    refine LOps.st rfl rfl rfl (LOp.extract rfl rfl rfl) ?_
    refine LOps.st rfl rfl rfl (LOp.assign rfl rfl) ?_
    refine LOps.st rfl rfl rfl (LOp.assign rfl rfl) ?_
    refine LOps.nil ?_
    refine thn_n ?_
    refine LW.seq ?_
    refine LW.region ?_
    refine LOps.st rfl rfl rfl (LOp.move rfl rfl) ?_
    refine LOps.st rfl rfl rfl (LOp.assign rfl rfl) ?_
    refine LOps.nil ?_
    refine thn_n ?_
    refine LW.ret ?_
    obtain rfl := Option.some.inj hr
    refine finP_ret (.one (.tmp rfl)) ?_
    exact Conv.p

/-! marigold/tree.Find -/

def F53 (l : List Bk) (id : ID) : Option Int :=
  (match places l with
  | none =>
    some (-1)
  | some m_ =>
    bif (findE m_ id).isSome then
      some ((findE m_ id).getD 0)
    else
      some (-1))

set_option maxRecDepth 100000 in
theorem c53 {l : List Bk} {id : ID} {r_ : Int} (hr : F53 l id = some r_) : LPure Try.prog 53 [.slice 5 (l.map blkP), idP id] [.int .i64 r_] := by
  refine LPure.start Try.func53 rfl rfl rfl rfl ?_
  unfold F53 at hr
  refine LW.seq ?_
  refine LW.region ?_
  refine LOps.st rfl rfl rfl (LOp.box rfl rfl rfl rfl rfl) ?_
  refine LOps.st rfl rfl rfl (LOp.assign rfl rfl) ?_
  refine LOps.nil ?_
  refine thn_n ?_
  refine LW.seq ?_
  refine LW.region ?_
  refine LOps.st rfl rfl rfl (LOp.move rfl rfl) ?_
  rcases h_f1 : places l with _ | m_
  · -- way 0
    rw [h_f1] at hr
    simp only at hr
    refine LOps.st rfl rfl rfl (LOp.call rfl rfl rfl (by kernel_rfl) (c94N h_f1)) ?_
    refine LOps.st rfl rfl rfl (LOp.move rfl rfl) ?_
    refine LOps.st rfl rfl rfl (LOp.extract rfl rfl rfl) ?_
    refine LOps.st rfl rfl rfl (LOp.extract rfl rfl rfl) ?_
    refine LOps.st rfl rfl rfl (LOp.assign rfl rfl) ?_
    refine LOps.st rfl rfl rfl (LOp.assign rfl rfl) ?_
    refine LOps.nil ?_
    refine thn_n ?_
    refine LW.seq ?_
    refine LW.seq ?_
    refine LW.region ?_
    refine LOps.st rfl rfl rfl (LOp.move rfl rfl) ?_
    refine LOps.st rfl rfl rfl (LOp.load rfl rfl rfl vt24 rfl rfl) ?_
    refine LOps.st rfl rfl rfl (LOp.getNil (f := idP) (a := id) idKey rfl rfl rfl mt91 zl3 rfl) ?_
    refine LOps.st rfl rfl rfl (LOp.move rfl rfl) ?_
    refine LOps.st rfl rfl rfl (LOp.extract rfl rfl rfl) ?_
    refine LOps.st rfl rfl rfl (LOp.extract rfl rfl rfl) ?_
    refine LOps.st rfl rfl rfl (LOp.assign rfl rfl) ?_
    refine LOps.st rfl rfl rfl (LOp.assign rfl rfl) ?_
    refine LOps.nil ?_
    refine thn_n ?_
    refine LW.seq ?_
    refine LW.region ?_
    refine LOps.st rfl rfl rfl (LOp.move rfl rfl) ?_
    refine LOps.nil ?_
    refine thn_n ?_
    refine LW.condF rfl ?_
    refine LW.skip ?_
    refine thn_n ?_
    refine LW.seq ?_
    refine LW.region ?_
    refine LOps.st rfl rfl rfl (LOp.assign rfl rfl) ?_
    refine LOps.nil ?_
    refine thn_n ?_
    refine LW.ret ?_
    obtain rfl := Option.some.inj hr
    refine finP_ret (.one (.tmp rfl)) ?_
    exact Conv.p
  · -- way 1
    rw [h_f1] at hr
    simp only at hr
    refine LOps.st rfl rfl rfl (LOp.call rfl rfl rfl (by kernel_rfl) (c94S h_f1 rfl rfl rfl)) ?_
    refine LOps.st rfl rfl rfl (LOp.move rfl rfl) ?_
    refine LOps.st rfl rfl rfl (LOp.extract rfl rfl rfl) ?_
    refine LOps.st rfl rfl rfl (LOp.extract rfl rfl rfl) ?_
    refine LOps.st rfl rfl rfl (LOp.assign rfl rfl) ?_
    refine LOps.st rfl rfl rfl (LOp.assign rfl rfl) ?_
    refine LOps.nil ?_
    refine thn_n ?_
    refine LW.seq ?_
    refine LW.seq ?_
    refine LW.region ?_
    refine LOps.st rfl rfl rfl (LOp.move rfl rfl) ?_
    refine LOps.st rfl rfl rfl (LOp.load rfl rfl rfl vt24 rfl rfl) ?_
    refine LOps.st rfl rfl rfl (LOp.getX (f := idP) (g := (fun v => .p (.int .i64 v))) id 0 idKey rfl rfl rfl rfl mt91 zl3 rfl rfl) ?_
    refine LOps.st rfl rfl rfl (LOp.move rfl rfl) ?_
    refine LOps.st rfl rfl rfl (LOp.extract rfl rfl rfl) ?_
    refine LOps.st rfl rfl rfl (LOp.extract rfl rfl rfl) ?_
    refine LOps.st rfl rfl rfl (LOp.assign rfl rfl) ?_
    refine LOps.st rfl rfl rfl (LOp.assign rfl rfl) ?_
    refine LOps.nil ?_
    refine thn_n ?_
    refine LW.seq ?_
    refine LW.region ?_
    refine LOps.st rfl rfl rfl (LOp.move rfl rfl) ?_
    refine LOps.nil ?_
    refine thn_n ?_
    refine LW.cond rfl (fun (g1 : ((findE m_ id).isSome) = true) => ?_) (fun (g1 : ((findE m_ id).isSome) = false) => ?_)
    · -- g1 is True
      have hr := ite_t g1 hr
      refine LW.seq ?_
      refine LW.region ?_
      refine LOps.st rfl rfl rfl (LOp.move rfl rfl) ?_
      refine LOps.st rfl rfl rfl (LOp.assign rfl rfl) ?_
      refine LOps.nil ?_
      refine thn_n ?_
      refine LW.ret ?_
      refine thn_r ?_
      obtain rfl := Option.some.inj hr
      refine finP_ret (.one (.tmp rfl)) ?_
      exact Conv.p
    · -- g1 is False
      have hr := ite_f g1 hr
      refine LW.skip ?_
      refine thn_n ?_
      refine LW.seq ?_
      refine LW.region ?_
      refine LOps.st rfl rfl rfl (LOp.assign rfl rfl) ?_
      refine LOps.nil ?_
      refine thn_n ?_
      refine LW.ret ?_
      obtain rfl := Option.some.inj hr
      refine finP_ret (.one (.tmp rfl)) ?_
      exact Conv.p

/-! marigold/tree.Slot -/

def F43 (l : List Bk) (id : ID) : Option (Int × Bool) :=
  (match places l with
  | none =>
    some (0, false)
  | some m_ =>
    (
      bif !((findE m_ id).isSome) then
        some true
      else
        some (((findE m_ id).getD 0) == (-1))
    ).bind fun v1 =>
    bif v1 then
      some (0, (findE m_ id).isSome)
    else
      (ix l ((findE m_ id).getD 0)).bind fun y1 =>
      some (y1.Slot, true))

set_option maxRecDepth 100000 in
theorem c43 {l : List Bk} {id : ID} {r_ : Int × Bool} (hr : F43 l id = some r_) : LPure Try.prog 43 [.slice 5 (l.map blkP), idP id] [.int .i64 r_.1, .bool r_.2] := by
  refine LPure.start Try.func43 rfl rfl rfl rfl ?_
  unfold F43 at hr
  refine LW.seq ?_
  refine LW.region ?_
  refine LOps.st rfl rfl rfl (LOp.box rfl rfl rfl rfl rfl) ?_
  refine LOps.st rfl rfl rfl (LOp.assign rfl rfl) ?_
  refine LOps.st rfl rfl rfl (LOp.assign rfl rfl) ?_
  refine LOps.nil ?_
  refine thn_n ?_
  refine LW.seq ?_
  refine LW.region ?_
  refine LOps.st rfl rfl rfl (LOp.move rfl rfl) ?_
  rcases h_f1 : places l with _ | m_
  · -- way 0
    rw [h_f1] at hr
    simp only at hr
    refine LOps.st rfl rfl rfl (LOp.call rfl rfl rfl (by kernel_rfl) (c94N h_f1)) ?_
    refine LOps.st rfl rfl rfl (LOp.move rfl rfl) ?_
    refine LOps.st rfl rfl rfl (LOp.extract rfl rfl rfl) ?_
    refine LOps.st rfl rfl rfl (LOp.extract rfl rfl rfl) ?_
    refine LOps.st rfl rfl rfl (LOp.assign rfl rfl) ?_
    refine LOps.st rfl rfl rfl (LOp.assign rfl rfl) ?_
    refine LOps.nil ?_
    refine thn_n ?_
    refine LW.seq ?_
    refine LW.region ?_
    refine LOps.st rfl rfl rfl (LOp.move rfl rfl) ?_
    refine LOps.st rfl rfl rfl (LOp.load rfl rfl rfl vt24 rfl rfl) ?_
    refine LOps.st rfl rfl rfl (LOp.getNil (f := idP) (a := id) idKey rfl rfl rfl mt91 zl3 rfl) ?_
    refine LOps.st rfl rfl rfl (LOp.move rfl rfl) ?_
    refine LOps.st rfl rfl rfl (LOp.extract rfl rfl rfl) ?_
    refine LOps.st rfl rfl rfl (LOp.extract rfl rfl rfl) ?_
    refine LOps.st rfl rfl rfl (LOp.assign rfl rfl) ?_
    refine LOps.st rfl rfl rfl (LOp.assign rfl rfl) ?_
    refine LOps.nil ?_
    refine thn_n ?_
    refine LW.seq ?_
    refine LW.seq ?_
    refine LW.region ?_
    refine LOps.st rfl rfl rfl (LOp.move rfl rfl) ?_
    refine LOps.st rfl rfl rfl (LOp.not rfl rfl) ?_
    refine LOps.st rfl rfl rfl (LOp.move rfl rfl) ?_
    refine LOps.sk rfl rfl rfl rfl rfl rfl ?_
    refine LOps.sk rfl rfl rfl rfl rfl rfl ?_
    refine LOps.st rfl rfl rfl (LOp.pickT rfl rfl rfl) ?_
    refine LOps.nil ?_
    refine thn_n ?_
    refine LW.condT rfl ?_
    refine LW.seq ?_
    refine LW.region ?_
    refine LOps.st rfl rfl rfl (LOp.move rfl rfl) ?_
    refine LOps.st rfl rfl rfl (LOp.assign rfl rfl) ?_
    refine LOps.st rfl rfl rfl (LOp.assign rfl rfl) ?_
    refine LOps.nil ?_
    refine thn_n ?_
    refine LW.ret ?_
    refine thn_r ?_
    obtain rfl := Option.some.inj hr
    refine finP_ret (.two (.tmp rfl) (.tmp rfl)) ?_
    exact ⟨_, rfl, (.cons Conv.p (.cons Conv.p .nil))⟩
  · -- way 1
    rw [h_f1] at hr
    simp only at hr
    refine LOps.st rfl rfl rfl (LOp.call rfl rfl rfl (by kernel_rfl) (c94S h_f1 rfl rfl rfl)) ?_
    refine LOps.st rfl rfl rfl (LOp.move rfl rfl) ?_
    refine LOps.st rfl rfl rfl (LOp.extract rfl rfl rfl) ?_
    refine LOps.st rfl rfl rfl (LOp.extract rfl rfl rfl) ?_
    refine LOps.st rfl rfl rfl (LOp.assign rfl rfl) ?_
    refine LOps.st rfl rfl rfl (LOp.assign rfl rfl) ?_
    refine LOps.nil ?_
    refine thn_n ?_
    refine LW.seq ?_
    refine LW.region ?_
    refine LOps.st rfl rfl rfl (LOp.move rfl rfl) ?_
    refine LOps.st rfl rfl rfl (LOp.load rfl rfl rfl vt24 rfl rfl) ?_
    refine LOps.st rfl rfl rfl (LOp.getX (f := idP) (g := (fun v => .p (.int .i64 v))) id 0 idKey rfl rfl rfl rfl mt91 zl3 rfl rfl) ?_
    refine LOps.st rfl rfl rfl (LOp.move rfl rfl) ?_
    refine LOps.st rfl rfl rfl (LOp.extract rfl rfl rfl) ?_
    refine LOps.st rfl rfl rfl (LOp.extract rfl rfl rfl) ?_
    refine LOps.st rfl rfl rfl (LOp.assign rfl rfl) ?_
    refine LOps.st rfl rfl rfl (LOp.assign rfl rfl) ?_
    refine LOps.nil ?_
    refine thn_n ?_
    refine LW.seq ?_
    obtain ⟨v1, hb_v1, ho_v1⟩ := bind_get hr
    clear hr
    refine LW.cut (E := [(0, .p (.slice 5 (l.map blkP))), (4, .p (.int .i64 0)), (5, .p (.bool false)), (8, .p (.int .i64 ((findE m_ id).getD 0))), (9, .p (.bool ((findE m_ id).isSome))), (26, .p (.bool v1))]) (O := [.box [.p (.int .u64 id.1), .p (.int .u64 id.2)], .box [.p (.slice 5 (l.map blkP))], .map (entsOf idP (fun v => .p (.int .i64 v)) m_)]) ?_ ?_
    · have hr := hb_v1
      refine LW.region ?_
      refine LOps.st rfl rfl rfl (LOp.move rfl rfl) ?_
      refine LOps.st rfl rfl rfl (LOp.not rfl rfl) ?_
      refine LOps.st rfl rfl rfl (LOp.move rfl rfl) ?_
      refine LOps.cases 23 rfl (fun (g1 : (!((findE m_ id).isSome)) = true) => ?_) (fun (g1 : (!((findE m_ id).isSome)) = false) => ?_)
      · -- g1 is True
        have hr := ite_t g1 hr
        refine LOps.sk rfl rfl rfl (gd g1 rfl) rfl rfl ?_
        refine LOps.sk rfl rfl rfl (gd g1 rfl) rfl rfl ?_
        refine LOps.st rfl rfl rfl (LOp.pickT rfl (gdl g1 rfl) rfl) ?_
        refine LOps.nil ?_
        refine thn_n ?_
        obtain rfl := Option.some.inj hr
        exact Weak.of 3 ⟨rfl, rfl, rfl, rfl, rfl, rfl, trivial⟩ rfl rfl rfl (lowObjs_cons rfl (lowObjs_cons rfl (lowObjs_cons (entsLow (fun _ => rfl) _) rfl)))
      · -- g1 is False
        have hr := ite_f g1 hr
        refine LOps.gd rfl rfl rfl (gd g1 rfl) rfl (LOp.move rfl rfl) ?_
        refine LOps.gd rfl rfl rfl (gd g1 rfl) rfl (LOp.bin rfl rfl rfl rfl) ?_
        refine LOps.st rfl rfl rfl (LOp.pickF rfl (gdl g1 rfl) rfl) ?_
        refine LOps.nil ?_
        refine thn_n ?_
        obtain rfl := Option.some.inj hr
        exact Weak.of 3 ⟨rfl, rfl, rfl, rfl, rfl, rfl, trivial⟩ rfl rfl rfl (lowObjs_cons rfl (lowObjs_cons rfl (lowObjs_cons (entsLow (fun _ => rfl) _) rfl)))
    · have hr := ho_v1
      clear hb_v1
      refine LW.cond rfl (fun (g2 : v1 = true) => ?_) (fun (g2 : v1 = false) => ?_)
      · -- g2 is True
        have hr := ite_t g2 hr
        refine LW.seq ?_
        refine LW.region ?_
        refine LOps.st rfl rfl rfl (LOp.move rfl rfl) ?_
        refine LOps.st rfl rfl rfl (LOp.assign rfl rfl) ?_
        refine LOps.st rfl rfl rfl (LOp.assign rfl rfl) ?_
        refine LOps.nil ?_
        refine thn_n ?_
        refine LW.ret ?_
        refine thn_r ?_
        obtain rfl := Option.some.inj hr
        refine finP_ret (.two (.tmp rfl) (.tmp rfl)) ?_
        exact ⟨_, rfl, (.cons Conv.p (.cons Conv.p .nil))⟩
      · -- g2 is False
        have hr := ite_f g2 hr
        refine LW.skip ?_
        refine thn_n ?_
        refine LW.seq ?_
        refine LW.region ?_
        refine LOps.st rfl rfl rfl (LOp.move rfl rfl) ?_
        refine LOps.st rfl rfl rfl (LOp.move rfl rfl) ?_
        obtain ⟨y1, h_y1, hr⟩ := bind_get hr
        refine LOps.st rfl rfl rfl (LOp.indexAddrX rfl rfl rfl st27 h_y1 rfl) ?_
        refine LOps.st rfl rfl rfl (LOp.fieldAddrC rfl rfl ft42_0 rfl) ?_
        refine LOps.st rfl rfl rfl (LOp.loadC rfl rfl rfl vt3 rfl rfl) ?_
        refine LOps.st rfl rfl rfl (LOp.assign rfl rfl) ?_
        refine LOps.st rfl rfl rfl (LOp.assign rfl rfl) ?_
        refine LOps.nil ?_
        refine thn_n ?_
        refine LW.ret ?_
        obtain rfl := Option.some.inj hr
        refine finP_ret (.two (.tmp rfl) (.tmp rfl)) ?_
        exact ⟨_, rfl, (.cons Conv.p (.cons Conv.p .nil))⟩

/-! marigold/tree.Kids -/
structure F46_L1 where
  t13 : Int
  out : List ID

def F46_s1 (l : List Bk) (id : ID) (x1 : F46_L1) : Option (F46_L1 ⊕ F46_L1) :=
  bif decide (x1.t13 < (l.length : Int)) then
    (ix l x1.t13).bind fun y1 =>
    bif ((y1.Parent.1 == id.1) && ((y1.Parent.2 == id.2) && true)) then
      bif room x1.out.length [nm y1].length 16 then
        some (.inl (F46_L1.mk (IntKind.i64.wrap (x1.t13 + 1)) (x1.out ++ [nm y1])))
      else none
    else
      some (.inl (F46_L1.mk (IntKind.i64.wrap (x1.t13 + 1)) x1.out))
  else
    some (.inr (F46_L1.mk x1.t13 x1.out))
def F46 (l : List Bk) (id : ID) : Option (List ID) :=
  (F52 l).bind fun v1 =>
  bif !v1 then
    some []
  else
    (iter (F46_s1 l id) big (F46_L1.mk 0 ([] : List ID))).bind fun v2 =>
    some v2.out

set_option maxRecDepth 100000 in
theorem c46 {l : List Bk} {id : ID} {r_ : (List ID)} (hr : F46 l id = some r_) : LPure Try.prog 46 [.slice 5 (l.map blkP), idP id] [.slice 2 (r_.map idP)] := by
  refine LPure.start Try.func46 rfl rfl rfl rfl ?_
  unfold F46 at hr
  refine LW.seq ?_
  refine LW.region ?_
  refine LOps.st rfl rfl rfl (LOp.box rfl rfl rfl rfl rfl) ?_
  refine LOps.st rfl rfl rfl (LOp.assign rfl rfl) ?_
  refine LOps.nil ?_
  refine thn_n ?_
  refine LW.seq ?_
  refine LW.seq ?_
  refine LW.region ?_
  refine LOps.st rfl rfl rfl (LOp.move rfl rfl) ?_
  obtain ⟨v1, h_v1, hr⟩ := bind_get hr
  refine LOps.st rfl rfl rfl (LOp.call rfl rfl rfl (by kernel_rfl) (LC.pure (c52 h_v1) (.cons Conv.p .nil))) ?_
  refine LOps.st rfl rfl rfl (LOp.not rfl rfl) ?_
  refine LOps.nil ?_
  refine thn_n ?_
  refine LW.cond rfl (fun (g1 : (!v1) = true) => ?_) (fun (g1 : (!v1) = false) => ?_)
  · -- g1 is True
    have hr := ite_t g1 hr
    refine LW.seq ?_
    refine LW.region ?_
    refine LOps.st rfl rfl rfl (LOp.assign rfl rfl) ?_
    refine LOps.nil ?_
    refine thn_n ?_
    refine LW.ret ?_
    refine thn_r ?_
    obtain rfl := Option.some.inj hr
    refine finP_ret (.one (.tmp rfl)) ?_
    exact Conv.zs
  · -- g1 is False
    have hr := ite_f g1 hr
    refine LW.skip ?_
    refine thn_n ?_
    refine LW.seq ?_
    refine LW.region ?_
    refine LOps.st rfl rfl rfl (LOp.assign rfl rfl) ?_
    refine LOps.nil ?_
    refine thn_n ?_
    refine LW.seq ?_
    refine LW.seq ?_
    refine LW.region ?_
    refine LOps.st rfl rfl rfl (LOp.move rfl rfl) ?_
    refine LOps.st rfl rfl rfl (LOp.lenM rfl rfl (by kernel_rfl)) ?_
    refine LOps.st rfl rfl rfl (LOp.move rfl rfl) ?_
    refine LOps.nil ?_
    refine thn_n ?_
    refine LW.ent (Ent.lazy (t := 5) (m := 2) rfl rfl rfl) ?_
    obtain ⟨v2, hb_v2, ho_v2⟩ := bind_get hr
    clear hr
    refine LW.tail (E := [(4, .zs), (5, .vec 2 1 (v2.out.map idP).length 0 (v2.out.map idP).length)]) (O := [.box [.p (.int .u64 id.1), .p (.int .u64 id.2)], .vec 2 (v2.out.map idP)]) ?_ (fun env_v2 H_v2 hw_v2 => ?_)
    · refine LW.block ?_
      refine LW.iterB (E := fun x1 : F46_L1 => [(3, .ptr 0 0), (4, .zs), (5, .vec 2 1 (x1.out.map idP).length 0 (x1.out.map idP).length), (11, .p (.slice 5 (l.map blkP))), (12, .p (.int .i64 (l.length : Int))), (13, .p (.int .i64 x1.t13))]) (O := fun x1 => [.box [.p (.int .u64 id.1), .p (.int .u64 id.2)], .vec 2 (x1.out.map idP)]) hb_v2 (Weak.of 2 ⟨rfl, rfl, rfl, rfl, rfl, rfl, trivial⟩ rfl rfl rfl rfl) (fun x1 z_x1 hr hb_x1 => ?_)
      unfold F46_s1 at hr
      refine LW.seq ?_
      refine LW.region ?_
      refine LOps.st rfl rfl rfl (LOp.bin rfl rfl rfl rfl) ?_
      refine LOps.nil ?_
      refine thn_n ?_
      refine LW.seq ?_
      refine LW.cond rfl (fun (g2 : (decide (x1.t13 < (l.length : Int))) = true) => ?_) (fun (g2 : (decide (x1.t13 < (l.length : Int))) = false) => ?_)
      · -- g2 is True
        have hr := ite_t g2 hr
        refine LW.skip ?_
        refine thn_n ?_
        refine LW.seq ?_
        refine LW.block ?_
        refine LW.seq ?_
        refine LW.region ?_
        obtain ⟨y1, h_y1, hr⟩ := bind_get hr
        refine LOps.st rfl rfl rfl (LOp.indexAddrX rfl rfl rfl st27 h_y1 rfl) ?_
        refine LOps.st rfl rfl rfl (LOp.loadC rfl rfl rfl vt42 rfl rfl) ?_
        refine LOps.st rfl rfl rfl (LOp.alloc rfl zt42 rfl rfl) ?_
        refine LOps.st rfl rfl rfl (LOp.store rfl rfl rfl rfl vt42 rfl rfl rfl rfl) ?_
        refine LOps.nil ?_
        refine thn_n ?_
        refine LW.seq ?_
        refine LW.region ?_
        refine LOps.st rfl rfl rfl (LOp.fieldAddr rfl rfl ft42_2) ?_
        refine LOps.st rfl rfl rfl (LOp.load rfl rfl rfl vt24 rfl rfl) ?_
        refine LOps.st rfl rfl rfl (LOp.load rfl rfl rfl vt24 rfl rfl) ?_
        refine LOps.st rfl rfl rfl (LOp.eqlAgg rfl rfl rfl rfl rfl eqt24) ?_
        refine LOps.nil ?_
        refine thn_n ?_
        refine LW.cond rfl (fun (g3 : ((y1.Parent.1 == id.1) && ((y1.Parent.2 == id.2) && true)) = true) => ?_) (fun (g3 : ((y1.Parent.1 == id.1) && ((y1.Parent.2 == id.2) && true)) = false) => ?_)
        · -- g3 is True
          have hr := ite_t g3 hr
          refine LW.region ?_
          refine LOps.st rfl rfl rfl (LOp.move rfl rfl) ?_
          refine LOps.st rfl rfl rfl (LOp.load rfl rfl rfl vt42 rfl rfl) ?_
          refine LOps.st rfl rfl rfl (LOp.call rfl rfl rfl (by kernel_rfl) (LC.pure (c50 (b := y1)) (.cons Conv.p .nil))) ?_
          refine LOps.st rfl rfl rfl (LOp.buildSlice rfl st31 rfl rfl rfl rfl rfl) ?_
          obtain ⟨q1, hr⟩ := grd_get hr
          refine LOps.st rfl rfl rfl (LOp.appendX idP x1.out [nm y1] rfl rfl rfl rfl Src.p rfl st31 q1 rfl) ?_
          refine LOps.st rfl rfl rfl (LOp.assign rfl rfl) ?_
          refine LOps.nil ?_
          refine inBlk_n ?_
          refine thn_n ?_
          refine LW.region ?_
          refine LOps.st rfl rfl rfl (LOp.bin rfl rfl rfl rfl) ?_
          refine LOps.st rfl rfl rfl (LOp.move rfl rfl) ?_
          refine LOps.nil ?_
          refine thn_n ?_
          obtain rfl := Option.some.inj hr
          exact ⟨_, rfl, Weak.of 2 ⟨rfl, rfl, rfl, rfl, rfl, rfl, trivial⟩ rfl rfl rfl rfl⟩
        · -- g3 is False
          have hr := ite_f g3 hr
          refine LW.skip ?_
          refine inBlk_n ?_
          refine thn_n ?_
          refine LW.region ?_
          refine LOps.st rfl rfl rfl (LOp.bin rfl rfl rfl rfl) ?_
          refine LOps.st rfl rfl rfl (LOp.move rfl rfl) ?_
          refine LOps.nil ?_
          refine thn_n ?_
          obtain rfl := Option.some.inj hr
          exact ⟨_, rfl, Weak.of 2 ⟨rfl, rfl, rfl, rfl, rfl, rfl, trivial⟩ rfl rfl rfl rfl⟩
      · -- g2 is False
        have hr := ite_f g2 hr
        refine LW.exit ?_
        refine thn_e ?_
        refine thn_e ?_
        refine inBlk_self ?_
        refine thn_n ?_
        obtain rfl := Option.some.inj hr
        have hr := congrArg some (hb_x1 _ rfl)
        obtain rfl := Option.some.inj hr
        exact Weak.of 2 ⟨rfl, rfl, trivial⟩ rfl rfl rfl rfl
    · have hr := ho_v2
      clear hb_v2
      refine thn_n ?_
      refine LW.weak hw_v2 ?_
      refine LW.seq ?_
      refine LW.region ?_
      refine LOps.st rfl rfl rfl (LOp.move rfl rfl) ?_
      refine LOps.st rfl rfl rfl (LOp.assign rfl rfl) ?_
      refine LOps.nil ?_
      refine thn_n ?_
      refine LW.ret ?_
      obtain rfl := Option.some.inj hr
      refine finP_ret (.one (.tmp rfl)) ?_
      exact (Conv.vecAll rfl rfl rfl)

end Go.Mg

namespace Go.Mg
open Go.Proofs


/-! marigold/marigoldlaw17.awake -/

def F36 : Option Bool :=
  bif few [Bk.mk 1 0 (0, 0) 0, Bk.mk 1 0 (0, 0) 1] then
    bif few [Bk.mk 1 0 (0, 0) 0, Bk.mk 1 0 (0, 0) 1] then
      bif (((((moveOf (Cu.mk (nm (Bk.mk 1 0 (0, 0) 0)) 1 0) [Bk.mk 1 0 (0, 0) 0, Bk.mk 1 0 (0, 0) 1] (nm (Bk.mk 1 0 (0, 0) 1)) (0, 0) false 5).ID).1) == 0) && (((((moveOf (Cu.mk (nm (Bk.mk 1 0 (0, 0) 0)) 1 0) [Bk.mk 1 0 (0, 0) 0, Bk.mk 1 0 (0, 0) 1] (nm (Bk.mk 1 0 (0, 0) 1)) (0, 0) false 5).ID).2) == 0) && ((((moveOf (Cu.mk (nm (Bk.mk 1 0 (0, 0) 0)) 1 0) [Bk.mk 1 0 (0, 0) 0, Bk.mk 1 0 (0, 0) 1] (nm (Bk.mk 1 0 (0, 0) 1)) (0, 0) false 5).Slot) == 5) && ((((moveOf (Cu.mk (nm (Bk.mk 1 0 (0, 0) 0)) 1 0) [Bk.mk 1 0 (0, 0) 0, Bk.mk 1 0 (0, 0) 1] (nm (Bk.mk 1 0 (0, 0) 1)) (0, 0) false 5).Revoked) == 1) && true)))) then
        some (((((moveOf (Cu.mk (0, 0) 0 0) [Bk.mk 1 0 (0, 0) 0, Bk.mk 1 0 (0, 0) 1] (nm (Bk.mk 1 0 (0, 0) 1)) (nm (Bk.mk 1 0 (0, 0) 1)) true 5).ID).1) == ((nm (Bk.mk 1 0 (0, 0) 1)).1)) && (((((moveOf (Cu.mk (0, 0) 0 0) [Bk.mk 1 0 (0, 0) 0, Bk.mk 1 0 (0, 0) 1] (nm (Bk.mk 1 0 (0, 0) 1)) (nm (Bk.mk 1 0 (0, 0) 1)) true 5).ID).2) == ((nm (Bk.mk 1 0 (0, 0) 1)).2)) && ((((moveOf (Cu.mk (0, 0) 0 0) [Bk.mk 1 0 (0, 0) 0, Bk.mk 1 0 (0, 0) 1] (nm (Bk.mk 1 0 (0, 0) 1)) (nm (Bk.mk 1 0 (0, 0) 1)) true 5).Slot) == 5) && ((((moveOf (Cu.mk (0, 0) 0 0) [Bk.mk 1 0 (0, 0) 0, Bk.mk 1 0 (0, 0) 1] (nm (Bk.mk 1 0 (0, 0) 1)) (nm (Bk.mk 1 0 (0, 0) 1)) true 5).Revoked) == 0) && true))))
      else
        some false
    else none
  else none

set_option maxRecDepth 100000 in
theorem c36 {r_ : Bool} (hr : F36 = some r_) : LPure Try.prog 36 [] [.bool r_] := by
  refine LPure.start Try.func36 rfl rfl rfl rfl ?_
  unfold F36 at hr
  refine LW.seq ?_
  refine LW.region ?_
  refine LOps.st rfl rfl rfl (LOp.assign rfl rfl) ?_
  refine LOps.nil ?_
  refine thn_n ?_
  refine LW.seq ?_
  refine LW.region ?_
  refine LOps.st rfl rfl rfl (LOp.build rfl bt42 rfl rfl rfl) ?_
  refine LOps.st rfl rfl rfl (LOp.alloc rfl zt42 rfl rfl) ?_
  refine LOps.st rfl rfl rfl (LOp.store rfl rfl rfl rfl vt42 rfl rfl rfl rfl) ?_
  refine LOps.nil ?_
  refine thn_n ?_
  refine LW.seq ?_
  refine LW.region ?_
  refine LOps.st rfl rfl rfl (LOp.build rfl bt42 rfl rfl rfl) ?_
  refine LOps.st rfl rfl rfl (LOp.alloc rfl zt42 rfl rfl) ?_
  refine LOps.st rfl rfl rfl (LOp.store rfl rfl rfl rfl vt42 rfl rfl rfl rfl) ?_
  refine LOps.nil ?_
  refine thn_n ?_
  refine LW.seq ?_
  refine LW.region ?_
  refine LOps.st rfl rfl rfl (LOp.load rfl rfl rfl vt42 rfl rfl) ?_
  refine LOps.st rfl rfl rfl (LOp.load rfl rfl rfl vt42 rfl rfl) ?_
  refine LOps.st rfl rfl rfl (LOp.buildSlice rfl st27 rfl rfl rfl rfl rfl) ?_
  refine LOps.st rfl rfl rfl (LOp.assign rfl rfl) ?_
  refine LOps.nil ?_
  refine thn_n ?_
  refine LW.seq ?_
  refine LW.ent (Ent.slot rfl) ?_
  refine LW.drawW (by kernel_rfl) (by kernel_rfl) ?_
  refine LF.st rfl rfl rfl (LAt.load rfl rfl rfl vt42 rfl rfl) rfl ?_
  refine LF.st (F := []) (s := none) rfl rfl rfl (fun H _ => LOp.call rfl rfl rfl (by kernel_rfl) (LC.pure (c50 (b := (Bk.mk 1 0 (0, 0) 0))) (.cons Conv.p .nil))) rfl ?_
  refine LF.st (F := []) (s := none) rfl rfl rfl (fun H _ => LOp.build rfl bt26 rfl rfl rfl) rfl ?_
  refine LF.st (F := []) (s := none) rfl rfl rfl (fun H _ => LOp.move rfl rfl) rfl ?_
  refine LF.st rfl rfl rfl (LAt.load rfl rfl rfl vt42 rfl rfl) rfl ?_
  refine LF.st (F := []) (s := none) rfl rfl rfl (fun H _ => LOp.call rfl rfl rfl (by kernel_rfl) (LC.pure (c50 (b := (Bk.mk 1 0 (0, 0) 1))) (.cons Conv.p .nil))) rfl ?_
  refine LF.st (F := []) (s := none) rfl rfl rfl (fun H _ => LOp.build rfl bt24 rfl rfl rfl) rfl ?_
  obtain ⟨q1, hr⟩ := grd_get hr
  refine LF.st (F := []) (s := none) rfl rfl rfl (fun H _ => LOp.call rfl rfl rfl (by kernel_rfl) (LC.pure (c37 (c := (Cu.mk (nm (Bk.mk 1 0 (0, 0) 0)) 1 0)) (l := [Bk.mk 1 0 (0, 0) 0, Bk.mk 1 0 (0, 0) 1]) (head := (nm (Bk.mk 1 0 (0, 0) 1))) (found := (0, 0)) (is := false) (slot := 5) (few_le q1)) (.cons Conv.p (.cons Conv.p (.cons Conv.p (.cons Conv.p (.cons Conv.p (.cons Conv.p .nil)))))))) rfl ?_
  refine LF.st rfl rfl rfl (LAt.alloc rfl zt26 (id := 2) rfl) rfl ?_
  refine LF.st rfl rfl rfl (LAt.store rfl rfl rfl rfl vt26 rfl rfl rfl) rfl ?_
  refine LF.nil ⟨by kernel_rfl, ?_⟩
  refine thn_n ?_
  refine LW.seq ?_
  refine LW.ent (Ent.slot rfl) ?_
  refine LW.drawW (by kernel_rfl) (by kernel_rfl) ?_
  refine LF.st (F := []) (s := none) rfl rfl rfl (fun H _ => LOp.build rfl bt26 rfl rfl rfl) rfl ?_
  refine LF.st (F := []) (s := none) rfl rfl rfl (fun H _ => LOp.move rfl rfl) rfl ?_
  refine LF.st rfl rfl rfl (LAt.load rfl rfl rfl vt42 rfl rfl) rfl ?_
  refine LF.st (F := []) (s := none) rfl rfl rfl (fun H _ => LOp.call rfl rfl rfl (by kernel_rfl) (LC.pure (c50 (b := (Bk.mk 1 0 (0, 0) 1))) (.cons Conv.p .nil))) rfl ?_
  refine LF.st rfl rfl rfl (LAt.load rfl rfl rfl vt42 rfl rfl) rfl ?_
  refine LF.st (F := []) (s := none) rfl rfl rfl (fun H _ => LOp.call rfl rfl rfl (by kernel_rfl) (LC.pure (c50 (b := (Bk.mk 1 0 (0, 0) 1))) (.cons Conv.p .nil))) rfl ?_
  obtain ⟨q2, hr⟩ := grd_get hr
  refine LF.st (F := []) (s := none) rfl rfl rfl (fun H _ => LOp.call rfl rfl rfl (by kernel_rfl) (LC.pure (c37 (c := (Cu.mk (0, 0) 0 0)) (l := [Bk.mk 1 0 (0, 0) 0, Bk.mk 1 0 (0, 0) 1]) (head := (nm (Bk.mk 1 0 (0, 0) 1))) (found := (nm (Bk.mk 1 0 (0, 0) 1))) (is := true) (slot := 5) (few_le q2)) (.cons Conv.p (.cons Conv.p (.cons Conv.p (.cons Conv.p (.cons Conv.p (.cons Conv.p .nil)))))))) rfl ?_
  refine LF.st rfl rfl rfl (LAt.alloc rfl zt26 (id := 3) rfl) rfl ?_
  refine LF.st rfl rfl rfl (LAt.store rfl rfl rfl rfl vt26 rfl rfl rfl) rfl ?_
  refine LF.nil ⟨by kernel_rfl, ?_⟩
  refine thn_n ?_
  refine LW.seq ?_
  refine LW.draw (by kernel_rfl) (by kernel_rfl) ?_
  refine LO.st rfl rfl rfl (LOp.load rfl rfl rfl vt26 rfl rfl) ?_
  refine LO.st rfl rfl rfl (LOp.build rfl bt26 rfl rfl rfl) ?_
  refine LO.st rfl rfl rfl (LOp.eqlAgg rfl rfl rfl rfl rfl eqt26) ?_
  refine LO.st rfl rfl rfl (LOp.move rfl rfl) ?_
  refine LO.cases 29 rfl (fun (g1 : (((((moveOf (Cu.mk (nm (Bk.mk 1 0 (0, 0) 0)) 1 0) [Bk.mk 1 0 (0, 0) 0, Bk.mk 1 0 (0, 0) 1] (nm (Bk.mk 1 0 (0, 0) 1)) (0, 0) false 5).ID).1) == 0) && (((((moveOf (Cu.mk (nm (Bk.mk 1 0 (0, 0) 0)) 1 0) [Bk.mk 1 0 (0, 0) 0, Bk.mk 1 0 (0, 0) 1] (nm (Bk.mk 1 0 (0, 0) 1)) (0, 0) false 5).ID).2) == 0) && ((((moveOf (Cu.mk (nm (Bk.mk 1 0 (0, 0) 0)) 1 0) [Bk.mk 1 0 (0, 0) 0, Bk.mk 1 0 (0, 0) 1] (nm (Bk.mk 1 0 (0, 0) 1)) (0, 0) false 5).Slot) == 5) && ((((moveOf (Cu.mk (nm (Bk.mk 1 0 (0, 0) 0)) 1 0) [Bk.mk 1 0 (0, 0) 0, Bk.mk 1 0 (0, 0) 1] (nm (Bk.mk 1 0 (0, 0) 1)) (0, 0) false 5).Revoked) == 1) && true)))) = true) => ?_) (fun (g1 : (((((moveOf (Cu.mk (nm (Bk.mk 1 0 (0, 0) 0)) 1 0) [Bk.mk 1 0 (0, 0) 0, Bk.mk 1 0 (0, 0) 1] (nm (Bk.mk 1 0 (0, 0) 1)) (0, 0) false 5).ID).1) == 0) && (((((moveOf (Cu.mk (nm (Bk.mk 1 0 (0, 0) 0)) 1 0) [Bk.mk 1 0 (0, 0) 0, Bk.mk 1 0 (0, 0) 1] (nm (Bk.mk 1 0 (0, 0) 1)) (0, 0) false 5).ID).2) == 0) && ((((moveOf (Cu.mk (nm (Bk.mk 1 0 (0, 0) 0)) 1 0) [Bk.mk 1 0 (0, 0) 0, Bk.mk 1 0 (0, 0) 1] (nm (Bk.mk 1 0 (0, 0) 1)) (0, 0) false 5).Slot) == 5) && ((((moveOf (Cu.mk (nm (Bk.mk 1 0 (0, 0) 0)) 1 0) [Bk.mk 1 0 (0, 0) 0, Bk.mk 1 0 (0, 0) 1] (nm (Bk.mk 1 0 (0, 0) 1)) (0, 0) false 5).Revoked) == 1) && true)))) = false) => ?_)
  · -- g1 is True
    have hr := ite_t g1 hr
    refine LO.gd rfl rfl rfl (gd g1 rfl) rfl (LOp.load rfl rfl rfl vt26 rfl rfl) ?_
    refine LO.gd rfl rfl rfl (gd g1 rfl) rfl (LOp.load rfl rfl rfl vt42 rfl rfl) ?_
    refine LO.gd rfl rfl rfl (gd g1 rfl) rfl (LOp.call rfl rfl rfl (by kernel_rfl) (LC.pure (c50 (b := (Bk.mk 1 0 (0, 0) 1))) (.cons Conv.p .nil))) ?_
    refine LO.gd rfl rfl rfl (gd g1 rfl) rfl (LOp.build rfl bt26 rfl rfl rfl) ?_
    refine LO.gd rfl rfl rfl (gd g1 rfl) rfl (LOp.eqlAgg rfl rfl rfl rfl rfl eqt26) ?_
    refine LO.st rfl rfl rfl (LOp.pickT rfl (gdl g1 rfl) rfl) ?_
    refine LO.st rfl rfl rfl (LOp.assign rfl rfl) ?_
    refine LO.nil ?_
    refine thn_n ?_
    refine LW.ret ?_
    obtain rfl := Option.some.inj hr
    refine finP_ret (.one (.tmp rfl)) ?_
    exact Conv.p
  · -- g1 is False
    have hr := ite_f g1 hr
    refine LO.sk rfl rfl rfl (gd g1 rfl) rfl rfl ?_
    refine LO.sk rfl rfl rfl (gd g1 rfl) rfl rfl ?_
    refine LO.sk rfl rfl rfl (gd g1 rfl) rfl rfl ?_
    refine LO.sk rfl rfl rfl (gd g1 rfl) rfl rfl ?_
    refine LO.sk rfl rfl rfl (gd g1 rfl) rfl rfl ?_
    refine LO.st rfl rfl rfl (LOp.pickF rfl (gdl g1 rfl) rfl) ?_
    refine LO.st rfl rfl rfl (LOp.assign rfl rfl) ?_
    refine LO.nil ?_
    refine thn_n ?_
    refine LW.ret ?_
    obtain rfl := Option.some.inj hr
    refine finP_ret (.one (.tmp rfl)) ?_
    exact Conv.p

/-! marigold/marigoldlaw06.awake -/

def F41 : Option Bool :=
  (F43 [Bk.mk 1 0 (0, 0) 0] (nm (Bk.mk 1 0 (0, 0) 0))).bind fun v1 =>
  (F52 [Bk.mk 1 0 (0, 0) 0]).bind fun v2 =>
  bif v2 then
    bif few [Bk.mk 1 0 (0, 0) 0] then
      bif ((chainOf [Bk.mk 1 0 (0, 0) 0] (nm (Bk.mk 1 0 (0, 0) 0))).length : Int) == 2 then
        (F53 [Bk.mk 1 0 (0, 0) 0] (nm (Bk.mk 1 0 (0, 0) 0))).bind fun v3 =>
        bif v3 == 0 then
          bif v1.2 then
            bif v1.1 == 1 then
              (F46 [Bk.mk 1 0 (0, 0) 0] (0, 0)).bind fun v4 =>
              bif (v4.length : Int) == 1 then
                bif few [Bk.mk 1 0 (0, 0) 0] then
                  bif decide (indexOf (chainOf [Bk.mk 1 0 (0, 0) 0] (nm (Bk.mk 1 0 (0, 0) 0))) (0, 0) ≥ 0) then
                    bif few [Bk.mk 1 0 (0, 0) 0] then
                      some (!(decide (indexOf (chainOf [Bk.mk 1 0 (0, 0) 0] (0, 0)) (nm (Bk.mk 1 0 (0, 0) 0)) ≥ 0)))
                    else none
                  else
                    some false
                else none
              else
                some false
            else
              some false
          else
            some false
        else
          some false
      else
        some false
    else none
  else
    some false

set_option maxRecDepth 100000 in
theorem c41 {r_ : Bool} (hr : F41 = some r_) : LPure Try.prog 41 [] [.bool r_] := by
  refine LPure.start Try.func41 rfl rfl rfl rfl ?_
  unfold F41 at hr
  refine LW.seq ?_
  refine LW.region ?_
  refine LOps.st rfl rfl rfl (LOp.assign rfl rfl) ?_
  refine LOps.nil ?_
  refine thn_n ?_
  refine LW.seq ?_
  refine LW.region ?_
  refine LOps.st rfl rfl rfl (LOp.build rfl bt42 rfl rfl rfl) ?_
  refine LOps.st rfl rfl rfl (LOp.alloc rfl zt42 rfl rfl) ?_
  refine LOps.st rfl rfl rfl (LOp.store rfl rfl rfl rfl vt42 rfl rfl rfl rfl) ?_
  refine LOps.nil ?_
  refine thn_n ?_
  refine LW.seq ?_
  refine LW.region ?_
  refine LOps.st rfl rfl rfl (LOp.load rfl rfl rfl vt42 rfl rfl) ?_
  refine LOps.st rfl rfl rfl (LOp.buildSlice rfl st27 rfl rfl rfl rfl rfl) ?_
  refine LOps.st rfl rfl rfl (LOp.assign rfl rfl) ?_
  refine LOps.nil ?_
  refine thn_n ?_
  refine LW.seq ?_
  refine LW.region ?_
  refine LOps.st rfl rfl rfl (LOp.load rfl rfl rfl vt42 rfl rfl) ?_
  refine LOps.st rfl rfl rfl (LOp.call rfl rfl rfl (by kernel_rfl) (LC.pure (c50 (b := (Bk.mk 1 0 (0, 0) 0))) (.cons Conv.p .nil))) ?_
  refine LOps.st rfl rfl rfl (LOp.alloc rfl zt24 rfl rfl) ?_
  refine LOps.st rfl rfl rfl (LOp.store rfl rfl rfl rfl vt24 rfl rfl rfl rfl) ?_
  refine LOps.nil ?_
  refine thn_n ?_
  refine LW.seq ?_
  refine LW.region ?_
  refine LOps.st rfl rfl rfl (LOp.move rfl rfl) ?_
  refine LOps.st rfl rfl rfl (LOp.load rfl rfl rfl vt24 rfl rfl) ?_
  obtain ⟨v1, h_v1, hr⟩ := bind_get hr
  refine LOps.st rfl rfl rfl (LOp.call rfl rfl rfl (by kernel_rfl) (LC.pure (c43 h_v1) (.cons Conv.p (.cons Conv.p .nil)))) ?_
  refine LOps.st rfl rfl rfl (LOp.move rfl rfl) ?_
  refine LOps.st rfl rfl rfl (LOp.extract rfl rfl rfl) ?_
  refine LOps.st rfl rfl rfl (LOp.extract rfl rfl rfl) ?_
  refine LOps.st rfl rfl rfl (LOp.assign rfl rfl) ?_
  refine LOps.st rfl rfl rfl (LOp.assign rfl rfl) ?_
  refine LOps.nil ?_
  refine thn_n ?_
  refine LW.seq ?_
  refine LW.region ?_
  refine LOps.st rfl rfl rfl (LOp.move rfl rfl) ?_
  obtain ⟨v2, h_v2, hr⟩ := bind_get hr
  refine LOps.st rfl rfl rfl (LOp.call rfl rfl rfl (by kernel_rfl) (LC.pure (c52 h_v2) (.cons Conv.p .nil))) ?_
  refine LOps.st rfl rfl rfl (LOp.move rfl rfl) ?_
  refine LOps.cases 19 rfl (fun (g1 : v2 = true) => ?_) (fun (g1 : v2 = false) => ?_)
  · -- g1 is True
    have hr := ite_t g1 hr
    refine LOps.gd rfl rfl rfl (gd g1 rfl) rfl (LOp.move rfl rfl) ?_
    refine LOps.gd rfl rfl rfl (gd g1 rfl) rfl (LOp.load rfl rfl rfl vt24 rfl rfl) ?_
    obtain ⟨q1, hr⟩ := grd_get hr
    refine LOps.gd rfl rfl rfl (gd g1 rfl) rfl (LOp.call rfl rfl rfl (by kernel_rfl) (LC.pure (c39 (l := [Bk.mk 1 0 (0, 0) 0]) (id := (nm (Bk.mk 1 0 (0, 0) 0))) (few_le q1)) (.cons Conv.p (.cons Conv.p .nil)))) ?_
    refine LOps.gd rfl rfl rfl (gd g1 rfl) rfl (LOp.lenM rfl rfl (by kernel_rfl)) ?_
    refine LOps.gd rfl rfl rfl (gd g1 rfl) rfl (LOp.bin rfl rfl rfl rfl) ?_
    refine LOps.st rfl rfl rfl (LOp.pickT rfl (gdl g1 rfl) rfl) ?_
    refine LOps.st rfl rfl rfl (LOp.move rfl rfl) ?_
    refine LOps.cases 26 rfl (fun (g2 : (((chainOf [Bk.mk 1 0 (0, 0) 0] (nm (Bk.mk 1 0 (0, 0) 0))).length : Int) == 2) = true) => ?_) (fun (g2 : (((chainOf [Bk.mk 1 0 (0, 0) 0] (nm (Bk.mk 1 0 (0, 0) 0))).length : Int) == 2) = false) => ?_)
    · -- g2 is True
      have hr := ite_t g2 hr
      refine LOps.gd rfl rfl rfl (gd g2 rfl) rfl (LOp.move rfl rfl) ?_
      refine LOps.gd rfl rfl rfl (gd g2 rfl) rfl (LOp.load rfl rfl rfl vt24 rfl rfl) ?_
      obtain ⟨v3, h_v3, hr⟩ := bind_get hr
      refine LOps.gd rfl rfl rfl (gd g2 rfl) rfl (LOp.call rfl rfl rfl (by kernel_rfl) (LC.pure (c53 h_v3) (.cons Conv.p (.cons Conv.p .nil)))) ?_
      refine LOps.gd rfl rfl rfl (gd g2 rfl) rfl (LOp.bin rfl rfl rfl rfl) ?_
      refine LOps.st rfl rfl rfl (LOp.pickT rfl (gdl g2 rfl) rfl) ?_
      refine LOps.st rfl rfl rfl (LOp.move rfl rfl) ?_
      refine LOps.cases 32 rfl (fun (g3 : (v3 == 0) = true) => ?_) (fun (g3 : (v3 == 0) = false) => ?_)
      · -- g3 is True
        have hr := ite_t g3 hr
        refine LOps.gd rfl rfl rfl (gd g3 rfl) rfl (LOp.move rfl rfl) ?_
        refine LOps.st rfl rfl rfl (LOp.pickT rfl (gdl g3 rfl) rfl) ?_
        refine LOps.st rfl rfl rfl (LOp.move rfl rfl) ?_
        refine LOps.cases 35 rfl (fun (g4 : v1.2 = true) => ?_) (fun (g4 : v1.2 = false) => ?_)
        · -- g4 is True
          have hr := ite_t g4 hr
          refine LOps.gd rfl rfl rfl (gd g4 rfl) rfl (LOp.move rfl rfl) ?_
          refine LOps.gd rfl rfl rfl (gd g4 rfl) rfl (LOp.bin rfl rfl rfl rfl) ?_
          refine LOps.st rfl rfl rfl (LOp.pickT rfl (gdl g4 rfl) rfl) ?_
          refine LOps.st rfl rfl rfl (LOp.move rfl rfl) ?_
          refine LOps.cases 39 rfl (fun (g5 : (v1.1 == 1) = true) => ?_) (fun (g5 : (v1.1 == 1) = false) => ?_)
          · -- g5 is True
            have hr := ite_t g5 hr
            refine LOps.gd rfl rfl rfl (gd g5 rfl) rfl (LOp.move rfl rfl) ?_
            refine LOps.gd rfl rfl rfl (gd g5 rfl) rfl (LOp.build rfl bt24 rfl rfl rfl) ?_
            obtain ⟨v4, h_v4, hr⟩ := bind_get hr
            refine LOps.gd rfl rfl rfl (gd g5 rfl) rfl (LOp.call rfl rfl rfl (by kernel_rfl) (LC.pure (c46 h_v4) (.cons Conv.p (.cons Conv.p .nil)))) ?_
            refine LOps.gd rfl rfl rfl (gd g5 rfl) rfl (LOp.lenM rfl rfl (by kernel_rfl)) ?_
            refine LOps.gd rfl rfl rfl (gd g5 rfl) rfl (LOp.bin rfl rfl rfl rfl) ?_
            refine LOps.st rfl rfl rfl (LOp.pickT rfl (gdl g5 rfl) rfl) ?_
            refine LOps.st rfl rfl rfl (LOp.move rfl rfl) ?_
            refine LOps.cases 46 rfl (fun (g6 : ((v4.length : Int) == 1) = true) => ?_) (fun (g6 : ((v4.length : Int) == 1) = false) => ?_)
            · -- g6 is True
              have hr := ite_t g6 hr
              refine LOps.gd rfl rfl rfl (gd g6 rfl) rfl (LOp.move rfl rfl) ?_
              refine LOps.gd rfl rfl rfl (gd g6 rfl) rfl (LOp.build rfl bt24 rfl rfl rfl) ?_
              refine LOps.gd rfl rfl rfl (gd g6 rfl) rfl (LOp.load rfl rfl rfl vt24 rfl rfl) ?_
              obtain ⟨q2, hr⟩ := grd_get hr
              refine LOps.gd rfl rfl rfl (gd g6 rfl) rfl (LOp.call rfl rfl rfl (by kernel_rfl) (LC.pure (c40 (l := [Bk.mk 1 0 (0, 0) 0]) (a := (0, 0)) (b := (nm (Bk.mk 1 0 (0, 0) 0))) (few_le q2)) (.cons Conv.p (.cons Conv.p (.cons Conv.p .nil))))) ?_
              refine LOps.st rfl rfl rfl (LOp.pickT rfl (gdl g6 rfl) rfl) ?_
              refine LOps.st rfl rfl rfl (LOp.move rfl rfl) ?_
              refine LOps.cases 52 rfl (fun (g7 : (decide (indexOf (chainOf [Bk.mk 1 0 (0, 0) 0] (nm (Bk.mk 1 0 (0, 0) 0))) (0, 0) ≥ 0)) = true) => ?_) (fun (g7 : (decide (indexOf (chainOf [Bk.mk 1 0 (0, 0) 0] (nm (Bk.mk 1 0 (0, 0) 0))) (0, 0) ≥ 0)) = false) => ?_)
              · -- g7 is True
                have hr := ite_t g7 hr
                refine LOps.gd rfl rfl rfl (gd g7 rfl) rfl (LOp.move rfl rfl) ?_
                refine LOps.gd rfl rfl rfl (gd g7 rfl) rfl (LOp.load rfl rfl rfl vt24 rfl rfl) ?_
                refine LOps.gd rfl rfl rfl (gd g7 rfl) rfl (LOp.build rfl bt24 rfl rfl rfl) ?_
                obtain ⟨q3, hr⟩ := grd_get hr
                refine LOps.gd rfl rfl rfl (gd g7 rfl) rfl (LOp.call rfl rfl rfl (by kernel_rfl) (LC.pure (c40 (l := [Bk.mk 1 0 (0, 0) 0]) (a := (nm (Bk.mk 1 0 (0, 0) 0))) (b := (0, 0)) (few_le q3)) (.cons Conv.p (.cons Conv.p (.cons Conv.p .nil))))) ?_
                refine LOps.gd rfl rfl rfl (gd g7 rfl) rfl (LOp.not rfl rfl) ?_
                refine LOps.st rfl rfl rfl (LOp.pickT rfl (gdl g7 rfl) rfl) ?_
                refine LOps.st rfl rfl rfl (LOp.assign rfl rfl) ?_
                refine LOps.nil ?_
                refine thn_n ?_
                refine LW.ret ?_
                obtain rfl := Option.some.inj hr
                refine finP_ret (.one (.tmp rfl)) ?_
                exact Conv.p
              · -- g7 is False
                have hr := ite_f g7 hr
                refine LOps.sk rfl rfl rfl (gd g7 rfl) rfl rfl ?_
                refine LOps.sk rfl rfl rfl (gd g7 rfl) rfl rfl ?_
                refine LOps.sk rfl rfl rfl (gd g7 rfl) rfl rfl ?_
                refine LOps.sk rfl rfl rfl (gd g7 rfl) rfl rfl ?_
                refine LOps.sk rfl rfl rfl (gd g7 rfl) rfl rfl ?_
                refine LOps.st rfl rfl rfl (LOp.pickF rfl (gdl g7 rfl) rfl) ?_
                refine LOps.st rfl rfl rfl (LOp.assign rfl rfl) ?_
                refine LOps.nil ?_
                refine thn_n ?_
                refine LW.ret ?_
                obtain rfl := Option.some.inj hr
                refine finP_ret (.one (.tmp rfl)) ?_
                exact Conv.p
            · -- g6 is False
              have hr := ite_f g6 hr
              refine LOps.sk rfl rfl rfl (gd g6 rfl) rfl rfl ?_
              refine LOps.sk rfl rfl rfl (gd g6 rfl) rfl rfl ?_
              refine LOps.sk rfl rfl rfl (gd g6 rfl) rfl rfl ?_
              refine LOps.sk rfl rfl rfl (gd g6 rfl) rfl rfl ?_
              refine LOps.st rfl rfl rfl (LOp.pickF rfl (gdl g6 rfl) rfl) ?_
              refine LOps.st rfl rfl rfl (LOp.move rfl rfl) ?_
              refine LOps.sk rfl rfl rfl rfl rfl rfl ?_
              refine LOps.sk rfl rfl rfl rfl rfl rfl ?_
              refine LOps.sk rfl rfl rfl rfl rfl rfl ?_
              refine LOps.sk rfl rfl rfl rfl rfl rfl ?_
              refine LOps.sk rfl rfl rfl rfl rfl rfl ?_
              refine LOps.st rfl rfl rfl (LOp.pickF rfl rfl rfl) ?_
              refine LOps.st rfl rfl rfl (LOp.assign rfl rfl) ?_
              refine LOps.nil ?_
              refine thn_n ?_
              refine LW.ret ?_
              obtain rfl := Option.some.inj hr
              refine finP_ret (.one (.tmp rfl)) ?_
              exact Conv.p
          · -- g5 is False
            have hr := ite_f g5 hr
            refine LOps.sk rfl rfl rfl (gd g5 rfl) rfl rfl ?_
            refine LOps.sk rfl rfl rfl (gd g5 rfl) rfl rfl ?_
            refine LOps.sk rfl rfl rfl (gd g5 rfl) rfl rfl ?_
            refine LOps.sk rfl rfl rfl (gd g5 rfl) rfl rfl ?_
            refine LOps.sk rfl rfl rfl (gd g5 rfl) rfl rfl ?_
            refine LOps.st rfl rfl rfl (LOp.pickF rfl (gdl g5 rfl) rfl) ?_
            refine LOps.st rfl rfl rfl (LOp.move rfl rfl) ?_
            refine LOps.sk rfl rfl rfl rfl rfl rfl ?_
            refine LOps.sk rfl rfl rfl rfl rfl rfl ?_
            refine LOps.sk rfl rfl rfl rfl rfl rfl ?_
            refine LOps.sk rfl rfl rfl rfl rfl rfl ?_
            refine LOps.st rfl rfl rfl (LOp.pickF rfl rfl rfl) ?_
            refine LOps.st rfl rfl rfl (LOp.move rfl rfl) ?_
            refine LOps.sk rfl rfl rfl rfl rfl rfl ?_
            refine LOps.sk rfl rfl rfl rfl rfl rfl ?_
            refine LOps.sk rfl rfl rfl rfl rfl rfl ?_
            refine LOps.sk rfl rfl rfl rfl rfl rfl ?_
            refine LOps.sk rfl rfl rfl rfl rfl rfl ?_
            refine LOps.st rfl rfl rfl (LOp.pickF rfl rfl rfl) ?_
            refine LOps.st rfl rfl rfl (LOp.assign rfl rfl) ?_
            refine LOps.nil ?_
            refine thn_n ?_
            refine LW.ret ?_
            obtain rfl := Option.some.inj hr
            refine finP_ret (.one (.tmp rfl)) ?_
            exact Conv.p
        · -- g4 is False
          have hr := ite_f g4 hr
          refine LOps.sk rfl rfl rfl (gd g4 rfl) rfl rfl ?_
          refine LOps.sk rfl rfl rfl (gd g4 rfl) rfl rfl ?_
          refine LOps.st rfl rfl rfl (LOp.pickF rfl (gdl g4 rfl) rfl) ?_
          refine LOps.st rfl rfl rfl (LOp.move rfl rfl) ?_
          refine LOps.sk rfl rfl rfl rfl rfl rfl ?_
          refine LOps.sk rfl rfl rfl rfl rfl rfl ?_
          refine LOps.sk rfl rfl rfl rfl rfl rfl ?_
          refine LOps.sk rfl rfl rfl rfl rfl rfl ?_
          refine LOps.sk rfl rfl rfl rfl rfl rfl ?_
          refine LOps.st rfl rfl rfl (LOp.pickF rfl rfl rfl) ?_
          refine LOps.st rfl rfl rfl (LOp.move rfl rfl) ?_
          refine LOps.sk rfl rfl rfl rfl rfl rfl ?_
          refine LOps.sk rfl rfl rfl rfl rfl rfl ?_
          refine LOps.sk rfl rfl rfl rfl rfl rfl ?_
          refine LOps.sk rfl rfl rfl rfl rfl rfl ?_
          refine LOps.st rfl rfl rfl (LOp.pickF rfl rfl rfl) ?_
          refine LOps.st rfl rfl rfl (LOp.move rfl rfl) ?_
          refine LOps.sk rfl rfl rfl rfl rfl rfl ?_
          refine LOps.sk rfl rfl rfl rfl rfl rfl ?_
          refine LOps.sk rfl rfl rfl rfl rfl rfl ?_
          refine LOps.sk rfl rfl rfl rfl rfl rfl ?_
          refine LOps.sk rfl rfl rfl rfl rfl rfl ?_
          refine LOps.st rfl rfl rfl (LOp.pickF rfl rfl rfl) ?_
          refine LOps.st rfl rfl rfl (LOp.assign rfl rfl) ?_
          refine LOps.nil ?_
          refine thn_n ?_
          refine LW.ret ?_
          obtain rfl := Option.some.inj hr
          refine finP_ret (.one (.tmp rfl)) ?_
          exact Conv.p
      · -- g3 is False
        have hr := ite_f g3 hr
        refine LOps.sk rfl rfl rfl (gd g3 rfl) rfl rfl ?_
        refine LOps.st rfl rfl rfl (LOp.pickF rfl (gdl g3 rfl) rfl) ?_
        refine LOps.st rfl rfl rfl (LOp.move rfl rfl) ?_
        refine LOps.sk rfl rfl rfl rfl rfl rfl ?_
        refine LOps.sk rfl rfl rfl rfl rfl rfl ?_
        refine LOps.st rfl rfl rfl (LOp.pickF rfl rfl rfl) ?_
        refine LOps.st rfl rfl rfl (LOp.move rfl rfl) ?_
        refine LOps.sk rfl rfl rfl rfl rfl rfl ?_
        refine LOps.sk rfl rfl rfl rfl rfl rfl ?_
        refine LOps.sk rfl rfl rfl rfl rfl rfl ?_
        refine LOps.sk rfl rfl rfl rfl rfl rfl ?_
        refine LOps.sk rfl rfl rfl rfl rfl rfl ?_
        refine LOps.st rfl rfl rfl (LOp.pickF rfl rfl rfl) ?_
        refine LOps.st rfl rfl rfl (LOp.move rfl rfl) ?_
        refine LOps.sk rfl rfl rfl rfl rfl rfl ?_
        refine LOps.sk rfl rfl rfl rfl rfl rfl ?_
        refine LOps.sk rfl rfl rfl rfl rfl rfl ?_
        refine LOps.sk rfl rfl rfl rfl rfl rfl ?_
        refine LOps.st rfl rfl rfl (LOp.pickF rfl rfl rfl) ?_
        refine LOps.st rfl rfl rfl (LOp.move rfl rfl) ?_
        refine LOps.sk rfl rfl rfl rfl rfl rfl ?_
        refine LOps.sk rfl rfl rfl rfl rfl rfl ?_
        refine LOps.sk rfl rfl rfl rfl rfl rfl ?_
        refine LOps.sk rfl rfl rfl rfl rfl rfl ?_
        refine LOps.sk rfl rfl rfl rfl rfl rfl ?_
        refine LOps.st rfl rfl rfl (LOp.pickF rfl rfl rfl) ?_
        refine LOps.st rfl rfl rfl (LOp.assign rfl rfl) ?_
        refine LOps.nil ?_
        refine thn_n ?_
        refine LW.ret ?_
        obtain rfl := Option.some.inj hr
        refine finP_ret (.one (.tmp rfl)) ?_
        exact Conv.p
    · -- g2 is False
      have hr := ite_f g2 hr
      refine LOps.sk rfl rfl rfl (gd g2 rfl) rfl rfl ?_
      refine LOps.sk rfl rfl rfl (gd g2 rfl) rfl rfl ?_
      refine LOps.sk rfl rfl rfl (gd g2 rfl) rfl rfl ?_
      refine LOps.sk rfl rfl rfl (gd g2 rfl) rfl rfl ?_
      refine LOps.st rfl rfl rfl (LOp.pickF rfl (gdl g2 rfl) rfl) ?_
      refine LOps.st rfl rfl rfl (LOp.move rfl rfl) ?_
      refine LOps.sk rfl rfl rfl rfl rfl rfl ?_
      refine LOps.st rfl rfl rfl (LOp.pickF rfl rfl rfl) ?_
      refine LOps.st rfl rfl rfl (LOp.move rfl rfl) ?_
      refine LOps.sk rfl rfl rfl rfl rfl rfl ?_
      refine LOps.sk rfl rfl rfl rfl rfl rfl ?_
      refine LOps.st rfl rfl rfl (LOp.pickF rfl rfl rfl) ?_
      refine LOps.st rfl rfl rfl (LOp.move rfl rfl) ?_
      refine LOps.sk rfl rfl rfl rfl rfl rfl ?_
      refine LOps.sk rfl rfl rfl rfl rfl rfl ?_
      refine LOps.sk rfl rfl rfl rfl rfl rfl ?_
      refine LOps.sk rfl rfl rfl rfl rfl rfl ?_
      refine LOps.sk rfl rfl rfl rfl rfl rfl ?_
      refine LOps.st rfl rfl rfl (LOp.pickF rfl rfl rfl) ?_
      refine LOps.st rfl rfl rfl (LOp.move rfl rfl) ?_
      refine LOps.sk rfl rfl rfl rfl rfl rfl ?_
      refine LOps.sk rfl rfl rfl rfl rfl rfl ?_
      refine LOps.sk rfl rfl rfl rfl rfl rfl ?_
      refine LOps.sk rfl rfl rfl rfl rfl rfl ?_
      refine LOps.st rfl rfl rfl (LOp.pickF rfl rfl rfl) ?_
      refine LOps.st rfl rfl rfl (LOp.move rfl rfl) ?_
      refine LOps.sk rfl rfl rfl rfl rfl rfl ?_
      refine LOps.sk rfl rfl rfl rfl rfl rfl ?_
      refine LOps.sk rfl rfl rfl rfl rfl rfl ?_
      refine LOps.sk rfl rfl rfl rfl rfl rfl ?_
      refine LOps.sk rfl rfl rfl rfl rfl rfl ?_
      refine LOps.st rfl rfl rfl (LOp.pickF rfl rfl rfl) ?_
      refine LOps.st rfl rfl rfl (LOp.assign rfl rfl) ?_
      refine LOps.nil ?_
      refine thn_n ?_
      refine LW.ret ?_
      obtain rfl := Option.some.inj hr
      refine finP_ret (.one (.tmp rfl)) ?_
      exact Conv.p
  · -- g1 is False
    have hr := ite_f g1 hr
    refine LOps.sk rfl rfl rfl (gd g1 rfl) rfl rfl ?_
    refine LOps.sk rfl rfl rfl (gd g1 rfl) rfl rfl ?_
    refine LOps.sk rfl rfl rfl (gd g1 rfl) rfl rfl ?_
    refine LOps.sk rfl rfl rfl (gd g1 rfl) rfl rfl ?_
    refine LOps.sk rfl rfl rfl (gd g1 rfl) rfl rfl ?_
    refine LOps.st rfl rfl rfl (LOp.pickF rfl (gdl g1 rfl) rfl) ?_
    refine LOps.st rfl rfl rfl (LOp.move rfl rfl) ?_
    refine LOps.sk rfl rfl rfl rfl rfl rfl ?_
    refine LOps.sk rfl rfl rfl rfl rfl rfl ?_
    refine LOps.sk rfl rfl rfl rfl rfl rfl ?_
    refine LOps.sk rfl rfl rfl rfl rfl rfl ?_
    refine LOps.st rfl rfl rfl (LOp.pickF rfl rfl rfl) ?_
    refine LOps.st rfl rfl rfl (LOp.move rfl rfl) ?_
    refine LOps.sk rfl rfl rfl rfl rfl rfl ?_
    refine LOps.st rfl rfl rfl (LOp.pickF rfl rfl rfl) ?_
    refine LOps.st rfl rfl rfl (LOp.move rfl rfl) ?_
    refine LOps.sk rfl rfl rfl rfl rfl rfl ?_
    refine LOps.sk rfl rfl rfl rfl rfl rfl ?_
    refine LOps.st rfl rfl rfl (LOp.pickF rfl rfl rfl) ?_
    refine LOps.st rfl rfl rfl (LOp.move rfl rfl) ?_
    refine LOps.sk rfl rfl rfl rfl rfl rfl ?_
    refine LOps.sk rfl rfl rfl rfl rfl rfl ?_
    refine LOps.sk rfl rfl rfl rfl rfl rfl ?_
    refine LOps.sk rfl rfl rfl rfl rfl rfl ?_
    refine LOps.sk rfl rfl rfl rfl rfl rfl ?_
    refine LOps.st rfl rfl rfl (LOp.pickF rfl rfl rfl) ?_
    refine LOps.st rfl rfl rfl (LOp.move rfl rfl) ?_
    refine LOps.sk rfl rfl rfl rfl rfl rfl ?_
    refine LOps.sk rfl rfl rfl rfl rfl rfl ?_
    refine LOps.sk rfl rfl rfl rfl rfl rfl ?_
    refine LOps.sk rfl rfl rfl rfl rfl rfl ?_
    refine LOps.st rfl rfl rfl (LOp.pickF rfl rfl rfl) ?_
    refine LOps.st rfl rfl rfl (LOp.move rfl rfl) ?_
    refine LOps.sk rfl rfl rfl rfl rfl rfl ?_
    refine LOps.sk rfl rfl rfl rfl rfl rfl ?_
    refine LOps.sk rfl rfl rfl rfl rfl rfl ?_
    refine LOps.sk rfl rfl rfl rfl rfl rfl ?_
    refine LOps.sk rfl rfl rfl rfl rfl rfl ?_
    refine LOps.st rfl rfl rfl (LOp.pickF rfl rfl rfl) ?_
    refine LOps.st rfl rfl rfl (LOp.assign rfl rfl) ?_
    refine LOps.nil ?_
    refine thn_n ?_
    refine LW.ret ?_
    obtain rfl := Option.some.inj hr
    refine finP_ret (.one (.tmp rfl)) ?_
    exact Conv.p

end Go.Mg

namespace Go.Mg

/-! The kernel must not be led to compute: these are no definitional steps of simp's. -/
theorem ob {α β : Type} {x : α} {f : α → Option β} : (some x).bind f = f x := by
  have h : ∀ o : Option α, o = some x → o.bind f = f x := by intro o e; subst e; rfl
  exact h _ rfl
theorem ct {α : Sort _} {x y : α} : (bif true then x else y) = x := by
  have h : ∀ b : Bool, b = true → (bif b then x else y) = x := by intro o e; subst e; rfl
  exact h _ rfl
theorem cf {α : Sort _} {x y : α} : (bif false then x else y) = y := by
  have h : ∀ b : Bool, b = false → (bif b then x else y) = y := by intro o e; subst e; rfl
  exact h _ rfl
theorem sl {α β γ : Type} {f : α → γ} {g : β → γ} {x : α} : Sum.elim f g (.inl x) = f x := by
  have h : ∀ s : α ⊕ β, s = .inl x → Sum.elim f g s = f x := by intro o e; subst e; rfl
  exact h _ rfl
theorem sr {α β γ : Type} {f : α → γ} {g : β → γ} {x : β} : Sum.elim f g (.inr x) = g x := by
  have h : ∀ s : α ⊕ β, s = .inr x → Sum.elim f g s = g x := by intro o e; subst e; rfl
  exact h _ rfl

/-- A loop comes to its end, and what holds there. -/
theorem iter_inv {α β : Type} {step : α → Option (α ⊕ β)} (Inv : α → Prop) (m : α → Nat) (Post : β → Prop)
    (h : ∀ x, Inv x → (∃ y, step x = some (.inl y) ∧ Inv y ∧ m y < m x) ∨ ∃ b, step x = some (.inr b) ∧ Post b) : ∀ {n : Nat} {x : α}, Inv x → m x < n → ∃ b, iter step n x = some b ∧ Post b := by
  intro n
  induction n with
  | zero => intro x _ hn; omega
  | succ n ih =>
    intro x hx hn
    unfold iter
    rcases h x hx with ⟨y, h1, h2, h3⟩ | ⟨b, h1, h2⟩
    · rw [h1]; exact ih h2 (by omega)
    · rw [h1]; exact ⟨b, rfl, h2⟩

theorem ix_nat {α : Type} {l : List α} {n : Nat} {y : α} (h : l[n]? = some y) : ix l (n : Int) = some y := by
  unfold ix; rw [if_pos (by omega)]; simpa using h
theorem ix_of {α : Type} {l : List α} {i : Int} {y : α} (h0 : 0 ≤ i) (h : l[i.toNat]? = some y) : ix l i = some y := by
  unfold ix; rw [if_pos h0]; exact h
theorem get_of {α : Type} {l : List α} {n : Nat} (h : n < l.length) : ∃ y, l[n]? = some y ∧ y ∈ l := ⟨l[n], List.getElem?_eq_getElem h, List.getElem_mem h⟩
theorem wrap_succ {n : Nat} (h : n < 4000000000) : IntKind.i64.wrap ((n : Int) + 1) = ((n + 1 : Nat) : Int) := by
  rw [wrapI (by omega) (by omega)]; omega
theorem room_ok {a b c : Nat} (h : a + b ≤ 1000000) (hc : c ≤ 1000) : room a b c = true := by
  have : (a + b) * (c + 1) ≤ 1000000 * 1001 := Nat.mul_le_mul h (by omega)
  exact decide_eq_true (by omega)
theorem inL_hi {α : Type} {l : List α} {i : Int} (h0 : 0 ≤ i) (h : i ≤ l.length) : inL l 0 i = true := decide_eq_true ⟨Int.le_refl _, h0, h⟩
theorem big_gt {n : Nat} (h : n < 4000000000000000000) : n < big := by unfold big; omega

theorem eqID' (a b : ID) : ((a.1 == b.1) && (a.2 == b.2)) = decide (a = b) := by rw [← eqID]; simp
theorem eqID0 (a : ID) : ((a.1 == 0) && ((a.2 == 0) && true)) = decide (a = (0, 0)) := eqID a (0, 0)
theorem eqID0' (a : ID) : ((a.1 == 0) && (a.2 == 0)) = decide (a = (0, 0)) := eqID' a (0, 0)
theorem bifd {α : Sort _} {p : Prop} [Decidable p] {x y : α} : (bif decide p then x else y) = if p then x else y := by by_cases h : p <;> simp [h]
theorem F36_eq : F36 = some true := by kernel_rfl
theorem F41_eq : F41 = some true := by kernel_rfl
end Go.Mg

namespace Go.Mg
theorem isListO {α : Type} {f : α → PV} {O : α → Prop} {T : TS} (hf : ∀ p, TIs T p → ∃ a, p = f a ∧ O a) : ∀ {xs : List PV}, (∀ x ∈ xs, TIs T x) → ∃ l : List α, xs = l.map f ∧ ∀ a ∈ l, O a
  | [], _ => ⟨[], rfl, fun a h => by simp at h⟩
  | x :: xs, h => by
    obtain ⟨a, rfl, ha⟩ := hf x (h x (.head _))
    obtain ⟨l, rfl, hl⟩ := isListO hf fun y hy => h y (.tail _ hy)
    exact ⟨a :: l, rfl, fun b hb => by
      cases hb with
      | head => exact ha
      | tail _ hb => exact hl b hb⟩

theorem isSliceO {α : Type} {f : α → PV} {O : α → Prop} {T : TS} {m : Nat} (hf : ∀ p, TIs T p → ∃ a, p = f a ∧ O a) {p : PV} (h : TIs (.slice m T) p) : ∃ l : List α, p = .slice m (l.map f) ∧ ∀ a ∈ l, O a := by
  cases h with
  | slice h =>
    obtain ⟨l, rfl, hl⟩ := isListO hf h
    exact ⟨l, rfl, hl⟩

/-- A block's numbers are of their kinds. -/
def BkOk (b : Bk) : Prop := InKind .i64 b.Slot ∧ InKind .i64 b.From ∧ InKind .u64 b.Parent.1 ∧ InKind .u64 b.Parent.2 ∧ InKind .u64 b.Salt
def VtOk (v : Vt) : Prop := InKind .i64 v.From ∧ InKind .i64 v.Slot ∧ InKind .u64 v.Head.1 ∧ InKind .u64 v.Head.2
def IDOk (v : ID) : Prop := InKind .u64 v.1 ∧ InKind .u64 v.2
def CfOk (c : Cf) : Prop := (∀ w ∈ c.W, InKind .i64 w) ∧ InKind .u64 c.Seed ∧ InKind .i64 c.Epoch ∧ InKind .i64 c.Num ∧ InKind .i64 c.Den
def CuOk (c : Cu) : Prop := IDOk c.ID ∧ InKind .i64 c.Slot ∧ InKind .i64 c.Revoked
def VwOk (w : Vw) : Prop := (∀ b ∈ w.B, BkOk b) ∧ ∀ v ∈ w.V, VtOk v

theorem isIdO {p : PV} (h : TIs (.agg [.int .u64, .int .u64]) p) : ∃ c : ID, p = idP c ∧ IDOk c := by
  cases h with | agg h =>
  cases h with | cons a h => cases h with | cons b h => cases h; cases a; cases b; exact ⟨(_, _), rfl, by assumption, by assumption⟩

theorem isBkO {p : PV} (h : TIs (.agg [.int .i64, .int .i64, .int .u64, .int .u64, .int .u64]) p) : ∃ c : Bk, p = blkP c ∧ BkOk c := by
  cases h with | agg h =>
  cases h with | cons a h => cases h with | cons b h => cases h with | cons c h => cases h with | cons d h => cases h with | cons e h =>
    cases h; cases a; cases b; cases c; cases d; cases e
    exact ⟨⟨_, _, (_, _), _⟩, rfl, by assumption, by assumption, by assumption, by assumption, by assumption⟩

theorem isVtO {p : PV} (h : TIs (.agg [.int .i64, .int .i64, .int .u64, .int .u64]) p) : ∃ c : Vt, p = vtP c ∧ VtOk c := by
  cases h with | agg h =>
  cases h with | cons a h => cases h with | cons b h => cases h with | cons c h => cases h with | cons d h =>
    cases h; cases a; cases b; cases c; cases d
    exact ⟨⟨_, _, (_, _)⟩, rfl, by assumption, by assumption, by assumption, by assumption⟩

theorem isCuO {p : PV} (h : TIs (.agg [.int .u64, .int .u64, .int .i64, .int .i64]) p) : ∃ c : Cu, p = curP c ∧ CuOk c := by
  cases h with | agg h =>
  cases h with | cons a h => cases h with | cons b h => cases h with | cons c h => cases h with | cons d h =>
    cases h; cases a; cases b; cases c; cases d
    exact ⟨⟨(_, _), _, _⟩, rfl, ⟨by assumption, by assumption⟩, by assumption, by assumption⟩

theorem isIntO {k : IntKind} {f : Int → PV} (hf : ∀ n, f n = .int k n) {p : PV} (h : TIs (.int k) p) : ∃ n, p = f n ∧ InKind k n := by
  cases h with | int h => exact ⟨_, (hf _).symm, h⟩
theorem isInts {p : PV} (h : TIs (.slice 1 (.int .i64)) p) : ∃ l : List Int, p = .slice 1 (l.map i64P) ∧ ∀ a ∈ l, InKind .i64 a := isSliceO (fun _ h => isIntO (fun _ => rfl) h) h

theorem isCfO {p : PV} (h : TIs (.agg [.slice 1 (.int .i64), .int .u64, .int .i64, .int .i64, .int .i64]) p) : ∃ c : Cf, p = cfP c ∧ CfOk c := by
  cases h with | agg h =>
  cases h with | cons a h => cases h with | cons b h => cases h with | cons c h => cases h with | cons d h => cases h with | cons e h =>
    cases h
    obtain ⟨w, rfl, hw⟩ := isInts a
    cases b; cases c; cases d; cases e
    exact ⟨⟨w, _, _, _, _⟩, rfl, hw, by assumption, by assumption, by assumption, by assumption⟩

theorem isVwO {p : PV} (h : TIs (.agg [.slice 5 (.agg [.int .i64, .int .i64, .int .u64, .int .u64, .int .u64]), .slice 4 (.agg [.int .i64, .int .i64, .int .u64, .int .u64])]) p) : ∃ c : Vw, p = vwP c ∧ VwOk c := by
  cases h with | agg h =>
  cases h with | cons a h => cases h with | cons b h =>
    cases h
    obtain ⟨x, rfl, hx⟩ := isSliceO (fun _ h => isBkO h) a
    obtain ⟨y, rfl, hy⟩ := isSliceO (fun _ h => isVtO h) b
    exact ⟨⟨x, y⟩, rfl, hx, hy⟩
end Go.Mg

namespace Go.Mg
theorem few_of {l : List Bk} (h : l.length ≤ 1000) : few l = true := decide_eq_true h
section
variable {l : List Bk}
/-- Where a block is. -/
def findOf (l : List Bk) (id : ID) : Int := match places l with
  | none => -1
  | some m => (findE m id).getD (-1)
/-- Its slot, and whether it is there. -/
def slotOfB (l : List Bk) (id : ID) : Int × Bool := match places l with
  | none => (0, false)
  | some m => match findE m id with
    | none => (0, false)
    | some i => (slotIx l i, true)
/-- What stands on one. -/
def kidsOf (l : List Bk) (id : ID) : List ID := match places l with
  | none => []
  | some _ => (l.filter fun b => decide (b.Parent = id)).map nm

theorem F53_eq (id : ID) : F53 l id = some (findOf l id) := by
  unfold F53 findOf
  cases h : places l with
  | none => rfl
  | some m => cases hf : findE m id <;> simp [hf]

theorem F52_eq : F52 l = some (places l).isSome := by
  unfold F52
  cases h : places l <;> rfl

theorem known_ix {m : List (ID × Int)} (h : places l = some m) {id : ID} {i : Int} (hf : findE m id = some i) : (i = -1 ∧ id = (0, 0)) ∨ ∃ b, 0 ≤ i ∧ i < l.length ∧ l[i.toNat]? = some b ∧ nm b = id ∧ slotIx l i = b.Slot := by
  rcases (places_inv h).known _ _ hf with h1 | ⟨b, p, h0, h1, h2, h3, -⟩
  · exact .inl h1
  · exact .inr ⟨b, h0, h1, h2, h3, by simp [slotIx, h2, show ¬ i = -1 by omega]⟩

theorem F43_eq (id : ID) : F43 l id = some (slotOfB l id) := by
  unfold F43 slotOfB
  cases h : places l with
  | none => rfl
  | some m =>
    cases hf : findE m id with
    | none => simp [hf]
    | some i =>
      rcases known_ix h hf with ⟨rfl, -⟩ | ⟨b, h0, h1, h2, h3, h4⟩
      · simp [hf, slotIx]
      · have : (i == -1) = false := by simp; omega
        simp [hf, this, ix_of h0 h2, h4]

theorem filter_snoc {n : Nat} {y : Bk} (hy : l[n]? = some y) (id : ID) : ((l.take (n + 1)).filter fun b => decide (b.Parent = id)).map nm = ((l.take n).filter fun b => decide (b.Parent = id)).map nm ++ if y.Parent = id then [nm y] else [] := by
  rw [List.take_add_one, hy, List.filter_append, List.map_append]
  by_cases h : y.Parent = id <;> simp [h]

theorem kids_step {n : Nat} {y : Bk} {out : List ID} {id : ID} {v : ID} (hl : l.length ≤ 1000) (hn : n < l.length) (hy : l[n]? = some y) (ho : out.length ≤ n) (hv : nm y = v) :
    F46_s1 l id ⟨n, out⟩ = some (.inl ⟨IntKind.i64.wrap ((n : Int) + 1), out ++ if y.Parent = id then [v] else []⟩) := by
  simp only [F46_s1]
  rw [decide_eq_true (show (n : Int) < (l.length : Int) by omega), ix_nat hy]
  simp only [ct, ob, hv, eqID]
  rw [room_ok (by simp; omega) (by omega)]
  by_cases h : y.Parent = id
  · rw [decide_eq_true h, if_pos h]; rfl
  · rw [decide_eq_false h, if_neg h, List.append_nil]; rfl

theorem F46_eq (hl : l.length ≤ 1000) (id : ID) : F46 l id = some (kidsOf l id) := by
  simp only [F46, F52_eq, ob]
  unfold kidsOf
  cases h : places l with
  | none => rfl
  | some m =>
  simp only [Option.isSome_some, Bool.not_true, cf]
  have key := iter_inv (step := F46_s1 l id) (fun x => ∃ n : Nat, x.t13 = n ∧ n ≤ l.length ∧ x.out = ((l.take n).filter fun b => decide (b.Parent = id)).map nm)
    (fun x => l.length - x.t13.toNat) (fun b => b.out = (l.filter fun b => decide (b.Parent = id)).map nm) (by
      rintro ⟨i, out⟩ ⟨n, rfl, hn, ho⟩
      simp only at ho ⊢
      by_cases hlt : n < l.length
      case neg =>
        right
        refine ⟨⟨n, out⟩, ?_, ?_⟩
        · simp only [F46_s1]; rw [decide_eq_false (by omega)]; rfl
        · rw [ho, List.take_of_length_le (by omega)]
      obtain ⟨y, hy, -⟩ := get_of hlt
      left
      have hol : out.length ≤ n := by
        rw [ho, List.length_map]
        exact Nat.le_trans (List.length_filter_le _ _) (by simp; omega)
      refine ⟨_, kids_step hl hlt hy hol rfl, ⟨n + 1, wrap_succ (n := n) (by omega), by omega, ?_⟩, ?_⟩
      · rw [filter_snoc hy, ← ho]
      · simp only [wrap_succ (show n < 4000000000 by omega)]; omega) (x := ⟨0, []⟩) ⟨0, rfl, Nat.zero_le _, by simp⟩ (n := big) (big_gt (by simp only; omega))
  obtain ⟨b, hb, hpost⟩ := key
  simp only [hb, ob, hpost]

end
end Go.Mg

namespace Go.Mg
/-! What is known of a beginning of blocks. -/

/-- What the program's map holds of the first n. -/
def mAt (l : List Bk) : Nat → List (ID × Int)
  | 0 => [((0, 0), -1)]
  | n + 1 => match l[n]? with
    | some b => mAt l n ++ [(nm b, (n : Int))]
    | none => mAt l n

theorem indexOf_snoc {a : List ID} {x id : ID} : indexOf (a ++ [x]) id = if 0 ≤ indexOf a id then indexOf a id else if x = id then a.length else -1 := by
  rcases indexOf_lt (l := a) (v := id) with ⟨h1, h2⟩ | ⟨i, h1, h2, h3⟩
  · rw [if_neg (by omega)]
    by_cases hx : x = id
    · subst hx
      rw [if_pos rfl]
      refine indexOf_at (i := a.length) (by simp) fun j hj e => h2 ?_
      rw [List.getElem?_append_left hj] at e
      exact List.mem_of_getElem? e
    · rw [if_neg hx]
      refine indexOf_none fun j hj e => ?_
      have := List.mem_of_getElem? e
      simp only [List.mem_append, List.mem_singleton] at this
      rcases this with h | h
      · exact h2 h
      · exact hx h.symm
  · rw [h1, if_pos (by omega)]
    have hi := (List.getElem?_eq_some_iff.1 h2).1
    refine indexOf_at (by rw [List.getElem?_append_left hi]; exact h2) fun j hj => ?_
    rw [List.getElem?_append_left (by omega)]; exact h3 j hj

theorem mAt_find {l : List Bk} (id : ID) : ∀ n, n ≤ l.length → findE (mAt l n) id = if id = (0, 0) then some (-1) else if 0 ≤ indexOf ((l.take n).map nm) id then some (indexOf ((l.take n).map nm) id) else none
  | 0, _ => by
    have : indexOf ((l.take 0).map nm) id = -1 := by simp [indexOf]
    simp only [mAt, findE, this]
    by_cases h : id = (0, 0)
    · subst h; simp
    · rw [if_neg (fun e => h e.symm), if_neg h, if_neg (by omega)]
  | n + 1, hn => by
    obtain ⟨b, hb, -⟩ := get_of (l := l) (n := n) (by omega)
    have ih := mAt_find (l := l) id n (by omega)
    simp only [mAt, hb]
    rw [findE_append, ih, List.take_add_one, hb]
    simp only [Option.toList, List.map_append, List.map_cons, List.map_nil]
    rw [indexOf_snoc]
    by_cases h : id = (0, 0)
    · rw [if_pos h, if_pos h]; rfl
    · rw [if_neg h, if_neg h]
      by_cases h2 : 0 ≤ indexOf ((l.take n).map nm) id
      · rw [if_pos h2, if_pos h2, if_pos h2]; rfl
      · rw [if_neg h2, if_neg h2]
        by_cases h3 : nm b = id
        · rw [if_pos h3, if_pos h3, if_pos (by omega)]
          simp; omega
        · rw [if_neg h3, if_neg h3, if_neg (by omega)]; rfl

theorem mAt_slot {l : List Bk} {n : Nat} {id : ID} (h : 0 ≤ indexOf ((l.take n).map nm) id) : ∃ (j : Nat) (b : Bk), indexOf ((l.take n).map nm) id = j ∧ j < n ∧ l[j]? = some b ∧ nm b = id := by
  rcases indexOf_lt (l := (l.take n).map nm) (v := id) with ⟨h1, h2⟩ | ⟨i, h1, h2, h3⟩
  · omega
  · have hi := (List.getElem?_eq_some_iff.1 h2).1
    simp only [List.length_map, List.length_take] at hi
    rw [List.getElem?_map, List.getElem?_take_of_lt (by omega)] at h2
    cases hb : l[i]? with
    | none => rw [hb] at h2; simp at h2
    | some b => rw [hb] at h2; simp at h2; exact ⟨i, b, h1, by omega, hb, h2⟩

/-- What the program's map holds, in the end. -/
theorem places_mAt {l : List Bk} : ∀ (r n : Nat), l.length - n = r → n ≤ l.length → ∀ m, placesGo l (l.drop n) n (mAt l n) = some m → m = mAt l l.length := by
  intro r
  induction r with
  | zero =>
    intro n hr hn m h
    have : n = l.length := by omega
    subst this
    rw [List.drop_length] at h
    cases h; rfl
  | succ r ih =>
    intro n hr hn m h
    obtain ⟨y, hy, -⟩ := get_of (l := l) (n := n) (by omega)
    rw [placesGo_at hy] at h
    split at h
    · cases h
    · split at h
      · cases h
      · split at h
        · cases h
        · refine ih (n + 1) (by omega) (by omega) m ?_
          have e : mAt l (n + 1) = mAt l n ++ [(nm y, (n : Int))] := by simp only [mAt, hy]
          rw [e]; exact h

theorem places_is {l : List Bk} {m : List (ID × Int)} (h : places l = some m) : m = mAt l l.length := places_mAt l.length 0 (by omega) (Nat.zero_le _) m h

/-- Where a name is, by the map and by the list of names. -/
theorem find_names {l : List Bk} {m : List (ID × Int)} (h : places l = some m) (id : ID) :
    findE m id = if id = (0, 0) then some (-1) else if 0 ≤ indexOf (l.map nm) id then some (indexOf (l.map nm) id) else none := by
  have := mAt_find (l := l) id l.length (Nat.le_refl _)
  rw [List.take_length] at this
  rw [places_is h]; exact this

theorem zero_names {l : List Bk} {m : List (ID × Int)} (h : places l = some m) : indexOf (l.map nm) (0, 0) = -1 := by
  rcases indexOf_lt (l := l.map nm) (v := (0, 0)) with ⟨h1, -⟩ | ⟨i, h1, h2, -⟩
  · exact h1
  · rw [List.getElem?_map] at h2
    cases hb : l[i]? with
    | none => rw [hb] at h2; cases h2
    | some b =>
      rw [hb] at h2
      have hi := (List.getElem?_eq_some_iff.1 hb).1
      have h3 := (places_inv h).names i b hi hb
      have h4 := (places_inv h).zero
      simp only [Option.map_some, Option.some.injEq] at h2
      rw [h2, h4] at h3
      cases h3

end Go.Mg
