/- What the logic needs to know of each type of the program. Conditions: none. -/
import Derived.Test.YtlhocfhoocmfiaaMg18
import Derived.Test.YtlhocfhoocmfiaaProg
namespace Go.Mg
open Go.Proofs
section
variable {w : World}
theorem at23 : arrTy Try.prog 23 = some (2, 1, false) := by kernel_rfl
theorem at24 : arrTy Try.prog 24 = some (2, 1, false) := by kernel_rfl
theorem at115 : arrTy Try.prog 115 = some (10, 5, true) := by kernel_rfl
theorem bt7 : buildTy Try.prog 7 = some ([LV.p (PV.int IntKind.i64 0), LV.p (PV.int IntKind.i64 0), LV.p (PV.bool false), LV.p (PV.int IntKind.u8 0)], [(0, 1), (1, 1), (2, 1), (3, 1)]) := by kernel_rfl
theorem bt8 : buildTy Try.prog 8 = some ([LV.p (PV.int IntKind.i64 0), LV.p (PV.int IntKind.i64 0), LV.p (PV.bool false), LV.p (PV.int IntKind.u8 0)], [(0, 1), (1, 1), (2, 1), (3, 1)]) := by kernel_rfl
theorem bt23 : buildTy Try.prog 23 = some ([LV.p (PV.int IntKind.u64 0), LV.p (PV.int IntKind.u64 0)], [(0, 1), (1, 1)]) := by kernel_rfl
theorem bt24 : buildTy Try.prog 24 = some ([LV.p (PV.int IntKind.u64 0), LV.p (PV.int IntKind.u64 0)], [(0, 1), (1, 1)]) := by kernel_rfl
theorem bt25 : buildTy Try.prog 25 = some ([LV.p (PV.int IntKind.u64 0), LV.p (PV.int IntKind.u64 0), LV.p (PV.int IntKind.i64 0), LV.p (PV.int IntKind.i64 0)], [(0, 2), (2, 1), (3, 1)]) := by kernel_rfl
theorem bt26 : buildTy Try.prog 26 = some ([LV.p (PV.int IntKind.u64 0), LV.p (PV.int IntKind.u64 0), LV.p (PV.int IntKind.i64 0), LV.p (PV.int IntKind.i64 0)], [(0, 2), (2, 1), (3, 1)]) := by kernel_rfl
theorem bt41 : buildTy Try.prog 41 = some ([LV.p (PV.int IntKind.i64 0), LV.p (PV.int IntKind.i64 0), LV.p (PV.int IntKind.u64 0), LV.p (PV.int IntKind.u64 0), LV.p (PV.int IntKind.u64 0)], [(0, 1), (1, 1), (2, 2), (4, 1)]) := by kernel_rfl
theorem bt42 : buildTy Try.prog 42 = some ([LV.p (PV.int IntKind.i64 0), LV.p (PV.int IntKind.i64 0), LV.p (PV.int IntKind.u64 0), LV.p (PV.int IntKind.u64 0), LV.p (PV.int IntKind.u64 0)], [(0, 1), (1, 1), (2, 2), (4, 1)]) := by kernel_rfl
theorem bt54 : buildTy Try.prog 54 = some ([LV.zs, LV.p (PV.int IntKind.u64 0), LV.p (PV.int IntKind.i64 0), LV.p (PV.int IntKind.i64 0), LV.p (PV.int IntKind.i64 0)], [(0, 1), (1, 1), (2, 1), (3, 1), (4, 1)]) := by kernel_rfl
theorem bt55 : buildTy Try.prog 55 = some ([LV.zs, LV.p (PV.int IntKind.u64 0), LV.p (PV.int IntKind.i64 0), LV.p (PV.int IntKind.i64 0), LV.p (PV.int IntKind.i64 0)], [(0, 1), (1, 1), (2, 1), (3, 1), (4, 1)]) := by kernel_rfl
theorem bt74 : buildTy Try.prog 74 = some ([LV.zs, LV.zs], [(0, 1), (1, 1)]) := by kernel_rfl
theorem bt75 : buildTy Try.prog 75 = some ([LV.zs, LV.zs], [(0, 1), (1, 1)]) := by kernel_rfl
theorem bt81 : buildTy Try.prog 81 = some ([LV.p (PV.int IntKind.i64 0), LV.p (PV.int IntKind.i64 0), LV.p (PV.int IntKind.u64 0), LV.p (PV.int IntKind.u64 0)], [(0, 1), (1, 1), (2, 2)]) := by kernel_rfl
theorem bt82 : buildTy Try.prog 82 = some ([LV.p (PV.int IntKind.i64 0), LV.p (PV.int IntKind.i64 0), LV.p (PV.int IntKind.u64 0), LV.p (PV.int IntKind.u64 0)], [(0, 1), (1, 1), (2, 2)]) := by kernel_rfl
theorem bt101 : buildTy Try.prog 101 = some ([], []) := by kernel_rfl
theorem bt102 : buildTy Try.prog 102 = some ([], []) := by kernel_rfl
theorem bt103 : buildTy Try.prog 103 = some ([], []) := by kernel_rfl
theorem bt105 : buildTy Try.prog 105 = some ([LV.p (PV.int IntKind.u32 0)], [(0, 0), (0, 1)]) := by kernel_rfl
theorem bt106 : buildTy Try.prog 106 = some ([LV.p (PV.int IntKind.u32 0)], [(0, 0), (0, 1)]) := by kernel_rfl
theorem bt107 : buildTy Try.prog 107 = some ([LV.p (PV.int IntKind.i32 0), LV.p (PV.int IntKind.u32 0)], [(0, 1), (1, 1)]) := by kernel_rfl
theorem bt108 : buildTy Try.prog 108 = some ([LV.p (PV.int IntKind.i32 0), LV.p (PV.int IntKind.u32 0)], [(0, 1), (1, 1)]) := by kernel_rfl
theorem bt109 : buildTy Try.prog 109 = some ([LV.p (PV.int IntKind.i32 0), LV.p (PV.int IntKind.u32 0)], [(0, 0), (0, 2)]) := by kernel_rfl
theorem bt110 : buildTy Try.prog 110 = some ([LV.p (PV.int IntKind.i32 0), LV.p (PV.int IntKind.u32 0)], [(0, 0), (0, 2)]) := by kernel_rfl
theorem bt111 : buildTy Try.prog 111 = some ([LV.p (PV.int IntKind.u32 0), LV.p (PV.int IntKind.i32 0), LV.p (PV.int IntKind.u32 0)], [(0, 0), (0, 1), (1, 2)]) := by kernel_rfl
theorem bt112 : buildTy Try.prog 112 = some ([LV.p (PV.int IntKind.u32 0), LV.p (PV.int IntKind.i32 0), LV.p (PV.int IntKind.u32 0)], [(0, 0), (0, 1), (1, 2)]) := by kernel_rfl
theorem bt113 : buildTy Try.prog 113 = some ([LV.p (PV.int IntKind.u32 0), LV.p (PV.int IntKind.i32 0), LV.p (PV.int IntKind.u32 0), LV.p (PV.int IntKind.i64 0), LV.p (PV.int IntKind.u64 0)], [(0, 3), (3, 1), (4, 1)]) := by kernel_rfl
theorem bt114 : buildTy Try.prog 114 = some ([LV.p (PV.int IntKind.u32 0), LV.p (PV.int IntKind.i32 0), LV.p (PV.int IntKind.u32 0), LV.p (PV.int IntKind.i64 0), LV.p (PV.int IntKind.u64 0)], [(0, 3), (3, 1), (4, 1)]) := by kernel_rfl
theorem bt115 : buildTy Try.prog 115 = some ([LV.p (PV.int IntKind.u32 0), LV.p (PV.int IntKind.i32 0), LV.p (PV.int IntKind.u32 0), LV.p (PV.int IntKind.i64 0), LV.p (PV.int IntKind.u64 0), LV.p (PV.int IntKind.u32 0), LV.p (PV.int IntKind.i32 0), LV.p (PV.int IntKind.u32 0), LV.p (PV.int IntKind.i64 0), LV.p (PV.int IntKind.u64 0), LV.p (PV.int IntKind.u32 0), LV.p (PV.int IntKind.i32 0), LV.p (PV.int IntKind.u32 0), LV.p (PV.int IntKind.i64 0), LV.p (PV.int IntKind.u64 0), LV.p (PV.int IntKind.u32 0), LV.p (PV.int IntKind.i32 0), LV.p (PV.int IntKind.u32 0), LV.p (PV.int IntKind.i64 0), LV.p (PV.int IntKind.u64 0), LV.p (PV.int IntKind.u32 0), LV.p (PV.int IntKind.i32 0), LV.p (PV.int IntKind.u32 0), LV.p (PV.int IntKind.i64 0), LV.p (PV.int IntKind.u64 0), LV.p (PV.int IntKind.u32 0), LV.p (PV.int IntKind.i32 0), LV.p (PV.int IntKind.u32 0), LV.p (PV.int IntKind.i64 0), LV.p (PV.int IntKind.u64 0), LV.p (PV.int IntKind.u32 0), LV.p (PV.int IntKind.i32 0), LV.p (PV.int IntKind.u32 0), LV.p (PV.int IntKind.i64 0), LV.p (PV.int IntKind.u64 0), LV.p (PV.int IntKind.u32 0), LV.p (PV.int IntKind.i32 0), LV.p (PV.int IntKind.u32 0), LV.p (PV.int IntKind.i64 0), LV.p (PV.int IntKind.u64 0), LV.p (PV.int IntKind.u32 0), LV.p (PV.int IntKind.i32 0), LV.p (PV.int IntKind.u32 0), LV.p (PV.int IntKind.i64 0), LV.p (PV.int IntKind.u64 0), LV.p (PV.int IntKind.u32 0), LV.p (PV.int IntKind.i32 0), LV.p (PV.int IntKind.u32 0), LV.p (PV.int IntKind.i64 0), LV.p (PV.int IntKind.u64 0)], [(0, 5), (5, 5), (10, 5), (15, 5), (20, 5), (25, 5), (30, 5), (35, 5), (40, 5), (45, 5)]) := by kernel_rfl
theorem bt116 : buildTy Try.prog 116 = some ([], []) := by kernel_rfl
theorem bt117 : buildTy Try.prog 117 = some ([LV.p (PV.int IntKind.i64 0)], [(0, 0), (0, 0), (0, 1)]) := by kernel_rfl
theorem bt118 : buildTy Try.prog 118 = some ([LV.p (PV.int IntKind.i64 0)], [(0, 0), (0, 0), (0, 1)]) := by kernel_rfl
theorem bt119 : buildTy Try.prog 119 = some ([LV.p (PV.int IntKind.u64 0), LV.p (PV.int IntKind.i64 0), LV.p (PV.int IntKind.u32 0), LV.p (PV.int IntKind.i32 0), LV.p (PV.int IntKind.u32 0), LV.p (PV.int IntKind.i64 0), LV.p (PV.int IntKind.u64 0), LV.p (PV.int IntKind.u32 0), LV.p (PV.int IntKind.i32 0), LV.p (PV.int IntKind.u32 0), LV.p (PV.int IntKind.i64 0), LV.p (PV.int IntKind.u64 0), LV.p (PV.int IntKind.u32 0), LV.p (PV.int IntKind.i32 0), LV.p (PV.int IntKind.u32 0), LV.p (PV.int IntKind.i64 0), LV.p (PV.int IntKind.u64 0), LV.p (PV.int IntKind.u32 0), LV.p (PV.int IntKind.i32 0), LV.p (PV.int IntKind.u32 0), LV.p (PV.int IntKind.i64 0), LV.p (PV.int IntKind.u64 0), LV.p (PV.int IntKind.u32 0), LV.p (PV.int IntKind.i32 0), LV.p (PV.int IntKind.u32 0), LV.p (PV.int IntKind.i64 0), LV.p (PV.int IntKind.u64 0), LV.p (PV.int IntKind.u32 0), LV.p (PV.int IntKind.i32 0), LV.p (PV.int IntKind.u32 0), LV.p (PV.int IntKind.i64 0), LV.p (PV.int IntKind.u64 0), LV.p (PV.int IntKind.u32 0), LV.p (PV.int IntKind.i32 0), LV.p (PV.int IntKind.u32 0), LV.p (PV.int IntKind.i64 0), LV.p (PV.int IntKind.u64 0), LV.p (PV.int IntKind.u32 0), LV.p (PV.int IntKind.i32 0), LV.p (PV.int IntKind.u32 0), LV.p (PV.int IntKind.i64 0), LV.p (PV.int IntKind.u64 0), LV.p (PV.int IntKind.u32 0), LV.p (PV.int IntKind.i32 0), LV.p (PV.int IntKind.u32 0), LV.p (PV.int IntKind.i64 0), LV.p (PV.int IntKind.u64 0), LV.p (PV.int IntKind.u32 0), LV.p (PV.int IntKind.i32 0), LV.p (PV.int IntKind.u32 0), LV.p (PV.int IntKind.i64 0), LV.p (PV.int IntKind.u64 0), LV.p (PV.int IntKind.i64 0)], [(0, 1), (1, 1), (2, 50), (52, 1)]) := by kernel_rfl
theorem bt120 : buildTy Try.prog 120 = some ([LV.p (PV.int IntKind.u64 0), LV.p (PV.int IntKind.i64 0), LV.p (PV.int IntKind.u32 0), LV.p (PV.int IntKind.i32 0), LV.p (PV.int IntKind.u32 0), LV.p (PV.int IntKind.i64 0), LV.p (PV.int IntKind.u64 0), LV.p (PV.int IntKind.u32 0), LV.p (PV.int IntKind.i32 0), LV.p (PV.int IntKind.u32 0), LV.p (PV.int IntKind.i64 0), LV.p (PV.int IntKind.u64 0), LV.p (PV.int IntKind.u32 0), LV.p (PV.int IntKind.i32 0), LV.p (PV.int IntKind.u32 0), LV.p (PV.int IntKind.i64 0), LV.p (PV.int IntKind.u64 0), LV.p (PV.int IntKind.u32 0), LV.p (PV.int IntKind.i32 0), LV.p (PV.int IntKind.u32 0), LV.p (PV.int IntKind.i64 0), LV.p (PV.int IntKind.u64 0), LV.p (PV.int IntKind.u32 0), LV.p (PV.int IntKind.i32 0), LV.p (PV.int IntKind.u32 0), LV.p (PV.int IntKind.i64 0), LV.p (PV.int IntKind.u64 0), LV.p (PV.int IntKind.u32 0), LV.p (PV.int IntKind.i32 0), LV.p (PV.int IntKind.u32 0), LV.p (PV.int IntKind.i64 0), LV.p (PV.int IntKind.u64 0), LV.p (PV.int IntKind.u32 0), LV.p (PV.int IntKind.i32 0), LV.p (PV.int IntKind.u32 0), LV.p (PV.int IntKind.i64 0), LV.p (PV.int IntKind.u64 0), LV.p (PV.int IntKind.u32 0), LV.p (PV.int IntKind.i32 0), LV.p (PV.int IntKind.u32 0), LV.p (PV.int IntKind.i64 0), LV.p (PV.int IntKind.u64 0), LV.p (PV.int IntKind.u32 0), LV.p (PV.int IntKind.i32 0), LV.p (PV.int IntKind.u32 0), LV.p (PV.int IntKind.i64 0), LV.p (PV.int IntKind.u64 0), LV.p (PV.int IntKind.u32 0), LV.p (PV.int IntKind.i32 0), LV.p (PV.int IntKind.u32 0), LV.p (PV.int IntKind.i64 0), LV.p (PV.int IntKind.u64 0), LV.p (PV.int IntKind.i64 0)], [(0, 1), (1, 1), (2, 50), (52, 1)]) := by kernel_rfl
theorem bt135 : buildTy Try.prog 135 = some ([LV.p (PV.int IntKind.i64 0), LV.p (PV.int IntKind.u64 0), LV.p (PV.int IntKind.u64 0)], [(0, 1), (1, 2)]) := by kernel_rfl
theorem bt136 : buildTy Try.prog 136 = some ([LV.p (PV.int IntKind.i64 0), LV.p (PV.int IntKind.u64 0), LV.p (PV.int IntKind.u64 0)], [(0, 1), (1, 2)]) := by kernel_rfl
theorem bt148 : buildTy Try.prog 148 = some ([LV.zs, LV.zs, LV.nilmap, LV.nilmap, LV.p (PV.int IntKind.i64 0), LV.p (PV.bool false)], [(0, 2), (2, 1), (3, 1), (4, 1), (5, 1)]) := by kernel_rfl
theorem bt149 : buildTy Try.prog 149 = some ([LV.zs, LV.zs, LV.nilmap, LV.nilmap, LV.p (PV.int IntKind.i64 0), LV.p (PV.bool false)], [(0, 2), (2, 1), (3, 1), (4, 1), (5, 1)]) := by kernel_rfl
theorem eqt23 : eqTy Try.prog 23 2 = true := by kernel_rfl
theorem eqt24 : eqTy Try.prog 24 2 = true := by kernel_rfl
theorem eqt25 : eqTy Try.prog 25 4 = true := by kernel_rfl
theorem eqt26 : eqTy Try.prog 26 4 = true := by kernel_rfl
theorem eqt41 : eqTy Try.prog 41 5 = true := by kernel_rfl
theorem eqt42 : eqTy Try.prog 42 5 = true := by kernel_rfl
theorem eqt81 : eqTy Try.prog 81 4 = true := by kernel_rfl
theorem eqt82 : eqTy Try.prog 82 4 = true := by kernel_rfl
theorem eqt101 : eqTy Try.prog 101 0 = true := by kernel_rfl
theorem eqt102 : eqTy Try.prog 102 0 = true := by kernel_rfl
theorem eqt103 : eqTy Try.prog 103 0 = true := by kernel_rfl
theorem eqt107 : eqTy Try.prog 107 2 = true := by kernel_rfl
theorem eqt108 : eqTy Try.prog 108 2 = true := by kernel_rfl
theorem eqt116 : eqTy Try.prog 116 0 = true := by kernel_rfl
theorem eqt135 : eqTy Try.prog 135 3 = true := by kernel_rfl
theorem eqt136 : eqTy Try.prog 136 3 = true := by kernel_rfl
theorem ft7_0 : fieldTy Try.prog 7 0 = some (0, 1, false) := by kernel_rfl
theorem ft7_1 : fieldTy Try.prog 7 1 = some (1, 1, false) := by kernel_rfl
theorem ft7_2 : fieldTy Try.prog 7 2 = some (2, 1, false) := by kernel_rfl
theorem ft7_3 : fieldTy Try.prog 7 3 = some (3, 1, false) := by kernel_rfl
theorem ft8_0 : fieldTy Try.prog 8 0 = some (0, 1, false) := by kernel_rfl
theorem ft8_1 : fieldTy Try.prog 8 1 = some (1, 1, false) := by kernel_rfl
theorem ft8_2 : fieldTy Try.prog 8 2 = some (2, 1, false) := by kernel_rfl
theorem ft8_3 : fieldTy Try.prog 8 3 = some (3, 1, false) := by kernel_rfl
theorem ft13_0 : fieldTy Try.prog 13 0 = some (0, 1, false) := by kernel_rfl
theorem ft13_1 : fieldTy Try.prog 13 1 = some (1, 1, false) := by kernel_rfl
theorem ft14_0 : fieldTy Try.prog 14 0 = some (0, 1, false) := by kernel_rfl
theorem ft14_1 : fieldTy Try.prog 14 1 = some (1, 1, false) := by kernel_rfl
theorem ft18_0 : fieldTy Try.prog 18 0 = some (0, 1, false) := by kernel_rfl
theorem ft19_0 : fieldTy Try.prog 19 0 = some (0, 1, false) := by kernel_rfl
theorem ft25_0 : fieldTy Try.prog 25 0 = some (0, 2, true) := by kernel_rfl
theorem ft25_1 : fieldTy Try.prog 25 1 = some (2, 1, false) := by kernel_rfl
theorem ft25_2 : fieldTy Try.prog 25 2 = some (3, 1, false) := by kernel_rfl
theorem ft26_0 : fieldTy Try.prog 26 0 = some (0, 2, true) := by kernel_rfl
theorem ft26_1 : fieldTy Try.prog 26 1 = some (2, 1, false) := by kernel_rfl
theorem ft26_2 : fieldTy Try.prog 26 2 = some (3, 1, false) := by kernel_rfl
theorem ft41_0 : fieldTy Try.prog 41 0 = some (0, 1, false) := by kernel_rfl
theorem ft41_1 : fieldTy Try.prog 41 1 = some (1, 1, false) := by kernel_rfl
theorem ft41_2 : fieldTy Try.prog 41 2 = some (2, 2, true) := by kernel_rfl
theorem ft41_3 : fieldTy Try.prog 41 3 = some (4, 1, false) := by kernel_rfl
theorem ft42_0 : fieldTy Try.prog 42 0 = some (0, 1, false) := by kernel_rfl
theorem ft42_1 : fieldTy Try.prog 42 1 = some (1, 1, false) := by kernel_rfl
theorem ft42_2 : fieldTy Try.prog 42 2 = some (2, 2, true) := by kernel_rfl
theorem ft42_3 : fieldTy Try.prog 42 3 = some (4, 1, false) := by kernel_rfl
theorem ft54_0 : fieldTy Try.prog 54 0 = some (0, 1, false) := by kernel_rfl
theorem ft54_1 : fieldTy Try.prog 54 1 = some (1, 1, false) := by kernel_rfl
theorem ft54_2 : fieldTy Try.prog 54 2 = some (2, 1, false) := by kernel_rfl
theorem ft54_3 : fieldTy Try.prog 54 3 = some (3, 1, false) := by kernel_rfl
theorem ft54_4 : fieldTy Try.prog 54 4 = some (4, 1, false) := by kernel_rfl
theorem ft55_0 : fieldTy Try.prog 55 0 = some (0, 1, false) := by kernel_rfl
theorem ft55_1 : fieldTy Try.prog 55 1 = some (1, 1, false) := by kernel_rfl
theorem ft55_2 : fieldTy Try.prog 55 2 = some (2, 1, false) := by kernel_rfl
theorem ft55_3 : fieldTy Try.prog 55 3 = some (3, 1, false) := by kernel_rfl
theorem ft55_4 : fieldTy Try.prog 55 4 = some (4, 1, false) := by kernel_rfl
theorem ft74_0 : fieldTy Try.prog 74 0 = some (0, 1, false) := by kernel_rfl
theorem ft74_1 : fieldTy Try.prog 74 1 = some (1, 1, false) := by kernel_rfl
theorem ft75_0 : fieldTy Try.prog 75 0 = some (0, 1, false) := by kernel_rfl
theorem ft75_1 : fieldTy Try.prog 75 1 = some (1, 1, false) := by kernel_rfl
theorem ft81_0 : fieldTy Try.prog 81 0 = some (0, 1, false) := by kernel_rfl
theorem ft81_1 : fieldTy Try.prog 81 1 = some (1, 1, false) := by kernel_rfl
theorem ft81_2 : fieldTy Try.prog 81 2 = some (2, 2, true) := by kernel_rfl
theorem ft82_0 : fieldTy Try.prog 82 0 = some (0, 1, false) := by kernel_rfl
theorem ft82_1 : fieldTy Try.prog 82 1 = some (1, 1, false) := by kernel_rfl
theorem ft82_2 : fieldTy Try.prog 82 2 = some (2, 2, true) := by kernel_rfl
theorem ft105_1 : fieldTy Try.prog 105 1 = some (0, 1, false) := by kernel_rfl
theorem ft106_1 : fieldTy Try.prog 106 1 = some (0, 1, false) := by kernel_rfl
theorem ft107_0 : fieldTy Try.prog 107 0 = some (0, 1, false) := by kernel_rfl
theorem ft107_1 : fieldTy Try.prog 107 1 = some (1, 1, false) := by kernel_rfl
theorem ft108_0 : fieldTy Try.prog 108 0 = some (0, 1, false) := by kernel_rfl
theorem ft108_1 : fieldTy Try.prog 108 1 = some (1, 1, false) := by kernel_rfl
theorem ft109_1 : fieldTy Try.prog 109 1 = some (0, 2, true) := by kernel_rfl
theorem ft110_1 : fieldTy Try.prog 110 1 = some (0, 2, true) := by kernel_rfl
theorem ft111_1 : fieldTy Try.prog 111 1 = some (0, 1, true) := by kernel_rfl
theorem ft111_2 : fieldTy Try.prog 111 2 = some (1, 2, true) := by kernel_rfl
theorem ft112_1 : fieldTy Try.prog 112 1 = some (0, 1, true) := by kernel_rfl
theorem ft112_2 : fieldTy Try.prog 112 2 = some (1, 2, true) := by kernel_rfl
theorem ft113_0 : fieldTy Try.prog 113 0 = some (0, 3, true) := by kernel_rfl
theorem ft113_1 : fieldTy Try.prog 113 1 = some (3, 1, false) := by kernel_rfl
theorem ft113_2 : fieldTy Try.prog 113 2 = some (4, 1, false) := by kernel_rfl
theorem ft114_0 : fieldTy Try.prog 114 0 = some (0, 3, true) := by kernel_rfl
theorem ft114_1 : fieldTy Try.prog 114 1 = some (3, 1, false) := by kernel_rfl
theorem ft114_2 : fieldTy Try.prog 114 2 = some (4, 1, false) := by kernel_rfl
theorem ft117_2 : fieldTy Try.prog 117 2 = some (0, 1, false) := by kernel_rfl
theorem ft118_2 : fieldTy Try.prog 118 2 = some (0, 1, false) := by kernel_rfl
theorem ft119_0 : fieldTy Try.prog 119 0 = some (0, 1, false) := by kernel_rfl
theorem ft119_1 : fieldTy Try.prog 119 1 = some (1, 1, false) := by kernel_rfl
theorem ft119_2 : fieldTy Try.prog 119 2 = some (2, 50, true) := by kernel_rfl
theorem ft119_3 : fieldTy Try.prog 119 3 = some (52, 1, true) := by kernel_rfl
theorem ft120_0 : fieldTy Try.prog 120 0 = some (0, 1, false) := by kernel_rfl
theorem ft120_1 : fieldTy Try.prog 120 1 = some (1, 1, false) := by kernel_rfl
theorem ft120_2 : fieldTy Try.prog 120 2 = some (2, 50, true) := by kernel_rfl
theorem ft120_3 : fieldTy Try.prog 120 3 = some (52, 1, true) := by kernel_rfl
theorem ft135_0 : fieldTy Try.prog 135 0 = some (0, 1, false) := by kernel_rfl
theorem ft135_1 : fieldTy Try.prog 135 1 = some (1, 2, true) := by kernel_rfl
theorem ft136_0 : fieldTy Try.prog 136 0 = some (0, 1, false) := by kernel_rfl
theorem ft136_1 : fieldTy Try.prog 136 1 = some (1, 2, true) := by kernel_rfl
theorem ft148_0 : fieldTy Try.prog 148 0 = some (0, 2, true) := by kernel_rfl
theorem ft148_1 : fieldTy Try.prog 148 1 = some (2, 1, false) := by kernel_rfl
theorem ft148_2 : fieldTy Try.prog 148 2 = some (3, 1, false) := by kernel_rfl
theorem ft148_3 : fieldTy Try.prog 148 3 = some (4, 1, false) := by kernel_rfl
theorem ft148_4 : fieldTy Try.prog 148 4 = some (5, 1, false) := by kernel_rfl
theorem ft149_0 : fieldTy Try.prog 149 0 = some (0, 2, true) := by kernel_rfl
theorem ft149_1 : fieldTy Try.prog 149 1 = some (2, 1, false) := by kernel_rfl
theorem ft149_2 : fieldTy Try.prog 149 2 = some (3, 1, false) := by kernel_rfl
theorem ft149_3 : fieldTy Try.prog 149 3 = some (4, 1, false) := by kernel_rfl
theorem ft149_4 : fieldTy Try.prog 149 4 = some (5, 1, false) := by kernel_rfl
theorem mt91 : mapTy Try.prog 91 = some (24, 3, 2, true) := by kernel_rfl
theorem mt132 : mapTy Try.prog 132 = some (3, 4, 1, false) := by kernel_rfl
theorem mt147 : mapTy Try.prog 147 = some (82, 4, 4, true) := by kernel_rfl
theorem mt169 : mapTy Try.prog 169 = some (24, 4, 2, true) := by kernel_rfl
theorem st27 : slTy Try.prog 27 = some (5, 40) := by kernel_rfl
theorem st31 : slTy Try.prog 31 = some (2, 16) := by kernel_rfl
theorem st49 : slTy Try.prog 49 = some (1, 8) := by kernel_rfl
theorem st52 : slTy Try.prog 52 = some (1, 1) := by kernel_rfl
theorem st68 : slTy Try.prog 68 = some (4, 32) := by kernel_rfl
theorem st98 : slTy Try.prog 98 = some (1, 8) := by kernel_rfl
theorem vt0 : varTy Try.prog 0 = some (1, false) := by kernel_rfl
theorem vt1 : varTy Try.prog 1 = some (1, false) := by kernel_rfl
theorem vt2 : varTy Try.prog 2 = some (1, false) := by kernel_rfl
theorem vt3 : varTy Try.prog 3 = some (1, false) := by kernel_rfl
theorem vt4 : varTy Try.prog 4 = some (1, false) := by kernel_rfl
theorem vt5 : varTy Try.prog 5 = some (1, false) := by kernel_rfl
theorem vt6 : varTy Try.prog 6 = some (1, false) := by kernel_rfl
theorem vt7 : varTy Try.prog 7 = some (4, true) := by kernel_rfl
theorem vt8 : varTy Try.prog 8 = some (4, true) := by kernel_rfl
theorem vt9 : varTy Try.prog 9 = some (1, false) := by kernel_rfl
theorem vt10 : varTy Try.prog 10 = some (1, false) := by kernel_rfl
theorem vt11 : varTy Try.prog 11 = some (1, false) := by kernel_rfl
theorem vt12 : varTy Try.prog 12 = some (1, false) := by kernel_rfl
theorem vt13 : varTy Try.prog 13 = some (2, true) := by kernel_rfl
theorem vt14 : varTy Try.prog 14 = some (2, true) := by kernel_rfl
theorem vt15 : varTy Try.prog 15 = some (1, false) := by kernel_rfl
theorem vt16 : varTy Try.prog 16 = some (1, false) := by kernel_rfl
theorem vt17 : varTy Try.prog 17 = some (1, false) := by kernel_rfl
theorem vt18 : varTy Try.prog 18 = some (1, true) := by kernel_rfl
theorem vt19 : varTy Try.prog 19 = some (1, true) := by kernel_rfl
theorem vt20 : varTy Try.prog 20 = some (1, false) := by kernel_rfl
theorem vt21 : varTy Try.prog 21 = some (1, false) := by kernel_rfl
theorem vt22 : varTy Try.prog 22 = some (1, false) := by kernel_rfl
theorem vt23 : varTy Try.prog 23 = some (2, true) := by kernel_rfl
theorem vt24 : varTy Try.prog 24 = some (2, true) := by kernel_rfl
theorem vt25 : varTy Try.prog 25 = some (4, true) := by kernel_rfl
theorem vt26 : varTy Try.prog 26 = some (4, true) := by kernel_rfl
theorem vt27 : varTy Try.prog 27 = some (1, false) := by kernel_rfl
theorem vt28 : varTy Try.prog 28 = some (1, false) := by kernel_rfl
theorem vt29 : varTy Try.prog 29 = some (1, false) := by kernel_rfl
theorem vt30 : varTy Try.prog 30 = some (1, false) := by kernel_rfl
theorem vt31 : varTy Try.prog 31 = some (1, false) := by kernel_rfl
theorem vt32 : varTy Try.prog 32 = some (1, false) := by kernel_rfl
theorem vt33 : varTy Try.prog 33 = some (1, false) := by kernel_rfl
theorem vt34 : varTy Try.prog 34 = some (1, false) := by kernel_rfl
theorem vt35 : varTy Try.prog 35 = some (1, false) := by kernel_rfl
theorem vt36 : varTy Try.prog 36 = some (1, false) := by kernel_rfl
theorem vt37 : varTy Try.prog 37 = some (1, false) := by kernel_rfl
theorem vt38 : varTy Try.prog 38 = some (1, false) := by kernel_rfl
theorem vt39 : varTy Try.prog 39 = some (1, false) := by kernel_rfl
theorem vt40 : varTy Try.prog 40 = some (1, false) := by kernel_rfl
theorem vt41 : varTy Try.prog 41 = some (5, true) := by kernel_rfl
theorem vt42 : varTy Try.prog 42 = some (5, true) := by kernel_rfl
theorem vt43 : varTy Try.prog 43 = some (1, false) := by kernel_rfl
theorem vt44 : varTy Try.prog 44 = some (1, false) := by kernel_rfl
theorem vt45 : varTy Try.prog 45 = some (1, false) := by kernel_rfl
theorem vt46 : varTy Try.prog 46 = some (1, false) := by kernel_rfl
theorem vt47 : varTy Try.prog 47 = some (1, false) := by kernel_rfl
theorem vt48 : varTy Try.prog 48 = some (1, false) := by kernel_rfl
theorem vt49 : varTy Try.prog 49 = some (1, false) := by kernel_rfl
theorem vt50 : varTy Try.prog 50 = some (1, false) := by kernel_rfl
theorem vt51 : varTy Try.prog 51 = some (1, false) := by kernel_rfl
theorem vt52 : varTy Try.prog 52 = some (1, false) := by kernel_rfl
theorem vt53 : varTy Try.prog 53 = some (1, false) := by kernel_rfl
theorem vt54 : varTy Try.prog 54 = some (5, true) := by kernel_rfl
theorem vt55 : varTy Try.prog 55 = some (5, true) := by kernel_rfl
theorem vt56 : varTy Try.prog 56 = some (1, false) := by kernel_rfl
theorem vt57 : varTy Try.prog 57 = some (1, false) := by kernel_rfl
theorem vt58 : varTy Try.prog 58 = some (1, false) := by kernel_rfl
theorem vt59 : varTy Try.prog 59 = some (1, false) := by kernel_rfl
theorem vt60 : varTy Try.prog 60 = some (1, false) := by kernel_rfl
theorem vt61 : varTy Try.prog 61 = some (1, false) := by kernel_rfl
theorem vt62 : varTy Try.prog 62 = some (1, false) := by kernel_rfl
theorem vt63 : varTy Try.prog 63 = some (1, false) := by kernel_rfl
theorem vt64 : varTy Try.prog 64 = some (1, false) := by kernel_rfl
theorem vt65 : varTy Try.prog 65 = some (1, false) := by kernel_rfl
theorem vt66 : varTy Try.prog 66 = some (1, false) := by kernel_rfl
theorem vt67 : varTy Try.prog 67 = some (1, false) := by kernel_rfl
theorem vt68 : varTy Try.prog 68 = some (1, false) := by kernel_rfl
theorem vt69 : varTy Try.prog 69 = some (1, false) := by kernel_rfl
theorem vt70 : varTy Try.prog 70 = some (1, false) := by kernel_rfl
theorem vt71 : varTy Try.prog 71 = some (1, false) := by kernel_rfl
theorem vt72 : varTy Try.prog 72 = some (1, false) := by kernel_rfl
theorem vt73 : varTy Try.prog 73 = some (1, false) := by kernel_rfl
theorem vt74 : varTy Try.prog 74 = some (2, true) := by kernel_rfl
theorem vt75 : varTy Try.prog 75 = some (2, true) := by kernel_rfl
theorem vt76 : varTy Try.prog 76 = some (1, false) := by kernel_rfl
theorem vt77 : varTy Try.prog 77 = some (1, false) := by kernel_rfl
theorem vt78 : varTy Try.prog 78 = some (1, false) := by kernel_rfl
theorem vt79 : varTy Try.prog 79 = some (1, false) := by kernel_rfl
theorem vt80 : varTy Try.prog 80 = some (1, false) := by kernel_rfl
theorem vt81 : varTy Try.prog 81 = some (4, true) := by kernel_rfl
theorem vt82 : varTy Try.prog 82 = some (4, true) := by kernel_rfl
theorem vt83 : varTy Try.prog 83 = some (1, false) := by kernel_rfl
theorem vt84 : varTy Try.prog 84 = some (1, false) := by kernel_rfl
theorem vt85 : varTy Try.prog 85 = some (1, false) := by kernel_rfl
theorem vt86 : varTy Try.prog 86 = some (1, false) := by kernel_rfl
theorem vt87 : varTy Try.prog 87 = some (1, false) := by kernel_rfl
theorem vt88 : varTy Try.prog 88 = some (1, false) := by kernel_rfl
theorem vt89 : varTy Try.prog 89 = some (1, false) := by kernel_rfl
theorem vt90 : varTy Try.prog 90 = some (1, false) := by kernel_rfl
theorem vt91 : varTy Try.prog 91 = some (1, false) := by kernel_rfl
theorem vt92 : varTy Try.prog 92 = some (1, false) := by kernel_rfl
theorem vt93 : varTy Try.prog 93 = some (1, false) := by kernel_rfl
theorem vt94 : varTy Try.prog 94 = some (1, false) := by kernel_rfl
theorem vt95 : varTy Try.prog 95 = some (1, false) := by kernel_rfl
theorem vt96 : varTy Try.prog 96 = some (1, false) := by kernel_rfl
theorem vt97 : varTy Try.prog 97 = some (1, false) := by kernel_rfl
theorem vt98 : varTy Try.prog 98 = some (1, false) := by kernel_rfl
theorem vt99 : varTy Try.prog 99 = some (1, false) := by kernel_rfl
theorem vt100 : varTy Try.prog 100 = some (1, false) := by kernel_rfl
theorem vt101 : varTy Try.prog 101 = some (0, true) := by kernel_rfl
theorem vt102 : varTy Try.prog 102 = some (0, true) := by kernel_rfl
theorem vt103 : varTy Try.prog 103 = some (0, true) := by kernel_rfl
theorem vt104 : varTy Try.prog 104 = some (1, false) := by kernel_rfl
theorem vt105 : varTy Try.prog 105 = some (1, true) := by kernel_rfl
theorem vt106 : varTy Try.prog 106 = some (1, true) := by kernel_rfl
theorem vt107 : varTy Try.prog 107 = some (2, true) := by kernel_rfl
theorem vt108 : varTy Try.prog 108 = some (2, true) := by kernel_rfl
theorem vt109 : varTy Try.prog 109 = some (2, true) := by kernel_rfl
theorem vt110 : varTy Try.prog 110 = some (2, true) := by kernel_rfl
theorem vt111 : varTy Try.prog 111 = some (3, true) := by kernel_rfl
theorem vt112 : varTy Try.prog 112 = some (3, true) := by kernel_rfl
theorem vt113 : varTy Try.prog 113 = some (5, true) := by kernel_rfl
theorem vt114 : varTy Try.prog 114 = some (5, true) := by kernel_rfl
theorem vt115 : varTy Try.prog 115 = some (50, true) := by kernel_rfl
theorem vt116 : varTy Try.prog 116 = some (0, true) := by kernel_rfl
theorem vt117 : varTy Try.prog 117 = some (1, true) := by kernel_rfl
theorem vt118 : varTy Try.prog 118 = some (1, true) := by kernel_rfl
theorem vt119 : varTy Try.prog 119 = some (53, true) := by kernel_rfl
theorem vt120 : varTy Try.prog 120 = some (53, true) := by kernel_rfl
theorem vt121 : varTy Try.prog 121 = some (1, false) := by kernel_rfl
theorem vt122 : varTy Try.prog 122 = some (1, false) := by kernel_rfl
theorem vt123 : varTy Try.prog 123 = some (1, false) := by kernel_rfl
theorem vt124 : varTy Try.prog 124 = some (1, false) := by kernel_rfl
theorem vt125 : varTy Try.prog 125 = some (1, false) := by kernel_rfl
theorem vt126 : varTy Try.prog 126 = some (1, false) := by kernel_rfl
theorem vt127 : varTy Try.prog 127 = some (1, false) := by kernel_rfl
theorem vt128 : varTy Try.prog 128 = some (1, false) := by kernel_rfl
theorem vt129 : varTy Try.prog 129 = some (1, false) := by kernel_rfl
theorem vt130 : varTy Try.prog 130 = some (1, false) := by kernel_rfl
theorem vt131 : varTy Try.prog 131 = some (1, false) := by kernel_rfl
theorem vt132 : varTy Try.prog 132 = some (1, false) := by kernel_rfl
theorem vt133 : varTy Try.prog 133 = some (1, false) := by kernel_rfl
theorem vt134 : varTy Try.prog 134 = some (1, false) := by kernel_rfl
theorem vt135 : varTy Try.prog 135 = some (3, true) := by kernel_rfl
theorem vt136 : varTy Try.prog 136 = some (3, true) := by kernel_rfl
theorem vt137 : varTy Try.prog 137 = some (1, false) := by kernel_rfl
theorem vt138 : varTy Try.prog 138 = some (1, false) := by kernel_rfl
theorem vt139 : varTy Try.prog 139 = some (1, false) := by kernel_rfl
theorem vt140 : varTy Try.prog 140 = some (1, false) := by kernel_rfl
theorem vt141 : varTy Try.prog 141 = some (1, false) := by kernel_rfl
theorem vt142 : varTy Try.prog 142 = some (1, false) := by kernel_rfl
theorem vt143 : varTy Try.prog 143 = some (1, false) := by kernel_rfl
theorem vt144 : varTy Try.prog 144 = some (1, false) := by kernel_rfl
theorem vt145 : varTy Try.prog 145 = some (1, false) := by kernel_rfl
theorem vt146 : varTy Try.prog 146 = some (1, false) := by kernel_rfl
theorem vt147 : varTy Try.prog 147 = some (1, false) := by kernel_rfl
theorem vt148 : varTy Try.prog 148 = some (6, true) := by kernel_rfl
theorem vt149 : varTy Try.prog 149 = some (6, true) := by kernel_rfl
theorem vt150 : varTy Try.prog 150 = some (1, false) := by kernel_rfl
theorem vt151 : varTy Try.prog 151 = some (1, false) := by kernel_rfl
theorem vt152 : varTy Try.prog 152 = some (1, false) := by kernel_rfl
theorem vt153 : varTy Try.prog 153 = some (1, false) := by kernel_rfl
theorem vt154 : varTy Try.prog 154 = some (1, false) := by kernel_rfl
theorem vt155 : varTy Try.prog 155 = some (1, false) := by kernel_rfl
theorem vt156 : varTy Try.prog 156 = some (1, false) := by kernel_rfl
theorem vt157 : varTy Try.prog 157 = some (1, false) := by kernel_rfl
theorem vt158 : varTy Try.prog 158 = some (1, false) := by kernel_rfl
theorem vt159 : varTy Try.prog 159 = some (1, false) := by kernel_rfl
theorem vt160 : varTy Try.prog 160 = some (1, false) := by kernel_rfl
theorem vt161 : varTy Try.prog 161 = some (1, false) := by kernel_rfl
theorem vt162 : varTy Try.prog 162 = some (1, false) := by kernel_rfl
theorem vt163 : varTy Try.prog 163 = some (1, false) := by kernel_rfl
theorem vt164 : varTy Try.prog 164 = some (1, false) := by kernel_rfl
theorem vt165 : varTy Try.prog 165 = some (1, false) := by kernel_rfl
theorem vt166 : varTy Try.prog 166 = some (1, false) := by kernel_rfl
theorem vt167 : varTy Try.prog 167 = some (1, false) := by kernel_rfl
theorem vt168 : varTy Try.prog 168 = some (1, false) := by kernel_rfl
theorem vt169 : varTy Try.prog 169 = some (1, false) := by kernel_rfl
theorem zl2 : zeroL Try.prog 2 = some (LV.p (PV.int IntKind.i64 0)) := by kernel_rfl
theorem zl3 : zeroL Try.prog 3 = some (LV.p (PV.int IntKind.i64 0)) := by kernel_rfl
theorem zl4 : zeroL Try.prog 4 = some (LV.p (PV.bool false)) := by kernel_rfl
theorem zl5 : zeroL Try.prog 5 = some (LV.p (PV.int IntKind.u8 0)) := by kernel_rfl
theorem zl6 : zeroL Try.prog 6 = some (LV.p (PV.int IntKind.u8 0)) := by kernel_rfl
theorem zl7 : zeroL Try.prog 7 = some (LV.p (PV.agg [PV.int IntKind.i64 0, PV.int IntKind.i64 0, PV.bool false, PV.int IntKind.u8 0])) := by kernel_rfl
theorem zl8 : zeroL Try.prog 8 = some (LV.p (PV.agg [PV.int IntKind.i64 0, PV.int IntKind.i64 0, PV.bool false, PV.int IntKind.u8 0])) := by kernel_rfl
theorem zl12 : zeroL Try.prog 12 = some (LV.p (PV.int IntKind.u64 0)) := by kernel_rfl
theorem zl21 : zeroL Try.prog 21 = some (LV.p (PV.int IntKind.i32 0)) := by kernel_rfl
theorem zl22 : zeroL Try.prog 22 = some (LV.p (PV.int IntKind.u64 0)) := by kernel_rfl
theorem zl23 : zeroL Try.prog 23 = some (LV.p (PV.agg [PV.int IntKind.u64 0, PV.int IntKind.u64 0])) := by kernel_rfl
theorem zl24 : zeroL Try.prog 24 = some (LV.p (PV.agg [PV.int IntKind.u64 0, PV.int IntKind.u64 0])) := by kernel_rfl
theorem zl25 : zeroL Try.prog 25 = some (LV.p (PV.agg [PV.int IntKind.u64 0, PV.int IntKind.u64 0, PV.int IntKind.i64 0, PV.int IntKind.i64 0])) := by kernel_rfl
theorem zl26 : zeroL Try.prog 26 = some (LV.p (PV.agg [PV.int IntKind.u64 0, PV.int IntKind.u64 0, PV.int IntKind.i64 0, PV.int IntKind.i64 0])) := by kernel_rfl
theorem zl27 : zeroL Try.prog 27 = some LV.zs := by kernel_rfl
theorem zl31 : zeroL Try.prog 31 = some LV.zs := by kernel_rfl
theorem zl41 : zeroL Try.prog 41 = some (LV.p (PV.agg [PV.int IntKind.i64 0, PV.int IntKind.i64 0, PV.int IntKind.u64 0, PV.int IntKind.u64 0, PV.int IntKind.u64 0])) := by kernel_rfl
theorem zl42 : zeroL Try.prog 42 = some (LV.p (PV.agg [PV.int IntKind.i64 0, PV.int IntKind.i64 0, PV.int IntKind.u64 0, PV.int IntKind.u64 0, PV.int IntKind.u64 0])) := by kernel_rfl
theorem zl49 : zeroL Try.prog 49 = some LV.zs := by kernel_rfl
theorem zl52 : zeroL Try.prog 52 = some LV.zs := by kernel_rfl
theorem zl54 : zeroL Try.prog 54 = some (LV.agg [LV.zs, LV.p (PV.int IntKind.u64 0), LV.p (PV.int IntKind.i64 0), LV.p (PV.int IntKind.i64 0), LV.p (PV.int IntKind.i64 0)]) := by kernel_rfl
theorem zl55 : zeroL Try.prog 55 = some (LV.agg [LV.zs, LV.p (PV.int IntKind.u64 0), LV.p (PV.int IntKind.i64 0), LV.p (PV.int IntKind.i64 0), LV.p (PV.int IntKind.i64 0)]) := by kernel_rfl
theorem zl68 : zeroL Try.prog 68 = some LV.zs := by kernel_rfl
theorem zl74 : zeroL Try.prog 74 = some (LV.agg [LV.zs, LV.zs]) := by kernel_rfl
theorem zl75 : zeroL Try.prog 75 = some (LV.agg [LV.zs, LV.zs]) := by kernel_rfl
theorem zl81 : zeroL Try.prog 81 = some (LV.p (PV.agg [PV.int IntKind.i64 0, PV.int IntKind.i64 0, PV.int IntKind.u64 0, PV.int IntKind.u64 0])) := by kernel_rfl
theorem zl82 : zeroL Try.prog 82 = some (LV.p (PV.agg [PV.int IntKind.i64 0, PV.int IntKind.i64 0, PV.int IntKind.u64 0, PV.int IntKind.u64 0])) := by kernel_rfl
theorem zl91 : zeroL Try.prog 91 = some LV.nilmap := by kernel_rfl
theorem zl98 : zeroL Try.prog 98 = some LV.zs := by kernel_rfl
theorem zl101 : zeroL Try.prog 101 = some (LV.p (PV.agg [])) := by kernel_rfl
theorem zl102 : zeroL Try.prog 102 = some (LV.p (PV.agg [])) := by kernel_rfl
theorem zl103 : zeroL Try.prog 103 = some (LV.p (PV.agg [])) := by kernel_rfl
theorem zl104 : zeroL Try.prog 104 = some (LV.p (PV.int IntKind.u32 0)) := by kernel_rfl
theorem zl105 : zeroL Try.prog 105 = some (LV.p (PV.agg [PV.int IntKind.u32 0])) := by kernel_rfl
theorem zl106 : zeroL Try.prog 106 = some (LV.p (PV.agg [PV.int IntKind.u32 0])) := by kernel_rfl
theorem zl107 : zeroL Try.prog 107 = some (LV.p (PV.agg [PV.int IntKind.i32 0, PV.int IntKind.u32 0])) := by kernel_rfl
theorem zl108 : zeroL Try.prog 108 = some (LV.p (PV.agg [PV.int IntKind.i32 0, PV.int IntKind.u32 0])) := by kernel_rfl
theorem zl109 : zeroL Try.prog 109 = some (LV.p (PV.agg [PV.int IntKind.i32 0, PV.int IntKind.u32 0])) := by kernel_rfl
theorem zl110 : zeroL Try.prog 110 = some (LV.p (PV.agg [PV.int IntKind.i32 0, PV.int IntKind.u32 0])) := by kernel_rfl
theorem zl111 : zeroL Try.prog 111 = some (LV.p (PV.agg [PV.int IntKind.u32 0, PV.int IntKind.i32 0, PV.int IntKind.u32 0])) := by kernel_rfl
theorem zl112 : zeroL Try.prog 112 = some (LV.p (PV.agg [PV.int IntKind.u32 0, PV.int IntKind.i32 0, PV.int IntKind.u32 0])) := by kernel_rfl
theorem zl113 : zeroL Try.prog 113 = some (LV.p (PV.agg [PV.int IntKind.u32 0, PV.int IntKind.i32 0, PV.int IntKind.u32 0, PV.int IntKind.i64 0, PV.int IntKind.u64 0])) := by kernel_rfl
theorem zl114 : zeroL Try.prog 114 = some (LV.p (PV.agg [PV.int IntKind.u32 0, PV.int IntKind.i32 0, PV.int IntKind.u32 0, PV.int IntKind.i64 0, PV.int IntKind.u64 0])) := by kernel_rfl
theorem zl115 : zeroL Try.prog 115 = some (LV.p (PV.agg [PV.int IntKind.u32 0, PV.int IntKind.i32 0, PV.int IntKind.u32 0, PV.int IntKind.i64 0, PV.int IntKind.u64 0, PV.int IntKind.u32 0, PV.int IntKind.i32 0, PV.int IntKind.u32 0, PV.int IntKind.i64 0, PV.int IntKind.u64 0, PV.int IntKind.u32 0, PV.int IntKind.i32 0, PV.int IntKind.u32 0, PV.int IntKind.i64 0, PV.int IntKind.u64 0, PV.int IntKind.u32 0, PV.int IntKind.i32 0, PV.int IntKind.u32 0, PV.int IntKind.i64 0, PV.int IntKind.u64 0, PV.int IntKind.u32 0, PV.int IntKind.i32 0, PV.int IntKind.u32 0, PV.int IntKind.i64 0, PV.int IntKind.u64 0, PV.int IntKind.u32 0, PV.int IntKind.i32 0, PV.int IntKind.u32 0, PV.int IntKind.i64 0, PV.int IntKind.u64 0, PV.int IntKind.u32 0, PV.int IntKind.i32 0, PV.int IntKind.u32 0, PV.int IntKind.i64 0, PV.int IntKind.u64 0, PV.int IntKind.u32 0, PV.int IntKind.i32 0, PV.int IntKind.u32 0, PV.int IntKind.i64 0, PV.int IntKind.u64 0, PV.int IntKind.u32 0, PV.int IntKind.i32 0, PV.int IntKind.u32 0, PV.int IntKind.i64 0, PV.int IntKind.u64 0, PV.int IntKind.u32 0, PV.int IntKind.i32 0, PV.int IntKind.u32 0, PV.int IntKind.i64 0, PV.int IntKind.u64 0])) := by kernel_rfl
theorem zl116 : zeroL Try.prog 116 = some (LV.p (PV.agg [])) := by kernel_rfl
theorem zl117 : zeroL Try.prog 117 = some (LV.p (PV.agg [PV.int IntKind.i64 0])) := by kernel_rfl
theorem zl118 : zeroL Try.prog 118 = some (LV.p (PV.agg [PV.int IntKind.i64 0])) := by kernel_rfl
theorem zl119 : zeroL Try.prog 119 = some (LV.p (PV.agg [PV.int IntKind.u64 0, PV.int IntKind.i64 0, PV.int IntKind.u32 0, PV.int IntKind.i32 0, PV.int IntKind.u32 0, PV.int IntKind.i64 0, PV.int IntKind.u64 0, PV.int IntKind.u32 0, PV.int IntKind.i32 0, PV.int IntKind.u32 0, PV.int IntKind.i64 0, PV.int IntKind.u64 0, PV.int IntKind.u32 0, PV.int IntKind.i32 0, PV.int IntKind.u32 0, PV.int IntKind.i64 0, PV.int IntKind.u64 0, PV.int IntKind.u32 0, PV.int IntKind.i32 0, PV.int IntKind.u32 0, PV.int IntKind.i64 0, PV.int IntKind.u64 0, PV.int IntKind.u32 0, PV.int IntKind.i32 0, PV.int IntKind.u32 0, PV.int IntKind.i64 0, PV.int IntKind.u64 0, PV.int IntKind.u32 0, PV.int IntKind.i32 0, PV.int IntKind.u32 0, PV.int IntKind.i64 0, PV.int IntKind.u64 0, PV.int IntKind.u32 0, PV.int IntKind.i32 0, PV.int IntKind.u32 0, PV.int IntKind.i64 0, PV.int IntKind.u64 0, PV.int IntKind.u32 0, PV.int IntKind.i32 0, PV.int IntKind.u32 0, PV.int IntKind.i64 0, PV.int IntKind.u64 0, PV.int IntKind.u32 0, PV.int IntKind.i32 0, PV.int IntKind.u32 0, PV.int IntKind.i64 0, PV.int IntKind.u64 0, PV.int IntKind.u32 0, PV.int IntKind.i32 0, PV.int IntKind.u32 0, PV.int IntKind.i64 0, PV.int IntKind.u64 0, PV.int IntKind.i64 0])) := by kernel_rfl
theorem zl120 : zeroL Try.prog 120 = some (LV.p (PV.agg [PV.int IntKind.u64 0, PV.int IntKind.i64 0, PV.int IntKind.u32 0, PV.int IntKind.i32 0, PV.int IntKind.u32 0, PV.int IntKind.i64 0, PV.int IntKind.u64 0, PV.int IntKind.u32 0, PV.int IntKind.i32 0, PV.int IntKind.u32 0, PV.int IntKind.i64 0, PV.int IntKind.u64 0, PV.int IntKind.u32 0, PV.int IntKind.i32 0, PV.int IntKind.u32 0, PV.int IntKind.i64 0, PV.int IntKind.u64 0, PV.int IntKind.u32 0, PV.int IntKind.i32 0, PV.int IntKind.u32 0, PV.int IntKind.i64 0, PV.int IntKind.u64 0, PV.int IntKind.u32 0, PV.int IntKind.i32 0, PV.int IntKind.u32 0, PV.int IntKind.i64 0, PV.int IntKind.u64 0, PV.int IntKind.u32 0, PV.int IntKind.i32 0, PV.int IntKind.u32 0, PV.int IntKind.i64 0, PV.int IntKind.u64 0, PV.int IntKind.u32 0, PV.int IntKind.i32 0, PV.int IntKind.u32 0, PV.int IntKind.i64 0, PV.int IntKind.u64 0, PV.int IntKind.u32 0, PV.int IntKind.i32 0, PV.int IntKind.u32 0, PV.int IntKind.i64 0, PV.int IntKind.u64 0, PV.int IntKind.u32 0, PV.int IntKind.i32 0, PV.int IntKind.u32 0, PV.int IntKind.i64 0, PV.int IntKind.u64 0, PV.int IntKind.u32 0, PV.int IntKind.i32 0, PV.int IntKind.u32 0, PV.int IntKind.i64 0, PV.int IntKind.u64 0, PV.int IntKind.i64 0])) := by kernel_rfl
theorem zl132 : zeroL Try.prog 132 = some LV.nilmap := by kernel_rfl
theorem zl135 : zeroL Try.prog 135 = some (LV.p (PV.agg [PV.int IntKind.i64 0, PV.int IntKind.u64 0, PV.int IntKind.u64 0])) := by kernel_rfl
theorem zl136 : zeroL Try.prog 136 = some (LV.p (PV.agg [PV.int IntKind.i64 0, PV.int IntKind.u64 0, PV.int IntKind.u64 0])) := by kernel_rfl
theorem zl147 : zeroL Try.prog 147 = some LV.nilmap := by kernel_rfl
theorem zl148 : zeroL Try.prog 148 = some (LV.agg [LV.zs, LV.zs, LV.nilmap, LV.nilmap, LV.p (PV.int IntKind.i64 0), LV.p (PV.bool false)]) := by kernel_rfl
theorem zl149 : zeroL Try.prog 149 = some (LV.agg [LV.zs, LV.zs, LV.nilmap, LV.nilmap, LV.p (PV.int IntKind.i64 0), LV.p (PV.bool false)]) := by kernel_rfl
theorem zl169 : zeroL Try.prog 169 = some LV.nilmap := by kernel_rfl
theorem zt2 : zeroTy Try.prog 2 = some [LV.p (PV.int IntKind.i64 0)] := by kernel_rfl
theorem zt3 : zeroTy Try.prog 3 = some [LV.p (PV.int IntKind.i64 0)] := by kernel_rfl
theorem zt4 : zeroTy Try.prog 4 = some [LV.p (PV.bool false)] := by kernel_rfl
theorem zt5 : zeroTy Try.prog 5 = some [LV.p (PV.int IntKind.u8 0)] := by kernel_rfl
theorem zt6 : zeroTy Try.prog 6 = some [LV.p (PV.int IntKind.u8 0)] := by kernel_rfl
theorem zt7 : zeroTy Try.prog 7 = some [LV.p (PV.int IntKind.i64 0), LV.p (PV.int IntKind.i64 0), LV.p (PV.bool false), LV.p (PV.int IntKind.u8 0)] := by kernel_rfl
theorem zt8 : zeroTy Try.prog 8 = some [LV.p (PV.int IntKind.i64 0), LV.p (PV.int IntKind.i64 0), LV.p (PV.bool false), LV.p (PV.int IntKind.u8 0)] := by kernel_rfl
theorem zt12 : zeroTy Try.prog 12 = some [LV.p (PV.int IntKind.u64 0)] := by kernel_rfl
theorem zt21 : zeroTy Try.prog 21 = some [LV.p (PV.int IntKind.i32 0)] := by kernel_rfl
theorem zt22 : zeroTy Try.prog 22 = some [LV.p (PV.int IntKind.u64 0)] := by kernel_rfl
theorem zt23 : zeroTy Try.prog 23 = some [LV.p (PV.int IntKind.u64 0), LV.p (PV.int IntKind.u64 0)] := by kernel_rfl
theorem zt24 : zeroTy Try.prog 24 = some [LV.p (PV.int IntKind.u64 0), LV.p (PV.int IntKind.u64 0)] := by kernel_rfl
theorem zt25 : zeroTy Try.prog 25 = some [LV.p (PV.int IntKind.u64 0), LV.p (PV.int IntKind.u64 0), LV.p (PV.int IntKind.i64 0), LV.p (PV.int IntKind.i64 0)] := by kernel_rfl
theorem zt26 : zeroTy Try.prog 26 = some [LV.p (PV.int IntKind.u64 0), LV.p (PV.int IntKind.u64 0), LV.p (PV.int IntKind.i64 0), LV.p (PV.int IntKind.i64 0)] := by kernel_rfl
theorem zt27 : zeroTy Try.prog 27 = some [LV.zs] := by kernel_rfl
theorem zt31 : zeroTy Try.prog 31 = some [LV.zs] := by kernel_rfl
theorem zt41 : zeroTy Try.prog 41 = some [LV.p (PV.int IntKind.i64 0), LV.p (PV.int IntKind.i64 0), LV.p (PV.int IntKind.u64 0), LV.p (PV.int IntKind.u64 0), LV.p (PV.int IntKind.u64 0)] := by kernel_rfl
theorem zt42 : zeroTy Try.prog 42 = some [LV.p (PV.int IntKind.i64 0), LV.p (PV.int IntKind.i64 0), LV.p (PV.int IntKind.u64 0), LV.p (PV.int IntKind.u64 0), LV.p (PV.int IntKind.u64 0)] := by kernel_rfl
theorem zt49 : zeroTy Try.prog 49 = some [LV.zs] := by kernel_rfl
theorem zt52 : zeroTy Try.prog 52 = some [LV.zs] := by kernel_rfl
theorem zt54 : zeroTy Try.prog 54 = some [LV.zs, LV.p (PV.int IntKind.u64 0), LV.p (PV.int IntKind.i64 0), LV.p (PV.int IntKind.i64 0), LV.p (PV.int IntKind.i64 0)] := by kernel_rfl
theorem zt55 : zeroTy Try.prog 55 = some [LV.zs, LV.p (PV.int IntKind.u64 0), LV.p (PV.int IntKind.i64 0), LV.p (PV.int IntKind.i64 0), LV.p (PV.int IntKind.i64 0)] := by kernel_rfl
theorem zt68 : zeroTy Try.prog 68 = some [LV.zs] := by kernel_rfl
theorem zt74 : zeroTy Try.prog 74 = some [LV.zs, LV.zs] := by kernel_rfl
theorem zt75 : zeroTy Try.prog 75 = some [LV.zs, LV.zs] := by kernel_rfl
theorem zt81 : zeroTy Try.prog 81 = some [LV.p (PV.int IntKind.i64 0), LV.p (PV.int IntKind.i64 0), LV.p (PV.int IntKind.u64 0), LV.p (PV.int IntKind.u64 0)] := by kernel_rfl
theorem zt82 : zeroTy Try.prog 82 = some [LV.p (PV.int IntKind.i64 0), LV.p (PV.int IntKind.i64 0), LV.p (PV.int IntKind.u64 0), LV.p (PV.int IntKind.u64 0)] := by kernel_rfl
theorem zt91 : zeroTy Try.prog 91 = some [LV.nilmap] := by kernel_rfl
theorem zt98 : zeroTy Try.prog 98 = some [LV.zs] := by kernel_rfl
theorem zt101 : zeroTy Try.prog 101 = some [] := by kernel_rfl
theorem zt102 : zeroTy Try.prog 102 = some [] := by kernel_rfl
theorem zt103 : zeroTy Try.prog 103 = some [] := by kernel_rfl
theorem zt104 : zeroTy Try.prog 104 = some [LV.p (PV.int IntKind.u32 0)] := by kernel_rfl
theorem zt105 : zeroTy Try.prog 105 = some [LV.p (PV.int IntKind.u32 0)] := by kernel_rfl
theorem zt106 : zeroTy Try.prog 106 = some [LV.p (PV.int IntKind.u32 0)] := by kernel_rfl
theorem zt107 : zeroTy Try.prog 107 = some [LV.p (PV.int IntKind.i32 0), LV.p (PV.int IntKind.u32 0)] := by kernel_rfl
theorem zt108 : zeroTy Try.prog 108 = some [LV.p (PV.int IntKind.i32 0), LV.p (PV.int IntKind.u32 0)] := by kernel_rfl
theorem zt109 : zeroTy Try.prog 109 = some [LV.p (PV.int IntKind.i32 0), LV.p (PV.int IntKind.u32 0)] := by kernel_rfl
theorem zt110 : zeroTy Try.prog 110 = some [LV.p (PV.int IntKind.i32 0), LV.p (PV.int IntKind.u32 0)] := by kernel_rfl
theorem zt111 : zeroTy Try.prog 111 = some [LV.p (PV.int IntKind.u32 0), LV.p (PV.int IntKind.i32 0), LV.p (PV.int IntKind.u32 0)] := by kernel_rfl
theorem zt112 : zeroTy Try.prog 112 = some [LV.p (PV.int IntKind.u32 0), LV.p (PV.int IntKind.i32 0), LV.p (PV.int IntKind.u32 0)] := by kernel_rfl
theorem zt113 : zeroTy Try.prog 113 = some [LV.p (PV.int IntKind.u32 0), LV.p (PV.int IntKind.i32 0), LV.p (PV.int IntKind.u32 0), LV.p (PV.int IntKind.i64 0), LV.p (PV.int IntKind.u64 0)] := by kernel_rfl
theorem zt114 : zeroTy Try.prog 114 = some [LV.p (PV.int IntKind.u32 0), LV.p (PV.int IntKind.i32 0), LV.p (PV.int IntKind.u32 0), LV.p (PV.int IntKind.i64 0), LV.p (PV.int IntKind.u64 0)] := by kernel_rfl
theorem zt115 : zeroTy Try.prog 115 = some [LV.p (PV.int IntKind.u32 0), LV.p (PV.int IntKind.i32 0), LV.p (PV.int IntKind.u32 0), LV.p (PV.int IntKind.i64 0), LV.p (PV.int IntKind.u64 0), LV.p (PV.int IntKind.u32 0), LV.p (PV.int IntKind.i32 0), LV.p (PV.int IntKind.u32 0), LV.p (PV.int IntKind.i64 0), LV.p (PV.int IntKind.u64 0), LV.p (PV.int IntKind.u32 0), LV.p (PV.int IntKind.i32 0), LV.p (PV.int IntKind.u32 0), LV.p (PV.int IntKind.i64 0), LV.p (PV.int IntKind.u64 0), LV.p (PV.int IntKind.u32 0), LV.p (PV.int IntKind.i32 0), LV.p (PV.int IntKind.u32 0), LV.p (PV.int IntKind.i64 0), LV.p (PV.int IntKind.u64 0), LV.p (PV.int IntKind.u32 0), LV.p (PV.int IntKind.i32 0), LV.p (PV.int IntKind.u32 0), LV.p (PV.int IntKind.i64 0), LV.p (PV.int IntKind.u64 0), LV.p (PV.int IntKind.u32 0), LV.p (PV.int IntKind.i32 0), LV.p (PV.int IntKind.u32 0), LV.p (PV.int IntKind.i64 0), LV.p (PV.int IntKind.u64 0), LV.p (PV.int IntKind.u32 0), LV.p (PV.int IntKind.i32 0), LV.p (PV.int IntKind.u32 0), LV.p (PV.int IntKind.i64 0), LV.p (PV.int IntKind.u64 0), LV.p (PV.int IntKind.u32 0), LV.p (PV.int IntKind.i32 0), LV.p (PV.int IntKind.u32 0), LV.p (PV.int IntKind.i64 0), LV.p (PV.int IntKind.u64 0), LV.p (PV.int IntKind.u32 0), LV.p (PV.int IntKind.i32 0), LV.p (PV.int IntKind.u32 0), LV.p (PV.int IntKind.i64 0), LV.p (PV.int IntKind.u64 0), LV.p (PV.int IntKind.u32 0), LV.p (PV.int IntKind.i32 0), LV.p (PV.int IntKind.u32 0), LV.p (PV.int IntKind.i64 0), LV.p (PV.int IntKind.u64 0)] := by kernel_rfl
theorem zt116 : zeroTy Try.prog 116 = some [] := by kernel_rfl
theorem zt117 : zeroTy Try.prog 117 = some [LV.p (PV.int IntKind.i64 0)] := by kernel_rfl
theorem zt118 : zeroTy Try.prog 118 = some [LV.p (PV.int IntKind.i64 0)] := by kernel_rfl
theorem zt119 : zeroTy Try.prog 119 = some [LV.p (PV.int IntKind.u64 0), LV.p (PV.int IntKind.i64 0), LV.p (PV.int IntKind.u32 0), LV.p (PV.int IntKind.i32 0), LV.p (PV.int IntKind.u32 0), LV.p (PV.int IntKind.i64 0), LV.p (PV.int IntKind.u64 0), LV.p (PV.int IntKind.u32 0), LV.p (PV.int IntKind.i32 0), LV.p (PV.int IntKind.u32 0), LV.p (PV.int IntKind.i64 0), LV.p (PV.int IntKind.u64 0), LV.p (PV.int IntKind.u32 0), LV.p (PV.int IntKind.i32 0), LV.p (PV.int IntKind.u32 0), LV.p (PV.int IntKind.i64 0), LV.p (PV.int IntKind.u64 0), LV.p (PV.int IntKind.u32 0), LV.p (PV.int IntKind.i32 0), LV.p (PV.int IntKind.u32 0), LV.p (PV.int IntKind.i64 0), LV.p (PV.int IntKind.u64 0), LV.p (PV.int IntKind.u32 0), LV.p (PV.int IntKind.i32 0), LV.p (PV.int IntKind.u32 0), LV.p (PV.int IntKind.i64 0), LV.p (PV.int IntKind.u64 0), LV.p (PV.int IntKind.u32 0), LV.p (PV.int IntKind.i32 0), LV.p (PV.int IntKind.u32 0), LV.p (PV.int IntKind.i64 0), LV.p (PV.int IntKind.u64 0), LV.p (PV.int IntKind.u32 0), LV.p (PV.int IntKind.i32 0), LV.p (PV.int IntKind.u32 0), LV.p (PV.int IntKind.i64 0), LV.p (PV.int IntKind.u64 0), LV.p (PV.int IntKind.u32 0), LV.p (PV.int IntKind.i32 0), LV.p (PV.int IntKind.u32 0), LV.p (PV.int IntKind.i64 0), LV.p (PV.int IntKind.u64 0), LV.p (PV.int IntKind.u32 0), LV.p (PV.int IntKind.i32 0), LV.p (PV.int IntKind.u32 0), LV.p (PV.int IntKind.i64 0), LV.p (PV.int IntKind.u64 0), LV.p (PV.int IntKind.u32 0), LV.p (PV.int IntKind.i32 0), LV.p (PV.int IntKind.u32 0), LV.p (PV.int IntKind.i64 0), LV.p (PV.int IntKind.u64 0), LV.p (PV.int IntKind.i64 0)] := by kernel_rfl
theorem zt120 : zeroTy Try.prog 120 = some [LV.p (PV.int IntKind.u64 0), LV.p (PV.int IntKind.i64 0), LV.p (PV.int IntKind.u32 0), LV.p (PV.int IntKind.i32 0), LV.p (PV.int IntKind.u32 0), LV.p (PV.int IntKind.i64 0), LV.p (PV.int IntKind.u64 0), LV.p (PV.int IntKind.u32 0), LV.p (PV.int IntKind.i32 0), LV.p (PV.int IntKind.u32 0), LV.p (PV.int IntKind.i64 0), LV.p (PV.int IntKind.u64 0), LV.p (PV.int IntKind.u32 0), LV.p (PV.int IntKind.i32 0), LV.p (PV.int IntKind.u32 0), LV.p (PV.int IntKind.i64 0), LV.p (PV.int IntKind.u64 0), LV.p (PV.int IntKind.u32 0), LV.p (PV.int IntKind.i32 0), LV.p (PV.int IntKind.u32 0), LV.p (PV.int IntKind.i64 0), LV.p (PV.int IntKind.u64 0), LV.p (PV.int IntKind.u32 0), LV.p (PV.int IntKind.i32 0), LV.p (PV.int IntKind.u32 0), LV.p (PV.int IntKind.i64 0), LV.p (PV.int IntKind.u64 0), LV.p (PV.int IntKind.u32 0), LV.p (PV.int IntKind.i32 0), LV.p (PV.int IntKind.u32 0), LV.p (PV.int IntKind.i64 0), LV.p (PV.int IntKind.u64 0), LV.p (PV.int IntKind.u32 0), LV.p (PV.int IntKind.i32 0), LV.p (PV.int IntKind.u32 0), LV.p (PV.int IntKind.i64 0), LV.p (PV.int IntKind.u64 0), LV.p (PV.int IntKind.u32 0), LV.p (PV.int IntKind.i32 0), LV.p (PV.int IntKind.u32 0), LV.p (PV.int IntKind.i64 0), LV.p (PV.int IntKind.u64 0), LV.p (PV.int IntKind.u32 0), LV.p (PV.int IntKind.i32 0), LV.p (PV.int IntKind.u32 0), LV.p (PV.int IntKind.i64 0), LV.p (PV.int IntKind.u64 0), LV.p (PV.int IntKind.u32 0), LV.p (PV.int IntKind.i32 0), LV.p (PV.int IntKind.u32 0), LV.p (PV.int IntKind.i64 0), LV.p (PV.int IntKind.u64 0), LV.p (PV.int IntKind.i64 0)] := by kernel_rfl
theorem zt132 : zeroTy Try.prog 132 = some [LV.nilmap] := by kernel_rfl
theorem zt135 : zeroTy Try.prog 135 = some [LV.p (PV.int IntKind.i64 0), LV.p (PV.int IntKind.u64 0), LV.p (PV.int IntKind.u64 0)] := by kernel_rfl
theorem zt136 : zeroTy Try.prog 136 = some [LV.p (PV.int IntKind.i64 0), LV.p (PV.int IntKind.u64 0), LV.p (PV.int IntKind.u64 0)] := by kernel_rfl
theorem zt147 : zeroTy Try.prog 147 = some [LV.nilmap] := by kernel_rfl
theorem zt148 : zeroTy Try.prog 148 = some [LV.zs, LV.zs, LV.nilmap, LV.nilmap, LV.p (PV.int IntKind.i64 0), LV.p (PV.bool false)] := by kernel_rfl
theorem zt149 : zeroTy Try.prog 149 = some [LV.zs, LV.zs, LV.nilmap, LV.nilmap, LV.p (PV.int IntKind.i64 0), LV.p (PV.bool false)] := by kernel_rfl
theorem zt169 : zeroTy Try.prog 169 = some [LV.nilmap] := by kernel_rfl
end
end Go.Mg
