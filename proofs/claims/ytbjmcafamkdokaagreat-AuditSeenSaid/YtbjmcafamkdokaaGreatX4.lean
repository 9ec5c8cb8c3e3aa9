/- What the logic needs to know of each type of the program. The program's structs as plain data, and how they lie in memory. The mixing functions. mix.Of. tree.Name, slices.Index, slices.Contains. tree.places. Plain facts of trees: what 'places' tells. tree.Chain. cursor.Move. Plain facts of chains and cursors. Plain laws of cursors. Atomic words, locks. sync.Once as the deck uses it. The rounds of the deck. tree.May, Find, Slot, Kids. Conditions: none. -/
import Derived.Test.YtbjmcafamkdokaaGreatX2
import Derived.Test.YtbjmcafamkdokaaGreatProg
import Derived.Test.YtbjmcafamkdokaaGreatX3
set_option maxRecDepth 100000
set_option linter.unusedSimpArgs false
set_option linter.unusedVariables false
namespace Go.Mg
open Go.Proofs
section
variable {w : World}
theorem at24 : arrTy Tryz.prog 37 = some (2, 1, false) := by kernel_rfl
theorem at3095 : arrTy Tryz.prog 148 = some (3, 1, false) := by kernel_rfl
theorem at1108 : arrTy Tryz.prog 163 = some (2, 1, false) := by kernel_rfl
theorem at115 : arrTy Tryz.prog 201 = some (10, 5, true) := by kernel_rfl
theorem bt55 : buildTy Tryz.prog 25 = some ([LV.zs, LV.p (PV.int IntKind.u64 0), LV.p (PV.int IntKind.i64 0), LV.p (PV.int IntKind.i64 0), LV.p (PV.int IntKind.i64 0)], [(0, 1), (1, 1), (2, 1), (3, 1), (4, 1)]) := by kernel_rfl
theorem bt1038 : buildTy Tryz.prog 32 = some ([LV.zs, LV.p (PV.int IntKind.u64 0), LV.p (PV.int IntKind.i64 0), LV.p (PV.int IntKind.i64 0), LV.p (PV.int IntKind.i64 0), LV.zs, LV.p (PV.int IntKind.i64 0), LV.zs, LV.zs], [(0, 5), (5, 1), (6, 1), (7, 1), (8, 1)]) := by kernel_rfl
theorem bt24 : buildTy Tryz.prog 37 = some ([LV.p (PV.int IntKind.u64 0), LV.p (PV.int IntKind.u64 0)], [(0, 1), (1, 1)]) := by kernel_rfl
theorem bt42 : buildTy Tryz.prog 40 = some ([LV.p (PV.int IntKind.i64 0), LV.p (PV.int IntKind.i64 0), LV.p (PV.int IntKind.u64 0), LV.p (PV.int IntKind.u64 0), LV.p (PV.int IntKind.u64 0)], [(0, 1), (1, 1), (2, 2), (4, 1)]) := by kernel_rfl
theorem bt75 : buildTy Tryz.prog 44 = some ([LV.zs, LV.zs], [(0, 1), (1, 1)]) := by kernel_rfl
theorem bt1077 : buildTy Tryz.prog 46 = some ([LV.p (PV.int IntKind.i64 0), LV.p (PV.int IntKind.i64 0), LV.p (PV.int IntKind.i64 0), LV.p (PV.int IntKind.i64 0), LV.p (PV.int IntKind.u64 0), LV.p (PV.int IntKind.u64 0), LV.p (PV.int IntKind.u64 0), LV.zs, LV.zs], [(0, 1), (1, 1), (2, 5), (7, 2)]) := by kernel_rfl
theorem bt26 : buildTy Tryz.prog 50 = some ([LV.p (PV.int IntKind.u64 0), LV.p (PV.int IntKind.u64 0), LV.p (PV.int IntKind.i64 0), LV.p (PV.int IntKind.i64 0)], [(0, 2), (2, 1), (3, 1)]) := by kernel_rfl
theorem bt1071 : buildTy Tryz.prog 52 = some ([LV.p (PV.int IntKind.i64 0), LV.p (PV.int IntKind.i64 0), LV.zs, LV.zs, LV.zs, LV.zs, LV.zs, LV.p (PV.int IntKind.u64 0), LV.p (PV.int IntKind.u64 0), LV.p (PV.int IntKind.i64 0), LV.p (PV.int IntKind.i64 0), LV.p (PV.bool false)], [(0, 1), (1, 1), (2, 2), (4, 2), (6, 1), (7, 4), (11, 1)]) := by kernel_rfl
theorem bt82 : buildTy Tryz.prog 54 = some ([LV.p (PV.int IntKind.i64 0), LV.p (PV.int IntKind.i64 0), LV.p (PV.int IntKind.u64 0), LV.p (PV.int IntKind.u64 0)], [(0, 1), (1, 1), (2, 2)]) := by kernel_rfl
theorem bt1049 : buildTy Tryz.prog 73 = some ([LV.p (PV.int IntKind.i64 0), LV.p (PV.int IntKind.i64 0), LV.p (PV.bool false), LV.zs, LV.zs], [(0, 1), (1, 1), (2, 1), (3, 1), (4, 1)]) := by kernel_rfl
theorem bt4092 : buildTy Tryz.prog 92 = some ([LV.zs, LV.p (PV.int IntKind.u64 0), LV.p (PV.int IntKind.i64 0), LV.p (PV.int IntKind.i64 0), LV.p (PV.int IntKind.i64 0), LV.zs, LV.p (PV.int IntKind.i64 0), LV.zs, LV.zs, LV.zs, LV.zs, LV.p (PV.int IntKind.i64 0), LV.p (PV.bool false), LV.any, LV.p (PV.int IntKind.i64 0), LV.zs], [(0, 9), (9, 2), (11, 1), (12, 1), (13, 1), (14, 1), (15, 1)]) := by kernel_rfl
theorem bt3157 : buildTy Tryz.prog 108 = some ([LV.any, LV.any], [(0, 1), (1, 1)]) := by kernel_rfl
theorem bt3090 : buildTy Tryz.prog 143 = some ([LV.p (PV.int IntKind.i64 0), LV.p (PV.int IntKind.i64 0), LV.zs, LV.zs, LV.zs, LV.zs, LV.zs, LV.p (PV.int IntKind.u64 0), LV.p (PV.int IntKind.u64 0), LV.p (PV.int IntKind.i64 0), LV.p (PV.int IntKind.i64 0), LV.p (PV.bool false), LV.zs, LV.p (PV.int IntKind.u64 0), LV.p (PV.int IntKind.i64 0), LV.p (PV.int IntKind.i64 0), LV.p (PV.int IntKind.i64 0), LV.p (PV.int IntKind.i64 0), LV.zs], [(0, 12), (12, 5), (17, 1), (18, 1)]) := by kernel_rfl
theorem bt3095 : buildTy Tryz.prog 148 = some ([LV.any, LV.any, LV.any], [(0, 1), (1, 1), (2, 1)]) := by kernel_rfl
theorem bt1108 : buildTy Tryz.prog 163 = some ([LV.p (PV.int IntKind.u64 0), LV.p (PV.int IntKind.u64 0)], [(0, 1), (1, 1)]) := by kernel_rfl
theorem bt120 : buildTy Tryz.prog 206 = some ([LV.p (PV.int IntKind.u64 0), LV.p (PV.int IntKind.i64 0), LV.p (PV.int IntKind.u32 0), LV.p (PV.int IntKind.i32 0), LV.p (PV.int IntKind.u32 0), LV.p (PV.int IntKind.i64 0), LV.p (PV.int IntKind.u64 0), LV.p (PV.int IntKind.u32 0), LV.p (PV.int IntKind.i32 0), LV.p (PV.int IntKind.u32 0), LV.p (PV.int IntKind.i64 0), LV.p (PV.int IntKind.u64 0), LV.p (PV.int IntKind.u32 0), LV.p (PV.int IntKind.i32 0), LV.p (PV.int IntKind.u32 0), LV.p (PV.int IntKind.i64 0), LV.p (PV.int IntKind.u64 0), LV.p (PV.int IntKind.u32 0), LV.p (PV.int IntKind.i32 0), LV.p (PV.int IntKind.u32 0), LV.p (PV.int IntKind.i64 0), LV.p (PV.int IntKind.u64 0), LV.p (PV.int IntKind.u32 0), LV.p (PV.int IntKind.i32 0), LV.p (PV.int IntKind.u32 0), LV.p (PV.int IntKind.i64 0), LV.p (PV.int IntKind.u64 0), LV.p (PV.int IntKind.u32 0), LV.p (PV.int IntKind.i32 0), LV.p (PV.int IntKind.u32 0), LV.p (PV.int IntKind.i64 0), LV.p (PV.int IntKind.u64 0), LV.p (PV.int IntKind.u32 0), LV.p (PV.int IntKind.i32 0), LV.p (PV.int IntKind.u32 0), LV.p (PV.int IntKind.i64 0), LV.p (PV.int IntKind.u64 0), LV.p (PV.int IntKind.u32 0), LV.p (PV.int IntKind.i32 0), LV.p (PV.int IntKind.u32 0), LV.p (PV.int IntKind.i64 0), LV.p (PV.int IntKind.u64 0), LV.p (PV.int IntKind.u32 0), LV.p (PV.int IntKind.i32 0), LV.p (PV.int IntKind.u32 0), LV.p (PV.int IntKind.i64 0), LV.p (PV.int IntKind.u64 0), LV.p (PV.int IntKind.u32 0), LV.p (PV.int IntKind.i32 0), LV.p (PV.int IntKind.u32 0), LV.p (PV.int IntKind.i64 0), LV.p (PV.int IntKind.u64 0), LV.p (PV.int IntKind.i64 0)], [(0, 1), (1, 1), (2, 50), (52, 1)]) := by kernel_rfl
theorem bt1167 : buildTy Tryz.prog 235 = some ([LV.nilmap, LV.nilmap], [(0, 1), (1, 1)]) := by kernel_rfl
theorem bt1170 : buildTy Tryz.prog 238 = some ([LV.p (PV.int IntKind.i64 0), LV.p (PV.int IntKind.i64 0)], [(0, 1), (1, 1)]) := by kernel_rfl
theorem bt136 : buildTy Tryz.prog 242 = some ([LV.p (PV.int IntKind.i64 0), LV.p (PV.int IntKind.u64 0), LV.p (PV.int IntKind.u64 0)], [(0, 1), (1, 2)]) := by kernel_rfl
theorem bt149 : buildTy Tryz.prog 251 = some ([LV.zs, LV.zs, LV.nilmap, LV.nilmap, LV.p (PV.int IntKind.i64 0), LV.p (PV.bool false)], [(0, 2), (2, 1), (3, 1), (4, 1), (5, 1)]) := by kernel_rfl
theorem eqt24 : eqTy Tryz.prog 37 2 = true := by kernel_rfl
theorem eqt42 : eqTy Tryz.prog 40 5 = true := by kernel_rfl
theorem eqt82 : eqTy Tryz.prog 54 4 = true := by kernel_rfl
theorem eqt1108 : eqTy Tryz.prog 163 2 = true := by kernel_rfl
theorem eqt1170 : eqTy Tryz.prog 238 2 = true := by kernel_rfl
theorem eqt136 : eqTy Tryz.prog 242 3 = true := by kernel_rfl
theorem ft55_0 : fieldTy Tryz.prog 25 0 = some (0, 1, false) := by kernel_rfl
theorem ft55_1 : fieldTy Tryz.prog 25 1 = some (1, 1, false) := by kernel_rfl
theorem ft55_2 : fieldTy Tryz.prog 25 2 = some (2, 1, false) := by kernel_rfl
theorem ft55_3 : fieldTy Tryz.prog 25 3 = some (3, 1, false) := by kernel_rfl
theorem ft55_4 : fieldTy Tryz.prog 25 4 = some (4, 1, false) := by kernel_rfl
theorem ft1038_0 : fieldTy Tryz.prog 32 0 = some (0, 5, true) := by kernel_rfl
theorem ft1038_1 : fieldTy Tryz.prog 32 1 = some (5, 1, false) := by kernel_rfl
theorem ft1038_2 : fieldTy Tryz.prog 32 2 = some (6, 1, false) := by kernel_rfl
theorem ft1038_3 : fieldTy Tryz.prog 32 3 = some (7, 1, false) := by kernel_rfl
theorem ft1038_4 : fieldTy Tryz.prog 32 4 = some (8, 1, false) := by kernel_rfl
theorem ft42_0 : fieldTy Tryz.prog 40 0 = some (0, 1, false) := by kernel_rfl
theorem ft42_1 : fieldTy Tryz.prog 40 1 = some (1, 1, false) := by kernel_rfl
theorem ft42_2 : fieldTy Tryz.prog 40 2 = some (2, 2, true) := by kernel_rfl
theorem ft42_3 : fieldTy Tryz.prog 40 3 = some (4, 1, false) := by kernel_rfl
theorem ft75_0 : fieldTy Tryz.prog 44 0 = some (0, 1, false) := by kernel_rfl
theorem ft75_1 : fieldTy Tryz.prog 44 1 = some (1, 1, false) := by kernel_rfl
theorem ft1077_0 : fieldTy Tryz.prog 46 0 = some (0, 1, false) := by kernel_rfl
theorem ft1077_1 : fieldTy Tryz.prog 46 1 = some (1, 1, false) := by kernel_rfl
theorem ft1077_2 : fieldTy Tryz.prog 46 2 = some (2, 5, true) := by kernel_rfl
theorem ft1077_3 : fieldTy Tryz.prog 46 3 = some (7, 2, true) := by kernel_rfl
theorem ft26_0 : fieldTy Tryz.prog 50 0 = some (0, 2, true) := by kernel_rfl
theorem ft26_1 : fieldTy Tryz.prog 50 1 = some (2, 1, false) := by kernel_rfl
theorem ft26_2 : fieldTy Tryz.prog 50 2 = some (3, 1, false) := by kernel_rfl
theorem ft1071_0 : fieldTy Tryz.prog 52 0 = some (0, 1, false) := by kernel_rfl
theorem ft1071_1 : fieldTy Tryz.prog 52 1 = some (1, 1, false) := by kernel_rfl
theorem ft1071_2 : fieldTy Tryz.prog 52 2 = some (2, 2, true) := by kernel_rfl
theorem ft1071_3 : fieldTy Tryz.prog 52 3 = some (4, 2, true) := by kernel_rfl
theorem ft1071_4 : fieldTy Tryz.prog 52 4 = some (6, 1, false) := by kernel_rfl
theorem ft1071_5 : fieldTy Tryz.prog 52 5 = some (7, 4, true) := by kernel_rfl
theorem ft1071_6 : fieldTy Tryz.prog 52 6 = some (11, 1, false) := by kernel_rfl
theorem ft82_0 : fieldTy Tryz.prog 54 0 = some (0, 1, false) := by kernel_rfl
theorem ft82_1 : fieldTy Tryz.prog 54 1 = some (1, 1, false) := by kernel_rfl
theorem ft82_2 : fieldTy Tryz.prog 54 2 = some (2, 2, true) := by kernel_rfl
theorem ft1049_0 : fieldTy Tryz.prog 73 0 = some (0, 1, false) := by kernel_rfl
theorem ft1049_1 : fieldTy Tryz.prog 73 1 = some (1, 1, false) := by kernel_rfl
theorem ft1049_2 : fieldTy Tryz.prog 73 2 = some (2, 1, false) := by kernel_rfl
theorem ft1049_3 : fieldTy Tryz.prog 73 3 = some (3, 1, false) := by kernel_rfl
theorem ft1049_4 : fieldTy Tryz.prog 73 4 = some (4, 1, false) := by kernel_rfl
theorem ft4092_0 : fieldTy Tryz.prog 92 0 = some (0, 9, true) := by kernel_rfl
theorem ft4092_1 : fieldTy Tryz.prog 92 1 = some (9, 2, true) := by kernel_rfl
theorem ft4092_2 : fieldTy Tryz.prog 92 2 = some (11, 1, false) := by kernel_rfl
theorem ft4092_3 : fieldTy Tryz.prog 92 3 = some (12, 1, false) := by kernel_rfl
theorem ft4092_4 : fieldTy Tryz.prog 92 4 = some (13, 1, false) := by kernel_rfl
theorem ft4092_5 : fieldTy Tryz.prog 92 5 = some (14, 1, false) := by kernel_rfl
theorem ft4092_6 : fieldTy Tryz.prog 92 6 = some (15, 1, false) := by kernel_rfl
theorem ft3157_0 : fieldTy Tryz.prog 108 0 = some (0, 1, false) := by kernel_rfl
theorem ft3157_1 : fieldTy Tryz.prog 108 1 = some (1, 1, false) := by kernel_rfl
theorem ft3090_0 : fieldTy Tryz.prog 143 0 = some (0, 12, true) := by kernel_rfl
theorem ft3090_1 : fieldTy Tryz.prog 143 1 = some (12, 5, true) := by kernel_rfl
theorem ft3090_2 : fieldTy Tryz.prog 143 2 = some (17, 1, false) := by kernel_rfl
theorem ft3090_3 : fieldTy Tryz.prog 143 3 = some (18, 1, false) := by kernel_rfl
theorem ft1052_0 : fieldTy Tryz.prog 156 0 = some (0, 1, false) := by kernel_rfl
theorem ft1052_1 : fieldTy Tryz.prog 156 1 = some (1, 1, false) := by kernel_rfl
theorem ft106_1 : fieldTy Tryz.prog 192 1 = some (0, 1, false) := by kernel_rfl
theorem ft108_0 : fieldTy Tryz.prog 194 0 = some (0, 1, false) := by kernel_rfl
theorem ft110_1 : fieldTy Tryz.prog 196 1 = some (0, 2, true) := by kernel_rfl
theorem ft112_1 : fieldTy Tryz.prog 198 1 = some (0, 1, true) := by kernel_rfl
theorem ft112_2 : fieldTy Tryz.prog 198 2 = some (1, 2, true) := by kernel_rfl
theorem ft114_0 : fieldTy Tryz.prog 200 0 = some (0, 3, true) := by kernel_rfl
theorem ft114_1 : fieldTy Tryz.prog 200 1 = some (3, 1, false) := by kernel_rfl
theorem ft114_2 : fieldTy Tryz.prog 200 2 = some (4, 1, false) := by kernel_rfl
theorem ft118_2 : fieldTy Tryz.prog 204 2 = some (0, 1, false) := by kernel_rfl
theorem ft120_0 : fieldTy Tryz.prog 206 0 = some (0, 1, false) := by kernel_rfl
theorem ft120_1 : fieldTy Tryz.prog 206 1 = some (1, 1, false) := by kernel_rfl
theorem ft120_2 : fieldTy Tryz.prog 206 2 = some (2, 50, true) := by kernel_rfl
theorem ft120_3 : fieldTy Tryz.prog 206 3 = some (52, 1, true) := by kernel_rfl
theorem ft1167_0 : fieldTy Tryz.prog 235 0 = some (0, 1, false) := by kernel_rfl
theorem ft1167_1 : fieldTy Tryz.prog 235 1 = some (1, 1, false) := by kernel_rfl
theorem ft1170_0 : fieldTy Tryz.prog 238 0 = some (0, 1, false) := by kernel_rfl
theorem ft136_0 : fieldTy Tryz.prog 242 0 = some (0, 1, false) := by kernel_rfl
theorem ft136_1 : fieldTy Tryz.prog 242 1 = some (1, 2, true) := by kernel_rfl
theorem ft149_0 : fieldTy Tryz.prog 251 0 = some (0, 2, true) := by kernel_rfl
theorem ft149_1 : fieldTy Tryz.prog 251 1 = some (2, 1, false) := by kernel_rfl
theorem ft149_2 : fieldTy Tryz.prog 251 2 = some (3, 1, false) := by kernel_rfl
theorem ft149_3 : fieldTy Tryz.prog 251 3 = some (4, 1, false) := by kernel_rfl
theorem ft149_4 : fieldTy Tryz.prog 251 4 = some (5, 1, false) := by kernel_rfl
theorem mt169 : mapTy Tryz.prog 120 = some (37, 4, 2, true) := by kernel_rfl
theorem mt91 : mapTy Tryz.prog 122 = some (37, 3, 2, true) := by kernel_rfl
theorem mt132 : mapTy Tryz.prog 209 = some (3, 4, 1, false) := by kernel_rfl
theorem mt1164 : mapTy Tryz.prog 232 = some (238, 37, 2, true) := by kernel_rfl
theorem mt1165 : mapTy Tryz.prog 233 = some (238, 4, 2, true) := by kernel_rfl
theorem mt147 : mapTy Tryz.prog 249 = some (54, 4, 4, true) := by kernel_rfl
theorem st49 : slTy Tryz.prog 22 = some (1, 8) := by kernel_rfl
theorem st1050 : slTy Tryz.prog 26 = some (5, 72) := by kernel_rfl
theorem st1035 : slTy Tryz.prog 29 = some (12, 176) := by kernel_rfl
theorem st1036 : slTy Tryz.prog 30 = some (9, 104) := by kernel_rfl
theorem st27 : slTy Tryz.prog 41 = some (5, 40) := by kernel_rfl
theorem st68 : slTy Tryz.prog 42 = some (4, 32) := by kernel_rfl
theorem st31 : slTy Tryz.prog 47 = some (2, 16) := by kernel_rfl
theorem st98 : slTy Tryz.prog 99 = some (1, 8) := by kernel_rfl
theorem st1153 : slTy Tryz.prog 212 = some (1, 8) := by kernel_rfl
theorem st3151 : slTy Tryz.prog 224 = some (1, 24) := by kernel_rfl
theorem vt3 : varTy Tryz.prog 3 = some (1, false) := by kernel_rfl
theorem vt4 : varTy Tryz.prog 4 = some (1, false) := by kernel_rfl
theorem vt21 : varTy Tryz.prog 21 = some (1, false) := by kernel_rfl
theorem vt49 : varTy Tryz.prog 22 = some (1, false) := by kernel_rfl
theorem vt22 : varTy Tryz.prog 23 = some (1, false) := by kernel_rfl
theorem vt55 : varTy Tryz.prog 25 = some (5, true) := by kernel_rfl
theorem vt1050 : varTy Tryz.prog 26 = some (1, false) := by kernel_rfl
theorem vt1035 : varTy Tryz.prog 29 = some (1, false) := by kernel_rfl
theorem vt1036 : varTy Tryz.prog 30 = some (1, false) := by kernel_rfl
theorem vt1038 : varTy Tryz.prog 32 = some (9, true) := by kernel_rfl
theorem vt24 : varTy Tryz.prog 37 = some (2, true) := by kernel_rfl
theorem vt42 : varTy Tryz.prog 40 = some (5, true) := by kernel_rfl
theorem vt27 : varTy Tryz.prog 41 = some (1, false) := by kernel_rfl
theorem vt68 : varTy Tryz.prog 42 = some (1, false) := by kernel_rfl
theorem vt75 : varTy Tryz.prog 44 = some (2, true) := by kernel_rfl
theorem vt1077 : varTy Tryz.prog 46 = some (9, true) := by kernel_rfl
theorem vt26 : varTy Tryz.prog 50 = some (4, true) := by kernel_rfl
theorem vt1071 : varTy Tryz.prog 52 = some (12, true) := by kernel_rfl
theorem vt82 : varTy Tryz.prog 54 = some (4, true) := by kernel_rfl
theorem vt1049 : varTy Tryz.prog 73 = some (5, true) := by kernel_rfl
theorem vt4090 : varTy Tryz.prog 90 = some (1, false) := by kernel_rfl
theorem vt4092 : varTy Tryz.prog 92 = some (16, true) := by kernel_rfl
theorem vt3155 : varTy Tryz.prog 105 = some (1, false) := by kernel_rfl
theorem vt131 : varTy Tryz.prog 106 = some (1, false) := by kernel_rfl
theorem vt3157 : varTy Tryz.prog 108 = some (2, true) := by kernel_rfl
theorem vt169 : varTy Tryz.prog 120 = some (1, false) := by kernel_rfl
theorem vt91 : varTy Tryz.prog 122 = some (1, false) := by kernel_rfl
theorem vt3094 : varTy Tryz.prog 147 = some (1, false) := by kernel_rfl
theorem vt3095 : varTy Tryz.prog 148 = some (3, true) := by kernel_rfl
theorem vt1052 : varTy Tryz.prog 156 = some (2, true) := by kernel_rfl
theorem vt1108 : varTy Tryz.prog 163 = some (2, true) := by kernel_rfl
theorem vt100 : varTy Tryz.prog 186 = some (1, false) := by kernel_rfl
theorem vt132 : varTy Tryz.prog 209 = some (1, false) := by kernel_rfl
theorem vt1164 : varTy Tryz.prog 232 = some (1, false) := by kernel_rfl
theorem vt1165 : varTy Tryz.prog 233 = some (1, false) := by kernel_rfl
theorem vt1167 : varTy Tryz.prog 235 = some (2, true) := by kernel_rfl
theorem vt1170 : varTy Tryz.prog 238 = some (2, true) := by kernel_rfl
theorem vt136 : varTy Tryz.prog 242 = some (3, true) := by kernel_rfl
theorem vt145 : varTy Tryz.prog 246 = some (1, false) := by kernel_rfl
theorem vt147 : varTy Tryz.prog 249 = some (1, false) := by kernel_rfl
theorem vt160 : varTy Tryz.prog 252 = some (1, false) := by kernel_rfl
theorem zl3 : zeroL Tryz.prog 3 = some (LV.p (PV.int IntKind.i64 0)) := by kernel_rfl
theorem zl4 : zeroL Tryz.prog 4 = some (LV.p (PV.bool false)) := by kernel_rfl
theorem zl24 : zeroL Tryz.prog 37 = some (LV.p (PV.agg [PV.int IntKind.u64 0, PV.int IntKind.u64 0])) := by kernel_rfl
theorem zt3 : zeroTy Tryz.prog 3 = some [LV.p (PV.int IntKind.i64 0)] := by kernel_rfl
theorem zt49 : zeroTy Tryz.prog 22 = some [LV.zs] := by kernel_rfl
theorem zt55 : zeroTy Tryz.prog 25 = some [LV.zs, LV.p (PV.int IntKind.u64 0), LV.p (PV.int IntKind.i64 0), LV.p (PV.int IntKind.i64 0), LV.p (PV.int IntKind.i64 0)] := by kernel_rfl
theorem zt1038 : zeroTy Tryz.prog 32 = some [LV.zs, LV.p (PV.int IntKind.u64 0), LV.p (PV.int IntKind.i64 0), LV.p (PV.int IntKind.i64 0), LV.p (PV.int IntKind.i64 0), LV.zs, LV.p (PV.int IntKind.i64 0), LV.zs, LV.zs] := by kernel_rfl
theorem zt24 : zeroTy Tryz.prog 37 = some [LV.p (PV.int IntKind.u64 0), LV.p (PV.int IntKind.u64 0)] := by kernel_rfl
theorem zt42 : zeroTy Tryz.prog 40 = some [LV.p (PV.int IntKind.i64 0), LV.p (PV.int IntKind.i64 0), LV.p (PV.int IntKind.u64 0), LV.p (PV.int IntKind.u64 0), LV.p (PV.int IntKind.u64 0)] := by kernel_rfl
theorem zt68 : zeroTy Tryz.prog 42 = some [LV.zs] := by kernel_rfl
theorem zt75 : zeroTy Tryz.prog 44 = some [LV.zs, LV.zs] := by kernel_rfl
theorem zt1077 : zeroTy Tryz.prog 46 = some [LV.p (PV.int IntKind.i64 0), LV.p (PV.int IntKind.i64 0), LV.p (PV.int IntKind.i64 0), LV.p (PV.int IntKind.i64 0), LV.p (PV.int IntKind.u64 0), LV.p (PV.int IntKind.u64 0), LV.p (PV.int IntKind.u64 0), LV.zs, LV.zs] := by kernel_rfl
theorem zt26 : zeroTy Tryz.prog 50 = some [LV.p (PV.int IntKind.u64 0), LV.p (PV.int IntKind.u64 0), LV.p (PV.int IntKind.i64 0), LV.p (PV.int IntKind.i64 0)] := by kernel_rfl
theorem zt1071 : zeroTy Tryz.prog 52 = some [LV.p (PV.int IntKind.i64 0), LV.p (PV.int IntKind.i64 0), LV.zs, LV.zs, LV.zs, LV.zs, LV.zs, LV.p (PV.int IntKind.u64 0), LV.p (PV.int IntKind.u64 0), LV.p (PV.int IntKind.i64 0), LV.p (PV.int IntKind.i64 0), LV.p (PV.bool false)] := by kernel_rfl
theorem zt82 : zeroTy Tryz.prog 54 = some [LV.p (PV.int IntKind.i64 0), LV.p (PV.int IntKind.i64 0), LV.p (PV.int IntKind.u64 0), LV.p (PV.int IntKind.u64 0)] := by kernel_rfl
theorem zt1049 : zeroTy Tryz.prog 73 = some [LV.p (PV.int IntKind.i64 0), LV.p (PV.int IntKind.i64 0), LV.p (PV.bool false), LV.zs, LV.zs] := by kernel_rfl
theorem zt4092 : zeroTy Tryz.prog 92 = some [LV.zs, LV.p (PV.int IntKind.u64 0), LV.p (PV.int IntKind.i64 0), LV.p (PV.int IntKind.i64 0), LV.p (PV.int IntKind.i64 0), LV.zs, LV.p (PV.int IntKind.i64 0), LV.zs, LV.zs, LV.zs, LV.zs, LV.p (PV.int IntKind.i64 0), LV.p (PV.bool false), LV.any, LV.p (PV.int IntKind.i64 0), LV.zs] := by kernel_rfl
theorem zt131 : zeroTy Tryz.prog 106 = some [LV.any] := by kernel_rfl
theorem zt3157 : zeroTy Tryz.prog 108 = some [LV.any, LV.any] := by kernel_rfl
theorem zt169 : zeroTy Tryz.prog 120 = some [LV.nilmap] := by kernel_rfl
theorem zt3095 : zeroTy Tryz.prog 148 = some [LV.any, LV.any, LV.any] := by kernel_rfl
theorem zt1052 : zeroTy Tryz.prog 156 = some [LV.zs, LV.zs] := by kernel_rfl
theorem zt1108 : zeroTy Tryz.prog 163 = some [LV.p (PV.int IntKind.u64 0), LV.p (PV.int IntKind.u64 0)] := by kernel_rfl
theorem zt132 : zeroTy Tryz.prog 209 = some [LV.nilmap] := by kernel_rfl
theorem zt1167 : zeroTy Tryz.prog 235 = some [LV.nilmap, LV.nilmap] := by kernel_rfl
theorem zt1170 : zeroTy Tryz.prog 238 = some [LV.p (PV.int IntKind.i64 0), LV.p (PV.int IntKind.i64 0)] := by kernel_rfl
theorem zt136 : zeroTy Tryz.prog 242 = some [LV.p (PV.int IntKind.i64 0), LV.p (PV.int IntKind.u64 0), LV.p (PV.int IntKind.u64 0)] := by kernel_rfl
theorem zt145 : zeroTy Tryz.prog 246 = some [LV.any] := by kernel_rfl
theorem zt160 : zeroTy Tryz.prog 252 = some [LV.any] := by kernel_rfl
end
abbrev ID := Int × Int
def idP (p : ID) : PV := .agg [.int .u64 p.1, .int .u64 p.2]
def wordP (x : Int) : PV := .int .u64 x
structure Bk where
 Slot : Int
 From : Int
 Parent : ID
 Salt : Int
 deriving DecidableEq
def blkP (b : Bk) : PV := .agg [.int .i64 b.Slot, .int .i64 b.From, .int .u64 b.Parent.1, .int .u64 b.Parent.2, .int .u64 b.Salt]
structure Vt where
 From : Int
 Slot : Int
 Head : ID
 deriving DecidableEq
def vtP (v : Vt) : PV := .agg [.int .i64 v.From, .int .i64 v.Slot, .int .u64 v.Head.1, .int .u64 v.Head.2]
structure Cf where
 W : List Int
 Seed : Int
 Epoch : Int
 Num : Int
 Den : Int
def cfP (c : Cf) : PV := .agg [.slice 1 (c.W.map i64P), .int .u64 c.Seed, .int .i64 c.Epoch, .int .i64 c.Num, .int .i64 c.Den]
structure Vw where
 B : List Bk
 V : List Vt
def vwP (v : Vw) : PV := .agg [.slice 5 (v.B.map blkP), .slice 4 (v.V.map vtP)]
structure Cu where
 ID : Go.Mg.ID
 Slot : Int
 Revoked : Int
 deriving DecidableEq
def curP (c : Cu) : PV := .agg [.int .u64 c.ID.1, .int .u64 c.ID.2, .int .i64 c.Slot, .int .i64 c.Revoked]
structure Rk where
 n : Int
 id : Go.Mg.ID
def rkP (c : Rk) : PV := .agg [.int .i64 c.n, .int .u64 c.id.1, .int .u64 c.id.2]
theorem idEq {a b : ID} {r : Bool} (h : eqCells [.int .u64 a.1, .int .u64 a.2] [.int .u64 b.1, .int .u64 b.2] = some r) : r = decide (a = b) := by
 rw [eqCells2] at h;cases h;obtain ⟨x, y⟩ := a;obtain ⟨z, w⟩ := b;simp only [Bool.and_true, Prod.mk.injEq];by_cases h1 : x = z <;> by_cases h2 : y = w <;> simp [h1, h2]
theorem idKey : KeyOk idP 2 true := ⟨fun a b => by
 obtain ⟨x, y⟩ := a;obtain ⟨z, w⟩ := b;simp only [idP, keyEq, eqCells2, Bool.and_true, Prod.mk.injEq, Option.some.injEq]
 by_cases h1 : x = z <;> by_cases h2 : y = w <;> simp [h1, h2], fun _ => rfl⟩
theorem i64Key : KeyOk i64P 1 false := ⟨fun a b => by simp only [i64P, keyEq, if_pos, Option.some.injEq]; by_cases h : a = b <;> simp [h], fun _ => rfl⟩
theorem vtKey : KeyOk vtP 4 true := ⟨fun a b => by
 obtain ⟨a1, a2, a3⟩ := a;obtain ⟨b1, b2, b3⟩ := b;simp only [vtP, keyEq, eqCells, if_pos, Option.some.injEq, Vt.mk.injEq];rw [Bool.eq_iff_iff];obtain ⟨a3, a4⟩ := a3;obtain ⟨b3, b4⟩ := b3
 simp, fun _ => rfl⟩
theorem eqID (a b : ID) : ((a.1 == b.1) && ((a.2 == b.2) && true)) = decide (a = b) := by
 obtain ⟨x, y⟩ := a;obtain ⟨z, w⟩ := b;by_cases h1 : x = z <;> by_cases h2 : y = w <;> simp [h1, h2]
theorem eqBk (a b : Bk) : ((a.Slot == b.Slot) && ((a.From == b.From) && ((a.Parent.1 == b.Parent.1) && ((a.Parent.2 == b.Parent.2) && ((a.Salt == b.Salt) && true))))) = decide (a = b) := by
 obtain ⟨a1, a2, ⟨a3, a4⟩, a5⟩ := a;obtain ⟨b1, b2, ⟨b3, b4⟩, b5⟩ := b;simp only [Bool.and_true, Bk.mk.injEq, Prod.mk.injEq];rw [Bool.eq_iff_iff];simp [and_assoc]
theorem eqVt (a b : Vt) : ((a.From == b.From) && ((a.Slot == b.Slot) && ((a.Head.1 == b.Head.1) && ((a.Head.2 == b.Head.2) && true)))) = decide (a = b) := by
 obtain ⟨a1, a2, ⟨a3, a4⟩⟩ := a;obtain ⟨b1, b2, ⟨b3, b4⟩⟩ := b;rw [Bool.eq_iff_iff];simp
abbrev kB (l : List Bk) : LV := .p (.slice 5 (l.map blkP))
abbrev kV (l : List Vt) : LV := .p (.slice 4 (l.map vtP))
abbrev kI (l : List Int) : LV := .p (.slice 1 (l.map i64P))
abbrev jB (i : Nat) (l : List Bk) : LV := .vec 5 i (l.map blkP).length 0 (l.map blkP).length
abbrev jV (i : Nat) (l : List Vt) : LV := .vec 4 i (l.map vtP).length 0 (l.map vtP).length
abbrev jI (i : Nat) (l : List Int) : LV := .vec 1 i (l.map i64P).length 0 (l.map i64P).length
abbrev mQ (m : List (ID × Int)) : LObj := .map (entsOf idP (fun v => .p (.int .i64 v)) m)
abbrev mR (m : List (Vt × Bool)) : LObj := .map (entsOf vtP (fun v => .p (.bool v)) m)
abbrev cfO (c : Cf) : List LV := [.p (.slice 1 (c.W.map i64P)), .p (.int .u64 c.Seed), .p (.int .i64 c.Epoch), .p (.int .i64 c.Num), .p (.int .i64 c.Den)]
abbrev vwO (w : Vw) : List LV := [.p (.slice 5 (w.B.map blkP)), .p (.slice 4 (w.V.map vtP))]
open Go.Proofs
def word (x : Int) : Int :=
 let a := IntKind.u64.wrap (bits .xor .u64 x (x.fdiv (2 ^ (min (Int.toNat 30) IntKind.u64.bits))) * 13787848793156543929)
 let b := IntKind.u64.wrap (bits .xor .u64 a (a.fdiv (2 ^ (min (Int.toNat 27) IntKind.u64.bits))) * 10723151780598845931)
 bits .xor .u64 b (b.fdiv (2 ^ (min (Int.toNat 31) IntKind.u64.bits)))
def step (h x : Int) : Int := word (IntKind.u64.wrap (bits .xor .u64 h x + 11400714819323198485))
def inv (x : Int) : Int := bits .xor .u64 (if IntKind.u64.signed then -1 else IntKind.u64.max) x
theorem c146 {x : Int} : LPure Tryz.prog 125 [.int .u64 x] [.int .u64 (word x)] := by
 refine zh Tryz.func125 Z Z Z Z ?_;refine zQ (zR (yS Z (za Z Z) (zN (zT (zQ (zR (yS Z (zm Z Z) (yS Z (zm Z Z) (yS Z (LOp.shr Z Z Z (by decide)) (yS Z (zb2 Z Z Z Z) (yS Z (zb2 Z Z Z Z) (yS Z (za Z Z) (zN (zT (zQ (zR (yS Z (zm Z Z) (yS Z (zm Z Z) (yS Z (LOp.shr Z Z Z (by decide)) (yS Z (zb2 Z Z Z Z) (yS Z (zb2 Z Z Z Z) (yS Z (za Z Z) (zN ?_)))))))))))))))))))))));exact zT (zQ (zR (yS Z (zm Z Z) (yS Z (zm Z Z) (yS Z (LOp.shr Z Z Z (by decide)) (yS Z (zb2 Z Z Z Z) (yS Z (za Z Z) (zN (zT (zr (zf (.one (.tmp Z)) zv)))))))))))
theorem c108 {h x : Int} : LPure Tryz.prog 70 [.int .u64 h, .int .u64 x] [.int .u64 (step h x)] := by
 refine zh Tryz.func70 Z Z Z Z ?_;exact zQ (zR (yS Z (za Z Z) (zN (zT (zQ (zR (yS Z (zm Z Z) (yS Z (zm Z Z) (yS Z (zb2 Z Z Z Z) (yS Z (zb2 Z Z Z Z) (yS Z (zC Z Z Z (by kernel_rfl) (zp c146 (.cons zv .nil))) (yS Z (za Z Z) (zN (zT (zr (zf (.one (.tmp Z)) zv))))))))))))))))
theorem c143 {x a b : Int} {id : Nat} {H H' : List LObj} (hH : nth H id = some (.box [(uQ a), (uQ b)])) (hH' : setC H id (.box [.p (.int .u64 (step a x)), .p (.int .u64 (step b (inv x)))]) = some H') : LC Tryz.prog 102 [(uQ x), .ptr id 0] H (Is (.tup []) H') := by
 refine zh2 Tryz.func102 Z Z Z ?_;exact LW.drawLast (m := 10) (by kernel_rfl) (by kernel_rfl) (by kernel_rfl) (yE Z (LOp.indexAddrA Z Z Z at24 (by decide) (by decide)) (yE Z (zD Z Z hH vt22 Z Z) (yE Z (zm Z Z) (yE Z (zC Z Z Z (by kernel_rfl) (zp c108 (.cons zv (.cons zv .nil)))) (yE Z (LOp.indexAddrA Z Z Z at24 (by decide) (by decide)) (yE Z (zD Z Z hH vt22 Z Z) (yE Z (zm Z Z) (yE Z (LOp.compl Z Z) (yE Z (zC Z Z Z (by kernel_rfl) (zp c108 (.cons zv (.cons zv .nil)))) (yE Z (LOp.build Z bt24 Z Z Z) (LO.nil (yS Z (zs Z Z Z hH vt24 Z Z Z hH') (zN (fin_end .none (⟨rfl, rfl⟩)))))))))))))))
open Go.Proofs
def mixStep (p : Int × Int) (x : Int) : Int × Int := (step p.1 x, step p.2 (inv x))
def mixOf (l : List Int) : Int × Int := mixStep (l.foldl mixStep (1, 2)) (IntKind.u64.wrap l.length)
theorem c99 {l : List Int} : LPure Tryz.prog 54 [.slice 1 (l.map wordP)] [idP (mixOf l)] := by
 refine zh Tryz.func54 Z Z Z Z ?_;refine zQ ?_;refine LW.ok (t := 0) Z (fun ok => ?_);have hlen := ok.len;simp only [List.length_map, maxLen] at hlen;refine zR (yS Z (ze Z zt24 Z Z) (zN (zT (zQ (zR (yS Z (LOp.build Z bt24 Z Z Z) (yS Z (ze Z zt24 Z Z) (yS Z (zs Z Z Z Z vt24 Z Z Z Z) (zN (zT (zQ (zR (yS Z (LOp.makeFunc Z Z Z) (yS Z (za Z Z) (zN (zT (zQ (zQ (zR (yS Z (zm Z Z) (yS Z (LOp.len Z Z (by kernel_rfl)) (yS Z (zm Z Z) (zN ?_)))))))))))))))))))))));refine zT (zl ?_);refine LW.loopOf (E := fun x : Nat × Int × Int => [(0, .p (.slice 1 (l.map wordP))), (2, .ptr 0 0), (3, .ptr 1 0), (4, .fn 102 [] [.ptr 1 0]), (9, .p (.slice 1 (l.map wordP))), (10, .p (.int .i64 (l.map wordP).length)), (11, .p (.int .i64 (x.1 : Nat)))]) (O := fun x => [.box [(uQ 0), (uQ 0)], .box [(uQ x.2.1), (uQ x.2.2)]]) (G := fun x => x.1 ≤ l.length ∧ x.2 = (l.take x.1).foldl mixStep (1, 2)) (meas := fun x => l.length - x.1) (0, 1, 2) (zW 2 ⟨rfl, rfl, rfl, rfl, rfl, rfl, rfl, trivial⟩ Z Z Z Z) ⟨Nat.zero_le _, rfl⟩ (fun x hx => ?_);refine zQ (zR (yS Z (zb2 Z Z Z Z) (zN (zT (zQ ?_)))));refine zX Z (fun g1 => ?_) (fun g1 => ?_)
 ·
  refine zk (zT (zQ (zl (zQ ?_))))
  have hlt : x.1 < l.length := by simpa using g1
  obtain ⟨y, hy⟩ := list_get hlt;refine zR (yS Z (LOp.indexAddr Z Z Z st98 (by omega) (map_get hy) Z) (yS Z (zC2 Z Z Z vt22 Z Z) (yS Z (za Z Z) (zN (zT (zR (yS Z (zm Z Z) (yS Z (zm Z Z) (yS Z (zC Z Z Z (by kernel_rfl) (c143 (id := 1) Z Z)) (zN (inBlk_n (zT (zR (yS Z (LOp.isEq (y := .p (.int .i64 ((x.1 + 1 : Nat) : Int))) (zb2 Z Z Z Z) (by rw [wrapI (by omega) (by omega)]; rfl)) (yS Z (zm Z Z) (zN (zT ?_)))))))))))))))));refine ⟨(x.1 + 1, mixStep x.2 y), ?_, ?_, zW 2 ⟨rfl, rfl, rfl, rfl, rfl, rfl, rfl, trivial⟩ Z Z Z rfl⟩
  ·simp only; omega
  ·refine ⟨hlt, ?_⟩; rw [List.take_add_one, hy, List.foldl_append, ← hx.2]; rfl
 ·
  refine zq (thn_e (thn_e (zy (zT (zQ ?_)))))
  have hnlt : ¬ x.1 < l.length := by simpa using g1
  have hend : x.1 = l.length := by omega
  have hfold : x.2 = l.foldl mixStep (1, 2) := by rw [hx.2, hend, List.take_length]
  refine zR (yS Z (zm Z Z) (yS Z (zm Z Z) (yS Z (LOp.len Z Z (by kernel_rfl)) (yS Z (LOp.convert (k' := .u64) Z Z (by kernel_rfl)) (yS Z (zC Z Z Z (by kernel_rfl) (c143 (id := 1) Z Z)) (zN (zT (zQ (zR (yS Z (zD Z Z Z vt24 Z Z) (yS Z (zs Z Z Z Z vt24 Z Z Z Z) (zN (zT (zr (zf (.one (.cellAgg Z Z (by kernel_rfl) Z)) (Conv.pe ?_))))))))))))))));simp only [List.length_map, idP, mixOf, ← hfold];rfl
open Go.Proofs
def nameWords (b : Bk) : List Int := [1, IntKind.u64.wrap b.Slot, IntKind.u64.wrap b.From, b.Parent.1, b.Parent.2, b.Salt]
def nm (b : Bk) : ID := mixOf (nameWords b)
def indexOf (l : List ID) (v : ID) : Int := match l.findIdx? (fun x => decide (v = x)) with | some i => (i : Nat) | none => -1
theorem indexOf_at {l : List ID} {v : ID} {i : Nat} (h : l[i]? = some v) (hno : ∀ j, j < i → l[j]? ≠ some v) : indexOf l v = i := by
 have hi := (List.getElem?_eq_some_iff.1 h).1
 have : l.findIdx? (fun x => decide (v = x)) = some i := by
  rw [List.findIdx?_eq_some_iff_getElem];refine ⟨hi, by simp [(List.getElem?_eq_some_iff.1 h).2], fun j hj => ?_⟩;have := hno j hj;rw [List.getElem?_eq_getElem (by omega)] at this;simpa using fun e => this (by rw [e])
 simp [indexOf, this]
theorem indexOf_none {l : List ID} {v : ID} (hno : ∀ j, j < l.length → l[j]? ≠ some v) : indexOf l v = -1 := by
 have : l.findIdx? (fun x => decide (v = x)) = none := by
  rw [List.findIdx?_eq_none_iff];intro x hx;obtain ⟨j, hj, rfl⟩ := List.mem_iff_getElem.1 hx;have := hno j hj;rw [List.getElem?_eq_getElem hj] at this;simpa using fun e => this (by rw [e])
 simp [indexOf, this]
theorem c50 {b : Bk} : LPure Tryz.prog 19 [blkP b] [idP (nm b)] := by
 refine zh Tryz.func19 Z Z Z Z ?_;refine zQ (zR (yS Z (zbx Z Z Z Z Z) (yS Z (ze Z zt24 Z Z) (zN (zT (zQ (zR (yS Z (zA Z Z ft42_0) (yS Z (zD Z Z Z vt3 Z Z) (yS Z (LOp.convert (k' := .u64) Z Z (by kernel_rfl)) (yS Z (zA Z Z ft42_1) (yS Z (zD Z Z Z vt3 Z Z) (yS Z (LOp.convert (k' := .u64) Z Z (by kernel_rfl)) (yS Z (zA Z Z ft42_2) (yS Z (LOp.indexAddrA Z Z Z at24 (by decide) (by decide)) (yS Z (zD Z Z Z vt22 Z Z) (yS Z (zA Z Z ft42_2) (yS Z (LOp.indexAddrA Z Z Z at24 (by decide) (by decide)) (yS Z (zD Z Z Z vt22 Z Z) (yS Z (zA Z Z ft42_3) (yS Z (zD Z Z Z vt22 Z Z) (yS Z (zB2 Z st98 Z Z Z Z Z) (yS Z (zC Z Z Z (by kernel_rfl) (zp (c99 (l := nameWords b)) (.cons zv .nil))) ?_)))))))))))))))))))))));exact yS Z (zs Z Z Z Z vt24 Z Z Z Z) (zN (zT (zr (zf (.one (.cellAgg Z Z (by kernel_rfl) Z)) zv))))
theorem c93 {l : List ID} {v : ID} : LPure Tryz.prog 119 [.slice 2 (l.map idP), idP v] [.int .i64 (indexOf l v)] := by
 refine zh Tryz.func119 Z Z Z Z ?_;refine zQ ?_;refine LW.ok (t := 0) Z (fun ok => ?_);have hlen := ok.len;simp only [List.length_map, maxLen] at hlen;refine zR (yS Z (zbx Z Z Z Z Z) (yS Z (za Z Z) (zN (zT (zQ (zQ (zR (yS Z (zm Z Z) (yS Z (LOp.len Z Z (by kernel_rfl)) (yS Z (zm Z Z) (zN (zT (zl ?_)))))))))))));refine LW.loopOf (E := fun x : Nat => [(0, .p (.slice 2 (l.map idP))), (3, .ptr 0 0), (6, .p (.slice 2 (l.map idP))), (7, .p (.int .i64 (l.map idP).length)), (8, .p (.int .i64 (x : Nat)))]) (O := fun x => [.box [(uQ v.1), (uQ v.2)]]) (G := fun x => x ≤ l.length ∧ ∀ j, j < x → l[j]? ≠ some v) (meas := fun x => l.length - x) 0 (zW 1 ⟨rfl, rfl, rfl, rfl, rfl, trivial⟩ Z Z Z Z) ⟨Nat.zero_le _, fun j hj => absurd hj (by omega)⟩ (fun x hx => ?_);refine zQ (zR (yS Z (zb2 Z Z Z Z) (zN (zT (zQ ?_)))));refine zX Z (fun g1 => ?_) (fun g1 => ?_)
 ·
  refine zk (zT (zQ (zl (zQ ?_))))
  have hlt : x < l.length := by simpa using g1
  obtain ⟨y, hy⟩ := list_get hlt;refine zR (yS Z (zm Z Z) (yS Z (za Z Z) (zN (zT (zQ (LW.draw2 (by kernel_rfl) (by kernel_rfl) (yE Z (zD Z Z Z vt24 Z Z) (yE Z (zm Z Z) (yE Z (zm Z Z) (yE Z (LOp.indexAddr Z Z Z st31 (by omega) (map_get hy) Z) (yE Z (zC2 Z Z Z vt24 Z Z) (yE Z (LOp.eqlAgg Z Z Z Z Z eqt24) (LO.nil (zT ?_))))))))))))));refine zX Z (fun g2 => ?_) (fun g2 => ?_)
  ·
   refine zQ ?_;have he : v = y := of_decide_eq_true ((idEq (a := v) (b := y) rfl).symm.trans g2);exact zR (yS Z (zm Z Z) (yS Z (za Z Z) (zN (zT (zr (inBlk_r (thn_r (thn_r (inBlk_r (thn_r (zf (.one (.tmp Z)) (Conv.pe (by rw [indexOf_at (hy.trans (congrArg some he.symm)) hx.2])))))))))))))
  ·
   refine zk (inBlk_n (zT ?_));have hne : v ≠ y := of_decide_eq_false ((idEq (a := v) (b := y) rfl).symm.trans g2);refine zR (yS Z (LOp.isEq (y := .p (.int .i64 ((x + 1 : Nat) : Int))) (zb2 Z Z Z Z) (by rw [wrapI (by omega) (by omega)]; rfl)) (yS Z (zm Z Z) (zN (zT ?_))));refine ⟨x + 1, ?_, ?_, zW 1 ⟨rfl, rfl, rfl, rfl, rfl, trivial⟩ Z Z Z rfl⟩
   ·omega
   ·exact ⟨hlt, fun j hj => by rcases Nat.lt_succ_iff_lt_or_eq.1 hj with h | h; exact hx.2 j h; subst h; rw [hy]; exact fun e => hne (zJ e).symm⟩
 ·
  refine zq (thn_e (thn_e (zy (zT (zQ ?_)))))
  have hnlt : ¬ x < l.length := by simpa using g1
  have hend : x = l.length := by omega
  exact zR (yS Z (za Z Z) (zN (zT (zr (zf (.one (.tmp Z)) (Conv.pe (by rw [indexOf_none fun j hj => hx.2 j (by omega)])))))))
theorem c95 {l : List ID} {v : ID} : LPure Tryz.prog 65 [.slice 2 (l.map idP), idP v] [.bool (decide (indexOf l v ≥ 0))] := by
 refine zh Tryz.func65 Z Z Z Z ?_;exact zQ (zR (yS Z (zbx Z Z Z Z Z) (yS Z (za Z Z) (zN (zT (zQ (zR (yS Z (zm Z Z) (yS Z (zD Z Z Z vt24 Z Z) (yS Z (zC Z Z Z (by kernel_rfl) (zp c93 (.cons zv (.cons zv .nil)))) (yS Z (zb2 Z Z Z Z) (yS Z (za Z Z) (zN (zT (zr (zf (.one (.tmp Z)) zv))))))))))))))))
open Go.Proofs
def slotIx (l : List Bk) (i : Int) : Int := if i = -1 then 0 else match l[i.toNat]? with
 | some b => b.Slot
 | none => 0
abbrev ixV : Int → LV := fun v => (iQ v)
def placesGo (l : List Bk) : List Bk → Nat → List (ID × Int) → Option (List (ID × Int))
 | [], _, m => some m
 | b :: r, i, m => match findE m b.Parent with
  | none => none
  | some p => if b.Slot ≤ slotIx l p then none else match findE m (nm b) with
   | some _ => none
   | none => placesGo l r (i + 1) (m ++ [(nm b, (i : Int))])
def places (l : List Bk) : Option (List (ID × Int)) := placesGo l l 0 [((0, 0), -1)]
theorem placesGo_at {l : List Bk} {i : Nat} {y : Bk} (hy : l[i]? = some y) (m : List (ID × Int)) : placesGo l (l.drop i) i m = match findE m y.Parent with
  | none => none
  | some p => if y.Slot ≤ slotIx l p then none else match findE m (nm y) with
   | some _ => none
   | none => placesGo l (l.drop (i + 1)) (i + 1) (m ++ [(nm y, (i : Int))]) := by
 obtain ⟨hi, rfl⟩ := List.getElem?_eq_some_iff.1 hy;rw [List.drop_eq_getElem_cons hi];rfl
theorem c142 {l : List Bk} {i : Int} {id : Nat} {H : List LObj} (hH : nth H id = some (.box [(kB l)])) (hi : i = -1 ∨ 0 ≤ i ∧ i < l.length) :
  LC Tryz.prog 127 [(iQ i), .ptr id 0] H (Is (.p (.int .i64 (slotIx l i))) H) := by
 refine zh2 Tryz.func127 Z Z Z ?_;refine zQ (zR (yS Z (za Z Z) (zN (zT (zQ (zQ (zR (yS Z (zm Z Z) (yS Z (zb2 Z Z Z Z) (zN (zT ?_)))))))))));refine zX Z (fun g1 => ?_) (fun g1 => ?_)
 ·
  refine zQ ?_
  have he : i = -1 := by simpa using g1
  exact zR (yS Z (za Z Z) (zN (zT (zr (thn_r (fin_ret (.one (.tmp Z)) (⟨by simp [slotIx, he], rfl⟩)))))))
 ·
  refine zk (zT (zQ ?_))
  have hne : i ≠ -1 := by simpa using g1
  obtain ⟨y, hy⟩ := list_get (l := l) (i := i.toNat) (by omega)
  have hiy : (l.map blkP)[i.toNat]? = some (blkP y) := by simp [hy]
  exact zR (yS Z (zD Z Z hH vt27 Z Z) (yS Z (zm Z Z) (yS Z (LOp.indexAddr Z Z Z st27 (by omega) hiy Z) (yS Z (LOp.fieldAddrC Z Z ft42_0 Z) (yS Z (zC2 Z Z Z vt3 Z Z) (yS Z (za Z Z) (zN (zT (zr (fin_ret (.one (.tmp Z)) (⟨by simp [slotIx, hne, hy], rfl⟩)))))))))))
theorem c94 {l : List Bk} : LC Tryz.prog 75 [(kB l)] [] fun x H =>
  (∃ m, places l = some m ∧ x = .tup [.map 1, (bQ true)] ∧ H = [.box [(kB l)], .map (entsOf idP ixV m)]) ∨ (places l = none ∧ x = .tup [.nilmap, (bQ false)] ∧ H = []) := by
 refine zh2 Tryz.func75 Z Z Z ?_;refine zQ ?_;refine LW.ok (t := 0) Z (fun ok => ?_);have hlen := ok.len;simp only [List.length_map, maxLen] at hlen;refine zR (yS Z (zbx Z Z Z Z Z) (yS Z (za Z Z) (yS Z (za Z Z) (zN (zT (zQ (zR (yS Z (LOp.makeMap Z Z Z) (yS Z (LOp.build Z bt24 Z Z Z) (yS Z (LOp.setNew (f := idP) (g := ixV) (m := []) (a := (0, 0)) (v := -1) idKey Z (.inr Z) Z Z Z Z Z mt91 Z) (yS Z (zm Z Z) (yS Z (za Z Z) (zN (zT (zQ (zR (yS Z (LOp.makeFunc Z Z Z) (yS Z (za Z Z) (zN (zT (zQ (zQ (zR ?_)))))))))))))))))))))));refine yS Z (zD Z Z Z vt27 Z Z) (yS Z (LOp.len Z Z (by kernel_rfl)) (yS Z (zm Z Z) (zN (zT (zl ?_)))));refine LW.loopOf (E := fun x : Nat × List (ID × Int) => [(1, .ptr 0 0), (4, .map 1), (5, .fn 127 [] [.ptr 0 0]), (17, (kB l)), (18, .p (.int .i64 (l.map blkP).length)), (19, .p (.int .i64 (x.1 : Nat)))]) (O := fun x => [.box [(kB l)], .map (entsOf idP ixV x.2)]) (G := fun x => x.1 ≤ l.length ∧ placesGo l (l.drop x.1) x.1 x.2 = places l ∧ ∀ k v, findE x.2 k = some v → v = -1 ∨ 0 ≤ v ∧ v < l.length) (meas := fun x => l.length - x.1) (0, [((0, 0), -1)]) (zW 2 ⟨rfl, rfl, rfl, rfl, rfl, rfl, trivial⟩ Z Z Z (zL Z (zL (entsLow (fun _ => rfl) _) Z))) ⟨Nat.zero_le _, rfl, fun k v h => by unfold findE findE at h; split at h <;> cases h; exact .inl rfl⟩ (fun x hx => ?_);refine zQ (zR (yS Z (zb2 Z Z Z Z) (zN (zT (zQ ?_)))));refine zX Z (fun g1 => ?_) (fun g1 => ?_)
 ·
  refine zk (zT (zQ (zl (zQ ?_))))
  have hlt : x.1 < l.length := by simpa using g1
  obtain ⟨y, hy⟩ := list_get hlt;refine zR (yS Z (zm Z Z) (yS Z (LOp.indexAddr Z Z Z st27 (by omega) (map_get hy) Z) (yS Z (zC2 Z Z Z vt42 Z Z) (yS Z (ze Z zt42 Z Z) (yS Z (za Z Z) (yS Z (zs Z Z Z Z vt42 Z Z Z Z) (zN (zT (zQ (zR (yS Z (zm Z Z) (yS Z (zA Z Z ft42_2) (yS Z (zD Z Z Z vt24 Z Z) ?_)))))))))))));rcases hp : findE x.2 y.Parent with _ | p
  ·
   refine yS Z ((LOp.getMiss idKey hp Z Z Z Z mt91 zl3 Z)) (yS Z (zm Z Z) (yS Z (zX2 Z Z Z) (yS Z (zX2 Z Z Z) (yS Z (za Z Z) (yS Z (za Z Z) (zN (zT (zQ (zQ (LW.draw2 (by kernel_rfl) (by kernel_rfl) (yE Z (zm Z Z) (yE Z (LOp.not Z Z) (yE Z (zm Z Z) (LO.sk Z Z Z Z Z Z (LO.sk Z Z Z Z Z Z (LO.sk Z Z Z Z Z Z (LO.sk Z Z Z Z Z Z (LO.sk Z Z Z Z Z Z (LO.sk Z Z Z Z Z Z (yE Z (zpT Z Z Z) (LO.nil (zT (LW.condT Z ?_)))))))))))))))))))))));refine zQ (zR (yS Z (za Z Z) (yS Z (za Z Z) (zN (zT (zr (thn_r (inBlk_r (thn_r (thn_r (inBlk_r (thn_r ?_))))))))))));refine fin_retW (env' := [(2, .nilmap), (3, (bQ false))]) (H' := []) (zW 0 ⟨rfl, rfl, trivial⟩ Z Z Z Z) (.two (.tmp Z) (.tmp Z)) (.inr ⟨?_, rfl, rfl⟩);rw [← hx.2.1, placesGo_at hy]
   first | (simp only [hp]; done) | (simp only [hp]; rw [if_pos (of_decide_eq_true g2)]; done) | (simp only [hp, hq]; split <;> rfl)
  ·
   refine yS Z ((LOp.getHit idKey hp Z Z Z Z mt91 Z)) (yS Z (zm Z Z) (yS Z (zX2 Z Z Z) (yS Z (zX2 Z Z Z) (yS Z (za Z Z) (yS Z (za Z Z) (zN (zT (zQ (zQ (LW.draw2 (by kernel_rfl) (by kernel_rfl) (yE Z (zm Z Z) (yE Z (LOp.not Z Z) (yE Z (zm Z Z) (LO.gd Z Z Z Z Z (zA Z Z ft42_0) (LO.gd Z Z Z Z Z (zD Z Z Z vt3 Z Z) (LO.gd Z Z Z Z Z (zm Z Z) (LO.gd Z Z Z Z Z (zm Z Z) (LO.gd Z Z Z Z Z (zC Z Z Z (by kernel_rfl) (c142 (id := 0) Z (hx.2.2 _ _ hp))) (LO.gd Z Z Z Z Z (zb2 Z Z Z Z) (yE Z (zpF Z Z Z) (LO.nil (zT ?_))))))))))))))))))))));refine zX Z (fun g2 => ?_) (fun g2 => ?_)
   ·
    refine zQ (zR (yS Z (za Z Z) (yS Z (za Z Z) (zN (zT (zr (thn_r (inBlk_r (thn_r (thn_r (inBlk_r (thn_r ?_))))))))))));refine fin_retW (env' := [(2, .nilmap), (3, (bQ false))]) (H' := []) (zW 0 ⟨rfl, rfl, trivial⟩ Z Z Z Z) (.two (.tmp Z) (.tmp Z)) (.inr ⟨?_, rfl, rfl⟩);rw [← hx.2.1, placesGo_at hy]
    first | (simp only [hp]; done) | (simp only [hp]; rw [if_pos (of_decide_eq_true g2)]; done) | (simp only [hp, hq]; split <;> rfl)
   ·
    refine zk (zT (zQ (zR (yS Z (zD Z Z Z vt42 Z Z) (yS Z (zC Z Z Z (by kernel_rfl) (zp (c50 (b := y)) (.cons zv .nil))) (yS Z (ze Z zt24 Z Z) (yS Z (zs Z Z Z Z vt24 Z Z Z Z) (zN (zT (zQ (zQ (zR (yS Z (zm Z Z) (yS Z (zD Z Z Z vt24 Z Z) ?_))))))))))))));rcases hq : findE x.2 (nm y) with _ | q
    ·
     refine yS Z ((LOp.getMiss idKey hq Z Z Z Z mt91 zl3 Z)) (yS Z (zm Z Z) (yS Z (zX2 Z Z Z) (yS Z (zX2 Z Z Z) (yS Z (za Z Z) (yS Z (za Z Z) (zN (zT (zQ (zR (yS Z (zm Z Z) (zN (zT (LW.condF Z (zk (zT (zR (yS Z (zm Z Z) (yS Z (zD Z Z Z vt24 Z Z) (yS Z (zm Z Z) (yS Z (LOp.setNew (f := idP) (g := ixV) (m := x.2) (a := nm y) (v := ((x.1 : Nat) : Int)) idKey hq (.inl Z) Z Z Z Z Z mt91 Z) (zN (inBlk_n (zT ?_)))))))))))))))))))))));refine zR (yS Z (LOp.isEq (y := .p (.int .i64 ((x.1 + 1 : Nat) : Int))) (zb2 Z Z Z Z) (by rw [wrapI (by omega) (by omega)]; rfl)) (yS Z (zm Z Z) (zN (zT ?_))));refine ⟨(x.1 + 1, x.2 ++ [(nm y, ((x.1 : Nat) : Int))]), ?_, ?_, zW 2 ⟨rfl, rfl, rfl, rfl, rfl, rfl, trivial⟩ Z Z Z (zL Z (zL (entsLow (fun _ => rfl) _) Z))⟩
     ·simp only; omega
     ·refine ⟨hlt, ?_, fun k v h => ?_⟩
      ·rw [← hx.2.1, placesGo_at hy]; simp only [hp, hq]; rw [if_neg (of_decide_eq_false g2)]
      ·rw [findE_append] at h;rcases hk : findE x.2 k with _ | u
       ·rw [hk] at h; simp only [Option.none_or] at h; split at h <;> cases h; omega
       ·rw [hk] at h; cases h; exact hx.2.2 k _ hk
    ·
     refine yS Z ((LOp.getHit idKey hq Z Z Z Z mt91 Z)) (yS Z (zm Z Z) (yS Z (zX2 Z Z Z) (yS Z (zX2 Z Z Z) (yS Z (za Z Z) (yS Z (za Z Z) (zN (zT (zQ (zR (yS Z (zm Z Z) (zN (zT (LW.condT Z (zQ (zR (yS Z (za Z Z) (yS Z (za Z Z) (zN (zT (zr (thn_r (inBlk_r (thn_r ?_)))))))))))))))))))))));refine thn_r (inBlk_r (thn_r ?_));refine fin_retW (env' := [(2, .nilmap), (3, (bQ false))]) (H' := []) (zW 0 ⟨rfl, rfl, trivial⟩ Z Z Z Z) (.two (.tmp Z) (.tmp Z)) (.inr ⟨?_, rfl, rfl⟩);rw [← hx.2.1, placesGo_at hy]
     first | (simp only [hp]; done) | (simp only [hp]; rw [if_pos (of_decide_eq_true g2)]; done) | (simp only [hp, hq]; split <;> rfl)
 ·
  refine zq (thn_e (thn_e (zy (zT (zQ ?_)))))
  have hnlt : ¬ x.1 < l.length := by simpa using g1
  have hend : x.1 = l.length := by omega
  refine zR (yS Z (zm Z Z) (yS Z (za Z Z) (yS Z (za Z Z) (zN (zT (zr ?_))))));refine fin_retW (env' := [(2, .map 1), (3, (bQ true))]) (H' := [.box [(kB l)], .map (entsOf idP ixV x.2)]) (zW 2 ⟨rfl, rfl, trivial⟩ Z Z Z (zL Z (zL (entsLow (fun _ => rfl) _) Z))) (.two (.tmp Z) (.tmp Z)) (.inl ⟨x.2, ?_, rfl, rfl⟩);rw [← hx.2.1, hend, List.drop_length]; rfl
structure PInv (l : List Bk) (m : List (ID × Int)) (n : Nat) : Prop where
 zero : findE m (0, 0) = some (-1)
 known : ∀ k i, findE m k = some i → (i = -1 ∧ k = (0, 0)) ∨ ∃ b p, 0 ≤ i ∧ i < n ∧ l[i.toNat]? = some b ∧ nm b = k ∧ findE m b.Parent = some p ∧ p < i ∧ -1 ≤ p ∧ slotIx l p < b.Slot
 names : ∀ i b, i < n → l[i]? = some b → findE m (nm b) = some (i : Int)
theorem PInv.step {l : List Bk} {m : List (ID × Int)} {n : Nat} {y : Bk} {p : Int} (h : PInv l m n) (hy : l[n]? = some y) (hp : findE m y.Parent = some p) (hs : ¬ y.Slot ≤ slotIx l p) (hq : findE m (nm y) = none) :
  PInv l (m ++ [(nm y, (n : Int))]) (n + 1) := by
 have old : ∀ k i, findE m k = some i → findE (m ++ [(nm y, (n : Int))]) k = some i := fun k i hk => by rw [findE_append, hk]; rfl
 refine ⟨old _ _ h.zero, fun k i hk => ?_, fun i b hi hb => ?_⟩
 ·rw [findE_append] at hk;rcases hm : findE m k with _ | j
  ·rw [hm] at hk;simp only [Option.none_or] at hk;split at hk
   ·rename_i e;cases hk;right;refine ⟨y, p, by omega, by omega, by simpa using hy, e, old _ _ hp, ?_, ?_, by omega⟩
    ·rcases h.known _ _ hp with ⟨h1, -⟩ | ⟨b, q, h1, h2, -⟩ <;> omega
    ·rcases h.known _ _ hp with ⟨h1, -⟩ | ⟨b, q, h1, h2, -⟩ <;> omega
   ·cases hk
  ·rw [hm] at hk;cases hk;rcases h.known _ _ hm with h1 | ⟨b, q, h1, h2, h3, h4, h5, h6, h7, h8⟩
   ·exact .inl h1
   ·exact .inr ⟨b, q, h1, by omega, h3, h4, old _ _ h5, h6, h7, h8⟩
 ·rcases Nat.lt_succ_iff_lt_or_eq.1 hi with hi | hi
  ·exact old _ _ (h.names i b hi hb)
  ·subst hi;rw [hy] at hb; cases hb;rw [findE_append, hq]; simp
theorem placesGo_inv {l : List Bk} : ∀ (r : List Bk) (i : Nat) (m m' : List (ID × Int)), r = l.drop i → i ≤ l.length → PInv l m i → placesGo l r i m = some m' → PInv l m' l.length
 | [], i, m, m', hr, hi, h, hg => by
  cases hg
  have : l.length ≤ i := by
   have := congrArg List.length hr;simp at this; omega
  rw [show l.length = i by omega]; exact h
 | y :: r, i, m, m', hr, hi, h, hg => by
  have hil : i < l.length := by
   have := congrArg List.length hr;simp at this; omega
  have hd := List.drop_eq_getElem_cons hil;rw [hd, List.cons.injEq] at hr;obtain ⟨rfl, rfl⟩ := hr;unfold placesGo at hg;split at hg
  ·cases hg
  ·rename_i p hp;split at hg
   ·cases hg
   ·rename_i hs;split at hg
    ·cases hg
    ·rename_i hq;exact placesGo_inv _ (i + 1) _ m' Z (by omega) (h.step (List.getElem?_eq_getElem hil) hp hs hq) hg
theorem places_inv0 {l : List Bk} : ∀ (k : ID) (i : Int), findE [(((0, 0) : ID), (-1 : Int))] k = some i → (i = -1 ∧ k = (0, 0)) ∨ ∃ b p, 0 ≤ i ∧ i < (0 : Nat) ∧ l[i.toNat]? = some b ∧ nm b = k ∧ findE [(((0, 0) : ID), (-1 : Int))] b.Parent = some p ∧ p < i ∧ -1 ≤ p ∧ slotIx l p < b.Slot := by
 intro k i hk;unfold findE findE at hk;split at hk
 ·rename_i e; cases hk; exact .inl ⟨rfl, e.symm⟩
 ·cases hk
theorem places_inv {l : List Bk} {m : List (ID × Int)} (h : places l = some m) : PInv l m l.length :=
 placesGo_inv l 0 _ m rfl (Nat.zero_le _) ⟨rfl, places_inv0, fun i b hi => by omega⟩ h
def chainF (l : List Bk) : Nat → ID → Int → List ID
 | 0, id, _ => [id]
 | n + 1, id, i => if i = -1 then [id] else match l[i.toNat]? with
  | none => [id]
  | some b => match places l with
   | none => [id]
   | some m => match findE m b.Parent with
    | none => [id]
    | some p => id :: chainF l n b.Parent p
def chainOf (l : List Bk) (id : ID) : List ID := match places l with
 | none => []
 | some m => match findE m id with
  | none => []
  | some i => chainF l (i + 1).toNat id i
theorem chainF_more {l : List Bk} {m : List (ID × Int)} (hpl : places l = some m) : ∀ (n : Nat) (k : Nat) (id : ID) (i : Int), i + 1 ≤ n → n ≤ k → findE m id = some i → chainF l k id i = chainF l n id i := by
 intro n
 induction n with
 | zero =>
  intro k id i hi hk hf
  have : i = -1 := by
   rcases (places_inv hpl).known _ _ hf with ⟨h, -⟩ | ⟨_, _, h, -⟩ <;> omega
  cases k with
  | zero => rfl
  | succ k => simp [chainF, this]
 | succ n ih =>
  intro k id i hi hk hf;obtain ⟨k, rfl⟩ : ∃ j, k = j + 1 := ⟨k - 1, by omega⟩;rcases (places_inv hpl).known _ _ hf with ⟨h, -⟩ | ⟨b, p, h0, h1, h2, h3, h4, h5, h6, h7⟩
  ·simp [chainF, h]
  ·simp only [chainF, if_neg (show i ≠ -1 by omega), h2, hpl, h4];rw [ih k b.Parent p (by omega) (by omega) h4]
theorem chainF_step {l : List Bk} {m : List (ID × Int)} {id : ID} {i p : Int} {b : Bk} (hpl : places l = some m) (hne : i ≠ -1) (h0 : 0 ≤ i) (hb : l[i.toNat]? = some b) (hp : findE m b.Parent = some p) (hpi : p < i) (hp1 : -1 ≤ p) :
  chainF l (i + 1).toNat id i = id :: chainF l (p + 1).toNat b.Parent p := by
 obtain ⟨n, hn⟩ : ∃ n, (i + 1).toNat = n + 1 := ⟨i.toNat, by omega⟩;rw [hn];simp only [chainF, if_neg hne, hb, hpl, hp];rw [chainF_more hpl (p + 1).toNat n b.Parent p (by omega) (by omega) hp]
theorem map_get' {α : Type} {f : α → PV} {l : List α} {i : Int} {a : α} (h : l[i.toNat]? = some a) : (l.map f)[i.toNat]? = some (f a) := by
 simp [h]
theorem Conv.zs' {H : List LObj} {m : Nat} {xs : List PV} (h : xs = []) : Conv true H .zs (.slice m xs) := by subst h; exact Conv.zs
theorem Conv.vecAll' {H : List LObj} {m id n len : Nat} {xs ys : List PV} (hH : H[id]? = some (.vec m xs)) (hn : n = xs.length) (hl : len = xs.length) (h : ys = xs) : Conv true H (.vec m id n 0 len) (.slice m ys) := by
 subst h; exact Conv.vecAll hH hn hl
open Go.Proofs
theorem c94N {l : List Bk} {H : List LObj} (h : places l = none) : LC Tryz.prog 75 [(kB l)] H (Is (.tup [.nilmap, (bQ false)]) H) := by
 have h0 : LC Tryz.prog 75 ([PV.slice 5 (l.map blkP)].map .p) [] (Is (.tup [.nilmap, (bQ false)]) []) := c94.mono fun x H hx => by
  rcases hx with ⟨m, hm, -⟩ | ⟨-, h1, h2⟩
  ·rw [h] at hm; cases hm
  ·exact ⟨h1, h2⟩
 have := LC.frame (H := H) (d := H.length) h0 (.cons Conv.p .nil) (by rw [lenC_of]);simpa [LV.shift, LV.shifts] using this
theorem c94S {l : List Bk} {m : List (ID × Int)} {H H1 H2 : List LObj} {d : Nat} (h : places l = some m) (hd : lenC H = some d) (h1 : appC H (.box [(kB l)]) = some H1) (h2 : appC H1 (.map (entsOf idP ixV m)) = some H2) :
  LC Tryz.prog 75 [(kB l)] H (Is (.tup [.map (d + 1), (bQ true)]) H2) := by
 have h0 : LC Tryz.prog 75 ([PV.slice 5 (l.map blkP)].map .p) [] (Is (.tup [.map 1, (bQ true)]) [.box [(kB l)], .map (entsOf idP ixV m)]) := c94.mono fun x H hx => by
  rcases hx with ⟨m', hm, h1, h2⟩ | ⟨h1, -⟩
  ·rw [h] at hm; cases hm; exact ⟨h1, h2⟩
  ·rw [h] at h1; cases h1
 have := LC.frame (H := H) (d := d) h0 (.cons Conv.p .nil) hd;have e1 := appC_eq h1;have e2 := appC_eq h2;subst e1; subst e2;simpa [LV.shift, LV.shifts, LObj.shift, entsOf, List.append_assoc, Function.comp_def] using this
theorem c39n {l : List Bk} {id : ID} (hpl : places l = none) : LPure Tryz.prog 60 [.slice 5 (l.map blkP), idP id] [.slice 2 ((chainOf l id).map idP)] := by
 refine zh Tryz.func60 Z Z Z Z ?_;refine zQ (zR (yS Z (zbx Z Z Z Z Z) (yS Z (za Z Z) (zN (zT (LW.scope (zQ (zR (yS Z (zm Z Z) (yS Z ((zC Z Z Z (by kernel_rfl) (c94N hpl))) (yS Z (zm Z Z) (yS Z (zX2 Z Z Z) (yS Z (zX2 Z Z Z) (yS Z (za Z Z) (yS Z (za Z Z) (zN (zT (zQ (zQ (zR (yS Z (zm Z Z) (yS Z (zD Z Z Z vt24 Z Z) (yS Z ((LOp.getNil idKey Z Z Z mt91 zl3 Z)) ?_)))))))))))))))))))))));exact yS Z (zm Z Z) (yS Z (zX2 Z Z Z) (yS Z (zX2 Z Z Z) (yS Z (za Z Z) (yS Z (za Z Z) (zN (zT (zQ (zR (yS Z (zm Z Z) (yS Z (LOp.not Z Z) (zN (zT (LW.condT Z (zQ (zR (yS Z (za Z Z) (zN (zT (zr (thn_r (noGo_r (zf (.one (.tmp Z)) (Conv.zs' (by simp [chainOf, hpl]))))))))))))))))))))))))
theorem c39s {l : List Bk} {id : ID} {m : List (ID × Int)} (hl : l.length ≤ 1000) (hpl : places l = some m) : LPure Tryz.prog 60 [.slice 5 (l.map blkP), idP id] [.slice 2 ((chainOf l id).map idP)] := by
 refine zh Tryz.func60 Z Z Z Z ?_;refine zQ (zR (yS Z (zbx Z Z Z Z Z) (yS Z (za Z Z) (zN (zT ?_)))));refine LW.jumpsOf (l := 0) (E := fun x : List ID × ID × Int => [(0, (kB l)), (3, .ptr 0 0), (5, .map 2), (9, .vec 2 3 (x.1.map idP).length 0 (x.1.map idP).length)]) (O := fun x => [.box [(uQ x.2.1.1), (uQ x.2.1.2)], .box [(kB l)], .map (entsOf idP ixV m), .vec 2 (x.1.map idP)]) (G := fun x => findE m x.2.1 = some x.2.2 ∧ x.1.length + (x.2.2 + 1).toNat ≤ 1001 ∧ chainOf l id = x.1 ++ chainF l (x.2.2 + 1).toNat x.2.1 x.2.2) (meas := fun x => (x.2.2 + 1).toNat) Z ?_ (fun x hx => ?_)
 ·
  refine zQ (zR (yS Z (zm Z Z) (yS Z ((zC Z Z Z (by kernel_rfl) (c94S hpl Z Z Z))) (yS Z (zm Z Z) (yS Z (zX2 Z Z Z) (yS Z (zX2 Z Z Z) (yS Z (za Z Z) (yS Z (za Z Z) (zN (zT (zQ (zQ (zR (yS Z (zm Z Z) (yS Z (zD Z Z Z vt24 Z Z) ?_)))))))))))))));rcases hf : findE m id with _ | i
  ·
   refine yS Z ((LOp.getMiss idKey hf Z Z Z Z mt91 zl3 Z)) (yS Z (zm Z Z) (yS Z (zX2 Z Z Z) (yS Z (zX2 Z Z Z) (yS Z (za Z Z) (yS Z (za Z Z) (zN (zT (zQ (zR (yS Z (zm Z Z) (yS Z (LOp.not Z Z) (zN (zT (LW.condT Z (zQ (zR (yS Z (za Z Z) (zN (zT (zr (thn_r (jmp_r (zf (.one (.tmp Z)) ?_)))))))))))))))))))))));refine Conv.zs' ?_;simp [chainOf, hpl, hf]
  ·
   refine yS Z ((LOp.getHit idKey hf Z Z Z Z mt91 Z)) (yS Z (zm Z Z) (yS Z (zX2 Z Z Z) (yS Z (zX2 Z Z Z) (yS Z (za Z Z) (yS Z (za Z Z) (zN (zT (zQ (zR (yS Z (zm Z Z) (yS Z (LOp.not Z Z) (zN (zT (LW.condF Z (zk (zT (zQ (zR (yS Z (za Z Z) (zN (zT (zQ (LW.label ?_)))))))))))))))))))))));refine zT (zQ (zR (yS Z (zm Z Z) (yS Z (zD Z Z Z vt24 Z Z) (yS Z (zB2 Z st31 Z Z Z Z Z) (yS Z (LOp.appendZ Z Z Z Z Src.p st31 (by simp only [List.length_singleton]; omega) Z) (yS Z (za Z Z) (zN (zT (zQ (zQ (zR (yS Z (zm Z Z) (yS Z (zD Z Z Z vt24 Z Z) (yS Z ((LOp.getHit idKey hf Z Z Z Z mt91 Z)) (yS Z (za Z Z) (zN (zT (zQ (zR (yS Z (zm Z Z) (yS Z (zb2 Z Z Z Z) (zN ?_)))))))))))))))))))))));refine zT ?_;refine zX Z (fun g1 => ?_) (fun g1 => ?_)
   ·
    refine zQ ?_
    have hne : i ≠ -1 := by simpa using g1
    obtain ⟨h1, -⟩ | ⟨b, p, h0, hlt, hb, hnb, hp, hpi, hp1, hs⟩ := (places_inv hpl).known _ _ hf
    ·exact absurd h1 hne
    have hc : chainOf l id = id :: chainF l (p + 1).toNat b.Parent p := by
     simp only [chainOf, hpl, hf];exact chainF_step hpl hne h0 hb hp hpi hp1
    refine zR (yS Z (zm Z Z) (yS Z (zm Z Z) (yS Z (LOp.indexAddr Z Z Z st27 (by omega) (map_get' hb) Z) (yS Z (LOp.fieldAddrC Z Z ft42_2 Z) (yS Z (zC2 Z Z Z vt24 Z Z) (yS Z (zs Z Z Z Z vt24 Z Z Z Z) (zN (zT (LW.goto (thn_g (jmp_g ?_)))))))))));refine ⟨([id], b.Parent, p), ?_, zW 4 ⟨rfl, rfl, rfl, rfl, trivial⟩ Z Z Z (zL Z (zL Z (zL (entsLow (fun _ => rfl) _) Z)))⟩
    ·exact ⟨hp, by simp only [List.length_singleton]; omega, hc⟩
   ·
    refine zk (zT (zQ ?_))
    have hend : i = -1 := by simpa using g1
    refine zR (yS Z (zm Z Z) (yS Z (za Z Z) (zN (zT (zr (jmp_r (zf (.one (.tmp Z)) (Conv.vecAll' Z Z Z ?_))))))));rw [show chainOf l id = [id] by simp only [chainOf, hpl, hf, hend]; rfl]; rfl
 ·
  refine zQ (zk (zT (zQ (zR (yS Z (zm Z Z) (yS Z (zD Z Z Z vt24 Z Z) (yS Z (zB2 Z st31 Z Z Z Z Z) (yS Z (LOp.appendM (f := idP) (xs := x.1) (ys := [x.2.1]) Z Z Z Z Z st31 (by simp only [List.length_singleton]; omega) Z) (yS Z (za Z Z) (zN (zT (zQ (zQ (zR (yS Z (zm Z Z) (yS Z (zD Z Z Z vt24 Z Z) (yS Z ((LOp.getHit idKey hx.1 Z Z Z Z mt91 Z)) (yS Z (za Z Z) (zN (zT (zQ (zR (yS Z (zm Z Z) ?_)))))))))))))))))))))));refine yS Z (zb2 Z Z Z Z) (zN (zT ?_));refine zX Z (fun g2 => ?_) (fun g2 => ?_)
  ·
   refine zQ ?_
   have hne : x.2.2 ≠ -1 := by simpa using g2
   obtain ⟨h1, -⟩ | ⟨b, p, h0, hlt, hb, hnb, hp, hpi, hp1, hs⟩ := (places_inv hpl).known _ _ hx.1
   ·exact absurd h1 hne
   have hc := chainF_step (id := x.2.1) hpl hne h0 hb hp hpi hp1;refine zR (yS Z (zm Z Z) (yS Z (zm Z Z) (yS Z (LOp.indexAddr Z Z Z st27 (by omega) (map_get' hb) Z) (yS Z (LOp.fieldAddrC Z Z ft42_2 Z) (yS Z (zC2 Z Z Z vt24 Z Z) (yS Z (zs Z Z Z Z vt24 Z Z Z Z) (zN (zT (LW.goto (thn_g (jmp_g ?_)))))))))));refine ⟨(x.1 ++ [x.2.1], b.Parent, p), ?_, ?_, zW 4 ⟨rfl, rfl, rfl, rfl, trivial⟩ Z Z Z (zL Z (zL Z (zL (entsLow (fun _ => rfl) _) Z)))⟩
   ·simp only; omega
   ·refine ⟨hp, ?_, ?_⟩
    ·have := hx.2.1; simp only [List.length_append, List.length_singleton]; omega
    ·rw [hx.2.2, hc, List.append_assoc]; rfl
  ·
   refine zk (zT (zQ ?_))
   have hend : x.2.2 = -1 := by simpa using g2
   refine zR (yS Z (zm Z Z) (yS Z (za Z Z) (zN (zT (zr (jmp_r (zf (.one (.tmp Z)) (Conv.vecAll' Z Z Z ?_))))))));rw [hx.2.2, hend]; rfl
theorem c39 {l : List Bk} {id : ID} (hl : l.length ≤ 1000) : LPure Tryz.prog 60 [.slice 5 (l.map blkP), idP id] [.slice 2 ((chainOf l id).map idP)] := by
 rcases hpl : places l with _ | m
 ·exact c39n hpl
 ·exact c39s hl hpl
theorem c40 {l : List Bk} {a b : ID} (hl : l.length ≤ 1000) : LPure Tryz.prog 28 [.slice 5 (l.map blkP), idP a, idP b] [.bool (decide (indexOf (chainOf l b) a ≥ 0))] := by
 refine zh Tryz.func28 Z Z Z Z ?_;exact zQ (zR (yS Z (zbx Z Z Z Z Z) (yS Z (zbx Z Z Z Z Z) (yS Z (za Z Z) (zN (zT (zQ (LW.draw2 (by kernel_rfl) (by kernel_rfl) (yE Z (zm Z Z) (yE Z (zD Z Z Z vt24 Z Z) (yE Z (zC Z Z Z (by kernel_rfl) (zp (c39 hl) (.cons zv (.cons zv .nil)))) (yE Z (zD Z Z Z vt24 Z Z) (yE Z (zC Z Z Z (by kernel_rfl) (zp c95 (.cons zv (.cons zv .nil)))) (yE Z (za Z Z) (LO.nil (zT (zr (zf (.one (.tmp Z)) zv))))))))))))))))))
open Go.Proofs
def moveOf (c : Cu) (l : List Bk) (head found : ID) (is : Bool) (slot : Int) : Cu :=
 let c' : Cu := if indexOf (chainOf l head) c.ID < 0 then ⟨(0, 0), slot, IntKind.i64.wrap (c.Revoked + 1)⟩ else c
 let at_ : Int := if indexOf (chainOf l head) c.ID < 0 then IntKind.i64.wrap ((chainOf l head).length - 1) else indexOf (chainOf l head) c.ID
 if is = true ∧ indexOf (chainOf l head) found ≥ 0 ∧ indexOf (chainOf l head) found < at_ then ⟨found, slot, c'.Revoked⟩ else c'
theorem c37 {c : Cu} {l : List Bk} {head found : ID} {is : Bool} {slot : Int} (hl : l.length ≤ 1000) : LPure Tryz.prog 140 [curP c, .slice 5 (l.map blkP), idP head, idP found, .bool is, .int .i64 slot] [curP (moveOf c l head found is slot)] := by
 refine zh Tryz.func140 Z Z Z Z ?_;refine LW.seq (LW.region (LOps.st Z Z Z (LOp.box Z Z Z Z Z) (LOps.st Z Z Z (LOp.box Z Z Z Z Z) (LOps.st Z Z Z (LOp.box Z Z Z Z Z) (LOps.st Z Z Z (LOp.alloc Z zt26 Z Z) (LOps.nil (thn_n (LW.seq (LW.region (LOps.st Z Z Z (LOp.move Z Z) (LOps.st Z Z Z (LOp.load Z Z Z vt24 Z Z) (LOps.st Z Z Z (LOp.call Z Z Z (by kernel_rfl) (LC.pure (c39 hl) (.cons Conv.p (.cons Conv.p .nil)))) (LOps.st Z Z Z (LOp.assign Z Z) (LOps.nil (thn_n (LW.seq (LW.region (LOps.st Z Z Z (LOp.move Z Z) (LOps.st Z Z Z (LOp.fieldAddr Z Z ft26_0) (LOps.st Z Z Z (LOp.load Z Z Z vt24 Z Z) (LOps.st Z Z Z (LOp.call Z Z Z (by kernel_rfl) (LC.pure c93 (.cons Conv.p (.cons Conv.p .nil)))) (LOps.st Z Z Z (LOp.assign Z Z) (LOps.nil ?_)))))))))))))))))))))));refine thn_n (LW.seq (LW.block (LW.seq (LW.block (LW.seq (LW.block (LW.seq (LW.seq (LW.region (LOps.st Z Z Z (LOp.move Z Z) (LOps.st Z Z Z (LOp.bin Z Z Z Z) (LOps.st Z Z Z (LOp.assign Z Z) (LOps.nil (thn_n ?_))))))))))))));refine LW.cond Z (fun g1 => ?_) (fun g1 => ?_)
 ·
  refine LW.exit (thn_e (inBlk_self (thn_n (LW.seq (LW.region (LOps.st Z Z Z (LOp.move Z Z) (LOps.st Z Z Z (LOp.fieldAddr Z Z ft26_2) (LOps.st Z Z Z (LOp.load Z Z Z vt3 Z Z) (LOps.st Z Z Z (LOp.bin Z Z Z Z) (LOps.st Z Z Z (LOp.build Z bt26 Z Z Z) (LOps.st Z Z Z (LOp.store Z Z Z Z vt26 Z Z Z Z) (LOps.nil (thn_n (LW.region (LOps.st Z Z Z (LOp.move Z Z) (LOps.st Z Z Z (LOp.len Z Z (by kernel_rfl)) (LOps.st Z Z Z (LOp.bin Z Z Z Z) (LOps.st Z Z Z (LOp.assign Z Z) (LOps.nil (inBlk_n (thn_n (LW.seq (LW.seq ?_)))))))))))))))))))))));refine LW.region (LOps.st Z Z Z (LOp.move Z Z) (LOps.st Z Z Z (LOp.load Z Z Z vt24 Z Z) (LOps.st Z Z Z (LOp.call Z Z Z (by kernel_rfl) (LC.pure c93 (.cons Conv.p (.cons Conv.p .nil)))) (LOps.st Z Z Z (LOp.assign Z Z) (LOps.nil (thn_n (LW.seq (LW.region (LOps.st Z Z Z (LOp.move Z Z) (LOps.st Z Z Z (LOp.move Z Z) ?_))))))))));refine zc 38 Z (fun g2 => ?_) (fun g2 => ?_)
  ·
   refine LOps.gd Z Z Z (gd g2 Z) Z (LOp.move Z Z) (LOps.gd Z Z Z (gd g2 Z) Z (LOp.bin Z Z Z Z) (LOps.st Z Z Z (LOp.pickT Z (gdl g2 Z) Z) (LOps.st Z Z Z (LOp.move Z Z) ?_)));refine zc 42 Z (fun g3 => ?_) (fun g3 => ?_)
   ·
    refine LOps.gd Z Z Z (gd g3 Z) Z (LOp.move Z Z) (LOps.gd Z Z Z (gd g3 Z) Z (LOp.move Z Z) (LOps.gd Z Z Z (gd g3 Z) Z (LOp.bin Z Z Z Z) (LOps.st Z Z Z (LOp.pickT Z (gdl g3 Z) Z) (LOps.nil (thn_n ?_)))));refine LW.cond Z (fun g4 => ?_) (fun g4 => ?_)
    ·
     refine LW.region (LOps.st Z Z Z (LOp.load Z Z Z vt24 Z Z) (LOps.st Z Z Z (zm Z Z) (LOps.st Z Z Z (LOp.fieldAddr Z Z ft26_0) (LOps.st Z Z Z (zs Z Z Z Z vt24 Z Z Z Z) (LOps.st Z Z Z (LOp.fieldAddr Z Z ft26_1) (LOps.st Z Z Z (zs Z Z Z Z vt3 Z Z Z Z) (LOps.nil (thn_n (zq (zy (thn_n (LW.seq (LW.region (LOps.st Z Z Z (LOp.load Z Z Z vt26 Z Z) (LOps.st Z Z Z (zs Z Z Z Z vt26 Z Z Z Z) (LOps.nil (thn_n (zr (zf (.one (.cellAgg Z Z (by kernel_rfl) Z)) (Conv.pe ?_))))))))))))))))))));simp only [decide_eq_true_eq, List.length_map] at g1 g2 g3 g4;simp only [moveOf, curP]
     (repeat' split) <;> first | rfl | (exfalso; simp_all; done) | (exfalso; simp_all; omega)
    ·
     refine zk (thn_n (zq (zy (thn_n (LW.seq (LW.region (LOps.st Z Z Z (LOp.load Z Z Z vt26 Z Z) (LOps.st Z Z Z (zs Z Z Z Z vt26 Z Z Z Z) (LOps.nil (thn_n (zr (zf (.one (.cellAgg Z Z (by kernel_rfl) Z)) (Conv.pe ?_)))))))))))));simp only [decide_eq_true_eq, decide_eq_false_iff_not, List.length_map] at g1 g2 g3 g4;simp only [moveOf, curP]
     (repeat' split) <;> first | rfl | (exfalso; simp_all; done) | (exfalso; simp_all; omega)
   ·
    refine LOps.sk Z Z Z (gd g3 Z) Z Z (LOps.sk Z Z Z (gd g3 Z) Z Z (LOps.sk Z Z Z (gd g3 Z) Z Z (LOps.st Z Z Z (zpF Z (gdl g3 Z) Z) (LOps.nil (thn_n (LW.condF Z (zk (thn_n (zq (zy (thn_n (LW.seq (LW.region (LOps.st Z Z Z (LOp.load Z Z Z vt26 Z Z) (LOps.st Z Z Z (zs Z Z Z Z vt26 Z Z Z Z) (LOps.nil (thn_n (zr (zf (.one (.cellAgg Z Z (by kernel_rfl) Z)) (Conv.pe ?_))))))))))))))))))));simp only [decide_eq_true_eq, decide_eq_false_iff_not] at g1 g2 g3;simp only [moveOf, curP]
    (repeat' split) <;> first | rfl | (exfalso; simp_all; done) | (exfalso; simp_all; omega)
  ·
   refine LOps.sk Z Z Z (gd g2 Z) Z Z (LOps.sk Z Z Z (gd g2 Z) Z Z (LOps.st Z Z Z (zpF Z (gdl g2 Z) Z) (LOps.st Z Z Z (zm Z Z) (LOps.sk Z Z Z Z Z Z (LOps.sk Z Z Z Z Z Z (LOps.sk Z Z Z Z Z Z (LOps.st Z Z Z (zpF Z Z Z) (LOps.nil (thn_n (LW.condF Z (zk (thn_n (zq (zy (thn_n (LW.seq (LW.region (LOps.st Z Z Z (LOp.load Z Z Z vt26 Z Z) (LOps.st Z Z Z (zs Z Z Z Z vt26 Z Z Z Z) (LOps.nil (thn_n (zr (zf (.one (.cellAgg Z Z (by kernel_rfl) Z)) ?_)))))))))))))))))))))));refine Conv.pe ?_;simp only [decide_eq_true_eq] at g1 g2;simp only [moveOf, curP]
   (repeat' split) <;> first | rfl | (exfalso; simp_all; done) | (exfalso; simp_all; omega)
 ·
  refine LW.skip (thn_n (LW.exit (inBlk_other (by decide) (thn_e (inBlk_self (thn_n (LW.seq (LW.seq (LW.region (LOps.st Z Z Z (LOp.move Z Z) (LOps.st Z Z Z (LOp.load Z Z Z vt24 Z Z) (LOps.st Z Z Z (LOp.call Z Z Z (by kernel_rfl) (LC.pure c93 (.cons Conv.p (.cons Conv.p .nil)))) (LOps.st Z Z Z (LOp.assign Z Z) (LOps.nil (thn_n (LW.seq (LW.region (LOps.st Z Z Z (LOp.move Z Z) (LOps.st Z Z Z (LOp.move Z Z) ?_)))))))))))))))))));refine zc 38 Z (fun g5 => ?_) (fun g5 => ?_)
  ·
   refine LOps.gd Z Z Z (gd g5 Z) Z (LOp.move Z Z) (LOps.gd Z Z Z (gd g5 Z) Z (LOp.bin Z Z Z Z) (LOps.st Z Z Z (LOp.pickT Z (gdl g5 Z) Z) (LOps.st Z Z Z (LOp.move Z Z) ?_)));refine zc 42 Z (fun g6 => ?_) (fun g6 => ?_)
   ·
    refine LOps.gd Z Z Z (gd g6 Z) Z (LOp.move Z Z) (LOps.gd Z Z Z (gd g6 Z) Z (LOp.move Z Z) (LOps.gd Z Z Z (gd g6 Z) Z (LOp.bin Z Z Z Z) (LOps.st Z Z Z (LOp.pickT Z (gdl g6 Z) Z) (LOps.nil (thn_n ?_)))));refine LW.cond Z (fun g7 => ?_) (fun g7 => ?_)
    ·
     refine LW.region (LOps.st Z Z Z (LOp.load Z Z Z vt24 Z Z) (LOps.st Z Z Z (zm Z Z) (LOps.st Z Z Z (LOp.fieldAddr Z Z ft26_0) (LOps.st Z Z Z (zs Z Z Z Z vt24 Z Z Z Z) (LOps.st Z Z Z (LOp.fieldAddr Z Z ft26_1) (LOps.st Z Z Z (zs Z Z Z Z vt3 Z Z Z Z) (LOps.nil (thn_n (zq (zy (thn_n (LW.seq (LW.region (LOps.st Z Z Z (LOp.load Z Z Z vt26 Z Z) (LOps.st Z Z Z (zs Z Z Z Z vt26 Z Z Z Z) (LOps.nil (thn_n (zr (zf (.one (.cellAgg Z Z (by kernel_rfl) Z)) (Conv.pe ?_))))))))))))))))))));simp only [decide_eq_true_eq, decide_eq_false_iff_not] at g1 g5 g6 g7;simp only [moveOf, curP]
     (repeat' split) <;> first | rfl | (exfalso; simp_all; done) | (exfalso; simp_all; omega)
    ·
     refine zk (thn_n (zq (zy (thn_n (LW.seq (LW.region (LOps.st Z Z Z (LOp.load Z Z Z vt26 Z Z) (LOps.st Z Z Z (zs Z Z Z Z vt26 Z Z Z Z) (LOps.nil (thn_n (zr (zf (.one (.cellAgg Z Z (by kernel_rfl) Z)) (Conv.pe ?_)))))))))))));simp only [decide_eq_true_eq, decide_eq_false_iff_not] at g1 g5 g6 g7;simp only [moveOf, curP]
     (repeat' split) <;> first | rfl | (exfalso; simp_all; done) | (exfalso; simp_all; omega)
   ·
    refine LOps.sk Z Z Z (gd g6 Z) Z Z (LOps.sk Z Z Z (gd g6 Z) Z Z (LOps.sk Z Z Z (gd g6 Z) Z Z (LOps.st Z Z Z (zpF Z (gdl g6 Z) Z) (LOps.nil (thn_n (LW.condF Z (zk (thn_n (zq (zy (thn_n (LW.seq (LW.region (LOps.st Z Z Z (LOp.load Z Z Z vt26 Z Z) (LOps.st Z Z Z (zs Z Z Z Z vt26 Z Z Z Z) (LOps.nil (thn_n (zr (zf (.one (.cellAgg Z Z (by kernel_rfl) Z)) (Conv.pe ?_))))))))))))))))))));simp only [decide_eq_false_iff_not] at g1 g5 g6;simp only [moveOf, curP]
    (repeat' split) <;> first | rfl | (exfalso; simp_all; done) | (exfalso; simp_all; omega)
  ·
   refine LOps.sk Z Z Z (gd g5 Z) Z Z (LOps.sk Z Z Z (gd g5 Z) Z Z (LOps.st Z Z Z (zpF Z (gdl g5 Z) Z) (LOps.st Z Z Z (zm Z Z) (LOps.sk Z Z Z Z Z Z (LOps.sk Z Z Z Z Z Z (LOps.sk Z Z Z Z Z Z (LOps.st Z Z Z (zpF Z Z Z) (LOps.nil (thn_n (LW.condF Z (zk (thn_n (zq (zy (thn_n (LW.seq (LW.region (LOps.st Z Z Z (LOp.load Z Z Z vt26 Z Z) (LOps.st Z Z Z (zs Z Z Z Z vt26 Z Z Z Z) (LOps.nil (thn_n (zr (zf (.one (.cellAgg Z Z (by kernel_rfl) Z)) ?_)))))))))))))))))))))));refine Conv.pe ?_;simp only [decide_eq_false_iff_not] at g1 g5;simp only [moveOf, curP]
   (repeat' split) <;> first | rfl | (exfalso; simp_all; done) | (exfalso; simp_all; omega)
theorem indexOf_lt {l : List ID} {v : ID} : indexOf l v = -1 ∧ v ∉ l ∨ ∃ i : Nat, indexOf l v = i ∧ l[i]? = some v ∧ ∀ j, j < i → l[j]? ≠ some v := by
 unfold indexOf
 cases h : l.findIdx? (fun x => decide (v = x)) with
 | none =>
  left;rw [List.findIdx?_eq_none_iff] at h;exact ⟨rfl, fun hm => by simpa using h v hm⟩
 | some i =>
  right;rw [List.findIdx?_eq_some_iff_getElem] at h;obtain ⟨hi, h1, h2⟩ := h;refine ⟨i, rfl, by rw [List.getElem?_eq_getElem hi]; simpa using (of_decide_eq_true h1).symm, fun j hj hc => ?_⟩;have := h2 j hj;rw [List.getElem?_eq_getElem (by omega)] at hc;simp at hc this;exact this hc.symm
theorem indexOf_mem {l : List ID} {v : ID} : 0 ≤ indexOf l v ↔ v ∈ l := by
 rcases indexOf_lt (l := l) (v := v) with ⟨h1, h2⟩ | ⟨i, h1, h2, h3⟩
 ·rw [h1]; constructor
  ·intro h; omega
  ·intro h; exact absurd h h2
 ·rw [h1]; exact ⟨fun _ => List.mem_of_getElem? h2, fun _ => by omega⟩
section
variable {l : List Bk} {m : List (ID × Int)}
theorem chainF_len (n : Nat) : ∀ (id : ID) (i : Int), (chainF l n id i).length ≤ n + 1 := by
 induction n with
 | zero => intro id i; simp [chainF]
 | succ n ih =>
  intro id i;simp only [chainF];split
  ·simp
  ·split
   ·simp
   ·split
    ·simp
    ·split
     ·simp
     ·simp; exact ih _ _
theorem chain_len (id : ID) : (chainOf l id).length ≤ l.length + 1 := by
 unfold chainOf;split
 ·simp
 ·rename_i m hpl;split
  ·simp
  ·rename_i i hf;have := chainF_len (l := l) (i + 1).toNat id i;rcases (places_inv hpl).known _ _ hf with ⟨h, h'⟩ | ⟨b, p, h0, h1, h2, h3, h4, h5, h6, h7⟩
   ·rw [h] at this ⊢; simp at this ⊢; omega
   ·omega
end
theorem isInt {k : IntKind} {p : PV} (h : TIs (.int k) p) : ∃ n, p = .int k n ∧ InKind k n := by
 cases h with | int h => exact ⟨_, rfl, h⟩
open Go.Proofs
theorem nth_setC {α : Type} : ∀ {l s : List α} {i : Nat} {y : α}, setC l i y = some s → nth s i = some y
 | x :: r, s, 0, y, h => by cases h; rfl
 | x :: r, s, i + 1, y, h => by
  simp only [setC] at h;split at h
  ·rename_i q hq;cases h;show nth q i = some y;exact nth_setC hq
  ·cases h
 | [], s, 0, y, h => by cases h
 | [], s, i + 1, y, h => by cases h
theorem xm145 : (Tryz.f166.name == "runtime.NumGoroutine") = false := by kernel_rfl
theorem xn145 : Extern.findNext Tryz.f166 = none := by kernel_rfl
theorem xe145 : Extern.find Tryz.f166 = some (Extern.Atomic.loadT (.int .i64)) := by kernel_rfl
theorem xm174 : (Tryz.f201.name == "runtime.NumGoroutine") = false := by kernel_rfl
theorem xn174 : Extern.findNext Tryz.f201 = none := by kernel_rfl
theorem xe174 : Extern.find Tryz.f201 = some (Extern.Atomic.update (Op.intArith .add) .i64 true) := by kernel_rfl
theorem xm176 : (Tryz.f212.name == "runtime.NumGoroutine") = false := by kernel_rfl
theorem xn176 : Extern.findNext Tryz.f212 = none := by kernel_rfl
theorem xe176 : Extern.find Tryz.f212 = some (Extern.Atomic.loadT (.int .u32)) := by kernel_rfl
theorem xm182 : (Tryz.f223.name == "runtime.NumGoroutine") = false := by kernel_rfl
theorem xn182 : Extern.findNext Tryz.f223 = none := by kernel_rfl
theorem xe182 : Extern.find Tryz.f223 = some (Extern.Atomic.storeT) := by kernel_rfl
theorem xm184 : (Tryz.f226.name == "runtime.NumGoroutine") = false := by kernel_rfl
theorem xn184 : Extern.findNext Tryz.f226 = none := by kernel_rfl
theorem xe184 : Extern.find Tryz.f226 = some (fun _ => do mark .disable; pure Extern.Race.none_) := by kernel_rfl
theorem xm185 : (Tryz.f227.name == "runtime.NumGoroutine") = false := by kernel_rfl
theorem xn185 : Extern.findNext Tryz.f227 = none := by kernel_rfl
theorem xe185 : Extern.find Tryz.f227 = some (Extern.Atomic.casT (.int .i32)) := by kernel_rfl
theorem xm186 : (Tryz.f228.name == "runtime.NumGoroutine") = false := by kernel_rfl
theorem xn186 : Extern.findNext Tryz.f228 = none := by kernel_rfl
theorem xe186 : Extern.find Tryz.f228 = some (fun _ => do mark .enable; pure Extern.Race.none_) := by kernel_rfl
theorem xm187 : (Tryz.f229.name == "runtime.NumGoroutine") = false := by kernel_rfl
theorem xn187 : Extern.findNext Tryz.f229 = none := by kernel_rfl
theorem xe187 : Extern.find Tryz.f229 = some (Extern.Race.marked .acquire) := by kernel_rfl
theorem xm189 : (Tryz.f231.name == "runtime.NumGoroutine") = false := by kernel_rfl
theorem xn189 : Extern.findNext Tryz.f231 = none := by kernel_rfl
theorem xe189 : Extern.find Tryz.f231 = some (Extern.Race.marked .releaseMerge) := by kernel_rfl
theorem xm190 : (Tryz.f232.name == "runtime.NumGoroutine") = false := by kernel_rfl
theorem xn190 : Extern.findNext Tryz.f232 = none := by kernel_rfl
theorem xe190 : Extern.find Tryz.f232 = some (Extern.Atomic.update (Op.intArith .add) .i32 true) := by kernel_rfl
theorem pconv : ptrConv Tryz.prog 291 295 = true := by kernel_rfl
theorem c172 {off : Nat} {n : Int} {cs : List LV} {H : List LObj} (hH : nth H 0 = some (.box cs)) (h0 : nth cs (off + 0) = some (.p (.int .u32 n))) : LC Tryz.prog 199 [.ptr 0 off] H (Is (.p (.bool (n != 0))) H) := by
 refine zh2 Tryz.func199 Z Z Z ?_;refine zQ (zR (zM Z (zN (zT (zQ (zR (zM Z (yS Z (zn Z Z) (yS Z (zA Z Z ft106_1) ?_)))))))));refine yS Z (LOp.atomLoad (P := Tryz.prog) (f := 212) (fn := Tryz.f212) Z Z Z Tryz.func212 Z xm176 xn176 xe176 hH h0) ?_;exact yS Z (zb2 Z Z Z Z) (zM Z (zN (zT (zr (fin_ret (.one (.tmp Z)) (⟨rfl, rfl⟩))))))
theorem c183 : LPure Tryz.prog 224 [.bool true] [.int .u32 1] := by
 refine zh Tryz.func224 Z Z Z Z ?_;exact zQ (zR (zM Z (zN (zT (zQ (zQ (zR (zM Z (zN (zT (LW.condT Z (zQ (zR (zM Z (zN (zT (zr (thn_r (zf (.one (.tmp Z)) zv)))))))))))))))))))
theorem c179d {off : Nat} {cs cs' : List LV} {H H' : List LObj} (hH : nth H 0 = some (.box cs)) (hc : setC cs (off + 0) (.p (.int .u32 1)) = some cs') (hH' : setC H 0 (.box cs') = some H') : LCd Tryz.prog 215 [.ptr 0 off, (bQ true)] H H' := by
 refine LCd.start (by kernel_rfl) Tryz.func215 Z Z Z (R := Is (.tup []) H') (fun _ _ h => h.2) ?_;refine LW.drawW (by kernel_rfl) (by kernel_rfl) (zK Z ?_);refine yF (F := []) (s := none) Z (fun H _ => zn Z Z) Z ?_;refine yF (F := []) (s := none) Z (fun H _ => zA Z Z ft106_1) Z ?_;refine zK Z ?_;refine yF (F := []) (s := none) Z (fun H _ => zC Z Z Z (by kernel_rfl) (zp c183 (.cons zv .nil))) Z ?_;refine yF Z (LAt.atomStore (P := Tryz.prog) (f := 223) (fn := Tryz.f223) Z Z Z Tryz.func223 Z xm182 xn182 xe182 Z hH hc) hH' ?_;refine LF.nil ⟨by kernel_rfl, ?_⟩;exact fin_end .none (⟨rfl, rfl⟩)
theorem c180 {off : Nat} {cs cs' : List LV} {H H' : List LObj} (hH : nth H 0 = some (.box cs)) (h0 : nth cs (off + 0) = some (.p (.int .i32 0))) (hc : setC cs (off + 0) (.p (.int .i32 1)) = some cs') (hH' : setC H 0 (.box cs') = some H') (hb : Nat.blt off cs'.length = true) : LC Tryz.prog 221 [.ptr 0 off] H (Is (.tup []) H') := by
 refine zh2 Tryz.func221 Z Z Z ?_;refine zQ (zR ?_);refine yS Z (LOp.mark0 (P := Tryz.prog) (f := 226) (fn := Tryz.f226) Z Z Z Tryz.func226 Z xm184 xn184 xe184 ) ?_;refine zN (zT (zQ (zQ (zR (zM Z (yS Z (zn Z Z) (yS Z (zA Z Z ft108_0) ?_)))))));refine yS Z (LOp.atomCas (P := Tryz.prog) (f := 227) (fn := Tryz.f227) Z Z Z Tryz.func227 Z xm185 xn185 xe185 hH h0 hc hH') ?_;refine zN (zT (LW.condT Z (zQ (LW.condT Z (zQ (zR ?_))))));refine yS Z (LOp.mark0 (P := Tryz.prog) (f := 228) (fn := Tryz.f228) Z Z Z Tryz.func228 Z xm186 xn186 xe186 ) ?_;refine zN (zT (zR (zM Z (yS Z (LOp.convPtr Z Z (nth_setC hH' ) hb pconv) ?_))));refine yS Z (LOp.markP (P := Tryz.prog) (f := 229) (fn := Tryz.f229) Z Z Z Tryz.func229 Z xm187 xn187 xe187 ) ?_;exact zN (zT (zr (thn_r (fin_ret .none (⟨rfl, rfl⟩)))))
theorem c177 {off : Nat} {cs cs' : List LV} {H H' : List LObj} (hH : nth H 0 = some (.box cs)) (h0 : nth cs (off + 0 + 0) = some (.p (.int .i32 0))) (hc : setC cs (off + 0 + 0) (.p (.int .i32 1)) = some cs') (hH' : setC H 0 (.box cs') = some H') (hb : Nat.blt (off + 0) cs'.length = true) : LC Tryz.prog 213 [.ptr 0 off] H (Is (.tup []) H') := by
 refine zh2 Tryz.func213 Z Z Z ?_;exact zR (zM Z (yS Z (zn Z Z) (yS Z (zA Z Z ft110_1) (yS Z (zC Z Z Z (by kernel_rfl) (c180 hH h0 hc hH' hb)) (zN (fin_end .none (⟨rfl, rfl⟩)))))))
theorem c181 {off : Nat} {cs cs' : List LV} {H H' : List LObj} (hH : nth H 0 = some (.box cs)) (h0 : nth cs (off + 0) = some (.p (.int .i32 1))) (hb : Nat.blt off cs.length = true) (hc : setC cs (off + 0) (.p (.int .i32 0)) = some cs') (hH' : setC H 0 (.box cs') = some H') : LC Tryz.prog 222 [.ptr 0 off] H (Is (.tup []) H') := by
 refine zh2 Tryz.func222 Z Z Z ?_;refine zQ (LW.condT Z (zQ (zR (zM Z (yS Z (zn Z Z) (yS Z (zA Z Z ft108_0) (yS Z (LOp.load1 Z Z hH vt21 h0) (zN (zT (zQ (zR (zM Z (yS Z (LOp.convPtr Z Z hH hb pconv) ?_)))))))))))));refine yS Z (LOp.markP (P := Tryz.prog) (f := 231) (fn := Tryz.f231) Z Z Z Tryz.func231 Z xm189 xn189 xe189 ) ?_;refine zN (zT (zR ?_));refine yS Z (LOp.mark0 (P := Tryz.prog) (f := 226) (fn := Tryz.f226) Z Z Z Tryz.func226 Z xm184 xn184 xe184 ) ?_;refine zN (zT (zQ (zR (zM Z (yS Z (zn Z Z) (yS Z (zA Z Z ft108_0) ?_))))));refine yS Z (LOp.atomAdd (P := Tryz.prog) (f := 232) (fn := Tryz.f232) Z Z Z Tryz.func232 Z xm190 xn190 xe190 hH h0 hc hH') ?_;refine zM Z (zN (zT (zQ (zQ (zR (zM Z (yS Z (zb2 Z Z Z Z) (zN (zT (LW.condF Z (zk (zT (zR ?_)))))))))))));refine yS Z (LOp.mark0 (P := Tryz.prog) (f := 228) (fn := Tryz.f228) Z Z Z Tryz.func228 Z xm186 xn186 xe186 ) ?_;exact zN (fin_end .none (⟨rfl, rfl⟩))
theorem c178d {off : Nat} {cs cs' : List LV} {H H' : List LObj} (hH : nth H 0 = some (.box cs)) (h0 : nth cs (off + 0 + 0) = some (.p (.int .i32 1))) (hb : Nat.blt (off + 0) cs.length = true) (hc : setC cs (off + 0 + 0) (.p (.int .i32 0)) = some cs') (hH' : setC H 0 (.box cs') = some H') : LCd Tryz.prog 214 [.ptr 0 off] H H' := by
 refine LCd.start (by kernel_rfl) Tryz.func214 Z Z Z (R := Is (.tup []) H') (fun _ _ h => h.2) ?_;exact zR (zM Z (yS Z (zn Z Z) (yS Z (zA Z Z ft110_1) (yS Z (zC Z Z Z (by kernel_rfl) (c181 hH h0 hb hc hH')) (zN (fin_end .none (⟨rfl, rfl⟩)))))))
theorem c166 {off : Nat} {n m : Int} {cs cs' : List LV} {H H' : List LObj} (hH : nth H 0 = some (.box cs)) (h0 : nth cs (off + 0) = some (iQ n)) (hc : setC cs (off + 0) (.p (.int .i64 (IntKind.i64.wrap (n + m)))) = some cs') (hH' : setC H 0 (.box cs') = some H') : LC Tryz.prog 195 [.ptr 0 off, (iQ m)] H (Is (.p (.int .i64 (IntKind.i64.wrap (n + m)))) H') := by
 refine zh2 Tryz.func195 Z Z Z ?_;refine zQ (zR (zM Z (zN (zT (zQ (zR (zM Z (yS Z (zn Z Z) (yS Z (zA Z Z ft118_2) (zM Z ?_))))))))));refine yS Z (LOp.atomAdd (P := Tryz.prog) (f := 201) (fn := Tryz.f201) Z Z Z Tryz.func201 Z xm174 xn174 xe174 hH h0 hc hH') ?_;exact zM Z (zN (zT (zr (fin_ret (.one (.tmp Z)) (⟨rfl, rfl⟩)))))
theorem c106 {off : Nat} {n : Int} {cs : List LV} {H : List LObj} (hH : nth H 0 = some (.box cs)) (h0 : nth cs (off + 0) = some (iQ n)) : LC Tryz.prog 143 [.ptr 0 off] H (Is (iQ n) H) := by
 refine zh2 Tryz.func143 Z Z Z ?_;refine zQ (zR (zM Z (zN (zT (zQ (zR (zM Z (yS Z (zn Z Z) (yS Z (zA Z Z ft118_2) ?_)))))))));refine yS Z (LOp.atomLoad (P := Tryz.prog) (f := 166) (fn := Tryz.f166) Z Z Z Tryz.func166 Z xm145 xn145 xe145 hH h0) ?_;exact zM Z (zN (zT (zr (fin_ret (.one (.tmp Z)) (⟨rfl, rfl⟩)))))
open Go.Proofs
def pivotOf (seed n r : Int) : Int := IntKind.i64.wrap ((step seed (IntKind.u64.wrap r)).tmod (IntKind.u64.wrap n))
def signOf (seed r : Int) : Int := step seed (IntKind.u64.wrap (IntKind.i64.wrap (1000 + r)))
theorem c165 {cs cs1 cs2 : List LV} {seed n r : Int} {q : Nat} (hs : nth cs (0 + 0) = some (uQ seed)) (hn : nth cs (0 + 1) = some (iQ n)) (hz : IntKind.u64.wrap n ≠ 0)
  (hs1 : nth cs1 (0 + 0) = some (uQ seed)) (hc1 : setC cs (q + 3) (.p (.int .i64 (pivotOf seed n r))) = some cs1) (hc2 : setC cs1 (q + 4) (.p (.int .u64 (signOf seed r))) = some cs2) :
  LC Tryz.prog 194 [.ptr 1 0, .ptr 2 0, .ptr 3 0] [.box cs, .box [.ptr 0 0], .box [(iQ r)], .box [.ptr 0 q]] (Is (.tup []) [.box cs2, .box [.ptr 0 0], .box [(iQ r)], .box [.ptr 0 q]]) := by
 refine zh2 Tryz.func194 Z Z Z ?_;refine zQ (LW.drawW (by kernel_rfl) (by kernel_rfl) (yF Z (zd Z Z Z vt160 Z Z) Z (yF Z (zd Z Z Z vt100 Z Z) Z ?_)));refine yF (F := []) (s := none) Z (fun H _ => zn Z Z) Z ?_;refine yF (F := []) (s := none) Z (fun H _ => zA Z Z ft120_0) Z ?_;refine yF Z (LAt.load1 Z Z Z vt22 hs) Z (yF Z (zd Z Z Z vt3 Z Z) Z ?_);refine yF (F := []) (s := none) Z (fun H _ => LOp.convert (k' := .u64) Z Z (by kernel_rfl)) Z ?_;refine yF (F := []) (s := none) Z (fun H _ => zC Z Z Z (by kernel_rfl) (zp (c108 (h := seed) (x := (IntKind.u64.wrap (r)))) (.cons zv (.cons zv .nil)))) Z ?_;refine yF Z (zd Z Z Z vt100 Z Z) Z ?_;refine yF (F := []) (s := none) Z (fun H _ => zn Z Z) Z ?_;refine yF (F := []) (s := none) Z (fun H _ => zA Z Z ft120_1) Z ?_;refine yF Z (LAt.load1 Z Z Z vt3 hn) Z ?_;refine yF (F := []) (s := none) Z (fun H _ => LOp.convert (k' := .u64) Z Z (by kernel_rfl)) Z ?_;refine yF (F := []) (s := none) Z (fun H _ => LOp.rem Z Z Z hz) Z ?_;refine yF (F := []) (s := none) Z (fun H _ => LOp.convert (k' := .i64) Z Z (by kernel_rfl)) Z ?_;refine yF (F := []) (s := none) Z (fun H _ => zn Z Z) Z ?_;refine yF (F := []) (s := none) Z (fun H _ => zA Z Z ft114_1) Z ?_;refine yF Z (LAt.store1 Z Z Z Z vt3 Z hc1) Z ?_;refine LF.nil ⟨by kernel_rfl, ?_⟩;refine zT (LW.drawW (by kernel_rfl) (by kernel_rfl) (yF Z (zd Z Z Z vt160 Z Z) Z (yF Z (zd Z Z Z vt100 Z Z) Z ?_)));refine yF (F := []) (s := none) Z (fun H _ => zn Z Z) Z ?_;refine yF (F := []) (s := none) Z (fun H _ => zA Z Z ft120_0) Z ?_;refine yF Z (LAt.load1 Z Z Z vt22 hs1) Z (yF Z (zd Z Z Z vt3 Z Z) Z ?_);refine yF (F := []) (s := none) Z (fun H _ => zb2 Z Z Z Z) Z ?_;refine yF (F := []) (s := none) Z (fun H _ => LOp.convert (k' := .u64) Z Z (by kernel_rfl)) Z ?_;refine yF (F := []) (s := none) Z (fun H _ => zC Z Z Z (by kernel_rfl) (zp (c108 (h := seed) (x := (IntKind.u64.wrap (IntKind.i64.wrap (1000 + r))))) (.cons zv (.cons zv .nil)))) Z ?_;refine yF (F := []) (s := none) Z (fun H _ => zn Z Z) Z ?_;refine yF (F := []) (s := none) Z (fun H _ => zA Z Z ft114_2) Z ?_;refine yF Z (LAt.store1 Z Z Z Z vt22 Z hc2) Z ?_;refine LF.nil ⟨by kernel_rfl, ?_⟩;exact fin_end .none (⟨rfl, rfl⟩)
abbrev onceF : LV := .fn 194 [] [.ptr 1 0, .ptr 2 0, .ptr 3 0]
theorem c173 {cs csA cs1 cs2 csD csE : List LV} {seed n r : Int} {q : Nat} (hm : nth cs (q + 0 + 1 + 0 + 0) = some (.p (.int .i32 0))) (hA : setC cs (q + 0 + 1 + 0 + 0) (.p (.int .i32 1)) = some csA) (hAb : Nat.blt (q + 0 + 1 + 0) csA.length = true)
  (hd : nth csA (q + 0 + 0 + 0) = some (.p (.int .u32 0))) (hs : nth csA (0 + 0) = some (uQ seed)) (hn : nth csA (0 + 1) = some (iQ n)) (hz : IntKind.u64.wrap n ≠ 0)
  (hs1 : nth cs1 (0 + 0) = some (uQ seed)) (hc1 : setC csA (q + 3) (.p (.int .i64 (pivotOf seed n r))) = some cs1) (hc2 : setC cs1 (q + 4) (.p (.int .u64 (signOf seed r))) = some cs2)
  (hD : setC cs2 (q + 0 + 0 + 0) (.p (.int .u32 1)) = some csD) (hDm : nth csD (q + 0 + 1 + 0 + 0) = some (.p (.int .i32 1))) (hDb : Nat.blt (q + 0 + 1 + 0) csD.length = true) (hE : setC csD (q + 0 + 1 + 0 + 0) (.p (.int .i32 0)) = some csE) :
  LC Tryz.prog 200 [.ptr 0 (q + 0), onceF] [.box cs, .box [.ptr 0 0], .box [(iQ r)], .box [.ptr 0 q]] (Is (.tup []) [.box csE, .box [.ptr 0 0], .box [(iQ r)], .box [.ptr 0 q]]) := by
 refine LC.ofD Tryz.func200 Z Z Z Z ?_;refine LWD.seq (LWD.region (LOpsD.st Z Z Z (zm Z Z) (LOpsD.st Z Z Z (zn Z Z) (LOpsD.st Z Z Z (zA Z Z ft112_2) (LOpsD.st Z Z Z (zC Z Z Z (by kernel_rfl) (c177 (off := q + 0 + 1) Z hm hA Z hAb)) (LOpsD.nil (LWD.seq (LWD.region (LOpsD.st Z Z Z (zm Z Z) (LOpsD.st Z Z Z (zn Z Z) (LOpsD.st Z Z Z (zA Z Z ft112_2) (LOpsD.defer Z Z Z Z Z (LOpsD.nil (LWD.seq (LWD.region (LOpsD.st Z Z Z (zm Z Z) (LOpsD.st Z Z Z (zn Z Z) (LOpsD.st Z Z Z (zA Z Z ft112_1) (LOpsD.st Z Z Z (zC Z Z Z (by kernel_rfl) (c172 (off := q + 0 + 0) (n := 0) Z hd)) (LOpsD.st Z Z Z (LOp.not Z Z) (LOpsD.nil (LWD.condT Z (LWD.seq ?_)))))))))))))))))))))));exact LWD.region (LOpsD.st Z Z Z (zm Z Z) (LOpsD.st Z Z Z (zn Z Z) (LOpsD.st Z Z Z (zA Z Z ft112_1) (LOpsD.defer Z Z Z Z Z (LOpsD.nil (LWD.region (LOpsD.st Z Z Z (zm Z Z) (LOpsD.st Z Z Z (zC Z Z Z (by kernel_rfl) (c165 hs hn hz hs1 hc1 hc2)) (LOpsD.nil (⟨.inl rfl, .cons (c179d (off := q + 0 + 0) Z hD Z) (.cons (c178d (off := q + 0 + 1) Z hDm hDb hE Z) .nil)⟩))))))))))
theorem c164s {cs csA cs1 cs2 csD csE : List LV} {seed n r : Int} {q : Nat} (hd0 : nth cs (q + 0 + 0 + 0) = some (.p (.int .u32 0))) (hm : nth cs (q + 0 + 1 + 0 + 0) = some (.p (.int .i32 0))) (hA : setC cs (q + 0 + 1 + 0 + 0) (.p (.int .i32 1)) = some csA) (hAb : Nat.blt (q + 0 + 1 + 0) csA.length = true)
  (hd : nth csA (q + 0 + 0 + 0) = some (.p (.int .u32 0))) (hs : nth csA (0 + 0) = some (uQ seed)) (hn : nth csA (0 + 1) = some (iQ n)) (hz : IntKind.u64.wrap n ≠ 0)
  (hs1 : nth cs1 (0 + 0) = some (uQ seed)) (hc1 : setC csA (q + 3) (.p (.int .i64 (pivotOf seed n r))) = some cs1) (hc2 : setC cs1 (q + 4) (.p (.int .u64 (signOf seed r))) = some cs2)
  (hD : setC cs2 (q + 0 + 0 + 0) (.p (.int .u32 1)) = some csD) (hDm : nth csD (q + 0 + 1 + 0 + 0) = some (.p (.int .i32 1))) (hDb : Nat.blt (q + 0 + 1 + 0) csD.length = true) (hE : setC csD (q + 0 + 1 + 0 + 0) (.p (.int .i32 0)) = some csE) : LC Tryz.prog 193 [.ptr 0 (q + 0), onceF] [.box cs, .box [.ptr 0 0], .box [(iQ r)], .box [.ptr 0 q]] (Is (.tup []) [.box csE, .box [.ptr 0 0], .box [(iQ r)], .box [.ptr 0 q]]) := by
 refine zh2 Tryz.func193 Z Z Z ?_;exact zQ (zR (zM Z (yS Z (zn Z Z) (yS Z (zA Z Z ft112_1) (yS Z (zC Z Z Z (by kernel_rfl) (c172 (off := q + 0 + 0) (n := 0) Z hd0)) (yS Z (LOp.not Z Z) (zN (zT (LW.condT Z (zR (zM Z (zM Z (yS Z (zC Z Z Z (by kernel_rfl) (c173 hm hA hAb hd hs hn hz hs1 hc1 hc2 hD hDm hDb hE)) (zN (fin_end .none (⟨rfl, rfl⟩))))))))))))))))
theorem c164f {cs : List LV} {r : Int} {q : Nat} (hd : nth cs (q + 0 + 0 + 0) = some (.p (.int .u32 1))) : LC Tryz.prog 193 [.ptr 0 (q + 0), onceF] [.box cs, .box [.ptr 0 0], .box [(iQ r)], .box [.ptr 0 q]] (Is (.tup []) [.box cs, .box [.ptr 0 0], .box [(iQ r)], .box [.ptr 0 q]]) := by
 refine zh2 Tryz.func193 Z Z Z ?_;exact zQ (zR (zM Z (yS Z (zn Z Z) (yS Z (zA Z Z ft112_1) (yS Z (zC Z Z Z (by kernel_rfl) (c172 (off := q + 0 + 0) (n := 1) Z hd)) (yS Z (LOp.not Z Z) (zN (zT (LW.condF Z (zk (fin_end .none (⟨rfl, rfl⟩))))))))))))
open Go.Proofs
def roundL (seed n r : Int) (b : Bool) : List LV :=
 [.p (.int .u32 (cond b 1 0)), .p (.int .i32 0), .p (.int .u32 0), .p (.int .i64 (cond b (pivotOf seed n r) 0)), .p (.int .u64 (cond b (signOf seed r) 0))]
def deckL (seed n : Int) (f : Nat → Bool) (k : Int) : List LV :=
 (uQ seed) :: (iQ n) :: (roundL seed n 0 (f 0) ++ (roundL seed n 1 (f 1) ++ (roundL seed n 2 (f 2) ++ (roundL seed n 3 (f 3) ++ (roundL seed n 4 (f 4) ++ (roundL seed n 5 (f 5) ++ (roundL seed n 6 (f 6) ++ (roundL seed n 7 (f 7) ++ (roundL seed n 8 (f 8) ++ (roundL seed n 9 (f 9) ++ [(iQ k)]))))))))))
def setF (f : Nat → Bool) (i : Nat) : Nat → Bool := fun j => cond (Nat.beq j i) true (f j)
def clrF (f : Nat → Bool) (i : Nat) : Nat → Bool := fun j => cond (Nat.beq j i) false (f j)
theorem setF_id {f : Nat → Bool} {i : Nat} (h : f i = true) : setF f i = f := by
 funext j;unfold setF
 cases e : Nat.beq j i with
 | false => rfl
 | true => rw [Nat.eq_of_beq_eq_true e, h]; rfl
theorem clrF_id {f : Nat → Bool} {i : Nat} (h : f i = false) : clrF f i = f := by
 funext j;unfold clrF
 cases e : Nat.beq j i with
 | false => rfl
 | true => rw [Nat.eq_of_beq_eq_true e, h]; rfl
structure Dk where
 f : Nat → Bool
 k : Int
def deckS (seed n : Int) (d : Dk) : List LV := deckL seed n d.f d.k
def Dk.turned (d : Dk) (r : Int) : Dk := ⟨setF d.f r.toNat, IntKind.i64.wrap (d.k + 1)⟩
def turnOk (n r : Int) : Bool := decide (n ≠ 0 ∧ IntKind.u64.wrap n ≠ 0 ∧ 0 ≤ r ∧ r < 10)
theorem turnOk_get {n r : Int} (h : turnOk n r = true) : n ≠ 0 ∧ IntKind.u64.wrap n ≠ 0 ∧ 0 ≤ r ∧ r < 10 := of_decide_eq_true h
theorem c144s {cs csA cs1 cs2 csD csE : List LV} {seed n r : Int} (hd0 : nth cs ((2 + r.toNat * 5) + 0 + 0 + 0) = some (.p (.int .u32 0))) (hm : nth cs ((2 + r.toNat * 5) + 0 + 1 + 0 + 0) = some (.p (.int .i32 0))) (hA : setC cs ((2 + r.toNat * 5) + 0 + 1 + 0 + 0) (.p (.int .i32 1)) = some csA) (hAb : Nat.blt ((2 + r.toNat * 5) + 0 + 1 + 0) csA.length = true)
  (hd : nth csA ((2 + r.toNat * 5) + 0 + 0 + 0) = some (.p (.int .u32 0))) (hs : nth csA (0 + 0) = some (uQ seed)) (hn : nth csA (0 + 1) = some (iQ n)) (hz : IntKind.u64.wrap n ≠ 0)
  (hs1 : nth cs1 (0 + 0) = some (uQ seed)) (hc1 : setC csA ((2 + r.toNat * 5) + 3) (.p (.int .i64 (pivotOf seed n r))) = some cs1) (hc2 : setC cs1 ((2 + r.toNat * 5) + 4) (.p (.int .u64 (signOf seed r))) = some cs2)
  (hD : setC cs2 ((2 + r.toNat * 5) + 0 + 0 + 0) (.p (.int .u32 1)) = some csD) (hDm : nth csD ((2 + r.toNat * 5) + 0 + 1 + 0 + 0) = some (.p (.int .i32 1))) (hDb : Nat.blt ((2 + r.toNat * 5) + 0 + 1 + 0) csD.length = true) (hE : setC csD ((2 + r.toNat * 5) + 0 + 1 + 0 + 0) (.p (.int .i32 0)) = some csE) {k : Int} {csF : List LV} (hr0 : 0 ≤ r) (hr1 : r < 10) (hk : nth csE (0 + 52 + 0) = some (iQ k)) (hF : setC csE (0 + 52 + 0) (.p (.int .i64 (IntKind.i64.wrap (k + 1)))) = some csF) (hl : LV.lowsB 1 csF = true) : LC Tryz.prog 182 [.ptr 0 0, (iQ r)] [.box cs] (Is (.ptr 0 (2 + r.toNat * 5)) [.box csF]) := by
 refine zh2 Tryz.func182 Z Z Z ?_;refine zQ (zR (yS Z (zbx Z Z Z Z Z) (yS Z (zbx Z Z Z Z Z) (zM Z (zN (zT (zQ (LW.ent (Ent.slot Z) (LW.drawW (by kernel_rfl) (by kernel_rfl) (yF Z (zd Z Z Z vt100 Z Z) Z (yF Z (zd Z Z Z vt3 Z Z) Z ?_)))))))))));refine yF (F := []) (s := none) Z (fun H _ => zn Z Z) Z ?_;refine yF (F := []) (s := none) Z (fun H _ => zA Z Z ft120_2) Z ?_;refine yF (F := []) (s := none) Z (fun H _ => LOp.indexAddrA Z Z Z at115 hr0 hr1) Z ?_;refine yF Z (LAt.alloc Z zt160 (id := 3) Z) Z (yF Z (zt Z Z Z Z vt160 Z Z Z) Z ?_);refine LF.nil ⟨by kernel_rfl, ?_⟩;refine zT (zQ (zR (yS Z (zD Z Z Z vt160 Z Z) (yS Z (zn Z Z) (yS Z (zA Z Z ft114_0) (yS Z (LOp.makeFunc Z Z Z) (yS Z (zC Z Z Z (by kernel_rfl) (c164s (q := (2 + r.toNat * 5)) hd0 hm hA hAb hd hs hn hz hs1 hc1 hc2 hD hDm hDb hE)) (zN (zT (zQ (zR (yS Z (zD Z Z Z vt100 Z Z) (yS Z (zn Z Z) (yS Z (zA Z Z ft120_3) (yS Z (zC Z Z Z (by kernel_rfl) (c166 (off := 0 + 52) Z hk hF Z)) (zN (zT (zQ (zR (yS Z (zD Z Z Z vt160 Z Z) (zM Z (zN (zT ?_)))))))))))))))))))))));refine LW.ret ?_;refine fin_retW (env' := [(4, .ptr 0 (2 + r.toNat * 5))]) (H' := [.box csF]) (zW 1 ⟨rfl, trivial⟩ Z Z Z (zL hl Z)) (.one (.tmp Z)) ⟨rfl, rfl⟩
theorem c144f {cs : List LV} {r : Int} (hd : nth cs ((2 + r.toNat * 5) + 0 + 0 + 0) = some (.p (.int .u32 1))) {k : Int} {csF : List LV} (hr0 : 0 ≤ r) (hr1 : r < 10) (hk : nth cs (0 + 52 + 0) = some (iQ k)) (hF : setC cs (0 + 52 + 0) (.p (.int .i64 (IntKind.i64.wrap (k + 1)))) = some csF) (hl : LV.lowsB 1 csF = true) : LC Tryz.prog 182 [.ptr 0 0, (iQ r)] [.box cs] (Is (.ptr 0 (2 + r.toNat * 5)) [.box csF]) := by
 refine zh2 Tryz.func182 Z Z Z ?_;refine zQ (zR (yS Z (zbx Z Z Z Z Z) (yS Z (zbx Z Z Z Z Z) (zM Z (zN (zT (zQ (LW.ent (Ent.slot Z) (LW.drawW (by kernel_rfl) (by kernel_rfl) (yF Z (zd Z Z Z vt100 Z Z) Z (yF Z (zd Z Z Z vt3 Z Z) Z ?_)))))))))));refine yF (F := []) (s := none) Z (fun H _ => zn Z Z) Z ?_;refine yF (F := []) (s := none) Z (fun H _ => zA Z Z ft120_2) Z ?_;refine yF (F := []) (s := none) Z (fun H _ => LOp.indexAddrA Z Z Z at115 hr0 hr1) Z ?_;refine yF Z (LAt.alloc Z zt160 (id := 3) Z) Z (yF Z (zt Z Z Z Z vt160 Z Z Z) Z ?_);refine LF.nil ⟨by kernel_rfl, ?_⟩;refine zT (zQ (zR (yS Z (zD Z Z Z vt160 Z Z) (yS Z (zn Z Z) (yS Z (zA Z Z ft114_0) (yS Z (LOp.makeFunc Z Z Z) (yS Z (zC Z Z Z (by kernel_rfl) (c164f (q := (2 + r.toNat * 5)) hd)) (zN (zT (zQ (zR (yS Z (zD Z Z Z vt100 Z Z) (yS Z (zn Z Z) (yS Z (zA Z Z ft120_3) (yS Z (zC Z Z Z (by kernel_rfl) (c166 (off := 0 + 52) Z hk hF Z)) (zN (zT (zQ (zR (yS Z (zD Z Z Z vt160 Z Z) (zM Z (zN (zT ?_)))))))))))))))))))))));refine LW.ret ?_;refine fin_retW (env' := [(4, .ptr 0 (2 + r.toNat * 5))]) (H' := [.box csF]) (zW 1 ⟨rfl, trivial⟩ Z Z Z (zL hl Z)) (.one (.tmp Z)) ⟨rfl, rfl⟩
theorem get_slow {seed n r k : Int} {f : Nat → Bool} (hz : IntKind.u64.wrap n ≠ 0) (hr0 : 0 ≤ r) (hr1 : r < 10) :
  LC Tryz.prog 182 [.ptr 0 0, (iQ r)] [.box (deckL seed n (clrF f r.toNat) k)] (Is (.ptr 0 (2 + r.toNat * 5)) [.box (deckL seed n (setF f r.toNat) (IntKind.i64.wrap (k + 1)))]) := by
 have hc : r = 0 ∨ r = 1 ∨ r = 2 ∨ r = 3 ∨ r = 4 ∨ r = 5 ∨ r = 6 ∨ r = 7 ∨ r = 8 ∨ r = 9 := by omega
 rcases hc with rfl | rfl | rfl | rfl | rfl | rfl | rfl | rfl | rfl | rfl
 all_goals exact c144s (seed := seed) (n := n) rfl rfl rfl rfl rfl rfl rfl hz rfl rfl rfl rfl rfl rfl rfl hr0 hr1 rfl rfl rfl
theorem get_fast {seed n r k : Int} {f : Nat → Bool} (hr0 : 0 ≤ r) (hr1 : r < 10) :
  LC Tryz.prog 182 [.ptr 0 0, (iQ r)] [.box (deckL seed n (setF f r.toNat) k)] (Is (.ptr 0 (2 + r.toNat * 5)) [.box (deckL seed n (setF f r.toNat) (IntKind.i64.wrap (k + 1)))]) := by
 have hc : r = 0 ∨ r = 1 ∨ r = 2 ∨ r = 3 ∨ r = 4 ∨ r = 5 ∨ r = 6 ∨ r = 7 ∨ r = 8 ∨ r = 9 := by omega
 rcases hc with rfl | rfl | rfl | rfl | rfl | rfl | rfl | rfl | rfl | rfl
 all_goals exact c144f rfl hr0 hr1 rfl rfl rfl
theorem c144 {seed n r : Int} {d : Dk} (h : turnOk n r = true) : LC Tryz.prog 182 [.ptr 0 0, (iQ r)] [.box (deckS seed n d)] (Is (.ptr 0 (2 + r.toNat * 5)) [.box (deckS seed n (d.turned r))]) := by
 obtain ⟨-, h1, h2, h3⟩ := turnOk_get h
 cases hf : d.f r.toNat with
 | true =>
  have := get_fast (seed := seed) (n := n) (k := d.k) (f := d.f) h2 h3;rw [setF_id hf] at this;unfold deckS Dk.turned;rw [setF_id hf];exact this
 | false =>
  have := get_slow (seed := seed) (n := n) (k := d.k) (f := d.f) h1 h2 h3;rw [clrF_id hf] at this;exact this
theorem deck_pivot {seed n r : Int} {d : Dk} (hr0 : 0 ≤ r) (hr1 : r < 10) : nth (deckS seed n (d.turned r)) (2 + r.toNat * 5 + 3) = some (.p (.int .i64 (pivotOf seed n r))) := by
 have hc : r = 0 ∨ r = 1 ∨ r = 2 ∨ r = 3 ∨ r = 4 ∨ r = 5 ∨ r = 6 ∨ r = 7 ∨ r = 8 ∨ r = 9 := by omega
 rcases hc with rfl | rfl | rfl | rfl | rfl | rfl | rfl | rfl | rfl | rfl
 all_goals rfl
theorem deck_sign {seed n r : Int} {d : Dk} (hr0 : 0 ≤ r) (hr1 : r < 10) : nth (deckS seed n (d.turned r)) (2 + r.toNat * 5 + 4) = some (.p (.int .u64 (signOf seed r))) := by
 have hc : r = 0 ∨ r = 1 ∨ r = 2 ∨ r = 3 ∨ r = 4 ∨ r = 5 ∨ r = 6 ∨ r = 7 ∨ r = 8 ∨ r = 9 := by omega
 rcases hc with rfl | rfl | rfl | rfl | rfl | rfl | rfl | rfl | rfl | rfl
 all_goals rfl
def mateOf (seed n r i : Int) : Int := (IntKind.i64.wrap (IntKind.i64.wrap (pivotOf seed n r + n) - i)).tmod n
def turnB (seed n r i : Int) : Bool := bits .and .u64 (step (signOf seed r) (IntKind.u64.wrap (if mateOf seed n r i > i then mateOf seed n r i else i))) 1 == 1
def turnOf (seed n r i : Int) : Int := bif turnB seed n r i then mateOf seed n r i else i
theorem c105 {seed n r i : Int} {d : Dk} (h : turnOk n r = true) : LC Tryz.prog 165 [.ptr 0 0, (iQ r), (iQ i)] [.box (deckS seed n d)] (Is (.p (.int .i64 (turnOf seed n r i))) [.box (deckS seed n (d.turned r))]) := by
 refine zh2 Tryz.func165 Z Z Z ?_;refine zQ (zR (zM Z (zN (zT (zQ (zR (zM Z (zM Z (yS Z (zC Z Z Z (by kernel_rfl) (c144 h)) (zM Z (zN (zT (zQ (LW.draw2 (by kernel_rfl) (by kernel_rfl) (zH Z (yE Z (zn Z Z) (yE Z (zA Z Z ft114_1) (yE Z (LOp.load1 Z Z Z vt3 (deck_pivot (turnOk_get h).2.2.1 (turnOk_get h).2.2.2)) (zH Z (yE Z (zn Z Z) (yE Z (zA Z Z ft120_1) (yE Z (LOp.load1 Z Z Z vt3 Z) (yE Z (zb2 Z Z Z Z) ?_)))))))))))))))))))))));refine zH Z (yE Z (zb2 Z Z Z Z) (zH Z (yE Z (zn Z Z) (yE Z (zA Z Z ft120_1) (yE Z (LOp.load1 Z Z Z vt3 Z) (yE Z (LOp.rem Z Z Z (turnOk_get h).1) (zH Z (LO.nil (zT (zQ (zQ (zR (zM Z (yS Z (zn Z Z) (yS Z (zA Z Z ft114_2) (yS Z (LOp.load1 Z Z Z vt22 (deck_sign (turnOk_get h).2.2.1 (turnOk_get h).2.2.2)) (zM Z (zM Z (yS Z (LOp.max Z Z Z) (yS Z (LOp.convert (k' := .u64) Z Z (by kernel_rfl)) (yS Z (zC Z Z Z (by kernel_rfl) (zp (c108 (h := (signOf seed r)) (x := (IntKind.u64.wrap (if (mateOf seed n r i) > i then (mateOf seed n r i) else i)))) (.cons zv (.cons zv .nil)))) (yS Z (zb2 Z Z Z Z) (yS Z (zb2 Z Z Z Z) ?_)))))))))))))))))))))));refine zN (zT ?_);refine zX Z (fun g1 => ?_) (fun g1 => ?_)
 ·
  exact zQ (zR (zM Z (zM Z (zN (zT (zr (thn_r (fin_ret (.one (.tmp Z)) (⟨by unfold turnOf turnB; rw [g1]; rfl, rfl⟩)))))))))
 ·
  exact zk (zT (zQ (zR (zM Z (zM Z (zN (zT (zr (fin_ret (.one (.tmp Z)) (⟨by unfold turnOf turnB; rw [g1]; rfl, rfl⟩))))))))))
open Go.Proofs
def few (l : List Bk) : Bool := decide (l.length ≤ 1000)
theorem few_le {l : List Bk} (h : few l = true) : l.length ≤ 1000 := of_decide_eq_true h
def F52 (l : List Bk) : Option Bool :=
 (match places l with
 | none =>
  some false
 | some _ =>
  some true)
theorem c52 {l : List Bk} {r_ : Bool} (hr : F52 l = some r_) : LPure Tryz.prog 187 [.slice 5 (l.map blkP)] [.bool r_] := by
 refine zh Tryz.func187 Z Z Z Z ?_;unfold F52 at hr;refine zQ (zR (zM Z (zN (zT (zQ (zR (zM Z ?_)))))));rcases h_f1 : places l with _ | m_
 ·
  rw [h_f1] at hr;simp only at hr;refine yS Z (zC Z Z Z (by kernel_rfl) (c94N h_f1)) (zM Z (yS Z (zX2 Z Z Z) (yS Z (zX2 Z Z Z) (zM Z (zM Z (zN (zT (zQ (zR (zM Z (zM Z (zN (zT (zr ?_))))))))))))));obtain rfl := zJ hr;exact zf (.one (.tmp Z)) zv
 ·
  rw [h_f1] at hr;simp only at hr;refine yS Z (zC Z Z Z (by kernel_rfl) (c94S h_f1 Z Z Z)) (zM Z (yS Z (zX2 Z Z Z) (yS Z (zX2 Z Z Z) (zM Z (zM Z (zN (zT (zQ (zR (zM Z (zM Z (zN (zT (zr ?_))))))))))))));obtain rfl := zJ hr;exact zf (.one (.tmp Z)) zv
structure F46_L1 where
 t13 : Int
 out : List ID
def F46_s1 (l : List Bk) (id : ID) (x1 : F46_L1) : Option (F46_L1 ⊕ F46_L1) :=
 bif decide (x1.t13 < (l.length : Int)) then
  (ix l x1.t13).bind fun y1 =>
  bif ((y1.Parent.1 == id.1) && ((y1.Parent.2 == id.2) && true)) then
   bif room x1.out.length [nm y1].length 16 then
    some (.inl (F46_L1.mk (IntKind.i64.wrap (x1.t13 + 1)) (x1.out ++ [nm y1])))
   else none
  else
   some (.inl (F46_L1.mk (IntKind.i64.wrap (x1.t13 + 1)) x1.out))
 else
  some (.inr (F46_L1.mk x1.t13 x1.out))
def F46 (l : List Bk) (id : ID) : Option (List ID) :=
 (F52 l).bind fun v1 =>
 bif !v1 then
  some []
 else
  (iter (F46_s1 l id) big (F46_L1.mk 0 ([] : List ID))).bind fun v2 =>
  some v2.out
theorem c46 {l : List Bk} {id : ID} {r_ : (List ID)} (hr : F46 l id = some r_) : LPure Tryz.prog 171 [.slice 5 (l.map blkP), idP id] [.slice 2 (r_.map idP)] := by
 refine zh Tryz.func171 Z Z Z Z ?_;unfold F46 at hr;refine zQ (zR (yS Z (zbx Z Z Z Z Z) (zM Z (zN (zT (zQ (zQ (zR (zM Z (zb hr fun v1 h_v1 hr => yS Z (zC Z Z Z (by kernel_rfl) (zp (c52 h_v1) (.cons zv .nil))) (yS Z (LOp.not Z Z) (zN (zT ?_)))))))))))));refine zX Z (fun g1 => ?_) (fun g1 => ?_)
 ·
  refine zi g1 hr fun hr => zQ (zR (zM Z (zN (zT (zr (thn_r ?_))))));obtain rfl := zJ hr;exact zf (.one (.tmp Z)) Conv.zs
 ·
  refine zo g1 hr fun hr => zk (zT (zQ (zR (zM Z (zN (zT (zQ (zQ (zR (zM Z (yS Z (zlM Z Z (by kernel_rfl)) (zM Z (zN (zT (LW.ent (Ent.lazy (t := 5) (m := 2) Z Z Z) ?_)))))))))))))));obtain ⟨v2, hb_v2, ho_v2⟩ := zB hr;clear hr;refine LW.tail (E := [(4, .zs), (5, .vec 2 1 (v2.out.map idP).length 0 (v2.out.map idP).length)]) (O := [.box [(uQ id.1), (uQ id.2)], .vec 2 (v2.out.map idP)]) ?_ (fun env_v2 H_v2 hw_v2 => ?_)
  ·refine LW.block ?_;refine LW.iterB (E := fun x1 : F46_L1 => [(3, .ptr 0 0), (4, .zs), (5, .vec 2 1 (x1.out.map idP).length 0 (x1.out.map idP).length), (11, (kB l)), (12, .p (.int .i64 (l.length : Int))), (13, (iQ x1.t13))]) (O := fun x1 => [.box [(uQ id.1), (uQ id.2)], .vec 2 (x1.out.map idP)]) hb_v2 (zW 2 ⟨rfl, rfl, rfl, rfl, rfl, rfl, trivial⟩ Z Z Z Z) (fun x1 z_x1 hr hb_x1 => ?_);unfold F46_s1 at hr;refine zQ (zR (yS Z (zb2 Z Z Z Z) (zN (zT (zQ ?_)))));refine zX Z (fun g2 => ?_) (fun g2 => ?_)
   ·
    refine zi g2 hr fun hr => zk (zT (zQ (zl (zQ (zR (zb hr fun y1 h_y1 hr => yS Z (zx Z Z Z st27 h_y1 Z) (yS Z (zC2 Z Z Z vt42 Z Z) (yS Z (ze Z zt42 Z Z) (yS Z (zs Z Z Z Z vt42 Z Z Z Z) (zN (zT (zQ (zR (yS Z (zA Z Z ft42_2) (yS Z (zD Z Z Z vt24 Z Z) (yS Z (zD Z Z Z vt24 Z Z) (yS Z (LOp.eqlAgg Z Z Z Z Z eqt24) (zN (zT ?_)))))))))))))))))));refine zX Z (fun g3 => ?_) (fun g3 => ?_)
    ·
     refine zi g3 hr fun hr => zR (zM Z (yS Z (zD Z Z Z vt42 Z Z) (yS Z (zC Z Z Z (by kernel_rfl) (zp (c50 (b := y1)) (.cons zv .nil))) (yS Z (zB2 Z st31 Z Z Z Z Z) (zg hr fun q1 hr => yS Z (LOp.appendX idP x1.out [nm y1] rfl Z Z Z Src.p Z st31 q1 Z) (zM Z (zN (inBlk_n (zT (zR (yS Z (zb2 Z Z Z Z) (zM Z (zN (zT ?_))))))))))))));obtain rfl := zJ hr;exact ⟨_, rfl, zW 2 ⟨rfl, rfl, rfl, rfl, rfl, rfl, trivial⟩ Z Z Z rfl⟩
    ·
     refine zo g3 hr fun hr => zk (inBlk_n (zT (zR (yS Z (zb2 Z Z Z Z) (zM Z (zN (zT ?_)))))));obtain rfl := zJ hr;exact ⟨_, rfl, zW 2 ⟨rfl, rfl, rfl, rfl, rfl, rfl, trivial⟩ Z Z Z rfl⟩
   ·
    refine zo g2 hr fun hr => zq (thn_e (thn_e (zy (zT ?_))));obtain rfl := zJ hr;have hr := congrArg some (hb_x1 _ rfl);obtain rfl := zJ hr;exact zW 2 ⟨Z, Z, trivial⟩ Z Z Z Z
  ·have hr := ho_v2;clear hb_v2;refine zT (LW.weak hw_v2 (zQ (zR (zM Z (zM Z (zN (zT (zr ?_))))))));obtain rfl := zJ hr;exact zf (.one (.tmp Z)) ((Conv.vecAll Z Z Z))
end Go.Mg
