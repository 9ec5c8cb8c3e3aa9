/- What the logic needs to know of each type of the program. The program's structs as plain data, and how they lie in memory. The mixing functions. mix.Of. tree.Name, slices.Index, slices.Contains. tree.places. Plain facts of trees: what 'places' tells. tree.Chain. cursor.Move. Plain facts of chains and cursors. Plain laws of cursors. Atomic words, locks. sync.Once as the deck uses it. The rounds of the deck. tree.May, Find, Slot, Kids. Conditions: none. -/
import Derived.Test.YtbjmcafamkdokaaGreatX2
import Derived.Test.YtbjmcafamkdokaaGreatProg
import Derived.Test.YtbjmcafamkdokaaGreatX3
set_option maxRecDepth 100000
set_option linter.unusedSimpArgs false
set_option linter.unusedVariables false
namespace Go.Mg
open Go.Proofs
section
variable {w : World}
theorem xe : nl Tryz.prog 37 = some (2, 1, false) := by kernel_rfl
theorem uF : nl Tryz.prog 148 = some (3, 1, false) := by kernel_rfl
theorem Aa : nl Tryz.prog 163 = some (2, 1, false) := by kernel_rfl
theorem C1 : nl Tryz.prog 201 = some (10, 5, true) := by kernel_rfl
theorem HX : bL Tryz.prog 25 = some ([LV.zs, LV.p (PV.int IntKind.u64 0), LV.p (PV.int IntKind.i64 0), LV.p (PV.int IntKind.i64 0), LV.p (PV.int IntKind.i64 0)], [(0, 1), (1, 1), (2, 1), (3, 1), (4, 1)]) := by kernel_rfl
theorem Af : bL Tryz.prog 32 = some ([LV.zs, LV.p (PV.int IntKind.u64 0), LV.p (PV.int IntKind.i64 0), LV.p (PV.int IntKind.i64 0), LV.p (PV.int IntKind.i64 0), LV.zs, LV.p (PV.int IntKind.i64 0), LV.zs, LV.zs], [(0, 5), (5, 1), (6, 1), (7, 1), (8, 1)]) := by kernel_rfl
theorem xf : bL Tryz.prog 37 = some ([LV.p (PV.int IntKind.u64 0), LV.p (PV.int IntKind.u64 0)], [(0, 1), (1, 1)]) := by kernel_rfl
theorem Fu : bL Tryz.prog 40 = some ([LV.p (PV.int IntKind.i64 0), LV.p (PV.int IntKind.i64 0), LV.p (PV.int IntKind.u64 0), LV.p (PV.int IntKind.u64 0), LV.p (PV.int IntKind.u64 0)], [(0, 1), (1, 1), (2, 2), (4, 1)]) := by kernel_rfl
theorem oH : bL Tryz.prog 44 = some ([LV.zs, LV.zs], [(0, 1), (1, 1)]) := by kernel_rfl
theorem Ag : bL Tryz.prog 46 = some ([LV.p (PV.int IntKind.i64 0), LV.p (PV.int IntKind.i64 0), LV.p (PV.int IntKind.i64 0), LV.p (PV.int IntKind.i64 0), LV.p (PV.int IntKind.u64 0), LV.p (PV.int IntKind.u64 0), LV.p (PV.int IntKind.u64 0), LV.zs, LV.zs], [(0, 1), (1, 1), (2, 5), (7, 2)]) := by kernel_rfl
theorem HW : bL Tryz.prog 50 = some ([LV.p (PV.int IntKind.u64 0), LV.p (PV.int IntKind.u64 0), LV.p (PV.int IntKind.i64 0), LV.p (PV.int IntKind.i64 0)], [(0, 2), (2, 1), (3, 1)]) := by kernel_rfl
theorem uG : bL Tryz.prog 52 = some ([LV.p (PV.int IntKind.i64 0), LV.p (PV.int IntKind.i64 0), LV.zs, LV.zs, LV.zs, LV.zs, LV.zs, LV.p (PV.int IntKind.u64 0), LV.p (PV.int IntKind.u64 0), LV.p (PV.int IntKind.i64 0), LV.p (PV.int IntKind.i64 0), LV.p (PV.bool false)], [(0, 1), (1, 1), (2, 2), (4, 2), (6, 1), (7, 4), (11, 1)]) := by kernel_rfl
theorem Fv : bL Tryz.prog 54 = some ([LV.p (PV.int IntKind.i64 0), LV.p (PV.int IntKind.i64 0), LV.p (PV.int IntKind.u64 0), LV.p (PV.int IntKind.u64 0)], [(0, 1), (1, 1), (2, 2)]) := by kernel_rfl
theorem Ec : bL Tryz.prog 92 = some ([LV.zs, LV.p (PV.int IntKind.u64 0), LV.p (PV.int IntKind.i64 0), LV.p (PV.int IntKind.i64 0), LV.p (PV.int IntKind.i64 0), LV.zs, LV.p (PV.int IntKind.i64 0), LV.zs, LV.zs, LV.zs, LV.zs, LV.p (PV.int IntKind.i64 0), LV.p (PV.bool false), LV.any, LV.p (PV.int IntKind.i64 0), LV.zs], [(0, 9), (9, 2), (11, 1), (12, 1), (13, 1), (14, 1), (15, 1)]) := by kernel_rfl
theorem Eb : bL Tryz.prog 108 = some ([LV.any, LV.any], [(0, 1), (1, 1)]) := by kernel_rfl
theorem D9 : bL Tryz.prog 143 = some ([LV.p (PV.int IntKind.i64 0), LV.p (PV.int IntKind.i64 0), LV.zs, LV.zs, LV.zs, LV.zs, LV.zs, LV.p (PV.int IntKind.u64 0), LV.p (PV.int IntKind.u64 0), LV.p (PV.int IntKind.i64 0), LV.p (PV.int IntKind.i64 0), LV.p (PV.bool false), LV.zs, LV.p (PV.int IntKind.u64 0), LV.p (PV.int IntKind.i64 0), LV.p (PV.int IntKind.i64 0), LV.p (PV.int IntKind.i64 0), LV.p (PV.int IntKind.i64 0), LV.zs], [(0, 12), (12, 5), (17, 1), (18, 1)]) := by kernel_rfl
theorem Ea : bL Tryz.prog 148 = some ([LV.any, LV.any, LV.any], [(0, 1), (1, 1), (2, 1)]) := by kernel_rfl
theorem D7 : bL Tryz.prog 163 = some ([LV.p (PV.int IntKind.u64 0), LV.p (PV.int IntKind.u64 0)], [(0, 1), (1, 1)]) := by kernel_rfl
theorem Fs : bL Tryz.prog 206 = some ([LV.p (PV.int IntKind.u64 0), LV.p (PV.int IntKind.i64 0), LV.p (PV.int IntKind.u32 0), LV.p (PV.int IntKind.i32 0), LV.p (PV.int IntKind.u32 0), LV.p (PV.int IntKind.i64 0), LV.p (PV.int IntKind.u64 0), LV.p (PV.int IntKind.u32 0), LV.p (PV.int IntKind.i32 0), LV.p (PV.int IntKind.u32 0), LV.p (PV.int IntKind.i64 0), LV.p (PV.int IntKind.u64 0), LV.p (PV.int IntKind.u32 0), LV.p (PV.int IntKind.i32 0), LV.p (PV.int IntKind.u32 0), LV.p (PV.int IntKind.i64 0), LV.p (PV.int IntKind.u64 0), LV.p (PV.int IntKind.u32 0), LV.p (PV.int IntKind.i32 0), LV.p (PV.int IntKind.u32 0), LV.p (PV.int IntKind.i64 0), LV.p (PV.int IntKind.u64 0), LV.p (PV.int IntKind.u32 0), LV.p (PV.int IntKind.i32 0), LV.p (PV.int IntKind.u32 0), LV.p (PV.int IntKind.i64 0), LV.p (PV.int IntKind.u64 0), LV.p (PV.int IntKind.u32 0), LV.p (PV.int IntKind.i32 0), LV.p (PV.int IntKind.u32 0), LV.p (PV.int IntKind.i64 0), LV.p (PV.int IntKind.u64 0), LV.p (PV.int IntKind.u32 0), LV.p (PV.int IntKind.i32 0), LV.p (PV.int IntKind.u32 0), LV.p (PV.int IntKind.i64 0), LV.p (PV.int IntKind.u64 0), LV.p (PV.int IntKind.u32 0), LV.p (PV.int IntKind.i32 0), LV.p (PV.int IntKind.u32 0), LV.p (PV.int IntKind.i64 0), LV.p (PV.int IntKind.u64 0), LV.p (PV.int IntKind.u32 0), LV.p (PV.int IntKind.i32 0), LV.p (PV.int IntKind.u32 0), LV.p (PV.int IntKind.i64 0), LV.p (PV.int IntKind.u64 0), LV.p (PV.int IntKind.u32 0), LV.p (PV.int IntKind.i32 0), LV.p (PV.int IntKind.u32 0), LV.p (PV.int IntKind.i64 0), LV.p (PV.int IntKind.u64 0), LV.p (PV.int IntKind.i64 0)], [(0, 1), (1, 1), (2, 50), (52, 1)]) := by kernel_rfl
theorem D8 : bL Tryz.prog 235 = some ([LV.nilmap, LV.nilmap], [(0, 1), (1, 1)]) := by kernel_rfl
theorem Ah : bL Tryz.prog 238 = some ([LV.p (PV.int IntKind.i64 0), LV.p (PV.int IntKind.i64 0)], [(0, 1), (1, 1)]) := by kernel_rfl
theorem C2 : bL Tryz.prog 242 = some ([LV.p (PV.int IntKind.i64 0), LV.p (PV.int IntKind.u64 0), LV.p (PV.int IntKind.u64 0)], [(0, 1), (1, 2)]) := by kernel_rfl
theorem Ft : bL Tryz.prog 251 = some ([LV.zs, LV.zs, LV.nilmap, LV.nilmap, LV.p (PV.int IntKind.i64 0), LV.p (PV.bool false)], [(0, 2), (2, 1), (3, 1), (4, 1), (5, 1)]) := by kernel_rfl
theorem sX : jK Tryz.prog 37 2 = true := by kernel_rfl
theorem sY : jK Tryz.prog 40 5 = true := by kernel_rfl
theorem Dm : jK Tryz.prog 50 4 = true := by kernel_rfl
theorem Av : jK Tryz.prog 54 4 = true := by kernel_rfl
theorem CG : jK Tryz.prog 163 2 = true := by kernel_rfl
theorem CH : jK Tryz.prog 238 2 = true := by kernel_rfl
theorem EE : jK Tryz.prog 242 3 = true := by kernel_rfl
theorem gm : an Tryz.prog 25 0 = some (0, 1, false) := by kernel_rfl
theorem AF : an Tryz.prog 25 1 = some (1, 1, false) := by kernel_rfl
theorem oX : an Tryz.prog 25 2 = some (2, 1, false) := by kernel_rfl
theorem uS : an Tryz.prog 25 3 = some (3, 1, false) := by kernel_rfl
theorem oY : an Tryz.prog 25 4 = some (4, 1, false) := by kernel_rfl
theorem lP : an Tryz.prog 32 0 = some (0, 5, true) := by kernel_rfl
theorem de : an Tryz.prog 32 1 = some (5, 1, false) := by kernel_rfl
theorem dy : an Tryz.prog 32 2 = some (6, 1, false) := by kernel_rfl
theorem bz : an Tryz.prog 32 3 = some (7, 1, false) := by kernel_rfl
theorem eJ : an Tryz.prog 32 4 = some (8, 1, false) := by kernel_rfl
theorem jQ : an Tryz.prog 40 0 = some (0, 1, false) := by kernel_rfl
theorem uR : an Tryz.prog 40 1 = some (1, 1, false) := by kernel_rfl
theorem ld : an Tryz.prog 40 2 = some (2, 2, true) := by kernel_rfl
theorem EH : an Tryz.prog 40 3 = some (4, 1, false) := by kernel_rfl
theorem br : an Tryz.prog 44 0 = some (0, 1, false) := by kernel_rfl
theorem bD : an Tryz.prog 44 1 = some (1, 1, false) := by kernel_rfl
theorem jM : an Tryz.prog 46 0 = some (0, 1, false) := by kernel_rfl
theorem jN : an Tryz.prog 46 1 = some (1, 1, false) := by kernel_rfl
theorem jP : an Tryz.prog 46 2 = some (2, 5, true) := by kernel_rfl
theorem eM : an Tryz.prog 46 3 = some (7, 2, true) := by kernel_rfl
theorem rn : an Tryz.prog 50 0 = some (0, 2, true) := by kernel_rfl
theorem AB : an Tryz.prog 50 1 = some (2, 1, false) := by kernel_rfl
theorem EG : an Tryz.prog 50 2 = some (3, 1, false) := by kernel_rfl
theorem eK : an Tryz.prog 52 0 = some (0, 1, false) := by kernel_rfl
theorem b7 : an Tryz.prog 52 1 = some (1, 1, false) := by kernel_rfl
theorem bP : an Tryz.prog 52 2 = some (2, 2, true) := by kernel_rfl
theorem bC : an Tryz.prog 52 3 = some (4, 2, true) := by kernel_rfl
theorem bH : an Tryz.prog 52 4 = some (6, 1, false) := by kernel_rfl
theorem gk : an Tryz.prog 52 5 = some (7, 4, true) := by kernel_rfl
theorem ft : an Tryz.prog 52 6 = some (11, 1, false) := by kernel_rfl
theorem oZ : an Tryz.prog 54 0 = some (0, 1, false) := by kernel_rfl
theorem pb : an Tryz.prog 54 1 = some (1, 1, false) := by kernel_rfl
theorem lf : an Tryz.prog 54 2 = some (2, 2, true) := by kernel_rfl
theorem Az : an Tryz.prog 73 0 = some (0, 1, false) := by kernel_rfl
theorem tf : an Tryz.prog 73 1 = some (1, 1, false) := by kernel_rfl
theorem AA : an Tryz.prog 73 2 = some (2, 1, false) := by kernel_rfl
theorem tg : an Tryz.prog 73 3 = some (3, 1, false) := by kernel_rfl
theorem th : an Tryz.prog 73 4 = some (4, 1, false) := by kernel_rfl
theorem AE : an Tryz.prog 92 0 = some (0, 9, true) := by kernel_rfl
theorem oV : an Tryz.prog 92 1 = some (9, 2, true) := by kernel_rfl
theorem oW : an Tryz.prog 92 2 = some (11, 1, false) := by kernel_rfl
theorem tk : an Tryz.prog 92 3 = some (12, 1, false) := by kernel_rfl
theorem tm : an Tryz.prog 92 4 = some (13, 1, false) := by kernel_rfl
theorem tp : an Tryz.prog 92 5 = some (14, 1, false) := by kernel_rfl
theorem tq : an Tryz.prog 92 6 = some (15, 1, false) := by kernel_rfl
theorem AC : an Tryz.prog 108 0 = some (0, 1, false) := by kernel_rfl
theorem AD : an Tryz.prog 108 1 = some (1, 1, false) := by kernel_rfl
theorem au : an Tryz.prog 143 0 = some (0, 12, true) := by kernel_rfl
theorem gl : an Tryz.prog 143 1 = some (12, 5, true) := by kernel_rfl
theorem cx : an Tryz.prog 143 2 = some (17, 1, false) := by kernel_rfl
theorem lR : an Tryz.prog 143 3 = some (18, 1, false) := by kernel_rfl
theorem wj : an Tryz.prog 192 1 = some (0, 1, false) := by kernel_rfl
theorem rj : an Tryz.prog 194 0 = some (0, 1, false) := by kernel_rfl
theorem wk : an Tryz.prog 196 1 = some (0, 2, true) := by kernel_rfl
theorem nQ : an Tryz.prog 198 1 = some (0, 1, true) := by kernel_rfl
theorem wl : an Tryz.prog 198 2 = some (1, 2, true) := by kernel_rfl
theorem wm : an Tryz.prog 200 0 = some (0, 3, true) := by kernel_rfl
theorem wn : an Tryz.prog 200 1 = some (3, 1, false) := by kernel_rfl
theorem wo : an Tryz.prog 200 2 = some (4, 1, false) := by kernel_rfl
theorem wq : an Tryz.prog 204 2 = some (0, 1, false) := by kernel_rfl
theorem wt : an Tryz.prog 206 0 = some (0, 1, false) := by kernel_rfl
theorem rk : an Tryz.prog 206 1 = some (1, 1, false) := by kernel_rfl
theorem wu : an Tryz.prog 206 2 = some (2, 50, true) := by kernel_rfl
theorem rl : an Tryz.prog 206 3 = some (52, 1, true) := by kernel_rfl
theorem oU : an Tryz.prog 235 0 = some (0, 1, false) := by kernel_rfl
theorem ti : an Tryz.prog 235 1 = some (1, 1, false) := by kernel_rfl
theorem tj : an Tryz.prog 238 0 = some (0, 1, false) := by kernel_rfl
theorem lQ : an Tryz.prog 242 0 = some (0, 1, false) := by kernel_rfl
theorem rm : an Tryz.prog 242 1 = some (1, 2, true) := by kernel_rfl
theorem ea : an Tryz.prog 251 0 = some (0, 2, true) := by kernel_rfl
theorem kC : an Tryz.prog 251 1 = some (2, 1, false) := by kernel_rfl
theorem nR : an Tryz.prog 251 2 = some (3, 1, false) := by kernel_rfl
theorem wv : an Tryz.prog 251 3 = some (4, 1, false) := by kernel_rfl
theorem nS : an Tryz.prog 251 4 = some (5, 1, false) := by kernel_rfl
theorem Dv : dg Tryz.prog 120 = some (37, 4, 2, true) := by kernel_rfl
theorem jz : dg Tryz.prog 122 = some (37, 3, 2, true) := by kernel_rfl
theorem Dt : dg Tryz.prog 209 = some (3, 4, 1, false) := by kernel_rfl
theorem AV : dg Tryz.prog 232 = some (238, 37, 2, true) := by kernel_rfl
theorem AW : dg Tryz.prog 233 = some (238, 4, 2, true) := by kernel_rfl
theorem AX : dg Tryz.prog 249 = some (54, 4, 4, true) := by kernel_rfl
theorem fO : cj Tryz.prog 22 = some (1, 8) := by kernel_rfl
theorem m5 : cj Tryz.prog 26 = some (5, 72) := by kernel_rfl
theorem ei : cj Tryz.prog 29 = some (12, 176) := by kernel_rfl
theorem bv : cj Tryz.prog 30 = some (9, 104) := by kernel_rfl
theorem dI : cj Tryz.prog 41 = some (5, 40) := by kernel_rfl
theorem cX : cj Tryz.prog 42 = some (4, 32) := by kernel_rfl
theorem pA : cj Tryz.prog 47 = some (2, 16) := by kernel_rfl
theorem CS : cj Tryz.prog 99 = some (1, 8) := by kernel_rfl
theorem ET : cj Tryz.prog 212 = some (1, 8) := by kernel_rfl
theorem vk : cj Tryz.prog 224 = some (1, 24) := by kernel_rfl
theorem a7 : aH Tryz.prog 3 = some (1, false) := by kernel_rfl
theorem vu : aH Tryz.prog 4 = some (1, false) := by kernel_rfl
theorem IK : aH Tryz.prog 21 = some (1, false) := by kernel_rfl
theorem eR : aH Tryz.prog 22 = some (1, false) := by kernel_rfl
theorem mm : aH Tryz.prog 23 = some (1, false) := by kernel_rfl
theorem bY : aH Tryz.prog 25 = some (5, true) := by kernel_rfl
theorem Bp : aH Tryz.prog 26 = some (1, false) := by kernel_rfl
theorem cP : aH Tryz.prog 29 = some (1, false) := by kernel_rfl
theorem bl : aH Tryz.prog 30 = some (1, false) := by kernel_rfl
theorem bS : aH Tryz.prog 32 = some (9, true) := by kernel_rfl
theorem aU : aH Tryz.prog 37 = some (2, true) := by kernel_rfl
theorem ce : aH Tryz.prog 40 = some (5, true) := by kernel_rfl
theorem dp : aH Tryz.prog 41 = some (1, false) := by kernel_rfl
theorem dM : aH Tryz.prog 42 = some (1, false) := by kernel_rfl
theorem aJ : aH Tryz.prog 44 = some (2, true) := by kernel_rfl
theorem dL : aH Tryz.prog 46 = some (9, true) := by kernel_rfl
theorem gA : aH Tryz.prog 50 = some (4, true) := by kernel_rfl
theorem bX : aH Tryz.prog 52 = some (12, true) := by kernel_rfl
theorem ch : aH Tryz.prog 54 = some (4, true) := by kernel_rfl
theorem ly : aH Tryz.prog 73 = some (5, true) := by kernel_rfl
theorem Bv : aH Tryz.prog 90 = some (1, false) := by kernel_rfl
theorem pR : aH Tryz.prog 92 = some (16, true) := by kernel_rfl
theorem EV : aH Tryz.prog 105 = some (1, false) := by kernel_rfl
theorem qZ : aH Tryz.prog 106 = some (1, false) := by kernel_rfl
theorem Bu : aH Tryz.prog 108 = some (2, true) := by kernel_rfl
theorem Bt : aH Tryz.prog 120 = some (1, false) := by kernel_rfl
theorem xZ : aH Tryz.prog 122 = some (1, false) := by kernel_rfl
theorem vt : aH Tryz.prog 147 = some (1, false) := by kernel_rfl
theorem EU : aH Tryz.prog 148 = some (3, true) := by kernel_rfl
theorem pQ : aH Tryz.prog 163 = some (2, true) := by kernel_rfl
theorem pP : aH Tryz.prog 186 = some (1, false) := by kernel_rfl
theorem Br : aH Tryz.prog 209 = some (1, false) := by kernel_rfl
theorem vr : aH Tryz.prog 232 = some (1, false) := by kernel_rfl
theorem Bq : aH Tryz.prog 233 = some (1, false) := by kernel_rfl
theorem rI : aH Tryz.prog 235 = some (2, true) := by kernel_rfl
theorem lz : aH Tryz.prog 238 = some (2, true) := by kernel_rfl
theorem nB : aH Tryz.prog 242 = some (3, true) := by kernel_rfl
theorem Bs : aH Tryz.prog 246 = some (1, false) := by kernel_rfl
theorem wH : aH Tryz.prog 249 = some (1, false) := by kernel_rfl
theorem nC : aH Tryz.prog 252 = some (1, false) := by kernel_rfl
theorem CZ : jw Tryz.prog 3 = some (LV.p (PV.int IntKind.i64 0)) := by kernel_rfl
theorem HA : jw Tryz.prog 4 = some (LV.p (PV.bool false)) := by kernel_rfl
theorem IM : jw Tryz.prog 37 = some (LV.p (PV.agg [PV.int IntKind.u64 0, PV.int IntKind.u64 0])) := by kernel_rfl
theorem IZ : bB Tryz.prog 3 = some [LV.p (PV.int IntKind.i64 0)] := by kernel_rfl
theorem Zz : bB Tryz.prog 22 = some [LV.zs] := by kernel_rfl
theorem IP : bB Tryz.prog 25 = some [LV.zs, LV.p (PV.int IntKind.u64 0), LV.p (PV.int IntKind.i64 0), LV.p (PV.int IntKind.i64 0), LV.p (PV.int IntKind.i64 0)] := by kernel_rfl
theorem j7 : bB Tryz.prog 32 = some [LV.zs, LV.p (PV.int IntKind.u64 0), LV.p (PV.int IntKind.i64 0), LV.p (PV.int IntKind.i64 0), LV.p (PV.int IntKind.i64 0), LV.zs, LV.p (PV.int IntKind.i64 0), LV.zs, LV.zs] := by kernel_rfl
theorem j8 : bB Tryz.prog 37 = some [LV.p (PV.int IntKind.u64 0), LV.p (PV.int IntKind.u64 0)] := by kernel_rfl
theorem ui : bB Tryz.prog 40 = some [LV.p (PV.int IntKind.i64 0), LV.p (PV.int IntKind.i64 0), LV.p (PV.int IntKind.u64 0), LV.p (PV.int IntKind.u64 0), LV.p (PV.int IntKind.u64 0)] := by kernel_rfl
theorem IQ : bB Tryz.prog 42 = some [LV.zs] := by kernel_rfl
theorem iO : bB Tryz.prog 44 = some [LV.zs, LV.zs] := by kernel_rfl
theorem nf : bB Tryz.prog 46 = some [LV.p (PV.int IntKind.i64 0), LV.p (PV.int IntKind.i64 0), LV.p (PV.int IntKind.i64 0), LV.p (PV.int IntKind.i64 0), LV.p (PV.int IntKind.u64 0), LV.p (PV.int IntKind.u64 0), LV.p (PV.int IntKind.u64 0), LV.zs, LV.zs] := by kernel_rfl
theorem IN : bB Tryz.prog 50 = some [LV.p (PV.int IntKind.u64 0), LV.p (PV.int IntKind.u64 0), LV.p (PV.int IntKind.i64 0), LV.p (PV.int IntKind.i64 0)] := by kernel_rfl
theorem ne : bB Tryz.prog 52 = some [LV.p (PV.int IntKind.i64 0), LV.p (PV.int IntKind.i64 0), LV.zs, LV.zs, LV.zs, LV.zs, LV.zs, LV.p (PV.int IntKind.u64 0), LV.p (PV.int IntKind.u64 0), LV.p (PV.int IntKind.i64 0), LV.p (PV.int IntKind.i64 0), LV.p (PV.bool false)] := by kernel_rfl
theorem rL : bB Tryz.prog 54 = some [LV.p (PV.int IntKind.i64 0), LV.p (PV.int IntKind.i64 0), LV.p (PV.int IntKind.u64 0), LV.p (PV.int IntKind.u64 0)] := by kernel_rfl
theorem BD : bB Tryz.prog 73 = some [LV.p (PV.int IntKind.i64 0), LV.p (PV.int IntKind.i64 0), LV.p (PV.bool false), LV.zs, LV.zs] := by kernel_rfl
theorem vC : bB Tryz.prog 92 = some [LV.zs, LV.p (PV.int IntKind.u64 0), LV.p (PV.int IntKind.i64 0), LV.p (PV.int IntKind.i64 0), LV.p (PV.int IntKind.i64 0), LV.zs, LV.p (PV.int IntKind.i64 0), LV.zs, LV.zs, LV.zs, LV.zs, LV.p (PV.int IntKind.i64 0), LV.p (PV.bool false), LV.any, LV.p (PV.int IntKind.i64 0), LV.zs] := by kernel_rfl
theorem HB : bB Tryz.prog 106 = some [LV.any] := by kernel_rfl
theorem BF : bB Tryz.prog 108 = some [LV.any, LV.any] := by kernel_rfl
theorem HE : bB Tryz.prog 120 = some [LV.nilmap] := by kernel_rfl
theorem EY : bB Tryz.prog 148 = some [LV.any, LV.any, LV.any] := by kernel_rfl
theorem vA : bB Tryz.prog 163 = some [LV.p (PV.int IntKind.u64 0), LV.p (PV.int IntKind.u64 0)] := by kernel_rfl
theorem HC : bB Tryz.prog 209 = some [LV.nilmap] := by kernel_rfl
theorem vB : bB Tryz.prog 235 = some [LV.nilmap, LV.nilmap] := by kernel_rfl
theorem BE : bB Tryz.prog 238 = some [LV.p (PV.int IntKind.i64 0), LV.p (PV.int IntKind.i64 0)] := by kernel_rfl
theorem DL : bB Tryz.prog 242 = some [LV.p (PV.int IntKind.i64 0), LV.p (PV.int IntKind.u64 0), LV.p (PV.int IntKind.u64 0)] := by kernel_rfl
theorem HD : bB Tryz.prog 246 = some [LV.any] := by kernel_rfl
theorem DM : bB Tryz.prog 252 = some [LV.any] := by kernel_rfl
end
abbrev ID := Int × Int
def cr (p : ID) : PV := .agg [.int .u64 p.1, .int .u64 p.2]
def j5 (x : Int) : PV := .int .u64 x
structure Bk where
 Slot : Int
 From : Int
 Parent : ID
 Salt : Int
 deriving DecidableEq
def ax (b : Bk) : PV := .agg [.int .i64 b.Slot, .int .i64 b.From, .int .u64 b.Parent.1, .int .u64 b.Parent.2, .int .u64 b.Salt]
structure Vt where
 From : Int
 Slot : Int
 Head : ID
 deriving DecidableEq
def aD (v : Vt) : PV := .agg [.int .i64 v.From, .int .i64 v.Slot, .int .u64 v.Head.1, .int .u64 v.Head.2]
structure Cf where
 W : List Int
 Seed : Int
 Epoch : Int
 Num : Int
 Den : Int
def kz (c : Cf) : PV := .agg [.slice 1 (c.W.map aB), .int .u64 c.Seed, .int .i64 c.Epoch, .int .i64 c.Num, .int .i64 c.Den]
structure Vw where
 B : List Bk
 V : List Vt
def kQ (v : Vw) : PV := .agg [.slice 5 (v.B.map ax), .slice 4 (v.V.map aD)]
structure Cu where
 ID : Go.Mg.ID
 Slot : Int
 Revoked : Int
 deriving DecidableEq
def p3 (c : Cu) : PV := .agg [.int .u64 c.ID.1, .int .u64 c.ID.2, .int .i64 c.Slot, .int .i64 c.Revoked]
structure Rk where
 n : Int
 id : Go.Mg.ID
def IY (c : Rk) : PV := .agg [.int .i64 c.n, .int .u64 c.id.1, .int .u64 c.id.2]
theorem GF {a b : ID} {r : Bool} (h : b8 [.int .u64 a.1, .int .u64 a.2] [.int .u64 b.1, .int .u64 b.2] = some r) : r = decide (a = b) := by
 rw [oN] at h;cases h;obtain ⟨x, y⟩ := a;obtain ⟨z, w⟩ := b;simp only [Bool.and_true, Prod.mk.injEq];by_cases h1 : x = z <;> by_cases h2 : y = w <;> simp [h1, h2]
theorem dX : eF cr 2 true := ⟨fun a b => by
 obtain ⟨x, y⟩ := a;obtain ⟨z, w⟩ := b;simp only [cr, gr, oN, Bool.and_true, Prod.mk.injEq, Option.some.injEq]
 by_cases h1 : x = z <;> by_cases h2 : y = w <;> simp [h1, h2], fun _ => rfl⟩
theorem AJ : eF aB 1 false := ⟨fun a b => by simp only [aB, gr, if_pos, Option.some.injEq]; by_cases h : a = b <;> simp [h], fun _ => rfl⟩
theorem wI : eF aD 4 true := ⟨fun a b => by
 obtain ⟨a1, a2, a3⟩ := a;obtain ⟨b1, b2, b3⟩ := b;simp only [aD, gr, b8, if_pos, Option.some.injEq, Vt.mk.injEq];rw [Bool.eq_iff_iff];obtain ⟨a3, a4⟩ := a3;obtain ⟨b3, b4⟩ := b3
 simp, fun _ => rfl⟩
theorem CF (a b : ID) : ((a.1 == b.1) && ((a.2 == b.2) && true)) = decide (a = b) := by
 obtain ⟨x, y⟩ := a;obtain ⟨z, w⟩ := b;by_cases h1 : x = z <;> by_cases h2 : y = w <;> simp [h1, h2]
theorem ED (a b : Bk) : ((a.Slot == b.Slot) && ((a.From == b.From) && ((a.Parent.1 == b.Parent.1) && ((a.Parent.2 == b.Parent.2) && ((a.Salt == b.Salt) && true))))) = decide (a = b) := by
 obtain ⟨a1, a2, ⟨a3, a4⟩, a5⟩ := a;obtain ⟨b1, b2, ⟨b3, b4⟩, b5⟩ := b;simp only [Bool.and_true, Bk.mk.injEq, Prod.mk.injEq];rw [Bool.eq_iff_iff];simp [and_assoc]
theorem GA (a b : Vt) : ((a.From == b.From) && ((a.Slot == b.Slot) && ((a.Head.1 == b.Head.1) && ((a.Head.2 == b.Head.2) && true)))) = decide (a = b) := by
 obtain ⟨a1, a2, ⟨a3, a4⟩⟩ := a;obtain ⟨b1, b2, ⟨b3, b4⟩⟩ := b;rw [Bool.eq_iff_iff];simp
abbrev kB (l : List Bk) : LV := .p (.slice 5 (l.map ax))
abbrev kV (l : List Vt) : LV := .p (.slice 4 (l.map aD))
abbrev kI (l : List Int) : LV := .p (.slice 1 (l.map aB))
abbrev jB (i : Nat) (l : List Bk) : LV := .vec 5 i (l.map ax).length 0 (l.map ax).length
abbrev jV (i : Nat) (l : List Vt) : LV := .vec 4 i (l.map aD).length 0 (l.map aD).length
abbrev jI (i : Nat) (l : List Int) : LV := .vec 1 i (l.map aB).length 0 (l.map aB).length
abbrev mQ (m : List (ID × Int)) : aa := .map (ah cr (fun v => .p (.int .i64 v)) m)
abbrev mR (m : List (Vt × Bool)) : aa := .map (ah aD (fun v => .p (.bool v)) m)
abbrev bN (c : Cf) : List LV := [.p (.slice 1 (c.W.map aB)), .p (.int .u64 c.Seed), .p (.int .i64 c.Epoch), .p (.int .i64 c.Num), .p (.int .i64 c.Den)]
abbrev dr (w : Vw) : List LV := [.p (.slice 5 (w.B.map ax)), .p (.slice 4 (w.V.map aD))]
open Go.Proofs
def G4 (x : Int) : Int :=
 let a := IntKind.u64.wrap (bits .xor .u64 x (x.fdiv (2 ^ (min (Int.toNat 30) IntKind.u64.bits))) * 13787848793156543929)
 let b := IntKind.u64.wrap (bits .xor .u64 a (a.fdiv (2 ^ (min (Int.toNat 27) IntKind.u64.bits))) * 10723151780598845931)
 bits .xor .u64 b (b.fdiv (2 ^ (min (Int.toNat 31) IntKind.u64.bits)))
def step (h x : Int) : Int := G4 (IntKind.u64.wrap (bits .xor .u64 h x + 11400714819323198485))
def IV (x : Int) : Int := bits .xor .u64 (if IntKind.u64.signed then -1 else IntKind.u64.max) x
theorem Ih {x : Int} : aw Tryz.prog 125 [.int .u64 x] [.int .u64 (G4 x)] := by
 refine zh Tryz.func125 Z Z Z Z ?_;refine zQ<|zR<|yS Z (za Z Z)<|zN<|zT<|zQ<|zR<|yS Z (zm Z Z)<|yS Z (zm Z Z)<|yS Z (ab.shr Z Z Z (by decide))<|yS Z (ay Z Z Z Z)<|yS Z (ay Z Z Z Z)<|yS Z (za Z Z)<|zN<|zT<|zQ<|zR<|yS Z (zm Z Z)<|yS Z (zm Z Z)<|yS Z (ab.shr Z Z Z (by decide))<|yS Z (ay Z Z Z Z)<|yS Z (ay Z Z Z Z)<|yS Z (za Z Z)<|zN ?_;exact zT<|zQ<|zR<|yS Z (zm Z Z)<|yS Z (zm Z Z)<|yS Z (ab.shr Z Z Z (by decide))<|yS Z (ay Z Z Z Z)<|yS Z (za Z Z)<|zN<|zT<|zr<|zf (.one (.tmp Z)) zv
theorem sN {h x : Int} : aw Tryz.prog 70 [.int .u64 h, .int .u64 x] [.int .u64 (step h x)] := by
 refine zh Tryz.func70 Z Z Z Z ?_;exact zQ<|zR<|yS Z (za Z Z)<|zN<|zT<|zQ<|zR<|yS Z (zm Z Z)<|yS Z (zm Z Z)<|yS Z (ay Z Z Z Z)<|yS Z (ay Z Z Z Z)<|yS Z (zC Z Z Z (by kernel_rfl) (zp Ih (.cons zv .nil)))<|yS Z (za Z Z)<|zN<|zT<|zr<|zf (.one (.tmp Z)) zv
theorem FI {x a b : Int} {id : Nat} {H H' : List aa} (hH : aI H id = some (.box [(uQ a), (uQ b)])) (hH' : aN H id (.box [.p (.int .u64 (step a x)), .p (.int .u64 (step b (IV x)))]) = some H') : LC Tryz.prog 102 [(uQ x), .ptr id 0] H (Is (.tup []) H') := by
 refine dq Tryz.func102 Z Z Z ?_;exact LW.drawLast (m := 10) (by kernel_rfl) (by kernel_rfl) (by kernel_rfl)<|yE Z (ab.indexAddrA Z Z Z xe (by decide) (by decide))<|yE Z (zD Z Z hH mm Z Z)<|yE Z (zm Z Z)<|yE Z (zC Z Z Z (by kernel_rfl) (zp sN (.cons zv (.cons zv .nil))))<|yE Z (ab.indexAddrA Z Z Z xe (by decide) (by decide))<|yE Z (zD Z Z hH mm Z Z)<|yE Z (zm Z Z)<|yE Z (ab.compl Z Z)<|yE Z (zC Z Z Z (by kernel_rfl) (zp sN (.cons zv (.cons zv .nil))))<|yE Z (ab.build Z xf Z Z Z)<|LO.nil<|yS Z (zs Z Z Z hH aU Z Z Z hH')<|zN<|fL .none<|⟨rfl, rfl⟩
open Go.Proofs
def lZ (p : Int × Int) (x : Int) : Int × Int := (step p.1 x, step p.2 (IV x))
def AU (l : List Int) : Int × Int := lZ (l.foldl lZ (1, 2)) (IntKind.u64.wrap l.length)
theorem Je {l : List Int} : aw Tryz.prog 54 [.slice 1 (l.map j5)] [cr (AU l)] := by
 refine zh Tryz.func54 Z Z Z Z ?_;refine zQ ?_;refine LW.ok (t := 0) Z<|fun ok => ?_;have hlen := ok.len;simp only [List.length_map, maxLen] at hlen;refine zR<|yS Z (ze Z j8 Z Z)<|zN<|zT<|zQ<|zR<|yS Z (ab.build Z xf Z Z Z)<|yS Z (ze Z j8 Z Z)<|yS Z (zs Z Z Z Z aU Z Z Z Z)<|zN<|zT<|zQ<|zR<|yS Z (ab.makeFunc Z Z Z)<|yS Z (za Z Z)<|zN<|zT<|zQ<|zQ<|zR<|yS Z (zm Z Z)<|yS Z (ab.len Z Z (by kernel_rfl))<|yS Z (zm Z Z)<|zN ?_;refine zT<|zl ?_;refine LW.loopOf (E := fun x : Nat × Int × Int => [(0, .p (.slice 1 (l.map j5))), (2, .ptr 0 0), (3, .ptr 1 0), (4, .fn 102 [] [.ptr 1 0]), (9, .p (.slice 1 (l.map j5))), (10, .p (.int .i64 (l.map j5).length)), (11, .p (.int .i64 (x.1 : Nat)))]) (O := fun x => [.box [(uQ 0), (uQ 0)], .box [(uQ x.2.1), (uQ x.2.2)]]) (G := fun x => x.1 ≤ l.length ∧ x.2 = (l.take x.1).foldl lZ (1, 2)) (meas := fun x => l.length - x.1) (0, 1, 2) (zW 2 ⟨rfl, rfl, rfl, rfl, rfl, rfl, rfl, trivial⟩ Z Z Z Z) ⟨Nat.zero_le _, rfl⟩<|fun x hx => ?_;refine zQ<|zR<|yS Z (ay Z Z Z Z)<|zN<|zT<|zQ ?_;refine zX Z (fun g1 => ?_)<|fun g1 => ?_
 ·
  refine zk<|zT<|zQ<|zl<|zQ ?_
  have hlt : x.1 < l.length := by simpa using g1
  obtain ⟨y, hy⟩ := lX hlt;refine zR (yS Z (ab.indexAddr Z Z Z CS (by omega) (rv hy) Z) (yS Z (cR Z Z Z mm Z Z) (yS Z (za Z Z) (zN (zT (zR (yS Z (zm Z Z) (yS Z (zm Z Z) (yS Z (zC Z Z Z (by kernel_rfl) (FI (id := 1) Z Z)) (zN (ai (zT (zR (yS Z (ab.isEq (y := .p (.int .i64 ((x.1 + 1 : Nat) : Int))) (ay Z Z Z Z) (by rw [eA (by omega) (by omega)]; rfl)) (yS Z (zm Z Z) (zN (zT ?_)))))))))))))))));refine ⟨(x.1 + 1, lZ x.2 y), ?_, ?_, zW 2 ⟨rfl, rfl, rfl, rfl, rfl, rfl, rfl, trivial⟩ Z Z Z rfl⟩
  ·simp only; omega
  ·refine ⟨hlt, ?_⟩; rw [List.take_add_one, hy, List.foldl_append, ← hx.2]; rfl
 ·
  refine zq<|ao<|ao<|zy<|zT<|zQ ?_
  have hnlt : ¬ x.1 < l.length := by simpa using g1
  have hend : x.1 = l.length := by omega
  have hfold : x.2 = l.foldl lZ (1, 2) := by rw [hx.2, hend, List.take_length]
  refine zR<|yS Z (zm Z Z)<|yS Z (zm Z Z)<|yS Z (ab.len Z Z (by kernel_rfl))<|yS Z (ab.convert (k' := .u64) Z Z (by kernel_rfl))<|yS Z (zC Z Z Z (by kernel_rfl) (FI (id := 1) Z Z))<|zN<|zT<|zQ<|zR<|yS Z (zD Z Z Z aU Z Z)<|yS Z (zs Z Z Z Z aU Z Z Z Z)<|zN<|zT<|zr<|zf (.one (.cellAgg Z Z (by kernel_rfl) Z))<|Conv.pe ?_;simp only [List.length_map, cr, AU, ← hfold];rfl
open Go.Proofs
def qM (b : Bk) : List Int := [1, IntKind.u64.wrap b.Slot, IntKind.u64.wrap b.From, b.Parent.1, b.Parent.2, b.Salt]
def nm (b : Bk) : ID := AU (qM b)
def aR (l : List ID) (v : ID) : Int := match l.findIdx? (fun x => decide (v = x)) with | some i => (i : Nat) | none => -1
theorem li {l : List ID} {v : ID} {i : Nat} (h : l[i]? = some v) (hno : ∀ j, j < i → l[j]? ≠ some v) : aR l v = i := by
 have hi := (List.getElem?_eq_some_iff.1 h).1
 have : l.findIdx? (fun x => decide (v = x)) = some i := by
  rw [List.findIdx?_eq_some_iff_getElem];refine ⟨hi, by simp [(List.getElem?_eq_some_iff.1 h).2], fun j hj => ?_⟩;have := hno j hj;rw [List.getElem?_eq_getElem (by omega)] at this;simpa using fun e => this (by rw [e])
 simp [aR, this]
theorem lS {l : List ID} {v : ID} (hno : ∀ j, j < l.length → l[j]? ≠ some v) : aR l v = -1 := by
 have : l.findIdx? (fun x => decide (v = x)) = none := by
  rw [List.findIdx?_eq_none_iff];intro x hx;obtain ⟨j, hj, rfl⟩ := List.mem_iff_getElem.1 hx;have := hno j hj;rw [List.getElem?_eq_getElem hj] at this;simpa using fun e => this (by rw [e])
 simp [aR, this]
theorem E7 {b : Bk} : aw Tryz.prog 19 [ax b] [cr (nm b)] := by
 refine zh Tryz.func19 Z Z Z Z ?_;refine zQ<|zR<|yS Z (bT Z Z Z Z Z)<|yS Z (ze Z j8 Z Z)<|zN<|zT<|zQ<|zR<|yS Z (zA Z Z jQ)<|yS Z (zD Z Z Z a7 Z Z)<|yS Z (ab.convert (k' := .u64) Z Z (by kernel_rfl))<|yS Z (zA Z Z uR)<|yS Z (zD Z Z Z a7 Z Z)<|yS Z (ab.convert (k' := .u64) Z Z (by kernel_rfl))<|yS Z (zA Z Z ld)<|yS Z (ab.indexAddrA Z Z Z xe (by decide) (by decide))<|yS Z (zD Z Z Z mm Z Z)<|yS Z (zA Z Z ld)<|yS Z (ab.indexAddrA Z Z Z xe (by decide) (by decide))<|yS Z (zD Z Z Z mm Z Z)<|yS Z (zA Z Z EH)<|yS Z (zD Z Z Z mm Z Z)<|yS Z (nb Z CS Z Z Z Z Z)<|yS Z (zC Z Z Z (by kernel_rfl) (zp (Je (l := qM b)) (.cons zv .nil))) ?_;exact yS Z (zs Z Z Z Z aU Z Z Z Z)<|zN<|zT<|zr<|zf (.one (.cellAgg Z Z (by kernel_rfl) Z)) zv
theorem HN {l : List ID} {v : ID} : aw Tryz.prog 119 [.slice 2 (l.map cr), cr v] [.int .i64 (aR l v)] := by
 refine zh Tryz.func119 Z Z Z Z ?_;refine zQ ?_;refine LW.ok (t := 0) Z<|fun ok => ?_;have hlen := ok.len;simp only [List.length_map, maxLen] at hlen;refine zR<|yS Z (bT Z Z Z Z Z)<|yS Z (za Z Z)<|zN<|zT<|zQ<|zQ<|zR<|yS Z (zm Z Z)<|yS Z (ab.len Z Z (by kernel_rfl))<|yS Z (zm Z Z)<|zN<|zT<|zl ?_;refine LW.loopOf (E := fun x : Nat => [(0, .p (.slice 2 (l.map cr))), (3, .ptr 0 0), (6, .p (.slice 2 (l.map cr))), (7, .p (.int .i64 (l.map cr).length)), (8, .p (.int .i64 (x : Nat)))]) (O := fun x => [.box [(uQ v.1), (uQ v.2)]]) (G := fun x => x ≤ l.length ∧ ∀ j, j < x → l[j]? ≠ some v) (meas := fun x => l.length - x) 0 (zW 1 ⟨rfl, rfl, rfl, rfl, rfl, trivial⟩ Z Z Z Z) ⟨Nat.zero_le _, fun j hj => absurd hj (by omega)⟩<|fun x hx => ?_;refine zQ<|zR<|yS Z (ay Z Z Z Z)<|zN<|zT<|zQ ?_;refine zX Z (fun g1 => ?_)<|fun g1 => ?_
 ·
  refine zk<|zT<|zQ<|zl<|zQ ?_
  have hlt : x < l.length := by simpa using g1
  obtain ⟨y, hy⟩ := lX hlt;refine zR<|yS Z (zm Z Z)<|yS Z (za Z Z)<|zN<|zT<|zQ<|LW.draw2 (by kernel_rfl) (by kernel_rfl)<|yE Z (zD Z Z Z aU Z Z)<|yE Z (zm Z Z)<|yE Z (zm Z Z)<|yE Z (ab.indexAddr Z Z Z pA (by omega) (rv hy) Z)<|yE Z (cR Z Z Z aU Z Z)<|yE Z (ab.eqlAgg Z Z Z Z Z sX)<|LO.nil<|zT ?_;refine zX Z (fun g2 => ?_)<|fun g2 => ?_
  ·
   refine zQ ?_;have he : v = y := of_decide_eq_true ((GF (a := v) (b := y) rfl).symm.trans g2);exact zR (yS Z (zm Z Z) (yS Z (za Z Z) (zN (zT (zr (aq (af (af (aq (af (zf (.one (.tmp Z)) (Conv.pe (by rw [li (hy.trans (congrArg some he.symm)) hx.2])))))))))))))
  ·
   refine zk<|ai<|zT ?_;have hne : v ≠ y := of_decide_eq_false ((GF (a := v) (b := y) rfl).symm.trans g2);refine zR (yS Z (ab.isEq (y := .p (.int .i64 ((x + 1 : Nat) : Int))) (ay Z Z Z Z) (by rw [eA (by omega) (by omega)]; rfl)) (yS Z (zm Z Z) (zN (zT ?_))));refine ⟨x + 1, ?_, ?_, zW 1 ⟨rfl, rfl, rfl, rfl, rfl, trivial⟩ Z Z Z rfl⟩
   ·omega
   ·exact ⟨hlt, fun j hj => by rcases Nat.lt_succ_iff_lt_or_eq.1 hj with h | h; exact hx.2 j h; subst h; rw [hy]; exact fun e => hne (zJ e).symm⟩
 ·
  refine zq<|ao<|ao<|zy<|zT<|zQ ?_
  have hnlt : ¬ x < l.length := by simpa using g1
  have hend : x = l.length := by omega
  exact zR (yS Z (za Z Z) (zN (zT (zr (zf (.one (.tmp Z)) (Conv.pe (by rw [lS fun j hj => hx.2 j (by omega)])))))))
theorem Jd {l : List ID} {v : ID} : aw Tryz.prog 65 [.slice 2 (l.map cr), cr v] [.bool (decide (aR l v ≥ 0))] := by
 refine zh Tryz.func65 Z Z Z Z ?_;exact zQ<|zR<|yS Z (bT Z Z Z Z Z)<|yS Z (za Z Z)<|zN<|zT<|zQ<|zR<|yS Z (zm Z Z)<|yS Z (zD Z Z Z aU Z Z)<|yS Z (zC Z Z Z (by kernel_rfl) (zp HN (.cons zv (.cons zv .nil))))<|yS Z (ay Z Z Z Z)<|yS Z (za Z Z)<|zN<|zT<|zr<|zf (.one (.tmp Z)) zv
open Go.Proofs
def bV (l : List Bk) (i : Int) : Int := if i = -1 then 0 else match l[i.toNat]? with
 | some b => b.Slot
 | none => 0
abbrev Dp : Int → LV := fun v => (iQ v)
def dZ (l : List Bk) : List Bk → Nat → List (ID × Int) → Option (List (ID × Int))
 | [], _, m => some m
 | b :: r, i, m => match aj m b.Parent with
  | none => none
  | some p => if b.Slot ≤ bV l p then none else match aj m (nm b) with
   | some _ => none
   | none => dZ l r (i + 1) (m ++ [(nm b, (i : Int))])
def places (l : List Bk) : Option (List (ID × Int)) := dZ l l 0 [((0, 0), -1)]
theorem ey {l : List Bk} {i : Nat} {y : Bk} (hy : l[i]? = some y) (m : List (ID × Int)) : dZ l (l.drop i) i m = match aj m y.Parent with
  | none => none
  | some p => if y.Slot ≤ bV l p then none else match aj m (nm y) with
   | some _ => none
   | none => dZ l (l.drop (i + 1)) (i + 1) (m ++ [(nm y, (i : Int))]) := by
 obtain ⟨hi, rfl⟩ := List.getElem?_eq_some_iff.1 hy;rw [List.drop_eq_getElem_cons hi];rfl
theorem If {l : List Bk} {i : Int} {id : Nat} {H : List aa} (hH : aI H id = some (.box [(kB l)])) (hi : i = -1 ∨ 0 ≤ i ∧ i < l.length) :
  LC Tryz.prog 127 [(iQ i), .ptr id 0] H (Is (.p (.int .i64 (bV l i))) H) := by
 refine dq Tryz.func127 Z Z Z ?_;refine zQ<|zR<|yS Z (za Z Z)<|zN<|zT<|zQ<|zQ<|zR<|yS Z (zm Z Z)<|yS Z (ay Z Z Z Z)<|zN<|zT ?_;refine zX Z (fun g1 => ?_)<|fun g1 => ?_
 ·
  refine zQ ?_
  have he : i = -1 := by simpa using g1
  exact zR<|yS Z (za Z Z)<|zN<|zT<|zr<|af<|ap (.one (.tmp Z))<|⟨by simp [bV, he], rfl⟩
 ·
  refine zk<|zT<|zQ ?_
  have hne : i ≠ -1 := by simpa using g1
  obtain ⟨y, hy⟩ := lX (l := l) (i := i.toNat) (by omega)
  have hiy : (l.map ax)[i.toNat]? = some (ax y) := by simp [hy]
  exact zR<|yS Z (zD Z Z hH dp Z Z)<|yS Z (zm Z Z)<|yS Z (ab.indexAddr Z Z Z dI (by omega) hiy Z)<|yS Z (ab.fieldAddrC Z Z jQ Z)<|yS Z (cR Z Z Z a7 Z Z)<|yS Z (za Z Z)<|zN<|zT<|zr<|ap (.one (.tmp Z))<|⟨by simp [bV, hne, hy], rfl⟩
theorem c94 {l : List Bk} : LC Tryz.prog 75 [(kB l)] [] fun x H =>
  (∃ m, places l = some m ∧ x = .tup [.map 1, (bQ true)] ∧ H = [.box [(kB l)], .map (ah cr Dp m)]) ∨ (places l = none ∧ x = .tup [.nilmap, (bQ false)] ∧ H = []) := by
 refine dq Tryz.func75 Z Z Z ?_;refine zQ ?_;refine LW.ok (t := 0) Z<|fun ok => ?_;have hlen := ok.len;simp only [List.length_map, maxLen] at hlen;refine zR<|yS Z (bT Z Z Z Z Z)<|yS Z (za Z Z)<|yS Z (za Z Z)<|zN<|zT<|zQ<|zR<|yS Z (ab.makeMap Z Z Z)<|yS Z (ab.build Z xf Z Z Z)<|yS Z (ab.setNew (f := cr) (g := Dp) (m := []) (a := (0, 0)) (v := -1) dX Z (.inr Z) Z Z Z Z Z jz Z)<|yS Z (zm Z Z)<|yS Z (za Z Z)<|zN<|zT<|zQ<|zR<|yS Z (ab.makeFunc Z Z Z)<|yS Z (za Z Z)<|zN<|zT<|zQ<|zQ<|zR ?_;refine yS Z (zD Z Z Z dp Z Z)<|yS Z (ab.len Z Z (by kernel_rfl))<|yS Z (zm Z Z)<|zN<|zT<|zl ?_;refine LW.loopOf (E := fun x : Nat × List (ID × Int) => [(1, .ptr 0 0), (4, .map 1), (5, .fn 127 [] [.ptr 0 0]), (17, (kB l)), (18, .p (.int .i64 (l.map ax).length)), (19, .p (.int .i64 (x.1 : Nat)))]) (O := fun x => [.box [(kB l)], .map (ah cr Dp x.2)]) (G := fun x => x.1 ≤ l.length ∧ dZ l (l.drop x.1) x.1 x.2 = places l ∧ ∀ k v, aj x.2 k = some v → v = -1 ∨ 0 ≤ v ∧ v < l.length) (meas := fun x => l.length - x.1) (0, [((0, 0), -1)]) (zW 2 ⟨rfl, rfl, rfl, rfl, rfl, rfl, trivial⟩ Z Z Z (zL Z (zL (ae (fun _ => rfl) _) Z))) ⟨Nat.zero_le _, rfl, fun k v h => by unfold aj aj at h; split at h <;> cases h; exact .inl rfl⟩ (fun x hx => ?_);refine zQ<|zR<|yS Z (ay Z Z Z Z)<|zN<|zT<|zQ ?_;refine zX Z (fun g1 => ?_)<|fun g1 => ?_
 ·
  refine zk<|zT<|zQ<|zl<|zQ ?_
  have hlt : x.1 < l.length := by simpa using g1
  obtain ⟨y, hy⟩ := lX hlt;refine zR<|yS Z (zm Z Z)<|yS Z (ab.indexAddr Z Z Z dI (by omega) (rv hy) Z)<|yS Z (cR Z Z Z ce Z Z)<|yS Z (ze Z ui Z Z)<|yS Z (za Z Z)<|yS Z (zs Z Z Z Z ce Z Z Z Z)<|zN<|zT<|zQ<|zR<|yS Z (zm Z Z)<|yS Z (zA Z Z ld)<|yS Z (zD Z Z Z aU Z Z) ?_;rcases hp : aj x.2 y.Parent with _ | p
  ·
   refine yS Z ((ab.getMiss dX hp Z Z Z Z jz CZ Z))<|yS Z (zm Z Z)<|yS Z (fB Z Z Z)<|yS Z (fB Z Z Z)<|yS Z (za Z Z)<|yS Z (za Z Z)<|zN<|zT<|zQ<|zQ<|LW.draw2 (by kernel_rfl) (by kernel_rfl)<|yE Z (zm Z Z)<|yE Z (ab.not Z Z)<|yE Z (zm Z Z)<|LO.sk Z Z Z Z Z Z<|LO.sk Z Z Z Z Z Z<|LO.sk Z Z Z Z Z Z<|LO.sk Z Z Z Z Z Z<|LO.sk Z Z Z Z Z Z<|LO.sk Z Z Z Z Z Z<|yE Z (cq Z Z Z)<|LO.nil<|zT<|LW.condT Z ?_;refine zQ<|zR<|yS Z (za Z Z)<|yS Z (za Z Z)<|zN<|zT<|zr<|af<|aq<|af<|af<|aq<|af ?_;refine aQ (env' := [(2, .nilmap), (3, (bQ false))]) (H' := []) (zW 0 ⟨rfl, rfl, trivial⟩ Z Z Z Z) (.two (.tmp Z) (.tmp Z))<|.inr ⟨?_, rfl, rfl⟩;rw [← hx.2.1, ey hy]
   first | (simp only [hp]; done) | (simp only [hp]; rw [if_pos (of_decide_eq_true g2)]; done) | (simp only [hp, hq]; split <;> rfl)
  ·
   refine yS Z ((ab.getHit dX hp Z Z Z Z jz Z))<|yS Z (zm Z Z)<|yS Z (fB Z Z Z)<|yS Z (fB Z Z Z)<|yS Z (za Z Z)<|yS Z (za Z Z)<|zN<|zT<|zQ<|zQ<|LW.draw2 (by kernel_rfl) (by kernel_rfl)<|yE Z (zm Z Z)<|yE Z (ab.not Z Z)<|yE Z (zm Z Z)<|LO.gd Z Z Z Z Z (zA Z Z jQ)<|LO.gd Z Z Z Z Z (zD Z Z Z a7 Z Z)<|LO.gd Z Z Z Z Z (zm Z Z)<|LO.gd Z Z Z Z Z (zm Z Z)<|LO.gd Z Z Z Z Z (zC Z Z Z (by kernel_rfl) (If (id := 0) Z (hx.2.2 _ _ hp)))<|LO.gd Z Z Z Z Z (ay Z Z Z Z)<|yE Z (bg Z Z Z)<|LO.nil<|zT ?_;refine zX Z (fun g2 => ?_)<|fun g2 => ?_
   ·
    refine zQ<|zR<|yS Z (za Z Z)<|yS Z (za Z Z)<|zN<|zT<|zr<|af<|aq<|af<|af<|aq<|af ?_;refine aQ (env' := [(2, .nilmap), (3, (bQ false))]) (H' := []) (zW 0 ⟨rfl, rfl, trivial⟩ Z Z Z Z) (.two (.tmp Z) (.tmp Z))<|.inr ⟨?_, rfl, rfl⟩;rw [← hx.2.1, ey hy]
    first | (simp only [hp]; done) | (simp only [hp]; rw [if_pos (of_decide_eq_true g2)]; done) | (simp only [hp, hq]; split <;> rfl)
   ·
    refine zk<|zT<|zQ<|zR<|yS Z (zD Z Z Z ce Z Z)<|yS Z (zC Z Z Z (by kernel_rfl) (zp (E7 (b := y)) (.cons zv .nil)))<|yS Z (ze Z j8 Z Z)<|yS Z (zs Z Z Z Z aU Z Z Z Z)<|zN<|zT<|zQ<|zQ<|zR<|yS Z (zm Z Z)<|yS Z (zD Z Z Z aU Z Z) ?_;rcases hq : aj x.2 (nm y) with _ | q
    ·
     refine yS Z ((ab.getMiss dX hq Z Z Z Z jz CZ Z))<|yS Z (zm Z Z)<|yS Z (fB Z Z Z)<|yS Z (fB Z Z Z)<|yS Z (za Z Z)<|yS Z (za Z Z)<|zN<|zT<|zQ<|zR<|yS Z (zm Z Z)<|zN<|zT<|LW.condF Z<|zk<|zT<|zR<|yS Z (zm Z Z)<|yS Z (zD Z Z Z aU Z Z)<|yS Z (zm Z Z)<|yS Z (ab.setNew (f := cr) (g := Dp) (m := x.2) (a := nm y) (v := ((x.1 : Nat) : Int)) dX hq (.inl Z) Z Z Z Z Z jz Z)<|zN<|ai<|zT ?_;refine zR (yS Z (ab.isEq (y := .p (.int .i64 ((x.1 + 1 : Nat) : Int))) (ay Z Z Z Z) (by rw [eA (by omega) (by omega)]; rfl)) (yS Z (zm Z Z) (zN (zT ?_))));refine ⟨(x.1 + 1, x.2 ++ [(nm y, ((x.1 : Nat) : Int))]), ?_, ?_, zW 2 ⟨rfl, rfl, rfl, rfl, rfl, rfl, trivial⟩ Z Z Z (zL Z (zL (ae (fun _ => rfl) _) Z))⟩
     ·simp only; omega
     ·refine ⟨hlt, ?_, fun k v h => ?_⟩
      ·rw [← hx.2.1, ey hy]; simp only [hp, hq]; rw [if_neg (of_decide_eq_false g2)]
      ·rw [eI] at h;rcases hk : aj x.2 k with _ | u
       ·rw [hk] at h; simp only [Option.none_or] at h; split at h <;> cases h; omega
       ·rw [hk] at h; cases h; exact hx.2.2 k _ hk
    ·
     refine yS Z ((ab.getHit dX hq Z Z Z Z jz Z))<|yS Z (zm Z Z)<|yS Z (fB Z Z Z)<|yS Z (fB Z Z Z)<|yS Z (za Z Z)<|yS Z (za Z Z)<|zN<|zT<|zQ<|zR<|yS Z (zm Z Z)<|zN<|zT<|LW.condT Z<|zQ<|zR<|yS Z (za Z Z)<|yS Z (za Z Z)<|zN<|zT<|zr<|af<|aq<|af ?_;refine af<|aq<|af ?_;refine aQ (env' := [(2, .nilmap), (3, (bQ false))]) (H' := []) (zW 0 ⟨rfl, rfl, trivial⟩ Z Z Z Z) (.two (.tmp Z) (.tmp Z))<|.inr ⟨?_, rfl, rfl⟩;rw [← hx.2.1, ey hy]
     first | (simp only [hp]; done) | (simp only [hp]; rw [if_pos (of_decide_eq_true g2)]; done) | (simp only [hp, hq]; split <;> rfl)
 ·
  refine zq<|ao<|ao<|zy<|zT<|zQ ?_
  have hnlt : ¬ x.1 < l.length := by simpa using g1
  have hend : x.1 = l.length := by omega
  refine zR<|yS Z (zm Z Z)<|yS Z (za Z Z)<|yS Z (za Z Z)<|zN<|zT<|zr ?_;refine aQ (env' := [(2, .map 1), (3, (bQ true))]) (H' := [.box [(kB l)], .map (ah cr Dp x.2)]) (zW 2 ⟨rfl, rfl, trivial⟩ Z Z Z (zL Z (zL (ae (fun _ => rfl) _) Z))) (.two (.tmp Z) (.tmp Z))<|.inl ⟨x.2, ?_, rfl, rfl⟩;rw [← hx.2.1, hend, List.drop_length]; rfl
structure w9 (l : List Bk) (m : List (ID × Int)) (n : Nat) : Prop where
 zero : aj m (0, 0) = some (-1)
 known : ∀ k i, aj m k = some i → (i = -1 ∧ k = (0, 0)) ∨ ∃ b p, 0 ≤ i ∧ i < n ∧ l[i.toNat]? = some b ∧ nm b = k ∧ aj m b.Parent = some p ∧ p < i ∧ -1 ≤ p ∧ bV l p < b.Slot
 names : ∀ i b, i < n → l[i]? = some b → aj m (nm b) = some (i : Int)
theorem w9.step {l : List Bk} {m : List (ID × Int)} {n : Nat} {y : Bk} {p : Int} (h : w9 l m n) (hy : l[n]? = some y) (hp : aj m y.Parent = some p) (hs : ¬ y.Slot ≤ bV l p) (hq : aj m (nm y) = none) :
  w9 l (m ++ [(nm y, (n : Int))]) (n + 1) := by
 have old : ∀ k i, aj m k = some i → aj (m ++ [(nm y, (n : Int))]) k = some i := fun k i hk => by rw [eI, hk]; rfl
 refine ⟨old _ _ h.zero, fun k i hk => ?_, fun i b hi hb => ?_⟩
 ·rw [eI] at hk;rcases hm : aj m k with _ | j
  ·rw [hm] at hk;simp only [Option.none_or] at hk;split at hk
   ·rename_i e;cases hk;right;refine ⟨y, p, by omega, by omega, by simpa using hy, e, old _ _ hp, ?_, ?_, by omega⟩
    ·rcases h.known _ _ hp with ⟨h1, -⟩ | ⟨b, q, h1, h2, -⟩ <;> omega
    ·rcases h.known _ _ hp with ⟨h1, -⟩ | ⟨b, q, h1, h2, -⟩ <;> omega
   ·cases hk
  ·rw [hm] at hk;cases hk;rcases h.known _ _ hm with h1 | ⟨b, q, h1, h2, h3, h4, h5, h6, h7, h8⟩
   ·exact .inl h1
   ·exact .inr ⟨b, q, h1, by omega, h3, h4, old _ _ h5, h6, h7, h8⟩
 ·rcases Nat.lt_succ_iff_lt_or_eq.1 hi with hi | hi
  ·exact old _ _<|h.names i b hi hb
  ·subst hi;rw [hy] at hb; cases hb;rw [eI, hq]; simp
theorem l6 {l : List Bk} : ∀ (r : List Bk) (i : Nat) (m m' : List (ID × Int)), r = l.drop i → i ≤ l.length → w9 l m i → dZ l r i m = some m' → w9 l m' l.length
 | [], i, m, m', hr, hi, h, hg => by
  cases hg
  have : l.length ≤ i := by
   have := congrArg List.length hr;simp at this; omega
  rw [show l.length = i by omega]; exact h
 | y :: r, i, m, m', hr, hi, h, hg => by
  have hil : i < l.length := by
   have := congrArg List.length hr;simp at this; omega
  have hd := List.drop_eq_getElem_cons hil;rw [hd, List.cons.injEq] at hr;obtain ⟨rfl, rfl⟩ := hr;unfold dZ at hg;split at hg
  ·cases hg
  ·rename_i p hp;split at hg
   ·cases hg
   ·rename_i hs;split at hg
    ·cases hg
    ·rename_i hq;exact l6 _ (i + 1) _ m' Z (by omega) (h.step (List.getElem?_eq_getElem hil) hp hs hq) hg
theorem tR {l : List Bk} : ∀ (k : ID) (i : Int), aj [(((0, 0) : ID), (-1 : Int))] k = some i → (i = -1 ∧ k = (0, 0)) ∨ ∃ b p, 0 ≤ i ∧ i < (0 : Nat) ∧ l[i.toNat]? = some b ∧ nm b = k ∧ aj [(((0, 0) : ID), (-1 : Int))] b.Parent = some p ∧ p < i ∧ -1 ≤ p ∧ bV l p < b.Slot := by
 intro k i hk;unfold aj aj at hk;split at hk
 ·rename_i e; cases hk; exact .inl ⟨rfl, e.symm⟩
 ·cases hk
theorem bJ {l : List Bk} {m : List (ID × Int)} (h : places l = some m) : w9 l m l.length :=
 l6 l 0 _ m rfl (Nat.zero_le _) ⟨rfl, tR, fun i b hi => by omega⟩ h
def ed (l : List Bk) : Nat → ID → Int → List ID
 | 0, id, _ => [id]
 | n + 1, id, i => if i = -1 then [id] else match l[i.toNat]? with
  | none => [id]
  | some b => match places l with
   | none => [id]
   | some m => match aj m b.Parent with
    | none => [id]
    | some p => id :: ed l n b.Parent p
def aZ (l : List Bk) (id : ID) : List ID := match places l with
 | none => []
 | some m => match aj m id with
  | none => []
  | some i => ed l (i + 1).toNat id i
theorem sR {l : List Bk} {m : List (ID × Int)} (hpl : places l = some m) : ∀ (n : Nat) (k : Nat) (id : ID) (i : Int), i + 1 ≤ n → n ≤ k → aj m id = some i → ed l k id i = ed l n id i := by
 intro n
 induction n with
 | zero =>
  intro k id i hi hk hf
  have : i = -1 := by
   rcases (bJ hpl).known _ _ hf with ⟨h, -⟩ | ⟨_, _, h, -⟩ <;> omega
  cases k with
  | zero => rfl
  | succ k => simp [ed, this]
 | succ n ih =>
  intro k id i hi hk hf;obtain ⟨k, rfl⟩ : ∃ j, k = j + 1 := ⟨k - 1, by omega⟩;rcases (bJ hpl).known _ _ hf with ⟨h, -⟩ | ⟨b, p, h0, h1, h2, h3, h4, h5, h6, h7⟩
  ·simp [ed, h]
  ·simp only [ed, if_neg (show i ≠ -1 by omega), h2, hpl, h4];rw [ih k b.Parent p (by omega) (by omega) h4]
theorem np {l : List Bk} {m : List (ID × Int)} {id : ID} {i p : Int} {b : Bk} (hpl : places l = some m) (hne : i ≠ -1) (h0 : 0 ≤ i) (hb : l[i.toNat]? = some b) (hp : aj m b.Parent = some p) (hpi : p < i) (hp1 : -1 ≤ p) :
  ed l (i + 1).toNat id i = id :: ed l (p + 1).toNat b.Parent p := by
 obtain ⟨n, hn⟩ : ∃ n, (i + 1).toNat = n + 1 := ⟨i.toNat, by omega⟩;rw [hn];simp only [ed, if_neg hne, hb, hpl, hp];rw [sR hpl (p + 1).toNat n b.Parent p (by omega) (by omega) hp]
theorem tI {α : Type} {f : α → PV} {l : List α} {i : Int} {a : α} (h : l[i.toNat]? = some a) : (l.map f)[i.toNat]? = some (f a) := by
 simp [h]
theorem Conv.zs' {H : List aa} {m : Nat} {xs : List PV} (h : xs = []) : Conv true H .zs (.slice m xs) := by subst h; exact Conv.zs
theorem Conv.vecAll' {H : List aa} {m id n len : Nat} {xs ys : List PV} (hH : H[id]? = some (.vec m xs)) (hn : n = xs.length) (hl : len = xs.length) (h : ys = xs) : Conv true H (.vec m id n 0 len) (.slice m ys) := by
 subst h; exact Conv.vecAll hH hn hl
open Go.Proofs
theorem Gc {l : List Bk} {H : List aa} (h : places l = none) : LC Tryz.prog 75 [(kB l)] H (Is (.tup [.nilmap, (bQ false)]) H) := by
 have h0 : LC Tryz.prog 75 ([PV.slice 5 (l.map ax)].map .p) [] (Is (.tup [.nilmap, (bQ false)]) []) := c94.mono fun x H hx => by
  rcases hx with ⟨m, hm, -⟩ | ⟨-, h1, h2⟩
  ·rw [h] at hm; cases hm
  ·exact ⟨h1, h2⟩
 have := LC.frame (H := H) (d := H.length) h0 (.cons Conv.p .nil) (by rw [CL]);simpa [LV.shift, LV.shifts] using this
theorem Gd {l : List Bk} {m : List (ID × Int)} {H H1 H2 : List aa} {d : Nat} (h : places l = some m) (hd : cp H = some d) (h1 : gD H (.box [(kB l)]) = some H1) (h2 : gD H1 (.map (ah cr Dp m)) = some H2) :
  LC Tryz.prog 75 [(kB l)] H (Is (.tup [.map (d + 1), (bQ true)]) H2) := by
 have h0 : LC Tryz.prog 75 ([PV.slice 5 (l.map ax)].map .p) [] (Is (.tup [.map 1, (bQ true)]) [.box [(kB l)], .map (ah cr Dp m)]) := c94.mono fun x H hx => by
  rcases hx with ⟨m', hm, h1, h2⟩ | ⟨h1, -⟩
  ·rw [h] at hm; cases hm; exact ⟨h1, h2⟩
  ·rw [h] at h1; cases h1
 have := LC.frame (H := H) (d := d) h0 (.cons Conv.p .nil) hd;have e1 := cH h1;have e2 := cH h2;subst e1; subst e2;simpa [LV.shift, LV.shifts, aa.shift, ah, List.append_assoc, Function.comp_def] using this
theorem Iw {l : List Bk} {id : ID} (hpl : places l = none) : aw Tryz.prog 60 [.slice 5 (l.map ax), cr id] [.slice 2 ((aZ l id).map cr)] := by
 refine zh Tryz.func60 Z Z Z Z ?_;refine zQ<|zR<|yS Z (bT Z Z Z Z Z)<|yS Z (za Z Z)<|zN<|zT<|LW.scope<|zQ<|zR<|yS Z (zm Z Z)<|yS Z ((zC Z Z Z (by kernel_rfl) (Gc hpl)))<|yS Z (zm Z Z)<|yS Z (fB Z Z Z)<|yS Z (fB Z Z Z)<|yS Z (za Z Z)<|yS Z (za Z Z)<|zN<|zT<|zQ<|zQ<|zR<|yS Z (zm Z Z)<|yS Z (zD Z Z Z aU Z Z)<|yS Z ((ab.getNil dX Z Z Z jz CZ Z)) ?_;exact yS Z (zm Z Z)<|yS Z (fB Z Z Z)<|yS Z (fB Z Z Z)<|yS Z (za Z Z)<|yS Z (za Z Z)<|zN<|zT<|zQ<|zR<|yS Z (zm Z Z)<|yS Z (ab.not Z Z)<|zN<|zT<|LW.condT Z<|zQ<|zR<|yS Z (za Z Z)<|zN<|zT<|zr<|af<|A1<|zf (.one (.tmp Z))<|Conv.zs' (by simp [aZ, hpl])
theorem Ix {l : List Bk} {id : ID} {m : List (ID × Int)} (hl : l.length ≤ 1000) (hpl : places l = some m) : aw Tryz.prog 60 [.slice 5 (l.map ax), cr id] [.slice 2 ((aZ l id).map cr)] := by
 refine zh Tryz.func60 Z Z Z Z ?_;refine zQ<|zR<|yS Z (bT Z Z Z Z Z)<|yS Z (za Z Z)<|zN<|zT ?_;refine LW.jumpsOf (l := 0) (E := fun x : List ID × ID × Int => [(0, (kB l)), (3, .ptr 0 0), (5, .map 2), (9, .vec 2 3 (x.1.map cr).length 0 (x.1.map cr).length)]) (O := fun x => [.box [(uQ x.2.1.1), (uQ x.2.1.2)], .box [(kB l)], .map (ah cr Dp m), .vec 2 (x.1.map cr)]) (G := fun x => aj m x.2.1 = some x.2.2 ∧ x.1.length + (x.2.2 + 1).toNat ≤ 1001 ∧ aZ l id = x.1 ++ ed l (x.2.2 + 1).toNat x.2.1 x.2.2) (meas := fun x => (x.2.2 + 1).toNat) Z ?_<|fun x hx => ?_
 ·
  refine zQ<|zR<|yS Z (zm Z Z)<|yS Z ((zC Z Z Z (by kernel_rfl) (Gd hpl Z Z Z)))<|yS Z (zm Z Z)<|yS Z (fB Z Z Z)<|yS Z (fB Z Z Z)<|yS Z (za Z Z)<|yS Z (za Z Z)<|zN<|zT<|zQ<|zQ<|zR<|yS Z (zm Z Z)<|yS Z (zD Z Z Z aU Z Z) ?_;rcases hf : aj m id with _ | i
  ·
   refine yS Z ((ab.getMiss dX hf Z Z Z Z jz CZ Z))<|yS Z (zm Z Z)<|yS Z (fB Z Z Z)<|yS Z (fB Z Z Z)<|yS Z (za Z Z)<|yS Z (za Z Z)<|zN<|zT<|zQ<|zR<|yS Z (zm Z Z)<|yS Z (ab.not Z Z)<|zN<|zT<|LW.condT Z<|zQ<|zR<|yS Z (za Z Z)<|zN<|zT<|zr<|af<|tz<|zf (.one (.tmp Z)) ?_;refine Conv.zs' ?_;simp [aZ, hpl, hf]
  ·
   refine yS Z ((ab.getHit dX hf Z Z Z Z jz Z))<|yS Z (zm Z Z)<|yS Z (fB Z Z Z)<|yS Z (fB Z Z Z)<|yS Z (za Z Z)<|yS Z (za Z Z)<|zN<|zT<|zQ<|zR<|yS Z (zm Z Z)<|yS Z (ab.not Z Z)<|zN<|zT<|LW.condF Z<|zk<|zT<|zQ<|zR<|yS Z (za Z Z)<|zN<|zT<|zQ<|LW.label ?_;refine zT<|zQ<|zR<|yS Z (zm Z Z)<|yS Z (zD Z Z Z aU Z Z)<|yS Z (nb Z pA Z Z Z Z Z)<|yS Z (ab.appendZ Z Z Z Z kx.p pA (by simp only [List.length_singleton]; omega) Z)<|yS Z (za Z Z)<|zN<|zT<|zQ<|zQ<|zR<|yS Z (zm Z Z)<|yS Z (zD Z Z Z aU Z Z)<|yS Z ((ab.getHit dX hf Z Z Z Z jz Z))<|yS Z (za Z Z)<|zN<|zT<|zQ<|zR<|yS Z (zm Z Z)<|yS Z (ay Z Z Z Z)<|zN ?_;refine zT ?_;refine zX Z (fun g1 => ?_)<|fun g1 => ?_
   ·
    refine zQ ?_
    have hne : i ≠ -1 := by simpa using g1
    obtain ⟨h1, -⟩ | ⟨b, p, h0, hlt, hb, hnb, hp, hpi, hp1, hs⟩ := (bJ hpl).known _ _ hf
    ·exact absurd h1 hne
    have hc : aZ l id = id :: ed l (p + 1).toNat b.Parent p := by
     simp only [aZ, hpl, hf];exact np hpl hne h0 hb hp hpi hp1
    refine zR<|yS Z (zm Z Z)<|yS Z (zm Z Z)<|yS Z (ab.indexAddr Z Z Z dI (by omega) (tI hb) Z)<|yS Z (ab.fieldAddrC Z Z ld Z)<|yS Z (cR Z Z Z aU Z Z)<|yS Z (zs Z Z Z Z aU Z Z Z Z)<|zN<|zT<|LW.goto<|Dz<|AK ?_;refine ⟨([id], b.Parent, p), ?_, zW 4 ⟨rfl, rfl, rfl, rfl, trivial⟩ Z Z Z (zL Z (zL Z (zL (ae (fun _ => rfl) _) Z)))⟩
    ·exact ⟨hp, by simp only [List.length_singleton]; omega, hc⟩
   ·
    refine zk<|zT<|zQ ?_
    have hend : i = -1 := by simpa using g1
    refine zR<|yS Z (zm Z Z)<|yS Z (za Z Z)<|zN<|zT<|zr<|tz<|zf (.one (.tmp Z))<|Conv.vecAll' Z Z Z ?_;rw [show aZ l id = [id] by simp only [aZ, hpl, hf, hend]; rfl]; rfl
 ·
  refine zQ<|zk<|zT<|zQ<|zR<|yS Z (zm Z Z)<|yS Z (zD Z Z Z aU Z Z)<|yS Z (nb Z pA Z Z Z Z Z)<|yS Z (ab.appendM (f := cr) (xs := x.1) (ys := [x.2.1]) Z Z Z Z Z pA (by simp only [List.length_singleton]; omega) Z)<|yS Z (za Z Z)<|zN<|zT<|zQ<|zQ<|zR<|yS Z (zm Z Z)<|yS Z (zD Z Z Z aU Z Z)<|yS Z ((ab.getHit dX hx.1 Z Z Z Z jz Z))<|yS Z (za Z Z)<|zN<|zT<|zQ<|zR<|yS Z (zm Z Z) ?_;refine yS Z (ay Z Z Z Z)<|zN<|zT ?_;refine zX Z (fun g2 => ?_)<|fun g2 => ?_
  ·
   refine zQ ?_
   have hne : x.2.2 ≠ -1 := by simpa using g2
   obtain ⟨h1, -⟩ | ⟨b, p, h0, hlt, hb, hnb, hp, hpi, hp1, hs⟩ := (bJ hpl).known _ _ hx.1
   ·exact absurd h1 hne
   have hc := np (id := x.2.1) hpl hne h0 hb hp hpi hp1;refine zR<|yS Z (zm Z Z)<|yS Z (zm Z Z)<|yS Z (ab.indexAddr Z Z Z dI (by omega) (tI hb) Z)<|yS Z (ab.fieldAddrC Z Z ld Z)<|yS Z (cR Z Z Z aU Z Z)<|yS Z (zs Z Z Z Z aU Z Z Z Z)<|zN<|zT<|LW.goto<|Dz<|AK ?_;refine ⟨(x.1 ++ [x.2.1], b.Parent, p), ?_, ?_, zW 4 ⟨rfl, rfl, rfl, rfl, trivial⟩ Z Z Z (zL Z (zL Z (zL (ae (fun _ => rfl) _) Z)))⟩
   ·simp only; omega
   ·refine ⟨hp, ?_, ?_⟩
    ·have := hx.2.1; simp only [List.length_append, List.length_singleton]; omega
    ·rw [hx.2.2, hc, List.append_assoc]; rfl
  ·
   refine zk<|zT<|zQ ?_
   have hend : x.2.2 = -1 := by simpa using g2
   refine zR<|yS Z (zm Z Z)<|yS Z (za Z Z)<|zN<|zT<|zr<|tz<|zf (.one (.tmp Z))<|Conv.vecAll' Z Z Z ?_;rw [hx.2.2, hend]; rfl
theorem Iv {l : List Bk} {id : ID} (hl : l.length ≤ 1000) : aw Tryz.prog 60 [.slice 5 (l.map ax), cr id] [.slice 2 ((aZ l id).map cr)] := by
 rcases hpl : places l with _ | m
 ·exact Iw hpl
 ·exact Ix hl hpl
open Go.Proofs
def eg (c : Cu) (l : List Bk) (head found : ID) (is : Bool) (slot : Int) : Cu :=
 let c' : Cu := if aR (aZ l head) c.ID < 0 then ⟨(0, 0), slot, IntKind.i64.wrap (c.Revoked + 1)⟩ else c
 let at_ : Int := if aR (aZ l head) c.ID < 0 then IntKind.i64.wrap ((aZ l head).length - 1) else aR (aZ l head) c.ID
 if is = true ∧ aR (aZ l head) found ≥ 0 ∧ aR (aZ l head) found < at_ then ⟨found, slot, c'.Revoked⟩ else c'
theorem I4 {c : Cu} {l : List Bk} {head found : ID} {is : Bool} {slot : Int} (hl : l.length ≤ 1000) : aw Tryz.prog 140 [p3 c, .slice 5 (l.map ax), cr head, cr found, .bool is, .int .i64 slot] [p3 (eg c l head found is slot)] := by
 refine zh Tryz.func140 Z Z Z Z ?_;refine LW.seq<|LW.region<|am.st Z Z Z (ab.box Z Z Z Z Z)<|am.st Z Z Z (ab.box Z Z Z Z Z)<|am.st Z Z Z (ab.box Z Z Z Z Z)<|am.st Z Z Z (ab.alloc Z IN Z Z)<|am.nil<|bp<|LW.seq<|LW.region<|am.st Z Z Z (ab.move Z Z)<|am.st Z Z Z (ab.load Z Z Z aU Z Z)<|am.st Z Z Z (ab.call Z Z Z (by kernel_rfl) (LC.pure (Iv hl) (.cons Conv.p (.cons Conv.p .nil))))<|am.st Z Z Z (ab.assign Z Z)<|am.nil<|bp<|LW.seq<|LW.region<|am.st Z Z Z (ab.move Z Z)<|am.st Z Z Z (ab.fieldAddr Z Z rn)<|am.st Z Z Z (ab.load Z Z Z aU Z Z)<|am.st Z Z Z (ab.call Z Z Z (by kernel_rfl) (LC.pure HN (.cons Conv.p (.cons Conv.p .nil))))<|am.st Z Z Z (ab.assign Z Z)<|am.nil ?_;refine bp<|LW.seq<|LW.block<|LW.seq<|LW.block<|LW.seq<|LW.block<|LW.seq<|LW.seq<|LW.region<|am.st Z Z Z (ab.move Z Z)<|am.st Z Z Z (ab.bin Z Z Z Z)<|am.st Z Z Z (ab.assign Z Z)<|am.nil<|bp ?_;refine LW.cond Z (fun g1 => ?_)<|fun g1 => ?_
 ·
  refine LW.exit<|ao<|lh<|bp<|LW.seq<|LW.region<|am.st Z Z Z (ab.move Z Z)<|am.st Z Z Z (ab.fieldAddr Z Z EG)<|am.st Z Z Z (ab.load Z Z Z a7 Z Z)<|am.st Z Z Z (ab.bin Z Z Z Z)<|am.st Z Z Z (ab.build Z HW Z Z Z)<|am.st Z Z Z (ab.store Z Z Z Z gA Z Z Z Z)<|am.nil<|bp<|LW.region<|am.st Z Z Z (ab.move Z Z)<|am.st Z Z Z (ab.len Z Z (by kernel_rfl))<|am.st Z Z Z (ab.bin Z Z Z Z)<|am.st Z Z Z (ab.assign Z Z)<|am.nil<|ai<|bp<|LW.seq<|LW.seq ?_;refine LW.region<|am.st Z Z Z (ab.move Z Z)<|am.st Z Z Z (ab.load Z Z Z aU Z Z)<|am.st Z Z Z (ab.call Z Z Z (by kernel_rfl) (LC.pure HN (.cons Conv.p (.cons Conv.p .nil))))<|am.st Z Z Z (ab.assign Z Z)<|am.nil<|bp<|LW.seq<|LW.region<|am.st Z Z Z (ab.move Z Z)<|am.st Z Z Z (ab.move Z Z) ?_;refine zc 38 Z (fun g2 => ?_)<|fun g2 => ?_
  ·
   refine am.gd Z Z Z (gd g2 Z) Z (ab.move Z Z)<|am.gd Z Z Z (gd g2 Z) Z (ab.bin Z Z Z Z)<|am.st Z Z Z (ab.pickT Z (aS g2 Z) Z)<|am.st Z Z Z (ab.move Z Z) ?_;refine zc 42 Z (fun g3 => ?_)<|fun g3 => ?_
   ·
    refine am.gd Z Z Z (gd g3 Z) Z (ab.move Z Z)<|am.gd Z Z Z (gd g3 Z) Z (ab.move Z Z)<|am.gd Z Z Z (gd g3 Z) Z (ab.bin Z Z Z Z)<|am.st Z Z Z (ab.pickT Z (aS g3 Z) Z)<|am.nil<|bp ?_;refine LW.cond Z (fun g4 => ?_)<|fun g4 => ?_
    ·
     refine LW.region<|am.st Z Z Z (ab.load Z Z Z aU Z Z)<|am.st Z Z Z (zm Z Z)<|am.st Z Z Z (ab.fieldAddr Z Z rn)<|am.st Z Z Z (zs Z Z Z Z aU Z Z Z Z)<|am.st Z Z Z (ab.fieldAddr Z Z AB)<|am.st Z Z Z (zs Z Z Z Z a7 Z Z Z Z)<|am.nil<|bp<|zq<|zy<|bp<|LW.seq<|LW.region<|am.st Z Z Z (ab.load Z Z Z gA Z Z)<|am.st Z Z Z (zs Z Z Z Z gA Z Z Z Z)<|am.nil<|bp<|zr<|zf (.one (.cellAgg Z Z (by kernel_rfl) Z))<|Conv.pe ?_;simp only [decide_eq_true_eq, List.length_map] at g1 g2 g3 g4;simp only [eg, p3]
     (repeat' split) <;> first | rfl | (exfalso; simp_all; done) | (exfalso; simp_all; omega)
    ·
     refine zk<|bp<|zq<|zy<|bp<|LW.seq<|LW.region<|am.st Z Z Z (ab.load Z Z Z gA Z Z)<|am.st Z Z Z (zs Z Z Z Z gA Z Z Z Z)<|am.nil<|bp<|zr<|zf (.one (.cellAgg Z Z (by kernel_rfl) Z))<|Conv.pe ?_;simp only [decide_eq_true_eq, decide_eq_false_iff_not, List.length_map] at g1 g2 g3 g4;simp only [eg, p3]
     (repeat' split) <;> first | rfl | (exfalso; simp_all; done) | (exfalso; simp_all; omega)
   ·
    refine am.sk Z Z Z (gd g3 Z) Z Z<|am.sk Z Z Z (gd g3 Z) Z Z<|am.sk Z Z Z (gd g3 Z) Z Z<|am.st Z Z Z (bg Z (aS g3 Z) Z)<|am.nil<|bp<|LW.condF Z<|zk<|bp<|zq<|zy<|bp<|LW.seq<|LW.region<|am.st Z Z Z (ab.load Z Z Z gA Z Z)<|am.st Z Z Z (zs Z Z Z Z gA Z Z Z Z)<|am.nil<|bp<|zr<|zf (.one (.cellAgg Z Z (by kernel_rfl) Z))<|Conv.pe ?_;simp only [decide_eq_true_eq, decide_eq_false_iff_not] at g1 g2 g3;simp only [eg, p3]
    (repeat' split) <;> first | rfl | (exfalso; simp_all; done) | (exfalso; simp_all; omega)
  ·
   refine am.sk Z Z Z (gd g2 Z) Z Z<|am.sk Z Z Z (gd g2 Z) Z Z<|am.st Z Z Z (bg Z (aS g2 Z) Z)<|am.st Z Z Z (zm Z Z)<|am.sk Z Z Z Z Z Z<|am.sk Z Z Z Z Z Z<|am.sk Z Z Z Z Z Z<|am.st Z Z Z (bg Z Z Z)<|am.nil<|bp<|LW.condF Z<|zk<|bp<|zq<|zy<|bp<|LW.seq<|LW.region<|am.st Z Z Z (ab.load Z Z Z gA Z Z)<|am.st Z Z Z (zs Z Z Z Z gA Z Z Z Z)<|am.nil<|bp<|zr<|zf (.one (.cellAgg Z Z (by kernel_rfl) Z)) ?_;refine Conv.pe ?_;simp only [decide_eq_true_eq] at g1 g2;simp only [eg, p3]
   (repeat' split) <;> first | rfl | (exfalso; simp_all; done) | (exfalso; simp_all; omega)
 ·
  refine LW.skip<|bp<|LW.exit<|nu (by decide)<|ao<|lh<|bp<|LW.seq<|LW.seq<|LW.region<|am.st Z Z Z (ab.move Z Z)<|am.st Z Z Z (ab.load Z Z Z aU Z Z)<|am.st Z Z Z (ab.call Z Z Z (by kernel_rfl) (LC.pure HN (.cons Conv.p (.cons Conv.p .nil))))<|am.st Z Z Z (ab.assign Z Z)<|am.nil<|bp<|LW.seq<|LW.region<|am.st Z Z Z (ab.move Z Z)<|am.st Z Z Z (ab.move Z Z) ?_;refine zc 38 Z (fun g5 => ?_)<|fun g5 => ?_
  ·
   refine am.gd Z Z Z (gd g5 Z) Z (ab.move Z Z)<|am.gd Z Z Z (gd g5 Z) Z (ab.bin Z Z Z Z)<|am.st Z Z Z (ab.pickT Z (aS g5 Z) Z)<|am.st Z Z Z (ab.move Z Z) ?_;refine zc 42 Z (fun g6 => ?_)<|fun g6 => ?_
   ·
    refine am.gd Z Z Z (gd g6 Z) Z (ab.move Z Z)<|am.gd Z Z Z (gd g6 Z) Z (ab.move Z Z)<|am.gd Z Z Z (gd g6 Z) Z (ab.bin Z Z Z Z)<|am.st Z Z Z (ab.pickT Z (aS g6 Z) Z)<|am.nil<|bp ?_;refine LW.cond Z (fun g7 => ?_)<|fun g7 => ?_
    ·
     refine LW.region<|am.st Z Z Z (ab.load Z Z Z aU Z Z)<|am.st Z Z Z (zm Z Z)<|am.st Z Z Z (ab.fieldAddr Z Z rn)<|am.st Z Z Z (zs Z Z Z Z aU Z Z Z Z)<|am.st Z Z Z (ab.fieldAddr Z Z AB)<|am.st Z Z Z (zs Z Z Z Z a7 Z Z Z Z)<|am.nil<|bp<|zq<|zy<|bp<|LW.seq<|LW.region<|am.st Z Z Z (ab.load Z Z Z gA Z Z)<|am.st Z Z Z (zs Z Z Z Z gA Z Z Z Z)<|am.nil<|bp<|zr<|zf (.one (.cellAgg Z Z (by kernel_rfl) Z))<|Conv.pe ?_;simp only [decide_eq_true_eq, decide_eq_false_iff_not] at g1 g5 g6 g7;simp only [eg, p3]
     (repeat' split) <;> first | rfl | (exfalso; simp_all; done) | (exfalso; simp_all; omega)
    ·
     refine zk<|bp<|zq<|zy<|bp<|LW.seq<|LW.region<|am.st Z Z Z (ab.load Z Z Z gA Z Z)<|am.st Z Z Z (zs Z Z Z Z gA Z Z Z Z)<|am.nil<|bp<|zr<|zf (.one (.cellAgg Z Z (by kernel_rfl) Z))<|Conv.pe ?_;simp only [decide_eq_true_eq, decide_eq_false_iff_not] at g1 g5 g6 g7;simp only [eg, p3]
     (repeat' split) <;> first | rfl | (exfalso; simp_all; done) | (exfalso; simp_all; omega)
   ·
    refine am.sk Z Z Z (gd g6 Z) Z Z<|am.sk Z Z Z (gd g6 Z) Z Z<|am.sk Z Z Z (gd g6 Z) Z Z<|am.st Z Z Z (bg Z (aS g6 Z) Z)<|am.nil<|bp<|LW.condF Z<|zk<|bp<|zq<|zy<|bp<|LW.seq<|LW.region<|am.st Z Z Z (ab.load Z Z Z gA Z Z)<|am.st Z Z Z (zs Z Z Z Z gA Z Z Z Z)<|am.nil<|bp<|zr<|zf (.one (.cellAgg Z Z (by kernel_rfl) Z))<|Conv.pe ?_;simp only [decide_eq_false_iff_not] at g1 g5 g6;simp only [eg, p3]
    (repeat' split) <;> first | rfl | (exfalso; simp_all; done) | (exfalso; simp_all; omega)
  ·
   refine am.sk Z Z Z (gd g5 Z) Z Z<|am.sk Z Z Z (gd g5 Z) Z Z<|am.st Z Z Z (bg Z (aS g5 Z) Z)<|am.st Z Z Z (zm Z Z)<|am.sk Z Z Z Z Z Z<|am.sk Z Z Z Z Z Z<|am.sk Z Z Z Z Z Z<|am.st Z Z Z (bg Z Z Z)<|am.nil<|bp<|LW.condF Z<|zk<|bp<|zq<|zy<|bp<|LW.seq<|LW.region<|am.st Z Z Z (ab.load Z Z Z gA Z Z)<|am.st Z Z Z (zs Z Z Z Z gA Z Z Z Z)<|am.nil<|bp<|zr<|zf (.one (.cellAgg Z Z (by kernel_rfl) Z)) ?_;refine Conv.pe ?_;simp only [decide_eq_false_iff_not] at g1 g5;simp only [eg, p3]
   (repeat' split) <;> first | rfl | (exfalso; simp_all; done) | (exfalso; simp_all; omega)
theorem lj {l : List ID} {v : ID} : aR l v = -1 ∧ v ∉ l ∨ ∃ i : Nat, aR l v = i ∧ l[i]? = some v ∧ ∀ j, j < i → l[j]? ≠ some v := by
 unfold aR
 cases h : l.findIdx? (fun x => decide (v = x)) with
 | none =>
  left;rw [List.findIdx?_eq_none_iff] at h;exact ⟨rfl, fun hm => by simpa using h v hm⟩
 | some i =>
  right;rw [List.findIdx?_eq_some_iff_getElem] at h;obtain ⟨hi, h1, h2⟩ := h;refine ⟨i, rfl, by rw [List.getElem?_eq_getElem hi]; simpa using (of_decide_eq_true h1).symm, fun j hj hc => ?_⟩;have := h2 j hj;rw [List.getElem?_eq_getElem (by omega)] at hc;simp at hc this;exact this hc.symm
theorem nw {l : List ID} {v : ID} : 0 ≤ aR l v ↔ v ∈ l := by
 rcases lj (l := l) (v := v) with ⟨h1, h2⟩ | ⟨i, h1, h2, h3⟩
 ·rw [h1]; constructor
  ·intro h; omega
  ·intro h; exact absurd h h2
 ·rw [h1]; exact ⟨fun _ => List.mem_of_getElem? h2, fun _ => by omega⟩
section
variable {l : List Bk} {m : List (ID × Int)}
theorem uJ (n : Nat) : ∀ (id : ID) (i : Int), (ed l n id i).length ≤ n + 1 := by
 induction n with
 | zero => intro id i; simp [ed]
 | succ n ih =>
  intro id i;simp only [ed];split
  ·simp
  ·split
   ·simp
   ·split
    ·simp
    ·split
     ·simp
     ·simp; exact ih _ _
theorem xh (id : ID) : (aZ l id).length ≤ l.length + 1 := by
 unfold aZ;split
 ·simp
 ·rename_i m hpl;split
  ·simp
  ·rename_i i hf;have := uJ (l := l) (i + 1).toNat id i;rcases (bJ hpl).known _ _ hf with ⟨h, h'⟩ | ⟨b, p, h0, h1, h2, h3, h4, h5, h6, h7⟩
   ·rw [h] at this ⊢; simp at this ⊢; omega
   ·omega
end
theorem GK {k : IntKind} {p : PV} (h : nO (.int k) p) : ∃ n, p = .int k n ∧ aP k n := by
 cases h with | int h => exact ⟨_, rfl, h⟩
open Go.Proofs
theorem tO {α : Type} : ∀ {l s : List α} {i : Nat} {y : α}, aN l i y = some s → aI s i = some y
 | x :: r, s, 0, y, h => by cases h; rfl
 | x :: r, s, i + 1, y, h => by
  simp only [aN] at h;split at h
  ·rename_i q hq;cases h;show aI q i = some y;exact tO hq
  ·cases h
 | [], s, 0, y, h => by cases h
 | [], s, i + 1, y, h => by cases h
theorem Hf : (Tryz.f166.name == "runtime.NumGoroutine") = false := by kernel_rfl
theorem Ho : Extern.findNext Tryz.f166 = none := by kernel_rfl
theorem G5 : Extern.find Tryz.f166 = some (Extern.Atomic.loadT (.int .i64)) := by kernel_rfl
theorem Hg : (Tryz.f201.name == "runtime.NumGoroutine") = false := by kernel_rfl
theorem Hq : Extern.findNext Tryz.f201 = none := by kernel_rfl
theorem G6 : Extern.find Tryz.f201 = some (Extern.Atomic.update (Op.intArith .add) .i64 true) := by kernel_rfl
theorem Hh : (Tryz.f212.name == "runtime.NumGoroutine") = false := by kernel_rfl
theorem Hs : Extern.findNext Tryz.f212 = none := by kernel_rfl
theorem G7 : Extern.find Tryz.f212 = some (Extern.Atomic.loadT (.int .u32)) := by kernel_rfl
theorem Hi : (Tryz.f223.name == "runtime.NumGoroutine") = false := by kernel_rfl
theorem Ht : Extern.findNext Tryz.f223 = none := by kernel_rfl
theorem G8 : Extern.find Tryz.f223 = some (Extern.Atomic.storeT) := by kernel_rfl
theorem DG : (Tryz.f226.name == "runtime.NumGoroutine") = false := by kernel_rfl
theorem DI : Extern.findNext Tryz.f226 = none := by kernel_rfl
theorem DE : Extern.find Tryz.f226 = some (fun _ => do mark .disable; pure Extern.Race.none_) := by kernel_rfl
theorem Hk : (Tryz.f227.name == "runtime.NumGoroutine") = false := by kernel_rfl
theorem Hu : Extern.findNext Tryz.f227 = none := by kernel_rfl
theorem G9 : Extern.find Tryz.f227 = some (Extern.Atomic.casT (.int .i32)) := by kernel_rfl
theorem DH : (Tryz.f228.name == "runtime.NumGoroutine") = false := by kernel_rfl
theorem DJ : Extern.findNext Tryz.f228 = none := by kernel_rfl
theorem DF : Extern.find Tryz.f228 = some (fun _ => do mark .enable; pure Extern.Race.none_) := by kernel_rfl
theorem Hl : (Tryz.f229.name == "runtime.NumGoroutine") = false := by kernel_rfl
theorem Hv : Extern.findNext Tryz.f229 = none := by kernel_rfl
theorem Ha : Extern.find Tryz.f229 = some (Extern.Race.marked .acquire) := by kernel_rfl
theorem Hm : (Tryz.f231.name == "runtime.NumGoroutine") = false := by kernel_rfl
theorem Hw : Extern.findNext Tryz.f231 = none := by kernel_rfl
theorem Hd : Extern.find Tryz.f231 = some (Extern.Race.marked .releaseMerge) := by kernel_rfl
theorem Hn : (Tryz.f232.name == "runtime.NumGoroutine") = false := by kernel_rfl
theorem Hx : Extern.findNext Tryz.f232 = none := by kernel_rfl
theorem He : Extern.find Tryz.f232 = some (Extern.Atomic.update (Op.intArith .add) .i32 true) := by kernel_rfl
theorem Dx : rA Tryz.prog 291 295 = true := by kernel_rfl
theorem Ed {off : Nat} {n : Int} {cs : List LV} {H : List aa} (hH : aI H 0 = some (.box cs)) (h0 : aI cs (off + 0) = some (.p (.int .u32 n))) : LC Tryz.prog 199 [.ptr 0 off] H (Is (.p (.bool (n != 0))) H) := by
 refine dq Tryz.func199 Z Z Z ?_;refine zQ<|zR<|zM Z<|zN<|zT<|zQ<|zR<|zM Z<|yS Z (zn Z Z)<|yS Z (zA Z Z wj) ?_;refine yS Z (ab.atomLoad (P := Tryz.prog) (f := 212) (fn := Tryz.f212) Z Z Z Tryz.func212 Z Hh Hs G7 hH h0) ?_;exact yS Z (ay Z Z Z Z)<|zM Z<|zN<|zT<|zr<|ap (.one (.tmp Z))<|⟨rfl, rfl⟩
theorem Iu : aw Tryz.prog 224 [.bool true] [.int .u32 1] := by
 refine zh Tryz.func224 Z Z Z Z ?_;exact zQ<|zR<|zM Z<|zN<|zT<|zQ<|zQ<|zR<|zM Z<|zN<|zT<|LW.condT Z<|zQ<|zR<|zM Z<|zN<|zT<|zr<|af<|zf (.one (.tmp Z)) zv
theorem FU {off : Nat} {cs cs' : List LV} {H H' : List aa} (hH : aI H 0 = some (.box cs)) (hc : aN cs (off + 0) (.p (.int .u32 1)) = some cs') (hH' : aN H 0 (.box cs') = some H') : D4 Tryz.prog 215 [.ptr 0 off, (bQ true)] H H' := by
 refine D4.start (by kernel_rfl) Tryz.func215 Z Z Z (R := Is (.tup []) H') (fun _ _ h => h.2) ?_;refine LW.drawW (by kernel_rfl) (by kernel_rfl)<|zK Z ?_;refine yF (F := []) (s := none) Z (fun H _ => zn Z Z) Z ?_;refine yF (F := []) (s := none) Z (fun H _ => zA Z Z wj) Z ?_;refine zK Z ?_;refine yF (F := []) (s := none) Z (fun H _ => zC Z Z Z (by kernel_rfl) (zp Iu (.cons zv .nil))) Z ?_;refine yF Z (bF.atomStore (P := Tryz.prog) (f := 223) (fn := Tryz.f223) Z Z Z Tryz.func223 Z Hi Ht G8 Z hH hc) hH' ?_;refine LF.nil ⟨by kernel_rfl, ?_⟩;exact fL .none<|⟨rfl, rfl⟩
theorem Ir {off : Nat} {cs cs' : List LV} {H H' : List aa} (hH : aI H 0 = some (.box cs)) (h0 : aI cs (off + 0) = some (.p (.int .i32 0))) (hc : aN cs (off + 0) (.p (.int .i32 1)) = some cs') (hH' : aN H 0 (.box cs') = some H') (hb : Nat.blt off cs'.length = true) : LC Tryz.prog 221 [.ptr 0 off] H (Is (.tup []) H') := by
 refine dq Tryz.func221 Z Z Z ?_;refine zQ<|zR ?_;refine yS Z (ab.mark0 (P := Tryz.prog) (f := 226) (fn := Tryz.f226) Z Z Z Tryz.func226 Z DG DI DE ) ?_;refine zN<|zT<|zQ<|zQ<|zR<|zM Z<|yS Z (zn Z Z)<|yS Z (zA Z Z rj) ?_;refine yS Z (ab.atomCas (P := Tryz.prog) (f := 227) (fn := Tryz.f227) Z Z Z Tryz.func227 Z Hk Hu G9 hH h0 hc hH') ?_;refine zN<|zT<|LW.condT Z<|zQ<|LW.condT Z<|zQ<|zR ?_;refine yS Z (ab.mark0 (P := Tryz.prog) (f := 228) (fn := Tryz.f228) Z Z Z Tryz.func228 Z DH DJ DF ) ?_;refine zN<|zT<|zR<|zM Z<|yS Z (ab.convPtr Z Z (tO hH' ) hb Dx) ?_;refine yS Z (ab.markP (P := Tryz.prog) (f := 229) (fn := Tryz.f229) Z Z Z Tryz.func229 Z Hl Hv Ha ) ?_;exact zN<|zT<|zr<|af<|ap .none<|⟨rfl, rfl⟩
theorem Iq {off : Nat} {cs cs' : List LV} {H H' : List aa} (hH : aI H 0 = some (.box cs)) (h0 : aI cs (off + 0 + 0) = some (.p (.int .i32 0))) (hc : aN cs (off + 0 + 0) (.p (.int .i32 1)) = some cs') (hH' : aN H 0 (.box cs') = some H') (hb : Nat.blt (off + 0) cs'.length = true) : LC Tryz.prog 213 [.ptr 0 off] H (Is (.tup []) H') := by
 refine dq Tryz.func213 Z Z Z ?_;exact zR<|zM Z<|yS Z (zn Z Z)<|yS Z (zA Z Z wk)<|yS Z (zC Z Z Z (by kernel_rfl) (Ir hH h0 hc hH' hb))<|zN<|fL .none<|⟨rfl, rfl⟩
theorem It {off : Nat} {cs cs' : List LV} {H H' : List aa} (hH : aI H 0 = some (.box cs)) (h0 : aI cs (off + 0) = some (.p (.int .i32 1))) (hb : Nat.blt off cs.length = true) (hc : aN cs (off + 0) (.p (.int .i32 0)) = some cs') (hH' : aN H 0 (.box cs') = some H') : LC Tryz.prog 222 [.ptr 0 off] H (Is (.tup []) H') := by
 refine dq Tryz.func222 Z Z Z ?_;refine zQ<|LW.condT Z<|zQ<|zR<|zM Z<|yS Z (zn Z Z)<|yS Z (zA Z Z rj)<|yS Z (ab.load1 Z Z hH IK h0)<|zN<|zT<|zQ<|zR<|zM Z<|yS Z (ab.convPtr Z Z hH hb Dx) ?_;refine yS Z (ab.markP (P := Tryz.prog) (f := 231) (fn := Tryz.f231) Z Z Z Tryz.func231 Z Hm Hw Hd ) ?_;refine zN<|zT<|zR ?_;refine yS Z (ab.mark0 (P := Tryz.prog) (f := 226) (fn := Tryz.f226) Z Z Z Tryz.func226 Z DG DI DE ) ?_;refine zN<|zT<|zQ<|zR<|zM Z<|yS Z (zn Z Z)<|yS Z (zA Z Z rj) ?_;refine yS Z (ab.atomAdd (P := Tryz.prog) (f := 232) (fn := Tryz.f232) Z Z Z Tryz.func232 Z Hn Hx He hH h0 hc hH') ?_;refine zM Z<|zN<|zT<|zQ<|zQ<|zR<|zM Z<|yS Z (ay Z Z Z Z)<|zN<|zT<|LW.condF Z<|zk<|zT<|zR ?_;refine yS Z (ab.mark0 (P := Tryz.prog) (f := 228) (fn := Tryz.f228) Z Z Z Tryz.func228 Z DH DJ DF ) ?_;exact zN<|fL .none<|⟨rfl, rfl⟩
theorem FT {off : Nat} {cs cs' : List LV} {H H' : List aa} (hH : aI H 0 = some (.box cs)) (h0 : aI cs (off + 0 + 0) = some (.p (.int .i32 1))) (hb : Nat.blt (off + 0) cs.length = true) (hc : aN cs (off + 0 + 0) (.p (.int .i32 0)) = some cs') (hH' : aN H 0 (.box cs') = some H') : D4 Tryz.prog 214 [.ptr 0 off] H H' := by
 refine D4.start (by kernel_rfl) Tryz.func214 Z Z Z (R := Is (.tup []) H') (fun _ _ h => h.2) ?_;exact zR<|zM Z<|yS Z (zn Z Z)<|yS Z (zA Z Z wk)<|yS Z (zC Z Z Z (by kernel_rfl) (It hH h0 hb hc hH'))<|zN<|fL .none<|⟨rfl, rfl⟩
theorem FR {off : Nat} {n m : Int} {cs cs' : List LV} {H H' : List aa} (hH : aI H 0 = some (.box cs)) (h0 : aI cs (off + 0) = some (iQ n)) (hc : aN cs (off + 0) (.p (.int .i64 (IntKind.i64.wrap (n + m)))) = some cs') (hH' : aN H 0 (.box cs') = some H') : LC Tryz.prog 195 [.ptr 0 off, (iQ m)] H (Is (.p (.int .i64 (IntKind.i64.wrap (n + m)))) H') := by
 refine dq Tryz.func195 Z Z Z ?_;refine zQ<|zR<|zM Z<|zN<|zT<|zQ<|zR<|zM Z<|yS Z (zn Z Z)<|yS Z (zA Z Z wq)<|zM Z ?_;refine yS Z (ab.atomAdd (P := Tryz.prog) (f := 201) (fn := Tryz.f201) Z Z Z Tryz.func201 Z Hg Hq G6 hH h0 hc hH') ?_;exact zM Z<|zN<|zT<|zr<|ap (.one (.tmp Z))<|⟨rfl, rfl⟩
theorem H4 {off : Nat} {n : Int} {cs : List LV} {H : List aa} (hH : aI H 0 = some (.box cs)) (h0 : aI cs (off + 0) = some (iQ n)) : LC Tryz.prog 143 [.ptr 0 off] H (Is (iQ n) H) := by
 refine dq Tryz.func143 Z Z Z ?_;refine zQ<|zR<|zM Z<|zN<|zT<|zQ<|zR<|zM Z<|yS Z (zn Z Z)<|yS Z (zA Z Z wq) ?_;refine yS Z (ab.atomLoad (P := Tryz.prog) (f := 166) (fn := Tryz.f166) Z Z Z Tryz.func166 Z Hf Ho G5 hH h0) ?_;exact zM Z<|zN<|zT<|zr<|ap (.one (.tmp Z))<|⟨rfl, rfl⟩
open Go.Proofs
def jc (seed n r : Int) : Int := IntKind.i64.wrap ((step seed (IntKind.u64.wrap r)).tmod (IntKind.u64.wrap n))
def j3 (seed r : Int) : Int := step seed (IntKind.u64.wrap (IntKind.i64.wrap (1000 + r)))
theorem Ik {cs cs1 cs2 : List LV} {seed n r : Int} {q : Nat} (hs : aI cs (0 + 0) = some (uQ seed)) (hn : aI cs (0 + 1) = some (iQ n)) (hz : IntKind.u64.wrap n ≠ 0)
  (hs1 : aI cs1 (0 + 0) = some (uQ seed)) (hc1 : aN cs (q + 3) (.p (.int .i64 (jc seed n r))) = some cs1) (hc2 : aN cs1 (q + 4) (.p (.int .u64 (j3 seed r))) = some cs2) :
  LC Tryz.prog 194 [.ptr 1 0, .ptr 2 0, .ptr 3 0] [.box cs, .box [.ptr 0 0], .box [(iQ r)], .box [.ptr 0 q]] (Is (.tup []) [.box cs2, .box [.ptr 0 0], .box [(iQ r)], .box [.ptr 0 q]]) := by
 refine dq Tryz.func194 Z Z Z ?_;refine zQ<|LW.drawW (by kernel_rfl) (by kernel_rfl)<|yF Z (zd Z Z Z nC Z Z) Z<|yF Z (zd Z Z Z pP Z Z) Z ?_;refine yF (F := []) (s := none) Z (fun H _ => zn Z Z) Z ?_;refine yF (F := []) (s := none) Z (fun H _ => zA Z Z wt) Z ?_;refine yF Z (bF.load1 Z Z Z mm hs) Z<|yF Z (zd Z Z Z a7 Z Z) Z ?_;refine yF (F := []) (s := none) Z (fun H _ => ab.convert (k' := .u64) Z Z (by kernel_rfl)) Z ?_;refine yF (F := []) (s := none) Z (fun H _ => zC Z Z Z (by kernel_rfl) (zp (sN (h := seed) (x := (IntKind.u64.wrap (r)))) (.cons zv (.cons zv .nil)))) Z ?_;refine yF Z (zd Z Z Z pP Z Z) Z ?_;refine yF (F := []) (s := none) Z (fun H _ => zn Z Z) Z ?_;refine yF (F := []) (s := none) Z (fun H _ => zA Z Z rk) Z ?_;refine yF Z (bF.load1 Z Z Z a7 hn) Z ?_;refine yF (F := []) (s := none) Z (fun H _ => ab.convert (k' := .u64) Z Z (by kernel_rfl)) Z ?_;refine yF (F := []) (s := none) Z (fun H _ => ab.rem Z Z Z hz) Z ?_;refine yF (F := []) (s := none) Z (fun H _ => ab.convert (k' := .i64) Z Z (by kernel_rfl)) Z ?_;refine yF (F := []) (s := none) Z (fun H _ => zn Z Z) Z ?_;refine yF (F := []) (s := none) Z (fun H _ => zA Z Z wn) Z ?_;refine yF Z (bF.store1 Z Z Z Z a7 Z hc1) Z ?_;refine LF.nil ⟨by kernel_rfl, ?_⟩;refine zT<|LW.drawW (by kernel_rfl) (by kernel_rfl)<|yF Z (zd Z Z Z nC Z Z) Z<|yF Z (zd Z Z Z pP Z Z) Z ?_;refine yF (F := []) (s := none) Z (fun H _ => zn Z Z) Z ?_;refine yF (F := []) (s := none) Z (fun H _ => zA Z Z wt) Z ?_;refine yF Z (bF.load1 Z Z Z mm hs1) Z<|yF Z (zd Z Z Z a7 Z Z) Z ?_;refine yF (F := []) (s := none) Z (fun H _ => ay Z Z Z Z) Z ?_;refine yF (F := []) (s := none) Z (fun H _ => ab.convert (k' := .u64) Z Z (by kernel_rfl)) Z ?_;refine yF (F := []) (s := none) Z (fun H _ => zC Z Z Z (by kernel_rfl) (zp (sN (h := seed) (x := (IntKind.u64.wrap (IntKind.i64.wrap (1000 + r))))) (.cons zv (.cons zv .nil)))) Z ?_;refine yF (F := []) (s := none) Z (fun H _ => zn Z Z) Z ?_;refine yF (F := []) (s := none) Z (fun H _ => zA Z Z wo) Z ?_;refine yF Z (bF.store1 Z Z Z Z mm Z hc2) Z ?_;refine LF.nil ⟨by kernel_rfl, ?_⟩;exact fL .none<|⟨rfl, rfl⟩
abbrev A3 : LV := .fn 194 [] [.ptr 1 0, .ptr 2 0, .ptr 3 0]
theorem Ip {cs csA cs1 cs2 csD csE : List LV} {seed n r : Int} {q : Nat} (hm : aI cs (q + 0 + 1 + 0 + 0) = some (.p (.int .i32 0))) (hA : aN cs (q + 0 + 1 + 0 + 0) (.p (.int .i32 1)) = some csA) (hAb : Nat.blt (q + 0 + 1 + 0) csA.length = true)
  (hd : aI csA (q + 0 + 0 + 0) = some (.p (.int .u32 0))) (hs : aI csA (0 + 0) = some (uQ seed)) (hn : aI csA (0 + 1) = some (iQ n)) (hz : IntKind.u64.wrap n ≠ 0)
  (hs1 : aI cs1 (0 + 0) = some (uQ seed)) (hc1 : aN csA (q + 3) (.p (.int .i64 (jc seed n r))) = some cs1) (hc2 : aN cs1 (q + 4) (.p (.int .u64 (j3 seed r))) = some cs2)
  (hD : aN cs2 (q + 0 + 0 + 0) (.p (.int .u32 1)) = some csD) (hDm : aI csD (q + 0 + 1 + 0 + 0) = some (.p (.int .i32 1))) (hDb : Nat.blt (q + 0 + 1 + 0) csD.length = true) (hE : aN csD (q + 0 + 1 + 0 + 0) (.p (.int .i32 0)) = some csE) :
  LC Tryz.prog 200 [.ptr 0 (q + 0), A3] [.box cs, .box [.ptr 0 0], .box [(iQ r)], .box [.ptr 0 q]] (Is (.tup []) [.box csE, .box [.ptr 0 0], .box [(iQ r)], .box [.ptr 0 q]]) := by
 refine LC.ofD Tryz.func200 Z Z Z Z ?_;refine nE.seq<|nE.region<|bZ.st Z Z Z (zm Z Z)<|bZ.st Z Z Z (zn Z Z)<|bZ.st Z Z Z (zA Z Z wl)<|bZ.st Z Z Z (zC Z Z Z (by kernel_rfl) (Iq (off := q + 0 + 1) Z hm hA Z hAb))<|bZ.nil<|nE.seq<|nE.region<|bZ.st Z Z Z (zm Z Z)<|bZ.st Z Z Z (zn Z Z)<|bZ.st Z Z Z (zA Z Z wl)<|bZ.defer Z Z Z Z Z<|bZ.nil<|nE.seq<|nE.region<|bZ.st Z Z Z (zm Z Z)<|bZ.st Z Z Z (zn Z Z)<|bZ.st Z Z Z (zA Z Z nQ)<|bZ.st Z Z Z (zC Z Z Z (by kernel_rfl) (Ed (off := q + 0 + 0) (n := 0) Z hd))<|bZ.st Z Z Z (ab.not Z Z)<|bZ.nil<|nE.condT Z<|nE.seq ?_;exact nE.region<|bZ.st Z Z Z (zm Z Z)<|bZ.st Z Z Z (zn Z Z)<|bZ.st Z Z Z (zA Z Z nQ)<|bZ.defer Z Z Z Z Z<|bZ.nil<|nE.region<|bZ.st Z Z Z (zm Z Z)<|bZ.st Z Z Z (zC Z Z Z (by kernel_rfl) (Ik hs hn hz hs1 hc1 hc2))<|bZ.nil<|⟨.inl rfl, .cons (FU (off := q + 0 + 0) Z hD Z) (.cons (FT (off := q + 0 + 1) Z hDm hDb hE Z) .nil)⟩
theorem FQ {cs csA cs1 cs2 csD csE : List LV} {seed n r : Int} {q : Nat} (hd0 : aI cs (q + 0 + 0 + 0) = some (.p (.int .u32 0))) (hm : aI cs (q + 0 + 1 + 0 + 0) = some (.p (.int .i32 0))) (hA : aN cs (q + 0 + 1 + 0 + 0) (.p (.int .i32 1)) = some csA) (hAb : Nat.blt (q + 0 + 1 + 0) csA.length = true)
  (hd : aI csA (q + 0 + 0 + 0) = some (.p (.int .u32 0))) (hs : aI csA (0 + 0) = some (uQ seed)) (hn : aI csA (0 + 1) = some (iQ n)) (hz : IntKind.u64.wrap n ≠ 0)
  (hs1 : aI cs1 (0 + 0) = some (uQ seed)) (hc1 : aN csA (q + 3) (.p (.int .i64 (jc seed n r))) = some cs1) (hc2 : aN cs1 (q + 4) (.p (.int .u64 (j3 seed r))) = some cs2)
  (hD : aN cs2 (q + 0 + 0 + 0) (.p (.int .u32 1)) = some csD) (hDm : aI csD (q + 0 + 1 + 0 + 0) = some (.p (.int .i32 1))) (hDb : Nat.blt (q + 0 + 1 + 0) csD.length = true) (hE : aN csD (q + 0 + 1 + 0 + 0) (.p (.int .i32 0)) = some csE) : LC Tryz.prog 193 [.ptr 0 (q + 0), A3] [.box cs, .box [.ptr 0 0], .box [(iQ r)], .box [.ptr 0 q]] (Is (.tup []) [.box csE, .box [.ptr 0 0], .box [(iQ r)], .box [.ptr 0 q]]) := by
 refine dq Tryz.func193 Z Z Z ?_;exact zQ<|zR<|zM Z<|yS Z (zn Z Z)<|yS Z (zA Z Z nQ)<|yS Z (zC Z Z Z (by kernel_rfl) (Ed (off := q + 0 + 0) (n := 0) Z hd0))<|yS Z (ab.not Z Z)<|zN<|zT<|LW.condT Z<|zR<|zM Z<|zM Z<|yS Z (zC Z Z Z (by kernel_rfl) (Ip hm hA hAb hd hs hn hz hs1 hc1 hc2 hD hDm hDb hE))<|zN<|fL .none<|⟨rfl, rfl⟩
theorem FO {cs : List LV} {r : Int} {q : Nat} (hd : aI cs (q + 0 + 0 + 0) = some (.p (.int .u32 1))) : LC Tryz.prog 193 [.ptr 0 (q + 0), A3] [.box cs, .box [.ptr 0 0], .box [(iQ r)], .box [.ptr 0 q]] (Is (.tup []) [.box cs, .box [.ptr 0 0], .box [(iQ r)], .box [.ptr 0 q]]) := by
 refine dq Tryz.func193 Z Z Z ?_;exact zQ<|zR<|zM Z<|yS Z (zn Z Z)<|yS Z (zA Z Z nQ)<|yS Z (zC Z Z Z (by kernel_rfl) (Ed (off := q + 0 + 0) (n := 1) Z hd))<|yS Z (ab.not Z Z)<|zN<|zT<|LW.condF Z<|zk<|fL .none<|⟨rfl, rfl⟩
open Go.Proofs
def gX (seed n r : Int) (b : Bool) : List LV :=
 [.p (.int .u32 (cond b 1 0)), .p (.int .i32 0), .p (.int .u32 0), .p (.int .i64 (cond b (jc seed n r) 0)), .p (.int .u64 (cond b (j3 seed r) 0))]
def sT (seed n : Int) (f : Nat → Bool) (k : Int) : List LV :=
 (uQ seed) :: (iQ n) :: (gX seed n 0 (f 0) ++ (gX seed n 1 (f 1) ++ (gX seed n 2 (f 2) ++ (gX seed n 3 (f 3) ++ (gX seed n 4 (f 4) ++ (gX seed n 5 (f 5) ++ (gX seed n 6 (f 6) ++ (gX seed n 7 (f 7) ++ (gX seed n 8 (f 8) ++ (gX seed n 9 (f 9) ++ [(iQ k)]))))))))))
def xP (f : Nat → Bool) (i : Nat) : Nat → Bool := fun j => cond (Nat.beq j i) true (f j)
def Ey (f : Nat → Bool) (i : Nat) : Nat → Bool := fun j => cond (Nat.beq j i) false (f j)
theorem wF {f : Nat → Bool} {i : Nat} (h : f i = true) : xP f i = f := by
 funext j;unfold xP
 cases e : Nat.beq j i with
 | false => rfl
 | true => rw [Nat.eq_of_beq_eq_true e, h]; rfl
theorem Cz {f : Nat → Bool} {i : Nat} (h : f i = false) : Ey f i = f := by
 funext j;unfold Ey
 cases e : Nat.beq j i with
 | false => rfl
 | true => rw [Nat.eq_of_beq_eq_true e, h]; rfl
structure Dk where
 f : Nat → Bool
 k : Int
def gN (seed n : Int) (d : Dk) : List LV := sT seed n d.f d.k
def Dk.turned (d : Dk) (r : Int) : Dk := ⟨xP d.f r.toNat, IntKind.i64.wrap (d.k + 1)⟩
def pL (n r : Int) : Bool := decide (n ≠ 0 ∧ IntKind.u64.wrap n ≠ 0 ∧ 0 ≤ r ∧ r < 10)
theorem eZ {n r : Int} (h : pL n r = true) : n ≠ 0 ∧ IntKind.u64.wrap n ≠ 0 ∧ 0 ≤ r ∧ r < 10 := of_decide_eq_true h
theorem FK {cs csA cs1 cs2 csD csE : List LV} {seed n r : Int} (hd0 : aI cs ((2 + r.toNat * 5) + 0 + 0 + 0) = some (.p (.int .u32 0))) (hm : aI cs ((2 + r.toNat * 5) + 0 + 1 + 0 + 0) = some (.p (.int .i32 0))) (hA : aN cs ((2 + r.toNat * 5) + 0 + 1 + 0 + 0) (.p (.int .i32 1)) = some csA) (hAb : Nat.blt ((2 + r.toNat * 5) + 0 + 1 + 0) csA.length = true)
  (hd : aI csA ((2 + r.toNat * 5) + 0 + 0 + 0) = some (.p (.int .u32 0))) (hs : aI csA (0 + 0) = some (uQ seed)) (hn : aI csA (0 + 1) = some (iQ n)) (hz : IntKind.u64.wrap n ≠ 0)
  (hs1 : aI cs1 (0 + 0) = some (uQ seed)) (hc1 : aN csA ((2 + r.toNat * 5) + 3) (.p (.int .i64 (jc seed n r))) = some cs1) (hc2 : aN cs1 ((2 + r.toNat * 5) + 4) (.p (.int .u64 (j3 seed r))) = some cs2)
  (hD : aN cs2 ((2 + r.toNat * 5) + 0 + 0 + 0) (.p (.int .u32 1)) = some csD) (hDm : aI csD ((2 + r.toNat * 5) + 0 + 1 + 0 + 0) = some (.p (.int .i32 1))) (hDb : Nat.blt ((2 + r.toNat * 5) + 0 + 1 + 0) csD.length = true) (hE : aN csD ((2 + r.toNat * 5) + 0 + 1 + 0 + 0) (.p (.int .i32 0)) = some csE) {k : Int} {csF : List LV} (hr0 : 0 ≤ r) (hr1 : r < 10) (hk : aI csE (0 + 52 + 0) = some (iQ k)) (hF : aN csE (0 + 52 + 0) (.p (.int .i64 (IntKind.i64.wrap (k + 1)))) = some csF) (hl : LV.lowsB 1 csF = true) : LC Tryz.prog 182 [.ptr 0 0, (iQ r)] [.box cs] (Is (.ptr 0 (2 + r.toNat * 5)) [.box csF]) := by
 refine dq Tryz.func182 Z Z Z ?_;refine zQ<|zR<|yS Z (bT Z Z Z Z Z)<|yS Z (bT Z Z Z Z Z)<|zM Z<|zN<|zT<|zQ<|LW.ent (bK.slot Z)<|LW.drawW (by kernel_rfl) (by kernel_rfl)<|yF Z (zd Z Z Z pP Z Z) Z<|yF Z (zd Z Z Z a7 Z Z) Z ?_;refine yF (F := []) (s := none) Z (fun H _ => zn Z Z) Z ?_;refine yF (F := []) (s := none) Z (fun H _ => zA Z Z wu) Z ?_;refine yF (F := []) (s := none) Z (fun H _ => ab.indexAddrA Z Z Z C1 hr0 hr1) Z ?_;refine yF Z (bF.alloc Z DM (id := 3) Z) Z<|yF Z (zt Z Z Z Z nC Z Z Z) Z ?_;refine LF.nil ⟨by kernel_rfl, ?_⟩;refine zT<|zQ<|zR<|yS Z (zD Z Z Z nC Z Z)<|yS Z (zn Z Z)<|yS Z (zA Z Z wm)<|yS Z (ab.makeFunc Z Z Z)<|yS Z (zC Z Z Z (by kernel_rfl) (FQ (q := (2 + r.toNat * 5)) hd0 hm hA hAb hd hs hn hz hs1 hc1 hc2 hD hDm hDb hE))<|zN<|zT<|zQ<|zR<|yS Z (zD Z Z Z pP Z Z)<|yS Z (zn Z Z)<|yS Z (zA Z Z rl)<|yS Z (zC Z Z Z (by kernel_rfl) (FR (off := 0 + 52) Z hk hF Z))<|zN<|zT<|zQ<|zR<|yS Z (zD Z Z Z nC Z Z)<|zM Z<|zN<|zT ?_;refine LW.ret ?_;refine aQ (env' := [(4, .ptr 0 (2 + r.toNat * 5))]) (H' := [.box csF]) (zW 1 ⟨rfl, trivial⟩ Z Z Z (zL hl Z)) (.one (.tmp Z)) ⟨rfl, rfl⟩
theorem FJ {cs : List LV} {r : Int} (hd : aI cs ((2 + r.toNat * 5) + 0 + 0 + 0) = some (.p (.int .u32 1))) {k : Int} {csF : List LV} (hr0 : 0 ≤ r) (hr1 : r < 10) (hk : aI cs (0 + 52 + 0) = some (iQ k)) (hF : aN cs (0 + 52 + 0) (.p (.int .i64 (IntKind.i64.wrap (k + 1)))) = some csF) (hl : LV.lowsB 1 csF = true) : LC Tryz.prog 182 [.ptr 0 0, (iQ r)] [.box cs] (Is (.ptr 0 (2 + r.toNat * 5)) [.box csF]) := by
 refine dq Tryz.func182 Z Z Z ?_;refine zQ<|zR<|yS Z (bT Z Z Z Z Z)<|yS Z (bT Z Z Z Z Z)<|zM Z<|zN<|zT<|zQ<|LW.ent (bK.slot Z)<|LW.drawW (by kernel_rfl) (by kernel_rfl)<|yF Z (zd Z Z Z pP Z Z) Z<|yF Z (zd Z Z Z a7 Z Z) Z ?_;refine yF (F := []) (s := none) Z (fun H _ => zn Z Z) Z ?_;refine yF (F := []) (s := none) Z (fun H _ => zA Z Z wu) Z ?_;refine yF (F := []) (s := none) Z (fun H _ => ab.indexAddrA Z Z Z C1 hr0 hr1) Z ?_;refine yF Z (bF.alloc Z DM (id := 3) Z) Z<|yF Z (zt Z Z Z Z nC Z Z Z) Z ?_;refine LF.nil ⟨by kernel_rfl, ?_⟩;refine zT<|zQ<|zR<|yS Z (zD Z Z Z nC Z Z)<|yS Z (zn Z Z)<|yS Z (zA Z Z wm)<|yS Z (ab.makeFunc Z Z Z)<|yS Z (zC Z Z Z (by kernel_rfl) (FO (q := (2 + r.toNat * 5)) hd))<|zN<|zT<|zQ<|zR<|yS Z (zD Z Z Z pP Z Z)<|yS Z (zn Z Z)<|yS Z (zA Z Z rl)<|yS Z (zC Z Z Z (by kernel_rfl) (FR (off := 0 + 52) Z hk hF Z))<|zN<|zT<|zQ<|zR<|yS Z (zD Z Z Z nC Z Z)<|zM Z<|zN<|zT ?_;refine LW.ret ?_;refine aQ (env' := [(4, .ptr 0 (2 + r.toNat * 5))]) (H' := [.box csF]) (zW 1 ⟨rfl, trivial⟩ Z Z Z (zL hl Z)) (.one (.tmp Z)) ⟨rfl, rfl⟩
theorem AH {seed n r k : Int} {f : Nat → Bool} (hz : IntKind.u64.wrap n ≠ 0) (hr0 : 0 ≤ r) (hr1 : r < 10) :
  LC Tryz.prog 182 [.ptr 0 0, (iQ r)] [.box (sT seed n (Ey f r.toNat) k)] (Is (.ptr 0 (2 + r.toNat * 5)) [.box (sT seed n (xP f r.toNat) (IntKind.i64.wrap (k + 1)))]) := by
 have hc : r = 0 ∨ r = 1 ∨ r = 2 ∨ r = 3 ∨ r = 4 ∨ r = 5 ∨ r = 6 ∨ r = 7 ∨ r = 8 ∨ r = 9 := by omega
 rcases hc with rfl | rfl | rfl | rfl | rfl | rfl | rfl | rfl | rfl | rfl
 all_goals exact FK (seed := seed) (n := n) rfl rfl rfl rfl rfl rfl rfl hz rfl rfl rfl rfl rfl rfl rfl hr0 hr1 rfl rfl rfl
theorem AG {seed n r k : Int} {f : Nat → Bool} (hr0 : 0 ≤ r) (hr1 : r < 10) :
  LC Tryz.prog 182 [.ptr 0 0, (iQ r)] [.box (sT seed n (xP f r.toNat) k)] (Is (.ptr 0 (2 + r.toNat * 5)) [.box (sT seed n (xP f r.toNat) (IntKind.i64.wrap (k + 1)))]) := by
 have hc : r = 0 ∨ r = 1 ∨ r = 2 ∨ r = 3 ∨ r = 4 ∨ r = 5 ∨ r = 6 ∨ r = 7 ∨ r = 8 ∨ r = 9 := by omega
 rcases hc with rfl | rfl | rfl | rfl | rfl | rfl | rfl | rfl | rfl | rfl
 all_goals exact FJ rfl hr0 hr1 rfl rfl rfl
theorem Ig {seed n r : Int} {d : Dk} (h : pL n r = true) : LC Tryz.prog 182 [.ptr 0 0, (iQ r)] [.box (gN seed n d)] (Is (.ptr 0 (2 + r.toNat * 5)) [.box (gN seed n (d.turned r))]) := by
 obtain ⟨-, h1, h2, h3⟩ := eZ h
 cases hf : d.f r.toNat with
 | true =>
  have := AG (seed := seed) (n := n) (k := d.k) (f := d.f) h2 h3;rw [wF hf] at this;unfold gN Dk.turned;rw [wF hf];exact this
 | false =>
  have := AH (seed := seed) (n := n) (k := d.k) (f := d.f) h1 h2 h3;rw [Cz hf] at this;exact this
theorem uL {seed n r : Int} {d : Dk} (hr0 : 0 ≤ r) (hr1 : r < 10) : aI (gN seed n (d.turned r)) (2 + r.toNat * 5 + 3) = some (.p (.int .i64 (jc seed n r))) := by
 have hc : r = 0 ∨ r = 1 ∨ r = 2 ∨ r = 3 ∨ r = 4 ∨ r = 5 ∨ r = 6 ∨ r = 7 ∨ r = 8 ∨ r = 9 := by omega
 rcases hc with rfl | rfl | rfl | rfl | rfl | rfl | rfl | rfl | rfl | rfl
 all_goals rfl
theorem xj {seed n r : Int} {d : Dk} (hr0 : 0 ≤ r) (hr1 : r < 10) : aI (gN seed n (d.turned r)) (2 + r.toNat * 5 + 4) = some (.p (.int .u64 (j3 seed r))) := by
 have hc : r = 0 ∨ r = 1 ∨ r = 2 ∨ r = 3 ∨ r = 4 ∨ r = 5 ∨ r = 6 ∨ r = 7 ∨ r = 8 ∨ r = 9 := by omega
 rcases hc with rfl | rfl | rfl | rfl | rfl | rfl | rfl | rfl | rfl | rfl
 all_goals rfl
def pn (seed n r i : Int) : Int := (IntKind.i64.wrap (IntKind.i64.wrap (jc seed n r + n) - i)).tmod n
def Bm (seed n r i : Int) : Bool := bits .and .u64 (step (j3 seed r) (IntKind.u64.wrap (if pn seed n r i > i then pn seed n r i else i))) 1 == 1
def pK (seed n r i : Int) : Int := bif Bm seed n r i then pn seed n r i else i
theorem HZ {seed n r i : Int} {d : Dk} (h : pL n r = true) : LC Tryz.prog 165 [.ptr 0 0, (iQ r), (iQ i)] [.box (gN seed n d)] (Is (.p (.int .i64 (pK seed n r i))) [.box (gN seed n (d.turned r))]) := by
 refine dq Tryz.func165 Z Z Z ?_;refine zQ<|zR<|zM Z<|zN<|zT<|zQ<|zR<|zM Z<|zM Z<|yS Z (zC Z Z Z (by kernel_rfl) (Ig h))<|zM Z<|zN<|zT<|zQ<|LW.draw2 (by kernel_rfl) (by kernel_rfl)<|zH Z<|yE Z (zn Z Z)<|yE Z (zA Z Z wn)<|yE Z (ab.load1 Z Z Z a7 (uL (eZ h).2.2.1 (eZ h).2.2.2))<|zH Z<|yE Z (zn Z Z)<|yE Z (zA Z Z rk)<|yE Z (ab.load1 Z Z Z a7 Z)<|yE Z (ay Z Z Z Z) ?_;refine zH Z<|yE Z (ay Z Z Z Z)<|zH Z<|yE Z (zn Z Z)<|yE Z (zA Z Z rk)<|yE Z (ab.load1 Z Z Z a7 Z)<|yE Z (ab.rem Z Z Z (eZ h).1)<|zH Z<|LO.nil<|zT<|zQ<|zQ<|zR<|zM Z<|yS Z (zn Z Z)<|yS Z (zA Z Z wo)<|yS Z (ab.load1 Z Z Z mm (xj (eZ h).2.2.1 (eZ h).2.2.2))<|zM Z<|zM Z<|yS Z (ab.max Z Z Z)<|yS Z (ab.convert (k' := .u64) Z Z (by kernel_rfl))<|yS Z (zC Z Z Z (by kernel_rfl) (zp (sN (h := (j3 seed r)) (x := (IntKind.u64.wrap (if (pn seed n r i) > i then (pn seed n r i) else i)))) (.cons zv (.cons zv .nil))))<|yS Z (ay Z Z Z Z)<|yS Z (ay Z Z Z Z) ?_;refine zN<|zT ?_;refine zX Z (fun g1 => ?_)<|fun g1 => ?_
 ·
  exact zQ<|zR<|zM Z<|zM Z<|zN<|zT<|zr<|af<|ap (.one (.tmp Z))<|⟨by unfold pK Bm; rw [g1]; rfl, rfl⟩
 ·
  exact zk<|zT<|zQ<|zR<|zM Z<|zM Z<|zN<|zT<|zr<|ap (.one (.tmp Z))<|⟨by unfold pK Bm; rw [g1]; rfl, rfl⟩
open Go.Proofs
def few (l : List Bk) : Bool := decide (l.length ≤ 1000)
theorem uM {l : List Bk} (h : few l = true) : l.length ≤ 1000 := of_decide_eq_true h
def EZ (l : List Bk) : Option Bool :=
 (match places l with
 | none =>
  some false
 | some _ =>
  some true)
theorem IR {l : List Bk} {r_ : Bool} (hr : EZ l = some r_) : aw Tryz.prog 187 [.slice 5 (l.map ax)] [.bool r_] := by
 refine zh Tryz.func187 Z Z Z Z ?_;unfold EZ at hr;refine zQ<|zR<|zM Z<|zN<|zT<|zQ<|zR<|zM Z ?_;rcases h_f1 : places l with _ | m_
 ·
  rw [h_f1] at hr;simp only at hr;refine yS Z (zC Z Z Z (by kernel_rfl) (Gc h_f1))<|zM Z<|yS Z (fB Z Z Z)<|yS Z (fB Z Z Z)<|zM Z<|zM Z<|zN<|zT<|zQ<|zR<|zM Z<|zM Z<|zN<|zT<|zr ?_;obtain rfl := zJ hr;exact zf (.one (.tmp Z)) zv
 ·
  rw [h_f1] at hr;simp only at hr;refine yS Z (zC Z Z Z (by kernel_rfl) (Gd h_f1 Z Z Z))<|zM Z<|yS Z (fB Z Z Z)<|yS Z (fB Z Z Z)<|zM Z<|zM Z<|zN<|zT<|zQ<|zR<|zM Z<|zM Z<|zN<|zT<|zr ?_;obtain rfl := zJ hr;exact zf (.one (.tmp Z)) zv
structure jE where
 t13 : Int
 out : List ID
def mr (l : List Bk) (id : ID) (x1 : jE) : Option (jE ⊕ jE) :=
 bif decide (x1.t13 < (l.length : Int)) then
  (ix l x1.t13).bind fun y1 =>
  bif ((y1.Parent.1 == id.1) && ((y1.Parent.2 == id.2) && true)) then
   bif ci x1.out.length [nm y1].length 16 then
    some (.inl (jE.mk (IntKind.i64.wrap (x1.t13 + 1)) (x1.out ++ [nm y1])))
   else none
  else
   some (.inl (jE.mk (IntKind.i64.wrap (x1.t13 + 1)) x1.out))
 else
  some (.inr (jE.mk x1.t13 x1.out))
def Fd (l : List Bk) (id : ID) : Option (List ID) :=
 (EZ l).bind fun v1 =>
 bif !v1 then
  some []
 else
  (iter (mr l id) bE (jE.mk 0 ([] : List ID))).bind fun v2 =>
  some v2.out
theorem I5 {l : List Bk} {id : ID} {r_ : (List ID)} (hr : Fd l id = some r_) : aw Tryz.prog 171 [.slice 5 (l.map ax), cr id] [.slice 2 (r_.map cr)] := by
 refine zh Tryz.func171 Z Z Z Z ?_;unfold Fd at hr;refine zQ<|zR<|yS Z (bT Z Z Z Z Z)<|zM Z<|zN<|zT<|zQ<|zQ<|zR<|zM Z<|zb hr fun v1 h_v1 hr => yS Z (zC Z Z Z (by kernel_rfl) (zp (IR h_v1) (.cons zv .nil)))<|yS Z (ab.not Z Z)<|zN<|zT ?_;refine zX Z (fun g1 => ?_)<|fun g1 => ?_
 ·
  refine zi g1 hr fun hr => zQ<|zR<|zM Z<|zN<|zT<|zr<|af ?_;obtain rfl := zJ hr;exact zf (.one (.tmp Z)) Conv.zs
 ·
  refine zo g1 hr fun hr => zk<|zT<|zQ<|zR<|zM Z<|zN<|zT<|zQ<|zQ<|zR<|zM Z<|yS Z (cB Z Z (by kernel_rfl))<|zM Z<|zN<|zT<|LW.ent (bK.lazy (t := 5) (m := 2) Z Z Z) ?_;obtain ⟨v2, hb_v2, ho_v2⟩ := zB hr;clear hr;refine LW.tail (E := [(4, .zs), (5, .vec 2 1 (v2.out.map cr).length 0 (v2.out.map cr).length)]) (O := [.box [(uQ id.1), (uQ id.2)], .vec 2 (v2.out.map cr)]) ?_<|fun env_v2 H_v2 hw_v2 => ?_
  ·refine LW.block ?_;refine LW.iterB (E := fun x1 : jE => [(3, .ptr 0 0), (4, .zs), (5, .vec 2 1 (x1.out.map cr).length 0 (x1.out.map cr).length), (11, (kB l)), (12, .p (.int .i64 (l.length : Int))), (13, (iQ x1.t13))]) (O := fun x1 => [.box [(uQ id.1), (uQ id.2)], .vec 2 (x1.out.map cr)]) hb_v2 (zW 2 ⟨rfl, rfl, rfl, rfl, rfl, rfl, trivial⟩ Z Z Z Z)<|fun x1 z_x1 hr hb_x1 => ?_;unfold mr at hr;refine zQ<|zR<|yS Z (ay Z Z Z Z)<|zN<|zT<|zQ ?_;refine zX Z (fun g2 => ?_)<|fun g2 => ?_
   ·
    refine zi g2 hr fun hr => zk<|zT<|zQ<|zl<|zQ<|zR<|zb hr fun y1 h_y1 hr => yS Z (zx Z Z Z dI h_y1 Z)<|yS Z (cR Z Z Z ce Z Z)<|yS Z (ze Z ui Z Z)<|yS Z (zs Z Z Z Z ce Z Z Z Z)<|zN<|zT<|zQ<|zR<|yS Z (zA Z Z ld)<|yS Z (zD Z Z Z aU Z Z)<|yS Z (zD Z Z Z aU Z Z)<|yS Z (ab.eqlAgg Z Z Z Z Z sX)<|zN<|zT ?_;refine zX Z (fun g3 => ?_)<|fun g3 => ?_
    ·
     refine zi g3 hr fun hr => zR<|zM Z<|yS Z (zD Z Z Z ce Z Z)<|yS Z (zC Z Z Z (by kernel_rfl) (zp (E7 (b := y1)) (.cons zv .nil)))<|yS Z (nb Z pA Z Z Z Z Z)<|zg hr fun q1 hr => yS Z (ab.appendX cr x1.out [nm y1] rfl Z Z Z kx.p Z pA q1 Z)<|zM Z<|zN<|ai<|zT<|zR<|yS Z (ay Z Z Z Z)<|zM Z<|zN<|zT ?_;obtain rfl := zJ hr;exact ⟨_, rfl, zW 2 ⟨rfl, rfl, rfl, rfl, rfl, rfl, trivial⟩ Z Z Z rfl⟩
    ·
     refine zo g3 hr fun hr => zk<|ai<|zT<|zR<|yS Z (ay Z Z Z Z)<|zM Z<|zN<|zT ?_;obtain rfl := zJ hr;exact ⟨_, rfl, zW 2 ⟨rfl, rfl, rfl, rfl, rfl, rfl, trivial⟩ Z Z Z rfl⟩
   ·
    refine zo g2 hr fun hr => zq<|ao<|ao<|zy<|zT ?_;obtain rfl := zJ hr;have hr := congrArg some (hb_x1 _ rfl);obtain rfl := zJ hr;exact zW 2 ⟨Z, Z, trivial⟩ Z Z Z Z
  ·have hr := ho_v2;clear hb_v2;refine zT<|LW.weak hw_v2<|zQ<|zR<|zM Z<|zM Z<|zN<|zT<|zr ?_;obtain rfl := zJ hr;exact zf (.one (.tmp Z))<|(Conv.vecAll Z Z Z)
end Go.Mg
