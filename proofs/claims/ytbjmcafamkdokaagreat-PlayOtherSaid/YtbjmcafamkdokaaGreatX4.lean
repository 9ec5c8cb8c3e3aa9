/- What the logic needs to know of each type of the program. The program's structs as plain data, and how they lie in memory. The mixing functions. mix.Of. tree.Name, slices.Index, slices.Contains. tree.places. Plain facts of trees: what 'places' tells. tree.Chain. cursor.Move. Plain facts of chains and cursors. Plain laws of cursors. Atomic words, locks. sync.Once as the deck uses it. The rounds of the deck. tree.May, Find, Slot, Kids. Conditions: none. -/
import Derived.Test.YtbjmcafamkdokaaGreatX2
import Derived.Test.YtbjmcafamkdokaaGreatProg
import Derived.Test.YtbjmcafamkdokaaGreatX3
set_option maxRecDepth 100000
set_option linter.unusedSimpArgs false
set_option linter.unusedVariables false
namespace Go.Mg
open Go.Proofs
section
variable {w : World}
theorem xj : nt Tryz.prog 37 = some (2, 1, false) := by kernel_rfl
theorem uL : nt Tryz.prog 148 = some (3, 1, false) := by kernel_rfl
theorem Ag : nt Tryz.prog 163 = some (2, 1, false) := by kernel_rfl
theorem C7 : nt Tryz.prog 201 = some (10, 5, true) := by kernel_rfl
theorem H4 : bM Tryz.prog 25 = some ([LV.zs, LV.p (PV.int IntKind.u64 0), LV.p (PV.int IntKind.i64 0), LV.p (PV.int IntKind.i64 0), LV.p (PV.int IntKind.i64 0)], [(0, 1), (1, 1), (2, 1), (3, 1), (4, 1)]) := by kernel_rfl
theorem Ak : bM Tryz.prog 32 = some ([LV.zs, LV.p (PV.int IntKind.u64 0), LV.p (PV.int IntKind.i64 0), LV.p (PV.int IntKind.i64 0), LV.p (PV.int IntKind.i64 0), LV.zs, LV.p (PV.int IntKind.i64 0), LV.zs, LV.zs], [(0, 5), (5, 1), (6, 1), (7, 1), (8, 1)]) := by kernel_rfl
theorem xk : bM Tryz.prog 37 = some ([LV.p (PV.int IntKind.u64 0), LV.p (PV.int IntKind.u64 0)], [(0, 1), (1, 1)]) := by kernel_rfl
theorem Fz : bM Tryz.prog 40 = some ([LV.p (PV.int IntKind.i64 0), LV.p (PV.int IntKind.i64 0), LV.p (PV.int IntKind.u64 0), LV.p (PV.int IntKind.u64 0), LV.p (PV.int IntKind.u64 0)], [(0, 1), (1, 1), (2, 2), (4, 1)]) := by kernel_rfl
theorem oP : bM Tryz.prog 44 = some ([LV.zs, LV.zs], [(0, 1), (1, 1)]) := by kernel_rfl
theorem Al : bM Tryz.prog 46 = some ([LV.p (PV.int IntKind.i64 0), LV.p (PV.int IntKind.i64 0), LV.p (PV.int IntKind.i64 0), LV.p (PV.int IntKind.i64 0), LV.p (PV.int IntKind.u64 0), LV.p (PV.int IntKind.u64 0), LV.p (PV.int IntKind.u64 0), LV.zs, LV.zs], [(0, 1), (1, 1), (2, 5), (7, 2)]) := by kernel_rfl
theorem HZ : bM Tryz.prog 50 = some ([LV.p (PV.int IntKind.u64 0), LV.p (PV.int IntKind.u64 0), LV.p (PV.int IntKind.i64 0), LV.p (PV.int IntKind.i64 0)], [(0, 2), (2, 1), (3, 1)]) := by kernel_rfl
theorem uM : bM Tryz.prog 52 = some ([LV.p (PV.int IntKind.i64 0), LV.p (PV.int IntKind.i64 0), LV.zs, LV.zs, LV.zs, LV.zs, LV.zs, LV.p (PV.int IntKind.u64 0), LV.p (PV.int IntKind.u64 0), LV.p (PV.int IntKind.i64 0), LV.p (PV.int IntKind.i64 0), LV.p (PV.bool false)], [(0, 1), (1, 1), (2, 2), (4, 2), (6, 1), (7, 4), (11, 1)]) := by kernel_rfl
theorem FA : bM Tryz.prog 54 = some ([LV.p (PV.int IntKind.i64 0), LV.p (PV.int IntKind.i64 0), LV.p (PV.int IntKind.u64 0), LV.p (PV.int IntKind.u64 0)], [(0, 1), (1, 1), (2, 2)]) := by kernel_rfl
theorem Ek : bM Tryz.prog 92 = some ([LV.zs, LV.p (PV.int IntKind.u64 0), LV.p (PV.int IntKind.i64 0), LV.p (PV.int IntKind.i64 0), LV.p (PV.int IntKind.i64 0), LV.zs, LV.p (PV.int IntKind.i64 0), LV.zs, LV.zs, LV.zs, LV.zs, LV.p (PV.int IntKind.i64 0), LV.p (PV.bool false), LV.any, LV.p (PV.int IntKind.i64 0), LV.zs], [(0, 9), (9, 2), (11, 1), (12, 1), (13, 1), (14, 1), (15, 1)]) := by kernel_rfl
theorem Ej : bM Tryz.prog 108 = some ([LV.any, LV.any], [(0, 1), (1, 1)]) := by kernel_rfl
theorem Eh : bM Tryz.prog 143 = some ([LV.p (PV.int IntKind.i64 0), LV.p (PV.int IntKind.i64 0), LV.zs, LV.zs, LV.zs, LV.zs, LV.zs, LV.p (PV.int IntKind.u64 0), LV.p (PV.int IntKind.u64 0), LV.p (PV.int IntKind.i64 0), LV.p (PV.int IntKind.i64 0), LV.p (PV.bool false), LV.zs, LV.p (PV.int IntKind.u64 0), LV.p (PV.int IntKind.i64 0), LV.p (PV.int IntKind.i64 0), LV.p (PV.int IntKind.i64 0), LV.p (PV.int IntKind.i64 0), LV.zs], [(0, 12), (12, 5), (17, 1), (18, 1)]) := by kernel_rfl
theorem Ei : bM Tryz.prog 148 = some ([LV.any, LV.any, LV.any], [(0, 1), (1, 1), (2, 1)]) := by kernel_rfl
theorem Ef : bM Tryz.prog 163 = some ([LV.p (PV.int IntKind.u64 0), LV.p (PV.int IntKind.u64 0)], [(0, 1), (1, 1)]) := by kernel_rfl
theorem Fx : bM Tryz.prog 206 = some ([LV.p (PV.int IntKind.u64 0), LV.p (PV.int IntKind.i64 0), LV.p (PV.int IntKind.u32 0), LV.p (PV.int IntKind.i32 0), LV.p (PV.int IntKind.u32 0), LV.p (PV.int IntKind.i64 0), LV.p (PV.int IntKind.u64 0), LV.p (PV.int IntKind.u32 0), LV.p (PV.int IntKind.i32 0), LV.p (PV.int IntKind.u32 0), LV.p (PV.int IntKind.i64 0), LV.p (PV.int IntKind.u64 0), LV.p (PV.int IntKind.u32 0), LV.p (PV.int IntKind.i32 0), LV.p (PV.int IntKind.u32 0), LV.p (PV.int IntKind.i64 0), LV.p (PV.int IntKind.u64 0), LV.p (PV.int IntKind.u32 0), LV.p (PV.int IntKind.i32 0), LV.p (PV.int IntKind.u32 0), LV.p (PV.int IntKind.i64 0), LV.p (PV.int IntKind.u64 0), LV.p (PV.int IntKind.u32 0), LV.p (PV.int IntKind.i32 0), LV.p (PV.int IntKind.u32 0), LV.p (PV.int IntKind.i64 0), LV.p (PV.int IntKind.u64 0), LV.p (PV.int IntKind.u32 0), LV.p (PV.int IntKind.i32 0), LV.p (PV.int IntKind.u32 0), LV.p (PV.int IntKind.i64 0), LV.p (PV.int IntKind.u64 0), LV.p (PV.int IntKind.u32 0), LV.p (PV.int IntKind.i32 0), LV.p (PV.int IntKind.u32 0), LV.p (PV.int IntKind.i64 0), LV.p (PV.int IntKind.u64 0), LV.p (PV.int IntKind.u32 0), LV.p (PV.int IntKind.i32 0), LV.p (PV.int IntKind.u32 0), LV.p (PV.int IntKind.i64 0), LV.p (PV.int IntKind.u64 0), LV.p (PV.int IntKind.u32 0), LV.p (PV.int IntKind.i32 0), LV.p (PV.int IntKind.u32 0), LV.p (PV.int IntKind.i64 0), LV.p (PV.int IntKind.u64 0), LV.p (PV.int IntKind.u32 0), LV.p (PV.int IntKind.i32 0), LV.p (PV.int IntKind.u32 0), LV.p (PV.int IntKind.i64 0), LV.p (PV.int IntKind.u64 0), LV.p (PV.int IntKind.i64 0)], [(0, 1), (1, 1), (2, 50), (52, 1)]) := by kernel_rfl
theorem Eg : bM Tryz.prog 235 = some ([LV.nilmap, LV.nilmap], [(0, 1), (1, 1)]) := by kernel_rfl
theorem Am : bM Tryz.prog 238 = some ([LV.p (PV.int IntKind.i64 0), LV.p (PV.int IntKind.i64 0)], [(0, 1), (1, 1)]) := by kernel_rfl
theorem C8 : bM Tryz.prog 242 = some ([LV.p (PV.int IntKind.i64 0), LV.p (PV.int IntKind.u64 0), LV.p (PV.int IntKind.u64 0)], [(0, 1), (1, 2)]) := by kernel_rfl
theorem Fy : bM Tryz.prog 251 = some ([LV.zs, LV.zs, LV.nilmap, LV.nilmap, LV.p (PV.int IntKind.i64 0), LV.p (PV.bool false)], [(0, 2), (2, 1), (3, 1), (4, 1), (5, 1)]) := by kernel_rfl
theorem tb : jR Tryz.prog 37 2 = true := by kernel_rfl
theorem tc : jR Tryz.prog 40 5 = true := by kernel_rfl
theorem Dt : jR Tryz.prog 50 4 = true := by kernel_rfl
theorem AA : jR Tryz.prog 54 4 = true := by kernel_rfl
theorem CM : jR Tryz.prog 163 2 = true := by kernel_rfl
theorem CN : jR Tryz.prog 238 2 = true := by kernel_rfl
theorem EL : jR Tryz.prog 242 3 = true := by kernel_rfl
theorem gp : an Tryz.prog 25 0 = some (0, 1, false) := by kernel_rfl
theorem AJ : an Tryz.prog 25 1 = some (1, 1, false) := by kernel_rfl
theorem pk : an Tryz.prog 25 2 = some (2, 1, false) := by kernel_rfl
theorem uY : an Tryz.prog 25 3 = some (3, 1, false) := by kernel_rfl
theorem pm : an Tryz.prog 25 4 = some (4, 1, false) := by kernel_rfl
theorem l0 : an Tryz.prog 32 0 = some (0, 5, true) := by kernel_rfl
theorem df : an Tryz.prog 32 1 = some (5, 1, false) := by kernel_rfl
theorem dA : an Tryz.prog 32 2 = some (6, 1, false) := by kernel_rfl
theorem bA : an Tryz.prog 32 3 = some (7, 1, false) := by kernel_rfl
theorem eM : an Tryz.prog 32 4 = some (8, 1, false) := by kernel_rfl
theorem jW : an Tryz.prog 40 0 = some (0, 1, false) := by kernel_rfl
theorem uX : an Tryz.prog 40 1 = some (1, 1, false) := by kernel_rfl
theorem lp : an Tryz.prog 40 2 = some (2, 2, true) := by kernel_rfl
theorem EO : an Tryz.prog 40 3 = some (4, 1, false) := by kernel_rfl
theorem br : an Tryz.prog 44 0 = some (0, 1, false) := by kernel_rfl
theorem bG : an Tryz.prog 44 1 = some (1, 1, false) := by kernel_rfl
theorem jS : an Tryz.prog 46 0 = some (0, 1, false) := by kernel_rfl
theorem jT : an Tryz.prog 46 1 = some (1, 1, false) := by kernel_rfl
theorem jU : an Tryz.prog 46 2 = some (2, 5, true) := by kernel_rfl
theorem eO : an Tryz.prog 46 3 = some (7, 2, true) := by kernel_rfl
theorem rx : an Tryz.prog 50 0 = some (0, 2, true) := by kernel_rfl
theorem AF : an Tryz.prog 50 1 = some (2, 1, false) := by kernel_rfl
theorem EN : an Tryz.prog 50 2 = some (3, 1, false) := by kernel_rfl
theorem eN : an Tryz.prog 52 0 = some (0, 1, false) := by kernel_rfl
theorem b8 : an Tryz.prog 52 1 = some (1, 1, false) := by kernel_rfl
theorem bR : an Tryz.prog 52 2 = some (2, 2, true) := by kernel_rfl
theorem bF : an Tryz.prog 52 3 = some (4, 2, true) := by kernel_rfl
theorem bI : an Tryz.prog 52 4 = some (6, 1, false) := by kernel_rfl
theorem gm : an Tryz.prog 52 5 = some (7, 4, true) := by kernel_rfl
theorem fx : an Tryz.prog 52 6 = some (11, 1, false) := by kernel_rfl
theorem pn : an Tryz.prog 54 0 = some (0, 1, false) := by kernel_rfl
theorem po : an Tryz.prog 54 1 = some (1, 1, false) := by kernel_rfl
theorem lq : an Tryz.prog 54 2 = some (2, 2, true) := by kernel_rfl
theorem pd : an Tryz.prog 73 0 = some (0, 1, false) := by kernel_rfl
theorem pg : an Tryz.prog 73 1 = some (1, 1, false) := by kernel_rfl
theorem AE : an Tryz.prog 73 2 = some (2, 1, false) := by kernel_rfl
theorem tk : an Tryz.prog 73 3 = some (3, 1, false) := by kernel_rfl
theorem tm : an Tryz.prog 73 4 = some (4, 1, false) := by kernel_rfl
theorem AI : an Tryz.prog 92 0 = some (0, 9, true) := by kernel_rfl
theorem pi : an Tryz.prog 92 1 = some (9, 2, true) := by kernel_rfl
theorem pj : an Tryz.prog 92 2 = some (11, 1, false) := by kernel_rfl
theorem tr : an Tryz.prog 92 3 = some (12, 1, false) := by kernel_rfl
theorem tt : an Tryz.prog 92 4 = some (13, 1, false) := by kernel_rfl
theorem tu : an Tryz.prog 92 5 = some (14, 1, false) := by kernel_rfl
theorem tv : an Tryz.prog 92 6 = some (15, 1, false) := by kernel_rfl
theorem AG : an Tryz.prog 108 0 = some (0, 1, false) := by kernel_rfl
theorem AH : an Tryz.prog 108 1 = some (1, 1, false) := by kernel_rfl
theorem au : an Tryz.prog 143 0 = some (0, 12, true) := by kernel_rfl
theorem gn : an Tryz.prog 143 1 = some (12, 5, true) := by kernel_rfl
theorem cz : an Tryz.prog 143 2 = some (17, 1, false) := by kernel_rfl
theorem l5 : an Tryz.prog 143 3 = some (18, 1, false) := by kernel_rfl
theorem wo : an Tryz.prog 192 1 = some (0, 1, false) := by kernel_rfl
theorem rq : an Tryz.prog 194 0 = some (0, 1, false) := by kernel_rfl
theorem wq : an Tryz.prog 196 1 = some (0, 2, true) := by kernel_rfl
theorem nV : an Tryz.prog 198 1 = some (0, 1, true) := by kernel_rfl
theorem wt : an Tryz.prog 198 2 = some (1, 2, true) := by kernel_rfl
theorem wu : an Tryz.prog 200 0 = some (0, 3, true) := by kernel_rfl
theorem wv : an Tryz.prog 200 1 = some (3, 1, false) := by kernel_rfl
theorem ww : an Tryz.prog 200 2 = some (4, 1, false) := by kernel_rfl
theorem wx : an Tryz.prog 204 2 = some (0, 1, false) := by kernel_rfl
theorem wy : an Tryz.prog 206 0 = some (0, 1, false) := by kernel_rfl
theorem rr : an Tryz.prog 206 1 = some (1, 1, false) := by kernel_rfl
theorem wz : an Tryz.prog 206 2 = some (2, 50, true) := by kernel_rfl
theorem ru : an Tryz.prog 206 3 = some (52, 1, true) := by kernel_rfl
theorem ph : an Tryz.prog 235 0 = some (0, 1, false) := by kernel_rfl
theorem tp : an Tryz.prog 235 1 = some (1, 1, false) := by kernel_rfl
theorem tq : an Tryz.prog 238 0 = some (0, 1, false) := by kernel_rfl
theorem l4 : an Tryz.prog 242 0 = some (0, 1, false) := by kernel_rfl
theorem rv : an Tryz.prog 242 1 = some (1, 2, true) := by kernel_rfl
theorem eg : an Tryz.prog 251 0 = some (0, 2, true) := by kernel_rfl
theorem kJ : an Tryz.prog 251 1 = some (2, 1, false) := by kernel_rfl
theorem nW : an Tryz.prog 251 2 = some (3, 1, false) := by kernel_rfl
theorem wA : an Tryz.prog 251 3 = some (4, 1, false) := by kernel_rfl
theorem nX : an Tryz.prog 251 4 = some (5, 1, false) := by kernel_rfl
theorem DD : dh Tryz.prog 120 = some (37, 4, 2, true) := by kernel_rfl
theorem jG : dh Tryz.prog 122 = some (37, 3, 2, true) := by kernel_rfl
theorem DC : dh Tryz.prog 209 = some (3, 4, 1, false) := by kernel_rfl
theorem AZ : dh Tryz.prog 232 = some (238, 37, 2, true) := by kernel_rfl
theorem A0 : dh Tryz.prog 233 = some (238, 4, 2, true) := by kernel_rfl
theorem A1 : dh Tryz.prog 249 = some (54, 4, 4, true) := by kernel_rfl
theorem fP : cp Tryz.prog 22 = some (1, 8) := by kernel_rfl
theorem hZ : cp Tryz.prog 26 = some (5, 72) := by kernel_rfl
theorem er : cp Tryz.prog 29 = some (12, 176) := by kernel_rfl
theorem bv : cp Tryz.prog 30 = some (9, 104) := by kernel_rfl
theorem dJ : cp Tryz.prog 41 = some (5, 40) := by kernel_rfl
theorem cZ : cp Tryz.prog 42 = some (4, 32) := by kernel_rfl
theorem pK : cp Tryz.prog 47 = some (2, 16) := by kernel_rfl
theorem CY : cp Tryz.prog 99 = some (1, 8) := by kernel_rfl
theorem EY : cp Tryz.prog 212 = some (1, 8) := by kernel_rfl
theorem vr : cp Tryz.prog 224 = some (1, 24) := by kernel_rfl
theorem aX : aJ Tryz.prog 3 = some (1, false) := by kernel_rfl
theorem vC : aJ Tryz.prog 4 = some (1, false) := by kernel_rfl
theorem IN : aJ Tryz.prog 21 = some (1, false) := by kernel_rfl
theorem eU : aJ Tryz.prog 22 = some (1, false) := by kernel_rfl
theorem mz : aJ Tryz.prog 23 = some (1, false) := by kernel_rfl
theorem b6 : aJ Tryz.prog 25 = some (5, true) := by kernel_rfl
theorem Bv : aJ Tryz.prog 26 = some (1, false) := by kernel_rfl
theorem cQ : aJ Tryz.prog 29 = some (1, false) := by kernel_rfl
theorem bl : aJ Tryz.prog 30 = some (1, false) := by kernel_rfl
theorem bU : aJ Tryz.prog 32 = some (9, true) := by kernel_rfl
theorem aV : aJ Tryz.prog 37 = some (2, true) := by kernel_rfl
theorem cj : aJ Tryz.prog 40 = some (5, true) := by kernel_rfl
theorem dr : aJ Tryz.prog 41 = some (1, false) := by kernel_rfl
theorem dP : aJ Tryz.prog 42 = some (1, false) := by kernel_rfl
theorem aK : aJ Tryz.prog 44 = some (2, true) := by kernel_rfl
theorem dO : aJ Tryz.prog 46 = some (9, true) := by kernel_rfl
theorem gC : aJ Tryz.prog 50 = some (4, true) := by kernel_rfl
theorem bZ : aJ Tryz.prog 52 = some (12, true) := by kernel_rfl
theorem co : aJ Tryz.prog 54 = some (4, true) := by kernel_rfl
theorem jp : aJ Tryz.prog 73 = some (5, true) := by kernel_rfl
theorem BC : aJ Tryz.prog 90 = some (1, false) := by kernel_rfl
theorem p0 : aJ Tryz.prog 92 = some (16, true) := by kernel_rfl
theorem E0 : aJ Tryz.prog 105 = some (1, false) := by kernel_rfl
theorem q9 : aJ Tryz.prog 106 = some (1, false) := by kernel_rfl
theorem BA : aJ Tryz.prog 108 = some (2, true) := by kernel_rfl
theorem Bz : aJ Tryz.prog 120 = some (1, false) := by kernel_rfl
theorem x7 : aJ Tryz.prog 122 = some (1, false) := by kernel_rfl
theorem vB : aJ Tryz.prog 147 = some (1, false) := by kernel_rfl
theorem EZ : aJ Tryz.prog 148 = some (3, true) := by kernel_rfl
theorem pZ : aJ Tryz.prog 163 = some (2, true) := by kernel_rfl
theorem pY : aJ Tryz.prog 186 = some (1, false) := by kernel_rfl
theorem Bx : aJ Tryz.prog 209 = some (1, false) := by kernel_rfl
theorem vA : aJ Tryz.prog 232 = some (1, false) := by kernel_rfl
theorem Bw : aJ Tryz.prog 233 = some (1, false) := by kernel_rfl
theorem rO : aJ Tryz.prog 235 = some (2, true) := by kernel_rfl
theorem lJ : aJ Tryz.prog 238 = some (2, true) := by kernel_rfl
theorem nG : aJ Tryz.prog 242 = some (3, true) := by kernel_rfl
theorem By : aJ Tryz.prog 246 = some (1, false) := by kernel_rfl
theorem wM : aJ Tryz.prog 249 = some (1, false) := by kernel_rfl
theorem nH : aJ Tryz.prog 252 = some (1, false) := by kernel_rfl
theorem C5 : jC Tryz.prog 3 = some (LV.p (PV.int IntKind.i64 0)) := by kernel_rfl
theorem HD : jC Tryz.prog 4 = some (LV.p (PV.bool false)) := by kernel_rfl
theorem IP : jC Tryz.prog 37 = some (LV.p (PV.agg [PV.int IntKind.u64 0, PV.int IntKind.u64 0])) := by kernel_rfl
theorem I5 : bD Tryz.prog 3 = some [LV.p (PV.int IntKind.i64 0)] := by kernel_rfl
theorem IR : bD Tryz.prog 22 = some [LV.zs] := by kernel_rfl
theorem IS : bD Tryz.prog 25 = some [LV.zs, LV.p (PV.int IntKind.u64 0), LV.p (PV.int IntKind.i64 0), LV.p (PV.int IntKind.i64 0), LV.p (PV.int IntKind.i64 0)] := by kernel_rfl
theorem kd : bD Tryz.prog 32 = some [LV.zs, LV.p (PV.int IntKind.u64 0), LV.p (PV.int IntKind.i64 0), LV.p (PV.int IntKind.i64 0), LV.p (PV.int IntKind.i64 0), LV.zs, LV.p (PV.int IntKind.i64 0), LV.zs, LV.zs] := by kernel_rfl
theorem ke : bD Tryz.prog 37 = some [LV.p (PV.int IntKind.u64 0), LV.p (PV.int IntKind.u64 0)] := by kernel_rfl
theorem un : bD Tryz.prog 40 = some [LV.p (PV.int IntKind.i64 0), LV.p (PV.int IntKind.i64 0), LV.p (PV.int IntKind.u64 0), LV.p (PV.int IntKind.u64 0), LV.p (PV.int IntKind.u64 0)] := by kernel_rfl
theorem IT : bD Tryz.prog 42 = some [LV.zs] := by kernel_rfl
theorem iS : bD Tryz.prog 44 = some [LV.zs, LV.zs] := by kernel_rfl
theorem np : bD Tryz.prog 46 = some [LV.p (PV.int IntKind.i64 0), LV.p (PV.int IntKind.i64 0), LV.p (PV.int IntKind.i64 0), LV.p (PV.int IntKind.i64 0), LV.p (PV.int IntKind.u64 0), LV.p (PV.int IntKind.u64 0), LV.p (PV.int IntKind.u64 0), LV.zs, LV.zs] := by kernel_rfl
theorem IQ : bD Tryz.prog 50 = some [LV.p (PV.int IntKind.u64 0), LV.p (PV.int IntKind.u64 0), LV.p (PV.int IntKind.i64 0), LV.p (PV.int IntKind.i64 0)] := by kernel_rfl
theorem nl : bD Tryz.prog 52 = some [LV.p (PV.int IntKind.i64 0), LV.p (PV.int IntKind.i64 0), LV.zs, LV.zs, LV.zs, LV.zs, LV.zs, LV.p (PV.int IntKind.u64 0), LV.p (PV.int IntKind.u64 0), LV.p (PV.int IntKind.i64 0), LV.p (PV.int IntKind.i64 0), LV.p (PV.bool false)] := by kernel_rfl
theorem rR : bD Tryz.prog 54 = some [LV.p (PV.int IntKind.i64 0), LV.p (PV.int IntKind.i64 0), LV.p (PV.int IntKind.u64 0), LV.p (PV.int IntKind.u64 0)] := by kernel_rfl
theorem BJ : bD Tryz.prog 73 = some [LV.p (PV.int IntKind.i64 0), LV.p (PV.int IntKind.i64 0), LV.p (PV.bool false), LV.zs, LV.zs] := by kernel_rfl
theorem vH : bD Tryz.prog 92 = some [LV.zs, LV.p (PV.int IntKind.u64 0), LV.p (PV.int IntKind.i64 0), LV.p (PV.int IntKind.i64 0), LV.p (PV.int IntKind.i64 0), LV.zs, LV.p (PV.int IntKind.i64 0), LV.zs, LV.zs, LV.zs, LV.zs, LV.p (PV.int IntKind.i64 0), LV.p (PV.bool false), LV.any, LV.p (PV.int IntKind.i64 0), LV.zs] := by kernel_rfl
theorem HE : bD Tryz.prog 106 = some [LV.any] := by kernel_rfl
theorem BL : bD Tryz.prog 108 = some [LV.any, LV.any] := by kernel_rfl
theorem HH : bD Tryz.prog 120 = some [LV.nilmap] := by kernel_rfl
theorem E3 : bD Tryz.prog 148 = some [LV.any, LV.any, LV.any] := by kernel_rfl
theorem vF : bD Tryz.prog 163 = some [LV.p (PV.int IntKind.u64 0), LV.p (PV.int IntKind.u64 0)] := by kernel_rfl
theorem HF : bD Tryz.prog 209 = some [LV.nilmap] := by kernel_rfl
theorem vG : bD Tryz.prog 235 = some [LV.nilmap, LV.nilmap] := by kernel_rfl
theorem BK : bD Tryz.prog 238 = some [LV.p (PV.int IntKind.i64 0), LV.p (PV.int IntKind.i64 0)] := by kernel_rfl
theorem DT : bD Tryz.prog 242 = some [LV.p (PV.int IntKind.i64 0), LV.p (PV.int IntKind.u64 0), LV.p (PV.int IntKind.u64 0)] := by kernel_rfl
theorem HG : bD Tryz.prog 246 = some [LV.any] := by kernel_rfl
theorem DU : bD Tryz.prog 252 = some [LV.any] := by kernel_rfl
end
abbrev ID := Int × Int
def cw (p : ID) : PV := .agg [.int .u64 p.1, .int .u64 p.2]
def kb (x : Int) : PV := .int .u64 x
structure Bk where
 Slot : Int
 From : Int
 Parent : ID
 Salt : Int
 deriving DecidableEq
def ay (b : Bk) : PV := .agg [.int .i64 b.Slot, .int .i64 b.From, .int .u64 b.Parent.1, .int .u64 b.Parent.2, .int .u64 b.Salt]
structure Vt where
 From : Int
 Slot : Int
 Head : ID
 deriving DecidableEq
def aD (v : Vt) : PV := .agg [.int .i64 v.From, .int .i64 v.Slot, .int .u64 v.Head.1, .int .u64 v.Head.2]
structure Cf where
 W : List Int
 Seed : Int
 Epoch : Int
 Num : Int
 Den : Int
def kG (c : Cf) : PV := .agg [.slice 1 (c.W.map aB), .int .u64 c.Seed, .int .i64 c.Epoch, .int .i64 c.Num, .int .i64 c.Den]
structure Vw where
 B : List Bk
 V : List Vt
def kZ (v : Vw) : PV := .agg [.slice 5 (v.B.map ay), .slice 4 (v.V.map aD)]
structure Cu where
 ID : Go.Mg.ID
 Slot : Int
 Revoked : Int
 deriving DecidableEq
def qb (c : Cu) : PV := .agg [.int .u64 c.ID.1, .int .u64 c.ID.2, .int .i64 c.Slot, .int .i64 c.Revoked]
structure Rk where
 n : Int
 id : Go.Mg.ID
def I4 (c : Rk) : PV := .agg [.int .i64 c.n, .int .u64 c.id.1, .int .u64 c.id.2]
theorem GJ {a b : ID} {r : Bool} (h : cd [.int .u64 a.1, .int .u64 a.2] [.int .u64 b.1, .int .u64 b.2] = some r) : r = decide (a = b) := by
 rw [oV] at h;cases h;obtain ⟨x, y⟩ := a;obtain ⟨z, w⟩ := b;simp only [Bool.and_true, Prod.mk.injEq];by_cases h1 : x = z <;> by_cases h2 : y = w <;> simp [h1, h2]
theorem dZ : eJ cw 2 true := ⟨fun a b => by
 obtain ⟨x, y⟩ := a;obtain ⟨z, w⟩ := b;simp only [cw, gu, oV, Bool.and_true, Prod.mk.injEq, Option.some.injEq]
 by_cases h1 : x = z <;> by_cases h2 : y = w <;> simp [h1, h2], fun _ => rfl⟩
theorem AN : eJ aB 1 false := ⟨fun a b => by simp only [aB, gu, if_pos, Option.some.injEq]; by_cases h : a = b <;> simp [h], fun _ => rfl⟩
theorem wN : eJ aD 4 true := ⟨fun a b => by
 obtain ⟨a1, a2, a3⟩ := a;obtain ⟨b1, b2, b3⟩ := b;simp only [aD, gu, cd, if_pos, Option.some.injEq, Vt.mk.injEq];rw [Bool.eq_iff_iff];obtain ⟨a3, a4⟩ := a3;obtain ⟨b3, b4⟩ := b3
 simp, fun _ => rfl⟩
theorem CL (a b : ID) : ((a.1 == b.1) && ((a.2 == b.2) && true)) = decide (a = b) := by
 obtain ⟨x, y⟩ := a;obtain ⟨z, w⟩ := b;by_cases h1 : x = z <;> by_cases h2 : y = w <;> simp [h1, h2]
theorem EK (a b : Bk) : ((a.Slot == b.Slot) && ((a.From == b.From) && ((a.Parent.1 == b.Parent.1) && ((a.Parent.2 == b.Parent.2) && ((a.Salt == b.Salt) && true))))) = decide (a = b) := by
 obtain ⟨a1, a2, ⟨a3, a4⟩, a5⟩ := a;obtain ⟨b1, b2, ⟨b3, b4⟩, b5⟩ := b;simp only [Bool.and_true, Bk.mk.injEq, Prod.mk.injEq];rw [Bool.eq_iff_iff];simp [and_assoc]
theorem GE (a b : Vt) : ((a.From == b.From) && ((a.Slot == b.Slot) && ((a.Head.1 == b.Head.1) && ((a.Head.2 == b.Head.2) && true)))) = decide (a = b) := by
 obtain ⟨a1, a2, ⟨a3, a4⟩⟩ := a;obtain ⟨b1, b2, ⟨b3, b4⟩⟩ := b;rw [Bool.eq_iff_iff];simp
abbrev kB (l : List Bk) : LV := .p (.slice 5 (l.map ay))
abbrev kV (l : List Vt) : LV := .p (.slice 4 (l.map aD))
abbrev kI (l : List Int) : LV := .p (.slice 1 (l.map aB))
abbrev jB (i : Nat) (l : List Bk) : LV := .vec 5 i (l.map ay).length 0 (l.map ay).length
abbrev jV (i : Nat) (l : List Vt) : LV := .vec 4 i (l.map aD).length 0 (l.map aD).length
abbrev jI (i : Nat) (l : List Int) : LV := .vec 1 i (l.map aB).length 0 (l.map aB).length
abbrev mQ (m : List (ID × Int)) : aa := .map (ah cw (fun v => .p (.int .i64 v)) m)
abbrev mR (m : List (Vt × Bool)) : aa := .map (ah aD (fun v => .p (.bool v)) m)
abbrev bN (c : Cf) : List LV := [.p (.slice 1 (c.W.map aB)), .p (.int .u64 c.Seed), .p (.int .i64 c.Epoch), .p (.int .i64 c.Num), .p (.int .i64 c.Den)]
abbrev du (w : Vw) : List LV := [.p (.slice 5 (w.B.map ay)), .p (.slice 4 (w.V.map aD))]
open Go.Proofs
def G7 (x : Int) : Int :=
 let a := IntKind.u64.wrap (bits .xor .u64 x (x.fdiv (2 ^ (min (Int.toNat 30) IntKind.u64.bits))) * 13787848793156543929)
 let b := IntKind.u64.wrap (bits .xor .u64 a (a.fdiv (2 ^ (min (Int.toNat 27) IntKind.u64.bits))) * 10723151780598845931)
 bits .xor .u64 b (b.fdiv (2 ^ (min (Int.toNat 31) IntKind.u64.bits)))
def step (h x : Int) : Int := G7 (IntKind.u64.wrap (bits .xor .u64 h x + 11400714819323198485))
def IY (x : Int) : Int := bits .xor .u64 (if IntKind.u64.signed then -1 else IntKind.u64.max) x
theorem Ik {x : Int} : aw Tryz.prog 125 [.int .u64 x] [.int .u64 (G7 x)] := by
 refine zh Tryz.func125 Z Z Z Z ?_;refine zQ<|zR<|yS Z (za Z Z)<|zN<|zT<|zQ<|zR<|yS Z (zm Z Z)<|yS Z (zm Z Z)<|yS Z (ab.shr Z Z Z (by decide))<|yS Z (ax Z Z Z Z)<|yS Z (ax Z Z Z Z)<|yS Z (za Z Z)<|zN<|zT<|zQ<|zR<|yS Z (zm Z Z)<|yS Z (zm Z Z)<|yS Z (ab.shr Z Z Z (by decide))<|yS Z (ax Z Z Z Z)<|yS Z (ax Z Z Z Z)<|yS Z (za Z Z)<|zN ?_;exact zT<|zQ<|zR<|yS Z (zm Z Z)<|yS Z (zm Z Z)<|yS Z (ab.shr Z Z Z (by decide))<|yS Z (ax Z Z Z Z)<|yS Z (za Z Z)<|zN<|zT<|zr<|zf (.one (.tmp Z)) zv
theorem sS {h x : Int} : aw Tryz.prog 70 [.int .u64 h, .int .u64 x] [.int .u64 (step h x)] := by
 refine zh Tryz.func70 Z Z Z Z ?_;exact zQ<|zR<|yS Z (za Z Z)<|zN<|zT<|zQ<|zR<|yS Z (zm Z Z)<|yS Z (zm Z Z)<|yS Z (ax Z Z Z Z)<|yS Z (ax Z Z Z Z)<|yS Z (zC Z Z Z (by kernel_rfl) (zp Ik (.cons zv .nil)))<|yS Z (za Z Z)<|zN<|zT<|zr<|zf (.one (.tmp Z)) zv
theorem FN {x a b : Int} {id : Nat} {H H' : List aa} (hH : aH H id = some (.box [(uQ a), (uQ b)])) (hH' : aO H id (.box [.p (.int .u64 (step a x)), .p (.int .u64 (step b (IY x)))]) = some H') : LC Tryz.prog 102 [(uQ x), .ptr id 0] H (Is (.tup []) H') := by
 refine dt Tryz.func102 Z Z Z ?_;exact LW.drawLast (m := 10) (by kernel_rfl) (by kernel_rfl) (by kernel_rfl)<|yE Z (ab.indexAddrA Z Z Z xj (by decide) (by decide))<|yE Z (zD Z Z hH mz Z Z)<|yE Z (zm Z Z)<|yE Z (zC Z Z Z (by kernel_rfl) (zp sS (.cons zv (.cons zv .nil))))<|yE Z (ab.indexAddrA Z Z Z xj (by decide) (by decide))<|yE Z (zD Z Z hH mz Z Z)<|yE Z (zm Z Z)<|yE Z (ab.compl Z Z)<|yE Z (zC Z Z Z (by kernel_rfl) (zp sS (.cons zv (.cons zv .nil))))<|yE Z (ab.build Z xk Z Z Z)<|LO.nil<|yS Z (zs Z Z Z hH aV Z Z Z hH')<|zN<|fM .none<|⟨rfl, rfl⟩
open Go.Proofs
def mc (p : Int × Int) (x : Int) : Int × Int := (step p.1 x, step p.2 (IY x))
def AY (l : List Int) : Int × Int := mc (l.foldl mc (1, 2)) (IntKind.u64.wrap l.length)
theorem Jh {l : List Int} : aw Tryz.prog 54 [.slice 1 (l.map kb)] [cw (AY l)] := by
 refine zh Tryz.func54 Z Z Z Z ?_;refine zQ ?_;refine LW.ok (t := 0) Z<|fun ok => ?_;have hlen := ok.len;simp only [List.length_map, maxLen] at hlen;refine zR<|yS Z (ze Z ke Z Z)<|zN<|zT<|zQ<|zR<|yS Z (ab.build Z xk Z Z Z)<|yS Z (ze Z ke Z Z)<|yS Z (zs Z Z Z Z aV Z Z Z Z)<|zN<|zT<|zQ<|zR<|yS Z (ab.makeFunc Z Z Z)<|yS Z (za Z Z)<|zN<|zT<|zQ<|zQ<|zR<|yS Z (zm Z Z)<|yS Z (ab.len Z Z (by kernel_rfl))<|yS Z (zm Z Z)<|zN ?_;refine zT<|zl ?_;refine LW.loopOf (E := fun x : Nat × Int × Int => [(0, .p (.slice 1 (l.map kb))), (2, .ptr 0 0), (3, .ptr 1 0), (4, .fn 102 [] [.ptr 1 0]), (9, .p (.slice 1 (l.map kb))), (10, .p (.int .i64 (l.map kb).length)), (11, .p (.int .i64 (x.1 : Nat)))]) (O := fun x => [.box [(uQ 0), (uQ 0)], .box [(uQ x.2.1), (uQ x.2.2)]]) (G := fun x => x.1 ≤ l.length ∧ x.2 = (l.take x.1).foldl mc (1, 2)) (meas := fun x => l.length - x.1) (0, 1, 2) (zW 2 ⟨rfl, rfl, rfl, rfl, rfl, rfl, rfl, trivial⟩ Z Z Z Z) ⟨Nat.zero_le _, rfl⟩<|fun x hx => ?_;refine zQ<|zR<|yS Z (ax Z Z Z Z)<|zN<|zT<|zQ ?_;refine zX Z (fun g1 => ?_)<|fun g1 => ?_
 ·
  refine zk<|zT<|zQ<|zl<|zQ ?_
  have hlt : x.1 < l.length := by simpa using g1
  obtain ⟨y, hy⟩ := ma hlt;refine zR (yS Z (ab.indexAddr Z Z Z CY (by omega) (rC hy) Z) (yS Z (cT Z Z Z mz Z Z) (yS Z (za Z Z) (zN (zT (zR (yS Z (zm Z Z) (yS Z (zm Z Z) (yS Z (zC Z Z Z (by kernel_rfl) (FN (id := 1) Z Z)) (zN (ai (zT (zR (yS Z (ab.isEq (y := .p (.int .i64 ((x.1 + 1 : Nat) : Int))) (ax Z Z Z Z) (by rw [d8 (by omega) (by omega)]; rfl)) (yS Z (zm Z Z) (zN (zT ?_)))))))))))))))));refine ⟨(x.1 + 1, mc x.2 y), ?_, ?_, zW 2 ⟨rfl, rfl, rfl, rfl, rfl, rfl, rfl, trivial⟩ Z Z Z rfl⟩
  ·simp only; omega
  ·refine ⟨hlt, ?_⟩; rw [List.take_add_one, hy, List.foldl_append, ← hx.2]; rfl
 ·
  refine zq<|ao<|ao<|zy<|zT<|zQ ?_
  have hnlt : ¬ x.1 < l.length := by simpa using g1
  have hend : x.1 = l.length := by omega
  have hfold : x.2 = l.foldl mc (1, 2) := by rw [hx.2, hend, List.take_length]
  refine zR<|yS Z (zm Z Z)<|yS Z (zm Z Z)<|yS Z (ab.len Z Z (by kernel_rfl))<|yS Z (ab.convert (k' := .u64) Z Z (by kernel_rfl))<|yS Z (zC Z Z Z (by kernel_rfl) (FN (id := 1) Z Z))<|zN<|zT<|zQ<|zR<|yS Z (zD Z Z Z aV Z Z)<|yS Z (zs Z Z Z Z aV Z Z Z Z)<|zN<|zT<|zr<|zf (.one (.cellAgg Z Z (by kernel_rfl) Z))<|Conv.pe ?_;simp only [List.length_map, cw, AY, ← hfold];rfl
open Go.Proofs
def qS (b : Bk) : List Int := [1, IntKind.u64.wrap b.Slot, IntKind.u64.wrap b.From, b.Parent.1, b.Parent.2, b.Salt]
def nm (b : Bk) : ID := AY (qS b)
def aT (l : List ID) (v : ID) : Int := match l.findIdx? (fun x => decide (v = x)) with | some i => (i : Nat) | none => -1
theorem lv {l : List ID} {v : ID} {i : Nat} (h : l[i]? = some v) (hno : ∀ j, j < i → l[j]? ≠ some v) : aT l v = i := by
 have hi := (List.getElem?_eq_some_iff.1 h).1
 have : l.findIdx? (fun x => decide (v = x)) = some i := by
  rw [List.findIdx?_eq_some_iff_getElem];refine ⟨hi, by simp [(List.getElem?_eq_some_iff.1 h).2], fun j hj => ?_⟩;have := hno j hj;rw [List.getElem?_eq_getElem (by omega)] at this;simpa using fun e => this (by rw [e])
 simp [aT, this]
theorem l6 {l : List ID} {v : ID} (hno : ∀ j, j < l.length → l[j]? ≠ some v) : aT l v = -1 := by
 have : l.findIdx? (fun x => decide (v = x)) = none := by
  rw [List.findIdx?_eq_none_iff];intro x hx;obtain ⟨j, hj, rfl⟩ := List.mem_iff_getElem.1 hx;have := hno j hj;rw [List.getElem?_eq_getElem hj] at this;simpa using fun e => this (by rw [e])
 simp [aT, this]
theorem Fc {b : Bk} : aw Tryz.prog 19 [ay b] [cw (nm b)] := by
 refine zh Tryz.func19 Z Z Z Z ?_;refine zQ<|zR<|yS Z (bV Z Z Z Z Z)<|yS Z (ze Z ke Z Z)<|zN<|zT<|zQ<|zR<|yS Z (zA Z Z jW)<|yS Z (zD Z Z Z aX Z Z)<|yS Z (ab.convert (k' := .u64) Z Z (by kernel_rfl))<|yS Z (zA Z Z uX)<|yS Z (zD Z Z Z aX Z Z)<|yS Z (ab.convert (k' := .u64) Z Z (by kernel_rfl))<|yS Z (zA Z Z lp)<|yS Z (ab.indexAddrA Z Z Z xj (by decide) (by decide))<|yS Z (zD Z Z Z mz Z Z)<|yS Z (zA Z Z lp)<|yS Z (ab.indexAddrA Z Z Z xj (by decide) (by decide))<|yS Z (zD Z Z Z mz Z Z)<|yS Z (zA Z Z EO)<|yS Z (zD Z Z Z mz Z Z)<|yS Z (mA Z CY Z Z Z Z Z)<|yS Z (zC Z Z Z (by kernel_rfl) (zp (Jh (l := qS b)) (.cons zv .nil))) ?_;exact yS Z (zs Z Z Z Z aV Z Z Z Z)<|zN<|zT<|zr<|zf (.one (.cellAgg Z Z (by kernel_rfl) Z)) zv
theorem HQ {l : List ID} {v : ID} : aw Tryz.prog 119 [.slice 2 (l.map cw), cw v] [.int .i64 (aT l v)] := by
 refine zh Tryz.func119 Z Z Z Z ?_;refine zQ ?_;refine LW.ok (t := 0) Z<|fun ok => ?_;have hlen := ok.len;simp only [List.length_map, maxLen] at hlen;refine zR<|yS Z (bV Z Z Z Z Z)<|yS Z (za Z Z)<|zN<|zT<|zQ<|zQ<|zR<|yS Z (zm Z Z)<|yS Z (ab.len Z Z (by kernel_rfl))<|yS Z (zm Z Z)<|zN<|zT<|zl ?_;refine LW.loopOf (E := fun x : Nat => [(0, .p (.slice 2 (l.map cw))), (3, .ptr 0 0), (6, .p (.slice 2 (l.map cw))), (7, .p (.int .i64 (l.map cw).length)), (8, .p (.int .i64 (x : Nat)))]) (O := fun x => [.box [(uQ v.1), (uQ v.2)]]) (G := fun x => x ≤ l.length ∧ ∀ j, j < x → l[j]? ≠ some v) (meas := fun x => l.length - x) 0 (zW 1 ⟨rfl, rfl, rfl, rfl, rfl, trivial⟩ Z Z Z Z) ⟨Nat.zero_le _, fun j hj => absurd hj (by omega)⟩<|fun x hx => ?_;refine zQ<|zR<|yS Z (ax Z Z Z Z)<|zN<|zT<|zQ ?_;refine zX Z (fun g1 => ?_)<|fun g1 => ?_
 ·
  refine zk<|zT<|zQ<|zl<|zQ ?_
  have hlt : x < l.length := by simpa using g1
  obtain ⟨y, hy⟩ := ma hlt;refine zR<|yS Z (zm Z Z)<|yS Z (za Z Z)<|zN<|zT<|zQ<|LW.draw2 (by kernel_rfl) (by kernel_rfl)<|yE Z (zD Z Z Z aV Z Z)<|yE Z (zm Z Z)<|yE Z (zm Z Z)<|yE Z (ab.indexAddr Z Z Z pK (by omega) (rC hy) Z)<|yE Z (cT Z Z Z aV Z Z)<|yE Z (ab.eqlAgg Z Z Z Z Z tb)<|LO.nil<|zT ?_;refine zX Z (fun g2 => ?_)<|fun g2 => ?_
  ·
   refine zQ ?_;have he : v = y := of_decide_eq_true ((GJ (a := v) (b := y) rfl).symm.trans g2);exact zR (yS Z (zm Z Z) (yS Z (za Z Z) (zN (zT (zr (aq (af (af (aq (af (zf (.one (.tmp Z)) (Conv.pe (by rw [lv (hy.trans (congrArg some he.symm)) hx.2])))))))))))))
  ·
   refine zk<|ai<|zT ?_;have hne : v ≠ y := of_decide_eq_false ((GJ (a := v) (b := y) rfl).symm.trans g2);refine zR (yS Z (ab.isEq (y := .p (.int .i64 ((x + 1 : Nat) : Int))) (ax Z Z Z Z) (by rw [d8 (by omega) (by omega)]; rfl)) (yS Z (zm Z Z) (zN (zT ?_))));refine ⟨x + 1, ?_, ?_, zW 1 ⟨rfl, rfl, rfl, rfl, rfl, trivial⟩ Z Z Z rfl⟩
   ·omega
   ·exact ⟨hlt, fun j hj => by rcases Nat.lt_succ_iff_lt_or_eq.1 hj with h | h; exact hx.2 j h; subst h; rw [hy]; exact fun e => hne (zJ e).symm⟩
 ·
  refine zq<|ao<|ao<|zy<|zT<|zQ ?_
  have hnlt : ¬ x < l.length := by simpa using g1
  have hend : x = l.length := by omega
  exact zR (yS Z (za Z Z) (zN (zT (zr (zf (.one (.tmp Z)) (Conv.pe (by rw [l6 fun j hj => hx.2 j (by omega)])))))))
theorem Jg {l : List ID} {v : ID} : aw Tryz.prog 65 [.slice 2 (l.map cw), cw v] [.bool (decide (aT l v ≥ 0))] := by
 refine zh Tryz.func65 Z Z Z Z ?_;exact zQ<|zR<|yS Z (bV Z Z Z Z Z)<|yS Z (za Z Z)<|zN<|zT<|zQ<|zR<|yS Z (zm Z Z)<|yS Z (zD Z Z Z aV Z Z)<|yS Z (zC Z Z Z (by kernel_rfl) (zp HQ (.cons zv (.cons zv .nil))))<|yS Z (ax Z Z Z Z)<|yS Z (za Z Z)<|zN<|zT<|zr<|zf (.one (.tmp Z)) zv
open Go.Proofs
def bX (l : List Bk) (i : Int) : Int := if i = -1 then 0 else match l[i.toNat]? with
 | some b => b.Slot
 | none => 0
abbrev Dy : Int → LV := fun v => (iQ v)
def d7 (l : List Bk) : List Bk → Nat → List (ID × Int) → Option (List (ID × Int))
 | [], _, m => some m
 | b :: r, i, m => match aj m b.Parent with
  | none => none
  | some p => if b.Slot ≤ bX l p then none else match aj m (nm b) with
   | some _ => none
   | none => d7 l r (i + 1) (m ++ [(nm b, (i : Int))])
def places (l : List Bk) : Option (List (ID × Int)) := d7 l l 0 [((0, 0), -1)]
theorem eD {l : List Bk} {i : Nat} {y : Bk} (hy : l[i]? = some y) (m : List (ID × Int)) : d7 l (l.drop i) i m = match aj m y.Parent with
  | none => none
  | some p => if y.Slot ≤ bX l p then none else match aj m (nm y) with
   | some _ => none
   | none => d7 l (l.drop (i + 1)) (i + 1) (m ++ [(nm y, (i : Int))]) := by
 obtain ⟨hi, rfl⟩ := List.getElem?_eq_some_iff.1 hy;rw [List.drop_eq_getElem_cons hi];rfl
theorem Ii {l : List Bk} {i : Int} {id : Nat} {H : List aa} (hH : aH H id = some (.box [(kB l)])) (hi : i = -1 ∨ 0 ≤ i ∧ i < l.length) :
  LC Tryz.prog 127 [(iQ i), .ptr id 0] H (Is (.p (.int .i64 (bX l i))) H) := by
 refine dt Tryz.func127 Z Z Z ?_;refine zQ<|zR<|yS Z (za Z Z)<|zN<|zT<|zQ<|zQ<|zR<|yS Z (zm Z Z)<|yS Z (ax Z Z Z Z)<|zN<|zT ?_;refine zX Z (fun g1 => ?_)<|fun g1 => ?_
 ·
  refine zQ ?_
  have he : i = -1 := by simpa using g1
  exact zR<|yS Z (za Z Z)<|zN<|zT<|zr<|af<|ap (.one (.tmp Z))<|⟨by simp [bX, he], rfl⟩
 ·
  refine zk<|zT<|zQ ?_
  have hne : i ≠ -1 := by simpa using g1
  obtain ⟨y, hy⟩ := ma (l := l) (i := i.toNat) (by omega)
  have hiy : (l.map ay)[i.toNat]? = some (ay y) := by simp [hy]
  exact zR<|yS Z (zD Z Z hH dr Z Z)<|yS Z (zm Z Z)<|yS Z (ab.indexAddr Z Z Z dJ (by omega) hiy Z)<|yS Z (ab.fieldAddrC Z Z jW Z)<|yS Z (cT Z Z Z aX Z Z)<|yS Z (za Z Z)<|zN<|zT<|zr<|ap (.one (.tmp Z))<|⟨by simp [bX, hne, hy], rfl⟩
theorem c94 {l : List Bk} : LC Tryz.prog 75 [(kB l)] [] fun x H =>
  (∃ m, places l = some m ∧ x = .tup [.map 1, (bQ true)] ∧ H = [.box [(kB l)], .map (ah cw Dy m)]) ∨ (places l = none ∧ x = .tup [.nilmap, (bQ false)] ∧ H = []) := by
 refine dt Tryz.func75 Z Z Z ?_;refine zQ ?_;refine LW.ok (t := 0) Z<|fun ok => ?_;have hlen := ok.len;simp only [List.length_map, maxLen] at hlen;refine zR<|yS Z (bV Z Z Z Z Z)<|yS Z (za Z Z)<|yS Z (za Z Z)<|zN<|zT<|zQ<|zR<|yS Z (ab.makeMap Z Z Z)<|yS Z (ab.build Z xk Z Z Z)<|yS Z (ab.setNew (f := cw) (g := Dy) (m := []) (a := (0, 0)) (v := -1) dZ Z (.inr Z) Z Z Z Z Z jG Z)<|yS Z (zm Z Z)<|yS Z (za Z Z)<|zN<|zT<|zQ<|zR<|yS Z (ab.makeFunc Z Z Z)<|yS Z (za Z Z)<|zN<|zT<|zQ<|zQ<|zR ?_;refine yS Z (zD Z Z Z dr Z Z)<|yS Z (ab.len Z Z (by kernel_rfl))<|yS Z (zm Z Z)<|zN<|zT<|zl ?_;refine LW.loopOf (E := fun x : Nat × List (ID × Int) => [(1, .ptr 0 0), (4, .map 1), (5, .fn 127 [] [.ptr 0 0]), (17, (kB l)), (18, .p (.int .i64 (l.map ay).length)), (19, .p (.int .i64 (x.1 : Nat)))]) (O := fun x => [.box [(kB l)], .map (ah cw Dy x.2)]) (G := fun x => x.1 ≤ l.length ∧ d7 l (l.drop x.1) x.1 x.2 = places l ∧ ∀ k v, aj x.2 k = some v → v = -1 ∨ 0 ≤ v ∧ v < l.length) (meas := fun x => l.length - x.1) (0, [((0, 0), -1)]) (zW 2 ⟨rfl, rfl, rfl, rfl, rfl, rfl, trivial⟩ Z Z Z (zL Z (zL (ae (fun _ => rfl) _) Z))) ⟨Nat.zero_le _, rfl, fun k v h => by unfold aj aj at h; split at h <;> cases h; exact .inl rfl⟩ (fun x hx => ?_);refine zQ<|zR<|yS Z (ax Z Z Z Z)<|zN<|zT<|zQ ?_;refine zX Z (fun g1 => ?_)<|fun g1 => ?_
 ·
  refine zk<|zT<|zQ<|zl<|zQ ?_
  have hlt : x.1 < l.length := by simpa using g1
  obtain ⟨y, hy⟩ := ma hlt;refine zR<|yS Z (zm Z Z)<|yS Z (ab.indexAddr Z Z Z dJ (by omega) (rC hy) Z)<|yS Z (cT Z Z Z cj Z Z)<|yS Z (ze Z un Z Z)<|yS Z (za Z Z)<|yS Z (zs Z Z Z Z cj Z Z Z Z)<|zN<|zT<|zQ<|zR<|yS Z (zm Z Z)<|yS Z (zA Z Z lp)<|yS Z (zD Z Z Z aV Z Z) ?_;rcases hp : aj x.2 y.Parent with _ | p
  ·
   refine yS Z ((ab.getMiss dZ hp Z Z Z Z jG C5 Z))<|yS Z (zm Z Z)<|yS Z (fE Z Z Z)<|yS Z (fE Z Z Z)<|yS Z (za Z Z)<|yS Z (za Z Z)<|zN<|zT<|zQ<|zQ<|LW.draw2 (by kernel_rfl) (by kernel_rfl)<|yE Z (zm Z Z)<|yE Z (ab.not Z Z)<|yE Z (zm Z Z)<|LO.sk Z Z Z Z Z Z<|LO.sk Z Z Z Z Z Z<|LO.sk Z Z Z Z Z Z<|LO.sk Z Z Z Z Z Z<|LO.sk Z Z Z Z Z Z<|LO.sk Z Z Z Z Z Z<|yE Z (ca Z Z Z)<|LO.nil<|zT<|LW.condT Z ?_;refine zQ<|zR<|yS Z (za Z Z)<|yS Z (za Z Z)<|zN<|zT<|zr<|af<|aq<|af<|af<|aq<|af ?_;refine aS (env' := [(2, .nilmap), (3, (bQ false))]) (H' := []) (zW 0 ⟨rfl, rfl, trivial⟩ Z Z Z Z) (.two (.tmp Z) (.tmp Z))<|.inr ⟨?_, rfl, rfl⟩;rw [← hx.2.1, eD hy]
   first | (simp only [hp]; done) | (simp only [hp]; rw [if_pos (of_decide_eq_true g2)]; done) | (simp only [hp, hq]; split <;> rfl)
  ·
   refine yS Z ((ab.getHit dZ hp Z Z Z Z jG Z))<|yS Z (zm Z Z)<|yS Z (fE Z Z Z)<|yS Z (fE Z Z Z)<|yS Z (za Z Z)<|yS Z (za Z Z)<|zN<|zT<|zQ<|zQ<|LW.draw2 (by kernel_rfl) (by kernel_rfl)<|yE Z (zm Z Z)<|yE Z (ab.not Z Z)<|yE Z (zm Z Z)<|LO.gd Z Z Z Z Z (zA Z Z jW)<|LO.gd Z Z Z Z Z (zD Z Z Z aX Z Z)<|LO.gd Z Z Z Z Z (zm Z Z)<|LO.gd Z Z Z Z Z (zm Z Z)<|LO.gd Z Z Z Z Z (zC Z Z Z (by kernel_rfl) (Ii (id := 0) Z (hx.2.2 _ _ hp)))<|LO.gd Z Z Z Z Z (ax Z Z Z Z)<|yE Z (a8 Z Z Z)<|LO.nil<|zT ?_;refine zX Z (fun g2 => ?_)<|fun g2 => ?_
   ·
    refine zQ<|zR<|yS Z (za Z Z)<|yS Z (za Z Z)<|zN<|zT<|zr<|af<|aq<|af<|af<|aq<|af ?_;refine aS (env' := [(2, .nilmap), (3, (bQ false))]) (H' := []) (zW 0 ⟨rfl, rfl, trivial⟩ Z Z Z Z) (.two (.tmp Z) (.tmp Z))<|.inr ⟨?_, rfl, rfl⟩;rw [← hx.2.1, eD hy]
    first | (simp only [hp]; done) | (simp only [hp]; rw [if_pos (of_decide_eq_true g2)]; done) | (simp only [hp, hq]; split <;> rfl)
   ·
    refine zk<|zT<|zQ<|zR<|yS Z (zD Z Z Z cj Z Z)<|yS Z (zC Z Z Z (by kernel_rfl) (zp (Fc (b := y)) (.cons zv .nil)))<|yS Z (ze Z ke Z Z)<|yS Z (zs Z Z Z Z aV Z Z Z Z)<|zN<|zT<|zQ<|zQ<|zR<|yS Z (zm Z Z)<|yS Z (zD Z Z Z aV Z Z) ?_;rcases hq : aj x.2 (nm y) with _ | q
    ·
     refine yS Z ((ab.getMiss dZ hq Z Z Z Z jG C5 Z))<|yS Z (zm Z Z)<|yS Z (fE Z Z Z)<|yS Z (fE Z Z Z)<|yS Z (za Z Z)<|yS Z (za Z Z)<|zN<|zT<|zQ<|zR<|yS Z (zm Z Z)<|zN<|zT<|LW.condF Z<|zk<|zT<|zR<|yS Z (zm Z Z)<|yS Z (zD Z Z Z aV Z Z)<|yS Z (zm Z Z)<|yS Z (ab.setNew (f := cw) (g := Dy) (m := x.2) (a := nm y) (v := ((x.1 : Nat) : Int)) dZ hq (.inl Z) Z Z Z Z Z jG Z)<|zN<|ai<|zT ?_;refine zR (yS Z (ab.isEq (y := .p (.int .i64 ((x.1 + 1 : Nat) : Int))) (ax Z Z Z Z) (by rw [d8 (by omega) (by omega)]; rfl)) (yS Z (zm Z Z) (zN (zT ?_))));refine ⟨(x.1 + 1, x.2 ++ [(nm y, ((x.1 : Nat) : Int))]), ?_, ?_, zW 2 ⟨rfl, rfl, rfl, rfl, rfl, rfl, trivial⟩ Z Z Z (zL Z (zL (ae (fun _ => rfl) _) Z))⟩
     ·simp only; omega
     ·refine ⟨hlt, ?_, fun k v h => ?_⟩
      ·rw [← hx.2.1, eD hy]; simp only [hp, hq]; rw [if_neg (of_decide_eq_false g2)]
      ·rw [eK] at h;rcases hk : aj x.2 k with _ | u
       ·rw [hk] at h; simp only [Option.none_or] at h; split at h <;> cases h; omega
       ·rw [hk] at h; cases h; exact hx.2.2 k _ hk
    ·
     refine yS Z ((ab.getHit dZ hq Z Z Z Z jG Z))<|yS Z (zm Z Z)<|yS Z (fE Z Z Z)<|yS Z (fE Z Z Z)<|yS Z (za Z Z)<|yS Z (za Z Z)<|zN<|zT<|zQ<|zR<|yS Z (zm Z Z)<|zN<|zT<|LW.condT Z<|zQ<|zR<|yS Z (za Z Z)<|yS Z (za Z Z)<|zN<|zT<|zr<|af<|aq<|af ?_;refine af<|aq<|af ?_;refine aS (env' := [(2, .nilmap), (3, (bQ false))]) (H' := []) (zW 0 ⟨rfl, rfl, trivial⟩ Z Z Z Z) (.two (.tmp Z) (.tmp Z))<|.inr ⟨?_, rfl, rfl⟩;rw [← hx.2.1, eD hy]
     first | (simp only [hp]; done) | (simp only [hp]; rw [if_pos (of_decide_eq_true g2)]; done) | (simp only [hp, hq]; split <;> rfl)
 ·
  refine zq<|ao<|ao<|zy<|zT<|zQ ?_
  have hnlt : ¬ x.1 < l.length := by simpa using g1
  have hend : x.1 = l.length := by omega
  refine zR<|yS Z (zm Z Z)<|yS Z (za Z Z)<|yS Z (za Z Z)<|zN<|zT<|zr ?_;refine aS (env' := [(2, .map 1), (3, (bQ true))]) (H' := [.box [(kB l)], .map (ah cw Dy x.2)]) (zW 2 ⟨rfl, rfl, trivial⟩ Z Z Z (zL Z (zL (ae (fun _ => rfl) _) Z))) (.two (.tmp Z) (.tmp Z))<|.inl ⟨x.2, ?_, rfl, rfl⟩;rw [← hx.2.1, hend, List.drop_length]; rfl
structure xe (l : List Bk) (m : List (ID × Int)) (n : Nat) : Prop where
 zero : aj m (0, 0) = some (-1)
 known : ∀ k i, aj m k = some i → (i = -1 ∧ k = (0, 0)) ∨ ∃ b p, 0 ≤ i ∧ i < n ∧ l[i.toNat]? = some b ∧ nm b = k ∧ aj m b.Parent = some p ∧ p < i ∧ -1 ≤ p ∧ bX l p < b.Slot
 names : ∀ i b, i < n → l[i]? = some b → aj m (nm b) = some (i : Int)
theorem xe.step {l : List Bk} {m : List (ID × Int)} {n : Nat} {y : Bk} {p : Int} (h : xe l m n) (hy : l[n]? = some y) (hp : aj m y.Parent = some p) (hs : ¬ y.Slot ≤ bX l p) (hq : aj m (nm y) = none) :
  xe l (m ++ [(nm y, (n : Int))]) (n + 1) := by
 have old : ∀ k i, aj m k = some i → aj (m ++ [(nm y, (n : Int))]) k = some i := fun k i hk => by rw [eK, hk]; rfl
 refine ⟨old _ _ h.zero, fun k i hk => ?_, fun i b hi hb => ?_⟩
 ·rw [eK] at hk;rcases hm : aj m k with _ | j
  ·rw [hm] at hk;simp only [Option.none_or] at hk;split at hk
   ·rename_i e;cases hk;right;refine ⟨y, p, by omega, by omega, by simpa using hy, e, old _ _ hp, ?_, ?_, by omega⟩
    ·rcases h.known _ _ hp with ⟨h1, -⟩ | ⟨b, q, h1, h2, -⟩ <;> omega
    ·rcases h.known _ _ hp with ⟨h1, -⟩ | ⟨b, q, h1, h2, -⟩ <;> omega
   ·cases hk
  ·rw [hm] at hk;cases hk;rcases h.known _ _ hm with h1 | ⟨b, q, h1, h2, h3, h4, h5, h6, h7, h8⟩
   ·exact .inl h1
   ·exact .inr ⟨b, q, h1, by omega, h3, h4, old _ _ h5, h6, h7, h8⟩
 ·rcases Nat.lt_succ_iff_lt_or_eq.1 hi with hi | hi
  ·exact old _ _<|h.names i b hi hb
  ·subst hi;rw [hy] at hb; cases hb;rw [eK, hq]; simp
theorem mi {l : List Bk} : ∀ (r : List Bk) (i : Nat) (m m' : List (ID × Int)), r = l.drop i → i ≤ l.length → xe l m i → d7 l r i m = some m' → xe l m' l.length
 | [], i, m, m', hr, hi, h, hg => by
  cases hg
  have : l.length ≤ i := by
   have := congrArg List.length hr;simp at this; omega
  rw [show l.length = i by omega]; exact h
 | y :: r, i, m, m', hr, hi, h, hg => by
  have hil : i < l.length := by
   have := congrArg List.length hr;simp at this; omega
  have hd := List.drop_eq_getElem_cons hil;rw [hd, List.cons.injEq] at hr;obtain ⟨rfl, rfl⟩ := hr;unfold d7 at hg;split at hg
  ·cases hg
  ·rename_i p hp;split at hg
   ·cases hg
   ·rename_i hs;split at hg
    ·cases hg
    ·rename_i hq;exact mi _ (i + 1) _ m' Z (by omega) (h.step (List.getElem?_eq_getElem hil) hp hs hq) hg
theorem tV {l : List Bk} : ∀ (k : ID) (i : Int), aj [(((0, 0) : ID), (-1 : Int))] k = some i → (i = -1 ∧ k = (0, 0)) ∨ ∃ b p, 0 ≤ i ∧ i < (0 : Nat) ∧ l[i.toNat]? = some b ∧ nm b = k ∧ aj [(((0, 0) : ID), (-1 : Int))] b.Parent = some p ∧ p < i ∧ -1 ≤ p ∧ bX l p < b.Slot := by
 intro k i hk;unfold aj aj at hk;split at hk
 ·rename_i e; cases hk; exact .inl ⟨rfl, e.symm⟩
 ·cases hk
theorem bL {l : List Bk} {m : List (ID × Int)} (h : places l = some m) : xe l m l.length :=
 mi l 0 _ m rfl (Nat.zero_le _) ⟨rfl, tV, fun i b hi => by omega⟩ h
def en (l : List Bk) : Nat → ID → Int → List ID
 | 0, id, _ => [id]
 | n + 1, id, i => if i = -1 then [id] else match l[i.toNat]? with
  | none => [id]
  | some b => match places l with
   | none => [id]
   | some m => match aj m b.Parent with
    | none => [id]
    | some p => id :: en l n b.Parent p
def a7 (l : List Bk) (id : ID) : List ID := match places l with
 | none => []
 | some m => match aj m id with
  | none => []
  | some i => en l (i + 1).toNat id i
theorem sW {l : List Bk} {m : List (ID × Int)} (hpl : places l = some m) : ∀ (n : Nat) (k : Nat) (id : ID) (i : Int), i + 1 ≤ n → n ≤ k → aj m id = some i → en l k id i = en l n id i := by
 intro n
 induction n with
 | zero =>
  intro k id i hi hk hf
  have : i = -1 := by
   rcases (bL hpl).known _ _ hf with ⟨h, -⟩ | ⟨_, _, h, -⟩ <;> omega
  cases k with
  | zero => rfl
  | succ k => simp [en, this]
 | succ n ih =>
  intro k id i hi hk hf;obtain ⟨k, rfl⟩ : ∃ j, k = j + 1 := ⟨k - 1, by omega⟩;rcases (bL hpl).known _ _ hf with ⟨h, -⟩ | ⟨b, p, h0, h1, h2, h3, h4, h5, h6, h7⟩
  ·simp [en, h]
  ·simp only [en, if_neg (show i ≠ -1 by omega), h2, hpl, h4];rw [ih k b.Parent p (by omega) (by omega) h4]
theorem nu {l : List Bk} {m : List (ID × Int)} {id : ID} {i p : Int} {b : Bk} (hpl : places l = some m) (hne : i ≠ -1) (h0 : 0 ≤ i) (hb : l[i.toNat]? = some b) (hp : aj m b.Parent = some p) (hpi : p < i) (hp1 : -1 ≤ p) :
  en l (i + 1).toNat id i = id :: en l (p + 1).toNat b.Parent p := by
 obtain ⟨n, hn⟩ : ∃ n, (i + 1).toNat = n + 1 := ⟨i.toNat, by omega⟩;rw [hn];simp only [en, if_neg hne, hb, hpl, hp];rw [sW hpl (p + 1).toNat n b.Parent p (by omega) (by omega) hp]
theorem tM {α : Type} {f : α → PV} {l : List α} {i : Int} {a : α} (h : l[i.toNat]? = some a) : (l.map f)[i.toNat]? = some (f a) := by
 simp [h]
theorem Conv.zs' {H : List aa} {m : Nat} {xs : List PV} (h : xs = []) : Conv true H .zs (.slice m xs) := by subst h; exact Conv.zs
theorem Conv.vecAll' {H : List aa} {m id n len : Nat} {xs ys : List PV} (hH : H[id]? = some (.vec m xs)) (hn : n = xs.length) (hl : len = xs.length) (h : ys = xs) : Conv true H (.vec m id n 0 len) (.slice m ys) := by
 subst h; exact Conv.vecAll hH hn hl
open Go.Proofs
theorem Gg {l : List Bk} {H : List aa} (h : places l = none) : LC Tryz.prog 75 [(kB l)] H (Is (.tup [.nilmap, (bQ false)]) H) := by
 have h0 : LC Tryz.prog 75 ([PV.slice 5 (l.map ay)].map .p) [] (Is (.tup [.nilmap, (bQ false)]) []) := c94.mono fun x H hx => by
  rcases hx with ⟨m, hm, -⟩ | ⟨-, h1, h2⟩
  ·rw [h] at hm; cases hm
  ·exact ⟨h1, h2⟩
 have := LC.frame (H := H) (d := H.length) h0 (.cons Conv.p .nil) (by rw [CR]);simpa [LV.shift, LV.shifts] using this
theorem Gh {l : List Bk} {m : List (ID × Int)} {H H1 H2 : List aa} {d : Nat} (h : places l = some m) (hd : cv H = some d) (h1 : gE H (.box [(kB l)]) = some H1) (h2 : gE H1 (.map (ah cw Dy m)) = some H2) :
  LC Tryz.prog 75 [(kB l)] H (Is (.tup [.map (d + 1), (bQ true)]) H2) := by
 have h0 : LC Tryz.prog 75 ([PV.slice 5 (l.map ay)].map .p) [] (Is (.tup [.map 1, (bQ true)]) [.box [(kB l)], .map (ah cw Dy m)]) := c94.mono fun x H hx => by
  rcases hx with ⟨m', hm, h1, h2⟩ | ⟨h1, -⟩
  ·rw [h] at hm; cases hm; exact ⟨h1, h2⟩
  ·rw [h] at h1; cases h1
 have := LC.frame (H := H) (d := d) h0 (.cons Conv.p .nil) hd;have e1 := cI h1;have e2 := cI h2;subst e1; subst e2;simpa [LV.shift, LV.shifts, aa.shift, ah, List.append_assoc, Function.comp_def] using this
theorem Iz {l : List Bk} {id : ID} (hpl : places l = none) : aw Tryz.prog 60 [.slice 5 (l.map ay), cw id] [.slice 2 ((a7 l id).map cw)] := by
 refine zh Tryz.func60 Z Z Z Z ?_;refine zQ<|zR<|yS Z (bV Z Z Z Z Z)<|yS Z (za Z Z)<|zN<|zT<|LW.scope<|zQ<|zR<|yS Z (zm Z Z)<|yS Z ((zC Z Z Z (by kernel_rfl) (Gg hpl)))<|yS Z (zm Z Z)<|yS Z (fE Z Z Z)<|yS Z (fE Z Z Z)<|yS Z (za Z Z)<|yS Z (za Z Z)<|zN<|zT<|zQ<|zQ<|zR<|yS Z (zm Z Z)<|yS Z (zD Z Z Z aV Z Z)<|yS Z ((ab.getNil dZ Z Z Z jG C5 Z)) ?_;exact yS Z (zm Z Z)<|yS Z (fE Z Z Z)<|yS Z (fE Z Z Z)<|yS Z (za Z Z)<|yS Z (za Z Z)<|zN<|zT<|zQ<|zR<|yS Z (zm Z Z)<|yS Z (ab.not Z Z)<|zN<|zT<|LW.condT Z<|zQ<|zR<|yS Z (za Z Z)<|zN<|zT<|zr<|af<|A5<|zf (.one (.tmp Z))<|Conv.zs' (by simp [a7, hpl])
theorem IA {l : List Bk} {id : ID} {m : List (ID × Int)} (hl : l.length ≤ 1000) (hpl : places l = some m) : aw Tryz.prog 60 [.slice 5 (l.map ay), cw id] [.slice 2 ((a7 l id).map cw)] := by
 refine zh Tryz.func60 Z Z Z Z ?_;refine zQ<|zR<|yS Z (bV Z Z Z Z Z)<|yS Z (za Z Z)<|zN<|zT ?_;refine LW.jumpsOf (l := 0) (E := fun x : List ID × ID × Int => [(0, (kB l)), (3, .ptr 0 0), (5, .map 2), (9, .vec 2 3 (x.1.map cw).length 0 (x.1.map cw).length)]) (O := fun x => [.box [(uQ x.2.1.1), (uQ x.2.1.2)], .box [(kB l)], .map (ah cw Dy m), .vec 2 (x.1.map cw)]) (G := fun x => aj m x.2.1 = some x.2.2 ∧ x.1.length + (x.2.2 + 1).toNat ≤ 1001 ∧ a7 l id = x.1 ++ en l (x.2.2 + 1).toNat x.2.1 x.2.2) (meas := fun x => (x.2.2 + 1).toNat) Z ?_<|fun x hx => ?_
 ·
  refine zQ<|zR<|yS Z (zm Z Z)<|yS Z ((zC Z Z Z (by kernel_rfl) (Gh hpl Z Z Z)))<|yS Z (zm Z Z)<|yS Z (fE Z Z Z)<|yS Z (fE Z Z Z)<|yS Z (za Z Z)<|yS Z (za Z Z)<|zN<|zT<|zQ<|zQ<|zR<|yS Z (zm Z Z)<|yS Z (zD Z Z Z aV Z Z) ?_;rcases hf : aj m id with _ | i
  ·
   refine yS Z ((ab.getMiss dZ hf Z Z Z Z jG C5 Z))<|yS Z (zm Z Z)<|yS Z (fE Z Z Z)<|yS Z (fE Z Z Z)<|yS Z (za Z Z)<|yS Z (za Z Z)<|zN<|zT<|zQ<|zR<|yS Z (zm Z Z)<|yS Z (ab.not Z Z)<|zN<|zT<|LW.condT Z<|zQ<|zR<|yS Z (za Z Z)<|zN<|zT<|zr<|af<|tD<|zf (.one (.tmp Z)) ?_;refine Conv.zs' ?_;simp [a7, hpl, hf]
  ·
   refine yS Z ((ab.getHit dZ hf Z Z Z Z jG Z))<|yS Z (zm Z Z)<|yS Z (fE Z Z Z)<|yS Z (fE Z Z Z)<|yS Z (za Z Z)<|yS Z (za Z Z)<|zN<|zT<|zQ<|zR<|yS Z (zm Z Z)<|yS Z (ab.not Z Z)<|zN<|zT<|LW.condF Z<|zk<|zT<|zQ<|zR<|yS Z (za Z Z)<|zN<|zT<|zQ<|LW.label ?_;refine zT<|zQ<|zR<|yS Z (zm Z Z)<|yS Z (zD Z Z Z aV Z Z)<|yS Z (mA Z pK Z Z Z Z Z)<|yS Z (ab.appendZ Z Z Z Z kE.p pK (by simp only [List.length_singleton]; omega) Z)<|yS Z (za Z Z)<|zN<|zT<|zQ<|zQ<|zR<|yS Z (zm Z Z)<|yS Z (zD Z Z Z aV Z Z)<|yS Z ((ab.getHit dZ hf Z Z Z Z jG Z))<|yS Z (za Z Z)<|zN<|zT<|zQ<|zR<|yS Z (zm Z Z)<|yS Z (ax Z Z Z Z)<|zN ?_;refine zT ?_;refine zX Z (fun g1 => ?_)<|fun g1 => ?_
   ·
    refine zQ ?_
    have hne : i ≠ -1 := by simpa using g1
    obtain ⟨h1, -⟩ | ⟨b, p, h0, hlt, hb, hnb, hp, hpi, hp1, hs⟩ := (bL hpl).known _ _ hf
    ·exact absurd h1 hne
    have hc : a7 l id = id :: en l (p + 1).toNat b.Parent p := by
     simp only [a7, hpl, hf];exact nu hpl hne h0 hb hp hpi hp1
    refine zR<|yS Z (zm Z Z)<|yS Z (zm Z Z)<|yS Z (ab.indexAddr Z Z Z dJ (by omega) (tM hb) Z)<|yS Z (ab.fieldAddrC Z Z lp Z)<|yS Z (cT Z Z Z aV Z Z)<|yS Z (zs Z Z Z Z aV Z Z Z Z)<|zN<|zT<|LW.goto<|DH<|AP ?_;refine ⟨([id], b.Parent, p), ?_, zW 4 ⟨rfl, rfl, rfl, rfl, trivial⟩ Z Z Z (zL Z (zL Z (zL (ae (fun _ => rfl) _) Z)))⟩
    ·exact ⟨hp, by simp only [List.length_singleton]; omega, hc⟩
   ·
    refine zk<|zT<|zQ ?_
    have hend : i = -1 := by simpa using g1
    refine zR<|yS Z (zm Z Z)<|yS Z (za Z Z)<|zN<|zT<|zr<|tD<|zf (.one (.tmp Z))<|Conv.vecAll' Z Z Z ?_;rw [show a7 l id = [id] by simp only [a7, hpl, hf, hend]; rfl]; rfl
 ·
  refine zQ<|zk<|zT<|zQ<|zR<|yS Z (zm Z Z)<|yS Z (zD Z Z Z aV Z Z)<|yS Z (mA Z pK Z Z Z Z Z)<|yS Z (ab.appendM (f := cw) (xs := x.1) (ys := [x.2.1]) Z Z Z Z Z pK (by simp only [List.length_singleton]; omega) Z)<|yS Z (za Z Z)<|zN<|zT<|zQ<|zQ<|zR<|yS Z (zm Z Z)<|yS Z (zD Z Z Z aV Z Z)<|yS Z ((ab.getHit dZ hx.1 Z Z Z Z jG Z))<|yS Z (za Z Z)<|zN<|zT<|zQ<|zR<|yS Z (zm Z Z) ?_;refine yS Z (ax Z Z Z Z)<|zN<|zT ?_;refine zX Z (fun g2 => ?_)<|fun g2 => ?_
  ·
   refine zQ ?_
   have hne : x.2.2 ≠ -1 := by simpa using g2
   obtain ⟨h1, -⟩ | ⟨b, p, h0, hlt, hb, hnb, hp, hpi, hp1, hs⟩ := (bL hpl).known _ _ hx.1
   ·exact absurd h1 hne
   have hc := nu (id := x.2.1) hpl hne h0 hb hp hpi hp1;refine zR<|yS Z (zm Z Z)<|yS Z (zm Z Z)<|yS Z (ab.indexAddr Z Z Z dJ (by omega) (tM hb) Z)<|yS Z (ab.fieldAddrC Z Z lp Z)<|yS Z (cT Z Z Z aV Z Z)<|yS Z (zs Z Z Z Z aV Z Z Z Z)<|zN<|zT<|LW.goto<|DH<|AP ?_;refine ⟨(x.1 ++ [x.2.1], b.Parent, p), ?_, ?_, zW 4 ⟨rfl, rfl, rfl, rfl, trivial⟩ Z Z Z (zL Z (zL Z (zL (ae (fun _ => rfl) _) Z)))⟩
   ·simp only; omega
   ·refine ⟨hp, ?_, ?_⟩
    ·have := hx.2.1; simp only [List.length_append, List.length_singleton]; omega
    ·rw [hx.2.2, hc, List.append_assoc]; rfl
  ·
   refine zk<|zT<|zQ ?_
   have hend : x.2.2 = -1 := by simpa using g2
   refine zR<|yS Z (zm Z Z)<|yS Z (za Z Z)<|zN<|zT<|zr<|tD<|zf (.one (.tmp Z))<|Conv.vecAll' Z Z Z ?_;rw [hx.2.2, hend]; rfl
theorem Iy {l : List Bk} {id : ID} (hl : l.length ≤ 1000) : aw Tryz.prog 60 [.slice 5 (l.map ay), cw id] [.slice 2 ((a7 l id).map cw)] := by
 rcases hpl : places l with _ | m
 ·exact Iz hpl
 ·exact IA hl hpl
open Go.Proofs
def eo (c : Cu) (l : List Bk) (head found : ID) (is : Bool) (slot : Int) : Cu :=
 let c' : Cu := if aT (a7 l head) c.ID < 0 then ⟨(0, 0), slot, IntKind.i64.wrap (c.Revoked + 1)⟩ else c
 let at_ : Int := if aT (a7 l head) c.ID < 0 then IntKind.i64.wrap ((a7 l head).length - 1) else aT (a7 l head) c.ID
 if is = true ∧ aT (a7 l head) found ≥ 0 ∧ aT (a7 l head) found < at_ then ⟨found, slot, c'.Revoked⟩ else c'
theorem I7 {c : Cu} {l : List Bk} {head found : ID} {is : Bool} {slot : Int} (hl : l.length ≤ 1000) : aw Tryz.prog 140 [qb c, .slice 5 (l.map ay), cw head, cw found, .bool is, .int .i64 slot] [qb (eo c l head found is slot)] := by
 refine zh Tryz.func140 Z Z Z Z ?_;refine LW.seq<|LW.region<|am.st Z Z Z (ab.box Z Z Z Z Z)<|am.st Z Z Z (ab.box Z Z Z Z Z)<|am.st Z Z Z (ab.box Z Z Z Z Z)<|am.st Z Z Z (ab.alloc Z IQ Z Z)<|am.nil<|bp<|LW.seq<|LW.region<|am.st Z Z Z (ab.move Z Z)<|am.st Z Z Z (ab.load Z Z Z aV Z Z)<|am.st Z Z Z (ab.call Z Z Z (by kernel_rfl) (LC.pure (Iy hl) (.cons Conv.p (.cons Conv.p .nil))))<|am.st Z Z Z (ab.assign Z Z)<|am.nil<|bp<|LW.seq<|LW.region<|am.st Z Z Z (ab.move Z Z)<|am.st Z Z Z (ab.fieldAddr Z Z rx)<|am.st Z Z Z (ab.load Z Z Z aV Z Z)<|am.st Z Z Z (ab.call Z Z Z (by kernel_rfl) (LC.pure HQ (.cons Conv.p (.cons Conv.p .nil))))<|am.st Z Z Z (ab.assign Z Z)<|am.nil ?_;refine bp<|LW.seq<|LW.block<|LW.seq<|LW.block<|LW.seq<|LW.block<|LW.seq<|LW.seq<|LW.region<|am.st Z Z Z (ab.move Z Z)<|am.st Z Z Z (ab.bin Z Z Z Z)<|am.st Z Z Z (ab.assign Z Z)<|am.nil<|bp ?_;refine LW.cond Z (fun g1 => ?_)<|fun g1 => ?_
 ·
  refine LW.exit<|ao<|lu<|bp<|LW.seq<|LW.region<|am.st Z Z Z (ab.move Z Z)<|am.st Z Z Z (ab.fieldAddr Z Z EN)<|am.st Z Z Z (ab.load Z Z Z aX Z Z)<|am.st Z Z Z (ab.bin Z Z Z Z)<|am.st Z Z Z (ab.build Z HZ Z Z Z)<|am.st Z Z Z (ab.store Z Z Z Z gC Z Z Z Z)<|am.nil<|bp<|LW.region<|am.st Z Z Z (ab.move Z Z)<|am.st Z Z Z (ab.len Z Z (by kernel_rfl))<|am.st Z Z Z (ab.bin Z Z Z Z)<|am.st Z Z Z (ab.assign Z Z)<|am.nil<|ai<|bp<|LW.seq<|LW.seq ?_;refine LW.region<|am.st Z Z Z (ab.move Z Z)<|am.st Z Z Z (ab.load Z Z Z aV Z Z)<|am.st Z Z Z (ab.call Z Z Z (by kernel_rfl) (LC.pure HQ (.cons Conv.p (.cons Conv.p .nil))))<|am.st Z Z Z (ab.assign Z Z)<|am.nil<|bp<|LW.seq<|LW.region<|am.st Z Z Z (ab.move Z Z)<|am.st Z Z Z (ab.move Z Z) ?_;refine zc 38 Z (fun g2 => ?_)<|fun g2 => ?_
  ·
   refine am.gd Z Z Z (gd g2 Z) Z (ab.move Z Z)<|am.gd Z Z Z (gd g2 Z) Z (ab.bin Z Z Z Z)<|am.st Z Z Z (ab.pickT Z (aN g2 Z) Z)<|am.st Z Z Z (ab.move Z Z) ?_;refine zc 42 Z (fun g3 => ?_)<|fun g3 => ?_
   ·
    refine am.gd Z Z Z (gd g3 Z) Z (ab.move Z Z)<|am.gd Z Z Z (gd g3 Z) Z (ab.move Z Z)<|am.gd Z Z Z (gd g3 Z) Z (ab.bin Z Z Z Z)<|am.st Z Z Z (ab.pickT Z (aN g3 Z) Z)<|am.nil<|bp ?_;refine LW.cond Z (fun g4 => ?_)<|fun g4 => ?_
    ·
     refine LW.region<|am.st Z Z Z (ab.load Z Z Z aV Z Z)<|am.st Z Z Z (zm Z Z)<|am.st Z Z Z (ab.fieldAddr Z Z rx)<|am.st Z Z Z (zs Z Z Z Z aV Z Z Z Z)<|am.st Z Z Z (ab.fieldAddr Z Z AF)<|am.st Z Z Z (zs Z Z Z Z aX Z Z Z Z)<|am.nil<|bp<|zq<|zy<|bp<|LW.seq<|LW.region<|am.st Z Z Z (ab.load Z Z Z gC Z Z)<|am.st Z Z Z (zs Z Z Z Z gC Z Z Z Z)<|am.nil<|bp<|zr<|zf (.one (.cellAgg Z Z (by kernel_rfl) Z))<|Conv.pe ?_;simp only [decide_eq_true_eq, List.length_map] at g1 g2 g3 g4;simp only [eo, qb]
     (repeat' split) <;> first | rfl | (exfalso; simp_all; done) | (exfalso; simp_all; omega)
    ·
     refine zk<|bp<|zq<|zy<|bp<|LW.seq<|LW.region<|am.st Z Z Z (ab.load Z Z Z gC Z Z)<|am.st Z Z Z (zs Z Z Z Z gC Z Z Z Z)<|am.nil<|bp<|zr<|zf (.one (.cellAgg Z Z (by kernel_rfl) Z))<|Conv.pe ?_;simp only [decide_eq_true_eq, decide_eq_false_iff_not, List.length_map] at g1 g2 g3 g4;simp only [eo, qb]
     (repeat' split) <;> first | rfl | (exfalso; simp_all; done) | (exfalso; simp_all; omega)
   ·
    refine am.sk Z Z Z (gd g3 Z) Z Z<|am.sk Z Z Z (gd g3 Z) Z Z<|am.sk Z Z Z (gd g3 Z) Z Z<|am.st Z Z Z (a8 Z (aN g3 Z) Z)<|am.nil<|bp<|LW.condF Z<|zk<|bp<|zq<|zy<|bp<|LW.seq<|LW.region<|am.st Z Z Z (ab.load Z Z Z gC Z Z)<|am.st Z Z Z (zs Z Z Z Z gC Z Z Z Z)<|am.nil<|bp<|zr<|zf (.one (.cellAgg Z Z (by kernel_rfl) Z))<|Conv.pe ?_;simp only [decide_eq_true_eq, decide_eq_false_iff_not] at g1 g2 g3;simp only [eo, qb]
    (repeat' split) <;> first | rfl | (exfalso; simp_all; done) | (exfalso; simp_all; omega)
  ·
   refine am.sk Z Z Z (gd g2 Z) Z Z<|am.sk Z Z Z (gd g2 Z) Z Z<|am.st Z Z Z (a8 Z (aN g2 Z) Z)<|am.st Z Z Z (zm Z Z)<|am.sk Z Z Z Z Z Z<|am.sk Z Z Z Z Z Z<|am.sk Z Z Z Z Z Z<|am.st Z Z Z (a8 Z Z Z)<|am.nil<|bp<|LW.condF Z<|zk<|bp<|zq<|zy<|bp<|LW.seq<|LW.region<|am.st Z Z Z (ab.load Z Z Z gC Z Z)<|am.st Z Z Z (zs Z Z Z Z gC Z Z Z Z)<|am.nil<|bp<|zr<|zf (.one (.cellAgg Z Z (by kernel_rfl) Z)) ?_;refine Conv.pe ?_;simp only [decide_eq_true_eq] at g1 g2;simp only [eo, qb]
   (repeat' split) <;> first | rfl | (exfalso; simp_all; done) | (exfalso; simp_all; omega)
 ·
  refine LW.skip<|bp<|LW.exit<|nA (by decide)<|ao<|lu<|bp<|LW.seq<|LW.seq<|LW.region<|am.st Z Z Z (ab.move Z Z)<|am.st Z Z Z (ab.load Z Z Z aV Z Z)<|am.st Z Z Z (ab.call Z Z Z (by kernel_rfl) (LC.pure HQ (.cons Conv.p (.cons Conv.p .nil))))<|am.st Z Z Z (ab.assign Z Z)<|am.nil<|bp<|LW.seq<|LW.region<|am.st Z Z Z (ab.move Z Z)<|am.st Z Z Z (ab.move Z Z) ?_;refine zc 38 Z (fun g5 => ?_)<|fun g5 => ?_
  ·
   refine am.gd Z Z Z (gd g5 Z) Z (ab.move Z Z)<|am.gd Z Z Z (gd g5 Z) Z (ab.bin Z Z Z Z)<|am.st Z Z Z (ab.pickT Z (aN g5 Z) Z)<|am.st Z Z Z (ab.move Z Z) ?_;refine zc 42 Z (fun g6 => ?_)<|fun g6 => ?_
   ·
    refine am.gd Z Z Z (gd g6 Z) Z (ab.move Z Z)<|am.gd Z Z Z (gd g6 Z) Z (ab.move Z Z)<|am.gd Z Z Z (gd g6 Z) Z (ab.bin Z Z Z Z)<|am.st Z Z Z (ab.pickT Z (aN g6 Z) Z)<|am.nil<|bp ?_;refine LW.cond Z (fun g7 => ?_)<|fun g7 => ?_
    ·
     refine LW.region<|am.st Z Z Z (ab.load Z Z Z aV Z Z)<|am.st Z Z Z (zm Z Z)<|am.st Z Z Z (ab.fieldAddr Z Z rx)<|am.st Z Z Z (zs Z Z Z Z aV Z Z Z Z)<|am.st Z Z Z (ab.fieldAddr Z Z AF)<|am.st Z Z Z (zs Z Z Z Z aX Z Z Z Z)<|am.nil<|bp<|zq<|zy<|bp<|LW.seq<|LW.region<|am.st Z Z Z (ab.load Z Z Z gC Z Z)<|am.st Z Z Z (zs Z Z Z Z gC Z Z Z Z)<|am.nil<|bp<|zr<|zf (.one (.cellAgg Z Z (by kernel_rfl) Z))<|Conv.pe ?_;simp only [decide_eq_true_eq, decide_eq_false_iff_not] at g1 g5 g6 g7;simp only [eo, qb]
     (repeat' split) <;> first | rfl | (exfalso; simp_all; done) | (exfalso; simp_all; omega)
    ·
     refine zk<|bp<|zq<|zy<|bp<|LW.seq<|LW.region<|am.st Z Z Z (ab.load Z Z Z gC Z Z)<|am.st Z Z Z (zs Z Z Z Z gC Z Z Z Z)<|am.nil<|bp<|zr<|zf (.one (.cellAgg Z Z (by kernel_rfl) Z))<|Conv.pe ?_;simp only [decide_eq_true_eq, decide_eq_false_iff_not] at g1 g5 g6 g7;simp only [eo, qb]
     (repeat' split) <;> first | rfl | (exfalso; simp_all; done) | (exfalso; simp_all; omega)
   ·
    refine am.sk Z Z Z (gd g6 Z) Z Z<|am.sk Z Z Z (gd g6 Z) Z Z<|am.sk Z Z Z (gd g6 Z) Z Z<|am.st Z Z Z (a8 Z (aN g6 Z) Z)<|am.nil<|bp<|LW.condF Z<|zk<|bp<|zq<|zy<|bp<|LW.seq<|LW.region<|am.st Z Z Z (ab.load Z Z Z gC Z Z)<|am.st Z Z Z (zs Z Z Z Z gC Z Z Z Z)<|am.nil<|bp<|zr<|zf (.one (.cellAgg Z Z (by kernel_rfl) Z))<|Conv.pe ?_;simp only [decide_eq_false_iff_not] at g1 g5 g6;simp only [eo, qb]
    (repeat' split) <;> first | rfl | (exfalso; simp_all; done) | (exfalso; simp_all; omega)
  ·
   refine am.sk Z Z Z (gd g5 Z) Z Z<|am.sk Z Z Z (gd g5 Z) Z Z<|am.st Z Z Z (a8 Z (aN g5 Z) Z)<|am.st Z Z Z (zm Z Z)<|am.sk Z Z Z Z Z Z<|am.sk Z Z Z Z Z Z<|am.sk Z Z Z Z Z Z<|am.st Z Z Z (a8 Z Z Z)<|am.nil<|bp<|LW.condF Z<|zk<|bp<|zq<|zy<|bp<|LW.seq<|LW.region<|am.st Z Z Z (ab.load Z Z Z gC Z Z)<|am.st Z Z Z (zs Z Z Z Z gC Z Z Z Z)<|am.nil<|bp<|zr<|zf (.one (.cellAgg Z Z (by kernel_rfl) Z)) ?_;refine Conv.pe ?_;simp only [decide_eq_false_iff_not] at g1 g5;simp only [eo, qb]
   (repeat' split) <;> first | rfl | (exfalso; simp_all; done) | (exfalso; simp_all; omega)
theorem lw {l : List ID} {v : ID} : aT l v = -1 ∧ v ∉ l ∨ ∃ i : Nat, aT l v = i ∧ l[i]? = some v ∧ ∀ j, j < i → l[j]? ≠ some v := by
 unfold aT
 cases h : l.findIdx? (fun x => decide (v = x)) with
 | none =>
  left;rw [List.findIdx?_eq_none_iff] at h;exact ⟨rfl, fun hm => by simpa using h v hm⟩
 | some i =>
  right;rw [List.findIdx?_eq_some_iff_getElem] at h;obtain ⟨hi, h1, h2⟩ := h;refine ⟨i, rfl, by rw [List.getElem?_eq_getElem hi]; simpa using (of_decide_eq_true h1).symm, fun j hj hc => ?_⟩;have := h2 j hj;rw [List.getElem?_eq_getElem (by omega)] at hc;simp at hc this;exact this hc.symm
theorem nB {l : List ID} {v : ID} : 0 ≤ aT l v ↔ v ∈ l := by
 rcases lw (l := l) (v := v) with ⟨h1, h2⟩ | ⟨i, h1, h2, h3⟩
 ·rw [h1]; constructor
  ·intro h; omega
  ·intro h; exact absurd h h2
 ·rw [h1]; exact ⟨fun _ => List.mem_of_getElem? h2, fun _ => by omega⟩
section
variable {l : List Bk} {m : List (ID × Int)}
theorem uP (n : Nat) : ∀ (id : ID) (i : Int), (en l n id i).length ≤ n + 1 := by
 induction n with
 | zero => intro id i; simp [en]
 | succ n ih =>
  intro id i;simp only [en];split
  ·simp
  ·split
   ·simp
   ·split
    ·simp
    ·split
     ·simp
     ·simp; exact ih _ _
theorem xm (id : ID) : (a7 l id).length ≤ l.length + 1 := by
 unfold a7;split
 ·simp
 ·rename_i m hpl;split
  ·simp
  ·rename_i i hf;have := uP (l := l) (i + 1).toNat id i;rcases (bL hpl).known _ _ hf with ⟨h, h'⟩ | ⟨b, p, h0, h1, h2, h3, h4, h5, h6, h7⟩
   ·rw [h] at this ⊢; simp at this ⊢; omega
   ·omega
end
theorem GN {k : IntKind} {p : PV} (h : nT (.int k) p) : ∃ n, p = .int k n ∧ aQ k n := by
 cases h with | int h => exact ⟨_, rfl, h⟩
open Go.Proofs
theorem tS {α : Type} : ∀ {l s : List α} {i : Nat} {y : α}, aO l i y = some s → aH s i = some y
 | x :: r, s, 0, y, h => by cases h; rfl
 | x :: r, s, i + 1, y, h => by
  simp only [aO] at h;split at h
  ·rename_i q hq;cases h;show aH q i = some y;exact tS hq
  ·cases h
 | [], s, 0, y, h => by cases h
 | [], s, i + 1, y, h => by cases h
theorem Hi : (Tryz.f166.name == "runtime.NumGoroutine") = false := by kernel_rfl
theorem Ht : Extern.findNext Tryz.f166 = none := by kernel_rfl
theorem G8 : Extern.find Tryz.f166 = some (Extern.Atomic.loadT (.int .i64)) := by kernel_rfl
theorem Hk : (Tryz.f201.name == "runtime.NumGoroutine") = false := by kernel_rfl
theorem Hu : Extern.findNext Tryz.f201 = none := by kernel_rfl
theorem G9 : Extern.find Tryz.f201 = some (Extern.Atomic.update (Op.intArith .add) .i64 true) := by kernel_rfl
theorem Hl : (Tryz.f212.name == "runtime.NumGoroutine") = false := by kernel_rfl
theorem Hv : Extern.findNext Tryz.f212 = none := by kernel_rfl
theorem Ha : Extern.find Tryz.f212 = some (Extern.Atomic.loadT (.int .u32)) := by kernel_rfl
theorem Hm : (Tryz.f223.name == "runtime.NumGoroutine") = false := by kernel_rfl
theorem Hw : Extern.findNext Tryz.f223 = none := by kernel_rfl
theorem Hd : Extern.find Tryz.f223 = some (Extern.Atomic.storeT) := by kernel_rfl
theorem DO : (Tryz.f226.name == "runtime.NumGoroutine") = false := by kernel_rfl
theorem DQ : Extern.findNext Tryz.f226 = none := by kernel_rfl
theorem DM : Extern.find Tryz.f226 = some (fun _ => do mark .disable; pure Extern.Race.none_) := by kernel_rfl
theorem Hn : (Tryz.f227.name == "runtime.NumGoroutine") = false := by kernel_rfl
theorem Hx : Extern.findNext Tryz.f227 = none := by kernel_rfl
theorem He : Extern.find Tryz.f227 = some (Extern.Atomic.casT (.int .i32)) := by kernel_rfl
theorem DP : (Tryz.f228.name == "runtime.NumGoroutine") = false := by kernel_rfl
theorem DR : Extern.findNext Tryz.f228 = none := by kernel_rfl
theorem DN : Extern.find Tryz.f228 = some (fun _ => do mark .enable; pure Extern.Race.none_) := by kernel_rfl
theorem Ho : (Tryz.f229.name == "runtime.NumGoroutine") = false := by kernel_rfl
theorem Hy : Extern.findNext Tryz.f229 = none := by kernel_rfl
theorem Hf : Extern.find Tryz.f229 = some (Extern.Race.marked .acquire) := by kernel_rfl
theorem Hq : (Tryz.f231.name == "runtime.NumGoroutine") = false := by kernel_rfl
theorem Hz : Extern.findNext Tryz.f231 = none := by kernel_rfl
theorem Hg : Extern.find Tryz.f231 = some (Extern.Race.marked .releaseMerge) := by kernel_rfl
theorem Hs : (Tryz.f232.name == "runtime.NumGoroutine") = false := by kernel_rfl
theorem HA : Extern.findNext Tryz.f232 = none := by kernel_rfl
theorem Hh : Extern.find Tryz.f232 = some (Extern.Atomic.update (Op.intArith .add) .i32 true) := by kernel_rfl
theorem DF : rG Tryz.prog 291 295 = true := by kernel_rfl
theorem El {off : Nat} {n : Int} {cs : List LV} {H : List aa} (hH : aH H 0 = some (.box cs)) (h0 : aH cs (off + 0) = some (.p (.int .u32 n))) : LC Tryz.prog 199 [.ptr 0 off] H (Is (.p (.bool (n != 0))) H) := by
 refine dt Tryz.func199 Z Z Z ?_;refine zQ<|zR<|zM Z<|zN<|zT<|zQ<|zR<|zM Z<|yS Z (zn Z Z)<|yS Z (zA Z Z wo) ?_;refine yS Z (ab.atomLoad (P := Tryz.prog) (f := 212) (fn := Tryz.f212) Z Z Z Tryz.func212 Z Hl Hv Ha hH h0) ?_;exact yS Z (ax Z Z Z Z)<|zM Z<|zN<|zT<|zr<|ap (.one (.tmp Z))<|⟨rfl, rfl⟩
theorem Ix : aw Tryz.prog 224 [.bool true] [.int .u32 1] := by
 refine zh Tryz.func224 Z Z Z Z ?_;exact zQ<|zR<|zM Z<|zN<|zT<|zQ<|zQ<|zR<|zM Z<|zN<|zT<|LW.condT Z<|zQ<|zR<|zM Z<|zN<|zT<|zr<|af<|zf (.one (.tmp Z)) zv
theorem FZ {off : Nat} {cs cs' : List LV} {H H' : List aa} (hH : aH H 0 = some (.box cs)) (hc : aO cs (off + 0) (.p (.int .u32 1)) = some cs') (hH' : aO H 0 (.box cs') = some H') : Ec Tryz.prog 215 [.ptr 0 off, (bQ true)] H H' := by
 refine Ec.start (by kernel_rfl) Tryz.func215 Z Z Z (R := Is (.tup []) H') (fun _ _ h => h.2) ?_;refine LW.drawW (by kernel_rfl) (by kernel_rfl)<|zK Z ?_;refine yF (F := []) (s := none) Z (fun H _ => zn Z Z) Z ?_;refine yF (F := []) (s := none) Z (fun H _ => zA Z Z wo) Z ?_;refine zK Z ?_;refine yF (F := []) (s := none) Z (fun H _ => zC Z Z Z (by kernel_rfl) (zp Ix (.cons zv .nil))) Z ?_;refine yF Z (bE.atomStore (P := Tryz.prog) (f := 223) (fn := Tryz.f223) Z Z Z Tryz.func223 Z Hm Hw Hd Z hH hc) hH' ?_;refine LF.nil ⟨by kernel_rfl, ?_⟩;exact fM .none<|⟨rfl, rfl⟩
theorem Iv {off : Nat} {cs cs' : List LV} {H H' : List aa} (hH : aH H 0 = some (.box cs)) (h0 : aH cs (off + 0) = some (.p (.int .i32 0))) (hc : aO cs (off + 0) (.p (.int .i32 1)) = some cs') (hH' : aO H 0 (.box cs') = some H') (hb : Nat.blt off cs'.length = true) : LC Tryz.prog 221 [.ptr 0 off] H (Is (.tup []) H') := by
 refine dt Tryz.func221 Z Z Z ?_;refine zQ<|zR ?_;refine yS Z (ab.mark0 (P := Tryz.prog) (f := 226) (fn := Tryz.f226) Z Z Z Tryz.func226 Z DO DQ DM ) ?_;refine zN<|zT<|zQ<|zQ<|zR<|zM Z<|yS Z (zn Z Z)<|yS Z (zA Z Z rq) ?_;refine yS Z (ab.atomCas (P := Tryz.prog) (f := 227) (fn := Tryz.f227) Z Z Z Tryz.func227 Z Hn Hx He hH h0 hc hH') ?_;refine zN<|zT<|LW.condT Z<|zQ<|LW.condT Z<|zQ<|zR ?_;refine yS Z (ab.mark0 (P := Tryz.prog) (f := 228) (fn := Tryz.f228) Z Z Z Tryz.func228 Z DP DR DN ) ?_;refine zN<|zT<|zR<|zM Z<|yS Z (ab.convPtr Z Z (tS hH' ) hb DF) ?_;refine yS Z (ab.markP (P := Tryz.prog) (f := 229) (fn := Tryz.f229) Z Z Z Tryz.func229 Z Ho Hy Hf ) ?_;exact zN<|zT<|zr<|af<|ap .none<|⟨rfl, rfl⟩
theorem Iu {off : Nat} {cs cs' : List LV} {H H' : List aa} (hH : aH H 0 = some (.box cs)) (h0 : aH cs (off + 0 + 0) = some (.p (.int .i32 0))) (hc : aO cs (off + 0 + 0) (.p (.int .i32 1)) = some cs') (hH' : aO H 0 (.box cs') = some H') (hb : Nat.blt (off + 0) cs'.length = true) : LC Tryz.prog 213 [.ptr 0 off] H (Is (.tup []) H') := by
 refine dt Tryz.func213 Z Z Z ?_;exact zR<|zM Z<|yS Z (zn Z Z)<|yS Z (zA Z Z wq)<|yS Z (zC Z Z Z (by kernel_rfl) (Iv hH h0 hc hH' hb))<|zN<|fM .none<|⟨rfl, rfl⟩
theorem Iw {off : Nat} {cs cs' : List LV} {H H' : List aa} (hH : aH H 0 = some (.box cs)) (h0 : aH cs (off + 0) = some (.p (.int .i32 1))) (hb : Nat.blt off cs.length = true) (hc : aO cs (off + 0) (.p (.int .i32 0)) = some cs') (hH' : aO H 0 (.box cs') = some H') : LC Tryz.prog 222 [.ptr 0 off] H (Is (.tup []) H') := by
 refine dt Tryz.func222 Z Z Z ?_;refine zQ<|LW.condT Z<|zQ<|zR<|zM Z<|yS Z (zn Z Z)<|yS Z (zA Z Z rq)<|yS Z (ab.load1 Z Z hH IN h0)<|zN<|zT<|zQ<|zR<|zM Z<|yS Z (ab.convPtr Z Z hH hb DF) ?_;refine yS Z (ab.markP (P := Tryz.prog) (f := 231) (fn := Tryz.f231) Z Z Z Tryz.func231 Z Hq Hz Hg ) ?_;refine zN<|zT<|zR ?_;refine yS Z (ab.mark0 (P := Tryz.prog) (f := 226) (fn := Tryz.f226) Z Z Z Tryz.func226 Z DO DQ DM ) ?_;refine zN<|zT<|zQ<|zR<|zM Z<|yS Z (zn Z Z)<|yS Z (zA Z Z rq) ?_;refine yS Z (ab.atomAdd (P := Tryz.prog) (f := 232) (fn := Tryz.f232) Z Z Z Tryz.func232 Z Hs HA Hh hH h0 hc hH') ?_;refine zM Z<|zN<|zT<|zQ<|zQ<|zR<|zM Z<|yS Z (ax Z Z Z Z)<|zN<|zT<|LW.condF Z<|zk<|zT<|zR ?_;refine yS Z (ab.mark0 (P := Tryz.prog) (f := 228) (fn := Tryz.f228) Z Z Z Tryz.func228 Z DP DR DN ) ?_;exact zN<|fM .none<|⟨rfl, rfl⟩
theorem FY {off : Nat} {cs cs' : List LV} {H H' : List aa} (hH : aH H 0 = some (.box cs)) (h0 : aH cs (off + 0 + 0) = some (.p (.int .i32 1))) (hb : Nat.blt (off + 0) cs.length = true) (hc : aO cs (off + 0 + 0) (.p (.int .i32 0)) = some cs') (hH' : aO H 0 (.box cs') = some H') : Ec Tryz.prog 214 [.ptr 0 off] H H' := by
 refine Ec.start (by kernel_rfl) Tryz.func214 Z Z Z (R := Is (.tup []) H') (fun _ _ h => h.2) ?_;exact zR<|zM Z<|yS Z (zn Z Z)<|yS Z (zA Z Z wq)<|yS Z (zC Z Z Z (by kernel_rfl) (Iw hH h0 hb hc hH'))<|zN<|fM .none<|⟨rfl, rfl⟩
theorem FW {off : Nat} {n m : Int} {cs cs' : List LV} {H H' : List aa} (hH : aH H 0 = some (.box cs)) (h0 : aH cs (off + 0) = some (iQ n)) (hc : aO cs (off + 0) (.p (.int .i64 (IntKind.i64.wrap (n + m)))) = some cs') (hH' : aO H 0 (.box cs') = some H') : LC Tryz.prog 195 [.ptr 0 off, (iQ m)] H (Is (.p (.int .i64 (IntKind.i64.wrap (n + m)))) H') := by
 refine dt Tryz.func195 Z Z Z ?_;refine zQ<|zR<|zM Z<|zN<|zT<|zQ<|zR<|zM Z<|yS Z (zn Z Z)<|yS Z (zA Z Z wx)<|zM Z ?_;refine yS Z (ab.atomAdd (P := Tryz.prog) (f := 201) (fn := Tryz.f201) Z Z Z Tryz.func201 Z Hk Hu G9 hH h0 hc hH') ?_;exact zM Z<|zN<|zT<|zr<|ap (.one (.tmp Z))<|⟨rfl, rfl⟩
theorem H7 {off : Nat} {n : Int} {cs : List LV} {H : List aa} (hH : aH H 0 = some (.box cs)) (h0 : aH cs (off + 0) = some (iQ n)) : LC Tryz.prog 143 [.ptr 0 off] H (Is (iQ n) H) := by
 refine dt Tryz.func143 Z Z Z ?_;refine zQ<|zR<|zM Z<|zN<|zT<|zQ<|zR<|zM Z<|yS Z (zn Z Z)<|yS Z (zA Z Z wx) ?_;refine yS Z (ab.atomLoad (P := Tryz.prog) (f := 166) (fn := Tryz.f166) Z Z Z Tryz.func166 Z Hi Ht G8 hH h0) ?_;exact zM Z<|zN<|zT<|zr<|ap (.one (.tmp Z))<|⟨rfl, rfl⟩
open Go.Proofs
def jg (seed n r : Int) : Int := IntKind.i64.wrap ((step seed (IntKind.u64.wrap r)).tmod (IntKind.u64.wrap n))
def j8 (seed r : Int) : Int := step seed (IntKind.u64.wrap (IntKind.i64.wrap (1000 + r)))
theorem Io {cs cs1 cs2 : List LV} {seed n r : Int} {q : Nat} (hs : aH cs (0 + 0) = some (uQ seed)) (hn : aH cs (0 + 1) = some (iQ n)) (hz : IntKind.u64.wrap n ≠ 0)
  (hs1 : aH cs1 (0 + 0) = some (uQ seed)) (hc1 : aO cs (q + 3) (.p (.int .i64 (jg seed n r))) = some cs1) (hc2 : aO cs1 (q + 4) (.p (.int .u64 (j8 seed r))) = some cs2) :
  LC Tryz.prog 194 [.ptr 1 0, .ptr 2 0, .ptr 3 0] [.box cs, .box [.ptr 0 0], .box [(iQ r)], .box [.ptr 0 q]] (Is (.tup []) [.box cs2, .box [.ptr 0 0], .box [(iQ r)], .box [.ptr 0 q]]) := by
 refine dt Tryz.func194 Z Z Z ?_;refine zQ<|LW.drawW (by kernel_rfl) (by kernel_rfl)<|yF Z (zd Z Z Z nH Z Z) Z<|yF Z (zd Z Z Z pY Z Z) Z ?_;refine yF (F := []) (s := none) Z (fun H _ => zn Z Z) Z ?_;refine yF (F := []) (s := none) Z (fun H _ => zA Z Z wy) Z ?_;refine yF Z (bE.load1 Z Z Z mz hs) Z<|yF Z (zd Z Z Z aX Z Z) Z ?_;refine yF (F := []) (s := none) Z (fun H _ => ab.convert (k' := .u64) Z Z (by kernel_rfl)) Z ?_;refine yF (F := []) (s := none) Z (fun H _ => zC Z Z Z (by kernel_rfl) (zp (sS (h := seed) (x := (IntKind.u64.wrap (r)))) (.cons zv (.cons zv .nil)))) Z ?_;refine yF Z (zd Z Z Z pY Z Z) Z ?_;refine yF (F := []) (s := none) Z (fun H _ => zn Z Z) Z ?_;refine yF (F := []) (s := none) Z (fun H _ => zA Z Z rr) Z ?_;refine yF Z (bE.load1 Z Z Z aX hn) Z ?_;refine yF (F := []) (s := none) Z (fun H _ => ab.convert (k' := .u64) Z Z (by kernel_rfl)) Z ?_;refine yF (F := []) (s := none) Z (fun H _ => ab.rem Z Z Z hz) Z ?_;refine yF (F := []) (s := none) Z (fun H _ => ab.convert (k' := .i64) Z Z (by kernel_rfl)) Z ?_;refine yF (F := []) (s := none) Z (fun H _ => zn Z Z) Z ?_;refine yF (F := []) (s := none) Z (fun H _ => zA Z Z wv) Z ?_;refine yF Z (bE.store1 Z Z Z Z aX Z hc1) Z ?_;refine LF.nil ⟨by kernel_rfl, ?_⟩;refine zT<|LW.drawW (by kernel_rfl) (by kernel_rfl)<|yF Z (zd Z Z Z nH Z Z) Z<|yF Z (zd Z Z Z pY Z Z) Z ?_;refine yF (F := []) (s := none) Z (fun H _ => zn Z Z) Z ?_;refine yF (F := []) (s := none) Z (fun H _ => zA Z Z wy) Z ?_;refine yF Z (bE.load1 Z Z Z mz hs1) Z<|yF Z (zd Z Z Z aX Z Z) Z ?_;refine yF (F := []) (s := none) Z (fun H _ => ax Z Z Z Z) Z ?_;refine yF (F := []) (s := none) Z (fun H _ => ab.convert (k' := .u64) Z Z (by kernel_rfl)) Z ?_;refine yF (F := []) (s := none) Z (fun H _ => zC Z Z Z (by kernel_rfl) (zp (sS (h := seed) (x := (IntKind.u64.wrap (IntKind.i64.wrap (1000 + r))))) (.cons zv (.cons zv .nil)))) Z ?_;refine yF (F := []) (s := none) Z (fun H _ => zn Z Z) Z ?_;refine yF (F := []) (s := none) Z (fun H _ => zA Z Z ww) Z ?_;refine yF Z (bE.store1 Z Z Z Z mz Z hc2) Z ?_;refine LF.nil ⟨by kernel_rfl, ?_⟩;exact fM .none<|⟨rfl, rfl⟩
abbrev A9 : LV := .fn 194 [] [.ptr 1 0, .ptr 2 0, .ptr 3 0]
theorem It {cs csA cs1 cs2 csD csE : List LV} {seed n r : Int} {q : Nat} (hm : aH cs (q + 0 + 1 + 0 + 0) = some (.p (.int .i32 0))) (hA : aO cs (q + 0 + 1 + 0 + 0) (.p (.int .i32 1)) = some csA) (hAb : Nat.blt (q + 0 + 1 + 0) csA.length = true)
  (hd : aH csA (q + 0 + 0 + 0) = some (.p (.int .u32 0))) (hs : aH csA (0 + 0) = some (uQ seed)) (hn : aH csA (0 + 1) = some (iQ n)) (hz : IntKind.u64.wrap n ≠ 0)
  (hs1 : aH cs1 (0 + 0) = some (uQ seed)) (hc1 : aO csA (q + 3) (.p (.int .i64 (jg seed n r))) = some cs1) (hc2 : aO cs1 (q + 4) (.p (.int .u64 (j8 seed r))) = some cs2)
  (hD : aO cs2 (q + 0 + 0 + 0) (.p (.int .u32 1)) = some csD) (hDm : aH csD (q + 0 + 1 + 0 + 0) = some (.p (.int .i32 1))) (hDb : Nat.blt (q + 0 + 1 + 0) csD.length = true) (hE : aO csD (q + 0 + 1 + 0 + 0) (.p (.int .i32 0)) = some csE) :
  LC Tryz.prog 200 [.ptr 0 (q + 0), A9] [.box cs, .box [.ptr 0 0], .box [(iQ r)], .box [.ptr 0 q]] (Is (.tup []) [.box csE, .box [.ptr 0 0], .box [(iQ r)], .box [.ptr 0 q]]) := by
 refine LC.ofD Tryz.func200 Z Z Z Z ?_;refine nJ.seq<|nJ.region<|b7.st Z Z Z (zm Z Z)<|b7.st Z Z Z (zn Z Z)<|b7.st Z Z Z (zA Z Z wt)<|b7.st Z Z Z (zC Z Z Z (by kernel_rfl) (Iu (off := q + 0 + 1) Z hm hA Z hAb))<|b7.nil<|nJ.seq<|nJ.region<|b7.st Z Z Z (zm Z Z)<|b7.st Z Z Z (zn Z Z)<|b7.st Z Z Z (zA Z Z wt)<|b7.defer Z Z Z Z Z<|b7.nil<|nJ.seq<|nJ.region<|b7.st Z Z Z (zm Z Z)<|b7.st Z Z Z (zn Z Z)<|b7.st Z Z Z (zA Z Z nV)<|b7.st Z Z Z (zC Z Z Z (by kernel_rfl) (El (off := q + 0 + 0) (n := 0) Z hd))<|b7.st Z Z Z (ab.not Z Z)<|b7.nil<|nJ.condT Z<|nJ.seq ?_;exact nJ.region<|b7.st Z Z Z (zm Z Z)<|b7.st Z Z Z (zn Z Z)<|b7.st Z Z Z (zA Z Z nV)<|b7.defer Z Z Z Z Z<|b7.nil<|nJ.region<|b7.st Z Z Z (zm Z Z)<|b7.st Z Z Z (zC Z Z Z (by kernel_rfl) (Io hs hn hz hs1 hc1 hc2))<|b7.nil<|⟨.inl rfl, .cons (FZ (off := q + 0 + 0) Z hD Z) (.cons (FY (off := q + 0 + 1) Z hDm hDb hE Z) .nil)⟩
theorem FV {cs csA cs1 cs2 csD csE : List LV} {seed n r : Int} {q : Nat} (hd0 : aH cs (q + 0 + 0 + 0) = some (.p (.int .u32 0))) (hm : aH cs (q + 0 + 1 + 0 + 0) = some (.p (.int .i32 0))) (hA : aO cs (q + 0 + 1 + 0 + 0) (.p (.int .i32 1)) = some csA) (hAb : Nat.blt (q + 0 + 1 + 0) csA.length = true)
  (hd : aH csA (q + 0 + 0 + 0) = some (.p (.int .u32 0))) (hs : aH csA (0 + 0) = some (uQ seed)) (hn : aH csA (0 + 1) = some (iQ n)) (hz : IntKind.u64.wrap n ≠ 0)
  (hs1 : aH cs1 (0 + 0) = some (uQ seed)) (hc1 : aO csA (q + 3) (.p (.int .i64 (jg seed n r))) = some cs1) (hc2 : aO cs1 (q + 4) (.p (.int .u64 (j8 seed r))) = some cs2)
  (hD : aO cs2 (q + 0 + 0 + 0) (.p (.int .u32 1)) = some csD) (hDm : aH csD (q + 0 + 1 + 0 + 0) = some (.p (.int .i32 1))) (hDb : Nat.blt (q + 0 + 1 + 0) csD.length = true) (hE : aO csD (q + 0 + 1 + 0 + 0) (.p (.int .i32 0)) = some csE) : LC Tryz.prog 193 [.ptr 0 (q + 0), A9] [.box cs, .box [.ptr 0 0], .box [(iQ r)], .box [.ptr 0 q]] (Is (.tup []) [.box csE, .box [.ptr 0 0], .box [(iQ r)], .box [.ptr 0 q]]) := by
 refine dt Tryz.func193 Z Z Z ?_;exact zQ<|zR<|zM Z<|yS Z (zn Z Z)<|yS Z (zA Z Z nV)<|yS Z (zC Z Z Z (by kernel_rfl) (El (off := q + 0 + 0) (n := 0) Z hd0))<|yS Z (ab.not Z Z)<|zN<|zT<|LW.condT Z<|zR<|zM Z<|zM Z<|yS Z (zC Z Z Z (by kernel_rfl) (It hm hA hAb hd hs hn hz hs1 hc1 hc2 hD hDm hDb hE))<|zN<|fM .none<|⟨rfl, rfl⟩
theorem FU {cs : List LV} {r : Int} {q : Nat} (hd : aH cs (q + 0 + 0 + 0) = some (.p (.int .u32 1))) : LC Tryz.prog 193 [.ptr 0 (q + 0), A9] [.box cs, .box [.ptr 0 0], .box [(iQ r)], .box [.ptr 0 q]] (Is (.tup []) [.box cs, .box [.ptr 0 0], .box [(iQ r)], .box [.ptr 0 q]]) := by
 refine dt Tryz.func193 Z Z Z ?_;exact zQ<|zR<|zM Z<|yS Z (zn Z Z)<|yS Z (zA Z Z nV)<|yS Z (zC Z Z Z (by kernel_rfl) (El (off := q + 0 + 0) (n := 1) Z hd))<|yS Z (ab.not Z Z)<|zN<|zT<|LW.condF Z<|zk<|fM .none<|⟨rfl, rfl⟩
open Go.Proofs
def gY (seed n r : Int) (b : Bool) : List LV :=
 [.p (.int .u32 (cond b 1 0)), .p (.int .i32 0), .p (.int .u32 0), .p (.int .i64 (cond b (jg seed n r) 0)), .p (.int .u64 (cond b (j8 seed r) 0))]
def sY (seed n : Int) (f : Nat → Bool) (k : Int) : List LV :=
 (uQ seed) :: (iQ n) :: (gY seed n 0 (f 0) ++ (gY seed n 1 (f 1) ++ (gY seed n 2 (f 2) ++ (gY seed n 3 (f 3) ++ (gY seed n 4 (f 4) ++ (gY seed n 5 (f 5) ++ (gY seed n 6 (f 6) ++ (gY seed n 7 (f 7) ++ (gY seed n 8 (f 8) ++ (gY seed n 9 (f 9) ++ [(iQ k)]))))))))))
def xU (f : Nat → Bool) (i : Nat) : Nat → Bool := fun j => cond (Nat.beq j i) true (f j)
def EG (f : Nat → Bool) (i : Nat) : Nat → Bool := fun j => cond (Nat.beq j i) false (f j)
theorem wK {f : Nat → Bool} {i : Nat} (h : f i = true) : xU f i = f := by
 funext j;unfold xU
 cases e : Nat.beq j i with
 | false => rfl
 | true => rw [Nat.eq_of_beq_eq_true e, h]; rfl
theorem CG {f : Nat → Bool} {i : Nat} (h : f i = false) : EG f i = f := by
 funext j;unfold EG
 cases e : Nat.beq j i with
 | false => rfl
 | true => rw [Nat.eq_of_beq_eq_true e, h]; rfl
structure Dk where
 f : Nat → Bool
 k : Int
def gO (seed n : Int) (d : Dk) : List LV := sY seed n d.f d.k
def Dk.turned (d : Dk) (r : Int) : Dk := ⟨xU d.f r.toNat, IntKind.i64.wrap (d.k + 1)⟩
def pT (n r : Int) : Bool := decide (n ≠ 0 ∧ IntKind.u64.wrap n ≠ 0 ∧ 0 ≤ r ∧ r < 10)
theorem fb {n r : Int} (h : pT n r = true) : n ≠ 0 ∧ IntKind.u64.wrap n ≠ 0 ∧ 0 ≤ r ∧ r < 10 := of_decide_eq_true h
theorem FQ {cs csA cs1 cs2 csD csE : List LV} {seed n r : Int} (hd0 : aH cs ((2 + r.toNat * 5) + 0 + 0 + 0) = some (.p (.int .u32 0))) (hm : aH cs ((2 + r.toNat * 5) + 0 + 1 + 0 + 0) = some (.p (.int .i32 0))) (hA : aO cs ((2 + r.toNat * 5) + 0 + 1 + 0 + 0) (.p (.int .i32 1)) = some csA) (hAb : Nat.blt ((2 + r.toNat * 5) + 0 + 1 + 0) csA.length = true)
  (hd : aH csA ((2 + r.toNat * 5) + 0 + 0 + 0) = some (.p (.int .u32 0))) (hs : aH csA (0 + 0) = some (uQ seed)) (hn : aH csA (0 + 1) = some (iQ n)) (hz : IntKind.u64.wrap n ≠ 0)
  (hs1 : aH cs1 (0 + 0) = some (uQ seed)) (hc1 : aO csA ((2 + r.toNat * 5) + 3) (.p (.int .i64 (jg seed n r))) = some cs1) (hc2 : aO cs1 ((2 + r.toNat * 5) + 4) (.p (.int .u64 (j8 seed r))) = some cs2)
  (hD : aO cs2 ((2 + r.toNat * 5) + 0 + 0 + 0) (.p (.int .u32 1)) = some csD) (hDm : aH csD ((2 + r.toNat * 5) + 0 + 1 + 0 + 0) = some (.p (.int .i32 1))) (hDb : Nat.blt ((2 + r.toNat * 5) + 0 + 1 + 0) csD.length = true) (hE : aO csD ((2 + r.toNat * 5) + 0 + 1 + 0 + 0) (.p (.int .i32 0)) = some csE) {k : Int} {csF : List LV} (hr0 : 0 ≤ r) (hr1 : r < 10) (hk : aH csE (0 + 52 + 0) = some (iQ k)) (hF : aO csE (0 + 52 + 0) (.p (.int .i64 (IntKind.i64.wrap (k + 1)))) = some csF) (hl : LV.lowsB 1 csF = true) : LC Tryz.prog 182 [.ptr 0 0, (iQ r)] [.box cs] (Is (.ptr 0 (2 + r.toNat * 5)) [.box csF]) := by
 refine dt Tryz.func182 Z Z Z ?_;refine zQ<|zR<|yS Z (bV Z Z Z Z Z)<|yS Z (bV Z Z Z Z Z)<|zM Z<|zN<|zT<|zQ<|LW.ent (bJ.slot Z)<|LW.drawW (by kernel_rfl) (by kernel_rfl)<|yF Z (zd Z Z Z pY Z Z) Z<|yF Z (zd Z Z Z aX Z Z) Z ?_;refine yF (F := []) (s := none) Z (fun H _ => zn Z Z) Z ?_;refine yF (F := []) (s := none) Z (fun H _ => zA Z Z wz) Z ?_;refine yF (F := []) (s := none) Z (fun H _ => ab.indexAddrA Z Z Z C7 hr0 hr1) Z ?_;refine yF Z (bE.alloc Z DU (id := 3) Z) Z<|yF Z (zt Z Z Z Z nH Z Z Z) Z ?_;refine LF.nil ⟨by kernel_rfl, ?_⟩;refine zT<|zQ<|zR<|yS Z (zD Z Z Z nH Z Z)<|yS Z (zn Z Z)<|yS Z (zA Z Z wu)<|yS Z (ab.makeFunc Z Z Z)<|yS Z (zC Z Z Z (by kernel_rfl) (FV (q := (2 + r.toNat * 5)) hd0 hm hA hAb hd hs hn hz hs1 hc1 hc2 hD hDm hDb hE))<|zN<|zT<|zQ<|zR<|yS Z (zD Z Z Z pY Z Z)<|yS Z (zn Z Z)<|yS Z (zA Z Z ru)<|yS Z (zC Z Z Z (by kernel_rfl) (FW (off := 0 + 52) Z hk hF Z))<|zN<|zT<|zQ<|zR<|yS Z (zD Z Z Z nH Z Z)<|zM Z<|zN<|zT ?_;refine LW.ret ?_;refine aS (env' := [(4, .ptr 0 (2 + r.toNat * 5))]) (H' := [.box csF]) (zW 1 ⟨rfl, trivial⟩ Z Z Z (zL hl Z)) (.one (.tmp Z)) ⟨rfl, rfl⟩
theorem FO {cs : List LV} {r : Int} (hd : aH cs ((2 + r.toNat * 5) + 0 + 0 + 0) = some (.p (.int .u32 1))) {k : Int} {csF : List LV} (hr0 : 0 ≤ r) (hr1 : r < 10) (hk : aH cs (0 + 52 + 0) = some (iQ k)) (hF : aO cs (0 + 52 + 0) (.p (.int .i64 (IntKind.i64.wrap (k + 1)))) = some csF) (hl : LV.lowsB 1 csF = true) : LC Tryz.prog 182 [.ptr 0 0, (iQ r)] [.box cs] (Is (.ptr 0 (2 + r.toNat * 5)) [.box csF]) := by
 refine dt Tryz.func182 Z Z Z ?_;refine zQ<|zR<|yS Z (bV Z Z Z Z Z)<|yS Z (bV Z Z Z Z Z)<|zM Z<|zN<|zT<|zQ<|LW.ent (bJ.slot Z)<|LW.drawW (by kernel_rfl) (by kernel_rfl)<|yF Z (zd Z Z Z pY Z Z) Z<|yF Z (zd Z Z Z aX Z Z) Z ?_;refine yF (F := []) (s := none) Z (fun H _ => zn Z Z) Z ?_;refine yF (F := []) (s := none) Z (fun H _ => zA Z Z wz) Z ?_;refine yF (F := []) (s := none) Z (fun H _ => ab.indexAddrA Z Z Z C7 hr0 hr1) Z ?_;refine yF Z (bE.alloc Z DU (id := 3) Z) Z<|yF Z (zt Z Z Z Z nH Z Z Z) Z ?_;refine LF.nil ⟨by kernel_rfl, ?_⟩;refine zT<|zQ<|zR<|yS Z (zD Z Z Z nH Z Z)<|yS Z (zn Z Z)<|yS Z (zA Z Z wu)<|yS Z (ab.makeFunc Z Z Z)<|yS Z (zC Z Z Z (by kernel_rfl) (FU (q := (2 + r.toNat * 5)) hd))<|zN<|zT<|zQ<|zR<|yS Z (zD Z Z Z pY Z Z)<|yS Z (zn Z Z)<|yS Z (zA Z Z ru)<|yS Z (zC Z Z Z (by kernel_rfl) (FW (off := 0 + 52) Z hk hF Z))<|zN<|zT<|zQ<|zR<|yS Z (zD Z Z Z nH Z Z)<|zM Z<|zN<|zT ?_;refine LW.ret ?_;refine aS (env' := [(4, .ptr 0 (2 + r.toNat * 5))]) (H' := [.box csF]) (zW 1 ⟨rfl, trivial⟩ Z Z Z (zL hl Z)) (.one (.tmp Z)) ⟨rfl, rfl⟩
theorem AL {seed n r k : Int} {f : Nat → Bool} (hz : IntKind.u64.wrap n ≠ 0) (hr0 : 0 ≤ r) (hr1 : r < 10) :
  LC Tryz.prog 182 [.ptr 0 0, (iQ r)] [.box (sY seed n (EG f r.toNat) k)] (Is (.ptr 0 (2 + r.toNat * 5)) [.box (sY seed n (xU f r.toNat) (IntKind.i64.wrap (k + 1)))]) := by
 have hc : r = 0 ∨ r = 1 ∨ r = 2 ∨ r = 3 ∨ r = 4 ∨ r = 5 ∨ r = 6 ∨ r = 7 ∨ r = 8 ∨ r = 9 := by omega
 rcases hc with rfl | rfl | rfl | rfl | rfl | rfl | rfl | rfl | rfl | rfl
 all_goals exact FQ (seed := seed) (n := n) rfl rfl rfl rfl rfl rfl rfl hz rfl rfl rfl rfl rfl rfl rfl hr0 hr1 rfl rfl rfl
theorem AK {seed n r k : Int} {f : Nat → Bool} (hr0 : 0 ≤ r) (hr1 : r < 10) :
  LC Tryz.prog 182 [.ptr 0 0, (iQ r)] [.box (sY seed n (xU f r.toNat) k)] (Is (.ptr 0 (2 + r.toNat * 5)) [.box (sY seed n (xU f r.toNat) (IntKind.i64.wrap (k + 1)))]) := by
 have hc : r = 0 ∨ r = 1 ∨ r = 2 ∨ r = 3 ∨ r = 4 ∨ r = 5 ∨ r = 6 ∨ r = 7 ∨ r = 8 ∨ r = 9 := by omega
 rcases hc with rfl | rfl | rfl | rfl | rfl | rfl | rfl | rfl | rfl | rfl
 all_goals exact FO rfl hr0 hr1 rfl rfl rfl
theorem Ij {seed n r : Int} {d : Dk} (h : pT n r = true) : LC Tryz.prog 182 [.ptr 0 0, (iQ r)] [.box (gO seed n d)] (Is (.ptr 0 (2 + r.toNat * 5)) [.box (gO seed n (d.turned r))]) := by
 obtain ⟨-, h1, h2, h3⟩ := fb h
 cases hf : d.f r.toNat with
 | true =>
  have := AK (seed := seed) (n := n) (k := d.k) (f := d.f) h2 h3;rw [wK hf] at this;unfold gO Dk.turned;rw [wK hf];exact this
 | false =>
  have := AL (seed := seed) (n := n) (k := d.k) (f := d.f) h1 h2 h3;rw [CG hf] at this;exact this
theorem uS {seed n r : Int} {d : Dk} (hr0 : 0 ≤ r) (hr1 : r < 10) : aH (gO seed n (d.turned r)) (2 + r.toNat * 5 + 3) = some (.p (.int .i64 (jg seed n r))) := by
 have hc : r = 0 ∨ r = 1 ∨ r = 2 ∨ r = 3 ∨ r = 4 ∨ r = 5 ∨ r = 6 ∨ r = 7 ∨ r = 8 ∨ r = 9 := by omega
 rcases hc with rfl | rfl | rfl | rfl | rfl | rfl | rfl | rfl | rfl | rfl
 all_goals rfl
theorem xq {seed n r : Int} {d : Dk} (hr0 : 0 ≤ r) (hr1 : r < 10) : aH (gO seed n (d.turned r)) (2 + r.toNat * 5 + 4) = some (.p (.int .u64 (j8 seed r))) := by
 have hc : r = 0 ∨ r = 1 ∨ r = 2 ∨ r = 3 ∨ r = 4 ∨ r = 5 ∨ r = 6 ∨ r = 7 ∨ r = 8 ∨ r = 9 := by omega
 rcases hc with rfl | rfl | rfl | rfl | rfl | rfl | rfl | rfl | rfl | rfl
 all_goals rfl
def pz (seed n r i : Int) : Int := (IntKind.i64.wrap (IntKind.i64.wrap (jg seed n r + n) - i)).tmod n
def Bt (seed n r i : Int) : Bool := bits .and .u64 (step (j8 seed r) (IntKind.u64.wrap (if pz seed n r i > i then pz seed n r i else i))) 1 == 1
def pS (seed n r i : Int) : Int := bif Bt seed n r i then pz seed n r i else i
theorem H6 {seed n r i : Int} {d : Dk} (h : pT n r = true) : LC Tryz.prog 165 [.ptr 0 0, (iQ r), (iQ i)] [.box (gO seed n d)] (Is (.p (.int .i64 (pS seed n r i))) [.box (gO seed n (d.turned r))]) := by
 refine dt Tryz.func165 Z Z Z ?_;refine zQ<|zR<|zM Z<|zN<|zT<|zQ<|zR<|zM Z<|zM Z<|yS Z (zC Z Z Z (by kernel_rfl) (Ij h))<|zM Z<|zN<|zT<|zQ<|LW.draw2 (by kernel_rfl) (by kernel_rfl)<|zH Z<|yE Z (zn Z Z)<|yE Z (zA Z Z wv)<|yE Z (ab.load1 Z Z Z aX (uS (fb h).2.2.1 (fb h).2.2.2))<|zH Z<|yE Z (zn Z Z)<|yE Z (zA Z Z rr)<|yE Z (ab.load1 Z Z Z aX Z)<|yE Z (ax Z Z Z Z) ?_;refine zH Z<|yE Z (ax Z Z Z Z)<|zH Z<|yE Z (zn Z Z)<|yE Z (zA Z Z rr)<|yE Z (ab.load1 Z Z Z aX Z)<|yE Z (ab.rem Z Z Z (fb h).1)<|zH Z<|LO.nil<|zT<|zQ<|zQ<|zR<|zM Z<|yS Z (zn Z Z)<|yS Z (zA Z Z ww)<|yS Z (ab.load1 Z Z Z mz (xq (fb h).2.2.1 (fb h).2.2.2))<|zM Z<|zM Z<|yS Z (ab.max Z Z Z)<|yS Z (ab.convert (k' := .u64) Z Z (by kernel_rfl))<|yS Z (zC Z Z Z (by kernel_rfl) (zp (sS (h := (j8 seed r)) (x := (IntKind.u64.wrap (if (pz seed n r i) > i then (pz seed n r i) else i)))) (.cons zv (.cons zv .nil))))<|yS Z (ax Z Z Z Z)<|yS Z (ax Z Z Z Z) ?_;refine zN<|zT ?_;refine zX Z (fun g1 => ?_)<|fun g1 => ?_
 ·
  exact zQ<|zR<|zM Z<|zM Z<|zN<|zT<|zr<|af<|ap (.one (.tmp Z))<|⟨by unfold pS Bt; rw [g1]; rfl, rfl⟩
 ·
  exact zk<|zT<|zQ<|zR<|zM Z<|zM Z<|zN<|zT<|zr<|ap (.one (.tmp Z))<|⟨by unfold pS Bt; rw [g1]; rfl, rfl⟩
open Go.Proofs
def few (l : List Bk) : Bool := decide (l.length ≤ 1000)
theorem uT {l : List Bk} (h : few l = true) : l.length ≤ 1000 := of_decide_eq_true h
def E4 (l : List Bk) : Option Bool :=
 (match places l with
 | none =>
  some false
 | some _ =>
  some true)
theorem IU {l : List Bk} {r_ : Bool} (hr : E4 l = some r_) : aw Tryz.prog 187 [.slice 5 (l.map ay)] [.bool r_] := by
 refine zh Tryz.func187 Z Z Z Z ?_;unfold E4 at hr;refine zQ<|zR<|zM Z<|zN<|zT<|zQ<|zR<|zM Z ?_;rcases h_f1 : places l with _ | m_
 ·
  rw [h_f1] at hr;simp only at hr;refine yS Z (zC Z Z Z (by kernel_rfl) (Gg h_f1))<|zM Z<|yS Z (fE Z Z Z)<|yS Z (fE Z Z Z)<|zM Z<|zM Z<|zN<|zT<|zQ<|zR<|zM Z<|zM Z<|zN<|zT<|zr ?_;obtain rfl := zJ hr;exact zf (.one (.tmp Z)) zv
 ·
  rw [h_f1] at hr;simp only at hr;refine yS Z (zC Z Z Z (by kernel_rfl) (Gh h_f1 Z Z Z))<|zM Z<|yS Z (fE Z Z Z)<|yS Z (fE Z Z Z)<|zM Z<|zM Z<|zN<|zT<|zQ<|zR<|zM Z<|zM Z<|zN<|zT<|zr ?_;obtain rfl := zJ hr;exact zf (.one (.tmp Z)) zv
structure jL where
 t13 : Int
 out : List ID
def mF (l : List Bk) (id : ID) (x1 : jL) : Option (jL ⊕ jL) :=
 bif decide (x1.t13 < (l.length : Int)) then
  (ix l x1.t13).bind fun y1 =>
  bif ((y1.Parent.1 == id.1) && ((y1.Parent.2 == id.2) && true)) then
   bif b9 x1.out.length [nm y1].length 16 then
    some (.inl (jL.mk (IntKind.i64.wrap (x1.t13 + 1)) (x1.out ++ [nm y1])))
   else none
  else
   some (.inl (jL.mk (IntKind.i64.wrap (x1.t13 + 1)) x1.out))
 else
  some (.inr (jL.mk x1.t13 x1.out))
def Fi (l : List Bk) (id : ID) : Option (List ID) :=
 (E4 l).bind fun v1 =>
 bif !v1 then
  some []
 else
  (iter (mF l id) bH (jL.mk 0 ([] : List ID))).bind fun v2 =>
  some v2.out
theorem I8 {l : List Bk} {id : ID} {r_ : (List ID)} (hr : Fi l id = some r_) : aw Tryz.prog 171 [.slice 5 (l.map ay), cw id] [.slice 2 (r_.map cw)] := by
 refine zh Tryz.func171 Z Z Z Z ?_;unfold Fi at hr;refine zQ<|zR<|yS Z (bV Z Z Z Z Z)<|zM Z<|zN<|zT<|zQ<|zQ<|zR<|zM Z<|zb hr fun v1 h_v1 hr => yS Z (zC Z Z Z (by kernel_rfl) (zp (IU h_v1) (.cons zv .nil)))<|yS Z (ab.not Z Z)<|zN<|zT ?_;refine zX Z (fun g1 => ?_)<|fun g1 => ?_
 ·
  refine zi g1 hr fun hr => zQ<|zR<|zM Z<|zN<|zT<|zr<|af ?_;obtain rfl := zJ hr;exact zf (.one (.tmp Z)) Conv.zs
 ·
  refine zo g1 hr fun hr => zk<|zT<|zQ<|zR<|zM Z<|zN<|zT<|zQ<|zQ<|zR<|zM Z<|yS Z (cC Z Z (by kernel_rfl))<|zM Z<|zN<|zT<|LW.ent (bJ.lazy (t := 5) (m := 2) Z Z Z) ?_;obtain ⟨v2, hb_v2, ho_v2⟩ := zB hr;clear hr;refine LW.tail (E := [(4, .zs), (5, .vec 2 1 (v2.out.map cw).length 0 (v2.out.map cw).length)]) (O := [.box [(uQ id.1), (uQ id.2)], .vec 2 (v2.out.map cw)]) ?_<|fun env_v2 H_v2 hw_v2 => ?_
  ·refine LW.block ?_;refine LW.iterB (E := fun x1 : jL => [(3, .ptr 0 0), (4, .zs), (5, .vec 2 1 (x1.out.map cw).length 0 (x1.out.map cw).length), (11, (kB l)), (12, .p (.int .i64 (l.length : Int))), (13, (iQ x1.t13))]) (O := fun x1 => [.box [(uQ id.1), (uQ id.2)], .vec 2 (x1.out.map cw)]) hb_v2 (zW 2 ⟨rfl, rfl, rfl, rfl, rfl, rfl, trivial⟩ Z Z Z Z)<|fun x1 z_x1 hr hb_x1 => ?_;unfold mF at hr;refine zQ<|zR<|yS Z (ax Z Z Z Z)<|zN<|zT<|zQ ?_;refine zX Z (fun g2 => ?_)<|fun g2 => ?_
   ·
    refine zi g2 hr fun hr => zk<|zT<|zQ<|zl<|zQ<|zR<|zb hr fun y1 h_y1 hr => yS Z (zx Z Z Z dJ h_y1 Z)<|yS Z (cT Z Z Z cj Z Z)<|yS Z (ze Z un Z Z)<|yS Z (zs Z Z Z Z cj Z Z Z Z)<|zN<|zT<|zQ<|zR<|yS Z (zA Z Z lp)<|yS Z (zD Z Z Z aV Z Z)<|yS Z (zD Z Z Z aV Z Z)<|yS Z (ab.eqlAgg Z Z Z Z Z tb)<|zN<|zT ?_;refine zX Z (fun g3 => ?_)<|fun g3 => ?_
    ·
     refine zi g3 hr fun hr => zR<|zM Z<|yS Z (zD Z Z Z cj Z Z)<|yS Z (zC Z Z Z (by kernel_rfl) (zp (Fc (b := y1)) (.cons zv .nil)))<|yS Z (mA Z pK Z Z Z Z Z)<|zg hr fun q1 hr => yS Z (ab.appendX cw x1.out [nm y1] rfl Z Z Z kE.p Z pK q1 Z)<|zM Z<|zN<|ai<|zT<|zR<|yS Z (ax Z Z Z Z)<|zM Z<|zN<|zT ?_;obtain rfl := zJ hr;exact ⟨_, rfl, zW 2 ⟨rfl, rfl, rfl, rfl, rfl, rfl, trivial⟩ Z Z Z rfl⟩
    ·
     refine zo g3 hr fun hr => zk<|ai<|zT<|zR<|yS Z (ax Z Z Z Z)<|zM Z<|zN<|zT ?_;obtain rfl := zJ hr;exact ⟨_, rfl, zW 2 ⟨rfl, rfl, rfl, rfl, rfl, rfl, trivial⟩ Z Z Z rfl⟩
   ·
    refine zo g2 hr fun hr => zq<|ao<|ao<|zy<|zT ?_;obtain rfl := zJ hr;have hr := congrArg some (hb_x1 _ rfl);obtain rfl := zJ hr;exact zW 2 ⟨Z, Z, trivial⟩ Z Z Z Z
  ·have hr := ho_v2;clear hb_v2;refine zT<|LW.weak hw_v2<|zQ<|zR<|zM Z<|zM Z<|zN<|zT<|zr ?_;obtain rfl := zJ hr;exact zf (.one (.tmp Z))<|(Conv.vecAll Z Z Z)
end Go.Mg
