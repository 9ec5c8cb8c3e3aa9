/- What the logic needs to know of each type of the program. The program's structs as plain data, and how they lie in memory. The mixing functions. mix.Of. tree.Name, slices.Index, slices.Contains. tree.places. Plain facts of trees: what 'places' tells. tree.Chain. cursor.Move. Plain facts of chains and cursors. Plain laws of cursors. Atomic words, locks. sync.Once as the deck uses it. The rounds of the deck. tree.May, Find, Slot, Kids. Conditions: none. -/
import Derived.Test.YtbjmcafamkdokaaGreatX2
import Derived.Test.YtbjmcafamkdokaaGreatProg
import Derived.Test.YtbjmcafamkdokaaGreatX3
set_option maxRecDepth 100000
set_option linter.unusedSimpArgs false
set_option linter.unusedVariables false
namespace Go.Mg
open Go.Proofs
section
variable {w : World}
theorem x4 : nQ Tryz.prog 37 = some (2, 1, false) := by kernel_rfl
theorem vo : nQ Tryz.prog 148 = some (3, 1, false) := by kernel_rfl
theorem AR : nQ Tryz.prog 163 = some (2, 1, false) := by kernel_rfl
theorem DL : nQ Tryz.prog 201 = some (10, 5, true) := by kernel_rfl
theorem IR : bS Tryz.prog 25 = some ([LV.zs, LV.p (PV.int IntKind.u64 0), LV.p (PV.int IntKind.i64 0), LV.p (PV.int IntKind.i64 0), LV.p (PV.int IntKind.i64 0)], [(0, 1), (1, 1), (2, 1), (3, 1), (4, 1)]) := by kernel_rfl
theorem AV : bS Tryz.prog 32 = some ([LV.zs, LV.p (PV.int IntKind.u64 0), LV.p (PV.int IntKind.i64 0), LV.p (PV.int IntKind.i64 0), LV.p (PV.int IntKind.i64 0), LV.zs, LV.p (PV.int IntKind.i64 0), LV.zs, LV.zs], [(0, 5), (5, 1), (6, 1), (7, 1), (8, 1)]) := by kernel_rfl
theorem vq : bS Tryz.prog 37 = some ([LV.p (PV.int IntKind.u64 0), LV.p (PV.int IntKind.u64 0)], [(0, 1), (1, 1)]) := by kernel_rfl
theorem Gj : bS Tryz.prog 40 = some ([LV.p (PV.int IntKind.i64 0), LV.p (PV.int IntKind.i64 0), LV.p (PV.int IntKind.u64 0), LV.p (PV.int IntKind.u64 0), LV.p (PV.int IntKind.u64 0)], [(0, 1), (1, 1), (2, 2), (4, 1)]) := by kernel_rfl
theorem ma : bS Tryz.prog 44 = some ([LV.zs, LV.zs], [(0, 1), (1, 1)]) := by kernel_rfl
theorem AW : bS Tryz.prog 46 = some ([LV.p (PV.int IntKind.i64 0), LV.p (PV.int IntKind.i64 0), LV.p (PV.int IntKind.i64 0), LV.p (PV.int IntKind.i64 0), LV.p (PV.int IntKind.u64 0), LV.p (PV.int IntKind.u64 0), LV.p (PV.int IntKind.u64 0), LV.zs, LV.zs], [(0, 1), (1, 1), (2, 5), (7, 2)]) := by kernel_rfl
theorem IQ : bS Tryz.prog 50 = some ([LV.p (PV.int IntKind.u64 0), LV.p (PV.int IntKind.u64 0), LV.p (PV.int IntKind.i64 0), LV.p (PV.int IntKind.i64 0)], [(0, 2), (2, 1), (3, 1)]) := by kernel_rfl
theorem vp : bS Tryz.prog 52 = some ([LV.p (PV.int IntKind.i64 0), LV.p (PV.int IntKind.i64 0), LV.zs, LV.zs, LV.zs, LV.zs, LV.zs, LV.p (PV.int IntKind.u64 0), LV.p (PV.int IntKind.u64 0), LV.p (PV.int IntKind.i64 0), LV.p (PV.int IntKind.i64 0), LV.p (PV.bool false)], [(0, 1), (1, 1), (2, 2), (4, 2), (6, 1), (7, 4), (11, 1)]) := by kernel_rfl
theorem Gk : bS Tryz.prog 54 = some ([LV.p (PV.int IntKind.i64 0), LV.p (PV.int IntKind.i64 0), LV.p (PV.int IntKind.u64 0), LV.p (PV.int IntKind.u64 0)], [(0, 1), (1, 1), (2, 2)]) := by kernel_rfl
theorem EU : bS Tryz.prog 92 = some ([LV.zs, LV.p (PV.int IntKind.u64 0), LV.p (PV.int IntKind.i64 0), LV.p (PV.int IntKind.i64 0), LV.p (PV.int IntKind.i64 0), LV.zs, LV.p (PV.int IntKind.i64 0), LV.zs, LV.zs, LV.zs, LV.zs, LV.p (PV.int IntKind.i64 0), LV.p (PV.bool false), LV.any, LV.p (PV.int IntKind.i64 0), LV.zs], [(0, 9), (9, 2), (11, 1), (12, 1), (13, 1), (14, 1), (15, 1)]) := by kernel_rfl
theorem ET : bS Tryz.prog 108 = some ([LV.any, LV.any], [(0, 1), (1, 1)]) := by kernel_rfl
theorem ER : bS Tryz.prog 143 = some ([LV.p (PV.int IntKind.i64 0), LV.p (PV.int IntKind.i64 0), LV.zs, LV.zs, LV.zs, LV.zs, LV.zs, LV.p (PV.int IntKind.u64 0), LV.p (PV.int IntKind.u64 0), LV.p (PV.int IntKind.i64 0), LV.p (PV.int IntKind.i64 0), LV.p (PV.bool false), LV.zs, LV.p (PV.int IntKind.u64 0), LV.p (PV.int IntKind.i64 0), LV.p (PV.int IntKind.i64 0), LV.p (PV.int IntKind.i64 0), LV.p (PV.int IntKind.i64 0), LV.zs], [(0, 12), (12, 5), (17, 1), (18, 1)]) := by kernel_rfl
theorem ES : bS Tryz.prog 148 = some ([LV.any, LV.any, LV.any], [(0, 1), (1, 1), (2, 1)]) := by kernel_rfl
theorem EP : bS Tryz.prog 163 = some ([LV.p (PV.int IntKind.u64 0), LV.p (PV.int IntKind.u64 0)], [(0, 1), (1, 1)]) := by kernel_rfl
theorem Gh : bS Tryz.prog 206 = some ([LV.p (PV.int IntKind.u64 0), LV.p (PV.int IntKind.i64 0), LV.p (PV.int IntKind.u32 0), LV.p (PV.int IntKind.i32 0), LV.p (PV.int IntKind.u32 0), LV.p (PV.int IntKind.i64 0), LV.p (PV.int IntKind.u64 0), LV.p (PV.int IntKind.u32 0), LV.p (PV.int IntKind.i32 0), LV.p (PV.int IntKind.u32 0), LV.p (PV.int IntKind.i64 0), LV.p (PV.int IntKind.u64 0), LV.p (PV.int IntKind.u32 0), LV.p (PV.int IntKind.i32 0), LV.p (PV.int IntKind.u32 0), LV.p (PV.int IntKind.i64 0), LV.p (PV.int IntKind.u64 0), LV.p (PV.int IntKind.u32 0), LV.p (PV.int IntKind.i32 0), LV.p (PV.int IntKind.u32 0), LV.p (PV.int IntKind.i64 0), LV.p (PV.int IntKind.u64 0), LV.p (PV.int IntKind.u32 0), LV.p (PV.int IntKind.i32 0), LV.p (PV.int IntKind.u32 0), LV.p (PV.int IntKind.i64 0), LV.p (PV.int IntKind.u64 0), LV.p (PV.int IntKind.u32 0), LV.p (PV.int IntKind.i32 0), LV.p (PV.int IntKind.u32 0), LV.p (PV.int IntKind.i64 0), LV.p (PV.int IntKind.u64 0), LV.p (PV.int IntKind.u32 0), LV.p (PV.int IntKind.i32 0), LV.p (PV.int IntKind.u32 0), LV.p (PV.int IntKind.i64 0), LV.p (PV.int IntKind.u64 0), LV.p (PV.int IntKind.u32 0), LV.p (PV.int IntKind.i32 0), LV.p (PV.int IntKind.u32 0), LV.p (PV.int IntKind.i64 0), LV.p (PV.int IntKind.u64 0), LV.p (PV.int IntKind.u32 0), LV.p (PV.int IntKind.i32 0), LV.p (PV.int IntKind.u32 0), LV.p (PV.int IntKind.i64 0), LV.p (PV.int IntKind.u64 0), LV.p (PV.int IntKind.u32 0), LV.p (PV.int IntKind.i32 0), LV.p (PV.int IntKind.u32 0), LV.p (PV.int IntKind.i64 0), LV.p (PV.int IntKind.u64 0), LV.p (PV.int IntKind.i64 0)], [(0, 1), (1, 1), (2, 50), (52, 1)]) := by kernel_rfl
theorem EQ : bS Tryz.prog 235 = some ([LV.nilmap, LV.nilmap], [(0, 1), (1, 1)]) := by kernel_rfl
theorem AX : bS Tryz.prog 238 = some ([LV.p (PV.int IntKind.i64 0), LV.p (PV.int IntKind.i64 0)], [(0, 1), (1, 1)]) := by kernel_rfl
theorem DM : bS Tryz.prog 242 = some ([LV.p (PV.int IntKind.i64 0), LV.p (PV.int IntKind.u64 0), LV.p (PV.int IntKind.u64 0)], [(0, 1), (1, 2)]) := by kernel_rfl
theorem Gi : bS Tryz.prog 251 = some ([LV.zs, LV.zs, LV.nilmap, LV.nilmap, LV.p (PV.int IntKind.i64 0), LV.p (PV.bool false)], [(0, 2), (2, 1), (3, 1), (4, 1), (5, 1)]) := by kernel_rfl
theorem tH : j1 Tryz.prog 37 2 = true := by kernel_rfl
theorem w6 : j1 Tryz.prog 40 5 = true := by kernel_rfl
theorem Hu : j1 Tryz.prog 50 4 = true := by kernel_rfl
theorem Bd : j1 Tryz.prog 54 4 = true := by kernel_rfl
theorem Dn : j1 Tryz.prog 163 2 = true := by kernel_rfl
theorem Do : j1 Tryz.prog 238 2 = true := by kernel_rfl
theorem Fo : j1 Tryz.prog 242 3 = true := by kernel_rfl
theorem gu : an Tryz.prog 25 0 = some (0, 1, false) := by kernel_rfl
theorem Bp : an Tryz.prog 25 1 = some (1, 1, false) := by kernel_rfl
theorem pM : an Tryz.prog 25 2 = some (2, 1, false) := by kernel_rfl
theorem vG : an Tryz.prog 25 3 = some (3, 1, false) := by kernel_rfl
theorem pN : an Tryz.prog 25 4 = some (4, 1, false) := by kernel_rfl
theorem mh : an Tryz.prog 32 0 = some (0, 5, true) := by kernel_rfl
theorem gm : an Tryz.prog 32 1 = some (5, 1, false) := by kernel_rfl
theorem eQ : an Tryz.prog 32 2 = some (6, 1, false) := by kernel_rfl
theorem bp : an Tryz.prog 32 3 = some (7, 1, false) := by kernel_rfl
theorem gn : an Tryz.prog 32 4 = some (8, 1, false) := by kernel_rfl
theorem hZ : an Tryz.prog 40 0 = some (0, 1, false) := by kernel_rfl
theorem vF : an Tryz.prog 40 1 = some (1, 1, false) := by kernel_rfl
theorem j3 : an Tryz.prog 40 2 = some (2, 2, true) := by kernel_rfl
theorem Fr : an Tryz.prog 40 3 = some (4, 1, false) := by kernel_rfl
theorem aL : an Tryz.prog 44 0 = some (0, 1, false) := by kernel_rfl
theorem a7 : an Tryz.prog 44 1 = some (1, 1, false) := by kernel_rfl
theorem pG : an Tryz.prog 46 0 = some (0, 1, false) := by kernel_rfl
theorem pH : an Tryz.prog 46 1 = some (1, 1, false) := by kernel_rfl
theorem pI : an Tryz.prog 46 2 = some (2, 5, true) := by kernel_rfl
theorem gr : an Tryz.prog 46 3 = some (7, 2, true) := by kernel_rfl
theorem sb : an Tryz.prog 50 0 = some (0, 2, true) := by kernel_rfl
theorem Bj : an Tryz.prog 50 1 = some (2, 1, false) := by kernel_rfl
theorem Fq : an Tryz.prog 50 2 = some (3, 1, false) := by kernel_rfl
theorem gp : an Tryz.prog 52 0 = some (0, 1, false) := by kernel_rfl
theorem cK : an Tryz.prog 52 1 = some (1, 1, false) := by kernel_rfl
theorem bT : an Tryz.prog 52 2 = some (2, 2, true) := by kernel_rfl
theorem bU : an Tryz.prog 52 3 = some (4, 2, true) := by kernel_rfl
theorem ce : an Tryz.prog 52 4 = some (6, 1, false) := by kernel_rfl
theorem j2 : an Tryz.prog 52 5 = some (7, 4, true) := by kernel_rfl
theorem gq : an Tryz.prog 52 6 = some (11, 1, false) := by kernel_rfl
theorem pO : an Tryz.prog 54 0 = some (0, 1, false) := by kernel_rfl
theorem nf : an Tryz.prog 54 1 = some (1, 1, false) := by kernel_rfl
theorem j4 : an Tryz.prog 54 2 = some (2, 2, true) := by kernel_rfl
theorem Bh : an Tryz.prog 73 0 = some (0, 1, false) := by kernel_rfl
theorem tQ : an Tryz.prog 73 1 = some (1, 1, false) := by kernel_rfl
theorem Bi : an Tryz.prog 73 2 = some (2, 1, false) := by kernel_rfl
theorem tR : an Tryz.prog 73 3 = some (3, 1, false) := by kernel_rfl
theorem tS : an Tryz.prog 73 4 = some (4, 1, false) := by kernel_rfl
theorem Bo : an Tryz.prog 92 0 = some (0, 9, true) := by kernel_rfl
theorem pK : an Tryz.prog 92 1 = some (9, 2, true) := by kernel_rfl
theorem pL : an Tryz.prog 92 2 = some (11, 1, false) := by kernel_rfl
theorem tV : an Tryz.prog 92 3 = some (12, 1, false) := by kernel_rfl
theorem tW : an Tryz.prog 92 4 = some (13, 1, false) := by kernel_rfl
theorem tX : an Tryz.prog 92 5 = some (14, 1, false) := by kernel_rfl
theorem tY : an Tryz.prog 92 6 = some (15, 1, false) := by kernel_rfl
theorem Bl : an Tryz.prog 108 0 = some (0, 1, false) := by kernel_rfl
theorem Bm : an Tryz.prog 108 1 = some (1, 1, false) := by kernel_rfl
theorem av : an Tryz.prog 143 0 = some (0, 12, true) := by kernel_rfl
theorem gt : an Tryz.prog 143 1 = some (12, 5, true) := by kernel_rfl
theorem cL : an Tryz.prog 143 2 = some (17, 1, false) := by kernel_rfl
theorem mj : an Tryz.prog 143 3 = some (18, 1, false) := by kernel_rfl
theorem w8 : an Tryz.prog 192 1 = some (0, 1, false) := by kernel_rfl
theorem rX : an Tryz.prog 194 0 = some (0, 1, false) := by kernel_rfl
theorem w9 : an Tryz.prog 196 1 = some (0, 2, true) := by kernel_rfl
theorem oB : an Tryz.prog 198 1 = some (0, 1, true) := by kernel_rfl
theorem xa : an Tryz.prog 198 2 = some (1, 2, true) := by kernel_rfl
theorem xb : an Tryz.prog 200 0 = some (0, 3, true) := by kernel_rfl
theorem xc : an Tryz.prog 200 1 = some (3, 1, false) := by kernel_rfl
theorem xd : an Tryz.prog 200 2 = some (4, 1, false) := by kernel_rfl
theorem xe : an Tryz.prog 204 2 = some (0, 1, false) := by kernel_rfl
theorem xf : an Tryz.prog 206 0 = some (0, 1, false) := by kernel_rfl
theorem rY : an Tryz.prog 206 1 = some (1, 1, false) := by kernel_rfl
theorem xg : an Tryz.prog 206 2 = some (2, 50, true) := by kernel_rfl
theorem rZ : an Tryz.prog 206 3 = some (52, 1, true) := by kernel_rfl
theorem pJ : an Tryz.prog 235 0 = some (0, 1, false) := by kernel_rfl
theorem tT : an Tryz.prog 235 1 = some (1, 1, false) := by kernel_rfl
theorem tU : an Tryz.prog 238 0 = some (0, 1, false) := by kernel_rfl
theorem mi : an Tryz.prog 242 0 = some (0, 1, false) := by kernel_rfl
theorem sa : an Tryz.prog 242 1 = some (1, 2, true) := by kernel_rfl
theorem eu : an Tryz.prog 251 0 = some (0, 2, true) := by kernel_rfl
theorem kW : an Tryz.prog 251 1 = some (2, 1, false) := by kernel_rfl
theorem oC : an Tryz.prog 251 2 = some (3, 1, false) := by kernel_rfl
theorem xh : an Tryz.prog 251 3 = some (4, 1, false) := by kernel_rfl
theorem oD : an Tryz.prog 251 4 = some (5, 1, false) := by kernel_rfl
theorem xp : dy Tryz.prog 120 = some (37, 4, 2, true) := by kernel_rfl
theorem iT : dy Tryz.prog 122 = some (37, 3, 2, true) := by kernel_rfl
theorem Ec : dy Tryz.prog 209 = some (3, 4, 1, false) := by kernel_rfl
theorem BG : dy Tryz.prog 232 = some (238, 37, 2, true) := by kernel_rfl
theorem BH : dy Tryz.prog 233 = some (238, 4, 2, true) := by kernel_rfl
theorem BI : dy Tryz.prog 249 = some (54, 4, 4, true) := by kernel_rfl
theorem gL : cA Tryz.prog 22 = some (1, 8) := by kernel_rfl
theorem nF : cA Tryz.prog 26 = some (5, 72) := by kernel_rfl
theorem dN : cA Tryz.prog 29 = some (12, 176) := by kernel_rfl
theorem ck : cA Tryz.prog 30 = some (9, 104) := by kernel_rfl
theorem cR : cA Tryz.prog 41 = some (5, 40) := by kernel_rfl
theorem cF : cA Tryz.prog 42 = some (4, 32) := by kernel_rfl
theorem qe : cA Tryz.prog 47 = some (2, 16) := by kernel_rfl
theorem DC : cA Tryz.prog 99 = some (1, 8) := by kernel_rfl
theorem FE : cA Tryz.prog 212 = some (1, 8) := by kernel_rfl
theorem we : cA Tryz.prog 224 = some (1, 24) := by kernel_rfl
theorem bl : aJ Tryz.prog 3 = some (1, false) := by kernel_rfl
theorem xx : aJ Tryz.prog 4 = some (1, false) := by kernel_rfl
theorem Jx : aJ Tryz.prog 21 = some (1, false) := by kernel_rfl
theorem gG : aJ Tryz.prog 22 = some (1, false) := by kernel_rfl
theorem mO : aJ Tryz.prog 23 = some (1, false) := by kernel_rfl
theorem ca : aJ Tryz.prog 25 = some (5, true) := by kernel_rfl
theorem B8 : aJ Tryz.prog 26 = some (1, false) := by kernel_rfl
theorem cG : aJ Tryz.prog 29 = some (1, false) := by kernel_rfl
theorem bM : aJ Tryz.prog 30 = some (1, false) := by kernel_rfl
theorem bX : aJ Tryz.prog 32 = some (9, true) := by kernel_rfl
theorem aT : aJ Tryz.prog 37 = some (2, true) := by kernel_rfl
theorem bY : aJ Tryz.prog 40 = some (5, true) := by kernel_rfl
theorem ch : aJ Tryz.prog 41 = some (1, false) := by kernel_rfl
theorem dc : aJ Tryz.prog 42 = some (1, false) := by kernel_rfl
theorem aM : aJ Tryz.prog 44 = some (2, true) := by kernel_rfl
theorem dV : aJ Tryz.prog 46 = some (9, true) := by kernel_rfl
theorem ik : aJ Tryz.prog 50 = some (4, true) := by kernel_rfl
theorem b9 : aJ Tryz.prog 52 = some (12, true) := by kernel_rfl
theorem bZ : aJ Tryz.prog 54 = some (4, true) := by kernel_rfl
theorem lW : aJ Tryz.prog 73 = some (5, true) := by kernel_rfl
theorem Ce : aJ Tryz.prog 90 = some (1, false) := by kernel_rfl
theorem qw : aJ Tryz.prog 92 = some (16, true) := by kernel_rfl
theorem FG : aJ Tryz.prog 105 = some (1, false) := by kernel_rfl
theorem rJ : aJ Tryz.prog 106 = some (1, false) := by kernel_rfl
theorem Cd : aJ Tryz.prog 108 = some (2, true) := by kernel_rfl
theorem Cc : aJ Tryz.prog 120 = some (1, false) := by kernel_rfl
theorem yO : aJ Tryz.prog 122 = some (1, false) := by kernel_rfl
theorem wt : aJ Tryz.prog 147 = some (1, false) := by kernel_rfl
theorem FF : aJ Tryz.prog 148 = some (3, true) := by kernel_rfl
theorem qv : aJ Tryz.prog 163 = some (2, true) := by kernel_rfl
theorem qu : aJ Tryz.prog 186 = some (1, false) := by kernel_rfl
theorem Ca : aJ Tryz.prog 209 = some (1, false) := by kernel_rfl
theorem wq : aJ Tryz.prog 232 = some (1, false) := by kernel_rfl
theorem B9 : aJ Tryz.prog 233 = some (1, false) := by kernel_rfl
theorem sy : aJ Tryz.prog 235 = some (2, true) := by kernel_rfl
theorem lX : aJ Tryz.prog 238 = some (2, true) := by kernel_rfl
theorem oa : aJ Tryz.prog 242 = some (3, true) := by kernel_rfl
theorem Cb : aJ Tryz.prog 246 = some (1, false) := by kernel_rfl
theorem xw : aJ Tryz.prog 249 = some (1, false) := by kernel_rfl
theorem oc : aJ Tryz.prog 252 = some (1, false) := by kernel_rfl
theorem Cm : jN Tryz.prog 3 = some (LV.p (PV.int IntKind.i64 0)) := by kernel_rfl
theorem Iu : jN Tryz.prog 4 = some (LV.p (PV.bool false)) := by kernel_rfl
theorem Jz : jN Tryz.prog 37 = some (LV.p (PV.agg [PV.int IntKind.u64 0, PV.int IntKind.u64 0])) := by kernel_rfl
theorem JN : bJ Tryz.prog 3 = some [LV.p (PV.int IntKind.i64 0)] := by kernel_rfl
theorem JB : bJ Tryz.prog 22 = some [LV.zs] := by kernel_rfl
theorem JC : bJ Tryz.prog 25 = some [LV.zs, LV.p (PV.int IntKind.u64 0), LV.p (PV.int IntKind.i64 0), LV.p (PV.int IntKind.i64 0), LV.p (PV.int IntKind.i64 0)] := by kernel_rfl
theorem jD : bJ Tryz.prog 32 = some [LV.zs, LV.p (PV.int IntKind.u64 0), LV.p (PV.int IntKind.i64 0), LV.p (PV.int IntKind.i64 0), LV.p (PV.int IntKind.i64 0), LV.zs, LV.p (PV.int IntKind.i64 0), LV.zs, LV.zs] := by kernel_rfl
theorem kp : bJ Tryz.prog 37 = some [LV.p (PV.int IntKind.u64 0), LV.p (PV.int IntKind.u64 0)] := by kernel_rfl
theorem qJ : bJ Tryz.prog 40 = some [LV.p (PV.int IntKind.i64 0), LV.p (PV.int IntKind.i64 0), LV.p (PV.int IntKind.u64 0), LV.p (PV.int IntKind.u64 0), LV.p (PV.int IntKind.u64 0)] := by kernel_rfl
theorem JD : bJ Tryz.prog 42 = some [LV.zs] := by kernel_rfl
theorem fS : bJ Tryz.prog 44 = some [LV.zs, LV.zs] := by kernel_rfl
theorem nJ : bJ Tryz.prog 46 = some [LV.p (PV.int IntKind.i64 0), LV.p (PV.int IntKind.i64 0), LV.p (PV.int IntKind.i64 0), LV.p (PV.int IntKind.i64 0), LV.p (PV.int IntKind.u64 0), LV.p (PV.int IntKind.u64 0), LV.p (PV.int IntKind.u64 0), LV.zs, LV.zs] := by kernel_rfl
theorem JA : bJ Tryz.prog 50 = some [LV.p (PV.int IntKind.u64 0), LV.p (PV.int IntKind.u64 0), LV.p (PV.int IntKind.i64 0), LV.p (PV.int IntKind.i64 0)] := by kernel_rfl
theorem nI : bJ Tryz.prog 52 = some [LV.p (PV.int IntKind.i64 0), LV.p (PV.int IntKind.i64 0), LV.zs, LV.zs, LV.zs, LV.zs, LV.zs, LV.p (PV.int IntKind.u64 0), LV.p (PV.int IntKind.u64 0), LV.p (PV.int IntKind.i64 0), LV.p (PV.int IntKind.i64 0), LV.p (PV.bool false)] := by kernel_rfl
theorem qK : bJ Tryz.prog 54 = some [LV.p (PV.int IntKind.i64 0), LV.p (PV.int IntKind.i64 0), LV.p (PV.int IntKind.u64 0), LV.p (PV.int IntKind.u64 0)] := by kernel_rfl
theorem Cn : bJ Tryz.prog 73 = some [LV.p (PV.int IntKind.i64 0), LV.p (PV.int IntKind.i64 0), LV.p (PV.bool false), LV.zs, LV.zs] := by kernel_rfl
theorem wy : bJ Tryz.prog 92 = some [LV.zs, LV.p (PV.int IntKind.u64 0), LV.p (PV.int IntKind.i64 0), LV.p (PV.int IntKind.i64 0), LV.p (PV.int IntKind.i64 0), LV.zs, LV.p (PV.int IntKind.i64 0), LV.zs, LV.zs, LV.zs, LV.zs, LV.p (PV.int IntKind.i64 0), LV.p (PV.bool false), LV.any, LV.p (PV.int IntKind.i64 0), LV.zs] := by kernel_rfl
theorem Iv : bJ Tryz.prog 106 = some [LV.any] := by kernel_rfl
theorem Cp : bJ Tryz.prog 108 = some [LV.any, LV.any] := by kernel_rfl
theorem Iy : bJ Tryz.prog 120 = some [LV.nilmap] := by kernel_rfl
theorem FJ : bJ Tryz.prog 148 = some [LV.any, LV.any, LV.any] := by kernel_rfl
theorem ww : bJ Tryz.prog 163 = some [LV.p (PV.int IntKind.u64 0), LV.p (PV.int IntKind.u64 0)] := by kernel_rfl
theorem Iw : bJ Tryz.prog 209 = some [LV.nilmap] := by kernel_rfl
theorem wx : bJ Tryz.prog 235 = some [LV.nilmap, LV.nilmap] := by kernel_rfl
theorem Co : bJ Tryz.prog 238 = some [LV.p (PV.int IntKind.i64 0), LV.p (PV.int IntKind.i64 0)] := by kernel_rfl
theorem Et : bJ Tryz.prog 242 = some [LV.p (PV.int IntKind.i64 0), LV.p (PV.int IntKind.u64 0), LV.p (PV.int IntKind.u64 0)] := by kernel_rfl
theorem Ix : bJ Tryz.prog 246 = some [LV.any] := by kernel_rfl
theorem Eu : bJ Tryz.prog 252 = some [LV.any] := by kernel_rfl
end
abbrev ID := Int × Int
def cv (p : ID) : PV := .agg [.int .u64 p.1, .int .u64 p.2]
def km (x : Int) : PV := .int .u64 x
structure Bk where
 Slot : Int
 From : Int
 Parent : ID
 Salt : Int
 deriving DecidableEq
def au (b : Bk) : PV := .agg [.int .i64 b.Slot, .int .i64 b.From, .int .u64 b.Parent.1, .int .u64 b.Parent.2, .int .u64 b.Salt]
structure Vt where
 From : Int
 Slot : Int
 Head : ID
 deriving DecidableEq
def aD (v : Vt) : PV := .agg [.int .i64 v.From, .int .i64 v.Slot, .int .u64 v.Head.1, .int .u64 v.Head.2]
structure Cf where
 W : List Int
 Seed : Int
 Epoch : Int
 Num : Int
 Den : Int
def kT (c : Cf) : PV := .agg [.slice 1 (c.W.map aC), .int .u64 c.Seed, .int .i64 c.Epoch, .int .i64 c.Num, .int .i64 c.Den]
structure Vw where
 B : List Bk
 V : List Vt
def k7 (v : Vw) : PV := .agg [.slice 5 (v.B.map au), .slice 4 (v.V.map aD)]
structure Cu where
 ID : Go.Mg.ID
 Slot : Int
 Revoked : Int
 deriving DecidableEq
def qE (c : Cu) : PV := .agg [.int .u64 c.ID.1, .int .u64 c.ID.2, .int .i64 c.Slot, .int .i64 c.Revoked]
structure Rk where
 n : Int
 id : Go.Mg.ID
def JM (c : Rk) : PV := .agg [.int .i64 c.n, .int .u64 c.id.1, .int .u64 c.id.2]
theorem Hy {a b : ID} {r : Bool} (h : ci [.int .u64 a.1, .int .u64 a.2] [.int .u64 b.1, .int .u64 b.2] = some r) : r = decide (a = b) := by
 rw [px] at h;cases h;obtain ⟨x, y⟩ := a;obtain ⟨z, w⟩ := b;simp only [Bool.and_true, Prod.mk.injEq];by_cases h1 : x = z <;> by_cases h2 : y = w <;> simp [h1, h2]
theorem dw : eN cv 2 true := ⟨fun a b => by
 obtain ⟨x, y⟩ := a;obtain ⟨z, w⟩ := b;simp only [cv, gy, px, Bool.and_true, Prod.mk.injEq, Option.some.injEq]
 by_cases h1 : x = z <;> by_cases h2 : y = w <;> simp [h1, h2], fun _ => rfl⟩
theorem Bt : eN aC 1 false := ⟨fun a b => by simp only [aC, gy, if_pos, Option.some.injEq]; by_cases h : a = b <;> simp [h], fun _ => rfl⟩
theorem xy : eN aD 4 true := ⟨fun a b => by
 obtain ⟨a1, a2, a3⟩ := a;obtain ⟨b1, b2, b3⟩ := b;simp only [aD, gy, ci, if_pos, Option.some.injEq, Vt.mk.injEq];rw [Bool.eq_iff_iff];obtain ⟨a3, a4⟩ := a3;obtain ⟨b3, b4⟩ := b3
 simp, fun _ => rfl⟩
theorem Dm (a b : ID) : ((a.1 == b.1) && ((a.2 == b.2) && true)) = decide (a = b) := by
 obtain ⟨x, y⟩ := a;obtain ⟨z, w⟩ := b;by_cases h1 : x = z <;> by_cases h2 : y = w <;> simp [h1, h2]
theorem Hq (a b : Bk) : ((a.Slot == b.Slot) && ((a.From == b.From) && ((a.Parent.1 == b.Parent.1) && ((a.Parent.2 == b.Parent.2) && ((a.Salt == b.Salt) && true))))) = decide (a = b) := by
 obtain ⟨a1, a2, ⟨a3, a4⟩, a5⟩ := a;obtain ⟨b1, b2, ⟨b3, b4⟩, b5⟩ := b;simp only [Bool.and_true, Bk.mk.injEq, Prod.mk.injEq];rw [Bool.eq_iff_iff];simp [and_assoc]
theorem Ht (a b : Vt) : ((a.From == b.From) && ((a.Slot == b.Slot) && ((a.Head.1 == b.Head.1) && ((a.Head.2 == b.Head.2) && true)))) = decide (a = b) := by
 obtain ⟨a1, a2, ⟨a3, a4⟩⟩ := a;obtain ⟨b1, b2, ⟨b3, b4⟩⟩ := b;rw [Bool.eq_iff_iff];simp
abbrev kB (l : List Bk) : LV := .p (.slice 5 (l.map au))
abbrev kV (l : List Vt) : LV := .p (.slice 4 (l.map aD))
abbrev kI (l : List Int) : LV := .p (.slice 1 (l.map aC))
abbrev jB (i : Nat) (l : List Bk) : LV := .vec 5 i (l.map au).length 0 (l.map au).length
abbrev jV (i : Nat) (l : List Vt) : LV := .vec 4 i (l.map aD).length 0 (l.map aD).length
abbrev jI (i : Nat) (l : List Int) : LV := .vec 1 i (l.map aC).length 0 (l.map aC).length
abbrev mQ (m : List (ID × Int)) : aa := .map (ai cv (fun v => .p (.int .i64 v)) m)
abbrev mR (m : List (Vt × Bool)) : aa := .map (ai aD (fun v => .p (.bool v)) m)
abbrev bO (c : Cf) : List LV := [.p (.slice 1 (c.W.map aC)), .p (.int .u64 c.Seed), .p (.int .i64 c.Epoch), .p (.int .i64 c.Num), .p (.int .i64 c.Den)]
abbrev cw (w : Vw) : List LV := [.p (.slice 5 (w.B.map au)), .p (.slice 4 (w.V.map aD))]
open Go.Proofs
def HW (x : Int) : Int :=
 let a := IntKind.u64.wrap (bits .xor .u64 x (x.fdiv (2 ^ (min (Int.toNat 30) IntKind.u64.bits))) * 13787848793156543929)
 let b := IntKind.u64.wrap (bits .xor .u64 a (a.fdiv (2 ^ (min (Int.toNat 27) IntKind.u64.bits))) * 10723151780598845931)
 bits .xor .u64 b (b.fdiv (2 ^ (min (Int.toNat 31) IntKind.u64.bits)))
def step (h x : Int) : Int := HW (IntKind.u64.wrap (bits .xor .u64 h x + 11400714819323198485))
def JJ (x : Int) : Int := bits .xor .u64 (if IntKind.u64.signed then -1 else IntKind.u64.max) x
theorem I7 {x : Int} : az Tryz.prog 125 [.int .u64 x] [.int .u64 (HW x)] := by
 refine zh Tryz.func125 Z Z Z Z ?_;refine zQ<|zR<|yS Z (za Z Z)<|zN<|zT<|zQ<|zR<|yS Z (zm Z Z)<|yS Z (zm Z Z)<|yS Z (ab.shr Z Z Z (by decide))<|yS Z (aw Z Z Z Z)<|yS Z (aw Z Z Z Z)<|yS Z (za Z Z)<|zN<|zT<|zQ<|zR<|yS Z (zm Z Z)<|yS Z (zm Z Z)<|yS Z (ab.shr Z Z Z (by decide))<|yS Z (aw Z Z Z Z)<|yS Z (aw Z Z Z Z)<|yS Z (za Z Z)<|zN ?_;exact zT<|zQ<|zR<|yS Z (zm Z Z)<|yS Z (zm Z Z)<|yS Z (ab.shr Z Z Z (by decide))<|yS Z (aw Z Z Z Z)<|yS Z (za Z Z)<|zN<|zT<|zr<|zf (.one (.tmp Z)) zv
theorem tw {h x : Int} : az Tryz.prog 70 [.int .u64 h, .int .u64 x] [.int .u64 (step h x)] := by
 refine zh Tryz.func70 Z Z Z Z ?_;exact zQ<|zR<|yS Z (za Z Z)<|zN<|zT<|zQ<|zR<|yS Z (zm Z Z)<|yS Z (zm Z Z)<|yS Z (aw Z Z Z Z)<|yS Z (aw Z Z Z Z)<|yS Z (zC Z Z Z (by kernel_rfl) (zp I7 (.cons zv .nil)))<|yS Z (za Z Z)<|zN<|zT<|zr<|zf (.one (.tmp Z)) zv
theorem Gw {x a b : Int} {id : Nat} {H H' : List aa} (hH : aK H id = some (.box [(uQ a), (uQ b)])) (hH' : aR H id (.box [.p (.int .u64 (step a x)), .p (.int .u64 (step b (JJ x)))]) = some H') : LC Tryz.prog 102 [(uQ x), .ptr id 0] H (Is (.tup []) H') := by
 refine dA Tryz.func102 Z Z Z ?_;exact LW.drawLast (m := 10) (by kernel_rfl) (by kernel_rfl) (by kernel_rfl)<|yE Z (ab.indexAddrA Z Z Z x4 (by decide) (by decide))<|yE Z (zD Z Z hH mO Z Z)<|yE Z (zm Z Z)<|yE Z (zC Z Z Z (by kernel_rfl) (zp tw (.cons zv (.cons zv .nil))))<|yE Z (ab.indexAddrA Z Z Z x4 (by decide) (by decide))<|yE Z (zD Z Z hH mO Z Z)<|yE Z (zm Z Z)<|yE Z (ab.compl Z Z)<|yE Z (zC Z Z Z (by kernel_rfl) (zp tw (.cons zv (.cons zv .nil))))<|yE Z (ab.build Z vq Z Z Z)<|LO.nil<|yS Z (zs Z Z Z hH aT Z Z Z hH')<|zN<|fP .none<|⟨rfl, rfl⟩
open Go.Proofs
def mt (p : Int × Int) (x : Int) : Int × Int := (step p.1 x, step p.2 (JJ x))
def BF (l : List Int) : Int × Int := mt (l.foldl mt (1, 2)) (IntKind.u64.wrap l.length)
theorem J0 {l : List Int} : az Tryz.prog 54 [.slice 1 (l.map km)] [cv (BF l)] := by
 refine zh Tryz.func54 Z Z Z Z ?_;refine zQ ?_;refine LW.ok (t := 0) Z<|fun ok => ?_;have hlen := ok.len;simp only [List.length_map, maxLen] at hlen;refine zR<|yS Z (ze Z kp Z Z)<|zN<|zT<|zQ<|zR<|yS Z (ab.build Z vq Z Z Z)<|yS Z (ze Z kp Z Z)<|yS Z (zs Z Z Z Z aT Z Z Z Z)<|zN<|zT<|zQ<|zR<|yS Z (ab.makeFunc Z Z Z)<|yS Z (za Z Z)<|zN<|zT<|zQ<|zQ<|zR<|yS Z (zm Z Z)<|yS Z (ab.len Z Z (by kernel_rfl))<|yS Z (zm Z Z)<|zN ?_;refine zT<|zl ?_;refine LW.loopOf (E := fun x : Nat × Int × Int => [(0, .p (.slice 1 (l.map km))), (2, .ptr 0 0), (3, .ptr 1 0), (4, .fn 102 [] [.ptr 1 0]), (9, .p (.slice 1 (l.map km))), (10, .p (.int .i64 (l.map km).length)), (11, .p (.int .i64 (x.1 : Nat)))]) (O := fun x => [.box [(uQ 0), (uQ 0)], .box [(uQ x.2.1), (uQ x.2.2)]]) (G := fun x => x.1 ≤ l.length ∧ x.2 = (l.take x.1).foldl mt (1, 2)) (meas := fun x => l.length - x.1) (0, 1, 2) (zW 2 ⟨rfl, rfl, rfl, rfl, rfl, rfl, rfl, trivial⟩ Z Z Z Z) ⟨Nat.zero_le _, rfl⟩<|fun x hx => ?_;refine zQ<|zR<|yS Z (aw Z Z Z Z)<|zN<|zT<|zQ ?_;refine zX Z (fun g1 => ?_)<|fun g1 => ?_
 ·
  refine zk<|zT<|zQ<|zl<|zQ ?_
  have hlt : x.1 < l.length := by simpa using g1
  obtain ⟨y, hy⟩ := mq hlt;refine zR (yS Z (ab.indexAddr Z Z Z DC (by omega) (sg hy) Z) (yS Z (dj Z Z Z mO Z Z) (yS Z (za Z Z) (zN (zT (zR (yS Z (zm Z Z) (yS Z (zm Z Z) (yS Z (zC Z Z Z (by kernel_rfl) (Gw (id := 1) Z Z)) (zN (ah (zT (zR (yS Z (ab.isEq (y := .p (.int .i64 ((x.1 + 1 : Nat) : Int))) (aw Z Z Z Z) (by rw [eI (by omega) (by omega)]; rfl)) (yS Z (zm Z Z) (zN (zT ?_)))))))))))))))));refine ⟨(x.1 + 1, mt x.2 y), ?_, ?_, zW 2 ⟨rfl, rfl, rfl, rfl, rfl, rfl, rfl, trivial⟩ Z Z Z rfl⟩
  ·simp only; omega
  ·refine ⟨hlt, ?_⟩; rw [List.take_add_one, hy, List.foldl_append, ← hx.2]; rfl
 ·
  refine zq<|ao<|ao<|zy<|zT<|zQ ?_
  have hnlt : ¬ x.1 < l.length := by simpa using g1
  have hend : x.1 = l.length := by omega
  have hfold : x.2 = l.foldl mt (1, 2) := by rw [hx.2, hend, List.take_length]
  refine zR<|yS Z (zm Z Z)<|yS Z (zm Z Z)<|yS Z (ab.len Z Z (by kernel_rfl))<|yS Z (ab.convert (k' := .u64) Z Z (by kernel_rfl))<|yS Z (zC Z Z Z (by kernel_rfl) (Gw (id := 1) Z Z))<|zN<|zT<|zQ<|zR<|yS Z (zD Z Z Z aT Z Z)<|yS Z (zs Z Z Z Z aT Z Z Z Z)<|zN<|zT<|zr<|zf (.one (.cellAgg Z Z (by kernel_rfl) Z))<|Conv.pe ?_;simp only [List.length_map, cv, BF, ← hfold];rfl
open Go.Proofs
def rr (b : Bk) : List Int := [1, IntKind.u64.wrap b.Slot, IntKind.u64.wrap b.From, b.Parent.1, b.Parent.2, b.Salt]
def nm (b : Bk) : ID := BF (rr b)
def aZ (l : List ID) (v : ID) : Int := match l.findIdx? (fun x => decide (v = x)) with | some i => (i : Nat) | none => -1
theorem lI {l : List ID} {v : ID} {i : Nat} (h : l[i]? = some v) (hno : ∀ j, j < i → l[j]? ≠ some v) : aZ l v = i := by
 have hi := (List.getElem?_eq_some_iff.1 h).1
 have : l.findIdx? (fun x => decide (v = x)) = some i := by
  rw [List.findIdx?_eq_some_iff_getElem];refine ⟨hi, by simp [(List.getElem?_eq_some_iff.1 h).2], fun j hj => ?_⟩;have := hno j hj;rw [List.getElem?_eq_getElem (by omega)] at this;simpa using fun e => this (by rw [e])
 simp [aZ, this]
theorem ml {l : List ID} {v : ID} (hno : ∀ j, j < l.length → l[j]? ≠ some v) : aZ l v = -1 := by
 have : l.findIdx? (fun x => decide (v = x)) = none := by
  rw [List.findIdx?_eq_none_iff];intro x hx;obtain ⟨j, hj, rfl⟩ := List.mem_iff_getElem.1 hx;have := hno j hj;rw [List.getElem?_eq_getElem hj] at this;simpa using fun e => this (by rw [e])
 simp [aZ, this]
theorem EY {b : Bk} : az Tryz.prog 19 [au b] [cv (nm b)] := by
 refine zh Tryz.func19 Z Z Z Z ?_;refine zQ<|zR<|yS Z (b6 Z Z Z Z Z)<|yS Z (ze Z kp Z Z)<|zN<|zT<|zQ<|zR<|yS Z (zA Z Z hZ)<|yS Z (zD Z Z Z bl Z Z)<|yS Z (ab.convert (k' := .u64) Z Z (by kernel_rfl))<|yS Z (zA Z Z vF)<|yS Z (zD Z Z Z bl Z Z)<|yS Z (ab.convert (k' := .u64) Z Z (by kernel_rfl))<|yS Z (zA Z Z j3)<|yS Z (ab.indexAddrA Z Z Z x4 (by decide) (by decide))<|yS Z (zD Z Z Z mO Z Z)<|yS Z (zA Z Z j3)<|yS Z (ab.indexAddrA Z Z Z x4 (by decide) (by decide))<|yS Z (zD Z Z Z mO Z Z)<|yS Z (zA Z Z Fr)<|yS Z (zD Z Z Z mO Z Z)<|yS Z (lY Z DC Z Z Z Z Z)<|yS Z (zC Z Z Z (by kernel_rfl) (zp (J0 (l := rr b)) (.cons zv .nil))) ?_;exact yS Z (zs Z Z Z Z aT Z Z Z Z)<|zN<|zT<|zr<|zf (.one (.cellAgg Z Z (by kernel_rfl) Z)) zv
theorem IF {l : List ID} {v : ID} : az Tryz.prog 119 [.slice 2 (l.map cv), cv v] [.int .i64 (aZ l v)] := by
 refine zh Tryz.func119 Z Z Z Z ?_;refine zQ ?_;refine LW.ok (t := 0) Z<|fun ok => ?_;have hlen := ok.len;simp only [List.length_map, maxLen] at hlen;refine zR<|yS Z (b6 Z Z Z Z Z)<|yS Z (za Z Z)<|zN<|zT<|zQ<|zQ<|zR<|yS Z (zm Z Z)<|yS Z (ab.len Z Z (by kernel_rfl))<|yS Z (zm Z Z)<|zN<|zT<|zl ?_;refine LW.loopOf (E := fun x : Nat => [(0, .p (.slice 2 (l.map cv))), (3, .ptr 0 0), (6, .p (.slice 2 (l.map cv))), (7, .p (.int .i64 (l.map cv).length)), (8, .p (.int .i64 (x : Nat)))]) (O := fun x => [.box [(uQ v.1), (uQ v.2)]]) (G := fun x => x ≤ l.length ∧ ∀ j, j < x → l[j]? ≠ some v) (meas := fun x => l.length - x) 0 (zW 1 ⟨rfl, rfl, rfl, rfl, rfl, trivial⟩ Z Z Z Z) ⟨Nat.zero_le _, fun j hj => absurd hj (by omega)⟩<|fun x hx => ?_;refine zQ<|zR<|yS Z (aw Z Z Z Z)<|zN<|zT<|zQ ?_;refine zX Z (fun g1 => ?_)<|fun g1 => ?_
 ·
  refine zk<|zT<|zQ<|zl<|zQ ?_
  have hlt : x < l.length := by simpa using g1
  obtain ⟨y, hy⟩ := mq hlt;refine zR<|yS Z (zm Z Z)<|yS Z (za Z Z)<|zN<|zT<|zQ<|LW.draw2 (by kernel_rfl) (by kernel_rfl)<|yE Z (zD Z Z Z aT Z Z)<|yE Z (zm Z Z)<|yE Z (zm Z Z)<|yE Z (ab.indexAddr Z Z Z qe (by omega) (sg hy) Z)<|yE Z (dj Z Z Z aT Z Z)<|yE Z (ab.eqlAgg Z Z Z Z Z tH)<|LO.nil<|zT ?_;refine zX Z (fun g2 => ?_)<|fun g2 => ?_
  ·
   refine zQ ?_;have he : v = y := of_decide_eq_true ((Hy (a := v) (b := y) rfl).symm.trans g2);exact zR (yS Z (zm Z Z) (yS Z (za Z Z) (zN (zT (zr (aq (af (af (aq (af (zf (.one (.tmp Z)) (Conv.pe (by rw [lI (hy.trans (congrArg some he.symm)) hx.2])))))))))))))
  ·
   refine zk<|ah<|zT ?_;have hne : v ≠ y := of_decide_eq_false ((Hy (a := v) (b := y) rfl).symm.trans g2);refine zR (yS Z (ab.isEq (y := .p (.int .i64 ((x + 1 : Nat) : Int))) (aw Z Z Z Z) (by rw [eI (by omega) (by omega)]; rfl)) (yS Z (zm Z Z) (zN (zT ?_))));refine ⟨x + 1, ?_, ?_, zW 1 ⟨rfl, rfl, rfl, rfl, rfl, trivial⟩ Z Z Z rfl⟩
   ·omega
   ·exact ⟨hlt, fun j hj => by rcases Nat.lt_succ_iff_lt_or_eq.1 hj with h | h; exact hx.2 j h; subst h; rw [hy]; exact fun e => hne (zJ e).symm⟩
 ·
  refine zq<|ao<|ao<|zy<|zT<|zQ ?_
  have hnlt : ¬ x < l.length := by simpa using g1
  have hend : x = l.length := by omega
  exact zR (yS Z (za Z Z) (zN (zT (zr (zf (.one (.tmp Z)) (Conv.pe (by rw [ml fun j hj => hx.2 j (by omega)])))))))
theorem JZ {l : List ID} {v : ID} : az Tryz.prog 65 [.slice 2 (l.map cv), cv v] [.bool (decide (aZ l v ≥ 0))] := by
 refine zh Tryz.func65 Z Z Z Z ?_;exact zQ<|zR<|yS Z (b6 Z Z Z Z Z)<|yS Z (za Z Z)<|zN<|zT<|zQ<|zR<|yS Z (zm Z Z)<|yS Z (zD Z Z Z aT Z Z)<|yS Z (zC Z Z Z (by kernel_rfl) (zp IF (.cons zv (.cons zv .nil))))<|yS Z (aw Z Z Z Z)<|yS Z (za Z Z)<|zN<|zT<|zr<|zf (.one (.tmp Z)) zv
open Go.Proofs
def bW (l : List Bk) (i : Int) : Int := if i = -1 then 0 else match l[i.toNat]? with
 | some b => b.Slot
 | none => 0
abbrev D8 : Int → LV := fun v => (iQ v)
def ec (l : List Bk) : List Bk → Nat → List (ID × Int) → Option (List (ID × Int))
 | [], _, m => some m
 | b :: r, i, m => match aj m b.Parent with
  | none => none
  | some p => if b.Slot ≤ bW l p then none else match aj m (nm b) with
   | some _ => none
   | none => ec l r (i + 1) (m ++ [(nm b, (i : Int))])
def places (l : List Bk) : Option (List (ID × Int)) := ec l l 0 [((0, 0), -1)]
theorem eE {l : List Bk} {i : Nat} {y : Bk} (hy : l[i]? = some y) (m : List (ID × Int)) : ec l (l.drop i) i m = match aj m y.Parent with
  | none => none
  | some p => if y.Slot ≤ bW l p then none else match aj m (nm y) with
   | some _ => none
   | none => ec l (l.drop (i + 1)) (i + 1) (m ++ [(nm y, (i : Int))]) := by
 obtain ⟨hi, rfl⟩ := List.getElem?_eq_some_iff.1 hy;rw [List.drop_eq_getElem_cons hi];rfl
theorem I5 {l : List Bk} {i : Int} {id : Nat} {H : List aa} (hH : aK H id = some (.box [(kB l)])) (hi : i = -1 ∨ 0 ≤ i ∧ i < l.length) :
  LC Tryz.prog 127 [(iQ i), .ptr id 0] H (Is (.p (.int .i64 (bW l i))) H) := by
 refine dA Tryz.func127 Z Z Z ?_;refine zQ<|zR<|yS Z (za Z Z)<|zN<|zT<|zQ<|zQ<|zR<|yS Z (zm Z Z)<|yS Z (aw Z Z Z Z)<|zN<|zT ?_;refine zX Z (fun g1 => ?_)<|fun g1 => ?_
 ·
  refine zQ ?_
  have he : i = -1 := by simpa using g1
  exact zR<|yS Z (za Z Z)<|zN<|zT<|zr<|af<|ap (.one (.tmp Z))<|⟨by simp [bW, he], rfl⟩
 ·
  refine zk<|zT<|zQ ?_
  have hne : i ≠ -1 := by simpa using g1
  obtain ⟨y, hy⟩ := mq (l := l) (i := i.toNat) (by omega)
  have hiy : (l.map au)[i.toNat]? = some (au y) := by simp [hy]
  exact zR<|yS Z (zD Z Z hH ch Z Z)<|yS Z (zm Z Z)<|yS Z (ab.indexAddr Z Z Z cR (by omega) hiy Z)<|yS Z (ab.fieldAddrC Z Z hZ Z)<|yS Z (dj Z Z Z bl Z Z)<|yS Z (za Z Z)<|zN<|zT<|zr<|ap (.one (.tmp Z))<|⟨by simp [bW, hne, hy], rfl⟩
theorem c94 {l : List Bk} : LC Tryz.prog 75 [(kB l)] [] fun x H =>
  (∃ m, places l = some m ∧ x = .tup [.map 1, (bQ true)] ∧ H = [.box [(kB l)], .map (ai cv D8 m)]) ∨ (places l = none ∧ x = .tup [.nilmap, (bQ false)] ∧ H = []) := by
 refine dA Tryz.func75 Z Z Z ?_;refine zQ ?_;refine LW.ok (t := 0) Z<|fun ok => ?_;have hlen := ok.len;simp only [List.length_map, maxLen] at hlen;refine zR<|yS Z (b6 Z Z Z Z Z)<|yS Z (za Z Z)<|yS Z (za Z Z)<|zN<|zT<|zQ<|zR<|yS Z (ab.makeMap Z Z Z)<|yS Z (ab.build Z vq Z Z Z)<|yS Z (ab.setNew (f := cv) (g := D8) (m := []) (a := (0, 0)) (v := -1) dw Z (.inr Z) Z Z Z Z Z iT Z)<|yS Z (zm Z Z)<|yS Z (za Z Z)<|zN<|zT<|zQ<|zR<|yS Z (ab.makeFunc Z Z Z)<|yS Z (za Z Z)<|zN<|zT<|zQ<|zQ<|zR ?_;refine yS Z (zD Z Z Z ch Z Z)<|yS Z (ab.len Z Z (by kernel_rfl))<|yS Z (zm Z Z)<|zN<|zT<|zl ?_;refine LW.loopOf (E := fun x : Nat × List (ID × Int) => [(1, .ptr 0 0), (4, .map 1), (5, .fn 127 [] [.ptr 0 0]), (17, (kB l)), (18, .p (.int .i64 (l.map au).length)), (19, .p (.int .i64 (x.1 : Nat)))]) (O := fun x => [.box [(kB l)], .map (ai cv D8 x.2)]) (G := fun x => x.1 ≤ l.length ∧ ec l (l.drop x.1) x.1 x.2 = places l ∧ ∀ k v, aj x.2 k = some v → v = -1 ∨ 0 ≤ v ∧ v < l.length) (meas := fun x => l.length - x.1) (0, [((0, 0), -1)]) (zW 2 ⟨rfl, rfl, rfl, rfl, rfl, rfl, trivial⟩ Z Z Z (zL Z (zL (ae (fun _ => rfl) _) Z))) ⟨Nat.zero_le _, rfl, fun k v h => by unfold aj aj at h; split at h <;> cases h; exact .inl rfl⟩ (fun x hx => ?_);refine zQ<|zR<|yS Z (aw Z Z Z Z)<|zN<|zT<|zQ ?_;refine zX Z (fun g1 => ?_)<|fun g1 => ?_
 ·
  refine zk<|zT<|zQ<|zl<|zQ ?_
  have hlt : x.1 < l.length := by simpa using g1
  obtain ⟨y, hy⟩ := mq hlt;refine zR<|yS Z (zm Z Z)<|yS Z (ab.indexAddr Z Z Z cR (by omega) (sg hy) Z)<|yS Z (dj Z Z Z bY Z Z)<|yS Z (ze Z qJ Z Z)<|yS Z (za Z Z)<|yS Z (zs Z Z Z Z bY Z Z Z Z)<|zN<|zT<|zQ<|zR<|yS Z (zm Z Z)<|yS Z (zA Z Z j3)<|yS Z (zD Z Z Z aT Z Z) ?_;rcases hp : aj x.2 y.Parent with _ | p
  ·
   refine yS Z ((ab.getMiss dw hp Z Z Z Z iT Cm Z))<|yS Z (zm Z Z)<|yS Z (ed Z Z Z)<|yS Z (ed Z Z Z)<|yS Z (za Z Z)<|yS Z (za Z Z)<|zN<|zT<|zQ<|zQ<|LW.draw2 (by kernel_rfl) (by kernel_rfl)<|yE Z (zm Z Z)<|yE Z (ab.not Z Z)<|yE Z (zm Z Z)<|LO.sk Z Z Z Z Z Z<|LO.sk Z Z Z Z Z Z<|LO.sk Z Z Z Z Z Z<|LO.sk Z Z Z Z Z Z<|LO.sk Z Z Z Z Z Z<|LO.sk Z Z Z Z Z Z<|yE Z (cS Z Z Z)<|LO.nil<|zT<|LW.condT Z ?_;refine zQ<|zR<|yS Z (za Z Z)<|yS Z (za Z Z)<|zN<|zT<|zr<|af<|aq<|af<|af<|aq<|af ?_;refine aX (env' := [(2, .nilmap), (3, (bQ false))]) (H' := []) (zW 0 ⟨rfl, rfl, trivial⟩ Z Z Z Z) (.two (.tmp Z) (.tmp Z))<|.inr ⟨?_, rfl, rfl⟩;rw [← hx.2.1, eE hy]
   first | (simp only [hp]; done) | (simp only [hp]; rw [if_pos (of_decide_eq_true g2)]; done) | (simp only [hp, hq]; split <;> rfl)
  ·
   refine yS Z ((ab.getHit dw hp Z Z Z Z iT Z))<|yS Z (zm Z Z)<|yS Z (ed Z Z Z)<|yS Z (ed Z Z Z)<|yS Z (za Z Z)<|yS Z (za Z Z)<|zN<|zT<|zQ<|zQ<|LW.draw2 (by kernel_rfl) (by kernel_rfl)<|yE Z (zm Z Z)<|yE Z (ab.not Z Z)<|yE Z (zm Z Z)<|LO.gd Z Z Z Z Z (zA Z Z hZ)<|LO.gd Z Z Z Z Z (zD Z Z Z bl Z Z)<|LO.gd Z Z Z Z Z (zm Z Z)<|LO.gd Z Z Z Z Z (zm Z Z)<|LO.gd Z Z Z Z Z (zC Z Z Z (by kernel_rfl) (I5 (id := 0) Z (hx.2.2 _ _ hp)))<|LO.gd Z Z Z Z Z (aw Z Z Z Z)<|yE Z (bN Z Z Z)<|LO.nil<|zT ?_;refine zX Z (fun g2 => ?_)<|fun g2 => ?_
   ·
    refine zQ<|zR<|yS Z (za Z Z)<|yS Z (za Z Z)<|zN<|zT<|zr<|af<|aq<|af<|af<|aq<|af ?_;refine aX (env' := [(2, .nilmap), (3, (bQ false))]) (H' := []) (zW 0 ⟨rfl, rfl, trivial⟩ Z Z Z Z) (.two (.tmp Z) (.tmp Z))<|.inr ⟨?_, rfl, rfl⟩;rw [← hx.2.1, eE hy]
    first | (simp only [hp]; done) | (simp only [hp]; rw [if_pos (of_decide_eq_true g2)]; done) | (simp only [hp, hq]; split <;> rfl)
   ·
    refine zk<|zT<|zQ<|zR<|yS Z (zD Z Z Z bY Z Z)<|yS Z (zC Z Z Z (by kernel_rfl) (zp (EY (b := y)) (.cons zv .nil)))<|yS Z (ze Z kp Z Z)<|yS Z (zs Z Z Z Z aT Z Z Z Z)<|zN<|zT<|zQ<|zQ<|zR<|yS Z (zm Z Z)<|yS Z (zD Z Z Z aT Z Z) ?_;rcases hq : aj x.2 (nm y) with _ | q
    ·
     refine yS Z ((ab.getMiss dw hq Z Z Z Z iT Cm Z))<|yS Z (zm Z Z)<|yS Z (ed Z Z Z)<|yS Z (ed Z Z Z)<|yS Z (za Z Z)<|yS Z (za Z Z)<|zN<|zT<|zQ<|zR<|yS Z (zm Z Z)<|zN<|zT<|LW.condF Z<|zk<|zT<|zR<|yS Z (zm Z Z)<|yS Z (zD Z Z Z aT Z Z)<|yS Z (zm Z Z)<|yS Z (ab.setNew (f := cv) (g := D8) (m := x.2) (a := nm y) (v := ((x.1 : Nat) : Int)) dw hq (.inl Z) Z Z Z Z Z iT Z)<|zN<|ah<|zT ?_;refine zR (yS Z (ab.isEq (y := .p (.int .i64 ((x.1 + 1 : Nat) : Int))) (aw Z Z Z Z) (by rw [eI (by omega) (by omega)]; rfl)) (yS Z (zm Z Z) (zN (zT ?_))));refine ⟨(x.1 + 1, x.2 ++ [(nm y, ((x.1 : Nat) : Int))]), ?_, ?_, zW 2 ⟨rfl, rfl, rfl, rfl, rfl, rfl, trivial⟩ Z Z Z (zL Z (zL (ae (fun _ => rfl) _) Z))⟩
     ·simp only; omega
     ·refine ⟨hlt, ?_, fun k v h => ?_⟩
      ·rw [← hx.2.1, eE hy]; simp only [hp, hq]; rw [if_neg (of_decide_eq_false g2)]
      ·rw [eP] at h;rcases hk : aj x.2 k with _ | u
       ·rw [hk] at h; simp only [Option.none_or] at h; split at h <;> cases h; omega
       ·rw [hk] at h; cases h; exact hx.2.2 k _ hk
    ·
     refine yS Z ((ab.getHit dw hq Z Z Z Z iT Z))<|yS Z (zm Z Z)<|yS Z (ed Z Z Z)<|yS Z (ed Z Z Z)<|yS Z (za Z Z)<|yS Z (za Z Z)<|zN<|zT<|zQ<|zR<|yS Z (zm Z Z)<|zN<|zT<|LW.condT Z<|zQ<|zR<|yS Z (za Z Z)<|yS Z (za Z Z)<|zN<|zT<|zr<|af<|aq<|af ?_;refine af<|aq<|af ?_;refine aX (env' := [(2, .nilmap), (3, (bQ false))]) (H' := []) (zW 0 ⟨rfl, rfl, trivial⟩ Z Z Z Z) (.two (.tmp Z) (.tmp Z))<|.inr ⟨?_, rfl, rfl⟩;rw [← hx.2.1, eE hy]
     first | (simp only [hp]; done) | (simp only [hp]; rw [if_pos (of_decide_eq_true g2)]; done) | (simp only [hp, hq]; split <;> rfl)
 ·
  refine zq<|ao<|ao<|zy<|zT<|zQ ?_
  have hnlt : ¬ x.1 < l.length := by simpa using g1
  have hend : x.1 = l.length := by omega
  refine zR<|yS Z (zm Z Z)<|yS Z (za Z Z)<|yS Z (za Z Z)<|zN<|zT<|zr ?_;refine aX (env' := [(2, .map 1), (3, (bQ true))]) (H' := [.box [(kB l)], .map (ai cv D8 x.2)]) (zW 2 ⟨rfl, rfl, trivial⟩ Z Z Z (zL Z (zL (ae (fun _ => rfl) _) Z))) (.two (.tmp Z) (.tmp Z))<|.inl ⟨x.2, ?_, rfl, rfl⟩;rw [← hx.2.1, hend, List.drop_length]; rfl
structure xV (l : List Bk) (m : List (ID × Int)) (n : Nat) : Prop where
 zero : aj m (0, 0) = some (-1)
 known : ∀ k i, aj m k = some i → (i = -1 ∧ k = (0, 0)) ∨ ∃ b p, 0 ≤ i ∧ i < n ∧ l[i.toNat]? = some b ∧ nm b = k ∧ aj m b.Parent = some p ∧ p < i ∧ -1 ≤ p ∧ bW l p < b.Slot
 names : ∀ i b, i < n → l[i]? = some b → aj m (nm b) = some (i : Int)
theorem xV.step {l : List Bk} {m : List (ID × Int)} {n : Nat} {y : Bk} {p : Int} (h : xV l m n) (hy : l[n]? = some y) (hp : aj m y.Parent = some p) (hs : ¬ y.Slot ≤ bW l p) (hq : aj m (nm y) = none) :
  xV l (m ++ [(nm y, (n : Int))]) (n + 1) := by
 have old : ∀ k i, aj m k = some i → aj (m ++ [(nm y, (n : Int))]) k = some i := fun k i hk => by rw [eP, hk]; rfl
 refine ⟨old _ _ h.zero, fun k i hk => ?_, fun i b hi hb => ?_⟩
 ·rw [eP] at hk;rcases hm : aj m k with _ | j
  ·rw [hm] at hk;simp only [Option.none_or] at hk;split at hk
   ·rename_i e;cases hk;right;refine ⟨y, p, by omega, by omega, by simpa using hy, e, old _ _ hp, ?_, ?_, by omega⟩
    ·rcases h.known _ _ hp with ⟨h1, -⟩ | ⟨b, q, h1, h2, -⟩ <;> omega
    ·rcases h.known _ _ hp with ⟨h1, -⟩ | ⟨b, q, h1, h2, -⟩ <;> omega
   ·cases hk
  ·rw [hm] at hk;cases hk;rcases h.known _ _ hm with h1 | ⟨b, q, h1, h2, h3, h4, h5, h6, h7, h8⟩
   ·exact .inl h1
   ·exact .inr ⟨b, q, h1, by omega, h3, h4, old _ _ h5, h6, h7, h8⟩
 ·rcases Nat.lt_succ_iff_lt_or_eq.1 hi with hi | hi
  ·exact old _ _<|h.names i b hi hb
  ·subst hi;rw [hy] at hb; cases hb;rw [eP, hq]; simp
theorem mz {l : List Bk} : ∀ (r : List Bk) (i : Nat) (m m' : List (ID × Int)), r = l.drop i → i ≤ l.length → xV l m i → ec l r i m = some m' → xV l m' l.length
 | [], i, m, m', hr, hi, h, hg => by
  cases hg
  have : l.length ≤ i := by
   have := congrArg List.length hr;simp at this; omega
  rw [show l.length = i by omega]; exact h
 | y :: r, i, m, m', hr, hi, h, hg => by
  have hil : i < l.length := by
   have := congrArg List.length hr;simp at this; omega
  have hd := List.drop_eq_getElem_cons hil;rw [hd, List.cons.injEq] at hr;obtain ⟨rfl, rfl⟩ := hr;unfold ec at hg;split at hg
  ·cases hg
  ·rename_i p hp;split at hg
   ·cases hg
   ·rename_i hs;split at hg
    ·cases hg
    ·rename_i hq;exact mz _ (i + 1) _ m' Z (by omega) (h.step (List.getElem?_eq_getElem hil) hp hs hq) hg
theorem uA {l : List Bk} : ∀ (k : ID) (i : Int), aj [(((0, 0) : ID), (-1 : Int))] k = some i → (i = -1 ∧ k = (0, 0)) ∨ ∃ b p, 0 ≤ i ∧ i < (0 : Nat) ∧ l[i.toNat]? = some b ∧ nm b = k ∧ aj [(((0, 0) : ID), (-1 : Int))] b.Parent = some p ∧ p < i ∧ -1 ≤ p ∧ bW l p < b.Slot := by
 intro k i hk;unfold aj aj at hk;split at hk
 ·rename_i e; cases hk; exact .inl ⟨rfl, e.symm⟩
 ·cases hk
theorem bh {l : List Bk} {m : List (ID × Int)} (h : places l = some m) : xV l m l.length :=
 mz l 0 _ m rfl (Nat.zero_le _) ⟨rfl, uA, fun i b hi => by omega⟩ h
def ey (l : List Bk) : Nat → ID → Int → List ID
 | 0, id, _ => [id]
 | n + 1, id, i => if i = -1 then [id] else match l[i.toNat]? with
  | none => [id]
  | some b => match places l with
   | none => [id]
   | some m => match aj m b.Parent with
    | none => [id]
    | some p => id :: ey l n b.Parent p
def bd (l : List Bk) (id : ID) : List ID := match places l with
 | none => []
 | some m => match aj m id with
  | none => []
  | some i => ey l (i + 1).toNat id i
theorem tB {l : List Bk} {m : List (ID × Int)} (hpl : places l = some m) : ∀ (n : Nat) (k : Nat) (id : ID) (i : Int), i + 1 ≤ n → n ≤ k → aj m id = some i → ey l k id i = ey l n id i := by
 intro n
 induction n with
 | zero =>
  intro k id i hi hk hf
  have : i = -1 := by
   rcases (bh hpl).known _ _ hf with ⟨h, -⟩ | ⟨_, _, h, -⟩ <;> omega
  cases k with
  | zero => rfl
  | succ k => simp [ey, this]
 | succ n ih =>
  intro k id i hi hk hf;obtain ⟨k, rfl⟩ : ∃ j, k = j + 1 := ⟨k - 1, by omega⟩;rcases (bh hpl).known _ _ hf with ⟨h, -⟩ | ⟨b, p, h0, h1, h2, h3, h4, h5, h6, h7⟩
  ·simp [ey, h]
  ·simp only [ey, if_neg (show i ≠ -1 by omega), h2, hpl, h4];rw [ih k b.Parent p (by omega) (by omega) h4]
theorem nR {l : List Bk} {m : List (ID × Int)} {id : ID} {i p : Int} {b : Bk} (hpl : places l = some m) (hne : i ≠ -1) (h0 : 0 ≤ i) (hb : l[i.toNat]? = some b) (hp : aj m b.Parent = some p) (hpi : p < i) (hp1 : -1 ≤ p) :
  ey l (i + 1).toNat id i = id :: ey l (p + 1).toNat b.Parent p := by
 obtain ⟨n, hn⟩ : ∃ n, (i + 1).toNat = n + 1 := ⟨i.toNat, by omega⟩;rw [hn];simp only [ey, if_neg hne, hb, hpl, hp];rw [tB hpl (p + 1).toNat n b.Parent p (by omega) (by omega) hp]
theorem um {α : Type} {f : α → PV} {l : List α} {i : Int} {a : α} (h : l[i.toNat]? = some a) : (l.map f)[i.toNat]? = some (f a) := by
 simp [h]
theorem Conv.zs' {H : List aa} {m : Nat} {xs : List PV} (h : xs = []) : Conv true H .zs (.slice m xs) := by subst h; exact Conv.zs
theorem Conv.vecAll' {H : List aa} {m id n len : Nat} {xs ys : List PV} (hH : H[id]? = some (.vec m xs)) (hn : n = xs.length) (hl : len = xs.length) (h : ys = xs) : Conv true H (.vec m id n 0 len) (.slice m ys) := by
 subst h; exact Conv.vecAll hH hn hl
open Go.Proofs
theorem E1 {l : List Bk} {H : List aa} (h : places l = none) : LC Tryz.prog 75 [(kB l)] H (Is (.tup [.nilmap, (bQ false)]) H) := by
 have h0 : LC Tryz.prog 75 ([PV.slice 5 (l.map au)].map .p) [] (Is (.tup [.nilmap, (bQ false)]) []) := c94.mono fun x H hx => by
  rcases hx with ⟨m, hm, -⟩ | ⟨-, h1, h2⟩
  ·rw [h] at hm; cases hm
  ·exact ⟨h1, h2⟩
 have := LC.frame (H := H) (d := H.length) h0 (.cons Conv.p .nil) (by rw [Dt]);simpa [LV.shift, LV.shifts] using this
theorem E2 {l : List Bk} {m : List (ID × Int)} {H H1 H2 : List aa} {d : Nat} (h : places l = some m) (hd : cE H = some d) (h1 : gK H (.box [(kB l)]) = some H1) (h2 : gK H1 (.map (ai cv D8 m)) = some H2) :
  LC Tryz.prog 75 [(kB l)] H (Is (.tup [.map (d + 1), (bQ true)]) H2) := by
 have h0 : LC Tryz.prog 75 ([PV.slice 5 (l.map au)].map .p) [] (Is (.tup [.map 1, (bQ true)]) [.box [(kB l)], .map (ai cv D8 m)]) := c94.mono fun x H hx => by
  rcases hx with ⟨m', hm, h1, h2⟩ | ⟨h1, -⟩
  ·rw [h] at hm; cases hm; exact ⟨h1, h2⟩
  ·rw [h] at h1; cases h1
 have := LC.frame (H := H) (d := d) h0 (.cons Conv.p .nil) hd;have e1 := cT h1;have e2 := cT h2;subst e1; subst e2;simpa [LV.shift, LV.shifts, aa.shift, ai, List.append_assoc, Function.comp_def] using this
theorem Jl {l : List Bk} {id : ID} (hpl : places l = none) : az Tryz.prog 60 [.slice 5 (l.map au), cv id] [.slice 2 ((bd l id).map cv)] := by
 refine zh Tryz.func60 Z Z Z Z ?_;refine zQ<|zR<|yS Z (b6 Z Z Z Z Z)<|yS Z (za Z Z)<|zN<|zT<|LW.scope<|zQ<|zR<|yS Z (zm Z Z)<|yS Z ((zC Z Z Z (by kernel_rfl) (E1 hpl)))<|yS Z (zm Z Z)<|yS Z (ed Z Z Z)<|yS Z (ed Z Z Z)<|yS Z (za Z Z)<|yS Z (za Z Z)<|zN<|zT<|zQ<|zQ<|zR<|yS Z (zm Z Z)<|yS Z (zD Z Z Z aT Z Z)<|yS Z ((ab.getNil dw Z Z Z iT Cm Z)) ?_;exact yS Z (zm Z Z)<|yS Z (ed Z Z Z)<|yS Z (ed Z Z Z)<|yS Z (za Z Z)<|yS Z (za Z Z)<|zN<|zT<|zQ<|zR<|yS Z (zm Z Z)<|yS Z (ab.not Z Z)<|zN<|zT<|LW.condT Z<|zQ<|zR<|yS Z (za Z Z)<|zN<|zT<|zr<|af<|BL<|zf (.one (.tmp Z))<|Conv.zs' (by simp [bd, hpl])
theorem Jm {l : List Bk} {id : ID} {m : List (ID × Int)} (hl : l.length ≤ 1000) (hpl : places l = some m) : az Tryz.prog 60 [.slice 5 (l.map au), cv id] [.slice 2 ((bd l id).map cv)] := by
 refine zh Tryz.func60 Z Z Z Z ?_;refine zQ<|zR<|yS Z (b6 Z Z Z Z Z)<|yS Z (za Z Z)<|zN<|zT ?_;refine LW.jumpsOf (l := 0) (E := fun x : List ID × ID × Int => [(0, (kB l)), (3, .ptr 0 0), (5, .map 2), (9, .vec 2 3 (x.1.map cv).length 0 (x.1.map cv).length)]) (O := fun x => [.box [(uQ x.2.1.1), (uQ x.2.1.2)], .box [(kB l)], .map (ai cv D8 m), .vec 2 (x.1.map cv)]) (G := fun x => aj m x.2.1 = some x.2.2 ∧ x.1.length + (x.2.2 + 1).toNat ≤ 1001 ∧ bd l id = x.1 ++ ey l (x.2.2 + 1).toNat x.2.1 x.2.2) (meas := fun x => (x.2.2 + 1).toNat) Z ?_<|fun x hx => ?_
 ·
  refine zQ<|zR<|yS Z (zm Z Z)<|yS Z ((zC Z Z Z (by kernel_rfl) (E2 hpl Z Z Z)))<|yS Z (zm Z Z)<|yS Z (ed Z Z Z)<|yS Z (ed Z Z Z)<|yS Z (za Z Z)<|yS Z (za Z Z)<|zN<|zT<|zQ<|zQ<|zR<|yS Z (zm Z Z)<|yS Z (zD Z Z Z aT Z Z) ?_;rcases hf : aj m id with _ | i
  ·
   refine yS Z ((ab.getMiss dw hf Z Z Z Z iT Cm Z))<|yS Z (zm Z Z)<|yS Z (ed Z Z Z)<|yS Z (ed Z Z Z)<|yS Z (za Z Z)<|yS Z (za Z Z)<|zN<|zT<|zQ<|zR<|yS Z (zm Z Z)<|yS Z (ab.not Z Z)<|zN<|zT<|LW.condT Z<|zQ<|zR<|yS Z (za Z Z)<|zN<|zT<|zr<|af<|ue<|zf (.one (.tmp Z)) ?_;refine Conv.zs' ?_;simp [bd, hpl, hf]
  ·
   refine yS Z ((ab.getHit dw hf Z Z Z Z iT Z))<|yS Z (zm Z Z)<|yS Z (ed Z Z Z)<|yS Z (ed Z Z Z)<|yS Z (za Z Z)<|yS Z (za Z Z)<|zN<|zT<|zQ<|zR<|yS Z (zm Z Z)<|yS Z (ab.not Z Z)<|zN<|zT<|LW.condF Z<|zk<|zT<|zQ<|zR<|yS Z (za Z Z)<|zN<|zT<|zQ<|LW.label ?_;refine zT<|zQ<|zR<|yS Z (zm Z Z)<|yS Z (zD Z Z Z aT Z Z)<|yS Z (lY Z qe Z Z Z Z Z)<|yS Z (ab.appendZ Z Z Z Z kQ.p qe (by simp only [List.length_singleton]; omega) Z)<|yS Z (za Z Z)<|zN<|zT<|zQ<|zQ<|zR<|yS Z (zm Z Z)<|yS Z (zD Z Z Z aT Z Z)<|yS Z ((ab.getHit dw hf Z Z Z Z iT Z))<|yS Z (za Z Z)<|zN<|zT<|zQ<|zR<|yS Z (zm Z Z)<|yS Z (aw Z Z Z Z)<|zN ?_;refine zT ?_;refine zX Z (fun g1 => ?_)<|fun g1 => ?_
   ·
    refine zQ ?_
    have hne : i ≠ -1 := by simpa using g1
    obtain ⟨h1, -⟩ | ⟨b, p, h0, hlt, hb, hnb, hp, hpi, hp1, hs⟩ := (bh hpl).known _ _ hf
    ·exact absurd h1 hne
    have hc : bd l id = id :: ey l (p + 1).toNat b.Parent p := by
     simp only [bd, hpl, hf];exact nR hpl hne h0 hb hp hpi hp1
    refine zR<|yS Z (zm Z Z)<|yS Z (zm Z Z)<|yS Z (ab.indexAddr Z Z Z cR (by omega) (um hb) Z)<|yS Z (ab.fieldAddrC Z Z j3 Z)<|yS Z (dj Z Z Z aT Z Z)<|yS Z (zs Z Z Z Z aT Z Z Z Z)<|zN<|zT<|LW.goto<|Eg<|Bv ?_;refine ⟨([id], b.Parent, p), ?_, zW 4 ⟨rfl, rfl, rfl, rfl, trivial⟩ Z Z Z (zL Z (zL Z (zL (ae (fun _ => rfl) _) Z)))⟩
    ·exact ⟨hp, by simp only [List.length_singleton]; omega, hc⟩
   ·
    refine zk<|zT<|zQ ?_
    have hend : i = -1 := by simpa using g1
    refine zR<|yS Z (zm Z Z)<|yS Z (za Z Z)<|zN<|zT<|zr<|ue<|zf (.one (.tmp Z))<|Conv.vecAll' Z Z Z ?_;rw [show bd l id = [id] by simp only [bd, hpl, hf, hend]; rfl]; rfl
 ·
  refine zQ<|zk<|zT<|zQ<|zR<|yS Z (zm Z Z)<|yS Z (zD Z Z Z aT Z Z)<|yS Z (lY Z qe Z Z Z Z Z)<|yS Z (ab.appendM (f := cv) (xs := x.1) (ys := [x.2.1]) Z Z Z Z Z qe (by simp only [List.length_singleton]; omega) Z)<|yS Z (za Z Z)<|zN<|zT<|zQ<|zQ<|zR<|yS Z (zm Z Z)<|yS Z (zD Z Z Z aT Z Z)<|yS Z ((ab.getHit dw hx.1 Z Z Z Z iT Z))<|yS Z (za Z Z)<|zN<|zT<|zQ<|zR<|yS Z (zm Z Z) ?_;refine yS Z (aw Z Z Z Z)<|zN<|zT ?_;refine zX Z (fun g2 => ?_)<|fun g2 => ?_
  ·
   refine zQ ?_
   have hne : x.2.2 ≠ -1 := by simpa using g2
   obtain ⟨h1, -⟩ | ⟨b, p, h0, hlt, hb, hnb, hp, hpi, hp1, hs⟩ := (bh hpl).known _ _ hx.1
   ·exact absurd h1 hne
   have hc := nR (id := x.2.1) hpl hne h0 hb hp hpi hp1;refine zR<|yS Z (zm Z Z)<|yS Z (zm Z Z)<|yS Z (ab.indexAddr Z Z Z cR (by omega) (um hb) Z)<|yS Z (ab.fieldAddrC Z Z j3 Z)<|yS Z (dj Z Z Z aT Z Z)<|yS Z (zs Z Z Z Z aT Z Z Z Z)<|zN<|zT<|LW.goto<|Eg<|Bv ?_;refine ⟨(x.1 ++ [x.2.1], b.Parent, p), ?_, ?_, zW 4 ⟨rfl, rfl, rfl, rfl, trivial⟩ Z Z Z (zL Z (zL Z (zL (ae (fun _ => rfl) _) Z)))⟩
   ·simp only; omega
   ·refine ⟨hp, ?_, ?_⟩
    ·have := hx.2.1; simp only [List.length_append, List.length_singleton]; omega
    ·rw [hx.2.2, hc, List.append_assoc]; rfl
  ·
   refine zk<|zT<|zQ ?_
   have hend : x.2.2 = -1 := by simpa using g2
   refine zR<|yS Z (zm Z Z)<|yS Z (za Z Z)<|zN<|zT<|zr<|ue<|zf (.one (.tmp Z))<|Conv.vecAll' Z Z Z ?_;rw [hx.2.2, hend]; rfl
theorem Jk {l : List Bk} {id : ID} (hl : l.length ≤ 1000) : az Tryz.prog 60 [.slice 5 (l.map au), cv id] [.slice 2 ((bd l id).map cv)] := by
 rcases hpl : places l with _ | m
 ·exact Jl hpl
 ·exact Jm hl hpl
open Go.Proofs
def ez (c : Cu) (l : List Bk) (head found : ID) (is : Bool) (slot : Int) : Cu :=
 let c' : Cu := if aZ (bd l head) c.ID < 0 then ⟨(0, 0), slot, IntKind.i64.wrap (c.Revoked + 1)⟩ else c
 let at_ : Int := if aZ (bd l head) c.ID < 0 then IntKind.i64.wrap ((bd l head).length - 1) else aZ (bd l head) c.ID
 if is = true ∧ aZ (bd l head) found ≥ 0 ∧ aZ (bd l head) found < at_ then ⟨found, slot, c'.Revoked⟩ else c'
theorem JP {c : Cu} {l : List Bk} {head found : ID} {is : Bool} {slot : Int} (hl : l.length ≤ 1000) : az Tryz.prog 140 [qE c, .slice 5 (l.map au), cv head, cv found, .bool is, .int .i64 slot] [qE (ez c l head found is slot)] := by
 refine zh Tryz.func140 Z Z Z Z ?_;refine LW.seq<|LW.region<|am.st Z Z Z (ab.box Z Z Z Z Z)<|am.st Z Z Z (ab.box Z Z Z Z Z)<|am.st Z Z Z (ab.box Z Z Z Z Z)<|am.st Z Z Z (ab.alloc Z JA Z Z)<|am.nil<|bz<|LW.seq<|LW.region<|am.st Z Z Z (ab.move Z Z)<|am.st Z Z Z (ab.load Z Z Z aT Z Z)<|am.st Z Z Z (ab.call Z Z Z (by kernel_rfl) (LC.pure (Jk hl) (.cons Conv.p (.cons Conv.p .nil))))<|am.st Z Z Z (ab.assign Z Z)<|am.nil<|bz<|LW.seq<|LW.region<|am.st Z Z Z (ab.move Z Z)<|am.st Z Z Z (ab.fieldAddr Z Z sb)<|am.st Z Z Z (ab.load Z Z Z aT Z Z)<|am.st Z Z Z (ab.call Z Z Z (by kernel_rfl) (LC.pure IF (.cons Conv.p (.cons Conv.p .nil))))<|am.st Z Z Z (ab.assign Z Z)<|am.nil ?_;refine bz<|LW.seq<|LW.block<|LW.seq<|LW.block<|LW.seq<|LW.block<|LW.seq<|LW.seq<|LW.region<|am.st Z Z Z (ab.move Z Z)<|am.st Z Z Z (ab.bin Z Z Z Z)<|am.st Z Z Z (ab.assign Z Z)<|am.nil<|bz ?_;refine LW.cond Z (fun g1 => ?_)<|fun g1 => ?_
 ·
  refine LW.exit<|ao<|lH<|bz<|LW.seq<|LW.region<|am.st Z Z Z (ab.move Z Z)<|am.st Z Z Z (ab.fieldAddr Z Z Fq)<|am.st Z Z Z (ab.load Z Z Z bl Z Z)<|am.st Z Z Z (ab.bin Z Z Z Z)<|am.st Z Z Z (ab.build Z IQ Z Z Z)<|am.st Z Z Z (ab.store Z Z Z Z ik Z Z Z Z)<|am.nil<|bz<|LW.region<|am.st Z Z Z (ab.move Z Z)<|am.st Z Z Z (ab.len Z Z (by kernel_rfl))<|am.st Z Z Z (ab.bin Z Z Z Z)<|am.st Z Z Z (ab.assign Z Z)<|am.nil<|ah<|bz<|LW.seq<|LW.seq ?_;refine LW.region<|am.st Z Z Z (ab.move Z Z)<|am.st Z Z Z (ab.load Z Z Z aT Z Z)<|am.st Z Z Z (ab.call Z Z Z (by kernel_rfl) (LC.pure IF (.cons Conv.p (.cons Conv.p .nil))))<|am.st Z Z Z (ab.assign Z Z)<|am.nil<|bz<|LW.seq<|LW.region<|am.st Z Z Z (ab.move Z Z)<|am.st Z Z Z (ab.move Z Z) ?_;refine zc 38 Z (fun g2 => ?_)<|fun g2 => ?_
  ·
   refine am.gd Z Z Z (gd g2 Z) Z (ab.move Z Z)<|am.gd Z Z Z (gd g2 Z) Z (ab.bin Z Z Z Z)<|am.st Z Z Z (ab.pickT Z (a8 g2 Z) Z)<|am.st Z Z Z (ab.move Z Z) ?_;refine zc 42 Z (fun g3 => ?_)<|fun g3 => ?_
   ·
    refine am.gd Z Z Z (gd g3 Z) Z (ab.move Z Z)<|am.gd Z Z Z (gd g3 Z) Z (ab.move Z Z)<|am.gd Z Z Z (gd g3 Z) Z (ab.bin Z Z Z Z)<|am.st Z Z Z (ab.pickT Z (a8 g3 Z) Z)<|am.nil<|bz ?_;refine LW.cond Z (fun g4 => ?_)<|fun g4 => ?_
    ·
     refine LW.region<|am.st Z Z Z (ab.load Z Z Z aT Z Z)<|am.st Z Z Z (zm Z Z)<|am.st Z Z Z (ab.fieldAddr Z Z sb)<|am.st Z Z Z (zs Z Z Z Z aT Z Z Z Z)<|am.st Z Z Z (ab.fieldAddr Z Z Bj)<|am.st Z Z Z (zs Z Z Z Z bl Z Z Z Z)<|am.nil<|bz<|zq<|zy<|bz<|LW.seq<|LW.region<|am.st Z Z Z (ab.load Z Z Z ik Z Z)<|am.st Z Z Z (zs Z Z Z Z ik Z Z Z Z)<|am.nil<|bz<|zr<|zf (.one (.cellAgg Z Z (by kernel_rfl) Z))<|Conv.pe ?_;simp only [decide_eq_true_eq, List.length_map] at g1 g2 g3 g4;simp only [ez, qE]
     (repeat' split) <;> first | rfl | (exfalso; simp_all; done) | (exfalso; simp_all; omega)
    ·
     refine zk<|bz<|zq<|zy<|bz<|LW.seq<|LW.region<|am.st Z Z Z (ab.load Z Z Z ik Z Z)<|am.st Z Z Z (zs Z Z Z Z ik Z Z Z Z)<|am.nil<|bz<|zr<|zf (.one (.cellAgg Z Z (by kernel_rfl) Z))<|Conv.pe ?_;simp only [decide_eq_true_eq, decide_eq_false_iff_not, List.length_map] at g1 g2 g3 g4;simp only [ez, qE]
     (repeat' split) <;> first | rfl | (exfalso; simp_all; done) | (exfalso; simp_all; omega)
   ·
    refine am.sk Z Z Z (gd g3 Z) Z Z<|am.sk Z Z Z (gd g3 Z) Z Z<|am.sk Z Z Z (gd g3 Z) Z Z<|am.st Z Z Z (bN Z (a8 g3 Z) Z)<|am.nil<|bz<|LW.condF Z<|zk<|bz<|zq<|zy<|bz<|LW.seq<|LW.region<|am.st Z Z Z (ab.load Z Z Z ik Z Z)<|am.st Z Z Z (zs Z Z Z Z ik Z Z Z Z)<|am.nil<|bz<|zr<|zf (.one (.cellAgg Z Z (by kernel_rfl) Z))<|Conv.pe ?_;simp only [decide_eq_true_eq, decide_eq_false_iff_not] at g1 g2 g3;simp only [ez, qE]
    (repeat' split) <;> first | rfl | (exfalso; simp_all; done) | (exfalso; simp_all; omega)
  ·
   refine am.sk Z Z Z (gd g2 Z) Z Z<|am.sk Z Z Z (gd g2 Z) Z Z<|am.st Z Z Z (bN Z (a8 g2 Z) Z)<|am.st Z Z Z (zm Z Z)<|am.sk Z Z Z Z Z Z<|am.sk Z Z Z Z Z Z<|am.sk Z Z Z Z Z Z<|am.st Z Z Z (bN Z Z Z)<|am.nil<|bz<|LW.condF Z<|zk<|bz<|zq<|zy<|bz<|LW.seq<|LW.region<|am.st Z Z Z (ab.load Z Z Z ik Z Z)<|am.st Z Z Z (zs Z Z Z Z ik Z Z Z Z)<|am.nil<|bz<|zr<|zf (.one (.cellAgg Z Z (by kernel_rfl) Z)) ?_;refine Conv.pe ?_;simp only [decide_eq_true_eq] at g1 g2;simp only [ez, qE]
   (repeat' split) <;> first | rfl | (exfalso; simp_all; done) | (exfalso; simp_all; omega)
 ·
  refine LW.skip<|bz<|LW.exit<|nW (by decide)<|ao<|lH<|bz<|LW.seq<|LW.seq<|LW.region<|am.st Z Z Z (ab.move Z Z)<|am.st Z Z Z (ab.load Z Z Z aT Z Z)<|am.st Z Z Z (ab.call Z Z Z (by kernel_rfl) (LC.pure IF (.cons Conv.p (.cons Conv.p .nil))))<|am.st Z Z Z (ab.assign Z Z)<|am.nil<|bz<|LW.seq<|LW.region<|am.st Z Z Z (ab.move Z Z)<|am.st Z Z Z (ab.move Z Z) ?_;refine zc 38 Z (fun g5 => ?_)<|fun g5 => ?_
  ·
   refine am.gd Z Z Z (gd g5 Z) Z (ab.move Z Z)<|am.gd Z Z Z (gd g5 Z) Z (ab.bin Z Z Z Z)<|am.st Z Z Z (ab.pickT Z (a8 g5 Z) Z)<|am.st Z Z Z (ab.move Z Z) ?_;refine zc 42 Z (fun g6 => ?_)<|fun g6 => ?_
   ·
    refine am.gd Z Z Z (gd g6 Z) Z (ab.move Z Z)<|am.gd Z Z Z (gd g6 Z) Z (ab.move Z Z)<|am.gd Z Z Z (gd g6 Z) Z (ab.bin Z Z Z Z)<|am.st Z Z Z (ab.pickT Z (a8 g6 Z) Z)<|am.nil<|bz ?_;refine LW.cond Z (fun g7 => ?_)<|fun g7 => ?_
    ·
     refine LW.region<|am.st Z Z Z (ab.load Z Z Z aT Z Z)<|am.st Z Z Z (zm Z Z)<|am.st Z Z Z (ab.fieldAddr Z Z sb)<|am.st Z Z Z (zs Z Z Z Z aT Z Z Z Z)<|am.st Z Z Z (ab.fieldAddr Z Z Bj)<|am.st Z Z Z (zs Z Z Z Z bl Z Z Z Z)<|am.nil<|bz<|zq<|zy<|bz<|LW.seq<|LW.region<|am.st Z Z Z (ab.load Z Z Z ik Z Z)<|am.st Z Z Z (zs Z Z Z Z ik Z Z Z Z)<|am.nil<|bz<|zr<|zf (.one (.cellAgg Z Z (by kernel_rfl) Z))<|Conv.pe ?_;simp only [decide_eq_true_eq, decide_eq_false_iff_not] at g1 g5 g6 g7;simp only [ez, qE]
     (repeat' split) <;> first | rfl | (exfalso; simp_all; done) | (exfalso; simp_all; omega)
    ·
     refine zk<|bz<|zq<|zy<|bz<|LW.seq<|LW.region<|am.st Z Z Z (ab.load Z Z Z ik Z Z)<|am.st Z Z Z (zs Z Z Z Z ik Z Z Z Z)<|am.nil<|bz<|zr<|zf (.one (.cellAgg Z Z (by kernel_rfl) Z))<|Conv.pe ?_;simp only [decide_eq_true_eq, decide_eq_false_iff_not] at g1 g5 g6 g7;simp only [ez, qE]
     (repeat' split) <;> first | rfl | (exfalso; simp_all; done) | (exfalso; simp_all; omega)
   ·
    refine am.sk Z Z Z (gd g6 Z) Z Z<|am.sk Z Z Z (gd g6 Z) Z Z<|am.sk Z Z Z (gd g6 Z) Z Z<|am.st Z Z Z (bN Z (a8 g6 Z) Z)<|am.nil<|bz<|LW.condF Z<|zk<|bz<|zq<|zy<|bz<|LW.seq<|LW.region<|am.st Z Z Z (ab.load Z Z Z ik Z Z)<|am.st Z Z Z (zs Z Z Z Z ik Z Z Z Z)<|am.nil<|bz<|zr<|zf (.one (.cellAgg Z Z (by kernel_rfl) Z))<|Conv.pe ?_;simp only [decide_eq_false_iff_not] at g1 g5 g6;simp only [ez, qE]
    (repeat' split) <;> first | rfl | (exfalso; simp_all; done) | (exfalso; simp_all; omega)
  ·
   refine am.sk Z Z Z (gd g5 Z) Z Z<|am.sk Z Z Z (gd g5 Z) Z Z<|am.st Z Z Z (bN Z (a8 g5 Z) Z)<|am.st Z Z Z (zm Z Z)<|am.sk Z Z Z Z Z Z<|am.sk Z Z Z Z Z Z<|am.sk Z Z Z Z Z Z<|am.st Z Z Z (bN Z Z Z)<|am.nil<|bz<|LW.condF Z<|zk<|bz<|zq<|zy<|bz<|LW.seq<|LW.region<|am.st Z Z Z (ab.load Z Z Z ik Z Z)<|am.st Z Z Z (zs Z Z Z Z ik Z Z Z Z)<|am.nil<|bz<|zr<|zf (.one (.cellAgg Z Z (by kernel_rfl) Z)) ?_;refine Conv.pe ?_;simp only [decide_eq_false_iff_not] at g1 g5;simp only [ez, qE]
   (repeat' split) <;> first | rfl | (exfalso; simp_all; done) | (exfalso; simp_all; omega)
theorem lJ {l : List ID} {v : ID} : aZ l v = -1 ∧ v ∉ l ∨ ∃ i : Nat, aZ l v = i ∧ l[i]? = some v ∧ ∀ j, j < i → l[j]? ≠ some v := by
 unfold aZ
 cases h : l.findIdx? (fun x => decide (v = x)) with
 | none =>
  left;rw [List.findIdx?_eq_none_iff] at h;exact ⟨rfl, fun hm => by simpa using h v hm⟩
 | some i =>
  right;rw [List.findIdx?_eq_some_iff_getElem] at h;obtain ⟨hi, h1, h2⟩ := h;refine ⟨i, rfl, by rw [List.getElem?_eq_getElem hi]; simpa using (of_decide_eq_true h1).symm, fun j hj hc => ?_⟩;have := h2 j hj;rw [List.getElem?_eq_getElem (by omega)] at hc;simp at hc this;exact this hc.symm
theorem nX {l : List ID} {v : ID} : 0 ≤ aZ l v ↔ v ∈ l := by
 rcases lJ (l := l) (v := v) with ⟨h1, h2⟩ | ⟨i, h1, h2, h3⟩
 ·rw [h1]; constructor
  ·intro h; omega
  ·intro h; exact absurd h h2
 ·rw [h1]; exact ⟨fun _ => List.mem_of_getElem? h2, fun _ => by omega⟩
section
variable {l : List Bk} {m : List (ID × Int)}
theorem vu (n : Nat) : ∀ (id : ID) (i : Int), (ey l n id i).length ≤ n + 1 := by
 induction n with
 | zero => intro id i; simp [ey]
 | succ n ih =>
  intro id i;simp only [ey];split
  ·simp
  ·split
   ·simp
   ·split
    ·simp
    ·split
     ·simp
     ·simp; exact ih _ _
theorem x7 (id : ID) : (bd l id).length ≤ l.length + 1 := by
 unfold bd;split
 ·simp
 ·rename_i m hpl;split
  ·simp
  ·rename_i i hf;have := vu (l := l) (i + 1).toNat id i;rcases (bh hpl).known _ _ hf with ⟨h, h'⟩ | ⟨b, p, h0, h1, h2, h3, h4, h5, h6, h7⟩
   ·rw [h] at this ⊢; simp at this ⊢; omega
   ·omega
end
theorem HD {k : IntKind} {p : PV} (h : oz (.int k) p) : ∃ n, p = .int k n ∧ aU k n := by
 cases h with | int h => exact ⟨_, rfl, h⟩
open Go.Proofs
theorem ux {α : Type} : ∀ {l s : List α} {i : Nat} {y : α}, aR l i y = some s → aK s i = some y
 | x :: r, s, 0, y, h => by cases h; rfl
 | x :: r, s, i + 1, y, h => by
  simp only [aR] at h;split at h
  ·rename_i q hq;cases h;show aK q i = some y;exact ux hq
  ·cases h
 | [], s, 0, y, h => by cases h
 | [], s, i + 1, y, h => by cases h
theorem Ia : (Tryz.f166.name == "runtime.NumGoroutine") = false := by kernel_rfl
theorem Ii : Extern.findNext Tryz.f166 = none := by kernel_rfl
theorem HX : Extern.find Tryz.f166 = some (Extern.Atomic.loadT (.int .i64)) := by kernel_rfl
theorem Ib : (Tryz.f201.name == "runtime.NumGoroutine") = false := by kernel_rfl
theorem Ij : Extern.findNext Tryz.f201 = none := by kernel_rfl
theorem HY : Extern.find Tryz.f201 = some (Extern.Atomic.update (Op.intArith .add) .i64 true) := by kernel_rfl
theorem Ic : (Tryz.f212.name == "runtime.NumGoroutine") = false := by kernel_rfl
theorem Ik : Extern.findNext Tryz.f212 = none := by kernel_rfl
theorem HZ : Extern.find Tryz.f212 = some (Extern.Atomic.loadT (.int .u32)) := by kernel_rfl
theorem Id : (Tryz.f223.name == "runtime.NumGoroutine") = false := by kernel_rfl
theorem Il : Extern.findNext Tryz.f223 = none := by kernel_rfl
theorem H4 : Extern.find Tryz.f223 = some (Extern.Atomic.storeT) := by kernel_rfl
theorem En : (Tryz.f226.name == "runtime.NumGoroutine") = false := by kernel_rfl
theorem Ep : Extern.findNext Tryz.f226 = none := by kernel_rfl
theorem El : Extern.find Tryz.f226 = some (fun _ => do mark .disable; pure Extern.Race.none_) := by kernel_rfl
theorem Ie : (Tryz.f227.name == "runtime.NumGoroutine") = false := by kernel_rfl
theorem Im : Extern.findNext Tryz.f227 = none := by kernel_rfl
theorem H5 : Extern.find Tryz.f227 = some (Extern.Atomic.casT (.int .i32)) := by kernel_rfl
theorem Eo : (Tryz.f228.name == "runtime.NumGoroutine") = false := by kernel_rfl
theorem Er : Extern.findNext Tryz.f228 = none := by kernel_rfl
theorem Em : Extern.find Tryz.f228 = some (fun _ => do mark .enable; pure Extern.Race.none_) := by kernel_rfl
theorem If : (Tryz.f229.name == "runtime.NumGoroutine") = false := by kernel_rfl
theorem Io : Extern.findNext Tryz.f229 = none := by kernel_rfl
theorem H6 : Extern.find Tryz.f229 = some (Extern.Race.marked .acquire) := by kernel_rfl
theorem Ig : (Tryz.f231.name == "runtime.NumGoroutine") = false := by kernel_rfl
theorem Ip : Extern.findNext Tryz.f231 = none := by kernel_rfl
theorem H7 : Extern.find Tryz.f231 = some (Extern.Race.marked .releaseMerge) := by kernel_rfl
theorem Ih : (Tryz.f232.name == "runtime.NumGoroutine") = false := by kernel_rfl
theorem Iq : Extern.findNext Tryz.f232 = none := by kernel_rfl
theorem H8 : Extern.find Tryz.f232 = some (Extern.Atomic.update (Op.intArith .add) .i32 true) := by kernel_rfl
theorem Ee : sn Tryz.prog 291 295 = true := by kernel_rfl
theorem EW {off : Nat} {n : Int} {cs : List LV} {H : List aa} (hH : aK H 0 = some (.box cs)) (h0 : aK cs (off + 0) = some (.p (.int .u32 n))) : LC Tryz.prog 199 [.ptr 0 off] H (Is (.p (.bool (n != 0))) H) := by
 refine dA Tryz.func199 Z Z Z ?_;refine zQ<|zR<|zM Z<|zN<|zT<|zQ<|zR<|zM Z<|yS Z (zn Z Z)<|yS Z (zA Z Z w8) ?_;refine yS Z (ab.atomLoad (P := Tryz.prog) (f := 212) (fn := Tryz.f212) Z Z Z Tryz.func212 Z Ic Ik HZ hH h0) ?_;exact yS Z (aw Z Z Z Z)<|zM Z<|zN<|zT<|zr<|ap (.one (.tmp Z))<|⟨rfl, rfl⟩
theorem Jj : az Tryz.prog 224 [.bool true] [.int .u32 1] := by
 refine zh Tryz.func224 Z Z Z Z ?_;exact zQ<|zR<|zM Z<|zN<|zT<|zQ<|zQ<|zR<|zM Z<|zN<|zT<|LW.condT Z<|zQ<|zR<|zM Z<|zN<|zT<|zr<|af<|zf (.one (.tmp Z)) zv
theorem GH {off : Nat} {cs cs' : List LV} {H H' : List aa} (hH : aK H 0 = some (.box cs)) (hc : aR cs (off + 0) (.p (.int .u32 1)) = some cs') (hH' : aR H 0 (.box cs') = some H') : EL Tryz.prog 215 [.ptr 0 off, (bQ true)] H H' := by
 refine EL.start (by kernel_rfl) Tryz.func215 Z Z Z (R := Is (.tup []) H') (fun _ _ h => h.2) ?_;refine LW.drawW (by kernel_rfl) (by kernel_rfl)<|zK Z ?_;refine yF (F := []) (s := none) Z (fun H _ => zn Z Z) Z ?_;refine yF (F := []) (s := none) Z (fun H _ => zA Z Z w8) Z ?_;refine zK Z ?_;refine yF (F := []) (s := none) Z (fun H _ => zC Z Z Z (by kernel_rfl) (zp Jj (.cons zv .nil))) Z ?_;refine yF Z (bK.atomStore (P := Tryz.prog) (f := 223) (fn := Tryz.f223) Z Z Z Tryz.func223 Z Id Il H4 Z hH hc) hH' ?_;refine LF.nil ⟨by kernel_rfl, ?_⟩;exact fP .none<|⟨rfl, rfl⟩
theorem Jh {off : Nat} {cs cs' : List LV} {H H' : List aa} (hH : aK H 0 = some (.box cs)) (h0 : aK cs (off + 0) = some (.p (.int .i32 0))) (hc : aR cs (off + 0) (.p (.int .i32 1)) = some cs') (hH' : aR H 0 (.box cs') = some H') (hb : Nat.blt off cs'.length = true) : LC Tryz.prog 221 [.ptr 0 off] H (Is (.tup []) H') := by
 refine dA Tryz.func221 Z Z Z ?_;refine zQ<|zR ?_;refine yS Z (ab.mark0 (P := Tryz.prog) (f := 226) (fn := Tryz.f226) Z Z Z Tryz.func226 Z En Ep El ) ?_;refine zN<|zT<|zQ<|zQ<|zR<|zM Z<|yS Z (zn Z Z)<|yS Z (zA Z Z rX) ?_;refine yS Z (ab.atomCas (P := Tryz.prog) (f := 227) (fn := Tryz.f227) Z Z Z Tryz.func227 Z Ie Im H5 hH h0 hc hH') ?_;refine zN<|zT<|LW.condT Z<|zQ<|LW.condT Z<|zQ<|zR ?_;refine yS Z (ab.mark0 (P := Tryz.prog) (f := 228) (fn := Tryz.f228) Z Z Z Tryz.func228 Z Eo Er Em ) ?_;refine zN<|zT<|zR<|zM Z<|yS Z (ab.convPtr Z Z (ux hH' ) hb Ee) ?_;refine yS Z (ab.markP (P := Tryz.prog) (f := 229) (fn := Tryz.f229) Z Z Z Tryz.func229 Z If Io H6 ) ?_;exact zN<|zT<|zr<|af<|ap .none<|⟨rfl, rfl⟩
theorem Jg {off : Nat} {cs cs' : List LV} {H H' : List aa} (hH : aK H 0 = some (.box cs)) (h0 : aK cs (off + 0 + 0) = some (.p (.int .i32 0))) (hc : aR cs (off + 0 + 0) (.p (.int .i32 1)) = some cs') (hH' : aR H 0 (.box cs') = some H') (hb : Nat.blt (off + 0) cs'.length = true) : LC Tryz.prog 213 [.ptr 0 off] H (Is (.tup []) H') := by
 refine dA Tryz.func213 Z Z Z ?_;exact zR<|zM Z<|yS Z (zn Z Z)<|yS Z (zA Z Z w9)<|yS Z (zC Z Z Z (by kernel_rfl) (Jh hH h0 hc hH' hb))<|zN<|fP .none<|⟨rfl, rfl⟩
theorem Ji {off : Nat} {cs cs' : List LV} {H H' : List aa} (hH : aK H 0 = some (.box cs)) (h0 : aK cs (off + 0) = some (.p (.int .i32 1))) (hb : Nat.blt off cs.length = true) (hc : aR cs (off + 0) (.p (.int .i32 0)) = some cs') (hH' : aR H 0 (.box cs') = some H') : LC Tryz.prog 222 [.ptr 0 off] H (Is (.tup []) H') := by
 refine dA Tryz.func222 Z Z Z ?_;refine zQ<|LW.condT Z<|zQ<|zR<|zM Z<|yS Z (zn Z Z)<|yS Z (zA Z Z rX)<|yS Z (ab.load1 Z Z hH Jx h0)<|zN<|zT<|zQ<|zR<|zM Z<|yS Z (ab.convPtr Z Z hH hb Ee) ?_;refine yS Z (ab.markP (P := Tryz.prog) (f := 231) (fn := Tryz.f231) Z Z Z Tryz.func231 Z Ig Ip H7 ) ?_;refine zN<|zT<|zR ?_;refine yS Z (ab.mark0 (P := Tryz.prog) (f := 226) (fn := Tryz.f226) Z Z Z Tryz.func226 Z En Ep El ) ?_;refine zN<|zT<|zQ<|zR<|zM Z<|yS Z (zn Z Z)<|yS Z (zA Z Z rX) ?_;refine yS Z (ab.atomAdd (P := Tryz.prog) (f := 232) (fn := Tryz.f232) Z Z Z Tryz.func232 Z Ih Iq H8 hH h0 hc hH') ?_;refine zM Z<|zN<|zT<|zQ<|zQ<|zR<|zM Z<|yS Z (aw Z Z Z Z)<|zN<|zT<|LW.condF Z<|zk<|zT<|zR ?_;refine yS Z (ab.mark0 (P := Tryz.prog) (f := 228) (fn := Tryz.f228) Z Z Z Tryz.func228 Z Eo Er Em ) ?_;exact zN<|fP .none<|⟨rfl, rfl⟩
theorem GG {off : Nat} {cs cs' : List LV} {H H' : List aa} (hH : aK H 0 = some (.box cs)) (h0 : aK cs (off + 0 + 0) = some (.p (.int .i32 1))) (hb : Nat.blt (off + 0) cs.length = true) (hc : aR cs (off + 0 + 0) (.p (.int .i32 0)) = some cs') (hH' : aR H 0 (.box cs') = some H') : EL Tryz.prog 214 [.ptr 0 off] H H' := by
 refine EL.start (by kernel_rfl) Tryz.func214 Z Z Z (R := Is (.tup []) H') (fun _ _ h => h.2) ?_;exact zR<|zM Z<|yS Z (zn Z Z)<|yS Z (zA Z Z w9)<|yS Z (zC Z Z Z (by kernel_rfl) (Ji hH h0 hb hc hH'))<|zN<|fP .none<|⟨rfl, rfl⟩
theorem GE {off : Nat} {n m : Int} {cs cs' : List LV} {H H' : List aa} (hH : aK H 0 = some (.box cs)) (h0 : aK cs (off + 0) = some (iQ n)) (hc : aR cs (off + 0) (.p (.int .i64 (IntKind.i64.wrap (n + m)))) = some cs') (hH' : aR H 0 (.box cs') = some H') : LC Tryz.prog 195 [.ptr 0 off, (iQ m)] H (Is (.p (.int .i64 (IntKind.i64.wrap (n + m)))) H') := by
 refine dA Tryz.func195 Z Z Z ?_;refine zQ<|zR<|zM Z<|zN<|zT<|zQ<|zR<|zM Z<|yS Z (zn Z Z)<|yS Z (zA Z Z xe)<|zM Z ?_;refine yS Z (ab.atomAdd (P := Tryz.prog) (f := 201) (fn := Tryz.f201) Z Z Z Tryz.func201 Z Ib Ij HY hH h0 hc hH') ?_;exact zM Z<|zN<|zT<|zr<|ap (.one (.tmp Z))<|⟨rfl, rfl⟩
theorem IU {off : Nat} {n : Int} {cs : List LV} {H : List aa} (hH : aK H 0 = some (.box cs)) (h0 : aK cs (off + 0) = some (iQ n)) : LC Tryz.prog 143 [.ptr 0 off] H (Is (iQ n) H) := by
 refine dA Tryz.func143 Z Z Z ?_;refine zQ<|zR<|zM Z<|zN<|zT<|zQ<|zR<|zM Z<|yS Z (zn Z Z)<|yS Z (zA Z Z xe) ?_;refine yS Z (ab.atomLoad (P := Tryz.prog) (f := 166) (fn := Tryz.f166) Z Z Z Tryz.func166 Z Ia Ii HX hH h0) ?_;exact zM Z<|zN<|zT<|zr<|ap (.one (.tmp Z))<|⟨rfl, rfl⟩
open Go.Proofs
def jr (seed n r : Int) : Int := IntKind.i64.wrap ((step seed (IntKind.u64.wrap r)).tmod (IntKind.u64.wrap n))
def kg (seed r : Int) : Int := step seed (IntKind.u64.wrap (IntKind.i64.wrap (1000 + r)))
theorem Jb {cs cs1 cs2 : List LV} {seed n r : Int} {q : Nat} (hs : aK cs (0 + 0) = some (uQ seed)) (hn : aK cs (0 + 1) = some (iQ n)) (hz : IntKind.u64.wrap n ≠ 0)
  (hs1 : aK cs1 (0 + 0) = some (uQ seed)) (hc1 : aR cs (q + 3) (.p (.int .i64 (jr seed n r))) = some cs1) (hc2 : aR cs1 (q + 4) (.p (.int .u64 (kg seed r))) = some cs2) :
  LC Tryz.prog 194 [.ptr 1 0, .ptr 2 0, .ptr 3 0] [.box cs, .box [.ptr 0 0], .box [(iQ r)], .box [.ptr 0 q]] (Is (.tup []) [.box cs2, .box [.ptr 0 0], .box [(iQ r)], .box [.ptr 0 q]]) := by
 refine dA Tryz.func194 Z Z Z ?_;refine zQ<|LW.drawW (by kernel_rfl) (by kernel_rfl)<|yF Z (zd Z Z Z oc Z Z) Z<|yF Z (zd Z Z Z qu Z Z) Z ?_;refine yF (F := []) (s := none) Z (fun H _ => zn Z Z) Z ?_;refine yF (F := []) (s := none) Z (fun H _ => zA Z Z xf) Z ?_;refine yF Z (bK.load1 Z Z Z mO hs) Z<|yF Z (zd Z Z Z bl Z Z) Z ?_;refine yF (F := []) (s := none) Z (fun H _ => ab.convert (k' := .u64) Z Z (by kernel_rfl)) Z ?_;refine yF (F := []) (s := none) Z (fun H _ => zC Z Z Z (by kernel_rfl) (zp (tw (h := seed) (x := (IntKind.u64.wrap (r)))) (.cons zv (.cons zv .nil)))) Z ?_;refine yF Z (zd Z Z Z qu Z Z) Z ?_;refine yF (F := []) (s := none) Z (fun H _ => zn Z Z) Z ?_;refine yF (F := []) (s := none) Z (fun H _ => zA Z Z rY) Z ?_;refine yF Z (bK.load1 Z Z Z bl hn) Z ?_;refine yF (F := []) (s := none) Z (fun H _ => ab.convert (k' := .u64) Z Z (by kernel_rfl)) Z ?_;refine yF (F := []) (s := none) Z (fun H _ => ab.rem Z Z Z hz) Z ?_;refine yF (F := []) (s := none) Z (fun H _ => ab.convert (k' := .i64) Z Z (by kernel_rfl)) Z ?_;refine yF (F := []) (s := none) Z (fun H _ => zn Z Z) Z ?_;refine yF (F := []) (s := none) Z (fun H _ => zA Z Z xc) Z ?_;refine yF Z (bK.store1 Z Z Z Z bl Z hc1) Z ?_;refine LF.nil ⟨by kernel_rfl, ?_⟩;refine zT<|LW.drawW (by kernel_rfl) (by kernel_rfl)<|yF Z (zd Z Z Z oc Z Z) Z<|yF Z (zd Z Z Z qu Z Z) Z ?_;refine yF (F := []) (s := none) Z (fun H _ => zn Z Z) Z ?_;refine yF (F := []) (s := none) Z (fun H _ => zA Z Z xf) Z ?_;refine yF Z (bK.load1 Z Z Z mO hs1) Z<|yF Z (zd Z Z Z bl Z Z) Z ?_;refine yF (F := []) (s := none) Z (fun H _ => aw Z Z Z Z) Z ?_;refine yF (F := []) (s := none) Z (fun H _ => ab.convert (k' := .u64) Z Z (by kernel_rfl)) Z ?_;refine yF (F := []) (s := none) Z (fun H _ => zC Z Z Z (by kernel_rfl) (zp (tw (h := seed) (x := (IntKind.u64.wrap (IntKind.i64.wrap (1000 + r))))) (.cons zv (.cons zv .nil)))) Z ?_;refine yF (F := []) (s := none) Z (fun H _ => zn Z Z) Z ?_;refine yF (F := []) (s := none) Z (fun H _ => zA Z Z xd) Z ?_;refine yF Z (bK.store1 Z Z Z Z mO Z hc2) Z ?_;refine LF.nil ⟨by kernel_rfl, ?_⟩;exact fP .none<|⟨rfl, rfl⟩
abbrev BN : LV := .fn 194 [] [.ptr 1 0, .ptr 2 0, .ptr 3 0]
theorem Jf {cs csA cs1 cs2 csD csE : List LV} {seed n r : Int} {q : Nat} (hm : aK cs (q + 0 + 1 + 0 + 0) = some (.p (.int .i32 0))) (hA : aR cs (q + 0 + 1 + 0 + 0) (.p (.int .i32 1)) = some csA) (hAb : Nat.blt (q + 0 + 1 + 0) csA.length = true)
  (hd : aK csA (q + 0 + 0 + 0) = some (.p (.int .u32 0))) (hs : aK csA (0 + 0) = some (uQ seed)) (hn : aK csA (0 + 1) = some (iQ n)) (hz : IntKind.u64.wrap n ≠ 0)
  (hs1 : aK cs1 (0 + 0) = some (uQ seed)) (hc1 : aR csA (q + 3) (.p (.int .i64 (jr seed n r))) = some cs1) (hc2 : aR cs1 (q + 4) (.p (.int .u64 (kg seed r))) = some cs2)
  (hD : aR cs2 (q + 0 + 0 + 0) (.p (.int .u32 1)) = some csD) (hDm : aK csD (q + 0 + 1 + 0 + 0) = some (.p (.int .i32 1))) (hDb : Nat.blt (q + 0 + 1 + 0) csD.length = true) (hE : aR csD (q + 0 + 1 + 0 + 0) (.p (.int .i32 0)) = some csE) :
  LC Tryz.prog 200 [.ptr 0 (q + 0), BN] [.box cs, .box [.ptr 0 0], .box [(iQ r)], .box [.ptr 0 q]] (Is (.tup []) [.box csE, .box [.ptr 0 0], .box [(iQ r)], .box [.ptr 0 q]]) := by
 refine LC.ofD Tryz.func200 Z Z Z Z ?_;refine og.seq<|og.region<|cd.st Z Z Z (zm Z Z)<|cd.st Z Z Z (zn Z Z)<|cd.st Z Z Z (zA Z Z xa)<|cd.st Z Z Z (zC Z Z Z (by kernel_rfl) (Jg (off := q + 0 + 1) Z hm hA Z hAb))<|cd.nil<|og.seq<|og.region<|cd.st Z Z Z (zm Z Z)<|cd.st Z Z Z (zn Z Z)<|cd.st Z Z Z (zA Z Z xa)<|cd.defer Z Z Z Z Z<|cd.nil<|og.seq<|og.region<|cd.st Z Z Z (zm Z Z)<|cd.st Z Z Z (zn Z Z)<|cd.st Z Z Z (zA Z Z oB)<|cd.st Z Z Z (zC Z Z Z (by kernel_rfl) (EW (off := q + 0 + 0) (n := 0) Z hd))<|cd.st Z Z Z (ab.not Z Z)<|cd.nil<|og.condT Z<|og.seq ?_;exact og.region<|cd.st Z Z Z (zm Z Z)<|cd.st Z Z Z (zn Z Z)<|cd.st Z Z Z (zA Z Z oB)<|cd.defer Z Z Z Z Z<|cd.nil<|og.region<|cd.st Z Z Z (zm Z Z)<|cd.st Z Z Z (zC Z Z Z (by kernel_rfl) (Jb hs hn hz hs1 hc1 hc2))<|cd.nil<|⟨.inl rfl, .cons (GH (off := q + 0 + 0) Z hD Z) (.cons (GG (off := q + 0 + 1) Z hDm hDb hE Z) .nil)⟩
theorem GD {cs csA cs1 cs2 csD csE : List LV} {seed n r : Int} {q : Nat} (hd0 : aK cs (q + 0 + 0 + 0) = some (.p (.int .u32 0))) (hm : aK cs (q + 0 + 1 + 0 + 0) = some (.p (.int .i32 0))) (hA : aR cs (q + 0 + 1 + 0 + 0) (.p (.int .i32 1)) = some csA) (hAb : Nat.blt (q + 0 + 1 + 0) csA.length = true)
  (hd : aK csA (q + 0 + 0 + 0) = some (.p (.int .u32 0))) (hs : aK csA (0 + 0) = some (uQ seed)) (hn : aK csA (0 + 1) = some (iQ n)) (hz : IntKind.u64.wrap n ≠ 0)
  (hs1 : aK cs1 (0 + 0) = some (uQ seed)) (hc1 : aR csA (q + 3) (.p (.int .i64 (jr seed n r))) = some cs1) (hc2 : aR cs1 (q + 4) (.p (.int .u64 (kg seed r))) = some cs2)
  (hD : aR cs2 (q + 0 + 0 + 0) (.p (.int .u32 1)) = some csD) (hDm : aK csD (q + 0 + 1 + 0 + 0) = some (.p (.int .i32 1))) (hDb : Nat.blt (q + 0 + 1 + 0) csD.length = true) (hE : aR csD (q + 0 + 1 + 0 + 0) (.p (.int .i32 0)) = some csE) : LC Tryz.prog 193 [.ptr 0 (q + 0), BN] [.box cs, .box [.ptr 0 0], .box [(iQ r)], .box [.ptr 0 q]] (Is (.tup []) [.box csE, .box [.ptr 0 0], .box [(iQ r)], .box [.ptr 0 q]]) := by
 refine dA Tryz.func193 Z Z Z ?_;exact zQ<|zR<|zM Z<|yS Z (zn Z Z)<|yS Z (zA Z Z oB)<|yS Z (zC Z Z Z (by kernel_rfl) (EW (off := q + 0 + 0) (n := 0) Z hd0))<|yS Z (ab.not Z Z)<|zN<|zT<|LW.condT Z<|zR<|zM Z<|zM Z<|yS Z (zC Z Z Z (by kernel_rfl) (Jf hm hA hAb hd hs hn hz hs1 hc1 hc2 hD hDm hDb hE))<|zN<|fP .none<|⟨rfl, rfl⟩
theorem GC {cs : List LV} {r : Int} {q : Nat} (hd : aK cs (q + 0 + 0 + 0) = some (.p (.int .u32 1))) : LC Tryz.prog 193 [.ptr 0 (q + 0), BN] [.box cs, .box [.ptr 0 0], .box [(iQ r)], .box [.ptr 0 q]] (Is (.tup []) [.box cs, .box [.ptr 0 0], .box [(iQ r)], .box [.ptr 0 q]]) := by
 refine dA Tryz.func193 Z Z Z ?_;exact zQ<|zR<|zM Z<|yS Z (zn Z Z)<|yS Z (zA Z Z oB)<|yS Z (zC Z Z Z (by kernel_rfl) (EW (off := q + 0 + 0) (n := 1) Z hd))<|yS Z (ab.not Z Z)<|zN<|zT<|LW.condF Z<|zk<|fP .none<|⟨rfl, rfl⟩
open Go.Proofs
def ib (seed n r : Int) (b : Bool) : List LV :=
 [.p (.int .u32 (cond b 1 0)), .p (.int .i32 0), .p (.int .u32 0), .p (.int .i64 (cond b (jr seed n r) 0)), .p (.int .u64 (cond b (kg seed r) 0))]
def tD (seed n : Int) (f : Nat → Bool) (k : Int) : List LV :=
 (uQ seed) :: (iQ n) :: (ib seed n 0 (f 0) ++ (ib seed n 1 (f 1) ++ (ib seed n 2 (f 2) ++ (ib seed n 3 (f 3) ++ (ib seed n 4 (f 4) ++ (ib seed n 5 (f 5) ++ (ib seed n 6 (f 6) ++ (ib seed n 7 (f 7) ++ (ib seed n 8 (f 8) ++ (ib seed n 9 (f 9) ++ [(iQ k)]))))))))))
def yD (f : Nat → Bool) (i : Nat) : Nat → Bool := fun j => cond (Nat.beq j i) true (f j)
def Fk (f : Nat → Bool) (i : Nat) : Nat → Bool := fun j => cond (Nat.beq j i) false (f j)
theorem xu {f : Nat → Bool} {i : Nat} (h : f i = true) : yD f i = f := by
 funext j;unfold yD
 cases e : Nat.beq j i with
 | false => rfl
 | true => rw [Nat.eq_of_beq_eq_true e, h]; rfl
theorem Dh {f : Nat → Bool} {i : Nat} (h : f i = false) : Fk f i = f := by
 funext j;unfold Fk
 cases e : Nat.beq j i with
 | false => rfl
 | true => rw [Nat.eq_of_beq_eq_true e, h]; rfl
structure Dk where
 f : Nat → Bool
 k : Int
def gV (seed n : Int) (d : Dk) : List LV := tD seed n d.f d.k
def Dk.turned (d : Dk) (r : Int) : Dk := ⟨yD d.f r.toNat, IntKind.i64.wrap (d.k + 1)⟩
def qq (n r : Int) : Bool := decide (n ≠ 0 ∧ IntKind.u64.wrap n ≠ 0 ∧ 0 ≤ r ∧ r < 10)
theorem fe {n r : Int} (h : qq n r = true) : n ≠ 0 ∧ IntKind.u64.wrap n ≠ 0 ∧ 0 ≤ r ∧ r < 10 := of_decide_eq_true h
theorem Gy {cs csA cs1 cs2 csD csE : List LV} {seed n r : Int} (hd0 : aK cs ((2 + r.toNat * 5) + 0 + 0 + 0) = some (.p (.int .u32 0))) (hm : aK cs ((2 + r.toNat * 5) + 0 + 1 + 0 + 0) = some (.p (.int .i32 0))) (hA : aR cs ((2 + r.toNat * 5) + 0 + 1 + 0 + 0) (.p (.int .i32 1)) = some csA) (hAb : Nat.blt ((2 + r.toNat * 5) + 0 + 1 + 0) csA.length = true)
  (hd : aK csA ((2 + r.toNat * 5) + 0 + 0 + 0) = some (.p (.int .u32 0))) (hs : aK csA (0 + 0) = some (uQ seed)) (hn : aK csA (0 + 1) = some (iQ n)) (hz : IntKind.u64.wrap n ≠ 0)
  (hs1 : aK cs1 (0 + 0) = some (uQ seed)) (hc1 : aR csA ((2 + r.toNat * 5) + 3) (.p (.int .i64 (jr seed n r))) = some cs1) (hc2 : aR cs1 ((2 + r.toNat * 5) + 4) (.p (.int .u64 (kg seed r))) = some cs2)
  (hD : aR cs2 ((2 + r.toNat * 5) + 0 + 0 + 0) (.p (.int .u32 1)) = some csD) (hDm : aK csD ((2 + r.toNat * 5) + 0 + 1 + 0 + 0) = some (.p (.int .i32 1))) (hDb : Nat.blt ((2 + r.toNat * 5) + 0 + 1 + 0) csD.length = true) (hE : aR csD ((2 + r.toNat * 5) + 0 + 1 + 0 + 0) (.p (.int .i32 0)) = some csE) {k : Int} {csF : List LV} (hr0 : 0 ≤ r) (hr1 : r < 10) (hk : aK csE (0 + 52 + 0) = some (iQ k)) (hF : aR csE (0 + 52 + 0) (.p (.int .i64 (IntKind.i64.wrap (k + 1)))) = some csF) (hl : LV.lowsB 1 csF = true) : LC Tryz.prog 182 [.ptr 0 0, (iQ r)] [.box cs] (Is (.ptr 0 (2 + r.toNat * 5)) [.box csF]) := by
 refine dA Tryz.func182 Z Z Z ?_;refine zQ<|zR<|yS Z (b6 Z Z Z Z Z)<|yS Z (b6 Z Z Z Z Z)<|zM Z<|zN<|zT<|zQ<|LW.ent (bP.slot Z)<|LW.drawW (by kernel_rfl) (by kernel_rfl)<|yF Z (zd Z Z Z qu Z Z) Z<|yF Z (zd Z Z Z bl Z Z) Z ?_;refine yF (F := []) (s := none) Z (fun H _ => zn Z Z) Z ?_;refine yF (F := []) (s := none) Z (fun H _ => zA Z Z xg) Z ?_;refine yF (F := []) (s := none) Z (fun H _ => ab.indexAddrA Z Z Z DL hr0 hr1) Z ?_;refine yF Z (bK.alloc Z Eu (id := 3) Z) Z<|yF Z (zt Z Z Z Z oc Z Z Z) Z ?_;refine LF.nil ⟨by kernel_rfl, ?_⟩;refine zT<|zQ<|zR<|yS Z (zD Z Z Z oc Z Z)<|yS Z (zn Z Z)<|yS Z (zA Z Z xb)<|yS Z (ab.makeFunc Z Z Z)<|yS Z (zC Z Z Z (by kernel_rfl) (GD (q := (2 + r.toNat * 5)) hd0 hm hA hAb hd hs hn hz hs1 hc1 hc2 hD hDm hDb hE))<|zN<|zT<|zQ<|zR<|yS Z (zD Z Z Z qu Z Z)<|yS Z (zn Z Z)<|yS Z (zA Z Z rZ)<|yS Z (zC Z Z Z (by kernel_rfl) (GE (off := 0 + 52) Z hk hF Z))<|zN<|zT<|zQ<|zR<|yS Z (zD Z Z Z oc Z Z)<|zM Z<|zN<|zT ?_;refine LW.ret ?_;refine aX (env' := [(4, .ptr 0 (2 + r.toNat * 5))]) (H' := [.box csF]) (zW 1 ⟨rfl, trivial⟩ Z Z Z (zL hl Z)) (.one (.tmp Z)) ⟨rfl, rfl⟩
theorem Gx {cs : List LV} {r : Int} (hd : aK cs ((2 + r.toNat * 5) + 0 + 0 + 0) = some (.p (.int .u32 1))) {k : Int} {csF : List LV} (hr0 : 0 ≤ r) (hr1 : r < 10) (hk : aK cs (0 + 52 + 0) = some (iQ k)) (hF : aR cs (0 + 52 + 0) (.p (.int .i64 (IntKind.i64.wrap (k + 1)))) = some csF) (hl : LV.lowsB 1 csF = true) : LC Tryz.prog 182 [.ptr 0 0, (iQ r)] [.box cs] (Is (.ptr 0 (2 + r.toNat * 5)) [.box csF]) := by
 refine dA Tryz.func182 Z Z Z ?_;refine zQ<|zR<|yS Z (b6 Z Z Z Z Z)<|yS Z (b6 Z Z Z Z Z)<|zM Z<|zN<|zT<|zQ<|LW.ent (bP.slot Z)<|LW.drawW (by kernel_rfl) (by kernel_rfl)<|yF Z (zd Z Z Z qu Z Z) Z<|yF Z (zd Z Z Z bl Z Z) Z ?_;refine yF (F := []) (s := none) Z (fun H _ => zn Z Z) Z ?_;refine yF (F := []) (s := none) Z (fun H _ => zA Z Z xg) Z ?_;refine yF (F := []) (s := none) Z (fun H _ => ab.indexAddrA Z Z Z DL hr0 hr1) Z ?_;refine yF Z (bK.alloc Z Eu (id := 3) Z) Z<|yF Z (zt Z Z Z Z oc Z Z Z) Z ?_;refine LF.nil ⟨by kernel_rfl, ?_⟩;refine zT<|zQ<|zR<|yS Z (zD Z Z Z oc Z Z)<|yS Z (zn Z Z)<|yS Z (zA Z Z xb)<|yS Z (ab.makeFunc Z Z Z)<|yS Z (zC Z Z Z (by kernel_rfl) (GC (q := (2 + r.toNat * 5)) hd))<|zN<|zT<|zQ<|zR<|yS Z (zD Z Z Z qu Z Z)<|yS Z (zn Z Z)<|yS Z (zA Z Z rZ)<|yS Z (zC Z Z Z (by kernel_rfl) (GE (off := 0 + 52) Z hk hF Z))<|zN<|zT<|zQ<|zR<|yS Z (zD Z Z Z oc Z Z)<|zM Z<|zN<|zT ?_;refine LW.ret ?_;refine aX (env' := [(4, .ptr 0 (2 + r.toNat * 5))]) (H' := [.box csF]) (zW 1 ⟨rfl, trivial⟩ Z Z Z (zL hl Z)) (.one (.tmp Z)) ⟨rfl, rfl⟩
theorem Br {seed n r k : Int} {f : Nat → Bool} (hz : IntKind.u64.wrap n ≠ 0) (hr0 : 0 ≤ r) (hr1 : r < 10) :
  LC Tryz.prog 182 [.ptr 0 0, (iQ r)] [.box (tD seed n (Fk f r.toNat) k)] (Is (.ptr 0 (2 + r.toNat * 5)) [.box (tD seed n (yD f r.toNat) (IntKind.i64.wrap (k + 1)))]) := by
 have hc : r = 0 ∨ r = 1 ∨ r = 2 ∨ r = 3 ∨ r = 4 ∨ r = 5 ∨ r = 6 ∨ r = 7 ∨ r = 8 ∨ r = 9 := by omega
 rcases hc with rfl | rfl | rfl | rfl | rfl | rfl | rfl | rfl | rfl | rfl
 all_goals exact Gy (seed := seed) (n := n) rfl rfl rfl rfl rfl rfl rfl hz rfl rfl rfl rfl rfl rfl rfl hr0 hr1 rfl rfl rfl
theorem Bq {seed n r k : Int} {f : Nat → Bool} (hr0 : 0 ≤ r) (hr1 : r < 10) :
  LC Tryz.prog 182 [.ptr 0 0, (iQ r)] [.box (tD seed n (yD f r.toNat) k)] (Is (.ptr 0 (2 + r.toNat * 5)) [.box (tD seed n (yD f r.toNat) (IntKind.i64.wrap (k + 1)))]) := by
 have hc : r = 0 ∨ r = 1 ∨ r = 2 ∨ r = 3 ∨ r = 4 ∨ r = 5 ∨ r = 6 ∨ r = 7 ∨ r = 8 ∨ r = 9 := by omega
 rcases hc with rfl | rfl | rfl | rfl | rfl | rfl | rfl | rfl | rfl | rfl
 all_goals exact Gx rfl hr0 hr1 rfl rfl rfl
theorem I6 {seed n r : Int} {d : Dk} (h : qq n r = true) : LC Tryz.prog 182 [.ptr 0 0, (iQ r)] [.box (gV seed n d)] (Is (.ptr 0 (2 + r.toNat * 5)) [.box (gV seed n (d.turned r))]) := by
 obtain ⟨-, h1, h2, h3⟩ := fe h
 cases hf : d.f r.toNat with
 | true =>
  have := Bq (seed := seed) (n := n) (k := d.k) (f := d.f) h2 h3;rw [xu hf] at this;unfold gV Dk.turned;rw [xu hf];exact this
 | false =>
  have := Br (seed := seed) (n := n) (k := d.k) (f := d.f) h1 h2 h3;rw [Dh hf] at this;exact this
theorem vA {seed n r : Int} {d : Dk} (hr0 : 0 ≤ r) (hr1 : r < 10) : aK (gV seed n (d.turned r)) (2 + r.toNat * 5 + 3) = some (.p (.int .i64 (jr seed n r))) := by
 have hc : r = 0 ∨ r = 1 ∨ r = 2 ∨ r = 3 ∨ r = 4 ∨ r = 5 ∨ r = 6 ∨ r = 7 ∨ r = 8 ∨ r = 9 := by omega
 rcases hc with rfl | rfl | rfl | rfl | rfl | rfl | rfl | rfl | rfl | rfl
 all_goals rfl
theorem x9 {seed n r : Int} {d : Dk} (hr0 : 0 ≤ r) (hr1 : r < 10) : aK (gV seed n (d.turned r)) (2 + r.toNat * 5 + 4) = some (.p (.int .u64 (kg seed r))) := by
 have hc : r = 0 ∨ r = 1 ∨ r = 2 ∨ r = 3 ∨ r = 4 ∨ r = 5 ∨ r = 6 ∨ r = 7 ∨ r = 8 ∨ r = 9 := by omega
 rcases hc with rfl | rfl | rfl | rfl | rfl | rfl | rfl | rfl | rfl | rfl
 all_goals rfl
def pX (seed n r i : Int) : Int := (IntKind.i64.wrap (IntKind.i64.wrap (jr seed n r + n) - i)).tmod n
def B6 (seed n r i : Int) : Bool := bits .and .u64 (step (kg seed r) (IntKind.u64.wrap (if pX seed n r i > i then pX seed n r i else i))) 1 == 1
def qp (seed n r i : Int) : Int := bif B6 seed n r i then pX seed n r i else i
theorem IT {seed n r i : Int} {d : Dk} (h : qq n r = true) : LC Tryz.prog 165 [.ptr 0 0, (iQ r), (iQ i)] [.box (gV seed n d)] (Is (.p (.int .i64 (qp seed n r i))) [.box (gV seed n (d.turned r))]) := by
 refine dA Tryz.func165 Z Z Z ?_;refine zQ<|zR<|zM Z<|zN<|zT<|zQ<|zR<|zM Z<|zM Z<|yS Z (zC Z Z Z (by kernel_rfl) (I6 h))<|zM Z<|zN<|zT<|zQ<|LW.draw2 (by kernel_rfl) (by kernel_rfl)<|zH Z<|yE Z (zn Z Z)<|yE Z (zA Z Z xc)<|yE Z (ab.load1 Z Z Z bl (vA (fe h).2.2.1 (fe h).2.2.2))<|zH Z<|yE Z (zn Z Z)<|yE Z (zA Z Z rY)<|yE Z (ab.load1 Z Z Z bl Z)<|yE Z (aw Z Z Z Z) ?_;refine zH Z<|yE Z (aw Z Z Z Z)<|zH Z<|yE Z (zn Z Z)<|yE Z (zA Z Z rY)<|yE Z (ab.load1 Z Z Z bl Z)<|yE Z (ab.rem Z Z Z (fe h).1)<|zH Z<|LO.nil<|zT<|zQ<|zQ<|zR<|zM Z<|yS Z (zn Z Z)<|yS Z (zA Z Z xd)<|yS Z (ab.load1 Z Z Z mO (x9 (fe h).2.2.1 (fe h).2.2.2))<|zM Z<|zM Z<|yS Z (ab.max Z Z Z)<|yS Z (ab.convert (k' := .u64) Z Z (by kernel_rfl))<|yS Z (zC Z Z Z (by kernel_rfl) (zp (tw (h := (kg seed r)) (x := (IntKind.u64.wrap (if (pX seed n r i) > i then (pX seed n r i) else i)))) (.cons zv (.cons zv .nil))))<|yS Z (aw Z Z Z Z)<|yS Z (aw Z Z Z Z) ?_;refine zN<|zT ?_;refine zX Z (fun g1 => ?_)<|fun g1 => ?_
 ·
  exact zQ<|zR<|zM Z<|zM Z<|zN<|zT<|zr<|af<|ap (.one (.tmp Z))<|⟨by unfold qp B6; rw [g1]; rfl, rfl⟩
 ·
  exact zk<|zT<|zQ<|zR<|zM Z<|zM Z<|zN<|zT<|zr<|ap (.one (.tmp Z))<|⟨by unfold qp B6; rw [g1]; rfl, rfl⟩
open Go.Proofs
def few (l : List Bk) : Bool := decide (l.length ≤ 1000)
theorem vB {l : List Bk} (h : few l = true) : l.length ≤ 1000 := of_decide_eq_true h
def FL (l : List Bk) : Option Bool :=
 (match places l with
 | none =>
  some false
 | some _ =>
  some true)
theorem JF {l : List Bk} {r_ : Bool} (hr : FL l = some r_) : az Tryz.prog 187 [.slice 5 (l.map au)] [.bool r_] := by
 refine zh Tryz.func187 Z Z Z Z ?_;unfold FL at hr;refine zQ<|zR<|zM Z<|zN<|zT<|zQ<|zR<|zM Z ?_;rcases h_f1 : places l with _ | m_
 ·
  rw [h_f1] at hr;simp only at hr;refine yS Z (zC Z Z Z (by kernel_rfl) (E1 h_f1))<|zM Z<|yS Z (ed Z Z Z)<|yS Z (ed Z Z Z)<|zM Z<|zM Z<|zN<|zT<|zQ<|zR<|zM Z<|zM Z<|zN<|zT<|zr ?_;obtain rfl := zJ hr;exact zf (.one (.tmp Z)) zv
 ·
  rw [h_f1] at hr;simp only at hr;refine yS Z (zC Z Z Z (by kernel_rfl) (E2 h_f1 Z Z Z))<|zM Z<|yS Z (ed Z Z Z)<|yS Z (ed Z Z Z)<|zM Z<|zM Z<|zN<|zT<|zQ<|zR<|zM Z<|zM Z<|zN<|zT<|zr ?_;obtain rfl := zJ hr;exact zf (.one (.tmp Z)) zv
def FK (l : List Bk) (id : ID) : Option (Int × Bool) :=
 (match places l with
 | none =>
  some (0, false)
 | some m_ =>
  (
   bif !((aj m_ id).isSome) then
    some true
   else
    some (((aj m_ id).getD 0) == (-1))
  ).bind fun v1 =>
  bif v1 then
   some (0, (aj m_ id).isSome)
  else
   (ix l ((aj m_ id).getD 0)).bind fun y1 =>
   some (y1.Slot, true))
theorem JE {l : List Bk} {id : ID} {r_ : Int × Bool} (hr : FK l id = some r_) : az Tryz.prog 41 [.slice 5 (l.map au), cv id] [.int .i64 r_.1, .bool r_.2] := by
 refine zh Tryz.func41 Z Z Z Z ?_;unfold FK at hr;refine zQ<|zR<|yS Z (b6 Z Z Z Z Z)<|zM Z<|zM Z<|zN<|zT<|zQ<|zR<|zM Z ?_;rcases h_f1 : places l with _ | m_
 ·
  rw [h_f1] at hr;simp only at hr;refine yS Z (zC Z Z Z (by kernel_rfl) (E1 h_f1))<|zM Z<|yS Z (ed Z Z Z)<|yS Z (ed Z Z Z)<|zM Z<|zM Z<|zN<|zT<|zQ<|zR<|zM Z<|yS Z (zD Z Z Z aT Z Z)<|yS Z (ab.getNil (f := cv) (a := id) dw Z Z Z iT Cm Z)<|zM Z<|yS Z (ed Z Z Z)<|yS Z (ed Z Z Z)<|zM Z<|zM Z<|zN<|zT<|zQ<|zQ<|zR<|zM Z ?_;refine yS Z (ab.not Z Z)<|zM Z<|yU Z Z Z<|yU Z Z Z<|yS Z (cS Z Z Z)<|zN<|zT<|LW.condT Z<|zQ<|zR<|zM Z<|zM Z<|zM Z<|zN<|zT<|zr<|af ?_;obtain rfl := zJ hr;exact zf (.two (.tmp Z) (.tmp Z))<|⟨_, rfl, (.cons zv (.cons zv .nil))⟩
 ·
  rw [h_f1] at hr;simp only at hr;refine yS Z (zC Z Z Z (by kernel_rfl) (E2 h_f1 Z Z Z))<|zM Z<|yS Z (ed Z Z Z)<|yS Z (ed Z Z Z)<|zM Z<|zM Z<|zN<|zT<|zQ<|zR<|zM Z<|yS Z (zD Z Z Z aT Z Z) ?_;refine yS Z (ab.getX (f := cv) (g := (fun v => (iQ v))) id 0 dw Z Z Z Z iT Cm Z Z) ?_;refine zM Z<|yS Z (ed Z Z Z)<|yS Z (ed Z Z Z)<|zM Z<|zM Z<|zN<|zT<|zQ ?_;obtain ⟨v1, hb_v1, ho_v1⟩ := zB hr;clear hr;refine LW.cut (E := [(0, (kB l)), (4, (iQ 0)), (5, (bQ false)), (8, .p (.int .i64 ((aj m_ id).getD 0))), (9, .p (.bool ((aj m_ id).isSome))), (26, (bQ v1))]) (O := [.box [(uQ id.1), (uQ id.2)], .box [(kB l)], (mQ m_)]) ?_ ?_
  ·have hr := hb_v1;refine zR<|zM Z<|yS Z (ab.not Z Z)<|zM Z ?_;refine zc 23 Z (fun g1 => ?_)<|fun g1 => ?_
   ·
    refine zi g1 hr fun hr => yU Z (gd g1 Z) Z<|yU Z (gd g1 Z) Z<|yS Z (cS Z (a8 g1 Z) Z)<|zN<|zT ?_;obtain rfl := zJ hr;exact zW 3 ⟨Z, Z, Z, Z, Z, Z, trivial⟩ Z Z Z<|zL Z<|zL Z<|zL (ae (fun _ => rfl) _) Z
   ·
    refine zo g1 hr fun hr => yV Z (gd g1 Z) (zm Z Z)<|yV Z (gd g1 Z) (aw Z Z Z Z)<|yS Z (bN Z (a8 g1 Z) Z)<|zN<|zT ?_;obtain rfl := zJ hr;exact zW 3 ⟨Z, Z, Z, Z, Z, Z, trivial⟩ Z Z Z<|zL Z<|zL Z<|zL (ae (fun _ => rfl) _) Z
  ·have hr := ho_v1;clear hb_v1;refine zX Z (fun g2 => ?_)<|fun g2 => ?_
   ·
    refine zi g2 hr fun hr => zQ<|zR<|zM Z<|zM Z<|zM Z<|zN<|zT<|zr<|af ?_;obtain rfl := zJ hr;exact zf (.two (.tmp Z) (.tmp Z))<|⟨_, rfl, (.cons zv (.cons zv .nil))⟩
   ·
    refine zo g2 hr fun hr => zk<|zT<|zQ<|zR<|zM Z<|zM Z<|zb hr fun y1 h_y1 hr => yS Z (zx Z Z Z cR h_y1 Z)<|yS Z (ab.fieldAddrC Z Z hZ Z)<|yS Z (dj Z Z Z bl Z Z)<|zM Z<|zM Z<|zN<|zT<|zr ?_;obtain rfl := zJ hr;exact zf (.two (.tmp Z) (.tmp Z))<|⟨_, rfl, (.cons zv (.cons zv .nil))⟩
structure jU where
 t13 : Int
 out : List ID
def mW (l : List Bk) (id : ID) (x1 : jU) : Option (jU ⊕ jU) :=
 bif decide (x1.t13 < (l.length : Int)) then
  (ix l x1.t13).bind fun y1 =>
  bif ((y1.Parent.1 == id.1) && ((y1.Parent.2 == id.2) && true)) then
   bif cg x1.out.length [nm y1].length 16 then
    some (.inl (jU.mk (IntKind.i64.wrap (x1.t13 + 1)) (x1.out ++ [nm y1])))
   else none
  else
   some (.inl (jU.mk (IntKind.i64.wrap (x1.t13 + 1)) x1.out))
 else
  some (.inr (jU.mk x1.t13 x1.out))
def F3 (l : List Bk) (id : ID) : Option (List ID) :=
 (FL l).bind fun v1 =>
 bif !v1 then
  some []
 else
  (iter (mW l id) bG (jU.mk 0 ([] : List ID))).bind fun v2 =>
  some v2.out
theorem JQ {l : List Bk} {id : ID} {r_ : (List ID)} (hr : F3 l id = some r_) : az Tryz.prog 171 [.slice 5 (l.map au), cv id] [.slice 2 (r_.map cv)] := by
 refine zh Tryz.func171 Z Z Z Z ?_;unfold F3 at hr;refine zQ<|zR<|yS Z (b6 Z Z Z Z Z)<|zM Z<|zN<|zT<|zQ<|zQ<|zR<|zM Z<|zb hr fun v1 h_v1 hr => yS Z (zC Z Z Z (by kernel_rfl) (zp (JF h_v1) (.cons zv .nil)))<|yS Z (ab.not Z Z)<|zN<|zT ?_;refine zX Z (fun g1 => ?_)<|fun g1 => ?_
 ·
  refine zi g1 hr fun hr => zQ<|zR<|zM Z<|zN<|zT<|zr<|af ?_;obtain rfl := zJ hr;exact zf (.one (.tmp Z)) Conv.zs
 ·
  refine zo g1 hr fun hr => zk<|zT<|zQ<|zR<|zM Z<|zN<|zT<|zQ<|zQ<|zR<|zM Z<|yS Z (cP Z Z (by kernel_rfl))<|zM Z<|zN<|zT<|LW.ent (bP.lazy (t := 5) (m := 2) Z Z Z) ?_;obtain ⟨v2, hb_v2, ho_v2⟩ := zB hr;clear hr;refine LW.tail (E := [(4, .zs), (5, .vec 2 1 (v2.out.map cv).length 0 (v2.out.map cv).length)]) (O := [.box [(uQ id.1), (uQ id.2)], .vec 2 (v2.out.map cv)]) ?_<|fun env_v2 H_v2 hw_v2 => ?_
  ·refine LW.block ?_;refine LW.iterB (E := fun x1 : jU => [(3, .ptr 0 0), (4, .zs), (5, .vec 2 1 (x1.out.map cv).length 0 (x1.out.map cv).length), (11, (kB l)), (12, .p (.int .i64 (l.length : Int))), (13, (iQ x1.t13))]) (O := fun x1 => [.box [(uQ id.1), (uQ id.2)], .vec 2 (x1.out.map cv)]) hb_v2 (zW 2 ⟨rfl, rfl, rfl, rfl, rfl, rfl, trivial⟩ Z Z Z Z)<|fun x1 z_x1 hr hb_x1 => ?_;unfold mW at hr;refine zQ<|zR<|yS Z (aw Z Z Z Z)<|zN<|zT<|zQ ?_;refine zX Z (fun g2 => ?_)<|fun g2 => ?_
   ·
    refine zi g2 hr fun hr => zk<|zT<|zQ<|zl<|zQ<|zR<|zb hr fun y1 h_y1 hr => yS Z (zx Z Z Z cR h_y1 Z)<|yS Z (dj Z Z Z bY Z Z)<|yS Z (ze Z qJ Z Z)<|yS Z (zs Z Z Z Z bY Z Z Z Z)<|zN<|zT<|zQ<|zR<|yS Z (zA Z Z j3)<|yS Z (zD Z Z Z aT Z Z)<|yS Z (zD Z Z Z aT Z Z)<|yS Z (ab.eqlAgg Z Z Z Z Z tH)<|zN<|zT ?_;refine zX Z (fun g3 => ?_)<|fun g3 => ?_
    ·
     refine zi g3 hr fun hr => zR<|zM Z<|yS Z (zD Z Z Z bY Z Z)<|yS Z (zC Z Z Z (by kernel_rfl) (zp (EY (b := y1)) (.cons zv .nil)))<|yS Z (lY Z qe Z Z Z Z Z)<|zg hr fun q1 hr => yS Z (ab.appendX cv x1.out [nm y1] rfl Z Z Z kQ.p Z qe q1 Z)<|zM Z<|zN<|ah<|zT<|zR<|yS Z (aw Z Z Z Z)<|zM Z<|zN<|zT ?_;obtain rfl := zJ hr;exact ⟨_, rfl, zW 2 ⟨rfl, rfl, rfl, rfl, rfl, rfl, trivial⟩ Z Z Z rfl⟩
    ·
     refine zo g3 hr fun hr => zk<|ah<|zT<|zR<|yS Z (aw Z Z Z Z)<|zM Z<|zN<|zT ?_;obtain rfl := zJ hr;exact ⟨_, rfl, zW 2 ⟨rfl, rfl, rfl, rfl, rfl, rfl, trivial⟩ Z Z Z rfl⟩
   ·
    refine zo g2 hr fun hr => zq<|ao<|ao<|zy<|zT ?_;obtain rfl := zJ hr;have hr := congrArg some (hb_x1 _ rfl);obtain rfl := zJ hr;exact zW 2 ⟨Z, Z, trivial⟩ Z Z Z Z
  ·have hr := ho_v2;clear hb_v2;refine zT<|LW.weak hw_v2<|zQ<|zR<|zM Z<|zM Z<|zN<|zT<|zr ?_;obtain rfl := zJ hr;exact zf (.one (.tmp Z))<|(Conv.vecAll Z Z Z)
end Go.Mg
