/- What the logic needs to know of each type of the program. The program's structs as plain data, and how they lie in memory. The mixing functions. mix.Of. tree.Name, slices.Index, slices.Contains. tree.places. Plain facts of trees: what 'places' tells. tree.Chain. cursor.Move. Plain facts of chains and cursors. Plain laws of cursors. Atomic words, locks. sync.Once as the deck uses it. The rounds of the deck. tree.May, Find, Slot, Kids. Conditions: none. -/
import Derived.Test.YtbjmcafamkdokaaGreatX2
import Derived.Test.YtbjmcafamkdokaaGreatProg
import Derived.Test.YtbjmcafamkdokaaGreatX3
set_option maxRecDepth 100000
set_option linter.unusedSimpArgs false
set_option linter.unusedVariables false
namespace Go.Mg
open Go.Proofs
section
variable {w : World}
theorem zP : oJ Tryz.prog 37 = some (2, 1, false) := by kernel_rfl
theorem wx : oJ Tryz.prog 148 = some (3, 1, false) := by kernel_rfl
theorem B5 : oJ Tryz.prog 163 = some (2, 1, false) := by kernel_rfl
theorem Fe : oJ Tryz.prog 201 = some (10, 5, true) := by kernel_rfl
theorem Ks : bW Tryz.prog 25 = some ([LV.zs, LV.p (PV.int IntKind.u64 0), LV.p (PV.int IntKind.i64 0), LV.p (PV.int IntKind.i64 0), LV.p (PV.int IntKind.i64 0)], [(0, 1), (1, 1), (2, 1), (3, 1), (4, 1)]) := by kernel_rfl
theorem Cb : bW Tryz.prog 32 = some ([LV.zs, LV.p (PV.int IntKind.u64 0), LV.p (PV.int IntKind.i64 0), LV.p (PV.int IntKind.i64 0), LV.p (PV.int IntKind.i64 0), LV.zs, LV.p (PV.int IntKind.i64 0), LV.zs, LV.zs], [(0, 5), (5, 1), (6, 1), (7, 1), (8, 1)]) := by kernel_rfl
theorem wz : bW Tryz.prog 37 = some ([LV.p (PV.int IntKind.u64 0), LV.p (PV.int IntKind.u64 0)], [(0, 1), (1, 1)]) := by kernel_rfl
theorem HO : bW Tryz.prog 40 = some ([LV.p (PV.int IntKind.i64 0), LV.p (PV.int IntKind.i64 0), LV.p (PV.int IntKind.u64 0), LV.p (PV.int IntKind.u64 0), LV.p (PV.int IntKind.u64 0)], [(0, 1), (1, 1), (2, 2), (4, 1)]) := by kernel_rfl
theorem nS : bW Tryz.prog 44 = some ([LV.zs, LV.zs], [(0, 1), (1, 1)]) := by kernel_rfl
theorem Cc : bW Tryz.prog 46 = some ([LV.p (PV.int IntKind.i64 0), LV.p (PV.int IntKind.i64 0), LV.p (PV.int IntKind.i64 0), LV.p (PV.int IntKind.i64 0), LV.p (PV.int IntKind.u64 0), LV.p (PV.int IntKind.u64 0), LV.p (PV.int IntKind.u64 0), LV.zs, LV.zs], [(0, 1), (1, 1), (2, 5), (7, 2)]) := by kernel_rfl
theorem Kr : bW Tryz.prog 50 = some ([LV.p (PV.int IntKind.u64 0), LV.p (PV.int IntKind.u64 0), LV.p (PV.int IntKind.i64 0), LV.p (PV.int IntKind.i64 0)], [(0, 2), (2, 1), (3, 1)]) := by kernel_rfl
theorem Gk : bW Tryz.prog 52 = some ([LV.p (PV.int IntKind.i64 0), LV.p (PV.int IntKind.i64 0), LV.zs, LV.zs, LV.zs, LV.zs, LV.zs, LV.p (PV.int IntKind.u64 0), LV.p (PV.int IntKind.u64 0), LV.p (PV.int IntKind.i64 0), LV.p (PV.int IntKind.i64 0), LV.p (PV.bool false)], [(0, 1), (1, 1), (2, 2), (4, 2), (6, 1), (7, 4), (11, 1)]) := by kernel_rfl
theorem Gs : bW Tryz.prog 54 = some ([LV.p (PV.int IntKind.i64 0), LV.p (PV.int IntKind.i64 0), LV.p (PV.int IntKind.u64 0), LV.p (PV.int IntKind.u64 0)], [(0, 1), (1, 1), (2, 2)]) := by kernel_rfl
theorem Gr : bW Tryz.prog 92 = some ([LV.zs, LV.p (PV.int IntKind.u64 0), LV.p (PV.int IntKind.i64 0), LV.p (PV.int IntKind.i64 0), LV.p (PV.int IntKind.i64 0), LV.zs, LV.p (PV.int IntKind.i64 0), LV.zs, LV.zs, LV.zs, LV.zs, LV.p (PV.int IntKind.i64 0), LV.p (PV.bool false), LV.any, LV.p (PV.int IntKind.i64 0), LV.zs], [(0, 9), (9, 2), (11, 1), (12, 1), (13, 1), (14, 1), (15, 1)]) := by kernel_rfl
theorem Gq : bW Tryz.prog 108 = some ([LV.any, LV.any], [(0, 1), (1, 1)]) := by kernel_rfl
theorem Gn : bW Tryz.prog 143 = some ([LV.p (PV.int IntKind.i64 0), LV.p (PV.int IntKind.i64 0), LV.zs, LV.zs, LV.zs, LV.zs, LV.zs, LV.p (PV.int IntKind.u64 0), LV.p (PV.int IntKind.u64 0), LV.p (PV.int IntKind.i64 0), LV.p (PV.int IntKind.i64 0), LV.p (PV.bool false), LV.zs, LV.p (PV.int IntKind.u64 0), LV.p (PV.int IntKind.i64 0), LV.p (PV.int IntKind.i64 0), LV.p (PV.int IntKind.i64 0), LV.p (PV.int IntKind.i64 0), LV.zs], [(0, 12), (12, 5), (17, 1), (18, 1)]) := by kernel_rfl
theorem Gp : bW Tryz.prog 148 = some ([LV.any, LV.any, LV.any], [(0, 1), (1, 1), (2, 1)]) := by kernel_rfl
theorem Gl : bW Tryz.prog 163 = some ([LV.p (PV.int IntKind.u64 0), LV.p (PV.int IntKind.u64 0)], [(0, 1), (1, 1)]) := by kernel_rfl
theorem HM : bW Tryz.prog 206 = some ([LV.p (PV.int IntKind.u64 0), LV.p (PV.int IntKind.i64 0), LV.p (PV.int IntKind.u32 0), LV.p (PV.int IntKind.i32 0), LV.p (PV.int IntKind.u32 0), LV.p (PV.int IntKind.i64 0), LV.p (PV.int IntKind.u64 0), LV.p (PV.int IntKind.u32 0), LV.p (PV.int IntKind.i32 0), LV.p (PV.int IntKind.u32 0), LV.p (PV.int IntKind.i64 0), LV.p (PV.int IntKind.u64 0), LV.p (PV.int IntKind.u32 0), LV.p (PV.int IntKind.i32 0), LV.p (PV.int IntKind.u32 0), LV.p (PV.int IntKind.i64 0), LV.p (PV.int IntKind.u64 0), LV.p (PV.int IntKind.u32 0), LV.p (PV.int IntKind.i32 0), LV.p (PV.int IntKind.u32 0), LV.p (PV.int IntKind.i64 0), LV.p (PV.int IntKind.u64 0), LV.p (PV.int IntKind.u32 0), LV.p (PV.int IntKind.i32 0), LV.p (PV.int IntKind.u32 0), LV.p (PV.int IntKind.i64 0), LV.p (PV.int IntKind.u64 0), LV.p (PV.int IntKind.u32 0), LV.p (PV.int IntKind.i32 0), LV.p (PV.int IntKind.u32 0), LV.p (PV.int IntKind.i64 0), LV.p (PV.int IntKind.u64 0), LV.p (PV.int IntKind.u32 0), LV.p (PV.int IntKind.i32 0), LV.p (PV.int IntKind.u32 0), LV.p (PV.int IntKind.i64 0), LV.p (PV.int IntKind.u64 0), LV.p (PV.int IntKind.u32 0), LV.p (PV.int IntKind.i32 0), LV.p (PV.int IntKind.u32 0), LV.p (PV.int IntKind.i64 0), LV.p (PV.int IntKind.u64 0), LV.p (PV.int IntKind.u32 0), LV.p (PV.int IntKind.i32 0), LV.p (PV.int IntKind.u32 0), LV.p (PV.int IntKind.i64 0), LV.p (PV.int IntKind.u64 0), LV.p (PV.int IntKind.u32 0), LV.p (PV.int IntKind.i32 0), LV.p (PV.int IntKind.u32 0), LV.p (PV.int IntKind.i64 0), LV.p (PV.int IntKind.u64 0), LV.p (PV.int IntKind.i64 0)], [(0, 1), (1, 1), (2, 50), (52, 1)]) := by kernel_rfl
theorem Gm : bW Tryz.prog 235 = some ([LV.nilmap, LV.nilmap], [(0, 1), (1, 1)]) := by kernel_rfl
theorem Cd : bW Tryz.prog 238 = some ([LV.p (PV.int IntKind.i64 0), LV.p (PV.int IntKind.i64 0)], [(0, 1), (1, 1)]) := by kernel_rfl
theorem Ff : bW Tryz.prog 242 = some ([LV.p (PV.int IntKind.i64 0), LV.p (PV.int IntKind.u64 0), LV.p (PV.int IntKind.u64 0)], [(0, 1), (1, 2)]) := by kernel_rfl
theorem HN : bW Tryz.prog 251 = some ([LV.zs, LV.zs, LV.nilmap, LV.nilmap, LV.p (PV.int IntKind.i64 0), LV.p (PV.bool false)], [(0, 2), (2, 1), (3, 1), (4, 1), (5, 1)]) := by kernel_rfl
theorem rY : lA Tryz.prog 37 2 = true := by kernel_rfl
theorem I6 : lA Tryz.prog 40 5 = true := by kernel_rfl
theorem FB : lA Tryz.prog 54 4 = true := by kernel_rfl
theorem EH : lA Tryz.prog 163 2 = true := by kernel_rfl
theorem EI : lA Tryz.prog 238 2 = true := by kernel_rfl
theorem GS : lA Tryz.prog 242 3 = true := by kernel_rfl
theorem gM : an Tryz.prog 25 0 = some (0, 1, false) := by kernel_rfl
theorem CL : an Tryz.prog 25 1 = some (1, 1, false) := by kernel_rfl
theorem qx : an Tryz.prog 25 2 = some (2, 1, false) := by kernel_rfl
theorem wK : an Tryz.prog 25 3 = some (3, 1, false) := by kernel_rfl
theorem qy : an Tryz.prog 25 4 = some (4, 1, false) := by kernel_rfl
theorem i9 : an Tryz.prog 32 0 = some (0, 5, true) := by kernel_rfl
theorem ky : an Tryz.prog 32 1 = some (5, 1, false) := by kernel_rfl
theorem ja : an Tryz.prog 32 2 = some (6, 1, false) := by kernel_rfl
theorem bK : an Tryz.prog 32 3 = some (7, 1, false) := by kernel_rfl
theorem gJ : an Tryz.prog 32 4 = some (8, 1, false) := by kernel_rfl
theorem kA : an Tryz.prog 40 0 = some (0, 1, false) := by kernel_rfl
theorem wJ : an Tryz.prog 40 1 = some (1, 1, false) := by kernel_rfl
theorem l6 : an Tryz.prog 40 2 = some (2, 2, true) := by kernel_rfl
theorem GV : an Tryz.prog 40 3 = some (4, 1, false) := by kernel_rfl
theorem bD : an Tryz.prog 44 0 = some (0, 1, false) := by kernel_rfl
theorem bP : an Tryz.prog 44 1 = some (1, 1, false) := by kernel_rfl
theorem u4 : an Tryz.prog 46 0 = some (0, 1, false) := by kernel_rfl
theorem CG : an Tryz.prog 46 1 = some (1, 1, false) := by kernel_rfl
theorem qt : an Tryz.prog 46 2 = some (2, 5, true) := by kernel_rfl
theorem jb : an Tryz.prog 46 3 = some (7, 2, true) := by kernel_rfl
theorem tk : an Tryz.prog 50 0 = some (0, 2, true) := by kernel_rfl
theorem CH : an Tryz.prog 50 1 = some (2, 1, false) := by kernel_rfl
theorem GU : an Tryz.prog 50 2 = some (3, 1, false) := by kernel_rfl
theorem gK : an Tryz.prog 52 0 = some (0, 1, false) := by kernel_rfl
theorem cX : an Tryz.prog 52 1 = some (1, 1, false) := by kernel_rfl
theorem ce : an Tryz.prog 52 2 = some (2, 2, true) := by kernel_rfl
theorem cg : an Tryz.prog 52 3 = some (4, 2, true) := by kernel_rfl
theorem cL : an Tryz.prog 52 4 = some (6, 1, false) := by kernel_rfl
theorem qr : an Tryz.prog 52 5 = some (7, 4, true) := by kernel_rfl
theorem kz : an Tryz.prog 52 6 = some (11, 1, false) := by kernel_rfl
theorem qz : an Tryz.prog 54 0 = some (0, 1, false) := by kernel_rfl
theorem qA : an Tryz.prog 54 1 = some (1, 1, false) := by kernel_rfl
theorem l7 : an Tryz.prog 54 2 = some (2, 2, true) := by kernel_rfl
theorem CE : an Tryz.prog 73 0 = some (0, 1, false) := by kernel_rfl
theorem uZ : an Tryz.prog 73 1 = some (1, 1, false) := by kernel_rfl
theorem CF : an Tryz.prog 73 2 = some (2, 1, false) := by kernel_rfl
theorem qm : an Tryz.prog 73 3 = some (3, 1, false) := by kernel_rfl
theorem qo : an Tryz.prog 73 4 = some (4, 1, false) := by kernel_rfl
theorem CK : an Tryz.prog 92 0 = some (0, 9, true) := by kernel_rfl
theorem qv : an Tryz.prog 92 1 = some (9, 2, true) := by kernel_rfl
theorem qw : an Tryz.prog 92 2 = some (11, 1, false) := by kernel_rfl
theorem u7 : an Tryz.prog 92 3 = some (12, 1, false) := by kernel_rfl
theorem u8 : an Tryz.prog 92 4 = some (13, 1, false) := by kernel_rfl
theorem u9 : an Tryz.prog 92 5 = some (14, 1, false) := by kernel_rfl
theorem va : an Tryz.prog 92 6 = some (15, 1, false) := by kernel_rfl
theorem CI : an Tryz.prog 108 0 = some (0, 1, false) := by kernel_rfl
theorem CJ : an Tryz.prog 108 1 = some (1, 1, false) := by kernel_rfl
theorem ar : an Tryz.prog 143 0 = some (0, 12, true) := by kernel_rfl
theorem gL : an Tryz.prog 143 1 = some (12, 5, true) := by kernel_rfl
theorem cM : an Tryz.prog 143 2 = some (17, 1, false) := by kernel_rfl
theorem mW : an Tryz.prog 143 3 = some (18, 1, false) := by kernel_rfl
theorem qp : an Tryz.prog 156 0 = some (0, 1, false) := by kernel_rfl
theorem qq : an Tryz.prog 156 1 = some (1, 1, false) := by kernel_rfl
theorem x5 : an Tryz.prog 192 1 = some (0, 1, false) := by kernel_rfl
theorem tg : an Tryz.prog 194 0 = some (0, 1, false) := by kernel_rfl
theorem x6 : an Tryz.prog 196 1 = some (0, 2, true) := by kernel_rfl
theorem pt : an Tryz.prog 198 1 = some (0, 1, true) := by kernel_rfl
theorem x7 : an Tryz.prog 198 2 = some (1, 2, true) := by kernel_rfl
theorem x8 : an Tryz.prog 200 0 = some (0, 3, true) := by kernel_rfl
theorem x9 : an Tryz.prog 200 1 = some (3, 1, false) := by kernel_rfl
theorem ya : an Tryz.prog 200 2 = some (4, 1, false) := by kernel_rfl
theorem yb : an Tryz.prog 204 2 = some (0, 1, false) := by kernel_rfl
theorem yc : an Tryz.prog 206 0 = some (0, 1, false) := by kernel_rfl
theorem th : an Tryz.prog 206 1 = some (1, 1, false) := by kernel_rfl
theorem yd : an Tryz.prog 206 2 = some (2, 50, true) := by kernel_rfl
theorem ti : an Tryz.prog 206 3 = some (52, 1, true) := by kernel_rfl
theorem qu : an Tryz.prog 235 0 = some (0, 1, false) := by kernel_rfl
theorem u5 : an Tryz.prog 235 1 = some (1, 1, false) := by kernel_rfl
theorem u6 : an Tryz.prog 238 0 = some (0, 1, false) := by kernel_rfl
theorem mV : an Tryz.prog 242 0 = some (0, 1, false) := by kernel_rfl
theorem tj : an Tryz.prog 242 1 = some (1, 2, true) := by kernel_rfl
theorem eJ : an Tryz.prog 251 0 = some (0, 2, true) := by kernel_rfl
theorem lp : an Tryz.prog 251 1 = some (2, 1, false) := by kernel_rfl
theorem pu : an Tryz.prog 251 2 = some (3, 1, false) := by kernel_rfl
theorem ye : an Tryz.prog 251 3 = some (4, 1, false) := by kernel_rfl
theorem pw : an Tryz.prog 251 4 = some (5, 1, false) := by kernel_rfl
theorem yo : dw Tryz.prog 120 = some (37, 4, 2, true) := by kernel_rfl
theorem kf : dw Tryz.prog 122 = some (37, 3, 2, true) := by kernel_rfl
theorem FI : dw Tryz.prog 209 = some (3, 4, 1, false) := by kernel_rfl
theorem C3 : dw Tryz.prog 232 = some (238, 37, 2, true) := by kernel_rfl
theorem C4 : dw Tryz.prog 233 = some (238, 4, 2, true) := by kernel_rfl
theorem C5 : dw Tryz.prog 249 = some (54, 4, 4, true) := by kernel_rfl
theorem fY : cD Tryz.prog 22 = some (1, 8) := by kernel_rfl
theorem mq : cD Tryz.prog 26 = some (5, 72) := by kernel_rfl
theorem dR : cD Tryz.prog 29 = some (12, 176) := by kernel_rfl
theorem ca : cD Tryz.prog 30 = some (9, 104) := by kernel_rfl
theorem eB : cD Tryz.prog 41 = some (5, 40) := by kernel_rfl
theorem dF : cD Tryz.prog 42 = some (4, 32) := by kernel_rfl
theorem nw : cD Tryz.prog 47 = some (2, 16) := by kernel_rfl
theorem EZ : cD Tryz.prog 99 = some (1, 8) := by kernel_rfl
theorem G6 : cD Tryz.prog 212 = some (1, 8) := by kernel_rfl
theorem xc : cD Tryz.prog 224 = some (1, 24) := by kernel_rfl
theorem bC : aK Tryz.prog 3 = some (1, false) := by kernel_rfl
theorem AQ : aK Tryz.prog 4 = some (1, false) := by kernel_rfl
theorem K4 : aK Tryz.prog 21 = some (1, false) := by kernel_rfl
theorem fh : aK Tryz.prog 22 = some (1, false) := by kernel_rfl
theorem nB : aK Tryz.prog 23 = some (1, false) := by kernel_rfl
theorem bE : aK Tryz.prog 25 = some (5, true) := by kernel_rfl
theorem Dw : aK Tryz.prog 26 = some (1, false) := by kernel_rfl
theorem dk : aK Tryz.prog 29 = some (1, false) := by kernel_rfl
theorem bT : aK Tryz.prog 30 = some (1, false) := by kernel_rfl
theorem bU : aK Tryz.prog 32 = some (9, true) := by kernel_rfl
theorem aR : aK Tryz.prog 37 = some (2, true) := by kernel_rfl
theorem cH : aK Tryz.prog 40 = some (5, true) := by kernel_rfl
theorem dE : aK Tryz.prog 41 = some (1, false) := by kernel_rfl
theorem eC : aK Tryz.prog 42 = some (1, false) := by kernel_rfl
theorem aT : aK Tryz.prog 44 = some (2, true) := by kernel_rfl
theorem f4 : aK Tryz.prog 46 = some (9, true) := by kernel_rfl
theorem E5 : aK Tryz.prog 47 = some (1, false) := by kernel_rfl
theorem jX : aK Tryz.prog 50 = some (4, true) := by kernel_rfl
theorem co : aK Tryz.prog 52 = some (12, true) := by kernel_rfl
theorem cB : aK Tryz.prog 54 = some (4, true) := by kernel_rfl
theorem jW : aK Tryz.prog 73 = some (5, true) := by kernel_rfl
theorem DC : aK Tryz.prog 90 = some (1, false) := by kernel_rfl
theorem ri : aK Tryz.prog 92 = some (16, true) := by kernel_rfl
theorem G8 : aK Tryz.prog 105 = some (1, false) := by kernel_rfl
theorem sL : aK Tryz.prog 106 = some (1, false) := by kernel_rfl
theorem DB : aK Tryz.prog 108 = some (2, true) := by kernel_rfl
theorem DA : aK Tryz.prog 120 = some (1, false) := by kernel_rfl
theorem AN : aK Tryz.prog 122 = some (1, false) := by kernel_rfl
theorem xj : aK Tryz.prog 147 = some (1, false) := by kernel_rfl
theorem G7 : aK Tryz.prog 148 = some (3, true) := by kernel_rfl
theorem xh : aK Tryz.prog 156 = some (2, true) := by kernel_rfl
theorem rh : aK Tryz.prog 163 = some (2, true) := by kernel_rfl
theorem rg : aK Tryz.prog 186 = some (1, false) := by kernel_rfl
theorem Dy : aK Tryz.prog 209 = some (1, false) := by kernel_rfl
theorem xi : aK Tryz.prog 232 = some (1, false) := by kernel_rfl
theorem Dx : aK Tryz.prog 233 = some (1, false) := by kernel_rfl
theorem tI : aK Tryz.prog 235 = some (2, true) := by kernel_rfl
theorem mz : aK Tryz.prog 238 = some (2, true) := by kernel_rfl
theorem oU : aK Tryz.prog 242 = some (3, true) := by kernel_rfl
theorem Dz : aK Tryz.prog 246 = some (1, false) := by kernel_rfl
theorem yx : aK Tryz.prog 249 = some (1, false) := by kernel_rfl
theorem oV : aK Tryz.prog 252 = some (1, false) := by kernel_rfl
theorem E8 : kb Tryz.prog 3 = some (LV.p (PV.int IntKind.i64 0)) := by kernel_rfl
theorem JZ : kb Tryz.prog 4 = some (LV.p (PV.bool false)) := by kernel_rfl
theorem K6 : kb Tryz.prog 37 = some (LV.p (PV.agg [PV.int IntKind.u64 0, PV.int IntKind.u64 0])) := by kernel_rfl
theorem Lk : bw Tryz.prog 3 = some [LV.p (PV.int IntKind.i64 0)] := by kernel_rfl
theorem K9 : bw Tryz.prog 22 = some [LV.zs] := by kernel_rfl
theorem La : bw Tryz.prog 25 = some [LV.zs, LV.p (PV.int IntKind.u64 0), LV.p (PV.int IntKind.i64 0), LV.p (PV.int IntKind.i64 0), LV.p (PV.int IntKind.i64 0)] := by kernel_rfl
theorem kW : bw Tryz.prog 32 = some [LV.zs, LV.p (PV.int IntKind.u64 0), LV.p (PV.int IntKind.i64 0), LV.p (PV.int IntKind.i64 0), LV.p (PV.int IntKind.i64 0), LV.zs, LV.p (PV.int IntKind.i64 0), LV.zs, LV.zs] := by kernel_rfl
theorem jo : bw Tryz.prog 37 = some [LV.p (PV.int IntKind.u64 0), LV.p (PV.int IntKind.u64 0)] := by kernel_rfl
theorem tK : bw Tryz.prog 40 = some [LV.p (PV.int IntKind.i64 0), LV.p (PV.int IntKind.i64 0), LV.p (PV.int IntKind.u64 0), LV.p (PV.int IntKind.u64 0), LV.p (PV.int IntKind.u64 0)] := by kernel_rfl
theorem Lb : bw Tryz.prog 42 = some [LV.zs] := by kernel_rfl
theorem ia : bw Tryz.prog 44 = some [LV.zs, LV.zs] := by kernel_rfl
theorem rm : bw Tryz.prog 46 = some [LV.p (PV.int IntKind.i64 0), LV.p (PV.int IntKind.i64 0), LV.p (PV.int IntKind.i64 0), LV.p (PV.int IntKind.i64 0), LV.p (PV.int IntKind.u64 0), LV.p (PV.int IntKind.u64 0), LV.p (PV.int IntKind.u64 0), LV.zs, LV.zs] := by kernel_rfl
theorem K8 : bw Tryz.prog 47 = some [LV.zs] := by kernel_rfl
theorem K7 : bw Tryz.prog 50 = some [LV.p (PV.int IntKind.u64 0), LV.p (PV.int IntKind.u64 0), LV.p (PV.int IntKind.i64 0), LV.p (PV.int IntKind.i64 0)] := by kernel_rfl
theorem rl : bw Tryz.prog 52 = some [LV.p (PV.int IntKind.i64 0), LV.p (PV.int IntKind.i64 0), LV.zs, LV.zs, LV.zs, LV.zs, LV.zs, LV.p (PV.int IntKind.u64 0), LV.p (PV.int IntKind.u64 0), LV.p (PV.int IntKind.i64 0), LV.p (PV.int IntKind.i64 0), LV.p (PV.bool false)] := by kernel_rfl
theorem rC : bw Tryz.prog 54 = some [LV.p (PV.int IntKind.i64 0), LV.p (PV.int IntKind.i64 0), LV.p (PV.int IntKind.u64 0), LV.p (PV.int IntKind.u64 0)] := by kernel_rfl
theorem xl : bw Tryz.prog 73 = some [LV.p (PV.int IntKind.i64 0), LV.p (PV.int IntKind.i64 0), LV.p (PV.bool false), LV.zs, LV.zs] := by kernel_rfl
theorem xq : bw Tryz.prog 92 = some [LV.zs, LV.p (PV.int IntKind.u64 0), LV.p (PV.int IntKind.i64 0), LV.p (PV.int IntKind.i64 0), LV.p (PV.int IntKind.i64 0), LV.zs, LV.p (PV.int IntKind.i64 0), LV.zs, LV.zs, LV.zs, LV.zs, LV.p (PV.int IntKind.i64 0), LV.p (PV.bool false), LV.any, LV.p (PV.int IntKind.i64 0), LV.zs] := by kernel_rfl
theorem J0 : bw Tryz.prog 106 = some [LV.any] := by kernel_rfl
theorem DL : bw Tryz.prog 108 = some [LV.any, LV.any] := by kernel_rfl
theorem J3 : bw Tryz.prog 120 = some [LV.nilmap] := by kernel_rfl
theorem He : bw Tryz.prog 148 = some [LV.any, LV.any, LV.any] := by kernel_rfl
theorem xm : bw Tryz.prog 156 = some [LV.zs, LV.zs] := by kernel_rfl
theorem xn : bw Tryz.prog 163 = some [LV.p (PV.int IntKind.u64 0), LV.p (PV.int IntKind.u64 0)] := by kernel_rfl
theorem J1 : bw Tryz.prog 209 = some [LV.nilmap] := by kernel_rfl
theorem xp : bw Tryz.prog 235 = some [LV.nilmap, LV.nilmap] := by kernel_rfl
theorem DK : bw Tryz.prog 238 = some [LV.p (PV.int IntKind.i64 0), LV.p (PV.int IntKind.i64 0)] := by kernel_rfl
theorem FY : bw Tryz.prog 242 = some [LV.p (PV.int IntKind.i64 0), LV.p (PV.int IntKind.u64 0), LV.p (PV.int IntKind.u64 0)] := by kernel_rfl
theorem J2 : bw Tryz.prog 246 = some [LV.any] := by kernel_rfl
theorem FZ : bw Tryz.prog 252 = some [LV.any] := by kernel_rfl
end
abbrev ID := Int × Int
def bH (p : ID) : PV := .agg [.int .u64 p.1, .int .u64 p.2]
def kT (x : Int) : PV := .int .u64 x
structure Bk where
 Slot : Int
 From : Int
 Parent : ID
 Salt : Int
 deriving DecidableEq
def ax (b : Bk) : PV := .agg [.int .i64 b.Slot, .int .i64 b.From, .int .u64 b.Parent.1, .int .u64 b.Parent.2, .int .u64 b.Salt]
structure Vt where
 From : Int
 Slot : Int
 Head : ID
 deriving DecidableEq
def aI (v : Vt) : PV := .agg [.int .i64 v.From, .int .i64 v.Slot, .int .u64 v.Head.1, .int .u64 v.Head.2]
structure Cf where
 W : List Int
 Seed : Int
 Epoch : Int
 Num : Int
 Den : Int
def jx (c : Cf) : PV := .agg [.slice 1 (c.W.map aE), .int .u64 c.Seed, .int .i64 c.Epoch, .int .i64 c.Num, .int .i64 c.Den]
structure Vw where
 B : List Bk
 V : List Vt
def mA (v : Vw) : PV := .agg [.slice 5 (v.B.map ax), .slice 4 (v.V.map aI)]
structure Cu where
 ID : Go.Mg.ID
 Slot : Int
 Revoked : Int
 deriving DecidableEq
def rx (c : Cu) : PV := .agg [.int .u64 c.ID.1, .int .u64 c.ID.2, .int .i64 c.Slot, .int .i64 c.Revoked]
structure Rk where
 n : Int
 id : Go.Mg.ID
def Lj (c : Rk) : PV := .agg [.int .i64 c.n, .int .u64 c.id.1, .int .u64 c.id.2]
theorem Ja {a b : ID} {r : Bool} (h : ci [.int .u64 a.1, .int .u64 a.2] [.int .u64 b.1, .int .u64 b.2] = some r) : r = decide (a = b) := by
 rw [qc] at h;cases h;obtain ⟨x, y⟩ := a;obtain ⟨z, w⟩ := b;simp only [Bool.and_true, Prod.mk.injEq];by_cases h1 : x = z <;> by_cases h2 : y = w <;> simp [h1, h2]
theorem dO : e8 bH 2 true := ⟨fun a b => by
 obtain ⟨x, y⟩ := a;obtain ⟨z, w⟩ := b;simp only [bH, gQ, qc, Bool.and_true, Prod.mk.injEq, Option.some.injEq]
 by_cases h1 : x = z <;> by_cases h2 : y = w <;> simp [h1, h2], fun _ => rfl⟩
theorem CP : e8 aE 1 false := ⟨fun a b => by simp only [aE, gQ, if_pos, Option.some.injEq]; by_cases h : a = b <;> simp [h], fun _ => rfl⟩
theorem yy : e8 aI 4 true := ⟨fun a b => by
 obtain ⟨a1, a2, a3⟩ := a;obtain ⟨b1, b2, b3⟩ := b;simp only [aI, gQ, ci, if_pos, Option.some.injEq, Vt.mk.injEq];rw [Bool.eq_iff_iff];obtain ⟨a3, a4⟩ := a3;obtain ⟨b3, b4⟩ := b3
 simp, fun _ => rfl⟩
theorem z7 (a b : ID) : ((a.1 == b.1) && ((a.2 == b.2) && true)) = decide (a = b) := by
 obtain ⟨x, y⟩ := a;obtain ⟨z, w⟩ := b;by_cases h1 : x = z <;> by_cases h2 : y = w <;> simp [h1, h2]
theorem KY (a b : Bk) : ((a.Slot == b.Slot) && ((a.From == b.From) && ((a.Parent.1 == b.Parent.1) && ((a.Parent.2 == b.Parent.2) && ((a.Salt == b.Salt) && true))))) = decide (a = b) := by
 obtain ⟨a1, a2, ⟨a3, a4⟩, a5⟩ := a;obtain ⟨b1, b2, ⟨b3, b4⟩, b5⟩ := b;simp only [Bool.and_true, Bk.mk.injEq, Prod.mk.injEq];rw [Bool.eq_iff_iff];simp [and_assoc]
theorem I5 (a b : Vt) : ((a.From == b.From) && ((a.Slot == b.Slot) && ((a.Head.1 == b.Head.1) && ((a.Head.2 == b.Head.2) && true)))) = decide (a = b) := by
 obtain ⟨a1, a2, ⟨a3, a4⟩⟩ := a;obtain ⟨b1, b2, ⟨b3, b4⟩⟩ := b;rw [Bool.eq_iff_iff];simp
abbrev kB (l : List Bk) : LV := .p (.slice 5 (l.map ax))
abbrev kV (l : List Vt) : LV := .p (.slice 4 (l.map aI))
abbrev kI (l : List Int) : LV := .p (.slice 1 (l.map aE))
abbrev jB (i : Nat) (l : List Bk) : LV := .vec 5 i (l.map ax).length 0 (l.map ax).length
abbrev jV (i : Nat) (l : List Vt) : LV := .vec 4 i (l.map aI).length 0 (l.map aI).length
abbrev jI (i : Nat) (l : List Int) : LV := .vec 1 i (l.map aE).length 0 (l.map aE).length
abbrev mQ (m : List (ID × Int)) : aa := .map (af bH (fun v => .p (.int .i64 v)) m)
abbrev mR (m : List (Vt × Bool)) : aa := .map (af aI (fun v => .p (.bool v)) m)
abbrev bB (c : Cf) : List LV := [.p (.slice 1 (c.W.map aE)), .p (.int .u64 c.Seed), .p (.int .i64 c.Epoch), .p (.int .i64 c.Num), .p (.int .i64 c.Den)]
abbrev de (w : Vw) : List LV := [.p (.slice 5 (w.B.map ax)), .p (.slice 4 (w.V.map aI))]
open Go.Proofs
def Jx (x : Int) : Int :=
 let a := IntKind.u64.wrap (bits .xor .u64 x (x.fdiv (2 ^ (min (Int.toNat 30) IntKind.u64.bits))) * 13787848793156543929)
 let b := IntKind.u64.wrap (bits .xor .u64 a (a.fdiv (2 ^ (min (Int.toNat 27) IntKind.u64.bits))) * 10723151780598845931)
 bits .xor .u64 b (b.fdiv (2 ^ (min (Int.toNat 31) IntKind.u64.bits)))
def step (h x : Int) : Int := Jx (IntKind.u64.wrap (bits .xor .u64 h x + 11400714819323198485))
def Lg (x : Int) : Int := bits .xor .u64 (if IntKind.u64.signed then -1 else IntKind.u64.max) x
theorem KF {x : Int} : av Tryz.prog 125 [.int .u64 x] [.int .u64 (Jx x)] := by
 refine zh Tryz.func125 Z Z Z Z ?_;refine zQ<|zR<|yS Z (za Z Z)<|zN<|zT<|zQ<|zR<|yS Z (zm Z Z)<|yS Z (zm Z Z)<|yS Z (ab.shr Z Z Z (by decide))<|yS Z (aw Z Z Z Z)<|yS Z (aw Z Z Z Z)<|yS Z (za Z Z)<|zN<|zT<|zQ<|zR<|yS Z (zm Z Z)<|yS Z (zm Z Z)<|yS Z (ab.shr Z Z Z (by decide))<|yS Z (aw Z Z Z Z)<|yS Z (aw Z Z Z Z)<|yS Z (za Z Z)<|zN ?_;exact zT<|zQ<|zR<|yS Z (zm Z Z)<|yS Z (zm Z Z)<|yS Z (ab.shr Z Z Z (by decide))<|yS Z (aw Z Z Z Z)<|yS Z (za Z Z)<|zN<|zT<|zr<|zf (.one (.tmp Z)) zv
theorem uC {h x : Int} : av Tryz.prog 70 [.int .u64 h, .int .u64 x] [.int .u64 (step h x)] := by
 refine zh Tryz.func70 Z Z Z Z ?_;exact zQ<|zR<|yS Z (za Z Z)<|zN<|zT<|zQ<|zR<|yS Z (zm Z Z)<|yS Z (zm Z Z)<|yS Z (aw Z Z Z Z)<|yS Z (aw Z Z Z Z)<|yS Z (zC Z Z Z (by kernel_rfl) (zp KF (.cons zv .nil)))<|yS Z (za Z Z)<|zN<|zT<|zr<|zf (.one (.tmp Z)) zv
theorem H8 {x a b : Int} {id : Nat} {H H' : List aa} (hH : aM H id = some (.box [(uQ a), (uQ b)])) (hH' : aX H id (.box [.p (.int .u64 (step a x)), .p (.int .u64 (step b (Lg x)))]) = some H') : LC Tryz.prog 102 [(uQ x), .ptr id 0] H (Is (.tup []) H') := by
 refine dc Tryz.func102 Z Z Z ?_;exact LW.drawLast (m := 10) (by kernel_rfl) (by kernel_rfl) (by kernel_rfl)<|yE Z (ab.indexAddrA Z Z Z zP (by decide) (by decide))<|yE Z (zD Z Z hH nB Z Z)<|yE Z (zm Z Z)<|yE Z (zC Z Z Z (by kernel_rfl) (zp uC (.cons zv (.cons zv .nil))))<|yE Z (ab.indexAddrA Z Z Z zP (by decide) (by decide))<|yE Z (zD Z Z hH nB Z Z)<|yE Z (zm Z Z)<|yE Z (ab.compl Z Z)<|yE Z (zC Z Z Z (by kernel_rfl) (zp uC (.cons zv (.cons zv .nil))))<|yE Z (ab.build Z wz Z Z Z)<|LO.nil<|yS Z (zs Z Z Z hH aR Z Z Z hH')<|zN<|gh .none<|⟨rfl, rfl⟩
open Go.Proofs
def na (p : Int × Int) (x : Int) : Int × Int := (step p.1 x, step p.2 (Lg x))
def C2 (l : List Int) : Int × Int := na (l.foldl na (1, 2)) (IntKind.u64.wrap l.length)
theorem Lw {l : List Int} : av Tryz.prog 54 [.slice 1 (l.map kT)] [bH (C2 l)] := by
 refine zh Tryz.func54 Z Z Z Z ?_;refine zQ ?_;refine LW.ok (t := 0) Z<|fun ok => ?_;have hlen := ok.len;simp only [List.length_map, maxLen] at hlen;refine zR<|yS Z (ze Z jo Z Z)<|zN<|zT<|zQ<|zR<|yS Z (ab.build Z wz Z Z Z)<|yS Z (ze Z jo Z Z)<|yS Z (zs Z Z Z Z aR Z Z Z Z)<|zN<|zT<|zQ<|zR<|yS Z (ab.makeFunc Z Z Z)<|yS Z (za Z Z)<|zN<|zT<|zQ<|zQ<|zR<|yS Z (zm Z Z)<|yS Z (ab.len Z Z (by kernel_rfl))<|yS Z (zm Z Z)<|zN ?_;refine zT<|zl ?_;refine LW.loopOf (E := fun x : Nat × Int × Int => [(0, .p (.slice 1 (l.map kT))), (2, .ptr 0 0), (3, .ptr 1 0), (4, .fn 102 [] [.ptr 1 0]), (9, .p (.slice 1 (l.map kT))), (10, .p (.int .i64 (l.map kT).length)), (11, .p (.int .i64 (x.1 : Nat)))]) (O := fun x => [.box [(uQ 0), (uQ 0)], .box [(uQ x.2.1), (uQ x.2.2)]]) (G := fun x => x.1 ≤ l.length ∧ x.2 = (l.take x.1).foldl na (1, 2)) (meas := fun x => l.length - x.1) (0, 1, 2) (zW 2 ⟨rfl, rfl, rfl, rfl, rfl, rfl, rfl, trivial⟩ Z Z Z Z) ⟨Nat.zero_le _, rfl⟩<|fun x hx => ?_;refine zQ<|zR<|yS Z (aw Z Z Z Z)<|zN<|zT<|zQ ?_;refine zX Z (fun g1 => ?_)<|fun g1 => ?_
 ·
  refine zk<|zT<|zQ<|zl<|zQ ?_
  have hlt : x.1 < l.length := by simpa using g1
  obtain ⟨y, hy⟩ := m6 hlt;refine zR (yS Z (ab.indexAddr Z Z Z EZ (by omega) (tu hy) Z) (yS Z (dS Z Z Z nB Z Z) (yS Z (za Z Z) (zN (zT (zR (yS Z (zm Z Z) (yS Z (zm Z Z) (yS Z (zC Z Z Z (by kernel_rfl) (H8 (id := 1) Z Z)) (zN (ai (zT (zR (yS Z (ab.isEq (y := .p (.int .i64 ((x.1 + 1 : Nat) : Int))) (aw Z Z Z Z) (by rw [cv (by omega) (by omega)]; rfl)) (yS Z (zm Z Z) (zN (zT ?_)))))))))))))))));refine ⟨(x.1 + 1, na x.2 y), ?_, ?_, zW 2 ⟨rfl, rfl, rfl, rfl, rfl, rfl, rfl, trivial⟩ Z Z Z rfl⟩
  ·simp only; omega
  ·refine ⟨hlt, ?_⟩; rw [List.take_add_one, hy, List.foldl_append, ← hx.2]; rfl
 ·
  refine zq<|ao<|ao<|zy<|zT<|zQ ?_
  have hnlt : ¬ x.1 < l.length := by simpa using g1
  have hend : x.1 = l.length := by omega
  have hfold : x.2 = l.foldl na (1, 2) := by rw [hx.2, hend, List.take_length]
  refine zR<|yS Z (zm Z Z)<|yS Z (zm Z Z)<|yS Z (ab.len Z Z (by kernel_rfl))<|yS Z (ab.convert (k' := .u64) Z Z (by kernel_rfl))<|yS Z (zC Z Z Z (by kernel_rfl) (H8 (id := 1) Z Z))<|zN<|zT<|zQ<|zR<|yS Z (zD Z Z Z aR Z Z)<|yS Z (zs Z Z Z Z aR Z Z Z Z)<|zN<|zT<|zr<|zf (.one (.cellAgg Z Z (by kernel_rfl) Z))<|Conv.pe ?_;simp only [List.length_map, bH, C2, ← hfold];rfl
open Go.Proofs
def sw (b : Bk) : List Int := [1, IntKind.u64.wrap b.Slot, IntKind.u64.wrap b.From, b.Parent.1, b.Parent.2, b.Salt]
def nm (b : Bk) : ID := C2 (sw b)
def aU (l : List ID) (v : ID) : Int := match l.findIdx? (fun x => decide (v = x)) with | some i => (i : Nat) | none => -1
theorem mc {l : List ID} {v : ID} {i : Nat} (h : l[i]? = some v) (hno : ∀ j, j < i → l[j]? ≠ some v) : aU l v = i := by
 have hi := (List.getElem?_eq_some_iff.1 h).1
 have : l.findIdx? (fun x => decide (v = x)) = some i := by
  rw [List.findIdx?_eq_some_iff_getElem];refine ⟨hi, by simp [(List.getElem?_eq_some_iff.1 h).2], fun j hj => ?_⟩;have := hno j hj;rw [List.getElem?_eq_getElem (by omega)] at this;simpa using fun e => this (by rw [e])
 simp [aU, this]
theorem mX {l : List ID} {v : ID} (hno : ∀ j, j < l.length → l[j]? ≠ some v) : aU l v = -1 := by
 have : l.findIdx? (fun x => decide (v = x)) = none := by
  rw [List.findIdx?_eq_none_iff];intro x hx;obtain ⟨j, hj, rfl⟩ := List.mem_iff_getElem.1 hx;have := hno j hj;rw [List.getElem?_eq_getElem hj] at this;simpa using fun e => this (by rw [e])
 simp [aU, this]
theorem Fr {b : Bk} : av Tryz.prog 19 [ax b] [bH (nm b)] := by
 refine zh Tryz.func19 Z Z Z Z ?_;refine zQ<|zR<|yS Z (bV Z Z Z Z Z)<|yS Z (ze Z jo Z Z)<|zN<|zT<|zQ<|zR<|yS Z (zA Z Z kA)<|yS Z (zD Z Z Z bC Z Z)<|yS Z (ab.convert (k' := .u64) Z Z (by kernel_rfl))<|yS Z (zA Z Z wJ)<|yS Z (zD Z Z Z bC Z Z)<|yS Z (ab.convert (k' := .u64) Z Z (by kernel_rfl))<|yS Z (zA Z Z l6)<|yS Z (ab.indexAddrA Z Z Z zP (by decide) (by decide))<|yS Z (zD Z Z Z nB Z Z)<|yS Z (zA Z Z l6)<|yS Z (ab.indexAddrA Z Z Z zP (by decide) (by decide))<|yS Z (zD Z Z Z nB Z Z)<|yS Z (zA Z Z GV)<|yS Z (zD Z Z Z nB Z Z)<|yS Z (mD Z EZ Z Z Z Z Z)<|yS Z (zC Z Z Z (by kernel_rfl) (zp (Lw (l := sw b)) (.cons zv .nil))) ?_;exact yS Z (zs Z Z Z Z aR Z Z Z Z)<|zN<|zT<|zr<|zf (.one (.cellAgg Z Z (by kernel_rfl) Z)) zv
theorem Ki {l : List ID} {v : ID} : av Tryz.prog 119 [.slice 2 (l.map bH), bH v] [.int .i64 (aU l v)] := by
 refine zh Tryz.func119 Z Z Z Z ?_;refine zQ ?_;refine LW.ok (t := 0) Z<|fun ok => ?_;have hlen := ok.len;simp only [List.length_map, maxLen] at hlen;refine zR<|yS Z (bV Z Z Z Z Z)<|yS Z (za Z Z)<|zN<|zT<|zQ<|zQ<|zR<|yS Z (zm Z Z)<|yS Z (ab.len Z Z (by kernel_rfl))<|yS Z (zm Z Z)<|zN<|zT<|zl ?_;refine LW.loopOf (E := fun x : Nat => [(0, .p (.slice 2 (l.map bH))), (3, .ptr 0 0), (6, .p (.slice 2 (l.map bH))), (7, .p (.int .i64 (l.map bH).length)), (8, .p (.int .i64 (x : Nat)))]) (O := fun x => [.box [(uQ v.1), (uQ v.2)]]) (G := fun x => x ≤ l.length ∧ ∀ j, j < x → l[j]? ≠ some v) (meas := fun x => l.length - x) 0 (zW 1 ⟨rfl, rfl, rfl, rfl, rfl, trivial⟩ Z Z Z Z) ⟨Nat.zero_le _, fun j hj => absurd hj (by omega)⟩<|fun x hx => ?_;refine zQ<|zR<|yS Z (aw Z Z Z Z)<|zN<|zT<|zQ ?_;refine zX Z (fun g1 => ?_)<|fun g1 => ?_
 ·
  refine zk<|zT<|zQ<|zl<|zQ ?_
  have hlt : x < l.length := by simpa using g1
  obtain ⟨y, hy⟩ := m6 hlt;refine zR<|yS Z (zm Z Z)<|yS Z (za Z Z)<|zN<|zT<|zQ<|LW.draw2 (by kernel_rfl) (by kernel_rfl)<|yE Z (zD Z Z Z aR Z Z)<|yE Z (zm Z Z)<|yE Z (zm Z Z)<|yE Z (ab.indexAddr Z Z Z nw (by omega) (tu hy) Z)<|yE Z (dS Z Z Z aR Z Z)<|yE Z (ab.eqlAgg Z Z Z Z Z rY)<|LO.nil<|zT ?_;refine zX Z (fun g2 => ?_)<|fun g2 => ?_
  ·
   refine zQ ?_;have he : v = y := of_decide_eq_true ((Ja (a := v) (b := y) rfl).symm.trans g2);exact zR (yS Z (zm Z Z) (yS Z (za Z Z) (zN (zT (zr (ay (aj (aj (ay (aj (zf (.one (.tmp Z)) (Conv.pe (by rw [mc (hy.trans (congrArg some he.symm)) hx.2])))))))))))))
  ·
   refine zk<|ai<|zT ?_;have hne : v ≠ y := of_decide_eq_false ((Ja (a := v) (b := y) rfl).symm.trans g2);refine zR (yS Z (ab.isEq (y := .p (.int .i64 ((x + 1 : Nat) : Int))) (aw Z Z Z Z) (by rw [cv (by omega) (by omega)]; rfl)) (yS Z (zm Z Z) (zN (zT ?_))));refine ⟨x + 1, ?_, ?_, zW 1 ⟨rfl, rfl, rfl, rfl, rfl, trivial⟩ Z Z Z rfl⟩
   ·omega
   ·exact ⟨hlt, fun j hj => by rcases Nat.lt_succ_iff_lt_or_eq.1 hj with h | h; exact hx.2 j h; subst h; rw [hy]; exact fun e => hne (zJ e).symm⟩
 ·
  refine zq<|ao<|ao<|zy<|zT<|zQ ?_
  have hnlt : ¬ x < l.length := by simpa using g1
  have hend : x = l.length := by omega
  exact zR (yS Z (za Z Z) (zN (zT (zr (zf (.one (.tmp Z)) (Conv.pe (by rw [mX fun j hj => hx.2 j (by omega)])))))))
theorem Lf {l : List ID} {v : ID} : av Tryz.prog 65 [.slice 2 (l.map bH), bH v] [.bool (decide (aU l v ≥ 0))] := by
 refine zh Tryz.func65 Z Z Z Z ?_;exact zQ<|zR<|yS Z (bV Z Z Z Z Z)<|yS Z (za Z Z)<|zN<|zT<|zQ<|zR<|yS Z (zm Z Z)<|yS Z (zD Z Z Z aR Z Z)<|yS Z (zC Z Z Z (by kernel_rfl) (zp Ki (.cons zv (.cons zv .nil))))<|yS Z (aw Z Z Z Z)<|yS Z (za Z Z)<|zN<|zT<|zr<|zf (.one (.tmp Z)) zv
open Go.Proofs
def b9 (l : List Bk) (i : Int) : Int := if i = -1 then 0 else match l[i.toNat]? with
 | some b => b.Slot
 | none => 0
abbrev FE : Int → LV := fun v => (iQ v)
def eA (l : List Bk) : List Bk → Nat → List (ID × Int) → Option (List (ID × Int))
 | [], _, m => some m
 | b :: r, i, m => match ah m b.Parent with
  | none => none
  | some p => if b.Slot ≤ b9 l p then none else match ah m (nm b) with
   | some _ => none
   | none => eA l r (i + 1) (m ++ [(nm b, (i : Int))])
def places (l : List Bk) : Option (List (ID × Int)) := eA l l 0 [((0, 0), -1)]
theorem eU {l : List Bk} {i : Nat} {y : Bk} (hy : l[i]? = some y) (m : List (ID × Int)) : eA l (l.drop i) i m = match ah m y.Parent with
  | none => none
  | some p => if y.Slot ≤ b9 l p then none else match ah m (nm y) with
   | some _ => none
   | none => eA l (l.drop (i + 1)) (i + 1) (m ++ [(nm y, (i : Int))]) := by
 obtain ⟨hi, rfl⟩ := List.getElem?_eq_some_iff.1 hy;rw [List.drop_eq_getElem_cons hi];rfl
theorem KD {l : List Bk} {i : Int} {id : Nat} {H : List aa} (hH : aM H id = some (.box [(kB l)])) (hi : i = -1 ∨ 0 ≤ i ∧ i < l.length) :
  LC Tryz.prog 127 [(iQ i), .ptr id 0] H (Is (.p (.int .i64 (b9 l i))) H) := by
 refine dc Tryz.func127 Z Z Z ?_;refine zQ<|zR<|yS Z (za Z Z)<|zN<|zT<|zQ<|zQ<|zR<|yS Z (zm Z Z)<|yS Z (aw Z Z Z Z)<|zN<|zT ?_;refine zX Z (fun g1 => ?_)<|fun g1 => ?_
 ·
  refine zQ ?_
  have he : i = -1 := by simpa using g1
  exact zR<|yS Z (za Z Z)<|zN<|zT<|zr<|aj<|ap (.one (.tmp Z))<|⟨by simp [b9, he], rfl⟩
 ·
  refine zk<|zT<|zQ ?_
  have hne : i ≠ -1 := by simpa using g1
  obtain ⟨y, hy⟩ := m6 (l := l) (i := i.toNat) (by omega)
  have hiy : (l.map ax)[i.toNat]? = some (ax y) := by simp [hy]
  exact zR<|yS Z (zD Z Z hH dE Z Z)<|yS Z (zm Z Z)<|yS Z (ab.indexAddr Z Z Z eB (by omega) hiy Z)<|yS Z (ab.fieldAddrC Z Z kA Z)<|yS Z (dS Z Z Z bC Z Z)<|yS Z (za Z Z)<|zN<|zT<|zr<|ap (.one (.tmp Z))<|⟨by simp [b9, hne, hy], rfl⟩
theorem c94 {l : List Bk} : LC Tryz.prog 75 [(kB l)] [] fun x H =>
  (∃ m, places l = some m ∧ x = .tup [.map 1, (bQ true)] ∧ H = [.box [(kB l)], .map (af bH FE m)]) ∨ (places l = none ∧ x = .tup [.nilmap, (bQ false)] ∧ H = []) := by
 refine dc Tryz.func75 Z Z Z ?_;refine zQ ?_;refine LW.ok (t := 0) Z<|fun ok => ?_;have hlen := ok.len;simp only [List.length_map, maxLen] at hlen;refine zR<|yS Z (bV Z Z Z Z Z)<|yS Z (za Z Z)<|yS Z (za Z Z)<|zN<|zT<|zQ<|zR<|yS Z (ab.makeMap Z Z Z)<|yS Z (ab.build Z wz Z Z Z)<|yS Z (ab.setNew (f := bH) (g := FE) (m := []) (a := (0, 0)) (v := -1) dO Z (.inr Z) Z Z Z Z Z kf Z)<|yS Z (zm Z Z)<|yS Z (za Z Z)<|zN<|zT<|zQ<|zR<|yS Z (ab.makeFunc Z Z Z)<|yS Z (za Z Z)<|zN<|zT<|zQ<|zQ<|zR ?_;refine yS Z (zD Z Z Z dE Z Z)<|yS Z (ab.len Z Z (by kernel_rfl))<|yS Z (zm Z Z)<|zN<|zT<|zl ?_;refine LW.loopOf (E := fun x : Nat × List (ID × Int) => [(1, .ptr 0 0), (4, .map 1), (5, .fn 127 [] [.ptr 0 0]), (17, (kB l)), (18, .p (.int .i64 (l.map ax).length)), (19, .p (.int .i64 (x.1 : Nat)))]) (O := fun x => [.box [(kB l)], .map (af bH FE x.2)]) (G := fun x => x.1 ≤ l.length ∧ eA l (l.drop x.1) x.1 x.2 = places l ∧ ∀ k v, ah x.2 k = some v → v = -1 ∨ 0 ≤ v ∧ v < l.length) (meas := fun x => l.length - x.1) (0, [((0, 0), -1)]) (zW 2 ⟨rfl, rfl, rfl, rfl, rfl, rfl, trivial⟩ Z Z Z (zL Z (zL (ae (fun _ => rfl) _) Z))) ⟨Nat.zero_le _, rfl, fun k v h => by unfold ah ah at h; split at h <;> cases h; exact .inl rfl⟩ (fun x hx => ?_);refine zQ<|zR<|yS Z (aw Z Z Z Z)<|zN<|zT<|zQ ?_;refine zX Z (fun g1 => ?_)<|fun g1 => ?_
 ·
  refine zk<|zT<|zQ<|zl<|zQ ?_
  have hlt : x.1 < l.length := by simpa using g1
  obtain ⟨y, hy⟩ := m6 hlt;refine zR<|yS Z (zm Z Z)<|yS Z (ab.indexAddr Z Z Z eB (by omega) (tu hy) Z)<|yS Z (dS Z Z Z cH Z Z)<|yS Z (ze Z tK Z Z)<|yS Z (za Z Z)<|yS Z (zs Z Z Z Z cH Z Z Z Z)<|zN<|zT<|zQ<|zR<|yS Z (zm Z Z)<|yS Z (zA Z Z l6)<|yS Z (zD Z Z Z aR Z Z) ?_;rcases hp : ah x.2 y.Parent with _ | p
  ·
   refine yS Z ((ab.getMiss dO hp Z Z Z Z kf E8 Z))<|yS Z (zm Z Z)<|yS Z (fA Z Z Z)<|yS Z (fA Z Z Z)<|yS Z (za Z Z)<|yS Z (za Z Z)<|zN<|zT<|zQ<|zQ<|LW.draw2 (by kernel_rfl) (by kernel_rfl)<|yE Z (zm Z Z)<|yE Z (ab.not Z Z)<|yE Z (zm Z Z)<|LO.sk Z Z Z Z Z Z<|LO.sk Z Z Z Z Z Z<|LO.sk Z Z Z Z Z Z<|LO.sk Z Z Z Z Z Z<|LO.sk Z Z Z Z Z Z<|LO.sk Z Z Z Z Z Z<|yE Z (eP Z Z Z)<|LO.nil<|zT<|LW.condT Z ?_;refine zQ<|zR<|yS Z (za Z Z)<|yS Z (za Z Z)<|zN<|zT<|zr<|aj<|ay<|aj<|aj<|ay<|aj ?_;refine ba (env' := [(2, .nilmap), (3, (bQ false))]) (H' := []) (zW 0 ⟨rfl, rfl, trivial⟩ Z Z Z Z) (.two (.tmp Z) (.tmp Z))<|.inr ⟨?_, rfl, rfl⟩;rw [← hx.2.1, eU hy]
   first | (simp only [hp]; done) | (simp only [hp]; rw [if_pos (of_decide_eq_true g2)]; done) | (simp only [hp, hq]; split <;> rfl)
  ·
   refine yS Z ((ab.getHit dO hp Z Z Z Z kf Z))<|yS Z (zm Z Z)<|yS Z (fA Z Z Z)<|yS Z (fA Z Z Z)<|yS Z (za Z Z)<|yS Z (za Z Z)<|zN<|zT<|zQ<|zQ<|LW.draw2 (by kernel_rfl) (by kernel_rfl)<|yE Z (zm Z Z)<|yE Z (ab.not Z Z)<|yE Z (zm Z Z)<|LO.gd Z Z Z Z Z (zA Z Z kA)<|LO.gd Z Z Z Z Z (zD Z Z Z bC Z Z)<|LO.gd Z Z Z Z Z (zm Z Z)<|LO.gd Z Z Z Z Z (zm Z Z)<|LO.gd Z Z Z Z Z (zC Z Z Z (by kernel_rfl) (KD (id := 0) Z (hx.2.2 _ _ hp)))<|LO.gd Z Z Z Z Z (aw Z Z Z Z)<|yE Z (db Z Z Z)<|LO.nil<|zT ?_;refine zX Z (fun g2 => ?_)<|fun g2 => ?_
   ·
    refine zQ<|zR<|yS Z (za Z Z)<|yS Z (za Z Z)<|zN<|zT<|zr<|aj<|ay<|aj<|aj<|ay<|aj ?_;refine ba (env' := [(2, .nilmap), (3, (bQ false))]) (H' := []) (zW 0 ⟨rfl, rfl, trivial⟩ Z Z Z Z) (.two (.tmp Z) (.tmp Z))<|.inr ⟨?_, rfl, rfl⟩;rw [← hx.2.1, eU hy]
    first | (simp only [hp]; done) | (simp only [hp]; rw [if_pos (of_decide_eq_true g2)]; done) | (simp only [hp, hq]; split <;> rfl)
   ·
    refine zk<|zT<|zQ<|zR<|yS Z (zD Z Z Z cH Z Z)<|yS Z (zC Z Z Z (by kernel_rfl) (zp (Fr (b := y)) (.cons zv .nil)))<|yS Z (ze Z jo Z Z)<|yS Z (zs Z Z Z Z aR Z Z Z Z)<|zN<|zT<|zQ<|zQ<|zR<|yS Z (zm Z Z)<|yS Z (zD Z Z Z aR Z Z) ?_;rcases hq : ah x.2 (nm y) with _ | q
    ·
     refine yS Z ((ab.getMiss dO hq Z Z Z Z kf E8 Z))<|yS Z (zm Z Z)<|yS Z (fA Z Z Z)<|yS Z (fA Z Z Z)<|yS Z (za Z Z)<|yS Z (za Z Z)<|zN<|zT<|zQ<|zR<|yS Z (zm Z Z)<|zN<|zT<|LW.condF Z<|zk<|zT<|zR<|yS Z (zm Z Z)<|yS Z (zD Z Z Z aR Z Z)<|yS Z (zm Z Z)<|yS Z (ab.setNew (f := bH) (g := FE) (m := x.2) (a := nm y) (v := ((x.1 : Nat) : Int)) dO hq (.inl Z) Z Z Z Z Z kf Z)<|zN<|ai<|zT ?_;refine zR (yS Z (ab.isEq (y := .p (.int .i64 ((x.1 + 1 : Nat) : Int))) (aw Z Z Z Z) (by rw [cv (by omega) (by omega)]; rfl)) (yS Z (zm Z Z) (zN (zT ?_))));refine ⟨(x.1 + 1, x.2 ++ [(nm y, ((x.1 : Nat) : Int))]), ?_, ?_, zW 2 ⟨rfl, rfl, rfl, rfl, rfl, rfl, trivial⟩ Z Z Z (zL Z (zL (ae (fun _ => rfl) _) Z))⟩
     ·simp only; omega
     ·refine ⟨hlt, ?_, fun k v h => ?_⟩
      ·rw [← hx.2.1, eU hy]; simp only [hp, hq]; rw [if_neg (of_decide_eq_false g2)]
      ·rw [fa] at h;rcases hk : ah x.2 k with _ | u
       ·rw [hk] at h; simp only [Option.none_or] at h; split at h <;> cases h; omega
       ·rw [hk] at h; cases h; exact hx.2.2 k _ hk
    ·
     refine yS Z ((ab.getHit dO hq Z Z Z Z kf Z))<|yS Z (zm Z Z)<|yS Z (fA Z Z Z)<|yS Z (fA Z Z Z)<|yS Z (za Z Z)<|yS Z (za Z Z)<|zN<|zT<|zQ<|zR<|yS Z (zm Z Z)<|zN<|zT<|LW.condT Z<|zQ<|zR<|yS Z (za Z Z)<|yS Z (za Z Z)<|zN<|zT<|zr<|aj<|ay<|aj ?_;refine aj<|ay<|aj ?_;refine ba (env' := [(2, .nilmap), (3, (bQ false))]) (H' := []) (zW 0 ⟨rfl, rfl, trivial⟩ Z Z Z Z) (.two (.tmp Z) (.tmp Z))<|.inr ⟨?_, rfl, rfl⟩;rw [← hx.2.1, eU hy]
     first | (simp only [hp]; done) | (simp only [hp]; rw [if_pos (of_decide_eq_true g2)]; done) | (simp only [hp, hq]; split <;> rfl)
 ·
  refine zq<|ao<|ao<|zy<|zT<|zQ ?_
  have hnlt : ¬ x.1 < l.length := by simpa using g1
  have hend : x.1 = l.length := by omega
  refine zR<|yS Z (zm Z Z)<|yS Z (za Z Z)<|yS Z (za Z Z)<|zN<|zT<|zr ?_;refine ba (env' := [(2, .map 1), (3, (bQ true))]) (H' := [.box [(kB l)], .map (af bH FE x.2)]) (zW 2 ⟨rfl, rfl, trivial⟩ Z Z Z (zL Z (zL (ae (fun _ => rfl) _) Z))) (.two (.tmp Z) (.tmp Z))<|.inl ⟨x.2, ?_, rfl, rfl⟩;rw [← hx.2.1, hend, List.drop_length]; rfl
structure y8 (l : List Bk) (m : List (ID × Int)) (n : Nat) : Prop where
 zero : ah m (0, 0) = some (-1)
 known : ∀ k i, ah m k = some i → (i = -1 ∧ k = (0, 0)) ∨ ∃ b p, 0 ≤ i ∧ i < n ∧ l[i.toNat]? = some b ∧ nm b = k ∧ ah m b.Parent = some p ∧ p < i ∧ -1 ≤ p ∧ b9 l p < b.Slot
 names : ∀ i b, i < n → l[i]? = some b → ah m (nm b) = some (i : Int)
theorem y8.step {l : List Bk} {m : List (ID × Int)} {n : Nat} {y : Bk} {p : Int} (h : y8 l m n) (hy : l[n]? = some y) (hp : ah m y.Parent = some p) (hs : ¬ y.Slot ≤ b9 l p) (hq : ah m (nm y) = none) :
  y8 l (m ++ [(nm y, (n : Int))]) (n + 1) := by
 have old : ∀ k i, ah m k = some i → ah (m ++ [(nm y, (n : Int))]) k = some i := fun k i hk => by rw [fa, hk]; rfl
 refine ⟨old _ _ h.zero, fun k i hk => ?_, fun i b hi hb => ?_⟩
 ·rw [fa] at hk;rcases hm : ah m k with _ | j
  ·rw [hm] at hk;simp only [Option.none_or] at hk;split at hk
   ·rename_i e;cases hk;right;refine ⟨y, p, by omega, by omega, by simpa using hy, e, old _ _ hp, ?_, ?_, by omega⟩
    ·rcases h.known _ _ hp with ⟨h1, -⟩ | ⟨b, q, h1, h2, -⟩ <;> omega
    ·rcases h.known _ _ hp with ⟨h1, -⟩ | ⟨b, q, h1, h2, -⟩ <;> omega
   ·cases hk
  ·rw [hm] at hk;cases hk;rcases h.known _ _ hm with h1 | ⟨b, q, h1, h2, h3, h4, h5, h6, h7, h8⟩
   ·exact .inl h1
   ·exact .inr ⟨b, q, h1, by omega, h3, h4, old _ _ h5, h6, h7, h8⟩
 ·rcases Nat.lt_succ_iff_lt_or_eq.1 hi with hi | hi
  ·exact old _ _<|h.names i b hi hb
  ·subst hi;rw [hy] at hb; cases hb;rw [fa, hq]; simp
theorem ng {l : List Bk} : ∀ (r : List Bk) (i : Nat) (m m' : List (ID × Int)), r = l.drop i → i ≤ l.length → y8 l m i → eA l r i m = some m' → y8 l m' l.length
 | [], i, m, m', hr, hi, h, hg => by
  cases hg
  have : l.length ≤ i := by
   have := congrArg List.length hr;simp at this; omega
  rw [show l.length = i by omega]; exact h
 | y :: r, i, m, m', hr, hi, h, hg => by
  have hil : i < l.length := by
   have := congrArg List.length hr;simp at this; omega
  have hd := List.drop_eq_getElem_cons hil;rw [hd, List.cons.injEq] at hr;obtain ⟨rfl, rfl⟩ := hr;unfold eA at hg;split at hg
  ·cases hg
  ·rename_i p hp;split at hg
   ·cases hg
   ·rename_i hs;split at hg
    ·cases hg
    ·rename_i hq;exact ng _ (i + 1) _ m' Z (by omega) (h.step (List.getElem?_eq_getElem hil) hp hs hq) hg
theorem vH {l : List Bk} : ∀ (k : ID) (i : Int), ah [(((0, 0) : ID), (-1 : Int))] k = some i → (i = -1 ∧ k = (0, 0)) ∨ ∃ b p, 0 ≤ i ∧ i < (0 : Nat) ∧ l[i.toNat]? = some b ∧ nm b = k ∧ ah [(((0, 0) : ID), (-1 : Int))] b.Parent = some p ∧ p < i ∧ -1 ≤ p ∧ b9 l p < b.Slot := by
 intro k i hk;unfold ah ah at hk;split at hk
 ·rename_i e; cases hk; exact .inl ⟨rfl, e.symm⟩
 ·cases hk
theorem aQ {l : List Bk} {m : List (ID × Int)} (h : places l = some m) : y8 l m l.length :=
 ng l 0 _ m rfl (Nat.zero_le _) ⟨rfl, vH, fun i b hi => by omega⟩ h
def dM (l : List Bk) : Nat → ID → Int → List ID
 | 0, id, _ => [id]
 | n + 1, id, i => if i = -1 then [id] else match l[i.toNat]? with
  | none => [id]
  | some b => match places l with
   | none => [id]
   | some m => match ah m b.Parent with
    | none => [id]
    | some p => id :: dM l n b.Parent p
def aF (l : List Bk) (id : ID) : List ID := match places l with
 | none => []
 | some m => match ah m id with
  | none => []
  | some i => dM l (i + 1).toNat id i
theorem uG {l : List Bk} {m : List (ID × Int)} (hpl : places l = some m) : ∀ (n : Nat) (k : Nat) (id : ID) (i : Int), i + 1 ≤ n → n ≤ k → ah m id = some i → dM l k id i = dM l n id i := by
 intro n
 induction n with
 | zero =>
  intro k id i hi hk hf
  have : i = -1 := by
   rcases (aQ hpl).known _ _ hf with ⟨h, -⟩ | ⟨_, _, h, -⟩ <;> omega
  cases k with
  | zero => rfl
  | succ k => simp [dM, this]
 | succ n ih =>
  intro k id i hi hk hf;obtain ⟨k, rfl⟩ : ∃ j, k = j + 1 := ⟨k - 1, by omega⟩;rcases (aQ hpl).known _ _ hf with ⟨h, -⟩ | ⟨b, p, h0, h1, h2, h3, h4, h5, h6, h7⟩
  ·simp [dM, h]
  ·simp only [dM, if_neg (show i ≠ -1 by omega), h2, hpl, h4];rw [ih k b.Parent p (by omega) (by omega) h4]
theorem kx {l : List Bk} {m : List (ID × Int)} {id : ID} {i p : Int} {b : Bk} (hpl : places l = some m) (hne : i ≠ -1) (h0 : 0 ≤ i) (hb : l[i.toNat]? = some b) (hp : ah m b.Parent = some p) (hpi : p < i) (hp1 : -1 ≤ p) :
  dM l (i + 1).toNat id i = id :: dM l (p + 1).toNat b.Parent p := by
 obtain ⟨n, hn⟩ : ∃ n, (i + 1).toNat = n + 1 := ⟨i.toNat, by omega⟩;rw [hn];simp only [dM, if_neg hne, hb, hpl, hp];rw [uG hpl (p + 1).toNat n b.Parent p (by omega) (by omega) hp]
theorem vt {α : Type} {f : α → PV} {l : List α} {i : Int} {a : α} (h : l[i.toNat]? = some a) : (l.map f)[i.toNat]? = some (f a) := by
 simp [h]
theorem Conv.zs' {H : List aa} {m : Nat} {xs : List PV} (h : xs = []) : Conv true H .zs (.slice m xs) := by subst h; exact Conv.zs
theorem Conv.vecAll' {H : List aa} {m id n len : Nat} {xs ys : List PV} (hH : H[id]? = some (.vec m xs)) (hn : n = xs.length) (hl : len = xs.length) (h : ys = xs) : Conv true H (.vec m id n 0 len) (.slice m ys) := by
 subst h; exact Conv.vecAll hH hn hl
open Go.Proofs
theorem IE {l : List Bk} {H : List aa} (h : places l = none) : LC Tryz.prog 75 [(kB l)] H (Is (.tup [.nilmap, (bQ false)]) H) := by
 have h0 : LC Tryz.prog 75 ([PV.slice 5 (l.map ax)].map .p) [] (Is (.tup [.nilmap, (bQ false)]) []) := c94.mono fun x H hx => by
  rcases hx with ⟨m, hm, -⟩ | ⟨-, h1, h2⟩
  ·rw [h] at hm; cases hm
  ·exact ⟨h1, h2⟩
 have := LC.frame (H := H) (d := H.length) h0 (.cons Conv.p .nil) (by rw [EO]);simpa [LV.shift, LV.shifts] using this
theorem IF {l : List Bk} {m : List (ID × Int)} {H H1 H2 : List aa} {d : Nat} (h : places l = some m) (hd : cG H = some d) (h1 : hZ H (.box [(kB l)]) = some H1) (h2 : hZ H1 (.map (af bH FE m)) = some H2) :
  LC Tryz.prog 75 [(kB l)] H (Is (.tup [.map (d + 1), (bQ true)]) H2) := by
 have h0 : LC Tryz.prog 75 ([PV.slice 5 (l.map ax)].map .p) [] (Is (.tup [.map 1, (bQ true)]) [.box [(kB l)], .map (af bH FE m)]) := c94.mono fun x H hx => by
  rcases hx with ⟨m', hm, h1, h2⟩ | ⟨h1, -⟩
  ·rw [h] at hm; cases hm; exact ⟨h1, h2⟩
  ·rw [h] at h1; cases h1
 have := LC.frame (H := H) (d := d) h0 (.cons Conv.p .nil) hd;have e1 := cS h1;have e2 := cS h2;subst e1; subst e2;simpa [LV.shift, LV.shifts, aa.shift, af, List.append_assoc, Function.comp_def] using this
theorem KR {l : List Bk} {id : ID} (hpl : places l = none) : av Tryz.prog 60 [.slice 5 (l.map ax), bH id] [.slice 2 ((aF l id).map bH)] := by
 refine zh Tryz.func60 Z Z Z Z ?_;refine zQ<|zR<|yS Z (bV Z Z Z Z Z)<|yS Z (za Z Z)<|zN<|zT<|LW.scope<|zQ<|zR<|yS Z (zm Z Z)<|yS Z ((zC Z Z Z (by kernel_rfl) (IE hpl)))<|yS Z (zm Z Z)<|yS Z (fA Z Z Z)<|yS Z (fA Z Z Z)<|yS Z (za Z Z)<|yS Z (za Z Z)<|zN<|zT<|zQ<|zQ<|zR<|yS Z (zm Z Z)<|yS Z (zD Z Z Z aR Z Z)<|yS Z ((ab.getNil dO Z Z Z kf E8 Z)) ?_;exact yS Z (zm Z Z)<|yS Z (fA Z Z Z)<|yS Z (fA Z Z Z)<|yS Z (za Z Z)<|yS Z (za Z Z)<|zN<|zT<|zQ<|zR<|yS Z (zm Z Z)<|yS Z (ab.not Z Z)<|zN<|zT<|LW.condT Z<|zQ<|zR<|yS Z (za Z Z)<|zN<|zT<|zr<|aj<|qM<|zf (.one (.tmp Z))<|Conv.zs' (by simp [aF, hpl])
theorem KS {l : List Bk} {id : ID} {m : List (ID × Int)} (hl : l.length ≤ 1000) (hpl : places l = some m) : av Tryz.prog 60 [.slice 5 (l.map ax), bH id] [.slice 2 ((aF l id).map bH)] := by
 refine zh Tryz.func60 Z Z Z Z ?_;refine zQ<|zR<|yS Z (bV Z Z Z Z Z)<|yS Z (za Z Z)<|zN<|zT ?_;refine LW.jumpsOf (l := 0) (E := fun x : List ID × ID × Int => [(0, (kB l)), (3, .ptr 0 0), (5, .map 2), (9, .vec 2 3 (x.1.map bH).length 0 (x.1.map bH).length)]) (O := fun x => [.box [(uQ x.2.1.1), (uQ x.2.1.2)], .box [(kB l)], .map (af bH FE m), .vec 2 (x.1.map bH)]) (G := fun x => ah m x.2.1 = some x.2.2 ∧ x.1.length + (x.2.2 + 1).toNat ≤ 1001 ∧ aF l id = x.1 ++ dM l (x.2.2 + 1).toNat x.2.1 x.2.2) (meas := fun x => (x.2.2 + 1).toNat) Z ?_<|fun x hx => ?_
 ·
  refine zQ<|zR<|yS Z (zm Z Z)<|yS Z ((zC Z Z Z (by kernel_rfl) (IF hpl Z Z Z)))<|yS Z (zm Z Z)<|yS Z (fA Z Z Z)<|yS Z (fA Z Z Z)<|yS Z (za Z Z)<|yS Z (za Z Z)<|zN<|zT<|zQ<|zQ<|zR<|yS Z (zm Z Z)<|yS Z (zD Z Z Z aR Z Z) ?_;rcases hf : ah m id with _ | i
  ·
   refine yS Z ((ab.getMiss dO hf Z Z Z Z kf E8 Z))<|yS Z (zm Z Z)<|yS Z (fA Z Z Z)<|yS Z (fA Z Z Z)<|yS Z (za Z Z)<|yS Z (za Z Z)<|zN<|zT<|zQ<|zR<|yS Z (zm Z Z)<|yS Z (ab.not Z Z)<|zN<|zT<|LW.condT Z<|zQ<|zR<|yS Z (za Z Z)<|zN<|zT<|zr<|aj<|vi<|zf (.one (.tmp Z)) ?_;refine Conv.zs' ?_;simp [aF, hpl, hf]
  ·
   refine yS Z ((ab.getHit dO hf Z Z Z Z kf Z))<|yS Z (zm Z Z)<|yS Z (fA Z Z Z)<|yS Z (fA Z Z Z)<|yS Z (za Z Z)<|yS Z (za Z Z)<|zN<|zT<|zQ<|zR<|yS Z (zm Z Z)<|yS Z (ab.not Z Z)<|zN<|zT<|LW.condF Z<|zk<|zT<|zQ<|zR<|yS Z (za Z Z)<|zN<|zT<|zQ<|LW.label ?_;refine zT<|zQ<|zR<|yS Z (zm Z Z)<|yS Z (zD Z Z Z aR Z Z)<|yS Z (mD Z nw Z Z Z Z Z)<|yS Z (ab.appendZ Z Z Z Z kg.p nw (by simp only [List.length_singleton]; omega) Z)<|yS Z (za Z Z)<|zN<|zT<|zQ<|zQ<|zR<|yS Z (zm Z Z)<|yS Z (zD Z Z Z aR Z Z)<|yS Z ((ab.getHit dO hf Z Z Z Z kf Z))<|yS Z (za Z Z)<|zN<|zT<|zQ<|zR<|yS Z (zm Z Z)<|yS Z (aw Z Z Z Z)<|zN ?_;refine zT ?_;refine zX Z (fun g1 => ?_)<|fun g1 => ?_
   ·
    refine zQ ?_
    have hne : i ≠ -1 := by simpa using g1
    obtain ⟨h1, -⟩ | ⟨b, p, h0, hlt, hb, hnb, hp, hpi, hp1, hs⟩ := (aQ hpl).known _ _ hf
    ·exact absurd h1 hne
    have hc : aF l id = id :: dM l (p + 1).toNat b.Parent p := by
     simp only [aF, hpl, hf];exact kx hpl hne h0 hb hp hpi hp1
    refine zR<|yS Z (zm Z Z)<|yS Z (zm Z Z)<|yS Z (ab.indexAddr Z Z Z eB (by omega) (vt hb) Z)<|yS Z (ab.fieldAddrC Z Z l6 Z)<|yS Z (dS Z Z Z aR Z Z)<|yS Z (zs Z Z Z Z aR Z Z Z Z)<|zN<|zT<|LW.goto<|FM<|CR ?_;refine ⟨([id], b.Parent, p), ?_, zW 4 ⟨rfl, rfl, rfl, rfl, trivial⟩ Z Z Z (zL Z (zL Z (zL (ae (fun _ => rfl) _) Z)))⟩
    ·exact ⟨hp, by simp only [List.length_singleton]; omega, hc⟩
   ·
    refine zk<|zT<|zQ ?_
    have hend : i = -1 := by simpa using g1
    refine zR<|yS Z (zm Z Z)<|yS Z (za Z Z)<|zN<|zT<|zr<|vi<|zf (.one (.tmp Z))<|Conv.vecAll' Z Z Z ?_;rw [show aF l id = [id] by simp only [aF, hpl, hf, hend]; rfl]; rfl
 ·
  refine zQ<|zk<|zT<|zQ<|zR<|yS Z (zm Z Z)<|yS Z (zD Z Z Z aR Z Z)<|yS Z (mD Z nw Z Z Z Z Z)<|yS Z (ab.appendM (f := bH) (xs := x.1) (ys := [x.2.1]) Z Z Z Z Z nw (by simp only [List.length_singleton]; omega) Z)<|yS Z (za Z Z)<|zN<|zT<|zQ<|zQ<|zR<|yS Z (zm Z Z)<|yS Z (zD Z Z Z aR Z Z)<|yS Z ((ab.getHit dO hx.1 Z Z Z Z kf Z))<|yS Z (za Z Z)<|zN<|zT<|zQ<|zR<|yS Z (zm Z Z) ?_;refine yS Z (aw Z Z Z Z)<|zN<|zT ?_;refine zX Z (fun g2 => ?_)<|fun g2 => ?_
  ·
   refine zQ ?_
   have hne : x.2.2 ≠ -1 := by simpa using g2
   obtain ⟨h1, -⟩ | ⟨b, p, h0, hlt, hb, hnb, hp, hpi, hp1, hs⟩ := (aQ hpl).known _ _ hx.1
   ·exact absurd h1 hne
   have hc := kx (id := x.2.1) hpl hne h0 hb hp hpi hp1;refine zR<|yS Z (zm Z Z)<|yS Z (zm Z Z)<|yS Z (ab.indexAddr Z Z Z eB (by omega) (vt hb) Z)<|yS Z (ab.fieldAddrC Z Z l6 Z)<|yS Z (dS Z Z Z aR Z Z)<|yS Z (zs Z Z Z Z aR Z Z Z Z)<|zN<|zT<|LW.goto<|FM<|CR ?_;refine ⟨(x.1 ++ [x.2.1], b.Parent, p), ?_, ?_, zW 4 ⟨rfl, rfl, rfl, rfl, trivial⟩ Z Z Z (zL Z (zL Z (zL (ae (fun _ => rfl) _) Z)))⟩
   ·simp only; omega
   ·refine ⟨hp, ?_, ?_⟩
    ·have := hx.2.1; simp only [List.length_append, List.length_singleton]; omega
    ·rw [hx.2.2, hc, List.append_assoc]; rfl
  ·
   refine zk<|zT<|zQ ?_
   have hend : x.2.2 = -1 := by simpa using g2
   refine zR<|yS Z (zm Z Z)<|yS Z (za Z Z)<|zN<|zT<|zr<|vi<|zf (.one (.tmp Z))<|Conv.vecAll' Z Z Z ?_;rw [hx.2.2, hend]; rfl
theorem Ke {l : List Bk} {id : ID} (hl : l.length ≤ 1000) : av Tryz.prog 60 [.slice 5 (l.map ax), bH id] [.slice 2 ((aF l id).map bH)] := by
 rcases hpl : places l with _ | m
 ·exact KR hpl
 ·exact KS hl hpl
theorem Ln {l : List Bk} {a b : ID} (hl : l.length ≤ 1000) : av Tryz.prog 28 [.slice 5 (l.map ax), bH a, bH b] [.bool (decide (aU (aF l b) a ≥ 0))] := by
 refine zh Tryz.func28 Z Z Z Z ?_;exact zQ<|zR<|yS Z (bV Z Z Z Z Z)<|yS Z (bV Z Z Z Z Z)<|yS Z (za Z Z)<|zN<|zT<|zQ<|LW.draw2 (by kernel_rfl) (by kernel_rfl)<|yE Z (zm Z Z)<|yE Z (zD Z Z Z aR Z Z)<|yE Z (zC Z Z Z (by kernel_rfl) (zp (Ke hl) (.cons zv (.cons zv .nil))))<|yE Z (zD Z Z Z aR Z Z)<|yE Z (zC Z Z Z (by kernel_rfl) (zp Lf (.cons zv (.cons zv .nil))))<|yE Z (za Z Z)<|LO.nil<|zT<|zr<|zf (.one (.tmp Z)) zv
open Go.Proofs
def eN (c : Cu) (l : List Bk) (head found : ID) (is : Bool) (slot : Int) : Cu :=
 let c' : Cu := if aU (aF l head) c.ID < 0 then ⟨(0, 0), slot, IntKind.i64.wrap (c.Revoked + 1)⟩ else c
 let at_ : Int := if aU (aF l head) c.ID < 0 then IntKind.i64.wrap ((aF l head).length - 1) else aU (aF l head) c.ID
 if is = true ∧ aU (aF l head) found ≥ 0 ∧ aU (aF l head) found < at_ then ⟨found, slot, c'.Revoked⟩ else c'
theorem Lm {c : Cu} {l : List Bk} {head found : ID} {is : Bool} {slot : Int} (hl : l.length ≤ 1000) : av Tryz.prog 140 [rx c, .slice 5 (l.map ax), bH head, bH found, .bool is, .int .i64 slot] [rx (eN c l head found is slot)] := by
 refine zh Tryz.func140 Z Z Z Z ?_;refine LW.seq<|LW.region<|am.st Z Z Z (ab.box Z Z Z Z Z)<|am.st Z Z Z (ab.box Z Z Z Z Z)<|am.st Z Z Z (ab.box Z Z Z Z Z)<|am.st Z Z Z (ab.alloc Z K7 Z Z)<|am.nil<|br<|LW.seq<|LW.region<|am.st Z Z Z (ab.move Z Z)<|am.st Z Z Z (ab.load Z Z Z aR Z Z)<|am.st Z Z Z (ab.call Z Z Z (by kernel_rfl) (LC.pure (Ke hl) (.cons Conv.p (.cons Conv.p .nil))))<|am.st Z Z Z (ab.assign Z Z)<|am.nil<|br<|LW.seq<|LW.region<|am.st Z Z Z (ab.move Z Z)<|am.st Z Z Z (ab.fieldAddr Z Z tk)<|am.st Z Z Z (ab.load Z Z Z aR Z Z)<|am.st Z Z Z (ab.call Z Z Z (by kernel_rfl) (LC.pure Ki (.cons Conv.p (.cons Conv.p .nil))))<|am.st Z Z Z (ab.assign Z Z)<|am.nil ?_;refine br<|LW.seq<|LW.block<|LW.seq<|LW.block<|LW.seq<|LW.block<|LW.seq<|LW.seq<|LW.region<|am.st Z Z Z (ab.move Z Z)<|am.st Z Z Z (ab.bin Z Z Z Z)<|am.st Z Z Z (ab.assign Z Z)<|am.nil<|br ?_;refine LW.cond Z (fun g1 => ?_)<|fun g1 => ?_
 ·
  refine LW.exit<|ao<|mb<|br<|LW.seq<|LW.region<|am.st Z Z Z (ab.move Z Z)<|am.st Z Z Z (ab.fieldAddr Z Z GU)<|am.st Z Z Z (ab.load Z Z Z bC Z Z)<|am.st Z Z Z (ab.bin Z Z Z Z)<|am.st Z Z Z (ab.build Z Kr Z Z Z)<|am.st Z Z Z (ab.store Z Z Z Z jX Z Z Z Z)<|am.nil<|br<|LW.region<|am.st Z Z Z (ab.move Z Z)<|am.st Z Z Z (ab.len Z Z (by kernel_rfl))<|am.st Z Z Z (ab.bin Z Z Z Z)<|am.st Z Z Z (ab.assign Z Z)<|am.nil<|ai<|br<|LW.seq<|LW.seq ?_;refine LW.region<|am.st Z Z Z (ab.move Z Z)<|am.st Z Z Z (ab.load Z Z Z aR Z Z)<|am.st Z Z Z (ab.call Z Z Z (by kernel_rfl) (LC.pure Ki (.cons Conv.p (.cons Conv.p .nil))))<|am.st Z Z Z (ab.assign Z Z)<|am.nil<|br<|LW.seq<|LW.region<|am.st Z Z Z (ab.move Z Z)<|am.st Z Z Z (ab.move Z Z) ?_;refine zc 38 Z (fun g2 => ?_)<|fun g2 => ?_
  ·
   refine am.gd Z Z Z (gd g2 Z) Z (ab.move Z Z)<|am.gd Z Z Z (gd g2 Z) Z (ab.bin Z Z Z Z)<|am.st Z Z Z (ab.pickT Z (bL g2 Z) Z)<|am.st Z Z Z (ab.move Z Z) ?_;refine zc 42 Z (fun g3 => ?_)<|fun g3 => ?_
   ·
    refine am.gd Z Z Z (gd g3 Z) Z (ab.move Z Z)<|am.gd Z Z Z (gd g3 Z) Z (ab.move Z Z)<|am.gd Z Z Z (gd g3 Z) Z (ab.bin Z Z Z Z)<|am.st Z Z Z (ab.pickT Z (bL g3 Z) Z)<|am.nil<|br ?_;refine LW.cond Z (fun g4 => ?_)<|fun g4 => ?_
    ·
     refine LW.region<|am.st Z Z Z (ab.load Z Z Z aR Z Z)<|am.st Z Z Z (zm Z Z)<|am.st Z Z Z (ab.fieldAddr Z Z tk)<|am.st Z Z Z (zs Z Z Z Z aR Z Z Z Z)<|am.st Z Z Z (ab.fieldAddr Z Z CH)<|am.st Z Z Z (zs Z Z Z Z bC Z Z Z Z)<|am.nil<|br<|zq<|zy<|br<|LW.seq<|LW.region<|am.st Z Z Z (ab.load Z Z Z jX Z Z)<|am.st Z Z Z (zs Z Z Z Z jX Z Z Z Z)<|am.nil<|br<|zr<|zf (.one (.cellAgg Z Z (by kernel_rfl) Z))<|Conv.pe ?_;simp only [decide_eq_true_eq, List.length_map] at g1 g2 g3 g4;simp only [eN, rx]
     (repeat' split) <;> first | rfl | (exfalso; simp_all; done) | (exfalso; simp_all; omega)
    ·
     refine zk<|br<|zq<|zy<|br<|LW.seq<|LW.region<|am.st Z Z Z (ab.load Z Z Z jX Z Z)<|am.st Z Z Z (zs Z Z Z Z jX Z Z Z Z)<|am.nil<|br<|zr<|zf (.one (.cellAgg Z Z (by kernel_rfl) Z))<|Conv.pe ?_;simp only [decide_eq_true_eq, decide_eq_false_iff_not, List.length_map] at g1 g2 g3 g4;simp only [eN, rx]
     (repeat' split) <;> first | rfl | (exfalso; simp_all; done) | (exfalso; simp_all; omega)
   ·
    refine am.sk Z Z Z (gd g3 Z) Z Z<|am.sk Z Z Z (gd g3 Z) Z Z<|am.sk Z Z Z (gd g3 Z) Z Z<|am.st Z Z Z (db Z (bL g3 Z) Z)<|am.nil<|br<|LW.condF Z<|zk<|br<|zq<|zy<|br<|LW.seq<|LW.region<|am.st Z Z Z (ab.load Z Z Z jX Z Z)<|am.st Z Z Z (zs Z Z Z Z jX Z Z Z Z)<|am.nil<|br<|zr<|zf (.one (.cellAgg Z Z (by kernel_rfl) Z))<|Conv.pe ?_;simp only [decide_eq_true_eq, decide_eq_false_iff_not] at g1 g2 g3;simp only [eN, rx]
    (repeat' split) <;> first | rfl | (exfalso; simp_all; done) | (exfalso; simp_all; omega)
  ·
   refine am.sk Z Z Z (gd g2 Z) Z Z<|am.sk Z Z Z (gd g2 Z) Z Z<|am.st Z Z Z (db Z (bL g2 Z) Z)<|am.st Z Z Z (zm Z Z)<|am.sk Z Z Z Z Z Z<|am.sk Z Z Z Z Z Z<|am.sk Z Z Z Z Z Z<|am.st Z Z Z (db Z Z Z)<|am.nil<|br<|LW.condF Z<|zk<|br<|zq<|zy<|br<|LW.seq<|LW.region<|am.st Z Z Z (ab.load Z Z Z jX Z Z)<|am.st Z Z Z (zs Z Z Z Z jX Z Z Z Z)<|am.nil<|br<|zr<|zf (.one (.cellAgg Z Z (by kernel_rfl) Z)) ?_;refine Conv.pe ?_;simp only [decide_eq_true_eq] at g1 g2;simp only [eN, rx]
   (repeat' split) <;> first | rfl | (exfalso; simp_all; done) | (exfalso; simp_all; omega)
 ·
  refine LW.skip<|br<|LW.exit<|kD (by decide)<|ao<|mb<|br<|LW.seq<|LW.seq<|LW.region<|am.st Z Z Z (ab.move Z Z)<|am.st Z Z Z (ab.load Z Z Z aR Z Z)<|am.st Z Z Z (ab.call Z Z Z (by kernel_rfl) (LC.pure Ki (.cons Conv.p (.cons Conv.p .nil))))<|am.st Z Z Z (ab.assign Z Z)<|am.nil<|br<|LW.seq<|LW.region<|am.st Z Z Z (ab.move Z Z)<|am.st Z Z Z (ab.move Z Z) ?_;refine zc 38 Z (fun g5 => ?_)<|fun g5 => ?_
  ·
   refine am.gd Z Z Z (gd g5 Z) Z (ab.move Z Z)<|am.gd Z Z Z (gd g5 Z) Z (ab.bin Z Z Z Z)<|am.st Z Z Z (ab.pickT Z (bL g5 Z) Z)<|am.st Z Z Z (ab.move Z Z) ?_;refine zc 42 Z (fun g6 => ?_)<|fun g6 => ?_
   ·
    refine am.gd Z Z Z (gd g6 Z) Z (ab.move Z Z)<|am.gd Z Z Z (gd g6 Z) Z (ab.move Z Z)<|am.gd Z Z Z (gd g6 Z) Z (ab.bin Z Z Z Z)<|am.st Z Z Z (ab.pickT Z (bL g6 Z) Z)<|am.nil<|br ?_;refine LW.cond Z (fun g7 => ?_)<|fun g7 => ?_
    ·
     refine LW.region<|am.st Z Z Z (ab.load Z Z Z aR Z Z)<|am.st Z Z Z (zm Z Z)<|am.st Z Z Z (ab.fieldAddr Z Z tk)<|am.st Z Z Z (zs Z Z Z Z aR Z Z Z Z)<|am.st Z Z Z (ab.fieldAddr Z Z CH)<|am.st Z Z Z (zs Z Z Z Z bC Z Z Z Z)<|am.nil<|br<|zq<|zy<|br<|LW.seq<|LW.region<|am.st Z Z Z (ab.load Z Z Z jX Z Z)<|am.st Z Z Z (zs Z Z Z Z jX Z Z Z Z)<|am.nil<|br<|zr<|zf (.one (.cellAgg Z Z (by kernel_rfl) Z))<|Conv.pe ?_;simp only [decide_eq_true_eq, decide_eq_false_iff_not] at g1 g5 g6 g7;simp only [eN, rx]
     (repeat' split) <;> first | rfl | (exfalso; simp_all; done) | (exfalso; simp_all; omega)
    ·
     refine zk<|br<|zq<|zy<|br<|LW.seq<|LW.region<|am.st Z Z Z (ab.load Z Z Z jX Z Z)<|am.st Z Z Z (zs Z Z Z Z jX Z Z Z Z)<|am.nil<|br<|zr<|zf (.one (.cellAgg Z Z (by kernel_rfl) Z))<|Conv.pe ?_;simp only [decide_eq_true_eq, decide_eq_false_iff_not] at g1 g5 g6 g7;simp only [eN, rx]
     (repeat' split) <;> first | rfl | (exfalso; simp_all; done) | (exfalso; simp_all; omega)
   ·
    refine am.sk Z Z Z (gd g6 Z) Z Z<|am.sk Z Z Z (gd g6 Z) Z Z<|am.sk Z Z Z (gd g6 Z) Z Z<|am.st Z Z Z (db Z (bL g6 Z) Z)<|am.nil<|br<|LW.condF Z<|zk<|br<|zq<|zy<|br<|LW.seq<|LW.region<|am.st Z Z Z (ab.load Z Z Z jX Z Z)<|am.st Z Z Z (zs Z Z Z Z jX Z Z Z Z)<|am.nil<|br<|zr<|zf (.one (.cellAgg Z Z (by kernel_rfl) Z))<|Conv.pe ?_;simp only [decide_eq_false_iff_not] at g1 g5 g6;simp only [eN, rx]
    (repeat' split) <;> first | rfl | (exfalso; simp_all; done) | (exfalso; simp_all; omega)
  ·
   refine am.sk Z Z Z (gd g5 Z) Z Z<|am.sk Z Z Z (gd g5 Z) Z Z<|am.st Z Z Z (db Z (bL g5 Z) Z)<|am.st Z Z Z (zm Z Z)<|am.sk Z Z Z Z Z Z<|am.sk Z Z Z Z Z Z<|am.sk Z Z Z Z Z Z<|am.st Z Z Z (db Z Z Z)<|am.nil<|br<|LW.condF Z<|zk<|br<|zq<|zy<|br<|LW.seq<|LW.region<|am.st Z Z Z (ab.load Z Z Z jX Z Z)<|am.st Z Z Z (zs Z Z Z Z jX Z Z Z Z)<|am.nil<|br<|zr<|zf (.one (.cellAgg Z Z (by kernel_rfl) Z)) ?_;refine Conv.pe ?_;simp only [decide_eq_false_iff_not] at g1 g5;simp only [eN, rx]
   (repeat' split) <;> first | rfl | (exfalso; simp_all; done) | (exfalso; simp_all; omega)
theorem mf {l : List ID} {v : ID} : aU l v = -1 ∧ v ∉ l ∨ ∃ i : Nat, aU l v = i ∧ l[i]? = some v ∧ ∀ j, j < i → l[j]? ≠ some v := by
 unfold aU
 cases h : l.findIdx? (fun x => decide (v = x)) with
 | none =>
  left;rw [List.findIdx?_eq_none_iff] at h;exact ⟨rfl, fun hm => by simpa using h v hm⟩
 | some i =>
  right;rw [List.findIdx?_eq_some_iff_getElem] at h;obtain ⟨hi, h1, h2⟩ := h;refine ⟨i, rfl, by rw [List.getElem?_eq_getElem hi]; simpa using (of_decide_eq_true h1).symm, fun j hj hc => ?_⟩;have := h2 j hj;rw [List.getElem?_eq_getElem (by omega)] at hc;simp at hc this;exact this hc.symm
theorem oO {l : List ID} {v : ID} : 0 ≤ aU l v ↔ v ∈ l := by
 rcases mf (l := l) (v := v) with ⟨h1, h2⟩ | ⟨i, h1, h2, h3⟩
 ·rw [h1]; constructor
  ·intro h; omega
  ·intro h; exact absurd h h2
 ·rw [h1]; exact ⟨fun _ => List.mem_of_getElem? h2, fun _ => by omega⟩
section
variable {l : List Bk} {m : List (ID × Int)}
theorem wD (n : Nat) : ∀ (id : ID) (i : Int), (dM l n id i).length ≤ n + 1 := by
 induction n with
 | zero => intro id i; simp [dM]
 | succ n ih =>
  intro id i;simp only [dM];split
  ·simp
  ·split
   ·simp
   ·split
    ·simp
    ·split
     ·simp
     ·simp; exact ih _ _
theorem zV (id : ID) : (aF l id).length ≤ l.length + 1 := by
 unfold aF;split
 ·simp
 ·rename_i m hpl;split
  ·simp
  ·rename_i i hf;have := wD (l := l) (i + 1).toNat id i;rcases (aQ hpl).known _ _ hf with ⟨h, h'⟩ | ⟨b, p, h0, h1, h2, h3, h4, h5, h6, h7⟩
   ·rw [h] at this ⊢; simp at this ⊢; omega
   ·omega
end
theorem Jf {k : IntKind} {p : PV} (h : pp (.int k) p) : ∃ n, p = .int k n ∧ aZ k n := by
 cases h with | int h => exact ⟨_, rfl, h⟩
open Go.Proofs
theorem vE {α : Type} : ∀ {l s : List α} {i : Nat} {y : α}, aX l i y = some s → aM s i = some y
 | x :: r, s, 0, y, h => by cases h; rfl
 | x :: r, s, i + 1, y, h => by
  simp only [aX] at h;split at h
  ·rename_i q hq;cases h;show aM q i = some y;exact vE hq
  ·cases h
 | [], s, 0, y, h => by cases h
 | [], s, i + 1, y, h => by cases h
theorem JG : (Tryz.f166.name == "runtime.NumGoroutine") = false := by kernel_rfl
theorem JO : Extern.findNext Tryz.f166 = none := by kernel_rfl
theorem Jy : Extern.find Tryz.f166 = some (Extern.Atomic.loadT (.int .i64)) := by kernel_rfl
theorem JH : (Tryz.f201.name == "runtime.NumGoroutine") = false := by kernel_rfl
theorem JP : Extern.findNext Tryz.f201 = none := by kernel_rfl
theorem Jz : Extern.find Tryz.f201 = some (Extern.Atomic.update (Op.intArith .add) .i64 true) := by kernel_rfl
theorem JI : (Tryz.f212.name == "runtime.NumGoroutine") = false := by kernel_rfl
theorem JQ : Extern.findNext Tryz.f212 = none := by kernel_rfl
theorem JA : Extern.find Tryz.f212 = some (Extern.Atomic.loadT (.int .u32)) := by kernel_rfl
theorem JJ : (Tryz.f223.name == "runtime.NumGoroutine") = false := by kernel_rfl
theorem JR : Extern.findNext Tryz.f223 = none := by kernel_rfl
theorem JB : Extern.find Tryz.f223 = some (Extern.Atomic.storeT) := by kernel_rfl
theorem FT : (Tryz.f226.name == "runtime.NumGoroutine") = false := by kernel_rfl
theorem FV : Extern.findNext Tryz.f226 = none := by kernel_rfl
theorem FR : Extern.find Tryz.f226 = some (fun _ => do mark .disable; pure Extern.Race.none_) := by kernel_rfl
theorem JK : (Tryz.f227.name == "runtime.NumGoroutine") = false := by kernel_rfl
theorem JS : Extern.findNext Tryz.f227 = none := by kernel_rfl
theorem JC : Extern.find Tryz.f227 = some (Extern.Atomic.casT (.int .i32)) := by kernel_rfl
theorem FU : (Tryz.f228.name == "runtime.NumGoroutine") = false := by kernel_rfl
theorem FW : Extern.findNext Tryz.f228 = none := by kernel_rfl
theorem FS : Extern.find Tryz.f228 = some (fun _ => do mark .enable; pure Extern.Race.none_) := by kernel_rfl
theorem JL : (Tryz.f229.name == "runtime.NumGoroutine") = false := by kernel_rfl
theorem JT : Extern.findNext Tryz.f229 = none := by kernel_rfl
theorem JD : Extern.find Tryz.f229 = some (Extern.Race.marked .acquire) := by kernel_rfl
theorem JM : (Tryz.f231.name == "runtime.NumGoroutine") = false := by kernel_rfl
theorem JU : Extern.findNext Tryz.f231 = none := by kernel_rfl
theorem JE : Extern.find Tryz.f231 = some (Extern.Race.marked .releaseMerge) := by kernel_rfl
theorem JN : (Tryz.f232.name == "runtime.NumGoroutine") = false := by kernel_rfl
theorem JV : Extern.findNext Tryz.f232 = none := by kernel_rfl
theorem JF : Extern.find Tryz.f232 = some (Extern.Atomic.update (Op.intArith .add) .i32 true) := by kernel_rfl
theorem FK : tz Tryz.prog 291 295 = true := by kernel_rfl
theorem Gt {off : Nat} {n : Int} {cs : List LV} {H : List aa} (hH : aM H 0 = some (.box cs)) (h0 : aM cs (off + 0) = some (.p (.int .u32 n))) : LC Tryz.prog 199 [.ptr 0 off] H (Is (.p (.bool (n != 0))) H) := by
 refine dc Tryz.func199 Z Z Z ?_;refine zQ<|zR<|zM Z<|zN<|zT<|zQ<|zR<|zM Z<|yS Z (zn Z Z)<|yS Z (zA Z Z x5) ?_;refine yS Z (ab.atomLoad (P := Tryz.prog) (f := 212) (fn := Tryz.f212) Z Z Z Tryz.func212 Z JI JQ JA hH h0) ?_;exact yS Z (aw Z Z Z Z)<|zM Z<|zN<|zT<|zr<|ap (.one (.tmp Z))<|⟨rfl, rfl⟩
theorem KQ : av Tryz.prog 224 [.bool true] [.int .u32 1] := by
 refine zh Tryz.func224 Z Z Z Z ?_;exact zQ<|zR<|zM Z<|zN<|zT<|zQ<|zQ<|zR<|zM Z<|zN<|zT<|LW.condT Z<|zQ<|zR<|zM Z<|zN<|zT<|zr<|aj<|zf (.one (.tmp Z)) zv
theorem Ik {off : Nat} {cs cs' : List LV} {H H' : List aa} (hH : aM H 0 = some (.box cs)) (hc : aX cs (off + 0) (.p (.int .u32 1)) = some cs') (hH' : aX H 0 (.box cs') = some H') : Gg Tryz.prog 215 [.ptr 0 off, (bQ true)] H H' := by
 refine Gg.start (by kernel_rfl) Tryz.func215 Z Z Z (R := Is (.tup []) H') (fun _ _ h => h.2) ?_;refine LW.drawW (by kernel_rfl) (by kernel_rfl)<|zK Z ?_;refine yF (F := []) (s := none) Z (fun H _ => zn Z Z) Z ?_;refine yF (F := []) (s := none) Z (fun H _ => zA Z Z x5) Z ?_;refine zK Z ?_;refine yF (F := []) (s := none) Z (fun H _ => zC Z Z Z (by kernel_rfl) (zp KQ (.cons zv .nil))) Z ?_;refine yF Z (bJ.atomStore (P := Tryz.prog) (f := 223) (fn := Tryz.f223) Z Z Z Tryz.func223 Z JJ JR JB Z hH hc) hH' ?_;refine LF.nil ⟨by kernel_rfl, ?_⟩;exact gh .none<|⟨rfl, rfl⟩
theorem KO {off : Nat} {cs cs' : List LV} {H H' : List aa} (hH : aM H 0 = some (.box cs)) (h0 : aM cs (off + 0) = some (.p (.int .i32 0))) (hc : aX cs (off + 0) (.p (.int .i32 1)) = some cs') (hH' : aX H 0 (.box cs') = some H') (hb : Nat.blt off cs'.length = true) : LC Tryz.prog 221 [.ptr 0 off] H (Is (.tup []) H') := by
 refine dc Tryz.func221 Z Z Z ?_;refine zQ<|zR ?_;refine yS Z (ab.mark0 (P := Tryz.prog) (f := 226) (fn := Tryz.f226) Z Z Z Tryz.func226 Z FT FV FR ) ?_;refine zN<|zT<|zQ<|zQ<|zR<|zM Z<|yS Z (zn Z Z)<|yS Z (zA Z Z tg) ?_;refine yS Z (ab.atomCas (P := Tryz.prog) (f := 227) (fn := Tryz.f227) Z Z Z Tryz.func227 Z JK JS JC hH h0 hc hH') ?_;refine zN<|zT<|LW.condT Z<|zQ<|LW.condT Z<|zQ<|zR ?_;refine yS Z (ab.mark0 (P := Tryz.prog) (f := 228) (fn := Tryz.f228) Z Z Z Tryz.func228 Z FU FW FS ) ?_;refine zN<|zT<|zR<|zM Z<|yS Z (ab.convPtr Z Z (vE hH' ) hb FK) ?_;refine yS Z (ab.markP (P := Tryz.prog) (f := 229) (fn := Tryz.f229) Z Z Z Tryz.func229 Z JL JT JD ) ?_;exact zN<|zT<|zr<|aj<|ap .none<|⟨rfl, rfl⟩
theorem KN {off : Nat} {cs cs' : List LV} {H H' : List aa} (hH : aM H 0 = some (.box cs)) (h0 : aM cs (off + 0 + 0) = some (.p (.int .i32 0))) (hc : aX cs (off + 0 + 0) (.p (.int .i32 1)) = some cs') (hH' : aX H 0 (.box cs') = some H') (hb : Nat.blt (off + 0) cs'.length = true) : LC Tryz.prog 213 [.ptr 0 off] H (Is (.tup []) H') := by
 refine dc Tryz.func213 Z Z Z ?_;exact zR<|zM Z<|yS Z (zn Z Z)<|yS Z (zA Z Z x6)<|yS Z (zC Z Z Z (by kernel_rfl) (KO hH h0 hc hH' hb))<|zN<|gh .none<|⟨rfl, rfl⟩
theorem KP {off : Nat} {cs cs' : List LV} {H H' : List aa} (hH : aM H 0 = some (.box cs)) (h0 : aM cs (off + 0) = some (.p (.int .i32 1))) (hb : Nat.blt off cs.length = true) (hc : aX cs (off + 0) (.p (.int .i32 0)) = some cs') (hH' : aX H 0 (.box cs') = some H') : LC Tryz.prog 222 [.ptr 0 off] H (Is (.tup []) H') := by
 refine dc Tryz.func222 Z Z Z ?_;refine zQ<|LW.condT Z<|zQ<|zR<|zM Z<|yS Z (zn Z Z)<|yS Z (zA Z Z tg)<|yS Z (ab.load1 Z Z hH K4 h0)<|zN<|zT<|zQ<|zR<|zM Z<|yS Z (ab.convPtr Z Z hH hb FK) ?_;refine yS Z (ab.markP (P := Tryz.prog) (f := 231) (fn := Tryz.f231) Z Z Z Tryz.func231 Z JM JU JE ) ?_;refine zN<|zT<|zR ?_;refine yS Z (ab.mark0 (P := Tryz.prog) (f := 226) (fn := Tryz.f226) Z Z Z Tryz.func226 Z FT FV FR ) ?_;refine zN<|zT<|zQ<|zR<|zM Z<|yS Z (zn Z Z)<|yS Z (zA Z Z tg) ?_;refine yS Z (ab.atomAdd (P := Tryz.prog) (f := 232) (fn := Tryz.f232) Z Z Z Tryz.func232 Z JN JV JF hH h0 hc hH') ?_;refine zM Z<|zN<|zT<|zQ<|zQ<|zR<|zM Z<|yS Z (aw Z Z Z Z)<|zN<|zT<|LW.condF Z<|zk<|zT<|zR ?_;refine yS Z (ab.mark0 (P := Tryz.prog) (f := 228) (fn := Tryz.f228) Z Z Z Tryz.func228 Z FU FW FS ) ?_;exact zN<|gh .none<|⟨rfl, rfl⟩
theorem Ij {off : Nat} {cs cs' : List LV} {H H' : List aa} (hH : aM H 0 = some (.box cs)) (h0 : aM cs (off + 0 + 0) = some (.p (.int .i32 1))) (hb : Nat.blt (off + 0) cs.length = true) (hc : aX cs (off + 0 + 0) (.p (.int .i32 0)) = some cs') (hH' : aX H 0 (.box cs') = some H') : Gg Tryz.prog 214 [.ptr 0 off] H H' := by
 refine Gg.start (by kernel_rfl) Tryz.func214 Z Z Z (R := Is (.tup []) H') (fun _ _ h => h.2) ?_;exact zR<|zM Z<|yS Z (zn Z Z)<|yS Z (zA Z Z x6)<|yS Z (zC Z Z Z (by kernel_rfl) (KP hH h0 hb hc hH'))<|zN<|gh .none<|⟨rfl, rfl⟩
theorem Ih {off : Nat} {n m : Int} {cs cs' : List LV} {H H' : List aa} (hH : aM H 0 = some (.box cs)) (h0 : aM cs (off + 0) = some (iQ n)) (hc : aX cs (off + 0) (.p (.int .i64 (IntKind.i64.wrap (n + m)))) = some cs') (hH' : aX H 0 (.box cs') = some H') : LC Tryz.prog 195 [.ptr 0 off, (iQ m)] H (Is (.p (.int .i64 (IntKind.i64.wrap (n + m)))) H') := by
 refine dc Tryz.func195 Z Z Z ?_;refine zQ<|zR<|zM Z<|zN<|zT<|zQ<|zR<|zM Z<|yS Z (zn Z Z)<|yS Z (zA Z Z yb)<|zM Z ?_;refine yS Z (ab.atomAdd (P := Tryz.prog) (f := 201) (fn := Tryz.f201) Z Z Z Tryz.func201 Z JH JP Jz hH h0 hc hH') ?_;exact zM Z<|zN<|zT<|zr<|ap (.one (.tmp Z))<|⟨rfl, rfl⟩
theorem Kv {off : Nat} {n : Int} {cs : List LV} {H : List aa} (hH : aM H 0 = some (.box cs)) (h0 : aM cs (off + 0) = some (iQ n)) : LC Tryz.prog 143 [.ptr 0 off] H (Is (iQ n) H) := by
 refine dc Tryz.func143 Z Z Z ?_;refine zQ<|zR<|zM Z<|zN<|zT<|zQ<|zR<|zM Z<|yS Z (zn Z Z)<|yS Z (zA Z Z yb) ?_;refine yS Z (ab.atomLoad (P := Tryz.prog) (f := 166) (fn := Tryz.f166) Z Z Z Tryz.func166 Z JG JO Jy hH h0) ?_;exact zM Z<|zN<|zT<|zr<|ap (.one (.tmp Z))<|⟨rfl, rfl⟩
open Go.Proofs
def jM (seed n r : Int) : Int := IntKind.i64.wrap ((step seed (IntKind.u64.wrap r)).tmod (IntKind.u64.wrap n))
def kR (seed r : Int) : Int := step seed (IntKind.u64.wrap (IntKind.i64.wrap (1000 + r)))
theorem KI {cs cs1 cs2 : List LV} {seed n r : Int} {q : Nat} (hs : aM cs (0 + 0) = some (uQ seed)) (hn : aM cs (0 + 1) = some (iQ n)) (hz : IntKind.u64.wrap n ≠ 0)
  (hs1 : aM cs1 (0 + 0) = some (uQ seed)) (hc1 : aX cs (q + 3) (.p (.int .i64 (jM seed n r))) = some cs1) (hc2 : aX cs1 (q + 4) (.p (.int .u64 (kR seed r))) = some cs2) :
  LC Tryz.prog 194 [.ptr 1 0, .ptr 2 0, .ptr 3 0] [.box cs, .box [.ptr 0 0], .box [(iQ r)], .box [.ptr 0 q]] (Is (.tup []) [.box cs2, .box [.ptr 0 0], .box [(iQ r)], .box [.ptr 0 q]]) := by
 refine dc Tryz.func194 Z Z Z ?_;refine zQ<|LW.drawW (by kernel_rfl) (by kernel_rfl)<|yF Z (zd Z Z Z oV Z Z) Z<|yF Z (zd Z Z Z rg Z Z) Z ?_;refine yF (F := []) (s := none) Z (fun H _ => zn Z Z) Z ?_;refine yF (F := []) (s := none) Z (fun H _ => zA Z Z yc) Z ?_;refine yF Z (bJ.load1 Z Z Z nB hs) Z<|yF Z (zd Z Z Z bC Z Z) Z ?_;refine yF (F := []) (s := none) Z (fun H _ => ab.convert (k' := .u64) Z Z (by kernel_rfl)) Z ?_;refine yF (F := []) (s := none) Z (fun H _ => zC Z Z Z (by kernel_rfl) (zp (uC (h := seed) (x := (IntKind.u64.wrap (r)))) (.cons zv (.cons zv .nil)))) Z ?_;refine yF Z (zd Z Z Z rg Z Z) Z ?_;refine yF (F := []) (s := none) Z (fun H _ => zn Z Z) Z ?_;refine yF (F := []) (s := none) Z (fun H _ => zA Z Z th) Z ?_;refine yF Z (bJ.load1 Z Z Z bC hn) Z ?_;refine yF (F := []) (s := none) Z (fun H _ => ab.convert (k' := .u64) Z Z (by kernel_rfl)) Z ?_;refine yF (F := []) (s := none) Z (fun H _ => ab.rem Z Z Z hz) Z ?_;refine yF (F := []) (s := none) Z (fun H _ => ab.convert (k' := .i64) Z Z (by kernel_rfl)) Z ?_;refine yF (F := []) (s := none) Z (fun H _ => zn Z Z) Z ?_;refine yF (F := []) (s := none) Z (fun H _ => zA Z Z x9) Z ?_;refine yF Z (bJ.store1 Z Z Z Z bC Z hc1) Z ?_;refine LF.nil ⟨by kernel_rfl, ?_⟩;refine zT<|LW.drawW (by kernel_rfl) (by kernel_rfl)<|yF Z (zd Z Z Z oV Z Z) Z<|yF Z (zd Z Z Z rg Z Z) Z ?_;refine yF (F := []) (s := none) Z (fun H _ => zn Z Z) Z ?_;refine yF (F := []) (s := none) Z (fun H _ => zA Z Z yc) Z ?_;refine yF Z (bJ.load1 Z Z Z nB hs1) Z<|yF Z (zd Z Z Z bC Z Z) Z ?_;refine yF (F := []) (s := none) Z (fun H _ => aw Z Z Z Z) Z ?_;refine yF (F := []) (s := none) Z (fun H _ => ab.convert (k' := .u64) Z Z (by kernel_rfl)) Z ?_;refine yF (F := []) (s := none) Z (fun H _ => zC Z Z Z (by kernel_rfl) (zp (uC (h := seed) (x := (IntKind.u64.wrap (IntKind.i64.wrap (1000 + r))))) (.cons zv (.cons zv .nil)))) Z ?_;refine yF (F := []) (s := none) Z (fun H _ => zn Z Z) Z ?_;refine yF (F := []) (s := none) Z (fun H _ => zA Z Z ya) Z ?_;refine yF Z (bJ.store1 Z Z Z Z nB Z hc2) Z ?_;refine LF.nil ⟨by kernel_rfl, ?_⟩;exact gh .none<|⟨rfl, rfl⟩
abbrev Da : LV := .fn 194 [] [.ptr 1 0, .ptr 2 0, .ptr 3 0]
theorem KM {cs csA cs1 cs2 csD csE : List LV} {seed n r : Int} {q : Nat} (hm : aM cs (q + 0 + 1 + 0 + 0) = some (.p (.int .i32 0))) (hA : aX cs (q + 0 + 1 + 0 + 0) (.p (.int .i32 1)) = some csA) (hAb : Nat.blt (q + 0 + 1 + 0) csA.length = true)
  (hd : aM csA (q + 0 + 0 + 0) = some (.p (.int .u32 0))) (hs : aM csA (0 + 0) = some (uQ seed)) (hn : aM csA (0 + 1) = some (iQ n)) (hz : IntKind.u64.wrap n ≠ 0)
  (hs1 : aM cs1 (0 + 0) = some (uQ seed)) (hc1 : aX csA (q + 3) (.p (.int .i64 (jM seed n r))) = some cs1) (hc2 : aX cs1 (q + 4) (.p (.int .u64 (kR seed r))) = some cs2)
  (hD : aX cs2 (q + 0 + 0 + 0) (.p (.int .u32 1)) = some csD) (hDm : aM csD (q + 0 + 1 + 0 + 0) = some (.p (.int .i32 1))) (hDb : Nat.blt (q + 0 + 1 + 0) csD.length = true) (hE : aX csD (q + 0 + 1 + 0 + 0) (.p (.int .i32 0)) = some csE) :
  LC Tryz.prog 200 [.ptr 0 (q + 0), Da] [.box cs, .box [.ptr 0 0], .box [(iQ r)], .box [.ptr 0 q]] (Is (.tup []) [.box csE, .box [.ptr 0 0], .box [(iQ r)], .box [.ptr 0 q]]) := by
 refine LC.ofD Tryz.func200 Z Z Z Z ?_;refine oX.seq<|oX.region<|cd.st Z Z Z (zm Z Z)<|cd.st Z Z Z (zn Z Z)<|cd.st Z Z Z (zA Z Z x7)<|cd.st Z Z Z (zC Z Z Z (by kernel_rfl) (KN (off := q + 0 + 1) Z hm hA Z hAb))<|cd.nil<|oX.seq<|oX.region<|cd.st Z Z Z (zm Z Z)<|cd.st Z Z Z (zn Z Z)<|cd.st Z Z Z (zA Z Z x7)<|cd.defer Z Z Z Z Z<|cd.nil<|oX.seq<|oX.region<|cd.st Z Z Z (zm Z Z)<|cd.st Z Z Z (zn Z Z)<|cd.st Z Z Z (zA Z Z pt)<|cd.st Z Z Z (zC Z Z Z (by kernel_rfl) (Gt (off := q + 0 + 0) (n := 0) Z hd))<|cd.st Z Z Z (ab.not Z Z)<|cd.nil<|oX.condT Z<|oX.seq ?_;exact oX.region<|cd.st Z Z Z (zm Z Z)<|cd.st Z Z Z (zn Z Z)<|cd.st Z Z Z (zA Z Z pt)<|cd.defer Z Z Z Z Z<|cd.nil<|oX.region<|cd.st Z Z Z (zm Z Z)<|cd.st Z Z Z (zC Z Z Z (by kernel_rfl) (KI hs hn hz hs1 hc1 hc2))<|cd.nil<|⟨.inl rfl, .cons (Ik (off := q + 0 + 0) Z hD Z) (.cons (Ij (off := q + 0 + 1) Z hDm hDb hE Z) .nil)⟩
theorem Ig {cs csA cs1 cs2 csD csE : List LV} {seed n r : Int} {q : Nat} (hd0 : aM cs (q + 0 + 0 + 0) = some (.p (.int .u32 0))) (hm : aM cs (q + 0 + 1 + 0 + 0) = some (.p (.int .i32 0))) (hA : aX cs (q + 0 + 1 + 0 + 0) (.p (.int .i32 1)) = some csA) (hAb : Nat.blt (q + 0 + 1 + 0) csA.length = true)
  (hd : aM csA (q + 0 + 0 + 0) = some (.p (.int .u32 0))) (hs : aM csA (0 + 0) = some (uQ seed)) (hn : aM csA (0 + 1) = some (iQ n)) (hz : IntKind.u64.wrap n ≠ 0)
  (hs1 : aM cs1 (0 + 0) = some (uQ seed)) (hc1 : aX csA (q + 3) (.p (.int .i64 (jM seed n r))) = some cs1) (hc2 : aX cs1 (q + 4) (.p (.int .u64 (kR seed r))) = some cs2)
  (hD : aX cs2 (q + 0 + 0 + 0) (.p (.int .u32 1)) = some csD) (hDm : aM csD (q + 0 + 1 + 0 + 0) = some (.p (.int .i32 1))) (hDb : Nat.blt (q + 0 + 1 + 0) csD.length = true) (hE : aX csD (q + 0 + 1 + 0 + 0) (.p (.int .i32 0)) = some csE) : LC Tryz.prog 193 [.ptr 0 (q + 0), Da] [.box cs, .box [.ptr 0 0], .box [(iQ r)], .box [.ptr 0 q]] (Is (.tup []) [.box csE, .box [.ptr 0 0], .box [(iQ r)], .box [.ptr 0 q]]) := by
 refine dc Tryz.func193 Z Z Z ?_;exact zQ<|zR<|zM Z<|yS Z (zn Z Z)<|yS Z (zA Z Z pt)<|yS Z (zC Z Z Z (by kernel_rfl) (Gt (off := q + 0 + 0) (n := 0) Z hd0))<|yS Z (ab.not Z Z)<|zN<|zT<|LW.condT Z<|zR<|zM Z<|zM Z<|yS Z (zC Z Z Z (by kernel_rfl) (KM hm hA hAb hd hs hn hz hs1 hc1 hc2 hD hDm hDb hE))<|zN<|gh .none<|⟨rfl, rfl⟩
theorem If {cs : List LV} {r : Int} {q : Nat} (hd : aM cs (q + 0 + 0 + 0) = some (.p (.int .u32 1))) : LC Tryz.prog 193 [.ptr 0 (q + 0), Da] [.box cs, .box [.ptr 0 0], .box [(iQ r)], .box [.ptr 0 q]] (Is (.tup []) [.box cs, .box [.ptr 0 0], .box [(iQ r)], .box [.ptr 0 q]]) := by
 refine dc Tryz.func193 Z Z Z ?_;exact zQ<|zR<|zM Z<|yS Z (zn Z Z)<|yS Z (zA Z Z pt)<|yS Z (zC Z Z Z (by kernel_rfl) (Gt (off := q + 0 + 0) (n := 1) Z hd))<|yS Z (ab.not Z Z)<|zN<|zT<|LW.condF Z<|zk<|gh .none<|⟨rfl, rfl⟩
open Go.Proofs
def iF (seed n r : Int) (b : Bool) : List LV :=
 [.p (.int .u32 (cond b 1 0)), .p (.int .i32 0), .p (.int .u32 0), .p (.int .i64 (cond b (jM seed n r) 0)), .p (.int .u64 (cond b (kR seed r) 0))]
def uK (seed n : Int) (f : Nat → Bool) (k : Int) : List LV :=
 (uQ seed) :: (iQ n) :: (iF seed n 0 (f 0) ++ (iF seed n 1 (f 1) ++ (iF seed n 2 (f 2) ++ (iF seed n 3 (f 3) ++ (iF seed n 4 (f 4) ++ (iF seed n 5 (f 5) ++ (iF seed n 6 (f 6) ++ (iF seed n 7 (f 7) ++ (iF seed n 8 (f 8) ++ (iF seed n 9 (f 9) ++ [(iQ k)]))))))))))
def AD (f : Nat → Bool) (i : Nat) : Nat → Bool := fun j => cond (Nat.beq j i) true (f j)
def GO (f : Nat → Bool) (i : Nat) : Nat → Bool := fun j => cond (Nat.beq j i) false (f j)
theorem yt {f : Nat → Bool} {i : Nat} (h : f i = true) : AD f i = f := by
 funext j;unfold AD
 cases e : Nat.beq j i with
 | false => rfl
 | true => rw [Nat.eq_of_beq_eq_true e, h]; rfl
theorem EF {f : Nat → Bool} {i : Nat} (h : f i = false) : GO f i = f := by
 funext j;unfold GO
 cases e : Nat.beq j i with
 | false => rfl
 | true => rw [Nat.eq_of_beq_eq_true e, h]; rfl
structure Dk where
 f : Nat → Bool
 k : Int
def iu (seed n : Int) (d : Dk) : List LV := uK seed n d.f d.k
def Dk.turned (d : Dk) (r : Int) : Dk := ⟨AD d.f r.toNat, IntKind.i64.wrap (d.k + 1)⟩
def rc (n r : Int) : Bool := decide (n ≠ 0 ∧ IntKind.u64.wrap n ≠ 0 ∧ 0 ≤ r ∧ r < 10)
theorem fy {n r : Int} (h : rc n r = true) : n ≠ 0 ∧ IntKind.u64.wrap n ≠ 0 ∧ 0 ≤ r ∧ r < 10 := of_decide_eq_true h
theorem Ib {cs csA cs1 cs2 csD csE : List LV} {seed n r : Int} (hd0 : aM cs ((2 + r.toNat * 5) + 0 + 0 + 0) = some (.p (.int .u32 0))) (hm : aM cs ((2 + r.toNat * 5) + 0 + 1 + 0 + 0) = some (.p (.int .i32 0))) (hA : aX cs ((2 + r.toNat * 5) + 0 + 1 + 0 + 0) (.p (.int .i32 1)) = some csA) (hAb : Nat.blt ((2 + r.toNat * 5) + 0 + 1 + 0) csA.length = true)
  (hd : aM csA ((2 + r.toNat * 5) + 0 + 0 + 0) = some (.p (.int .u32 0))) (hs : aM csA (0 + 0) = some (uQ seed)) (hn : aM csA (0 + 1) = some (iQ n)) (hz : IntKind.u64.wrap n ≠ 0)
  (hs1 : aM cs1 (0 + 0) = some (uQ seed)) (hc1 : aX csA ((2 + r.toNat * 5) + 3) (.p (.int .i64 (jM seed n r))) = some cs1) (hc2 : aX cs1 ((2 + r.toNat * 5) + 4) (.p (.int .u64 (kR seed r))) = some cs2)
  (hD : aX cs2 ((2 + r.toNat * 5) + 0 + 0 + 0) (.p (.int .u32 1)) = some csD) (hDm : aM csD ((2 + r.toNat * 5) + 0 + 1 + 0 + 0) = some (.p (.int .i32 1))) (hDb : Nat.blt ((2 + r.toNat * 5) + 0 + 1 + 0) csD.length = true) (hE : aX csD ((2 + r.toNat * 5) + 0 + 1 + 0 + 0) (.p (.int .i32 0)) = some csE) {k : Int} {csF : List LV} (hr0 : 0 ≤ r) (hr1 : r < 10) (hk : aM csE (0 + 52 + 0) = some (iQ k)) (hF : aX csE (0 + 52 + 0) (.p (.int .i64 (IntKind.i64.wrap (k + 1)))) = some csF) (hl : LV.lowsB 1 csF = true) : LC Tryz.prog 182 [.ptr 0 0, (iQ r)] [.box cs] (Is (.ptr 0 (2 + r.toNat * 5)) [.box csF]) := by
 refine dc Tryz.func182 Z Z Z ?_;refine zQ<|zR<|yS Z (bV Z Z Z Z Z)<|yS Z (bV Z Z Z Z Z)<|zM Z<|zN<|zT<|zQ<|LW.ent (bM.slot Z)<|LW.drawW (by kernel_rfl) (by kernel_rfl)<|yF Z (zd Z Z Z rg Z Z) Z<|yF Z (zd Z Z Z bC Z Z) Z ?_;refine yF (F := []) (s := none) Z (fun H _ => zn Z Z) Z ?_;refine yF (F := []) (s := none) Z (fun H _ => zA Z Z yd) Z ?_;refine yF (F := []) (s := none) Z (fun H _ => ab.indexAddrA Z Z Z Fe hr0 hr1) Z ?_;refine yF Z (bJ.alloc Z FZ (id := 3) Z) Z<|yF Z (zt Z Z Z Z oV Z Z Z) Z ?_;refine LF.nil ⟨by kernel_rfl, ?_⟩;refine zT<|zQ<|zR<|yS Z (zD Z Z Z oV Z Z)<|yS Z (zn Z Z)<|yS Z (zA Z Z x8)<|yS Z (ab.makeFunc Z Z Z)<|yS Z (zC Z Z Z (by kernel_rfl) (Ig (q := (2 + r.toNat * 5)) hd0 hm hA hAb hd hs hn hz hs1 hc1 hc2 hD hDm hDb hE))<|zN<|zT<|zQ<|zR<|yS Z (zD Z Z Z rg Z Z)<|yS Z (zn Z Z)<|yS Z (zA Z Z ti)<|yS Z (zC Z Z Z (by kernel_rfl) (Ih (off := 0 + 52) Z hk hF Z))<|zN<|zT<|zQ<|zR<|yS Z (zD Z Z Z oV Z Z)<|zM Z<|zN<|zT ?_;refine LW.ret ?_;refine ba (env' := [(4, .ptr 0 (2 + r.toNat * 5))]) (H' := [.box csF]) (zW 1 ⟨rfl, trivial⟩ Z Z Z (zL hl Z)) (.one (.tmp Z)) ⟨rfl, rfl⟩
theorem Ia {cs : List LV} {r : Int} (hd : aM cs ((2 + r.toNat * 5) + 0 + 0 + 0) = some (.p (.int .u32 1))) {k : Int} {csF : List LV} (hr0 : 0 ≤ r) (hr1 : r < 10) (hk : aM cs (0 + 52 + 0) = some (iQ k)) (hF : aX cs (0 + 52 + 0) (.p (.int .i64 (IntKind.i64.wrap (k + 1)))) = some csF) (hl : LV.lowsB 1 csF = true) : LC Tryz.prog 182 [.ptr 0 0, (iQ r)] [.box cs] (Is (.ptr 0 (2 + r.toNat * 5)) [.box csF]) := by
 refine dc Tryz.func182 Z Z Z ?_;refine zQ<|zR<|yS Z (bV Z Z Z Z Z)<|yS Z (bV Z Z Z Z Z)<|zM Z<|zN<|zT<|zQ<|LW.ent (bM.slot Z)<|LW.drawW (by kernel_rfl) (by kernel_rfl)<|yF Z (zd Z Z Z rg Z Z) Z<|yF Z (zd Z Z Z bC Z Z) Z ?_;refine yF (F := []) (s := none) Z (fun H _ => zn Z Z) Z ?_;refine yF (F := []) (s := none) Z (fun H _ => zA Z Z yd) Z ?_;refine yF (F := []) (s := none) Z (fun H _ => ab.indexAddrA Z Z Z Fe hr0 hr1) Z ?_;refine yF Z (bJ.alloc Z FZ (id := 3) Z) Z<|yF Z (zt Z Z Z Z oV Z Z Z) Z ?_;refine LF.nil ⟨by kernel_rfl, ?_⟩;refine zT<|zQ<|zR<|yS Z (zD Z Z Z oV Z Z)<|yS Z (zn Z Z)<|yS Z (zA Z Z x8)<|yS Z (ab.makeFunc Z Z Z)<|yS Z (zC Z Z Z (by kernel_rfl) (If (q := (2 + r.toNat * 5)) hd))<|zN<|zT<|zQ<|zR<|yS Z (zD Z Z Z rg Z Z)<|yS Z (zn Z Z)<|yS Z (zA Z Z ti)<|yS Z (zC Z Z Z (by kernel_rfl) (Ih (off := 0 + 52) Z hk hF Z))<|zN<|zT<|zQ<|zR<|yS Z (zD Z Z Z oV Z Z)<|zM Z<|zN<|zT ?_;refine LW.ret ?_;refine ba (env' := [(4, .ptr 0 (2 + r.toNat * 5))]) (H' := [.box csF]) (zW 1 ⟨rfl, trivial⟩ Z Z Z (zL hl Z)) (.one (.tmp Z)) ⟨rfl, rfl⟩
theorem CN {seed n r k : Int} {f : Nat → Bool} (hz : IntKind.u64.wrap n ≠ 0) (hr0 : 0 ≤ r) (hr1 : r < 10) :
  LC Tryz.prog 182 [.ptr 0 0, (iQ r)] [.box (uK seed n (GO f r.toNat) k)] (Is (.ptr 0 (2 + r.toNat * 5)) [.box (uK seed n (AD f r.toNat) (IntKind.i64.wrap (k + 1)))]) := by
 have hc : r = 0 ∨ r = 1 ∨ r = 2 ∨ r = 3 ∨ r = 4 ∨ r = 5 ∨ r = 6 ∨ r = 7 ∨ r = 8 ∨ r = 9 := by omega
 rcases hc with rfl | rfl | rfl | rfl | rfl | rfl | rfl | rfl | rfl | rfl
 all_goals exact Ib (seed := seed) (n := n) rfl rfl rfl rfl rfl rfl rfl hz rfl rfl rfl rfl rfl rfl rfl hr0 hr1 rfl rfl rfl
theorem CM {seed n r k : Int} {f : Nat → Bool} (hr0 : 0 ≤ r) (hr1 : r < 10) :
  LC Tryz.prog 182 [.ptr 0 0, (iQ r)] [.box (uK seed n (AD f r.toNat) k)] (Is (.ptr 0 (2 + r.toNat * 5)) [.box (uK seed n (AD f r.toNat) (IntKind.i64.wrap (k + 1)))]) := by
 have hc : r = 0 ∨ r = 1 ∨ r = 2 ∨ r = 3 ∨ r = 4 ∨ r = 5 ∨ r = 6 ∨ r = 7 ∨ r = 8 ∨ r = 9 := by omega
 rcases hc with rfl | rfl | rfl | rfl | rfl | rfl | rfl | rfl | rfl | rfl
 all_goals exact Ia rfl hr0 hr1 rfl rfl rfl
theorem KE {seed n r : Int} {d : Dk} (h : rc n r = true) : LC Tryz.prog 182 [.ptr 0 0, (iQ r)] [.box (iu seed n d)] (Is (.ptr 0 (2 + r.toNat * 5)) [.box (iu seed n (d.turned r))]) := by
 obtain ⟨-, h1, h2, h3⟩ := fy h
 cases hf : d.f r.toNat with
 | true =>
  have := CM (seed := seed) (n := n) (k := d.k) (f := d.f) h2 h3;rw [yt hf] at this;unfold iu Dk.turned;rw [yt hf];exact this
 | false =>
  have := CN (seed := seed) (n := n) (k := d.k) (f := d.f) h1 h2 h3;rw [EF hf] at this;exact this
theorem wF {seed n r : Int} {d : Dk} (hr0 : 0 ≤ r) (hr1 : r < 10) : aM (iu seed n (d.turned r)) (2 + r.toNat * 5 + 3) = some (.p (.int .i64 (jM seed n r))) := by
 have hc : r = 0 ∨ r = 1 ∨ r = 2 ∨ r = 3 ∨ r = 4 ∨ r = 5 ∨ r = 6 ∨ r = 7 ∨ r = 8 ∨ r = 9 := by omega
 rcases hc with rfl | rfl | rfl | rfl | rfl | rfl | rfl | rfl | rfl | rfl
 all_goals rfl
theorem zZ {seed n r : Int} {d : Dk} (hr0 : 0 ≤ r) (hr1 : r < 10) : aM (iu seed n (d.turned r)) (2 + r.toNat * 5 + 4) = some (.p (.int .u64 (kR seed r))) := by
 have hc : r = 0 ∨ r = 1 ∨ r = 2 ∨ r = 3 ∨ r = 4 ∨ r = 5 ∨ r = 6 ∨ r = 7 ∨ r = 8 ∨ r = 9 := by omega
 rcases hc with rfl | rfl | rfl | rfl | rfl | rfl | rfl | rfl | rfl | rfl
 all_goals rfl
def qL (seed n r i : Int) : Int := (IntKind.i64.wrap (IntKind.i64.wrap (jM seed n r + n) - i)).tmod n
def Ds (seed n r i : Int) : Bool := bits .and .u64 (step (kR seed r) (IntKind.u64.wrap (if qL seed n r i > i then qL seed n r i else i))) 1 == 1
def q9 (seed n r i : Int) : Int := bif Ds seed n r i then qL seed n r i else i
theorem Ku {seed n r i : Int} {d : Dk} (h : rc n r = true) : LC Tryz.prog 165 [.ptr 0 0, (iQ r), (iQ i)] [.box (iu seed n d)] (Is (.p (.int .i64 (q9 seed n r i))) [.box (iu seed n (d.turned r))]) := by
 refine dc Tryz.func165 Z Z Z ?_;refine zQ<|zR<|zM Z<|zN<|zT<|zQ<|zR<|zM Z<|zM Z<|yS Z (zC Z Z Z (by kernel_rfl) (KE h))<|zM Z<|zN<|zT<|zQ<|LW.draw2 (by kernel_rfl) (by kernel_rfl)<|zH Z<|yE Z (zn Z Z)<|yE Z (zA Z Z x9)<|yE Z (ab.load1 Z Z Z bC (wF (fy h).2.2.1 (fy h).2.2.2))<|zH Z<|yE Z (zn Z Z)<|yE Z (zA Z Z th)<|yE Z (ab.load1 Z Z Z bC Z)<|yE Z (aw Z Z Z Z) ?_;refine zH Z<|yE Z (aw Z Z Z Z)<|zH Z<|yE Z (zn Z Z)<|yE Z (zA Z Z th)<|yE Z (ab.load1 Z Z Z bC Z)<|yE Z (ab.rem Z Z Z (fy h).1)<|zH Z<|LO.nil<|zT<|zQ<|zQ<|zR<|zM Z<|yS Z (zn Z Z)<|yS Z (zA Z Z ya)<|yS Z (ab.load1 Z Z Z nB (zZ (fy h).2.2.1 (fy h).2.2.2))<|zM Z<|zM Z<|yS Z (ab.max Z Z Z)<|yS Z (ab.convert (k' := .u64) Z Z (by kernel_rfl))<|yS Z (zC Z Z Z (by kernel_rfl) (zp (uC (h := (kR seed r)) (x := (IntKind.u64.wrap (if (qL seed n r i) > i then (qL seed n r i) else i)))) (.cons zv (.cons zv .nil))))<|yS Z (aw Z Z Z Z)<|yS Z (aw Z Z Z Z) ?_;refine zN<|zT ?_;refine zX Z (fun g1 => ?_)<|fun g1 => ?_
 ·
  exact zQ<|zR<|zM Z<|zM Z<|zN<|zT<|zr<|aj<|ap (.one (.tmp Z))<|⟨by unfold q9 Ds; rw [g1]; rfl, rfl⟩
 ·
  exact zk<|zT<|zQ<|zR<|zM Z<|zM Z<|zN<|zT<|zr<|ap (.one (.tmp Z))<|⟨by unfold q9 Ds; rw [g1]; rfl, rfl⟩
open Go.Proofs
def few (l : List Bk) : Bool := decide (l.length ≤ 1000)
theorem tf {l : List Bk} (h : few l = true) : l.length ≤ 1000 := of_decide_eq_true h
def Hf (l : List Bk) : Option Bool :=
 (match places l with
 | none =>
  some false
 | some _ =>
  some true)
theorem Ld {l : List Bk} {r_ : Bool} (hr : Hf l = some r_) : av Tryz.prog 187 [.slice 5 (l.map ax)] [.bool r_] := by
 refine zh Tryz.func187 Z Z Z Z ?_;unfold Hf at hr;refine zQ<|zR<|zM Z<|zN<|zT<|zQ<|zR<|zM Z ?_;rcases h_f1 : places l with _ | m_
 ·
  rw [h_f1] at hr;simp only at hr;refine yS Z (zC Z Z Z (by kernel_rfl) (IE h_f1))<|zM Z<|yS Z (fA Z Z Z)<|yS Z (fA Z Z Z)<|zM Z<|zM Z<|zN<|zT<|zQ<|zR<|zM Z<|zM Z<|zN<|zT<|zr ?_;obtain rfl := zJ hr;exact zf (.one (.tmp Z)) zv
 ·
  rw [h_f1] at hr;simp only at hr;refine yS Z (zC Z Z Z (by kernel_rfl) (IF h_f1 Z Z Z))<|zM Z<|yS Z (fA Z Z Z)<|yS Z (fA Z Z Z)<|zM Z<|zM Z<|zN<|zT<|zQ<|zR<|zM Z<|zM Z<|zN<|zT<|zr ?_;obtain rfl := zJ hr;exact zf (.one (.tmp Z)) zv
structure kp where
 t13 : Int
 out : List ID
def nG (l : List Bk) (id : ID) (x1 : kp) : Option (kp ⊕ kp) :=
 bif decide (x1.t13 < (l.length : Int)) then
  (ix l x1.t13).bind fun y1 =>
  bif ((y1.Parent.1 == id.1) && ((y1.Parent.2 == id.2) && true)) then
   bif room x1.out.length [nm y1].length 16 then
    some (.inl (kp.mk (IntKind.i64.wrap (x1.t13 + 1)) (x1.out ++ [nm y1])))
   else none
  else
   some (.inl (kp.mk (IntKind.i64.wrap (x1.t13 + 1)) x1.out))
 else
  some (.inr (kp.mk x1.t13 x1.out))
def Hz (l : List Bk) (id : ID) : Option (List ID) :=
 (Hf l).bind fun v1 =>
 bif !v1 then
  some []
 else
  (iter (nG l id) bG (kp.mk 0 ([] : List ID))).bind fun v2 =>
  some v2.out
theorem Lo {l : List Bk} {id : ID} {r_ : (List ID)} (hr : Hz l id = some r_) : av Tryz.prog 171 [.slice 5 (l.map ax), bH id] [.slice 2 (r_.map bH)] := by
 refine zh Tryz.func171 Z Z Z Z ?_;unfold Hz at hr;refine zQ<|zR<|yS Z (bV Z Z Z Z Z)<|zM Z<|zN<|zT<|zQ<|zQ<|zR<|zM Z<|zb hr fun v1 h_v1 hr => yS Z (zC Z Z Z (by kernel_rfl) (zp (Ld h_v1) (.cons zv .nil)))<|yS Z (ab.not Z Z)<|zN<|zT ?_;refine zX Z (fun g1 => ?_)<|fun g1 => ?_
 ·
  refine zi g1 hr fun hr => zQ<|zR<|zM Z<|zN<|zT<|zr<|aj ?_;obtain rfl := zJ hr;exact zf (.one (.tmp Z)) Conv.zs
 ·
  refine zo g1 hr fun hr => zk<|zT<|zQ<|zR<|zM Z<|zN<|zT<|zQ<|zQ<|zR<|zM Z<|yS Z (dT Z Z (by kernel_rfl))<|zM Z<|zN<|zT<|LW.ent (bM.lazy (t := 5) (m := 2) Z Z Z) ?_;obtain ⟨v2, hb_v2, ho_v2⟩ := zB hr;clear hr;refine LW.tail (E := [(4, .zs), (5, .vec 2 1 (v2.out.map bH).length 0 (v2.out.map bH).length)]) (O := [.box [(uQ id.1), (uQ id.2)], .vec 2 (v2.out.map bH)]) ?_<|fun env_v2 H_v2 hw_v2 => ?_
  ·refine LW.block ?_;refine LW.iterB (E := fun x1 : kp => [(3, .ptr 0 0), (4, .zs), (5, .vec 2 1 (x1.out.map bH).length 0 (x1.out.map bH).length), (11, (kB l)), (12, .p (.int .i64 (l.length : Int))), (13, (iQ x1.t13))]) (O := fun x1 => [.box [(uQ id.1), (uQ id.2)], .vec 2 (x1.out.map bH)]) hb_v2 (zW 2 ⟨rfl, rfl, rfl, rfl, rfl, rfl, trivial⟩ Z Z Z Z)<|fun x1 z_x1 hr hb_x1 => ?_;unfold nG at hr;refine zQ<|zR<|yS Z (aw Z Z Z Z)<|zN<|zT<|zQ ?_;refine zX Z (fun g2 => ?_)<|fun g2 => ?_
   ·
    refine zi g2 hr fun hr => zk<|zT<|zQ<|zl<|zQ<|zR<|zb hr fun y1 h_y1 hr => yS Z (zx Z Z Z eB h_y1 Z)<|yS Z (dS Z Z Z cH Z Z)<|yS Z (ze Z tK Z Z)<|yS Z (zs Z Z Z Z cH Z Z Z Z)<|zN<|zT<|zQ<|zR<|yS Z (zA Z Z l6)<|yS Z (zD Z Z Z aR Z Z)<|yS Z (zD Z Z Z aR Z Z)<|yS Z (ab.eqlAgg Z Z Z Z Z rY)<|zN<|zT ?_;refine zX Z (fun g3 => ?_)<|fun g3 => ?_
    ·
     refine zi g3 hr fun hr => zR<|zM Z<|yS Z (zD Z Z Z cH Z Z)<|yS Z (zC Z Z Z (by kernel_rfl) (zp (Fr (b := y1)) (.cons zv .nil)))<|yS Z (mD Z nw Z Z Z Z Z)<|zg hr fun q1 hr => yS Z (ab.appendX bH x1.out [nm y1] rfl Z Z Z kg.p Z nw q1 Z)<|zM Z<|zN<|ai<|zT<|zR<|yS Z (aw Z Z Z Z)<|zM Z<|zN<|zT ?_;obtain rfl := zJ hr;exact ⟨_, rfl, zW 2 ⟨rfl, rfl, rfl, rfl, rfl, rfl, trivial⟩ Z Z Z rfl⟩
    ·
     refine zo g3 hr fun hr => zk<|ai<|zT<|zR<|yS Z (aw Z Z Z Z)<|zM Z<|zN<|zT ?_;obtain rfl := zJ hr;exact ⟨_, rfl, zW 2 ⟨rfl, rfl, rfl, rfl, rfl, rfl, trivial⟩ Z Z Z rfl⟩
   ·
    refine zo g2 hr fun hr => zq<|ao<|ao<|zy<|zT ?_;obtain rfl := zJ hr;have hr := congrArg some (hb_x1 _ rfl);obtain rfl := zJ hr;exact zW 2 ⟨Z, Z, trivial⟩ Z Z Z Z
  ·have hr := ho_v2;clear hb_v2;refine zT<|LW.weak hw_v2<|zQ<|zR<|zM Z<|zM Z<|zN<|zT<|zr ?_;obtain rfl := zJ hr;exact zf (.one (.tmp Z))<|(Conv.vecAll Z Z Z)
end Go.Mg
