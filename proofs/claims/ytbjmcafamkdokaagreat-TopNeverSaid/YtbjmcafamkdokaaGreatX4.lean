/- What the logic needs to know of each type of the program. The program's structs as plain data, and how they lie in memory. The mixing functions. mix.Of. tree.Name, slices.Index, slices.Contains. tree.places. Plain facts of trees: what 'places' tells. tree.Chain. cursor.Move. Plain facts of chains and cursors. Plain laws of cursors. Atomic words, locks. sync.Once as the deck uses it. The rounds of the deck. tree.May, Find, Slot, Kids. Conditions: none. -/
import Derived.Test.YtbjmcafamkdokaaGreatX2
import Derived.Test.YtbjmcafamkdokaaGreatProg
import Derived.Test.YtbjmcafamkdokaaGreatX3
set_option maxRecDepth 100000
set_option linter.unusedSimpArgs false
set_option linter.unusedVariables false
namespace Go.Mg
open Go.Proofs
section
variable {w : World}
theorem Ay : pb Tryz.prog 37 = some (2, 1, false) := by kernel_rfl
theorem w0 : pb Tryz.prog 148 = some (3, 1, false) := by kernel_rfl
theorem CE : pb Tryz.prog 163 = some (2, 1, false) := by kernel_rfl
theorem FV : pb Tryz.prog 201 = some (10, 5, true) := by kernel_rfl
theorem Lb : bT Tryz.prog 25 = some ([LV.zs, LV.p (PV.int IntKind.u64 0), LV.p (PV.int IntKind.i64 0), LV.p (PV.int IntKind.i64 0), LV.p (PV.int IntKind.i64 0)], [(0, 1), (1, 1), (2, 1), (3, 1), (4, 1)]) := by kernel_rfl
theorem CJ : bT Tryz.prog 32 = some ([LV.zs, LV.p (PV.int IntKind.u64 0), LV.p (PV.int IntKind.i64 0), LV.p (PV.int IntKind.i64 0), LV.p (PV.int IntKind.i64 0), LV.zs, LV.p (PV.int IntKind.i64 0), LV.zs, LV.zs], [(0, 5), (5, 1), (6, 1), (7, 1), (8, 1)]) := by kernel_rfl
theorem w4 : bT Tryz.prog 37 = some ([LV.p (PV.int IntKind.u64 0), LV.p (PV.int IntKind.u64 0)], [(0, 1), (1, 1)]) := by kernel_rfl
theorem IE : bT Tryz.prog 40 = some ([LV.p (PV.int IntKind.i64 0), LV.p (PV.int IntKind.i64 0), LV.p (PV.int IntKind.u64 0), LV.p (PV.int IntKind.u64 0), LV.p (PV.int IntKind.u64 0)], [(0, 1), (1, 1), (2, 2), (4, 1)]) := by kernel_rfl
theorem oa : bT Tryz.prog 44 = some ([LV.zs, LV.zs], [(0, 1), (1, 1)]) := by kernel_rfl
theorem CK : bT Tryz.prog 46 = some ([LV.p (PV.int IntKind.i64 0), LV.p (PV.int IntKind.i64 0), LV.p (PV.int IntKind.i64 0), LV.p (PV.int IntKind.i64 0), LV.p (PV.int IntKind.u64 0), LV.p (PV.int IntKind.u64 0), LV.p (PV.int IntKind.u64 0), LV.zs, LV.zs], [(0, 1), (1, 1), (2, 5), (7, 2)]) := by kernel_rfl
theorem La : bT Tryz.prog 50 = some ([LV.p (PV.int IntKind.u64 0), LV.p (PV.int IntKind.u64 0), LV.p (PV.int IntKind.i64 0), LV.p (PV.int IntKind.i64 0)], [(0, 2), (2, 1), (3, 1)]) := by kernel_rfl
theorem GZ : bT Tryz.prog 52 = some ([LV.p (PV.int IntKind.i64 0), LV.p (PV.int IntKind.i64 0), LV.zs, LV.zs, LV.zs, LV.zs, LV.zs, LV.p (PV.int IntKind.u64 0), LV.p (PV.int IntKind.u64 0), LV.p (PV.int IntKind.i64 0), LV.p (PV.int IntKind.i64 0), LV.p (PV.bool false)], [(0, 1), (1, 1), (2, 2), (4, 2), (6, 1), (7, 4), (11, 1)]) := by kernel_rfl
theorem IF : bT Tryz.prog 54 = some ([LV.p (PV.int IntKind.i64 0), LV.p (PV.int IntKind.i64 0), LV.p (PV.int IntKind.u64 0), LV.p (PV.int IntKind.u64 0)], [(0, 1), (1, 1), (2, 2)]) := by kernel_rfl
theorem G7 : bT Tryz.prog 92 = some ([LV.zs, LV.p (PV.int IntKind.u64 0), LV.p (PV.int IntKind.i64 0), LV.p (PV.int IntKind.i64 0), LV.p (PV.int IntKind.i64 0), LV.zs, LV.p (PV.int IntKind.i64 0), LV.zs, LV.zs, LV.zs, LV.zs, LV.p (PV.int IntKind.i64 0), LV.p (PV.bool false), LV.any, LV.p (PV.int IntKind.i64 0), LV.zs], [(0, 9), (9, 2), (11, 1), (12, 1), (13, 1), (14, 1), (15, 1)]) := by kernel_rfl
theorem G6 : bT Tryz.prog 108 = some ([LV.any, LV.any], [(0, 1), (1, 1)]) := by kernel_rfl
theorem G4 : bT Tryz.prog 143 = some ([LV.p (PV.int IntKind.i64 0), LV.p (PV.int IntKind.i64 0), LV.zs, LV.zs, LV.zs, LV.zs, LV.zs, LV.p (PV.int IntKind.u64 0), LV.p (PV.int IntKind.u64 0), LV.p (PV.int IntKind.i64 0), LV.p (PV.int IntKind.i64 0), LV.p (PV.bool false), LV.zs, LV.p (PV.int IntKind.u64 0), LV.p (PV.int IntKind.i64 0), LV.p (PV.int IntKind.i64 0), LV.p (PV.int IntKind.i64 0), LV.p (PV.int IntKind.i64 0), LV.zs], [(0, 12), (12, 5), (17, 1), (18, 1)]) := by kernel_rfl
theorem G5 : bT Tryz.prog 148 = some ([LV.any, LV.any, LV.any], [(0, 1), (1, 1), (2, 1)]) := by kernel_rfl
theorem G2 : bT Tryz.prog 163 = some ([LV.p (PV.int IntKind.u64 0), LV.p (PV.int IntKind.u64 0)], [(0, 1), (1, 1)]) := by kernel_rfl
theorem IB : bT Tryz.prog 206 = some ([LV.p (PV.int IntKind.u64 0), LV.p (PV.int IntKind.i64 0), LV.p (PV.int IntKind.u32 0), LV.p (PV.int IntKind.i32 0), LV.p (PV.int IntKind.u32 0), LV.p (PV.int IntKind.i64 0), LV.p (PV.int IntKind.u64 0), LV.p (PV.int IntKind.u32 0), LV.p (PV.int IntKind.i32 0), LV.p (PV.int IntKind.u32 0), LV.p (PV.int IntKind.i64 0), LV.p (PV.int IntKind.u64 0), LV.p (PV.int IntKind.u32 0), LV.p (PV.int IntKind.i32 0), LV.p (PV.int IntKind.u32 0), LV.p (PV.int IntKind.i64 0), LV.p (PV.int IntKind.u64 0), LV.p (PV.int IntKind.u32 0), LV.p (PV.int IntKind.i32 0), LV.p (PV.int IntKind.u32 0), LV.p (PV.int IntKind.i64 0), LV.p (PV.int IntKind.u64 0), LV.p (PV.int IntKind.u32 0), LV.p (PV.int IntKind.i32 0), LV.p (PV.int IntKind.u32 0), LV.p (PV.int IntKind.i64 0), LV.p (PV.int IntKind.u64 0), LV.p (PV.int IntKind.u32 0), LV.p (PV.int IntKind.i32 0), LV.p (PV.int IntKind.u32 0), LV.p (PV.int IntKind.i64 0), LV.p (PV.int IntKind.u64 0), LV.p (PV.int IntKind.u32 0), LV.p (PV.int IntKind.i32 0), LV.p (PV.int IntKind.u32 0), LV.p (PV.int IntKind.i64 0), LV.p (PV.int IntKind.u64 0), LV.p (PV.int IntKind.u32 0), LV.p (PV.int IntKind.i32 0), LV.p (PV.int IntKind.u32 0), LV.p (PV.int IntKind.i64 0), LV.p (PV.int IntKind.u64 0), LV.p (PV.int IntKind.u32 0), LV.p (PV.int IntKind.i32 0), LV.p (PV.int IntKind.u32 0), LV.p (PV.int IntKind.i64 0), LV.p (PV.int IntKind.u64 0), LV.p (PV.int IntKind.u32 0), LV.p (PV.int IntKind.i32 0), LV.p (PV.int IntKind.u32 0), LV.p (PV.int IntKind.i64 0), LV.p (PV.int IntKind.u64 0), LV.p (PV.int IntKind.i64 0)], [(0, 1), (1, 1), (2, 50), (52, 1)]) := by kernel_rfl
theorem G3 : bT Tryz.prog 235 = some ([LV.nilmap, LV.nilmap], [(0, 1), (1, 1)]) := by kernel_rfl
theorem CL : bT Tryz.prog 238 = some ([LV.p (PV.int IntKind.i64 0), LV.p (PV.int IntKind.i64 0)], [(0, 1), (1, 1)]) := by kernel_rfl
theorem FW : bT Tryz.prog 242 = some ([LV.p (PV.int IntKind.i64 0), LV.p (PV.int IntKind.u64 0), LV.p (PV.int IntKind.u64 0)], [(0, 1), (1, 2)]) := by kernel_rfl
theorem IC : bT Tryz.prog 251 = some ([LV.zs, LV.zs, LV.nilmap, LV.nilmap, LV.p (PV.int IntKind.i64 0), LV.p (PV.bool false)], [(0, 2), (2, 1), (3, 1), (4, 1), (5, 1)]) := by kernel_rfl
theorem vo : lP Tryz.prog 37 2 = true := by kernel_rfl
theorem JM : lP Tryz.prog 40 5 = true := by kernel_rfl
theorem JN : lP Tryz.prog 54 4 = true := by kernel_rfl
theorem Fo : lP Tryz.prog 163 2 = true := by kernel_rfl
theorem Fp : lP Tryz.prog 238 2 = true := by kernel_rfl
theorem Hz : lP Tryz.prog 242 3 = true := by kernel_rfl
theorem gO : an Tryz.prog 25 0 = some (0, 1, false) := by kernel_rfl
theorem Dh : an Tryz.prog 25 1 = some (1, 1, false) := by kernel_rfl
theorem qM : an Tryz.prog 25 2 = some (2, 1, false) := by kernel_rfl
theorem tL : an Tryz.prog 25 3 = some (3, 1, false) := by kernel_rfl
theorem ot : an Tryz.prog 25 4 = some (4, 1, false) := by kernel_rfl
theorem i9 : an Tryz.prog 32 0 = some (0, 5, true) := by kernel_rfl
theorem kJ : an Tryz.prog 32 1 = some (5, 1, false) := by kernel_rfl
theorem ja : an Tryz.prog 32 2 = some (6, 1, false) := by kernel_rfl
theorem bF : an Tryz.prog 32 3 = some (7, 1, false) := by kernel_rfl
theorem jb : an Tryz.prog 32 4 = some (8, 1, false) := by kernel_rfl
theorem kM : an Tryz.prog 40 0 = some (0, 1, false) := by kernel_rfl
theorem xf : an Tryz.prog 40 1 = some (1, 1, false) := by kernel_rfl
theorem ml : an Tryz.prog 40 2 = some (2, 2, true) := by kernel_rfl
theorem HB : an Tryz.prog 40 3 = some (4, 1, false) := by kernel_rfl
theorem bz : an Tryz.prog 44 0 = some (0, 1, false) := by kernel_rfl
theorem b9 : an Tryz.prog 44 1 = some (1, 1, false) := by kernel_rfl
theorem Da : an Tryz.prog 46 0 = some (0, 1, false) := by kernel_rfl
theorem Db : an Tryz.prog 46 1 = some (1, 1, false) := by kernel_rfl
theorem vB : an Tryz.prog 46 2 = some (2, 5, true) := by kernel_rfl
theorem jd : an Tryz.prog 46 3 = some (7, 2, true) := by kernel_rfl
theorem oq : an Tryz.prog 50 0 = some (0, 2, true) := by kernel_rfl
theorem Dc : an Tryz.prog 50 1 = some (2, 1, false) := by kernel_rfl
theorem Dd : an Tryz.prog 50 2 = some (3, 1, false) := by kernel_rfl
theorem kK : an Tryz.prog 52 0 = some (0, 1, false) := by kernel_rfl
theorem cY : an Tryz.prog 52 1 = some (1, 1, false) := by kernel_rfl
theorem bV : an Tryz.prog 52 2 = some (2, 2, true) := by kernel_rfl
theorem cw : an Tryz.prog 52 3 = some (4, 2, true) := by kernel_rfl
theorem cJ : an Tryz.prog 52 4 = some (6, 1, false) := by kernel_rfl
theorem jc : an Tryz.prog 52 5 = some (7, 4, true) := by kernel_rfl
theorem kL : an Tryz.prog 52 6 = some (11, 1, false) := by kernel_rfl
theorem qN : an Tryz.prog 54 0 = some (0, 1, false) := by kernel_rfl
theorem qO : an Tryz.prog 54 1 = some (1, 1, false) := by kernel_rfl
theorem mm : an Tryz.prog 54 2 = some (2, 2, true) := by kernel_rfl
theorem C8 : an Tryz.prog 73 0 = some (0, 1, false) := by kernel_rfl
theorem vA : an Tryz.prog 73 1 = some (1, 1, false) := by kernel_rfl
theorem C9 : an Tryz.prog 73 2 = some (2, 1, false) := by kernel_rfl
theorem qF : an Tryz.prog 73 3 = some (3, 1, false) := by kernel_rfl
theorem qG : an Tryz.prog 73 4 = some (4, 1, false) := by kernel_rfl
theorem Dg : an Tryz.prog 92 0 = some (0, 9, true) := by kernel_rfl
theorem qK : an Tryz.prog 92 1 = some (9, 2, true) := by kernel_rfl
theorem qL : an Tryz.prog 92 2 = some (11, 1, false) := by kernel_rfl
theorem vE : an Tryz.prog 92 3 = some (12, 1, false) := by kernel_rfl
theorem vF : an Tryz.prog 92 4 = some (13, 1, false) := by kernel_rfl
theorem vG : an Tryz.prog 92 5 = some (14, 1, false) := by kernel_rfl
theorem vH : an Tryz.prog 92 6 = some (15, 1, false) := by kernel_rfl
theorem De : an Tryz.prog 108 0 = some (0, 1, false) := by kernel_rfl
theorem Df : an Tryz.prog 108 1 = some (1, 1, false) := by kernel_rfl
theorem au : an Tryz.prog 143 0 = some (0, 12, true) := by kernel_rfl
theorem gN : an Tryz.prog 143 1 = some (12, 5, true) := by kernel_rfl
theorem cK : an Tryz.prog 143 2 = some (17, 1, false) := by kernel_rfl
theorem ng : an Tryz.prog 143 3 = some (18, 1, false) := by kernel_rfl
theorem qH : an Tryz.prog 156 0 = some (0, 1, false) := by kernel_rfl
theorem qI : an Tryz.prog 156 1 = some (1, 1, false) := by kernel_rfl
theorem yG : an Tryz.prog 192 1 = some (0, 1, false) := by kernel_rfl
theorem tH : an Tryz.prog 194 0 = some (0, 1, false) := by kernel_rfl
theorem yH : an Tryz.prog 196 1 = some (0, 2, true) := by kernel_rfl
theorem pG : an Tryz.prog 198 1 = some (0, 1, true) := by kernel_rfl
theorem yI : an Tryz.prog 198 2 = some (1, 2, true) := by kernel_rfl
theorem yJ : an Tryz.prog 200 0 = some (0, 3, true) := by kernel_rfl
theorem yK : an Tryz.prog 200 1 = some (3, 1, false) := by kernel_rfl
theorem yL : an Tryz.prog 200 2 = some (4, 1, false) := by kernel_rfl
theorem yM : an Tryz.prog 204 2 = some (0, 1, false) := by kernel_rfl
theorem yN : an Tryz.prog 206 0 = some (0, 1, false) := by kernel_rfl
theorem tI : an Tryz.prog 206 1 = some (1, 1, false) := by kernel_rfl
theorem yO : an Tryz.prog 206 2 = some (2, 50, true) := by kernel_rfl
theorem tJ : an Tryz.prog 206 3 = some (52, 1, true) := by kernel_rfl
theorem qJ : an Tryz.prog 235 0 = some (0, 1, false) := by kernel_rfl
theorem vC : an Tryz.prog 235 1 = some (1, 1, false) := by kernel_rfl
theorem vD : an Tryz.prog 238 0 = some (0, 1, false) := by kernel_rfl
theorem nf : an Tryz.prog 242 0 = some (0, 1, false) := by kernel_rfl
theorem tK : an Tryz.prog 242 1 = some (1, 2, true) := by kernel_rfl
theorem eE : an Tryz.prog 251 0 = some (0, 2, true) := by kernel_rfl
theorem lH : an Tryz.prog 251 1 = some (2, 1, false) := by kernel_rfl
theorem pH : an Tryz.prog 251 2 = some (3, 1, false) := by kernel_rfl
theorem yP : an Tryz.prog 251 3 = some (4, 1, false) := by kernel_rfl
theorem pI : an Tryz.prog 251 4 = some (5, 1, false) := by kernel_rfl
theorem y5 : dz Tryz.prog 120 = some (37, 4, 2, true) := by kernel_rfl
theorem kt : dz Tryz.prog 122 = some (37, 3, 2, true) := by kernel_rfl
theorem Gq : dz Tryz.prog 209 = some (3, 4, 1, false) := by kernel_rfl
theorem DF : dz Tryz.prog 232 = some (238, 37, 2, true) := by kernel_rfl
theorem DG : dz Tryz.prog 233 = some (238, 4, 2, true) := by kernel_rfl
theorem DH : dz Tryz.prog 249 = some (54, 4, 4, true) := by kernel_rfl
theorem fX : cC Tryz.prog 22 = some (1, 8) := by kernel_rfl
theorem mG : cC Tryz.prog 26 = some (5, 72) := by kernel_rfl
theorem dP : cC Tryz.prog 29 = some (12, 176) := by kernel_rfl
theorem cz : cC Tryz.prog 30 = some (9, 104) := by kernel_rfl
theorem ew : cC Tryz.prog 41 = some (5, 40) := by kernel_rfl
theorem dQ : cC Tryz.prog 42 = some (4, 32) := by kernel_rfl
theorem rl : cC Tryz.prog 47 = some (2, 16) := by kernel_rfl
theorem FI : cC Tryz.prog 99 = some (1, 8) := by kernel_rfl
theorem HN : cC Tryz.prog 212 = some (1, 8) := by kernel_rfl
theorem xK : cC Tryz.prog 224 = some (1, 24) := by kernel_rfl
theorem bC : aN Tryz.prog 3 = some (1, false) := by kernel_rfl
theorem Bs : aN Tryz.prog 4 = some (1, false) := by kernel_rfl
theorem LQ : aN Tryz.prog 21 = some (1, false) := by kernel_rfl
theorem fc : aN Tryz.prog 22 = some (1, false) := by kernel_rfl
theorem nN : aN Tryz.prog 23 = some (1, false) := by kernel_rfl
theorem bA : aN Tryz.prog 25 = some (5, true) := by kernel_rfl
theorem D9 : aN Tryz.prog 26 = some (1, false) := by kernel_rfl
theorem db : aN Tryz.prog 29 = some (1, false) := by kernel_rfl
theorem bZ : aN Tryz.prog 30 = some (1, false) := by kernel_rfl
theorem bK : aN Tryz.prog 32 = some (9, true) := by kernel_rfl
theorem aR : aN Tryz.prog 37 = some (2, true) := by kernel_rfl
theorem cN : aN Tryz.prog 40 = some (5, true) := by kernel_rfl
theorem dA : aN Tryz.prog 41 = some (1, false) := by kernel_rfl
theorem eU : aN Tryz.prog 42 = some (1, false) := by kernel_rfl
theorem aS : aN Tryz.prog 44 = some (2, true) := by kernel_rfl
theorem fZ : aN Tryz.prog 46 = some (9, true) := by kernel_rfl
theorem j5 : aN Tryz.prog 50 = some (4, true) := by kernel_rfl
theorem dc : aN Tryz.prog 52 = some (12, true) := by kernel_rfl
theorem cR : aN Tryz.prog 54 = some (4, true) := by kernel_rfl
theorem j4 : aN Tryz.prog 73 = some (5, true) := by kernel_rfl
theorem Ef : aN Tryz.prog 90 = some (1, false) := by kernel_rfl
theorem rC : aN Tryz.prog 92 = some (16, true) := by kernel_rfl
theorem HP : aN Tryz.prog 105 = some (1, false) := by kernel_rfl
theorem tf : aN Tryz.prog 106 = some (1, false) := by kernel_rfl
theorem Ee : aN Tryz.prog 108 = some (2, true) := by kernel_rfl
theorem Ed : aN Tryz.prog 120 = some (1, false) := by kernel_rfl
theorem Bp : aN Tryz.prog 122 = some (1, false) := by kernel_rfl
theorem xR : aN Tryz.prog 147 = some (1, false) := by kernel_rfl
theorem HO : aN Tryz.prog 148 = some (3, true) := by kernel_rfl
theorem xP : aN Tryz.prog 156 = some (2, true) := by kernel_rfl
theorem rB : aN Tryz.prog 163 = some (2, true) := by kernel_rfl
theorem rA : aN Tryz.prog 186 = some (1, false) := by kernel_rfl
theorem Eb : aN Tryz.prog 209 = some (1, false) := by kernel_rfl
theorem xQ : aN Tryz.prog 232 = some (1, false) := by kernel_rfl
theorem Ea : aN Tryz.prog 233 = some (1, false) := by kernel_rfl
theorem uf : aN Tryz.prog 235 = some (2, true) := by kernel_rfl
theorem mL : aN Tryz.prog 238 = some (2, true) := by kernel_rfl
theorem pn : aN Tryz.prog 242 = some (3, true) := by kernel_rfl
theorem Ec : aN Tryz.prog 246 = some (1, false) := by kernel_rfl
theorem zE : aN Tryz.prog 249 = some (1, false) := by kernel_rfl
theorem po : aN Tryz.prog 252 = some (1, false) := by kernel_rfl
theorem FQ : kp Tryz.prog 3 = some (LV.p (PV.int IntKind.i64 0)) := by kernel_rfl
theorem KI : kp Tryz.prog 4 = some (LV.p (PV.bool false)) := by kernel_rfl
theorem LS : kp Tryz.prog 37 = some (LV.p (PV.agg [PV.int IntKind.u64 0, PV.int IntKind.u64 0])) := by kernel_rfl
theorem L9 : bD Tryz.prog 3 = some [LV.p (PV.int IntKind.i64 0)] := by kernel_rfl
theorem LU : bD Tryz.prog 22 = some [LV.zs] := by kernel_rfl
theorem LX : bD Tryz.prog 25 = some [LV.zs, LV.p (PV.int IntKind.u64 0), LV.p (PV.int IntKind.i64 0), LV.p (PV.int IntKind.i64 0), LV.p (PV.int IntKind.i64 0)] := by kernel_rfl
theorem j9 : bD Tryz.prog 32 = some [LV.zs, LV.p (PV.int IntKind.u64 0), LV.p (PV.int IntKind.i64 0), LV.p (PV.int IntKind.i64 0), LV.p (PV.int IntKind.i64 0), LV.zs, LV.p (PV.int IntKind.i64 0), LV.zs, LV.zs] := by kernel_rfl
theorem ka : bD Tryz.prog 37 = some [LV.p (PV.int IntKind.u64 0), LV.p (PV.int IntKind.u64 0)] := by kernel_rfl
theorem uj : bD Tryz.prog 40 = some [LV.p (PV.int IntKind.i64 0), LV.p (PV.int IntKind.i64 0), LV.p (PV.int IntKind.u64 0), LV.p (PV.int IntKind.u64 0), LV.p (PV.int IntKind.u64 0)] := by kernel_rfl
theorem LY : bD Tryz.prog 42 = some [LV.zs] := by kernel_rfl
theorem ig : bD Tryz.prog 44 = some [LV.zs, LV.zs] := by kernel_rfl
theorem rF : bD Tryz.prog 46 = some [LV.p (PV.int IntKind.i64 0), LV.p (PV.int IntKind.i64 0), LV.p (PV.int IntKind.i64 0), LV.p (PV.int IntKind.i64 0), LV.p (PV.int IntKind.u64 0), LV.p (PV.int IntKind.u64 0), LV.p (PV.int IntKind.u64 0), LV.zs, LV.zs] := by kernel_rfl
theorem LT : bD Tryz.prog 50 = some [LV.p (PV.int IntKind.u64 0), LV.p (PV.int IntKind.u64 0), LV.p (PV.int IntKind.i64 0), LV.p (PV.int IntKind.i64 0)] := by kernel_rfl
theorem ui : bD Tryz.prog 52 = some [LV.p (PV.int IntKind.i64 0), LV.p (PV.int IntKind.i64 0), LV.zs, LV.zs, LV.zs, LV.zs, LV.zs, LV.p (PV.int IntKind.u64 0), LV.p (PV.int IntKind.u64 0), LV.p (PV.int IntKind.i64 0), LV.p (PV.int IntKind.i64 0), LV.p (PV.bool false)] := by kernel_rfl
theorem uk : bD Tryz.prog 54 = some [LV.p (PV.int IntKind.i64 0), LV.p (PV.int IntKind.i64 0), LV.p (PV.int IntKind.u64 0), LV.p (PV.int IntKind.u64 0)] := by kernel_rfl
theorem xT : bD Tryz.prog 73 = some [LV.p (PV.int IntKind.i64 0), LV.p (PV.int IntKind.i64 0), LV.p (PV.bool false), LV.zs, LV.zs] := by kernel_rfl
theorem xX : bD Tryz.prog 92 = some [LV.zs, LV.p (PV.int IntKind.u64 0), LV.p (PV.int IntKind.i64 0), LV.p (PV.int IntKind.i64 0), LV.p (PV.int IntKind.i64 0), LV.zs, LV.p (PV.int IntKind.i64 0), LV.zs, LV.zs, LV.zs, LV.zs, LV.p (PV.int IntKind.i64 0), LV.p (PV.bool false), LV.any, LV.p (PV.int IntKind.i64 0), LV.zs] := by kernel_rfl
theorem KJ : bD Tryz.prog 106 = some [LV.any] := by kernel_rfl
theorem Et : bD Tryz.prog 108 = some [LV.any, LV.any] := by kernel_rfl
theorem KM : bD Tryz.prog 120 = some [LV.nilmap] := by kernel_rfl
theorem HT : bD Tryz.prog 148 = some [LV.any, LV.any, LV.any] := by kernel_rfl
theorem xU : bD Tryz.prog 156 = some [LV.zs, LV.zs] := by kernel_rfl
theorem xV : bD Tryz.prog 163 = some [LV.p (PV.int IntKind.u64 0), LV.p (PV.int IntKind.u64 0)] := by kernel_rfl
theorem KK : bD Tryz.prog 209 = some [LV.nilmap] := by kernel_rfl
theorem xW : bD Tryz.prog 235 = some [LV.nilmap, LV.nilmap] := by kernel_rfl
theorem Es : bD Tryz.prog 238 = some [LV.p (PV.int IntKind.i64 0), LV.p (PV.int IntKind.i64 0)] := by kernel_rfl
theorem GE : bD Tryz.prog 242 = some [LV.p (PV.int IntKind.i64 0), LV.p (PV.int IntKind.u64 0), LV.p (PV.int IntKind.u64 0)] := by kernel_rfl
theorem KL : bD Tryz.prog 246 = some [LV.any] := by kernel_rfl
theorem GF : bD Tryz.prog 252 = some [LV.any] := by kernel_rfl
end
abbrev ID := Int × Int
def ci (p : ID) : PV := .agg [.int .u64 p.1, .int .u64 p.2]
def la (x : Int) : PV := .int .u64 x
structure Bk where
 Slot : Int
 From : Int
 Parent : ID
 Salt : Int
 deriving DecidableEq
def ay (b : Bk) : PV := .agg [.int .i64 b.Slot, .int .i64 b.From, .int .u64 b.Parent.1, .int .u64 b.Parent.2, .int .u64 b.Salt]
structure Vt where
 From : Int
 Slot : Int
 Head : ID
 deriving DecidableEq
def aJ (v : Vt) : PV := .agg [.int .i64 v.From, .int .i64 v.Slot, .int .u64 v.Head.1, .int .u64 v.Head.2]
structure Cf where
 W : List Int
 Seed : Int
 Epoch : Int
 Num : Int
 Den : Int
def jC (c : Cf) : PV := .agg [.slice 1 (c.W.map aG), .int .u64 c.Seed, .int .i64 c.Epoch, .int .i64 c.Num, .int .i64 c.Den]
structure Vw where
 B : List Bk
 V : List Vt
def mP (v : Vw) : PV := .agg [.slice 5 (v.B.map ay), .slice 4 (v.V.map aJ)]
structure Cu where
 ID : Go.Mg.ID
 Slot : Int
 Revoked : Int
 deriving DecidableEq
def rM (c : Cu) : PV := .agg [.int .u64 c.ID.1, .int .u64 c.ID.2, .int .i64 c.Slot, .int .i64 c.Revoked]
structure Rk where
 n : Int
 id : Go.Mg.ID
def L8 (c : Rk) : PV := .agg [.int .i64 c.n, .int .u64 c.id.1, .int .u64 c.id.2]
theorem JR {a b : ID} {r : Bool} (h : ce [.int .u64 a.1, .int .u64 a.2] [.int .u64 b.1, .int .u64 b.2] = some r) : r = decide (a = b) := by
 rw [qw] at h;cases h;obtain ⟨x, y⟩ := a;obtain ⟨z, w⟩ := b;simp only [Bool.and_true, Prod.mk.injEq];by_cases h1 : x = z <;> by_cases h2 : y = w <;> simp [h1, h2]
theorem dM : eY ci 2 true := ⟨fun a b => by
 obtain ⟨x, y⟩ := a;obtain ⟨z, w⟩ := b;simp only [ci, gR, qw, Bool.and_true, Prod.mk.injEq, Option.some.injEq]
 by_cases h1 : x = z <;> by_cases h2 : y = w <;> simp [h1, h2], fun _ => rfl⟩
theorem Do : eY aG 1 false := ⟨fun a b => by simp only [aG, gR, if_pos, Option.some.injEq]; by_cases h : a = b <;> simp [h], fun _ => rfl⟩
theorem zF : eY aJ 4 true := ⟨fun a b => by
 obtain ⟨a1, a2, a3⟩ := a;obtain ⟨b1, b2, b3⟩ := b;simp only [aJ, gR, ce, if_pos, Option.some.injEq, Vt.mk.injEq];rw [Bool.eq_iff_iff];obtain ⟨a3, a4⟩ := a3;obtain ⟨b3, b4⟩ := b3
 simp, fun _ => rfl⟩
theorem Fn (a b : ID) : ((a.1 == b.1) && ((a.2 == b.2) && true)) = decide (a = b) := by
 obtain ⟨x, y⟩ := a;obtain ⟨z, w⟩ := b;by_cases h1 : x = z <;> by_cases h2 : y = w <;> simp [h1, h2]
theorem LI (a b : Bk) : ((a.Slot == b.Slot) && ((a.From == b.From) && ((a.Parent.1 == b.Parent.1) && ((a.Parent.2 == b.Parent.2) && ((a.Salt == b.Salt) && true))))) = decide (a = b) := by
 obtain ⟨a1, a2, ⟨a3, a4⟩, a5⟩ := a;obtain ⟨b1, b2, ⟨b3, b4⟩, b5⟩ := b;simp only [Bool.and_true, Bk.mk.injEq, Prod.mk.injEq];rw [Bool.eq_iff_iff];simp [and_assoc]
theorem LJ (a b : Vt) : ((a.From == b.From) && ((a.Slot == b.Slot) && ((a.Head.1 == b.Head.1) && ((a.Head.2 == b.Head.2) && true)))) = decide (a = b) := by
 obtain ⟨a1, a2, ⟨a3, a4⟩⟩ := a;obtain ⟨b1, b2, ⟨b3, b4⟩⟩ := b;rw [Bool.eq_iff_iff];simp
abbrev kB (l : List Bk) : LV := .p (.slice 5 (l.map ay))
abbrev kV (l : List Vt) : LV := .p (.slice 4 (l.map aJ))
abbrev kI (l : List Int) : LV := .p (.slice 1 (l.map aG))
abbrev jB (i : Nat) (l : List Bk) : LV := .vec 5 i (l.map ay).length 0 (l.map ay).length
abbrev jV (i : Nat) (l : List Vt) : LV := .vec 4 i (l.map aJ).length 0 (l.map aJ).length
abbrev jI (i : Nat) (l : List Int) : LV := .vec 1 i (l.map aG).length 0 (l.map aG).length
abbrev mQ (m : List (ID × Int)) : aa := .map (ah ci (fun v => .p (.int .i64 v)) m)
abbrev mR (m : List (Vt × Bool)) : aa := .map (ah aJ (fun v => .p (.bool v)) m)
abbrev bI (c : Cf) : List LV := [.p (.slice 1 (c.W.map aG)), .p (.int .u64 c.Seed), .p (.int .i64 c.Epoch), .p (.int .i64 c.Num), .p (.int .i64 c.Den)]
abbrev dq (w : Vw) : List LV := [.p (.slice 5 (w.B.map ay)), .p (.slice 4 (w.V.map aJ))]
open Go.Proofs
def Kg (x : Int) : Int :=
 let a := IntKind.u64.wrap (bits .xor .u64 x (x.fdiv (2 ^ (min (Int.toNat 30) IntKind.u64.bits))) * 13787848793156543929)
 let b := IntKind.u64.wrap (bits .xor .u64 a (a.fdiv (2 ^ (min (Int.toNat 27) IntKind.u64.bits))) * 10723151780598845931)
 bits .xor .u64 b (b.fdiv (2 ^ (min (Int.toNat 31) IntKind.u64.bits)))
def step (h x : Int) : Int := Kg (IntKind.u64.wrap (bits .xor .u64 h x + 11400714819323198485))
def L5 (x : Int) : Int := bits .xor .u64 (if IntKind.u64.signed then -1 else IntKind.u64.max) x
theorem Lo {x : Int} : aw Tryz.prog 125 [.int .u64 x] [.int .u64 (Kg x)] := by
 refine zh Tryz.func125 Z Z Z Z ?_;refine zQ (zR (yS Z (za Z Z) (zN (zT (zQ (zR (yS Z (zm Z Z) (yS Z (zm Z Z) (yS Z (ab.shr Z Z Z (by decide)) (yS Z (ax Z Z Z Z) (yS Z (ax Z Z Z Z) (yS Z (za Z Z) (zN (zT (zQ (zR (yS Z (zm Z Z) (yS Z (zm Z Z) (yS Z (ab.shr Z Z Z (by decide)) (yS Z (ax Z Z Z Z) (yS Z (ax Z Z Z Z) (yS Z (za Z Z) (zN ?_)))))))))))))))))))))));exact zT (zQ (zR (yS Z (zm Z Z) (yS Z (zm Z Z) (yS Z (ab.shr Z Z Z (by decide)) (yS Z (ax Z Z Z Z) (yS Z (za Z Z) (zN (zT (zr (zf (.one (.tmp Z)) zv)))))))))))
theorem vb {h x : Int} : aw Tryz.prog 70 [.int .u64 h, .int .u64 x] [.int .u64 (step h x)] := by
 refine zh Tryz.func70 Z Z Z Z ?_;exact zQ (zR (yS Z (za Z Z) (zN (zT (zQ (zR (yS Z (zm Z Z) (yS Z (zm Z Z) (yS Z (ax Z Z Z Z) (yS Z (ax Z Z Z Z) (yS Z (zC Z Z Z (by kernel_rfl) (zp Lo (.cons zv .nil))) (yS Z (za Z Z) (zN (zT (zr (zf (.one (.tmp Z)) zv))))))))))))))))
theorem IU {x a b : Int} {id : Nat} {H H' : List aa} (hH : aQ H id = some (.box [(uQ a), (uQ b)])) (hH' : aW H id (.box [.p (.int .u64 (step a x)), .p (.int .u64 (step b (L5 x)))]) = some H') : LC Tryz.prog 102 [(uQ x), .ptr id 0] H (Is (.tup []) H') := by
 refine dp Tryz.func102 Z Z Z ?_;exact LW.drawLast (m := 10) (by kernel_rfl) (by kernel_rfl) (by kernel_rfl) (yE Z (ab.indexAddrA Z Z Z Ay (by decide) (by decide)) (yE Z (zD Z Z hH nN Z Z) (yE Z (zm Z Z) (yE Z (zC Z Z Z (by kernel_rfl) (zp vb (.cons zv (.cons zv .nil)))) (yE Z (ab.indexAddrA Z Z Z Ay (by decide) (by decide)) (yE Z (zD Z Z hH nN Z Z) (yE Z (zm Z Z) (yE Z (ab.compl Z Z) (yE Z (zC Z Z Z (by kernel_rfl) (zp vb (.cons zv (.cons zv .nil)))) (yE Z (ab.build Z w4 Z Z Z) (LO.nil (yS Z (zs Z Z Z hH aR Z Z Z hH') (zN (gh .none (⟨rfl, rfl⟩)))))))))))))))
open Go.Proofs
def ns (p : Int × Int) (x : Int) : Int × Int := (step p.1 x, step p.2 (L5 x))
def DC (l : List Int) : Int × Int := ns (l.foldl ns (1, 2)) (IntKind.u64.wrap l.length)
theorem Ml {l : List Int} : aw Tryz.prog 54 [.slice 1 (l.map la)] [ci (DC l)] := by
 refine zh Tryz.func54 Z Z Z Z ?_;refine zQ ?_;refine LW.ok (t := 0) Z (fun ok => ?_);have hlen := ok.len;simp only [List.length_map, maxLen] at hlen;refine zR (yS Z (ze Z ka Z Z) (zN (zT (zQ (zR (yS Z (ab.build Z w4 Z Z Z) (yS Z (ze Z ka Z Z) (yS Z (zs Z Z Z Z aR Z Z Z Z) (zN (zT (zQ (zR (yS Z (ab.makeFunc Z Z Z) (yS Z (za Z Z) (zN (zT (zQ (zQ (zR (yS Z (zm Z Z) (yS Z (ab.len Z Z (by kernel_rfl)) (yS Z (zm Z Z) (zN ?_)))))))))))))))))))))));refine zT (zl ?_);refine LW.loopOf (E := fun x : Nat × Int × Int => [(0, .p (.slice 1 (l.map la))), (2, .ptr 0 0), (3, .ptr 1 0), (4, .fn 102 [] [.ptr 1 0]), (9, .p (.slice 1 (l.map la))), (10, .p (.int .i64 (l.map la).length)), (11, .p (.int .i64 (x.1 : Nat)))]) (O := fun x => [.box [(uQ 0), (uQ 0)], .box [(uQ x.2.1), (uQ x.2.2)]]) (G := fun x => x.1 ≤ l.length ∧ x.2 = (l.take x.1).foldl ns (1, 2)) (meas := fun x => l.length - x.1) (0, 1, 2) (zW 2 ⟨rfl, rfl, rfl, rfl, rfl, rfl, rfl, trivial⟩ Z Z Z Z) ⟨Nat.zero_le _, rfl⟩ (fun x hx => ?_);refine zQ (zR (yS Z (ax Z Z Z Z) (zN (zT (zQ ?_)))));refine zX Z (fun g1 => ?_) (fun g1 => ?_)
 ·
  refine zk (zT (zQ (zl (zQ ?_))))
  have hlt : x.1 < l.length := by simpa using g1
  obtain ⟨y, hy⟩ := nl hlt;refine zR (yS Z (ab.indexAddr Z Z Z FI (by omega) (tT hy) Z) (yS Z (d6 Z Z Z nN Z Z) (yS Z (za Z Z) (zN (zT (zR (yS Z (zm Z Z) (yS Z (zm Z Z) (yS Z (zC Z Z Z (by kernel_rfl) (IU (id := 1) Z Z)) (zN (ai (zT (zR (yS Z (ab.isEq (y := .p (.int .i64 ((x.1 + 1 : Nat) : Int))) (ax Z Z Z Z) (by rw [cA (by omega) (by omega)]; rfl)) (yS Z (zm Z Z) (zN (zT ?_)))))))))))))))));refine ⟨(x.1 + 1, ns x.2 y), ?_, ?_, zW 2 ⟨rfl, rfl, rfl, rfl, rfl, rfl, rfl, trivial⟩ Z Z Z rfl⟩
  ·simp only; omega
  ·refine ⟨hlt, ?_⟩; rw [List.take_add_one, hy, List.foldl_append, ← hx.2]; rfl
 ·
  refine zq (ap (ap (zy (zT (zQ ?_)))))
  have hnlt : ¬ x.1 < l.length := by simpa using g1
  have hend : x.1 = l.length := by omega
  have hfold : x.2 = l.foldl ns (1, 2) := by rw [hx.2, hend, List.take_length]
  refine zR (yS Z (zm Z Z) (yS Z (zm Z Z) (yS Z (ab.len Z Z (by kernel_rfl)) (yS Z (ab.convert (k' := .u64) Z Z (by kernel_rfl)) (yS Z (zC Z Z Z (by kernel_rfl) (IU (id := 1) Z Z)) (zN (zT (zQ (zR (yS Z (zD Z Z Z aR Z Z) (yS Z (zs Z Z Z Z aR Z Z Z Z) (zN (zT (zr (zf (.one (.cellAgg Z Z (by kernel_rfl) Z)) (Conv.pe ?_))))))))))))))));simp only [List.length_map, ci, DC, ← hfold];rfl
open Go.Proofs
def sO (b : Bk) : List Int := [1, IntKind.u64.wrap b.Slot, IntKind.u64.wrap b.From, b.Parent.1, b.Parent.2, b.Salt]
def nm (b : Bk) : ID := DC (sO b)
def aE (l : List ID) (v : ID) : Int := match l.findIdx? (fun x => decide (v = x)) with | some i => (i : Nat) | none => -1
theorem mr {l : List ID} {v : ID} {i : Nat} (h : l[i]? = some v) (hno : ∀ j, j < i → l[j]? ≠ some v) : aE l v = i := by
 have hi := (List.getElem?_eq_some_iff.1 h).1
 have : l.findIdx? (fun x => decide (v = x)) = some i := by
  rw [List.findIdx?_eq_some_iff_getElem];refine ⟨hi, by simp [(List.getElem?_eq_some_iff.1 h).2], fun j hj => ?_⟩;have := hno j hj;rw [List.getElem?_eq_getElem (by omega)] at this;simpa using fun e => this (by rw [e])
 simp [aE, this]
theorem nh {l : List ID} {v : ID} (hno : ∀ j, j < l.length → l[j]? ≠ some v) : aE l v = -1 := by
 have : l.findIdx? (fun x => decide (v = x)) = none := by
  rw [List.findIdx?_eq_none_iff];intro x hx;obtain ⟨j, hj, rfl⟩ := List.mem_iff_getElem.1 hx;have := hno j hj;rw [List.getElem?_eq_getElem hj] at this;simpa using fun e => this (by rw [e])
 simp [aE, this]
theorem Ha {b : Bk} : aw Tryz.prog 19 [ay b] [ci (nm b)] := by
 refine zh Tryz.func19 Z Z Z Z ?_;refine zQ (zR (yS Z (b6 Z Z Z Z Z) (yS Z (ze Z ka Z Z) (zN (zT (zQ (zR (yS Z (zA Z Z kM) (yS Z (zD Z Z Z bC Z Z) (yS Z (ab.convert (k' := .u64) Z Z (by kernel_rfl)) (yS Z (zA Z Z xf) (yS Z (zD Z Z Z bC Z Z) (yS Z (ab.convert (k' := .u64) Z Z (by kernel_rfl)) (yS Z (zA Z Z ml) (yS Z (ab.indexAddrA Z Z Z Ay (by decide) (by decide)) (yS Z (zD Z Z Z nN Z Z) (yS Z (zA Z Z ml) (yS Z (ab.indexAddrA Z Z Z Ay (by decide) (by decide)) (yS Z (zD Z Z Z nN Z Z) (yS Z (zA Z Z HB) (yS Z (zD Z Z Z nN Z Z) (yS Z (mS Z FI Z Z Z Z Z) (yS Z (zC Z Z Z (by kernel_rfl) (zp (Ml (l := sO b)) (.cons zv .nil))) ?_)))))))))))))))))))))));exact yS Z (zs Z Z Z Z aR Z Z Z Z) (zN (zT (zr (zf (.one (.cellAgg Z Z (by kernel_rfl) Z)) zv))))
theorem K1 {l : List ID} {v : ID} : aw Tryz.prog 119 [.slice 2 (l.map ci), ci v] [.int .i64 (aE l v)] := by
 refine zh Tryz.func119 Z Z Z Z ?_;refine zQ ?_;refine LW.ok (t := 0) Z (fun ok => ?_);have hlen := ok.len;simp only [List.length_map, maxLen] at hlen;refine zR (yS Z (b6 Z Z Z Z Z) (yS Z (za Z Z) (zN (zT (zQ (zQ (zR (yS Z (zm Z Z) (yS Z (ab.len Z Z (by kernel_rfl)) (yS Z (zm Z Z) (zN (zT (zl ?_)))))))))))));refine LW.loopOf (E := fun x : Nat => [(0, .p (.slice 2 (l.map ci))), (3, .ptr 0 0), (6, .p (.slice 2 (l.map ci))), (7, .p (.int .i64 (l.map ci).length)), (8, .p (.int .i64 (x : Nat)))]) (O := fun x => [.box [(uQ v.1), (uQ v.2)]]) (G := fun x => x ≤ l.length ∧ ∀ j, j < x → l[j]? ≠ some v) (meas := fun x => l.length - x) 0 (zW 1 ⟨rfl, rfl, rfl, rfl, rfl, trivial⟩ Z Z Z Z) ⟨Nat.zero_le _, fun j hj => absurd hj (by omega)⟩ (fun x hx => ?_);refine zQ (zR (yS Z (ax Z Z Z Z) (zN (zT (zQ ?_)))));refine zX Z (fun g1 => ?_) (fun g1 => ?_)
 ·
  refine zk (zT (zQ (zl (zQ ?_))))
  have hlt : x < l.length := by simpa using g1
  obtain ⟨y, hy⟩ := nl hlt;refine zR (yS Z (zm Z Z) (yS Z (za Z Z) (zN (zT (zQ (LW.draw2 (by kernel_rfl) (by kernel_rfl) (yE Z (zD Z Z Z aR Z Z) (yE Z (zm Z Z) (yE Z (zm Z Z) (yE Z (ab.indexAddr Z Z Z rl (by omega) (tT hy) Z) (yE Z (d6 Z Z Z aR Z Z) (yE Z (ab.eqlAgg Z Z Z Z Z vo) (LO.nil (zT ?_))))))))))))));refine zX Z (fun g2 => ?_) (fun g2 => ?_)
  ·
   refine zQ ?_;have he : v = y := of_decide_eq_true ((JR (a := v) (b := y) rfl).symm.trans g2);exact zR (yS Z (zm Z Z) (yS Z (za Z Z) (zN (zT (zr (aA (aj (aj (aA (aj (zf (.one (.tmp Z)) (Conv.pe (by rw [mr (hy.trans (congrArg some he.symm)) hx.2])))))))))))))
  ·
   refine zk (ai (zT ?_));have hne : v ≠ y := of_decide_eq_false ((JR (a := v) (b := y) rfl).symm.trans g2);refine zR (yS Z (ab.isEq (y := .p (.int .i64 ((x + 1 : Nat) : Int))) (ax Z Z Z Z) (by rw [cA (by omega) (by omega)]; rfl)) (yS Z (zm Z Z) (zN (zT ?_))));refine ⟨x + 1, ?_, ?_, zW 1 ⟨rfl, rfl, rfl, rfl, rfl, trivial⟩ Z Z Z rfl⟩
   ·omega
   ·exact ⟨hlt, fun j hj => by rcases Nat.lt_succ_iff_lt_or_eq.1 hj with h | h; exact hx.2 j h; subst h; rw [hy]; exact fun e => hne (zJ e).symm⟩
 ·
  refine zq (ap (ap (zy (zT (zQ ?_)))))
  have hnlt : ¬ x < l.length := by simpa using g1
  have hend : x = l.length := by omega
  exact zR (yS Z (za Z Z) (zN (zT (zr (zf (.one (.tmp Z)) (Conv.pe (by rw [nh fun j hj => hx.2 j (by omega)])))))))
theorem L4 {l : List ID} {v : ID} : aw Tryz.prog 65 [.slice 2 (l.map ci), ci v] [.bool (decide (aE l v ≥ 0))] := by
 refine zh Tryz.func65 Z Z Z Z ?_;exact zQ (zR (yS Z (b6 Z Z Z Z Z) (yS Z (za Z Z) (zN (zT (zQ (zR (yS Z (zm Z Z) (yS Z (zD Z Z Z aR Z Z) (yS Z (zC Z Z Z (by kernel_rfl) (zp K1 (.cons zv (.cons zv .nil)))) (yS Z (ax Z Z Z Z) (yS Z (za Z Z) (zN (zT (zr (zf (.one (.tmp Z)) zv))))))))))))))))
open Go.Proofs
def ca (l : List Bk) (i : Int) : Int := if i = -1 then 0 else match l[i.toNat]? with
 | some b => b.Slot
 | none => 0
abbrev Gl : Int → LV := fun v => (iQ v)
def eu (l : List Bk) : List Bk → Nat → List (ID × Int) → Option (List (ID × Int))
 | [], _, m => some m
 | b :: r, i, m => match af m b.Parent with
  | none => none
  | some p => if b.Slot ≤ ca l p then none else match af m (nm b) with
   | some _ => none
   | none => eu l r (i + 1) (m ++ [(nm b, (i : Int))])
def places (l : List Bk) : Option (List (ID × Int)) := eu l l 0 [((0, 0), -1)]
theorem eO {l : List Bk} {i : Nat} {y : Bk} (hy : l[i]? = some y) (m : List (ID × Int)) : eu l (l.drop i) i m = match af m y.Parent with
  | none => none
  | some p => if y.Slot ≤ ca l p then none else match af m (nm y) with
   | some _ => none
   | none => eu l (l.drop (i + 1)) (i + 1) (m ++ [(nm y, (i : Int))]) := by
 obtain ⟨hi, rfl⟩ := List.getElem?_eq_some_iff.1 hy;rw [List.drop_eq_getElem_cons hi];rfl
theorem Lm {l : List Bk} {i : Int} {id : Nat} {H : List aa} (hH : aQ H id = some (.box [(kB l)])) (hi : i = -1 ∨ 0 ≤ i ∧ i < l.length) :
  LC Tryz.prog 127 [(iQ i), .ptr id 0] H (Is (.p (.int .i64 (ca l i))) H) := by
 refine dp Tryz.func127 Z Z Z ?_;refine zQ (zR (yS Z (za Z Z) (zN (zT (zQ (zQ (zR (yS Z (zm Z Z) (yS Z (ax Z Z Z Z) (zN (zT ?_)))))))))));refine zX Z (fun g1 => ?_) (fun g1 => ?_)
 ·
  refine zQ ?_
  have he : i = -1 := by simpa using g1
  exact zR (yS Z (za Z Z) (zN (zT (zr (aj (aq (.one (.tmp Z)) (⟨by simp [ca, he], rfl⟩)))))))
 ·
  refine zk (zT (zQ ?_))
  have hne : i ≠ -1 := by simpa using g1
  obtain ⟨y, hy⟩ := nl (l := l) (i := i.toNat) (by omega)
  have hiy : (l.map ay)[i.toNat]? = some (ay y) := by simp [hy]
  exact zR (yS Z (zD Z Z hH dA Z Z) (yS Z (zm Z Z) (yS Z (ab.indexAddr Z Z Z ew (by omega) hiy Z) (yS Z (ab.fieldAddrC Z Z kM Z) (yS Z (d6 Z Z Z bC Z Z) (yS Z (za Z Z) (zN (zT (zr (aq (.one (.tmp Z)) (⟨by simp [ca, hne, hy], rfl⟩)))))))))))
theorem c94 {l : List Bk} : LC Tryz.prog 75 [(kB l)] [] fun x H =>
  (∃ m, places l = some m ∧ x = .tup [.map 1, (bQ true)] ∧ H = [.box [(kB l)], .map (ah ci Gl m)]) ∨ (places l = none ∧ x = .tup [.nilmap, (bQ false)] ∧ H = []) := by
 refine dp Tryz.func75 Z Z Z ?_;refine zQ ?_;refine LW.ok (t := 0) Z (fun ok => ?_);have hlen := ok.len;simp only [List.length_map, maxLen] at hlen;refine zR (yS Z (b6 Z Z Z Z Z) (yS Z (za Z Z) (yS Z (za Z Z) (zN (zT (zQ (zR (yS Z (ab.makeMap Z Z Z) (yS Z (ab.build Z w4 Z Z Z) (yS Z (ab.setNew (f := ci) (g := Gl) (m := []) (a := (0, 0)) (v := -1) dM Z (.inr Z) Z Z Z Z Z kt Z) (yS Z (zm Z Z) (yS Z (za Z Z) (zN (zT (zQ (zR (yS Z (ab.makeFunc Z Z Z) (yS Z (za Z Z) (zN (zT (zQ (zQ (zR ?_)))))))))))))))))))))));refine yS Z (zD Z Z Z dA Z Z) (yS Z (ab.len Z Z (by kernel_rfl)) (yS Z (zm Z Z) (zN (zT (zl ?_)))));refine LW.loopOf (E := fun x : Nat × List (ID × Int) => [(1, .ptr 0 0), (4, .map 1), (5, .fn 127 [] [.ptr 0 0]), (17, (kB l)), (18, .p (.int .i64 (l.map ay).length)), (19, .p (.int .i64 (x.1 : Nat)))]) (O := fun x => [.box [(kB l)], .map (ah ci Gl x.2)]) (G := fun x => x.1 ≤ l.length ∧ eu l (l.drop x.1) x.1 x.2 = places l ∧ ∀ k v, af x.2 k = some v → v = -1 ∨ 0 ≤ v ∧ v < l.length) (meas := fun x => l.length - x.1) (0, [((0, 0), -1)]) (zW 2 ⟨rfl, rfl, rfl, rfl, rfl, rfl, trivial⟩ Z Z Z (zL Z (zL (ae (fun _ => rfl) _) Z))) ⟨Nat.zero_le _, rfl, fun k v h => by unfold af af at h; split at h <;> cases h; exact .inl rfl⟩ (fun x hx => ?_);refine zQ (zR (yS Z (ax Z Z Z Z) (zN (zT (zQ ?_)))));refine zX Z (fun g1 => ?_) (fun g1 => ?_)
 ·
  refine zk (zT (zQ (zl (zQ ?_))))
  have hlt : x.1 < l.length := by simpa using g1
  obtain ⟨y, hy⟩ := nl hlt;refine zR (yS Z (zm Z Z) (yS Z (ab.indexAddr Z Z Z ew (by omega) (tT hy) Z) (yS Z (d6 Z Z Z cN Z Z) (yS Z (ze Z uj Z Z) (yS Z (za Z Z) (yS Z (zs Z Z Z Z cN Z Z Z Z) (zN (zT (zQ (zR (yS Z (zm Z Z) (yS Z (zA Z Z ml) (yS Z (zD Z Z Z aR Z Z) ?_)))))))))))));rcases hp : af x.2 y.Parent with _ | p
  ·
   refine yS Z ((ab.getMiss dM hp Z Z Z Z kt FQ Z)) (yS Z (zm Z Z) (yS Z (fd Z Z Z) (yS Z (fd Z Z Z) (yS Z (za Z Z) (yS Z (za Z Z) (zN (zT (zQ (zQ (LW.draw2 (by kernel_rfl) (by kernel_rfl) (yE Z (zm Z Z) (yE Z (ab.not Z Z) (yE Z (zm Z Z) (LO.sk Z Z Z Z Z Z (LO.sk Z Z Z Z Z Z (LO.sk Z Z Z Z Z Z (LO.sk Z Z Z Z Z Z (LO.sk Z Z Z Z Z Z (LO.sk Z Z Z Z Z Z (yE Z (eF Z Z Z) (LO.nil (zT (LW.condT Z ?_)))))))))))))))))))))));refine zQ (zR (yS Z (za Z Z) (yS Z (za Z Z) (zN (zT (zr (aj (aA (aj (aj (aA (aj ?_))))))))))));refine a8 (env' := [(2, .nilmap), (3, (bQ false))]) (H' := []) (zW 0 ⟨rfl, rfl, trivial⟩ Z Z Z Z) (.two (.tmp Z) (.tmp Z)) (.inr ⟨?_, rfl, rfl⟩);rw [← hx.2.1, eO hy]
   first | (simp only [hp]; done) | (simp only [hp]; rw [if_pos (of_decide_eq_true g2)]; done) | (simp only [hp, hq]; split <;> rfl)
  ·
   refine yS Z ((ab.getHit dM hp Z Z Z Z kt Z)) (yS Z (zm Z Z) (yS Z (fd Z Z Z) (yS Z (fd Z Z Z) (yS Z (za Z Z) (yS Z (za Z Z) (zN (zT (zQ (zQ (LW.draw2 (by kernel_rfl) (by kernel_rfl) (yE Z (zm Z Z) (yE Z (ab.not Z Z) (yE Z (zm Z Z) (LO.gd Z Z Z Z Z (zA Z Z kM) (LO.gd Z Z Z Z Z (zD Z Z Z bC Z Z) (LO.gd Z Z Z Z Z (zm Z Z) (LO.gd Z Z Z Z Z (zm Z Z) (LO.gd Z Z Z Z Z (zC Z Z Z (by kernel_rfl) (Lm (id := 0) Z (hx.2.2 _ _ hp))) (LO.gd Z Z Z Z Z (ax Z Z Z Z) (yE Z (df Z Z Z) (LO.nil (zT ?_))))))))))))))))))))));refine zX Z (fun g2 => ?_) (fun g2 => ?_)
   ·
    refine zQ (zR (yS Z (za Z Z) (yS Z (za Z Z) (zN (zT (zr (aj (aA (aj (aj (aA (aj ?_))))))))))));refine a8 (env' := [(2, .nilmap), (3, (bQ false))]) (H' := []) (zW 0 ⟨rfl, rfl, trivial⟩ Z Z Z Z) (.two (.tmp Z) (.tmp Z)) (.inr ⟨?_, rfl, rfl⟩);rw [← hx.2.1, eO hy]
    first | (simp only [hp]; done) | (simp only [hp]; rw [if_pos (of_decide_eq_true g2)]; done) | (simp only [hp, hq]; split <;> rfl)
   ·
    refine zk (zT (zQ (zR (yS Z (zD Z Z Z cN Z Z) (yS Z (zC Z Z Z (by kernel_rfl) (zp (Ha (b := y)) (.cons zv .nil))) (yS Z (ze Z ka Z Z) (yS Z (zs Z Z Z Z aR Z Z Z Z) (zN (zT (zQ (zQ (zR (yS Z (zm Z Z) (yS Z (zD Z Z Z aR Z Z) ?_))))))))))))));rcases hq : af x.2 (nm y) with _ | q
    ·
     refine yS Z ((ab.getMiss dM hq Z Z Z Z kt FQ Z)) (yS Z (zm Z Z) (yS Z (fd Z Z Z) (yS Z (fd Z Z Z) (yS Z (za Z Z) (yS Z (za Z Z) (zN (zT (zQ (zR (yS Z (zm Z Z) (zN (zT (LW.condF Z (zk (zT (zR (yS Z (zm Z Z) (yS Z (zD Z Z Z aR Z Z) (yS Z (zm Z Z) (yS Z (ab.setNew (f := ci) (g := Gl) (m := x.2) (a := nm y) (v := ((x.1 : Nat) : Int)) dM hq (.inl Z) Z Z Z Z Z kt Z) (zN (ai (zT ?_)))))))))))))))))))))));refine zR (yS Z (ab.isEq (y := .p (.int .i64 ((x.1 + 1 : Nat) : Int))) (ax Z Z Z Z) (by rw [cA (by omega) (by omega)]; rfl)) (yS Z (zm Z Z) (zN (zT ?_))));refine ⟨(x.1 + 1, x.2 ++ [(nm y, ((x.1 : Nat) : Int))]), ?_, ?_, zW 2 ⟨rfl, rfl, rfl, rfl, rfl, rfl, trivial⟩ Z Z Z (zL Z (zL (ae (fun _ => rfl) _) Z))⟩
     ·simp only; omega
     ·refine ⟨hlt, ?_, fun k v h => ?_⟩
      ·rw [← hx.2.1, eO hy]; simp only [hp, hq]; rw [if_neg (of_decide_eq_false g2)]
      ·rw [eZ] at h;rcases hk : af x.2 k with _ | u
       ·rw [hk] at h; simp only [Option.none_or] at h; split at h <;> cases h; omega
       ·rw [hk] at h; cases h; exact hx.2.2 k _ hk
    ·
     refine yS Z ((ab.getHit dM hq Z Z Z Z kt Z)) (yS Z (zm Z Z) (yS Z (fd Z Z Z) (yS Z (fd Z Z Z) (yS Z (za Z Z) (yS Z (za Z Z) (zN (zT (zQ (zR (yS Z (zm Z Z) (zN (zT (LW.condT Z (zQ (zR (yS Z (za Z Z) (yS Z (za Z Z) (zN (zT (zr (aj (aA (aj ?_)))))))))))))))))))))));refine aj (aA (aj ?_));refine a8 (env' := [(2, .nilmap), (3, (bQ false))]) (H' := []) (zW 0 ⟨rfl, rfl, trivial⟩ Z Z Z Z) (.two (.tmp Z) (.tmp Z)) (.inr ⟨?_, rfl, rfl⟩);rw [← hx.2.1, eO hy]
     first | (simp only [hp]; done) | (simp only [hp]; rw [if_pos (of_decide_eq_true g2)]; done) | (simp only [hp, hq]; split <;> rfl)
 ·
  refine zq (ap (ap (zy (zT (zQ ?_)))))
  have hnlt : ¬ x.1 < l.length := by simpa using g1
  have hend : x.1 = l.length := by omega
  refine zR (yS Z (zm Z Z) (yS Z (za Z Z) (yS Z (za Z Z) (zN (zT (zr ?_))))));refine a8 (env' := [(2, .map 1), (3, (bQ true))]) (H' := [.box [(kB l)], .map (ah ci Gl x.2)]) (zW 2 ⟨rfl, rfl, trivial⟩ Z Z Z (zL Z (zL (ae (fun _ => rfl) _) Z))) (.two (.tmp Z) (.tmp Z)) (.inl ⟨x.2, ?_, rfl, rfl⟩);rw [← hx.2.1, hend, List.drop_length]; rfl
structure Ar (l : List Bk) (m : List (ID × Int)) (n : Nat) : Prop where
 zero : af m (0, 0) = some (-1)
 known : ∀ k i, af m k = some i → (i = -1 ∧ k = (0, 0)) ∨ ∃ b p, 0 ≤ i ∧ i < n ∧ l[i.toNat]? = some b ∧ nm b = k ∧ af m b.Parent = some p ∧ p < i ∧ -1 ≤ p ∧ ca l p < b.Slot
 names : ∀ i b, i < n → l[i]? = some b → af m (nm b) = some (i : Int)
theorem Ar.step {l : List Bk} {m : List (ID × Int)} {n : Nat} {y : Bk} {p : Int} (h : Ar l m n) (hy : l[n]? = some y) (hp : af m y.Parent = some p) (hs : ¬ y.Slot ≤ ca l p) (hq : af m (nm y) = none) :
  Ar l (m ++ [(nm y, (n : Int))]) (n + 1) := by
 have old : ∀ k i, af m k = some i → af (m ++ [(nm y, (n : Int))]) k = some i := fun k i hk => by rw [eZ, hk]; rfl
 refine ⟨old _ _ h.zero, fun k i hk => ?_, fun i b hi hb => ?_⟩
 ·rw [eZ] at hk;rcases hm : af m k with _ | j
  ·rw [hm] at hk;simp only [Option.none_or] at hk;split at hk
   ·rename_i e;cases hk;right;refine ⟨y, p, by omega, by omega, by simpa using hy, e, old _ _ hp, ?_, ?_, by omega⟩
    ·rcases h.known _ _ hp with ⟨h1, -⟩ | ⟨b, q, h1, h2, -⟩ <;> omega
    ·rcases h.known _ _ hp with ⟨h1, -⟩ | ⟨b, q, h1, h2, -⟩ <;> omega
   ·cases hk
  ·rw [hm] at hk;cases hk;rcases h.known _ _ hm with h1 | ⟨b, q, h1, h2, h3, h4, h5, h6, h7, h8⟩
   ·exact .inl h1
   ·exact .inr ⟨b, q, h1, by omega, h3, h4, old _ _ h5, h6, h7, h8⟩
 ·rcases Nat.lt_succ_iff_lt_or_eq.1 hi with hi | hi
  ·exact old _ _ (h.names i b hi hb)
  ·subst hi;rw [hy] at hb; cases hb;rw [eZ, hq]; simp
theorem nx {l : List Bk} : ∀ (r : List Bk) (i : Nat) (m m' : List (ID × Int)), r = l.drop i → i ≤ l.length → Ar l m i → eu l r i m = some m' → Ar l m' l.length
 | [], i, m, m', hr, hi, h, hg => by
  cases hg
  have : l.length ≤ i := by
   have := congrArg List.length hr;simp at this; omega
  rw [show l.length = i by omega]; exact h
 | y :: r, i, m, m', hr, hi, h, hg => by
  have hil : i < l.length := by
   have := congrArg List.length hr;simp at this; omega
  have hd := List.drop_eq_getElem_cons hil;rw [hd, List.cons.injEq] at hr;obtain ⟨rfl, rfl⟩ := hr;unfold eu at hg;split at hg
  ·cases hg
  ·rename_i p hp;split at hg
   ·cases hg
   ·rename_i hs;split at hg
    ·cases hg
    ·rename_i hq;exact nx _ (i + 1) _ m' Z (by omega) (h.step (List.getElem?_eq_getElem hil) hp hs hq) hg
theorem wl {l : List Bk} : ∀ (k : ID) (i : Int), af [(((0, 0) : ID), (-1 : Int))] k = some i → (i = -1 ∧ k = (0, 0)) ∨ ∃ b p, 0 ≤ i ∧ i < (0 : Nat) ∧ l[i.toNat]? = some b ∧ nm b = k ∧ af [(((0, 0) : ID), (-1 : Int))] b.Parent = some p ∧ p < i ∧ -1 ≤ p ∧ ca l p < b.Slot := by
 intro k i hk;unfold af af at hk;split at hk
 ·rename_i e; cases hk; exact .inl ⟨rfl, e.symm⟩
 ·cases hk
theorem aH {l : List Bk} {m : List (ID × Int)} (h : places l = some m) : Ar l m l.length :=
 nx l 0 _ m rfl (Nat.zero_le _) ⟨rfl, wl, fun i b hi => by omega⟩ h
def bJ (l : List Bk) : Nat → ID → Int → List ID
 | 0, id, _ => [id]
 | n + 1, id, i => if i = -1 then [id] else match l[i.toNat]? with
  | none => [id]
  | some b => match places l with
   | none => [id]
   | some m => match af m b.Parent with
    | none => [id]
    | some p => id :: bJ l n b.Parent p
def am (l : List Bk) (id : ID) : List ID := match places l with
 | none => []
 | some m => match af m id with
  | none => []
  | some i => bJ l (i + 1).toNat id i
theorem vf {l : List Bk} {m : List (ID × Int)} (hpl : places l = some m) : ∀ (n : Nat) (k : Nat) (id : ID) (i : Int), i + 1 ≤ n → n ≤ k → af m id = some i → bJ l k id i = bJ l n id i := by
 intro n
 induction n with
 | zero =>
  intro k id i hi hk hf
  have : i = -1 := by
   rcases (aH hpl).known _ _ hf with ⟨h, -⟩ | ⟨_, _, h, -⟩ <;> omega
  cases k with
  | zero => rfl
  | succ k => simp [bJ, this]
 | succ n ih =>
  intro k id i hi hk hf;obtain ⟨k, rfl⟩ : ∃ j, k = j + 1 := ⟨k - 1, by omega⟩;rcases (aH hpl).known _ _ hf with ⟨h, -⟩ | ⟨b, p, h0, h1, h2, h3, h4, h5, h6, h7⟩
  ·simp [bJ, h]
  ·simp only [bJ, if_neg (show i ≠ -1 by omega), h2, hpl, h4];rw [ih k b.Parent p (by omega) (by omega) h4]
theorem fG {l : List Bk} {m : List (ID × Int)} {id : ID} {i p : Int} {b : Bk} (hpl : places l = some m) (hne : i ≠ -1) (h0 : 0 ≤ i) (hb : l[i.toNat]? = some b) (hp : af m b.Parent = some p) (hpi : p < i) (hp1 : -1 ≤ p) :
  bJ l (i + 1).toNat id i = id :: bJ l (p + 1).toNat b.Parent p := by
 obtain ⟨n, hn⟩ : ∃ n, (i + 1).toNat = n + 1 := ⟨i.toNat, by omega⟩;rw [hn];simp only [bJ, if_neg hne, hb, hpl, hp];rw [vf hpl (p + 1).toNat n b.Parent p (by omega) (by omega) hp]
theorem vX {α : Type} {f : α → PV} {l : List α} {i : Int} {a : α} (h : l[i.toNat]? = some a) : (l.map f)[i.toNat]? = some (f a) := by
 simp [h]
theorem Conv.zs' {H : List aa} {m : Nat} {xs : List PV} (h : xs = []) : Conv true H .zs (.slice m xs) := by subst h; exact Conv.zs
theorem Conv.vecAll' {H : List aa} {m id n len : Nat} {xs ys : List PV} (hH : H[id]? = some (.vec m xs)) (hn : n = xs.length) (hl : len = xs.length) (h : ys = xs) : Conv true H (.vec m id n 0 len) (.slice m ys) := by
 subst h; exact Conv.vecAll hH hn hl
open Go.Proofs
theorem Jn {l : List Bk} {H : List aa} (h : places l = none) : LC Tryz.prog 75 [(kB l)] H (Is (.tup [.nilmap, (bQ false)]) H) := by
 have h0 : LC Tryz.prog 75 ([PV.slice 5 (l.map ay)].map .p) [] (Is (.tup [.nilmap, (bQ false)]) []) := c94.mono fun x H hx => by
  rcases hx with ⟨m, hm, -⟩ | ⟨-, h1, h2⟩
  ·rw [h] at hm; cases hm
  ·exact ⟨h1, h2⟩
 have := LC.frame (H := H) (d := H.length) h0 (.cons Conv.p .nil) (by rw [Fw]);simpa [LV.shift, LV.shifts] using this
theorem Jo {l : List Bk} {m : List (ID × Int)} {H H1 H2 : List aa} {d : Nat} (h : places l = some m) (hd : cF H = some d) (h1 : ib H (.box [(kB l)]) = some H1) (h2 : ib H1 (.map (ah ci Gl m)) = some H2) :
  LC Tryz.prog 75 [(kB l)] H (Is (.tup [.map (d + 1), (bQ true)]) H2) := by
 have h0 : LC Tryz.prog 75 ([PV.slice 5 (l.map ay)].map .p) [] (Is (.tup [.map 1, (bQ true)]) [.box [(kB l)], .map (ah ci Gl m)]) := c94.mono fun x H hx => by
  rcases hx with ⟨m', hm, h1, h2⟩ | ⟨h1, -⟩
  ·rw [h] at hm; cases hm; exact ⟨h1, h2⟩
  ·rw [h] at h1; cases h1
 have := LC.frame (H := H) (d := d) h0 (.cons Conv.p .nil) hd;have e1 := cT h1;have e2 := cT h2;subst e1; subst e2;simpa [LV.shift, LV.shifts, aa.shift, ah, List.append_assoc, Function.comp_def] using this
theorem LA {l : List Bk} {id : ID} (hpl : places l = none) : aw Tryz.prog 60 [.slice 5 (l.map ay), ci id] [.slice 2 ((am l id).map ci)] := by
 refine zh Tryz.func60 Z Z Z Z ?_;refine zQ (zR (yS Z (b6 Z Z Z Z Z) (yS Z (za Z Z) (zN (zT (LW.scope (zQ (zR (yS Z (zm Z Z) (yS Z ((zC Z Z Z (by kernel_rfl) (Jn hpl))) (yS Z (zm Z Z) (yS Z (fd Z Z Z) (yS Z (fd Z Z Z) (yS Z (za Z Z) (yS Z (za Z Z) (zN (zT (zQ (zQ (zR (yS Z (zm Z Z) (yS Z (zD Z Z Z aR Z Z) (yS Z ((ab.getNil dM Z Z Z kt FQ Z)) ?_)))))))))))))))))))))));exact yS Z (zm Z Z) (yS Z (fd Z Z Z) (yS Z (fd Z Z Z) (yS Z (za Z Z) (yS Z (za Z Z) (zN (zT (zQ (zR (yS Z (zm Z Z) (yS Z (ab.not Z Z) (zN (zT (LW.condT Z (zQ (zR (yS Z (za Z Z) (zN (zT (zr (aj (q6 (zf (.one (.tmp Z)) (Conv.zs' (by simp [am, hpl]))))))))))))))))))))))))
theorem LB {l : List Bk} {id : ID} {m : List (ID × Int)} (hl : l.length ≤ 1000) (hpl : places l = some m) : aw Tryz.prog 60 [.slice 5 (l.map ay), ci id] [.slice 2 ((am l id).map ci)] := by
 refine zh Tryz.func60 Z Z Z Z ?_;refine zQ (zR (yS Z (b6 Z Z Z Z Z) (yS Z (za Z Z) (zN (zT ?_)))));refine LW.jumpsOf (l := 0) (E := fun x : List ID × ID × Int => [(0, (kB l)), (3, .ptr 0 0), (5, .map 2), (9, .vec 2 3 (x.1.map ci).length 0 (x.1.map ci).length)]) (O := fun x => [.box [(uQ x.2.1.1), (uQ x.2.1.2)], .box [(kB l)], .map (ah ci Gl m), .vec 2 (x.1.map ci)]) (G := fun x => af m x.2.1 = some x.2.2 ∧ x.1.length + (x.2.2 + 1).toNat ≤ 1001 ∧ am l id = x.1 ++ bJ l (x.2.2 + 1).toNat x.2.1 x.2.2) (meas := fun x => (x.2.2 + 1).toNat) Z ?_ (fun x hx => ?_)
 ·
  refine zQ (zR (yS Z (zm Z Z) (yS Z ((zC Z Z Z (by kernel_rfl) (Jo hpl Z Z Z))) (yS Z (zm Z Z) (yS Z (fd Z Z Z) (yS Z (fd Z Z Z) (yS Z (za Z Z) (yS Z (za Z Z) (zN (zT (zQ (zQ (zR (yS Z (zm Z Z) (yS Z (zD Z Z Z aR Z Z) ?_)))))))))))))));rcases hf : af m id with _ | i
  ·
   refine yS Z ((ab.getMiss dM hf Z Z Z Z kt FQ Z)) (yS Z (zm Z Z) (yS Z (fd Z Z Z) (yS Z (fd Z Z Z) (yS Z (za Z Z) (yS Z (za Z Z) (zN (zT (zQ (zR (yS Z (zm Z Z) (yS Z (ab.not Z Z) (zN (zT (LW.condT Z (zQ (zR (yS Z (za Z Z) (zN (zT (zr (aj (vP (zf (.one (.tmp Z)) ?_)))))))))))))))))))))));refine Conv.zs' ?_;simp [am, hpl, hf]
  ·
   refine yS Z ((ab.getHit dM hf Z Z Z Z kt Z)) (yS Z (zm Z Z) (yS Z (fd Z Z Z) (yS Z (fd Z Z Z) (yS Z (za Z Z) (yS Z (za Z Z) (zN (zT (zQ (zR (yS Z (zm Z Z) (yS Z (ab.not Z Z) (zN (zT (LW.condF Z (zk (zT (zQ (zR (yS Z (za Z Z) (zN (zT (zQ (LW.label ?_)))))))))))))))))))))));refine zT (zQ (zR (yS Z (zm Z Z) (yS Z (zD Z Z Z aR Z Z) (yS Z (mS Z rl Z Z Z Z Z) (yS Z (ab.appendZ Z Z Z Z ku.p rl (by simp only [List.length_singleton]; omega) Z) (yS Z (za Z Z) (zN (zT (zQ (zQ (zR (yS Z (zm Z Z) (yS Z (zD Z Z Z aR Z Z) (yS Z ((ab.getHit dM hf Z Z Z Z kt Z)) (yS Z (za Z Z) (zN (zT (zQ (zR (yS Z (zm Z Z) (yS Z (ax Z Z Z Z) (zN ?_)))))))))))))))))))))));refine zT ?_;refine zX Z (fun g1 => ?_) (fun g1 => ?_)
   ·
    refine zQ ?_
    have hne : i ≠ -1 := by simpa using g1
    obtain ⟨h1, -⟩ | ⟨b, p, h0, hlt, hb, hnb, hp, hpi, hp1, hs⟩ := (aH hpl).known _ _ hf
    ·exact absurd h1 hne
    have hc : am l id = id :: bJ l (p + 1).toNat b.Parent p := by
     simp only [am, hpl, hf];exact fG hpl hne h0 hb hp hpi hp1
    refine zR (yS Z (zm Z Z) (yS Z (zm Z Z) (yS Z (ab.indexAddr Z Z Z ew (by omega) (vX hb) Z) (yS Z (ab.fieldAddrC Z Z ml Z) (yS Z (d6 Z Z Z aR Z Z) (yS Z (zs Z Z Z Z aR Z Z Z Z) (zN (zT (LW.goto (Gt (Dq ?_)))))))))));refine ⟨([id], b.Parent, p), ?_, zW 4 ⟨rfl, rfl, rfl, rfl, trivial⟩ Z Z Z (zL Z (zL Z (zL (ae (fun _ => rfl) _) Z)))⟩
    ·exact ⟨hp, by simp only [List.length_singleton]; omega, hc⟩
   ·
    refine zk (zT (zQ ?_))
    have hend : i = -1 := by simpa using g1
    refine zR (yS Z (zm Z Z) (yS Z (za Z Z) (zN (zT (zr (vP (zf (.one (.tmp Z)) (Conv.vecAll' Z Z Z ?_))))))));rw [show am l id = [id] by simp only [am, hpl, hf, hend]; rfl]; rfl
 ·
  refine zQ (zk (zT (zQ (zR (yS Z (zm Z Z) (yS Z (zD Z Z Z aR Z Z) (yS Z (mS Z rl Z Z Z Z Z) (yS Z (ab.appendM (f := ci) (xs := x.1) (ys := [x.2.1]) Z Z Z Z Z rl (by simp only [List.length_singleton]; omega) Z) (yS Z (za Z Z) (zN (zT (zQ (zQ (zR (yS Z (zm Z Z) (yS Z (zD Z Z Z aR Z Z) (yS Z ((ab.getHit dM hx.1 Z Z Z Z kt Z)) (yS Z (za Z Z) (zN (zT (zQ (zR (yS Z (zm Z Z) ?_)))))))))))))))))))))));refine yS Z (ax Z Z Z Z) (zN (zT ?_));refine zX Z (fun g2 => ?_) (fun g2 => ?_)
  ·
   refine zQ ?_
   have hne : x.2.2 ≠ -1 := by simpa using g2
   obtain ⟨h1, -⟩ | ⟨b, p, h0, hlt, hb, hnb, hp, hpi, hp1, hs⟩ := (aH hpl).known _ _ hx.1
   ·exact absurd h1 hne
   have hc := fG (id := x.2.1) hpl hne h0 hb hp hpi hp1;refine zR (yS Z (zm Z Z) (yS Z (zm Z Z) (yS Z (ab.indexAddr Z Z Z ew (by omega) (vX hb) Z) (yS Z (ab.fieldAddrC Z Z ml Z) (yS Z (d6 Z Z Z aR Z Z) (yS Z (zs Z Z Z Z aR Z Z Z Z) (zN (zT (LW.goto (Gt (Dq ?_)))))))))));refine ⟨(x.1 ++ [x.2.1], b.Parent, p), ?_, ?_, zW 4 ⟨rfl, rfl, rfl, rfl, trivial⟩ Z Z Z (zL Z (zL Z (zL (ae (fun _ => rfl) _) Z)))⟩
   ·simp only; omega
   ·refine ⟨hp, ?_, ?_⟩
    ·have := hx.2.1; simp only [List.length_append, List.length_singleton]; omega
    ·rw [hx.2.2, hc, List.append_assoc]; rfl
  ·
   refine zk (zT (zQ ?_))
   have hend : x.2.2 = -1 := by simpa using g2
   refine zR (yS Z (zm Z Z) (yS Z (za Z Z) (zN (zT (zr (vP (zf (.one (.tmp Z)) (Conv.vecAll' Z Z Z ?_))))))));rw [hx.2.2, hend]; rfl
theorem KX {l : List Bk} {id : ID} (hl : l.length ≤ 1000) : aw Tryz.prog 60 [.slice 5 (l.map ay), ci id] [.slice 2 ((am l id).map ci)] := by
 rcases hpl : places l with _ | m
 ·exact LA hpl
 ·exact LB hl hpl
theorem L0 {l : List Bk} {a b : ID} (hl : l.length ≤ 1000) : aw Tryz.prog 28 [.slice 5 (l.map ay), ci a, ci b] [.bool (decide (aE (am l b) a ≥ 0))] := by
 refine zh Tryz.func28 Z Z Z Z ?_;exact zQ (zR (yS Z (b6 Z Z Z Z Z) (yS Z (b6 Z Z Z Z Z) (yS Z (za Z Z) (zN (zT (zQ (LW.draw2 (by kernel_rfl) (by kernel_rfl) (yE Z (zm Z Z) (yE Z (zD Z Z Z aR Z Z) (yE Z (zC Z Z Z (by kernel_rfl) (zp (KX hl) (.cons zv (.cons zv .nil)))) (yE Z (zD Z Z Z aR Z Z) (yE Z (zC Z Z Z (by kernel_rfl) (zp L4 (.cons zv (.cons zv .nil)))) (yE Z (za Z Z) (LO.nil (zT (zr (zf (.one (.tmp Z)) zv))))))))))))))))))
open Go.Proofs
def c8 (c : Cu) (l : List Bk) (head found : ID) (is : Bool) (slot : Int) : Cu :=
 let c' : Cu := if aE (am l head) c.ID < 0 then ⟨(0, 0), slot, IntKind.i64.wrap (c.Revoked + 1)⟩ else c
 let at_ : Int := if aE (am l head) c.ID < 0 then IntKind.i64.wrap ((am l head).length - 1) else aE (am l head) c.ID
 if is = true ∧ aE (am l head) found ≥ 0 ∧ aE (am l head) found < at_ then ⟨found, slot, c'.Revoked⟩ else c'
theorem Mb {c : Cu} {l : List Bk} {head found : ID} {is : Bool} {slot : Int} (hl : l.length ≤ 1000) : aw Tryz.prog 140 [rM c, .slice 5 (l.map ay), ci head, ci found, .bool is, .int .i64 slot] [rM (c8 c l head found is slot)] := by
 refine zh Tryz.func140 Z Z Z Z ?_;refine LW.seq (LW.region (ao.st Z Z Z (ab.box Z Z Z Z Z) (ao.st Z Z Z (ab.box Z Z Z Z Z) (ao.st Z Z Z (ab.box Z Z Z Z Z) (ao.st Z Z Z (ab.alloc Z LT Z Z) (ao.nil (bw (LW.seq (LW.region (ao.st Z Z Z (ab.move Z Z) (ao.st Z Z Z (ab.load Z Z Z aR Z Z) (ao.st Z Z Z (ab.call Z Z Z (by kernel_rfl) (LC.pure (KX hl) (.cons Conv.p (.cons Conv.p .nil)))) (ao.st Z Z Z (ab.assign Z Z) (ao.nil (bw (LW.seq (LW.region (ao.st Z Z Z (ab.move Z Z) (ao.st Z Z Z (ab.fieldAddr Z Z oq) (ao.st Z Z Z (ab.load Z Z Z aR Z Z) (ao.st Z Z Z (ab.call Z Z Z (by kernel_rfl) (LC.pure K1 (.cons Conv.p (.cons Conv.p .nil)))) (ao.st Z Z Z (ab.assign Z Z) (ao.nil ?_)))))))))))))))))))))));refine bw (LW.seq (LW.block (LW.seq (LW.block (LW.seq (LW.block (LW.seq (LW.seq (LW.region (ao.st Z Z Z (ab.move Z Z) (ao.st Z Z Z (ab.bin Z Z Z Z) (ao.st Z Z Z (ab.assign Z Z) (ao.nil (bw ?_))))))))))))));refine LW.cond Z (fun g1 => ?_) (fun g1 => ?_)
 ·
  refine LW.exit (ap (mq (bw (LW.seq (LW.region (ao.st Z Z Z (ab.move Z Z) (ao.st Z Z Z (ab.fieldAddr Z Z Dd) (ao.st Z Z Z (ab.load Z Z Z bC Z Z) (ao.st Z Z Z (ab.bin Z Z Z Z) (ao.st Z Z Z (ab.build Z La Z Z Z) (ao.st Z Z Z (ab.store Z Z Z Z j5 Z Z Z Z) (ao.nil (bw (LW.region (ao.st Z Z Z (ab.move Z Z) (ao.st Z Z Z (ab.len Z Z (by kernel_rfl)) (ao.st Z Z Z (ab.bin Z Z Z Z) (ao.st Z Z Z (ab.assign Z Z) (ao.nil (ai (bw (LW.seq (LW.seq ?_)))))))))))))))))))))));refine LW.region (ao.st Z Z Z (ab.move Z Z) (ao.st Z Z Z (ab.load Z Z Z aR Z Z) (ao.st Z Z Z (ab.call Z Z Z (by kernel_rfl) (LC.pure K1 (.cons Conv.p (.cons Conv.p .nil)))) (ao.st Z Z Z (ab.assign Z Z) (ao.nil (bw (LW.seq (LW.region (ao.st Z Z Z (ab.move Z Z) (ao.st Z Z Z (ab.move Z Z) ?_))))))))));refine zc 38 Z (fun g2 => ?_) (fun g2 => ?_)
  ·
   refine ao.gd Z Z Z (gd g2 Z) Z (ab.move Z Z) (ao.gd Z Z Z (gd g2 Z) Z (ab.bin Z Z Z Z) (ao.st Z Z Z (ab.pickT Z (bM g2 Z) Z) (ao.st Z Z Z (ab.move Z Z) ?_)));refine zc 42 Z (fun g3 => ?_) (fun g3 => ?_)
   ·
    refine ao.gd Z Z Z (gd g3 Z) Z (ab.move Z Z) (ao.gd Z Z Z (gd g3 Z) Z (ab.move Z Z) (ao.gd Z Z Z (gd g3 Z) Z (ab.bin Z Z Z Z) (ao.st Z Z Z (ab.pickT Z (bM g3 Z) Z) (ao.nil (bw ?_)))));refine LW.cond Z (fun g4 => ?_) (fun g4 => ?_)
    ·
     refine LW.region (ao.st Z Z Z (ab.load Z Z Z aR Z Z) (ao.st Z Z Z (zm Z Z) (ao.st Z Z Z (ab.fieldAddr Z Z oq) (ao.st Z Z Z (zs Z Z Z Z aR Z Z Z Z) (ao.st Z Z Z (ab.fieldAddr Z Z Dc) (ao.st Z Z Z (zs Z Z Z Z bC Z Z Z Z) (ao.nil (bw (zq (zy (bw (LW.seq (LW.region (ao.st Z Z Z (ab.load Z Z Z j5 Z Z) (ao.st Z Z Z (zs Z Z Z Z j5 Z Z Z Z) (ao.nil (bw (zr (zf (.one (.cellAgg Z Z (by kernel_rfl) Z)) (Conv.pe ?_))))))))))))))))))));simp only [decide_eq_true_eq, List.length_map] at g1 g2 g3 g4;simp only [c8, rM]
     (repeat' split) <;> first | rfl | (exfalso; simp_all; done) | (exfalso; simp_all; omega)
    ·
     refine zk (bw (zq (zy (bw (LW.seq (LW.region (ao.st Z Z Z (ab.load Z Z Z j5 Z Z) (ao.st Z Z Z (zs Z Z Z Z j5 Z Z Z Z) (ao.nil (bw (zr (zf (.one (.cellAgg Z Z (by kernel_rfl) Z)) (Conv.pe ?_)))))))))))));simp only [decide_eq_true_eq, decide_eq_false_iff_not, List.length_map] at g1 g2 g3 g4;simp only [c8, rM]
     (repeat' split) <;> first | rfl | (exfalso; simp_all; done) | (exfalso; simp_all; omega)
   ·
    refine ao.sk Z Z Z (gd g3 Z) Z Z (ao.sk Z Z Z (gd g3 Z) Z Z (ao.sk Z Z Z (gd g3 Z) Z Z (ao.st Z Z Z (df Z (bM g3 Z) Z) (ao.nil (bw (LW.condF Z (zk (bw (zq (zy (bw (LW.seq (LW.region (ao.st Z Z Z (ab.load Z Z Z j5 Z Z) (ao.st Z Z Z (zs Z Z Z Z j5 Z Z Z Z) (ao.nil (bw (zr (zf (.one (.cellAgg Z Z (by kernel_rfl) Z)) (Conv.pe ?_))))))))))))))))))));simp only [decide_eq_true_eq, decide_eq_false_iff_not] at g1 g2 g3;simp only [c8, rM]
    (repeat' split) <;> first | rfl | (exfalso; simp_all; done) | (exfalso; simp_all; omega)
  ·
   refine ao.sk Z Z Z (gd g2 Z) Z Z (ao.sk Z Z Z (gd g2 Z) Z Z (ao.st Z Z Z (df Z (bM g2 Z) Z) (ao.st Z Z Z (zm Z Z) (ao.sk Z Z Z Z Z Z (ao.sk Z Z Z Z Z Z (ao.sk Z Z Z Z Z Z (ao.st Z Z Z (df Z Z Z) (ao.nil (bw (LW.condF Z (zk (bw (zq (zy (bw (LW.seq (LW.region (ao.st Z Z Z (ab.load Z Z Z j5 Z Z) (ao.st Z Z Z (zs Z Z Z Z j5 Z Z Z Z) (ao.nil (bw (zr (zf (.one (.cellAgg Z Z (by kernel_rfl) Z)) ?_)))))))))))))))))))))));refine Conv.pe ?_;simp only [decide_eq_true_eq] at g1 g2;simp only [c8, rM]
   (repeat' split) <;> first | rfl | (exfalso; simp_all; done) | (exfalso; simp_all; omega)
 ·
  refine LW.skip (bw (LW.exit (kP (by decide) (ap (mq (bw (LW.seq (LW.seq (LW.region (ao.st Z Z Z (ab.move Z Z) (ao.st Z Z Z (ab.load Z Z Z aR Z Z) (ao.st Z Z Z (ab.call Z Z Z (by kernel_rfl) (LC.pure K1 (.cons Conv.p (.cons Conv.p .nil)))) (ao.st Z Z Z (ab.assign Z Z) (ao.nil (bw (LW.seq (LW.region (ao.st Z Z Z (ab.move Z Z) (ao.st Z Z Z (ab.move Z Z) ?_)))))))))))))))))));refine zc 38 Z (fun g5 => ?_) (fun g5 => ?_)
  ·
   refine ao.gd Z Z Z (gd g5 Z) Z (ab.move Z Z) (ao.gd Z Z Z (gd g5 Z) Z (ab.bin Z Z Z Z) (ao.st Z Z Z (ab.pickT Z (bM g5 Z) Z) (ao.st Z Z Z (ab.move Z Z) ?_)));refine zc 42 Z (fun g6 => ?_) (fun g6 => ?_)
   ·
    refine ao.gd Z Z Z (gd g6 Z) Z (ab.move Z Z) (ao.gd Z Z Z (gd g6 Z) Z (ab.move Z Z) (ao.gd Z Z Z (gd g6 Z) Z (ab.bin Z Z Z Z) (ao.st Z Z Z (ab.pickT Z (bM g6 Z) Z) (ao.nil (bw ?_)))));refine LW.cond Z (fun g7 => ?_) (fun g7 => ?_)
    ·
     refine LW.region (ao.st Z Z Z (ab.load Z Z Z aR Z Z) (ao.st Z Z Z (zm Z Z) (ao.st Z Z Z (ab.fieldAddr Z Z oq) (ao.st Z Z Z (zs Z Z Z Z aR Z Z Z Z) (ao.st Z Z Z (ab.fieldAddr Z Z Dc) (ao.st Z Z Z (zs Z Z Z Z bC Z Z Z Z) (ao.nil (bw (zq (zy (bw (LW.seq (LW.region (ao.st Z Z Z (ab.load Z Z Z j5 Z Z) (ao.st Z Z Z (zs Z Z Z Z j5 Z Z Z Z) (ao.nil (bw (zr (zf (.one (.cellAgg Z Z (by kernel_rfl) Z)) (Conv.pe ?_))))))))))))))))))));simp only [decide_eq_true_eq, decide_eq_false_iff_not] at g1 g5 g6 g7;simp only [c8, rM]
     (repeat' split) <;> first | rfl | (exfalso; simp_all; done) | (exfalso; simp_all; omega)
    ·
     refine zk (bw (zq (zy (bw (LW.seq (LW.region (ao.st Z Z Z (ab.load Z Z Z j5 Z Z) (ao.st Z Z Z (zs Z Z Z Z j5 Z Z Z Z) (ao.nil (bw (zr (zf (.one (.cellAgg Z Z (by kernel_rfl) Z)) (Conv.pe ?_)))))))))))));simp only [decide_eq_true_eq, decide_eq_false_iff_not] at g1 g5 g6 g7;simp only [c8, rM]
     (repeat' split) <;> first | rfl | (exfalso; simp_all; done) | (exfalso; simp_all; omega)
   ·
    refine ao.sk Z Z Z (gd g6 Z) Z Z (ao.sk Z Z Z (gd g6 Z) Z Z (ao.sk Z Z Z (gd g6 Z) Z Z (ao.st Z Z Z (df Z (bM g6 Z) Z) (ao.nil (bw (LW.condF Z (zk (bw (zq (zy (bw (LW.seq (LW.region (ao.st Z Z Z (ab.load Z Z Z j5 Z Z) (ao.st Z Z Z (zs Z Z Z Z j5 Z Z Z Z) (ao.nil (bw (zr (zf (.one (.cellAgg Z Z (by kernel_rfl) Z)) (Conv.pe ?_))))))))))))))))))));simp only [decide_eq_false_iff_not] at g1 g5 g6;simp only [c8, rM]
    (repeat' split) <;> first | rfl | (exfalso; simp_all; done) | (exfalso; simp_all; omega)
  ·
   refine ao.sk Z Z Z (gd g5 Z) Z Z (ao.sk Z Z Z (gd g5 Z) Z Z (ao.st Z Z Z (df Z (bM g5 Z) Z) (ao.st Z Z Z (zm Z Z) (ao.sk Z Z Z Z Z Z (ao.sk Z Z Z Z Z Z (ao.sk Z Z Z Z Z Z (ao.st Z Z Z (df Z Z Z) (ao.nil (bw (LW.condF Z (zk (bw (zq (zy (bw (LW.seq (LW.region (ao.st Z Z Z (ab.load Z Z Z j5 Z Z) (ao.st Z Z Z (zs Z Z Z Z j5 Z Z Z Z) (ao.nil (bw (zr (zf (.one (.cellAgg Z Z (by kernel_rfl) Z)) ?_)))))))))))))))))))))));refine Conv.pe ?_;simp only [decide_eq_false_iff_not] at g1 g5;simp only [c8, rM]
   (repeat' split) <;> first | rfl | (exfalso; simp_all; done) | (exfalso; simp_all; omega)
theorem jM {l : List ID} {v : ID} : aE l v = -1 ∧ v ∉ l ∨ ∃ i : Nat, aE l v = i ∧ l[i]? = some v ∧ ∀ j, j < i → l[j]? ≠ some v := by
 unfold aE
 cases h : l.findIdx? (fun x => decide (v = x)) with
 | none =>
  left;rw [List.findIdx?_eq_none_iff] at h;exact ⟨rfl, fun hm => by simpa using h v hm⟩
 | some i =>
  right;rw [List.findIdx?_eq_some_iff_getElem] at h;obtain ⟨hi, h1, h2⟩ := h;refine ⟨i, rfl, by rw [List.getElem?_eq_getElem hi]; simpa using (of_decide_eq_true h1).symm, fun j hj hc => ?_⟩;have := h2 j hj;rw [List.getElem?_eq_getElem (by omega)] at hc;simp at hc this;exact this hc.symm
theorem dg {l : List ID} {v : ID} : 0 ≤ aE l v ↔ v ∈ l := by
 rcases jM (l := l) (v := v) with ⟨h1, h2⟩ | ⟨i, h1, h2, h3⟩
 ·rw [h1]; constructor
  ·intro h; omega
  ·intro h; exact absurd h h2
 ·rw [h1]; exact ⟨fun _ => List.mem_of_getElem? h2, fun _ => by omega⟩
section
variable {l : List Bk} {m : List (ID × Int)}
theorem vg (hpl : places l = some m) : ∀ (n : Nat) (id : ID) (i : Int), i + 1 ≤ n → af m id = some i → (0, 0) ∈ bJ l n id i := by
 intro n
 induction n with
 | zero =>
  intro id i hi hf;rcases (aH hpl).known _ _ hf with ⟨-, h⟩ | ⟨_, _, h, -⟩
  ·simp [bJ, h]
  ·omega
 | succ n ih =>
  intro id i hi hf;rcases (aH hpl).known _ _ hf with ⟨h, h'⟩ | ⟨b, p, h0, h1, h2, h3, h4, h5, h6, h7⟩
  ·simp [bJ, h, h']
  ·simp only [bJ, if_neg (show i ≠ -1 by omega), h2, hpl, h4];exact List.mem_cons_of_mem _ (ih b.Parent p (by omega) h4)
theorem w7 (n : Nat) : ∀ (id : ID) (i : Int), (bJ l n id i).length ≤ n + 1 := by
 induction n with
 | zero => intro id i; simp [bJ]
 | succ n ih =>
  intro id i;simp only [bJ];split
  ·simp
  ·split
   ·simp
   ·split
    ·simp
    ·split
     ·simp
     ·simp; exact ih _ _
theorem AB (id : ID) : (am l id).length ≤ l.length + 1 := by
 unfold am;split
 ·simp
 ·rename_i m hpl;split
  ·simp
  ·rename_i i hf;have := w7 (l := l) (i + 1).toNat id i;rcases (aH hpl).known _ _ hf with ⟨h, h'⟩ | ⟨b, p, h0, h1, h2, h3, h4, h5, h6, h7⟩
   ·rw [h] at this ⊢; simp at this ⊢; omega
   ·omega
theorem xa {id : ID} (h : am l id ≠ []) : (0, 0) ∈ am l id := by
 unfold am at h ⊢;split
 ·simp_all
 ·rename_i m hpl;split
  ·simp_all
  ·rename_i i hf;refine vg hpl _ id i ?_ hf;rcases (aH hpl).known _ _ hf with ⟨h, h'⟩ | ⟨b, p, h0, h1, h2, h3, h4, h5, h6, h7⟩ <;> omega
theorem oc (hpl : places l = some m) : ∀ (n : Nat) (id : ID) (i : Int), i + 1 ≤ n → af m id = some i → ∀ (k : Nat) x, (bJ l (i + 1).toNat id i)[k]? = some x →
  ∃ j : Int, af m x = some j ∧ j ≤ i ∧ (0 < k → j < i) ∧ bJ l (j + 1).toNat x j = (bJ l (i + 1).toNat id i).drop k := by
 intro n
 induction n with
 | zero =>
  intro id i hi hf k x hx;rcases (aH hpl).known _ _ hf with ⟨h, h'⟩ | ⟨b, p, h0, h1, h2, h3, h4, h5, h6, h7⟩
  ·subst h
   have hk : k = 0 := by
    have := (List.getElem?_eq_some_iff.1 hx).1;simp [bJ] at this; exact this
   subst hk;simp [bJ] at hx; subst hx;exact ⟨-1, hf, Int.le_refl _, by omega, rfl⟩
  ·omega
 | succ n ih =>
  intro id i hi hf k x hx;rcases (aH hpl).known _ _ hf with ⟨h, h'⟩ | ⟨b, p, h0, h1, h2, h3, h4, h5, h6, h7⟩
  ·exact ih id i (by omega) hf k x hx
  ·have e := fG (id := id) hpl (by omega) h0 h2 h4 h5 h6;rw [e] at hx
   cases k with
   | zero =>
    simp at hx; subst hx;exact ⟨i, hf, Int.le_refl _, by omega, rfl⟩
   | succ k =>
    simp at hx;obtain ⟨j, g1, g2, g3, g4⟩ := ih b.Parent p (by omega) h4 k x hx;exact ⟨j, g1, by omega, fun _ => by omega, by rw [g4, e]; rfl⟩
theorem qr {id x : ID} {k : Nat} (h : (am l id)[k]? = some x) : am l x = (am l id).drop k := by
 unfold am at h ⊢
 cases hpl : places l with
 | none => rw [hpl] at h; simp at h
 | some m =>
  rw [hpl] at h;simp only at h ⊢
  cases hf : af m id with
  | none => rw [hf] at h; simp at h
  | some i =>
   rw [hf] at h;simp only at h ⊢;obtain ⟨j, g1, g2, g3, g4⟩ := oc hpl (i + 1).toNat id i (by omega) hf k x h;rw [g1]; exact g4
theorem w8 {id : ID} (h : am l id ≠ []) : (am l id)[0]? = some id := by
 unfold am at h ⊢;split
 ·simp_all
 ·rename_i m hpl;split
  ·simp_all
  ·rename_i i hf;rcases (aH hpl).known _ _ hf with ⟨h, h'⟩ | ⟨b, p, h0, h1, h2, h3, h4, h5, h6, h7⟩
   ·subst h; rfl
   ·rw [fG (id := id) hpl (by omega) h0 h2 h4 h5 h6]; rfl
theorem vi (hpl : places l = some m) {id : ID} {i : Int} (hf : af m id = some i) : ∀ {a b : Nat} {x y : ID}, a < b → (bJ l (i + 1).toNat id i)[a]? = some x → (bJ l (i + 1).toNat id i)[b]? = some y → x ≠ y := by
 intro a b x y hab ha hb;obtain ⟨j, g1, g2, g3, g4⟩ := oc hpl (i + 1).toNat id i (by omega) hf a x ha
 have hy : (bJ l (j + 1).toNat x j)[b - a]? = some y := by
  rw [g4, List.getElem?_drop, show a + (b - a) = b by omega]; exact hb
 obtain ⟨j', g5, g6, g7, -⟩ := oc hpl (j + 1).toNat x j (by omega) g1 (b - a) y hy;intro e;subst e;rw [g1] at g5;cases g5;have := g7 (by omega);omega
theorem su {id x : ID} {a b : Nat} (ha : (am l id)[a]? = some x) (hb : (am l id)[b]? = some x) : a = b := by
 unfold am at ha hb
 cases hpl : places l with
 | none => rw [hpl] at ha; simp at ha
 | some m =>
  rw [hpl] at ha hb;simp only at ha hb
  cases hf : af m id with
  | none => rw [hf] at ha; simp at ha
  | some i =>
   rw [hf] at ha hb;simp only at ha hb;rcases Nat.lt_trichotomy a b with h | h | h
   ·exact absurd Z (vi hpl hf h ha hb)
   ·exact h
   ·exact absurd Z (vi hpl hf h hb ha)
theorem lE {id x : ID} (h : x ∈ am l id) : ∃ k : Nat, (am l id)[k]? = some x ∧ aE (am l id) x = k := by
 rcases jM (l := am l id) (v := x) with ⟨h1, h2⟩ | ⟨i, h1, h2, h3⟩
 ·exact absurd h h2
 ·exact ⟨i, h2, h1⟩
theorem w9 {a b : ID} (h : a ∈ am l b) : a ∈ am l a := by
 obtain ⟨k, h1, -⟩ := lE h;rw [qr h1]
 have : ((am l b).drop k)[0]? = some a := by simpa using h1
 exact List.mem_of_getElem? this
theorem CX {id x y : ID} (hx : x ∈ am l id) (hy : y ∈ am l id) : y ∈ am l x ↔ aE (am l id) x ≤ aE (am l id) y := by
 obtain ⟨a, h1, h2⟩ := lE hx;obtain ⟨b, h3, h4⟩ := lE hy;rw [h2, h4, qr h1];constructor
 ·intro h;obtain ⟨q, hq, e⟩ := List.mem_iff_getElem.1 h
  have : (am l id)[a + q]? = some y := by
   rw [← List.getElem?_drop, List.getElem?_eq_getElem hq, e]
  have := su this h3;omega
 ·intro h
  have : ((am l id).drop a)[b - a]? = some y := by
   rw [List.getElem?_drop, show a + (b - a) = b by omega]; exact h3
  exact List.mem_of_getElem? this
end
theorem JX {k : IntKind} {p : PV} (h : pE (.int k) p) : ∃ n, p = .int k n ∧ aZ k n := by
 cases h with | int h => exact ⟨_, rfl, h⟩
open Go.Proofs
theorem wg {α : Type} : ∀ {l s : List α} {i : Nat} {y : α}, aW l i y = some s → aQ s i = some y
 | x :: r, s, 0, y, h => by cases h; rfl
 | x :: r, s, i + 1, y, h => by
  simp only [aW] at h;split at h
  ·rename_i q hq;cases h;show aQ q i = some y;exact wg hq
  ·cases h
 | [], s, 0, y, h => by cases h
 | [], s, i + 1, y, h => by cases h
theorem Kq : (Tryz.f166.name == "runtime.NumGoroutine") = false := by kernel_rfl
theorem Ky : Extern.findNext Tryz.f166 = none := by kernel_rfl
theorem Kh : Extern.find Tryz.f166 = some (Extern.Atomic.loadT (.int .i64)) := by kernel_rfl
theorem Kr : (Tryz.f201.name == "runtime.NumGoroutine") = false := by kernel_rfl
theorem Kz : Extern.findNext Tryz.f201 = none := by kernel_rfl
theorem Ki : Extern.find Tryz.f201 = some (Extern.Atomic.update (Op.intArith .add) .i64 true) := by kernel_rfl
theorem Ks : (Tryz.f212.name == "runtime.NumGoroutine") = false := by kernel_rfl
theorem KA : Extern.findNext Tryz.f212 = none := by kernel_rfl
theorem Kj : Extern.find Tryz.f212 = some (Extern.Atomic.loadT (.int .u32)) := by kernel_rfl
theorem Kt : (Tryz.f223.name == "runtime.NumGoroutine") = false := by kernel_rfl
theorem KB : Extern.findNext Tryz.f223 = none := by kernel_rfl
theorem Kk : Extern.find Tryz.f223 = some (Extern.Atomic.storeT) := by kernel_rfl
theorem Gz : (Tryz.f226.name == "runtime.NumGoroutine") = false := by kernel_rfl
theorem GB : Extern.findNext Tryz.f226 = none := by kernel_rfl
theorem Gx : Extern.find Tryz.f226 = some (fun _ => do mark .disable; pure Extern.Race.none_) := by kernel_rfl
theorem Ku : (Tryz.f227.name == "runtime.NumGoroutine") = false := by kernel_rfl
theorem KC : Extern.findNext Tryz.f227 = none := by kernel_rfl
theorem Kl : Extern.find Tryz.f227 = some (Extern.Atomic.casT (.int .i32)) := by kernel_rfl
theorem GA : (Tryz.f228.name == "runtime.NumGoroutine") = false := by kernel_rfl
theorem GC : Extern.findNext Tryz.f228 = none := by kernel_rfl
theorem Gy : Extern.find Tryz.f228 = some (fun _ => do mark .enable; pure Extern.Race.none_) := by kernel_rfl
theorem Kv : (Tryz.f229.name == "runtime.NumGoroutine") = false := by kernel_rfl
theorem KD : Extern.findNext Tryz.f229 = none := by kernel_rfl
theorem Km : Extern.find Tryz.f229 = some (Extern.Race.marked .acquire) := by kernel_rfl
theorem Kw : (Tryz.f231.name == "runtime.NumGoroutine") = false := by kernel_rfl
theorem KE : Extern.findNext Tryz.f231 = none := by kernel_rfl
theorem Ko : Extern.find Tryz.f231 = some (Extern.Race.marked .releaseMerge) := by kernel_rfl
theorem Kx : (Tryz.f232.name == "runtime.NumGoroutine") = false := by kernel_rfl
theorem KF : Extern.findNext Tryz.f232 = none := by kernel_rfl
theorem Kp : Extern.find Tryz.f232 = some (Extern.Atomic.update (Op.intArith .add) .i32 true) := by kernel_rfl
theorem Gr : tX Tryz.prog 291 295 = true := by kernel_rfl
theorem G8 {off : Nat} {n : Int} {cs : List LV} {H : List aa} (hH : aQ H 0 = some (.box cs)) (h0 : aQ cs (off + 0) = some (.p (.int .u32 n))) : LC Tryz.prog 199 [.ptr 0 off] H (Is (.p (.bool (n != 0))) H) := by
 refine dp Tryz.func199 Z Z Z ?_;refine zQ (zR (zM Z (zN (zT (zQ (zR (zM Z (yS Z (zn Z Z) (yS Z (zA Z Z yG) ?_)))))))));refine yS Z (ab.atomLoad (P := Tryz.prog) (f := 212) (fn := Tryz.f212) Z Z Z Tryz.func212 Z Ks KA Kj hH h0) ?_;exact yS Z (ax Z Z Z Z) (zM Z (zN (zT (zr (aq (.one (.tmp Z)) (⟨rfl, rfl⟩))))))
theorem Lz : aw Tryz.prog 224 [.bool true] [.int .u32 1] := by
 refine zh Tryz.func224 Z Z Z Z ?_;exact zQ (zR (zM Z (zN (zT (zQ (zQ (zR (zM Z (zN (zT (LW.condT Z (zQ (zR (zM Z (zN (zT (zr (aj (zf (.one (.tmp Z)) zv)))))))))))))))))))
theorem I8 {off : Nat} {cs cs' : List LV} {H H' : List aa} (hH : aQ H 0 = some (.box cs)) (hc : aW cs (off + 0) (.p (.int .u32 1)) = some cs') (hH' : aW H 0 (.box cs') = some H') : GW Tryz.prog 215 [.ptr 0 off, (bQ true)] H H' := by
 refine GW.start (by kernel_rfl) Tryz.func215 Z Z Z (R := Is (.tup []) H') (fun _ _ h => h.2) ?_;refine LW.drawW (by kernel_rfl) (by kernel_rfl) (zK Z ?_);refine yF (F := []) (s := none) Z (fun H _ => zn Z Z) Z ?_;refine yF (F := []) (s := none) Z (fun H _ => zA Z Z yG) Z ?_;refine zK Z ?_;refine yF (F := []) (s := none) Z (fun H _ => zC Z Z Z (by kernel_rfl) (zp Lz (.cons zv .nil))) Z ?_;refine yF Z (bL.atomStore (P := Tryz.prog) (f := 223) (fn := Tryz.f223) Z Z Z Tryz.func223 Z Kt KB Kk Z hH hc) hH' ?_;refine LF.nil ⟨by kernel_rfl, ?_⟩;exact gh .none (⟨rfl, rfl⟩)
theorem Lx {off : Nat} {cs cs' : List LV} {H H' : List aa} (hH : aQ H 0 = some (.box cs)) (h0 : aQ cs (off + 0) = some (.p (.int .i32 0))) (hc : aW cs (off + 0) (.p (.int .i32 1)) = some cs') (hH' : aW H 0 (.box cs') = some H') (hb : Nat.blt off cs'.length = true) : LC Tryz.prog 221 [.ptr 0 off] H (Is (.tup []) H') := by
 refine dp Tryz.func221 Z Z Z ?_;refine zQ (zR ?_);refine yS Z (ab.mark0 (P := Tryz.prog) (f := 226) (fn := Tryz.f226) Z Z Z Tryz.func226 Z Gz GB Gx ) ?_;refine zN (zT (zQ (zQ (zR (zM Z (yS Z (zn Z Z) (yS Z (zA Z Z tH) ?_)))))));refine yS Z (ab.atomCas (P := Tryz.prog) (f := 227) (fn := Tryz.f227) Z Z Z Tryz.func227 Z Ku KC Kl hH h0 hc hH') ?_;refine zN (zT (LW.condT Z (zQ (LW.condT Z (zQ (zR ?_))))));refine yS Z (ab.mark0 (P := Tryz.prog) (f := 228) (fn := Tryz.f228) Z Z Z Tryz.func228 Z GA GC Gy ) ?_;refine zN (zT (zR (zM Z (yS Z (ab.convPtr Z Z (wg hH' ) hb Gr) ?_))));refine yS Z (ab.markP (P := Tryz.prog) (f := 229) (fn := Tryz.f229) Z Z Z Tryz.func229 Z Kv KD Km ) ?_;exact zN (zT (zr (aj (aq .none (⟨rfl, rfl⟩)))))
theorem Lw {off : Nat} {cs cs' : List LV} {H H' : List aa} (hH : aQ H 0 = some (.box cs)) (h0 : aQ cs (off + 0 + 0) = some (.p (.int .i32 0))) (hc : aW cs (off + 0 + 0) (.p (.int .i32 1)) = some cs') (hH' : aW H 0 (.box cs') = some H') (hb : Nat.blt (off + 0) cs'.length = true) : LC Tryz.prog 213 [.ptr 0 off] H (Is (.tup []) H') := by
 refine dp Tryz.func213 Z Z Z ?_;exact zR (zM Z (yS Z (zn Z Z) (yS Z (zA Z Z yH) (yS Z (zC Z Z Z (by kernel_rfl) (Lx hH h0 hc hH' hb)) (zN (gh .none (⟨rfl, rfl⟩)))))))
theorem Ly {off : Nat} {cs cs' : List LV} {H H' : List aa} (hH : aQ H 0 = some (.box cs)) (h0 : aQ cs (off + 0) = some (.p (.int .i32 1))) (hb : Nat.blt off cs.length = true) (hc : aW cs (off + 0) (.p (.int .i32 0)) = some cs') (hH' : aW H 0 (.box cs') = some H') : LC Tryz.prog 222 [.ptr 0 off] H (Is (.tup []) H') := by
 refine dp Tryz.func222 Z Z Z ?_;refine zQ (LW.condT Z (zQ (zR (zM Z (yS Z (zn Z Z) (yS Z (zA Z Z tH) (yS Z (ab.load1 Z Z hH LQ h0) (zN (zT (zQ (zR (zM Z (yS Z (ab.convPtr Z Z hH hb Gr) ?_)))))))))))));refine yS Z (ab.markP (P := Tryz.prog) (f := 231) (fn := Tryz.f231) Z Z Z Tryz.func231 Z Kw KE Ko ) ?_;refine zN (zT (zR ?_));refine yS Z (ab.mark0 (P := Tryz.prog) (f := 226) (fn := Tryz.f226) Z Z Z Tryz.func226 Z Gz GB Gx ) ?_;refine zN (zT (zQ (zR (zM Z (yS Z (zn Z Z) (yS Z (zA Z Z tH) ?_))))));refine yS Z (ab.atomAdd (P := Tryz.prog) (f := 232) (fn := Tryz.f232) Z Z Z Tryz.func232 Z Kx KF Kp hH h0 hc hH') ?_;refine zM Z (zN (zT (zQ (zQ (zR (zM Z (yS Z (ax Z Z Z Z) (zN (zT (LW.condF Z (zk (zT (zR ?_)))))))))))));refine yS Z (ab.mark0 (P := Tryz.prog) (f := 228) (fn := Tryz.f228) Z Z Z Tryz.func228 Z GA GC Gy ) ?_;exact zN (gh .none (⟨rfl, rfl⟩))
theorem I7 {off : Nat} {cs cs' : List LV} {H H' : List aa} (hH : aQ H 0 = some (.box cs)) (h0 : aQ cs (off + 0 + 0) = some (.p (.int .i32 1))) (hb : Nat.blt (off + 0) cs.length = true) (hc : aW cs (off + 0 + 0) (.p (.int .i32 0)) = some cs') (hH' : aW H 0 (.box cs') = some H') : GW Tryz.prog 214 [.ptr 0 off] H H' := by
 refine GW.start (by kernel_rfl) Tryz.func214 Z Z Z (R := Is (.tup []) H') (fun _ _ h => h.2) ?_;exact zR (zM Z (yS Z (zn Z Z) (yS Z (zA Z Z yH) (yS Z (zC Z Z Z (by kernel_rfl) (Ly hH h0 hb hc hH')) (zN (gh .none (⟨rfl, rfl⟩)))))))
theorem I5 {off : Nat} {n m : Int} {cs cs' : List LV} {H H' : List aa} (hH : aQ H 0 = some (.box cs)) (h0 : aQ cs (off + 0) = some (iQ n)) (hc : aW cs (off + 0) (.p (.int .i64 (IntKind.i64.wrap (n + m)))) = some cs') (hH' : aW H 0 (.box cs') = some H') : LC Tryz.prog 195 [.ptr 0 off, (iQ m)] H (Is (.p (.int .i64 (IntKind.i64.wrap (n + m)))) H') := by
 refine dp Tryz.func195 Z Z Z ?_;refine zQ (zR (zM Z (zN (zT (zQ (zR (zM Z (yS Z (zn Z Z) (yS Z (zA Z Z yM) (zM Z ?_))))))))));refine yS Z (ab.atomAdd (P := Tryz.prog) (f := 201) (fn := Tryz.f201) Z Z Z Tryz.func201 Z Kr Kz Ki hH h0 hc hH') ?_;exact zM Z (zN (zT (zr (aq (.one (.tmp Z)) (⟨rfl, rfl⟩)))))
theorem Le {off : Nat} {n : Int} {cs : List LV} {H : List aa} (hH : aQ H 0 = some (.box cs)) (h0 : aQ cs (off + 0) = some (iQ n)) : LC Tryz.prog 143 [.ptr 0 off] H (Is (iQ n) H) := by
 refine dp Tryz.func143 Z Z Z ?_;refine zQ (zR (zM Z (zN (zT (zQ (zR (zM Z (yS Z (zn Z Z) (yS Z (zA Z Z yM) ?_)))))))));refine yS Z (ab.atomLoad (P := Tryz.prog) (f := 166) (fn := Tryz.f166) Z Z Z Tryz.func166 Z Kq Ky Kh hH h0) ?_;exact zM Z (zN (zT (zr (aq (.one (.tmp Z)) (⟨rfl, rfl⟩)))))
open Go.Proofs
def jU (seed n r : Int) : Int := IntKind.i64.wrap ((step seed (IntKind.u64.wrap r)).tmod (IntKind.u64.wrap n))
def k6 (seed r : Int) : Int := step seed (IntKind.u64.wrap (IntKind.i64.wrap (1000 + r)))
theorem Lr {cs cs1 cs2 : List LV} {seed n r : Int} {q : Nat} (hs : aQ cs (0 + 0) = some (uQ seed)) (hn : aQ cs (0 + 1) = some (iQ n)) (hz : IntKind.u64.wrap n ≠ 0)
  (hs1 : aQ cs1 (0 + 0) = some (uQ seed)) (hc1 : aW cs (q + 3) (.p (.int .i64 (jU seed n r))) = some cs1) (hc2 : aW cs1 (q + 4) (.p (.int .u64 (k6 seed r))) = some cs2) :
  LC Tryz.prog 194 [.ptr 1 0, .ptr 2 0, .ptr 3 0] [.box cs, .box [.ptr 0 0], .box [(iQ r)], .box [.ptr 0 q]] (Is (.tup []) [.box cs2, .box [.ptr 0 0], .box [(iQ r)], .box [.ptr 0 q]]) := by
 refine dp Tryz.func194 Z Z Z ?_;refine zQ (LW.drawW (by kernel_rfl) (by kernel_rfl) (yF Z (zd Z Z Z po Z Z) Z (yF Z (zd Z Z Z rA Z Z) Z ?_)));refine yF (F := []) (s := none) Z (fun H _ => zn Z Z) Z ?_;refine yF (F := []) (s := none) Z (fun H _ => zA Z Z yN) Z ?_;refine yF Z (bL.load1 Z Z Z nN hs) Z (yF Z (zd Z Z Z bC Z Z) Z ?_);refine yF (F := []) (s := none) Z (fun H _ => ab.convert (k' := .u64) Z Z (by kernel_rfl)) Z ?_;refine yF (F := []) (s := none) Z (fun H _ => zC Z Z Z (by kernel_rfl) (zp (vb (h := seed) (x := (IntKind.u64.wrap (r)))) (.cons zv (.cons zv .nil)))) Z ?_;refine yF Z (zd Z Z Z rA Z Z) Z ?_;refine yF (F := []) (s := none) Z (fun H _ => zn Z Z) Z ?_;refine yF (F := []) (s := none) Z (fun H _ => zA Z Z tI) Z ?_;refine yF Z (bL.load1 Z Z Z bC hn) Z ?_;refine yF (F := []) (s := none) Z (fun H _ => ab.convert (k' := .u64) Z Z (by kernel_rfl)) Z ?_;refine yF (F := []) (s := none) Z (fun H _ => ab.rem Z Z Z hz) Z ?_;refine yF (F := []) (s := none) Z (fun H _ => ab.convert (k' := .i64) Z Z (by kernel_rfl)) Z ?_;refine yF (F := []) (s := none) Z (fun H _ => zn Z Z) Z ?_;refine yF (F := []) (s := none) Z (fun H _ => zA Z Z yK) Z ?_;refine yF Z (bL.store1 Z Z Z Z bC Z hc1) Z ?_;refine LF.nil ⟨by kernel_rfl, ?_⟩;refine zT (LW.drawW (by kernel_rfl) (by kernel_rfl) (yF Z (zd Z Z Z po Z Z) Z (yF Z (zd Z Z Z rA Z Z) Z ?_)));refine yF (F := []) (s := none) Z (fun H _ => zn Z Z) Z ?_;refine yF (F := []) (s := none) Z (fun H _ => zA Z Z yN) Z ?_;refine yF Z (bL.load1 Z Z Z nN hs1) Z (yF Z (zd Z Z Z bC Z Z) Z ?_);refine yF (F := []) (s := none) Z (fun H _ => ax Z Z Z Z) Z ?_;refine yF (F := []) (s := none) Z (fun H _ => ab.convert (k' := .u64) Z Z (by kernel_rfl)) Z ?_;refine yF (F := []) (s := none) Z (fun H _ => zC Z Z Z (by kernel_rfl) (zp (vb (h := seed) (x := (IntKind.u64.wrap (IntKind.i64.wrap (1000 + r))))) (.cons zv (.cons zv .nil)))) Z ?_;refine yF (F := []) (s := none) Z (fun H _ => zn Z Z) Z ?_;refine yF (F := []) (s := none) Z (fun H _ => zA Z Z yL) Z ?_;refine yF Z (bL.store1 Z Z Z Z nN Z hc2) Z ?_;refine LF.nil ⟨by kernel_rfl, ?_⟩;exact gh .none (⟨rfl, rfl⟩)
abbrev DM : LV := .fn 194 [] [.ptr 1 0, .ptr 2 0, .ptr 3 0]
theorem Lv {cs csA cs1 cs2 csD csE : List LV} {seed n r : Int} {q : Nat} (hm : aQ cs (q + 0 + 1 + 0 + 0) = some (.p (.int .i32 0))) (hA : aW cs (q + 0 + 1 + 0 + 0) (.p (.int .i32 1)) = some csA) (hAb : Nat.blt (q + 0 + 1 + 0) csA.length = true)
  (hd : aQ csA (q + 0 + 0 + 0) = some (.p (.int .u32 0))) (hs : aQ csA (0 + 0) = some (uQ seed)) (hn : aQ csA (0 + 1) = some (iQ n)) (hz : IntKind.u64.wrap n ≠ 0)
  (hs1 : aQ cs1 (0 + 0) = some (uQ seed)) (hc1 : aW csA (q + 3) (.p (.int .i64 (jU seed n r))) = some cs1) (hc2 : aW cs1 (q + 4) (.p (.int .u64 (k6 seed r))) = some cs2)
  (hD : aW cs2 (q + 0 + 0 + 0) (.p (.int .u32 1)) = some csD) (hDm : aQ csD (q + 0 + 1 + 0 + 0) = some (.p (.int .i32 1))) (hDb : Nat.blt (q + 0 + 1 + 0) csD.length = true) (hE : aW csD (q + 0 + 1 + 0 + 0) (.p (.int .i32 0)) = some csE) :
  LC Tryz.prog 200 [.ptr 0 (q + 0), DM] [.box cs, .box [.ptr 0 0], .box [(iQ r)], .box [.ptr 0 q]] (Is (.tup []) [.box csE, .box [.ptr 0 0], .box [(iQ r)], .box [.ptr 0 q]]) := by
 refine LC.ofD Tryz.func200 Z Z Z Z ?_;refine pq.seq (pq.region (cd.st Z Z Z (zm Z Z) (cd.st Z Z Z (zn Z Z) (cd.st Z Z Z (zA Z Z yI) (cd.st Z Z Z (zC Z Z Z (by kernel_rfl) (Lw (off := q + 0 + 1) Z hm hA Z hAb)) (cd.nil (pq.seq (pq.region (cd.st Z Z Z (zm Z Z) (cd.st Z Z Z (zn Z Z) (cd.st Z Z Z (zA Z Z yI) (cd.defer Z Z Z Z Z (cd.nil (pq.seq (pq.region (cd.st Z Z Z (zm Z Z) (cd.st Z Z Z (zn Z Z) (cd.st Z Z Z (zA Z Z pG) (cd.st Z Z Z (zC Z Z Z (by kernel_rfl) (G8 (off := q + 0 + 0) (n := 0) Z hd)) (cd.st Z Z Z (ab.not Z Z) (cd.nil (pq.condT Z (pq.seq ?_)))))))))))))))))))))));exact pq.region (cd.st Z Z Z (zm Z Z) (cd.st Z Z Z (zn Z Z) (cd.st Z Z Z (zA Z Z pG) (cd.defer Z Z Z Z Z (cd.nil (pq.region (cd.st Z Z Z (zm Z Z) (cd.st Z Z Z (zC Z Z Z (by kernel_rfl) (Lr hs hn hz hs1 hc1 hc2)) (cd.nil (⟨.inl rfl, .cons (I8 (off := q + 0 + 0) Z hD Z) (.cons (I7 (off := q + 0 + 1) Z hDm hDb hE Z) .nil)⟩))))))))))
theorem I4 {cs csA cs1 cs2 csD csE : List LV} {seed n r : Int} {q : Nat} (hd0 : aQ cs (q + 0 + 0 + 0) = some (.p (.int .u32 0))) (hm : aQ cs (q + 0 + 1 + 0 + 0) = some (.p (.int .i32 0))) (hA : aW cs (q + 0 + 1 + 0 + 0) (.p (.int .i32 1)) = some csA) (hAb : Nat.blt (q + 0 + 1 + 0) csA.length = true)
  (hd : aQ csA (q + 0 + 0 + 0) = some (.p (.int .u32 0))) (hs : aQ csA (0 + 0) = some (uQ seed)) (hn : aQ csA (0 + 1) = some (iQ n)) (hz : IntKind.u64.wrap n ≠ 0)
  (hs1 : aQ cs1 (0 + 0) = some (uQ seed)) (hc1 : aW csA (q + 3) (.p (.int .i64 (jU seed n r))) = some cs1) (hc2 : aW cs1 (q + 4) (.p (.int .u64 (k6 seed r))) = some cs2)
  (hD : aW cs2 (q + 0 + 0 + 0) (.p (.int .u32 1)) = some csD) (hDm : aQ csD (q + 0 + 1 + 0 + 0) = some (.p (.int .i32 1))) (hDb : Nat.blt (q + 0 + 1 + 0) csD.length = true) (hE : aW csD (q + 0 + 1 + 0 + 0) (.p (.int .i32 0)) = some csE) : LC Tryz.prog 193 [.ptr 0 (q + 0), DM] [.box cs, .box [.ptr 0 0], .box [(iQ r)], .box [.ptr 0 q]] (Is (.tup []) [.box csE, .box [.ptr 0 0], .box [(iQ r)], .box [.ptr 0 q]]) := by
 refine dp Tryz.func193 Z Z Z ?_;exact zQ (zR (zM Z (yS Z (zn Z Z) (yS Z (zA Z Z pG) (yS Z (zC Z Z Z (by kernel_rfl) (G8 (off := q + 0 + 0) (n := 0) Z hd0)) (yS Z (ab.not Z Z) (zN (zT (LW.condT Z (zR (zM Z (zM Z (yS Z (zC Z Z Z (by kernel_rfl) (Lv hm hA hAb hd hs hn hz hs1 hc1 hc2 hD hDm hDb hE)) (zN (gh .none (⟨rfl, rfl⟩))))))))))))))))
theorem I0 {cs : List LV} {r : Int} {q : Nat} (hd : aQ cs (q + 0 + 0 + 0) = some (.p (.int .u32 1))) : LC Tryz.prog 193 [.ptr 0 (q + 0), DM] [.box cs, .box [.ptr 0 0], .box [(iQ r)], .box [.ptr 0 q]] (Is (.tup []) [.box cs, .box [.ptr 0 0], .box [(iQ r)], .box [.ptr 0 q]]) := by
 refine dp Tryz.func193 Z Z Z ?_;exact zQ (zR (zM Z (yS Z (zn Z Z) (yS Z (zA Z Z pG) (yS Z (zC Z Z Z (by kernel_rfl) (G8 (off := q + 0 + 0) (n := 1) Z hd)) (yS Z (ab.not Z Z) (zN (zT (LW.condF Z (zk (gh .none (⟨rfl, rfl⟩))))))))))))
open Go.Proofs
def iG (seed n r : Int) (b : Bool) : List LV :=
 [.p (.int .u32 (cond b 1 0)), .p (.int .i32 0), .p (.int .u32 0), .p (.int .i64 (cond b (jU seed n r) 0)), .p (.int .u64 (cond b (k6 seed r) 0))]
def vj (seed n : Int) (f : Nat → Bool) (k : Int) : List LV :=
 (uQ seed) :: (iQ n) :: (iG seed n 0 (f 0) ++ (iG seed n 1 (f 1) ++ (iG seed n 2 (f 2) ++ (iG seed n 3 (f 3) ++ (iG seed n 4 (f 4) ++ (iG seed n 5 (f 5) ++ (iG seed n 6 (f 6) ++ (iG seed n 7 (f 7) ++ (iG seed n 8 (f 8) ++ (iG seed n 9 (f 9) ++ [(iQ k)]))))))))))
def Bd (f : Nat → Bool) (i : Nat) : Nat → Bool := fun j => cond (Nat.beq j i) true (f j)
def Hw (f : Nat → Bool) (i : Nat) : Nat → Bool := fun j => cond (Nat.beq j i) false (f j)
theorem zu {f : Nat → Bool} {i : Nat} (h : f i = true) : Bd f i = f := by
 funext j;unfold Bd
 cases e : Nat.beq j i with
 | false => rfl
 | true => rw [Nat.eq_of_beq_eq_true e, h]; rfl
theorem Fl {f : Nat → Bool} {i : Nat} (h : f i = false) : Hw f i = f := by
 funext j;unfold Hw
 cases e : Nat.beq j i with
 | false => rfl
 | true => rw [Nat.eq_of_beq_eq_true e, h]; rfl
structure Dk where
 f : Nat → Bool
 k : Int
def iw (seed n : Int) (d : Dk) : List LV := vj seed n d.f d.k
def Dk.turned (d : Dk) (r : Int) : Dk := ⟨Bd d.f r.toNat, IntKind.i64.wrap (d.k + 1)⟩
def rv (n r : Int) : Bool := decide (n ≠ 0 ∧ IntKind.u64.wrap n ≠ 0 ∧ 0 ≤ r ∧ r < 10)
theorem fr {n r : Int} (h : rv n r = true) : n ≠ 0 ∧ IntKind.u64.wrap n ≠ 0 ∧ 0 ≤ r ∧ r < 10 := of_decide_eq_true h
theorem IW {cs csA cs1 cs2 csD csE : List LV} {seed n r : Int} (hd0 : aQ cs ((2 + r.toNat * 5) + 0 + 0 + 0) = some (.p (.int .u32 0))) (hm : aQ cs ((2 + r.toNat * 5) + 0 + 1 + 0 + 0) = some (.p (.int .i32 0))) (hA : aW cs ((2 + r.toNat * 5) + 0 + 1 + 0 + 0) (.p (.int .i32 1)) = some csA) (hAb : Nat.blt ((2 + r.toNat * 5) + 0 + 1 + 0) csA.length = true)
  (hd : aQ csA ((2 + r.toNat * 5) + 0 + 0 + 0) = some (.p (.int .u32 0))) (hs : aQ csA (0 + 0) = some (uQ seed)) (hn : aQ csA (0 + 1) = some (iQ n)) (hz : IntKind.u64.wrap n ≠ 0)
  (hs1 : aQ cs1 (0 + 0) = some (uQ seed)) (hc1 : aW csA ((2 + r.toNat * 5) + 3) (.p (.int .i64 (jU seed n r))) = some cs1) (hc2 : aW cs1 ((2 + r.toNat * 5) + 4) (.p (.int .u64 (k6 seed r))) = some cs2)
  (hD : aW cs2 ((2 + r.toNat * 5) + 0 + 0 + 0) (.p (.int .u32 1)) = some csD) (hDm : aQ csD ((2 + r.toNat * 5) + 0 + 1 + 0 + 0) = some (.p (.int .i32 1))) (hDb : Nat.blt ((2 + r.toNat * 5) + 0 + 1 + 0) csD.length = true) (hE : aW csD ((2 + r.toNat * 5) + 0 + 1 + 0 + 0) (.p (.int .i32 0)) = some csE) {k : Int} {csF : List LV} (hr0 : 0 ≤ r) (hr1 : r < 10) (hk : aQ csE (0 + 52 + 0) = some (iQ k)) (hF : aW csE (0 + 52 + 0) (.p (.int .i64 (IntKind.i64.wrap (k + 1)))) = some csF) (hl : LV.lowsB 1 csF = true) : LC Tryz.prog 182 [.ptr 0 0, (iQ r)] [.box cs] (Is (.ptr 0 (2 + r.toNat * 5)) [.box csF]) := by
 refine dp Tryz.func182 Z Z Z ?_;refine zQ (zR (yS Z (b6 Z Z Z Z Z) (yS Z (b6 Z Z Z Z Z) (zM Z (zN (zT (zQ (LW.ent (bO.slot Z) (LW.drawW (by kernel_rfl) (by kernel_rfl) (yF Z (zd Z Z Z rA Z Z) Z (yF Z (zd Z Z Z bC Z Z) Z ?_)))))))))));refine yF (F := []) (s := none) Z (fun H _ => zn Z Z) Z ?_;refine yF (F := []) (s := none) Z (fun H _ => zA Z Z yO) Z ?_;refine yF (F := []) (s := none) Z (fun H _ => ab.indexAddrA Z Z Z FV hr0 hr1) Z ?_;refine yF Z (bL.alloc Z GF (id := 3) Z) Z (yF Z (zt Z Z Z Z po Z Z Z) Z ?_);refine LF.nil ⟨by kernel_rfl, ?_⟩;refine zT (zQ (zR (yS Z (zD Z Z Z po Z Z) (yS Z (zn Z Z) (yS Z (zA Z Z yJ) (yS Z (ab.makeFunc Z Z Z) (yS Z (zC Z Z Z (by kernel_rfl) (I4 (q := (2 + r.toNat * 5)) hd0 hm hA hAb hd hs hn hz hs1 hc1 hc2 hD hDm hDb hE)) (zN (zT (zQ (zR (yS Z (zD Z Z Z rA Z Z) (yS Z (zn Z Z) (yS Z (zA Z Z tJ) (yS Z (zC Z Z Z (by kernel_rfl) (I5 (off := 0 + 52) Z hk hF Z)) (zN (zT (zQ (zR (yS Z (zD Z Z Z po Z Z) (zM Z (zN (zT ?_)))))))))))))))))))))));refine LW.ret ?_;refine a8 (env' := [(4, .ptr 0 (2 + r.toNat * 5))]) (H' := [.box csF]) (zW 1 ⟨rfl, trivial⟩ Z Z Z (zL hl Z)) (.one (.tmp Z)) ⟨rfl, rfl⟩
theorem IV {cs : List LV} {r : Int} (hd : aQ cs ((2 + r.toNat * 5) + 0 + 0 + 0) = some (.p (.int .u32 1))) {k : Int} {csF : List LV} (hr0 : 0 ≤ r) (hr1 : r < 10) (hk : aQ cs (0 + 52 + 0) = some (iQ k)) (hF : aW cs (0 + 52 + 0) (.p (.int .i64 (IntKind.i64.wrap (k + 1)))) = some csF) (hl : LV.lowsB 1 csF = true) : LC Tryz.prog 182 [.ptr 0 0, (iQ r)] [.box cs] (Is (.ptr 0 (2 + r.toNat * 5)) [.box csF]) := by
 refine dp Tryz.func182 Z Z Z ?_;refine zQ (zR (yS Z (b6 Z Z Z Z Z) (yS Z (b6 Z Z Z Z Z) (zM Z (zN (zT (zQ (LW.ent (bO.slot Z) (LW.drawW (by kernel_rfl) (by kernel_rfl) (yF Z (zd Z Z Z rA Z Z) Z (yF Z (zd Z Z Z bC Z Z) Z ?_)))))))))));refine yF (F := []) (s := none) Z (fun H _ => zn Z Z) Z ?_;refine yF (F := []) (s := none) Z (fun H _ => zA Z Z yO) Z ?_;refine yF (F := []) (s := none) Z (fun H _ => ab.indexAddrA Z Z Z FV hr0 hr1) Z ?_;refine yF Z (bL.alloc Z GF (id := 3) Z) Z (yF Z (zt Z Z Z Z po Z Z Z) Z ?_);refine LF.nil ⟨by kernel_rfl, ?_⟩;refine zT (zQ (zR (yS Z (zD Z Z Z po Z Z) (yS Z (zn Z Z) (yS Z (zA Z Z yJ) (yS Z (ab.makeFunc Z Z Z) (yS Z (zC Z Z Z (by kernel_rfl) (I0 (q := (2 + r.toNat * 5)) hd)) (zN (zT (zQ (zR (yS Z (zD Z Z Z rA Z Z) (yS Z (zn Z Z) (yS Z (zA Z Z tJ) (yS Z (zC Z Z Z (by kernel_rfl) (I5 (off := 0 + 52) Z hk hF Z)) (zN (zT (zQ (zR (yS Z (zD Z Z Z po Z Z) (zM Z (zN (zT ?_)))))))))))))))))))))));refine LW.ret ?_;refine a8 (env' := [(4, .ptr 0 (2 + r.toNat * 5))]) (H' := [.box csF]) (zW 1 ⟨rfl, trivial⟩ Z Z Z (zL hl Z)) (.one (.tmp Z)) ⟨rfl, rfl⟩
theorem Dj {seed n r k : Int} {f : Nat → Bool} (hz : IntKind.u64.wrap n ≠ 0) (hr0 : 0 ≤ r) (hr1 : r < 10) :
  LC Tryz.prog 182 [.ptr 0 0, (iQ r)] [.box (vj seed n (Hw f r.toNat) k)] (Is (.ptr 0 (2 + r.toNat * 5)) [.box (vj seed n (Bd f r.toNat) (IntKind.i64.wrap (k + 1)))]) := by
 have hc : r = 0 ∨ r = 1 ∨ r = 2 ∨ r = 3 ∨ r = 4 ∨ r = 5 ∨ r = 6 ∨ r = 7 ∨ r = 8 ∨ r = 9 := by omega
 rcases hc with rfl | rfl | rfl | rfl | rfl | rfl | rfl | rfl | rfl | rfl
 all_goals exact IW (seed := seed) (n := n) rfl rfl rfl rfl rfl rfl rfl hz rfl rfl rfl rfl rfl rfl rfl hr0 hr1 rfl rfl rfl
theorem Di {seed n r k : Int} {f : Nat → Bool} (hr0 : 0 ≤ r) (hr1 : r < 10) :
  LC Tryz.prog 182 [.ptr 0 0, (iQ r)] [.box (vj seed n (Bd f r.toNat) k)] (Is (.ptr 0 (2 + r.toNat * 5)) [.box (vj seed n (Bd f r.toNat) (IntKind.i64.wrap (k + 1)))]) := by
 have hc : r = 0 ∨ r = 1 ∨ r = 2 ∨ r = 3 ∨ r = 4 ∨ r = 5 ∨ r = 6 ∨ r = 7 ∨ r = 8 ∨ r = 9 := by omega
 rcases hc with rfl | rfl | rfl | rfl | rfl | rfl | rfl | rfl | rfl | rfl
 all_goals exact IV rfl hr0 hr1 rfl rfl rfl
theorem Ln {seed n r : Int} {d : Dk} (h : rv n r = true) : LC Tryz.prog 182 [.ptr 0 0, (iQ r)] [.box (iw seed n d)] (Is (.ptr 0 (2 + r.toNat * 5)) [.box (iw seed n (d.turned r))]) := by
 obtain ⟨-, h1, h2, h3⟩ := fr h
 cases hf : d.f r.toNat with
 | true =>
  have := Di (seed := seed) (n := n) (k := d.k) (f := d.f) h2 h3;rw [zu hf] at this;unfold iw Dk.turned;rw [zu hf];exact this
 | false =>
  have := Dj (seed := seed) (n := n) (k := d.k) (f := d.f) h1 h2 h3;rw [Fl hf] at this;exact this
theorem xb {seed n r : Int} {d : Dk} (hr0 : 0 ≤ r) (hr1 : r < 10) : aQ (iw seed n (d.turned r)) (2 + r.toNat * 5 + 3) = some (.p (.int .i64 (jU seed n r))) := by
 have hc : r = 0 ∨ r = 1 ∨ r = 2 ∨ r = 3 ∨ r = 4 ∨ r = 5 ∨ r = 6 ∨ r = 7 ∨ r = 8 ∨ r = 9 := by omega
 rcases hc with rfl | rfl | rfl | rfl | rfl | rfl | rfl | rfl | rfl | rfl
 all_goals rfl
theorem AD {seed n r : Int} {d : Dk} (hr0 : 0 ≤ r) (hr1 : r < 10) : aQ (iw seed n (d.turned r)) (2 + r.toNat * 5 + 4) = some (.p (.int .u64 (k6 seed r))) := by
 have hc : r = 0 ∨ r = 1 ∨ r = 2 ∨ r = 3 ∨ r = 4 ∨ r = 5 ∨ r = 6 ∨ r = 7 ∨ r = 8 ∨ r = 9 := by omega
 rcases hc with rfl | rfl | rfl | rfl | rfl | rfl | rfl | rfl | rfl | rfl
 all_goals rfl
def q0 (seed n r i : Int) : Int := (IntKind.i64.wrap (IntKind.i64.wrap (jU seed n r + n) - i)).tmod n
def D6 (seed n r i : Int) : Bool := bits .and .u64 (step (k6 seed r) (IntKind.u64.wrap (if q0 seed n r i > i then q0 seed n r i else i))) 1 == 1
def ru (seed n r i : Int) : Int := bif D6 seed n r i then q0 seed n r i else i
theorem Ld {seed n r i : Int} {d : Dk} (h : rv n r = true) : LC Tryz.prog 165 [.ptr 0 0, (iQ r), (iQ i)] [.box (iw seed n d)] (Is (.p (.int .i64 (ru seed n r i))) [.box (iw seed n (d.turned r))]) := by
 refine dp Tryz.func165 Z Z Z ?_;refine zQ (zR (zM Z (zN (zT (zQ (zR (zM Z (zM Z (yS Z (zC Z Z Z (by kernel_rfl) (Ln h)) (zM Z (zN (zT (zQ (LW.draw2 (by kernel_rfl) (by kernel_rfl) (zH Z (yE Z (zn Z Z) (yE Z (zA Z Z yK) (yE Z (ab.load1 Z Z Z bC (xb (fr h).2.2.1 (fr h).2.2.2)) (zH Z (yE Z (zn Z Z) (yE Z (zA Z Z tI) (yE Z (ab.load1 Z Z Z bC Z) (yE Z (ax Z Z Z Z) ?_)))))))))))))))))))))));refine zH Z (yE Z (ax Z Z Z Z) (zH Z (yE Z (zn Z Z) (yE Z (zA Z Z tI) (yE Z (ab.load1 Z Z Z bC Z) (yE Z (ab.rem Z Z Z (fr h).1) (zH Z (LO.nil (zT (zQ (zQ (zR (zM Z (yS Z (zn Z Z) (yS Z (zA Z Z yL) (yS Z (ab.load1 Z Z Z nN (AD (fr h).2.2.1 (fr h).2.2.2)) (zM Z (zM Z (yS Z (ab.max Z Z Z) (yS Z (ab.convert (k' := .u64) Z Z (by kernel_rfl)) (yS Z (zC Z Z Z (by kernel_rfl) (zp (vb (h := (k6 seed r)) (x := (IntKind.u64.wrap (if (q0 seed n r i) > i then (q0 seed n r i) else i)))) (.cons zv (.cons zv .nil)))) (yS Z (ax Z Z Z Z) (yS Z (ax Z Z Z Z) ?_)))))))))))))))))))))));refine zN (zT ?_);refine zX Z (fun g1 => ?_) (fun g1 => ?_)
 ·
  exact zQ (zR (zM Z (zM Z (zN (zT (zr (aj (aq (.one (.tmp Z)) (⟨by unfold ru D6; rw [g1]; rfl, rfl⟩)))))))))
 ·
  exact zk (zT (zQ (zR (zM Z (zM Z (zN (zT (zr (aq (.one (.tmp Z)) (⟨by unfold ru D6; rw [g1]; rfl, rfl⟩))))))))))
open Go.Proofs
def few (l : List Bk) : Bool := decide (l.length ≤ 1000)
theorem qz {l : List Bk} (h : few l = true) : l.length ≤ 1000 := of_decide_eq_true h
def HU (l : List Bk) : Option Bool :=
 (match places l with
 | none =>
  some false
 | some _ =>
  some true)
theorem L1 {l : List Bk} {r_ : Bool} (hr : HU l = some r_) : aw Tryz.prog 187 [.slice 5 (l.map ay)] [.bool r_] := by
 refine zh Tryz.func187 Z Z Z Z ?_;unfold HU at hr;refine zQ (zR (zM Z (zN (zT (zQ (zR (zM Z ?_)))))));rcases h_f1 : places l with _ | m_
 ·
  rw [h_f1] at hr;simp only at hr;refine yS Z (zC Z Z Z (by kernel_rfl) (Jn h_f1)) (zM Z (yS Z (fd Z Z Z) (yS Z (fd Z Z Z) (zM Z (zM Z (zN (zT (zQ (zR (zM Z (zM Z (zN (zT (zr ?_))))))))))))));obtain rfl := zJ hr;exact zf (.one (.tmp Z)) zv
 ·
  rw [h_f1] at hr;simp only at hr;refine yS Z (zC Z Z Z (by kernel_rfl) (Jo h_f1 Z Z Z)) (zM Z (yS Z (fd Z Z Z) (yS Z (fd Z Z Z) (zM Z (zM Z (zN (zT (zQ (zR (zM Z (zM Z (zN (zT (zr ?_))))))))))))));obtain rfl := zJ hr;exact zf (.one (.tmp Z)) zv
structure kz where
 t13 : Int
 out : List ID
def nR (l : List Bk) (id : ID) (x1 : kz) : Option (kz ⊕ kz) :=
 bif decide (x1.t13 < (l.length : Int)) then
  (ix l x1.t13).bind fun y1 =>
  bif ((y1.Parent.1 == id.1) && ((y1.Parent.2 == id.2) && true)) then
   bif room x1.out.length [nm y1].length 16 then
    some (.inl (kz.mk (IntKind.i64.wrap (x1.t13 + 1)) (x1.out ++ [nm y1])))
   else none
  else
   some (.inl (kz.mk (IntKind.i64.wrap (x1.t13 + 1)) x1.out))
 else
  some (.inr (kz.mk x1.t13 x1.out))
def Im (l : List Bk) (id : ID) : Option (List ID) :=
 (HU l).bind fun v1 =>
 bif !v1 then
  some []
 else
  (iter (nR l id) bG (kz.mk 0 ([] : List ID))).bind fun v2 =>
  some v2.out
theorem Mc {l : List Bk} {id : ID} {r_ : (List ID)} (hr : Im l id = some r_) : aw Tryz.prog 171 [.slice 5 (l.map ay), ci id] [.slice 2 (r_.map ci)] := by
 refine zh Tryz.func171 Z Z Z Z ?_;unfold Im at hr;refine zQ (zR (yS Z (b6 Z Z Z Z Z) (zM Z (zN (zT (zQ (zQ (zR (zM Z (zb hr fun v1 h_v1 hr => yS Z (zC Z Z Z (by kernel_rfl) (zp (L1 h_v1) (.cons zv .nil))) (yS Z (ab.not Z Z) (zN (zT ?_)))))))))))));refine zX Z (fun g1 => ?_) (fun g1 => ?_)
 ·
  refine zi g1 hr fun hr => zQ (zR (zM Z (zN (zT (zr (aj ?_))))));obtain rfl := zJ hr;exact zf (.one (.tmp Z)) Conv.zs
 ·
  refine zo g1 hr fun hr => zk (zT (zQ (zR (zM Z (zN (zT (zQ (zQ (zR (zM Z (yS Z (d7 Z Z (by kernel_rfl)) (zM Z (zN (zT (LW.ent (bO.lazy (t := 5) (m := 2) Z Z Z) ?_)))))))))))))));obtain ⟨v2, hb_v2, ho_v2⟩ := zB hr;clear hr;refine LW.tail (E := [(4, .zs), (5, .vec 2 1 (v2.out.map ci).length 0 (v2.out.map ci).length)]) (O := [.box [(uQ id.1), (uQ id.2)], .vec 2 (v2.out.map ci)]) ?_ (fun env_v2 H_v2 hw_v2 => ?_)
  ·refine LW.block ?_;refine LW.iterB (E := fun x1 : kz => [(3, .ptr 0 0), (4, .zs), (5, .vec 2 1 (x1.out.map ci).length 0 (x1.out.map ci).length), (11, (kB l)), (12, .p (.int .i64 (l.length : Int))), (13, (iQ x1.t13))]) (O := fun x1 => [.box [(uQ id.1), (uQ id.2)], .vec 2 (x1.out.map ci)]) hb_v2 (zW 2 ⟨rfl, rfl, rfl, rfl, rfl, rfl, trivial⟩ Z Z Z Z) (fun x1 z_x1 hr hb_x1 => ?_);unfold nR at hr;refine zQ (zR (yS Z (ax Z Z Z Z) (zN (zT (zQ ?_)))));refine zX Z (fun g2 => ?_) (fun g2 => ?_)
   ·
    refine zi g2 hr fun hr => zk (zT (zQ (zl (zQ (zR (zb hr fun y1 h_y1 hr => yS Z (zx Z Z Z ew h_y1 Z) (yS Z (d6 Z Z Z cN Z Z) (yS Z (ze Z uj Z Z) (yS Z (zs Z Z Z Z cN Z Z Z Z) (zN (zT (zQ (zR (yS Z (zA Z Z ml) (yS Z (zD Z Z Z aR Z Z) (yS Z (zD Z Z Z aR Z Z) (yS Z (ab.eqlAgg Z Z Z Z Z vo) (zN (zT ?_)))))))))))))))))));refine zX Z (fun g3 => ?_) (fun g3 => ?_)
    ·
     refine zi g3 hr fun hr => zR (zM Z (yS Z (zD Z Z Z cN Z Z) (yS Z (zC Z Z Z (by kernel_rfl) (zp (Ha (b := y1)) (.cons zv .nil))) (yS Z (mS Z rl Z Z Z Z Z) (zg hr fun q1 hr => yS Z (ab.appendX ci x1.out [nm y1] rfl Z Z Z ku.p Z rl q1 Z) (zM Z (zN (ai (zT (zR (yS Z (ax Z Z Z Z) (zM Z (zN (zT ?_))))))))))))));obtain rfl := zJ hr;exact ⟨_, rfl, zW 2 ⟨rfl, rfl, rfl, rfl, rfl, rfl, trivial⟩ Z Z Z rfl⟩
    ·
     refine zo g3 hr fun hr => zk (ai (zT (zR (yS Z (ax Z Z Z Z) (zM Z (zN (zT ?_)))))));obtain rfl := zJ hr;exact ⟨_, rfl, zW 2 ⟨rfl, rfl, rfl, rfl, rfl, rfl, trivial⟩ Z Z Z rfl⟩
   ·
    refine zo g2 hr fun hr => zq (ap (ap (zy (zT ?_))));obtain rfl := zJ hr;have hr := congrArg some (hb_x1 _ rfl);obtain rfl := zJ hr;exact zW 2 ⟨Z, Z, trivial⟩ Z Z Z Z
  ·have hr := ho_v2;clear hb_v2;refine zT (LW.weak hw_v2 (zQ (zR (zM Z (zM Z (zN (zT (zr ?_))))))));obtain rfl := zJ hr;exact zf (.one (.tmp Z)) ((Conv.vecAll Z Z Z))
end Go.Mg
