/- What the logic needs to know of each type of the program. The program's structs as plain data, and how they lie in memory. The mixing functions. mix.Of. tree.Name, slices.Index, slices.Contains. tree.places. Plain facts of trees: what 'places' tells. tree.Chain. cursor.Move. Plain facts of chains and cursors. Plain laws of cursors. Atomic words, locks. sync.Once as the deck uses it. The rounds of the deck. tree.May, Find, Slot, Kids. Conditions: none. -/
import Derived.Test.YtbjmcafamkdokaaGreatX2
import Derived.Test.YtbjmcafamkdokaaGreatProg
import Derived.Test.YtbjmcafamkdokaaGreatX3
set_option maxRecDepth 100000
set_option linter.unusedSimpArgs false
set_option linter.unusedVariables false
namespace Go.Mg
open Go.Proofs
section
variable {w : World}
theorem As : pb Tryz.prog 37 = some (2, 1, false) := by kernel_rfl
theorem wX : pb Tryz.prog 148 = some (3, 1, false) := by kernel_rfl
theorem CD : pb Tryz.prog 163 = some (2, 1, false) := by kernel_rfl
theorem FT : pb Tryz.prog 201 = some (10, 5, true) := by kernel_rfl
theorem K6 : bT Tryz.prog 25 = some ([LV.zs, LV.p (PV.int IntKind.u64 0), LV.p (PV.int IntKind.i64 0), LV.p (PV.int IntKind.i64 0), LV.p (PV.int IntKind.i64 0)], [(0, 1), (1, 1), (2, 1), (3, 1), (4, 1)]) := by kernel_rfl
theorem CI : bT Tryz.prog 32 = some ([LV.zs, LV.p (PV.int IntKind.u64 0), LV.p (PV.int IntKind.i64 0), LV.p (PV.int IntKind.i64 0), LV.p (PV.int IntKind.i64 0), LV.zs, LV.p (PV.int IntKind.i64 0), LV.zs, LV.zs], [(0, 5), (5, 1), (6, 1), (7, 1), (8, 1)]) := by kernel_rfl
theorem wZ : bT Tryz.prog 37 = some ([LV.p (PV.int IntKind.u64 0), LV.p (PV.int IntKind.u64 0)], [(0, 1), (1, 1)]) := by kernel_rfl
theorem IB : bT Tryz.prog 40 = some ([LV.p (PV.int IntKind.i64 0), LV.p (PV.int IntKind.i64 0), LV.p (PV.int IntKind.u64 0), LV.p (PV.int IntKind.u64 0), LV.p (PV.int IntKind.u64 0)], [(0, 1), (1, 1), (2, 2), (4, 1)]) := by kernel_rfl
theorem oa : bT Tryz.prog 44 = some ([LV.zs, LV.zs], [(0, 1), (1, 1)]) := by kernel_rfl
theorem CJ : bT Tryz.prog 46 = some ([LV.p (PV.int IntKind.i64 0), LV.p (PV.int IntKind.i64 0), LV.p (PV.int IntKind.i64 0), LV.p (PV.int IntKind.i64 0), LV.p (PV.int IntKind.u64 0), LV.p (PV.int IntKind.u64 0), LV.p (PV.int IntKind.u64 0), LV.zs, LV.zs], [(0, 1), (1, 1), (2, 5), (7, 2)]) := by kernel_rfl
theorem K5 : bT Tryz.prog 50 = some ([LV.p (PV.int IntKind.u64 0), LV.p (PV.int IntKind.u64 0), LV.p (PV.int IntKind.i64 0), LV.p (PV.int IntKind.i64 0)], [(0, 2), (2, 1), (3, 1)]) := by kernel_rfl
theorem GY : bT Tryz.prog 52 = some ([LV.p (PV.int IntKind.i64 0), LV.p (PV.int IntKind.i64 0), LV.zs, LV.zs, LV.zs, LV.zs, LV.zs, LV.p (PV.int IntKind.u64 0), LV.p (PV.int IntKind.u64 0), LV.p (PV.int IntKind.i64 0), LV.p (PV.int IntKind.i64 0), LV.p (PV.bool false)], [(0, 1), (1, 1), (2, 2), (4, 2), (6, 1), (7, 4), (11, 1)]) := by kernel_rfl
theorem IC : bT Tryz.prog 54 = some ([LV.p (PV.int IntKind.i64 0), LV.p (PV.int IntKind.i64 0), LV.p (PV.int IntKind.u64 0), LV.p (PV.int IntKind.u64 0)], [(0, 1), (1, 1), (2, 2)]) := by kernel_rfl
theorem G6 : bT Tryz.prog 92 = some ([LV.zs, LV.p (PV.int IntKind.u64 0), LV.p (PV.int IntKind.i64 0), LV.p (PV.int IntKind.i64 0), LV.p (PV.int IntKind.i64 0), LV.zs, LV.p (PV.int IntKind.i64 0), LV.zs, LV.zs, LV.zs, LV.zs, LV.p (PV.int IntKind.i64 0), LV.p (PV.bool false), LV.any, LV.p (PV.int IntKind.i64 0), LV.zs], [(0, 9), (9, 2), (11, 1), (12, 1), (13, 1), (14, 1), (15, 1)]) := by kernel_rfl
theorem G5 : bT Tryz.prog 108 = some ([LV.any, LV.any], [(0, 1), (1, 1)]) := by kernel_rfl
theorem G3 : bT Tryz.prog 143 = some ([LV.p (PV.int IntKind.i64 0), LV.p (PV.int IntKind.i64 0), LV.zs, LV.zs, LV.zs, LV.zs, LV.zs, LV.p (PV.int IntKind.u64 0), LV.p (PV.int IntKind.u64 0), LV.p (PV.int IntKind.i64 0), LV.p (PV.int IntKind.i64 0), LV.p (PV.bool false), LV.zs, LV.p (PV.int IntKind.u64 0), LV.p (PV.int IntKind.i64 0), LV.p (PV.int IntKind.i64 0), LV.p (PV.int IntKind.i64 0), LV.p (PV.int IntKind.i64 0), LV.zs], [(0, 12), (12, 5), (17, 1), (18, 1)]) := by kernel_rfl
theorem G4 : bT Tryz.prog 148 = some ([LV.any, LV.any, LV.any], [(0, 1), (1, 1), (2, 1)]) := by kernel_rfl
theorem GZ : bT Tryz.prog 163 = some ([LV.p (PV.int IntKind.u64 0), LV.p (PV.int IntKind.u64 0)], [(0, 1), (1, 1)]) := by kernel_rfl
theorem Iz : bT Tryz.prog 206 = some ([LV.p (PV.int IntKind.u64 0), LV.p (PV.int IntKind.i64 0), LV.p (PV.int IntKind.u32 0), LV.p (PV.int IntKind.i32 0), LV.p (PV.int IntKind.u32 0), LV.p (PV.int IntKind.i64 0), LV.p (PV.int IntKind.u64 0), LV.p (PV.int IntKind.u32 0), LV.p (PV.int IntKind.i32 0), LV.p (PV.int IntKind.u32 0), LV.p (PV.int IntKind.i64 0), LV.p (PV.int IntKind.u64 0), LV.p (PV.int IntKind.u32 0), LV.p (PV.int IntKind.i32 0), LV.p (PV.int IntKind.u32 0), LV.p (PV.int IntKind.i64 0), LV.p (PV.int IntKind.u64 0), LV.p (PV.int IntKind.u32 0), LV.p (PV.int IntKind.i32 0), LV.p (PV.int IntKind.u32 0), LV.p (PV.int IntKind.i64 0), LV.p (PV.int IntKind.u64 0), LV.p (PV.int IntKind.u32 0), LV.p (PV.int IntKind.i32 0), LV.p (PV.int IntKind.u32 0), LV.p (PV.int IntKind.i64 0), LV.p (PV.int IntKind.u64 0), LV.p (PV.int IntKind.u32 0), LV.p (PV.int IntKind.i32 0), LV.p (PV.int IntKind.u32 0), LV.p (PV.int IntKind.i64 0), LV.p (PV.int IntKind.u64 0), LV.p (PV.int IntKind.u32 0), LV.p (PV.int IntKind.i32 0), LV.p (PV.int IntKind.u32 0), LV.p (PV.int IntKind.i64 0), LV.p (PV.int IntKind.u64 0), LV.p (PV.int IntKind.u32 0), LV.p (PV.int IntKind.i32 0), LV.p (PV.int IntKind.u32 0), LV.p (PV.int IntKind.i64 0), LV.p (PV.int IntKind.u64 0), LV.p (PV.int IntKind.u32 0), LV.p (PV.int IntKind.i32 0), LV.p (PV.int IntKind.u32 0), LV.p (PV.int IntKind.i64 0), LV.p (PV.int IntKind.u64 0), LV.p (PV.int IntKind.u32 0), LV.p (PV.int IntKind.i32 0), LV.p (PV.int IntKind.u32 0), LV.p (PV.int IntKind.i64 0), LV.p (PV.int IntKind.u64 0), LV.p (PV.int IntKind.i64 0)], [(0, 1), (1, 1), (2, 50), (52, 1)]) := by kernel_rfl
theorem G2 : bT Tryz.prog 235 = some ([LV.nilmap, LV.nilmap], [(0, 1), (1, 1)]) := by kernel_rfl
theorem CK : bT Tryz.prog 238 = some ([LV.p (PV.int IntKind.i64 0), LV.p (PV.int IntKind.i64 0)], [(0, 1), (1, 1)]) := by kernel_rfl
theorem FU : bT Tryz.prog 242 = some ([LV.p (PV.int IntKind.i64 0), LV.p (PV.int IntKind.u64 0), LV.p (PV.int IntKind.u64 0)], [(0, 1), (1, 2)]) := by kernel_rfl
theorem IA : bT Tryz.prog 251 = some ([LV.zs, LV.zs, LV.nilmap, LV.nilmap, LV.p (PV.int IntKind.i64 0), LV.p (PV.bool false)], [(0, 2), (2, 1), (3, 1), (4, 1), (5, 1)]) := by kernel_rfl
theorem vk : lM Tryz.prog 37 2 = true := by kernel_rfl
theorem JH : lM Tryz.prog 40 5 = true := by kernel_rfl
theorem JI : lM Tryz.prog 54 4 = true := by kernel_rfl
theorem Fk : lM Tryz.prog 163 2 = true := by kernel_rfl
theorem Fl : lM Tryz.prog 238 2 = true := by kernel_rfl
theorem Hz : lM Tryz.prog 242 3 = true := by kernel_rfl
theorem gP : ak Tryz.prog 25 0 = some (0, 1, false) := by kernel_rfl
theorem De : ak Tryz.prog 25 1 = some (1, 1, false) := by kernel_rfl
theorem qO : ak Tryz.prog 25 2 = some (2, 1, false) := by kernel_rfl
theorem tL : ak Tryz.prog 25 3 = some (3, 1, false) := by kernel_rfl
theorem oq : ak Tryz.prog 25 4 = some (4, 1, false) := by kernel_rfl
theorem i9 : ak Tryz.prog 32 0 = some (0, 5, true) := by kernel_rfl
theorem kF : ak Tryz.prog 32 1 = some (5, 1, false) := by kernel_rfl
theorem ja : ak Tryz.prog 32 2 = some (6, 1, false) := by kernel_rfl
theorem bN : ak Tryz.prog 32 3 = some (7, 1, false) := by kernel_rfl
theorem jb : ak Tryz.prog 32 4 = some (8, 1, false) := by kernel_rfl
theorem kJ : ak Tryz.prog 40 0 = some (0, 1, false) := by kernel_rfl
theorem xc : ak Tryz.prog 40 1 = some (1, 1, false) := by kernel_rfl
theorem mh : ak Tryz.prog 40 2 = some (2, 2, true) := by kernel_rfl
theorem HC : ak Tryz.prog 40 3 = some (4, 1, false) := by kernel_rfl
theorem bz : ak Tryz.prog 44 0 = some (0, 1, false) := by kernel_rfl
theorem b7 : ak Tryz.prog 44 1 = some (1, 1, false) := by kernel_rfl
theorem C8 : ak Tryz.prog 46 0 = some (0, 1, false) := by kernel_rfl
theorem C9 : ak Tryz.prog 46 1 = some (1, 1, false) := by kernel_rfl
theorem vv : ak Tryz.prog 46 2 = some (2, 5, true) := by kernel_rfl
theorem jc : ak Tryz.prog 46 3 = some (7, 2, true) := by kernel_rfl
theorem tK : ak Tryz.prog 50 0 = some (0, 2, true) := by kernel_rfl
theorem Da : ak Tryz.prog 50 1 = some (2, 1, false) := by kernel_rfl
theorem HB : ak Tryz.prog 50 2 = some (3, 1, false) := by kernel_rfl
theorem kG : ak Tryz.prog 52 0 = some (0, 1, false) := by kernel_rfl
theorem c8 : ak Tryz.prog 52 1 = some (1, 1, false) := by kernel_rfl
theorem bV : ak Tryz.prog 52 2 = some (2, 2, true) := by kernel_rfl
theorem cw : ak Tryz.prog 52 3 = some (4, 2, true) := by kernel_rfl
theorem cJ : ak Tryz.prog 52 4 = some (6, 1, false) := by kernel_rfl
theorem qK : ak Tryz.prog 52 5 = some (7, 4, true) := by kernel_rfl
theorem kH : ak Tryz.prog 52 6 = some (11, 1, false) := by kernel_rfl
theorem qP : ak Tryz.prog 54 0 = some (0, 1, false) := by kernel_rfl
theorem qQ : ak Tryz.prog 54 1 = some (1, 1, false) := by kernel_rfl
theorem mi : ak Tryz.prog 54 2 = some (2, 2, true) := by kernel_rfl
theorem C6 : ak Tryz.prog 73 0 = some (0, 1, false) := by kernel_rfl
theorem vu : ak Tryz.prog 73 1 = some (1, 1, false) := by kernel_rfl
theorem C7 : ak Tryz.prog 73 2 = some (2, 1, false) := by kernel_rfl
theorem qG : ak Tryz.prog 73 3 = some (3, 1, false) := by kernel_rfl
theorem qH : ak Tryz.prog 73 4 = some (4, 1, false) := by kernel_rfl
theorem Dd : ak Tryz.prog 92 0 = some (0, 9, true) := by kernel_rfl
theorem qM : ak Tryz.prog 92 1 = some (9, 2, true) := by kernel_rfl
theorem qN : ak Tryz.prog 92 2 = some (11, 1, false) := by kernel_rfl
theorem vB : ak Tryz.prog 92 3 = some (12, 1, false) := by kernel_rfl
theorem vC : ak Tryz.prog 92 4 = some (13, 1, false) := by kernel_rfl
theorem vD : ak Tryz.prog 92 5 = some (14, 1, false) := by kernel_rfl
theorem vE : ak Tryz.prog 92 6 = some (15, 1, false) := by kernel_rfl
theorem Db : ak Tryz.prog 108 0 = some (0, 1, false) := by kernel_rfl
theorem Dc : ak Tryz.prog 108 1 = some (1, 1, false) := by kernel_rfl
theorem au : ak Tryz.prog 143 0 = some (0, 12, true) := by kernel_rfl
theorem gO : ak Tryz.prog 143 1 = some (12, 5, true) := by kernel_rfl
theorem cK : ak Tryz.prog 143 2 = some (17, 1, false) := by kernel_rfl
theorem nb : ak Tryz.prog 143 3 = some (18, 1, false) := by kernel_rfl
theorem qI : ak Tryz.prog 156 0 = some (0, 1, false) := by kernel_rfl
theorem qJ : ak Tryz.prog 156 1 = some (1, 1, false) := by kernel_rfl
theorem yA : ak Tryz.prog 192 1 = some (0, 1, false) := by kernel_rfl
theorem tG : ak Tryz.prog 194 0 = some (0, 1, false) := by kernel_rfl
theorem yB : ak Tryz.prog 196 1 = some (0, 2, true) := by kernel_rfl
theorem pH : ak Tryz.prog 198 1 = some (0, 1, true) := by kernel_rfl
theorem yC : ak Tryz.prog 198 2 = some (1, 2, true) := by kernel_rfl
theorem yD : ak Tryz.prog 200 0 = some (0, 3, true) := by kernel_rfl
theorem yG : ak Tryz.prog 200 1 = some (3, 1, false) := by kernel_rfl
theorem yH : ak Tryz.prog 200 2 = some (4, 1, false) := by kernel_rfl
theorem yI : ak Tryz.prog 204 2 = some (0, 1, false) := by kernel_rfl
theorem yJ : ak Tryz.prog 206 0 = some (0, 1, false) := by kernel_rfl
theorem tH : ak Tryz.prog 206 1 = some (1, 1, false) := by kernel_rfl
theorem yK : ak Tryz.prog 206 2 = some (2, 50, true) := by kernel_rfl
theorem tI : ak Tryz.prog 206 3 = some (52, 1, true) := by kernel_rfl
theorem qL : ak Tryz.prog 235 0 = some (0, 1, false) := by kernel_rfl
theorem vz : ak Tryz.prog 235 1 = some (1, 1, false) := by kernel_rfl
theorem vA : ak Tryz.prog 238 0 = some (0, 1, false) := by kernel_rfl
theorem na : ak Tryz.prog 242 0 = some (0, 1, false) := by kernel_rfl
theorem tJ : ak Tryz.prog 242 1 = some (1, 2, true) := by kernel_rfl
theorem ez : ak Tryz.prog 251 0 = some (0, 2, true) := by kernel_rfl
theorem lE : ak Tryz.prog 251 1 = some (2, 1, false) := by kernel_rfl
theorem pI : ak Tryz.prog 251 2 = some (3, 1, false) := by kernel_rfl
theorem yL : ak Tryz.prog 251 3 = some (4, 1, false) := by kernel_rfl
theorem pJ : ak Tryz.prog 251 4 = some (5, 1, false) := by kernel_rfl
theorem yY : dw Tryz.prog 120 = some (37, 4, 2, true) := by kernel_rfl
theorem kq : dw Tryz.prog 122 = some (37, 3, 2, true) := by kernel_rfl
theorem Gr : dw Tryz.prog 209 = some (3, 4, 1, false) := by kernel_rfl
theorem DA : dw Tryz.prog 232 = some (238, 37, 2, true) := by kernel_rfl
theorem DB : dw Tryz.prog 233 = some (238, 4, 2, true) := by kernel_rfl
theorem DC : dw Tryz.prog 249 = some (54, 4, 4, true) := by kernel_rfl
theorem fY : cC Tryz.prog 22 = some (1, 8) := by kernel_rfl
theorem mD : cC Tryz.prog 26 = some (5, 72) := by kernel_rfl
theorem eE : cC Tryz.prog 29 = some (12, 176) := by kernel_rfl
theorem cz : cC Tryz.prog 30 = some (9, 104) := by kernel_rfl
theorem en : cC Tryz.prog 41 = some (5, 40) := by kernel_rfl
theorem dM : cC Tryz.prog 42 = some (4, 32) := by kernel_rfl
theorem nG : cC Tryz.prog 47 = some (2, 16) := by kernel_rfl
theorem FE : cC Tryz.prog 99 = some (1, 8) := by kernel_rfl
theorem HO : cC Tryz.prog 212 = some (1, 8) := by kernel_rfl
theorem xG : cC Tryz.prog 224 = some (1, 24) := by kernel_rfl
theorem bA : aN Tryz.prog 3 = some (1, false) := by kernel_rfl
theorem Br : aN Tryz.prog 4 = some (1, false) := by kernel_rfl
theorem LK : aN Tryz.prog 21 = some (1, false) := by kernel_rfl
theorem fc : aN Tryz.prog 22 = some (1, false) := by kernel_rfl
theorem nN : aN Tryz.prog 23 = some (1, false) := by kernel_rfl
theorem bv : aN Tryz.prog 25 = some (5, true) := by kernel_rfl
theorem D3 : aN Tryz.prog 26 = some (1, false) := by kernel_rfl
theorem dB : aN Tryz.prog 29 = some (1, false) := by kernel_rfl
theorem bY : aN Tryz.prog 30 = some (1, false) := by kernel_rfl
theorem bK : aN Tryz.prog 32 = some (9, true) := by kernel_rfl
theorem aR : aN Tryz.prog 37 = some (2, true) := by kernel_rfl
theorem cO : aN Tryz.prog 40 = some (5, true) := by kernel_rfl
theorem dC : aN Tryz.prog 41 = some (1, false) := by kernel_rfl
theorem eS : aN Tryz.prog 42 = some (1, false) := by kernel_rfl
theorem aS : aN Tryz.prog 44 = some (2, true) := by kernel_rfl
theorem f8 : aN Tryz.prog 46 = some (9, true) := by kernel_rfl
theorem j4 : aN Tryz.prog 50 = some (4, true) := by kernel_rfl
theorem cS : aN Tryz.prog 52 = some (12, true) := by kernel_rfl
theorem cT : aN Tryz.prog 54 = some (4, true) := by kernel_rfl
theorem j3 : aN Tryz.prog 73 = some (5, true) := by kernel_rfl
theorem D9 : aN Tryz.prog 90 = some (1, false) := by kernel_rfl
theorem rC : aN Tryz.prog 92 = some (16, true) := by kernel_rfl
theorem HQ : aN Tryz.prog 105 = some (1, false) := by kernel_rfl
theorem te : aN Tryz.prog 106 = some (1, false) := by kernel_rfl
theorem D8 : aN Tryz.prog 108 = some (2, true) := by kernel_rfl
theorem D7 : aN Tryz.prog 120 = some (1, false) := by kernel_rfl
theorem Bo : aN Tryz.prog 122 = some (1, false) := by kernel_rfl
theorem xN : aN Tryz.prog 147 = some (1, false) := by kernel_rfl
theorem HP : aN Tryz.prog 148 = some (3, true) := by kernel_rfl
theorem xL : aN Tryz.prog 156 = some (2, true) := by kernel_rfl
theorem rB : aN Tryz.prog 163 = some (2, true) := by kernel_rfl
theorem rA : aN Tryz.prog 186 = some (1, false) := by kernel_rfl
theorem D5 : aN Tryz.prog 209 = some (1, false) := by kernel_rfl
theorem xM : aN Tryz.prog 232 = some (1, false) := by kernel_rfl
theorem D4 : aN Tryz.prog 233 = some (1, false) := by kernel_rfl
theorem uf : aN Tryz.prog 235 = some (2, true) := by kernel_rfl
theorem mI : aN Tryz.prog 238 = some (2, true) := by kernel_rfl
theorem pn : aN Tryz.prog 242 = some (3, true) := by kernel_rfl
theorem D6 : aN Tryz.prog 246 = some (1, false) := by kernel_rfl
theorem y9 : aN Tryz.prog 249 = some (1, false) := by kernel_rfl
theorem po : aN Tryz.prog 252 = some (1, false) := by kernel_rfl
theorem FM : kj Tryz.prog 3 = some (LV.p (PV.int IntKind.i64 0)) := by kernel_rfl
theorem KD : kj Tryz.prog 4 = some (LV.p (PV.bool false)) := by kernel_rfl
theorem LM : kj Tryz.prog 37 = some (LV.p (PV.agg [PV.int IntKind.u64 0, PV.int IntKind.u64 0])) := by kernel_rfl
theorem L3 : bB Tryz.prog 3 = some [LV.p (PV.int IntKind.i64 0)] := by kernel_rfl
theorem LP : bB Tryz.prog 22 = some [LV.zs] := by kernel_rfl
theorem LQ : bB Tryz.prog 25 = some [LV.zs, LV.p (PV.int IntKind.u64 0), LV.p (PV.int IntKind.i64 0), LV.p (PV.int IntKind.i64 0), LV.p (PV.int IntKind.i64 0)] := by kernel_rfl
theorem k9 : bB Tryz.prog 32 = some [LV.zs, LV.p (PV.int IntKind.u64 0), LV.p (PV.int IntKind.i64 0), LV.p (PV.int IntKind.i64 0), LV.p (PV.int IntKind.i64 0), LV.zs, LV.p (PV.int IntKind.i64 0), LV.zs, LV.zs] := by kernel_rfl
theorem js : bB Tryz.prog 37 = some [LV.p (PV.int IntKind.u64 0), LV.p (PV.int IntKind.u64 0)] := by kernel_rfl
theorem uj : bB Tryz.prog 40 = some [LV.p (PV.int IntKind.i64 0), LV.p (PV.int IntKind.i64 0), LV.p (PV.int IntKind.u64 0), LV.p (PV.int IntKind.u64 0), LV.p (PV.int IntKind.u64 0)] := by kernel_rfl
theorem LR : bB Tryz.prog 42 = some [LV.zs] := by kernel_rfl
theorem ii : bB Tryz.prog 44 = some [LV.zs, LV.zs] := by kernel_rfl
theorem rF : bB Tryz.prog 46 = some [LV.p (PV.int IntKind.i64 0), LV.p (PV.int IntKind.i64 0), LV.p (PV.int IntKind.i64 0), LV.p (PV.int IntKind.i64 0), LV.p (PV.int IntKind.u64 0), LV.p (PV.int IntKind.u64 0), LV.p (PV.int IntKind.u64 0), LV.zs, LV.zs] := by kernel_rfl
theorem LN : bB Tryz.prog 50 = some [LV.p (PV.int IntKind.u64 0), LV.p (PV.int IntKind.u64 0), LV.p (PV.int IntKind.i64 0), LV.p (PV.int IntKind.i64 0)] := by kernel_rfl
theorem ui : bB Tryz.prog 52 = some [LV.p (PV.int IntKind.i64 0), LV.p (PV.int IntKind.i64 0), LV.zs, LV.zs, LV.zs, LV.zs, LV.zs, LV.p (PV.int IntKind.u64 0), LV.p (PV.int IntKind.u64 0), LV.p (PV.int IntKind.i64 0), LV.p (PV.int IntKind.i64 0), LV.p (PV.bool false)] := by kernel_rfl
theorem uk : bB Tryz.prog 54 = some [LV.p (PV.int IntKind.i64 0), LV.p (PV.int IntKind.i64 0), LV.p (PV.int IntKind.u64 0), LV.p (PV.int IntKind.u64 0)] := by kernel_rfl
theorem xP : bB Tryz.prog 73 = some [LV.p (PV.int IntKind.i64 0), LV.p (PV.int IntKind.i64 0), LV.p (PV.bool false), LV.zs, LV.zs] := by kernel_rfl
theorem xT : bB Tryz.prog 92 = some [LV.zs, LV.p (PV.int IntKind.u64 0), LV.p (PV.int IntKind.i64 0), LV.p (PV.int IntKind.i64 0), LV.p (PV.int IntKind.i64 0), LV.zs, LV.p (PV.int IntKind.i64 0), LV.zs, LV.zs, LV.zs, LV.zs, LV.p (PV.int IntKind.i64 0), LV.p (PV.bool false), LV.any, LV.p (PV.int IntKind.i64 0), LV.zs] := by kernel_rfl
theorem KE : bB Tryz.prog 106 = some [LV.any] := by kernel_rfl
theorem Em : bB Tryz.prog 108 = some [LV.any, LV.any] := by kernel_rfl
theorem KH : bB Tryz.prog 120 = some [LV.nilmap] := by kernel_rfl
theorem HU : bB Tryz.prog 148 = some [LV.any, LV.any, LV.any] := by kernel_rfl
theorem xQ : bB Tryz.prog 156 = some [LV.zs, LV.zs] := by kernel_rfl
theorem xR : bB Tryz.prog 163 = some [LV.p (PV.int IntKind.u64 0), LV.p (PV.int IntKind.u64 0)] := by kernel_rfl
theorem KF : bB Tryz.prog 209 = some [LV.nilmap] := by kernel_rfl
theorem xS : bB Tryz.prog 235 = some [LV.nilmap, LV.nilmap] := by kernel_rfl
theorem El : bB Tryz.prog 238 = some [LV.p (PV.int IntKind.i64 0), LV.p (PV.int IntKind.i64 0)] := by kernel_rfl
theorem GF : bB Tryz.prog 242 = some [LV.p (PV.int IntKind.i64 0), LV.p (PV.int IntKind.u64 0), LV.p (PV.int IntKind.u64 0)] := by kernel_rfl
theorem KG : bB Tryz.prog 246 = some [LV.any] := by kernel_rfl
theorem GG : bB Tryz.prog 252 = some [LV.any] := by kernel_rfl
end
abbrev ID := Int × Int
def bF (p : ID) : PV := .agg [.int .u64 p.1, .int .u64 p.2]
def k7 (x : Int) : PV := .int .u64 x
structure Bk where
 Slot : Int
 From : Int
 Parent : ID
 Salt : Int
 deriving DecidableEq
def ay (b : Bk) : PV := .agg [.int .i64 b.Slot, .int .i64 b.From, .int .u64 b.Parent.1, .int .u64 b.Parent.2, .int .u64 b.Salt]
structure Vt where
 From : Int
 Slot : Int
 Head : ID
 deriving DecidableEq
def aI (v : Vt) : PV := .agg [.int .i64 v.From, .int .i64 v.Slot, .int .u64 v.Head.1, .int .u64 v.Head.2]
structure Cf where
 W : List Int
 Seed : Int
 Epoch : Int
 Num : Int
 Den : Int
def jC (c : Cf) : PV := .agg [.slice 1 (c.W.map aF), .int .u64 c.Seed, .int .i64 c.Epoch, .int .i64 c.Num, .int .i64 c.Den]
structure Vw where
 B : List Bk
 V : List Vt
def mO (v : Vw) : PV := .agg [.slice 5 (v.B.map ay), .slice 4 (v.V.map aI)]
structure Cu where
 ID : Go.Mg.ID
 Slot : Int
 Revoked : Int
 deriving DecidableEq
def rL (c : Cu) : PV := .agg [.int .u64 c.ID.1, .int .u64 c.ID.2, .int .i64 c.Slot, .int .i64 c.Revoked]
structure Rk where
 n : Int
 id : Go.Mg.ID
def L2 (c : Rk) : PV := .agg [.int .i64 c.n, .int .u64 c.id.1, .int .u64 c.id.2]
theorem JM {a b : ID} {r : Bool} (h : cd [.int .u64 a.1, .int .u64 a.2] [.int .u64 b.1, .int .u64 b.2] = some r) : r = decide (a = b) := by
 rw [qy] at h;cases h;obtain ⟨x, y⟩ := a;obtain ⟨z, w⟩ := b;simp only [Bool.and_true, Prod.mk.injEq];by_cases h1 : x = z <;> by_cases h2 : y = w <;> simp [h1, h2]
theorem dJ : eW bF 2 true := ⟨fun a b => by
 obtain ⟨x, y⟩ := a;obtain ⟨z, w⟩ := b;simp only [bF, gS, qy, Bool.and_true, Prod.mk.injEq, Option.some.injEq]
 by_cases h1 : x = z <;> by_cases h2 : y = w <;> simp [h1, h2], fun _ => rfl⟩
theorem Dl : eW aF 1 false := ⟨fun a b => by simp only [aF, gS, if_pos, Option.some.injEq]; by_cases h : a = b <;> simp [h], fun _ => rfl⟩
theorem zj : eW aI 4 true := ⟨fun a b => by
 obtain ⟨a1, a2, a3⟩ := a;obtain ⟨b1, b2, b3⟩ := b;simp only [aI, gS, cd, if_pos, Option.some.injEq, Vt.mk.injEq];rw [Bool.eq_iff_iff];obtain ⟨a3, a4⟩ := a3;obtain ⟨b3, b4⟩ := b3
 simp, fun _ => rfl⟩
theorem Fi (a b : ID) : ((a.1 == b.1) && ((a.2 == b.2) && true)) = decide (a = b) := by
 obtain ⟨x, y⟩ := a;obtain ⟨z, w⟩ := b;by_cases h1 : x = z <;> by_cases h2 : y = w <;> simp [h1, h2]
theorem LB (a b : Bk) : ((a.Slot == b.Slot) && ((a.From == b.From) && ((a.Parent.1 == b.Parent.1) && ((a.Parent.2 == b.Parent.2) && ((a.Salt == b.Salt) && true))))) = decide (a = b) := by
 obtain ⟨a1, a2, ⟨a3, a4⟩, a5⟩ := a;obtain ⟨b1, b2, ⟨b3, b4⟩, b5⟩ := b;simp only [Bool.and_true, Bk.mk.injEq, Prod.mk.injEq];rw [Bool.eq_iff_iff];simp [and_assoc]
theorem LD (a b : Vt) : ((a.From == b.From) && ((a.Slot == b.Slot) && ((a.Head.1 == b.Head.1) && ((a.Head.2 == b.Head.2) && true)))) = decide (a = b) := by
 obtain ⟨a1, a2, ⟨a3, a4⟩⟩ := a;obtain ⟨b1, b2, ⟨b3, b4⟩⟩ := b;rw [Bool.eq_iff_iff];simp
abbrev kB (l : List Bk) : LV := .p (.slice 5 (l.map ay))
abbrev kV (l : List Vt) : LV := .p (.slice 4 (l.map aI))
abbrev kI (l : List Int) : LV := .p (.slice 1 (l.map aF))
abbrev jB (i : Nat) (l : List Bk) : LV := .vec 5 i (l.map ay).length 0 (l.map ay).length
abbrev jV (i : Nat) (l : List Vt) : LV := .vec 4 i (l.map aI).length 0 (l.map aI).length
abbrev jI (i : Nat) (l : List Int) : LV := .vec 1 i (l.map aF).length 0 (l.map aF).length
abbrev mQ (m : List (ID × Int)) : aa := .map (ah bF (fun v => .p (.int .i64 v)) m)
abbrev mR (m : List (Vt × Bool)) : aa := .map (ah aI (fun v => .p (.bool v)) m)
abbrev bE (c : Cf) : List LV := [.p (.slice 1 (c.W.map aF)), .p (.int .u64 c.Seed), .p (.int .i64 c.Epoch), .p (.int .i64 c.Num), .p (.int .i64 c.Den)]
abbrev dm (w : Vw) : List LV := [.p (.slice 5 (w.B.map ay)), .p (.slice 4 (w.V.map aI))]
open Go.Proofs
def Kb (x : Int) : Int :=
 let a := IntKind.u64.wrap (bits .xor .u64 x (x.fdiv (2 ^ (min (Int.toNat 30) IntKind.u64.bits))) * 13787848793156543929)
 let b := IntKind.u64.wrap (bits .xor .u64 a (a.fdiv (2 ^ (min (Int.toNat 27) IntKind.u64.bits))) * 10723151780598845931)
 bits .xor .u64 b (b.fdiv (2 ^ (min (Int.toNat 31) IntKind.u64.bits)))
def step (h x : Int) : Int := Kb (IntKind.u64.wrap (bits .xor .u64 h x + 11400714819323198485))
def LZ (x : Int) : Int := bits .xor .u64 (if IntKind.u64.signed then -1 else IntKind.u64.max) x
theorem Lj {x : Int} : aw Tryz.prog 125 [.int .u64 x] [.int .u64 (Kb x)] := by
 refine zh Tryz.func125 Z Z Z Z ?_;refine zQ (zR (yS Z (za Z Z) (zN (zT (zQ (zR (yS Z (zm Z Z) (yS Z (zm Z Z) (yS Z (ab.shr Z Z Z (by decide)) (yS Z (ax Z Z Z Z) (yS Z (ax Z Z Z Z) (yS Z (za Z Z) (zN (zT (zQ (zR (yS Z (zm Z Z) (yS Z (zm Z Z) (yS Z (ab.shr Z Z Z (by decide)) (yS Z (ax Z Z Z Z) (yS Z (ax Z Z Z Z) (yS Z (za Z Z) (zN ?_)))))))))))))))))))))));exact zT (zQ (zR (yS Z (zm Z Z) (yS Z (zm Z Z) (yS Z (ab.shr Z Z Z (by decide)) (yS Z (ax Z Z Z Z) (yS Z (za Z Z) (zN (zT (zr (zf (.one (.tmp Z)) zv)))))))))))
theorem u8 {h x : Int} : aw Tryz.prog 70 [.int .u64 h, .int .u64 x] [.int .u64 (step h x)] := by
 refine zh Tryz.func70 Z Z Z Z ?_;exact zQ (zR (yS Z (za Z Z) (zN (zT (zQ (zR (yS Z (zm Z Z) (yS Z (zm Z Z) (yS Z (ax Z Z Z Z) (yS Z (ax Z Z Z Z) (yS Z (zC Z Z Z (by kernel_rfl) (zp Lj (.cons zv .nil))) (yS Z (za Z Z) (zN (zT (zr (zf (.one (.tmp Z)) zv))))))))))))))))
theorem IQ {x a b : Int} {id : Nat} {H H' : List aa} (hH : aP H id = some (.box [(uQ a), (uQ b)])) (hH' : aW H id (.box [.p (.int .u64 (step a x)), .p (.int .u64 (step b (LZ x)))]) = some H') : LC Tryz.prog 102 [(uQ x), .ptr id 0] H (Is (.tup []) H') := by
 refine dk Tryz.func102 Z Z Z ?_;exact LW.drawLast (m := 10) (by kernel_rfl) (by kernel_rfl) (by kernel_rfl) (yE Z (ab.indexAddrA Z Z Z As (by decide) (by decide)) (yE Z (zD Z Z hH nN Z Z) (yE Z (zm Z Z) (yE Z (zC Z Z Z (by kernel_rfl) (zp u8 (.cons zv (.cons zv .nil)))) (yE Z (ab.indexAddrA Z Z Z As (by decide) (by decide)) (yE Z (zD Z Z hH nN Z Z) (yE Z (zm Z Z) (yE Z (ab.compl Z Z) (yE Z (zC Z Z Z (by kernel_rfl) (zp u8 (.cons zv (.cons zv .nil)))) (yE Z (ab.build Z wZ Z Z Z) (LO.nil (yS Z (zs Z Z Z hH aR Z Z Z hH') (zN (gi .none (⟨rfl, rfl⟩)))))))))))))))
open Go.Proofs
def np (p : Int × Int) (x : Int) : Int × Int := (step p.1 x, step p.2 (LZ x))
def Dz (l : List Int) : Int × Int := np (l.foldl np (1, 2)) (IntKind.u64.wrap l.length)
theorem Mf {l : List Int} : aw Tryz.prog 54 [.slice 1 (l.map k7)] [bF (Dz l)] := by
 refine zh Tryz.func54 Z Z Z Z ?_;refine zQ ?_;refine LW.ok (t := 0) Z (fun ok => ?_);have hlen := ok.len;simp only [List.length_map, maxLen] at hlen;refine zR (yS Z (ze Z js Z Z) (zN (zT (zQ (zR (yS Z (ab.build Z wZ Z Z Z) (yS Z (ze Z js Z Z) (yS Z (zs Z Z Z Z aR Z Z Z Z) (zN (zT (zQ (zR (yS Z (ab.makeFunc Z Z Z) (yS Z (za Z Z) (zN (zT (zQ (zQ (zR (yS Z (zm Z Z) (yS Z (ab.len Z Z (by kernel_rfl)) (yS Z (zm Z Z) (zN ?_)))))))))))))))))))))));refine zT (zl ?_);refine LW.loopOf (E := fun x : Nat × Int × Int => [(0, .p (.slice 1 (l.map k7))), (2, .ptr 0 0), (3, .ptr 1 0), (4, .fn 102 [] [.ptr 1 0]), (9, .p (.slice 1 (l.map k7))), (10, .p (.int .i64 (l.map k7).length)), (11, .p (.int .i64 (x.1 : Nat)))]) (O := fun x => [.box [(uQ 0), (uQ 0)], .box [(uQ x.2.1), (uQ x.2.2)]]) (G := fun x => x.1 ≤ l.length ∧ x.2 = (l.take x.1).foldl np (1, 2)) (meas := fun x => l.length - x.1) (0, 1, 2) (zW 2 ⟨rfl, rfl, rfl, rfl, rfl, rfl, rfl, trivial⟩ Z Z Z Z) ⟨Nat.zero_le _, rfl⟩ (fun x hx => ?_);refine zQ (zR (yS Z (ax Z Z Z Z) (zN (zT (zQ ?_)))));refine zX Z (fun g1 => ?_) (fun g1 => ?_)
 ·
  refine zk (zT (zQ (zl (zQ ?_))))
  have hlt : x.1 < l.length := by simpa using g1
  obtain ⟨y, hy⟩ := ni hlt;refine zR (yS Z (ab.indexAddr Z Z Z FE (by omega) (tS hy) Z) (yS Z (eA Z Z Z nN Z Z) (yS Z (za Z Z) (zN (zT (zR (yS Z (zm Z Z) (yS Z (zm Z Z) (yS Z (zC Z Z Z (by kernel_rfl) (IQ (id := 1) Z Z)) (zN (ai (zT (zR (yS Z (ab.isEq (y := .p (.int .i64 ((x.1 + 1 : Nat) : Int))) (ax Z Z Z Z) (by rw [cA (by omega) (by omega)]; rfl)) (yS Z (zm Z Z) (zN (zT ?_)))))))))))))))));refine ⟨(x.1 + 1, np x.2 y), ?_, ?_, zW 2 ⟨rfl, rfl, rfl, rfl, rfl, rfl, rfl, trivial⟩ Z Z Z rfl⟩
  ·simp only; omega
  ·refine ⟨hlt, ?_⟩; rw [List.take_add_one, hy, List.foldl_append, ← hx.2]; rfl
 ·
  refine zq (ao (ao (zy (zT (zQ ?_)))))
  have hnlt : ¬ x.1 < l.length := by simpa using g1
  have hend : x.1 = l.length := by omega
  have hfold : x.2 = l.foldl np (1, 2) := by rw [hx.2, hend, List.take_length]
  refine zR (yS Z (zm Z Z) (yS Z (zm Z Z) (yS Z (ab.len Z Z (by kernel_rfl)) (yS Z (ab.convert (k' := .u64) Z Z (by kernel_rfl)) (yS Z (zC Z Z Z (by kernel_rfl) (IQ (id := 1) Z Z)) (zN (zT (zQ (zR (yS Z (zD Z Z Z aR Z Z) (yS Z (zs Z Z Z Z aR Z Z Z Z) (zN (zT (zr (zf (.one (.cellAgg Z Z (by kernel_rfl) Z)) (Conv.pe ?_))))))))))))))));simp only [List.length_map, bF, Dz, ← hfold];rfl
open Go.Proofs
def sO (b : Bk) : List Int := [1, IntKind.u64.wrap b.Slot, IntKind.u64.wrap b.From, b.Parent.1, b.Parent.2, b.Salt]
def nm (b : Bk) : ID := Dz (sO b)
def aQ (l : List ID) (v : ID) : Int := match l.findIdx? (fun x => decide (v = x)) with | some i => (i : Nat) | none => -1
theorem mo {l : List ID} {v : ID} {i : Nat} (h : l[i]? = some v) (hno : ∀ j, j < i → l[j]? ≠ some v) : aQ l v = i := by
 have hi := (List.getElem?_eq_some_iff.1 h).1
 have : l.findIdx? (fun x => decide (v = x)) = some i := by
  rw [List.findIdx?_eq_some_iff_getElem];refine ⟨hi, by simp [(List.getElem?_eq_some_iff.1 h).2], fun j hj => ?_⟩;have := hno j hj;rw [List.getElem?_eq_getElem (by omega)] at this;simpa using fun e => this (by rw [e])
 simp [aQ, this]
theorem ne {l : List ID} {v : ID} (hno : ∀ j, j < l.length → l[j]? ≠ some v) : aQ l v = -1 := by
 have : l.findIdx? (fun x => decide (v = x)) = none := by
  rw [List.findIdx?_eq_none_iff];intro x hx;obtain ⟨j, hj, rfl⟩ := List.mem_iff_getElem.1 hx;have := hno j hj;rw [List.getElem?_eq_getElem hj] at this;simpa using fun e => this (by rw [e])
 simp [aQ, this]
theorem G9 {b : Bk} : aw Tryz.prog 19 [ay b] [bF (nm b)] := by
 refine zh Tryz.func19 Z Z Z Z ?_;refine zQ (zR (yS Z (bZ Z Z Z Z Z) (yS Z (ze Z js Z Z) (zN (zT (zQ (zR (yS Z (zA Z Z kJ) (yS Z (zD Z Z Z bA Z Z) (yS Z (ab.convert (k' := .u64) Z Z (by kernel_rfl)) (yS Z (zA Z Z xc) (yS Z (zD Z Z Z bA Z Z) (yS Z (ab.convert (k' := .u64) Z Z (by kernel_rfl)) (yS Z (zA Z Z mh) (yS Z (ab.indexAddrA Z Z Z As (by decide) (by decide)) (yS Z (zD Z Z Z nN Z Z) (yS Z (zA Z Z mh) (yS Z (ab.indexAddrA Z Z Z As (by decide) (by decide)) (yS Z (zD Z Z Z nN Z Z) (yS Z (zA Z Z HC) (yS Z (zD Z Z Z nN Z Z) (yS Z (mL Z FE Z Z Z Z Z) (yS Z (zC Z Z Z (by kernel_rfl) (zp (Mf (l := sO b)) (.cons zv .nil))) ?_)))))))))))))))))))))));exact yS Z (zs Z Z Z Z aR Z Z Z Z) (zN (zT (zr (zf (.one (.cellAgg Z Z (by kernel_rfl) Z)) zv))))
theorem KW {l : List ID} {v : ID} : aw Tryz.prog 119 [.slice 2 (l.map bF), bF v] [.int .i64 (aQ l v)] := by
 refine zh Tryz.func119 Z Z Z Z ?_;refine zQ ?_;refine LW.ok (t := 0) Z (fun ok => ?_);have hlen := ok.len;simp only [List.length_map, maxLen] at hlen;refine zR (yS Z (bZ Z Z Z Z Z) (yS Z (za Z Z) (zN (zT (zQ (zQ (zR (yS Z (zm Z Z) (yS Z (ab.len Z Z (by kernel_rfl)) (yS Z (zm Z Z) (zN (zT (zl ?_)))))))))))));refine LW.loopOf (E := fun x : Nat => [(0, .p (.slice 2 (l.map bF))), (3, .ptr 0 0), (6, .p (.slice 2 (l.map bF))), (7, .p (.int .i64 (l.map bF).length)), (8, .p (.int .i64 (x : Nat)))]) (O := fun x => [.box [(uQ v.1), (uQ v.2)]]) (G := fun x => x ≤ l.length ∧ ∀ j, j < x → l[j]? ≠ some v) (meas := fun x => l.length - x) 0 (zW 1 ⟨rfl, rfl, rfl, rfl, rfl, trivial⟩ Z Z Z Z) ⟨Nat.zero_le _, fun j hj => absurd hj (by omega)⟩ (fun x hx => ?_);refine zQ (zR (yS Z (ax Z Z Z Z) (zN (zT (zQ ?_)))));refine zX Z (fun g1 => ?_) (fun g1 => ?_)
 ·
  refine zk (zT (zQ (zl (zQ ?_))))
  have hlt : x < l.length := by simpa using g1
  obtain ⟨y, hy⟩ := ni hlt;refine zR (yS Z (zm Z Z) (yS Z (za Z Z) (zN (zT (zQ (LW.draw2 (by kernel_rfl) (by kernel_rfl) (yE Z (zD Z Z Z aR Z Z) (yE Z (zm Z Z) (yE Z (zm Z Z) (yE Z (ab.indexAddr Z Z Z nG (by omega) (tS hy) Z) (yE Z (eA Z Z Z aR Z Z) (yE Z (ab.eqlAgg Z Z Z Z Z vk) (LO.nil (zT ?_))))))))))))));refine zX Z (fun g2 => ?_) (fun g2 => ?_)
  ·
   refine zQ ?_;have he : v = y := of_decide_eq_true ((JM (a := v) (b := y) rfl).symm.trans g2);exact zR (yS Z (zm Z Z) (yS Z (za Z Z) (zN (zT (zr (aD (am (am (aD (am (zf (.one (.tmp Z)) (Conv.pe (by rw [mo (hy.trans (congrArg some he.symm)) hx.2])))))))))))))
  ·
   refine zk (ai (zT ?_));have hne : v ≠ y := of_decide_eq_false ((JM (a := v) (b := y) rfl).symm.trans g2);refine zR (yS Z (ab.isEq (y := .p (.int .i64 ((x + 1 : Nat) : Int))) (ax Z Z Z Z) (by rw [cA (by omega) (by omega)]; rfl)) (yS Z (zm Z Z) (zN (zT ?_))));refine ⟨x + 1, ?_, ?_, zW 1 ⟨rfl, rfl, rfl, rfl, rfl, trivial⟩ Z Z Z rfl⟩
   ·omega
   ·exact ⟨hlt, fun j hj => by rcases Nat.lt_succ_iff_lt_or_eq.1 hj with h | h; exact hx.2 j h; subst h; rw [hy]; exact fun e => hne (zJ e).symm⟩
 ·
  refine zq (ao (ao (zy (zT (zQ ?_)))))
  have hnlt : ¬ x < l.length := by simpa using g1
  have hend : x = l.length := by omega
  exact zR (yS Z (za Z Z) (zN (zT (zr (zf (.one (.tmp Z)) (Conv.pe (by rw [ne fun j hj => hx.2 j (by omega)])))))))
theorem LY {l : List ID} {v : ID} : aw Tryz.prog 65 [.slice 2 (l.map bF), bF v] [.bool (decide (aQ l v ≥ 0))] := by
 refine zh Tryz.func65 Z Z Z Z ?_;exact zQ (zR (yS Z (bZ Z Z Z Z Z) (yS Z (za Z Z) (zN (zT (zQ (zR (yS Z (zm Z Z) (yS Z (zD Z Z Z aR Z Z) (yS Z (zC Z Z Z (by kernel_rfl) (zp KW (.cons zv (.cons zv .nil)))) (yS Z (ax Z Z Z Z) (yS Z (za Z Z) (zN (zT (zr (zf (.one (.tmp Z)) zv))))))))))))))))
open Go.Proofs
def b8 (l : List Bk) (i : Int) : Int := if i = -1 then 0 else match l[i.toNat]? with
 | some b => b.Slot
 | none => 0
abbrev Gm : Int → LV := fun v => (iQ v)
def ej (l : List Bk) : List Bk → Nat → List (ID × Int) → Option (List (ID × Int))
 | [], _, m => some m
 | b :: r, i, m => match af m b.Parent with
  | none => none
  | some p => if b.Slot ≤ b8 l p then none else match af m (nm b) with
   | some _ => none
   | none => ej l r (i + 1) (m ++ [(nm b, (i : Int))])
def places (l : List Bk) : Option (List (ID × Int)) := ej l l 0 [((0, 0), -1)]
theorem eM {l : List Bk} {i : Nat} {y : Bk} (hy : l[i]? = some y) (m : List (ID × Int)) : ej l (l.drop i) i m = match af m y.Parent with
  | none => none
  | some p => if y.Slot ≤ b8 l p then none else match af m (nm y) with
   | some _ => none
   | none => ej l (l.drop (i + 1)) (i + 1) (m ++ [(nm y, (i : Int))]) := by
 obtain ⟨hi, rfl⟩ := List.getElem?_eq_some_iff.1 hy;rw [List.drop_eq_getElem_cons hi];rfl
theorem Lh {l : List Bk} {i : Int} {id : Nat} {H : List aa} (hH : aP H id = some (.box [(kB l)])) (hi : i = -1 ∨ 0 ≤ i ∧ i < l.length) :
  LC Tryz.prog 127 [(iQ i), .ptr id 0] H (Is (.p (.int .i64 (b8 l i))) H) := by
 refine dk Tryz.func127 Z Z Z ?_;refine zQ (zR (yS Z (za Z Z) (zN (zT (zQ (zQ (zR (yS Z (zm Z Z) (yS Z (ax Z Z Z Z) (zN (zT ?_)))))))))));refine zX Z (fun g1 => ?_) (fun g1 => ?_)
 ·
  refine zQ ?_
  have he : i = -1 := by simpa using g1
  exact zR (yS Z (za Z Z) (zN (zT (zr (am (ap (.one (.tmp Z)) (⟨by simp [b8, he], rfl⟩)))))))
 ·
  refine zk (zT (zQ ?_))
  have hne : i ≠ -1 := by simpa using g1
  obtain ⟨y, hy⟩ := ni (l := l) (i := i.toNat) (by omega)
  have hiy : (l.map ay)[i.toNat]? = some (ay y) := by simp [hy]
  exact zR (yS Z (zD Z Z hH dC Z Z) (yS Z (zm Z Z) (yS Z (ab.indexAddr Z Z Z en (by omega) hiy Z) (yS Z (ab.fieldAddrC Z Z kJ Z) (yS Z (eA Z Z Z bA Z Z) (yS Z (za Z Z) (zN (zT (zr (ap (.one (.tmp Z)) (⟨by simp [b8, hne, hy], rfl⟩)))))))))))
theorem c94 {l : List Bk} : LC Tryz.prog 75 [(kB l)] [] fun x H =>
  (∃ m, places l = some m ∧ x = .tup [.map 1, (bQ true)] ∧ H = [.box [(kB l)], .map (ah bF Gm m)]) ∨ (places l = none ∧ x = .tup [.nilmap, (bQ false)] ∧ H = []) := by
 refine dk Tryz.func75 Z Z Z ?_;refine zQ ?_;refine LW.ok (t := 0) Z (fun ok => ?_);have hlen := ok.len;simp only [List.length_map, maxLen] at hlen;refine zR (yS Z (bZ Z Z Z Z Z) (yS Z (za Z Z) (yS Z (za Z Z) (zN (zT (zQ (zR (yS Z (ab.makeMap Z Z Z) (yS Z (ab.build Z wZ Z Z Z) (yS Z (ab.setNew (f := bF) (g := Gm) (m := []) (a := (0, 0)) (v := -1) dJ Z (.inr Z) Z Z Z Z Z kq Z) (yS Z (zm Z Z) (yS Z (za Z Z) (zN (zT (zQ (zR (yS Z (ab.makeFunc Z Z Z) (yS Z (za Z Z) (zN (zT (zQ (zQ (zR ?_)))))))))))))))))))))));refine yS Z (zD Z Z Z dC Z Z) (yS Z (ab.len Z Z (by kernel_rfl)) (yS Z (zm Z Z) (zN (zT (zl ?_)))));refine LW.loopOf (E := fun x : Nat × List (ID × Int) => [(1, .ptr 0 0), (4, .map 1), (5, .fn 127 [] [.ptr 0 0]), (17, (kB l)), (18, .p (.int .i64 (l.map ay).length)), (19, .p (.int .i64 (x.1 : Nat)))]) (O := fun x => [.box [(kB l)], .map (ah bF Gm x.2)]) (G := fun x => x.1 ≤ l.length ∧ ej l (l.drop x.1) x.1 x.2 = places l ∧ ∀ k v, af x.2 k = some v → v = -1 ∨ 0 ≤ v ∧ v < l.length) (meas := fun x => l.length - x.1) (0, [((0, 0), -1)]) (zW 2 ⟨rfl, rfl, rfl, rfl, rfl, rfl, trivial⟩ Z Z Z (zL Z (zL (ae (fun _ => rfl) _) Z))) ⟨Nat.zero_le _, rfl, fun k v h => by unfold af af at h; split at h <;> cases h; exact .inl rfl⟩ (fun x hx => ?_);refine zQ (zR (yS Z (ax Z Z Z Z) (zN (zT (zQ ?_)))));refine zX Z (fun g1 => ?_) (fun g1 => ?_)
 ·
  refine zk (zT (zQ (zl (zQ ?_))))
  have hlt : x.1 < l.length := by simpa using g1
  obtain ⟨y, hy⟩ := ni hlt;refine zR (yS Z (zm Z Z) (yS Z (ab.indexAddr Z Z Z en (by omega) (tS hy) Z) (yS Z (eA Z Z Z cO Z Z) (yS Z (ze Z uj Z Z) (yS Z (za Z Z) (yS Z (zs Z Z Z Z cO Z Z Z Z) (zN (zT (zQ (zR (yS Z (zm Z Z) (yS Z (zA Z Z mh) (yS Z (zD Z Z Z aR Z Z) ?_)))))))))))));rcases hp : af x.2 y.Parent with _ | p
  ·
   refine yS Z ((ab.getMiss dJ hp Z Z Z Z kq FM Z)) (yS Z (zm Z Z) (yS Z (eZ Z Z Z) (yS Z (eZ Z Z Z) (yS Z (za Z Z) (yS Z (za Z Z) (zN (zT (zQ (zQ (LW.draw2 (by kernel_rfl) (by kernel_rfl) (yE Z (zm Z Z) (yE Z (ab.not Z Z) (yE Z (zm Z Z) (LO.sk Z Z Z Z Z Z (LO.sk Z Z Z Z Z Z (LO.sk Z Z Z Z Z Z (LO.sk Z Z Z Z Z Z (LO.sk Z Z Z Z Z Z (LO.sk Z Z Z Z Z Z (yE Z (eo Z Z Z) (LO.nil (zT (LW.condT Z ?_)))))))))))))))))))))));refine zQ (zR (yS Z (za Z Z) (yS Z (za Z Z) (zN (zT (zr (am (aD (am (am (aD (am ?_))))))))))));refine a8 (env' := [(2, .nilmap), (3, (bQ false))]) (H' := []) (zW 0 ⟨rfl, rfl, trivial⟩ Z Z Z Z) (.two (.tmp Z) (.tmp Z)) (.inr ⟨?_, rfl, rfl⟩);rw [← hx.2.1, eM hy]
   first | (simp only [hp]; done) | (simp only [hp]; rw [if_pos (of_decide_eq_true g2)]; done) | (simp only [hp, hq]; split <;> rfl)
  ·
   refine yS Z ((ab.getHit dJ hp Z Z Z Z kq Z)) (yS Z (zm Z Z) (yS Z (eZ Z Z Z) (yS Z (eZ Z Z Z) (yS Z (za Z Z) (yS Z (za Z Z) (zN (zT (zQ (zQ (LW.draw2 (by kernel_rfl) (by kernel_rfl) (yE Z (zm Z Z) (yE Z (ab.not Z Z) (yE Z (zm Z Z) (LO.gd Z Z Z Z Z (zA Z Z kJ) (LO.gd Z Z Z Z Z (zD Z Z Z bA Z Z) (LO.gd Z Z Z Z Z (zm Z Z) (LO.gd Z Z Z Z Z (zm Z Z) (LO.gd Z Z Z Z Z (zC Z Z Z (by kernel_rfl) (Lh (id := 0) Z (hx.2.2 _ _ hp))) (LO.gd Z Z Z Z Z (ax Z Z Z Z) (yE Z (dc Z Z Z) (LO.nil (zT ?_))))))))))))))))))))));refine zX Z (fun g2 => ?_) (fun g2 => ?_)
   ·
    refine zQ (zR (yS Z (za Z Z) (yS Z (za Z Z) (zN (zT (zr (am (aD (am (am (aD (am ?_))))))))))));refine a8 (env' := [(2, .nilmap), (3, (bQ false))]) (H' := []) (zW 0 ⟨rfl, rfl, trivial⟩ Z Z Z Z) (.two (.tmp Z) (.tmp Z)) (.inr ⟨?_, rfl, rfl⟩);rw [← hx.2.1, eM hy]
    first | (simp only [hp]; done) | (simp only [hp]; rw [if_pos (of_decide_eq_true g2)]; done) | (simp only [hp, hq]; split <;> rfl)
   ·
    refine zk (zT (zQ (zR (yS Z (zD Z Z Z cO Z Z) (yS Z (zC Z Z Z (by kernel_rfl) (zp (G9 (b := y)) (.cons zv .nil))) (yS Z (ze Z js Z Z) (yS Z (zs Z Z Z Z aR Z Z Z Z) (zN (zT (zQ (zQ (zR (yS Z (zm Z Z) (yS Z (zD Z Z Z aR Z Z) ?_))))))))))))));rcases hq : af x.2 (nm y) with _ | q
    ·
     refine yS Z ((ab.getMiss dJ hq Z Z Z Z kq FM Z)) (yS Z (zm Z Z) (yS Z (eZ Z Z Z) (yS Z (eZ Z Z Z) (yS Z (za Z Z) (yS Z (za Z Z) (zN (zT (zQ (zR (yS Z (zm Z Z) (zN (zT (LW.condF Z (zk (zT (zR (yS Z (zm Z Z) (yS Z (zD Z Z Z aR Z Z) (yS Z (zm Z Z) (yS Z (ab.setNew (f := bF) (g := Gm) (m := x.2) (a := nm y) (v := ((x.1 : Nat) : Int)) dJ hq (.inl Z) Z Z Z Z Z kq Z) (zN (ai (zT ?_)))))))))))))))))))))));refine zR (yS Z (ab.isEq (y := .p (.int .i64 ((x.1 + 1 : Nat) : Int))) (ax Z Z Z Z) (by rw [cA (by omega) (by omega)]; rfl)) (yS Z (zm Z Z) (zN (zT ?_))));refine ⟨(x.1 + 1, x.2 ++ [(nm y, ((x.1 : Nat) : Int))]), ?_, ?_, zW 2 ⟨rfl, rfl, rfl, rfl, rfl, rfl, trivial⟩ Z Z Z (zL Z (zL (ae (fun _ => rfl) _) Z))⟩
     ·simp only; omega
     ·refine ⟨hlt, ?_, fun k v h => ?_⟩
      ·rw [← hx.2.1, eM hy]; simp only [hp, hq]; rw [if_neg (of_decide_eq_false g2)]
      ·rw [eX] at h;rcases hk : af x.2 k with _ | u
       ·rw [hk] at h; simp only [Option.none_or] at h; split at h <;> cases h; omega
       ·rw [hk] at h; cases h; exact hx.2.2 k _ hk
    ·
     refine yS Z ((ab.getHit dJ hq Z Z Z Z kq Z)) (yS Z (zm Z Z) (yS Z (eZ Z Z Z) (yS Z (eZ Z Z Z) (yS Z (za Z Z) (yS Z (za Z Z) (zN (zT (zQ (zR (yS Z (zm Z Z) (zN (zT (LW.condT Z (zQ (zR (yS Z (za Z Z) (yS Z (za Z Z) (zN (zT (zr (am (aD (am ?_)))))))))))))))))))))));refine am (aD (am ?_));refine a8 (env' := [(2, .nilmap), (3, (bQ false))]) (H' := []) (zW 0 ⟨rfl, rfl, trivial⟩ Z Z Z Z) (.two (.tmp Z) (.tmp Z)) (.inr ⟨?_, rfl, rfl⟩);rw [← hx.2.1, eM hy]
     first | (simp only [hp]; done) | (simp only [hp]; rw [if_pos (of_decide_eq_true g2)]; done) | (simp only [hp, hq]; split <;> rfl)
 ·
  refine zq (ao (ao (zy (zT (zQ ?_)))))
  have hnlt : ¬ x.1 < l.length := by simpa using g1
  have hend : x.1 = l.length := by omega
  refine zR (yS Z (zm Z Z) (yS Z (za Z Z) (yS Z (za Z Z) (zN (zT (zr ?_))))));refine a8 (env' := [(2, .map 1), (3, (bQ true))]) (H' := [.box [(kB l)], .map (ah bF Gm x.2)]) (zW 2 ⟨rfl, rfl, trivial⟩ Z Z Z (zL Z (zL (ae (fun _ => rfl) _) Z))) (.two (.tmp Z) (.tmp Z)) (.inl ⟨x.2, ?_, rfl, rfl⟩);rw [← hx.2.1, hend, List.drop_length]; rfl
structure Am (l : List Bk) (m : List (ID × Int)) (n : Nat) : Prop where
 zero : af m (0, 0) = some (-1)
 known : ∀ k i, af m k = some i → (i = -1 ∧ k = (0, 0)) ∨ ∃ b p, 0 ≤ i ∧ i < n ∧ l[i.toNat]? = some b ∧ nm b = k ∧ af m b.Parent = some p ∧ p < i ∧ -1 ≤ p ∧ b8 l p < b.Slot
 names : ∀ i b, i < n → l[i]? = some b → af m (nm b) = some (i : Int)
theorem Am.step {l : List Bk} {m : List (ID × Int)} {n : Nat} {y : Bk} {p : Int} (h : Am l m n) (hy : l[n]? = some y) (hp : af m y.Parent = some p) (hs : ¬ y.Slot ≤ b8 l p) (hq : af m (nm y) = none) :
  Am l (m ++ [(nm y, (n : Int))]) (n + 1) := by
 have old : ∀ k i, af m k = some i → af (m ++ [(nm y, (n : Int))]) k = some i := fun k i hk => by rw [eX, hk]; rfl
 refine ⟨old _ _ h.zero, fun k i hk => ?_, fun i b hi hb => ?_⟩
 ·rw [eX] at hk;rcases hm : af m k with _ | j
  ·rw [hm] at hk;simp only [Option.none_or] at hk;split at hk
   ·rename_i e;cases hk;right;refine ⟨y, p, by omega, by omega, by simpa using hy, e, old _ _ hp, ?_, ?_, by omega⟩
    ·rcases h.known _ _ hp with ⟨h1, -⟩ | ⟨b, q, h1, h2, -⟩ <;> omega
    ·rcases h.known _ _ hp with ⟨h1, -⟩ | ⟨b, q, h1, h2, -⟩ <;> omega
   ·cases hk
  ·rw [hm] at hk;cases hk;rcases h.known _ _ hm with h1 | ⟨b, q, h1, h2, h3, h4, h5, h6, h7, h8⟩
   ·exact .inl h1
   ·exact .inr ⟨b, q, h1, by omega, h3, h4, old _ _ h5, h6, h7, h8⟩
 ·rcases Nat.lt_succ_iff_lt_or_eq.1 hi with hi | hi
  ·exact old _ _ (h.names i b hi hb)
  ·subst hi;rw [hy] at hb; cases hb;rw [eX, hq]; simp
theorem nt {l : List Bk} : ∀ (r : List Bk) (i : Nat) (m m' : List (ID × Int)), r = l.drop i → i ≤ l.length → Am l m i → ej l r i m = some m' → Am l m' l.length
 | [], i, m, m', hr, hi, h, hg => by
  cases hg
  have : l.length ≤ i := by
   have := congrArg List.length hr;simp at this; omega
  rw [show l.length = i by omega]; exact h
 | y :: r, i, m, m', hr, hi, h, hg => by
  have hil : i < l.length := by
   have := congrArg List.length hr;simp at this; omega
  have hd := List.drop_eq_getElem_cons hil;rw [hd, List.cons.injEq] at hr;obtain ⟨rfl, rfl⟩ := hr;unfold ej at hg;split at hg
  ·cases hg
  ·rename_i p hp;split at hg
   ·cases hg
   ·rename_i hs;split at hg
    ·cases hg
    ·rename_i hq;exact nt _ (i + 1) _ m' Z (by omega) (h.step (List.getElem?_eq_getElem hil) hp hs hq) hg
theorem wi {l : List Bk} : ∀ (k : ID) (i : Int), af [(((0, 0) : ID), (-1 : Int))] k = some i → (i = -1 ∧ k = (0, 0)) ∨ ∃ b p, 0 ≤ i ∧ i < (0 : Nat) ∧ l[i.toNat]? = some b ∧ nm b = k ∧ af [(((0, 0) : ID), (-1 : Int))] b.Parent = some p ∧ p < i ∧ -1 ≤ p ∧ b8 l p < b.Slot := by
 intro k i hk;unfold af af at hk;split at hk
 ·rename_i e; cases hk; exact .inl ⟨rfl, e.symm⟩
 ·cases hk
theorem aG {l : List Bk} {m : List (ID × Int)} (h : places l = some m) : Am l m l.length :=
 nt l 0 _ m rfl (Nat.zero_le _) ⟨rfl, wi, fun i b hi => by omega⟩ h
def bG (l : List Bk) : Nat → ID → Int → List ID
 | 0, id, _ => [id]
 | n + 1, id, i => if i = -1 then [id] else match l[i.toNat]? with
  | none => [id]
  | some b => match places l with
   | none => [id]
   | some m => match af m b.Parent with
    | none => [id]
    | some p => id :: bG l n b.Parent p
def aq (l : List Bk) (id : ID) : List ID := match places l with
 | none => []
 | some m => match af m id with
  | none => []
  | some i => bG l (i + 1).toNat id i
theorem vc {l : List Bk} {m : List (ID × Int)} (hpl : places l = some m) : ∀ (n : Nat) (k : Nat) (id : ID) (i : Int), i + 1 ≤ n → n ≤ k → af m id = some i → bG l k id i = bG l n id i := by
 intro n
 induction n with
 | zero =>
  intro k id i hi hk hf
  have : i = -1 := by
   rcases (aG hpl).known _ _ hf with ⟨h, -⟩ | ⟨_, _, h, -⟩ <;> omega
  cases k with
  | zero => rfl
  | succ k => simp [bG, this]
 | succ n ih =>
  intro k id i hi hk hf;obtain ⟨k, rfl⟩ : ∃ j, k = j + 1 := ⟨k - 1, by omega⟩;rcases (aG hpl).known _ _ hf with ⟨h, -⟩ | ⟨b, p, h0, h1, h2, h3, h4, h5, h6, h7⟩
  ·simp [bG, h]
  ·simp only [bG, if_neg (show i ≠ -1 by omega), h2, hpl, h4];rw [ih k b.Parent p (by omega) (by omega) h4]
theorem fG {l : List Bk} {m : List (ID × Int)} {id : ID} {i p : Int} {b : Bk} (hpl : places l = some m) (hne : i ≠ -1) (h0 : 0 ≤ i) (hb : l[i.toNat]? = some b) (hp : af m b.Parent = some p) (hpi : p < i) (hp1 : -1 ≤ p) :
  bG l (i + 1).toNat id i = id :: bG l (p + 1).toNat b.Parent p := by
 obtain ⟨n, hn⟩ : ∃ n, (i + 1).toNat = n + 1 := ⟨i.toNat, by omega⟩;rw [hn];simp only [bG, if_neg hne, hb, hpl, hp];rw [vc hpl (p + 1).toNat n b.Parent p (by omega) (by omega) hp]
theorem vU {α : Type} {f : α → PV} {l : List α} {i : Int} {a : α} (h : l[i.toNat]? = some a) : (l.map f)[i.toNat]? = some (f a) := by
 simp [h]
theorem Conv.zs' {H : List aa} {m : Nat} {xs : List PV} (h : xs = []) : Conv true H .zs (.slice m xs) := by subst h; exact Conv.zs
theorem Conv.vecAll' {H : List aa} {m id n len : Nat} {xs ys : List PV} (hH : H[id]? = some (.vec m xs)) (hn : n = xs.length) (hl : len = xs.length) (h : ys = xs) : Conv true H (.vec m id n 0 len) (.slice m ys) := by
 subst h; exact Conv.vecAll hH hn hl
open Go.Proofs
theorem Ji {l : List Bk} {H : List aa} (h : places l = none) : LC Tryz.prog 75 [(kB l)] H (Is (.tup [.nilmap, (bQ false)]) H) := by
 have h0 : LC Tryz.prog 75 ([PV.slice 5 (l.map ay)].map .p) [] (Is (.tup [.nilmap, (bQ false)]) []) := c94.mono fun x H hx => by
  rcases hx with ⟨m, hm, -⟩ | ⟨-, h1, h2⟩
  ·rw [h] at hm; cases hm
  ·exact ⟨h1, h2⟩
 have := LC.frame (H := H) (d := H.length) h0 (.cons Conv.p .nil) (by rw [Fs]);simpa [LV.shift, LV.shifts] using this
theorem Jj {l : List Bk} {m : List (ID × Int)} {H H1 H2 : List aa} {d : Nat} (h : places l = some m) (hd : cE H = some d) (h1 : ic H (.box [(kB l)]) = some H1) (h2 : ic H1 (.map (ah bF Gm m)) = some H2) :
  LC Tryz.prog 75 [(kB l)] H (Is (.tup [.map (d + 1), (bQ true)]) H2) := by
 have h0 : LC Tryz.prog 75 ([PV.slice 5 (l.map ay)].map .p) [] (Is (.tup [.map 1, (bQ true)]) [.box [(kB l)], .map (ah bF Gm m)]) := c94.mono fun x H hx => by
  rcases hx with ⟨m', hm, h1, h2⟩ | ⟨h1, -⟩
  ·rw [h] at hm; cases hm; exact ⟨h1, h2⟩
  ·rw [h] at h1; cases h1
 have := LC.frame (H := H) (d := d) h0 (.cons Conv.p .nil) hd;have e1 := cV h1;have e2 := cV h2;subst e1; subst e2;simpa [LV.shift, LV.shifts, aa.shift, ah, List.append_assoc, Function.comp_def] using this
theorem Lv {l : List Bk} {id : ID} (hpl : places l = none) : aw Tryz.prog 60 [.slice 5 (l.map ay), bF id] [.slice 2 ((aq l id).map bF)] := by
 refine zh Tryz.func60 Z Z Z Z ?_;refine zQ (zR (yS Z (bZ Z Z Z Z Z) (yS Z (za Z Z) (zN (zT (LW.scope (zQ (zR (yS Z (zm Z Z) (yS Z ((zC Z Z Z (by kernel_rfl) (Ji hpl))) (yS Z (zm Z Z) (yS Z (eZ Z Z Z) (yS Z (eZ Z Z Z) (yS Z (za Z Z) (yS Z (za Z Z) (zN (zT (zQ (zQ (zR (yS Z (zm Z Z) (yS Z (zD Z Z Z aR Z Z) (yS Z ((ab.getNil dJ Z Z Z kq FM Z)) ?_)))))))))))))))))))))));exact yS Z (zm Z Z) (yS Z (eZ Z Z Z) (yS Z (eZ Z Z Z) (yS Z (za Z Z) (yS Z (za Z Z) (zN (zT (zQ (zR (yS Z (zm Z Z) (yS Z (ab.not Z Z) (zN (zT (LW.condT Z (zQ (zR (yS Z (za Z Z) (zN (zT (zr (am (q7 (zf (.one (.tmp Z)) (Conv.zs' (by simp [aq, hpl]))))))))))))))))))))))))
theorem Lw {l : List Bk} {id : ID} {m : List (ID × Int)} (hl : l.length ≤ 1000) (hpl : places l = some m) : aw Tryz.prog 60 [.slice 5 (l.map ay), bF id] [.slice 2 ((aq l id).map bF)] := by
 refine zh Tryz.func60 Z Z Z Z ?_;refine zQ (zR (yS Z (bZ Z Z Z Z Z) (yS Z (za Z Z) (zN (zT ?_)))));refine LW.jumpsOf (l := 0) (E := fun x : List ID × ID × Int => [(0, (kB l)), (3, .ptr 0 0), (5, .map 2), (9, .vec 2 3 (x.1.map bF).length 0 (x.1.map bF).length)]) (O := fun x => [.box [(uQ x.2.1.1), (uQ x.2.1.2)], .box [(kB l)], .map (ah bF Gm m), .vec 2 (x.1.map bF)]) (G := fun x => af m x.2.1 = some x.2.2 ∧ x.1.length + (x.2.2 + 1).toNat ≤ 1001 ∧ aq l id = x.1 ++ bG l (x.2.2 + 1).toNat x.2.1 x.2.2) (meas := fun x => (x.2.2 + 1).toNat) Z ?_ (fun x hx => ?_)
 ·
  refine zQ (zR (yS Z (zm Z Z) (yS Z ((zC Z Z Z (by kernel_rfl) (Jj hpl Z Z Z))) (yS Z (zm Z Z) (yS Z (eZ Z Z Z) (yS Z (eZ Z Z Z) (yS Z (za Z Z) (yS Z (za Z Z) (zN (zT (zQ (zQ (zR (yS Z (zm Z Z) (yS Z (zD Z Z Z aR Z Z) ?_)))))))))))))));rcases hf : af m id with _ | i
  ·
   refine yS Z ((ab.getMiss dJ hf Z Z Z Z kq FM Z)) (yS Z (zm Z Z) (yS Z (eZ Z Z Z) (yS Z (eZ Z Z Z) (yS Z (za Z Z) (yS Z (za Z Z) (zN (zT (zQ (zR (yS Z (zm Z Z) (yS Z (ab.not Z Z) (zN (zT (LW.condT Z (zQ (zR (yS Z (za Z Z) (zN (zT (zr (am (vM (zf (.one (.tmp Z)) ?_)))))))))))))))))))))));refine Conv.zs' ?_;simp [aq, hpl, hf]
  ·
   refine yS Z ((ab.getHit dJ hf Z Z Z Z kq Z)) (yS Z (zm Z Z) (yS Z (eZ Z Z Z) (yS Z (eZ Z Z Z) (yS Z (za Z Z) (yS Z (za Z Z) (zN (zT (zQ (zR (yS Z (zm Z Z) (yS Z (ab.not Z Z) (zN (zT (LW.condF Z (zk (zT (zQ (zR (yS Z (za Z Z) (zN (zT (zQ (LW.label ?_)))))))))))))))))))))));refine zT (zQ (zR (yS Z (zm Z Z) (yS Z (zD Z Z Z aR Z Z) (yS Z (mL Z nG Z Z Z Z Z) (yS Z (ab.appendZ Z Z Z Z km.p nG (by simp only [List.length_singleton]; omega) Z) (yS Z (za Z Z) (zN (zT (zQ (zQ (zR (yS Z (zm Z Z) (yS Z (zD Z Z Z aR Z Z) (yS Z ((ab.getHit dJ hf Z Z Z Z kq Z)) (yS Z (za Z Z) (zN (zT (zQ (zR (yS Z (zm Z Z) (yS Z (ax Z Z Z Z) (zN ?_)))))))))))))))))))))));refine zT ?_;refine zX Z (fun g1 => ?_) (fun g1 => ?_)
   ·
    refine zQ ?_
    have hne : i ≠ -1 := by simpa using g1
    obtain ⟨h1, -⟩ | ⟨b, p, h0, hlt, hb, hnb, hp, hpi, hp1, hs⟩ := (aG hpl).known _ _ hf
    ·exact absurd h1 hne
    have hc : aq l id = id :: bG l (p + 1).toNat b.Parent p := by
     simp only [aq, hpl, hf];exact fG hpl hne h0 hb hp hpi hp1
    refine zR (yS Z (zm Z Z) (yS Z (zm Z Z) (yS Z (ab.indexAddr Z Z Z en (by omega) (vU hb) Z) (yS Z (ab.fieldAddrC Z Z mh Z) (yS Z (eA Z Z Z aR Z Z) (yS Z (zs Z Z Z Z aR Z Z Z Z) (zN (zT (LW.goto (Gu (Dn ?_)))))))))));refine ⟨([id], b.Parent, p), ?_, zW 4 ⟨rfl, rfl, rfl, rfl, trivial⟩ Z Z Z (zL Z (zL Z (zL (ae (fun _ => rfl) _) Z)))⟩
    ·exact ⟨hp, by simp only [List.length_singleton]; omega, hc⟩
   ·
    refine zk (zT (zQ ?_))
    have hend : i = -1 := by simpa using g1
    refine zR (yS Z (zm Z Z) (yS Z (za Z Z) (zN (zT (zr (vM (zf (.one (.tmp Z)) (Conv.vecAll' Z Z Z ?_))))))));rw [show aq l id = [id] by simp only [aq, hpl, hf, hend]; rfl]; rfl
 ·
  refine zQ (zk (zT (zQ (zR (yS Z (zm Z Z) (yS Z (zD Z Z Z aR Z Z) (yS Z (mL Z nG Z Z Z Z Z) (yS Z (ab.appendM (f := bF) (xs := x.1) (ys := [x.2.1]) Z Z Z Z Z nG (by simp only [List.length_singleton]; omega) Z) (yS Z (za Z Z) (zN (zT (zQ (zQ (zR (yS Z (zm Z Z) (yS Z (zD Z Z Z aR Z Z) (yS Z ((ab.getHit dJ hx.1 Z Z Z Z kq Z)) (yS Z (za Z Z) (zN (zT (zQ (zR (yS Z (zm Z Z) ?_)))))))))))))))))))))));refine yS Z (ax Z Z Z Z) (zN (zT ?_));refine zX Z (fun g2 => ?_) (fun g2 => ?_)
  ·
   refine zQ ?_
   have hne : x.2.2 ≠ -1 := by simpa using g2
   obtain ⟨h1, -⟩ | ⟨b, p, h0, hlt, hb, hnb, hp, hpi, hp1, hs⟩ := (aG hpl).known _ _ hx.1
   ·exact absurd h1 hne
   have hc := fG (id := x.2.1) hpl hne h0 hb hp hpi hp1;refine zR (yS Z (zm Z Z) (yS Z (zm Z Z) (yS Z (ab.indexAddr Z Z Z en (by omega) (vU hb) Z) (yS Z (ab.fieldAddrC Z Z mh Z) (yS Z (eA Z Z Z aR Z Z) (yS Z (zs Z Z Z Z aR Z Z Z Z) (zN (zT (LW.goto (Gu (Dn ?_)))))))))));refine ⟨(x.1 ++ [x.2.1], b.Parent, p), ?_, ?_, zW 4 ⟨rfl, rfl, rfl, rfl, trivial⟩ Z Z Z (zL Z (zL Z (zL (ae (fun _ => rfl) _) Z)))⟩
   ·simp only; omega
   ·refine ⟨hp, ?_, ?_⟩
    ·have := hx.2.1; simp only [List.length_append, List.length_singleton]; omega
    ·rw [hx.2.2, hc, List.append_assoc]; rfl
  ·
   refine zk (zT (zQ ?_))
   have hend : x.2.2 = -1 := by simpa using g2
   refine zR (yS Z (zm Z Z) (yS Z (za Z Z) (zN (zT (zr (vM (zf (.one (.tmp Z)) (Conv.vecAll' Z Z Z ?_))))))));rw [hx.2.2, hend]; rfl
theorem KS {l : List Bk} {id : ID} (hl : l.length ≤ 1000) : aw Tryz.prog 60 [.slice 5 (l.map ay), bF id] [.slice 2 ((aq l id).map bF)] := by
 rcases hpl : places l with _ | m
 ·exact Lv hpl
 ·exact Lw hl hpl
theorem L6 {l : List Bk} {a b : ID} (hl : l.length ≤ 1000) : aw Tryz.prog 28 [.slice 5 (l.map ay), bF a, bF b] [.bool (decide (aQ (aq l b) a ≥ 0))] := by
 refine zh Tryz.func28 Z Z Z Z ?_;exact zQ (zR (yS Z (bZ Z Z Z Z Z) (yS Z (bZ Z Z Z Z Z) (yS Z (za Z Z) (zN (zT (zQ (LW.draw2 (by kernel_rfl) (by kernel_rfl) (yE Z (zm Z Z) (yE Z (zD Z Z Z aR Z Z) (yE Z (zC Z Z Z (by kernel_rfl) (zp (KS hl) (.cons zv (.cons zv .nil)))) (yE Z (zD Z Z Z aR Z Z) (yE Z (zC Z Z Z (by kernel_rfl) (zp LY (.cons zv (.cons zv .nil)))) (yE Z (za Z Z) (LO.nil (zT (zr (zf (.one (.tmp Z)) zv))))))))))))))))))
open Go.Proofs
def eC (c : Cu) (l : List Bk) (head found : ID) (is : Bool) (slot : Int) : Cu :=
 let c' : Cu := if aQ (aq l head) c.ID < 0 then ⟨(0, 0), slot, IntKind.i64.wrap (c.Revoked + 1)⟩ else c
 let at_ : Int := if aQ (aq l head) c.ID < 0 then IntKind.i64.wrap ((aq l head).length - 1) else aQ (aq l head) c.ID
 if is = true ∧ aQ (aq l head) found ≥ 0 ∧ aQ (aq l head) found < at_ then ⟨found, slot, c'.Revoked⟩ else c'
theorem L5 {c : Cu} {l : List Bk} {head found : ID} {is : Bool} {slot : Int} (hl : l.length ≤ 1000) : aw Tryz.prog 140 [rL c, .slice 5 (l.map ay), bF head, bF found, .bool is, .int .i64 slot] [rL (eC c l head found is slot)] := by
 refine zh Tryz.func140 Z Z Z Z ?_;refine LW.seq (LW.region (an.st Z Z Z (ab.box Z Z Z Z Z) (an.st Z Z Z (ab.box Z Z Z Z Z) (an.st Z Z Z (ab.box Z Z Z Z Z) (an.st Z Z Z (ab.alloc Z LN Z Z) (an.nil (br (LW.seq (LW.region (an.st Z Z Z (ab.move Z Z) (an.st Z Z Z (ab.load Z Z Z aR Z Z) (an.st Z Z Z (ab.call Z Z Z (by kernel_rfl) (LC.pure (KS hl) (.cons Conv.p (.cons Conv.p .nil)))) (an.st Z Z Z (ab.assign Z Z) (an.nil (br (LW.seq (LW.region (an.st Z Z Z (ab.move Z Z) (an.st Z Z Z (ab.fieldAddr Z Z tK) (an.st Z Z Z (ab.load Z Z Z aR Z Z) (an.st Z Z Z (ab.call Z Z Z (by kernel_rfl) (LC.pure KW (.cons Conv.p (.cons Conv.p .nil)))) (an.st Z Z Z (ab.assign Z Z) (an.nil ?_)))))))))))))))))))))));refine br (LW.seq (LW.block (LW.seq (LW.block (LW.seq (LW.block (LW.seq (LW.seq (LW.region (an.st Z Z Z (ab.move Z Z) (an.st Z Z Z (ab.bin Z Z Z Z) (an.st Z Z Z (ab.assign Z Z) (an.nil (br ?_))))))))))))));refine LW.cond Z (fun g1 => ?_) (fun g1 => ?_)
 ·
  refine LW.exit (ao (mn (br (LW.seq (LW.region (an.st Z Z Z (ab.move Z Z) (an.st Z Z Z (ab.fieldAddr Z Z HB) (an.st Z Z Z (ab.load Z Z Z bA Z Z) (an.st Z Z Z (ab.bin Z Z Z Z) (an.st Z Z Z (ab.build Z K5 Z Z Z) (an.st Z Z Z (ab.store Z Z Z Z j4 Z Z Z Z) (an.nil (br (LW.region (an.st Z Z Z (ab.move Z Z) (an.st Z Z Z (ab.len Z Z (by kernel_rfl)) (an.st Z Z Z (ab.bin Z Z Z Z) (an.st Z Z Z (ab.assign Z Z) (an.nil (ai (br (LW.seq (LW.seq ?_)))))))))))))))))))))));refine LW.region (an.st Z Z Z (ab.move Z Z) (an.st Z Z Z (ab.load Z Z Z aR Z Z) (an.st Z Z Z (ab.call Z Z Z (by kernel_rfl) (LC.pure KW (.cons Conv.p (.cons Conv.p .nil)))) (an.st Z Z Z (ab.assign Z Z) (an.nil (br (LW.seq (LW.region (an.st Z Z Z (ab.move Z Z) (an.st Z Z Z (ab.move Z Z) ?_))))))))));refine zc 38 Z (fun g2 => ?_) (fun g2 => ?_)
  ·
   refine an.gd Z Z Z (gd g2 Z) Z (ab.move Z Z) (an.gd Z Z Z (gd g2 Z) Z (ab.bin Z Z Z Z) (an.st Z Z Z (ab.pickT Z (bI g2 Z) Z) (an.st Z Z Z (ab.move Z Z) ?_)));refine zc 42 Z (fun g3 => ?_) (fun g3 => ?_)
   ·
    refine an.gd Z Z Z (gd g3 Z) Z (ab.move Z Z) (an.gd Z Z Z (gd g3 Z) Z (ab.move Z Z) (an.gd Z Z Z (gd g3 Z) Z (ab.bin Z Z Z Z) (an.st Z Z Z (ab.pickT Z (bI g3 Z) Z) (an.nil (br ?_)))));refine LW.cond Z (fun g4 => ?_) (fun g4 => ?_)
    ·
     refine LW.region (an.st Z Z Z (ab.load Z Z Z aR Z Z) (an.st Z Z Z (zm Z Z) (an.st Z Z Z (ab.fieldAddr Z Z tK) (an.st Z Z Z (zs Z Z Z Z aR Z Z Z Z) (an.st Z Z Z (ab.fieldAddr Z Z Da) (an.st Z Z Z (zs Z Z Z Z bA Z Z Z Z) (an.nil (br (zq (zy (br (LW.seq (LW.region (an.st Z Z Z (ab.load Z Z Z j4 Z Z) (an.st Z Z Z (zs Z Z Z Z j4 Z Z Z Z) (an.nil (br (zr (zf (.one (.cellAgg Z Z (by kernel_rfl) Z)) (Conv.pe ?_))))))))))))))))))));simp only [decide_eq_true_eq, List.length_map] at g1 g2 g3 g4;simp only [eC, rL]
     (repeat' split) <;> first | rfl | (exfalso; simp_all; done) | (exfalso; simp_all; omega)
    ·
     refine zk (br (zq (zy (br (LW.seq (LW.region (an.st Z Z Z (ab.load Z Z Z j4 Z Z) (an.st Z Z Z (zs Z Z Z Z j4 Z Z Z Z) (an.nil (br (zr (zf (.one (.cellAgg Z Z (by kernel_rfl) Z)) (Conv.pe ?_)))))))))))));simp only [decide_eq_true_eq, decide_eq_false_iff_not, List.length_map] at g1 g2 g3 g4;simp only [eC, rL]
     (repeat' split) <;> first | rfl | (exfalso; simp_all; done) | (exfalso; simp_all; omega)
   ·
    refine an.sk Z Z Z (gd g3 Z) Z Z (an.sk Z Z Z (gd g3 Z) Z Z (an.sk Z Z Z (gd g3 Z) Z Z (an.st Z Z Z (dc Z (bI g3 Z) Z) (an.nil (br (LW.condF Z (zk (br (zq (zy (br (LW.seq (LW.region (an.st Z Z Z (ab.load Z Z Z j4 Z Z) (an.st Z Z Z (zs Z Z Z Z j4 Z Z Z Z) (an.nil (br (zr (zf (.one (.cellAgg Z Z (by kernel_rfl) Z)) (Conv.pe ?_))))))))))))))))))));simp only [decide_eq_true_eq, decide_eq_false_iff_not] at g1 g2 g3;simp only [eC, rL]
    (repeat' split) <;> first | rfl | (exfalso; simp_all; done) | (exfalso; simp_all; omega)
  ·
   refine an.sk Z Z Z (gd g2 Z) Z Z (an.sk Z Z Z (gd g2 Z) Z Z (an.st Z Z Z (dc Z (bI g2 Z) Z) (an.st Z Z Z (zm Z Z) (an.sk Z Z Z Z Z Z (an.sk Z Z Z Z Z Z (an.sk Z Z Z Z Z Z (an.st Z Z Z (dc Z Z Z) (an.nil (br (LW.condF Z (zk (br (zq (zy (br (LW.seq (LW.region (an.st Z Z Z (ab.load Z Z Z j4 Z Z) (an.st Z Z Z (zs Z Z Z Z j4 Z Z Z Z) (an.nil (br (zr (zf (.one (.cellAgg Z Z (by kernel_rfl) Z)) ?_)))))))))))))))))))))));refine Conv.pe ?_;simp only [decide_eq_true_eq] at g1 g2;simp only [eC, rL]
   (repeat' split) <;> first | rfl | (exfalso; simp_all; done) | (exfalso; simp_all; omega)
 ·
  refine LW.skip (br (LW.exit (kL (by decide) (ao (mn (br (LW.seq (LW.seq (LW.region (an.st Z Z Z (ab.move Z Z) (an.st Z Z Z (ab.load Z Z Z aR Z Z) (an.st Z Z Z (ab.call Z Z Z (by kernel_rfl) (LC.pure KW (.cons Conv.p (.cons Conv.p .nil)))) (an.st Z Z Z (ab.assign Z Z) (an.nil (br (LW.seq (LW.region (an.st Z Z Z (ab.move Z Z) (an.st Z Z Z (ab.move Z Z) ?_)))))))))))))))))));refine zc 38 Z (fun g5 => ?_) (fun g5 => ?_)
  ·
   refine an.gd Z Z Z (gd g5 Z) Z (ab.move Z Z) (an.gd Z Z Z (gd g5 Z) Z (ab.bin Z Z Z Z) (an.st Z Z Z (ab.pickT Z (bI g5 Z) Z) (an.st Z Z Z (ab.move Z Z) ?_)));refine zc 42 Z (fun g6 => ?_) (fun g6 => ?_)
   ·
    refine an.gd Z Z Z (gd g6 Z) Z (ab.move Z Z) (an.gd Z Z Z (gd g6 Z) Z (ab.move Z Z) (an.gd Z Z Z (gd g6 Z) Z (ab.bin Z Z Z Z) (an.st Z Z Z (ab.pickT Z (bI g6 Z) Z) (an.nil (br ?_)))));refine LW.cond Z (fun g7 => ?_) (fun g7 => ?_)
    ·
     refine LW.region (an.st Z Z Z (ab.load Z Z Z aR Z Z) (an.st Z Z Z (zm Z Z) (an.st Z Z Z (ab.fieldAddr Z Z tK) (an.st Z Z Z (zs Z Z Z Z aR Z Z Z Z) (an.st Z Z Z (ab.fieldAddr Z Z Da) (an.st Z Z Z (zs Z Z Z Z bA Z Z Z Z) (an.nil (br (zq (zy (br (LW.seq (LW.region (an.st Z Z Z (ab.load Z Z Z j4 Z Z) (an.st Z Z Z (zs Z Z Z Z j4 Z Z Z Z) (an.nil (br (zr (zf (.one (.cellAgg Z Z (by kernel_rfl) Z)) (Conv.pe ?_))))))))))))))))))));simp only [decide_eq_true_eq, decide_eq_false_iff_not] at g1 g5 g6 g7;simp only [eC, rL]
     (repeat' split) <;> first | rfl | (exfalso; simp_all; done) | (exfalso; simp_all; omega)
    ·
     refine zk (br (zq (zy (br (LW.seq (LW.region (an.st Z Z Z (ab.load Z Z Z j4 Z Z) (an.st Z Z Z (zs Z Z Z Z j4 Z Z Z Z) (an.nil (br (zr (zf (.one (.cellAgg Z Z (by kernel_rfl) Z)) (Conv.pe ?_)))))))))))));simp only [decide_eq_true_eq, decide_eq_false_iff_not] at g1 g5 g6 g7;simp only [eC, rL]
     (repeat' split) <;> first | rfl | (exfalso; simp_all; done) | (exfalso; simp_all; omega)
   ·
    refine an.sk Z Z Z (gd g6 Z) Z Z (an.sk Z Z Z (gd g6 Z) Z Z (an.sk Z Z Z (gd g6 Z) Z Z (an.st Z Z Z (dc Z (bI g6 Z) Z) (an.nil (br (LW.condF Z (zk (br (zq (zy (br (LW.seq (LW.region (an.st Z Z Z (ab.load Z Z Z j4 Z Z) (an.st Z Z Z (zs Z Z Z Z j4 Z Z Z Z) (an.nil (br (zr (zf (.one (.cellAgg Z Z (by kernel_rfl) Z)) (Conv.pe ?_))))))))))))))))))));simp only [decide_eq_false_iff_not] at g1 g5 g6;simp only [eC, rL]
    (repeat' split) <;> first | rfl | (exfalso; simp_all; done) | (exfalso; simp_all; omega)
  ·
   refine an.sk Z Z Z (gd g5 Z) Z Z (an.sk Z Z Z (gd g5 Z) Z Z (an.st Z Z Z (dc Z (bI g5 Z) Z) (an.st Z Z Z (zm Z Z) (an.sk Z Z Z Z Z Z (an.sk Z Z Z Z Z Z (an.sk Z Z Z Z Z Z (an.st Z Z Z (dc Z Z Z) (an.nil (br (LW.condF Z (zk (br (zq (zy (br (LW.seq (LW.region (an.st Z Z Z (ab.load Z Z Z j4 Z Z) (an.st Z Z Z (zs Z Z Z Z j4 Z Z Z Z) (an.nil (br (zr (zf (.one (.cellAgg Z Z (by kernel_rfl) Z)) ?_)))))))))))))))))))))));refine Conv.pe ?_;simp only [decide_eq_false_iff_not] at g1 g5;simp only [eC, rL]
   (repeat' split) <;> first | rfl | (exfalso; simp_all; done) | (exfalso; simp_all; omega)
theorem jL {l : List ID} {v : ID} : aQ l v = -1 ∧ v ∉ l ∨ ∃ i : Nat, aQ l v = i ∧ l[i]? = some v ∧ ∀ j, j < i → l[j]? ≠ some v := by
 unfold aQ
 cases h : l.findIdx? (fun x => decide (v = x)) with
 | none =>
  left;rw [List.findIdx?_eq_none_iff] at h;exact ⟨rfl, fun hm => by simpa using h v hm⟩
 | some i =>
  right;rw [List.findIdx?_eq_some_iff_getElem] at h;obtain ⟨hi, h1, h2⟩ := h;refine ⟨i, rfl, by rw [List.getElem?_eq_getElem hi]; simpa using (of_decide_eq_true h1).symm, fun j hj hc => ?_⟩;have := h2 j hj;rw [List.getElem?_eq_getElem (by omega)] at hc;simp at hc this;exact this hc.symm
theorem kM {l : List ID} {v : ID} : 0 ≤ aQ l v ↔ v ∈ l := by
 rcases jL (l := l) (v := v) with ⟨h1, h2⟩ | ⟨i, h1, h2, h3⟩
 ·rw [h1]; constructor
  ·intro h; omega
  ·intro h; exact absurd h h2
 ·rw [h1]; exact ⟨fun _ => List.mem_of_getElem? h2, fun _ => by omega⟩
section
variable {l : List Bk} {m : List (ID × Int)}
theorem vd (hpl : places l = some m) : ∀ (n : Nat) (id : ID) (i : Int), i + 1 ≤ n → af m id = some i → (0, 0) ∈ bG l n id i := by
 intro n
 induction n with
 | zero =>
  intro id i hi hf;rcases (aG hpl).known _ _ hf with ⟨-, h⟩ | ⟨_, _, h, -⟩
  ·simp [bG, h]
  ·omega
 | succ n ih =>
  intro id i hi hf;rcases (aG hpl).known _ _ hf with ⟨h, h'⟩ | ⟨b, p, h0, h1, h2, h3, h4, h5, h6, h7⟩
  ·simp [bG, h, h']
  ·simp only [bG, if_neg (show i ≠ -1 by omega), h2, hpl, h4];exact List.mem_cons_of_mem _ (ih b.Parent p (by omega) h4)
theorem w5 (n : Nat) : ∀ (id : ID) (i : Int), (bG l n id i).length ≤ n + 1 := by
 induction n with
 | zero => intro id i; simp [bG]
 | succ n ih =>
  intro id i;simp only [bG];split
  ·simp
  ·split
   ·simp
   ·split
    ·simp
    ·split
     ·simp
     ·simp; exact ih _ _
theorem Aw (id : ID) : (aq l id).length ≤ l.length + 1 := by
 unfold aq;split
 ·simp
 ·rename_i m hpl;split
  ·simp
  ·rename_i i hf;have := w5 (l := l) (i + 1).toNat id i;rcases (aG hpl).known _ _ hf with ⟨h, h'⟩ | ⟨b, p, h0, h1, h2, h3, h4, h5, h6, h7⟩
   ·rw [h] at this ⊢; simp at this ⊢; omega
   ·omega
theorem w7 {id : ID} (h : aq l id ≠ []) : (0, 0) ∈ aq l id := by
 unfold aq at h ⊢;split
 ·simp_all
 ·rename_i m hpl;split
  ·simp_all
  ·rename_i i hf;refine vd hpl _ id i ?_ hf;rcases (aG hpl).known _ _ hf with ⟨h, h'⟩ | ⟨b, p, h0, h1, h2, h3, h4, h5, h6, h7⟩ <;> omega
theorem oc (hpl : places l = some m) : ∀ (n : Nat) (id : ID) (i : Int), i + 1 ≤ n → af m id = some i → ∀ (k : Nat) x, (bG l (i + 1).toNat id i)[k]? = some x →
  ∃ j : Int, af m x = some j ∧ j ≤ i ∧ (0 < k → j < i) ∧ bG l (j + 1).toNat x j = (bG l (i + 1).toNat id i).drop k := by
 intro n
 induction n with
 | zero =>
  intro id i hi hf k x hx;rcases (aG hpl).known _ _ hf with ⟨h, h'⟩ | ⟨b, p, h0, h1, h2, h3, h4, h5, h6, h7⟩
  ·subst h
   have hk : k = 0 := by
    have := (List.getElem?_eq_some_iff.1 hx).1;simp [bG] at this; exact this
   subst hk;simp [bG] at hx; subst hx;exact ⟨-1, hf, Int.le_refl _, by omega, rfl⟩
  ·omega
 | succ n ih =>
  intro id i hi hf k x hx;rcases (aG hpl).known _ _ hf with ⟨h, h'⟩ | ⟨b, p, h0, h1, h2, h3, h4, h5, h6, h7⟩
  ·exact ih id i (by omega) hf k x hx
  ·have e := fG (id := id) hpl (by omega) h0 h2 h4 h5 h6;rw [e] at hx
   cases k with
   | zero =>
    simp at hx; subst hx;exact ⟨i, hf, Int.le_refl _, by omega, rfl⟩
   | succ k =>
    simp at hx;obtain ⟨j, g1, g2, g3, g4⟩ := ih b.Parent p (by omega) h4 k x hx;exact ⟨j, g1, by omega, fun _ => by omega, by rw [g4, e]; rfl⟩
theorem CW {id x : ID} {k : Nat} (h : (aq l id)[k]? = some x) : aq l x = (aq l id).drop k := by
 unfold aq at h ⊢
 cases hpl : places l with
 | none => rw [hpl] at h; simp at h
 | some m =>
  rw [hpl] at h;simp only at h ⊢
  cases hf : af m id with
  | none => rw [hf] at h; simp at h
  | some i =>
   rw [hf] at h;simp only at h ⊢;obtain ⟨j, g1, g2, g3, g4⟩ := oc hpl (i + 1).toNat id i (by omega) hf k x h;rw [g1]; exact g4
theorem w6 {id : ID} (h : aq l id ≠ []) : (aq l id)[0]? = some id := by
 unfold aq at h ⊢;split
 ·simp_all
 ·rename_i m hpl;split
  ·simp_all
  ·rename_i i hf;rcases (aG hpl).known _ _ hf with ⟨h, h'⟩ | ⟨b, p, h0, h1, h2, h3, h4, h5, h6, h7⟩
   ·subst h; rfl
   ·rw [fG (id := id) hpl (by omega) h0 h2 h4 h5 h6]; rfl
theorem ve (hpl : places l = some m) {id : ID} {i : Int} (hf : af m id = some i) : ∀ {a b : Nat} {x y : ID}, a < b → (bG l (i + 1).toNat id i)[a]? = some x → (bG l (i + 1).toNat id i)[b]? = some y → x ≠ y := by
 intro a b x y hab ha hb;obtain ⟨j, g1, g2, g3, g4⟩ := oc hpl (i + 1).toNat id i (by omega) hf a x ha
 have hy : (bG l (j + 1).toNat x j)[b - a]? = some y := by
  rw [g4, List.getElem?_drop, show a + (b - a) = b by omega]; exact hb
 obtain ⟨j', g5, g6, g7, -⟩ := oc hpl (j + 1).toNat x j (by omega) g1 (b - a) y hy;intro e;subst e;rw [g1] at g5;cases g5;have := g7 (by omega);omega
theorem Av {id x : ID} {a b : Nat} (ha : (aq l id)[a]? = some x) (hb : (aq l id)[b]? = some x) : a = b := by
 unfold aq at ha hb
 cases hpl : places l with
 | none => rw [hpl] at ha; simp at ha
 | some m =>
  rw [hpl] at ha hb;simp only at ha hb
  cases hf : af m id with
  | none => rw [hf] at ha; simp at ha
  | some i =>
   rw [hf] at ha hb;simp only at ha hb;rcases Nat.lt_trichotomy a b with h | h | h
   ·exact absurd Z (ve hpl hf h ha hb)
   ·exact h
   ·exact absurd Z (ve hpl hf h hb ha)
theorem Ax {id x : ID} (h : x ∈ aq l id) : ∃ k : Nat, (aq l id)[k]? = some x ∧ aQ (aq l id) x = k := by
 rcases jL (l := aq l id) (v := x) with ⟨h1, h2⟩ | ⟨i, h1, h2, h3⟩
 ·exact absurd h h2
 ·exact ⟨i, h2, h1⟩
end
theorem JR {k : IntKind} {p : PV} (h : pF (.int k) p) : ∃ n, p = .int k n ∧ aZ k n := by
 cases h with | int h => exact ⟨_, rfl, h⟩
open Go.Proofs
theorem wc {α : Type} : ∀ {l s : List α} {i : Nat} {y : α}, aW l i y = some s → aP s i = some y
 | x :: r, s, 0, y, h => by cases h; rfl
 | x :: r, s, i + 1, y, h => by
  simp only [aW] at h;split at h
  ·rename_i q hq;cases h;show aP q i = some y;exact wc hq
  ·cases h
 | [], s, 0, y, h => by cases h
 | [], s, i + 1, y, h => by cases h
theorem Kk : (Tryz.f166.name == "runtime.NumGoroutine") = false := by kernel_rfl
theorem Kt : Extern.findNext Tryz.f166 = none := by kernel_rfl
theorem Kc : Extern.find Tryz.f166 = some (Extern.Atomic.loadT (.int .i64)) := by kernel_rfl
theorem Kl : (Tryz.f201.name == "runtime.NumGoroutine") = false := by kernel_rfl
theorem Ku : Extern.findNext Tryz.f201 = none := by kernel_rfl
theorem Kd : Extern.find Tryz.f201 = some (Extern.Atomic.update (Op.intArith .add) .i64 true) := by kernel_rfl
theorem Km : (Tryz.f212.name == "runtime.NumGoroutine") = false := by kernel_rfl
theorem Kv : Extern.findNext Tryz.f212 = none := by kernel_rfl
theorem Ke : Extern.find Tryz.f212 = some (Extern.Atomic.loadT (.int .u32)) := by kernel_rfl
theorem Ko : (Tryz.f223.name == "runtime.NumGoroutine") = false := by kernel_rfl
theorem Kw : Extern.findNext Tryz.f223 = none := by kernel_rfl
theorem Kf : Extern.find Tryz.f223 = some (Extern.Atomic.storeT) := by kernel_rfl
theorem GA : (Tryz.f226.name == "runtime.NumGoroutine") = false := by kernel_rfl
theorem GC : Extern.findNext Tryz.f226 = none := by kernel_rfl
theorem Gy : Extern.find Tryz.f226 = some (fun _ => do mark .disable; pure Extern.Race.none_) := by kernel_rfl
theorem Kp : (Tryz.f227.name == "runtime.NumGoroutine") = false := by kernel_rfl
theorem Kx : Extern.findNext Tryz.f227 = none := by kernel_rfl
theorem Kg : Extern.find Tryz.f227 = some (Extern.Atomic.casT (.int .i32)) := by kernel_rfl
theorem GB : (Tryz.f228.name == "runtime.NumGoroutine") = false := by kernel_rfl
theorem GD : Extern.findNext Tryz.f228 = none := by kernel_rfl
theorem Gz : Extern.find Tryz.f228 = some (fun _ => do mark .enable; pure Extern.Race.none_) := by kernel_rfl
theorem Kq : (Tryz.f229.name == "runtime.NumGoroutine") = false := by kernel_rfl
theorem Ky : Extern.findNext Tryz.f229 = none := by kernel_rfl
theorem Kh : Extern.find Tryz.f229 = some (Extern.Race.marked .acquire) := by kernel_rfl
theorem Kr : (Tryz.f231.name == "runtime.NumGoroutine") = false := by kernel_rfl
theorem Kz : Extern.findNext Tryz.f231 = none := by kernel_rfl
theorem Ki : Extern.find Tryz.f231 = some (Extern.Race.marked .releaseMerge) := by kernel_rfl
theorem Ks : (Tryz.f232.name == "runtime.NumGoroutine") = false := by kernel_rfl
theorem KA : Extern.findNext Tryz.f232 = none := by kernel_rfl
theorem Kj : Extern.find Tryz.f232 = some (Extern.Atomic.update (Op.intArith .add) .i32 true) := by kernel_rfl
theorem Gs : tW Tryz.prog 291 295 = true := by kernel_rfl
theorem G7 {off : Nat} {n : Int} {cs : List LV} {H : List aa} (hH : aP H 0 = some (.box cs)) (h0 : aP cs (off + 0) = some (.p (.int .u32 n))) : LC Tryz.prog 199 [.ptr 0 off] H (Is (.p (.bool (n != 0))) H) := by
 refine dk Tryz.func199 Z Z Z ?_;refine zQ (zR (zM Z (zN (zT (zQ (zR (zM Z (yS Z (zn Z Z) (yS Z (zA Z Z yA) ?_)))))))));refine yS Z (ab.atomLoad (P := Tryz.prog) (f := 212) (fn := Tryz.f212) Z Z Z Tryz.func212 Z Km Kv Ke hH h0) ?_;exact yS Z (ax Z Z Z Z) (zM Z (zN (zT (zr (ap (.one (.tmp Z)) (⟨rfl, rfl⟩))))))
theorem Lu : aw Tryz.prog 224 [.bool true] [.int .u32 1] := by
 refine zh Tryz.func224 Z Z Z Z ?_;exact zQ (zR (zM Z (zN (zT (zQ (zQ (zR (zM Z (zN (zT (LW.condT Z (zQ (zR (zM Z (zN (zT (zr (am (zf (.one (.tmp Z)) zv)))))))))))))))))))
theorem I4 {off : Nat} {cs cs' : List LV} {H H' : List aa} (hH : aP H 0 = some (.box cs)) (hc : aW cs (off + 0) (.p (.int .u32 1)) = some cs') (hH' : aW H 0 (.box cs') = some H') : GV Tryz.prog 215 [.ptr 0 off, (bQ true)] H H' := by
 refine GV.start (by kernel_rfl) Tryz.func215 Z Z Z (R := Is (.tup []) H') (fun _ _ h => h.2) ?_;refine LW.drawW (by kernel_rfl) (by kernel_rfl) (zK Z ?_);refine yF (F := []) (s := none) Z (fun H _ => zn Z Z) Z ?_;refine yF (F := []) (s := none) Z (fun H _ => zA Z Z yA) Z ?_;refine zK Z ?_;refine yF (F := []) (s := none) Z (fun H _ => zC Z Z Z (by kernel_rfl) (zp Lu (.cons zv .nil))) Z ?_;refine yF Z (bH.atomStore (P := Tryz.prog) (f := 223) (fn := Tryz.f223) Z Z Z Tryz.func223 Z Ko Kw Kf Z hH hc) hH' ?_;refine LF.nil ⟨by kernel_rfl, ?_⟩;exact gi .none (⟨rfl, rfl⟩)
theorem Ls {off : Nat} {cs cs' : List LV} {H H' : List aa} (hH : aP H 0 = some (.box cs)) (h0 : aP cs (off + 0) = some (.p (.int .i32 0))) (hc : aW cs (off + 0) (.p (.int .i32 1)) = some cs') (hH' : aW H 0 (.box cs') = some H') (hb : Nat.blt off cs'.length = true) : LC Tryz.prog 221 [.ptr 0 off] H (Is (.tup []) H') := by
 refine dk Tryz.func221 Z Z Z ?_;refine zQ (zR ?_);refine yS Z (ab.mark0 (P := Tryz.prog) (f := 226) (fn := Tryz.f226) Z Z Z Tryz.func226 Z GA GC Gy ) ?_;refine zN (zT (zQ (zQ (zR (zM Z (yS Z (zn Z Z) (yS Z (zA Z Z tG) ?_)))))));refine yS Z (ab.atomCas (P := Tryz.prog) (f := 227) (fn := Tryz.f227) Z Z Z Tryz.func227 Z Kp Kx Kg hH h0 hc hH') ?_;refine zN (zT (LW.condT Z (zQ (LW.condT Z (zQ (zR ?_))))));refine yS Z (ab.mark0 (P := Tryz.prog) (f := 228) (fn := Tryz.f228) Z Z Z Tryz.func228 Z GB GD Gz ) ?_;refine zN (zT (zR (zM Z (yS Z (ab.convPtr Z Z (wc hH' ) hb Gs) ?_))));refine yS Z (ab.markP (P := Tryz.prog) (f := 229) (fn := Tryz.f229) Z Z Z Tryz.func229 Z Kq Ky Kh ) ?_;exact zN (zT (zr (am (ap .none (⟨rfl, rfl⟩)))))
theorem Lr {off : Nat} {cs cs' : List LV} {H H' : List aa} (hH : aP H 0 = some (.box cs)) (h0 : aP cs (off + 0 + 0) = some (.p (.int .i32 0))) (hc : aW cs (off + 0 + 0) (.p (.int .i32 1)) = some cs') (hH' : aW H 0 (.box cs') = some H') (hb : Nat.blt (off + 0) cs'.length = true) : LC Tryz.prog 213 [.ptr 0 off] H (Is (.tup []) H') := by
 refine dk Tryz.func213 Z Z Z ?_;exact zR (zM Z (yS Z (zn Z Z) (yS Z (zA Z Z yB) (yS Z (zC Z Z Z (by kernel_rfl) (Ls hH h0 hc hH' hb)) (zN (gi .none (⟨rfl, rfl⟩)))))))
theorem Lt {off : Nat} {cs cs' : List LV} {H H' : List aa} (hH : aP H 0 = some (.box cs)) (h0 : aP cs (off + 0) = some (.p (.int .i32 1))) (hb : Nat.blt off cs.length = true) (hc : aW cs (off + 0) (.p (.int .i32 0)) = some cs') (hH' : aW H 0 (.box cs') = some H') : LC Tryz.prog 222 [.ptr 0 off] H (Is (.tup []) H') := by
 refine dk Tryz.func222 Z Z Z ?_;refine zQ (LW.condT Z (zQ (zR (zM Z (yS Z (zn Z Z) (yS Z (zA Z Z tG) (yS Z (ab.load1 Z Z hH LK h0) (zN (zT (zQ (zR (zM Z (yS Z (ab.convPtr Z Z hH hb Gs) ?_)))))))))))));refine yS Z (ab.markP (P := Tryz.prog) (f := 231) (fn := Tryz.f231) Z Z Z Tryz.func231 Z Kr Kz Ki ) ?_;refine zN (zT (zR ?_));refine yS Z (ab.mark0 (P := Tryz.prog) (f := 226) (fn := Tryz.f226) Z Z Z Tryz.func226 Z GA GC Gy ) ?_;refine zN (zT (zQ (zR (zM Z (yS Z (zn Z Z) (yS Z (zA Z Z tG) ?_))))));refine yS Z (ab.atomAdd (P := Tryz.prog) (f := 232) (fn := Tryz.f232) Z Z Z Tryz.func232 Z Ks KA Kj hH h0 hc hH') ?_;refine zM Z (zN (zT (zQ (zQ (zR (zM Z (yS Z (ax Z Z Z Z) (zN (zT (LW.condF Z (zk (zT (zR ?_)))))))))))));refine yS Z (ab.mark0 (P := Tryz.prog) (f := 228) (fn := Tryz.f228) Z Z Z Tryz.func228 Z GB GD Gz ) ?_;exact zN (gi .none (⟨rfl, rfl⟩))
theorem I0 {off : Nat} {cs cs' : List LV} {H H' : List aa} (hH : aP H 0 = some (.box cs)) (h0 : aP cs (off + 0 + 0) = some (.p (.int .i32 1))) (hb : Nat.blt (off + 0) cs.length = true) (hc : aW cs (off + 0 + 0) (.p (.int .i32 0)) = some cs') (hH' : aW H 0 (.box cs') = some H') : GV Tryz.prog 214 [.ptr 0 off] H H' := by
 refine GV.start (by kernel_rfl) Tryz.func214 Z Z Z (R := Is (.tup []) H') (fun _ _ h => h.2) ?_;exact zR (zM Z (yS Z (zn Z Z) (yS Z (zA Z Z yB) (yS Z (zC Z Z Z (by kernel_rfl) (Lt hH h0 hb hc hH')) (zN (gi .none (⟨rfl, rfl⟩)))))))
theorem IY {off : Nat} {n m : Int} {cs cs' : List LV} {H H' : List aa} (hH : aP H 0 = some (.box cs)) (h0 : aP cs (off + 0) = some (iQ n)) (hc : aW cs (off + 0) (.p (.int .i64 (IntKind.i64.wrap (n + m)))) = some cs') (hH' : aW H 0 (.box cs') = some H') : LC Tryz.prog 195 [.ptr 0 off, (iQ m)] H (Is (.p (.int .i64 (IntKind.i64.wrap (n + m)))) H') := by
 refine dk Tryz.func195 Z Z Z ?_;refine zQ (zR (zM Z (zN (zT (zQ (zR (zM Z (yS Z (zn Z Z) (yS Z (zA Z Z yI) (zM Z ?_))))))))));refine yS Z (ab.atomAdd (P := Tryz.prog) (f := 201) (fn := Tryz.f201) Z Z Z Tryz.func201 Z Kl Ku Kd hH h0 hc hH') ?_;exact zM Z (zN (zT (zr (ap (.one (.tmp Z)) (⟨rfl, rfl⟩)))))
theorem K9 {off : Nat} {n : Int} {cs : List LV} {H : List aa} (hH : aP H 0 = some (.box cs)) (h0 : aP cs (off + 0) = some (iQ n)) : LC Tryz.prog 143 [.ptr 0 off] H (Is (iQ n) H) := by
 refine dk Tryz.func143 Z Z Z ?_;refine zQ (zR (zM Z (zN (zT (zQ (zR (zM Z (yS Z (zn Z Z) (yS Z (zA Z Z yI) ?_)))))))));refine yS Z (ab.atomLoad (P := Tryz.prog) (f := 166) (fn := Tryz.f166) Z Z Z Tryz.func166 Z Kk Kt Kc hH h0) ?_;exact zM Z (zN (zT (zr (ap (.one (.tmp Z)) (⟨rfl, rfl⟩)))))
open Go.Proofs
def jT (seed n r : Int) : Int := IntKind.i64.wrap ((step seed (IntKind.u64.wrap r)).tmod (IntKind.u64.wrap n))
def kZ (seed r : Int) : Int := step seed (IntKind.u64.wrap (IntKind.i64.wrap (1000 + r)))
theorem Lm {cs cs1 cs2 : List LV} {seed n r : Int} {q : Nat} (hs : aP cs (0 + 0) = some (uQ seed)) (hn : aP cs (0 + 1) = some (iQ n)) (hz : IntKind.u64.wrap n ≠ 0)
  (hs1 : aP cs1 (0 + 0) = some (uQ seed)) (hc1 : aW cs (q + 3) (.p (.int .i64 (jT seed n r))) = some cs1) (hc2 : aW cs1 (q + 4) (.p (.int .u64 (kZ seed r))) = some cs2) :
  LC Tryz.prog 194 [.ptr 1 0, .ptr 2 0, .ptr 3 0] [.box cs, .box [.ptr 0 0], .box [(iQ r)], .box [.ptr 0 q]] (Is (.tup []) [.box cs2, .box [.ptr 0 0], .box [(iQ r)], .box [.ptr 0 q]]) := by
 refine dk Tryz.func194 Z Z Z ?_;refine zQ (LW.drawW (by kernel_rfl) (by kernel_rfl) (yF Z (zd Z Z Z po Z Z) Z (yF Z (zd Z Z Z rA Z Z) Z ?_)));refine yF (F := []) (s := none) Z (fun H _ => zn Z Z) Z ?_;refine yF (F := []) (s := none) Z (fun H _ => zA Z Z yJ) Z ?_;refine yF Z (bH.load1 Z Z Z nN hs) Z (yF Z (zd Z Z Z bA Z Z) Z ?_);refine yF (F := []) (s := none) Z (fun H _ => ab.convert (k' := .u64) Z Z (by kernel_rfl)) Z ?_;refine yF (F := []) (s := none) Z (fun H _ => zC Z Z Z (by kernel_rfl) (zp (u8 (h := seed) (x := (IntKind.u64.wrap (r)))) (.cons zv (.cons zv .nil)))) Z ?_;refine yF Z (zd Z Z Z rA Z Z) Z ?_;refine yF (F := []) (s := none) Z (fun H _ => zn Z Z) Z ?_;refine yF (F := []) (s := none) Z (fun H _ => zA Z Z tH) Z ?_;refine yF Z (bH.load1 Z Z Z bA hn) Z ?_;refine yF (F := []) (s := none) Z (fun H _ => ab.convert (k' := .u64) Z Z (by kernel_rfl)) Z ?_;refine yF (F := []) (s := none) Z (fun H _ => ab.rem Z Z Z hz) Z ?_;refine yF (F := []) (s := none) Z (fun H _ => ab.convert (k' := .i64) Z Z (by kernel_rfl)) Z ?_;refine yF (F := []) (s := none) Z (fun H _ => zn Z Z) Z ?_;refine yF (F := []) (s := none) Z (fun H _ => zA Z Z yG) Z ?_;refine yF Z (bH.store1 Z Z Z Z bA Z hc1) Z ?_;refine LF.nil ⟨by kernel_rfl, ?_⟩;refine zT (LW.drawW (by kernel_rfl) (by kernel_rfl) (yF Z (zd Z Z Z po Z Z) Z (yF Z (zd Z Z Z rA Z Z) Z ?_)));refine yF (F := []) (s := none) Z (fun H _ => zn Z Z) Z ?_;refine yF (F := []) (s := none) Z (fun H _ => zA Z Z yJ) Z ?_;refine yF Z (bH.load1 Z Z Z nN hs1) Z (yF Z (zd Z Z Z bA Z Z) Z ?_);refine yF (F := []) (s := none) Z (fun H _ => ax Z Z Z Z) Z ?_;refine yF (F := []) (s := none) Z (fun H _ => ab.convert (k' := .u64) Z Z (by kernel_rfl)) Z ?_;refine yF (F := []) (s := none) Z (fun H _ => zC Z Z Z (by kernel_rfl) (zp (u8 (h := seed) (x := (IntKind.u64.wrap (IntKind.i64.wrap (1000 + r))))) (.cons zv (.cons zv .nil)))) Z ?_;refine yF (F := []) (s := none) Z (fun H _ => zn Z Z) Z ?_;refine yF (F := []) (s := none) Z (fun H _ => zA Z Z yH) Z ?_;refine yF Z (bH.store1 Z Z Z Z nN Z hc2) Z ?_;refine LF.nil ⟨by kernel_rfl, ?_⟩;exact gi .none (⟨rfl, rfl⟩)
abbrev DH : LV := .fn 194 [] [.ptr 1 0, .ptr 2 0, .ptr 3 0]
theorem Lq {cs csA cs1 cs2 csD csE : List LV} {seed n r : Int} {q : Nat} (hm : aP cs (q + 0 + 1 + 0 + 0) = some (.p (.int .i32 0))) (hA : aW cs (q + 0 + 1 + 0 + 0) (.p (.int .i32 1)) = some csA) (hAb : Nat.blt (q + 0 + 1 + 0) csA.length = true)
  (hd : aP csA (q + 0 + 0 + 0) = some (.p (.int .u32 0))) (hs : aP csA (0 + 0) = some (uQ seed)) (hn : aP csA (0 + 1) = some (iQ n)) (hz : IntKind.u64.wrap n ≠ 0)
  (hs1 : aP cs1 (0 + 0) = some (uQ seed)) (hc1 : aW csA (q + 3) (.p (.int .i64 (jT seed n r))) = some cs1) (hc2 : aW cs1 (q + 4) (.p (.int .u64 (kZ seed r))) = some cs2)
  (hD : aW cs2 (q + 0 + 0 + 0) (.p (.int .u32 1)) = some csD) (hDm : aP csD (q + 0 + 1 + 0 + 0) = some (.p (.int .i32 1))) (hDb : Nat.blt (q + 0 + 1 + 0) csD.length = true) (hE : aW csD (q + 0 + 1 + 0 + 0) (.p (.int .i32 0)) = some csE) :
  LC Tryz.prog 200 [.ptr 0 (q + 0), DH] [.box cs, .box [.ptr 0 0], .box [(iQ r)], .box [.ptr 0 q]] (Is (.tup []) [.box csE, .box [.ptr 0 0], .box [(iQ r)], .box [.ptr 0 q]]) := by
 refine LC.ofD Tryz.func200 Z Z Z Z ?_;refine pq.seq (pq.region (b9.st Z Z Z (zm Z Z) (b9.st Z Z Z (zn Z Z) (b9.st Z Z Z (zA Z Z yC) (b9.st Z Z Z (zC Z Z Z (by kernel_rfl) (Lr (off := q + 0 + 1) Z hm hA Z hAb)) (b9.nil (pq.seq (pq.region (b9.st Z Z Z (zm Z Z) (b9.st Z Z Z (zn Z Z) (b9.st Z Z Z (zA Z Z yC) (b9.defer Z Z Z Z Z (b9.nil (pq.seq (pq.region (b9.st Z Z Z (zm Z Z) (b9.st Z Z Z (zn Z Z) (b9.st Z Z Z (zA Z Z pH) (b9.st Z Z Z (zC Z Z Z (by kernel_rfl) (G7 (off := q + 0 + 0) (n := 0) Z hd)) (b9.st Z Z Z (ab.not Z Z) (b9.nil (pq.condT Z (pq.seq ?_)))))))))))))))))))))));exact pq.region (b9.st Z Z Z (zm Z Z) (b9.st Z Z Z (zn Z Z) (b9.st Z Z Z (zA Z Z pH) (b9.defer Z Z Z Z Z (b9.nil (pq.region (b9.st Z Z Z (zm Z Z) (b9.st Z Z Z (zC Z Z Z (by kernel_rfl) (Lm hs hn hz hs1 hc1 hc2)) (b9.nil (⟨.inl rfl, .cons (I4 (off := q + 0 + 0) Z hD Z) (.cons (I0 (off := q + 0 + 1) Z hDm hDb hE Z) .nil)⟩))))))))))
theorem IX {cs csA cs1 cs2 csD csE : List LV} {seed n r : Int} {q : Nat} (hd0 : aP cs (q + 0 + 0 + 0) = some (.p (.int .u32 0))) (hm : aP cs (q + 0 + 1 + 0 + 0) = some (.p (.int .i32 0))) (hA : aW cs (q + 0 + 1 + 0 + 0) (.p (.int .i32 1)) = some csA) (hAb : Nat.blt (q + 0 + 1 + 0) csA.length = true)
  (hd : aP csA (q + 0 + 0 + 0) = some (.p (.int .u32 0))) (hs : aP csA (0 + 0) = some (uQ seed)) (hn : aP csA (0 + 1) = some (iQ n)) (hz : IntKind.u64.wrap n ≠ 0)
  (hs1 : aP cs1 (0 + 0) = some (uQ seed)) (hc1 : aW csA (q + 3) (.p (.int .i64 (jT seed n r))) = some cs1) (hc2 : aW cs1 (q + 4) (.p (.int .u64 (kZ seed r))) = some cs2)
  (hD : aW cs2 (q + 0 + 0 + 0) (.p (.int .u32 1)) = some csD) (hDm : aP csD (q + 0 + 1 + 0 + 0) = some (.p (.int .i32 1))) (hDb : Nat.blt (q + 0 + 1 + 0) csD.length = true) (hE : aW csD (q + 0 + 1 + 0 + 0) (.p (.int .i32 0)) = some csE) : LC Tryz.prog 193 [.ptr 0 (q + 0), DH] [.box cs, .box [.ptr 0 0], .box [(iQ r)], .box [.ptr 0 q]] (Is (.tup []) [.box csE, .box [.ptr 0 0], .box [(iQ r)], .box [.ptr 0 q]]) := by
 refine dk Tryz.func193 Z Z Z ?_;exact zQ (zR (zM Z (yS Z (zn Z Z) (yS Z (zA Z Z pH) (yS Z (zC Z Z Z (by kernel_rfl) (G7 (off := q + 0 + 0) (n := 0) Z hd0)) (yS Z (ab.not Z Z) (zN (zT (LW.condT Z (zR (zM Z (zM Z (yS Z (zC Z Z Z (by kernel_rfl) (Lq hm hA hAb hd hs hn hz hs1 hc1 hc2 hD hDm hDb hE)) (zN (gi .none (⟨rfl, rfl⟩))))))))))))))))
theorem IW {cs : List LV} {r : Int} {q : Nat} (hd : aP cs (q + 0 + 0 + 0) = some (.p (.int .u32 1))) : LC Tryz.prog 193 [.ptr 0 (q + 0), DH] [.box cs, .box [.ptr 0 0], .box [(iQ r)], .box [.ptr 0 q]] (Is (.tup []) [.box cs, .box [.ptr 0 0], .box [(iQ r)], .box [.ptr 0 q]]) := by
 refine dk Tryz.func193 Z Z Z ?_;exact zQ (zR (zM Z (yS Z (zn Z Z) (yS Z (zA Z Z pH) (yS Z (zC Z Z Z (by kernel_rfl) (G7 (off := q + 0 + 0) (n := 1) Z hd)) (yS Z (ab.not Z Z) (zN (zT (LW.condF Z (zk (gi .none (⟨rfl, rfl⟩))))))))))))
open Go.Proofs
def iH (seed n r : Int) (b : Bool) : List LV :=
 [.p (.int .u32 (cond b 1 0)), .p (.int .i32 0), .p (.int .u32 0), .p (.int .i64 (cond b (jT seed n r) 0)), .p (.int .u64 (cond b (kZ seed r) 0))]
def vf (seed n : Int) (f : Nat → Bool) (k : Int) : List LV :=
 (uQ seed) :: (iQ n) :: (iH seed n 0 (f 0) ++ (iH seed n 1 (f 1) ++ (iH seed n 2 (f 2) ++ (iH seed n 3 (f 3) ++ (iH seed n 4 (f 4) ++ (iH seed n 5 (f 5) ++ (iH seed n 6 (f 6) ++ (iH seed n 7 (f 7) ++ (iH seed n 8 (f 8) ++ (iH seed n 9 (f 9) ++ [(iQ k)]))))))))))
def Ba (f : Nat → Bool) (i : Nat) : Nat → Bool := fun j => cond (Nat.beq j i) true (f j)
def Hv (f : Nat → Bool) (i : Nat) : Nat → Bool := fun j => cond (Nat.beq j i) false (f j)
theorem y6 {f : Nat → Bool} {i : Nat} (h : f i = true) : Ba f i = f := by
 funext j;unfold Ba
 cases e : Nat.beq j i with
 | false => rfl
 | true => rw [Nat.eq_of_beq_eq_true e, h]; rfl
theorem Fg {f : Nat → Bool} {i : Nat} (h : f i = false) : Hv f i = f := by
 funext j;unfold Hv
 cases e : Nat.beq j i with
 | false => rfl
 | true => rw [Nat.eq_of_beq_eq_true e, h]; rfl
structure Dk where
 f : Nat → Bool
 k : Int
def iy (seed n : Int) (d : Dk) : List LV := vf seed n d.f d.k
def Dk.turned (d : Dk) (r : Int) : Dk := ⟨Ba d.f r.toNat, IntKind.i64.wrap (d.k + 1)⟩
def rv (n r : Int) : Bool := decide (n ≠ 0 ∧ IntKind.u64.wrap n ≠ 0 ∧ 0 ≤ r ∧ r < 10)
theorem fq {n r : Int} (h : rv n r = true) : n ≠ 0 ∧ IntKind.u64.wrap n ≠ 0 ∧ 0 ≤ r ∧ r < 10 := of_decide_eq_true h
theorem IS {cs csA cs1 cs2 csD csE : List LV} {seed n r : Int} (hd0 : aP cs ((2 + r.toNat * 5) + 0 + 0 + 0) = some (.p (.int .u32 0))) (hm : aP cs ((2 + r.toNat * 5) + 0 + 1 + 0 + 0) = some (.p (.int .i32 0))) (hA : aW cs ((2 + r.toNat * 5) + 0 + 1 + 0 + 0) (.p (.int .i32 1)) = some csA) (hAb : Nat.blt ((2 + r.toNat * 5) + 0 + 1 + 0) csA.length = true)
  (hd : aP csA ((2 + r.toNat * 5) + 0 + 0 + 0) = some (.p (.int .u32 0))) (hs : aP csA (0 + 0) = some (uQ seed)) (hn : aP csA (0 + 1) = some (iQ n)) (hz : IntKind.u64.wrap n ≠ 0)
  (hs1 : aP cs1 (0 + 0) = some (uQ seed)) (hc1 : aW csA ((2 + r.toNat * 5) + 3) (.p (.int .i64 (jT seed n r))) = some cs1) (hc2 : aW cs1 ((2 + r.toNat * 5) + 4) (.p (.int .u64 (kZ seed r))) = some cs2)
  (hD : aW cs2 ((2 + r.toNat * 5) + 0 + 0 + 0) (.p (.int .u32 1)) = some csD) (hDm : aP csD ((2 + r.toNat * 5) + 0 + 1 + 0 + 0) = some (.p (.int .i32 1))) (hDb : Nat.blt ((2 + r.toNat * 5) + 0 + 1 + 0) csD.length = true) (hE : aW csD ((2 + r.toNat * 5) + 0 + 1 + 0 + 0) (.p (.int .i32 0)) = some csE) {k : Int} {csF : List LV} (hr0 : 0 ≤ r) (hr1 : r < 10) (hk : aP csE (0 + 52 + 0) = some (iQ k)) (hF : aW csE (0 + 52 + 0) (.p (.int .i64 (IntKind.i64.wrap (k + 1)))) = some csF) (hl : LV.lowsB 1 csF = true) : LC Tryz.prog 182 [.ptr 0 0, (iQ r)] [.box cs] (Is (.ptr 0 (2 + r.toNat * 5)) [.box csF]) := by
 refine dk Tryz.func182 Z Z Z ?_;refine zQ (zR (yS Z (bZ Z Z Z Z Z) (yS Z (bZ Z Z Z Z Z) (zM Z (zN (zT (zQ (LW.ent (bL.slot Z) (LW.drawW (by kernel_rfl) (by kernel_rfl) (yF Z (zd Z Z Z rA Z Z) Z (yF Z (zd Z Z Z bA Z Z) Z ?_)))))))))));refine yF (F := []) (s := none) Z (fun H _ => zn Z Z) Z ?_;refine yF (F := []) (s := none) Z (fun H _ => zA Z Z yK) Z ?_;refine yF (F := []) (s := none) Z (fun H _ => ab.indexAddrA Z Z Z FT hr0 hr1) Z ?_;refine yF Z (bH.alloc Z GG (id := 3) Z) Z (yF Z (zt Z Z Z Z po Z Z Z) Z ?_);refine LF.nil ⟨by kernel_rfl, ?_⟩;refine zT (zQ (zR (yS Z (zD Z Z Z po Z Z) (yS Z (zn Z Z) (yS Z (zA Z Z yD) (yS Z (ab.makeFunc Z Z Z) (yS Z (zC Z Z Z (by kernel_rfl) (IX (q := (2 + r.toNat * 5)) hd0 hm hA hAb hd hs hn hz hs1 hc1 hc2 hD hDm hDb hE)) (zN (zT (zQ (zR (yS Z (zD Z Z Z rA Z Z) (yS Z (zn Z Z) (yS Z (zA Z Z tI) (yS Z (zC Z Z Z (by kernel_rfl) (IY (off := 0 + 52) Z hk hF Z)) (zN (zT (zQ (zR (yS Z (zD Z Z Z po Z Z) (zM Z (zN (zT ?_)))))))))))))))))))))));refine LW.ret ?_;refine a8 (env' := [(4, .ptr 0 (2 + r.toNat * 5))]) (H' := [.box csF]) (zW 1 ⟨rfl, trivial⟩ Z Z Z (zL hl Z)) (.one (.tmp Z)) ⟨rfl, rfl⟩
theorem IR {cs : List LV} {r : Int} (hd : aP cs ((2 + r.toNat * 5) + 0 + 0 + 0) = some (.p (.int .u32 1))) {k : Int} {csF : List LV} (hr0 : 0 ≤ r) (hr1 : r < 10) (hk : aP cs (0 + 52 + 0) = some (iQ k)) (hF : aW cs (0 + 52 + 0) (.p (.int .i64 (IntKind.i64.wrap (k + 1)))) = some csF) (hl : LV.lowsB 1 csF = true) : LC Tryz.prog 182 [.ptr 0 0, (iQ r)] [.box cs] (Is (.ptr 0 (2 + r.toNat * 5)) [.box csF]) := by
 refine dk Tryz.func182 Z Z Z ?_;refine zQ (zR (yS Z (bZ Z Z Z Z Z) (yS Z (bZ Z Z Z Z Z) (zM Z (zN (zT (zQ (LW.ent (bL.slot Z) (LW.drawW (by kernel_rfl) (by kernel_rfl) (yF Z (zd Z Z Z rA Z Z) Z (yF Z (zd Z Z Z bA Z Z) Z ?_)))))))))));refine yF (F := []) (s := none) Z (fun H _ => zn Z Z) Z ?_;refine yF (F := []) (s := none) Z (fun H _ => zA Z Z yK) Z ?_;refine yF (F := []) (s := none) Z (fun H _ => ab.indexAddrA Z Z Z FT hr0 hr1) Z ?_;refine yF Z (bH.alloc Z GG (id := 3) Z) Z (yF Z (zt Z Z Z Z po Z Z Z) Z ?_);refine LF.nil ⟨by kernel_rfl, ?_⟩;refine zT (zQ (zR (yS Z (zD Z Z Z po Z Z) (yS Z (zn Z Z) (yS Z (zA Z Z yD) (yS Z (ab.makeFunc Z Z Z) (yS Z (zC Z Z Z (by kernel_rfl) (IW (q := (2 + r.toNat * 5)) hd)) (zN (zT (zQ (zR (yS Z (zD Z Z Z rA Z Z) (yS Z (zn Z Z) (yS Z (zA Z Z tI) (yS Z (zC Z Z Z (by kernel_rfl) (IY (off := 0 + 52) Z hk hF Z)) (zN (zT (zQ (zR (yS Z (zD Z Z Z po Z Z) (zM Z (zN (zT ?_)))))))))))))))))))))));refine LW.ret ?_;refine a8 (env' := [(4, .ptr 0 (2 + r.toNat * 5))]) (H' := [.box csF]) (zW 1 ⟨rfl, trivial⟩ Z Z Z (zL hl Z)) (.one (.tmp Z)) ⟨rfl, rfl⟩
theorem Dg {seed n r k : Int} {f : Nat → Bool} (hz : IntKind.u64.wrap n ≠ 0) (hr0 : 0 ≤ r) (hr1 : r < 10) :
  LC Tryz.prog 182 [.ptr 0 0, (iQ r)] [.box (vf seed n (Hv f r.toNat) k)] (Is (.ptr 0 (2 + r.toNat * 5)) [.box (vf seed n (Ba f r.toNat) (IntKind.i64.wrap (k + 1)))]) := by
 have hc : r = 0 ∨ r = 1 ∨ r = 2 ∨ r = 3 ∨ r = 4 ∨ r = 5 ∨ r = 6 ∨ r = 7 ∨ r = 8 ∨ r = 9 := by omega
 rcases hc with rfl | rfl | rfl | rfl | rfl | rfl | rfl | rfl | rfl | rfl
 all_goals exact IS (seed := seed) (n := n) rfl rfl rfl rfl rfl rfl rfl hz rfl rfl rfl rfl rfl rfl rfl hr0 hr1 rfl rfl rfl
theorem Df {seed n r k : Int} {f : Nat → Bool} (hr0 : 0 ≤ r) (hr1 : r < 10) :
  LC Tryz.prog 182 [.ptr 0 0, (iQ r)] [.box (vf seed n (Ba f r.toNat) k)] (Is (.ptr 0 (2 + r.toNat * 5)) [.box (vf seed n (Ba f r.toNat) (IntKind.i64.wrap (k + 1)))]) := by
 have hc : r = 0 ∨ r = 1 ∨ r = 2 ∨ r = 3 ∨ r = 4 ∨ r = 5 ∨ r = 6 ∨ r = 7 ∨ r = 8 ∨ r = 9 := by omega
 rcases hc with rfl | rfl | rfl | rfl | rfl | rfl | rfl | rfl | rfl | rfl
 all_goals exact IR rfl hr0 hr1 rfl rfl rfl
theorem Li {seed n r : Int} {d : Dk} (h : rv n r = true) : LC Tryz.prog 182 [.ptr 0 0, (iQ r)] [.box (iy seed n d)] (Is (.ptr 0 (2 + r.toNat * 5)) [.box (iy seed n (d.turned r))]) := by
 obtain ⟨-, h1, h2, h3⟩ := fq h
 cases hf : d.f r.toNat with
 | true =>
  have := Df (seed := seed) (n := n) (k := d.k) (f := d.f) h2 h3;rw [y6 hf] at this;unfold iy Dk.turned;rw [y6 hf];exact this
 | false =>
  have := Dg (seed := seed) (n := n) (k := d.k) (f := d.f) h1 h2 h3;rw [Fg hf] at this;exact this
theorem w8 {seed n r : Int} {d : Dk} (hr0 : 0 ≤ r) (hr1 : r < 10) : aP (iy seed n (d.turned r)) (2 + r.toNat * 5 + 3) = some (.p (.int .i64 (jT seed n r))) := by
 have hc : r = 0 ∨ r = 1 ∨ r = 2 ∨ r = 3 ∨ r = 4 ∨ r = 5 ∨ r = 6 ∨ r = 7 ∨ r = 8 ∨ r = 9 := by omega
 rcases hc with rfl | rfl | rfl | rfl | rfl | rfl | rfl | rfl | rfl | rfl
 all_goals rfl
theorem Az {seed n r : Int} {d : Dk} (hr0 : 0 ≤ r) (hr1 : r < 10) : aP (iy seed n (d.turned r)) (2 + r.toNat * 5 + 4) = some (.p (.int .u64 (kZ seed r))) := by
 have hc : r = 0 ∨ r = 1 ∨ r = 2 ∨ r = 3 ∨ r = 4 ∨ r = 5 ∨ r = 6 ∨ r = 7 ∨ r = 8 ∨ r = 9 := by omega
 rcases hc with rfl | rfl | rfl | rfl | rfl | rfl | rfl | rfl | rfl | rfl
 all_goals rfl
def q6 (seed n r i : Int) : Int := (IntKind.i64.wrap (IntKind.i64.wrap (jT seed n r + n) - i)).tmod n
def D0 (seed n r i : Int) : Bool := bits .and .u64 (step (kZ seed r) (IntKind.u64.wrap (if q6 seed n r i > i then q6 seed n r i else i))) 1 == 1
def ru (seed n r i : Int) : Int := bif D0 seed n r i then q6 seed n r i else i
theorem K8 {seed n r i : Int} {d : Dk} (h : rv n r = true) : LC Tryz.prog 165 [.ptr 0 0, (iQ r), (iQ i)] [.box (iy seed n d)] (Is (.p (.int .i64 (ru seed n r i))) [.box (iy seed n (d.turned r))]) := by
 refine dk Tryz.func165 Z Z Z ?_;refine zQ (zR (zM Z (zN (zT (zQ (zR (zM Z (zM Z (yS Z (zC Z Z Z (by kernel_rfl) (Li h)) (zM Z (zN (zT (zQ (LW.draw2 (by kernel_rfl) (by kernel_rfl) (zH Z (yE Z (zn Z Z) (yE Z (zA Z Z yG) (yE Z (ab.load1 Z Z Z bA (w8 (fq h).2.2.1 (fq h).2.2.2)) (zH Z (yE Z (zn Z Z) (yE Z (zA Z Z tH) (yE Z (ab.load1 Z Z Z bA Z) (yE Z (ax Z Z Z Z) ?_)))))))))))))))))))))));refine zH Z (yE Z (ax Z Z Z Z) (zH Z (yE Z (zn Z Z) (yE Z (zA Z Z tH) (yE Z (ab.load1 Z Z Z bA Z) (yE Z (ab.rem Z Z Z (fq h).1) (zH Z (LO.nil (zT (zQ (zQ (zR (zM Z (yS Z (zn Z Z) (yS Z (zA Z Z yH) (yS Z (ab.load1 Z Z Z nN (Az (fq h).2.2.1 (fq h).2.2.2)) (zM Z (zM Z (yS Z (ab.max Z Z Z) (yS Z (ab.convert (k' := .u64) Z Z (by kernel_rfl)) (yS Z (zC Z Z Z (by kernel_rfl) (zp (u8 (h := (kZ seed r)) (x := (IntKind.u64.wrap (if (q6 seed n r i) > i then (q6 seed n r i) else i)))) (.cons zv (.cons zv .nil)))) (yS Z (ax Z Z Z Z) (yS Z (ax Z Z Z Z) ?_)))))))))))))))))))))));refine zN (zT ?_);refine zX Z (fun g1 => ?_) (fun g1 => ?_)
 ·
  exact zQ (zR (zM Z (zM Z (zN (zT (zr (am (ap (.one (.tmp Z)) (⟨by unfold ru D0; rw [g1]; rfl, rfl⟩)))))))))
 ·
  exact zk (zT (zQ (zR (zM Z (zM Z (zN (zT (zr (ap (.one (.tmp Z)) (⟨by unfold ru D0; rw [g1]; rfl, rfl⟩))))))))))
open Go.Proofs
def few (l : List Bk) : Bool := decide (l.length ≤ 1000)
theorem tF {l : List Bk} (h : few l = true) : l.length ≤ 1000 := of_decide_eq_true h
def HV (l : List Bk) : Option Bool :=
 (match places l with
 | none =>
  some false
 | some _ =>
  some true)
theorem LT {l : List Bk} {r_ : Bool} (hr : HV l = some r_) : aw Tryz.prog 187 [.slice 5 (l.map ay)] [.bool r_] := by
 refine zh Tryz.func187 Z Z Z Z ?_;unfold HV at hr;refine zQ (zR (zM Z (zN (zT (zQ (zR (zM Z ?_)))))));rcases h_f1 : places l with _ | m_
 ·
  rw [h_f1] at hr;simp only at hr;refine yS Z (zC Z Z Z (by kernel_rfl) (Ji h_f1)) (zM Z (yS Z (eZ Z Z Z) (yS Z (eZ Z Z Z) (zM Z (zM Z (zN (zT (zQ (zR (zM Z (zM Z (zN (zT (zr ?_))))))))))))));obtain rfl := zJ hr;exact zf (.one (.tmp Z)) zv
 ·
  rw [h_f1] at hr;simp only at hr;refine yS Z (zC Z Z Z (by kernel_rfl) (Jj h_f1 Z Z Z)) (zM Z (yS Z (eZ Z Z Z) (yS Z (eZ Z Z Z) (zM Z (zM Z (zN (zT (zQ (zR (zM Z (zM Z (zN (zT (zr ?_))))))))))))));obtain rfl := zJ hr;exact zf (.one (.tmp Z)) zv
structure kx where
 t13 : Int
 out : List ID
def nR (l : List Bk) (id : ID) (x1 : kx) : Option (kx ⊕ kx) :=
 bif decide (x1.t13 < (l.length : Int)) then
  (ix l x1.t13).bind fun y1 =>
  bif ((y1.Parent.1 == id.1) && ((y1.Parent.2 == id.2) && true)) then
   bif room x1.out.length [nm y1].length 16 then
    some (.inl (kx.mk (IntKind.i64.wrap (x1.t13 + 1)) (x1.out ++ [nm y1])))
   else none
  else
   some (.inl (kx.mk (IntKind.i64.wrap (x1.t13 + 1)) x1.out))
 else
  some (.inr (kx.mk x1.t13 x1.out))
def Ik (l : List Bk) (id : ID) : Option (List ID) :=
 (HV l).bind fun v1 =>
 bif !v1 then
  some []
 else
  (iter (nR l id) bD (kx.mk 0 ([] : List ID))).bind fun v2 =>
  some v2.out
theorem L7 {l : List Bk} {id : ID} {r_ : (List ID)} (hr : Ik l id = some r_) : aw Tryz.prog 171 [.slice 5 (l.map ay), bF id] [.slice 2 (r_.map bF)] := by
 refine zh Tryz.func171 Z Z Z Z ?_;unfold Ik at hr;refine zQ (zR (yS Z (bZ Z Z Z Z Z) (zM Z (zN (zT (zQ (zQ (zR (zM Z (zb hr fun v1 h_v1 hr => yS Z (zC Z Z Z (by kernel_rfl) (zp (LT h_v1) (.cons zv .nil))) (yS Z (ab.not Z Z) (zN (zT ?_)))))))))))));refine zX Z (fun g1 => ?_) (fun g1 => ?_)
 ·
  refine zi g1 hr fun hr => zQ (zR (zM Z (zN (zT (zr (am ?_))))));obtain rfl := zJ hr;exact zf (.one (.tmp Z)) Conv.zs
 ·
  refine zo g1 hr fun hr => zk (zT (zQ (zR (zM Z (zN (zT (zQ (zQ (zR (zM Z (yS Z (dY Z Z (by kernel_rfl)) (zM Z (zN (zT (LW.ent (bL.lazy (t := 5) (m := 2) Z Z Z) ?_)))))))))))))));obtain ⟨v2, hb_v2, ho_v2⟩ := zB hr;clear hr;refine LW.tail (E := [(4, .zs), (5, .vec 2 1 (v2.out.map bF).length 0 (v2.out.map bF).length)]) (O := [.box [(uQ id.1), (uQ id.2)], .vec 2 (v2.out.map bF)]) ?_ (fun env_v2 H_v2 hw_v2 => ?_)
  ·refine LW.block ?_;refine LW.iterB (E := fun x1 : kx => [(3, .ptr 0 0), (4, .zs), (5, .vec 2 1 (x1.out.map bF).length 0 (x1.out.map bF).length), (11, (kB l)), (12, .p (.int .i64 (l.length : Int))), (13, (iQ x1.t13))]) (O := fun x1 => [.box [(uQ id.1), (uQ id.2)], .vec 2 (x1.out.map bF)]) hb_v2 (zW 2 ⟨rfl, rfl, rfl, rfl, rfl, rfl, trivial⟩ Z Z Z Z) (fun x1 z_x1 hr hb_x1 => ?_);unfold nR at hr;refine zQ (zR (yS Z (ax Z Z Z Z) (zN (zT (zQ ?_)))));refine zX Z (fun g2 => ?_) (fun g2 => ?_)
   ·
    refine zi g2 hr fun hr => zk (zT (zQ (zl (zQ (zR (zb hr fun y1 h_y1 hr => yS Z (zx Z Z Z en h_y1 Z) (yS Z (eA Z Z Z cO Z Z) (yS Z (ze Z uj Z Z) (yS Z (zs Z Z Z Z cO Z Z Z Z) (zN (zT (zQ (zR (yS Z (zA Z Z mh) (yS Z (zD Z Z Z aR Z Z) (yS Z (zD Z Z Z aR Z Z) (yS Z (ab.eqlAgg Z Z Z Z Z vk) (zN (zT ?_)))))))))))))))))));refine zX Z (fun g3 => ?_) (fun g3 => ?_)
    ·
     refine zi g3 hr fun hr => zR (zM Z (yS Z (zD Z Z Z cO Z Z) (yS Z (zC Z Z Z (by kernel_rfl) (zp (G9 (b := y1)) (.cons zv .nil))) (yS Z (mL Z nG Z Z Z Z Z) (zg hr fun q1 hr => yS Z (ab.appendX bF x1.out [nm y1] rfl Z Z Z km.p Z nG q1 Z) (zM Z (zN (ai (zT (zR (yS Z (ax Z Z Z Z) (zM Z (zN (zT ?_))))))))))))));obtain rfl := zJ hr;exact ⟨_, rfl, zW 2 ⟨rfl, rfl, rfl, rfl, rfl, rfl, trivial⟩ Z Z Z rfl⟩
    ·
     refine zo g3 hr fun hr => zk (ai (zT (zR (yS Z (ax Z Z Z Z) (zM Z (zN (zT ?_)))))));obtain rfl := zJ hr;exact ⟨_, rfl, zW 2 ⟨rfl, rfl, rfl, rfl, rfl, rfl, trivial⟩ Z Z Z rfl⟩
   ·
    refine zo g2 hr fun hr => zq (ao (ao (zy (zT ?_))));obtain rfl := zJ hr;have hr := congrArg some (hb_x1 _ rfl);obtain rfl := zJ hr;exact zW 2 ⟨Z, Z, trivial⟩ Z Z Z Z
  ·have hr := ho_v2;clear hb_v2;refine zT (LW.weak hw_v2 (zQ (zR (zM Z (zM Z (zN (zT (zr ?_))))))));obtain rfl := zJ hr;exact zf (.one (.tmp Z)) ((Conv.vecAll Z Z Z))
end Go.Mg
