/- What the logic needs to know of each type of the program. The program's structs as plain data, and how they lie in memory. The mixing functions. mix.Of. tree.Name, slices.Index, slices.Contains. tree.places. Plain facts of trees: what 'places' tells. tree.Chain. cursor.Move. Plain facts of chains and cursors. Plain laws of cursors. Atomic words, locks. sync.Once as the deck uses it. The rounds of the deck. tree.May, Find, Slot, Kids. Conditions: none. -/
import Derived.Test.YtfbigoipfbiliaaGreatX2
import Derived.Test.YtfbigoipfbiliaaGreatProg
import Derived.Test.YtfbigoipfbiliaaGreatX3
set_option maxRecDepth 100000
set_option linter.unusedSimpArgs false
set_option linter.unusedVariables false
namespace Go.Mg
open Go.Proofs
section
variable {w : World}
theorem nV :nU Tryz.prog 32=some (2,1,false):=by kernel_rfl
theorem wY :nU Tryz.prog 79=some (3,1,false):=by kernel_rfl
theorem FD :nU Tryz.prog 230=some (10,5,true):=by kernel_rfl
theorem CJ :nU Tryz.prog 247=some (2,1,false):=by kernel_rfl
theorem eA :nU Tryz.prog 252=some (4,1,false):=by kernel_rfl
theorem K4 :cE Tryz.prog 25=some ([LV.zs,LV.p (PV.int IntKind.u64 0),LV.p (PV.int IntKind.i64 0),LV.p (PV.int IntKind.i64 0),LV.p (PV.int IntKind.i64 0)],[(0,1),(1,1),(2,1),(3,1),(4,1)]):=by kernel_rfl
theorem mt :cE Tryz.prog 29=some ([LV.zs,LV.zs],[(0,1),(1,1)]):=by kernel_rfl
theorem lm :cE Tryz.prog 32=some ([LV.p (PV.int IntKind.u64 0),LV.p (PV.int IntKind.u64 0)],[(0,1),(1,1)]):=by kernel_rfl
theorem K3 :cE Tryz.prog 34=some ([LV.p (PV.int IntKind.u64 0),LV.p (PV.int IntKind.u64 0),LV.p (PV.int IntKind.i64 0),LV.p (PV.int IntKind.i64 0)],[(0,2),(2,1),(3,1)]):=by kernel_rfl
theorem CP :cE Tryz.prog 36=some ([LV.p (PV.int IntKind.i64 0),LV.p (PV.int IntKind.i64 0),LV.zs,LV.zs,LV.zs,LV.zs,LV.zs,LV.p (PV.int IntKind.u64 0),LV.p (PV.int IntKind.u64 0),LV.p (PV.int IntKind.i64 0),LV.p (PV.int IntKind.i64 0),LV.p (PV.bool false)],[(0,1),(1,1),(2,2),(4,2),(6,1),(7,4),(11,1)]):=by kernel_rfl
theorem GW :cE Tryz.prog 65=some ([LV.p (PV.int IntKind.i64 0),LV.p (PV.int IntKind.i64 0),LV.p (PV.int IntKind.u64 0),LV.p (PV.int IntKind.u64 0),LV.p (PV.int IntKind.u64 0)],[(0,1),(1,1),(2,2),(4,1)]):=by kernel_rfl
theorem CQ :cE Tryz.prog 67=some ([LV.p (PV.int IntKind.i64 0),LV.p (PV.int IntKind.i64 0),LV.p (PV.int IntKind.i64 0),LV.p (PV.int IntKind.i64 0),LV.p (PV.int IntKind.u64 0),LV.p (PV.int IntKind.u64 0),LV.p (PV.int IntKind.u64 0),LV.zs,LV.zs],[(0,1),(1,1),(2,5),(7,2)]):=by kernel_rfl
theorem GR :cE Tryz.prog 71=some ([LV.p (PV.int IntKind.i64 0),LV.p (PV.int IntKind.i64 0),LV.zs,LV.zs,LV.zs,LV.zs,LV.zs,LV.p (PV.int IntKind.u64 0),LV.p (PV.int IntKind.u64 0),LV.p (PV.int IntKind.i64 0),LV.p (PV.int IntKind.i64 0),LV.p (PV.bool false),LV.zs,LV.p (PV.int IntKind.u64 0),LV.p (PV.int IntKind.i64 0),LV.p (PV.int IntKind.i64 0),LV.p (PV.int IntKind.i64 0),LV.p (PV.int IntKind.i64 0),LV.zs],[(0,12),(12,5),(17,1),(18,1)]):=by kernel_rfl
theorem GS :cE Tryz.prog 79=some ([LV.any,LV.any,LV.any],[(0,1),(1,1),(2,1)]):=by kernel_rfl
theorem GX :cE Tryz.prog 111=some ([LV.p (PV.int IntKind.i64 0),LV.p (PV.int IntKind.i64 0),LV.p (PV.int IntKind.u64 0),LV.p (PV.int IntKind.u64 0)],[(0,1),(1,1),(2,2)]):=by kernel_rfl
theorem GT :cE Tryz.prog 153=some ([LV.any,LV.any],[(0,1),(1,1)]):=by kernel_rfl
theorem IB :cE Tryz.prog 176=some ([LV.zs,LV.zs,LV.nilmap,LV.nilmap,LV.p (PV.int IntKind.i64 0),LV.p (PV.bool false)],[(0,2),(2,1),(3,1),(4,1),(5,1)]):=by kernel_rfl
theorem GU :cE Tryz.prog 190=some ([LV.zs,LV.zs,LV.zs,LV.zs,LV.zs,LV.p (PV.bool false)],[(0,2),(2,2),(4,1),(5,1)]):=by kernel_rfl
theorem FE :cE Tryz.prog 194=some ([LV.p (PV.int IntKind.i64 0),LV.p (PV.int IntKind.u64 0),LV.p (PV.int IntKind.u64 0)],[(0,1),(1,2)]):=by kernel_rfl
theorem GQ :cE Tryz.prog 199=some ([LV.nilmap,LV.nilmap],[(0,1),(1,1)]):=by kernel_rfl
theorem CR :cE Tryz.prog 202=some ([LV.p (PV.int IntKind.i64 0),LV.p (PV.int IntKind.i64 0)],[(0,1),(1,1)]):=by kernel_rfl
theorem IA :cE Tryz.prog 235=some ([LV.p (PV.int IntKind.u64 0),LV.p (PV.int IntKind.i64 0),LV.p (PV.int IntKind.u32 0),LV.p (PV.int IntKind.i32 0),LV.p (PV.int IntKind.u32 0),LV.p (PV.int IntKind.i64 0),LV.p (PV.int IntKind.u64 0),LV.p (PV.int IntKind.u32 0),LV.p (PV.int IntKind.i32 0),LV.p (PV.int IntKind.u32 0),LV.p (PV.int IntKind.i64 0),LV.p (PV.int IntKind.u64 0),LV.p (PV.int IntKind.u32 0),LV.p (PV.int IntKind.i32 0),LV.p (PV.int IntKind.u32 0),LV.p (PV.int IntKind.i64 0),LV.p (PV.int IntKind.u64 0),LV.p (PV.int IntKind.u32 0),LV.p (PV.int IntKind.i32 0),LV.p (PV.int IntKind.u32 0),LV.p (PV.int IntKind.i64 0),LV.p (PV.int IntKind.u64 0),LV.p (PV.int IntKind.u32 0),LV.p (PV.int IntKind.i32 0),LV.p (PV.int IntKind.u32 0),LV.p (PV.int IntKind.i64 0),LV.p (PV.int IntKind.u64 0),LV.p (PV.int IntKind.u32 0),LV.p (PV.int IntKind.i32 0),LV.p (PV.int IntKind.u32 0),LV.p (PV.int IntKind.i64 0),LV.p (PV.int IntKind.u64 0),LV.p (PV.int IntKind.u32 0),LV.p (PV.int IntKind.i32 0),LV.p (PV.int IntKind.u32 0),LV.p (PV.int IntKind.i64 0),LV.p (PV.int IntKind.u64 0),LV.p (PV.int IntKind.u32 0),LV.p (PV.int IntKind.i32 0),LV.p (PV.int IntKind.u32 0),LV.p (PV.int IntKind.i64 0),LV.p (PV.int IntKind.u64 0),LV.p (PV.int IntKind.u32 0),LV.p (PV.int IntKind.i32 0),LV.p (PV.int IntKind.u32 0),LV.p (PV.int IntKind.i64 0),LV.p (PV.int IntKind.u64 0),LV.p (PV.int IntKind.u32 0),LV.p (PV.int IntKind.i32 0),LV.p (PV.int IntKind.u32 0),LV.p (PV.int IntKind.i64 0),LV.p (PV.int IntKind.u64 0),LV.p (PV.int IntKind.i64 0)],[(0,1),(1,1),(2,50),(52,1)]):=by kernel_rfl
theorem GP :cE Tryz.prog 247=some ([LV.p (PV.int IntKind.u64 0),LV.p (PV.int IntKind.u64 0)],[(0,1),(1,1)]):=by kernel_rfl
theorem GV :cE Tryz.prog 252=some ([LV.p (PV.int IntKind.i64 0),LV.p (PV.int IntKind.i64 0),LV.p (PV.int IntKind.i64 0),LV.p (PV.int IntKind.i64 0)],[(0,1),(1,1),(2,1),(3,1)]):=by kernel_rfl
theorem fu :lp Tryz.prog 32 2=true:=by kernel_rfl
theorem F0 :lp Tryz.prog 34 4=true:=by kernel_rfl
theorem rx :lp Tryz.prog 65 5=true:=by kernel_rfl
theorem yp :lp Tryz.prog 111 4=true:=by kernel_rfl
theorem Hm :lp Tryz.prog 194 3=true:=by kernel_rfl
theorem E7 :lp Tryz.prog 202 2=true:=by kernel_rfl
theorem E6 :lp Tryz.prog 247 2=true:=by kernel_rfl
theorem dY :az Tryz.prog 25 0=some (0,1,false):=by kernel_rfl
theorem tS :az Tryz.prog 25 1=some (1,1,false):=by kernel_rfl
theorem jg :az Tryz.prog 25 2=some (2,1,false):=by kernel_rfl
theorem pp :az Tryz.prog 25 3=some (3,1,false):=by kernel_rfl
theorem jh :az Tryz.prog 25 4=some (4,1,false):=by kernel_rfl
theorem aL :az Tryz.prog 29 0=some (0,1,false):=by kernel_rfl
theorem aQ :az Tryz.prog 29 1=some (1,1,false):=by kernel_rfl
theorem kr :az Tryz.prog 34 0=some (0,2,true):=by kernel_rfl
theorem tP :az Tryz.prog 34 1=some (2,1,false):=by kernel_rfl
theorem tQ :az Tryz.prog 34 2=some (3,1,false):=by kernel_rfl
theorem cI :az Tryz.prog 36 0=some (0,1,false):=by kernel_rfl
theorem bB :az Tryz.prog 36 1=some (1,1,false):=by kernel_rfl
theorem aZ :az Tryz.prog 36 2=some (2,2,true):=by kernel_rfl
theorem be :az Tryz.prog 36 3=some (4,2,true):=by kernel_rfl
theorem bp :az Tryz.prog 36 4=some (6,1,false):=by kernel_rfl
theorem eR :az Tryz.prog 36 5=some (7,4,true):=by kernel_rfl
theorem dR :az Tryz.prog 36 6=some (11,1,false):=by kernel_rfl
theorem eD :az Tryz.prog 65 0=some (0,1,false):=by kernel_rfl
theorem tR :az Tryz.prog 65 1=some (1,1,false):=by kernel_rfl
theorem fj :az Tryz.prog 65 2=some (2,2,true):=by kernel_rfl
theorem Dd :az Tryz.prog 65 3=some (4,1,false):=by kernel_rfl
theorem jK :az Tryz.prog 67 0=some (0,1,false):=by kernel_rfl
theorem jL :az Tryz.prog 67 1=some (1,1,false):=by kernel_rfl
theorem il :az Tryz.prog 67 2=some (2,5,true):=by kernel_rfl
theorem fG :az Tryz.prog 67 3=some (7,2,true):=by kernel_rfl
theorem aB :az Tryz.prog 71 0=some (0,12,true):=by kernel_rfl
theorem im :az Tryz.prog 71 1=some (12,5,true):=by kernel_rfl
theorem dc :az Tryz.prog 71 2=some (17,1,false):=by kernel_rfl
theorem oh :az Tryz.prog 71 3=some (18,1,false):=by kernel_rfl
theorem iq :az Tryz.prog 111 0=some (0,1,false):=by kernel_rfl
theorem gG :az Tryz.prog 111 1=some (1,1,false):=by kernel_rfl
theorem gH :az Tryz.prog 111 2=some (2,2,true):=by kernel_rfl
theorem Db :az Tryz.prog 153 0=some (0,1,false):=by kernel_rfl
theorem Dc :az Tryz.prog 153 1=some (1,1,false):=by kernel_rfl
theorem fi :az Tryz.prog 176 0=some (0,2,true):=by kernel_rfl
theorem mm :az Tryz.prog 176 1=some (2,1,false):=by kernel_rfl
theorem qv :az Tryz.prog 176 2=some (3,1,false):=by kernel_rfl
theorem yD :az Tryz.prog 176 3=some (4,1,false):=by kernel_rfl
theorem qw :az Tryz.prog 176 4=some (5,1,false):=by kernel_rfl
theorem eT :az Tryz.prog 190 0=some (0,2,true):=by kernel_rfl
theorem ip :az Tryz.prog 190 1=some (2,2,true):=by kernel_rfl
theorem lq :az Tryz.prog 190 2=some (4,1,false):=by kernel_rfl
theorem rE :az Tryz.prog 190 3=some (5,1,false):=by kernel_rfl
theorem og :az Tryz.prog 194 0=some (0,1,false):=by kernel_rfl
theorem tO :az Tryz.prog 194 1=some (1,2,true):=by kernel_rfl
theorem rD :az Tryz.prog 199 0=some (0,1,false):=by kernel_rfl
theorem vG :az Tryz.prog 199 1=some (1,1,false):=by kernel_rfl
theorem vH :az Tryz.prog 202 0=some (0,1,false):=by kernel_rfl
theorem yu :az Tryz.prog 221 1=some (0,1,false):=by kernel_rfl
theorem tL :az Tryz.prog 223 0=some (0,1,false):=by kernel_rfl
theorem yv :az Tryz.prog 225 1=some (0,2,true):=by kernel_rfl
theorem qu :az Tryz.prog 227 1=some (0,1,true):=by kernel_rfl
theorem yw :az Tryz.prog 227 2=some (1,2,true):=by kernel_rfl
theorem yx :az Tryz.prog 229 0=some (0,3,true):=by kernel_rfl
theorem yy :az Tryz.prog 229 1=some (3,1,false):=by kernel_rfl
theorem yz :az Tryz.prog 229 2=some (4,1,false):=by kernel_rfl
theorem yA :az Tryz.prog 233 2=some (0,1,false):=by kernel_rfl
theorem yB :az Tryz.prog 235 0=some (0,1,false):=by kernel_rfl
theorem tM :az Tryz.prog 235 1=some (1,1,false):=by kernel_rfl
theorem yC :az Tryz.prog 235 2=some (2,50,true):=by kernel_rfl
theorem tN :az Tryz.prog 235 3=some (52,1,true):=by kernel_rfl
theorem kS :dT Tryz.prog 173=some (32,3,2,true):=by kernel_rfl
theorem Dw :dT Tryz.prog 174=some (111,4,4,true):=by kernel_rfl
theorem Ds :dT Tryz.prog 196=some (202,32,2,true):=by kernel_rfl
theorem Dt :dT Tryz.prog 197=some (202,4,2,true):=by kernel_rfl
theorem F8 :dT Tryz.prog 239=some (3,4,1,false):=by kernel_rfl
theorem F9 :dT Tryz.prog 241=some (32,4,2,true):=by kernel_rfl
theorem ei :cX Tryz.prog 22=some (1,8):=by kernel_rfl
theorem cw :cX Tryz.prog 26=some (5,40):=by kernel_rfl
theorem bD :cX Tryz.prog 27=some (4,32):=by kernel_rfl
theorem bL :cX Tryz.prog 30=some (9,104):=by kernel_rfl
theorem A4 :cX Tryz.prog 106=some (1,8):=by kernel_rfl
theorem xA :cX Tryz.prog 145=some (1,24):=by kernel_rfl
theorem ey :cX Tryz.prog 155=some (2,16):=by kernel_rfl
theorem HE :cX Tryz.prog 162=some (1,8):=by kernel_rfl
theorem aW :bk Tryz.prog 3=some (1,false):=by kernel_rfl
theorem uf :bk Tryz.prog 4=some (1,false):=by kernel_rfl
theorem L3 :bk Tryz.prog 21=some (1,false):=by kernel_rfl
theorem iM :bk Tryz.prog 22=some (1,false):=by kernel_rfl
theorem gA :bk Tryz.prog 23=some (1,false):=by kernel_rfl
theorem aY :bk Tryz.prog 25=some (5,true):=by kernel_rfl
theorem cd :bk Tryz.prog 26=some (1,false):=by kernel_rfl
theorem co :bk Tryz.prog 27=some (1,false):=by kernel_rfl
theorem aI :bk Tryz.prog 29=some (2,true):=by kernel_rfl
theorem bY :bk Tryz.prog 30=some (1,false):=by kernel_rfl
theorem ay :bk Tryz.prog 32=some (2,true):=by kernel_rfl
theorem fl :bk Tryz.prog 34=some (4,true):=by kernel_rfl
theorem aE :bk Tryz.prog 36=some (12,true):=by kernel_rfl
theorem bW :bk Tryz.prog 65=some (5,true):=by kernel_rfl
theorem dG :bk Tryz.prog 67=some (9,true):=by kernel_rfl
theorem xG :bk Tryz.prog 78=some (1,false):=by kernel_rfl
theorem HG :bk Tryz.prog 79=some (3,true):=by kernel_rfl
theorem cp :bk Tryz.prog 111=some (4,true):=by kernel_rfl
theorem DO :bk Tryz.prog 135=some (1,false):=by kernel_rfl
theorem HH :bk Tryz.prog 151=some (1,false):=by kernel_rfl
theorem DT :bk Tryz.prog 153=some (2,true):=by kernel_rfl
theorem DS :bk Tryz.prog 155=some (1,false):=by kernel_rfl
theorem DQ :bk Tryz.prog 170=some (1,false):=by kernel_rfl
theorem A9 :bk Tryz.prog 173=some (1,false):=by kernel_rfl
theorem yZ :bk Tryz.prog 174=some (1,false):=by kernel_rfl
theorem p7 :bk Tryz.prog 194=some (3,true):=by kernel_rfl
theorem xF :bk Tryz.prog 196=some (1,false):=by kernel_rfl
theorem DN :bk Tryz.prog 197=some (1,false):=by kernel_rfl
theorem ue :bk Tryz.prog 199=some (2,true):=by kernel_rfl
theorem nk :bk Tryz.prog 202=some (2,true):=by kernel_rfl
theorem sg :bk Tryz.prog 215=some (1,false):=by kernel_rfl
theorem DP :bk Tryz.prog 239=some (1,false):=by kernel_rfl
theorem DR :bk Tryz.prog 241=some (1,false):=by kernel_rfl
theorem sh :bk Tryz.prog 247=some (2,true):=by kernel_rfl
theorem xH :bk Tryz.prog 252=some (4,true):=by kernel_rfl
theorem p8 :bk Tryz.prog 269=some (1,false):=by kernel_rfl
theorem Fx :kN Tryz.prog 3=some (LV.p (PV.int IntKind.i64 0)):=by kernel_rfl
theorem KJ :kN Tryz.prog 4=some (LV.p (PV.bool false)):=by kernel_rfl
theorem L5 :kN Tryz.prog 32=some (LV.p (PV.agg [PV.int IntKind.u64 0,PV.int IntKind.u64 0])):=by kernel_rfl
theorem Mm :cC Tryz.prog 3=some [LV.p (PV.int IntKind.i64 0)]:=by kernel_rfl
theorem L6 :cC Tryz.prog 22=some [LV.zs]:=by kernel_rfl
theorem KN :cC Tryz.prog 25=some [LV.zs,LV.p (PV.int IntKind.u64 0),LV.p (PV.int IntKind.i64 0),LV.p (PV.int IntKind.i64 0),LV.p (PV.int IntKind.i64 0)]:=by kernel_rfl
theorem L7 :cC Tryz.prog 27=some [LV.zs]:=by kernel_rfl
theorem f8 :cC Tryz.prog 29=some [LV.zs,LV.zs]:=by kernel_rfl
theorem fm :cC Tryz.prog 32=some [LV.p (PV.int IntKind.u64 0),LV.p (PV.int IntKind.u64 0)]:=by kernel_rfl
theorem HK :cC Tryz.prog 34=some [LV.p (PV.int IntKind.u64 0),LV.p (PV.int IntKind.u64 0),LV.p (PV.int IntKind.i64 0),LV.p (PV.int IntKind.i64 0)]:=by kernel_rfl
theorem eG :cC Tryz.prog 36=some [LV.p (PV.int IntKind.i64 0),LV.p (PV.int IntKind.i64 0),LV.zs,LV.zs,LV.zs,LV.zs,LV.zs,LV.p (PV.int IntKind.u64 0),LV.p (PV.int IntKind.u64 0),LV.p (PV.int IntKind.i64 0),LV.p (PV.int IntKind.i64 0),LV.p (PV.bool false)]:=by kernel_rfl
theorem sn :cC Tryz.prog 65=some [LV.p (PV.int IntKind.i64 0),LV.p (PV.int IntKind.i64 0),LV.p (PV.int IntKind.u64 0),LV.p (PV.int IntKind.u64 0),LV.p (PV.int IntKind.u64 0)]:=by kernel_rfl
theorem np :cC Tryz.prog 67=some [LV.p (PV.int IntKind.i64 0),LV.p (PV.int IntKind.i64 0),LV.p (PV.int IntKind.i64 0),LV.p (PV.int IntKind.i64 0),LV.p (PV.int IntKind.u64 0),LV.p (PV.int IntKind.u64 0),LV.p (PV.int IntKind.u64 0),LV.zs,LV.zs]:=by kernel_rfl
theorem HL :cC Tryz.prog 79=some [LV.any,LV.any,LV.any]:=by kernel_rfl
theorem sz :cC Tryz.prog 111=some [LV.p (PV.int IntKind.i64 0),LV.p (PV.int IntKind.i64 0),LV.p (PV.int IntKind.u64 0),LV.p (PV.int IntKind.u64 0)]:=by kernel_rfl
theorem D2 :cC Tryz.prog 153=some [LV.any,LV.any]:=by kernel_rfl
theorem KL :cC Tryz.prog 170=some [LV.any]:=by kernel_rfl
theorem Gl :cC Tryz.prog 194=some [LV.p (PV.int IntKind.i64 0),LV.p (PV.int IntKind.u64 0),LV.p (PV.int IntKind.u64 0)]:=by kernel_rfl
theorem xL :cC Tryz.prog 199=some [LV.nilmap,LV.nilmap]:=by kernel_rfl
theorem D1 :cC Tryz.prog 202=some [LV.p (PV.int IntKind.i64 0),LV.p (PV.int IntKind.i64 0)]:=by kernel_rfl
theorem KK :cC Tryz.prog 239=some [LV.nilmap]:=by kernel_rfl
theorem KM :cC Tryz.prog 241=some [LV.nilmap]:=by kernel_rfl
theorem xK :cC Tryz.prog 247=some [LV.p (PV.int IntKind.u64 0),LV.p (PV.int IntKind.u64 0)]:=by kernel_rfl
theorem xM :cC Tryz.prog 252=some [LV.p (PV.int IntKind.i64 0),LV.p (PV.int IntKind.i64 0),LV.p (PV.int IntKind.i64 0),LV.p (PV.int IntKind.i64 0)]:=by kernel_rfl
theorem Gm :cC Tryz.prog 269=some [LV.any]:=by kernel_rfl
end
abbrev ID :=Int×Int
def aR (p:ID):PV:=.agg [.int .u64 p.1,.int .u64 p.2]
def jc (x:Int):PV:=.int .u64 x
structure Bk where
 Slot:Int
 From:Int
 Parent:ID
 Salt:Int
 deriving DecidableEq
def av (b:Bk):PV:=.agg [.int .i64 b.Slot,.int .i64 b.From,.int .u64 b.Parent.1,.int .u64 b.Parent.2,.int .u64 b.Salt]
structure Vt where
 From:Int
 Slot:Int
 Head:ID
 deriving DecidableEq
def aK (v:Vt):PV:=.agg [.int .i64 v.From,.int .i64 v.Slot,.int .u64 v.Head.1,.int .u64 v.Head.2]
structure Cf where
 W:List Int
 Seed:Int
 Epoch:Int
 Num:Int
 Den:Int
def fz (c:Cf):PV:=.agg [.slice 1 (c.W.map aT),.int .u64 c.Seed,.int .i64 c.Epoch,.int .i64 c.Num,.int .i64 c.Den]
structure Vw where
 B:List Bk
 V:List Vt
def gW (v:Vw):PV:=.agg [.slice 5 (v.B.map av),.slice 4 (v.V.map aK)]
structure Cu where
 ID:Go.Mg.ID
 Slot:Int
 Revoked:Int
 deriving DecidableEq
def qc (c:Cu):PV:=.agg [.int .u64 c.ID.1,.int .u64 c.ID.2,.int .i64 c.Slot,.int .i64 c.Revoked]
structure Rk where
 n:Int
 id:Go.Mg.ID
def Mk (c:Rk):PV:=.agg [.int .i64 c.n,.int .u64 c.id.1,.int .u64 c.id.2]
theorem JX {a b:ID}{r:Bool}(h:cK [.int .u64 a.1,.int .u64 a.2] [.int .u64 b.1,.int .u64 b.2]=some r):r=decide (a=b):=by
 rw[ru]at h;cases h;obtain⟨x,y⟩:=a;obtain⟨z,w⟩:=b;simp only[Bool.and_true,Prod.mk.injEq];by_cases h1:x=z <;>by_cases h2:y=w <;>simp[h1,h2]
theorem eU :fE aR 2 true:=⟨fun a b=>by
 obtain⟨x,y⟩:=a;obtain⟨z,w⟩:=b;simp only[aR,iv,ru,Bool.and_true,Prod.mk.injEq,Option.some.injEq]
 by_cases h1:x=z <;>by_cases h2:y=w <;>simp[h1,h2],fun _=>rfl⟩
theorem Dh :fE aT 1 false:=⟨fun a b=>by simp only[aT,iv,if_pos,Option.some.injEq];by_cases h:a=b <;>simp[h],fun _=>rfl⟩
theorem y0 :fE aK 4 true:=⟨fun a b=>by
 obtain⟨a1,a2,a3⟩:=a;obtain⟨b1,b2,b3⟩:=b;simp only[aK,iv,cK,if_pos,Option.some.injEq,Vt.mk.injEq];rw[Bool.eq_iff_iff];obtain⟨a3,a4⟩:=a3;obtain⟨b3,b4⟩:=b3
 simp,fun _=>rfl⟩
theorem n7 (a b:ID):((a.1==b.1)&&((a.2==b.2)&&true))=decide (a=b):=by
 obtain⟨x,y⟩:=a;obtain⟨z,w⟩:=b;by_cases h1:x=z <;>by_cases h2:y=w <;>simp[h1,h2]
theorem E4 (a b:Bk):((a.Slot==b.Slot)&&((a.From==b.From)&&((a.Parent.1==b.Parent.1)&&((a.Parent.2==b.Parent.2)&&((a.Salt==b.Salt)&&true)))))=decide (a=b):=by
 obtain⟨a1,a2,⟨a3,a4⟩,a5⟩:=a;obtain⟨b1,b2,⟨b3,b4⟩,b5⟩:=b;simp only[Bool.and_true,Bk.mk.injEq,Prod.mk.injEq];rw[Bool.eq_iff_iff];simp[and_assoc]
theorem E5 (a b:Vt):((a.From==b.From)&&((a.Slot==b.Slot)&&((a.Head.1==b.Head.1)&&((a.Head.2==b.Head.2)&&true))))=decide (a=b):=by
 obtain⟨a1,a2,⟨a3,a4⟩⟩:=a;obtain⟨b1,b2,⟨b3,b4⟩⟩:=b;rw[Bool.eq_iff_iff];simp
theorem LX (a b:Cu):((a.ID.1==b.ID.1)&&((a.ID.2==b.ID.2)&&((a.Slot==b.Slot)&&((a.Revoked==b.Revoked)&&true))))=decide (a=b):=by
 obtain⟨⟨a1,a2⟩,a3,a4⟩:=a;obtain⟨⟨b1,b2⟩,b3,b4⟩:=b;rw[Bool.eq_iff_iff];simp[and_assoc]
abbrev kB (l:List Bk):LV:=.p (.slice 5 (l.map av))
abbrev kV (l:List Vt):LV:=.p (.slice 4 (l.map aK))
abbrev kI (l:List Int):LV:=.p (.slice 1 (l.map aT))
abbrev jB (i:Nat)(l:List Bk):LV:=.vec 5 i (l.map av).length 0 (l.map av).length
abbrev jV (i:Nat)(l:List Vt):LV:=.vec 4 i (l.map aK).length 0 (l.map aK).length
abbrev jI (i:Nat)(l:List Int):LV:=.vec 1 i (l.map aT).length 0 (l.map aT).length
abbrev mQ (m:List (ID×Int)):ab:=.map (ao aR (fun v=>.p (.int .i64 v)) m)
abbrev mR (m:List (Vt×Bool)):ab:=.map (ao aK (fun v=>.p (.bool v)) m)
abbrev bN (c:Cf):List LV:=[.p (.slice 1 (c.W.map aT)),.p (.int .u64 c.Seed),.p (.int .i64 c.Epoch),.p (.int .i64 c.Num),.p (.int .i64 c.Den)]
abbrev cG (w:Vw):List LV:=[.p (.slice 5 (w.B.map av)),.p (.slice 4 (w.V.map aK))]
open Go.Proofs
def HI (x:Int):Int:=
 let a:=IntKind.u64.wrap (bits .xor .u64 x (x.fdiv (2 ^ (min (Int.toNat 30) IntKind.u64.bits)))*13787848793156543929)
 let b:=IntKind.u64.wrap (bits .xor .u64 a (a.fdiv (2 ^ (min (Int.toNat 27) IntKind.u64.bits)))*10723151780598845931)
 bits .xor .u64 b (b.fdiv (2 ^ (min (Int.toNat 31) IntKind.u64.bits)))
def step (h x:Int):Int:=HI (IntKind.u64.wrap (bits .xor .u64 h x+11400714819323198485))
def JZ (x:Int):Int:=bits .xor .u64 (if IntKind.u64.signed then -1 else IntKind.u64.max) x
theorem Lo {x:Int}:ar Tryz.prog 152 [.int .u64 x] [.int .u64 (HI x)]:=by
 refine zh Tryz.func152 Z Z Z Z ?_;refine zQ<|zR<|yS Z (za Z Z)<|zN<|zT<|zQ<|zR<|yS Z (zm Z Z)<|yS Z (zm Z Z)<|yS Z (aa.shr Z Z Z (by decide))<|yS Z (ap Z Z Z Z)<|yS Z (ap Z Z Z Z)<|yS Z (za Z Z)<|zN<|zT<|zQ<|zR<|yS Z (zm Z Z)<|yS Z (zm Z Z)<|yS Z (aa.shr Z Z Z (by decide))<|yS Z (ap Z Z Z Z)<|yS Z (ap Z Z Z Z)<|yS Z (za Z Z)<|zN ?_;exact zT<|zQ<|zR<|yS Z (zm Z Z)<|yS Z (zm Z Z)<|yS Z (aa.shr Z Z Z (by decide))<|yS Z (ap Z Z Z Z)<|yS Z (za Z Z)<|zN<|zT<|zr<|zf (.one (.tmp Z)) zv
theorem vn {h x:Int}:ar Tryz.prog 125 [.int .u64 h,.int .u64 x] [.int .u64 (step h x)]:=by
 refine zh Tryz.func125 Z Z Z Z ?_;exact zQ<|zR<|yS Z (za Z Z)<|zN<|zT<|zQ<|zR<|yS Z (zm Z Z)<|yS Z (zm Z Z)<|yS Z (ap Z Z Z Z)<|yS Z (ap Z Z Z Z)<|yS Z (zC Z Z Z (by kernel_rfl) (zp Lo (.cons zv .nil)))<|yS Z (za Z Z)<|zN<|zT<|zr<|zf (.one (.tmp Z)) zv
theorem IP {x a b:Int}{id:Nat}{H H':List ab}(hH:bc H id=some (.box [(uQ a),(uQ b)]))(hH':bq H id (.box [.p (.int .u64 (step a x)),.p (.int .u64 (step b (JZ x)))])=some H'):LC Tryz.prog 124 [(uQ x),.ptr id 0] H (Is (.tup []) H'):=by
 refine fy Tryz.func124 Z Z Z ?_;exact LW.drawLast (m:=10) (by kernel_rfl) (by kernel_rfl) (by kernel_rfl)<|yE Z (aa.indexAddrA Z Z Z nV (by decide) (by decide))<|yE Z (zD Z Z hH gA Z Z)<|yE Z (zm Z Z)<|yE Z (zC Z Z Z (by kernel_rfl) (zp vn (.cons zv (.cons zv .nil))))<|yE Z (aa.indexAddrA Z Z Z nV (by decide) (by decide))<|yE Z (zD Z Z hH gA Z Z)<|yE Z (zm Z Z)<|yE Z (aa.compl Z Z)<|yE Z (zC Z Z Z (by kernel_rfl) (zp vn (.cons zv (.cons zv .nil))))<|yE Z (aa.build Z lm Z Z Z)<|LO.nil<|yS Z (zs Z Z Z hH ay Z Z Z hH')<|zN<|gM .none<|⟨rfl,rfl⟩
open Go.Proofs
def gR (p:Int×Int)(x:Int):Int×Int:=(step p.1 x,step p.2 (JZ x))
def ow (l:List Int):Int×Int:=gR (l.foldl gR (1,2)) (IntKind.u64.wrap l.length)
theorem MC {l:List Int}:ar Tryz.prog 72 [.slice 1 (l.map jc)] [aR (ow l)]:=by
 refine zh Tryz.func72 Z Z Z Z ?_;refine zQ ?_;refine LW.ok (t:=0) Z<|fun ok=>?_;have hlen:=ok.len;simp only[List.length_map,maxLen]at hlen;refine zR<|yS Z (ze Z fm Z Z)<|zN<|zT<|zQ<|zR<|yS Z (aa.build Z lm Z Z Z)<|yS Z (ze Z fm Z Z)<|yS Z (zs Z Z Z Z ay Z Z Z Z)<|zN<|zT<|zQ<|zR<|yS Z (aa.makeFunc Z Z Z)<|yS Z (za Z Z)<|zN<|zT<|zQ<|zQ<|zR<|yS Z (zm Z Z)<|yS Z (aa.len Z Z (by kernel_rfl))<|yS Z (zm Z Z)<|zN ?_;refine zT<|zl ?_;refine LW.loopOf (E:=fun x:Nat×Int×Int=>[(0,.p (.slice 1 (l.map jc))),(2,.ptr 0 0),(3,.ptr 1 0),(4,.fn 124 [] [.ptr 1 0]),(9,.p (.slice 1 (l.map jc))),(10,.p (.int .i64 (l.map jc).length)),(11,.p (.int .i64 (x.1:Nat)))]) (O:=fun x=>[.box [(uQ 0),(uQ 0)],.box [(uQ x.2.1),(uQ x.2.2)]]) (G:=fun x=>x.1≤l.length∧x.2=(l.take x.1).foldl gR (1,2)) (meas:=fun x=>l.length-x.1) (0,1,2) (zW 2 ⟨rfl,rfl,rfl,rfl,rfl,rfl,rfl,trivial⟩ Z Z Z Z) ⟨Nat.zero_le _,rfl⟩<|fun x hx=>?_;refine zQ<|zR<|yS Z (ap Z Z Z Z)<|zN<|zT<|zQ ?_;refine zX Z (fun g1=>?_)<|fun g1=>?_
 ·refine zk<|zT<|zQ<|zl<|zQ ?_
  have hlt:x.1<l.length:=by simpa using g1
  obtain⟨y,hy⟩:=ot hlt;refine zR (yS Z (aa.indexAddr Z Z Z A4 (by omega) (tW hy) Z) (yS Z (ci Z Z Z gA Z Z) (yS Z (za Z Z) (zN (zT (zR (yS Z (zm Z Z) (yS Z (zm Z Z) (yS Z (zC Z Z Z (by kernel_rfl) (IP (id:=1) Z Z)) (zN (ai (zT (zR (yS Z (aa.isEq (y:=.p (.int .i64 ((x.1+1:Nat):Int))) (ap Z Z Z Z) (by rw[cJ (by omega) (by omega)];rfl)) (yS Z (zm Z Z) (zN (zT ?_)))))))))))))))));refine⟨(x.1+1,gR x.2 y),?_,?_,zW 2 ⟨rfl,rfl,rfl,rfl,rfl,rfl,rfl,trivial⟩ Z Z Z rfl⟩
  ·simp only;omega
  ·refine⟨hlt,?_⟩;rw[List.take_add_one,hy,List.foldl_append,←hx.2];rfl
 ·refine zq<|aj<|aj<|zy<|zT<|zQ ?_
  have hnlt:¬x.1<l.length:=by simpa using g1
  have hend:x.1=l.length:=by omega
  have hfold:x.2=l.foldl gR (1,2):=by rw[hx.2,hend,List.take_length]
  refine zR<|yS Z (zm Z Z)<|yS Z (zm Z Z)<|yS Z (aa.len Z Z (by kernel_rfl))<|yS Z (aa.convert (k':=.u64) Z Z (by kernel_rfl))<|yS Z (zC Z Z Z (by kernel_rfl) (IP (id:=1) Z Z))<|zN<|zT<|zQ<|zR<|yS Z (zD Z Z Z ay Z Z)<|yS Z (zs Z Z Z Z ay Z Z Z Z)<|zN<|zT<|zr<|zf (.one (.cellAgg Z Z (by kernel_rfl) Z))<|Conv.pe ?_;simp only[List.length_map,aR,ow,←hfold];rfl
open Go.Proofs
def jQ (b:Bk):List Int:=[1,IntKind.u64.wrap b.Slot,IntKind.u64.wrap b.From,b.Parent.1,b.Parent.2,b.Salt]
def nm (b:Bk):ID:=ow (jQ b)
def an (l:List ID)(v:ID):Int:=match l.findIdx? (fun x=>decide (v=x))with|some i=>(i:Nat)|none=> -1
theorem iu {l:List ID}{v:ID}{i:Nat}(h:l[i]?=some v)(hno:∀j,j<i→l[j]?≠some v):an l v=i:=by
 have hi:=(List.getElem?_eq_some_iff.1 h).1
 have:l.findIdx? (fun x=>decide (v=x))=some i:=by
  rw[List.findIdx?_eq_some_iff_getElem];refine⟨hi,by simp[(List.getElem?_eq_some_iff.1 h).2],fun j hj=>?_⟩;have:=hno j hj;rw[List.getElem?_eq_getElem (by omega)]at this;simpa using fun e=>this (by rw[e])
 simp[an,this]
theorem gO {l:List ID}{v:ID}(hno:∀j,j<l.length→l[j]?≠some v):an l v= -1:=by
 have:l.findIdx? (fun x=>decide (v=x))=none:=by
  rw[List.findIdx?_eq_none_iff];intro x hx;obtain⟨j,hj,rfl⟩:=List.mem_iff_getElem.1 hx;have:=hno j hj;rw[List.getElem?_eq_getElem hj]at this;simpa using fun e=>this (by rw[e])
 simp[an,this]
theorem G4 {b:Bk}:ar Tryz.prog 35 [av b] [aR (nm b)]:=by
 refine zh Tryz.func35 Z Z Z Z ?_;refine zQ<|zR<|yS Z (bw Z Z Z Z Z)<|yS Z (ze Z fm Z Z)<|zN<|zT<|zQ<|zR<|yS Z (zA Z Z eD)<|yS Z (zD Z Z Z aW Z Z)<|yS Z (aa.convert (k':=.u64) Z Z (by kernel_rfl))<|yS Z (zA Z Z tR)<|yS Z (zD Z Z Z aW Z Z)<|yS Z (aa.convert (k':=.u64) Z Z (by kernel_rfl))<|yS Z (zA Z Z fj)<|yS Z (aa.indexAddrA Z Z Z nV (by decide) (by decide))<|yS Z (zD Z Z Z gA Z Z)<|yS Z (zA Z Z fj)<|yS Z (aa.indexAddrA Z Z Z nV (by decide) (by decide))<|yS Z (zD Z Z Z gA Z Z)<|yS Z (zA Z Z Dd)<|yS Z (zD Z Z Z gA Z Z)<|yS Z (iO Z A4 Z Z Z Z Z)<|yS Z (zC Z Z Z (by kernel_rfl) (zp (MC (l:=jQ b)) (.cons zv .nil))) ?_;exact yS Z (zs Z Z Z Z ay Z Z Z Z)<|zN<|zT<|zr<|zf (.one (.cellAgg Z Z (by kernel_rfl) Z)) zv
theorem KV {l:List ID}{v:ID}:ar Tryz.prog 132 [.slice 2 (l.map aR),aR v] [.int .i64 (an l v)]:=by
 refine zh Tryz.func132 Z Z Z Z ?_;refine zQ ?_;refine LW.ok (t:=0) Z<|fun ok=>?_;have hlen:=ok.len;simp only[List.length_map,maxLen]at hlen;refine zR<|yS Z (bw Z Z Z Z Z)<|yS Z (za Z Z)<|zN<|zT<|zQ<|zQ<|zR<|yS Z (zm Z Z)<|yS Z (aa.len Z Z (by kernel_rfl))<|yS Z (zm Z Z)<|zN<|zT<|zl ?_;refine LW.loopOf (E:=fun x:Nat=>[(0,.p (.slice 2 (l.map aR))),(3,.ptr 0 0),(6,.p (.slice 2 (l.map aR))),(7,.p (.int .i64 (l.map aR).length)),(8,.p (.int .i64 (x:Nat)))]) (O:=fun x=>[.box [(uQ v.1),(uQ v.2)]]) (G:=fun x=>x≤l.length∧∀j,j<x→l[j]?≠some v) (meas:=fun x=>l.length-x) 0 (zW 1 ⟨rfl,rfl,rfl,rfl,rfl,trivial⟩ Z Z Z Z) ⟨Nat.zero_le _,fun j hj=>absurd hj (by omega)⟩<|fun x hx=>?_;refine zQ<|zR<|yS Z (ap Z Z Z Z)<|zN<|zT<|zQ ?_;refine zX Z (fun g1=>?_)<|fun g1=>?_
 ·refine zk<|zT<|zQ<|zl<|zQ ?_
  have hlt:x<l.length:=by simpa using g1
  obtain⟨y,hy⟩:=ot hlt;refine zR<|yS Z (zm Z Z)<|yS Z (za Z Z)<|zN<|zT<|zQ<|LW.draw2 (by kernel_rfl) (by kernel_rfl)<|yE Z (zD Z Z Z ay Z Z)<|yE Z (zm Z Z)<|yE Z (zm Z Z)<|yE Z (aa.indexAddr Z Z Z ey (by omega) (tW hy) Z)<|yE Z (ci Z Z Z ay Z Z)<|yE Z (aa.eqlAgg Z Z Z Z Z fu)<|LO.nil<|zT ?_;refine zX Z (fun g2=>?_)<|fun g2=>?_
  ·refine zQ ?_;have he:v=y:=of_decide_eq_true ((JX (a:=v) (b:=y) rfl).symm.trans g2);exact zR (yS Z (zm Z Z) (yS Z (za Z Z) (zN (zT (zr (aq (af (af (aq (af (zf (.one (.tmp Z)) (Conv.pe (by rw[iu (hy.trans (congrArg some he.symm)) hx.2])))))))))))))
  ·refine zk<|ai<|zT ?_;have hne:v≠y:=of_decide_eq_false ((JX (a:=v) (b:=y) rfl).symm.trans g2);refine zR (yS Z (aa.isEq (y:=.p (.int .i64 ((x+1:Nat):Int))) (ap Z Z Z Z) (by rw[cJ (by omega) (by omega)];rfl)) (yS Z (zm Z Z) (zN (zT ?_))));refine⟨x+1,?_,?_,zW 1 ⟨rfl,rfl,rfl,rfl,rfl,trivial⟩ Z Z Z rfl⟩
   ·omega
   ·exact⟨hlt,fun j hj=>by rcases Nat.lt_succ_iff_lt_or_eq.1 hj with h|h;exact hx.2 j h;subst h;rw[hy];exact fun e=>hne (zJ e).symm⟩
 ·refine zq<|aj<|aj<|zy<|zT<|zQ ?_
  have hnlt:¬x<l.length:=by simpa using g1
  have hend:x=l.length:=by omega
  exact zR (yS Z (za Z Z) (zN (zT (zr (zf (.one (.tmp Z)) (Conv.pe (by rw[gO fun j hj=>hx.2 j (by omega)])))))))
theorem MB {l:List ID}{v:ID}:ar Tryz.prog 203 [.slice 2 (l.map aR),aR v] [.bool (decide (an l v≥0))]:=by
 refine zh Tryz.func203 Z Z Z Z ?_;exact zQ<|zR<|yS Z (bw Z Z Z Z Z)<|yS Z (za Z Z)<|zN<|zT<|zQ<|zR<|yS Z (zm Z Z)<|yS Z (zD Z Z Z ay Z Z)<|yS Z (zC Z Z Z (by kernel_rfl) (zp KV (.cons zv (.cons zv .nil))))<|yS Z (ap Z Z Z Z)<|yS Z (za Z Z)<|zN<|zT<|zr<|zf (.one (.tmp Z)) zv
open Go.Proofs
def bX (l:List Bk)(i:Int):Int:=if i= -1 then 0 else match l[i.toNat]? with
 |some b=>b.Slot
 |none=>0
abbrev F3 :Int→LV:=fun v=>(iQ v)
def cT (l:List Bk):List Bk→Nat→List (ID×Int)→Option (List (ID×Int))
 |[],_,m=>some m
 | b::r,i,m=>match ak m b.Parent with
  |none=>none
  |some p=>if b.Slot≤bX l p then none else match ak m (nm b)with
   |some _=>none
   |none=>cT l r (i+1) (m++[(nm b,(i:Int))])
def places (l:List Bk):Option (List (ID×Int)):=cT l l 0 [((0,0),-1)]
theorem dr {l:List Bk}{i:Nat}{y:Bk}(hy:l[i]?=some y)(m:List (ID×Int)):cT l (l.drop i) i m=match ak m y.Parent with
  |none=>none
  |some p=>if y.Slot≤bX l p then none else match ak m (nm y)with
   |some _=>none
   |none=>cT l (l.drop (i+1)) (i+1) (m++[(nm y,(i:Int))]):=by
 obtain⟨hi,rfl⟩:=List.getElem?_eq_some_iff.1 hy;rw[List.drop_eq_getElem_cons hi];rfl
theorem Lm {l:List Bk}{i:Int}{id:Nat}{H:List ab}(hH:bc H id=some (.box [(kB l)]))(hi:i= -1∨0≤i∧i<l.length) :
  LC Tryz.prog 209 [(iQ i),.ptr id 0] H (Is (.p (.int .i64 (bX l i))) H):=by
 refine fy Tryz.func209 Z Z Z ?_;refine zQ<|zR<|yS Z (za Z Z)<|zN<|zT<|zQ<|zQ<|zR<|yS Z (zm Z Z)<|yS Z (ap Z Z Z Z)<|zN<|zT ?_;refine zX Z (fun g1=>?_)<|fun g1=>?_
 ·refine zQ ?_
  have he:i= -1:=by simpa using g1
  exact zR<|yS Z (za Z Z)<|zN<|zT<|zr<|af<|aH (.one (.tmp Z))<|⟨by simp[bX,he],rfl⟩
 ·refine zk<|zT<|zQ ?_
  have hne:i≠-1:=by simpa using g1
  obtain⟨y,hy⟩:=ot (l:=l) (i:=i.toNat) (by omega)
  have hiy:(l.map av)[i.toNat]?=some (av y):=by simp[hy]
  exact zR<|yS Z (zD Z Z hH cd Z Z)<|yS Z (zm Z Z)<|yS Z (aa.indexAddr Z Z Z cw (by omega) hiy Z)<|yS Z (aa.fieldAddrC Z Z eD Z)<|yS Z (ci Z Z Z aW Z Z)<|yS Z (za Z Z)<|zN<|zT<|zr<|aH (.one (.tmp Z))<|⟨by simp[bX,hne,hy],rfl⟩
theorem c94 {l:List Bk}:LC Tryz.prog 167 [(kB l)] [] fun x H=>
  (∃m,places l=some m∧x=.tup [.map 1,(bQ true)]∧H=[.box [(kB l)],.map (ao aR F3 m)])∨(places l=none∧x=.tup [.nilmap,(bQ false)]∧H=[]):=by
 refine fy Tryz.func167 Z Z Z ?_;refine zQ ?_;refine LW.ok (t:=0) Z<|fun ok=>?_;have hlen:=ok.len;simp only[List.length_map,maxLen]at hlen;refine zR<|yS Z (bw Z Z Z Z Z)<|yS Z (za Z Z)<|yS Z (za Z Z)<|zN<|zT<|zQ<|zR<|yS Z (aa.makeMap Z Z Z)<|yS Z (aa.build Z lm Z Z Z)<|yS Z (aa.setNew (f:=aR) (g:=F3) (m:=[]) (a:=(0,0)) (v:= -1) eU Z (.inr Z) Z Z Z Z Z kS Z)<|yS Z (zm Z Z)<|yS Z (za Z Z)<|zN<|zT<|zQ<|zR<|yS Z (aa.makeFunc Z Z Z)<|yS Z (za Z Z)<|zN<|zT<|zQ<|zQ<|zR ?_;refine yS Z (zD Z Z Z cd Z Z)<|yS Z (aa.len Z Z (by kernel_rfl))<|yS Z (zm Z Z)<|zN<|zT<|zl ?_;refine LW.loopOf (E:=fun x:Nat×List (ID×Int)=>[(1,.ptr 0 0),(4,.map 1),(5,.fn 209 [] [.ptr 0 0]),(17,(kB l)),(18,.p (.int .i64 (l.map av).length)),(19,.p (.int .i64 (x.1:Nat)))]) (O:=fun x=>[.box [(kB l)],.map (ao aR F3 x.2)]) (G:=fun x=>x.1≤l.length∧cT l (l.drop x.1) x.1 x.2=places l∧∀k v,ak x.2 k=some v→v= -1∨0≤v∧v<l.length) (meas:=fun x=>l.length-x.1) (0,[((0,0),-1)]) (zW 2 ⟨rfl,rfl,rfl,rfl,rfl,rfl,trivial⟩ Z Z Z (zL Z (zL (ae (fun _=>rfl) _) Z))) ⟨Nat.zero_le _,rfl,fun k v h=>by unfold ak ak at h;split at h <;>cases h;exact .inl rfl⟩ (fun x hx=>?_);refine zQ<|zR<|yS Z (ap Z Z Z Z)<|zN<|zT<|zQ ?_;refine zX Z (fun g1=>?_)<|fun g1=>?_
 ·refine zk<|zT<|zQ<|zl<|zQ ?_
  have hlt:x.1<l.length:=by simpa using g1
  obtain⟨y,hy⟩:=ot hlt;refine zR<|yS Z (zm Z Z)<|yS Z (aa.indexAddr Z Z Z cw (by omega) (tW hy) Z)<|yS Z (ci Z Z Z bW Z Z)<|yS Z (ze Z sn Z Z)<|yS Z (za Z Z)<|yS Z (zs Z Z Z Z bW Z Z Z Z)<|zN<|zT<|zQ<|zR<|yS Z (zm Z Z)<|yS Z (zA Z Z fj)<|yS Z (zD Z Z Z ay Z Z) ?_;rcases hp:ak x.2 y.Parent with _|p
  ·refine yS Z ((aa.getMiss eU hp Z Z Z Z kS Fx Z))<|yS Z (zm Z Z)<|yS Z (dW Z Z Z)<|yS Z (dW Z Z Z)<|yS Z (za Z Z)<|yS Z (za Z Z)<|zN<|zT<|zQ<|zQ<|LW.draw2 (by kernel_rfl) (by kernel_rfl)<|yE Z (zm Z Z)<|yE Z (aa.not Z Z)<|yE Z (zm Z Z)<|LO.sk Z Z Z Z Z Z<|LO.sk Z Z Z Z Z Z<|LO.sk Z Z Z Z Z Z<|LO.sk Z Z Z Z Z Z<|LO.sk Z Z Z Z Z Z<|LO.sk Z Z Z Z Z Z<|yE Z (bx Z Z Z)<|LO.nil<|zT<|LW.condT Z ?_;refine zQ<|zR<|yS Z (za Z Z)<|yS Z (za Z Z)<|zN<|zT<|zr<|af<|aq<|af<|af<|aq<|af ?_;refine cr (env':=[(2,.nilmap),(3,(bQ false))]) (H':=[]) (zW 0 ⟨rfl,rfl,trivial⟩ Z Z Z Z) (.two (.tmp Z) (.tmp Z))<|.inr ⟨?_,rfl,rfl⟩;rw[←hx.2.1,dr hy]
   first|(simp only[hp];done)|(simp only[hp];rw[if_pos (of_decide_eq_true g2)];done)|(simp only[hp,hq];split <;>rfl)
  ·refine yS Z ((aa.getHit eU hp Z Z Z Z kS Z))<|yS Z (zm Z Z)<|yS Z (dW Z Z Z)<|yS Z (dW Z Z Z)<|yS Z (za Z Z)<|yS Z (za Z Z)<|zN<|zT<|zQ<|zQ<|LW.draw2 (by kernel_rfl) (by kernel_rfl)<|yE Z (zm Z Z)<|yE Z (aa.not Z Z)<|yE Z (zm Z Z)<|LO.gd Z Z Z Z Z (zA Z Z eD)<|LO.gd Z Z Z Z Z (zD Z Z Z aW Z Z)<|LO.gd Z Z Z Z Z (zm Z Z)<|LO.gd Z Z Z Z Z (zm Z Z)<|LO.gd Z Z Z Z Z (zC Z Z Z (by kernel_rfl) (Lm (id:=0) Z (hx.2.2 _ _ hp)))<|LO.gd Z Z Z Z Z (ap Z Z Z Z)<|yE Z (aO Z Z Z)<|LO.nil<|zT ?_;refine zX Z (fun g2=>?_)<|fun g2=>?_
   ·refine zQ<|zR<|yS Z (za Z Z)<|yS Z (za Z Z)<|zN<|zT<|zr<|af<|aq<|af<|af<|aq<|af ?_;refine cr (env':=[(2,.nilmap),(3,(bQ false))]) (H':=[]) (zW 0 ⟨rfl,rfl,trivial⟩ Z Z Z Z) (.two (.tmp Z) (.tmp Z))<|.inr ⟨?_,rfl,rfl⟩;rw[←hx.2.1,dr hy]
    first|(simp only[hp];done)|(simp only[hp];rw[if_pos (of_decide_eq_true g2)];done)|(simp only[hp,hq];split <;>rfl)
   ·refine zk<|zT<|zQ<|zR<|yS Z (zD Z Z Z bW Z Z)<|yS Z (zC Z Z Z (by kernel_rfl) (zp (G4 (b:=y)) (.cons zv .nil)))<|yS Z (ze Z fm Z Z)<|yS Z (zs Z Z Z Z ay Z Z Z Z)<|zN<|zT<|zQ<|zQ<|zR<|yS Z (zm Z Z)<|yS Z (zD Z Z Z ay Z Z) ?_;rcases hq:ak x.2 (nm y)with _|q
    ·refine yS Z ((aa.getMiss eU hq Z Z Z Z kS Fx Z))<|yS Z (zm Z Z)<|yS Z (dW Z Z Z)<|yS Z (dW Z Z Z)<|yS Z (za Z Z)<|yS Z (za Z Z)<|zN<|zT<|zQ<|zR<|yS Z (zm Z Z)<|zN<|zT<|LW.condF Z<|zk<|zT<|zR<|yS Z (zm Z Z)<|yS Z (zD Z Z Z ay Z Z)<|yS Z (zm Z Z)<|yS Z (aa.setNew (f:=aR) (g:=F3) (m:=x.2) (a:=nm y) (v:=((x.1:Nat):Int)) eU hq (.inl Z) Z Z Z Z Z kS Z)<|zN<|ai<|zT ?_;refine zR (yS Z (aa.isEq (y:=.p (.int .i64 ((x.1+1:Nat):Int))) (ap Z Z Z Z) (by rw[cJ (by omega) (by omega)];rfl)) (yS Z (zm Z Z) (zN (zT ?_))));refine⟨(x.1+1,x.2++[(nm y,((x.1:Nat):Int))]),?_,?_,zW 2 ⟨rfl,rfl,rfl,rfl,rfl,rfl,trivial⟩ Z Z Z (zL Z (zL (ae (fun _=>rfl) _) Z))⟩
     ·simp only;omega
     ·refine⟨hlt,?_,fun k v h=>?_⟩
      ·rw[←hx.2.1,dr hy];simp only[hp,hq];rw[if_neg (of_decide_eq_false g2)]
      ·rw[fF]at h;rcases hk:ak x.2 k with _|u
       ·rw[hk]at h;simp only[Option.none_or]at h;split at h <;>cases h;omega
       ·rw[hk]at h;cases h;exact hx.2.2 k _ hk
    ·refine yS Z ((aa.getHit eU hq Z Z Z Z kS Z))<|yS Z (zm Z Z)<|yS Z (dW Z Z Z)<|yS Z (dW Z Z Z)<|yS Z (za Z Z)<|yS Z (za Z Z)<|zN<|zT<|zQ<|zR<|yS Z (zm Z Z)<|zN<|zT<|LW.condT Z<|zQ<|zR<|yS Z (za Z Z)<|yS Z (za Z Z)<|zN<|zT<|zr<|af<|aq<|af ?_;refine af<|aq<|af ?_;refine cr (env':=[(2,.nilmap),(3,(bQ false))]) (H':=[]) (zW 0 ⟨rfl,rfl,trivial⟩ Z Z Z Z) (.two (.tmp Z) (.tmp Z))<|.inr ⟨?_,rfl,rfl⟩;rw[←hx.2.1,dr hy]
     first|(simp only[hp];done)|(simp only[hp];rw[if_pos (of_decide_eq_true g2)];done)|(simp only[hp,hq];split <;>rfl)
 ·refine zq<|aj<|aj<|zy<|zT<|zQ ?_
  have hnlt:¬x.1<l.length:=by simpa using g1
  have hend:x.1=l.length:=by omega
  refine zR<|yS Z (zm Z Z)<|yS Z (za Z Z)<|yS Z (za Z Z)<|zN<|zT<|zr ?_;refine cr (env':=[(2,.map 1),(3,(bQ true))]) (H':=[.box [(kB l)],.map (ao aR F3 x.2)]) (zW 2 ⟨rfl,rfl,trivial⟩ Z Z Z (zL Z (zL (ae (fun _=>rfl) _) Z))) (.two (.tmp Z) (.tmp Z))<|.inl ⟨x.2,?_,rfl,rfl⟩;rw[←hx.2.1,hend,List.drop_length];rfl
structure Ah (l:List Bk)(m:List (ID×Int))(n:Nat):Prop where
 zero:ak m (0,0)=some (-1)
 known:∀k i,ak m k=some i→(i= -1∧k=(0,0))∨∃b p,0≤i∧i<n∧l[i.toNat]?=some b∧nm b=k∧ak m b.Parent=some p∧p<i∧-1≤p∧bX l p<b.Slot
 names:∀i b,i<n→l[i]?=some b→ak m (nm b)=some (i:Int)
theorem Ah.step {l:List Bk}{m:List (ID×Int)}{n:Nat}{y:Bk}{p:Int}(h:Ah l m n)(hy:l[n]?=some y)(hp:ak m y.Parent=some p)(hs:¬y.Slot≤bX l p)(hq:ak m (nm y)=none) :
  Ah l (m++[(nm y,(n:Int))]) (n+1):=by
 have old:∀k i,ak m k=some i→ak (m++[(nm y,(n:Int))]) k=some i:=fun k i hk=>by rw[fF,hk];rfl
 refine⟨old _ _ h.zero,fun k i hk=>?_,fun i b hi hb=>?_⟩
 ·rw[fF]at hk;rcases hm:ak m k with _|j
  ·rw[hm]at hk;simp only[Option.none_or]at hk;split at hk
   ·rename_i e;cases hk;right;refine⟨y,p,by omega,by omega,by simpa using hy,e,old _ _ hp,?_,?_,by omega⟩
    ·rcases h.known _ _ hp with⟨h1,-⟩|⟨b,q,h1,h2,-⟩ <;>omega
    ·rcases h.known _ _ hp with⟨h1,-⟩|⟨b,q,h1,h2,-⟩ <;>omega
   ·cases hk
  ·rw[hm]at hk;cases hk;rcases h.known _ _ hm with h1|⟨b,q,h1,h2,h3,h4,h5,h6,h7,h8⟩
   ·exact .inl h1
   ·exact .inr ⟨b,q,h1,by omega,h3,h4,old _ _ h5,h6,h7,h8⟩
 ·rcases Nat.lt_succ_iff_lt_or_eq.1 hi with hi|hi
  ·exact old _ _<|h.names i b hi hb
  ·subst hi;rw[hy]at hb;cases hb;rw[fF,hq];simp
theorem oA {l:List Bk}:∀(r:List Bk) (i:Nat) (m m':List (ID×Int)),r=l.drop i→i≤l.length→Ah l m i→cT l r i m=some m'→Ah l m' l.length
 | [],i,m,m',hr,hi,h,hg=>by
  cases hg
  have:l.length≤i:=by
   have:=congrArg List.length hr;simp at this;omega
  rw[show l.length=i by omega];exact h
 | y::r,i,m,m',hr,hi,h,hg=>by
  have hil:i<l.length:=by
   have:=congrArg List.length hr;simp at this;omega
  have hd:=List.drop_eq_getElem_cons hil;rw[hd,List.cons.injEq]at hr;obtain⟨rfl,rfl⟩:=hr;unfold cT at hg;split at hg
  ·cases hg
  ·rename_i p hp;split at hg
   ·cases hg
   ·rename_i hs;split at hg
    ·cases hg
    ·rename_i hq;exact oA _ (i+1) _ m' Z (by omega) (h.step (List.getElem?_eq_getElem hil) hp hs hq) hg
theorem wd {l:List Bk}:∀(k:ID) (i:Int),ak [(((0,0):ID),(-1:Int))] k=some i→(i= -1∧k=(0,0))∨∃b p,0≤i∧i<(0:Nat)∧l[i.toNat]?=some b∧nm b=k∧ak [(((0,0):ID),(-1:Int))] b.Parent=some p∧p<i∧-1≤p∧bX l p<b.Slot:=by
 intro k i hk;unfold ak ak at hk;split at hk
 ·rename_i e;cases hk;exact .inl ⟨rfl,e.symm⟩
 ·cases hk
theorem aX {l:List Bk}{m:List (ID×Int)}(h:places l=some m):Ah l m l.length:=
 oA l 0 _ m rfl (Nat.zero_le _) ⟨rfl,wd,fun i b hi=>by omega⟩ h
def bP (l:List Bk):Nat→ID→Int→List ID
 |0,id,_=>[id]
 | n+1,id,i=>if i= -1 then[id]else match l[i.toNat]? with
  |none=>[id]
  | some b=>match places l with
   |none=>[id]
   |some m=>match ak m b.Parent with
    |none=>[id]
    |some p=>id::bP l n b.Parent p
def am (l:List Bk)(id:ID):List ID:=match places l with
 |none=>[]
 |some m=>match ak m id with
  |none=>[]
  |some i=>bP l (i+1).toNat id i
theorem vr {l:List Bk}{m:List (ID×Int)}(hpl:places l=some m):∀(n:Nat) (k:Nat) (id:ID) (i:Int),i+1≤n→n≤k→ak m id=some i→bP l k id i=bP l n id i:=by
 intro n
 induction n with
 | zero=>
  intro k id i hi hk hf
  have:i= -1:=by
   rcases(aX hpl).known _ _ hf with⟨h,-⟩|⟨_,_,h,-⟩ <;>omega
  cases k with
  |zero=>rfl
  |succ k=>simp[bP,this]
 |succ n ih=>
  intro k id i hi hk hf;obtain⟨k,rfl⟩:∃j,k=j+1:=⟨k-1,by omega⟩;rcases(aX hpl).known _ _ hf with⟨h,-⟩|⟨b,p,h0,h1,h2,h3,h4,h5,h6,h7⟩
  ·simp[bP,h]
  ·simp only[bP,if_neg (show i≠-1 by omega),h2,hpl,h4];rw[ih k b.Parent p (by omega) (by omega) h4]
theorem fr {l:List Bk}{m:List (ID×Int)}{id:ID}{i p:Int}{b:Bk}(hpl:places l=some m)(hne:i≠-1)(h0:0≤i)(hb:l[i.toNat]?=some b)(hp:ak m b.Parent=some p)(hpi:p<i)(hp1: -1≤p) :
  bP l (i+1).toNat id i=id::bP l (p+1).toNat b.Parent p:=by
 obtain⟨n,hn⟩:∃n,(i+1).toNat=n+1:=⟨i.toNat,by omega⟩;rw[hn];simp only[bP,if_neg hne,hb,hpl,hp];rw[vr hpl (p+1).toNat n b.Parent p (by omega) (by omega) hp]
theorem vU {α:Type}{f:α→PV}{l:List α}{i:Int}{a:α}(h:l[i.toNat]?=some a):(l.map f)[i.toNat]?=some (f a):=by
 simp[h]
theorem Conv.zs' {H:List ab}{m:Nat}{xs:List PV}(h:xs=[]):Conv true H .zs (.slice m xs):=by subst h;exact Conv.zs
theorem Conv.vecAll' {H:List ab}{m id n len:Nat}{xs ys:List PV}(hH:H[id]?=some (.vec m xs))(hn:n=xs.length)(hl:len=xs.length)(h:ys=xs):Conv true H (.vec m id n 0 len) (.slice m ys):=by
 subst h;exact Conv.vecAll hH hn hl
open Go.Proofs
theorem Jy {l:List Bk}{H:List ab}(h:places l=none):LC Tryz.prog 167 [(kB l)] H (Is (.tup [.nilmap,(bQ false)]) H):=by
 have h0:LC Tryz.prog 167 ([PV.slice 5 (l.map av)].map .p) [] (Is (.tup [.nilmap,(bQ false)]) []):=c94.mono fun x H hx=>by
  rcases hx with⟨m,hm,-⟩|⟨-,h1,h2⟩
  ·rw[h]at hm;cases hm
  ·exact⟨h1,h2⟩
 have:=LC.frame (H:=H) (d:=H.length) h0 (.cons Conv.p .nil) (by rw[Fc]);simpa [LV.shift,LV.shifts]using this
theorem Jz {l:List Bk}{m:List (ID×Int)}{H H1 H2:List ab}{d:Nat}(h:places l=some m)(hd:cW H=some d)(h1:ic H (.box [(kB l)])=some H1)(h2:ic H1 (.map (ao aR F3 m))=some H2) :
  LC Tryz.prog 167 [(kB l)] H (Is (.tup [.map (d+1),(bQ true)]) H2):=by
 have h0:LC Tryz.prog 167 ([PV.slice 5 (l.map av)].map .p) [] (Is (.tup [.map 1,(bQ true)]) [.box [(kB l)],.map (ao aR F3 m)]):=c94.mono fun x H hx=>by
  rcases hx with⟨m',hm,h1,h2⟩|⟨h1,-⟩
  ·rw[h]at hm;cases hm;exact⟨h1,h2⟩
  ·rw[h]at h1;cases h1
 have:=LC.frame (H:=H) (d:=d) h0 (.cons Conv.p .nil) hd;have e1:=db h1;have e2:=db h2;subst e1;subst e2;simpa [LV.shift,LV.shifts,ab.shift,ao,List.append_assoc,Function.comp_def]using this
theorem LJ {l:List Bk}{id:ID}(hpl:places l=none):ar Tryz.prog 131 [.slice 5 (l.map av),aR id] [.slice 2 ((am l id).map aR)]:=by
 refine zh Tryz.func131 Z Z Z Z ?_;refine zQ<|zR<|yS Z (bw Z Z Z Z Z)<|yS Z (za Z Z)<|zN<|zT<|LW.scope<|zQ<|zR<|yS Z (zm Z Z)<|yS Z ((zC Z Z Z (by kernel_rfl) (Jy hpl)))<|yS Z (zm Z Z)<|yS Z (dW Z Z Z)<|yS Z (dW Z Z Z)<|yS Z (za Z Z)<|yS Z (za Z Z)<|zN<|zT<|zQ<|zQ<|zR<|yS Z (zm Z Z)<|yS Z (zD Z Z Z ay Z Z)<|yS Z ((aa.getNil eU Z Z Z kS Fx Z)) ?_;exact yS Z (zm Z Z)<|yS Z (dW Z Z Z)<|yS Z (dW Z Z Z)<|yS Z (za Z Z)<|yS Z (za Z Z)<|zN<|zT<|zQ<|zR<|yS Z (zm Z Z)<|yS Z (aa.not Z Z)<|zN<|zT<|LW.condT Z<|zQ<|zR<|yS Z (za Z Z)<|zN<|zT<|zr<|af<|Dy<|zf (.one (.tmp Z))<|Conv.zs' (by simp[am,hpl])
theorem LK {l:List Bk}{id:ID}{m:List (ID×Int)}(hl:l.length≤1000)(hpl:places l=some m):ar Tryz.prog 131 [.slice 5 (l.map av),aR id] [.slice 2 ((am l id).map aR)]:=by
 refine zh Tryz.func131 Z Z Z Z ?_;refine zQ<|zR<|yS Z (bw Z Z Z Z Z)<|yS Z (za Z Z)<|zN<|zT ?_;refine LW.jumpsOf (l:=0) (E:=fun x:List ID×ID×Int=>[(0,(kB l)),(3,.ptr 0 0),(5,.map 2),(9,.vec 2 3 (x.1.map aR).length 0 (x.1.map aR).length)]) (O:=fun x=>[.box [(uQ x.2.1.1),(uQ x.2.1.2)],.box [(kB l)],.map (ao aR F3 m),.vec 2 (x.1.map aR)]) (G:=fun x=>ak m x.2.1=some x.2.2∧x.1.length+(x.2.2+1).toNat≤1001∧am l id=x.1++bP l (x.2.2+1).toNat x.2.1 x.2.2) (meas:=fun x=>(x.2.2+1).toNat) Z ?_<|fun x hx=>?_
 ·refine zQ<|zR<|yS Z (zm Z Z)<|yS Z ((zC Z Z Z (by kernel_rfl) (Jz hpl Z Z Z)))<|yS Z (zm Z Z)<|yS Z (dW Z Z Z)<|yS Z (dW Z Z Z)<|yS Z (za Z Z)<|yS Z (za Z Z)<|zN<|zT<|zQ<|zQ<|zR<|yS Z (zm Z Z)<|yS Z (zD Z Z Z ay Z Z) ?_;rcases hf:ak m id with _|i
  ·refine yS Z ((aa.getMiss eU hf Z Z Z Z kS Fx Z))<|yS Z (zm Z Z)<|yS Z (dW Z Z Z)<|yS Z (dW Z Z Z)<|yS Z (za Z Z)<|yS Z (za Z Z)<|zN<|zT<|zQ<|zR<|yS Z (zm Z Z)<|yS Z (aa.not Z Z)<|zN<|zT<|LW.condT Z<|zQ<|zR<|yS Z (za Z Z)<|zN<|zT<|zr<|af<|vO<|zf (.one (.tmp Z)) ?_;refine Conv.zs' ?_;simp[am,hpl,hf]
  ·refine yS Z ((aa.getHit eU hf Z Z Z Z kS Z))<|yS Z (zm Z Z)<|yS Z (dW Z Z Z)<|yS Z (dW Z Z Z)<|yS Z (za Z Z)<|yS Z (za Z Z)<|zN<|zT<|zQ<|zR<|yS Z (zm Z Z)<|yS Z (aa.not Z Z)<|zN<|zT<|LW.condF Z<|zk<|zT<|zQ<|zR<|yS Z (za Z Z)<|zN<|zT<|zQ<|LW.label ?_;refine zT<|zQ<|zR<|yS Z (zm Z Z)<|yS Z (zD Z Z Z ay Z Z)<|yS Z (iO Z ey Z Z Z Z Z)<|yS Z (aa.appendZ Z Z Z Z iR.p ey (by simp only[List.length_singleton];omega) Z)<|yS Z (za Z Z)<|zN<|zT<|zQ<|zQ<|zR<|yS Z (zm Z Z)<|yS Z (zD Z Z Z ay Z Z)<|yS Z ((aa.getHit eU hf Z Z Z Z kS Z))<|yS Z (za Z Z)<|zN<|zT<|zQ<|zR<|yS Z (zm Z Z)<|yS Z (ap Z Z Z Z)<|zN ?_;refine zT ?_;refine zX Z (fun g1=>?_)<|fun g1=>?_
   ·refine zQ ?_
    have hne:i≠-1:=by simpa using g1
    obtain⟨h1,-⟩|⟨b,p,h0,hlt,hb,hnb,hp,hpi,hp1,hs⟩:=(aX hpl).known _ _ hf
    ·exact absurd h1 hne
    have hc:am l id=id::bP l (p+1).toNat b.Parent p:=by
     simp only[am,hpl,hf];exact fr hpl hne h0 hb hp hpi hp1
    refine zR<|yS Z (zm Z Z)<|yS Z (zm Z Z)<|yS Z (aa.indexAddr Z Z Z cw (by omega) (vU hb) Z)<|yS Z (aa.fieldAddrC Z Z fj Z)<|yS Z (ci Z Z Z ay Z Z)<|yS Z (zs Z Z Z Z ay Z Z Z Z)<|zN<|zT<|LW.goto<|Gd<|Di ?_;refine⟨([id],b.Parent,p),?_,zW 4 ⟨rfl,rfl,rfl,rfl,trivial⟩ Z Z Z (zL Z (zL Z (zL (ae (fun _=>rfl) _) Z)))⟩
    ·exact⟨hp,by simp only[List.length_singleton];omega,hc⟩
   ·refine zk<|zT<|zQ ?_
    have hend:i= -1:=by simpa using g1
    refine zR<|yS Z (zm Z Z)<|yS Z (za Z Z)<|zN<|zT<|zr<|vO<|zf (.one (.tmp Z))<|Conv.vecAll' Z Z Z ?_;rw[show am l id=[id] by simp only[am,hpl,hf,hend];rfl];rfl
 ·refine zQ<|zk<|zT<|zQ<|zR<|yS Z (zm Z Z)<|yS Z (zD Z Z Z ay Z Z)<|yS Z (iO Z ey Z Z Z Z Z)<|yS Z (aa.appendM (f:=aR) (xs:=x.1) (ys:=[x.2.1]) Z Z Z Z Z ey (by simp only[List.length_singleton];omega) Z)<|yS Z (za Z Z)<|zN<|zT<|zQ<|zQ<|zR<|yS Z (zm Z Z)<|yS Z (zD Z Z Z ay Z Z)<|yS Z ((aa.getHit eU hx.1 Z Z Z Z kS Z))<|yS Z (za Z Z)<|zN<|zT<|zQ<|zR<|yS Z (zm Z Z) ?_;refine yS Z (ap Z Z Z Z)<|zN<|zT ?_;refine zX Z (fun g2=>?_)<|fun g2=>?_
  ·refine zQ ?_
   have hne:x.2.2≠-1:=by simpa using g2
   obtain⟨h1,-⟩|⟨b,p,h0,hlt,hb,hnb,hp,hpi,hp1,hs⟩:=(aX hpl).known _ _ hx.1
   ·exact absurd h1 hne
   have hc:=fr (id:=x.2.1) hpl hne h0 hb hp hpi hp1;refine zR<|yS Z (zm Z Z)<|yS Z (zm Z Z)<|yS Z (aa.indexAddr Z Z Z cw (by omega) (vU hb) Z)<|yS Z (aa.fieldAddrC Z Z fj Z)<|yS Z (ci Z Z Z ay Z Z)<|yS Z (zs Z Z Z Z ay Z Z Z Z)<|zN<|zT<|LW.goto<|Gd<|Di ?_;refine⟨(x.1++[x.2.1],b.Parent,p),?_,?_,zW 4 ⟨rfl,rfl,rfl,rfl,trivial⟩ Z Z Z (zL Z (zL Z (zL (ae (fun _=>rfl) _) Z)))⟩
   ·simp only;omega
   ·refine⟨hp,?_,?_⟩
    ·have:=hx.2.1;simp only[List.length_append,List.length_singleton];omega
    ·rw[hx.2.2,hc,List.append_assoc];rfl
  ·refine zk<|zT<|zQ ?_
   have hend:x.2.2= -1:=by simpa using g2
   refine zR<|yS Z (zm Z Z)<|yS Z (za Z Z)<|zN<|zT<|zr<|vO<|zf (.one (.tmp Z))<|Conv.vecAll' Z Z Z ?_;rw[hx.2.2,hend];rfl
theorem LI {l:List Bk}{id:ID}(hl:l.length≤1000):ar Tryz.prog 131 [.slice 5 (l.map av),aR id] [.slice 2 ((am l id).map aR)]:=by
 rcases hpl:places l with _|m
 ·exact LJ hpl
 ·exact LK hl hpl
open Go.Proofs
def dh (c:Cu)(l:List Bk)(head found:ID)(is:Bool)(slot:Int):Cu:=
 let c':Cu:=if an (am l head) c.ID<0 then⟨(0,0),slot,IntKind.i64.wrap (c.Revoked+1)⟩else c
 let at_:Int:=if an (am l head) c.ID<0 then IntKind.i64.wrap ((am l head).length-1)else an (am l head) c.ID
 if is=true∧an (am l head) found≥0∧an (am l head) found<at_ then⟨found,slot,c'.Revoked⟩else c'
theorem Mo {c:Cu}{l:List Bk}{head found:ID}{is:Bool}{slot:Int}(hl:l.length≤1000):ar Tryz.prog 90 [qc c,.slice 5 (l.map av),aR head,aR found,.bool is,.int .i64 slot] [qc (dh c l head found is slot)]:=by
 refine zh Tryz.func90 Z Z Z Z ?_;refine LW.seq<|LW.region<|au.st Z Z Z (aa.box Z Z Z Z Z)<|au.st Z Z Z (aa.box Z Z Z Z Z)<|au.st Z Z Z (aa.box Z Z Z Z Z)<|au.st Z Z Z (aa.alloc Z HK Z Z)<|au.nil<|ca<|LW.seq<|LW.region<|au.st Z Z Z (aa.move Z Z)<|au.st Z Z Z (aa.load Z Z Z ay Z Z)<|au.st Z Z Z (aa.call Z Z Z (by kernel_rfl) (LC.pure (LI hl) (.cons Conv.p (.cons Conv.p .nil))))<|au.st Z Z Z (aa.assign Z Z)<|au.nil<|ca<|LW.seq<|LW.region<|au.st Z Z Z (aa.move Z Z)<|au.st Z Z Z (aa.fieldAddr Z Z kr)<|au.st Z Z Z (aa.load Z Z Z ay Z Z)<|au.st Z Z Z (aa.call Z Z Z (by kernel_rfl) (LC.pure KV (.cons Conv.p (.cons Conv.p .nil))))<|au.st Z Z Z (aa.assign Z Z)<|au.nil ?_;refine ca<|LW.seq<|LW.block<|LW.seq<|LW.block<|LW.seq<|LW.block<|LW.seq<|LW.seq<|LW.region<|au.st Z Z Z (aa.move Z Z)<|au.st Z Z Z (aa.bin Z Z Z Z)<|au.st Z Z Z (aa.assign Z Z)<|au.nil<|ca ?_;refine LW.cond Z (fun g1=>?_)<|fun g1=>?_
 ·refine LW.exit<|aj<|na<|ca<|LW.seq<|LW.region<|au.st Z Z Z (aa.move Z Z)<|au.st Z Z Z (aa.fieldAddr Z Z tQ)<|au.st Z Z Z (aa.load Z Z Z aW Z Z)<|au.st Z Z Z (aa.bin Z Z Z Z)<|au.st Z Z Z (aa.build Z K3 Z Z Z)<|au.st Z Z Z (aa.store Z Z Z Z fl Z Z Z Z)<|au.nil<|ca<|LW.region<|au.st Z Z Z (aa.move Z Z)<|au.st Z Z Z (aa.len Z Z (by kernel_rfl))<|au.st Z Z Z (aa.bin Z Z Z Z)<|au.st Z Z Z (aa.assign Z Z)<|au.nil<|ai<|ca<|LW.seq<|LW.seq ?_;refine LW.region<|au.st Z Z Z (aa.move Z Z)<|au.st Z Z Z (aa.load Z Z Z ay Z Z)<|au.st Z Z Z (aa.call Z Z Z (by kernel_rfl) (LC.pure KV (.cons Conv.p (.cons Conv.p .nil))))<|au.st Z Z Z (aa.assign Z Z)<|au.nil<|ca<|LW.seq<|LW.region<|au.st Z Z Z (aa.move Z Z)<|au.st Z Z Z (aa.move Z Z) ?_;refine zc 38 Z (fun g2=>?_)<|fun g2=>?_
  ·refine au.gd Z Z Z (gd g2 Z) Z (aa.move Z Z)<|au.gd Z Z Z (gd g2 Z) Z (aa.bin Z Z Z Z)<|au.st Z Z Z (aa.pickT Z (aG g2 Z) Z)<|au.st Z Z Z (aa.move Z Z) ?_;refine zc 42 Z (fun g3=>?_)<|fun g3=>?_
   ·refine au.gd Z Z Z (gd g3 Z) Z (aa.move Z Z)<|au.gd Z Z Z (gd g3 Z) Z (aa.move Z Z)<|au.gd Z Z Z (gd g3 Z) Z (aa.bin Z Z Z Z)<|au.st Z Z Z (aa.pickT Z (aG g3 Z) Z)<|au.nil<|ca ?_;refine LW.cond Z (fun g4=>?_)<|fun g4=>?_
    ·refine LW.region<|au.st Z Z Z (aa.load Z Z Z ay Z Z)<|au.st Z Z Z (zm Z Z)<|au.st Z Z Z (aa.fieldAddr Z Z kr)<|au.st Z Z Z (zs Z Z Z Z ay Z Z Z Z)<|au.st Z Z Z (aa.fieldAddr Z Z tP)<|au.st Z Z Z (zs Z Z Z Z aW Z Z Z Z)<|au.nil<|ca<|zq<|zy<|ca<|LW.seq<|LW.region<|au.st Z Z Z (aa.load Z Z Z fl Z Z)<|au.st Z Z Z (zs Z Z Z Z fl Z Z Z Z)<|au.nil<|ca<|zr<|zf (.one (.cellAgg Z Z (by kernel_rfl) Z))<|Conv.pe ?_;simp only[decide_eq_true_eq,List.length_map]at g1 g2 g3 g4;simp only[dh,qc]
     (repeat' split) <;>first|rfl|(exfalso;simp_all;done)|(exfalso;simp_all;omega)
    ·refine zk<|ca<|zq<|zy<|ca<|LW.seq<|LW.region<|au.st Z Z Z (aa.load Z Z Z fl Z Z)<|au.st Z Z Z (zs Z Z Z Z fl Z Z Z Z)<|au.nil<|ca<|zr<|zf (.one (.cellAgg Z Z (by kernel_rfl) Z))<|Conv.pe ?_;simp only[decide_eq_true_eq,decide_eq_false_iff_not,List.length_map]at g1 g2 g3 g4;simp only[dh,qc]
     (repeat' split) <;>first|rfl|(exfalso;simp_all;done)|(exfalso;simp_all;omega)
   ·refine au.sk Z Z Z (gd g3 Z) Z Z<|au.sk Z Z Z (gd g3 Z) Z Z<|au.sk Z Z Z (gd g3 Z) Z Z<|au.st Z Z Z (aO Z (aG g3 Z) Z)<|au.nil<|ca<|LW.condF Z<|zk<|ca<|zq<|zy<|ca<|LW.seq<|LW.region<|au.st Z Z Z (aa.load Z Z Z fl Z Z)<|au.st Z Z Z (zs Z Z Z Z fl Z Z Z Z)<|au.nil<|ca<|zr<|zf (.one (.cellAgg Z Z (by kernel_rfl) Z))<|Conv.pe ?_;simp only[decide_eq_true_eq,decide_eq_false_iff_not]at g1 g2 g3;simp only[dh,qc]
    (repeat' split) <;>first|rfl|(exfalso;simp_all;done)|(exfalso;simp_all;omega)
  ·refine au.sk Z Z Z (gd g2 Z) Z Z<|au.sk Z Z Z (gd g2 Z) Z Z<|au.st Z Z Z (aO Z (aG g2 Z) Z)<|au.st Z Z Z (zm Z Z)<|au.sk Z Z Z Z Z Z<|au.sk Z Z Z Z Z Z<|au.sk Z Z Z Z Z Z<|au.st Z Z Z (aO Z Z Z)<|au.nil<|ca<|LW.condF Z<|zk<|ca<|zq<|zy<|ca<|LW.seq<|LW.region<|au.st Z Z Z (aa.load Z Z Z fl Z Z)<|au.st Z Z Z (zs Z Z Z Z fl Z Z Z Z)<|au.nil<|ca<|zr<|zf (.one (.cellAgg Z Z (by kernel_rfl) Z)) ?_;refine Conv.pe ?_;simp only[decide_eq_true_eq]at g1 g2;simp only[dh,qc]
   (repeat' split) <;>first|rfl|(exfalso;simp_all;done)|(exfalso;simp_all;omega)
 ·refine LW.skip<|ca<|LW.exit<|gw (by decide)<|aj<|na<|ca<|LW.seq<|LW.seq<|LW.region<|au.st Z Z Z (aa.move Z Z)<|au.st Z Z Z (aa.load Z Z Z ay Z Z)<|au.st Z Z Z (aa.call Z Z Z (by kernel_rfl) (LC.pure KV (.cons Conv.p (.cons Conv.p .nil))))<|au.st Z Z Z (aa.assign Z Z)<|au.nil<|ca<|LW.seq<|LW.region<|au.st Z Z Z (aa.move Z Z)<|au.st Z Z Z (aa.move Z Z) ?_;refine zc 38 Z (fun g5=>?_)<|fun g5=>?_
  ·refine au.gd Z Z Z (gd g5 Z) Z (aa.move Z Z)<|au.gd Z Z Z (gd g5 Z) Z (aa.bin Z Z Z Z)<|au.st Z Z Z (aa.pickT Z (aG g5 Z) Z)<|au.st Z Z Z (aa.move Z Z) ?_;refine zc 42 Z (fun g6=>?_)<|fun g6=>?_
   ·refine au.gd Z Z Z (gd g6 Z) Z (aa.move Z Z)<|au.gd Z Z Z (gd g6 Z) Z (aa.move Z Z)<|au.gd Z Z Z (gd g6 Z) Z (aa.bin Z Z Z Z)<|au.st Z Z Z (aa.pickT Z (aG g6 Z) Z)<|au.nil<|ca ?_;refine LW.cond Z (fun g7=>?_)<|fun g7=>?_
    ·refine LW.region<|au.st Z Z Z (aa.load Z Z Z ay Z Z)<|au.st Z Z Z (zm Z Z)<|au.st Z Z Z (aa.fieldAddr Z Z kr)<|au.st Z Z Z (zs Z Z Z Z ay Z Z Z Z)<|au.st Z Z Z (aa.fieldAddr Z Z tP)<|au.st Z Z Z (zs Z Z Z Z aW Z Z Z Z)<|au.nil<|ca<|zq<|zy<|ca<|LW.seq<|LW.region<|au.st Z Z Z (aa.load Z Z Z fl Z Z)<|au.st Z Z Z (zs Z Z Z Z fl Z Z Z Z)<|au.nil<|ca<|zr<|zf (.one (.cellAgg Z Z (by kernel_rfl) Z))<|Conv.pe ?_;simp only[decide_eq_true_eq,decide_eq_false_iff_not]at g1 g5 g6 g7;simp only[dh,qc]
     (repeat' split) <;>first|rfl|(exfalso;simp_all;done)|(exfalso;simp_all;omega)
    ·refine zk<|ca<|zq<|zy<|ca<|LW.seq<|LW.region<|au.st Z Z Z (aa.load Z Z Z fl Z Z)<|au.st Z Z Z (zs Z Z Z Z fl Z Z Z Z)<|au.nil<|ca<|zr<|zf (.one (.cellAgg Z Z (by kernel_rfl) Z))<|Conv.pe ?_;simp only[decide_eq_true_eq,decide_eq_false_iff_not]at g1 g5 g6 g7;simp only[dh,qc]
     (repeat' split) <;>first|rfl|(exfalso;simp_all;done)|(exfalso;simp_all;omega)
   ·refine au.sk Z Z Z (gd g6 Z) Z Z<|au.sk Z Z Z (gd g6 Z) Z Z<|au.sk Z Z Z (gd g6 Z) Z Z<|au.st Z Z Z (aO Z (aG g6 Z) Z)<|au.nil<|ca<|LW.condF Z<|zk<|ca<|zq<|zy<|ca<|LW.seq<|LW.region<|au.st Z Z Z (aa.load Z Z Z fl Z Z)<|au.st Z Z Z (zs Z Z Z Z fl Z Z Z Z)<|au.nil<|ca<|zr<|zf (.one (.cellAgg Z Z (by kernel_rfl) Z))<|Conv.pe ?_;simp only[decide_eq_false_iff_not]at g1 g5 g6;simp only[dh,qc]
    (repeat' split) <;>first|rfl|(exfalso;simp_all;done)|(exfalso;simp_all;omega)
  ·refine au.sk Z Z Z (gd g5 Z) Z Z<|au.sk Z Z Z (gd g5 Z) Z Z<|au.st Z Z Z (aO Z (aG g5 Z) Z)<|au.st Z Z Z (zm Z Z)<|au.sk Z Z Z Z Z Z<|au.sk Z Z Z Z Z Z<|au.sk Z Z Z Z Z Z<|au.st Z Z Z (aO Z Z Z)<|au.nil<|ca<|LW.condF Z<|zk<|ca<|zq<|zy<|ca<|LW.seq<|LW.region<|au.st Z Z Z (aa.load Z Z Z fl Z Z)<|au.st Z Z Z (zs Z Z Z Z fl Z Z Z Z)<|au.nil<|ca<|zr<|zf (.one (.cellAgg Z Z (by kernel_rfl) Z)) ?_;refine Conv.pe ?_;simp only[decide_eq_false_iff_not]at g1 g5;simp only[dh,qc]
   (repeat' split) <;>first|rfl|(exfalso;simp_all;done)|(exfalso;simp_all;omega)
theorem ec {l:List ID}{v:ID}:an l v= -1∧v∉l∨∃i:Nat,an l v=i∧l[i]?=some v∧∀j,j<i→l[j]?≠some v:=by
 unfold an
 cases h:l.findIdx? (fun x=>decide (v=x))with
 |none=>
  left;rw[List.findIdx?_eq_none_iff]at h;exact⟨rfl,fun hm=>by simpa using h v hm⟩
 |some i=>
  right;rw[List.findIdx?_eq_some_iff_getElem]at h;obtain⟨hi,h1,h2⟩:=h;refine⟨i,rfl,by rw[List.getElem?_eq_getElem hi];simpa using(of_decide_eq_true h1).symm,fun j hj hc=>?_⟩;have:=h2 j hj;rw[List.getElem?_eq_getElem (by omega)]at hc;simp at hc this;exact this hc.symm
theorem cQ {l:List ID}{v:ID}:0≤an l v↔v∈l:=by
 rcases ec (l:=l) (v:=v)with⟨h1,h2⟩|⟨i,h1,h2,h3⟩
 ·rw[h1];constructor
  ·intro h;omega
  ·intro h;exact absurd h h2
 ·rw[h1];exact⟨fun _=>List.mem_of_getElem? h2,fun _=>by omega⟩
theorem xg (l:List ID)(v:ID): -1≤an l v:=by
 rcases ec (l:=l) (v:=v)with⟨h1,h2⟩|⟨i,h1,h2,h3⟩ <;>omega
theorem rI {l:List ID}{v:ID}:an l v<l.length:=by
 rcases ec (l:=l) (v:=v)with⟨h1,h2⟩|⟨i,h1,h2,h3⟩
 ·omega
 ·have:=(List.getElem?_eq_some_iff.1 h2).1;omega
section
variable {l : List Bk} {m : List (ID × Int)}
theorem pX (hpl:places l=some m):∀(n:Nat) (id:ID) (i:Int),i+1≤n→ak m id=some i→(0,0)∈bP l n id i:=by
 intro n
 induction n with
 |zero=>
  intro id i hi hf;rcases(aX hpl).known _ _ hf with⟨-,h⟩|⟨_,_,h,-⟩
  ·simp[bP,h]
  ·omega
 |succ n ih=>
  intro id i hi hf;rcases(aX hpl).known _ _ hf with⟨h,h'⟩|⟨b,p,h0,h1,h2,h3,h4,h5,h6,h7⟩
  ·simp[bP,h,h']
  ·simp only[bP,if_neg (show i≠-1 by omega),h2,hpl,h4];exact List.mem_cons_of_mem _<|ih b.Parent p (by omega) h4
theorem w2 (n:Nat):∀(id:ID) (i:Int),(bP l n id i).length≤n+1:=by
 induction n with
 |zero=>intro id i;simp[bP]
 | succ n ih=>
  intro id i;simp only[bP];split
  ·simp
  ·split
   ·simp
   ·split
    ·simp
    ·split
     ·simp
     ·simp;exact ih _ _
theorem mj (id:ID):(am l id).length≤l.length+1:=by
 unfold am;split
 ·simp
 ·rename_i m hpl;split
  ·simp
  ·rename_i i hf;have:=w2 (l:=l) (i+1).toNat id i;rcases(aX hpl).known _ _ hf with⟨h,h'⟩|⟨b,p,h0,h1,h2,h3,h4,h5,h6,h7⟩
   ·rw[h]at this⊢;simp at this⊢;omega
   ·omega
theorem mX {id:ID}(h:am l id≠[]):(0,0)∈am l id:=by
 unfold am at h⊢;split
 ·simp_all
 ·rename_i m hpl;split
  ·simp_all
  ·rename_i i hf;refine pX hpl _ id i ?_ hf;rcases(aX hpl).known _ _ hf with⟨h,h'⟩|⟨b,p,h0,h1,h2,h3,h4,h5,h6,h7⟩ <;>omega
theorem rn (_:places l=some m){id:ID}(_:ak m id=some (-1))(n:Nat):bP l n id (-1)=[id]:=by
 cases n with
 |zero=>rfl
 |succ n=>simp[bP]
theorem pi (hpl:places l=some m):∀(n:Nat) (id:ID) (i:Int),i+1≤n→ak m id=some i→∀(k:Nat) x,(bP l (i+1).toNat id i)[k]?=some x→
  ∃j:Int,ak m x=some j∧j≤i∧(0<k→j<i)∧bP l (j+1).toNat x j=(bP l (i+1).toNat id i).drop k:=by
 intro n
 induction n with
 | zero=>
  intro id i hi hf k x hx;rcases(aX hpl).known _ _ hf with⟨h,h'⟩|⟨b,p,h0,h1,h2,h3,h4,h5,h6,h7⟩
  ·subst h
   have hk:k=0:=by
    have:=(List.getElem?_eq_some_iff.1 hx).1;simp[bP]at this;exact this
   subst hk;simp[bP]at hx;subst hx;exact⟨-1,hf,Int.le_refl _,by omega,rfl⟩
  ·omega
 | succ n ih=>
  intro id i hi hf k x hx;rcases(aX hpl).known _ _ hf with⟨h,h'⟩|⟨b,p,h0,h1,h2,h3,h4,h5,h6,h7⟩
  ·exact ih id i (by omega) hf k x hx
  ·have e:=fr (id:=id) hpl (by omega) h0 h2 h4 h5 h6;rw[e]at hx
   cases k with
   |zero=>
    simp at hx;subst hx;exact⟨i,hf,Int.le_refl _,by omega,rfl⟩
   |succ k=>
    simp at hx;obtain⟨j,g1,g2,g3,g4⟩:=ih b.Parent p (by omega) h4 k x hx;exact⟨j,g1,by omega,fun _=>by omega,by rw[g4,e];rfl⟩
theorem rp {id x:ID}{k:Nat}(h:(am l id)[k]?=some x):am l x=(am l id).drop k:=by
 unfold am at h⊢
 cases hpl:places l with
 |none=>rw[hpl]at h;simp at h
 | some m=>
  rw[hpl]at h;simp only at h⊢
  cases hf:ak m id with
  |none=>rw[hf]at h;simp at h
  |some i=>
   rw[hf]at h;simp only at h⊢;obtain⟨j,g1,g2,g3,g4⟩:=pi hpl (i+1).toNat id i (by omega) hf k x h;rw[g1];exact g4
theorem w4 {id:ID}(h:am l id≠[]):(am l id)[0]?=some id:=by
 unfold am at h⊢;split
 ·simp_all
 ·rename_i m hpl;split
  ·simp_all
  ·rename_i i hf;rcases(aX hpl).known _ _ hf with⟨h,h'⟩|⟨b,p,h0,h1,h2,h3,h4,h5,h6,h7⟩
   ·subst h;rfl
   ·rw[fr (id:=id) hpl (by omega) h0 h2 h4 h5 h6];rfl
theorem vt (hpl:places l=some m){id:ID}{i:Int}(hf:ak m id=some i):∀{a b:Nat} {x y:ID},a<b→(bP l (i+1).toNat id i)[a]?=some x→(bP l (i+1).toNat id i)[b]?=some y→x≠y:=by
 intro a b x y hab ha hb;obtain⟨j,g1,g2,g3,g4⟩:=pi hpl (i+1).toNat id i (by omega) hf a x ha
 have hy:(bP l (j+1).toNat x j)[b-a]?=some y:=by
  rw[g4,List.getElem?_drop,show a+(b-a)=b by omega];exact hb
 obtain⟨j',g5,g6,g7,-⟩:=pi hpl (j+1).toNat x j (by omega) g1 (b-a) y hy;intro e;subst e;rw[g1]at g5;cases g5;have:=g7 (by omega);omega
theorem Ap {id x:ID}{a b:Nat}(ha:(am l id)[a]?=some x)(hb:(am l id)[b]?=some x):a=b:=by
 unfold am at ha hb
 cases hpl:places l with
 |none=>rw[hpl]at ha;simp at ha
 | some m=>
  rw[hpl]at ha hb;simp only at ha hb
  cases hf:ak m id with
  |none=>rw[hf]at ha;simp at ha
  |some i=>
   rw[hf]at ha hb;simp only at ha hb;rcases Nat.lt_trichotomy a b with h|h|h
   ·exact absurd Z<|vt hpl hf h ha hb
   ·exact h
   ·exact absurd Z<|vt hpl hf h hb ha
theorem ft {id x:ID}(h:x∈am l id):∃k:Nat,(am l id)[k]?=some x∧an (am l id) x=k:=by
 rcases ec (l:=am l id) (v:=x)with⟨h1,h2⟩|⟨i,h1,h2,h3⟩
 ·exact absurd h h2
 ·exact⟨i,h2,h1⟩
theorem w6 {a b:ID}(h:a∈am l b):a∈am l a:=by
 obtain⟨k,h1,-⟩:=ft h;rw[rp h1]
 have:((am l b).drop k)[0]?=some a:=by simpa using h1
 exact List.mem_of_getElem? this
theorem C3 {id x y:ID}(hx:x∈am l id)(hy:y∈am l id):y∈am l x↔an (am l id) x≤an (am l id) y:=by
 obtain⟨a,h1,h2⟩:=ft hx;obtain⟨b,h3,h4⟩:=ft hy;rw[h2,h4,rp h1];constructor
 ·intro h;obtain⟨q,hq,e⟩:=List.mem_iff_getElem.1 h
  have:(am l id)[a+q]?=some y:=by
   rw[←List.getElem?_drop,List.getElem?_eq_getElem hq,e]
  have:=Ap this h3;omega
 ·intro h
  have:((am l id).drop a)[b-a]?=some y:=by
   rw[List.getElem?_drop,show a+(b-a)=b by omega];exact h3
  exact List.mem_of_getElem? this
end
theorem DX {l:List Bk}{id:ID}(hl:l.length≤1000):IntKind.i64.wrap ((am l id).length-1)=(am l id).length-1:=by
 have:=mj (l:=l) id;exact cJ (by omega) (by omega)
open Go.Proofs
theorem vX {α:Type}:∀{l s:List α} {i:Nat} {y:α},bq l i y=some s→bc s i=some y
 |x::r,s,0,y,h=>by cases h;rfl
 |x::r,s,i+1,y,h=>by
  simp only[bq]at h;split at h
  ·rename_i q hq;cases h;show bc q i=some y;exact vX hq
  ·cases h
 |[],s,0,y,h=>by cases h
 |[],s,i+1,y,h=>by cases h
theorem Kr : (Tryz.f225.name == "runtime.NumGoroutine") = false := by kernel_rfl
theorem Kz :Extern.findNext Tryz.f225=none:=by kernel_rfl
theorem Kj :Extern.find Tryz.f225=some (Extern.Atomic.loadT (.int .i64)):=by kernel_rfl
theorem Ks : (Tryz.f257.name == "runtime.NumGoroutine") = false := by kernel_rfl
theorem KA :Extern.findNext Tryz.f257=none:=by kernel_rfl
theorem Kk :Extern.find Tryz.f257=some (Extern.Atomic.update (Op.intArith .add) .i64 true):=by kernel_rfl
theorem Kt : (Tryz.f259.name == "runtime.NumGoroutine") = false := by kernel_rfl
theorem KB :Extern.findNext Tryz.f259=none:=by kernel_rfl
theorem Kl :Extern.find Tryz.f259=some (Extern.Atomic.loadT (.int .u32)):=by kernel_rfl
theorem Ku : (Tryz.f265.name == "runtime.NumGoroutine") = false := by kernel_rfl
theorem KC :Extern.findNext Tryz.f265=none:=by kernel_rfl
theorem Km :Extern.find Tryz.f265=some (Extern.Atomic.storeT):=by kernel_rfl
theorem Gg : (Tryz.f267.name == "runtime.NumGoroutine") = false := by kernel_rfl
theorem Gi :Extern.findNext Tryz.f267=none:=by kernel_rfl
theorem Ge :Extern.find Tryz.f267=some (fun _=>do mark .disable;pure Extern.Race.none_):=by kernel_rfl
theorem Kv : (Tryz.f268.name == "runtime.NumGoroutine") = false := by kernel_rfl
theorem KD :Extern.findNext Tryz.f268=none:=by kernel_rfl
theorem Kn :Extern.find Tryz.f268=some (Extern.Atomic.casT (.int .i32)):=by kernel_rfl
theorem Gh : (Tryz.f269.name == "runtime.NumGoroutine") = false := by kernel_rfl
theorem Gj :Extern.findNext Tryz.f269=none:=by kernel_rfl
theorem Gf :Extern.find Tryz.f269=some (fun _=>do mark .enable;pure Extern.Race.none_):=by kernel_rfl
theorem Kw : (Tryz.f270.name == "runtime.NumGoroutine") = false := by kernel_rfl
theorem KE :Extern.findNext Tryz.f270=none:=by kernel_rfl
theorem Ko :Extern.find Tryz.f270=some (Extern.Race.marked .acquire):=by kernel_rfl
theorem Kx : (Tryz.f272.name == "runtime.NumGoroutine") = false := by kernel_rfl
theorem KF :Extern.findNext Tryz.f272=none:=by kernel_rfl
theorem Kp :Extern.find Tryz.f272=some (Extern.Race.marked .releaseMerge):=by kernel_rfl
theorem Ky : (Tryz.f273.name == "runtime.NumGoroutine") = false := by kernel_rfl
theorem KG :Extern.findNext Tryz.f273=none:=by kernel_rfl
theorem Kq :Extern.find Tryz.f273=some (Extern.Atomic.update (Op.intArith .add) .i32 true):=by kernel_rfl
theorem Ga :t7 Tryz.prog 302 306=true:=by kernel_rfl
theorem G3 {off:Nat}{n:Int}{cs:List LV}{H:List ab}(hH:bc H 0=some (.box cs))(h0:bc cs (off+0)=some (.p (.int .u32 n))):LC Tryz.prog 255 [.ptr 0 off] H (Is (.p (.bool (n != 0))) H):=by
 refine fy Tryz.func255 Z Z Z ?_;refine zQ<|zR<|zM Z<|zN<|zT<|zQ<|zR<|zM Z<|yS Z (zn Z Z)<|yS Z (zA Z Z yu) ?_;refine yS Z (aa.atomLoad (P:=Tryz.prog) (f:=259) (fn:=Tryz.f259) Z Z Z Tryz.func259 Z Kt KB Kl hH h0) ?_;exact yS Z (ap Z Z Z Z)<|zM Z<|zN<|zT<|zr<|aH (.one (.tmp Z))<|⟨rfl,rfl⟩
theorem LH :ar Tryz.prog 266 [.bool true] [.int .u32 1]:=by
 refine zh Tryz.func266 Z Z Z Z ?_;exact zQ<|zR<|zM Z<|zN<|zT<|zQ<|zQ<|zR<|zM Z<|zN<|zT<|LW.condT Z<|zQ<|zR<|zM Z<|zN<|zT<|zr<|af<|zf (.one (.tmp Z)) zv
theorem IZ {off:Nat}{cs cs':List LV}{H H':List ab}(hH:bc H 0=some (.box cs))(hc:bq cs (off+0) (.p (.int .u32 1))=some cs')(hH':bq H 0 (.box cs')=some H'):GK Tryz.prog 262 [.ptr 0 off,(bQ true)] H H':=by
 refine GK.start (by kernel_rfl) Tryz.func262 Z Z Z (R:=Is (.tup []) H') (fun _ _ h=>h.2) ?_;refine LW.drawW (by kernel_rfl) (by kernel_rfl)<|zK Z ?_;refine yF (F:=[]) (s:=none) Z (fun H _=>zn Z Z) Z ?_;refine yF (F:=[]) (s:=none) Z (fun H _=>zA Z Z yu) Z ?_;refine zK Z ?_;refine yF (F:=[]) (s:=none) Z (fun H _=>zC Z Z Z (by kernel_rfl) (zp LH (.cons zv .nil))) Z ?_;refine yF Z (cq.atomStore (P:=Tryz.prog) (f:=265) (fn:=Tryz.f265) Z Z Z Tryz.func265 Z Ku KC Km Z hH hc) hH' ?_;refine LF.nil ⟨by kernel_rfl,?_⟩;exact gM .none<|⟨rfl,rfl⟩
theorem LE {off:Nat}{cs cs':List LV}{H H':List ab}(hH:bc H 0=some (.box cs))(h0:bc cs (off+0)=some (.p (.int .i32 0)))(hc:bq cs (off+0) (.p (.int .i32 1))=some cs')(hH':bq H 0 (.box cs')=some H')(hb:Nat.blt off cs'.length=true):LC Tryz.prog 263 [.ptr 0 off] H (Is (.tup []) H'):=by
 refine fy Tryz.func263 Z Z Z ?_;refine zQ<|zR ?_;refine yS Z (aa.mark0 (P:=Tryz.prog) (f:=267) (fn:=Tryz.f267) Z Z Z Tryz.func267 Z Gg Gi Ge) ?_;refine zN<|zT<|zQ<|zQ<|zR<|zM Z<|yS Z (zn Z Z)<|yS Z (zA Z Z tL) ?_;refine yS Z (aa.atomCas (P:=Tryz.prog) (f:=268) (fn:=Tryz.f268) Z Z Z Tryz.func268 Z Kv KD Kn hH h0 hc hH') ?_;refine zN<|zT<|LW.condT Z<|zQ<|LW.condT Z<|zQ<|zR ?_;refine yS Z (aa.mark0 (P:=Tryz.prog) (f:=269) (fn:=Tryz.f269) Z Z Z Tryz.func269 Z Gh Gj Gf) ?_;refine zN<|zT<|zR<|zM Z<|yS Z (aa.convPtr Z Z (vX hH') hb Ga) ?_;refine yS Z (aa.markP (P:=Tryz.prog) (f:=270) (fn:=Tryz.f270) Z Z Z Tryz.func270 Z Kw KE Ko) ?_;exact zN<|zT<|zr<|af<|aH .none<|⟨rfl,rfl⟩
theorem LD {off:Nat}{cs cs':List LV}{H H':List ab}(hH:bc H 0=some (.box cs))(h0:bc cs (off+0+0)=some (.p (.int .i32 0)))(hc:bq cs (off+0+0) (.p (.int .i32 1))=some cs')(hH':bq H 0 (.box cs')=some H')(hb:Nat.blt (off+0) cs'.length=true):LC Tryz.prog 260 [.ptr 0 off] H (Is (.tup []) H'):=by
 refine fy Tryz.func260 Z Z Z ?_;exact zR<|zM Z<|yS Z (zn Z Z)<|yS Z (zA Z Z yv)<|yS Z (zC Z Z Z (by kernel_rfl) (LE hH h0 hc hH' hb))<|zN<|gM .none<|⟨rfl,rfl⟩
theorem LG {off:Nat}{cs cs':List LV}{H H':List ab}(hH:bc H 0=some (.box cs))(h0:bc cs (off+0)=some (.p (.int .i32 1)))(hb:Nat.blt off cs.length=true)(hc:bq cs (off+0) (.p (.int .i32 0))=some cs')(hH':bq H 0 (.box cs')=some H'):LC Tryz.prog 264 [.ptr 0 off] H (Is (.tup []) H'):=by
 refine fy Tryz.func264 Z Z Z ?_;refine zQ<|LW.condT Z<|zQ<|zR<|zM Z<|yS Z (zn Z Z)<|yS Z (zA Z Z tL)<|yS Z (aa.load1 Z Z hH L3 h0)<|zN<|zT<|zQ<|zR<|zM Z<|yS Z (aa.convPtr Z Z hH hb Ga) ?_;refine yS Z (aa.markP (P:=Tryz.prog) (f:=272) (fn:=Tryz.f272) Z Z Z Tryz.func272 Z Kx KF Kp) ?_;refine zN<|zT<|zR ?_;refine yS Z (aa.mark0 (P:=Tryz.prog) (f:=267) (fn:=Tryz.f267) Z Z Z Tryz.func267 Z Gg Gi Ge) ?_;refine zN<|zT<|zQ<|zR<|zM Z<|yS Z (zn Z Z)<|yS Z (zA Z Z tL) ?_;refine yS Z (aa.atomAdd (P:=Tryz.prog) (f:=273) (fn:=Tryz.f273) Z Z Z Tryz.func273 Z Ky KG Kq hH h0 hc hH') ?_;refine zM Z<|zN<|zT<|zQ<|zQ<|zR<|zM Z<|yS Z (ap Z Z Z Z)<|zN<|zT<|LW.condF Z<|zk<|zT<|zR ?_;refine yS Z (aa.mark0 (P:=Tryz.prog) (f:=269) (fn:=Tryz.f269) Z Z Z Tryz.func269 Z Gh Gj Gf) ?_;exact zN<|gM .none<|⟨rfl,rfl⟩
theorem IY {off:Nat}{cs cs':List LV}{H H':List ab}(hH:bc H 0=some (.box cs))(h0:bc cs (off+0+0)=some (.p (.int .i32 1)))(hb:Nat.blt (off+0) cs.length=true)(hc:bq cs (off+0+0) (.p (.int .i32 0))=some cs')(hH':bq H 0 (.box cs')=some H'):GK Tryz.prog 261 [.ptr 0 off] H H':=by
 refine GK.start (by kernel_rfl) Tryz.func261 Z Z Z (R:=Is (.tup []) H') (fun _ _ h=>h.2) ?_;exact zR<|zM Z<|yS Z (zn Z Z)<|yS Z (zA Z Z yv)<|yS Z (zC Z Z Z (by kernel_rfl) (LG hH h0 hb hc hH'))<|zN<|gM .none<|⟨rfl,rfl⟩
theorem IW {off:Nat}{n m:Int}{cs cs':List LV}{H H':List ab}(hH:bc H 0=some (.box cs))(h0:bc cs (off+0)=some (iQ n))(hc:bq cs (off+0) (.p (.int .i64 (IntKind.i64.wrap (n+m))))=some cs')(hH':bq H 0 (.box cs')=some H'):LC Tryz.prog 249 [.ptr 0 off,(iQ m)] H (Is (.p (.int .i64 (IntKind.i64.wrap (n+m)))) H'):=by
 refine fy Tryz.func249 Z Z Z ?_;refine zQ<|zR<|zM Z<|zN<|zT<|zQ<|zR<|zM Z<|yS Z (zn Z Z)<|yS Z (zA Z Z yA)<|zM Z ?_;refine yS Z (aa.atomAdd (P:=Tryz.prog) (f:=257) (fn:=Tryz.f257) Z Z Z Tryz.func257 Z Ks KA Kk hH h0 hc hH') ?_;exact zM Z<|zN<|zT<|zr<|aH (.one (.tmp Z))<|⟨rfl,rfl⟩
theorem La {off:Nat}{n:Int}{cs:List LV}{H:List ab}(hH:bc H 0=some (.box cs))(h0:bc cs (off+0)=some (iQ n)):LC Tryz.prog 197 [.ptr 0 off] H (Is (iQ n) H):=by
 refine fy Tryz.func197 Z Z Z ?_;refine zQ<|zR<|zM Z<|zN<|zT<|zQ<|zR<|zM Z<|yS Z (zn Z Z)<|yS Z (zA Z Z yA) ?_;refine yS Z (aa.atomLoad (P:=Tryz.prog) (f:=225) (fn:=Tryz.f225) Z Z Z Tryz.func225 Z Kr Kz Kj hH h0) ?_;exact zM Z<|zN<|zT<|zr<|aH (.one (.tmp Z))<|⟨rfl,rfl⟩
open Go.Proofs
def dE (seed n r:Int):Int:=IntKind.i64.wrap ((step seed (IntKind.u64.wrap r)).tmod (IntKind.u64.wrap n))
def lH (seed r:Int):Int:=step seed (IntKind.u64.wrap (IntKind.i64.wrap (1000+r)))
theorem Lw {cs cs1 cs2:List LV}{seed n r:Int}{q:Nat}(hs:bc cs (0+0)=some (uQ seed))(hn:bc cs (0+1)=some (iQ n))(hz:IntKind.u64.wrap n≠0)
  (hs1:bc cs1 (0+0)=some (uQ seed)) (hc1:bq cs (q+3) (.p (.int .i64 (dE seed n r)))=some cs1) (hc2:bq cs1 (q+4) (.p (.int .u64 (lH seed r)))=some cs2) :
  LC Tryz.prog 248 [.ptr 1 0,.ptr 2 0,.ptr 3 0] [.box cs,.box [.ptr 0 0],.box [(iQ r)],.box [.ptr 0 q]] (Is (.tup []) [.box cs2,.box [.ptr 0 0],.box [(iQ r)],.box [.ptr 0 q]]):=by
 refine fy Tryz.func248 Z Z Z ?_;refine zQ<|LW.drawW (by kernel_rfl) (by kernel_rfl)<|yF Z (zd Z Z Z p8 Z Z) Z<|yF Z (zd Z Z Z sg Z Z) Z ?_;refine yF (F:=[]) (s:=none) Z (fun H _=>zn Z Z) Z ?_;refine yF (F:=[]) (s:=none) Z (fun H _=>zA Z Z yB) Z ?_;refine yF Z (cq.load1 Z Z Z gA hs) Z<|yF Z (zd Z Z Z aW Z Z) Z ?_;refine yF (F:=[]) (s:=none) Z (fun H _=>aa.convert (k':=.u64) Z Z (by kernel_rfl)) Z ?_;refine yF (F:=[]) (s:=none) Z (fun H _=>zC Z Z Z (by kernel_rfl) (zp (vn (h:=seed) (x:=(IntKind.u64.wrap (r)))) (.cons zv (.cons zv .nil)))) Z ?_;refine yF Z (zd Z Z Z sg Z Z) Z ?_;refine yF (F:=[]) (s:=none) Z (fun H _=>zn Z Z) Z ?_;refine yF (F:=[]) (s:=none) Z (fun H _=>zA Z Z tM) Z ?_;refine yF Z (cq.load1 Z Z Z aW hn) Z ?_;refine yF (F:=[]) (s:=none) Z (fun H _=>aa.convert (k':=.u64) Z Z (by kernel_rfl)) Z ?_;refine yF (F:=[]) (s:=none) Z (fun H _=>aa.rem Z Z Z hz) Z ?_;refine yF (F:=[]) (s:=none) Z (fun H _=>aa.convert (k':=.i64) Z Z (by kernel_rfl)) Z ?_;refine yF (F:=[]) (s:=none) Z (fun H _=>zn Z Z) Z ?_;refine yF (F:=[]) (s:=none) Z (fun H _=>zA Z Z yy) Z ?_;refine yF Z (cq.store1 Z Z Z Z aW Z hc1) Z ?_;refine LF.nil ⟨by kernel_rfl,?_⟩;refine zT<|LW.drawW (by kernel_rfl) (by kernel_rfl)<|yF Z (zd Z Z Z p8 Z Z) Z<|yF Z (zd Z Z Z sg Z Z) Z ?_;refine yF (F:=[]) (s:=none) Z (fun H _=>zn Z Z) Z ?_;refine yF (F:=[]) (s:=none) Z (fun H _=>zA Z Z yB) Z ?_;refine yF Z (cq.load1 Z Z Z gA hs1) Z<|yF Z (zd Z Z Z aW Z Z) Z ?_;refine yF (F:=[]) (s:=none) Z (fun H _=>ap Z Z Z Z) Z ?_;refine yF (F:=[]) (s:=none) Z (fun H _=>aa.convert (k':=.u64) Z Z (by kernel_rfl)) Z ?_;refine yF (F:=[]) (s:=none) Z (fun H _=>zC Z Z Z (by kernel_rfl) (zp (vn (h:=seed) (x:=(IntKind.u64.wrap (IntKind.i64.wrap (1000+r))))) (.cons zv (.cons zv .nil)))) Z ?_;refine yF (F:=[]) (s:=none) Z (fun H _=>zn Z Z) Z ?_;refine yF (F:=[]) (s:=none) Z (fun H _=>zA Z Z yz) Z ?_;refine yF Z (cq.store1 Z Z Z Z gA Z hc2) Z ?_;refine LF.nil ⟨by kernel_rfl,?_⟩;exact gM .none<|⟨rfl,rfl⟩
abbrev DB :LV:=.fn 248 [] [.ptr 1 0,.ptr 2 0,.ptr 3 0]
theorem LB {cs csA cs1 cs2 csD csE:List LV}{seed n r:Int}{q:Nat}(hm:bc cs (q+0+1+0+0)=some (.p (.int .i32 0)))(hA:bq cs (q+0+1+0+0) (.p (.int .i32 1))=some csA)(hAb:Nat.blt (q+0+1+0) csA.length=true)
  (hd:bc csA (q+0+0+0)=some (.p (.int .u32 0))) (hs:bc csA (0+0)=some (uQ seed)) (hn:bc csA (0+1)=some (iQ n)) (hz:IntKind.u64.wrap n≠0)
  (hs1:bc cs1 (0+0)=some (uQ seed)) (hc1:bq csA (q+3) (.p (.int .i64 (dE seed n r)))=some cs1) (hc2:bq cs1 (q+4) (.p (.int .u64 (lH seed r)))=some cs2)
  (hD:bq cs2 (q+0+0+0) (.p (.int .u32 1))=some csD) (hDm:bc csD (q+0+1+0+0)=some (.p (.int .i32 1))) (hDb:Nat.blt (q+0+1+0) csD.length=true) (hE:bq csD (q+0+1+0+0) (.p (.int .i32 0))=some csE) :
  LC Tryz.prog 256 [.ptr 0 (q+0),DB] [.box cs,.box [.ptr 0 0],.box [(iQ r)],.box [.ptr 0 q]] (Is (.tup []) [.box csE,.box [.ptr 0 0],.box [(iQ r)],.box [.ptr 0 q]]):=by
 refine LC.ofD Tryz.func256 Z Z Z Z ?_;refine so.seq<|so.region<|cH.st Z Z Z (zm Z Z)<|cH.st Z Z Z (zn Z Z)<|cH.st Z Z Z (zA Z Z yw)<|cH.st Z Z Z (zC Z Z Z (by kernel_rfl) (LD (off:=q+0+1) Z hm hA Z hAb))<|cH.nil<|so.seq<|so.region<|cH.st Z Z Z (zm Z Z)<|cH.st Z Z Z (zn Z Z)<|cH.st Z Z Z (zA Z Z yw)<|cH.defer Z Z Z Z Z<|cH.nil<|so.seq<|so.region<|cH.st Z Z Z (zm Z Z)<|cH.st Z Z Z (zn Z Z)<|cH.st Z Z Z (zA Z Z qu)<|cH.st Z Z Z (zC Z Z Z (by kernel_rfl) (G3 (off:=q+0+0) (n:=0) Z hd))<|cH.st Z Z Z (aa.not Z Z)<|cH.nil<|so.condT Z<|so.seq ?_;exact so.region<|cH.st Z Z Z (zm Z Z)<|cH.st Z Z Z (zn Z Z)<|cH.st Z Z Z (zA Z Z qu)<|cH.defer Z Z Z Z Z<|cH.nil<|so.region<|cH.st Z Z Z (zm Z Z)<|cH.st Z Z Z (zC Z Z Z (by kernel_rfl) (Lw hs hn hz hs1 hc1 hc2))<|cH.nil<|⟨.inl rfl,.cons (IZ (off:=q+0+0) Z hD Z) (.cons (IY (off:=q+0+1) Z hDm hDb hE Z) .nil)⟩
theorem IV {cs csA cs1 cs2 csD csE:List LV}{seed n r:Int}{q:Nat}(hd0:bc cs (q+0+0+0)=some (.p (.int .u32 0)))(hm:bc cs (q+0+1+0+0)=some (.p (.int .i32 0)))(hA:bq cs (q+0+1+0+0) (.p (.int .i32 1))=some csA)(hAb:Nat.blt (q+0+1+0) csA.length=true)
  (hd:bc csA (q+0+0+0)=some (.p (.int .u32 0))) (hs:bc csA (0+0)=some (uQ seed)) (hn:bc csA (0+1)=some (iQ n)) (hz:IntKind.u64.wrap n≠0)
  (hs1:bc cs1 (0+0)=some (uQ seed)) (hc1:bq csA (q+3) (.p (.int .i64 (dE seed n r)))=some cs1) (hc2:bq cs1 (q+4) (.p (.int .u64 (lH seed r)))=some cs2)
  (hD:bq cs2 (q+0+0+0) (.p (.int .u32 1))=some csD) (hDm:bc csD (q+0+1+0+0)=some (.p (.int .i32 1))) (hDb:Nat.blt (q+0+1+0) csD.length=true) (hE:bq csD (q+0+1+0+0) (.p (.int .i32 0))=some csE):LC Tryz.prog 247 [.ptr 0 (q+0),DB] [.box cs,.box [.ptr 0 0],.box [(iQ r)],.box [.ptr 0 q]] (Is (.tup []) [.box csE,.box [.ptr 0 0],.box [(iQ r)],.box [.ptr 0 q]]):=by
 refine fy Tryz.func247 Z Z Z ?_;exact zQ<|zR<|zM Z<|yS Z (zn Z Z)<|yS Z (zA Z Z qu)<|yS Z (zC Z Z Z (by kernel_rfl) (G3 (off:=q+0+0) (n:=0) Z hd0))<|yS Z (aa.not Z Z)<|zN<|zT<|LW.condT Z<|zR<|zM Z<|zM Z<|yS Z (zC Z Z Z (by kernel_rfl) (LB hm hA hAb hd hs hn hz hs1 hc1 hc2 hD hDm hDb hE))<|zN<|gM .none<|⟨rfl,rfl⟩
theorem IU {cs:List LV}{r:Int}{q:Nat}(hd:bc cs (q+0+0+0)=some (.p (.int .u32 1))):LC Tryz.prog 247 [.ptr 0 (q+0),DB] [.box cs,.box [.ptr 0 0],.box [(iQ r)],.box [.ptr 0 q]] (Is (.tup []) [.box cs,.box [.ptr 0 0],.box [(iQ r)],.box [.ptr 0 q]]):=by
 refine fy Tryz.func247 Z Z Z ?_;exact zQ<|zR<|zM Z<|yS Z (zn Z Z)<|yS Z (zA Z Z qu)<|yS Z (zC Z Z Z (by kernel_rfl) (G3 (off:=q+0+0) (n:=1) Z hd))<|yS Z (aa.not Z Z)<|zN<|zT<|LW.condF Z<|zk<|gM .none<|⟨rfl,rfl⟩
open Go.Proofs
def jj (seed n r:Int)(b:Bool):List LV:=
 [.p (.int .u32 (cond b 1 0)),.p (.int .i32 0),.p (.int .u32 0),.p (.int .i64 (cond b (dE seed n r) 0)),.p (.int .u64 (cond b (lH seed r) 0))]
def vu (seed n:Int)(f:Nat→Bool)(k:Int):List LV:=
 (uQ seed)::(iQ n)::(jj seed n 0 (f 0)++(jj seed n 1 (f 1)++(jj seed n 2 (f 2)++(jj seed n 3 (f 3)++(jj seed n 4 (f 4)++(jj seed n 5 (f 5)++(jj seed n 6 (f 6)++(jj seed n 7 (f 7)++(jj seed n 8 (f 8)++(jj seed n 9 (f 9)++[(iQ k)]))))))))))
def AY (f:Nat→Bool)(i:Nat):Nat→Bool:=fun j=>cond (Nat.beq j i) true (f j)
def Hk (f:Nat→Bool)(i:Nat):Nat→Bool:=fun j=>cond (Nat.beq j i) false (f j)
theorem yW {f:Nat→Bool}{i:Nat}(h:f i=true):AY f i=f:=by
 funext j;unfold AY
 cases e:Nat.beq j i with
 |false=>rfl
 |true=>rw[Nat.eq_of_beq_eq_true e,h];rfl
theorem E2 {f:Nat→Bool}{i:Nat}(h:f i=false):Hk f i=f:=by
 funext j;unfold Hk
 cases e:Nat.beq j i with
 |false=>rfl
 |true=>rw[Nat.eq_of_beq_eq_true e,h];rfl
structure Dk where
 f:Nat→Bool
 k:Int
def i5 (seed n:Int)(d:Dk):List LV:=vu seed n d.f d.k
def Dk.turned (d:Dk)(r:Int):Dk:=⟨AY d.f r.toNat,IntKind.i64.wrap (d.k+1)⟩
def sb (n r:Int):Bool:=decide (n≠0∧IntKind.u64.wrap n≠0∧0≤r∧r<10)
theorem fZ {n r:Int}(h:sb n r=true):n≠0∧IntKind.u64.wrap n≠0∧0≤r∧r<10:=of_decide_eq_true h
theorem IR {cs csA cs1 cs2 csD csE:List LV}{seed n r:Int}(hd0:bc cs ((2+r.toNat*5)+0+0+0)=some (.p (.int .u32 0)))(hm:bc cs ((2+r.toNat*5)+0+1+0+0)=some (.p (.int .i32 0)))(hA:bq cs ((2+r.toNat*5)+0+1+0+0) (.p (.int .i32 1))=some csA)(hAb:Nat.blt ((2+r.toNat*5)+0+1+0) csA.length=true)
  (hd:bc csA ((2+r.toNat*5)+0+0+0)=some (.p (.int .u32 0))) (hs:bc csA (0+0)=some (uQ seed)) (hn:bc csA (0+1)=some (iQ n)) (hz:IntKind.u64.wrap n≠0)
  (hs1:bc cs1 (0+0)=some (uQ seed)) (hc1:bq csA ((2+r.toNat*5)+3) (.p (.int .i64 (dE seed n r)))=some cs1) (hc2:bq cs1 ((2+r.toNat*5)+4) (.p (.int .u64 (lH seed r)))=some cs2)
  (hD:bq cs2 ((2+r.toNat*5)+0+0+0) (.p (.int .u32 1))=some csD) (hDm:bc csD ((2+r.toNat*5)+0+1+0+0)=some (.p (.int .i32 1))) (hDb:Nat.blt ((2+r.toNat*5)+0+1+0) csD.length=true) (hE:bq csD ((2+r.toNat*5)+0+1+0+0) (.p (.int .i32 0))=some csE) {k:Int} {csF:List LV} (hr0:0≤r) (hr1:r<10) (hk:bc csE (0+52+0)=some (iQ k)) (hF:bq csE (0+52+0) (.p (.int .i64 (IntKind.i64.wrap (k+1))))=some csF) (hl:LV.lowsB 1 csF=true):LC Tryz.prog 234 [.ptr 0 0,(iQ r)] [.box cs] (Is (.ptr 0 (2+r.toNat*5)) [.box csF]):=by
 refine fy Tryz.func234 Z Z Z ?_;refine zQ<|zR<|yS Z (bw Z Z Z Z Z)<|yS Z (bw Z Z Z Z Z)<|zM Z<|zN<|zT<|zQ<|LW.ent (cz.slot Z)<|LW.drawW (by kernel_rfl) (by kernel_rfl)<|yF Z (zd Z Z Z sg Z Z) Z<|yF Z (zd Z Z Z aW Z Z) Z ?_;refine yF (F:=[]) (s:=none) Z (fun H _=>zn Z Z) Z ?_;refine yF (F:=[]) (s:=none) Z (fun H _=>zA Z Z yC) Z ?_;refine yF (F:=[]) (s:=none) Z (fun H _=>aa.indexAddrA Z Z Z FD hr0 hr1) Z ?_;refine yF Z (cq.alloc Z Gm (id:=3) Z) Z<|yF Z (zt Z Z Z Z p8 Z Z Z) Z ?_;refine LF.nil ⟨by kernel_rfl,?_⟩;refine zT<|zQ<|zR<|yS Z (zD Z Z Z p8 Z Z)<|yS Z (zn Z Z)<|yS Z (zA Z Z yx)<|yS Z (aa.makeFunc Z Z Z)<|yS Z (zC Z Z Z (by kernel_rfl) (IV (q:=(2+r.toNat*5)) hd0 hm hA hAb hd hs hn hz hs1 hc1 hc2 hD hDm hDb hE))<|zN<|zT<|zQ<|zR<|yS Z (zD Z Z Z sg Z Z)<|yS Z (zn Z Z)<|yS Z (zA Z Z tN)<|yS Z (zC Z Z Z (by kernel_rfl) (IW (off:=0+52) Z hk hF Z))<|zN<|zT<|zQ<|zR<|yS Z (zD Z Z Z p8 Z Z)<|zM Z<|zN<|zT ?_;refine LW.ret ?_;refine cr (env':=[(4,.ptr 0 (2+r.toNat*5))]) (H':=[.box csF]) (zW 1 ⟨rfl,trivial⟩ Z Z Z (zL hl Z)) (.one (.tmp Z)) ⟨rfl,rfl⟩
theorem IQ {cs:List LV}{r:Int}(hd:bc cs ((2+r.toNat*5)+0+0+0)=some (.p (.int .u32 1))){k:Int}{csF:List LV}(hr0:0≤r)(hr1:r<10)(hk:bc cs (0+52+0)=some (iQ k))(hF:bq cs (0+52+0) (.p (.int .i64 (IntKind.i64.wrap (k+1))))=some csF)(hl:LV.lowsB 1 csF=true):LC Tryz.prog 234 [.ptr 0 0,(iQ r)] [.box cs] (Is (.ptr 0 (2+r.toNat*5)) [.box csF]):=by
 refine fy Tryz.func234 Z Z Z ?_;refine zQ<|zR<|yS Z (bw Z Z Z Z Z)<|yS Z (bw Z Z Z Z Z)<|zM Z<|zN<|zT<|zQ<|LW.ent (cz.slot Z)<|LW.drawW (by kernel_rfl) (by kernel_rfl)<|yF Z (zd Z Z Z sg Z Z) Z<|yF Z (zd Z Z Z aW Z Z) Z ?_;refine yF (F:=[]) (s:=none) Z (fun H _=>zn Z Z) Z ?_;refine yF (F:=[]) (s:=none) Z (fun H _=>zA Z Z yC) Z ?_;refine yF (F:=[]) (s:=none) Z (fun H _=>aa.indexAddrA Z Z Z FD hr0 hr1) Z ?_;refine yF Z (cq.alloc Z Gm (id:=3) Z) Z<|yF Z (zt Z Z Z Z p8 Z Z Z) Z ?_;refine LF.nil ⟨by kernel_rfl,?_⟩;refine zT<|zQ<|zR<|yS Z (zD Z Z Z p8 Z Z)<|yS Z (zn Z Z)<|yS Z (zA Z Z yx)<|yS Z (aa.makeFunc Z Z Z)<|yS Z (zC Z Z Z (by kernel_rfl) (IU (q:=(2+r.toNat*5)) hd))<|zN<|zT<|zQ<|zR<|yS Z (zD Z Z Z sg Z Z)<|yS Z (zn Z Z)<|yS Z (zA Z Z tN)<|yS Z (zC Z Z Z (by kernel_rfl) (IW (off:=0+52) Z hk hF Z))<|zN<|zT<|zQ<|zR<|yS Z (zD Z Z Z p8 Z Z)<|zM Z<|zN<|zT ?_;refine LW.ret ?_;refine cr (env':=[(4,.ptr 0 (2+r.toNat*5))]) (H':=[.box csF]) (zW 1 ⟨rfl,trivial⟩ Z Z Z (zL hl Z)) (.one (.tmp Z)) ⟨rfl,rfl⟩
theorem Df {seed n r k:Int}{f:Nat→Bool}(hz:IntKind.u64.wrap n≠0)(hr0:0≤r)(hr1:r<10) :
  LC Tryz.prog 234 [.ptr 0 0,(iQ r)] [.box (vu seed n (Hk f r.toNat) k)] (Is (.ptr 0 (2+r.toNat*5)) [.box (vu seed n (AY f r.toNat) (IntKind.i64.wrap (k+1)))]):=by
 have hc:r=0∨r=1∨r=2∨r=3∨r=4∨r=5∨r=6∨r=7∨r=8∨r=9:=by omega
 rcases hc with rfl|rfl|rfl|rfl|rfl|rfl|rfl|rfl|rfl|rfl
 all_goals exact IR (seed:=seed) (n:=n) rfl rfl rfl rfl rfl rfl rfl hz rfl rfl rfl rfl rfl rfl rfl hr0 hr1 rfl rfl rfl
theorem De {seed n r k:Int}{f:Nat→Bool}(hr0:0≤r)(hr1:r<10) :
  LC Tryz.prog 234 [.ptr 0 0,(iQ r)] [.box (vu seed n (AY f r.toNat) k)] (Is (.ptr 0 (2+r.toNat*5)) [.box (vu seed n (AY f r.toNat) (IntKind.i64.wrap (k+1)))]):=by
 have hc:r=0∨r=1∨r=2∨r=3∨r=4∨r=5∨r=6∨r=7∨r=8∨r=9:=by omega
 rcases hc with rfl|rfl|rfl|rfl|rfl|rfl|rfl|rfl|rfl|rfl
 all_goals exact IQ rfl hr0 hr1 rfl rfl rfl
theorem Ln {seed n r:Int}{d:Dk}(h:sb n r=true):LC Tryz.prog 234 [.ptr 0 0,(iQ r)] [.box (i5 seed n d)] (Is (.ptr 0 (2+r.toNat*5)) [.box (i5 seed n (d.turned r))]):=by
 obtain⟨-,h1,h2,h3⟩:=fZ h
 cases hf:d.f r.toNat with
 |true=>
  have:=De (seed:=seed) (n:=n) (k:=d.k) (f:=d.f) h2 h3;rw[yW hf]at this;unfold i5 Dk.turned;rw[yW hf];exact this
 |false=>
  have:=Df (seed:=seed) (n:=n) (k:=d.k) (f:=d.f) h1 h2 h3;rw[E2 hf]at this;exact this
theorem w7 {seed n r:Int}{d:Dk}(hr0:0≤r)(hr1:r<10):bc (i5 seed n (d.turned r)) (2+r.toNat*5+3)=some (.p (.int .i64 (dE seed n r))):=by
 have hc:r=0∨r=1∨r=2∨r=3∨r=4∨r=5∨r=6∨r=7∨r=8∨r=9:=by omega
 rcases hc with rfl|rfl|rfl|rfl|rfl|rfl|rfl|rfl|rfl|rfl
 all_goals rfl
theorem As {seed n r:Int}{d:Dk}(hr0:0≤r)(hr1:r<10):bc (i5 seed n (d.turned r)) (2+r.toNat*5+4)=some (.p (.int .u64 (lH seed r))):=by
 have hc:r=0∨r=1∨r=2∨r=3∨r=4∨r=5∨r=6∨r=7∨r=8∨r=9:=by omega
 rcases hc with rfl|rfl|rfl|rfl|rfl|rfl|rfl|rfl|rfl|rfl
 all_goals rfl
def eg (seed n r i:Int):Int:=(IntKind.i64.wrap (IntKind.i64.wrap (dE seed n r+n)-i)).tmod n
def r9 (seed n r i:Int):Bool:=bits .and .u64 (step (lH seed r) (IntKind.u64.wrap (if eg seed n r i>i then eg seed n r i else i))) 1==1
def lI (seed n r i:Int):Int:=bif r9 seed n r i then eg seed n r i else i
theorem K9 {seed n r i:Int}{d:Dk}(h:sb n r=true):LC Tryz.prog 224 [.ptr 0 0,(iQ r),(iQ i)] [.box (i5 seed n d)] (Is (.p (.int .i64 (lI seed n r i))) [.box (i5 seed n (d.turned r))]):=by
 refine fy Tryz.func224 Z Z Z ?_;refine zQ<|zR<|zM Z<|zN<|zT<|zQ<|zR<|zM Z<|zM Z<|yS Z (zC Z Z Z (by kernel_rfl) (Ln h))<|zM Z<|zN<|zT<|zQ<|LW.draw2 (by kernel_rfl) (by kernel_rfl)<|zH Z<|yE Z (zn Z Z)<|yE Z (zA Z Z yy)<|yE Z (aa.load1 Z Z Z aW (w7 (fZ h).2.2.1 (fZ h).2.2.2))<|zH Z<|yE Z (zn Z Z)<|yE Z (zA Z Z tM)<|yE Z (aa.load1 Z Z Z aW Z)<|yE Z (ap Z Z Z Z) ?_;refine zH Z<|yE Z (ap Z Z Z Z)<|zH Z<|yE Z (zn Z Z)<|yE Z (zA Z Z tM)<|yE Z (aa.load1 Z Z Z aW Z)<|yE Z (aa.rem Z Z Z (fZ h).1)<|zH Z<|LO.nil<|zT<|zQ<|zQ<|zR<|zM Z<|yS Z (zn Z Z)<|yS Z (zA Z Z yz)<|yS Z (aa.load1 Z Z Z gA (As (fZ h).2.2.1 (fZ h).2.2.2))<|zM Z<|zM Z<|yS Z (aa.max Z Z Z)<|yS Z (aa.convert (k':=.u64) Z Z (by kernel_rfl))<|yS Z (zC Z Z Z (by kernel_rfl) (zp (vn (h:=(lH seed r)) (x:=(IntKind.u64.wrap (if (eg seed n r i)>i then(eg seed n r i)else i)))) (.cons zv (.cons zv .nil))))<|yS Z (ap Z Z Z Z)<|yS Z (ap Z Z Z Z) ?_;refine zN<|zT ?_;refine zX Z (fun g1=>?_)<|fun g1=>?_
 ·exact zQ<|zR<|zM Z<|zM Z<|zN<|zT<|zr<|af<|aH (.one (.tmp Z))<|⟨by unfold lI r9;rw[g1];rfl,rfl⟩
 ·exact zk<|zT<|zQ<|zR<|zM Z<|zM Z<|zN<|zT<|zr<|aH (.one (.tmp Z))<|⟨by unfold lI r9;rw[g1];rfl,rfl⟩
open Go.Proofs
def Hn (l:List Bk):Bool:=decide (l.length≤1000)
theorem w8 {l:List Bk}(h:Hn l=true):l.length≤1000:=of_decide_eq_true h
def HN (l:List Bk):Option Bool:=
 (match places l with
 |none=>
  some false
 |some _=>
  some true)
theorem L9 {l:List Bk}{r_:Bool}(hr:HN l=some r_):ar Tryz.prog 190 [.slice 5 (l.map av)] [.bool r_]:=by
 refine zh Tryz.func190 Z Z Z Z ?_;unfold HN at hr;refine zQ<|zR<|zM Z<|zN<|zT<|zQ<|zR<|zM Z ?_;rcases h_f1:places l with _|m_
 ·rw[h_f1]at hr;simp only at hr;refine yS Z (zC Z Z Z (by kernel_rfl) (Jy h_f1))<|zM Z<|yS Z (dW Z Z Z)<|yS Z (dW Z Z Z)<|zM Z<|zM Z<|zN<|zT<|zQ<|zR<|zM Z<|zM Z<|zN<|zT<|zr ?_;obtain rfl:=zJ hr;exact zf (.one (.tmp Z)) zv
 ·rw[h_f1]at hr;simp only at hr;refine yS Z (zC Z Z Z (by kernel_rfl) (Jz h_f1 Z Z Z))<|zM Z<|yS Z (dW Z Z Z)<|yS Z (dW Z Z Z)<|zM Z<|zM Z<|zN<|zT<|zQ<|zR<|zM Z<|zM Z<|zN<|zT<|zr ?_;obtain rfl:=zJ hr;exact zf (.one (.tmp Z)) zv
structure la where
 t13:Int
 out:List ID
def oU (l:List Bk)(id:ID)(x1:la):Option (la⊕la):=bif decide (x1.t13<(l.length:Int))then (ix l x1.t13).bind fun y1=>bif ((y1.Parent.1==id.1)&&((y1.Parent.2==id.2)&&true))then bif cy x1.out.length [nm y1].length 16 then some (.inl (la.mk (IntKind.i64.wrap (x1.t13+1)) (x1.out++[nm y1])))else none else some (.inl (la.mk (IntKind.i64.wrap (x1.t13+1)) x1.out))else some (.inr (la.mk x1.t13 x1.out))
def Ih (l:List Bk)(id:ID):Option (List ID):=(HN l).bind fun v1=>bif !v1 then some [] else (iter (oU l id) bg (la.mk 0 ([]:List ID))).bind fun v2=>some v2.out
theorem Mq {l:List Bk}{id:ID}{r_:(List ID)}(hr:Ih l id=some r_):ar Tryz.prog 178 [.slice 5 (l.map av),aR id] [.slice 2 (r_.map aR)]:=by
 refine zh Tryz.func178 Z Z Z Z ?_;unfold Ih at hr;refine zQ<|zR<|yS Z (bw Z Z Z Z Z)<|zM Z<|zN<|zT<|zQ<|zQ<|zR<|zM Z<|zb hr fun v1 h_v1 hr=>yS Z (zC Z Z Z (by kernel_rfl) (zp (L9 h_v1) (.cons zv .nil)))<|yS Z (aa.not Z Z)<|zN<|zT ?_;refine zX Z (fun g1=>?_)<|fun g1=>?_
 ·refine zi g1 hr fun hr=>zQ<|zR<|zM Z<|zN<|zT<|zr<|af ?_;obtain rfl:=zJ hr;exact zf (.one (.tmp Z)) Conv.zs
 ·refine zo g1 hr fun hr=>zk<|zT<|zQ<|zR<|zM Z<|zN<|zT<|zQ<|zQ<|zR<|zM Z<|yS Z (cD Z Z (by kernel_rfl))<|zM Z<|zN<|zT<|LW.ent (cz.lazy (t:=5) (m:=2) Z Z Z) ?_;obtain⟨v2,hb_v2,ho_v2⟩:=zB hr;clear hr;refine LW.tail (E:=[(4,.zs),(5,.vec 2 1 (v2.out.map aR).length 0 (v2.out.map aR).length)]) (O:=[.box [(uQ id.1),(uQ id.2)],.vec 2 (v2.out.map aR)]) ?_<|fun env_v2 H_v2 hw_v2=>?_
  ·refine LW.block ?_;refine LW.iterB (E:=fun x1:la=>[(3,.ptr 0 0),(4,.zs),(5,.vec 2 1 (x1.out.map aR).length 0 (x1.out.map aR).length),(11,(kB l)),(12,.p (.int .i64 (l.length:Int))),(13,(iQ x1.t13))]) (O:=fun x1=>[.box [(uQ id.1),(uQ id.2)],.vec 2 (x1.out.map aR)]) hb_v2 (zW 2 ⟨rfl,rfl,rfl,rfl,rfl,rfl,trivial⟩ Z Z Z Z)<|fun x1 z_x1 hr hb_x1=>?_;unfold oU at hr;refine zQ<|zR<|yS Z (ap Z Z Z Z)<|zN<|zT<|zQ ?_;refine zX Z (fun g2=>?_)<|fun g2=>?_
   ·refine zi g2 hr fun hr=>zk<|zT<|zQ<|zl<|zQ<|zR<|zb hr fun y1 h_y1 hr=>yS Z (zx Z Z Z cw h_y1 Z)<|yS Z (ci Z Z Z bW Z Z)<|yS Z (ze Z sn Z Z)<|yS Z (zs Z Z Z Z bW Z Z Z Z)<|zN<|zT<|zQ<|zR<|yS Z (zA Z Z fj)<|yS Z (zD Z Z Z ay Z Z)<|yS Z (zD Z Z Z ay Z Z)<|yS Z (aa.eqlAgg Z Z Z Z Z fu)<|zN<|zT ?_;refine zX Z (fun g3=>?_)<|fun g3=>?_
    ·refine zi g3 hr fun hr=>zR<|zM Z<|yS Z (zD Z Z Z bW Z Z)<|yS Z (zC Z Z Z (by kernel_rfl) (zp (G4 (b:=y1)) (.cons zv .nil)))<|yS Z (iO Z ey Z Z Z Z Z)<|zg hr fun q1 hr=>yS Z (aa.appendX aR x1.out [nm y1] rfl Z Z Z iR.p Z ey q1 Z)<|zM Z<|zN<|ai<|zT<|zR<|yS Z (ap Z Z Z Z)<|zM Z<|zN<|zT ?_;obtain rfl:=zJ hr;exact⟨_,rfl,zW 2 ⟨rfl,rfl,rfl,rfl,rfl,rfl,trivial⟩ Z Z Z rfl⟩
    ·refine zo g3 hr fun hr=>zk<|ai<|zT<|zR<|yS Z (ap Z Z Z Z)<|zM Z<|zN<|zT ?_;obtain rfl:=zJ hr;exact⟨_,rfl,zW 2 ⟨rfl,rfl,rfl,rfl,rfl,rfl,trivial⟩ Z Z Z rfl⟩
   ·refine zo g2 hr fun hr=>zq<|aj<|aj<|zy<|zT ?_;obtain rfl:=zJ hr;have hr:=congrArg some (hb_x1 _ rfl);obtain rfl:=zJ hr;exact zW 2 ⟨Z,Z,trivial⟩ Z Z Z Z
  ·have hr:=ho_v2;clear hb_v2;refine zT<|LW.weak hw_v2<|zQ<|zR<|zM Z<|zM Z<|zN<|zT<|zr ?_;obtain rfl:=zJ hr;exact zf (.one (.tmp Z))<|(Conv.vecAll Z Z Z)
end Go.Mg
