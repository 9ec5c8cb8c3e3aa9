/- What the logic needs to know of each type of the program. Conditions: none. -/
import Derived.Test.YtfbigoipfbiliaaGreatProg
import Derived.Test.YtfbigoipfbiliaaGreatX3
set_option maxRecDepth 100000
set_option linter.all false
namespace Go.Mg
open IntKind (i32 i64 u32 u64)
open Go.Proofs.Tryz (f225 f257 f259 f265 f267 f268 f269 f270 f272 f273 prog)
open List (getElem?_eq_getElem length length_map length_singleton)
open Nat (beq blt zero_le)
open Option (none_or)
open Int (toNat)
open Go.Proofs
variable {H H' : List ab} {cs cs' cs1 cs2 csA csD csE csF : List LV} {i r : Int} {off q : Nat} {xs : List PV}
section
variable {w : World}
theorem qB :qA prog 32=some (2,1,false):=by kernel_rfl
theorem BG :qA prog 79=some (3,1,false):=by kernel_rfl
theorem Kr :qA prog 230=some (10,5,true):=by kernel_rfl
theorem G4 :qA prog 247=some (2,1,false):=by kernel_rfl
theorem fJ :qA prog 252=some (4,1,false):=by kernel_rfl
theorem Qd :cN prog 25=some ([LV.zs,LV.p (PV.int u64 0),LV.p (PV.int i64 0),LV.p (PV.int i64 0),LV.p (PV.int i64 0)],[(0,1),(1,1),(2,1),(3,1),(4,1)]):=by kernel_rfl
theorem nF :cN prog 29=some ([LV.zs,LV.zs],[(0,1),(1,1)]):=by kernel_rfl
theorem nE :cN prog 32=some ([LV.p (PV.int u64 0),LV.p (PV.int u64 0)],[(0,1),(1,1)]):=by kernel_rfl
theorem Qc :cN prog 34=some ([LV.p (PV.int u64 0),LV.p (PV.int u64 0),LV.p (PV.int i64 0),LV.p (PV.int i64 0)],[(0,2),(2,1),(3,1)]):=by kernel_rfl
theorem w9 :cN prog 36=some ([LV.p (PV.int i64 0),LV.p (PV.int i64 0),LV.zs,LV.zs,LV.zs,LV.zs,LV.zs,LV.p (PV.int u64 0),LV.p (PV.int u64 0),LV.p (PV.int i64 0),LV.p (PV.int i64 0),LV.p (PV.bool false)],[(0,1),(1,1),(2,2),(4,2),(6,1),(7,4),(11,1)]):=by kernel_rfl
theorem w8 :cN prog 52=some ([LV.zs,LV.p (PV.int u64 0),LV.p (PV.int i64 0),LV.p (PV.int i64 0),LV.p (PV.int i64 0),LV.zs,LV.p (PV.int i64 0),LV.zs,LV.zs],[(0,5),(5,1),(6,1),(7,1),(8,1)]):=by kernel_rfl
theorem LY :cN prog 65=some ([LV.p (PV.int i64 0),LV.p (PV.int i64 0),LV.p (PV.int u64 0),LV.p (PV.int u64 0),LV.p (PV.int u64 0)],[(0,1),(1,1),(2,2),(4,1)]):=by kernel_rfl
theorem xa :cN prog 67=some ([LV.p (PV.int i64 0),LV.p (PV.int i64 0),LV.p (PV.int i64 0),LV.p (PV.int i64 0),LV.p (PV.int u64 0),LV.p (PV.int u64 0),LV.p (PV.int u64 0),LV.zs,LV.zs],[(0,1),(1,1),(2,5),(7,2)]):=by kernel_rfl
theorem LQ :cN prog 71=some ([LV.p (PV.int i64 0),LV.p (PV.int i64 0),LV.zs,LV.zs,LV.zs,LV.zs,LV.zs,LV.p (PV.int u64 0),LV.p (PV.int u64 0),LV.p (PV.int i64 0),LV.p (PV.int i64 0),LV.p (PV.bool false),LV.zs,LV.p (PV.int u64 0),LV.p (PV.int i64 0),LV.p (PV.int i64 0),LV.p (PV.int i64 0),LV.p (PV.int i64 0),LV.zs],[(0,12),(12,5),(17,1),(18,1)]):=by kernel_rfl
theorem LR :cN prog 79=some ([LV.any,LV.any,LV.any],[(0,1),(1,1),(2,1)]):=by kernel_rfl
theorem LX :cN prog 93=some ([LV.zs,LV.p (PV.int u64 0),LV.p (PV.int i64 0),LV.p (PV.int i64 0),LV.p (PV.int i64 0),LV.zs,LV.p (PV.int i64 0),LV.zs,LV.zs,LV.zs,LV.zs,LV.p (PV.int i64 0),LV.p (PV.bool false),LV.any,LV.p (PV.int i64 0),LV.zs],[(0,9),(9,2),(11,1),(12,1),(13,1),(14,1),(15,1)]):=by kernel_rfl
theorem LZ :cN prog 111=some ([LV.p (PV.int i64 0),LV.p (PV.int i64 0),LV.p (PV.int u64 0),LV.p (PV.int u64 0)],[(0,1),(1,1),(2,2)]):=by kernel_rfl
theorem LS :cN prog 153=some ([LV.any,LV.any],[(0,1),(1,1)]):=by kernel_rfl
theorem Nt :cN prog 176=some ([LV.zs,LV.zs,LV.nilmap,LV.nilmap,LV.p (PV.int i64 0),LV.p (PV.bool false)],[(0,2),(2,1),(3,1),(4,1),(5,1)]):=by kernel_rfl
theorem LT :cN prog 190=some ([LV.zs,LV.zs,LV.zs,LV.zs,LV.zs,LV.p (PV.bool false)],[(0,2),(2,2),(4,1),(5,1)]):=by kernel_rfl
theorem Ks :cN prog 194=some ([LV.p (PV.int i64 0),LV.p (PV.int u64 0),LV.p (PV.int u64 0)],[(0,1),(1,2)]):=by kernel_rfl
theorem LP :cN prog 199=some ([LV.nilmap,LV.nilmap],[(0,1),(1,1)]):=by kernel_rfl
theorem Ha :cN prog 202=some ([LV.p (PV.int i64 0),LV.p (PV.int i64 0)],[(0,1),(1,1)]):=by kernel_rfl
theorem Ns :cN prog 235=some ([LV.p (PV.int u64 0),LV.p (PV.int i64 0),LV.p (PV.int u32 0),LV.p (PV.int i32 0),LV.p (PV.int u32 0),LV.p (PV.int i64 0),LV.p (PV.int u64 0),LV.p (PV.int u32 0),LV.p (PV.int i32 0),LV.p (PV.int u32 0),LV.p (PV.int i64 0),LV.p (PV.int u64 0),LV.p (PV.int u32 0),LV.p (PV.int i32 0),LV.p (PV.int u32 0),LV.p (PV.int i64 0),LV.p (PV.int u64 0),LV.p (PV.int u32 0),LV.p (PV.int i32 0),LV.p (PV.int u32 0),LV.p (PV.int i64 0),LV.p (PV.int u64 0),LV.p (PV.int u32 0),LV.p (PV.int i32 0),LV.p (PV.int u32 0),LV.p (PV.int i64 0),LV.p (PV.int u64 0),LV.p (PV.int u32 0),LV.p (PV.int i32 0),LV.p (PV.int u32 0),LV.p (PV.int i64 0),LV.p (PV.int u64 0),LV.p (PV.int u32 0),LV.p (PV.int i32 0),LV.p (PV.int u32 0),LV.p (PV.int i64 0),LV.p (PV.int u64 0),LV.p (PV.int u32 0),LV.p (PV.int i32 0),LV.p (PV.int u32 0),LV.p (PV.int i64 0),LV.p (PV.int u64 0),LV.p (PV.int u32 0),LV.p (PV.int i32 0),LV.p (PV.int u32 0),LV.p (PV.int i64 0),LV.p (PV.int u64 0),LV.p (PV.int u32 0),LV.p (PV.int i32 0),LV.p (PV.int u32 0),LV.p (PV.int i64 0),LV.p (PV.int u64 0),LV.p (PV.int i64 0)],[(0,1),(1,1),(2,50),(52,1)]):=by kernel_rfl
theorem LN :cN prog 247=some ([LV.p (PV.int u64 0),LV.p (PV.int u64 0)],[(0,1),(1,1)]):=by kernel_rfl
theorem LU :cN prog 252=some ([LV.p (PV.int i64 0),LV.p (PV.int i64 0),LV.p (PV.int i64 0),LV.p (PV.int i64 0)],[(0,1),(1,1),(2,1),(3,1)]):=by kernel_rfl
theorem gY :nI prog 32 2=true:=by kernel_rfl
theorem KS :nI prog 34 4=true:=by kernel_rfl
theorem uw :nI prog 65 5=true:=by kernel_rfl
theorem Am :nI prog 111 4=true:=by kernel_rfl
theorem Mx :nI prog 194 3=true:=by kernel_rfl
theorem JV :nI prog 202 2=true:=by kernel_rfl
theorem JU :nI prog 247 2=true:=by kernel_rfl
theorem dZ :az prog 25 0=some (0,1,false):=by kernel_rfl
theorem xm :az prog 25 1=some (1,1,false):=by kernel_rfl
theorem kS :az prog 25 2=some (2,1,false):=by kernel_rfl
theorem sd :az prog 25 3=some (3,1,false):=by kernel_rfl
theorem kT :az prog 25 4=some (4,1,false):=by kernel_rfl
theorem aL :az prog 29 0=some (0,1,false):=by kernel_rfl
theorem aS :az prog 29 1=some (1,1,false):=by kernel_rfl
theorem mH :az prog 34 0=some (0,2,true):=by kernel_rfl
theorem xl :az prog 34 1=some (2,1,false):=by kernel_rfl
theorem BU :az prog 34 2=some (3,1,false):=by kernel_rfl
theorem dE :az prog 36 0=some (0,1,false):=by kernel_rfl
theorem co :az prog 36 1=some (1,1,false):=by kernel_rfl
theorem bO :az prog 36 2=some (2,2,true):=by kernel_rfl
theorem br :az prog 36 3=some (4,2,true):=by kernel_rfl
theorem bB :az prog 36 4=some (6,1,false):=by kernel_rfl
theorem gM :az prog 36 5=some (7,4,true):=by kernel_rfl
theorem eK :az prog 36 6=some (11,1,false):=by kernel_rfl
theorem iO :az prog 52 0=some (0,5,true):=by kernel_rfl
theorem dc :az prog 52 1=some (5,1,false):=by kernel_rfl
theorem cT :az prog 52 2=some (6,1,false):=by kernel_rfl
theorem bF :az prog 52 3=some (7,1,false):=by kernel_rfl
theorem eJ :az prog 52 4=some (8,1,false):=by kernel_rfl
theorem fK :az prog 65 0=some (0,1,false):=by kernel_rfl
theorem sb :az prog 65 1=some (1,1,false):=by kernel_rfl
theorem gv :az prog 65 2=some (2,2,true):=by kernel_rfl
theorem HD :az prog 65 3=some (4,1,false):=by kernel_rfl
theorem lN :az prog 67 0=some (0,1,false):=by kernel_rfl
theorem lO :az prog 67 1=some (1,1,false):=by kernel_rfl
theorem lP :az prog 67 2=some (2,5,true):=by kernel_rfl
theorem fZ :az prog 67 3=some (7,2,true):=by kernel_rfl
theorem aJ :az prog 71 0=some (0,12,true):=by kernel_rfl
theorem jS :az prog 71 1=some (12,5,true):=by kernel_rfl
theorem dF :az prog 71 2=some (17,1,false):=by kernel_rfl
theorem qO :az prog 71 3=some (18,1,false):=by kernel_rfl
theorem At :az prog 89 0=some (0,1,false):=by kernel_rfl
theorem qM :az prog 89 1=some (1,1,false):=by kernel_rfl
theorem Au :az prog 89 2=some (2,1,false):=by kernel_rfl
theorem lL :az prog 89 3=some (3,1,false):=by kernel_rfl
theorem lM :az prog 89 4=some (4,1,false):=by kernel_rfl
theorem HC :az prog 93 0=some (0,9,true):=by kernel_rfl
theorem uE :az prog 93 1=some (9,2,true):=by kernel_rfl
theorem uF :az prog 93 2=some (11,1,false):=by kernel_rfl
theorem Ax :az prog 93 3=some (12,1,false):=by kernel_rfl
theorem Ay :az prog 93 4=some (13,1,false):=by kernel_rfl
theorem Az :az prog 93 5=some (14,1,false):=by kernel_rfl
theorem AA :az prog 93 6=some (15,1,false):=by kernel_rfl
theorem im :az prog 111 0=some (0,1,false):=by kernel_rfl
theorem i8 :az prog 111 1=some (1,1,false):=by kernel_rfl
theorem i9 :az prog 111 2=some (2,2,true):=by kernel_rfl
theorem HA :az prog 153 0=some (0,1,false):=by kernel_rfl
theorem HB :az prog 153 1=some (1,1,false):=by kernel_rfl
theorem gr :az prog 176 0=some (0,2,true):=by kernel_rfl
theorem oN :az prog 176 1=some (2,1,false):=by kernel_rfl
theorem tA :az prog 176 2=some (3,1,false):=by kernel_rfl
theorem Dt :az prog 176 3=some (4,1,false):=by kernel_rfl
theorem tB :az prog 176 4=some (5,1,false):=by kernel_rfl
theorem f8 :az prog 190 0=some (0,2,true):=by kernel_rfl
theorem jT :az prog 190 1=some (2,2,true):=by kernel_rfl
theorem nJ :az prog 190 2=some (4,1,false):=by kernel_rfl
theorem uD :az prog 190 3=some (5,1,false):=by kernel_rfl
theorem qN :az prog 194 0=some (0,1,false):=by kernel_rfl
theorem xk :az prog 194 1=some (1,2,true):=by kernel_rfl
theorem uC :az prog 199 0=some (0,1,false):=by kernel_rfl
theorem Av :az prog 199 1=some (1,1,false):=by kernel_rfl
theorem Aw :az prog 202 0=some (0,1,false):=by kernel_rfl
theorem Dj :az prog 221 1=some (0,1,false):=by kernel_rfl
theorem xh :az prog 223 0=some (0,1,false):=by kernel_rfl
theorem Dl :az prog 225 1=some (0,2,true):=by kernel_rfl
theorem tz :az prog 227 1=some (0,1,true):=by kernel_rfl
theorem Dm :az prog 227 2=some (1,2,true):=by kernel_rfl
theorem Dn :az prog 229 0=some (0,3,true):=by kernel_rfl
theorem Do :az prog 229 1=some (3,1,false):=by kernel_rfl
theorem Dp :az prog 229 2=some (4,1,false):=by kernel_rfl
theorem Dq :az prog 233 2=some (0,1,false):=by kernel_rfl
theorem Dr :az prog 235 0=some (0,1,false):=by kernel_rfl
theorem xi :az prog 235 1=some (1,1,false):=by kernel_rfl
theorem Ds :az prog 235 2=some (2,50,true):=by kernel_rfl
theorem xj :az prog 235 3=some (52,1,true):=by kernel_rfl
theorem ne :eO prog 173=some (32,3,2,true):=by kernel_rfl
theorem HW :eO prog 174=some (111,4,4,true):=by kernel_rfl
theorem HU :eO prog 196=some (202,32,2,true):=by kernel_rfl
theorem HV :eO prog 197=some (202,4,2,true):=by kernel_rfl
theorem K0 :eO prog 239=some (3,4,1,false):=by kernel_rfl
theorem K1 :eO prog 241=some (32,4,2,true):=by kernel_rfl
theorem dN :dp prog 22=some (1,8):=by kernel_rfl
theorem cp :dp prog 26=some (5,40):=by kernel_rfl
theorem bz :dp prog 27=some (4,32):=by kernel_rfl
theorem bp :dp prog 30=some (9,104):=by kernel_rfl
theorem dM :dp prog 50=some (12,176):=by kernel_rfl
theorem ke :dp prog 53=some (5,72):=by kernel_rfl
theorem E9 :dp prog 106=some (1,8):=by kernel_rfl
theorem Cj :dp prog 145=some (1,24):=by kernel_rfl
theorem fH :dp prog 155=some (2,16):=by kernel_rfl
theorem MK :dp prog 162=some (1,8):=by kernel_rfl
theorem aV :bj prog 3=some (1,false):=by kernel_rfl
theorem vo :bj prog 4=some (1,false):=by kernel_rfl
theorem Q3 :bj prog 21=some (1,false):=by kernel_rfl
theorem d6 :bj prog 22=some (1,false):=by kernel_rfl
theorem iV :bj prog 23=some (1,false):=by kernel_rfl
theorem bd :bj prog 25=some (5,true):=by kernel_rfl
theorem bL :bj prog 26=some (1,false):=by kernel_rfl
theorem cq :bj prog 27=some (1,false):=by kernel_rfl
theorem aI :bj prog 29=some (2,true):=by kernel_rfl
theorem bq :bj prog 30=some (1,false):=by kernel_rfl
theorem aG :bj prog 32=some (2,true):=by kernel_rfl
theorem gy :bj prog 34=some (4,true):=by kernel_rfl
theorem aP :bj prog 36=some (12,true):=by kernel_rfl
theorem cY :bj prog 50=some (1,false):=by kernel_rfl
theorem bD :bj prog 52=some (9,true):=by kernel_rfl
theorem Iu :bj prog 53=some (1,false):=by kernel_rfl
theorem ca :bj prog 65=some (5,true):=by kernel_rfl
theorem er :bj prog 67=some (9,true):=by kernel_rfl
theorem Cq :bj prog 78=some (1,false):=by kernel_rfl
theorem ML :bj prog 79=some (3,true):=by kernel_rfl
theorem n4 :bj prog 89=some (5,true):=by kernel_rfl
theorem IB :bj prog 91=some (1,false):=by kernel_rfl
theorem vp :bj prog 93=some (16,true):=by kernel_rfl
theorem cz :bj prog 111=some (4,true):=by kernel_rfl
theorem wM :bj prog 135=some (1,false):=by kernel_rfl
theorem MM :bj prog 151=some (1,false):=by kernel_rfl
theorem IA :bj prog 153=some (2,true):=by kernel_rfl
theorem Iz :bj prog 155=some (1,false):=by kernel_rfl
theorem Ix :bj prog 170=some (1,false):=by kernel_rfl
theorem Fg :bj prog 173=some (1,false):=by kernel_rfl
theorem DO :bj prog 174=some (1,false):=by kernel_rfl
theorem tb :bj prog 194=some (3,true):=by kernel_rfl
theorem Cp :bj prog 196=some (1,false):=by kernel_rfl
theorem Iv :bj prog 197=some (1,false):=by kernel_rfl
theorem xH :bj prog 199=some (2,true):=by kernel_rfl
theorem p5 :bj prog 202=some (2,true):=by kernel_rfl
theorem vl :bj prog 215=some (1,false):=by kernel_rfl
theorem Iw :bj prog 239=some (1,false):=by kernel_rfl
theorem Iy :bj prog 241=some (1,false):=by kernel_rfl
theorem vn :bj prog 247=some (2,true):=by kernel_rfl
theorem Cr :bj prog 252=some (4,true):=by kernel_rfl
theorem tc :bj prog 269=some (1,false):=by kernel_rfl
theorem Kl :m9 prog 3=some (LV.p (PV.int i64 0)):=by kernel_rfl
theorem PW :m9 prog 4=some (LV.p (PV.bool false)):=by kernel_rfl
theorem Q5 :m9 prog 32=some (LV.p (PV.agg [PV.int u64 0,PV.int u64 0])):=by kernel_rfl
theorem Rl :cI prog 3=some [LV.p (PV.int i64 0)]:=by kernel_rfl
theorem Q6 :cI prog 22=some [LV.zs]:=by kernel_rfl
theorem Q7 :cI prog 25=some [LV.zs,LV.p (PV.int u64 0),LV.p (PV.int i64 0),LV.p (PV.int i64 0),LV.p (PV.int i64 0)]:=by kernel_rfl
theorem Q8 :cI prog 27=some [LV.zs]:=by kernel_rfl
theorem d7 :cI prog 29=some [LV.zs,LV.zs]:=by kernel_rfl
theorem gT :cI prog 32=some [LV.p (PV.int u64 0),LV.p (PV.int u64 0)]:=by kernel_rfl
theorem MQ :cI prog 34=some [LV.p (PV.int u64 0),LV.p (PV.int u64 0),LV.p (PV.int i64 0),LV.p (PV.int i64 0)]:=by kernel_rfl
theorem eX :cI prog 36=some [LV.p (PV.int i64 0),LV.p (PV.int i64 0),LV.zs,LV.zs,LV.zs,LV.zs,LV.zs,LV.p (PV.int u64 0),LV.p (PV.int u64 0),LV.p (PV.int i64 0),LV.p (PV.int i64 0),LV.p (PV.bool false)]:=by kernel_rfl
theorem gS :cI prog 52=some [LV.zs,LV.p (PV.int u64 0),LV.p (PV.int i64 0),LV.p (PV.int i64 0),LV.p (PV.int i64 0),LV.zs,LV.p (PV.int i64 0),LV.zs,LV.zs]:=by kernel_rfl
theorem vt :cI prog 65=some [LV.p (PV.int i64 0),LV.p (PV.int i64 0),LV.p (PV.int u64 0),LV.p (PV.int u64 0),LV.p (PV.int u64 0)]:=by kernel_rfl
theorem p7 :cI prog 67=some [LV.p (PV.int i64 0),LV.p (PV.int i64 0),LV.p (PV.int i64 0),LV.p (PV.int i64 0),LV.p (PV.int u64 0),LV.p (PV.int u64 0),LV.p (PV.int u64 0),LV.zs,LV.zs]:=by kernel_rfl
theorem MR :cI prog 79=some [LV.any,LV.any,LV.any]:=by kernel_rfl
theorem IL :cI prog 89=some [LV.p (PV.int i64 0),LV.p (PV.int i64 0),LV.p (PV.bool false),LV.zs,LV.zs]:=by kernel_rfl
theorem Cz :cI prog 93=some [LV.zs,LV.p (PV.int u64 0),LV.p (PV.int i64 0),LV.p (PV.int i64 0),LV.p (PV.int i64 0),LV.zs,LV.p (PV.int i64 0),LV.zs,LV.zs,LV.zs,LV.zs,LV.p (PV.int i64 0),LV.p (PV.bool false),LV.any,LV.p (PV.int i64 0),LV.zs]:=by kernel_rfl
theorem vu :cI prog 111=some [LV.p (PV.int i64 0),LV.p (PV.int i64 0),LV.p (PV.int u64 0),LV.p (PV.int u64 0)]:=by kernel_rfl
theorem PX :cI prog 135=some [LV.any]:=by kernel_rfl
theorem IN :cI prog 153=some [LV.any,LV.any]:=by kernel_rfl
theorem PZ :cI prog 170=some [LV.any]:=by kernel_rfl
theorem Lf :cI prog 194=some [LV.p (PV.int i64 0),LV.p (PV.int u64 0),LV.p (PV.int u64 0)]:=by kernel_rfl
theorem Cx :cI prog 199=some [LV.nilmap,LV.nilmap]:=by kernel_rfl
theorem IM :cI prog 202=some [LV.p (PV.int i64 0),LV.p (PV.int i64 0)]:=by kernel_rfl
theorem PY :cI prog 239=some [LV.nilmap]:=by kernel_rfl
theorem P0 :cI prog 241=some [LV.nilmap]:=by kernel_rfl
theorem Cw :cI prog 247=some [LV.p (PV.int u64 0),LV.p (PV.int u64 0)]:=by kernel_rfl
theorem Cy :cI prog 252=some [LV.p (PV.int i64 0),LV.p (PV.int i64 0),LV.p (PV.int i64 0),LV.p (PV.int i64 0)]:=by kernel_rfl
theorem Lg :cI prog 269=some [LV.any]:=by kernel_rfl
end
abbrev ID :=Int×Int
def aX (p:ID):PV:=.agg [.int .u64 p.1,.int .u64 p.2]
def kL (x:Int):PV:=.int .u64 x
structure Bk where
 Slot:Int
 From:Int
 Parent:ID
 Salt:Int
 deriving DecidableEq
def ay (b:Bk):PV:=.agg [.int .i64 b.Slot,.int .i64 b.From,.int .u64 b.Parent.1,.int .u64 b.Parent.2,.int .u64 b.Salt]
structure Vt where
 From:Int
 Slot:Int
 Head:ID
 deriving DecidableEq
def aO (v:Vt):PV:=.agg [.int .i64 v.From,.int .i64 v.Slot,.int .u64 v.Head.1,.int .u64 v.Head.2]
structure Cf where
 W:List Int
 Seed:Int
 Epoch:Int
 Num:Int
 Den:Int
def gF (c:Cf):PV:=.agg [.slice 1 (c.W.map be),.int .u64 c.Seed,.int .i64 c.Epoch,.int .i64 c.Num,.int .i64 c.Den]
structure Vw where
 B:List Bk
 V:List Vt
def iW (v:Vw):PV:=.agg [.slice 5 (v.B.map ay),.slice 4 (v.V.map aO)]
structure Cu where
 ID:Go.Mg.ID
 Slot:Int
 Revoked:Int
 deriving DecidableEq
def tg (c:Cu):PV:=.agg [.int .u64 c.ID.1,.int .u64 c.ID.2,.int .i64 c.Slot,.int .i64 c.Revoked]
structure Rk where
 n:Int
 id:Go.Mg.ID
def Rj (c:Rk):PV:=.agg [.int .i64 c.n,.int .u64 c.id.1,.int .u64 c.id.2]
theorem O5 {a b:ID}{r:Bool}(h:de [.int .u64 a.1,.int .u64 a.2] [.int .u64 b.1,.int .u64 b.2]=some r):r=decide (a=b):=by
 rw[uu]at h;cases h;obtain⟨x,y⟩:=a;obtain⟨z,w⟩:=b;simp only[Bool.and_true,Prod.mk.injEq];by_cases h1:x=z <;>by_cases h2:y=w <;>simp[h1,h2]
theorem f9 :gK aX 2 true:=⟨fun a b=>by
 obtain⟨x,y⟩:=a;obtain⟨z,w⟩:=b;simp only[aX,jX,uu,Bool.and_true,Prod.mk.injEq,Option.some.injEq]
 by_cases h1:x=z <;>by_cases h2:y=w <;>simp[h1,h2],fun _=>rfl⟩
theorem HI :gK be 1 false:=⟨fun a b=>by simp only[be,jX,i1_,Option.some.injEq];by_cases h:a=b <;>simp[h],fun _=>rfl⟩
theorem DP :gK aO 4 true:=⟨fun a b=>by
 obtain⟨a1,a2,a3⟩:=a;obtain⟨b1,b2,b3⟩:=b;simp only[aO,jX,de,i1_,Option.some.injEq,Vt.mk.injEq];rw[Bool.eq_iff_iff];obtain⟨a3,a4⟩:=a3;obtain⟨b3,b4⟩:=b3
 simp,fun _=>rfl⟩
theorem rV (a b:ID):((a.1==b.1)&&((a.2==b.2)&&true))=decide (a=b):=by
 obtain⟨x,y⟩:=a;obtain⟨z,w⟩:=b;by_cases h1:x=z <;>by_cases h2:y=w <;>simp[h1,h2]
theorem Hx (a b:Bk):((a.Slot==b.Slot)&&((a.From==b.From)&&((a.Parent.1==b.Parent.1)&&((a.Parent.2==b.Parent.2)&&((a.Salt==b.Salt)&&true)))))=decide (a=b):=by
 obtain⟨a1,a2,⟨a3,a4⟩,a5⟩:=a;obtain⟨b1,b2,⟨b3,b4⟩,b5⟩:=b;simp only[Bool.and_true,Bk.mk.injEq,Prod.mk.injEq];rw[Bool.eq_iff_iff];simp[and_assoc]
theorem JT (a b:Vt):((a.From==b.From)&&((a.Slot==b.Slot)&&((a.Head.1==b.Head.1)&&((a.Head.2==b.Head.2)&&true))))=decide (a=b):=by
 obtain⟨a1,a2,⟨a3,a4⟩⟩:=a;obtain⟨b1,b2,⟨b3,b4⟩⟩:=b;rw[Bool.eq_iff_iff];simp
theorem QX (a b:Cu):((a.ID.1==b.ID.1)&&((a.ID.2==b.ID.2)&&((a.Slot==b.Slot)&&((a.Revoked==b.Revoked)&&true))))=decide (a=b):=by
 obtain⟨⟨a1,a2⟩,a3,a4⟩:=a;obtain⟨⟨b1,b2⟩,b3,b4⟩:=b;rw[Bool.eq_iff_iff];simp[and_assoc]
abbrev qD (c:Cf):List PV:=[.slice 1 (c.W.map be),.int .u64 c.Seed,.int .i64 c.Epoch,.int .i64 c.Num,.int .i64 c.Den]
abbrev kB (l:List Bk):LV:=.p (.slice 5 (l.map ay))
abbrev kV (l:List Vt):LV:=.p (.slice 4 (l.map aO))
abbrev kI (l:List Int):LV:=.p (.slice 1 (l.map be))
abbrev jB (i:Nat)(l:List Bk):LV:=.vec 5 i (l.map ay).length 0 (l.map ay).length
abbrev jV (i:Nat)(l:List Vt):LV:=.vec 4 i (l.map aO).length 0 (l.map aO).length
abbrev jI (i:Nat)(l:List Int):LV:=.vec 1 i (l.map be).length 0 (l.map be).length
abbrev mQ (m:List (ID×Int)):ab:=.map (ar aX (fun v=>.p (.int .i64 v)) m)
abbrev mR (m:List (Vt×Bool)):ab:=.map (ar aO (fun v=>.p (.bool v)) m)
abbrev cd (c:Cf):List LV:=[.p (.slice 1 (c.W.map be)),.p (.int .u64 c.Seed),.p (.int .i64 c.Epoch),.p (.int .i64 c.Num),.p (.int .i64 c.Den)]
abbrev cE (w:Vw):List LV:=[.p (.slice 5 (w.B.map ay)),.p (.slice 4 (w.V.map aO))]
def MO (x:Int):Int:=
 let a:=u64.wrap (bits .xor .u64 x (x.fdiv (2 ^ (min (toNat 30) u64.bits)))*13787848793156543929)
 let b:=u64.wrap (bits .xor .u64 a (a.fdiv (2 ^ (min (toNat 27) u64.bits)))*10723151780598845931)
 bits .xor .u64 b (b.fdiv (2 ^ (min (toNat 31) u64.bits)))
def step (h x:Int):Int:=MO (u64.wrap (bits .xor .u64 h x+11400714819323198485))
def O7 (x:Int):Int:=bits .xor .u64 (if u64.signed then -1 else u64.max) x
theorem Qw {x:Int}:aq prog 152 [.int .u64 x] [.int .u64 (MO x)]:=by
 refine zh Tryz.func152 Z Z Z Z ?_;exact qR<|yS Z (za Z Z)<|nT<|qR<|yS Z (zm Z Z)<|yS Z (zm Z Z)<|yS Z (aa.shr Z Z Z (by decide))<|yS Z (am Z Z Z Z)<|yS Z (am Z Z Z Z)<|yS Z (za Z Z)<|nT<|qR<|yS Z (zm Z Z)<|yS Z (zm Z Z)<|yS Z (aa.shr Z Z Z (by decide))<|yS Z (am Z Z Z Z)<|yS Z (am Z Z Z Z)<|yS Z (za Z Z)<|nT<|qR<|yS Z (zm Z Z)<|yS Z (zm Z Z)<|yS Z (aa.shr Z Z Z (by decide))<|yS Z (am Z Z Z Z)<|yS Z (za Z Z)<|nT<|zr<|ba Z
theorem z8 {h x:Int}:aq prog 125 [.int .u64 h,.int .u64 x] [.int .u64 (step h x)]:=by
 refine zh Tryz.func125 Z Z Z Z ?_;exact qR<|yS Z (za Z Z)<|nT<|qR<|yS Z (zm Z Z)<|yS Z (zm Z Z)<|yS Z (am Z Z Z Z)<|yS Z (am Z Z Z Z)<|yS Z (yC Z Z Z (zp Qw dB))<|yS Z (za Z Z)<|nT<|zr<|ba Z
theorem NH {x a b:Int}{id:Nat}(hH:bl H id=some (.box [.p (.int .u64 a),.p (.int .u64 b)]))(hH':bH H id (.box [.p (.int .u64 (step a x)),.p (.int .u64 (step b (O7 x)))])=some H'):LC prog 124 [.p (.int .u64 x),.ptr id 0] H (Is (.tup []) H'):=by
 refine eP Tryz.func124 Z Z Z ?_;exact LW.drawLast (m:=10) (by kernel_rfl) (by kernel_rfl) (by kernel_rfl)<|yE Z (aa.indexAddrA Z Z Z qB (by decide) (by decide))<|yE Z (zD Z Z hH iV Z Z)<|yE Z (zm Z Z)<|yE Z (yC Z Z Z (zp z8 bR))<|yE Z (aa.indexAddrA Z Z Z qB (by decide) (by decide))<|yE Z (zD Z Z hH iV Z Z)<|yE Z (zm Z Z)<|yE Z (aa.compl Z Z)<|yE Z (yC Z Z Z (zp z8 bR))<|yE Z (aa.build Z nE Z Z Z)<|LO.nil<|yS Z (zs Z Z Z hH aG Z Z Z hH')<|zN<|jf .none<|⟨rfl,rfl⟩
def jm (p:Int×Int)(x:Int):Int×Int:=(step p.1 x,step p.2 (O7 x))
def rc (l:List Int):Int×Int:=jm (l.foldl jm (1,2)) (u64.wrap l.length)
theorem RB {l:List Int}:aq prog 72 [.slice 1 (l.map kL)] [aX (rc l)]:=by
 refine zh Tryz.func72 Z Z Z Z ?_;refine zQ ?_;refine LW.ok (t:=0) Z<|fun ok=>?_;have hlen:=ok.len;simp only[length_map,maxLen]at hlen;refine zR<|yS Z (ze Z gT Z Z)<|nT<|qR<|yS Z (aa.build Z nE Z Z Z)<|yS Z (ze Z gT Z Z)<|yS Z (zs Z Z Z Z aG Z Z Z Z)<|nT<|qR<|yS Z (aa.makeFunc Z Z Z)<|yS Z (za Z Z)<|nT<|zQ<|qR<|yS Z (zm Z Z)<|yS Z (aa.len Z Z (by kernel_rfl))<|yS Z (zm Z Z)<|nT<|zl ?_;refine LW.loopOf (E:=fun x:Nat×Int×Int=>[(0,.p (.slice 1 (l.map kL))),(2,.ptr 0 0),(3,.ptr 1 0),(4,.fn 124 [] [.ptr 1 0]),(9,.p (.slice 1 (l.map kL))),(10,.p (.int .i64 (l.map kL).length)),(11,.p (.int .i64 (x.1:Nat)))]) (O:=fun x=>[.box [(uQ 0),(uQ 0)],.box [(uQ x.2.1),(uQ x.2.2)]]) (G:=fun x=>x.1<=l.length/\x.2=(l.take x.1).foldl jm (1,2)) (meas:=fun x=>l.length-x.1) (0,1,2) (au 2 ⟨Z,Z,Z,Z,Z,Z,Z,t_⟩) ⟨zero_le _,rfl⟩<|fun x hx=>?_;refine qR<|yS Z (am Z Z Z Z)<|nT<|zQ ?_;refine zX Z (fun g1=>?_)<|fun g1=>?_
 ·refine zk<|zT<|zQ<|zl<|zQ ?_
  have hlt:x.1<l.length:=by simpa using g1
  obtain⟨y,hy⟩:=qY hlt;refine zR (yS Z (aa.indexAddr Z Z Z E9 (by omega) (xv hy) Z) (yS Z (bS Z Z Z iV Z Z) (yS Z (za Z Z) (nT (zR (yS Z (zm Z Z) (yS Z (zm Z Z) (yS Z (yC Z Z Z (NH (id:=1) Z Z)) (zN (ae (zT (zR (yS Z (aa.isEq (y:=.p (.int .i64 ((x.1+1:Nat):Int))) (am Z Z Z Z) (by rw[cR];rfl)) (yS Z (zm Z Z) (nT ?_)))))))))))))));refine⟨(x.1+1,jm x.2 y),?_,?_,au 2 ⟨Z,Z,Z,Z,Z,Z,Z,t_⟩⟩
  ·simp only;omega
  ·refine⟨hlt,?_⟩;rw[List.take_add_one,hy,List.foldl_append,<-hx.2];rfl
 ·refine zq<|aj<|aj<|zy<|zT<|zQ ?_
  have hnlt:¬x.1<l.length:=by simpa using g1
  have hend:x.1=l.length:=by omega
  have hfold:x.2=l.foldl jm (1,2):=by rw[hx.2,hend,List.take_length]
  refine zR<|yS Z (zm Z Z)<|yS Z (zm Z Z)<|yS Z (aa.len Z Z (by kernel_rfl))<|yS Z (aa.convert (k':=.u64) Z Z (by kernel_rfl))<|yS Z (yC Z Z Z (NH (id:=1) Z Z))<|nT<|qR<|yS Z (zD Z Z Z aG Z Z)<|yS Z (zs Z Z Z Z aG Z Z Z Z)<|nT<|zr<|zf (.one (eh Z Z))<|Conv.pe ?_;simp only[length_map,aX,rc,<-hfold];rfl
def lW (b:Bk):List Int:=[1,u64.wrap b.Slot,u64.wrap b.From,b.Parent.1,b.Parent.2,b.Salt]
def nm (b:Bk):ID:=rc (lW b)
def ap (l:List ID)(v:ID):Int:=match l.findIdx? (fun x=>decide (v=x))with|some i=>(i:Nat)|none=> -1
theorem jU {l:List ID}{v:ID}{i:Nat}(h:l[i]?=some v)(hno:∀j,j<i->l[j]?≠some v):ap l v=i:=by
 have hi:=(List.getElem?_eq_some_iff.1 h).1
 have:l.findIdx? (fun x=>decide (v=x))=some i:=by
  rw[List.findIdx?_eq_some_iff_getElem];refine⟨hi,by simp[(List.getElem?_eq_some_iff.1 h).2],fun j hj=>?_⟩;have:=hno j hj;rw[getElem?_eq_getElem (by omega)]at this;simpa using fun e=>this (by rw[e])
 simp[ap,this]
theorem ji {l:List ID}{v:ID}(hno:∀j,j<l.length->l[j]?≠some v):ap l v= -1:=by
 have:l.findIdx? (fun x=>decide (v=x))=none:=by
  rw[List.findIdx?_eq_none_iff];intro x hx;obtain⟨j,hj,rfl⟩:=List.mem_iff_getElem.1 hx;have:=hno j hj;rw[getElem?_eq_getElem hj]at this;simpa using fun e=>this (by rw[e])
 simp[ap,this]
theorem M0 {b:Bk}:aq prog 35 [ay b] [aX (nm b)]:=by
 refine zh Tryz.func35 Z Z Z Z ?_;exact qR<|yS Z (bv Z Z Z Z Z)<|yS Z (ze Z gT Z Z)<|nT<|qR<|yS Z (zA Z Z fK)<|yS Z (zD Z Z Z aV Z Z)<|yS Z (aa.convert (k':=.u64) Z Z (by kernel_rfl))<|yS Z (zA Z Z sb)<|yS Z (zD Z Z Z aV Z Z)<|yS Z (aa.convert (k':=.u64) Z Z (by kernel_rfl))<|yS Z (zA Z Z gv)<|yS Z (aa.indexAddrA Z Z Z qB (by decide) (by decide))<|yS Z (zD Z Z Z iV Z Z)<|yS Z (zA Z Z gv)<|yS Z (aa.indexAddrA Z Z Z qB (by decide) (by decide))<|yS Z (zD Z Z Z iV Z Z)<|yS Z (zA Z Z HD)<|yS Z (zD Z Z Z iV Z Z)<|yS Z (gU Z E9 Z Z Z Z Z)<|yS Z (yP Z Z Z (RB (l:=lW b)) dB)<|yS Z (zs Z Z Z Z aG Z Z Z Z)<|nT<|zr<|zf (.one (eh Z Z)) zv
theorem P6 {l:List ID}{v:ID}:aq prog 132 [.slice 2 (l.map aX),aX v] [.int .i64 (ap l v)]:=by
 refine zh Tryz.func132 Z Z Z Z ?_;refine zQ ?_;refine LW.ok (t:=0) Z<|fun ok=>?_;have hlen:=ok.len;simp only[length_map,maxLen]at hlen;refine zR<|yS Z (bv Z Z Z Z Z)<|yS Z (za Z Z)<|nT<|zQ<|qR<|yS Z (zm Z Z)<|yS Z (aa.len Z Z (by kernel_rfl))<|yS Z (zm Z Z)<|nT<|zl ?_;refine LW.loopOf (E:=fun x:Nat=>[(0,.p (.slice 2 (l.map aX))),(3,.ptr 0 0),(6,.p (.slice 2 (l.map aX))),(7,.p (.int .i64 (l.map aX).length)),(8,.p (.int .i64 (x:Nat)))]) (O:=fun x=>[.box [(uQ v.1),(uQ v.2)]]) (G:=fun x=>x<=l.length/\∀j,j<x->l[j]?≠some v) (meas:=fun x=>l.length-x) 0 (au 1 ⟨Z,Z,Z,Z,Z,t_⟩) ⟨zero_le _,fun j hj=>absurd hj (by omega)⟩<|fun x hx=>?_;refine qR<|yS Z (am Z Z Z Z)<|nT<|zQ ?_;refine zX Z (fun g1=>?_)<|fun g1=>?_
 ·refine zk<|zT<|zQ<|zl<|zQ ?_
  have hlt:x<l.length:=by simpa using g1
  obtain⟨y,hy⟩:=qY hlt;refine zR<|yS Z (zm Z Z)<|yS Z (za Z Z)<|nT<|zQ<|dy<|yE Z (zD Z Z Z aG Z Z)<|yE Z (zm Z Z)<|yE Z (zm Z Z)<|yE Z (aa.indexAddr Z Z Z fH (by omega) (xv hy) Z)<|yE Z (bS Z Z Z aG Z Z)<|yE Z (aa.eqlAgg Z Z Z Z Z gY)<|LO.nil<|zT ?_;refine zX Z (fun g2=>?_)<|fun g2=>?_
  ·refine zQ ?_;have he:v=y:=of_decide_eq_true ((O5 (a:=v) (b:=y) rfl).symm.trans g2);exact zR (yS Z (zm Z Z) (yS Z (za Z Z) (nT (zr (ao (af (af (ao (af (zf (.one (.tmp Z)) (Conv.pe (by rw[jU (hy.trans (congrArg some he.symm)) hx.2]))))))))))))
  ·refine zk<|ae<|zT ?_;have hne:v≠y:=of_decide_eq_false ((O5 (a:=v) (b:=y) rfl).symm.trans g2);refine zR (yS Z (aa.isEq (y:=.p (.int .i64 ((x+1:Nat):Int))) (am Z Z Z Z) (by rw[cR];rfl)) (yS Z (zm Z Z) (nT ?_)));refine⟨x+1,?_,?_,au 1 ⟨Z,Z,Z,Z,Z,t_⟩⟩
   ·omega
   ·exact⟨hlt,fun j hj=>by rcases Nat.lt_succ_iff_lt_or_eq.1 hj with h|h;exact hx.2 j h;subst h;rw[hy];exact fun e=>hne (zJ e).symm⟩
 ·refine zq<|aj<|aj<|zy<|zT<|zQ ?_
  have hnlt:¬x<l.length:=by simpa using g1
  have hend:x=l.length:=by omega
  exact zR (yS Z (za Z Z) (nT (zr (zf (.one (.tmp Z)) (Conv.pe (by rw[ji fun j hj=>hx.2 j (by omega)]))))))
theorem RA {l:List ID}{v:ID}:aq prog 203 [.slice 2 (l.map aX),aX v] [.bool (decide (ap l v>=0))]:=by
 refine zh Tryz.func203 Z Z Z Z ?_;exact qR<|yS Z (bv Z Z Z Z Z)<|yS Z (za Z Z)<|nT<|qR<|yS Z (zm Z Z)<|yS Z (zD Z Z Z aG Z Z)<|yS Z (yC Z Z Z (zp P6 bR))<|yS Z (am Z Z Z Z)<|yS Z (za Z Z)<|nT<|zr<|ba Z
def cB (l:List Bk)(i:Int):Int:=if i= -1 then 0 else match l[i.toNat]? with
 |some b=>b.Slot
 |none=>0
abbrev KV :Int->LV:=fun v=>(iQ v)
def dt (l:List Bk):List Bk->Nat->List (ID×Int)->Option (List (ID×Int))
 |[],_,m=>some m
 | b::r,i,m=>match ak m b.Parent with
  |none=>none
  |some p=>if b.Slot<=cB l p then none else match ak m (nm b)with
   |some _=>none
   |none=>dt l r (i+1) (m++[(nm b,(i:Int))])
def places (l:List Bk):Option (List (ID×Int)):=dt l l 0 [((0,0),-1)]
theorem ea {l:List Bk}{i:Nat}{y:Bk}(hy:l[i]?=some y)(m:List (ID×Int)):dt l (l.drop i) i m=match ak m y.Parent with
  |none=>none
  |some p=>if y.Slot<=cB l p then none else match ak m (nm y)with
   |some _=>none
   |none=>dt l (l.drop (i+1)) (i+1) (m++[(nm y,(i:Int))]):=by
 obtain⟨hi,rfl⟩:=List.getElem?_eq_some_iff.1 hy;rw[List.drop_eq_getElem_cons hi];rfl
theorem Qu {l:List Bk}{id:Nat}(hH:bl H id=some (.box [(kB l)]))(hi:i= -1\/0<=i/\i<l.length) :
  LC prog 209 [(iQ i),.ptr id 0] H (Is (.p (.int .i64 (cB l i))) H):=by
 refine eP Tryz.func209 Z Z Z ?_;refine qR<|yS Z (za Z Z)<|nT<|zQ<|qR<|yS Z (zm Z Z)<|yS Z (am Z Z Z Z)<|nT ?_;refine zX Z (fun g1=>?_)<|fun g1=>?_
 ·refine zQ ?_
  have he:i= -1:=by simpa using g1
  exact zR<|yS Z (za Z Z)<|nT<|zr<|af<|aD (.one (.tmp Z))<|⟨by simp[cB,he],rfl⟩
 ·refine zk<|zT<|zQ ?_
  have hne:i≠-1:=by simpa using g1
  obtain⟨y,hy⟩:=qY (l:=l) (i:=i.toNat) (by omega)
  have hiy:(l.map ay)[i.toNat]?=some (ay y):=by simp[hy]
  exact zR<|yS Z (zD Z Z hH bL Z Z)<|yS Z (zm Z Z)<|yS Z (aa.indexAddr Z Z Z cp (by omega) hiy Z)<|yS Z (aa.fieldAddrC Z Z fK Z)<|yS Z (bS Z Z Z aV Z Z)<|yS Z (za Z Z)<|nT<|zr<|aD (.one (.tmp Z))<|⟨by simp[cB,hne,hy],rfl⟩
theorem c94 {l:List Bk}:LC prog 167 [(kB l)] [] fun x H=>
  (∃m,places l=some m/\x=.tup [.map 1,(bQ true)]/\H=[.box [(kB l)],.map (ar aX KV m)])\/(places l=none/\x=.tup [.nilmap,(bQ false)]/\H=[]):=by
 refine eP Tryz.func167 Z Z Z ?_;refine zQ ?_;refine LW.ok (t:=0) Z<|fun ok=>?_;have hlen:=ok.len;simp only[length_map,maxLen]at hlen;refine zR<|yS Z (bv Z Z Z Z Z)<|yS Z (za Z Z)<|yS Z (za Z Z)<|nT<|qR<|yS Z (aa.makeMap Z Z Z)<|yS Z (aa.build Z nE Z Z Z)<|yS Z (aa.setNew (f:=aX) (g:=KV) (m:=[]) (a:=(0,0)) (v:= -1) f9 Z (.inr Z) Z Z Z Z Z ne Z)<|yS Z (zm Z Z)<|yS Z (za Z Z)<|nT<|qR<|yS Z (aa.makeFunc Z Z Z)<|yS Z (za Z Z)<|nT<|zQ<|qR<|yS Z (zD Z Z Z bL Z Z)<|yS Z (aa.len Z Z (by kernel_rfl))<|yS Z (zm Z Z)<|nT<|zl ?_;refine LW.loopOf (E:=fun x:Nat×List (ID×Int)=>[(1,.ptr 0 0),(4,.map 1),(5,.fn 209 [] [.ptr 0 0]),(17,(kB l)),(18,.p (.int .i64 (l.map ay).length)),(19,.p (.int .i64 (x.1:Nat)))]) (O:=fun x=>[.box [(kB l)],.map (ar aX KV x.2)]) (G:=fun x=>x.1<=l.length/\dt l (l.drop x.1) x.1 x.2=places l/\∀k v,ak x.2 k=some v->v= -1\/0<=v/\v<l.length) (meas:=fun x=>l.length-x.1) (0,[((0,0),-1)]) (zW 2 ⟨Z,Z,Z,Z,Z,Z,t_⟩ Z Z Z (zL Z (zL (ai (fun _=>rfl) _) Z))) ⟨zero_le _,rfl,fun k v h=>by unfold ak ak at h;split at h <;>cases h;exact .inl rfl⟩ (fun x hx=>?_);refine qR<|yS Z (am Z Z Z Z)<|nT<|zQ ?_;refine zX Z (fun g1=>?_)<|fun g1=>?_
 ·refine zk<|zT<|zQ<|zl<|zQ ?_
  have hlt:x.1<l.length:=by simpa using g1
  obtain⟨y,hy⟩:=qY hlt;refine zR<|yS Z (zm Z Z)<|yS Z (aa.indexAddr Z Z Z cp (by omega) (xv hy) Z)<|yS Z (bS Z Z Z ca Z Z)<|yS Z (ze Z vt Z Z)<|yS Z (za Z Z)<|yS Z (zs Z Z Z Z ca Z Z Z Z)<|nT<|qR<|yS Z (zm Z Z)<|yS Z (zA Z Z gv)<|yS Z (zD Z Z Z aG Z Z) ?_;rcases hp:ak x.2 y.Parent with _|p
  ·refine yS Z ((aa.getMiss f9 hp Z Z Z Z ne Kl Z))<|yS Z (zm Z Z)<|yS Z (eZ Z Z Z)<|yS Z (eZ Z Z Z)<|yS Z (za Z Z)<|yS Z (za Z Z)<|nT<|zQ<|zQ<|dy<|yE Z (zm Z Z)<|yE Z (aa.not Z Z)<|yE Z (zm Z Z)<|bY Z<|bY Z<|bY Z<|bY Z<|bY Z<|bY Z<|yE Z (bA Z Z Z)<|LO.nil<|zT<|LW.condT Z<|qR<|yS Z (za Z Z)<|yS Z (za Z Z)<|nT<|zr<|af<|ao<|af<|af<|ao<|af ?_;refine bN (env':=[(2,.nilmap),(3,(bQ false))]) (H':=[]) (au 0 ⟨Z,Z,t_⟩) (.two (.tmp Z) (.tmp Z))<|.inr ⟨?_,rfl,rfl⟩;rw[<-hx.2.1,ea hy]
   first|(simp only[hp];done)|(simp only[hp];rw[i1_ (of_decide_eq_true g2)];done)|(simp only[hp,hq];split <;>rfl)
  ·refine yS Z ((aa.getHit f9 hp Z Z Z Z ne Z))<|yS Z (zm Z Z)<|yS Z (eZ Z Z Z)<|yS Z (eZ Z Z Z)<|yS Z (za Z Z)<|yS Z (za Z Z)<|nT<|zQ<|zQ<|dy<|yE Z (zm Z Z)<|yE Z (aa.not Z Z)<|yE Z (zm Z Z)<|yL Z Z (zA Z Z fK)<|yL Z Z (zD Z Z Z aV Z Z)<|yL Z Z (zm Z Z)<|yL Z Z (zm Z Z)<|yL Z Z (yC Z Z Z (Qu (id:=0) Z (hx.2.2 _ _ hp)))<|yL Z Z (am Z Z Z Z)<|yE Z (aU Z Z Z)<|LO.nil<|zT ?_;refine zX Z (fun g2=>?_)<|fun g2=>?_
   ·refine qR<|yS Z (za Z Z)<|yS Z (za Z Z)<|nT<|zr<|af<|ao<|af<|af<|ao<|af ?_;refine bN (env':=[(2,.nilmap),(3,(bQ false))]) (H':=[]) (au 0 ⟨Z,Z,t_⟩) (.two (.tmp Z) (.tmp Z))<|.inr ⟨?_,rfl,rfl⟩;rw[<-hx.2.1,ea hy]
    first|(simp only[hp];done)|(simp only[hp];rw[i1_ (of_decide_eq_true g2)];done)|(simp only[hp,hq];split <;>rfl)
   ·refine zk<|zT<|qR<|yS Z (zD Z Z Z ca Z Z)<|yS Z (yP Z Z Z (M0 (b:=y)) dB)<|yS Z (ze Z gT Z Z)<|yS Z (zs Z Z Z Z aG Z Z Z Z)<|nT<|zQ<|qR<|yS Z (zm Z Z)<|yS Z (zD Z Z Z aG Z Z) ?_;rcases hq:ak x.2 (nm y)with _|q
    ·refine yS Z ((aa.getMiss f9 hq Z Z Z Z ne Kl Z)) (yS Z (zm Z Z) (yS Z (eZ Z Z Z) (yS Z (eZ Z Z Z) (yS Z (za Z Z) (yS Z (za Z Z) (nT (qR (yS Z (zm Z Z) (nT (LW.condF Z (zk (zT (zR (yS Z (zm Z Z) (yS Z (zD Z Z Z aG Z Z) (yS Z (zm Z Z) (yS Z (aa.setNew (f:=aX) (g:=KV) (m:=x.2) (a:=nm y) (v:=((x.1:Nat):Int)) f9 hq (.inl Z) Z Z Z Z Z ne Z) (zN (ae (zT (zR (yS Z (aa.isEq (y:=.p (.int .i64 ((x.1+1:Nat):Int))) (am Z Z Z Z) (by rw[cR];rfl)) (yS Z (zm Z Z) (nT ?_))))))))))))))))))))))));refine⟨(x.1+1,x.2++[(nm y,((x.1:Nat):Int))]),?_,?_,zW 2 ⟨Z,Z,Z,Z,Z,Z,t_⟩ Z Z Z (zL Z (zL (ai (fun _=>rfl) _) Z))⟩
     ·simp only;omega
     ·refine⟨hlt,?_,fun k v h=>?_⟩
      ·rw[<-hx.2.1,ea hy];simp only[hp,hq];rw[i0_ (of_decide_eq_false g2)]
      ·rw[gL]at h;rcases hk:ak x.2 k with _|u
       ·rw[hk]at h;simp only[none_or]at h;split at h <;>cases h;omega
       ·rw[hk]at h;cases h;exact hx.2.2 k _ hk
    ·refine yS Z ((aa.getHit f9 hq Z Z Z Z ne Z))<|yS Z (zm Z Z)<|yS Z (eZ Z Z Z)<|yS Z (eZ Z Z Z)<|yS Z (za Z Z)<|yS Z (za Z Z)<|nT<|qR<|yS Z (zm Z Z)<|nT<|LW.condT Z<|qR<|yS Z (za Z Z)<|yS Z (za Z Z)<|nT<|zr<|af<|ao<|af<|af<|ao<|af ?_;refine bN (env':=[(2,.nilmap),(3,(bQ false))]) (H':=[]) (au 0 ⟨Z,Z,t_⟩) (.two (.tmp Z) (.tmp Z))<|.inr ⟨?_,rfl,rfl⟩;rw[<-hx.2.1,ea hy]
     first|(simp only[hp];done)|(simp only[hp];rw[i1_ (of_decide_eq_true g2)];done)|(simp only[hp,hq];split <;>rfl)
 ·refine zq<|aj<|aj<|zy<|zT<|zQ ?_
  have hnlt:¬x.1<l.length:=by simpa using g1
  have hend:x.1=l.length:=by omega
  refine zR<|yS Z (zm Z Z)<|yS Z (za Z Z)<|yS Z (za Z Z)<|nT<|zr ?_;refine bN (env':=[(2,.map 1),(3,(bQ true))]) (H':=[.box [(kB l)],.map (ar aX KV x.2)]) (zW 2 ⟨Z,Z,t_⟩ Z Z Z (zL Z (zL (ai (fun _=>rfl) _) Z))) (.two (.tmp Z) (.tmp Z))<|.inl ⟨x.2,?_,rfl,rfl⟩;rw[<-hx.2.1,hend,List.drop_length];rfl
structure Ej (l:List Bk)(m:List (ID×Int))(n:Nat):Prop where
 zero:ak m (0,0)=some (-1)
 known:∀k i,ak m k=some i->(i= -1/\k=(0,0))\/∃b p,0<=i/\i<n/\l[i.toNat]?=some b/\nm b=k/\ak m b.Parent=some p/\p<i∧-1<=p/\cB l p<b.Slot
 names:∀i b,i<n->l[i]?=some b->ak m (nm b)=some (i:Int)
theorem Ej.step {l:List Bk}{m:List (ID×Int)}{n:Nat}{y:Bk}{p:Int}(h:Ej l m n)(hy:l[n]?=some y)(hp:ak m y.Parent=some p)(hs:¬y.Slot<=cB l p)(hq:ak m (nm y)=none) :
  Ej l (m++[(nm y,(n:Int))]) (n+1):=by
 have old:∀k i,ak m k=some i->ak (m++[(nm y,(n:Int))]) k=some i:=fun k i hk=>by rw[gL,hk];rfl
 refine⟨old _ _ h.zero,fun k i hk=>?_,fun i b hi hb=>?_⟩
 ·rw[gL]at hk;rcases hm:ak m k with _|j
  ·rw[hm]at hk;simp only[none_or]at hk;split at hk
   ·rename_i e;cases hk;right;refine⟨y,p,by omega,by omega,by simpa using hy,e,old _ _ hp,?_,?_,by omega⟩
    ·rcases h.known _ _ hp with⟨h1,-⟩|⟨b,q,h1,h2,-⟩ <;>omega
    ·rcases h.known _ _ hp with⟨h1,-⟩|⟨b,q,h1,h2,-⟩ <;>omega
   ·cases hk
  ·rw[hm]at hk;cases hk;rcases h.known _ _ hm with h1|⟨b,q,h1,h2,h3,h4,h5,h6,h7,h8⟩
   ·exact .inl h1
   ·exact .inr ⟨b,q,h1,by omega,h3,h4,old _ _ h5,h6,h7,h8⟩
 ·rcases Nat.lt_succ_iff_lt_or_eq.1 hi with hi|hi
  ·exact old _ _<|h.names i b hi hb
  ·subst hi;rw[hy]at hb;cases hb;rw[gL,hq];simp
theorem rh {l:List Bk}:∀(r:List Bk) (i:Nat) (m m':List (ID×Int)),r=l.drop i->i<=l.length->Ej l m i->dt l r i m=some m'->Ej l m' l.length
 | [],i,m,m',hr,hi,h,hg=>by
  cases hg
  have:l.length<=i:=by
   have:=congrArg length hr;simp at this;omega
  rw[show l.length=i by omega];exact h
 | y::r,i,m,m',hr,hi,h,hg=>by
  have hil:i<l.length:=by
   have:=congrArg length hr;simp at this;omega
  have hd:=List.drop_eq_getElem_cons hil;rw[hd,List.cons.injEq]at hr;obtain⟨rfl,rfl⟩:=hr;unfold dt at hg;split at hg
  ·cases hg
  ·rename_i p hp;split at hg
   ·cases hg
   ·rename_i hs;split at hg
    ·cases hg
    ·rename_i hq;exact rh _ (i+1) _ m' Z (by omega) (h.step (getElem?_eq_getElem hil) hp hs hq) hg
theorem AY {l:List Bk}:∀(k:ID) (i:Int),ak [(((0,0):ID),(-1:Int))] k=some i->(i= -1/\k=(0,0))\/∃b p,0<=i/\i<(0:Nat)/\l[i.toNat]?=some b/\nm b=k/\ak [(((0,0):ID),(-1:Int))] b.Parent=some p/\p<i∧-1<=p/\cB l p<b.Slot:=by
 intro k i hk;unfold ak ak at hk;split at hk
 ·rename_i e;cases hk;exact .inl ⟨rfl,e.symm⟩
 ·cases hk
theorem bc {l:List Bk}{m:List (ID×Int)}(h:places l=some m):Ej l m l.length:=
 rh l 0 _ m rfl (zero_le _) ⟨rfl,AY,fun i b hi=>by omega⟩ h
def ck (l:List Bk):Nat->ID->Int->List ID
 |0,id,_=>[id]
 | n+1,id,i=>if i= -1 then[id]else match l[i.toNat]? with
  |none=>[id]
  | some b=>match places l with
   |none=>[id]
   |some m=>match ak m b.Parent with
    |none=>[id]
    |some p=>id::ck l n b.Parent p
def an (l:List Bk)(id:ID):List ID:=match places l with
 |none=>[]
 |some m=>match ak m id with
  |none=>[]
  |some i=>ck l (i+1).toNat id i
theorem Af {l:List Bk}{m:List (ID×Int)}(hpl:places l=some m):∀(n:Nat) (k:Nat) (id:ID) (i:Int),i+1<=n->n<=k->ak m id=some i->ck l k id i=ck l n id i:=by
 intro n
 induction n with
 | zero=>
  intro k id i hi hk hf
  have:i= -1:=by
   rcases(bc hpl).known _ _ hf with⟨h,-⟩|⟨_,_,h,-⟩ <;>omega
  cases k with
  |zero=>rfl
  |succ k=>simp[ck,this]
 |succ n ih=>
  intro k id i hi hk hf;obtain⟨k,rfl⟩:∃j,k=j+1:=⟨k-1,by omega⟩;rcases(bc hpl).known _ _ hf with⟨h,-⟩|⟨b,p,h0,h1,h2,h3,h4,h5,h6,h7⟩
  ·simp[ck,h]
  ·simp only[ck,i0_ (show i≠-1 by omega),h2,hpl,h4];rw[ih k b.Parent p (by omega) (by omega) h4]
theorem gB {l:List Bk}{m:List (ID×Int)}{id:ID}{i p:Int}{b:Bk}(hpl:places l=some m)(hne:i≠-1)(h0:0<=i)(hb:l[i.toNat]?=some b)(hp:ak m b.Parent=some p)(hpi:p<i)(hp1: -1<=p) :
  ck l (i+1).toNat id i=id::ck l (p+1).toNat b.Parent p:=by
 obtain⟨n,hn⟩:∃n,(i+1).toNat=n+1:=⟨i.toNat,by omega⟩;rw[hn];simp only[ck,i0_ hne,hb,hpl,hp];rw[Af hpl (p+1).toNat n b.Parent p (by omega) (by omega) hp]
theorem AM {α:Type}{f:α->PV}{l:List α}{a:α}(h:l[i.toNat]?=some a):(l.map f)[i.toNat]?=some (f a):=by
 simp[h]
theorem Conv.zs' {m:Nat}(h:xs=[]):Conv true H .zs (.slice m xs):=by subst h;exact Conv.zs
theorem Conv.vecAll' {m id n len:Nat}{xs ys:List PV}(hH:H[id]?=some (.vec m xs))(hn:n=xs.length)(hl:len=xs.length)(h:ys=xs):Conv true H (.vec m id n 0 len) (.slice m ys):=by
 subst h;exact Conv.vecAll hH hn hl
theorem OF {l:List Bk}(h:places l=none):LC prog 167 [(kB l)] H (Is (.tup [.nilmap,(bQ false)]) H):=by
 have h0:LC prog 167 ([PV.slice 5 (l.map ay)].map .p) [] (Is (.tup [.nilmap,(bQ false)]) []):=c94.mono fun x H hx=>by
  rcases hx with⟨m,hm,-⟩|⟨-,h1,h2⟩
  ·rw[h]at hm;cases hm
  ·exact⟨h1,h2⟩
 have:=LC.frame (H:=H) (d:=H.length) h0 dB (by rw[J2]);simpa [LV.shift,LV.shifts]using this
theorem OG {l:List Bk}{m:List (ID×Int)}{H H1 H2:List ab}{d:Nat}(h:places l=some m)(hd:dr H=some d)(h1:jP H (.box [(kB l)])=some H1)(h2:jP H1 (.map (ar aX KV m))=some H2) :
  LC prog 167 [(kB l)] H (Is (.tup [.map (d+1),(bQ true)]) H2):=by
 have h0:LC prog 167 ([PV.slice 5 (l.map ay)].map .p) [] (Is (.tup [.map 1,(bQ true)]) [.box [(kB l)],.map (ar aX KV m)]):=c94.mono fun x H hx=>by
  rcases hx with⟨m',hm,h1,h2⟩|⟨h1,-⟩
  ·rw[h]at hm;cases hm;exact⟨h1,h2⟩
  ·rw[h]at h1;cases h1
 have:=LC.frame (H:=H) (d:=d) h0 dB hd;have e1:=dD h1;have e2:=dD h2;subst e1;subst e2;simpa [LV.shift,LV.shifts,ab.shift,ar,List.append_assoc,Function.comp_def]using this
theorem QN {l:List Bk}{id:ID}(hpl:places l=none):aq prog 131 [.slice 5 (l.map ay),aX id] [.slice 2 ((an l id).map aX)]:=by
 refine zh Tryz.func131 Z Z Z Z ?_;exact qR<|yS Z (bv Z Z Z Z Z)<|yS Z (za Z Z)<|nT<|LW.scope<|qR<|yS Z (zm Z Z)<|yS Z ((yC Z Z Z (OF hpl)))<|yS Z (zm Z Z)<|yS Z (eZ Z Z Z)<|yS Z (eZ Z Z Z)<|yS Z (za Z Z)<|yS Z (za Z Z)<|nT<|zQ<|qR<|yS Z (zm Z Z)<|yS Z (zD Z Z Z aG Z Z)<|yS Z ((aa.getNil f9 Z Z Z ne Kl Z))<|yS Z (zm Z Z)<|yS Z (eZ Z Z Z)<|yS Z (eZ Z Z Z)<|yS Z (za Z Z)<|yS Z (za Z Z)<|nT<|qR<|yS Z (zm Z Z)<|yS Z (aa.not Z Z)<|nT<|LW.condT Z<|qR<|yS Z (za Z Z)<|nT<|zr<|af<|H5<|zf (.one (.tmp Z))<|Conv.zs' (by simp[an,hpl])
theorem QO {l:List Bk}{id:ID}{m:List (ID×Int)}(hl:l.length<=1000)(hpl:places l=some m):aq prog 131 [.slice 5 (l.map ay),aX id] [.slice 2 ((an l id).map aX)]:=by
 refine zh Tryz.func131 Z Z Z Z ?_;refine qR<|yS Z (bv Z Z Z Z Z)<|yS Z (za Z Z)<|nT ?_;refine LW.jumpsOf (l:=0) (E:=fun x:List ID×ID×Int=>[(0,(kB l)),(3,.ptr 0 0),(5,.map 2),(9,.vec 2 3 (x.1.map aX).length 0 (x.1.map aX).length)]) (O:=fun x=>[.box [(uQ x.2.1.1),(uQ x.2.1.2)],.box [(kB l)],.map (ar aX KV m),.vec 2 (x.1.map aX)]) (G:=fun x=>ak m x.2.1=some x.2.2/\x.1.length+(x.2.2+1).toNat<=1001/\an l id=x.1++ck l (x.2.2+1).toNat x.2.1 x.2.2) (meas:=fun x=>(x.2.2+1).toNat) Z ?_<|fun x hx=>?_
 ·refine qR<|yS Z (zm Z Z)<|yS Z ((yC Z Z Z (OG hpl Z Z Z)))<|yS Z (zm Z Z)<|yS Z (eZ Z Z Z)<|yS Z (eZ Z Z Z)<|yS Z (za Z Z)<|yS Z (za Z Z)<|nT<|zQ<|qR<|yS Z (zm Z Z)<|yS Z (zD Z Z Z aG Z Z) ?_;rcases hf:ak m id with _|i
  ·refine yS Z ((aa.getMiss f9 hf Z Z Z Z ne Kl Z))<|yS Z (zm Z Z)<|yS Z (eZ Z Z Z)<|yS Z (eZ Z Z Z)<|yS Z (za Z Z)<|yS Z (za Z Z)<|nT<|qR<|yS Z (zm Z Z)<|yS Z (aa.not Z Z)<|nT<|LW.condT Z<|qR<|yS Z (za Z Z)<|nT<|zr<|af<|AF<|zf (.one (.tmp Z))<|Conv.zs' ?_;simp[an,hpl,hf]
  ·refine yS Z ((aa.getHit f9 hf Z Z Z Z ne Z))<|yS Z (zm Z Z)<|yS Z (eZ Z Z Z)<|yS Z (eZ Z Z Z)<|yS Z (za Z Z)<|yS Z (za Z Z)<|nT<|qR<|yS Z (zm Z Z)<|yS Z (aa.not Z Z)<|nT<|LW.condF Z<|zk<|zT<|qR<|yS Z (za Z Z)<|nT<|zQ<|LW.label<|zT<|qR<|yS Z (zm Z Z)<|yS Z (zD Z Z Z aG Z Z)<|yS Z (gU Z fH Z Z Z Z Z)<|yS Z (aa.appendZ Z Z Z Z iC.p fH (by simp only[length_singleton];omega) Z)<|yS Z (za Z Z)<|nT<|zQ<|qR<|yS Z (zm Z Z)<|yS Z (zD Z Z Z aG Z Z)<|yS Z ((aa.getHit f9 hf Z Z Z Z ne Z))<|yS Z (za Z Z)<|nT<|qR<|yS Z (zm Z Z)<|yS Z (am Z Z Z Z)<|nT ?_;refine zX Z (fun g1=>?_)<|fun g1=>?_
   ·refine zQ ?_
    have hne:i≠-1:=by simpa using g1
    obtain⟨h1,-⟩|⟨b,p,h0,hlt,hb,hnb,hp,hpi,hp1,hs⟩:=(bc hpl).known _ _ hf
    ·exact absurd h1 hne
    have hc:an l id=id::ck l (p+1).toNat b.Parent p:=by
     simp only[an,hpl,hf];exact gB hpl hne h0 hb hp hpi hp1
    refine zR<|yS Z (zm Z Z)<|yS Z (zm Z Z)<|yS Z (aa.indexAddr Z Z Z cp (by omega) (AM hb) Z)<|yS Z (aa.fieldAddrC Z Z gv Z)<|yS Z (bS Z Z Z aG Z Z)<|yS Z (zs Z Z Z Z aG Z Z Z Z)<|nT<|LW.goto<|K5<|HK ?_;refine⟨([id],b.Parent,p),?_,zW 4 ⟨Z,Z,Z,Z,t_⟩ Z Z Z (zL Z (zL Z (zL (ai (fun _=>rfl) _) Z)))⟩
    ·exact⟨hp,by simp only[length_singleton];omega,hc⟩
   ·refine zk<|zT<|zQ ?_
    have hend:i= -1:=by simpa using g1
    refine zR<|yS Z (zm Z Z)<|yS Z (za Z Z)<|nT<|zr<|AF<|zf (.one (.tmp Z))<|Conv.vecAll' Z Z Z ?_;rw[show an l id=[id] by simp only[an,hpl,hf,hend];rfl];rfl
 ·refine zQ<|zk<|zT<|qR<|yS Z (zm Z Z)<|yS Z (zD Z Z Z aG Z Z)<|yS Z (gU Z fH Z Z Z Z Z)<|yS Z (aa.appendM (f:=aX) (xs:=x.1) (ys:=[x.2.1]) Z Z Z Z Z fH (by simp only[length_singleton];omega) Z)<|yS Z (za Z Z)<|nT<|zQ<|qR<|yS Z (zm Z Z)<|yS Z (zD Z Z Z aG Z Z)<|yS Z ((aa.getHit f9 hx.1 Z Z Z Z ne Z))<|yS Z (za Z Z)<|nT<|qR<|yS Z (zm Z Z)<|yS Z (am Z Z Z Z)<|nT ?_;refine zX Z (fun g2=>?_)<|fun g2=>?_
  ·refine zQ ?_
   have hne:x.2.2≠-1:=by simpa using g2
   obtain⟨h1,-⟩|⟨b,p,h0,hlt,hb,hnb,hp,hpi,hp1,hs⟩:=(bc hpl).known _ _ hx.1
   ·exact absurd h1 hne
   have hc:=gB (id:=x.2.1) hpl hne h0 hb hp hpi hp1;refine zR<|yS Z (zm Z Z)<|yS Z (zm Z Z)<|yS Z (aa.indexAddr Z Z Z cp (by omega) (AM hb) Z)<|yS Z (aa.fieldAddrC Z Z gv Z)<|yS Z (bS Z Z Z aG Z Z)<|yS Z (zs Z Z Z Z aG Z Z Z Z)<|nT<|LW.goto<|K5<|HK ?_;refine⟨(x.1++[x.2.1],b.Parent,p),?_,?_,zW 4 ⟨Z,Z,Z,Z,t_⟩ Z Z Z (zL Z (zL Z (zL (ai (fun _=>rfl) _) Z)))⟩
   ·simp only;omega
   ·refine⟨hp,?_,?_⟩
    ·have:=hx.2.1;simp only[List.length_append,length_singleton];omega
    ·rw[hx.2.2,hc,List.append_assoc];rfl
  ·refine zk<|zT<|zQ ?_
   have hend:x.2.2= -1:=by simpa using g2
   refine zR<|yS Z (zm Z Z)<|yS Z (za Z Z)<|nT<|zr<|AF<|zf (.one (.tmp Z))<|Conv.vecAll' Z Z Z ?_;rw[hx.2.2,hend];rfl
theorem QM {l:List Bk}{id:ID}(hl:l.length<=1000):aq prog 131 [.slice 5 (l.map ay),aX id] [.slice 2 ((an l id).map aX)]:=by
 rcases hpl:places l with _|m
 ·exact QN hpl
 ·exact QO hl hpl
def dL (c:Cu)(l:List Bk)(head found:ID)(is:Bool)(slot:Int):Cu:=
 let c':Cu:=if ap (an l head) c.ID<0 then⟨(0,0),slot,i64.wrap (c.Revoked+1)⟩else c
 let at_:Int:=if ap (an l head) c.ID<0 then i64.wrap ((an l head).length-1)else ap (an l head) c.ID
 if is=true/\ap (an l head) found>=0/\ap (an l head) found<at_ then⟨found,slot,c'.Revoked⟩else c'
theorem Ro {c:Cu}{l:List Bk}{head found:ID}{is:Bool}{slot:Int}(hl:l.length<=1000):aq prog 90 [tg c,.slice 5 (l.map ay),aX head,aX found,.bool is,.int .i64 slot] [tg (dL c l head found is slot)]:=by
 refine zh Tryz.func90 Z Z Z Z ?_;refine LW.seq<|LW.region<|ax.st Z Z Z (aa.box Z Z Z Z Z)<|ax.st Z Z Z (aa.box Z Z Z Z Z)<|ax.st Z Z Z (aa.box Z Z Z Z Z)<|ax.st Z Z Z (aa.alloc Z MQ Z Z)<|ax.nil<|cr<|LW.seq<|LW.region<|ax.st Z Z Z (aa.move Z Z)<|ax.st Z Z Z (aa.load Z Z Z aG Z Z)<|ax.st Z Z Z (aa.call Z Z Z (by kernel_rfl) (LC.pure (QM hl) (.cons Conv.p (.cons Conv.p .nil))))<|ax.st Z Z Z (aa.assign Z Z)<|ax.nil<|cr<|LW.seq<|LW.region<|ax.st Z Z Z (aa.move Z Z)<|ax.st Z Z Z (aa.fieldAddr Z Z mH)<|ax.st Z Z Z (aa.load Z Z Z aG Z Z)<|ax.st Z Z Z (aa.call Z Z Z (by kernel_rfl) (LC.pure P6 (.cons Conv.p (.cons Conv.p .nil))))<|ax.st Z Z Z (aa.assign Z Z)<|ax.nil<|cr<|LW.seq<|LW.block<|LW.seq<|LW.block<|LW.seq<|LW.block<|LW.seq<|LW.seq<|LW.region<|ax.st Z Z Z (aa.move Z Z)<|ax.st Z Z Z (aa.bin Z Z Z Z)<|ax.st Z Z Z (aa.assign Z Z)<|ax.nil<|cr ?_;refine LW.cond Z (fun g1=>?_)<|fun g1=>?_
 ·refine LW.exit<|aj<|pQ<|cr<|LW.seq<|LW.region<|ax.st Z Z Z (aa.move Z Z)<|ax.st Z Z Z (aa.fieldAddr Z Z BU)<|ax.st Z Z Z (aa.load Z Z Z aV Z Z)<|ax.st Z Z Z (aa.bin Z Z Z Z)<|ax.st Z Z Z (aa.build Z Qc Z Z Z)<|ax.st Z Z Z (aa.store Z Z Z Z gy Z Z Z Z)<|ax.nil<|cr<|LW.region<|ax.st Z Z Z (aa.move Z Z)<|ax.st Z Z Z (aa.len Z Z (by kernel_rfl))<|ax.st Z Z Z (aa.bin Z Z Z Z)<|ax.st Z Z Z (aa.assign Z Z)<|ax.nil<|ae<|cr<|LW.seq<|LW.seq<|LW.region<|ax.st Z Z Z (aa.move Z Z)<|ax.st Z Z Z (aa.load Z Z Z aG Z Z)<|ax.st Z Z Z (aa.call Z Z Z (by kernel_rfl) (LC.pure P6 (.cons Conv.p (.cons Conv.p .nil))))<|ax.st Z Z Z (aa.assign Z Z)<|ax.nil<|cr<|LW.seq<|LW.region<|ax.st Z Z Z (aa.move Z Z)<|ax.st Z Z Z (aa.move Z Z) ?_;refine zc 38 Z (fun g2=>?_)<|fun g2=>?_
  ·refine ax.gd Z Z Z (gd g2 Z) Z (aa.move Z Z)<|ax.gd Z Z Z (gd g2 Z) Z (aa.bin Z Z Z Z)<|ax.st Z Z Z (aa.pickT Z (aK g2 Z) Z)<|ax.st Z Z Z (aa.move Z Z) ?_;refine zc 42 Z (fun g3=>?_)<|fun g3=>?_
   ·refine ax.gd Z Z Z (gd g3 Z) Z (aa.move Z Z)<|ax.gd Z Z Z (gd g3 Z) Z (aa.move Z Z)<|ax.gd Z Z Z (gd g3 Z) Z (aa.bin Z Z Z Z)<|ax.st Z Z Z (aa.pickT Z (aK g3 Z) Z)<|ax.nil<|cr ?_;refine LW.cond Z (fun g4=>?_)<|fun g4=>?_
    ·refine LW.region<|ax.st Z Z Z (aa.load Z Z Z aG Z Z)<|ax.st Z Z Z (zm Z Z)<|ax.st Z Z Z (aa.fieldAddr Z Z mH)<|ax.st Z Z Z (zs Z Z Z Z aG Z Z Z Z)<|ax.st Z Z Z (aa.fieldAddr Z Z xl)<|ax.st Z Z Z (zs Z Z Z Z aV Z Z Z Z)<|ax.nil<|cr<|zq<|zy<|cr<|LW.seq<|LW.region<|ax.st Z Z Z (aa.load Z Z Z gy Z Z)<|ax.st Z Z Z (zs Z Z Z Z gy Z Z Z Z)<|ax.nil<|cr<|zr<|zf (.one (.cellAgg Z Z (by kernel_rfl) Z))<|Conv.pe ?_;simp only[decide_eq_true_eq,length_map]at g1 g2 g3 g4;simp only[dL,tg]
     (repeat' split) <;>first|rfl|(exfalso;simp_all;done)|(exfalso;simp_all;omega)
    ·refine zk<|cr<|zq<|zy<|cr<|LW.seq<|LW.region<|ax.st Z Z Z (aa.load Z Z Z gy Z Z)<|ax.st Z Z Z (zs Z Z Z Z gy Z Z Z Z)<|ax.nil<|cr<|zr<|zf (.one (.cellAgg Z Z (by kernel_rfl) Z))<|Conv.pe ?_;simp only[decide_eq_true_eq,decide_eq_false_iff_not,length_map]at g1 g2 g3 g4;simp only[dL,tg]
     (repeat' split) <;>first|rfl|(exfalso;simp_all;done)|(exfalso;simp_all;omega)
   ·refine ax.sk Z Z Z (gd g3 Z) Z Z<|ax.sk Z Z Z (gd g3 Z) Z Z<|ax.sk Z Z Z (gd g3 Z) Z Z<|ax.st Z Z Z (aU Z (aK g3 Z) Z)<|ax.nil<|cr<|LW.condF Z<|zk<|cr<|zq<|zy<|cr<|LW.seq<|LW.region<|ax.st Z Z Z (aa.load Z Z Z gy Z Z)<|ax.st Z Z Z (zs Z Z Z Z gy Z Z Z Z)<|ax.nil<|cr<|zr<|zf (.one (.cellAgg Z Z (by kernel_rfl) Z))<|Conv.pe ?_;simp only[decide_eq_true_eq,decide_eq_false_iff_not]at g1 g2 g3;simp only[dL,tg]
    (repeat' split) <;>first|rfl|(exfalso;simp_all;done)|(exfalso;simp_all;omega)
  ·refine ax.sk Z Z Z (gd g2 Z) Z Z<|ax.sk Z Z Z (gd g2 Z) Z Z<|ax.st Z Z Z (aU Z (aK g2 Z) Z)<|ax.st Z Z Z (zm Z Z)<|ax.sk Z Z Z Z Z Z<|ax.sk Z Z Z Z Z Z<|ax.sk Z Z Z Z Z Z<|ax.st Z Z Z (aU Z Z Z)<|ax.nil<|cr<|LW.condF Z<|zk<|cr<|zq<|zy<|cr<|LW.seq<|LW.region<|ax.st Z Z Z (aa.load Z Z Z gy Z Z)<|ax.st Z Z Z (zs Z Z Z Z gy Z Z Z Z)<|ax.nil<|cr<|zr<|zf (.one (.cellAgg Z Z (by kernel_rfl) Z))<|Conv.pe ?_;simp only[decide_eq_true_eq]at g1 g2;simp only[dL,tg]
   (repeat' split) <;>first|rfl|(exfalso;simp_all;done)|(exfalso;simp_all;omega)
 ·refine LW.skip<|cr<|LW.exit<|iP (by decide)<|aj<|pQ<|cr<|LW.seq<|LW.seq<|LW.region<|ax.st Z Z Z (aa.move Z Z)<|ax.st Z Z Z (aa.load Z Z Z aG Z Z)<|ax.st Z Z Z (aa.call Z Z Z (by kernel_rfl) (LC.pure P6 (.cons Conv.p (.cons Conv.p .nil))))<|ax.st Z Z Z (aa.assign Z Z)<|ax.nil<|cr<|LW.seq<|LW.region<|ax.st Z Z Z (aa.move Z Z)<|ax.st Z Z Z (aa.move Z Z) ?_;refine zc 38 Z (fun g5=>?_)<|fun g5=>?_
  ·refine ax.gd Z Z Z (gd g5 Z) Z (aa.move Z Z)<|ax.gd Z Z Z (gd g5 Z) Z (aa.bin Z Z Z Z)<|ax.st Z Z Z (aa.pickT Z (aK g5 Z) Z)<|ax.st Z Z Z (aa.move Z Z) ?_;refine zc 42 Z (fun g6=>?_)<|fun g6=>?_
   ·refine ax.gd Z Z Z (gd g6 Z) Z (aa.move Z Z)<|ax.gd Z Z Z (gd g6 Z) Z (aa.move Z Z)<|ax.gd Z Z Z (gd g6 Z) Z (aa.bin Z Z Z Z)<|ax.st Z Z Z (aa.pickT Z (aK g6 Z) Z)<|ax.nil<|cr ?_;refine LW.cond Z (fun g7=>?_)<|fun g7=>?_
    ·refine LW.region<|ax.st Z Z Z (aa.load Z Z Z aG Z Z)<|ax.st Z Z Z (zm Z Z)<|ax.st Z Z Z (aa.fieldAddr Z Z mH)<|ax.st Z Z Z (zs Z Z Z Z aG Z Z Z Z)<|ax.st Z Z Z (aa.fieldAddr Z Z xl)<|ax.st Z Z Z (zs Z Z Z Z aV Z Z Z Z)<|ax.nil<|cr<|zq<|zy<|cr<|LW.seq<|LW.region<|ax.st Z Z Z (aa.load Z Z Z gy Z Z)<|ax.st Z Z Z (zs Z Z Z Z gy Z Z Z Z)<|ax.nil<|cr<|zr<|zf (.one (.cellAgg Z Z (by kernel_rfl) Z))<|Conv.pe ?_;simp only[decide_eq_true_eq,decide_eq_false_iff_not]at g1 g5 g6 g7;simp only[dL,tg]
     (repeat' split) <;>first|rfl|(exfalso;simp_all;done)|(exfalso;simp_all;omega)
    ·refine zk<|cr<|zq<|zy<|cr<|LW.seq<|LW.region<|ax.st Z Z Z (aa.load Z Z Z gy Z Z)<|ax.st Z Z Z (zs Z Z Z Z gy Z Z Z Z)<|ax.nil<|cr<|zr<|zf (.one (.cellAgg Z Z (by kernel_rfl) Z))<|Conv.pe ?_;simp only[decide_eq_true_eq,decide_eq_false_iff_not]at g1 g5 g6 g7;simp only[dL,tg]
     (repeat' split) <;>first|rfl|(exfalso;simp_all;done)|(exfalso;simp_all;omega)
   ·refine ax.sk Z Z Z (gd g6 Z) Z Z<|ax.sk Z Z Z (gd g6 Z) Z Z<|ax.sk Z Z Z (gd g6 Z) Z Z<|ax.st Z Z Z (aU Z (aK g6 Z) Z)<|ax.nil<|cr<|LW.condF Z<|zk<|cr<|zq<|zy<|cr<|LW.seq<|LW.region<|ax.st Z Z Z (aa.load Z Z Z gy Z Z)<|ax.st Z Z Z (zs Z Z Z Z gy Z Z Z Z)<|ax.nil<|cr<|zr<|zf (.one (.cellAgg Z Z (by kernel_rfl) Z))<|Conv.pe ?_;simp only[decide_eq_false_iff_not]at g1 g5 g6;simp only[dL,tg]
    (repeat' split) <;>first|rfl|(exfalso;simp_all;done)|(exfalso;simp_all;omega)
  ·refine ax.sk Z Z Z (gd g5 Z) Z Z<|ax.sk Z Z Z (gd g5 Z) Z Z<|ax.st Z Z Z (aU Z (aK g5 Z) Z)<|ax.st Z Z Z (zm Z Z)<|ax.sk Z Z Z Z Z Z<|ax.sk Z Z Z Z Z Z<|ax.sk Z Z Z Z Z Z<|ax.st Z Z Z (aU Z Z Z)<|ax.nil<|cr<|LW.condF Z<|zk<|cr<|zq<|zy<|cr<|LW.seq<|LW.region<|ax.st Z Z Z (aa.load Z Z Z gy Z Z)<|ax.st Z Z Z (zs Z Z Z Z gy Z Z Z Z)<|ax.nil<|cr<|zr<|zf (.one (.cellAgg Z Z (by kernel_rfl) Z))<|Conv.pe ?_;simp only[decide_eq_false_iff_not]at g1 g5;simp only[dL,tg]
   (repeat' split) <;>first|rfl|(exfalso;simp_all;done)|(exfalso;simp_all;omega)
theorem ft {l:List ID}{v:ID}:ap l v= -1/\v∉l\/∃i:Nat,ap l v=i/\l[i]?=some v/\∀j,j<i->l[j]?≠some v:=by
 unfold ap
 cases h:l.findIdx? (fun x=>decide (v=x))with
 |none=>
  left;rw[List.findIdx?_eq_none_iff]at h;exact⟨rfl,fun hm=>by simpa using h v hm⟩
 |some i=>
  right;rw[List.findIdx?_eq_some_iff_getElem]at h;obtain⟨hi,h1,h2⟩:=h;refine⟨i,rfl,by rw[getElem?_eq_getElem hi];simpa using(of_decide_eq_true h1).symm,fun j hj hc=>?_⟩;have:=h2 j hj;rw[getElem?_eq_getElem (by omega)]at hc;simp at hc this;exact this hc.symm
theorem dk {l:List ID}{v:ID}:0<=ap l v↔v∈l:=by
 rcases ft (l:=l) (v:=v)with⟨h1,h2⟩|⟨i,h1,h2,h3⟩
 ·rw[h1];constructor
  ·intro h;omega
  ·intro h;exact absurd h h2
 ·rw[h1];exact⟨fun _=>List.mem_of_getElem? h2,fun _=>by omega⟩
theorem BY (l:List ID)(v:ID): -1<=ap l v:=by
 rcases ft (l:=l) (v:=v)with⟨h1,h2⟩|⟨i,h1,h2,h3⟩ <;>omega
theorem uL {l:List ID}{v:ID}:ap l v<l.length:=by
 rcases ft (l:=l) (v:=v)with⟨h1,h2⟩|⟨i,h1,h2,h3⟩
 ·omega
 ·have:=(List.getElem?_eq_some_iff.1 h2).1;omega
section
variable {l : List Bk} {m : List (ID × Int)}
theorem sS (hpl:places l=some m):∀(n:Nat) (id:ID) (i:Int),i+1<=n->ak m id=some i->(0,0)∈ck l n id i:=by
 intro n
 induction n with
 |zero=>
  intro id i hi hf;rcases(bc hpl).known _ _ hf with⟨-,h⟩|⟨_,_,h,-⟩
  ·simp[ck,h]
  ·omega
 |succ n ih=>
  intro id i hi hf;rcases(bc hpl).known _ _ hf with⟨h,h'⟩|⟨b,p,h0,h1,h2,h3,h4,h5,h6,h7⟩
  ·simp[ck,h,h']
  ·simp only[ck,i0_ (show i≠-1 by omega),h2,hpl,h4];exact List.mem_cons_of_mem _<|ih b.Parent p (by omega) h4
theorem BK (n:Nat):∀(id:ID) (i:Int),(ck l n id i).length<=n+1:=by
 induction n with
 |zero=>intro id i;simp[ck]
 | succ n ih=>
  intro id i;simp only[ck];split
  ·simp
  ·split
   ·simp
   ·split
    ·simp
    ·split
     ·simp
     ·simp;exact ih _ _
theorem oL (id:ID):(an l id).length<=l.length+1:=by
 unfold an;split
 ·simp
 ·rename_i m hpl;split
  ·simp
  ·rename_i i hf;have:=BK (l:=l) (i+1).toNat id i;rcases(bc hpl).known _ _ hf with⟨h,h'⟩|⟨b,p,h0,h1,h2,h3,h4,h5,h6,h7⟩
   ·rw[h]at this⊢;simp at this⊢;omega
   ·omega
theorem pH {id:ID}(h:an l id≠[]):(0,0)∈an l id:=by
 unfold an at h⊢;split
 ·simp_all
 ·rename_i m hpl;split
  ·simp_all
  ·rename_i i hf;refine sS hpl _ id i ?_ hf;rcases(bc hpl).known _ _ hf with⟨h,h'⟩|⟨b,p,h0,h1,h2,h3,h4,h5,h6,h7⟩ <;>omega
theorem up (_:places l=some m){id:ID}(_:ak m id=some (-1))(n:Nat):ck l n id (-1)=[id]:=by
 cases n with
 |zero=>rfl
 |succ n=>simp[ck]
theorem rT (hpl:places l=some m):∀(n:Nat) (id:ID) (i:Int),i+1<=n->ak m id=some i->∀(k:Nat) x,(ck l (i+1).toNat id i)[k]?=some x->
  ∃j:Int,ak m x=some j/\j<=i/\(0<k->j<i)/\ck l (j+1).toNat x j=(ck l (i+1).toNat id i).drop k:=by
 intro n
 induction n with
 | zero=>
  intro id i hi hf k x hx;rcases(bc hpl).known _ _ hf with⟨h,h'⟩|⟨b,p,h0,h1,h2,h3,h4,h5,h6,h7⟩
  ·subst h
   have hk:k=0:=by
    have:=(List.getElem?_eq_some_iff.1 hx).1;simp[ck]at this;exact this
   subst hk;simp[ck]at hx;subst hx;exact⟨-1,hf,Int.le_refl _,by omega,rfl⟩
  ·omega
 | succ n ih=>
  intro id i hi hf k x hx;rcases(bc hpl).known _ _ hf with⟨h,h'⟩|⟨b,p,h0,h1,h2,h3,h4,h5,h6,h7⟩
  ·exact ih id i (by omega) hf k x hx
  ·have e:=gB (id:=id) hpl (by omega) h0 h2 h4 h5 h6;rw[e]at hx
   cases k with
   |zero=>
    simp at hx;subst hx;exact⟨i,hf,Int.le_refl _,by omega,rfl⟩
   |succ k=>
    simp at hx;obtain⟨j,g1,g2,g3,g4⟩:=ih b.Parent p (by omega) h4 k x hx;exact⟨j,g1,by omega,fun _=>by omega,by rw[g4,e];rfl⟩
theorem uq {id x:ID}{k:Nat}(h:(an l id)[k]?=some x):an l x=(an l id).drop k:=by
 unfold an at h⊢
 cases hpl:places l with
 |none=>rw[hpl]at h;simp at h
 | some m=>
  rw[hpl]at h;simp only at h⊢
  cases hf:ak m id with
  |none=>rw[hf]at h;simp at h
  |some i=>
   rw[hf]at h;simp only at h⊢;obtain⟨j,g1,g2,g3,g4⟩:=rT hpl (i+1).toNat id i (by omega) hf k x h;rw[g1];exact g4
theorem BL {id:ID}(h:an l id≠[]):(an l id)[0]?=some id:=by
 unfold an at h⊢;split
 ·simp_all
 ·rename_i m hpl;split
  ·simp_all
  ·rename_i i hf;rcases(bc hpl).known _ _ hf with⟨h,h'⟩|⟨b,p,h0,h1,h2,h3,h4,h5,h6,h7⟩
   ·subst h;rfl
   ·rw[gB (id:=id) hpl (by omega) h0 h2 h4 h5 h6];rfl
theorem Ag (hpl:places l=some m){id:ID}(hf:ak m id=some i):∀{a b:Nat} {x y:ID},a<b->(ck l (i+1).toNat id i)[a]?=some x->(ck l (i+1).toNat id i)[b]?=some y->x≠y:=by
 intro a b x y hab ha hb;obtain⟨j,g1,g2,g3,g4⟩:=rT hpl (i+1).toNat id i (by omega) hf a x ha
 have hy:(ck l (j+1).toNat x j)[b-a]?=some y:=by
  rw[g4,List.getElem?_drop,show a+(b-a)=b by omega];exact hb
 obtain⟨j',g5,g6,g7,-⟩:=rT hpl (j+1).toNat x j (by omega) g1 (b-a) y hy;intro e;subst e;rw[g1]at g5;cases g5;have:=g7 (by omega);omega
theorem Eu {id x:ID}{a b:Nat}(ha:(an l id)[a]?=some x)(hb:(an l id)[b]?=some x):a=b:=by
 unfold an at ha hb
 cases hpl:places l with
 |none=>rw[hpl]at ha;simp at ha
 | some m=>
  rw[hpl]at ha hb;simp only at ha hb
  cases hf:ak m id with
  |none=>rw[hf]at ha;simp at ha
  |some i=>
   rw[hf]at ha hb;simp only at ha hb;rcases Nat.lt_trichotomy a b with h|h|h
   ·exact absurd Z<|Ag hpl hf h ha hb
   ·exact h
   ·exact absurd Z<|Ag hpl hf h hb ha
theorem gC {id x:ID}(h:x∈an l id):∃k:Nat,(an l id)[k]?=some x/\ap (an l id) x=k:=by
 rcases ft (l:=an l id) (v:=x)with⟨h1,h2⟩|⟨i,h1,h2,h3⟩
 ·exact absurd h h2
 ·exact⟨i,h2,h1⟩
theorem BN {a b:ID}(h:a∈an l b):a∈an l a:=by
 obtain⟨k,h1,-⟩:=gC h;rw[uq h1]
 have:((an l b).drop k)[0]?=some a:=by simpa using h1
 exact List.mem_of_getElem? this
theorem Hs {id x y:ID}(hx:x∈an l id)(hy:y∈an l id):y∈an l x↔ap (an l id) x<=ap (an l id) y:=by
 obtain⟨a,h1,h2⟩:=gC hx;obtain⟨b,h3,h4⟩:=gC hy;rw[h2,h4,uq h1];constructor
 ·intro h;obtain⟨q,hq,e⟩:=List.mem_iff_getElem.1 h
  have:(an l id)[a+q]?=some y:=by
   rw[<-List.getElem?_drop,getElem?_eq_getElem hq,e]
  have:=Eu this h3;omega
 ·intro h
  have:((an l id).drop a)[b-a]?=some y:=by
   rw[List.getElem?_drop,show a+(b-a)=b by omega];exact h3
  exact List.mem_of_getElem? this
end
theorem Pb {k:IntKind}{p:PV}(h:tv (.int k) p):∃n,p=.int k n/\aW k n:=by
 cases h with|int h=>exact⟨_,rfl,h⟩
theorem IH {l:List Bk}{id:ID}(hl:l.length<=1000):i64.wrap ((an l id).length-1)=(an l id).length-1:=by
 have:=oL (l:=l) id;exact cR
theorem AS {α:Type}:∀{l s:List α} {i:Nat} {y:α},bH l i y=some s->bl s i=some y
 |x::r,s,0,y,h=>by cases h;rfl
 |x::r,s,i+1,y,h=>by
  simp only[bH]at h;split at h
  ·rename_i q hq;cases h;show bl q i=some y;exact AS hq
  ·cases h
 |[],s,0,y,h=>by cases h
 |[],s,i+1,y,h=>by cases h
theorem PD : (f225.name == "runtime.NumGoroutine") = false := by kernel_rfl
theorem PL :Extern.findNext f225=none:=by kernel_rfl
theorem Pv :Extern.find f225=some (Extern.Atomic.loadT (.int .i64)):=by kernel_rfl
theorem PE : (f257.name == "runtime.NumGoroutine") = false := by kernel_rfl
theorem PM :Extern.findNext f257=none:=by kernel_rfl
theorem Pw :Extern.find f257=some (Extern.Atomic.update (Op.intArith .add) .i64 true):=by kernel_rfl
theorem PF : (f259.name == "runtime.NumGoroutine") = false := by kernel_rfl
theorem PN :Extern.findNext f259=none:=by kernel_rfl
theorem Px :Extern.find f259=some (Extern.Atomic.loadT (.int .u32)):=by kernel_rfl
theorem PG : (f265.name == "runtime.NumGoroutine") = false := by kernel_rfl
theorem PO :Extern.findNext f265=none:=by kernel_rfl
theorem Py :Extern.find f265=some (Extern.Atomic.storeT):=by kernel_rfl
theorem La : (f267.name == "runtime.NumGoroutine") = false := by kernel_rfl
theorem Lc :Extern.findNext f267=none:=by kernel_rfl
theorem K8 :Extern.find f267=some (fun _=>do mark .disable;pure Extern.Race.none_):=by kernel_rfl
theorem PH : (f268.name == "runtime.NumGoroutine") = false := by kernel_rfl
theorem PP :Extern.findNext f268=none:=by kernel_rfl
theorem Pz :Extern.find f268=some (Extern.Atomic.casT (.int .i32)):=by kernel_rfl
theorem Lb : (f269.name == "runtime.NumGoroutine") = false := by kernel_rfl
theorem Ld :Extern.findNext f269=none:=by kernel_rfl
theorem K9 :Extern.find f269=some (fun _=>do mark .enable;pure Extern.Race.none_):=by kernel_rfl
theorem PI : (f270.name == "runtime.NumGoroutine") = false := by kernel_rfl
theorem PQ :Extern.findNext f270=none:=by kernel_rfl
theorem PA :Extern.find f270=some (Extern.Race.marked .acquire):=by kernel_rfl
theorem PJ : (f272.name == "runtime.NumGoroutine") = false := by kernel_rfl
theorem PR :Extern.findNext f272=none:=by kernel_rfl
theorem PB :Extern.find f272=some (Extern.Race.marked .releaseMerge):=by kernel_rfl
theorem PK : (f273.name == "runtime.NumGoroutine") = false := by kernel_rfl
theorem PS :Extern.findNext f273=none:=by kernel_rfl
theorem PC :Extern.find f273=some (Extern.Atomic.update (Op.intArith .add) .i32 true):=by kernel_rfl
theorem K2 :xB prog 302 306=true:=by kernel_rfl
theorem L3 {n:Int}(hH:bl H 0=some (.box cs))(h0:bl cs (off+0)=some (.p (.int .u32 n))):LC prog 255 [.ptr 0 off] H (Is (.p (.bool (n != 0))) H):=by
 refine eP Tryz.func255 Z Z Z ?_;refine qR<|mN Z<|qR<|zM Z<|yS Z (zn Z Z)<|yS Z (zA Z Z Dj) ?_;refine yS Z (aa.atomLoad (P:=prog) (f:=259) (fn:=f259) Z Z Z Tryz.func259 Z PF PN Px hH h0) ?_;exact yS Z (am Z Z Z Z)<|mN Z<|zr<|aD (.one (.tmp Z))<|⟨rfl,rfl⟩
theorem QL :aq prog 266 [.bool true] [.int .u32 1]:=by
 refine zh Tryz.func266 Z Z Z Z ?_;exact qR<|mN Z<|zQ<|qR<|mN Z<|LW.condT Z<|qR<|mN Z<|zr<|af<|ba Z
theorem NT (hH:bl H 0=some (.box cs))(hc:bH cs (off+0) (.p (.int .u32 1))=some cs')(hH':bH H 0 (.box cs')=some H'):LH prog 262 [.ptr 0 off,(bQ true)] H H':=by
 refine LH.start (by kernel_rfl) Tryz.func262 Z Z Z (R:=Is (.tup []) H') (fun _ _ h=>h.2) ?_;refine fC<|zK Z<|yG Z (fun H _=>zn Z Z)<|yG Z (fun H _=>zA Z Z Dj)<|zK Z ?_;refine yF (F:=[]) (s:=none) Z (fun H _=>yC Z Z Z (zp QL dB)) Z ?_;refine yF Z (ch.atomStore (P:=prog) (f:=265) (fn:=f265) Z Z Z Tryz.func265 Z PG PO Py Z hH hc) hH' ?_;refine LF.nil ⟨by kernel_rfl,?_⟩;exact jf .none<|⟨rfl,rfl⟩
theorem QJ (hH:bl H 0=some (.box cs))(h0:bl cs (off+0)=some (.p (.int .i32 0)))(hc:bH cs (off+0) (.p (.int .i32 1))=some cs')(hH':bH H 0 (.box cs')=some H')(hb:blt off cs'.length=true):LC prog 263 [.ptr 0 off] H (Is (.tup []) H'):=by
 refine eP Tryz.func263 Z Z Z ?_;refine qR ?_;refine yS Z (aa.mark0 (P:=prog) (f:=267) (fn:=f267) Z Z Z Tryz.func267 Z La Lc K8) ?_;refine nT<|zQ<|qR<|zM Z<|yS Z (zn Z Z)<|yS Z (zA Z Z xh) ?_;refine yS Z (aa.atomCas (P:=prog) (f:=268) (fn:=f268) Z Z Z Tryz.func268 Z PH PP Pz hH h0 hc hH') ?_;refine nT<|LW.condT Z<|zQ<|LW.condT Z<|qR ?_;refine yS Z (aa.mark0 (P:=prog) (f:=269) (fn:=f269) Z Z Z Tryz.func269 Z Lb Ld K9) ?_;refine nT<|zR<|zM Z<|yS Z (aa.convPtr Z Z (AS hH') hb K2) ?_;refine yS Z (aa.markP (P:=prog) (f:=270) (fn:=f270) Z Z Z Tryz.func270 Z PI PQ PA) ?_;exact nT<|LW.ret<|af<|aD .none<|⟨rfl,rfl⟩
theorem QI (hH:bl H 0=some (.box cs))(h0:bl cs (off+0+0)=some (.p (.int .i32 0)))(hc:bH cs (off+0+0) (.p (.int .i32 1))=some cs')(hH':bH H 0 (.box cs')=some H')(hb:blt (off+0) cs'.length=true):LC prog 260 [.ptr 0 off] H (Is (.tup []) H'):=by
 refine eP Tryz.func260 Z Z Z ?_;exact zR<|zM Z<|yS Z (zn Z Z)<|yS Z (zA Z Z Dl)<|yS Z (yC Z Z Z (QJ hH h0 hc hH' hb))<|zN<|jf .none<|⟨rfl,rfl⟩
theorem QK (hH:bl H 0=some (.box cs))(h0:bl cs (off+0)=some (.p (.int .i32 1)))(hb:blt off cs.length=true)(hc:bH cs (off+0) (.p (.int .i32 0))=some cs')(hH':bH H 0 (.box cs')=some H'):LC prog 264 [.ptr 0 off] H (Is (.tup []) H'):=by
 refine eP Tryz.func264 Z Z Z ?_;refine zQ<|LW.condT Z<|qR<|zM Z<|yS Z (zn Z Z)<|yS Z (zA Z Z xh)<|yS Z (aa.load1 Z Z hH Q3 h0)<|nT<|qR<|zM Z<|yS Z (aa.convPtr Z Z hH hb K2) ?_;refine yS Z (aa.markP (P:=prog) (f:=272) (fn:=f272) Z Z Z Tryz.func272 Z PJ PR PB) ?_;refine nT<|zR ?_;refine yS Z (aa.mark0 (P:=prog) (f:=267) (fn:=f267) Z Z Z Tryz.func267 Z La Lc K8) ?_;refine nT<|qR<|zM Z<|yS Z (zn Z Z)<|yS Z (zA Z Z xh) ?_;refine yS Z (aa.atomAdd (P:=prog) (f:=273) (fn:=f273) Z Z Z Tryz.func273 Z PK PS PC hH h0 hc hH') ?_;refine mN Z<|zQ<|qR<|zM Z<|yS Z (am Z Z Z Z)<|nT<|LW.condF Z<|zk<|zT<|zR ?_;refine yS Z (aa.mark0 (P:=prog) (f:=269) (fn:=f269) Z Z Z Tryz.func269 Z Lb Ld K9) ?_;exact zN<|jf .none<|⟨rfl,rfl⟩
theorem NS (hH:bl H 0=some (.box cs))(h0:bl cs (off+0+0)=some (.p (.int .i32 1)))(hb:blt (off+0) cs.length=true)(hc:bH cs (off+0+0) (.p (.int .i32 0))=some cs')(hH':bH H 0 (.box cs')=some H'):LH prog 261 [.ptr 0 off] H H':=by
 refine LH.start (by kernel_rfl) Tryz.func261 Z Z Z (R:=Is (.tup []) H') (fun _ _ h=>h.2) ?_;exact zR<|zM Z<|yS Z (zn Z Z)<|yS Z (zA Z Z Dl)<|yS Z (yC Z Z Z (QK hH h0 hb hc hH'))<|zN<|jf .none<|⟨rfl,rfl⟩
theorem NQ {n m:Int}(hH:bl H 0=some (.box cs))(h0:bl cs (off+0)=some (iQ n))(hc:bH cs (off+0) (.p (.int .i64 (i64.wrap (n+m))))=some cs')(hH':bH H 0 (.box cs')=some H'):LC prog 249 [.ptr 0 off,(iQ m)] H (Is (.p (.int .i64 (i64.wrap (n+m)))) H'):=by
 refine eP Tryz.func249 Z Z Z ?_;refine qR<|mN Z<|qR<|zM Z<|yS Z (zn Z Z)<|yS Z (zA Z Z Dq)<|zM Z ?_;refine yS Z (aa.atomAdd (P:=prog) (f:=257) (fn:=f257) Z Z Z Tryz.func257 Z PE PM Pw hH h0 hc hH') ?_;exact mN Z<|LW.ret<|aD (.one (.tmp Z))<|⟨rfl,rfl⟩
theorem Qj {n:Int}(hH:bl H 0=some (.box cs))(h0:bl cs (off+0)=some (iQ n)):LC prog 197 [.ptr 0 off] H (Is (iQ n) H):=by
 refine eP Tryz.func197 Z Z Z ?_;refine qR<|mN Z<|qR<|zM Z<|yS Z (zn Z Z)<|yS Z (zA Z Z Dq) ?_;refine yS Z (aa.atomLoad (P:=prog) (f:=225) (fn:=f225) Z Z Z Tryz.func225 Z PD PL Pv hH h0) ?_;exact mN Z<|LW.ret<|aD (.one (.tmp Z))<|⟨rfl,rfl⟩
def en (seed n r:Int):Int:=i64.wrap ((step seed (u64.wrap r)).tmod (u64.wrap n))
def nX (seed r:Int):Int:=step seed (u64.wrap (i64.wrap (1000+r)))
theorem QC {seed n r:Int}(hs:bl cs (0+0)=some (uQ seed))(hn:bl cs (0+1)=some (iQ n))(hz:u64.wrap n≠0)
  (hs1:bl cs1 (0+0)=some (uQ seed)) (hc1:bH cs (q+3) (.p (.int .i64 (en seed n r)))=some cs1) (hc2:bH cs1 (q+4) (.p (.int .u64 (nX seed r)))=some cs2) :
  LC prog 248 [.ptr 1 0,.ptr 2 0,.ptr 3 0] [.box cs,.box [.ptr 0 0],.box [(iQ r)],.box [.ptr 0 q]] (Is (.tup []) [.box cs2,.box [.ptr 0 0],.box [(iQ r)],.box [.ptr 0 q]]):=by
 refine eP Tryz.func248 Z Z Z ?_;refine zQ<|fC<|yF Z (zd Z Z Z tc Z Z) Z<|yF Z (zd Z Z Z vl Z Z) Z<|yG Z (fun H _=>zn Z Z)<|yG Z (fun H _=>zA Z Z Dr)<|yF Z (ch.load1 Z Z Z iV hs) Z<|yF Z (zd Z Z Z aV Z Z) Z<|yG Z (fun H _=>aa.convert (k':=.u64) Z Z (by kernel_rfl)) ?_;refine yF (F:=[]) (s:=none) Z (fun H _=>zC Z Z Z (by kernel_rfl) (zp (z8 (h:=seed) (x:=(u64.wrap (r)))) bR)) Z ?_;refine yF Z (zd Z Z Z vl Z Z) Z<|yG Z (fun H _=>zn Z Z)<|yG Z (fun H _=>zA Z Z xi)<|yF Z (ch.load1 Z Z Z aV hn) Z<|yG Z (fun H _=>aa.convert (k':=.u64) Z Z (by kernel_rfl))<|yG Z (fun H _=>aa.rem Z Z Z hz)<|yG Z (fun H _=>aa.convert (k':=.i64) Z Z (by kernel_rfl))<|yG Z (fun H _=>zn Z Z)<|yG Z (fun H _=>zA Z Z Do)<|yF Z (ch.store1 Z Z Z Z aV Z hc1) Z ?_;refine LF.nil ⟨by kernel_rfl,?_⟩;refine zT<|fC<|yF Z (zd Z Z Z tc Z Z) Z<|yF Z (zd Z Z Z vl Z Z) Z<|yG Z (fun H _=>zn Z Z)<|yG Z (fun H _=>zA Z Z Dr)<|yF Z (ch.load1 Z Z Z iV hs1) Z<|yF Z (zd Z Z Z aV Z Z) Z<|yG Z (fun H _=>am Z Z Z Z)<|yG Z (fun H _=>aa.convert (k':=.u64) Z Z (by kernel_rfl)) ?_;refine yF (F:=[]) (s:=none) Z (fun H _=>zC Z Z Z (by kernel_rfl) (zp (z8 (h:=seed) (x:=(u64.wrap (i64.wrap (1000+r))))) bR)) Z ?_;refine yG Z (fun H _=>zn Z Z)<|yG Z (fun H _=>zA Z Z Dp)<|yF Z (ch.store1 Z Z Z Z iV Z hc2) Z ?_;refine LF.nil ⟨by kernel_rfl,?_⟩;exact jf .none<|⟨rfl,rfl⟩
abbrev Ib :LV:=.fn 248 [] [.ptr 1 0,.ptr 2 0,.ptr 3 0]
theorem QH {seed n r:Int}(hm:bl cs (q+0+1+0+0)=some (.p (.int .i32 0)))(hA:bH cs (q+0+1+0+0) (.p (.int .i32 1))=some csA)(hAb:blt (q+0+1+0) csA.length=true)
  (hd:bl csA (q+0+0+0)=some (.p (.int .u32 0))) (hs:bl csA (0+0)=some (uQ seed)) (hn:bl csA (0+1)=some (iQ n)) (hz:u64.wrap n≠0)
  (hs1:bl cs1 (0+0)=some (uQ seed)) (hc1:bH csA (q+3) (.p (.int .i64 (en seed n r)))=some cs1) (hc2:bH cs1 (q+4) (.p (.int .u64 (nX seed r)))=some cs2)
  (hD:bH cs2 (q+0+0+0) (.p (.int .u32 1))=some csD) (hDm:bl csD (q+0+1+0+0)=some (.p (.int .i32 1))) (hDb:blt (q+0+1+0) csD.length=true) (hE:bH csD (q+0+1+0+0) (.p (.int .i32 0))=some csE) :
  LC prog 256 [.ptr 0 (q+0),Ib] [.box cs,.box [.ptr 0 0],.box [(iQ r)],.box [.ptr 0 q]] (Is (.tup []) [.box csE,.box [.ptr 0 0],.box [(iQ r)],.box [.ptr 0 q]]):=by
 refine LC.ofD Tryz.func256 Z Z Z Z ?_;exact vv.seq<|vv.region<|db.st Z Z Z (zm Z Z)<|db.st Z Z Z (zn Z Z)<|db.st Z Z Z (zA Z Z Dm)<|db.st Z Z Z (yC Z Z Z (QI (off:=q+0+1) Z hm hA Z hAb))<|db.nil<|vv.seq<|vv.region<|db.st Z Z Z (zm Z Z)<|db.st Z Z Z (zn Z Z)<|db.st Z Z Z (zA Z Z Dm)<|db.defer Z Z Z Z Z<|db.nil<|vv.seq<|vv.region<|db.st Z Z Z (zm Z Z)<|db.st Z Z Z (zn Z Z)<|db.st Z Z Z (zA Z Z tz)<|db.st Z Z Z (yC Z Z Z (L3 (off:=q+0+0) (n:=0) Z hd))<|db.st Z Z Z (aa.not Z Z)<|db.nil<|vv.condT Z<|vv.seq<|vv.region<|db.st Z Z Z (zm Z Z)<|db.st Z Z Z (zn Z Z)<|db.st Z Z Z (zA Z Z tz)<|db.defer Z Z Z Z Z<|db.nil<|vv.region<|db.st Z Z Z (zm Z Z)<|db.st Z Z Z (yC Z Z Z (QC hs hn hz hs1 hc1 hc2))<|db.nil<|⟨.inl rfl,.cons (NT (off:=q+0+0) Z hD Z) (.cons (NS (off:=q+0+1) Z hDm hDb hE Z) .nil)⟩
theorem NP {seed n r:Int}(hd0:bl cs (q+0+0+0)=some (.p (.int .u32 0)))(hm:bl cs (q+0+1+0+0)=some (.p (.int .i32 0)))(hA:bH cs (q+0+1+0+0) (.p (.int .i32 1))=some csA)(hAb:blt (q+0+1+0) csA.length=true)
  (hd:bl csA (q+0+0+0)=some (.p (.int .u32 0))) (hs:bl csA (0+0)=some (uQ seed)) (hn:bl csA (0+1)=some (iQ n)) (hz:u64.wrap n≠0)
  (hs1:bl cs1 (0+0)=some (uQ seed)) (hc1:bH csA (q+3) (.p (.int .i64 (en seed n r)))=some cs1) (hc2:bH cs1 (q+4) (.p (.int .u64 (nX seed r)))=some cs2)
  (hD:bH cs2 (q+0+0+0) (.p (.int .u32 1))=some csD) (hDm:bl csD (q+0+1+0+0)=some (.p (.int .i32 1))) (hDb:blt (q+0+1+0) csD.length=true) (hE:bH csD (q+0+1+0+0) (.p (.int .i32 0))=some csE):LC prog 247 [.ptr 0 (q+0),Ib] [.box cs,.box [.ptr 0 0],.box [(iQ r)],.box [.ptr 0 q]] (Is (.tup []) [.box csE,.box [.ptr 0 0],.box [(iQ r)],.box [.ptr 0 q]]):=by
 refine eP Tryz.func247 Z Z Z ?_;exact qR<|zM Z<|yS Z (zn Z Z)<|yS Z (zA Z Z tz)<|yS Z (yC Z Z Z (L3 (off:=q+0+0) (n:=0) Z hd0))<|yS Z (aa.not Z Z)<|nT<|LW.condT Z<|zR<|zM Z<|zM Z<|yS Z (yC Z Z Z (QH hm hA hAb hd hs hn hz hs1 hc1 hc2 hD hDm hDb hE))<|zN<|jf .none<|⟨rfl,rfl⟩
theorem NO (hd:bl cs (q+0+0+0)=some (.p (.int .u32 1))):LC prog 247 [.ptr 0 (q+0),Ib] [.box cs,.box [.ptr 0 0],.box [(iQ r)],.box [.ptr 0 q]] (Is (.tup []) [.box cs,.box [.ptr 0 0],.box [(iQ r)],.box [.ptr 0 q]]):=by
 refine eP Tryz.func247 Z Z Z ?_;exact qR<|zM Z<|yS Z (zn Z Z)<|yS Z (zA Z Z tz)<|yS Z (yC Z Z Z (L3 (off:=q+0+0) (n:=1) Z hd))<|yS Z (aa.not Z Z)<|nT<|LW.condF Z<|zk<|jf .none<|⟨rfl,rfl⟩
def kU (seed n r:Int)(b:Bool):List LV:=
 [.p (.int .u32 (cond b 1 0)),.p (.int .i32 0),.p (.int .u32 0),.p (.int .i64 (cond b (en seed n r) 0)),.p (.int .u64 (cond b (nX seed r) 0))]
def Ah (seed n:Int)(f:Nat->Bool)(k:Int):List LV:=
 (uQ seed)::(iQ n)::(kU seed n 0 (f 0)++(kU seed n 1 (f 1)++(kU seed n 2 (f 2)++(kU seed n 3 (f 3)++(kU seed n 4 (f 4)++(kU seed n 5 (f 5)++(kU seed n 6 (f 6)++(kU seed n 7 (f 7)++(kU seed n 8 (f 8)++(kU seed n 9 (f 9)++[(iQ k)]))))))))))
def E3 (f:Nat->Bool)(i:Nat):Nat->Bool:=fun j=>cond (beq j i) true (f j)
def Mr (f:Nat->Bool)(i:Nat):Nat->Bool:=fun j=>cond (beq j i) false (f j)
theorem DK {f:Nat->Bool}{i:Nat}(h:f i=true):E3 f i=f:=by
 funext j;unfold E3
 cases e:beq j i with
 |false=>rfl
 |true=>rw[Nat.eq_of_beq_eq_true e,h];rfl
theorem JP {f:Nat->Bool}{i:Nat}(h:f i=false):Mr f i=f:=by
 funext j;unfold Mr
 cases e:beq j i with
 |false=>rfl
 |true=>rw[Nat.eq_of_beq_eq_true e,h];rfl
structure Dk where
 f:Nat->Bool
 k:Int
def kA (seed n:Int)(d:Dk):List LV:=Ah seed n d.f d.k
def Dk.turned (d:Dk)(r:Int):Dk:=⟨E3 d.f r.toNat,i64.wrap (d.k+1)⟩
def vg (n r:Int):Bool:=decide (n≠0/\u64.wrap n≠0/\0<=r/\r<10)
theorem iv {n r:Int}(h:vg n r=true):n≠0/\u64.wrap n≠0/\0<=r/\r<10:=of_decide_eq_true h
theorem NJ {seed n r:Int}(hd0:bl cs ((2+r.toNat*5)+0+0+0)=some (.p (.int .u32 0)))(hm:bl cs ((2+r.toNat*5)+0+1+0+0)=some (.p (.int .i32 0)))(hA:bH cs ((2+r.toNat*5)+0+1+0+0) (.p (.int .i32 1))=some csA)(hAb:blt ((2+r.toNat*5)+0+1+0) csA.length=true)
  (hd:bl csA ((2+r.toNat*5)+0+0+0)=some (.p (.int .u32 0))) (hs:bl csA (0+0)=some (uQ seed)) (hn:bl csA (0+1)=some (iQ n)) (hz:u64.wrap n≠0)
  (hs1:bl cs1 (0+0)=some (uQ seed)) (hc1:bH csA ((2+r.toNat*5)+3) (.p (.int .i64 (en seed n r)))=some cs1) (hc2:bH cs1 ((2+r.toNat*5)+4) (.p (.int .u64 (nX seed r)))=some cs2)
  (hD:bH cs2 ((2+r.toNat*5)+0+0+0) (.p (.int .u32 1))=some csD) (hDm:bl csD ((2+r.toNat*5)+0+1+0+0)=some (.p (.int .i32 1))) (hDb:blt ((2+r.toNat*5)+0+1+0) csD.length=true) (hE:bH csD ((2+r.toNat*5)+0+1+0+0) (.p (.int .i32 0))=some csE) {k:Int} (hr0:0<=r) (hr1:r<10) (hk:bl csE (0+52+0)=some (iQ k)) (hF:bH csE (0+52+0) (.p (.int .i64 (i64.wrap (k+1))))=some csF) (hl:LV.lowsB 1 csF=true):LC prog 234 [.ptr 0 0,(iQ r)] [.box cs] (Is (.ptr 0 (2+r.toNat*5)) [.box csF]):=by
 refine eP Tryz.func234 Z Z Z ?_;refine qR<|yS Z (bv Z Z Z Z Z)<|yS Z (bv Z Z Z Z Z)<|mN Z<|zQ<|LW.ent (bW.slot Z)<|fC<|yF Z (zd Z Z Z vl Z Z) Z<|yF Z (zd Z Z Z aV Z Z) Z<|yG Z (fun H _=>zn Z Z)<|yG Z (fun H _=>zA Z Z Ds)<|yG Z (fun H _=>aa.indexAddrA Z Z Z Kr hr0 hr1)<|yF Z (ch.alloc Z Lg (id:=3) Z) Z<|yF Z (zt Z Z Z Z tc Z Z Z) Z ?_;refine LF.nil ⟨by kernel_rfl,?_⟩;refine zT<|qR<|yS Z (zD Z Z Z tc Z Z)<|yS Z (zn Z Z)<|yS Z (zA Z Z Dn)<|yS Z (aa.makeFunc Z Z Z)<|yS Z (yC Z Z Z (NP (q:=(2+r.toNat*5)) hd0 hm hA hAb hd hs hn hz hs1 hc1 hc2 hD hDm hDb hE))<|nT<|qR<|yS Z (zD Z Z Z vl Z Z)<|yS Z (zn Z Z)<|yS Z (zA Z Z xj)<|yS Z (yC Z Z Z (NQ (off:=0+52) Z hk hF Z))<|nT<|qR<|yS Z (zD Z Z Z tc Z Z)<|mN Z<|zr ?_;refine bN (env':=[(4,.ptr 0 (2+r.toNat*5))]) (H':=[.box csF]) (zW 1 ⟨Z,t_⟩ Z Z Z (zL hl Z)) (.one (.tmp Z)) ⟨rfl,rfl⟩
theorem NI (hd:bl cs ((2+r.toNat*5)+0+0+0)=some (.p (.int .u32 1))){k:Int}(hr0:0<=r)(hr1:r<10)(hk:bl cs (0+52+0)=some (iQ k))(hF:bH cs (0+52+0) (.p (.int .i64 (i64.wrap (k+1))))=some csF)(hl:LV.lowsB 1 csF=true):LC prog 234 [.ptr 0 0,(iQ r)] [.box cs] (Is (.ptr 0 (2+r.toNat*5)) [.box csF]):=by
 refine eP Tryz.func234 Z Z Z ?_;refine qR<|yS Z (bv Z Z Z Z Z)<|yS Z (bv Z Z Z Z Z)<|mN Z<|zQ<|LW.ent (bW.slot Z)<|fC<|yF Z (zd Z Z Z vl Z Z) Z<|yF Z (zd Z Z Z aV Z Z) Z<|yG Z (fun H _=>zn Z Z)<|yG Z (fun H _=>zA Z Z Ds)<|yG Z (fun H _=>aa.indexAddrA Z Z Z Kr hr0 hr1)<|yF Z (ch.alloc Z Lg (id:=3) Z) Z<|yF Z (zt Z Z Z Z tc Z Z Z) Z ?_;refine LF.nil ⟨by kernel_rfl,?_⟩;refine zT<|qR<|yS Z (zD Z Z Z tc Z Z)<|yS Z (zn Z Z)<|yS Z (zA Z Z Dn)<|yS Z (aa.makeFunc Z Z Z)<|yS Z (yC Z Z Z (NO (q:=(2+r.toNat*5)) hd))<|nT<|qR<|yS Z (zD Z Z Z vl Z Z)<|yS Z (zn Z Z)<|yS Z (zA Z Z xj)<|yS Z (yC Z Z Z (NQ (off:=0+52) Z hk hF Z))<|nT<|qR<|yS Z (zD Z Z Z tc Z Z)<|mN Z<|zr ?_;refine bN (env':=[(4,.ptr 0 (2+r.toNat*5))]) (H':=[.box csF]) (zW 1 ⟨Z,t_⟩ Z Z Z (zL hl Z)) (.one (.tmp Z)) ⟨rfl,rfl⟩
theorem HF {seed n r k:Int}{f:Nat->Bool}(hz:u64.wrap n≠0)(hr0:0<=r)(hr1:r<10) :
  LC prog 234 [.ptr 0 0,(iQ r)] [.box (Ah seed n (Mr f r.toNat) k)] (Is (.ptr 0 (2+r.toNat*5)) [.box (Ah seed n (E3 f r.toNat) (i64.wrap (k+1)))]):=by
 have hc:r=0\/r=1\/r=2\/r=3\/r=4\/r=5\/r=6\/r=7\/r=8\/r=9:=by omega
 rcases hc with rfl|rfl|rfl|rfl|rfl|rfl|rfl|rfl|rfl|rfl
 all_goals exact NJ (seed:=seed) (n:=n) rfl rfl rfl rfl rfl rfl rfl hz rfl rfl rfl rfl rfl rfl rfl hr0 hr1 rfl rfl rfl
theorem HE {seed n r k:Int}{f:Nat->Bool}(hr0:0<=r)(hr1:r<10) :
  LC prog 234 [.ptr 0 0,(iQ r)] [.box (Ah seed n (E3 f r.toNat) k)] (Is (.ptr 0 (2+r.toNat*5)) [.box (Ah seed n (E3 f r.toNat) (i64.wrap (k+1)))]):=by
 have hc:r=0\/r=1\/r=2\/r=3\/r=4\/r=5\/r=6\/r=7\/r=8\/r=9:=by omega
 rcases hc with rfl|rfl|rfl|rfl|rfl|rfl|rfl|rfl|rfl|rfl
 all_goals exact NI rfl hr0 hr1 rfl rfl rfl
theorem Qv {seed n r:Int}{d:Dk}(h:vg n r=true):LC prog 234 [.ptr 0 0,(iQ r)] [.box (kA seed n d)] (Is (.ptr 0 (2+r.toNat*5)) [.box (kA seed n (d.turned r))]):=by
 obtain⟨-,h1,h2,h3⟩:=iv h
 cases hf:d.f r.toNat with
 |true=>
  have:=HE (seed:=seed) (n:=n) (k:=d.k) (f:=d.f) h2 h3;rw[DK hf]at this;unfold kA Dk.turned;rw[DK hf];exact this
 |false=>
  have:=HF (seed:=seed) (n:=n) (k:=d.k) (f:=d.f) h1 h2 h3;rw[JP hf]at this;exact this
theorem BO {seed n r:Int}{d:Dk}(hr0:0<=r)(hr1:r<10):bl (kA seed n (d.turned r)) (2+r.toNat*5+3)=some (.p (.int .i64 (en seed n r))):=by
 have hc:r=0\/r=1\/r=2\/r=3\/r=4\/r=5\/r=6\/r=7\/r=8\/r=9:=by omega
 rcases hc with rfl|rfl|rfl|rfl|rfl|rfl|rfl|rfl|rfl|rfl
 all_goals rfl
theorem Ey {seed n r:Int}{d:Dk}(hr0:0<=r)(hr1:r<10):bl (kA seed n (d.turned r)) (2+r.toNat*5+4)=some (.p (.int .u64 (nX seed r))):=by
 have hc:r=0\/r=1\/r=2\/r=3\/r=4\/r=5\/r=6\/r=7\/r=8\/r=9:=by omega
 rcases hc with rfl|rfl|rfl|rfl|rfl|rfl|rfl|rfl|rfl|rfl
 all_goals rfl
def fw (seed n r i:Int):Int:=(i64.wrap (i64.wrap (en seed n r+n)-i)).tmod n
def vf (seed n r i:Int):Bool:=bits .and .u64 (step (nX seed r) (u64.wrap (if fw seed n r i>i then fw seed n r i else i))) 1==1
def nZ (seed n r i:Int):Int:=bif vf seed n r i then fw seed n r i else i
theorem Qi {seed n r i:Int}{d:Dk}(h:vg n r=true):LC prog 224 [.ptr 0 0,(iQ r),(iQ i)] [.box (kA seed n d)] (Is (.p (.int .i64 (nZ seed n r i))) [.box (kA seed n (d.turned r))]):=by
 refine eP Tryz.func224 Z Z Z ?_;refine qR<|mN Z<|qR<|zM Z<|zM Z<|yS Z (yC Z Z Z (Qv h))<|mN Z<|zQ<|dy<|zH Z<|yE Z (zn Z Z)<|yE Z (zA Z Z Do)<|yE Z (aa.load1 Z Z Z aV (BO (iv h).2.2.1 (iv h).2.2.2))<|zH Z<|yE Z (zn Z Z)<|yE Z (zA Z Z xi)<|yE Z (aa.load1 Z Z Z aV Z)<|yE Z (am Z Z Z Z)<|zH Z<|yE Z (am Z Z Z Z)<|zH Z<|yE Z (zn Z Z)<|yE Z (zA Z Z xi)<|yE Z (aa.load1 Z Z Z aV Z)<|yE Z (aa.rem Z Z Z (iv h).1)<|zH Z<|LO.nil<|zT<|zQ<|qR<|zM Z<|yS Z (zn Z Z)<|yS Z (zA Z Z Dp)<|yS Z (aa.load1 Z Z Z iV (Ey (iv h).2.2.1 (iv h).2.2.2))<|zM Z<|zM Z<|yS Z (aa.max Z Z Z)<|yS Z (aa.convert (k':=.u64) Z Z (by kernel_rfl))<|yS Z (zC Z Z Z (by kernel_rfl) (zp (z8 (h:=(nX seed r)) (x:=(u64.wrap (if (fw seed n r i)>i then(fw seed n r i)else i)))) bR))<|yS Z (am Z Z Z Z)<|yS Z (am Z Z Z Z)<|nT ?_;refine zX Z (fun g1=>?_)<|fun g1=>?_
 ·exact qR<|zM Z<|mN Z<|zr<|af<|aD (.one (.tmp Z))<|⟨by unfold nZ vf;rw[g1];rfl,rfl⟩
 ·exact zk<|zT<|qR<|zM Z<|mN Z<|zr<|aD (.one (.tmp Z))<|⟨by unfold nZ vf;rw[g1];rfl,rfl⟩
def few (l:List Bk):Bool:=decide (l.length<=1000)
theorem BP {l:List Bk}(h:few l=true):l.length<=1000:=of_decide_eq_true h
def MT (l:List Bk):Option Bool:=
 (match places l with
 |none=>
  some false
 |some _=>
  some true)
theorem Ra {l:List Bk}{r_:Bool}(h:MT l=some r_):aq prog 190 [.slice 5 (l.map ay)] [.bool r_]:=by
 refine zh Tryz.func190 Z Z Z Z ?_;unfold MT at h;refine qR<|mN Z<|qR<|zM Z ?_;rcases h_f1:places l with _|m_
 ·rw[h_f1]at h;simp only at h;refine yS Z (yC Z Z Z (OF h_f1))<|zM Z<|yS Z (eZ Z Z Z)<|yS Z (eZ Z Z Z)<|zM Z<|mN Z<|qR<|zM Z<|mN Z<|zr ?_;cases h;exact ba Z
 ·rw[h_f1]at h;simp only at h;refine yS Z (yC Z Z Z (OG h_f1 Z Z Z))<|zM Z<|yS Z (eZ Z Z Z)<|yS Z (eZ Z Z Z)<|zM Z<|mN Z<|qR<|zM Z<|mN Z<|zr ?_;cases h;exact ba Z
structure nl where
 t13:Int
 out:List ID
def rF (l:List Bk)(id:ID)(x1:nl):Option (nl⊕nl):=bif decide (x1.t13<(l.length:Int))then (ix l x1.t13).bind fun y1=>bif ((y1.Parent.1==id.1)&&((y1.Parent.2==id.2)&&true))then bif bG x1.out.length [nm y1].length 16 then some (.inl (nl.mk (i64.wrap (x1.t13+1)) (x1.out++[nm y1])))else none else some (.inl (nl.mk (i64.wrap (x1.t13+1)) x1.out))else some (.inr (nl.mk x1.t13 x1.out))
def M8 (l:List Bk)(id:ID):Option (List ID):=(MT l).bind fun v1=>bif !v1 then some [] else (iter (rF l id) aY (nl.mk 0 ([]:List ID))).bind fun v2=>some v2.out
theorem Rq {l:List Bk}{id:ID}{r_:(List ID)}(h:M8 l id=some r_):aq prog 178 [.slice 5 (l.map ay),aX id] [.slice 2 (r_.map aX)]:=by
 refine zh Tryz.func178 Z Z Z Z ?_;unfold M8 at h;refine qR<|yS Z (bv Z Z Z Z Z)<|mN Z<|zQ<|qR<|zM Z<|zb h fun v1 a1 h=>yS Z (yP Z Z Z (Ra a1) dB)<|yS Z (aa.not Z Z)<|nT ?_;refine zX Z (fun g1=>?_)<|fun g1=>?_
 ·refine zi g1 h fun h=>qR<|mN Z<|LW.ret<|af ?_;cases h;exact zf (.one (.tmp Z)) Conv.zs
 ·refine zo g1 h fun h=>zk<|zT<|qR<|mN Z<|zQ<|qR<|zM Z<|yS Z (cx Z Z)<|mN Z<|LW.ent (bW.lazy (t:=5) (m:=2) Z Z Z) ?_;obtain⟨v2,p2,b2⟩:=zB h;clear h;refine LW.tail (E:=[(4,.zs),(5,.vec 2 1 (v2.out.map aX).length 0 (v2.out.map aX).length)]) (O:=[.box [(uQ id.1),(uQ id.2)],.vec 2 (v2.out.map aX)]) ?_<|fun e2 K2 u2=>?_
  ·refine LW.block ?_;refine LW.iterB (E:=fun x1:nl=>[(3,.ptr 0 0),(4,.zs),(5,.vec 2 1 (x1.out.map aX).length 0 (x1.out.map aX).length),(11,(kB l)),(12,.p (.int .i64 (l.length:Int))),(13,(iQ x1.t13))]) (O:=fun x1=>[.box [(uQ id.1),(uQ id.2)],.vec 2 (x1.out.map aX)]) p2 (au 2 ⟨Z,Z,Z,Z,Z,Z,t_⟩)<|fun x1 z1 h m1=>?_;unfold rF at h;refine qR<|yS Z (am Z Z Z Z)<|nT<|zQ ?_;refine zX Z (fun g2=>?_)<|fun g2=>?_
   ·refine zi g2 h fun h=>zk<|zT<|zQ<|zl<|qR<|zb h fun y1 j1 h=>yS Z (zx Z Z Z cp j1 Z)<|yS Z (bS Z Z Z ca Z Z)<|yS Z (ze Z vt Z Z)<|yS Z (zs Z Z Z Z ca Z Z Z Z)<|nT<|qR<|yS Z (zA Z Z gv)<|yS Z (zD Z Z Z aG Z Z)<|yS Z (zD Z Z Z aG Z Z)<|yS Z (aa.eqlAgg Z Z Z Z Z gY)<|nT ?_;refine zX Z (fun g3=>?_)<|fun g3=>?_
    ·refine zi g3 h fun h=>zR<|zM Z<|yS Z (zD Z Z Z ca Z Z)<|yS Z (yP Z Z Z (M0 (b:=y1)) dB)<|yS Z (gU Z fH Z Z Z Z Z)<|zg h fun q1 h=>yS Z (aa.appendX aX x1.out [nm y1] rfl Z Z Z iC.p Z fH q1 Z)<|zM Z<|zN<|ae<|zT<|zR<|yS Z (am Z Z Z Z)<|mN Z ?_;cases h;exact⟨_,rfl,au 2 ⟨Z,Z,Z,Z,Z,Z,t_⟩⟩
    ·refine zo g3 h fun h=>zk<|ae<|zT<|zR<|yS Z (am Z Z Z Z)<|mN Z ?_;cases h;exact⟨_,rfl,au 2 ⟨Z,Z,Z,Z,Z,Z,t_⟩⟩
   ·refine zo g2 h fun h=>zq<|aj<|aj<|zy<|zT ?_;cases h;obtain rfl:=(m1 _ rfl);exact au 2 ⟨Z,Z,t_⟩
  ·have h:=b2;clear p2;refine zT<|LW.weak u2<|qR<|zM Z<|mN Z<|zr ?_;cases h;exact zf (.one (.tmp Z))<|(Conv.vecAll Z Z Z)
end Go.Mg
