/- What the logic needs to know of each type of the program. Conditions: none. -/
import Derived.Test.YtfbigoipfbiliaaGreatProg
import Derived.Test.YtfbigoipfbiliaaGreatX3
set_option maxRecDepth 100000
set_option linter.unusedSimpArgs false
set_option linter.unusedVariables false
namespace Go.Mg
open IntKind (i32 i64 u32 u64)
open Go.Proofs.Tryz (f225 f257 f259 f265 f267 f268 f269 f270 f272 f273 prog)
open List (getElem?_eq_getElem length length_map length_singleton)
open Nat (beq blt zero_le)
open Option (none_or)
open Int (toNat)
open Go.Proofs
variable {H H' : List ab} {cs cs' cs1 cs2 csA csD csE csF : List LV} {i r : Int} {off q : Nat} {xs : List PV}
section
variable {w : World}
theorem qa :p9 prog 32=some (2,1,false):=by kernel_rfl
theorem A5 :p9 prog 79=some (3,1,false):=by kernel_rfl
theorem JD :p9 prog 230=some (10,5,true):=by kernel_rfl
theorem Gp :p9 prog 247=some (2,1,false):=by kernel_rfl
theorem fJ :p9 prog 252=some (4,1,false):=by kernel_rfl
theorem Po :cO prog 25=some ([LV.zs,LV.p (PV.int u64 0),LV.p (PV.int i64 0),LV.p (PV.int i64 0),LV.p (PV.int i64 0)],[(0,1),(1,1),(2,1),(3,1),(4,1)]):=by kernel_rfl
theorem nh :cO prog 29=some ([LV.zs,LV.zs],[(0,1),(1,1)]):=by kernel_rfl
theorem ng :cO prog 32=some ([LV.p (PV.int u64 0),LV.p (PV.int u64 0)],[(0,1),(1,1)]):=by kernel_rfl
theorem Pn :cO prog 34=some ([LV.p (PV.int u64 0),LV.p (PV.int u64 0),LV.p (PV.int i64 0),LV.p (PV.int i64 0)],[(0,2),(2,1),(3,1)]):=by kernel_rfl
theorem wz :cO prog 36=some ([LV.p (PV.int i64 0),LV.p (PV.int i64 0),LV.zs,LV.zs,LV.zs,LV.zs,LV.zs,LV.p (PV.int u64 0),LV.p (PV.int u64 0),LV.p (PV.int i64 0),LV.p (PV.int i64 0),LV.p (PV.bool false)],[(0,1),(1,1),(2,2),(4,2),(6,1),(7,4),(11,1)]):=by kernel_rfl
theorem wy :cO prog 52=some ([LV.zs,LV.p (PV.int u64 0),LV.p (PV.int i64 0),LV.p (PV.int i64 0),LV.p (PV.int i64 0),LV.zs,LV.p (PV.int i64 0),LV.zs,LV.zs],[(0,5),(5,1),(6,1),(7,1),(8,1)]):=by kernel_rfl
theorem K8 :cO prog 65=some ([LV.p (PV.int i64 0),LV.p (PV.int i64 0),LV.p (PV.int u64 0),LV.p (PV.int u64 0),LV.p (PV.int u64 0)],[(0,1),(1,1),(2,2),(4,1)]):=by kernel_rfl
theorem wA :cO prog 67=some ([LV.p (PV.int i64 0),LV.p (PV.int i64 0),LV.p (PV.int i64 0),LV.p (PV.int i64 0),LV.p (PV.int u64 0),LV.p (PV.int u64 0),LV.p (PV.int u64 0),LV.zs,LV.zs],[(0,1),(1,1),(2,5),(7,2)]):=by kernel_rfl
theorem K2 :cO prog 71=some ([LV.p (PV.int i64 0),LV.p (PV.int i64 0),LV.zs,LV.zs,LV.zs,LV.zs,LV.zs,LV.p (PV.int u64 0),LV.p (PV.int u64 0),LV.p (PV.int i64 0),LV.p (PV.int i64 0),LV.p (PV.bool false),LV.zs,LV.p (PV.int u64 0),LV.p (PV.int i64 0),LV.p (PV.int i64 0),LV.p (PV.int i64 0),LV.p (PV.int i64 0),LV.zs],[(0,12),(12,5),(17,1),(18,1)]):=by kernel_rfl
theorem K3 :cO prog 79=some ([LV.any,LV.any,LV.any],[(0,1),(1,1),(2,1)]):=by kernel_rfl
theorem K7 :cO prog 93=some ([LV.zs,LV.p (PV.int u64 0),LV.p (PV.int i64 0),LV.p (PV.int i64 0),LV.p (PV.int i64 0),LV.zs,LV.p (PV.int i64 0),LV.zs,LV.zs,LV.zs,LV.zs,LV.p (PV.int i64 0),LV.p (PV.bool false),LV.any,LV.p (PV.int i64 0),LV.zs],[(0,9),(9,2),(11,1),(12,1),(13,1),(14,1),(15,1)]):=by kernel_rfl
theorem K9 :cO prog 111=some ([LV.p (PV.int i64 0),LV.p (PV.int i64 0),LV.p (PV.int u64 0),LV.p (PV.int u64 0)],[(0,1),(1,1),(2,2)]):=by kernel_rfl
theorem K4 :cO prog 153=some ([LV.any,LV.any],[(0,1),(1,1)]):=by kernel_rfl
theorem ME :cO prog 176=some ([LV.zs,LV.zs,LV.nilmap,LV.nilmap,LV.p (PV.int i64 0),LV.p (PV.bool false)],[(0,2),(2,1),(3,1),(4,1),(5,1)]):=by kernel_rfl
theorem K5 :cO prog 190=some ([LV.zs,LV.zs,LV.zs,LV.zs,LV.zs,LV.p (PV.bool false)],[(0,2),(2,2),(4,1),(5,1)]):=by kernel_rfl
theorem JE :cO prog 194=some ([LV.p (PV.int i64 0),LV.p (PV.int u64 0),LV.p (PV.int u64 0)],[(0,1),(1,2)]):=by kernel_rfl
theorem K1 :cO prog 199=some ([LV.nilmap,LV.nilmap],[(0,1),(1,1)]):=by kernel_rfl
theorem Gv :cO prog 202=some ([LV.p (PV.int i64 0),LV.p (PV.int i64 0)],[(0,1),(1,1)]):=by kernel_rfl
theorem MD :cO prog 235=some ([LV.p (PV.int u64 0),LV.p (PV.int i64 0),LV.p (PV.int u32 0),LV.p (PV.int i32 0),LV.p (PV.int u32 0),LV.p (PV.int i64 0),LV.p (PV.int u64 0),LV.p (PV.int u32 0),LV.p (PV.int i32 0),LV.p (PV.int u32 0),LV.p (PV.int i64 0),LV.p (PV.int u64 0),LV.p (PV.int u32 0),LV.p (PV.int i32 0),LV.p (PV.int u32 0),LV.p (PV.int i64 0),LV.p (PV.int u64 0),LV.p (PV.int u32 0),LV.p (PV.int i32 0),LV.p (PV.int u32 0),LV.p (PV.int i64 0),LV.p (PV.int u64 0),LV.p (PV.int u32 0),LV.p (PV.int i32 0),LV.p (PV.int u32 0),LV.p (PV.int i64 0),LV.p (PV.int u64 0),LV.p (PV.int u32 0),LV.p (PV.int i32 0),LV.p (PV.int u32 0),LV.p (PV.int i64 0),LV.p (PV.int u64 0),LV.p (PV.int u32 0),LV.p (PV.int i32 0),LV.p (PV.int u32 0),LV.p (PV.int i64 0),LV.p (PV.int u64 0),LV.p (PV.int u32 0),LV.p (PV.int i32 0),LV.p (PV.int u32 0),LV.p (PV.int i64 0),LV.p (PV.int u64 0),LV.p (PV.int u32 0),LV.p (PV.int i32 0),LV.p (PV.int u32 0),LV.p (PV.int i64 0),LV.p (PV.int u64 0),LV.p (PV.int u32 0),LV.p (PV.int i32 0),LV.p (PV.int u32 0),LV.p (PV.int i64 0),LV.p (PV.int u64 0),LV.p (PV.int i64 0)],[(0,1),(1,1),(2,50),(52,1)]):=by kernel_rfl
theorem K0 :cO prog 247=some ([LV.p (PV.int u64 0),LV.p (PV.int u64 0)],[(0,1),(1,1)]):=by kernel_rfl
theorem K6 :cO prog 252=some ([LV.p (PV.int i64 0),LV.p (PV.int i64 0),LV.p (PV.int i64 0),LV.p (PV.int i64 0)],[(0,1),(1,1),(2,1),(3,1)]):=by kernel_rfl
theorem gV :ni prog 32 2=true:=by kernel_rfl
theorem J6 :ni prog 34 4=true:=by kernel_rfl
theorem tW :ni prog 65 5=true:=by kernel_rfl
theorem yQ :ni prog 111 4=true:=by kernel_rfl
theorem LB :ni prog 194 3=true:=by kernel_rfl
theorem Ja :ni prog 202 2=true:=by kernel_rfl
theorem I9 :ni prog 247 2=true:=by kernel_rfl
theorem d3 :aB prog 25 0=some (0,1,false):=by kernel_rfl
theorem wN :aB prog 25 1=some (1,1,false):=by kernel_rfl
theorem kK :aB prog 25 2=some (2,1,false):=by kernel_rfl
theorem rE :aB prog 25 3=some (3,1,false):=by kernel_rfl
theorem kL :aB prog 25 4=some (4,1,false):=by kernel_rfl
theorem aK :aB prog 29 0=some (0,1,false):=by kernel_rfl
theorem aQ :aB prog 29 1=some (1,1,false):=by kernel_rfl
theorem mn :aB prog 34 0=some (0,2,true):=by kernel_rfl
theorem wM :aB prog 34 1=some (2,1,false):=by kernel_rfl
theorem Bl :aB prog 34 2=some (3,1,false):=by kernel_rfl
theorem dD :aB prog 36 0=some (0,1,false):=by kernel_rfl
theorem cv :aB prog 36 1=some (1,1,false):=by kernel_rfl
theorem bI :aB prog 36 2=some (2,2,true):=by kernel_rfl
theorem bp :aB prog 36 3=some (4,2,true):=by kernel_rfl
theorem bz :aB prog 36 4=some (6,1,false):=by kernel_rfl
theorem gJ :aB prog 36 5=some (7,4,true):=by kernel_rfl
theorem eJ :aB prog 36 6=some (11,1,false):=by kernel_rfl
theorem fm :aB prog 52 0=some (0,5,true):=by kernel_rfl
theorem cP :aB prog 52 1=some (5,1,false):=by kernel_rfl
theorem cU :aB prog 52 2=some (6,1,false):=by kernel_rfl
theorem bD :aB prog 52 3=some (7,1,false):=by kernel_rfl
theorem dZ :aB prog 52 4=some (8,1,false):=by kernel_rfl
theorem fK :aB prog 65 0=some (0,1,false):=by kernel_rfl
theorem rD :aB prog 65 1=some (1,1,false):=by kernel_rfl
theorem gt :aB prog 65 2=some (2,2,true):=by kernel_rfl
theorem GW :aB prog 65 3=some (4,1,false):=by kernel_rfl
theorem lA :aB prog 67 0=some (0,1,false):=by kernel_rfl
theorem lC :aB prog 67 1=some (1,1,false):=by kernel_rfl
theorem lD :aB prog 67 2=some (2,5,true):=by kernel_rfl
theorem fp :aB prog 67 3=some (7,2,true):=by kernel_rfl
theorem aI :aB prog 71 0=some (0,12,true):=by kernel_rfl
theorem jJ :aB prog 71 1=some (12,5,true):=by kernel_rfl
theorem dE :aB prog 71 2=some (17,1,false):=by kernel_rfl
theorem qr :aB prog 71 3=some (18,1,false):=by kernel_rfl
theorem y0 :aB prog 89 0=some (0,1,false):=by kernel_rfl
theorem qp :aB prog 89 1=some (1,1,false):=by kernel_rfl
theorem y9 :aB prog 89 2=some (2,1,false):=by kernel_rfl
theorem ly :aB prog 89 3=some (3,1,false):=by kernel_rfl
theorem lz :aB prog 89 4=some (4,1,false):=by kernel_rfl
theorem GV :aB prog 93 0=some (0,9,true):=by kernel_rfl
theorem ud :aB prog 93 1=some (9,2,true):=by kernel_rfl
theorem ue :aB prog 93 2=some (11,1,false):=by kernel_rfl
theorem zw :aB prog 93 3=some (12,1,false):=by kernel_rfl
theorem zE :aB prog 93 4=some (13,1,false):=by kernel_rfl
theorem zF :aB prog 93 5=some (14,1,false):=by kernel_rfl
theorem zP :aB prog 93 6=some (15,1,false):=by kernel_rfl
theorem ik :aB prog 111 0=some (0,1,false):=by kernel_rfl
theorem iZ :aB prog 111 1=some (1,1,false):=by kernel_rfl
theorem i2 :aB prog 111 2=some (2,2,true):=by kernel_rfl
theorem GT :aB prog 153 0=some (0,1,false):=by kernel_rfl
theorem GU :aB prog 153 1=some (1,1,false):=by kernel_rfl
theorem gp :aB prog 176 0=some (0,2,true):=by kernel_rfl
theorem og :aB prog 176 1=some (2,1,false):=by kernel_rfl
theorem sW :aB prog 176 2=some (3,1,false):=by kernel_rfl
theorem CS :aB prog 176 3=some (4,1,false):=by kernel_rfl
theorem sX :aB prog 176 4=some (5,1,false):=by kernel_rfl
theorem fZ :aB prog 190 0=some (0,2,true):=by kernel_rfl
theorem jK :aB prog 190 1=some (2,2,true):=by kernel_rfl
theorem nj :aB prog 190 2=some (4,1,false):=by kernel_rfl
theorem uc :aB prog 190 3=some (5,1,false):=by kernel_rfl
theorem qq :aB prog 194 0=some (0,1,false):=by kernel_rfl
theorem wL :aB prog 194 1=some (1,2,true):=by kernel_rfl
theorem ub :aB prog 199 0=some (0,1,false):=by kernel_rfl
theorem zj :aB prog 199 1=some (1,1,false):=by kernel_rfl
theorem zu :aB prog 202 0=some (0,1,false):=by kernel_rfl
theorem CJ :aB prog 221 1=some (0,1,false):=by kernel_rfl
theorem wI :aB prog 223 0=some (0,1,false):=by kernel_rfl
theorem CK :aB prog 225 1=some (0,2,true):=by kernel_rfl
theorem sV :aB prog 227 1=some (0,1,true):=by kernel_rfl
theorem CL :aB prog 227 2=some (1,2,true):=by kernel_rfl
theorem CM :aB prog 229 0=some (0,3,true):=by kernel_rfl
theorem CN :aB prog 229 1=some (3,1,false):=by kernel_rfl
theorem CO :aB prog 229 2=some (4,1,false):=by kernel_rfl
theorem CP :aB prog 233 2=some (0,1,false):=by kernel_rfl
theorem CQ :aB prog 235 0=some (0,1,false):=by kernel_rfl
theorem wJ :aB prog 235 1=some (1,1,false):=by kernel_rfl
theorem CR :aB prog 235 2=some (2,50,true):=by kernel_rfl
theorem wK :aB prog 235 3=some (52,1,true):=by kernel_rfl
theorem mO :eM prog 173=some (32,3,2,true):=by kernel_rfl
theorem Hi :eM prog 174=some (111,4,4,true):=by kernel_rfl
theorem Hg :eM prog 196=some (202,32,2,true):=by kernel_rfl
theorem Hh :eM prog 197=some (202,4,2,true):=by kernel_rfl
theorem Kf :eM prog 239=some (3,4,1,false):=by kernel_rfl
theorem Kg :eM prog 241=some (32,4,2,true):=by kernel_rfl
theorem dL :dn prog 22=some (1,8):=by kernel_rfl
theorem cw :dn prog 26=some (5,40):=by kernel_rfl
theorem bC :dn prog 27=some (4,32):=by kernel_rfl
theorem bq :dn prog 30=some (9,104):=by kernel_rfl
theorem dy :dn prog 50=some (12,176):=by kernel_rfl
theorem j7 :dn prog 53=some (5,72):=by kernel_rfl
theorem Ev :dn prog 106=some (1,8):=by kernel_rfl
theorem BL :dn prog 145=some (1,24):=by kernel_rfl
theorem fH :dn prog 155=some (2,16):=by kernel_rfl
theorem LS :dn prog 162=some (1,8):=by kernel_rfl
theorem aW :bl prog 3=some (1,false):=by kernel_rfl
theorem uS :bl prog 4=some (1,false):=by kernel_rfl
theorem Qi :bl prog 21=some (1,false):=by kernel_rfl
theorem dH :bl prog 22=some (1,false):=by kernel_rfl
theorem iT :bl prog 23=some (1,false):=by kernel_rfl
theorem be :bl prog 25=some (5,true):=by kernel_rfl
theorem bM :bl prog 26=some (1,false):=by kernel_rfl
theorem co :bl prog 27=some (1,false):=by kernel_rfl
theorem aG :bl prog 29=some (2,true):=by kernel_rfl
theorem bk :bl prog 30=some (1,false):=by kernel_rfl
theorem aF :bl prog 32=some (2,true):=by kernel_rfl
theorem gv :bl prog 34=some (4,true):=by kernel_rfl
theorem aM :bl prog 36=some (12,true):=by kernel_rfl
theorem cT :bl prog 50=some (1,false):=by kernel_rfl
theorem bB :bl prog 52=some (9,true):=by kernel_rfl
theorem HE :bl prog 53=some (1,false):=by kernel_rfl
theorem ce :bl prog 65=some (5,true):=by kernel_rfl
theorem eo :bl prog 67=some (9,true):=by kernel_rfl
theorem BS :bl prog 78=some (1,false):=by kernel_rfl
theorem LU :bl prog 79=some (3,true):=by kernel_rfl
theorem nC :bl prog 89=some (5,true):=by kernel_rfl
theorem HL :bl prog 91=some (1,false):=by kernel_rfl
theorem uT :bl prog 93=some (16,true):=by kernel_rfl
theorem cB :bl prog 111=some (4,true):=by kernel_rfl
theorem wg :bl prog 135=some (1,false):=by kernel_rfl
theorem LX :bl prog 151=some (1,false):=by kernel_rfl
theorem HK :bl prog 153=some (2,true):=by kernel_rfl
theorem HJ :bl prog 155=some (1,false):=by kernel_rfl
theorem HH :bl prog 170=some (1,false):=by kernel_rfl
theorem EB :bl prog 173=some (1,false):=by kernel_rfl
theorem Dc :bl prog 174=some (1,false):=by kernel_rfl
theorem sy :bl prog 194=some (3,true):=by kernel_rfl
theorem BR :bl prog 196=some (1,false):=by kernel_rfl
theorem HF :bl prog 197=some (1,false):=by kernel_rfl
theorem w7 :bl prog 199=some (2,true):=by kernel_rfl
theorem pC :bl prog 202=some (2,true):=by kernel_rfl
theorem uP :bl prog 215=some (1,false):=by kernel_rfl
theorem HG :bl prog 239=some (1,false):=by kernel_rfl
theorem HI :bl prog 241=some (1,false):=by kernel_rfl
theorem uR :bl prog 247=some (2,true):=by kernel_rfl
theorem BT :bl prog 252=some (4,true):=by kernel_rfl
theorem sA :bl prog 269=some (1,false):=by kernel_rfl
theorem Jz :mK prog 3=some (LV.p (PV.int i64 0)):=by kernel_rfl
theorem O3 :mK prog 4=some (LV.p (PV.bool false)):=by kernel_rfl
theorem Qk :mK prog 32=some (LV.p (PV.agg [PV.int u64 0,PV.int u64 0])):=by kernel_rfl
theorem QB :cL prog 3=some [LV.p (PV.int i64 0)]:=by kernel_rfl
theorem Ql :cL prog 22=some [LV.zs]:=by kernel_rfl
theorem Qm :cL prog 25=some [LV.zs,LV.p (PV.int u64 0),LV.p (PV.int i64 0),LV.p (PV.int i64 0),LV.p (PV.int i64 0)]:=by kernel_rfl
theorem Qn :cL prog 27=some [LV.zs]:=by kernel_rfl
theorem d5 :cL prog 29=some [LV.zs,LV.zs]:=by kernel_rfl
theorem gP :cL prog 32=some [LV.p (PV.int u64 0),LV.p (PV.int u64 0)]:=by kernel_rfl
theorem L0 :cL prog 34=some [LV.p (PV.int u64 0),LV.p (PV.int u64 0),LV.p (PV.int i64 0),LV.p (PV.int i64 0)]:=by kernel_rfl
theorem eU :cL prog 36=some [LV.p (PV.int i64 0),LV.p (PV.int i64 0),LV.zs,LV.zs,LV.zs,LV.zs,LV.zs,LV.p (PV.int u64 0),LV.p (PV.int u64 0),LV.p (PV.int i64 0),LV.p (PV.int i64 0),LV.p (PV.bool false)]:=by kernel_rfl
theorem ip :cL prog 52=some [LV.zs,LV.p (PV.int u64 0),LV.p (PV.int i64 0),LV.p (PV.int i64 0),LV.p (PV.int i64 0),LV.zs,LV.p (PV.int i64 0),LV.zs,LV.zs]:=by kernel_rfl
theorem uW :cL prog 65=some [LV.p (PV.int i64 0),LV.p (PV.int i64 0),LV.p (PV.int u64 0),LV.p (PV.int u64 0),LV.p (PV.int u64 0)]:=by kernel_rfl
theorem pE :cL prog 67=some [LV.p (PV.int i64 0),LV.p (PV.int i64 0),LV.p (PV.int i64 0),LV.p (PV.int i64 0),LV.p (PV.int u64 0),LV.p (PV.int u64 0),LV.p (PV.int u64 0),LV.zs,LV.zs]:=by kernel_rfl
theorem L1 :cL prog 79=some [LV.any,LV.any,LV.any]:=by kernel_rfl
theorem HT :cL prog 89=some [LV.p (PV.int i64 0),LV.p (PV.int i64 0),LV.p (PV.bool false),LV.zs,LV.zs]:=by kernel_rfl
theorem BZ :cL prog 93=some [LV.zs,LV.p (PV.int u64 0),LV.p (PV.int i64 0),LV.p (PV.int i64 0),LV.p (PV.int i64 0),LV.zs,LV.p (PV.int i64 0),LV.zs,LV.zs,LV.zs,LV.zs,LV.p (PV.int i64 0),LV.p (PV.bool false),LV.any,LV.p (PV.int i64 0),LV.zs]:=by kernel_rfl
theorem uX :cL prog 111=some [LV.p (PV.int i64 0),LV.p (PV.int i64 0),LV.p (PV.int u64 0),LV.p (PV.int u64 0)]:=by kernel_rfl
theorem O4 :cL prog 135=some [LV.any]:=by kernel_rfl
theorem HV :cL prog 153=some [LV.any,LV.any]:=by kernel_rfl
theorem O6 :cL prog 170=some [LV.any]:=by kernel_rfl
theorem Kt :cL prog 194=some [LV.p (PV.int i64 0),LV.p (PV.int u64 0),LV.p (PV.int u64 0)]:=by kernel_rfl
theorem BX :cL prog 199=some [LV.nilmap,LV.nilmap]:=by kernel_rfl
theorem HU :cL prog 202=some [LV.p (PV.int i64 0),LV.p (PV.int i64 0)]:=by kernel_rfl
theorem O5 :cL prog 239=some [LV.nilmap]:=by kernel_rfl
theorem O7 :cL prog 241=some [LV.nilmap]:=by kernel_rfl
theorem BW :cL prog 247=some [LV.p (PV.int u64 0),LV.p (PV.int u64 0)]:=by kernel_rfl
theorem BY :cL prog 252=some [LV.p (PV.int i64 0),LV.p (PV.int i64 0),LV.p (PV.int i64 0),LV.p (PV.int i64 0)]:=by kernel_rfl
theorem Ku :cL prog 269=some [LV.any]:=by kernel_rfl
end
abbrev ID :=Int×Int
def aX (p:ID):PV:=.agg [.int .u64 p.1,.int .u64 p.2]
def kE (x:Int):PV:=.int .u64 x
structure Bk where
 Slot:Int
 From:Int
 Parent:ID
 Salt:Int
 deriving DecidableEq
def aA (b:Bk):PV:=.agg [.int .i64 b.Slot,.int .i64 b.From,.int .u64 b.Parent.1,.int .u64 b.Parent.2,.int .u64 b.Salt]
structure Vt where
 From:Int
 Slot:Int
 Head:ID
 deriving DecidableEq
def aO (v:Vt):PV:=.agg [.int .i64 v.From,.int .i64 v.Slot,.int .u64 v.Head.1,.int .u64 v.Head.2]
structure Cf where
 W:List Int
 Seed:Int
 Epoch:Int
 Num:Int
 Den:Int
def gQ (c:Cf):PV:=.agg [.slice 1 (c.W.map bh),.int .u64 c.Seed,.int .i64 c.Epoch,.int .i64 c.Num,.int .i64 c.Den]
structure Vw where
 B:List Bk
 V:List Vt
def iB (v:Vw):PV:=.agg [.slice 5 (v.B.map aA),.slice 4 (v.V.map aO)]
structure Cu where
 ID:Go.Mg.ID
 Slot:Int
 Revoked:Int
 deriving DecidableEq
def sG (c:Cu):PV:=.agg [.int .u64 c.ID.1,.int .u64 c.ID.2,.int .i64 c.Slot,.int .i64 c.Revoked]
structure Rk where
 n:Int
 id:Go.Mg.ID
def QA (c:Rk):PV:=.agg [.int .i64 c.n,.int .u64 c.id.1,.int .u64 c.id.2]
theorem Od {a b:ID}{r:Bool}(h:dc [.int .u64 a.1,.int .u64 a.2] [.int .u64 b.1,.int .u64 b.2]=some r):r=decide (a=b):=by
 rw[tT]at h;cases h;obtain⟨x,y⟩:=a;obtain⟨z,w⟩:=b;simp only[Bool.and_true,Prod.mk.injEq];by_cases h1:x=z <;>by_cases h2:y=w <;>simp[h1,h2]
theorem f8 :gH aX 2 true:=⟨fun a b=>by
 obtain⟨x,y⟩:=a;obtain⟨z,w⟩:=b;simp only[aX,jP,tT,Bool.and_true,Prod.mk.injEq,Option.some.injEq]
 by_cases h1:x=z <;>by_cases h2:y=w <;>simp[h1,h2],fun _=>rfl⟩
theorem G2 :gH bh 1 false:=⟨fun a b=>by simp only[bh,jP,i1_,Option.some.injEq];by_cases h:a=b <;>simp[h],fun _=>rfl⟩
theorem Dd :gH aO 4 true:=⟨fun a b=>by
 obtain⟨a1,a2,a3⟩:=a;obtain⟨b1,b2,b3⟩:=b;simp only[aO,jP,dc,i1_,Option.some.injEq,Vt.mk.injEq];rw[Bool.eq_iff_iff];obtain⟨a3,a4⟩:=a3;obtain⟨b3,b4⟩:=b3
 simp,fun _=>rfl⟩
theorem ry (a b:ID):((a.1==b.1)&&((a.2==b.2)&&true))=decide (a=b):=by
 obtain⟨x,y⟩:=a;obtain⟨z,w⟩:=b;by_cases h1:x=z <;>by_cases h2:y=w <;>simp[h1,h2]
theorem GP (a b:Bk):((a.Slot==b.Slot)&&((a.From==b.From)&&((a.Parent.1==b.Parent.1)&&((a.Parent.2==b.Parent.2)&&((a.Salt==b.Salt)&&true)))))=decide (a=b):=by
 obtain⟨a1,a2,⟨a3,a4⟩,a5⟩:=a;obtain⟨b1,b2,⟨b3,b4⟩,b5⟩:=b;simp only[Bool.and_true,Bk.mk.injEq,Prod.mk.injEq];rw[Bool.eq_iff_iff];simp[and_assoc]
theorem GR (a b:Vt):((a.From==b.From)&&((a.Slot==b.Slot)&&((a.Head.1==b.Head.1)&&((a.Head.2==b.Head.2)&&true))))=decide (a=b):=by
 obtain⟨a1,a2,⟨a3,a4⟩⟩:=a;obtain⟨b1,b2,⟨b3,b4⟩⟩:=b;rw[Bool.eq_iff_iff];simp
theorem Qa (a b:Cu):((a.ID.1==b.ID.1)&&((a.ID.2==b.ID.2)&&((a.Slot==b.Slot)&&((a.Revoked==b.Revoked)&&true))))=decide (a=b):=by
 obtain⟨⟨a1,a2⟩,a3,a4⟩:=a;obtain⟨⟨b1,b2⟩,b3,b4⟩:=b;rw[Bool.eq_iff_iff];simp[and_assoc]
abbrev qc (c:Cf):List PV:=[.slice 1 (c.W.map bh),.int .u64 c.Seed,.int .i64 c.Epoch,.int .i64 c.Num,.int .i64 c.Den]
abbrev kB (l:List Bk):LV:=.p (.slice 5 (l.map aA))
abbrev kV (l:List Vt):LV:=.p (.slice 4 (l.map aO))
abbrev kI (l:List Int):LV:=.p (.slice 1 (l.map bh))
abbrev jB (i:Nat)(l:List Bk):LV:=.vec 5 i (l.map aA).length 0 (l.map aA).length
abbrev jV (i:Nat)(l:List Vt):LV:=.vec 4 i (l.map aO).length 0 (l.map aO).length
abbrev jI (i:Nat)(l:List Int):LV:=.vec 1 i (l.map bh).length 0 (l.map bh).length
abbrev mQ (m:List (ID×Int)):ab:=.map (ar aX (fun v=>.p (.int .i64 v)) m)
abbrev mR (m:List (Vt×Bool)):ab:=.map (ar aO (fun v=>.p (.bool v)) m)
abbrev ch (c:Cf):List LV:=[.p (.slice 1 (c.W.map bh)),.p (.int .u64 c.Seed),.p (.int .i64 c.Epoch),.p (.int .i64 c.Num),.p (.int .i64 c.Den)]
abbrev cH (w:Vw):List LV:=[.p (.slice 5 (w.B.map aA)),.p (.slice 4 (w.V.map aO))]
def LY (x:Int):Int:=
 let a:=u64.wrap (bits .xor .u64 x (x.fdiv (2 ^ (min (toNat 30) u64.bits)))*13787848793156543929)
 let b:=u64.wrap (bits .xor .u64 a (a.fdiv (2 ^ (min (toNat 27) u64.bits)))*10723151780598845931)
 bits .xor .u64 b (b.fdiv (2 ^ (min (toNat 31) u64.bits)))
def step (h x:Int):Int:=LY (u64.wrap (bits .xor .u64 h x+11400714819323198485))
def Og (x:Int):Int:=bits .xor .u64 (if u64.signed then -1 else u64.max) x
theorem PH {x:Int}:aq prog 152 [.int .u64 x] [.int .u64 (LY x)]:=by
 refine zh Tryz.func152 Z Z Z Z ?_;exact qR<|yS Z (za Z Z)<|nT<|qR<|yS Z (zm Z Z)<|yS Z (zm Z Z)<|yS Z (aa.shr Z Z Z (by decide))<|yS Z (an Z Z Z Z)<|yS Z (an Z Z Z Z)<|yS Z (za Z Z)<|nT<|qR<|yS Z (zm Z Z)<|yS Z (zm Z Z)<|yS Z (aa.shr Z Z Z (by decide))<|yS Z (an Z Z Z Z)<|yS Z (an Z Z Z Z)<|yS Z (za Z Z)<|nT<|qR<|yS Z (zm Z Z)<|yS Z (zm Z Z)<|yS Z (aa.shr Z Z Z (by decide))<|yS Z (an Z Z Z Z)<|yS Z (za Z Z)<|nT<|zr<|aZ Z
theorem yy {h x:Int}:aq prog 125 [.int .u64 h,.int .u64 x] [.int .u64 (step h x)]:=by
 refine zh Tryz.func125 Z Z Z Z ?_;exact qR<|yS Z (za Z Z)<|nT<|qR<|yS Z (zm Z Z)<|yS Z (zm Z Z)<|yS Z (an Z Z Z Z)<|yS Z (an Z Z Z Z)<|yS Z (yC Z Z Z (zp PH dG))<|yS Z (za Z Z)<|nT<|zr<|aZ Z
theorem MS {x a b:Int}{id:Nat}(hH:br H id=some (.box [.p (.int .u64 a),.p (.int .u64 b)]))(hH':bK H id (.box [.p (.int .u64 (step a x)),.p (.int .u64 (step b (Og x)))])=some H'):LC prog 124 [.p (.int .u64 x),.ptr id 0] H (Is (.tup []) H'):=by
 refine eN Tryz.func124 Z Z Z ?_;exact LW.drawLast (m:=10) (by kernel_rfl) (by kernel_rfl) (by kernel_rfl)<|yE Z (aa.indexAddrA Z Z Z qa (by decide) (by decide))<|yE Z (zD Z Z hH iT Z Z)<|yE Z (zm Z Z)<|yE Z (yC Z Z Z (zp yy bG))<|yE Z (aa.indexAddrA Z Z Z qa (by decide) (by decide))<|yE Z (zD Z Z hH iT Z Z)<|yE Z (zm Z Z)<|yE Z (aa.compl Z Z)<|yE Z (yC Z Z Z (zp yy bG))<|yE Z (aa.build Z ng Z Z Z)<|LO.nil<|yS Z (zs Z Z Z hH aF Z Z Z hH')<|zN<|i7 .none<|⟨rfl,rfl⟩
def jd (p:Int×Int)(x:Int):Int×Int:=(step p.1 x,step p.2 (Og x))
def qB (l:List Int):Int×Int:=jd (l.foldl jd (1,2)) (u64.wrap l.length)
theorem QS {l:List Int}:aq prog 72 [.slice 1 (l.map kE)] [aX (qB l)]:=by
 refine zh Tryz.func72 Z Z Z Z ?_;refine zQ ?_;refine LW.ok (t:=0) Z<|fun ok=>?_;have hlen:=ok.len;simp only[length_map,maxLen]at hlen;refine zR<|yS Z (ze Z gP Z Z)<|nT<|qR<|yS Z (aa.build Z ng Z Z Z)<|yS Z (ze Z gP Z Z)<|yS Z (zs Z Z Z Z aF Z Z Z Z)<|nT<|qR<|yS Z (aa.makeFunc Z Z Z)<|yS Z (za Z Z)<|nT<|zQ<|qR<|yS Z (zm Z Z)<|yS Z (aa.len Z Z (by kernel_rfl))<|yS Z (zm Z Z)<|nT<|zl ?_;refine LW.loopOf (E:=fun x:Nat×Int×Int=>[(0,.p (.slice 1 (l.map kE))),(2,.ptr 0 0),(3,.ptr 1 0),(4,.fn 124 [] [.ptr 1 0]),(9,.p (.slice 1 (l.map kE))),(10,.p (.int .i64 (l.map kE).length)),(11,.p (.int .i64 (x.1:Nat)))]) (O:=fun x=>[.box [(uQ 0),(uQ 0)],.box [(uQ x.2.1),(uQ x.2.2)]]) (G:=fun x=>x.1<=l.length/\x.2=(l.take x.1).foldl jd (1,2)) (meas:=fun x=>l.length-x.1) (0,1,2) (av 2 ⟨Z,Z,Z,Z,Z,Z,Z,t_⟩) ⟨zero_le _,rfl⟩<|fun x hx=>?_;refine qR<|yS Z (an Z Z Z Z)<|nT<|zQ ?_;refine zX Z (fun g1=>?_)<|fun g1=>?_
 ·refine zk<|zT<|zQ<|zl<|zQ ?_
  have hlt:x.1<l.length:=by simpa using g1
  obtain⟨y,hy⟩:=qy hlt;refine zR (yS Z (aa.indexAddr Z Z Z Ev (by omega) (wS hy) Z) (yS Z (bR Z Z Z iT Z Z) (yS Z (za Z Z) (nT (zR (yS Z (zm Z Z) (yS Z (zm Z Z) (yS Z (yC Z Z Z (MS (id:=1) Z Z)) (zN (af (zT (zR (yS Z (aa.isEq (y:=.p (.int .i64 ((x.1+1:Nat):Int))) (an Z Z Z Z) (by rw[cX];rfl)) (yS Z (zm Z Z) (nT ?_)))))))))))))));refine⟨(x.1+1,jd x.2 y),?_,?_,av 2 ⟨Z,Z,Z,Z,Z,Z,Z,t_⟩⟩
  ·simp only;omega
  ·refine⟨hlt,?_⟩;rw[List.take_add_one,hy,List.foldl_append,<-hx.2];rfl
 ·refine zq<|ai<|ai<|zy<|zT<|zQ ?_
  have hnlt:¬x.1<l.length:=by simpa using g1
  have hend:x.1=l.length:=by omega
  have hfold:x.2=l.foldl jd (1,2):=by rw[hx.2,hend,List.take_length]
  refine zR<|yS Z (zm Z Z)<|yS Z (zm Z Z)<|yS Z (aa.len Z Z (by kernel_rfl))<|yS Z (aa.convert (k':=.u64) Z Z (by kernel_rfl))<|yS Z (yC Z Z Z (MS (id:=1) Z Z))<|nT<|qR<|yS Z (zD Z Z Z aF Z Z)<|yS Z (zs Z Z Z Z aF Z Z Z Z)<|nT<|zr<|zf (.one (er Z Z))<|Conv.pe ?_;simp only[length_map,aX,qB,<-hfold];rfl
def lI (b:Bk):List Int:=[1,u64.wrap b.Slot,u64.wrap b.From,b.Parent.1,b.Parent.2,b.Salt]
def nm (b:Bk):ID:=qB (lI b)
def ap (l:List ID)(v:ID):Int:=match l.findIdx? (fun x=>decide (v=x))with|some i=>(i:Nat)|none=> -1
theorem jM {l:List ID}{v:ID}{i:Nat}(h:l[i]?=some v)(hno:∀j,j<i->l[j]?≠some v):ap l v=i:=by
 have hi:=(List.getElem?_eq_some_iff.1 h).1
 have:l.findIdx? (fun x=>decide (v=x))=some i:=by
  rw[List.findIdx?_eq_some_iff_getElem];refine⟨hi,by simp[(List.getElem?_eq_some_iff.1 h).2],fun j hj=>?_⟩;have:=hno j hj;rw[getElem?_eq_getElem (by omega)]at this;simpa using fun e=>this (by rw[e])
 simp[ap,this]
theorem ja {l:List ID}{v:ID}(hno:∀j,j<l.length->l[j]?≠some v):ap l v= -1:=by
 have:l.findIdx? (fun x=>decide (v=x))=none:=by
  rw[List.findIdx?_eq_none_iff];intro x hx;obtain⟨j,hj,rfl⟩:=List.mem_iff_getElem.1 hx;have:=hno j hj;rw[getElem?_eq_getElem hj]at this;simpa using fun e=>this (by rw[e])
 simp[ap,this]
theorem Ma {b:Bk}:aq prog 35 [aA b] [aX (nm b)]:=by
 refine zh Tryz.func35 Z Z Z Z ?_;exact qR<|yS Z (bx Z Z Z Z Z)<|yS Z (ze Z gP Z Z)<|nT<|qR<|yS Z (zA Z Z fK)<|yS Z (zD Z Z Z aW Z Z)<|yS Z (aa.convert (k':=.u64) Z Z (by kernel_rfl))<|yS Z (zA Z Z rD)<|yS Z (zD Z Z Z aW Z Z)<|yS Z (aa.convert (k':=.u64) Z Z (by kernel_rfl))<|yS Z (zA Z Z gt)<|yS Z (aa.indexAddrA Z Z Z qa (by decide) (by decide))<|yS Z (zD Z Z Z iT Z Z)<|yS Z (zA Z Z gt)<|yS Z (aa.indexAddrA Z Z Z qa (by decide) (by decide))<|yS Z (zD Z Z Z iT Z Z)<|yS Z (zA Z Z GW)<|yS Z (zD Z Z Z iT Z Z)<|yS Z (gR Z Ev Z Z Z Z Z)<|yS Z (yP Z Z Z (QS (l:=lI b)) dG)<|yS Z (zs Z Z Z Z aF Z Z Z Z)<|nT<|zr<|zf (.one (er Z Z)) zv
theorem Pe {l:List ID}{v:ID}:aq prog 132 [.slice 2 (l.map aX),aX v] [.int .i64 (ap l v)]:=by
 refine zh Tryz.func132 Z Z Z Z ?_;refine zQ ?_;refine LW.ok (t:=0) Z<|fun ok=>?_;have hlen:=ok.len;simp only[length_map,maxLen]at hlen;refine zR<|yS Z (bx Z Z Z Z Z)<|yS Z (za Z Z)<|nT<|zQ<|qR<|yS Z (zm Z Z)<|yS Z (aa.len Z Z (by kernel_rfl))<|yS Z (zm Z Z)<|nT<|zl ?_;refine LW.loopOf (E:=fun x:Nat=>[(0,.p (.slice 2 (l.map aX))),(3,.ptr 0 0),(6,.p (.slice 2 (l.map aX))),(7,.p (.int .i64 (l.map aX).length)),(8,.p (.int .i64 (x:Nat)))]) (O:=fun x=>[.box [(uQ v.1),(uQ v.2)]]) (G:=fun x=>x<=l.length/\∀j,j<x->l[j]?≠some v) (meas:=fun x=>l.length-x) 0 (av 1 ⟨Z,Z,Z,Z,Z,t_⟩) ⟨zero_le _,fun j hj=>absurd hj (by omega)⟩<|fun x hx=>?_;refine qR<|yS Z (an Z Z Z Z)<|nT<|zQ ?_;refine zX Z (fun g1=>?_)<|fun g1=>?_
 ·refine zk<|zT<|zQ<|zl<|zQ ?_
  have hlt:x<l.length:=by simpa using g1
  obtain⟨y,hy⟩:=qy hlt;refine zR<|yS Z (zm Z Z)<|yS Z (za Z Z)<|nT<|zQ<|dx<|yE Z (zD Z Z Z aF Z Z)<|yE Z (zm Z Z)<|yE Z (zm Z Z)<|yE Z (aa.indexAddr Z Z Z fH (by omega) (wS hy) Z)<|yE Z (bR Z Z Z aF Z Z)<|yE Z (aa.eqlAgg Z Z Z Z Z gV)<|LO.nil<|zT ?_;refine zX Z (fun g2=>?_)<|fun g2=>?_
  ·refine zQ ?_;have he:v=y:=of_decide_eq_true ((Od (a:=v) (b:=y) rfl).symm.trans g2);exact zR (yS Z (zm Z Z) (yS Z (za Z Z) (nT (zr (ak (ae (ae (ak (ae (zf (.one (.tmp Z)) (Conv.pe (by rw[jM (hy.trans (congrArg some he.symm)) hx.2]))))))))))))
  ·refine zk<|af<|zT ?_;have hne:v≠y:=of_decide_eq_false ((Od (a:=v) (b:=y) rfl).symm.trans g2);refine zR (yS Z (aa.isEq (y:=.p (.int .i64 ((x+1:Nat):Int))) (an Z Z Z Z) (by rw[cX];rfl)) (yS Z (zm Z Z) (nT ?_)));refine⟨x+1,?_,?_,av 1 ⟨Z,Z,Z,Z,Z,t_⟩⟩
   ·omega
   ·exact⟨hlt,fun j hj=>by rcases Nat.lt_succ_iff_lt_or_eq.1 hj with h|h;exact hx.2 j h;subst h;rw[hy];exact fun e=>hne (zJ e).symm⟩
 ·refine zq<|ai<|ai<|zy<|zT<|zQ ?_
  have hnlt:¬x<l.length:=by simpa using g1
  have hend:x=l.length:=by omega
  exact zR (yS Z (za Z Z) (nT (zr (zf (.one (.tmp Z)) (Conv.pe (by rw[ja fun j hj=>hx.2 j (by omega)]))))))
theorem QR {l:List ID}{v:ID}:aq prog 203 [.slice 2 (l.map aX),aX v] [.bool (decide (ap l v>=0))]:=by
 refine zh Tryz.func203 Z Z Z Z ?_;exact qR<|yS Z (bx Z Z Z Z Z)<|yS Z (za Z Z)<|nT<|qR<|yS Z (zm Z Z)<|yS Z (zD Z Z Z aF Z Z)<|yS Z (yC Z Z Z (zp Pe bG))<|yS Z (an Z Z Z Z)<|yS Z (za Z Z)<|nT<|zr<|aZ Z
def cD (l:List Bk)(i:Int):Int:=if i= -1 then 0 else match l[i.toNat]? with
 |some b=>b.Slot
 |none=>0
abbrev Ka :Int->LV:=fun v=>(iQ v)
def dt (l:List Bk):List Bk->Nat->List (ID×Int)->Option (List (ID×Int))
 |[],_,m=>some m
 | b::r,i,m=>match am m b.Parent with
  |none=>none
  |some p=>if b.Slot<=cD l p then none else match am m (nm b)with
   |some _=>none
   |none=>dt l r (i+1) (m++[(nm b,(i:Int))])
def places (l:List Bk):Option (List (ID×Int)):=dt l l 0 [((0,0),-1)]
theorem d8 {l:List Bk}{i:Nat}{y:Bk}(hy:l[i]?=some y)(m:List (ID×Int)):dt l (l.drop i) i m=match am m y.Parent with
  |none=>none
  |some p=>if y.Slot<=cD l p then none else match am m (nm y)with
   |some _=>none
   |none=>dt l (l.drop (i+1)) (i+1) (m++[(nm y,(i:Int))]):=by
 obtain⟨hi,rfl⟩:=List.getElem?_eq_some_iff.1 hy;rw[List.drop_eq_getElem_cons hi];rfl
theorem PF {l:List Bk}{id:Nat}(hH:br H id=some (.box [(kB l)]))(hi:i= -1\/0<=i/\i<l.length) :
  LC prog 209 [(iQ i),.ptr id 0] H (Is (.p (.int .i64 (cD l i))) H):=by
 refine eN Tryz.func209 Z Z Z ?_;refine qR<|yS Z (za Z Z)<|nT<|zQ<|qR<|yS Z (zm Z Z)<|yS Z (an Z Z Z Z)<|nT ?_;refine zX Z (fun g1=>?_)<|fun g1=>?_
 ·refine zQ ?_
  have he:i= -1:=by simpa using g1
  exact zR<|yS Z (za Z Z)<|nT<|zr<|ae<|aD (.one (.tmp Z))<|⟨by simp[cD,he],rfl⟩
 ·refine zk<|zT<|zQ ?_
  have hne:i≠-1:=by simpa using g1
  obtain⟨y,hy⟩:=qy (l:=l) (i:=i.toNat) (by omega)
  have hiy:(l.map aA)[i.toNat]?=some (aA y):=by simp[hy]
  exact zR<|yS Z (zD Z Z hH bM Z Z)<|yS Z (zm Z Z)<|yS Z (aa.indexAddr Z Z Z cw (by omega) hiy Z)<|yS Z (aa.fieldAddrC Z Z fK Z)<|yS Z (bR Z Z Z aW Z Z)<|yS Z (za Z Z)<|nT<|zr<|aD (.one (.tmp Z))<|⟨by simp[cD,hne,hy],rfl⟩
theorem c94 {l:List Bk}:LC prog 167 [(kB l)] [] fun x H=>
  (∃m,places l=some m/\x=.tup [.map 1,(bQ true)]/\H=[.box [(kB l)],.map (ar aX Ka m)])\/(places l=none/\x=.tup [.nilmap,(bQ false)]/\H=[]):=by
 refine eN Tryz.func167 Z Z Z ?_;refine zQ ?_;refine LW.ok (t:=0) Z<|fun ok=>?_;have hlen:=ok.len;simp only[length_map,maxLen]at hlen;refine zR<|yS Z (bx Z Z Z Z Z)<|yS Z (za Z Z)<|yS Z (za Z Z)<|nT<|qR<|yS Z (aa.makeMap Z Z Z)<|yS Z (aa.build Z ng Z Z Z)<|yS Z (aa.setNew (f:=aX) (g:=Ka) (m:=[]) (a:=(0,0)) (v:= -1) f8 Z (.inr Z) Z Z Z Z Z mO Z)<|yS Z (zm Z Z)<|yS Z (za Z Z)<|nT<|qR<|yS Z (aa.makeFunc Z Z Z)<|yS Z (za Z Z)<|nT<|zQ<|qR<|yS Z (zD Z Z Z bM Z Z)<|yS Z (aa.len Z Z (by kernel_rfl))<|yS Z (zm Z Z)<|nT<|zl ?_;refine LW.loopOf (E:=fun x:Nat×List (ID×Int)=>[(1,.ptr 0 0),(4,.map 1),(5,.fn 209 [] [.ptr 0 0]),(17,(kB l)),(18,.p (.int .i64 (l.map aA).length)),(19,.p (.int .i64 (x.1:Nat)))]) (O:=fun x=>[.box [(kB l)],.map (ar aX Ka x.2)]) (G:=fun x=>x.1<=l.length/\dt l (l.drop x.1) x.1 x.2=places l/\∀k v,am x.2 k=some v->v= -1\/0<=v/\v<l.length) (meas:=fun x=>l.length-x.1) (0,[((0,0),-1)]) (zW 2 ⟨Z,Z,Z,Z,Z,Z,t_⟩ Z Z Z (zL Z (zL (aj (fun _=>rfl) _) Z))) ⟨zero_le _,rfl,fun k v h=>by unfold am am at h;split at h <;>cases h;exact .inl rfl⟩ (fun x hx=>?_);refine qR<|yS Z (an Z Z Z Z)<|nT<|zQ ?_;refine zX Z (fun g1=>?_)<|fun g1=>?_
 ·refine zk<|zT<|zQ<|zl<|zQ ?_
  have hlt:x.1<l.length:=by simpa using g1
  obtain⟨y,hy⟩:=qy hlt;refine zR<|yS Z (zm Z Z)<|yS Z (aa.indexAddr Z Z Z cw (by omega) (wS hy) Z)<|yS Z (bR Z Z Z ce Z Z)<|yS Z (ze Z uW Z Z)<|yS Z (za Z Z)<|yS Z (zs Z Z Z Z ce Z Z Z Z)<|nT<|qR<|yS Z (zm Z Z)<|yS Z (zA Z Z gt)<|yS Z (zD Z Z Z aF Z Z) ?_;rcases hp:am x.2 y.Parent with _|p
  ·refine yS Z ((aa.getMiss f8 hp Z Z Z Z mO Jz Z))<|yS Z (zm Z Z)<|yS Z (eW Z Z Z)<|yS Z (eW Z Z Z)<|yS Z (za Z Z)<|yS Z (za Z Z)<|nT<|zQ<|zQ<|dx<|yE Z (zm Z Z)<|yE Z (aa.not Z Z)<|yE Z (zm Z Z)<|b8 Z<|b8 Z<|b8 Z<|b8 Z<|b8 Z<|b8 Z<|yE Z (bv Z Z Z)<|LO.nil<|zT<|LW.condT Z<|qR<|yS Z (za Z Z)<|yS Z (za Z Z)<|nT<|zr<|ae<|ak<|ae<|ae<|ak<|ae ?_;refine bT (env':=[(2,.nilmap),(3,(bQ false))]) (H':=[]) (av 0 ⟨Z,Z,t_⟩) (.two (.tmp Z) (.tmp Z))<|.inr ⟨?_,rfl,rfl⟩;rw[<-hx.2.1,d8 hy]
   first|(simp only[hp];done)|(simp only[hp];rw[i1_ (of_decide_eq_true g2)];done)|(simp only[hp,hq];split <;>rfl)
  ·refine yS Z ((aa.getHit f8 hp Z Z Z Z mO Z))<|yS Z (zm Z Z)<|yS Z (eW Z Z Z)<|yS Z (eW Z Z Z)<|yS Z (za Z Z)<|yS Z (za Z Z)<|nT<|zQ<|zQ<|dx<|yE Z (zm Z Z)<|yE Z (aa.not Z Z)<|yE Z (zm Z Z)<|yL Z Z (zA Z Z fK)<|yL Z Z (zD Z Z Z aW Z Z)<|yL Z Z (zm Z Z)<|yL Z Z (zm Z Z)<|yL Z Z (yC Z Z Z (PF (id:=0) Z (hx.2.2 _ _ hp)))<|yL Z Z (an Z Z Z Z)<|yE Z (aT Z Z Z)<|LO.nil<|zT ?_;refine zX Z (fun g2=>?_)<|fun g2=>?_
   ·refine qR<|yS Z (za Z Z)<|yS Z (za Z Z)<|nT<|zr<|ae<|ak<|ae<|ae<|ak<|ae ?_;refine bT (env':=[(2,.nilmap),(3,(bQ false))]) (H':=[]) (av 0 ⟨Z,Z,t_⟩) (.two (.tmp Z) (.tmp Z))<|.inr ⟨?_,rfl,rfl⟩;rw[<-hx.2.1,d8 hy]
    first|(simp only[hp];done)|(simp only[hp];rw[i1_ (of_decide_eq_true g2)];done)|(simp only[hp,hq];split <;>rfl)
   ·refine zk<|zT<|qR<|yS Z (zD Z Z Z ce Z Z)<|yS Z (yP Z Z Z (Ma (b:=y)) dG)<|yS Z (ze Z gP Z Z)<|yS Z (zs Z Z Z Z aF Z Z Z Z)<|nT<|zQ<|qR<|yS Z (zm Z Z)<|yS Z (zD Z Z Z aF Z Z) ?_;rcases hq:am x.2 (nm y)with _|q
    ·refine yS Z ((aa.getMiss f8 hq Z Z Z Z mO Jz Z)) (yS Z (zm Z Z) (yS Z (eW Z Z Z) (yS Z (eW Z Z Z) (yS Z (za Z Z) (yS Z (za Z Z) (nT (qR (yS Z (zm Z Z) (nT (LW.condF Z (zk (zT (zR (yS Z (zm Z Z) (yS Z (zD Z Z Z aF Z Z) (yS Z (zm Z Z) (yS Z (aa.setNew (f:=aX) (g:=Ka) (m:=x.2) (a:=nm y) (v:=((x.1:Nat):Int)) f8 hq (.inl Z) Z Z Z Z Z mO Z) (zN (af (zT (zR (yS Z (aa.isEq (y:=.p (.int .i64 ((x.1+1:Nat):Int))) (an Z Z Z Z) (by rw[cX];rfl)) (yS Z (zm Z Z) (nT ?_))))))))))))))))))))))));refine⟨(x.1+1,x.2++[(nm y,((x.1:Nat):Int))]),?_,?_,zW 2 ⟨Z,Z,Z,Z,Z,Z,t_⟩ Z Z Z (zL Z (zL (aj (fun _=>rfl) _) Z))⟩
     ·simp only;omega
     ·refine⟨hlt,?_,fun k v h=>?_⟩
      ·rw[<-hx.2.1,d8 hy];simp only[hp,hq];rw[i0_ (of_decide_eq_false g2)]
      ·rw[gI]at h;rcases hk:am x.2 k with _|u
       ·rw[hk]at h;simp only[none_or]at h;split at h <;>cases h;omega
       ·rw[hk]at h;cases h;exact hx.2.2 k _ hk
    ·refine yS Z ((aa.getHit f8 hq Z Z Z Z mO Z))<|yS Z (zm Z Z)<|yS Z (eW Z Z Z)<|yS Z (eW Z Z Z)<|yS Z (za Z Z)<|yS Z (za Z Z)<|nT<|qR<|yS Z (zm Z Z)<|nT<|LW.condT Z<|qR<|yS Z (za Z Z)<|yS Z (za Z Z)<|nT<|zr<|ae<|ak<|ae<|ae<|ak<|ae ?_;refine bT (env':=[(2,.nilmap),(3,(bQ false))]) (H':=[]) (av 0 ⟨Z,Z,t_⟩) (.two (.tmp Z) (.tmp Z))<|.inr ⟨?_,rfl,rfl⟩;rw[<-hx.2.1,d8 hy]
     first|(simp only[hp];done)|(simp only[hp];rw[i1_ (of_decide_eq_true g2)];done)|(simp only[hp,hq];split <;>rfl)
 ·refine zq<|ai<|ai<|zy<|zT<|zQ ?_
  have hnlt:¬x.1<l.length:=by simpa using g1
  have hend:x.1=l.length:=by omega
  refine zR<|yS Z (zm Z Z)<|yS Z (za Z Z)<|yS Z (za Z Z)<|nT<|zr ?_;refine bT (env':=[(2,.map 1),(3,(bQ true))]) (H':=[.box [(kB l)],.map (ar aX Ka x.2)]) (zW 2 ⟨Z,Z,t_⟩ Z Z Z (zL Z (zL (aj (fun _=>rfl) _) Z))) (.two (.tmp Z) (.tmp Z))<|.inl ⟨x.2,?_,rfl,rfl⟩;rw[<-hx.2.1,hend,List.drop_length];rfl
structure DI (l:List Bk)(m:List (ID×Int))(n:Nat):Prop where
 zero:am m (0,0)=some (-1)
 known:∀k i,am m k=some i->(i= -1/\k=(0,0))\/∃b p,0<=i/\i<n/\l[i.toNat]?=some b/\nm b=k/\am m b.Parent=some p/\p<i∧-1<=p/\cD l p<b.Slot
 names:∀i b,i<n->l[i]?=some b->am m (nm b)=some (i:Int)
theorem DI.step {l:List Bk}{m:List (ID×Int)}{n:Nat}{y:Bk}{p:Int}(h:DI l m n)(hy:l[n]?=some y)(hp:am m y.Parent=some p)(hs:¬y.Slot<=cD l p)(hq:am m (nm y)=none) :
  DI l (m++[(nm y,(n:Int))]) (n+1):=by
 have old:∀k i,am m k=some i->am (m++[(nm y,(n:Int))]) k=some i:=fun k i hk=>by rw[gI,hk];rfl
 refine⟨old _ _ h.zero,fun k i hk=>?_,fun i b hi hb=>?_⟩
 ·rw[gI]at hk;rcases hm:am m k with _|j
  ·rw[hm]at hk;simp only[none_or]at hk;split at hk
   ·rename_i e;cases hk;right;refine⟨y,p,by omega,by omega,by simpa using hy,e,old _ _ hp,?_,?_,by omega⟩
    ·rcases h.known _ _ hp with⟨h1,-⟩|⟨b,q,h1,h2,-⟩ <;>omega
    ·rcases h.known _ _ hp with⟨h1,-⟩|⟨b,q,h1,h2,-⟩ <;>omega
   ·cases hk
  ·rw[hm]at hk;cases hk;rcases h.known _ _ hm with h1|⟨b,q,h1,h2,h3,h4,h5,h6,h7,h8⟩
   ·exact .inl h1
   ·exact .inr ⟨b,q,h1,by omega,h3,h4,old _ _ h5,h6,h7,h8⟩
 ·rcases Nat.lt_succ_iff_lt_or_eq.1 hi with hi|hi
  ·exact old _ _<|h.names i b hi hb
  ·subst hi;rw[hy]at hb;cases hb;rw[gI,hq];simp
theorem qG {l:List Bk}:∀(r:List Bk) (i:Nat) (m m':List (ID×Int)),r=l.drop i->i<=l.length->DI l m i->dt l r i m=some m'->DI l m' l.length
 | [],i,m,m',hr,hi,h,hg=>by
  cases hg
  have:l.length<=i:=by
   have:=congrArg length hr;simp at this;omega
  rw[show l.length=i by omega];exact h
 | y::r,i,m,m',hr,hi,h,hg=>by
  have hil:i<l.length:=by
   have:=congrArg length hr;simp at this;omega
  have hd:=List.drop_eq_getElem_cons hil;rw[hd,List.cons.injEq]at hr;obtain⟨rfl,rfl⟩:=hr;unfold dt at hg;split at hg
  ·cases hg
  ·rename_i p hp;split at hg
   ·cases hg
   ·rename_i hs;split at hg
    ·cases hg
    ·rename_i hq;exact qG _ (i+1) _ m' Z (by omega) (h.step (getElem?_eq_getElem hil) hp hs hq) hg
theorem Ao {l:List Bk}:∀(k:ID) (i:Int),am [(((0,0):ID),(-1:Int))] k=some i->(i= -1/\k=(0,0))\/∃b p,0<=i/\i<(0:Nat)/\l[i.toNat]?=some b/\nm b=k/\am [(((0,0):ID),(-1:Int))] b.Parent=some p/\p<i∧-1<=p/\cD l p<b.Slot:=by
 intro k i hk;unfold am am at hk;split at hk
 ·rename_i e;cases hk;exact .inl ⟨rfl,e.symm⟩
 ·cases hk
theorem bd {l:List Bk}{m:List (ID×Int)}(h:places l=some m):DI l m l.length:=
 qG l 0 _ m rfl (zero_le _) ⟨rfl,Ao,fun i b hi=>by omega⟩ h
def cr (l:List Bk):Nat->ID->Int->List ID
 |0,id,_=>[id]
 | n+1,id,i=>if i= -1 then[id]else match l[i.toNat]? with
  |none=>[id]
  | some b=>match places l with
   |none=>[id]
   |some m=>match am m b.Parent with
    |none=>[id]
    |some p=>id::cr l n b.Parent p
def ao (l:List Bk)(id:ID):List ID:=match places l with
 |none=>[]
 |some m=>match am m id with
  |none=>[]
  |some i=>cr l (i+1).toNat id i
theorem yH {l:List Bk}{m:List (ID×Int)}(hpl:places l=some m):∀(n:Nat) (k:Nat) (id:ID) (i:Int),i+1<=n->n<=k->am m id=some i->cr l k id i=cr l n id i:=by
 intro n
 induction n with
 | zero=>
  intro k id i hi hk hf
  have:i= -1:=by
   rcases(bd hpl).known _ _ hf with⟨h,-⟩|⟨_,_,h,-⟩ <;>omega
  cases k with
  |zero=>rfl
  |succ k=>simp[cr,this]
 |succ n ih=>
  intro k id i hi hk hf;obtain⟨k,rfl⟩:∃j,k=j+1:=⟨k-1,by omega⟩;rcases(bd hpl).known _ _ hf with⟨h,-⟩|⟨b,p,h0,h1,h2,h3,h4,h5,h6,h7⟩
  ·simp[cr,h]
  ·simp only[cr,i0_ (show i≠-1 by omega),h2,hpl,h4];rw[ih k b.Parent p (by omega) (by omega) h4]
theorem gy {l:List Bk}{m:List (ID×Int)}{id:ID}{i p:Int}{b:Bk}(hpl:places l=some m)(hne:i≠-1)(h0:0<=i)(hb:l[i.toNat]?=some b)(hp:am m b.Parent=some p)(hpi:p<i)(hp1: -1<=p) :
  cr l (i+1).toNat id i=id::cr l (p+1).toNat b.Parent p:=by
 obtain⟨n,hn⟩:∃n,(i+1).toNat=n+1:=⟨i.toNat,by omega⟩;rw[hn];simp only[cr,i0_ hne,hb,hpl,hp];rw[yH hpl (p+1).toNat n b.Parent p (by omega) (by omega) hp]
theorem Af {α:Type}{f:α->PV}{l:List α}{a:α}(h:l[i.toNat]?=some a):(l.map f)[i.toNat]?=some (f a):=by
 simp[h]
theorem Conv.zs' {m:Nat}(h:xs=[]):Conv true H .zs (.slice m xs):=by subst h;exact Conv.zs
theorem Conv.vecAll' {m id n len:Nat}{xs ys:List PV}(hH:H[id]?=some (.vec m xs))(hn:n=xs.length)(hl:len=xs.length)(h:ys=xs):Conv true H (.vec m id n 0 len) (.slice m ys):=by
 subst h;exact Conv.vecAll hH hn hl
theorem NN {l:List Bk}(h:places l=none):LC prog 167 [(kB l)] H (Is (.tup [.nilmap,(bQ false)]) H):=by
 have h0:LC prog 167 ([PV.slice 5 (l.map aA)].map .p) [] (Is (.tup [.nilmap,(bQ false)]) []):=c94.mono fun x H hx=>by
  rcases hx with⟨m,hm,-⟩|⟨-,h1,h2⟩
  ·rw[h]at hm;cases hm
  ·exact⟨h1,h2⟩
 have:=LC.frame (H:=H) (d:=H.length) h0 dG (by rw[Jf]);simpa [LV.shift,LV.shifts]using this
theorem NO {l:List Bk}{m:List (ID×Int)}{H H1 H2:List ab}{d:Nat}(h:places l=some m)(hd:dq H=some d)(h1:jF H (.box [(kB l)])=some H1)(h2:jF H1 (.map (ar aX Ka m))=some H2) :
  LC prog 167 [(kB l)] H (Is (.tup [.map (d+1),(bQ true)]) H2):=by
 have h0:LC prog 167 ([PV.slice 5 (l.map aA)].map .p) [] (Is (.tup [.map 1,(bQ true)]) [.box [(kB l)],.map (ar aX Ka m)]):=c94.mono fun x H hx=>by
  rcases hx with⟨m',hm,h1,h2⟩|⟨h1,-⟩
  ·rw[h]at hm;cases hm;exact⟨h1,h2⟩
  ·rw[h]at h1;cases h1
 have:=LC.frame (H:=H) (d:=d) h0 dG hd;have e1:=dC h1;have e2:=dC h2;subst e1;subst e2;simpa [LV.shift,LV.shifts,ab.shift,ar,List.append_assoc,Function.comp_def]using this
theorem PZ {l:List Bk}{id:ID}(hpl:places l=none):aq prog 131 [.slice 5 (l.map aA),aX id] [.slice 2 ((ao l id).map aX)]:=by
 refine zh Tryz.func131 Z Z Z Z ?_;exact qR<|yS Z (bx Z Z Z Z Z)<|yS Z (za Z Z)<|nT<|LW.scope<|qR<|yS Z (zm Z Z)<|yS Z ((yC Z Z Z (NN hpl)))<|yS Z (zm Z Z)<|yS Z (eW Z Z Z)<|yS Z (eW Z Z Z)<|yS Z (za Z Z)<|yS Z (za Z Z)<|nT<|zQ<|qR<|yS Z (zm Z Z)<|yS Z (zD Z Z Z aF Z Z)<|yS Z ((aa.getNil f8 Z Z Z mO Jz Z))<|yS Z (zm Z Z)<|yS Z (eW Z Z Z)<|yS Z (eW Z Z Z)<|yS Z (za Z Z)<|yS Z (za Z Z)<|nT<|qR<|yS Z (zm Z Z)<|yS Z (aa.not Z Z)<|nT<|LW.condT Z<|qR<|yS Z (za Z Z)<|nT<|zr<|ae<|Hl<|zf (.one (.tmp Z))<|Conv.zs' (by simp[ao,hpl])
theorem P0 {l:List Bk}{id:ID}{m:List (ID×Int)}(hl:l.length<=1000)(hpl:places l=some m):aq prog 131 [.slice 5 (l.map aA),aX id] [.slice 2 ((ao l id).map aX)]:=by
 refine zh Tryz.func131 Z Z Z Z ?_;refine qR<|yS Z (bx Z Z Z Z Z)<|yS Z (za Z Z)<|nT ?_;refine LW.jumpsOf (l:=0) (E:=fun x:List ID×ID×Int=>[(0,(kB l)),(3,.ptr 0 0),(5,.map 2),(9,.vec 2 3 (x.1.map aX).length 0 (x.1.map aX).length)]) (O:=fun x=>[.box [(uQ x.2.1.1),(uQ x.2.1.2)],.box [(kB l)],.map (ar aX Ka m),.vec 2 (x.1.map aX)]) (G:=fun x=>am m x.2.1=some x.2.2/\x.1.length+(x.2.2+1).toNat<=1001/\ao l id=x.1++cr l (x.2.2+1).toNat x.2.1 x.2.2) (meas:=fun x=>(x.2.2+1).toNat) Z ?_<|fun x hx=>?_
 ·refine qR<|yS Z (zm Z Z)<|yS Z ((yC Z Z Z (NO hpl Z Z Z)))<|yS Z (zm Z Z)<|yS Z (eW Z Z Z)<|yS Z (eW Z Z Z)<|yS Z (za Z Z)<|yS Z (za Z Z)<|nT<|zQ<|qR<|yS Z (zm Z Z)<|yS Z (zD Z Z Z aF Z Z) ?_;rcases hf:am m id with _|i
  ·refine yS Z ((aa.getMiss f8 hf Z Z Z Z mO Jz Z))<|yS Z (zm Z Z)<|yS Z (eW Z Z Z)<|yS Z (eW Z Z Z)<|yS Z (za Z Z)<|yS Z (za Z Z)<|nT<|qR<|yS Z (zm Z Z)<|yS Z (aa.not Z Z)<|nT<|LW.condT Z<|qR<|yS Z (za Z Z)<|nT<|zr<|ae<|z7<|zf (.one (.tmp Z))<|Conv.zs' ?_;simp[ao,hpl,hf]
  ·refine yS Z ((aa.getHit f8 hf Z Z Z Z mO Z))<|yS Z (zm Z Z)<|yS Z (eW Z Z Z)<|yS Z (eW Z Z Z)<|yS Z (za Z Z)<|yS Z (za Z Z)<|nT<|qR<|yS Z (zm Z Z)<|yS Z (aa.not Z Z)<|nT<|LW.condF Z<|zk<|zT<|qR<|yS Z (za Z Z)<|nT<|zQ<|LW.label<|zT<|qR<|yS Z (zm Z Z)<|yS Z (zD Z Z Z aF Z Z)<|yS Z (gR Z fH Z Z Z Z Z)<|yS Z (aa.appendZ Z Z Z Z iy.p fH (by simp only[length_singleton];omega) Z)<|yS Z (za Z Z)<|nT<|zQ<|qR<|yS Z (zm Z Z)<|yS Z (zD Z Z Z aF Z Z)<|yS Z ((aa.getHit f8 hf Z Z Z Z mO Z))<|yS Z (za Z Z)<|nT<|qR<|yS Z (zm Z Z)<|yS Z (an Z Z Z Z)<|nT ?_;refine zX Z (fun g1=>?_)<|fun g1=>?_
   ·refine zQ ?_
    have hne:i≠-1:=by simpa using g1
    obtain⟨h1,-⟩|⟨b,p,h0,hlt,hb,hnb,hp,hpi,hp1,hs⟩:=(bd hpl).known _ _ hf
    ·exact absurd h1 hne
    have hc:ao l id=id::cr l (p+1).toNat b.Parent p:=by
     simp only[ao,hpl,hf];exact gy hpl hne h0 hb hp hpi hp1
    refine zR<|yS Z (zm Z Z)<|yS Z (zm Z Z)<|yS Z (aa.indexAddr Z Z Z cw (by omega) (Af hb) Z)<|yS Z (aa.fieldAddrC Z Z gt Z)<|yS Z (bR Z Z Z aF Z Z)<|yS Z (zs Z Z Z Z aF Z Z Z Z)<|nT<|LW.goto<|Kk<|G4 ?_;refine⟨([id],b.Parent,p),?_,zW 4 ⟨Z,Z,Z,Z,t_⟩ Z Z Z (zL Z (zL Z (zL (aj (fun _=>rfl) _) Z)))⟩
    ·exact⟨hp,by simp only[length_singleton];omega,hc⟩
   ·refine zk<|zT<|zQ ?_
    have hend:i= -1:=by simpa using g1
    refine zR<|yS Z (zm Z Z)<|yS Z (za Z Z)<|nT<|zr<|z7<|zf (.one (.tmp Z))<|Conv.vecAll' Z Z Z ?_;rw[show ao l id=[id] by simp only[ao,hpl,hf,hend];rfl];rfl
 ·refine zQ<|zk<|zT<|qR<|yS Z (zm Z Z)<|yS Z (zD Z Z Z aF Z Z)<|yS Z (gR Z fH Z Z Z Z Z)<|yS Z (aa.appendM (f:=aX) (xs:=x.1) (ys:=[x.2.1]) Z Z Z Z Z fH (by simp only[length_singleton];omega) Z)<|yS Z (za Z Z)<|nT<|zQ<|qR<|yS Z (zm Z Z)<|yS Z (zD Z Z Z aF Z Z)<|yS Z ((aa.getHit f8 hx.1 Z Z Z Z mO Z))<|yS Z (za Z Z)<|nT<|qR<|yS Z (zm Z Z)<|yS Z (an Z Z Z Z)<|nT ?_;refine zX Z (fun g2=>?_)<|fun g2=>?_
  ·refine zQ ?_
   have hne:x.2.2≠-1:=by simpa using g2
   obtain⟨h1,-⟩|⟨b,p,h0,hlt,hb,hnb,hp,hpi,hp1,hs⟩:=(bd hpl).known _ _ hx.1
   ·exact absurd h1 hne
   have hc:=gy (id:=x.2.1) hpl hne h0 hb hp hpi hp1;refine zR<|yS Z (zm Z Z)<|yS Z (zm Z Z)<|yS Z (aa.indexAddr Z Z Z cw (by omega) (Af hb) Z)<|yS Z (aa.fieldAddrC Z Z gt Z)<|yS Z (bR Z Z Z aF Z Z)<|yS Z (zs Z Z Z Z aF Z Z Z Z)<|nT<|LW.goto<|Kk<|G4 ?_;refine⟨(x.1++[x.2.1],b.Parent,p),?_,?_,zW 4 ⟨Z,Z,Z,Z,t_⟩ Z Z Z (zL Z (zL Z (zL (aj (fun _=>rfl) _) Z)))⟩
   ·simp only;omega
   ·refine⟨hp,?_,?_⟩
    ·have:=hx.2.1;simp only[List.length_append,length_singleton];omega
    ·rw[hx.2.2,hc,List.append_assoc];rfl
  ·refine zk<|zT<|zQ ?_
   have hend:x.2.2= -1:=by simpa using g2
   refine zR<|yS Z (zm Z Z)<|yS Z (za Z Z)<|nT<|zr<|z7<|zf (.one (.tmp Z))<|Conv.vecAll' Z Z Z ?_;rw[hx.2.2,hend];rfl
theorem PY {l:List Bk}{id:ID}(hl:l.length<=1000):aq prog 131 [.slice 5 (l.map aA),aX id] [.slice 2 ((ao l id).map aX)]:=by
 rcases hpl:places l with _|m
 ·exact PZ hpl
 ·exact P0 hl hpl
def dK (c:Cu)(l:List Bk)(head found:ID)(is:Bool)(slot:Int):Cu:=
 let c':Cu:=if ap (ao l head) c.ID<0 then⟨(0,0),slot,i64.wrap (c.Revoked+1)⟩else c
 let at_:Int:=if ap (ao l head) c.ID<0 then i64.wrap ((ao l head).length-1)else ap (ao l head) c.ID
 if is=true/\ap (ao l head) found>=0/\ap (ao l head) found<at_ then⟨found,slot,c'.Revoked⟩else c'
theorem QF {c:Cu}{l:List Bk}{head found:ID}{is:Bool}{slot:Int}(hl:l.length<=1000):aq prog 90 [sG c,.slice 5 (l.map aA),aX head,aX found,.bool is,.int .i64 slot] [sG (dK c l head found is slot)]:=by
 refine zh Tryz.func90 Z Z Z Z ?_;refine LW.seq<|LW.region<|ay.st Z Z Z (aa.box Z Z Z Z Z)<|ay.st Z Z Z (aa.box Z Z Z Z Z)<|ay.st Z Z Z (aa.box Z Z Z Z Z)<|ay.st Z Z Z (aa.alloc Z L0 Z Z)<|ay.nil<|cx<|LW.seq<|LW.region<|ay.st Z Z Z (aa.move Z Z)<|ay.st Z Z Z (aa.load Z Z Z aF Z Z)<|ay.st Z Z Z (aa.call Z Z Z (by kernel_rfl) (LC.pure (PY hl) (.cons Conv.p (.cons Conv.p .nil))))<|ay.st Z Z Z (aa.assign Z Z)<|ay.nil<|cx<|LW.seq<|LW.region<|ay.st Z Z Z (aa.move Z Z)<|ay.st Z Z Z (aa.fieldAddr Z Z mn)<|ay.st Z Z Z (aa.load Z Z Z aF Z Z)<|ay.st Z Z Z (aa.call Z Z Z (by kernel_rfl) (LC.pure Pe (.cons Conv.p (.cons Conv.p .nil))))<|ay.st Z Z Z (aa.assign Z Z)<|ay.nil<|cx<|LW.seq<|LW.block<|LW.seq<|LW.block<|LW.seq<|LW.block<|LW.seq<|LW.seq<|LW.region<|ay.st Z Z Z (aa.move Z Z)<|ay.st Z Z Z (aa.bin Z Z Z Z)<|ay.st Z Z Z (aa.assign Z Z)<|ay.nil<|cx ?_;refine LW.cond Z (fun g1=>?_)<|fun g1=>?_
 ·refine LW.exit<|ai<|po<|cx<|LW.seq<|LW.region<|ay.st Z Z Z (aa.move Z Z)<|ay.st Z Z Z (aa.fieldAddr Z Z Bl)<|ay.st Z Z Z (aa.load Z Z Z aW Z Z)<|ay.st Z Z Z (aa.bin Z Z Z Z)<|ay.st Z Z Z (aa.build Z Pn Z Z Z)<|ay.st Z Z Z (aa.store Z Z Z Z gv Z Z Z Z)<|ay.nil<|cx<|LW.region<|ay.st Z Z Z (aa.move Z Z)<|ay.st Z Z Z (aa.len Z Z (by kernel_rfl))<|ay.st Z Z Z (aa.bin Z Z Z Z)<|ay.st Z Z Z (aa.assign Z Z)<|ay.nil<|af<|cx<|LW.seq<|LW.seq<|LW.region<|ay.st Z Z Z (aa.move Z Z)<|ay.st Z Z Z (aa.load Z Z Z aF Z Z)<|ay.st Z Z Z (aa.call Z Z Z (by kernel_rfl) (LC.pure Pe (.cons Conv.p (.cons Conv.p .nil))))<|ay.st Z Z Z (aa.assign Z Z)<|ay.nil<|cx<|LW.seq<|LW.region<|ay.st Z Z Z (aa.move Z Z)<|ay.st Z Z Z (aa.move Z Z) ?_;refine zc 38 Z (fun g2=>?_)<|fun g2=>?_
  ·refine ay.gd Z Z Z (gd g2 Z) Z (aa.move Z Z)<|ay.gd Z Z Z (gd g2 Z) Z (aa.bin Z Z Z Z)<|ay.st Z Z Z (aa.pickT Z (aJ g2 Z) Z)<|ay.st Z Z Z (aa.move Z Z) ?_;refine zc 42 Z (fun g3=>?_)<|fun g3=>?_
   ·refine ay.gd Z Z Z (gd g3 Z) Z (aa.move Z Z)<|ay.gd Z Z Z (gd g3 Z) Z (aa.move Z Z)<|ay.gd Z Z Z (gd g3 Z) Z (aa.bin Z Z Z Z)<|ay.st Z Z Z (aa.pickT Z (aJ g3 Z) Z)<|ay.nil<|cx ?_;refine LW.cond Z (fun g4=>?_)<|fun g4=>?_
    ·refine LW.region<|ay.st Z Z Z (aa.load Z Z Z aF Z Z)<|ay.st Z Z Z (zm Z Z)<|ay.st Z Z Z (aa.fieldAddr Z Z mn)<|ay.st Z Z Z (zs Z Z Z Z aF Z Z Z Z)<|ay.st Z Z Z (aa.fieldAddr Z Z wM)<|ay.st Z Z Z (zs Z Z Z Z aW Z Z Z Z)<|ay.nil<|cx<|zq<|zy<|cx<|LW.seq<|LW.region<|ay.st Z Z Z (aa.load Z Z Z gv Z Z)<|ay.st Z Z Z (zs Z Z Z Z gv Z Z Z Z)<|ay.nil<|cx<|zr<|zf (.one (.cellAgg Z Z (by kernel_rfl) Z))<|Conv.pe ?_;simp only[decide_eq_true_eq,length_map]at g1 g2 g3 g4;simp only[dK,sG]
     (repeat' split) <;>first|rfl|(exfalso;simp_all;done)|(exfalso;simp_all;omega)
    ·refine zk<|cx<|zq<|zy<|cx<|LW.seq<|LW.region<|ay.st Z Z Z (aa.load Z Z Z gv Z Z)<|ay.st Z Z Z (zs Z Z Z Z gv Z Z Z Z)<|ay.nil<|cx<|zr<|zf (.one (.cellAgg Z Z (by kernel_rfl) Z))<|Conv.pe ?_;simp only[decide_eq_true_eq,decide_eq_false_iff_not,length_map]at g1 g2 g3 g4;simp only[dK,sG]
     (repeat' split) <;>first|rfl|(exfalso;simp_all;done)|(exfalso;simp_all;omega)
   ·refine ay.sk Z Z Z (gd g3 Z) Z Z<|ay.sk Z Z Z (gd g3 Z) Z Z<|ay.sk Z Z Z (gd g3 Z) Z Z<|ay.st Z Z Z (aT Z (aJ g3 Z) Z)<|ay.nil<|cx<|LW.condF Z<|zk<|cx<|zq<|zy<|cx<|LW.seq<|LW.region<|ay.st Z Z Z (aa.load Z Z Z gv Z Z)<|ay.st Z Z Z (zs Z Z Z Z gv Z Z Z Z)<|ay.nil<|cx<|zr<|zf (.one (.cellAgg Z Z (by kernel_rfl) Z))<|Conv.pe ?_;simp only[decide_eq_true_eq,decide_eq_false_iff_not]at g1 g2 g3;simp only[dK,sG]
    (repeat' split) <;>first|rfl|(exfalso;simp_all;done)|(exfalso;simp_all;omega)
  ·refine ay.sk Z Z Z (gd g2 Z) Z Z<|ay.sk Z Z Z (gd g2 Z) Z Z<|ay.st Z Z Z (aT Z (aJ g2 Z) Z)<|ay.st Z Z Z (zm Z Z)<|ay.sk Z Z Z Z Z Z<|ay.sk Z Z Z Z Z Z<|ay.sk Z Z Z Z Z Z<|ay.st Z Z Z (aT Z Z Z)<|ay.nil<|cx<|LW.condF Z<|zk<|cx<|zq<|zy<|cx<|LW.seq<|LW.region<|ay.st Z Z Z (aa.load Z Z Z gv Z Z)<|ay.st Z Z Z (zs Z Z Z Z gv Z Z Z Z)<|ay.nil<|cx<|zr<|zf (.one (.cellAgg Z Z (by kernel_rfl) Z))<|Conv.pe ?_;simp only[decide_eq_true_eq]at g1 g2;simp only[dK,sG]
   (repeat' split) <;>first|rfl|(exfalso;simp_all;done)|(exfalso;simp_all;omega)
 ·refine LW.skip<|cx<|LW.exit<|iO (by decide)<|ai<|po<|cx<|LW.seq<|LW.seq<|LW.region<|ay.st Z Z Z (aa.move Z Z)<|ay.st Z Z Z (aa.load Z Z Z aF Z Z)<|ay.st Z Z Z (aa.call Z Z Z (by kernel_rfl) (LC.pure Pe (.cons Conv.p (.cons Conv.p .nil))))<|ay.st Z Z Z (aa.assign Z Z)<|ay.nil<|cx<|LW.seq<|LW.region<|ay.st Z Z Z (aa.move Z Z)<|ay.st Z Z Z (aa.move Z Z) ?_;refine zc 38 Z (fun g5=>?_)<|fun g5=>?_
  ·refine ay.gd Z Z Z (gd g5 Z) Z (aa.move Z Z)<|ay.gd Z Z Z (gd g5 Z) Z (aa.bin Z Z Z Z)<|ay.st Z Z Z (aa.pickT Z (aJ g5 Z) Z)<|ay.st Z Z Z (aa.move Z Z) ?_;refine zc 42 Z (fun g6=>?_)<|fun g6=>?_
   ·refine ay.gd Z Z Z (gd g6 Z) Z (aa.move Z Z)<|ay.gd Z Z Z (gd g6 Z) Z (aa.move Z Z)<|ay.gd Z Z Z (gd g6 Z) Z (aa.bin Z Z Z Z)<|ay.st Z Z Z (aa.pickT Z (aJ g6 Z) Z)<|ay.nil<|cx ?_;refine LW.cond Z (fun g7=>?_)<|fun g7=>?_
    ·refine LW.region<|ay.st Z Z Z (aa.load Z Z Z aF Z Z)<|ay.st Z Z Z (zm Z Z)<|ay.st Z Z Z (aa.fieldAddr Z Z mn)<|ay.st Z Z Z (zs Z Z Z Z aF Z Z Z Z)<|ay.st Z Z Z (aa.fieldAddr Z Z wM)<|ay.st Z Z Z (zs Z Z Z Z aW Z Z Z Z)<|ay.nil<|cx<|zq<|zy<|cx<|LW.seq<|LW.region<|ay.st Z Z Z (aa.load Z Z Z gv Z Z)<|ay.st Z Z Z (zs Z Z Z Z gv Z Z Z Z)<|ay.nil<|cx<|zr<|zf (.one (.cellAgg Z Z (by kernel_rfl) Z))<|Conv.pe ?_;simp only[decide_eq_true_eq,decide_eq_false_iff_not]at g1 g5 g6 g7;simp only[dK,sG]
     (repeat' split) <;>first|rfl|(exfalso;simp_all;done)|(exfalso;simp_all;omega)
    ·refine zk<|cx<|zq<|zy<|cx<|LW.seq<|LW.region<|ay.st Z Z Z (aa.load Z Z Z gv Z Z)<|ay.st Z Z Z (zs Z Z Z Z gv Z Z Z Z)<|ay.nil<|cx<|zr<|zf (.one (.cellAgg Z Z (by kernel_rfl) Z))<|Conv.pe ?_;simp only[decide_eq_true_eq,decide_eq_false_iff_not]at g1 g5 g6 g7;simp only[dK,sG]
     (repeat' split) <;>first|rfl|(exfalso;simp_all;done)|(exfalso;simp_all;omega)
   ·refine ay.sk Z Z Z (gd g6 Z) Z Z<|ay.sk Z Z Z (gd g6 Z) Z Z<|ay.sk Z Z Z (gd g6 Z) Z Z<|ay.st Z Z Z (aT Z (aJ g6 Z) Z)<|ay.nil<|cx<|LW.condF Z<|zk<|cx<|zq<|zy<|cx<|LW.seq<|LW.region<|ay.st Z Z Z (aa.load Z Z Z gv Z Z)<|ay.st Z Z Z (zs Z Z Z Z gv Z Z Z Z)<|ay.nil<|cx<|zr<|zf (.one (.cellAgg Z Z (by kernel_rfl) Z))<|Conv.pe ?_;simp only[decide_eq_false_iff_not]at g1 g5 g6;simp only[dK,sG]
    (repeat' split) <;>first|rfl|(exfalso;simp_all;done)|(exfalso;simp_all;omega)
  ·refine ay.sk Z Z Z (gd g5 Z) Z Z<|ay.sk Z Z Z (gd g5 Z) Z Z<|ay.st Z Z Z (aT Z (aJ g5 Z) Z)<|ay.st Z Z Z (zm Z Z)<|ay.sk Z Z Z Z Z Z<|ay.sk Z Z Z Z Z Z<|ay.sk Z Z Z Z Z Z<|ay.st Z Z Z (aT Z Z Z)<|ay.nil<|cx<|LW.condF Z<|zk<|cx<|zq<|zy<|cx<|LW.seq<|LW.region<|ay.st Z Z Z (aa.load Z Z Z gv Z Z)<|ay.st Z Z Z (zs Z Z Z Z gv Z Z Z Z)<|ay.nil<|cx<|zr<|zf (.one (.cellAgg Z Z (by kernel_rfl) Z))<|Conv.pe ?_;simp only[decide_eq_false_iff_not]at g1 g5;simp only[dK,sG]
   (repeat' split) <;>first|rfl|(exfalso;simp_all;done)|(exfalso;simp_all;omega)
theorem fr {l:List ID}{v:ID}:ap l v= -1/\v∉l\/∃i:Nat,ap l v=i/\l[i]?=some v/\∀j,j<i->l[j]?≠some v:=by
 unfold ap
 cases h:l.findIdx? (fun x=>decide (v=x))with
 |none=>
  left;rw[List.findIdx?_eq_none_iff]at h;exact⟨rfl,fun hm=>by simpa using h v hm⟩
 |some i=>
  right;rw[List.findIdx?_eq_some_iff_getElem]at h;obtain⟨hi,h1,h2⟩:=h;refine⟨i,rfl,by rw[getElem?_eq_getElem hi];simpa using(of_decide_eq_true h1).symm,fun j hj hc=>?_⟩;have:=h2 j hj;rw[getElem?_eq_getElem (by omega)]at hc;simp at hc this;exact this hc.symm
theorem dj {l:List ID}{v:ID}:0<=ap l v↔v∈l:=by
 rcases fr (l:=l) (v:=v)with⟨h1,h2⟩|⟨i,h1,h2,h3⟩
 ·rw[h1];constructor
  ·intro h;omega
  ·intro h;exact absurd h h2
 ·rw[h1];exact⟨fun _=>List.mem_of_getElem? h2,fun _=>by omega⟩
theorem Bq (l:List ID)(v:ID): -1<=ap l v:=by
 rcases fr (l:=l) (v:=v)with⟨h1,h2⟩|⟨i,h1,h2,h3⟩ <;>omega
theorem uk {l:List ID}{v:ID}:ap l v<l.length:=by
 rcases fr (l:=l) (v:=v)with⟨h1,h2⟩|⟨i,h1,h2,h3⟩
 ·omega
 ·have:=(List.getElem?_eq_some_iff.1 h2).1;omega
section
variable {l : List Bk} {m : List (ID × Int)}
theorem sn (hpl:places l=some m):∀(n:Nat) (id:ID) (i:Int),i+1<=n->am m id=some i->(0,0)∈cr l n id i:=by
 intro n
 induction n with
 |zero=>
  intro id i hi hf;rcases(bd hpl).known _ _ hf with⟨-,h⟩|⟨_,_,h,-⟩
  ·simp[cr,h]
  ·omega
 |succ n ih=>
  intro id i hi hf;rcases(bd hpl).known _ _ hf with⟨h,h'⟩|⟨b,p,h0,h1,h2,h3,h4,h5,h6,h7⟩
  ·simp[cr,h,h']
  ·simp only[cr,i0_ (show i≠-1 by omega),h2,hpl,h4];exact List.mem_cons_of_mem _<|ih b.Parent p (by omega) h4
theorem A9 (n:Nat):∀(id:ID) (i:Int),(cr l n id i).length<=n+1:=by
 induction n with
 |zero=>intro id i;simp[cr]
 | succ n ih=>
  intro id i;simp only[cr];split
  ·simp
  ·split
   ·simp
   ·split
    ·simp
    ·split
     ·simp
     ·simp;exact ih _ _
theorem oc (id:ID):(ao l id).length<=l.length+1:=by
 unfold ao;split
 ·simp
 ·rename_i m hpl;split
  ·simp
  ·rename_i i hf;have:=A9 (l:=l) (i+1).toNat id i;rcases(bd hpl).known _ _ hf with⟨h,h'⟩|⟨b,p,h0,h1,h2,h3,h4,h5,h6,h7⟩
   ·rw[h]at this⊢;simp at this⊢;omega
   ·omega
theorem pb {id:ID}(h:ao l id≠[]):(0,0)∈ao l id:=by
 unfold ao at h⊢;split
 ·simp_all
 ·rename_i m hpl;split
  ·simp_all
  ·rename_i i hf;refine sn hpl _ id i ?_ hf;rcases(bd hpl).known _ _ hf with⟨h,h'⟩|⟨b,p,h0,h1,h2,h3,h4,h5,h6,h7⟩ <;>omega
theorem tP (_:places l=some m){id:ID}(_:am m id=some (-1))(n:Nat):cr l n id (-1)=[id]:=by
 cases n with
 |zero=>rfl
 |succ n=>simp[cr]
theorem rv (hpl:places l=some m):∀(n:Nat) (id:ID) (i:Int),i+1<=n->am m id=some i->∀(k:Nat) x,(cr l (i+1).toNat id i)[k]?=some x->
  ∃j:Int,am m x=some j/\j<=i/\(0<k->j<i)/\cr l (j+1).toNat x j=(cr l (i+1).toNat id i).drop k:=by
 intro n
 induction n with
 | zero=>
  intro id i hi hf k x hx;rcases(bd hpl).known _ _ hf with⟨h,h'⟩|⟨b,p,h0,h1,h2,h3,h4,h5,h6,h7⟩
  ·subst h
   have hk:k=0:=by
    have:=(List.getElem?_eq_some_iff.1 hx).1;simp[cr]at this;exact this
   subst hk;simp[cr]at hx;subst hx;exact⟨-1,hf,Int.le_refl _,by omega,rfl⟩
  ·omega
 | succ n ih=>
  intro id i hi hf k x hx;rcases(bd hpl).known _ _ hf with⟨h,h'⟩|⟨b,p,h0,h1,h2,h3,h4,h5,h6,h7⟩
  ·exact ih id i (by omega) hf k x hx
  ·have e:=gy (id:=id) hpl (by omega) h0 h2 h4 h5 h6;rw[e]at hx
   cases k with
   |zero=>
    simp at hx;subst hx;exact⟨i,hf,Int.le_refl _,by omega,rfl⟩
   |succ k=>
    simp at hx;obtain⟨j,g1,g2,g3,g4⟩:=ih b.Parent p (by omega) h4 k x hx;exact⟨j,g1,by omega,fun _=>by omega,by rw[g4,e];rfl⟩
theorem tQ {id x:ID}{k:Nat}(h:(ao l id)[k]?=some x):ao l x=(ao l id).drop k:=by
 unfold ao at h⊢
 cases hpl:places l with
 |none=>rw[hpl]at h;simp at h
 | some m=>
  rw[hpl]at h;simp only at h⊢
  cases hf:am m id with
  |none=>rw[hf]at h;simp at h
  |some i=>
   rw[hf]at h;simp only at h⊢;obtain⟨j,g1,g2,g3,g4⟩:=rv hpl (i+1).toNat id i (by omega) hf k x h;rw[g1];exact g4
theorem Ba {id:ID}(h:ao l id≠[]):(ao l id)[0]?=some id:=by
 unfold ao at h⊢;split
 ·simp_all
 ·rename_i m hpl;split
  ·simp_all
  ·rename_i i hf;rcases(bd hpl).known _ _ hf with⟨h,h'⟩|⟨b,p,h0,h1,h2,h3,h4,h5,h6,h7⟩
   ·subst h;rfl
   ·rw[gy (id:=id) hpl (by omega) h0 h2 h4 h5 h6];rfl
theorem yI (hpl:places l=some m){id:ID}(hf:am m id=some i):∀{a b:Nat} {x y:ID},a<b->(cr l (i+1).toNat id i)[a]?=some x->(cr l (i+1).toNat id i)[b]?=some y->x≠y:=by
 intro a b x y hab ha hb;obtain⟨j,g1,g2,g3,g4⟩:=rv hpl (i+1).toNat id i (by omega) hf a x ha
 have hy:(cr l (j+1).toNat x j)[b-a]?=some y:=by
  rw[g4,List.getElem?_drop,show a+(b-a)=b by omega];exact hb
 obtain⟨j',g5,g6,g7,-⟩:=rv hpl (j+1).toNat x j (by omega) g1 (b-a) y hy;intro e;subst e;rw[g1]at g5;cases g5;have:=g7 (by omega);omega
theorem DR {id x:ID}{a b:Nat}(ha:(ao l id)[a]?=some x)(hb:(ao l id)[b]?=some x):a=b:=by
 unfold ao at ha hb
 cases hpl:places l with
 |none=>rw[hpl]at ha;simp at ha
 | some m=>
  rw[hpl]at ha hb;simp only at ha hb
  cases hf:am m id with
  |none=>rw[hf]at ha;simp at ha
  |some i=>
   rw[hf]at ha hb;simp only at ha hb;rcases Nat.lt_trichotomy a b with h|h|h
   ·exact absurd Z<|yI hpl hf h ha hb
   ·exact h
   ·exact absurd Z<|yI hpl hf h hb ha
theorem gz {id x:ID}(h:x∈ao l id):∃k:Nat,(ao l id)[k]?=some x/\ap (ao l id) x=k:=by
 rcases fr (l:=ao l id) (v:=x)with⟨h1,h2⟩|⟨i,h1,h2,h3⟩
 ·exact absurd h h2
 ·exact⟨i,h2,h1⟩
theorem Bd {a b:ID}(h:a∈ao l b):a∈ao l a:=by
 obtain⟨k,h1,-⟩:=gz h;rw[tQ h1]
 have:((ao l b).drop k)[0]?=some a:=by simpa using h1
 exact List.mem_of_getElem? this
theorem GK {id x y:ID}(hx:x∈ao l id)(hy:y∈ao l id):y∈ao l x↔ap (ao l id) x<=ap (ao l id) y:=by
 obtain⟨a,h1,h2⟩:=gz hx;obtain⟨b,h3,h4⟩:=gz hy;rw[h2,h4,tQ h1];constructor
 ·intro h;obtain⟨q,hq,e⟩:=List.mem_iff_getElem.1 h
  have:(ao l id)[a+q]?=some y:=by
   rw[<-List.getElem?_drop,getElem?_eq_getElem hq,e]
  have:=DR this h3;omega
 ·intro h
  have:((ao l id).drop a)[b-a]?=some y:=by
   rw[List.getElem?_drop,show a+(b-a)=b by omega];exact h3
  exact List.mem_of_getElem? this
end
theorem HP {l:List Bk}{id:ID}(hl:l.length<=1000):i64.wrap ((ao l id).length-1)=(ao l id).length-1:=by
 have:=oc (l:=l) id;exact cX
theorem Ai {α:Type}:∀{l s:List α} {i:Nat} {y:α},bK l i y=some s->br s i=some y
 |x::r,s,0,y,h=>by cases h;rfl
 |x::r,s,i+1,y,h=>by
  simp only[bK]at h;split at h
  ·rename_i q hq;cases h;show br q i=some y;exact Ai hq
  ·cases h
 |[],s,0,y,h=>by cases h
 |[],s,i+1,y,h=>by cases h
theorem OL : (f225.name == "runtime.NumGoroutine") = false := by kernel_rfl
theorem OT :Extern.findNext f225=none:=by kernel_rfl
theorem OD :Extern.find f225=some (Extern.Atomic.loadT (.int .i64)):=by kernel_rfl
theorem OM : (f257.name == "runtime.NumGoroutine") = false := by kernel_rfl
theorem OU :Extern.findNext f257=none:=by kernel_rfl
theorem OE :Extern.find f257=some (Extern.Atomic.update (Op.intArith .add) .i64 true):=by kernel_rfl
theorem ON : (f259.name == "runtime.NumGoroutine") = false := by kernel_rfl
theorem OV :Extern.findNext f259=none:=by kernel_rfl
theorem OF :Extern.find f259=some (Extern.Atomic.loadT (.int .u32)):=by kernel_rfl
theorem OO : (f265.name == "runtime.NumGoroutine") = false := by kernel_rfl
theorem OW :Extern.findNext f265=none:=by kernel_rfl
theorem OG :Extern.find f265=some (Extern.Atomic.storeT):=by kernel_rfl
theorem Ko : (f267.name == "runtime.NumGoroutine") = false := by kernel_rfl
theorem Kq :Extern.findNext f267=none:=by kernel_rfl
theorem Km :Extern.find f267=some (fun _=>do mark .disable;pure Extern.Race.none_):=by kernel_rfl
theorem OP : (f268.name == "runtime.NumGoroutine") = false := by kernel_rfl
theorem OX :Extern.findNext f268=none:=by kernel_rfl
theorem OH :Extern.find f268=some (Extern.Atomic.casT (.int .i32)):=by kernel_rfl
theorem Kp : (f269.name == "runtime.NumGoroutine") = false := by kernel_rfl
theorem Kr :Extern.findNext f269=none:=by kernel_rfl
theorem Kn :Extern.find f269=some (fun _=>do mark .enable;pure Extern.Race.none_):=by kernel_rfl
theorem OQ : (f270.name == "runtime.NumGoroutine") = false := by kernel_rfl
theorem OY :Extern.findNext f270=none:=by kernel_rfl
theorem OI :Extern.find f270=some (Extern.Race.marked .acquire):=by kernel_rfl
theorem OR : (f272.name == "runtime.NumGoroutine") = false := by kernel_rfl
theorem OZ :Extern.findNext f272=none:=by kernel_rfl
theorem OJ :Extern.find f272=some (Extern.Race.marked .releaseMerge):=by kernel_rfl
theorem OS : (f273.name == "runtime.NumGoroutine") = false := by kernel_rfl
theorem O0 :Extern.findNext f273=none:=by kernel_rfl
theorem OK :Extern.find f273=some (Extern.Atomic.update (Op.intArith .add) .i32 true):=by kernel_rfl
theorem Kh :wY prog 302 306=true:=by kernel_rfl
theorem Ld {n:Int}(hH:br H 0=some (.box cs))(h0:br cs (off+0)=some (.p (.int .u32 n))):LC prog 255 [.ptr 0 off] H (Is (.p (.bool (n != 0))) H):=by
 refine eN Tryz.func255 Z Z Z ?_;refine qR<|mN Z<|qR<|zM Z<|yS Z (zn Z Z)<|yS Z (zA Z Z CJ) ?_;refine yS Z (aa.atomLoad (P:=prog) (f:=259) (fn:=f259) Z Z Z Tryz.func259 Z ON OV OF hH h0) ?_;exact yS Z (an Z Z Z Z)<|mN Z<|zr<|aD (.one (.tmp Z))<|⟨rfl,rfl⟩
theorem PX :aq prog 266 [.bool true] [.int .u32 1]:=by
 refine zh Tryz.func266 Z Z Z Z ?_;exact qR<|mN Z<|zQ<|qR<|mN Z<|LW.condT Z<|qR<|mN Z<|zr<|ae<|aZ Z
theorem M4 (hH:br H 0=some (.box cs))(hc:bK cs (off+0) (.p (.int .u32 1))=some cs')(hH':bK H 0 (.box cs')=some H'):KT prog 262 [.ptr 0 off,(bQ true)] H H':=by
 refine KT.start (by kernel_rfl) Tryz.func262 Z Z Z (R:=Is (.tup []) H') (fun _ _ h=>h.2) ?_;refine fB<|zK Z<|yG Z (fun H _=>zn Z Z)<|yG Z (fun H _=>zA Z Z CJ)<|zK Z ?_;refine yF (F:=[]) (s:=none) Z (fun H _=>yC Z Z Z (zp PX dG)) Z ?_;refine yF Z (cj.atomStore (P:=prog) (f:=265) (fn:=f265) Z Z Z Tryz.func265 Z OO OW OG Z hH hc) hH' ?_;refine LF.nil ⟨by kernel_rfl,?_⟩;exact i7 .none<|⟨rfl,rfl⟩
theorem PU (hH:br H 0=some (.box cs))(h0:br cs (off+0)=some (.p (.int .i32 0)))(hc:bK cs (off+0) (.p (.int .i32 1))=some cs')(hH':bK H 0 (.box cs')=some H')(hb:blt off cs'.length=true):LC prog 263 [.ptr 0 off] H (Is (.tup []) H'):=by
 refine eN Tryz.func263 Z Z Z ?_;refine qR ?_;refine yS Z (aa.mark0 (P:=prog) (f:=267) (fn:=f267) Z Z Z Tryz.func267 Z Ko Kq Km) ?_;refine nT<|zQ<|qR<|zM Z<|yS Z (zn Z Z)<|yS Z (zA Z Z wI) ?_;refine yS Z (aa.atomCas (P:=prog) (f:=268) (fn:=f268) Z Z Z Tryz.func268 Z OP OX OH hH h0 hc hH') ?_;refine nT<|LW.condT Z<|zQ<|LW.condT Z<|qR ?_;refine yS Z (aa.mark0 (P:=prog) (f:=269) (fn:=f269) Z Z Z Tryz.func269 Z Kp Kr Kn) ?_;refine nT<|zR<|zM Z<|yS Z (aa.convPtr Z Z (Ai hH') hb Kh) ?_;refine yS Z (aa.markP (P:=prog) (f:=270) (fn:=f270) Z Z Z Tryz.func270 Z OQ OY OI) ?_;exact nT<|LW.ret<|ae<|aD .none<|⟨rfl,rfl⟩
theorem PT (hH:br H 0=some (.box cs))(h0:br cs (off+0+0)=some (.p (.int .i32 0)))(hc:bK cs (off+0+0) (.p (.int .i32 1))=some cs')(hH':bK H 0 (.box cs')=some H')(hb:blt (off+0) cs'.length=true):LC prog 260 [.ptr 0 off] H (Is (.tup []) H'):=by
 refine eN Tryz.func260 Z Z Z ?_;exact zR<|zM Z<|yS Z (zn Z Z)<|yS Z (zA Z Z CK)<|yS Z (yC Z Z Z (PU hH h0 hc hH' hb))<|zN<|i7 .none<|⟨rfl,rfl⟩
theorem PW (hH:br H 0=some (.box cs))(h0:br cs (off+0)=some (.p (.int .i32 1)))(hb:blt off cs.length=true)(hc:bK cs (off+0) (.p (.int .i32 0))=some cs')(hH':bK H 0 (.box cs')=some H'):LC prog 264 [.ptr 0 off] H (Is (.tup []) H'):=by
 refine eN Tryz.func264 Z Z Z ?_;refine zQ<|LW.condT Z<|qR<|zM Z<|yS Z (zn Z Z)<|yS Z (zA Z Z wI)<|yS Z (aa.load1 Z Z hH Qi h0)<|nT<|qR<|zM Z<|yS Z (aa.convPtr Z Z hH hb Kh) ?_;refine yS Z (aa.markP (P:=prog) (f:=272) (fn:=f272) Z Z Z Tryz.func272 Z OR OZ OJ) ?_;refine nT<|zR ?_;refine yS Z (aa.mark0 (P:=prog) (f:=267) (fn:=f267) Z Z Z Tryz.func267 Z Ko Kq Km) ?_;refine nT<|qR<|zM Z<|yS Z (zn Z Z)<|yS Z (zA Z Z wI) ?_;refine yS Z (aa.atomAdd (P:=prog) (f:=273) (fn:=f273) Z Z Z Tryz.func273 Z OS O0 OK hH h0 hc hH') ?_;refine mN Z<|zQ<|qR<|zM Z<|yS Z (an Z Z Z Z)<|nT<|LW.condF Z<|zk<|zT<|zR ?_;refine yS Z (aa.mark0 (P:=prog) (f:=269) (fn:=f269) Z Z Z Tryz.func269 Z Kp Kr Kn) ?_;exact zN<|i7 .none<|⟨rfl,rfl⟩
theorem M3 (hH:br H 0=some (.box cs))(h0:br cs (off+0+0)=some (.p (.int .i32 1)))(hb:blt (off+0) cs.length=true)(hc:bK cs (off+0+0) (.p (.int .i32 0))=some cs')(hH':bK H 0 (.box cs')=some H'):KT prog 261 [.ptr 0 off] H H':=by
 refine KT.start (by kernel_rfl) Tryz.func261 Z Z Z (R:=Is (.tup []) H') (fun _ _ h=>h.2) ?_;exact zR<|zM Z<|yS Z (zn Z Z)<|yS Z (zA Z Z CK)<|yS Z (yC Z Z Z (PW hH h0 hb hc hH'))<|zN<|i7 .none<|⟨rfl,rfl⟩
theorem M1 {n m:Int}(hH:br H 0=some (.box cs))(h0:br cs (off+0)=some (iQ n))(hc:bK cs (off+0) (.p (.int .i64 (i64.wrap (n+m))))=some cs')(hH':bK H 0 (.box cs')=some H'):LC prog 249 [.ptr 0 off,(iQ m)] H (Is (.p (.int .i64 (i64.wrap (n+m)))) H'):=by
 refine eN Tryz.func249 Z Z Z ?_;refine qR<|mN Z<|qR<|zM Z<|yS Z (zn Z Z)<|yS Z (zA Z Z CP)<|zM Z ?_;refine yS Z (aa.atomAdd (P:=prog) (f:=257) (fn:=f257) Z Z Z Tryz.func257 Z OM OU OE hH h0 hc hH') ?_;exact mN Z<|LW.ret<|aD (.one (.tmp Z))<|⟨rfl,rfl⟩
theorem Pu {n:Int}(hH:br H 0=some (.box cs))(h0:br cs (off+0)=some (iQ n)):LC prog 197 [.ptr 0 off] H (Is (iQ n) H):=by
 refine eN Tryz.func197 Z Z Z ?_;refine qR<|mN Z<|qR<|zM Z<|yS Z (zn Z Z)<|yS Z (zA Z Z CP) ?_;refine yS Z (aa.atomLoad (P:=prog) (f:=225) (fn:=f225) Z Z Z Tryz.func225 Z OL OT OD hH h0) ?_;exact mN Z<|LW.ret<|aD (.one (.tmp Z))<|⟨rfl,rfl⟩
def ej (seed n r:Int):Int:=i64.wrap ((step seed (u64.wrap r)).tmod (u64.wrap n))
def nA (seed r:Int):Int:=step seed (u64.wrap (i64.wrap (1000+r)))
theorem PN {seed n r:Int}(hs:br cs (0+0)=some (uQ seed))(hn:br cs (0+1)=some (iQ n))(hz:u64.wrap n≠0)
  (hs1:br cs1 (0+0)=some (uQ seed)) (hc1:bK cs (q+3) (.p (.int .i64 (ej seed n r)))=some cs1) (hc2:bK cs1 (q+4) (.p (.int .u64 (nA seed r)))=some cs2) :
  LC prog 248 [.ptr 1 0,.ptr 2 0,.ptr 3 0] [.box cs,.box [.ptr 0 0],.box [(iQ r)],.box [.ptr 0 q]] (Is (.tup []) [.box cs2,.box [.ptr 0 0],.box [(iQ r)],.box [.ptr 0 q]]):=by
 refine eN Tryz.func248 Z Z Z ?_;refine zQ<|fB<|yF Z (zd Z Z Z sA Z Z) Z<|yF Z (zd Z Z Z uP Z Z) Z<|yG Z (fun H _=>zn Z Z)<|yG Z (fun H _=>zA Z Z CQ)<|yF Z (cj.load1 Z Z Z iT hs) Z<|yF Z (zd Z Z Z aW Z Z) Z<|yG Z (fun H _=>aa.convert (k':=.u64) Z Z (by kernel_rfl)) ?_;refine yF (F:=[]) (s:=none) Z (fun H _=>zC Z Z Z (by kernel_rfl) (zp (yy (h:=seed) (x:=(u64.wrap (r)))) bG)) Z ?_;refine yF Z (zd Z Z Z uP Z Z) Z<|yG Z (fun H _=>zn Z Z)<|yG Z (fun H _=>zA Z Z wJ)<|yF Z (cj.load1 Z Z Z aW hn) Z<|yG Z (fun H _=>aa.convert (k':=.u64) Z Z (by kernel_rfl))<|yG Z (fun H _=>aa.rem Z Z Z hz)<|yG Z (fun H _=>aa.convert (k':=.i64) Z Z (by kernel_rfl))<|yG Z (fun H _=>zn Z Z)<|yG Z (fun H _=>zA Z Z CN)<|yF Z (cj.store1 Z Z Z Z aW Z hc1) Z ?_;refine LF.nil ⟨by kernel_rfl,?_⟩;refine zT<|fB<|yF Z (zd Z Z Z sA Z Z) Z<|yF Z (zd Z Z Z uP Z Z) Z<|yG Z (fun H _=>zn Z Z)<|yG Z (fun H _=>zA Z Z CQ)<|yF Z (cj.load1 Z Z Z iT hs1) Z<|yF Z (zd Z Z Z aW Z Z) Z<|yG Z (fun H _=>an Z Z Z Z)<|yG Z (fun H _=>aa.convert (k':=.u64) Z Z (by kernel_rfl)) ?_;refine yF (F:=[]) (s:=none) Z (fun H _=>zC Z Z Z (by kernel_rfl) (zp (yy (h:=seed) (x:=(u64.wrap (i64.wrap (1000+r))))) bG)) Z ?_;refine yG Z (fun H _=>zn Z Z)<|yG Z (fun H _=>zA Z Z CO)<|yF Z (cj.store1 Z Z Z Z iT Z hc2) Z ?_;refine LF.nil ⟨by kernel_rfl,?_⟩;exact i7 .none<|⟨rfl,rfl⟩
abbrev Hs :LV:=.fn 248 [] [.ptr 1 0,.ptr 2 0,.ptr 3 0]
theorem PS {seed n r:Int}(hm:br cs (q+0+1+0+0)=some (.p (.int .i32 0)))(hA:bK cs (q+0+1+0+0) (.p (.int .i32 1))=some csA)(hAb:blt (q+0+1+0) csA.length=true)
  (hd:br csA (q+0+0+0)=some (.p (.int .u32 0))) (hs:br csA (0+0)=some (uQ seed)) (hn:br csA (0+1)=some (iQ n)) (hz:u64.wrap n≠0)
  (hs1:br cs1 (0+0)=some (uQ seed)) (hc1:bK csA (q+3) (.p (.int .i64 (ej seed n r)))=some cs1) (hc2:bK cs1 (q+4) (.p (.int .u64 (nA seed r)))=some cs2)
  (hD:bK cs2 (q+0+0+0) (.p (.int .u32 1))=some csD) (hDm:br csD (q+0+1+0+0)=some (.p (.int .i32 1))) (hDb:blt (q+0+1+0) csD.length=true) (hE:bK csD (q+0+1+0+0) (.p (.int .i32 0))=some csE) :
  LC prog 256 [.ptr 0 (q+0),Hs] [.box cs,.box [.ptr 0 0],.box [(iQ r)],.box [.ptr 0 q]] (Is (.tup []) [.box csE,.box [.ptr 0 0],.box [(iQ r)],.box [.ptr 0 q]]):=by
 refine LC.ofD Tryz.func256 Z Z Z Z ?_;exact uY.seq<|uY.region<|da.st Z Z Z (zm Z Z)<|da.st Z Z Z (zn Z Z)<|da.st Z Z Z (zA Z Z CL)<|da.st Z Z Z (yC Z Z Z (PT (off:=q+0+1) Z hm hA Z hAb))<|da.nil<|uY.seq<|uY.region<|da.st Z Z Z (zm Z Z)<|da.st Z Z Z (zn Z Z)<|da.st Z Z Z (zA Z Z CL)<|da.defer Z Z Z Z Z<|da.nil<|uY.seq<|uY.region<|da.st Z Z Z (zm Z Z)<|da.st Z Z Z (zn Z Z)<|da.st Z Z Z (zA Z Z sV)<|da.st Z Z Z (yC Z Z Z (Ld (off:=q+0+0) (n:=0) Z hd))<|da.st Z Z Z (aa.not Z Z)<|da.nil<|uY.condT Z<|uY.seq<|uY.region<|da.st Z Z Z (zm Z Z)<|da.st Z Z Z (zn Z Z)<|da.st Z Z Z (zA Z Z sV)<|da.defer Z Z Z Z Z<|da.nil<|uY.region<|da.st Z Z Z (zm Z Z)<|da.st Z Z Z (yC Z Z Z (PN hs hn hz hs1 hc1 hc2))<|da.nil<|⟨.inl rfl,.cons (M4 (off:=q+0+0) Z hD Z) (.cons (M3 (off:=q+0+1) Z hDm hDb hE Z) .nil)⟩
theorem M0 {seed n r:Int}(hd0:br cs (q+0+0+0)=some (.p (.int .u32 0)))(hm:br cs (q+0+1+0+0)=some (.p (.int .i32 0)))(hA:bK cs (q+0+1+0+0) (.p (.int .i32 1))=some csA)(hAb:blt (q+0+1+0) csA.length=true)
  (hd:br csA (q+0+0+0)=some (.p (.int .u32 0))) (hs:br csA (0+0)=some (uQ seed)) (hn:br csA (0+1)=some (iQ n)) (hz:u64.wrap n≠0)
  (hs1:br cs1 (0+0)=some (uQ seed)) (hc1:bK csA (q+3) (.p (.int .i64 (ej seed n r)))=some cs1) (hc2:bK cs1 (q+4) (.p (.int .u64 (nA seed r)))=some cs2)
  (hD:bK cs2 (q+0+0+0) (.p (.int .u32 1))=some csD) (hDm:br csD (q+0+1+0+0)=some (.p (.int .i32 1))) (hDb:blt (q+0+1+0) csD.length=true) (hE:bK csD (q+0+1+0+0) (.p (.int .i32 0))=some csE):LC prog 247 [.ptr 0 (q+0),Hs] [.box cs,.box [.ptr 0 0],.box [(iQ r)],.box [.ptr 0 q]] (Is (.tup []) [.box csE,.box [.ptr 0 0],.box [(iQ r)],.box [.ptr 0 q]]):=by
 refine eN Tryz.func247 Z Z Z ?_;exact qR<|zM Z<|yS Z (zn Z Z)<|yS Z (zA Z Z sV)<|yS Z (yC Z Z Z (Ld (off:=q+0+0) (n:=0) Z hd0))<|yS Z (aa.not Z Z)<|nT<|LW.condT Z<|zR<|zM Z<|zM Z<|yS Z (yC Z Z Z (PS hm hA hAb hd hs hn hz hs1 hc1 hc2 hD hDm hDb hE))<|zN<|i7 .none<|⟨rfl,rfl⟩
theorem MZ (hd:br cs (q+0+0+0)=some (.p (.int .u32 1))):LC prog 247 [.ptr 0 (q+0),Hs] [.box cs,.box [.ptr 0 0],.box [(iQ r)],.box [.ptr 0 q]] (Is (.tup []) [.box cs,.box [.ptr 0 0],.box [(iQ r)],.box [.ptr 0 q]]):=by
 refine eN Tryz.func247 Z Z Z ?_;exact qR<|zM Z<|yS Z (zn Z Z)<|yS Z (zA Z Z sV)<|yS Z (yC Z Z Z (Ld (off:=q+0+0) (n:=1) Z hd))<|yS Z (aa.not Z Z)<|nT<|LW.condF Z<|zk<|i7 .none<|⟨rfl,rfl⟩
def kM (seed n r:Int)(b:Bool):List LV:=
 [.p (.int .u32 (cond b 1 0)),.p (.int .i32 0),.p (.int .u32 0),.p (.int .i64 (cond b (ej seed n r) 0)),.p (.int .u64 (cond b (nA seed r) 0))]
def yJ (seed n:Int)(f:Nat->Bool)(k:Int):List LV:=
 (uQ seed)::(iQ n)::(kM seed n 0 (f 0)++(kM seed n 1 (f 1)++(kM seed n 2 (f 2)++(kM seed n 3 (f 3)++(kM seed n 4 (f 4)++(kM seed n 5 (f 5)++(kM seed n 6 (f 6)++(kM seed n 7 (f 7)++(kM seed n 8 (f 8)++(kM seed n 9 (f 9)++[(iQ k)]))))))))))
def Eo (f:Nat->Bool)(i:Nat):Nat->Bool:=fun j=>cond (beq j i) true (f j)
def Lz (f:Nat->Bool)(i:Nat):Nat->Bool:=fun j=>cond (beq j i) false (f j)
theorem C9 {f:Nat->Bool}{i:Nat}(h:f i=true):Eo f i=f:=by
 funext j;unfold Eo
 cases e:beq j i with
 |false=>rfl
 |true=>rw[Nat.eq_of_beq_eq_true e,h];rfl
theorem I7 {f:Nat->Bool}{i:Nat}(h:f i=false):Lz f i=f:=by
 funext j;unfold Lz
 cases e:beq j i with
 |false=>rfl
 |true=>rw[Nat.eq_of_beq_eq_true e,h];rfl
structure Dk where
 f:Nat->Bool
 k:Int
def ku (seed n:Int)(d:Dk):List LV:=yJ seed n d.f d.k
def Dk.turned (d:Dk)(r:Int):Dk:=⟨Eo d.f r.toNat,i64.wrap (d.k+1)⟩
def uL (n r:Int):Bool:=decide (n≠0/\u64.wrap n≠0/\0<=r/\r<10)
theorem im {n r:Int}(h:uL n r=true):n≠0/\u64.wrap n≠0/\0<=r/\r<10:=of_decide_eq_true h
theorem MU {seed n r:Int}(hd0:br cs ((2+r.toNat*5)+0+0+0)=some (.p (.int .u32 0)))(hm:br cs ((2+r.toNat*5)+0+1+0+0)=some (.p (.int .i32 0)))(hA:bK cs ((2+r.toNat*5)+0+1+0+0) (.p (.int .i32 1))=some csA)(hAb:blt ((2+r.toNat*5)+0+1+0) csA.length=true)
  (hd:br csA ((2+r.toNat*5)+0+0+0)=some (.p (.int .u32 0))) (hs:br csA (0+0)=some (uQ seed)) (hn:br csA (0+1)=some (iQ n)) (hz:u64.wrap n≠0)
  (hs1:br cs1 (0+0)=some (uQ seed)) (hc1:bK csA ((2+r.toNat*5)+3) (.p (.int .i64 (ej seed n r)))=some cs1) (hc2:bK cs1 ((2+r.toNat*5)+4) (.p (.int .u64 (nA seed r)))=some cs2)
  (hD:bK cs2 ((2+r.toNat*5)+0+0+0) (.p (.int .u32 1))=some csD) (hDm:br csD ((2+r.toNat*5)+0+1+0+0)=some (.p (.int .i32 1))) (hDb:blt ((2+r.toNat*5)+0+1+0) csD.length=true) (hE:bK csD ((2+r.toNat*5)+0+1+0+0) (.p (.int .i32 0))=some csE) {k:Int} (hr0:0<=r) (hr1:r<10) (hk:br csE (0+52+0)=some (iQ k)) (hF:bK csE (0+52+0) (.p (.int .i64 (i64.wrap (k+1))))=some csF) (hl:LV.lowsB 1 csF=true):LC prog 234 [.ptr 0 0,(iQ r)] [.box cs] (Is (.ptr 0 (2+r.toNat*5)) [.box csF]):=by
 refine eN Tryz.func234 Z Z Z ?_;refine qR<|yS Z (bx Z Z Z Z Z)<|yS Z (bx Z Z Z Z Z)<|mN Z<|zQ<|LW.ent (bY.slot Z)<|fB<|yF Z (zd Z Z Z uP Z Z) Z<|yF Z (zd Z Z Z aW Z Z) Z<|yG Z (fun H _=>zn Z Z)<|yG Z (fun H _=>zA Z Z CR)<|yG Z (fun H _=>aa.indexAddrA Z Z Z JD hr0 hr1)<|yF Z (cj.alloc Z Ku (id:=3) Z) Z<|yF Z (zt Z Z Z Z sA Z Z Z) Z ?_;refine LF.nil ⟨by kernel_rfl,?_⟩;refine zT<|qR<|yS Z (zD Z Z Z sA Z Z)<|yS Z (zn Z Z)<|yS Z (zA Z Z CM)<|yS Z (aa.makeFunc Z Z Z)<|yS Z (yC Z Z Z (M0 (q:=(2+r.toNat*5)) hd0 hm hA hAb hd hs hn hz hs1 hc1 hc2 hD hDm hDb hE))<|nT<|qR<|yS Z (zD Z Z Z uP Z Z)<|yS Z (zn Z Z)<|yS Z (zA Z Z wK)<|yS Z (yC Z Z Z (M1 (off:=0+52) Z hk hF Z))<|nT<|qR<|yS Z (zD Z Z Z sA Z Z)<|mN Z<|zr ?_;refine bT (env':=[(4,.ptr 0 (2+r.toNat*5))]) (H':=[.box csF]) (zW 1 ⟨Z,t_⟩ Z Z Z (zL hl Z)) (.one (.tmp Z)) ⟨rfl,rfl⟩
theorem MT (hd:br cs ((2+r.toNat*5)+0+0+0)=some (.p (.int .u32 1))){k:Int}(hr0:0<=r)(hr1:r<10)(hk:br cs (0+52+0)=some (iQ k))(hF:bK cs (0+52+0) (.p (.int .i64 (i64.wrap (k+1))))=some csF)(hl:LV.lowsB 1 csF=true):LC prog 234 [.ptr 0 0,(iQ r)] [.box cs] (Is (.ptr 0 (2+r.toNat*5)) [.box csF]):=by
 refine eN Tryz.func234 Z Z Z ?_;refine qR<|yS Z (bx Z Z Z Z Z)<|yS Z (bx Z Z Z Z Z)<|mN Z<|zQ<|LW.ent (bY.slot Z)<|fB<|yF Z (zd Z Z Z uP Z Z) Z<|yF Z (zd Z Z Z aW Z Z) Z<|yG Z (fun H _=>zn Z Z)<|yG Z (fun H _=>zA Z Z CR)<|yG Z (fun H _=>aa.indexAddrA Z Z Z JD hr0 hr1)<|yF Z (cj.alloc Z Ku (id:=3) Z) Z<|yF Z (zt Z Z Z Z sA Z Z Z) Z ?_;refine LF.nil ⟨by kernel_rfl,?_⟩;refine zT<|qR<|yS Z (zD Z Z Z sA Z Z)<|yS Z (zn Z Z)<|yS Z (zA Z Z CM)<|yS Z (aa.makeFunc Z Z Z)<|yS Z (yC Z Z Z (MZ (q:=(2+r.toNat*5)) hd))<|nT<|qR<|yS Z (zD Z Z Z uP Z Z)<|yS Z (zn Z Z)<|yS Z (zA Z Z wK)<|yS Z (yC Z Z Z (M1 (off:=0+52) Z hk hF Z))<|nT<|qR<|yS Z (zD Z Z Z sA Z Z)<|mN Z<|zr ?_;refine bT (env':=[(4,.ptr 0 (2+r.toNat*5))]) (H':=[.box csF]) (zW 1 ⟨Z,t_⟩ Z Z Z (zL hl Z)) (.one (.tmp Z)) ⟨rfl,rfl⟩
theorem GY {seed n r k:Int}{f:Nat->Bool}(hz:u64.wrap n≠0)(hr0:0<=r)(hr1:r<10) :
  LC prog 234 [.ptr 0 0,(iQ r)] [.box (yJ seed n (Lz f r.toNat) k)] (Is (.ptr 0 (2+r.toNat*5)) [.box (yJ seed n (Eo f r.toNat) (i64.wrap (k+1)))]):=by
 have hc:r=0\/r=1\/r=2\/r=3\/r=4\/r=5\/r=6\/r=7\/r=8\/r=9:=by omega
 rcases hc with rfl|rfl|rfl|rfl|rfl|rfl|rfl|rfl|rfl|rfl
 all_goals exact MU (seed:=seed) (n:=n) rfl rfl rfl rfl rfl rfl rfl hz rfl rfl rfl rfl rfl rfl rfl hr0 hr1 rfl rfl rfl
theorem GX {seed n r k:Int}{f:Nat->Bool}(hr0:0<=r)(hr1:r<10) :
  LC prog 234 [.ptr 0 0,(iQ r)] [.box (yJ seed n (Eo f r.toNat) k)] (Is (.ptr 0 (2+r.toNat*5)) [.box (yJ seed n (Eo f r.toNat) (i64.wrap (k+1)))]):=by
 have hc:r=0\/r=1\/r=2\/r=3\/r=4\/r=5\/r=6\/r=7\/r=8\/r=9:=by omega
 rcases hc with rfl|rfl|rfl|rfl|rfl|rfl|rfl|rfl|rfl|rfl
 all_goals exact MT rfl hr0 hr1 rfl rfl rfl
theorem PG {seed n r:Int}{d:Dk}(h:uL n r=true):LC prog 234 [.ptr 0 0,(iQ r)] [.box (ku seed n d)] (Is (.ptr 0 (2+r.toNat*5)) [.box (ku seed n (d.turned r))]):=by
 obtain⟨-,h1,h2,h3⟩:=im h
 cases hf:d.f r.toNat with
 |true=>
  have:=GX (seed:=seed) (n:=n) (k:=d.k) (f:=d.f) h2 h3;rw[C9 hf]at this;unfold ku Dk.turned;rw[C9 hf];exact this
 |false=>
  have:=GY (seed:=seed) (n:=n) (k:=d.k) (f:=d.f) h1 h2 h3;rw[I7 hf]at this;exact this
theorem Be {seed n r:Int}{d:Dk}(hr0:0<=r)(hr1:r<10):br (ku seed n (d.turned r)) (2+r.toNat*5+3)=some (.p (.int .i64 (ej seed n r))):=by
 have hc:r=0\/r=1\/r=2\/r=3\/r=4\/r=5\/r=6\/r=7\/r=8\/r=9:=by omega
 rcases hc with rfl|rfl|rfl|rfl|rfl|rfl|rfl|rfl|rfl|rfl
 all_goals rfl
theorem DV {seed n r:Int}{d:Dk}(hr0:0<=r)(hr1:r<10):br (ku seed n (d.turned r)) (2+r.toNat*5+4)=some (.p (.int .u64 (nA seed r))):=by
 have hc:r=0\/r=1\/r=2\/r=3\/r=4\/r=5\/r=6\/r=7\/r=8\/r=9:=by omega
 rcases hc with rfl|rfl|rfl|rfl|rfl|rfl|rfl|rfl|rfl|rfl
 all_goals rfl
def fu (seed n r i:Int):Int:=(i64.wrap (i64.wrap (ej seed n r+n)-i)).tmod n
def uK (seed n r i:Int):Bool:=bits .and .u64 (step (nA seed r) (u64.wrap (if fu seed n r i>i then fu seed n r i else i))) 1==1
def nB (seed n r i:Int):Int:=bif uK seed n r i then fu seed n r i else i
theorem Pt {seed n r i:Int}{d:Dk}(h:uL n r=true):LC prog 224 [.ptr 0 0,(iQ r),(iQ i)] [.box (ku seed n d)] (Is (.p (.int .i64 (nB seed n r i))) [.box (ku seed n (d.turned r))]):=by
 refine eN Tryz.func224 Z Z Z ?_;refine qR<|mN Z<|qR<|zM Z<|zM Z<|yS Z (yC Z Z Z (PG h))<|mN Z<|zQ<|dx<|zH Z<|yE Z (zn Z Z)<|yE Z (zA Z Z CN)<|yE Z (aa.load1 Z Z Z aW (Be (im h).2.2.1 (im h).2.2.2))<|zH Z<|yE Z (zn Z Z)<|yE Z (zA Z Z wJ)<|yE Z (aa.load1 Z Z Z aW Z)<|yE Z (an Z Z Z Z)<|zH Z<|yE Z (an Z Z Z Z)<|zH Z<|yE Z (zn Z Z)<|yE Z (zA Z Z wJ)<|yE Z (aa.load1 Z Z Z aW Z)<|yE Z (aa.rem Z Z Z (im h).1)<|zH Z<|LO.nil<|zT<|zQ<|qR<|zM Z<|yS Z (zn Z Z)<|yS Z (zA Z Z CO)<|yS Z (aa.load1 Z Z Z iT (DV (im h).2.2.1 (im h).2.2.2))<|zM Z<|zM Z<|yS Z (aa.max Z Z Z)<|yS Z (aa.convert (k':=.u64) Z Z (by kernel_rfl))<|yS Z (zC Z Z Z (by kernel_rfl) (zp (yy (h:=(nA seed r)) (x:=(u64.wrap (if (fu seed n r i)>i then(fu seed n r i)else i)))) bG))<|yS Z (an Z Z Z Z)<|yS Z (an Z Z Z Z)<|nT ?_;refine zX Z (fun g1=>?_)<|fun g1=>?_
 ·exact qR<|zM Z<|mN Z<|zr<|ae<|aD (.one (.tmp Z))<|⟨by unfold nB uK;rw[g1];rfl,rfl⟩
 ·exact zk<|zT<|qR<|zM Z<|mN Z<|zr<|aD (.one (.tmp Z))<|⟨by unfold nB uK;rw[g1];rfl,rfl⟩
def few (l:List Bk):Bool:=decide (l.length<=1000)
theorem Bf {l:List Bk}(h:few l=true):l.length<=1000:=of_decide_eq_true h
def L3 (l:List Bk):Option Bool:=
 (match places l with
 |none=>
  some false
 |some _=>
  some true)
theorem Qr {l:List Bk}{r_:Bool}(h:L3 l=some r_):aq prog 190 [.slice 5 (l.map aA)] [.bool r_]:=by
 refine zh Tryz.func190 Z Z Z Z ?_;unfold L3 at h;refine qR<|mN Z<|qR<|zM Z ?_;rcases h_f1:places l with _|m_
 ·rw[h_f1]at h;simp only at h;refine yS Z (yC Z Z Z (NN h_f1))<|zM Z<|yS Z (eW Z Z Z)<|yS Z (eW Z Z Z)<|zM Z<|mN Z<|qR<|zM Z<|mN Z<|zr ?_;cases h;exact aZ Z
 ·rw[h_f1]at h;simp only at h;refine yS Z (yC Z Z Z (NO h_f1 Z Z Z))<|zM Z<|yS Z (eW Z Z Z)<|yS Z (eW Z Z Z)<|zM Z<|mN Z<|qR<|zM Z<|mN Z<|zr ?_;cases h;exact aZ Z
structure mX where
 t13:Int
 out:List ID
def rg (l:List Bk)(id:ID)(x1:mX):Option (mX⊕mX):=bif decide (x1.t13<(l.length:Int))then (ix l x1.t13).bind fun y1=>bif ((y1.Parent.1==id.1)&&((y1.Parent.2==id.2)&&true))then bif bJ x1.out.length [nm y1].length 16 then some (.inl (mX.mk (i64.wrap (x1.t13+1)) (x1.out++[nm y1])))else none else some (.inl (mX.mk (i64.wrap (x1.t13+1)) x1.out))else some (.inr (mX.mk x1.t13 x1.out))
def Mh (l:List Bk)(id:ID):Option (List ID):=(L3 l).bind fun v1=>bif !v1 then some [] else (iter (rg l id) aY (mX.mk 0 ([]:List ID))).bind fun v2=>some v2.out
theorem QH {l:List Bk}{id:ID}{r_:(List ID)}(h:Mh l id=some r_):aq prog 178 [.slice 5 (l.map aA),aX id] [.slice 2 (r_.map aX)]:=by
 refine zh Tryz.func178 Z Z Z Z ?_;unfold Mh at h;refine qR<|yS Z (bx Z Z Z Z Z)<|mN Z<|zQ<|qR<|zM Z<|zb h fun v1 a1 h=>yS Z (yP Z Z Z (Qr a1) dG)<|yS Z (aa.not Z Z)<|nT ?_;refine zX Z (fun g1=>?_)<|fun g1=>?_
 ·refine zi g1 h fun h=>qR<|mN Z<|LW.ret<|ae ?_;cases h;exact zf (.one (.tmp Z)) Conv.zs
 ·refine zo g1 h fun h=>zk<|zT<|qR<|mN Z<|zQ<|qR<|zM Z<|yS Z (ck Z Z)<|mN Z<|LW.ent (bY.lazy (t:=5) (m:=2) Z Z Z) ?_;obtain⟨v2,p2,b2⟩:=zB h;clear h;refine LW.tail (E:=[(4,.zs),(5,.vec 2 1 (v2.out.map aX).length 0 (v2.out.map aX).length)]) (O:=[.box [(uQ id.1),(uQ id.2)],.vec 2 (v2.out.map aX)]) ?_<|fun e2 K2 u2=>?_
  ·refine LW.block ?_;refine LW.iterB (E:=fun x1:mX=>[(3,.ptr 0 0),(4,.zs),(5,.vec 2 1 (x1.out.map aX).length 0 (x1.out.map aX).length),(11,(kB l)),(12,.p (.int .i64 (l.length:Int))),(13,(iQ x1.t13))]) (O:=fun x1=>[.box [(uQ id.1),(uQ id.2)],.vec 2 (x1.out.map aX)]) p2 (av 2 ⟨Z,Z,Z,Z,Z,Z,t_⟩)<|fun x1 z1 h m1=>?_;unfold rg at h;refine qR<|yS Z (an Z Z Z Z)<|nT<|zQ ?_;refine zX Z (fun g2=>?_)<|fun g2=>?_
   ·refine zi g2 h fun h=>zk<|zT<|zQ<|zl<|qR<|zb h fun y1 j1 h=>yS Z (zx Z Z Z cw j1 Z)<|yS Z (bR Z Z Z ce Z Z)<|yS Z (ze Z uW Z Z)<|yS Z (zs Z Z Z Z ce Z Z Z Z)<|nT<|qR<|yS Z (zA Z Z gt)<|yS Z (zD Z Z Z aF Z Z)<|yS Z (zD Z Z Z aF Z Z)<|yS Z (aa.eqlAgg Z Z Z Z Z gV)<|nT ?_;refine zX Z (fun g3=>?_)<|fun g3=>?_
    ·refine zi g3 h fun h=>zR<|zM Z<|yS Z (zD Z Z Z ce Z Z)<|yS Z (yP Z Z Z (Ma (b:=y1)) dG)<|yS Z (gR Z fH Z Z Z Z Z)<|zg h fun q1 h=>yS Z (aa.appendX aX x1.out [nm y1] rfl Z Z Z iy.p Z fH q1 Z)<|zM Z<|zN<|af<|zT<|zR<|yS Z (an Z Z Z Z)<|mN Z ?_;cases h;exact⟨_,rfl,av 2 ⟨Z,Z,Z,Z,Z,Z,t_⟩⟩
    ·refine zo g3 h fun h=>zk<|af<|zT<|zR<|yS Z (an Z Z Z Z)<|mN Z ?_;cases h;exact⟨_,rfl,av 2 ⟨Z,Z,Z,Z,Z,Z,t_⟩⟩
   ·refine zo g2 h fun h=>zq<|ai<|ai<|zy<|zT ?_;cases h;obtain rfl:=(m1 _ rfl);exact av 2 ⟨Z,Z,t_⟩
  ·have h:=b2;clear p2;refine zT<|LW.weak u2<|qR<|zM Z<|mN Z<|zr ?_;cases h;exact zf (.one (.tmp Z))<|(Conv.vecAll Z Z Z)
end Go.Mg
