/- A view that grows. More of the program's structs as plain data: acts, offers, nodes, worlds. Votes, rising by who it is: plain. The examples of the laws of trees and cursors. Plain tools for printed functions: loops by what holds at their heads. What the laws hand over, with the bounds of its numbers. Plain facts of trees: what the program's Find, Slot, Kids tell. Plain facts of a beginning of blocks. The references of layer 6 tell what the program's trees tell: plain laws. Conditions: blocks' numbers are of their kinds; not too many blocks. Plain laws of the shuffle. Plain laws of the shuffle: all places together. Laws of duties. Plain laws of duties: which confs may be, and sums of weights. Plain laws of duties: which confs may be; weights. Plain laws of duties: weights of lists; lists. Plain laws of duties: committees, proposers. Laws of duties. Laws of duties. Laws of duties: DutyAll. Laws of duties: DutyParts. Laws of duties. Laws of duties: DutyWeighs. The book of votes. The sort of votes by who it is: the shelf's structures at this program. One's own slice of votes, as the sort's row. slices.SortFunc over a slice of votes of one's own, by who it is: the shelf's contract in my terms. Votes sorted by who it is. votes.sorted. The votes of a slot. The votes of a slot that count: plain. The votes of a committee; the head by them. A node at a tick, as plain data. Nodes: what stands alone. Conditions: none. -/
import Derived.Test.YtfbigoipfbiliaaGreatX3
import Derived.Test.YtfbigoipfbiliaaGreatX6
import Derived.Test.YtfbigoipfbiliaaGreatX4
import Derived.Test.YtfbigoipfbiliaaGreatX5
import Derived.Shelf.SlSortCmp.WholeK
import Derived.Shelf.SlicesG.Cmp
import Derived.Test.YtfbigoipfbiliaaGreatChecked
import Derived.Shelf.SlGeneric
import Derived.Shelf.GgSortFunc.InsertionK
import Derived.Shelf.SlSortCmp.NoneTotal
set_option maxRecDepth 100000
set_option linter.unusedSimpArgs false
set_option linter.unusedVariables false
namespace Go.Mg
open Go.Proofs
def z7 (n:Int)(most:Int)(full:Bool):Option (Bool×Bool):=bif full then some (decide (n<most),true)else some (decide (n<most),decide (n≥most))
theorem FZ {n:Int}{most:Int}{wB:List Bk}{wV:List Vt}{sm:List (ID×Int)}{hm:List (Vt×Bool)}{upto:Int}{full:Bool}{lB:List Bk}{lV:List Vt}{n0:Nat}{k0:Nat}{n1:Nat}{k1:Nat}{r_:Bool×Bool}(hr:z7 n most full=some r_):LC Tryz.prog 193 [.ptr 10 0,(iQ n),(iQ most)] [.dead,.dead,.dead,.box [.zs,.zs],.box [.zs,.zs],.dead,.vec 5 (wB.map av),.vec 4 (wV.map aK),(mQ sm),(mR hm),.box [(jB 6 wB),(jV 7 wV),.map 8,.map 9,(iQ upto),(bQ full)],.dead,.dead,.dead,.vec 5 (lB.map av),.vec 4 (lV.map aK),.box [.vec 5 14 n0 0 k0,.vec 4 15 n1 0 k1]] (Is (bQ r_.1) [.dead,.dead,.dead,.box [.zs,.zs],.box [.zs,.zs],.dead,.vec 5 (wB.map av),.vec 4 (wV.map aK),(mQ sm),(mR hm),.box [(jB 6 wB),(jV 7 wV),.map 8,.map 9,(iQ upto),(bQ r_.2)],.dead,.dead,.dead,.vec 5 (lB.map av),.vec 4 (lV.map aK),.box [.vec 5 14 n0 0 k0,.vec 4 15 n1 0 k1]]):=by
 refine fy Tryz.func193 Z Z Z ?_;unfold z7 at hr;refine zQ<|zR<|zM Z<|zN<|zT<|zQ<|zR<|zM Z<|zM Z<|yS Z (zn Z Z)<|yS Z (zA Z Z qw)<|yS Z (zD Z Z Z uf Z Z)<|zM Z ?_;refine zc 12 Z (fun g1=>?_)<|fun g1=>?_
 ·refine zi g1 hr fun hr=>yU Z (gd g1 Z) Z<|yU Z (gd g1 Z) Z<|yU Z (gd g1 Z) Z<|yS Z (bx Z (aG g1 Z) Z)<|yS Z (zn Z Z)<|yS Z (zA Z Z qw)<|yS Z (zs Z Z Z Z uf Z Z Z Z)<|zN<|zT<|zQ<|zR<|zM Z<|zM Z<|yS Z (ap Z Z Z Z)<|zM Z<|zN<|zT<|zr ?_;obtain rfl:=zJ hr;exact aH (.one (.tmp Z))<|⟨rfl,rfl⟩
 ·refine zo g1 hr fun hr=>yV Z (gd g1 Z) (zm Z Z)<|yV Z (gd g1 Z) (zm Z Z)<|yV Z (gd g1 Z) (ap Z Z Z Z)<|yS Z (aO Z (aG g1 Z) Z)<|yS Z (zn Z Z)<|yS Z (zA Z Z qw)<|yS Z (zs Z Z Z Z uf Z Z Z Z)<|zN<|zT<|zQ<|zR<|zM Z<|zM Z<|yS Z (ap Z Z Z Z)<|zM Z<|zN<|zT<|zr ?_;obtain rfl:=zJ hr;exact aH (.one (.tmp Z))<|⟨rfl,rfl⟩
def wF (b:Bk)(wB:List Bk)(sm:List (ID×Int))(upto:Int)(full:Bool):Option (Bool×List Bk×List (ID×Int)×Bool):=(bif (ak sm (nm b)).isSome then some ((ak sm (nm b)).isSome)else bif (ak sm b.Parent).isSome then some (decide (((ak sm b.Parent).getD 0)≥b.Slot))else some false).bind fun v1=>bif v1 then some (true,wB,sm,full)else (bif !((ak sm b.Parent).isSome)then some (!((ak sm b.Parent).isSome),full)else bif decide (b.Slot>upto)then some (decide (b.Slot>upto),full)else (z7 (wB.length:Int) 60 full).bind fun v3=>some (!v3.1,v3.2)).bind fun v2=>bif v2.1 then some (false,wB,sm,v2.2)else bif cy wB.length [b].length 40 then bif tK sm then some (true,wB++[b],bz sm (nm b) b.Slot,v2.2)else none else none
theorem FX {b:Bk}{wB:List Bk}{wV:List Vt}{sm:List (ID×Int)}{hm:List (Vt×Bool)}{upto:Int}{full:Bool}{lB:List Bk}{lV:List Vt}{n0:Nat}{k0:Nat}{n1:Nat}{k1:Nat}{r_:Bool×List Bk×List (ID×Int)×Bool}(hr:wF b wB sm upto full=some r_):LC Tryz.prog 155 [.ptr 10 0,.p (av b)] [.dead,.dead,.dead,.box [.zs,.zs],.box [.zs,.zs],.dead,.vec 5 (wB.map av),.vec 4 (wV.map aK),(mQ sm),(mR hm),.box [(jB 6 wB),(jV 7 wV),.map 8,.map 9,(iQ upto),(bQ full)],.dead,.dead,.dead,.vec 5 (lB.map av),.vec 4 (lV.map aK),.box [.vec 5 14 n0 0 k0,.vec 4 15 n1 0 k1]] (Is (bQ r_.1) [.dead,.dead,.dead,.box [.zs,.zs],.box [.zs,.zs],.dead,.vec 5 (r_.2.1.map av),.vec 4 (wV.map aK),(mQ r_.2.2.1),(mR hm),.box [(jB 6 r_.2.1),(jV 7 wV),.map 8,.map 9,(iQ upto),(bQ r_.2.2.2)],.dead,.dead,.dead,.vec 5 (lB.map av),.vec 4 (lV.map aK),.box [.vec 5 14 n0 0 k0,.vec 4 15 n1 0 k1]]):=by
 refine fy Tryz.func155 Z Z Z ?_;unfold wF at hr;refine zQ<|zR<|yS Z (bw Z Z Z Z Z)<|zM Z<|zN<|zT<|zQ<|zR<|yS Z (zD Z Z Z bW Z Z)<|yS Z (zC Z Z Z (by kernel_rfl) (zp (G4 (b:=b)) (.cons zv .nil)))<|yS Z (ze Z fm Z Z)<|yS Z (zs Z Z Z Z ay Z Z Z Z)<|zN<|zT<|zQ<|LW.draw2 (by kernel_rfl) (by kernel_rfl)<|zH Z<|yE Z (zn Z Z)<|yE Z (zA Z Z mm)<|yE Z (zD Z Z Z A9 Z Z)<|yE Z (zD Z Z Z ay Z Z) ?_;refine yE Z (aa.getX (f:=aR) (g:=(fun v=>(iQ v))) (nm b) 0 eU Z Z Z Z kS Fx Z Z) ?_;refine zH Z<|yE Z (dW Z Z Z)<|yE Z (dW Z Z Z)<|zH Z<|zH Z<|LO.nil<|zT<|zQ<|LW.draw2 (by kernel_rfl) (by kernel_rfl)<|zH Z<|yE Z (zn Z Z)<|yE Z (zA Z Z mm)<|yE Z (zD Z Z Z A9 Z Z)<|yE Z (zA Z Z fj)<|yE Z (zD Z Z Z ay Z Z) ?_;refine yE Z (aa.getX (f:=aR) (g:=(fun v=>(iQ v))) b.Parent 0 eU Z Z Z Z kS Fx Z Z) ?_;refine zH Z<|yE Z (dW Z Z Z)<|yE Z (dW Z Z Z)<|zH Z<|zH Z<|LO.nil<|zT<|zQ<|zl ?_;obtain⟨v1,hb_v1,ho_v1⟩:=zB hr;clear hr;refine LW.cut (E:=[(0,.ptr 10 0),(3,.ptr 17 0),(4,(bQ false)),(5,.ptr 18 0),(9,.p (.bool ((ak sm b.Parent).isSome))),(31,(bQ v1))]) (O:=[.dead,.dead,.dead,.box [.zs,.zs],.box [.zs,.zs],.dead,.vec 5 (wB.map av),.vec 4 (wV.map aK),(mQ sm),(mR hm),.box [(jB 6 wB),(jV 7 wV),.map 8,.map 9,(iQ upto),(bQ full)],.dead,.dead,.dead,.vec 5 (lB.map av),.vec 4 (lV.map aK),.box [.vec 5 14 n0 0 k0,.vec 4 15 n1 0 k1],.box [(iQ b.Slot),(iQ b.From),(uQ b.Parent.1),(uQ b.Parent.2),(uQ b.Salt)],.box [.p (.int .u64 ((nm b).1)),.p (.int .u64 ((nm b).2))]]) ?_ ?_
 ·have hr:=hb_v1;refine zQ<|zR<|zM Z<|zM Z<|zN<|zT ?_;refine zX Z (fun g1=>?_)<|fun g1=>?_
  ·refine zi g1 hr fun hr=>zk<|zT ?_;obtain rfl:=zJ hr;exact zW 19 ⟨Z,Z,Z,Z,Z,Z,trivial⟩ Z Z Z<|zL Z<|zL Z<|zL Z<|zL Z<|zL Z<|zL Z<|zL Z<|zL Z<|zL (ae (fun _=>rfl) _)<|zL (ae (fun _=>rfl) _)<|zL Z<|zL Z<|zL Z<|zL Z<|zL Z<|zL Z<|zL Z<|zL Z<|zL Z Z
  ·refine zo g1 hr fun hr=>zR<|zM Z<|zM Z ?_;refine zc 34 Z (fun g2=>?_)<|fun g2=>?_
   ·refine zi g2 hr fun hr=>yV Z (gd g2 Z) (zm Z Z)<|yV Z (gd g2 Z) (zA Z Z eD)<|yV Z (gd g2 Z) (zD Z Z Z aW Z Z)<|yV Z (gd g2 Z) (ap Z Z Z Z)<|yS Z (bx Z (aG g2 Z) Z)<|zM Z<|zN<|zT ?_;obtain rfl:=zJ hr;exact zW 19 ⟨Z,Z,Z,Z,Z,Z,trivial⟩ Z Z Z<|zL Z<|zL Z<|zL Z<|zL Z<|zL Z<|zL Z<|zL Z<|zL Z<|zL (ae (fun _=>rfl) _)<|zL (ae (fun _=>rfl) _)<|zL Z<|zL Z<|zL Z<|zL Z<|zL Z<|zL Z<|zL Z<|zL Z<|zL Z Z
   ·refine zo g2 hr fun hr=>yU Z (gd g2 Z) Z<|yU Z (gd g2 Z) Z<|yU Z (gd g2 Z) Z<|yU Z (gd g2 Z) Z<|yS Z (aO Z (aG g2 Z) Z)<|zM Z<|zN<|zT ?_;obtain rfl:=zJ hr;exact zW 19 ⟨Z,Z,Z,Z,Z,Z,trivial⟩ Z Z Z<|zL Z<|zL Z<|zL Z<|zL Z<|zL Z<|zL Z<|zL Z<|zL Z<|zL (ae (fun _=>rfl) _)<|zL (ae (fun _=>rfl) _)<|zL Z<|zL Z<|zL Z<|zL Z<|zL Z<|zL Z<|zL Z<|zL Z<|zL Z Z
 ·have hr:=ho_v1;clear hb_v1;refine zX Z (fun g3=>?_)<|fun g3=>?_
  ·refine zi g3 hr fun hr=>zQ<|zR<|zM Z<|zN<|zT<|zr<|aq<|af ?_;obtain rfl:=zJ hr;refine cr (env':=[(4,(bQ true))]) (H':=[.dead,.dead,.dead,.box [.zs,.zs],.box [.zs,.zs],.dead,.vec 5 (wB.map av),.vec 4 (wV.map aK),(mQ sm),(mR hm),.box [(jB 6 wB),(jV 7 wV),.map 8,.map 9,(iQ upto),(bQ full)],.dead,.dead,.dead,.vec 5 (lB.map av),.vec 4 (lV.map aK),.box [.vec 5 14 n0 0 k0,.vec 4 15 n1 0 k1]]) (zW 17 ⟨rfl,trivial⟩ Z Z Z (zL Z (zL Z (zL Z (zL Z (zL Z (zL Z (zL Z (zL Z (zL (ae (fun _=>rfl) _) (zL (ae (fun _=>rfl) _) (zL Z (zL Z (zL Z (zL Z (zL Z (zL Z (zL Z Z)))))))))))))))))) (.one (.tmp Z)) ?_;exact⟨rfl,rfl⟩
  ·have hr:=zO g3 hr;obtain⟨v2,hb_v2,ho_v2⟩:=zB hr;clear hr;refine LW.cut (E:=[(0,.ptr 10 0),(3,.ptr 17 0),(4,(bQ false)),(5,.ptr 18 0),(40,(bQ v2.1))]) (O:=[.dead,.dead,.dead,.box [.zs,.zs],.box [.zs,.zs],.dead,.vec 5 (wB.map av),.vec 4 (wV.map aK),(mQ sm),(mR hm),.box [(jB 6 wB),(jV 7 wV),.map 8,.map 9,(iQ upto),(bQ v2.2)],.dead,.dead,.dead,.vec 5 (lB.map av),.vec 4 (lV.map aK),.box [.vec 5 14 n0 0 k0,.vec 4 15 n1 0 k1],.box [(iQ b.Slot),(iQ b.From),(uQ b.Parent.1),(uQ b.Parent.2),(uQ b.Salt)],.box [.p (.int .u64 ((nm b).1)),.p (.int .u64 ((nm b).2))]]) ?_ ?_
   ·have hr:=hb_v2;refine zQ<|zR<|zM Z<|yS Z (aa.not Z Z)<|zM Z<|zN<|zT ?_;refine zX Z (fun g4=>?_)<|fun g4=>?_
    ·refine zi g4 hr fun hr=>zk<|zT ?_;obtain rfl:=zJ hr;exact zW 19 ⟨Z,Z,Z,Z,Z,trivial⟩ Z Z Z<|zL Z<|zL Z<|zL Z<|zL Z<|zL Z<|zL Z<|zL Z<|zL Z<|zL (ae (fun _=>rfl) _)<|zL (ae (fun _=>rfl) _)<|zL Z<|zL Z<|zL Z<|zL Z<|zL Z<|zL Z<|zL Z<|zL Z<|zL Z Z
    ·refine zo g4 hr fun hr=>zQ<|LW.draw2 (by kernel_rfl) (by kernel_rfl)<|yE Z (zA Z Z eD)<|yE Z (zD Z Z Z aW Z Z)<|zH Z<|yE Z (zn Z Z)<|yE Z (zA Z Z yD)<|yE Z (zD Z Z Z aW Z Z)<|yE Z (ap Z Z Z Z)<|zH Z<|LO.nil<|zT ?_;refine zX Z (fun g5=>?_)<|fun g5=>?_
     ·refine zi g5 hr fun hr=>zk<|zT ?_;obtain rfl:=zJ hr;exact zW 19 ⟨Z,Z,Z,Z,Z,trivial⟩ Z Z Z<|zL Z<|zL Z<|zL Z<|zL Z<|zL Z<|zL Z<|zL Z<|zL Z<|zL (ae (fun _=>rfl) _)<|zL (ae (fun _=>rfl) _)<|zL Z<|zL Z<|zL Z<|zL Z<|zL Z<|zL Z<|zL Z<|zL Z<|zL Z Z
     ·refine zo g5 hr fun hr=>zR<|zM Z<|zM Z<|yS Z (zn Z Z)<|yS Z (zA Z Z fi)<|yS Z (zA Z Z aL)<|yS Z (zD Z Z Z cd Z Z)<|yS Z (aa.lenVM Z Z Z (by kernel_rfl))<|zb hr fun v3 h_v3 hr=>?_;refine yS Z (zC Z Z Z (by kernel_rfl) (LC.pre (FZ h_v3) Z (zL Z (zL Z (zL Z (zL Z (zL Z (zL Z (zL Z (zL Z (zL (ae (fun _=>rfl) _) (zL (ae (fun _=>rfl) _) (zL Z (zL Z (zL Z (zL Z (zL Z (zL Z (zL Z Z))))))))))))))))) Z)) ?_;refine yS Z (aa.not Z Z)<|zM Z<|zN<|zT ?_;obtain rfl:=zJ hr;exact zW 19 ⟨Z,Z,Z,Z,Z,trivial⟩ Z Z Z<|zL Z<|zL Z<|zL Z<|zL Z<|zL Z<|zL Z<|zL Z<|zL Z<|zL (ae (fun _=>rfl) _)<|zL (ae (fun _=>rfl) _)<|zL Z<|zL Z<|zL Z<|zL Z<|zL Z<|zL Z<|zL Z<|zL Z<|zL Z Z
   ·have hr:=ho_v2;clear hb_v2;refine zX Z (fun g6=>?_)<|fun g6=>?_
    ·refine zi g6 hr fun hr=>zQ<|zR<|zM Z<|zN<|zT<|zr<|aq<|af ?_;obtain rfl:=zJ hr;refine cr (env':=[(4,(bQ false))]) (H':=[.dead,.dead,.dead,.box [.zs,.zs],.box [.zs,.zs],.dead,.vec 5 (wB.map av),.vec 4 (wV.map aK),(mQ sm),(mR hm),.box [(jB 6 wB),(jV 7 wV),.map 8,.map 9,(iQ upto),(bQ v2.2)],.dead,.dead,.dead,.vec 5 (lB.map av),.vec 4 (lV.map aK),.box [.vec 5 14 n0 0 k0,.vec 4 15 n1 0 k1]]) (zW 17 ⟨rfl,trivial⟩ Z Z Z (zL Z (zL Z (zL Z (zL Z (zL Z (zL Z (zL Z (zL Z (zL (ae (fun _=>rfl) _) (zL (ae (fun _=>rfl) _) (zL Z (zL Z (zL Z (zL Z (zL Z (zL Z (zL Z Z)))))))))))))))))) (.one (.tmp Z)) ?_;exact⟨rfl,rfl⟩
    ·refine zo g6 hr fun hr=>zk<|ai<|zT<|zQ<|LW.drawW (by kernel_rfl) (by kernel_rfl)<|zK Z<|zK Z ?_;refine yF (F:=[]) (s:=none) Z (fun H _=>zn Z Z) Z ?_;refine yF (F:=[]) (s:=none) Z (fun H _=>zA Z Z mm) Z ?_;refine yF Z (zd Z Z Z A9 Z Z) Z<|yF Z (zd Z Z Z ay Z Z) Z<|zK Z ?_;refine yF (F:=[]) (s:=none) Z (fun H _=>zn Z Z) Z ?_;refine yF (F:=[]) (s:=none) Z (fun H _=>zA Z Z fi) Z ?_;refine yF (F:=[]) (s:=none) Z (fun H _=>zA Z Z aL) Z ?_;refine yF Z (zd Z Z Z cd Z Z) Z<|yF Z (zd Z Z Z bW Z Z) Z ?_;refine yF (F:=[]) (s:=none) Z (fun H _=>iO Z cw Z Z Z Z Z) Z ?_;refine zg hr fun q1 hr=>yF Z (cq.appendX av wB [b] rfl Z Z Z Z cw q1) Z ?_;refine yF (F:=[]) (s:=none) Z (fun H _=>zA Z Z eD) Z ?_;refine yF Z (zd Z Z Z aW Z Z) Z ?_;refine yF (F:=[]) (s:=none) Z (fun H _=>zn Z Z) Z ?_;refine yF (F:=[]) (s:=none) Z (fun H _=>zA Z Z fi) Z ?_;refine yF (F:=[]) (s:=none) Z (fun H _=>zA Z Z aL) Z ?_;refine yF Z (zt Z Z Z Z cd Z Z Z) Z<|zg hr fun q2 hr=>?_;refine yF Z (cq.mapEntryX (f:=aR) (g:=(fun v=>(iQ v))) (nm b) 0 eU Z Z Z Z kS Fx Z q2) Z ?_;refine yF (F:=[]) (s:=none) Z (fun H _=>dW Z Z Z) Z ?_;refine yF Z (cq.entryStoreX (f:=aR) (g:=(fun v=>(iQ v))) (m:=sm) (nm b) ((ak sm (nm b)).getD 0) b.Slot eU Z Z Z Z Z Z) Z ?_;refine LF.nil ⟨by kernel_rfl,?_⟩;refine zT<|zQ<|zR<|zM Z<|zN<|zT<|zr ?_;obtain rfl:=zJ hr;refine cr (env':=[(4,(bQ true))]) (H':=[.dead,.dead,.dead,.box [.zs,.zs],.box [.zs,.zs],.dead,.vec 5 ((wB++[b]).map av),.vec 4 (wV.map aK),.map (ao aR (fun v=>(iQ v)) (bz sm (nm b) b.Slot)),(mR hm),.box [.vec 5 6 ((wB++[b]).map av).length 0 ((wB++[b]).map av).length,(jV 7 wV),.map 8,.map 9,(iQ upto),(bQ v2.2)],.dead,.dead,.dead,.vec 5 (lB.map av),.vec 4 (lV.map aK),.box [.vec 5 14 n0 0 k0,.vec 4 15 n1 0 k1]]) (zW 17 ⟨rfl,trivial⟩ Z Z Z (zL Z (zL Z (zL Z (zL Z (zL Z (zL Z (zL Z (zL Z (zL (ae (fun _=>rfl) _) (zL (ae (fun _=>rfl) _) (zL Z (zL Z (zL Z (zL Z (zL Z (zL Z (zL Z Z)))))))))))))))))) (.one (.tmp Z)) ?_;exact⟨rfl,rfl⟩
def wG (x:Vt)(wV:List Vt)(sm:List (ID×Int))(hm:List (Vt×Bool))(upto:Int)(full:Bool):Option (Bool×List Vt×List (Vt×Bool)×Bool):=(bif (ak hm x).getD false then some ((ak hm x).getD false)else bif (ak sm x.Head).isSome then some (decide (((ak sm x.Head).getD 0)>x.Slot))else some false).bind fun v1=>bif v1 then some (true,wV,hm,full)else (bif !((ak sm x.Head).isSome)then some (!((ak sm x.Head).isSome),full)else bif decide (x.Slot>upto)then some (decide (x.Slot>upto),full)else (z7 (wV.length:Int) 240 full).bind fun v3=>some (!v3.1,v3.2)).bind fun v2=>bif v2.1 then some (false,wV,hm,v2.2)else bif cy wV.length [x].length 32 then bif tK hm then some (true,wV++[x],bz hm x true,v2.2)else none else none
theorem FY {x:Vt}{wB:List Bk}{wV:List Vt}{sm:List (ID×Int)}{hm:List (Vt×Bool)}{upto:Int}{full:Bool}{lB:List Bk}{lV:List Vt}{n0:Nat}{k0:Nat}{n1:Nat}{k1:Nat}{r_:Bool×List Vt×List (Vt×Bool)×Bool}(hr:wG x wV sm hm upto full=some r_):LC Tryz.prog 156 [.ptr 10 0,.p (aK x)] [.dead,.dead,.dead,.box [.zs,.zs],.box [.zs,.zs],.dead,.vec 5 (wB.map av),.vec 4 (wV.map aK),(mQ sm),(mR hm),.box [(jB 6 wB),(jV 7 wV),.map 8,.map 9,(iQ upto),(bQ full)],.dead,.dead,.dead,.vec 5 (lB.map av),.vec 4 (lV.map aK),.box [.vec 5 14 n0 0 k0,.vec 4 15 n1 0 k1]] (Is (bQ r_.1) [.dead,.dead,.dead,.box [.zs,.zs],.box [.zs,.zs],.dead,.vec 5 (wB.map av),.vec 4 (r_.2.1.map aK),(mQ sm),(mR r_.2.2.1),.box [(jB 6 wB),(jV 7 r_.2.1),.map 8,.map 9,(iQ upto),(bQ r_.2.2.2)],.dead,.dead,.dead,.vec 5 (lB.map av),.vec 4 (lV.map aK),.box [.vec 5 14 n0 0 k0,.vec 4 15 n1 0 k1]]):=by
 refine fy Tryz.func156 Z Z Z ?_;unfold wG at hr;refine zQ<|zR<|yS Z (bw Z Z Z Z Z)<|zM Z<|zN<|zT<|zQ<|LW.draw2 (by kernel_rfl) (by kernel_rfl)<|zH Z<|yE Z (zn Z Z)<|yE Z (zA Z Z mm)<|yE Z (zD Z Z Z A9 Z Z)<|yE Z (zA Z Z gH)<|yE Z (zD Z Z Z ay Z Z) ?_;refine yE Z (aa.getX (f:=aR) (g:=(fun v=>(iQ v))) x.Head 0 eU Z Z Z Z kS Fx Z Z) ?_;refine zH Z<|yE Z (dW Z Z Z)<|yE Z (dW Z Z Z)<|zH Z<|zH Z<|LO.nil<|zT<|zQ<|zl ?_;obtain⟨v1,hb_v1,ho_v1⟩:=zB hr;clear hr;refine LW.cut (E:=[(0,.ptr 10 0),(3,.ptr 17 0),(4,(bQ false)),(6,.p (.bool ((ak sm x.Head).isSome))),(17,(bQ v1))]) (O:=[.dead,.dead,.dead,.box [.zs,.zs],.box [.zs,.zs],.dead,.vec 5 (wB.map av),.vec 4 (wV.map aK),(mQ sm),(mR hm),.box [(jB 6 wB),(jV 7 wV),.map 8,.map 9,(iQ upto),(bQ full)],.dead,.dead,.dead,.vec 5 (lB.map av),.vec 4 (lV.map aK),.box [.vec 5 14 n0 0 k0,.vec 4 15 n1 0 k1],.box [(iQ x.From),(iQ x.Slot),(uQ x.Head.1),(uQ x.Head.2)]]) ?_ ?_
 ·have hr:=hb_v1;refine zQ<|LW.draw2 (by kernel_rfl) (by kernel_rfl)<|zH Z<|yE Z (zn Z Z)<|yE Z (zA Z Z qv)<|yE Z (zD Z Z Z yZ Z Z)<|yE Z (zD Z Z Z cp Z Z) ?_;refine yE Z (aa.getX (f:=aK) (g:=(fun v=>(bQ v))) x false y0 Z Z Z Z Dw KJ Z Z) ?_;refine zH Z<|LO.nil<|zT ?_;refine zX Z (fun g1=>?_)<|fun g1=>?_
  ·refine zi g1 hr fun hr=>zk<|zT ?_;obtain rfl:=zJ hr;exact zW 18 ⟨Z,Z,Z,Z,Z,trivial⟩ Z Z Z<|zL Z<|zL Z<|zL Z<|zL Z<|zL Z<|zL Z<|zL Z<|zL Z<|zL (ae (fun _=>rfl) _)<|zL (ae (fun _=>rfl) _)<|zL Z<|zL Z<|zL Z<|zL Z<|zL Z<|zL Z<|zL Z<|zL Z Z
  ·refine zo g1 hr fun hr=>zR<|zM Z<|zM Z ?_;refine zc 25 Z (fun g2=>?_)<|fun g2=>?_
   ·refine zi g2 hr fun hr=>yV Z (gd g2 Z) (zm Z Z)<|yV Z (gd g2 Z) (zA Z Z gG)<|yV Z (gd g2 Z) (zD Z Z Z aW Z Z)<|yV Z (gd g2 Z) (ap Z Z Z Z)<|yS Z (bx Z (aG g2 Z) Z)<|zM Z<|zN<|zT ?_;obtain rfl:=zJ hr;exact zW 18 ⟨Z,Z,Z,Z,Z,trivial⟩ Z Z Z<|zL Z<|zL Z<|zL Z<|zL Z<|zL Z<|zL Z<|zL Z<|zL Z<|zL (ae (fun _=>rfl) _)<|zL (ae (fun _=>rfl) _)<|zL Z<|zL Z<|zL Z<|zL Z<|zL Z<|zL Z<|zL Z<|zL Z Z
   ·refine zo g2 hr fun hr=>yU Z (gd g2 Z) Z<|yU Z (gd g2 Z) Z<|yU Z (gd g2 Z) Z<|yU Z (gd g2 Z) Z<|yS Z (aO Z (aG g2 Z) Z)<|zM Z<|zN<|zT ?_;obtain rfl:=zJ hr;exact zW 18 ⟨Z,Z,Z,Z,Z,trivial⟩ Z Z Z<|zL Z<|zL Z<|zL Z<|zL Z<|zL Z<|zL Z<|zL Z<|zL Z<|zL (ae (fun _=>rfl) _)<|zL (ae (fun _=>rfl) _)<|zL Z<|zL Z<|zL Z<|zL Z<|zL Z<|zL Z<|zL Z<|zL Z Z
 ·have hr:=ho_v1;clear hb_v1;refine zX Z (fun g3=>?_)<|fun g3=>?_
  ·refine zi g3 hr fun hr=>zQ<|zR<|zM Z<|zN<|zT<|zr<|aq<|af ?_;obtain rfl:=zJ hr;refine cr (env':=[(4,(bQ true))]) (H':=[.dead,.dead,.dead,.box [.zs,.zs],.box [.zs,.zs],.dead,.vec 5 (wB.map av),.vec 4 (wV.map aK),(mQ sm),(mR hm),.box [(jB 6 wB),(jV 7 wV),.map 8,.map 9,(iQ upto),(bQ full)],.dead,.dead,.dead,.vec 5 (lB.map av),.vec 4 (lV.map aK),.box [.vec 5 14 n0 0 k0,.vec 4 15 n1 0 k1]]) (zW 17 ⟨rfl,trivial⟩ Z Z Z (zL Z (zL Z (zL Z (zL Z (zL Z (zL Z (zL Z (zL Z (zL (ae (fun _=>rfl) _) (zL (ae (fun _=>rfl) _) (zL Z (zL Z (zL Z (zL Z (zL Z (zL Z (zL Z Z)))))))))))))))))) (.one (.tmp Z)) ?_;exact⟨rfl,rfl⟩
  ·have hr:=zO g3 hr;obtain⟨v2,hb_v2,ho_v2⟩:=zB hr;clear hr;refine LW.cut (E:=[(0,.ptr 10 0),(3,.ptr 17 0),(4,(bQ false)),(31,(bQ v2.1))]) (O:=[.dead,.dead,.dead,.box [.zs,.zs],.box [.zs,.zs],.dead,.vec 5 (wB.map av),.vec 4 (wV.map aK),(mQ sm),(mR hm),.box [(jB 6 wB),(jV 7 wV),.map 8,.map 9,(iQ upto),(bQ v2.2)],.dead,.dead,.dead,.vec 5 (lB.map av),.vec 4 (lV.map aK),.box [.vec 5 14 n0 0 k0,.vec 4 15 n1 0 k1],.box [(iQ x.From),(iQ x.Slot),(uQ x.Head.1),(uQ x.Head.2)]]) ?_ ?_
   ·have hr:=hb_v2;refine zQ<|zR<|zM Z<|yS Z (aa.not Z Z)<|zM Z<|zN<|zT ?_;refine zX Z (fun g4=>?_)<|fun g4=>?_
    ·refine zi g4 hr fun hr=>zk<|zT ?_;obtain rfl:=zJ hr;exact zW 18 ⟨Z,Z,Z,Z,trivial⟩ Z Z Z<|zL Z<|zL Z<|zL Z<|zL Z<|zL Z<|zL Z<|zL Z<|zL Z<|zL (ae (fun _=>rfl) _)<|zL (ae (fun _=>rfl) _)<|zL Z<|zL Z<|zL Z<|zL Z<|zL Z<|zL Z<|zL Z<|zL Z Z
    ·refine zo g4 hr fun hr=>zQ<|LW.draw2 (by kernel_rfl) (by kernel_rfl)<|yE Z (zA Z Z gG)<|yE Z (zD Z Z Z aW Z Z)<|zH Z<|yE Z (zn Z Z)<|yE Z (zA Z Z yD)<|yE Z (zD Z Z Z aW Z Z)<|yE Z (ap Z Z Z Z)<|zH Z<|LO.nil<|zT ?_;refine zX Z (fun g5=>?_)<|fun g5=>?_
     ·refine zi g5 hr fun hr=>zk<|zT ?_;obtain rfl:=zJ hr;exact zW 18 ⟨Z,Z,Z,Z,trivial⟩ Z Z Z<|zL Z<|zL Z<|zL Z<|zL Z<|zL Z<|zL Z<|zL Z<|zL Z<|zL (ae (fun _=>rfl) _)<|zL (ae (fun _=>rfl) _)<|zL Z<|zL Z<|zL Z<|zL Z<|zL Z<|zL Z<|zL Z<|zL Z Z
     ·refine zo g5 hr fun hr=>zR<|zM Z<|zM Z<|yS Z (zn Z Z)<|yS Z (zA Z Z fi)<|yS Z (zA Z Z aQ)<|yS Z (zD Z Z Z co Z Z)<|yS Z (aa.lenVM Z Z Z (by kernel_rfl))<|zb hr fun v3 h_v3 hr=>?_;refine yS Z (zC Z Z Z (by kernel_rfl) (LC.pre (FZ h_v3) Z (zL Z (zL Z (zL Z (zL Z (zL Z (zL Z (zL Z (zL Z (zL (ae (fun _=>rfl) _) (zL (ae (fun _=>rfl) _) (zL Z (zL Z (zL Z (zL Z (zL Z (zL Z (zL Z Z))))))))))))))))) Z)) ?_;refine yS Z (aa.not Z Z)<|zM Z<|zN<|zT ?_;obtain rfl:=zJ hr;exact zW 18 ⟨Z,Z,Z,Z,trivial⟩ Z Z Z<|zL Z<|zL Z<|zL Z<|zL Z<|zL Z<|zL Z<|zL Z<|zL Z<|zL (ae (fun _=>rfl) _)<|zL (ae (fun _=>rfl) _)<|zL Z<|zL Z<|zL Z<|zL Z<|zL Z<|zL Z<|zL Z<|zL Z Z
   ·have hr:=ho_v2;clear hb_v2;refine zX Z (fun g6=>?_)<|fun g6=>?_
    ·refine zi g6 hr fun hr=>zQ<|zR<|zM Z<|zN<|zT<|zr<|aq<|af ?_;obtain rfl:=zJ hr;refine cr (env':=[(4,(bQ false))]) (H':=[.dead,.dead,.dead,.box [.zs,.zs],.box [.zs,.zs],.dead,.vec 5 (wB.map av),.vec 4 (wV.map aK),(mQ sm),(mR hm),.box [(jB 6 wB),(jV 7 wV),.map 8,.map 9,(iQ upto),(bQ v2.2)],.dead,.dead,.dead,.vec 5 (lB.map av),.vec 4 (lV.map aK),.box [.vec 5 14 n0 0 k0,.vec 4 15 n1 0 k1]]) (zW 17 ⟨rfl,trivial⟩ Z Z Z (zL Z (zL Z (zL Z (zL Z (zL Z (zL Z (zL Z (zL Z (zL (ae (fun _=>rfl) _) (zL (ae (fun _=>rfl) _) (zL Z (zL Z (zL Z (zL Z (zL Z (zL Z (zL Z Z)))))))))))))))))) (.one (.tmp Z)) ?_;exact⟨rfl,rfl⟩
    ·refine zo g6 hr fun hr=>zk<|ai<|zT<|zQ<|LW.drawW (by kernel_rfl) (by kernel_rfl)<|zK Z<|zK Z ?_;refine yF (F:=[]) (s:=none) Z (fun H _=>zn Z Z) Z ?_;refine yF (F:=[]) (s:=none) Z (fun H _=>zA Z Z qv) Z ?_;refine yF Z (zd Z Z Z yZ Z Z) Z<|yF Z (zd Z Z Z cp Z Z) Z<|zK Z ?_;refine yF (F:=[]) (s:=none) Z (fun H _=>zn Z Z) Z ?_;refine yF (F:=[]) (s:=none) Z (fun H _=>zA Z Z fi) Z ?_;refine yF (F:=[]) (s:=none) Z (fun H _=>zA Z Z aQ) Z ?_;refine yF Z (zd Z Z Z co Z Z) Z<|yF Z (zd Z Z Z cp Z Z) Z ?_;refine yF (F:=[]) (s:=none) Z (fun H _=>iO Z bD Z Z Z Z Z) Z ?_;refine zg hr fun q1 hr=>yF Z (cq.appendX aK wV [x] rfl Z Z Z Z bD q1) Z ?_;refine yF (F:=[]) (s:=none) Z (fun H _=>zn Z Z) Z ?_;refine yF (F:=[]) (s:=none) Z (fun H _=>zA Z Z fi) Z ?_;refine yF (F:=[]) (s:=none) Z (fun H _=>zA Z Z aQ) Z ?_;refine yF Z (zt Z Z Z Z co Z Z Z) Z<|zg hr fun q2 hr=>?_;refine yF Z (cq.mapEntryX (f:=aK) (g:=(fun v=>(bQ v))) x false y0 Z Z Z Z Dw KJ Z q2) Z ?_;refine yF (F:=[]) (s:=none) Z (fun H _=>dW Z Z Z) Z ?_;refine yF Z (cq.entryStoreX (f:=aK) (g:=(fun v=>(bQ v))) (m:=hm) x ((ak hm x).getD false) true y0 Z Z Z Z Z Z) Z ?_;refine LF.nil ⟨by kernel_rfl,?_⟩;refine zT<|zQ<|zR<|zM Z<|zN<|zT<|zr ?_;obtain rfl:=zJ hr;refine cr (env':=[(4,(bQ true))]) (H':=[.dead,.dead,.dead,.box [.zs,.zs],.box [.zs,.zs],.dead,.vec 5 (wB.map av),.vec 4 ((wV++[x]).map aK),(mQ sm),.map (ao aK (fun v=>(bQ v)) (bz hm x true)),.box [(jB 6 wB),.vec 4 7 ((wV++[x]).map aK).length 0 ((wV++[x]).map aK).length,.map 8,.map 9,(iQ upto),(bQ v2.2)],.dead,.dead,.dead,.vec 5 (lB.map av),.vec 4 (lV.map aK),.box [.vec 5 14 n0 0 k0,.vec 4 15 n1 0 k1]]) (zW 17 ⟨rfl,trivial⟩ Z Z Z (zL Z (zL Z (zL Z (zL Z (zL Z (zL Z (zL Z (zL Z (zL (ae (fun _=>rfl) _) (zL (ae (fun _=>rfl) _) (zL Z (zL Z (zL Z (zL Z (zL Z (zL Z (zL Z Z)))))))))))))))))) (.one (.tmp Z)) ?_;exact⟨rfl,rfl⟩
structure kc where
 t8:Int
 o6:List Bk
 o8:List (ID×Int)
 o10_5:Bool
def l6 (lB:List Bk)(kk:Nat)(upto:Int)(x1:kc):Option (kc⊕(kc⊕(Int×List Bk×List (ID×Int)×Bool))):=bif decide (x1.t8<(kk:Int))then (ix (lB.take kk) x1.t8).bind fun y1=>(wF y1 x1.o6 x1.o8 upto x1.o10_5).bind fun v2=>bif v2.1 then some (.inr (.inr (x1.t8,v2.2.1,v2.2.2.1,v2.2.2.2)))else some (.inl (kc.mk (IntKind.i64.wrap (x1.t8+1)) v2.2.1 v2.2.2.1 v2.2.2.2))else some (.inr (.inl (kc.mk x1.t8 x1.o6 x1.o8 x1.o10_5)))
def BP (lB:List Bk)(kk:Nat)(wB:List Bk)(sm:List (ID×Int))(upto:Int)(full:Bool):Option (Int×List Bk×List (ID×Int)×Bool):=(iter (l6 lB kk upto) bg (kc.mk 0 wB sm full)).bind fun b_v1=>Sum.elim (fun v1=>some ((-1),v1.o6,v1.o8,v1.o10_5)) some b_v1
theorem JK {lB:List Bk}{kk:Nat}{wB:List Bk}{wV:List Vt}{sm:List (ID×Int)}{hm:List (Vt×Bool)}{upto:Int}{full:Bool}{lV:List Vt}{n0:Nat}{k0:Nat}{n1:Nat}{k1:Nat}{r_:Int×List Bk×List (ID×Int)×Bool}(hr:BP lB kk wB sm upto full=some r_):LC Tryz.prog 194 [.vec 5 14 (lB.map av).length 0 kk,.fn 155 [.ptr 10 0] []] [.dead,.dead,.dead,.box [.zs,.zs],.box [.zs,.zs],.dead,.vec 5 (wB.map av),.vec 4 (wV.map aK),(mQ sm),(mR hm),.box [(jB 6 wB),(jV 7 wV),.map 8,.map 9,(iQ upto),(bQ full)],.dead,.dead,.dead,.vec 5 (lB.map av),.vec 4 (lV.map aK),.box [.vec 5 14 n0 0 k0,.vec 4 15 n1 0 k1]] (Is (iQ r_.1) [.dead,.dead,.dead,.box [.zs,.zs],.box [.zs,.zs],.dead,.vec 5 (r_.2.1.map av),.vec 4 (wV.map aK),(mQ r_.2.2.1),(mR hm),.box [(jB 6 r_.2.1),(jV 7 wV),.map 8,.map 9,(iQ upto),(bQ r_.2.2.2)],.dead,.dead,.dead,.vec 5 (lB.map av),.vec 4 (lV.map aK),.box [.vec 5 14 n0 0 k0,.vec 4 15 n1 0 k1]]):=by
 refine fy Tryz.func194 Z Z Z ?_;unfold BP at hr;refine zQ<|zR<|zM Z<|zN<|zT<|zQ<|zQ<|zR<|zM Z<|yS Z (aa.lenVP Z Z Z (by kernel_rfl))<|zM Z<|zN<|zT ?_;obtain⟨b_v1,hb_v1,ho_v1⟩:=zB hr;clear hr;refine LW.tailB (b:=b_v1) (E:=fun v1=>[(4,(iQ 0))]) (O:=fun v1=>[.dead,.dead,.dead,.box [.zs,.zs],.box [.zs,.zs],.dead,.vec 5 (v1.o6.map av),.vec 4 (wV.map aK),(mQ v1.o8),(mR hm),.box [(jB 6 v1.o6),(jV 7 wV),.map 8,.map 9,(iQ upto),(bQ v1.o10_5)],.dead,.dead,.dead,.vec 5 (lB.map av),.vec 4 (lV.map aK),.box [.vec 5 14 n0 0 k0,.vec 4 15 n1 0 k1]]) ?_<|fun v1 e_v1 env_v1 H_v1 hw_v1=>?_
 ·refine LW.block ?_;refine LW.iterB (E:=fun x1:kc=>[(0,.vec 5 14 (lB.map av).length 0 kk),(1,.fn 155 [.ptr 10 0] []),(4,(iQ 0)),(7,.p (.int .i64 (kk:Int))),(8,(iQ x1.t8))]) (O:=fun x1=>[.dead,.dead,.dead,.box [.zs,.zs],.box [.zs,.zs],.dead,.vec 5 (x1.o6.map av),.vec 4 (wV.map aK),(mQ x1.o8),(mR hm),.box [(jB 6 x1.o6),(jV 7 wV),.map 8,.map 9,(iQ upto),(bQ x1.o10_5)],.dead,.dead,.dead,.vec 5 (lB.map av),.vec 4 (lV.map aK),.box [.vec 5 14 n0 0 k0,.vec 4 15 n1 0 k1]]) hb_v1 (zW 17 ⟨rfl,rfl,rfl,rfl,rfl,trivial⟩ Z Z Z (zL Z (zL Z (zL Z (zL Z (zL Z (zL Z (zL Z (zL Z (zL (ae (fun _=>rfl) _) (zL (ae (fun _=>rfl) _) (zL Z (zL Z (zL Z (zL Z (zL Z (zL Z (zL Z Z))))))))))))))))))<|fun x1 z_x1 hr hb_x1=>?_;unfold l6 at hr;refine zQ<|zR<|yS Z (ap Z Z Z Z)<|zN<|zT<|zQ ?_;refine zX Z (fun g1=>?_)<|fun g1=>?_
  ·refine zi g1 hr fun hr=>zk<|zT<|zQ<|zl<|zQ<|zR<|zM Z<|zM Z<|zN<|zT<|zQ<|zR<|zM Z<|zM Z<|zM Z<|zb hr fun y1 h_y1 hr=>yS Z (aa.indexAddrVP Z Z Z Z cw h_y1)<|yS Z (aa.loadVX Z Z Z bW (gh h_y1).1 Z Z Z Z)<|zb hr fun v2 h_v2 hr=>yS Z (zC Z Z Z (by kernel_rfl) (FX h_v2))<|zN<|zT ?_;refine zX Z (fun g2=>?_)<|fun g2=>?_
   ·refine zi g2 hr fun hr=>zQ<|zR<|zM Z<|zM Z<|zN<|zT<|zr<|aq<|af<|af<|aq<|af<|af ?_;obtain rfl:=zJ hr;have hr:=congrArg some (hb_x1 _ rfl);obtain rfl:=zJ hr;have hr:=bV ho_v1;obtain rfl:=zJ hr;exact aH (.one (.tmp Z))<|⟨rfl,rfl⟩
   ·refine zo g2 hr fun hr=>zk<|ai<|zT<|zR<|yS Z (ap Z Z Z Z)<|zM Z<|zN<|zT ?_;obtain rfl:=zJ hr;exact⟨_,rfl,zW 17 ⟨rfl,rfl,rfl,rfl,rfl,trivial⟩ Z Z Z (zL Z (zL Z (zL Z (zL Z (zL Z (zL Z (zL Z (zL Z (zL (ae (fun _=>rfl) _) (zL (ae (fun _=>rfl) _) (zL Z (zL Z (zL Z (zL Z (zL Z (zL Z (zL Z Z)))))))))))))))))⟩
  ·refine zo g1 hr fun hr=>zq<|aj<|aj<|zy<|zT ?_;obtain rfl:=zJ hr;have hr:=congrArg some (hb_x1 _ rfl);obtain rfl:=zJ hr;exact⟨_,rfl,zW 17 ⟨rfl,trivial⟩ Z Z Z (zL Z (zL Z (zL Z (zL Z (zL Z (zL Z (zL Z (zL Z (zL (ae (fun _=>rfl) _) (zL (ae (fun _=>rfl) _) (zL Z (zL Z (zL Z (zL Z (zL Z (zL Z (zL Z Z)))))))))))))))))⟩
 ·obtain rfl:=e_v1;have hr:=cU ho_v1;clear hb_v1;refine zT<|LW.weak hw_v1<|zQ<|zR<|zM Z<|zN<|zT<|zr ?_;obtain rfl:=zJ hr;exact aH (.one (.tmp Z))<|⟨rfl,rfl⟩
structure iU where
 i:Int
 j:Int
 o6:List Bk
 o8:List (ID×Int)
 o10_5:Bool
 o14:List Bk
def lR (kk:Nat)(upto:Int)(x1:iU):Option (iU⊕iU):=bif decide (x1.j<(kk:Int))then (ix (x1.o14.take kk) x1.j).bind fun y1=>(wF y1 x1.o6 x1.o8 upto x1.o10_5).bind fun v3=>bif !v3.1 then (ix (x1.o14.take kk) x1.i).bind fun _=>some (.inl (iU.mk (IntKind.i64.wrap (x1.i+1)) (IntKind.i64.wrap (x1.j+1)) v3.2.1 v3.2.2.1 v3.2.2.2 (x1.o14.set x1.i.toNat y1)))else some (.inl (iU.mk x1.i (IntKind.i64.wrap (x1.j+1)) v3.2.1 v3.2.2.1 v3.2.2.2 x1.o14))else some (.inr (iU.mk x1.i x1.j x1.o6 x1.o8 x1.o10_5 x1.o14))
def BD (lB:List Bk)(kk:Nat)(wB:List Bk)(sm:List (ID×Int))(upto:Int)(full:Bool):Option (Nat×List Bk×List Bk×List (ID×Int)×Bool):=(BP lB kk wB sm upto full).bind fun v1=>bif v1.1==(-1)then some (kk,lB,v1.2.1,v1.2.2.1,v1.2.2.2)else (iter (lR kk upto) bg (iU.mk v1.1 (IntKind.i64.wrap (v1.1+1)) v1.2.1 v1.2.2.1 v1.2.2.2 lB)).bind fun v2=>bif decide (0≤v2.i∧v2.i≤(kk:Int))then bif decide (v2.i.toNat+(kk-v2.i.toNat)≤v2.o14.length)then bif decide (0≤v2.i∧v2.i≤(kk:Int))then some (v2.i.toNat,jf v2.o14 v2.i.toNat (kk-v2.i.toNat) (Bk.mk 0 0 (0,0) 0),v2.o6,v2.o8,v2.o10_5)else none else none else none
theorem JF {lB:List Bk}{kk:Nat}{wB:List Bk}{wV:List Vt}{sm:List (ID×Int)}{hm:List (Vt×Bool)}{upto:Int}{full:Bool}{lV:List Vt}{n0:Nat}{k0:Nat}{n1:Nat}{k1:Nat}{r_:Nat×List Bk×List Bk×List (ID×Int)×Bool}(hr:BD lB kk wB sm upto full=some r_):LC Tryz.prog 157 [.vec 5 14 (lB.map av).length 0 kk,.fn 155 [.ptr 10 0] []] [.dead,.dead,.dead,.box [.zs,.zs],.box [.zs,.zs],.dead,.vec 5 (wB.map av),.vec 4 (wV.map aK),(mQ sm),(mR hm),.box [(jB 6 wB),(jV 7 wV),.map 8,.map 9,(iQ upto),(bQ full)],.dead,.dead,.dead,.vec 5 (lB.map av),.vec 4 (lV.map aK),.box [.vec 5 14 n0 0 k0,.vec 4 15 n1 0 k1]] (Is (.vec 5 14 (r_.2.1.map av).length 0 r_.1) [.dead,.dead,.dead,.box [.zs,.zs],.box [.zs,.zs],.dead,.vec 5 (r_.2.2.1.map av),.vec 4 (wV.map aK),(mQ r_.2.2.2.1),(mR hm),.box [(jB 6 r_.2.2.1),(jV 7 wV),.map 8,.map 9,(iQ upto),(bQ r_.2.2.2.2)],.dead,.dead,.dead,.vec 5 (r_.2.1.map av),.vec 4 (lV.map aK),.box [.vec 5 14 n0 0 k0,.vec 4 15 n1 0 k1]]):=by
 refine fy Tryz.func157 Z Z Z ?_;unfold BD at hr;refine zQ<|zR<|zM Z<|zN<|zT<|zQ<|zR<|zM Z<|zM Z<|zb hr fun v1 h_v1 hr=>yS Z (zC Z Z Z (by kernel_rfl) (JK h_v1))<|zM Z<|zN<|zT<|zQ<|zQ<|zR<|zM Z<|yS Z (ap Z Z Z Z)<|zN<|zT ?_;refine zX Z (fun g1=>?_)<|fun g1=>?_
 ·refine zi g1 hr fun hr=>zQ<|zR<|zM Z<|zM Z<|zN<|zT<|zr<|af ?_;obtain rfl:=zJ hr;exact aH (.one (.tmp Z))<|⟨rfl,rfl⟩
 ·refine zo g1 hr fun hr=>zk<|zT<|zQ<|zQ<|zR<|zM Z<|yS Z (ap Z Z Z Z)<|zM Z<|zN<|zT ?_;obtain⟨v2,hb_v2,ho_v2⟩:=zB hr;clear hr;refine LW.tail (E:=[(0,.vec 5 14 (v2.o14.map av).length 0 kk),(4,.zs),(5,(iQ v2.i))]) (O:=[.dead,.dead,.dead,.box [.zs,.zs],.box [.zs,.zs],.dead,.vec 5 (v2.o6.map av),.vec 4 (wV.map aK),(mQ v2.o8),(mR hm),.box [(jB 6 v2.o6),(jV 7 wV),.map 8,.map 9,(iQ upto),(bQ v2.o10_5)],.dead,.dead,.dead,.vec 5 (v2.o14.map av),.vec 4 (lV.map aK),.box [.vec 5 14 n0 0 k0,.vec 4 15 n1 0 k1]]) ?_<|fun env_v2 H_v2 hw_v2=>?_
  ·refine LW.block ?_;refine LW.iterB (E:=fun x1:iU=>[(0,.vec 5 14 (x1.o14.map av).length 0 kk),(1,.fn 155 [.ptr 10 0] []),(4,.zs),(5,(iQ x1.i)),(6,(iQ x1.j))]) (O:=fun x1=>[.dead,.dead,.dead,.box [.zs,.zs],.box [.zs,.zs],.dead,.vec 5 (x1.o6.map av),.vec 4 (wV.map aK),(mQ x1.o8),(mR hm),.box [(jB 6 x1.o6),(jV 7 wV),.map 8,.map 9,(iQ upto),(bQ x1.o10_5)],.dead,.dead,.dead,.vec 5 (x1.o14.map av),.vec 4 (lV.map aK),.box [.vec 5 14 n0 0 k0,.vec 4 15 n1 0 k1]]) hb_v2 (zW 17 ⟨rfl,rfl,rfl,rfl,rfl,trivial⟩ Z Z Z (zL Z (zL Z (zL Z (zL Z (zL Z (zL Z (zL Z (zL Z (zL (ae (fun _=>rfl) _) (zL (ae (fun _=>rfl) _) (zL Z (zL Z (zL Z (zL Z (zL Z (zL Z (zL Z Z))))))))))))))))))<|fun x1 z_x1 hr hb_x1=>?_;unfold lR at hr;refine zQ<|zQ<|zR<|zM Z<|zM Z<|yS Z (aa.lenVP Z Z Z (by kernel_rfl))<|yS Z (ap Z Z Z Z)<|zN<|zT ?_;refine zX Z (fun g2=>?_)<|fun g2=>?_
   ·refine zi g2 hr fun hr=>zk<|zT<|zQ<|zl<|zQ<|zR<|zM Z<|zM Z<|zb hr fun y1 h_y1 hr=>yS Z (aa.indexAddrVP Z Z Z Z cw h_y1)<|yS Z (aa.loadVX Z Z Z bW (gh h_y1).1 Z Z Z Z)<|yS Z (ze Z sn Z Z)<|yS Z (zs Z Z Z Z bW Z Z Z Z)<|zN<|zT<|zQ<|zR<|zM Z<|yS Z (zD Z Z Z bW Z Z)<|zb hr fun v3 h_v3 hr=>?_;refine yS Z (zC Z Z Z (by kernel_rfl) (LC.pre (FX h_v3) Z (zL Z (zL Z (zL Z (zL Z (zL Z (zL Z (zL Z (zL Z (zL (ae (fun _=>rfl) _) (zL (ae (fun _=>rfl) _) (zL Z (zL Z (zL Z (zL Z (zL Z (zL Z (zL Z Z))))))))))))))))) Z)) ?_;refine yS Z (aa.not Z Z)<|zN<|zT ?_;refine zX Z (fun g3=>?_)<|fun g3=>?_
    ·refine zi g3 hr fun hr=>zQ<|zR<|zM Z<|zM Z<|yS Z (zD Z Z Z bW Z Z)<|zb hr fun y2 h_y2 hr=>yS Z (aa.indexAddrVP Z Z Z Z cw h_y2) ?_;refine yS Z (aa.storeVP (f:=av) (l:=x1.o14) y1 Z Z Z Z bW (fun _=>rfl) (gh h_y2).1 Z Z Z Z Z Z Z) ?_;refine zN<|zT<|zR<|zM Z<|yS Z (ap Z Z Z Z)<|zM Z<|zN<|ai<|zT<|zR<|zM Z<|yS Z (ap Z Z Z Z)<|zM Z<|zN<|zT ?_;obtain rfl:=zJ hr;exact⟨_,rfl,zW 17 ⟨(HD (rfl)),rfl,rfl,rfl,rfl,trivial⟩ Z Z Z (zL Z (zL Z (zL Z (zL Z (zL Z (zL Z (zL Z (zL Z (zL (ae (fun _=>rfl) _) (zL (ae (fun _=>rfl) _) (zL Z (zL Z (zL Z (zL Z (zL Z (zL Z (zL Z Z)))))))))))))))))⟩
    ·refine zo g3 hr fun hr=>zk<|ai<|zT<|zR<|zM Z<|yS Z (ap Z Z Z Z)<|zM Z<|zN<|zT ?_;obtain rfl:=zJ hr;exact⟨_,rfl,zW 17 ⟨rfl,rfl,rfl,rfl,rfl,trivial⟩ Z Z Z (zL Z (zL Z (zL Z (zL Z (zL Z (zL Z (zL Z (zL Z (zL (ae (fun _=>rfl) _) (zL (ae (fun _=>rfl) _) (zL Z (zL Z (zL Z (zL Z (zL Z (zL Z (zL Z Z)))))))))))))))))⟩
   ·refine zo g2 hr fun hr=>zq<|aj<|aj<|zy<|zT ?_;obtain rfl:=zJ hr;have hr:=congrArg some (hb_x1 _ rfl);obtain rfl:=zJ hr;exact zW 17 ⟨Z,Z,Z,trivial⟩ Z Z Z<|zL Z<|zL Z<|zL Z<|zL Z<|zL Z<|zL Z<|zL Z<|zL Z<|zL (ae (fun _=>rfl) _)<|zL (ae (fun _=>rfl) _)<|zL Z<|zL Z<|zL Z<|zL Z<|zL Z<|zL Z<|zL Z Z
  ·have hr:=ho_v2;clear hb_v2;refine zT<|LW.weak hw_v2<|zQ<|zR<|zM Z<|zM Z<|zg hr fun q1 hr=>yS Z (aa.sliceVLo Z Z Z Z cw q1)<|zg hr fun q2 hr=>?_;refine yS Z (aa.clearVP (f:=av) (zs:=[.int .i64 0,.int .i64 0,.int .u64 0,.int .u64 0,.int .u64 0]) (Bk.mk 0 0 (0,0) 0) Z Z Z cw (fun _=>rfl) (by kernel_rfl) Z q2 Z) ?_;refine zN<|zT<|zQ<|LW.ent (cz.vlen (t:=0) (n':=((jf v2.o14 v2.i.toNat (kk-v2.i.toNat) (Bk.mk 0 0 (0,0) 0)).map av).length) Z (tG q2))<|zR<|zM Z<|zM Z<|zg hr fun q3 hr=>yS Z (aa.sliceVHi Z Z Z Z cw q3)<|zM Z<|zN<|zT<|zr ?_;obtain rfl:=zJ hr;exact aH (.one (.tmp Z))<|⟨rfl,rfl⟩
structure kb where
 t8:Int
 o7:List Vt
 o9:List (Vt×Bool)
 o10_5:Bool
def l0 (lV:List Vt)(kk:Nat)(sm:List (ID×Int))(upto:Int)(x1:kb):Option (kb⊕(kb⊕(Int×List Vt×List (Vt×Bool)×Bool))):=bif decide (x1.t8<(kk:Int))then (ix (lV.take kk) x1.t8).bind fun y1=>(wG y1 x1.o7 sm x1.o9 upto x1.o10_5).bind fun v2=>bif v2.1 then some (.inr (.inr (x1.t8,v2.2.1,v2.2.2.1,v2.2.2.2)))else some (.inl (kb.mk (IntKind.i64.wrap (x1.t8+1)) v2.2.1 v2.2.2.1 v2.2.2.2))else some (.inr (.inl (kb.mk x1.t8 x1.o7 x1.o9 x1.o10_5)))
def BN (lV:List Vt)(kk:Nat)(wV:List Vt)(sm:List (ID×Int))(hm:List (Vt×Bool))(upto:Int)(full:Bool):Option (Int×List Vt×List (Vt×Bool)×Bool):=(iter (l0 lV kk sm upto) bg (kb.mk 0 wV hm full)).bind fun b_v1=>Sum.elim (fun v1=>some ((-1),v1.o7,v1.o9,v1.o10_5)) some b_v1
theorem JJ {lV:List Vt}{kk:Nat}{wB:List Bk}{wV:List Vt}{sm:List (ID×Int)}{hm:List (Vt×Bool)}{upto:Int}{full:Bool}{lB:List Bk}{n0:Nat}{k0:Nat}{n1:Nat}{k1:Nat}{r_:Int×List Vt×List (Vt×Bool)×Bool}(hr:BN lV kk wV sm hm upto full=some r_):LC Tryz.prog 183 [.vec 4 15 (lV.map aK).length 0 kk,.fn 156 [.ptr 10 0] []] [.dead,.dead,.dead,.box [.zs,.zs],.box [.zs,.zs],.dead,.vec 5 (wB.map av),.vec 4 (wV.map aK),(mQ sm),(mR hm),.box [(jB 6 wB),(jV 7 wV),.map 8,.map 9,(iQ upto),(bQ full)],.dead,.dead,.dead,.vec 5 (lB.map av),.vec 4 (lV.map aK),.box [.vec 5 14 n0 0 k0,.vec 4 15 n1 0 k1]] (Is (iQ r_.1) [.dead,.dead,.dead,.box [.zs,.zs],.box [.zs,.zs],.dead,.vec 5 (wB.map av),.vec 4 (r_.2.1.map aK),(mQ sm),(mR r_.2.2.1),.box [(jB 6 wB),(jV 7 r_.2.1),.map 8,.map 9,(iQ upto),(bQ r_.2.2.2)],.dead,.dead,.dead,.vec 5 (lB.map av),.vec 4 (lV.map aK),.box [.vec 5 14 n0 0 k0,.vec 4 15 n1 0 k1]]):=by
 refine fy Tryz.func183 Z Z Z ?_;unfold BN at hr;refine zQ<|zR<|zM Z<|zN<|zT<|zQ<|zQ<|zR<|zM Z<|yS Z (aa.lenVP Z Z Z (by kernel_rfl))<|zM Z<|zN<|zT ?_;obtain⟨b_v1,hb_v1,ho_v1⟩:=zB hr;clear hr;refine LW.tailB (b:=b_v1) (E:=fun v1=>[(4,(iQ 0))]) (O:=fun v1=>[.dead,.dead,.dead,.box [.zs,.zs],.box [.zs,.zs],.dead,.vec 5 (wB.map av),.vec 4 (v1.o7.map aK),(mQ sm),(mR v1.o9),.box [(jB 6 wB),(jV 7 v1.o7),.map 8,.map 9,(iQ upto),(bQ v1.o10_5)],.dead,.dead,.dead,.vec 5 (lB.map av),.vec 4 (lV.map aK),.box [.vec 5 14 n0 0 k0,.vec 4 15 n1 0 k1]]) ?_<|fun v1 e_v1 env_v1 H_v1 hw_v1=>?_
 ·refine LW.block ?_;refine LW.iterB (E:=fun x1:kb=>[(0,.vec 4 15 (lV.map aK).length 0 kk),(1,.fn 156 [.ptr 10 0] []),(4,(iQ 0)),(7,.p (.int .i64 (kk:Int))),(8,(iQ x1.t8))]) (O:=fun x1=>[.dead,.dead,.dead,.box [.zs,.zs],.box [.zs,.zs],.dead,.vec 5 (wB.map av),.vec 4 (x1.o7.map aK),(mQ sm),(mR x1.o9),.box [(jB 6 wB),(jV 7 x1.o7),.map 8,.map 9,(iQ upto),(bQ x1.o10_5)],.dead,.dead,.dead,.vec 5 (lB.map av),.vec 4 (lV.map aK),.box [.vec 5 14 n0 0 k0,.vec 4 15 n1 0 k1]]) hb_v1 (zW 17 ⟨rfl,rfl,rfl,rfl,rfl,trivial⟩ Z Z Z (zL Z (zL Z (zL Z (zL Z (zL Z (zL Z (zL Z (zL Z (zL (ae (fun _=>rfl) _) (zL (ae (fun _=>rfl) _) (zL Z (zL Z (zL Z (zL Z (zL Z (zL Z (zL Z Z))))))))))))))))))<|fun x1 z_x1 hr hb_x1=>?_;unfold l0 at hr;refine zQ<|zR<|yS Z (ap Z Z Z Z)<|zN<|zT<|zQ ?_;refine zX Z (fun g1=>?_)<|fun g1=>?_
  ·refine zi g1 hr fun hr=>zk<|zT<|zQ<|zl<|zQ<|zR<|zM Z<|zM Z<|zN<|zT<|zQ<|zR<|zM Z<|zM Z<|zM Z<|zb hr fun y1 h_y1 hr=>yS Z (aa.indexAddrVP Z Z Z Z bD h_y1)<|yS Z (aa.loadVX Z Z Z cp (gh h_y1).1 Z Z Z Z)<|zb hr fun v2 h_v2 hr=>yS Z (zC Z Z Z (by kernel_rfl) (FY h_v2))<|zN<|zT ?_;refine zX Z (fun g2=>?_)<|fun g2=>?_
   ·refine zi g2 hr fun hr=>zQ<|zR<|zM Z<|zM Z<|zN<|zT<|zr<|aq<|af<|af<|aq<|af<|af ?_;obtain rfl:=zJ hr;have hr:=congrArg some (hb_x1 _ rfl);obtain rfl:=zJ hr;have hr:=bV ho_v1;obtain rfl:=zJ hr;exact aH (.one (.tmp Z))<|⟨rfl,rfl⟩
   ·refine zo g2 hr fun hr=>zk<|ai<|zT<|zR<|yS Z (ap Z Z Z Z)<|zM Z<|zN<|zT ?_;obtain rfl:=zJ hr;exact⟨_,rfl,zW 17 ⟨rfl,rfl,rfl,rfl,rfl,trivial⟩ Z Z Z (zL Z (zL Z (zL Z (zL Z (zL Z (zL Z (zL Z (zL Z (zL (ae (fun _=>rfl) _) (zL (ae (fun _=>rfl) _) (zL Z (zL Z (zL Z (zL Z (zL Z (zL Z (zL Z Z)))))))))))))))))⟩
  ·refine zo g1 hr fun hr=>zq<|aj<|aj<|zy<|zT ?_;obtain rfl:=zJ hr;have hr:=congrArg some (hb_x1 _ rfl);obtain rfl:=zJ hr;exact⟨_,rfl,zW 17 ⟨rfl,trivial⟩ Z Z Z (zL Z (zL Z (zL Z (zL Z (zL Z (zL Z (zL Z (zL Z (zL (ae (fun _=>rfl) _) (zL (ae (fun _=>rfl) _) (zL Z (zL Z (zL Z (zL Z (zL Z (zL Z (zL Z Z)))))))))))))))))⟩
 ·obtain rfl:=e_v1;have hr:=cU ho_v1;clear hb_v1;refine zT<|LW.weak hw_v1<|zQ<|zR<|zM Z<|zN<|zT<|zr ?_;obtain rfl:=zJ hr;exact aH (.one (.tmp Z))<|⟨rfl,rfl⟩
structure iV where
 i:Int
 j:Int
 o7:List Vt
 o9:List (Vt×Bool)
 o10_5:Bool
 o15:List Vt
def lS (kk:Nat)(sm:List (ID×Int))(upto:Int)(x1:iV):Option (iV⊕iV):=bif decide (x1.j<(kk:Int))then (ix (x1.o15.take kk) x1.j).bind fun y1=>(wG y1 x1.o7 sm x1.o9 upto x1.o10_5).bind fun v3=>bif !v3.1 then (ix (x1.o15.take kk) x1.i).bind fun _=>some (.inl (iV.mk (IntKind.i64.wrap (x1.i+1)) (IntKind.i64.wrap (x1.j+1)) v3.2.1 v3.2.2.1 v3.2.2.2 (x1.o15.set x1.i.toNat y1)))else some (.inl (iV.mk x1.i (IntKind.i64.wrap (x1.j+1)) v3.2.1 v3.2.2.1 v3.2.2.2 x1.o15))else some (.inr (iV.mk x1.i x1.j x1.o7 x1.o9 x1.o10_5 x1.o15))
def BE (lV:List Vt)(kk:Nat)(wV:List Vt)(sm:List (ID×Int))(hm:List (Vt×Bool))(upto:Int)(full:Bool):Option (Nat×List Vt×List Vt×List (Vt×Bool)×Bool):=(BN lV kk wV sm hm upto full).bind fun v1=>bif v1.1==(-1)then some (kk,lV,v1.2.1,v1.2.2.1,v1.2.2.2)else (iter (lS kk sm upto) bg (iV.mk v1.1 (IntKind.i64.wrap (v1.1+1)) v1.2.1 v1.2.2.1 v1.2.2.2 lV)).bind fun v2=>bif decide (0≤v2.i∧v2.i≤(kk:Int))then bif decide (v2.i.toNat+(kk-v2.i.toNat)≤v2.o15.length)then bif decide (0≤v2.i∧v2.i≤(kk:Int))then some (v2.i.toNat,jf v2.o15 v2.i.toNat (kk-v2.i.toNat) (Vt.mk 0 0 (0,0)),v2.o7,v2.o9,v2.o10_5)else none else none else none
theorem JG {lV:List Vt}{kk:Nat}{wB:List Bk}{wV:List Vt}{sm:List (ID×Int)}{hm:List (Vt×Bool)}{upto:Int}{full:Bool}{lB:List Bk}{n0:Nat}{k0:Nat}{n1:Nat}{k1:Nat}{r_:Nat×List Vt×List Vt×List (Vt×Bool)×Bool}(hr:BE lV kk wV sm hm upto full=some r_):LC Tryz.prog 142 [.vec 4 15 (lV.map aK).length 0 kk,.fn 156 [.ptr 10 0] []] [.dead,.dead,.dead,.box [.zs,.zs],.box [.zs,.zs],.dead,.vec 5 (wB.map av),.vec 4 (wV.map aK),(mQ sm),(mR hm),.box [(jB 6 wB),(jV 7 wV),.map 8,.map 9,(iQ upto),(bQ full)],.dead,.dead,.dead,.vec 5 (lB.map av),.vec 4 (lV.map aK),.box [.vec 5 14 n0 0 k0,.vec 4 15 n1 0 k1]] (Is (.vec 4 15 (r_.2.1.map aK).length 0 r_.1) [.dead,.dead,.dead,.box [.zs,.zs],.box [.zs,.zs],.dead,.vec 5 (wB.map av),.vec 4 (r_.2.2.1.map aK),(mQ sm),(mR r_.2.2.2.1),.box [(jB 6 wB),(jV 7 r_.2.2.1),.map 8,.map 9,(iQ upto),(bQ r_.2.2.2.2)],.dead,.dead,.dead,.vec 5 (lB.map av),.vec 4 (r_.2.1.map aK),.box [.vec 5 14 n0 0 k0,.vec 4 15 n1 0 k1]]):=by
 refine fy Tryz.func142 Z Z Z ?_;unfold BE at hr;refine zQ<|zR<|zM Z<|zN<|zT<|zQ<|zR<|zM Z<|zM Z<|zb hr fun v1 h_v1 hr=>yS Z (zC Z Z Z (by kernel_rfl) (JJ h_v1))<|zM Z<|zN<|zT<|zQ<|zQ<|zR<|zM Z<|yS Z (ap Z Z Z Z)<|zN<|zT ?_;refine zX Z (fun g1=>?_)<|fun g1=>?_
 ·refine zi g1 hr fun hr=>zQ<|zR<|zM Z<|zM Z<|zN<|zT<|zr<|af ?_;obtain rfl:=zJ hr;exact aH (.one (.tmp Z))<|⟨rfl,rfl⟩
 ·refine zo g1 hr fun hr=>zk<|zT<|zQ<|zQ<|zR<|zM Z<|yS Z (ap Z Z Z Z)<|zM Z<|zN<|zT ?_;obtain⟨v2,hb_v2,ho_v2⟩:=zB hr;clear hr;refine LW.tail (E:=[(0,.vec 4 15 (v2.o15.map aK).length 0 kk),(4,.zs),(5,(iQ v2.i))]) (O:=[.dead,.dead,.dead,.box [.zs,.zs],.box [.zs,.zs],.dead,.vec 5 (wB.map av),.vec 4 (v2.o7.map aK),(mQ sm),(mR v2.o9),.box [(jB 6 wB),(jV 7 v2.o7),.map 8,.map 9,(iQ upto),(bQ v2.o10_5)],.dead,.dead,.dead,.vec 5 (lB.map av),.vec 4 (v2.o15.map aK),.box [.vec 5 14 n0 0 k0,.vec 4 15 n1 0 k1]]) ?_<|fun env_v2 H_v2 hw_v2=>?_
  ·refine LW.block ?_;refine LW.iterB (E:=fun x1:iV=>[(0,.vec 4 15 (x1.o15.map aK).length 0 kk),(1,.fn 156 [.ptr 10 0] []),(4,.zs),(5,(iQ x1.i)),(6,(iQ x1.j))]) (O:=fun x1=>[.dead,.dead,.dead,.box [.zs,.zs],.box [.zs,.zs],.dead,.vec 5 (wB.map av),.vec 4 (x1.o7.map aK),(mQ sm),(mR x1.o9),.box [(jB 6 wB),(jV 7 x1.o7),.map 8,.map 9,(iQ upto),(bQ x1.o10_5)],.dead,.dead,.dead,.vec 5 (lB.map av),.vec 4 (x1.o15.map aK),.box [.vec 5 14 n0 0 k0,.vec 4 15 n1 0 k1]]) hb_v2 (zW 17 ⟨rfl,rfl,rfl,rfl,rfl,trivial⟩ Z Z Z (zL Z (zL Z (zL Z (zL Z (zL Z (zL Z (zL Z (zL Z (zL (ae (fun _=>rfl) _) (zL (ae (fun _=>rfl) _) (zL Z (zL Z (zL Z (zL Z (zL Z (zL Z (zL Z Z))))))))))))))))))<|fun x1 z_x1 hr hb_x1=>?_;unfold lS at hr;refine zQ<|zQ<|zR<|zM Z<|zM Z<|yS Z (aa.lenVP Z Z Z (by kernel_rfl))<|yS Z (ap Z Z Z Z)<|zN<|zT ?_;refine zX Z (fun g2=>?_)<|fun g2=>?_
   ·refine zi g2 hr fun hr=>zk<|zT<|zQ<|zl<|zQ<|zR<|zM Z<|zM Z<|zb hr fun y1 h_y1 hr=>yS Z (aa.indexAddrVP Z Z Z Z bD h_y1)<|yS Z (aa.loadVX Z Z Z cp (gh h_y1).1 Z Z Z Z)<|yS Z (ze Z sz Z Z)<|yS Z (zs Z Z Z Z cp Z Z Z Z)<|zN<|zT<|zQ<|zR<|zM Z<|yS Z (zD Z Z Z cp Z Z)<|zb hr fun v3 h_v3 hr=>?_;refine yS Z (zC Z Z Z (by kernel_rfl) (LC.pre (FY h_v3) Z (zL Z (zL Z (zL Z (zL Z (zL Z (zL Z (zL Z (zL Z (zL (ae (fun _=>rfl) _) (zL (ae (fun _=>rfl) _) (zL Z (zL Z (zL Z (zL Z (zL Z (zL Z (zL Z Z))))))))))))))))) Z)) ?_;refine yS Z (aa.not Z Z)<|zN<|zT ?_;refine zX Z (fun g3=>?_)<|fun g3=>?_
    ·refine zi g3 hr fun hr=>zQ<|zR<|zM Z<|zM Z<|yS Z (zD Z Z Z cp Z Z)<|zb hr fun y2 h_y2 hr=>yS Z (aa.indexAddrVP Z Z Z Z bD h_y2) ?_;refine yS Z (aa.storeVP (f:=aK) (l:=x1.o15) y1 Z Z Z Z cp (fun _=>rfl) (gh h_y2).1 Z Z Z Z Z Z Z) ?_;refine zN<|zT<|zR<|zM Z<|yS Z (ap Z Z Z Z)<|zM Z<|zN<|ai<|zT<|zR<|zM Z<|yS Z (ap Z Z Z Z)<|zM Z<|zN<|zT ?_;obtain rfl:=zJ hr;exact⟨_,rfl,zW 17 ⟨(HD (rfl)),rfl,rfl,rfl,rfl,trivial⟩ Z Z Z (zL Z (zL Z (zL Z (zL Z (zL Z (zL Z (zL Z (zL Z (zL (ae (fun _=>rfl) _) (zL (ae (fun _=>rfl) _) (zL Z (zL Z (zL Z (zL Z (zL Z (zL Z (zL Z Z)))))))))))))))))⟩
    ·refine zo g3 hr fun hr=>zk<|ai<|zT<|zR<|zM Z<|yS Z (ap Z Z Z Z)<|zM Z<|zN<|zT ?_;obtain rfl:=zJ hr;exact⟨_,rfl,zW 17 ⟨rfl,rfl,rfl,rfl,rfl,trivial⟩ Z Z Z (zL Z (zL Z (zL Z (zL Z (zL Z (zL Z (zL Z (zL Z (zL (ae (fun _=>rfl) _) (zL (ae (fun _=>rfl) _) (zL Z (zL Z (zL Z (zL Z (zL Z (zL Z (zL Z Z)))))))))))))))))⟩
   ·refine zo g2 hr fun hr=>zq<|aj<|aj<|zy<|zT ?_;obtain rfl:=zJ hr;have hr:=congrArg some (hb_x1 _ rfl);obtain rfl:=zJ hr;exact zW 17 ⟨Z,Z,Z,trivial⟩ Z Z Z<|zL Z<|zL Z<|zL Z<|zL Z<|zL Z<|zL Z<|zL Z<|zL Z<|zL (ae (fun _=>rfl) _)<|zL (ae (fun _=>rfl) _)<|zL Z<|zL Z<|zL Z<|zL Z<|zL Z<|zL Z<|zL Z Z
  ·have hr:=ho_v2;clear hb_v2;refine zT<|LW.weak hw_v2<|zQ<|zR<|zM Z<|zM Z<|zg hr fun q1 hr=>yS Z (aa.sliceVLo Z Z Z Z bD q1)<|zg hr fun q2 hr=>?_;refine yS Z (aa.clearVP (f:=aK) (zs:=[.int .i64 0,.int .i64 0,.int .u64 0,.int .u64 0]) (Vt.mk 0 0 (0,0)) Z Z Z bD (fun _=>rfl) (by kernel_rfl) Z q2 Z) ?_;refine zN<|zT<|zQ<|LW.ent (cz.vlen (t:=0) (n':=((jf v2.o15 v2.i.toNat (kk-v2.i.toNat) (Vt.mk 0 0 (0,0))).map aK).length) Z (tG q2))<|zR<|zM Z<|zM Z<|zg hr fun q3 hr=>yS Z (aa.sliceVHi Z Z Z Z bD q3)<|zM Z<|zN<|zT<|zr ?_;obtain rfl:=zJ hr;exact aH (.one (.tmp Z))<|⟨rfl,rfl⟩
structure Ac where
 Tick:Int
 To:Int
 Offer:Bool
 B:List Bk
 V:List Vt
def Mn (a:Ac):PV:=.agg [.int .i64 a.Tick,.int .i64 a.To,.bool a.Offer,.slice 5 (a.B.map av),.slice 4 (a.V.map aK)]
structure Of where
 Slot:Int
 From:Int
 B:Bk
 V:Vw
def dC (o:Of):PV:=.agg [.int .i64 o.Slot,.int .i64 o.From,.int .i64 o.B.Slot,.int .i64 o.B.From,.int .u64 o.B.Parent.1,.int .u64 o.B.Parent.2,.int .u64 o.B.Salt,.slice 5 (o.V.B.map av),.slice 4 (o.V.V.map aK)]
structure Nd where
 No:Int
 Tick:Int
 V:Vw
 In:Vw
 O:List Of
 C:Cu
 Full:Bool
def nr (n:Nd):PV:=.agg [.int .i64 n.No,.int .i64 n.Tick,.slice 5 (n.V.B.map av),.slice 4 (n.V.V.map aK),.slice 5 (n.In.B.map av),.slice 4 (n.In.V.map aK),.slice 9 (n.O.map dC),.int .u64 n.C.ID.1,.int .u64 n.C.ID.2,.int .i64 n.C.Slot,.int .i64 n.C.Revoked,.bool n.Full]
structure Wd where
 C:Cf
 Bad:List Int
 Tick:Int
 N:List Nd
 O:List Of
structure Du where
 frm:Int
 slot:Int
 deriving DecidableEq
def sv (d:Du):PV:=.agg [.int .i64 d.frm,.int .i64 d.slot]
theorem yl :fE sv 2 true:=⟨fun a b=>by
 obtain⟨x,y⟩:=a;obtain⟨z,w⟩:=b;simp only[sv,iv,ru,Bool.and_true,Du.mk.injEq,Option.some.injEq]
 by_cases h1:x=z <;>by_cases h2:y=w <;>simp[h1,h2],fun _=>rfl⟩
abbrev kO (l:List Of):LV:=.p (.slice 9 (l.map dC))
abbrev jO (i:Nat)(l:List Of):LV:=.vec 9 i (l.map dC).length 0 (l.map dC).length
abbrev kT :List LV:=[iQ 0,iQ 0,.zs,.zs,.zs,.zs,.zs,uQ 0,uQ 0,iQ 0,iQ 0,bQ false]
abbrev kU (n:Nd):List LV:=[.p (.int .i64 n.No),.p (.int .i64 n.Tick),.p (.slice 5 (n.V.B.map av)),.p (.slice 4 (n.V.V.map aK)),.p (.slice 5 (n.In.B.map av)),.p (.slice 4 (n.In.V.map aK)),.p (.slice 9 (n.O.map dC)),.p (.int .u64 n.C.ID.1),.p (.int .u64 n.C.ID.2),.p (.int .i64 n.C.Slot),.p (.int .i64 n.C.Revoked),.p (.bool n.Full)]
abbrev Ml (w:Wd):List LV:=[.p (.slice 1 (w.C.W.map aT)),.p (.int .u64 w.C.Seed),.p (.int .i64 w.C.Epoch),.p (.int .i64 w.C.Num),.p (.int .i64 w.C.Den),.p (.slice 1 (w.Bad.map aT)),.p (.int .i64 w.Tick),.p (.slice 12 (w.N.map nr)),.p (.slice 9 (w.O.map dC))]
abbrev ME :List LV:=[.zs,.p (.int .u64 0),.p (.int .i64 0),.p (.int .i64 0),.p (.int .i64 0),.zs,.p (.int .i64 0),.zs,.zs]
abbrev Mh (w:Wd)(a:Vw)(h:Int)(m:Bool)(l:List Ac)(f i j:Nat):List LV:=[.p (.slice 1 (w.C.W.map aT)),.p (.int .u64 w.C.Seed),.p (.int .i64 w.C.Epoch),.p (.int .i64 w.C.Num),.p (.int .i64 w.C.Den),.p (.slice 1 (w.Bad.map aT)),.p (.int .i64 w.Tick),.p (.slice 12 (w.N.map nr)),.p (.slice 9 (w.O.map dC)),.p (.slice 5 (a.B.map av)),.p (.slice 4 (a.V.map aK)),.p (.int .i64 h),.p (.bool m),.fn f [] [.ptr i 0,.ptr j 0],.p (.int .i64 (IntKind.i64.wrap (w.Tick.tdiv 3))),.p (.slice 5 (l.map Mn))]
abbrev hM (w:Wd)(a:Vw)(h:Int)(m:Bool)(l:List Ac)(f g:Nat):List ab:=[.box (Ml w),.box ME,.box (Ml w),.box (Mh w a h m l f 5 4),.box (Mh w a h m l f 5 4),.box [.fn g [] [.ptr 2 0]]]
def xh (v:Vt):List Vt→List Vt
 |[]=>[v]
 |x::r=>if v.From<x.From then v::x::r else x::xh v r
def gy :List Vt→List Vt
 |[]=>[]
 |v::r=>xh v (gy r)
def nT (l:List Vt):Prop:=l.Pairwise fun a b=>a.From≤b.From
theorem pt (v:Vt):∀l:List Vt,(xh v l).Perm (v::l)
 |[]=>.refl _
 |x::r=>by
  unfold xh;split
  ·exact .refl _
  ·exact((pt v r).cons x).trans (.swap v x r)
theorem cv :∀l:List Vt,(gy l).Perm l
 |[]=>.refl _
 |v::r=>(pt v (gy r)).trans ((cv r).cons v)
theorem ta {v:Vt}:∀{l:List Vt},nT l→nT (xh v l)
 |[],_=>by simp[xh,nT]
 | x::r,h=>by
  have h2:=List.pairwise_cons.1 h;unfold xh;split
  ·rename_i hl
   exact List.pairwise_cons.2 ⟨fun y hy=>by
    rcases List.mem_cons.1 hy with e|hy
    ·subst e;omega
    ·have:=h2.1 y hy;omega,h⟩
  ·rename_i hl;refine List.pairwise_cons.2 ⟨fun y hy=>?_,ta h2.2⟩;rcases List.mem_cons.1 ((pt v r).mem_iff.1 hy)with e|hy
   ·subst e;omega
   ·exact h2.1 y hy
theorem iH :∀l:List Vt,nT (gy l)
 |[]=>.nil
 |_::r=>ta (iH r)
theorem oH :∀{a b:List Vt},a.Perm b→nT a→nT b→(∀x∈a,∀y∈a,x.From=y.From→x=y)→a=b
 |[],b,h,_,_,_=>(List.Perm.nil_eq h)
 | x ::r,b,h,ha,hb,hd=>by
  cases b with
  |nil=>exact absurd h.length_eq (by simp)
  | cons y s=>
   have ha2:=List.pairwise_cons.1 ha;have hb2:=List.pairwise_cons.1 hb;have hy:y∈x::r:=h.mem_iff.2 (.head _);have hx:x∈y::s:=h.mem_iff.1 (.head _)
   have e:x=y:=by
    refine hd x (.head _) y hy ?_
    have h1:x.From≤y.From:=by
     rcases List.mem_cons.1 hy with e|hy
     ·rw[e];omega
     ·exact ha2.1 y hy
    have h2:y.From≤x.From:=by
     rcases List.mem_cons.1 hx with e|hx
     ·rw[e];omega
     ·exact hb2.1 x hx
    omega
   subst e;rw[oH (List.Perm.cons_inv h) ha2.2 hb2.2 fun p hp q hq=>hd p (.tail _ hp) q (.tail _ hq)]
theorem A2 {a b:List Vt}(h:a.Perm b)(hd:∀x∈a,∀y∈a,x.From=y.From→x=y):gy a=gy b:=
 oH ((cv a).trans (h.trans (cv b).symm)) (iH a) (iH b) fun x hx y hy=>hd x ((cv a).mem_iff.1 hx) y ((cv a).mem_iff.1 hy)
theorem DI {a b:List Vt}(h:a.Perm b)(hb:nT b)(hd:∀x∈a,∀y∈a,x.From=y.From→x=y):gy a=b:=
 oH ((cv a).trans h) (iH a) hb fun x hx y hy=>hd x ((cv a).mem_iff.1 hx) y ((cv a).mem_iff.1 hy)
def xz (l:List Vt):Bool:=decide (l.length≤1000000∧∀x∈l,∀y∈l,x.From=y.From→x=y)
open Go.Proofs
theorem ob {α β:Type}{x:α}{f:α→Option β}:(some x).bind f=f x:=by
 have h:∀o:Option α,o=some x→o.bind f=f x:=by intro o e;subst e;rfl
 exact h _ Z
theorem ct {α:Sort _}{x y:α}:(bif true then x else y)=x:=by
 have h:∀b:Bool,b=true→(bif b then x else y)=x:=by intro o e;subst e;rfl
 exact h _ Z
theorem cf {α:Sort _}{x y:α}:(bif false then x else y)=y:=by
 have h:∀b:Bool,b=false→(bif b then x else y)=y:=by intro o e;subst e;rfl
 exact h _ Z
theorem sl {α β γ:Type}{f:α→γ}{g:β→γ}{x:α}:Sum.elim f g (.inl x)=f x:=by
 have h:∀s:α⊕β,s=.inl x→Sum.elim f g s=f x:=by intro o e;subst e;rfl
 exact h _ Z
theorem sr {α β γ:Type}{f:α→γ}{g:β→γ}{x:β}:Sum.elim f g (.inr x)=g x:=by
 have h:∀s:α⊕β,s=.inr x→Sum.elim f g s=g x:=by intro o e;subst e;rfl
 exact h _ Z
theorem bf {α β:Type}{step:α→Option (α⊕β)}(Inv:α→Prop)(m:α→Nat)(Post:β→Prop)
  (h:∀x,Inv x→(∃y,step x=some (.inl y)∧Inv y∧m y<m x)∨∃b,step x=some (.inr b)∧Post b):∀{n:Nat} {x:α},Inv x→m x<n→∃b,iter step n x=some b∧Post b:=by
 intro n
 induction n with
 |zero=>intro x _ hn;omega
 |succ n ih=>
  intro x hx hn;unfold iter;rcases h x hx with⟨y,h1,h2,h3⟩|⟨b,h1,h2⟩
  ·rw[h1];exact ih h2 (by omega)
  ·rw[h1];exact⟨b,rfl,h2⟩
theorem aw {α:Type}{l:List α}{n:Nat}{y:α}(h:l[n]?=some y):ix l (n:Int)=some y:=by
 unfold ix;rw[if_pos (by omega)];simpa using h
theorem F4 {α:Type}{l:List α}{i:Int}{y:α}(h0:0≤i)(h:l[i.toNat]?=some y):ix l i=some y:=by
 unfold ix;rw[if_pos h0];exact h
theorem ax {α:Type}{l:List α}{n:Nat}(h:n<l.length):∃y,l[n]?=some y∧y∈l:=⟨l[n],List.getElem?_eq_getElem h,List.getElem_mem h⟩
theorem ah {n:Nat}(h:n<4000000000):IntKind.i64.wrap ((n:Int)+1)=((n+1:Nat):Int):=by
 rw[cJ (by omega) (by omega)];omega
theorem aM {a b c:Nat}(h:a+b≤1000000)(hc:c≤1000):cy a b c=true:=by
 have:(a+b)*(c+1)≤1000000*1001:=Nat.mul_le_mul h (by omega);exact decide_eq_true (by omega)
theorem Hq {α:Type}{l:List α}{i:Int}(h0:0≤i)(h:i≤l.length):yJ l 0 i=true:=decide_eq_true ⟨Int.le_refl _,h0,h⟩
theorem bO {n:Nat}(h:n<4000000000000000000):n<bg:=by unfold bg;omega
theorem yo (a b:ID):((a.1==b.1)&&(a.2==b.2))=decide (a=b):=by rw[←n7];simp
theorem vA (a:ID):((a.1==0)&&((a.2==0)&&true))=decide (a=(0,0)):=n7 a (0,0)
theorem Iy {α:Sort _}{p:Prop}[Decidable p]{x y:α}:(bif decide p then x else y)=if p then x else y:=by by_cases h:p <;>simp[h]
theorem yL {α:Type}{f:α→PV}{O:α→Prop}{T:TS}(hf:∀p,qb T p→∃a,p=f a∧O a):∀{xs:List PV},(∀x∈xs,qb T x)→∃l:List α,xs=l.map f∧∀a∈l,O a
 |[],_=>⟨[],rfl,fun a h=>by simp at h⟩
 | x::xs,h=>by
  obtain⟨a,rfl,ha⟩:=hf x (h x (.head _));obtain⟨l,rfl,hl⟩:=yL hf fun y hy=>h y (.tail _ hy)
  exact⟨a::l,rfl,fun b hb=>by
   cases hb with
   |head=>exact ha
   |tail _ hb=>exact hl b hb⟩
theorem ed {α:Type}{f:α→PV}{O:α→Prop}{T:TS}{m:Nat}(hf:∀p,qb T p→∃a,p=f a∧O a){p:PV}(h:qb (.slice m T) p):∃l:List α,p=.slice m (l.map f)∧∀a∈l,O a:=by
 cases h with
 |slice h=>
  obtain⟨l,rfl,hl⟩:=yL hf h;exact⟨l,rfl,hl⟩
def nt (b:Bk):Prop:=aS .i64 b.Slot∧aS .i64 b.From∧aS .u64 b.Parent.1∧aS .u64 b.Parent.2∧aS .u64 b.Salt
def Iw (v:Vt):Prop:=aS .i64 v.From∧aS .i64 v.Slot∧aS .u64 v.Head.1∧aS .u64 v.Head.2
def wR (v:ID):Prop:=aS .u64 v.1∧aS .u64 v.2
def KY (c:Cf):Prop:=(∀w∈c.W,aS .i64 w)∧aS .u64 c.Seed∧aS .i64 c.Epoch∧aS .i64 c.Num∧aS .i64 c.Den
def KZ (c:Cu):Prop:=wR c.ID∧aS .i64 c.Slot∧aS .i64 c.Revoked
def CH (w:Vw):Prop:=(∀b∈w.B,nt b)∧∀v∈w.V,Iw v
theorem yK {p:PV}(h:qb (.agg [.int .i64,.int .i64,.int .u64,.int .u64,.int .u64]) p):∃c:Bk,p=av c∧nt c:=by
 cases h with|agg h=>
 cases h with|cons a h=>cases h with|cons b h=>cases h with|cons c h=>cases h with|cons d h=>cases h with|cons e h=>
  cases h;cases a;cases b;cases c;cases d;cases e;exact⟨⟨_,_,(_,_),_⟩,rfl,by assumption,by assumption,by assumption,by assumption,by assumption⟩
theorem yN {p:PV}(h:qb (.agg [.int .i64,.int .i64,.int .u64,.int .u64]) p):∃c:Vt,p=aK c∧Iw c:=by
 cases h with|agg h=>
 cases h with|cons a h=>cases h with|cons b h=>cases h with|cons c h=>cases h with|cons d h=>
  cases h;cases a;cases b;cases c;cases d;exact⟨⟨_,_,(_,_)⟩,rfl,by assumption,by assumption,by assumption,by assumption⟩
theorem Hv {k:IntKind}{f:Int→PV}(hf:∀n,f n=.int k n){p:PV}(h:qb (.int k) p):∃n,p=f n∧aS k n:=by
 cases h with|int h=>exact⟨_,(hf _).symm,h⟩
theorem Hw {p:PV}(h:qb (.slice 1 (.int .i64)) p):∃l:List Int,p=.slice 1 (l.map aT)∧∀a∈l,aS .i64 a:=ed (fun _ h=>Hv (fun _=>rfl) h) h
theorem J0 {p:PV}(h:qb (.agg [.slice 1 (.int .i64),.int .u64,.int .i64,.int .i64,.int .i64]) p):∃c:Cf,p=fz c∧KY c:=by
 cases h with|agg h=>
 cases h with|cons a h=>cases h with|cons b h=>cases h with|cons c h=>cases h with|cons d h=>cases h with|cons e h=>
  cases h;obtain⟨w,rfl,hw⟩:=Hw a;cases b;cases c;cases d;cases e;exact⟨⟨w,_,_,_,_⟩,rfl,hw,by assumption,by assumption,by assumption,by assumption⟩
theorem J2 {p:PV}(h:qb (.agg [.slice 5 (.agg [.int .i64,.int .i64,.int .u64,.int .u64,.int .u64]),.slice 4 (.agg [.int .i64,.int .i64,.int .u64,.int .u64])]) p):∃c:Vw,p=gW c∧CH c:=by
 cases h with|agg h=>
 cases h with|cons a h=>cases h with|cons b h=>
  cases h;obtain⟨x,rfl,hx⟩:=ed (fun _ h=>yK h) a;obtain⟨y,rfl,hy⟩:=ed (fun _ h=>yN h) b;exact⟨⟨x,y⟩,rfl,hx,hy⟩
theorem Ho {l:List Bk}(h:l.length≤1000):Hn l=true:=decide_eq_true h
section
variable {l : List Bk}
def pm (l:List Bk)(id:ID):Int:=match places l with
 |none=> -1
 |some m=>(ak m id).getD (-1)
def ja (l:List Bk)(id:ID):Int×Bool:=match places l with
 |none=>(0,false)
 |some m=>match ak m id with
  |none=>(0,false)
  |some i=>(bX l i,true)
def aU (l:List Bk)(id:ID):List ID:=match places l with
 |none=>[]
 |some _=>(l.filter fun b=>decide (b.Parent=id)).map nm
theorem Co :HN l=some (places l).isSome:=by
 unfold HN;cases h:places l <;>rfl
theorem lv {m:List (ID×Int)}(h:places l=some m){id:ID}{i:Int}(hf:ak m id=some i):(i= -1∧id=(0,0))∨∃b,0≤i∧i<l.length∧l[i.toNat]?=some b∧nm b=id∧bX l i=b.Slot:=by
 rcases(aX h).known _ _ hf with h1|⟨b,p,h0,h1,h2,h3,-⟩
 ·exact .inl h1
 ·exact .inr ⟨b,h0,h1,h2,h3,by simp[bX,h2,show¬i= -1 by omega]⟩
theorem p0 {n:Nat}{y:Bk}(hy:l[n]?=some y)(id:ID):((l.take (n+1)).filter fun b=>decide (b.Parent=id)).map nm=((l.take n).filter fun b=>decide (b.Parent=id)).map nm++if y.Parent=id then[nm y]else[]:=by
 rw[List.take_add_one,hy,List.filter_append,List.map_append];by_cases h:y.Parent=id <;>simp[h]
theorem AA {n:Nat}{y:Bk}{out:List ID}{id:ID}{v:ID}(hl:l.length≤1000)(hn:n<l.length)(hy:l[n]?=some y)(ho:out.length≤n)(hv:nm y=v) :
  oU l id ⟨n,out⟩=some (.inl ⟨IntKind.i64.wrap ((n:Int)+1),out++if y.Parent=id then[v]else[]⟩):=by
 simp only[oU];rw[decide_eq_true (show(n:Int)<(l.length:Int) by omega),aw hy];simp only[ct,ob,hv,n7];rw[aM (by simp;omega) (by omega)];by_cases h:y.Parent=id
 ·rw[decide_eq_true h,if_pos h];rfl
 ·rw[decide_eq_false h,if_neg h,List.append_nil];rfl
theorem Gs (hl:l.length≤1000)(id:ID):Ih l id=some (aU l id):=by
 simp only[Ih,Co,ob];unfold aU
 cases h:places l with
 |none=>rfl
 |some m=>
 simp only[Option.isSome_some,Bool.not_true,cf]
 have key:=bf (step:=oU l id) (fun x=>∃n:Nat,x.t13=n∧n≤l.length∧x.out=((l.take n).filter fun b=>decide (b.Parent=id)).map nm)
  (fun x=>l.length-x.t13.toNat) (fun b=>b.out=(l.filter fun b=>decide (b.Parent=id)).map nm) (by
   rintro⟨i,out⟩ ⟨n,rfl,hn,ho⟩;simp only at ho⊢;by_cases hlt:n<l.length
   case neg=>
    right;refine⟨⟨n,out⟩,?_,?_⟩
    ·simp only[oU];rw[decide_eq_false (by omega)];rfl
    ·rw[ho,List.take_of_length_le (by omega)]
   obtain⟨y,hy,-⟩:=ax hlt;left
   have hol:out.length≤n:=by
    rw[ho,List.length_map];exact Nat.le_trans (List.length_filter_le _ _) (by simp;omega)
   refine⟨_,AA hl hlt hy hol rfl,⟨n+1,ah (n:=n) (by omega),by omega,?_⟩,?_⟩
   ·rw[p0 hy,←ho]
   ·simp only[ah (show n<4000000000 by omega)];omega) (x:=⟨0,[]⟩) ⟨0,rfl,Nat.zero_le _,by simp⟩ (n:=bg) (bO (by simp only;omega))
 obtain⟨b,hb,hpost⟩:=key;simp only[hb,ob,hpost]
end
def j7 (l:List Bk):Nat→List (ID×Int)
 |0=>[((0,0),-1)]
 |n+1=>match l[n]? with
  |some b=>j7 l n++[(nm b,(n:Int))]
  |none=>j7 l n
theorem tU {a:List ID}{x id:ID}:an (a++[x]) id=if 0≤an a id then an a id else if x=id then a.length else -1:=by
 rcases ec (l:=a) (v:=id)with⟨h1,h2⟩|⟨i,h1,h2,h3⟩
 ·rw[if_neg (by omega)];by_cases hx:x=id
  ·subst hx;rw[if_pos rfl];refine iu (i:=a.length) (by simp) fun j hj e=>h2 ?_;rw[List.getElem?_append_left hj]at e;exact List.mem_of_getElem? e
  ·rw[if_neg hx];refine gO fun j hj e=>?_;have:=List.mem_of_getElem? e;simp only[List.mem_append,List.mem_singleton]at this;rcases this with h|h
   ·exact h2 h
   ·exact hx h.symm
 ·rw[h1,if_pos (by omega)];have hi:=(List.getElem?_eq_some_iff.1 h2).1;refine iu (by rw[List.getElem?_append_left hi];exact h2) fun j hj=>?_;rw[List.getElem?_append_left (by omega)];exact h3 j hj
theorem lz {l:List Bk}(id:ID):∀n,n≤l.length→ak (j7 l n) id=if id=(0,0)then some (-1)else if 0≤an ((l.take n).map nm) id then some (an ((l.take n).map nm) id)else none
 |0,_=>by
  have:an ((l.take 0).map nm) id= -1:=by simp[an]
  simp only[j7,ak,this];by_cases h:id=(0,0)
  ·subst h;simp
  ·rw[if_neg (fun e=>h e.symm),if_neg h,if_neg (by omega)]
 | n+1,hn=>by
  obtain⟨b,hb,-⟩:=ax (l:=l) (n:=n) (by omega);have ih:=lz (l:=l) id n (by omega);simp only[j7,hb];rw[fF,ih,List.take_add_one,hb];simp only[Option.toList,List.map_append,List.map_cons,List.map_nil];rw[tU];by_cases h:id=(0,0)
  ·rw[if_pos h,if_pos h];rfl
  ·rw[if_neg h,if_neg h];by_cases h2:0≤an ((l.take n).map nm) id
   ·rw[if_pos h2,if_pos h2,if_pos h2];rfl
   ·rw[if_neg h2,if_neg h2];by_cases h3:nm b=id
    ·rw[if_pos h3,if_pos h3,if_pos (by omega)];simp;omega
    ·rw[if_neg h3,if_neg h3,if_neg (by omega)];rfl
theorem vT {l:List Bk}{n:Nat}{id:ID}(h:0≤an ((l.take n).map nm) id):∃(j:Nat) (b:Bk),an ((l.take n).map nm) id=j∧j<n∧l[j]?=some b∧nm b=id:=by
 rcases ec (l:=(l.take n).map nm) (v:=id)with⟨h1,h2⟩|⟨i,h1,h2,h3⟩
 ·omega
 ·have hi:=(List.getElem?_eq_some_iff.1 h2).1;simp only[List.length_map,List.length_take]at hi;rw[List.getElem?_map,List.getElem?_take_of_lt (by omega)]at h2
  cases hb:l[i]? with
  |none=>rw[hb]at h2;simp at h2
  |some b=>rw[hb]at h2;simp at h2;exact⟨i,b,h1,by omega,hb,h2⟩
theorem xt {l:List Bk}:∀(r n:Nat),l.length-n=r→n≤l.length→∀m,cT l (l.drop n) n (j7 l n)=some m→m=j7 l l.length:=by
 intro r
 induction r with
 |zero=>
  intro n hr hn m h
  have:n=l.length:=by omega
  subst this;rw[List.drop_length]at h;cases h;rfl
 | succ r ih=>
  intro n hr hn m h;obtain⟨y,hy,-⟩:=ax (l:=l) (n:=n) (by omega);rw[dr hy]at h;split at h
  ·cases h
  ·split at h
   ·cases h
   ·split at h
    ·cases h
    ·refine ih (n+1) (by omega) (by omega) m ?_
     have e:j7 l (n+1)=j7 l n++[(nm y,(n:Int))]:=by simp only[j7,hy]
     rw[e];exact h
theorem te {l:List Bk}{m:List (ID×Int)}(h:places l=some m):m=j7 l l.length:=xt l.length 0 (by omega) (Nat.zero_le _) m h
theorem kp {l:List Bk}{m:List (ID×Int)}(h:places l=some m)(id:ID) :
  ak m id=if id=(0,0)then some (-1)else if 0≤an (l.map nm) id then some (an (l.map nm) id)else none:=by
 have:=lz (l:=l) id l.length (Nat.le_refl _);rw[List.take_length]at this;rw[te h];exact this
theorem nl {l:List Bk}{m:List (ID×Int)}(h:places l=some m):an (l.map nm) (0,0)= -1:=by
 rcases ec (l:=l.map nm) (v:=(0,0))with⟨h1,-⟩|⟨i,h1,h2,-⟩
 ·exact h1
 ·rw[List.getElem?_map]at h2
  cases hb:l[i]? with
  |none=>rw[hb]at h2;cases h2
  |some b=>
   rw[hb]at h2;have hi:=(List.getElem?_eq_some_iff.1 hb).1;have h3:=(aX h).names i b hi hb;have h4:=(aX h).zero;simp only[Option.map_some,Option.some.injEq]at h2;rw[h2,h4]at h3;cases h3
theorem Ht {x:Int}(h0:0≤x)(h1:x≤18446744073709551615):JZ x=18446744073709551615-x:=by
 obtain⟨n,rfl⟩:∃n:Nat,x=n:=⟨x.toNat,by omega⟩;have e:JZ (n:Int)=IntKind.u64.wrap ((BitVec.ofInt 64 18446744073709551615 ^^^ BitVec.ofInt 64 (n:Int)).toNat:Int):=rfl
 have e2:BitVec.ofInt 64 18446744073709551615=BitVec.allOnes 64:=by decide
 rw[e,e2,BitVec.allOnes_xor,BitVec.toNat_not]
 have e3:(BitVec.ofInt 64 (n:Int)).toNat=n:=by
  rw[BitVec.toNat_ofInt];omega
 rw[e3,fK (by omega) (by omega)];omega
theorem vM (op:BinOp)(k:IntKind)(a b:Int):aS k (bits op k a b):=cx k _
theorem Fv (x:Int):aS .u64 (HI x):=vM .xor .u64 _ _
theorem qC (h x:Int):aS .u64 (step h x):=Fv _
theorem j9 (h x:Int):qF h x=some (step h x):=rfl
theorem oS (x:Int):0≤IntKind.u64.wrap x∧IntKind.u64.wrap x≤18446744073709551615:=cx .u64 x
theorem D6 {l:List Int}(h:∀x∈l,aS .u64 x)(hl:l.length≤1000):Be l=some (ow l):=by
 have key:=bf (step:=lK l)
  (fun x=>∃n:Nat,x.i=n∧n≤l.length+1∧(x.a,x.b)=if n≤l.length then(l.take n).foldl gR (1,2)else ow l)
  (fun x=>l.length+1-x.i.toNat) (fun b=>(b.a,b.b)=ow l) (by
   rintro⟨a,b,i⟩ ⟨n,rfl,hn,hab⟩;simp only at hab⊢
   have put:∀v:Int,0≤v→v≤18446744073709551615→n≤l.length→(∀f:Int→Option (gK⊕gK),(bif decide ((n:Int)<(l.length:Int))then(ix l (n:Int)).bind fun y1=>some y1 else some (IntKind.u64.wrap ((l.length:Int)))).bind f=f v)→
     gR (a,b) v=(if n+1≤l.length then(l.take (n+1)).foldl gR (1,2)else ow l)→
     ∃y,lK l ⟨a,b,n⟩=some (.inl y)∧(∃n':Nat,y.i=n'∧n'≤l.length+1∧(y.a,y.b)=if n'≤l.length then(l.take n').foldl gR (1,2)else ow l)∧l.length+1-y.i.toNat<l.length+1-n:=by
    intro v h0 h1 hle hv hm;refine⟨⟨step a v,step b (JZ v),IntKind.i64.wrap (n+1)⟩,?_,⟨n+1,ah (n:=n) (by omega),by omega,hm⟩,?_⟩
    ·simp only[lK];rw[decide_eq_true (show(n:Int)≤(l.length:Int) by omega),ct,hv];simp only[j9,ob];rw[Ht h0 h1,fK (by omega) (by omega)]
    ·simp only[ah (show n<4000000000 by omega)];omega
   rcases Nat.lt_trichotomy n l.length with hlt|heq|hgt
   ·left;obtain⟨y,hy,hmem⟩:=ax hlt;have:=h y hmem;refine put y this.1 this.2 (by omega) (fun f=>by rw[decide_eq_true (show(n:Int)<(l.length:Int) by omega),aw hy];rfl) ?_;rw[hab,if_pos (by omega),if_pos (by omega),List.take_add_one,hy,List.foldl_append];rfl
   ·left;refine put (IntKind.u64.wrap (l.length:Int)) (oS _).1 (oS _).2 (by omega) (fun f=>by rw[decide_eq_false (show¬(n:Int)<(l.length:Int) by omega)];rfl) ?_;rw[hab,if_pos (by omega),if_neg (by omega),heq,List.take_length];rfl
   ·right;refine⟨⟨a,b,n⟩,?_,?_⟩
    ·simp only[lK];rw[decide_eq_false (show¬(n:Int)≤(l.length:Int) by omega)];rfl
    ·rw[hab,if_neg (by omega)]) (x:=⟨1,2,0⟩) ⟨0,rfl,Nat.zero_le _,by simp⟩ (n:=bg) (bO (by simp only;omega))
 obtain⟨b,hb,hpost⟩:=key;simp only[Be,hb,ob,hpost]
theorem tw {b:Bk}(h:nt b):Fy b=some (nm b):=by
 simp only[Fy];rw[show[1,IntKind.u64.wrap b.Slot,IntKind.u64.wrap b.From,b.Parent.1,b.Parent.2,b.Salt]=jQ b from rfl,D6 ?_ (by simp[jQ])]
 ·rfl
 ·intro x hx;simp only[jQ,List.mem_cons,List.not_mem_nil,or_false]at hx;rcases hx with rfl|rfl|rfl|rfl|rfl|rfl
  ·exact⟨by decide,by decide⟩
  ·exact oS _
  ·exact oS _
  ·exact h.2.2.1
  ·exact h.2.2.2.1
  ·exact h.2.2.2.2
theorem oZ {names:List ID}{id:ID}(hl:names.length≤4000):yb names id=some (an names id):=by
 have key:=bf (step:=pb names id) (fun x=>∃n:Nat,x.i=n∧n≤names.length∧∀j,j<n→names[j]?≠some id)
  (fun x=>names.length-x.i.toNat) (fun b=>(∃v,b=.inl v∧an names id= -1)∨∃r,b=.inr r∧an names id=r) (by
   rintro⟨i⟩ ⟨n,rfl,hn,hno⟩;simp only;by_cases hlt:n<names.length
   case neg=>
    right;refine⟨.inl ⟨n⟩,?_,.inl ⟨_,rfl,gO fun j hj=>hno j (by omega)⟩⟩;simp only[pb];rw[decide_eq_false (by omega)];rfl
   obtain⟨y,hy,-⟩:=ax hlt;by_cases he:y=id
   ·right;refine⟨.inr n,?_,.inr ⟨_,rfl,iu (he▸hy) hno⟩⟩;simp only[pb];rw[decide_eq_true (show(n:Int)<(names.length:Int) by omega),aw hy];simp[yo,he]
   ·left;refine⟨⟨IntKind.i64.wrap (n+1)⟩,?_,⟨n+1,ah (n:=n) (by omega),by omega,fun j hj=>?_⟩,?_⟩
    ·simp only[pb];rw[decide_eq_true (show(n:Int)<(names.length:Int) by omega),aw hy];simp[yo,he]
    ·rcases Nat.lt_succ_iff_lt_or_eq.1 hj with h|h
     ·exact hno j h
     ·subst h;rw[hy];simpa using he
    ·simp only[ah (show n<4000000000 by omega)];omega) (x:=⟨0⟩) ⟨0,rfl,Nat.zero_le _,fun j hj=>by omega⟩ (n:=bg) (bO (by simp only;omega))
 obtain⟨b,hb,hpost⟩:=key;simp only[yb,hb,ob];rcases hpost with⟨v,rfl,h⟩|⟨r,rfl,h⟩
 ·simp[h]
 ·simp[h]
def gX (l:List Bk):Prop:=∀b∈l,nt b
theorem tA {l:List Bk}(h:gX l)(hl:l.length≤1000):FC l=some (l.map nm):=by
 have key:=bf (step:=qZ l) (fun x=>∃n:Nat,x.i=n∧n≤l.length∧x.out=(l.take n).map nm)
  (fun x=>l.length-x.i.toNat) (fun b=>b.out=l.map nm) (by
   rintro⟨i,out⟩ ⟨n,rfl,hn,ho⟩;simp only at ho⊢;by_cases hlt:n<l.length
   case neg=>
    right;refine⟨⟨n,out⟩,?_,?_⟩
    ·simp only[qZ];rw[decide_eq_false (by omega)];rfl
    ·rw[ho,List.take_of_length_le (by omega)]
   obtain⟨y,hy,hmem⟩:=ax hlt;left;refine⟨⟨IntKind.i64.wrap (n+1),out++[nm y]⟩,?_,⟨n+1,ah (n:=n) (by omega),by omega,?_⟩,?_⟩
   ·simp only[qZ];rw[decide_eq_true (show(n:Int)<(l.length:Int) by omega),aw hy];simp only[ct,ob,tw (h y hmem)];rw[aM (by rw[ho];simp;omega) (by omega)];rfl
   ·rw[ho,List.take_add_one,hy];simp
   ·simp only[ah (show n<4000000000 by omega)];omega) (x:=⟨0,[]⟩) ⟨0,rfl,Nat.zero_le _,by simp⟩ (n:=bg) (bO (by simp only;omega))
 obtain⟨b,hb,hpost⟩:=key;simp only[FC,hb,ob,hpost]
theorem dU {l:List Bk}{n:Nat}{y:Bk}(hy:l[n]?=some y)(h:cT l (l.drop n) n (j7 l n)=places l)
  (hbad:ak (j7 l n) y.Parent=none∨(∃p,ak (j7 l n) y.Parent=some p∧y.Slot≤bX l p)∨∃p,ak (j7 l n) y.Parent=some p∧∃q,ak (j7 l n) (nm y)=some q):places l=none:=by
 rw[←h,dr hy];rcases hbad with h1|⟨p,h1,h2⟩|⟨p,h1,q,h2⟩
 ·rw[h1]
 ·rw[h1];simp[h2]
 ·rw[h1,h2];simp
theorem wc {l:List Bk}{n:Nat}{y:Bk}{p:Int}(hy:l[n]?=some y)(h:cT l (l.drop n) n (j7 l n)=places l)
  (h1:ak (j7 l n) y.Parent=some p) (h2:¬y.Slot≤bX l p) (h3:ak (j7 l n) (nm y)=none):cT l (l.drop (n+1)) (n+1) (j7 l (n+1))=places l:=by
 rw[←h,dr hy,h1,h3];simp[h2,j7,hy]
theorem Cy {l:List Bk}{names:List ID}{n:Nat}{y:Bk}{v:ID}(hn:n<l.length)(hlen:names.length≤4000)(hy:l[n]?=some y)(hv:names[n]?=some v):oY l names ⟨n⟩ =
  if v=(0,0)∨an (names.take n) v≥0∨y.Slot<1 then some (.inr (.inr false))
  else if y.Parent=(0,0)then some (.inl ⟨IntKind.i64.wrap ((n:Int)+1)⟩)
  else if an (names.take n) y.Parent<0 then some (.inr (.inr false))
  else(ix l (an (names.take n) y.Parent)).bind fun y4=>if y4.Slot≥y.Slot then some (.inr (.inr false))else some (.inl ⟨IntKind.i64.wrap ((n:Int)+1)⟩):=by
 have hnl:=(List.getElem?_eq_some_iff.1 hv).1;have e98:∀id,yb (names.take n) id=some (an (names.take n) id):=fun id=>oZ (by simp;omega);simp only[oY];rw[decide_eq_true (show(n:Int)<(l.length:Int) by omega),aw hy,Hq (show(0:Int)≤(n:Int) by omega) (by omega),Int.toNat_natCast];simp only[ct,ob,aw hv,e98];simp only[vA]
 have tail:(bif decide (y.Parent=(0,0))then(some (.inl (fD.mk (IntKind.i64.wrap ((n:Int)+1)))):Option (fD⊕(fD⊕Bool)))
   else bif decide (an (names.take n) y.Parent<0)then some (.inr (.inr false))
   else(ix l (an (names.take n) y.Parent)).bind fun y4=>bif decide (y4.Slot≥y.Slot)then some (.inr (.inr false))else some (.inl (fD.mk (IntKind.i64.wrap ((n:Int)+1))))) =
   if y.Parent=(0,0)then some (.inl ⟨IntKind.i64.wrap ((n:Int)+1)⟩)
   else if an (names.take n) y.Parent<0 then some (.inr (.inr false))
   else(ix l (an (names.take n) y.Parent)).bind fun y4=>if y4.Slot≥y.Slot then some (.inr (.inr false))else some (.inl ⟨IntKind.i64.wrap ((n:Int)+1)⟩):=by
  simp only[Iy]
 rw[tail];by_cases h1:v=(0,0)
 ·rw[decide_eq_true h1,if_pos (show v=(0,0)∨an (names.take n) v≥0∨y.Slot<1 from .inl h1)];rfl
 ·rw[decide_eq_false h1];by_cases h2:an (names.take n) v≥0
  ·rw[decide_eq_true h2,if_pos (show v=(0,0)∨an (names.take n) v≥0∨y.Slot<1 from .inr (.inl h2))];rfl
  ·rw[decide_eq_false h2];by_cases h3:y.Slot<1
   ·rw[decide_eq_true h3,if_pos (show v=(0,0)∨an (names.take n) v≥0∨y.Slot<1 from .inr (.inr h3))];rfl
   ·rw[decide_eq_false h3,if_neg (show¬(v=(0,0)∨an (names.take n) v≥0∨y.Slot<1) by rintro(h|h|h) <;>contradiction)];rfl
theorem wN {l:List Bk}(hl:l.length≤1000):HT l (l.map nm)=some (places l).isSome:=by
 have key:=bf (step:=oY l (l.map nm))
  (fun x=>∃n:Nat,x.i=n∧n≤l.length∧cT l (l.drop n) n (j7 l n)=places l∧∀j b,j<n→l[j]?=some b→1≤b.Slot)
  (fun x=>l.length-x.i.toNat) (fun b=>(∃v,b=.inl v∧(places l).isSome=true)∨(b=.inr false∧places l=none)) (by
   rintro⟨i⟩ ⟨n,rfl,hn,hgo,hslots⟩;simp only;by_cases hlt:n<l.length
   case neg=>
    right;refine⟨.inl ⟨n⟩,?_,.inl ⟨_,rfl,?_⟩⟩
    ·simp only[oY];rw[decide_eq_false (by omega)];rfl
    ·rw[←hgo,List.drop_eq_nil_of_le (by omega)];rfl
   obtain⟨y,hy,-⟩:=ax hlt
   have hyn:(l.map nm)[n]?=some (nm y):=by rw[List.getElem?_map,hy];rfl
   have hstep:=Cy hlt (by simp;omega) hy hyn;rw[←List.map_take]at hstep;generalize hv:nm y=v at hstep;generalize hN:(l.take n).map nm=N at hstep;have hname:=lz (l:=l) v n (by omega);have hpar:=lz (l:=l) y.Parent n (by omega)
   have hms:∀{id:ID},0≤an N id→∃(j:Nat) (b:Bk),an N id=j∧j<n∧l[j]?=some b:=fun h=>by
    subst hN;obtain⟨j,b,h1,h2,h3,-⟩:=vT h;exact⟨j,b,h1,h2,h3⟩
   rw[hN]at hname hpar
   -- is its name bad, or its slot?
   by_cases hbad:v=(0,0)∨an N v≥0∨y.Slot<1
   ·right;refine⟨.inr false,?_,.inr ⟨rfl,?_⟩⟩
    ·rw[hstep,if_pos hbad]
    ·cases hp:ak (j7 l n) y.Parent with
     |none=>exact dU hy hgo (.inl hp)
     | some p=>
      by_cases h1:v=(0,0)
      ·exact dU hy hgo<|.inr<|.inr ⟨p,hp,-1,by rw[hv,hname,if_pos h1]⟩
      by_cases h2:0≤an N (v)
      ·exact dU hy hgo<|.inr<|.inr ⟨p,hp,_,by rw[hv,hname,if_neg h1,if_pos h2]⟩
      have h3:y.Slot<1:=by rcases hbad with h|h|h <;>first|exact absurd h h1|exact absurd h h2|exact h
      refine dU hy hgo<|.inr<|.inl ⟨p,hp,?_⟩;rw[hpar]at hp;split at hp
      ·cases hp;simp[bX];omega
      ·split at hp
       ·rename_i h4;obtain⟨j,b,h5,h6,h7⟩:=hms h4;cases hp;rw[h5];have:=hslots j b h6 h7;simp[bX,h7,show¬((j:Int)= -1) by omega];omega
       ·cases hp
   have hnot:=not_or.1 hbad;have h1:=hnot.1;have h2:=(not_or.1 hnot.2).1;have h3:=(not_or.1 hnot.2).2;rw[if_neg hbad]at hstep;rw[hstep]
   have hno:ak (j7 l n) (v)=none:=by rw[hname,if_neg h1,if_neg h2]
   have goOn:∀p,ak (j7 l n) y.Parent=some p→¬y.Slot≤bX l p→∃n':Nat,(fD.mk (IntKind.i64.wrap ((n:Int)+1))).i=n'∧n'≤l.length∧cT l (l.drop n') n' (j7 l n')=places l∧∀j b,j<n'→l[j]?=some b→1≤b.Slot:=by
    intro p hp hs;refine⟨n+1,ah (n:=n) (by omega),by omega,wc hy hgo hp hs (by rw[hv];exact hno),fun j b hj hb=>?_⟩;rcases Nat.lt_succ_iff_lt_or_eq.1 hj with h|h
    ·exact hslots j b h hb
    ·subst h;rw[hy]at hb;cases hb;omega
   have hmeas:l.length-(fD.mk (IntKind.i64.wrap ((n:Int)+1))).i.toNat<l.length-((n:Int)).toNat:=by
    simp only[ah (show n<4000000000 by omega)];omega
   by_cases hz:y.Parent=(0,0)
   ·left;rw[hpar,if_pos hz]at goOn;refine⟨_,by rw[if_pos hz],goOn (-1) Z (by simp[bX];omega),hmeas⟩
   rw[if_neg hz];by_cases hk:0≤an N y.Parent
   case neg=>
    right;refine⟨.inr false,by rw[if_pos (by omega)],.inr ⟨rfl,dU hy hgo (.inl ?_)⟩⟩;rw[hpar,if_neg hz,if_neg hk]
   obtain⟨j,b,h5,h6,h7⟩:=hms hk
   have hp:ak (j7 l n) y.Parent=some (j:Int):=by rw[hpar,if_neg hz,if_pos hk,h5]
   have hsl:bX l (j:Int)=b.Slot:=by simp[bX,h7,show¬((j:Int)= -1) by omega]
   rw[if_neg (by omega),h5,aw h7];simp only[ob];by_cases hs:b.Slot≥y.Slot
   ·right;refine⟨.inr false,by rw[if_pos hs],.inr ⟨rfl,dU hy hgo (.inr (.inl ⟨_,hp,by rw[hsl];exact hs⟩))⟩⟩
   ·left
    exact⟨_,by rw[if_neg hs],goOn _ hp (by rw[hsl];exact hs),hmeas⟩) (x:=⟨0⟩) ⟨0,rfl,Nat.zero_le _,rfl,fun j b hj=>by omega⟩ (n:=bg) (bO (by simp only;omega))
 obtain⟨b,hb,hpost⟩:=key;simp only[HT,hb,ob];rcases hpost with⟨v,rfl,h⟩|⟨rfl,h⟩
 ·simp[h]
 ·simp[h]
theorem EX {x:Int}(h0:0≤x)(h1:x≤18446744073709551615):bits .and .u64 x 1=x.tmod 2:=by
 obtain⟨n,rfl⟩:∃n:Nat,x=n:=⟨x.toNat,by omega⟩;have e:bits .and .u64 (n:Int) 1=IntKind.u64.wrap ((BitVec.ofInt 64 (n:Int) &&& BitVec.ofInt 64 1).toNat:Int):=rfl
 have e2:(BitVec.ofInt 64 1).toNat=1:=by decide
 have e3:(BitVec.ofInt 64 (n:Int)).toNat=n:=by
  rw[BitVec.toNat_ofInt];omega
 rw[e,BitVec.toNat_and,e2,e3,Nat.and_one_is_mod,fK (by omega) (by omega)];rfl
def Pl (n i:Int):Prop:=1≤n∧n≤1000∧0≤i∧i<n
instance (n i:Int):Decidable (Pl n i):=inferInstanceAs (Decidable (_∧_))
theorem DD {seed n r:Int}(h1:1≤n)(h2:n≤1000):0≤dE seed n r∧dE seed n r<n∧dE seed n r=IntKind.i64.wrap ((step seed (IntKind.u64.wrap r)).tmod (IntKind.u64.wrap n)):=by
 have hs:=(qC seed (IntKind.u64.wrap r)).1;have hs':0≤step seed (IntKind.u64.wrap r):=hs;unfold dE;rw[fK (n:=n) (by omega) (by omega),Int.tmod_eq_emod_of_nonneg hs'];have a:=Int.emod_nonneg (step seed (IntKind.u64.wrap r)) (show n≠0 by omega);have b:=Int.emod_lt_of_pos (step seed (IntKind.u64.wrap r)) (show 0<n by omega);rw[cJ (by omega) (by omega)];exact⟨a,b,rfl⟩
theorem Fe {seed n r i:Int}(h:Pl n i):eg seed n r i=(dE seed n r+n-i) % n:=by
 obtain⟨h1,h2,h3,h4⟩:=h;have hp:=DD (seed:=seed) (r:=r) h1 h2;unfold eg;rw[cJ (n:=dE seed n r+n) (by omega) (by omega),cJ (by omega) (by omega),Int.tmod_eq_emod_of_nonneg (by omega)]
theorem Ff {seed n r i:Int}(h:Pl n i):Pl n (eg seed n r i):=by
 rw[Fe h];obtain⟨h1,h2,h3,h4⟩:=h;exact⟨h1,h2,Int.emod_nonneg _ (by omega),Int.emod_lt_of_pos _ (by omega)⟩
theorem Fr {seed n r i:Int}(h:Pl n i):Pl n (lI seed n r i):=by
 unfold lI;cases r9 seed n r i
 ·exact h
 ·exact Ff h
def rt (seed n i:Int):Nat→Int
 |0=>i
 |k+1=>lI seed n k (rt seed n i k)
theorem Gc {seed n i:Int}(h:Pl n i):∀k,Pl n (rt seed n i k)
 |0=>h
 |k+1=>Fr (Gc h k)
def xD (seed n i:Int):Int:=rt seed n i 10
theorem xN (n i:Int):zw n i=some (decide (Pl n i)):=by
 unfold zw;by_cases h1:n>0
 ·rw[decide_eq_true h1,ct];by_cases h2:n≤1000
  ·rw[decide_eq_true h2,ct];by_cases h3:i≥0
   ·rw[decide_eq_true h3,ct];congr 1;exact decide_eq_decide.2 ⟨fun h=>⟨by omega,h2,h3,h⟩,fun h=>h.2.2.2⟩
   ·rw[decide_eq_false h3,cf,decide_eq_false (fun h=>h3 h.2.2.1)]
  ·rw[decide_eq_false h2,cf,decide_eq_false (fun h=>h2 h.2.1)]
 ·rw[decide_eq_false h1,cf,decide_eq_false (fun h=>h1 (by have:=h.1;omega))]
theorem D8 (n i:Int):Bh n i=some (decide (Pl n i)):=by
 rw[←xN];unfold zw Bh;by_cases h1:n>0
 ·rw[decide_eq_true h1,decide_eq_true (show n≥1 by omega)]
 ·rw[decide_eq_false h1,decide_eq_false (show¬n≥1 by omega)]
theorem A6 {n i r:Int}(h:Pl n i)(h0:0≤r)(h1:r<10):sb n r=true:=
 decide_eq_true ⟨by have:=h.1;omega,by have:=h.1;have:=h.2.1;rw[fK (by omega) (by omega)];omega,h0,h1⟩
theorem D7 {seed n i:Int}{d:Dk}(h:Pl n i)(hk0:0≤d.k)(hk1:d.k≤100000):∃d',Bf seed n i d=some (xD seed n i,d')∧d'.k=d.k+10:=by
 have key:=@bf _ _ (qm seed n) (fun x=>∃j:Nat,j≤10∧x.t6=j∧x.i=rt seed n i j∧x.d.k=d.k+j) (fun x=>11-x.t6.toNat) (fun b=>b.i=xD seed n i∧b.d.k=d.k+10) (by
  rintro⟨a,t,dd⟩ ⟨j,hj,rfl,ha,hd⟩;simp only at ha hd;subst ha;by_cases hlt:j<10
  ·left
   refine⟨_,by
    simp only[qm]
    rw[decide_eq_true (show(j:Int)<10 by omega),ct,A6 h (by omega) (by omega),ct],⟨j+1,by omega,ah (n:=j) (by omega),rfl,?_⟩,?_⟩
   ·show IntKind.i64.wrap (dd.k+1)=_;rw[hd,cJ (by omega) (by omega)];omega
   ·simp only[ah (show j<4000000000 by omega)];omega
  ·right
   obtain rfl:j=10:=by omega
   exact⟨_,rfl,rfl,hd⟩)
 obtain⟨b,hb,h1,h2⟩:=key (n:=bg) (x:=⟨i,0,d⟩) ⟨0,by omega,rfl,rfl,by simp⟩ (bO (by omega));refine⟨b.d,?_,h2⟩;unfold Bf;rw[hb,ob,h1]
def K2 (seed n i:Int):Int:=if Pl n i then xD seed n i else -1
theorem D9 {seed n r i:Int}(h:Pl n i)(_:0≤r)(_:r<10):Bj seed n r i=some (lI seed n r i):=by
 unfold Bj;have hn:=h.1;have hn2:=h.2.1;have hz:decide (IntKind.u64.wrap n≠0)=true:=decide_eq_true (by rw[fK (by omega) (by omega)];omega);have hz2:decide (n≠0)=true:=decide_eq_true (by omega);have hm:IntKind.i64.wrap ((step seed (IntKind.u64.wrap r)).tmod (IntKind.u64.wrap n))=dE seed n r:=rfl;rw[j9,ob,hz,ct,hz2,ct,hm];have hm2:(IntKind.i64.wrap (IntKind.i64.wrap (dE seed n r+n)-i)).tmod n=eg seed n r i:=rfl;rw[hm2]
 have e:(bif decide (eg seed n r i>i)then some (eg seed n r i)else some i)=some (if eg seed n r i>i then eg seed n r i else i):=by
  rw[Iy];split <;>rfl
 rw[e,ob,j9,ob,j9,ob];have hs:=qC (step seed (IntKind.u64.wrap (IntKind.i64.wrap (1000+r)))) (IntKind.u64.wrap (if eg seed n r i>i then eg seed n r i else i));rw[←EX hs.1 hs.2];show(bif r9 seed n r i then some (eg seed n r i)else some i)=some (bif r9 seed n r i then eg seed n r i else i);cases r9 seed n r i <;>rfl
theorem Gv (seed n i:Int):Ii seed n i=some (K2 seed n i):=by
 unfold Ii K2;rw[D8,ob];by_cases h:Pl n i
 ·rw [decide_eq_true h,if_pos h]
  have key:=@bf _ _ (tx seed n) (fun x=>∃j:Nat,j≤10∧x.r=j∧x.i=rt seed n i j) (fun x=>11-x.r.toNat) (fun b=>b.i=xD seed n i) (by
   rintro⟨a,t⟩ ⟨j,hj,rfl,ha⟩;simp only at ha;subst ha;by_cases hlt:j<10
   ·left
    refine⟨_,by
     simp only[tx]
     rw[decide_eq_true (show(j:Int)<10 by omega),ct,D9 (Gc h j) (by omega) (by omega),ob],⟨j+1,by omega,ah (n:=j) (by omega),rfl⟩,?_⟩
    simp only[ah (show j<4000000000 by omega)];omega
   ·right
    obtain rfl:j=10:=by omega
    exact⟨_,rfl,rfl⟩)
  obtain⟨b,hb,h1⟩:=key (n:=bg) (x:=⟨i,0⟩) ⟨0,by omega,rfl,rfl⟩ (bO (by omega));rw[Bool.not_true,cf,hb,ob,h1]
 ·rw[decide_eq_false h,if_neg h];rfl
def i6 (seed n:Int)(k:Nat):List Int:=(List.range k).map fun j:Nat=>xD seed n j
def td (seed n:Int):List Int:=if 1≤n∧n≤1000 then i6 seed n n.toNat else[]
theorem pD (seed n:Int)(k:Nat):(i6 seed n k).length=k:=by simp[i6]
theorem xq (seed n:Int)(k:Nat):i6 seed n (k+1)=i6 seed n k++[xD seed n k]:=by simp[i6,List.range_succ]
theorem AP {seed n:Int}{k j:Nat}(h:j<k):(i6 seed n k)[j]?=some (xD seed n j):=by simp[i6,h]
theorem Fn {A:List Int}{m:Nat}{v z:Int}:(A++List.replicate (m+1) z).set A.length v=(A++[v])++List.replicate m z:=by
 rw[List.set_append_right _ _ (Nat.le_refl _),Nat.sub_self,List.replicate_succ];simp
theorem Gw (seed n:Int):Ij seed n=some (td seed n):=by
 unfold Ij td;rw[xN,ob];by_cases h:1≤n∧n≤1000
 ·obtain⟨h1,h2⟩:=h;have hp:Pl n 0:=⟨h1,h2,by omega,by omega⟩;rw[decide_eq_true hp,if_pos ⟨h1,h2⟩,Bool.not_true,cf,show AH n 8=true from decide_eq_true ⟨by omega,by omega,by omega⟩,ct]
  have key:=@bf _ _ (qR seed n) (fun x=>∃j:Nat,j≤n.toNat∧x.t19=j∧x.d.k=10*(j:Int)∧x.l=i6 seed n j++List.replicate (n.toNat-j) 0) (fun x=>n.toNat+1-x.t19.toNat) (fun b=>b.l=i6 seed n n.toNat∧b.d.k=10*n) (by
   rintro⟨t,d,l⟩ ⟨j,hj,rfl,hd,hl⟩;simp only at hd hl;subst hl;by_cases hlt:j<n.toNat
   ·left;have hpl:Pl n (j:Int):=⟨h1,h2,by omega,by omega⟩;obtain⟨d',e,hk⟩:=D7 (seed:=seed) (d:=d) hpl (by omega) (by omega)
    have hix:ix (i6 seed n j++List.replicate (n.toNat-j) 0) (j:Int)=some 0:=aw (by
     rw[List.getElem?_append_right (by rw[pD];omega),pD,Nat.sub_self,show n.toNat-j=(n.toNat-j-1)+1 by omega,List.replicate_succ];rfl)
    refine⟨_,by
     simp only[qR]
     rw[decide_eq_true (show(j:Int)<((List.replicate n.toNat (0:Int)).length:Int) by rw[List.length_replicate];omega),ct,e,ob,hix,ob],
     ⟨j+1,by omega,ah (n:=j) (by omega),by show d'.k=_;omega,?_⟩,?_⟩
    ·show List.set (i6 seed n j++List.replicate (n.toNat-j) 0) (j:Int).toNat (xD seed n j)=_;rw[show n.toNat-j=(n.toNat-(j+1))+1 by omega,xq];have:=Fn (A:=i6 seed n j) (m:=n.toNat-(j+1)) (v:=xD seed n j) (z:=0);rw[pD]at this;exact this
    ·simp only[ah (show j<4000000000 by omega)];omega
   ·right
    obtain rfl:j=n.toNat:=by omega
    refine⟨_,by
     simp only[qR]
     rw[decide_eq_false (show¬((n.toNat:Nat):Int)<((List.replicate n.toNat (0:Int)).length:Int) by rw[List.length_replicate];omega),cf],?_,?_⟩
    ·simp
    ·simp only;omega)
  obtain⟨b,hb,h3,h4⟩:=key (n:=bg) (x:=⟨0,LU,List.replicate n.toNat 0⟩) ⟨0,by omega,rfl,rfl,by simp[i6]⟩ (bO (by omega));rw[hb,ob,h3,decide_eq_false (show¬b.d.k<n by omega),cf]
 ·rw[decide_eq_false (fun hp:Pl n 0=>h ⟨hp.1,hp.2.1⟩),if_neg h];rfl
theorem Ix {a b:Int}(h:a=b):(a==b)=true:=by simp[h]
theorem DC {seed n:Int}(h1:1≤n)(h2:n≤1000){j:Nat}(hj:(j:Int)<n):ix (td seed n) (j:Int)=some (xD seed n j):=by
 unfold td;rw[if_pos ⟨h1,h2⟩];exact aw<|AP (by omega)
open Go.Proofs
theorem aC {S R:Type}{step:S→Option (S⊕R)}{n:Nat}(g:Nat→S)(r:R)(hs:∀j,j<n→step (g j)=some (.inl (g (j+1))))(he:step (g n)=some (.inr r))(hn:n<4000000000000000000) :
  iter step bg (g 0)=some r:=by
 have key:∀(d k f:Nat),k+d=n→d<f→iter step f (g k)=some r:=by
  intro d
  induction d with
  |zero=>
   intro k f hk hf;obtain⟨f,rfl⟩:∃q,f=q+1:=⟨f-1,by omega⟩
   obtain rfl:k=n:=by omega
   unfold iter;rw[he]
  |succ d ih=>
   intro k f hk hf;obtain⟨f,rfl⟩:∃q,f=q+1:=⟨f-1,by omega⟩;unfold iter;rw[hs k (by omega)];exact ih (k+1) f (by omega) (by omega)
 exact key n 0 bg (by omega)<|bO hn
def pz (x:Int):List Int→Int
 |[]=>x
 |y::r=>pz (if y<x then y else x) r
def py (x:Int):List Int→Int
 |[]=>x
 |y::r=>py (if y>x then y else x) r
theorem Dp (x:Int)(a:List Int)(y:Int):pz x (a++[y])=if y<pz x a then y else pz x a:=by
 induction a generalizing x with
 |nil=>rfl
 |cons z r ih=>exact ih _
theorem Dm (x:Int)(a:List Int)(y:Int):py x (a++[y])=if y>py x a then y else py x a:=by
 induction a generalizing x with
 |nil=>rfl
 |cons z r ih=>exact ih _
theorem Fh {k x:Int}{l:List Int}:pz x l<k↔x<k∨∃y∈l,y<k:=by
 induction l generalizing x with
 |nil=>simp[pz]
 | cons z r ih=>
  simp only[pz,ih,List.mem_cons,exists_eq_or_imp];split
  ·constructor
   ·rintro(h|h)
    ·exact .inr<|.inl h
    ·exact .inr<|.inr h
   ·rintro(h|h|h)
    ·exact .inl (by omega)
    ·exact .inl h
    ·exact .inr h
  ·constructor
   ·rintro(h|h)
    ·exact .inl h
    ·exact .inr<|.inr h
   ·rintro(h|h|h)
    ·exact .inl h
    ·exact .inl (by omega)
    ·exact .inr h
theorem Fg {k x:Int}{l:List Int}:py x l>k↔x>k∨∃y∈l,y>k:=by
 induction l generalizing x with
 |nil=>simp[py]
 | cons z r ih=>
  simp only[py,ih,List.mem_cons,exists_eq_or_imp];split
  ·constructor
   ·rintro(h|h)
    ·exact .inr<|.inl h
    ·exact .inr<|.inr h
   ·rintro(h|h|h)
    ·exact .inl (by omega)
    ·exact .inl h
    ·exact .inr h
  ·constructor
   ·rintro(h|h)
    ·exact .inl h
    ·exact .inr<|.inr h
   ·rintro(h|h|h)
    ·exact .inl h
    ·exact .inl (by omega)
    ·exact .inr h
theorem dV {l:List Int}{j:Nat}{y:Int}(h:l[j]?=some y):l.take (j+1)=l.take j++[y]:=by rw[List.take_add_one,h];rfl
theorem Ea {x:Int}{r:List Int}(h:r.length≤1000):Bp (x::r)=some (pz x r):=by
 unfold Bp;rw[decide_eq_false (show¬(((x::r).length:Nat):Int)<1 by simp;omega),cf,show ix (x::r) 0=some x from rfl,ob]
 have e:=aC (step:=nu (x::r)) (n:=r.length) (fun j=>⟨pz x (r.take j),((j+1:Nat):Int)⟩) ⟨pz x r,((r.length+1:Nat):Int)⟩ (fun j hj=>by
  obtain⟨y,hy,-⟩:=ax hj
  have hy':(x::r)[j+1]?=some y:=by simpa using hy
  simp only[nu]
  rw[decide_eq_true (show((j+1:Nat):Int)<(((x::r).length:Nat):Int) by simp;omega),ct,aw hy',ob,ah (n:=j+1) (by omega),dV hy,Dp]) (by
  simp only[nu]
  rw[decide_eq_false (show¬((r.length+1:Nat):Int)<(((x::r).length:Nat):Int) by simp),cf,List.take_length]) (by omega)
 have e0:(⟨pz x (r.take 0),((0+1:Nat):Int)⟩:iS)=⟨x,1⟩:=rfl;rw[e0]at e;rw[e,ob]
theorem Eb {x:Int}{r:List Int}(h:r.length≤1000):Bq (x::r)=some (py x r):=by
 unfold Bq;rw[decide_eq_false (show¬(((x::r).length:Nat):Int)<1 by simp;omega),cf,show ix (x::r) 0=some x from rfl,ob]
 have e:=aC (step:=nw (x::r)) (n:=r.length) (fun j=>⟨py x (r.take j),((j+1:Nat):Int)⟩) ⟨py x r,((r.length+1:Nat):Int)⟩ (fun j hj=>by
  obtain⟨y,hy,-⟩:=ax hj
  have hy':(x::r)[j+1]?=some y:=by simpa using hy
  simp only[nw]
  rw[decide_eq_true (show((j+1:Nat):Int)<(((x::r).length:Nat):Int) by simp;omega),ct,aw hy',ob,ah (n:=j+1) (by omega),dV hy,Dm]) (by
  simp only[nw]
  rw[decide_eq_false (show¬((r.length+1:Nat):Int)<(((x::r).length:Nat):Int) by simp),cf,List.take_length]) (by omega)
 have e0:(⟨py x (r.take 0),((0+1:Nat):Int)⟩:iT)=⟨x,1⟩:=rfl;rw[e0]at e;rw[e,ob]
def dw (c:Cf):Prop:=1≤c.W.length∧c.W.length≤12∧(∀w∈c.W,0≤w∧w≤1099511627776)∧1≤c.Epoch∧c.Epoch≤8∧0≤c.Num∧c.Num≤c.Den∧1≤c.Den∧c.Den≤1000
instance (c:Cf):Decidable (dw c):=inferInstanceAs (Decidable (_∧_))
def gS (p:Nat→Bool)(W:List Int):Nat→Int
 |0=>0
 |k+1=>gS p W k+(bif p k then(W[k]?).getD 0 else 0)
theorem qE {p:Nat→Bool}{W:List Int}(h:∀w∈W,0≤w∧w≤1099511627776):∀k,0≤gS p W k∧gS p W k≤1099511627776*k
 |0=>by simp[gS]
 | k+1=>by
  have ih:=qE (p:=p) h k;unfold gS
  cases p k with
  |false=>simp only[cond_false];omega
  | true=>
   simp only[cond_true]
   cases hk:W[k]? with
   |none=>simp only[Option.getD_none];omega
   |some w=>
    have:=h w (List.mem_of_getElem? hk);simp only[Option.getD_some];omega
theorem DY {p:Nat→Bool}{W:List Int}{k:Nat}{w:Int}(hp:p k=true)(hw:W[k]?=some w):gS p W (k+1)=gS p W k+w:=by
 rw[gS,hp,hw];rfl
theorem xJ {p:Nat→Bool}{W:List Int}{k:Nat}(hp:p k=false):gS p W (k+1)=gS p W k:=by
 rw[gS,hp];simp
theorem vV (c:Cf):(bif decide (c.Epoch>0)then bif decide (c.Epoch≤8)then bif decide (c.Num≥0)then bif decide (c.Num≤c.Den)then bif decide (c.Den>0)then some (decide (c.Den≤1000))else some false else some false else some false else some false else some false) =
  some (decide (1≤c.Epoch∧c.Epoch≤8∧0≤c.Num∧c.Num≤c.Den∧1≤c.Den∧c.Den≤1000)):=by
 by_cases h1:c.Epoch>0
 ·rw [decide_eq_true h1,ct];by_cases h2:c.Epoch≤8
  ·rw[decide_eq_true h2,ct];by_cases h3:c.Num≥0
   ·rw[decide_eq_true h3,ct];by_cases h4:c.Num≤c.Den
    ·rw[decide_eq_true h4,ct];by_cases h5:c.Den>0
     ·rw[decide_eq_true h5,ct];congr 1;exact decide_eq_decide.2 ⟨fun h=>⟨h1,h2,h3,h4,h5,h⟩,fun h=>h.2.2.2.2.2⟩
     ·rw[decide_eq_false h5,cf,decide_eq_false (fun h=>h5 h.2.2.2.2.1)]
    ·rw[decide_eq_false h4,cf,decide_eq_false (fun h=>h4 h.2.2.2.1)]
   ·rw[decide_eq_false h3,cf,decide_eq_false (fun h=>h3 h.2.2.1)]
  ·rw[decide_eq_false h2,cf,decide_eq_false (fun h=>h2 h.2.1)]
 ·rw[decide_eq_false h1,cf,decide_eq_false (fun h=>h1 h.1)]
theorem qS (c:Cf):EG c=some (decide (dw c)):=by
 unfold EG;have hno:∀h:¬dw c,decide (dw c)=false:=fun h=>decide_eq_false h;by_cases h0:c.W.length=0
 ·rw[show((c.W.length:Int)==0)=true by simp[h0],ct,ob,ct,decide_eq_false (fun h:dw c=>by have:=h.1;omega)]
 ·rw [show((c.W.length:Int)==0)=false by simpa using h0,cf];by_cases h12:c.W.length>12
  ·rw[decide_eq_true (show(c.W.length:Int)>12 by omega),ct,ob,ct,decide_eq_false (fun h:dw c=>by have:=h.2.1;omega)]
  ·rw [decide_eq_false (show¬(c.W.length:Int)>12 by omega),cf]
   obtain⟨x,r,hW⟩:∃x r,c.W=x::r:=by
    cases hc:c.W with
    |nil=>rw[hc]at h0;simp at h0
    |cons x r=>exact⟨x,r,rfl⟩
   have hr:r.length≤1000:=by rw[hW]at h12;simp at h12;omega
   have hall:(∀w∈c.W,0≤w∧w≤1099511627776)↔¬pz x r<0∧¬py x r>1099511627776:=by
    rw[Fh,Fg,hW];constructor
    ·intro h;refine⟨?_,?_⟩
     ·rintro(h1|⟨y,hy,h1⟩)
      ·have:=(h x (.head _)).1;omega
      ·have:=(h y (.tail _ hy)).1;omega
     ·rintro(h1|⟨y,hy,h1⟩)
      ·have:=(h x (.head _)).2;omega
      ·have:=(h y (.tail _ hy)).2;omega
    ·rintro⟨h1,h2⟩ w hw;refine⟨?_,?_⟩
     ·refine Classical.byContradiction fun hc=>h1 ?_
      cases hw with
      |head=>exact .inl (by omega)
      |tail _ hw=>exact .inr ⟨w,hw,by omega⟩
     ·refine Classical.byContradiction fun hc=>h2 ?_
      cases hw with
      |head=>exact .inl (by omega)
      |tail _ hw=>exact .inr ⟨w,hw,by omega⟩
   have hlen:1≤c.W.length∧c.W.length≤12:=⟨by omega,by omega⟩;have e9:=Ea (x:=x) hr;have e10:=Eb (x:=x) hr;rw[←hW]at e9 e10;rw[e9,ob];by_cases hm:pz x r<0
   ·rw[decide_eq_true hm,ct,ob,ct,decide_eq_false (fun h:dw c=>(hall.1 h.2.2.1).1 hm)]
   ·rw[decide_eq_false hm,cf,e10,ob,ob];by_cases hx:py x r>1099511627776
    ·rw[decide_eq_true hx,ct,decide_eq_false (fun h:dw c=>(hall.1 h.2.2.1).2 hx)]
    ·rw[decide_eq_false hx,cf,vV];congr 1;exact decide_eq_decide.2 ⟨fun h=>⟨hlen.1,hlen.2,hall.2 ⟨hm,hx⟩,h⟩,fun h=>h.2.2.2⟩
theorem qT {c:Cf}(hl:c.W.length≤1000):EH c=some (decide (dw c)):=by
 unfold EH
 have key:=@bf _ _ (mK c) (fun x=>∃j:Nat,j≤c.W.length∧x.i=j∧∀w∈c.W.take j,0≤w∧w≤1099511627776) (fun x=>c.W.length+1-x.i.toNat)
  (fun b=>(b=.inr false∧¬dw c)∨∃x,b=.inl x∧∀w∈c.W,0≤w∧w≤1099511627776) (by
   rintro⟨t⟩ ⟨j,hj,rfl,hw⟩;by_cases hlt:j<c.W.length
   ·obtain⟨y,hy,hm⟩:=ax hlt;by_cases h1:y<0
    ·right
     refine⟨.inr false,by
      simp only[mK]
      rw[decide_eq_true (show(j:Int)<(c.W.length:Int) by omega),ct,aw hy,ob,decide_eq_true h1,ct],.inl ⟨rfl,fun h=>by have:=(h.2.2.1 y hm).1;omega⟩⟩
    ·by_cases h2:y>1099511627776
     ·right
      refine⟨.inr false,by
       simp only[mK]
       rw[decide_eq_true (show(j:Int)<(c.W.length:Int) by omega),ct,aw hy,ob,decide_eq_false h1,cf,ob,decide_eq_true h2,ct],.inl ⟨rfl,fun h=>by have:=(h.2.2.1 y hm).2;omega⟩⟩
     ·left
      refine⟨⟨IntKind.i64.wrap ((j:Int)+1)⟩,by
       simp only[mK]
       rw[decide_eq_true (show(j:Int)<(c.W.length:Int) by omega),ct,aw hy,ob,decide_eq_false h1,cf,ob,decide_eq_false h2,cf],⟨j+1,by omega,ah (n:=j) (by omega),?_⟩,?_⟩
      ·intro w hw';rw[dV hy]at hw';rcases List.mem_append.1 hw' with hw'|hw'
       ·exact hw w hw'
       ·obtain rfl:w=y:=by simpa using hw'
        exact⟨by omega,by omega⟩
      ·simp only[ah (show j<4000000000 by omega)];omega
   ·right
    obtain rfl:j=c.W.length:=by omega
    refine⟨.inl ⟨((c.W.length:Nat):Int)⟩,by
     simp only[mK]
     rw[decide_eq_false (show¬((c.W.length:Nat):Int)<(c.W.length:Int) by omega),cf],.inr ⟨_,rfl,?_⟩⟩
    rw[List.take_length]at hw
    exact hw)
 obtain⟨b,hb,⟨rfl,hno⟩|⟨x,rfl,hall⟩⟩:=key (n:=bg) (x:=⟨0⟩) ⟨0,by omega,rfl,by simp⟩ (bO (by show c.W.length+1-0<_;omega))
 ·rw[hb,ob,sr,decide_eq_false hno]
 ·rw[hb,ob,sl];by_cases h1:1≤c.W.length
  ·rw[decide_eq_true (show(c.W.length:Int)≥1 by omega),ct];by_cases h2:c.W.length≤12
   ·rw[decide_eq_true (show(c.W.length:Int)≤12 by omega),ct];rw[show decide (c.Epoch≥1)=decide (c.Epoch>0)from decide_eq_decide.2 ⟨fun h=>by omega,fun h=>by omega⟩,show decide (c.Den≥1)=decide (c.Den>0)from decide_eq_decide.2 ⟨fun h=>by omega,fun h=>by omega⟩,vV];congr 1;exact decide_eq_decide.2 ⟨fun h=>⟨h1,h2,hall,h⟩,fun h=>h.2.2.2⟩
   ·rw[decide_eq_false (show¬(c.W.length:Int)≤12 by omega),cf,decide_eq_false (fun h:dw c=>h2 h.2.1)]
  ·rw[decide_eq_false (show¬(c.W.length:Int)≥1 by omega),cf,decide_eq_false (fun h:dw c=>h1 h.1)]
def okW (c:Cf):Prop:=c.W.length≤12∧∀w∈c.W,0≤w∧w≤1099511627776
theorem dw.okW {c:Cf}(h:dw c):okW c:=⟨h.2.1,h.2.2.1⟩
theorem ww {p:Nat→Bool}{W:List Int}(h:∀w∈W,0≤w∧w≤1099511627776){k:Nat}(hk:k≤12):IntKind.i64.wrap (gS p W k)=gS p W k:=by
 have:=qE (p:=p) h k;exact cJ (by omega) (by omega)
theorem BI {c:Cf}{m:List (Int×Bool)}(h:okW c):uw c m 0=some (gS (fun j=>(ak m (j:Int)).getD false) c.W c.W.length):=by
 unfold uw
 have e:=aC (step:=kZ c m) (n:=c.W.length) (fun j=>⟨(j:Int),gS (fun j=>(ak m (j:Int)).getD false) c.W j⟩) ⟨(c.W.length:Int),gS (fun j=>(ak m (j:Int)).getD false) c.W c.W.length⟩ (fun j hj=>by
  obtain⟨y,hy,hm⟩:=ax hj;have h12:=h.1;simp only[kZ,Ed];rw[decide_eq_true (show(j:Int)<(c.W.length:Int) by omega),ct,ob]
  cases hb:(ak m (j:Int)).getD false with
  |true=>rw[ct,aw hy,ob,ah (n:=j) (by omega),←DY (p:=fun j=>(ak m (j:Int)).getD false) hb hy,ww h.2 (by omega)]
  |false=>rw[cf,ah (n:=j) (by omega),xJ (p:=fun j=>(ak m (j:Int)).getD false) hb]) (by
  simp only[kZ]
  rw[decide_eq_false (show¬(c.W.length:Int)<(c.W.length:Int) by omega),cf]) (by have:=h.1;omega)
 exact(congrArg (fun z=>Option.bind z fun v1=>some v1.o4_0) e).trans ob
def uh (c:Cf)(l:List Int):Int:=if dw c then gS (fun j=>decide ((j:Int)∈l)) c.W c.W.length else 0
theorem sj {p q:Nat→Bool}{W:List Int}(h:∀j,p j=q j):∀k,gS p W k=gS q W k
 |0=>rfl
 |k+1=>by rw[gS,gS,sj h k,h k]
theorem xa {m:List (Int×Bool)}{k q:Int}{v:Bool}:ak (bz m k v) q=if k=q then some v else ak m q:=by
 induction m with
 |nil=>simp[bz,ak]
 | cons p r ih=>
  obtain⟨a,b⟩:=p;unfold bz;by_cases h:a=k
  ·rw[if_pos h];subst h;by_cases h2:a=q
   ·simp[ak,h2]
   ·simp[ak,h2]
  ·rw[if_neg h];simp only[ak];rw[ih];by_cases h2:a=q
   ·rw[if_pos h2,if_pos h2,if_neg (fun e=>h (by rw[h2,e]))]
   ·rw[if_neg h2,if_neg h2]
def lu :List Int→List (Int×Bool)→List (Int×Bool)
 |[],m=>m
 |x::r,m=>lu r (bz m x true)
theorem Az (a:List Int)(x:Int):∀m,lu (a++[x]) m=bz (lu a m) x true:=by
 induction a with
 |nil=>intro m;rfl
 |cons y r ih=>intro m;exact ih _
theorem rJ (q:Int):∀(l:List Int) (m:List (Int×Bool)),ak (lu l m) q=if q∈l then some true else ak m q
 |[],m=>by simp[lu]
 | x::r,m=>by
  unfold lu;rw[rJ q r,xa];by_cases h:q∈r
  ·simp[h]
  ·by_cases h2:x=q
   ·simp[h2]
   ·simp[h,h2,Ne.symm h2]
theorem Cq {c:Cf}{l:List Int}(hl:l.length≤100000):HP c l=some (uh c l):=by
 unfold HP
 have e:=aC (step:=oW l) (n:=l.length) (fun j=>fS.mk (j:Int) (lu (l.take j) [])) (fS.mk (l.length:Int) (lu l [])) (fun j hj=>by
  obtain⟨y,hy,hm⟩:=ax hj
  have e1:oW l (fS.mk (j:Int) (lu (l.take j) []))=some (.inl (fS.mk (IntKind.i64.wrap ((j:Int)+1)) (bz (lu (l.take j) []) y true))):=by
   unfold oW;rw[decide_eq_true (show(j:Int)<(l.length:Int) by omega),ct,aw hy,ob]
  rw[e1,ah (n:=j) (by omega),dV hy,Az]) (by
  unfold oW
  rw[decide_eq_false (show¬(l.length:Int)<(l.length:Int) by omega),cf,List.take_length]) (by omega)
 have e0:fS.mk (((0:Nat):Int)) (lu (l.take 0) [])=fS.mk 0 []:=rfl;rw[e0]at e;rw[e,ob];unfold xS uh;rw[qS,ob];by_cases h:dw c
 ·rw[decide_eq_true h,if_pos h,Bool.not_true,cf,BI h.okW,ob,ob];congr 1;refine sj (fun j=>?_) _;rw[rJ];by_cases hj:(j:Int)∈l <;>simp[hj,ak]
 ·rw[decide_eq_false h,if_neg h];rfl
theorem wM {l:List Int}{n:Int}(hl:l.length≤100000):Gz l n=some (decide (n∈l)):=by
 unfold Gz
 have key:=@bf _ _ (oX l n) (fun x=>∃j:Nat,j≤l.length∧x.i=j∧n∉l.take j) (fun x=>l.length+1-x.i.toNat)
  (fun b=>(b=.inr true∧n∈l)∨∃x,b=.inl x∧n∉l) (by
   rintro⟨t⟩ ⟨j,hj,rfl,hw⟩;by_cases hlt:j<l.length
   ·obtain⟨y,hy,hm⟩:=ax hlt;by_cases h1:y=n
    ·right
     refine⟨.inr true,by
      simp only[oX]
      rw[decide_eq_true (show(j:Int)<(l.length:Int) by omega),ct,aw hy,ob,Ix h1,ct],.inl ⟨rfl,h1▸hm⟩⟩
    ·left
     refine⟨⟨IntKind.i64.wrap ((j:Int)+1)⟩,by
      simp only[oX]
      rw[decide_eq_true (show(j:Int)<(l.length:Int) by omega),ct,aw hy,ob,show(y==n)=false by simpa using h1,cf],⟨j+1,by omega,ah (n:=j) (by omega),?_⟩,?_⟩
     ·rw[dV hy];intro h;rcases List.mem_append.1 h with h|h
      ·exact hw h
      ·exact h1 (List.mem_singleton.1 h).symm
     ·simp only[ah (show j<4000000000 by omega)];omega
   ·right
    obtain rfl:j=l.length:=by omega
    refine⟨.inl ⟨((l.length:Nat):Int)⟩,by
     simp only[oX]
     rw[decide_eq_false (show¬((l.length:Nat):Int)<(l.length:Int) by omega),cf],.inr ⟨_,rfl,?_⟩⟩
    rw[List.take_length]at hw
    exact hw)
 obtain⟨b,hb,⟨rfl,h⟩|⟨x,rfl,h⟩⟩:=key (n:=bg) (x:=⟨0⟩) ⟨0,by omega,rfl,by simp⟩ (bO (by show l.length+1-0<_;omega))
 ·rw[hb,ob,sr,decide_eq_true h]
 ·rw[hb,ob,sl,decide_eq_false h]
theorem Ee {l:List Int}{n:Int}(hl:l.length≤100000):Bs l n=some (decide (n∈l)):=by
 unfold Bs Et
 have key:=@bf _ _ (lZ l n) (fun x=>∃j:Nat,j≤l.length∧x.t8=j∧n∉l.take j) (fun x=>l.length+1-x.t8.toNat)
  (fun b=>(∃i:Nat,b=.inr (i:Int)∧n∈l)∨∃x,b=.inl x∧n∉l) (by
   rintro⟨t⟩ ⟨j,hj,rfl,hw⟩;by_cases hlt:j<l.length
   ·obtain⟨y,hy,hm⟩:=ax hlt;by_cases h1:n=y
    ·right
     refine⟨.inr (j:Int),by
      simp only[lZ]
      rw[decide_eq_true (show(j:Int)<(l.length:Int) by omega),ct,aw hy,ob,Ix h1,ct],.inl ⟨j,rfl,h1▸hm⟩⟩
    ·left
     refine⟨⟨IntKind.i64.wrap ((j:Int)+1)⟩,by
      simp only[lZ]
      rw[decide_eq_true (show(j:Int)<(l.length:Int) by omega),ct,aw hy,ob,show(n==y)=false by simpa using h1,cf],⟨j+1,by omega,ah (n:=j) (by omega),?_⟩,?_⟩
     ·rw[dV hy];intro h;rcases List.mem_append.1 h with h|h
      ·exact hw h
      ·exact h1<|List.mem_singleton.1 h
     ·simp only[ah (show j<4000000000 by omega)];omega
   ·right
    obtain rfl:j=l.length:=by omega
    refine⟨.inl ⟨((l.length:Nat):Int)⟩,by
     simp only[lZ]
     rw[decide_eq_false (show¬((l.length:Nat):Int)<(l.length:Int) by omega),cf],.inr ⟨_,rfl,?_⟩⟩
    rw[List.take_length]at hw
    exact hw)
 obtain⟨b,hb,⟨i,rfl,h⟩|⟨x,rfl,h⟩⟩:=key (n:=bg) (x:=⟨0⟩) ⟨0,by omega,rfl,by simp⟩ (bO (by show l.length+1-0<_;omega))
 ·rw[hb,ob,sr,ob,decide_eq_true h,decide_eq_true (show(i:Int)≥0 by omega)]
 ·rw[hb,ob,sl,ob,decide_eq_false h];rfl
theorem Cr {c:Cf}{l:List Int}(hW:c.W.length≤1000)(hl:l.length≤100000):HQ c l=some (uh c l):=by
 unfold HQ uh;rw[qT hW,ob];by_cases h:dw c
 ·rw[decide_eq_true h,if_pos h]
  have e:=aC (step:=mL c l true) (n:=c.W.length) (fun j=>⟨gS (fun j=>decide ((j:Int)∈l)) c.W j,(j:Int)⟩) ⟨gS (fun j=>decide ((j:Int)∈l)) c.W c.W.length,(c.W.length:Int)⟩ (fun j hj=>by
   obtain⟨y,hy,hm⟩:=ax hj;have h12:=h.2.1;simp only[mL];rw[decide_eq_true (show(j:Int)<(c.W.length:Int) by omega),ct,ob,ct,wM hl,ob];by_cases hb:(j:Int)∈l
   ·rw[decide_eq_true hb,ct,aw hy,ob,ah (n:=j) (by omega),←DY (p:=fun j=>decide ((j:Int)∈l)) (decide_eq_true hb) hy,ww h.okW.2 (by omega)]
   ·rw[decide_eq_false hb,cf,ah (n:=j) (by omega),xJ (p:=fun j=>decide ((j:Int)∈l)) (decide_eq_false hb)]) (by
   simp only[mL]
   rw[decide_eq_false (show¬(c.W.length:Int)<(c.W.length:Int) by omega),cf,ob,cf]) (by omega)
  exact(congrArg (fun z=>Option.bind z fun v2=>some v2.n) e).trans ob
 ·rw[decide_eq_false h,if_neg h]
  have e:=aC (step:=mL c l false) (n:=0) (fun _=>⟨0,0⟩) ⟨0,0⟩ (fun j hj=>by omega) (by
   simp only[mL]
   rw[show(bif decide ((0:Int)<(c.W.length:Int))then some false else some false)=some false by cases decide ((0:Int)<(c.W.length:Int)) <;>rfl,ob,cf]) (by omega)
  rw[e,ob]
def gx (p:Nat→Bool):Nat→List Int
 |0=>[]
 |k+1=>bif p k then gx p k++[(k:Int)]else gx p k
theorem mp (p:Nat→Bool):∀k,(gx p k).length≤k
 |0=>by simp[gx]
 |k+1=>by
  have:=mp p k;unfold gx;cases p k <;>simp <;>omega
def D3 (c:Cf)(slot:Int):Prop:=dw c∧0<slot∧slot≤1048576
instance (c:Cf) (slot:Int):Decidable (D3 c slot):=inferInstanceAs (Decidable (_∧_))
theorem xP (c:Cf)(slot:Int):zE c slot=some (decide (D3 c slot)):=by
 unfold zE;rw[qS,ob];by_cases h:dw c
 ·rw[decide_eq_true h,ct];by_cases h1:slot>0
  ·rw[decide_eq_true h1,ct];congr 1;exact decide_eq_decide.2 ⟨fun h2=>⟨h,h1,h2⟩,fun h2=>h2.2.2⟩
  ·rw[decide_eq_false h1,cf,decide_eq_false (fun h2:D3 c slot=>h1 h2.2.1)]
 ·rw[decide_eq_false h,cf,decide_eq_false (fun h2:D3 c slot=>h h2.1)]
theorem xR (slot:Int):zF slot=some (decide (0<slot∧slot≤1048576)):=by
 unfold zF;by_cases h1:slot≥1
 ·rw[decide_eq_true h1,ct];congr 1;exact decide_eq_decide.2 ⟨fun h2=>⟨by omega,h2⟩,fun h2=>h2.2⟩
 ·rw[decide_eq_false h1,cf,decide_eq_false (fun h2=>h1 (by omega))]
def jn (c:Cf)(slot:Int):Int:=step c.Seed (IntKind.u64.wrap (IntKind.i64.wrap (slot.tdiv c.Epoch)))
def Ax (c:Cf)(slot:Int)(j:Nat):Bool:=(xD (jn c slot) (c.W.length:Int) (j:Int)).tmod c.Epoch==slot.tmod c.Epoch
def nq (c:Cf)(slot:Int):List Int:=if D3 c slot then gx (Ax c slot) c.W.length else[]
theorem pj (c:Cf)(slot:Int):(nq c slot).length≤12:=by
 unfold nq;split
 ·next h=>have:=mp (Ax c slot) c.W.length;have:=h.1.2.1;omega
 ·simp
theorem n4 {c:Cf}(h:dw c):decide (c.Epoch≠0)=true:=decide_eq_true (by have:=h.2.2.2.1;omega)
theorem Br {c:Cf}{slot:Int}(h:dw c):ut c slot (td (jn c slot) (c.W.length:Int))=some (gx (Ax c slot) c.W.length):=by
 have h1:=h.1;have h2:=h.2.1
 have e:=aC (step:=kY c slot (td (jn c slot) (c.W.length:Int))) (n:=c.W.length) (fun j=>dH.mk (j:Int) (gx (Ax c slot) j)) (dH.mk (c.W.length:Int) (gx (Ax c slot) c.W.length)) (fun j hj=>by
  have hl:=mp (Ax c slot) j;unfold kY Ec;simp only;rw[decide_eq_true (show(j:Int)<(c.W.length:Int) by omega),ct,DC (by omega) (by omega) (by omega),ob,n4 h,ct,ct,ob]
  cases hb:Ax c slot j with
  |true=>
   rw[show((xD (jn c slot) (c.W.length:Int) (j:Int)).tmod c.Epoch==slot.tmod c.Epoch)=true from hb,ct,aM (by simp only[List.length_singleton];omega) (by omega),ct,ah (n:=j) (by omega),gx,hb,ct]
  |false=>
   rw[show((xD (jn c slot) (c.W.length:Int) (j:Int)).tmod c.Epoch==slot.tmod c.Epoch)=false from hb,cf,ah (n:=j) (by omega),gx,hb,cf]) (by
  unfold kY
  rw[decide_eq_false (show¬(c.W.length:Int)<(c.W.length:Int) by omega),cf]) (by omega)
 have e0:dH.mk (((0:Nat):Int)) (gx (Ax c slot) 0)=dH.mk 0 []:=rfl;rw[e0]at e;unfold ut xY xZ;rw[e,ob,ob,ob]
theorem wJ (c:Cf)(slot:Int):Gx c slot=some (nq c slot):=by
 unfold Gx nq;rw[xP,ob];by_cases h:D3 c slot
 ·rw[decide_eq_true h,if_pos h,Bool.not_true,cf,n4 h.1,ct,Gw,ob];have:=Br (slot:=slot) h.1;unfold jn at this;rw[this,ob]
 ·rw[decide_eq_false h,if_neg h];rfl
theorem wK {c:Cf}{slot:Int}(hW:c.W.length≤1000):Gy c slot=some (nq c slot):=by
 unfold Gy nq;rw[qT hW,ob,xR,ob];by_cases h:D3 c slot
 ·have h1:=h.1.1;have h2:=h.1.2.1;rw[decide_eq_true h.1,decide_eq_true (show 0<slot∧slot≤1048576 from h.2),Bool.not_true,cf,ob,cf,if_pos h,n4 h.1,ct,j9,ob]
  have e:=aC (step:=qU c slot (jn c slot)) (n:=c.W.length) (fun j=>gB.mk (j:Int) (gx (Ax c slot) j)) (gB.mk (c.W.length:Int) (gx (Ax c slot) c.W.length)) (fun j hj=>by
   have hl:=mp (Ax c slot) j;unfold qU;simp only;rw[decide_eq_true (show(j:Int)<(c.W.length:Int) by omega),ct,Gv,ob,n4 h.1,ct,ct,K2,if_pos (show Pl (c.W.length:Int) (j:Int)from⟨by omega,by omega,by omega,by omega⟩)]
   cases hb:Ax c slot j with
   |true=>
    rw[show((xD (jn c slot) (c.W.length:Int) (j:Int)).tmod c.Epoch==slot.tmod c.Epoch)=true from hb,ct,aM (by simp only[List.length_singleton];omega) (by omega),ct,ah (n:=j) (by omega),gx,hb,ct]
   |false=>
    rw[show((xD (jn c slot) (c.W.length:Int) (j:Int)).tmod c.Epoch==slot.tmod c.Epoch)=false from hb,cf,ah (n:=j) (by omega),gx,hb,cf]) (by
   unfold qU
   rw[decide_eq_false (show¬(c.W.length:Int)<(c.W.length:Int) by omega),cf]) (by omega)
  have e0:gB.mk (((0:Nat):Int)) (gx (Ax c slot) 0)=gB.mk 0 []:=rfl;rw[e0]at e;unfold jn at e;rw[e,ob]
 ·rw[if_neg h]
  have e:(bif !decide (dw c)then some true else some (!decide (0<slot∧slot≤1048576)))=some true:=by
   by_cases h1:dw c
   ·rw[decide_eq_true h1,decide_eq_false (fun h2=>h ⟨h1,h2⟩)];rfl
   ·rw[decide_eq_false h1];rfl
  rw[e,ob,ct]
theorem Ct (c:Cf)(slot who:Int):HR c slot who=some (decide (who∈nq c slot)):=by
 have:=pj c slot;unfold HR;rw[wJ,ob,Ee (by omega),ob]
theorem Cp {c:Cf}{slot who:Int}(hW:c.W.length≤1000):HO c slot who=some (decide (who∈nq c slot)):=by
 have:=pj c slot;unfold HO;rw[wK hW,ob,wM (by omega),ob]
def pE (c:Cf)(slot:Int):Int:=if D3 c slot then IntKind.i64.wrap ((step (step c.Seed 4294967296) (IntKind.u64.wrap slot)).tmod (IntKind.u64.wrap (c.W.length:Int)))else -1
theorem Dl {c:Cf}(h:dw c):decide (IntKind.u64.wrap (c.W.length:Int)≠0)=true:=decide_eq_true (by have:=h.1;have:=h.2.1;rw[fK (by omega) (by omega)];omega)
theorem wI (c:Cf)(slot:Int):Fz c slot=some (pE c slot):=by
 unfold Fz pE;rw[xP,ob];by_cases h:D3 c slot
 ·rw[decide_eq_true h,if_pos h,Bool.not_true,cf,Dl h.1,ct]
 ·rw[decide_eq_false h,if_neg h];rfl
theorem wL {c:Cf}{slot:Int}(hW:c.W.length≤1000):FA c slot=some (pE c slot):=by
 unfold FA pE;rw[qT hW,ob,xR,ob];by_cases h:D3 c slot
 ·rw[decide_eq_true h.1,decide_eq_true (show 0<slot∧slot≤1048576 from h.2),Bool.not_true,cf,ob,cf,if_pos h,j9,ob,j9,ob,Dl h.1,ct]
 ·rw[if_neg h]
  have e:(bif !decide (dw c)then some true else some (!decide (0<slot∧slot≤1048576)))=some true:=by
   by_cases h1:dw c
   ·rw[decide_eq_true h1,decide_eq_false (fun h2=>h ⟨h1,h2⟩)];rfl
   ·rw[decide_eq_false h1];rfl
  rw[e,ob,ct]
def c0 :Cf:=⟨[5],0,1,0,4⟩
open Go.Proofs
theorem tr {p:Nat→Bool}{W:List Int}:∀{k:Nat},(∀j,j<k→p j=false)→gS p W k=0
 |0,_=>rfl
 |k+1,h=>by rw[xJ (h k (by omega)),tr fun j hj=>h j (by omega)]
theorem zj (c:Cf)(l:List Int):0≤uh c l∧uh c l≤13194139533312:=by
 unfold uh;split
 ·next h=>
  have:=qE (p:=fun j=>decide ((j:Int)∈l)) h.okW.2 c.W.length;have:=h.2.1;omega
 ·omega
open Go.Proofs
theorem HJ (c:Cf):uh c []=0:=by
 unfold uh;split
 ·exact tr fun j _=>by simp
 ·rfl
open Go.Proofs
structure dO where
 t14:Int
 o1:List (Du×ID)
 o2:List (Du×Bool)
def jD (l:List Vt)(x1:dO):Option (dO⊕dO):=bif decide (x1.t14<(l.length:Int))then (ix l x1.t14).bind fun y1=>bif (ak x1.o1 (Du.mk y1.From y1.Slot)).isSome then bif !(((((ak x1.o1 (Du.mk y1.From y1.Slot)).getD (0,0)).1)==y1.Head.1)&&(((((ak x1.o1 (Du.mk y1.From y1.Slot)).getD (0,0)).2)==y1.Head.2)&&true))then some (.inl (dO.mk (IntKind.i64.wrap (x1.t14+1)) (bz x1.o1 (Du.mk y1.From y1.Slot) y1.Head) (bz x1.o2 (Du.mk y1.From y1.Slot) true)))else some (.inl (dO.mk (IntKind.i64.wrap (x1.t14+1)) (bz x1.o1 (Du.mk y1.From y1.Slot) y1.Head) x1.o2))else some (.inl (dO.mk (IntKind.i64.wrap (x1.t14+1)) (bz x1.o1 (Du.mk y1.From y1.Slot) y1.Head) x1.o2))else some (.inr (dO.mk x1.t14 x1.o1 x1.o2))
def ve (l:List Vt):Option (List (Du×ID)×List (Du×Bool)):=(iter (jD l) bg (dO.mk 0 ([]:List (Du×ID)) ([]:List (Du×Bool)))).bind fun v1=>some (v1.o1,v1.o2)
theorem Hg {l:List Vt}{r_:List (Du×ID)×List (Du×Bool)}(hr:ve l=some r_):LC Tryz.prog 180 [(kV l)] [] (Is (.agg [.map 1,.map 2]) [.box [.map 1,.map 2],.map (ao sv (fun v=>.p (aR v)) r_.1),.map (ao sv (fun v=>(bQ v)) r_.2),.box [.map 1,.map 2]]):=by
 refine fy Tryz.func180 Z Z Z ?_;unfold ve at hr;refine zQ<|zR<|yS Z (ze Z xL Z Z)<|zN<|zT<|zQ<|zR<|yS Z (aa.makeMap Z Z Z)<|yS Z (aa.makeMap Z Z Z)<|yS Z (aa.build Z GQ Z Z Z)<|yS Z (ze Z xL Z Z)<|yS Z (zs Z Z Z Z ue Z Z Z Z)<|zN<|zT<|zQ<|zQ<|zR<|zM Z<|yS Z (cD Z Z (by kernel_rfl))<|zM Z<|zN<|zT ?_;obtain⟨v1,hb_v1,ho_v1⟩:=zB hr;clear hr;refine LW.tail (E:=[(2,.ptr 0 0),(3,.ptr 3 0)]) (O:=[.box [.nilmap,.nilmap],.map (ao sv (fun v=>.p (aR v)) v1.o1),.map (ao sv (fun v=>(bQ v)) v1.o2),.box [.map 1,.map 2]]) ?_<|fun env_v1 H_v1 hw_v1=>?_
 ·refine LW.block ?_;refine LW.iterB (E:=fun x1:dO=>[(2,.ptr 0 0),(3,.ptr 3 0),(12,(kV l)),(13,.p (.int .i64 (l.length:Int))),(14,(iQ x1.t14))]) (O:=fun x1=>[.box [.nilmap,.nilmap],.map (ao sv (fun v=>.p (aR v)) x1.o1),.map (ao sv (fun v=>(bQ v)) x1.o2),.box [.map 1,.map 2]]) hb_v1 (zW 4 ⟨rfl,rfl,rfl,rfl,rfl,trivial⟩ Z Z Z (zL Z (zL (ae (fun _=>rfl) _) (zL (ae (fun _=>rfl) _) (zL Z Z)))))<|fun x1 z_x1 hr hb_x1=>?_;unfold jD at hr;refine zQ<|zR<|yS Z (ap Z Z Z Z)<|zN<|zT<|zQ ?_;refine zX Z (fun g1=>?_)<|fun g1=>?_
  ·refine zi g1 hr fun hr=>zk<|zT<|zQ<|zl<|zQ<|zR<|zb hr fun y1 h_y1 hr=>yS Z (zx Z Z Z bD h_y1 Z)<|yS Z (ci Z Z Z cp Z Z)<|yS Z (ze Z sz Z Z)<|yS Z (zs Z Z Z Z cp Z Z Z Z)<|zN<|zT<|zQ<|zR<|yS Z (zA Z Z iq)<|yS Z (zD Z Z Z aW Z Z)<|yS Z (zA Z Z gG)<|yS Z (zD Z Z Z aW Z Z)<|yS Z (aa.build Z CR Z Z Z)<|yS Z (ze Z D1 Z Z)<|yS Z (zs Z Z Z Z nk Z Z Z Z)<|zN ?_;refine zT<|zQ<|zR<|yS Z (zA Z Z rD)<|yS Z (zD Z Z Z xF Z Z)<|yS Z (zD Z Z Z nk Z Z) ?_;refine yS Z (aa.getX (f:=sv) (g:=(fun v=>.p (aR v))) (Du.mk y1.From y1.Slot) (0,0) yl Z Z Z Z Ds L5 Z Z) ?_;refine zM Z<|yS Z (dW Z Z Z)<|yS Z (dW Z Z Z)<|yS Z (ze Z fm Z Z)<|yS Z (zs Z Z Z Z ay Z Z Z Z)<|zM Z<|zN<|zT<|zQ<|zR<|yS Z (zA Z Z rD)<|yS Z (zD Z Z Z xF Z Z)<|yS Z (zD Z Z Z nk Z Z)<|yS Z (zA Z Z gH)<|yS Z (zD Z Z Z ay Z Z) ?_;refine yS Z (aa.setX (f:=sv) (g:=(fun v=>.p (aR v))) (Du.mk y1.From y1.Slot) y1.Head yl (.inl Z) Z Z Z Z Z Ds Z) ?_;refine zN<|zT<|zQ<|zR<|zM Z<|zM Z ?_;refine zc 36 Z (fun g2=>?_)<|fun g2=>?_
   ·refine zi g2 hr fun hr=>yV Z (gd g2 Z) (zD Z Z Z ay Z Z)<|yV Z (gd g2 Z) (zA Z Z gH)<|yV Z (gd g2 Z) (zD Z Z Z ay Z Z)<|yV Z (gd g2 Z) (aa.neqAgg Z Z Z Z Z fu)<|yS Z (bx Z (aG g2 Z) Z)<|zN<|zT ?_;refine zX Z (fun g3=>?_)<|fun g3=>?_
    ·refine zi g3 hr fun hr=>zR<|yS Z (zA Z Z vG)<|yS Z (zD Z Z Z DN Z Z)<|yS Z (zD Z Z Z nk Z Z) ?_;refine yS Z (aa.setX (f:=sv) (g:=(fun v=>(bQ v))) (Du.mk y1.From y1.Slot) true yl (.inl Z) Z Z Z Z Z Dt Z) ?_;refine zN<|ai<|zT<|zR<|yS Z (ap Z Z Z Z)<|zM Z<|zN<|zT ?_;obtain rfl:=zJ hr;exact⟨_,rfl,zW 4 ⟨rfl,rfl,rfl,rfl,rfl,trivial⟩ Z Z Z (zL Z (zL (ae (fun _=>rfl) _) (zL (ae (fun _=>rfl) _) (zL Z Z))))⟩
    ·refine zo g3 hr fun hr=>zk<|ai<|zT<|zR<|yS Z (ap Z Z Z Z)<|zM Z<|zN<|zT ?_;obtain rfl:=zJ hr;exact⟨_,rfl,zW 4 ⟨rfl,rfl,rfl,rfl,rfl,trivial⟩ Z Z Z (zL Z (zL (ae (fun _=>rfl) _) (zL (ae (fun _=>rfl) _) (zL Z Z))))⟩
   ·refine zo g2 hr fun hr=>yU Z (gd g2 Z) Z<|yU Z (gd g2 Z) Z<|yU Z (gd g2 Z) Z<|yU Z (gd g2 Z) Z<|yS Z (aO Z (aG g2 Z) Z)<|zN<|zT<|LW.condF Z<|zk<|ai<|zT<|zR<|yS Z (ap Z Z Z Z)<|zM Z<|zN<|zT ?_;obtain rfl:=zJ hr;exact⟨_,rfl,zW 4 ⟨rfl,rfl,rfl,rfl,rfl,trivial⟩ Z Z Z (zL Z (zL (ae (fun _=>rfl) _) (zL (ae (fun _=>rfl) _) (zL Z Z))))⟩
  ·refine zo g1 hr fun hr=>zq<|aj<|aj<|zy<|zT ?_;obtain rfl:=zJ hr;have hr:=congrArg some (hb_x1 _ rfl);obtain rfl:=zJ hr;exact zW 4 ⟨Z,Z,trivial⟩ Z Z Z<|zL Z<|zL (ae (fun _=>rfl) _)<|zL (ae (fun _=>rfl) _)<|zL Z Z
 ·have hr:=ho_v1;clear hb_v1;refine zT<|LW.weak hw_v1<|zQ<|zR<|yS Z (zD Z Z Z ue Z Z)<|yS Z (zs Z Z Z Z ue Z Z Z Z)<|zN<|zT<|zr ?_;obtain rfl:=zJ hr;exact aH (.one (.cellAgg Z Z (by kernel_rfl) Z))<|⟨rfl,rfl⟩
end Go.Mg
namespace Go.Proofs
def Tryz.sortVt_ren :Go.Shelf.Ren:=⟨fun|6=>218|15=>232|14=>231|28=>245|29=>246|20=>237|21=>238|22=>239|23=>240|24=>241|25=>242|26=>243|27=>244|46=>250|47=>251|48=>252|49=>253|50=>254|57=>258|n=>n,fun|22=>27|24=>111|25=>256|3=>3|39=>211|0=>0|53=>219|55=>23|4=>4|46=>275|45=>274|50=>187|5=>5|9=>9|66=>284|70=>288|76=>292|77=>293|n=>n,fun|n=>n⟩
theorem Tryz.sortVt :SlLaysF0.n6 Tryz.prog Tryz.sortVt_ren where
 mixed:=by kernel_rfl
 f6 := ⟨ "slices.SortFunc[[]marigold/api.Vote,marigold/api.Vote]", by decide, Tryz.func218.trans (congrArg some (by kernel_rfl))⟩
 f14 := ⟨ "slices.pdqsortCmpFunc[marigold/api.Vote]", by decide, Tryz.func231.trans (congrArg some (by kernel_rfl))⟩
 f15:=Tryz.func232.trans (congrArg some (by kernel_rfl))
 f20 := ⟨ "slices.insertionSortCmpFunc[marigold/api.Vote]", by decide, Tryz.func237.trans (congrArg some (by kernel_rfl))⟩
 f21 := ⟨ "slices.heapSortCmpFunc[marigold/api.Vote]", by decide, Tryz.func238.trans (congrArg some (by kernel_rfl))⟩
 f22 := ⟨ "slices.breakPatternsCmpFunc[marigold/api.Vote]", by decide, Tryz.func239.trans (congrArg some (by kernel_rfl))⟩
 f23 := ⟨ "slices.choosePivotCmpFunc[marigold/api.Vote]", by decide, Tryz.func240.trans (congrArg some (by kernel_rfl))⟩
 f24 := ⟨ "slices.reverseRangeCmpFunc[marigold/api.Vote]", by decide, Tryz.func241.trans (congrArg some (by kernel_rfl))⟩
 f25 := ⟨ "slices.partialInsertionSortCmpFunc[marigold/api.Vote]", by decide, Tryz.func242.trans (congrArg some (by kernel_rfl))⟩
 f26 := ⟨ "slices.partitionEqualCmpFunc[marigold/api.Vote]", by decide, Tryz.func243.trans (congrArg some (by kernel_rfl))⟩
 f27 := ⟨ "slices.partitionCmpFunc[marigold/api.Vote]", by decide, Tryz.func244.trans (congrArg some (by kernel_rfl))⟩
 f28:=Tryz.func245.trans (congrArg some (by kernel_rfl))
 f29:=Tryz.func246.trans (congrArg some (by kernel_rfl))
 f46 := ⟨ "slices.siftDownCmpFunc[marigold/api.Vote]", by decide, Tryz.func250.trans (congrArg some (by kernel_rfl))⟩
 f47:=Tryz.func251.trans (congrArg some (by kernel_rfl))
 f48:=Tryz.func252.trans (congrArg some (by kernel_rfl))
 f49 := ⟨ "slices.medianAdjacentCmpFunc[marigold/api.Vote]", by decide, Tryz.func253.trans (congrArg some (by kernel_rfl))⟩
 f50 := ⟨ "slices.medianCmpFunc[marigold/api.Vote]", by decide, Tryz.func254.trans (congrArg some (by kernel_rfl))⟩
 f57 := ⟨ "slices.order2CmpFunc[marigold/api.Vote]", by decide, Tryz.func258.trans (congrArg some (by kernel_rfl))⟩
 t0:=Tryz.underlying0
 a0:=Tryz.isAgg0
 z0:=Tryz.sizeOf0
 v0:=Tryz.zeroValue0
 t3:=Tryz.underlying3
 a3:=Tryz.isAgg3
 z3:=Tryz.sizeOf3
 v3:=Tryz.zeroValue3
 t4:=Tryz.underlying4
 a4:=Tryz.isAgg4
 z4:=Tryz.sizeOf4
 v4:=Tryz.zeroValue4
 t5:=Tryz.underlying5
 a5:=Tryz.isAgg5
 z5:=Tryz.sizeOf5
 v5:=Tryz.zeroValue5
 t9:=Tryz.underlying9
 a9:=Tryz.isAgg9
 z9:=Tryz.sizeOf9
 v9:=Tryz.zeroValue9
 t22:=Tryz.underlying27
 a22:=Tryz.isAgg27
 z22:=Tryz.sizeOf27
 v22:=Tryz.zeroValue27
 t25:=Tryz.underlying256
 a25:=Tryz.isAgg256
 z25:=Tryz.sizeOf256
 v25:=Tryz.zeroValue256
 t39:=Tryz.underlying211
 a39:=Tryz.isAgg211
 z39:=Tryz.sizeOf211
 v39:=Tryz.zeroValue211
 t45:=Tryz.underlying274
 a45:=Tryz.isAgg274
 z45:=Tryz.sizeOf274
 v45:=Tryz.zeroValue274
 t46:=Tryz.underlying275
 a46:=Tryz.isAgg275
 z46:=Tryz.sizeOf275
 v46:=Tryz.zeroValue275
 t50:=Tryz.underlying187
 a50:=Tryz.isAgg187
 z50:=Tryz.sizeOf187
 v50:=Tryz.zeroValue187
 t53:=Tryz.underlying219
 a53:=Tryz.isAgg219
 z53:=Tryz.sizeOf219
 v53:=Tryz.zeroValue219
 t55:=Tryz.underlying23
 a55:=Tryz.isAgg23
 z55:=Tryz.sizeOf23
 v55:=Tryz.zeroValue23
 t66:=Tryz.underlying284
 a66:=Tryz.isAgg284
 z66:=Tryz.sizeOf284
 v66:=Tryz.zeroValue284
 t70:=Tryz.underlying288
 a70:=Tryz.isAgg288
 z70:=Tryz.sizeOf288
 v70:=Tryz.zeroValue288
 t76:=Tryz.underlying292
 a76:=Tryz.isAgg292
 z76:=Tryz.sizeOf292
 v76:=Tryz.zeroValue292
 t77:=Tryz.underlying293
 a77:=Tryz.isAgg293
 z77:=Tryz.sizeOf293
 v77:=Tryz.zeroValue293
def Tryz.cmpVt_ren :Go.Shelf.Ren:=⟨fun|5=>220|7=>233|n=>n,fun|22=>3|3=>3|4=>4|n=>n,fun|n=>n⟩
theorem Tryz.cmpVt :SlLaysC2.n5 Tryz.prog Tryz.cmpVt_ren where
 mixed:=by kernel_rfl
 f5 := ⟨ "cmp.Compare[int]", by decide, Tryz.func220.trans (congrArg some (by kernel_rfl))⟩
 f7 := ⟨ "cmp.isNaN[int]", by decide, Tryz.func233.trans (congrArg some (by kernel_rfl))⟩
 t3:=Tryz.underlying3
 a3:=Tryz.isAgg3
 z3:=Tryz.sizeOf3
 v3:=Tryz.zeroValue3
 t4:=Tryz.underlying4
 a4:=Tryz.isAgg4
 z4:=Tryz.sizeOf4
 v4:=Tryz.zeroValue4
 t22:=Tryz.underlying3
 a22:=Tryz.isAgg3
 z22:=Tryz.sizeOf3
 v22:=Tryz.zeroValue3
end Go.Proofs
namespace Go.Mg
open Go.Shelf Go.Sort Go.Proofs
instance:Inhabited Vt:=⟨⟨0,0,(0,0)⟩⟩
def jF (v:Vt):List Value:=[.int .i64 v.From,.int .i64 v.Slot,.int .u64 v.Head.1,.int .u64 v.Head.2]
def At (v:Vt):List PV:=[.int .i64 v.From,.int .i64 v.Slot,.int .u64 v.Head.1,.int .u64 v.Head.2]
theorem m5 :∀l:List Vt,flat (l.map aK)=l.flatMap At
 |[]=>rfl
 |v::r=>by rw[List.map_cons,cS,m5 r,List.flatMap_cons];rfl
theorem m0 {α β:Type}{f:α→List β}{k:Nat}(hf:∀x,(f x).length=k):∀(l:List α) (q r:Nat) (x:α),l[q]?=some x→r<k→(l.flatMap f)[q*k+r]?=(f x)[r]?
 |[],q,r,x,h,_=>by simp at h
 |y::s,0,r,x,h,hr=>by
  simp at h;subst h;rw[List.flatMap_cons,Nat.zero_mul,Nat.zero_add,List.getElem?_append_left (by rw[hf];exact hr)]
 |y::s,q+1,r,x,h,hr=>by
  rw[List.flatMap_cons,List.getElem?_append_right (by rw[hf,Nat.succ_mul];omega),hf,show(q+1)*k+r-k=q*k+r by rw[Nat.succ_mul];omega];exact m0 hf s q r x (by simpa using h) hr
theorem A8 {μ:List bM}{I:Nat→Prop}{w:World}{H:List ab}{id:Nat}{l:List Vt}{B:bM}(hs:St μ I w H)(hne:l≠[])(hH:H[id]?=some (.vec 4 (l.map aK)))(hid:μ[id]?=some B) :
  ∃b vs e,B=⟨some b,l.length⟩∧w.heap[b]?=some (.cells vs e (0,0))∧4*l.length≤vs.size∧(∀q v,l[q]?=some v→(aS .i64 v.From∧aS .i64 v.Slot∧aS .u64 v.Head.1∧aS .u64 v.Head.2)∧∀r,r<4→vs[4*q+r]?=(jF v)[r]?):=by
 have hob:=hs.objs id _ _ hH hid;generalize hx:l.map aK=xs at hob
 cases hob with
 |vecE=>exact absurd (List.map_eq_nil_iff.1 hx) hne
 | @vec _ _ b vs e hb hl hne' hm h=>
  subst hx;rw[List.length_map]at hl;refine⟨b,vs,e,by rw[List.length_map],hb,hl,fun q v hq=>?_⟩;have hql:=(List.getElem?_eq_some_iff.1 hq).1
  have key:∀r p,r<4→(At v)[r]?=some p→∃u,vs[4*q+r]?=some u∧en I w p u:=fun r p hr hp=>by
   have hi:=m0 (f:=At) (k:=4) (fun _=>rfl) l q r v hq hr;rw[←m5,Nat.mul_comm]at hi;have hv:vs[4*q+r]?=some (vs[4*q+r]'(by omega)):=Array.getElem?_eq_getElem (by omega);exact⟨_,hv,h _ p _ (hi.trans hp) hv⟩
  obtain⟨u0,h0,r0⟩:=key 0 (.int .i64 v.From) (by omega) rfl;obtain⟨u1,h1,r1⟩:=key 1 (.int .i64 v.Slot) (by omega) rfl;obtain⟨u2,h2,r2⟩:=key 2 (.int .u64 v.Head.1) (by omega) rfl;obtain⟨u3,h3,r3⟩:=key 3 (.int .u64 v.Head.2) (by omega) rfl;cases r0;cases r1;cases r2;cases r3;refine⟨⟨by assumption,by assumption,by assumption,by assumption⟩,fun r hr=>?_⟩
  match r,hr with
  |0,_=>rw[h0];rfl
  |1,_=>rw[h1];rfl
  |2,_=>rw[h2];rfl
  |3,_=>rw[h3];rfl
theorem JY {l:List Vt}{j:Nat}(hj:j<4*l.length):∃v,l[j / 4]?=some v∧j % 4<4∧j=4*(j / 4)+j % 4:=by
 have h:j / 4<l.length:=by omega
 exact⟨l[j / 4],List.getElem?_eq_getElem h,by omega,by omega⟩
theorem vD {l:List Vt}{j:Nat}(hj:j<4*l.length){v:Vt}(hv:l[j / 4]?=some v):(flatK jF 4 l.toArray)[j]! =(jF v)[j % 4]! :=by
 rw[get_flatK _ _ _ _ (by simp;omega)]
 have h:(l.toArray)[j / 4]! =v:=by
  rw[getElem!_def];simp[hv]
 rw[h]
theorem tT {w:World}{l:List Vt}{b:Nat}{vs:Array Value}{e:TypeId}(hb:w.heap[b]?=some (.cells vs e (0,0)))(hc:∀q v,l[q]?=some v→∀r,r<4→vs[4*q+r]?=(jF v)[r]?):HoldsK jF 4 w b 0 l.toArray:=by
 intro j hj;rw[size_flatK]at hj
 have hj':j<4*l.length:=by simp at hj;omega
 obtain⟨v,hv,hr,he⟩:=JY hj';have h1:=hc _ v hv _ hr;rw[←he]at h1
 have h2:(jF v)[j % 4]?=some ((jF v)[j % 4]!):=by
  rw[getElem!_def];have:j % 4<(jF v).length:=hr;rw[List.getElem?_eq_getElem this]
 rw[h2]at h1;constructor
 ·rw[vD hj' hv,Nat.zero_add];simp[World.cell?,hb,h1]
 ·simp[World.frozen?,hb]
theorem we {F vs:Array Value}{i:Nat}(hF:F.size≤vs.size)(hi:i<F.size):(putCells (fun x=>x) 0 F vs)[i]?=some (F[i]!):=by
 unfold putCells;rw[Array.getElem?_mapIdx,Array.getElem?_eq_getElem (by omega)];simp[hi]
theorem vz :∀d:List Vt,(d.flatMap At).length=4*d.length
 |[]=>rfl
 |x::r=>by rw[List.flatMap_cons,List.length_append,vz r,List.length_cons];simp[At];omega
theorem A3 {μ:List bM}{I:Nat→Prop}{w:World}{H:List ab}{id b n:Nat}{l d:List Vt}{vs:Array Value}{e:TypeId}{os:Array Obj}(hs:St μ I w H)(hid:μ[id]?=some ⟨some b,l.length⟩)(hb:w.heap[b]?=some (.cells vs e (0,0)))(hsz:4*l.length≤vs.size)
  (hd:d.length=l.length) (hne:d≠[]) (hk:∀v∈d,aS .i64 v.From∧aS .i64 v.Slot∧aS .u64 v.Head.1∧aS .u64 v.Head.2) :
  St μ I (sortWorldK jF 4 w b 0 n d.toArray os) (H.set id (.vec 4 (d.map aK)))∧ce μ.length μ I w μ I (sortWorldK jF 4 w b 0 n d.toArray os):=by
 have hbl:b<w.heap.size:=(Array.getElem?_eq_some_iff.1 hb).1
 have hFs:(flatK jF 4 d.toArray).size=4*d.length:=by rw[size_flatK];simp;omega
 have hsize:(sortWorldK jF 4 w b 0 n d.toArray os).heap.size=w.heap.size+os.size:=by
  simp[sortWorldK,grow,putRowK,putRow,mapBlock,Go.Sort.ahead]
 have hoth:∀c,c<w.heap.size→c≠b→(sortWorldK jF 4 w b 0 n d.toArray os).heap[c]?=w.heap[c]?:=fun c hc hcb=>by
  simp only[sortWorldK,grow,putRowK,putRow,mapBlock,Go.Sort.ahead];rw[Array.getElem?_append_left (by simpa using hc),Array.getElem?_modify];rw[if_neg (fun e=>hcb e.symm)]
 have hself:(sortWorldK jF 4 w b 0 n d.toArray os).heap[b]?=some (.cells (putCells (fun x=>x) 0 (flatK jF 4 d.toArray) vs) e (0,0)):=by
  simp only[sortWorldK,grow,putRowK,putRow,mapBlock,Go.Sort.ahead];rw[Array.getElem?_append_left (by simpa using hbl),Array.getElem?_modify];rw[if_pos rfl,hb];rfl
 have hF:(flatK jF 4 d.toArray).size≤vs.size:=by omega
 refine hs.writeG hid hoth (by omega) Z Z Z (fun c e' f hc=>?_) fun hE=>?_
 ·rw[hb]at hc;cases hc;exact⟨_,hself,by simp[putCells]⟩
 ·rw[←hd]
  have hlen:d.length=(d.map aK).length:=by rw[List.length_map]
  rw[hlen];refine .vec hself (by rw[List.length_map];simp[putCells];omega) (fun h=>hne (List.map_eq_nil_iff.1 h)) (fun x hx=>?_) fun i c u hc hu=>?_
  ·obtain⟨v,-,rfl⟩:=List.mem_map.1 hx;exact⟨rfl,fun c hc=>by simp[aK,PV.cells]at hc;rcases hc with rfl|rfl|rfl|rfl <;>trivial⟩
  ·rw[m5]at hc
   have hi:i<4*d.length:=by
    have h1:=(List.getElem?_eq_some_iff.1 hc).1;have h2:=vz d;omega
   obtain⟨v,hv,hr,he⟩:=JY hi;have h3:=m0 (f:=At) (k:=4) (fun _=>rfl) d _ _ v hv hr;rw[Nat.mul_comm,←he,hc]at h3;rw[we hF (by omega),vD hi hv]at hu;obtain⟨k1,k2,k3,k4⟩:=hk v (List.mem_of_getElem? hv);cases hu;generalize i % 4=r at hr h3⊢
   match r,hr with
   |0,_=>cases h3;exact .int k1
   |1,_=>cases h3;exact .int k2
   |2,_=>cases h3;exact .int k3
   |3,_=>cases h3;exact .int k4
open Go.Shelf Go.Sort Go.Proofs
theorem AQ {l:List Vt}{d:Array Vt}(h:PermIn 0 l.toArray.size l.toArray d):d.toList.Perm l:=by
 have h1:=h.2.2;have e1:l.toArray.extract 0 l.toArray.size=l.toArray:=Array.extract_size
 have e2:d.extract 0 l.toArray.size=d:=by rw[←h.1];exact Array.extract_size
 rw[e1,e2]at h1;simpa using h1
theorem AT {d:Array Vt}{n:Nat}{lt:Vt→Vt→Bool}(hlt:∀x y,lt x y=decide (x.From<y.From))(hn:d.size=n)(h:SortedIn lt 0 n d):nT d.toList:=by
 unfold nT;rw[List.pairwise_iff_getElem];intro i j hi hj hij;have:=h i j (Nat.zero_le _) hij (by simpa [hn]using hj);rw[hlt]at this
 have h1:d[j]! =d.toList[j]:=by rw[getElem!_pos d j (by simpa using hj)];simp
 have h2:d[i]! =d.toList[i]:=by rw[getElem!_pos d i (by simpa using hi)];simp
 rw[h1,h2]at this;have:=of_decide_eq_false this;omega
theorem LC.sortVotes {P:Program}{F g:FuncId}{H:List ab}{id:Nat}{l:List Vt}{lt:Vt→Vt→Bool}(hlt:∀x y,lt x y=decide (x.From<y.From))
  (hN:∀(p:Option Addr) (cap:Nat) (fv:Value) (w:World),Calls P F #[.slice p 0 cap,fv] w fun e w'=>e=.returned (.tuple #[])∧w'=w)
  (hS:∀(blk off cap:Nat) (d:Array Vt) (w:World),HoldsK jF 4 w blk off d→blk<w.heap.size→d.size<4611686018427387904→Calls P F #[.slice (some ⟨blk,off,none⟩) d.size cap,.func (.func g) #[] #[]] w fun e w'=>
   e=.returned (.tuple #[])∧∃d' n os,PermIn 0 d.size d d'∧SortedIn lt 0 d.size d'∧w'=sortWorldK jF 4 w blk off n d' os)
  (hH:bc H id=some (.vec 4 (l.map aK))) (hd:∀x∈l,∀y∈l,x.From=y.From→x=y) (hlen:l.length≤1000000) :
  LC P F [.vec 4 id (l.map aK).length 0 (l.map aK).length,.fn g [] []] H (Is (.tup []) (H.set id (.vec 4 ((gy l).map aK)))):=by
 intro args w μ I hs ha;rw[bd]at hH;obtain⟨al⟩:=args
 match al,ha with
 | [v1,v2],ha=>
  obtain⟨h1,h2,-⟩:=ha
  have hv2:v2=.func (.func g) #[] #[]:=by
   cases h2 with
   |@fn _ _ _ fs cs hl hl' _ _=>
    rw[Array.eq_empty_of_size_eq_zero hl,Array.eq_empty_of_size_eq_zero hl']
  subst hv2
  cases h1 with
  |@vec _ _ _ _ _ B _ hid h1 hn hf=>
  by_cases hne:l=[]
  ·subst hne;have hob:=hs.objs id _ _ hH hid
   have hB:B=⟨none,0⟩:=by
    cases hob with
    |vecE=>rfl
    |vec _ _ hne' _ _=>exact absurd rfl hne'
   subst hB;rcases hf rfl with⟨-,⟨a,rfl⟩,-⟩|⟨b,cap,hb,-⟩
   ·refine(hN a 0 _ w).mono fun e w' he=>?_;obtain⟨rfl,rfl⟩:=he;refine⟨.tup [],_,_,μ,I,rfl,⟨rfl,rfl⟩,?_,.tup Z (fun i c v hc=>by simp at hc),.refl _ _ _ _ (Nat.le_refl _)⟩;have hil:=(List.getElem?_eq_some_iff.1 hH).1
    have:H.set id (.vec 4 ((gy []).map aK))=H:=by
     apply List.ext_getElem?;intro i;rw[List.getElem?_set];split
     ·rename_i e;subst e;first|exact hH.symm|(rw[if_pos hil];exact hH.symm)
     ·rfl
    rw[this];exact hs
   ·cases hb
  ·obtain⟨b,vs,e,rfl,hb,hsz,hcells⟩:=A8 hs hne hH hid;have hll:(l.map aK).length=l.length:=List.length_map _;have hl0:l.length≠0:=fun h=>hne (List.length_eq_zero_iff.1 h);rcases hf hll with⟨h0,-⟩|⟨b',cap,hb',rfl,hc1,hc2,-⟩
   ·omega
   ·cases hb';have hbl:b<w.heap.size:=(Array.getElem?_eq_some_iff.1 hb).1
    have hmax:l.length<4611686018427387904:=by omega
    have hcall:=hS b 0 cap l.toArray w (tT hb fun q v hq=>(hcells q v hq).2) hbl (by simpa using hmax)
    have es:l.toArray.size=(l.map aK).length:=by simp
    rw[es]at hcall;refine hcall.mono fun ex w' he=>?_;obtain⟨rfl,d',n,os,hp,hso,rfl⟩:=he;rw[←es]at hp hso;have hperm:=AQ hp;have hds:d'.toList=gy l:=(DI hperm.symm (AT hlt hp.1 hso) hd).symm
    have hd':d'=(gy l).toArray:=by rw[←hds]
    subst hd';have hsl:(gy l).length=l.length:=(cv l).length_eq
    obtain⟨s1,s2⟩:=A3 (n:=n) (os:=os) (d:=gy l) hs hid hb hsz hsl (fun h=>hl0 (by rw[←hsl,h];rfl)) fun v hv=>by
     obtain⟨q,hq⟩:=List.getElem?_of_mem ((cv l).mem_iff.1 hv);exact(hcells q v hq).1
    exact⟨.tup [],_,_,μ,I,rfl,⟨rfl,rfl⟩,s1,.tup Z (fun i c v hc=>by simp at hc),s2⟩
end Go.Mg
namespace Go.Proofs
open Go.Shelf Go.RowKit Go.Lib Go.Sort Go.Mg
set_option maxHeartbeats 1000000 in
theorem Tryz.closV (x y:Vt)(W:World):Calls Tryz.prog 219 #[.agg #[.int .i64 x.From,.int .i64 x.Slot,.int .u64 x.Head.1,.int .u64 x.Head.2],.agg #[.int .i64 y.From,.int .i64 y.Slot,.int .u64 y.Head.1,.int .u64 y.Head.2]] W fun e w'=>e=.returned (.int .i64 (Lib.compareInt x.From y.From))∧∃q os',w'=grow (W.drewN q) os':=by
 have hcon:=fun W'=>AnyG.cmp_Compare_int Tryz.cmpVt x.From y.From W';change ∀W',Calls Tryz.prog 220 _ _ _ at hcon;generalize Lib.compareInt x.From y.From=r at hcon⊢
 go_enter Tryz.func219,Tryz.ntmps219
 go_wp2_with (go_at_call 220;refine(hcon _).mono ?_;rintro e w' ⟨rfl,rfl⟩)
 go_ret
 exact⟨rfl,0,_,by rw[alloc_eq_grow,alloc_eq_grow,grow_grow];rfl⟩
theorem Tryz.ltV (x y:Vt):ltOf (fun x y:Vt=>Lib.compareInt x.From y.From) x y=decide (x.From<y.From):=by
 unfold ltOf Lib.compareInt;by_cases h1:x.From<y.From
 ·simp[h1]
 ·by_cases h2:y.From<x.From <;>simp[h1,h2]
theorem Tryz.swoV :SWO (ltOf fun x y:Vt=>Lib.compareInt x.From y.From) where
 irrefl x:=by rw[Tryz.ltV];simp
 trans x y z h1 h2:=by rw[Tryz.ltV]at *;simp at *;omega
 ntrans x y z h1 h2:=by rw[Tryz.ltV]at *;simp at *;omega
theorem Tryz.sortV_call {H H':List ab}{id:Nat}{l:List Vt}(hH:bc H id=some (.vec 4 (l.map aK)))(hk:xz l=true)(hH':bq H id (.vec 4 ((gy l).map aK))=some H') :
  LC Tryz.prog 218 [.vec 4 id (l.map aK).length 0 (l.map aK).length,.fn 219 [] []] H (Is (.tup []) H'):=by
 obtain⟨e3,-⟩:=bl hH';subst e3;have hk:=of_decide_eq_true hk;refine LC.sortVotes Tryz.ltV (fun p cap fv w=>AnyF.slices_SortFunc_none Tryz.sortVt p cap fv w) (fun blk off cap d w hH hb hs=>?_) hH hk.2 hk.1;exact AnyQ.slices_SortFunc Tryz.sortVt 4 Tryz.isAgg111 Tryz.sizeOf111 jF (fun _=>rfl) (fun x v hv=>by simp[jF]at hv;rcases hv with rfl|rfl|rfl|rfl <;>rfl) (fun x y=>Lib.compareInt x.From y.From) Tryz.swoV 219 #[] blk off cap d w (enters_of Tryz.func219 (by kernel_rfl) Z) (fun _ _ _ _ x y=>Tryz.closV x y _) hH hb hs
end Go.Proofs
namespace Go.Mg
open Go.Proofs
def qp (l:List Vt):Option (List Vt):=bif xz l then some (gy l)else none
theorem C1 {l:List Vt}{r_:List Vt}(hr:qp l=some r_):LC Tryz.prog 181 [(jV 0 l)] [.vec 4 (l.map aK)] (Is (jV 0 r_) [.vec 4 (r_.map aK)]):=by
 refine fy Tryz.func181 Z Z Z ?_;unfold qp at hr;refine zQ<|zR<|zM Z<|zN<|zT<|zQ<|zR<|zM Z<|zg hr fun q1 hr=>yS Z (zC Z Z Z (by kernel_rfl) (Tryz.sortV_call Z q1 Z))<|zN<|zT<|zQ<|zR<|zM Z<|zM Z<|zN<|zT<|zr ?_;obtain rfl:=zJ hr;exact aH (.one (.tmp Z)) (⟨congrArg (fun n=>LV.vec 4 0 n 0 n) (show(l.map aK).length=((gy l).map aK).length by rw[List.length_map,List.length_map,(cv l).length_eq]),rfl⟩)
open Go.Proofs
structure fW where
 out:List Vt
def lh (slot:Int)(b:List (Du×ID)×List (Du×Bool))(j_:Nat)(d_:fW):Option fW:=(b.1[j_]?).bind fun y1=>(bif ((y1.1.frm==y1.1.frm)&&((y1.1.slot==slot)&&true))then some (!((ak b.2 y1.1).getD false))else some false).bind fun v1=>bif v1 then bif cy d_.out.length [Vt.mk y1.1.frm slot y1.2].length 32 then some (fW.mk (d_.out++[Vt.mk y1.1.frm slot y1.2]))else none else some (fW.mk d_.out)
def KQ (slot:Int)(b:List (Du×ID)×List (Du×Bool))(ord_:List Nat):Option (List Vt):=(gv (lh slot b) ord_ (fW.mk ([]:List Vt))).bind fun d_=>(qp d_.out).bind fun v2=>some v2
theorem LT {l:List Vt}{slot:Int}{b:List (Du×ID)×List (Du×Bool)}{r_:List Vt}(hb:ve l=some b)(hr:∀ord_:List Nat,ord_.Perm (List.range b.1.length)→KQ slot b ord_=some r_):LC Tryz.prog 140 [(kV l),(iQ slot)] [] (Is (jV 0 r_) [.vec 4 (r_.map aK)]):=by
 refine fy Tryz.func140 Z Z Z ?_;unfold KQ at hr;refine zQ<|zR<|zM Z<|zN<|zT<|zQ<|zR<|zM Z<|zN<|zT<|zQ<|zR<|zM Z<|yS Z (zC Z Z Z (by kernel_rfl) (Hg hb))<|yS Z (ze Z xL Z Z)<|yS Z (zs Z Z Z Z ue Z Z Z Z)<|zN<|zT<|zQ<|zQ<|zR<|yS Z (zA Z Z rD)<|yS Z (zD Z Z Z xF Z Z) ?_;refine yS Z (aa.rangeMap (es:=(ao sv (fun v=>.p (aR v)) b.1)) Z Z Z (pu _) (by kernel_rfl) Z Z) ?_;refine zN<|zT<|LW.ent (cz.lazy (t:=5) (m:=4) Z Z Z) ?_;refine LW.mapTail (D:=fW) (G:=fun d_ s_=>tD (lh slot b) b.1.length (fW.mk ([]:List Vt)) s_ d_∧s_.Perm (List.range b.1.length)) (fun d_ s_=>[(4,.zs),(5,(jV 6 d_.out))]) (fun d_ s_=>[.box [.map 1,.map 2],.map (ao sv (fun v=>.p (aR v)) b.1),.map (ao sv (fun v=>(bQ v)) b.2),.box [.map 1,.map 2],.box [.map 1,.map 2],.iter (.map 1) b.1.length s_,.vec 4 (d_.out.map aK)]) ?_<|fun d_ s_ hG env_m H_m hw_m=>?_
 ·refine LW.block ?_;have hall:∀ord:List Nat,ord.Perm (List.range b.1.length)→∃z,gv (lh slot b) ord (fW.mk ([]:List Vt))=some z:=fun ord ho=>(zB (hr ord ho)).imp fun z h=>h.1;refine LW.mapLoop (step:=(lh slot b)) (n:=b.1.length) (d0:=fW.mk ([]:List Vt)) (fun d_ s_=>[(1,(iQ slot)),(4,.zs),(5,(jV 6 d_.out)),(6,.ptr 4 0),(13,.ptr 5 0)]) (fun d_ s_=>[.box [.map 1,.map 2],.map (ao sv (fun v=>.p (aR v)) b.1),.map (ao sv (fun v=>(bQ v)) b.2),.box [.map 1,.map 2],.box [.map 1,.map 2],.iter (.map 1) b.1.length s_,.vec 4 (d_.out.map aK)]) hall (zW 7 ⟨rfl,rfl,rfl,rfl,rfl,trivial⟩ Z Z Z (zL Z (zL (ae (fun _=>rfl) _) (zL (ae (fun _=>rfl) _) (zL Z (zL Z (zL Z (zL Z Z))))))))<|fun d_ s_ hS=>?_;refine zQ<|zR ?_;refine au.cons Z Z Z (aa.nextMap (es:=(ao sv (fun v=>.p (aR v)) b.1)) Z Z Z Z (pu _)) ?_;rintro x_ H_ (⟨ha_,rfl,rfl⟩|⟨j_,hj_,hs_,rfl,rfl⟩)
  ·exact yS Z (dW Z Z Z)<|zN<|zT<|zQ<|LW.condF Z<|zq<|aj<|aj<|zy<|zT<|⟨d_,s_,hS.all ha_,zW 7 ⟨rfl,rfl,trivial⟩ Z Z Z (zL Z (zL (ae (fun _=>rfl) _) (zL (ae (fun _=>rfl) _) (zL Z (zL Z (zL Z (zL Z Z)))))))⟩
  ·obtain⟨e_,hr0,-⟩:=hS.next hall hj_ hs_;have hr:=hr0;unfold lh at hr;refine yS Z (dW Z Z Z)<|zN<|zT<|zQ<|LW.condT Z<|zk<|zT<|zl<|zQ<|zR<|zb hr fun y1 h_y1 hr=>?_;refine yS Z (aa.entryMap (es:=(ao sv (fun v=>.p (aR v)) b.1)) Z Z Z Z (pu _) (C6 h_y1)) ?_;refine yS Z (dW Z Z Z)<|yS Z (dW Z Z Z)<|yS Z (ze Z D1 Z Z)<|yS Z (ze Z fm Z Z)<|yS Z (zs Z Z Z Z nk Z Z Z Z)<|yS Z (zs Z Z Z Z ay Z Z Z Z)<|zN<|zT ?_;obtain⟨v1,hb_v1,ho_v1⟩:=zB hr;clear hr;refine LW.cut (E:=[(1,(iQ slot)),(4,.zs),(5,(jV 6 d_.out)),(6,.ptr 4 0),(7,.ptr 7 0),(8,.ptr 8 0),(13,.ptr 5 0),(31,(bQ v1))]) (O:=[.box [.map 1,.map 2],.map (ao sv (fun v=>.p (aR v)) b.1),.map (ao sv (fun v=>(bQ v)) b.2),.box [.map 1,.map 2],.box [.map 1,.map 2],.iter (.map 1) b.1.length (s_++[j_]),.vec 4 (d_.out.map aK),.box [(iQ y1.1.frm),(iQ y1.1.slot)],.box [(uQ y1.2.1),(uQ y1.2.2)]]) ?_ ?_
   ·have hr:=hb_v1;refine zR<|yS Z (zD Z Z Z nk Z Z)<|yS Z (zA Z Z vH)<|yS Z (zD Z Z Z aW Z Z)<|zM Z<|yS Z (aa.build Z CR Z Z Z)<|yS Z (aa.eqlAgg Z Z Z Z Z E7)<|zM Z ?_;refine zc 25 Z (fun g1=>?_)<|fun g1=>?_
    ·refine zi g1 hr fun hr=>yV Z (gd g1 Z) (zA Z Z vG)<|yV Z (gd g1 Z) (zD Z Z Z DN Z Z)<|yV Z (gd g1 Z) (zD Z Z Z nk Z Z) ?_;refine yV Z (gd g1 Z) (aa.getX (f:=sv) (g:=(fun v=>(bQ v))) y1.1 false yl Z Z Z Z Dt KJ Z Z) ?_;refine yV Z (gd g1 Z) (aa.not Z Z)<|yS Z (bx Z (aG g1 Z) Z)<|zN<|zT ?_;obtain rfl:=zJ hr;exact zW 9 ⟨Z,Z,Z,Z,Z,Z,Z,Z,trivial⟩ Z Z Z<|zL Z<|zL (ae (fun _=>rfl) _)<|zL (ae (fun _=>rfl) _)<|zL Z<|zL Z<|zL Z<|zL Z<|zL Z<|zL Z Z
    ·refine zo g1 hr fun hr=>yU Z (gd g1 Z) Z<|yU Z (gd g1 Z) Z<|yU Z (gd g1 Z) Z<|yU Z (gd g1 Z) Z<|yU Z (gd g1 Z) Z<|yS Z (aO Z (aG g1 Z) Z)<|zN<|zT ?_;obtain rfl:=zJ hr;exact zW 9 ⟨Z,Z,Z,Z,Z,Z,Z,Z,trivial⟩ Z Z Z<|zL Z<|zL (ae (fun _=>rfl) _)<|zL (ae (fun _=>rfl) _)<|zL Z<|zL Z<|zL Z<|zL Z<|zL Z<|zL Z Z
   ·have hr:=ho_v1;clear hb_v1;refine zX Z (fun g2=>?_)<|fun g2=>?_
    ·refine zi g2 hr fun hr=>zR<|zM Z<|yS Z (zA Z Z vH)<|yS Z (zD Z Z Z aW Z Z)<|zM Z<|yS Z (zD Z Z Z ay Z Z)<|yS Z (aa.build Z GX Z Z Z)<|yS Z (iO Z bD Z Z Z Z Z)<|zg hr fun q1 hr=>yS Z (aa.appendX aK d_.out [Vt.mk y1.1.frm slot y1.2] rfl Z Z Z iR.p Z bD q1 Z)<|zM Z<|zN<|ai<|zT ?_;obtain rfl:=zJ hr;exact⟨j_,_,hj_,hs_,hr0,zW 7 ⟨rfl,rfl,rfl,rfl,rfl,trivial⟩ Z Z Z (zL Z (zL (ae (fun _=>rfl) _) (zL (ae (fun _=>rfl) _) (zL Z (zL Z (zL Z (zL Z Z)))))))⟩
    ·refine zo g2 hr fun hr=>zk<|ai<|zT ?_;obtain rfl:=zJ hr;exact⟨j_,_,hj_,hs_,hr0,zW 7 ⟨rfl,rfl,rfl,rfl,rfl,trivial⟩ Z Z Z (zL Z (zL (ae (fun _=>rfl) _) (zL (ae (fun _=>rfl) _) (zL Z (zL Z (zL Z (zL Z Z)))))))⟩
 ·have hr:=Iz (hr s_ hG.2) hG.1.came;refine zT<|LW.weak hw_m<|zQ<|LW.ent (cz.last (t:=5) (j:=0) (Hj:=[]) Z Z Z Z Z Z Z)<|zR<|zM Z<|zb hr fun v2 h_v2 hr=>yS Z (zC Z Z Z (by kernel_rfl) (C1 h_v2))<|zM Z<|zN<|zT<|zr ?_;obtain rfl:=zJ hr;exact aH (.one (.tmp Z))<|⟨rfl,rfl⟩
open Go.Proofs
theorem rK {α β:Type}[DecidableEq α](k:α)(v:β):∀m:List (α×β),(bz m k v).map Prod.fst=if k∈m.map Prod.fst then m.map Prod.fst else m.map Prod.fst++[k]
 |[]=>by simp[bz]
 |(x,y)::r=>by
  have ih:=rK k v r;by_cases h:x=k
  ·subst h;simp[bz]
  ·have h':¬k=x:=fun e=>h e.symm;simp only[bz,if_neg h,List.map_cons,ih,List.mem_cons,h',false_or];split <;>rfl
theorem xj {α β:Type}[DecidableEq α]{m:List (α×β)}(k:α)(v:β)(h:(m.map Prod.fst).Nodup):((bz m k v).map Prod.fst).Nodup:=by
 rw[rK];split
 ·exact h
 ·rename_i hk;exact List.nodup_append.2 ⟨h,by simp,fun a ha b hb=>by rw[List.mem_singleton]at hb;subst hb;exact fun e=>hk (e▸ha)⟩
theorem Dj {α β:Type}[DecidableEq α](m:List (α×β))(k:α)(v:β):(bz m k v).length≤m.length+1:=by
 have h:=congrArg List.length (rK k v m);split at h <;>simp at h <;>omega
def n3 (v:Vt):Du:=⟨v.From,v.Slot⟩
def tI (h:List (Du×ID))(v:Vt):Bool:=match ak h (n3 v)with
 |some w=>decide (w≠v.Head)
 |none=>false
def CN (b:List (Du×ID)×List (Du×Bool))(v:Vt):List (Du×ID)×List (Du×Bool):=(bz b.1 (n3 v) v.Head,if tI b.1 v=true then bz b.2 (n3 v) true else b.2)
def ch (l:List Vt):List (Du×ID)×List (Du×Bool):=l.foldl CN ([],[])
theorem ki (l:List Vt)(v:Vt):ch (l++[v])=CN (ch l) v:=by unfold ch;rw[List.foldl_append];rfl
theorem Cz {l:List Vt}(hl:l.length≤100000):ve l=some (ch l):=by
 have e:=aC (step:=jD l) (n:=l.length) (fun k=>dO.mk (k:Int) (ch (l.take k)).1 (ch (l.take k)).2) (dO.mk (l.length:Int) (ch l).1 (ch l).2) (fun k hk=>by
  obtain⟨y,hy,-⟩:=ax hk
  have et:l.take (k+1)=l.take k++[y]:=by rw[List.take_add_one,hy];rfl
  unfold jD;simp only;rw[decide_eq_true (show(k:Int)<(l.length:Int) by omega),ct,aw hy,ob,et,ki,ah (n:=k) (by omega)];generalize ch (l.take k)=b;unfold CN tI n3
  cases hf:ak b.1 (Du.mk y.From y.Slot)with
  |none=>simp only[Option.isSome_none,cf];rfl
  |some w=>
   simp only[Option.isSome_some,ct,Option.getD_some,n7];by_cases hw:w=y.Head
   ·rw[decide_eq_true hw,Bool.not_true,cf];simp[hw]
   ·rw[decide_eq_false hw,Bool.not_false,ct];simp[hw]) (by
  unfold jD;simp only
  rw[decide_eq_false (show¬(l.length:Int)<(l.length:Int) by omega),cf,List.take_length]) (by omega)
 have e':iter (jD l) bg (dO.mk 0 [] [])=_:=e;unfold ve;rw[e',ob]
theorem mi (l:List Vt):((ch l).1.map Prod.fst).Nodup∧(ch l).1.length≤l.length:=by
 have key:∀k,k≤l.length→((ch (l.take k)).1.map Prod.fst).Nodup∧(ch (l.take k)).1.length≤k:=by
  intro k
  induction k with
  |zero=>intro _;simp[ch]
  |succ k ih=>
   intro hk;obtain⟨y,hy,-⟩:=ax (l:=l) (n:=k) (by omega)
   have et:l.take (k+1)=l.take k++[y]:=by rw[List.take_add_one,hy];rfl
   obtain⟨h1,h2⟩:=ih (by omega);rw[et,ki];exact⟨xj _ _ h1,Nat.le_trans (Dj _ _ _) (by omega)⟩
 have:=key l.length (Nat.le_refl _)
 rwa [List.take_length]at this
def fR (d:List (Du×Bool))(slot:Int)(e:Du×ID):Option Vt:=if e.1.slot=slot∧(ak d e.1).getD false=false then some ⟨e.1.frm,slot,e.2⟩else none
def oo (b:List (Du×ID)×List (Du×Bool))(slot:Int)(j:Nat):Option Vt:=(b.1[j]?).bind (fR b.2 slot)
theorem vi {slot:Int}{b:List (Du×ID)×List (Du×Bool)}:∀(ord:List Nat) (out:List Vt),(∀j∈ord,j<b.1.length)→out.length+ord.length≤100000→gv (lh slot b) ord (fW.mk out)=some (fW.mk (out++ord.filterMap (oo b slot)))
 |[],out,_,_=>by simp[gv]
 | j ::r,out,hj,hl=>by
  obtain⟨e,he,-⟩:=ax (hj j (.head _))
  have hl2:out.length+r.length+1≤100000:=by simp only[List.length_cons]at hl;omega
  have hs:lh slot b j (fW.mk out)=some (fW.mk (out++(fR b.2 slot e).toList)):=by
   unfold lh;rw[he,ob];unfold fR;simp only;rw[beq_self_eq_true,Bool.true_and,Bool.and_true];by_cases h1:e.1.slot=slot
   ·rw[beq_iff_eq.2 h1,ct,ob]
    cases h2:(ak b.2 e.1).getD false with
    |false=>
     rw[Bool.not_false,ct,aM (by simp only[List.length_singleton];omega) (by omega),ct,if_pos ⟨h1,rfl⟩];rfl
    |true=>rw[Bool.not_true,cf,if_neg (by simp)];simp
   ·rw[beq_eq_false_iff_ne.2 h1,cf,ob,cf,if_neg (fun h=>h1 h.1)];simp
  have hlen:(fR b.2 slot e).toList.length≤1:=by cases fR b.2 slot e <;>simp
  unfold gv;rw[hs];simp only;rw[vi r _ (fun i hi=>hj i (.tail _ hi)) (by rw[List.length_append];omega)]
  have hk:oo b slot j=fR b.2 slot e:=by unfold oo;rw[he];rfl
  rw[List.filterMap_cons,hk];cases fR b.2 slot e <;>simp
theorem xu (b:List (Du×ID)×List (Du×Bool))(slot:Int):(List.range b.1.length).filterMap (oo b slot)=b.1.filterMap (fR b.2 slot):=by
 have key:∀k,k≤b.1.length→(List.range k).filterMap (oo b slot)=(b.1.take k).filterMap (fR b.2 slot):=by
  intro k
  induction k with
  |zero=>intro _;rfl
  |succ k ih=>
   intro hk;obtain⟨y,hy,-⟩:=ax (l:=b.1) (n:=k) (by omega)
   have et:b.1.take (k+1)=b.1.take k++[y]:=by rw[List.take_add_one,hy];rfl
   rw[List.range_succ,List.filterMap_append,ih (by omega),et,List.filterMap_append];congr 1
   have hk2:oo b slot k=fR b.2 slot y:=by unfold oo;rw[hy];rfl
   rw[List.filterMap_cons,List.filterMap_cons,hk2];rfl
 have:=key b.1.length (Nat.le_refl _)
 rwa [List.take_length]at this
def rQ (l:List Vt)(slot:Int):List Vt:=gy ((ch l).1.filterMap (fR (ch l).2 slot))
theorem vP {m:List (Du×ID)}{d:List (Du×Bool)}{slot:Int}(h:(m.map Prod.fst).Nodup):∀x∈m.filterMap (fR d slot),∀y∈m.filterMap (fR d slot),x.From=y.From→x=y:=by
 have hmem:∀x∈m.filterMap (fR d slot),(⟨x.From,slot⟩,x.Head)∈m∧x.Slot=slot:=by
  intro x hx;obtain⟨e,he,hk⟩:=List.mem_filterMap.1 hx;unfold fR at hk;split at hk
  ·rename_i hc;cases hk;obtain⟨⟨f,s⟩,id⟩:=e;simp only at hc;obtain⟨rfl,-⟩:=hc;exact⟨he,rfl⟩
  ·cases hk
 intro x hx y hy hf;obtain⟨h1,h2⟩:=hmem x hx;obtain⟨h3,h4⟩:=hmem y hy;rw[←hf]at h3
 have hh:x.Head=y.Head:=by
  obtain⟨i,hi⟩:=List.getElem?_of_mem h1;obtain⟨j,hj⟩:=List.getElem?_of_mem h3
  have hi':(m.map Prod.fst)[i]?=some ⟨x.From,slot⟩:=by rw[List.getElem?_map,hi];rfl
  have hj':(m.map Prod.fst)[j]?=some ⟨x.From,slot⟩:=by rw[List.getElem?_map,hj];rfl
  have:=(List.getElem?_inj (List.getElem?_eq_some_iff.1 hi').1 h).1 (hi'.trans hj'.symm);subst this;rw[hi]at hj;exact congrArg Prod.snd<|Option.some.inj hj
 cases x;cases y;simp only at hf h2 h4 hh;subst hf h2 hh;rw[h4]
theorem GH {l:List Vt}(hl:l.length≤90000)(slot:Int):∀ord:List Nat,ord.Perm (List.range (ch l).1.length)→KQ slot (ch l) ord=some (rQ l slot):=by
 intro ord ho;obtain⟨h1,h2⟩:=mi l;have hlen:=ho.length_eq;rw[List.length_range]at hlen;unfold KQ rQ;have hp:=ho.filterMap (oo (ch l) slot);rw[xu]at hp;have hk:xz (ord.filterMap (oo (ch l) slot))=true:=decide_eq_true ⟨Nat.le_trans (List.length_filterMap_le _ _) (by omega),fun x hx y hy=>vP h1 x (hp.mem_iff.1 hx) y (hp.mem_iff.1 hy)⟩;rw[vi ord [] (fun j hj=>List.mem_range.1 (ho.mem_iff.1 hj)) (by simp;omega),ob,List.nil_append];simp only;unfold qp;rw[hk,ct,A2 hp.symm (vP h1)];rfl
def EO (v:List Vt)(slot:Int):Option (List Vt):=bif Nat.ble v.length 90000 then some (rQ v slot)else none
theorem JO {v:List Vt}{slot:Int}{r_:List Vt}(hr:EO v slot=some r_):LC Tryz.prog 140 [.p (.slice 4 (v.map aK)),.p (.int .i64 slot)] [] (Is (.vec 4 0 (r_.map aK).length 0 (r_.map aK).length) [.vec 4 (r_.map aK)]):=by
 unfold EO at hr;obtain⟨q,hr⟩:=yG hr;obtain rfl:=Option.some.inj hr;have hl:=Nat.le_of_ble_eq_true q;exact LT (Cz (by omega))<|GH hl slot
open Go.Proofs
structure eI where
 t8:Int
def jp (s:List Int)(v:Int)(x1:eI):Option (eI⊕(eI⊕Int)):=bif decide (x1.t8<(s.length:Int))then (ix s x1.t8).bind fun y1=>bif v==y1 then some (.inr (.inr x1.t8))else some (.inl (eI.mk (IntKind.i64.wrap (x1.t8+1))))else some (.inr (.inl (eI.mk x1.t8)))
def xQ (s:List Int)(v:Int):Option Int:=(iter (jp s v) bg (eI.mk 0)).bind fun b_v1=>Sum.elim (fun _=>some (-1)) some b_v1
theorem IL {s:List Int}{v:Int}{r_:Int}(hr:xQ s v=some r_):ar Tryz.prog 221 [.slice 1 (s.map aT),.int .i64 v] [.int .i64 r_]:=by
 refine zh Tryz.func221 Z Z Z Z ?_;unfold xQ at hr;refine zQ<|zR<|zM Z<|zN<|zT<|zQ<|zQ<|zR<|zM Z<|yS Z (cD Z Z (by kernel_rfl))<|zM Z<|zN<|zT ?_;obtain⟨b_v1,hb_v1,ho_v1⟩:=zB hr;clear hr;refine LW.tailB (b:=b_v1) (E:=fun v1=>[(4,(iQ 0))]) (O:=fun v1=>[]) ?_<|fun v1 e_v1 env_v1 H_v1 hw_v1=>?_
 ·refine LW.block ?_;refine LW.iterB (E:=fun x1:eI=>[(0,(kI s)),(1,(iQ v)),(4,(iQ 0)),(7,.p (.int .i64 (s.length:Int))),(8,(iQ x1.t8))]) (O:=fun x1=>[]) hb_v1 (zW 0 ⟨rfl,rfl,rfl,rfl,rfl,trivial⟩ Z Z Z Z)<|fun x1 z_x1 hr hb_x1=>?_;unfold jp at hr;refine zQ<|zR<|yS Z (ap Z Z Z Z)<|zN<|zT<|zQ ?_;refine zX Z (fun g1=>?_)<|fun g1=>?_
  ·refine zi g1 hr fun hr=>zk<|zT<|zQ<|zl<|zQ<|zR<|zM Z<|zM Z<|zN<|zT<|zQ<|zR<|zM Z<|zM Z<|zM Z<|zb hr fun y1 h_y1 hr=>yS Z (zx Z Z Z HE h_y1 Z)<|yS Z (ci Z Z Z aW Z Z)<|yS Z (ap Z Z Z Z)<|zN<|zT ?_;refine zX Z (fun g2=>?_)<|fun g2=>?_
   ·refine zi g2 hr fun hr=>zQ<|zR<|zM Z<|zM Z<|zN<|zT<|zr<|aq<|af<|af<|aq<|af<|af ?_;obtain rfl:=zJ hr;have hr:=congrArg some (hb_x1 _ rfl);obtain rfl:=zJ hr;have hr:=bV ho_v1;obtain rfl:=zJ hr;exact zf (.one (.tmp Z)) zv
   ·refine zo g2 hr fun hr=>zk<|ai<|zT<|zR<|yS Z (ap Z Z Z Z)<|zM Z<|zN<|zT ?_;obtain rfl:=zJ hr;exact⟨_,rfl,zW 0 ⟨rfl,rfl,rfl,rfl,rfl,trivial⟩ Z Z Z rfl⟩
  ·refine zo g1 hr fun hr=>zq<|aj<|aj<|zy<|zT ?_;obtain rfl:=zJ hr;have hr:=congrArg some (hb_x1 _ rfl);obtain rfl:=zJ hr;exact⟨_,rfl,zW 0 ⟨rfl,trivial⟩ Z Z Z rfl⟩
 ·obtain rfl:=e_v1;have hr:=cU ho_v1;clear hb_v1;refine zT<|LW.weak hw_v1<|zQ<|zR<|zM Z<|zN<|zT<|zr ?_;obtain rfl:=zJ hr;exact zf (.one (.tmp Z)) zv
def ur (s:List Int)(v:Int):Option Bool:=(xQ s v).bind fun v1=>some (decide (v1≥0))
theorem IK {s:List Int}{v:Int}{r_:Bool}(hr:ur s v=some r_):ar Tryz.prog 182 [.slice 1 (s.map aT),.int .i64 v] [.bool r_]:=by
 refine zh Tryz.func182 Z Z Z Z ?_;unfold ur at hr;refine zQ<|zR<|zM Z<|zN<|zT<|zQ<|zR<|zM Z<|zM Z<|zb hr fun v1 h_v1 hr=>yS Z (zC Z Z Z (by kernel_rfl) (zp (IL h_v1) (.cons zv (.cons zv .nil))))<|yS Z (ap Z Z Z Z)<|zM Z<|zN<|zT<|zr ?_;obtain rfl:=zJ hr;exact zf (.one (.tmp Z)) zv
def sC (b:List Int)(v:Vt):Option Bool:=(ur b v.From).bind fun v1=>some (!v1)
theorem FI {b:List Int}{v:Vt}{r_:Bool}(hr:sC b v=some r_):ar Tryz.prog 141 [.slice 1 (b.map aT),aK v] [.bool r_]:=by
 refine zh Tryz.func141 Z Z Z Z ?_;unfold sC at hr;refine zQ<|zR<|yS Z (bw Z Z Z Z Z)<|zM Z<|zN<|zT<|zQ<|zR<|zM Z<|yS Z (zA Z Z iq)<|yS Z (zD Z Z Z aW Z Z)<|zb hr fun v1 h_v1 hr=>yS Z (zC Z Z Z (by kernel_rfl) (zp (IK h_v1) (.cons zv (.cons zv .nil))))<|yS Z (aa.not Z Z)<|zM Z<|zN<|zT<|zr ?_;obtain rfl:=zJ hr;exact zf (.one (.tmp Z)) zv
structure gY where
 t8:Int
def jr (lV:List Vt)(kk:Nat)(cm:List Int)(x1:gY):Option (gY⊕(gY⊕Int)):=bif decide (x1.t8<(kk:Int))then (ix (lV.take kk) x1.t8).bind fun y1=>(sC cm y1).bind fun v2=>bif v2 then some (.inr (.inr x1.t8))else some (.inl (gY.mk (IntKind.i64.wrap (x1.t8+1))))else some (.inr (.inl (gY.mk x1.t8)))
def uy (lV:List Vt)(kk:Nat)(cm:List Int):Option Int:=(iter (jr lV kk cm) bg (gY.mk 0)).bind fun b_v1=>Sum.elim (fun _=>some (-1)) some b_v1
theorem He {c:Cf}{lV:List Vt}{kk:Nat}{cm:List Int}{r_:Int}(hr:uy lV kk cm=some r_):LC Tryz.prog 183 [.vec 4 1 (lV.map aK).length 0 kk,.fn 141 [(kI cm)] []] [.box (bN c),.vec 4 (lV.map aK)] (Is (iQ r_) [.box (bN c),.vec 4 (lV.map aK)]):=by
 refine fy Tryz.func183 Z Z Z ?_;unfold uy at hr;refine zQ<|zR<|zM Z<|zN<|zT<|zQ<|zQ<|zR<|zM Z<|yS Z (aa.lenVP Z Z Z (by kernel_rfl))<|zM Z<|zN<|zT ?_;obtain⟨b_v1,hb_v1,ho_v1⟩:=zB hr;clear hr;refine LW.tailB (b:=b_v1) (E:=fun v1=>[(4,(iQ 0))]) (O:=fun v1=>[.box (bN c),.vec 4 (lV.map aK)]) ?_<|fun v1 e_v1 env_v1 H_v1 hw_v1=>?_
 ·refine LW.block ?_;refine LW.iterB (E:=fun x1:gY=>[(0,.vec 4 1 (lV.map aK).length 0 kk),(1,.fn 141 [(kI cm)] []),(4,(iQ 0)),(7,.p (.int .i64 (kk:Int))),(8,(iQ x1.t8))]) (O:=fun x1=>[.box (bN c),.vec 4 (lV.map aK)]) hb_v1 (zW 2 ⟨rfl,rfl,rfl,rfl,rfl,trivial⟩ Z Z Z Z)<|fun x1 z_x1 hr hb_x1=>?_;unfold jr at hr;refine zQ<|zR<|yS Z (ap Z Z Z Z)<|zN<|zT<|zQ ?_;refine zX Z (fun g1=>?_)<|fun g1=>?_
  ·refine zi g1 hr fun hr=>zk<|zT<|zQ<|zl<|zQ<|zR<|zM Z<|zM Z<|zN<|zT<|zQ<|zR<|zM Z<|zM Z<|zM Z<|zb hr fun y1 h_y1 hr=>yS Z (aa.indexAddrVP Z Z Z Z bD h_y1)<|yS Z (aa.loadVX Z Z Z cp (gh h_y1).1 Z Z Z Z)<|zb hr fun v2 h_v2 hr=>yS Z (zC Z Z Z (by kernel_rfl) (zp (FI h_v2) (.cons zv (.cons zv .nil))))<|zN<|zT ?_;refine zX Z (fun g2=>?_)<|fun g2=>?_
   ·refine zi g2 hr fun hr=>zQ<|zR<|zM Z<|zM Z<|zN<|zT<|zr<|aq<|af<|af<|aq<|af<|af ?_;obtain rfl:=zJ hr;have hr:=congrArg some (hb_x1 _ rfl);obtain rfl:=zJ hr;have hr:=bV ho_v1;obtain rfl:=zJ hr;exact aH (.one (.tmp Z))<|⟨rfl,rfl⟩
   ·refine zo g2 hr fun hr=>zk<|ai<|zT<|zR<|yS Z (ap Z Z Z Z)<|zM Z<|zN<|zT ?_;obtain rfl:=zJ hr;exact⟨_,rfl,zW 2 ⟨rfl,rfl,rfl,rfl,rfl,trivial⟩ Z Z Z rfl⟩
  ·refine zo g1 hr fun hr=>zq<|aj<|aj<|zy<|zT ?_;obtain rfl:=zJ hr;have hr:=congrArg some (hb_x1 _ rfl);obtain rfl:=zJ hr;exact⟨_,rfl,zW 2 ⟨rfl,trivial⟩ Z Z Z rfl⟩
 ·obtain rfl:=e_v1;have hr:=cU ho_v1;clear hb_v1;refine zT<|LW.weak hw_v1<|zQ<|zR<|zM Z<|zN<|zT<|zr ?_;obtain rfl:=zJ hr;exact aH (.one (.tmp Z))<|⟨rfl,rfl⟩
structure gl where
 i:Int
 j:Int
 o1:List Vt
def jq (kk:Nat)(cm:List Int)(x1:gl):Option (gl⊕gl):=bif decide (x1.j<(kk:Int))then (ix (x1.o1.take kk) x1.j).bind fun y1=>(sC cm y1).bind fun v3=>bif !v3 then (ix (x1.o1.take kk) x1.i).bind fun _=>some (.inl (gl.mk (IntKind.i64.wrap (x1.i+1)) (IntKind.i64.wrap (x1.j+1)) (x1.o1.set x1.i.toNat y1)))else some (.inl (gl.mk x1.i (IntKind.i64.wrap (x1.j+1)) x1.o1))else some (.inr (gl.mk x1.i x1.j x1.o1))
def uv (lV:List Vt)(kk:Nat)(cm:List Int):Option (Nat×List Vt):=(uy lV kk cm).bind fun v1=>bif v1==(-1)then some (kk,lV)else (iter (jq kk cm) bg (gl.mk v1 (IntKind.i64.wrap (v1+1)) lV)).bind fun v2=>bif decide (0≤v2.i∧v2.i≤(kk:Int))then bif decide (v2.i.toNat+(kk-v2.i.toNat)≤v2.o1.length)then bif decide (0≤v2.i∧v2.i≤(kk:Int))then some (v2.i.toNat,jf v2.o1 v2.i.toNat (kk-v2.i.toNat) (Vt.mk 0 0 (0,0)))else none else none else none
theorem G8 {c:Cf}{lV:List Vt}{kk:Nat}{cm:List Int}{r_:Nat×List Vt}(hr:uv lV kk cm=some r_):LC Tryz.prog 142 [.vec 4 1 (lV.map aK).length 0 kk,.fn 141 [(kI cm)] []] [.box (bN c),.vec 4 (lV.map aK)] (Is (.vec 4 1 (r_.2.map aK).length 0 r_.1) [.box (bN c),.vec 4 (r_.2.map aK)]):=by
 refine fy Tryz.func142 Z Z Z ?_;unfold uv at hr;refine zQ<|zR<|zM Z<|zN<|zT<|zQ<|zR<|zM Z<|zM Z<|zb hr fun v1 h_v1 hr=>yS Z (zC Z Z Z (by kernel_rfl) (He h_v1))<|zM Z<|zN<|zT<|zQ<|zQ<|zR<|zM Z<|yS Z (ap Z Z Z Z)<|zN<|zT ?_;refine zX Z (fun g1=>?_)<|fun g1=>?_
 ·refine zi g1 hr fun hr=>zQ<|zR<|zM Z<|zM Z<|zN<|zT<|zr<|af ?_;obtain rfl:=zJ hr;exact aH (.one (.tmp Z))<|⟨rfl,rfl⟩
 ·refine zo g1 hr fun hr=>zk<|zT<|zQ<|zQ<|zR<|zM Z<|yS Z (ap Z Z Z Z)<|zM Z<|zN<|zT ?_;obtain⟨v2,hb_v2,ho_v2⟩:=zB hr;clear hr;refine LW.tail (E:=[(0,.vec 4 1 (v2.o1.map aK).length 0 kk),(4,.zs),(5,(iQ v2.i))]) (O:=[.box (bN c),.vec 4 (v2.o1.map aK)]) ?_<|fun env_v2 H_v2 hw_v2=>?_
  ·refine LW.block ?_;refine LW.iterB (E:=fun x1:gl=>[(0,.vec 4 1 (x1.o1.map aK).length 0 kk),(1,.fn 141 [(kI cm)] []),(4,.zs),(5,(iQ x1.i)),(6,(iQ x1.j))]) (O:=fun x1=>[.box (bN c),.vec 4 (x1.o1.map aK)]) hb_v2 (zW 2 ⟨rfl,rfl,rfl,rfl,rfl,trivial⟩ Z Z Z Z)<|fun x1 z_x1 hr hb_x1=>?_;unfold jq at hr;refine zQ<|zQ<|zR<|zM Z<|zM Z<|yS Z (aa.lenVP Z Z Z (by kernel_rfl))<|yS Z (ap Z Z Z Z)<|zN<|zT ?_;refine zX Z (fun g2=>?_)<|fun g2=>?_
   ·refine zi g2 hr fun hr=>zk<|zT<|zQ<|zl<|zQ<|zR<|zM Z<|zM Z<|zb hr fun y1 h_y1 hr=>yS Z (aa.indexAddrVP Z Z Z Z bD h_y1)<|yS Z (aa.loadVX Z Z Z cp (gh h_y1).1 Z Z Z Z)<|yS Z (ze Z sz Z Z)<|yS Z (zs Z Z Z Z cp Z Z Z Z)<|zN<|zT<|zQ<|zR<|zM Z<|yS Z (zD Z Z Z cp Z Z)<|zb hr fun v3 h_v3 hr=>yS Z (zC Z Z Z (by kernel_rfl) (zp (FI h_v3) (.cons zv (.cons zv .nil))))<|yS Z (aa.not Z Z)<|zN ?_;refine zT ?_;refine zX Z (fun g3=>?_)<|fun g3=>?_
    ·refine zi g3 hr fun hr=>zQ<|zR<|zM Z<|zM Z<|yS Z (zD Z Z Z cp Z Z)<|zb hr fun y2 h_y2 hr=>yS Z (aa.indexAddrVP Z Z Z Z bD h_y2) ?_;refine yS Z (aa.storeVP (f:=aK) (l:=x1.o1) y1 Z Z Z Z cp (fun _=>rfl) (gh h_y2).1 Z Z Z Z Z Z Z) ?_;refine zN<|zT<|zR<|zM Z<|yS Z (ap Z Z Z Z)<|zM Z<|zN<|ai<|zT<|zR<|zM Z<|yS Z (ap Z Z Z Z)<|zM Z<|zN<|zT ?_;obtain rfl:=zJ hr;exact⟨_,rfl,zW 2 ⟨(HD (rfl)),rfl,rfl,rfl,rfl,trivial⟩ Z Z Z rfl⟩
    ·refine zo g3 hr fun hr=>zk<|ai<|zT<|zR<|zM Z<|yS Z (ap Z Z Z Z)<|zM Z<|zN<|zT ?_;obtain rfl:=zJ hr;exact⟨_,rfl,zW 2 ⟨rfl,rfl,rfl,rfl,rfl,trivial⟩ Z Z Z rfl⟩
   ·refine zo g2 hr fun hr=>zq<|aj<|aj<|zy<|zT ?_;obtain rfl:=zJ hr;have hr:=congrArg some (hb_x1 _ rfl);obtain rfl:=zJ hr;exact zW 2 ⟨Z,Z,Z,trivial⟩ Z Z Z Z
  ·have hr:=ho_v2;clear hb_v2;refine zT<|LW.weak hw_v2<|zQ<|zR<|zM Z<|zM Z<|zg hr fun q1 hr=>yS Z (aa.sliceVLo Z Z Z Z bD q1)<|zg hr fun q2 hr=>?_;refine yS Z (aa.clearVP (f:=aK) (zs:=[.int .i64 0,.int .i64 0,.int .u64 0,.int .u64 0]) (Vt.mk 0 0 (0,0)) Z Z Z bD (fun _=>rfl) (by kernel_rfl) Z q2 Z) ?_;refine zN<|zT<|zQ<|LW.ent (cz.vlen (t:=0) (n':=((jf v2.o1 v2.i.toNat (kk-v2.i.toNat) (Vt.mk 0 0 (0,0))).map aK).length) Z (tG q2))<|zR<|zM Z<|zM Z<|zg hr fun q3 hr=>yS Z (aa.sliceVHi Z Z Z Z bD q3)<|zM Z<|zN<|zT<|zr ?_;obtain rfl:=zJ hr;exact aH (.one (.tmp Z))<|⟨rfl,rfl⟩
def sB (c:Cf)(v:List Vt)(slot:Int):Option (List Vt):=(EO v slot).bind fun v1=>(Gx c slot).bind fun v2=>(uv v1 ((v1.map aK).length) v2).bind fun v3=>bif Nat.ble v3.1 v3.2.length then some (v3.2.take v3.1)else none
theorem FH {c:Cf}{v:List Vt}{slot:Int}{r_:(List Vt)}(hr:sB c v slot=some r_):ar Tryz.prog 99 [fz c,.slice 4 (v.map aK),.int .i64 slot] [.slice 4 (r_.map aK)]:=by
 refine zh Tryz.func99 Z Z Z Z ?_;unfold sB at hr;refine zQ<|zR<|yS Z (bw Z Z Z Z Z)<|zM Z<|zN<|zT<|zQ<|zR<|zM Z<|zM Z<|zb hr fun v1 h_v1 hr=>yS Z (aa.callV (qs:=[(kV v),(iQ slot)]) Z Z Z (by kernel_rfl) (JO h_v1) (.consC zv (.consC zv .nil)) Z Z)<|zM Z<|zN<|zT<|zQ<|zR<|yS Z (zD Z Z Z aY Z Z)<|zM Z<|zb hr fun v2 h_v2 hr=>yS Z (zC Z Z Z (by kernel_rfl) (zp (LN h_v2) (.cons zv (.cons zv .nil))))<|yS Z (aa.makeFunc Z Z Z)<|zM Z<|zN ?_;refine zT<|zQ<|zR<|zM Z<|zM Z<|yS Z (aa.lenVM Z Z Z (by kernel_rfl))<|zM Z<|yS Z (aa.lenVM Z Z Z (by kernel_rfl))<|yS Z (aa.sliceV3 Z Z Z Z Z bD)<|zM Z<|zb hr fun v3 h_v3 hr=>zg hr fun q1 hr=>yS Z (zC Z Z Z (by kernel_rfl) (G8 h_v3))<|zM Z<|zN<|zT<|zQ<|zR<|zM Z<|zM Z<|zN<|zT<|zr ?_;obtain rfl:=zJ hr;exact zf (.one (.tmp Z))<|(Conv.vecTake Z q1)
def jo (c:Cf)(w:Vw)(slot:Int):Option ID:=(sB c w.V slot).bind fun v1=>(Il c w.B v1).bind fun v2=>some v2
theorem ye {c:Cf}{w:Vw}{slot:Int}{r_:ID}(hr:jo c w slot=some r_):ar Tryz.prog 55 [fz c,gW w,.int .i64 slot] [aR r_]:=by
 refine zh Tryz.func55 Z Z Z Z ?_;unfold jo at hr;refine zQ<|zR<|yS Z (bw Z Z Z Z Z)<|yS Z (bw Z Z Z Z Z)<|yS Z (ze Z fm Z Z)<|zN<|zT<|zQ<|LW.drawLast (m:=9) (by kernel_rfl) (by kernel_rfl) (by kernel_rfl)<|yE Z (zD Z Z Z aY Z Z)<|yE Z (zA Z Z aL)<|yE Z (zD Z Z Z cd Z Z)<|yE Z (zD Z Z Z aY Z Z)<|yE Z (zA Z Z aQ)<|yE Z (zD Z Z Z co Z Z)<|zH Z<|zb hr fun v1 h_v1 hr=>yE Z (zC Z Z Z (by kernel_rfl) (zp (FH h_v1) (.cons zv (.cons zv (.cons zv .nil)))))<|zb hr fun v2 h_v2 hr=>yE Z (zC Z Z Z (by kernel_rfl) (zp (Mu h_v2) (.cons zv (.cons zv (.cons zv .nil)))))<|LO.nil<|yS Z (zs Z Z Z Z ay Z Z Z Z)<|zN<|zT ?_;refine LW.ret ?_;obtain rfl:=zJ hr;exact zf (.one (.cellAgg Z Z (by kernel_rfl) Z)) zv
structure Wk where
 Node:Nd
 c:Cf
 slot:Int
 told:List Of
open Go.Proofs
def um (n:Nd):Option Vw:=(EK n.V n.In).bind fun v1=>some v1
theorem IF {n:Nd}{r_:Vw}(hr:um n=some r_):ar Tryz.prog 15 [nr n] [gW r_]:=by
 refine zh Tryz.func15 Z Z Z Z ?_;unfold um at hr;refine zQ<|zR<|yS Z (bw Z Z Z Z Z)<|yS Z (ze Z f8 Z Z)<|zN<|zT<|zQ<|zR<|yS Z (zA Z Z aZ)<|yS Z (zD Z Z Z aI Z Z)<|yS Z (zA Z Z be)<|yS Z (zD Z Z Z aI Z Z)<|zb hr fun v1 h_v1 hr=>yS Z (zC Z Z Z (by kernel_rfl) (zp (Jx h_v1) (.cons zv (.cons zv .nil))))<|yS Z (zs Z Z Z Z aI Z Z Z Z)<|zN<|zT<|zr ?_;obtain rfl:=zJ hr;exact zf (.one (.cellAgg Z Z (by kernel_rfl) Z)) zv
def uG (no:Int):Option Nd:=some (Nd.mk no 3 (Vw.mk [] []) (Vw.mk [] []) [] (Cu.mk (0,0) 0 0) false)
theorem FK {no:Int}{r_:Nd}(hr:uG no=some r_):ar Tryz.prog 17 [.int .i64 no] [nr r_]:=by
 refine zh Tryz.func17 Z Z Z Z ?_;unfold uG at hr;refine zQ<|zR<|yS Z (ze Z eG Z Z)<|zN<|zT<|zQ<|zR<|zM Z<|yS Z (aa.build Z CP Z Z Z)<|yS Z (zs Z Z Z Z aE Z Z Z Z)<|zN<|zT<|zr ?_;obtain rfl:=zJ hr;exact zf (.one (.cellAgg Z Z (by kernel_rfl) Z))<|(Conv.agg (.cons zv (.cons zv (.cons Conv.zs (.cons Conv.zs (.cons Conv.zs (.cons Conv.zs (.cons Conv.zs (.cons zv (.cons zv (.cons zv (.cons zv (.cons zv .nil)))))))))))))
def sA (c:Cf)(n:Nd):Option ID:=bif ((IntKind.i64.wrap (n.Tick-1)).tmod 3) != 2 then (jo c n.V (IntKind.i64.wrap ((IntKind.i64.wrap ((IntKind.i64.wrap (n.Tick-1)).tdiv 3))-1))).bind fun v1=>some v1 else (jo c n.V (IntKind.i64.wrap ((IntKind.i64.wrap (n.Tick-1)).tdiv 3))).bind fun v2=>some v2
theorem FF {c:Cf}{n:Nd}{r_:ID}(hr:sA c n=some r_):ar Tryz.prog 19 [fz c,nr n] [aR r_]:=by
 refine zh Tryz.func19 Z Z Z Z ?_;unfold sA at hr;refine zQ<|zR<|yS Z (bw Z Z Z Z Z)<|yS Z (bw Z Z Z Z Z)<|yS Z (ze Z fm Z Z)<|zN<|zT<|zQ<|zR<|yS Z (zA Z Z bB)<|yS Z (zD Z Z Z aW Z Z)<|yS Z (ap Z Z Z Z)<|zM Z<|zN<|zT<|zQ<|zR<|zM Z<|yS Z (aa.quo Z Z Z (by decide))<|zM Z<|zN<|zT<|zQ<|zQ ?_;refine zR<|zM Z<|yS Z (aa.rem Z Z Z (by decide))<|yS Z (ap Z Z Z Z)<|zN<|zT ?_;refine zX Z (fun g1=>?_)<|fun g1=>?_
 ·refine zi g1 hr fun hr=>zR<|zM Z<|yS Z (ap Z Z Z Z)<|zM Z<|zN<|zT<|zQ<|zR<|yS Z (zD Z Z Z aY Z Z)<|yS Z (zA Z Z aZ)<|yS Z (zD Z Z Z aI Z Z)<|zM Z<|zb hr fun v1 h_v1 hr=>yS Z (zC Z Z Z (by kernel_rfl) (zp (ye h_v1) (.cons zv (.cons zv (.cons zv .nil)))))<|yS Z (zs Z Z Z Z ay Z Z Z Z)<|zN<|zT<|zr ?_;obtain rfl:=zJ hr;exact zf (.one (.cellAgg Z Z (by kernel_rfl) Z)) zv
 ·refine zo g1 hr fun hr=>zk<|zT<|zQ<|zR<|yS Z (zD Z Z Z aY Z Z)<|yS Z (zA Z Z aZ)<|yS Z (zD Z Z Z aI Z Z)<|zM Z<|zb hr fun v2 h_v2 hr=>yS Z (zC Z Z Z (by kernel_rfl) (zp (ye h_v2) (.cons zv (.cons zv (.cons zv .nil)))))<|yS Z (zs Z Z Z Z ay Z Z Z Z)<|zN<|zT<|zr ?_;obtain rfl:=zJ hr;exact zf (.one (.cellAgg Z Z (by kernel_rfl) Z)) zv
def qJ (v:Vw):Option Vw:=bif cy 0 v.B.length 40 then bif cy 0 v.V.length 32 then some v else none else none
theorem CU {v:Vw}{r_:Vw}(hr:qJ v=some r_):ar Tryz.prog 37 [gW v] [gW r_]:=by
 refine zh Tryz.func37 Z Z Z Z ?_;unfold qJ at hr;refine zQ<|zR<|yS Z (bw Z Z Z Z Z)<|yS Z (ze Z f8 Z Z)<|zN<|zT<|zQ<|LW.ent (cz.slot Z)<|LW.ent (cz.slot Z)<|LW.drawW (by kernel_rfl) (by kernel_rfl) ?_;refine yF (F:=[]) (s:=none) Z (fun H _=>zA Z Z aL) Z ?_;refine yF Z (zd Z Z Z cd Z Z) Z<|zg hr fun q1 hr=>?_;refine yF Z (cq.callV (id:=2) (qs:=[(kB v.B)]) Z Z Z (by kernel_rfl) (yf q1) (fun H=>(.consC zv .nil)) Z) Z ?_;refine yF (F:=[]) (s:=none) Z (fun H _=>zA Z Z aQ) Z ?_;refine yF Z (zd Z Z Z co Z Z) Z<|zg hr fun q2 hr=>?_;refine yF Z (cq.callV (id:=3) (qs:=[(kV v.V)]) Z Z Z (by kernel_rfl) (yg q2) (fun H=>(.consC zv .nil)) Z) Z ?_;refine yF (F:=[]) (s:=none) Z (fun H _=>aa.build Z mt Z Z Z) Z ?_;refine yF Z (zt Z Z Z Z aI Z Z Z) Z ?_;refine LF.nil ⟨by kernel_rfl,?_⟩;refine zT<|zr ?_;obtain rfl:=zJ hr;exact zf (.one (.cellAgg Z Z (by kernel_rfl) Z))<|(Conv.agg (.cons (Conv.vecAll Z Z Z) (.cons (Conv.vecAll Z Z Z) .nil)))
def qL (o:Of):Option Of:=(qJ o.V).bind fun v1=>some (Of.mk o.Slot o.From o.B v1)
theorem CV {o:Of}{r_:Of}(hr:qL o=some r_):ar Tryz.prog 38 [dC o] [dC r_]:=by
 refine zh Tryz.func38 Z Z Z Z ?_;unfold qL at hr;refine zQ<|zR<|yS Z (bw Z Z Z Z Z)<|yS Z (ze Z np Z Z)<|zN<|zT<|zQ<|zR<|yS Z (zA Z Z fG)<|yS Z (zD Z Z Z aI Z Z)<|zb hr fun v1 h_v1 hr=>yS Z (zC Z Z Z (by kernel_rfl) (zp (CU h_v1) (.cons zv .nil)))<|yS Z (zA Z Z fG)<|yS Z (zs Z Z Z Z aI Z Z Z Z)<|zN<|zT<|zQ<|zR<|yS Z (zD Z Z Z dG Z Z)<|yS Z (zs Z Z Z Z dG Z Z Z Z)<|zN<|zT<|zr ?_;obtain rfl:=zJ hr;exact zf (.one (.cellAgg Z Z (by kernel_rfl) Z)) zv
def sH (b:Bk):Option Vw:=some (Vw.mk [b] [])
theorem FN {b:Bk}{r_:Vw}(hr:sH b=some r_):ar Tryz.prog 87 [av b] [gW r_]:=by
 refine zh Tryz.func87 Z Z Z Z ?_;unfold sH at hr;refine zQ<|zR<|yS Z (bw Z Z Z Z Z)<|yS Z (ze Z f8 Z Z)<|zN<|zT<|zQ<|zR<|yS Z (zD Z Z Z bW Z Z)<|yS Z (iO Z cw Z Z Z Z Z)<|yS Z (aa.build Z mt Z Z Z)<|yS Z (zs Z Z Z Z aI Z Z Z Z)<|zN<|zT<|zr ?_;obtain rfl:=zJ hr;exact zf (.one (.cellAgg Z Z (by kernel_rfl) Z))<|(Conv.agg (.cons zv (.cons Conv.zs .nil)))
end Go.Mg
