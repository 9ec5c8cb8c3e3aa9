/- A view that grows. Conditions: none. -/
import Derived.Test.YtfbigoipfbiliaaGreatX6
import Derived.Shelf.SlSortCmp.WholeK
import Derived.Shelf.SlicesG.Cmp
import Derived.Test.YtfbigoipfbiliaaGreatChecked
import Derived.Shelf.SlGeneric
import Derived.Shelf.GgSortFunc.InsertionK
import Derived.Shelf.SlSortCmp.NoneTotal
set_option maxRecDepth 100000
set_option linter.all false
namespace Go.Mg
open Go.Proofs
def D4 (n:Int)(most:Int)(full:Bool):Option (Bool×Bool):=bif full then some (decide (n<most),true)else some (decide (n<most),decide (n>=most))
theorem KP {n:Int}{most:Int}{wB:List Bk}{wV:List Vt}{sm:List (ID×Int)}{hm:List (Vt×Bool)}{upto:Int}{full:Bool}{lB:List Bk}{lV:List Vt}{n0:Nat}{k0:Nat}{n1:Nat}{k1:Nat}{r_:Bool×Bool}(h:D4 n most full=some r_):LC Tryz.prog 193 [.ptr 10 0,(iQ n),(iQ most)] [.dead,.dead,.dead,.box [.zs,.zs],.box [.zs,.zs],.dead,.vec 5 (wB.map ay),.vec 4 (wV.map aO),(mQ sm),(mR hm),.box [(jB 6 wB),(jV 7 wV),.map 8,.map 9,(iQ upto),(bQ full)],.dead,.dead,.dead,.vec 5 (lB.map ay),.vec 4 (lV.map aO),.box [.vec 5 14 n0 0 k0,.vec 4 15 n1 0 k1]] (Is (bQ r_.1) [.dead,.dead,.dead,.box [.zs,.zs],.box [.zs,.zs],.dead,.vec 5 (wB.map ay),.vec 4 (wV.map aO),(mQ sm),(mR hm),.box [(jB 6 wB),(jV 7 wV),.map 8,.map 9,(iQ upto),(bQ r_.2)],.dead,.dead,.dead,.vec 5 (lB.map ay),.vec 4 (lV.map aO),.box [.vec 5 14 n0 0 k0,.vec 4 15 n1 0 k1]]):=by
 refine eP Tryz.func193 Z Z Z ?_;unfold D4 at h;refine qR<|mN Z<|qR<|zM Z<|zM Z<|yS Z (zn Z Z)<|yS Z (zA Z Z tB)<|yS Z (zD Z Z Z vo Z Z)<|zM Z ?_;refine zc 12 Z (fun g1=>?_)<|fun g1=>?_
 ·refine zi g1 h fun h=>yU Z (gd g1 Z) Z<|yU Z (gd g1 Z) Z<|yU Z (gd g1 Z) Z<|yS Z (bA Z (aK g1 Z) Z)<|yS Z (zn Z Z)<|yS Z (zA Z Z tB)<|yS Z (zs Z Z Z Z vo Z Z Z Z)<|nT<|qR<|zM Z<|zM Z<|yS Z (am Z Z Z Z)<|mN Z<|zr ?_;cases h;exact aD (.one (.tmp Z))<|⟨rfl,rfl⟩
 ·refine zo g1 h fun h=>yV Z (gd g1 Z) (zm Z Z)<|yV Z (gd g1 Z) (zm Z Z)<|yV Z (gd g1 Z) (am Z Z Z Z)<|yS Z (aU Z (aK g1 Z) Z)<|yS Z (zn Z Z)<|yS Z (zA Z Z tB)<|yS Z (zs Z Z Z Z vo Z Z Z Z)<|nT<|qR<|zM Z<|zM Z<|yS Z (am Z Z Z Z)<|mN Z<|zr ?_;cases h;exact aD (.one (.tmp Z))<|⟨rfl,rfl⟩
def Bp (b:Bk)(wB:List Bk)(sm:List (ID×Int))(upto:Int)(full:Bool):Option (Bool×List Bk×List (ID×Int)×Bool):=(bif (ak sm (nm b)).isSome then some ((ak sm (nm b)).isSome)else bif (ak sm b.Parent).isSome then some (decide (((ak sm b.Parent).getD 0)>=b.Slot))else some false).bind fun v1=>bif v1 then some (true,wB,sm,full)else (bif !((ak sm b.Parent).isSome)then some (!((ak sm b.Parent).isSome),full)else bif decide (b.Slot>upto)then some (decide (b.Slot>upto),full)else (D4 (wB.length:Int) 60 full).bind fun v3=>some (!v3.1,v3.2)).bind fun v2=>bif v2.1 then some (false,wB,sm,v2.2)else bif bG wB.length [b].length 40 then bif xg sm then some (true,wB++[b],bK sm (nm b) b.Slot,v2.2)else none else none
theorem KN {b:Bk}{wB:List Bk}{wV:List Vt}{sm:List (ID×Int)}{hm:List (Vt×Bool)}{upto:Int}{full:Bool}{lB:List Bk}{lV:List Vt}{n0:Nat}{k0:Nat}{n1:Nat}{k1:Nat}{r_:Bool×List Bk×List (ID×Int)×Bool}(h:Bp b wB sm upto full=some r_):LC Tryz.prog 155 [.ptr 10 0,.p (ay b)] [.dead,.dead,.dead,.box [.zs,.zs],.box [.zs,.zs],.dead,.vec 5 (wB.map ay),.vec 4 (wV.map aO),(mQ sm),(mR hm),.box [(jB 6 wB),(jV 7 wV),.map 8,.map 9,(iQ upto),(bQ full)],.dead,.dead,.dead,.vec 5 (lB.map ay),.vec 4 (lV.map aO),.box [.vec 5 14 n0 0 k0,.vec 4 15 n1 0 k1]] (Is (bQ r_.1) [.dead,.dead,.dead,.box [.zs,.zs],.box [.zs,.zs],.dead,.vec 5 (r_.2.1.map ay),.vec 4 (wV.map aO),(mQ r_.2.2.1),(mR hm),.box [(jB 6 r_.2.1),(jV 7 wV),.map 8,.map 9,(iQ upto),(bQ r_.2.2.2)],.dead,.dead,.dead,.vec 5 (lB.map ay),.vec 4 (lV.map aO),.box [.vec 5 14 n0 0 k0,.vec 4 15 n1 0 k1]]):=by
 refine eP Tryz.func155 Z Z Z ?_;unfold Bp at h;refine qR<|yS Z (bv Z Z Z Z Z)<|mN Z<|qR<|yS Z (zD Z Z Z ca Z Z)<|yS Z (yP Z Z Z (M0 (b:=b)) dB)<|yS Z (ze Z gT Z Z)<|yS Z (zs Z Z Z Z aG Z Z Z Z)<|nT<|zQ<|dy<|zH Z<|yE Z (zn Z Z)<|yE Z (zA Z Z oN)<|yE Z (zD Z Z Z Fg Z Z)<|yE Z (zD Z Z Z aG Z Z) ?_;refine yE Z (aa.getX (f:=aX) (g:=(fun v=>(iQ v))) (nm b) 0 f9 Z Z Z Z ne Kl Z Z) ?_;refine zH Z<|yE Z (eZ Z Z Z)<|yE Z (eZ Z Z Z)<|zH Z<|zH Z<|LO.nil<|zT<|zQ<|dy<|zH Z<|yE Z (zn Z Z)<|yE Z (zA Z Z oN)<|yE Z (zD Z Z Z Fg Z Z)<|yE Z (zA Z Z gv)<|yE Z (zD Z Z Z aG Z Z) ?_;refine yE Z (aa.getX (f:=aX) (g:=(fun v=>(iQ v))) b.Parent 0 f9 Z Z Z Z ne Kl Z Z) ?_;refine zH Z<|yE Z (eZ Z Z Z)<|yE Z (eZ Z Z Z)<|zH Z<|zH Z<|LO.nil<|zT<|zQ<|zl ?_;obtain⟨v1,p1,b1⟩:=zB h;clear h;refine LW.cut (E:=[(0,.ptr 10 0),(3,.ptr 17 0),(4,(bQ false)),(5,.ptr 18 0),(9,.p (.bool ((ak sm b.Parent).isSome))),(31,(bQ v1))]) (O:=[.dead,.dead,.dead,.box [.zs,.zs],.box [.zs,.zs],.dead,.vec 5 (wB.map ay),.vec 4 (wV.map aO),(mQ sm),(mR hm),.box [(jB 6 wB),(jV 7 wV),.map 8,.map 9,(iQ upto),(bQ full)],.dead,.dead,.dead,.vec 5 (lB.map ay),.vec 4 (lV.map aO),.box [.vec 5 14 n0 0 k0,.vec 4 15 n1 0 k1],.box [(iQ b.Slot),(iQ b.From),(uQ b.Parent.1),(uQ b.Parent.2),(uQ b.Salt)],.box [.p (.int .u64 ((nm b).1)),.p (.int .u64 ((nm b).2))]]) ?_ ?_
 ·have h:=p1;refine qR<|zM Z<|mN Z ?_;refine zX Z (fun g1=>?_)<|fun g1=>?_
  ·refine zi g1 h fun h=>zk<|zT ?_;cases h;exact zW 19 ⟨Z,Z,Z,Z,Z,Z,t_⟩ Z Z Z<|ci<|ci<|zL (ai (fun _=>rfl) _)<|zL (ai (fun _=>rfl) _)<|ci<|ci<|zL Z Z
  ·refine zo g1 h fun h=>zR<|zM Z<|zM Z ?_;refine zc 34 Z (fun g2=>?_)<|fun g2=>?_
   ·refine zi g2 h fun h=>yV Z (gd g2 Z) (zm Z Z)<|yV Z (gd g2 Z) (zA Z Z fK)<|yV Z (gd g2 Z) (zD Z Z Z aV Z Z)<|yV Z (gd g2 Z) (am Z Z Z Z)<|yS Z (bA Z (aK g2 Z) Z)<|mN Z ?_;cases h;exact zW 19 ⟨Z,Z,Z,Z,Z,Z,t_⟩ Z Z Z<|ci<|ci<|zL (ai (fun _=>rfl) _)<|zL (ai (fun _=>rfl) _)<|ci<|ci<|zL Z Z
   ·refine zo g2 h fun h=>yU Z (gd g2 Z) Z<|yU Z (gd g2 Z) Z<|yU Z (gd g2 Z) Z<|yU Z (gd g2 Z) Z<|yS Z (aU Z (aK g2 Z) Z)<|mN Z ?_;cases h;exact zW 19 ⟨Z,Z,Z,Z,Z,Z,t_⟩ Z Z Z<|ci<|ci<|zL (ai (fun _=>rfl) _)<|zL (ai (fun _=>rfl) _)<|ci<|ci<|zL Z Z
 ·have h:=b1;clear p1;refine zX Z (fun g3=>?_)<|fun g3=>?_
  ·refine zi g3 h fun h=>qR<|mN Z<|LW.ret<|ao<|af ?_;cases h;refine bN (env':=[(4,(bQ true))]) (H':=[.dead,.dead,.dead,.box [.zs,.zs],.box [.zs,.zs],.dead,.vec 5 (wB.map ay),.vec 4 (wV.map aO),(mQ sm),(mR hm),.box [(jB 6 wB),(jV 7 wV),.map 8,.map 9,(iQ upto),(bQ full)],.dead,.dead,.dead,.vec 5 (lB.map ay),.vec 4 (lV.map aO),.box [.vec 5 14 n0 0 k0,.vec 4 15 n1 0 k1]]) (zW 17 ⟨Z,t_⟩ Z Z Z (ci (ci (zL (ai (fun _=>rfl) _) (zL (ai (fun _=>rfl) _) (ci (zL Z (zL Z (zL Z Z))))))))) (.one (.tmp Z)) ?_;exact⟨rfl,rfl⟩
  ·have h:=zO g3 h;obtain⟨v2,p2,b2⟩:=zB h;clear h;refine LW.cut (E:=[(0,.ptr 10 0),(3,.ptr 17 0),(4,(bQ false)),(5,.ptr 18 0),(40,(bQ v2.1))]) (O:=[.dead,.dead,.dead,.box [.zs,.zs],.box [.zs,.zs],.dead,.vec 5 (wB.map ay),.vec 4 (wV.map aO),(mQ sm),(mR hm),.box [(jB 6 wB),(jV 7 wV),.map 8,.map 9,(iQ upto),(bQ v2.2)],.dead,.dead,.dead,.vec 5 (lB.map ay),.vec 4 (lV.map aO),.box [.vec 5 14 n0 0 k0,.vec 4 15 n1 0 k1],.box [(iQ b.Slot),(iQ b.From),(uQ b.Parent.1),(uQ b.Parent.2),(uQ b.Salt)],.box [.p (.int .u64 ((nm b).1)),.p (.int .u64 ((nm b).2))]]) ?_ ?_
   ·have h:=p2;refine qR<|zM Z<|yS Z (aa.not Z Z)<|mN Z ?_;refine zX Z (fun g4=>?_)<|fun g4=>?_
    ·refine zi g4 h fun h=>zk<|zT ?_;cases h;exact zW 19 ⟨Z,Z,Z,Z,Z,t_⟩ Z Z Z<|ci<|ci<|zL (ai (fun _=>rfl) _)<|zL (ai (fun _=>rfl) _)<|ci<|ci<|zL Z Z
    ·refine zo g4 h fun h=>zQ<|dy<|yE Z (zA Z Z fK)<|yE Z (zD Z Z Z aV Z Z)<|zH Z<|yE Z (zn Z Z)<|yE Z (zA Z Z Dt)<|yE Z (zD Z Z Z aV Z Z)<|yE Z (am Z Z Z Z)<|zH Z<|LO.nil<|zT ?_;refine zX Z (fun g5=>?_)<|fun g5=>?_
     ·refine zi g5 h fun h=>zk<|zT ?_;cases h;exact zW 19 ⟨Z,Z,Z,Z,Z,t_⟩ Z Z Z<|ci<|ci<|zL (ai (fun _=>rfl) _)<|zL (ai (fun _=>rfl) _)<|ci<|ci<|zL Z Z
     ·refine zo g5 h fun h=>zR<|zM Z<|zM Z<|yS Z (zn Z Z)<|yS Z (zA Z Z gr)<|yS Z (zA Z Z aL)<|yS Z (zD Z Z Z bL Z Z)<|yS Z (aa.lenVM Z Z Z (by kernel_rfl))<|zb h fun v3 a3 h=>?_;refine yS Z (zC Z Z Z (by kernel_rfl) (LC.pre (KP a3) Z (ci (ci (zL (ai (fun _=>rfl) _) (zL (ai (fun _=>rfl) _) (ci (zL Z (zL Z (zL Z Z)))))))) Z)) ?_;refine yS Z (aa.not Z Z)<|mN Z ?_;cases h;exact zW 19 ⟨Z,Z,Z,Z,Z,t_⟩ Z Z Z<|ci<|ci<|zL (ai (fun _=>rfl) _)<|zL (ai (fun _=>rfl) _)<|ci<|ci<|zL Z Z
   ·have h:=b2;clear p2;refine zX Z (fun g6=>?_)<|fun g6=>?_
    ·refine zi g6 h fun h=>qR<|mN Z<|LW.ret<|ao<|af ?_;obtain rfl:=zJ h;refine bN (env':=[(4,(bQ false))]) (H':=[.dead,.dead,.dead,.box [.zs,.zs],.box [.zs,.zs],.dead,.vec 5 (wB.map ay),.vec 4 (wV.map aO),(mQ sm),(mR hm),.box [(jB 6 wB),(jV 7 wV),.map 8,.map 9,(iQ upto),(bQ v2.2)],.dead,.dead,.dead,.vec 5 (lB.map ay),.vec 4 (lV.map aO),.box [.vec 5 14 n0 0 k0,.vec 4 15 n1 0 k1]]) (zW 17 ⟨Z,t_⟩ Z Z Z (ci (ci (zL (ai (fun _=>rfl) _) (zL (ai (fun _=>rfl) _) (ci (zL Z (zL Z (zL Z Z))))))))) (.one (.tmp Z)) ?_;exact⟨rfl,rfl⟩
    ·refine zo g6 h fun h=>zk<|ae<|zT<|zQ<|fC<|zK Z<|zK Z<|yG Z (fun H _=>zn Z Z)<|yG Z (fun H _=>zA Z Z oN)<|yF Z (zd Z Z Z Fg Z Z) Z<|yF Z (zd Z Z Z aG Z Z) Z<|zK Z<|yG Z (fun H _=>zn Z Z)<|yG Z (fun H _=>zA Z Z gr)<|yG Z (fun H _=>zA Z Z aL)<|yF Z (zd Z Z Z bL Z Z) Z<|yF Z (zd Z Z Z ca Z Z) Z<|yG Z (fun H _=>gU Z cp Z Z Z Z Z)<|zg h fun q1 h=>yF Z (ch.appendX ay wB [b] rfl Z Z Z Z cp q1) Z<|yG Z (fun H _=>zA Z Z fK)<|yF Z (zd Z Z Z aV Z Z) Z<|yG Z (fun H _=>zn Z Z)<|yG Z (fun H _=>zA Z Z gr)<|yG Z (fun H _=>zA Z Z aL)<|yF Z (zt Z Z Z Z bL Z Z Z) Z<|zg h fun q2 h=>?_;refine yF Z (ch.mapEntryX (f:=aX) (g:=(fun v=>(iQ v))) (nm b) 0 f9 Z Z Z Z ne Kl Z q2) Z ?_;refine yG Z (fun H _=>eZ Z Z Z) ?_;refine yF Z (ch.entryStoreX (f:=aX) (g:=(fun v=>(iQ v))) (m:=sm) (nm b) ((ak sm (nm b)).getD 0) b.Slot f9 Z Z Z Z Z Z) Z ?_;refine LF.nil ⟨by kernel_rfl,?_⟩;refine zT<|qR<|mN Z<|zr ?_;obtain rfl:=zJ h;refine bN (env':=[(4,(bQ true))]) (H':=[.dead,.dead,.dead,.box [.zs,.zs],.box [.zs,.zs],.dead,.vec 5 ((wB++[b]).map ay),.vec 4 (wV.map aO),.map (ar aX (fun v=>(iQ v)) (bK sm (nm b) b.Slot)),(mR hm),.box [.vec 5 6 ((wB++[b]).map ay).length 0 ((wB++[b]).map ay).length,(jV 7 wV),.map 8,.map 9,(iQ upto),(bQ v2.2)],.dead,.dead,.dead,.vec 5 (lB.map ay),.vec 4 (lV.map aO),.box [.vec 5 14 n0 0 k0,.vec 4 15 n1 0 k1]]) (zW 17 ⟨Z,t_⟩ Z Z Z (ci (ci (zL (ai (fun _=>rfl) _) (zL (ai (fun _=>rfl) _) (ci (zL Z (zL Z (zL Z Z))))))))) (.one (.tmp Z)) ?_;exact⟨rfl,rfl⟩
def Bq (x:Vt)(wV:List Vt)(sm:List (ID×Int))(hm:List (Vt×Bool))(upto:Int)(full:Bool):Option (Bool×List Vt×List (Vt×Bool)×Bool):=(bif (ak hm x).getD false then some ((ak hm x).getD false)else bif (ak sm x.Head).isSome then some (decide (((ak sm x.Head).getD 0)>x.Slot))else some false).bind fun v1=>bif v1 then some (true,wV,hm,full)else (bif !((ak sm x.Head).isSome)then some (!((ak sm x.Head).isSome),full)else bif decide (x.Slot>upto)then some (decide (x.Slot>upto),full)else (D4 (wV.length:Int) 240 full).bind fun v3=>some (!v3.1,v3.2)).bind fun v2=>bif v2.1 then some (false,wV,hm,v2.2)else bif bG wV.length [x].length 32 then bif xg hm then some (true,wV++[x],bK hm x true,v2.2)else none else none
theorem KO {x:Vt}{wB:List Bk}{wV:List Vt}{sm:List (ID×Int)}{hm:List (Vt×Bool)}{upto:Int}{full:Bool}{lB:List Bk}{lV:List Vt}{n0:Nat}{k0:Nat}{n1:Nat}{k1:Nat}{r_:Bool×List Vt×List (Vt×Bool)×Bool}(h:Bq x wV sm hm upto full=some r_):LC Tryz.prog 156 [.ptr 10 0,.p (aO x)] [.dead,.dead,.dead,.box [.zs,.zs],.box [.zs,.zs],.dead,.vec 5 (wB.map ay),.vec 4 (wV.map aO),(mQ sm),(mR hm),.box [(jB 6 wB),(jV 7 wV),.map 8,.map 9,(iQ upto),(bQ full)],.dead,.dead,.dead,.vec 5 (lB.map ay),.vec 4 (lV.map aO),.box [.vec 5 14 n0 0 k0,.vec 4 15 n1 0 k1]] (Is (bQ r_.1) [.dead,.dead,.dead,.box [.zs,.zs],.box [.zs,.zs],.dead,.vec 5 (wB.map ay),.vec 4 (r_.2.1.map aO),(mQ sm),(mR r_.2.2.1),.box [(jB 6 wB),(jV 7 r_.2.1),.map 8,.map 9,(iQ upto),(bQ r_.2.2.2)],.dead,.dead,.dead,.vec 5 (lB.map ay),.vec 4 (lV.map aO),.box [.vec 5 14 n0 0 k0,.vec 4 15 n1 0 k1]]):=by
 refine eP Tryz.func156 Z Z Z ?_;unfold Bq at h;refine qR<|yS Z (bv Z Z Z Z Z)<|mN Z<|zQ<|dy<|zH Z<|yE Z (zn Z Z)<|yE Z (zA Z Z oN)<|yE Z (zD Z Z Z Fg Z Z)<|yE Z (zA Z Z i9)<|yE Z (zD Z Z Z aG Z Z) ?_;refine yE Z (aa.getX (f:=aX) (g:=(fun v=>(iQ v))) x.Head 0 f9 Z Z Z Z ne Kl Z Z) ?_;refine zH Z<|yE Z (eZ Z Z Z)<|yE Z (eZ Z Z Z)<|zH Z<|zH Z<|LO.nil<|zT<|zQ<|zl ?_;obtain⟨v1,p1,b1⟩:=zB h;clear h;refine LW.cut (E:=[(0,.ptr 10 0),(3,.ptr 17 0),(4,(bQ false)),(6,.p (.bool ((ak sm x.Head).isSome))),(17,(bQ v1))]) (O:=[.dead,.dead,.dead,.box [.zs,.zs],.box [.zs,.zs],.dead,.vec 5 (wB.map ay),.vec 4 (wV.map aO),(mQ sm),(mR hm),.box [(jB 6 wB),(jV 7 wV),.map 8,.map 9,(iQ upto),(bQ full)],.dead,.dead,.dead,.vec 5 (lB.map ay),.vec 4 (lV.map aO),.box [.vec 5 14 n0 0 k0,.vec 4 15 n1 0 k1],.box [(iQ x.From),(iQ x.Slot),(uQ x.Head.1),(uQ x.Head.2)]]) ?_ ?_
 ·have h:=p1;refine zQ<|dy<|zH Z<|yE Z (zn Z Z)<|yE Z (zA Z Z tA)<|yE Z (zD Z Z Z DO Z Z)<|yE Z (zD Z Z Z cz Z Z) ?_;refine yE Z (aa.getX (f:=aO) (g:=(fun v=>(bQ v))) x false DP Z Z Z Z HW PW Z Z) ?_;refine zH Z<|LO.nil<|zT ?_;refine zX Z (fun g1=>?_)<|fun g1=>?_
  ·refine zi g1 h fun h=>zk<|zT ?_;cases h;exact zW 18 ⟨Z,Z,Z,Z,Z,t_⟩ Z Z Z<|ci<|ci<|zL (ai (fun _=>rfl) _)<|zL (ai (fun _=>rfl) _)<|ci<|ci Z
  ·refine zo g1 h fun h=>zR<|zM Z<|zM Z ?_;refine zc 25 Z (fun g2=>?_)<|fun g2=>?_
   ·refine zi g2 h fun h=>yV Z (gd g2 Z) (zm Z Z)<|yV Z (gd g2 Z) (zA Z Z i8)<|yV Z (gd g2 Z) (zD Z Z Z aV Z Z)<|yV Z (gd g2 Z) (am Z Z Z Z)<|yS Z (bA Z (aK g2 Z) Z)<|mN Z ?_;cases h;exact zW 18 ⟨Z,Z,Z,Z,Z,t_⟩ Z Z Z<|ci<|ci<|zL (ai (fun _=>rfl) _)<|zL (ai (fun _=>rfl) _)<|ci<|ci Z
   ·refine zo g2 h fun h=>yU Z (gd g2 Z) Z<|yU Z (gd g2 Z) Z<|yU Z (gd g2 Z) Z<|yU Z (gd g2 Z) Z<|yS Z (aU Z (aK g2 Z) Z)<|mN Z ?_;cases h;exact zW 18 ⟨Z,Z,Z,Z,Z,t_⟩ Z Z Z<|ci<|ci<|zL (ai (fun _=>rfl) _)<|zL (ai (fun _=>rfl) _)<|ci<|ci Z
 ·have h:=b1;clear p1;refine zX Z (fun g3=>?_)<|fun g3=>?_
  ·refine zi g3 h fun h=>qR<|mN Z<|LW.ret<|ao<|af ?_;cases h;refine bN (env':=[(4,(bQ true))]) (H':=[.dead,.dead,.dead,.box [.zs,.zs],.box [.zs,.zs],.dead,.vec 5 (wB.map ay),.vec 4 (wV.map aO),(mQ sm),(mR hm),.box [(jB 6 wB),(jV 7 wV),.map 8,.map 9,(iQ upto),(bQ full)],.dead,.dead,.dead,.vec 5 (lB.map ay),.vec 4 (lV.map aO),.box [.vec 5 14 n0 0 k0,.vec 4 15 n1 0 k1]]) (zW 17 ⟨Z,t_⟩ Z Z Z (ci (ci (zL (ai (fun _=>rfl) _) (zL (ai (fun _=>rfl) _) (ci (zL Z (zL Z (zL Z Z))))))))) (.one (.tmp Z)) ?_;exact⟨rfl,rfl⟩
  ·have h:=zO g3 h;obtain⟨v2,p2,b2⟩:=zB h;clear h;refine LW.cut (E:=[(0,.ptr 10 0),(3,.ptr 17 0),(4,(bQ false)),(31,(bQ v2.1))]) (O:=[.dead,.dead,.dead,.box [.zs,.zs],.box [.zs,.zs],.dead,.vec 5 (wB.map ay),.vec 4 (wV.map aO),(mQ sm),(mR hm),.box [(jB 6 wB),(jV 7 wV),.map 8,.map 9,(iQ upto),(bQ v2.2)],.dead,.dead,.dead,.vec 5 (lB.map ay),.vec 4 (lV.map aO),.box [.vec 5 14 n0 0 k0,.vec 4 15 n1 0 k1],.box [(iQ x.From),(iQ x.Slot),(uQ x.Head.1),(uQ x.Head.2)]]) ?_ ?_
   ·have h:=p2;refine qR<|zM Z<|yS Z (aa.not Z Z)<|mN Z ?_;refine zX Z (fun g4=>?_)<|fun g4=>?_
    ·refine zi g4 h fun h=>zk<|zT ?_;cases h;exact zW 18 ⟨Z,Z,Z,Z,t_⟩ Z Z Z<|ci<|ci<|zL (ai (fun _=>rfl) _)<|zL (ai (fun _=>rfl) _)<|ci<|ci Z
    ·refine zo g4 h fun h=>zQ<|dy<|yE Z (zA Z Z i8)<|yE Z (zD Z Z Z aV Z Z)<|zH Z<|yE Z (zn Z Z)<|yE Z (zA Z Z Dt)<|yE Z (zD Z Z Z aV Z Z)<|yE Z (am Z Z Z Z)<|zH Z<|LO.nil<|zT ?_;refine zX Z (fun g5=>?_)<|fun g5=>?_
     ·refine zi g5 h fun h=>zk<|zT ?_;cases h;exact zW 18 ⟨Z,Z,Z,Z,t_⟩ Z Z Z<|ci<|ci<|zL (ai (fun _=>rfl) _)<|zL (ai (fun _=>rfl) _)<|ci<|ci Z
     ·refine zo g5 h fun h=>zR<|zM Z<|zM Z<|yS Z (zn Z Z)<|yS Z (zA Z Z gr)<|yS Z (zA Z Z aS)<|yS Z (zD Z Z Z cq Z Z)<|yS Z (aa.lenVM Z Z Z (by kernel_rfl))<|zb h fun v3 a3 h=>?_;refine yS Z (zC Z Z Z (by kernel_rfl) (LC.pre (KP a3) Z (ci (ci (zL (ai (fun _=>rfl) _) (zL (ai (fun _=>rfl) _) (ci (zL Z (zL Z (zL Z Z)))))))) Z)) ?_;refine yS Z (aa.not Z Z)<|mN Z ?_;cases h;exact zW 18 ⟨Z,Z,Z,Z,t_⟩ Z Z Z<|ci<|ci<|zL (ai (fun _=>rfl) _)<|zL (ai (fun _=>rfl) _)<|ci<|ci Z
   ·have h:=b2;clear p2;refine zX Z (fun g6=>?_)<|fun g6=>?_
    ·refine zi g6 h fun h=>qR<|mN Z<|LW.ret<|ao<|af ?_;obtain rfl:=zJ h;refine bN (env':=[(4,(bQ false))]) (H':=[.dead,.dead,.dead,.box [.zs,.zs],.box [.zs,.zs],.dead,.vec 5 (wB.map ay),.vec 4 (wV.map aO),(mQ sm),(mR hm),.box [(jB 6 wB),(jV 7 wV),.map 8,.map 9,(iQ upto),(bQ v2.2)],.dead,.dead,.dead,.vec 5 (lB.map ay),.vec 4 (lV.map aO),.box [.vec 5 14 n0 0 k0,.vec 4 15 n1 0 k1]]) (zW 17 ⟨Z,t_⟩ Z Z Z (ci (ci (zL (ai (fun _=>rfl) _) (zL (ai (fun _=>rfl) _) (ci (zL Z (zL Z (zL Z Z))))))))) (.one (.tmp Z)) ?_;exact⟨rfl,rfl⟩
    ·refine zo g6 h fun h=>zk<|ae<|zT<|zQ<|fC<|zK Z<|zK Z<|yG Z (fun H _=>zn Z Z)<|yG Z (fun H _=>zA Z Z tA)<|yF Z (zd Z Z Z DO Z Z) Z<|yF Z (zd Z Z Z cz Z Z) Z<|zK Z<|yG Z (fun H _=>zn Z Z)<|yG Z (fun H _=>zA Z Z gr)<|yG Z (fun H _=>zA Z Z aS)<|yF Z (zd Z Z Z cq Z Z) Z<|yF Z (zd Z Z Z cz Z Z) Z<|yG Z (fun H _=>gU Z bz Z Z Z Z Z)<|zg h fun q1 h=>yF Z (ch.appendX aO wV [x] rfl Z Z Z Z bz q1) Z<|yG Z (fun H _=>zn Z Z)<|yG Z (fun H _=>zA Z Z gr)<|yG Z (fun H _=>zA Z Z aS)<|yF Z (zt Z Z Z Z cq Z Z Z) Z<|zg h fun q2 h=>?_;refine yF Z (ch.mapEntryX (f:=aO) (g:=(fun v=>(bQ v))) x false DP Z Z Z Z HW PW Z q2) Z ?_;refine yG Z (fun H _=>eZ Z Z Z) ?_;refine yF Z (ch.entryStoreX (f:=aO) (g:=(fun v=>(bQ v))) (m:=hm) x ((ak hm x).getD false) true DP Z Z Z Z Z Z) Z ?_;refine LF.nil ⟨by kernel_rfl,?_⟩;refine zT<|qR<|mN Z<|zr ?_;obtain rfl:=zJ h;refine bN (env':=[(4,(bQ true))]) (H':=[.dead,.dead,.dead,.box [.zs,.zs],.box [.zs,.zs],.dead,.vec 5 (wB.map ay),.vec 4 ((wV++[x]).map aO),(mQ sm),.map (ar aO (fun v=>(bQ v)) (bK hm x true)),.box [(jB 6 wB),.vec 4 7 ((wV++[x]).map aO).length 0 ((wV++[x]).map aO).length,.map 8,.map 9,(iQ upto),(bQ v2.2)],.dead,.dead,.dead,.vec 5 (lB.map ay),.vec 4 (lV.map aO),.box [.vec 5 14 n0 0 k0,.vec 4 15 n1 0 k1]]) (zW 17 ⟨Z,t_⟩ Z Z Z (ci (ci (zL (ai (fun _=>rfl) _) (zL (ai (fun _=>rfl) _) (ci (zL Z (zL Z (zL Z Z))))))))) (.one (.tmp Z)) ?_;exact⟨rfl,rfl⟩
structure mo where
 t8:Int
 o6:List Bk
 o8:List (ID×Int)
 o10_5:Bool
def oz (lB:List Bk)(kk:Nat)(upto:Int)(x1:mo):Option (mo⊕(mo⊕(Int×List Bk×List (ID×Int)×Bool))):=bif decide (x1.t8<(kk:Int))then (ix (lB.take kk) x1.t8).bind fun y1=>(Bp y1 x1.o6 x1.o8 upto x1.o10_5).bind fun v2=>bif v2.1 then some (.inr (.inr (x1.t8,v2.2.1,v2.2.2.1,v2.2.2.2)))else some (.inl (mo.mk (IntKind.i64.wrap (x1.t8+1)) v2.2.1 v2.2.2.1 v2.2.2.2))else some (.inr (.inl (mo.mk x1.t8 x1.o6 x1.o8 x1.o10_5)))
def FV (lB:List Bk)(kk:Nat)(wB:List Bk)(sm:List (ID×Int))(upto:Int)(full:Bool):Option (Int×List Bk×List (ID×Int)×Bool):=(iter (oz lB kk upto) aY (mo.mk 0 wB sm full)).bind fun b_v1=>Sum.elim (fun v1=>some ((-1),v1.o6,v1.o8,v1.o10_5)) some b_v1
theorem OR {lB:List Bk}{kk:Nat}{wB:List Bk}{wV:List Vt}{sm:List (ID×Int)}{hm:List (Vt×Bool)}{upto:Int}{full:Bool}{lV:List Vt}{n0:Nat}{k0:Nat}{n1:Nat}{k1:Nat}{r_:Int×List Bk×List (ID×Int)×Bool}(h:FV lB kk wB sm upto full=some r_):LC Tryz.prog 194 [.vec 5 14 (lB.map ay).length 0 kk,.fn 155 [.ptr 10 0] []] [.dead,.dead,.dead,.box [.zs,.zs],.box [.zs,.zs],.dead,.vec 5 (wB.map ay),.vec 4 (wV.map aO),(mQ sm),(mR hm),.box [(jB 6 wB),(jV 7 wV),.map 8,.map 9,(iQ upto),(bQ full)],.dead,.dead,.dead,.vec 5 (lB.map ay),.vec 4 (lV.map aO),.box [.vec 5 14 n0 0 k0,.vec 4 15 n1 0 k1]] (Is (iQ r_.1) [.dead,.dead,.dead,.box [.zs,.zs],.box [.zs,.zs],.dead,.vec 5 (r_.2.1.map ay),.vec 4 (wV.map aO),(mQ r_.2.2.1),(mR hm),.box [(jB 6 r_.2.1),(jV 7 wV),.map 8,.map 9,(iQ upto),(bQ r_.2.2.2)],.dead,.dead,.dead,.vec 5 (lB.map ay),.vec 4 (lV.map aO),.box [.vec 5 14 n0 0 k0,.vec 4 15 n1 0 k1]]):=by
 refine eP Tryz.func194 Z Z Z ?_;unfold FV at h;refine qR<|mN Z<|zQ<|qR<|zM Z<|yS Z (aa.lenVP Z Z Z (by kernel_rfl))<|mN Z ?_;obtain⟨w1,p1,q1⟩:=zB h;clear h;refine LW.tailB (b:=w1) (E:=fun v1=>[(4,(iQ 0))]) (O:=fun v1=>[.dead,.dead,.dead,.box [.zs,.zs],.box [.zs,.zs],.dead,.vec 5 (v1.o6.map ay),.vec 4 (wV.map aO),(mQ v1.o8),(mR hm),.box [(jB 6 v1.o6),(jV 7 wV),.map 8,.map 9,(iQ upto),(bQ v1.o10_5)],.dead,.dead,.dead,.vec 5 (lB.map ay),.vec 4 (lV.map aO),.box [.vec 5 14 n0 0 k0,.vec 4 15 n1 0 k1]]) ?_<|fun v1 f1 e1 K1 u1=>?_
 ·refine LW.block ?_;refine LW.iterB (E:=fun x1:mo=>[(0,.vec 5 14 (lB.map ay).length 0 kk),(1,.fn 155 [.ptr 10 0] []),(4,(iQ 0)),(7,.p (.int .i64 (kk:Int))),(8,(iQ x1.t8))]) (O:=fun x1=>[.dead,.dead,.dead,.box [.zs,.zs],.box [.zs,.zs],.dead,.vec 5 (x1.o6.map ay),.vec 4 (wV.map aO),(mQ x1.o8),(mR hm),.box [(jB 6 x1.o6),(jV 7 wV),.map 8,.map 9,(iQ upto),(bQ x1.o10_5)],.dead,.dead,.dead,.vec 5 (lB.map ay),.vec 4 (lV.map aO),.box [.vec 5 14 n0 0 k0,.vec 4 15 n1 0 k1]]) p1 (zW 17 ⟨Z,Z,Z,Z,Z,t_⟩ Z Z Z (ci (ci (zL (ai (fun _=>rfl) _) (zL (ai (fun _=>rfl) _) (ci (zL Z (zL Z (zL Z Z)))))))))<|fun x1 z1 h m1=>?_;unfold oz at h;refine qR<|yS Z (am Z Z Z Z)<|nT<|zQ ?_;refine zX Z (fun g1=>?_)<|fun g1=>?_
  ·refine zi g1 h fun h=>zk<|zT<|zQ<|zl<|qR<|zM Z<|mN Z<|qR<|zM Z<|zM Z<|zM Z<|zb h fun y1 j1 h=>yS Z (aa.indexAddrVP Z Z Z Z cp j1)<|yS Z (aa.loadVX Z Z Z ca (iD j1).1 Z Z Z Z)<|zb h fun v2 a2 h=>yS Z (yC Z Z Z (KN a2))<|nT ?_;refine zX Z (fun g2=>?_)<|fun g2=>?_
   ·refine zi g2 h fun h=>qR<|zM Z<|mN Z<|zr<|ao<|af<|af<|ao<|af<|af ?_;cases h;obtain rfl:=(m1 _ rfl);have h:=bT q1;cases h;exact aD (.one (.tmp Z))<|⟨rfl,rfl⟩
   ·refine zo g2 h fun h=>zk<|ae<|zT<|zR<|yS Z (am Z Z Z Z)<|mN Z ?_;cases h;exact⟨_,rfl,zW 17 ⟨Z,Z,Z,Z,Z,t_⟩ Z Z Z (ci (ci (zL (ai (fun _=>rfl) _) (zL (ai (fun _=>rfl) _) (ci (zL Z (zL Z (zL Z Z))))))))⟩
  ·refine zo g1 h fun h=>zq<|aj<|aj<|zy<|zT ?_;cases h;obtain rfl:=(m1 _ rfl);exact⟨_,rfl,zW 17 ⟨Z,t_⟩ Z Z Z (ci (ci (zL (ai (fun _=>rfl) _) (zL (ai (fun _=>rfl) _) (ci (zL Z (zL Z (zL Z Z))))))))⟩
 ·obtain rfl:=f1;have h:=cU q1;clear p1;refine zT<|LW.weak u1<|qR<|mN Z<|zr ?_;cases h;exact aD (.one (.tmp Z))<|⟨rfl,rfl⟩
structure ks where
 i:Int
 j:Int
 o6:List Bk
 o8:List (ID×Int)
 o10_5:Bool
 o14:List Bk
def ol (kk:Nat)(upto:Int)(x1:ks):Option (ks⊕ks):=bif decide (x1.j<(kk:Int))then (ix (x1.o14.take kk) x1.j).bind fun y1=>(Bp y1 x1.o6 x1.o8 upto x1.o10_5).bind fun v3=>bif !v3.1 then (ix (x1.o14.take kk) x1.i).bind fun _=>some (.inl (ks.mk (IntKind.i64.wrap (x1.i+1)) (IntKind.i64.wrap (x1.j+1)) v3.2.1 v3.2.2.1 v3.2.2.2 (x1.o14.set x1.i.toNat y1)))else some (.inl (ks.mk x1.i (IntKind.i64.wrap (x1.j+1)) v3.2.1 v3.2.2.1 v3.2.2.2 x1.o14))else some (.inr (ks.mk x1.i x1.j x1.o6 x1.o8 x1.o10_5 x1.o14))
def FI (lB:List Bk)(kk:Nat)(wB:List Bk)(sm:List (ID×Int))(upto:Int)(full:Bool):Option (Nat×List Bk×List Bk×List (ID×Int)×Bool):=(FV lB kk wB sm upto full).bind fun v1=>bif v1.1==(-1)then some (kk,lB,v1.2.1,v1.2.2.1,v1.2.2.2)else (iter (ol kk upto) aY (ks.mk v1.1 (IntKind.i64.wrap (v1.1+1)) v1.2.1 v1.2.2.1 v1.2.2.2 lB)).bind fun v2=>bif decide (0<=v2.i/\v2.i<=(kk:Int))then bif decide (v2.i.toNat+(kk-v2.i.toNat)<=v2.o14.length)then bif decide (0<=v2.i/\v2.i<=(kk:Int))then some (v2.i.toNat,kQ v2.o14 v2.i.toNat (kk-v2.i.toNat) (Bk.mk 0 0 (0,0) 0),v2.o6,v2.o8,v2.o10_5)else none else none else none
theorem OM {lB:List Bk}{kk:Nat}{wB:List Bk}{wV:List Vt}{sm:List (ID×Int)}{hm:List (Vt×Bool)}{upto:Int}{full:Bool}{lV:List Vt}{n0:Nat}{k0:Nat}{n1:Nat}{k1:Nat}{r_:Nat×List Bk×List Bk×List (ID×Int)×Bool}(h:FI lB kk wB sm upto full=some r_):LC Tryz.prog 157 [.vec 5 14 (lB.map ay).length 0 kk,.fn 155 [.ptr 10 0] []] [.dead,.dead,.dead,.box [.zs,.zs],.box [.zs,.zs],.dead,.vec 5 (wB.map ay),.vec 4 (wV.map aO),(mQ sm),(mR hm),.box [(jB 6 wB),(jV 7 wV),.map 8,.map 9,(iQ upto),(bQ full)],.dead,.dead,.dead,.vec 5 (lB.map ay),.vec 4 (lV.map aO),.box [.vec 5 14 n0 0 k0,.vec 4 15 n1 0 k1]] (Is (.vec 5 14 (r_.2.1.map ay).length 0 r_.1) [.dead,.dead,.dead,.box [.zs,.zs],.box [.zs,.zs],.dead,.vec 5 (r_.2.2.1.map ay),.vec 4 (wV.map aO),(mQ r_.2.2.2.1),(mR hm),.box [(jB 6 r_.2.2.1),(jV 7 wV),.map 8,.map 9,(iQ upto),(bQ r_.2.2.2.2)],.dead,.dead,.dead,.vec 5 (r_.2.1.map ay),.vec 4 (lV.map aO),.box [.vec 5 14 n0 0 k0,.vec 4 15 n1 0 k1]]):=by
 refine eP Tryz.func157 Z Z Z ?_;unfold FI at h;refine qR<|mN Z<|qR<|zM Z<|zM Z<|zb h fun v1 a1 h=>yS Z (yC Z Z Z (OR a1))<|mN Z<|zQ<|qR<|zM Z<|yS Z (am Z Z Z Z)<|nT ?_;refine zX Z (fun g1=>?_)<|fun g1=>?_
 ·refine zi g1 h fun h=>qR<|zM Z<|mN Z<|zr<|af ?_;cases h;exact aD (.one (.tmp Z))<|⟨rfl,rfl⟩
 ·refine zo g1 h fun h=>zk<|zT<|zQ<|qR<|zM Z<|yS Z (am Z Z Z Z)<|mN Z ?_;obtain⟨v2,p2,b2⟩:=zB h;clear h;refine LW.tail (E:=[(0,.vec 5 14 (v2.o14.map ay).length 0 kk),(4,.zs),(5,(iQ v2.i))]) (O:=[.dead,.dead,.dead,.box [.zs,.zs],.box [.zs,.zs],.dead,.vec 5 (v2.o6.map ay),.vec 4 (wV.map aO),(mQ v2.o8),(mR hm),.box [(jB 6 v2.o6),(jV 7 wV),.map 8,.map 9,(iQ upto),(bQ v2.o10_5)],.dead,.dead,.dead,.vec 5 (v2.o14.map ay),.vec 4 (lV.map aO),.box [.vec 5 14 n0 0 k0,.vec 4 15 n1 0 k1]]) ?_<|fun e2 K2 u2=>?_
  ·refine LW.block ?_;refine LW.iterB (E:=fun x1:ks=>[(0,.vec 5 14 (x1.o14.map ay).length 0 kk),(1,.fn 155 [.ptr 10 0] []),(4,.zs),(5,(iQ x1.i)),(6,(iQ x1.j))]) (O:=fun x1=>[.dead,.dead,.dead,.box [.zs,.zs],.box [.zs,.zs],.dead,.vec 5 (x1.o6.map ay),.vec 4 (wV.map aO),(mQ x1.o8),(mR hm),.box [(jB 6 x1.o6),(jV 7 wV),.map 8,.map 9,(iQ upto),(bQ x1.o10_5)],.dead,.dead,.dead,.vec 5 (x1.o14.map ay),.vec 4 (lV.map aO),.box [.vec 5 14 n0 0 k0,.vec 4 15 n1 0 k1]]) p2 (zW 17 ⟨Z,Z,Z,Z,Z,t_⟩ Z Z Z (ci (ci (zL (ai (fun _=>rfl) _) (zL (ai (fun _=>rfl) _) (ci (zL Z (zL Z (zL Z Z)))))))))<|fun x1 z1 h m1=>?_;unfold ol at h;refine zQ<|qR<|zM Z<|zM Z<|yS Z (aa.lenVP Z Z Z (by kernel_rfl))<|yS Z (am Z Z Z Z)<|nT ?_;refine zX Z (fun g2=>?_)<|fun g2=>?_
   ·refine zi g2 h fun h=>zk<|zT<|zQ<|zl<|qR<|zM Z<|zM Z<|zb h fun y1 j1 h=>yS Z (aa.indexAddrVP Z Z Z Z cp j1)<|yS Z (aa.loadVX Z Z Z ca (iD j1).1 Z Z Z Z)<|yS Z (ze Z vt Z Z)<|yS Z (zs Z Z Z Z ca Z Z Z Z)<|nT<|qR<|zM Z<|yS Z (zD Z Z Z ca Z Z)<|zb h fun v3 a3 h=>?_;refine yS Z (zC Z Z Z (by kernel_rfl) (LC.pre (KN a3) Z (ci (ci (zL (ai (fun _=>rfl) _) (zL (ai (fun _=>rfl) _) (ci (zL Z (zL Z (zL Z Z)))))))) Z)) ?_;refine yS Z (aa.not Z Z)<|nT ?_;refine zX Z (fun g3=>?_)<|fun g3=>?_
    ·refine zi g3 h fun h=>qR<|zM Z<|zM Z<|yS Z (zD Z Z Z ca Z Z)<|zb h fun y2 j2 h=>yS Z (aa.indexAddrVP Z Z Z Z cp j2) ?_;refine yS Z (aa.storeVP (f:=ay) (l:=x1.o14) y1 Z Z Z Z ca (fun _=>rfl) (iD j2).1 Z Z Z Z Z Z Z) ?_;refine nT<|zR<|zM Z<|yS Z (am Z Z Z Z)<|zM Z<|zN<|ae<|zT<|zR<|zM Z<|yS Z (am Z Z Z Z)<|mN Z ?_;cases h;exact⟨_,rfl,zW 17 ⟨(MJ (rfl)),rfl,rfl,rfl,rfl,trivial⟩ Z Z Z (ci (ci (zL (ai (fun _=>rfl) _) (zL (ai (fun _=>rfl) _) (ci (zL Z (zL Z (zL Z Z))))))))⟩
    ·refine zo g3 h fun h=>zk<|ae<|zT<|zR<|zM Z<|yS Z (am Z Z Z Z)<|mN Z ?_;cases h;exact⟨_,rfl,zW 17 ⟨Z,Z,Z,Z,Z,t_⟩ Z Z Z (ci (ci (zL (ai (fun _=>rfl) _) (zL (ai (fun _=>rfl) _) (ci (zL Z (zL Z (zL Z Z))))))))⟩
   ·refine zo g2 h fun h=>zq<|aj<|aj<|zy<|zT ?_;cases h;obtain rfl:=(m1 _ rfl);exact zW 17 ⟨Z,Z,Z,t_⟩ Z Z Z<|ci<|ci<|zL (ai (fun _=>rfl) _)<|zL (ai (fun _=>rfl) _)<|ci<|zL Z<|zL Z<|zL Z Z
  ·have h:=b2;clear p2;refine zT<|LW.weak u2<|qR<|zM Z<|zM Z<|zg h fun q1 h=>yS Z (aa.sliceVLo Z Z Z Z cp q1)<|zg h fun q2 h=>?_;refine yS Z (aa.clearVP (f:=ay) (zs:=[.int .i64 0,.int .i64 0,.int .u64 0,.int .u64 0,.int .u64 0]) (Bk.mk 0 0 (0,0) 0) Z Z Z cp (fun _=>rfl) (by kernel_rfl) Z q2 Z) ?_;refine nT<|zQ<|LW.ent (bW.vlen (t:=0) (n':=((kQ v2.o14 v2.i.toNat (kk-v2.i.toNat) (Bk.mk 0 0 (0,0) 0)).map ay).length) Z (xc q2))<|zR<|zM Z<|zM Z<|zg h fun q3 h=>yS Z (aa.sliceVHi Z Z Z Z cp q3)<|mN Z<|zr ?_;cases h;exact aD (.one (.tmp Z))<|⟨rfl,rfl⟩
structure mn where
 t8:Int
 o7:List Vt
 o9:List (Vt×Bool)
 o10_5:Bool
def oy (lV:List Vt)(kk:Nat)(sm:List (ID×Int))(upto:Int)(x1:mn):Option (mn⊕(mn⊕(Int×List Vt×List (Vt×Bool)×Bool))):=bif decide (x1.t8<(kk:Int))then (ix (lV.take kk) x1.t8).bind fun y1=>(Bq y1 x1.o7 sm x1.o9 upto x1.o10_5).bind fun v2=>bif v2.1 then some (.inr (.inr (x1.t8,v2.2.1,v2.2.2.1,v2.2.2.2)))else some (.inl (mn.mk (IntKind.i64.wrap (x1.t8+1)) v2.2.1 v2.2.2.1 v2.2.2.2))else some (.inr (.inl (mn.mk x1.t8 x1.o7 x1.o9 x1.o10_5)))
def FT (lV:List Vt)(kk:Nat)(wV:List Vt)(sm:List (ID×Int))(hm:List (Vt×Bool))(upto:Int)(full:Bool):Option (Int×List Vt×List (Vt×Bool)×Bool):=(iter (oy lV kk sm upto) aY (mn.mk 0 wV hm full)).bind fun b_v1=>Sum.elim (fun v1=>some ((-1),v1.o7,v1.o9,v1.o10_5)) some b_v1
theorem OQ {lV:List Vt}{kk:Nat}{wB:List Bk}{wV:List Vt}{sm:List (ID×Int)}{hm:List (Vt×Bool)}{upto:Int}{full:Bool}{lB:List Bk}{n0:Nat}{k0:Nat}{n1:Nat}{k1:Nat}{r_:Int×List Vt×List (Vt×Bool)×Bool}(h:FT lV kk wV sm hm upto full=some r_):LC Tryz.prog 183 [.vec 4 15 (lV.map aO).length 0 kk,.fn 156 [.ptr 10 0] []] [.dead,.dead,.dead,.box [.zs,.zs],.box [.zs,.zs],.dead,.vec 5 (wB.map ay),.vec 4 (wV.map aO),(mQ sm),(mR hm),.box [(jB 6 wB),(jV 7 wV),.map 8,.map 9,(iQ upto),(bQ full)],.dead,.dead,.dead,.vec 5 (lB.map ay),.vec 4 (lV.map aO),.box [.vec 5 14 n0 0 k0,.vec 4 15 n1 0 k1]] (Is (iQ r_.1) [.dead,.dead,.dead,.box [.zs,.zs],.box [.zs,.zs],.dead,.vec 5 (wB.map ay),.vec 4 (r_.2.1.map aO),(mQ sm),(mR r_.2.2.1),.box [(jB 6 wB),(jV 7 r_.2.1),.map 8,.map 9,(iQ upto),(bQ r_.2.2.2)],.dead,.dead,.dead,.vec 5 (lB.map ay),.vec 4 (lV.map aO),.box [.vec 5 14 n0 0 k0,.vec 4 15 n1 0 k1]]):=by
 refine eP Tryz.func183 Z Z Z ?_;unfold FT at h;refine qR<|mN Z<|zQ<|qR<|zM Z<|yS Z (aa.lenVP Z Z Z (by kernel_rfl))<|mN Z ?_;obtain⟨w1,p1,q1⟩:=zB h;clear h;refine LW.tailB (b:=w1) (E:=fun v1=>[(4,(iQ 0))]) (O:=fun v1=>[.dead,.dead,.dead,.box [.zs,.zs],.box [.zs,.zs],.dead,.vec 5 (wB.map ay),.vec 4 (v1.o7.map aO),(mQ sm),(mR v1.o9),.box [(jB 6 wB),(jV 7 v1.o7),.map 8,.map 9,(iQ upto),(bQ v1.o10_5)],.dead,.dead,.dead,.vec 5 (lB.map ay),.vec 4 (lV.map aO),.box [.vec 5 14 n0 0 k0,.vec 4 15 n1 0 k1]]) ?_<|fun v1 f1 e1 K1 u1=>?_
 ·refine LW.block ?_;refine LW.iterB (E:=fun x1:mn=>[(0,.vec 4 15 (lV.map aO).length 0 kk),(1,.fn 156 [.ptr 10 0] []),(4,(iQ 0)),(7,.p (.int .i64 (kk:Int))),(8,(iQ x1.t8))]) (O:=fun x1=>[.dead,.dead,.dead,.box [.zs,.zs],.box [.zs,.zs],.dead,.vec 5 (wB.map ay),.vec 4 (x1.o7.map aO),(mQ sm),(mR x1.o9),.box [(jB 6 wB),(jV 7 x1.o7),.map 8,.map 9,(iQ upto),(bQ x1.o10_5)],.dead,.dead,.dead,.vec 5 (lB.map ay),.vec 4 (lV.map aO),.box [.vec 5 14 n0 0 k0,.vec 4 15 n1 0 k1]]) p1 (zW 17 ⟨Z,Z,Z,Z,Z,t_⟩ Z Z Z (ci (ci (zL (ai (fun _=>rfl) _) (zL (ai (fun _=>rfl) _) (ci (zL Z (zL Z (zL Z Z)))))))))<|fun x1 z1 h m1=>?_;unfold oy at h;refine qR<|yS Z (am Z Z Z Z)<|nT<|zQ ?_;refine zX Z (fun g1=>?_)<|fun g1=>?_
  ·refine zi g1 h fun h=>zk<|zT<|zQ<|zl<|qR<|zM Z<|mN Z<|qR<|zM Z<|zM Z<|zM Z<|zb h fun y1 j1 h=>yS Z (aa.indexAddrVP Z Z Z Z bz j1)<|yS Z (aa.loadVX Z Z Z cz (iD j1).1 Z Z Z Z)<|zb h fun v2 a2 h=>yS Z (yC Z Z Z (KO a2))<|nT ?_;refine zX Z (fun g2=>?_)<|fun g2=>?_
   ·refine zi g2 h fun h=>qR<|zM Z<|mN Z<|zr<|ao<|af<|af<|ao<|af<|af ?_;cases h;obtain rfl:=(m1 _ rfl);have h:=bT q1;cases h;exact aD (.one (.tmp Z))<|⟨rfl,rfl⟩
   ·refine zo g2 h fun h=>zk<|ae<|zT<|zR<|yS Z (am Z Z Z Z)<|mN Z ?_;cases h;exact⟨_,rfl,zW 17 ⟨Z,Z,Z,Z,Z,t_⟩ Z Z Z (ci (ci (zL (ai (fun _=>rfl) _) (zL (ai (fun _=>rfl) _) (ci (zL Z (zL Z (zL Z Z))))))))⟩
  ·refine zo g1 h fun h=>zq<|aj<|aj<|zy<|zT ?_;cases h;obtain rfl:=(m1 _ rfl);exact⟨_,rfl,zW 17 ⟨Z,t_⟩ Z Z Z (ci (ci (zL (ai (fun _=>rfl) _) (zL (ai (fun _=>rfl) _) (ci (zL Z (zL Z (zL Z Z))))))))⟩
 ·obtain rfl:=f1;have h:=cU q1;clear p1;refine zT<|LW.weak u1<|qR<|mN Z<|zr ?_;cases h;exact aD (.one (.tmp Z))<|⟨rfl,rfl⟩
structure kt where
 i:Int
 j:Int
 o7:List Vt
 o9:List (Vt×Bool)
 o10_5:Bool
 o15:List Vt
def oo (kk:Nat)(sm:List (ID×Int))(upto:Int)(x1:kt):Option (kt⊕kt):=bif decide (x1.j<(kk:Int))then (ix (x1.o15.take kk) x1.j).bind fun y1=>(Bq y1 x1.o7 sm x1.o9 upto x1.o10_5).bind fun v3=>bif !v3.1 then (ix (x1.o15.take kk) x1.i).bind fun _=>some (.inl (kt.mk (IntKind.i64.wrap (x1.i+1)) (IntKind.i64.wrap (x1.j+1)) v3.2.1 v3.2.2.1 v3.2.2.2 (x1.o15.set x1.i.toNat y1)))else some (.inl (kt.mk x1.i (IntKind.i64.wrap (x1.j+1)) v3.2.1 v3.2.2.1 v3.2.2.2 x1.o15))else some (.inr (kt.mk x1.i x1.j x1.o7 x1.o9 x1.o10_5 x1.o15))
def FJ (lV:List Vt)(kk:Nat)(wV:List Vt)(sm:List (ID×Int))(hm:List (Vt×Bool))(upto:Int)(full:Bool):Option (Nat×List Vt×List Vt×List (Vt×Bool)×Bool):=(FT lV kk wV sm hm upto full).bind fun v1=>bif v1.1==(-1)then some (kk,lV,v1.2.1,v1.2.2.1,v1.2.2.2)else (iter (oo kk sm upto) aY (kt.mk v1.1 (IntKind.i64.wrap (v1.1+1)) v1.2.1 v1.2.2.1 v1.2.2.2 lV)).bind fun v2=>bif decide (0<=v2.i/\v2.i<=(kk:Int))then bif decide (v2.i.toNat+(kk-v2.i.toNat)<=v2.o15.length)then bif decide (0<=v2.i/\v2.i<=(kk:Int))then some (v2.i.toNat,kQ v2.o15 v2.i.toNat (kk-v2.i.toNat) (Vt.mk 0 0 (0,0)),v2.o7,v2.o9,v2.o10_5)else none else none else none
theorem ON {lV:List Vt}{kk:Nat}{wB:List Bk}{wV:List Vt}{sm:List (ID×Int)}{hm:List (Vt×Bool)}{upto:Int}{full:Bool}{lB:List Bk}{n0:Nat}{k0:Nat}{n1:Nat}{k1:Nat}{r_:Nat×List Vt×List Vt×List (Vt×Bool)×Bool}(h:FJ lV kk wV sm hm upto full=some r_):LC Tryz.prog 142 [.vec 4 15 (lV.map aO).length 0 kk,.fn 156 [.ptr 10 0] []] [.dead,.dead,.dead,.box [.zs,.zs],.box [.zs,.zs],.dead,.vec 5 (wB.map ay),.vec 4 (wV.map aO),(mQ sm),(mR hm),.box [(jB 6 wB),(jV 7 wV),.map 8,.map 9,(iQ upto),(bQ full)],.dead,.dead,.dead,.vec 5 (lB.map ay),.vec 4 (lV.map aO),.box [.vec 5 14 n0 0 k0,.vec 4 15 n1 0 k1]] (Is (.vec 4 15 (r_.2.1.map aO).length 0 r_.1) [.dead,.dead,.dead,.box [.zs,.zs],.box [.zs,.zs],.dead,.vec 5 (wB.map ay),.vec 4 (r_.2.2.1.map aO),(mQ sm),(mR r_.2.2.2.1),.box [(jB 6 wB),(jV 7 r_.2.2.1),.map 8,.map 9,(iQ upto),(bQ r_.2.2.2.2)],.dead,.dead,.dead,.vec 5 (lB.map ay),.vec 4 (r_.2.1.map aO),.box [.vec 5 14 n0 0 k0,.vec 4 15 n1 0 k1]]):=by
 refine eP Tryz.func142 Z Z Z ?_;unfold FJ at h;refine qR<|mN Z<|qR<|zM Z<|zM Z<|zb h fun v1 a1 h=>yS Z (yC Z Z Z (OQ a1))<|mN Z<|zQ<|qR<|zM Z<|yS Z (am Z Z Z Z)<|nT ?_;refine zX Z (fun g1=>?_)<|fun g1=>?_
 ·refine zi g1 h fun h=>qR<|zM Z<|mN Z<|zr<|af ?_;cases h;exact aD (.one (.tmp Z))<|⟨rfl,rfl⟩
 ·refine zo g1 h fun h=>zk<|zT<|zQ<|qR<|zM Z<|yS Z (am Z Z Z Z)<|mN Z ?_;obtain⟨v2,p2,b2⟩:=zB h;clear h;refine LW.tail (E:=[(0,.vec 4 15 (v2.o15.map aO).length 0 kk),(4,.zs),(5,(iQ v2.i))]) (O:=[.dead,.dead,.dead,.box [.zs,.zs],.box [.zs,.zs],.dead,.vec 5 (wB.map ay),.vec 4 (v2.o7.map aO),(mQ sm),(mR v2.o9),.box [(jB 6 wB),(jV 7 v2.o7),.map 8,.map 9,(iQ upto),(bQ v2.o10_5)],.dead,.dead,.dead,.vec 5 (lB.map ay),.vec 4 (v2.o15.map aO),.box [.vec 5 14 n0 0 k0,.vec 4 15 n1 0 k1]]) ?_<|fun e2 K2 u2=>?_
  ·refine LW.block ?_;refine LW.iterB (E:=fun x1:kt=>[(0,.vec 4 15 (x1.o15.map aO).length 0 kk),(1,.fn 156 [.ptr 10 0] []),(4,.zs),(5,(iQ x1.i)),(6,(iQ x1.j))]) (O:=fun x1=>[.dead,.dead,.dead,.box [.zs,.zs],.box [.zs,.zs],.dead,.vec 5 (wB.map ay),.vec 4 (x1.o7.map aO),(mQ sm),(mR x1.o9),.box [(jB 6 wB),(jV 7 x1.o7),.map 8,.map 9,(iQ upto),(bQ x1.o10_5)],.dead,.dead,.dead,.vec 5 (lB.map ay),.vec 4 (x1.o15.map aO),.box [.vec 5 14 n0 0 k0,.vec 4 15 n1 0 k1]]) p2 (zW 17 ⟨Z,Z,Z,Z,Z,t_⟩ Z Z Z (ci (ci (zL (ai (fun _=>rfl) _) (zL (ai (fun _=>rfl) _) (ci (zL Z (zL Z (zL Z Z)))))))))<|fun x1 z1 h m1=>?_;unfold oo at h;refine zQ<|qR<|zM Z<|zM Z<|yS Z (aa.lenVP Z Z Z (by kernel_rfl))<|yS Z (am Z Z Z Z)<|nT ?_;refine zX Z (fun g2=>?_)<|fun g2=>?_
   ·refine zi g2 h fun h=>zk<|zT<|zQ<|zl<|qR<|zM Z<|zM Z<|zb h fun y1 j1 h=>yS Z (aa.indexAddrVP Z Z Z Z bz j1)<|yS Z (aa.loadVX Z Z Z cz (iD j1).1 Z Z Z Z)<|yS Z (ze Z vu Z Z)<|yS Z (zs Z Z Z Z cz Z Z Z Z)<|nT<|qR<|zM Z<|yS Z (zD Z Z Z cz Z Z)<|zb h fun v3 a3 h=>?_;refine yS Z (zC Z Z Z (by kernel_rfl) (LC.pre (KO a3) Z (ci (ci (zL (ai (fun _=>rfl) _) (zL (ai (fun _=>rfl) _) (ci (zL Z (zL Z (zL Z Z)))))))) Z)) ?_;refine yS Z (aa.not Z Z)<|nT ?_;refine zX Z (fun g3=>?_)<|fun g3=>?_
    ·refine zi g3 h fun h=>qR<|zM Z<|zM Z<|yS Z (zD Z Z Z cz Z Z)<|zb h fun y2 j2 h=>yS Z (aa.indexAddrVP Z Z Z Z bz j2) ?_;refine yS Z (aa.storeVP (f:=aO) (l:=x1.o15) y1 Z Z Z Z cz (fun _=>rfl) (iD j2).1 Z Z Z Z Z Z Z) ?_;refine nT<|zR<|zM Z<|yS Z (am Z Z Z Z)<|zM Z<|zN<|ae<|zT<|zR<|zM Z<|yS Z (am Z Z Z Z)<|mN Z ?_;cases h;exact⟨_,rfl,zW 17 ⟨(MJ (rfl)),rfl,rfl,rfl,rfl,trivial⟩ Z Z Z (ci (ci (zL (ai (fun _=>rfl) _) (zL (ai (fun _=>rfl) _) (ci (zL Z (zL Z (zL Z Z))))))))⟩
    ·refine zo g3 h fun h=>zk<|ae<|zT<|zR<|zM Z<|yS Z (am Z Z Z Z)<|mN Z ?_;cases h;exact⟨_,rfl,zW 17 ⟨Z,Z,Z,Z,Z,t_⟩ Z Z Z (ci (ci (zL (ai (fun _=>rfl) _) (zL (ai (fun _=>rfl) _) (ci (zL Z (zL Z (zL Z Z))))))))⟩
   ·refine zo g2 h fun h=>zq<|aj<|aj<|zy<|zT ?_;cases h;obtain rfl:=(m1 _ rfl);exact zW 17 ⟨Z,Z,Z,t_⟩ Z Z Z<|ci<|ci<|zL (ai (fun _=>rfl) _)<|zL (ai (fun _=>rfl) _)<|ci<|zL Z<|zL Z<|zL Z Z
  ·have h:=b2;clear p2;refine zT<|LW.weak u2<|qR<|zM Z<|zM Z<|zg h fun q1 h=>yS Z (aa.sliceVLo Z Z Z Z bz q1)<|zg h fun q2 h=>?_;refine yS Z (aa.clearVP (f:=aO) (zs:=[.int .i64 0,.int .i64 0,.int .u64 0,.int .u64 0]) (Vt.mk 0 0 (0,0)) Z Z Z bz (fun _=>rfl) (by kernel_rfl) Z q2 Z) ?_;refine nT<|zQ<|LW.ent (bW.vlen (t:=0) (n':=((kQ v2.o15 v2.i.toNat (kk-v2.i.toNat) (Vt.mk 0 0 (0,0))).map aO).length) Z (xc q2))<|zR<|zM Z<|zM Z<|zg h fun q3 h=>yS Z (aa.sliceVHi Z Z Z Z bz q3)<|mN Z<|zr ?_;cases h;exact aD (.one (.tmp Z))<|⟨rfl,rfl⟩
structure Ac where
 Tick:Int
 To:Int
 Offer:Bool
 B:List Bk
 V:List Vt
def mZ (a:Ac):PV:=.agg [.int .i64 a.Tick,.int .i64 a.To,.bool a.Offer,.slice 5 (a.B.map ay),.slice 4 (a.V.map aO)]
structure Of where
 Slot:Int
 From:Int
 B:Bk
 V:Vw
def da (o:Of):PV:=.agg [.int .i64 o.Slot,.int .i64 o.From,.int .i64 o.B.Slot,.int .i64 o.B.From,.int .u64 o.B.Parent.1,.int .u64 o.B.Parent.2,.int .u64 o.B.Salt,.slice 5 (o.V.B.map ay),.slice 4 (o.V.V.map aO)]
structure Nd where
 No:Int
 Tick:Int
 V:Vw
 In:Vw
 O:List Of
 C:Cu
 Full:Bool
def dH (n:Nd):PV:=.agg [.int .i64 n.No,.int .i64 n.Tick,.slice 5 (n.V.B.map ay),.slice 4 (n.V.V.map aO),.slice 5 (n.In.B.map ay),.slice 4 (n.In.V.map aO),.slice 9 (n.O.map da),.int .u64 n.C.ID.1,.int .u64 n.C.ID.2,.int .i64 n.C.Slot,.int .i64 n.C.Revoked,.bool n.Full]
structure Wd where
 C:Cf
 Bad:List Int
 Tick:Int
 N:List Nd
 O:List Of
def xJ (w:Wd):PV:=.agg [.slice 1 (w.C.W.map be),.int .u64 w.C.Seed,.int .i64 w.C.Epoch,.int .i64 w.C.Num,.int .i64 w.C.Den,.slice 1 (w.Bad.map be),.int .i64 w.Tick,.slice 12 (w.N.map dH),.slice 9 (w.O.map da)]
structure Du where
 frm:Int
 slot:Int
 deriving DecidableEq
def vD (d:Du):PV:=.agg [.int .i64 d.frm,.int .i64 d.slot]
theorem Da :gK vD 2 true:=⟨fun a b=>by
 obtain⟨x,y⟩:=a;obtain⟨z,w⟩:=b;simp only[vD,jX,uu,Bool.and_true,Du.mk.injEq,Option.some.injEq]
 by_cases h1:x=z <;>by_cases h2:y=w <;>simp[h1,h2],fun _=>rfl⟩
abbrev kO (l:List Of):LV:=.p (.slice 9 (l.map da))
abbrev jO (i:Nat)(l:List Of):LV:=.vec 9 i (l.map da).length 0 (l.map da).length
abbrev nf :List LV:=[iQ 0,iQ 0,.zs,.zs,.zs,.zs,.zs,uQ 0,uQ 0,iQ 0,iQ 0,bQ false]
abbrev oO (n:Nd):List LV:=[.p (.int .i64 n.No),.p (.int .i64 n.Tick),.p (.slice 5 (n.V.B.map ay)),.p (.slice 4 (n.V.V.map aO)),.p (.slice 5 (n.In.B.map ay)),.p (.slice 4 (n.In.V.map aO)),.p (.slice 9 (n.O.map da)),.p (.int .u64 n.C.ID.1),.p (.int .u64 n.C.ID.2),.p (.int .i64 n.C.Slot),.p (.int .i64 n.C.Revoked),.p (.bool n.Full)]
abbrev gu (w:Wd):List LV:=[.p (.slice 1 (w.C.W.map be)),.p (.int .u64 w.C.Seed),.p (.int .i64 w.C.Epoch),.p (.int .i64 w.C.Num),.p (.int .i64 w.C.Den),.p (.slice 1 (w.Bad.map be)),.p (.int .i64 w.Tick),.p (.slice 12 (w.N.map dH)),.p (.slice 9 (w.O.map da))]
abbrev ph :List LV:=[.zs,.p (.int .u64 0),.p (.int .i64 0),.p (.int .i64 0),.p (.int .i64 0),.zs,.p (.int .i64 0),.zs,.zs]
abbrev nQ (w:Wd)(a:Vw)(h:Int)(m:Bool)(l:List Ac)(f i j:Nat):List LV:=[.p (.slice 1 (w.C.W.map be)),.p (.int .u64 w.C.Seed),.p (.int .i64 w.C.Epoch),.p (.int .i64 w.C.Num),.p (.int .i64 w.C.Den),.p (.slice 1 (w.Bad.map be)),.p (.int .i64 w.Tick),.p (.slice 12 (w.N.map dH)),.p (.slice 9 (w.O.map da)),.p (.slice 5 (a.B.map ay)),.p (.slice 4 (a.V.map aO)),.p (.int .i64 h),.p (.bool m),.fn f [] [.ptr i 0,.ptr j 0],.p (.int .i64 (IntKind.i64.wrap (w.Tick.tdiv 3))),.p (.slice 5 (l.map mZ))]
abbrev hM (w:Wd)(a:Vw)(h:Int)(m:Bool)(l:List Ac)(f g:Nat):List ab:=[.box (gu w),.box ph,.box (gu w),.box (nQ w a h m l f 5 4),.box (nQ w a h m l f 5 4),.box [.fn g [] [.ptr 2 0]]]
def BZ (v:Vt):List Vt->List Vt
 |[]=>[v]
 |x::r=>if v.From<x.From then v::x::r else x::BZ v r
def iT :List Vt->List Vt
 |[]=>[]
 |v::r=>BZ v (iT r)
def qy (l:List Vt):Prop:=l.Pairwise fun a b=>a.From<=b.From
theorem sh (v:Vt):∀l:List Vt,(BZ v l).Perm (v::l)
 |[]=>.refl _
 |x::r=>by
  unfold BZ;split
  ·exact .refl _
  ·exact((sh v r).cons x).trans (.swap v x r)
theorem cO :∀l:List Vt,(iT l).Perm l
 |[]=>.refl _
 |v::r=>(sh v (iT r)).trans ((cO r).cons v)
theorem wx {v:Vt}:∀{l:List Vt},qy l->qy (BZ v l)
 |[],_=>by simp[BZ,qy]
 | x::r,h=>by
  have h2:=List.pairwise_cons.1 h;unfold BZ;split
  ·rename_i hl
   exact List.pairwise_cons.2 ⟨fun y hy=>by
    rcases List.mem_cons.1 hy with e|hy
    ·subst e;omega
    ·have:=h2.1 y hy;omega,h⟩
  ·rename_i hl;refine List.pairwise_cons.2 ⟨fun y hy=>?_,wx h2.2⟩;rcases List.mem_cons.1 ((sh v r).mem_iff.1 hy)with e|hy
   ·subst e;omega
   ·exact h2.1 y hy
theorem kd :∀l:List Vt,qy (iT l)
 |[]=>.nil
 |_::r=>wx (kd r)
theorem rp :∀{a b:List Vt},a.Perm b->qy a->qy b->(∀x∈a,∀y∈a,x.From=y.From->x=y)->a=b
 |[],b,h,_,_,_=>(List.Perm.nil_eq h)
 | x ::r,b,h,ha,hb,hd=>by
  cases b with
  |nil=>exact absurd h.length_eq (by simp)
  | cons y s=>
   have ha2:=List.pairwise_cons.1 ha;have hb2:=List.pairwise_cons.1 hb;have hy:y∈x::r:=h.mem_iff.2 (.head _);have hx:x∈y::s:=h.mem_iff.1 (.head _)
   have e:x=y:=by
    refine hd x (.head _) y hy ?_
    have h1:x.From<=y.From:=by
     rcases List.mem_cons.1 hy with e|hy
     ·rw[e];omega
     ·exact ha2.1 y hy
    have h2:y.From<=x.From:=by
     rcases List.mem_cons.1 hx with e|hx
     ·rw[e];omega
     ·exact hb2.1 x hx
    omega
   subst e;rw[rp (List.Perm.cons_inv h) ha2.2 hb2.2 fun p hp q hq=>hd p (.tail _ hp) q (.tail _ hq)]
theorem E7 {a b:List Vt}(h:a.Perm b)(hd:∀x∈a,∀y∈a,x.From=y.From->x=y):iT a=iT b:=
 rp ((cO a).trans (h.trans (cO b).symm)) (kd a) (kd b) fun x hx y hy=>hd x ((cO a).mem_iff.1 hx) y ((cO a).mem_iff.1 hy)
theorem Ij {a b:List Vt}(h:a.Perm b)(hb:qy b)(hd:∀x∈a,∀y∈a,x.From=y.From->x=y):iT a=b:=
 rp ((cO a).trans h) (kd a) hb fun x hx y hy=>hd x ((cO a).mem_iff.1 hx) y ((cO a).mem_iff.1 hy)
def Ci (l:List Vt):Bool:=decide (l.length<=1000000/\∀x∈l,∀y∈l,x.From=y.From->x=y)
open Go.Proofs
theorem ob {α β:Type}{x:α}{f:α->Option β}:(some x).bind f=f x:=by
 have h:∀o:Option α,o=some x->o.bind f=f x:=by intro o e;subst e;rfl
 exact h _ Z
theorem ct {α:Sort _}{x y:α}:(bif true then x else y)=x:=by
 have h:∀b:Bool,b=true->(bif b then x else y)=x:=by intro o e;subst e;rfl
 exact h _ Z
theorem cf {α:Sort _}{x y:α}:(bif false then x else y)=y:=by
 have h:∀b:Bool,b=false->(bif b then x else y)=y:=by intro o e;subst e;rfl
 exact h _ Z
theorem sl {α β γ:Type}{f:α->γ}{g:β->γ}{x:α}:Sum.elim f g (.inl x)=f x:=by
 have h:∀s:α⊕β,s=.inl x->Sum.elim f g s=f x:=by intro o e;subst e;rfl
 exact h _ Z
theorem sr {α β γ:Type}{f:α->γ}{g:β->γ}{x:β}:Sum.elim f g (.inr x)=g x:=by
 have h:∀s:α⊕β,s=.inr x->Sum.elim f g s=g x:=by intro o e;subst e;rfl
 exact h _ Z
theorem bw {α β:Type}{step:α->Option (α⊕β)}(Inv:α->Prop)(m:α->Nat)(Post:β->Prop)
  (h:∀x,Inv x->(∃y,step x=some (.inl y)/\Inv y/\m y<m x)\/∃b,step x=some (.inr b)/\Post b):∀{n:Nat} {x:α},Inv x->m x<n->∃b,iter step n x=some b/\Post b:=by
 intro n
 induction n with
 |zero=>intro x _ hn;omega
 |succ n ih=>
  intro x hx hn;unfold iter;rcases h x hx with⟨y,h1,h2,h3⟩|⟨b,h1,h2⟩
  ·rw[h1];exact ih h2 (by omega)
  ·rw[h1];exact⟨b,rfl,h2⟩
theorem aw {α:Type}{l:List α}{n:Nat}{y:α}(h:l[n]?=some y):ix l (n:Int)=some y:=by
 unfold ix;rw[i1_ (by omega)];simpa using h
theorem KW {α:Type}{l:List α}{i:Int}{y:α}(h0:0<=i)(h:l[i.toNat]?=some y):ix l i=some y:=by
 unfold ix;rw[i1_ h0];exact h
theorem aA {α:Type}{l:List α}{n:Nat}(h:n<l.length:=by omega):∃y,l[n]?=some y/\y∈l:=⟨l[n],List.getElem?_eq_getElem h,List.getElem_mem h⟩
theorem ah {n:Nat}(h:n<4000000000:=by omega):IntKind.i64.wrap ((n:Int)+1)=((n+1:Nat):Int):=by
 rw[cR];omega
theorem aC {a b c:Nat}(h:a+b<=1000000:=by omega)(hc:c<=1000:=by omega):bG a b c=true:=by
 have:(a+b)*(c+1)<=1000000*1001:=Nat.mul_le_mul h (by omega);exact aQ (by omega)
theorem Mz {α:Type}{l:List α}{i:Int}(h0:0<=i)(h:i<=l.length):xp l 0 i=true:=aQ ⟨Int.le_refl _,h0,h⟩
theorem cj {n:Nat}(h:n<4000000000000000000:=by omega):n<aY:=by unfold aY;omega
theorem Df (a b:ID):((a.1==b.1)&&(a.2==b.2))=decide (a=b):=by rw[<-rV];simp
theorem Al (a:ID):((a.1==0)&&((a.2==0)&&true))=decide (a=(0,0)):=rV a (0,0)
theorem Nq {α:Sort _}{p:Prop}[Decidable p]{x y:α}:(bif decide p then x else y)=if p then x else y:=by by_cases h:p <;>simp[h]
theorem DA {α:Type}{f:α->PV}{O:α->Prop}{T:TS}(hf:∀p,tv T p->∃a,p=f a/\O a):∀{xs:List PV},(∀x∈xs,tv T x)->∃l:List α,xs=l.map f/\∀a∈l,O a
 |[],_=>⟨[],rfl,fun a h=>by simp at h⟩
 | x::xs,h=>by
  obtain⟨a,rfl,ha⟩:=hf x (h x (.head _));obtain⟨l,rfl,hl⟩:=DA hf fun y hy=>h y (.tail _ hy)
  exact⟨a::l,rfl,fun b hb=>by
   cases hb with
   |head=>exact ha
   |tail _ hb=>exact hl b hb⟩
theorem qU {α:Type}{f:α->PV}{O:α->Prop}{T:TS}{m:Nat}(hf:∀p,tv T p->∃a,p=f a/\O a){p:PV}(h:tv (.slice m T) p):∃l:List α,p=.slice m (l.map f)/\∀a∈l,O a:=by
 cases h with
 |slice h=>
  obtain⟨l,rfl,hl⟩:=DA hf h;exact⟨l,rfl,hl⟩
def kp (b:Bk):Prop:=aW .i64 b.Slot/\aW .i64 b.From/\aW .u64 b.Parent.1/\aW .u64 b.Parent.2/\aW .u64 b.Salt
def Nn (v:Vt):Prop:=aW .i64 v.From/\aW .i64 v.Slot/\aW .u64 v.Head.1/\aW .u64 v.Head.2
def Eh (v:ID):Prop:=aW .u64 v.1/\aW .u64 v.2
def P8 (c:Cf):Prop:=(∀w∈c.W,aW .i64 w)/\aW .u64 c.Seed/\aW .i64 c.Epoch/\aW .i64 c.Num/\aW .i64 c.Den
theorem O9 {p:PV}(h:tv (.agg [.int .i64,.int .i64,.int .u64,.int .u64,.int .u64]) p):∃c:Bk,p=ay c/\kp c:=by
 cases h with|agg h=>
 cases h with|cons a h=>cases h with|cons b h=>cases h with|cons c h=>cases h with|cons d h=>cases h with|cons e h=>
  cases h;cases a;cases b;cases c;cases d;cases e;exact⟨⟨_,_,(_,_),_⟩,rfl,by assumption,by assumption,by assumption,by assumption,by assumption⟩
theorem Pc {p:PV}(h:tv (.agg [.int .i64,.int .i64,.int .u64,.int .u64]) p):∃c:Vt,p=aO c/\Nn c:=by
 cases h with|agg h=>
 cases h with|cons a h=>cases h with|cons b h=>cases h with|cons c h=>cases h with|cons d h=>
  cases h;cases a;cases b;cases c;cases d;exact⟨⟨_,_,(_,_)⟩,rfl,by assumption,by assumption,by assumption,by assumption⟩
theorem MC {k:IntKind}{f:Int->PV}(hf:∀n,f n=.int k n){p:PV}(h:tv (.int k) p):∃n,p=f n/\aW k n:=by
 cases h with|int h=>exact⟨_,(hf _).symm,h⟩
theorem HJ {p:PV}(h:tv (.slice 1 (.int .i64)) p):∃l:List Int,p=.slice 1 (l.map be)/\∀a∈l,aW .i64 a:=qU (fun _ h=>MC (fun _=>rfl) h) h
theorem Pa {p:PV}(h:tv (.agg [.slice 1 (.int .i64),.int .u64,.int .i64,.int .i64,.int .i64]) p):∃c:Cf,p=gF c/\P8 c:=by
 cases h with|agg h=>
 cases h with|cons a h=>cases h with|cons b h=>cases h with|cons c h=>cases h with|cons d h=>cases h with|cons e h=>
  cases h;obtain⟨w,rfl,hw⟩:=HJ a;cases b;cases c;cases d;cases e;exact⟨⟨w,_,_,_,_⟩,rfl,hw,by assumption,by assumption,by assumption,by assumption⟩
theorem My {l:List Bk}(h:l.length<=1000):few l=true:=aQ h
section
variable {l : List Bk}
def rX (l:List Bk)(id:ID):Int:=match places l with
 |none=> -1
 |some m=>(ak m id).getD (-1)
def kH (l:List Bk)(id:ID):Int×Bool:=match places l with
 |none=>(0,false)
 |some m=>match ak m id with
  |none=>(0,false)
  |some i=>(cB l i,true)
def aZ (l:List Bk)(id:ID):List ID:=match places l with
 |none=>[]
 |some _=>(l.filter fun b=>decide (b.Parent=id)).map nm
theorem GF :MT l=some (places l).isSome:=by
 unfold MT;cases h:places l <;>rfl
theorem nM {m:List (ID×Int)}(h:places l=some m){id:ID}{i:Int}(hf:ak m id=some i):(i= -1/\id=(0,0))\/∃b,0<=i/\i<l.length/\l[i.toNat]?=some b/\nm b=id/\cB l i=b.Slot:=by
 rcases(bc h).known _ _ hf with h1|⟨b,p,h0,h1,h2,h3,-⟩
 ·exact .inl h1
 ·exact .inr ⟨b,h0,h1,h2,h3,by simp[cB,h2,show¬i= -1 by omega]⟩
theorem sU {n:Nat}{y:Bk}(hy:l[n]?=some y)(id:ID):((l.take (n+1)).filter fun b=>decide (b.Parent=id)).map nm=((l.take n).filter fun b=>decide (b.Parent=id)).map nm++if y.Parent=id then[nm y]else[]:=by
 rw[List.take_add_one,hy,List.filter_append,List.map_append];by_cases h:y.Parent=id <;>simp[h]
theorem EH {n:Nat}{y:Bk}{out:List ID}{id:ID}{v:ID}(hl:l.length<=1000)(hn:n<l.length)(hy:l[n]?=some y)(ho:out.length<=n)(hv:nm y=v) :
  rF l id ⟨n,out⟩=some (.inl ⟨IntKind.i64.wrap ((n:Int)+1),out++if y.Parent=id then[v]else[]⟩):=by
 simp only[rF];rw[aQ (show(n:Int)<(l.length:Int) by omega),aw hy];simp only[ct,ob,hv,rV];rw[aC (by simp;omega)];by_cases h:y.Parent=id
 ·rw[aQ h,i1_ h];rfl
 ·rw[aR h,i0_ h,List.append_nil];rfl
theorem Ll (hl:l.length<=1000)(id:ID):M8 l id=some (aZ l id):=by
 simp only[M8,GF,ob];unfold aZ
 cases h:places l with
 |none=>rfl
 |some m=>
 simp only[Option.isSome_some,Bool.not_true,cf]
 have key:=bw (step:=rF l id) (fun x=>∃n:Nat,x.t13=n/\n<=l.length/\x.out=((l.take n).filter fun b=>decide (b.Parent=id)).map nm)
  (fun x=>l.length-x.t13.toNat) (fun b=>b.out=(l.filter fun b=>decide (b.Parent=id)).map nm) (by
   rintro⟨i,out⟩ ⟨n,rfl,hn,ho⟩;simp only at ho⊢;by_cases hlt:n<l.length
   case neg=>
    right;refine⟨⟨n,out⟩,?_,?_⟩
    ·simp only[rF];rw[aR (by omega)];rfl
    ·rw[ho,List.take_of_length_le (by omega)]
   obtain⟨y,hy,-⟩:=aA hlt;left
   have hol:out.length<=n:=by
    rw[ho,List.length_map];exact Nat.le_trans (List.length_filter_le _ _) (by simp;omega)
   refine⟨_,EH hl hlt hy hol rfl,⟨n+1,ah (n:=n),by omega,?_⟩,?_⟩
   ·rw[sU hy,<-ho]
   ·simp only[ah (show n<4000000000 by omega)];omega) (x:=⟨0,[]⟩) ⟨0,rfl,Nat.zero_le _,by simp⟩ (n:=aY) (cj (by simp only;omega))
 obtain⟨b,hb,hpost⟩:=key;simp only[hb,ob,hpost]
end
def mh (l:List Bk):Nat->List (ID×Int)
 |0=>[((0,0),-1)]
 |n+1=>match l[n]? with
  |some b=>mh l n++[(nm b,(n:Int))]
  |none=>mh l n
theorem xq {a:List ID}{x id:ID}:ap (a++[x]) id=if 0<=ap a id then ap a id else if x=id then a.length else -1:=by
 rcases ft (l:=a) (v:=id)with⟨h1,h2⟩|⟨i,h1,h2,h3⟩
 ·rw[i0_ (by omega)];by_cases hx:x=id
  ·subst hx;rw[i1_ rfl];refine jU (i:=a.length) (by simp) fun j hj e=>h2 ?_;rw[List.getElem?_append_left hj]at e;exact List.mem_of_getElem? e
  ·rw[i0_ hx];refine ji fun j hj e=>?_;have:=List.mem_of_getElem? e;simp only[List.mem_append,List.mem_singleton]at this;rcases this with h|h
   ·exact h2 h
   ·exact hx h.symm
 ·rw[h1,i1_ (by omega)];have hi:=(List.getElem?_eq_some_iff.1 h2).1;refine jU (by rw[List.getElem?_append_left hi];exact h2) fun j hj=>?_;rw[List.getElem?_append_left (by omega)];exact h3 j hj
theorem nP {l:List Bk}(id:ID):∀n,n<=l.length->ak (mh l n) id=if id=(0,0)then some (-1)else if 0<=ap ((l.take n).map nm) id then some (ap ((l.take n).map nm) id)else none
 |0,_=>by
  have:ap ((l.take 0).map nm) id= -1:=by simp[ap]
  simp only[mh,ak,this];by_cases h:id=(0,0)
  ·subst h;simp
  ·rw[i0_ (fun e=>h e.symm),i0_ h,i0_ (by omega)]
 | n+1,hn=>by
  obtain⟨b,hb,-⟩:=aA (l:=l) (n:=n);have ih:=nP (l:=l) id n (by omega);simp only[mh,hb];rw[gL,ih,List.take_add_one,hb];simp only[Option.toList,List.map_append,List.map_cons,List.map_nil];rw[xq];by_cases h:id=(0,0)
  ·rw[i1_ h,i1_ h];rfl
  ·rw[i0_ h,i0_ h];by_cases h2:0<=ap ((l.take n).map nm) id
   ·rw[i1_ h2,i1_ h2,i1_ h2];rfl
   ·rw[i0_ h2,i0_ h2];by_cases h3:nm b=id
    ·rw[i1_ h3,i1_ h3,i1_ (by omega)];simp;omega
    ·rw[i0_ h3,i0_ h3,i0_ (by omega)];rfl
theorem AL {l:List Bk}{n:Nat}{id:ID}(h:0<=ap ((l.take n).map nm) id):∃(j:Nat) (b:Bk),ap ((l.take n).map nm) id=j/\j<n/\l[j]?=some b/\nm b=id:=by
 rcases ft (l:=(l.take n).map nm) (v:=id)with⟨h1,h2⟩|⟨i,h1,h2,h3⟩
 ·omega
 ·have hi:=(List.getElem?_eq_some_iff.1 h2).1;simp only[List.length_map,List.length_take]at hi;rw[List.getElem?_map,List.getElem?_take_of_lt (by omega)]at h2
  cases hb:l[i]? with
  |none=>rw[hb]at h2;simp at h2
  |some b=>rw[hb]at h2;simp at h2;exact⟨i,b,h1,by omega,hb,h2⟩
theorem Cb {l:List Bk}:∀(r n:Nat),l.length-n=r->n<=l.length->∀m,dt l (l.drop n) n (mh l n)=some m->m=mh l l.length:=by
 intro r
 induction r with
 |zero=>
  intro n hr hn m h
  have:n=l.length:=by omega
  subst this;rw[List.drop_length]at h;cases h;rfl
 | succ r ih=>
  intro n hr hn m h;obtain⟨y,hy,-⟩:=aA (l:=l) (n:=n);rw[ea hy]at h;split at h
  ·cases h
  ·split at h
   ·cases h
   ·split at h
    ·cases h
    ·refine ih (n+1) (by omega) (by omega) m ?_
     have e:mh l (n+1)=mh l n++[(nm y,(n:Int))]:=by simp only[mh,hy]
     rw[e];exact h
theorem wA {l:List Bk}{m:List (ID×Int)}(h:places l=some m):m=mh l l.length:=Cb l.length 0 (by omega) (Nat.zero_le _) m h
theorem mF {l:List Bk}{m:List (ID×Int)}(h:places l=some m)(id:ID) :
  ak m id=if id=(0,0)then some (-1)else if 0<=ap (l.map nm) id then some (ap (l.map nm) id)else none:=by
 have:=nP (l:=l) id l.length (Nat.le_refl _);rw[List.take_length]at this;rw[wA h];exact this
theorem p6 {l:List Bk}{m:List (ID×Int)}(h:places l=some m):ap (l.map nm) (0,0)= -1:=by
 rcases ft (l:=l.map nm) (v:=(0,0))with⟨h1,-⟩|⟨i,h1,h2,-⟩
 ·exact h1
 ·rw[List.getElem?_map]at h2
  cases hb:l[i]? with
  |none=>rw[hb]at h2;cases h2
  |some b=>
   rw[hb]at h2;have hi:=(List.getElem?_eq_some_iff.1 hb).1;have h3:=(bc h).names i b hi hb;have h4:=(bc h).zero;simp only[Option.map_some,Option.some.injEq]at h2;rw[h2,h4]at h3;cases h3
theorem MA {x:Int}(h0:0<=x)(h1:x<=18446744073709551615):O7 x=18446744073709551615-x:=by
 obtain⟨n,rfl⟩:∃n:Nat,x=n:=⟨x.toNat,by omega⟩;have e:O7 (n:Int)=IntKind.u64.wrap ((BitVec.ofInt 64 18446744073709551615 ^^^ BitVec.ofInt 64 (n:Int)).toNat:Int):=rfl
 have e2:BitVec.ofInt 64 18446744073709551615=BitVec.allOnes 64:=by decide
 rw[e,e2,BitVec.allOnes_xor,BitVec.toNat_not]
 have e3:(BitVec.ofInt 64 (n:Int)).toNat=n:=by
  rw[BitVec.toNat_ofInt];omega
 rw[e3,gR];omega
theorem AE (op:BinOp)(k:IntKind)(a b:Int):aW k (bits op k a b):=cP k _
theorem Kj (x:Int):aW .u64 (MO x):=AE .xor .u64 _ _
theorem tH (h x:Int):aW .u64 (step h x):=Kj _
theorem mj (h x:Int):tM h x=some (step h x):=rfl
theorem rD (x:Int):0<=IntKind.u64.wrap x/\IntKind.u64.wrap x<=18446744073709551615:=cP .u64 x
theorem IS {l:List Int}(h:∀x∈l,aW .u64 x)(hl:l.length<=1000):Fo l=some (rc l):=by
 have key:=bw (step:=n8 l)
  (fun x=>∃n:Nat,x.i=n/\n<=l.length+1/\(x.a,x.b)=if n<=l.length then(l.take n).foldl jm (1,2)else rc l)
  (fun x=>l.length+1-x.i.toNat) (fun b=>(b.a,b.b)=rc l) (by
   rintro⟨a,b,i⟩ ⟨n,rfl,hn,hab⟩;simp only at hab⊢
   have put:∀v:Int,0<=v->v<=18446744073709551615->n<=l.length->(∀f:Int->Option (jd⊕jd),(bif decide ((n:Int)<(l.length:Int))then(ix l (n:Int)).bind fun y1=>some y1 else some (IntKind.u64.wrap ((l.length:Int)))).bind f=f v)->
     jm (a,b) v=(if n+1<=l.length then(l.take (n+1)).foldl jm (1,2)else rc l)->
     ∃y,n8 l ⟨a,b,n⟩=some (.inl y)/\(∃n':Nat,y.i=n'/\n'<=l.length+1/\(y.a,y.b)=if n'<=l.length then(l.take n').foldl jm (1,2)else rc l)/\l.length+1-y.i.toNat<l.length+1-n:=by
    intro v h0 h1 hle hv hm;refine⟨⟨step a v,step b (O7 v),IntKind.i64.wrap (n+1)⟩,?_,⟨n+1,ah (n:=n),by omega,hm⟩,?_⟩
    ·simp only[n8];rw[aQ (show(n:Int)<=(l.length:Int) by omega),ct,hv];simp only[mj,ob];rw[MA h0 h1,gR]
    ·simp only[ah (show n<4000000000 by omega)];omega
   rcases Nat.lt_trichotomy n l.length with hlt|heq|hgt
   ·left;obtain⟨y,hy,hmem⟩:=aA hlt;have:=h y hmem;refine put y this.1 this.2 (by omega) (fun f=>by rw[aQ (show(n:Int)<(l.length:Int) by omega),aw hy];rfl) ?_;rw[hab,i1_ (by omega),i1_ (by omega),List.take_add_one,hy,List.foldl_append];rfl
   ·left;refine put (IntKind.u64.wrap (l.length:Int)) (rD _).1 (rD _).2 (by omega) (fun f=>by rw[aR (show¬(n:Int)<(l.length:Int) by omega)];rfl) ?_;rw[hab,i1_ (by omega),i0_ (by omega),heq,List.take_length];rfl
   ·right;refine⟨⟨a,b,n⟩,?_,?_⟩
    ·simp only[n8];rw[aR (show¬(n:Int)<=(l.length:Int) by omega)];rfl
    ·rw[hab,i0_ (by omega)]) (x:=⟨1,2,0⟩) ⟨0,rfl,Nat.zero_le _,by simp⟩ (n:=aY) (cj (by simp only;omega))
 obtain⟨b,hb,hpost⟩:=key;simp only[Fo,hb,ob,hpost]
theorem wR {b:Bk}(h:kp b):Km b=some (nm b):=by
 simp only[Km];rw[show[1,IntKind.u64.wrap b.Slot,IntKind.u64.wrap b.From,b.Parent.1,b.Parent.2,b.Salt]=lW b from rfl,IS ?_ (by simp[lW])]
 ·rfl
 ·intro x hx;simp only[lW,List.mem_cons,List.not_mem_nil,or_false]at hx;rcases hx with rfl|rfl|rfl|rfl|rfl|rfl
  ·exact⟨by decide,by decide⟩
  ·exact rD _
  ·exact rD _
  ·exact h.2.2.1
  ·exact h.2.2.2.1
  ·exact h.2.2.2.2
theorem rK {names:List ID}{id:ID}(hl:names.length<=4000):C0 names id=some (ap names id):=by
 have key:=bw (step:=rL names id) (fun x=>∃n:Nat,x.i=n/\n<=names.length/\∀j,j<n->names[j]?≠some id)
  (fun x=>names.length-x.i.toNat) (fun b=>(∃v,b=.inl v/\ap names id= -1)\/∃r,b=.inr r/\ap names id=r) (by
   rintro⟨i⟩ ⟨n,rfl,hn,hno⟩;simp only;by_cases hlt:n<names.length
   case neg=>
    right;refine⟨.inl ⟨n⟩,?_,.inl ⟨_,rfl,ji fun j hj=>hno j (by omega)⟩⟩;simp only[rL];rw[aR (by omega)];rfl
   obtain⟨y,hy,-⟩:=aA hlt;by_cases he:y=id
   ·right;refine⟨.inr n,?_,.inr ⟨_,rfl,jU (he▸hy) hno⟩⟩;simp only[rL];rw[aQ (show(n:Int)<(names.length:Int) by omega),aw hy];simp[Df,he]
   ·left;refine⟨⟨IntKind.i64.wrap (n+1)⟩,?_,⟨n+1,ah (n:=n),by omega,fun j hj=>?_⟩,?_⟩
    ·simp only[rL];rw[aQ (show(n:Int)<(names.length:Int) by omega),aw hy];simp[Df,he]
    ·rcases Nat.lt_succ_iff_lt_or_eq.1 hj with h|h
     ·exact hno j h
     ·subst h;rw[hy];simpa using he
    ·simp only[ah (show n<4000000000 by omega)];omega) (x:=⟨0⟩) ⟨0,rfl,Nat.zero_le _,fun j hj=>by omega⟩ (n:=aY) (cj (by simp only;omega))
 obtain⟨b,hb,hpost⟩:=key;simp only[C0,hb,ob];rcases hpost with⟨v,rfl,h⟩|⟨r,rfl,h⟩
 ·simp[h]
 ·simp[h]
def kZ (l:List Bk):Prop:=∀b∈l,kp b
theorem wW {l:List Bk}(h:kZ l)(hl:l.length<=1000):Ko l=some (l.map nm):=by
 have key:=bw (step:=uc l) (fun x=>∃n:Nat,x.i=n/\n<=l.length/\x.out=(l.take n).map nm)
  (fun x=>l.length-x.i.toNat) (fun b=>b.out=l.map nm) (by
   rintro⟨i,out⟩ ⟨n,rfl,hn,ho⟩;simp only at ho⊢;by_cases hlt:n<l.length
   case neg=>
    right;refine⟨⟨n,out⟩,?_,?_⟩
    ·simp only[uc];rw[aR (by omega)];rfl
    ·rw[ho,List.take_of_length_le (by omega)]
   obtain⟨y,hy,hmem⟩:=aA hlt;left;refine⟨⟨IntKind.i64.wrap (n+1),out++[nm y]⟩,?_,⟨n+1,ah (n:=n),by omega,?_⟩,?_⟩
   ·simp only[uc];rw[aQ (show(n:Int)<(l.length:Int) by omega),aw hy];simp only[ct,ob,wR (h y hmem)];rw[aC (by rw[ho];simp;omega)];rfl
   ·rw[ho,List.take_add_one,hy];simp
   ·simp only[ah (show n<4000000000 by omega)];omega) (x:=⟨0,[]⟩) ⟨0,rfl,Nat.zero_le _,by simp⟩ (n:=aY) (cj (by simp only;omega))
 obtain⟨b,hb,hpost⟩:=key;simp only[Ko,hb,ob,hpost]
theorem eR {l:List Bk}{n:Nat}{y:Bk}(hy:l[n]?=some y)(h:dt l (l.drop n) n (mh l n)=places l)
  (hbad:ak (mh l n) y.Parent=none\/(∃p,ak (mh l n) y.Parent=some p/\y.Slot<=cB l p)\/∃p,ak (mh l n) y.Parent=some p/\∃q,ak (mh l n) (nm y)=some q):places l=none:=by
 rw[<-h,ea hy];rcases hbad with h1|⟨p,h1,h2⟩|⟨p,h1,q,h2⟩
 ·rw[h1]
 ·rw[h1];simp[h2]
 ·rw[h1,h2];simp
theorem AX {l:List Bk}{n:Nat}{y:Bk}{p:Int}(hy:l[n]?=some y)(h:dt l (l.drop n) n (mh l n)=places l)
  (h1:ak (mh l n) y.Parent=some p) (h2:¬y.Slot<=cB l p) (h3:ak (mh l n) (nm y)=none):dt l (l.drop (n+1)) (n+1) (mh l (n+1))=places l:=by
 rw[<-h,ea hy,h1,h3];simp[h2,mh,hy]
theorem GQ {l:List Bk}{names:List ID}{n:Nat}{y:Bk}{v:ID}(hn:n<l.length)(hlen:names.length<=4000)(hy:l[n]?=some y)(hv:names[n]?=some v):rJ l names ⟨n⟩ =
  if v=(0,0)\/ap (names.take n) v>=0\/y.Slot<1 then some (.inr (.inr false))
  else if y.Parent=(0,0)then some (.inl ⟨IntKind.i64.wrap ((n:Int)+1)⟩)
  else if ap (names.take n) y.Parent<0 then some (.inr (.inr false))
  else(ix l (ap (names.take n) y.Parent)).bind fun y4=>if y4.Slot>=y.Slot then some (.inr (.inr false))else some (.inl ⟨IntKind.i64.wrap ((n:Int)+1)⟩):=by
 have hnl:=(List.getElem?_eq_some_iff.1 hv).1;have e98:∀id,C0 (names.take n) id=some (ap (names.take n) id):=fun id=>rK (by simp;omega);simp only[rJ];rw[aQ (show(n:Int)<(l.length:Int) by omega),aw hy,Mz (show(0:Int)<=(n:Int) by omega) (by omega),Int.toNat_natCast];simp only[ct,ob,aw hv,e98];simp only[Al]
 have tail:(bif decide (y.Parent=(0,0))then(some (.inl (gJ.mk (IntKind.i64.wrap ((n:Int)+1)))):Option (gJ⊕(gJ⊕Bool)))
   else bif decide (ap (names.take n) y.Parent<0)then some (.inr (.inr false))
   else(ix l (ap (names.take n) y.Parent)).bind fun y4=>bif decide (y4.Slot>=y.Slot)then some (.inr (.inr false))else some (.inl (gJ.mk (IntKind.i64.wrap ((n:Int)+1))))) =
   if y.Parent=(0,0)then some (.inl ⟨IntKind.i64.wrap ((n:Int)+1)⟩)
   else if ap (names.take n) y.Parent<0 then some (.inr (.inr false))
   else(ix l (ap (names.take n) y.Parent)).bind fun y4=>if y4.Slot>=y.Slot then some (.inr (.inr false))else some (.inl ⟨IntKind.i64.wrap ((n:Int)+1)⟩):=by
  simp only[Nq]
 rw[tail];by_cases h1:v=(0,0)
 ·rw[aQ h1,i1_ (show v=(0,0)\/ap (names.take n) v>=0\/y.Slot<1 from .inl h1)];rfl
 ·rw[aR h1];by_cases h2:ap (names.take n) v>=0
  ·rw[aQ h2,i1_ (show v=(0,0)\/ap (names.take n) v>=0\/y.Slot<1 from .inr (.inl h2))];rfl
  ·rw[aR h2];by_cases h3:y.Slot<1
   ·rw[aQ h3,i1_ (show v=(0,0)\/ap (names.take n) v>=0\/y.Slot<1 from .inr (.inr h3))];rfl
   ·rw[aR h3,i0_ (show¬(v=(0,0)\/ap (names.take n) v>=0\/y.Slot<1) by rintro(h|h|h) <;>contradiction)];rfl
theorem Bv {l:List Bk}(hl:l.length<=1000):MZ l (l.map nm)=some (places l).isSome:=by
 have key:=bw (step:=rJ l (l.map nm))
  (fun x=>∃n:Nat,x.i=n/\n<=l.length/\dt l (l.drop n) n (mh l n)=places l/\∀j b,j<n->l[j]?=some b->1<=b.Slot)
  (fun x=>l.length-x.i.toNat) (fun b=>(∃v,b=.inl v/\(places l).isSome=true)\/(b=.inr false/\places l=none)) (by
   rintro⟨i⟩ ⟨n,rfl,hn,hgo,hslots⟩;simp only;by_cases hlt:n<l.length
   case neg=>
    right;refine⟨.inl ⟨n⟩,?_,.inl ⟨_,rfl,?_⟩⟩
    ·simp only[rJ];rw[aR (by omega)];rfl
    ·rw[<-hgo,List.drop_eq_nil_of_le (by omega)];rfl
   obtain⟨y,hy,-⟩:=aA hlt
   have hyn:(l.map nm)[n]?=some (nm y):=by rw[List.getElem?_map,hy];rfl
   have hstep:=GQ hlt (by simp;omega) hy hyn;rw[<-List.map_take]at hstep;generalize hv:nm y=v at hstep;generalize hN:(l.take n).map nm=N at hstep;have hname:=nP (l:=l) v n (by omega);have hpar:=nP (l:=l) y.Parent n (by omega)
   have hms:∀{id:ID},0<=ap N id->∃(j:Nat) (b:Bk),ap N id=j/\j<n/\l[j]?=some b:=fun h=>by
    subst hN;obtain⟨j,b,h1,h2,h3,-⟩:=AL h;exact⟨j,b,h1,h2,h3⟩
   rw[hN]at hname hpar
   -- is its name bad, or its slot?
   by_cases hbad:v=(0,0)\/ap N v>=0\/y.Slot<1
   ·right;refine⟨.inr false,?_,.inr ⟨rfl,?_⟩⟩
    ·rw[hstep,i1_ hbad]
    ·cases hp:ak (mh l n) y.Parent with
     |none=>exact eR hy hgo (.inl hp)
     | some p=>
      by_cases h1:v=(0,0)
      ·exact eR hy hgo<|.inr<|.inr ⟨p,hp,-1,by rw[hv,hname,i1_ h1]⟩
      by_cases h2:0<=ap N (v)
      ·exact eR hy hgo<|.inr<|.inr ⟨p,hp,_,by rw[hv,hname,i0_ h1,i1_ h2]⟩
      have h3:y.Slot<1:=by rcases hbad with h|h|h <;>first|exact absurd h h1|exact absurd h h2|exact h
      refine eR hy hgo<|.inr<|.inl ⟨p,hp,?_⟩;rw[hpar]at hp;split at hp
      ·cases hp;simp[cB];omega
      ·split at hp
       ·rename_i h4;obtain⟨j,b,h5,h6,h7⟩:=hms h4;cases hp;rw[h5];have:=hslots j b h6 h7;simp[cB,h7,show¬((j:Int)= -1) by omega];omega
       ·cases hp
   have hnot:=not_or.1 hbad;have h1:=hnot.1;have h2:=(not_or.1 hnot.2).1;have h3:=(not_or.1 hnot.2).2;rw[i0_ hbad]at hstep;rw[hstep]
   have hno:ak (mh l n) (v)=none:=by rw[hname,i0_ h1,i0_ h2]
   have goOn:∀p,ak (mh l n) y.Parent=some p->¬y.Slot<=cB l p->∃n':Nat,(gJ.mk (IntKind.i64.wrap ((n:Int)+1))).i=n'/\n'<=l.length/\dt l (l.drop n') n' (mh l n')=places l/\∀j b,j<n'->l[j]?=some b->1<=b.Slot:=by
    intro p hp hs;refine⟨n+1,ah (n:=n),by omega,AX hy hgo hp hs (by rw[hv];exact hno),fun j b hj hb=>?_⟩;rcases Nat.lt_succ_iff_lt_or_eq.1 hj with h|h
    ·exact hslots j b h hb
    ·subst h;rw[hy]at hb;cases hb;omega
   have hmeas:l.length-(gJ.mk (IntKind.i64.wrap ((n:Int)+1))).i.toNat<l.length-((n:Int)).toNat:=by
    simp only[ah (show n<4000000000 by omega)];omega
   by_cases hz:y.Parent=(0,0)
   ·left;rw[hpar,i1_ hz]at goOn;refine⟨_,by rw[i1_ hz],goOn (-1) Z (by simp[cB];omega),hmeas⟩
   rw[i0_ hz];by_cases hk:0<=ap N y.Parent
   case neg=>
    right;refine⟨.inr false,by rw[i1_ (by omega)],.inr ⟨rfl,eR hy hgo (.inl ?_)⟩⟩;rw[hpar,i0_ hz,i0_ hk]
   obtain⟨j,b,h5,h6,h7⟩:=hms hk
   have hp:ak (mh l n) y.Parent=some (j:Int):=by rw[hpar,i0_ hz,i1_ hk,h5]
   have hsl:cB l (j:Int)=b.Slot:=by simp[cB,h7,show¬((j:Int)= -1) by omega]
   rw[i0_ (by omega),h5,aw h7];simp only[ob];by_cases hs:b.Slot>=y.Slot
   ·right;refine⟨.inr false,by rw[i1_ hs],.inr ⟨rfl,eR hy hgo (.inr (.inl ⟨_,hp,by rw[hsl];exact hs⟩))⟩⟩
   ·left
    exact⟨_,by rw[i0_ hs],goOn _ hp (by rw[hsl];exact hs),hmeas⟩) (x:=⟨0⟩) ⟨0,rfl,Nat.zero_le _,rfl,fun j b hj=>by omega⟩ (n:=aY) (cj (by simp only;omega))
 obtain⟨b,hb,hpost⟩:=key;simp only[MZ,hb,ob];rcases hpost with⟨v,rfl,h⟩|⟨rfl,h⟩
 ·simp[h]
 ·simp[h]
theorem JE {x:Int}(h0:0<=x)(h1:x<=18446744073709551615):bits .and .u64 x 1=x.tmod 2:=by
 obtain⟨n,rfl⟩:∃n:Nat,x=n:=⟨x.toNat,by omega⟩;have e:bits .and .u64 (n:Int) 1=IntKind.u64.wrap ((BitVec.ofInt 64 (n:Int) &&& BitVec.ofInt 64 1).toNat:Int):=rfl
 have e2:(BitVec.ofInt 64 1).toNat=1:=by decide
 have e3:(BitVec.ofInt 64 (n:Int)).toNat=n:=by
  rw[BitVec.toNat_ofInt];omega
 rw[e,BitVec.toNat_and,e2,e3,Nat.and_one_is_mod,gR];rfl
def Pl (n i:Int):Prop:=1<=n/\n<=1000/\0<=i/\i<n
instance (n i:Int):Decidable (Pl n i):=inferInstanceAs (Decidable (_/\_))
theorem Id {seed n r:Int}(h1:1<=n)(h2:n<=1000):0<=en seed n r/\en seed n r<n/\en seed n r=IntKind.i64.wrap ((step seed (IntKind.u64.wrap r)).tmod (IntKind.u64.wrap n)):=by
 have hs:=(tH seed (IntKind.u64.wrap r)).1;have hs':0<=step seed (IntKind.u64.wrap r):=hs;unfold en;rw[gR (n:=n),Int.tmod_eq_emod_of_nonneg hs'];have a:=Int.emod_nonneg (step seed (IntKind.u64.wrap r)) (show n≠0 by omega);have b:=Int.emod_lt_of_pos (step seed (IntKind.u64.wrap r)) (show 0<n by omega);rw[cR];exact⟨a,b,rfl⟩
theorem J4 {seed n r i:Int}(h:Pl n i):fw seed n r i=(en seed n r+n-i) % n:=by
 obtain⟨h1,h2,h3,h4⟩:=h;have hp:=Id (seed:=seed) (r:=r) h1 h2;unfold fw;rw[cR (n:=en seed n r+n),cR,Int.tmod_eq_emod_of_nonneg (by omega)]
theorem J5 {seed n r i:Int}(h:Pl n i):Pl n (fw seed n r i):=by
 rw[J4 h];obtain⟨h1,h2,h3,h4⟩:=h;exact⟨h1,h2,Int.emod_nonneg _ (by omega),Int.emod_lt_of_pos _ (by omega)⟩
theorem Kf {seed n r i:Int}(h:Pl n i):Pl n (nZ seed n r i):=by
 unfold nZ;cases vf seed n r i
 ·exact h
 ·exact J5 h
def rt (seed n i:Int):Nat->Int
 |0=>i
 |k+1=>nZ seed n k (rt seed n i k)
theorem K4 {seed n i:Int}(h:Pl n i):∀k,Pl n (rt seed n i k)
 |0=>h
 |k+1=>Kf (K4 h k)
def Cm (seed n i:Int):Int:=rt seed n i 10
theorem CA (n i:Int):DU n i=some (decide (Pl n i)):=by
 unfold DU;by_cases h1:n>0
 ·rw[aQ h1,ct];by_cases h2:n<=1000
  ·rw[aQ h2,ct];by_cases h3:i>=0
   ·rw[aQ h3,ct];congr 1;exact decide_eq_decide.2 ⟨fun h=>⟨by omega,h2,h3,h⟩,fun h=>h.2.2.2⟩
   ·rw[aR h3,cf,aR (fun h=>h3 h.2.2.1)]
  ·rw[aR h2,cf,aR (fun h=>h2 h.2.1)]
 ·rw[aR h1,cf,aR (fun h=>h1 (by have:=h.1;omega))]
theorem IU (n i:Int):Fr n i=some (decide (Pl n i)):=by
 rw[<-CA];unfold DU Fr;by_cases h1:n>0
 ·rw[aQ h1,aQ (show n>=1 by omega)]
 ·rw[aR h1,aR (show¬n>=1 by omega)]
theorem Fc {n i r:Int}(h:Pl n i)(h0:0<=r)(h1:r<10):vg n r=true:=
 aQ ⟨by have:=h.1;omega,by have:=h.1;have:=h.2.1;rw[gR];omega,h0,h1⟩
theorem IT {seed n i:Int}{d:Dk}(h:Pl n i)(hk0:0<=d.k)(hk1:d.k<=100000):∃d',Fp seed n i d=some (Cm seed n i,d')/\d'.k=d.k+10:=by
 have key:=@bw _ _ (tr seed n) (fun x=>∃j:Nat,j<=10/\x.t6=j/\x.i=rt seed n i j/\x.d.k=d.k+j) (fun x=>11-x.t6.toNat) (fun b=>b.i=Cm seed n i/\b.d.k=d.k+10) (by
  rintro⟨a,t,dd⟩ ⟨j,hj,rfl,ha,hd⟩;simp only at ha hd;subst ha;by_cases hlt:j<10
  ·left
   refine⟨_,by
    simp only[tr]
    rw[aQ (show(j:Int)<10 by omega),ct,Fc h (by omega) (by omega),ct],⟨j+1,by omega,ah (n:=j),rfl,?_⟩,?_⟩
   ·show IntKind.i64.wrap (dd.k+1)=_;rw[hd,cR];omega
   ·simp only[ah (show j<4000000000 by omega)];omega
  ·right
   obtain rfl:j=10:=by omega
   exact⟨_,rfl,rfl,hd⟩)
 obtain⟨b,hb,h1,h2⟩:=key (n:=aY) (x:=⟨i,0,d⟩) ⟨0,by omega,rfl,rfl,by simp⟩ (cj);refine⟨b.d,?_,h2⟩;unfold Fp;rw[hb,ob,h1]
def Qb (seed n i:Int):Int:=if Pl n i then Cm seed n i else -1
theorem IV {seed n r i:Int}(h:Pl n i)(_:0<=r)(_:r<10):Fs seed n r i=some (nZ seed n r i):=by
 unfold Fs;have hn:=h.1;have hn2:=h.2.1;have hz:decide (IntKind.u64.wrap n≠0)=true:=aQ (by rw[gR];omega);have hz2:decide (n≠0)=true:=aQ (by omega);have hm:IntKind.i64.wrap ((step seed (IntKind.u64.wrap r)).tmod (IntKind.u64.wrap n))=en seed n r:=rfl;rw[mj,ob,hz,ct,hz2,ct,hm];have hm2:(IntKind.i64.wrap (IntKind.i64.wrap (en seed n r+n)-i)).tmod n=fw seed n r i:=rfl;rw[hm2]
 have e:(bif decide (fw seed n r i>i)then some (fw seed n r i)else some i)=some (if fw seed n r i>i then fw seed n r i else i):=by
  rw[Nq];split <;>rfl
 rw[e,ob,mj,ob,mj,ob];have hs:=tH (step seed (IntKind.u64.wrap (IntKind.i64.wrap (1000+r)))) (IntKind.u64.wrap (if fw seed n r i>i then fw seed n r i else i));rw[<-JE hs.1 hs.2];show(bif vf seed n r i then some (fw seed n r i)else some i)=some (bif vf seed n r i then fw seed n r i else i);cases vf seed n r i <;>rfl
theorem Lo (seed n i:Int):M9 seed n i=some (Qb seed n i):=by
 unfold M9 Qb;rw[IU,ob];by_cases h:Pl n i
 ·rw [aQ h,i1_ h]
  have key:=@bw _ _ (wS seed n) (fun x=>∃j:Nat,j<=10/\x.r=j/\x.i=rt seed n i j) (fun x=>11-x.r.toNat) (fun b=>b.i=Cm seed n i) (by
   rintro⟨a,t⟩ ⟨j,hj,rfl,ha⟩;simp only at ha;subst ha;by_cases hlt:j<10
   ·left
    refine⟨_,by
     simp only[wS]
     rw[aQ (show(j:Int)<10 by omega),ct,IV (K4 h j) (by omega) (by omega),ob],⟨j+1,by omega,ah (n:=j),rfl⟩,?_⟩
    simp only[ah (show j<4000000000 by omega)];omega
   ·right
    obtain rfl:j=10:=by omega
    exact⟨_,rfl,rfl⟩)
  obtain⟨b,hb,h1⟩:=key (n:=aY) (x:=⟨i,0⟩) ⟨0,by omega,rfl,rfl⟩ (cj);rw[Bool.not_true,cf,hb,ob,h1]
 ·rw[aR h,i0_ h];rfl
def kC (seed n:Int)(k:Nat):List Int:=(List.range k).map fun j:Nat=>Cm seed n j
def wz (seed n:Int):List Int:=if 1<=n/\n<=1000 then kC seed n n.toNat else[]
theorem sw (seed n:Int)(k:Nat):(kC seed n k).length=k:=by simp[kC]
theorem Ca (seed n:Int)(k:Nat):kC seed n (k+1)=kC seed n k++[Cm seed n k]:=by simp[kC,List.range_succ]
theorem EU {seed n:Int}{k j:Nat}(h:j<k):(kC seed n k)[j]?=some (Cm seed n j):=by simp[kC,h]
theorem Kc {A:List Int}{m:Nat}{v z:Int}:(A++List.replicate (m+1) z).set A.length v=(A++[v])++List.replicate m z:=by
 rw[List.set_append_right _ _ (Nat.le_refl _),Nat.sub_self,List.replicate_succ];simp
theorem Lp (seed n:Int):Na seed n=some (wz seed n):=by
 unfold Na wz;rw[CA,ob];by_cases h:1<=n/\n<=1000
 ·obtain⟨h1,h2⟩:=h;have hp:Pl n 0:=⟨h1,h2,by omega,by omega⟩;rw[aQ hp,i1_ ⟨h1,h2⟩,Bool.not_true,cf,show EN n 8=true from aQ ⟨by omega,by omega,by omega⟩,ct]
  have key:=@bw _ _ (t7 seed n) (fun x=>∃j:Nat,j<=n.toNat/\x.t19=j/\x.d.k=10*(j:Int)/\x.l=kC seed n j++List.replicate (n.toNat-j) 0) (fun x=>n.toNat+1-x.t19.toNat) (fun b=>b.l=kC seed n n.toNat/\b.d.k=10*n) (by
   rintro⟨t,d,l⟩ ⟨j,hj,rfl,hd,hl⟩;simp only at hd hl;subst hl;by_cases hlt:j<n.toNat
   ·left;have hpl:Pl n (j:Int):=⟨h1,h2,by omega,by omega⟩;obtain⟨d',e,hk⟩:=IT (seed:=seed) (d:=d) hpl (by omega) (by omega)
    have hix:ix (kC seed n j++List.replicate (n.toNat-j) 0) (j:Int)=some 0:=aw (by
     rw[List.getElem?_append_right (by rw[sw];omega),sw,Nat.sub_self,show n.toNat-j=(n.toNat-j-1)+1 by omega,List.replicate_succ];rfl)
    refine⟨_,by
     simp only[t7]
     rw[aQ (show(j:Int)<((List.replicate n.toNat (0:Int)).length:Int) by rw[List.length_replicate];omega),ct,e,ob,hix,ob],
     ⟨j+1,by omega,ah (n:=j),by show d'.k=_;omega,?_⟩,?_⟩
    ·show List.set (kC seed n j++List.replicate (n.toNat-j) 0) (j:Int).toNat (Cm seed n j)=_;rw[show n.toNat-j=(n.toNat-(j+1))+1 by omega,Ca];have:=Kc (A:=kC seed n j) (m:=n.toNat-(j+1)) (v:=Cm seed n j) (z:=0);rw[sw]at this;exact this
    ·simp only[ah (show j<4000000000 by omega)];omega
   ·right
    obtain rfl:j=n.toNat:=by omega
    refine⟨_,by
     simp only[t7]
     rw[aR (show¬((n.toNat:Nat):Int)<((List.replicate n.toNat (0:Int)).length:Int) by rw[List.length_replicate];omega),cf],?_,?_⟩
    ·simp
    ·simp only;omega)
  obtain⟨b,hb,h3,h4⟩:=key (n:=aY) (x:=⟨0,QW,List.replicate n.toNat 0⟩) ⟨0,by omega,rfl,rfl,by simp[kC]⟩ (cj);rw[hb,ob,h3,aR (show¬b.d.k<n by omega),cf]
 ·rw[aR (fun hp:Pl n 0=>h ⟨hp.1,hp.2.1⟩),i0_ h];rfl
theorem Np {a b:Int}(h:a=b):(a==b)=true:=by simp[h]
theorem Ic {seed n:Int}(h1:1<=n)(h2:n<=1000){j:Nat}(hj:(j:Int)<n):ix (wz seed n) (j:Int)=some (Cm seed n j):=by
 unfold wz;rw[i1_ ⟨h1,h2⟩];exact aw<|EU (by omega)
open Go.Proofs
theorem av {S R:Type}{step:S->Option (S⊕R)}{n:Nat}(g:Nat->S)(r:R)(hs:∀j,j<n->step (g j)=some (.inl (g (j+1))))(he:step (g n)=some (.inr r))(hn:n<4000000000000000000) :
  iter step aY (g 0)=some r:=by
 have key:∀(d k f:Nat),k+d=n->d<f->iter step f (g k)=some r:=by
  intro d
  induction d with
  |zero=>
   intro k f hk hf;obtain⟨f,rfl⟩:∃q,f=q+1:=⟨f-1,by omega⟩
   obtain rfl:k=n:=by omega
   unfold iter;rw[he]
  |succ d ih=>
   intro k f hk hf;obtain⟨f,rfl⟩:∃q,f=q+1:=⟨f-1,by omega⟩;unfold iter;rw[hs k (by omega)];exact ih (k+1) f (by omega) (by omega)
 exact key n 0 aY (by omega)<|cj hn
def ss (x:Int):List Int->Int
 |[]=>x
 |y::r=>ss (if y<x then y else x) r
def sq (x:Int):List Int->Int
 |[]=>x
 |y::r=>sq (if y>x then y else x) r
theorem HR (x:Int)(a:List Int)(y:Int):ss x (a++[y])=if y<ss x a then y else ss x a:=by
 induction a generalizing x with
 |nil=>rfl
 |cons z r ih=>exact ih _
theorem HN (x:Int)(a:List Int)(y:Int):sq x (a++[y])=if y>sq x a then y else sq x a:=by
 induction a generalizing x with
 |nil=>rfl
 |cons z r ih=>exact ih _
theorem J7 {k x:Int}{l:List Int}:ss x l<k↔x<k\/∃y∈l,y<k:=by
 induction l generalizing x with
 |nil=>simp[ss]
 | cons z r ih=>
  simp only[ss,ih,List.mem_cons,exists_eq_or_imp];split
  ·constructor
   ·rintro(h|h)
    ·exact .inr<|.inl h
    ·exact .inr<|.inr h
   ·rintro(h|h|h)
    ·exact .inl (by omega)
    ·exact .inl h
    ·exact .inr h
  ·constructor
   ·rintro(h|h)
    ·exact .inl h
    ·exact .inr<|.inr h
   ·rintro(h|h|h)
    ·exact .inl h
    ·exact .inl (by omega)
    ·exact .inr h
theorem J6 {k x:Int}{l:List Int}:sq x l>k↔x>k\/∃y∈l,y>k:=by
 induction l generalizing x with
 |nil=>simp[sq]
 | cons z r ih=>
  simp only[sq,ih,List.mem_cons,exists_eq_or_imp];split
  ·constructor
   ·rintro(h|h)
    ·exact .inr<|.inl h
    ·exact .inr<|.inr h
   ·rintro(h|h|h)
    ·exact .inl (by omega)
    ·exact .inl h
    ·exact .inr h
  ·constructor
   ·rintro(h|h)
    ·exact .inl h
    ·exact .inr<|.inr h
   ·rintro(h|h|h)
    ·exact .inl h
    ·exact .inl (by omega)
    ·exact .inr h
theorem eS {l:List Int}{j:Nat}{y:Int}(h:l[j]?=some y):l.take (j+1)=l.take j++[y]:=by rw[List.take_add_one,h];rfl
theorem IW {x:Int}{r:List Int}(h:r.length<=1000):Fw (x::r)=some (ss x r):=by
 unfold Fw;rw[aR (show¬(((x::r).length:Nat):Int)<1 by simp;omega),cf,show ix (x::r) 0=some x from rfl,ob]
 have e:=av (step:=qa (x::r)) (n:=r.length) (fun j=>⟨ss x (r.take j),((j+1:Nat):Int)⟩) ⟨ss x r,((r.length+1:Nat):Int)⟩ (fun j hj=>by
  obtain⟨y,hy,-⟩:=aA hj
  have hy':(x::r)[j+1]?=some y:=by simpa using hy
  simp only[qa]
  rw[aQ (show((j+1:Nat):Int)<(((x::r).length:Nat):Int) by simp;omega),ct,aw hy',ob,ah (n:=j+1),eS hy,HR]) (by
  simp only[qa]
  rw[aR (show¬((r.length+1:Nat):Int)<(((x::r).length:Nat):Int) by simp),cf,List.take_length]) (by omega)
 have e0:(⟨ss x (r.take 0),((0+1:Nat):Int)⟩:kq)=⟨x,1⟩:=rfl;rw[e0]at e;rw[e,ob]
theorem IX {x:Int}{r:List Int}(h:r.length<=1000):Fx (x::r)=some (sq x r):=by
 unfold Fx;rw[aR (show¬(((x::r).length:Nat):Int)<1 by simp;omega),cf,show ix (x::r) 0=some x from rfl,ob]
 have e:=av (step:=qb (x::r)) (n:=r.length) (fun j=>⟨sq x (r.take j),((j+1:Nat):Int)⟩) ⟨sq x r,((r.length+1:Nat):Int)⟩ (fun j hj=>by
  obtain⟨y,hy,-⟩:=aA hj
  have hy':(x::r)[j+1]?=some y:=by simpa using hy
  simp only[qb]
  rw[aQ (show((j+1:Nat):Int)<(((x::r).length:Nat):Int) by simp;omega),ct,aw hy',ob,ah (n:=j+1),eS hy,HN]) (by
  simp only[qb]
  rw[aR (show¬((r.length+1:Nat):Int)<(((x::r).length:Nat):Int) by simp),cf,List.take_length]) (by omega)
 have e0:(⟨sq x (r.take 0),((0+1:Nat):Int)⟩:kr)=⟨x,1⟩:=rfl;rw[e0]at e;rw[e,ob]
def cZ (c:Cf):Prop:=1<=c.W.length/\c.W.length<=12/\(∀w∈c.W,0<=w/\w<=1099511627776)/\1<=c.Epoch/\c.Epoch<=8/\0<=c.Num/\c.Num<=c.Den/\1<=c.Den/\c.Den<=1000
instance (c:Cf):Decidable (cZ c):=inferInstanceAs (Decidable (_/\_))
def jo (p:Nat->Bool)(W:List Int):Nat->Int
 |0=>0
 |k+1=>jo p W k+(bif p k then(W[k]?).getD 0 else 0)
theorem tK {p:Nat->Bool}{W:List Int}(h:∀w∈W,0<=w/\w<=1099511627776):∀k,0<=jo p W k/\jo p W k<=1099511627776*k
 |0=>by simp[jo]
 | k+1=>by
  have ih:=tK (p:=p) h k;unfold jo
  cases p k with
  |false=>simp only[cond_false];omega
  | true=>
   simp only[cond_true]
   cases hk:W[k]? with
   |none=>simp only[Option.getD_none];omega
   |some w=>
    have:=h w (List.mem_of_getElem? hk);simp only[Option.getD_some];omega
theorem II {p:Nat->Bool}{W:List Int}{k:Nat}{w:Int}(hp:p k=true)(hw:W[k]?=some w):jo p W (k+1)=jo p W k+w:=by
 rw[jo,hp,hw];rfl
theorem Cv {p:Nat->Bool}{W:List Int}{k:Nat}(hp:p k=false):jo p W (k+1)=jo p W k:=by
 rw[jo,hp];simp
theorem AN (c:Cf):(bif decide (c.Epoch>0)then bif decide (c.Epoch<=8)then bif decide (c.Num>=0)then bif decide (c.Num<=c.Den)then bif decide (c.Den>0)then some (decide (c.Den<=1000))else some false else some false else some false else some false else some false) =
  some (decide (1<=c.Epoch/\c.Epoch<=8/\0<=c.Num/\c.Num<=c.Den/\1<=c.Den/\c.Den<=1000)):=by
 by_cases h1:c.Epoch>0
 ·rw [aQ h1,ct];by_cases h2:c.Epoch<=8
  ·rw[aQ h2,ct];by_cases h3:c.Num>=0
   ·rw[aQ h3,ct];by_cases h4:c.Num<=c.Den
    ·rw[aQ h4,ct];by_cases h5:c.Den>0
     ·rw[aQ h5,ct];congr 1;exact decide_eq_decide.2 ⟨fun h=>⟨h1,h2,h3,h4,h5,h⟩,fun h=>h.2.2.2.2.2⟩
     ·rw[aR h5,cf,aR (fun h=>h5 h.2.2.2.2.1)]
    ·rw[aR h4,cf,aR (fun h=>h4 h.2.2.2.1)]
   ·rw[aR h3,cf,aR (fun h=>h3 h.2.2.1)]
  ·rw[aR h2,cf,aR (fun h=>h2 h.2.1)]
 ·rw[aR h1,cf,aR (fun h=>h1 h.1)]
theorem mr (c:Cf):D9 c=some (decide (cZ c)):=by
 unfold D9;have hno:∀h:¬cZ c,decide (cZ c)=false:=fun h=>aR h;by_cases h0:c.W.length=0
 ·rw[show((c.W.length:Int)==0)=true by simp[h0],ct,ob,ct,aR (fun h:cZ c=>by have:=h.1;omega)]
 ·rw [show((c.W.length:Int)==0)=false by simpa using h0,cf];by_cases h12:c.W.length>12
  ·rw[aQ (show(c.W.length:Int)>12 by omega),ct,ob,ct,aR (fun h:cZ c=>by have:=h.2.1;omega)]
  ·rw [aR (show¬(c.W.length:Int)>12 by omega),cf]
   obtain⟨x,r,hW⟩:∃x r,c.W=x::r:=by
    cases hc:c.W with
    |nil=>rw[hc]at h0;simp at h0
    |cons x r=>exact⟨x,r,rfl⟩
   have hr:r.length<=1000:=by rw[hW]at h12;simp at h12;omega
   have hall:(∀w∈c.W,0<=w/\w<=1099511627776)↔¬ss x r<0/\¬sq x r>1099511627776:=by
    rw[J7,J6,hW];constructor
    ·intro h;refine⟨?_,?_⟩
     ·rintro(h1|⟨y,hy,h1⟩)
      ·have:=(h x (.head _)).1;omega
      ·have:=(h y (.tail _ hy)).1;omega
     ·rintro(h1|⟨y,hy,h1⟩)
      ·have:=(h x (.head _)).2;omega
      ·have:=(h y (.tail _ hy)).2;omega
    ·rintro⟨h1,h2⟩ w hw;refine⟨?_,?_⟩
     ·refine Classical.byContradiction fun hc=>h1 ?_
      cases hw with
      |head=>exact .inl (by omega)
      |tail _ hw=>exact .inr ⟨w,hw,by omega⟩
     ·refine Classical.byContradiction fun hc=>h2 ?_
      cases hw with
      |head=>exact .inl (by omega)
      |tail _ hw=>exact .inr ⟨w,hw,by omega⟩
   have hlen:1<=c.W.length/\c.W.length<=12:=⟨by omega,by omega⟩;have e9:=IW (x:=x) hr;have e10:=IX (x:=x) hr;rw[<-hW]at e9 e10;rw[e9,ob];by_cases hm:ss x r<0
   ·rw[aQ hm,ct,ob,ct,aR (fun h:cZ c=>(hall.1 h.2.2.1).1 hm)]
   ·rw[aR hm,cf,e10,ob,ob];by_cases hx:sq x r>1099511627776
    ·rw[aQ hx,ct,aR (fun h:cZ c=>(hall.1 h.2.2.1).2 hx)]
    ·rw[aR hx,cf,AN];congr 1;exact decide_eq_decide.2 ⟨fun h=>⟨hlen.1,hlen.2,hall.2 ⟨hm,hx⟩,h⟩,fun h=>h.2.2.2⟩
theorem pp {c:Cf}(hl:c.W.length<=1000):GG c=some (decide (cZ c)):=by
 unfold GG
 have key:=@bw _ _ (pq c) (fun x=>∃j:Nat,j<=c.W.length/\x.i=j/\∀w∈c.W.take j,0<=w/\w<=1099511627776) (fun x=>c.W.length+1-x.i.toNat)
  (fun b=>(b=.inr false/\¬cZ c)\/∃x,b=.inl x/\∀w∈c.W,0<=w/\w<=1099511627776) (by
   rintro⟨t⟩ ⟨j,hj,rfl,hw⟩;by_cases hlt:j<c.W.length
   ·obtain⟨y,hy,hm⟩:=aA hlt;by_cases h1:y<0
    ·right
     refine⟨.inr false,by
      simp only[pq]
      rw[eN,aw hy,ob,aQ h1,ct],.inl ⟨rfl,fun h=>by have:=(h.2.2.1 y hm).1;omega⟩⟩
    ·by_cases h2:y>1099511627776
     ·right
      refine⟨.inr false,by
       simp only[pq]
       rw[eN,aw hy,ob,aR h1,cf,ob,aQ h2,ct],.inl ⟨rfl,fun h=>by have:=(h.2.2.1 y hm).2;omega⟩⟩
     ·left
      refine⟨⟨IntKind.i64.wrap ((j:Int)+1)⟩,by
       simp only[pq]
       rw[eN,aw hy,ob,aR h1,cf,ob,aR h2,cf],⟨j+1,by omega,ah (n:=j),?_⟩,?_⟩
      ·intro w hw';rw[eS hy]at hw';rcases List.mem_append.1 hw' with hw'|hw'
       ·exact hw w hw'
       ·obtain rfl:w=y:=by simpa using hw'
        exact⟨by omega,by omega⟩
      ·simp only[ah (show j<4000000000 by omega)];omega
   ·right
    obtain rfl:j=c.W.length:=by omega
    refine⟨.inl ⟨((c.W.length:Nat):Int)⟩,by
     simp only[pq]
     rw[aR (show¬((c.W.length:Nat):Int)<(c.W.length:Int) by omega),cf],.inr ⟨_,rfl,?_⟩⟩
    rw[List.take_length]at hw
    exact hw)
 obtain⟨b,hb,⟨rfl,hno⟩|⟨x,rfl,hall⟩⟩:=key (n:=aY) (x:=⟨0⟩) ⟨0,by omega,rfl,by simp⟩ (cj (by show c.W.length+1-0<_;omega))
 ·rw[hb,ob,sr,aR hno]
 ·rw[hb,ob,sl];by_cases h1:1<=c.W.length
  ·rw[aQ (show(c.W.length:Int)>=1 by omega),ct];by_cases h2:c.W.length<=12
   ·rw[aQ (show(c.W.length:Int)<=12 by omega),ct];rw[show decide (c.Epoch>=1)=decide (c.Epoch>0)from decide_eq_decide.2 ⟨fun h=>by omega,fun h=>by omega⟩,show decide (c.Den>=1)=decide (c.Den>0)from decide_eq_decide.2 ⟨fun h=>by omega,fun h=>by omega⟩,AN];congr 1;exact decide_eq_decide.2 ⟨fun h=>⟨h1,h2,hall,h⟩,fun h=>h.2.2.2⟩
   ·rw[aR (show¬(c.W.length:Int)<=12 by omega),cf,aR (fun h:cZ c=>h2 h.2.1)]
  ·rw[aR (show¬(c.W.length:Int)>=1 by omega),cf,aR (fun h:cZ c=>h1 h.1)]
def okW (c:Cf):Prop:=c.W.length<=12/\∀w∈c.W,0<=w/\w<=1099511627776
theorem cZ.okW {c:Cf}(h:cZ c):okW c:=⟨h.2.1,h.2.2.1⟩
theorem Bg {p:Nat->Bool}{W:List Int}(h:∀w∈W,0<=w/\w<=1099511627776){k:Nat}(hk:k<=12:=by omega):IntKind.i64.wrap (jo p W k)=jo p W k:=by
 have:=tK (p:=p) h k;exact cR
theorem FN {c:Cf}{m:List (Int×Bool)}(h:okW c):x4 c m 0=some (jo (fun j=>(ak m (j:Int)).getD false) c.W c.W.length):=by
 unfold x4
 have e:=av (step:=ni c m) (n:=c.W.length) (fun j=>⟨(j:Int),jo (fun j=>(ak m (j:Int)).getD false) c.W j⟩) ⟨(c.W.length:Int),jo (fun j=>(ak m (j:Int)).getD false) c.W c.W.length⟩ (fun j hj=>by
  obtain⟨y,hy,hm⟩:=aA hj;have h12:=h.1;simp only[ni,IZ];rw[eN,ob]
  cases hb:(ak m (j:Int)).getD false with
  |true=>rw[ct,aw hy,ob,ah (n:=j),<-II (p:=fun j=>(ak m (j:Int)).getD false) hb hy,Bg h.2]
  |false=>rw[cf,ah (n:=j),Cv (p:=fun j=>(ak m (j:Int)).getD false) hb]) (by
  simp only[ni]
  rw[gt]) (by have:=h.1;omega)
 exact(congrArg (fun z=>Option.bind z fun v1=>some v1.o4_0) e).trans ob
def xK (c:Cf)(l:List Int):Int:=if cZ c then jo (fun j=>decide ((j:Int)∈l)) c.W c.W.length else 0
theorem vr {p q:Nat->Bool}{W:List Int}(h:∀j,p j=q j):∀k,jo p W k=jo q W k
 |0=>rfl
 |k+1=>by rw[jo,jo,vr h k,h k]
theorem BR {m:List (Int×Bool)}{k q:Int}{v:Bool}:ak (bK m k v) q=if k=q then some v else ak m q:=by
 induction m with
 |nil=>simp[bK,ak]
 | cons p r ih=>
  obtain⟨a,b⟩:=p;unfold bK;by_cases h:a=k
  ·rw[i1_ h];subst h;by_cases h2:a=q
   ·simp[ak,h2]
   ·simp[ak,h2]
  ·rw[i0_ h];simp only[ak];rw[ih];by_cases h2:a=q
   ·rw[i1_ h2,i1_ h2,i0_ (fun e=>h (by rw[h2,e]))]
   ·rw[i0_ h2,i0_ h2]
def nL :List Int->List (Int×Bool)->List (Int×Bool)
 |[],m=>m
 |x::r,m=>nL r (bK m x true)
theorem EG (a:List Int)(x:Int):∀m,nL (a++[x]) m=bK (nL a m) x true:=by
 induction a with
 |nil=>intro m;rfl
 |cons y r ih=>intro m;exact ih _
theorem uM (q:Int):∀(l:List Int) (m:List (Int×Bool)),ak (nL l m) q=if q∈l then some true else ak m q
 |[],m=>by simp[nL]
 | x::r,m=>by
  unfold nL;rw[uM q r,BR];by_cases h:q∈r
  ·simp[h]
  ·by_cases h2:x=q
   ·simp[h2]
   ·simp[h,h2,Ne.symm h2]
theorem GI {c:Cf}{l:List Int}(hl:l.length<=100000):MV c l=some (xK c l):=by
 unfold MV
 have e:=av (step:=rH l) (n:=l.length) (fun j=>ia.mk (j:Int) (nL (l.take j) [])) (ia.mk (l.length:Int) (nL l [])) (fun j hj=>by
  obtain⟨y,hy,hm⟩:=aA hj
  have e1:rH l (ia.mk (j:Int) (nL (l.take j) []))=some (.inl (ia.mk (IntKind.i64.wrap ((j:Int)+1)) (bK (nL (l.take j) []) y true))):=by
   unfold rH;rw[aQ (show(j:Int)<(l.length:Int) by omega),ct,aw hy,ob]
  rw[e1,ah (n:=j),eS hy,EG]) (by
  unfold rH
  rw[gt,List.take_length]) (by omega)
 have e0:ia.mk (((0:Nat):Int)) (nL (l.take 0) [])=ia.mk 0 []:=rfl;rw[e0]at e;rw[e,ob];unfold CG xK;rw[mr,ob];by_cases h:cZ c
 ·rw[aQ h,i1_ h,Bool.not_true,cf,FN h.okW,ob,ob];congr 1;refine vr (fun j=>?_) _;rw[uM];by_cases hj:(j:Int)∈l <;>simp[hj,ak]
 ·rw[aR h,i0_ h];rfl
theorem pu {l:List Int}{n:Int}(hl:l.length<=100000:=by omega):GL l n=some (decide (n∈l)):=by
 unfold GL
 have key:=@bw _ _ (rI l n) (fun x=>∃j:Nat,j<=l.length/\x.i=j/\n∉l.take j) (fun x=>l.length+1-x.i.toNat)
  (fun b=>(b=.inr true/\n∈l)\/∃x,b=.inl x/\n∉l) (by
   rintro⟨t⟩ ⟨j,hj,rfl,hw⟩;by_cases hlt:j<l.length
   ·obtain⟨y,hy,hm⟩:=aA hlt;by_cases h1:y=n
    ·right
     refine⟨.inr true,by
      simp only[rI]
      rw[eN,aw hy,ob,Np h1,ct],.inl ⟨rfl,h1▸hm⟩⟩
    ·left
     refine⟨⟨IntKind.i64.wrap ((j:Int)+1)⟩,by
      simp only[rI]
      rw[eN,aw hy,ob,show(y==n)=false by simpa using h1,cf],⟨j+1,by omega,ah (n:=j),?_⟩,?_⟩
     ·rw[eS hy];intro h;rcases List.mem_append.1 h with h|h
      ·exact hw h
      ·exact h1 (List.mem_singleton.1 h).symm
     ·simp only[ah (show j<4000000000 by omega)];omega
   ·right
    obtain rfl:j=l.length:=by omega
    refine⟨.inl ⟨((l.length:Nat):Int)⟩,by
     simp only[rI]
     rw[aR (show¬((l.length:Nat):Int)<(l.length:Int) by omega),cf],.inr ⟨_,rfl,?_⟩⟩
    rw[List.take_length]at hw
    exact hw)
 obtain⟨b,hb,⟨rfl,h⟩|⟨x,rfl,h⟩⟩:=key (n:=aY) (x:=⟨0⟩) ⟨0,by omega,rfl,by simp⟩ (cj (by show l.length+1-0<_;omega))
 ·rw[hb,ob,sr,aQ h]
 ·rw[hb,ob,sl,aR h]
theorem qc {l:List Int}{n:Int}(hl:l.length<=100000:=by omega):xX l n=some (decide (n∈l)):=by
 unfold xX Jg
 have key:=@bw _ _ (ox l n) (fun x=>∃j:Nat,j<=l.length/\x.t8=j/\n∉l.take j) (fun x=>l.length+1-x.t8.toNat)
  (fun b=>(∃i:Nat,b=.inr (i:Int)/\n∈l)\/∃x,b=.inl x/\n∉l) (by
   rintro⟨t⟩ ⟨j,hj,rfl,hw⟩;by_cases hlt:j<l.length
   ·obtain⟨y,hy,hm⟩:=aA hlt;by_cases h1:n=y
    ·right
     refine⟨.inr (j:Int),by
      simp only[ox]
      rw[eN,aw hy,ob,Np h1,ct],.inl ⟨j,rfl,h1▸hm⟩⟩
    ·left
     refine⟨⟨IntKind.i64.wrap ((j:Int)+1)⟩,by
      simp only[ox]
      rw[eN,aw hy,ob,show(n==y)=false by simpa using h1,cf],⟨j+1,by omega,ah (n:=j),?_⟩,?_⟩
     ·rw[eS hy];intro h;rcases List.mem_append.1 h with h|h
      ·exact hw h
      ·exact h1<|List.mem_singleton.1 h
     ·simp only[ah (show j<4000000000 by omega)];omega
   ·right
    obtain rfl:j=l.length:=by omega
    refine⟨.inl ⟨((l.length:Nat):Int)⟩,by
     simp only[ox]
     rw[aR (show¬((l.length:Nat):Int)<(l.length:Int) by omega),cf],.inr ⟨_,rfl,?_⟩⟩
    rw[List.take_length]at hw
    exact hw)
 obtain⟨b,hb,⟨i,rfl,h⟩|⟨x,rfl,h⟩⟩:=key (n:=aY) (x:=⟨0⟩) ⟨0,by omega,rfl,by simp⟩ (cj (by show l.length+1-0<_;omega))
 ·rw[hb,ob,sr,ob,aQ h,aQ (show(i:Int)>=0 by omega)]
 ·rw[hb,ob,sl,ob,aR h];rfl
theorem GJ {c:Cf}{l:List Int}(hW:c.W.length<=1000)(hl:l.length<=100000):MW c l=some (xK c l):=by
 unfold MW xK;rw[pp hW,ob];by_cases h:cZ c
 ·rw[aQ h,i1_ h]
  have e:=av (step:=pr c l true) (n:=c.W.length) (fun j=>⟨jo (fun j=>decide ((j:Int)∈l)) c.W j,(j:Int)⟩) ⟨jo (fun j=>decide ((j:Int)∈l)) c.W c.W.length,(c.W.length:Int)⟩ (fun j hj=>by
   obtain⟨y,hy,hm⟩:=aA hj;have h12:=h.2.1;simp only[pr];rw[eN,ob,ct,pu hl,ob];by_cases hb:(j:Int)∈l
   ·rw[aQ hb,ct,aw hy,ob,ah (n:=j),<-II (p:=fun j=>decide ((j:Int)∈l)) (aQ hb) hy,Bg h.okW.2]
   ·rw[aR hb,cf,ah (n:=j),Cv (p:=fun j=>decide ((j:Int)∈l)) (aR hb)]) (by
   simp only[pr]
   rw[gt,ob,cf]) (by omega)
  exact(congrArg (fun z=>Option.bind z fun v2=>some v2.n) e).trans ob
 ·rw[aR h,i0_ h]
  have e:=av (step:=pr c l false) (n:=0) (fun _=>⟨0,0⟩) ⟨0,0⟩ (fun j hj=>by omega) (by
   simp only[pr]
   rw[show(bif decide ((0:Int)<(c.W.length:Int))then some false else some false)=some false by cases decide ((0:Int)<(c.W.length:Int)) <;>rfl,ob,cf]) (by omega)
  rw[e,ob]
def iS (p:Nat->Bool):Nat->List Int
 |0=>[]
 |k+1=>bif p k then iS p k++[(k:Int)]else iS p k
theorem oQ (p:Nat->Bool):∀k,(iS p k).length<=k
 |0=>by simp[iS]
 |k+1=>by
  have:=oQ p k;unfold iS;cases p k <;>simp <;>omega
def IP (c:Cf)(slot:Int):Prop:=cZ c/\0<slot/\slot<=1048576
instance (c:Cf) (slot:Int):Decidable (IP c slot):=inferInstanceAs (Decidable (_/\_))
theorem CD (c:Cf)(slot:Int):DW c slot=some (decide (IP c slot)):=by
 unfold DW;rw[mr,ob];by_cases h:cZ c
 ·rw[aQ h,ct];by_cases h1:slot>0
  ·rw[aQ h1,ct];congr 1;exact decide_eq_decide.2 ⟨fun h2=>⟨h,h1,h2⟩,fun h2=>h2.2.2⟩
  ·rw[aR h1,cf,aR (fun h2:IP c slot=>h1 h2.2.1)]
 ·rw[aR h,cf,aR (fun h2:IP c slot=>h h2.1)]
theorem CF (slot:Int):DX slot=some (decide (0<slot/\slot<=1048576)):=by
 unfold DX;by_cases h1:slot>=1
 ·rw[aQ h1,ct];congr 1;exact decide_eq_decide.2 ⟨fun h2=>⟨by omega,h2⟩,fun h2=>h2.2⟩
 ·rw[aR h1,cf,aR (fun h2=>h1 (by omega))]
def kY (c:Cf)(slot:Int):Int:=step c.Seed (IntKind.u64.wrap (IntKind.i64.wrap (slot.tdiv c.Epoch)))
def EE (c:Cf)(slot:Int)(j:Nat):Bool:=(Cm (kY c slot) (c.W.length:Int) (j:Int)).tmod c.Epoch==slot.tmod c.Epoch
def nG (c:Cf)(slot:Int):List Int:=if IP c slot then iS (EE c slot) c.W.length else[]
theorem rU (c:Cf)(slot:Int):(nG c slot).length<=12:=by
 unfold nG;split
 ·next h=>have:=oQ (EE c slot) c.W.length;have:=h.1.2.1;omega
 ·simp
theorem qH {c:Cf}(h:cZ c):decide (c.Epoch≠0)=true:=aQ (by have:=h.2.2.2.1;omega)
theorem Fy {c:Cf}{slot:Int}(h:cZ c):xW c slot (wz (kY c slot) (c.W.length:Int))=some (iS (EE c slot) c.W.length):=by
 have h1:=h.1;have h2:=h.2.1
 have e:=av (step:=nh c slot (wz (kY c slot) (c.W.length:Int))) (n:=c.W.length) (fun j=>eu.mk (j:Int) (iS (EE c slot) j)) (eu.mk (c.W.length:Int) (iS (EE c slot) c.W.length)) (fun j hj=>by
  have hl:=oQ (EE c slot) j;unfold nh IY;simp only;rw[eN,Ic (by omega) (by omega) (by omega),ob,qH h,ct,ct,ob]
  cases hb:EE c slot j with
  |true=>
   rw[show((Cm (kY c slot) (c.W.length:Int) (j:Int)).tmod c.Epoch==slot.tmod c.Epoch)=true from hb,ct,aC (by simp only[List.length_singleton];omega),ct,ah (n:=j),iS,hb,ct]
  |false=>
   rw[show((Cm (kY c slot) (c.W.length:Int) (j:Int)).tmod c.Epoch==slot.tmod c.Epoch)=false from hb,cf,ah (n:=j),iS,hb,cf]) (by
  unfold nh
  rw[gt]) (by omega)
 have e0:eu.mk (((0:Nat):Int)) (iS (EE c slot) 0)=eu.mk 0 []:=rfl;rw[e0]at e;unfold xW CM CN;rw[e,ob,ob,ob]
theorem Bs (c:Cf)(slot:Int):Lq c slot=some (nG c slot):=by
 unfold Lq nG;rw[CD,ob];by_cases h:IP c slot
 ·rw[aQ h,i1_ h,Bool.not_true,cf,qH h.1,ct,Lp,ob];have:=Fy (slot:=slot) h.1;unfold kY at this;rw[this,ob]
 ·rw[aR h,i0_ h];rfl
theorem Bt {c:Cf}{slot:Int}(hW:c.W.length<=1000):Lr c slot=some (nG c slot):=by
 unfold Lr nG;rw[pp hW,ob,CF,ob];by_cases h:IP c slot
 ·have h1:=h.1.1;have h2:=h.1.2.1;rw[aQ h.1,aQ (show 0<slot/\slot<=1048576 from h.2),Bool.not_true,cf,ob,cf,i1_ h,qH h.1,ct,mj,ob]
  have e:=av (step:=ua c slot (kY c slot)) (n:=c.W.length) (fun j=>iY.mk (j:Int) (iS (EE c slot) j)) (iY.mk (c.W.length:Int) (iS (EE c slot) c.W.length)) (fun j hj=>by
   have hl:=oQ (EE c slot) j;unfold ua;simp only;rw[eN,Lo,ob,qH h.1,ct,ct,Qb,i1_ (show Pl (c.W.length:Int) (j:Int)from⟨by omega,by omega,by omega,by omega⟩)]
   cases hb:EE c slot j with
   |true=>
    rw[show((Cm (kY c slot) (c.W.length:Int) (j:Int)).tmod c.Epoch==slot.tmod c.Epoch)=true from hb,ct,aC (by simp only[List.length_singleton];omega),ct,ah (n:=j),iS,hb,ct]
   |false=>
    rw[show((Cm (kY c slot) (c.W.length:Int) (j:Int)).tmod c.Epoch==slot.tmod c.Epoch)=false from hb,cf,ah (n:=j),iS,hb,cf]) (by
   unfold ua
   rw[gt]) (by omega)
  have e0:iY.mk (((0:Nat):Int)) (iS (EE c slot) 0)=iY.mk 0 []:=rfl;rw[e0]at e;unfold kY at e;rw[e,ob]
 ·rw[i0_ h]
  have e:(bif !decide (cZ c)then some true else some (!decide (0<slot/\slot<=1048576)))=some true:=by
   by_cases h1:cZ c
   ·rw[aQ h1,aR (fun h2=>h ⟨h1,h2⟩)];rfl
   ·rw[aR h1];rfl
  rw[e,ob,ct]
theorem GK (c:Cf)(slot who:Int):MX c slot who=some (decide (who∈nG c slot)):=by
 have:=rU c slot;unfold MX;rw[Bs,ob,qc,ob]
theorem GH {c:Cf}{slot who:Int}(hW:c.W.length<=1000):MU c slot who=some (decide (who∈nG c slot)):=by
 have:=rU c slot;unfold MU;rw[Bt hW,ob,pu,ob]
def oR (c:Cf)(slot:Int):Int:=if IP c slot then IntKind.i64.wrap ((step (step c.Seed 4294967296) (IntKind.u64.wrap slot)).tmod (IntKind.u64.wrap (c.W.length:Int)))else -1
theorem HM {c:Cf}(h:cZ c):decide (IntKind.u64.wrap (c.W.length:Int)≠0)=true:=aQ (by have:=h.1;have:=h.2.1;rw[gR];omega)
theorem wT (c:Cf)(slot:Int):Jr c slot=some (oR c slot):=by
 unfold Jr oR;rw[CD,ob];by_cases h:IP c slot
 ·rw[aQ h,i1_ h,Bool.not_true,cf,HM h.1,ct]
 ·rw[aR h,i0_ h];rfl
theorem wU {c:Cf}{slot:Int}(hW:c.W.length<=1000):Zz c slot=some (oR c slot):=by
 unfold Zz oR;rw[pp hW,ob,CF,ob];by_cases h:IP c slot
 ·rw[aQ h.1,aQ (show 0<slot/\slot<=1048576 from h.2),Bool.not_true,cf,ob,cf,i1_ h,mj,ob,mj,ob,HM h.1,ct]
 ·rw[i0_ h]
  have e:(bif !decide (cZ c)then some true else some (!decide (0<slot/\slot<=1048576)))=some true:=by
   by_cases h1:cZ c
   ·rw[aQ h1,aR (fun h2=>h ⟨h1,h2⟩)];rfl
   ·rw[aR h1];rfl
  rw[e,ob,ct]
def c0 :Cf:=⟨[5],0,1,0,4⟩
open Go.Proofs
theorem wO {p:Nat->Bool}{W:List Int}:∀{k:Nat},(∀j,j<k->p j=false)->jo p W k=0
 |0,_=>rfl
 |k+1,h=>by rw[Cv (h k (by omega)),wO fun j hj=>h j (by omega)]
theorem DR (c:Cf)(l:List Int):0<=xK c l/\xK c l<=13194139533312:=by
 unfold xK;split
 ·next h=>
  have:=tK (p:=fun j=>decide ((j:Int)∈l)) h.okW.2 c.W.length;have:=h.2.1;omega
 ·omega
open Go.Proofs
theorem MP (c:Cf):xK c []=0:=by
 unfold xK;split
 ·exact wO fun j _=>by simp
 ·rfl
open Go.Proofs
structure eF where
 t14:Int
 o1:List (Du×ID)
 o2:List (Du×Bool)
def lD (l:List Vt)(x1:eF):Option (eF⊕eF):=bif decide (x1.t14<(l.length:Int))then (ix l x1.t14).bind fun y1=>bif (ak x1.o1 (Du.mk y1.From y1.Slot)).isSome then bif !(((((ak x1.o1 (Du.mk y1.From y1.Slot)).getD (0,0)).1)==y1.Head.1)&&(((((ak x1.o1 (Du.mk y1.From y1.Slot)).getD (0,0)).2)==y1.Head.2)&&true))then some (.inl (eF.mk (IntKind.i64.wrap (x1.t14+1)) (bK x1.o1 (Du.mk y1.From y1.Slot) y1.Head) (bK x1.o2 (Du.mk y1.From y1.Slot) true)))else some (.inl (eF.mk (IntKind.i64.wrap (x1.t14+1)) (bK x1.o1 (Du.mk y1.From y1.Slot) y1.Head) x1.o2))else some (.inl (eF.mk (IntKind.i64.wrap (x1.t14+1)) (bK x1.o1 (Du.mk y1.From y1.Slot) y1.Head) x1.o2))else some (.inr (eF.mk x1.t14 x1.o1 x1.o2))
def zj (l:List Vt):Option (List (Du×ID)×List (Du×Bool)):=(iter (lD l) aY (eF.mk 0 ([]:List (Du×ID)) ([]:List (Du×Bool)))).bind fun v1=>some (v1.o1,v1.o2)
theorem Mk {l:List Vt}{r_:List (Du×ID)×List (Du×Bool)}(h:zj l=some r_):LC Tryz.prog 180 [(kV l)] [] (Is (.agg [.map 1,.map 2]) [.box [.map 1,.map 2],.map (ar vD (fun v=>.p (aX v)) r_.1),.map (ar vD (fun v=>(bQ v)) r_.2),.box [.map 1,.map 2]]):=by
 refine eP Tryz.func180 Z Z Z ?_;unfold zj at h;refine qR<|yS Z (ze Z Cx Z Z)<|nT<|qR<|yS Z (aa.makeMap Z Z Z)<|yS Z (aa.makeMap Z Z Z)<|yS Z (aa.build Z LP Z Z Z)<|yS Z (ze Z Cx Z Z)<|yS Z (zs Z Z Z Z xH Z Z Z Z)<|nT<|zQ<|qR<|zM Z<|yS Z (cx Z Z)<|mN Z ?_;obtain⟨v1,a1,q1⟩:=zB h;clear h;refine LW.tail (E:=[(2,.ptr 0 0),(3,.ptr 3 0)]) (O:=[.box [.nilmap,.nilmap],.map (ar vD (fun v=>.p (aX v)) v1.o1),.map (ar vD (fun v=>(bQ v)) v1.o2),.box [.map 1,.map 2]]) ?_<|fun e1 K1 u1=>?_
 ·refine LW.block ?_;refine LW.iterB (E:=fun x1:eF=>[(2,.ptr 0 0),(3,.ptr 3 0),(12,(kV l)),(13,.p (.int .i64 (l.length:Int))),(14,(iQ x1.t14))]) (O:=fun x1=>[.box [.nilmap,.nilmap],.map (ar vD (fun v=>.p (aX v)) x1.o1),.map (ar vD (fun v=>(bQ v)) x1.o2),.box [.map 1,.map 2]]) a1 (zW 4 ⟨Z,Z,Z,Z,Z,t_⟩ Z Z Z (zL Z (zL (ai (fun _=>rfl) _) (zL (ai (fun _=>rfl) _) (zL Z Z)))))<|fun x1 z1 h m1=>?_;unfold lD at h;refine qR<|yS Z (am Z Z Z Z)<|nT<|zQ ?_;refine zX Z (fun g1=>?_)<|fun g1=>?_
  ·refine zi g1 h fun h=>zk<|zT<|zQ<|zl<|qR<|zb h fun y1 j1 h=>yS Z (zx Z Z Z bz j1 Z)<|yS Z (bS Z Z Z cz Z Z)<|yS Z (ze Z vu Z Z)<|yS Z (zs Z Z Z Z cz Z Z Z Z)<|nT<|qR<|yS Z (zA Z Z im)<|yS Z (zD Z Z Z aV Z Z)<|yS Z (zA Z Z i8)<|yS Z (zD Z Z Z aV Z Z)<|yS Z (aa.build Z Ha Z Z Z)<|yS Z (ze Z IM Z Z)<|yS Z (zs Z Z Z Z p5 Z Z Z Z)<|nT<|qR<|yS Z (zA Z Z uC)<|yS Z (zD Z Z Z Cp Z Z)<|yS Z (zD Z Z Z p5 Z Z) ?_;refine yS Z (aa.getX (f:=vD) (g:=(fun v=>.p (aX v))) (Du.mk y1.From y1.Slot) (0,0) Da Z Z Z Z HU Q5 Z Z) ?_;refine zM Z<|yS Z (eZ Z Z Z)<|yS Z (eZ Z Z Z)<|yS Z (ze Z gT Z Z)<|yS Z (zs Z Z Z Z aG Z Z Z Z)<|mN Z<|qR<|yS Z (zA Z Z uC)<|yS Z (zD Z Z Z Cp Z Z)<|yS Z (zD Z Z Z p5 Z Z)<|yS Z (zA Z Z i9)<|yS Z (zD Z Z Z aG Z Z) ?_;refine yS Z (aa.setX (f:=vD) (g:=(fun v=>.p (aX v))) (Du.mk y1.From y1.Slot) y1.Head Da (.inl Z) Z Z Z Z Z HU Z) ?_;refine nT<|qR<|zM Z<|zM Z ?_;refine zc 36 Z (fun g2=>?_)<|fun g2=>?_
   ·refine zi g2 h fun h=>yV Z (gd g2 Z) (zD Z Z Z aG Z Z)<|yV Z (gd g2 Z) (zA Z Z i9)<|yV Z (gd g2 Z) (zD Z Z Z aG Z Z)<|yV Z (gd g2 Z) (aa.neqAgg Z Z Z Z Z gY)<|yS Z (bA Z (aK g2 Z) Z)<|nT ?_;refine zX Z (fun g3=>?_)<|fun g3=>?_
    ·refine zi g3 h fun h=>zR<|yS Z (zA Z Z Av)<|yS Z (zD Z Z Z Iv Z Z)<|yS Z (zD Z Z Z p5 Z Z) ?_;refine yS Z (aa.setX (f:=vD) (g:=(fun v=>(bQ v))) (Du.mk y1.From y1.Slot) true Da (.inl Z) Z Z Z Z Z HV Z) ?_;refine zN<|ae<|zT<|zR<|yS Z (am Z Z Z Z)<|mN Z ?_;cases h;exact⟨_,rfl,zW 4 ⟨Z,Z,Z,Z,Z,t_⟩ Z Z Z (zL Z (zL (ai (fun _=>rfl) _) (zL (ai (fun _=>rfl) _) (zL Z Z))))⟩
    ·refine zo g3 h fun h=>zk<|ae<|zT<|zR<|yS Z (am Z Z Z Z)<|mN Z ?_;cases h;exact⟨_,rfl,zW 4 ⟨Z,Z,Z,Z,Z,t_⟩ Z Z Z (zL Z (zL (ai (fun _=>rfl) _) (zL (ai (fun _=>rfl) _) (zL Z Z))))⟩
   ·refine zo g2 h fun h=>yU Z (gd g2 Z) Z<|yU Z (gd g2 Z) Z<|yU Z (gd g2 Z) Z<|yU Z (gd g2 Z) Z<|yS Z (aU Z (aK g2 Z) Z)<|nT<|LW.condF Z<|zk<|ae<|zT<|zR<|yS Z (am Z Z Z Z)<|mN Z ?_;cases h;exact⟨_,rfl,zW 4 ⟨Z,Z,Z,Z,Z,t_⟩ Z Z Z (zL Z (zL (ai (fun _=>rfl) _) (zL (ai (fun _=>rfl) _) (zL Z Z))))⟩
  ·refine zo g1 h fun h=>zq<|aj<|aj<|zy<|zT ?_;cases h;obtain rfl:=(m1 _ rfl);exact zW 4 ⟨Z,Z,t_⟩ Z Z Z<|zL Z<|zL (ai (fun _=>rfl) _)<|zL (ai (fun _=>rfl) _)<|zL Z Z
 ·have h:=q1;clear a1;refine zT<|LW.weak u1<|qR<|yS Z (zD Z Z Z xH Z Z)<|yS Z (zs Z Z Z Z xH Z Z Z Z)<|nT<|zr ?_;cases h;exact aD (.one (eh Z Z))<|⟨rfl,rfl⟩
end Go.Mg
namespace Go.Proofs
def Tryz.sortVt_ren :Go.Shelf.Ren:=⟨fun|6=>218|15=>232|14=>231|28=>245|29=>246|20=>237|21=>238|22=>239|23=>240|24=>241|25=>242|26=>243|27=>244|46=>250|47=>251|48=>252|49=>253|50=>254|57=>258|n=>n,fun|22=>27|24=>111|25=>256|3=>3|39=>211|0=>0|53=>219|55=>23|4=>4|46=>275|45=>274|50=>187|5=>5|9=>9|66=>284|70=>288|76=>292|77=>293|n=>n,fun|n=>n⟩
theorem Tryz.sortVt :SlLaysF0.n6 Tryz.prog Tryz.sortVt_ren where
 mixed:=by kernel_rfl
 f6 := ⟨ "slices.SortFunc[[]marigold/api.Vote,marigold/api.Vote]", by decide, Tryz.func218.trans (congrArg some (by kernel_rfl))⟩
 f14 := ⟨ "slices.pdqsortCmpFunc[marigold/api.Vote]", by decide, Tryz.func231.trans (congrArg some (by kernel_rfl))⟩
 f15:=Tryz.func232.trans (congrArg some (by kernel_rfl))
 f20 := ⟨ "slices.insertionSortCmpFunc[marigold/api.Vote]", by decide, Tryz.func237.trans (congrArg some (by kernel_rfl))⟩
 f21 := ⟨ "slices.heapSortCmpFunc[marigold/api.Vote]", by decide, Tryz.func238.trans (congrArg some (by kernel_rfl))⟩
 f22 := ⟨ "slices.breakPatternsCmpFunc[marigold/api.Vote]", by decide, Tryz.func239.trans (congrArg some (by kernel_rfl))⟩
 f23 := ⟨ "slices.choosePivotCmpFunc[marigold/api.Vote]", by decide, Tryz.func240.trans (congrArg some (by kernel_rfl))⟩
 f24 := ⟨ "slices.reverseRangeCmpFunc[marigold/api.Vote]", by decide, Tryz.func241.trans (congrArg some (by kernel_rfl))⟩
 f25 := ⟨ "slices.partialInsertionSortCmpFunc[marigold/api.Vote]", by decide, Tryz.func242.trans (congrArg some (by kernel_rfl))⟩
 f26 := ⟨ "slices.partitionEqualCmpFunc[marigold/api.Vote]", by decide, Tryz.func243.trans (congrArg some (by kernel_rfl))⟩
 f27 := ⟨ "slices.partitionCmpFunc[marigold/api.Vote]", by decide, Tryz.func244.trans (congrArg some (by kernel_rfl))⟩
 f28:=Tryz.func245.trans (congrArg some (by kernel_rfl))
 f29:=Tryz.func246.trans (congrArg some (by kernel_rfl))
 f46 := ⟨ "slices.siftDownCmpFunc[marigold/api.Vote]", by decide, Tryz.func250.trans (congrArg some (by kernel_rfl))⟩
 f47:=Tryz.func251.trans (congrArg some (by kernel_rfl))
 f48:=Tryz.func252.trans (congrArg some (by kernel_rfl))
 f49 := ⟨ "slices.medianAdjacentCmpFunc[marigold/api.Vote]", by decide, Tryz.func253.trans (congrArg some (by kernel_rfl))⟩
 f50 := ⟨ "slices.medianCmpFunc[marigold/api.Vote]", by decide, Tryz.func254.trans (congrArg some (by kernel_rfl))⟩
 f57 := ⟨ "slices.order2CmpFunc[marigold/api.Vote]", by decide, Tryz.func258.trans (congrArg some (by kernel_rfl))⟩
 t0:=Tryz.underlying0
 a0:=Tryz.isAgg0
 z0:=Tryz.sizeOf0
 v0:=Tryz.zeroValue0
 t3:=Tryz.underlying3
 a3:=Tryz.isAgg3
 z3:=Tryz.sizeOf3
 v3:=Tryz.zeroValue3
 t4:=Tryz.underlying4
 a4:=Tryz.isAgg4
 z4:=Tryz.sizeOf4
 v4:=Tryz.zeroValue4
 t5:=Tryz.underlying5
 a5:=Tryz.isAgg5
 z5:=Tryz.sizeOf5
 v5:=Tryz.zeroValue5
 t9:=Tryz.underlying9
 a9:=Tryz.isAgg9
 z9:=Tryz.sizeOf9
 v9:=Tryz.zeroValue9
 t22:=Tryz.underlying27
 a22:=Tryz.isAgg27
 z22:=Tryz.sizeOf27
 v22:=Tryz.zeroValue27
 t25:=Tryz.underlying256
 a25:=Tryz.isAgg256
 z25:=Tryz.sizeOf256
 v25:=Tryz.zeroValue256
 t39:=Tryz.underlying211
 a39:=Tryz.isAgg211
 z39:=Tryz.sizeOf211
 v39:=Tryz.zeroValue211
 t45:=Tryz.underlying274
 a45:=Tryz.isAgg274
 z45:=Tryz.sizeOf274
 v45:=Tryz.zeroValue274
 t46:=Tryz.underlying275
 a46:=Tryz.isAgg275
 z46:=Tryz.sizeOf275
 v46:=Tryz.zeroValue275
 t50:=Tryz.underlying187
 a50:=Tryz.isAgg187
 z50:=Tryz.sizeOf187
 v50:=Tryz.zeroValue187
 t53:=Tryz.underlying219
 a53:=Tryz.isAgg219
 z53:=Tryz.sizeOf219
 v53:=Tryz.zeroValue219
 t55:=Tryz.underlying23
 a55:=Tryz.isAgg23
 z55:=Tryz.sizeOf23
 v55:=Tryz.zeroValue23
 t66:=Tryz.underlying284
 a66:=Tryz.isAgg284
 z66:=Tryz.sizeOf284
 v66:=Tryz.zeroValue284
 t70:=Tryz.underlying288
 a70:=Tryz.isAgg288
 z70:=Tryz.sizeOf288
 v70:=Tryz.zeroValue288
 t76:=Tryz.underlying292
 a76:=Tryz.isAgg292
 z76:=Tryz.sizeOf292
 v76:=Tryz.zeroValue292
 t77:=Tryz.underlying293
 a77:=Tryz.isAgg293
 z77:=Tryz.sizeOf293
 v77:=Tryz.zeroValue293
def Tryz.cmpVt_ren :Go.Shelf.Ren:=⟨fun|5=>220|7=>233|n=>n,fun|22=>3|3=>3|4=>4|n=>n,fun|n=>n⟩
theorem Tryz.cmpVt :SlLaysC2.n5 Tryz.prog Tryz.cmpVt_ren where
 mixed:=by kernel_rfl
 f5 := ⟨ "cmp.Compare[int]", by decide, Tryz.func220.trans (congrArg some (by kernel_rfl))⟩
 f7 := ⟨ "cmp.isNaN[int]", by decide, Tryz.func233.trans (congrArg some (by kernel_rfl))⟩
 t3:=Tryz.underlying3
 a3:=Tryz.isAgg3
 z3:=Tryz.sizeOf3
 v3:=Tryz.zeroValue3
 t4:=Tryz.underlying4
 a4:=Tryz.isAgg4
 z4:=Tryz.sizeOf4
 v4:=Tryz.zeroValue4
 t22:=Tryz.underlying3
 a22:=Tryz.isAgg3
 z22:=Tryz.sizeOf3
 v22:=Tryz.zeroValue3
end Go.Proofs
namespace Go.Mg
open Go.Shelf Go.Sort Go.Proofs
instance:Inhabited Vt:=⟨⟨0,0,(0,0)⟩⟩
def lH (v:Vt):List Value:=[.int .i64 v.From,.int .i64 v.Slot,.int .u64 v.Head.1,.int .u64 v.Head.2]
def Ez (v:Vt):List PV:=[.int .i64 v.From,.int .i64 v.Slot,.int .u64 v.Head.1,.int .u64 v.Head.2]
theorem pL :∀l:List Vt,flat (l.map aO)=l.flatMap Ez
 |[]=>rfl
 |v::r=>by rw[List.map_cons,dn,pL r,List.flatMap_cons];rfl
theorem pK {α β:Type}{f:α->List β}{k:Nat}(hf:∀x,(f x).length=k):∀(l:List α) (q r:Nat) (x:α),l[q]?=some x->r<k->(l.flatMap f)[q*k+r]?=(f x)[r]?
 |[],q,r,x,h,_=>by simp at h
 |y::s,0,r,x,h,hr=>by
  simp at h;subst h;rw[List.flatMap_cons,Nat.zero_mul,Nat.zero_add,List.getElem?_append_left (by rw[hf];exact hr)]
 |y::s,q+1,r,x,h,hr=>by
  rw[List.flatMap_cons,List.getElem?_append_right (by rw[hf,Nat.succ_mul];omega),hf,show(q+1)*k+r-k=q*k+r by rw[Nat.succ_mul];omega];exact pK hf s q r x (by simpa using h) hr
theorem Ff {μ:List cg}{I:Nat->Prop}{w:World}{H:List ab}{id:Nat}{l:List Vt}{B:cg}(hs:St μ I w H)(hne:l≠[])(hH:H[id]?=some (.vec 4 (l.map aO)))(hid:μ[id]?=some B) :
  ∃b vs e,B=⟨some b,l.length⟩/\w.heap[b]?=some (.cells vs e (0,0))/\4*l.length<=vs.size/\(∀q v,l[q]?=some v->(aW .i64 v.From/\aW .i64 v.Slot/\aW .u64 v.Head.1/\aW .u64 v.Head.2)/\∀r,r<4->vs[4*q+r]?=(lH v)[r]?):=by
 have hob:=hs.objs id _ _ hH hid;generalize hx:l.map aO=xs at hob
 cases hob with
 |vecE=>exact absurd (List.map_eq_nil_iff.1 hx) hne
 | @vec _ _ b vs e hb hl hne' hm h=>
  subst hx;rw[List.length_map]at hl;refine⟨b,vs,e,by rw[List.length_map],hb,hl,fun q v hq=>?_⟩;have hql:=(List.getElem?_eq_some_iff.1 hq).1
  have key:∀r p,r<4->(Ez v)[r]?=some p->∃u,vs[4*q+r]?=some u/\fB I w p u:=fun r p hr hp=>by
   have hi:=pK (f:=Ez) (k:=4) (fun _=>rfl) l q r v hq hr;rw[<-pL,Nat.mul_comm]at hi;have hv:vs[4*q+r]?=some (vs[4*q+r]'(by omega)):=Array.getElem?_eq_getElem (by omega);exact⟨_,hv,h _ p _ (hi.trans hp) hv⟩
  obtain⟨u0,h0,r0⟩:=key 0 (.int .i64 v.From) (by omega) rfl;obtain⟨u1,h1,r1⟩:=key 1 (.int .i64 v.Slot) (by omega) rfl;obtain⟨u2,h2,r2⟩:=key 2 (.int .u64 v.Head.1) (by omega) rfl;obtain⟨u3,h3,r3⟩:=key 3 (.int .u64 v.Head.2) (by omega) rfl;cases r0;cases r1;cases r2;cases r3;refine⟨⟨by assumption,by assumption,by assumption,by assumption⟩,fun r hr=>?_⟩
  match r,hr with
  |0,_=>rw[h0];rfl
  |1,_=>rw[h1];rfl
  |2,_=>rw[h2];rfl
  |3,_=>rw[h3];rfl
theorem O6 {l:List Vt}{j:Nat}(hj:j<4*l.length):∃v,l[j / 4]?=some v/\j % 4<4/\j=4*(j / 4)+j % 4:=by
 have h:j / 4<l.length:=by omega
 exact⟨l[j / 4],List.getElem?_eq_getElem h,by omega,by omega⟩
theorem Aq {l:List Vt}{j:Nat}(hj:j<4*l.length){v:Vt}(hv:l[j / 4]?=some v):(flatK lH 4 l.toArray)[j]! =(lH v)[j % 4]! :=by
 rw[get_flatK _ _ _ _ (by simp;omega)]
 have h:(l.toArray)[j / 4]! =v:=by
  rw[getElem!_def];simp[hv]
 rw[h]
theorem xn {w:World}{l:List Vt}{b:Nat}{vs:Array Value}{e:TypeId}(hb:w.heap[b]?=some (.cells vs e (0,0)))(hc:∀q v,l[q]?=some v->∀r,r<4->vs[4*q+r]?=(lH v)[r]?):HoldsK lH 4 w b 0 l.toArray:=by
 intro j hj;rw[size_flatK]at hj
 have hj':j<4*l.length:=by simp at hj;omega
 obtain⟨v,hv,hr,he⟩:=O6 hj';have h1:=hc _ v hv _ hr;rw[<-he]at h1
 have h2:(lH v)[j % 4]?=some ((lH v)[j % 4]!):=by
  rw[getElem!_def];have:j % 4<(lH v).length:=hr;rw[List.getElem?_eq_getElem this]
 rw[h2]at h1;constructor
 ·rw[Aq hj' hv,Nat.zero_add];simp[World.cell?,hb,h1]
 ·simp[World.frozen?,hb]
theorem AZ {F vs:Array Value}{i:Nat}(hF:F.size<=vs.size)(hi:i<F.size):(putCells (fun x=>x) 0 F vs)[i]?=some (F[i]!):=by
 unfold putCells;rw[Array.getElem?_mapIdx,Array.getElem?_eq_getElem (by omega)];simp[hi]
theorem Aj :∀d:List Vt,(d.flatMap Ez).length=4*d.length
 |[]=>rfl
 |x::r=>by rw[List.flatMap_cons,List.length_append,Aj r,List.length_cons];simp[Ez];omega
theorem E8 {μ:List cg}{I:Nat->Prop}{w:World}{H:List ab}{id b n:Nat}{l d:List Vt}{vs:Array Value}{e:TypeId}{os:Array Obj}(hs:St μ I w H)(hid:μ[id]?=some ⟨some b,l.length⟩)(hb:w.heap[b]?=some (.cells vs e (0,0)))(hsz:4*l.length<=vs.size)
  (hd:d.length=l.length) (hne:d≠[]) (hk:∀v∈d,aW .i64 v.From/\aW .i64 v.Slot/\aW .u64 v.Head.1/\aW .u64 v.Head.2) :
  St μ I (sortWorldK lH 4 w b 0 n d.toArray os) (H.set id (.vec 4 (d.map aO)))/\cF μ.length μ I w μ I (sortWorldK lH 4 w b 0 n d.toArray os):=by
 have hbl:b<w.heap.size:=(Array.getElem?_eq_some_iff.1 hb).1
 have hFs:(flatK lH 4 d.toArray).size=4*d.length:=by rw[size_flatK];simp;omega
 have hsize:(sortWorldK lH 4 w b 0 n d.toArray os).heap.size=w.heap.size+os.size:=by
  simp[sortWorldK,grow,putRowK,putRow,mapBlock,Go.Sort.ahead]
 have hoth:∀c,c<w.heap.size->c≠b->(sortWorldK lH 4 w b 0 n d.toArray os).heap[c]?=w.heap[c]?:=fun c hc hcb=>by
  simp only[sortWorldK,grow,putRowK,putRow,mapBlock,Go.Sort.ahead];rw[Array.getElem?_append_left (by simpa using hc),Array.getElem?_modify];rw[i0_ (fun e=>hcb e.symm)]
 have hself:(sortWorldK lH 4 w b 0 n d.toArray os).heap[b]?=some (.cells (putCells (fun x=>x) 0 (flatK lH 4 d.toArray) vs) e (0,0)):=by
  simp only[sortWorldK,grow,putRowK,putRow,mapBlock,Go.Sort.ahead];rw[Array.getElem?_append_left (by simpa using hbl),Array.getElem?_modify];rw[i1_ rfl,hb];rfl
 have hF:(flatK lH 4 d.toArray).size<=vs.size:=by omega
 refine hs.writeG hid hoth (by omega) Z Z Z (fun c e' f hc=>?_) fun hE=>?_
 ·rw[hb]at hc;cases hc;exact⟨_,hself,by simp[putCells]⟩
 ·rw[<-hd]
  have hlen:d.length=(d.map aO).length:=by rw[List.length_map]
  rw[hlen];refine .vec hself (by rw[List.length_map];simp[putCells];omega) (fun h=>hne (List.map_eq_nil_iff.1 h)) (fun x hx=>?_) fun i c u hc hu=>?_
  ·obtain⟨v,-,rfl⟩:=List.mem_map.1 hx;exact⟨rfl,fun c hc=>by simp[aO,PV.cells]at hc;rcases hc with rfl|rfl|rfl|rfl <;>trivial⟩
  ·rw[pL]at hc
   have hi:i<4*d.length:=by
    have h1:=(List.getElem?_eq_some_iff.1 hc).1;have h2:=Aj d;omega
   obtain⟨v,hv,hr,he⟩:=O6 hi;have h3:=pK (f:=Ez) (k:=4) (fun _=>rfl) d _ _ v hv hr;rw[Nat.mul_comm,<-he,hc]at h3;rw[AZ hF (by omega),Aq hi hv]at hu;obtain⟨k1,k2,k3,k4⟩:=hk v (List.mem_of_getElem? hv);cases hu;generalize i % 4=r at hr h3⊢
   match r,hr with
   |0,_=>cases h3;exact .int k1
   |1,_=>cases h3;exact .int k2
   |2,_=>cases h3;exact .int k3
   |3,_=>cases h3;exact .int k4
open Go.Shelf Go.Sort Go.Proofs
theorem EV {l:List Vt}{d:Array Vt}(h:PermIn 0 l.toArray.size l.toArray d):d.toList.Perm l:=by
 have h1:=h.2.2;have e1:l.toArray.extract 0 l.toArray.size=l.toArray:=Array.extract_size
 have e2:d.extract 0 l.toArray.size=d:=by rw[<-h.1];exact Array.extract_size
 rw[e1,e2]at h1;simpa using h1
theorem EY {d:Array Vt}{n:Nat}{lt:Vt->Vt->Bool}(hlt:∀x y,lt x y=decide (x.From<y.From))(hn:d.size=n)(h:SortedIn lt 0 n d):qy d.toList:=by
 unfold qy;rw[List.pairwise_iff_getElem];intro i j hi hj hij;have:=h i j (Nat.zero_le _) hij (by simpa [hn]using hj);rw[hlt]at this
 have h1:d[j]! =d.toList[j]:=by rw[getElem!_pos d j (by simpa using hj)];simp
 have h2:d[i]! =d.toList[i]:=by rw[getElem!_pos d i (by simpa using hi)];simp
 rw[h1,h2]at this;have:=of_decide_eq_false this;omega
theorem LC.sortVotes {P:Program}{F g:FuncId}{H:List ab}{id:Nat}{l:List Vt}{lt:Vt->Vt->Bool}(hlt:∀x y,lt x y=decide (x.From<y.From))
  (hN:∀(p:Option Addr) (cap:Nat) (fv:Value) (w:World),Calls P F #[.slice p 0 cap,fv] w fun e w'=>e=.returned (.tuple #[])/\w'=w)
  (hS:∀(blk off cap:Nat) (d:Array Vt) (w:World),HoldsK lH 4 w blk off d->blk<w.heap.size->d.size<4611686018427387904->Calls P F #[.slice (some ⟨blk,off,none⟩) d.size cap,.func (.func g) #[] #[]] w fun e w'=>
   e=.returned (.tuple #[])/\∃d' n os,PermIn 0 d.size d d'/\SortedIn lt 0 d.size d'/\w'=sortWorldK lH 4 w blk off n d' os)
  (hH:bl H id=some (.vec 4 (l.map aO))) (hd:∀x∈l,∀y∈l,x.From=y.From->x=y) (hlen:l.length<=1000000) :
  LC P F [.vec 4 id (l.map aO).length 0 (l.map aO).length,.fn g [] []] H (Is (.tup []) (H.set id (.vec 4 ((iT l).map aO)))):=by
 intro args w μ I hs ha;rw[bh]at hH;obtain⟨al⟩:=args
 match al,ha with
 | [v1,v2],ha=>
  obtain⟨h1,h2,-⟩:=ha
  have hv2:v2=.func (.func g) #[] #[]:=by
   cases h2 with
   |@fn _ _ _ fs cs hl hl' _ _=>
    rw[Array.eq_empty_of_size_eq_zero hl,Array.eq_empty_of_size_eq_zero hl']
  subst hv2
  cases h1 with
  |@vec _ _ _ _ _ B _ hid h1 hn hf=>
  by_cases hne:l=[]
  ·subst hne;have hob:=hs.objs id _ _ hH hid
   have hB:B=⟨none,0⟩:=by
    cases hob with
    |vecE=>rfl
    |vec _ _ hne' _ _=>exact absurd rfl hne'
   subst hB;rcases hf rfl with⟨-,⟨a,rfl⟩,-⟩|⟨b,cap,hb,-⟩
   ·refine(hN a 0 _ w).mono fun e w' he=>?_;obtain⟨rfl,rfl⟩:=he;refine⟨.tup [],_,_,μ,I,rfl,⟨rfl,rfl⟩,?_,.tup Z (fun i c v hc=>by simp at hc),.refl _ _ _ _ (Nat.le_refl _)⟩;have hil:=(List.getElem?_eq_some_iff.1 hH).1
    have:H.set id (.vec 4 ((iT []).map aO))=H:=by
     apply List.ext_getElem?;intro i;rw[List.getElem?_set];split
     ·rename_i e;subst e;first|exact hH.symm|(rw[i1_ hil];exact hH.symm)
     ·rfl
    rw[this];exact hs
   ·cases hb
  ·obtain⟨b,vs,e,rfl,hb,hsz,hcells⟩:=Ff hs hne hH hid;have hll:(l.map aO).length=l.length:=List.length_map _;have hl0:l.length≠0:=fun h=>hne (List.length_eq_zero_iff.1 h);rcases hf hll with⟨h0,-⟩|⟨b',cap,hb',rfl,hc1,hc2,-⟩
   ·omega
   ·cases hb';have hbl:b<w.heap.size:=(Array.getElem?_eq_some_iff.1 hb).1
    have hmax:l.length<4611686018427387904:=by omega
    have hcall:=hS b 0 cap l.toArray w (xn hb fun q v hq=>(hcells q v hq).2) hbl (by simpa using hmax)
    have es:l.toArray.size=(l.map aO).length:=by simp
    rw[es]at hcall;refine hcall.mono fun ex w' he=>?_;obtain⟨rfl,d',n,os,hp,hso,rfl⟩:=he;rw[<-es]at hp hso;have hperm:=EV hp;have hds:d'.toList=iT l:=(Ij hperm.symm (EY hlt hp.1 hso) hd).symm
    have hd':d'=(iT l).toArray:=by rw[<-hds]
    subst hd';have hsl:(iT l).length=l.length:=(cO l).length_eq
    obtain⟨s1,s2⟩:=E8 (n:=n) (os:=os) (d:=iT l) hs hid hb hsz hsl (fun h=>hl0 (by rw[<-hsl,h];rfl)) fun v hv=>by
     obtain⟨q,hq⟩:=List.getElem?_of_mem ((cO l).mem_iff.1 hv);exact(hcells q v hq).1
    exact⟨.tup [],_,_,μ,I,rfl,⟨rfl,rfl⟩,s1,.tup Z (fun i c v hc=>by simp at hc),s2⟩
end Go.Mg
namespace Go.Proofs
open Go.Shelf Go.RowKit Go.Lib Go.Sort Go.Mg
set_option maxHeartbeats 1000000 in
theorem Tryz.closV (x y:Vt)(W:World):Calls Tryz.prog 219 #[.agg #[.int .i64 x.From,.int .i64 x.Slot,.int .u64 x.Head.1,.int .u64 x.Head.2],.agg #[.int .i64 y.From,.int .i64 y.Slot,.int .u64 y.Head.1,.int .u64 y.Head.2]] W fun e w'=>e=.returned (.int .i64 (Lib.compareInt x.From y.From))/\∃q os',w'=grow (W.drewN q) os':=by
 have hcon:=fun W'=>AnyG.cmp_Compare_int Tryz.cmpVt x.From y.From W';change ∀W',Calls Tryz.prog 220 _ _ _ at hcon;generalize Lib.compareInt x.From y.From=r at hcon⊢
 go_enter Tryz.func219,Tryz.ntmps219
 go_wp2_with (go_at_call 220;refine(hcon _).mono ?_;rintro e w' ⟨rfl,rfl⟩)
 go_ret
 exact⟨rfl,0,_,by rw[alloc_eq_grow,alloc_eq_grow,grow_grow];rfl⟩
theorem Tryz.ltV (x y:Vt):ltOf (fun x y:Vt=>Lib.compareInt x.From y.From) x y=decide (x.From<y.From):=by
 unfold ltOf Lib.compareInt;by_cases h1:x.From<y.From
 ·simp[h1]
 ·by_cases h2:y.From<x.From <;>simp[h1,h2]
theorem Tryz.swoV :SWO (ltOf fun x y:Vt=>Lib.compareInt x.From y.From) where
 irrefl x:=by rw[Tryz.ltV];simp
 trans x y z h1 h2:=by rw[Tryz.ltV]at *;simp at *;omega
 ntrans x y z h1 h2:=by rw[Tryz.ltV]at *;simp at *;omega
theorem Tryz.sortV_call {H H':List ab}{id:Nat}{l:List Vt}(hH:bl H id=some (.vec 4 (l.map aO)))(hk:Ci l=true)(hH':bH H id (.vec 4 ((iT l).map aO))=some H') :
  LC Tryz.prog 218 [.vec 4 id (l.map aO).length 0 (l.map aO).length,.fn 219 [] []] H (Is (.tup []) H'):=by
 obtain⟨e3,-⟩:=bE hH';subst e3;have hk:=of_decide_eq_true hk;refine LC.sortVotes Tryz.ltV (fun p cap fv w=>AnyF.slices_SortFunc_none Tryz.sortVt p cap fv w) (fun blk off cap d w hH hb hs=>?_) hH hk.2 hk.1;exact AnyQ.slices_SortFunc Tryz.sortVt 4 Tryz.isAgg111 Tryz.sizeOf111 lH (fun _=>rfl) (fun x v hv=>by simp[lH]at hv;rcases hv with rfl|rfl|rfl|rfl <;>rfl) (fun x y=>Lib.compareInt x.From y.From) Tryz.swoV 219 #[] blk off cap d w (enters_of Tryz.func219 (by kernel_rfl) Z) (fun _ _ _ _ x y=>Tryz.closV x y _) hH hb hs
end Go.Proofs
namespace Go.Mg
open Go.Proofs
def tt (l:List Vt):Option (List Vt):=bif Ci l then some (iT l)else none
theorem Ho {l:List Vt}{r_:List Vt}(h:tt l=some r_):LC Tryz.prog 181 [.vec 4 0 (l.map aO).length 0 (l.map aO).length] [.vec 4 (l.map aO)] (Is (.vec 4 0 (r_.map aO).length 0 (r_.map aO).length) [.vec 4 (r_.map aO)]):=by
 refine eP Tryz.func181 Z Z Z ?_;unfold tt at h;refine qR<|mN Z<|qR<|zM Z<|zg h fun q1 h=>yS Z (yC Z Z Z (Tryz.sortV_call Z q1 Z))<|nT<|qR<|zM Z<|mN Z<|zr ?_;cases h;exact aD (.one (.tmp Z)) (⟨congrArg (fun n=>LV.vec 4 0 n 0 n) (show(l.map aO).length=((iT l).map aO).length by rw[List.length_map,List.length_map,(cO l).length_eq]),rfl⟩)
open Go.Proofs
structure ii where
 out:List Vt
def nu (slot:Int)(b:List (Du×ID)×List (Du×Bool))(j_:Nat)(d_:ii):Option ii:=(b.1[j_]?).bind fun y1=>(bif ((y1.1.frm==y1.1.frm)&&((y1.1.slot==slot)&&true))then some (!((ak b.2 y1.1).getD false))else some false).bind fun v1=>bif v1 then bif bG d_.out.length [Vt.mk y1.1.frm slot y1.2].length 32 then some (ii.mk (d_.out++[Vt.mk y1.1.frm slot y1.2]))else none else some (ii.mk d_.out)
def P2 (slot:Int)(b:List (Du×ID)×List (Du×Bool))(ord_:List Nat):Option (List Vt):=(iN (nu slot b) ord_ (ii.mk ([]:List Vt))).bind fun d_=>(tt d_.out).bind fun v2=>some v2
theorem QU {l:List Vt}{slot:Int}{b:List (Du×ID)×List (Du×Bool)}{r_:List Vt}(hb:zj l=some b)(hr:∀ord_:List Nat,ord_.Perm (List.range b.1.length)->P2 slot b ord_=some r_):LC Tryz.prog 140 [(kV l),(iQ slot)] [] (Is (jV 0 r_) [.vec 4 (r_.map aO)]):=by
 refine eP Tryz.func140 Z Z Z ?_;unfold P2 at hr;refine qR<|mN Z<|qR<|mN Z<|qR<|zM Z<|yS Z (yC Z Z Z (Mk hb))<|yS Z (ze Z Cx Z Z)<|yS Z (zs Z Z Z Z xH Z Z Z Z)<|nT<|zQ<|qR<|yS Z (zA Z Z uC)<|yS Z (zD Z Z Z Cp Z Z) ?_;refine yS Z (aa.rangeMap (es:=(ar vD (fun v=>.p (aX v)) b.1)) Z Z Z (sn _) (by kernel_rfl) Z Z) ?_;refine nT<|LW.ent (bW.lazy (t:=5) (m:=4) Z Z Z) ?_;refine LW.mapTail (D:=ii) (G:=fun d_ s_=>wZ (nu slot b) b.1.length (ii.mk ([]:List Vt)) s_ d_/\s_.Perm (List.range b.1.length)) (fun d_ s_=>[(4,.zs),(5,(jV 6 d_.out))]) (fun d_ s_=>[.box [.map 1,.map 2],.map (ar vD (fun v=>.p (aX v)) b.1),.map (ar vD (fun v=>(bQ v)) b.2),.box [.map 1,.map 2],.box [.map 1,.map 2],.iter (.map 1) b.1.length s_,.vec 4 (d_.out.map aO)]) ?_<|fun d_ s_ hG env_m H_m hw_m=>?_
 ·refine LW.block ?_;have hall:∀ord:List Nat,ord.Perm (List.range b.1.length)->∃z,iN (nu slot b) ord (ii.mk ([]:List Vt))=some z:=fun ord ho=>(zB (hr ord ho)).imp fun z h=>h.1;refine LW.mapLoop (step:=(nu slot b)) (n:=b.1.length) (d0:=ii.mk ([]:List Vt)) (fun d_ s_=>[(1,(iQ slot)),(4,.zs),(5,(jV 6 d_.out)),(6,.ptr 4 0),(13,.ptr 5 0)]) (fun d_ s_=>[.box [.map 1,.map 2],.map (ar vD (fun v=>.p (aX v)) b.1),.map (ar vD (fun v=>(bQ v)) b.2),.box [.map 1,.map 2],.box [.map 1,.map 2],.iter (.map 1) b.1.length s_,.vec 4 (d_.out.map aO)]) hall (zW 7 ⟨Z,Z,Z,Z,Z,t_⟩ Z Z Z (zL Z (zL (ai (fun _=>rfl) _) (zL (ai (fun _=>rfl) _) (ci Z)))))<|fun d_ s_ hS=>?_;refine qR ?_;refine ax.cons Z Z Z (aa.nextMap (es:=(ar vD (fun v=>.p (aX v)) b.1)) Z Z Z Z (sn _)) ?_;rintro x_ H_ (⟨ha_,rfl,rfl⟩|⟨j_,hj_,hs_,rfl,rfl⟩)
  ·exact yS Z (eZ Z Z Z)<|nT<|zQ<|LW.condF Z<|zq<|aj<|aj<|zy<|zT<|⟨d_,s_,hS.all ha_,zW 7 ⟨Z,Z,t_⟩ Z Z Z (zL Z (zL (ai (fun _=>rfl) _) (zL (ai (fun _=>rfl) _) (ci Z))))⟩
  ·obtain⟨e_,hr0,-⟩:=hS.next hall hj_ hs_;have hr:=hr0;unfold nu at hr;refine yS Z (eZ Z Z Z)<|nT<|zQ<|LW.condT Z<|zk<|zT<|zl<|qR<|zb hr fun y1 j1 hr=>?_;refine yS Z (aa.entryMap (es:=(ar vD (fun v=>.p (aX v)) b.1)) Z Z Z Z (sn _) (Hw j1)) ?_;refine yS Z (eZ Z Z Z)<|yS Z (eZ Z Z Z)<|yS Z (ze Z IM Z Z)<|yS Z (ze Z gT Z Z)<|yS Z (zs Z Z Z Z p5 Z Z Z Z)<|yS Z (zs Z Z Z Z aG Z Z Z Z)<|nT ?_;obtain⟨v1,b1,c1⟩:=zB hr;clear hr;refine LW.cut (E:=[(1,(iQ slot)),(4,.zs),(5,(jV 6 d_.out)),(6,.ptr 4 0),(7,.ptr 7 0),(8,.ptr 8 0),(13,.ptr 5 0),(31,(bQ v1))]) (O:=[.box [.map 1,.map 2],.map (ar vD (fun v=>.p (aX v)) b.1),.map (ar vD (fun v=>(bQ v)) b.2),.box [.map 1,.map 2],.box [.map 1,.map 2],.iter (.map 1) b.1.length (s_++[j_]),.vec 4 (d_.out.map aO),.box [(iQ y1.1.frm),(iQ y1.1.slot)],.box [(uQ y1.2.1),(uQ y1.2.2)]]) ?_ ?_
   ·have hr:=b1;refine zR<|yS Z (zD Z Z Z p5 Z Z)<|yS Z (zA Z Z Aw)<|yS Z (zD Z Z Z aV Z Z)<|zM Z<|yS Z (aa.build Z Ha Z Z Z)<|yS Z (aa.eqlAgg Z Z Z Z Z JV)<|zM Z ?_;refine zc 25 Z (fun g1=>?_)<|fun g1=>?_
    ·refine zi g1 hr fun hr=>yV Z (gd g1 Z) (zA Z Z Av)<|yV Z (gd g1 Z) (zD Z Z Z Iv Z Z)<|yV Z (gd g1 Z) (zD Z Z Z p5 Z Z) ?_;refine yV Z (gd g1 Z) (aa.getX (f:=vD) (g:=(fun v=>(bQ v))) y1.1 false Da Z Z Z Z HV PW Z Z) ?_;refine yV Z (gd g1 Z) (aa.not Z Z)<|yS Z (bA Z (aK g1 Z) Z)<|nT ?_;cases hr;exact zW 9 ⟨Z,Z,Z,Z,Z,Z,Z,Z,t_⟩ Z Z Z<|zL Z<|zL (ai (fun _=>rfl) _)<|zL (ai (fun _=>rfl) _)<|ci<|zL Z<|zL Z Z
    ·refine zo g1 hr fun hr=>yU Z (gd g1 Z) Z<|yU Z (gd g1 Z) Z<|yU Z (gd g1 Z) Z<|yU Z (gd g1 Z) Z<|yU Z (gd g1 Z) Z<|yS Z (aU Z (aK g1 Z) Z)<|nT ?_;cases hr;exact zW 9 ⟨Z,Z,Z,Z,Z,Z,Z,Z,t_⟩ Z Z Z<|zL Z<|zL (ai (fun _=>rfl) _)<|zL (ai (fun _=>rfl) _)<|ci<|zL Z<|zL Z Z
   ·have hr:=c1;clear b1;refine zX Z (fun g2=>?_)<|fun g2=>?_
    ·refine zi g2 hr fun hr=>zR<|zM Z<|yS Z (zA Z Z Aw)<|yS Z (zD Z Z Z aV Z Z)<|zM Z<|yS Z (zD Z Z Z aG Z Z)<|yS Z (aa.build Z LZ Z Z Z)<|yS Z (gU Z bz Z Z Z Z Z)<|zg hr fun q1 hr=>yS Z (aa.appendX aO d_.out [Vt.mk y1.1.frm slot y1.2] rfl Z Z Z iC.p Z bz q1 Z)<|zM Z<|zN<|ae<|zT ?_;cases hr;exact⟨j_,_,hj_,hs_,hr0,zW 7 ⟨Z,Z,Z,Z,Z,t_⟩ Z Z Z (zL Z (zL (ai (fun _=>rfl) _) (zL (ai (fun _=>rfl) _) (ci Z))))⟩
    ·refine zo g2 hr fun hr=>zk<|ae<|zT ?_;cases hr;exact⟨j_,_,hj_,hs_,hr0,zW 7 ⟨Z,Z,Z,Z,Z,t_⟩ Z Z Z (zL Z (zL (ai (fun _=>rfl) _) (zL (ai (fun _=>rfl) _) (ci Z))))⟩
 ·have hr:=Nr (hr s_ hG.2) hG.1.came;refine zT<|LW.weak hw_m<|zQ<|LW.ent (bW.last (t:=5) (j:=0) (Hj:=[]) Z Z Z Z Z Z Z)<|zR<|zM Z<|zb hr fun v2 a2 hr=>yS Z (yC Z Z Z (Ho a2))<|mN Z<|zr ?_;cases hr;exact aD (.one (.tmp Z))<|⟨rfl,rfl⟩
open Go.Proofs
theorem uN {α β:Type}[DecidableEq α](k:α)(v:β):∀m:List (α×β),(bK m k v).map Prod.fst=if k∈m.map Prod.fst then m.map Prod.fst else m.map Prod.fst++[k]
 |[]=>by simp[bK]
 |(x,y)::r=>by
  have ih:=uN k v r;by_cases h:x=k
  ·subst h;simp[bK]
  ·have h':¬k=x:=fun e=>h e.symm;simp only[bK,i0_ h,List.map_cons,ih,List.mem_cons,h',false_or];split <;>rfl
theorem B4 {α β:Type}[DecidableEq α]{m:List (α×β)}(k:α)(v:β)(h:(m.map Prod.fst).Nodup):((bK m k v).map Prod.fst).Nodup:=by
 rw[uN];split
 ·exact h
 ·rename_i hk;exact List.nodup_append.2 ⟨h,by simp,fun a ha b hb=>by rw[List.mem_singleton]at hb;subst hb;exact fun e=>hk (e▸ha)⟩
theorem HL {α β:Type}[DecidableEq α](m:List (α×β))(k:α)(v:β):(bK m k v).length<=m.length+1:=by
 have h:=congrArg List.length (uN k v m);split at h <;>simp at h <;>omega
def qG (v:Vt):Du:=⟨v.From,v.Slot⟩
def xf (h:List (Du×ID))(v:Vt):Bool:=match ak h (qG v)with
 |some w=>decide (w≠v.Head)
 |none=>false
def G8 (b:List (Du×ID)×List (Du×Bool))(v:Vt):List (Du×ID)×List (Du×Bool):=(bK b.1 (qG v) v.Head,if xf b.1 v=true then bK b.2 (qG v) true else b.2)
def cH (l:List Vt):List (Du×ID)×List (Du×Bool):=l.foldl G8 ([],[])
theorem mA (l:List Vt)(v:Vt):cH (l++[v])=G8 (cH l) v:=by unfold cH;rw[List.foldl_append];rfl
theorem GR {l:List Vt}(hl:l.length<=100000):zj l=some (cH l):=by
 have e:=av (step:=lD l) (n:=l.length) (fun k=>eF.mk (k:Int) (cH (l.take k)).1 (cH (l.take k)).2) (eF.mk (l.length:Int) (cH l).1 (cH l).2) (fun k hk=>by
  obtain⟨y,hy,-⟩:=aA hk
  have et:l.take (k+1)=l.take k++[y]:=by rw[List.take_add_one,hy];rfl
  unfold lD;simp only;rw[eN,aw hy,ob,et,mA,ah (n:=k)];generalize cH (l.take k)=b;unfold G8 xf qG
  cases hf:ak b.1 (Du.mk y.From y.Slot)with
  |none=>simp only[Option.isSome_none,cf];rfl
  |some w=>
   simp only[Option.isSome_some,ct,Option.getD_some,rV];by_cases hw:w=y.Head
   ·rw[aQ hw,Bool.not_true,cf];simp[hw]
   ·rw[aR hw,Bool.not_false,ct];simp[hw]) (by
  unfold lD;simp only
  rw[gt,List.take_length]) (by omega)
 have e':iter (lD l) aY (eF.mk 0 [] [])=_:=e;unfold zj;rw[e',ob]
theorem oK (l:List Vt):((cH l).1.map Prod.fst).Nodup/\(cH l).1.length<=l.length:=by
 have key:∀k,k<=l.length->((cH (l.take k)).1.map Prod.fst).Nodup/\(cH (l.take k)).1.length<=k:=by
  intro k
  induction k with
  |zero=>intro _;simp[cH]
  |succ k ih=>
   intro hk;obtain⟨y,hy,-⟩:=aA (l:=l) (n:=k)
   have et:l.take (k+1)=l.take k++[y]:=by rw[List.take_add_one,hy];rfl
   obtain⟨h1,h2⟩:=ih (by omega);rw[et,mA];exact⟨B4 _ _ h1,Nat.le_trans (HL _ _ _) (by omega)⟩
 have:=key l.length (Nat.le_refl _)
 rwa [List.take_length]at this
def hZ (d:List (Du×Bool))(slot:Int)(e:Du×ID):Option Vt:=if e.1.slot=slot/\(ak d e.1).getD false=false then some ⟨e.1.frm,slot,e.2⟩else none
def qW (b:List (Du×ID)×List (Du×Bool))(slot:Int)(j:Nat):Option Vt:=(b.1[j]?).bind (hZ b.2 slot)
theorem zU {slot:Int}{b:List (Du×ID)×List (Du×Bool)}:∀(ord:List Nat) (out:List Vt),(∀j∈ord,j<b.1.length)->out.length+ord.length<=100000->iN (nu slot b) ord (ii.mk out)=some (ii.mk (out++ord.filterMap (qW b slot)))
 |[],out,_,_=>by simp[iN]
 | j ::r,out,hj,hl=>by
  obtain⟨e,he,-⟩:=aA (hj j (.head _))
  have hl2:out.length+r.length+1<=100000:=by simp only[List.length_cons]at hl;omega
  have hs:nu slot b j (ii.mk out)=some (ii.mk (out++(hZ b.2 slot e).toList)):=by
   unfold nu;rw[he,ob];unfold hZ;simp only;rw[beq_self_eq_true,Bool.true_and,Bool.and_true];by_cases h1:e.1.slot=slot
   ·rw[beq_iff_eq.2 h1,ct,ob]
    cases h2:(ak b.2 e.1).getD false with
    |false=>
     rw[Bool.not_false,ct,aC (by simp only[List.length_singleton];omega),ct,i1_ ⟨h1,rfl⟩];rfl
    |true=>rw[Bool.not_true,cf,i0_ (by simp)];simp
   ·rw[beq_eq_false_iff_ne.2 h1,cf,ob,cf,i0_ (fun h=>h1 h.1)];simp
  have hlen:(hZ b.2 slot e).toList.length<=1:=by cases hZ b.2 slot e <;>simp
  unfold iN;rw[hs];simp only;rw[zU r _ (fun i hi=>hj i (.tail _ hi)) (by rw[List.length_append];omega)]
  have hk:qW b slot j=hZ b.2 slot e:=by unfold qW;rw[he];rfl
  rw[List.filterMap_cons,hk];cases hZ b.2 slot e <;>simp
theorem Cc (b:List (Du×ID)×List (Du×Bool))(slot:Int):(List.range b.1.length).filterMap (qW b slot)=b.1.filterMap (hZ b.2 slot):=by
 have key:∀k,k<=b.1.length->(List.range k).filterMap (qW b slot)=(b.1.take k).filterMap (hZ b.2 slot):=by
  intro k
  induction k with
  |zero=>intro _;rfl
  |succ k ih=>
   intro hk;obtain⟨y,hy,-⟩:=aA (l:=b.1) (n:=k)
   have et:b.1.take (k+1)=b.1.take k++[y]:=by rw[List.take_add_one,hy];rfl
   rw[List.range_succ,List.filterMap_append,ih (by omega),et,List.filterMap_append];congr 1
   have hk2:qW b slot k=hZ b.2 slot y:=by unfold qW;rw[hy];rfl
   rw[List.filterMap_cons,List.filterMap_cons,hk2];rfl
 have:=key b.1.length (Nat.le_refl _)
 rwa [List.take_length]at this
def uU (l:List Vt)(slot:Int):List Vt:=iT ((cH l).1.filterMap (hZ (cH l).2 slot))
theorem AG {m:List (Du×ID)}{d:List (Du×Bool)}{slot:Int}(h:(m.map Prod.fst).Nodup):∀x∈m.filterMap (hZ d slot),∀y∈m.filterMap (hZ d slot),x.From=y.From->x=y:=by
 have hmem:∀x∈m.filterMap (hZ d slot),(⟨x.From,slot⟩,x.Head)∈m/\x.Slot=slot:=by
  intro x hx;obtain⟨e,he,hk⟩:=List.mem_filterMap.1 hx;unfold hZ at hk;split at hk
  ·rename_i hc;cases hk;obtain⟨⟨f,s⟩,id⟩:=e;simp only at hc;obtain⟨rfl,-⟩:=hc;exact⟨he,rfl⟩
  ·cases hk
 intro x hx y hy hf;obtain⟨h1,h2⟩:=hmem x hx;obtain⟨h3,h4⟩:=hmem y hy;rw[<-hf]at h3
 have hh:x.Head=y.Head:=by
  obtain⟨i,hi⟩:=List.getElem?_of_mem h1;obtain⟨j,hj⟩:=List.getElem?_of_mem h3
  have hi':(m.map Prod.fst)[i]?=some ⟨x.From,slot⟩:=by rw[List.getElem?_map,hi];rfl
  have hj':(m.map Prod.fst)[j]?=some ⟨x.From,slot⟩:=by rw[List.getElem?_map,hj];rfl
  have:=(List.getElem?_inj (List.getElem?_eq_some_iff.1 hi').1 h).1 (hi'.trans hj'.symm);subst this;rw[hi]at hj;exact congrArg Prod.snd<|Option.some.inj hj
 cases x;cases y;simp only at hf h2 h4 hh;subst hf h2 hh;rw[h4]
theorem LB {l:List Vt}(hl:l.length<=90000)(slot:Int):∀ord:List Nat,ord.Perm (List.range (cH l).1.length)->P2 slot (cH l) ord=some (uU l slot):=by
 intro ord ho;obtain⟨h1,h2⟩:=oK l;have hlen:=ho.length_eq;rw[List.length_range]at hlen;unfold P2 uU;have hp:=ho.filterMap (qW (cH l) slot);rw[Cc]at hp;have hk:Ci (ord.filterMap (qW (cH l) slot))=true:=aQ ⟨Nat.le_trans (List.length_filterMap_le _ _) (by omega),fun x hx y hy=>AG h1 x (hp.mem_iff.1 hx) y (hp.mem_iff.1 hy)⟩;rw[zU ord [] (fun j hj=>List.mem_range.1 (ho.mem_iff.1 hj)) (by simp;omega),ob,List.nil_append];simp only;unfold tt;rw[hk,ct,E7 hp.symm (AG h1)];rfl
def Jw (v:List Vt)(slot:Int):Option (List Vt):=bif Nat.ble v.length 90000 then some (uU v slot)else none
theorem OX {v:List Vt}{slot:Int}{r_:List Vt}(hr:Jw v slot=some r_):LC Tryz.prog 140 [.p (.slice 4 (v.map aO)),.p (.int .i64 slot)] [] (Is (.vec 4 0 (r_.map aO).length 0 (r_.map aO).length) [.vec 4 (r_.map aO)]):=by
 unfold Jw at hr;obtain⟨q,hr⟩:=Dw hr;obtain rfl:=Option.some.inj hr;have hl:=Nat.le_of_ble_eq_true q;exact QU (GR (by omega))<|LB hl slot
open Go.Proofs
structure fN where
 t8:Int
def k7 (s:List Int)(v:Int)(x1:fN):Option (fN⊕(fN⊕Int)):=bif decide (x1.t8<(s.length:Int))then (ix s x1.t8).bind fun y1=>bif v==y1 then some (.inr (.inr x1.t8))else some (.inl (fN.mk (IntKind.i64.wrap (x1.t8+1))))else some (.inr (.inl (fN.mk x1.t8)))
def CE (s:List Int)(v:Int):Option Int:=(iter (k7 s v) aY (fN.mk 0)).bind fun b_v1=>Sum.elim (fun _=>some (-1)) some b_v1
theorem ND {s:List Int}{v:Int}{r_:Int}(h:CE s v=some r_):aq Tryz.prog 221 [.slice 1 (s.map be),.int .i64 v] [.int .i64 r_]:=by
 refine zh Tryz.func221 Z Z Z Z ?_;unfold CE at h;refine qR<|mN Z<|zQ<|qR<|zM Z<|yS Z (cx Z Z)<|mN Z ?_;obtain⟨w1,p1,q1⟩:=zB h;clear h;refine LW.tailB (b:=w1) (E:=fun v1=>[(4,(iQ 0))]) (O:=fun v1=>[]) ?_<|fun v1 f1 e1 K1 u1=>?_
 ·refine LW.block ?_;refine LW.iterB (E:=fun x1:fN=>[(0,(kI s)),(1,(iQ v)),(4,(iQ 0)),(7,.p (.int .i64 (s.length:Int))),(8,(iQ x1.t8))]) (O:=fun x1=>[]) p1 (au 0 ⟨Z,Z,Z,Z,Z,t_⟩)<|fun x1 z1 h m1=>?_;unfold k7 at h;refine qR<|yS Z (am Z Z Z Z)<|nT<|zQ ?_;refine zX Z (fun g1=>?_)<|fun g1=>?_
  ·refine zi g1 h fun h=>zk<|zT<|zQ<|zl<|qR<|zM Z<|mN Z<|qR<|zM Z<|zM Z<|zM Z<|zb h fun y1 j1 h=>yS Z (zx Z Z Z MK j1 Z)<|yS Z (bS Z Z Z aV Z Z)<|yS Z (am Z Z Z Z)<|nT ?_;refine zX Z (fun g2=>?_)<|fun g2=>?_
   ·refine zi g2 h fun h=>qR<|zM Z<|mN Z<|zr<|ao<|af<|af<|ao<|af<|af ?_;cases h;obtain rfl:=(m1 _ rfl);have h:=bT q1;cases h;exact ba Z
   ·refine zo g2 h fun h=>zk<|ae<|zT<|zR<|yS Z (am Z Z Z Z)<|mN Z ?_;cases h;exact⟨_,rfl,au 0 ⟨Z,Z,Z,Z,Z,t_⟩⟩
  ·refine zo g1 h fun h=>zq<|aj<|aj<|zy<|zT ?_;cases h;obtain rfl:=(m1 _ rfl);exact⟨_,rfl,au 0 ⟨Z,t_⟩⟩
 ·obtain rfl:=f1;have h:=cU q1;clear p1;refine zT<|LW.weak u1<|qR<|mN Z<|zr ?_;cases h;exact ba Z
def xV (s:List Int)(v:Int):Option Bool:=(CE s v).bind fun v1=>some (decide (v1>=0))
theorem NC {s:List Int}{v:Int}{r_:Bool}(h:xV s v=some r_):aq Tryz.prog 182 [.slice 1 (s.map be),.int .i64 v] [.bool r_]:=by
 refine zh Tryz.func182 Z Z Z Z ?_;unfold xV at h;refine qR<|mN Z<|qR<|zM Z<|zM Z<|zb h fun v1 a1 h=>yS Z (yP Z Z Z (ND a1) bR)<|yS Z (am Z Z Z Z)<|mN Z<|zr ?_;cases h;exact ba Z
def vK (b:List Int)(v:Vt):Option Bool:=(xV b v.From).bind fun v1=>some (!v1)
theorem Kw {b:List Int}{v:Vt}{r_:Bool}(h:vK b v=some r_):aq Tryz.prog 141 [.slice 1 (b.map be),aO v] [.bool r_]:=by
 refine zh Tryz.func141 Z Z Z Z ?_;unfold vK at h;refine qR<|yS Z (bv Z Z Z Z Z)<|mN Z<|qR<|zM Z<|yS Z (zA Z Z im)<|yS Z (zD Z Z Z aV Z Z)<|zb h fun v1 a1 h=>yS Z (yP Z Z Z (NC a1) bR)<|yS Z (aa.not Z Z)<|mN Z<|zr ?_;cases h;exact ba Z
structure jw where
 t8:Int
def k9 (lV:List Vt)(kk:Nat)(cm:List Int)(x1:jw):Option (jw⊕(jw⊕Int)):=bif decide (x1.t8<(kk:Int))then (ix (lV.take kk) x1.t8).bind fun y1=>(vK cm y1).bind fun v2=>bif v2 then some (.inr (.inr x1.t8))else some (.inl (jw.mk (IntKind.i64.wrap (x1.t8+1))))else some (.inr (.inl (jw.mk x1.t8)))
def x6 (lV:List Vt)(kk:Nat)(cm:List Int):Option Int:=(iter (k9 lV kk cm) aY (jw.mk 0)).bind fun b_v1=>Sum.elim (fun _=>some (-1)) some b_v1
theorem Mh {c:Cf}{lV:List Vt}{kk:Nat}{cm:List Int}{r_:Int}(h:x6 lV kk cm=some r_):LC Tryz.prog 183 [.vec 4 1 (lV.map aO).length 0 kk,.fn 141 [(kI cm)] []] [.box (cd c),.vec 4 (lV.map aO)] (Is (iQ r_) [.box (cd c),.vec 4 (lV.map aO)]):=by
 refine eP Tryz.func183 Z Z Z ?_;unfold x6 at h;refine qR<|mN Z<|zQ<|qR<|zM Z<|yS Z (aa.lenVP Z Z Z (by kernel_rfl))<|mN Z ?_;obtain⟨w1,p1,q1⟩:=zB h;clear h;refine LW.tailB (b:=w1) (E:=fun v1=>[(4,(iQ 0))]) (O:=fun v1=>[.box (cd c),.vec 4 (lV.map aO)]) ?_<|fun v1 f1 e1 K1 u1=>?_
 ·refine LW.block ?_;refine LW.iterB (E:=fun x1:jw=>[(0,.vec 4 1 (lV.map aO).length 0 kk),(1,.fn 141 [(kI cm)] []),(4,(iQ 0)),(7,.p (.int .i64 (kk:Int))),(8,(iQ x1.t8))]) (O:=fun x1=>[.box (cd c),.vec 4 (lV.map aO)]) p1 (au 2 ⟨Z,Z,Z,Z,Z,t_⟩)<|fun x1 z1 h m1=>?_;unfold k9 at h;refine qR<|yS Z (am Z Z Z Z)<|nT<|zQ ?_;refine zX Z (fun g1=>?_)<|fun g1=>?_
  ·refine zi g1 h fun h=>zk<|zT<|zQ<|zl<|qR<|zM Z<|mN Z<|qR<|zM Z<|zM Z<|zM Z<|zb h fun y1 j1 h=>yS Z (aa.indexAddrVP Z Z Z Z bz j1)<|yS Z (aa.loadVX Z Z Z cz (iD j1).1 Z Z Z Z)<|zb h fun v2 a2 h=>yS Z (yP Z Z Z (Kw a2) bR)<|nT ?_;refine zX Z (fun g2=>?_)<|fun g2=>?_
   ·refine zi g2 h fun h=>qR<|zM Z<|mN Z<|zr<|ao<|af<|af<|ao<|af<|af ?_;cases h;obtain rfl:=(m1 _ rfl);have h:=bT q1;cases h;exact aD (.one (.tmp Z))<|⟨rfl,rfl⟩
   ·refine zo g2 h fun h=>zk<|ae<|zT<|zR<|yS Z (am Z Z Z Z)<|mN Z ?_;cases h;exact⟨_,rfl,au 2 ⟨Z,Z,Z,Z,Z,t_⟩⟩
  ·refine zo g1 h fun h=>zq<|aj<|aj<|zy<|zT ?_;cases h;obtain rfl:=(m1 _ rfl);exact⟨_,rfl,au 2 ⟨Z,t_⟩⟩
 ·obtain rfl:=f1;have h:=cU q1;clear p1;refine zT<|LW.weak u1<|qR<|mN Z<|zr ?_;cases h;exact aD (.one (.tmp Z))<|⟨rfl,rfl⟩
structure iF where
 i:Int
 j:Int
 o1:List Vt
def k8 (kk:Nat)(cm:List Int)(x1:iF):Option (iF⊕iF):=bif decide (x1.j<(kk:Int))then (ix (x1.o1.take kk) x1.j).bind fun y1=>(vK cm y1).bind fun v3=>bif !v3 then (ix (x1.o1.take kk) x1.i).bind fun _=>some (.inl (iF.mk (IntKind.i64.wrap (x1.i+1)) (IntKind.i64.wrap (x1.j+1)) (x1.o1.set x1.i.toNat y1)))else some (.inl (iF.mk x1.i (IntKind.i64.wrap (x1.j+1)) x1.o1))else some (.inr (iF.mk x1.i x1.j x1.o1))
def xZ (lV:List Vt)(kk:Nat)(cm:List Int):Option (Nat×List Vt):=(x6 lV kk cm).bind fun v1=>bif v1==(-1)then some (kk,lV)else (iter (k8 kk cm) aY (iF.mk v1 (IntKind.i64.wrap (v1+1)) lV)).bind fun v2=>bif decide (0<=v2.i/\v2.i<=(kk:Int))then bif decide (v2.i.toNat+(kk-v2.i.toNat)<=v2.o1.length)then bif decide (0<=v2.i/\v2.i<=(kk:Int))then some (v2.i.toNat,kQ v2.o1 v2.i.toNat (kk-v2.i.toNat) (Vt.mk 0 0 (0,0)))else none else none else none
theorem Mc {c:Cf}{lV:List Vt}{kk:Nat}{cm:List Int}{r_:Nat×List Vt}(h:xZ lV kk cm=some r_):LC Tryz.prog 142 [.vec 4 1 (lV.map aO).length 0 kk,.fn 141 [(kI cm)] []] [.box (cd c),.vec 4 (lV.map aO)] (Is (.vec 4 1 (r_.2.map aO).length 0 r_.1) [.box (cd c),.vec 4 (r_.2.map aO)]):=by
 refine eP Tryz.func142 Z Z Z ?_;unfold xZ at h;refine qR<|mN Z<|qR<|zM Z<|zM Z<|zb h fun v1 a1 h=>yS Z (yC Z Z Z (Mh a1))<|mN Z<|zQ<|qR<|zM Z<|yS Z (am Z Z Z Z)<|nT ?_;refine zX Z (fun g1=>?_)<|fun g1=>?_
 ·refine zi g1 h fun h=>qR<|zM Z<|mN Z<|zr<|af ?_;cases h;exact aD (.one (.tmp Z))<|⟨rfl,rfl⟩
 ·refine zo g1 h fun h=>zk<|zT<|zQ<|qR<|zM Z<|yS Z (am Z Z Z Z)<|mN Z ?_;obtain⟨v2,p2,b2⟩:=zB h;clear h;refine LW.tail (E:=[(0,.vec 4 1 (v2.o1.map aO).length 0 kk),(4,.zs),(5,(iQ v2.i))]) (O:=[.box (cd c),.vec 4 (v2.o1.map aO)]) ?_<|fun e2 K2 u2=>?_
  ·refine LW.block ?_;refine LW.iterB (E:=fun x1:iF=>[(0,.vec 4 1 (x1.o1.map aO).length 0 kk),(1,.fn 141 [(kI cm)] []),(4,.zs),(5,(iQ x1.i)),(6,(iQ x1.j))]) (O:=fun x1=>[.box (cd c),.vec 4 (x1.o1.map aO)]) p2 (au 2 ⟨Z,Z,Z,Z,Z,t_⟩)<|fun x1 z1 h m1=>?_;unfold k8 at h;refine zQ<|qR<|zM Z<|zM Z<|yS Z (aa.lenVP Z Z Z (by kernel_rfl))<|yS Z (am Z Z Z Z)<|nT ?_;refine zX Z (fun g2=>?_)<|fun g2=>?_
   ·refine zi g2 h fun h=>zk<|zT<|zQ<|zl<|qR<|zM Z<|zM Z<|zb h fun y1 j1 h=>yS Z (aa.indexAddrVP Z Z Z Z bz j1)<|yS Z (aa.loadVX Z Z Z cz (iD j1).1 Z Z Z Z)<|yS Z (ze Z vu Z Z)<|yS Z (zs Z Z Z Z cz Z Z Z Z)<|nT<|qR<|zM Z<|yS Z (zD Z Z Z cz Z Z)<|zb h fun v3 a3 h=>yS Z (yP Z Z Z (Kw a3) bR)<|yS Z (aa.not Z Z)<|nT ?_;refine zX Z (fun g3=>?_)<|fun g3=>?_
    ·refine zi g3 h fun h=>qR<|zM Z<|zM Z<|yS Z (zD Z Z Z cz Z Z)<|zb h fun y2 j2 h=>yS Z (aa.indexAddrVP Z Z Z Z bz j2) ?_;refine yS Z (aa.storeVP (f:=aO) (l:=x1.o1) y1 Z Z Z Z cz (fun _=>rfl) (iD j2).1 Z Z Z Z Z Z Z) ?_;refine nT<|zR<|zM Z<|yS Z (am Z Z Z Z)<|zM Z<|zN<|ae<|zT<|zR<|zM Z<|yS Z (am Z Z Z Z)<|mN Z ?_;cases h;exact⟨_,rfl,zW 2 ⟨(MJ (rfl)),rfl,rfl,rfl,rfl,trivial⟩ Z Z Z rfl⟩
    ·refine zo g3 h fun h=>zk<|ae<|zT<|zR<|zM Z<|yS Z (am Z Z Z Z)<|mN Z ?_;cases h;exact⟨_,rfl,au 2 ⟨Z,Z,Z,Z,Z,t_⟩⟩
   ·refine zo g2 h fun h=>zq<|aj<|aj<|zy<|zT ?_;cases h;obtain rfl:=(m1 _ rfl);exact au 2 ⟨Z,Z,Z,t_⟩
  ·have h:=b2;clear p2;refine zT<|LW.weak u2<|qR<|zM Z<|zM Z<|zg h fun q1 h=>yS Z (aa.sliceVLo Z Z Z Z bz q1)<|zg h fun q2 h=>?_;refine yS Z (aa.clearVP (f:=aO) (zs:=[.int .i64 0,.int .i64 0,.int .u64 0,.int .u64 0]) (Vt.mk 0 0 (0,0)) Z Z Z bz (fun _=>rfl) (by kernel_rfl) Z q2 Z) ?_;refine nT<|zQ<|LW.ent (bW.vlen (t:=0) (n':=((kQ v2.o1 v2.i.toNat (kk-v2.i.toNat) (Vt.mk 0 0 (0,0))).map aO).length) Z (xc q2))<|zR<|zM Z<|zM Z<|zg h fun q3 h=>yS Z (aa.sliceVHi Z Z Z Z bz q3)<|mN Z<|zr ?_;cases h;exact aD (.one (.tmp Z))<|⟨rfl,rfl⟩
def vJ (c:Cf)(v:List Vt)(slot:Int):Option (List Vt):=(Jw v slot).bind fun v1=>(Lq c slot).bind fun v2=>(xZ v1 ((v1.map aO).length) v2).bind fun v3=>bif Nat.ble v3.1 v3.2.length then some (v3.2.take v3.1)else none
theorem Kv {c:Cf}{v:List Vt}{slot:Int}{r_:(List Vt)}(h:vJ c v slot=some r_):aq Tryz.prog 99 [gF c,.slice 4 (v.map aO),.int .i64 slot] [.slice 4 (r_.map aO)]:=by
 refine zh Tryz.func99 Z Z Z Z ?_;unfold vJ at h;refine qR<|yS Z (bv Z Z Z Z Z)<|mN Z<|qR<|zM Z<|zM Z<|zb h fun v1 a1 h=>yS Z (aa.callV (qs:=[(kV v),(iQ slot)]) Z Z Z (by kernel_rfl) (OX a1) (.consC zv (.consC zv .nil)) Z Z)<|mN Z<|qR<|yS Z (zD Z Z Z bd Z Z)<|zM Z<|zb h fun v2 a2 h=>yS Z (yP Z Z Z (QQ a2) bR)<|yS Z (aa.makeFunc Z Z Z)<|mN Z<|qR<|zM Z<|zM Z<|yS Z (aa.lenVM Z Z Z (by kernel_rfl))<|zM Z<|yS Z (aa.lenVM Z Z Z (by kernel_rfl))<|yS Z (aa.sliceV3 Z Z Z Z Z bz)<|zM Z<|zb h fun v3 a3 h=>zg h fun q1 h=>yS Z (yC Z Z Z (Mc a3))<|mN Z<|qR<|zM Z<|mN Z<|zr ?_;cases h;exact zf (.one (.tmp Z))<|(Conv.vecTake Z q1)
def ng (c:Cf)(w:Vw)(slot:Int):Option ID:=(vJ c w.V slot).bind fun v1=>(Nc c w.B v1).bind fun v2=>some v2
theorem Ku {c:Cf}{w:Vw}{slot:Int}{r_:ID}(h:ng c w slot=some r_):aq Tryz.prog 55 [gF c,iW w,.int .i64 slot] [aX r_]:=by
 refine zh Tryz.func55 Z Z Z Z ?_;unfold ng at h;refine qR<|yS Z (bv Z Z Z Z Z)<|yS Z (bv Z Z Z Z Z)<|yS Z (ze Z gT Z Z)<|nT<|zQ<|LW.drawLast (m:=9) (by kernel_rfl) (by kernel_rfl) (by kernel_rfl)<|yE Z (zD Z Z Z bd Z Z)<|yE Z (zA Z Z aL)<|yE Z (zD Z Z Z bL Z Z)<|yE Z (zD Z Z Z bd Z Z)<|yE Z (zA Z Z aS)<|yE Z (zD Z Z Z cq Z Z)<|zH Z<|zb h fun v1 a1 h=>yE Z (yP Z Z Z (Kv a1) oU)<|zb h fun v2 a2 h=>yE Z (yP Z Z Z (Ru a2) oU)<|LO.nil<|yS Z (zs Z Z Z Z aG Z Z Z Z)<|nT<|zr ?_;cases h;exact zf (.one (eh Z Z)) zv
structure Wk where
 Node:Nd
 c:Cf
 slot:Int
 told:List Of
open Go.Proofs
def xQ (n:Nd):Option Vw:=(GP n.V n.In).bind fun v1=>some v1
theorem Nx {n:Nd}{r_:Vw}(h:xQ n=some r_):aq Tryz.prog 15 [dH n] [iW r_]:=by
 refine zh Tryz.func15 Z Z Z Z ?_;unfold xQ at h;refine qR<|yS Z (bv Z Z Z Z Z)<|yS Z (ze Z d7 Z Z)<|nT<|qR<|yS Z (zA Z Z bO)<|yS Z (zD Z Z Z aI Z Z)<|yS Z (zA Z Z br)<|yS Z (zD Z Z Z aI Z Z)<|zb h fun v1 a1 h=>yS Z (yP Z Z Z (L8 a1) bR)<|yS Z (zs Z Z Z Z aI Z Z Z Z)<|nT<|zr ?_;cases h;exact zf (.one (eh Z Z)) zv
def CV (no:Int):Option Nd:=some (Nd.mk no 3 (Vw.mk [] []) (Vw.mk [] []) [] (Cu.mk (0,0) 0 0) false)
theorem NZ {no:Int}{r_:Nd}(h:CV no=some r_):aq Tryz.prog 17 [.int .i64 no] [dH r_]:=by
 refine zh Tryz.func17 Z Z Z Z ?_;unfold CV at h;refine qR<|yS Z (ze Z eX Z Z)<|nT<|qR<|zM Z<|yS Z (aa.build Z w9 Z Z Z)<|yS Z (zs Z Z Z Z aP Z Z Z Z)<|nT<|zr ?_;cases h;exact zf (.one (eh Z Z))<|(Conv.agg (.cons zv (.cons zv (.cons Conv.zs (.cons Conv.zs (.cons Conv.zs (.cons Conv.zs (.cons Conv.zs Cn))))))))
def tO (v:Vw):Option Vw:=bif bG 0 v.B.length 40 then bif bG 0 v.V.length 32 then some v else none else none
theorem Hd {v:Vw}{r_:Vw}(h:tO v=some r_):aq Tryz.prog 37 [iW v] [iW r_]:=by
 refine zh Tryz.func37 Z Z Z Z ?_;unfold tO at h;refine qR<|yS Z (bv Z Z Z Z Z)<|yS Z (ze Z d7 Z Z)<|nT<|zQ<|LW.ent (bW.slot Z)<|LW.ent (bW.slot Z)<|fC<|yG Z (fun H _=>zA Z Z aL)<|yF Z (zd Z Z Z bL Z Z) Z<|zg h fun q1 h=>?_;refine yF Z (ch.callV (id:=2) (qs:=[(kB v.B)]) Z Z Z (by kernel_rfl) (Ab q1) (fun H=>(.consC zv .nil)) Z) Z ?_;refine yG Z (fun H _=>zA Z Z aS)<|yF Z (zd Z Z Z cq Z Z) Z<|zg h fun q2 h=>?_;refine yF Z (ch.callV (id:=3) (qs:=[(kV v.V)]) Z Z Z (by kernel_rfl) (Ad q2) (fun H=>(.consC zv .nil)) Z) Z ?_;refine yG Z (fun H _=>aa.build Z nF Z Z Z)<|yF Z (zt Z Z Z Z aI Z Z Z) Z ?_;refine LF.nil ⟨by kernel_rfl,?_⟩;refine zT<|zr ?_;cases h;exact zf (.one (eh Z Z))<|(Conv.agg (.cons (Conv.vecAll Z Z Z) (.cons (Conv.vecAll Z Z Z) .nil)))
def tQ (o:Of):Option Of:=(tO o.V).bind fun v1=>some (Of.mk o.Slot o.From o.B v1)
theorem He {o:Of}{r_:Of}(h:tQ o=some r_):aq Tryz.prog 38 [da o] [da r_]:=by
 refine zh Tryz.func38 Z Z Z Z ?_;unfold tQ at h;refine qR<|yS Z (bv Z Z Z Z Z)<|yS Z (ze Z p7 Z Z)<|nT<|qR<|yS Z (zA Z Z fZ)<|yS Z (zD Z Z Z aI Z Z)<|zb h fun v1 a1 h=>yS Z (yP Z Z Z (Hd a1) dB)<|yS Z (zA Z Z fZ)<|yS Z (zs Z Z Z Z aI Z Z Z Z)<|nT<|qR<|yS Z (zD Z Z Z er Z Z)<|yS Z (zs Z Z Z Z er Z Z Z Z)<|nT<|zr ?_;cases h;exact zf (.one (eh Z Z)) zv
def vO (b:Bk):Option Vw:=some (Vw.mk [b] [])
theorem KA {b:Bk}{r_:Vw}(h:vO b=some r_):aq Tryz.prog 87 [ay b] [iW r_]:=by
 refine zh Tryz.func87 Z Z Z Z ?_;unfold vO at h;refine qR<|yS Z (bv Z Z Z Z Z)<|yS Z (ze Z d7 Z Z)<|nT<|qR<|yS Z (zD Z Z Z ca Z Z)<|yS Z (gU Z cp Z Z Z Z Z)<|yS Z (aa.build Z nF Z Z Z)<|yS Z (zs Z Z Z Z aI Z Z Z Z)<|nT<|zr ?_;cases h;exact zf (.one (eh Z Z))<|(Conv.agg (.cons zv (.cons Conv.zs .nil)))
end Go.Mg
