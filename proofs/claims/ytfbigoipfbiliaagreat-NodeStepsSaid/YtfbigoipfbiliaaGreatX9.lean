/- The references of votes, gold, views. Plain laws of weights on blocks, and of the head: the reference, and that both tell the same. Conditions: blocks' numbers are of their kinds; not too many of all. The reference of votes tells what the program tells. The reference of views that grow. Laws of views. Laws of views. Laws of views. Plain laws of views: order, and all. The reference of views tells what the program tells. The reference of what is counted tells what the program tells. Offers, one behind another. Conditions: none. -/
import Derived.Test.YtfbigoipfbiliaaGreatX3
import Derived.Test.YtfbigoipfbiliaaGreatX6
import Derived.Test.YtfbigoipfbiliaaGreatX8
import Derived.Test.YtfbigoipfbiliaaGreatX7
set_option maxRecDepth 100000
set_option linter.unusedSimpArgs false
set_option linter.unusedVariables false
namespace Go.Mg
open Go.Proofs
def sI (c:Cf)(b:Bk):Option Bool:=(FA c b.Slot).bind fun v1=>bif decide (v1≥0)then bif v1==b.From then (Fy b).bind fun v2=>some (!((v2.1==0)&&((v2.2==0)&&true)))else some false else some false
theorem FO {c:Cf}{b:Bk}{r_:Bool}(hr:sI c b=some r_):ar Tryz.prog 92 [fz c,av b] [.bool r_]:=by
 refine zh Tryz.func92 Z Z Z Z ?_;unfold sI at hr;refine zQ<|zR<|yS Z (bw Z Z Z Z Z)<|yS Z (bw Z Z Z Z Z)<|zM Z<|zN<|zT<|zQ<|zR<|yS Z (zD Z Z Z aY Z Z)<|yS Z (zA Z Z eD)<|yS Z (zD Z Z Z aW Z Z)<|zb hr fun v1 h_v1 hr=>yS Z (zC Z Z Z (by kernel_rfl) (zp (LQ h_v1) (.cons zv (.cons zv .nil))))<|zM Z<|zN<|zT<|zQ<|zR<|zM Z<|yS Z (ap Z Z Z Z)<|zM Z ?_;refine zc 12 Z (fun g1=>?_)<|fun g1=>?_
 ·refine zi g1 hr fun hr=>yV Z (gd g1 Z) (zm Z Z)<|yV Z (gd g1 Z) (zA Z Z tR)<|yV Z (gd g1 Z) (zD Z Z Z aW Z Z)<|yV Z (gd g1 Z) (ap Z Z Z Z)<|yS Z (bx Z (aG g1 Z) Z)<|zM Z ?_;refine zc 18 Z (fun g2=>?_)<|fun g2=>?_
  ·refine zi g2 hr fun hr=>yV Z (gd g2 Z) (zD Z Z Z bW Z Z)<|zb hr fun v2 h_v2 hr=>yV Z (gd g2 Z) (zC Z Z Z (by kernel_rfl) (zp (KR h_v2) (.cons zv .nil)))<|yV Z (gd g2 Z) (aa.build Z lm Z Z Z)<|yV Z (gd g2 Z) (aa.neqAgg Z Z Z Z Z fu)<|yS Z (bx Z (aG g2 Z) Z)<|zM Z<|zN<|zT<|zr ?_;obtain rfl:=zJ hr;exact zf (.one (.tmp Z)) zv
  ·refine zo g2 hr fun hr=>yU Z (gd g2 Z) Z<|yU Z (gd g2 Z) Z<|yU Z (gd g2 Z) Z<|yU Z (gd g2 Z) Z<|yS Z (aO Z (aG g2 Z) Z)<|zM Z<|zN<|zT<|zr ?_;obtain rfl:=zJ hr;exact zf (.one (.tmp Z)) zv
 ·refine zo g1 hr fun hr=>yU Z (gd g1 Z) Z<|yU Z (gd g1 Z) Z<|yU Z (gd g1 Z) Z<|yU Z (gd g1 Z) Z<|yS Z (aO Z (aG g1 Z) Z)<|zM Z<|yU Z Z Z<|yU Z Z Z<|yU Z Z Z<|yU Z Z Z<|yS Z (aO Z Z Z)<|zM Z<|zN<|zT<|zr ?_;obtain rfl:=zJ hr;exact zf (.one (.tmp Z)) zv
def sJ (c:Cf)(v:Vt):Option Bool:=(HO c v.Slot v.From).bind fun v1=>some v1
theorem FQ {c:Cf}{v:Vt}{r_:Bool}(hr:sJ c v=some r_):ar Tryz.prog 93 [fz c,aK v] [.bool r_]:=by
 refine zh Tryz.func93 Z Z Z Z ?_;unfold sJ at hr;refine zQ<|zR<|yS Z (bw Z Z Z Z Z)<|yS Z (bw Z Z Z Z Z)<|zM Z<|zN<|zT<|zQ<|zR<|yS Z (zD Z Z Z aY Z Z)<|yS Z (zA Z Z gG)<|yS Z (zD Z Z Z aW Z Z)<|yS Z (zA Z Z iq)<|yS Z (zD Z Z Z aW Z Z)<|zb hr fun v1 h_v1 hr=>yS Z (zC Z Z Z (by kernel_rfl) (zp (Ma h_v1) (.cons zv (.cons zv (.cons zv .nil)))))<|zM Z<|zN<|zT<|zQ<|zR<|zM Z<|zM Z<|zN ?_;refine zT<|zr ?_;obtain rfl:=zJ hr;exact zf (.one (.tmp Z)) zv
structure d6 where
 i:Int
 o4:List Bk
structure d7 where
 i:Int
 o5:List Vt
def ju (c:Cf)(v_in:Vw)(x1:d6):Option (d6⊕d6):=bif decide (x1.i<(v_in.B.length:Int))then (ix v_in.B x1.i).bind fun y1=>(sI c y1).bind fun v2=>bif v2 then (ix v_in.B x1.i).bind fun y2=>bif cy x1.o4.length [y2].length 40 then some (.inl (d6.mk (IntKind.i64.wrap (x1.i+1)) (x1.o4++[y2])))else none else some (.inl (d6.mk (IntKind.i64.wrap (x1.i+1)) x1.o4))else some (.inr (d6.mk x1.i x1.o4))
def jv (c:Cf)(v_in:Vw)(x2:d7):Option (d7⊕d7):=bif decide (x2.i<(v_in.V.length:Int))then (ix v_in.V x2.i).bind fun y3=>(sJ c y3).bind fun v4=>bif v4 then (ix v_in.V x2.i).bind fun y4=>bif cy x2.o5.length [y4].length 32 then some (.inl (d7.mk (IntKind.i64.wrap (x2.i+1)) (x2.o5++[y4])))else none else some (.inl (d7.mk (IntKind.i64.wrap (x2.i+1)) x2.o5))else some (.inr (d7.mk x2.i x2.o5))
def sF (c:Cf)(v_in:Vw):Option Vw:=(iter (ju c v_in) bg (d6.mk 0 ([]:List Bk))).bind fun v1=>(iter (jv c v_in) bg (d7.mk 0 ([]:List Vt))).bind fun v3=>some (Vw.mk v1.o4 v3.o5)
theorem FL {c:Cf}{v_in:Vw}{r_:Vw}(hr:sF c v_in=some r_):ar Tryz.prog 47 [fz c,gW v_in] [gW r_]:=by
 refine zh Tryz.func47 Z Z Z Z ?_;unfold sF at hr;refine zQ<|zR<|yS Z (bw Z Z Z Z Z)<|yS Z (bw Z Z Z Z Z)<|yS Z (ze Z f8 Z Z)<|zN<|zT<|zQ<|zR<|yS Z (ze Z f8 Z Z)<|zN<|zT<|zQ<|zQ<|LW.ent (cz.lazyCell (i:=3) (j:=0) (m:=5) Z Z Z Z Z Z)<|LW.ent (cz.lazyCell (i:=3) (j:=1) (m:=4) Z Z Z Z Z Z)<|zR<|zM Z<|zN<|zT ?_;obtain⟨v1,hb_v1,ho_v1⟩:=zB hr;clear hr;refine LW.tail (E:=[(2,.ptr 0 0),(3,.ptr 1 0),(4,.ptr 2 0),(5,.ptr 3 0)]) (O:=[.box (bN c),.box (cG v_in),.box [.zs,.zs],.box [(jB 4 v1.o4),(jV 5 ([]:List Vt))],.vec 5 (v1.o4.map av),.vec 4 (([]:List Vt).map aK)]) ?_<|fun env_v1 H_v1 hw_v1=>?_
 ·refine LW.block ?_;refine LW.iterB (E:=fun x1:d6=>[(2,.ptr 0 0),(3,.ptr 1 0),(4,.ptr 2 0),(5,.ptr 3 0),(6,(iQ x1.i))]) (O:=fun x1=>[.box (bN c),.box (cG v_in),.box [.zs,.zs],.box [(jB 4 x1.o4),(jV 5 ([]:List Vt))],.vec 5 (x1.o4.map av),.vec 4 (([]:List Vt).map aK)]) hb_v1 (zW 6 ⟨rfl,rfl,rfl,rfl,rfl,trivial⟩ Z Z Z Z)<|fun x1 z_x1 hr hb_x1=>?_;unfold ju at hr;refine zQ<|zQ<|zR<|zM Z<|yS Z (zA Z Z aL)<|yS Z (zD Z Z Z cd Z Z)<|yS Z (cD Z Z (by kernel_rfl))<|yS Z (ap Z Z Z Z)<|zN<|zT ?_;refine zX Z (fun g1=>?_)<|fun g1=>?_
  ·refine zi g1 hr fun hr=>zk<|zT<|zQ<|zl<|zQ<|LW.draw2 (by kernel_rfl) (by kernel_rfl)<|yE Z (zD Z Z Z aY Z Z)<|yE Z (zA Z Z aL)<|yE Z (zD Z Z Z cd Z Z)<|zH Z<|zb hr fun y1 h_y1 hr=>yE Z (zx Z Z Z cw h_y1 Z)<|yE Z (ci Z Z Z bW Z Z)<|zb hr fun v2 h_v2 hr=>yE Z (zC Z Z Z (by kernel_rfl) (zp (FO h_v2) (.cons zv (.cons zv .nil))))<|zH Z<|LO.nil<|zT<|zQ<|zR<|zM Z<|zN<|zT ?_;refine zX Z (fun g2=>?_)<|fun g2=>?_
   ·refine zi g2 hr fun hr=>LW.drawW (by kernel_rfl) (by kernel_rfl) ?_;refine yF (F:=[]) (s:=none) Z (fun H _=>zA Z Z aL) Z ?_;refine yF Z (zd Z Z Z cd Z Z) Z ?_;refine yF (F:=[]) (s:=none) Z (fun H _=>zA Z Z aL) Z ?_;refine yF Z (zd Z Z Z cd Z Z) Z<|zK Z<|zb hr fun y2 h_y2 hr=>?_;refine yF (F:=[]) (s:=none) Z (fun H _=>zx Z Z Z cw h_y2 Z) Z ?_;refine yF (F:=[]) (s:=none) Z (fun H _=>ci Z Z Z bW Z Z) Z ?_;refine yF (F:=[]) (s:=none) Z (fun H _=>iO Z cw Z Z Z Z Z) Z ?_;refine zg hr fun q1 hr=>yF Z (cq.appendX av x1.o4 [y2] rfl Z Z Z Z cw q1) Z ?_;refine yF (F:=[]) (s:=none) Z (fun H _=>zA Z Z aL) Z ?_;refine yF Z (zt Z Z Z Z cd Z Z Z) Z ?_;refine LF.nil ⟨by kernel_rfl,?_⟩;refine ai<|zT<|zR<|zM Z<|yS Z (ap Z Z Z Z)<|zM Z<|zN<|zT ?_;obtain rfl:=zJ hr;exact⟨_,rfl,zW 6 ⟨rfl,rfl,rfl,rfl,rfl,trivial⟩ Z Z Z rfl⟩
   ·refine zo g2 hr fun hr=>zk<|ai<|zT<|zR<|zM Z<|yS Z (ap Z Z Z Z)<|zM Z<|zN<|zT ?_;obtain rfl:=zJ hr;exact⟨_,rfl,zW 6 ⟨rfl,rfl,rfl,rfl,rfl,trivial⟩ Z Z Z rfl⟩
  ·refine zo g1 hr fun hr=>zq<|aj<|aj<|zy<|zT ?_;obtain rfl:=zJ hr;have hr:=congrArg some (hb_x1 _ rfl);obtain rfl:=zJ hr;exact zW 6 ⟨Z,Z,Z,Z,trivial⟩ Z Z Z Z
 ·have hr:=ho_v1;clear hb_v1;refine zT<|LW.weak hw_v1<|zQ<|zQ<|zR<|zM Z<|zN<|zT ?_;obtain⟨v3,hb_v3,ho_v3⟩:=zB hr;clear hr;refine LW.tail (E:=[(4,.ptr 2 0),(5,.ptr 3 0)]) (O:=[.box (bN c),.box (cG v_in),.box [.zs,.zs],.box [(jB 4 v1.o4),(jV 5 v3.o5)],.vec 5 (v1.o4.map av),.vec 4 (v3.o5.map aK)]) ?_<|fun env_v3 H_v3 hw_v3=>?_
  ·refine LW.block ?_;refine LW.iterB (E:=fun x2:d7=>[(2,.ptr 0 0),(3,.ptr 1 0),(4,.ptr 2 0),(5,.ptr 3 0),(8,(iQ x2.i))]) (O:=fun x2=>[.box (bN c),.box (cG v_in),.box [.zs,.zs],.box [(jB 4 v1.o4),(jV 5 x2.o5)],.vec 5 (v1.o4.map av),.vec 4 (x2.o5.map aK)]) hb_v3 (zW 6 ⟨rfl,rfl,rfl,rfl,rfl,trivial⟩ Z Z Z Z)<|fun x2 z_x2 hr hb_x2=>?_;unfold jv at hr;refine zQ<|zQ<|zR<|zM Z<|yS Z (zA Z Z aQ)<|yS Z (zD Z Z Z co Z Z)<|yS Z (cD Z Z (by kernel_rfl))<|yS Z (ap Z Z Z Z)<|zN<|zT ?_;refine zX Z (fun g3=>?_)<|fun g3=>?_
   ·refine zi g3 hr fun hr=>zk<|zT<|zQ<|zl<|zQ<|LW.draw2 (by kernel_rfl) (by kernel_rfl)<|yE Z (zD Z Z Z aY Z Z)<|yE Z (zA Z Z aQ)<|yE Z (zD Z Z Z co Z Z)<|zH Z<|zb hr fun y3 h_y3 hr=>yE Z (zx Z Z Z bD h_y3 Z)<|yE Z (ci Z Z Z cp Z Z)<|zb hr fun v4 h_v4 hr=>yE Z (zC Z Z Z (by kernel_rfl) (zp (FQ h_v4) (.cons zv (.cons zv .nil))))<|zH Z<|LO.nil<|zT<|zQ<|zR<|zM Z<|zN<|zT ?_;refine zX Z (fun g4=>?_)<|fun g4=>?_
    ·refine zi g4 hr fun hr=>LW.drawW (by kernel_rfl) (by kernel_rfl) ?_;refine yF (F:=[]) (s:=none) Z (fun H _=>zA Z Z aQ) Z ?_;refine yF Z (zd Z Z Z co Z Z) Z ?_;refine yF (F:=[]) (s:=none) Z (fun H _=>zA Z Z aQ) Z ?_;refine yF Z (zd Z Z Z co Z Z) Z<|zK Z<|zb hr fun y4 h_y4 hr=>?_;refine yF (F:=[]) (s:=none) Z (fun H _=>zx Z Z Z bD h_y4 Z) Z ?_;refine yF (F:=[]) (s:=none) Z (fun H _=>ci Z Z Z cp Z Z) Z ?_;refine yF (F:=[]) (s:=none) Z (fun H _=>iO Z bD Z Z Z Z Z) Z ?_;refine zg hr fun q2 hr=>yF Z (cq.appendX aK x2.o5 [y4] rfl Z Z Z Z bD q2) Z ?_;refine yF (F:=[]) (s:=none) Z (fun H _=>zA Z Z aQ) Z ?_;refine yF Z (zt Z Z Z Z co Z Z Z) Z ?_;refine LF.nil ⟨by kernel_rfl,?_⟩;refine ai<|zT<|zR<|zM Z<|yS Z (ap Z Z Z Z)<|zM Z<|zN<|zT ?_;obtain rfl:=zJ hr;exact⟨_,rfl,zW 6 ⟨rfl,rfl,rfl,rfl,rfl,trivial⟩ Z Z Z rfl⟩
    ·refine zo g4 hr fun hr=>zk<|ai<|zT<|zR<|zM Z<|yS Z (ap Z Z Z Z)<|zM Z<|zN<|zT ?_;obtain rfl:=zJ hr;exact⟨_,rfl,zW 6 ⟨rfl,rfl,rfl,rfl,rfl,trivial⟩ Z Z Z rfl⟩
   ·refine zo g3 hr fun hr=>zq<|aj<|aj<|zy<|zT ?_;obtain rfl:=zJ hr;have hr:=congrArg some (hb_x2 _ rfl);obtain rfl:=zJ hr;exact zW 6 ⟨Z,Z,trivial⟩ Z Z Z Z
  ·have hr:=ho_v3;clear hb_v3;refine zT<|LW.weak hw_v3<|zQ<|zR<|yS Z (zD Z Z Z aI Z Z)<|yS Z (zs Z Z Z Z aI Z Z Z Z)<|zN<|zT<|zr ?_;obtain rfl:=zJ hr;exact zf (.one (.cellAgg Z Z (by kernel_rfl) Z))<|(Conv.agg (.cons (Conv.vecAll Z Z Z) (.cons (Conv.vecAll Z Z Z) .nil)))
structure hZ where
 i:Int
def jC (names:List ID)(id:ID)(x1:hZ):Option (hZ⊕(hZ⊕Int)):=bif decide (x1.i<(names.length:Int))then (ix names x1.i).bind fun y1=>bif ((y1.1==id.1)&&((y1.2==id.2)&&true))then some (.inr (.inr x1.i))else some (.inl (hZ.mk (IntKind.i64.wrap (x1.i+1))))else some (.inr (.inl (hZ.mk x1.i)))
def sL (names:List ID)(id:ID):Option Int:=(iter (jC names id) bg (hZ.mk 0)).bind fun b_v1=>Sum.elim (fun _=>some (-1)) some b_v1
theorem FS {names:List ID}{id:ID}{r_:Int}(hr:sL names id=some r_):ar Tryz.prog 211 [.slice 2 (names.map aR),aR id] [.int .i64 r_]:=by
 refine zh Tryz.func211 Z Z Z Z ?_;unfold sL at hr;refine zQ<|zR<|yS Z (bw Z Z Z Z Z)<|zM Z<|zN<|zT<|zQ<|zQ<|zR<|zM Z<|zN<|zT ?_;obtain⟨b_v1,hb_v1,ho_v1⟩:=zB hr;clear hr;refine LW.tailB (b:=b_v1) (E:=fun v1=>[(4,(iQ 0))]) (O:=fun v1=>[.box [(uQ id.1),(uQ id.2)]]) ?_<|fun v1 e_v1 env_v1 H_v1 hw_v1=>?_
 ·refine LW.block ?_;refine LW.iterB (E:=fun x1:hZ=>[(0,.p (.slice 2 (names.map aR))),(3,.ptr 0 0),(4,(iQ 0)),(5,(iQ x1.i))]) (O:=fun x1=>[.box [(uQ id.1),(uQ id.2)]]) hb_v1 (zW 1 ⟨rfl,rfl,rfl,rfl,trivial⟩ Z Z Z Z)<|fun x1 z_x1 hr hb_x1=>?_;unfold jC at hr;refine zQ<|zQ<|zR<|zM Z<|zM Z<|yS Z (cD Z Z (by kernel_rfl))<|yS Z (ap Z Z Z Z)<|zN<|zT ?_;refine zX Z (fun g1=>?_)<|fun g1=>?_
  ·refine zi g1 hr fun hr=>zk<|zT<|zQ<|zl<|zQ<|LW.draw2 (by kernel_rfl) (by kernel_rfl)<|zH Z<|zH Z<|zb hr fun y1 h_y1 hr=>yE Z (zx Z Z Z ey h_y1 Z)<|yE Z (ci Z Z Z ay Z Z)<|yE Z (zD Z Z Z ay Z Z)<|yE Z (aa.eqlAgg Z Z Z Z Z fu)<|LO.nil<|zT ?_;refine zX Z (fun g2=>?_)<|fun g2=>?_
   ·refine zi g2 hr fun hr=>zQ<|zR<|zM Z<|zM Z<|zN<|zT<|zr<|aq<|af<|af<|aq<|af<|af ?_;obtain rfl:=zJ hr;have hr:=congrArg some (hb_x1 _ rfl);obtain rfl:=zJ hr;have hr:=bV ho_v1;obtain rfl:=zJ hr;exact zf (.one (.tmp Z)) zv
   ·refine zo g2 hr fun hr=>zk<|ai<|zT<|zR<|zM Z<|yS Z (ap Z Z Z Z)<|zM Z<|zN<|zT ?_;obtain rfl:=zJ hr;exact⟨_,rfl,zW 1 ⟨rfl,rfl,rfl,rfl,trivial⟩ Z Z Z rfl⟩
  ·refine zo g1 hr fun hr=>zq<|aj<|aj<|zy<|zT ?_;obtain rfl:=zJ hr;have hr:=congrArg some (hb_x1 _ rfl);obtain rfl:=zJ hr;exact⟨_,rfl,zW 1 ⟨rfl,trivial⟩ Z Z Z rfl⟩
 ·obtain rfl:=e_v1;have hr:=cU ho_v1;clear hb_v1;refine zT<|LW.weak hw_v1<|zQ<|zR<|zM Z<|zN<|zT<|zr ?_;obtain rfl:=zJ hr;exact zf (.one (.tmp Z)) zv
def qP (l:List Bk)(names:List ID)(id:ID):Option Int:=bif ((id.1==0)&&((id.2==0)&&true))then some 0 else (sL names id).bind fun v1=>bif decide (v1<0)then some (-1)else (ix l v1).bind fun y1=>some y1.Slot
theorem CX {l:List Bk}{names:List ID}{id:ID}{r_:Int}(hr:qP l names id=some r_):ar Tryz.prog 210 [.slice 5 (l.map av),.slice 2 (names.map aR),aR id] [.int .i64 r_]:=by
 refine zh Tryz.func210 Z Z Z Z ?_;unfold qP at hr;refine zQ<|zR<|yS Z (bw Z Z Z Z Z)<|zM Z<|zN<|zT<|zQ<|zQ<|zR<|yS Z (zD Z Z Z ay Z Z)<|yS Z (aa.build Z lm Z Z Z)<|yS Z (aa.eqlAgg Z Z Z Z Z fu)<|zN<|zT ?_;refine zX Z (fun g1=>?_)<|fun g1=>?_
 ·refine zi g1 hr fun hr=>zQ<|zR<|zM Z<|zN<|zT<|zr<|af ?_;obtain rfl:=zJ hr;exact zf (.one (.tmp Z)) zv
 ·refine zo g1 hr fun hr=>zk<|zT<|zQ<|zR<|zM Z<|yS Z (zD Z Z Z ay Z Z)<|zb hr fun v1 h_v1 hr=>yS Z (zC Z Z Z (by kernel_rfl) (zp (FS h_v1) (.cons zv (.cons zv .nil))))<|zM Z<|zN<|zT<|zQ<|zQ<|zR<|zM Z<|yS Z (ap Z Z Z Z)<|zN<|zT ?_;refine zX Z (fun g2=>?_)<|fun g2=>?_
  ·refine zi g2 hr fun hr=>zQ<|zR<|zM Z<|zN<|zT<|zr<|af ?_;obtain rfl:=zJ hr;exact zf (.one (.tmp Z)) zv
  ·refine zo g2 hr fun hr=>zk<|zT<|zQ<|zR<|zM Z<|zM Z<|zb hr fun y1 h_y1 hr=>yS Z (zx Z Z Z cw h_y1 Z)<|yS Z (aa.fieldAddrC Z Z eD Z)<|yS Z (ci Z Z Z aW Z Z)<|zM Z<|zN<|zT<|zr ?_;obtain rfl:=zJ hr;exact zf (.one (.tmp Z)) zv
structure d9 where
 i:Int
structure dM where
 i:Int
def hU (c:Cf)(w:Vw)(x1:d9):Option (d9⊕(d9⊕Bool)):=bif decide (x1.i<(w.B.length:Int))then (ix w.B x1.i).bind fun y1=>(sI c y1).bind fun v6=>bif !v6 then some (.inr (.inr false))else some (.inl (d9.mk (IntKind.i64.wrap (x1.i+1))))else some (.inr (.inl (d9.mk x1.i)))
def gr (c:Cf)(w:Vw)(v1:(List ID))(x2:dM):Option (dM⊕(dM⊕Bool)):=bif decide (x2.i<(w.V.length:Int))then (ix w.V x2.i).bind fun y2=>(qP w.B v1 y2.Head).bind fun v8=>(ix w.V x2.i).bind fun y3=>(sJ c y3).bind fun v9=>bif !v9 then some (.inr (.inr false))else bif decide (v8<0)then some (.inr (.inr false))else (ix w.V x2.i).bind fun y4=>bif decide (v8>y4.Slot)then some (.inr (.inr false))else bif yJ w.V 0 x2.i then (ix w.V x2.i).bind fun y5=>(wH (w.V.take x2.i.toNat) y5).bind fun v10=>bif decide (v10>0)then some (.inr (.inr false))else some (.inl (dM.mk (IntKind.i64.wrap (x2.i+1))))else none else some (.inr (.inl (dM.mk x2.i)))
def u5 (c:Cf)(w:Vw):Option Bool:=(FC w.B).bind fun v1=>(uu w.B v1).bind fun v2=>(EH c).bind fun v3=>(bif !v2 then some true else bif !v3 then some true else bif decide ((w.B.length:Int)>60)then some true else some (decide ((w.V.length:Int)>240))).bind fun v4=>bif v4 then some false else (iter (hU c w) bg (d9.mk 0)).bind fun b_v5=>Sum.elim (fun _=>(iter (gr c w v1) bg (dM.mk 0)).bind fun b_v7=>Sum.elim (fun _=>some true) some b_v7) some b_v5
theorem Jp {c:Cf}{w:Vw}{r_:Bool}(hr:u5 c w=some r_):ar Tryz.prog 169 [fz c,gW w] [.bool r_]:=by
 refine zh Tryz.func169 Z Z Z Z ?_;unfold u5 at hr;refine zQ<|zR<|yS Z (bw Z Z Z Z Z)<|yS Z (bw Z Z Z Z Z)<|zM Z<|zN<|zT<|zQ<|zR<|yS Z (zA Z Z aL)<|yS Z (zD Z Z Z cd Z Z)<|zb hr fun v1 h_v1 hr=>yS Z (zC Z Z Z (by kernel_rfl) (zp (KW h_v1) (.cons zv .nil)))<|zM Z<|zN<|zT<|zQ<|zR<|yS Z (zA Z Z aL)<|yS Z (zD Z Z Z cd Z Z)<|zM Z<|zb hr fun v2 h_v2 hr=>yS Z (zC Z Z Z (by kernel_rfl) (zp (GY h_v2) (.cons zv (.cons zv .nil))))<|zM Z ?_;refine zN<|zT<|zQ<|zR<|yS Z (zD Z Z Z aY Z Z)<|zb hr fun v3 h_v3 hr=>yS Z (zC Z Z Z (by kernel_rfl) (zp (Jw h_v3) (.cons zv .nil)))<|zM Z<|zN<|zT<|zQ ?_;obtain⟨v4,hb_v4,ho_v4⟩:=zB hr;clear hr;refine LW.cut (E:=[(2,.ptr 0 0),(3,.ptr 1 0),(4,(bQ false)),(5,.p (.slice 2 (v1.map aR))),(39,(bQ v4))]) (O:=[.box (bN c),.box (cG w)]) ?_ ?_
 ·have hr:=hb_v4;refine zR<|zM Z<|yS Z (aa.not Z Z)<|zM Z ?_;refine zc 24 Z (fun g1=>?_)<|fun g1=>?_
  ·refine zi g1 hr fun hr=>yU Z (gd g1 Z) Z<|yU Z (gd g1 Z) Z<|yS Z (bx Z (aG g1 Z) Z)<|zM Z<|yU Z Z Z<|yU Z Z Z<|yU Z Z Z<|yU Z Z Z<|yS Z (bx Z Z Z)<|zM Z<|yU Z Z Z<|yU Z Z Z<|yU Z Z Z<|yU Z Z Z<|yS Z (bx Z Z Z)<|zN<|zT ?_;obtain rfl:=zJ hr;exact zW 2 ⟨Z,Z,Z,Z,Z,trivial⟩ Z Z Z Z
  ·refine zo g1 hr fun hr=>yV Z (gd g1 Z) (zm Z Z)<|yV Z (gd g1 Z) (aa.not Z Z)<|yS Z (aO Z (aG g1 Z) Z)<|zM Z ?_;refine zc 28 Z (fun g2=>?_)<|fun g2=>?_
   ·refine zi g2 hr fun hr=>yU Z (gd g2 Z) Z<|yU Z (gd g2 Z) Z<|yU Z (gd g2 Z) Z<|yU Z (gd g2 Z) Z<|yS Z (bx Z (aG g2 Z) Z)<|zM Z<|yU Z Z Z<|yU Z Z Z<|yU Z Z Z<|yU Z Z Z<|yS Z (bx Z Z Z)<|zN<|zT ?_;obtain rfl:=zJ hr;exact zW 2 ⟨Z,Z,Z,Z,Z,trivial⟩ Z Z Z Z
   ·refine zo g2 hr fun hr=>yV Z (gd g2 Z) (zA Z Z aL)<|yV Z (gd g2 Z) (zD Z Z Z cd Z Z)<|yV Z (gd g2 Z) (cD Z Z (by kernel_rfl))<|yV Z (gd g2 Z) (ap Z Z Z Z)<|yS Z (aO Z (aG g2 Z) Z)<|zM Z ?_;refine zc 34 Z (fun g3=>?_)<|fun g3=>?_
    ·refine zi g3 hr fun hr=>yU Z (gd g3 Z) Z<|yU Z (gd g3 Z) Z<|yU Z (gd g3 Z) Z<|yU Z (gd g3 Z) Z<|yS Z (bx Z (aG g3 Z) Z)<|zN<|zT ?_;obtain rfl:=zJ hr;exact zW 2 ⟨Z,Z,Z,Z,Z,trivial⟩ Z Z Z Z
    ·refine zo g3 hr fun hr=>yV Z (gd g3 Z) (zA Z Z aQ)<|yV Z (gd g3 Z) (zD Z Z Z co Z Z)<|yV Z (gd g3 Z) (cD Z Z (by kernel_rfl))<|yV Z (gd g3 Z) (ap Z Z Z Z)<|yS Z (aO Z (aG g3 Z) Z)<|zN<|zT ?_;obtain rfl:=zJ hr;exact zW 2 ⟨Z,Z,Z,Z,Z,trivial⟩ Z Z Z Z
 ·have hr :=ho_v4;clear hb_v4;refine zX Z (fun g4=>?_)<|fun g4=>?_
  ·refine zi g4 hr fun hr=>zQ<|zR<|zM Z<|zN<|zT<|zr<|af ?_;obtain rfl:=zJ hr;exact zf (.one (.tmp Z)) zv
  ·refine zo g4 hr fun hr=>zk<|zT<|zQ<|zQ<|zR<|zM Z<|zN<|zT ?_;obtain⟨b_v5,hb_v5,ho_v5⟩:=zB hr;clear hr;refine LW.tailB (b:=b_v5) (E:=fun v5=>[(2,.ptr 0 0),(3,.ptr 1 0),(4,(bQ false)),(5,.p (.slice 2 (v1.map aR)))]) (O:=fun v5=>[.box (bN c),.box (cG w)]) ?_<|fun v5 e_v5 env_v5 H_v5 hw_v5=>?_
   ·refine LW.block ?_;refine LW.iterB (E:=fun x1:d9=>[(2,.ptr 0 0),(3,.ptr 1 0),(4,(bQ false)),(5,.p (.slice 2 (v1.map aR))),(8,(iQ x1.i))]) (O:=fun x1=>[.box (bN c),.box (cG w)]) hb_v5 (zW 2 ⟨rfl,rfl,rfl,rfl,rfl,trivial⟩ Z Z Z Z)<|fun x1 z_x1 hr hb_x1=>?_;unfold hU at hr;refine zQ<|zQ<|zR<|zM Z<|yS Z (zA Z Z aL)<|yS Z (zD Z Z Z cd Z Z)<|yS Z (cD Z Z (by kernel_rfl))<|yS Z (ap Z Z Z Z)<|zN<|zT ?_;refine zX Z (fun g5=>?_)<|fun g5=>?_
    ·refine zi g5 hr fun hr=>zk<|zT<|zQ<|zl<|zQ<|LW.draw2 (by kernel_rfl) (by kernel_rfl)<|yE Z (zD Z Z Z aY Z Z)<|yE Z (zA Z Z aL)<|yE Z (zD Z Z Z cd Z Z)<|zH Z<|zb hr fun y1 h_y1 hr=>yE Z (zx Z Z Z cw h_y1 Z)<|yE Z (ci Z Z Z bW Z Z)<|zb hr fun v6 h_v6 hr=>yE Z (zC Z Z Z (by kernel_rfl) (zp (FO h_v6) (.cons zv (.cons zv .nil))))<|zH Z<|LO.nil<|zT<|zQ<|zR<|zM Z<|yS Z (aa.not Z Z)<|zN ?_;refine zT ?_;refine zX Z (fun g6=>?_)<|fun g6=>?_
     ·refine zi g6 hr fun hr=>zQ<|zR<|zM Z<|zN<|zT<|zr<|aq<|af<|af<|aq<|af<|af ?_;obtain rfl:=zJ hr;have hr:=congrArg some (hb_x1 _ rfl);obtain rfl:=zJ hr;have hr:=bV ho_v5;obtain rfl:=zJ hr;exact zf (.one (.tmp Z)) zv
     ·refine zo g6 hr fun hr=>zk<|ai<|zT<|zR<|zM Z<|yS Z (ap Z Z Z Z)<|zM Z<|zN<|zT ?_;obtain rfl:=zJ hr;exact⟨_,rfl,zW 2 ⟨rfl,rfl,rfl,rfl,rfl,trivial⟩ Z Z Z rfl⟩
    ·refine zo g5 hr fun hr=>zq<|aj<|aj<|zy<|zT ?_;obtain rfl:=zJ hr;have hr:=congrArg some (hb_x1 _ rfl);obtain rfl:=zJ hr;exact⟨_,rfl,zW 2 ⟨rfl,rfl,rfl,rfl,trivial⟩ Z Z Z rfl⟩
   ·obtain rfl:=e_v5;have hr:=cU ho_v5;clear hb_v5;refine zT<|LW.weak hw_v5<|zQ<|zQ<|zR<|zM Z<|zN<|zT ?_;obtain⟨b_v7,hb_v7,ho_v7⟩:=zB hr;clear hr;refine LW.tailB (b:=b_v7) (E:=fun v7=>[(4,(bQ false))]) (O:=fun v7=>[.box (bN c),.box (cG w)]) ?_<|fun v7 e_v7 env_v7 H_v7 hw_v7=>?_
    ·refine LW.block ?_;refine LW.iterB (E:=fun x2:dM=>[(2,.ptr 0 0),(3,.ptr 1 0),(4,(bQ false)),(5,.p (.slice 2 (v1.map aR))),(10,(iQ x2.i))]) (O:=fun x2=>[.box (bN c),.box (cG w)]) hb_v7 (zW 2 ⟨rfl,rfl,rfl,rfl,rfl,trivial⟩ Z Z Z Z)<|fun x2 z_x2 hr hb_x2=>?_;unfold gr at hr;refine zQ<|zQ<|zR<|zM Z<|yS Z (zA Z Z aQ)<|yS Z (zD Z Z Z co Z Z)<|yS Z (cD Z Z (by kernel_rfl))<|yS Z (ap Z Z Z Z)<|zN<|zT ?_;refine zX Z (fun g7=>?_)<|fun g7=>?_
     ·refine zi g7 hr fun hr=>zk<|zT<|zQ<|zl<|zQ<|LW.draw2 (by kernel_rfl) (by kernel_rfl)<|yE Z (zA Z Z aL)<|yE Z (zD Z Z Z cd Z Z)<|zH Z<|yE Z (zA Z Z aQ)<|yE Z (zD Z Z Z co Z Z)<|zH Z<|zb hr fun y2 h_y2 hr=>yE Z (zx Z Z Z bD h_y2 Z)<|yE Z (aa.fieldAddrC Z Z gH Z)<|yE Z (ci Z Z Z ay Z Z)<|zb hr fun v8 h_v8 hr=>yE Z (zC Z Z Z (by kernel_rfl) (zp (CX h_v8) (.cons zv (.cons zv (.cons zv .nil)))))<|zH Z<|LO.nil<|zT<|zQ<|LW.draw2 (by kernel_rfl) (by kernel_rfl) ?_;refine yE Z (zD Z Z Z aY Z Z)<|yE Z (zA Z Z aQ)<|yE Z (zD Z Z Z co Z Z)<|zH Z<|zb hr fun y3 h_y3 hr=>yE Z (zx Z Z Z bD h_y3 Z)<|yE Z (ci Z Z Z cp Z Z)<|zb hr fun v9 h_v9 hr=>yE Z (zC Z Z Z (by kernel_rfl) (zp (FQ h_v9) (.cons zv (.cons zv .nil))))<|zH Z<|LO.nil<|zT<|zQ<|LW.draw2 (by kernel_rfl) (by kernel_rfl)<|zH Z<|yE Z (aa.not Z Z)<|zH Z ?_;refine LO.cases 82 Z (fun(g8:(!v9)=true)=>?_) (fun(g8:(!v9)=false)=>?_)
      ·refine zi g8 hr fun hr=>LO.sk Z Z Z (gd g8 Z) Z Z<|LO.sk Z Z Z (gd g8 Z) Z Z<|yE Z (bx Z (aG g8 Z) Z)<|zH Z<|LO.sk Z Z Z Z Z Z<|LO.sk Z Z Z Z Z Z<|LO.sk Z Z Z Z Z Z<|LO.sk Z Z Z Z Z Z<|LO.sk Z Z Z Z Z Z<|LO.sk Z Z Z Z Z Z<|LO.sk Z Z Z Z Z Z<|LO.sk Z Z Z Z Z Z<|yE Z (bx Z Z Z)<|zH Z<|LO.sk Z Z Z Z Z Z<|LO.sk Z Z Z Z Z Z<|LO.sk Z Z Z Z Z Z<|LO.sk Z Z Z Z Z Z<|LO.sk Z Z Z Z Z Z<|LO.sk Z Z Z Z Z Z<|LO.sk Z Z Z Z Z Z<|LO.sk Z Z Z Z Z Z<|LO.sk Z Z Z Z Z Z ?_;refine LO.sk Z Z Z Z Z Z<|LO.sk Z Z Z Z Z Z<|yE Z (bx Z Z Z)<|LO.nil<|zT<|LW.condT Z<|zQ<|zR<|zM Z<|zN<|zT<|zr<|aq<|af<|af<|aq<|af<|af ?_;obtain rfl:=zJ hr;have hr:=congrArg some (hb_x2 _ rfl);obtain rfl:=zJ hr;have hr:=bV ho_v7;obtain rfl:=zJ hr;exact zf (.one (.tmp Z)) zv
      ·refine zo g8 hr fun hr=>LO.gd Z Z Z (gd g8 Z) Z (zm Z Z)<|LO.gd Z Z Z (gd g8 Z) Z (ap Z Z Z Z)<|yE Z (aO Z (aG g8 Z) Z)<|zH Z ?_;refine LO.cases 86 Z (fun(g9:(decide (v8<0))=true)=>?_) (fun(g9:(decide (v8<0))=false)=>?_)
       ·refine zi g9 hr fun hr=>LO.sk Z Z Z (gd g9 Z) Z Z<|LO.sk Z Z Z (gd g9 Z) Z Z<|LO.sk Z Z Z (gd g9 Z) Z Z<|LO.sk Z Z Z (gd g9 Z) Z Z<|LO.sk Z Z Z (gd g9 Z) Z Z<|LO.sk Z Z Z (gd g9 Z) Z Z<|LO.sk Z Z Z (gd g9 Z) Z Z<|LO.sk Z Z Z (gd g9 Z) Z Z<|yE Z (bx Z (aG g9 Z) Z)<|zH Z<|LO.sk Z Z Z Z Z Z<|LO.sk Z Z Z Z Z Z<|LO.sk Z Z Z Z Z Z<|LO.sk Z Z Z Z Z Z<|LO.sk Z Z Z Z Z Z<|LO.sk Z Z Z Z Z Z<|LO.sk Z Z Z Z Z Z<|LO.sk Z Z Z Z Z Z<|LO.sk Z Z Z Z Z Z<|LO.sk Z Z Z Z Z Z<|LO.sk Z Z Z Z Z Z<|yE Z (bx Z Z Z)<|LO.nil ?_;refine zT<|LW.condT Z<|zQ<|zR<|zM Z<|zN<|zT<|zr<|aq<|af<|af<|aq<|af<|af ?_;obtain rfl:=zJ hr;have hr:=congrArg some (hb_x2 _ rfl);obtain rfl:=zJ hr;have hr:=bV ho_v7;obtain rfl:=zJ hr;exact zf (.one (.tmp Z)) zv
       ·refine zo g9 hr fun hr=>LO.gd Z Z Z (gd g9 Z) Z (zm Z Z)<|LO.gd Z Z Z (gd g9 Z) Z (zA Z Z aQ)<|LO.gd Z Z Z (gd g9 Z) Z (zD Z Z Z co Z Z)<|LO.gd Z Z Z (gd g9 Z) Z (zm Z Z)<|zb hr fun y4 h_y4 hr=>LO.gd Z Z Z (gd g9 Z) Z (zx Z Z Z bD h_y4 Z)<|LO.gd Z Z Z (gd g9 Z) Z (aa.fieldAddrC Z Z gG Z)<|LO.gd Z Z Z (gd g9 Z) Z (ci Z Z Z aW Z Z)<|LO.gd Z Z Z (gd g9 Z) Z (ap Z Z Z Z)<|yE Z (aO Z (aG g9 Z) Z)<|zH Z ?_;refine LO.cases 96 Z (fun(g10:(decide (v8>y4.Slot))=true)=>?_) (fun(g10:(decide (v8>y4.Slot))=false)=>?_)
        ·refine zi g10 hr fun hr=>LO.sk Z Z Z (gd g10 Z) Z Z<|LO.sk Z Z Z (gd g10 Z) Z Z<|LO.sk Z Z Z (gd g10 Z) Z Z<|LO.sk Z Z Z (gd g10 Z) Z Z<|LO.sk Z Z Z (gd g10 Z) Z Z<|LO.sk Z Z Z (gd g10 Z) Z Z<|LO.sk Z Z Z (gd g10 Z) Z Z<|LO.sk Z Z Z (gd g10 Z) Z Z<|LO.sk Z Z Z (gd g10 Z) Z Z<|LO.sk Z Z Z (gd g10 Z) Z Z<|LO.sk Z Z Z (gd g10 Z) Z Z<|yE Z (bx Z (aG g10 Z) Z)<|LO.nil<|zT<|LW.condT Z<|zQ<|zR<|zM Z<|zN<|zT<|zr<|aq<|af ?_;refine af<|aq<|af<|af ?_;obtain rfl:=zJ hr;have hr:=congrArg some (hb_x2 _ rfl);obtain rfl:=zJ hr;have hr:=bV ho_v7;obtain rfl:=zJ hr;exact zf (.one (.tmp Z)) zv
        ·refine zo g10 hr fun hr=>LO.gd Z Z Z (gd g10 Z) Z (zA Z Z aQ)<|LO.gd Z Z Z (gd g10 Z) Z (zD Z Z Z co Z Z)<|LO.gd Z Z Z (gd g10 Z) Z (zm Z Z)<|zg hr fun q1 hr=>LO.gd Z Z Z (gd g10 Z) Z (aa.sliceHi Z Z Z bD q1)<|LO.gd Z Z Z (gd g10 Z) Z (zA Z Z aQ)<|LO.gd Z Z Z (gd g10 Z) Z (zD Z Z Z co Z Z)<|LO.gd Z Z Z (gd g10 Z) Z (zm Z Z)<|zb hr fun y5 h_y5 hr=>LO.gd Z Z Z (gd g10 Z) Z (zx Z Z Z bD h_y5 Z)<|LO.gd Z Z Z (gd g10 Z) Z (ci Z Z Z cp Z Z)<|zb hr fun v10 h_v10 hr=>LO.gd Z Z Z (gd g10 Z) Z (zC Z Z Z (by kernel_rfl) (zp (GZ h_v10) (.cons zv (.cons zv .nil))))<|LO.gd Z Z Z (gd g10 Z) Z (ap Z Z Z Z)<|yE Z (aO Z (aG g10 Z) Z)<|LO.nil<|zT ?_;refine zX Z (fun g11=>?_)<|fun g11=>?_
         ·refine zi g11 hr fun hr=>zQ<|zR<|zM Z<|zN<|zT<|zr<|aq<|af<|af<|aq<|af<|af ?_;obtain rfl:=zJ hr;have hr:=congrArg some (hb_x2 _ rfl);obtain rfl:=zJ hr;have hr:=bV ho_v7;obtain rfl:=zJ hr;exact zf (.one (.tmp Z)) zv
         ·refine zo g11 hr fun hr=>zk<|ai<|zT<|zR<|zM Z<|yS Z (ap Z Z Z Z)<|zM Z<|zN<|zT ?_;obtain rfl:=zJ hr;exact⟨_,rfl,zW 2 ⟨rfl,rfl,rfl,rfl,rfl,trivial⟩ Z Z Z rfl⟩
     ·refine zo g7 hr fun hr=>zq<|aj<|aj<|zy<|zT ?_;obtain rfl:=zJ hr;have hr:=congrArg some (hb_x2 _ rfl);obtain rfl:=zJ hr;exact⟨_,rfl,zW 2 ⟨rfl,trivial⟩ Z Z Z rfl⟩
    ·obtain rfl:=e_v7;have hr:=cU ho_v7;clear hb_v7;refine zT<|LW.weak hw_v7<|zQ<|zR<|zM Z<|zN<|zT<|zr ?_;obtain rfl:=zJ hr;exact zf (.one (.tmp Z)) zv
structure gt where
 v_at:Int
def nP (l:List Int)(n:Int)(x1:gt):Option (gt⊕gt):=bif decide (x1.v_at>0)then (ix l (IntKind.i64.wrap (x1.v_at-1))).bind fun y1=>bif decide (y1>n)then some (.inl (gt.mk (IntKind.i64.wrap (x1.v_at-1))))else some (.inr (gt.mk x1.v_at))else some (.inr (gt.mk x1.v_at))
def vb (l:List Int)(n:Int):Option (List Int):=(iter (nP l n) bg (gt.mk (l.length:Int))).bind fun v1=>(bif decide (v1.v_at>0)then (ix l (IntKind.i64.wrap (v1.v_at-1))).bind fun y2=>bif y2==n then some (.inr l)else some (.inl ())else some (.inl ())).bind fun b_v2=>Sum.elim (fun _=>bif yJ l 0 v1.v_at then bif cy 0 (l.take v1.v_at.toNat).length 8 then bif cy (l.take v1.v_at.toNat).length [n].length 8 then bif yJ l v1.v_at l.length then bif cy ((l.take v1.v_at.toNat)++[n]).length (l.drop v1.v_at.toNat).length 8 then some (((l.take v1.v_at.toNat)++[n])++(l.drop v1.v_at.toNat))else none else none else none else none else none) some b_v2
theorem Jv {l:List Int}{n:Int}{r_:(List Int)}(hr:vb l n=some r_):ar Tryz.prog 223 [.slice 1 (l.map aT),.int .i64 n] [.slice 1 (r_.map aT)]:=by
 refine zh Tryz.func223 Z Z Z Z ?_;unfold vb at hr;refine zQ<|zR<|zM Z<|zN<|zT<|zQ<|zR<|zM Z<|yS Z (cD Z Z (by kernel_rfl))<|zM Z<|zN<|zT ?_;obtain⟨v1,hb_v1,ho_v1⟩:=zB hr;clear hr;refine LW.cut (E:=[(0,(kI l)),(1,(iQ n)),(4,.zs),(5,(iQ v1.v_at))]) (O:=[]) ?_ ?_
 ·refine LW.block ?_;refine LW.iterB (E:=fun x1:gt=>[(0,(kI l)),(1,(iQ n)),(4,.zs),(5,(iQ x1.v_at))]) (O:=fun x1=>[]) hb_v1 (zW 0 ⟨rfl,rfl,rfl,rfl,trivial⟩ Z Z Z Z)<|fun x1 z_x1 hr hb_x1=>?_;unfold nP at hr;refine zQ<|zQ<|zR<|zM Z<|yS Z (ap Z Z Z Z)<|zM Z ?_;refine zc 11 Z (fun g1=>?_)<|fun g1=>?_
  ·refine zi g1 hr fun hr=>yV Z (gd g1 Z) (zm Z Z)<|yV Z (gd g1 Z) (zm Z Z)<|yV Z (gd g1 Z) (ap Z Z Z Z)<|zb hr fun y1 h_y1 hr=>yV Z (gd g1 Z) (zx Z Z Z ei h_y1 Z)<|yV Z (gd g1 Z) (ci Z Z Z aW Z Z)<|yV Z (gd g1 Z) (zm Z Z)<|yV Z (gd g1 Z) (ap Z Z Z Z)<|yS Z (bx Z (aG g1 Z) Z)<|zN<|zT ?_;refine zX Z (fun g2=>?_)<|fun g2=>?_
   ·refine zi g2 hr fun hr=>zk<|zT<|zl<|zR<|zM Z<|yS Z (ap Z Z Z Z)<|zM Z<|zN<|ai<|zT ?_;obtain rfl:=zJ hr;exact⟨_,rfl,zW 0 ⟨rfl,rfl,rfl,rfl,trivial⟩ Z Z Z rfl⟩
   ·refine zo g2 hr fun hr=>zq<|aj<|aj<|zy<|zT ?_;obtain rfl:=zJ hr;have hr:=congrArg some (hb_x1 _ rfl);obtain rfl:=zJ hr;exact zW 0 ⟨Z,Z,Z,Z,trivial⟩ Z Z Z Z
  ·refine zo g1 hr fun hr=>yU Z (gd g1 Z) Z<|yU Z (gd g1 Z) Z<|yU Z (gd g1 Z) Z<|yU Z (gd g1 Z) Z<|yU Z (gd g1 Z) Z<|yU Z (gd g1 Z) Z<|yU Z (gd g1 Z) Z<|yS Z (aO Z (aG g1 Z) Z)<|zN<|zT<|LW.condF Z<|zq<|aj<|aj<|zy<|zT ?_;obtain rfl:=zJ hr;have hr:=congrArg some (hb_x1 _ rfl);obtain rfl:=zJ hr;exact zW 0 ⟨Z,Z,Z,Z,trivial⟩ Z Z Z Z
 ·have hr:=ho_v1;clear hb_v1;obtain⟨b_v2,hb_v2,ho_v2⟩:=zB hr;clear hr;refine LW.cutB (b:=b_v2) (E:=fun v2=>[(0,(kI l)),(1,(iQ n)),(4,.zs),(5,(iQ v1.v_at))]) (O:=fun v2=>[]) ?_<|fun v2 e_v2=>?_
  ·have hr:=hb_v2;refine zQ<|zR<|zM Z<|yS Z (ap Z Z Z Z)<|zM Z ?_;refine zc 24 Z (fun g3=>?_)<|fun g3=>?_
   ·refine zi g3 hr fun hr=>yV Z (gd g3 Z) (zm Z Z)<|yV Z (gd g3 Z) (zm Z Z)<|yV Z (gd g3 Z) (ap Z Z Z Z)<|zb hr fun y2 h_y2 hr=>yV Z (gd g3 Z) (zx Z Z Z ei h_y2 Z)<|yV Z (gd g3 Z) (ci Z Z Z aW Z Z)<|yV Z (gd g3 Z) (zm Z Z)<|yV Z (gd g3 Z) (ap Z Z Z Z)<|yS Z (bx Z (aG g3 Z) Z)<|zN<|zT ?_;refine zX Z (fun g4=>?_)<|fun g4=>?_
    ·refine zi g4 hr fun hr=>zQ<|zR<|zM Z<|zM Z<|zN<|zT<|zr<|af ?_;obtain rfl:=zJ hr;have hr:=bV ho_v2;obtain rfl:=zJ hr;exact zf (.one (.tmp Z)) zv
    ·refine zo g4 hr fun hr=>zk<|zT ?_;obtain rfl:=zJ hr;exact⟨_,rfl,zW 0 ⟨rfl,rfl,rfl,rfl,trivial⟩ Z Z Z rfl⟩
   ·refine zo g3 hr fun hr=>yU Z (gd g3 Z) Z<|yU Z (gd g3 Z) Z<|yU Z (gd g3 Z) Z<|yU Z (gd g3 Z) Z<|yU Z (gd g3 Z) Z<|yU Z (gd g3 Z) Z<|yU Z (gd g3 Z) Z<|yS Z (aO Z (aG g3 Z) Z)<|zN<|zT<|LW.condF Z<|zk<|zT ?_;obtain rfl:=zJ hr;exact⟨_,rfl,zW 0 ⟨rfl,rfl,rfl,rfl,trivial⟩ Z Z Z rfl⟩
  ·obtain rfl:=e_v2;have hr:=cU ho_v2;clear hb_v2;refine zQ<|zR<|zM Z<|zM Z<|zg hr fun q1 hr=>yS Z (aa.sliceHi Z Z Z ei q1)<|zg hr fun q2 hr=>yS Z (aa.appendZX aT (l.take v1.v_at.toNat) Z Z Z Z iR.p Z ei q2 Z)<|zM Z<|zN<|zT<|zQ<|zR<|zM Z<|zM Z<|yS Z (iO Z ei Z Z Z Z Z)<|zg hr fun q3 hr=>yS Z (aa.appendX aT (l.take v1.v_at.toNat) [n] rfl Z Z Z iR.p Z ei q3 Z)<|zM Z<|zN<|zT<|zQ<|zR<|zM Z ?_;refine zM Z<|zM Z<|zg hr fun q4 hr=>yS Z (aa.sliceLo Z Z Z ei q4)<|zg hr fun q5 hr=>yS Z (aa.appendX aT ((l.take v1.v_at.toNat)++[n]) (l.drop v1.v_at.toNat) Z Z Z Z iR.p Z ei q5 Z)<|zM Z<|zN<|zT<|zr ?_;obtain rfl:=zJ hr;exact zf (.one (.tmp Z))<|(Conv.vecAll Z Z Z)
structure hY where
 out:List Int
 i:Int
def nM (l:List Vt)(x1:hY):Option (hY⊕hY):=bif decide (x1.i<(l.length:Int))then (ix l x1.i).bind fun y1=>(vb x1.out y1.From).bind fun v2=>some (.inl (hY.mk v2 (IntKind.i64.wrap (x1.i+1))))else some (.inr (hY.mk x1.out x1.i))
def u7 (l:List Vt):Option (List Int):=(iter (nM l) bg (hY.mk ([]:List Int) 0)).bind fun v1=>some v1.out
theorem Js {l:List Vt}{r_:(List Int)}(hr:u7 l=some r_):ar Tryz.prog 187 [.slice 4 (l.map aK)] [.slice 1 (r_.map aT)]:=by
 refine zh Tryz.func187 Z Z Z Z ?_;unfold u7 at hr;refine zQ<|zR<|zM Z<|zN<|zT<|zQ<|zR<|zM Z<|zN<|zT<|zQ<|zQ<|zR<|zM Z<|zN<|zT<|LW.ent (cz.zsP (t:=3) (m:=1) Z) ?_;obtain⟨v1,hb_v1,ho_v1⟩:=zB hr;clear hr;refine LW.tail (E:=[(2,.zs),(3,(kI v1.out))]) (O:=[]) ?_<|fun env_v1 H_v1 hw_v1=>?_
 ·refine LW.block ?_;refine LW.iterB (E:=fun x1:hY=>[(0,(kV l)),(2,.zs),(3,(kI x1.out)),(4,(iQ x1.i))]) (O:=fun x1=>[]) hb_v1 (zW 0 ⟨rfl,rfl,rfl,rfl,trivial⟩ Z Z Z Z)<|fun x1 z_x1 hr hb_x1=>?_;unfold nM at hr;refine zQ<|zQ<|zR<|zM Z<|zM Z<|yS Z (cD Z Z (by kernel_rfl))<|yS Z (ap Z Z Z Z)<|zN<|zT ?_;refine zX Z (fun g1=>?_)<|fun g1=>?_
  ·refine zi g1 hr fun hr=>zk<|zT<|zQ<|zl<|zR<|zM Z<|zM Z<|zM Z<|zb hr fun y1 h_y1 hr=>yS Z (zx Z Z Z bD h_y1 Z)<|yS Z (aa.fieldAddrC Z Z iq Z)<|yS Z (ci Z Z Z aW Z Z)<|zb hr fun v2 h_v2 hr=>yS Z (zC Z Z Z (by kernel_rfl) (zp (Jv h_v2) (.cons zv (.cons zv .nil))))<|zM Z<|zN<|ai<|zT<|zR<|zM Z<|yS Z (ap Z Z Z Z)<|zM Z<|zN ?_;refine zT ?_;obtain rfl:=zJ hr;exact⟨_,rfl,zW 0 ⟨rfl,rfl,rfl,rfl,trivial⟩ Z Z Z rfl⟩
  ·refine zo g1 hr fun hr=>zq<|aj<|aj<|zy<|zT ?_;obtain rfl:=zJ hr;have hr:=congrArg some (hb_x1 _ rfl);obtain rfl:=zJ hr;exact zW 0 ⟨Z,Z,trivial⟩ Z Z Z Z
 ·have hr:=ho_v1;clear hb_v1;refine zT<|LW.weak hw_v1<|zQ<|zR<|zM Z<|zM Z<|zN<|zT<|zr ?_;obtain rfl:=zJ hr;exact zf (.one (.tmp Z)) zv
structure dN where
 i:Int
structure dm where
 k:Int
def jA (l:List Vt)(slot:Int)(who:Int)(x1:dN)(x2:dm):Option (dm⊕(dm⊕(dN⊕(dN⊕Bool)))):=bif decide (x2.k<x1.i)then (ix l x1.i).bind fun y1=>bif y1.From==who then (ix l x2.k).bind fun y2=>bif y2.From==who then (ix l x1.i).bind fun y3=>bif y3.Slot==slot then (ix l x2.k).bind fun y4=>bif y4.Slot==slot then (ix l x1.i).bind fun y5=>(ix l x2.k).bind fun y6=>bif !((y5.Head.1==y6.Head.1)&&((y5.Head.2==y6.Head.2)&&true))then some (.inr (.inr (.inr (.inr true))))else some (.inl (dm.mk (IntKind.i64.wrap (x2.k+1))))else some (.inl (dm.mk (IntKind.i64.wrap (x2.k+1))))else some (.inl (dm.mk (IntKind.i64.wrap (x2.k+1))))else some (.inl (dm.mk (IntKind.i64.wrap (x2.k+1))))else some (.inl (dm.mk (IntKind.i64.wrap (x2.k+1))))else some (.inr (.inl (dm.mk x2.k)))
def nN (l:List Vt)(slot:Int)(who:Int)(x1:dN):Option (dN⊕(dN⊕Bool)):=bif decide (x1.i<(l.length:Int))then (iter (jA l slot who x1) bg (dm.mk 0)).bind fun b_v2=>Sum.elim (fun _=>some (.inl (dN.mk (IntKind.i64.wrap (x1.i+1))))) some b_v2 else some (.inr (.inl (dN.mk x1.i)))
def u8 (l:List Vt)(slot:Int)(who:Int):Option Bool:=(iter (nN l slot who) bg (dN.mk 0)).bind fun b_v1=>Sum.elim (fun _=>some false) some b_v1
theorem Jt {l:List Vt}{slot:Int}{who:Int}{r_:Bool}(hr:u8 l slot who=some r_):ar Tryz.prog 188 [.slice 4 (l.map aK),.int .i64 slot,.int .i64 who] [.bool r_]:=by
 refine zh Tryz.func188 Z Z Z Z ?_;unfold u8 at hr;refine zQ<|zR<|zM Z<|zN<|zT<|zQ<|zQ<|zR<|zM Z<|zN<|zT ?_;obtain⟨b_v1,hb_v1,ho_v1⟩:=zB hr;clear hr;refine LW.tailB (b:=b_v1) (E:=fun v1=>[(6,(bQ false))]) (O:=fun v1=>[]) ?_<|fun v1 e_v1 env_v1 H_v1 hw_v1=>?_
 ·refine LW.block ?_;refine LW.iterB (E:=fun x1:dN=>[(0,(kV l)),(1,(iQ slot)),(2,(iQ who)),(6,(bQ false)),(7,(iQ x1.i))]) (O:=fun x1=>[]) hb_v1 (zW 0 ⟨rfl,rfl,rfl,rfl,rfl,trivial⟩ Z Z Z Z)<|fun x1 z_x1 hr hb_x1=>?_;unfold nN at hr;refine zQ<|zQ<|zR<|zM Z<|zM Z<|yS Z (cD Z Z (by kernel_rfl))<|yS Z (ap Z Z Z Z)<|zN<|zT ?_;refine zX Z (fun g1=>?_)<|fun g1=>?_
  ·refine zi g1 hr fun hr=>zk<|zT<|zQ<|zl<|zQ<|zR<|zM Z<|zN<|zT ?_;obtain⟨b_v2,hb_v2,ho_v2⟩:=zB hr;clear hr;refine LW.tailB (b:=b_v2) (E:=fun v2=>[(0,(kV l)),(1,(iQ slot)),(2,(iQ who)),(6,(bQ false)),(7,(iQ x1.i))]) (O:=fun v2=>[]) ?_<|fun v2 e_v2 env_v2 H_v2 hw_v2=>?_
   ·refine LW.block ?_;refine LW.iterB (E:=fun x2:dm=>[(0,(kV l)),(1,(iQ slot)),(2,(iQ who)),(6,(bQ false)),(7,(iQ x1.i)),(8,(iQ x2.k))]) (O:=fun x2=>[]) hb_v2 (zW 0 ⟨rfl,rfl,rfl,rfl,rfl,rfl,trivial⟩ Z Z Z Z)<|fun x2 z_x2 hr hb_x2=>?_;unfold jA at hr;refine zQ<|zQ<|zR<|zM Z<|zM Z<|yS Z (ap Z Z Z Z)<|zN<|zT ?_;refine zX Z (fun g2=>?_)<|fun g2=>?_
    ·refine zi g2 hr fun hr=>zk<|zT<|zQ<|zl<|zQ<|LW.draw2 (by kernel_rfl) (by kernel_rfl)<|zH Z<|zH Z<|zb hr fun y1 h_y1 hr=>yE Z (zx Z Z Z bD h_y1 Z)<|yE Z (aa.fieldAddrC Z Z iq Z)<|yE Z (ci Z Z Z aW Z Z)<|zH Z<|yE Z (ap Z Z Z Z)<|zH Z ?_;refine LO.cases 27 Z (fun(g3:(y1.From==who)=true)=>?_) (fun(g3:(y1.From==who)=false)=>?_)
     ·refine zi g3 hr fun hr=>LO.gd Z Z Z (gd g3 Z) Z (zm Z Z)<|LO.gd Z Z Z (gd g3 Z) Z (zm Z Z)<|zb hr fun y2 h_y2 hr=>LO.gd Z Z Z (gd g3 Z) Z (zx Z Z Z bD h_y2 Z)<|LO.gd Z Z Z (gd g3 Z) Z (aa.fieldAddrC Z Z iq Z)<|LO.gd Z Z Z (gd g3 Z) Z (ci Z Z Z aW Z Z)<|LO.gd Z Z Z (gd g3 Z) Z (zm Z Z)<|LO.gd Z Z Z (gd g3 Z) Z (ap Z Z Z Z)<|yE Z (bx Z (aG g3 Z) Z)<|zH Z ?_;refine LO.cases 36 Z (fun(g4:(y2.From==who)=true)=>?_) (fun(g4:(y2.From==who)=false)=>?_)
      ·refine zi g4 hr fun hr=>LO.gd Z Z Z (gd g4 Z) Z (zm Z Z)<|LO.gd Z Z Z (gd g4 Z) Z (zm Z Z)<|zb hr fun y3 h_y3 hr=>LO.gd Z Z Z (gd g4 Z) Z (zx Z Z Z bD h_y3 Z)<|LO.gd Z Z Z (gd g4 Z) Z (aa.fieldAddrC Z Z gG Z)<|LO.gd Z Z Z (gd g4 Z) Z (ci Z Z Z aW Z Z)<|LO.gd Z Z Z (gd g4 Z) Z (zm Z Z)<|LO.gd Z Z Z (gd g4 Z) Z (ap Z Z Z Z)<|yE Z (bx Z (aG g4 Z) Z)<|zH Z ?_;refine LO.cases 45 Z (fun(g5:(y3.Slot==slot)=true)=>?_) (fun(g5:(y3.Slot==slot)=false)=>?_)
       ·refine zi g5 hr fun hr=>LO.gd Z Z Z (gd g5 Z) Z (zm Z Z)<|LO.gd Z Z Z (gd g5 Z) Z (zm Z Z)<|zb hr fun y4 h_y4 hr=>LO.gd Z Z Z (gd g5 Z) Z (zx Z Z Z bD h_y4 Z)<|LO.gd Z Z Z (gd g5 Z) Z (aa.fieldAddrC Z Z gG Z)<|LO.gd Z Z Z (gd g5 Z) Z (ci Z Z Z aW Z Z)<|LO.gd Z Z Z (gd g5 Z) Z (zm Z Z)<|LO.gd Z Z Z (gd g5 Z) Z (ap Z Z Z Z)<|yE Z (bx Z (aG g5 Z) Z)<|zH Z ?_;refine LO.cases 54 Z (fun(g6:(y4.Slot==slot)=true)=>?_) (fun(g6:(y4.Slot==slot)=false)=>?_)
        ·refine zi g6 hr fun hr=>LO.gd Z Z Z (gd g6 Z) Z (zm Z Z)<|LO.gd Z Z Z (gd g6 Z) Z (zm Z Z)<|zb hr fun y5 h_y5 hr=>LO.gd Z Z Z (gd g6 Z) Z (zx Z Z Z bD h_y5 Z)<|LO.gd Z Z Z (gd g6 Z) Z (aa.fieldAddrC Z Z gH Z)<|LO.gd Z Z Z (gd g6 Z) Z (ci Z Z Z ay Z Z)<|LO.gd Z Z Z (gd g6 Z) Z (zm Z Z)<|LO.gd Z Z Z (gd g6 Z) Z (zm Z Z)<|zb hr fun y6 h_y6 hr=>LO.gd Z Z Z (gd g6 Z) Z (zx Z Z Z bD h_y6 Z)<|LO.gd Z Z Z (gd g6 Z) Z (aa.fieldAddrC Z Z gH Z)<|LO.gd Z Z Z (gd g6 Z) Z (ci Z Z Z ay Z Z)<|LO.gd Z Z Z (gd g6 Z) Z (aa.neqAgg Z Z Z Z Z fu)<|yE Z (bx Z (aG g6 Z) Z)<|LO.nil<|zT ?_;refine zX Z (fun g7=>?_)<|fun g7=>?_
         ·refine zi g7 hr fun hr=>zQ<|zR<|zM Z<|zN<|zT<|zr<|aq<|af<|af<|aq<|af<|aq<|af<|af<|aq<|af<|af ?_;obtain rfl:=zJ hr;have hr:=congrArg some (hb_x2 _ rfl);obtain rfl:=zJ hr;have hr:=bV ho_v2;obtain rfl:=zJ hr;have hr:=congrArg some (hb_x1 _ rfl);obtain rfl:=zJ hr;have hr:=bV ho_v1;obtain rfl:=zJ hr;exact zf (.one (.tmp Z)) zv
         ·refine zo g7 hr fun hr=>zk<|ai<|zT<|zR<|zM Z<|yS Z (ap Z Z Z Z)<|zM Z<|zN<|zT ?_;obtain rfl:=zJ hr;exact⟨_,rfl,zW 0 ⟨rfl,rfl,rfl,rfl,rfl,rfl,trivial⟩ Z Z Z rfl⟩
        ·refine zo g6 hr fun hr=>LO.sk Z Z Z (gd g6 Z) Z Z<|LO.sk Z Z Z (gd g6 Z) Z Z<|LO.sk Z Z Z (gd g6 Z) Z Z<|LO.sk Z Z Z (gd g6 Z) Z Z<|LO.sk Z Z Z (gd g6 Z) Z Z<|LO.sk Z Z Z (gd g6 Z) Z Z<|LO.sk Z Z Z (gd g6 Z) Z Z<|LO.sk Z Z Z (gd g6 Z) Z Z<|LO.sk Z Z Z (gd g6 Z) Z Z<|LO.sk Z Z Z (gd g6 Z) Z Z<|LO.sk Z Z Z (gd g6 Z) Z Z<|yE Z (aO Z (aG g6 Z) Z)<|LO.nil<|zT<|LW.condF Z<|zk<|ai<|zT<|zR<|zM Z<|yS Z (ap Z Z Z Z)<|zM Z<|zN ?_;refine zT ?_;obtain rfl:=zJ hr;exact⟨_,rfl,zW 0 ⟨rfl,rfl,rfl,rfl,rfl,rfl,trivial⟩ Z Z Z rfl⟩
       ·refine zo g5 hr fun hr=>LO.sk Z Z Z (gd g5 Z) Z Z<|LO.sk Z Z Z (gd g5 Z) Z Z<|LO.sk Z Z Z (gd g5 Z) Z Z<|LO.sk Z Z Z (gd g5 Z) Z Z<|LO.sk Z Z Z (gd g5 Z) Z Z<|LO.sk Z Z Z (gd g5 Z) Z Z<|LO.sk Z Z Z (gd g5 Z) Z Z<|yE Z (aO Z (aG g5 Z) Z)<|zH Z<|LO.sk Z Z Z Z Z Z<|LO.sk Z Z Z Z Z Z<|LO.sk Z Z Z Z Z Z<|LO.sk Z Z Z Z Z Z<|LO.sk Z Z Z Z Z Z<|LO.sk Z Z Z Z Z Z<|LO.sk Z Z Z Z Z Z<|LO.sk Z Z Z Z Z Z<|LO.sk Z Z Z Z Z Z<|LO.sk Z Z Z Z Z Z<|LO.sk Z Z Z Z Z Z<|yE Z (aO Z Z Z)<|LO.nil<|zT ?_;refine LW.condF Z<|zk<|ai<|zT<|zR<|zM Z<|yS Z (ap Z Z Z Z)<|zM Z<|zN<|zT ?_;obtain rfl:=zJ hr;exact⟨_,rfl,zW 0 ⟨rfl,rfl,rfl,rfl,rfl,rfl,trivial⟩ Z Z Z rfl⟩
      ·refine zo g4 hr fun hr=>LO.sk Z Z Z (gd g4 Z) Z Z<|LO.sk Z Z Z (gd g4 Z) Z Z<|LO.sk Z Z Z (gd g4 Z) Z Z<|LO.sk Z Z Z (gd g4 Z) Z Z<|LO.sk Z Z Z (gd g4 Z) Z Z<|LO.sk Z Z Z (gd g4 Z) Z Z<|LO.sk Z Z Z (gd g4 Z) Z Z<|yE Z (aO Z (aG g4 Z) Z)<|zH Z<|LO.sk Z Z Z Z Z Z<|LO.sk Z Z Z Z Z Z<|LO.sk Z Z Z Z Z Z<|LO.sk Z Z Z Z Z Z<|LO.sk Z Z Z Z Z Z<|LO.sk Z Z Z Z Z Z<|LO.sk Z Z Z Z Z Z<|yE Z (aO Z Z Z)<|zH Z<|LO.sk Z Z Z Z Z Z<|LO.sk Z Z Z Z Z Z<|LO.sk Z Z Z Z Z Z<|LO.sk Z Z Z Z Z Z<|LO.sk Z Z Z Z Z Z ?_;refine LO.sk Z Z Z Z Z Z<|LO.sk Z Z Z Z Z Z<|LO.sk Z Z Z Z Z Z<|LO.sk Z Z Z Z Z Z<|LO.sk Z Z Z Z Z Z<|LO.sk Z Z Z Z Z Z<|yE Z (aO Z Z Z)<|LO.nil<|zT<|LW.condF Z<|zk<|ai<|zT<|zR<|zM Z<|yS Z (ap Z Z Z Z)<|zM Z<|zN<|zT ?_;obtain rfl:=zJ hr;exact⟨_,rfl,zW 0 ⟨rfl,rfl,rfl,rfl,rfl,rfl,trivial⟩ Z Z Z rfl⟩
     ·refine zo g3 hr fun hr=>LO.sk Z Z Z (gd g3 Z) Z Z<|LO.sk Z Z Z (gd g3 Z) Z Z<|LO.sk Z Z Z (gd g3 Z) Z Z<|LO.sk Z Z Z (gd g3 Z) Z Z<|LO.sk Z Z Z (gd g3 Z) Z Z<|LO.sk Z Z Z (gd g3 Z) Z Z<|LO.sk Z Z Z (gd g3 Z) Z Z<|yE Z (aO Z (aG g3 Z) Z)<|zH Z<|LO.sk Z Z Z Z Z Z<|LO.sk Z Z Z Z Z Z<|LO.sk Z Z Z Z Z Z<|LO.sk Z Z Z Z Z Z<|LO.sk Z Z Z Z Z Z<|LO.sk Z Z Z Z Z Z<|LO.sk Z Z Z Z Z Z<|yE Z (aO Z Z Z)<|zH Z<|LO.sk Z Z Z Z Z Z<|LO.sk Z Z Z Z Z Z<|LO.sk Z Z Z Z Z Z<|LO.sk Z Z Z Z Z Z<|LO.sk Z Z Z Z Z Z ?_;refine LO.sk Z Z Z Z Z Z<|LO.sk Z Z Z Z Z Z<|yE Z (aO Z Z Z)<|zH Z<|LO.sk Z Z Z Z Z Z<|LO.sk Z Z Z Z Z Z<|LO.sk Z Z Z Z Z Z<|LO.sk Z Z Z Z Z Z<|LO.sk Z Z Z Z Z Z<|LO.sk Z Z Z Z Z Z<|LO.sk Z Z Z Z Z Z<|LO.sk Z Z Z Z Z Z<|LO.sk Z Z Z Z Z Z<|LO.sk Z Z Z Z Z Z<|LO.sk Z Z Z Z Z Z<|yE Z (aO Z Z Z)<|LO.nil<|zT<|LW.condF Z<|zk<|ai<|zT<|zR<|zM Z ?_;refine yS Z (ap Z Z Z Z)<|zM Z<|zN<|zT ?_;obtain rfl:=zJ hr;exact⟨_,rfl,zW 0 ⟨rfl,rfl,rfl,rfl,rfl,rfl,trivial⟩ Z Z Z rfl⟩
    ·refine zo g2 hr fun hr=>zq<|aj<|aj<|zy<|zT ?_;obtain rfl:=zJ hr;have hr:=congrArg some (hb_x2 _ rfl);obtain rfl:=zJ hr;exact⟨_,rfl,zW 0 ⟨rfl,rfl,rfl,rfl,rfl,trivial⟩ Z Z Z rfl⟩
   ·obtain rfl:=e_v2;have hr:=cU ho_v2;clear hb_v2;refine ai<|zT<|LW.weak hw_v2<|zR<|zM Z<|yS Z (ap Z Z Z Z)<|zM Z<|zN<|zT ?_;obtain rfl:=zJ hr;exact⟨_,rfl,zW 0 ⟨rfl,rfl,rfl,rfl,rfl,trivial⟩ Z Z Z rfl⟩
  ·refine zo g1 hr fun hr=>zq<|aj<|aj<|zy<|zT ?_;obtain rfl:=zJ hr;have hr:=congrArg some (hb_x1 _ rfl);obtain rfl:=zJ hr;exact⟨_,rfl,zW 0 ⟨rfl,trivial⟩ Z Z Z rfl⟩
 ·obtain rfl:=e_v1;have hr:=cU ho_v1;clear hb_v1;refine zT<|LW.weak hw_v1<|zQ<|zR<|zM Z<|zN<|zT<|zr ?_;obtain rfl:=zJ hr;exact zf (.one (.tmp Z)) zv
structure dL where
 i:Int
 out:List Vt
structure fC where
 k:Int
 out:List Vt
def k9 (l:List Vt)(slot:Int)(v1:(List Int))(x1:dL)(x2:fC):Option (fC⊕fC):=bif decide (x2.k<(l.length:Int))then ((ix l x2.k).bind fun y2=>(ix v1 x1.i).bind fun y3=>bif y2.From==y3 then (ix l x2.k).bind fun y4=>some (y4.Slot==slot)else some false).bind fun v5=>bif v5 then (ix l x2.k).bind fun y5=>bif cy x2.out.length [y5].length 32 then some (.inr (fC.mk x2.k (x2.out++[y5])))else none else some (.inl (fC.mk (IntKind.i64.wrap (x2.k+1)) x2.out))else some (.inr (fC.mk x2.k x2.out))
def jz (l:List Vt)(slot:Int)(v1:(List Int))(x1:dL):Option (dL⊕dL):=bif decide (x1.i<(v1.length:Int))then (ix v1 x1.i).bind fun y1=>(u8 l slot y1).bind fun v3=>bif v3 then some (.inl (dL.mk (IntKind.i64.wrap (x1.i+1)) x1.out))else (iter (k9 l slot v1 x1) bg (fC.mk 0 x1.out)).bind fun v4=>some (.inl (dL.mk (IntKind.i64.wrap (x1.i+1)) v4.out))else some (.inr (dL.mk x1.i x1.out))
def u4 (l:List Vt)(slot:Int):Option (List Vt):=(u7 l).bind fun v1=>(iter (jz l slot v1) bg (dL.mk 0 ([]:List Vt))).bind fun v2=>some v2.out
theorem Jo {l:List Vt}{slot:Int}{r_:(List Vt)}(hr:u4 l slot=some r_):ar Tryz.prog 146 [.slice 4 (l.map aK),.int .i64 slot] [.slice 4 (r_.map aK)]:=by
 refine zh Tryz.func146 Z Z Z Z ?_;unfold u4 at hr;refine zQ<|zR<|zM Z<|zN<|zT<|zQ<|zR<|zM Z<|zN<|zT<|zQ<|zR<|zM Z<|zb hr fun v1 h_v1 hr=>yS Z (zC Z Z Z (by kernel_rfl) (zp (Js h_v1) (.cons zv .nil)))<|zM Z<|zN<|zT<|zQ<|zQ<|zR<|zM Z<|zN<|zT ?_;refine LW.ent (cz.lazy (t:=5) (m:=4) Z Z Z) ?_;obtain⟨v2,hb_v2,ho_v2⟩:=zB hr;clear hr;refine LW.tail (E:=[(4,.zs),(5,(jV 0 v2.out))]) (O:=[.vec 4 (v2.out.map aK)]) ?_<|fun env_v2 H_v2 hw_v2=>?_
 ·refine LW.block ?_;refine LW.iterB (E:=fun x1:dL=>[(0,(kV l)),(1,(iQ slot)),(4,.zs),(5,(jV 0 x1.out)),(6,(kI v1)),(7,(iQ x1.i))]) (O:=fun x1=>[.vec 4 (x1.out.map aK)]) hb_v2 (zW 1 ⟨rfl,rfl,rfl,rfl,rfl,rfl,trivial⟩ Z Z Z Z)<|fun x1 z_x1 hr hb_x1=>?_;unfold jz at hr;refine zQ<|zQ<|zR<|zM Z<|zM Z<|yS Z (cD Z Z (by kernel_rfl))<|yS Z (ap Z Z Z Z)<|zN<|zT ?_;refine zX Z (fun g1=>?_)<|fun g1=>?_
  ·refine zi g1 hr fun hr=>zk<|zT<|zQ<|zl<|zQ<|zR<|zM Z<|zM Z<|zM Z<|zM Z<|zb hr fun y1 h_y1 hr=>yS Z (zx Z Z Z ei h_y1 Z)<|yS Z (ci Z Z Z aW Z Z)<|zb hr fun v3 h_v3 hr=>yS Z (zC Z Z Z (by kernel_rfl) (zp (Jt h_v3) (.cons zv (.cons zv (.cons zv .nil)))))<|zM Z<|zN<|zT<|zQ<|zQ<|zR<|zM Z<|zN ?_;refine zT ?_;refine zX Z (fun g2=>?_)<|fun g2=>?_
   ·refine zi g2 hr fun hr=>zq<|aj<|zy<|zT<|zR<|zM Z<|yS Z (ap Z Z Z Z)<|zM Z<|zN<|zT ?_;obtain rfl:=zJ hr;exact⟨_,rfl,zW 1 ⟨rfl,rfl,rfl,rfl,rfl,rfl,trivial⟩ Z Z Z rfl⟩
   ·refine zo g2 hr fun hr=>zk<|zT<|zQ<|zR<|zM Z<|zN<|zT ?_;obtain⟨v4,hb_v4,ho_v4⟩:=zB hr;clear hr;refine LW.tail (E:=[(0,(kV l)),(1,(iQ slot)),(4,.zs),(5,(jV 0 v4.out)),(6,(kI v1)),(7,(iQ x1.i))]) (O:=[.vec 4 (v4.out.map aK)]) ?_<|fun env_v4 H_v4 hw_v4=>?_
    ·refine LW.block ?_;refine LW.iterB (E:=fun x2:fC=>[(0,(kV l)),(1,(iQ slot)),(4,.zs),(5,(jV 0 x2.out)),(6,(kI v1)),(7,(iQ x1.i)),(9,(iQ x2.k))]) (O:=fun x2=>[.vec 4 (x2.out.map aK)]) hb_v4 (zW 1 ⟨rfl,rfl,rfl,rfl,rfl,rfl,rfl,trivial⟩ Z Z Z Z)<|fun x2 z_x2 hr hb_x2=>?_;unfold k9 at hr;refine zQ<|zQ<|zR<|zM Z<|zM Z<|yS Z (cD Z Z (by kernel_rfl))<|yS Z (ap Z Z Z Z)<|zN<|zT ?_;refine zX Z (fun g3=>?_)<|fun g3=>?_
     ·refine zi g3 hr fun hr=>zk<|zT<|zQ<|zl ?_;obtain⟨v5,hb_v5,ho_v5⟩:=zB hr;clear hr;refine LW.cut (E:=[(0,(kV l)),(1,(iQ slot)),(4,.zs),(5,(jV 0 x2.out)),(6,(kI v1)),(7,(iQ x1.i)),(9,(iQ x2.k)),(50,(bQ v5))]) (O:=[.vec 4 (x2.out.map aK)]) ?_ ?_
      ·have hr:=hb_v5;refine LW.draw2 (by kernel_rfl) (by kernel_rfl)<|zH Z<|zH Z<|zb hr fun y2 h_y2 hr=>yE Z (zx Z Z Z bD h_y2 Z)<|yE Z (aa.fieldAddrC Z Z iq Z)<|yE Z (ci Z Z Z aW Z Z)<|zH Z<|zH Z<|zb hr fun y3 h_y3 hr=>yE Z (zx Z Z Z ei h_y3 Z)<|yE Z (ci Z Z Z aW Z Z)<|yE Z (ap Z Z Z Z)<|zH Z ?_;refine LO.cases 42 Z (fun(g4:(y2.From==y3)=true)=>?_) (fun(g4:(y2.From==y3)=false)=>?_)
       ·refine zi g4 hr fun hr=>LO.gd Z Z Z (gd g4 Z) Z (zm Z Z)<|LO.gd Z Z Z (gd g4 Z) Z (zm Z Z)<|zb hr fun y4 h_y4 hr=>LO.gd Z Z Z (gd g4 Z) Z (zx Z Z Z bD h_y4 Z)<|LO.gd Z Z Z (gd g4 Z) Z (aa.fieldAddrC Z Z gG Z)<|LO.gd Z Z Z (gd g4 Z) Z (ci Z Z Z aW Z Z)<|LO.gd Z Z Z (gd g4 Z) Z (zm Z Z)<|LO.gd Z Z Z (gd g4 Z) Z (ap Z Z Z Z)<|yE Z (bx Z (aG g4 Z) Z)<|LO.nil<|zT ?_;obtain rfl:=zJ hr;exact zW 1 ⟨Z,Z,Z,Z,Z,Z,Z,Z,trivial⟩ Z Z Z Z
       ·refine zo g4 hr fun hr=>LO.sk Z Z Z (gd g4 Z) Z Z<|LO.sk Z Z Z (gd g4 Z) Z Z<|LO.sk Z Z Z (gd g4 Z) Z Z<|LO.sk Z Z Z (gd g4 Z) Z Z<|LO.sk Z Z Z (gd g4 Z) Z Z<|LO.sk Z Z Z (gd g4 Z) Z Z<|LO.sk Z Z Z (gd g4 Z) Z Z<|yE Z (aO Z (aG g4 Z) Z)<|LO.nil<|zT ?_;obtain rfl:=zJ hr;exact zW 1 ⟨Z,Z,Z,Z,Z,Z,Z,Z,trivial⟩ Z Z Z Z
      ·have hr:=ho_v5;clear hb_v5;refine zX Z (fun g5=>?_)<|fun g5=>?_
       ·refine zi g5 hr fun hr=>zQ<|zR<|zM Z<|zM Z<|zM Z<|zb hr fun y5 h_y5 hr=>yS Z (zx Z Z Z bD h_y5 Z)<|yS Z (ci Z Z Z cp Z Z)<|yS Z (iO Z bD Z Z Z Z Z)<|zg hr fun q1 hr=>yS Z (aa.appendX aK x2.out [y5] rfl Z Z Z iR.p Z bD q1 Z)<|zM Z<|zN<|zT<|zq<|gw (by decide)<|aj<|aj<|zy<|zT ?_;obtain rfl:=zJ hr;have hr:=congrArg some (hb_x2 _ rfl);obtain rfl:=zJ hr;exact zW 1 ⟨Z,Z,Z,Z,Z,Z,trivial⟩ Z Z Z Z
       ·refine zo g5 hr fun hr=>zk<|ai<|zT<|zR<|zM Z<|yS Z (ap Z Z Z Z)<|zM Z<|zN<|zT ?_;obtain rfl:=zJ hr;exact⟨_,rfl,zW 1 ⟨rfl,rfl,rfl,rfl,rfl,rfl,rfl,trivial⟩ Z Z Z rfl⟩
     ·refine zo g3 hr fun hr=>zq<|aj<|aj<|zy<|zT ?_;obtain rfl:=zJ hr;have hr:=congrArg some (hb_x2 _ rfl);obtain rfl:=zJ hr;exact zW 1 ⟨Z,Z,Z,Z,Z,Z,trivial⟩ Z Z Z Z
    ·have hr:=ho_v4;clear hb_v4;refine ai<|zT<|LW.weak hw_v4<|zR<|zM Z<|yS Z (ap Z Z Z Z)<|zM Z<|zN<|zT ?_;obtain rfl:=zJ hr;exact⟨_,rfl,zW 1 ⟨rfl,rfl,rfl,rfl,rfl,rfl,trivial⟩ Z Z Z rfl⟩
  ·refine zo g1 hr fun hr=>zq<|aj<|aj<|zy<|zT ?_;obtain rfl:=zJ hr;have hr:=congrArg some (hb_x1 _ rfl);obtain rfl:=zJ hr;exact zW 1 ⟨Z,Z,trivial⟩ Z Z Z Z
 ·have hr:=ho_v2;clear hb_v2;refine zT<|LW.weak hw_v2<|zQ<|zR<|zM Z<|zM Z<|zN<|zT<|zr ?_;obtain rfl:=zJ hr;exact zf (.one (.tmp Z))<|(Conv.vecAll Z Z Z)
structure d8 where
 i:Int
 out:List Vt
def jy (v1:(List Vt))(v2:(List Int))(x1:d8):Option (d8⊕d8):=bif decide (x1.i<(v1.length:Int))then (ix v1 x1.i).bind fun y1=>(Gz v2 y1.From).bind fun v4=>bif v4 then (ix v1 x1.i).bind fun y2=>bif cy x1.out.length [y2].length 32 then some (.inl (d8.mk (IntKind.i64.wrap (x1.i+1)) (x1.out++[y2])))else none else some (.inl (d8.mk (IntKind.i64.wrap (x1.i+1)) x1.out))else some (.inr (d8.mk x1.i x1.out))
def sK (c:Cf)(v:List Vt)(slot:Int):Option (List Vt):=(u4 v slot).bind fun v1=>(Gy c slot).bind fun v2=>(iter (jy v1 v2) bg (d8.mk 0 ([]:List Vt))).bind fun v3=>some v3.out
theorem FR {c:Cf}{v:List Vt}{slot:Int}{r_:(List Vt)}(hr:sK c v slot=some r_):ar Tryz.prog 101 [fz c,.slice 4 (v.map aK),.int .i64 slot] [.slice 4 (r_.map aK)]:=by
 refine zh Tryz.func101 Z Z Z Z ?_;unfold sK at hr;refine zQ<|zR<|yS Z (bw Z Z Z Z Z)<|zM Z<|zN<|zT<|zQ<|zR<|zM Z<|zN<|zT<|zQ<|zR<|zM Z<|zM Z<|zb hr fun v1 h_v1 hr=>yS Z (zC Z Z Z (by kernel_rfl) (zp (Jo h_v1) (.cons zv (.cons zv .nil))))<|zM Z<|zN<|zT<|zQ<|zR<|yS Z (zD Z Z Z aY Z Z)<|zM Z ?_;refine zb hr fun v2 h_v2 hr=>yS Z (zC Z Z Z (by kernel_rfl) (zp (LP h_v2) (.cons zv (.cons zv .nil))))<|zM Z<|zN<|zT<|zQ<|zQ<|zR<|zM Z<|zN<|zT<|LW.ent (cz.lazy (t:=7) (m:=4) Z Z Z) ?_;obtain⟨v3,hb_v3,ho_v3⟩:=zB hr;clear hr;refine LW.tail (E:=[(6,.zs),(7,(jV 1 v3.out))]) (O:=[.box (bN c),.vec 4 (v3.out.map aK)]) ?_<|fun env_v3 H_v3 hw_v3=>?_
 ·refine LW.block ?_;refine LW.iterB (E:=fun x1:d8=>[(6,.zs),(7,(jV 1 x1.out)),(8,(kV v1)),(9,(kI v2)),(10,(iQ x1.i))]) (O:=fun x1=>[.box (bN c),.vec 4 (x1.out.map aK)]) hb_v3 (zW 2 ⟨rfl,rfl,rfl,rfl,rfl,trivial⟩ Z Z Z Z)<|fun x1 z_x1 hr hb_x1=>?_;unfold jy at hr;refine zQ<|zQ<|zR<|zM Z<|zM Z<|yS Z (cD Z Z (by kernel_rfl))<|yS Z (ap Z Z Z Z)<|zN<|zT ?_;refine zX Z (fun g1=>?_)<|fun g1=>?_
  ·refine zi g1 hr fun hr=>zk<|zT<|zQ<|zl<|zQ<|zR<|zM Z<|zM Z<|zM Z<|zb hr fun y1 h_y1 hr=>yS Z (zx Z Z Z bD h_y1 Z)<|yS Z (aa.fieldAddrC Z Z iq Z)<|yS Z (ci Z Z Z aW Z Z)<|zb hr fun v4 h_v4 hr=>yS Z (zC Z Z Z (by kernel_rfl) (zp (LR h_v4) (.cons zv (.cons zv .nil))))<|zM Z<|zN<|zT<|zQ<|zR<|zM Z<|zN<|zT ?_;refine zX Z (fun g2=>?_)<|fun g2=>?_
   ·refine zi g2 hr fun hr=>zR<|zM Z<|zM Z<|zM Z<|zb hr fun y2 h_y2 hr=>yS Z (zx Z Z Z bD h_y2 Z)<|yS Z (ci Z Z Z cp Z Z)<|yS Z (iO Z bD Z Z Z Z Z)<|zg hr fun q1 hr=>yS Z (aa.appendX aK x1.out [y2] rfl Z Z Z iR.p Z bD q1 Z)<|zM Z<|zN<|ai<|zT<|zR<|zM Z<|yS Z (ap Z Z Z Z)<|zM Z<|zN<|zT ?_;obtain rfl:=zJ hr;exact⟨_,rfl,zW 2 ⟨rfl,rfl,rfl,rfl,rfl,trivial⟩ Z Z Z rfl⟩
   ·refine zo g2 hr fun hr=>zk<|ai<|zT<|zR<|zM Z<|yS Z (ap Z Z Z Z)<|zM Z<|zN<|zT ?_;obtain rfl:=zJ hr;exact⟨_,rfl,zW 2 ⟨rfl,rfl,rfl,rfl,rfl,trivial⟩ Z Z Z rfl⟩
  ·refine zo g1 hr fun hr=>zq<|aj<|aj<|zy<|zT ?_;obtain rfl:=zJ hr;have hr:=congrArg some (hb_x1 _ rfl);obtain rfl:=zJ hr;exact zW 2 ⟨Z,Z,trivial⟩ Z Z Z Z
 ·have hr:=ho_v3;clear hb_v3;refine zT<|LW.weak hw_v3<|zQ<|zR<|zM Z<|zM Z<|zN<|zT<|zr ?_;obtain rfl:=zJ hr;exact zf (.one (.tmp Z))<|(Conv.vecAll Z Z Z)
def nF (c:Cf)(w:Vw)(slot:Int):Option ID:=(sK c w.V slot).bind fun v1=>(Im c w.B v1).bind fun v2=>some v2
theorem vp {c:Cf}{w:Vw}{slot:Int}{r_:ID}(hr:nF c w slot=some r_):ar Tryz.prog 56 [fz c,gW w,.int .i64 slot] [aR r_]:=by
 refine zh Tryz.func56 Z Z Z Z ?_;unfold nF at hr;refine zQ<|zR<|yS Z (bw Z Z Z Z Z)<|yS Z (bw Z Z Z Z Z)<|yS Z (ze Z fm Z Z)<|zN<|zT<|zQ<|LW.drawLast (m:=9) (by kernel_rfl) (by kernel_rfl) (by kernel_rfl)<|yE Z (zD Z Z Z aY Z Z)<|yE Z (zA Z Z aL)<|yE Z (zD Z Z Z cd Z Z)<|yE Z (zD Z Z Z aY Z Z)<|yE Z (zA Z Z aQ)<|yE Z (zD Z Z Z co Z Z)<|zH Z<|zb hr fun v1 h_v1 hr=>yE Z (zC Z Z Z (by kernel_rfl) (zp (FR h_v1) (.cons zv (.cons zv (.cons zv .nil)))))<|zb hr fun v2 h_v2 hr=>yE Z (zC Z Z Z (by kernel_rfl) (zp (Mw h_v2) (.cons zv (.cons zv (.cons zv .nil)))))<|LO.nil<|yS Z (zs Z Z Z Z ay Z Z Z Z)<|zN<|zT ?_;refine LW.ret ?_;obtain rfl:=zJ hr;exact zf (.one (.cellAgg Z Z (by kernel_rfl) Z)) zv
theorem Ey (a b:ID):BM a b=some (oq a b):=by
 unfold BM oq;by_cases h1:a.1<b.1
 ·rw[decide_eq_true h1,ct,decide_eq_true (.inl h1)]
 ·rw[decide_eq_false h1,cf];by_cases h2:a.1=b.1
  ·rw[show(a.1==b.1)=true by simp[h2],ct];congr 1;exact decide_eq_decide.2 ⟨fun h=>.inr ⟨h2,h⟩,fun h=>h.elim (fun h=>absurd h h1) (·.2)⟩
  ·rw[show(a.1==b.1)=false by simp[h2],cf,decide_eq_false (fun h=>h.elim h1 fun h=>h2 h.1)]
theorem Ex {l:List Bk}(hl:l.length≤1000){m:List (ID×Int)}(hp:places l=some m)(id:ID):BL l (l.map nm) id=some (aU l id):=by
 unfold BL
 have hk:∀n,(((l.take n).filter fun b=>decide (b.Parent=id)).map nm).length≤n:=fun n=>by
  rw[List.length_map];exact Nat.le_trans (List.length_filter_le _ _) (by rw[List.length_take];omega)
 have e:=aC (step:=nA l (l.map nm) id) (n:=l.length) (fun n=>fe.mk (n:Int) (((l.take n).filter fun b=>decide (b.Parent=id)).map nm)) (fe.mk (l.length:Int) ((l.filter fun b=>decide (b.Parent=id)).map nm)) (fun n hn=>by
  obtain⟨y,hy,-⟩:=ax hn
  have hy2:(l.map nm)[n]?=some (nm y):=by rw[List.getElem?_map,hy];rfl
  have:=hk n;unfold nA;simp only;rw[decide_eq_true (show(n:Int)<(l.length:Int) by omega),ct,aw hy,ob,n7,ah (n:=n) (by omega),p0 hy];by_cases h:y.Parent=id
  ·rw[decide_eq_true h,ct,aw hy2,ob,aM (by simp only[List.length_singleton];omega) (by omega),ct,if_pos h]
  ·rw[decide_eq_false h,cf,if_neg h,List.append_nil]) (by
  unfold nA;simp only
  rw[decide_eq_false (show¬(l.length:Int)<(l.length:Int) by omega),cf,List.take_length]) (by omega)
 have e0:fe.mk ((0:Nat):Int) (((l.take 0).filter fun b=>decide (b.Parent=id)).map nm)=fe.mk 0 []:=by simp
 rw[e0]at e;rw[e,ob];unfold aU;rw[hp]
theorem pA (l:List Bk):(l.map nm).length=l.length:=List.length_map _
theorem sD {l:List Bk}(hl:l.length≤1000){m:List (ID×Int)}(hp:places l=some m)(low:ID):∀(n:Nat) (f:Nat) (id:ID) (i:Int),ak m id=some i→i<n→n<f→
  ∃b,iter (ke l (l.map nm) low) f ⟨i,id⟩=some b∧(b.id=low↔low∈bP l (i+1).toNat id i):=by
 intro n
 have stop:∀(f:Nat) (id:ID) (i:Int),0<f→(i<0∨id=low)→iter (ke l (l.map nm) low) f ⟨i,id⟩=some ⟨i,id⟩:=by
  intro f id i hf h;obtain⟨f,rfl⟩:∃g,f=g+1:=⟨f-1,by omega⟩;refine dS ?_;unfold ke;simp only;by_cases h0:i≥0
  ·have hid:id=low:=h.resolve_left (by omega);rw[decide_eq_true h0,ct,ob,n7,decide_eq_true hid,Bool.not_true,cf]
  ·rw[decide_eq_false h0,cf,ob,cf]
 induction n with
 |zero=>
  intro f id i hi hn hf;refine⟨⟨i,id⟩,stop f id i hf (.inl (by omega)),?_⟩;rcases(aX hp).known _ _ hi with⟨h,-⟩|⟨b,p,h0,-⟩
  ·subst h;rw[rn hp hi];simp only[List.mem_singleton];exact⟨Eq.symm,Eq.symm⟩
  ·omega
 | succ n ih=>
  intro f id i hi hn hf;by_cases hid:id=low
  ·refine⟨⟨i,id⟩,stop f id i (by omega) (.inr hid),?_⟩
   have:am l id=bP l (i+1).toNat id i:=by unfold am;rw[hp];simp only[hi]
   rw[←this]
   have h0:=w4 (l:=l) (id:=id) (by
    rw[this];intro e;have:=pX hp (i+1).toNat id i (by omega) hi
    rw[e]at this;simp at this)
   exact⟨fun _=>hid▸List.mem_of_getElem? h0,fun _=>hid⟩
  ·rcases(aX hp).known _ _ hi with⟨h,h'⟩|⟨b,p,h0,h1,h2,h3,h4,h5,h6,h7⟩
   ·subst h;refine⟨⟨-1,id⟩,stop f id (-1) (by omega) (.inl (by omega)),?_⟩;rw[rn hp hi];simp only[List.mem_singleton];exact⟨Eq.symm,Eq.symm⟩
   ·obtain⟨f,rfl⟩:∃g,f=g+1:=⟨f-1,by omega⟩
    have hix:an (l.map nm) b.Parent=p:=by
     have:=kp hp b.Parent;rw[h4]at this;split at this
     ·rename_i e;cases this;rw[e];exact nl hp
     ·split at this
      ·cases this;rfl
      ·cases this
    have hs:ke l (l.map nm) low ⟨i,id⟩=some (.inl ⟨p,b.Parent⟩):=by
     unfold ke;simp only;rw[decide_eq_true h0,ct,ob,n7,decide_eq_false hid,Bool.not_false,ct,F4 h0 h2,ob,oZ (by rw[pA];omega),ob,hix]
    obtain⟨b',e,hb⟩:=ih f b.Parent p h4 (by omega) (by omega);refine⟨b',by rw[kt hs,e],?_⟩;rw[fr (id:=id) hp (by omega) h0 h2 h4 h5 h6,List.mem_cons];exact⟨fun h=>.inr (hb.1 h),fun h=>h.elim (fun e=>absurd e.symm hid) hb.2⟩
theorem ED {l:List Bk}(hl:l.length≤1000){m:List (ID×Int)}(hp:places l=some m)(low id:ID):BU l (l.map nm) low id=some (fI l low id):=by
 unfold BU fI;have hfn:=kp hp id;rw[oZ (by rw[pA];omega),ob];by_cases h0:id=(0,0)
 ·rw[if_pos h0]at hfn;have hz:=nl hp;obtain⟨b,e,hb⟩:=sD hl hp low 1 bg id (-1) hfn (by omega) (bO (by omega));rw[h0,hz,show decide ((-1:Int)<0)=true from rfl,ct,vA,decide_eq_true rfl,Bool.not_true,cf,ob,sl,←h0,e,ob,n7];congr 1;refine decide_eq_decide.2 ?_;rw[hb];unfold am;rw[hp];simp only[hfn]
 ·rw[if_neg h0]at hfn;by_cases h1:0≤an (l.map nm) id
  ·rw[if_pos h1]at hfn
   have hlt:an (l.map nm) id<l.length:=by have:=rI (l:=l.map nm) (v:=id);rwa [pA]at this
   obtain⟨b,e,hb⟩:=sD hl hp low (l.length+1) bg id _ hfn (by omega) (bO (by omega));rw[decide_eq_false (show¬an (l.map nm) id<0 by omega),cf,ob,sl,e,ob,n7];congr 1;refine decide_eq_decide.2 ?_;rw[hb];unfold am;rw[hp];simp only[hfn]
  ·rw[if_neg h1]at hfn;rw[decide_eq_true (show an (l.map nm) id<0 by omega),ct,vA,decide_eq_false h0,Bool.not_false,ct,ob,sr];congr 1;refine(decide_eq_false ?_).symm;unfold am;rw[hp];simp only[hfn];simp
theorem x4 {c:Cf}{l:List Bk}(hW:c.W.length≤1000)(hl:l.length≤1000){m:List (ID×Int)}(hp:places l=some m){v:List Vt}(hv:v.length≤1000)(id:ID):z6 c l (l.map nm) v id=some (jR c l v id):=by
 unfold z6
 have e:=aC (step:=nB l (l.map nm) v id) (n:=v.length) (fun n=>ff.mk (n:Int) (kP l (v.take n) id)) (ff.mk (v.length:Int) (kP l v id)) (fun n hn=>by
  obtain⟨y,hy,-⟩:=ax hn;have hlen:=od l (v.take n) id;rw[List.length_take]at hlen;unfold nB;simp only;rw[decide_eq_true (show(n:Int)<(v.length:Int) by omega),ct,aw hy,ob,ED hl hp,ob,sX hy,ah (n:=n) (by omega)]
  cases hu:fI l id y.Head with
  |true=>rw[ct,ob,aM (by simp only[List.length_singleton];omega) (by omega),ct,ct]
  |false=>rw[cf,cf,List.append_nil]) (by
  unfold nB;simp only
  rw[decide_eq_false (show¬(v.length:Int)<(v.length:Int) by omega),cf,List.take_length]) (by omega)
 have e0:ff.mk ((0:Nat):Int) (kP l (v.take 0) id)=ff.mk 0 []:=by simp[kP]
 rw[e0]at e;have hlen:=od l v id;rw[e,ob,Cr hW (by simp only;omega),ob];rfl
theorem wX {f:ID→Int}{x k:ID}{y:Int}(h:f k=f k):je ⟨f k,k⟩ ⟨y,x⟩=(decide (f k>y)||(decide (f k=y)&&oq x k)):=by
 unfold je;simp only;by_cases e:f k=y
 ·rw[if_pos e,decide_eq_false (show¬f k>y by omega),decide_eq_true e];rfl
 ·rw[if_neg e,decide_eq_false e];cases decide (f k>y) <;>rfl
def i7 (f:ID→Int)(a:List ID)(n:Nat):Int×ID:=if n=0 then(0,(0,0))else((eP f (a.take n) ⟨-1,(0,0)⟩).n,(eP f (a.take n) ⟨-1,(0,0)⟩).id)
theorem Eh {c:Cf}{l:List Bk}(hW:c.W.length≤1000)(hl:l.length≤1000){m:List (ID×Int)}(hp:places l=some m){v:List Vt}(hv:v.length≤1000)(id:ID) :
  Bv c l (l.map nm) v id=some ((dp c l v id).id,decide ((dp c l v id).n≥0)):=by
 unfold Bv;have hk:=vQ l id;rw[Ex hl hp,ob]
 have e:=aC (step:=nx c l (l.map nm) v (aU l id)) (n:=(aU l id).length) (fun n=>eY.mk (i7 (jR c l v) (aU l id) n).1 (n:Int) (i7 (jR c l v) (aU l id) n).2)
  (eY.mk (i7 (jR c l v) (aU l id) (aU l id).length).1 ((aU l id).length:Int) (i7 (jR c l v) (aU l id) (aU l id).length).2) (fun n hn=>by
  obtain⟨y,hy,-⟩:=ax hn;unfold nx;simp only;rw[decide_eq_true (show(n:Int)<((aU l id).length:Int) by omega),ct,aw hy,ob,x4 hW hl hp hv,ob,ob,Ey,ob,ah (n:=n) (by omega)];have hon:=yT c l v y;by_cases h0:n=0
  ·subst h0;rw[show((((0:Nat):Int))==0)=true from rfl,ct,ob,ct,ob]
   have hk0:(aU l id).take 1=[y]:=by rw[aJ hy];rfl
   have:i7 (jR c l v) (aU l id) (0+1)=(jR c l v y,y):=by
    unfold i7;rw[if_neg (by omega),hk0];unfold eP eP je;simp only;rw[if_neg (by omega),decide_eq_true (show jR c l v y> -1 by omega),ct]
   rw[this]
  ·rw[show(((n:Nat):Int)==0)=false by rw[beq_eq_false_iff_ne];omega,cf]
   have hst:i7 (jR c l v) (aU l id) n=((eP (jR c l v) ((aU l id).take n) ⟨-1,(0,0)⟩).n,(eP (jR c l v) ((aU l id).take n) ⟨-1,(0,0)⟩).id):=by unfold i7;rw[if_neg h0]
   have hst':i7 (jR c l v) (aU l id) (n+1)=((eP (jR c l v) ((aU l id).take (n+1)) ⟨-1,(0,0)⟩).n,(eP (jR c l v) ((aU l id).take (n+1)) ⟨-1,(0,0)⟩).id):=by unfold i7;rw[if_neg (by omega)]
   rw[hst,hst',aJ hy,mW];generalize eP (jR c l v) ((aU l id).take n) ⟨-1,(0,0)⟩=B;obtain⟨bn,bi⟩:=B;rw[wX rfl];simp only;by_cases h1:jR c l v y>bn
   ·rw[decide_eq_true h1,ct,ob,ct,ob,Bool.true_or,ct]
   ·rw[decide_eq_false h1,cf,Bool.false_or];by_cases h2:jR c l v y=bn
    ·rw[show(jR c l v y==bn)=true by simp[h2],ct,ob,decide_eq_true h2,Bool.true_and]
     cases oq bi y with
     |true=>rw[ct,ob,ct]
     |false=>rw[cf,cf]
    ·rw[show(jR c l v y==bn)=false by simp[h2],cf,ob,decide_eq_false h2,Bool.false_and,cf,cf]) (by
  unfold nx;simp only
  rw[decide_eq_false (show¬((aU l id).length:Int)<((aU l id).length:Int) by omega),cf]) (by omega)
 have e0:eY.mk (i7 (jR c l v) (aU l id) 0).1 ((0:Nat):Int) (i7 (jR c l v) (aU l id) 0).2=eY.mk 0 0 (0,0):=rfl;rw[e0]at e;rw[e,ob];simp only;rcases ll c l v id with⟨h1,h2⟩|⟨k,h1,h2⟩
 ·rw[h2,h1];rfl
 ·have hne:(aU l id).length≠0:=by
   intro h;rw[List.length_eq_zero_iff]at h;rw[h]at h1;simp at h1
  have hst:i7 (jR c l v) (aU l id) (aU l id).length=((dp c l v id).n,(dp c l v id).id):=by
   unfold i7;rw[if_neg hne,List.take_length];rfl
  rw[hst,decide_eq_true (show((aU l id).length:Int)>0 by omega),decide_eq_true (show(dp c l v id).n≥0 by rw[h2];exact yT c l v k)]
theorem Al {c:Cf}{l:List Bk}{v:List Vt}{id:ID}(hp:places l=none):dp c l v id=⟨-1,(0,0)⟩:=by
 have hk:aU l id=[]:=by unfold aU;rw[hp]
 unfold dp;rw[hk];rfl
theorem GB {c:Cf}{l:List Bk}(hb:gX l)(hW:c.W.length≤1000)(hl:l.length≤1000){v:List Vt}(hv:v.length≤1000):Im c l v=some (fP c l v):=by
 unfold Im;rw[tA hb hl,ob];unfold uu;rw[wN hl,ob,ob]
 cases hp:places l with
 | none=>
  have hs:ld c l v (l.map nm) (none:Option (List (ID×Int))).isSome ⟨0,(0,0)⟩=some (.inr ⟨0,(0,0)⟩):=by
   unfold ld;simp only;rw[decide_eq_true (show(0:Int)≤(l.length:Int) by omega),ct,Option.isSome_none,ob,cf]
  rw[GM,dS hs,ob];unfold fP mA;rw[Al hp,if_neg (by simp)]
 | some m=>
  have key:∀(n f:Nat) (i:Int) (id:ID),i+n=(l.length:Int)+1→0≤i→n<f→∃b,iter (ld c l v (l.map nm) (some m).isSome) f ⟨i,id⟩=some b∧b.id=mA c l v n id:=by
   intro n
   induction n with
   |zero=>
    intro f i id hi h0 hf;obtain⟨f,rfl⟩:∃g,f=g+1:=⟨f-1,by omega⟩;refine⟨⟨i,id⟩,dS ?_,rfl⟩;unfold ld;simp only;rw[decide_eq_false (show¬i≤(l.length:Int) by omega),cf,ob,cf]
   | succ n ih=>
    intro f i id hi h0 hf;obtain⟨f,rfl⟩:∃g,f=g+1:=⟨f-1,by omega⟩
    have hs:ld c l v (l.map nm) (some m).isSome ⟨i,id⟩=if (dp c l v id).n≥0 then some (.inl ⟨i+1,(dp c l v id).id⟩)else some (.inr ⟨i,id⟩):=by
     unfold ld;simp only;rw[decide_eq_true (show i≤(l.length:Int) by omega),ct,Option.isSome_some,ob,ct,Eh hW hl hp hv,ob];by_cases h:(dp c l v id).n≥0
     ·rw[decide_eq_true h,Bool.not_true,cf,if_pos h,cJ (by omega) (by omega)]
     ·rw[decide_eq_false h,Bool.not_false,ct,if_neg h]
    unfold mA;by_cases h:(dp c l v id).n≥0
    ·rw[if_pos h]at hs⊢;rw[kt hs];exact ih f (i+1) _ (by omega) (by omega) (by omega)
    ·rw[if_neg h]at hs⊢;exact⟨_,dS hs,rfl⟩
  obtain⟨b,e,hb⟩:=key (l.length+1) bg 0 (0,0) (by omega) (by omega) (bO (by omega));rw[e,ob,hb];rfl
theorem GO {a b:Int}(h:¬a=b):(a==b)=false:=beq_eq_false_iff_ne.2 h
abbrev Up (l:List Int):Prop:=l.Pairwise fun a b=>a<b
theorem Cm {l:List Int}{n:Int}(hl:l.length≤100000)(hs:Up l):∃r,vb l n=some r∧Up r∧(∀x,x∈r↔x∈l∨x=n)∧r.length≤l.length+1:=by
  obtain⟨b,hb,a,rfl,ha,hgt,hle⟩:=bf (step:=nP l n) (fun x=>∃a:Nat,x.v_at=a∧a≤l.length∧∀j y,a≤j→l[j]?=some y→n<y) (fun x=>x.v_at.toNat) (fun b=>∃a:Nat,b=⟨(a:Int)⟩∧a≤l.length∧(∀j y,a≤j→l[j]?=some y→n<y)∧∀y,0<a→l[a-1]?=some y→y≤n) (by
    rintro⟨t⟩ ⟨a,ht,h1,h2⟩;simp only at ht;subst ht;unfold nP;simp only;by_cases h0:0<a
    · obtain⟨y,hy,-⟩:=ax (l:=l) (n:=a-1) (by omega);rw[decide_eq_true (show(a:Int)>0 by omega),ct,cJ (n:=(a:Int)-1) (by omega) (by omega),show(a:Int)-1=((a-1:Nat):Int) by omega,aw hy,ob];by_cases hy2:y>n
      · rw[decide_eq_true hy2,ct];refine .inl ⟨_,rfl,⟨a-1,rfl,by omega,fun j z hj hz=>?_⟩,by simp only;omega⟩;by_cases e:j=a-1
        · subst e;rw[hy]at hz;rw[←Option.some.inj hz];exact hy2
        · exact h2 j z (by omega) hz
      · rw[decide_eq_false hy2,cf];refine .inr ⟨_,rfl,a,rfl,h1,h2,fun z _ hz=>?_⟩;rw[hy]at hz;rw[←Option.some.inj hz];omega
    · rw[decide_eq_false (show¬(a:Int)>0 by omega),cf]
      exact .inr ⟨_,rfl,a,rfl,h1,h2,fun z hz=>absurd hz h0⟩) (n:=bg) (x:=⟨(l.length:Int)⟩) ⟨l.length,rfl,Nat.le_refl _,fun j y hj hy=>by have:=(List.getElem?_eq_some_iff.1 hy).1;omega⟩ (bO (by simp only;omega))
  have key:(∃y,0<a∧l[a-1]?=some y∧y=n)∨∀y,0<a→l[a-1]?=some y→y<n:=by
    by_cases h0:0<a
    · obtain⟨y,hy,-⟩:=ax (l:=l) (n:=a-1) (by omega);by_cases e:y=n
      · exact .inl ⟨y,h0,hy,e⟩
      · refine .inr fun z hz0 hz=>?_;have h3:=hle z hz0 hz;rw[hy]at hz;have:=Option.some.inj hz;omega
    · exact .inr fun z hz=>absurd hz h0
  unfold vb;rw[hb,ob];rcases key with⟨y,h0,hy,rfl⟩|hlt
  · refine⟨l,?_,hs,fun x=>⟨.inl,fun h=>h.elim id fun e=>e▸List.mem_of_getElem? hy⟩,by omega⟩;rw[decide_eq_true (show(a:Int)>0 by omega),ct,cJ (n:=(a:Int)-1) (by omega) (by omega),show(a:Int)-1=((a-1:Nat):Int) by omega,aw hy,ob,beq_self_eq_true,ct,ob];rfl
  · refine⟨(l.take a++[n])++l.drop a,?_,?_,fun x=>?_,?_⟩
    · have hg:((bif decide ((a:Int)>0)then(ix l (IntKind.i64.wrap ((a:Int)-1))).bind fun y2=>bif y2==n then some (.inr l)else some (.inl ())else some (.inl ())):Option (Unit⊕List Int))=some (.inl ()):=by
        by_cases h0:0<a
        · obtain⟨y,hy,-⟩:=ax (l:=l) (n:=a-1) (by omega);have:=hlt y h0 hy;rw[decide_eq_true (show(a:Int)>0 by omega),ct,cJ (n:=(a:Int)-1) (by omega) (by omega),show(a:Int)-1=((a-1:Nat):Int) by omega,aw hy,ob,show(y==n)=false from beq_eq_false_iff_ne.2 (by omega),cf]
        · rw[decide_eq_false (show¬(a:Int)>0 by omega),cf]
      rw[hg,ob];show(bif yJ l 0 (a:Int)then _ else none)=_
      have ht:(l.take a).length=a:=by rw[List.length_take];omega
      have hd:(l.drop a).length=l.length-a:=List.length_drop;rw[show yJ l 0 (a:Int)=true from decide_eq_true (by omega),ct,Int.toNat_natCast,aM (by omega) (by omega),ct,aM (by simp only[List.length_singleton];omega) (by omega),ct,show yJ l (a:Int) l.length=true from decide_eq_true (by omega),ct,aM (by simp only[List.length_append,List.length_singleton];omega) (by omega),ct]
    · have hall:=List.pairwise_iff_getElem.1 hs;refine List.pairwise_append.2 ⟨List.pairwise_append.2 ⟨hs.sublist (List.take_sublist _ _),by simp,fun x hx y hy=>?_⟩,hs.sublist (List.drop_sublist _ _),fun x hx y hy=>?_⟩
      · rw[List.mem_singleton.1 hy];obtain⟨j,hj⟩:=List.getElem?_of_mem hx;have hjl:=(List.getElem?_eq_some_iff.1 hj).1;rw[List.length_take]at hjl;rw[List.getElem?_take_of_lt (by omega)]at hj;obtain⟨z,hz,-⟩:=ax (l:=l) (n:=a-1) (by omega);have h3:=hlt z (by omega) hz;by_cases e:j=a-1
        · subst e;rw[hz]at hj;rw[←Option.some.inj hj];exact h3
        · have h4:=hall j (a-1) (by omega) (by omega) (by omega);rw[(List.getElem?_eq_some_iff.1 hj).2,(List.getElem?_eq_some_iff.1 hz).2]at h4;omega
      · obtain⟨j,hj⟩:=List.getElem?_of_mem hy;rw[List.getElem?_drop]at hj;have h5:=hgt _ y (by omega) hj;rcases List.mem_append.1 hx with hx|hx
        · obtain⟨i,hi⟩:=List.getElem?_of_mem hx;have hil:=(List.getElem?_eq_some_iff.1 hi).1;rw[List.length_take]at hil;rw[List.getElem?_take_of_lt (by omega)]at hi;have hjl:=(List.getElem?_eq_some_iff.1 hj).1;have h4:=hall i (a+j) (by omega) hjl (by omega);rw[(List.getElem?_eq_some_iff.1 hi).2,(List.getElem?_eq_some_iff.1 hj).2]at h4;exact h4
        · rw[List.mem_singleton.1 hx];exact h5
    · rw[List.mem_append,List.mem_append,List.mem_singleton]
      conv=>rhs;rw[←List.take_append_drop a l,List.mem_append]
      constructor
      · rintro((h|h)|h)
        · exact .inl<|.inl h
        · exact .inr h
        · exact .inl<|.inr h
      · rintro((h|h)|h)
        · exact .inl<|.inl h
        · exact .inr h
        · exact .inl<|.inr h
    · simp only[List.length_append,List.length_singleton,List.length_take,List.length_drop];omega
theorem Cj {l:List Vt}(hl:l.length≤90000):∃r,u7 l=some r∧Up r∧(∀x,x∈r↔∃v∈l,v.From=x)∧r.length≤l.length:=by
 obtain⟨b,hb,h1,h2,h3⟩:=bf (step:=nM l) (fun x=>∃j:Nat,x.i=j∧j≤l.length∧Up x.out∧(∀y,y∈x.out↔∃v∈l.take j,v.From=y)∧x.out.length≤j) (fun x=>l.length-x.i.toNat) (fun b=>Up b.out∧(∀y,y∈b.out↔∃v∈l,v.From=y)∧b.out.length≤l.length) (by
  rintro⟨out,i⟩ ⟨j,hi,h1,h2,h3,h4⟩;simp only at hi h2 h3 h4;subst hi;unfold nM;simp only;by_cases hlt:j<l.length
  ·obtain⟨y,hy,-⟩:=ax hlt;obtain⟨r,hr,r1,r2,r3⟩:=Cm (l:=out) (n:=y.From) (by omega) h2;rw[decide_eq_true (show(j:Int)<(l.length:Int) by omega),ct,aw hy,ob,hr,ob,ah (n:=j) (by omega)];refine .inl ⟨_,rfl,⟨j+1,rfl,by omega,r1,fun x=>?_,by show r.length≤_;omega⟩,by simp only;omega⟩;show x∈r↔_;rw[r2,h3,aJ hy];constructor
   ·rintro(⟨v,h5,h6⟩|e)
    ·exact⟨v,List.mem_append_left _ h5,h6⟩
    ·exact⟨y,List.mem_append_right _ (List.mem_singleton.2 Z),e.symm⟩
   ·rintro⟨v,h5,h6⟩;rcases List.mem_append.1 h5 with h5|h5
    ·exact .inl ⟨v,h5,h6⟩
    ·rw[List.mem_singleton.1 h5]at h6;exact .inr h6.symm
  ·rw[decide_eq_false (show¬(j:Int)<(l.length:Int) by omega),cf];refine .inr ⟨_,rfl,h2,fun x=>?_,by show out.length≤_;omega⟩;show x∈out↔_
   rw[h3,List.take_of_length_le (by omega)]) (n:=bg) (x:=⟨[],0⟩) ⟨0,rfl,by omega,List.Pairwise.nil,fun y=>by simp,by simp⟩ (bO (by simp only;omega))
 unfold u7;rw[hb,ob];exact⟨_,rfl,h1,h2,h3⟩
def Dv (slot who:Int)(y z:Vt):Prop:=y.From=who∧z.From=who∧y.Slot=slot∧z.Slot=slot∧y.Head≠z.Head
def H5 (l:List Vt)(slot who:Int):Prop:=∃y∈l,∃z∈l,Dv slot who y z
theorem E3 {slot who:Int}{y z:Vt}{A:Type}(s t:A):(bif y.From==who then bif z.From==who then bif y.Slot==slot then bif z.Slot==slot then bif !((y.Head.1==z.Head.1)&&((y.Head.2==z.Head.2)&&true))then s else t else t else t else t else t)=t∧¬Dv slot who y z∨(bif y.From==who then bif z.From==who then bif y.Slot==slot then bif z.Slot==slot then bif !((y.Head.1==z.Head.1)&&((y.Head.2==z.Head.2)&&true))then s else t else t else t else t else t)=s∧Dv slot who y z:=by
 rw[n7];unfold Dv;by_cases h1:y.From=who
 ·by_cases h2:z.From=who
  ·by_cases h3:y.Slot=slot
   ·by_cases h4:z.Slot=slot
    ·by_cases h5:y.Head=z.Head
     ·left;simp[h1,h2,h3,h4,h5]
     ·right;simp[h1,h2,h3,h4,h5]
    ·left;rw[GO h4];simp[h1,h2,h3,h4]
   ·left;rw[GO h3];simp[h1,h2,h3]
  ·left;rw[GO h2];simp[h1,h2]
 ·left;rw[GO h1];simp[h1]
theorem Ar {l:List Vt}(hl:l.length≤90000){slot who:Int}{i:Nat}{y:Vt}(hy:l[i]?=some y) :
  (iter (jA l slot who ⟨(i:Int)⟩) bg ⟨0⟩=some (.inr (.inr (.inr true)))∧∃z∈l,Dv slot who y z)∨(∃x,iter (jA l slot who ⟨(i:Int)⟩) bg ⟨0⟩=some (.inl x))∧∀k z,k<i→l[k]?=some z→¬Dv slot who y z:=by
 have hil:=(List.getElem?_eq_some_iff.1 hy).1
 obtain⟨b,hb,h⟩:=bf (step:=jA l slot who ⟨(i:Int)⟩) (fun x=>∃k:Nat,x.k=k∧k≤i∧∀q z,q<k→l[q]?=some z→¬Dv slot who y z) (fun x=>i-x.k.toNat) (fun b=>(b=.inr (.inr (.inr true))∧∃z∈l,Dv slot who y z)∨(∃x,b=.inl x)∧∀k z,k<i→l[k]?=some z→¬Dv slot who y z) (by
  rintro⟨t⟩ ⟨k,ht,h1,h2⟩;simp only at ht;subst ht;unfold jA;simp only;by_cases hlt:k<i
  ·obtain⟨z,hz,hzm⟩:=ax (l:=l) (n:=k) (by omega);rw[decide_eq_true (show(k:Int)<(i:Int) by omega),ct,aw hy,aw hz];simp only[Option.bind_some];rcases E3 (slot:=slot) (who:=who) (y:=y) (z:=z) (some (.inr (.inr (.inr (.inr true)))):Option (dm⊕(dm⊕(dN⊕(dN⊕Bool))))) (some (.inl ⟨IntKind.i64.wrap ((k:Int)+1)⟩))with⟨e,h3⟩|⟨e,h3⟩
   ·rw[e,ah (n:=k) (by omega)];refine .inl ⟨_,rfl,⟨k+1,rfl,by omega,fun q w hq hw=>?_⟩,by simp only;omega⟩;by_cases e2:q=k
    ·subst e2;rw[hz]at hw;rw[←Option.some.inj hw];exact h3
    ·exact h2 q w (by omega) hw
   ·rw[e];exact .inr ⟨_,rfl,.inl ⟨rfl,z,hzm,h3⟩⟩
  ·rw[decide_eq_false (show¬(k:Int)<(i:Int) by omega),cf]
   exact .inr ⟨_,rfl,.inr ⟨⟨_,rfl⟩,fun q z hq=>h2 q z (by omega)⟩⟩) (n:=bg) (x:=⟨0⟩) ⟨0,rfl,by omega,fun q z hq=>by omega⟩ (bO (by simp only;omega))
 rcases h with⟨rfl,h⟩|⟨⟨x,rfl⟩,h⟩
 ·exact .inl ⟨hb,h⟩
 ·exact .inr ⟨⟨x,hb⟩,h⟩
open Classical in
theorem Ck {l:List Vt}(hl:l.length≤90000)(slot who:Int):u8 l slot who=some (decide (H5 l slot who)):=by
 obtain⟨b,hb,h⟩:=bf (step:=nN l slot who) (fun x=>∃i:Nat,x.i=i∧i≤l.length∧∀q y,q<i→l[q]?=some y→∀k z,k<q→l[k]?=some z→¬Dv slot who y z) (fun x=>l.length-x.i.toNat) (fun b=>(b=.inr true∧H5 l slot who)∨(∃x,b=.inl x)∧¬H5 l slot who) (by
  rintro⟨t⟩ ⟨i,ht,h1,h2⟩;simp only at ht;subst ht;unfold nN;simp only;by_cases hlt:i<l.length
  ·obtain⟨y,hy,hym⟩:=ax hlt;rw[decide_eq_true (show(i:Int)<(l.length:Int) by omega),ct];rcases Ar hl (slot:=slot) (who:=who) hy with⟨e,z,hz,h3⟩|⟨⟨x,e⟩,h3⟩
   ·rw[e,ob];exact .inr ⟨_,rfl,.inl ⟨rfl,y,hym,z,hz,h3⟩⟩
   ·rw[e,ob];refine .inl ⟨⟨((i+1:Nat):Int)⟩,?_,⟨i+1,rfl,by omega,fun q w hq hw=>?_⟩,by simp only;omega⟩
    ·rw[ah (n:=i) (by omega)];rfl
    ·by_cases e2:q=i
     ·subst e2;rw[hy]at hw;rw[←Option.some.inj hw];exact h3
     ·exact h2 q w (by omega) hw
  ·rw[decide_eq_false (show¬(i:Int)<(l.length:Int) by omega),cf];refine .inr ⟨_,rfl,.inr ⟨⟨_,rfl⟩,?_⟩⟩;rintro⟨y,hy,z,hz,h3⟩;obtain⟨q,hq⟩:=List.getElem?_of_mem hy;obtain⟨k,hk⟩:=List.getElem?_of_mem hz;have hql:=(List.getElem?_eq_some_iff.1 hq).1;have hkl:=(List.getElem?_eq_some_iff.1 hk).1;obtain⟨a1,a2,a3,a4,a5⟩:=h3;by_cases e:k=q
   ·subst e;rw[hq]at hk;exact a5 (by rw[Option.some.inj hk])
   ·by_cases e2:k<q
    ·exact h2 q y (by omega) hq k z e2 hk ⟨a1,a2,a3,a4,a5⟩
    ·exact h2 k z (by omega) hk q y (by omega) hq ⟨a2,a1,a4,a3,fun e3=>a5 e3.symm⟩) (n:=bg) (x:=⟨0⟩) ⟨0,rfl,by omega,fun q y hq=>by omega⟩ (bO (by simp only;omega))
 unfold u8;rw[hb,ob];rcases h with⟨rfl,h⟩|⟨⟨x,rfl⟩,h⟩
 ·rw[decide_eq_true h];rfl
 ·rw[decide_eq_false h];rfl
theorem yq {α:Type}{p:α→Bool}{l:List α}{k:Nat}{y:α}(hy:l[k]?=some y)(hp:p y=true)(h:∀j z,j<k→l[j]?=some z→p z=false):l.find? p=some y:=by
 rw[List.find?_eq_some_iff_append];refine⟨hp,l.take k,l.drop (k+1),?_,fun a ha=>?_⟩
 ·have hk:=(List.getElem?_eq_some_iff.1 hy).1;have h2:=List.drop_eq_getElem_cons hk;rw[(List.getElem?_eq_some_iff.1 hy).2]at h2;rw[←h2,List.take_append_drop]
 ·obtain⟨j,hj⟩:=List.getElem?_of_mem ha;have hjl:=(List.getElem?_eq_some_iff.1 hj).1;rw[List.length_take]at hjl;rw[List.getElem?_take_of_lt (by omega)]at hj;rw[h j a (by omega) hj];rfl
def qe (slot w:Int)(v:Vt):Bool:=decide (v.From=w∧v.Slot=slot)
theorem DA {l:List Vt}(hl:l.length≤90000){slot:Int}{r:List Int}{i:Nat}{w:Int}(hw:r[i]?=some w){out:List Vt}(ho:out.length≤100000)(o0:List Vt) :
  ∃x:fC,iter (k9 l slot r ⟨(i:Int),o0⟩) bg ⟨0,out⟩=some x∧x.out=out++(l.find? (qe slot w)).toList:=by
 obtain⟨b,hb,h⟩:=bf (step:=k9 l slot r ⟨(i:Int),o0⟩) (fun x=>∃k:Nat,x.k=k∧k≤l.length∧x.out=out∧∀j z,j<k→l[j]?=some z→qe slot w z=false) (fun x=>l.length-x.k.toNat) (fun b=>b.out=out++(l.find? (qe slot w)).toList) (by
  rintro⟨t,o⟩ ⟨k,ht,h1,h2,h3⟩;simp only at ht h2;subst ht h2;unfold k9;simp only;by_cases hlt:k<l.length
  ·obtain⟨y,hy,-⟩:=ax hlt
   have hg:(bif y.From==w then some (y.Slot==slot)else some false)=some (qe slot w y):=by
    unfold qe;by_cases h4:y.From=w
    ·by_cases h5:y.Slot=slot
     ·simp[h4,h5]
     ·rw[GO h5];simp[h4,h5]
    ·rw[GO h4];simp[h4]
   rw[decide_eq_true (show(k:Int)<(l.length:Int) by omega),ct,aw hy,aw hw];simp only[Option.bind_some];rw[hg,ob]
   cases hp:qe slot w y with
   |true=>
    rw[ct,aM (by simp only[List.length_singleton];omega) (by omega),ct,yq hy hp h3];exact .inr ⟨_,rfl,rfl⟩
   |false=>
    rw[cf,ah (n:=k) (by omega)];refine .inl ⟨_,rfl,⟨k+1,rfl,by omega,rfl,fun j z hj hz=>?_⟩,by simp only;omega⟩;by_cases e:j=k
    ·subst e;rw[hy]at hz;rw[←Option.some.inj hz];exact hp
    ·exact h3 j z (by omega) hz
  ·rw[decide_eq_false (show¬(k:Int)<(l.length:Int) by omega),cf];refine .inr ⟨_,rfl,?_⟩
   have:l.find? (qe slot w)=none:=by
    rw[List.find?_eq_none];intro z hz;obtain⟨j,hj⟩:=List.getElem?_of_mem hz;rw[h3 j z (by have:=(List.getElem?_eq_some_iff.1 hj).1;omega) hj];simp
   rw[this]
   simp) (n:=bg) (x:=⟨0,out⟩) ⟨0,rfl,by omega,rfl,fun j z hj=>by omega⟩ (bO (by simp only;omega))
 exact⟨b,hb,h⟩
theorem AJ (l:List Vt)(slot:Int):(rQ l slot).Nodup:=by
 unfold rQ;rw[(cv _).nodup_iff];have hk:=(mi l).1;unfold List.Nodup at hk⊢;rw[List.pairwise_map]at hk;rw[List.pairwise_filterMap];refine hk.imp fun {a b} hab x hx y hy e=>hab ?_;subst e;unfold fR at hx hy;split at hx
 ·rename_i h1;split at hy
  ·rename_i h2;have e1:=Option.some.inj hx;have e2:=Option.some.inj hy
   have h3:a.1.frm=b.1.frm:=by rw[←e2]at e1;exact congrArg Vt.From e1
   have h4:a.1.slot=b.1.slot:=h1.1.trans h2.1.symm;cases ha:a.1;cases hb:b.1;rw[ha,hb]at h3 h4;simp only at h3 h4;rw[h3,h4]
  ·cases hy
 ·cases hx
open Classical in
theorem Cg {l:List Vt}(hl:l.length≤30000)(slot:Int):u4 l slot=some (rQ l slot):=by
 obtain⟨r,hr,r1,r2,r3⟩:=Cj (l:=l) (by omega);obtain⟨val,hval⟩:∃val:Int→Option Vt,val=fun w=>if H5 l slot w then none else l.find? (qe slot w):=⟨_,rfl⟩
 have hv:∀w x,val w=some x↔x∈rQ l slot∧x.From=w:=by
  intro w x;rw[hval,Dz];simp only;constructor
  ·intro h;split at h
   ·cases h
   ·rename_i hd;have h1:=List.find?_some h;have h2:=List.mem_of_find?_eq_some h;obtain⟨h3,h4⟩:=of_decide_eq_true h1;refine⟨⟨h2,h4,fun y hy e=>?_⟩,h3⟩;by_cases h5:y.Head=x.Head
    ·exact h5
    ·have e1:y.From=x.From:=congrArg Du.frm e;have e2:y.Slot=x.Slot:=congrArg Du.slot e;exact absurd ⟨y,hy,x,h2,by rw[e1,h3],h3,by rw[e2,h4],h4,h5⟩ hd
  ·rintro⟨⟨h1,h2,h3⟩,h4⟩
   have hsame:∀y∈l,qe slot w y=true→y=x:=by
    intro y hy hp;obtain⟨h5,h6⟩:=of_decide_eq_true hp
    have hd:n3 y=n3 x:=by unfold n3;rw[h5,h6,h4,h2]
    exact DU hd<|h3 y hy hd
   rw[if_neg]
   ·cases hf:l.find? (qe slot w)with
    |none=>
     rw[List.find?_eq_none]at hf;exact absurd (decide_eq_true ⟨h4,h2⟩)<|hf x h1
    |some y=>rw[hsame y (List.mem_of_find?_eq_some hf) (List.find?_some hf)]
   ·rintro⟨y,hy,z,hz,a1,a2,a3,a4,a5⟩;exact a5 (by rw[hsame y hy (decide_eq_true ⟨a1,a3⟩),hsame z hz (decide_eq_true ⟨a2,a4⟩)])
 have hlen:∀j,((r.take j).filterMap val).length≤j:=fun j=>Nat.le_trans (List.length_filterMap_le _ _) (by rw[List.length_take];omega)
 have e:=aC (step:=jz l slot r) (n:=r.length) (fun j=>dL.mk (j:Int) ((r.take j).filterMap val)) (dL.mk (r.length:Int) (r.filterMap val)) (fun j hj=>by
  obtain⟨w,hw,-⟩:=ax hj;have hj2:=hlen j;unfold jz;simp only;rw[decide_eq_true (show(j:Int)<(r.length:Int) by omega),ct,aw hw,ob,Ck (by omega),ob,aJ hw,List.filterMap_append,ah (n:=j) (by omega)];by_cases hd:H5 l slot w
  ·rw[decide_eq_true hd,ct,show[w].filterMap val=[] by rw[hval];simp[hd],List.append_nil]
  ·obtain⟨x,hx,hx2⟩:=DA (l:=l) (by omega) (slot:=slot) hw (out:=(r.take j).filterMap val) (by omega) ((r.take j).filterMap val)
   rw[decide_eq_false hd,cf,hx,ob,hx2,show[w].filterMap val=(l.find? (qe slot w)).toList by rw[hval];simp only[List.filterMap_cons,if_neg hd,List.filterMap_nil];cases l.find? (qe slot w) <;>rfl]) (by
  unfold jz;simp only
  rw[decide_eq_false (show¬(r.length:Int)<(r.length:Int) by omega),cf,List.take_length]) (by omega)
 have e':iter (jz l slot r) bg (dL.mk 0 [])=_:=e;unfold u4;rw[hr,ob,e',ob]
 have hone:∀x∈r.filterMap val,∀y∈r.filterMap val,x.From=y.From→x=y:=by
  intro x hx y hy e;obtain⟨a,-,ha⟩:=List.mem_filterMap.1 hx;obtain⟨b,-,hb⟩:=List.mem_filterMap.1 hy;have h1:=((hv a x).1 ha).2;have h2:=((hv b y).1 hb).2;rw[←h1,e,h2,hb]at ha;exact(Option.some.inj ha).symm
 have hup:(r.filterMap val).Pairwise fun x y=>x.From<y.From:=by
  rw[List.pairwise_filterMap]
  exact r1.imp fun {a b} hab x hx y hy=>by rw[((hv a x).1 hx).2,((hv b y).1 hy).2];exact hab
 have hnd:(r.filterMap val).Nodup:=hup.imp fun {a b} h e=>by rw[e]at h;omega
 have hperm:(r.filterMap val).Perm (rQ l slot):=by
  rw[List.perm_ext_iff_of_nodup hnd (AJ l slot)];intro x;rw[List.mem_filterMap];constructor
  ·rintro⟨w,-,hw⟩;exact((hv w x).1 hw).1
  ·intro hx;exact⟨x.From,(r2 _).2 ⟨x,(Dz.1 hx).1,rfl⟩,(hv _ x).2 ⟨hx,rfl⟩⟩
 have:=oH hperm (hup.imp fun {a b} h=>by show a.From≤b.From;omega) (iH _) hone;exact congrArg some this
theorem uX {c:Cf}(hW:c.W.length≤1000){v:List Vt}(hv:v.length≤30000)(slot:Int):sK c v slot=some (de c v slot):=by
 have ho:=xm v slot;have hc:=pj c slot
 have e:=aC (step:=jy (rQ v slot) (nq c slot)) (n:=(rQ v slot).length) (fun k=>d8.mk (k:Int) (((rQ v slot).take k).filter (s8 (nq c slot)))) (d8.mk ((rQ v slot).length:Int) (de c v slot)) (fun k hk=>by
  obtain⟨y,hy,-⟩:=ax hk;have hlen:=c8 (p:=s8 (nq c slot)) (l:=rQ v slot) k;unfold jy;simp only;rw[decide_eq_true (show(k:Int)<((rQ v slot).length:Int) by omega),ct,aw hy,ob,wM (by omega),ob,ck hy,ah (n:=k) (by omega)];show(bif s8 (nq c slot) y then _ else _)=_
  cases s8 (nq c slot) y with
  |true=>rw[ct,ob,aM (by simp only[List.length_singleton];omega) (by omega),ct,ct]
  |false=>rw[cf,cf,List.append_nil]) (by
  unfold jy;simp only
  rw[decide_eq_false (show¬((rQ v slot).length:Int)<((rQ v slot).length:Int) by omega),cf,List.take_length];rfl) (by omega)
 have e':iter (jy (rQ v slot) (nq c slot)) bg (d8.mk 0 [])=_:=e;unfold sK;rw[Cg hv,ob,wK hW,ob,e',ob]
theorem k7 {c:Cf}(hW:c.W.length≤1000){w:Vw}(hb:gX w.B)(h1:w.B.length≤1000)(h2:w.V.length≤1000)(slot:Int):nF c w slot=some (fP c w.B (de c w.V slot)):=by
 have hg:=ol c w.V slot;unfold nF;rw[uX hW (by omega),ob,GB hb hW h1 (by omega),ob]
open Go.Proofs
structure cA where
 any:Bool
 i:Int
 o5:List Bk
 o7:List ID
 x_5:Bool
 left:List Bk
def fU (upto:Int)(lB:List Bk)(x1:cA):Option (cA⊕cA):=bif decide (x1.i<(lB.length:Int))then (ix lB x1.i).bind fun y1=>(Fy y1).bind fun v2=>(qP x1.o5 x1.o7 y1.Parent).bind fun v3=>((sL x1.o7 v2).bind fun v5=>bif decide (v5≥0)then some true else some (decide (v3≥y1.Slot))).bind fun v4=>bif v4 then some (.inl (cA.mk x1.any (IntKind.i64.wrap (x1.i+1)) x1.o5 x1.o7 x1.x_5 x1.left))else (bif decide (v3<0)then some true else some (decide (y1.Slot>upto))).bind fun v6=>bif v6 then bif cy x1.left.length [y1].length 40 then some (.inl (cA.mk x1.any (IntKind.i64.wrap (x1.i+1)) x1.o5 x1.o7 x1.x_5 (x1.left++[y1])))else none else bif decide ((x1.o5.length:Int)≥60)then bif cy x1.left.length [y1].length 40 then some (.inl (cA.mk x1.any (IntKind.i64.wrap (x1.i+1)) x1.o5 x1.o7 true (x1.left++[y1])))else none else bif cy x1.o5.length [y1].length 40 then bif cy x1.o7.length [v2].length 16 then some (.inl (cA.mk true (IntKind.i64.wrap (x1.i+1)) (x1.o5++[y1]) (x1.o7++[v2]) x1.x_5 x1.left))else none else none else some (.inr (cA.mk x1.any x1.i x1.o5 x1.o7 x1.x_5 x1.left))
def nQ (upto:Int)(wB:List Bk)(lB:List Bk)(nms:List ID)(full:Bool):Option (Bool×List Bk×List Bk×List ID×Bool):=(iter (fU upto lB) bg (cA.mk false 0 wB nms full ([]:List Bk))).bind fun v1=>some (v1.any,v1.left,v1.o5,v1.o7,v1.x_5)
theorem CY {upto:Int}{wB:List Bk}{wV:List Vt}{lB:List Bk}{lV:List Vt}{nms:List ID}{full:Bool}{inp:Vw}{r_:Bool×List Bk×List Bk×List ID×Bool}(hr:nQ upto wB lB nms full=some r_):LC Tryz.prog 170 [.ptr 8 0,(iQ upto)] [.dead,.dead,.box (cG inp),.box [.zs,.zs],.box [.zs,.zs],.vec 5 (wB.map av),.vec 4 (wV.map aK),.vec 2 (nms.map aR),.box [(jB 5 wB),(jV 6 wV),(kB lB),(kV lV),.vec 2 7 (nms.map aR).length 0 (nms.map aR).length,(bQ full)]] (Is (bQ r_.1) [.dead,.dead,.box (cG inp),.box [.zs,.zs],.box [.zs,.zs],.vec 5 (r_.2.2.1.map av),.vec 4 (wV.map aK),.vec 2 (r_.2.2.2.1.map aR),.box [(jB 5 r_.2.2.1),(jV 6 wV),(kB r_.2.1),(kV lV),.vec 2 7 (r_.2.2.2.1.map aR).length 0 (r_.2.2.2.1.map aR).length,(bQ r_.2.2.2.2)]]):=by
 refine fy Tryz.func170 Z Z Z ?_;unfold nQ at hr;refine zQ<|zR<|zM Z<|zN<|zT<|zQ<|zR<|zM Z<|zN<|zT<|zQ<|zR<|zM Z<|zN<|zT<|zQ<|zQ<|zR<|zM Z<|zN<|zT<|LW.ent (cz.lazy (t:=5) (m:=5) Z Z Z) ?_;obtain⟨v1,hb_v1,ho_v1⟩:=zB hr;clear hr;refine LW.tail (E:=[(0,.ptr 8 0),(4,(bQ false)),(5,(jB 9 v1.left)),(6,(bQ v1.any))]) (O:=[.dead,.dead,.box (cG inp),.box [.zs,.zs],.box [.zs,.zs],.vec 5 (v1.o5.map av),.vec 4 (wV.map aK),.vec 2 (v1.o7.map aR),.box [(jB 5 v1.o5),(jV 6 wV),(kB lB),(kV lV),.vec 2 7 (v1.o7.map aR).length 0 (v1.o7.map aR).length,(bQ v1.x_5)],.vec 5 (v1.left.map av)]) ?_<|fun env_v1 H_v1 hw_v1=>?_
 ·refine LW.block ?_;refine LW.iterB (E:=fun x1:cA=>[(0,.ptr 8 0),(1,(iQ upto)),(4,(bQ false)),(5,(jB 9 x1.left)),(6,(bQ x1.any)),(7,(iQ x1.i))]) (O:=fun x1=>[.dead,.dead,.box (cG inp),.box [.zs,.zs],.box [.zs,.zs],.vec 5 (x1.o5.map av),.vec 4 (wV.map aK),.vec 2 (x1.o7.map aR),.box [(jB 5 x1.o5),(jV 6 wV),(kB lB),(kV lV),.vec 2 7 (x1.o7.map aR).length 0 (x1.o7.map aR).length,(bQ x1.x_5)],.vec 5 (x1.left.map av)]) hb_v1 (zW 10 ⟨rfl,rfl,rfl,rfl,rfl,rfl,trivial⟩ Z Z Z Z)<|fun x1 z_x1 hr hb_x1=>?_;unfold fU at hr;refine zQ<|zQ<|zR<|zM Z<|zM Z<|yS Z (zn Z Z)<|yS Z (zA Z Z ip)<|yS Z (zA Z Z aL)<|yS Z (zD Z Z Z cd Z Z)<|yS Z (cD Z Z (by kernel_rfl))<|yS Z (ap Z Z Z Z)<|zN<|zT ?_;refine zX Z (fun g1=>?_)<|fun g1=>?_
  ·refine zi g1 hr fun hr=>zk<|zT<|zQ<|zl<|zQ<|zR<|zM Z<|yS Z (zn Z Z)<|yS Z (zA Z Z ip)<|yS Z (zA Z Z aL)<|yS Z (zD Z Z Z cd Z Z)<|zM Z<|zb hr fun y1 h_y1 hr=>yS Z (zx Z Z Z cw h_y1 Z)<|yS Z (ci Z Z Z bW Z Z)<|yS Z (ze Z sn Z Z)<|yS Z (zs Z Z Z Z bW Z Z Z Z)<|zN<|zT<|zQ<|zR<|yS Z (zD Z Z Z bW Z Z)<|zb hr fun v2 h_v2 hr=>?_;refine yS Z (zC Z Z Z (by kernel_rfl) (zp (KR h_v2) (.cons zv .nil)))<|yS Z (ze Z fm Z Z)<|yS Z (zs Z Z Z Z ay Z Z Z Z)<|zN<|zT<|zQ<|LW.draw2 (by kernel_rfl) (by kernel_rfl)<|zH Z<|yE Z (zn Z Z)<|yE Z (zA Z Z eT)<|yE Z (zA Z Z aL)<|yE Z (zD Z Z Z cd Z Z)<|zH Z<|yE Z (zn Z Z)<|yE Z (zA Z Z lq)<|yE Z (zD Z Z Z DS Z Z)<|yE Z (zA Z Z fj)<|yE Z (zD Z Z Z ay Z Z)<|zb hr fun v3 h_v3 hr=>yE Z (zC Z Z Z (by kernel_rfl) (LC.lend (CX h_v3) (.cons (Conv.vecAll Z Z Z) (.cons (Conv.vecAll Z Z Z) (.cons zv .nil))) Z))<|zH Z<|LO.nil<|zT<|zQ ?_;obtain⟨v4,hb_v4,ho_v4⟩:=zB hr;clear hr;refine LW.cut (E:=[(0,.ptr 8 0),(1,(iQ upto)),(4,(bQ false)),(5,(jB 9 x1.left)),(6,(bQ x1.any)),(7,(iQ x1.i)),(8,.ptr 10 0),(9,.ptr 11 0),(10,(iQ v3)),(55,(bQ v4))]) (O:=[.dead,.dead,.box (cG inp),.box [.zs,.zs],.box [.zs,.zs],.vec 5 (x1.o5.map av),.vec 4 (wV.map aK),.vec 2 (x1.o7.map aR),.box [(jB 5 x1.o5),(jV 6 wV),(kB lB),(kV lV),.vec 2 7 (x1.o7.map aR).length 0 (x1.o7.map aR).length,(bQ x1.x_5)],.vec 5 (x1.left.map av),.box [(iQ y1.Slot),(iQ y1.From),(uQ y1.Parent.1),(uQ y1.Parent.2),(uQ y1.Salt)],.box [(uQ v2.1),(uQ v2.2)]]) ?_ ?_
   ·have hr:=hb_v4;refine LW.draw2 (by kernel_rfl) (by kernel_rfl)<|zH Z<|yE Z (zn Z Z)<|yE Z (zA Z Z lq)<|yE Z (zD Z Z Z DS Z Z)<|yE Z (zD Z Z Z ay Z Z)<|zb hr fun v5 h_v5 hr=>yE Z (zC Z Z Z (by kernel_rfl) (LC.lend (FS h_v5) (.cons (Conv.vecAll Z Z Z) (.cons zv .nil)) Z))<|yE Z (ap Z Z Z Z)<|zH Z ?_;refine LO.cases 50 Z (fun(g2:(decide (v5≥0))=true)=>?_) (fun(g2:(decide (v5≥0))=false)=>?_)
    ·refine zi g2 hr fun hr=>LO.sk Z Z Z (gd g2 Z) Z Z<|LO.sk Z Z Z (gd g2 Z) Z Z<|LO.sk Z Z Z (gd g2 Z) Z Z<|LO.sk Z Z Z (gd g2 Z) Z Z<|yE Z (bx Z (aG g2 Z) Z)<|LO.nil<|zT ?_;obtain rfl:=zJ hr;exact zW 12 ⟨Z,Z,Z,Z,Z,Z,Z,Z,Z,Z,trivial⟩ Z Z Z Z
    ·refine zo g2 hr fun hr=>LO.gd Z Z Z (gd g2 Z) Z (zm Z Z)<|LO.gd Z Z Z (gd g2 Z) Z (zA Z Z eD)<|LO.gd Z Z Z (gd g2 Z) Z (zD Z Z Z aW Z Z)<|LO.gd Z Z Z (gd g2 Z) Z (ap Z Z Z Z)<|yE Z (aO Z (aG g2 Z) Z)<|LO.nil<|zT ?_;obtain rfl:=zJ hr;exact zW 12 ⟨Z,Z,Z,Z,Z,Z,Z,Z,Z,Z,trivial⟩ Z Z Z Z
   ·have hr:=ho_v4;clear hb_v4;refine zX Z (fun g3=>?_)<|fun g3=>?_
    ·refine zi g3 hr fun hr=>zq<|aj<|zy<|zT<|zR<|zM Z<|yS Z (ap Z Z Z Z)<|zM Z<|zN<|zT ?_;obtain rfl:=zJ hr;exact⟨_,rfl,zW 10 ⟨rfl,rfl,rfl,rfl,rfl,rfl,trivial⟩ Z Z Z rfl⟩
    ·refine zo g3 hr fun hr=>zk<|zT<|zQ ?_;obtain⟨v6,hb_v6,ho_v6⟩:=zB hr;clear hr;refine LW.cut (E:=[(0,.ptr 8 0),(1,(iQ upto)),(4,(bQ false)),(5,(jB 9 x1.left)),(6,(bQ x1.any)),(7,(iQ x1.i)),(8,.ptr 10 0),(9,.ptr 11 0),(63,(bQ v6))]) (O:=[.dead,.dead,.box (cG inp),.box [.zs,.zs],.box [.zs,.zs],.vec 5 (x1.o5.map av),.vec 4 (wV.map aK),.vec 2 (x1.o7.map aR),.box [(jB 5 x1.o5),(jV 6 wV),(kB lB),(kV lV),.vec 2 7 (x1.o7.map aR).length 0 (x1.o7.map aR).length,(bQ x1.x_5)],.vec 5 (x1.left.map av),.box [(iQ y1.Slot),(iQ y1.From),(uQ y1.Parent.1),(uQ y1.Parent.2),(uQ y1.Salt)],.box [(uQ v2.1),(uQ v2.2)]]) ?_ ?_
     ·have hr:=hb_v6;refine zR<|zM Z<|yS Z (ap Z Z Z Z)<|zM Z ?_;refine zc 58 Z (fun g4=>?_)<|fun g4=>?_
      ·refine zi g4 hr fun hr=>yU Z (gd g4 Z) Z<|yU Z (gd g4 Z) Z<|yU Z (gd g4 Z) Z<|yU Z (gd g4 Z) Z<|yS Z (bx Z (aG g4 Z) Z)<|zN<|zT ?_;obtain rfl:=zJ hr;exact zW 12 ⟨Z,Z,Z,Z,Z,Z,Z,Z,Z,trivial⟩ Z Z Z Z
      ·refine zo g4 hr fun hr=>yV Z (gd g4 Z) (zA Z Z eD)<|yV Z (gd g4 Z) (zD Z Z Z aW Z Z)<|yV Z (gd g4 Z) (zm Z Z)<|yV Z (gd g4 Z) (ap Z Z Z Z)<|yS Z (aO Z (aG g4 Z) Z)<|zN<|zT ?_;obtain rfl:=zJ hr;exact zW 12 ⟨Z,Z,Z,Z,Z,Z,Z,Z,Z,trivial⟩ Z Z Z Z
     ·have hr:=ho_v6;clear hb_v6;refine zX Z (fun g5=>?_)<|fun g5=>?_
      ·refine zi g5 hr fun hr=>zQ<|zR<|zM Z<|yS Z (zD Z Z Z bW Z Z)<|yS Z (iO Z cw Z Z Z Z Z)<|zg hr fun q1 hr=>yS Z (aa.appendX av x1.left [y1] rfl Z Z Z iR.p Z cw q1 Z)<|zM Z<|zN<|zT<|zq<|aj<|zy<|zT<|zR<|zM Z<|yS Z (ap Z Z Z Z)<|zM Z<|zN<|zT ?_;obtain rfl:=zJ hr;exact⟨_,rfl,zW 10 ⟨rfl,rfl,rfl,rfl,rfl,rfl,trivial⟩ Z Z Z rfl⟩
      ·refine zo g5 hr fun hr=>zk<|zT<|zQ<|zQ<|zR<|zM Z<|yS Z (zn Z Z)<|yS Z (zA Z Z eT)<|yS Z (zA Z Z aL)<|yS Z (zD Z Z Z cd Z Z)<|yS Z (aa.lenVM Z Z Z (by kernel_rfl))<|yS Z (ap Z Z Z Z)<|zN<|zT ?_;refine zX Z (fun g6=>?_)<|fun g6=>?_
       ·refine zi g6 hr fun hr=>zQ<|zR<|zM Z<|yS Z (zn Z Z)<|yS Z (zA Z Z rE)<|yS Z (zs Z Z Z Z uf Z Z Z Z)<|zN<|zT<|zQ<|zR<|zM Z<|yS Z (zD Z Z Z bW Z Z)<|yS Z (iO Z cw Z Z Z Z Z)<|zg hr fun q2 hr=>yS Z (aa.appendX av x1.left [y1] rfl Z Z Z iR.p Z cw q2 Z)<|zM Z<|zN<|zT<|zq<|aj<|zy<|zT<|zR ?_;refine zM Z<|yS Z (ap Z Z Z Z)<|zM Z<|zN<|zT ?_;obtain rfl:=zJ hr;exact⟨_,rfl,zW 10 ⟨rfl,rfl,rfl,rfl,rfl,rfl,trivial⟩ Z Z Z rfl⟩
       ·refine zo g6 hr fun hr=>zk<|zT<|zQ<|LW.drawW (by kernel_rfl) (by kernel_rfl)<|zK Z<|zK Z ?_;refine yF (F:=[]) (s:=none) Z (fun H _=>zn Z Z) Z ?_;refine yF (F:=[]) (s:=none) Z (fun H _=>zA Z Z eT) Z ?_;refine yF (F:=[]) (s:=none) Z (fun H _=>zA Z Z aL) Z ?_;refine yF Z (zd Z Z Z cd Z Z) Z<|yF Z (zd Z Z Z bW Z Z) Z ?_;refine yF (F:=[]) (s:=none) Z (fun H _=>iO Z cw Z Z Z Z Z) Z ?_;refine zg hr fun q3 hr=>yF Z (cq.appendX av x1.o5 [y1] rfl Z Z Z Z cw q3) Z ?_;refine yF (F:=[]) (s:=none) Z (fun H _=>zn Z Z) Z ?_;refine yF (F:=[]) (s:=none) Z (fun H _=>zA Z Z eT) Z ?_;refine yF (F:=[]) (s:=none) Z (fun H _=>zA Z Z aL) Z ?_;refine yF Z (zt Z Z Z Z cd Z Z Z) Z ?_;refine LF.nil ⟨by kernel_rfl,?_⟩;refine zT<|zQ<|LW.drawW (by kernel_rfl) (by kernel_rfl)<|zK Z<|zK Z ?_;refine yF (F:=[]) (s:=none) Z (fun H _=>zn Z Z) Z ?_;refine yF (F:=[]) (s:=none) Z (fun H _=>zA Z Z lq) Z ?_;refine yF Z (zd Z Z Z DS Z Z) Z<|yF Z (zd Z Z Z ay Z Z) Z ?_;refine yF (F:=[]) (s:=none) Z (fun H _=>iO Z ey Z Z Z Z Z) Z ?_;refine zg hr fun q4 hr=>yF Z (cq.appendX aR x1.o7 [v2] rfl Z Z Z Z ey q4) Z ?_;refine yF (F:=[]) (s:=none) Z (fun H _=>zn Z Z) Z ?_;refine yF (F:=[]) (s:=none) Z (fun H _=>zA Z Z lq) Z ?_;refine yF Z (zt Z Z Z Z DS Z Z Z) Z ?_;refine LF.nil ⟨by kernel_rfl,?_⟩;refine zT<|zR<|zM Z<|zN<|ai<|zT<|zR<|zM Z<|yS Z (ap Z Z Z Z)<|zM Z<|zN<|zT ?_;obtain rfl:=zJ hr;exact⟨_,rfl,zW 10 ⟨rfl,rfl,rfl,rfl,rfl,rfl,trivial⟩ Z Z Z rfl⟩
  ·refine zo g1 hr fun hr=>zq<|aj<|aj<|zy<|zT ?_;obtain rfl:=zJ hr;have hr:=congrArg some (hb_x1 _ rfl);obtain rfl:=zJ hr;exact zW 10 ⟨Z,Z,Z,Z,trivial⟩ Z Z Z Z
 ·have hr:=ho_v1;clear hb_v1;refine zT<|LW.weak hw_v1<|zQ<|LW.ent (cz.frz (t:=5) (env':=[(0,.ptr 8 0),(4,(bQ false)),(6,(bQ v1.any))]) (H0:=[.dead,.dead,.box (cG inp),.box [.zs,.zs],.box [.zs,.zs],.vec 5 (v1.o5.map av),.vec 4 (wV.map aK),.vec 2 (v1.o7.map aR),.box [(jB 5 v1.o5),(jV 6 wV),(kB lB),(kV lV),.vec 2 7 (v1.o7.map aR).length 0 (v1.o7.map aR).length,(bQ v1.x_5)]]) Z Z Z Z Z ⟨rfl,rfl,rfl,trivial⟩ Z Z)<|zR<|zM Z<|zM Z<|yS Z (zn Z Z)<|yS Z (zA Z Z ip)<|yS Z (zA Z Z aL)<|yS Z (zs Z Z Z Z cd Z Z Z Z)<|zN<|zT<|zQ<|zR<|zM Z<|zM Z<|zN<|zT<|zr ?_;obtain rfl:=zJ hr;exact aH (.one (.tmp Z))<|⟨rfl,rfl⟩
structure cj where
 any:Bool
 i:Int
 o6:List Vt
 x_5:Bool
 left:List Vt
def fp (upto:Int)(wB:List Bk)(lV:List Vt)(nms:List ID)(x1:cj):Option (cj⊕cj):=bif decide (x1.i<(lV.length:Int))then (ix lV x1.i).bind fun y1=>(qP wB nms y1.Head).bind fun v2=>((wH x1.o6 y1).bind fun v4=>bif decide (v4>0)then some true else some (decide (v2>y1.Slot))).bind fun v3=>bif v3 then some (.inl (cj.mk x1.any (IntKind.i64.wrap (x1.i+1)) x1.o6 x1.x_5 x1.left))else (bif decide (v2<0)then some true else some (decide (y1.Slot>upto))).bind fun v5=>bif v5 then bif cy x1.left.length [y1].length 32 then some (.inl (cj.mk x1.any (IntKind.i64.wrap (x1.i+1)) x1.o6 x1.x_5 (x1.left++[y1])))else none else bif decide ((x1.o6.length:Int)≥240)then bif cy x1.left.length [y1].length 32 then some (.inl (cj.mk x1.any (IntKind.i64.wrap (x1.i+1)) x1.o6 true (x1.left++[y1])))else none else bif cy x1.o6.length [y1].length 32 then some (.inl (cj.mk true (IntKind.i64.wrap (x1.i+1)) (x1.o6++[y1]) x1.x_5 x1.left))else none else some (.inr (cj.mk x1.any x1.i x1.o6 x1.x_5 x1.left))
def lf (upto:Int)(wB:List Bk)(wV:List Vt)(lV:List Vt)(nms:List ID)(full:Bool):Option (Bool×List Vt×List Vt×Bool):=(iter (fp upto wB lV nms) bg (cj.mk false 0 wV full ([]:List Vt))).bind fun v1=>some (v1.any,v1.left,v1.o6,v1.x_5)
theorem An {upto:Int}{wB:List Bk}{wV:List Vt}{lB:List Bk}{lV:List Vt}{nms:List ID}{full:Bool}{inp:Vw}{r_:Bool×List Vt×List Vt×Bool}(hr:lf upto wB wV lV nms full=some r_):LC Tryz.prog 171 [.ptr 8 0,(iQ upto)] [.dead,.dead,.box (cG inp),.box [.zs,.zs],.box [.zs,.zs],.vec 5 (wB.map av),.vec 4 (wV.map aK),.vec 2 (nms.map aR),.box [(jB 5 wB),(jV 6 wV),(kB lB),(kV lV),.vec 2 7 (nms.map aR).length 0 (nms.map aR).length,(bQ full)]] (Is (bQ r_.1) [.dead,.dead,.box (cG inp),.box [.zs,.zs],.box [.zs,.zs],.vec 5 (wB.map av),.vec 4 (r_.2.2.1.map aK),.vec 2 (nms.map aR),.box [(jB 5 wB),(jV 6 r_.2.2.1),(kB lB),(kV r_.2.1),.vec 2 7 (nms.map aR).length 0 (nms.map aR).length,(bQ r_.2.2.2)]]):=by
 refine fy Tryz.func171 Z Z Z ?_;unfold lf at hr;refine zQ<|zR<|zM Z<|zN<|zT<|zQ<|zR<|zM Z<|zN<|zT<|zQ<|zR<|zM Z<|zN<|zT<|zQ<|zQ<|zR<|zM Z<|zN<|zT<|LW.ent (cz.lazy (t:=5) (m:=4) Z Z Z) ?_;obtain⟨v1,hb_v1,ho_v1⟩:=zB hr;clear hr;refine LW.tail (E:=[(0,.ptr 8 0),(4,(bQ false)),(5,(jV 9 v1.left)),(6,(bQ v1.any))]) (O:=[.dead,.dead,.box (cG inp),.box [.zs,.zs],.box [.zs,.zs],.vec 5 (wB.map av),.vec 4 (v1.o6.map aK),.vec 2 (nms.map aR),.box [(jB 5 wB),(jV 6 v1.o6),(kB lB),(kV lV),.vec 2 7 (nms.map aR).length 0 (nms.map aR).length,(bQ v1.x_5)],.vec 4 (v1.left.map aK)]) ?_<|fun env_v1 H_v1 hw_v1=>?_
 ·refine LW.block ?_;refine LW.iterB (E:=fun x1:cj=>[(0,.ptr 8 0),(1,(iQ upto)),(4,(bQ false)),(5,(jV 9 x1.left)),(6,(bQ x1.any)),(7,(iQ x1.i))]) (O:=fun x1=>[.dead,.dead,.box (cG inp),.box [.zs,.zs],.box [.zs,.zs],.vec 5 (wB.map av),.vec 4 (x1.o6.map aK),.vec 2 (nms.map aR),.box [(jB 5 wB),(jV 6 x1.o6),(kB lB),(kV lV),.vec 2 7 (nms.map aR).length 0 (nms.map aR).length,(bQ x1.x_5)],.vec 4 (x1.left.map aK)]) hb_v1 (zW 10 ⟨rfl,rfl,rfl,rfl,rfl,rfl,trivial⟩ Z Z Z Z)<|fun x1 z_x1 hr hb_x1=>?_;unfold fp at hr;refine zQ<|zQ<|zR<|zM Z<|zM Z<|yS Z (zn Z Z)<|yS Z (zA Z Z ip)<|yS Z (zA Z Z aQ)<|yS Z (zD Z Z Z co Z Z)<|yS Z (cD Z Z (by kernel_rfl))<|yS Z (ap Z Z Z Z)<|zN<|zT ?_;refine zX Z (fun g1=>?_)<|fun g1=>?_
  ·refine zi g1 hr fun hr=>zk<|zT<|zQ<|zl<|zQ<|zR<|zM Z<|yS Z (zn Z Z)<|yS Z (zA Z Z ip)<|yS Z (zA Z Z aQ)<|yS Z (zD Z Z Z co Z Z)<|zM Z<|zb hr fun y1 h_y1 hr=>yS Z (zx Z Z Z bD h_y1 Z)<|yS Z (ci Z Z Z cp Z Z)<|yS Z (ze Z sz Z Z)<|yS Z (zs Z Z Z Z cp Z Z Z Z)<|zN<|zT<|zQ<|LW.draw2 (by kernel_rfl) (by kernel_rfl)<|zH Z<|yE Z (zn Z Z) ?_;refine yE Z (zA Z Z eT)<|yE Z (zA Z Z aL)<|yE Z (zD Z Z Z cd Z Z)<|zH Z<|yE Z (zn Z Z)<|yE Z (zA Z Z lq)<|yE Z (zD Z Z Z DS Z Z)<|yE Z (zA Z Z gH)<|yE Z (zD Z Z Z ay Z Z)<|zb hr fun v2 h_v2 hr=>yE Z (zC Z Z Z (by kernel_rfl) (LC.lend (CX h_v2) (.cons (Conv.vecAll Z Z Z) (.cons (Conv.vecAll Z Z Z) (.cons zv .nil))) Z))<|zH Z<|LO.nil<|zT<|zQ ?_;obtain⟨v3,hb_v3,ho_v3⟩:=zB hr;clear hr;refine LW.cut (E:=[(0,.ptr 8 0),(1,(iQ upto)),(4,(bQ false)),(5,(jV 9 x1.left)),(6,(bQ x1.any)),(7,(iQ x1.i)),(8,.ptr 10 0),(9,(iQ v2)),(53,(bQ v3))]) (O:=[.dead,.dead,.box (cG inp),.box [.zs,.zs],.box [.zs,.zs],.vec 5 (wB.map av),.vec 4 (x1.o6.map aK),.vec 2 (nms.map aR),.box [(jB 5 wB),(jV 6 x1.o6),(kB lB),(kV lV),.vec 2 7 (nms.map aR).length 0 (nms.map aR).length,(bQ x1.x_5)],.vec 4 (x1.left.map aK),.box [(iQ y1.From),(iQ y1.Slot),(uQ y1.Head.1),(uQ y1.Head.2)]]) ?_ ?_
   ·have hr:=hb_v3;refine LW.draw2 (by kernel_rfl) (by kernel_rfl)<|zH Z<|yE Z (zn Z Z)<|yE Z (zA Z Z eT)<|yE Z (zA Z Z aQ)<|yE Z (zD Z Z Z co Z Z)<|yE Z (zD Z Z Z cp Z Z)<|zb hr fun v4 h_v4 hr=>yE Z (zC Z Z Z (by kernel_rfl) (LC.lend (GZ h_v4) (.cons (Conv.vecAll Z Z Z) (.cons zv .nil)) Z))<|yE Z (ap Z Z Z Z)<|zH Z ?_;refine LO.cases 48 Z (fun(g2:(decide (v4>0))=true)=>?_) (fun(g2:(decide (v4>0))=false)=>?_)
    ·refine zi g2 hr fun hr=>LO.sk Z Z Z (gd g2 Z) Z Z<|LO.sk Z Z Z (gd g2 Z) Z Z<|LO.sk Z Z Z (gd g2 Z) Z Z<|LO.sk Z Z Z (gd g2 Z) Z Z<|yE Z (bx Z (aG g2 Z) Z)<|LO.nil<|zT ?_;obtain rfl:=zJ hr;exact zW 11 ⟨Z,Z,Z,Z,Z,Z,Z,Z,Z,trivial⟩ Z Z Z Z
    ·refine zo g2 hr fun hr=>LO.gd Z Z Z (gd g2 Z) Z (zm Z Z)<|LO.gd Z Z Z (gd g2 Z) Z (zA Z Z gG)<|LO.gd Z Z Z (gd g2 Z) Z (zD Z Z Z aW Z Z)<|LO.gd Z Z Z (gd g2 Z) Z (ap Z Z Z Z)<|yE Z (aO Z (aG g2 Z) Z)<|LO.nil<|zT ?_;obtain rfl:=zJ hr;exact zW 11 ⟨Z,Z,Z,Z,Z,Z,Z,Z,Z,trivial⟩ Z Z Z Z
   ·have hr:=ho_v3;clear hb_v3;refine zX Z (fun g3=>?_)<|fun g3=>?_
    ·refine zi g3 hr fun hr=>zq<|aj<|zy<|zT<|zR<|zM Z<|yS Z (ap Z Z Z Z)<|zM Z<|zN<|zT ?_;obtain rfl:=zJ hr;exact⟨_,rfl,zW 10 ⟨rfl,rfl,rfl,rfl,rfl,rfl,trivial⟩ Z Z Z rfl⟩
    ·refine zo g3 hr fun hr=>zk<|zT<|zQ ?_;obtain⟨v5,hb_v5,ho_v5⟩:=zB hr;clear hr;refine LW.cut (E:=[(0,.ptr 8 0),(1,(iQ upto)),(4,(bQ false)),(5,(jV 9 x1.left)),(6,(bQ x1.any)),(7,(iQ x1.i)),(8,.ptr 10 0),(61,(bQ v5))]) (O:=[.dead,.dead,.box (cG inp),.box [.zs,.zs],.box [.zs,.zs],.vec 5 (wB.map av),.vec 4 (x1.o6.map aK),.vec 2 (nms.map aR),.box [(jB 5 wB),(jV 6 x1.o6),(kB lB),(kV lV),.vec 2 7 (nms.map aR).length 0 (nms.map aR).length,(bQ x1.x_5)],.vec 4 (x1.left.map aK),.box [(iQ y1.From),(iQ y1.Slot),(uQ y1.Head.1),(uQ y1.Head.2)]]) ?_ ?_
     ·have hr:=hb_v5;refine zR<|zM Z<|yS Z (ap Z Z Z Z)<|zM Z ?_;refine zc 56 Z (fun g4=>?_)<|fun g4=>?_
      ·refine zi g4 hr fun hr=>yU Z (gd g4 Z) Z<|yU Z (gd g4 Z) Z<|yU Z (gd g4 Z) Z<|yU Z (gd g4 Z) Z<|yS Z (bx Z (aG g4 Z) Z)<|zN<|zT ?_;obtain rfl:=zJ hr;exact zW 11 ⟨Z,Z,Z,Z,Z,Z,Z,Z,trivial⟩ Z Z Z Z
      ·refine zo g4 hr fun hr=>yV Z (gd g4 Z) (zA Z Z gG)<|yV Z (gd g4 Z) (zD Z Z Z aW Z Z)<|yV Z (gd g4 Z) (zm Z Z)<|yV Z (gd g4 Z) (ap Z Z Z Z)<|yS Z (aO Z (aG g4 Z) Z)<|zN<|zT ?_;obtain rfl:=zJ hr;exact zW 11 ⟨Z,Z,Z,Z,Z,Z,Z,Z,trivial⟩ Z Z Z Z
     ·have hr:=ho_v5;clear hb_v5;refine zX Z (fun g5=>?_)<|fun g5=>?_
      ·refine zi g5 hr fun hr=>zQ<|zR<|zM Z<|yS Z (zD Z Z Z cp Z Z)<|yS Z (iO Z bD Z Z Z Z Z)<|zg hr fun q1 hr=>yS Z (aa.appendX aK x1.left [y1] rfl Z Z Z iR.p Z bD q1 Z)<|zM Z<|zN<|zT<|zq<|aj<|zy<|zT<|zR<|zM Z<|yS Z (ap Z Z Z Z)<|zM Z<|zN<|zT ?_;obtain rfl:=zJ hr;exact⟨_,rfl,zW 10 ⟨rfl,rfl,rfl,rfl,rfl,rfl,trivial⟩ Z Z Z rfl⟩
      ·refine zo g5 hr fun hr=>zk<|zT<|zQ<|zQ<|zR<|zM Z<|yS Z (zn Z Z)<|yS Z (zA Z Z eT)<|yS Z (zA Z Z aQ)<|yS Z (zD Z Z Z co Z Z)<|yS Z (aa.lenVM Z Z Z (by kernel_rfl))<|yS Z (ap Z Z Z Z)<|zN<|zT ?_;refine zX Z (fun g6=>?_)<|fun g6=>?_
       ·refine zi g6 hr fun hr=>zQ<|zR<|zM Z<|yS Z (zn Z Z)<|yS Z (zA Z Z rE)<|yS Z (zs Z Z Z Z uf Z Z Z Z)<|zN<|zT<|zQ<|zR<|zM Z<|yS Z (zD Z Z Z cp Z Z)<|yS Z (iO Z bD Z Z Z Z Z)<|zg hr fun q2 hr=>yS Z (aa.appendX aK x1.left [y1] rfl Z Z Z iR.p Z bD q2 Z)<|zM Z<|zN<|zT<|zq<|aj<|zy<|zT<|zR ?_;refine zM Z<|yS Z (ap Z Z Z Z)<|zM Z<|zN<|zT ?_;obtain rfl:=zJ hr;exact⟨_,rfl,zW 10 ⟨rfl,rfl,rfl,rfl,rfl,rfl,trivial⟩ Z Z Z rfl⟩
       ·refine zo g6 hr fun hr=>zk<|zT<|zQ<|LW.drawW (by kernel_rfl) (by kernel_rfl)<|zK Z<|zK Z ?_;refine yF (F:=[]) (s:=none) Z (fun H _=>zn Z Z) Z ?_;refine yF (F:=[]) (s:=none) Z (fun H _=>zA Z Z eT) Z ?_;refine yF (F:=[]) (s:=none) Z (fun H _=>zA Z Z aQ) Z ?_;refine yF Z (zd Z Z Z co Z Z) Z<|yF Z (zd Z Z Z cp Z Z) Z ?_;refine yF (F:=[]) (s:=none) Z (fun H _=>iO Z bD Z Z Z Z Z) Z ?_;refine zg hr fun q3 hr=>yF Z (cq.appendX aK x1.o6 [y1] rfl Z Z Z Z bD q3) Z ?_;refine yF (F:=[]) (s:=none) Z (fun H _=>zn Z Z) Z ?_;refine yF (F:=[]) (s:=none) Z (fun H _=>zA Z Z eT) Z ?_;refine yF (F:=[]) (s:=none) Z (fun H _=>zA Z Z aQ) Z ?_;refine yF Z (zt Z Z Z Z co Z Z Z) Z ?_;refine LF.nil ⟨by kernel_rfl,?_⟩;refine zT<|zR<|zM Z<|zN<|ai<|zT<|zR<|zM Z<|yS Z (ap Z Z Z Z)<|zM Z<|zN<|zT ?_;obtain rfl:=zJ hr;exact⟨_,rfl,zW 10 ⟨rfl,rfl,rfl,rfl,rfl,rfl,trivial⟩ Z Z Z rfl⟩
  ·refine zo g1 hr fun hr=>zq<|aj<|aj<|zy<|zT ?_;obtain rfl:=zJ hr;have hr:=congrArg some (hb_x1 _ rfl);obtain rfl:=zJ hr;exact zW 10 ⟨Z,Z,Z,Z,trivial⟩ Z Z Z Z
 ·have hr:=ho_v1;clear hb_v1;refine zT<|LW.weak hw_v1<|zQ<|LW.ent (cz.frz (t:=5) (env':=[(0,.ptr 8 0),(4,(bQ false)),(6,(bQ v1.any))]) (H0:=[.dead,.dead,.box (cG inp),.box [.zs,.zs],.box [.zs,.zs],.vec 5 (wB.map av),.vec 4 (v1.o6.map aK),.vec 2 (nms.map aR),.box [(jB 5 wB),(jV 6 v1.o6),(kB lB),(kV lV),.vec 2 7 (nms.map aR).length 0 (nms.map aR).length,(bQ v1.x_5)]]) Z Z Z Z Z ⟨rfl,rfl,rfl,trivial⟩ Z Z)<|zR<|zM Z<|zM Z<|yS Z (zn Z Z)<|yS Z (zA Z Z ip)<|yS Z (zA Z Z aQ)<|yS Z (zs Z Z Z Z co Z Z Z Z)<|zN<|zT<|zQ<|zR<|zM Z<|zM Z<|zN<|zT<|zr ?_;obtain rfl:=zJ hr;exact aH (.one (.tmp Z))<|⟨rfl,rfl⟩
structure df where
 i:Int
 out:List ID
def fV (l:List Bk)(x1:df):Option (df⊕df):=bif decide (x1.i<(l.length:Int))then (ix l x1.i).bind fun y1=>(Fy y1).bind fun v2=>bif cy x1.out.length [v2].length 16 then some (.inl (df.mk (IntKind.i64.wrap (x1.i+1)) (x1.out++[v2])))else none else some (.inr (df.mk x1.i x1.out))
def nR (l:List Bk):Option (List ID):=(iter (fV l) bg (df.mk 0 ([]:List ID))).bind fun v1=>some v1.out
theorem CZ {l:List Bk}{r_:List ID}(hr:nR l=some r_):LC Tryz.prog 143 [(kB l)] [] (Is (.vec 2 0 (r_.map aR).length 0 (r_.map aR).length) [.vec 2 (r_.map aR)]):=by
 refine fy Tryz.func143 Z Z Z ?_;unfold nR at hr;refine zQ<|zR<|zM Z<|zN<|zT<|zQ<|zR<|zM Z<|zN<|zT<|zQ<|zQ<|zR<|zM Z<|zN<|zT<|LW.ent (cz.lazy (t:=3) (m:=2) Z Z Z) ?_;obtain⟨v1,hb_v1,ho_v1⟩:=zB hr;clear hr;refine LW.tail (E:=[(2,.zs),(3,.vec 2 0 (v1.out.map aR).length 0 (v1.out.map aR).length)]) (O:=[.vec 2 (v1.out.map aR)]) ?_<|fun env_v1 H_v1 hw_v1=>?_
 ·refine LW.block ?_;refine LW.iterB (E:=fun x1:df=>[(0,(kB l)),(2,.zs),(3,.vec 2 0 (x1.out.map aR).length 0 (x1.out.map aR).length),(4,(iQ x1.i))]) (O:=fun x1=>[.vec 2 (x1.out.map aR)]) hb_v1 (zW 1 ⟨rfl,rfl,rfl,rfl,trivial⟩ Z Z Z Z)<|fun x1 z_x1 hr hb_x1=>?_;unfold fV at hr;refine zQ<|zQ<|zR<|zM Z<|zM Z<|yS Z (cD Z Z (by kernel_rfl))<|yS Z (ap Z Z Z Z)<|zN<|zT ?_;refine zX Z (fun g1=>?_)<|fun g1=>?_
  ·refine zi g1 hr fun hr=>zk<|zT<|zQ<|zl<|zR<|zM Z<|zM Z<|zM Z<|zb hr fun y1 h_y1 hr=>yS Z (zx Z Z Z cw h_y1 Z)<|yS Z (ci Z Z Z bW Z Z)<|zb hr fun v2 h_v2 hr=>yS Z (zC Z Z Z (by kernel_rfl) (zp (KR h_v2) (.cons zv .nil)))<|yS Z (iO Z ey Z Z Z Z Z)<|zg hr fun q1 hr=>yS Z (aa.appendX aR x1.out [v2] rfl Z Z Z iR.p Z ey q1 Z)<|zM Z<|zN<|ai<|zT<|zR<|zM Z<|yS Z (ap Z Z Z Z) ?_;refine zM Z<|zN<|zT ?_;obtain rfl:=zJ hr;exact⟨_,rfl,zW 1 ⟨rfl,rfl,rfl,rfl,trivial⟩ Z Z Z rfl⟩
  ·refine zo g1 hr fun hr=>zq<|aj<|aj<|zy<|zT ?_;obtain rfl:=zJ hr;have hr:=congrArg some (hb_x1 _ rfl);obtain rfl:=zJ hr;exact zW 1 ⟨Z,Z,trivial⟩ Z Z Z Z
 ·have hr:=ho_v1;clear hb_v1;refine zT<|LW.weak hw_v1<|zQ<|zR<|zM Z<|zM Z<|zN<|zT<|zr ?_;obtain rfl:=zJ hr;exact aH (.one (.tmp Z))<|⟨rfl,rfl⟩
structure dk where
 k:Int
 o5:List Bk
 o6:List Vt
 o7:List ID
 x_2:List Bk
 x_3:List Vt
 x_5:Bool
def k8 (v_in:Vw)(upto:Int)(x1:dk):Option (dk⊕dk):=bif decide (x1.k≤(IntKind.i64.wrap ((v_in.B.length:Int)+(v_in.V.length:Int))))then (nQ upto x1.o5 x1.x_2 x1.o7 x1.x_5).bind fun v5=>(lf upto v5.2.2.1 x1.o6 x1.x_3 v5.2.2.2.1 v5.2.2.2.2).bind fun v6=>bif !v5.1 then bif !v6.1 then some (.inr (dk.mk x1.k v5.2.2.1 v6.2.2.1 v5.2.2.2.1 v5.2.1 v6.2.1 v6.2.2.2))else some (.inl (dk.mk (IntKind.i64.wrap (x1.k+1)) v5.2.2.1 v6.2.2.1 v5.2.2.2.1 v5.2.1 v6.2.1 v6.2.2.2))else some (.inl (dk.mk (IntKind.i64.wrap (x1.k+1)) v5.2.2.1 v6.2.2.1 v5.2.2.2.1 v5.2.1 v6.2.1 v6.2.2.2))else some (.inr (dk.mk x1.k x1.o5 x1.o6 x1.o7 x1.x_2 x1.x_3 x1.x_5))
def uY (c:Cf)(w:Vw)(v_in:Vw)(upto:Int):Option (Vw×Vw×Bool):=(u5 c w).bind fun v1=>bif !v1 then some (w,v_in,false)else bif cy 0 w.B.length 40 then bif cy 0 w.V.length 32 then (sF c v_in).bind fun v2=>(nR w.B).bind fun v3=>(iter (k8 v_in upto) bg (dk.mk 0 w.B w.V v3 v2.B v2.V false)).bind fun v4=>some (Vw.mk v4.o5 v4.o6,Vw.mk v4.x_2 v4.x_3,v4.x_5)else none else none
theorem Jm {c:Cf}{w:Vw}{v_in:Vw}{upto:Int}{r_:Vw×Vw×Bool}(hr:uY c w v_in upto=some r_):ar Tryz.prog 134 [fz c,gW w,gW v_in,.int .i64 upto] [gW r_.1,gW r_.2.1,.bool r_.2.2]:=by
 refine zh Tryz.func134 Z Z Z Z ?_;unfold uY at hr;refine zQ<|zR<|yS Z (bw Z Z Z Z Z)<|yS Z (bw Z Z Z Z Z)<|yS Z (bw Z Z Z Z Z)<|yS Z (ze Z f8 Z Z)<|yS Z (ze Z f8 Z Z)<|zM Z<|zN<|zT<|zQ<|zR<|yS Z (zD Z Z Z aY Z Z)<|yS Z (zD Z Z Z aI Z Z)<|zb hr fun v1 h_v1 hr=>yS Z (zC Z Z Z (by kernel_rfl) (zp (Jp h_v1) (.cons zv (.cons zv .nil))))<|zM Z<|zN<|zT<|zQ<|zQ<|zR<|zM Z<|yS Z (aa.not Z Z) ?_;refine zN<|zT ?_;refine zX Z (fun g1=>?_)<|fun g1=>?_
 ·refine zi g1 hr fun hr=>zQ<|LW.drawW (by kernel_rfl) (by kernel_rfl)<|yF Z (zd Z Z Z aI Z Z) Z<|yF Z (zd Z Z Z aI Z Z) Z<|yF Z (zt Z Z Z Z aI Z Z Z) Z<|yF Z (zt Z Z Z Z aI Z Z Z) Z<|zK Z ?_;refine LF.nil ⟨by kernel_rfl,?_⟩;refine zT<|zr<|af ?_;obtain rfl:=zJ hr;exact zf (.three (.cellAgg Z Z (by kernel_rfl) Z) (.cellAgg Z Z (by kernel_rfl) Z) (.tmp Z))<|⟨_,rfl,(.cons zv (.cons zv (.cons zv .nil)))⟩
 ·refine zo g1 hr fun hr=>zk<|zT<|zQ<|LW.ent (cz.slot Z)<|LW.ent (cz.slot Z)<|LW.ent (cz.slot Z)<|LW.ent (cz.slot Z)<|LW.drawW (by kernel_rfl) (by kernel_rfl) ?_;refine yF (F:=[]) (s:=none) Z (fun H _=>zA Z Z aL) Z ?_;refine yF Z (zd Z Z Z cd Z Z) Z<|zg hr fun q1 hr=>yF Z (cq.appendZX av w.B Z Z (id:=5) Z Z Z cw q1) Z ?_;refine yF (F:=[]) (s:=none) Z (fun H _=>zA Z Z aQ) Z ?_;refine yF Z (zd Z Z Z co Z Z) Z<|zg hr fun q2 hr=>yF Z (cq.appendZX aK w.V Z Z (id:=6) Z Z Z bD q2) Z ?_;refine yF (F:=[]) (s:=none) Z (fun H _=>aa.build Z mt Z Z Z) Z ?_;refine yF Z (zd Z Z Z aY Z Z) Z<|yF Z (zd Z Z Z aI Z Z) Z<|zb hr fun v2 h_v2 hr=>?_;refine yF (F:=[]) (s:=none) Z (fun H _=>zC Z Z Z (by kernel_rfl) (zp (FL h_v2) (.cons zv (.cons zv .nil)))) Z ?_;refine yF (F:=[]) (s:=none) Z (fun H _=>zA Z Z aL) Z ?_;refine yF Z (zd Z Z Z cd Z Z) Z<|zb hr fun v3 h_v3 hr=>?_;refine yF Z (cq.callV (id:=7) (qs:=[(kB w.B)]) Z Z Z (by kernel_rfl) (CZ h_v3) (fun H=>(.consC zv .nil)) Z) Z ?_;refine yF (F:=[]) (s:=none) Z (fun H _=>aa.build Z GU Z Z Z) Z ?_;refine yF Z (cq.box Z Z Z (id:=8) Z) Z<|zK Z ?_;refine LF.nil ⟨by kernel_rfl,?_⟩;refine zT<|zQ<|zQ<|LW.ent (cz.kill (i:=0) Z)<|LW.ent (cz.kill (i:=1) Z)<|zR<|zM Z<|zN<|zT ?_;obtain⟨v4,hb_v4,ho_v4⟩:=zB hr;clear hr;refine LW.tail (E:=[(8,.ptr 3 0),(9,.ptr 4 0),(10,(bQ false)),(12,.ptr 8 0)]) (O:=[.dead,.dead,.box (cG v_in),.box [.zs,.zs],.box [.zs,.zs],.vec 5 (v4.o5.map av),.vec 4 (v4.o6.map aK),.vec 2 (v4.o7.map aR),.box [(jB 5 v4.o5),(jV 6 v4.o6),(kB v4.x_2),(kV v4.x_3),.vec 2 7 (v4.o7.map aR).length 0 (v4.o7.map aR).length,(bQ v4.x_5)]]) ?_<|fun env_v4 H_v4 hw_v4=>?_
  ·refine LW.block ?_;refine LW.iterB (E:=fun x1:dk=>[(3,(iQ upto)),(6,.ptr 2 0),(8,.ptr 3 0),(9,.ptr 4 0),(10,(bQ false)),(12,.ptr 8 0),(13,(iQ x1.k))]) (O:=fun x1=>[.dead,.dead,.box (cG v_in),.box [.zs,.zs],.box [.zs,.zs],.vec 5 (x1.o5.map av),.vec 4 (x1.o6.map aK),.vec 2 (x1.o7.map aR),.box [(jB 5 x1.o5),(jV 6 x1.o6),(kB x1.x_2),(kV x1.x_3),.vec 2 7 (x1.o7.map aR).length 0 (x1.o7.map aR).length,(bQ x1.x_5)]]) hb_v4 (zW 9 ⟨rfl,rfl,rfl,rfl,rfl,rfl,rfl,trivial⟩ Z Z Z Z)<|fun x1 z_x1 hr hb_x1=>?_;unfold k8 at hr;refine zQ<|zQ<|zR<|zM Z<|yS Z (zA Z Z aL)<|yS Z (zD Z Z Z cd Z Z)<|yS Z (cD Z Z (by kernel_rfl))<|yS Z (zA Z Z aQ)<|yS Z (zD Z Z Z co Z Z)<|yS Z (cD Z Z (by kernel_rfl))<|yS Z (ap Z Z Z Z)<|yS Z (ap Z Z Z Z)<|zN<|zT ?_;refine zX Z (fun g2=>?_)<|fun g2=>?_
   ·refine zi g2 hr fun hr=>zk<|zT<|zQ<|zl<|zQ<|zR<|zM Z<|zM Z<|zb hr fun v5 h_v5 hr=>yS Z (zC Z Z Z (by kernel_rfl) (CY h_v5))<|zM Z<|zN<|zT<|zQ<|zR<|zM Z<|zM Z<|zb hr fun v6 h_v6 hr=>yS Z (zC Z Z Z (by kernel_rfl) (An h_v6))<|zM Z<|zN<|zT<|zQ ?_;refine zR<|zM Z<|yS Z (aa.not Z Z)<|zM Z ?_;refine zc 57 Z (fun g3=>?_)<|fun g3=>?_
    ·refine zi g3 hr fun hr=>yV Z (gd g3 Z) (zm Z Z)<|yV Z (gd g3 Z) (aa.not Z Z)<|yS Z (bx Z (aG g3 Z) Z)<|zN<|zT ?_;refine zX Z (fun g4=>?_)<|fun g4=>?_
     ·refine zi g4 hr fun hr=>zq<|gw (by decide)<|aj<|aj<|zy<|zT ?_;obtain rfl:=zJ hr;have hr:=congrArg some (hb_x1 _ rfl);obtain rfl:=zJ hr;exact zW 9 ⟨Z,Z,Z,Z,trivial⟩ Z Z Z Z
     ·refine zo g4 hr fun hr=>zk<|ai<|zT<|zR<|zM Z<|yS Z (ap Z Z Z Z)<|zM Z<|zN<|zT ?_;obtain rfl:=zJ hr;exact⟨_,rfl,zW 9 ⟨rfl,rfl,rfl,rfl,rfl,rfl,rfl,trivial⟩ Z Z Z rfl⟩
    ·refine zo g3 hr fun hr=>yU Z (gd g3 Z) Z<|yU Z (gd g3 Z) Z<|yS Z (aO Z (aG g3 Z) Z)<|zN<|zT<|LW.condF Z<|zk<|ai<|zT<|zR<|zM Z<|yS Z (ap Z Z Z Z)<|zM Z<|zN<|zT ?_;obtain rfl:=zJ hr;exact⟨_,rfl,zW 9 ⟨rfl,rfl,rfl,rfl,rfl,rfl,rfl,trivial⟩ Z Z Z rfl⟩
   ·refine zo g2 hr fun hr=>zq<|aj<|aj<|zy<|zT ?_;obtain rfl:=zJ hr;have hr:=congrArg some (hb_x1 _ rfl);obtain rfl:=zJ hr;exact zW 9 ⟨Z,Z,Z,Z,trivial⟩ Z Z Z Z
  ·have hr:=ho_v4;clear hb_v4;refine zT<|LW.weak hw_v4<|zQ<|LW.drawW (by kernel_rfl) (by kernel_rfl)<|zK Z ?_;refine yF (F:=[]) (s:=none) Z (fun H _=>zn Z Z) Z ?_;refine yF (F:=[]) (s:=none) Z (fun H _=>zA Z Z eT) Z ?_;refine yF Z (zd Z Z Z aI Z Z) Z<|zK Z ?_;refine yF (F:=[]) (s:=none) Z (fun H _=>zn Z Z) Z ?_;refine yF (F:=[]) (s:=none) Z (fun H _=>zA Z Z ip) Z ?_;refine yF Z (zd Z Z Z aI Z Z) Z<|zK Z ?_;refine yF (F:=[]) (s:=none) Z (fun H _=>zn Z Z) Z ?_;refine yF (F:=[]) (s:=none) Z (fun H _=>zA Z Z rE) Z ?_;refine yF Z (zd Z Z Z uf Z Z) Z<|yF Z (zt Z Z Z Z aI Z Z Z) Z<|yF Z (zt Z Z Z Z aI Z Z Z) Z<|zK Z ?_;refine LF.nil ⟨by kernel_rfl,?_⟩;refine zT<|zr ?_;obtain rfl:=zJ hr;exact zf (.three (.cellAgg Z Z (by kernel_rfl) Z) (.cellAgg Z Z (by kernel_rfl) Z) (.tmp Z))<|⟨_,rfl,(.cons (Conv.agg (.cons (Conv.vecAll Z Z Z) (.cons (Conv.vecAll Z Z Z) .nil))) (.cons zv (.cons zv .nil)))⟩
open Go.Proofs
open Go.Proofs
open Go.Proofs
open Classical in
theorem AW {S R:Type}{step:S→Option (S⊕(S⊕R))}{n:Nat}(mk:Nat→S)(r0:R)(P:Nat→Prop)(hs:∀j,j<n→step (mk j)=some (.inr (.inr r0))∨(step (mk j)=some (.inl (mk (j+1)))∧P j))
  (he:step (mk n)=some (.inr (.inl (mk n)))) (hn:n<4000000000000000000):iter step bg (mk 0)=some (.inr r0)∨(iter step bg (mk 0)=some (.inl (mk n))∧∀j,j<n→P j):=by
 have e:=dt mk (fun j=>if step (mk j)=some (.inl (mk (j+1)))∧P j then none else some r0) (fun j hj=>by
  by_cases h:step (mk j)=some (.inl (mk (j+1)))∧P j
  ·simp only[if_pos h];exact h.1
  ·simp only[if_neg h];exact(hs j hj).resolve_right h) he hn
 rw[e]
 cases h:cB (fun j=>if step (mk j)=some (.inl (mk (j+1)))∧P j then none else some r0) 0 n with
 |none=>
  right;refine⟨rfl,fun j hj=>?_⟩;have:=fw.1 h j (Nat.zero_le _) (by omega);split at this
  ·rename_i h2;exact h2.2
  ·cases this
 |some r=>
  left;obtain⟨j,-,-,h2,-⟩:=eb h;split at h2
  ·cases h2
  ·cases h2;rfl
theorem tv {l:List Vt}(hl:l.length≤100000)(v:Vt):wH l v=some ((l.filter fun y=>decide (y=v)).length:Int):=by
 have e:=aC (step:=l7 l v) (n:=l.length) (fun k=>fg.mk (((l.take k).filter fun y=>decide (y=v)).length:Int) (k:Int)) (fg.mk ((l.filter fun y=>decide (y=v)).length:Int) (l.length:Int)) (fun k hk=>by
  obtain⟨y,hy,-⟩:=ax hk;have hf:=c8 (p:=fun y=>decide (y=v)) (l:=l) k;unfold l7;simp only;rw[decide_eq_true (show(k:Int)<(l.length:Int) by omega),ct,aw hy,ob,E5,qd hy,ah (n:=k) (by omega),ah (n:=_) (by omega)]
  cases decide (y=v)with
  |true=>rw[ct,ct]
  |false=>rw[cf,cf];rfl) (by
  unfold l7;simp only
  rw[decide_eq_false (show¬(l.length:Int)<(l.length:Int) by omega),cf,List.take_length]) (by omega)
 have e':iter (l7 l v) bg (fg.mk 0 0)=some (fg.mk ((l.filter fun y=>decide (y=v)).length:Int) (l.length:Int)):=e;unfold wH;rw[e',ob]
theorem mY {l:List Vt}{v:Vt}:(((l.filter fun y=>decide (y=v)).length:Int)==0)= !decide (v∈l):=by
 by_cases h:v∈l
 ·rw[decide_eq_true h];have:0<(l.filter fun y=>decide (y=v)).length:=List.length_pos_of_mem (List.mem_filter.2 ⟨h,decide_eq_true rfl⟩);rw[beq_eq_false_iff_ne.2 (by omega)];rfl
 ·rw[decide_eq_false h,List.filter_eq_nil_iff.2 fun y hy he=>h (by rw[←of_decide_eq_true he];exact hy)];rfl
theorem ny {a b:Vw}(h1:a.B.length+b.B.length≤90000)(h2:a.V.length+b.V.length≤90000):tu a b=some (dq a b):=by
 have e1:=aC (step:=lW b) (n:=b.B.length) (fun k=>du.mk (k:Int) (cV a.B (b.B.take k))) (du.mk (b.B.length:Int) (cV a.B b.B)) (fun k hk=>by
  obtain⟨y,hy,-⟩:=ax hk;have hlen:=dn (b.B.take k) a.B
  have htl:(b.B.take k).length≤k:=by rw[List.length_take];omega
  rw[aJ hy,iN];generalize cV a.B (b.B.take k)=o at hlen⊢
  have e:=aC (step:=lX b (du.mk (k:Int) o)) (n:=o.length) (fun j=>fc.mk (decide (y∈o.take j)) (j:Int)) (fc.mk (decide (y∈o)) (o.length:Int)) (fun j hj=>by
   obtain⟨z,hz,-⟩:=ax hj;unfold lX;simp only;rw[decide_eq_true (show(j:Int)<(o.length:Int) by omega),ct,ah (n:=j) (by omega),aJ hz];by_cases hm:y∈o.take j
   ·rw[decide_eq_true hm,ct,decide_eq_true (List.mem_append_left _ hm)]
   ·rw[decide_eq_false hm,cf,aw hz,ob,aw hy,ob,E4]
    rw[show decide (y∈o.take j++[z])=decide (z=y)from decide_eq_decide.2 ⟨fun h=>by
     rcases List.mem_append.1 h with h|h
     ·exact absurd h hm
     ·exact(List.mem_singleton.1 h).symm,fun h=>List.mem_append_right _ (List.mem_singleton.2 h.symm)⟩]) (by
   unfold lX;simp only
   rw[decide_eq_false (show¬(o.length:Int)<(o.length:Int) by omega),cf,List.take_length]) (by omega)
  have e':iter (lX b (du.mk (k:Int) o)) bg (fc.mk false 0)=some (fc.mk (decide (y∈o)) (o.length:Int)):=e;unfold lW;simp only;rw[decide_eq_true (show(k:Int)<(b.B.length:Int) by omega),ct,e',ob,ah (n:=k) (by omega)];by_cases hm:y∈o
  ·simp only[decide_eq_true hm,Bool.not_true,cf,if_pos hm]
  ·simp only[decide_eq_false hm,Bool.not_false,ct,if_neg hm]
   rw[aw hy,ob,aM (by simp only[List.length_singleton];omega) (by omega),ct]) (by
  unfold lW;simp only
  rw[decide_eq_false (show¬(b.B.length:Int)<(b.B.length:Int) by omega),cf,List.take_length]) (by omega)
 have e1':iter (lW b) bg (du.mk 0 a.B)=some (du.mk (b.B.length:Int) (cV a.B b.B)):=e1
 have e2:=aC (step:=lY b) (n:=b.V.length) (fun k=>fd.mk (k:Int) (cV a.V (b.V.take k))) (fd.mk (b.V.length:Int) (cV a.V b.V)) (fun k hk=>by
  obtain⟨y,hy,-⟩:=ax hk;have hlen:=dn (b.V.take k) a.V
  have htl:(b.V.take k).length≤k:=by rw[List.length_take];omega
  rw[aJ hy,iN];generalize cV a.V (b.V.take k)=o at hlen⊢;unfold lY;simp only;rw[decide_eq_true (show(k:Int)<(b.V.length:Int) by omega),ct,aw hy,ob,tv (by omega),ob,mY,ah (n:=k) (by omega)];by_cases hm:y∈o
  ·simp only[decide_eq_true hm,Bool.not_true,cf,if_pos hm]
  ·simp only[decide_eq_false hm,Bool.not_false,ct,if_neg hm]
   rw[ob,aM (by simp only[List.length_singleton];omega) (by omega),ct]) (by
  unfold lY;simp only
  rw[decide_eq_false (show¬(b.V.length:Int)<(b.V.length:Int) by omega),cf,List.take_length]) (by omega)
 have e2':iter (lY b) bg (fd.mk 0 a.V)=some (fd.mk (b.V.length:Int) (cV a.V b.V)):=e2;unfold tu;rw[aM (by omega) (by omega),ct,aM (by omega) (by omega),ct,e1',ob,e2',ob];rfl
theorem rh {S R:Type}{step:S→Option (S⊕(S⊕R))}{n:Nat}(mk:Nat→S)(r0:R)(g:Nat→Bool)(hs:∀j,j<n→step (mk j)=bif g j then some (.inl (mk (j+1)))else some (.inr (.inr r0)))
  (he:step (mk n)=some (.inr (.inl (mk n)))) (hn:n<4000000000000000000):(iter step bg (mk 0)=some (.inl (mk n))∧∀j,j<n→g j=true)∨(iter step bg (mk 0)=some (.inr r0)∧∃j,j<n∧g j=false):=by
 have e:=dt mk (fun j=>bif g j then none else some r0) (fun j hj=>by
  rw[hs j hj]
  cases g j <;>rfl) he hn
 cases h:cB (fun j=>bif g j then none else some r0) 0 n with
 |none=>
  rw[h]at e;refine .inl ⟨e,fun j hj=>?_⟩;have:=fw.1 h j (Nat.zero_le _) (by omega)
  cases hg:g j with
  |true=>rfl
  |false=>rw[hg]at this;cases this
 | some r=>
  rw[h]at e;obtain⟨j,-,hj,hf,-⟩:=eb h
  have hgj:g j=false:=by
   cases hg:g j with
   |true=>rw[hg]at hf;cases hf
   |false=>rfl
  rw[hgj]at hf;exact .inr ⟨by rw[e,←Option.some.inj hf];rfl,j,by omega,hgj⟩
theorem yI (a:ID):((a.1==0)&&((a.2==0)&&true))=decide (a=(0,0)):=n7 a (0,0)
theorem ov {c:Cf}{b:Bk}(h:mayB c b=true):0<b.Slot:=by
 have h1:=(of_decide_eq_true h).1;unfold pE at h1;split at h1
 ·rename_i h2;exact h2.2.1
 ·omega
theorem Dn {c:Cf}{v:Vt}(h:mayV c v=true):0<v.Slot:=by
 have h1:=of_decide_eq_true h;unfold nq at h1;split at h1
 ·rename_i h2;exact h2.2.1
 ·cases h1
section
variable {c : Cf} (hW : c.W.length ≤ 1000)
include hW
theorem uU {b:Bk}(hb:nt b):sI c b=some (mayB c b):=by
 unfold sI mayB;rw[wL hW,ob];by_cases h1:0≤pE c b.Slot
 ·rw[decide_eq_true (show pE c b.Slot≥0 from h1),ct];by_cases h2:pE c b.Slot=b.From
  ·rw[beq_iff_eq.2 h2,ct,tw hb,ob,yI];by_cases h3:nm b=(0,0)
   ·rw[decide_eq_true h3,decide_eq_false fun h=>h.2.2 h3];rfl
   ·rw[decide_eq_false h3,decide_eq_true ⟨h1,h2,h3⟩];rfl
  ·rw[GO h2,cf,decide_eq_false fun h=>h2 h.2.1]
 ·rw[decide_eq_false (show¬pE c b.Slot≥0 from h1),cf,decide_eq_false fun h=>h1 h.1]
theorem uV (v:Vt):sJ c v=some (mayV c v):=by
 unfold sJ mayV;rw[Cp hW,ob]
theorem uJ {w:Vw}(hb:gX w.B)(h1:w.B.length≤90000)(h2:w.V.length≤90000):sF c w=some (bh c w):=by
 have e1:=aC (step:=ju c w) (n:=w.B.length) (fun k=>d6.mk (k:Int) ((w.B.take k).filter (mayB c))) (d6.mk (w.B.length:Int) (w.B.filter (mayB c))) (fun k hk=>by
  obtain⟨y,hy,hm⟩:=ax hk;have hlen:=c8 (p:=mayB c) (l:=w.B) k;unfold ju;simp only;rw[decide_eq_true (show(k:Int)<(w.B.length:Int) by omega),ct,aw hy,ob,uU hW (hb y hm),ob,ck hy,ah (n:=k) (by omega)]
  cases mayB c y with
  |true=>rw[ct,ob,aM (by simp only[List.length_singleton];omega) (by omega),ct,ct]
  |false=>rw[cf,cf,List.append_nil]) (by
  unfold ju;simp only
  rw[decide_eq_false (show¬(w.B.length:Int)<(w.B.length:Int) by omega),cf,List.take_length]) (by omega)
 have e2:=aC (step:=jv c w) (n:=w.V.length) (fun k=>d7.mk (k:Int) ((w.V.take k).filter (mayV c))) (d7.mk (w.V.length:Int) (w.V.filter (mayV c))) (fun k hk=>by
  obtain⟨y,hy,hm⟩:=ax hk;have hlen:=c8 (p:=mayV c) (l:=w.V) k;unfold jv;simp only;rw[decide_eq_true (show(k:Int)<(w.V.length:Int) by omega),ct,aw hy,ob,uV hW,ob,ck hy,ah (n:=k) (by omega)]
  cases mayV c y with
  |true=>rw[ct,ob,aM (by simp only[List.length_singleton];omega) (by omega),ct,ct]
  |false=>rw[cf,cf,List.append_nil]) (by
  unfold jv;simp only
  rw[decide_eq_false (show¬(w.V.length:Int)<(w.V.length:Int) by omega),cf,List.take_length]) (by omega)
 have e1':iter (ju c w) bg (d6.mk 0 [])=_:=e1;have e2':iter (jv c w) bg (d7.mk 0 [])=_:=e2;unfold sF;rw[e1',ob,e2',ob];rfl
end
theorem u9 {names:List ID}{id:ID}(hl:names.length≤4000):sL names id=some (an names id):=by
 have key:=bf (step:=jC names id) (fun x=>∃n:Nat,x.i=n∧n≤names.length∧∀j,j<n→names[j]?≠some id)
  (fun x=>names.length-x.i.toNat) (fun b=>(∃v,b=.inl v∧an names id= -1)∨∃r,b=.inr r∧an names id=r) (by
   rintro⟨i⟩ ⟨n,rfl,hn,hno⟩;simp only;by_cases hlt:n<names.length
   case neg=>
    right;refine⟨.inl ⟨n⟩,?_,.inl ⟨_,rfl,gO fun j hj=>hno j (by omega)⟩⟩;simp only[jC];rw[decide_eq_false (by omega)];rfl
   obtain⟨y,hy,-⟩:=ax hlt;by_cases he:y=id
   ·right;refine⟨.inr n,?_,.inr ⟨_,rfl,iu (he▸hy) hno⟩⟩;simp only[jC];rw[decide_eq_true (show(n:Int)<(names.length:Int) by omega),aw hy];simp[yo,he]
   ·left;refine⟨⟨IntKind.i64.wrap (n+1)⟩,?_,⟨n+1,ah (n:=n) (by omega),by omega,fun j hj=>?_⟩,?_⟩
    ·simp only[jC];rw[decide_eq_true (show(n:Int)<(names.length:Int) by omega),aw hy];simp[yo,he]
    ·rcases Nat.lt_succ_iff_lt_or_eq.1 hj with h|h
     ·exact hno j h
     ·subst h;rw[hy];simpa using he
    ·simp only[ah (show n<4000000000 by omega)];omega) (x:=⟨0⟩) ⟨0,rfl,Nat.zero_le _,fun j hj=>by omega⟩ (n:=bg) (bO (by simp only;omega))
 obtain⟨b,hb,hpost⟩:=key;simp only[sL,hb,ob];rcases hpost with⟨v,rfl,h⟩|⟨r,rfl,h⟩
 ·simp[h]
 ·simp[h]
def mB (B:List Bk)(id:ID):Int:=(br B id).getD (-1)
theorem yP {B:List Bk}{id:ID}:(an (B.map nm) id<0∧B.find? (fun b=>decide (nm b=id))=none)∨∃(i:Nat) (b:Bk),an (B.map nm) id=i∧B[i]?=some b∧B.find? (fun b=>decide (nm b=id))=some b:=by
 rcases ec (l:=B.map nm) (v:=id)with⟨h1,h2⟩|⟨i,h1,h2,h3⟩
 ·refine .inl ⟨by omega,?_⟩;rw[List.find?_eq_none];intro b hb e;exact h2<|List.mem_map.2 ⟨b,hb,of_decide_eq_true e⟩
 ·rw[List.getElem?_map]at h2
  cases hb:B[i]? with
  |none=>rw[hb]at h2;cases h2
  |some b=>
   rw[hb]at h2;refine .inr ⟨i,b,h1,hb,yq hb (decide_eq_true (Option.some.inj h2)) fun j z hj hz=>decide_eq_false fun e=>h3 j hj ?_⟩;rw[List.getElem?_map,hz,←e];rfl
theorem qQ {B:List Bk}(hl:B.length≤1000)(id:ID):qP B (B.map nm) id=some (mB B id):=by
 unfold qP mB br;rw[yI];by_cases h0:id=(0,0)
 ·rw[decide_eq_true h0,ct,if_pos h0];rfl
 ·rw[decide_eq_false h0,cf,if_neg h0,u9 (by rw[List.length_map];omega),ob];rcases yP (B:=B) (id:=id)with⟨h1,h2⟩|⟨i,b,h1,h2,h3⟩
  ·rw[decide_eq_true h1,ct,h2];rfl
  ·rw[h1,decide_eq_false (by omega),cf,aw h2,ob,h3];rfl
theorem iG {B:List Bk}{id:ID}{s:Int}(h:br B id=some s):mB B id=s:=by unfold mB;rw[h];rfl
theorem iF {B:List Bk}{id:ID}(h:br B id=none):mB B id= -1:=by unfold mB;rw[h];rfl
theorem pM {B:List Bk}(hp:∀b∈B,0<b.Slot){id:ID}{s:Int}(h:br B id=some s):0≤s:=by
 rcases A0 h with⟨-,rfl⟩|⟨-,b,hb,-,rfl⟩
 ·omega
 ·have:=hp b hb;omega
theorem rP {α:Type}{l:List α}:(∀(j:Nat) y,l[j]?=some y→y∉l.take j)↔l.Nodup:=by
 constructor
 ·intro h;rw[List.nodup_iff_pairwise_ne,List.pairwise_iff_getElem];intro i j hi hj hij e;refine h j _ (List.getElem?_eq_getElem hj) ?_;refine List.mem_of_getElem? (i:=i) ?_;rw[List.getElem?_take_of_lt hij,List.getElem?_eq_getElem hi,e]
 ·intro h j y hy hm;obtain⟨i,hi⟩:=List.getElem?_of_mem hm;have hil:=(List.getElem?_eq_some_iff.1 hi).1;rw[List.length_take]at hil;rw[List.getElem?_take_of_lt (by omega)]at hi;have:=(List.getElem?_inj (by omega) h).1 (hi.trans hy.symm);omega
theorem xU {l:List Bk}(hl:l.length≤1000):uu l (l.map nm)=some (places l).isSome:=by
 unfold uu;rw[wN hl,ob]
open Classical in
theorem Ch {c:Cf}(hW:c.W.length≤1000){w:Vw}(hb:gX w.B)(h1:w.B.length≤1000)(h2:w.V.length≤1000):u5 c w=some (decide (nS c w)):=by
 unfold u5;rw[tA hb h1,ob,xU h1,ob,qT hW,ob];by_cases k1:dy w.B
 case neg=>
  rw[show(places w.B).isSome=false by cases h:(places w.B).isSome with|false=>rfl|true=>exact absurd h k1,Bool.not_false,ct,ob,ct,decide_eq_false fun h=>k1 h.valid]
 rw[show(places w.B).isSome=true from k1,Bool.not_true,cf];by_cases k2:dw c
 case neg=>rw[decide_eq_false k2,Bool.not_false,ct,ob,ct,decide_eq_false fun h=>k2 h.conf]
 rw[decide_eq_true k2,Bool.not_true,cf];by_cases k3:w.B.length≤60
 case neg=>rw[decide_eq_true (show(w.B.length:Int)>60 by omega),ct,ob,ct,decide_eq_false fun h=>k3 h.lenB]
 rw[decide_eq_false (show¬(w.B.length:Int)>60 by omega),cf];by_cases k4:w.V.length≤240
 case neg=>rw[decide_eq_true (show(w.V.length:Int)>240 by omega),ob,ct,decide_eq_false fun h=>k4 h.lenV]
 rw[decide_eq_false (show¬(w.V.length:Int)>240 by omega),ob,cf]
 have e1:=rh (step:=hU c w) (n:=w.B.length) (fun j=>d9.mk (j:Int)) false (fun j=>(w.B[j]?).all (mayB c)) (fun j hj=>by
  obtain⟨y,hy,hm⟩:=ax hj;unfold hU;simp only;rw[decide_eq_true (show(j:Int)<(w.B.length:Int) by omega),ct,aw hy,ob,uU hW (hb y hm),ob,hy,ah (n:=j) (by omega)];simp only[Option.all_some]
  cases mayB c y <;>rfl) (by
  unfold hU;simp only
  rw[decide_eq_false (show¬(w.B.length:Int)<(w.B.length:Int) by omega),cf]) (by omega)
 have e1':(iter (hU c w) bg (d9.mk 0)=some (.inl (d9.mk (w.B.length:Int)))∧∀j,j<w.B.length→(w.B[j]?).all (mayB c)=true)∨(iter (hU c w) bg (d9.mk 0)=some (.inr false)∧∃j,j<w.B.length∧(w.B[j]?).all (mayB c)=false):=e1;rcases e1' with⟨e1,k5⟩|⟨e1,j,hj,k5⟩
 case inr=>
  obtain⟨y,hy,hm⟩:=ax hj;rw[hy]at k5;rw[e1,ob,decide_eq_false fun h=>by have:=h.mayB y hm;simp only[Option.all_some]at k5;rw[this]at k5;cases k5];rfl
 have hmay:∀b∈w.B,mayB c b=true:=fun b hm=>by
  obtain⟨j,hj⟩:=List.getElem?_of_mem hm;have:=k5 j (List.getElem?_eq_some_iff.1 hj).1;rw[hj]at this;exact this
 rw[e1,ob];show((iter (gr c w (w.B.map nm)) bg (dM.mk 0)).bind _)=_
 have e2:=rh (step:=gr c w (w.B.map nm)) (n:=w.V.length) (fun j=>dM.mk (j:Int)) false (fun j=>(w.V[j]?).all fun v=>decide (mayV c v=true∧forB w.B v∧v∉w.V.take j)) (fun j hj=>by
  obtain⟨y,hy,hm⟩:=ax hj;unfold gr;simp only;rw[decide_eq_true (show(j:Int)<(w.V.length:Int) by omega),ct,aw hy,ob,qQ h1,ob,ob,uV hW,ob,hy,ah (n:=j) (by omega)];simp only[Option.all_some]
  cases m1:mayV c y with
  |false=>rw[Bool.not_false,ct,decide_eq_false fun h=>by cases h.1];rfl
  | true=>
   rw[Bool.not_true,cf]
   cases hq:br w.B y.Head with
   |none=>
    rw[iF hq,decide_eq_true (show(-1:Int)<0 by omega),ct,decide_eq_false]
    ·rfl
    ·rintro⟨-,⟨s,h3,-⟩,-⟩;rw[hq]at h3;cases h3
   | some s=>
    have hs:=pM (fun b hb=>ov (hmay b hb)) hq;rw[iG hq,decide_eq_false (show¬s<0 by omega),cf,ob];by_cases h4:s>y.Slot
    ·rw[decide_eq_true h4,ct,decide_eq_false]
     ·rfl
     ·rintro⟨-,⟨s',h3,h5⟩,-⟩;rw[hq]at h3;have:=Option.some.inj h3;omega
    ·rw[decide_eq_false h4,cf,show yJ w.V 0 (j:Int)=true from decide_eq_true (by omega),ct,ob,Int.toNat_natCast,tv (by rw[List.length_take];omega),ob];have hz:=mY (l:=w.V.take j) (v:=y);generalize ((w.V.take j).filter fun x=>decide (x=y)).length=n at hz⊢;by_cases h6:y∈w.V.take j
     ·rw[decide_eq_true h6]at hz;rw[decide_eq_true (show(n:Int)>0 by have:=(beq_eq_false_iff_ne.1 hz);omega),ct,decide_eq_false fun h=>h.2.2 h6];rfl
     ·rw[decide_eq_false h6]at hz
      rw[decide_eq_false (show¬(n:Int)>0 by have:=(beq_iff_eq.1 hz);omega),cf,decide_eq_true ⟨rfl,⟨s,hq,by omega⟩,h6⟩];rfl) (by
  unfold gr;simp only
  rw[decide_eq_false (show¬(w.V.length:Int)<(w.V.length:Int) by omega),cf]) (by omega)
 have e2':(iter (gr c w (w.B.map nm)) bg (dM.mk 0)=some (.inl (dM.mk (w.V.length:Int)))∧∀j,j<w.V.length→((w.V[j]?).all fun v=>decide (mayV c v=true∧forB w.B v∧v∉w.V.take j))=true)∨(iter (gr c w (w.B.map nm)) bg (dM.mk 0)=some (.inr false)∧∃j,j<w.V.length∧((w.V[j]?).all fun v=>decide (mayV c v=true∧forB w.B v∧v∉w.V.take j))=false):=e2;rcases e2' with⟨e2,k6⟩|⟨e2,j,hj,k6⟩
 ·have hat:∀(j:Nat) v,w.V[j]?=some v→mayV c v=true∧forB w.B v∧v∉w.V.take j:=fun j v hv=>by
   have:=k6 j (List.getElem?_eq_some_iff.1 hv).1;rw[hv]at this;exact of_decide_eq_true this
  rw[e2,ob,decide_eq_true]
  ·rfl
  ·refine⟨k2,k1,k3,k4,hmay,fun v hv=>?_,rP.1 fun j y hy=>(hat j y hy).2.2,fun v hv=>?_⟩
   ·obtain⟨j,hj⟩:=List.getElem?_of_mem hv;exact(hat j v hj).1
   ·obtain⟨j,hj⟩:=List.getElem?_of_mem hv;exact(hat j v hj).2.1
 ·obtain⟨y,hy,hm⟩:=ax hj;rw[hy]at k6;rw[e2,ob,decide_eq_false fun h=>(of_decide_eq_false k6) ⟨h.mayV y hm,h.forB y hm,rP.2 h.nodup j y hy⟩];rfl
theorem vZ {upto:Int}{B l:List Bk}{f:Bool}:∀x∈(aN upto B f l).2.1,x∈B∨x∈l:=
 gU (step:=bE upto) (l:=l) (B:=B) (f:=f) (Q:=fun C _=>∀x∈C,x∈B∨x∈l) (fun C f b hb h x hx=>by
  rcases fY upto C f b with⟨-,e⟩|⟨-,-,e⟩|⟨-,-,-,e⟩|⟨-,-,-,e⟩ <;>rw[e]at hx
  ·exact h x hx
  ·exact h x hx
  ·exact(List.mem_append.1 hx).elim (h x) fun h2=>.inr<|List.mem_singleton.1 h2▸hb
  ·exact h x hx) fun x hx=>.inl hx
theorem Aw {c:Cf}{B:List Bk}{y:Bk}(hy:mayB c y=true):(bif decide (an (B.map nm) (nm y)≥0)then some true else some (decide (mB B y.Parent≥y.Slot)))=some (cP B y):=by
 have h0:=(of_decide_eq_true hy).2.2;have hp:=ov hy;unfold cP
 have h1:(br B (nm y)).isSome=decide (an (B.map nm) (nm y)≥0):=by
  unfold br;rw[if_neg h0];rcases yP (B:=B) (id:=nm y)with⟨h1,h2⟩|⟨i,b,h1,h2,h3⟩
  ·rw[h2,decide_eq_false (by omega)];rfl
  ·rw[h3,decide_eq_true (by omega)];rfl
 rw[h1]
 cases decide (an (B.map nm) (nm y)≥0)with
 |true=>rw[ct,Bool.true_or]
 |false=>
  rw[cf,Bool.false_or]
  cases hq:br B y.Parent with
  |none=>rw[iF hq,decide_eq_false (by omega)]
  |some s=>rw[iG hq]
theorem pq {B:List Bk}(hB:∀b∈B,0<b.Slot){upto:Int}(y:Bk):(bif decide (mB B y.Parent<0)then some true else some (decide (y.Slot>upto)))=some (eX B upto y):=by
 unfold eX
 cases hq:br B y.Parent with
 |none=>rw[iF hq,decide_eq_true (by omega),ct]
 |some q=>
  have:=pM hB hq;rw[iG hq,decide_eq_false (by omega),cf]
theorem m7 {B:List Bk}(hB:∀b∈B,0<b.Slot){upto:Int}(y:Vt):(bif decide (mB B y.Head<0)then some true else some (decide (y.Slot>upto)))=some (fJ B upto y):=by
 unfold fJ
 cases hq:br B y.Head with
 |none=>rw[iF hq,decide_eq_true (by omega),ct]
 |some q=>
  have:=pM hB hq;rw[iG hq,decide_eq_false (by omega),cf]
theorem wO {c:Cf}{upto:Int}{wB lB:List Bk}{full:Bool}(hw:∀b∈wB,mayB c b=true)(hl:∀b∈lB,mayB c b=true)(hk:gX lB)(h1:wB.length≤60)(h2:lB.length≤999) :
  nQ upto wB lB (wB.map nm) full=some (decide (wB.length<(aN upto wB full lB).2.1.length),(aN upto wB full lB).1,(aN upto wB full lB).2.1,(aN upto wB full lB).2.1.map nm,(aN upto wB full lB).2.2):=by
 have e:=aC (step:=fU upto lB) (n:=lB.length) (fun j=>cA.mk (decide (wB.length<(aN upto wB full (lB.take j)).2.1.length)) (j:Int) (aN upto wB full (lB.take j)).2.1 ((aN upto wB full (lB.take j)).2.1.map nm) (aN upto wB full (lB.take j)).2.2 (aN upto wB full (lB.take j)).1)
  (cA.mk (decide (wB.length<(aN upto wB full lB).2.1.length)) (lB.length:Int) (aN upto wB full lB).2.1 ((aN upto wB full lB).2.1.map nm) (aN upto wB full lB).2.2 (aN upto wB full lB).1) (fun j hj=>by
  obtain⟨y,hy,hm⟩:=ax hj;have hmy:=hl y hm;have hmem:=vZ (upto:=upto) (B:=wB) (l:=lB.take j) (f:=full);have hgr:=(dD (iI upto) (lB.take j) wB full).1;have hrm:=ne (upto:=upto) (l:=lB.take j) (f:=full) h1;have hln:=jT (step:=bE upto) (lB.take j) wB full;have hsn:=fk (step:=bE upto) y (lB.take j) wB full;rw[List.length_take]at hln;unfold fU;simp only;rw[aJ hy];unfold aN at hmem hrm⊢;rw[hsn];generalize bC (bE upto) wB full (lB.take j)=p at hmem hgr hrm hln⊢;have hpos:∀b∈p.2.1,0<b.Slot:=fun b hb=>(hmem b hb).elim (fun h=>ov (hw b h)) fun h=>ov (hl b (List.mem_of_mem_take h));rw[decide_eq_true (show(j:Int)<(lB.length:Int) by omega),ct,aw hy,ob,tw (hk y hm),ob,qQ (by omega),ob,u9 (by rw[List.length_map];omega),ob,Aw hmy,ob,ah (n:=j) (by omega)];rcases fY upto p.2.1 p.2.2 y with⟨g,e⟩|⟨g,g2,e⟩|⟨g,g2,g3,e⟩|⟨g,g2,g3,e⟩ <;>rw[e,g]
  ·rw[ct];rfl
  ·rw[cf,pq hpos,ob,g2,ct,aM (by simp only[List.length_singleton];omega) (by omega),ct];rfl
  ·rw[cf,pq hpos,ob,g2,cf,decide_eq_false (show¬(p.2.1.length:Int)≥60 by omega),cf,aM (by simp only[List.length_singleton];omega) (by omega),ct,aM (by rw[List.length_map];simp only[List.length_singleton];omega) (by omega),ct];have:decide (wB.length<(p.2.1++[y]).length)=true:=decide_eq_true (by simp only[List.length_append,List.length_singleton];omega);simp only[this,List.map_append,List.map_cons,List.map_nil,if_true]
  ·rw[cf,pq hpos,ob,g2,cf,decide_eq_true (show(p.2.1.length:Int)≥60 by omega),ct,aM (by simp only[List.length_singleton];omega) (by omega),ct];rfl) (by
  unfold fU;simp only
  rw[decide_eq_false (show¬(lB.length:Int)<(lB.length:Int) by omega),cf,List.take_length]) (by omega)
 have e':iter (fU upto lB) bg (cA.mk (decide (wB.length<wB.length)) 0 wB (wB.map nm) full [])=_:=e;rw[decide_eq_false (by omega)]at e';unfold nQ;rw[e',ob]
theorem xd {B:List Bk}{V:List Vt}{y:Vt}(hy:0<y.Slot):(bif decide (((V.filter fun x=>decide (x=y)).length:Int)>0)then some true else some (decide (mB B y.Head>y.Slot)))=some (cY B V y):=by
 unfold cY;have hz:=mY (l:=V) (v:=y)
 have h1:decide (((V.filter fun x=>decide (x=y)).length:Int)>0)=decide (y∈V):=by
  generalize (V.filter fun x=>decide (x=y)).length=n at hz⊢;by_cases h:y∈V
  ·rw[decide_eq_true h]at hz⊢;exact decide_eq_true (by have:=beq_eq_false_iff_ne.1 hz;omega)
  ·rw[decide_eq_false h]at hz⊢;exact decide_eq_false (by have:=beq_iff_eq.1 hz;omega)
 rw[h1]
 cases decide (y∈V)with
 |true=>rw[ct,Bool.true_or]
 |false=>
  rw[cf,Bool.false_or]
  cases hq:br B y.Head with
  |none=>rw[iF hq,decide_eq_false (by omega)]
  |some s=>rw[iG hq]
theorem vd {c:Cf}{upto:Int}{wB:List Bk}{wV lV:List Vt}{full:Bool}(hB:∀b∈wB,0<b.Slot)(hl:∀v∈lV,mayV c v=true)(h1:wB.length≤60)(h2:wV.length≤240)(h3:lV.length≤999) :
  lf upto wB wV lV (wB.map nm) full=some (decide (wV.length<(bv upto wB wV full lV).2.1.length),(bv upto wB wV full lV).1,(bv upto wB wV full lV).2.1,(bv upto wB wV full lV).2.2):=by
 have e:=aC (step:=fp upto wB lV (wB.map nm)) (n:=lV.length) (fun j=>cj.mk (decide (wV.length<(bv upto wB wV full (lV.take j)).2.1.length)) (j:Int) (bv upto wB wV full (lV.take j)).2.1 (bv upto wB wV full (lV.take j)).2.2 (bv upto wB wV full (lV.take j)).1)
  (cj.mk (decide (wV.length<(bv upto wB wV full lV).2.1.length)) (lV.length:Int) (bv upto wB wV full lV).2.1 (bv upto wB wV full lV).2.2 (bv upto wB wV full lV).1) (fun j hj=>by
  obtain⟨y,hy,hm⟩:=ax hj;have hmy:=Dn (hl y hm);have hgr:=(dD (iK upto wB) (lV.take j) wV full).1;have hrm:=rV (upto:=upto) (BB:=wB) (l:=lV.take j) (f:=full) h2;have hln:=jT (step:=bF upto wB) (lV.take j) wV full;have hsn:=fk (step:=bF upto wB) y (lV.take j) wV full;rw[List.length_take]at hln;unfold fp;simp only;rw[aJ hy];unfold bv at hrm⊢;rw[hsn];generalize bC (bF upto wB) wV full (lV.take j)=p at hgr hrm hln⊢;rw[decide_eq_true (show(j:Int)<(lV.length:Int) by omega),ct,aw hy,ob,qQ (by omega),ob,tv (by omega),ob,xd hmy,ob,ah (n:=j) (by omega)];rcases iL upto wB p.2.1 p.2.2 y with⟨g,e⟩|⟨g,g2,e⟩|⟨g,g2,g3,e⟩|⟨g,g2,g3,e⟩ <;>rw[e,g]
  ·rw[ct];rfl
  ·rw[cf,m7 hB,ob,g2,ct,aM (by simp only[List.length_singleton];omega) (by omega),ct];rfl
  ·rw[cf,m7 hB,ob,g2,cf,decide_eq_false (show¬(p.2.1.length:Int)≥240 by omega),cf,aM (by simp only[List.length_singleton];omega) (by omega),ct];have:decide (wV.length<(p.2.1++[y]).length)=true:=decide_eq_true (by simp only[List.length_append,List.length_singleton];omega);simp only[this,if_true]
  ·rw[cf,m7 hB,ob,g2,cf,decide_eq_true (show(p.2.1.length:Int)≥240 by omega),ct,aM (by simp only[List.length_singleton];omega) (by omega),ct];rfl) (by
  unfold fp;simp only
  rw[decide_eq_false (show¬(lV.length:Int)<(lV.length:Int) by omega),cf,List.take_length]) (by omega)
 have e':iter (fp upto wB lV (wB.map nm)) bg (cj.mk (decide (wV.length<wV.length)) 0 wV full [])=_:=e;rw[decide_eq_false (by omega)]at e';unfold lf;rw[e',ob]
theorem lE {α:Type}{step:List α→Bool→α→Bool×List α×Bool}(h:∀B f b,(step B f b).2.1.length+(if (step B f b).1 then 0 else 1)≤B.length+1):∀(l B:List α) (f:Bool),(bC step B f l).1.length+(bC step B f l).2.1.length≤l.length+B.length
 |[],B,f=>by simp[bC]
 |x::r,B,f=>by
  have h1:=h B f x;have h2:=lE h r (step B f x).2.1 (step B f x).2.2;simp only[bC,List.length_cons];split
  ·rename_i h3;rw[if_pos h3]at h1;omega
  ·rename_i h3;rw[if_neg h3]at h1;simp only[List.length_cons];omega
theorem wk (upto:Int)(s:pW):(bK upto s).lB.length+(bK upto s).lV.length+b9 (bK upto s)≤s.lB.length+s.lV.length+b9 s:=by
 have h1:=lE (step:=bE upto) (fun B f b=>by
  rcases fY upto B f b with⟨-,e⟩|⟨-,-,e⟩|⟨-,-,-,e⟩|⟨-,-,-,e⟩ <;>rw[e] <;>simp) s.lB s.B s.full
 have h2:=lE (step:=bF upto (aN upto s.B s.full s.lB).2.1) (fun B f b=>by
  rcases iL upto (aN upto s.B s.full s.lB).2.1 B f b with⟨-,e⟩|⟨-,-,e⟩|⟨-,-,-,e⟩|⟨-,-,-,e⟩ <;>rw[e] <;>simp) s.lV s.V (aN upto s.B s.full s.lB).2.2
 unfold bK b9;simp only;unfold aN bv at *;omega
theorem wa {upto:Int}{B l:List Bk}{f:Bool}:∀x∈(aN upto B f l).1,x∈l:=fun x hx=>(jU (step:=bE upto) l B f).subset hx
theorem AN {upto:Int}{BB:List Bk}{V l:List Vt}{f:Bool}:∀x∈(bv upto BB V f l).1,x∈l:=fun x hx=>(jU (step:=bF upto BB) l V f).subset hx
structure yc (c:Cf)(L:Nat)(s:pW)(k:Nat):Prop where
 B:∀b∈s.B,mayB c b=true
 lB:∀b∈s.lB,mayB c b=true
 ok:gX s.lB
 lV:∀v∈s.lV,mayV c v=true
 bel:mE s
 len:k+s.lB.length+s.lV.length≤L
def HY (s:pW)(k:Nat):dk:=dk.mk (k:Int) s.B s.V (s.B.map nm) s.lB s.lV s.full
theorem Cd {c:Cf}(hW:c.W.length≤1000){w i:Vw}(hb:gX w.B)(hi:gX i.B)(h1:w.B.length≤1000)(h2:w.V.length≤1000)(h3:i.B.length+i.V.length≤999)(upto:Int):uY c w i upto=some (aF c w i upto):=by
 classical
 unfold uY aF;rw[Ch hW hb h1 h2,ob];by_cases hm:nS c w
 case neg=>rw[decide_eq_false hm,Bool.not_false,ct,if_neg hm]
 have ho:=lC c i
 have hN:nR w.B=some (w.B.map nm):=by
  have e:=aC (step:=fV w.B) (n:=w.B.length) (fun k=>df.mk (k:Int) ((w.B.take k).map nm)) (df.mk (w.B.length:Int) (w.B.map nm)) (fun k hk=>by
   obtain⟨y,hy,hmm⟩:=ax hk;unfold fV;simp only;rw[decide_eq_true (show(k:Int)<(w.B.length:Int) by omega),ct,aw hy,ob,tw (hb y hmm),ob,aM (by rw[List.length_map,List.length_take];simp only[List.length_singleton];omega) (by omega),ct,aJ hy,List.map_append,ah (n:=k) (by omega)]
   rfl) (by
   unfold fV;simp only
   rw[decide_eq_false (show¬(w.B.length:Int)<(w.B.length:Int) by omega),cf,List.take_length]) (by omega)
  have e':iter (fV w.B) bg (df.mk 0 [])=_:=e;unfold nR;rw[e',ob]
 rw[decide_eq_true hm,Bool.not_true,cf,if_pos hm,aM (by omega) (by omega),ct,aM (by omega) (by omega),ct,uJ hW hi (by omega) (by omega),ob,hN,ob];obtain⟨s0,hs0⟩:∃s0:pW,s0=⟨w.B,w.V,false,(bh c i).B,(bh c i).V⟩:=⟨_,rfl⟩;obtain⟨L,hL⟩:∃L,L=i.B.length+i.V.length:=⟨_,rfl⟩
 have hg0:yc c L s0 0:=by
  rw[hs0];exact⟨hm.mayB,fun b hb=>(List.mem_filter.1 hb).2,fun b hb=>hi b (List.mem_filter.1 hb).1,fun v hv=>(List.mem_filter.1 hv).2,⟨hm.lenB,hm.lenV⟩,by show 0+(bh c i).B.length+(bh c i).V.length≤L;omega⟩
 obtain⟨x,hx,k,hxe⟩:=bf (step:=k8 i upto) (fun x=>∃(s:pW) (k:Nat),x=HY s k∧yc c L s k∧mC upto (1000-k) s=j5 upto s0) (fun x=>(1001-x.k).toNat) (fun x=>∃k:Nat,x=HY (j5 upto s0) k) (by
  rintro x ⟨s,k,rfl,hg,hT⟩;obtain⟨g1,g2,g3,g4,g5,g6⟩:=hg;have hr:=i8 upto s;have hc:=wk upto s;have hlf:=p6 upto s;have hrB:=vZ (upto:=upto) (B:=s.B) (l:=s.lB) (f:=s.full);have hrm:=ne (upto:=upto) (l:=s.lB) (f:=s.full) g5.1;have hB':∀b∈(bK upto s).B,mayB c b=true:=fun b hb=>(hrB b hb).elim (g1 b) (g2 b);have eB:=wO (c:=c) (upto:=upto) (full:=s.full) g1 g2 g3 g5.1 (by omega);have eV:=vd (c:=c) (upto:=upto) (wB:=(aN upto s.B s.full s.lB).2.1) (wV:=s.V) (lV:=s.lV) (full:=(aN upto s.B s.full s.lB).2.2) (fun b hb=>ov (hB' b hb)) g4 hrm g5.2 (by omega)
  have hgood:b9 (bK upto s)≠b9 s→yc c L (bK upto s) (k+1):=fun hne=>by
   refine⟨hB',fun b hb=>g2 b (wa b hb),fun b hb=>g3 b (wa b hb),fun v hv=>g4 v (AN v hv),oI g5,?_⟩;unfold b9 at hne hc;omega
  unfold k8 HY;simp only;rw[decide_eq_true (show(k:Int)≤IntKind.i64.wrap ((i.B.length:Int)+(i.V.length:Int)) by rw[cJ (by omega) (by omega)];omega),ct,eB,ob,eV,ob];simp only;rw[ah (n:=k) (by omega)]
  have hfin:(1000-k)=(999-k)+1:=by omega
  rw[hfin]at hT;unfold mC at hT
  have hgo:b9 (bK upto s)≠b9 s→(∃s' k',dk.mk ((k+1:Nat):Int) (aN upto s.B s.full s.lB).2.1 (bv upto (aN upto s.B s.full s.lB).2.1 s.V (aN upto s.B s.full s.lB).2.2 s.lV).2.1 ((aN upto s.B s.full s.lB).2.1.map nm) (aN upto s.B s.full s.lB).1 (bv upto (aN upto s.B s.full s.lB).2.1 s.V (aN upto s.B s.full s.lB).2.2 s.lV).1 (bv upto (aN upto s.B s.full s.lB).2.1 s.V (aN upto s.B s.full s.lB).2.2 s.lV).2.2=HY s' k'∧yc c L s' k'∧mC upto (1000-k') s'=j5 upto s0):=fun hne=>by
   refine⟨bK upto s,k+1,rfl,hgood hne,?_⟩;rw[if_neg hne]at hT;rw[←hT,show 1000-(k+1)=999-k by omega]
  by_cases hb1:s.B.length<(aN upto s.B s.full s.lB).2.1.length
  ·rw[decide_eq_true hb1,Bool.not_true,cf]
   have hne:b9 (bK upto s)≠b9 s:=by
    have h6:s.B.length<(bK upto s).B.length:=hb1;unfold b9;omega
   exact .inl ⟨_,rfl,hgo hne,by simp only;omega⟩
  ·rw[decide_eq_false hb1,Bool.not_false,ct];by_cases hv1:s.V.length<(bv upto (aN upto s.B s.full s.lB).2.1 s.V (aN upto s.B s.full s.lB).2.2 s.lV).2.1.length
   ·rw[decide_eq_true hv1,Bool.not_true,cf]
    have hne:b9 (bK upto s)≠b9 s:=by
     have h6:s.V.length<(bK upto s).V.length:=hv1;unfold b9;omega
    exact .inl ⟨_,rfl,hgo hne,by simp only;omega⟩
   ·rw[decide_eq_false hv1,Bool.not_false,ct]
    have heq:b9 (bK upto s)=b9 s:=by
     have h6:¬s.V.length<(bK upto s).V.length:=hv1;have h7:¬s.B.length<(bK upto s).B.length:=hb1;unfold b9;omega
    rw[if_pos heq]at hT
    exact .inr ⟨_,rfl,k,by rw[←hT];rfl⟩) (n:=bg) (x:=HY s0 0) ⟨s0,0,rfl,hg0,rfl⟩ (bO (by unfold HY;simp only;omega))
 have hx':iter (k8 i upto) bg (dk.mk 0 w.B w.V (w.B.map nm) (bh c i).B (bh c i).V false)=some x:=by
  rw[hs0]at hx;exact hx
 rw[hx',ob,hxe,hs0];rfl
open Go.Proofs
def vf (n:Int):Option (List Of):=bif decide (n<0)then none else bif decide ((IntKind.i64.wrap (n-(IntKind.i64.wrap (0-0))))>0)then bif AH (IntKind.i64.wrap (n-(IntKind.i64.wrap (0-0)))) 104 then bif decide (0≤0∧0≤(((List.replicate (IntKind.i64.wrap (n-(IntKind.i64.wrap (0-0)))).toNat (Of.mk 0 0 (Bk.mk 0 0 (0,0) 0) (Vw.mk [] []):Of)).map dC).length:Int))then some (List.replicate (IntKind.i64.wrap (n-(IntKind.i64.wrap (0-0)))).toNat (Of.mk 0 0 (Bk.mk 0 0 (0,0) 0) (Vw.mk [] []):Of))else none else none else some []
theorem Hh {n:Int}{r_:List Of}(hr:vf n=some r_):LC Tryz.prog 126 [.zs,(iQ n)] [] (Is (.vec 9 0 (r_.map dC).length 0 0) [.vec 9 (r_.map dC)]):=by
 refine fy Tryz.func126 Z Z Z ?_;unfold vf at hr;refine zQ<|zR<|zM Z<|zN<|zT<|zQ<|zQ<|zR<|zM Z<|yS Z (ap Z Z Z Z)<|zN<|zT ?_;refine zX Z (fun g1=>?_)<|fun g1=>?_
 ·have hr:=zI g1 hr;cases hr
 ·refine zo g1 hr fun hr=>zk<|zT<|zQ<|zQ<|zR<|zM Z<|zM Z<|yS Z (aa.capZ Z Z bL)<|zM Z<|yS Z (aa.lenZ Z Z (by kernel_rfl))<|yS Z (ap Z Z Z Z)<|yS Z (ap Z Z Z Z)<|zM Z<|zN<|zT<|zQ<|zR<|zM Z<|yS Z (ap Z Z Z Z)<|zN<|zT ?_;refine zX Z (fun g2=>?_)<|fun g2=>?_
  ·refine zi g2 hr fun hr=>zR<|zM Z<|zM Z<|yS Z (aa.capZ Z Z bL)<|yS Z (aa.sliceZ0 Z Z Z bL)<|zM Z<|zg hr fun q1 hr=>?_;refine yS Z (aa.appendMake (cs:=[(iQ 0),(iQ 0),(iQ 0),(iQ 0),(uQ 0),(uQ 0),(uQ 0),.zs,.zs]) (zs:=[.int .i64 0,.int .i64 0,.int .i64 0,.int .i64 0,.int .u64 0,.int .u64 0,.int .u64 0,.slice 5 [],.slice 4 []]) dC (Of.mk 0 0 (Bk.mk 0 0 (0,0) 0) (Vw.mk [] [])) Z Z Z bL Tryz.underlying3 (fun _=>rfl) (by kernel_rfl) Z ⟨rfl,rfl,rfl,rfl,rfl,rfl,rfl,⟨_,rfl⟩,⟨_,rfl⟩,trivial⟩ q1 Z Z) ?_;refine zM Z<|yS Z (aa.lenZ Z Z (by kernel_rfl))<|zg hr fun q2 hr=>yS Z (aa.sliceVHi Z Z Z Z bL q2)<|zM Z<|zN<|zT<|zQ<|zR<|zM Z<|zM Z<|zN<|zT<|zr ?_;obtain rfl:=zJ hr;exact aH (.one (.tmp Z))<|⟨rfl,rfl⟩
  ·refine zo g2 hr fun hr=>zk<|zT<|zQ<|LW.ent (cz.lazy (t:=0) (m:=9) Z Z Z)<|zR<|zM Z<|zM Z<|zN<|zT<|zr ?_;obtain rfl:=zJ hr;exact aH (.one (.tmp Z))<|⟨rfl,rfl⟩
structure dJ where
 size:Int
 t11:Int
structure dK where
 newslice:Nat
 t27:Int
 o0:List Of
def g0 (slices:List (List Of))(x1:dJ):Option (dJ⊕dJ):=bif decide (x1.t11<(slices.length:Int))then (ix slices x1.t11).bind fun y1=>bif decide ((IntKind.i64.wrap (x1.size+(y1.length:Int)))<0)then none else some (.inl (dJ.mk (IntKind.i64.wrap (x1.size+(y1.length:Int))) (IntKind.i64.wrap (x1.t11+1))))else some (.inr (dJ.mk x1.size x1.t11))
def hO (slices:List (List Of))(x2:dK):Option (dK⊕dK):=bif decide (x2.t27<(slices.length:Int))then (ix slices x2.t27).bind fun y2=>bif decide (x2.newslice+y2.length≤x2.o0.length)then some (.inl (dK.mk (x2.newslice+y2.length) (IntKind.i64.wrap (x2.t27+1)) (fM x2.o0 x2.newslice y2)))else none else some (.inr (dK.mk x2.newslice x2.t27 x2.o0))
def uP (slices:List (List Of)):Option (List Of):=(iter (g0 slices) bg (dJ.mk 0 0)).bind fun v1=>(vf v1.size).bind fun v2=>(iter (hO slices) bg (dK.mk 0 0 v2)).bind fun v3=>bif Nat.ble v3.newslice v3.o0.length then some (v3.o0.take v3.newslice)else none
theorem Jh {slices:List (List Of)}{r_:(List Of)}(hr:uP slices=some r_):ar Tryz.prog 83 [.slice 1 (slices.map (Kf 9 dC))] [.slice 9 (r_.map dC)]:=by
 refine zh Tryz.func83 Z Z Z Z ?_;unfold uP at hr;refine zQ<|zR<|zM Z<|zN<|zT<|zQ<|zR<|zM Z<|zN<|zT<|zQ<|zQ<|zR<|zM Z<|yS Z (cD Z Z (by kernel_rfl))<|zM Z<|zN<|zT ?_;obtain⟨v1,hb_v1,ho_v1⟩:=zB hr;clear hr;refine LW.tail (E:=[(0,.p (.slice 1 (slices.map (Kf 9 dC)))),(2,.zs),(3,(iQ v1.size))]) (O:=[]) ?_<|fun env_v1 H_v1 hw_v1=>?_
 ·refine LW.block ?_;refine LW.iterB (E:=fun x1:dJ=>[(0,.p (.slice 1 (slices.map (Kf 9 dC)))),(2,.zs),(3,(iQ x1.size)),(9,.p (.slice 1 (slices.map (Kf 9 dC)))),(10,.p (.int .i64 (slices.length:Int))),(11,(iQ x1.t11))]) (O:=fun x1=>[]) hb_v1 (zW 0 ⟨rfl,rfl,rfl,rfl,rfl,rfl,trivial⟩ Z Z Z Z)<|fun x1 z_x1 hr hb_x1=>?_;unfold g0 at hr;refine zQ<|zR<|yS Z (ap Z Z Z Z)<|zN<|zT<|zQ ?_;refine zX Z (fun g1=>?_)<|fun g1=>?_
  ·refine zi g1 hr fun hr=>zk<|zT<|zQ<|zl<|zQ<|zR<|zb hr fun y1 h_y1 hr=>yS Z (zx Z Z Z xA h_y1 Z)<|yS Z (ci Z Z Z bY Z Z)<|zM Z<|zN<|zT<|zQ<|zR<|zM Z<|zM Z<|yS Z (cD Z Z (by kernel_rfl))<|yS Z (ap Z Z Z Z)<|zM Z<|zN<|zT<|zQ<|zR ?_;refine zM Z<|yS Z (ap Z Z Z Z)<|zN<|zT ?_;refine zX Z (fun g2=>?_)<|fun g2=>?_
   ·have hr:=zI g2 hr;cases hr
   ·refine zo g2 hr fun hr=>zk<|ai<|zT<|zR<|yS Z (ap Z Z Z Z)<|zM Z<|zN<|zT ?_;obtain rfl:=zJ hr;exact⟨_,rfl,zW 0 ⟨rfl,rfl,rfl,rfl,rfl,rfl,trivial⟩ Z Z Z rfl⟩
  ·refine zo g1 hr fun hr=>zq<|aj<|aj<|zy<|zT ?_;obtain rfl:=zJ hr;have hr:=congrArg some (hb_x1 _ rfl);obtain rfl:=zJ hr;exact zW 0 ⟨Z,Z,Z,trivial⟩ Z Z Z Z
 ·have hr:=ho_v1;clear hb_v1;refine zT<|LW.weak hw_v1<|zQ<|zR<|zM Z<|zb hr fun v2 h_v2 hr=>yS Z (zC Z Z Z (by kernel_rfl) (LC.frameX (x':=.vec 9 0 (v2.map dC).length 0 0) (H':=[.vec 9 (v2.map dC)]) (Hh h_v2) (.consZ (.consC zv .nil)) Z Z Z))<|zM Z<|zN<|zT<|zQ<|zQ<|zR<|zM Z<|yS Z (cD Z Z (by kernel_rfl))<|zM Z<|zN<|zT ?_;obtain⟨v3,hb_v3,ho_v3⟩:=zB hr;clear hr;refine LW.tail (E:=[(2,.zs),(6,.vec 9 0 (v3.o0.map dC).length 0 v3.newslice)]) (O:=[.vec 9 (v3.o0.map dC)]) ?_<|fun env_v3 H_v3 hw_v3=>?_
  ·refine LW.block ?_;refine LW.iterB (E:=fun x2:dK=>[(2,.zs),(6,.vec 9 0 (x2.o0.map dC).length 0 x2.newslice),(25,.p (.slice 1 (slices.map (Kf 9 dC)))),(26,.p (.int .i64 (slices.length:Int))),(27,(iQ x2.t27))]) (O:=fun x2=>[.vec 9 (x2.o0.map dC)]) hb_v3 (zW 1 ⟨rfl,rfl,rfl,rfl,rfl,trivial⟩ Z Z Z Z)<|fun x2 z_x2 hr hb_x2=>?_;unfold hO at hr;refine zQ<|zR<|yS Z (ap Z Z Z Z)<|zN<|zT<|zQ ?_;refine zX Z (fun g3=>?_)<|fun g3=>?_
   ·refine zi g3 hr fun hr=>zk<|zT<|zQ<|zl<|zQ<|zR<|zb hr fun y2 h_y2 hr=>yS Z (zx Z Z Z xA h_y2 Z)<|yS Z (ci Z Z Z bY Z Z)<|zM Z<|zN<|zT<|zR<|zM Z<|zM Z<|zg hr fun q1 hr=>?_;refine yS Z (aa.appendP (f:=dC) Z Z Z (fun _=>rfl) Z iR.p Z bL q1 Z) ?_;refine zM Z<|zN<|ai<|zT<|zR<|yS Z (ap Z Z Z Z)<|zM Z<|zN<|zT ?_;obtain rfl:=zJ hr;exact⟨_,rfl,zW 1 ⟨rfl,rfl,rfl,rfl,rfl,trivial⟩ Z Z Z rfl⟩
   ·refine zo g3 hr fun hr=>zq<|aj<|aj<|zy<|zT ?_;obtain rfl:=zJ hr;have hr:=congrArg some (hb_x2 _ rfl);obtain rfl:=zJ hr;exact zW 1 ⟨Z,Z,trivial⟩ Z Z Z Z
  ·have hr:=ho_v3;clear hb_v3;refine zT<|LW.weak hw_v3<|zQ<|zR<|zg hr fun q2 hr=>zM Z<|zM Z<|zN<|zT<|zr ?_;obtain rfl:=zJ hr;exact zf (.one (.tmp Z))<|(Conv.vecTake Z q2)
end Go.Mg
