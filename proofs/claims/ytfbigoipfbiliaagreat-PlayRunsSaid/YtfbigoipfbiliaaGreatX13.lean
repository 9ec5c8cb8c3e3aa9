/- The reference of worlds. Conditions: none. -/
import Derived.Test.YtfbigoipfbiliaaGreatX12
import Derived.Test.YtfbigoipfbiliaaGreatRows
set_option maxRecDepth 100000
set_option linter.all false
namespace Go.Mg
open IntKind (i64)
open Go.Proofs.Tryz (prog)
open List (append_nil length_cons length_map length_singleton length_take map_append mem_filter mem_map nodup_nil take_length)
open Option (all_some)
open Int (le_of_lt pow_pos)
open Go.Proofs
variable {U : Vw} {c : Cf} {l : List Ac} {r_ : Bool} {ticks : Int}
structure fW where
 i:Int
 out:Vw
def ly (l:List Nd)(x1:fW):Option (fW⊕fW):=bif decide (x1.i<(l.length:Int))then (ix l x1.i).bind fun y1=>(yc y1).bind fun v2=>(tN x1.out v2).bind fun v3=>some (.inl (fW.mk (i64.wrap (x1.i+1)) v3))else some (.inr (fW.mk x1.i x1.out))
def vY (l:List Nd):Option Vw:=(iter (ly l) aY (fW.mk 0 (Vw.mk [] []))).bind fun v1=>some v1.out
theorem OA {l:List Nd}{r_:Vw}(h:vY l=some r_):aq prog 64 [.slice 12 (l.map dH)] [iW r_]:=by
 refine zh Tryz.func64 Z Z Z Z ?_;unfold vY at h;refine qR<|yS Z (ze Z d7 Z Z)<|nT<|qR<|yS Z (ze Z d7 Z Z)<|nT<|zQ<|zQ<|LW.ent (bW.zsCell (i:=1) (j:=0) (m:=5) Z Z Z Z)<|LW.ent (bW.zsCell (i:=1) (j:=1) (m:=4) Z Z Z Z)<|zR<|mN Z ?_;obtain⟨v1,p1,q1⟩:=zB h;clear h;refine LW.tail (E:=[(2,.ptr 0 0),(3,.ptr 1 0)]) (O:=[.box [.zs,.zs],.box (cE v1.out)]) ?_<|fun e1 K1 u1=>?_
 ·refine LW.block ?_;refine LW.iterB (E:=fun x1:fW=>[(0,.p (.slice 12 (l.map dH))),(2,.ptr 0 0),(3,.ptr 1 0),(4,(iQ x1.i))]) (O:=fun x1=>[.box [.zs,.zs],.box (cE x1.out)]) p1 (au 2 ⟨Z,Z,Z,Z,t_⟩)<|fun x1 z1 h m1=>?_;unfold ly at h;refine zQ<|qR<|zM Z<|zM Z<|yS Z (cx Z Z)<|yS Z (am Z Z Z Z)<|nT ?_;refine zX Z (fun g1=>?_)<|fun g1=>?_
  ·refine zi g1 h fun h=>zk<|zT<|zQ<|zl<|LW.drawLast (m:=7) (by kernel_rfl) (by kernel_rfl) (by kernel_rfl)<|yE Z (zD Z Z Z aI Z Z)<|zH Z<|zH Z<|zb h fun y1 j1 h=>yE Z (zx Z Z Z dM j1 Z)<|yE Z (bS Z Z Z aP Z Z)<|zb h fun v2 a2 h=>yE Z (yP Z Z Z (NY a2) dB)<|zb h fun v3 a3 h=>yE Z (yP Z Z Z (BH a3) bR)<|LO.nil<|yS Z (zs Z Z Z Z aI Z Z Z Z)<|zN<|ae<|zT<|zR<|zM Z<|yS Z (am Z Z Z Z)<|mN Z ?_;cases h;exact⟨_,rfl,au 2 ⟨Z,Z,Z,Z,t_⟩⟩
  ·refine zo g1 h fun h=>zq<|aj<|aj<|zy<|zT ?_;cases h;obtain rfl:=(m1 _ rfl);exact au 2 ⟨Z,Z,t_⟩
 ·have h:=q1;clear p1;refine zT<|LW.weak u1<|qR<|yS Z (zD Z Z Z aI Z Z)<|yS Z (zs Z Z Z Z aI Z Z Z Z)<|nT<|zr ?_;cases h;exact zf (.one (eh Z Z)) zv
structure fX where
 to:Int
 i:Int
def lz (v_at:Int)(x1:fX):Option (fX⊕fX):=bif decide (x1.i<v_at)then some (.inl (fX.mk (i64.wrap (x1.to.tdiv 2)) (i64.wrap (x1.i+1))))else some (.inr (fX.mk x1.to x1.i))
def yW (to:Int)(v_at:Int):Option Bool:=(iter (lz v_at) aY (fX.mk to 0)).bind fun v1=>some ((v1.to.tmod 2)==1)
theorem OB {to:Int}{v_at:Int}(h:yW to v_at=some r_):aq prog 67 [.int .i64 to,.int .i64 v_at] [.bool r_]:=by
 refine zh Tryz.func67 Z Z Z Z ?_;unfold yW at h;refine qR<|mN Z<|zQ<|qR<|mN Z ?_;obtain⟨v1,p1,q1⟩:=zB h;clear h;refine LW.tail (E:=[(0,(iQ v1.to)),(4,(bQ false))]) (O:=[]) ?_<|fun e1 K1 u1=>?_
 ·refine LW.block ?_;refine LW.iterB (E:=fun x1:fX=>[(0,(iQ x1.to)),(1,(iQ v_at)),(4,(bQ false)),(5,(iQ x1.i))]) (O:=fun x1=>[]) p1 (au 0 ⟨Z,Z,Z,Z,t_⟩)<|fun x1 z1 h m1=>?_;unfold lz at h;refine zQ<|qR<|zM Z<|zM Z<|yS Z (am Z Z Z Z)<|nT ?_;refine zX Z (fun g1=>?_)<|fun g1=>?_
  ·refine zi g1 h fun h=>zk<|zT<|zQ<|zl<|zR<|zM Z<|yS Z (aa.quo Z Z Z (by decide))<|zM Z<|zN<|ae<|zT<|zR<|zM Z<|yS Z (am Z Z Z Z)<|mN Z ?_;cases h;exact⟨_,rfl,au 0 ⟨Z,Z,Z,Z,t_⟩⟩
  ·refine zo g1 h fun h=>zq<|aj<|aj<|zy<|zT ?_;cases h;obtain rfl:=(m1 _ rfl);exact au 0 ⟨Z,Z,t_⟩
 ·have h:=q1;clear p1;refine zT<|LW.weak u1<|qR<|zM Z<|yS Z (aa.rem Z Z Z (by decide))<|yS Z (am Z Z Z Z)<|mN Z<|zr ?_;cases h;exact ba Z
structure fl where
 i:Int
def jK (l:List Bk)(b:Bk)(x1:fl):Option (fl⊕(fl⊕Bool)):=bif decide (x1.i<(l.length:Int))then (ix l x1.i).bind fun y1=>bif ((y1.Slot==b.Slot)&&((y1.From==b.From)&&((y1.Parent.1==b.Parent.1)&&((y1.Parent.2==b.Parent.2)&&((y1.Salt==b.Salt)&&true)))))then some (.inr (.inr true))else some (.inl (fl.mk (i64.wrap (x1.i+1))))else some (.inr (.inl (fl.mk x1.i)))
def yY (l:List Bk)(b:Bk):Option Bool:=(iter (jK l b) aY (fl.mk 0)).bind fun b_v1=>Sum.elim (fun _=>some false) some b_v1
theorem OD {l:List Bk}{b:Bk}(h:yY l b=some r_):aq prog 121 [.slice 5 (l.map ay),ay b] [.bool r_]:=by
 refine zh Tryz.func121 Z Z Z Z ?_;unfold yY at h;refine qR<|yS Z (bv Z Z Z Z Z)<|mN Z<|zQ<|qR<|mN Z ?_;obtain⟨w1,p1,q1⟩:=zB h;clear h;refine LW.tailB (b:=w1) (E:=fun v1=>[(4,(bQ false))]) (O:=fun v1=>[.box [(iQ b.Slot),(iQ b.From),(uQ b.Parent.1),(uQ b.Parent.2),(uQ b.Salt)]]) ?_<|fun v1 f1 e1 K1 u1=>?_
 ·refine LW.block ?_;refine LW.iterB (E:=fun x1:fl=>[(0,(kB l)),(3,.ptr 0 0),(4,(bQ false)),(5,(iQ x1.i))]) (O:=fun x1=>[.box [(iQ b.Slot),(iQ b.From),(uQ b.Parent.1),(uQ b.Parent.2),(uQ b.Salt)]]) p1 (au 1 ⟨Z,Z,Z,Z,t_⟩)<|fun x1 z1 h m1=>?_;unfold jK at h;refine zQ<|qR<|zM Z<|zM Z<|yS Z (cx Z Z)<|yS Z (am Z Z Z Z)<|nT ?_;refine zX Z (fun g1=>?_)<|fun g1=>?_
  ·refine zi g1 h fun h=>zk<|zT<|zQ<|zl<|zQ<|dy<|zH Z<|zH Z<|zb h fun y1 j1 h=>yE Z (zx Z Z Z cp j1 Z)<|yE Z (bS Z Z Z ca Z Z)<|yE Z (zD Z Z Z ca Z Z)<|yE Z (aa.eqlAgg Z Z Z Z Z uw)<|LO.nil<|zT ?_;refine zX Z (fun g2=>?_)<|fun g2=>?_
   ·refine zi g2 h fun h=>qR<|mN Z<|LW.ret<|ao<|af<|af<|ao<|af<|af ?_;cases h;obtain rfl:=(m1 _ rfl);have h:=bT q1;cases h;exact ba Z
   ·refine zo g2 h fun h=>zk<|ae<|zT<|zR<|zM Z<|yS Z (am Z Z Z Z)<|mN Z ?_;cases h;exact⟨_,rfl,au 1 ⟨Z,Z,Z,Z,t_⟩⟩
  ·refine zo g1 h fun h=>zq<|aj<|aj<|zy<|zT ?_;cases h;obtain rfl:=(m1 _ rfl);exact⟨_,rfl,au 1 ⟨Z,t_⟩⟩
 ·obtain rfl:=f1;have h:=cU q1;clear p1;refine zT<|LW.weak u1<|qR<|mN Z<|zr ?_;cases h;exact ba Z
structure fm where
 i:Int
def jL (l:List Vt)(v:Vt)(x1:fm):Option (fm⊕(fm⊕Bool)):=bif decide (x1.i<(l.length:Int))then (ix l x1.i).bind fun y1=>bif ((y1.From==v.From)&&((y1.Slot==v.Slot)&&((y1.Head.1==v.Head.1)&&((y1.Head.2==v.Head.2)&&true))))then some (.inr (.inr true))else some (.inl (fm.mk (i64.wrap (x1.i+1))))else some (.inr (.inl (fm.mk x1.i)))
def yZ (l:List Vt)(v:Vt):Option Bool:=(iter (jL l v) aY (fm.mk 0)).bind fun b_v1=>Sum.elim (fun _=>some false) some b_v1
theorem OE {l:List Vt}{v:Vt}(h:yZ l v=some r_):aq prog 122 [.slice 4 (l.map aO),aO v] [.bool r_]:=by
 refine zh Tryz.func122 Z Z Z Z ?_;unfold yZ at h;refine qR<|yS Z (bv Z Z Z Z Z)<|mN Z<|zQ<|qR<|mN Z ?_;obtain⟨w1,p1,q1⟩:=zB h;clear h;refine LW.tailB (b:=w1) (E:=fun v1=>[(4,(bQ false))]) (O:=fun v1=>[.box [(iQ v.From),(iQ v.Slot),(uQ v.Head.1),(uQ v.Head.2)]]) ?_<|fun v1 f1 e1 K1 u1=>?_
 ·refine LW.block ?_;refine LW.iterB (E:=fun x1:fm=>[(0,(kV l)),(3,.ptr 0 0),(4,(bQ false)),(5,(iQ x1.i))]) (O:=fun x1=>[.box [(iQ v.From),(iQ v.Slot),(uQ v.Head.1),(uQ v.Head.2)]]) p1 (au 1 ⟨Z,Z,Z,Z,t_⟩)<|fun x1 z1 h m1=>?_;unfold jL at h;refine zQ<|qR<|zM Z<|zM Z<|yS Z (cx Z Z)<|yS Z (am Z Z Z Z)<|nT ?_;refine zX Z (fun g1=>?_)<|fun g1=>?_
  ·refine zi g1 h fun h=>zk<|zT<|zQ<|zl<|zQ<|dy<|zH Z<|zH Z<|zb h fun y1 j1 h=>yE Z (zx Z Z Z bz j1 Z)<|yE Z (bS Z Z Z cz Z Z)<|yE Z (zD Z Z Z cz Z Z)<|yE Z (aa.eqlAgg Z Z Z Z Z Am)<|LO.nil<|zT ?_;refine zX Z (fun g2=>?_)<|fun g2=>?_
   ·refine zi g2 h fun h=>qR<|mN Z<|LW.ret<|ao<|af<|af<|ao<|af<|af ?_;cases h;obtain rfl:=(m1 _ rfl);have h:=bT q1;cases h;exact ba Z
   ·refine zo g2 h fun h=>zk<|ae<|zT<|zR<|zM Z<|yS Z (am Z Z Z Z)<|mN Z ?_;cases h;exact⟨_,rfl,au 1 ⟨Z,Z,Z,Z,t_⟩⟩
  ·refine zo g1 h fun h=>zq<|aj<|aj<|zy<|zT ?_;cases h;obtain rfl:=(m1 _ rfl);exact⟨_,rfl,au 1 ⟨Z,t_⟩⟩
 ·obtain rfl:=f1;have h:=cU q1;clear p1;refine zT<|LW.weak u1<|qR<|mN Z<|zr ?_;cases h;exact ba Z
structure fj where
 i:Int
 o5:List Bk
structure fk where
 i:Int
 o6:List Vt
def lA (w:Wd)(all:Vw)(a:Ac)(x1:fj):Option (fj⊕fj):=bif decide (x1.i<(a.B.length:Int))then (ix a.B x1.i).bind fun y1=>(GL w.Bad y1.From).bind fun v2=>(ix a.B x1.i).bind fun y2=>(yY all.B y2).bind fun v3=>(bif v2 then some true else some v3).bind fun v4=>bif v4 then (ix a.B x1.i).bind fun y3=>bif bG x1.o5.length [y3].length 40 then some (.inl (fj.mk (i64.wrap (x1.i+1)) (x1.o5++[y3])))else none else some (.inl (fj.mk (i64.wrap (x1.i+1)) x1.o5))else some (.inr (fj.mk x1.i x1.o5))
def lC (w:Wd)(all:Vw)(a:Ac)(x2:fk):Option (fk⊕fk):=bif decide (x2.i<(a.V.length:Int))then (ix a.V x2.i).bind fun y4=>(GL w.Bad y4.From).bind fun v6=>(ix a.V x2.i).bind fun y5=>(yZ all.V y5).bind fun v7=>(bif v6 then some true else some v7).bind fun v8=>bif v8 then (ix a.V x2.i).bind fun y6=>bif bG x2.o6.length [y6].length 32 then some (.inl (fk.mk (i64.wrap (x2.i+1)) (x2.o6++[y6])))else none else some (.inl (fk.mk (i64.wrap (x2.i+1)) x2.o6))else some (.inr (fk.mk x2.i x2.o6))
def yX (w:Wd)(all:Vw)(a:Ac):Option Vw:=(iter (lA w all a) aY (fj.mk 0 ([]:List Bk))).bind fun v1=>(iter (lC w all a) aY (fk.mk 0 ([]:List Vt))).bind fun v5=>some (Vw.mk v1.o5 v5.o6)
theorem OC {w:Wd}{all:Vw}{a:Ac}{r_:Vw}(h:yX w all a=some r_):aq prog 68 [xJ w,iW all,mZ a] [iW r_]:=by
 refine zh Tryz.func68 Z Z Z Z ?_;unfold yX at h;refine qR<|yS Z (bv Z Z Z Z Z)<|yS Z (bv Z Z Z Z Z)<|yS Z (bv Z Z Z Z Z)<|yS Z (ze Z d7 Z Z)<|nT<|qR<|yS Z (ze Z d7 Z Z)<|nT<|zQ<|zQ<|LW.ent (bW.lazyCell (i:=4) (j:=0) (m:=5) Z Z Z Z Z Z)<|LW.ent (bW.lazyCell (i:=4) (j:=1) (m:=4) Z Z Z Z Z Z)<|zR<|mN Z ?_;obtain⟨v1,p1,b1⟩:=zB h;clear h;refine LW.tail (E:=[(3,.ptr 0 0),(4,.ptr 1 0),(5,.ptr 2 0),(6,.ptr 3 0),(7,.ptr 4 0)]) (O:=[.box (gu w),.box (cE all),.box [(iQ a.Tick),(iQ a.To),(bQ a.Offer),(kB a.B),(kV a.V)],.box [.zs,.zs],.box [(jB 5 v1.o5),(jV 6 ([]:List Vt))],.vec 5 (v1.o5.map ay),.vec 4 (([]:List Vt).map aO)]) ?_<|fun e1 K1 u1=>?_
 ·refine LW.block ?_;refine LW.iterB (E:=fun x1:fj=>[(3,.ptr 0 0),(4,.ptr 1 0),(5,.ptr 2 0),(6,.ptr 3 0),(7,.ptr 4 0),(8,(iQ x1.i))]) (O:=fun x1=>[.box (gu w),.box (cE all),.box [(iQ a.Tick),(iQ a.To),(bQ a.Offer),(kB a.B),(kV a.V)],.box [.zs,.zs],.box [(jB 5 x1.o5),(jV 6 ([]:List Vt))],.vec 5 (x1.o5.map ay),.vec 4 (([]:List Vt).map aO)]) p1 (au 7 ⟨Z,Z,Z,Z,Z,Z,t_⟩)<|fun x1 z1 h m1=>?_;unfold lA at h;refine zQ<|qR<|zM Z<|yS Z (zA Z Z lL)<|yS Z (zD Z Z Z bL Z Z)<|yS Z (cx Z Z)<|yS Z (am Z Z Z Z)<|nT ?_;refine zX Z (fun g1=>?_)<|fun g1=>?_
  ·refine zi g1 h fun h=>zk<|zT<|zQ<|zl<|zQ<|dy<|yE Z (zA Z Z dc)<|yE Z (zD Z Z Z d6 Z Z)<|yE Z (zA Z Z lL)<|yE Z (zD Z Z Z bL Z Z)<|zH Z<|zb h fun y1 j1 h=>yE Z (zx Z Z Z cp j1 Z)<|yE Z (aa.fieldAddrC Z Z sb Z)<|yE Z (bS Z Z Z aV Z Z)<|zb h fun v2 a2 h=>yE Z (yP Z Z Z (L7 a2) bR)<|zH Z<|LO.nil<|zT<|zQ<|dy<|yE Z (zA Z Z aL)<|yE Z (zD Z Z Z bL Z Z)<|yE Z (zA Z Z lL)<|yE Z (zD Z Z Z bL Z Z)<|zH Z<|zb h fun y2 j2 h=>yE Z (zx Z Z Z cp j2 Z)<|yE Z (bS Z Z Z ca Z Z)<|zb h fun v3 a3 h=>yE Z (yP Z Z Z (OD a3) bR)<|zH Z<|LO.nil<|zT ?_;obtain⟨v4,p4,b4⟩:=zB h;clear h;refine LW.cut (E:=[(3,.ptr 0 0),(4,.ptr 1 0),(5,.ptr 2 0),(6,.ptr 3 0),(7,.ptr 4 0),(8,(iQ x1.i)),(41,(bQ v4))]) (O:=[.box (gu w),.box (cE all),.box [(iQ a.Tick),(iQ a.To),(bQ a.Offer),(kB a.B),(kV a.V)],.box [.zs,.zs],.box [(jB 5 x1.o5),(jV 6 ([]:List Vt))],.vec 5 (x1.o5.map ay),.vec 4 (([]:List Vt).map aO)]) ?_ ?_
   ·have h:=p4;refine zR<|zM Z<|zM Z ?_;refine zc 39 Z (fun g2=>?_)<|fun g2=>?_
    ·refine zi g2 h fun h=>yU Z (gd g2 Z) Z<|yS Z (bA Z (aK g2 Z) Z)<|nT ?_;cases h;exact au 7 ⟨Z,Z,Z,Z,Z,Z,Z,t_⟩
    ·refine zo g2 h fun h=>yV Z (gd g2 Z) (zm Z Z)<|yS Z (aU Z (aK g2 Z) Z)<|nT ?_;cases h;exact au 7 ⟨Z,Z,Z,Z,Z,Z,Z,t_⟩
   ·have h:=b4;clear p4;refine zX Z (fun g3=>?_)<|fun g3=>?_
    ·refine zi g3 h fun h=>fC<|yG Z (fun H _=>zA Z Z aL)<|yF Z (zd Z Z Z bL Z Z) Z<|yG Z (fun H _=>zA Z Z lL)<|yF Z (zd Z Z Z bL Z Z) Z<|zK Z<|zb h fun y3 j3 h=>yG Z (fun H _=>zx Z Z Z cp j3 Z)<|yG Z (fun H _=>bS Z Z Z ca Z Z)<|yG Z (fun H _=>gU Z cp Z Z Z Z Z)<|zg h fun q1 h=>yF Z (ch.appendX ay x1.o5 [y3] rfl Z Z Z Z cp q1) Z<|yG Z (fun H _=>zA Z Z aL)<|yF Z (zt Z Z Z Z bL Z Z Z) Z ?_;refine LF.nil ⟨by kernel_rfl,?_⟩;refine ae<|zT<|zR<|zM Z<|yS Z (am Z Z Z Z)<|mN Z ?_;cases h;exact⟨_,rfl,au 7 ⟨Z,Z,Z,Z,Z,Z,t_⟩⟩
    ·refine zo g3 h fun h=>zk<|ae<|zT<|zR<|zM Z<|yS Z (am Z Z Z Z)<|mN Z ?_;cases h;exact⟨_,rfl,au 7 ⟨Z,Z,Z,Z,Z,Z,t_⟩⟩
  ·refine zo g1 h fun h=>zq<|aj<|aj<|zy<|zT ?_;cases h;obtain rfl:=(m1 _ rfl);exact au 7 ⟨Z,Z,Z,Z,Z,t_⟩
 ·have h:=b1;clear p1;refine zT<|LW.weak u1<|zQ<|qR<|mN Z ?_;obtain⟨v5,p5,b5⟩:=zB h;clear h;refine LW.tail (E:=[(6,.ptr 3 0),(7,.ptr 4 0)]) (O:=[.box (gu w),.box (cE all),.box [(iQ a.Tick),(iQ a.To),(bQ a.Offer),(kB a.B),(kV a.V)],.box [.zs,.zs],.box [(jB 5 v1.o5),(jV 6 v5.o6)],.vec 5 (v1.o5.map ay),.vec 4 (v5.o6.map aO)]) ?_<|fun e5 K5 u5=>?_
  ·refine LW.block ?_;refine LW.iterB (E:=fun x2:fk=>[(3,.ptr 0 0),(4,.ptr 1 0),(5,.ptr 2 0),(6,.ptr 3 0),(7,.ptr 4 0),(11,(iQ x2.i))]) (O:=fun x2=>[.box (gu w),.box (cE all),.box [(iQ a.Tick),(iQ a.To),(bQ a.Offer),(kB a.B),(kV a.V)],.box [.zs,.zs],.box [(jB 5 v1.o5),(jV 6 x2.o6)],.vec 5 (v1.o5.map ay),.vec 4 (x2.o6.map aO)]) p5 (au 7 ⟨Z,Z,Z,Z,Z,Z,t_⟩)<|fun x2 z2 h m2=>?_;unfold lC at h;refine zQ<|qR<|zM Z<|yS Z (zA Z Z lM)<|yS Z (zD Z Z Z cq Z Z)<|yS Z (cx Z Z)<|yS Z (am Z Z Z Z)<|nT ?_;refine zX Z (fun g4=>?_)<|fun g4=>?_
   ·refine zi g4 h fun h=>zk<|zT<|zQ<|zl<|zQ<|dy<|yE Z (zA Z Z dc)<|yE Z (zD Z Z Z d6 Z Z)<|yE Z (zA Z Z lM)<|yE Z (zD Z Z Z cq Z Z)<|zH Z<|zb h fun y4 j4 h=>yE Z (zx Z Z Z bz j4 Z)<|yE Z (aa.fieldAddrC Z Z im Z)<|yE Z (bS Z Z Z aV Z Z)<|zb h fun v6 a6 h=>yE Z (yP Z Z Z (L7 a6) bR)<|zH Z<|LO.nil<|zT<|zQ<|dy<|yE Z (zA Z Z aS)<|yE Z (zD Z Z Z cq Z Z)<|yE Z (zA Z Z lM)<|yE Z (zD Z Z Z cq Z Z)<|zH Z<|zb h fun y5 j5 h=>yE Z (zx Z Z Z bz j5 Z)<|yE Z (bS Z Z Z cz Z Z)<|zb h fun v7 a7 h=>yE Z (yP Z Z Z (OE a7) bR)<|zH Z<|LO.nil<|zT ?_;obtain⟨v8,p8,b8⟩:=zB h;clear h;refine LW.cut (E:=[(3,.ptr 0 0),(4,.ptr 1 0),(5,.ptr 2 0),(6,.ptr 3 0),(7,.ptr 4 0),(11,(iQ x2.i)),(79,(bQ v8))]) (O:=[.box (gu w),.box (cE all),.box [(iQ a.Tick),(iQ a.To),(bQ a.Offer),(kB a.B),(kV a.V)],.box [.zs,.zs],.box [(jB 5 v1.o5),(jV 6 x2.o6)],.vec 5 (v1.o5.map ay),.vec 4 (x2.o6.map aO)]) ?_ ?_
    ·have h:=p8;refine zR<|zM Z<|zM Z ?_;refine zc 77 Z (fun g5=>?_)<|fun g5=>?_
     ·refine zi g5 h fun h=>yU Z (gd g5 Z) Z<|yS Z (bA Z (aK g5 Z) Z)<|nT ?_;cases h;exact au 7 ⟨Z,Z,Z,Z,Z,Z,Z,t_⟩
     ·refine zo g5 h fun h=>yV Z (gd g5 Z) (zm Z Z)<|yS Z (aU Z (aK g5 Z) Z)<|nT ?_;cases h;exact au 7 ⟨Z,Z,Z,Z,Z,Z,Z,t_⟩
    ·have h:=b8;clear p8;refine zX Z (fun g6=>?_)<|fun g6=>?_
     ·refine zi g6 h fun h=>fC<|yG Z (fun H _=>zA Z Z aS)<|yF Z (zd Z Z Z cq Z Z) Z<|yG Z (fun H _=>zA Z Z lM)<|yF Z (zd Z Z Z cq Z Z) Z<|zK Z<|zb h fun y6 j6 h=>yG Z (fun H _=>zx Z Z Z bz j6 Z)<|yG Z (fun H _=>bS Z Z Z cz Z Z)<|yG Z (fun H _=>gU Z bz Z Z Z Z Z)<|zg h fun q2 h=>yF Z (ch.appendX aO x2.o6 [y6] rfl Z Z Z Z bz q2) Z<|yG Z (fun H _=>zA Z Z aS)<|yF Z (zt Z Z Z Z cq Z Z Z) Z ?_;refine LF.nil ⟨by kernel_rfl,?_⟩;refine ae<|zT<|zR<|zM Z<|yS Z (am Z Z Z Z)<|mN Z ?_;cases h;exact⟨_,rfl,au 7 ⟨Z,Z,Z,Z,Z,Z,t_⟩⟩
     ·refine zo g6 h fun h=>zk<|ae<|zT<|zR<|zM Z<|yS Z (am Z Z Z Z)<|mN Z ?_;cases h;exact⟨_,rfl,au 7 ⟨Z,Z,Z,Z,Z,Z,t_⟩⟩
   ·refine zo g4 h fun h=>zq<|aj<|aj<|zy<|zT ?_;cases h;obtain rfl:=(m2 _ rfl);exact au 7 ⟨Z,Z,t_⟩
  ·have h:=b5;clear p5;refine zT<|LW.weak u5<|qR<|yS Z (zD Z Z Z aI Z Z)<|yS Z (zs Z Z Z Z aI Z Z Z Z)<|nT<|zr ?_;cases h;exact zf (.one (eh Z Z))<|(Conv.agg (.cons (Conv.vecAll Z Z Z) (.cons (Conv.vecAll Z Z Z) .nil)))
structure dR where
 i:Int
 o4:List Nd
 o5:List Of
structure dC where
 k:Int
 v_in:Vw
 offers:List Of
def lu (w:Wd)(l:List Ac)(v3:Vw)(v4:Int)(v5:Bool)(x1:dR)(x2:dC):Option (dC⊕dC):=bif decide (x2.k<(l.length:Int))then (ix l x2.k).bind fun y1=>(yW y1.To x1.i).bind fun v8=>((ix l x2.k).bind fun y2=>bif y2.Tick != w.Tick then some true else (ix l x2.k).bind fun y3=>bif decide (y3.To<0)then some true else some (!v8)).bind fun v9=>bif v9 then some (.inl (dC.mk (i64.wrap (x2.k+1)) x2.v_in x2.offers))else (ix l x2.k).bind fun y4=>(yX w v3 y4).bind fun v10=>(ix l x2.k).bind fun y5=>bif !y5.Offer then (tN x2.v_in v10).bind fun v11=>some (.inl (dC.mk (i64.wrap (x2.k+1)) v11 x2.offers))else (bif v5 then some (decide ((v10.B.length:Int)>0))else some false).bind fun v12=>bif v12 then (ix v10.B 0).bind fun y6=>bif xp v10.B 1 v10.B.length then bif bG x2.offers.length [Of.mk (i64.wrap (w.Tick.tdiv 3)) v4 y6 (Vw.mk (v10.B.drop (1:Int).toNat) v10.V)].length 104 then some (.inl (dC.mk (i64.wrap (x2.k+1)) x2.v_in (x2.offers++[Of.mk (i64.wrap (w.Tick.tdiv 3)) v4 y6 (Vw.mk (v10.B.drop (1:Int).toNat) v10.V)])))else none else none else some (.inl (dC.mk (i64.wrap (x2.k+1)) x2.v_in x2.offers))else some (.inr (dC.mk x2.k x2.v_in x2.offers))
def lr (w:Wd)(l:List Ac)(v3:Vw)(v4:Int)(v5:Bool)(x1:dR):Option (dR⊕dR):=bif decide (x1.i<(w.N.length:Int))then bif bG 0 w.O.length 104 then (iter (lu w l v3 v4 v5 x1) aY (dC.mk 0 v3 w.O)).bind fun v7=>(ix w.N x1.i).bind fun y7=>(x9 w.C y7 v7.v_in v7.offers).bind fun v13=>bif bG x1.o4.length [v13.1].length 176 then bif bG x1.o5.length v13.2.length 104 then some (.inl (dR.mk (i64.wrap (x1.i+1)) (x1.o4++[v13.1]) (x1.o5++v13.2)))else none else none else none else some (.inr (dR.mk x1.i x1.o4 x1.o5))
def vX (w:Wd)(l:List Ac):Option Wd:=(GG w.C).bind fun v1=>(bif !v1 then some true else bif decide (w.Tick<3)then some true else some (decide (w.Tick>=3145728))).bind fun v2=>bif v2 then some w else (vY w.N).bind fun v3=>(Zz w.C (i64.wrap (w.Tick.tdiv 3))).bind fun v4=>(GL w.Bad v4).bind fun v5=>(iter (lr w l v3 v4 v5) aY (dR.mk 0 ([]:List Nd) ([]:List Of))).bind fun v6=>some (Wd.mk w.C w.Bad (i64.wrap (w.Tick+1)) v6.o4 v6.o5)
theorem Ox {w:Wd} {r_:Wd} (h:vX w l=some r_):aq prog 26 [xJ w,.slice 5 (l.map mZ)] [xJ r_]:=by
 refine zh Tryz.func26 Z Z Z Z ?_;unfold vX at h;refine qR<|yS Z (bv Z Z Z Z Z)<|yS Z (ze Z gS Z Z)<|nT<|qR<|yS Z (zA Z Z iO)<|yS Z (zD Z Z Z bd Z Z)<|zb h fun v1 a1 h=>yS Z (yP Z Z Z (L6 a1) dB)<|mN Z<|zQ ?_;obtain⟨v2,p2,b2⟩:=zB h;clear h;refine LW.cut (E:=[(1,.p (.slice 5 (l.map mZ))),(2,.ptr 0 0),(4,.ptr 1 0),(32,(bQ v2))]) (O:=[.box (gu w),.box ph]) ?_ ?_
 ·have h:=p2;refine zR<|zM Z<|yS Z (aa.not Z Z)<|zM Z ?_;refine zc 23 Z (fun g1=>?_)<|fun g1=>?_
  ·refine zi g1 h fun h=>yU Z (gd g1 Z) Z<|yU Z (gd g1 Z) Z<|yU Z (gd g1 Z) Z<|yS Z (bA Z (aK g1 Z) Z)<|zM Z<|aB Z<|aB Z<|aB Z<|yS Z (bA Z Z Z)<|nT ?_;cases h;exact au 2 ⟨Z,Z,Z,Z,t_⟩
  ·refine zo g1 h fun h=>yV Z (gd g1 Z) (zA Z Z cT)<|yV Z (gd g1 Z) (zD Z Z Z aV Z Z)<|yV Z (gd g1 Z) (am Z Z Z Z)<|yS Z (aU Z (aK g1 Z) Z)<|zM Z ?_;refine zc 28 Z (fun g2=>?_)<|fun g2=>?_
   ·refine zi g2 h fun h=>yU Z (gd g2 Z) Z<|yU Z (gd g2 Z) Z<|yU Z (gd g2 Z) Z<|yS Z (bA Z (aK g2 Z) Z)<|nT ?_;cases h;exact au 2 ⟨Z,Z,Z,Z,t_⟩
   ·refine zo g2 h fun h=>yV Z (gd g2 Z) (zA Z Z cT)<|yV Z (gd g2 Z) (zD Z Z Z aV Z Z)<|yV Z (gd g2 Z) (am Z Z Z Z)<|yS Z (aU Z (aK g2 Z) Z)<|nT ?_;cases h;exact au 2 ⟨Z,Z,Z,Z,t_⟩
 ·have h := b2;clear p2;refine zX Z (fun g3=>?_)<|fun g3=>?_
  ·refine zi g3 h fun h=>qR<|yS Z (zD Z Z Z bD Z Z)<|yS Z (zs Z Z Z Z bD Z Z Z Z)<|nT<|zr<|af ?_;cases h;exact zf (.one (eh Z Z)) zv
  ·refine zo g3 h fun h=>zk<|zT<|qR<|yS Z (zA Z Z bF)<|yS Z (zD Z Z Z cY Z Z)<|zb h fun v3 a3 h=>yS Z (yP Z Z Z (OA a3) dB)<|yS Z (ze Z d7 Z Z)<|yS Z (zs Z Z Z Z aI Z Z Z Z)<|nT<|qR<|yS Z (zA Z Z iO)<|yS Z (zD Z Z Z bd Z Z)<|yS Z (zA Z Z dc)<|yS Z (zD Z Z Z d6 Z Z)<|yS Z (zA Z Z cT)<|yS Z (zD Z Z Z aV Z Z)<|yS Z (am Z Z Z Z)<|yS Z (aa.build Z w8 Z Z Z)<|yS Z (ze Z gS Z Z)<|yS Z (zs Z Z Z Z bD Z Z Z Z)<|nT<|qR<|yS Z (zA Z Z iO)<|yS Z (zD Z Z Z bd Z Z)<|yS Z (zA Z Z cT)<|yS Z (zD Z Z Z aV Z Z)<|yS Z (aa.quo Z Z Z (by decide))<|zb h fun v4 a4 h=>yS Z (yP Z Z Z (P5 a4) bR)<|mN Z<|qR<|yS Z (zA Z Z dc)<|yS Z (zD Z Z Z d6 Z Z)<|zM Z<|zb h fun v5 a5 h=>yS Z (yP Z Z Z (L7 a5) bR)<|mN Z<|zQ<|qR<|mN Z<|LW.ent (bW.lazyCell (i:=3) (j:=7) (m:=12) Z Z Z Z Z Z)<|LW.ent (bW.lazyCell (i:=3) (j:=8) (m:=9) Z Z Z Z Z Z) ?_;obtain⟨v6,p6,b6⟩:=zB h;clear h;refine LW.tail (E:=[(4,.ptr 1 0),(7,.ptr 3 0)]) (O:=[.box (gu w),.box ph,.box (cE v3),.box [(kI w.C.W),(uQ w.C.Seed),(iQ w.C.Epoch),(iQ w.C.Num),(iQ w.C.Den),(kI w.Bad),.p (.int .i64 (i64.wrap (w.Tick+1))),.vec 12 4 (v6.o4.map dH).length 0 (v6.o4.map dH).length,(jO 5 v6.o5)],.vec 12 (v6.o4.map dH),.vec 9 (v6.o5.map da)]) ?_<|fun e6 K6 u6=>?_
   ·refine LW.block ?_;refine LW.iterB (E:=fun x1:dR=>[(1,.p (.slice 5 (l.map mZ))),(2,.ptr 0 0),(4,.ptr 1 0),(6,.ptr 2 0),(7,.ptr 3 0),(8,(iQ v4)),(9,(bQ v5)),(10,(iQ x1.i))]) (O:=fun x1=>[.box (gu w),.box ph,.box (cE v3),.box [(kI w.C.W),(uQ w.C.Seed),(iQ w.C.Epoch),(iQ w.C.Num),(iQ w.C.Den),(kI w.Bad),.p (.int .i64 (i64.wrap (w.Tick+1))),.vec 12 4 (x1.o4.map dH).length 0 (x1.o4.map dH).length,(jO 5 x1.o5)],.vec 12 (x1.o4.map dH),.vec 9 (x1.o5.map da)]) p6 (au 6 ⟨Z,Z,Z,Z,Z,Z,Z,Z,t_⟩)<|fun x1 z1 h m1=>?_;unfold lr at h;refine zQ<|qR<|zM Z<|yS Z (zA Z Z bF)<|yS Z (zD Z Z Z cY Z Z)<|yS Z (cx Z Z)<|yS Z (am Z Z Z Z)<|nT ?_;refine zX Z (fun g4=>?_)<|fun g4=>?_
    ·refine zi g4 h fun h=>zk<|zT<|zQ<|zl<|qR<|yS Z (zD Z Z Z aI Z Z)<|yS Z (ze Z d7 Z Z)<|yS Z (zs Z Z Z Z aI Z Z Z Z)<|nT<|qR<|yS Z (zA Z Z eJ)<|yS Z (zD Z Z Z bq Z Z)<|zg h fun q1 h=>yS Z (aa.appendZX da w.O Z Z Z Z iC.p Z bp q1 Z)<|mN Z<|zQ<|qR<|mN Z ?_;obtain⟨v7,p7,b7⟩:=zB h;clear h;refine LW.tail (E:=[(1,.p (.slice 5 (l.map mZ))),(2,.ptr 0 0),(4,.ptr 1 0),(6,.ptr 2 0),(7,.ptr 3 0),(8,(iQ v4)),(9,(bQ v5)),(10,(iQ x1.i)),(11,.ptr 6 0),(12,(jO 7 v7.offers))]) (O:=[.box (gu w),.box ph,.box (cE v3),.box [(kI w.C.W),(uQ w.C.Seed),(iQ w.C.Epoch),(iQ w.C.Num),(iQ w.C.Den),(kI w.Bad),.p (.int .i64 (i64.wrap (w.Tick+1))),.vec 12 4 (x1.o4.map dH).length 0 (x1.o4.map dH).length,(jO 5 x1.o5)],.vec 12 (x1.o4.map dH),.vec 9 (x1.o5.map da),.box (cE v7.v_in),.vec 9 (v7.offers.map da)]) ?_<|fun e7 K7 u7=>?_
     ·refine LW.block ?_;refine LW.iterB (E:=fun x2:dC=>[(1,.p (.slice 5 (l.map mZ))),(2,.ptr 0 0),(4,.ptr 1 0),(6,.ptr 2 0),(7,.ptr 3 0),(8,(iQ v4)),(9,(bQ v5)),(10,(iQ x1.i)),(11,.ptr 6 0),(12,(jO 7 x2.offers)),(13,(iQ x2.k))]) (O:=fun x2=>[.box (gu w),.box ph,.box (cE v3),.box [(kI w.C.W),(uQ w.C.Seed),(iQ w.C.Epoch),(iQ w.C.Num),(iQ w.C.Den),(kI w.Bad),.p (.int .i64 (i64.wrap (w.Tick+1))),.vec 12 4 (x1.o4.map dH).length 0 (x1.o4.map dH).length,(jO 5 x1.o5)],.vec 12 (x1.o4.map dH),.vec 9 (x1.o5.map da),.box (cE x2.v_in),.vec 9 (x2.offers.map da)]) p7 (au 8 ⟨Z,Z,Z,Z,Z,Z,Z,Z,Z,Z,Z,t_⟩)<|fun x2 z2 h m2=>?_;unfold lu at h;refine zQ<|qR<|zM Z<|zM Z<|yS Z (cx Z Z)<|yS Z (am Z Z Z Z)<|nT ?_;refine zX Z (fun g5=>?_)<|fun g5=>?_
      ·refine zi g5 h fun h=>zk<|zT<|zQ<|zl<|qR<|zM Z<|zM Z<|zb h fun y1 j1 h=>yS Z (zx Z Z Z ke j1 Z)<|yS Z (aa.fieldAddrC Z Z qM Z)<|yS Z (bS Z Z Z aV Z Z)<|zM Z<|zb h fun v8 a8 h=>yS Z (yP Z Z Z (OB a8) bR)<|mN Z<|zQ ?_;obtain⟨v9,p9,b9⟩:=zB h;clear h;refine LW.cut (E:=[(1,.p (.slice 5 (l.map mZ))),(2,.ptr 0 0),(4,.ptr 1 0),(6,.ptr 2 0),(7,.ptr 3 0),(8,(iQ v4)),(9,(bQ v5)),(10,(iQ x1.i)),(11,.ptr 6 0),(12,(jO 7 x2.offers)),(13,(iQ x2.k)),(98,(bQ v9))]) (O:=[.box (gu w),.box ph,.box (cE v3),.box [(kI w.C.W),(uQ w.C.Seed),(iQ w.C.Epoch),(iQ w.C.Num),(iQ w.C.Den),(kI w.Bad),.p (.int .i64 (i64.wrap (w.Tick+1))),.vec 12 4 (x1.o4.map dH).length 0 (x1.o4.map dH).length,(jO 5 x1.o5)],.vec 12 (x1.o4.map dH),.vec 9 (x1.o5.map da),.box (cE x2.v_in),.vec 9 (x2.offers.map da)]) ?_ ?_
       ·have h:=p9;refine dy<|zH Z<|zH Z<|zb h fun y2 j2 h=>yE Z (zx Z Z Z ke j2 Z)<|yE Z (aa.fieldAddrC Z Z At Z)<|yE Z (bS Z Z Z aV Z Z)<|yE Z (zA Z Z cT)<|yE Z (zD Z Z Z aV Z Z)<|yE Z (am Z Z Z Z)<|zH Z ?_;refine LO.cases 87 Z (fun(g6:(y2.Tick != w.Tick)=true)=>?_) (fun(g6:(y2.Tick != w.Tick)=false)=>?_)
        ·refine zi g6 h fun h=>yK Z (gd g6 Z) Z<|yK Z (gd g6 Z) Z<|yK Z (gd g6 Z) Z<|yK Z (gd g6 Z) Z<|yK Z (gd g6 Z) Z<|yK Z (gd g6 Z) Z<|yE Z (bA Z (aK g6 Z) Z)<|zH Z<|bY Z<|bY Z<|yE Z (bA Z Z Z)<|LO.nil<|zT ?_;cases h;exact au 8 ⟨Z,Z,Z,Z,Z,Z,Z,Z,Z,Z,Z,Z,t_⟩
        ·refine zo g6 h fun h=>yL Z (gd g6 Z) (zm Z Z)<|yL Z (gd g6 Z) (zm Z Z)<|zb h fun y3 j3 h=>yL Z (gd g6 Z) (zx Z Z Z ke j3 Z)<|yL Z (gd g6 Z) (aa.fieldAddrC Z Z qM Z)<|yL Z (gd g6 Z) (bS Z Z Z aV Z Z)<|yL Z (gd g6 Z) (am Z Z Z Z)<|yE Z (aU Z (aK g6 Z) Z)<|zH Z ?_;refine LO.cases 95 Z (fun(g7:(decide (y3.To<0))=true)=>?_) (fun(g7:(decide (y3.To<0))=false)=>?_)
         ·refine zi g7 h fun h=>yK Z (gd g7 Z) Z<|yK Z (gd g7 Z) Z<|yE Z (bA Z (aK g7 Z) Z)<|LO.nil<|zT ?_;cases h;exact au 8 ⟨Z,Z,Z,Z,Z,Z,Z,Z,Z,Z,Z,Z,t_⟩
         ·refine zo g7 h fun h=>yL Z (gd g7 Z) (zm Z Z)<|yL Z (gd g7 Z) (aa.not Z Z)<|yE Z (aU Z (aK g7 Z) Z)<|LO.nil<|zT ?_;cases h;exact au 8 ⟨Z,Z,Z,Z,Z,Z,Z,Z,Z,Z,Z,Z,t_⟩
       ·have h:=b9;clear p9;refine zX Z (fun g8=>?_)<|fun g8=>?_
        ·refine zi g8 h fun h=>zq<|aj<|zy<|zT<|zR<|zM Z<|yS Z (am Z Z Z Z)<|mN Z ?_;cases h;exact⟨_,rfl,au 8 ⟨Z,Z,Z,Z,Z,Z,Z,Z,Z,Z,Z,t_⟩⟩
        ·refine zo g8 h fun h=>zk<|zT<|zQ<|LW.ent (bW.slot Z)<|fC<|yF Z (zd Z Z Z bD Z Z) Z<|yF Z (zd Z Z Z aI Z Z) Z<|zK Z<|zK Z<|zb h fun y4 j4 h=>yG Z (fun H _=>zx Z Z Z ke j4 Z)<|yG Z (fun H _=>bS Z Z Z n4 Z Z)<|zb h fun v10 a10 h=>?_;refine yF (F:=[]) (s:=none) Z (fun H _=>yP Z Z Z (OC a10) oU) Z ?_;refine yF Z (ch.alloc Z d7 (id:=8) Z) Z<|yF Z (zt Z Z Z Z aI Z Z Z) Z ?_;refine LF.nil ⟨by kernel_rfl,?_⟩;refine zT<|qR<|zM Z<|zM Z<|zb h fun y5 j5 h=>yS Z (zx Z Z Z ke j5 Z)<|yS Z (aa.fieldAddrC Z Z Au Z)<|yS Z (bS Z Z Z vo Z Z)<|yS Z (aa.not Z Z)<|nT ?_;refine zX Z (fun g9=>?_)<|fun g9=>?_
         ·refine zi g9 h fun h=>zR<|yS Z (zD Z Z Z aI Z Z)<|yS Z (zD Z Z Z aI Z Z)<|zb h fun v11 a11 h=>yS Z (yP Z Z Z (BH a11) bR)<|yS Z (zs Z Z Z Z aI Z Z Z Z)<|zN<|ae<|zT<|zR<|zM Z<|yS Z (am Z Z Z Z)<|mN Z ?_;cases h;exact⟨_,rfl,au 8 ⟨Z,Z,Z,Z,Z,Z,Z,Z,Z,Z,Z,t_⟩⟩
         ·have h:=zO g9 h;obtain⟨v12,p12,b12⟩:=zB h;clear h;refine LW.cut (E:=[(1,.p (.slice 5 (l.map mZ))),(2,.ptr 0 0),(4,.ptr 1 0),(6,.ptr 2 0),(7,.ptr 3 0),(8,(iQ v4)),(9,(bQ v5)),(10,(iQ x1.i)),(11,.ptr 6 0),(12,(jO 7 x2.offers)),(13,(iQ x2.k)),(15,.ptr 8 0),(121,(bQ v12))]) (O:=[.box (gu w),.box ph,.box (cE v3),.box [(kI w.C.W),(uQ w.C.Seed),(iQ w.C.Epoch),(iQ w.C.Num),(iQ w.C.Den),(kI w.Bad),.p (.int .i64 (i64.wrap (w.Tick+1))),.vec 12 4 (x1.o4.map dH).length 0 (x1.o4.map dH).length,(jO 5 x1.o5)],.vec 12 (x1.o4.map dH),.vec 9 (x1.o5.map da),.box (cE x2.v_in),.vec 9 (x2.offers.map da),.box (cE v10)]) ?_ ?_
          ·have h:=p12;refine zR<|zM Z<|zM Z ?_;refine zc 116 Z (fun g10=>?_)<|fun g10=>?_
           ·refine zi g10 h fun h=>yV Z (gd g10 Z) (zA Z Z aL)<|yV Z (gd g10 Z) (zD Z Z Z bL Z Z)<|yV Z (gd g10 Z) (cx Z Z)<|yV Z (gd g10 Z) (am Z Z Z Z)<|yS Z (bA Z (aK g10 Z) Z)<|nT ?_;cases h;exact au 9 ⟨Z,Z,Z,Z,Z,Z,Z,Z,Z,Z,Z,Z,Z,t_⟩
           ·refine zo g10 h fun h=>yU Z (gd g10 Z) Z<|yU Z (gd g10 Z) Z<|yU Z (gd g10 Z) Z<|yU Z (gd g10 Z) Z<|yS Z (aU Z (aK g10 Z) Z)<|nT ?_;cases h;exact au 9 ⟨Z,Z,Z,Z,Z,Z,Z,Z,Z,Z,Z,Z,Z,t_⟩
          ·have h:=b12;clear p12;refine zX Z (fun g11=>?_)<|fun g11=>?_
           ·refine zi g11 h fun h=>fC<|zK Z<|yG Z (fun H _=>zA Z Z cT)<|yF Z (zd Z Z Z aV Z Z) Z<|yG Z (fun H _=>aa.quo Z Z Z (by decide))<|zK Z<|yG Z (fun H _=>zA Z Z aL)<|yF Z (zd Z Z Z bL Z Z) Z<|zb h fun y6 j6 h=>yG Z (fun H _=>zx Z Z Z cp j6 Z)<|yG Z (fun H _=>bS Z Z Z ca Z Z)<|yG Z (fun H _=>zA Z Z aL)<|yF Z (zd Z Z Z bL Z Z) Z<|zg h fun q2 h=>yG Z (fun H _=>aa.sliceLo Z Z Z cp q2)<|yG Z (fun H _=>zA Z Z aS)<|yF Z (zd Z Z Z cq Z Z) Z<|yG Z (fun H _=>aa.build Z nF Z Z Z)<|yG Z (fun H _=>aa.build Z xa Z Z Z)<|yG Z (fun H _=>gU Z bp Z Z Z Z Z)<|zg h fun q3 h=>yF Z (ch.appendX da x2.offers [Of.mk (i64.wrap (w.Tick.tdiv 3)) v4 y6 (Vw.mk (v10.B.drop (1:Int).toNat) v10.V)] rfl Z Z Z Z bp q3) Z<|zK Z ?_;refine LF.nil ⟨by kernel_rfl,?_⟩;refine ae<|zT<|zR<|zM Z<|yS Z (am Z Z Z Z)<|mN Z ?_;cases h;exact⟨_,rfl,au 8 ⟨Z,Z,Z,Z,Z,Z,Z,Z,Z,Z,Z,t_⟩⟩
           ·refine zo g11 h fun h=>zk<|ae<|zT<|zR<|zM Z<|yS Z (am Z Z Z Z)<|mN Z ?_;cases h;exact⟨_,rfl,au 8 ⟨Z,Z,Z,Z,Z,Z,Z,Z,Z,Z,Z,t_⟩⟩
      ·refine zo g5 h fun h=>zq<|aj<|aj<|zy<|zT ?_;cases h;obtain rfl:=(m2 _ rfl);exact au 8 ⟨Z,Z,Z,Z,Z,Z,Z,Z,Z,Z,t_⟩
     ·have h:=b7;clear p7;refine zT<|LW.weak u7<|zQ ?_;refine LW.ent (bW.frz (t:=12) (env':=[(1,.p (.slice 5 (l.map mZ))),(2,.ptr 0 0),(4,.ptr 1 0),(6,.ptr 2 0),(7,.ptr 3 0),(8,(iQ v4)),(9,(bQ v5)),(10,(iQ x1.i)),(11,.ptr 6 0)]) (H0:=[.box (gu w),.box ph,.box (cE v3),.box [(kI w.C.W),(uQ w.C.Seed),(iQ w.C.Epoch),(iQ w.C.Num),(iQ w.C.Den),(kI w.Bad),.p (.int .i64 (i64.wrap (w.Tick+1))),.vec 12 4 (x1.o4.map dH).length 0 (x1.o4.map dH).length,(jO 5 x1.o5)],.vec 12 (x1.o4.map dH),.vec 9 (x1.o5.map da),.box (cE v7.v_in)]) Z Z Z Z Z ⟨Z,Z,Z,Z,Z,Z,Z,Z,Z,t_⟩ Z Z) ?_;refine LW.ent (bW.slot Z)<|fC<|yG Z (fun H _=>zA Z Z iO)<|yF Z (zd Z Z Z bd Z Z) Z<|yG Z (fun H _=>zA Z Z bF)<|yF Z (zd Z Z Z cY Z Z) Z<|zK Z<|zb h fun y7 j7 h=>yG Z (fun H _=>zx Z Z Z dM j7 Z)<|yG Z (fun H _=>bS Z Z Z aP Z Z)<|yF Z (zd Z Z Z aI Z Z) Z<|zK Z<|zb h fun v13 a13 h=>?_;refine yF (F:=[]) (s:=none) Z (fun H _=>yP Z Z Z (NV a13) wL) Z ?_;refine zK Z<|yG Z (fun H _=>eZ Z Z Z)<|yG Z (fun H _=>eZ Z Z Z)<|yF Z (ch.alloc Z eX (id:=7) Z) Z<|yF Z (zt Z Z Z Z aP Z Z Z) Z<|zK Z ?_;refine LF.nil ⟨by kernel_rfl,?_⟩;refine zT<|qR<|yS Z (zA Z Z bF)<|yS Z (zD Z Z Z cY Z Z)<|yS Z (zD Z Z Z aP Z Z)<|yS Z (gU Z dM Z Z Z Z Z)<|zg h fun q4 h=>yS Z (aa.appendX dH x1.o4 [v13.1] rfl Z Z Z iC.p Z dM q4 Z)<|yS Z (zA Z Z bF)<|yS Z (zs Z Z Z Z cY Z Z Z Z)<|nT<|zR<|yS Z (zA Z Z eJ)<|yS Z (zD Z Z Z bq Z Z)<|zM Z<|zg h fun q5 h=>yS Z (aa.appendX da x1.o5 v13.2 Z Z Z Z iC.p Z bp q5 Z)<|yS Z (zA Z Z eJ)<|yS Z (zs Z Z Z Z bq Z Z Z Z)<|zN<|ae<|zT<|zR<|zM Z<|yS Z (am Z Z Z Z)<|mN Z ?_;cases h;exact⟨_,rfl,au 6 ⟨Z,Z,Z,Z,Z,Z,Z,Z,t_⟩⟩
    ·refine zo g4 h fun h=>zq<|aj<|aj<|zy<|zT ?_;cases h;obtain rfl:=(m1 _ rfl);exact au 6 ⟨Z,Z,t_⟩
   ·have h:=b6;clear p6;refine zT<|LW.weak u6<|qR<|yS Z (zD Z Z Z bD Z Z)<|yS Z (zs Z Z Z Z bD Z Z Z Z)<|nT<|zr ?_;cases h;exact zf (.one (eh Z Z))<|(Conv.agg (.cons zv (.cons zv (.cons zv (.cons zv (.cons zv (.cons zv (.cons zv (.cons (Conv.vecAll Z Z Z) (.cons (Conv.vecAll Z Z Z) .nil))))))))))
structure fV where
 i:Int
 w:Wd
def lw (l:List Ac)(ticks:Int)(x1:fV):Option (fV⊕fV):=(bif decide (x1.i<ticks)then some (decide (x1.i<300))else some false).bind fun v2=>bif v2 then (vX x1.w l).bind fun v3=>some (.inl (fV.mk (i64.wrap (x1.i+1)) v3))else some (.inr (fV.mk x1.i x1.w))
def CZ (w:Wd)(l:List Ac)(ticks:Int):Option Wd:=(iter (lw l ticks) aY (fV.mk 0 w)).bind fun v1=>some v1.w
theorem Oz {w:Wd}{r_:Wd}(h:CZ w l ticks=some r_):aq prog 33 [xJ w,.slice 5 (l.map mZ),.int .i64 ticks] [xJ r_]:=by
 refine zh Tryz.func33 Z Z Z Z ?_;unfold CZ at h;refine qR<|yS Z (bv Z Z Z Z Z)<|yS Z (ze Z gS Z Z)<|nT<|zQ<|qR<|mN Z ?_;obtain⟨v1,p1,q1⟩:=zB h;clear h;refine LW.tail (E:=[(3,.ptr 0 0),(6,.ptr 1 0)]) (O:=[.box (gu v1.w),.box ph]) ?_<|fun e1 K1 u1=>?_
 ·refine LW.block ?_;refine LW.iterB (E:=fun x1:fV=>[(1,.p (.slice 5 (l.map mZ))),(2,(iQ ticks)),(3,.ptr 0 0),(6,.ptr 1 0),(7,(iQ x1.i))]) (O:=fun x1=>[.box (gu x1.w),.box ph]) p1 (au 2 ⟨Z,Z,Z,Z,Z,t_⟩)<|fun x1 z1 h m1=>?_;unfold lw at h;refine zQ ?_;obtain⟨v2,p2,q2⟩:=zB h;clear h;refine LW.cut (E:=[(1,.p (.slice 5 (l.map mZ))),(2,(iQ ticks)),(3,.ptr 0 0),(6,.ptr 1 0),(7,(iQ x1.i)),(14,(bQ v2))]) (O:=[.box (gu x1.w),.box ph]) ?_ ?_
  ·have h:=p2;refine zR<|zM Z<|zM Z<|yS Z (am Z Z Z Z)<|zM Z ?_;refine zc 11 Z (fun g1=>?_)<|fun g1=>?_
   ·refine zi g1 h fun h=>yV Z (gd g1 Z) (zm Z Z)<|yV Z (gd g1 Z) (am Z Z Z Z)<|yS Z (bA Z (aK g1 Z) Z)<|nT ?_;cases h;exact au 2 ⟨Z,Z,Z,Z,Z,Z,t_⟩
   ·refine zo g1 h fun h=>yU Z (gd g1 Z) Z<|yU Z (gd g1 Z) Z<|yS Z (aU Z (aK g1 Z) Z)<|nT ?_;cases h;exact au 2 ⟨Z,Z,Z,Z,Z,Z,t_⟩
  ·have h:=q2;clear p2;refine zX Z (fun g2=>?_)<|fun g2=>?_
   ·refine zi g2 h fun h=>zk<|zT<|zQ<|zl<|zR<|yS Z (zD Z Z Z bD Z Z)<|zM Z<|zb h fun v3 a3 h=>yS Z (yP Z Z Z (Ox a3) bR)<|yS Z (zs Z Z Z Z bD Z Z Z Z)<|zN<|ae<|zT<|zR<|zM Z<|yS Z (am Z Z Z Z)<|mN Z ?_;cases h;exact⟨_,rfl,au 2 ⟨Z,Z,Z,Z,Z,t_⟩⟩
   ·refine zo g2 h fun h=>zq<|aj<|aj<|zy<|zT ?_;cases h;obtain rfl:=(m1 _ rfl);exact au 2 ⟨Z,Z,t_⟩
 ·have h:=q1;clear p1;refine zT<|LW.weak u1<|qR<|yS Z (zD Z Z Z bD Z Z)<|yS Z (zs Z Z Z Z bD Z Z Z Z)<|nT<|zr ?_;cases h;exact zf (.one (eh Z Z)) zv
structure fi where
 i:Int
 o4:List Nd
def lv (c:Cf)(bad:List Int)(x1:fi):Option (fi⊕fi):=bif decide (x1.i<(c.W.length:Int))then (GL bad x1.i).bind fun v3=>bif !v3 then (CW x1.i).bind fun v4=>bif bG x1.o4.length [v4].length 176 then some (.inl (fi.mk (i64.wrap (x1.i+1)) (x1.o4++[v4])))else none else some (.inl (fi.mk (i64.wrap (x1.i+1)) x1.o4))else some (.inr (fi.mk x1.i x1.o4))
def yT (c:Cf)(bad:List Int):Option Wd:=bif bG 0 bad.length 8 then (GG c).bind fun v1=>bif !v1 then some (Wd.mk c bad 0 [] [])else (iter (lv c bad) aY (fi.mk 0 ([]:List Nd))).bind fun v2=>some (Wd.mk c bad 3 v2.o4 [])else none
theorem Oy {bad:List Int}{r_:Wd}(h:yT c bad=some r_):aq prog 29 [gF c,.slice 1 (bad.map be)] [xJ r_]:=by
 refine zh Tryz.func29 Z Z Z Z ?_;unfold yT at h;refine qR<|yS Z (bv Z Z Z Z Z)<|yS Z (ze Z gS Z Z)<|nT<|zQ<|LW.ent (bW.slot Z)<|LW.ent (bW.slot Z)<|fC<|yF Z (zd Z Z Z bd Z Z) Z<|zK Z<|zg h fun q1 h=>yF Z (ch.appendZX be bad Z Z (id:=2) Z Z Z dN q1) Z<|yG Z (fun H _=>aa.build Z w8 Z Z Z)<|yF Z (ch.alloc Z gS (id:=3) Z) Z<|yF Z (zt Z Z Z Z bD Z Z Z) Z ?_;refine LF.nil ⟨by kernel_rfl,?_⟩;refine zT<|qR<|yS Z (zD Z Z Z bd Z Z)<|zb h fun v1 a1 h=>yS Z (yP Z Z Z (L6 a1) dB)<|mN Z<|zQ<|qR<|zM Z<|yS Z (aa.not Z Z)<|nT ?_;refine zX Z (fun g1=>?_)<|fun g1=>?_
 ·refine zi g1 h fun h=>qR<|yS Z (zD Z Z Z bD Z Z)<|yS Z (zs Z Z Z Z bD Z Z Z Z)<|nT<|zr<|af ?_;cases h;exact zf (.one (eh Z Z))<|(Conv.agg (.cons zv (.cons zv (.cons zv (.cons zv (.cons zv (.cons (Conv.vecAll Z Z Z) (.cons zv (.cons Conv.zs (.cons Conv.zs .nil))))))))))
 ·refine zo g1 h fun h=>zk<|zT<|qR<|yS Z (zA Z Z cT)<|yS Z (zs Z Z Z Z aV Z Z Z Z)<|nT<|zQ<|zQ<|LW.ent (bW.lazyCell (i:=3) (j:=7) (m:=12) Z Z Z Z Z Z)<|zR<|mN Z ?_;obtain⟨v2,p2,b2⟩:=zB h;clear h;refine LW.tail (E:=[(4,.ptr 1 0),(5,.ptr 3 0)]) (O:=[.box (cd c),.box ph,.vec 1 (bad.map be),.box [(kI c.W),(uQ c.Seed),(iQ c.Epoch),(iQ c.Num),(iQ c.Den),(jI 2 bad),(iQ 3),.vec 12 4 (v2.o4.map dH).length 0 (v2.o4.map dH).length,.zs],.vec 12 (v2.o4.map dH)]) ?_<|fun e2 K2 u2=>?_
  ·refine LW.block ?_;refine LW.iterB (E:=fun x1:fi=>[(1,(kI bad)),(2,.ptr 0 0),(4,.ptr 1 0),(5,.ptr 3 0),(7,(iQ x1.i))]) (O:=fun x1=>[.box (cd c),.box ph,.vec 1 (bad.map be),.box [(kI c.W),(uQ c.Seed),(iQ c.Epoch),(iQ c.Num),(iQ c.Den),(jI 2 bad),(iQ 3),.vec 12 4 (x1.o4.map dH).length 0 (x1.o4.map dH).length,.zs],.vec 12 (x1.o4.map dH)]) p2 (au 5 ⟨Z,Z,Z,Z,Z,t_⟩)<|fun x1 z1 h m1=>?_;unfold lv at h;refine zQ<|qR<|zM Z<|yS Z (zA Z Z dZ)<|yS Z (zD Z Z Z d6 Z Z)<|yS Z (cx Z Z)<|yS Z (am Z Z Z Z)<|nT ?_;refine zX Z (fun g2=>?_)<|fun g2=>?_
   ·refine zi g2 h fun h=>zk<|zT<|zQ<|zl<|qR<|zM Z<|zM Z<|zb h fun v3 a3 h=>yS Z (yP Z Z Z (L7 a3) bR)<|mN Z<|qR<|zM Z<|yS Z (aa.not Z Z)<|nT ?_;refine zX Z (fun g3=>?_)<|fun g3=>?_
    ·refine zi g3 h fun h=>fC<|yG Z (fun H _=>zA Z Z bF)<|yF Z (zd Z Z Z cY Z Z) Z<|zK Z<|zb h fun v4 a4 h=>?_;refine yF (F:=[]) (s:=none) Z (fun H _=>yP Z Z Z (N0 a4) dB) Z ?_;refine yG Z (fun H _=>gU Z dM Z Z Z Z Z)<|zg h fun q2 h=>yF Z (ch.appendX dH x1.o4 [v4] rfl Z Z Z Z dM q2) Z<|yG Z (fun H _=>zA Z Z bF)<|yF Z (zt Z Z Z Z cY Z Z Z) Z ?_;refine LF.nil ⟨by kernel_rfl,?_⟩;refine ae<|zT<|zR<|zM Z<|yS Z (am Z Z Z Z)<|mN Z ?_;cases h;exact⟨_,rfl,au 5 ⟨Z,Z,Z,Z,Z,t_⟩⟩
    ·refine zo g3 h fun h=>zk<|ae<|zT<|zR<|zM Z<|yS Z (am Z Z Z Z)<|mN Z ?_;cases h;exact⟨_,rfl,au 5 ⟨Z,Z,Z,Z,Z,t_⟩⟩
   ·refine zo g2 h fun h=>zq<|aj<|aj<|zy<|zT ?_;cases h;obtain rfl:=(m1 _ rfl);exact au 5 ⟨Z,Z,t_⟩
  ·have h:=b2;clear p2;refine zT<|LW.weak u2<|qR<|yS Z (zD Z Z Z bD Z Z)<|yS Z (zs Z Z Z Z bD Z Z Z Z)<|nT<|zr ?_;cases h;exact zf (.one (eh Z Z))<|(Conv.agg (.cons zv (.cons zv (.cons zv (.cons zv (.cons zv (.cons (Conv.vecAll Z Z Z) (.cons zv (.cons (Conv.vecAll Z Z Z) (.cons Conv.zs .nil))))))))))
theorem G2 {a:Int}(h:0<=a)(h2:a<=9223372036854775807):bits .and .i64 a 1=a % 2:=by
 obtain⟨n,rfl⟩:∃n:Nat,a=n:=⟨a.toNat,by omega⟩;have e:bits .and .i64 (n:Int) 1=i64.wrap ((BitVec.ofInt 64 (n:Int) &&& BitVec.ofInt 64 1).toNat:Int):=rfl
 have e2:(BitVec.ofInt 64 (n:Int)).toNat=n:=by
  rw[BitVec.toNat_ofInt];omega
 rw[e,BitVec.toNat_and,e2,show(BitVec.ofInt 64 1).toNat=1 by decide,Nat.and_one_is_mod];rw[cR];omega
def qS (to:Int):Nat->Int
 |0=>to
 |k+1=>i64.wrap ((qS to k).tdiv 2)
theorem Dx {to:Int}(h:0<=to)(h2:to<=9223372036854775807):∀k:Nat,qS to k=to / 2 ^ k
 |0=>by simp[qS]
 |k+1=>by
  have ih:=Dx h h2 k;unfold qS;have h0:0<=to / 2 ^ k:=Int.ediv_nonneg h (le_of_lt (pow_pos (by omega)));have h1:to / 2 ^ k<=to:=Int.ediv_le_self _ h;rw[ih,Int.tdiv_eq_ediv_of_nonneg h0,cR,Int.ediv_ediv_of_nonneg (le_of_lt (pow_pos (by omega))),Int.pow_succ]
theorem GB (to:Int){k:Nat}(hk:k<=60):yW to (k:Int)=some ((qS to k).tmod 2==1):=by
 have e:=av (step:=lz (k:Int)) (n:=k) (fun j=>fX.mk (qS to j) (j:Int)) (fX.mk (qS to k) (k:Int)) (fun j hj=>by
  unfold lz;simp only;rw[eN,ah (n:=j)]
  rfl) (by
  unfold lz;simp only
  rw[gt]) (by omega)
 have e':iter (lz (k:Int)) aY (fX.mk to 0)=_:=e;unfold yW;rw[e',ob]
theorem H8 {to:Int}(h:0<=to)(h2:to<=9223372036854775807){k:Nat}(hk:k<=60):((qS to k).tmod 2==1)= !xy to (k:Int):=by
 have h0:0<=to / 2 ^ k:=Int.ediv_nonneg h (le_of_lt (pow_pos (by omega)));have h1:to / 2 ^ k<=to:=Int.ediv_le_self _ h
 have hm:min (Int.toNat (k:Int)) i64.bits=k:=by
  show min (Int.toNat (k:Int)) 64=k;omega
 unfold xy;rw[hm,Int.fdiv_eq_ediv_of_nonneg _ (le_of_lt (pow_pos (by omega))),G2 h0 (by omega),Dx h h2,Int.tmod_eq_emod_of_nonneg h0];generalize to / 2 ^ k=q
 have:q % 2=0\/q % 2=1:=by omega
 rcases this with e|e <;>rw[e] <;>rfl
theorem GD {l:List Bk}(b:Bk)(hl:l.length<=100000):yY l b=some (decide (b∈l)):=by
 have e:=nA (step:=jK l b) (n:=l.length) (fun j=>fl.mk (j:Int)) true (fun j=>(l[j]?).all fun y=> !decide (y=b)) (fun j hj=>by
  obtain⟨y,hy,-⟩:=aA hj;unfold jK;simp only;rw[eN,aw hy,ob,Hx,ah (n:=j),hy];simp only[all_some]
  cases decide (y=b) <;>rfl) (by
  unfold jK;simp only
  rw[gt])
 have e':(iter (jK l b) aY (fl.mk 0)=some (.inl (fl.mk (l.length:Int)))/\_)\/(iter (jK l b) aY (fl.mk 0)=some (.inr true)/\_):=e;unfold yY;rcases e' with⟨e1,k⟩|⟨e1,j,hj,k⟩
 ·rw[e1,ob,aR]
  ·rfl
  ·intro hm;obtain⟨j,hj⟩:=List.getElem?_of_mem hm;have:=k j (List.getElem?_eq_some_iff.1 hj).1;rw[hj]at this;simp at this
 ·obtain⟨y,hy,hm⟩:=aA hj;rw[hy]at k;rw[e1,ob,aQ (show b∈l by simp at k;rw[<-k];exact hm)];rfl
theorem GE {l:List Vt}(b:Vt)(hl:l.length<=100000):yZ l b=some (decide (b∈l)):=by
 have e:=nA (step:=jL l b) (n:=l.length) (fun j=>fm.mk (j:Int)) true (fun j=>(l[j]?).all fun y=> !decide (y=b)) (fun j hj=>by
  obtain⟨y,hy,-⟩:=aA hj;unfold jL;simp only;rw[eN,aw hy,ob,JT,ah (n:=j),hy];simp only[all_some]
  cases decide (y=b) <;>rfl) (by
  unfold jL;simp only
  rw[gt])
 have e':(iter (jL l b) aY (fm.mk 0)=some (.inl (fm.mk (l.length:Int)))/\_)\/(iter (jL l b) aY (fm.mk 0)=some (.inr true)/\_):=e;unfold yZ;rcases e' with⟨e1,k⟩|⟨e1,j,hj,k⟩
 ·rw[e1,ob,aR]
  ·rfl
  ·intro hm;obtain⟨j,hj⟩:=List.getElem?_of_mem hm;have:=k j (List.getElem?_eq_some_iff.1 hj).1;rw[hj]at this;simp at this
 ·obtain⟨y,hy,hm⟩:=aA hj;rw[hy]at k;rw[e1,ob,aQ (show b∈l by simp at k;rw[<-k];exact hm)];rfl
theorem DH (p q:Prop)[Decidable p][Decidable q]:(bif decide p then some true else some (decide q))=some (decide (p\/q)):=by
 by_cases h:p
 ·rw[aQ h,ct,aQ (.inl h)]
 ·rw[aR h,cf];by_cases h2:q
  ·rw[aQ h2,aQ (.inr h2)]
  ·rw[aR h2,aR fun h3=>h3.elim h h2]
theorem GC {w:Wd}{al:Vw}{a:Ac}(h1:a.B.length<=1000)(h2:a.V.length<=1000)(hb:w.Bad.length<=100)(h3:al.B.length<=100000)(h4:al.V.length<=100000):yX w al a=some (m5 w.Bad al a):=by
 have e:=av (step:=lA w al a) (n:=a.B.length) (fun k=>fj.mk (k:Int) ((a.B.take k).filter fun x=>decide (x.From∈w.Bad\/x∈al.B))) (fj.mk (a.B.length:Int) (a.B.filter fun x=>decide (x.From∈w.Bad\/x∈al.B))) (fun k hk=>by
  obtain⟨y,hy,-⟩:=aA hk;have hlen:=bU (p:=fun x:Bk=>decide (x.From∈w.Bad\/x∈al.B)) (l:=a.B) k;unfold lA;simp only;rw[eN,aw hy,ob,pu,ob,ob,GD y h3,ob,DH,ob,bg hy,ah (n:=k)]
  cases decide (y.From∈w.Bad\/y∈al.B)with
  |true=>rw[ct,ob,aC (by simp only[length_singleton];omega),ct,ct]
  |false=>rw[cf,cf,append_nil]) (by
  unfold lA;simp only
  rw[gt,take_length]) (by omega)
 have f:=av (step:=lC w al a) (n:=a.V.length) (fun k=>fk.mk (k:Int) ((a.V.take k).filter fun x=>decide (x.From∈w.Bad\/x∈al.V))) (fk.mk (a.V.length:Int) (a.V.filter fun x=>decide (x.From∈w.Bad\/x∈al.V))) (fun k hk=>by
  obtain⟨y,hy,-⟩:=aA hk;have hlen:=bU (p:=fun x:Vt=>decide (x.From∈w.Bad\/x∈al.V)) (l:=a.V) k;unfold lC;simp only;rw[eN,aw hy,ob,pu,ob,ob,GE y h4,ob,DH,ob,bg hy,ah (n:=k)]
  cases decide (y.From∈w.Bad\/y∈al.V)with
  |true=>rw[ct,ob,aC (by simp only[length_singleton];omega),ct,ct]
  |false=>rw[cf,cf,append_nil]) (by
  unfold lC;simp only
  rw[gt,take_length]) (by omega)
 have e':iter (lA w al a) aY (fj.mk 0 [])=_:=e;have f':iter (lC w al a) aY (fk.mk 0 [])=_:=f;unfold yX;rw[e',ob,f',ob];rfl
theorem F3 {n:Nd}(h:kN 500 n):yc n=some (fu n):=by
 obtain⟨⟨a1,a2⟩,⟨b1,b2⟩,-⟩:=h;unfold yc;rw[ml,ob];rfl
theorem GA {l:List Nd}(hl:l.length<=10)(h:∀n∈l,kN 500 n):vY l=some (mz l ⟨[],[]⟩):=by
 have e:=av (step:=ly l) (n:=l.length) (fun k=>fW.mk (k:Int) (mz (l.take k) ⟨[],[]⟩)) (fW.mk (l.length:Int) (mz l ⟨[],[]⟩)) (fun k hk=>by
  obtain⟨y,hy,hm⟩:=aA hk;have h1:=qz (l:=l.take k) (w:=⟨[],[]⟩) (k:=500) fun n hn=>h n (List.mem_of_mem_take hn);have h2:=sj (h y hm);rw[length_take]at h1;simp only[List.length_nil]at h1;unfold ly;simp only
  rw[eN,aw hy,ob,F3 (h y hm),ob,ml,ob,aM hy,wa,ah (n:=k)]) (by
  unfold ly;simp only
  rw[gt,take_length]) (by omega)
 have e':iter (ly l) aY (fW.mk 0 ⟨[],[]⟩)=_:=e;unfold vY;rw[e',ob]
theorem Ev (w:Wd)(r:List Ac)(y:Ac)(k:Nat):bk w (r++[y]) k=if y.Tick=w.Tick/\y.To>=0 then dv (u8 w) (fz w) w.Bad (eY w) (decide (fz w∈w.Bad)) (k:Int) (bk w r k) y else bk w r k:=by
 unfold bk fp;rw[List.filter_append,List.foldl_append];by_cases h:y.Tick=w.Tick/\y.To>=0
 ·rw[i1_ h,List.filter_cons_of_pos (by simpa using h)];rfl
 ·rw[i0_ h,List.filter_cons_of_neg (by simpa using h)];rfl
theorem Gy {w:Wd}(h:vz w)(hl:nx l)(hi:∀a∈l,aW .i64 a.To){k:Nat}(hk:k<=60)(o4:List Nd)(o5:List Of) :
  iter (lu w l (eY w) (fz w) (decide (fz w∈w.Bad)) (dR.mk (k:Int) o4 o5)) aY (dC.mk 0 (eY w) w.O)=some (dC.mk (l.length:Int) (bk w l k).1 (bk w l k).2):=by
 have hal:=C6 h;have ho:=h.o;have hb:=h.bad;have hll:=hl.len
 have e:=av (step:=lu w l (eY w) (fz w) (decide (fz w∈w.Bad)) (dR.mk (k:Int) o4 o5)) (n:=l.length) (fun j=>dC.mk (j:Int) (bk w (l.take j) k).1 (bk w (l.take j) k).2) (dC.mk (l.length:Int) (bk w l k).1 (bk w l k).2) (fun j hj=>by
  obtain⟨y,hy,hm⟩:=aA hj;have et:l.take (j+1)=l.take j++[y]:=aM hy;have hlen:=xE (slot:=u8 w) (wh:=fz w) (bad:=w.Bad) (al:=eY w) (me:=decide (fz w∈w.Bad)) (k:=(k:Int)) (l:=fp w (l.take j)) (s:=(eY w,w.O)) fun a ha=>hl.each a (List.mem_of_mem_take (mem_filter.1 ha).1);have hcl:(fp w (l.take j)).length<=j:=Nat.le_trans (List.length_filter_le _ _) (by rw[length_take];omega);obtain⟨y1,y2⟩:=hl.each y hm;have hf:=qK w.Bad (eY w) y;have hky:=hi y hm
  have gate:((some y).bind fun y2=>bif y2.Tick != w.Tick then some true else(some y).bind fun y3=>bif decide (y3.To<0)then some true else some (!((qS y.To k).tmod 2==1)))=some (!decide ((y.Tick=w.Tick/\y.To>=0)/\xy y.To (k:Int)=false)):=by
   rw[ob,ob];by_cases h1:y.Tick=w.Tick
   ·rw[show(y.Tick != w.Tick)=false by simp[h1],cf];by_cases h2:y.To<0
    ·rw[aQ h2,ct,aR (by omega)];rfl
    ·rw[aR h2,cf,H8 (by omega) hky.2 hk,Bool.not_not]
     cases hof:xy y.To (k:Int)with
     |true=>rw[aR (by simp)];rfl
     |false=>rw[aQ ⟨⟨h1,by omega⟩,rfl⟩];rfl
   ·rw[show(y.Tick != w.Tick)=true by simp[h1],ct,aR (by simp[h1])];rfl
  unfold lu;simp only;rw[eN,aw hy,ob,GB y.To hk,ob,gate,ob,ah (n:=j),et,Ev];by_cases hc:(y.Tick=w.Tick/\y.To>=0)/\xy y.To (k:Int)=false
  ·rw [aQ hc,Bool.not_true,cf,ob,GC (by omega) (by omega) hb (by omega) (by omega),ob,ob,i1_ hc.1];unfold dv;rw[i0_ (by rw[hc.2];simp)]
   have hlen':(bk w (l.take j) k).1.B.length<=10000+8*30/\(bk w (l.take j) k).1.V.length<=10000+8*30/\(bk w (l.take j) k).2.length<=20+30:=by
    unfold bk;simp only at hlen;omega
   generalize bk w (l.take j) k=s at hlen'⊢
   cases hO:y.Offer with
   |false=>rw[Bool.not_false,ct,i1_ rfl,ml,ob]
   | true=>
    rw[Bool.not_true,cf,i0_ (by simp)]
    cases hme:decide (fz w∈w.Bad)with
    |false=>rw[cf,ob,cf,i0_ (by simp)]
    | true=>
     rw[ct,ob,i1_ rfl]
     cases hB:(m5 w.Bad (eY w) y).B with
     |nil=>rw[aR (by simp),cf]
     |cons b r=>
      rw[aQ (show(((b::r).length:Nat):Int)>0 by rw[length_cons];omega),ct,show ix (b::r) 0=some b from rfl,ob,show xp (b::r) 1 ((b::r).length:Int)=true from aQ (by rw[length_cons];omega),ct,aC (by simp only[length_singleton];omega),ct];rfl
  ·rw[aR hc,Bool.not_false,ct];by_cases h1:y.Tick=w.Tick/\y.To>=0
   ·rw[i1_ h1];unfold dv
    rw[i1_ (by
     cases hof:xy y.To (k:Int)with
     |true=>rfl
     |false=>exact absurd ⟨h1,hof⟩ hc)]
   ·rw[i0_ h1]) (by
  unfold lu;simp only
  rw[gt,take_length]) (by omega)
 exact e
def yI :Option Bool:=(Li).bind fun v1=>(vU v1 ([]:List Int)).bind fun v2=>(tX v2 ([]:List Ac) 3).bind fun v3=>bif v3.Tick==6 then bif (v3.N.length:Int)==1 then (ix v3.N 0).bind fun y1=>bif ((y1.C.ID.1==((nm (Bk.mk 1 0 (0,0) 0)).1))&&((y1.C.ID.2==((nm (Bk.mk 1 0 (0,0) 0)).2))&&true))then (Gt v3 v3).bind fun v4=>some v4 else some false else some false else some false
theorem On (h:yI=some r_):aq prog 22 [] [.bool r_]:=by
 refine zh Tryz.func22 Z Z Z Z ?_;unfold yI at h;refine qR<|mN Z<|qR<|zb h fun v1 a1 h=>yS Z (yP Z Z Z (Qp a1) .nil)<|zb h fun v2 a2 h=>yS Z (yP Z Z Z (KG a2) (.cons zv (.cons Conv.zs .nil)))<|zb h fun v3 a3 h=>yS Z (yP Z Z Z (KH a3) (.cons zv (.cons Conv.zs dB)))<|yS Z (ze Z gS Z Z)<|yS Z (zs Z Z Z Z bD Z Z Z Z)<|nT<|zQ<|dy<|yE Z (zA Z Z cT)<|yE Z (zD Z Z Z aV Z Z)<|yE Z (am Z Z Z Z)<|zH Z ?_;refine LO.cases 8 Z (fun(g1:(v3.Tick==6)=true)=>?_) (fun(g1:(v3.Tick==6)=false)=>?_)
 ·refine zi g1 h fun h=>yL Z (gd g1 Z) (zA Z Z bF)<|yL Z (gd g1 Z) (zD Z Z Z cY Z Z)<|yL Z (gd g1 Z) (cx Z Z)<|yL Z (gd g1 Z) (am Z Z Z Z)<|yE Z (bA Z (aK g1 Z) Z)<|zH Z ?_;refine LO.cases 14 Z (fun(g2:((v3.N.length:Int)==1)=true)=>?_) (fun(g2:((v3.N.length:Int)==1)=false)=>?_)
  ·refine zi g2 h fun h=>yL Z (gd g2 Z) (zA Z Z bF)<|yL Z (gd g2 Z) (zD Z Z Z cY Z Z)<|zb h fun y1 j1 h=>yL Z (gd g2 Z) (zx Z Z Z dM j1 Z)<|yL Z (gd g2 Z) (aa.fieldAddrC Z Z gM Z)<|yL Z (gd g2 Z) (aa.fieldAddrC Z Z mH Z)<|yL Z (gd g2 Z) (bS Z Z Z aG Z Z)<|yL Z (gd g2 Z) (aa.build Z LY Z Z Z)<|yL Z (gd g2 Z) (zC Z Z Z (by kernel_rfl) (zp (M0 (b:=(Bk.mk 1 0 (0,0) 0))) dB))<|yL Z (gd g2 Z) (aa.eqlAgg Z Z Z Z Z gY)<|yE Z (bA Z (aK g2 Z) Z)<|zH Z ?_;refine LO.cases 25 Z (fun(g3:((y1.C.ID.1==((nm (Bk.mk 1 0 (0,0) 0)).1))&&((y1.C.ID.2==((nm (Bk.mk 1 0 (0,0) 0)).2))&&true))=true)=>?_) (fun(g3:((y1.C.ID.1==((nm (Bk.mk 1 0 (0,0) 0)).1))&&((y1.C.ID.2==((nm (Bk.mk 1 0 (0,0) 0)).2))&&true))=false)=>?_)
   ·refine zi g3 h fun h=>yL Z (gd g3 Z) (zD Z Z Z bD Z Z)<|yL Z (gd g3 Z) (zD Z Z Z bD Z Z)<|zb h fun v4 a4 h=>yL Z (gd g3 Z) (yP Z Z Z (Ou a4) bR)<|yE Z (bA Z (aK g3 Z) Z)<|zH Z<|LO.nil<|zT<|zr ?_;cases h;exact ba Z
   ·refine zo g3 h fun h=>yK Z (gd g3 Z) Z<|yK Z (gd g3 Z) Z<|yK Z (gd g3 Z) Z<|yE Z (aU Z (aK g3 Z) Z)<|zH Z<|LO.nil<|zT<|zr ?_;cases h;exact ba Z
  ·refine zo g2 h fun h=>yK Z (gd g2 Z) Z<|yK Z (gd g2 Z) Z<|yK Z (gd g2 Z) Z<|yK Z (gd g2 Z) Z<|yK Z (gd g2 Z) Z<|yK Z (gd g2 Z) Z<|yK Z (gd g2 Z) Z<|yK Z (gd g2 Z) Z<|yK Z (gd g2 Z) Z<|yE Z (aU Z (aK g2 Z) Z)<|zH Z<|bY Z<|bY Z<|bY Z<|yE Z (aU Z Z Z)<|zH Z<|LO.nil<|zT<|zr ?_;cases h;exact ba Z
 ·refine zo g1 h fun h=>yK Z (gd g1 Z) Z<|yK Z (gd g1 Z) Z<|yK Z (gd g1 Z) Z<|yK Z (gd g1 Z) Z<|yE Z (aU Z (aK g1 Z) Z)<|zH Z<|bY Z<|bY Z<|bY Z<|bY Z<|bY Z<|bY Z<|bY Z<|bY Z<|bY Z<|yE Z (aU Z Z Z)<|zH Z<|bY Z<|bY Z<|bY Z<|yE Z (aU Z Z Z)<|zH Z<|LO.nil<|zT<|zr ?_;cases h;exact ba Z
structure fh where
 i:Int
def jH (l:List Ac)(x1:fh):Option (fh⊕(fh⊕Bool)):=bif decide (x1.i<(l.length:Int))then (ix l x1.i).bind fun y1=>bif decide ((y1.B.length:Int)>8)then some (.inr (.inr false))else (ix l x1.i).bind fun y2=>bif decide ((y2.V.length:Int)>8)then some (.inr (.inr false))else some (.inl (fh.mk (i64.wrap (x1.i+1))))else some (.inr (.inl (fh.mk x1.i)))
def vW (l:List Ac)(most:Int):Option Bool:=bif decide ((l.length:Int)>most)then some false else (iter (jH l) aY (fh.mk 0)).bind fun b_v1=>Sum.elim (fun _=>some true) some b_v1
theorem Ot {most:Int}(h:vW l most=some r_):aq prog 23 [.slice 5 (l.map mZ),.int .i64 most] [.bool r_]:=by
 refine zh Tryz.func23 Z Z Z Z ?_;unfold vW at h;refine qR<|mN Z<|zQ<|qR<|zM Z<|yS Z (cx Z Z)<|zM Z<|yS Z (am Z Z Z Z)<|nT ?_;refine zX Z (fun g1=>?_)<|fun g1=>?_
 ·refine zi g1 h fun h=>qR<|mN Z<|LW.ret<|af ?_;cases h;exact ba Z
 ·refine zo g1 h fun h=>zk<|zT<|zQ<|qR<|mN Z ?_;obtain⟨w1,p1,q1⟩:=zB h;clear h;refine LW.tailB (b:=w1) (E:=fun v1=>[(4,(bQ false))]) (O:=fun v1=>[]) ?_<|fun v1 f1 e1 K1 u1=>?_
  ·refine LW.block ?_;refine LW.iterB (E:=fun x1:fh=>[(0,.p (.slice 5 (l.map mZ))),(4,(bQ false)),(5,(iQ x1.i))]) (O:=fun x1=>[]) p1 (au 0 ⟨Z,Z,Z,t_⟩)<|fun x1 z1 h m1=>?_;unfold jH at h;refine zQ<|qR<|zM Z<|zM Z<|yS Z (cx Z Z)<|yS Z (am Z Z Z Z)<|nT ?_;refine zX Z (fun g2=>?_)<|fun g2=>?_
   ·refine zi g2 h fun h=>zk<|zT<|zQ<|zl<|qR<|zM Z<|zM Z<|zb h fun y1 j1 h=>yS Z (zx Z Z Z ke j1 Z)<|yS Z (aa.fieldAddrC Z Z lL Z)<|yS Z (bS Z Z Z bL Z Z)<|yS Z (cx Z Z)<|yS Z (am Z Z Z Z)<|zM Z ?_;refine zc 23 Z (fun g3=>?_)<|fun g3=>?_
    ·refine zi g3 h fun h=>yU Z (gd g3 Z) Z<|yU Z (gd g3 Z) Z<|yU Z (gd g3 Z) Z<|yU Z (gd g3 Z) Z<|yU Z (gd g3 Z) Z<|yU Z (gd g3 Z) Z<|yU Z (gd g3 Z) Z<|yS Z (bA Z (aK g3 Z) Z)<|nT<|LW.condT Z<|qR<|mN Z<|zr<|ao<|af<|af<|ao<|af<|af ?_;cases h;obtain rfl:=(m1 _ rfl);have h:=bT q1;cases h;exact ba Z
    ·refine zo g3 h fun h=>yV Z (gd g3 Z) (zm Z Z)<|yV Z (gd g3 Z) (zm Z Z)<|zb h fun y2 j2 h=>yV Z (gd g3 Z) (zx Z Z Z ke j2 Z)<|yV Z (gd g3 Z) (aa.fieldAddrC Z Z lM Z)<|yV Z (gd g3 Z) (bS Z Z Z cq Z Z)<|yV Z (gd g3 Z) (cx Z Z)<|yV Z (gd g3 Z) (am Z Z Z Z)<|yS Z (aU Z (aK g3 Z) Z)<|nT ?_;refine zX Z (fun g4=>?_)<|fun g4=>?_
     ·refine zi g4 h fun h=>qR<|mN Z<|LW.ret<|ao<|af<|af<|ao<|af<|af ?_;cases h;obtain rfl:=(m1 _ rfl);have h:=bT q1;cases h;exact ba Z
     ·refine zo g4 h fun h=>zk<|ae<|zT<|zR<|zM Z<|yS Z (am Z Z Z Z)<|mN Z ?_;cases h;exact⟨_,rfl,au 0 ⟨Z,Z,Z,t_⟩⟩
   ·refine zo g2 h fun h=>zq<|aj<|aj<|zy<|zT ?_;cases h;obtain rfl:=(m1 _ rfl);exact⟨_,rfl,au 0 ⟨Z,t_⟩⟩
  ·obtain rfl:=f1;have h:=cU q1;clear p1;refine zT<|LW.weak u1<|qR<|mN Z<|zr ?_;cases h;exact ba Z
def vV (c:Cf)(bad:List Int)(l:List Ac):Option Bool:=(vW l 25).bind fun v1=>bif v1 then (D9 c).bind fun v2=>bif v2 then bif decide ((c.W.length:Int)<=6)then some (decide ((bad.length:Int)<=6))else some false else some false else some false
theorem Oo {bad:List Int}(h:vV c bad l=some r_):aq prog 31 [gF c,.slice 1 (bad.map be),.slice 5 (l.map mZ)] [.bool r_]:=by
 refine zh Tryz.func31 Z Z Z Z ?_;unfold vV at h;refine qR<|yS Z (bv Z Z Z Z Z)<|mN Z<|qR<|zM Z<|zb h fun v1 a1 h=>yS Z (yP Z Z Z (Ot a1) bR)<|mN Z<|qR<|zM Z<|zM Z ?_;refine zc 11 Z (fun g1=>?_)<|fun g1=>?_
 ·refine zi g1 h fun h=>yV Z (gd g1 Z) (zD Z Z Z bd Z Z)<|zb h fun v2 a2 h=>yV Z (gd g1 Z) (yP Z Z Z (L5 a2) dB)<|yS Z (bA Z (aK g1 Z) Z)<|zM Z ?_;refine zc 15 Z (fun g2=>?_)<|fun g2=>?_
  ·refine zi g2 h fun h=>yV Z (gd g2 Z) (zA Z Z dZ)<|yV Z (gd g2 Z) (zD Z Z Z d6 Z Z)<|yV Z (gd g2 Z) (cx Z Z)<|yV Z (gd g2 Z) (am Z Z Z Z)<|yS Z (bA Z (aK g2 Z) Z)<|zM Z ?_;refine zc 21 Z (fun g3=>?_)<|fun g3=>?_
   ·refine zi g3 h fun h=>yV Z (gd g3 Z) (zm Z Z)<|yV Z (gd g3 Z) (cx Z Z)<|yV Z (gd g3 Z) (am Z Z Z Z)<|yS Z (bA Z (aK g3 Z) Z)<|mN Z<|zr ?_;cases h;exact ba Z
   ·refine zo g3 h fun h=>yU Z (gd g3 Z) Z<|yU Z (gd g3 Z) Z<|yU Z (gd g3 Z) Z<|yS Z (aU Z (aK g3 Z) Z)<|mN Z<|zr ?_;cases h;exact ba Z
  ·refine zo g2 h fun h=>yU Z (gd g2 Z) Z<|yU Z (gd g2 Z) Z<|yU Z (gd g2 Z) Z<|yU Z (gd g2 Z) Z<|yS Z (aU Z (aK g2 Z) Z)<|zM Z<|aB Z<|aB Z<|aB Z<|yS Z (aU Z Z Z)<|mN Z<|zr ?_;cases h;exact ba Z
 ·refine zo g1 h fun h=>yU Z (gd g1 Z) Z<|yU Z (gd g1 Z) Z<|yS Z (aU Z (aK g1 Z) Z)<|zM Z<|aB Z<|aB Z<|aB Z<|aB Z<|yS Z (aU Z Z Z)<|zM Z<|aB Z<|aB Z<|aB Z<|yS Z (aU Z Z Z)<|mN Z<|zr ?_;cases h;exact ba Z
theorem Gn :yI=some true:=by kernel_rfl
theorem Gs (l:List Ac){k:Int}(hk:k<=100):vW l k=some false\/(vW l k=some true/\(l.length:Int)<=k/\∀a∈l,a.B.length<=8/\a.V.length<=8):=by
 unfold vW;by_cases h:(l.length:Int)>k
 ·rw[aQ h,ct];exact .inl rfl
 ·rw [aR h,cf]
  have e:=E1 (step:=jH l) (n:=l.length) (fun j=>fh.mk (j:Int)) false (fun j=>∀a,l[j]?=some a->a.B.length<=8/\a.V.length<=8) (fun j hj=>by
   obtain⟨y,hy,-⟩:=aA hj;unfold jH;simp only;rw[eN,aw hy,ob,ob];by_cases h1:(y.B.length:Int)>8
   ·rw[aQ h1,ct];exact .inl rfl
   ·rw[aR h1,cf];by_cases h2:(y.V.length:Int)>8
    ·rw[aQ h2,ct];exact .inl rfl
    ·rw[aR h2,cf,ah (n:=j)];refine .inr ⟨rfl,fun a ha=>?_⟩;rw[hy]at ha;obtain rfl:=Option.some.inj ha
     omega) (by
   unfold jH;simp only
   rw[gt]) (by omega)
  have e2:iter (jH l) aY (fh.mk 0)=some (.inr false)\/(iter (jH l) aY (fh.mk 0)=some (.inl (fh.mk (l.length:Int)))/\_):=e;rcases e2 with e2|⟨e2,h3⟩
  ·rw[e2,ob];exact .inl rfl
  ·rw[e2,ob];refine .inr ⟨rfl,by omega,fun a ha=>?_⟩;obtain⟨j,hj⟩:=List.getElem?_of_mem ha;exact h3 j (List.getElem?_eq_some_iff.1 hj).1 a hj
structure Fm (c:Cf)(bad:List Int)(l:List Ac):Prop where
 acts:nx l
 len:l.length<=25
 may:cZ c
 w:c.W.length<=6
 bad:bad.length<=6
theorem Gp (c:Cf)(bad:List Int)(l:List Ac):vV c bad l=some false\/(vV c bad l=some true/\Fm c bad l):=by
 unfold vV;rcases Gs l (k:=25) (by omega)with e|⟨e,h1,h2⟩
 ·rw[e,ob,cf];exact .inl rfl
 ·rw[e,ob,ct,mr,ob];by_cases hm:cZ c
  ·rw[aQ hm,ct];by_cases hw:(c.W.length:Int)<=6
   ·rw[aQ hw,ct];by_cases hb:(bad.length:Int)<=6
    ·rw[aQ hb];exact .inr ⟨rfl,⟨by omega,h2⟩,by omega,hm,by omega,by omega⟩
    ·rw[aR hb];exact .inl rfl
   ·rw[aR hw,cf];exact .inl rfl
  ·rw[aR hm,cf];exact .inl rfl
def lQ (bad:List Int)(n:Nat):List Int:=((List.range n).map Int.ofNat).filter fun i=>decide (i∉bad)
theorem uH (bad:List Int)(n:Nat):lQ bad (n+1)=lQ bad n++if (n:Int)∈bad then[]else[(n:Int)]:=by
 unfold lQ;rw[List.range_succ,map_append,List.filter_append];by_cases h:(n:Int)∈bad <;>simp[h]
theorem sf (bad:List Int)(n:Nat):(lQ bad n).length<=n:=Nat.le_trans (List.length_filter_le _ _) (by simp)
def xx (i:Int):Nd:=⟨i,3,⟨[],[]⟩,⟨[],[]⟩,[],⟨(0,0),0,0⟩,false⟩
def mK (c:Cf)(bad:List Int):Wd:=⟨c,bad,3,(lQ bad c.W.length).map xx,[]⟩
theorem Gl {bad:List Int}(hm:cZ c)(hb:bad.length<=100):vU c bad=some (mK c bad):=by
 have hw:=hm.2.1
 have e:=av (step:=ll c bad) (n:=c.W.length) (fun k=>ff.mk (k:Int) ((lQ bad k).map xx)) (ff.mk (c.W.length:Int) ((lQ bad c.W.length).map xx)) (fun k hk=>by
  have hg:=sf bad k;unfold ll;simp only;rw[eN,qc,ob,uH,ah (n:=k)];by_cases h:(k:Int)∈bad
  ·rw[aQ h,Bool.not_true,cf,i1_ h,append_nil]
  ·rw[aR h,Bool.not_false,ct,i0_ h];unfold CV;rw[ob,aC (by rw[length_map];simp only[length_singleton];omega),ct,map_append]
   rfl) (by
  unfold ll;simp only
  rw[gt]) (by omega)
 have e':iter (ll c bad) aY (ff.mk 0 [])=_:=e;unfold vU;rw[aC,ct,mr,ob,aQ hm,Bool.not_true,cf,e',ob];rfl
theorem J9 (c:Cf)(bad:List Int):(mK c bad).N.map Nd.No=lQ bad c.W.length:=by
 show((lQ bad c.W.length).map xx).map Nd.No=_;rw[List.map_map,show Nd.No ∘ xx=id from rfl,List.map_id]
theorem HP (hm:cZ c):i4 c ⟨[],[]⟩:=⟨hm,Fe,by simp,by simp,fun b hb=>(by cases hb),fun v hv=>(by cases hv),nodup_nil,fun v hv=>(by cases hv)⟩
theorem lF {k:Nat}(hk:l.length<=k)(h:∀a∈l,a.B.length<=8/\a.V.length<=8):(ja l).B.length<=8*k/\(ja l).V.length<=8*k:=by
 have:∀m:List Ac,(∀a∈m,a.B.length<=8/\a.V.length<=8)->(m.flatMap Ac.B).length<=8*m.length/\(m.flatMap Ac.V).length<=8*m.length:=by
  intro m
  induction m with
  |nil=>intro _;simp
  |cons a r ih=>
   intro h;have h1:=ih fun b hb=>h b (List.mem_cons_of_mem _ hb);have h2:=h a (List.mem_cons_self ..);rw[List.flatMap_cons,List.flatMap_cons,List.length_append,List.length_append,length_cons];omega
 have:=this l h;unfold ja;simp only;omega
theorem HZ {bad:List Int}(hm:cZ c)(hw:c.W.length<=6)(hb:bad.length<=10)(U:Vw):Em U (mK c bad)/\Kq (mK c bad):=by
 have hg:=sf bad c.W.length
 have hN:∀n∈(mK c bad).N,∃i,n=xx i:=fun n hn=>by
  obtain⟨i,-,h⟩:=mem_map.1 hn;exact⟨i,h.symm⟩
 refine⟨⟨by show((lQ bad c.W.length).map xx).length<=6;rw[length_map];omega,hb,fun n hn=>?_,Nat.zero_le _,fun o ho=>by cases ho⟩,⟨hm,Int.le_refl _,by show(3:Int)<=100000;omega,fun n hn=>?_⟩⟩
 ·obtain⟨i,rfl⟩:=hN n hn;exact⟨HP hm,⟨nodup_nil,nodup_nil⟩,Nat.zero_le _,⟨uj,uj,fun o ho=>(by cases ho)⟩,fun o ho=>(by cases ho)⟩
 ·obtain⟨i,rfl⟩:=hN n hn;rfl
theorem nC {bad:List Int}(hm:cZ c)(hw:c.W.length<=6)(hb:bad.length<=10)(hl:nx l):∀k,k<=15->Nl (ja l) (mK c bad) l k:=by
 have h:=HZ hm hw hb (ja l);have h1:=lF hl.len hl.each;exact Ig h.1 hl (vd _) h.2 (by omega) (by omega) (by show(3:Int)<=1000;omega)
theorem Eo {bad:List Int}(hm:cZ c)(hw:c.W.length<=6)(hb:bad.length<=10)(hl:nx l){t:Int}(ht:t<=15):tX (mK c bad) l t=some (jn (mK c bad) l t.toNat):=by
 have h1:=lF hl.len hl.each;exact Gq hl (vd _) (by omega) (by omega) ht fun k hk=>nC hm hw hb hl k (by omega)
theorem Ka {w:Wd}{k:Nat}(hB:U.B.length<=300)(hV:U.V.length<=300)(hk:k<=15)(h:Nl U w l k):vz (jn w l k):=tJ h.ok ⟨by have:=h.B;omega,by have:=h.V;omega⟩
theorem Gw {w:Wd}(hW:w.C.W.length<=1000)(h:vz w)(hl:nx l)(hi:∀a∈l,aW .i64 a.To)(hR:∀k n,w.N[k]?=some n->LE w.C n (bk w l k).1 (bk w l k).2):vX w l=some (mC w l):=by
 have hN:=h.n;have gate:=uJ w;rw[mr,ob]at gate;unfold vX mC;rw[pp hW,ob,gate,ob]
 cases hid:qT w with
 |true=>rw[ct,i1_ rfl]
 | false=>
  have hT:∀k n,w.N[k]?=some n->(du w.C n (bk w l k).1 (bk w l k).2).2.length<=1:=fun k n hn=>(Ik (hR k n hn).g).2.1;have hsl:=iu w l;have ho:=h.o;have hb:=h.bad
  have hfl:∀k,k<=w.N.length->(((fy w l).take k).flatMap (·.2)).length<=k:=by
   intro k
   induction k with
   |zero=>intro _;simp
   |succ k ih=>
    intro hk;obtain⟨n,hn⟩:∃n,w.N[k]?=some n:=⟨_,List.getElem?_eq_getElem (by omega)⟩;rw[List.take_add_one,ir hn,List.flatMap_append,List.length_append];have:=ih (by omega);have:=hT k n hn;simp only[Option.toList_some,List.flatMap_cons,List.flatMap_nil,append_nil];omega
  have e:=av (step:=lr w l (eY w) (fz w) (decide (fz w∈w.Bad))) (n:=w.N.length) (fun k=>dR.mk (k:Int) (((fy w l).take k).map (·.1)) (((fy w l).take k).flatMap (·.2))) (dR.mk (w.N.length:Int) ((fy w l).map (·.1)) ((fy w l).flatMap (·.2))) (fun k hk=>by
   obtain⟨y,hy,hm⟩:=aA hk;have hk2:=hfl k (by omega);have hT1:=hT k y hy;have hw:=(nY (hR k y hy).g).1;unfold lr;simp only;rw[eN,aC,ct,Gy h hl hi (by omega),ob,aw hy,ob,F0 (hR k y hy),hw,ob,aC (by rw[length_map,length_take];simp only[length_singleton];omega),ct,aC,ct,ah (n:=k)];rw[List.take_add_one,ir hy,map_append,List.flatMap_append]
   simp) (by
   unfold lr;simp only
   rw[gt,List.take_of_length_le (by omega)]) (by omega)
  have e':iter (lr w l (eY w) (fz w) (decide (fz w∈w.Bad))) aY (dR.mk 0 [] [])=_:=e;have hall:vY w.N=some (eY w):=GA hN h.nodes;have hwho:Zz w.C (i64.wrap (w.Tick.tdiv 3))=some (fz w):=wU hW;rw[cf,hall,ob,hwho,ob,pu,ob,e',ob,i0_ (by simp)]
theorem Gz {bad:List Int}(hW:c.W.length<=1000)(hb:bad.length<=100):yT c bad=some (if cZ c then mK c bad else⟨c,bad,0,[],[]⟩):=by
 unfold yT;rw[aC,ct,pp hW,ob];by_cases hm:cZ c
 ·have hw:=hm.2.1
  have e:=av (step:=lv c bad) (n:=c.W.length) (fun k=>fi.mk (k:Int) ((lQ bad k).map xx)) (fi.mk (c.W.length:Int) ((lQ bad c.W.length).map xx)) (fun k hk=>by
   have hg:=sf bad k;unfold lv;simp only;rw[eN,pu,ob,uH,ah (n:=k)];by_cases h:(k:Int)∈bad
   ·rw[aQ h,Bool.not_true,cf,i1_ h,append_nil]
   ·rw[aR h,Bool.not_false,ct,i0_ h];unfold CW;rw[ob,aC (by rw[length_map];simp only[length_singleton];omega),ct,map_append]
    rfl) (by
   unfold lv;simp only
   rw[gt]) (by omega)
  have e':iter (lv c bad) aY (fi.mk 0 [])=_:=e;rw[aQ hm,Bool.not_true,cf,e',ob,i1_ hm];rfl
 ·rw[aR hm,Bool.not_false,ct,i0_ hm]
structure M3 (w:Wd):Prop where
 n:w.N.length<=100000
 nodes:∀n∈w.N,IR n
 o:w.O.length<=100000
 offs:∀o∈w.O,i5 o
 bad:w.Bad.length<=100000
theorem Hz {w:Wd}(h:vz w):M3 w:=
 ⟨by have:=h.n;omega,fun n hn=>E6 (by omega) (h.nodes n hn),by have:=h.o;omega,rA (by omega) h.offs,by have:=h.bad;omega⟩
theorem De {α:Type}(a b:List α):((a.length:Int) != (b.length:Int))=true->a≠b:=fun h e=>by subst e;simp at h
theorem Gr {a b:Wd}(h:M3 a)(hc:a.C=b.C):yJ a b=some (vE a b):=by
 obtain⟨h1,h2,h3,h4,h5⟩:=h
 have no:∀{x:Bool},a≠b->x=false->some x=some (vE a b):=fun hn hx=>by rw[cS hn,hx]
 unfold yJ;rw[F2 h3 h4,ob];by_cases e1:a.O=b.O
 case neg=>rw[cS e1,Bool.not_false,ct,ob,ct];exact no (fun e=>e1 (by rw[e])) rfl
 rw[cL e1,Bool.not_true,cf];by_cases e2:a.Tick=b.Tick
 case neg=>rw[show(a.Tick != b.Tick)=true by simp[e2],ct,ob,ct];exact no (fun e=>e2 (by rw[e])) rfl
 rw[show(a.Tick != b.Tick)=false by simp[e2],cf]
 cases e3:((a.Bad.length:Int) != (b.Bad.length:Int))with
 |true=>rw[ct,ob,ct];exact no (fun e=>De _ _ e3 (by rw[e])) rfl
 | false=>
  rw[cf,ob]
  cases e4:((a.N.length:Int) != (b.N.length:Int))with
  |true=>rw[ct];exact no (fun e=>De _ _ e4 (by rw[e])) rfl
  | false=>
   rw[cf]
   have l3:a.Bad.length=b.Bad.length:=by have:=bne_eq_false_iff_eq.1 e3;omega
   have l4:a.N.length=b.N.length:=by have:=bne_eq_false_iff_eq.1 e4;omega
   have p:=sE (step:=jG a b) (a:=a.Bad) (b:=b.Bad) (fun k=>fg.mk (k:Int)) l3 (fun j y z hj hm hy hz=>by
    unfold jG;simp only
    rw[eN,aw hy,aw hz,ob,ob,w7,w6,ah (n:=j)]) (by
    unfold jG;simp only
    rw[gt])
   have q:=sE (step:=iK a b) (a:=a.N) (b:=b.N) (fun k=>eE.mk (k:Int)) l4 (fun j y z hj hm hy hz=>by
    unfold iK;simp only
    rw[eN,aw hy,aw hz,ob,ob,F1 (h2 y hm),ob,w6,ah (n:=j)]) (by
    unfold iK;simp only
    rw[gt])
   have p':(iter (jG a b) aY (fg.mk 0)=some (.inl (fg.mk (a.Bad.length:Int)))/\a.Bad=b.Bad)\/(iter (jG a b) aY (fg.mk 0)=some (.inr false)/\a.Bad≠b.Bad):=p;have q':(iter (iK a b) aY (eE.mk 0)=some (.inl (eE.mk (a.N.length:Int)))/\a.N=b.N)\/(iter (iK a b) aY (eE.mk 0)=some (.inr false)/\a.N≠b.N):=q;rcases p' with⟨ep,hp⟩|⟨ep,hp⟩
   ·rw[ep,ob];show((iter (iK a b) aY (eE.mk 0)).bind _)=_;rcases q' with⟨eq,hq⟩|⟨eq,hq⟩
    ·rw[eq,ob,cL (by
      obtain⟨a1,a2,a3,a4,a5⟩:=a;obtain⟨b1,b2,b3,b4,b5⟩:=b;simp only at hc e1 e2 hp hq
      rw[hc,e1,e2,hp,hq])]
     rfl
    ·rw[eq,ob];exact no (fun e=>hq (by rw[e])) rfl
   ·rw[ep,ob];exact no (fun e=>hp (by rw[e])) rfl
theorem Ms {w:Wd}{P P':Bk->Prop}{Q Q':Vt->Prop}(hw:Em U w)(hU:Kp U)(hl:nx l)(hs:ny (ja l) U)(ht:Kq w)(hP:∀b,P b->P' b)(hQ:∀v,Q v->Q' v)
  (hn:∀n∈w.N,p9 P Q n) (ho:∀o∈w.O,ko P Q o) (ha:∀a∈l,(∀b∈a.B,b.From∈w.Bad->P b)/\∀v∈a.V,v.From∈w.Bad->Q v)
  (hp:∀k n,w.N[k]?=some n->n.Tick.tmod 3=0->n.No=oR w.C (aF n)->P' (l7 (cK w.C n (bk w l k).1 (bk w l k).2) w.C (aF n)))
  (hv:∀k n,w.N[k]?=some n->n.Tick.tmod 3=1->n.No∈nG w.C (aF n)->Q' (It w.C n (bk w l k).1 (bk w l k).2)) :
  (∀n∈(mC w l).N,p9 P' Q' n)/\∀o∈(mC w l).O,ko P' Q' o:=by
 have hi:=Bc ht;have hG:∀k n,w.N[k]?=some n->nw w.C n (bk w l k).1 (bk w l k).2:=fun k n h=>JY hw hU hl hs h;have hc:=fun k=>nH hn ho ha k
 have hall:=fun k n (h:w.N[k]?=some n)=>A8 (P:=P') (Q:=Q') (hG k n h) (oH hP hQ (hn n (List.mem_of_getElem? h)))
  ⟨fun b hb=>hP b ((hc k).1.1 b hb),fun v hv=>hQ v ((hc k).1.2 v hv)⟩ (fun y hy=>rO hP hQ ((hc k).2 y hy)) (fun _=>hp k n h) fun _=>hv k n h
 refine⟨fun x hx=>?_,fun o ho=>?_⟩
 ·obtain⟨k,hk,e⟩:=List.getElem_of_mem hx
  have h1:(mC w l).N[k]?=some x:=by rw[List.getElem?_eq_getElem hk,e]
  rw[tx hi]at h1
  cases hn:w.N[k]? with
  |none=>rw[hn]at h1;cases h1
  |some n=>
   rw[hn]at h1;have e2:=Option.some.inj h1;subst e2;exact(hall k n hn).1
 ·obtain⟨k,n,hn,h⟩:=C9 hi ho;exact(hall k n hn).2 o h
def DT (a:Ac):Prop:=aW .i64 a.Tick/\aW .i64 a.To/\(∀b∈a.B,kp b)/\∀v∈a.V,Nn v
theorem O8 {p:PV}(h:tv (.agg [.int .i64,.int .i64,.bool,.slice 5 (.agg [.int .i64,.int .i64,.int .u64,.int .u64,.int .u64]),.slice 4 (.agg [.int .i64,.int .i64,.int .u64,.int .u64])]) p):∃a:Ac,p=mZ a/\DT a:=by
 cases h with|agg h=>
 cases h with|cons a1 h=>cases h with|cons a2 h=>cases h with|cons a3 h=>cases h with|cons a4 h=>cases h with|cons a5 h=>
  cases h;obtain⟨x,rfl,hx⟩:=qU (fun _ h=>O9 h) a4;obtain⟨y,rfl,hy⟩:=qU (fun _ h=>Pc h) a5;cases a1;cases a2;cases a3;exact⟨⟨_,_,_,x,y⟩,rfl,by assumption,by assumption,hx,hy⟩
def CY (c:Cf)(bad:List Int)(l:List Ac)(ticks:Int):Option Bool:=(yI).bind fun v1=>(vV c bad l).bind fun v2=>(bif !v1 then some true else bif !v2 then some true else some (decide (ticks>10))).bind fun v3=>bif v3 then some v1 else (vU c bad).bind fun v4=>(tX v4 l ticks).bind fun v5=>(yT c bad).bind fun v6=>(CZ v6 l ticks).bind fun v7=>(yJ v5 v7).bind fun v8=>some v8
theorem Ow {bad:List Int}(h:CY c bad l ticks=some r_):aq prog 5 [gF c,.slice 1 (bad.map be),.slice 5 (l.map mZ),.int .i64 ticks] [.bool r_]:=by
 refine zh Tryz.func5 Z Z Z Z ?_;unfold CY at h;refine qR<|yS Z (bv Z Z Z Z Z)<|mN Z<|qR<|zb h fun v1 a1 h=>yS Z (yP Z Z Z (On a1) .nil)<|mN Z<|qR<|yS Z (zD Z Z Z bd Z Z)<|zM Z<|zM Z<|zb h fun v2 a2 h=>yS Z (yP Z Z Z (Oo a2) oU)<|mN Z<|zQ ?_;obtain⟨v3,p3,q3⟩:=zB h;clear h;refine LW.cut (E:=[(1,(kI bad)),(2,.p (.slice 5 (l.map mZ))),(3,(iQ ticks)),(4,.ptr 0 0),(8,(bQ false)),(9,(bQ v1)),(28,(bQ v3))]) (O:=[.box (cd c)]) ?_ ?_
 ·have h:=p3;refine zR<|zM Z<|yS Z (aa.not Z Z)<|zM Z ?_;refine zc 21 Z (fun g1=>?_)<|fun g1=>?_
  ·refine zi g1 h fun h=>yU Z (gd g1 Z) Z<|yU Z (gd g1 Z) Z<|yS Z (bA Z (aK g1 Z) Z)<|zM Z<|aB Z<|aB Z<|yS Z (bA Z Z Z)<|nT ?_;cases h;exact au 1 ⟨Z,Z,Z,Z,Z,Z,Z,t_⟩
  ·refine zo g1 h fun h=>yV Z (gd g1 Z) (zm Z Z)<|yV Z (gd g1 Z) (aa.not Z Z)<|yS Z (aU Z (aK g1 Z) Z)<|zM Z ?_;refine zc 25 Z (fun g2=>?_)<|fun g2=>?_
   ·refine zi g2 h fun h=>yU Z (gd g2 Z) Z<|yU Z (gd g2 Z) Z<|yS Z (bA Z (aK g2 Z) Z)<|nT ?_;cases h;exact au 1 ⟨Z,Z,Z,Z,Z,Z,Z,t_⟩
   ·refine zo g2 h fun h=>yV Z (gd g2 Z) (zm Z Z)<|yV Z (gd g2 Z) (am Z Z Z Z)<|yS Z (aU Z (aK g2 Z) Z)<|nT ?_;cases h;exact au 1 ⟨Z,Z,Z,Z,Z,Z,Z,t_⟩
 ·have h:=q3;clear p3;refine zX Z (fun g3=>?_)<|fun g3=>?_
  ·refine zi g3 h fun h=>qR<|zM Z<|mN Z<|zr<|af ?_;cases h;exact ba Z
  ·refine zo g3 h fun h=>zk<|zT<|qR<|yS Z (zD Z Z Z bd Z Z)<|zM Z<|zb h fun v4 a4 h=>yS Z (yP Z Z Z (KG a4) bR)<|zM Z<|zM Z<|zb h fun v5 a5 h=>yS Z (yP Z Z Z (KH a5) oU)<|yS Z (ze Z gS Z Z)<|yS Z (zs Z Z Z Z bD Z Z Z Z)<|nT<|qR<|yS Z (zD Z Z Z bd Z Z)<|zM Z<|zb h fun v6 a6 h=>yS Z (yP Z Z Z (Oy a6) bR)<|zM Z<|zM Z<|zb h fun v7 a7 h=>yS Z (yP Z Z Z (Oz a7) oU)<|yS Z (ze Z gS Z Z)<|yS Z (zs Z Z Z Z bD Z Z Z Z)<|nT<|qR<|yS Z (zD Z Z Z bD Z Z)<|yS Z (zD Z Z Z bD Z Z)<|zb h fun v8 a8 h=>yS Z (yP Z Z Z (Oq a8) bR)<|mN Z<|qR<|zM Z<|mN Z<|zr ?_;cases h;exact ba Z
theorem DF (h:∀a∈l,DT a)(bad:List Int):∀a∈l,(∀b∈a.B,b.From∈bad->kp b)/\∀v∈a.V,v.From∈bad->True:=fun a ha=>⟨fun b hb _=>(h a ha).2.2.1 b hb,fun _ _ _=>trivial⟩
structure Gx (U:Vw)(w:Wd)(l:List Ac):Prop where
 ok:Em U w
 sz:Kp U
 acts:nx l
 sub:ny (ja l) U
 time:Kq w
theorem HH {bad:List Int}(hb:Fm c bad l){k:Nat}(hk:k<=15:=by omega):Gx (vG (ja l) (mK c bad) l k) (jn (mK c bad) l k) l:=by
 have hR:=nC (bad:=bad) hb.may hb.w (by have:=hb.bad;omega) hb.acts k hk;have hal:=lF hb.len hb.acts.each;have h1:=hR.B;have h2:=hR.V;exact⟨hR.ok,⟨by omega,by omega⟩,hb.acts,hR.sub,hR.time⟩
theorem Po {w:Wd}(G:Gx U w l)(ha:∀a∈l,DT a)(hn:∀n∈w.N,p9 kp (fun _=>True) n/\aW .i64 n.No)(ho:∀o∈w.O,ko kp (fun _=>True) o):(∀n∈(mC w l).N,p9 kp (fun _=>True) n)/\∀o∈(mC w l).O,ko kp (fun _=>True) o:=
 Ms (P:=kp) (P':=kp) (Q:=fun _=>True) (Q':=fun _=>True) G.ok G.sz G.acts G.sub G.time (fun _ h=>h) (fun _ h=>h) (fun n h=>(hn n h).1) ho (DF ha _) (fun j n hj _ _=>DI (x:=cK w.C n (bk w l j).1 (bk w l j).2) (hn n (List.mem_of_getElem? hj)).2 w.C (DL _)) fun _ _ _ _ _=>trivial
theorem Ia {c:Cf}{bad:List Int}{l:List Ac}(hb:Fm c bad l)(ha:∀a∈l,DT a):∀k,k<=15->(∀n∈(jn (mK c bad) l k).N,p9 kp (fun _=>True) n/\aW .i64 n.No)/\∀o∈(jn (mK c bad) l k).O,ko kp (fun _=>True) o
 |0,_=>by
  have h:=(HZ hb.may hb.w (bad:=bad) (by have:=hb.bad;omega) ⟨[],[]⟩).1;refine⟨fun n hn=>⟨oH (fun b hb=>by cases hb) (fun v hv=>by cases hv) (h.nodes n hn).all,?_⟩,fun o ho=>by cases ho⟩;obtain⟨i,hi,rfl⟩:=mem_map.1 hn;obtain⟨j,hj,rfl⟩:=mem_map.1 (mem_filter.1 hi).1;have:=List.mem_range.1 hj;have:=hb.w;exact⟨by show -9223372036854775808<=(j:Int);omega,by show(j:Int)<=9223372036854775807;omega⟩
 |k+1,hk=>by
  have ih:=Ia hb ha k (by omega);have hr:=(nC (bad:=bad) hb.may hb.w (by have:=hb.bad;omega) hb.acts (k+1) hk).nos;rw[J9]at hr;have hd:=Po (HH hb (k:=k)) ha ih.1 ih.2;refine⟨fun n hn=>⟨hd.1 n hn,?_⟩,hd.2⟩
  have h1:n.No∈lQ bad c.W.length:=by rw[<-hr];exact mem_map.2 ⟨n,hn,rfl⟩
  obtain⟨j,hj,e⟩:=mem_map.1 (mem_filter.1 h1).1;have h2:=List.mem_range.1 hj;have h3:=hb.w;have e':(j:Int)=n.No:=e;exact⟨by show -9223372036854775808<=n.No;omega,by show n.No<=9223372036854775807;omega⟩
theorem MN {w:Wd}(G:Gx U w l)(hW:w.C.W.length<=1000)(ha:∀a∈l,DT a)(hn:∀n∈w.N,p9 kp (fun _=>True) n/\aW .i64 n.No)(ho:∀o∈w.O,ko kp (fun _=>True) o){k:Nat}{n:Nd}(hk:w.N[k]?=some n):LE w.C n (bk w l k).1 (bk w l k).2:=by
 have hm:=List.mem_of_getElem? hk;have hnk:=G.ok.nodes n hm;obtain⟨u1,u2⟩:=G.sz;have hc:=nH (fun n hn=>(G.ok.nodes n hn).all) (fun o ho=>(G.ok.offs o ho).1) (w2 G.sub w.Bad) k;have hj:zZ (gW w.C n (bk w l k).1):=lX hnk.nd;have hja:fM (·∈U.B) (·∈U.V) (gW w.C n (bk w l k).1):=dY hnk.all.2.1 (oI hc.1);have h5:=d5 hj.1 hja.1;have h6:=d5 hj.2 hja.2;have hall:=nH (fun n hn'=>(hn n hn').1) ho (DF ha w.Bad) k;refine⟨JY G.ok G.sz G.acts G.sub hk,hW,by omega,fun y hy=>?_,(hn n hm).2,(hn n hm).1,hall.1,hall.2⟩
 have:LI y:=by
  rcases List.mem_append.1 hy with hy|hy
  ·exact hnk.sz y hy
  ·exact xe G.ok G.acts k y hy
 obtain⟨z1,z2⟩:=this;omega
theorem Ie (ha:yI=some true)(c:Cf)(bad:List Int)(l:List Ac)(t:Int)(hl:∀a∈l,DT a):CY c bad l t=some true:=by
 unfold CY;rw[ha,ob];rcases Gp c bad l with e|⟨e,hb⟩
 ·rw[e,ob,Bool.not_true,cf,Bool.not_false,ct,ob,ct]
 rw[e,ob,Bool.not_true,cf,cf];by_cases h2:t>10
 ·rw[aQ h2,ob,ct]
 rw[aR h2,ob,cf];have hbb:=hb.bad;have hw:=hb.w;have hm:=hb.may
 have hstep:∀k,k<=14->vX (jn (mK c bad) l k) l=some (jn (mK c bad) l (k+1)):=fun k hk=>by
  have G:=HH hb (k:=k);have hC:(jn (mK c bad) l k).C=c:=(nC (bad:=bad) hb.may hb.w (by omega) hb.acts k (by omega)).conf;obtain⟨o1,o2⟩:=Ia hb hl k (by omega);exact Gw (by rw[hC];omega) (tJ G.ok G.sz) hb.acts (fun a h=>(hl a h).2.1) fun j n hj=>MN G (by rw[hC];omega) hl o1 o2 hj
 have e:=av (step:=lw l t) (n:=t.toNat) (fun k=>fV.mk (k:Int) (jn (mK c bad) l k)) (fV.mk (t.toNat:Int) (jn (mK c bad) l t.toNat)) (fun k hk=>by
  unfold lw;simp only
  rw[aQ (show(k:Int)<t by omega),ct,aQ (show(k:Int)<300 by omega),ob,ct,hstep k (by omega),ob,ah (n:=k)]) (by
  unfold lw;simp only
  rw[aR (show¬(t.toNat:Int)<t by omega),cf,ob,cf]) (by omega)
 have e':iter (lw l t) aY (fV.mk 0 (mK c bad))=_:=e;have hR:=nC (bad:=bad) hb.may hb.w (by omega) hb.acts t.toNat (by omega);have hfit:=Ka (U:=ja l) (by have:=lF hb.len hb.acts.each;omega) (by have:=lF hb.len hb.acts.each;omega) (by omega) hR;rw[Gl hm (by omega),ob,Eo hm hw (by omega) hb.acts (by omega),ob,Gz (by omega) (by omega),i1_ hm,ob];unfold CZ;rw[e',ob,ob,Gr (Hz hfit) rfl,ob,Ak]
end Go.Mg
namespace Go.Proofs.YtfbigoipfbiliaaGreat
def io :List Nat:=[104,97,114,110,101,115,115,32,97,55,52,98,56,102,49,102,100,102,54,102,101,57,52,52,102,102,56,97,97,100,55,54,56,54,49,97,50,49,57,102,50,54,55,100,48,101,102,56,51,53,52,100,99,101,97,57,97,97,50,97,98,51,56,97,101,55,50,99,100,49,57,51,32,99,117,116,32,97,116,32,109,97,114,105,103,111,108,100,47,109,97,114,105,103,111,108,100,108,97,119,49,56,46,78,111,100,101,83,116,101,112,115,32,109,97,114,105,103,111,108,100,47,109,97,114,105,103,111,108,100,108,97,119,50,48,46,80,108,97,121,68,111,101,115,32,109,97,114,105,103,111,108,100,47,109,97,114,105,103,111,108,100,108,97,119,50,48,46,80,108,97,121,82,117,110,115]
theorem QY :Tryz.prog.initOrder=String.ofList (io.map Char.ofNat):=by kernel_rfl
theorem MB :Tryz.prog.initOrder.toList=io.map Char.ofNat:=by rw[QY,String.toList_ofList]
def ws :List (List Nat):=[[99,117,116],[97,116],[109,97,114,105,103,111,108,100,47,109,97,114,105,103,111,108,100,108,97,119,49,56,46,78,111,100,101,83,116,101,112,115],[109,97,114,105,103,111,108,100,47,109,97,114,105,103,111,108,100,108,97,119,50,48,46,80,108,97,121,68,111,101,115],[109,97,114,105,103,111,108,100,47,109,97,114,105,103,111,108,100,108,97,119,50,48,46,80,108,97,121,82,117,110,115]]
theorem IG :behindMainWord (wordsSigns Tryz.prog.initOrder.toList)=ws.map (List.map Char.ofNat):=by
 rw[MB]
 kernel_rfl
theorem Pt :stripLifts liftWords (ws.map (List.map Char.ofNat))=([],ws.map (List.map Char.ofNat)):=by kernel_rfl
theorem Pr :Tryz.prog.doorRows=[]:=by kernel_rfl
theorem QZ :Tryz.prog.laysLater=false:=by kernel_rfl
theorem Pp :Tryz.prog.bearsReflect=false:=by kernel_rfl
theorem KU : (ws.map (List.map Char.ofNat)).head? = some "cut".toList := by kernel_rfl
theorem Mw (P : Program) (W : List (List Char)) (hW : behindMainWord (wordsSigns P.initOrder.toList) = W) (hs : stripLifts liftWords W = ([], W)) (hh : W.head? = some "cut".toList) (hr : P.doorRows = []) (hl : P.laysLater = false) (hb : P.bearsReflect = false) : P.mayEnter = true := by
 unfold Program.mayEnter;rw[hW]
 cases W with
 |nil=>cases hh
 |cons c r=>
  simp only[hs,hh,hl,hb,Program.doorFits,hr];simp
theorem mayEnter :Tryz.prog.mayEnter=true:=Mw Tryz.prog _ IG Pt KU Pr QZ Pp
theorem own :ownKnob Tryz.prog.godebug=none:=by kernel_rfl
theorem DE :laidOutB Tryz.prog=true:=by kernel_rfl
theorem Pq :mapsRowed Tryz.prog=true:=by kernel_rfl
theorem O4 :Tryz.prog.stopsHeard=true:=by kernel_rfl
theorem J3 (P : Program) (W : List (List Char)) (hW : behindMainWord (wordsSigns P.initOrder.toList) = W) (hh : W.head? = some "cut".toList) : P.make = some .cut := by
 unfold Program.make;rw[hW]
 cases W with
 |nil=>cases hh
 |cons c r=>
  have e : c = "cut".toList := by simpa using hh
  subst e;show(if _ then _ else _)=_;rw[if_neg (by decide),if_pos (by simp)]
theorem Ph :Tryz.prog.make=some .cut:=J3 Tryz.prog _ IG KU
theorem Pf :Tryz.prog.liftsFinal=false:=by
 unfold Program.liftsFinal Program.headLifts;rw[IG]
 kernel_rfl
end Go.Proofs.YtfbigoipfbiliaaGreat
