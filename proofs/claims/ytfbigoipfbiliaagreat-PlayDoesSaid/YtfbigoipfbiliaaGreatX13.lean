/- The reference of worlds. Conditions: none. -/
import Derived.Test.YtfbigoipfbiliaaGreatX12
import Derived.Test.YtfbigoipfbiliaaGreatRows
set_option maxRecDepth 100000
set_option linter.unusedSimpArgs false
set_option linter.unusedVariables false
namespace Go.Mg
open IntKind (i64)
open Go.Proofs.Tryz (prog)
open List (append_nil getElem?_of_mem length_cons length_map length_singleton length_take map_append mem_filter nodup_nil take_length)
open Nat (le_trans)
open Option (all_some)
open Int (le_of_lt pow_pos)
open Go.Proofs
variable {c : Cf} {l : List Ac} {p : PV} {r_ : Bool}
structure fW where
 i:Int
 out:Vw
def lk (l:List Nd)(x1:fW):Option (fW⊕fW):=bif decide (x1.i<(l.length:Int))then (ix l x1.i).bind fun y1=>(xD y1).bind fun v2=>(tc x1.out v2).bind fun v3=>some (.inl (fW.mk (i64.wrap (x1.i+1)) v3))else some (.inr (fW.mk x1.i x1.out))
def vu (l:List Nd):Option Vw:=(iter (lk l) aY (fW.mk 0 (Vw.mk [] []))).bind fun v1=>some v1.out
theorem NI {l:List Nd}{r_:Vw}(h:vu l=some r_):aq prog 64 [.slice 12 (l.map du)] [iB r_]:=by
 refine zh Tryz.func64 Z Z Z Z ?_;unfold vu at h;refine qR<|yS Z (ze Z d5 Z Z)<|nT<|qR<|yS Z (ze Z d5 Z Z)<|nT<|zQ<|zQ<|LW.ent (bY.zsCell (i:=1) (j:=0) (m:=5) Z Z Z Z)<|LW.ent (bY.zsCell (i:=1) (j:=1) (m:=4) Z Z Z Z)<|zR<|mN Z ?_;obtain⟨v1,p1,q1⟩:=zB h;clear h;refine LW.tail (E:=[(2,.ptr 0 0),(3,.ptr 1 0)]) (O:=[.box [.zs,.zs],.box (cH v1.out)]) ?_<|fun e1 K1 u1=>?_
 ·refine LW.block ?_;refine LW.iterB (E:=fun x1:fW=>[(0,.p (.slice 12 (l.map du))),(2,.ptr 0 0),(3,.ptr 1 0),(4,(iQ x1.i))]) (O:=fun x1=>[.box [.zs,.zs],.box (cH x1.out)]) p1 (av 2 ⟨Z,Z,Z,Z,t_⟩)<|fun x1 z1 h m1=>?_;unfold lk at h;refine zQ<|qR<|zM Z<|zM Z<|yS Z (ck Z Z)<|yS Z (an Z Z Z Z)<|nT ?_;refine zX Z (fun g1=>?_)<|fun g1=>?_
  ·refine zi g1 h fun h=>zk<|zT<|zQ<|zl<|LW.drawLast (m:=7) (by kernel_rfl) (by kernel_rfl) (by kernel_rfl)<|yE Z (zD Z Z Z aG Z Z)<|zH Z<|zH Z<|zb h fun y1 j1 h=>yE Z (zx Z Z Z dy j1 Z)<|yE Z (bR Z Z Z aM Z Z)<|zb h fun v2 a2 h=>yE Z (yP Z Z Z (Nb a2) dG)<|zb h fun v3 a3 h=>yE Z (yP Z Z Z (A6 a3) bG)<|LO.nil<|yS Z (zs Z Z Z Z aG Z Z Z Z)<|zN<|af<|zT<|zR<|zM Z<|yS Z (an Z Z Z Z)<|mN Z ?_;cases h;exact⟨_,rfl,av 2 ⟨Z,Z,Z,Z,t_⟩⟩
  ·refine zo g1 h fun h=>zq<|ai<|ai<|zy<|zT ?_;cases h;obtain rfl:=(m1 _ rfl);exact av 2 ⟨Z,Z,t_⟩
 ·have h:=q1;clear p1;refine zT<|LW.weak u1<|qR<|yS Z (zD Z Z Z aG Z Z)<|yS Z (zs Z Z Z Z aG Z Z Z Z)<|nT<|zr ?_;cases h;exact zf (.one (er Z Z)) zv
structure fX where
 to:Int
 i:Int
def ll (v_at:Int)(x1:fX):Option (fX⊕fX):=bif decide (x1.i<v_at)then some (.inl (fX.mk (i64.wrap (x1.to.tdiv 2)) (i64.wrap (x1.i+1))))else some (.inr (fX.mk x1.to x1.i))
def yf (to:Int)(v_at:Int):Option Bool:=(iter (ll v_at) aY (fX.mk to 0)).bind fun v1=>some ((v1.to.tmod 2)==1)
theorem NJ {to:Int}{v_at:Int}(h:yf to v_at=some r_):aq prog 67 [.int .i64 to,.int .i64 v_at] [.bool r_]:=by
 refine zh Tryz.func67 Z Z Z Z ?_;unfold yf at h;refine qR<|mN Z<|zQ<|qR<|mN Z ?_;obtain⟨v1,p1,q1⟩:=zB h;clear h;refine LW.tail (E:=[(0,(iQ v1.to)),(4,(bQ false))]) (O:=[]) ?_<|fun e1 K1 u1=>?_
 ·refine LW.block ?_;refine LW.iterB (E:=fun x1:fX=>[(0,(iQ x1.to)),(1,(iQ v_at)),(4,(bQ false)),(5,(iQ x1.i))]) (O:=fun x1=>[]) p1 (av 0 ⟨Z,Z,Z,Z,t_⟩)<|fun x1 z1 h m1=>?_;unfold ll at h;refine zQ<|qR<|zM Z<|zM Z<|yS Z (an Z Z Z Z)<|nT ?_;refine zX Z (fun g1=>?_)<|fun g1=>?_
  ·refine zi g1 h fun h=>zk<|zT<|zQ<|zl<|zR<|zM Z<|yS Z (aa.quo Z Z Z (by decide))<|zM Z<|zN<|af<|zT<|zR<|zM Z<|yS Z (an Z Z Z Z)<|mN Z ?_;cases h;exact⟨_,rfl,av 0 ⟨Z,Z,Z,Z,t_⟩⟩
  ·refine zo g1 h fun h=>zq<|ai<|ai<|zy<|zT ?_;cases h;obtain rfl:=(m1 _ rfl);exact av 0 ⟨Z,Z,t_⟩
 ·have h:=q1;clear p1;refine zT<|LW.weak u1<|qR<|zM Z<|yS Z (aa.rem Z Z Z (by decide))<|yS Z (an Z Z Z Z)<|mN Z<|zr ?_;cases h;exact aZ Z
structure fi where
 i:Int
def jA (l:List Bk)(b:Bk)(x1:fi):Option (fi⊕(fi⊕Bool)):=bif decide (x1.i<(l.length:Int))then (ix l x1.i).bind fun y1=>bif ((y1.Slot==b.Slot)&&((y1.From==b.From)&&((y1.Parent.1==b.Parent.1)&&((y1.Parent.2==b.Parent.2)&&((y1.Salt==b.Salt)&&true)))))then some (.inr (.inr true))else some (.inl (fi.mk (i64.wrap (x1.i+1))))else some (.inr (.inl (fi.mk x1.i)))
def yh (l:List Bk)(b:Bk):Option Bool:=(iter (jA l b) aY (fi.mk 0)).bind fun b_v1=>Sum.elim (fun _=>some false) some b_v1
theorem NL {l:List Bk}{b:Bk}(h:yh l b=some r_):aq prog 121 [.slice 5 (l.map aA),aA b] [.bool r_]:=by
 refine zh Tryz.func121 Z Z Z Z ?_;unfold yh at h;refine qR<|yS Z (bx Z Z Z Z Z)<|mN Z<|zQ<|qR<|mN Z ?_;obtain⟨w1,p1,q1⟩:=zB h;clear h;refine LW.tailB (b:=w1) (E:=fun v1=>[(4,(bQ false))]) (O:=fun v1=>[.box [(iQ b.Slot),(iQ b.From),(uQ b.Parent.1),(uQ b.Parent.2),(uQ b.Salt)]]) ?_<|fun v1 f1 e1 K1 u1=>?_
 ·refine LW.block ?_;refine LW.iterB (E:=fun x1:fi=>[(0,(kB l)),(3,.ptr 0 0),(4,(bQ false)),(5,(iQ x1.i))]) (O:=fun x1=>[.box [(iQ b.Slot),(iQ b.From),(uQ b.Parent.1),(uQ b.Parent.2),(uQ b.Salt)]]) p1 (av 1 ⟨Z,Z,Z,Z,t_⟩)<|fun x1 z1 h m1=>?_;unfold jA at h;refine zQ<|qR<|zM Z<|zM Z<|yS Z (ck Z Z)<|yS Z (an Z Z Z Z)<|nT ?_;refine zX Z (fun g1=>?_)<|fun g1=>?_
  ·refine zi g1 h fun h=>zk<|zT<|zQ<|zl<|zQ<|dx<|zH Z<|zH Z<|zb h fun y1 j1 h=>yE Z (zx Z Z Z cw j1 Z)<|yE Z (bR Z Z Z ce Z Z)<|yE Z (zD Z Z Z ce Z Z)<|yE Z (aa.eqlAgg Z Z Z Z Z tW)<|LO.nil<|zT ?_;refine zX Z (fun g2=>?_)<|fun g2=>?_
   ·refine zi g2 h fun h=>qR<|mN Z<|LW.ret<|ak<|ae<|ae<|ak<|ae<|ae ?_;cases h;obtain rfl:=(m1 _ rfl);have h:=bO q1;cases h;exact aZ Z
   ·refine zo g2 h fun h=>zk<|af<|zT<|zR<|zM Z<|yS Z (an Z Z Z Z)<|mN Z ?_;cases h;exact⟨_,rfl,av 1 ⟨Z,Z,Z,Z,t_⟩⟩
  ·refine zo g1 h fun h=>zq<|ai<|ai<|zy<|zT ?_;cases h;obtain rfl:=(m1 _ rfl);exact⟨_,rfl,av 1 ⟨Z,t_⟩⟩
 ·obtain rfl:=f1;have h:=cR q1;clear p1;refine zT<|LW.weak u1<|qR<|mN Z<|zr ?_;cases h;exact aZ Z
structure fj where
 i:Int
def jC (l:List Vt)(v:Vt)(x1:fj):Option (fj⊕(fj⊕Bool)):=bif decide (x1.i<(l.length:Int))then (ix l x1.i).bind fun y1=>bif ((y1.From==v.From)&&((y1.Slot==v.Slot)&&((y1.Head.1==v.Head.1)&&((y1.Head.2==v.Head.2)&&true))))then some (.inr (.inr true))else some (.inl (fj.mk (i64.wrap (x1.i+1))))else some (.inr (.inl (fj.mk x1.i)))
def yi (l:List Vt)(v:Vt):Option Bool:=(iter (jC l v) aY (fj.mk 0)).bind fun b_v1=>Sum.elim (fun _=>some false) some b_v1
theorem NM {l:List Vt}{v:Vt}(h:yi l v=some r_):aq prog 122 [.slice 4 (l.map aO),aO v] [.bool r_]:=by
 refine zh Tryz.func122 Z Z Z Z ?_;unfold yi at h;refine qR<|yS Z (bx Z Z Z Z Z)<|mN Z<|zQ<|qR<|mN Z ?_;obtain⟨w1,p1,q1⟩:=zB h;clear h;refine LW.tailB (b:=w1) (E:=fun v1=>[(4,(bQ false))]) (O:=fun v1=>[.box [(iQ v.From),(iQ v.Slot),(uQ v.Head.1),(uQ v.Head.2)]]) ?_<|fun v1 f1 e1 K1 u1=>?_
 ·refine LW.block ?_;refine LW.iterB (E:=fun x1:fj=>[(0,(kV l)),(3,.ptr 0 0),(4,(bQ false)),(5,(iQ x1.i))]) (O:=fun x1=>[.box [(iQ v.From),(iQ v.Slot),(uQ v.Head.1),(uQ v.Head.2)]]) p1 (av 1 ⟨Z,Z,Z,Z,t_⟩)<|fun x1 z1 h m1=>?_;unfold jC at h;refine zQ<|qR<|zM Z<|zM Z<|yS Z (ck Z Z)<|yS Z (an Z Z Z Z)<|nT ?_;refine zX Z (fun g1=>?_)<|fun g1=>?_
  ·refine zi g1 h fun h=>zk<|zT<|zQ<|zl<|zQ<|dx<|zH Z<|zH Z<|zb h fun y1 j1 h=>yE Z (zx Z Z Z bC j1 Z)<|yE Z (bR Z Z Z cB Z Z)<|yE Z (zD Z Z Z cB Z Z)<|yE Z (aa.eqlAgg Z Z Z Z Z yQ)<|LO.nil<|zT ?_;refine zX Z (fun g2=>?_)<|fun g2=>?_
   ·refine zi g2 h fun h=>qR<|mN Z<|LW.ret<|ak<|ae<|ae<|ak<|ae<|ae ?_;cases h;obtain rfl:=(m1 _ rfl);have h:=bO q1;cases h;exact aZ Z
   ·refine zo g2 h fun h=>zk<|af<|zT<|zR<|zM Z<|yS Z (an Z Z Z Z)<|mN Z ?_;cases h;exact⟨_,rfl,av 1 ⟨Z,Z,Z,Z,t_⟩⟩
  ·refine zo g1 h fun h=>zq<|ai<|ai<|zy<|zT ?_;cases h;obtain rfl:=(m1 _ rfl);exact⟨_,rfl,av 1 ⟨Z,t_⟩⟩
 ·obtain rfl:=f1;have h:=cR q1;clear p1;refine zT<|LW.weak u1<|qR<|mN Z<|zr ?_;cases h;exact aZ Z
structure fg where
 i:Int
 o5:List Bk
structure fh where
 i:Int
 o6:List Vt
def lm (w:Wd)(all:Vw)(a:Ac)(x1:fg):Option (fg⊕fg):=bif decide (x1.i<(a.B.length:Int))then (ix a.B x1.i).bind fun y1=>(F5 w.Bad y1.From).bind fun v2=>(ix a.B x1.i).bind fun y2=>(yh all.B y2).bind fun v3=>(bif v2 then some true else some v3).bind fun v4=>bif v4 then (ix a.B x1.i).bind fun y3=>bif bJ x1.o5.length [y3].length 40 then some (.inl (fg.mk (i64.wrap (x1.i+1)) (x1.o5++[y3])))else none else some (.inl (fg.mk (i64.wrap (x1.i+1)) x1.o5))else some (.inr (fg.mk x1.i x1.o5))
def ln (w:Wd)(all:Vw)(a:Ac)(x2:fh):Option (fh⊕fh):=bif decide (x2.i<(a.V.length:Int))then (ix a.V x2.i).bind fun y4=>(F5 w.Bad y4.From).bind fun v6=>(ix a.V x2.i).bind fun y5=>(yi all.V y5).bind fun v7=>(bif v6 then some true else some v7).bind fun v8=>bif v8 then (ix a.V x2.i).bind fun y6=>bif bJ x2.o6.length [y6].length 32 then some (.inl (fh.mk (i64.wrap (x2.i+1)) (x2.o6++[y6])))else none else some (.inl (fh.mk (i64.wrap (x2.i+1)) x2.o6))else some (.inr (fh.mk x2.i x2.o6))
def yg (w:Wd)(all:Vw)(a:Ac):Option Vw:=(iter (lm w all a) aY (fg.mk 0 ([]:List Bk))).bind fun v1=>(iter (ln w all a) aY (fh.mk 0 ([]:List Vt))).bind fun v5=>some (Vw.mk v1.o5 v5.o6)
theorem NK {w:Wd}{all:Vw}{a:Ac}{r_:Vw}(h:yg w all a=some r_):aq prog 68 [w9 w,iB all,n8 a] [iB r_]:=by
 refine zh Tryz.func68 Z Z Z Z ?_;unfold yg at h;refine qR<|yS Z (bx Z Z Z Z Z)<|yS Z (bx Z Z Z Z Z)<|yS Z (bx Z Z Z Z Z)<|yS Z (ze Z d5 Z Z)<|nT<|qR<|yS Z (ze Z d5 Z Z)<|nT<|zQ<|zQ<|LW.ent (bY.lazyCell (i:=4) (j:=0) (m:=5) Z Z Z Z Z Z)<|LW.ent (bY.lazyCell (i:=4) (j:=1) (m:=4) Z Z Z Z Z Z)<|zR<|mN Z ?_;obtain⟨v1,p1,b1⟩:=zB h;clear h;refine LW.tail (E:=[(3,.ptr 0 0),(4,.ptr 1 0),(5,.ptr 2 0),(6,.ptr 3 0),(7,.ptr 4 0)]) (O:=[.box (gB w),.box (cH all),.box [(iQ a.Tick),(iQ a.To),(bQ a.Offer),(kB a.B),(kV a.V)],.box [.zs,.zs],.box [(jB 5 v1.o5),(jV 6 ([]:List Vt))],.vec 5 (v1.o5.map aA),.vec 4 (([]:List Vt).map aO)]) ?_<|fun e1 K1 u1=>?_
 ·refine LW.block ?_;refine LW.iterB (E:=fun x1:fg=>[(3,.ptr 0 0),(4,.ptr 1 0),(5,.ptr 2 0),(6,.ptr 3 0),(7,.ptr 4 0),(8,(iQ x1.i))]) (O:=fun x1=>[.box (gB w),.box (cH all),.box [(iQ a.Tick),(iQ a.To),(bQ a.Offer),(kB a.B),(kV a.V)],.box [.zs,.zs],.box [(jB 5 x1.o5),(jV 6 ([]:List Vt))],.vec 5 (x1.o5.map aA),.vec 4 (([]:List Vt).map aO)]) p1 (av 7 ⟨Z,Z,Z,Z,Z,Z,t_⟩)<|fun x1 z1 h m1=>?_;unfold lm at h;refine zQ<|qR<|zM Z<|yS Z (zA Z Z ly)<|yS Z (zD Z Z Z bM Z Z)<|yS Z (ck Z Z)<|yS Z (an Z Z Z Z)<|nT ?_;refine zX Z (fun g1=>?_)<|fun g1=>?_
  ·refine zi g1 h fun h=>zk<|zT<|zQ<|zl<|zQ<|dx<|yE Z (zA Z Z cP)<|yE Z (zD Z Z Z dH Z Z)<|yE Z (zA Z Z ly)<|yE Z (zD Z Z Z bM Z Z)<|zH Z<|zb h fun y1 j1 h=>yE Z (zx Z Z Z cw j1 Z)<|yE Z (aa.fieldAddrC Z Z rD Z)<|yE Z (bR Z Z Z aW Z Z)<|zb h fun v2 a2 h=>yE Z (yP Z Z Z (Lg a2) bG)<|zH Z<|LO.nil<|zT<|zQ<|dx<|yE Z (zA Z Z aK)<|yE Z (zD Z Z Z bM Z Z)<|yE Z (zA Z Z ly)<|yE Z (zD Z Z Z bM Z Z)<|zH Z<|zb h fun y2 j2 h=>yE Z (zx Z Z Z cw j2 Z)<|yE Z (bR Z Z Z ce Z Z)<|zb h fun v3 a3 h=>yE Z (yP Z Z Z (NL a3) bG)<|zH Z<|LO.nil<|zT ?_;obtain⟨v4,p4,b4⟩:=zB h;clear h;refine LW.cut (E:=[(3,.ptr 0 0),(4,.ptr 1 0),(5,.ptr 2 0),(6,.ptr 3 0),(7,.ptr 4 0),(8,(iQ x1.i)),(41,(bQ v4))]) (O:=[.box (gB w),.box (cH all),.box [(iQ a.Tick),(iQ a.To),(bQ a.Offer),(kB a.B),(kV a.V)],.box [.zs,.zs],.box [(jB 5 x1.o5),(jV 6 ([]:List Vt))],.vec 5 (x1.o5.map aA),.vec 4 (([]:List Vt).map aO)]) ?_ ?_
   ·have h:=p4;refine zR<|zM Z<|zM Z ?_;refine zc 39 Z (fun g2=>?_)<|fun g2=>?_
    ·refine zi g2 h fun h=>yU Z (gd g2 Z) Z<|yS Z (bv Z (aJ g2 Z) Z)<|nT ?_;cases h;exact av 7 ⟨Z,Z,Z,Z,Z,Z,Z,t_⟩
    ·refine zo g2 h fun h=>yV Z (gd g2 Z) (zm Z Z)<|yS Z (aT Z (aJ g2 Z) Z)<|nT ?_;cases h;exact av 7 ⟨Z,Z,Z,Z,Z,Z,Z,t_⟩
   ·have h:=b4;clear p4;refine zX Z (fun g3=>?_)<|fun g3=>?_
    ·refine zi g3 h fun h=>fB<|yG Z (fun H _=>zA Z Z aK)<|yF Z (zd Z Z Z bM Z Z) Z<|yG Z (fun H _=>zA Z Z ly)<|yF Z (zd Z Z Z bM Z Z) Z<|zK Z<|zb h fun y3 j3 h=>yG Z (fun H _=>zx Z Z Z cw j3 Z)<|yG Z (fun H _=>bR Z Z Z ce Z Z)<|yG Z (fun H _=>gR Z cw Z Z Z Z Z)<|zg h fun q1 h=>yF Z (cj.appendX aA x1.o5 [y3] rfl Z Z Z Z cw q1) Z<|yG Z (fun H _=>zA Z Z aK)<|yF Z (zt Z Z Z Z bM Z Z Z) Z ?_;refine LF.nil ⟨by kernel_rfl,?_⟩;refine af<|zT<|zR<|zM Z<|yS Z (an Z Z Z Z)<|mN Z ?_;cases h;exact⟨_,rfl,av 7 ⟨Z,Z,Z,Z,Z,Z,t_⟩⟩
    ·refine zo g3 h fun h=>zk<|af<|zT<|zR<|zM Z<|yS Z (an Z Z Z Z)<|mN Z ?_;cases h;exact⟨_,rfl,av 7 ⟨Z,Z,Z,Z,Z,Z,t_⟩⟩
  ·refine zo g1 h fun h=>zq<|ai<|ai<|zy<|zT ?_;cases h;obtain rfl:=(m1 _ rfl);exact av 7 ⟨Z,Z,Z,Z,Z,t_⟩
 ·have h:=b1;clear p1;refine zT<|LW.weak u1<|zQ<|qR<|mN Z ?_;obtain⟨v5,p5,b5⟩:=zB h;clear h;refine LW.tail (E:=[(6,.ptr 3 0),(7,.ptr 4 0)]) (O:=[.box (gB w),.box (cH all),.box [(iQ a.Tick),(iQ a.To),(bQ a.Offer),(kB a.B),(kV a.V)],.box [.zs,.zs],.box [(jB 5 v1.o5),(jV 6 v5.o6)],.vec 5 (v1.o5.map aA),.vec 4 (v5.o6.map aO)]) ?_<|fun e5 K5 u5=>?_
  ·refine LW.block ?_;refine LW.iterB (E:=fun x2:fh=>[(3,.ptr 0 0),(4,.ptr 1 0),(5,.ptr 2 0),(6,.ptr 3 0),(7,.ptr 4 0),(11,(iQ x2.i))]) (O:=fun x2=>[.box (gB w),.box (cH all),.box [(iQ a.Tick),(iQ a.To),(bQ a.Offer),(kB a.B),(kV a.V)],.box [.zs,.zs],.box [(jB 5 v1.o5),(jV 6 x2.o6)],.vec 5 (v1.o5.map aA),.vec 4 (x2.o6.map aO)]) p5 (av 7 ⟨Z,Z,Z,Z,Z,Z,t_⟩)<|fun x2 z2 h m2=>?_;unfold ln at h;refine zQ<|qR<|zM Z<|yS Z (zA Z Z lz)<|yS Z (zD Z Z Z co Z Z)<|yS Z (ck Z Z)<|yS Z (an Z Z Z Z)<|nT ?_;refine zX Z (fun g4=>?_)<|fun g4=>?_
   ·refine zi g4 h fun h=>zk<|zT<|zQ<|zl<|zQ<|dx<|yE Z (zA Z Z cP)<|yE Z (zD Z Z Z dH Z Z)<|yE Z (zA Z Z lz)<|yE Z (zD Z Z Z co Z Z)<|zH Z<|zb h fun y4 j4 h=>yE Z (zx Z Z Z bC j4 Z)<|yE Z (aa.fieldAddrC Z Z ik Z)<|yE Z (bR Z Z Z aW Z Z)<|zb h fun v6 a6 h=>yE Z (yP Z Z Z (Lg a6) bG)<|zH Z<|LO.nil<|zT<|zQ<|dx<|yE Z (zA Z Z aQ)<|yE Z (zD Z Z Z co Z Z)<|yE Z (zA Z Z lz)<|yE Z (zD Z Z Z co Z Z)<|zH Z<|zb h fun y5 j5 h=>yE Z (zx Z Z Z bC j5 Z)<|yE Z (bR Z Z Z cB Z Z)<|zb h fun v7 a7 h=>yE Z (yP Z Z Z (NM a7) bG)<|zH Z<|LO.nil<|zT ?_;obtain⟨v8,p8,b8⟩:=zB h;clear h;refine LW.cut (E:=[(3,.ptr 0 0),(4,.ptr 1 0),(5,.ptr 2 0),(6,.ptr 3 0),(7,.ptr 4 0),(11,(iQ x2.i)),(79,(bQ v8))]) (O:=[.box (gB w),.box (cH all),.box [(iQ a.Tick),(iQ a.To),(bQ a.Offer),(kB a.B),(kV a.V)],.box [.zs,.zs],.box [(jB 5 v1.o5),(jV 6 x2.o6)],.vec 5 (v1.o5.map aA),.vec 4 (x2.o6.map aO)]) ?_ ?_
    ·have h:=p8;refine zR<|zM Z<|zM Z ?_;refine zc 77 Z (fun g5=>?_)<|fun g5=>?_
     ·refine zi g5 h fun h=>yU Z (gd g5 Z) Z<|yS Z (bv Z (aJ g5 Z) Z)<|nT ?_;cases h;exact av 7 ⟨Z,Z,Z,Z,Z,Z,Z,t_⟩
     ·refine zo g5 h fun h=>yV Z (gd g5 Z) (zm Z Z)<|yS Z (aT Z (aJ g5 Z) Z)<|nT ?_;cases h;exact av 7 ⟨Z,Z,Z,Z,Z,Z,Z,t_⟩
    ·have h:=b8;clear p8;refine zX Z (fun g6=>?_)<|fun g6=>?_
     ·refine zi g6 h fun h=>fB<|yG Z (fun H _=>zA Z Z aQ)<|yF Z (zd Z Z Z co Z Z) Z<|yG Z (fun H _=>zA Z Z lz)<|yF Z (zd Z Z Z co Z Z) Z<|zK Z<|zb h fun y6 j6 h=>yG Z (fun H _=>zx Z Z Z bC j6 Z)<|yG Z (fun H _=>bR Z Z Z cB Z Z)<|yG Z (fun H _=>gR Z bC Z Z Z Z Z)<|zg h fun q2 h=>yF Z (cj.appendX aO x2.o6 [y6] rfl Z Z Z Z bC q2) Z<|yG Z (fun H _=>zA Z Z aQ)<|yF Z (zt Z Z Z Z co Z Z Z) Z ?_;refine LF.nil ⟨by kernel_rfl,?_⟩;refine af<|zT<|zR<|zM Z<|yS Z (an Z Z Z Z)<|mN Z ?_;cases h;exact⟨_,rfl,av 7 ⟨Z,Z,Z,Z,Z,Z,t_⟩⟩
     ·refine zo g6 h fun h=>zk<|af<|zT<|zR<|zM Z<|yS Z (an Z Z Z Z)<|mN Z ?_;cases h;exact⟨_,rfl,av 7 ⟨Z,Z,Z,Z,Z,Z,t_⟩⟩
   ·refine zo g4 h fun h=>zq<|ai<|ai<|zy<|zT ?_;cases h;obtain rfl:=(m2 _ rfl);exact av 7 ⟨Z,Z,t_⟩
  ·have h:=b5;clear p5;refine zT<|LW.weak u5<|qR<|yS Z (zD Z Z Z aG Z Z)<|yS Z (zs Z Z Z Z aG Z Z Z Z)<|nT<|zr ?_;cases h;exact zf (.one (er Z Z))<|(Conv.agg (.cons (Conv.vecAll Z Z Z) (.cons (Conv.vecAll Z Z Z) .nil)))
structure dR where
 i:Int
 o4:List Nd
 o5:List Of
structure dB where
 k:Int
 v_in:Vw
 offers:List Of
def li (w:Wd)(l:List Ac)(v3:Vw)(v4:Int)(v5:Bool)(x1:dR)(x2:dB):Option (dB⊕dB):=bif decide (x2.k<(l.length:Int))then (ix l x2.k).bind fun y1=>(yf y1.To x1.i).bind fun v8=>((ix l x2.k).bind fun y2=>bif y2.Tick != w.Tick then some true else (ix l x2.k).bind fun y3=>bif decide (y3.To<0)then some true else some (!v8)).bind fun v9=>bif v9 then some (.inl (dB.mk (i64.wrap (x2.k+1)) x2.v_in x2.offers))else (ix l x2.k).bind fun y4=>(yg w v3 y4).bind fun v10=>(ix l x2.k).bind fun y5=>bif !y5.Offer then (tc x2.v_in v10).bind fun v11=>some (.inl (dB.mk (i64.wrap (x2.k+1)) v11 x2.offers))else (bif v5 then some (decide ((v10.B.length:Int)>0))else some false).bind fun v12=>bif v12 then (ix v10.B 0).bind fun y6=>bif wP v10.B 1 v10.B.length then bif bJ x2.offers.length [Of.mk (i64.wrap (w.Tick.tdiv 3)) v4 y6 (Vw.mk (v10.B.drop (1:Int).toNat) v10.V)].length 104 then some (.inl (dB.mk (i64.wrap (x2.k+1)) x2.v_in (x2.offers++[Of.mk (i64.wrap (w.Tick.tdiv 3)) v4 y6 (Vw.mk (v10.B.drop (1:Int).toNat) v10.V)])))else none else none else some (.inl (dB.mk (i64.wrap (x2.k+1)) x2.v_in x2.offers))else some (.inr (dB.mk x2.k x2.v_in x2.offers))
def lh (w:Wd)(l:List Ac)(v3:Vw)(v4:Int)(v5:Bool)(x1:dR):Option (dR⊕dR):=bif decide (x1.i<(w.N.length:Int))then bif bJ 0 w.O.length 104 then (iter (li w l v3 v4 v5 x1) aY (dB.mk 0 v3 w.O)).bind fun v7=>(ix w.N x1.i).bind fun y7=>(xA w.C y7 v7.v_in v7.offers).bind fun v13=>bif bJ x1.o4.length [v13.1].length 176 then bif bJ x1.o5.length v13.2.length 104 then some (.inl (dR.mk (i64.wrap (x1.i+1)) (x1.o4++[v13.1]) (x1.o5++v13.2)))else none else none else none else some (.inr (dR.mk x1.i x1.o4 x1.o5))
def yd (w:Wd)(l:List Ac):Option Wd:=(F0 w.C).bind fun v1=>(bif !v1 then some true else bif decide (w.Tick<3)then some true else some (decide (w.Tick>=3145728))).bind fun v2=>bif v2 then some w else (vu w.N).bind fun v3=>(HW w.C (i64.wrap (w.Tick.tdiv 3))).bind fun v4=>(F5 w.Bad v4).bind fun v5=>(iter (lh w l v3 v4 v5) aY (dR.mk 0 ([]:List Nd) ([]:List Of))).bind fun v6=>some (Wd.mk w.C w.Bad (i64.wrap (w.Tick+1)) v6.o4 v6.o5)
theorem NG {w:Wd} {r_:Wd} (h:yd w l=some r_):aq prog 26 [w9 w,.slice 5 (l.map n8)] [w9 r_]:=by
 refine zh Tryz.func26 Z Z Z Z ?_;unfold yd at h;refine qR<|yS Z (bx Z Z Z Z Z)<|yS Z (ze Z ip Z Z)<|nT<|qR<|yS Z (zA Z Z fm)<|yS Z (zD Z Z Z be Z Z)<|zb h fun v1 a1 h=>yS Z (yP Z Z Z (Lf a1) dG)<|mN Z<|zQ ?_;obtain⟨v2,p2,k2⟩:=zB h;clear h;refine LW.cut (E:=[(1,.p (.slice 5 (l.map n8))),(2,.ptr 0 0),(4,.ptr 1 0),(32,(bQ v2))]) (O:=[.box (gB w),.box rc]) ?_ ?_
 ·have h:=p2;refine zR<|zM Z<|yS Z (aa.not Z Z)<|zM Z ?_;refine zc 23 Z (fun g1=>?_)<|fun g1=>?_
  ·refine zi g1 h fun h=>yU Z (gd g1 Z) Z<|yU Z (gd g1 Z) Z<|yU Z (gd g1 Z) Z<|yS Z (bv Z (aJ g1 Z) Z)<|zM Z<|aw Z<|aw Z<|aw Z<|yS Z (bv Z Z Z)<|nT ?_;cases h;exact av 2 ⟨Z,Z,Z,Z,t_⟩
  ·refine zo g1 h fun h=>yV Z (gd g1 Z) (zA Z Z cU)<|yV Z (gd g1 Z) (zD Z Z Z aW Z Z)<|yV Z (gd g1 Z) (an Z Z Z Z)<|yS Z (aT Z (aJ g1 Z) Z)<|zM Z ?_;refine zc 28 Z (fun g2=>?_)<|fun g2=>?_
   ·refine zi g2 h fun h=>yU Z (gd g2 Z) Z<|yU Z (gd g2 Z) Z<|yU Z (gd g2 Z) Z<|yS Z (bv Z (aJ g2 Z) Z)<|nT ?_;cases h;exact av 2 ⟨Z,Z,Z,Z,t_⟩
   ·refine zo g2 h fun h=>yV Z (gd g2 Z) (zA Z Z cU)<|yV Z (gd g2 Z) (zD Z Z Z aW Z Z)<|yV Z (gd g2 Z) (an Z Z Z Z)<|yS Z (aT Z (aJ g2 Z) Z)<|nT ?_;cases h;exact av 2 ⟨Z,Z,Z,Z,t_⟩
 ·have h := k2;clear p2;refine zX Z (fun g3=>?_)<|fun g3=>?_
  ·refine zi g3 h fun h=>qR<|yS Z (zD Z Z Z bB Z Z)<|yS Z (zs Z Z Z Z bB Z Z Z Z)<|nT<|zr<|ae ?_;cases h;exact zf (.one (er Z Z)) zv
  ·refine zo g3 h fun h=>zk<|zT<|qR<|yS Z (zA Z Z bD)<|yS Z (zD Z Z Z cT Z Z)<|zb h fun v3 a3 h=>yS Z (yP Z Z Z (NI a3) dG)<|yS Z (ze Z d5 Z Z)<|yS Z (zs Z Z Z Z aG Z Z Z Z)<|nT<|qR<|yS Z (zA Z Z fm)<|yS Z (zD Z Z Z be Z Z)<|yS Z (zA Z Z cP)<|yS Z (zD Z Z Z dH Z Z)<|yS Z (zA Z Z cU)<|yS Z (zD Z Z Z aW Z Z)<|yS Z (an Z Z Z Z)<|yS Z (aa.build Z wy Z Z Z)<|yS Z (ze Z ip Z Z)<|yS Z (zs Z Z Z Z bB Z Z Z Z)<|nT<|qR<|yS Z (zA Z Z fm)<|yS Z (zD Z Z Z be Z Z)<|yS Z (zA Z Z cU)<|yS Z (zD Z Z Z aW Z Z)<|yS Z (aa.quo Z Z Z (by decide))<|zb h fun v4 a4 h=>yS Z (yP Z Z Z (Pd a4) bG)<|mN Z<|qR<|yS Z (zA Z Z cP)<|yS Z (zD Z Z Z dH Z Z)<|zM Z<|zb h fun v5 a5 h=>yS Z (yP Z Z Z (Lg a5) bG)<|mN Z<|zQ<|qR<|mN Z<|LW.ent (bY.lazyCell (i:=3) (j:=7) (m:=12) Z Z Z Z Z Z)<|LW.ent (bY.lazyCell (i:=3) (j:=8) (m:=9) Z Z Z Z Z Z) ?_;obtain⟨v6,p6,k6⟩:=zB h;clear h;refine LW.tail (E:=[(4,.ptr 1 0),(7,.ptr 3 0)]) (O:=[.box (gB w),.box rc,.box (cH v3),.box [(kI w.C.W),(uQ w.C.Seed),(iQ w.C.Epoch),(iQ w.C.Num),(iQ w.C.Den),(kI w.Bad),.p (.int .i64 (i64.wrap (w.Tick+1))),.vec 12 4 (v6.o4.map du).length 0 (v6.o4.map du).length,(jO 5 v6.o5)],.vec 12 (v6.o4.map du),.vec 9 (v6.o5.map cZ)]) ?_<|fun e6 K6 u6=>?_
   ·refine LW.block ?_;refine LW.iterB (E:=fun x1:dR=>[(1,.p (.slice 5 (l.map n8))),(2,.ptr 0 0),(4,.ptr 1 0),(6,.ptr 2 0),(7,.ptr 3 0),(8,(iQ v4)),(9,(bQ v5)),(10,(iQ x1.i))]) (O:=fun x1=>[.box (gB w),.box rc,.box (cH v3),.box [(kI w.C.W),(uQ w.C.Seed),(iQ w.C.Epoch),(iQ w.C.Num),(iQ w.C.Den),(kI w.Bad),.p (.int .i64 (i64.wrap (w.Tick+1))),.vec 12 4 (x1.o4.map du).length 0 (x1.o4.map du).length,(jO 5 x1.o5)],.vec 12 (x1.o4.map du),.vec 9 (x1.o5.map cZ)]) p6 (av 6 ⟨Z,Z,Z,Z,Z,Z,Z,Z,t_⟩)<|fun x1 z1 h m1=>?_;unfold lh at h;refine zQ<|qR<|zM Z<|yS Z (zA Z Z bD)<|yS Z (zD Z Z Z cT Z Z)<|yS Z (ck Z Z)<|yS Z (an Z Z Z Z)<|nT ?_;refine zX Z (fun g4=>?_)<|fun g4=>?_
    ·refine zi g4 h fun h=>zk<|zT<|zQ<|zl<|qR<|yS Z (zD Z Z Z aG Z Z)<|yS Z (ze Z d5 Z Z)<|yS Z (zs Z Z Z Z aG Z Z Z Z)<|nT<|qR<|yS Z (zA Z Z dZ)<|yS Z (zD Z Z Z bk Z Z)<|zg h fun q1 h=>yS Z (aa.appendZX cZ w.O Z Z Z Z iy.p Z bq q1 Z)<|mN Z<|zQ<|qR<|mN Z ?_;obtain⟨v7,p7,k7⟩:=zB h;clear h;refine LW.tail (E:=[(1,.p (.slice 5 (l.map n8))),(2,.ptr 0 0),(4,.ptr 1 0),(6,.ptr 2 0),(7,.ptr 3 0),(8,(iQ v4)),(9,(bQ v5)),(10,(iQ x1.i)),(11,.ptr 6 0),(12,(jO 7 v7.offers))]) (O:=[.box (gB w),.box rc,.box (cH v3),.box [(kI w.C.W),(uQ w.C.Seed),(iQ w.C.Epoch),(iQ w.C.Num),(iQ w.C.Den),(kI w.Bad),.p (.int .i64 (i64.wrap (w.Tick+1))),.vec 12 4 (x1.o4.map du).length 0 (x1.o4.map du).length,(jO 5 x1.o5)],.vec 12 (x1.o4.map du),.vec 9 (x1.o5.map cZ),.box (cH v7.v_in),.vec 9 (v7.offers.map cZ)]) ?_<|fun e7 K7 u7=>?_
     ·refine LW.block ?_;refine LW.iterB (E:=fun x2:dB=>[(1,.p (.slice 5 (l.map n8))),(2,.ptr 0 0),(4,.ptr 1 0),(6,.ptr 2 0),(7,.ptr 3 0),(8,(iQ v4)),(9,(bQ v5)),(10,(iQ x1.i)),(11,.ptr 6 0),(12,(jO 7 x2.offers)),(13,(iQ x2.k))]) (O:=fun x2=>[.box (gB w),.box rc,.box (cH v3),.box [(kI w.C.W),(uQ w.C.Seed),(iQ w.C.Epoch),(iQ w.C.Num),(iQ w.C.Den),(kI w.Bad),.p (.int .i64 (i64.wrap (w.Tick+1))),.vec 12 4 (x1.o4.map du).length 0 (x1.o4.map du).length,(jO 5 x1.o5)],.vec 12 (x1.o4.map du),.vec 9 (x1.o5.map cZ),.box (cH x2.v_in),.vec 9 (x2.offers.map cZ)]) p7 (av 8 ⟨Z,Z,Z,Z,Z,Z,Z,Z,Z,Z,Z,t_⟩)<|fun x2 z2 h m2=>?_;unfold li at h;refine zQ<|qR<|zM Z<|zM Z<|yS Z (ck Z Z)<|yS Z (an Z Z Z Z)<|nT ?_;refine zX Z (fun g5=>?_)<|fun g5=>?_
      ·refine zi g5 h fun h=>zk<|zT<|zQ<|zl<|qR<|zM Z<|zM Z<|zb h fun y1 c1 h=>yS Z (zx Z Z Z j7 c1 Z)<|yS Z (aa.fieldAddrC Z Z qp Z)<|yS Z (bR Z Z Z aW Z Z)<|zM Z<|zb h fun v8 a8 h=>yS Z (yP Z Z Z (NJ a8) bG)<|mN Z<|zQ ?_;obtain⟨v9,p9,k9⟩:=zB h;clear h;refine LW.cut (E:=[(1,.p (.slice 5 (l.map n8))),(2,.ptr 0 0),(4,.ptr 1 0),(6,.ptr 2 0),(7,.ptr 3 0),(8,(iQ v4)),(9,(bQ v5)),(10,(iQ x1.i)),(11,.ptr 6 0),(12,(jO 7 x2.offers)),(13,(iQ x2.k)),(98,(bQ v9))]) (O:=[.box (gB w),.box rc,.box (cH v3),.box [(kI w.C.W),(uQ w.C.Seed),(iQ w.C.Epoch),(iQ w.C.Num),(iQ w.C.Den),(kI w.Bad),.p (.int .i64 (i64.wrap (w.Tick+1))),.vec 12 4 (x1.o4.map du).length 0 (x1.o4.map du).length,(jO 5 x1.o5)],.vec 12 (x1.o4.map du),.vec 9 (x1.o5.map cZ),.box (cH x2.v_in),.vec 9 (x2.offers.map cZ)]) ?_ ?_
       ·have h:=p9;refine dx<|zH Z<|zH Z<|zb h fun y2 c2 h=>yE Z (zx Z Z Z j7 c2 Z)<|yE Z (aa.fieldAddrC Z Z y0 Z)<|yE Z (bR Z Z Z aW Z Z)<|yE Z (zA Z Z cU)<|yE Z (zD Z Z Z aW Z Z)<|yE Z (an Z Z Z Z)<|zH Z ?_;refine LO.cases 87 Z (fun(g6:(y2.Tick != w.Tick)=true)=>?_) (fun(g6:(y2.Tick != w.Tick)=false)=>?_)
        ·refine zi g6 h fun h=>yK Z (gd g6 Z) Z<|yK Z (gd g6 Z) Z<|yK Z (gd g6 Z) Z<|yK Z (gd g6 Z) Z<|yK Z (gd g6 Z) Z<|yK Z (gd g6 Z) Z<|yE Z (bv Z (aJ g6 Z) Z)<|zH Z<|b8 Z<|b8 Z<|yE Z (bv Z Z Z)<|LO.nil<|zT ?_;cases h;exact av 8 ⟨Z,Z,Z,Z,Z,Z,Z,Z,Z,Z,Z,Z,t_⟩
        ·refine zo g6 h fun h=>yL Z (gd g6 Z) (zm Z Z)<|yL Z (gd g6 Z) (zm Z Z)<|zb h fun y3 c3 h=>yL Z (gd g6 Z) (zx Z Z Z j7 c3 Z)<|yL Z (gd g6 Z) (aa.fieldAddrC Z Z qp Z)<|yL Z (gd g6 Z) (bR Z Z Z aW Z Z)<|yL Z (gd g6 Z) (an Z Z Z Z)<|yE Z (aT Z (aJ g6 Z) Z)<|zH Z ?_;refine LO.cases 95 Z (fun(g7:(decide (y3.To<0))=true)=>?_) (fun(g7:(decide (y3.To<0))=false)=>?_)
         ·refine zi g7 h fun h=>yK Z (gd g7 Z) Z<|yK Z (gd g7 Z) Z<|yE Z (bv Z (aJ g7 Z) Z)<|LO.nil<|zT ?_;cases h;exact av 8 ⟨Z,Z,Z,Z,Z,Z,Z,Z,Z,Z,Z,Z,t_⟩
         ·refine zo g7 h fun h=>yL Z (gd g7 Z) (zm Z Z)<|yL Z (gd g7 Z) (aa.not Z Z)<|yE Z (aT Z (aJ g7 Z) Z)<|LO.nil<|zT ?_;cases h;exact av 8 ⟨Z,Z,Z,Z,Z,Z,Z,Z,Z,Z,Z,Z,t_⟩
       ·have h:=k9;clear p9;refine zX Z (fun g8=>?_)<|fun g8=>?_
        ·refine zi g8 h fun h=>zq<|ai<|zy<|zT<|zR<|zM Z<|yS Z (an Z Z Z Z)<|mN Z ?_;cases h;exact⟨_,rfl,av 8 ⟨Z,Z,Z,Z,Z,Z,Z,Z,Z,Z,Z,t_⟩⟩
        ·refine zo g8 h fun h=>zk<|zT<|zQ<|LW.ent (bY.slot Z)<|fB<|yF Z (zd Z Z Z bB Z Z) Z<|yF Z (zd Z Z Z aG Z Z) Z<|zK Z<|zK Z<|zb h fun y4 c4 h=>yG Z (fun H _=>zx Z Z Z j7 c4 Z)<|yG Z (fun H _=>bR Z Z Z nC Z Z)<|zb h fun v10 a10 h=>?_;refine yF (F:=[]) (s:=none) Z (fun H _=>yP Z Z Z (NK a10) pA) Z ?_;refine yF Z (cj.alloc Z d5 (id:=8) Z) Z<|yF Z (zt Z Z Z Z aG Z Z Z) Z ?_;refine LF.nil ⟨by kernel_rfl,?_⟩;refine zT<|qR<|zM Z<|zM Z<|zb h fun y5 c5 h=>yS Z (zx Z Z Z j7 c5 Z)<|yS Z (aa.fieldAddrC Z Z y9 Z)<|yS Z (bR Z Z Z uS Z Z)<|yS Z (aa.not Z Z)<|nT ?_;refine zX Z (fun g9=>?_)<|fun g9=>?_
         ·refine zi g9 h fun h=>zR<|yS Z (zD Z Z Z aG Z Z)<|yS Z (zD Z Z Z aG Z Z)<|zb h fun v11 a11 h=>yS Z (yP Z Z Z (A6 a11) bG)<|yS Z (zs Z Z Z Z aG Z Z Z Z)<|zN<|af<|zT<|zR<|zM Z<|yS Z (an Z Z Z Z)<|mN Z ?_;cases h;exact⟨_,rfl,av 8 ⟨Z,Z,Z,Z,Z,Z,Z,Z,Z,Z,Z,t_⟩⟩
         ·have h:=zO g9 h;obtain⟨v12,p12,k12⟩:=zB h;clear h;refine LW.cut (E:=[(1,.p (.slice 5 (l.map n8))),(2,.ptr 0 0),(4,.ptr 1 0),(6,.ptr 2 0),(7,.ptr 3 0),(8,(iQ v4)),(9,(bQ v5)),(10,(iQ x1.i)),(11,.ptr 6 0),(12,(jO 7 x2.offers)),(13,(iQ x2.k)),(15,.ptr 8 0),(121,(bQ v12))]) (O:=[.box (gB w),.box rc,.box (cH v3),.box [(kI w.C.W),(uQ w.C.Seed),(iQ w.C.Epoch),(iQ w.C.Num),(iQ w.C.Den),(kI w.Bad),.p (.int .i64 (i64.wrap (w.Tick+1))),.vec 12 4 (x1.o4.map du).length 0 (x1.o4.map du).length,(jO 5 x1.o5)],.vec 12 (x1.o4.map du),.vec 9 (x1.o5.map cZ),.box (cH x2.v_in),.vec 9 (x2.offers.map cZ),.box (cH v10)]) ?_ ?_
          ·have h:=p12;refine zR<|zM Z<|zM Z ?_;refine zc 116 Z (fun g10=>?_)<|fun g10=>?_
           ·refine zi g10 h fun h=>yV Z (gd g10 Z) (zA Z Z aK)<|yV Z (gd g10 Z) (zD Z Z Z bM Z Z)<|yV Z (gd g10 Z) (ck Z Z)<|yV Z (gd g10 Z) (an Z Z Z Z)<|yS Z (bv Z (aJ g10 Z) Z)<|nT ?_;cases h;exact av 9 ⟨Z,Z,Z,Z,Z,Z,Z,Z,Z,Z,Z,Z,Z,t_⟩
           ·refine zo g10 h fun h=>yU Z (gd g10 Z) Z<|yU Z (gd g10 Z) Z<|yU Z (gd g10 Z) Z<|yU Z (gd g10 Z) Z<|yS Z (aT Z (aJ g10 Z) Z)<|nT ?_;cases h;exact av 9 ⟨Z,Z,Z,Z,Z,Z,Z,Z,Z,Z,Z,Z,Z,t_⟩
          ·have h:=k12;clear p12;refine zX Z (fun g11=>?_)<|fun g11=>?_
           ·refine zi g11 h fun h=>fB<|zK Z<|yG Z (fun H _=>zA Z Z cU)<|yF Z (zd Z Z Z aW Z Z) Z<|yG Z (fun H _=>aa.quo Z Z Z (by decide))<|zK Z<|yG Z (fun H _=>zA Z Z aK)<|yF Z (zd Z Z Z bM Z Z) Z<|zb h fun y6 c6 h=>yG Z (fun H _=>zx Z Z Z cw c6 Z)<|yG Z (fun H _=>bR Z Z Z ce Z Z)<|yG Z (fun H _=>zA Z Z aK)<|yF Z (zd Z Z Z bM Z Z) Z<|zg h fun q2 h=>yG Z (fun H _=>aa.sliceLo Z Z Z cw q2)<|yG Z (fun H _=>zA Z Z aQ)<|yF Z (zd Z Z Z co Z Z) Z<|yG Z (fun H _=>aa.build Z nh Z Z Z)<|yG Z (fun H _=>aa.build Z wA Z Z Z)<|yG Z (fun H _=>gR Z bq Z Z Z Z Z)<|zg h fun q3 h=>yF Z (cj.appendX cZ x2.offers [Of.mk (i64.wrap (w.Tick.tdiv 3)) v4 y6 (Vw.mk (v10.B.drop (1:Int).toNat) v10.V)] rfl Z Z Z Z bq q3) Z<|zK Z ?_;refine LF.nil ⟨by kernel_rfl,?_⟩;refine af<|zT<|zR<|zM Z<|yS Z (an Z Z Z Z)<|mN Z ?_;cases h;exact⟨_,rfl,av 8 ⟨Z,Z,Z,Z,Z,Z,Z,Z,Z,Z,Z,t_⟩⟩
           ·refine zo g11 h fun h=>zk<|af<|zT<|zR<|zM Z<|yS Z (an Z Z Z Z)<|mN Z ?_;cases h;exact⟨_,rfl,av 8 ⟨Z,Z,Z,Z,Z,Z,Z,Z,Z,Z,Z,t_⟩⟩
      ·refine zo g5 h fun h=>zq<|ai<|ai<|zy<|zT ?_;cases h;obtain rfl:=(m2 _ rfl);exact av 8 ⟨Z,Z,Z,Z,Z,Z,Z,Z,Z,Z,t_⟩
     ·have h:=k7;clear p7;refine zT<|LW.weak u7<|zQ ?_;refine LW.ent (bY.frz (t:=12) (env':=[(1,.p (.slice 5 (l.map n8))),(2,.ptr 0 0),(4,.ptr 1 0),(6,.ptr 2 0),(7,.ptr 3 0),(8,(iQ v4)),(9,(bQ v5)),(10,(iQ x1.i)),(11,.ptr 6 0)]) (H0:=[.box (gB w),.box rc,.box (cH v3),.box [(kI w.C.W),(uQ w.C.Seed),(iQ w.C.Epoch),(iQ w.C.Num),(iQ w.C.Den),(kI w.Bad),.p (.int .i64 (i64.wrap (w.Tick+1))),.vec 12 4 (x1.o4.map du).length 0 (x1.o4.map du).length,(jO 5 x1.o5)],.vec 12 (x1.o4.map du),.vec 9 (x1.o5.map cZ),.box (cH v7.v_in)]) Z Z Z Z Z ⟨Z,Z,Z,Z,Z,Z,Z,Z,Z,t_⟩ Z Z) ?_;refine LW.ent (bY.slot Z)<|fB<|yG Z (fun H _=>zA Z Z fm)<|yF Z (zd Z Z Z be Z Z) Z<|yG Z (fun H _=>zA Z Z bD)<|yF Z (zd Z Z Z cT Z Z) Z<|zK Z<|zb h fun y7 c7 h=>yG Z (fun H _=>zx Z Z Z dy c7 Z)<|yG Z (fun H _=>bR Z Z Z aM Z Z)<|yF Z (zd Z Z Z aG Z Z) Z<|zK Z<|zb h fun v13 a13 h=>?_;refine yF (F:=[]) (s:=none) Z (fun H _=>yP Z Z Z (M8 a13) we) Z ?_;refine zK Z<|yG Z (fun H _=>eW Z Z Z)<|yG Z (fun H _=>eW Z Z Z)<|yF Z (cj.alloc Z eU (id:=7) Z) Z<|yF Z (zt Z Z Z Z aM Z Z Z) Z<|zK Z ?_;refine LF.nil ⟨by kernel_rfl,?_⟩;refine zT<|qR<|yS Z (zA Z Z bD)<|yS Z (zD Z Z Z cT Z Z)<|yS Z (zD Z Z Z aM Z Z)<|yS Z (gR Z dy Z Z Z Z Z)<|zg h fun q4 h=>yS Z (aa.appendX du x1.o4 [v13.1] rfl Z Z Z iy.p Z dy q4 Z)<|yS Z (zA Z Z bD)<|yS Z (zs Z Z Z Z cT Z Z Z Z)<|nT<|zR<|yS Z (zA Z Z dZ)<|yS Z (zD Z Z Z bk Z Z)<|zM Z<|zg h fun q5 h=>yS Z (aa.appendX cZ x1.o5 v13.2 Z Z Z Z iy.p Z bq q5 Z)<|yS Z (zA Z Z dZ)<|yS Z (zs Z Z Z Z bk Z Z Z Z)<|zN<|af<|zT<|zR<|zM Z<|yS Z (an Z Z Z Z)<|mN Z ?_;cases h;exact⟨_,rfl,av 6 ⟨Z,Z,Z,Z,Z,Z,Z,Z,t_⟩⟩
    ·refine zo g4 h fun h=>zq<|ai<|ai<|zy<|zT ?_;cases h;obtain rfl:=(m1 _ rfl);exact av 6 ⟨Z,Z,t_⟩
   ·have h:=k6;clear p6;refine zT<|LW.weak u6<|qR<|yS Z (zD Z Z Z bB Z Z)<|yS Z (zs Z Z Z Z bB Z Z Z Z)<|nT<|zr ?_;cases h;exact zf (.one (er Z Z))<|(Conv.agg (.cons zv (.cons zv (.cons zv (.cons zv (.cons zv (.cons zv (.cons zv (.cons (Conv.vecAll Z Z Z) (.cons (Conv.vecAll Z Z Z) .nil))))))))))
structure Mi where
 i:Int
 w:Wd
structure ff where
 i:Int
 o4:List Nd
def lj (c:Cf)(bad:List Int)(x1:ff):Option (ff⊕ff):=bif decide (x1.i<(c.W.length:Int))then (F5 bad x1.i).bind fun v3=>bif !v3 then (Co x1.i).bind fun v4=>bif bJ x1.o4.length [v4].length 176 then some (.inl (ff.mk (i64.wrap (x1.i+1)) (x1.o4++[v4])))else none else some (.inl (ff.mk (i64.wrap (x1.i+1)) x1.o4))else some (.inr (ff.mk x1.i x1.o4))
def ye (c:Cf)(bad:List Int):Option Wd:=bif bJ 0 bad.length 8 then (F0 c).bind fun v1=>bif !v1 then some (Wd.mk c bad 0 [] [])else (iter (lj c bad) aY (ff.mk 0 ([]:List Nd))).bind fun v2=>some (Wd.mk c bad 3 v2.o4 [])else none
theorem NH {bad:List Int}{r_:Wd}(h:ye c bad=some r_):aq prog 29 [gQ c,.slice 1 (bad.map bh)] [w9 r_]:=by
 refine zh Tryz.func29 Z Z Z Z ?_;unfold ye at h;refine qR<|yS Z (bx Z Z Z Z Z)<|yS Z (ze Z ip Z Z)<|nT<|zQ<|LW.ent (bY.slot Z)<|LW.ent (bY.slot Z)<|fB<|yF Z (zd Z Z Z be Z Z) Z<|zK Z<|zg h fun q1 h=>yF Z (cj.appendZX bh bad Z Z (id:=2) Z Z Z dL q1) Z<|yG Z (fun H _=>aa.build Z wy Z Z Z)<|yF Z (cj.alloc Z ip (id:=3) Z) Z<|yF Z (zt Z Z Z Z bB Z Z Z) Z ?_;refine LF.nil ⟨by kernel_rfl,?_⟩;refine zT<|qR<|yS Z (zD Z Z Z be Z Z)<|zb h fun v1 a1 h=>yS Z (yP Z Z Z (Lf a1) dG)<|mN Z<|zQ<|qR<|zM Z<|yS Z (aa.not Z Z)<|nT ?_;refine zX Z (fun g1=>?_)<|fun g1=>?_
 ·refine zi g1 h fun h=>qR<|yS Z (zD Z Z Z bB Z Z)<|yS Z (zs Z Z Z Z bB Z Z Z Z)<|nT<|zr<|ae ?_;cases h;exact zf (.one (er Z Z))<|(Conv.agg (.cons zv (.cons zv (.cons zv (.cons zv (.cons zv (.cons (Conv.vecAll Z Z Z) (.cons zv (.cons Conv.zs (.cons Conv.zs .nil))))))))))
 ·refine zo g1 h fun h=>zk<|zT<|qR<|yS Z (zA Z Z cU)<|yS Z (zs Z Z Z Z aW Z Z Z Z)<|nT<|zQ<|zQ<|LW.ent (bY.lazyCell (i:=3) (j:=7) (m:=12) Z Z Z Z Z Z)<|zR<|mN Z ?_;obtain⟨v2,p2,b2⟩:=zB h;clear h;refine LW.tail (E:=[(4,.ptr 1 0),(5,.ptr 3 0)]) (O:=[.box (ch c),.box rc,.vec 1 (bad.map bh),.box [(kI c.W),(uQ c.Seed),(iQ c.Epoch),(iQ c.Num),(iQ c.Den),(jI 2 bad),(iQ 3),.vec 12 4 (v2.o4.map du).length 0 (v2.o4.map du).length,.zs],.vec 12 (v2.o4.map du)]) ?_<|fun e2 K2 u2=>?_
  ·refine LW.block ?_;refine LW.iterB (E:=fun x1:ff=>[(1,(kI bad)),(2,.ptr 0 0),(4,.ptr 1 0),(5,.ptr 3 0),(7,(iQ x1.i))]) (O:=fun x1=>[.box (ch c),.box rc,.vec 1 (bad.map bh),.box [(kI c.W),(uQ c.Seed),(iQ c.Epoch),(iQ c.Num),(iQ c.Den),(jI 2 bad),(iQ 3),.vec 12 4 (x1.o4.map du).length 0 (x1.o4.map du).length,.zs],.vec 12 (x1.o4.map du)]) p2 (av 5 ⟨Z,Z,Z,Z,Z,t_⟩)<|fun x1 z1 h m1=>?_;unfold lj at h;refine zQ<|qR<|zM Z<|yS Z (zA Z Z d3)<|yS Z (zD Z Z Z dH Z Z)<|yS Z (ck Z Z)<|yS Z (an Z Z Z Z)<|nT ?_;refine zX Z (fun g2=>?_)<|fun g2=>?_
   ·refine zi g2 h fun h=>zk<|zT<|zQ<|zl<|qR<|zM Z<|zM Z<|zb h fun v3 a3 h=>yS Z (yP Z Z Z (Lg a3) bG)<|mN Z<|qR<|zM Z<|yS Z (aa.not Z Z)<|nT ?_;refine zX Z (fun g3=>?_)<|fun g3=>?_
    ·refine zi g3 h fun h=>fB<|yG Z (fun H _=>zA Z Z bD)<|yF Z (zd Z Z Z cT Z Z) Z<|zK Z<|zb h fun v4 a4 h=>?_;refine yF (F:=[]) (s:=none) Z (fun H _=>yP Z Z Z (Nf a4) dG) Z ?_;refine yG Z (fun H _=>gR Z dy Z Z Z Z Z)<|zg h fun q2 h=>yF Z (cj.appendX du x1.o4 [v4] rfl Z Z Z Z dy q2) Z<|yG Z (fun H _=>zA Z Z bD)<|yF Z (zt Z Z Z Z cT Z Z Z) Z ?_;refine LF.nil ⟨by kernel_rfl,?_⟩;refine af<|zT<|zR<|zM Z<|yS Z (an Z Z Z Z)<|mN Z ?_;cases h;exact⟨_,rfl,av 5 ⟨Z,Z,Z,Z,Z,t_⟩⟩
    ·refine zo g3 h fun h=>zk<|af<|zT<|zR<|zM Z<|yS Z (an Z Z Z Z)<|mN Z ?_;cases h;exact⟨_,rfl,av 5 ⟨Z,Z,Z,Z,Z,t_⟩⟩
   ·refine zo g2 h fun h=>zq<|ai<|ai<|zy<|zT ?_;cases h;obtain rfl:=(m1 _ rfl);exact av 5 ⟨Z,Z,t_⟩
  ·have h:=b2;clear p2;refine zT<|LW.weak u2<|qR<|yS Z (zD Z Z Z bB Z Z)<|yS Z (zs Z Z Z Z bB Z Z Z Z)<|nT<|zr ?_;cases h;exact zf (.one (er Z Z))<|(Conv.agg (.cons zv (.cons zv (.cons zv (.cons zv (.cons zv (.cons (Conv.vecAll Z Z Z) (.cons zv (.cons (Conv.vecAll Z Z Z) (.cons Conv.zs .nil))))))))))
theorem Gm {a:Int}(h:0<=a)(h2:a<=9223372036854775807):bits .and .i64 a 1=a % 2:=by
 obtain⟨n,rfl⟩:∃n:Nat,a=n:=⟨a.toNat,by omega⟩;have e:bits .and .i64 (n:Int) 1=i64.wrap ((BitVec.ofInt 64 (n:Int) &&& BitVec.ofInt 64 1).toNat:Int):=rfl
 have e2:(BitVec.ofInt 64 (n:Int)).toNat=n:=by
  rw[BitVec.toNat_ofInt];omega
 rw[e,BitVec.toNat_and,e2,show(BitVec.ofInt 64 1).toNat=1 by decide,Nat.and_one_is_mod];rw[cX];omega
def qv (to:Int):Nat->Int
 |0=>to
 |k+1=>i64.wrap ((qv to k).tdiv 2)
theorem CU {to:Int}(h:0<=to)(h2:to<=9223372036854775807):∀k:Nat,qv to k=to / 2 ^ k
 |0=>by simp[qv]
 |k+1=>by
  have ih:=CU h h2 k;unfold qv;have h0:0<=to / 2 ^ k:=Int.ediv_nonneg h (le_of_lt (pow_pos (by omega)));have h1:to / 2 ^ k<=to:=Int.ediv_le_self _ h;rw[ih,Int.tdiv_eq_ediv_of_nonneg h0,cX,Int.ediv_ediv_of_nonneg (le_of_lt (pow_pos (by omega))),Int.pow_succ]
theorem FV (to:Int){k:Nat}(hk:k<=60):yf to (k:Int)=some ((qv to k).tmod 2==1):=by
 have e:=ax (step:=ll (k:Int)) (n:=k) (fun j=>fX.mk (qv to j) (j:Int)) (fX.mk (qv to k) (k:Int)) (fun j hj=>by
  unfold ll;simp only;rw[dO,ah (n:=j)]
  rfl) (by
  unfold ll;simp only
  rw[ft]) (by omega)
 have e':iter (ll (k:Int)) aY (fX.mk to 0)=_:=e;unfold yf;rw[e',ob]
theorem Ho {to:Int}(h:0<=to)(h2:to<=9223372036854775807){k:Nat}(hk:k<=60):((qv to k).tmod 2==1)= !wU to (k:Int):=by
 have h0:0<=to / 2 ^ k:=Int.ediv_nonneg h (le_of_lt (pow_pos (by omega)));have h1:to / 2 ^ k<=to:=Int.ediv_le_self _ h
 have hm:min (Int.toNat (k:Int)) i64.bits=k:=by
  show min (Int.toNat (k:Int)) 64=k;omega
 unfold wU;rw[hm,Int.fdiv_eq_ediv_of_nonneg _ (le_of_lt (pow_pos (by omega))),Gm h0 (by omega),CU h h2,Int.tmod_eq_emod_of_nonneg h0];generalize to / 2 ^ k=q
 have:q % 2=0\/q % 2=1:=by omega
 rcases this with e|e <;>rw[e] <;>rfl
theorem FX {l:List Bk}(b:Bk)(hl:l.length<=100000):yh l b=some (decide (b∈l)):=by
 have e:=nb (step:=jA l b) (n:=l.length) (fun j=>fi.mk (j:Int)) true (fun j=>(l[j]?).all fun y=> !decide (y=b)) (fun j hj=>by
  obtain⟨y,hy,-⟩:=az hj;unfold jA;simp only;rw[dO,au hy,ob,GP,ah (n:=j),hy];simp only[all_some]
  cases decide (y=b) <;>rfl) (by
  unfold jA;simp only
  rw[ft])
 have e':(iter (jA l b) aY (fi.mk 0)=some (.inl (fi.mk (l.length:Int)))/\_)\/(iter (jA l b) aY (fi.mk 0)=some (.inr true)/\_):=e;unfold yh;rcases e' with⟨e1,k⟩|⟨e1,j,hj,k⟩
 ·rw[e1,ob,aR]
  ·rfl
  ·intro hm;obtain⟨j,hj⟩:=getElem?_of_mem hm;have:=k j (List.getElem?_eq_some_iff.1 hj).1;rw[hj]at this;simp at this
 ·obtain⟨y,hy,hm⟩:=az hj;rw[hy]at k;rw[e1,ob,aP (show b∈l by simp at k;rw[<-k];exact hm)];rfl
theorem FY {l:List Vt}(b:Vt)(hl:l.length<=100000):yi l b=some (decide (b∈l)):=by
 have e:=nb (step:=jC l b) (n:=l.length) (fun j=>fj.mk (j:Int)) true (fun j=>(l[j]?).all fun y=> !decide (y=b)) (fun j hj=>by
  obtain⟨y,hy,-⟩:=az hj;unfold jC;simp only;rw[dO,au hy,ob,GR,ah (n:=j),hy];simp only[all_some]
  cases decide (y=b) <;>rfl) (by
  unfold jC;simp only
  rw[ft])
 have e':(iter (jC l b) aY (fj.mk 0)=some (.inl (fj.mk (l.length:Int)))/\_)\/(iter (jC l b) aY (fj.mk 0)=some (.inr true)/\_):=e;unfold yi;rcases e' with⟨e1,k⟩|⟨e1,j,hj,k⟩
 ·rw[e1,ob,aR]
  ·rfl
  ·intro hm;obtain⟨j,hj⟩:=getElem?_of_mem hm;have:=k j (List.getElem?_eq_some_iff.1 hj).1;rw[hj]at this;simp at this
 ·obtain⟨y,hy,hm⟩:=az hj;rw[hy]at k;rw[e1,ob,aP (show b∈l by simp at k;rw[<-k];exact hm)];rfl
theorem C7 (p q:Prop)[Decidable p][Decidable q]:(bif decide p then some true else some (decide q))=some (decide (p\/q)):=by
 by_cases h:p
 ·rw[aP h,ct,aP (.inl h)]
 ·rw[aR h,cf];by_cases h2:q
  ·rw[aP h2,aP (.inr h2)]
  ·rw[aR h2,aR fun h3=>h3.elim h h2]
theorem FW {w:Wd}{al:Vw}{a:Ac}(h1:a.B.length<=1000)(h2:a.V.length<=1000)(hb:w.Bad.length<=100)(h3:al.B.length<=100000)(h4:al.V.length<=100000):yg w al a=some (mG w.Bad al a):=by
 have e:=ax (step:=lm w al a) (n:=a.B.length) (fun k=>fg.mk (k:Int) ((a.B.take k).filter fun x=>decide (x.From∈w.Bad\/x∈al.B))) (fg.mk (a.B.length:Int) (a.B.filter fun x=>decide (x.From∈w.Bad\/x∈al.B))) (fun k hk=>by
  obtain⟨y,hy,-⟩:=az hk;have hlen:=bW (p:=fun x:Bk=>decide (x.From∈w.Bad\/x∈al.B)) (l:=a.B) k;unfold lm;simp only;rw[dO,au hy,ob,oQ,ob,ob,FX y h3,ob,C7,ob,bg hy,ah (n:=k)]
  cases decide (y.From∈w.Bad\/y∈al.B)with
  |true=>rw[ct,ob,aC (by simp only[length_singleton];omega),ct,ct]
  |false=>rw[cf,cf,append_nil]) (by
  unfold lm;simp only
  rw[ft,take_length]) (by omega)
 have f:=ax (step:=ln w al a) (n:=a.V.length) (fun k=>fh.mk (k:Int) ((a.V.take k).filter fun x=>decide (x.From∈w.Bad\/x∈al.V))) (fh.mk (a.V.length:Int) (a.V.filter fun x=>decide (x.From∈w.Bad\/x∈al.V))) (fun k hk=>by
  obtain⟨y,hy,-⟩:=az hk;have hlen:=bW (p:=fun x:Vt=>decide (x.From∈w.Bad\/x∈al.V)) (l:=a.V) k;unfold ln;simp only;rw[dO,au hy,ob,oQ,ob,ob,FY y h4,ob,C7,ob,bg hy,ah (n:=k)]
  cases decide (y.From∈w.Bad\/y∈al.V)with
  |true=>rw[ct,ob,aC (by simp only[length_singleton];omega),ct,ct]
  |false=>rw[cf,cf,append_nil]) (by
  unfold ln;simp only
  rw[ft,take_length]) (by omega)
 have e':iter (lm w al a) aY (fg.mk 0 [])=_:=e;have f':iter (ln w al a) aY (fh.mk 0 [])=_:=f;unfold yg;rw[e',ob,f',ob];rfl
theorem Fp {n:Nd}(h:gq 500 n):xD n=some (fL n):=by
 obtain⟨⟨a1,a2⟩,⟨b1,b2⟩,-⟩:=h;unfold xD;rw[lX,ob];rfl
theorem FU {l:List Nd}(hl:l.length<=10)(h:∀n∈l,gq 500 n):vu l=some (m9 l ⟨[],[]⟩):=by
 have e:=ax (step:=lk l) (n:=l.length) (fun k=>fW.mk (k:Int) (m9 (l.take k) ⟨[],[]⟩)) (fW.mk (l.length:Int) (m9 l ⟨[],[]⟩)) (fun k hk=>by
  obtain⟨y,hy,hm⟩:=az hk;have h1:=na (l:=l.take k) (w:=⟨[],[]⟩) (k:=500) fun n hn=>h n (List.mem_of_mem_take hn);have h2:=rJ (h y hm);rw[length_take]at h1;simp only[List.length_nil]at h1;unfold lk;simp only
  rw[dO,au hy,ob,Fp (h y hm),ob,lX,ob,aL hy,vz,ah (n:=k)]) (by
  unfold lk;simp only
  rw[ft,take_length]) (by omega)
 have e':iter (lk l) aY (fW.mk 0 ⟨[],[]⟩)=_:=e;unfold vu;rw[e',ob]
theorem DS (w:Wd)(r:List Ac)(y:Ac)(k:Nat):cE w (r++[y]) k=if y.Tick=w.Tick/\y.To>=0 then dM (uC w) (fy w) w.Bad (d6 w) (decide (fy w∈w.Bad)) (k:Int) (cE w r k) y else cE w r k:=by
 unfold cE dY;rw[List.filter_append,List.foldl_append];by_cases h:y.Tick=w.Tick/\y.To>=0
 ·rw[i1_ h,List.filter_cons_of_pos (by simpa using h)];rfl
 ·rw[i0_ h,List.filter_cons_of_neg (by simpa using h)];rfl
theorem FS {w:Wd}(h:uZ w)(hl:AX l)(hi:∀a∈l,aU .i64 a.To){k:Nat}(hk:k<=60)(o4:List Nd)(o5:List Of) :
  iter (li w l (d6 w) (fy w) (decide (fy w∈w.Bad)) (dR.mk (k:Int) o4 o5)) aY (dB.mk 0 (d6 w) w.O)=some (dB.mk (l.length:Int) (cE w l k).1 (cE w l k).2):=by
 have hal:=Cx h;have ho:=h.o;have hb:=h.bad;have hll:=hl.len
 have e:=ax (step:=li w l (d6 w) (fy w) (decide (fy w∈w.Bad)) (dR.mk (k:Int) o4 o5)) (n:=l.length) (fun j=>dB.mk (j:Int) (cE w (l.take j) k).1 (cE w (l.take j) k).2) (dB.mk (l.length:Int) (cE w l k).1 (cE w l k).2) (fun j hj=>by
  obtain⟨y,hy,hm⟩:=az hj;have et:l.take (j+1)=l.take j++[y]:=aL hy;have hlen:=w4 (slot:=uC w) (wh:=fy w) (bad:=w.Bad) (al:=d6 w) (me:=decide (fy w∈w.Bad)) (k:=(k:Int)) (l:=dY w (l.take j)) (s:=(d6 w,w.O)) fun a ha=>hl.each a (List.mem_of_mem_take (mem_filter.1 ha).1);have hcl:(dY w (l.take j)).length<=j:=le_trans (List.length_filter_le _ _) (by rw[length_take];omega);obtain⟨y1,y2⟩:=hl.each y hm;have hf:=qk w.Bad (d6 w) y;have hky:=hi y hm
  have gate:((some y).bind fun y2=>bif y2.Tick != w.Tick then some true else(some y).bind fun y3=>bif decide (y3.To<0)then some true else some (!((qv y.To k).tmod 2==1)))=some (!decide ((y.Tick=w.Tick/\y.To>=0)/\wU y.To (k:Int)=false)):=by
   rw[ob,ob];by_cases h1:y.Tick=w.Tick
   ·rw[show(y.Tick != w.Tick)=false by simp[h1],cf];by_cases h2:y.To<0
    ·rw[aP h2,ct,aR (by omega)];rfl
    ·rw[aR h2,cf,Ho (by omega) hky.2 hk,Bool.not_not]
     cases hof:wU y.To (k:Int)with
     |true=>rw[aR (by simp)];rfl
     |false=>rw[aP ⟨⟨h1,by omega⟩,rfl⟩];rfl
   ·rw[show(y.Tick != w.Tick)=true by simp[h1],ct,aR (by simp[h1])];rfl
  unfold li;simp only;rw[dO,au hy,ob,FV y.To hk,ob,gate,ob,ah (n:=j),et,DS];by_cases hc:(y.Tick=w.Tick/\y.To>=0)/\wU y.To (k:Int)=false
  ·rw [aP hc,Bool.not_true,cf,ob,FW (by omega) (by omega) hb (by omega) (by omega),ob,ob,i1_ hc.1];unfold dM;rw[i0_ (by rw[hc.2];simp)]
   have hlen':(cE w (l.take j) k).1.B.length<=10000+8*30/\(cE w (l.take j) k).1.V.length<=10000+8*30/\(cE w (l.take j) k).2.length<=20+30:=by
    unfold cE;simp only at hlen;omega
   generalize cE w (l.take j) k=s at hlen'⊢
   cases hO:y.Offer with
   |false=>rw[Bool.not_false,ct,i1_ rfl,lX,ob]
   | true=>
    rw[Bool.not_true,cf,i0_ (by simp)]
    cases hme:decide (fy w∈w.Bad)with
    |false=>rw[cf,ob,cf,i0_ (by simp)]
    | true=>
     rw[ct,ob,i1_ rfl]
     cases hB:(mG w.Bad (d6 w) y).B with
     |nil=>rw[aR (by simp),cf]
     |cons b r=>
      rw[aP (show(((b::r).length:Nat):Int)>0 by rw[length_cons];omega),ct,show ix (b::r) 0=some b from rfl,ob,show wP (b::r) 1 ((b::r).length:Int)=true from aP (by rw[length_cons];omega),ct,aC (by simp only[length_singleton];omega),ct];rfl
  ·rw[aR hc,Bool.not_false,ct];by_cases h1:y.Tick=w.Tick/\y.To>=0
   ·rw[i1_ h1];unfold dM
    rw[i1_ (by
     cases hof:wU y.To (k:Int)with
     |true=>rfl
     |false=>exact absurd ⟨h1,hof⟩ hc)]
   ·rw[i0_ h1]) (by
  unfold li;simp only
  rw[ft,take_length]) (by omega)
 exact e
def x7 :Option Bool:=(Kx).bind fun v1=>(sg v1 ([]:List Int)).bind fun v2=>(FK v2 ([]:List Ac) 3).bind fun v3=>bif v3.Tick==6 then bif (v3.N.length:Int)==1 then (ix v3.N 0).bind fun y1=>bif ((y1.C.ID.1==((nm (Bk.mk 1 0 (0,0) 0)).1))&&((y1.C.ID.2==((nm (Bk.mk 1 0 (0,0) 0)).2))&&true))then (vt v3 v3).bind fun v4=>some v4 else some false else some false else some false
theorem NB (h:x7=some r_):aq prog 22 [] [.bool r_]:=by
 refine zh Tryz.func22 Z Z Z Z ?_;unfold x7 at h;refine qR<|mN Z<|qR<|zb h fun v1 a1 h=>yS Z (yP Z Z Z (PA a1) .nil)<|zb h fun v2 a2 h=>yS Z (yP Z Z Z (JT a2) (.cons zv (.cons Conv.zs .nil)))<|zb h fun v3 a3 h=>yS Z (yP Z Z Z (NC a3) (.cons zv (.cons Conv.zs dG)))<|yS Z (ze Z ip Z Z)<|yS Z (zs Z Z Z Z bB Z Z Z Z)<|nT<|zQ<|dx<|yE Z (zA Z Z cU)<|yE Z (zD Z Z Z aW Z Z)<|yE Z (an Z Z Z Z)<|zH Z ?_;refine LO.cases 8 Z (fun(g1:(v3.Tick==6)=true)=>?_) (fun(g1:(v3.Tick==6)=false)=>?_)
 ·refine zi g1 h fun h=>yL Z (gd g1 Z) (zA Z Z bD)<|yL Z (gd g1 Z) (zD Z Z Z cT Z Z)<|yL Z (gd g1 Z) (ck Z Z)<|yL Z (gd g1 Z) (an Z Z Z Z)<|yE Z (bv Z (aJ g1 Z) Z)<|zH Z ?_;refine LO.cases 14 Z (fun(g2:((v3.N.length:Int)==1)=true)=>?_) (fun(g2:((v3.N.length:Int)==1)=false)=>?_)
  ·refine zi g2 h fun h=>yL Z (gd g2 Z) (zA Z Z bD)<|yL Z (gd g2 Z) (zD Z Z Z cT Z Z)<|zb h fun y1 j1 h=>yL Z (gd g2 Z) (zx Z Z Z dy j1 Z)<|yL Z (gd g2 Z) (aa.fieldAddrC Z Z gJ Z)<|yL Z (gd g2 Z) (aa.fieldAddrC Z Z mn Z)<|yL Z (gd g2 Z) (bR Z Z Z aF Z Z)<|yL Z (gd g2 Z) (aa.build Z K8 Z Z Z)<|yL Z (gd g2 Z) (zC Z Z Z (by kernel_rfl) (zp (Ma (b:=(Bk.mk 1 0 (0,0) 0))) dG))<|yL Z (gd g2 Z) (aa.eqlAgg Z Z Z Z Z gV)<|yE Z (bv Z (aJ g2 Z) Z)<|zH Z ?_;refine LO.cases 25 Z (fun(g3:((y1.C.ID.1==((nm (Bk.mk 1 0 (0,0) 0)).1))&&((y1.C.ID.2==((nm (Bk.mk 1 0 (0,0) 0)).2))&&true))=true)=>?_) (fun(g3:((y1.C.ID.1==((nm (Bk.mk 1 0 (0,0) 0)).1))&&((y1.C.ID.2==((nm (Bk.mk 1 0 (0,0) 0)).2))&&true))=false)=>?_)
   ·refine zi g3 h fun h=>yL Z (gd g3 Z) (zD Z Z Z bB Z Z)<|yL Z (gd g3 Z) (zD Z Z Z bB Z Z)<|zb h fun v4 a4 h=>yL Z (gd g3 Z) (yP Z Z Z (JX a4) bG)<|yE Z (bv Z (aJ g3 Z) Z)<|zH Z<|LO.nil<|zT<|zr ?_;cases h;exact aZ Z
   ·refine zo g3 h fun h=>yK Z (gd g3 Z) Z<|yK Z (gd g3 Z) Z<|yK Z (gd g3 Z) Z<|yE Z (aT Z (aJ g3 Z) Z)<|zH Z<|LO.nil<|zT<|zr ?_;cases h;exact aZ Z
  ·refine zo g2 h fun h=>yK Z (gd g2 Z) Z<|yK Z (gd g2 Z) Z<|yK Z (gd g2 Z) Z<|yK Z (gd g2 Z) Z<|yK Z (gd g2 Z) Z<|yK Z (gd g2 Z) Z<|yK Z (gd g2 Z) Z<|yK Z (gd g2 Z) Z<|yK Z (gd g2 Z) Z<|yE Z (aT Z (aJ g2 Z) Z)<|zH Z<|b8 Z<|b8 Z<|b8 Z<|yE Z (aT Z Z Z)<|zH Z<|LO.nil<|zT<|zr ?_;cases h;exact aZ Z
 ·refine zo g1 h fun h=>yK Z (gd g1 Z) Z<|yK Z (gd g1 Z) Z<|yK Z (gd g1 Z) Z<|yK Z (gd g1 Z) Z<|yE Z (aT Z (aJ g1 Z) Z)<|zH Z<|b8 Z<|b8 Z<|b8 Z<|b8 Z<|b8 Z<|b8 Z<|b8 Z<|b8 Z<|b8 Z<|yE Z (aT Z Z Z)<|zH Z<|b8 Z<|b8 Z<|b8 Z<|yE Z (aT Z Z Z)<|zH Z<|LO.nil<|zT<|zr ?_;cases h;exact aZ Z
structure fe where
 i:Int
def jz (l:List Ac)(x1:fe):Option (fe⊕(fe⊕Bool)):=bif decide (x1.i<(l.length:Int))then (ix l x1.i).bind fun y1=>bif decide ((y1.B.length:Int)>8)then some (.inr (.inr false))else (ix l x1.i).bind fun y2=>bif decide ((y2.V.length:Int)>8)then some (.inr (.inr false))else some (.inl (fe.mk (i64.wrap (x1.i+1))))else some (.inr (.inl (fe.mk x1.i)))
def vr (l:List Ac)(most:Int):Option Bool:=bif decide ((l.length:Int)>most)then some false else (iter (jz l) aY (fe.mk 0)).bind fun b_v1=>Sum.elim (fun _=>some true) some b_v1
theorem ND {most:Int}(h:vr l most=some r_):aq prog 23 [.slice 5 (l.map n8),.int .i64 most] [.bool r_]:=by
 refine zh Tryz.func23 Z Z Z Z ?_;unfold vr at h;refine qR<|mN Z<|zQ<|qR<|zM Z<|yS Z (ck Z Z)<|zM Z<|yS Z (an Z Z Z Z)<|nT ?_;refine zX Z (fun g1=>?_)<|fun g1=>?_
 ·refine zi g1 h fun h=>qR<|mN Z<|LW.ret<|ae ?_;cases h;exact aZ Z
 ·refine zo g1 h fun h=>zk<|zT<|zQ<|qR<|mN Z ?_;obtain⟨w1,p1,q1⟩:=zB h;clear h;refine LW.tailB (b:=w1) (E:=fun v1=>[(4,(bQ false))]) (O:=fun v1=>[]) ?_<|fun v1 f1 e1 K1 u1=>?_
  ·refine LW.block ?_;refine LW.iterB (E:=fun x1:fe=>[(0,.p (.slice 5 (l.map n8))),(4,(bQ false)),(5,(iQ x1.i))]) (O:=fun x1=>[]) p1 (av 0 ⟨Z,Z,Z,t_⟩)<|fun x1 z1 h m1=>?_;unfold jz at h;refine zQ<|qR<|zM Z<|zM Z<|yS Z (ck Z Z)<|yS Z (an Z Z Z Z)<|nT ?_;refine zX Z (fun g2=>?_)<|fun g2=>?_
   ·refine zi g2 h fun h=>zk<|zT<|zQ<|zl<|qR<|zM Z<|zM Z<|zb h fun y1 a1 h=>yS Z (zx Z Z Z j7 a1 Z)<|yS Z (aa.fieldAddrC Z Z ly Z)<|yS Z (bR Z Z Z bM Z Z)<|yS Z (ck Z Z)<|yS Z (an Z Z Z Z)<|zM Z ?_;refine zc 23 Z (fun g3=>?_)<|fun g3=>?_
    ·refine zi g3 h fun h=>yU Z (gd g3 Z) Z<|yU Z (gd g3 Z) Z<|yU Z (gd g3 Z) Z<|yU Z (gd g3 Z) Z<|yU Z (gd g3 Z) Z<|yU Z (gd g3 Z) Z<|yU Z (gd g3 Z) Z<|yS Z (bv Z (aJ g3 Z) Z)<|nT<|LW.condT Z<|qR<|mN Z<|zr<|ak<|ae<|ae<|ak<|ae<|ae ?_;cases h;obtain rfl:=(m1 _ rfl);have h:=bO q1;cases h;exact aZ Z
    ·refine zo g3 h fun h=>yV Z (gd g3 Z) (zm Z Z)<|yV Z (gd g3 Z) (zm Z Z)<|zb h fun y2 a2 h=>yV Z (gd g3 Z) (zx Z Z Z j7 a2 Z)<|yV Z (gd g3 Z) (aa.fieldAddrC Z Z lz Z)<|yV Z (gd g3 Z) (bR Z Z Z co Z Z)<|yV Z (gd g3 Z) (ck Z Z)<|yV Z (gd g3 Z) (an Z Z Z Z)<|yS Z (aT Z (aJ g3 Z) Z)<|nT ?_;refine zX Z (fun g4=>?_)<|fun g4=>?_
     ·refine zi g4 h fun h=>qR<|mN Z<|LW.ret<|ak<|ae<|ae<|ak<|ae<|ae ?_;cases h;obtain rfl:=(m1 _ rfl);have h:=bO q1;cases h;exact aZ Z
     ·refine zo g4 h fun h=>zk<|af<|zT<|zR<|zM Z<|yS Z (an Z Z Z Z)<|mN Z ?_;cases h;exact⟨_,rfl,av 0 ⟨Z,Z,Z,t_⟩⟩
   ·refine zo g2 h fun h=>zq<|ai<|ai<|zy<|zT ?_;cases h;obtain rfl:=(m1 _ rfl);exact⟨_,rfl,av 0 ⟨Z,t_⟩⟩
  ·obtain rfl:=f1;have h:=cR q1;clear p1;refine zT<|LW.weak u1<|qR<|mN Z<|zr ?_;cases h;exact aZ Z
theorem FJ :x7=some true:=by kernel_rfl
theorem FL (l:List Ac){k:Int}(hk:k<=100):vr l k=some false\/(vr l k=some true/\(l.length:Int)<=k/\∀a∈l,a.B.length<=8/\a.V.length<=8):=by
 unfold vr;by_cases h:(l.length:Int)>k
 ·rw[aP h,ct];exact .inl rfl
 ·rw [aR h,cf]
  have e:=rZ (step:=jz l) (n:=l.length) (fun j=>fe.mk (j:Int)) false (fun j=>∀a,l[j]?=some a->a.B.length<=8/\a.V.length<=8) (fun j hj=>by
   obtain⟨y,hy,-⟩:=az hj;unfold jz;simp only;rw[dO,au hy,ob,ob];by_cases h1:(y.B.length:Int)>8
   ·rw[aP h1,ct];exact .inl rfl
   ·rw[aR h1,cf];by_cases h2:(y.V.length:Int)>8
    ·rw[aP h2,ct];exact .inl rfl
    ·rw[aR h2,cf,ah (n:=j)];refine .inr ⟨rfl,fun a ha=>?_⟩;rw[hy]at ha;obtain rfl:=Option.some.inj ha
     omega) (by
   unfold jz;simp only
   rw[ft])
  have e2:iter (jz l) aY (fe.mk 0)=some (.inr false)\/(iter (jz l) aY (fe.mk 0)=some (.inl (fe.mk (l.length:Int)))/\_):=e;rcases e2 with e2|⟨e2,h3⟩
  ·rw[e2,ob];exact .inl rfl
  ·rw[e2,ob];refine .inr ⟨rfl,by omega,fun a ha=>?_⟩;obtain⟨j,hj⟩:=getElem?_of_mem ha;exact h3 j (List.getElem?_eq_some_iff.1 hj).1 a hj
structure Qo (c:Cf)(bad:List Int)(l:List Ac):Prop where
 acts:AX l
 len:l.length<=25
 may:cY c
 w:c.W.length<=6
 bad:bad.length<=6
def oA (bad:List Int)(n:Nat):List Int:=((List.range n).map Int.ofNat).filter fun i=>decide (i∉bad)
theorem ug (bad:List Int)(n:Nat):oA bad (n+1)=oA bad n++if (n:Int)∈bad then[]else[(n:Int)]:=by
 unfold oA;rw[List.range_succ,map_append,List.filter_append];by_cases h:(n:Int)∈bad <;>simp[h]
theorem rG (bad:List Int)(n:Nat):(oA bad n).length<=n:=le_trans (List.length_filter_le _ _) (by simp)
def Bw (i:Int):Nd:=⟨i,3,⟨[],[]⟩,⟨[],[]⟩,[],⟨(0,0),0,0⟩,false⟩
def Bx (c:Cf)(bad:List Int):Wd:=⟨c,bad,3,(oA bad c.W.length).map Bw,[]⟩
theorem FH {bad:List Int}(hm:cY c)(hb:bad.length<=100):sg c bad=some (Bx c bad):=by
 have hw:=hm.2.1
 have e:=ax (step:=lc c bad) (n:=c.W.length) (fun k=>fc.mk (k:Int) ((oA bad k).map Bw)) (fc.mk (c.W.length:Int) ((oA bad c.W.length).map Bw)) (fun k hk=>by
  have hg:=rG bad k;unfold lc;simp only;rw[dO,pJ,ob,ug,ah (n:=k)];by_cases h:(k:Int)∈bad
  ·rw[aP h,Bool.not_true,cf,i1_ h,append_nil]
  ·rw[aR h,Bool.not_false,ct,i0_ h];unfold Cn;rw[ob,aC (by rw[length_map];simp only[length_singleton];omega),ct,map_append]
   rfl) (by
  unfold lc;simp only
  rw[ft]) (by omega)
 have e':iter (lc c bad) aY (fc.mk 0 [])=_:=e;unfold sg;rw[aC,ct,l8,ob,aP hm,Bool.not_true,cf,e',ob];rfl
theorem G9 (hm:cY c):ov c ⟨[],[]⟩:=⟨hm,Ez,by simp,by simp,fun b hb=>(by cases hb),fun v hv=>(by cases hv),nodup_nil,fun v hv=>(by cases hv)⟩
theorem LP {bad:List Int}(hm:cY c)(hw:c.W.length<=6)(hb:bad.length<=10)(U:Vw):Pa U (Bx c bad)/\Pk (Bx c bad):=by
 have hg:=rG bad c.W.length
 have hN:∀n∈(Bx c bad).N,∃i,n=Bw i:=fun n hn=>by
  obtain⟨i,-,h⟩:=List.mem_map.1 hn;exact⟨i,h.symm⟩
 refine⟨⟨by show((oA bad c.W.length).map Bw).length<=6;rw[length_map];omega,hb,fun n hn=>?_,Nat.zero_le _,fun o ho=>by cases ho⟩,⟨hm,Int.le_refl _,by show(3:Int)<=100000;omega,fun n hn=>?_⟩⟩
 ·obtain⟨i,rfl⟩:=hN n hn;exact⟨G9 hm,⟨nodup_nil,nodup_nil⟩,Nat.zero_le _,⟨tJ,tJ,fun o ho=>(by cases ho)⟩,fun o ho=>(by cases ho)⟩
 ·obtain⟨i,rfl⟩:=hN n hn;rfl
theorem FR {w:Wd}(hW:w.C.W.length<=1000)(h:uZ w)(hl:AX l)(hi:∀a∈l,aU .i64 a.To)(hR:∀k n,w.N[k]?=some n->KR w.C n (cE w l k).1 (cE w l k).2):yd w l=some (HY w l):=by
 have hN:=h.n;have gate:=ui w;rw[l8,ob]at gate;unfold yd HY;rw[oM hW,ob,gate,ob]
 cases hid:zZ w with
 |true=>rw[ct,i1_ rfl]
 | false=>
  have hT:∀k n,w.N[k]?=some n->(g0 w.C n (cE w l k).1 (cE w l k).2).2.length<=1:=fun k n hn=>(uF (hR k n hn).g).2.1;have hsl:=r5 w l;have ho:=h.o;have hb:=h.bad
  have hfl:∀k,k<=w.N.length->(((fx w l).take k).flatMap (·.2)).length<=k:=by
   intro k
   induction k with
   |zero=>intro _;simp
   |succ k ih=>
    intro hk;obtain⟨n,hn⟩:∃n,w.N[k]?=some n:=⟨_,List.getElem?_eq_getElem (by omega)⟩;rw[List.take_add_one,lP hn,List.flatMap_append,List.length_append];have:=ih (by omega);have:=hT k n hn;simp only[Option.toList_some,List.flatMap_cons,List.flatMap_nil,append_nil];omega
  have e:=ax (step:=lh w l (d6 w) (fy w) (decide (fy w∈w.Bad))) (n:=w.N.length) (fun k=>dR.mk (k:Int) (((fx w l).take k).map (·.1)) (((fx w l).take k).flatMap (·.2))) (dR.mk (w.N.length:Int) ((fx w l).map (·.1)) ((fx w l).flatMap (·.2))) (fun k hk=>by
   obtain⟨y,hy,hm⟩:=az hk;have hk2:=hfl k (by omega);have hT1:=hT k y hy;have hw:=(uG (hR k y hy).g).1;unfold lh;simp only;rw[dO,aC,ct,FS h hl hi (by omega),ob,au hy,ob,Fm (hR k y hy),hw,ob,aC (by rw[length_map,length_take];simp only[length_singleton];omega),ct,aC,ct,ah (n:=k)];rw[List.take_add_one,lP hy,map_append,List.flatMap_append]
   simp) (by
   unfold lh;simp only
   rw[ft,List.take_of_length_le (by omega)]) (by omega)
  have e':iter (lh w l (d6 w) (fy w) (decide (fy w∈w.Bad))) aY (dR.mk 0 [] [])=_:=e;have hall:vu w.N=some (d6 w):=FU hN h.nodes;have hwho:HW w.C (i64.wrap (w.Tick.tdiv 3))=some (fy w):=wq hW;rw[cf,hall,ob,hwho,ob,oQ,ob,e',ob,i0_ (by simp)]
theorem FT {bad:List Int}(hW:c.W.length<=1000)(hb:bad.length<=100):ye c bad=some (if cY c then Bx c bad else⟨c,bad,0,[],[]⟩):=by
 unfold ye;rw[aC,ct,oM hW,ob];by_cases hm:cY c
 ·have hw:=hm.2.1
  have e:=ax (step:=lj c bad) (n:=c.W.length) (fun k=>ff.mk (k:Int) ((oA bad k).map Bw)) (ff.mk (c.W.length:Int) ((oA bad c.W.length).map Bw)) (fun k hk=>by
   have hg:=rG bad k;unfold lj;simp only;rw[dO,oQ,ob,ug,ah (n:=k)];by_cases h:(k:Int)∈bad
   ·rw[aP h,Bool.not_true,cf,i1_ h,append_nil]
   ·rw[aR h,Bool.not_false,ct,i0_ h];unfold Co;rw[ob,aC (by rw[length_map];simp only[length_singleton];omega),ct,map_append]
    rfl) (by
   unfold lj;simp only
   rw[ft]) (by omega)
  have e':iter (lj c bad) aY (ff.mk 0 [])=_:=e;rw[aP hm,Bool.not_true,cf,e',ob,i1_ hm];rfl
 ·rw[aR hm,Bool.not_false,ct,i0_ hm]
theorem Dy {bad:List Int}(hb:bad.length<=100):sg c bad=some (if cY c then Bx c bad else⟨c,bad,0,[],[]⟩):=by
 by_cases hm:cY c
 ·rw[FH hm hb,i1_ hm]
 ·unfold sg;rw[aC,ct,l8,ob,aR hm,Bool.not_false,ct,i0_ hm]
structure EH (w:Wd):Prop where
 n:w.N.length<=100000
 nodes:∀n∈w.N,AK n
 o:w.O.length<=100000
 offs:∀o∈w.O,gr o
 bad:w.Bad.length<=100000
theorem qm {w:Wd}(h:uZ w):EH w:=
 ⟨by have:=h.n;omega,fun n hn=>Es (by omega) (h.nodes n hn),by have:=h.o;omega,qY (by omega) h.offs,by have:=h.bad;omega⟩
theorem CE {α:Type}(a b:List α):((a.length:Int) != (b.length:Int))=true->a≠b:=fun h e=>by subst e;simp at h
theorem tu {a b:Wd}(h:EH a)(hc:a.C=b.C):tt a b=some (pd a b):=by
 obtain⟨h1,h2,h3,h4,h5⟩:=h
 have no:∀{x:Bool},a≠b->x=false->some x=some (pd a b):=fun hn hx=>by rw[bw hn,hx]
 unfold tt;rw[Fo h3 h4,ob];by_cases e1:a.O=b.O
 case neg=>rw[bw e1,Bool.not_false,ct,ob,ct];exact no (fun e=>e1 (by rw[e])) rfl
 rw[bV e1,Bool.not_true,cf];by_cases e2:a.Tick=b.Tick
 case neg=>rw[show(a.Tick != b.Tick)=true by simp[e2],ct,ob,ct];exact no (fun e=>e2 (by rw[e])) rfl
 rw[show(a.Tick != b.Tick)=false by simp[e2],cf]
 cases e3:((a.Bad.length:Int) != (b.Bad.length:Int))with
 |true=>rw[ct,ob,ct];exact no (fun e=>CE _ _ e3 (by rw[e])) rfl
 | false=>
  rw[cf,ob]
  cases e4:((a.N.length:Int) != (b.N.length:Int))with
  |true=>rw[ct];exact no (fun e=>CE _ _ e4 (by rw[e])) rfl
  | false=>
   rw[cf]
   have l3:a.Bad.length=b.Bad.length:=by have:=bne_eq_false_iff_eq.1 e3;omega
   have l4:a.N.length=b.N.length:=by have:=bne_eq_false_iff_eq.1 e4;omega
   have p:=rY (step:=jy a b) (a:=a.Bad) (b:=b.Bad) (fun k=>fd.mk (k:Int)) l3 (fun j y z hj hm hy hz=>by
    unfold jy;simp only
    rw[dO,au hy,au hz,ob,ob,sT,ks,ah (n:=j)]) (by
    unfold jy;simp only
    rw[ft])
   have q:=rY (step:=iJ a b) (a:=a.N) (b:=b.N) (fun k=>eE.mk (k:Int)) l4 (fun j y z hj hm hy hz=>by
    unfold iJ;simp only
    rw[dO,au hy,au hz,ob,ob,Fn (h2 y hm),ob,ks,ah (n:=j)]) (by
    unfold iJ;simp only
    rw[ft])
   have p':(iter (jy a b) aY (fd.mk 0)=some (.inl (fd.mk (a.Bad.length:Int)))/\a.Bad=b.Bad)\/(iter (jy a b) aY (fd.mk 0)=some (.inr false)/\a.Bad≠b.Bad):=p;have q':(iter (iJ a b) aY (eE.mk 0)=some (.inl (eE.mk (a.N.length:Int)))/\a.N=b.N)\/(iter (iJ a b) aY (eE.mk 0)=some (.inr false)/\a.N≠b.N):=q;rcases p' with⟨ep,hp⟩|⟨ep,hp⟩
   ·rw[ep,ob];show((iter (iJ a b) aY (eE.mk 0)).bind _)=_;rcases q' with⟨eq,hq⟩|⟨eq,hq⟩
    ·rw[eq,ob,bV (by
      obtain⟨a1,a2,a3,a4,a5⟩:=a;obtain⟨b1,b2,b3,b4,b5⟩:=b;simp only at hc e1 e2 hp hq
      rw[hc,e1,e2,hp,hq])]
     rfl
    ·rw[eq,ob];exact no (fun e=>hq (by rw[e])) rfl
   ·rw[ep,ob];exact no (fun e=>hp (by rw[e])) rfl
theorem FO {a b:List Int}(hl:a.length<=100000):yc a b=some (pd a b):=by
 unfold yc
 exact jm (fun k=>iK.mk (k:Int)) (fun j y z hj hm hy hz=>by
  unfold p5;simp only
  rw[dO,au hy,au hz,ob,ob,sT,ah (n:=j),ks]) (by
  unfold p5;simp only
  rw[ft])
theorem IG {a b:List Nd}(hl:a.length<=100000)(hs:∀n∈a,AK n):Gc a b=some (pd a b):=by
 unfold Gc
 exact jm (fun k=>kp.mk (k:Int)) (fun j y z hj hm hy hz=>by
  unfold sP;simp only
  rw[dO,au hy,au hz,ob,ob,xz (hs y hm),ob,ah (n:=j),ks]) (by
  unfold sP;simp only
  rw[ft])
theorem FN {a b:Wd}(h:EH a)(hc:a.C=b.C):vt a b=some (pd a b):=by
 obtain⟨h1,h2,h3,h4,h5⟩:=h;unfold vt;rw[xz ⟨by simp,by simp,h3,h4⟩,ob,n9,FO h5,ob,IG h1 h2,ob];by_cases e1:a.O=b.O
 case neg=>rw[bw fun e=>e1 (Nd.mk.inj e).2.2.2.2.1,cf,bw fun e=>e1 (by rw[e])]
 rw[bV (by rw[e1]),ct];obtain⟨a1,a2,a3,a4,a5⟩:=a;obtain⟨b1,b2,b3,b4,b5⟩:=b;simp only at hc e1⊢
 refine ed (fun e2=>ed (fun e3=>?_) fun e=>by rw[bw fun h=>e (Wd.mk.inj h).2.1]) fun e=>by rw[bw fun h=>e (Wd.mk.inj h).2.2.1]
 by_cases e4:a4=b4
 ·rw[bV e4,bV (by rw[hc,e1,e2,e3,e4])]
 ·rw[bw e4,bw fun h=>e4 (Wd.mk.inj h).2.2.2.1]
def IP (o:Of):Prop:=aU .i64 o.Slot/\aU .i64 o.From/\ou o.B/\KW o.V
def KU (n:Nd):Prop:=aU .i64 n.No/\aU .i64 n.Tick/\KW n.V/\KW n.In/\(∀o∈n.O,IP o)/\Pi n.C
theorem J9 (h:sF (.agg [.int .i64,.int .i64,.int .i64,.int .i64,.int .u64,.int .u64,.int .u64,.slice 5 (.agg [.int .i64,.int .i64,.int .u64,.int .u64,.int .u64]),.slice 4 (.agg [.int .i64,.int .i64,.int .u64,.int .u64])]) p):∃o:Of,p=cZ o/\IP o:=by
 cases h with|agg h=>
 cases h with|cons a1 h=>cases h with|cons a2 h=>cases h with|cons a3 h=>cases h with|cons a4 h=>cases h with|cons a5 h=>cases h with|cons a6 h=>cases h with|cons a7 h=>cases h with|cons a8 h=>cases h with|cons a9 h=>
  cases h;obtain⟨x,rfl,hx⟩:=d4 (fun _ h=>CX h) a8;obtain⟨y,rfl,hy⟩:=d4 (fun _ h=>C0 h) a9;cases a1;cases a2;cases a3;cases a4;cases a5;cases a6;cases a7;exact⟨⟨_,_,⟨_,_,(_,_),_⟩,⟨x,y⟩⟩,rfl,by assumption,by assumption,⟨by assumption,by assumption,by assumption,by assumption,by assumption⟩,hx,hy⟩
theorem Oi (h:sF (.agg [.int .i64,.int .i64,.slice 5 (.agg [.int .i64,.int .i64,.int .u64,.int .u64,.int .u64]),.slice 4 (.agg [.int .i64,.int .i64,.int .u64,.int .u64]),.slice 5 (.agg [.int .i64,.int .i64,.int .u64,.int .u64,.int .u64]),.slice 4 (.agg [.int .i64,.int .i64,.int .u64,.int .u64]),.slice 9 (.agg [.int .i64,.int .i64,.int .i64,.int .i64,.int .u64,.int .u64,.int .u64,.slice 5 (.agg [.int .i64,.int .i64,.int .u64,.int .u64,.int .u64]),.slice 4 (.agg [.int .i64,.int .i64,.int .u64,.int .u64])]),.int .u64,.int .u64,.int .i64,.int .i64,.bool]) p):∃n:Nd,p=du n/\KU n:=by
 cases h with|agg h=>
 cases h with|cons a1 h=>cases h with|cons a2 h=>cases h with|cons a3 h=>cases h with|cons a4 h=>cases h with|cons a5 h=>cases h with|cons a6 h=>cases h with|cons a7 h=>cases h with|cons a8 h=>cases h with|cons a9 h=>cases h with|cons b1 h=>cases h with|cons b2 h=>cases h with|cons b3 h=>
  cases h;obtain⟨x,rfl,hx⟩:=d4 (fun _ h=>CX h) a3;obtain⟨y,rfl,hy⟩:=d4 (fun _ h=>C0 h) a4;obtain⟨u,rfl,hu⟩:=d4 (fun _ h=>CX h) a5;obtain⟨v,rfl,hv⟩:=d4 (fun _ h=>C0 h) a6;obtain⟨o,rfl,ho⟩:=d4 (fun _ h=>J9 h) a7;cases a1;cases a2;cases a8;cases a9;cases b1;cases b2;cases b3;exact⟨⟨_,_,⟨x,y⟩,⟨u,v⟩,o,⟨(_,_),_,_⟩,_⟩,rfl,by assumption,by assumption,⟨hx,hy⟩,⟨hu,hv⟩,ho,⟨by assumption,by assumption⟩,by assumption,by assumption⟩
def Kv (a:Ac):Prop:=aU .i64 a.Tick/\aU .i64 a.To/\(∀b∈a.B,ou b)/\∀v∈a.V,KV v
theorem Oh (h:sF (.agg [.int .i64,.int .i64,.bool,.slice 5 (.agg [.int .i64,.int .i64,.int .u64,.int .u64,.int .u64]),.slice 4 (.agg [.int .i64,.int .i64,.int .u64,.int .u64])]) p):∃a:Ac,p=n8 a/\Kv a:=by
 cases h with|agg h=>
 cases h with|cons a1 h=>cases h with|cons a2 h=>cases h with|cons a3 h=>cases h with|cons a4 h=>cases h with|cons a5 h=>
  cases h;obtain⟨x,rfl,hx⟩:=d4 (fun _ h=>CX h) a4;obtain⟨y,rfl,hy⟩:=d4 (fun _ h=>C0 h) a5;cases a1;cases a2;cases a3;exact⟨⟨_,_,_,x,y⟩,rfl,by assumption,by assumption,hx,hy⟩
def My (w:Wd):Prop:=Ph w.C/\aU .i64 w.Tick/\(∀n∈w.N,KU n)/\∀o∈w.O,IP o
theorem Oj (h:sF (.agg [.slice 1 (.int .i64),.int .u64,.int .i64,.int .i64,.int .i64,.slice 1 (.int .i64),.int .i64,.slice 12 (.agg [.int .i64,.int .i64,.slice 5 (.agg [.int .i64,.int .i64,.int .u64,.int .u64,.int .u64]),.slice 4 (.agg [.int .i64,.int .i64,.int .u64,.int .u64]),.slice 5 (.agg [.int .i64,.int .i64,.int .u64,.int .u64,.int .u64]),.slice 4 (.agg [.int .i64,.int .i64,.int .u64,.int .u64]),.slice 9 (.agg [.int .i64,.int .i64,.int .i64,.int .i64,.int .u64,.int .u64,.int .u64,.slice 5 (.agg [.int .i64,.int .i64,.int .u64,.int .u64,.int .u64]),.slice 4 (.agg [.int .i64,.int .i64,.int .u64,.int .u64])]),.int .u64,.int .u64,.int .i64,.int .i64,.bool]),.slice 9 (.agg [.int .i64,.int .i64,.int .i64,.int .i64,.int .u64,.int .u64,.int .u64,.slice 5 (.agg [.int .i64,.int .i64,.int .u64,.int .u64,.int .u64]),.slice 4 (.agg [.int .i64,.int .i64,.int .u64,.int .u64])])]) p):∃w:Wd,p=w9 w/\My w:=by
 cases h with|agg h=>
 cases h with|cons a1 h=>cases h with|cons a2 h=>cases h with|cons a3 h=>cases h with|cons a4 h=>cases h with|cons a5 h=>cases h with|cons a6 h=>cases h with|cons a7 h=>cases h with|cons a8 h=>cases h with|cons a9 h=>
  cases h;obtain⟨x,rfl,hx⟩:=G3 a1;obtain⟨y,rfl,hy⟩:=G3 a6;obtain⟨u,rfl,hu⟩:=d4 (fun _ h=>Oi h) a8;obtain⟨o,rfl,ho⟩:=d4 (fun _ h=>J9 h) a9;cases a2;cases a3;cases a4;cases a5;cases a7;exact⟨⟨⟨x,_,_,_,_⟩,y,_,u,o⟩,rfl,⟨hx,by assumption,by assumption,by assumption,by assumption⟩,by assumption,hu,ho⟩
def Cq (w:Wd)(l:List Ac):Option Bool:=(x7).bind fun v1=>(vr l 25).bind fun v2=>(vf w.N 6 20).bind fun v3=>(td w.O 20).bind fun v4=>(bif !v1 then some true else bif !v2 then some true else bif !v3 then some true else bif !v4 then some true else bif decide ((w.C.W.length:Int)>6)then some true else some (decide ((w.Bad.length:Int)>10))).bind fun v5=>bif v5 then some v1 else (tr w l).bind fun v6=>(yd w l).bind fun v7=>(tt v6 v7).bind fun v8=>(sg w.C w.Bad).bind fun v9=>(ye w.C w.Bad).bind fun v10=>(tt v9 v10).bind fun v11=>(tt w v6).bind fun v12=>bif v8 then bif v11 then (vt w v6).bind fun v13=>some (v13==v12)else some false else some false
theorem NF {w:Wd}(h:Cq w l=some r_):aq prog 4 [w9 w,.slice 5 (l.map n8)] [.bool r_]:=by
 refine zh Tryz.func4 Z Z Z Z ?_;unfold Cq at h;refine qR<|yS Z (bx Z Z Z Z Z)<|mN Z<|qR<|zb h fun v1 a1 h=>yS Z (yP Z Z Z (NB a1) .nil)<|mN Z<|qR<|zM Z<|zb h fun v2 a2 h=>yS Z (yP Z Z Z (ND a2) bG)<|mN Z<|qR<|yS Z (zA Z Z bD)<|yS Z (zD Z Z Z cT Z Z)<|zb h fun v3 a3 h=>yS Z (yP Z Z Z (M7 a3) pA)<|mN Z<|qR<|yS Z (zA Z Z dZ)<|yS Z (zD Z Z Z bk Z Z)<|zb h fun v4 a4 h=>yS Z (yP Z Z Z (JJ a4) bG)<|mN Z<|zQ ?_;obtain⟨v5,p5,q5⟩:=zB h;clear h;refine LW.cut (E:=[(1,.p (.slice 5 (l.map n8))),(2,.ptr 0 0),(4,(bQ false)),(5,(bQ v1)),(49,(bQ v5))]) (O:=[.box (gB w)]) ?_ ?_
 ·have h:=p5;refine zR<|zM Z<|yS Z (aa.not Z Z)<|zM Z ?_;refine zc 25 Z (fun g1=>?_)<|fun g1=>?_
  ·refine zi g1 h fun h=>yU Z (gd g1 Z) Z<|yU Z (gd g1 Z) Z<|yS Z (bv Z (aJ g1 Z) Z)<|zM Z<|aw Z<|aw Z<|yS Z (bv Z Z Z)<|zM Z<|aw Z<|aw Z<|yS Z (bv Z Z Z)<|zM Z<|aw Z<|aw Z<|aw Z<|aw Z<|aw Z<|yS Z (bv Z Z Z)<|zM Z<|aw Z<|aw Z<|aw Z<|aw Z<|yS Z (bv Z Z Z)<|nT ?_;cases h;exact av 1 ⟨Z,Z,Z,Z,Z,t_⟩
  ·refine zo g1 h fun h=>yV Z (gd g1 Z) (zm Z Z)<|yV Z (gd g1 Z) (aa.not Z Z)<|yS Z (aT Z (aJ g1 Z) Z)<|zM Z ?_;refine zc 29 Z (fun g2=>?_)<|fun g2=>?_
   ·refine zi g2 h fun h=>yU Z (gd g2 Z) Z<|yU Z (gd g2 Z) Z<|yS Z (bv Z (aJ g2 Z) Z)<|zM Z<|aw Z<|aw Z<|yS Z (bv Z Z Z)<|zM Z<|aw Z<|aw Z<|aw Z<|aw Z<|aw Z<|yS Z (bv Z Z Z)<|zM Z<|aw Z<|aw Z<|aw Z<|aw Z<|yS Z (bv Z Z Z)<|nT ?_;cases h;exact av 1 ⟨Z,Z,Z,Z,Z,t_⟩
   ·refine zo g2 h fun h=>yV Z (gd g2 Z) (zm Z Z)<|yV Z (gd g2 Z) (aa.not Z Z)<|yS Z (aT Z (aJ g2 Z) Z)<|zM Z ?_;refine zc 33 Z (fun g3=>?_)<|fun g3=>?_
    ·refine zi g3 h fun h=>yU Z (gd g3 Z) Z<|yU Z (gd g3 Z) Z<|yS Z (bv Z (aJ g3 Z) Z)<|zM Z<|aw Z<|aw Z<|aw Z<|aw Z<|aw Z<|yS Z (bv Z Z Z)<|zM Z<|aw Z<|aw Z<|aw Z<|aw Z<|yS Z (bv Z Z Z)<|nT ?_;cases h;exact av 1 ⟨Z,Z,Z,Z,Z,t_⟩
    ·refine zo g3 h fun h=>yV Z (gd g3 Z) (zm Z Z)<|yV Z (gd g3 Z) (aa.not Z Z)<|yS Z (aT Z (aJ g3 Z) Z)<|zM Z ?_;refine zc 37 Z (fun g4=>?_)<|fun g4=>?_
     ·refine zi g4 h fun h=>yU Z (gd g4 Z) Z<|yU Z (gd g4 Z) Z<|yU Z (gd g4 Z) Z<|yU Z (gd g4 Z) Z<|yU Z (gd g4 Z) Z<|yS Z (bv Z (aJ g4 Z) Z)<|zM Z<|aw Z<|aw Z<|aw Z<|aw Z<|yS Z (bv Z Z Z)<|nT ?_;cases h;exact av 1 ⟨Z,Z,Z,Z,Z,t_⟩
     ·refine zo g4 h fun h=>yV Z (gd g4 Z) (zA Z Z fm)<|yV Z (gd g4 Z) (zA Z Z d3)<|yV Z (gd g4 Z) (zD Z Z Z dH Z Z)<|yV Z (gd g4 Z) (ck Z Z)<|yV Z (gd g4 Z) (an Z Z Z Z)<|yS Z (aT Z (aJ g4 Z) Z)<|zM Z ?_;refine zc 44 Z (fun g5=>?_)<|fun g5=>?_
      ·refine zi g5 h fun h=>yU Z (gd g5 Z) Z<|yU Z (gd g5 Z) Z<|yU Z (gd g5 Z) Z<|yU Z (gd g5 Z) Z<|yS Z (bv Z (aJ g5 Z) Z)<|nT ?_;cases h;exact av 1 ⟨Z,Z,Z,Z,Z,t_⟩
      ·refine zo g5 h fun h=>yV Z (gd g5 Z) (zA Z Z cP)<|yV Z (gd g5 Z) (zD Z Z Z dH Z Z)<|yV Z (gd g5 Z) (ck Z Z)<|yV Z (gd g5 Z) (an Z Z Z Z)<|yS Z (aT Z (aJ g5 Z) Z)<|nT ?_;cases h;exact av 1 ⟨Z,Z,Z,Z,Z,t_⟩
 ·have h:=q5;clear p5;refine zX Z (fun g6=>?_)<|fun g6=>?_
  ·refine zi g6 h fun h=>qR<|zM Z<|mN Z<|zr<|ae ?_;cases h;exact aZ Z
  ·refine zo g6 h fun h=>zk<|zT<|qR<|yS Z (zD Z Z Z bB Z Z)<|zM Z<|zb h fun v6 a6 h=>yS Z (yP Z Z Z (JU a6) bG)<|yS Z (ze Z ip Z Z)<|yS Z (zs Z Z Z Z bB Z Z Z Z)<|nT<|qR<|yS Z (zD Z Z Z bB Z Z)<|zM Z<|zb h fun v7 a7 h=>yS Z (yP Z Z Z (NG a7) bG)<|yS Z (ze Z ip Z Z)<|yS Z (zs Z Z Z Z bB Z Z Z Z)<|nT<|qR<|yS Z (zD Z Z Z bB Z Z)<|yS Z (zD Z Z Z bB Z Z)<|zb h fun v8 a8 h=>yS Z (yP Z Z Z (GC a8) bG)<|mN Z<|zQ<|dx<|yE Z (zA Z Z fm)<|yE Z (zD Z Z Z be Z Z)<|yE Z (zA Z Z cP)<|yE Z (zD Z Z Z dH Z Z)<|zb h fun v9 a9 h=>yE Z (yP Z Z Z (JT a9) bG)<|yE Z (zA Z Z fm)<|yE Z (zD Z Z Z be Z Z)<|yE Z (zA Z Z cP)<|yE Z (zD Z Z Z dH Z Z)<|zb h fun v10 a10 h=>yE Z (yP Z Z Z (NH a10) bG)<|zb h fun v11 a11 h=>yE Z (yP Z Z Z (GC a11) bG)<|zH Z<|LO.nil<|zT<|qR<|yS Z (zD Z Z Z bB Z Z)<|yS Z (zD Z Z Z bB Z Z)<|zb h fun v12 a12 h=>yS Z (yP Z Z Z (GC a12) bG)<|mN Z<|qR<|zM Z<|zM Z ?_;refine zc 75 Z (fun g7=>?_)<|fun g7=>?_
   ·refine zi g7 h fun h=>yV Z (gd g7 Z) (zm Z Z)<|yS Z (bv Z (aJ g7 Z) Z)<|zM Z ?_;refine zc 78 Z (fun g8=>?_)<|fun g8=>?_
    ·refine zi g8 h fun h=>yV Z (gd g8 Z) (zD Z Z Z bB Z Z)<|yV Z (gd g8 Z) (zD Z Z Z bB Z Z)<|zb h fun v13 a13 h=>yV Z (gd g8 Z) (yP Z Z Z (JX a13) bG)<|yV Z (gd g8 Z) (zm Z Z)<|yV Z (gd g8 Z) (aa.eqlBool Z Z Z Tryz.underlying4)<|yS Z (bv Z (aJ g8 Z) Z)<|mN Z<|zr ?_;cases h;exact aZ Z
    ·refine zo g8 h fun h=>yU Z (gd g8 Z) Z<|yU Z (gd g8 Z) Z<|yU Z (gd g8 Z) Z<|yU Z (gd g8 Z) Z<|yU Z (gd g8 Z) Z<|yS Z (aT Z (aJ g8 Z) Z)<|mN Z<|zr ?_;cases h;exact aZ Z
   ·refine zo g7 h fun h=>yU Z (gd g7 Z) Z<|yS Z (aT Z (aJ g7 Z) Z)<|zM Z<|aw Z<|aw Z<|aw Z<|aw Z<|aw Z<|yS Z (aT Z Z Z)<|mN Z<|zr ?_;cases h;exact aZ Z
theorem C5 {n:Nd}(h:KU n):EG ou (fun _=>True) n:=⟨Pg h.2.2.1.1,Pg h.2.2.2.1.1,fun o ho=>⟨(h.2.2.2.2.1 o ho).2.2.1,Pg (h.2.2.2.2.1 o ho).2.2.2.1⟩⟩
theorem Hq {l:List Of}(h:∀o∈l,IP o):∀o∈l,sB ou (fun _=>True) o:=fun o ho=>⟨(h o ho).2.2.1,Pg (h o ho).2.2.2.1⟩
theorem Jl (h:∀a∈l,Kv a)(bad:List Int):∀a∈l,(∀b∈a.B,b.From∈bad->ou b)/\∀v∈a.V,v.From∈bad->True:=fun a ha=>⟨fun b hb _=>(h a ha).2.2.1 b hb,fun _ _ _=>trivial⟩
structure Gx (U:Vw)(w:Wd)(l:List Ac):Prop where
 ok:Pa U w
 sz:Qp U
 acts:AX l
 sub:Mt (Mz l) U
 time:Pk w
theorem Hv (ha:x7=some true)(w:Wd)(l:List Ac)(hw:My w)(hl:∀a∈l,Kv a):Cq w l=some true:=by
 unfold Cq;rw[ha,ob];rcases FL l (k:=25) (by omega)with e1|⟨e1,l1,l2⟩
 ·rw[e1,ob];rcases xy w.N (m:=6) (by omega) 20 with e2|⟨e2,-⟩ <;>rw[e2,ob] <;>rcases pO w.O 20 with e3|⟨e3,-⟩ <;>rw[e3,ob] <;>rfl
 rw[e1,ob];rcases xy w.N (m:=6) (by omega) 20 with e2|⟨e2,n1,n2⟩
 ·rw[e2,ob];rcases pO w.O 20 with e3|⟨e3,-⟩ <;>rw[e3,ob] <;>rfl
 rw[e2,ob];rcases pO w.O 20 with e3|⟨e3,o1,o2⟩
 ·rw[e3,ob];rfl
 rw[e3,ob,Bool.not_true,cf,cf,cf,cf];by_cases hW:(w.C.W.length:Int)>6
 ·rw[aP hW,ct,ob,ct]
 rw[aR hW,cf];by_cases hB:(w.Bad.length:Int)>10
 ·rw[aP hB,ob,ct]
 rw[aR hB,ob,cf];have hfa:AX l:=⟨by omega,l2⟩;have hfw:uZ w:=⟨by omega,fun n hn=>BJ (n2 n hn) (by omega),by omega,fun o ho=>by have:=o2 o ho;obtain⟨p,q⟩:=this;exact⟨by omega,by omega⟩,by omega⟩
 have hR:∀k n,w.N[k]?=some n->KR w.C n (cE w l k).1 (cE w l k).2:=fun k n hk=>by
  have hm:=List.mem_of_getElem? hk;obtain⟨⟨a1,a2⟩,⟨b1,b2⟩,d1,d2⟩:=n2 n hm;have hal:=na (l:=w.N) (w:=⟨[],[]⟩) (k:=20) n2;simp only[List.length_nil]at hal;have hcl:(dY w l).length<=25:=le_trans (List.length_filter_le _ _) (by omega);have hto:=w4 (slot:=uC w) (wh:=fy w) (bad:=w.Bad) (al:=d6 w) (me:=decide (fy w∈w.Bad)) (k:=(k:Int)) (l:=dY w l) (s:=(d6 w,w.O)) fun a ha=>l2 a (mem_filter.1 ha).1;have hto':(cE w l k).1.B.length<=(d6 w).B.length+8*(dY w l).length/\(cE w l k).1.V.length<=(d6 w).V.length+8*(dY w l).length/\(cE w l k).2.length<=w.O.length+(dY w l).length:=hto;have hal':((d6 w).B.length:Int)<=0+w.N.length*(2*20)/\((d6 w).V.length:Int)<=0+w.N.length*(2*20):=hal;have hol:=qD w.C (cE w l k).1;have hin:=oh n.In (bF w.C (cE w l k).1)
  have hsz:∀o∈(cE w l k).2,Mu o:=Kl (fun a ha=>l2 a (mem_filter.1 ha).1) fun o ho=>by have:=o2 o ho;obtain⟨p,q⟩:=this;exact⟨by omega,by omega⟩
  have hoff:∀y∈n.O++(cE w l k).2,y.V.B.length<=60/\y.V.V.length<=240:=fun y hy=>by
   rcases List.mem_append.1 hy with hy|hy
   ·have:=d2 y hy;obtain⟨p,q⟩:=this;omega
   ·exact hsz y hy
  have hall:=GL (fun n hn=>C5 (hw.2.2.1 n hn)) (Hq hw.2.2.2) (Jl hl w.Bad) k;refine⟨⟨by omega,by omega,by omega,by omega,by omega,fun y hy=>by have:=hoff y hy;omega⟩,by omega,?_,fun y hy=>by have:=hoff y hy;omega,(hw.2.2.1 n hm).1,C5 (hw.2.2.1 n hm),hall.1,hall.2⟩;unfold iU;omega
 have hdo:tr w l=some (HY w l):=FI hfw hfa (fun k n h=>(hR k n h).g) fun k n h=>(uF (hR k n h).g).2.1
 have hbig:EH (HY w l):=by
  unfold HY;split
  ·exact qm hfw
  ·have hsl:=r5 w l
   have hall:∀x∈fx w l,AK x.1/\x.2.length<=1/\∀y∈x.2,gr y:=fun x hx=>by
    obtain⟨k,hk⟩:=getElem?_of_mem hx;have hkl:=(List.getElem?_eq_some_iff.1 hk).1;obtain⟨n,hn,-⟩:=az (l:=w.N) (n:=k);rw[lP hn]at hk;obtain rfl:=Option.some.inj hk;exact uF (hR k n hn).g
   have hfl:∀m:List (Nd×List Of),(∀x∈m,x.2.length<=1)->(m.flatMap (·.2)).length<=m.length:=by
    intro m
    induction m with
    |nil=>intro _;simp
    |cons a r ih=>
     intro h;have h1:=ih fun x hx=>h x (List.mem_cons_of_mem _ hx);have h2:=h a (List.mem_cons_self ..);rw[List.flatMap_cons,List.length_append,length_cons];omega
   have h1:=hfl _ fun x hx=>(hall x hx).2.1;refine⟨by rw[length_map];omega,fun n hn=>?_,by simp only;omega,fun o ho=>?_,by show w.Bad.length<=100000;omega⟩
   ·obtain⟨x,hx,rfl⟩:=List.mem_map.1 hn;exact(hall x hx).1
   ·obtain⟨x,hx,h⟩:=List.mem_flatMap.1 ho;exact(hall x hx).2.2 o h
 have hC:w.C=(HY w l).C:=by unfold HY;split <;>rfl
 have hnew:EH (if cY w.C then Bx w.C w.Bad else⟨w.C,w.Bad,0,[],[]⟩):=by
  by_cases hm:cY w.C
  ·rw[i1_ hm];exact qm (Jw (LP hm (by omega) (by omega) ⟨[],[]⟩).1 ⟨by simp,by simp⟩)
  ·rw[i0_ hm];exact⟨by simp,fun n hn=>(by cases hn),by simp,fun n hn=>(by cases hn),by show w.Bad.length<=100000;omega⟩
 rw[hdo,ob,FR (by omega) hfw hfa (fun a h=>(hl a h).2.1) hR,ob,tu hbig rfl,ob,Dy (by omega),ob,FT (by omega) (by omega),ob,tu hnew rfl,ob,tu (qm hfw) hC,ob,tU,ct,tU,ct,FN (qm hfw) hC,ob];simp
end Go.Mg
namespace Go.Proofs.YtfbigoipfbiliaaGreat
def io :List Nat:=[104,97,114,110,101,115,115,32,97,55,52,98,56,102,49,102,100,102,54,102,101,57,52,52,102,102,56,97,97,100,55,54,56,54,49,97,50,49,57,102,50,54,55,100,48,101,102,56,51,53,52,100,99,101,97,57,97,97,50,97,98,51,56,97,101,55,50,99,100,49,57,51,32,99,117,116,32,97,116,32,109,97,114,105,103,111,108,100,47,109,97,114,105,103,111,108,100,108,97,119,49,56,46,78,111,100,101,83,116,101,112,115,32,109,97,114,105,103,111,108,100,47,109,97,114,105,103,111,108,100,108,97,119,50,48,46,80,108,97,121,68,111,101,115,32,109,97,114,105,103,111,108,100,47,109,97,114,105,103,111,108,100,108,97,119,50,48,46,80,108,97,121,82,117,110,115]
theorem Qb :Tryz.prog.initOrder=String.ofList (io.map Char.ofNat):=by kernel_rfl
theorem LH :Tryz.prog.initOrder.toList=io.map Char.ofNat:=by rw[Qb,String.toList_ofList]
def ws :List (List Nat):=[[99,117,116],[97,116],[109,97,114,105,103,111,108,100,47,109,97,114,105,103,111,108,100,108,97,119,49,56,46,78,111,100,101,83,116,101,112,115],[109,97,114,105,103,111,108,100,47,109,97,114,105,103,111,108,100,108,97,119,50,48,46,80,108,97,121,68,111,101,115],[109,97,114,105,103,111,108,100,47,109,97,114,105,103,111,108,100,108,97,119,50,48,46,80,108,97,121,82,117,110,115]]
theorem HO :behindMainWord (wordsSigns Tryz.prog.initOrder.toList)=ws.map (List.map Char.ofNat):=by
 rw[LH]
 kernel_rfl
theorem OA :stripLifts liftWords (ws.map (List.map Char.ofNat))=([],ws.map (List.map Char.ofNat)):=by kernel_rfl
theorem Oy :Tryz.prog.doorRows=[]:=by kernel_rfl
theorem Qc :Tryz.prog.laysLater=false:=by kernel_rfl
theorem Ow :Tryz.prog.bearsReflect=false:=by kernel_rfl
theorem J8 : (ws.map (List.map Char.ofNat)).head? = some "cut".toList := by kernel_rfl
theorem LA (P : Program) (W : List (List Char)) (hW : behindMainWord (wordsSigns P.initOrder.toList) = W) (hs : stripLifts liftWords W = ([], W)) (hh : W.head? = some "cut".toList) (hr : P.doorRows = []) (hl : P.laysLater = false) (hb : P.bearsReflect = false) : P.mayEnter = true := by
 unfold Program.mayEnter;rw[hW]
 cases W with
 |nil=>cases hh
 |cons c r=>
  simp only[hs,hh,hl,hb,Program.doorFits,hr];simp
theorem mayEnter :Tryz.prog.mayEnter=true:=LA Tryz.prog _ HO OA J8 Oy Qc Ow
theorem own :ownKnob Tryz.prog.godebug=none:=by kernel_rfl
theorem C3 :laidOutB Tryz.prog=true:=by kernel_rfl
theorem Ox :mapsRowed Tryz.prog=true:=by kernel_rfl
theorem Oc :Tryz.prog.stopsHeard=true:=by kernel_rfl
theorem Jg (P : Program) (W : List (List Char)) (hW : behindMainWord (wordsSigns P.initOrder.toList) = W) (hh : W.head? = some "cut".toList) : P.make = some .cut := by
 unfold Program.make;rw[hW]
 cases W with
 |nil=>cases hh
 |cons c r=>
  have e : c = "cut".toList := by simpa using hh
  subst e;show(if _ then _ else _)=_;rw[if_neg (by decide),if_pos (by simp)]
theorem Oo :Tryz.prog.make=some .cut:=Jg Tryz.prog _ HO J8
theorem Om :Tryz.prog.liftsFinal=false:=by
 unfold Program.liftsFinal Program.headLifts;rw[HO]
 kernel_rfl
end Go.Proofs.YtfbigoipfbiliaaGreat
