/- The references of votes, gold, views. Conditions: none. -/
import Derived.Test.YtfbigoipfbiliaaGreatX8
set_option maxRecDepth 100000
set_option linter.all false
namespace Go.Mg
open IntKind (i64)
open Go.Proofs.Tryz (prog)
open List (append_nil getElem?_of_mem getElem?_take_of_lt length_append length_map length_singleton length_take mem_append mem_filter mem_singleton take_length)
open Nat (zero_le)
open Option (all_some bind_some)
open Go.Proofs
variable {V v wV : List Vt} {b : Bk} {c : Cf} {f full r_ : Bool} {id : ID} {l wB : List Bk} {m : List (ID × Int)} {n slot upto who : Int} {names nms : List ID} {w : Vw} {y : Vt}
def vP (c:Cf)(b:Bk):Option Bool:=(Zz c b.Slot).bind fun v1=>bif decide (v1>=0)then bif v1==b.From then (Km b).bind fun v2=>some (!((v2.1==0)&&((v2.2==0)&&true)))else some false else some false
theorem KB (h:vP c b=some r_):aq prog 92 [gF c,ay b] [.bool r_]:=by
 refine zh Tryz.func92 Z Z Z Z ?_;unfold vP at h;refine qR<|yS Z (bv Z Z Z Z Z)<|yS Z (bv Z Z Z Z Z)<|mN Z<|qR<|yS Z (zD Z Z Z bd Z Z)<|yS Z (zA Z Z fK)<|yS Z (zD Z Z Z aV Z Z)<|zb h fun v1 a1 h=>yS Z (yP Z Z Z (P5 a1) bR)<|mN Z<|qR<|zM Z<|yS Z (am Z Z Z Z)<|zM Z ?_;refine zc 12 Z (fun g1=>?_)<|fun g1=>?_
 ·refine zi g1 h fun h=>yV Z (gd g1 Z) (zm Z Z)<|yV Z (gd g1 Z) (zA Z Z sb)<|yV Z (gd g1 Z) (zD Z Z Z aV Z Z)<|yV Z (gd g1 Z) (am Z Z Z Z)<|yS Z (bA Z (aK g1 Z) Z)<|zM Z ?_;refine zc 18 Z (fun g2=>?_)<|fun g2=>?_
  ·refine zi g2 h fun h=>yV Z (gd g2 Z) (zD Z Z Z ca Z Z)<|zb h fun v2 a2 h=>yV Z (gd g2 Z) (yP Z Z Z (P3 a2) dB)<|yV Z (gd g2 Z) (aa.build Z nE Z Z Z)<|yV Z (gd g2 Z) (aa.neqAgg Z Z Z Z Z gY)<|yS Z (bA Z (aK g2 Z) Z)<|mN Z<|zr ?_;cases h;exact ba Z
  ·refine zo g2 h fun h=>yU Z (gd g2 Z) Z<|yU Z (gd g2 Z) Z<|yU Z (gd g2 Z) Z<|yU Z (gd g2 Z) Z<|yS Z (aU Z (aK g2 Z) Z)<|mN Z<|zr ?_;cases h;exact ba Z
 ·refine zo g1 h fun h=>yU Z (gd g1 Z) Z<|yU Z (gd g1 Z) Z<|yU Z (gd g1 Z) Z<|yU Z (gd g1 Z) Z<|yS Z (aU Z (aK g1 Z) Z)<|zM Z<|aB Z<|aB Z<|aB Z<|aB Z<|yS Z (aU Z Z Z)<|mN Z<|zr ?_;cases h;exact ba Z
def vQ (c:Cf)(v:Vt):Option Bool:=(MU c v.Slot v.From).bind fun v1=>some v1
theorem KC {v:Vt}(h:vQ c v=some r_):aq prog 93 [gF c,aO v] [.bool r_]:=by
 refine zh Tryz.func93 Z Z Z Z ?_;unfold vQ at h;refine qR<|yS Z (bv Z Z Z Z Z)<|yS Z (bv Z Z Z Z Z)<|mN Z<|qR<|yS Z (zD Z Z Z bd Z Z)<|yS Z (zA Z Z i8)<|yS Z (zD Z Z Z aV Z Z)<|yS Z (zA Z Z im)<|yS Z (zD Z Z Z aV Z Z)<|zb h fun v1 a1 h=>yS Z (yP Z Z Z (Rb a1) oU)<|mN Z<|qR<|zM Z<|mN Z<|zr ?_;cases h;exact ba Z
structure fb where
 i:Int
 o4:List Bk
structure fc where
 i:Int
 o5:List Vt
def lc (c:Cf)(v_in:Vw)(x1:fb):Option (fb⊕fb):=bif decide (x1.i<(v_in.B.length:Int))then (ix v_in.B x1.i).bind fun y1=>(vP c y1).bind fun v2=>bif v2 then (ix v_in.B x1.i).bind fun y2=>bif bG x1.o4.length [y2].length 40 then some (.inl (fb.mk (i64.wrap (x1.i+1)) (x1.o4++[y2])))else none else some (.inl (fb.mk (i64.wrap (x1.i+1)) x1.o4))else some (.inr (fb.mk x1.i x1.o4))
def ld (c:Cf)(v_in:Vw)(x2:fc):Option (fc⊕fc):=bif decide (x2.i<(v_in.V.length:Int))then (ix v_in.V x2.i).bind fun y3=>(vQ c y3).bind fun v4=>bif v4 then (ix v_in.V x2.i).bind fun y4=>bif bG x2.o5.length [y4].length 32 then some (.inl (fc.mk (i64.wrap (x2.i+1)) (x2.o5++[y4])))else none else some (.inl (fc.mk (i64.wrap (x2.i+1)) x2.o5))else some (.inr (fc.mk x2.i x2.o5))
def vM (c:Cf)(v_in:Vw):Option Vw:=(iter (lc c v_in) aY (fb.mk 0 ([]:List Bk))).bind fun v1=>(iter (ld c v_in) aY (fc.mk 0 ([]:List Vt))).bind fun v3=>some (Vw.mk v1.o4 v3.o5)
theorem Ky {v_in:Vw}{r_:Vw}(h:vM c v_in=some r_):aq prog 47 [gF c,iW v_in] [iW r_]:=by
 refine zh Tryz.func47 Z Z Z Z ?_;unfold vM at h;refine qR<|yS Z (bv Z Z Z Z Z)<|yS Z (bv Z Z Z Z Z)<|yS Z (ze Z d7 Z Z)<|nT<|qR<|yS Z (ze Z d7 Z Z)<|nT<|zQ<|zQ<|LW.ent (bW.lazyCell (i:=3) (j:=0) (m:=5) Z Z Z Z Z Z)<|LW.ent (bW.lazyCell (i:=3) (j:=1) (m:=4) Z Z Z Z Z Z)<|zR<|mN Z ?_;obtain⟨v1,p1,b1⟩:=zB h;clear h;refine LW.tail (E:=[(2,.ptr 0 0),(3,.ptr 1 0),(4,.ptr 2 0),(5,.ptr 3 0)]) (O:=[.box (cd c),.box (cE v_in),.box [.zs,.zs],.box [(jB 4 v1.o4),(jV 5 ([]:List Vt))],.vec 5 (v1.o4.map ay),.vec 4 (([]:List Vt).map aO)]) ?_<|fun e1 K1 u1=>?_
 ·refine LW.block ?_;refine LW.iterB (E:=fun x1:fb=>[(2,.ptr 0 0),(3,.ptr 1 0),(4,.ptr 2 0),(5,.ptr 3 0),(6,(iQ x1.i))]) (O:=fun x1=>[.box (cd c),.box (cE v_in),.box [.zs,.zs],.box [(jB 4 x1.o4),(jV 5 ([]:List Vt))],.vec 5 (x1.o4.map ay),.vec 4 (([]:List Vt).map aO)]) p1 (au 6 ⟨Z,Z,Z,Z,Z,t_⟩)<|fun x1 z1 h m1=>?_;unfold lc at h;refine zQ<|qR<|zM Z<|yS Z (zA Z Z aL)<|yS Z (zD Z Z Z bL Z Z)<|yS Z (cx Z Z)<|yS Z (am Z Z Z Z)<|nT ?_;refine zX Z (fun g1=>?_)<|fun g1=>?_
  ·refine zi g1 h fun h=>zk<|zT<|zQ<|zl<|zQ<|dy<|yE Z (zD Z Z Z bd Z Z)<|yE Z (zA Z Z aL)<|yE Z (zD Z Z Z bL Z Z)<|zH Z<|zb h fun y1 j1 h=>yE Z (zx Z Z Z cp j1 Z)<|yE Z (bS Z Z Z ca Z Z)<|zb h fun v2 a2 h=>yE Z (yP Z Z Z (KB a2) bR)<|zH Z<|LO.nil<|zT<|qR<|mN Z ?_;refine zX Z (fun g2=>?_)<|fun g2=>?_
   ·refine zi g2 h fun h=>fC<|yG Z (fun H _=>zA Z Z aL)<|yF Z (zd Z Z Z bL Z Z) Z<|yG Z (fun H _=>zA Z Z aL)<|yF Z (zd Z Z Z bL Z Z) Z<|zK Z<|zb h fun y2 j2 h=>yG Z (fun H _=>zx Z Z Z cp j2 Z)<|yG Z (fun H _=>bS Z Z Z ca Z Z)<|yG Z (fun H _=>gU Z cp Z Z Z Z Z)<|zg h fun q1 h=>yF Z (ch.appendX ay x1.o4 [y2] rfl Z Z Z Z cp q1) Z<|yG Z (fun H _=>zA Z Z aL)<|yF Z (zt Z Z Z Z bL Z Z Z) Z ?_;refine LF.nil ⟨by kernel_rfl,?_⟩;refine ae<|zT<|zR<|zM Z<|yS Z (am Z Z Z Z)<|mN Z ?_;cases h;exact⟨_,rfl,au 6 ⟨Z,Z,Z,Z,Z,t_⟩⟩
   ·refine zo g2 h fun h=>zk<|ae<|zT<|zR<|zM Z<|yS Z (am Z Z Z Z)<|mN Z ?_;cases h;exact⟨_,rfl,au 6 ⟨Z,Z,Z,Z,Z,t_⟩⟩
  ·refine zo g1 h fun h=>zq<|aj<|aj<|zy<|zT ?_;cases h;obtain rfl:=(m1 _ rfl);exact au 6 ⟨Z,Z,Z,Z,t_⟩
 ·have h:=b1;clear p1;refine zT<|LW.weak u1<|zQ<|qR<|mN Z ?_;obtain⟨v3,p3,b3⟩:=zB h;clear h;refine LW.tail (E:=[(4,.ptr 2 0),(5,.ptr 3 0)]) (O:=[.box (cd c),.box (cE v_in),.box [.zs,.zs],.box [(jB 4 v1.o4),(jV 5 v3.o5)],.vec 5 (v1.o4.map ay),.vec 4 (v3.o5.map aO)]) ?_<|fun e3 K3 u3=>?_
  ·refine LW.block ?_;refine LW.iterB (E:=fun x2:fc=>[(2,.ptr 0 0),(3,.ptr 1 0),(4,.ptr 2 0),(5,.ptr 3 0),(8,(iQ x2.i))]) (O:=fun x2=>[.box (cd c),.box (cE v_in),.box [.zs,.zs],.box [(jB 4 v1.o4),(jV 5 x2.o5)],.vec 5 (v1.o4.map ay),.vec 4 (x2.o5.map aO)]) p3 (au 6 ⟨Z,Z,Z,Z,Z,t_⟩)<|fun x2 z2 h m2=>?_;unfold ld at h;refine zQ<|qR<|zM Z<|yS Z (zA Z Z aS)<|yS Z (zD Z Z Z cq Z Z)<|yS Z (cx Z Z)<|yS Z (am Z Z Z Z)<|nT ?_;refine zX Z (fun g3=>?_)<|fun g3=>?_
   ·refine zi g3 h fun h=>zk<|zT<|zQ<|zl<|zQ<|dy<|yE Z (zD Z Z Z bd Z Z)<|yE Z (zA Z Z aS)<|yE Z (zD Z Z Z cq Z Z)<|zH Z<|zb h fun y3 j3 h=>yE Z (zx Z Z Z bz j3 Z)<|yE Z (bS Z Z Z cz Z Z)<|zb h fun v4 a4 h=>yE Z (yP Z Z Z (KC a4) bR)<|zH Z<|LO.nil<|zT<|qR<|mN Z ?_;refine zX Z (fun g4=>?_)<|fun g4=>?_
    ·refine zi g4 h fun h=>fC<|yG Z (fun H _=>zA Z Z aS)<|yF Z (zd Z Z Z cq Z Z) Z<|yG Z (fun H _=>zA Z Z aS)<|yF Z (zd Z Z Z cq Z Z) Z<|zK Z<|zb h fun y4 j4 h=>yG Z (fun H _=>zx Z Z Z bz j4 Z)<|yG Z (fun H _=>bS Z Z Z cz Z Z)<|yG Z (fun H _=>gU Z bz Z Z Z Z Z)<|zg h fun q2 h=>yF Z (ch.appendX aO x2.o5 [y4] rfl Z Z Z Z bz q2) Z<|yG Z (fun H _=>zA Z Z aS)<|yF Z (zt Z Z Z Z cq Z Z Z) Z ?_;refine LF.nil ⟨by kernel_rfl,?_⟩;refine ae<|zT<|zR<|zM Z<|yS Z (am Z Z Z Z)<|mN Z ?_;cases h;exact⟨_,rfl,au 6 ⟨Z,Z,Z,Z,Z,t_⟩⟩
    ·refine zo g4 h fun h=>zk<|ae<|zT<|zR<|zM Z<|yS Z (am Z Z Z Z)<|mN Z ?_;cases h;exact⟨_,rfl,au 6 ⟨Z,Z,Z,Z,Z,t_⟩⟩
   ·refine zo g3 h fun h=>zq<|aj<|aj<|zy<|zT ?_;cases h;obtain rfl:=(m2 _ rfl);exact au 6 ⟨Z,Z,t_⟩
  ·have h:=b3;clear p3;refine zT<|LW.weak u3<|qR<|yS Z (zD Z Z Z aI Z Z)<|yS Z (zs Z Z Z Z aI Z Z Z Z)<|nT<|zr ?_;cases h;exact zf (.one (eh Z Z))<|(Conv.agg (.cons (Conv.vecAll Z Z Z) (.cons (Conv.vecAll Z Z Z) .nil)))
structure jF where
 i:Int
def lk (names:List ID)(id:ID)(x1:jF):Option (jF⊕(jF⊕Int)):=bif decide (x1.i<(names.length:Int))then (ix names x1.i).bind fun y1=>bif ((y1.1==id.1)&&((y1.2==id.2)&&true))then some (.inr (.inr x1.i))else some (.inl (jF.mk (i64.wrap (x1.i+1))))else some (.inr (.inl (jF.mk x1.i)))
def vS (names:List ID)(id:ID):Option Int:=(iter (lk names id) aY (jF.mk 0)).bind fun b_v1=>Sum.elim (fun _=>some (-1)) some b_v1
theorem KE {r_:Int}(h:vS names id=some r_):aq prog 211 [.slice 2 (names.map aX),aX id] [.int .i64 r_]:=by
 refine zh Tryz.func211 Z Z Z Z ?_;unfold vS at h;refine qR<|yS Z (bv Z Z Z Z Z)<|mN Z<|zQ<|qR<|mN Z ?_;obtain⟨w1,p1,q1⟩:=zB h;clear h;refine LW.tailB (b:=w1) (E:=fun v1=>[(4,(iQ 0))]) (O:=fun v1=>[.box [(uQ id.1),(uQ id.2)]]) ?_<|fun v1 f1 e1 K1 u1=>?_
 ·refine LW.block ?_;refine LW.iterB (E:=fun x1:jF=>[(0,.p (.slice 2 (names.map aX))),(3,.ptr 0 0),(4,(iQ 0)),(5,(iQ x1.i))]) (O:=fun x1=>[.box [(uQ id.1),(uQ id.2)]]) p1 (au 1 ⟨Z,Z,Z,Z,t_⟩)<|fun x1 z1 h m1=>?_;unfold lk at h;refine zQ<|qR<|zM Z<|zM Z<|yS Z (cx Z Z)<|yS Z (am Z Z Z Z)<|nT ?_;refine zX Z (fun g1=>?_)<|fun g1=>?_
  ·refine zi g1 h fun h=>zk<|zT<|zQ<|zl<|zQ<|dy<|zH Z<|zH Z<|zb h fun y1 j1 h=>yE Z (zx Z Z Z fH j1 Z)<|yE Z (bS Z Z Z aG Z Z)<|yE Z (zD Z Z Z aG Z Z)<|yE Z (aa.eqlAgg Z Z Z Z Z gY)<|LO.nil<|zT ?_;refine zX Z (fun g2=>?_)<|fun g2=>?_
   ·refine zi g2 h fun h=>qR<|zM Z<|mN Z<|zr<|ao<|af<|af<|ao<|af<|af ?_;cases h;obtain rfl:=(m1 _ rfl);have h:=bT q1;cases h;exact ba Z
   ·refine zo g2 h fun h=>zk<|ae<|zT<|zR<|zM Z<|yS Z (am Z Z Z Z)<|mN Z ?_;cases h;exact⟨_,rfl,au 1 ⟨Z,Z,Z,Z,t_⟩⟩
  ·refine zo g1 h fun h=>zq<|aj<|aj<|zy<|zT ?_;cases h;obtain rfl:=(m1 _ rfl);exact⟨_,rfl,au 1 ⟨Z,t_⟩⟩
 ·obtain rfl:=f1;have h:=cU q1;clear p1;refine zT<|LW.weak u1<|qR<|mN Z<|zr ?_;cases h;exact ba Z
def tU (l:List Bk)(names:List ID)(id:ID):Option Int:=bif ((id.1==0)&&((id.2==0)&&true))then some 0 else (vS names id).bind fun v1=>bif decide (v1<0)then some (-1)else (ix l v1).bind fun y1=>some y1.Slot
theorem Hh {r_:Int}(h:tU l names id=some r_):aq prog 210 [.slice 5 (l.map ay),.slice 2 (names.map aX),aX id] [.int .i64 r_]:=by
 refine zh Tryz.func210 Z Z Z Z ?_;unfold tU at h;refine qR<|yS Z (bv Z Z Z Z Z)<|mN Z<|zQ<|qR<|yS Z (zD Z Z Z aG Z Z)<|yS Z (aa.build Z nE Z Z Z)<|yS Z (aa.eqlAgg Z Z Z Z Z gY)<|nT ?_;refine zX Z (fun g1=>?_)<|fun g1=>?_
 ·refine zi g1 h fun h=>qR<|mN Z<|LW.ret<|af ?_;cases h;exact ba Z
 ·refine zo g1 h fun h=>zk<|zT<|qR<|zM Z<|yS Z (zD Z Z Z aG Z Z)<|zb h fun v1 a1 h=>yS Z (yP Z Z Z (KE a1) bR)<|mN Z<|zQ<|qR<|zM Z<|yS Z (am Z Z Z Z)<|nT ?_;refine zX Z (fun g2=>?_)<|fun g2=>?_
  ·refine zi g2 h fun h=>qR<|mN Z<|LW.ret<|af ?_;cases h;exact ba Z
  ·refine zo g2 h fun h=>zk<|zT<|qR<|zM Z<|zM Z<|zb h fun y1 j1 h=>yS Z (zx Z Z Z cp j1 Z)<|yS Z (aa.fieldAddrC Z Z fK Z)<|yS Z (bS Z Z Z aV Z Z)<|mN Z<|zr ?_;cases h;exact ba Z
structure fe where
 i:Int
structure eC where
 i:Int
def jD (c:Cf)(w:Vw)(x1:fe):Option (fe⊕(fe⊕Bool)):=bif decide (x1.i<(w.B.length:Int))then (ix w.B x1.i).bind fun y1=>(vP c y1).bind fun v6=>bif !v6 then some (.inr (.inr false))else some (.inl (fe.mk (i64.wrap (x1.i+1))))else some (.inr (.inl (fe.mk x1.i)))
def iI (c:Cf)(w:Vw)(v1:(List ID))(x2:eC):Option (eC⊕(eC⊕Bool)):=bif decide (x2.i<(w.V.length:Int))then (ix w.V x2.i).bind fun y2=>(tU w.B v1 y2.Head).bind fun v8=>(ix w.V x2.i).bind fun y3=>(vQ c y3).bind fun v9=>bif !v9 then some (.inr (.inr false))else bif decide (v8<0)then some (.inr (.inr false))else (ix w.V x2.i).bind fun y4=>bif decide (v8>y4.Slot)then some (.inr (.inr false))else bif xp w.V 0 x2.i then (ix w.V x2.i).bind fun y5=>(Br (w.V.take x2.i.toNat) y5).bind fun v10=>bif decide (v10>0)then some (.inr (.inr false))else some (.inl (eC.mk (i64.wrap (x2.i+1))))else none else some (.inr (.inl (eC.mk x2.i)))
def yx (c:Cf)(w:Vw):Option Bool:=(Ko w.B).bind fun v1=>(xY w.B v1).bind fun v2=>(GG c).bind fun v3=>(bif !v2 then some true else bif !v3 then some true else bif decide ((w.B.length:Int)>60)then some true else some (decide ((w.V.length:Int)>240))).bind fun v4=>bif v4 then some false else (iter (jD c w) aY (fe.mk 0)).bind fun b_v5=>Sum.elim (fun _=>(iter (iI c w v1) aY (eC.mk 0)).bind fun b_v7=>Sum.elim (fun _=>some true) some b_v7) some b_v5
theorem Oe (h:yx c w=some r_):aq prog 169 [gF c,iW w] [.bool r_]:=by
 refine zh Tryz.func169 Z Z Z Z ?_;unfold yx at h;refine qR<|yS Z (bv Z Z Z Z Z)<|yS Z (bv Z Z Z Z Z)<|mN Z<|qR<|yS Z (zA Z Z aL)<|yS Z (zD Z Z Z bL Z Z)<|zb h fun v1 a1 h=>yS Z (yP Z Z Z (P7 a1) dB)<|mN Z<|qR<|yS Z (zA Z Z aL)<|yS Z (zD Z Z Z bL Z Z)<|zM Z<|zb h fun v2 a2 h=>yS Z (yP Z Z Z (L0 a2) bR)<|mN Z<|qR<|yS Z (zD Z Z Z bd Z Z)<|zb h fun v3 a3 h=>yS Z (yP Z Z Z (L6 a3) dB)<|mN Z<|zQ ?_;obtain⟨v4,p4,b4⟩:=zB h;clear h;refine LW.cut (E:=[(2,.ptr 0 0),(3,.ptr 1 0),(4,(bQ false)),(5,.p (.slice 2 (v1.map aX))),(39,(bQ v4))]) (O:=[.box (cd c),.box (cE w)]) ?_ ?_
 ·have h:=p4;refine zR<|zM Z<|yS Z (aa.not Z Z)<|zM Z ?_;refine zc 24 Z (fun g1=>?_)<|fun g1=>?_
  ·refine zi g1 h fun h=>yU Z (gd g1 Z) Z<|yU Z (gd g1 Z) Z<|yS Z (bA Z (aK g1 Z) Z)<|zM Z<|aB Z<|aB Z<|aB Z<|aB Z<|yS Z (bA Z Z Z)<|zM Z<|aB Z<|aB Z<|aB Z<|aB Z<|yS Z (bA Z Z Z)<|nT ?_;cases h;exact au 2 ⟨Z,Z,Z,Z,Z,t_⟩
  ·refine zo g1 h fun h=>yV Z (gd g1 Z) (zm Z Z)<|yV Z (gd g1 Z) (aa.not Z Z)<|yS Z (aU Z (aK g1 Z) Z)<|zM Z ?_;refine zc 28 Z (fun g2=>?_)<|fun g2=>?_
   ·refine zi g2 h fun h=>yU Z (gd g2 Z) Z<|yU Z (gd g2 Z) Z<|yU Z (gd g2 Z) Z<|yU Z (gd g2 Z) Z<|yS Z (bA Z (aK g2 Z) Z)<|zM Z<|aB Z<|aB Z<|aB Z<|aB Z<|yS Z (bA Z Z Z)<|nT ?_;cases h;exact au 2 ⟨Z,Z,Z,Z,Z,t_⟩
   ·refine zo g2 h fun h=>yV Z (gd g2 Z) (zA Z Z aL)<|yV Z (gd g2 Z) (zD Z Z Z bL Z Z)<|yV Z (gd g2 Z) (cx Z Z)<|yV Z (gd g2 Z) (am Z Z Z Z)<|yS Z (aU Z (aK g2 Z) Z)<|zM Z ?_;refine zc 34 Z (fun g3=>?_)<|fun g3=>?_
    ·refine zi g3 h fun h=>yU Z (gd g3 Z) Z<|yU Z (gd g3 Z) Z<|yU Z (gd g3 Z) Z<|yU Z (gd g3 Z) Z<|yS Z (bA Z (aK g3 Z) Z)<|nT ?_;cases h;exact au 2 ⟨Z,Z,Z,Z,Z,t_⟩
    ·refine zo g3 h fun h=>yV Z (gd g3 Z) (zA Z Z aS)<|yV Z (gd g3 Z) (zD Z Z Z cq Z Z)<|yV Z (gd g3 Z) (cx Z Z)<|yV Z (gd g3 Z) (am Z Z Z Z)<|yS Z (aU Z (aK g3 Z) Z)<|nT ?_;cases h;exact au 2 ⟨Z,Z,Z,Z,Z,t_⟩
 ·have h :=b4;clear p4;refine zX Z (fun g4=>?_)<|fun g4=>?_
  ·refine zi g4 h fun h=>qR<|mN Z<|LW.ret<|af ?_;cases h;exact ba Z
  ·refine zo g4 h fun h=>zk<|zT<|zQ<|qR<|mN Z ?_;obtain⟨w5,p5,b5⟩:=zB h;clear h;refine LW.tailB (b:=w5) (E:=fun v5=>[(2,.ptr 0 0),(3,.ptr 1 0),(4,(bQ false)),(5,.p (.slice 2 (v1.map aX)))]) (O:=fun v5=>[.box (cd c),.box (cE w)]) ?_<|fun v5 f5 e5 K5 u5=>?_
   ·refine LW.block ?_;refine LW.iterB (E:=fun x1:fe=>[(2,.ptr 0 0),(3,.ptr 1 0),(4,(bQ false)),(5,.p (.slice 2 (v1.map aX))),(8,(iQ x1.i))]) (O:=fun x1=>[.box (cd c),.box (cE w)]) p5 (au 2 ⟨Z,Z,Z,Z,Z,t_⟩)<|fun x1 z1 h m1=>?_;unfold jD at h;refine zQ<|qR<|zM Z<|yS Z (zA Z Z aL)<|yS Z (zD Z Z Z bL Z Z)<|yS Z (cx Z Z)<|yS Z (am Z Z Z Z)<|nT ?_;refine zX Z (fun g5=>?_)<|fun g5=>?_
    ·refine zi g5 h fun h=>zk<|zT<|zQ<|zl<|zQ<|dy<|yE Z (zD Z Z Z bd Z Z)<|yE Z (zA Z Z aL)<|yE Z (zD Z Z Z bL Z Z)<|zH Z<|zb h fun y1 j1 h=>yE Z (zx Z Z Z cp j1 Z)<|yE Z (bS Z Z Z ca Z Z)<|zb h fun v6 a6 h=>yE Z (yP Z Z Z (KB a6) bR)<|zH Z<|LO.nil<|zT<|qR<|zM Z<|yS Z (aa.not Z Z)<|nT ?_;refine zX Z (fun g6=>?_)<|fun g6=>?_
     ·refine zi g6 h fun h=>qR<|mN Z<|LW.ret<|ao<|af<|af<|ao<|af<|af ?_;cases h;obtain rfl:=(m1 _ rfl);have h:=bT b5;cases h;exact ba Z
     ·refine zo g6 h fun h=>zk<|ae<|zT<|zR<|zM Z<|yS Z (am Z Z Z Z)<|mN Z ?_;cases h;exact⟨_,rfl,au 2 ⟨Z,Z,Z,Z,Z,t_⟩⟩
    ·refine zo g5 h fun h=>zq<|aj<|aj<|zy<|zT ?_;cases h;obtain rfl:=(m1 _ rfl);exact⟨_,rfl,au 2 ⟨Z,Z,Z,Z,t_⟩⟩
   ·obtain rfl:=f5;have h:=cU b5;clear p5;refine zT<|LW.weak u5<|zQ<|qR<|mN Z ?_;obtain⟨w7,p7,b7⟩:=zB h;clear h;refine LW.tailB (b:=w7) (E:=fun v7=>[(4,(bQ false))]) (O:=fun v7=>[.box (cd c),.box (cE w)]) ?_<|fun v7 f7 e7 K7 u7=>?_
    ·refine LW.block ?_;refine LW.iterB (E:=fun x2:eC=>[(2,.ptr 0 0),(3,.ptr 1 0),(4,(bQ false)),(5,.p (.slice 2 (v1.map aX))),(10,(iQ x2.i))]) (O:=fun x2=>[.box (cd c),.box (cE w)]) p7 (au 2 ⟨Z,Z,Z,Z,Z,t_⟩)<|fun x2 z2 h m2=>?_;unfold iI at h;refine zQ<|qR<|zM Z<|yS Z (zA Z Z aS)<|yS Z (zD Z Z Z cq Z Z)<|yS Z (cx Z Z)<|yS Z (am Z Z Z Z)<|nT ?_;refine zX Z (fun g7=>?_)<|fun g7=>?_
     ·refine zi g7 h fun h=>zk<|zT<|zQ<|zl<|zQ<|dy<|yE Z (zA Z Z aL)<|yE Z (zD Z Z Z bL Z Z)<|zH Z<|yE Z (zA Z Z aS)<|yE Z (zD Z Z Z cq Z Z)<|zH Z<|zb h fun y2 j2 h=>yE Z (zx Z Z Z bz j2 Z)<|yE Z (aa.fieldAddrC Z Z i9 Z)<|yE Z (bS Z Z Z aG Z Z)<|zb h fun v8 a8 h=>yE Z (yP Z Z Z (Hh a8) oU)<|zH Z<|LO.nil<|zT<|zQ<|dy<|yE Z (zD Z Z Z bd Z Z)<|yE Z (zA Z Z aS)<|yE Z (zD Z Z Z cq Z Z)<|zH Z<|zb h fun y3 j3 h=>yE Z (zx Z Z Z bz j3 Z)<|yE Z (bS Z Z Z cz Z Z)<|zb h fun v9 a9 h=>yE Z (yP Z Z Z (KC a9) bR)<|zH Z<|LO.nil<|zT<|zQ<|dy<|zH Z<|yE Z (aa.not Z Z)<|zH Z ?_;refine LO.cases 82 Z (fun(g8:(!v9)=true)=>?_) (fun(g8:(!v9)=false)=>?_)
      ·refine zi g8 h fun h=>yK Z (gd g8 Z) Z<|yK Z (gd g8 Z) Z<|yE Z (bA Z (aK g8 Z) Z)<|zH Z<|bY Z<|bY Z<|bY Z<|bY Z<|bY Z<|bY Z<|bY Z<|bY Z<|yE Z (bA Z Z Z)<|zH Z<|bY Z<|bY Z<|bY Z<|bY Z<|bY Z<|bY Z<|bY Z<|bY Z<|bY Z<|bY Z<|bY Z<|yE Z (bA Z Z Z)<|LO.nil<|zT<|LW.condT Z<|qR<|mN Z<|zr<|ao<|af<|af<|ao<|af<|af ?_;cases h;obtain rfl:=(m2 _ rfl);have h:=bT b7;cases h;exact ba Z
      ·refine zo g8 h fun h=>yL Z (gd g8 Z) (zm Z Z)<|yL Z (gd g8 Z) (am Z Z Z Z)<|yE Z (aU Z (aK g8 Z) Z)<|zH Z ?_;refine LO.cases 86 Z (fun(g9:(decide (v8<0))=true)=>?_) (fun(g9:(decide (v8<0))=false)=>?_)
       ·refine zi g9 h fun h=>yK Z (gd g9 Z) Z<|yK Z (gd g9 Z) Z<|yK Z (gd g9 Z) Z<|yK Z (gd g9 Z) Z<|yK Z (gd g9 Z) Z<|yK Z (gd g9 Z) Z<|yK Z (gd g9 Z) Z<|yK Z (gd g9 Z) Z<|yE Z (bA Z (aK g9 Z) Z)<|zH Z<|bY Z<|bY Z<|bY Z<|bY Z<|bY Z<|bY Z<|bY Z<|bY Z<|bY Z<|bY Z<|bY Z<|yE Z (bA Z Z Z)<|LO.nil<|zT<|LW.condT Z<|qR<|mN Z<|zr<|ao<|af<|af<|ao<|af<|af ?_;cases h;obtain rfl:=(m2 _ rfl);have h:=bT b7;cases h;exact ba Z
       ·refine zo g9 h fun h=>yL Z (gd g9 Z) (zm Z Z)<|yL Z (gd g9 Z) (zA Z Z aS)<|yL Z (gd g9 Z) (zD Z Z Z cq Z Z)<|yL Z (gd g9 Z) (zm Z Z)<|zb h fun y4 j4 h=>yL Z (gd g9 Z) (zx Z Z Z bz j4 Z)<|yL Z (gd g9 Z) (aa.fieldAddrC Z Z i8 Z)<|yL Z (gd g9 Z) (bS Z Z Z aV Z Z)<|yL Z (gd g9 Z) (am Z Z Z Z)<|yE Z (aU Z (aK g9 Z) Z)<|zH Z ?_;refine LO.cases 96 Z (fun(g10:(decide (v8>y4.Slot))=true)=>?_) (fun(g10:(decide (v8>y4.Slot))=false)=>?_)
        ·refine zi g10 h fun h=>yK Z (gd g10 Z) Z<|yK Z (gd g10 Z) Z<|yK Z (gd g10 Z) Z<|yK Z (gd g10 Z) Z<|yK Z (gd g10 Z) Z<|yK Z (gd g10 Z) Z<|yK Z (gd g10 Z) Z<|yK Z (gd g10 Z) Z<|yK Z (gd g10 Z) Z<|yK Z (gd g10 Z) Z<|yK Z (gd g10 Z) Z<|yE Z (bA Z (aK g10 Z) Z)<|LO.nil<|zT<|LW.condT Z<|qR<|mN Z<|zr<|ao<|af<|af<|ao<|af<|af ?_;cases h;obtain rfl:=(m2 _ rfl);have h:=bT b7;cases h;exact ba Z
        ·refine zo g10 h fun h=>yL Z (gd g10 Z) (zA Z Z aS)<|yL Z (gd g10 Z) (zD Z Z Z cq Z Z)<|yL Z (gd g10 Z) (zm Z Z)<|zg h fun q1 h=>yL Z (gd g10 Z) (aa.sliceHi Z Z Z bz q1)<|yL Z (gd g10 Z) (zA Z Z aS)<|yL Z (gd g10 Z) (zD Z Z Z cq Z Z)<|yL Z (gd g10 Z) (zm Z Z)<|zb h fun y5 j5 h=>yL Z (gd g10 Z) (zx Z Z Z bz j5 Z)<|yL Z (gd g10 Z) (bS Z Z Z cz Z Z)<|zb h fun v10 a10 h=>yL Z (gd g10 Z) (yP Z Z Z (L1 a10) bR)<|yL Z (gd g10 Z) (am Z Z Z Z)<|yE Z (aU Z (aK g10 Z) Z)<|LO.nil<|zT ?_;refine zX Z (fun g11=>?_)<|fun g11=>?_
         ·refine zi g11 h fun h=>qR<|mN Z<|LW.ret<|ao<|af<|af<|ao<|af<|af ?_;cases h;obtain rfl:=(m2 _ rfl);have h:=bT b7;cases h;exact ba Z
         ·refine zo g11 h fun h=>zk<|ae<|zT<|zR<|zM Z<|yS Z (am Z Z Z Z)<|mN Z ?_;cases h;exact⟨_,rfl,au 2 ⟨Z,Z,Z,Z,Z,t_⟩⟩
     ·refine zo g7 h fun h=>zq<|aj<|aj<|zy<|zT ?_;cases h;obtain rfl:=(m2 _ rfl);exact⟨_,rfl,au 2 ⟨Z,t_⟩⟩
    ·obtain rfl:=f7;have h:=cU b7;clear p7;refine zT<|LW.weak u7<|qR<|mN Z<|zr ?_;cases h;exact ba Z
structure iJ where
 v_at:Int
def qu (l:List Int)(n:Int)(x1:iJ):Option (iJ⊕iJ):=bif decide (x1.v_at>0)then (ix l (i64.wrap (x1.v_at-1))).bind fun y1=>bif decide (y1>n)then some (.inl (iJ.mk (i64.wrap (x1.v_at-1))))else some (.inr (iJ.mk x1.v_at))else some (.inr (iJ.mk x1.v_at))
def yH (l:List Int)(n:Int):Option (List Int):=(iter (qu l n) aY (iJ.mk (l.length:Int))).bind fun v1=>(bif decide (v1.v_at>0)then (ix l (i64.wrap (v1.v_at-1))).bind fun y2=>bif y2==n then some (.inr l)else some (.inl ())else some (.inl ())).bind fun b_v2=>Sum.elim (fun _=>bif xp l 0 v1.v_at then bif bG 0 (l.take v1.v_at.toNat).length 8 then bif bG (l.take v1.v_at.toNat).length [n].length 8 then bif xp l v1.v_at l.length then bif bG ((l.take v1.v_at.toNat)++[n]).length (l.drop v1.v_at.toNat).length 8 then some (((l.take v1.v_at.toNat)++[n])++(l.drop v1.v_at.toNat))else none else none else none else none else none) some b_v2
theorem Ol {l:List Int}{r_:(List Int)}(h:yH l n=some r_):aq prog 223 [.slice 1 (l.map be),.int .i64 n] [.slice 1 (r_.map be)]:=by
 refine zh Tryz.func223 Z Z Z Z ?_;unfold yH at h;refine qR<|mN Z<|qR<|zM Z<|yS Z (cx Z Z)<|mN Z ?_;obtain⟨v1,p1,a1⟩:=zB h;clear h;refine LW.cut (E:=[(0,(kI l)),(1,(iQ n)),(4,.zs),(5,(iQ v1.v_at))]) (O:=[]) ?_ ?_
 ·refine LW.block ?_;refine LW.iterB (E:=fun x1:iJ=>[(0,(kI l)),(1,(iQ n)),(4,.zs),(5,(iQ x1.v_at))]) (O:=fun x1=>[]) p1 (au 0 ⟨Z,Z,Z,Z,t_⟩)<|fun x1 z1 h m1=>?_;unfold qu at h;refine zQ<|qR<|zM Z<|yS Z (am Z Z Z Z)<|zM Z ?_;refine zc 11 Z (fun g1=>?_)<|fun g1=>?_
  ·refine zi g1 h fun h=>yV Z (gd g1 Z) (zm Z Z)<|yV Z (gd g1 Z) (zm Z Z)<|yV Z (gd g1 Z) (am Z Z Z Z)<|zb h fun y1 j1 h=>yV Z (gd g1 Z) (zx Z Z Z dN j1 Z)<|yV Z (gd g1 Z) (bS Z Z Z aV Z Z)<|yV Z (gd g1 Z) (zm Z Z)<|yV Z (gd g1 Z) (am Z Z Z Z)<|yS Z (bA Z (aK g1 Z) Z)<|nT ?_;refine zX Z (fun g2=>?_)<|fun g2=>?_
   ·refine zi g2 h fun h=>zk<|zT<|zl<|zR<|zM Z<|yS Z (am Z Z Z Z)<|zM Z<|zN<|ae<|zT ?_;cases h;exact⟨_,rfl,au 0 ⟨Z,Z,Z,Z,t_⟩⟩
   ·refine zo g2 h fun h=>zq<|aj<|aj<|zy<|zT ?_;cases h;obtain rfl:=(m1 _ rfl);exact au 0 ⟨Z,Z,Z,Z,t_⟩
  ·refine zo g1 h fun h=>yU Z (gd g1 Z) Z<|yU Z (gd g1 Z) Z<|yU Z (gd g1 Z) Z<|yU Z (gd g1 Z) Z<|yU Z (gd g1 Z) Z<|yU Z (gd g1 Z) Z<|yU Z (gd g1 Z) Z<|yS Z (aU Z (aK g1 Z) Z)<|nT<|LW.condF Z<|zq<|aj<|aj<|zy<|zT ?_;cases h;obtain rfl:=(m1 _ rfl);exact au 0 ⟨Z,Z,Z,Z,t_⟩
 ·have h:=a1;clear p1;obtain⟨w2,p2,a2⟩:=zB h;clear h;refine LW.cutB (b:=w2) (E:=fun v2=>[(0,(kI l)),(1,(iQ n)),(4,.zs),(5,(iQ v1.v_at))]) (O:=fun v2=>[]) ?_<|fun v2 f2=>?_
  ·have h:=p2;refine qR<|zM Z<|yS Z (am Z Z Z Z)<|zM Z ?_;refine zc 24 Z (fun g3=>?_)<|fun g3=>?_
   ·refine zi g3 h fun h=>yV Z (gd g3 Z) (zm Z Z)<|yV Z (gd g3 Z) (zm Z Z)<|yV Z (gd g3 Z) (am Z Z Z Z)<|zb h fun y2 j2 h=>yV Z (gd g3 Z) (zx Z Z Z dN j2 Z)<|yV Z (gd g3 Z) (bS Z Z Z aV Z Z)<|yV Z (gd g3 Z) (zm Z Z)<|yV Z (gd g3 Z) (am Z Z Z Z)<|yS Z (bA Z (aK g3 Z) Z)<|nT ?_;refine zX Z (fun g4=>?_)<|fun g4=>?_
    ·refine zi g4 h fun h=>qR<|zM Z<|mN Z<|zr<|af ?_;cases h;have h:=bT a2;cases h;exact ba Z
    ·refine zo g4 h fun h=>zk<|zT ?_;cases h;exact⟨_,rfl,au 0 ⟨Z,Z,Z,Z,t_⟩⟩
   ·refine zo g3 h fun h=>yU Z (gd g3 Z) Z<|yU Z (gd g3 Z) Z<|yU Z (gd g3 Z) Z<|yU Z (gd g3 Z) Z<|yU Z (gd g3 Z) Z<|yU Z (gd g3 Z) Z<|yU Z (gd g3 Z) Z<|yS Z (aU Z (aK g3 Z) Z)<|nT<|LW.condF Z<|zk<|zT ?_;cases h;exact⟨_,rfl,au 0 ⟨Z,Z,Z,Z,t_⟩⟩
  ·obtain rfl:=f2;have h:=cU a2;clear p2;refine qR<|zM Z<|zM Z<|zg h fun q1 h=>yS Z (aa.sliceHi Z Z Z dN q1)<|zg h fun q2 h=>yS Z (aa.appendZX be (l.take v1.v_at.toNat) Z Z Z Z iC.p Z dN q2 Z)<|mN Z<|qR<|zM Z<|zM Z<|yS Z (gU Z dN Z Z Z Z Z)<|zg h fun q3 h=>yS Z (aa.appendX be (l.take v1.v_at.toNat) [n] rfl Z Z Z iC.p Z dN q3 Z)<|mN Z<|qR<|zM Z<|zM Z<|zM Z<|zg h fun q4 h=>yS Z (aa.sliceLo Z Z Z dN q4)<|zg h fun q5 h=>yS Z (aa.appendX be ((l.take v1.v_at.toNat)++[n]) (l.drop v1.v_at.toNat) Z Z Z Z iC.p Z dN q5 Z)<|mN Z<|zr ?_;cases h;exact zf (.one (.tmp Z))<|(Conv.vecAll Z Z Z)
structure jE where
 out:List Int
 i:Int
def qq (l:List Vt)(x1:jE):Option (jE⊕jE):=bif decide (x1.i<(l.length:Int))then (ix l x1.i).bind fun y1=>(yH x1.out y1.From).bind fun v2=>some (.inl (jE.mk v2 (i64.wrap (x1.i+1))))else some (.inr (jE.mk x1.out x1.i))
def yz (l:List Vt):Option (List Int):=(iter (qq l) aY (jE.mk ([]:List Int) 0)).bind fun v1=>some v1.out
theorem Oi {l:List Vt}{r_:(List Int)}(h:yz l=some r_):aq prog 187 [.slice 4 (l.map aO)] [.slice 1 (r_.map be)]:=by
 refine zh Tryz.func187 Z Z Z Z ?_;unfold yz at h;refine qR<|mN Z<|qR<|mN Z<|zQ<|qR<|mN Z<|LW.ent (bW.zsP (t:=3) (m:=1) Z) ?_;obtain⟨v1,p1,q1⟩:=zB h;clear h;refine LW.tail (E:=[(2,.zs),(3,(kI v1.out))]) (O:=[]) ?_<|fun e1 K1 u1=>?_
 ·refine LW.block ?_;refine LW.iterB (E:=fun x1:jE=>[(0,(kV l)),(2,.zs),(3,(kI x1.out)),(4,(iQ x1.i))]) (O:=fun x1=>[]) p1 (au 0 ⟨Z,Z,Z,Z,t_⟩)<|fun x1 z1 h m1=>?_;unfold qq at h;refine zQ<|qR<|zM Z<|zM Z<|yS Z (cx Z Z)<|yS Z (am Z Z Z Z)<|nT ?_;refine zX Z (fun g1=>?_)<|fun g1=>?_
  ·refine zi g1 h fun h=>zk<|zT<|zQ<|zl<|zR<|zM Z<|zM Z<|zM Z<|zb h fun y1 j1 h=>yS Z (zx Z Z Z bz j1 Z)<|yS Z (aa.fieldAddrC Z Z im Z)<|yS Z (bS Z Z Z aV Z Z)<|zb h fun v2 a2 h=>yS Z (yP Z Z Z (Ol a2) bR)<|zM Z<|zN<|ae<|zT<|zR<|zM Z<|yS Z (am Z Z Z Z)<|mN Z ?_;cases h;exact⟨_,rfl,au 0 ⟨Z,Z,Z,Z,t_⟩⟩
  ·refine zo g1 h fun h=>zq<|aj<|aj<|zy<|zT ?_;cases h;obtain rfl:=(m1 _ rfl);exact au 0 ⟨Z,Z,t_⟩
 ·have h:=q1;clear p1;refine zT<|LW.weak u1<|qR<|zM Z<|mN Z<|zr ?_;cases h;exact ba Z
structure eD where
 i:Int
structure dQ where
 k:Int
def lj (l:List Vt)(slot:Int)(who:Int)(x1:eD)(x2:dQ):Option (dQ⊕(dQ⊕(eD⊕(eD⊕Bool)))):=bif decide (x2.k<x1.i)then (ix l x1.i).bind fun y1=>bif y1.From==who then (ix l x2.k).bind fun y2=>bif y2.From==who then (ix l x1.i).bind fun y3=>bif y3.Slot==slot then (ix l x2.k).bind fun y4=>bif y4.Slot==slot then (ix l x1.i).bind fun y5=>(ix l x2.k).bind fun y6=>bif !((y5.Head.1==y6.Head.1)&&((y5.Head.2==y6.Head.2)&&true))then some (.inr (.inr (.inr (.inr true))))else some (.inl (dQ.mk (i64.wrap (x2.k+1))))else some (.inl (dQ.mk (i64.wrap (x2.k+1))))else some (.inl (dQ.mk (i64.wrap (x2.k+1))))else some (.inl (dQ.mk (i64.wrap (x2.k+1))))else some (.inl (dQ.mk (i64.wrap (x2.k+1))))else some (.inr (.inl (dQ.mk x2.k)))
def qr (l:List Vt)(slot:Int)(who:Int)(x1:eD):Option (eD⊕(eD⊕Bool)):=bif decide (x1.i<(l.length:Int))then (iter (lj l slot who x1) aY (dQ.mk 0)).bind fun b_v2=>Sum.elim (fun _=>some (.inl (eD.mk (i64.wrap (x1.i+1))))) some b_v2 else some (.inr (.inl (eD.mk x1.i)))
def yA (l:List Vt)(slot:Int)(who:Int):Option Bool:=(iter (qr l slot who) aY (eD.mk 0)).bind fun b_v1=>Sum.elim (fun _=>some false) some b_v1
theorem Oj {l:List Vt}(h:yA l slot who=some r_):aq prog 188 [.slice 4 (l.map aO),.int .i64 slot,.int .i64 who] [.bool r_]:=by
 refine zh Tryz.func188 Z Z Z Z ?_;unfold yA at h;refine qR<|mN Z<|zQ<|qR<|mN Z ?_;obtain⟨w1,p1,q1⟩:=zB h;clear h;refine LW.tailB (b:=w1) (E:=fun v1=>[(6,(bQ false))]) (O:=fun v1=>[]) ?_<|fun v1 f1 e1 K1 u1=>?_
 ·refine LW.block ?_;refine LW.iterB (E:=fun x1:eD=>[(0,(kV l)),(1,(iQ slot)),(2,(iQ who)),(6,(bQ false)),(7,(iQ x1.i))]) (O:=fun x1=>[]) p1 (au 0 ⟨Z,Z,Z,Z,Z,t_⟩)<|fun x1 z1 h m1=>?_;unfold qr at h;refine zQ<|qR<|zM Z<|zM Z<|yS Z (cx Z Z)<|yS Z (am Z Z Z Z)<|nT ?_;refine zX Z (fun g1=>?_)<|fun g1=>?_
  ·refine zi g1 h fun h=>zk<|zT<|zQ<|zl<|qR<|mN Z ?_;obtain⟨w2,p2,q2⟩:=zB h;clear h;refine LW.tailB (b:=w2) (E:=fun v2=>[(0,(kV l)),(1,(iQ slot)),(2,(iQ who)),(6,(bQ false)),(7,(iQ x1.i))]) (O:=fun v2=>[]) ?_<|fun v2 f2 e2 K2 u2=>?_
   ·refine LW.block ?_;refine LW.iterB (E:=fun x2:dQ=>[(0,(kV l)),(1,(iQ slot)),(2,(iQ who)),(6,(bQ false)),(7,(iQ x1.i)),(8,(iQ x2.k))]) (O:=fun x2=>[]) p2 (au 0 ⟨Z,Z,Z,Z,Z,Z,t_⟩)<|fun x2 z2 h m2=>?_;unfold lj at h;refine zQ<|qR<|zM Z<|zM Z<|yS Z (am Z Z Z Z)<|nT ?_;refine zX Z (fun g2=>?_)<|fun g2=>?_
    ·refine zi g2 h fun h=>zk<|zT<|zQ<|zl<|zQ<|dy<|zH Z<|zH Z<|zb h fun y1 j1 h=>yE Z (zx Z Z Z bz j1 Z)<|yE Z (aa.fieldAddrC Z Z im Z)<|yE Z (bS Z Z Z aV Z Z)<|zH Z<|yE Z (am Z Z Z Z)<|zH Z ?_;refine LO.cases 27 Z (fun(g3:(y1.From==who)=true)=>?_) (fun(g3:(y1.From==who)=false)=>?_)
     ·refine zi g3 h fun h=>yL Z (gd g3 Z) (zm Z Z)<|yL Z (gd g3 Z) (zm Z Z)<|zb h fun y2 j2 h=>yL Z (gd g3 Z) (zx Z Z Z bz j2 Z)<|yL Z (gd g3 Z) (aa.fieldAddrC Z Z im Z)<|yL Z (gd g3 Z) (bS Z Z Z aV Z Z)<|yL Z (gd g3 Z) (zm Z Z)<|yL Z (gd g3 Z) (am Z Z Z Z)<|yE Z (bA Z (aK g3 Z) Z)<|zH Z ?_;refine LO.cases 36 Z (fun(g4:(y2.From==who)=true)=>?_) (fun(g4:(y2.From==who)=false)=>?_)
      ·refine zi g4 h fun h=>yL Z (gd g4 Z) (zm Z Z)<|yL Z (gd g4 Z) (zm Z Z)<|zb h fun y3 j3 h=>yL Z (gd g4 Z) (zx Z Z Z bz j3 Z)<|yL Z (gd g4 Z) (aa.fieldAddrC Z Z i8 Z)<|yL Z (gd g4 Z) (bS Z Z Z aV Z Z)<|yL Z (gd g4 Z) (zm Z Z)<|yL Z (gd g4 Z) (am Z Z Z Z)<|yE Z (bA Z (aK g4 Z) Z)<|zH Z ?_;refine LO.cases 45 Z (fun(g5:(y3.Slot==slot)=true)=>?_) (fun(g5:(y3.Slot==slot)=false)=>?_)
       ·refine zi g5 h fun h=>yL Z (gd g5 Z) (zm Z Z)<|yL Z (gd g5 Z) (zm Z Z)<|zb h fun y4 j4 h=>yL Z (gd g5 Z) (zx Z Z Z bz j4 Z)<|yL Z (gd g5 Z) (aa.fieldAddrC Z Z i8 Z)<|yL Z (gd g5 Z) (bS Z Z Z aV Z Z)<|yL Z (gd g5 Z) (zm Z Z)<|yL Z (gd g5 Z) (am Z Z Z Z)<|yE Z (bA Z (aK g5 Z) Z)<|zH Z ?_;refine LO.cases 54 Z (fun(g6:(y4.Slot==slot)=true)=>?_) (fun(g6:(y4.Slot==slot)=false)=>?_)
        ·refine zi g6 h fun h=>yL Z (gd g6 Z) (zm Z Z)<|yL Z (gd g6 Z) (zm Z Z)<|zb h fun y5 j5 h=>yL Z (gd g6 Z) (zx Z Z Z bz j5 Z)<|yL Z (gd g6 Z) (aa.fieldAddrC Z Z i9 Z)<|yL Z (gd g6 Z) (bS Z Z Z aG Z Z)<|yL Z (gd g6 Z) (zm Z Z)<|yL Z (gd g6 Z) (zm Z Z)<|zb h fun y6 j6 h=>yL Z (gd g6 Z) (zx Z Z Z bz j6 Z)<|yL Z (gd g6 Z) (aa.fieldAddrC Z Z i9 Z)<|yL Z (gd g6 Z) (bS Z Z Z aG Z Z)<|yL Z (gd g6 Z) (aa.neqAgg Z Z Z Z Z gY)<|yE Z (bA Z (aK g6 Z) Z)<|LO.nil<|zT ?_;refine zX Z (fun g7=>?_)<|fun g7=>?_
         ·refine zi g7 h fun h=>qR<|mN Z<|LW.ret<|ao<|af<|af<|ao<|af<|ao<|af<|af<|ao<|af<|af ?_;cases h;obtain rfl:=(m2 _ rfl);have h:=bT q2;cases h;obtain rfl:=(m1 _ rfl);have h:=bT q1;cases h;exact ba Z
         ·refine zo g7 h fun h=>zk<|ae<|zT<|zR<|zM Z<|yS Z (am Z Z Z Z)<|mN Z ?_;cases h;exact⟨_,rfl,au 0 ⟨Z,Z,Z,Z,Z,Z,t_⟩⟩
        ·refine zo g6 h fun h=>yK Z (gd g6 Z) Z<|yK Z (gd g6 Z) Z<|yK Z (gd g6 Z) Z<|yK Z (gd g6 Z) Z<|yK Z (gd g6 Z) Z<|yK Z (gd g6 Z) Z<|yK Z (gd g6 Z) Z<|yK Z (gd g6 Z) Z<|yK Z (gd g6 Z) Z<|yK Z (gd g6 Z) Z<|yK Z (gd g6 Z) Z<|yE Z (aU Z (aK g6 Z) Z)<|LO.nil<|zT<|LW.condF Z<|zk<|ae<|zT<|zR<|zM Z<|yS Z (am Z Z Z Z)<|mN Z ?_;cases h;exact⟨_,rfl,au 0 ⟨Z,Z,Z,Z,Z,Z,t_⟩⟩
       ·refine zo g5 h fun h=>yK Z (gd g5 Z) Z<|yK Z (gd g5 Z) Z<|yK Z (gd g5 Z) Z<|yK Z (gd g5 Z) Z<|yK Z (gd g5 Z) Z<|yK Z (gd g5 Z) Z<|yK Z (gd g5 Z) Z<|yE Z (aU Z (aK g5 Z) Z)<|zH Z<|bY Z<|bY Z<|bY Z<|bY Z<|bY Z<|bY Z<|bY Z<|bY Z<|bY Z<|bY Z<|bY Z<|yE Z (aU Z Z Z)<|LO.nil<|zT<|LW.condF Z<|zk<|ae<|zT<|zR<|zM Z<|yS Z (am Z Z Z Z)<|mN Z ?_;cases h;exact⟨_,rfl,au 0 ⟨Z,Z,Z,Z,Z,Z,t_⟩⟩
      ·refine zo g4 h fun h=>yK Z (gd g4 Z) Z<|yK Z (gd g4 Z) Z<|yK Z (gd g4 Z) Z<|yK Z (gd g4 Z) Z<|yK Z (gd g4 Z) Z<|yK Z (gd g4 Z) Z<|yK Z (gd g4 Z) Z<|yE Z (aU Z (aK g4 Z) Z)<|zH Z<|bY Z<|bY Z<|bY Z<|bY Z<|bY Z<|bY Z<|bY Z<|yE Z (aU Z Z Z)<|zH Z<|bY Z<|bY Z<|bY Z<|bY Z<|bY Z<|bY Z<|bY Z<|bY Z<|bY Z<|bY Z<|bY Z<|yE Z (aU Z Z Z)<|LO.nil<|zT<|LW.condF Z<|zk<|ae<|zT<|zR<|zM Z<|yS Z (am Z Z Z Z)<|mN Z ?_;cases h;exact⟨_,rfl,au 0 ⟨Z,Z,Z,Z,Z,Z,t_⟩⟩
     ·refine zo g3 h fun h=>yK Z (gd g3 Z) Z<|yK Z (gd g3 Z) Z<|yK Z (gd g3 Z) Z<|yK Z (gd g3 Z) Z<|yK Z (gd g3 Z) Z<|yK Z (gd g3 Z) Z<|yK Z (gd g3 Z) Z<|yE Z (aU Z (aK g3 Z) Z)<|zH Z<|bY Z<|bY Z<|bY Z<|bY Z<|bY Z<|bY Z<|bY Z<|yE Z (aU Z Z Z)<|zH Z<|bY Z<|bY Z<|bY Z<|bY Z<|bY Z<|bY Z<|bY Z<|yE Z (aU Z Z Z)<|zH Z<|bY Z<|bY Z<|bY Z<|bY Z<|bY Z<|bY Z<|bY Z<|bY Z<|bY Z<|bY Z<|bY Z<|yE Z (aU Z Z Z)<|LO.nil<|zT<|LW.condF Z<|zk<|ae<|zT<|zR<|zM Z<|yS Z (am Z Z Z Z)<|mN Z ?_;cases h;exact⟨_,rfl,au 0 ⟨Z,Z,Z,Z,Z,Z,t_⟩⟩
    ·refine zo g2 h fun h=>zq<|aj<|aj<|zy<|zT ?_;cases h;obtain rfl:=(m2 _ rfl);exact⟨_,rfl,au 0 ⟨Z,Z,Z,Z,Z,t_⟩⟩
   ·obtain rfl:=f2;have h:=cU q2;clear p2;refine ae<|zT<|LW.weak u2<|zR<|zM Z<|yS Z (am Z Z Z Z)<|mN Z ?_;cases h;exact⟨_,rfl,au 0 ⟨Z,Z,Z,Z,Z,t_⟩⟩
  ·refine zo g1 h fun h=>zq<|aj<|aj<|zy<|zT ?_;cases h;obtain rfl:=(m1 _ rfl);exact⟨_,rfl,au 0 ⟨Z,t_⟩⟩
 ·obtain rfl:=f1;have h:=cU q1;clear p1;refine zT<|LW.weak u1<|qR<|mN Z<|zr ?_;cases h;exact ba Z
structure eA where
 i:Int
 out:List Vt
structure gI where
 k:Int
 out:List Vt
def nk (l:List Vt)(slot:Int)(v1:(List Int))(x1:eA)(x2:gI):Option (gI⊕gI):=bif decide (x2.k<(l.length:Int))then ((ix l x2.k).bind fun y2=>(ix v1 x1.i).bind fun y3=>bif y2.From==y3 then (ix l x2.k).bind fun y4=>some (y4.Slot==slot)else some false).bind fun v5=>bif v5 then (ix l x2.k).bind fun y5=>bif bG x2.out.length [y5].length 32 then some (.inr (gI.mk x2.k (x2.out++[y5])))else none else some (.inl (gI.mk (i64.wrap (x2.k+1)) x2.out))else some (.inr (gI.mk x2.k x2.out))
def li (l:List Vt)(slot:Int)(v1:(List Int))(x1:eA):Option (eA⊕eA):=bif decide (x1.i<(v1.length:Int))then (ix v1 x1.i).bind fun y1=>(yA l slot y1).bind fun v3=>bif v3 then some (.inl (eA.mk (i64.wrap (x1.i+1)) x1.out))else (iter (nk l slot v1 x1) aY (gI.mk 0 x1.out)).bind fun v4=>some (.inl (eA.mk (i64.wrap (x1.i+1)) v4.out))else some (.inr (eA.mk x1.i x1.out))
def yw (l:List Vt)(slot:Int):Option (List Vt):=(yz l).bind fun v1=>(iter (li l slot v1) aY (eA.mk 0 ([]:List Vt))).bind fun v2=>some v2.out
theorem Od {l:List Vt}{r_:(List Vt)}(h:yw l slot=some r_):aq prog 146 [.slice 4 (l.map aO),.int .i64 slot] [.slice 4 (r_.map aO)]:=by
 refine zh Tryz.func146 Z Z Z Z ?_;unfold yw at h;refine qR<|mN Z<|qR<|mN Z<|qR<|zM Z<|zb h fun v1 a1 h=>yS Z (yP Z Z Z (Oi a1) dB)<|mN Z<|zQ<|qR<|mN Z<|LW.ent (bW.lazy (t:=5) (m:=4) Z Z Z) ?_;obtain⟨v2,p2,b2⟩:=zB h;clear h;refine LW.tail (E:=[(4,.zs),(5,(jV 0 v2.out))]) (O:=[.vec 4 (v2.out.map aO)]) ?_<|fun e2 K2 u2=>?_
 ·refine LW.block ?_;refine LW.iterB (E:=fun x1:eA=>[(0,(kV l)),(1,(iQ slot)),(4,.zs),(5,(jV 0 x1.out)),(6,(kI v1)),(7,(iQ x1.i))]) (O:=fun x1=>[.vec 4 (x1.out.map aO)]) p2 (au 1 ⟨Z,Z,Z,Z,Z,Z,t_⟩)<|fun x1 z1 h m1=>?_;unfold li at h;refine zQ<|qR<|zM Z<|zM Z<|yS Z (cx Z Z)<|yS Z (am Z Z Z Z)<|nT ?_;refine zX Z (fun g1=>?_)<|fun g1=>?_
  ·refine zi g1 h fun h=>zk<|zT<|zQ<|zl<|qR<|zM Z<|zM Z<|zM Z<|zM Z<|zb h fun y1 j1 h=>yS Z (zx Z Z Z dN j1 Z)<|yS Z (bS Z Z Z aV Z Z)<|zb h fun v3 a3 h=>yS Z (yP Z Z Z (Oj a3) oU)<|mN Z<|zQ<|qR<|mN Z ?_;refine zX Z (fun g2=>?_)<|fun g2=>?_
   ·refine zi g2 h fun h=>zq<|aj<|zy<|zT<|zR<|zM Z<|yS Z (am Z Z Z Z)<|mN Z ?_;cases h;exact⟨_,rfl,au 1 ⟨Z,Z,Z,Z,Z,Z,t_⟩⟩
   ·refine zo g2 h fun h=>zk<|zT<|qR<|mN Z ?_;obtain⟨v4,p4,b4⟩:=zB h;clear h;refine LW.tail (E:=[(0,(kV l)),(1,(iQ slot)),(4,.zs),(5,(jV 0 v4.out)),(6,(kI v1)),(7,(iQ x1.i))]) (O:=[.vec 4 (v4.out.map aO)]) ?_<|fun e4 K4 u4=>?_
    ·refine LW.block ?_;refine LW.iterB (E:=fun x2:gI=>[(0,(kV l)),(1,(iQ slot)),(4,.zs),(5,(jV 0 x2.out)),(6,(kI v1)),(7,(iQ x1.i)),(9,(iQ x2.k))]) (O:=fun x2=>[.vec 4 (x2.out.map aO)]) p4 (au 1 ⟨Z,Z,Z,Z,Z,Z,Z,t_⟩)<|fun x2 z2 h m2=>?_;unfold nk at h;refine zQ<|qR<|zM Z<|zM Z<|yS Z (cx Z Z)<|yS Z (am Z Z Z Z)<|nT ?_;refine zX Z (fun g3=>?_)<|fun g3=>?_
     ·refine zi g3 h fun h=>zk<|zT<|zQ<|zl ?_;obtain⟨v5,p5,b5⟩:=zB h;clear h;refine LW.cut (E:=[(0,(kV l)),(1,(iQ slot)),(4,.zs),(5,(jV 0 x2.out)),(6,(kI v1)),(7,(iQ x1.i)),(9,(iQ x2.k)),(50,(bQ v5))]) (O:=[.vec 4 (x2.out.map aO)]) ?_ ?_
      ·have h:=p5;refine dy<|zH Z<|zH Z<|zb h fun y2 j2 h=>yE Z (zx Z Z Z bz j2 Z)<|yE Z (aa.fieldAddrC Z Z im Z)<|yE Z (bS Z Z Z aV Z Z)<|zH Z<|zH Z<|zb h fun y3 j3 h=>yE Z (zx Z Z Z dN j3 Z)<|yE Z (bS Z Z Z aV Z Z)<|yE Z (am Z Z Z Z)<|zH Z ?_;refine LO.cases 42 Z (fun(g4:(y2.From==y3)=true)=>?_) (fun(g4:(y2.From==y3)=false)=>?_)
       ·refine zi g4 h fun h=>yL Z (gd g4 Z) (zm Z Z)<|yL Z (gd g4 Z) (zm Z Z)<|zb h fun y4 j4 h=>yL Z (gd g4 Z) (zx Z Z Z bz j4 Z)<|yL Z (gd g4 Z) (aa.fieldAddrC Z Z i8 Z)<|yL Z (gd g4 Z) (bS Z Z Z aV Z Z)<|yL Z (gd g4 Z) (zm Z Z)<|yL Z (gd g4 Z) (am Z Z Z Z)<|yE Z (bA Z (aK g4 Z) Z)<|LO.nil<|zT ?_;cases h;exact au 1 ⟨Z,Z,Z,Z,Z,Z,Z,Z,t_⟩
       ·refine zo g4 h fun h=>yK Z (gd g4 Z) Z<|yK Z (gd g4 Z) Z<|yK Z (gd g4 Z) Z<|yK Z (gd g4 Z) Z<|yK Z (gd g4 Z) Z<|yK Z (gd g4 Z) Z<|yK Z (gd g4 Z) Z<|yE Z (aU Z (aK g4 Z) Z)<|LO.nil<|zT ?_;cases h;exact au 1 ⟨Z,Z,Z,Z,Z,Z,Z,Z,t_⟩
      ·have h:=b5;clear p5;refine zX Z (fun g5=>?_)<|fun g5=>?_
       ·refine zi g5 h fun h=>qR<|zM Z<|zM Z<|zM Z<|zb h fun y5 j5 h=>yS Z (zx Z Z Z bz j5 Z)<|yS Z (bS Z Z Z cz Z Z)<|yS Z (gU Z bz Z Z Z Z Z)<|zg h fun q1 h=>yS Z (aa.appendX aO x2.out [y5] rfl Z Z Z iC.p Z bz q1 Z)<|mN Z<|zq<|iP (by decide)<|aj<|aj<|zy<|zT ?_;cases h;obtain rfl:=(m2 _ rfl);exact au 1 ⟨Z,Z,Z,Z,Z,Z,t_⟩
       ·refine zo g5 h fun h=>zk<|ae<|zT<|zR<|zM Z<|yS Z (am Z Z Z Z)<|mN Z ?_;cases h;exact⟨_,rfl,au 1 ⟨Z,Z,Z,Z,Z,Z,Z,t_⟩⟩
     ·refine zo g3 h fun h=>zq<|aj<|aj<|zy<|zT ?_;cases h;obtain rfl:=(m2 _ rfl);exact au 1 ⟨Z,Z,Z,Z,Z,Z,t_⟩
    ·have h:=b4;clear p4;refine ae<|zT<|LW.weak u4<|zR<|zM Z<|yS Z (am Z Z Z Z)<|mN Z ?_;cases h;exact⟨_,rfl,au 1 ⟨Z,Z,Z,Z,Z,Z,t_⟩⟩
  ·refine zo g1 h fun h=>zq<|aj<|aj<|zy<|zT ?_;cases h;obtain rfl:=(m1 _ rfl);exact au 1 ⟨Z,Z,t_⟩
 ·have h:=b2;clear p2;refine zT<|LW.weak u2<|qR<|zM Z<|mN Z<|zr ?_;cases h;exact zf (.one (.tmp Z))<|(Conv.vecAll Z Z Z)
structure fd where
 i:Int
 out:List Vt
def lh (v1:(List Vt))(v2:(List Int))(x1:fd):Option (fd⊕fd):=bif decide (x1.i<(v1.length:Int))then (ix v1 x1.i).bind fun y1=>(GL v2 y1.From).bind fun v4=>bif v4 then (ix v1 x1.i).bind fun y2=>bif bG x1.out.length [y2].length 32 then some (.inl (fd.mk (i64.wrap (x1.i+1)) (x1.out++[y2])))else none else some (.inl (fd.mk (i64.wrap (x1.i+1)) x1.out))else some (.inr (fd.mk x1.i x1.out))
def vR (c:Cf)(v:List Vt)(slot:Int):Option (List Vt):=(yw v slot).bind fun v1=>(Lr c slot).bind fun v2=>(iter (lh v1 v2) aY (fd.mk 0 ([]:List Vt))).bind fun v3=>some v3.out
theorem KD {r_:(List Vt)}(h:vR c v slot=some r_):aq prog 101 [gF c,.slice 4 (v.map aO),.int .i64 slot] [.slice 4 (r_.map aO)]:=by
 refine zh Tryz.func101 Z Z Z Z ?_;unfold vR at h;refine qR<|yS Z (bv Z Z Z Z Z)<|mN Z<|qR<|mN Z<|qR<|zM Z<|zM Z<|zb h fun v1 a1 h=>yS Z (yP Z Z Z (Od a1) bR)<|mN Z<|qR<|yS Z (zD Z Z Z bd Z Z)<|zM Z<|zb h fun v2 a2 h=>yS Z (yP Z Z Z (QR a2) bR)<|mN Z<|zQ<|qR<|mN Z<|LW.ent (bW.lazy (t:=7) (m:=4) Z Z Z) ?_;obtain⟨v3,p3,b3⟩:=zB h;clear h;refine LW.tail (E:=[(6,.zs),(7,(jV 1 v3.out))]) (O:=[.box (cd c),.vec 4 (v3.out.map aO)]) ?_<|fun e3 K3 u3=>?_
 ·refine LW.block ?_;refine LW.iterB (E:=fun x1:fd=>[(6,.zs),(7,(jV 1 x1.out)),(8,(kV v1)),(9,(kI v2)),(10,(iQ x1.i))]) (O:=fun x1=>[.box (cd c),.vec 4 (x1.out.map aO)]) p3 (au 2 ⟨Z,Z,Z,Z,Z,t_⟩)<|fun x1 z1 h m1=>?_;unfold lh at h;refine zQ<|qR<|zM Z<|zM Z<|yS Z (cx Z Z)<|yS Z (am Z Z Z Z)<|nT ?_;refine zX Z (fun g1=>?_)<|fun g1=>?_
  ·refine zi g1 h fun h=>zk<|zT<|zQ<|zl<|qR<|zM Z<|zM Z<|zM Z<|zb h fun y1 j1 h=>yS Z (zx Z Z Z bz j1 Z)<|yS Z (aa.fieldAddrC Z Z im Z)<|yS Z (bS Z Z Z aV Z Z)<|zb h fun v4 a4 h=>yS Z (yP Z Z Z (L7 a4) bR)<|mN Z<|qR<|mN Z ?_;refine zX Z (fun g2=>?_)<|fun g2=>?_
   ·refine zi g2 h fun h=>zR<|zM Z<|zM Z<|zM Z<|zb h fun y2 j2 h=>yS Z (zx Z Z Z bz j2 Z)<|yS Z (bS Z Z Z cz Z Z)<|yS Z (gU Z bz Z Z Z Z Z)<|zg h fun q1 h=>yS Z (aa.appendX aO x1.out [y2] rfl Z Z Z iC.p Z bz q1 Z)<|zM Z<|zN<|ae<|zT<|zR<|zM Z<|yS Z (am Z Z Z Z)<|mN Z ?_;cases h;exact⟨_,rfl,au 2 ⟨Z,Z,Z,Z,Z,t_⟩⟩
   ·refine zo g2 h fun h=>zk<|ae<|zT<|zR<|zM Z<|yS Z (am Z Z Z Z)<|mN Z ?_;cases h;exact⟨_,rfl,au 2 ⟨Z,Z,Z,Z,Z,t_⟩⟩
  ·refine zo g1 h fun h=>zq<|aj<|aj<|zy<|zT ?_;cases h;obtain rfl:=(m1 _ rfl);exact au 2 ⟨Z,Z,t_⟩
 ·have h:=b3;clear p3;refine zT<|LW.weak u3<|qR<|zM Z<|mN Z<|zr ?_;cases h;exact zf (.one (.tmp Z))<|(Conv.vecAll Z Z Z)
def tS (c:Cf)(w:Vw)(slot:Int):Option ID:=(vR c w.V slot).bind fun v1=>(Nf c w.B v1).bind fun v2=>some v2
theorem Hg {r_:ID}(h:tS c w slot=some r_):aq prog 56 [gF c,iW w,.int .i64 slot] [aX r_]:=by
 refine zh Tryz.func56 Z Z Z Z ?_;unfold tS at h;refine qR<|yS Z (bv Z Z Z Z Z)<|yS Z (bv Z Z Z Z Z)<|yS Z (ze Z gT Z Z)<|nT<|zQ<|LW.drawLast (m:=9) (by kernel_rfl) (by kernel_rfl) (by kernel_rfl)<|yE Z (zD Z Z Z bd Z Z)<|yE Z (zA Z Z aL)<|yE Z (zD Z Z Z bL Z Z)<|yE Z (zD Z Z Z bd Z Z)<|yE Z (zA Z Z aS)<|yE Z (zD Z Z Z cq Z Z)<|zH Z<|zb h fun v1 a1 h=>yE Z (yP Z Z Z (KD a1) oU)<|zb h fun v2 a2 h=>yE Z (yP Z Z Z (Rv a2) oU)<|LO.nil<|yS Z (zs Z Z Z Z aG Z Z Z Z)<|nT<|zr ?_;cases h;exact zf (.one (eh Z Z)) zv
theorem Jl (a b:ID):FS a b=some (qX a b):=by
 unfold FS qX;by_cases h1:a.1<b.1
 ·rw[aQ h1,ct,aQ (.inl h1)]
 ·rw[aR h1,cf];by_cases h2:a.1=b.1
  ·rw[show(a.1==b.1)=true by simp[h2],ct];congr 1;exact decide_eq_decide.2 ⟨fun h=>.inr ⟨h2,h⟩,fun h=>h.elim (fun h=>absurd h h1) (·.2)⟩
  ·rw[show(a.1==b.1)=false by simp[h2],cf,aR (fun h=>h.elim h1 fun h=>h2 h.1)]
theorem Jk (hl:l.length<=1000)(hp:places l=some m)(id:ID):FR l (l.map nm) id=some (aZ l id):=by
 unfold FR
 have hk:∀n,(((l.take n).filter fun b=>decide (b.Parent=id)).map nm).length<=n:=fun n=>by
  rw[length_map];exact Nat.le_trans (List.length_filter_le _ _) (by rw[length_take];omega)
 have e:=av (step:=qg l (l.map nm) id) (n:=l.length) (fun n=>gm.mk (n:Int) (((l.take n).filter fun b=>decide (b.Parent=id)).map nm)) (gm.mk (l.length:Int) ((l.filter fun b=>decide (b.Parent=id)).map nm)) (fun n hn=>by
  obtain⟨y,hy,-⟩:=aA hn
  have hy2:(l.map nm)[n]?=some (nm y):=by rw[List.getElem?_map,hy];rfl
  have:=hk n;unfold qg;simp only;rw[eN,aw hy,ob,rV,ah (n:=n),sU hy];by_cases h:y.Parent=id
  ·rw[aQ h,ct,aw hy2,ob,aC (by simp only[length_singleton];omega),ct,i1_ h]
  ·rw[aR h,cf,i0_ h,append_nil]) (by
  unfold qg;simp only
  rw[gt,take_length]) (by omega)
 have e0:gm.mk ((0:Nat):Int) (((l.take 0).filter fun b=>decide (b.Parent=id)).map nm)=gm.mk 0 []:=by simp
 rw[e0]at e;rw[e,ob];unfold aZ;rw[hp]
theorem su (l:List Bk):(l.map nm).length=l.length:=length_map _
theorem vL (hl:l.length<=1000)(hp:places l=some m)(low:ID):∀(n:Nat) (f:Nat) (id:ID) (i:Int),ak m id=some i->i<n->n<f->
  ∃b,iter (mq l (l.map nm) low) f ⟨i,id⟩=some b/\(b.id=low↔low∈ck l (i+1).toNat id i):=by
 intro n
 have stop:∀(f:Nat) (id:ID) (i:Int),0<f->(i<0\/id=low)->iter (mq l (l.map nm) low) f ⟨i,id⟩=some ⟨i,id⟩:=by
  intro f id i hf h;obtain⟨f,rfl⟩:∃g,f=g+1:=⟨f-1,by omega⟩;refine eM ?_;unfold mq;simp only;by_cases h0:i>=0
  ·have hid:id=low:=h.resolve_left (by omega);rw[aQ h0,ct,ob,rV,aQ hid,Bool.not_true,cf]
  ·rw[aR h0,cf,ob,cf]
 induction n with
 |zero=>
  intro f id i hi hn hf;refine⟨⟨i,id⟩,stop f id i hf (.inl (by omega)),?_⟩;rcases(bc hp).known _ _ hi with⟨h,-⟩|⟨b,p,h0,-⟩
  ·subst h;rw[up hp hi];simp only[mem_singleton];exact⟨Eq.symm,Eq.symm⟩
  ·omega
 | succ n ih=>
  intro f id i hi hn hf;by_cases hid:id=low
  ·refine⟨⟨i,id⟩,stop f id i (by omega) (.inr hid),?_⟩
   have:an l id=ck l (i+1).toNat id i:=by unfold an;rw[hp];simp only[hi]
   rw[<-this]
   have h0:=BL (l:=l) (id:=id) (by
    rw[this];intro e;have:=sS hp (i+1).toNat id i (by omega) hi
    rw[e]at this;simp at this)
   exact⟨fun _=>hid▸List.mem_of_getElem? h0,fun _=>hid⟩
  ·rcases(bc hp).known _ _ hi with⟨h,h'⟩|⟨b,p,h0,h1,h2,h3,h4,h5,h6,h7⟩
   ·subst h;refine⟨⟨-1,id⟩,stop f id (-1) (by omega) (.inl (by omega)),?_⟩;rw[up hp hi];simp only[mem_singleton];exact⟨Eq.symm,Eq.symm⟩
   ·obtain⟨f,rfl⟩:∃g,f=g+1:=⟨f-1,by omega⟩
    have hix:ap (l.map nm) b.Parent=p:=by
     have:=mF hp b.Parent;rw[h4]at this;split at this
     ·rename_i e;cases this;rw[e];exact p6 hp
     ·split at this
      ·cases this;rfl
      ·cases this
    have hs:mq l (l.map nm) low ⟨i,id⟩=some (.inl ⟨p,b.Parent⟩):=by
     unfold mq;simp only;rw[aQ h0,ct,ob,rV,aR hid,Bool.not_false,ct,KW h0 h2,ob,rK (by rw[su];omega),ob,hix]
    obtain⟨b',e,hb⟩:=ih f b.Parent p h4 (by omega) (by omega);refine⟨b',by rw[mI hs,e],?_⟩;rw[gB (id:=id) hp (by omega) h0 h2 h4 h5 h6,List.mem_cons];exact⟨fun h=>.inr (hb.1 h),fun h=>h.elim (fun e=>absurd e.symm hid) hb.2⟩
theorem Jo (hl:l.length<=1000)(hp:places l=some m)(low id:ID):FY l (l.map nm) low id=some (gP l low id):=by
 unfold FY gP;have hfn:=mF hp id;rw[rK (by rw[su];omega),ob];by_cases h0:id=(0,0)
 ·rw[i1_ h0]at hfn;have hz:=p6 hp;obtain⟨b,e,hb⟩:=vL hl hp low 1 aY id (-1) hfn (by omega) (cj);rw[h0,hz,show decide ((-1:Int)<0)=true from rfl,ct,Al,aQ rfl,Bool.not_true,cf,ob,sl,<-h0,e,ob,rV];congr 1;refine decide_eq_decide.2 ?_;rw[hb];unfold an;rw[hp];simp only[hfn]
 ·rw[i0_ h0]at hfn;by_cases h1:0<=ap (l.map nm) id
  ·rw[i1_ h1]at hfn
   have hlt:ap (l.map nm) id<l.length:=by have:=uL (l:=l.map nm) (v:=id);rwa [su]at this
   obtain⟨b,e,hb⟩:=vL hl hp low (l.length+1) aY id _ hfn (by omega) (cj);rw[aR (show¬ap (l.map nm) id<0 by omega),cf,ob,sl,e,ob,rV];congr 1;refine decide_eq_decide.2 ?_;rw[hb];unfold an;rw[hp];simp only[hfn]
  ·rw[i0_ h1]at hfn;rw[aQ (show ap (l.map nm) id<0 by omega),ct,Al,aR h0,Bool.not_false,ct,ob,sr];congr 1;refine(aR ?_).symm;unfold an;rw[hp];simp only[hfn];simp
theorem CO (hW:c.W.length<=1000)(hl:l.length<=1000)(hp:places l=some m)(hv:v.length<=1000)(id:ID):D3 c l (l.map nm) v id=some (lY c l v id):=by
 unfold D3
 have e:=av (step:=qh l (l.map nm) v id) (n:=v.length) (fun n=>gn.mk (n:Int) (na l (v.take n) id)) (gn.mk (v.length:Int) (na l v id)) (fun n hn=>by
  obtain⟨y,hy,-⟩:=aA hn;have hlen:=qL l (v.take n) id;rw[length_take]at hlen;unfold qh;simp only;rw[eN,aw hy,ob,Jo hl hp,ob,wl hy,ah (n:=n)]
  cases hu:gP l id y.Head with
  |true=>rw[ct,ob,aC (by simp only[length_singleton];omega),ct,ct]
  |false=>rw[cf,cf,append_nil]) (by
  unfold qh;simp only
  rw[gt,take_length]) (by omega)
 have e0:gn.mk ((0:Nat):Int) (na l (v.take 0) id)=gn.mk 0 []:=by simp[na]
 rw[e0]at e;have hlen:=qL l v id;rw[e,ob,GJ hW (by simp only;omega),ob];rfl
theorem BF {f:ID->Int}{x k:ID}{y:Int}(h:f k=f k):kP ⟨f k,k⟩ ⟨y,x⟩=(decide (f k>y)||(decide (f k=y)&&qX x k)):=by
 unfold kP;simp only;by_cases e:f k=y
 ·rw[i1_ e,aR (show¬f k>y by omega),aQ e];rfl
 ·rw[i0_ e,aR e];cases decide (f k>y) <;>rfl
def kD (f:ID->Int)(a:List ID)(n:Nat):Int×ID:=if n=0 then(0,(0,0))else((fY f (a.take n) ⟨-1,(0,0)⟩).n,(fY f (a.take n) ⟨-1,(0,0)⟩).id)
theorem I5 (hW:c.W.length<=1000)(hl:l.length<=1000)(hp:places l=some m)(hv:v.length<=1000)(id:ID) :
  FB c l (l.map nm) v id=some ((d9 c l v id).id,decide ((d9 c l v id).n>=0)):=by
 unfold FB;have hk:=AI l id;rw[Jk hl hp,ob]
 have e:=av (step:=qd c l (l.map nm) v (aZ l id)) (n:=(aZ l id).length) (fun n=>ge.mk (kD (lY c l v) (aZ l id) n).1 (n:Int) (kD (lY c l v) (aZ l id) n).2)
  (ge.mk (kD (lY c l v) (aZ l id) (aZ l id).length).1 ((aZ l id).length:Int) (kD (lY c l v) (aZ l id) (aZ l id).length).2) (fun n hn=>by
  obtain⟨y,hy,-⟩:=aA hn;unfold qd;simp only;rw[aQ (show(n:Int)<((aZ l id).length:Int) by omega),ct,aw hy,ob,CO hW hl hp hv,ob,ob,Jl,ob,ah (n:=n)];have hon:=DG c l v y;by_cases h0:n=0
  ·subst h0;rw[show((((0:Nat):Int))==0)=true from rfl,ct,ob,ct,ob]
   have hk0:(aZ l id).take 1=[y]:=by rw[aM hy];rfl
   have:kD (lY c l v) (aZ l id) (0+1)=(lY c l v y,y):=by
    unfold kD;rw[i0_ (by omega),hk0];unfold fY fY kP;simp only;rw[i0_ (by omega),aQ (show lY c l v y> -1 by omega),ct]
   rw[this]
  ·rw[show(((n:Nat):Int)==0)=false by rw[beq_eq_false_iff_ne];omega,cf]
   have hst:kD (lY c l v) (aZ l id) n=((fY (lY c l v) ((aZ l id).take n) ⟨-1,(0,0)⟩).n,(fY (lY c l v) ((aZ l id).take n) ⟨-1,(0,0)⟩).id):=by unfold kD;rw[i0_ h0]
   have hst':kD (lY c l v) (aZ l id) (n+1)=((fY (lY c l v) ((aZ l id).take (n+1)) ⟨-1,(0,0)⟩).n,(fY (lY c l v) ((aZ l id).take (n+1)) ⟨-1,(0,0)⟩).id):=by unfold kD;rw[i0_ (by omega)]
   rw[hst,hst',aM hy,pG];generalize fY (lY c l v) ((aZ l id).take n) ⟨-1,(0,0)⟩=B;obtain⟨bn,bi⟩:=B;rw[BF rfl];simp only;by_cases h1:lY c l v y>bn
   ·rw[aQ h1,ct,ob,ct,ob,Bool.true_or,ct]
   ·rw[aR h1,cf,Bool.false_or];by_cases h2:lY c l v y=bn
    ·rw[show(lY c l v y==bn)=true by simp[h2],ct,ob,aQ h2,Bool.true_and]
     cases qX bi y with
     |true=>rw[ct,ob,ct]
     |false=>rw[cf,cf]
    ·rw[show(lY c l v y==bn)=false by simp[h2],cf,ob,aR h2,Bool.false_and,cf,cf]) (by
  unfold qd;simp only
  rw[aR (show¬((aZ l id).length:Int)<((aZ l id).length:Int) by omega),cf]) (by omega)
 have e0:ge.mk (kD (lY c l v) (aZ l id) 0).1 ((0:Nat):Int) (kD (lY c l v) (aZ l id) 0).2=ge.mk 0 0 (0,0):=rfl;rw[e0]at e;rw[e,ob];simp only;rcases nD c l v id with⟨h1,h2⟩|⟨k,h1,h2⟩
 ·rw[h2,h1];rfl
 ·have hne:(aZ l id).length≠0:=by
   intro h;rw[List.length_eq_zero_iff]at h;rw[h]at h1;simp at h1
  have hst:kD (lY c l v) (aZ l id) (aZ l id).length=((d9 c l v id).n,(d9 c l v id).id):=by
   unfold kD;rw[i0_ hne,take_length];rfl
  rw[hst,aQ (show((aZ l id).length:Int)>0 by omega),aQ (show(d9 c l v id).n>=0 by rw[h2];exact DG c l v k)]
theorem Ep (hp:places l=none):d9 c l v id=⟨-1,(0,0)⟩:=by
 have hk:aZ l id=[]:=by unfold aZ;rw[hp]
 unfold d9;rw[hk];rfl
theorem Lt (hb:kZ l)(hW:c.W.length<=1000)(hl:l.length<=1000)(hv:v.length<=1000):Nf c l v=some (g0 c l v):=by
 unfold Nf;rw[wW hb hl,ob];unfold xY;rw[Bv hl,ob,ob]
 cases hp:places l with
 | none=>
  have hs:nr c l v (l.map nm) (none:Option (List (ID×Int))).isSome ⟨0,(0,0)⟩=some (.inr ⟨0,(0,0)⟩):=by
   unfold nr;simp only;rw[aQ (show(0:Int)<=(l.length:Int) by omega),ct,Option.isSome_none,ob,cf]
  rw[LK,eM hs,ob];unfold g0 oZ;rw[Ep hp,i0_ (by simp)]
 | some m=>
  have key:∀(n f:Nat) (i:Int) (id:ID),i+n=(l.length:Int)+1->0<=i->n<f->∃b,iter (nr c l v (l.map nm) (some m).isSome) f ⟨i,id⟩=some b/\b.id=oZ c l v n id:=by
   intro n
   induction n with
   |zero=>
    intro f i id hi h0 hf;obtain⟨f,rfl⟩:∃g,f=g+1:=⟨f-1,by omega⟩;refine⟨⟨i,id⟩,eM ?_,rfl⟩;unfold nr;simp only;rw[aR (show¬i<=(l.length:Int) by omega),cf,ob,cf]
   | succ n ih=>
    intro f i id hi h0 hf;obtain⟨f,rfl⟩:∃g,f=g+1:=⟨f-1,by omega⟩
    have hs:nr c l v (l.map nm) (some m).isSome ⟨i,id⟩=if (d9 c l v id).n>=0 then some (.inl ⟨i+1,(d9 c l v id).id⟩)else some (.inr ⟨i,id⟩):=by
     unfold nr;simp only;rw[aQ (show i<=(l.length:Int) by omega),ct,Option.isSome_some,ob,ct,I5 hW hl hp hv,ob];by_cases h:(d9 c l v id).n>=0
     ·rw[aQ h,Bool.not_true,cf,i1_ h,cR]
     ·rw[aR h,Bool.not_false,ct,i0_ h]
    unfold oZ;by_cases h:(d9 c l v id).n>=0
    ·rw[i1_ h]at hs⊢;rw[mI hs];exact ih f (i+1) _ (by omega) (by omega) (by omega)
    ·rw[i0_ h]at hs⊢;exact⟨_,eM hs,rfl⟩
  obtain⟨b,e,hb⟩:=key (l.length+1) aY 0 (0,0) (by omega) (by omega) (cj);rw[e,ob,hb];rfl
theorem LM {a b:Int}(h:¬a=b):(a==b)=false:=beq_eq_false_iff_ne.2 h
abbrev Up (l:List Int):Prop:=l.Pairwise fun a b=>a<b
theorem Gk {l:List Int}(hl:l.length<=100000)(hs:Up l):∃r,yH l n=some r/\Up r/\(∀x,x∈r↔x∈l\/x=n)/\r.length<=l.length+1:=by
  obtain⟨b,hb,a,rfl,ha,hgt,hle⟩:=bw (step:=qu l n) (fun x=>∃a:Nat,x.v_at=a/\a<=l.length/\∀j y,a<=j->l[j]?=some y->n<y) (fun x=>x.v_at.toNat) (fun b=>∃a:Nat,b=⟨(a:Int)⟩/\a<=l.length/\(∀j y,a<=j->l[j]?=some y->n<y)/\∀y,0<a->l[a-1]?=some y->y<=n) (by
    rintro⟨t⟩ ⟨a,ht,h1,h2⟩;simp only at ht;subst ht;unfold qu;simp only;by_cases h0:0<a
    · obtain⟨y,hy,-⟩:=aA (l:=l) (n:=a-1);rw[aQ (show(a:Int)>0 by omega),ct,cR (n:=(a:Int)-1),show(a:Int)-1=((a-1:Nat):Int) by omega,aw hy,ob];by_cases hy2:y>n
      · rw[aQ hy2,ct];refine .inl ⟨_,rfl,⟨a-1,rfl,by omega,fun j z hj hz=>?_⟩,by simp only;omega⟩;by_cases e:j=a-1
        · subst e;rw[hy]at hz;rw[<-Option.some.inj hz];exact hy2
        · exact h2 j z (by omega) hz
      · rw[aR hy2,cf];refine .inr ⟨_,rfl,a,rfl,h1,h2,fun z _ hz=>?_⟩;rw[hy]at hz;rw[<-Option.some.inj hz];omega
    · rw[aR (show¬(a:Int)>0 by omega),cf]
      exact .inr ⟨_,rfl,a,rfl,h1,h2,fun z hz=>absurd hz h0⟩) (n:=aY) (x:=⟨(l.length:Int)⟩) ⟨l.length,rfl,Nat.le_refl _,fun j y hj hy=>by have:=(List.getElem?_eq_some_iff.1 hy).1;omega⟩ (cj (by simp only;omega))
  have key:(∃y,0<a/\l[a-1]?=some y/\y=n)\/∀y,0<a->l[a-1]?=some y->y<n:=by
    by_cases h0:0<a
    · obtain⟨y,hy,-⟩:=aA (l:=l) (n:=a-1);by_cases e:y=n
      · exact .inl ⟨y,h0,hy,e⟩
      · refine .inr fun z hz0 hz=>?_;have h3:=hle z hz0 hz;rw[hy]at hz;have:=Option.some.inj hz;omega
    · exact .inr fun z hz=>absurd hz h0
  unfold yH;rw[hb,ob];rcases key with⟨y,h0,hy,rfl⟩|hlt
  · refine⟨l,?_,hs,fun x=>⟨.inl,fun h=>h.elim id fun e=>e▸List.mem_of_getElem? hy⟩,by omega⟩;rw[aQ (show(a:Int)>0 by omega),ct,cR (n:=(a:Int)-1),show(a:Int)-1=((a-1:Nat):Int) by omega,aw hy,ob,beq_self_eq_true,ct,ob];rfl
  · refine⟨(l.take a++[n])++l.drop a,?_,?_,fun x=>?_,?_⟩
    · have hg:((bif decide ((a:Int)>0)then(ix l (i64.wrap ((a:Int)-1))).bind fun y2=>bif y2==n then some (.inr l)else some (.inl ())else some (.inl ())):Option (Unit⊕List Int))=some (.inl ()):=by
        by_cases h0:0<a
        · obtain⟨y,hy,-⟩:=aA (l:=l) (n:=a-1);have:=hlt y h0 hy;rw[aQ (show(a:Int)>0 by omega),ct,cR (n:=(a:Int)-1),show(a:Int)-1=((a-1:Nat):Int) by omega,aw hy,ob,show(y==n)=false from beq_eq_false_iff_ne.2 (by omega),cf]
        · rw[aR (show¬(a:Int)>0 by omega),cf]
      rw[hg,ob];show(bif xp l 0 (a:Int)then _ else none)=_
      have ht:(l.take a).length=a:=by rw[length_take];omega
      have hd:(l.drop a).length=l.length-a:=List.length_drop;rw[show xp l 0 (a:Int)=true from aQ (by omega),ct,Int.toNat_natCast,aC,ct,aC (by simp only[length_singleton];omega),ct,show xp l (a:Int) l.length=true from aQ (by omega),ct,aC (by simp only[length_append,length_singleton];omega),ct]
    · have hall:=List.pairwise_iff_getElem.1 hs;refine List.pairwise_append.2 ⟨List.pairwise_append.2 ⟨hs.sublist (List.take_sublist _ _),by simp,fun x hx y hy=>?_⟩,hs.sublist (List.drop_sublist _ _),fun x hx y hy=>?_⟩
      · rw[mem_singleton.1 hy];obtain⟨j,hj⟩:=getElem?_of_mem hx;have hjl:=(List.getElem?_eq_some_iff.1 hj).1;rw[length_take]at hjl;rw[getElem?_take_of_lt (by omega)]at hj;obtain⟨z,hz,-⟩:=aA (l:=l) (n:=a-1);have h3:=hlt z (by omega) hz;by_cases e:j=a-1
        · subst e;rw[hz]at hj;rw[<-Option.some.inj hj];exact h3
        · have h4:=hall j (a-1) (by omega) (by omega) (by omega);rw[(List.getElem?_eq_some_iff.1 hj).2,(List.getElem?_eq_some_iff.1 hz).2]at h4;omega
      · obtain⟨j,hj⟩:=getElem?_of_mem hy;rw[List.getElem?_drop]at hj;have h5:=hgt _ y (by omega) hj;rcases mem_append.1 hx with hx|hx
        · obtain⟨i,hi⟩:=getElem?_of_mem hx;have hil:=(List.getElem?_eq_some_iff.1 hi).1;rw[length_take]at hil;rw[getElem?_take_of_lt (by omega)]at hi;have hjl:=(List.getElem?_eq_some_iff.1 hj).1;have h4:=hall i (a+j) (by omega) hjl (by omega);rw[(List.getElem?_eq_some_iff.1 hi).2,(List.getElem?_eq_some_iff.1 hj).2]at h4;exact h4
        · rw[mem_singleton.1 hx];exact h5
    · rw[mem_append,mem_append,mem_singleton]
      conv=>rhs;rw[<-List.take_append_drop a l,mem_append]
      constructor
      · rintro((h|h)|h)
        · exact .inl<|.inl h
        · exact .inr h
        · exact .inl<|.inr h
      · rintro((h|h)|h)
        · exact .inl<|.inl h
        · exact .inr h
        · exact .inl<|.inr h
    · simp only[length_append,length_singleton,length_take,List.length_drop];omega
theorem Gh {l:List Vt}(hl:l.length<=90000):∃r,yz l=some r/\Up r/\(∀x,x∈r↔∃v∈l,v.From=x)/\r.length<=l.length:=by
 obtain⟨b,hb,h1,h2,h3⟩:=bw (step:=qq l) (fun x=>∃j:Nat,x.i=j/\j<=l.length/\Up x.out/\(∀y,y∈x.out↔∃v∈l.take j,v.From=y)/\x.out.length<=j) (fun x=>l.length-x.i.toNat) (fun b=>Up b.out/\(∀y,y∈b.out↔∃v∈l,v.From=y)/\b.out.length<=l.length) (by
  rintro⟨out,i⟩ ⟨j,hi,h1,h2,h3,h4⟩;simp only at hi h2 h3 h4;subst hi;unfold qq;simp only;by_cases hlt:j<l.length
  ·obtain⟨y,hy,-⟩:=aA hlt;obtain⟨r,hr,r1,r2,r3⟩:=Gk (l:=out) (n:=y.From) (by omega) h2;rw[eN,aw hy,ob,hr,ob,ah (n:=j)];refine .inl ⟨_,rfl,⟨j+1,rfl,by omega,r1,fun x=>?_,by show r.length<=_;omega⟩,by simp only;omega⟩;show x∈r↔_;rw[r2,h3,aM hy];constructor
   ·rintro(⟨v,h5,h6⟩|e)
    ·exact⟨v,List.mem_append_left _ h5,h6⟩
    ·exact⟨y,List.mem_append_right _ (mem_singleton.2 Z),e.symm⟩
   ·rintro⟨v,h5,h6⟩;rcases mem_append.1 h5 with h5|h5
    ·exact .inl ⟨v,h5,h6⟩
    ·rw[mem_singleton.1 h5]at h6;exact .inr h6.symm
  ·rw[aR (show¬(j:Int)<(l.length:Int) by omega),cf];refine .inr ⟨_,rfl,h2,fun x=>?_,by show out.length<=_;omega⟩;show x∈out↔_
   rw[h3,List.take_of_length_le (by omega)]) (n:=aY) (x:=⟨[],0⟩) ⟨0,rfl,by omega,List.Pairwise.nil,fun y=>by simp,by simp⟩ (cj (by simp only;omega))
 unfold yz;rw[hb,ob];exact⟨_,rfl,h1,h2,h3⟩
def Dv (slot who:Int)(y z:Vt):Prop:=y.From=who/\z.From=who/\y.Slot=slot/\z.Slot=slot/\y.Head≠z.Head
def M4 (l:List Vt)(slot who:Int):Prop:=∃y∈l,∃z∈l,Dv slot who y z
theorem JS {y z:Vt}{A:Type}(s t:A):(bif y.From==who then bif z.From==who then bif y.Slot==slot then bif z.Slot==slot then bif !((y.Head.1==z.Head.1)&&((y.Head.2==z.Head.2)&&true))then s else t else t else t else t else t)=t/\¬Dv slot who y z\/(bif y.From==who then bif z.From==who then bif y.Slot==slot then bif z.Slot==slot then bif !((y.Head.1==z.Head.1)&&((y.Head.2==z.Head.2)&&true))then s else t else t else t else t else t)=s/\Dv slot who y z:=by
 rw[rV];unfold Dv;by_cases h1:y.From=who
 ·by_cases h2:z.From=who
  ·by_cases h3:y.Slot=slot
   ·by_cases h4:z.Slot=slot
    ·by_cases h5:y.Head=z.Head
     ·left;simp[h1,h2,h3,h4,h5]
     ·right;simp[h1,h2,h3,h4,h5]
    ·left;rw[LM h4];simp[h1,h2,h3,h4]
   ·left;rw[LM h3];simp[h1,h2,h3]
  ·left;rw[LM h2];simp[h1,h2]
 ·left;rw[LM h1];simp[h1]
theorem Ex {l:List Vt}(hl:l.length<=90000){i:Nat}(hy:l[i]?=some y) :
  (iter (lj l slot who ⟨(i:Int)⟩) aY ⟨0⟩=some (.inr (.inr (.inr true)))/\∃z∈l,Dv slot who y z)\/(∃x,iter (lj l slot who ⟨(i:Int)⟩) aY ⟨0⟩=some (.inl x))/\∀k z,k<i->l[k]?=some z->¬Dv slot who y z:=by
 have hil:=(List.getElem?_eq_some_iff.1 hy).1
 obtain⟨b,hb,h⟩:=bw (step:=lj l slot who ⟨(i:Int)⟩) (fun x=>∃k:Nat,x.k=k/\k<=i/\∀q z,q<k->l[q]?=some z->¬Dv slot who y z) (fun x=>i-x.k.toNat) (fun b=>(b=.inr (.inr (.inr true))/\∃z∈l,Dv slot who y z)\/(∃x,b=.inl x)/\∀k z,k<i->l[k]?=some z->¬Dv slot who y z) (by
  rintro⟨t⟩ ⟨k,ht,h1,h2⟩;simp only at ht;subst ht;unfold lj;simp only;by_cases hlt:k<i
  ·obtain⟨z,hz,hzm⟩:=aA (l:=l) (n:=k);rw[eN,aw hy,aw hz];simp only[bind_some];rcases JS (slot:=slot) (who:=who) (y:=y) (z:=z) (some (.inr (.inr (.inr (.inr true)))):Option (dQ⊕(dQ⊕(eD⊕(eD⊕Bool))))) (some (.inl ⟨i64.wrap ((k:Int)+1)⟩))with⟨e,h3⟩|⟨e,h3⟩
   ·rw[e,ah (n:=k)];refine .inl ⟨_,rfl,⟨k+1,rfl,by omega,fun q w hq hw=>?_⟩,by simp only;omega⟩;by_cases e2:q=k
    ·subst e2;rw[hz]at hw;rw[<-Option.some.inj hw];exact h3
    ·exact h2 q w (by omega) hw
   ·rw[e];exact .inr ⟨_,rfl,.inl ⟨rfl,z,hzm,h3⟩⟩
  ·rw[aR (show¬(k:Int)<(i:Int) by omega),cf]
   exact .inr ⟨_,rfl,.inr ⟨⟨_,rfl⟩,fun q z hq=>h2 q z (by omega)⟩⟩) (n:=aY) (x:=⟨0⟩) ⟨0,rfl,by omega,fun q z hq=>by omega⟩ (cj (by simp only;omega))
 rcases h with⟨rfl,h⟩|⟨⟨x,rfl⟩,h⟩
 ·exact .inl ⟨hb,h⟩
 ·exact .inr ⟨⟨x,hb⟩,h⟩
open Classical in
theorem Gi {l:List Vt}(hl:l.length<=90000)(slot who:Int):yA l slot who=some (decide (M4 l slot who)):=by
 obtain⟨b,hb,h⟩:=bw (step:=qr l slot who) (fun x=>∃i:Nat,x.i=i/\i<=l.length/\∀q y,q<i->l[q]?=some y->∀k z,k<q->l[k]?=some z->¬Dv slot who y z) (fun x=>l.length-x.i.toNat) (fun b=>(b=.inr true/\M4 l slot who)\/(∃x,b=.inl x)/\¬M4 l slot who) (by
  rintro⟨t⟩ ⟨i,ht,h1,h2⟩;simp only at ht;subst ht;unfold qr;simp only;by_cases hlt:i<l.length
  ·obtain⟨y,hy,hym⟩:=aA hlt;rw[eN];rcases Ex hl (slot:=slot) (who:=who) hy with⟨e,z,hz,h3⟩|⟨⟨x,e⟩,h3⟩
   ·rw[e,ob];exact .inr ⟨_,rfl,.inl ⟨rfl,y,hym,z,hz,h3⟩⟩
   ·rw[e,ob];refine .inl ⟨⟨((i+1:Nat):Int)⟩,?_,⟨i+1,rfl,by omega,fun q w hq hw=>?_⟩,by simp only;omega⟩
    ·rw[ah (n:=i)];rfl
    ·by_cases e2:q=i
     ·subst e2;rw[hy]at hw;rw[<-Option.some.inj hw];exact h3
     ·exact h2 q w (by omega) hw
  ·rw[aR (show¬(i:Int)<(l.length:Int) by omega),cf];refine .inr ⟨_,rfl,.inr ⟨⟨_,rfl⟩,?_⟩⟩;rintro⟨y,hy,z,hz,h3⟩;obtain⟨q,hq⟩:=getElem?_of_mem hy;obtain⟨k,hk⟩:=getElem?_of_mem hz;have hql:=(List.getElem?_eq_some_iff.1 hq).1;have hkl:=(List.getElem?_eq_some_iff.1 hk).1;obtain⟨a1,a2,a3,a4,a5⟩:=h3;by_cases e:k=q
   ·subst e;rw[hq]at hk;exact a5 (by rw[Option.some.inj hk])
   ·by_cases e2:k<q
    ·exact h2 q y (by omega) hq k z e2 hk ⟨a1,a2,a3,a4,a5⟩
    ·exact h2 k z (by omega) hk q y (by omega) hq ⟨a2,a1,a4,a3,fun e3=>a5 e3.symm⟩) (n:=aY) (x:=⟨0⟩) ⟨0,rfl,by omega,fun q y hq=>by omega⟩ (cj (by simp only;omega))
 unfold yA;rw[hb,ob];rcases h with⟨rfl,h⟩|⟨⟨x,rfl⟩,h⟩
 ·rw[aQ h];rfl
 ·rw[aR h];rfl
theorem Dg {α:Type}{p:α->Bool}{l:List α}{k:Nat}{y:α}(hy:l[k]?=some y)(hp:p y=true)(h:∀j z,j<k->l[j]?=some z->p z=false):l.find? p=some y:=by
 rw[List.find?_eq_some_iff_append];refine⟨hp,l.take k,l.drop (k+1),?_,fun a ha=>?_⟩
 ·have hk:=(List.getElem?_eq_some_iff.1 hy).1;have h2:=List.drop_eq_getElem_cons hk;rw[(List.getElem?_eq_some_iff.1 hy).2]at h2;rw[<-h2,List.take_append_drop]
 ·obtain⟨j,hj⟩:=getElem?_of_mem ha;have hjl:=(List.getElem?_eq_some_iff.1 hj).1;rw[length_take]at hjl;rw[getElem?_take_of_lt (by omega)]at hj;rw[h j a (by omega) hj];rfl
def ti (slot w:Int)(v:Vt):Bool:=decide (v.From=w/\v.Slot=slot)
theorem H7 {l:List Vt}(hl:l.length<=90000){r:List Int}{i:Nat}{w:Int}(hw:r[i]?=some w){out:List Vt}(ho:out.length<=100000)(o0:List Vt) :
  ∃x:gI,iter (nk l slot r ⟨(i:Int),o0⟩) aY ⟨0,out⟩=some x/\x.out=out++(l.find? (ti slot w)).toList:=by
 obtain⟨b,hb,h⟩:=bw (step:=nk l slot r ⟨(i:Int),o0⟩) (fun x=>∃k:Nat,x.k=k/\k<=l.length/\x.out=out/\∀j z,j<k->l[j]?=some z->ti slot w z=false) (fun x=>l.length-x.k.toNat) (fun b=>b.out=out++(l.find? (ti slot w)).toList) (by
  rintro⟨t,o⟩ ⟨k,ht,h1,h2,h3⟩;simp only at ht h2;subst ht h2;unfold nk;simp only;by_cases hlt:k<l.length
  ·obtain⟨y,hy,-⟩:=aA hlt
   have hg:(bif y.From==w then some (y.Slot==slot)else some false)=some (ti slot w y):=by
    unfold ti;by_cases h4:y.From=w
    ·by_cases h5:y.Slot=slot
     ·simp[h4,h5]
     ·rw[LM h5];simp[h4,h5]
    ·rw[LM h4];simp[h4]
   rw[eN,aw hy,aw hw];simp only[bind_some];rw[hg,ob]
   cases hp:ti slot w y with
   |true=>
    rw[ct,aC (by simp only[length_singleton];omega),ct,Dg hy hp h3];exact .inr ⟨_,rfl,rfl⟩
   |false=>
    rw[cf,ah (n:=k)];refine .inl ⟨_,rfl,⟨k+1,rfl,by omega,rfl,fun j z hj hz=>?_⟩,by simp only;omega⟩;by_cases e:j=k
    ·subst e;rw[hy]at hz;rw[<-Option.some.inj hz];exact hp
    ·exact h3 j z (by omega) hz
  ·rw[aR (show¬(k:Int)<(l.length:Int) by omega),cf];refine .inr ⟨_,rfl,?_⟩
   have:l.find? (ti slot w)=none:=by
    rw[List.find?_eq_none];intro z hz;obtain⟨j,hj⟩:=getElem?_of_mem hz;rw[h3 j z (by have:=(List.getElem?_eq_some_iff.1 hj).1;omega) hj];simp
   rw[this]
   simp) (n:=aY) (x:=⟨0,out⟩) ⟨0,rfl,by omega,rfl,fun j z hj=>by omega⟩ (cj (by simp only;omega))
 exact⟨b,hb,h⟩
theorem EO (l:List Vt)(slot:Int):(uU l slot).Nodup:=by
 unfold uU;rw[(cO _).nodup_iff];have hk:=(oK l).1;unfold List.Nodup at hk⊢;rw[List.pairwise_map]at hk;rw[List.pairwise_filterMap];refine hk.imp fun {a b} hab x hx y hy e=>hab ?_;subst e;unfold hZ at hx hy;split at hx
 ·rename_i h1;split at hy
  ·rename_i h2;have e1:=Option.some.inj hx;have e2:=Option.some.inj hy
   have h3:a.1.frm=b.1.frm:=by rw[<-e2]at e1;exact congrArg Vt.From e1
   have h4:a.1.slot=b.1.slot:=h1.1.trans h2.1.symm;cases ha:a.1;cases hb:b.1;rw[ha,hb]at h3 h4;simp only at h3 h4;rw[h3,h4]
  ·cases hy
 ·cases hx
open Classical in
theorem Ge {l:List Vt}(hl:l.length<=30000)(slot:Int):yw l slot=some (uU l slot):=by
 obtain⟨r,hr,r1,r2,r3⟩:=Gh (l:=l) (by omega);obtain⟨val,hval⟩:∃val:Int->Option Vt,val=fun w=>if M4 l slot w then none else l.find? (ti slot w):=⟨_,rfl⟩
 have hv:∀w x,val w=some x↔x∈uU l slot/\x.From=w:=by
  intro w x;rw[hval,H6];simp only;constructor
  ·intro h;split at h
   ·cases h
   ·rename_i hd;have h1:=List.find?_some h;have h2:=List.mem_of_find?_eq_some h;obtain⟨h3,h4⟩:=of_decide_eq_true h1;refine⟨⟨h2,h4,fun y hy e=>?_⟩,h3⟩;by_cases h5:y.Head=x.Head
    ·exact h5
    ·have e1:y.From=x.From:=congrArg Du.frm e;have e2:y.Slot=x.Slot:=congrArg Du.slot e;exact absurd ⟨y,hy,x,h2,by rw[e1,h3],h3,by rw[e2,h4],h4,h5⟩ hd
  ·rintro⟨⟨h1,h2,h3⟩,h4⟩
   have hsame:∀y∈l,ti slot w y=true->y=x:=by
    intro y hy hp;obtain⟨h5,h6⟩:=of_decide_eq_true hp
    have hd:qG y=qG x:=by unfold qG;rw[h5,h6,h4,h2]
    exact IC hd<|h3 y hy hd
   rw[i0_]
   ·cases hf:l.find? (ti slot w)with
    |none=>
     rw[List.find?_eq_none]at hf;exact absurd (aQ ⟨h4,h2⟩)<|hf x h1
    |some y=>rw[hsame y (List.mem_of_find?_eq_some hf) (List.find?_some hf)]
   ·rintro⟨y,hy,z,hz,a1,a2,a3,a4,a5⟩;exact a5 (by rw[hsame y hy (aQ ⟨a1,a3⟩),hsame z hz (aQ ⟨a2,a4⟩)])
 have hlen:∀j,((r.take j).filterMap val).length<=j:=fun j=>Nat.le_trans (List.length_filterMap_le _ _) (by rw[length_take];omega)
 have e:=av (step:=li l slot r) (n:=r.length) (fun j=>eA.mk (j:Int) ((r.take j).filterMap val)) (eA.mk (r.length:Int) (r.filterMap val)) (fun j hj=>by
  obtain⟨w,hw,-⟩:=aA hj;have hj2:=hlen j;unfold li;simp only;rw[eN,aw hw,ob,Gi (by omega),ob,aM hw,List.filterMap_append,ah (n:=j)];by_cases hd:M4 l slot w
  ·rw[aQ hd,ct,show[w].filterMap val=[] by rw[hval];simp[hd],append_nil]
  ·obtain⟨x,hx,hx2⟩:=H7 (l:=l) (by omega) (slot:=slot) hw (out:=(r.take j).filterMap val) (by omega) ((r.take j).filterMap val)
   rw[aR hd,cf,hx,ob,hx2,show[w].filterMap val=(l.find? (ti slot w)).toList by rw[hval];simp only[List.filterMap_cons,i0_ hd,List.filterMap_nil];cases l.find? (ti slot w) <;>rfl]) (by
  unfold li;simp only
  rw[gt,take_length]) (by omega)
 have e':iter (li l slot r) aY (eA.mk 0 [])=_:=e;unfold yw;rw[hr,ob,e',ob]
 have hone:∀x∈r.filterMap val,∀y∈r.filterMap val,x.From=y.From->x=y:=by
  intro x hx y hy e;obtain⟨a,-,ha⟩:=List.mem_filterMap.1 hx;obtain⟨b,-,hb⟩:=List.mem_filterMap.1 hy;have h1:=((hv a x).1 ha).2;have h2:=((hv b y).1 hb).2;rw[<-h1,e,h2,hb]at ha;exact(Option.some.inj ha).symm
 have hup:(r.filterMap val).Pairwise fun x y=>x.From<y.From:=by
  rw[List.pairwise_filterMap]
  exact r1.imp fun {a b} hab x hx y hy=>by rw[((hv a x).1 hx).2,((hv b y).1 hy).2];exact hab
 have hnd:(r.filterMap val).Nodup:=hup.imp fun {a b} h e=>by rw[e]at h;omega
 have hperm:(r.filterMap val).Perm (uU l slot):=by
  rw[List.perm_ext_iff_of_nodup hnd (EO l slot)];intro x;rw[List.mem_filterMap];constructor
  ·rintro⟨w,-,hw⟩;exact((hv w x).1 hw).1
  ·intro hx;exact⟨x.From,(r2 _).2 ⟨x,(H6.1 hx).1,rfl⟩,(hv _ x).2 ⟨hx,rfl⟩⟩
 have:=rp hperm (hup.imp fun {a b} h=>by show a.From<=b.From;omega) (kd _) hone;exact congrArg some this
theorem yt (hW:c.W.length<=1000)(hv:v.length<=30000)(slot:Int):vR c v slot=some (dG c v slot):=by
 have ho:=B7 v slot;have hc:=rU c slot
 have e:=av (step:=lh (uU v slot) (nG c slot)) (n:=(uU v slot).length) (fun k=>fd.mk (k:Int) (((uU v slot).take k).filter (wv (nG c slot)))) (fd.mk ((uU v slot).length:Int) (dG c v slot)) (fun k hk=>by
  obtain⟨y,hy,-⟩:=aA hk;have hlen:=bU (p:=wv (nG c slot)) (l:=uU v slot) k;unfold lh;simp only;rw[aQ (show(k:Int)<((uU v slot).length:Int) by omega),ct,aw hy,ob,pu,ob,bg hy,ah (n:=k)];show(bif wv (nG c slot) y then _ else _)=_
  cases wv (nG c slot) y with
  |true=>rw[ct,ob,aC (by simp only[length_singleton];omega),ct,ct]
  |false=>rw[cf,cf,append_nil]) (by
  unfold lh;simp only
  rw[aR (show¬((uU v slot).length:Int)<((uU v slot).length:Int) by omega),cf,take_length];rfl) (by omega)
 have e':iter (lh (uU v slot) (nG c slot)) aY (fd.mk 0 [])=_:=e;unfold vR;rw[Ge hv,ob,Bt hW,ob,e',ob]
theorem tT (hW:c.W.length<=1000)(hb:kZ w.B)(h1:w.B.length<=1000)(h2:w.V.length<=1000)(slot:Int):tS c w slot=some (g0 c w.B (dG c w.V slot)):=by
 have hg:=qQ c w.V slot;unfold tS;rw[yt hW (by omega),ob,Lt hb hW h1 (by omega),ob]
structure cV where
 any:Bool
 i:Int
 o5:List Bk
 o7:List ID
 x_5:Bool
 left:List Bk
def ic (upto:Int)(lB:List Bk)(x1:cV):Option (cV⊕cV):=bif decide (x1.i<(lB.length:Int))then (ix lB x1.i).bind fun y1=>(Km y1).bind fun v2=>(tU x1.o5 x1.o7 y1.Parent).bind fun v3=>((vS x1.o7 v2).bind fun v5=>bif decide (v5>=0)then some true else some (decide (v3>=y1.Slot))).bind fun v4=>bif v4 then some (.inl (cV.mk x1.any (i64.wrap (x1.i+1)) x1.o5 x1.o7 x1.x_5 x1.left))else (bif decide (v3<0)then some true else some (decide (y1.Slot>upto))).bind fun v6=>bif v6 then bif bG x1.left.length [y1].length 40 then some (.inl (cV.mk x1.any (i64.wrap (x1.i+1)) x1.o5 x1.o7 x1.x_5 (x1.left++[y1])))else none else bif decide ((x1.o5.length:Int)>=60)then bif bG x1.left.length [y1].length 40 then some (.inl (cV.mk x1.any (i64.wrap (x1.i+1)) x1.o5 x1.o7 true (x1.left++[y1])))else none else bif bG x1.o5.length [y1].length 40 then bif bG x1.o7.length [v2].length 16 then some (.inl (cV.mk true (i64.wrap (x1.i+1)) (x1.o5++[y1]) (x1.o7++[v2]) x1.x_5 x1.left))else none else none else some (.inr (cV.mk x1.any x1.i x1.o5 x1.o7 x1.x_5 x1.left))
def qw (upto:Int)(wB:List Bk)(lB:List Bk)(nms:List ID)(full:Bool):Option (Bool×List Bk×List Bk×List ID×Bool):=(iter (ic upto lB) aY (cV.mk false 0 wB nms full ([]:List Bk))).bind fun v1=>some (v1.any,v1.left,v1.o5,v1.o7,v1.x_5)
theorem Hl {lB:List Bk}{lV:List Vt}{inp:Vw}{r_:Bool×List Bk×List Bk×List ID×Bool}(h:qw upto wB lB nms full=some r_):LC prog 170 [.ptr 8 0,(iQ upto)] [.dead,.dead,.box (cE inp),.box [.zs,.zs],.box [.zs,.zs],.vec 5 (wB.map ay),.vec 4 (wV.map aO),.vec 2 (nms.map aX),.box [(jB 5 wB),(jV 6 wV),(kB lB),(kV lV),.vec 2 7 (nms.map aX).length 0 (nms.map aX).length,(bQ full)]] (Is (bQ r_.1) [.dead,.dead,.box (cE inp),.box [.zs,.zs],.box [.zs,.zs],.vec 5 (r_.2.2.1.map ay),.vec 4 (wV.map aO),.vec 2 (r_.2.2.2.1.map aX),.box [(jB 5 r_.2.2.1),(jV 6 wV),(kB r_.2.1),(kV lV),.vec 2 7 (r_.2.2.2.1.map aX).length 0 (r_.2.2.2.1.map aX).length,(bQ r_.2.2.2.2)]]):=by
 refine eP Tryz.func170 Z Z Z ?_;unfold qw at h;refine qR<|mN Z<|qR<|mN Z<|qR<|mN Z<|zQ<|qR<|mN Z<|LW.ent (bW.lazy (t:=5) (m:=5) Z Z Z) ?_;obtain⟨v1,p1,b1⟩:=zB h;clear h;refine LW.tail (E:=[(0,.ptr 8 0),(4,(bQ false)),(5,(jB 9 v1.left)),(6,(bQ v1.any))]) (O:=[.dead,.dead,.box (cE inp),.box [.zs,.zs],.box [.zs,.zs],.vec 5 (v1.o5.map ay),.vec 4 (wV.map aO),.vec 2 (v1.o7.map aX),.box [(jB 5 v1.o5),(jV 6 wV),(kB lB),(kV lV),.vec 2 7 (v1.o7.map aX).length 0 (v1.o7.map aX).length,(bQ v1.x_5)],.vec 5 (v1.left.map ay)]) ?_<|fun e1 K1 u1=>?_
 ·refine LW.block ?_;refine LW.iterB (E:=fun x1:cV=>[(0,.ptr 8 0),(1,(iQ upto)),(4,(bQ false)),(5,(jB 9 x1.left)),(6,(bQ x1.any)),(7,(iQ x1.i))]) (O:=fun x1=>[.dead,.dead,.box (cE inp),.box [.zs,.zs],.box [.zs,.zs],.vec 5 (x1.o5.map ay),.vec 4 (wV.map aO),.vec 2 (x1.o7.map aX),.box [(jB 5 x1.o5),(jV 6 wV),(kB lB),(kV lV),.vec 2 7 (x1.o7.map aX).length 0 (x1.o7.map aX).length,(bQ x1.x_5)],.vec 5 (x1.left.map ay)]) p1 (au 10 ⟨Z,Z,Z,Z,Z,Z,t_⟩)<|fun x1 z1 h m1=>?_;unfold ic at h;refine zQ<|qR<|zM Z<|zM Z<|yS Z (zn Z Z)<|yS Z (zA Z Z jT)<|yS Z (zA Z Z aL)<|yS Z (zD Z Z Z bL Z Z)<|yS Z (cx Z Z)<|yS Z (am Z Z Z Z)<|nT ?_;refine zX Z (fun g1=>?_)<|fun g1=>?_
  ·refine zi g1 h fun h=>zk<|zT<|zQ<|zl<|qR<|zM Z<|yS Z (zn Z Z)<|yS Z (zA Z Z jT)<|yS Z (zA Z Z aL)<|yS Z (zD Z Z Z bL Z Z)<|zM Z<|zb h fun y1 j1 h=>yS Z (zx Z Z Z cp j1 Z)<|yS Z (bS Z Z Z ca Z Z)<|yS Z (ze Z vt Z Z)<|yS Z (zs Z Z Z Z ca Z Z Z Z)<|nT<|qR<|yS Z (zD Z Z Z ca Z Z)<|zb h fun v2 a2 h=>yS Z (yP Z Z Z (P3 a2) dB)<|yS Z (ze Z gT Z Z)<|yS Z (zs Z Z Z Z aG Z Z Z Z)<|nT<|zQ<|dy<|zH Z<|yE Z (zn Z Z)<|yE Z (zA Z Z f8)<|yE Z (zA Z Z aL)<|yE Z (zD Z Z Z bL Z Z)<|zH Z<|yE Z (zn Z Z)<|yE Z (zA Z Z nJ)<|yE Z (zD Z Z Z Iz Z Z)<|yE Z (zA Z Z gv)<|yE Z (zD Z Z Z aG Z Z)<|zb h fun v3 a3 h=>yE Z (zC Z Z Z (by kernel_rfl) (LC.lend (Hh a3) (.cons (Conv.vecAll Z Z Z) (.cons (Conv.vecAll Z Z Z) dB)) Z))<|zH Z<|LO.nil<|zT<|zQ ?_;obtain⟨v4,p4,b4⟩:=zB h;clear h;refine LW.cut (E:=[(0,.ptr 8 0),(1,(iQ upto)),(4,(bQ false)),(5,(jB 9 x1.left)),(6,(bQ x1.any)),(7,(iQ x1.i)),(8,.ptr 10 0),(9,.ptr 11 0),(10,(iQ v3)),(55,(bQ v4))]) (O:=[.dead,.dead,.box (cE inp),.box [.zs,.zs],.box [.zs,.zs],.vec 5 (x1.o5.map ay),.vec 4 (wV.map aO),.vec 2 (x1.o7.map aX),.box [(jB 5 x1.o5),(jV 6 wV),(kB lB),(kV lV),.vec 2 7 (x1.o7.map aX).length 0 (x1.o7.map aX).length,(bQ x1.x_5)],.vec 5 (x1.left.map ay),.box [(iQ y1.Slot),(iQ y1.From),(uQ y1.Parent.1),(uQ y1.Parent.2),(uQ y1.Salt)],.box [(uQ v2.1),(uQ v2.2)]]) ?_ ?_
   ·have h:=p4;refine dy<|zH Z<|yE Z (zn Z Z)<|yE Z (zA Z Z nJ)<|yE Z (zD Z Z Z Iz Z Z)<|yE Z (zD Z Z Z aG Z Z)<|zb h fun v5 a5 h=>yE Z (yC Z Z Z (LC.lend (KE a5) (.cons (Conv.vecAll Z Z Z) dB) Z))<|yE Z (am Z Z Z Z)<|zH Z ?_;refine LO.cases 50 Z (fun(g2:(decide (v5>=0))=true)=>?_) (fun(g2:(decide (v5>=0))=false)=>?_)
    ·refine zi g2 h fun h=>yK Z (gd g2 Z) Z<|yK Z (gd g2 Z) Z<|yK Z (gd g2 Z) Z<|yK Z (gd g2 Z) Z<|yE Z (bA Z (aK g2 Z) Z)<|LO.nil<|zT ?_;cases h;exact au 12 ⟨Z,Z,Z,Z,Z,Z,Z,Z,Z,Z,t_⟩
    ·refine zo g2 h fun h=>yL Z (gd g2 Z) (zm Z Z)<|yL Z (gd g2 Z) (zA Z Z fK)<|yL Z (gd g2 Z) (zD Z Z Z aV Z Z)<|yL Z (gd g2 Z) (am Z Z Z Z)<|yE Z (aU Z (aK g2 Z) Z)<|LO.nil<|zT ?_;cases h;exact au 12 ⟨Z,Z,Z,Z,Z,Z,Z,Z,Z,Z,t_⟩
   ·have h:=b4;clear p4;refine zX Z (fun g3=>?_)<|fun g3=>?_
    ·refine zi g3 h fun h=>zq<|aj<|zy<|zT<|zR<|zM Z<|yS Z (am Z Z Z Z)<|mN Z ?_;cases h;exact⟨_,rfl,au 10 ⟨Z,Z,Z,Z,Z,Z,t_⟩⟩
    ·refine zo g3 h fun h=>zk<|zT<|zQ ?_;obtain⟨v6,p6,b6⟩:=zB h;clear h;refine LW.cut (E:=[(0,.ptr 8 0),(1,(iQ upto)),(4,(bQ false)),(5,(jB 9 x1.left)),(6,(bQ x1.any)),(7,(iQ x1.i)),(8,.ptr 10 0),(9,.ptr 11 0),(63,(bQ v6))]) (O:=[.dead,.dead,.box (cE inp),.box [.zs,.zs],.box [.zs,.zs],.vec 5 (x1.o5.map ay),.vec 4 (wV.map aO),.vec 2 (x1.o7.map aX),.box [(jB 5 x1.o5),(jV 6 wV),(kB lB),(kV lV),.vec 2 7 (x1.o7.map aX).length 0 (x1.o7.map aX).length,(bQ x1.x_5)],.vec 5 (x1.left.map ay),.box [(iQ y1.Slot),(iQ y1.From),(uQ y1.Parent.1),(uQ y1.Parent.2),(uQ y1.Salt)],.box [(uQ v2.1),(uQ v2.2)]]) ?_ ?_
     ·have h:=p6;refine zR<|zM Z<|yS Z (am Z Z Z Z)<|zM Z ?_;refine zc 58 Z (fun g4=>?_)<|fun g4=>?_
      ·refine zi g4 h fun h=>yU Z (gd g4 Z) Z<|yU Z (gd g4 Z) Z<|yU Z (gd g4 Z) Z<|yU Z (gd g4 Z) Z<|yS Z (bA Z (aK g4 Z) Z)<|nT ?_;cases h;exact au 12 ⟨Z,Z,Z,Z,Z,Z,Z,Z,Z,t_⟩
      ·refine zo g4 h fun h=>yV Z (gd g4 Z) (zA Z Z fK)<|yV Z (gd g4 Z) (zD Z Z Z aV Z Z)<|yV Z (gd g4 Z) (zm Z Z)<|yV Z (gd g4 Z) (am Z Z Z Z)<|yS Z (aU Z (aK g4 Z) Z)<|nT ?_;cases h;exact au 12 ⟨Z,Z,Z,Z,Z,Z,Z,Z,Z,t_⟩
     ·have h:=b6;clear p6;refine zX Z (fun g5=>?_)<|fun g5=>?_
      ·refine zi g5 h fun h=>qR<|zM Z<|yS Z (zD Z Z Z ca Z Z)<|yS Z (gU Z cp Z Z Z Z Z)<|zg h fun q1 h=>yS Z (aa.appendX ay x1.left [y1] rfl Z Z Z iC.p Z cp q1 Z)<|mN Z<|zq<|aj<|zy<|zT<|zR<|zM Z<|yS Z (am Z Z Z Z)<|mN Z ?_;cases h;exact⟨_,rfl,au 10 ⟨Z,Z,Z,Z,Z,Z,t_⟩⟩
      ·refine zo g5 h fun h=>zk<|zT<|zQ<|qR<|zM Z<|yS Z (zn Z Z)<|yS Z (zA Z Z f8)<|yS Z (zA Z Z aL)<|yS Z (zD Z Z Z bL Z Z)<|yS Z (aa.lenVM Z Z Z (by kernel_rfl))<|yS Z (am Z Z Z Z)<|nT ?_;refine zX Z (fun g6=>?_)<|fun g6=>?_
       ·refine zi g6 h fun h=>qR<|zM Z<|yS Z (zn Z Z)<|yS Z (zA Z Z uD)<|yS Z (zs Z Z Z Z vo Z Z Z Z)<|nT<|qR<|zM Z<|yS Z (zD Z Z Z ca Z Z)<|yS Z (gU Z cp Z Z Z Z Z)<|zg h fun q2 h=>yS Z (aa.appendX ay x1.left [y1] rfl Z Z Z iC.p Z cp q2 Z)<|mN Z<|zq<|aj<|zy<|zT<|zR<|zM Z<|yS Z (am Z Z Z Z)<|mN Z ?_;cases h;exact⟨_,rfl,au 10 ⟨Z,Z,Z,Z,Z,Z,t_⟩⟩
       ·refine zo g6 h fun h=>zk<|zT<|zQ<|fC<|zK Z<|zK Z<|yG Z (fun H _=>zn Z Z)<|yG Z (fun H _=>zA Z Z f8)<|yG Z (fun H _=>zA Z Z aL)<|yF Z (zd Z Z Z bL Z Z) Z<|yF Z (zd Z Z Z ca Z Z) Z<|yG Z (fun H _=>gU Z cp Z Z Z Z Z)<|zg h fun q3 h=>yF Z (ch.appendX ay x1.o5 [y1] rfl Z Z Z Z cp q3) Z<|yG Z (fun H _=>zn Z Z)<|yG Z (fun H _=>zA Z Z f8)<|yG Z (fun H _=>zA Z Z aL)<|yF Z (zt Z Z Z Z bL Z Z Z) Z ?_;refine LF.nil ⟨by kernel_rfl,?_⟩;refine zT<|zQ<|fC<|zK Z<|zK Z<|yG Z (fun H _=>zn Z Z)<|yG Z (fun H _=>zA Z Z nJ)<|yF Z (zd Z Z Z Iz Z Z) Z<|yF Z (zd Z Z Z aG Z Z) Z<|yG Z (fun H _=>gU Z fH Z Z Z Z Z)<|zg h fun q4 h=>yF Z (ch.appendX aX x1.o7 [v2] rfl Z Z Z Z fH q4) Z<|yG Z (fun H _=>zn Z Z)<|yG Z (fun H _=>zA Z Z nJ)<|yF Z (zt Z Z Z Z Iz Z Z Z) Z ?_;refine LF.nil ⟨by kernel_rfl,?_⟩;refine zT<|zR<|zM Z<|zN<|ae<|zT<|zR<|zM Z<|yS Z (am Z Z Z Z)<|mN Z ?_;cases h;exact⟨_,rfl,au 10 ⟨Z,Z,Z,Z,Z,Z,t_⟩⟩
  ·refine zo g1 h fun h=>zq<|aj<|aj<|zy<|zT ?_;cases h;obtain rfl:=(m1 _ rfl);exact au 10 ⟨Z,Z,Z,Z,t_⟩
 ·have h:=b1;clear p1;refine zT<|LW.weak u1<|zQ<|LW.ent (bW.frz (t:=5) (env':=[(0,.ptr 8 0),(4,(bQ false)),(6,(bQ v1.any))]) (H0:=[.dead,.dead,.box (cE inp),.box [.zs,.zs],.box [.zs,.zs],.vec 5 (v1.o5.map ay),.vec 4 (wV.map aO),.vec 2 (v1.o7.map aX),.box [(jB 5 v1.o5),(jV 6 wV),(kB lB),(kV lV),.vec 2 7 (v1.o7.map aX).length 0 (v1.o7.map aX).length,(bQ v1.x_5)]]) Z Z Z Z Z ⟨Z,Z,Z,t_⟩ Z Z)<|zR<|zM Z<|zM Z<|yS Z (zn Z Z)<|yS Z (zA Z Z jT)<|yS Z (zA Z Z aL)<|yS Z (zs Z Z Z Z bL Z Z Z Z)<|nT<|qR<|zM Z<|mN Z<|zr ?_;cases h;exact aD (.one (.tmp Z))<|⟨rfl,rfl⟩
structure cJ where
 any:Bool
 i:Int
 o6:List Vt
 x_5:Bool
 left:List Vt
def gz (upto:Int)(wB:List Bk)(lV:List Vt)(nms:List ID)(x1:cJ):Option (cJ⊕cJ):=bif decide (x1.i<(lV.length:Int))then (ix lV x1.i).bind fun y1=>(tU wB nms y1.Head).bind fun v2=>((Br x1.o6 y1).bind fun v4=>bif decide (v4>0)then some true else some (decide (v2>y1.Slot))).bind fun v3=>bif v3 then some (.inl (cJ.mk x1.any (i64.wrap (x1.i+1)) x1.o6 x1.x_5 x1.left))else (bif decide (v2<0)then some true else some (decide (y1.Slot>upto))).bind fun v5=>bif v5 then bif bG x1.left.length [y1].length 32 then some (.inl (cJ.mk x1.any (i64.wrap (x1.i+1)) x1.o6 x1.x_5 (x1.left++[y1])))else none else bif decide ((x1.o6.length:Int)>=240)then bif bG x1.left.length [y1].length 32 then some (.inl (cJ.mk x1.any (i64.wrap (x1.i+1)) x1.o6 true (x1.left++[y1])))else none else bif bG x1.o6.length [y1].length 32 then some (.inl (cJ.mk true (i64.wrap (x1.i+1)) (x1.o6++[y1]) x1.x_5 x1.left))else none else some (.inr (cJ.mk x1.any x1.i x1.o6 x1.x_5 x1.left))
def ns (upto:Int)(wB:List Bk)(wV:List Vt)(lV:List Vt)(nms:List ID)(full:Bool):Option (Bool×List Vt×List Vt×Bool):=(iter (gz upto wB lV nms) aY (cJ.mk false 0 wV full ([]:List Vt))).bind fun v1=>some (v1.any,v1.left,v1.o6,v1.x_5)
theorem Es {lB:List Bk}{lV:List Vt}{inp:Vw}{r_:Bool×List Vt×List Vt×Bool}(h:ns upto wB wV lV nms full=some r_):LC prog 171 [.ptr 8 0,(iQ upto)] [.dead,.dead,.box (cE inp),.box [.zs,.zs],.box [.zs,.zs],.vec 5 (wB.map ay),.vec 4 (wV.map aO),.vec 2 (nms.map aX),.box [(jB 5 wB),(jV 6 wV),(kB lB),(kV lV),.vec 2 7 (nms.map aX).length 0 (nms.map aX).length,(bQ full)]] (Is (bQ r_.1) [.dead,.dead,.box (cE inp),.box [.zs,.zs],.box [.zs,.zs],.vec 5 (wB.map ay),.vec 4 (r_.2.2.1.map aO),.vec 2 (nms.map aX),.box [(jB 5 wB),(jV 6 r_.2.2.1),(kB lB),(kV r_.2.1),.vec 2 7 (nms.map aX).length 0 (nms.map aX).length,(bQ r_.2.2.2)]]):=by
 refine eP Tryz.func171 Z Z Z ?_;unfold ns at h;refine qR<|mN Z<|qR<|mN Z<|qR<|mN Z<|zQ<|qR<|mN Z<|LW.ent (bW.lazy (t:=5) (m:=4) Z Z Z) ?_;obtain⟨v1,p1,b1⟩:=zB h;clear h;refine LW.tail (E:=[(0,.ptr 8 0),(4,(bQ false)),(5,(jV 9 v1.left)),(6,(bQ v1.any))]) (O:=[.dead,.dead,.box (cE inp),.box [.zs,.zs],.box [.zs,.zs],.vec 5 (wB.map ay),.vec 4 (v1.o6.map aO),.vec 2 (nms.map aX),.box [(jB 5 wB),(jV 6 v1.o6),(kB lB),(kV lV),.vec 2 7 (nms.map aX).length 0 (nms.map aX).length,(bQ v1.x_5)],.vec 4 (v1.left.map aO)]) ?_<|fun e1 K1 u1=>?_
 ·refine LW.block ?_;refine LW.iterB (E:=fun x1:cJ=>[(0,.ptr 8 0),(1,(iQ upto)),(4,(bQ false)),(5,(jV 9 x1.left)),(6,(bQ x1.any)),(7,(iQ x1.i))]) (O:=fun x1=>[.dead,.dead,.box (cE inp),.box [.zs,.zs],.box [.zs,.zs],.vec 5 (wB.map ay),.vec 4 (x1.o6.map aO),.vec 2 (nms.map aX),.box [(jB 5 wB),(jV 6 x1.o6),(kB lB),(kV lV),.vec 2 7 (nms.map aX).length 0 (nms.map aX).length,(bQ x1.x_5)],.vec 4 (x1.left.map aO)]) p1 (au 10 ⟨Z,Z,Z,Z,Z,Z,t_⟩)<|fun x1 z1 h m1=>?_;unfold gz at h;refine zQ<|qR<|zM Z<|zM Z<|yS Z (zn Z Z)<|yS Z (zA Z Z jT)<|yS Z (zA Z Z aS)<|yS Z (zD Z Z Z cq Z Z)<|yS Z (cx Z Z)<|yS Z (am Z Z Z Z)<|nT ?_;refine zX Z (fun g1=>?_)<|fun g1=>?_
  ·refine zi g1 h fun h=>zk<|zT<|zQ<|zl<|qR<|zM Z<|yS Z (zn Z Z)<|yS Z (zA Z Z jT)<|yS Z (zA Z Z aS)<|yS Z (zD Z Z Z cq Z Z)<|zM Z<|zb h fun y1 j1 h=>yS Z (zx Z Z Z bz j1 Z)<|yS Z (bS Z Z Z cz Z Z)<|yS Z (ze Z vu Z Z)<|yS Z (zs Z Z Z Z cz Z Z Z Z)<|nT<|zQ<|dy<|zH Z<|yE Z (zn Z Z)<|yE Z (zA Z Z f8)<|yE Z (zA Z Z aL)<|yE Z (zD Z Z Z bL Z Z)<|zH Z<|yE Z (zn Z Z)<|yE Z (zA Z Z nJ)<|yE Z (zD Z Z Z Iz Z Z)<|yE Z (zA Z Z i9)<|yE Z (zD Z Z Z aG Z Z)<|zb h fun v2 a2 h=>yE Z (zC Z Z Z (by kernel_rfl) (LC.lend (Hh a2) (.cons (Conv.vecAll Z Z Z) (.cons (Conv.vecAll Z Z Z) dB)) Z))<|zH Z<|LO.nil<|zT<|zQ ?_;obtain⟨v3,p3,b3⟩:=zB h;clear h;refine LW.cut (E:=[(0,.ptr 8 0),(1,(iQ upto)),(4,(bQ false)),(5,(jV 9 x1.left)),(6,(bQ x1.any)),(7,(iQ x1.i)),(8,.ptr 10 0),(9,(iQ v2)),(53,(bQ v3))]) (O:=[.dead,.dead,.box (cE inp),.box [.zs,.zs],.box [.zs,.zs],.vec 5 (wB.map ay),.vec 4 (x1.o6.map aO),.vec 2 (nms.map aX),.box [(jB 5 wB),(jV 6 x1.o6),(kB lB),(kV lV),.vec 2 7 (nms.map aX).length 0 (nms.map aX).length,(bQ x1.x_5)],.vec 4 (x1.left.map aO),.box [(iQ y1.From),(iQ y1.Slot),(uQ y1.Head.1),(uQ y1.Head.2)]]) ?_ ?_
   ·have h:=p3;refine dy<|zH Z<|yE Z (zn Z Z)<|yE Z (zA Z Z f8)<|yE Z (zA Z Z aS)<|yE Z (zD Z Z Z cq Z Z)<|yE Z (zD Z Z Z cz Z Z)<|zb h fun v4 a4 h=>yE Z (yC Z Z Z (LC.lend (L1 a4) (.cons (Conv.vecAll Z Z Z) dB) Z))<|yE Z (am Z Z Z Z)<|zH Z ?_;refine LO.cases 48 Z (fun(g2:(decide (v4>0))=true)=>?_) (fun(g2:(decide (v4>0))=false)=>?_)
    ·refine zi g2 h fun h=>yK Z (gd g2 Z) Z<|yK Z (gd g2 Z) Z<|yK Z (gd g2 Z) Z<|yK Z (gd g2 Z) Z<|yE Z (bA Z (aK g2 Z) Z)<|LO.nil<|zT ?_;cases h;exact au 11 ⟨Z,Z,Z,Z,Z,Z,Z,Z,Z,t_⟩
    ·refine zo g2 h fun h=>yL Z (gd g2 Z) (zm Z Z)<|yL Z (gd g2 Z) (zA Z Z i8)<|yL Z (gd g2 Z) (zD Z Z Z aV Z Z)<|yL Z (gd g2 Z) (am Z Z Z Z)<|yE Z (aU Z (aK g2 Z) Z)<|LO.nil<|zT ?_;cases h;exact au 11 ⟨Z,Z,Z,Z,Z,Z,Z,Z,Z,t_⟩
   ·have h:=b3;clear p3;refine zX Z (fun g3=>?_)<|fun g3=>?_
    ·refine zi g3 h fun h=>zq<|aj<|zy<|zT<|zR<|zM Z<|yS Z (am Z Z Z Z)<|mN Z ?_;cases h;exact⟨_,rfl,au 10 ⟨Z,Z,Z,Z,Z,Z,t_⟩⟩
    ·refine zo g3 h fun h=>zk<|zT<|zQ ?_;obtain⟨v5,p5,b5⟩:=zB h;clear h;refine LW.cut (E:=[(0,.ptr 8 0),(1,(iQ upto)),(4,(bQ false)),(5,(jV 9 x1.left)),(6,(bQ x1.any)),(7,(iQ x1.i)),(8,.ptr 10 0),(61,(bQ v5))]) (O:=[.dead,.dead,.box (cE inp),.box [.zs,.zs],.box [.zs,.zs],.vec 5 (wB.map ay),.vec 4 (x1.o6.map aO),.vec 2 (nms.map aX),.box [(jB 5 wB),(jV 6 x1.o6),(kB lB),(kV lV),.vec 2 7 (nms.map aX).length 0 (nms.map aX).length,(bQ x1.x_5)],.vec 4 (x1.left.map aO),.box [(iQ y1.From),(iQ y1.Slot),(uQ y1.Head.1),(uQ y1.Head.2)]]) ?_ ?_
     ·have h:=p5;refine zR<|zM Z<|yS Z (am Z Z Z Z)<|zM Z ?_;refine zc 56 Z (fun g4=>?_)<|fun g4=>?_
      ·refine zi g4 h fun h=>yU Z (gd g4 Z) Z<|yU Z (gd g4 Z) Z<|yU Z (gd g4 Z) Z<|yU Z (gd g4 Z) Z<|yS Z (bA Z (aK g4 Z) Z)<|nT ?_;cases h;exact au 11 ⟨Z,Z,Z,Z,Z,Z,Z,Z,t_⟩
      ·refine zo g4 h fun h=>yV Z (gd g4 Z) (zA Z Z i8)<|yV Z (gd g4 Z) (zD Z Z Z aV Z Z)<|yV Z (gd g4 Z) (zm Z Z)<|yV Z (gd g4 Z) (am Z Z Z Z)<|yS Z (aU Z (aK g4 Z) Z)<|nT ?_;cases h;exact au 11 ⟨Z,Z,Z,Z,Z,Z,Z,Z,t_⟩
     ·have h:=b5;clear p5;refine zX Z (fun g5=>?_)<|fun g5=>?_
      ·refine zi g5 h fun h=>qR<|zM Z<|yS Z (zD Z Z Z cz Z Z)<|yS Z (gU Z bz Z Z Z Z Z)<|zg h fun q1 h=>yS Z (aa.appendX aO x1.left [y1] rfl Z Z Z iC.p Z bz q1 Z)<|mN Z<|zq<|aj<|zy<|zT<|zR<|zM Z<|yS Z (am Z Z Z Z)<|mN Z ?_;cases h;exact⟨_,rfl,au 10 ⟨Z,Z,Z,Z,Z,Z,t_⟩⟩
      ·refine zo g5 h fun h=>zk<|zT<|zQ<|qR<|zM Z<|yS Z (zn Z Z)<|yS Z (zA Z Z f8)<|yS Z (zA Z Z aS)<|yS Z (zD Z Z Z cq Z Z)<|yS Z (aa.lenVM Z Z Z (by kernel_rfl))<|yS Z (am Z Z Z Z)<|nT ?_;refine zX Z (fun g6=>?_)<|fun g6=>?_
       ·refine zi g6 h fun h=>qR<|zM Z<|yS Z (zn Z Z)<|yS Z (zA Z Z uD)<|yS Z (zs Z Z Z Z vo Z Z Z Z)<|nT<|qR<|zM Z<|yS Z (zD Z Z Z cz Z Z)<|yS Z (gU Z bz Z Z Z Z Z)<|zg h fun q2 h=>yS Z (aa.appendX aO x1.left [y1] rfl Z Z Z iC.p Z bz q2 Z)<|mN Z<|zq<|aj<|zy<|zT<|zR<|zM Z<|yS Z (am Z Z Z Z)<|mN Z ?_;cases h;exact⟨_,rfl,au 10 ⟨Z,Z,Z,Z,Z,Z,t_⟩⟩
       ·refine zo g6 h fun h=>zk<|zT<|zQ<|fC<|zK Z<|zK Z<|yG Z (fun H _=>zn Z Z)<|yG Z (fun H _=>zA Z Z f8)<|yG Z (fun H _=>zA Z Z aS)<|yF Z (zd Z Z Z cq Z Z) Z<|yF Z (zd Z Z Z cz Z Z) Z<|yG Z (fun H _=>gU Z bz Z Z Z Z Z)<|zg h fun q3 h=>yF Z (ch.appendX aO x1.o6 [y1] rfl Z Z Z Z bz q3) Z<|yG Z (fun H _=>zn Z Z)<|yG Z (fun H _=>zA Z Z f8)<|yG Z (fun H _=>zA Z Z aS)<|yF Z (zt Z Z Z Z cq Z Z Z) Z ?_;refine LF.nil ⟨by kernel_rfl,?_⟩;refine zT<|zR<|zM Z<|zN<|ae<|zT<|zR<|zM Z<|yS Z (am Z Z Z Z)<|mN Z ?_;cases h;exact⟨_,rfl,au 10 ⟨Z,Z,Z,Z,Z,Z,t_⟩⟩
  ·refine zo g1 h fun h=>zq<|aj<|aj<|zy<|zT ?_;cases h;obtain rfl:=(m1 _ rfl);exact au 10 ⟨Z,Z,Z,Z,t_⟩
 ·have h:=b1;clear p1;refine zT<|LW.weak u1<|zQ<|LW.ent (bW.frz (t:=5) (env':=[(0,.ptr 8 0),(4,(bQ false)),(6,(bQ v1.any))]) (H0:=[.dead,.dead,.box (cE inp),.box [.zs,.zs],.box [.zs,.zs],.vec 5 (wB.map ay),.vec 4 (v1.o6.map aO),.vec 2 (nms.map aX),.box [(jB 5 wB),(jV 6 v1.o6),(kB lB),(kV lV),.vec 2 7 (nms.map aX).length 0 (nms.map aX).length,(bQ v1.x_5)]]) Z Z Z Z Z ⟨Z,Z,Z,t_⟩ Z Z)<|zR<|zM Z<|zM Z<|yS Z (zn Z Z)<|yS Z (zA Z Z jT)<|yS Z (zA Z Z aS)<|yS Z (zs Z Z Z Z cq Z Z Z Z)<|nT<|qR<|zM Z<|mN Z<|zr ?_;cases h;exact aD (.one (.tmp Z))<|⟨rfl,rfl⟩
structure dJ where
 i:Int
 out:List ID
def ig (l:List Bk)(x1:dJ):Option (dJ⊕dJ):=bif decide (x1.i<(l.length:Int))then (ix l x1.i).bind fun y1=>(Km y1).bind fun v2=>bif bG x1.out.length [v2].length 16 then some (.inl (dJ.mk (i64.wrap (x1.i+1)) (x1.out++[v2])))else none else some (.inr (dJ.mk x1.i x1.out))
def qx (l:List Bk):Option (List ID):=(iter (ig l) aY (dJ.mk 0 ([]:List ID))).bind fun v1=>some v1.out
theorem Hm {r_:List ID}(h:qx l=some r_):LC prog 143 [(kB l)] [] (Is (.vec 2 0 (r_.map aX).length 0 (r_.map aX).length) [.vec 2 (r_.map aX)]):=by
 refine eP Tryz.func143 Z Z Z ?_;unfold qx at h;refine qR<|mN Z<|qR<|mN Z<|zQ<|qR<|mN Z<|LW.ent (bW.lazy (t:=3) (m:=2) Z Z Z) ?_;obtain⟨v1,p1,b1⟩:=zB h;clear h;refine LW.tail (E:=[(2,.zs),(3,.vec 2 0 (v1.out.map aX).length 0 (v1.out.map aX).length)]) (O:=[.vec 2 (v1.out.map aX)]) ?_<|fun e1 K1 u1=>?_
 ·refine LW.block ?_;refine LW.iterB (E:=fun x1:dJ=>[(0,(kB l)),(2,.zs),(3,.vec 2 0 (x1.out.map aX).length 0 (x1.out.map aX).length),(4,(iQ x1.i))]) (O:=fun x1=>[.vec 2 (x1.out.map aX)]) p1 (au 1 ⟨Z,Z,Z,Z,t_⟩)<|fun x1 z1 h m1=>?_;unfold ig at h;refine zQ<|qR<|zM Z<|zM Z<|yS Z (cx Z Z)<|yS Z (am Z Z Z Z)<|nT ?_;refine zX Z (fun g1=>?_)<|fun g1=>?_
  ·refine zi g1 h fun h=>zk<|zT<|zQ<|zl<|zR<|zM Z<|zM Z<|zM Z<|zb h fun y1 j1 h=>yS Z (zx Z Z Z cp j1 Z)<|yS Z (bS Z Z Z ca Z Z)<|zb h fun v2 a2 h=>yS Z (yP Z Z Z (P3 a2) dB)<|yS Z (gU Z fH Z Z Z Z Z)<|zg h fun q1 h=>yS Z (aa.appendX aX x1.out [v2] rfl Z Z Z iC.p Z fH q1 Z)<|zM Z<|zN<|ae<|zT<|zR<|zM Z<|yS Z (am Z Z Z Z)<|mN Z ?_;cases h;exact⟨_,rfl,au 1 ⟨Z,Z,Z,Z,t_⟩⟩
  ·refine zo g1 h fun h=>zq<|aj<|aj<|zy<|zT ?_;cases h;obtain rfl:=(m1 _ rfl);exact au 1 ⟨Z,Z,t_⟩
 ·have h:=b1;clear p1;refine zT<|LW.weak u1<|qR<|zM Z<|mN Z<|zr ?_;cases h;exact aD (.one (.tmp Z))<|⟨rfl,rfl⟩
structure dP where
 k:Int
 o5:List Bk
 o6:List Vt
 o7:List ID
 x_2:List Bk
 x_3:List Vt
 x_5:Bool
def nj (v_in:Vw)(upto:Int)(x1:dP):Option (dP⊕dP):=bif decide (x1.k<=(i64.wrap ((v_in.B.length:Int)+(v_in.V.length:Int))))then (qw upto x1.o5 x1.x_2 x1.o7 x1.x_5).bind fun v5=>(ns upto v5.2.2.1 x1.o6 x1.x_3 v5.2.2.2.1 v5.2.2.2.2).bind fun v6=>bif !v5.1 then bif !v6.1 then some (.inr (dP.mk x1.k v5.2.2.1 v6.2.2.1 v5.2.2.2.1 v5.2.1 v6.2.1 v6.2.2.2))else some (.inl (dP.mk (i64.wrap (x1.k+1)) v5.2.2.1 v6.2.2.1 v5.2.2.2.1 v5.2.1 v6.2.1 v6.2.2.2))else some (.inl (dP.mk (i64.wrap (x1.k+1)) v5.2.2.1 v6.2.2.1 v5.2.2.2.1 v5.2.1 v6.2.1 v6.2.2.2))else some (.inr (dP.mk x1.k x1.o5 x1.o6 x1.o7 x1.x_2 x1.x_3 x1.x_5))
def yu (c:Cf)(w:Vw)(v_in:Vw)(upto:Int):Option (Vw×Vw×Bool):=(yx c w).bind fun v1=>bif !v1 then some (w,v_in,false)else bif bG 0 w.B.length 40 then bif bG 0 w.V.length 32 then (vM c v_in).bind fun v2=>(qx w.B).bind fun v3=>(iter (nj v_in upto) aY (dP.mk 0 w.B w.V v3 v2.B v2.V false)).bind fun v4=>some (Vw.mk v4.o5 v4.o6,Vw.mk v4.x_2 v4.x_3,v4.x_5)else none else none
theorem Ob {v_in:Vw}{r_:Vw×Vw×Bool}(h:yu c w v_in upto=some r_):aq prog 134 [gF c,iW w,iW v_in,.int .i64 upto] [iW r_.1,iW r_.2.1,.bool r_.2.2]:=by
 refine zh Tryz.func134 Z Z Z Z ?_;unfold yu at h;refine qR<|yS Z (bv Z Z Z Z Z)<|yS Z (bv Z Z Z Z Z)<|yS Z (bv Z Z Z Z Z)<|yS Z (ze Z d7 Z Z)<|yS Z (ze Z d7 Z Z)<|mN Z<|qR<|yS Z (zD Z Z Z bd Z Z)<|yS Z (zD Z Z Z aI Z Z)<|zb h fun v1 a1 h=>yS Z (yP Z Z Z (Oe a1) bR)<|mN Z<|zQ<|qR<|zM Z<|yS Z (aa.not Z Z)<|nT ?_;refine zX Z (fun g1=>?_)<|fun g1=>?_
 ·refine zi g1 h fun h=>zQ<|fC<|yF Z (zd Z Z Z aI Z Z) Z<|yF Z (zd Z Z Z aI Z Z) Z<|yF Z (zt Z Z Z Z aI Z Z Z) Z<|yF Z (zt Z Z Z Z aI Z Z Z) Z<|zK Z ?_;refine LF.nil ⟨by kernel_rfl,?_⟩;refine zT<|zr<|af ?_;cases h;exact zf (.three (eh Z Z) (eh Z Z) (.tmp Z))<|⟨_,rfl,oU⟩
 ·refine zo g1 h fun h=>zk<|zT<|zQ<|LW.ent (bW.slot Z)<|LW.ent (bW.slot Z)<|LW.ent (bW.slot Z)<|LW.ent (bW.slot Z)<|fC<|yG Z (fun H _=>zA Z Z aL)<|yF Z (zd Z Z Z bL Z Z) Z<|zg h fun q1 h=>yF Z (ch.appendZX ay w.B Z Z (id:=5) Z Z Z cp q1) Z<|yG Z (fun H _=>zA Z Z aS)<|yF Z (zd Z Z Z cq Z Z) Z<|zg h fun q2 h=>yF Z (ch.appendZX aO w.V Z Z (id:=6) Z Z Z bz q2) Z<|yG Z (fun H _=>aa.build Z nF Z Z Z)<|yF Z (zd Z Z Z bd Z Z) Z<|yF Z (zd Z Z Z aI Z Z) Z<|zb h fun v2 a2 h=>?_;refine yF (F:=[]) (s:=none) Z (fun H _=>yP Z Z Z (Ky a2) bR) Z ?_;refine yG Z (fun H _=>zA Z Z aL)<|yF Z (zd Z Z Z bL Z Z) Z<|zb h fun v3 a3 h=>?_;refine yF Z (ch.callV (id:=7) (qs:=[(kB w.B)]) Z Z Z (by kernel_rfl) (Hm a3) (fun H=>(.consC zv .nil)) Z) Z ?_;refine yG Z (fun H _=>aa.build Z LT Z Z Z)<|yF Z (ch.box Z Z Z (id:=8) Z) Z<|zK Z ?_;refine LF.nil ⟨by kernel_rfl,?_⟩;refine zT<|zQ<|zQ<|LW.ent (bW.kill (i:=0) Z)<|LW.ent (bW.kill (i:=1) Z)<|zR<|mN Z ?_;obtain⟨v4,p4,b4⟩:=zB h;clear h;refine LW.tail (E:=[(8,.ptr 3 0),(9,.ptr 4 0),(10,(bQ false)),(12,.ptr 8 0)]) (O:=[.dead,.dead,.box (cE v_in),.box [.zs,.zs],.box [.zs,.zs],.vec 5 (v4.o5.map ay),.vec 4 (v4.o6.map aO),.vec 2 (v4.o7.map aX),.box [(jB 5 v4.o5),(jV 6 v4.o6),(kB v4.x_2),(kV v4.x_3),.vec 2 7 (v4.o7.map aX).length 0 (v4.o7.map aX).length,(bQ v4.x_5)]]) ?_<|fun e4 K4 u4=>?_
  ·refine LW.block ?_;refine LW.iterB (E:=fun x1:dP=>[(3,(iQ upto)),(6,.ptr 2 0),(8,.ptr 3 0),(9,.ptr 4 0),(10,(bQ false)),(12,.ptr 8 0),(13,(iQ x1.k))]) (O:=fun x1=>[.dead,.dead,.box (cE v_in),.box [.zs,.zs],.box [.zs,.zs],.vec 5 (x1.o5.map ay),.vec 4 (x1.o6.map aO),.vec 2 (x1.o7.map aX),.box [(jB 5 x1.o5),(jV 6 x1.o6),(kB x1.x_2),(kV x1.x_3),.vec 2 7 (x1.o7.map aX).length 0 (x1.o7.map aX).length,(bQ x1.x_5)]]) p4 (au 9 ⟨Z,Z,Z,Z,Z,Z,Z,t_⟩)<|fun x1 z1 h m1=>?_;unfold nj at h;refine zQ<|qR<|zM Z<|yS Z (zA Z Z aL)<|yS Z (zD Z Z Z bL Z Z)<|yS Z (cx Z Z)<|yS Z (zA Z Z aS)<|yS Z (zD Z Z Z cq Z Z)<|yS Z (cx Z Z)<|yS Z (am Z Z Z Z)<|yS Z (am Z Z Z Z)<|nT ?_;refine zX Z (fun g2=>?_)<|fun g2=>?_
   ·refine zi g2 h fun h=>zk<|zT<|zQ<|zl<|qR<|zM Z<|zM Z<|zb h fun v5 a5 h=>yS Z (yC Z Z Z (Hl a5))<|mN Z<|qR<|zM Z<|zM Z<|zb h fun v6 a6 h=>yS Z (yC Z Z Z (Es a6))<|mN Z<|qR<|zM Z<|yS Z (aa.not Z Z)<|zM Z ?_;refine zc 57 Z (fun g3=>?_)<|fun g3=>?_
    ·refine zi g3 h fun h=>yV Z (gd g3 Z) (zm Z Z)<|yV Z (gd g3 Z) (aa.not Z Z)<|yS Z (bA Z (aK g3 Z) Z)<|nT ?_;refine zX Z (fun g4=>?_)<|fun g4=>?_
     ·refine zi g4 h fun h=>zq<|iP (by decide)<|aj<|aj<|zy<|zT ?_;cases h;obtain rfl:=(m1 _ rfl);exact au 9 ⟨Z,Z,Z,Z,t_⟩
     ·refine zo g4 h fun h=>zk<|ae<|zT<|zR<|zM Z<|yS Z (am Z Z Z Z)<|mN Z ?_;cases h;exact⟨_,rfl,au 9 ⟨Z,Z,Z,Z,Z,Z,Z,t_⟩⟩
    ·refine zo g3 h fun h=>yU Z (gd g3 Z) Z<|yU Z (gd g3 Z) Z<|yS Z (aU Z (aK g3 Z) Z)<|nT<|LW.condF Z<|zk<|ae<|zT<|zR<|zM Z<|yS Z (am Z Z Z Z)<|mN Z ?_;cases h;exact⟨_,rfl,au 9 ⟨Z,Z,Z,Z,Z,Z,Z,t_⟩⟩
   ·refine zo g2 h fun h=>zq<|aj<|aj<|zy<|zT ?_;cases h;obtain rfl:=(m1 _ rfl);exact au 9 ⟨Z,Z,Z,Z,t_⟩
  ·have h:=b4;clear p4;refine zT<|LW.weak u4<|zQ<|fC<|zK Z<|yG Z (fun H _=>zn Z Z)<|yG Z (fun H _=>zA Z Z f8)<|yF Z (zd Z Z Z aI Z Z) Z<|zK Z<|yG Z (fun H _=>zn Z Z)<|yG Z (fun H _=>zA Z Z jT)<|yF Z (zd Z Z Z aI Z Z) Z<|zK Z<|yG Z (fun H _=>zn Z Z)<|yG Z (fun H _=>zA Z Z uD)<|yF Z (zd Z Z Z vo Z Z) Z<|yF Z (zt Z Z Z Z aI Z Z Z) Z<|yF Z (zt Z Z Z Z aI Z Z Z) Z<|zK Z ?_;refine LF.nil ⟨by kernel_rfl,?_⟩;refine zT<|zr ?_;cases h;exact zf (.three (eh Z Z) (eh Z Z) (.tmp Z))<|⟨_,rfl,(.cons (Conv.agg (.cons (Conv.vecAll Z Z Z) (.cons (Conv.vecAll Z Z Z) .nil))) bR)⟩
open Classical in
theorem E1 {S R:Type}{step:S->Option (S⊕(S⊕R))}{n:Nat}(mk:Nat->S)(r0:R)(P:Nat->Prop)(hs:∀j,j<n->step (mk j)=some (.inr (.inr r0))\/(step (mk j)=some (.inl (mk (j+1)))/\P j))
  (he:step (mk n)=some (.inr (.inl (mk n)))) (hn:n<4000000000000000000):iter step aY (mk 0)=some (.inr r0)\/(iter step aY (mk 0)=some (.inl (mk n))/\∀j,j<n->P j):=by
 have e:=eb mk (fun j=>if step (mk j)=some (.inl (mk (j+1)))/\P j then none else some r0) (fun j hj=>by
  by_cases h:step (mk j)=some (.inl (mk (j+1)))/\P j
  ·simp only[i1_ h];exact h.1
  ·simp only[i0_ h];exact(hs j hj).resolve_right h) he hn
 rw[e]
 cases h:cW (fun j=>if step (mk j)=some (.inl (mk (j+1)))/\P j then none else some r0) 0 n with
 |none=>
  right;refine⟨rfl,fun j hj=>?_⟩;have:=gD.1 h j (zero_le _) (by omega);split at this
  ·rename_i h2;exact h2.2
  ·cases this
 |some r=>
  left;obtain⟨j,-,-,h2,-⟩:=fr h;split at h2
  ·cases h2
  ·cases h2;rfl
theorem wQ {l:List Vt}(hl:l.length<=100000)(v:Vt):Br l v=some ((l.filter fun y=>decide (y=v)).length:Int):=by
 have e:=av (step:=oA l v) (n:=l.length) (fun k=>gp.mk (((l.take k).filter fun y=>decide (y=v)).length:Int) (k:Int)) (gp.mk ((l.filter fun y=>decide (y=v)).length:Int) (l.length:Int)) (fun k hk=>by
  obtain⟨y,hy,-⟩:=aA hk;have hf:=bU (p:=fun y=>decide (y=v)) (l:=l) k;unfold oA;simp only;rw[eN,aw hy,ob,JT,th hy,ah (n:=k),ah (n:=_)]
  cases decide (y=v)with
  |true=>rw[ct,ct]
  |false=>rw[cf,cf];rfl) (by
  unfold oA;simp only
  rw[gt,take_length]) (by omega)
 have e':iter (oA l v) aY (gp.mk 0 0)=some (gp.mk ((l.filter fun y=>decide (y=v)).length:Int) (l.length:Int)):=e;unfold Br;rw[e',ob]
theorem pI {l:List Vt}{v:Vt}:(((l.filter fun y=>decide (y=v)).length:Int)==0)= !decide (v∈l):=by
 by_cases h:v∈l
 ·rw[aQ h];have:0<(l.filter fun y=>decide (y=v)).length:=List.length_pos_of_mem (mem_filter.2 ⟨h,aQ rfl⟩);rw[beq_eq_false_iff_ne.2 (by omega)];rfl
 ·rw[aR h,List.filter_eq_nil_iff.2 fun y hy he=>h (by rw[<-of_decide_eq_true he];exact hy)];rfl
theorem ml {a b:Vw}(h1:a.B.length+b.B.length<=90000:=by omega)(h2:a.V.length+b.V.length<=90000:=by omega):tN a b=some (cQ a b):=by
 have e1:=av (step:=ou b) (n:=b.B.length) (fun k=>ec.mk (k:Int) (c8 a.B (b.B.take k))) (ec.mk (b.B.length:Int) (c8 a.B b.B)) (fun k hk=>by
  obtain⟨y,hy,-⟩:=aA hk;have hlen:=dq (b.B.take k) a.B
  have htl:(b.B.take k).length<=k:=by rw[length_take];omega
  rw[aM hy,kj];generalize c8 a.B (b.B.take k)=o at hlen⊢
  have e:=av (step:=ov b (ec.mk (k:Int) o)) (n:=o.length) (fun j=>gk.mk (decide (y∈o.take j)) (j:Int)) (gk.mk (decide (y∈o)) (o.length:Int)) (fun j hj=>by
   obtain⟨z,hz,-⟩:=aA hj;unfold ov;simp only;rw[eN,ah (n:=j),aM hz];by_cases hm:y∈o.take j
   ·rw[aQ hm,ct,aQ (List.mem_append_left _ hm)]
   ·rw[aR hm,cf,aw hz,ob,aw hy,ob,Hx]
    rw[show decide (y∈o.take j++[z])=decide (z=y)from decide_eq_decide.2 ⟨fun h=>by
     rcases mem_append.1 h with h|h
     ·exact absurd h hm
     ·exact(mem_singleton.1 h).symm,fun h=>List.mem_append_right _ (mem_singleton.2 h.symm)⟩]) (by
   unfold ov;simp only
   rw[gt,take_length]) (by omega)
  have e':iter (ov b (ec.mk (k:Int) o)) aY (gk.mk false 0)=some (gk.mk (decide (y∈o)) (o.length:Int)):=e;unfold ou;simp only;rw[eN,e',ob,ah (n:=k)];by_cases hm:y∈o
  ·simp only[aQ hm,Bool.not_true,cf,i1_ hm]
  ·simp only[aR hm,Bool.not_false,ct,i0_ hm]
   rw[aw hy,ob,aC (by simp only[length_singleton];omega),ct]) (by
  unfold ou;simp only
  rw[gt,take_length]) (by omega)
 have e1':iter (ou b) aY (ec.mk 0 a.B)=some (ec.mk (b.B.length:Int) (c8 a.B b.B)):=e1
 have e2:=av (step:=ow b) (n:=b.V.length) (fun k=>gl.mk (k:Int) (c8 a.V (b.V.take k))) (gl.mk (b.V.length:Int) (c8 a.V b.V)) (fun k hk=>by
  obtain⟨y,hy,-⟩:=aA hk;have hlen:=dq (b.V.take k) a.V
  have htl:(b.V.take k).length<=k:=by rw[length_take];omega
  rw[aM hy,kj];generalize c8 a.V (b.V.take k)=o at hlen⊢;unfold ow;simp only;rw[eN,aw hy,ob,wQ (by omega),ob,pI,ah (n:=k)];by_cases hm:y∈o
  ·simp only[aQ hm,Bool.not_true,cf,i1_ hm]
  ·simp only[aR hm,Bool.not_false,ct,i0_ hm]
   rw[ob,aC (by simp only[length_singleton];omega),ct]) (by
  unfold ow;simp only
  rw[gt,take_length]) (by omega)
 have e2':iter (ow b) aY (gl.mk 0 a.V)=some (gl.mk (b.V.length:Int) (c8 a.V b.V)):=e2;unfold tN;rw[aC,ct,aC,ct,e1',ob,e2',ob];rfl
theorem nA {S R:Type}{step:S->Option (S⊕(S⊕R))}{n:Nat}(mk:Nat->S)(r0:R)(g:Nat->Bool)(hs:∀j,j<n->step (mk j)=bif g j then some (.inl (mk (j+1)))else some (.inr (.inr r0)))
  (he:step (mk n)=some (.inr (.inl (mk n)))) (hn:n<4000000000000000000:=by omega):(iter step aY (mk 0)=some (.inl (mk n))/\∀j,j<n->g j=true)\/(iter step aY (mk 0)=some (.inr r0)/\∃j,j<n/\g j=false):=by
 have e:=eb mk (fun j=>bif g j then none else some r0) (fun j hj=>by
  rw[hs j hj]
  cases g j <;>rfl) he hn
 cases h:cW (fun j=>bif g j then none else some r0) 0 n with
 |none=>
  rw[h]at e;refine .inl ⟨e,fun j hj=>?_⟩;have:=gD.1 h j (zero_le _) (by omega)
  cases hg:g j with
  |true=>rfl
  |false=>rw[hg]at this;cases this
 | some r=>
  rw[h]at e;obtain⟨j,-,hj,hf,-⟩:=fr h
  have hgj:g j=false:=by
   cases hg:g j with
   |true=>rw[hg]at hf;cases hf
   |false=>rfl
  rw[hgj]at hf;exact .inr ⟨by rw[e,<-Option.some.inj hf];rfl,j,by omega,hgj⟩
theorem Dz (a:ID):((a.1==0)&&((a.2==0)&&true))=decide (a=(0,0)):=rV a (0,0)
theorem q9 (h:mayB c b=true):0<b.Slot:=by
 have h1:=(of_decide_eq_true h).1;unfold oR at h1;split at h1
 ·rename_i h2;exact h2.2.1
 ·omega
theorem HO {v:Vt}(h:mayV c v=true):0<v.Slot:=by
 have h1:=of_decide_eq_true h;unfold nG at h1;split at h1
 ·rename_i h2;exact h2.2.1
 ·cases h1
section
variable {c : Cf} (hW : c.W.length <= 1000)
include hW
theorem yp (hb:kp b):vP c b=some (mayB c b):=by
 unfold vP mayB;rw[wU hW,ob];by_cases h1:0<=oR c b.Slot
 ·rw[aQ (show oR c b.Slot>=0 from h1),ct];by_cases h2:oR c b.Slot=b.From
  ·rw[beq_iff_eq.2 h2,ct,wR hb,ob,Dz];by_cases h3:nm b=(0,0)
   ·rw[aQ h3,aR fun h=>h.2.2 h3];rfl
   ·rw[aR h3,aQ ⟨h1,h2,h3⟩];rfl
  ·rw[LM h2,cf,aR fun h=>h2 h.2.1]
 ·rw[aR (show¬oR c b.Slot>=0 from h1),cf,aR fun h=>h1 h.1]
theorem yq (v:Vt):vQ c v=some (mayV c v):=by
 unfold vQ mayV;rw[GH hW,ob]
theorem ye (hb:kZ w.B)(h1:w.B.length<=90000)(h2:w.V.length<=90000):vM c w=some (bx c w):=by
 have e1:=av (step:=lc c w) (n:=w.B.length) (fun k=>fb.mk (k:Int) ((w.B.take k).filter (mayB c))) (fb.mk (w.B.length:Int) (w.B.filter (mayB c))) (fun k hk=>by
  obtain⟨y,hy,hm⟩:=aA hk;have hlen:=bU (p:=mayB c) (l:=w.B) k;unfold lc;simp only;rw[eN,aw hy,ob,yp hW (hb y hm),ob,bg hy,ah (n:=k)]
  cases mayB c y with
  |true=>rw[ct,ob,aC (by simp only[length_singleton];omega),ct,ct]
  |false=>rw[cf,cf,append_nil]) (by
  unfold lc;simp only
  rw[gt,take_length]) (by omega)
 have e2:=av (step:=ld c w) (n:=w.V.length) (fun k=>fc.mk (k:Int) ((w.V.take k).filter (mayV c))) (fc.mk (w.V.length:Int) (w.V.filter (mayV c))) (fun k hk=>by
  obtain⟨y,hy,hm⟩:=aA hk;have hlen:=bU (p:=mayV c) (l:=w.V) k;unfold ld;simp only;rw[eN,aw hy,ob,yq hW,ob,bg hy,ah (n:=k)]
  cases mayV c y with
  |true=>rw[ct,ob,aC (by simp only[length_singleton];omega),ct,ct]
  |false=>rw[cf,cf,append_nil]) (by
  unfold ld;simp only
  rw[gt,take_length]) (by omega)
 have e1':iter (lc c w) aY (fb.mk 0 [])=_:=e1;have e2':iter (ld c w) aY (fc.mk 0 [])=_:=e2;unfold vM;rw[e1',ob,e2',ob];rfl
end
theorem yB (hl:names.length<=4000):vS names id=some (ap names id):=by
 have key:=bw (step:=lk names id) (fun x=>∃n:Nat,x.i=n/\n<=names.length/\∀j,j<n->names[j]?≠some id)
  (fun x=>names.length-x.i.toNat) (fun b=>(∃v,b=.inl v/\ap names id= -1)\/∃r,b=.inr r/\ap names id=r) (by
   rintro⟨i⟩ ⟨n,rfl,hn,hno⟩;simp only;by_cases hlt:n<names.length
   case neg=>
    right;refine⟨.inl ⟨n⟩,?_,.inl ⟨_,rfl,ji fun j hj=>hno j (by omega)⟩⟩;simp only[lk];rw[aR (by omega)];rfl
   obtain⟨y,hy,-⟩:=aA hlt;by_cases he:y=id
   ·right;refine⟨.inr n,?_,.inr ⟨_,rfl,jU (he▸hy) hno⟩⟩;simp only[lk];rw[aQ (show(n:Int)<(names.length:Int) by omega),aw hy];simp[Df,he]
   ·left;refine⟨⟨i64.wrap (n+1)⟩,?_,⟨n+1,ah (n:=n),by omega,fun j hj=>?_⟩,?_⟩
    ·simp only[lk];rw[aQ (show(n:Int)<(names.length:Int) by omega),aw hy];simp[Df,he]
    ·rcases Nat.lt_succ_iff_lt_or_eq.1 hj with h|h
     ·exact hno j h
     ·subst h;rw[hy];simpa using he
    ·simp only[ah (show n<4000000000 by omega)];omega) (x:=⟨0⟩) ⟨0,rfl,zero_le _,fun j hj=>by omega⟩ (n:=aY) (cj (by simp only;omega))
 obtain⟨b,hb,hpost⟩:=key;simp only[vS,hb,ob];rcases hpost with⟨v,rfl,h⟩|⟨r,rfl,h⟩
 ·simp[h]
 ·simp[h]
def pc (B:List Bk)(id:ID):Int:=(bI B id).getD (-1)
theorem DD {B:List Bk}:(ap (B.map nm) id<0/\B.find? (fun b=>decide (nm b=id))=none)\/∃(i:Nat) (b:Bk),ap (B.map nm) id=i/\B[i]?=some b/\B.find? (fun b=>decide (nm b=id))=some b:=by
 rcases ft (l:=B.map nm) (v:=id)with⟨h1,h2⟩|⟨i,h1,h2,h3⟩
 ·refine .inl ⟨by omega,?_⟩;rw[List.find?_eq_none];intro b hb e;exact h2<|List.mem_map.2 ⟨b,hb,of_decide_eq_true e⟩
 ·rw[List.getElem?_map]at h2
  cases hb:B[i]? with
  |none=>rw[hb]at h2;cases h2
  |some b=>
   rw[hb]at h2;refine .inr ⟨i,b,h1,hb,Dg hb (aQ (Option.some.inj h2)) fun j z hj hz=>aR fun e=>h3 j hj ?_⟩;rw[List.getElem?_map,hz,<-e];rfl
theorem tV {B:List Bk}(hl:B.length<=1000)(id:ID):tU B (B.map nm) id=some (pc B id):=by
 unfold tU pc bI;rw[Dz];by_cases h0:id=(0,0)
 ·rw[aQ h0,ct,i1_ h0];rfl
 ·rw[aR h0,cf,i0_ h0,yB (by rw[length_map];omega),ob];rcases DD (B:=B) (id:=id)with⟨h1,h2⟩|⟨i,b,h1,h2,h3⟩
  ·rw[aQ h1,ct,h2];rfl
  ·rw[h1,aR (by omega),cf,aw h2,ob,h3];rfl
theorem kc {B:List Bk}{s:Int}(h:bI B id=some s):pc B id=s:=by unfold pc;rw[h];rfl
theorem kb {B:List Bk}(h:bI B id=none):pc B id= -1:=by unfold pc;rw[h];rfl
theorem sF {B:List Bk}(hp:∀b∈B,0<b.Slot){s:Int}(h:bI B id=some s):0<=s:=by
 rcases E5 h with⟨-,rfl⟩|⟨-,b,hb,-,rfl⟩
 ·omega
 ·have:=hp b hb;omega
theorem uT {α:Type}{l:List α}:(∀(j:Nat) y,l[j]?=some y->y∉l.take j)↔l.Nodup:=by
 constructor
 ·intro h;rw[List.nodup_iff_pairwise_ne,List.pairwise_iff_getElem];intro i j hi hj hij e;refine h j _ (List.getElem?_eq_getElem hj) ?_;refine List.mem_of_getElem? (i:=i) ?_;rw[getElem?_take_of_lt hij,List.getElem?_eq_getElem hi,e]
 ·intro h j y hy hm;obtain⟨i,hi⟩:=getElem?_of_mem hm;have hil:=(List.getElem?_eq_some_iff.1 hi).1;rw[length_take]at hil;rw[getElem?_take_of_lt (by omega)]at hi;have:=(List.getElem?_inj (by omega) h).1 (hi.trans hy.symm);omega
theorem CI (hl:l.length<=1000):xY l (l.map nm)=some (places l).isSome:=by
 unfold xY;rw[Bv hl,ob]
open Classical in
theorem Gf (hW:c.W.length<=1000)(hb:kZ w.B)(h1:w.B.length<=1000)(h2:w.V.length<=1000):yx c w=some (decide (i4 c w)):=by
 unfold yx;rw[wW hb h1,ob,CI h1,ob,pp hW,ob];by_cases k1:dV w.B
 case neg=>
  rw[show(places w.B).isSome=false by cases h:(places w.B).isSome with|false=>rfl|true=>exact absurd h k1,Bool.not_false,ct,ob,ct,aR fun h=>k1 h.valid]
 rw[show(places w.B).isSome=true from k1,Bool.not_true,cf];by_cases k2:cZ c
 case neg=>rw[aR k2,Bool.not_false,ct,ob,ct,aR fun h=>k2 h.conf]
 rw[aQ k2,Bool.not_true,cf];by_cases k3:w.B.length<=60
 case neg=>rw[aQ (show(w.B.length:Int)>60 by omega),ct,ob,ct,aR fun h=>k3 h.lenB]
 rw[aR (show¬(w.B.length:Int)>60 by omega),cf];by_cases k4:w.V.length<=240
 case neg=>rw[aQ (show(w.V.length:Int)>240 by omega),ob,ct,aR fun h=>k4 h.lenV]
 rw[aR (show¬(w.V.length:Int)>240 by omega),ob,cf]
 have e1:=nA (step:=jD c w) (n:=w.B.length) (fun j=>fe.mk (j:Int)) false (fun j=>(w.B[j]?).all (mayB c)) (fun j hj=>by
  obtain⟨y,hy,hm⟩:=aA hj;unfold jD;simp only;rw[eN,aw hy,ob,yp hW (hb y hm),ob,hy,ah (n:=j)];simp only[all_some]
  cases mayB c y <;>rfl) (by
  unfold jD;simp only
  rw[gt])
 have e1':(iter (jD c w) aY (fe.mk 0)=some (.inl (fe.mk (w.B.length:Int)))/\∀j,j<w.B.length->(w.B[j]?).all (mayB c)=true)\/(iter (jD c w) aY (fe.mk 0)=some (.inr false)/\∃j,j<w.B.length/\(w.B[j]?).all (mayB c)=false):=e1;rcases e1' with⟨e1,k5⟩|⟨e1,j,hj,k5⟩
 case inr=>
  obtain⟨y,hy,hm⟩:=aA hj;rw[hy]at k5;rw[e1,ob,aR fun h=>by have:=h.mayB y hm;simp only[all_some]at k5;rw[this]at k5;cases k5];rfl
 have hmay:∀b∈w.B,mayB c b=true:=fun b hm=>by
  obtain⟨j,hj⟩:=getElem?_of_mem hm;have:=k5 j (List.getElem?_eq_some_iff.1 hj).1;rw[hj]at this;exact this
 rw[e1,ob];show((iter (iI c w (w.B.map nm)) aY (eC.mk 0)).bind _)=_
 have e2:=nA (step:=iI c w (w.B.map nm)) (n:=w.V.length) (fun j=>eC.mk (j:Int)) false (fun j=>(w.V[j]?).all fun v=>decide (mayV c v=true/\forB w.B v/\v∉w.V.take j)) (fun j hj=>by
  obtain⟨y,hy,hm⟩:=aA hj;unfold iI;simp only;rw[eN,aw hy,ob,tV h1,ob,ob,yq hW,ob,hy,ah (n:=j)];simp only[all_some]
  cases m1:mayV c y with
  |false=>rw[Bool.not_false,ct,aR fun h=>by cases h.1];rfl
  | true=>
   rw[Bool.not_true,cf]
   cases hq:bI w.B y.Head with
   |none=>
    rw[kb hq,aQ (show(-1:Int)<0 by omega),ct,aR]
    ·rfl
    ·rintro⟨-,⟨s,h3,-⟩,-⟩;rw[hq]at h3;cases h3
   | some s=>
    have hs:=sF (fun b hb=>q9 (hmay b hb)) hq;rw[kc hq,aR (show¬s<0 by omega),cf,ob];by_cases h4:s>y.Slot
    ·rw[aQ h4,ct,aR]
     ·rfl
     ·rintro⟨-,⟨s',h3,h5⟩,-⟩;rw[hq]at h3;have:=Option.some.inj h3;omega
    ·rw[aR h4,cf,show xp w.V 0 (j:Int)=true from aQ (by omega),ct,ob,Int.toNat_natCast,wQ (by rw[length_take];omega),ob];have hz:=pI (l:=w.V.take j) (v:=y);generalize ((w.V.take j).filter fun x=>decide (x=y)).length=n at hz⊢;by_cases h6:y∈w.V.take j
     ·rw[aQ h6]at hz;rw[aQ (show(n:Int)>0 by have:=(beq_eq_false_iff_ne.1 hz);omega),ct,aR fun h=>h.2.2 h6];rfl
     ·rw[aR h6]at hz
      rw[aR (show¬(n:Int)>0 by have:=(beq_iff_eq.1 hz);omega),cf,aQ ⟨rfl,⟨s,hq,by omega⟩,h6⟩];rfl) (by
  unfold iI;simp only
  rw[gt])
 have e2':(iter (iI c w (w.B.map nm)) aY (eC.mk 0)=some (.inl (eC.mk (w.V.length:Int)))/\∀j,j<w.V.length->((w.V[j]?).all fun v=>decide (mayV c v=true/\forB w.B v/\v∉w.V.take j))=true)\/(iter (iI c w (w.B.map nm)) aY (eC.mk 0)=some (.inr false)/\∃j,j<w.V.length/\((w.V[j]?).all fun v=>decide (mayV c v=true/\forB w.B v/\v∉w.V.take j))=false):=e2;rcases e2' with⟨e2,k6⟩|⟨e2,j,hj,k6⟩
 ·have hat:∀(j:Nat) v,w.V[j]?=some v->mayV c v=true/\forB w.B v/\v∉w.V.take j:=fun j v hv=>by
   have:=k6 j (List.getElem?_eq_some_iff.1 hv).1;rw[hv]at this;exact of_decide_eq_true this
  rw[e2,ob,aQ]
  ·rfl
  ·refine⟨k2,k1,k3,k4,hmay,fun v hv=>?_,uT.1 fun j y hy=>(hat j y hy).2.2,fun v hv=>?_⟩
   ·obtain⟨j,hj⟩:=getElem?_of_mem hv;exact(hat j v hj).1
   ·obtain⟨j,hj⟩:=getElem?_of_mem hv;exact(hat j v hj).2.1
 ·obtain⟨y,hy,hm⟩:=aA hj;rw[hy]at k6;rw[e2,ob,aR fun h=>(of_decide_eq_false k6) ⟨h.mayV y hm,h.forB y hm,uT.2 h.nodup j y hy⟩];rfl
theorem AU {B l:List Bk}:∀x∈(aT upto B f l).2.1,x∈B\/x∈l:=
 ju (step:=bV upto) (l:=l) (B:=B) (f:=f) (Q:=fun C _=>∀x∈C,x∈B\/x∈l) (fun C f b hb h x hx=>by
  rcases iq upto C f b with⟨-,e⟩|⟨-,-,e⟩|⟨-,-,-,e⟩|⟨-,-,-,e⟩ <;>rw[e]at hx
  ·exact h x hx
  ·exact h x hx
  ·exact(mem_append.1 hx).elim (h x) fun h2=>.inr<|mem_singleton.1 h2▸hb
  ·exact h x hx) fun x hx=>.inl hx
theorem ED {B:List Bk}{y:Bk}(hy:mayB c y=true):(bif decide (ap (B.map nm) (nm y)>=0)then some true else some (decide (pc B y.Parent>=y.Slot)))=some (dj B y):=by
 have h0:=(of_decide_eq_true hy).2.2;have hp:=q9 hy;unfold dj
 have h1:(bI B (nm y)).isSome=decide (ap (B.map nm) (nm y)>=0):=by
  unfold bI;rw[i0_ h0];rcases DD (B:=B) (id:=nm y)with⟨h1,h2⟩|⟨i,b,h1,h2,h3⟩
  ·rw[h2,aR (by omega)];rfl
  ·rw[h3,aQ (by omega)];rfl
 rw[h1]
 cases decide (ap (B.map nm) (nm y)>=0)with
 |true=>rw[ct,Bool.true_or]
 |false=>
  rw[cf,Bool.false_or]
  cases hq:bI B y.Parent with
  |none=>rw[kb hq,aR (by omega)]
  |some s=>rw[kc hq]
theorem se {B:List Bk}(hB:∀b∈B,0<b.Slot)(y:Bk):(bif decide (pc B y.Parent<0)then some true else some (decide (y.Slot>upto)))=some (gc B upto y):=by
 unfold gc
 cases hq:bI B y.Parent with
 |none=>rw[kb hq,aQ (by omega),ct]
 |some q=>
  have:=sF hB hq;rw[kc hq,aR (by omega),cf]
theorem pN {B:List Bk}(hB:∀b∈B,0<b.Slot)(y:Vt):(bif decide (pc B y.Head<0)then some true else some (decide (y.Slot>upto)))=some (gQ B upto y):=by
 unfold gQ
 cases hq:bI B y.Head with
 |none=>rw[kb hq,aQ (by omega),ct]
 |some q=>
  have:=sF hB hq;rw[kc hq,aR (by omega),cf]
theorem Bw {wB lB:List Bk}(hw:∀b∈wB,mayB c b=true)(hl:∀b∈lB,mayB c b=true)(hk:kZ lB)(h1:wB.length<=60)(h2:lB.length<=999) :
  qw upto wB lB (wB.map nm) full=some (decide (wB.length<(aT upto wB full lB).2.1.length),(aT upto wB full lB).1,(aT upto wB full lB).2.1,(aT upto wB full lB).2.1.map nm,(aT upto wB full lB).2.2):=by
 have e:=av (step:=ic upto lB) (n:=lB.length) (fun j=>cV.mk (decide (wB.length<(aT upto wB full (lB.take j)).2.1.length)) (j:Int) (aT upto wB full (lB.take j)).2.1 ((aT upto wB full (lB.take j)).2.1.map nm) (aT upto wB full (lB.take j)).2.2 (aT upto wB full (lB.take j)).1)
  (cV.mk (decide (wB.length<(aT upto wB full lB).2.1.length)) (lB.length:Int) (aT upto wB full lB).2.1 ((aT upto wB full lB).2.1.map nm) (aT upto wB full lB).2.2 (aT upto wB full lB).1) (fun j hj=>by
  obtain⟨y,hy,hm⟩:=aA hj;have hmy:=hl y hm;have hmem:=AU (upto:=upto) (B:=wB) (l:=lB.take j) (f:=full);have hgr:=(ej (kf upto) (lB.take j) wB full).1;have hrm:=pX (upto:=upto) (l:=lB.take j) (f:=full) h1;have hln:=l0 (step:=bV upto) (lB.take j) wB full;have hsn:=gx (step:=bV upto) y (lB.take j) wB full;rw[length_take]at hln;unfold ic;simp only;rw[aM hy];unfold aT at hmem hrm⊢;rw[hsn];generalize bP (bV upto) wB full (lB.take j)=p at hmem hgr hrm hln⊢;have hpos:∀b∈p.2.1,0<b.Slot:=fun b hb=>(hmem b hb).elim (fun h=>q9 (hw b h)) fun h=>q9 (hl b (List.mem_of_mem_take h));rw[eN,aw hy,ob,wR (hk y hm),ob,tV (by omega),ob,yB (by rw[length_map];omega),ob,ED hmy,ob,ah (n:=j)];rcases iq upto p.2.1 p.2.2 y with⟨g,e⟩|⟨g,g2,e⟩|⟨g,g2,g3,e⟩|⟨g,g2,g3,e⟩ <;>rw[e,g]
  ·rw[ct];rfl
  ·rw[cf,se hpos,ob,g2,ct,aC (by simp only[length_singleton];omega),ct];rfl
  ·rw[cf,se hpos,ob,g2,cf,aR (show¬(p.2.1.length:Int)>=60 by omega),cf,aC (by simp only[length_singleton];omega),ct,aC (by rw[length_map];simp only[length_singleton];omega),ct];have:decide (wB.length<(p.2.1++[y]).length)=true:=aQ (by simp only[length_append,length_singleton];omega);simp only[this,List.map_append,List.map_cons,List.map_nil,if_true]
  ·rw[cf,se hpos,ob,g2,cf,aQ (show(p.2.1.length:Int)>=60 by omega),ct,aC (by simp only[length_singleton];omega),ct];rfl) (by
  unfold ic;simp only
  rw[gt,take_length]) (by omega)
 have e':iter (ic upto lB) aY (cV.mk (decide (wB.length<wB.length)) 0 wB (wB.map nm) full [])=_:=e;rw[aR (by omega)]at e';unfold qw;rw[e',ob]
theorem BV {B:List Bk}(hy:0<y.Slot):(bif decide (((V.filter fun x=>decide (x=y)).length:Int)>0)then some true else some (decide (pc B y.Head>y.Slot)))=some (dw B V y):=by
 unfold dw;have hz:=pI (l:=V) (v:=y)
 have h1:decide (((V.filter fun x=>decide (x=y)).length:Int)>0)=decide (y∈V):=by
  generalize (V.filter fun x=>decide (x=y)).length=n at hz⊢;by_cases h:y∈V
  ·rw[aQ h]at hz⊢;exact aQ (by have:=beq_eq_false_iff_ne.1 hz;omega)
  ·rw[aR h]at hz⊢;exact aR (by have:=beq_iff_eq.1 hz;omega)
 rw[h1]
 cases decide (y∈V)with
 |true=>rw[ct,Bool.true_or]
 |false=>
  rw[cf,Bool.false_or]
  cases hq:bI B y.Head with
  |none=>rw[kb hq,aR (by omega)]
  |some s=>rw[kc hq]
theorem y9 {wV lV:List Vt}(hB:∀b∈wB,0<b.Slot)(hl:∀v∈lV,mayV c v=true)(h1:wB.length<=60)(h2:wV.length<=240)(h3:lV.length<=999) :
  ns upto wB wV lV (wB.map nm) full=some (decide (wV.length<(bJ upto wB wV full lV).2.1.length),(bJ upto wB wV full lV).1,(bJ upto wB wV full lV).2.1,(bJ upto wB wV full lV).2.2):=by
 have e:=av (step:=gz upto wB lV (wB.map nm)) (n:=lV.length) (fun j=>cJ.mk (decide (wV.length<(bJ upto wB wV full (lV.take j)).2.1.length)) (j:Int) (bJ upto wB wV full (lV.take j)).2.1 (bJ upto wB wV full (lV.take j)).2.2 (bJ upto wB wV full (lV.take j)).1)
  (cJ.mk (decide (wV.length<(bJ upto wB wV full lV).2.1.length)) (lV.length:Int) (bJ upto wB wV full lV).2.1 (bJ upto wB wV full lV).2.2 (bJ upto wB wV full lV).1) (fun j hj=>by
  obtain⟨y,hy,hm⟩:=aA hj;have hmy:=HO (hl y hm);have hgr:=(ej (kg upto wB) (lV.take j) wV full).1;have hrm:=uY (upto:=upto) (BB:=wB) (l:=lV.take j) (f:=full) h2;have hln:=l0 (step:=bX upto wB) (lV.take j) wV full;have hsn:=gx (step:=bX upto wB) y (lV.take j) wV full;rw[length_take]at hln;unfold gz;simp only;rw[aM hy];unfold bJ at hrm⊢;rw[hsn];generalize bP (bX upto wB) wV full (lV.take j)=p at hgr hrm hln⊢;rw[eN,aw hy,ob,tV (by omega),ob,wQ (by omega),ob,BV hmy,ob,ah (n:=j)];rcases ki upto wB p.2.1 p.2.2 y with⟨g,e⟩|⟨g,g2,e⟩|⟨g,g2,g3,e⟩|⟨g,g2,g3,e⟩ <;>rw[e,g]
  ·rw[ct];rfl
  ·rw[cf,pN hB,ob,g2,ct,aC (by simp only[length_singleton];omega),ct];rfl
  ·rw[cf,pN hB,ob,g2,cf,aR (show¬(p.2.1.length:Int)>=240 by omega),cf,aC (by simp only[length_singleton];omega),ct];have:decide (wV.length<(p.2.1++[y]).length)=true:=aQ (by simp only[length_append,length_singleton];omega);simp only[this,if_true]
  ·rw[cf,pN hB,ob,g2,cf,aQ (show(p.2.1.length:Int)>=240 by omega),ct,aC (by simp only[length_singleton];omega),ct];rfl) (by
  unfold gz;simp only
  rw[gt,take_length]) (by omega)
 have e':iter (gz upto wB lV (wB.map nm)) aY (cJ.mk (decide (wV.length<wV.length)) 0 wV full [])=_:=e;rw[aR (by omega)]at e';unfold ns;rw[e',ob]
theorem nU {α:Type}{step:List α->Bool->α->Bool×List α×Bool}(h:∀B f b,(step B f b).2.1.length+(if (step B f b).1 then 0 else 1)<=B.length+1):∀(l B:List α) (f:Bool),(bP step B f l).1.length+(bP step B f l).2.1.length<=l.length+B.length
 |[],B,f=>by simp[bP]
 |x::r,B,f=>by
  have h1:=h B f x;have h2:=nU h r (step B f x).2.1 (step B f x).2.2;simp only[bP,List.length_cons];split
  ·rename_i h3;rw[i1_ h3]at h1;omega
  ·rename_i h3;rw[i0_ h3]at h1;simp only[List.length_cons];omega
theorem A4 (upto:Int)(s:sR):(ce upto s).lB.length+(ce upto s).lV.length+cD (ce upto s)<=s.lB.length+s.lV.length+cD s:=by
 have h1:=nU (step:=bV upto) (fun B f b=>by
  rcases iq upto B f b with⟨-,e⟩|⟨-,-,e⟩|⟨-,-,-,e⟩|⟨-,-,-,e⟩ <;>rw[e] <;>simp) s.lB s.B s.full
 have h2:=nU (step:=bX upto (aT upto s.B s.full s.lB).2.1) (fun B f b=>by
  rcases ki upto (aT upto s.B s.full s.lB).2.1 B f b with⟨-,e⟩|⟨-,-,e⟩|⟨-,-,-,e⟩|⟨-,-,-,e⟩ <;>rw[e] <;>simp) s.lV s.V (aT upto s.B s.full s.lB).2.2
 unfold ce cD;simp only;unfold aT bJ at *;omega
theorem AV {B l:List Bk}:∀x∈(aT upto B f l).1,x∈l:=fun x hx=>(l6 (step:=bV upto) l B f).subset hx
theorem ES {BB:List Bk}{V l:List Vt}:∀x∈(bJ upto BB V f l).1,x∈l:=fun x hx=>(l6 (step:=bX upto BB) l V f).subset hx
structure C4 (c:Cf)(L:Nat)(s:sR)(k:Nat):Prop where
 B:∀b∈s.B,mayB c b=true
 lB:∀b∈s.lB,mayB c b=true
 ok:kZ s.lB
 lV:∀v∈s.lV,mayV c v=true
 bel:pi s
 len:k+s.lB.length+s.lV.length<=L
def M1 (s:sR)(k:Nat):dP:=dP.mk (k:Int) s.B s.V (s.B.map nm) s.lB s.lV s.full
theorem Gc (hW:c.W.length<=1000){w i:Vw}(hb:kZ w.B)(hi:kZ i.B)(h1:w.B.length<=1000)(h2:w.V.length<=1000)(h3:i.B.length+i.V.length<=999)(upto:Int):yu c w i upto=some (aN c w i upto):=by
 classical
 unfold yu aN;rw[Gf hW hb h1 h2,ob];by_cases hm:i4 c w
 case neg=>rw[aR hm,Bool.not_false,ct,i0_ hm]
 have ho:=uV c i
 have hN:qx w.B=some (w.B.map nm):=by
  have e:=av (step:=ig w.B) (n:=w.B.length) (fun k=>dJ.mk (k:Int) ((w.B.take k).map nm)) (dJ.mk (w.B.length:Int) (w.B.map nm)) (fun k hk=>by
   obtain⟨y,hy,hmm⟩:=aA hk;unfold ig;simp only;rw[eN,aw hy,ob,wR (hb y hmm),ob,aC (by rw[length_map,length_take];simp only[length_singleton];omega),ct,aM hy,List.map_append,ah (n:=k)]
   rfl) (by
   unfold ig;simp only
   rw[gt,take_length]) (by omega)
  have e':iter (ig w.B) aY (dJ.mk 0 [])=_:=e;unfold qx;rw[e',ob]
 rw[aQ hm,Bool.not_true,cf,i1_ hm,aC,ct,aC,ct,ye hW hi (by omega) (by omega),ob,hN,ob];obtain⟨s0,hs0⟩:∃s0:sR,s0=⟨w.B,w.V,false,(bx c i).B,(bx c i).V⟩:=⟨_,rfl⟩;obtain⟨L,hL⟩:∃L,L=i.B.length+i.V.length:=⟨_,rfl⟩
 have hg0:C4 c L s0 0:=by
  rw[hs0];exact⟨hm.mayB,fun b hb=>(mem_filter.1 hb).2,fun b hb=>hi b (mem_filter.1 hb).1,fun v hv=>(mem_filter.1 hv).2,⟨hm.lenB,hm.lenV⟩,by show 0+(bx c i).B.length+(bx c i).V.length<=L;omega⟩
 obtain⟨x,hx,k,hxe⟩:=bw (step:=nj i upto) (fun x=>∃(s:sR) (k:Nat),x=M1 s k/\C4 c L s k/\pd upto (1000-k) s=mf upto s0) (fun x=>(1001-x.k).toNat) (fun x=>∃k:Nat,x=M1 (mf upto s0) k) (by
  rintro x ⟨s,k,rfl,hg,hT⟩;obtain⟨g1,g2,g3,g4,g5,g6⟩:=hg;have hr:=kE upto s;have hc:=A4 upto s;have hlf:=ta upto s;have hrB:=AU (upto:=upto) (B:=s.B) (l:=s.lB) (f:=s.full);have hrm:=pX (upto:=upto) (l:=s.lB) (f:=s.full) g5.1;have hB':∀b∈(ce upto s).B,mayB c b=true:=fun b hb=>(hrB b hb).elim (g1 b) (g2 b);have eB:=Bw (c:=c) (upto:=upto) (full:=s.full) g1 g2 g3 g5.1 (by omega);have eV:=y9 (c:=c) (upto:=upto) (wB:=(aT upto s.B s.full s.lB).2.1) (wV:=s.V) (lV:=s.lV) (full:=(aT upto s.B s.full s.lB).2.2) (fun b hb=>q9 (hB' b hb)) g4 hrm g5.2 (by omega)
  have hgood:cD (ce upto s)≠cD s->C4 c L (ce upto s) (k+1):=fun hne=>by
   refine⟨hB',fun b hb=>g2 b (AV b hb),fun b hb=>g3 b (AV b hb),fun v hv=>g4 v (ES v hv),rq g5,?_⟩;unfold cD at hne hc;omega
  unfold nj M1;simp only;rw[aQ (show(k:Int)<=i64.wrap ((i.B.length:Int)+(i.V.length:Int)) by rw[cR];omega),ct,eB,ob,eV,ob];simp only;rw[ah (n:=k)]
  have hfin:(1000-k)=(999-k)+1:=by omega
  rw[hfin]at hT;unfold pd at hT
  have hgo:cD (ce upto s)≠cD s->(∃s' k',dP.mk ((k+1:Nat):Int) (aT upto s.B s.full s.lB).2.1 (bJ upto (aT upto s.B s.full s.lB).2.1 s.V (aT upto s.B s.full s.lB).2.2 s.lV).2.1 ((aT upto s.B s.full s.lB).2.1.map nm) (aT upto s.B s.full s.lB).1 (bJ upto (aT upto s.B s.full s.lB).2.1 s.V (aT upto s.B s.full s.lB).2.2 s.lV).1 (bJ upto (aT upto s.B s.full s.lB).2.1 s.V (aT upto s.B s.full s.lB).2.2 s.lV).2.2=M1 s' k'/\C4 c L s' k'/\pd upto (1000-k') s'=mf upto s0):=fun hne=>by
   refine⟨ce upto s,k+1,rfl,hgood hne,?_⟩;rw[i0_ hne]at hT;rw[<-hT,show 1000-(k+1)=999-k by omega]
  by_cases hb1:s.B.length<(aT upto s.B s.full s.lB).2.1.length
  ·rw[aQ hb1,Bool.not_true,cf]
   have hne:cD (ce upto s)≠cD s:=by
    have h6:s.B.length<(ce upto s).B.length:=hb1;unfold cD;omega
   exact .inl ⟨_,rfl,hgo hne,by simp only;omega⟩
  ·rw[aR hb1,Bool.not_false,ct];by_cases hv1:s.V.length<(bJ upto (aT upto s.B s.full s.lB).2.1 s.V (aT upto s.B s.full s.lB).2.2 s.lV).2.1.length
   ·rw[aQ hv1,Bool.not_true,cf]
    have hne:cD (ce upto s)≠cD s:=by
     have h6:s.V.length<(ce upto s).V.length:=hv1;unfold cD;omega
    exact .inl ⟨_,rfl,hgo hne,by simp only;omega⟩
   ·rw[aR hv1,Bool.not_false,ct]
    have heq:cD (ce upto s)=cD s:=by
     have h6:¬s.V.length<(ce upto s).V.length:=hv1;have h7:¬s.B.length<(ce upto s).B.length:=hb1;unfold cD;omega
    rw[i1_ heq]at hT
    exact .inr ⟨_,rfl,k,by rw[<-hT];rfl⟩) (n:=aY) (x:=M1 s0 0) ⟨s0,0,rfl,hg0,rfl⟩ (cj (by unfold M1;simp only;omega))
 have hx':iter (nj i upto) aY (dP.mk 0 w.B w.V (w.B.map nm) (bx c i).B (bx c i).V false)=some x:=by
  rw[hs0]at hx;exact hx
 rw[hx',ob,hxe,hs0];rfl
def zw (n:Int):Option (List Of):=bif decide (n<0)then none else bif decide ((i64.wrap (n-(i64.wrap (0-0))))>0)then bif EN (i64.wrap (n-(i64.wrap (0-0)))) 104 then bif decide (0<=0/\0<=(((List.replicate (i64.wrap (n-(i64.wrap (0-0)))).toNat (Of.mk 0 0 (Bk.mk 0 0 (0,0) 0) (Vw.mk [] []):Of)).map da).length:Int))then some (List.replicate (i64.wrap (n-(i64.wrap (0-0)))).toNat (Of.mk 0 0 (Bk.mk 0 0 (0,0) 0) (Vw.mk [] []):Of))else none else none else some []
theorem Mm {r_:List Of}(h:zw n=some r_):LC prog 126 [.zs,(iQ n)] [] (Is (.vec 9 0 (r_.map da).length 0 0) [.vec 9 (r_.map da)]):=by
 refine eP Tryz.func126 Z Z Z ?_;unfold zw at h;refine qR<|mN Z<|zQ<|qR<|zM Z<|yS Z (am Z Z Z Z)<|nT ?_;refine zX Z (fun g1=>?_)<|fun g1=>?_
 ·have h:=zI g1 h;cases h
 ·refine zo g1 h fun h=>zk<|zT<|zQ<|qR<|zM Z<|zM Z<|yS Z (aa.capZ Z Z bp)<|zM Z<|yS Z (aa.lenZ Z Z (by kernel_rfl))<|yS Z (am Z Z Z Z)<|yS Z (am Z Z Z Z)<|mN Z<|qR<|zM Z<|yS Z (am Z Z Z Z)<|nT ?_;refine zX Z (fun g2=>?_)<|fun g2=>?_
  ·refine zi g2 h fun h=>zR<|zM Z<|zM Z<|yS Z (aa.capZ Z Z bp)<|yS Z (aa.sliceZ0 Z Z Z bp)<|zM Z<|zg h fun q1 h=>?_;refine yS Z (aa.appendMake (cs:=[(iQ 0),(iQ 0),(iQ 0),(iQ 0),(uQ 0),(uQ 0),(uQ 0),.zs,.zs]) (zs:=[.int .i64 0,.int .i64 0,.int .i64 0,.int .i64 0,.int .u64 0,.int .u64 0,.int .u64 0,.slice 5 [],.slice 4 []]) da (Of.mk 0 0 (Bk.mk 0 0 (0,0) 0) (Vw.mk [] [])) Z Z Z bp Tryz.underlying3 (fun _=>rfl) (by kernel_rfl) Z ⟨rfl,rfl,rfl,rfl,rfl,rfl,rfl,⟨_,rfl⟩,⟨_,rfl⟩,trivial⟩ q1 Z Z) ?_;refine zM Z<|yS Z (aa.lenZ Z Z (by kernel_rfl))<|zg h fun q2 h=>yS Z (aa.sliceVHi Z Z Z Z bp q2)<|mN Z<|qR<|zM Z<|mN Z<|zr ?_;cases h;exact aD (.one (.tmp Z))<|⟨rfl,rfl⟩
  ·refine zo g2 h fun h=>zk<|zT<|zQ<|LW.ent (bW.lazy (t:=0) (m:=9) Z Z Z)<|zR<|zM Z<|mN Z<|zr ?_;cases h;exact aD (.one (.tmp Z))<|⟨rfl,rfl⟩
structure ey where
 size:Int
 t11:Int
structure ez where
 newslice:Nat
 t27:Int
 o0:List Of
def jx (slices:List (List Of))(x1:ey):Option (ey⊕ey):=bif decide (x1.t11<(slices.length:Int))then (ix slices x1.t11).bind fun y1=>bif decide ((i64.wrap (x1.size+(y1.length:Int)))<0)then none else some (.inl (ey.mk (i64.wrap (x1.size+(y1.length:Int))) (i64.wrap (x1.t11+1))))else some (.inr (ey.mk x1.size x1.t11))
def jy (slices:List (List Of))(x2:ez):Option (ez⊕ez):=bif decide (x2.t27<(slices.length:Int))then (ix slices x2.t27).bind fun y2=>bif decide (x2.newslice+y2.length<=x2.o0.length)then some (.inl (ez.mk (x2.newslice+y2.length) (i64.wrap (x2.t27+1)) (gX x2.o0 x2.newslice y2)))else none else some (.inr (ez.mk x2.newslice x2.t27 x2.o0))
def yl (slices:List (List Of)):Option (List Of):=(iter (jx slices) aY (ey.mk 0 0)).bind fun v1=>(zw v1.size).bind fun v2=>(iter (jy slices) aY (ez.mk 0 0 v2)).bind fun v3=>bif Nat.ble v3.newslice v3.o0.length then some (v3.o0.take v3.newslice)else none
theorem N6 {slices:List (List Of)}{r_:(List Of)}(h:yl slices=some r_):aq prog 83 [.slice 1 (slices.map (Ps 9 da))] [.slice 9 (r_.map da)]:=by
 refine zh Tryz.func83 Z Z Z Z ?_;unfold yl at h;refine qR<|mN Z<|qR<|mN Z<|zQ<|qR<|zM Z<|yS Z (cx Z Z)<|mN Z ?_;obtain⟨v1,p1,b1⟩:=zB h;clear h;refine LW.tail (E:=[(0,.p (.slice 1 (slices.map (Ps 9 da)))),(2,.zs),(3,(iQ v1.size))]) (O:=[]) ?_<|fun e1 K1 u1=>?_
 ·refine LW.block ?_;refine LW.iterB (E:=fun x1:ey=>[(0,.p (.slice 1 (slices.map (Ps 9 da)))),(2,.zs),(3,(iQ x1.size)),(9,.p (.slice 1 (slices.map (Ps 9 da)))),(10,.p (.int .i64 (slices.length:Int))),(11,(iQ x1.t11))]) (O:=fun x1=>[]) p1 (au 0 ⟨Z,Z,Z,Z,Z,Z,t_⟩)<|fun x1 z1 h m1=>?_;unfold jx at h;refine qR<|yS Z (am Z Z Z Z)<|nT<|zQ ?_;refine zX Z (fun g1=>?_)<|fun g1=>?_
  ·refine zi g1 h fun h=>zk<|zT<|zQ<|zl<|qR<|zb h fun y1 j1 h=>yS Z (zx Z Z Z Cj j1 Z)<|yS Z (bS Z Z Z bq Z Z)<|mN Z<|qR<|zM Z<|zM Z<|yS Z (cx Z Z)<|yS Z (am Z Z Z Z)<|mN Z<|qR<|zM Z<|yS Z (am Z Z Z Z)<|nT ?_;refine zX Z (fun g2=>?_)<|fun g2=>?_
   ·have h:=zI g2 h;cases h
   ·refine zo g2 h fun h=>zk<|ae<|zT<|zR<|yS Z (am Z Z Z Z)<|mN Z ?_;cases h;exact⟨_,rfl,au 0 ⟨Z,Z,Z,Z,Z,Z,t_⟩⟩
  ·refine zo g1 h fun h=>zq<|aj<|aj<|zy<|zT ?_;cases h;obtain rfl:=(m1 _ rfl);exact au 0 ⟨Z,Z,Z,t_⟩
 ·have h:=b1;clear p1;refine zT<|LW.weak u1<|qR<|zM Z<|zb h fun v2 a2 h=>yS Z (yC Z Z Z (LC.frameX (x':=.vec 9 0 (v2.map da).length 0 0) (H':=[.vec 9 (v2.map da)]) (Mm a2) (.consZ (.consC zv .nil)) Z Z Z))<|mN Z<|zQ<|qR<|zM Z<|yS Z (cx Z Z)<|mN Z ?_;obtain⟨v3,p3,b3⟩:=zB h;clear h;refine LW.tail (E:=[(2,.zs),(6,.vec 9 0 (v3.o0.map da).length 0 v3.newslice)]) (O:=[.vec 9 (v3.o0.map da)]) ?_<|fun e3 K3 u3=>?_
  ·refine LW.block ?_;refine LW.iterB (E:=fun x2:ez=>[(2,.zs),(6,.vec 9 0 (x2.o0.map da).length 0 x2.newslice),(25,.p (.slice 1 (slices.map (Ps 9 da)))),(26,.p (.int .i64 (slices.length:Int))),(27,(iQ x2.t27))]) (O:=fun x2=>[.vec 9 (x2.o0.map da)]) p3 (au 1 ⟨Z,Z,Z,Z,Z,t_⟩)<|fun x2 z2 h m2=>?_;unfold jy at h;refine qR<|yS Z (am Z Z Z Z)<|nT<|zQ ?_;refine zX Z (fun g3=>?_)<|fun g3=>?_
   ·refine zi g3 h fun h=>zk<|zT<|zQ<|zl<|qR<|zb h fun y2 j2 h=>yS Z (zx Z Z Z Cj j2 Z)<|yS Z (bS Z Z Z bq Z Z)<|mN Z<|zR<|zM Z<|zM Z<|zg h fun q1 h=>?_;refine yS Z (aa.appendP (f:=da) Z Z Z (fun _=>rfl) Z iC.p Z bp q1 Z) ?_;refine zM Z<|zN<|ae<|zT<|zR<|yS Z (am Z Z Z Z)<|mN Z ?_;cases h;exact⟨_,rfl,au 1 ⟨Z,Z,Z,Z,Z,t_⟩⟩
   ·refine zo g3 h fun h=>zq<|aj<|aj<|zy<|zT ?_;cases h;obtain rfl:=(m2 _ rfl);exact au 1 ⟨Z,Z,t_⟩
  ·have h:=b3;clear p3;refine zT<|LW.weak u3<|qR<|zg h fun q2 h=>zM Z<|mN Z<|zr ?_;cases h;exact zf (.one (.tmp Z))<|(Conv.vecTake Z q2)
end Go.Mg
