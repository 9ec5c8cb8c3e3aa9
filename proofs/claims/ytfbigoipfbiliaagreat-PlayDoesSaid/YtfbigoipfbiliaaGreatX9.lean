/- The references of votes, gold, views. Conditions: none. -/
import Derived.Test.YtfbigoipfbiliaaGreatX8
set_option maxRecDepth 100000
set_option linter.unusedSimpArgs false
set_option linter.unusedVariables false
namespace Go.Mg
open IntKind (i64)
open Go.Proofs.Tryz (prog)
open List (append_nil getElem?_of_mem getElem?_take_of_lt length_append length_map length_singleton length_take mem_append mem_filter mem_singleton take_length)
open Nat (zero_le)
open Option (all_some bind_some)
open Go.Proofs
variable {V v wV : List Vt} {b : Bk} {c : Cf} {f full r_ : Bool} {id : ID} {l wB : List Bk} {m : List (ID × Int)} {n slot upto who : Int} {names nms : List ID} {w : Vw} {y : Vt}
def vl (c:Cf)(b:Bk):Option Bool:=(HW c b.Slot).bind fun v1=>bif decide (v1>=0)then bif v1==b.From then (JA b).bind fun v2=>some (!((v2.1==0)&&((v2.2==0)&&true)))else some false else some false
theorem JO (h:vl c b=some r_):aq prog 92 [gQ c,aA b] [.bool r_]:=by
 refine zh Tryz.func92 Z Z Z Z ?_;unfold vl at h;refine qR<|yS Z (bx Z Z Z Z Z)<|yS Z (bx Z Z Z Z Z)<|mN Z<|qR<|yS Z (zD Z Z Z be Z Z)<|yS Z (zA Z Z fK)<|yS Z (zD Z Z Z aW Z Z)<|zb h fun v1 a1 h=>yS Z (yP Z Z Z (Pd a1) bG)<|mN Z<|qR<|zM Z<|yS Z (an Z Z Z Z)<|zM Z ?_;refine zc 12 Z (fun g1=>?_)<|fun g1=>?_
 ·refine zi g1 h fun h=>yV Z (gd g1 Z) (zm Z Z)<|yV Z (gd g1 Z) (zA Z Z rD)<|yV Z (gd g1 Z) (zD Z Z Z aW Z Z)<|yV Z (gd g1 Z) (an Z Z Z Z)<|yS Z (bv Z (aJ g1 Z) Z)<|zM Z ?_;refine zc 18 Z (fun g2=>?_)<|fun g2=>?_
  ·refine zi g2 h fun h=>yV Z (gd g2 Z) (zD Z Z Z ce Z Z)<|zb h fun v2 a2 h=>yV Z (gd g2 Z) (yP Z Z Z (Pb a2) dG)<|yV Z (gd g2 Z) (aa.build Z ng Z Z Z)<|yV Z (gd g2 Z) (aa.neqAgg Z Z Z Z Z gV)<|yS Z (bv Z (aJ g2 Z) Z)<|mN Z<|zr ?_;cases h;exact aZ Z
  ·refine zo g2 h fun h=>yU Z (gd g2 Z) Z<|yU Z (gd g2 Z) Z<|yU Z (gd g2 Z) Z<|yU Z (gd g2 Z) Z<|yS Z (aT Z (aJ g2 Z) Z)<|mN Z<|zr ?_;cases h;exact aZ Z
 ·refine zo g1 h fun h=>yU Z (gd g1 Z) Z<|yU Z (gd g1 Z) Z<|yU Z (gd g1 Z) Z<|yU Z (gd g1 Z) Z<|yS Z (aT Z (aJ g1 Z) Z)<|zM Z<|aw Z<|aw Z<|aw Z<|aw Z<|yS Z (aT Z Z Z)<|mN Z<|zr ?_;cases h;exact aZ Z
def vn (c:Cf)(v:Vt):Option Bool:=(L4 c v.Slot v.From).bind fun v1=>some v1
theorem JP {v:Vt}(h:vn c v=some r_):aq prog 93 [gQ c,aO v] [.bool r_]:=by
 refine zh Tryz.func93 Z Z Z Z ?_;unfold vn at h;refine qR<|yS Z (bx Z Z Z Z Z)<|yS Z (bx Z Z Z Z Z)<|mN Z<|qR<|yS Z (zD Z Z Z be Z Z)<|yS Z (zA Z Z iZ)<|yS Z (zD Z Z Z aW Z Z)<|yS Z (zA Z Z ik)<|yS Z (zD Z Z Z aW Z Z)<|zb h fun v1 a1 h=>yS Z (yP Z Z Z (Qs a1) pA)<|mN Z<|qR<|zM Z<|mN Z<|zr ?_;cases h;exact aZ Z
structure eZ where
 i:Int
 o4:List Bk
structure e8 where
 i:Int
 o5:List Vt
def kX (c:Cf)(v_in:Vw)(x1:eZ):Option (eZ⊕eZ):=bif decide (x1.i<(v_in.B.length:Int))then (ix v_in.B x1.i).bind fun y1=>(vl c y1).bind fun v2=>bif v2 then (ix v_in.B x1.i).bind fun y2=>bif bJ x1.o4.length [y2].length 40 then some (.inl (eZ.mk (i64.wrap (x1.i+1)) (x1.o4++[y2])))else none else some (.inl (eZ.mk (i64.wrap (x1.i+1)) x1.o4))else some (.inr (eZ.mk x1.i x1.o4))
def kY (c:Cf)(v_in:Vw)(x2:e8):Option (e8⊕e8):=bif decide (x2.i<(v_in.V.length:Int))then (ix v_in.V x2.i).bind fun y3=>(vn c y3).bind fun v4=>bif v4 then (ix v_in.V x2.i).bind fun y4=>bif bJ x2.o5.length [y4].length 32 then some (.inl (e8.mk (i64.wrap (x2.i+1)) (x2.o5++[y4])))else none else some (.inl (e8.mk (i64.wrap (x2.i+1)) x2.o5))else some (.inr (e8.mk x2.i x2.o5))
def vi (c:Cf)(v_in:Vw):Option Vw:=(iter (kX c v_in) aY (eZ.mk 0 ([]:List Bk))).bind fun v1=>(iter (kY c v_in) aY (e8.mk 0 ([]:List Vt))).bind fun v3=>some (Vw.mk v1.o4 v3.o5)
theorem JL {v_in:Vw}{r_:Vw}(h:vi c v_in=some r_):aq prog 47 [gQ c,iB v_in] [iB r_]:=by
 refine zh Tryz.func47 Z Z Z Z ?_;unfold vi at h;refine qR<|yS Z (bx Z Z Z Z Z)<|yS Z (bx Z Z Z Z Z)<|yS Z (ze Z d5 Z Z)<|nT<|qR<|yS Z (ze Z d5 Z Z)<|nT<|zQ<|zQ<|LW.ent (bY.lazyCell (i:=3) (j:=0) (m:=5) Z Z Z Z Z Z)<|LW.ent (bY.lazyCell (i:=3) (j:=1) (m:=4) Z Z Z Z Z Z)<|zR<|mN Z ?_;obtain⟨v1,p1,b1⟩:=zB h;clear h;refine LW.tail (E:=[(2,.ptr 0 0),(3,.ptr 1 0),(4,.ptr 2 0),(5,.ptr 3 0)]) (O:=[.box (ch c),.box (cH v_in),.box [.zs,.zs],.box [(jB 4 v1.o4),(jV 5 ([]:List Vt))],.vec 5 (v1.o4.map aA),.vec 4 (([]:List Vt).map aO)]) ?_<|fun c1 K1 u1=>?_
 ·refine LW.block ?_;refine LW.iterB (E:=fun x1:eZ=>[(2,.ptr 0 0),(3,.ptr 1 0),(4,.ptr 2 0),(5,.ptr 3 0),(6,(iQ x1.i))]) (O:=fun x1=>[.box (ch c),.box (cH v_in),.box [.zs,.zs],.box [(jB 4 x1.o4),(jV 5 ([]:List Vt))],.vec 5 (x1.o4.map aA),.vec 4 (([]:List Vt).map aO)]) p1 (av 6 ⟨Z,Z,Z,Z,Z,t_⟩)<|fun x1 z1 h m1=>?_;unfold kX at h;refine zQ<|qR<|zM Z<|yS Z (zA Z Z aK)<|yS Z (zD Z Z Z bM Z Z)<|yS Z (ck Z Z)<|yS Z (an Z Z Z Z)<|nT ?_;refine zX Z (fun g1=>?_)<|fun g1=>?_
  ·refine zi g1 h fun h=>zk<|zT<|zQ<|zl<|zQ<|dx<|yE Z (zD Z Z Z be Z Z)<|yE Z (zA Z Z aK)<|yE Z (zD Z Z Z bM Z Z)<|zH Z<|zb h fun y1 j1 h=>yE Z (zx Z Z Z cw j1 Z)<|yE Z (bR Z Z Z ce Z Z)<|zb h fun v2 a2 h=>yE Z (yP Z Z Z (JO a2) bG)<|zH Z<|LO.nil<|zT<|qR<|mN Z ?_;refine zX Z (fun g2=>?_)<|fun g2=>?_
   ·refine zi g2 h fun h=>fB<|yG Z (fun H _=>zA Z Z aK)<|yF Z (zd Z Z Z bM Z Z) Z<|yG Z (fun H _=>zA Z Z aK)<|yF Z (zd Z Z Z bM Z Z) Z<|zK Z<|zb h fun y2 j2 h=>yG Z (fun H _=>zx Z Z Z cw j2 Z)<|yG Z (fun H _=>bR Z Z Z ce Z Z)<|yG Z (fun H _=>gR Z cw Z Z Z Z Z)<|zg h fun q1 h=>yF Z (cj.appendX aA x1.o4 [y2] rfl Z Z Z Z cw q1) Z<|yG Z (fun H _=>zA Z Z aK)<|yF Z (zt Z Z Z Z bM Z Z Z) Z ?_;refine LF.nil ⟨by kernel_rfl,?_⟩;refine af<|zT<|zR<|zM Z<|yS Z (an Z Z Z Z)<|mN Z ?_;cases h;exact⟨_,rfl,av 6 ⟨Z,Z,Z,Z,Z,t_⟩⟩
   ·refine zo g2 h fun h=>zk<|af<|zT<|zR<|zM Z<|yS Z (an Z Z Z Z)<|mN Z ?_;cases h;exact⟨_,rfl,av 6 ⟨Z,Z,Z,Z,Z,t_⟩⟩
  ·refine zo g1 h fun h=>zq<|ai<|ai<|zy<|zT ?_;cases h;obtain rfl:=(m1 _ rfl);exact av 6 ⟨Z,Z,Z,Z,t_⟩
 ·have h:=b1;clear p1;refine zT<|LW.weak u1<|zQ<|qR<|mN Z ?_;obtain⟨v3,p3,b3⟩:=zB h;clear h;refine LW.tail (E:=[(4,.ptr 2 0),(5,.ptr 3 0)]) (O:=[.box (ch c),.box (cH v_in),.box [.zs,.zs],.box [(jB 4 v1.o4),(jV 5 v3.o5)],.vec 5 (v1.o4.map aA),.vec 4 (v3.o5.map aO)]) ?_<|fun c3 K3 u3=>?_
  ·refine LW.block ?_;refine LW.iterB (E:=fun x2:e8=>[(2,.ptr 0 0),(3,.ptr 1 0),(4,.ptr 2 0),(5,.ptr 3 0),(8,(iQ x2.i))]) (O:=fun x2=>[.box (ch c),.box (cH v_in),.box [.zs,.zs],.box [(jB 4 v1.o4),(jV 5 x2.o5)],.vec 5 (v1.o4.map aA),.vec 4 (x2.o5.map aO)]) p3 (av 6 ⟨Z,Z,Z,Z,Z,t_⟩)<|fun x2 z2 h m2=>?_;unfold kY at h;refine zQ<|qR<|zM Z<|yS Z (zA Z Z aQ)<|yS Z (zD Z Z Z co Z Z)<|yS Z (ck Z Z)<|yS Z (an Z Z Z Z)<|nT ?_;refine zX Z (fun g3=>?_)<|fun g3=>?_
   ·refine zi g3 h fun h=>zk<|zT<|zQ<|zl<|zQ<|dx<|yE Z (zD Z Z Z be Z Z)<|yE Z (zA Z Z aQ)<|yE Z (zD Z Z Z co Z Z)<|zH Z<|zb h fun y3 j3 h=>yE Z (zx Z Z Z bC j3 Z)<|yE Z (bR Z Z Z cB Z Z)<|zb h fun v4 a4 h=>yE Z (yP Z Z Z (JP a4) bG)<|zH Z<|LO.nil<|zT<|qR<|mN Z ?_;refine zX Z (fun g4=>?_)<|fun g4=>?_
    ·refine zi g4 h fun h=>fB<|yG Z (fun H _=>zA Z Z aQ)<|yF Z (zd Z Z Z co Z Z) Z<|yG Z (fun H _=>zA Z Z aQ)<|yF Z (zd Z Z Z co Z Z) Z<|zK Z<|zb h fun y4 j4 h=>yG Z (fun H _=>zx Z Z Z bC j4 Z)<|yG Z (fun H _=>bR Z Z Z cB Z Z)<|yG Z (fun H _=>gR Z bC Z Z Z Z Z)<|zg h fun q2 h=>yF Z (cj.appendX aO x2.o5 [y4] rfl Z Z Z Z bC q2) Z<|yG Z (fun H _=>zA Z Z aQ)<|yF Z (zt Z Z Z Z co Z Z Z) Z ?_;refine LF.nil ⟨by kernel_rfl,?_⟩;refine af<|zT<|zR<|zM Z<|yS Z (an Z Z Z Z)<|mN Z ?_;cases h;exact⟨_,rfl,av 6 ⟨Z,Z,Z,Z,Z,t_⟩⟩
    ·refine zo g4 h fun h=>zk<|af<|zT<|zR<|zM Z<|yS Z (an Z Z Z Z)<|mN Z ?_;cases h;exact⟨_,rfl,av 6 ⟨Z,Z,Z,Z,Z,t_⟩⟩
   ·refine zo g3 h fun h=>zq<|ai<|ai<|zy<|zT ?_;cases h;obtain rfl:=(m2 _ rfl);exact av 6 ⟨Z,Z,t_⟩
  ·have h:=b3;clear p3;refine zT<|LW.weak u3<|qR<|yS Z (zD Z Z Z aG Z Z)<|yS Z (zs Z Z Z Z aG Z Z Z Z)<|nT<|zr ?_;cases h;exact zf (.one (er Z Z))<|(Conv.agg (.cons (Conv.vecAll Z Z Z) (.cons (Conv.vecAll Z Z Z) .nil)))
structure jw where
 i:Int
def lb (names:List ID)(id:ID)(x1:jw):Option (jw⊕(jw⊕Int)):=bif decide (x1.i<(names.length:Int))then (ix names x1.i).bind fun y1=>bif ((y1.1==id.1)&&((y1.2==id.2)&&true))then some (.inr (.inr x1.i))else some (.inl (jw.mk (i64.wrap (x1.i+1))))else some (.inr (.inl (jw.mk x1.i)))
def vp (names:List ID)(id:ID):Option Int:=(iter (lb names id) aY (jw.mk 0)).bind fun b_v1=>Sum.elim (fun _=>some (-1)) some b_v1
theorem JR {r_:Int}(h:vp names id=some r_):aq prog 211 [.slice 2 (names.map aX),aX id] [.int .i64 r_]:=by
 refine zh Tryz.func211 Z Z Z Z ?_;unfold vp at h;refine qR<|yS Z (bx Z Z Z Z Z)<|mN Z<|zQ<|qR<|mN Z ?_;obtain⟨w1,p1,q1⟩:=zB h;clear h;refine LW.tailB (b:=w1) (E:=fun v1=>[(4,(iQ 0))]) (O:=fun v1=>[.box [(uQ id.1),(uQ id.2)]]) ?_<|fun v1 f1 e1 K1 u1=>?_
 ·refine LW.block ?_;refine LW.iterB (E:=fun x1:jw=>[(0,.p (.slice 2 (names.map aX))),(3,.ptr 0 0),(4,(iQ 0)),(5,(iQ x1.i))]) (O:=fun x1=>[.box [(uQ id.1),(uQ id.2)]]) p1 (av 1 ⟨Z,Z,Z,Z,t_⟩)<|fun x1 z1 h m1=>?_;unfold lb at h;refine zQ<|qR<|zM Z<|zM Z<|yS Z (ck Z Z)<|yS Z (an Z Z Z Z)<|nT ?_;refine zX Z (fun g1=>?_)<|fun g1=>?_
  ·refine zi g1 h fun h=>zk<|zT<|zQ<|zl<|zQ<|dx<|zH Z<|zH Z<|zb h fun y1 j1 h=>yE Z (zx Z Z Z fH j1 Z)<|yE Z (bR Z Z Z aF Z Z)<|yE Z (zD Z Z Z aF Z Z)<|yE Z (aa.eqlAgg Z Z Z Z Z gV)<|LO.nil<|zT ?_;refine zX Z (fun g2=>?_)<|fun g2=>?_
   ·refine zi g2 h fun h=>qR<|zM Z<|mN Z<|zr<|ak<|ae<|ae<|ak<|ae<|ae ?_;cases h;obtain rfl:=(m1 _ rfl);have h:=bO q1;cases h;exact aZ Z
   ·refine zo g2 h fun h=>zk<|af<|zT<|zR<|zM Z<|yS Z (an Z Z Z Z)<|mN Z ?_;cases h;exact⟨_,rfl,av 1 ⟨Z,Z,Z,Z,t_⟩⟩
  ·refine zo g1 h fun h=>zq<|ai<|ai<|zy<|zT ?_;cases h;obtain rfl:=(m1 _ rfl);exact⟨_,rfl,av 1 ⟨Z,t_⟩⟩
 ·obtain rfl:=f1;have h:=cR q1;clear p1;refine zT<|LW.weak u1<|qR<|mN Z<|zr ?_;cases h;exact aZ Z
def tp (l:List Bk)(names:List ID)(id:ID):Option Int:=bif ((id.1==0)&&((id.2==0)&&true))then some 0 else (vp names id).bind fun v1=>bif decide (v1<0)then some (-1)else (ix l v1).bind fun y1=>some y1.Slot
theorem GB {r_:Int}(h:tp l names id=some r_):aq prog 210 [.slice 5 (l.map aA),.slice 2 (names.map aX),aX id] [.int .i64 r_]:=by
 refine zh Tryz.func210 Z Z Z Z ?_;unfold tp at h;refine qR<|yS Z (bx Z Z Z Z Z)<|mN Z<|zQ<|qR<|yS Z (zD Z Z Z aF Z Z)<|yS Z (aa.build Z ng Z Z Z)<|yS Z (aa.eqlAgg Z Z Z Z Z gV)<|nT ?_;refine zX Z (fun g1=>?_)<|fun g1=>?_
 ·refine zi g1 h fun h=>qR<|mN Z<|LW.ret<|ae ?_;cases h;exact aZ Z
 ·refine zo g1 h fun h=>zk<|zT<|qR<|zM Z<|yS Z (zD Z Z Z aF Z Z)<|zb h fun v1 a1 h=>yS Z (yP Z Z Z (JR a1) bG)<|mN Z<|zQ<|qR<|zM Z<|yS Z (an Z Z Z Z)<|nT ?_;refine zX Z (fun g2=>?_)<|fun g2=>?_
  ·refine zi g2 h fun h=>qR<|mN Z<|LW.ret<|ae ?_;cases h;exact aZ Z
  ·refine zo g2 h fun h=>zk<|zT<|qR<|zM Z<|zM Z<|zb h fun y1 j1 h=>yS Z (zx Z Z Z cw j1 Z)<|yS Z (aa.fieldAddrC Z Z fK Z)<|yS Z (bR Z Z Z aW Z Z)<|mN Z<|zr ?_;cases h;exact aZ Z
structure fb where
 i:Int
structure eC where
 i:Int
def ju (c:Cf)(w:Vw)(x1:fb):Option (fb⊕(fb⊕Bool)):=bif decide (x1.i<(w.B.length:Int))then (ix w.B x1.i).bind fun y1=>(vl c y1).bind fun v6=>bif !v6 then some (.inr (.inr false))else some (.inl (fb.mk (i64.wrap (x1.i+1))))else some (.inr (.inl (fb.mk x1.i)))
def iH (c:Cf)(w:Vw)(v1:(List ID))(x2:eC):Option (eC⊕(eC⊕Bool)):=bif decide (x2.i<(w.V.length:Int))then (ix w.V x2.i).bind fun y2=>(tp w.B v1 y2.Head).bind fun v8=>(ix w.V x2.i).bind fun y3=>(vn c y3).bind fun v9=>bif !v9 then some (.inr (.inr false))else bif decide (v8<0)then some (.inr (.inr false))else (ix w.V x2.i).bind fun y4=>bif decide (v8>y4.Slot)then some (.inr (.inr false))else bif wP w.V 0 x2.i then (ix w.V x2.i).bind fun y5=>(AO (w.V.take x2.i.toNat) y5).bind fun v10=>bif decide (v10>0)then some (.inr (.inr false))else some (.inl (eC.mk (i64.wrap (x2.i+1))))else none else some (.inr (.inl (eC.mk x2.i)))
def xW (c:Cf)(w:Vw):Option Bool:=(JC w.B).bind fun v1=>(xp w.B v1).bind fun v2=>(F0 c).bind fun v3=>(bif !v2 then some true else bif !v3 then some true else bif decide ((w.B.length:Int)>60)then some true else some (decide ((w.V.length:Int)>240))).bind fun v4=>bif v4 then some false else (iter (ju c w) aY (fb.mk 0)).bind fun b_v5=>Sum.elim (fun _=>(iter (iH c w v1) aY (eC.mk 0)).bind fun b_v7=>Sum.elim (fun _=>some true) some b_v7) some b_v5
theorem Nu (h:xW c w=some r_):aq prog 169 [gQ c,iB w] [.bool r_]:=by
 refine zh Tryz.func169 Z Z Z Z ?_;unfold xW at h;refine qR<|yS Z (bx Z Z Z Z Z)<|yS Z (bx Z Z Z Z Z)<|mN Z<|qR<|yS Z (zA Z Z aK)<|yS Z (zD Z Z Z bM Z Z)<|zb h fun v1 a1 h=>yS Z (yP Z Z Z (Pf a1) dG)<|mN Z<|qR<|yS Z (zA Z Z aK)<|yS Z (zD Z Z Z bM Z Z)<|zM Z<|zb h fun v2 a2 h=>yS Z (yP Z Z Z (La a2) bG)<|mN Z<|qR<|yS Z (zD Z Z Z be Z Z)<|zb h fun v3 a3 h=>yS Z (yP Z Z Z (Lf a3) dG)<|mN Z<|zQ ?_;obtain⟨v4,p4,c4⟩:=zB h;clear h;refine LW.cut (E:=[(2,.ptr 0 0),(3,.ptr 1 0),(4,(bQ false)),(5,.p (.slice 2 (v1.map aX))),(39,(bQ v4))]) (O:=[.box (ch c),.box (cH w)]) ?_ ?_
 ·have h:=p4;refine zR<|zM Z<|yS Z (aa.not Z Z)<|zM Z ?_;refine zc 24 Z (fun g1=>?_)<|fun g1=>?_
  ·refine zi g1 h fun h=>yU Z (gd g1 Z) Z<|yU Z (gd g1 Z) Z<|yS Z (bv Z (aJ g1 Z) Z)<|zM Z<|aw Z<|aw Z<|aw Z<|aw Z<|yS Z (bv Z Z Z)<|zM Z<|aw Z<|aw Z<|aw Z<|aw Z<|yS Z (bv Z Z Z)<|nT ?_;cases h;exact av 2 ⟨Z,Z,Z,Z,Z,t_⟩
  ·refine zo g1 h fun h=>yV Z (gd g1 Z) (zm Z Z)<|yV Z (gd g1 Z) (aa.not Z Z)<|yS Z (aT Z (aJ g1 Z) Z)<|zM Z ?_;refine zc 28 Z (fun g2=>?_)<|fun g2=>?_
   ·refine zi g2 h fun h=>yU Z (gd g2 Z) Z<|yU Z (gd g2 Z) Z<|yU Z (gd g2 Z) Z<|yU Z (gd g2 Z) Z<|yS Z (bv Z (aJ g2 Z) Z)<|zM Z<|aw Z<|aw Z<|aw Z<|aw Z<|yS Z (bv Z Z Z)<|nT ?_;cases h;exact av 2 ⟨Z,Z,Z,Z,Z,t_⟩
   ·refine zo g2 h fun h=>yV Z (gd g2 Z) (zA Z Z aK)<|yV Z (gd g2 Z) (zD Z Z Z bM Z Z)<|yV Z (gd g2 Z) (ck Z Z)<|yV Z (gd g2 Z) (an Z Z Z Z)<|yS Z (aT Z (aJ g2 Z) Z)<|zM Z ?_;refine zc 34 Z (fun g3=>?_)<|fun g3=>?_
    ·refine zi g3 h fun h=>yU Z (gd g3 Z) Z<|yU Z (gd g3 Z) Z<|yU Z (gd g3 Z) Z<|yU Z (gd g3 Z) Z<|yS Z (bv Z (aJ g3 Z) Z)<|nT ?_;cases h;exact av 2 ⟨Z,Z,Z,Z,Z,t_⟩
    ·refine zo g3 h fun h=>yV Z (gd g3 Z) (zA Z Z aQ)<|yV Z (gd g3 Z) (zD Z Z Z co Z Z)<|yV Z (gd g3 Z) (ck Z Z)<|yV Z (gd g3 Z) (an Z Z Z Z)<|yS Z (aT Z (aJ g3 Z) Z)<|nT ?_;cases h;exact av 2 ⟨Z,Z,Z,Z,Z,t_⟩
 ·have h :=c4;clear p4;refine zX Z (fun g4=>?_)<|fun g4=>?_
  ·refine zi g4 h fun h=>qR<|mN Z<|LW.ret<|ae ?_;cases h;exact aZ Z
  ·refine zo g4 h fun h=>zk<|zT<|zQ<|qR<|mN Z ?_;obtain⟨w5,p5,c5⟩:=zB h;clear h;refine LW.tailB (b:=w5) (E:=fun v5=>[(2,.ptr 0 0),(3,.ptr 1 0),(4,(bQ false)),(5,.p (.slice 2 (v1.map aX)))]) (O:=fun v5=>[.box (ch c),.box (cH w)]) ?_<|fun v5 f5 e5 K5 u5=>?_
   ·refine LW.block ?_;refine LW.iterB (E:=fun x1:fb=>[(2,.ptr 0 0),(3,.ptr 1 0),(4,(bQ false)),(5,.p (.slice 2 (v1.map aX))),(8,(iQ x1.i))]) (O:=fun x1=>[.box (ch c),.box (cH w)]) p5 (av 2 ⟨Z,Z,Z,Z,Z,t_⟩)<|fun x1 z1 h m1=>?_;unfold ju at h;refine zQ<|qR<|zM Z<|yS Z (zA Z Z aK)<|yS Z (zD Z Z Z bM Z Z)<|yS Z (ck Z Z)<|yS Z (an Z Z Z Z)<|nT ?_;refine zX Z (fun g5=>?_)<|fun g5=>?_
    ·refine zi g5 h fun h=>zk<|zT<|zQ<|zl<|zQ<|dx<|yE Z (zD Z Z Z be Z Z)<|yE Z (zA Z Z aK)<|yE Z (zD Z Z Z bM Z Z)<|zH Z<|zb h fun y1 j1 h=>yE Z (zx Z Z Z cw j1 Z)<|yE Z (bR Z Z Z ce Z Z)<|zb h fun v6 a6 h=>yE Z (yP Z Z Z (JO a6) bG)<|zH Z<|LO.nil<|zT<|qR<|zM Z<|yS Z (aa.not Z Z)<|nT ?_;refine zX Z (fun g6=>?_)<|fun g6=>?_
     ·refine zi g6 h fun h=>qR<|mN Z<|LW.ret<|ak<|ae<|ae<|ak<|ae<|ae ?_;cases h;obtain rfl:=(m1 _ rfl);have h:=bO c5;cases h;exact aZ Z
     ·refine zo g6 h fun h=>zk<|af<|zT<|zR<|zM Z<|yS Z (an Z Z Z Z)<|mN Z ?_;cases h;exact⟨_,rfl,av 2 ⟨Z,Z,Z,Z,Z,t_⟩⟩
    ·refine zo g5 h fun h=>zq<|ai<|ai<|zy<|zT ?_;cases h;obtain rfl:=(m1 _ rfl);exact⟨_,rfl,av 2 ⟨Z,Z,Z,Z,t_⟩⟩
   ·obtain rfl:=f5;have h:=cR c5;clear p5;refine zT<|LW.weak u5<|zQ<|qR<|mN Z ?_;obtain⟨w7,p7,c7⟩:=zB h;clear h;refine LW.tailB (b:=w7) (E:=fun v7=>[(4,(bQ false))]) (O:=fun v7=>[.box (ch c),.box (cH w)]) ?_<|fun v7 f7 e7 K7 u7=>?_
    ·refine LW.block ?_;refine LW.iterB (E:=fun x2:eC=>[(2,.ptr 0 0),(3,.ptr 1 0),(4,(bQ false)),(5,.p (.slice 2 (v1.map aX))),(10,(iQ x2.i))]) (O:=fun x2=>[.box (ch c),.box (cH w)]) p7 (av 2 ⟨Z,Z,Z,Z,Z,t_⟩)<|fun x2 z2 h m2=>?_;unfold iH at h;refine zQ<|qR<|zM Z<|yS Z (zA Z Z aQ)<|yS Z (zD Z Z Z co Z Z)<|yS Z (ck Z Z)<|yS Z (an Z Z Z Z)<|nT ?_;refine zX Z (fun g7=>?_)<|fun g7=>?_
     ·refine zi g7 h fun h=>zk<|zT<|zQ<|zl<|zQ<|dx<|yE Z (zA Z Z aK)<|yE Z (zD Z Z Z bM Z Z)<|zH Z<|yE Z (zA Z Z aQ)<|yE Z (zD Z Z Z co Z Z)<|zH Z<|zb h fun y2 j2 h=>yE Z (zx Z Z Z bC j2 Z)<|yE Z (aa.fieldAddrC Z Z i2 Z)<|yE Z (bR Z Z Z aF Z Z)<|zb h fun v8 a8 h=>yE Z (yP Z Z Z (GB a8) pA)<|zH Z<|LO.nil<|zT<|zQ<|dx<|yE Z (zD Z Z Z be Z Z)<|yE Z (zA Z Z aQ)<|yE Z (zD Z Z Z co Z Z)<|zH Z<|zb h fun y3 j3 h=>yE Z (zx Z Z Z bC j3 Z)<|yE Z (bR Z Z Z cB Z Z)<|zb h fun v9 a9 h=>yE Z (yP Z Z Z (JP a9) bG)<|zH Z<|LO.nil<|zT<|zQ<|dx<|zH Z<|yE Z (aa.not Z Z)<|zH Z ?_;refine LO.cases 82 Z (fun(g8:(!v9)=true)=>?_) (fun(g8:(!v9)=false)=>?_)
      ·refine zi g8 h fun h=>yK Z (gd g8 Z) Z<|yK Z (gd g8 Z) Z<|yE Z (bv Z (aJ g8 Z) Z)<|zH Z<|b8 Z<|b8 Z<|b8 Z<|b8 Z<|b8 Z<|b8 Z<|b8 Z<|b8 Z<|yE Z (bv Z Z Z)<|zH Z<|b8 Z<|b8 Z<|b8 Z<|b8 Z<|b8 Z<|b8 Z<|b8 Z<|b8 Z<|b8 Z<|b8 Z<|b8 Z<|yE Z (bv Z Z Z)<|LO.nil<|zT<|LW.condT Z<|qR<|mN Z<|zr<|ak<|ae<|ae<|ak<|ae<|ae ?_;cases h;obtain rfl:=(m2 _ rfl);have h:=bO c7;cases h;exact aZ Z
      ·refine zo g8 h fun h=>yL Z (gd g8 Z) (zm Z Z)<|yL Z (gd g8 Z) (an Z Z Z Z)<|yE Z (aT Z (aJ g8 Z) Z)<|zH Z ?_;refine LO.cases 86 Z (fun(g9:(decide (v8<0))=true)=>?_) (fun(g9:(decide (v8<0))=false)=>?_)
       ·refine zi g9 h fun h=>yK Z (gd g9 Z) Z<|yK Z (gd g9 Z) Z<|yK Z (gd g9 Z) Z<|yK Z (gd g9 Z) Z<|yK Z (gd g9 Z) Z<|yK Z (gd g9 Z) Z<|yK Z (gd g9 Z) Z<|yK Z (gd g9 Z) Z<|yE Z (bv Z (aJ g9 Z) Z)<|zH Z<|b8 Z<|b8 Z<|b8 Z<|b8 Z<|b8 Z<|b8 Z<|b8 Z<|b8 Z<|b8 Z<|b8 Z<|b8 Z<|yE Z (bv Z Z Z)<|LO.nil<|zT<|LW.condT Z<|qR<|mN Z<|zr<|ak<|ae<|ae<|ak<|ae<|ae ?_;cases h;obtain rfl:=(m2 _ rfl);have h:=bO c7;cases h;exact aZ Z
       ·refine zo g9 h fun h=>yL Z (gd g9 Z) (zm Z Z)<|yL Z (gd g9 Z) (zA Z Z aQ)<|yL Z (gd g9 Z) (zD Z Z Z co Z Z)<|yL Z (gd g9 Z) (zm Z Z)<|zb h fun y4 j4 h=>yL Z (gd g9 Z) (zx Z Z Z bC j4 Z)<|yL Z (gd g9 Z) (aa.fieldAddrC Z Z iZ Z)<|yL Z (gd g9 Z) (bR Z Z Z aW Z Z)<|yL Z (gd g9 Z) (an Z Z Z Z)<|yE Z (aT Z (aJ g9 Z) Z)<|zH Z ?_;refine LO.cases 96 Z (fun(g10:(decide (v8>y4.Slot))=true)=>?_) (fun(g10:(decide (v8>y4.Slot))=false)=>?_)
        ·refine zi g10 h fun h=>yK Z (gd g10 Z) Z<|yK Z (gd g10 Z) Z<|yK Z (gd g10 Z) Z<|yK Z (gd g10 Z) Z<|yK Z (gd g10 Z) Z<|yK Z (gd g10 Z) Z<|yK Z (gd g10 Z) Z<|yK Z (gd g10 Z) Z<|yK Z (gd g10 Z) Z<|yK Z (gd g10 Z) Z<|yK Z (gd g10 Z) Z<|yE Z (bv Z (aJ g10 Z) Z)<|LO.nil<|zT<|LW.condT Z<|qR<|mN Z<|zr<|ak<|ae<|ae<|ak<|ae<|ae ?_;cases h;obtain rfl:=(m2 _ rfl);have h:=bO c7;cases h;exact aZ Z
        ·refine zo g10 h fun h=>yL Z (gd g10 Z) (zA Z Z aQ)<|yL Z (gd g10 Z) (zD Z Z Z co Z Z)<|yL Z (gd g10 Z) (zm Z Z)<|zg h fun q1 h=>yL Z (gd g10 Z) (aa.sliceHi Z Z Z bC q1)<|yL Z (gd g10 Z) (zA Z Z aQ)<|yL Z (gd g10 Z) (zD Z Z Z co Z Z)<|yL Z (gd g10 Z) (zm Z Z)<|zb h fun y5 j5 h=>yL Z (gd g10 Z) (zx Z Z Z bC j5 Z)<|yL Z (gd g10 Z) (bR Z Z Z cB Z Z)<|zb h fun v10 a10 h=>yL Z (gd g10 Z) (yP Z Z Z (Lb a10) bG)<|yL Z (gd g10 Z) (an Z Z Z Z)<|yE Z (aT Z (aJ g10 Z) Z)<|LO.nil<|zT ?_;refine zX Z (fun g11=>?_)<|fun g11=>?_
         ·refine zi g11 h fun h=>qR<|mN Z<|LW.ret<|ak<|ae<|ae<|ak<|ae<|ae ?_;cases h;obtain rfl:=(m2 _ rfl);have h:=bO c7;cases h;exact aZ Z
         ·refine zo g11 h fun h=>zk<|af<|zT<|zR<|zM Z<|yS Z (an Z Z Z Z)<|mN Z ?_;cases h;exact⟨_,rfl,av 2 ⟨Z,Z,Z,Z,Z,t_⟩⟩
     ·refine zo g7 h fun h=>zq<|ai<|ai<|zy<|zT ?_;cases h;obtain rfl:=(m2 _ rfl);exact⟨_,rfl,av 2 ⟨Z,t_⟩⟩
    ·obtain rfl:=f7;have h:=cR c7;clear p7;refine zT<|LW.weak u7<|qR<|mN Z<|zr ?_;cases h;exact aZ Z
structure iI where
 v_at:Int
def p3 (l:List Int)(n:Int)(x1:iI):Option (iI⊕iI):=bif decide (x1.v_at>0)then (ix l (i64.wrap (x1.v_at-1))).bind fun y1=>bif decide (y1>n)then some (.inl (iI.mk (i64.wrap (x1.v_at-1))))else some (.inr (iI.mk x1.v_at))else some (.inr (iI.mk x1.v_at))
def x6 (l:List Int)(n:Int):Option (List Int):=(iter (p3 l n) aY (iI.mk (l.length:Int))).bind fun v1=>(bif decide (v1.v_at>0)then (ix l (i64.wrap (v1.v_at-1))).bind fun y2=>bif y2==n then some (.inr l)else some (.inl ())else some (.inl ())).bind fun b_v2=>Sum.elim (fun _=>bif wP l 0 v1.v_at then bif bJ 0 (l.take v1.v_at.toNat).length 8 then bif bJ (l.take v1.v_at.toNat).length [n].length 8 then bif wP l v1.v_at l.length then bif bJ ((l.take v1.v_at.toNat)++[n]).length (l.drop v1.v_at.toNat).length 8 then some (((l.take v1.v_at.toNat)++[n])++(l.drop v1.v_at.toNat))else none else none else none else none else none) some b_v2
theorem NA {l:List Int}{r_:(List Int)}(h:x6 l n=some r_):aq prog 223 [.slice 1 (l.map bh),.int .i64 n] [.slice 1 (r_.map bh)]:=by
 refine zh Tryz.func223 Z Z Z Z ?_;unfold x6 at h;refine qR<|mN Z<|qR<|zM Z<|yS Z (ck Z Z)<|mN Z ?_;obtain⟨v1,a1,b1⟩:=zB h;clear h;refine LW.cut (E:=[(0,(kI l)),(1,(iQ n)),(4,.zs),(5,(iQ v1.v_at))]) (O:=[]) ?_ ?_
 ·refine LW.block ?_;refine LW.iterB (E:=fun x1:iI=>[(0,(kI l)),(1,(iQ n)),(4,.zs),(5,(iQ x1.v_at))]) (O:=fun x1=>[]) a1 (av 0 ⟨Z,Z,Z,Z,t_⟩)<|fun x1 z1 h m1=>?_;unfold p3 at h;refine zQ<|qR<|zM Z<|yS Z (an Z Z Z Z)<|zM Z ?_;refine zc 11 Z (fun g1=>?_)<|fun g1=>?_
  ·refine zi g1 h fun h=>yV Z (gd g1 Z) (zm Z Z)<|yV Z (gd g1 Z) (zm Z Z)<|yV Z (gd g1 Z) (an Z Z Z Z)<|zb h fun y1 j1 h=>yV Z (gd g1 Z) (zx Z Z Z dL j1 Z)<|yV Z (gd g1 Z) (bR Z Z Z aW Z Z)<|yV Z (gd g1 Z) (zm Z Z)<|yV Z (gd g1 Z) (an Z Z Z Z)<|yS Z (bv Z (aJ g1 Z) Z)<|nT ?_;refine zX Z (fun g2=>?_)<|fun g2=>?_
   ·refine zi g2 h fun h=>zk<|zT<|zl<|zR<|zM Z<|yS Z (an Z Z Z Z)<|zM Z<|zN<|af<|zT ?_;cases h;exact⟨_,rfl,av 0 ⟨Z,Z,Z,Z,t_⟩⟩
   ·refine zo g2 h fun h=>zq<|ai<|ai<|zy<|zT ?_;cases h;obtain rfl:=(m1 _ rfl);exact av 0 ⟨Z,Z,Z,Z,t_⟩
  ·refine zo g1 h fun h=>yU Z (gd g1 Z) Z<|yU Z (gd g1 Z) Z<|yU Z (gd g1 Z) Z<|yU Z (gd g1 Z) Z<|yU Z (gd g1 Z) Z<|yU Z (gd g1 Z) Z<|yU Z (gd g1 Z) Z<|yS Z (aT Z (aJ g1 Z) Z)<|nT<|LW.condF Z<|zq<|ai<|ai<|zy<|zT ?_;cases h;obtain rfl:=(m1 _ rfl);exact av 0 ⟨Z,Z,Z,Z,t_⟩
 ·have h:=b1;clear a1;obtain⟨w2,a2,b2⟩:=zB h;clear h;refine LW.cutB (b:=w2) (E:=fun v2=>[(0,(kI l)),(1,(iQ n)),(4,.zs),(5,(iQ v1.v_at))]) (O:=fun v2=>[]) ?_<|fun v2 f2=>?_
  ·have h:=a2;refine qR<|zM Z<|yS Z (an Z Z Z Z)<|zM Z ?_;refine zc 24 Z (fun g3=>?_)<|fun g3=>?_
   ·refine zi g3 h fun h=>yV Z (gd g3 Z) (zm Z Z)<|yV Z (gd g3 Z) (zm Z Z)<|yV Z (gd g3 Z) (an Z Z Z Z)<|zb h fun y2 j2 h=>yV Z (gd g3 Z) (zx Z Z Z dL j2 Z)<|yV Z (gd g3 Z) (bR Z Z Z aW Z Z)<|yV Z (gd g3 Z) (zm Z Z)<|yV Z (gd g3 Z) (an Z Z Z Z)<|yS Z (bv Z (aJ g3 Z) Z)<|nT ?_;refine zX Z (fun g4=>?_)<|fun g4=>?_
    ·refine zi g4 h fun h=>qR<|zM Z<|mN Z<|zr<|ae ?_;cases h;have h:=bO b2;cases h;exact aZ Z
    ·refine zo g4 h fun h=>zk<|zT ?_;cases h;exact⟨_,rfl,av 0 ⟨Z,Z,Z,Z,t_⟩⟩
   ·refine zo g3 h fun h=>yU Z (gd g3 Z) Z<|yU Z (gd g3 Z) Z<|yU Z (gd g3 Z) Z<|yU Z (gd g3 Z) Z<|yU Z (gd g3 Z) Z<|yU Z (gd g3 Z) Z<|yU Z (gd g3 Z) Z<|yS Z (aT Z (aJ g3 Z) Z)<|nT<|LW.condF Z<|zk<|zT ?_;cases h;exact⟨_,rfl,av 0 ⟨Z,Z,Z,Z,t_⟩⟩
  ·obtain rfl:=f2;have h:=cR b2;clear a2;refine qR<|zM Z<|zM Z<|zg h fun q1 h=>yS Z (aa.sliceHi Z Z Z dL q1)<|zg h fun q2 h=>yS Z (aa.appendZX bh (l.take v1.v_at.toNat) Z Z Z Z iy.p Z dL q2 Z)<|mN Z<|qR<|zM Z<|zM Z<|yS Z (gR Z dL Z Z Z Z Z)<|zg h fun q3 h=>yS Z (aa.appendX bh (l.take v1.v_at.toNat) [n] rfl Z Z Z iy.p Z dL q3 Z)<|mN Z<|qR<|zM Z<|zM Z<|zM Z<|zg h fun q4 h=>yS Z (aa.sliceLo Z Z Z dL q4)<|zg h fun q5 h=>yS Z (aa.appendX bh ((l.take v1.v_at.toNat)++[n]) (l.drop v1.v_at.toNat) Z Z Z Z iy.p Z dL q5 Z)<|mN Z<|zr ?_;cases h;exact zf (.one (.tmp Z))<|(Conv.vecAll Z Z Z)
structure jv where
 out:List Int
 i:Int
def pY (l:List Vt)(x1:jv):Option (jv⊕jv):=bif decide (x1.i<(l.length:Int))then (ix l x1.i).bind fun y1=>(x6 x1.out y1.From).bind fun v2=>some (.inl (jv.mk v2 (i64.wrap (x1.i+1))))else some (.inr (jv.mk x1.out x1.i))
def xY (l:List Vt):Option (List Int):=(iter (pY l) aY (jv.mk ([]:List Int) 0)).bind fun v1=>some v1.out
theorem Nx {l:List Vt}{r_:(List Int)}(h:xY l=some r_):aq prog 187 [.slice 4 (l.map aO)] [.slice 1 (r_.map bh)]:=by
 refine zh Tryz.func187 Z Z Z Z ?_;unfold xY at h;refine qR<|mN Z<|qR<|mN Z<|zQ<|qR<|mN Z<|LW.ent (bY.zsP (t:=3) (m:=1) Z) ?_;obtain⟨v1,p1,q1⟩:=zB h;clear h;refine LW.tail (E:=[(2,.zs),(3,(kI v1.out))]) (O:=[]) ?_<|fun e1 K1 u1=>?_
 ·refine LW.block ?_;refine LW.iterB (E:=fun x1:jv=>[(0,(kV l)),(2,.zs),(3,(kI x1.out)),(4,(iQ x1.i))]) (O:=fun x1=>[]) p1 (av 0 ⟨Z,Z,Z,Z,t_⟩)<|fun x1 z1 h m1=>?_;unfold pY at h;refine zQ<|qR<|zM Z<|zM Z<|yS Z (ck Z Z)<|yS Z (an Z Z Z Z)<|nT ?_;refine zX Z (fun g1=>?_)<|fun g1=>?_
  ·refine zi g1 h fun h=>zk<|zT<|zQ<|zl<|zR<|zM Z<|zM Z<|zM Z<|zb h fun y1 j1 h=>yS Z (zx Z Z Z bC j1 Z)<|yS Z (aa.fieldAddrC Z Z ik Z)<|yS Z (bR Z Z Z aW Z Z)<|zb h fun v2 a2 h=>yS Z (yP Z Z Z (NA a2) bG)<|zM Z<|zN<|af<|zT<|zR<|zM Z<|yS Z (an Z Z Z Z)<|mN Z ?_;cases h;exact⟨_,rfl,av 0 ⟨Z,Z,Z,Z,t_⟩⟩
  ·refine zo g1 h fun h=>zq<|ai<|ai<|zy<|zT ?_;cases h;obtain rfl:=(m1 _ rfl);exact av 0 ⟨Z,Z,t_⟩
 ·have h:=q1;clear p1;refine zT<|LW.weak u1<|qR<|zM Z<|mN Z<|zr ?_;cases h;exact aZ Z
structure eD where
 i:Int
structure dQ where
 k:Int
def la (l:List Vt)(slot:Int)(who:Int)(x1:eD)(x2:dQ):Option (dQ⊕(dQ⊕(eD⊕(eD⊕Bool)))):=bif decide (x2.k<x1.i)then (ix l x1.i).bind fun y1=>bif y1.From==who then (ix l x2.k).bind fun y2=>bif y2.From==who then (ix l x1.i).bind fun y3=>bif y3.Slot==slot then (ix l x2.k).bind fun y4=>bif y4.Slot==slot then (ix l x1.i).bind fun y5=>(ix l x2.k).bind fun y6=>bif !((y5.Head.1==y6.Head.1)&&((y5.Head.2==y6.Head.2)&&true))then some (.inr (.inr (.inr (.inr true))))else some (.inl (dQ.mk (i64.wrap (x2.k+1))))else some (.inl (dQ.mk (i64.wrap (x2.k+1))))else some (.inl (dQ.mk (i64.wrap (x2.k+1))))else some (.inl (dQ.mk (i64.wrap (x2.k+1))))else some (.inl (dQ.mk (i64.wrap (x2.k+1))))else some (.inr (.inl (dQ.mk x2.k)))
def pZ (l:List Vt)(slot:Int)(who:Int)(x1:eD):Option (eD⊕(eD⊕Bool)):=bif decide (x1.i<(l.length:Int))then (iter (la l slot who x1) aY (dQ.mk 0)).bind fun b_v2=>Sum.elim (fun _=>some (.inl (eD.mk (i64.wrap (x1.i+1))))) some b_v2 else some (.inr (.inl (eD.mk x1.i)))
def xZ (l:List Vt)(slot:Int)(who:Int):Option Bool:=(iter (pZ l slot who) aY (eD.mk 0)).bind fun b_v1=>Sum.elim (fun _=>some false) some b_v1
theorem Ny {l:List Vt}(h:xZ l slot who=some r_):aq prog 188 [.slice 4 (l.map aO),.int .i64 slot,.int .i64 who] [.bool r_]:=by
 refine zh Tryz.func188 Z Z Z Z ?_;unfold xZ at h;refine qR<|mN Z<|zQ<|qR<|mN Z ?_;obtain⟨w1,p1,q1⟩:=zB h;clear h;refine LW.tailB (b:=w1) (E:=fun v1=>[(6,(bQ false))]) (O:=fun v1=>[]) ?_<|fun v1 f1 e1 K1 u1=>?_
 ·refine LW.block ?_;refine LW.iterB (E:=fun x1:eD=>[(0,(kV l)),(1,(iQ slot)),(2,(iQ who)),(6,(bQ false)),(7,(iQ x1.i))]) (O:=fun x1=>[]) p1 (av 0 ⟨Z,Z,Z,Z,Z,t_⟩)<|fun x1 z1 h m1=>?_;unfold pZ at h;refine zQ<|qR<|zM Z<|zM Z<|yS Z (ck Z Z)<|yS Z (an Z Z Z Z)<|nT ?_;refine zX Z (fun g1=>?_)<|fun g1=>?_
  ·refine zi g1 h fun h=>zk<|zT<|zQ<|zl<|qR<|mN Z ?_;obtain⟨w2,p2,q2⟩:=zB h;clear h;refine LW.tailB (b:=w2) (E:=fun v2=>[(0,(kV l)),(1,(iQ slot)),(2,(iQ who)),(6,(bQ false)),(7,(iQ x1.i))]) (O:=fun v2=>[]) ?_<|fun v2 f2 e2 K2 u2=>?_
   ·refine LW.block ?_;refine LW.iterB (E:=fun x2:dQ=>[(0,(kV l)),(1,(iQ slot)),(2,(iQ who)),(6,(bQ false)),(7,(iQ x1.i)),(8,(iQ x2.k))]) (O:=fun x2=>[]) p2 (av 0 ⟨Z,Z,Z,Z,Z,Z,t_⟩)<|fun x2 z2 h m2=>?_;unfold la at h;refine zQ<|qR<|zM Z<|zM Z<|yS Z (an Z Z Z Z)<|nT ?_;refine zX Z (fun g2=>?_)<|fun g2=>?_
    ·refine zi g2 h fun h=>zk<|zT<|zQ<|zl<|zQ<|dx<|zH Z<|zH Z<|zb h fun y1 j1 h=>yE Z (zx Z Z Z bC j1 Z)<|yE Z (aa.fieldAddrC Z Z ik Z)<|yE Z (bR Z Z Z aW Z Z)<|zH Z<|yE Z (an Z Z Z Z)<|zH Z ?_;refine LO.cases 27 Z (fun(g3:(y1.From==who)=true)=>?_) (fun(g3:(y1.From==who)=false)=>?_)
     ·refine zi g3 h fun h=>yL Z (gd g3 Z) (zm Z Z)<|yL Z (gd g3 Z) (zm Z Z)<|zb h fun y2 j2 h=>yL Z (gd g3 Z) (zx Z Z Z bC j2 Z)<|yL Z (gd g3 Z) (aa.fieldAddrC Z Z ik Z)<|yL Z (gd g3 Z) (bR Z Z Z aW Z Z)<|yL Z (gd g3 Z) (zm Z Z)<|yL Z (gd g3 Z) (an Z Z Z Z)<|yE Z (bv Z (aJ g3 Z) Z)<|zH Z ?_;refine LO.cases 36 Z (fun(g4:(y2.From==who)=true)=>?_) (fun(g4:(y2.From==who)=false)=>?_)
      ·refine zi g4 h fun h=>yL Z (gd g4 Z) (zm Z Z)<|yL Z (gd g4 Z) (zm Z Z)<|zb h fun y3 j3 h=>yL Z (gd g4 Z) (zx Z Z Z bC j3 Z)<|yL Z (gd g4 Z) (aa.fieldAddrC Z Z iZ Z)<|yL Z (gd g4 Z) (bR Z Z Z aW Z Z)<|yL Z (gd g4 Z) (zm Z Z)<|yL Z (gd g4 Z) (an Z Z Z Z)<|yE Z (bv Z (aJ g4 Z) Z)<|zH Z ?_;refine LO.cases 45 Z (fun(g5:(y3.Slot==slot)=true)=>?_) (fun(g5:(y3.Slot==slot)=false)=>?_)
       ·refine zi g5 h fun h=>yL Z (gd g5 Z) (zm Z Z)<|yL Z (gd g5 Z) (zm Z Z)<|zb h fun y4 j4 h=>yL Z (gd g5 Z) (zx Z Z Z bC j4 Z)<|yL Z (gd g5 Z) (aa.fieldAddrC Z Z iZ Z)<|yL Z (gd g5 Z) (bR Z Z Z aW Z Z)<|yL Z (gd g5 Z) (zm Z Z)<|yL Z (gd g5 Z) (an Z Z Z Z)<|yE Z (bv Z (aJ g5 Z) Z)<|zH Z ?_;refine LO.cases 54 Z (fun(g6:(y4.Slot==slot)=true)=>?_) (fun(g6:(y4.Slot==slot)=false)=>?_)
        ·refine zi g6 h fun h=>yL Z (gd g6 Z) (zm Z Z)<|yL Z (gd g6 Z) (zm Z Z)<|zb h fun y5 j5 h=>yL Z (gd g6 Z) (zx Z Z Z bC j5 Z)<|yL Z (gd g6 Z) (aa.fieldAddrC Z Z i2 Z)<|yL Z (gd g6 Z) (bR Z Z Z aF Z Z)<|yL Z (gd g6 Z) (zm Z Z)<|yL Z (gd g6 Z) (zm Z Z)<|zb h fun y6 j6 h=>yL Z (gd g6 Z) (zx Z Z Z bC j6 Z)<|yL Z (gd g6 Z) (aa.fieldAddrC Z Z i2 Z)<|yL Z (gd g6 Z) (bR Z Z Z aF Z Z)<|yL Z (gd g6 Z) (aa.neqAgg Z Z Z Z Z gV)<|yE Z (bv Z (aJ g6 Z) Z)<|LO.nil<|zT ?_;refine zX Z (fun g7=>?_)<|fun g7=>?_
         ·refine zi g7 h fun h=>qR<|mN Z<|LW.ret<|ak<|ae<|ae<|ak<|ae<|ak<|ae<|ae<|ak<|ae<|ae ?_;cases h;obtain rfl:=(m2 _ rfl);have h:=bO q2;cases h;obtain rfl:=(m1 _ rfl);have h:=bO q1;cases h;exact aZ Z
         ·refine zo g7 h fun h=>zk<|af<|zT<|zR<|zM Z<|yS Z (an Z Z Z Z)<|mN Z ?_;cases h;exact⟨_,rfl,av 0 ⟨Z,Z,Z,Z,Z,Z,t_⟩⟩
        ·refine zo g6 h fun h=>yK Z (gd g6 Z) Z<|yK Z (gd g6 Z) Z<|yK Z (gd g6 Z) Z<|yK Z (gd g6 Z) Z<|yK Z (gd g6 Z) Z<|yK Z (gd g6 Z) Z<|yK Z (gd g6 Z) Z<|yK Z (gd g6 Z) Z<|yK Z (gd g6 Z) Z<|yK Z (gd g6 Z) Z<|yK Z (gd g6 Z) Z<|yE Z (aT Z (aJ g6 Z) Z)<|LO.nil<|zT<|LW.condF Z<|zk<|af<|zT<|zR<|zM Z<|yS Z (an Z Z Z Z)<|mN Z ?_;cases h;exact⟨_,rfl,av 0 ⟨Z,Z,Z,Z,Z,Z,t_⟩⟩
       ·refine zo g5 h fun h=>yK Z (gd g5 Z) Z<|yK Z (gd g5 Z) Z<|yK Z (gd g5 Z) Z<|yK Z (gd g5 Z) Z<|yK Z (gd g5 Z) Z<|yK Z (gd g5 Z) Z<|yK Z (gd g5 Z) Z<|yE Z (aT Z (aJ g5 Z) Z)<|zH Z<|b8 Z<|b8 Z<|b8 Z<|b8 Z<|b8 Z<|b8 Z<|b8 Z<|b8 Z<|b8 Z<|b8 Z<|b8 Z<|yE Z (aT Z Z Z)<|LO.nil<|zT<|LW.condF Z<|zk<|af<|zT<|zR<|zM Z<|yS Z (an Z Z Z Z)<|mN Z ?_;cases h;exact⟨_,rfl,av 0 ⟨Z,Z,Z,Z,Z,Z,t_⟩⟩
      ·refine zo g4 h fun h=>yK Z (gd g4 Z) Z<|yK Z (gd g4 Z) Z<|yK Z (gd g4 Z) Z<|yK Z (gd g4 Z) Z<|yK Z (gd g4 Z) Z<|yK Z (gd g4 Z) Z<|yK Z (gd g4 Z) Z<|yE Z (aT Z (aJ g4 Z) Z)<|zH Z<|b8 Z<|b8 Z<|b8 Z<|b8 Z<|b8 Z<|b8 Z<|b8 Z<|yE Z (aT Z Z Z)<|zH Z<|b8 Z<|b8 Z<|b8 Z<|b8 Z<|b8 Z<|b8 Z<|b8 Z<|b8 Z<|b8 Z<|b8 Z<|b8 Z<|yE Z (aT Z Z Z)<|LO.nil<|zT<|LW.condF Z<|zk<|af<|zT<|zR<|zM Z<|yS Z (an Z Z Z Z)<|mN Z ?_;cases h;exact⟨_,rfl,av 0 ⟨Z,Z,Z,Z,Z,Z,t_⟩⟩
     ·refine zo g3 h fun h=>yK Z (gd g3 Z) Z<|yK Z (gd g3 Z) Z<|yK Z (gd g3 Z) Z<|yK Z (gd g3 Z) Z<|yK Z (gd g3 Z) Z<|yK Z (gd g3 Z) Z<|yK Z (gd g3 Z) Z<|yE Z (aT Z (aJ g3 Z) Z)<|zH Z<|b8 Z<|b8 Z<|b8 Z<|b8 Z<|b8 Z<|b8 Z<|b8 Z<|yE Z (aT Z Z Z)<|zH Z<|b8 Z<|b8 Z<|b8 Z<|b8 Z<|b8 Z<|b8 Z<|b8 Z<|yE Z (aT Z Z Z)<|zH Z<|b8 Z<|b8 Z<|b8 Z<|b8 Z<|b8 Z<|b8 Z<|b8 Z<|b8 Z<|b8 Z<|b8 Z<|b8 Z<|yE Z (aT Z Z Z)<|LO.nil<|zT<|LW.condF Z<|zk<|af<|zT<|zR<|zM Z<|yS Z (an Z Z Z Z)<|mN Z ?_;cases h;exact⟨_,rfl,av 0 ⟨Z,Z,Z,Z,Z,Z,t_⟩⟩
    ·refine zo g2 h fun h=>zq<|ai<|ai<|zy<|zT ?_;cases h;obtain rfl:=(m2 _ rfl);exact⟨_,rfl,av 0 ⟨Z,Z,Z,Z,Z,t_⟩⟩
   ·obtain rfl:=f2;have h:=cR q2;clear p2;refine af<|zT<|LW.weak u2<|zR<|zM Z<|yS Z (an Z Z Z Z)<|mN Z ?_;cases h;exact⟨_,rfl,av 0 ⟨Z,Z,Z,Z,Z,t_⟩⟩
  ·refine zo g1 h fun h=>zq<|ai<|ai<|zy<|zT ?_;cases h;obtain rfl:=(m1 _ rfl);exact⟨_,rfl,av 0 ⟨Z,t_⟩⟩
 ·obtain rfl:=f1;have h:=cR q1;clear p1;refine zT<|LW.weak u1<|qR<|mN Z<|zr ?_;cases h;exact aZ Z
structure eA where
 i:Int
 out:List Vt
structure gF where
 k:Int
 out:List Vt
def mW (l:List Vt)(slot:Int)(v1:(List Int))(x1:eA)(x2:gF):Option (gF⊕gF):=bif decide (x2.k<(l.length:Int))then ((ix l x2.k).bind fun y2=>(ix v1 x1.i).bind fun y3=>bif y2.From==y3 then (ix l x2.k).bind fun y4=>some (y4.Slot==slot)else some false).bind fun v5=>bif v5 then (ix l x2.k).bind fun y5=>bif bJ x2.out.length [y5].length 32 then some (.inr (gF.mk x2.k (x2.out++[y5])))else none else some (.inl (gF.mk (i64.wrap (x2.k+1)) x2.out))else some (.inr (gF.mk x2.k x2.out))
def k9 (l:List Vt)(slot:Int)(v1:(List Int))(x1:eA):Option (eA⊕eA):=bif decide (x1.i<(v1.length:Int))then (ix v1 x1.i).bind fun y1=>(xZ l slot y1).bind fun v3=>bif v3 then some (.inl (eA.mk (i64.wrap (x1.i+1)) x1.out))else (iter (mW l slot v1 x1) aY (gF.mk 0 x1.out)).bind fun v4=>some (.inl (eA.mk (i64.wrap (x1.i+1)) v4.out))else some (.inr (eA.mk x1.i x1.out))
def xV (l:List Vt)(slot:Int):Option (List Vt):=(xY l).bind fun v1=>(iter (k9 l slot v1) aY (eA.mk 0 ([]:List Vt))).bind fun v2=>some v2.out
theorem Nt {l:List Vt}{r_:(List Vt)}(h:xV l slot=some r_):aq prog 146 [.slice 4 (l.map aO),.int .i64 slot] [.slice 4 (r_.map aO)]:=by
 refine zh Tryz.func146 Z Z Z Z ?_;unfold xV at h;refine qR<|mN Z<|qR<|mN Z<|qR<|zM Z<|zb h fun v1 a1 h=>yS Z (yP Z Z Z (Nx a1) dG)<|mN Z<|zQ<|qR<|mN Z<|LW.ent (bY.lazy (t:=5) (m:=4) Z Z Z) ?_;obtain⟨v2,p2,b2⟩:=zB h;clear h;refine LW.tail (E:=[(4,.zs),(5,(jV 0 v2.out))]) (O:=[.vec 4 (v2.out.map aO)]) ?_<|fun e2 K2 u2=>?_
 ·refine LW.block ?_;refine LW.iterB (E:=fun x1:eA=>[(0,(kV l)),(1,(iQ slot)),(4,.zs),(5,(jV 0 x1.out)),(6,(kI v1)),(7,(iQ x1.i))]) (O:=fun x1=>[.vec 4 (x1.out.map aO)]) p2 (av 1 ⟨Z,Z,Z,Z,Z,Z,t_⟩)<|fun x1 z1 h m1=>?_;unfold k9 at h;refine zQ<|qR<|zM Z<|zM Z<|yS Z (ck Z Z)<|yS Z (an Z Z Z Z)<|nT ?_;refine zX Z (fun g1=>?_)<|fun g1=>?_
  ·refine zi g1 h fun h=>zk<|zT<|zQ<|zl<|qR<|zM Z<|zM Z<|zM Z<|zM Z<|zb h fun y1 j1 h=>yS Z (zx Z Z Z dL j1 Z)<|yS Z (bR Z Z Z aW Z Z)<|zb h fun v3 a3 h=>yS Z (yP Z Z Z (Ny a3) pA)<|mN Z<|zQ<|qR<|mN Z ?_;refine zX Z (fun g2=>?_)<|fun g2=>?_
   ·refine zi g2 h fun h=>zq<|ai<|zy<|zT<|zR<|zM Z<|yS Z (an Z Z Z Z)<|mN Z ?_;cases h;exact⟨_,rfl,av 1 ⟨Z,Z,Z,Z,Z,Z,t_⟩⟩
   ·refine zo g2 h fun h=>zk<|zT<|qR<|mN Z ?_;obtain⟨v4,p4,b4⟩:=zB h;clear h;refine LW.tail (E:=[(0,(kV l)),(1,(iQ slot)),(4,.zs),(5,(jV 0 v4.out)),(6,(kI v1)),(7,(iQ x1.i))]) (O:=[.vec 4 (v4.out.map aO)]) ?_<|fun e4 K4 u4=>?_
    ·refine LW.block ?_;refine LW.iterB (E:=fun x2:gF=>[(0,(kV l)),(1,(iQ slot)),(4,.zs),(5,(jV 0 x2.out)),(6,(kI v1)),(7,(iQ x1.i)),(9,(iQ x2.k))]) (O:=fun x2=>[.vec 4 (x2.out.map aO)]) p4 (av 1 ⟨Z,Z,Z,Z,Z,Z,Z,t_⟩)<|fun x2 z2 h m2=>?_;unfold mW at h;refine zQ<|qR<|zM Z<|zM Z<|yS Z (ck Z Z)<|yS Z (an Z Z Z Z)<|nT ?_;refine zX Z (fun g3=>?_)<|fun g3=>?_
     ·refine zi g3 h fun h=>zk<|zT<|zQ<|zl ?_;obtain⟨v5,p5,b5⟩:=zB h;clear h;refine LW.cut (E:=[(0,(kV l)),(1,(iQ slot)),(4,.zs),(5,(jV 0 x2.out)),(6,(kI v1)),(7,(iQ x1.i)),(9,(iQ x2.k)),(50,(bQ v5))]) (O:=[.vec 4 (x2.out.map aO)]) ?_ ?_
      ·have h:=p5;refine dx<|zH Z<|zH Z<|zb h fun y2 j2 h=>yE Z (zx Z Z Z bC j2 Z)<|yE Z (aa.fieldAddrC Z Z ik Z)<|yE Z (bR Z Z Z aW Z Z)<|zH Z<|zH Z<|zb h fun y3 j3 h=>yE Z (zx Z Z Z dL j3 Z)<|yE Z (bR Z Z Z aW Z Z)<|yE Z (an Z Z Z Z)<|zH Z ?_;refine LO.cases 42 Z (fun(g4:(y2.From==y3)=true)=>?_) (fun(g4:(y2.From==y3)=false)=>?_)
       ·refine zi g4 h fun h=>yL Z (gd g4 Z) (zm Z Z)<|yL Z (gd g4 Z) (zm Z Z)<|zb h fun y4 j4 h=>yL Z (gd g4 Z) (zx Z Z Z bC j4 Z)<|yL Z (gd g4 Z) (aa.fieldAddrC Z Z iZ Z)<|yL Z (gd g4 Z) (bR Z Z Z aW Z Z)<|yL Z (gd g4 Z) (zm Z Z)<|yL Z (gd g4 Z) (an Z Z Z Z)<|yE Z (bv Z (aJ g4 Z) Z)<|LO.nil<|zT ?_;cases h;exact av 1 ⟨Z,Z,Z,Z,Z,Z,Z,Z,t_⟩
       ·refine zo g4 h fun h=>yK Z (gd g4 Z) Z<|yK Z (gd g4 Z) Z<|yK Z (gd g4 Z) Z<|yK Z (gd g4 Z) Z<|yK Z (gd g4 Z) Z<|yK Z (gd g4 Z) Z<|yK Z (gd g4 Z) Z<|yE Z (aT Z (aJ g4 Z) Z)<|LO.nil<|zT ?_;cases h;exact av 1 ⟨Z,Z,Z,Z,Z,Z,Z,Z,t_⟩
      ·have h:=b5;clear p5;refine zX Z (fun g5=>?_)<|fun g5=>?_
       ·refine zi g5 h fun h=>qR<|zM Z<|zM Z<|zM Z<|zb h fun y5 j5 h=>yS Z (zx Z Z Z bC j5 Z)<|yS Z (bR Z Z Z cB Z Z)<|yS Z (gR Z bC Z Z Z Z Z)<|zg h fun q1 h=>yS Z (aa.appendX aO x2.out [y5] rfl Z Z Z iy.p Z bC q1 Z)<|mN Z<|zq<|iO (by decide)<|ai<|ai<|zy<|zT ?_;cases h;obtain rfl:=(m2 _ rfl);exact av 1 ⟨Z,Z,Z,Z,Z,Z,t_⟩
       ·refine zo g5 h fun h=>zk<|af<|zT<|zR<|zM Z<|yS Z (an Z Z Z Z)<|mN Z ?_;cases h;exact⟨_,rfl,av 1 ⟨Z,Z,Z,Z,Z,Z,Z,t_⟩⟩
     ·refine zo g3 h fun h=>zq<|ai<|ai<|zy<|zT ?_;cases h;obtain rfl:=(m2 _ rfl);exact av 1 ⟨Z,Z,Z,Z,Z,Z,t_⟩
    ·have h:=b4;clear p4;refine af<|zT<|LW.weak u4<|zR<|zM Z<|yS Z (an Z Z Z Z)<|mN Z ?_;cases h;exact⟨_,rfl,av 1 ⟨Z,Z,Z,Z,Z,Z,t_⟩⟩
  ·refine zo g1 h fun h=>zq<|ai<|ai<|zy<|zT ?_;cases h;obtain rfl:=(m1 _ rfl);exact av 1 ⟨Z,Z,t_⟩
 ·have h:=b2;clear p2;refine zT<|LW.weak u2<|qR<|zM Z<|mN Z<|zr ?_;cases h;exact zf (.one (.tmp Z))<|(Conv.vecAll Z Z Z)
structure fa where
 i:Int
 out:List Vt
def k8 (v1:(List Vt))(v2:(List Int))(x1:fa):Option (fa⊕fa):=bif decide (x1.i<(v1.length:Int))then (ix v1 x1.i).bind fun y1=>(F5 v2 y1.From).bind fun v4=>bif v4 then (ix v1 x1.i).bind fun y2=>bif bJ x1.out.length [y2].length 32 then some (.inl (fa.mk (i64.wrap (x1.i+1)) (x1.out++[y2])))else none else some (.inl (fa.mk (i64.wrap (x1.i+1)) x1.out))else some (.inr (fa.mk x1.i x1.out))
def vo (c:Cf)(v:List Vt)(slot:Int):Option (List Vt):=(xV v slot).bind fun v1=>(KG c slot).bind fun v2=>(iter (k8 v1 v2) aY (fa.mk 0 ([]:List Vt))).bind fun v3=>some v3.out
theorem JQ {r_:(List Vt)}(h:vo c v slot=some r_):aq prog 101 [gQ c,.slice 4 (v.map aO),.int .i64 slot] [.slice 4 (r_.map aO)]:=by
 refine zh Tryz.func101 Z Z Z Z ?_;unfold vo at h;refine qR<|yS Z (bx Z Z Z Z Z)<|mN Z<|qR<|mN Z<|qR<|zM Z<|zM Z<|zb h fun v1 a1 h=>yS Z (yP Z Z Z (Nt a1) bG)<|mN Z<|qR<|yS Z (zD Z Z Z be Z Z)<|zM Z<|zb h fun v2 a2 h=>yS Z (yP Z Z Z (P3 a2) bG)<|mN Z<|zQ<|qR<|mN Z<|LW.ent (bY.lazy (t:=7) (m:=4) Z Z Z) ?_;obtain⟨v3,p3,b3⟩:=zB h;clear h;refine LW.tail (E:=[(6,.zs),(7,(jV 1 v3.out))]) (O:=[.box (ch c),.vec 4 (v3.out.map aO)]) ?_<|fun e3 K3 u3=>?_
 ·refine LW.block ?_;refine LW.iterB (E:=fun x1:fa=>[(6,.zs),(7,(jV 1 x1.out)),(8,(kV v1)),(9,(kI v2)),(10,(iQ x1.i))]) (O:=fun x1=>[.box (ch c),.vec 4 (x1.out.map aO)]) p3 (av 2 ⟨Z,Z,Z,Z,Z,t_⟩)<|fun x1 z1 h m1=>?_;unfold k8 at h;refine zQ<|qR<|zM Z<|zM Z<|yS Z (ck Z Z)<|yS Z (an Z Z Z Z)<|nT ?_;refine zX Z (fun g1=>?_)<|fun g1=>?_
  ·refine zi g1 h fun h=>zk<|zT<|zQ<|zl<|qR<|zM Z<|zM Z<|zM Z<|zb h fun y1 j1 h=>yS Z (zx Z Z Z bC j1 Z)<|yS Z (aa.fieldAddrC Z Z ik Z)<|yS Z (bR Z Z Z aW Z Z)<|zb h fun v4 a4 h=>yS Z (yP Z Z Z (Lg a4) bG)<|mN Z<|qR<|mN Z ?_;refine zX Z (fun g2=>?_)<|fun g2=>?_
   ·refine zi g2 h fun h=>zR<|zM Z<|zM Z<|zM Z<|zb h fun y2 j2 h=>yS Z (zx Z Z Z bC j2 Z)<|yS Z (bR Z Z Z cB Z Z)<|yS Z (gR Z bC Z Z Z Z Z)<|zg h fun q1 h=>yS Z (aa.appendX aO x1.out [y2] rfl Z Z Z iy.p Z bC q1 Z)<|zM Z<|zN<|af<|zT<|zR<|zM Z<|yS Z (an Z Z Z Z)<|mN Z ?_;cases h;exact⟨_,rfl,av 2 ⟨Z,Z,Z,Z,Z,t_⟩⟩
   ·refine zo g2 h fun h=>zk<|af<|zT<|zR<|zM Z<|yS Z (an Z Z Z Z)<|mN Z ?_;cases h;exact⟨_,rfl,av 2 ⟨Z,Z,Z,Z,Z,t_⟩⟩
  ·refine zo g1 h fun h=>zq<|ai<|ai<|zy<|zT ?_;cases h;obtain rfl:=(m1 _ rfl);exact av 2 ⟨Z,Z,t_⟩
 ·have h:=b3;clear p3;refine zT<|LW.weak u3<|qR<|zM Z<|mN Z<|zr ?_;cases h;exact zf (.one (.tmp Z))<|(Conv.vecAll Z Z Z)
def tk (c:Cf)(w:Vw)(slot:Int):Option ID:=(vo c w.V slot).bind fun v1=>(Mn c w.B v1).bind fun v2=>some v2
theorem GA {r_:ID}(h:tk c w slot=some r_):aq prog 56 [gQ c,iB w,.int .i64 slot] [aX r_]:=by
 refine zh Tryz.func56 Z Z Z Z ?_;unfold tk at h;refine qR<|yS Z (bx Z Z Z Z Z)<|yS Z (bx Z Z Z Z Z)<|yS Z (ze Z gP Z Z)<|nT<|zQ<|LW.drawLast (m:=9) (by kernel_rfl) (by kernel_rfl) (by kernel_rfl)<|yE Z (zD Z Z Z be Z Z)<|yE Z (zA Z Z aK)<|yE Z (zD Z Z Z bM Z Z)<|yE Z (zD Z Z Z be Z Z)<|yE Z (zA Z Z aQ)<|yE Z (zD Z Z Z co Z Z)<|zH Z<|zb h fun v1 a1 h=>yE Z (yP Z Z Z (JQ a1) pA)<|zb h fun v2 a2 h=>yE Z (yP Z Z Z (QM a2) pA)<|LO.nil<|yS Z (zs Z Z Z Z aF Z Z Z Z)<|nT<|zr ?_;cases h;exact zf (.one (er Z Z)) zv
theorem Ix (a b:ID):Fc a b=some (qx a b):=by
 unfold Fc qx;by_cases h1:a.1<b.1
 ·rw[aP h1,ct,aP (.inl h1)]
 ·rw[aR h1,cf];by_cases h2:a.1=b.1
  ·rw[show(a.1==b.1)=true by simp[h2],ct];congr 1;exact decide_eq_decide.2 ⟨fun h=>.inr ⟨h2,h⟩,fun h=>h.elim (fun h=>absurd h h1) (·.2)⟩
  ·rw[show(a.1==b.1)=false by simp[h2],cf,aR (fun h=>h.elim h1 fun h=>h2 h.1)]
theorem Iw (hl:l.length<=1000)(hp:places l=some m)(id:ID):Fb l (l.map nm) id=some (ba l id):=by
 unfold Fb
 have hk:∀n,(((l.take n).filter fun b=>decide (b.Parent=id)).map nm).length<=n:=fun n=>by
  rw[length_map];exact Nat.le_trans (List.length_filter_le _ _) (by rw[length_take];omega)
 have e:=ax (step:=pM l (l.map nm) id) (n:=l.length) (fun n=>gk.mk (n:Int) (((l.take n).filter fun b=>decide (b.Parent=id)).map nm)) (gk.mk (l.length:Int) ((l.filter fun b=>decide (b.Parent=id)).map nm)) (fun n hn=>by
  obtain⟨y,hy,-⟩:=az hn
  have hy2:(l.map nm)[n]?=some (nm y):=by rw[List.getElem?_map,hy];rfl
  have:=hk n;unfold pM;simp only;rw[dO,au hy,ob,ry,ah (n:=n),sq hy];by_cases h:y.Parent=id
  ·rw[aP h,ct,au hy2,ob,aC (by simp only[length_singleton];omega),ct,i1_ h]
  ·rw[aR h,cf,i0_ h,append_nil]) (by
  unfold pM;simp only
  rw[ft,take_length]) (by omega)
 have e0:gk.mk ((0:Nat):Int) (((l.take 0).filter fun b=>decide (b.Parent=id)).map nm)=gk.mk 0 []:=by simp
 rw[e0]at e;rw[e,ob];unfold ba;rw[hp]
theorem rO (l:List Bk):(l.map nm).length=l.length:=length_map _
theorem vd (hl:l.length<=1000)(hp:places l=some m)(low:ID):∀(n:Nat) (f:Nat) (id:ID) (i:Int),am m id=some i->i<n->n<f->
  ∃b,iter (l7 l (l.map nm) low) f ⟨i,id⟩=some b/\(b.id=low↔low∈cr l (i+1).toNat id i):=by
 intro n
 have stop:∀(f:Nat) (id:ID) (i:Int),0<f->(i<0\/id=low)->iter (l7 l (l.map nm) low) f ⟨i,id⟩=some ⟨i,id⟩:=by
  intro f id i hf h;obtain⟨f,rfl⟩:∃g,f=g+1:=⟨f-1,by omega⟩;refine eK ?_;unfold l7;simp only;by_cases h0:i>=0
  ·have hid:id=low:=h.resolve_left (by omega);rw[aP h0,ct,ob,ry,aP hid,Bool.not_true,cf]
  ·rw[aR h0,cf,ob,cf]
 induction n with
 |zero=>
  intro f id i hi hn hf;refine⟨⟨i,id⟩,stop f id i hf (.inl (by omega)),?_⟩;rcases(bd hp).known _ _ hi with⟨h,-⟩|⟨b,p,h0,-⟩
  ·subst h;rw[tP hp hi];simp only[mem_singleton];exact⟨Eq.symm,Eq.symm⟩
  ·omega
 | succ n ih=>
  intro f id i hi hn hf;by_cases hid:id=low
  ·refine⟨⟨i,id⟩,stop f id i (by omega) (.inr hid),?_⟩
   have:ao l id=cr l (i+1).toNat id i:=by unfold ao;rw[hp];simp only[hi]
   rw[<-this]
   have h0:=Ba (l:=l) (id:=id) (by
    rw[this];intro e;have:=sn hp (i+1).toNat id i (by omega) hi
    rw[e]at this;simp at this)
   exact⟨fun _=>hid▸List.mem_of_getElem? h0,fun _=>hid⟩
  ·rcases(bd hp).known _ _ hi with⟨h,h'⟩|⟨b,p,h0,h1,h2,h3,h4,h5,h6,h7⟩
   ·subst h;refine⟨⟨-1,id⟩,stop f id (-1) (by omega) (.inl (by omega)),?_⟩;rw[tP hp hi];simp only[mem_singleton];exact⟨Eq.symm,Eq.symm⟩
   ·obtain⟨f,rfl⟩:∃g,f=g+1:=⟨f-1,by omega⟩
    have hix:ap (l.map nm) b.Parent=p:=by
     have:=ml hp b.Parent;rw[h4]at this;split at this
     ·rename_i e;cases this;rw[e];exact pD hp
     ·split at this
      ·cases this;rfl
      ·cases this
    have hs:l7 l (l.map nm) low ⟨i,id⟩=some (.inl ⟨p,b.Parent⟩):=by
     unfold l7;simp only;rw[aP h0,ct,ob,ry,aR hid,Bool.not_false,ct,Kb h0 h2,ob,rl (by rw[rO];omega),ob,hix]
    obtain⟨b',e,hb⟩:=ih f b.Parent p h4 (by omega) (by omega);refine⟨b',by rw[mp hs,e],?_⟩;rw[gy (id:=id) hp (by omega) h0 h2 h4 h5 h6,List.mem_cons];exact⟨fun h=>.inr (hb.1 h),fun h=>h.elim (fun e=>absurd e.symm hid) hb.2⟩
theorem IA (hl:l.length<=1000)(hp:places l=some m)(low id:ID):Fi l (l.map nm) low id=some (gM l low id):=by
 unfold Fi gM;have hfn:=ml hp id;rw[rl (by rw[rO];omega),ob];by_cases h0:id=(0,0)
 ·rw[i1_ h0]at hfn;have hz:=pD hp;obtain⟨b,e,hb⟩:=vd hl hp low 1 aY id (-1) hfn (by omega) (cq);rw[h0,hz,show decide ((-1:Int)<0)=true from rfl,ct,yO,aP rfl,Bool.not_true,cf,ob,sl,<-h0,e,ob,ry];congr 1;refine decide_eq_decide.2 ?_;rw[hb];unfold ao;rw[hp];simp only[hfn]
 ·rw[i0_ h0]at hfn;by_cases h1:0<=ap (l.map nm) id
  ·rw[i1_ h1]at hfn
   have hlt:ap (l.map nm) id<l.length:=by have:=uk (l:=l.map nm) (v:=id);rwa [rO]at this
   obtain⟨b,e,hb⟩:=vd hl hp low (l.length+1) aY id _ hfn (by omega) (cq);rw[aR (show¬ap (l.map nm) id<0 by omega),cf,ob,sl,e,ob,ry];congr 1;refine decide_eq_decide.2 ?_;rw[hb];unfold ao;rw[hp];simp only[hfn]
  ·rw[i0_ h1]at hfn;rw[aP (show ap (l.map nm) id<0 by omega),ct,yO,aR h0,Bool.not_false,ct,ob,sr];congr 1;refine(aR ?_).symm;unfold ao;rw[hp];simp only[hfn];simp
theorem Ch (hW:c.W.length<=1000)(hl:l.length<=1000)(hp:places l=some m)(hv:v.length<=1000)(id:ID):Dq c l (l.map nm) v id=some (lJ c l v id):=by
 unfold Dq
 have e:=ax (step:=pN l (l.map nm) v id) (n:=v.length) (fun n=>gl.mk (n:Int) (mL l (v.take n) id)) (gl.mk (v.length:Int) (mL l v id)) (fun n hn=>by
  obtain⟨y,hy,-⟩:=az hn;have hlen:=qo l (v.take n) id;rw[length_take]at hlen;unfold pN;simp only;rw[dO,au hy,ob,IA hl hp,ob,vJ hy,ah (n:=n)]
  cases hu:gM l id y.Head with
  |true=>rw[ct,ob,aC (by simp only[length_singleton];omega),ct,ct]
  |false=>rw[cf,cf,append_nil]) (by
  unfold pN;simp only
  rw[ft,take_length]) (by omega)
 have e0:gl.mk ((0:Nat):Int) (mL l (v.take 0) id)=gl.mk 0 []:=by simp[mL]
 rw[e0]at e;have hlen:=qo l v id;rw[e,ob,F3 hW (by simp only;omega),ob];rfl
theorem A4 {f:ID->Int}{x k:ID}{y:Int}(h:f k=f k):kG ⟨f k,k⟩ ⟨y,x⟩=(decide (f k>y)||(decide (f k=y)&&qx x k)):=by
 unfold kG;simp only;by_cases e:f k=y
 ·rw[i1_ e,aR (show¬f k>y by omega),aP e];rfl
 ·rw[i0_ e,aR e];cases decide (f k>y) <;>rfl
def kx (f:ID->Int)(a:List ID)(n:Nat):Int×ID:=if n=0 then(0,(0,0))else((fY f (a.take n) ⟨-1,(0,0)⟩).n,(fY f (a.take n) ⟨-1,(0,0)⟩).id)
theorem If (hW:c.W.length<=1000)(hl:l.length<=1000)(hp:places l=some m)(hv:v.length<=1000)(id:ID) :
  EW c l (l.map nm) v id=some ((d7 c l v id).id,decide ((d7 c l v id).n>=0)):=by
 unfold EW;have hk:=Aa l id;rw[Iw hl hp,ob]
 have e:=ax (step:=pK c l (l.map nm) v (ba l id)) (n:=(ba l id).length) (fun n=>gb.mk (kx (lJ c l v) (ba l id) n).1 (n:Int) (kx (lJ c l v) (ba l id) n).2)
  (gb.mk (kx (lJ c l v) (ba l id) (ba l id).length).1 ((ba l id).length:Int) (kx (lJ c l v) (ba l id) (ba l id).length).2) (fun n hn=>by
  obtain⟨y,hy,-⟩:=az hn;unfold pK;simp only;rw[aP (show(n:Int)<((ba l id).length:Int) by omega),ct,au hy,ob,Ch hW hl hp hv,ob,ob,Ix,ob,ah (n:=n)];have hon:=C6 c l v y;by_cases h0:n=0
  ·subst h0;rw[show((((0:Nat):Int))==0)=true from rfl,ct,ob,ct,ob]
   have hk0:(ba l id).take 1=[y]:=by rw[aL hy];rfl
   have:kx (lJ c l v) (ba l id) (0+1)=(lJ c l v y,y):=by
    unfold kx;rw[i0_ (by omega),hk0];unfold fY fY kG;simp only;rw[i0_ (by omega),aP (show lJ c l v y> -1 by omega),ct]
   rw[this]
  ·rw[show(((n:Nat):Int)==0)=false by rw[beq_eq_false_iff_ne];omega,cf]
   have hst:kx (lJ c l v) (ba l id) n=((fY (lJ c l v) ((ba l id).take n) ⟨-1,(0,0)⟩).n,(fY (lJ c l v) ((ba l id).take n) ⟨-1,(0,0)⟩).id):=by unfold kx;rw[i0_ h0]
   have hst':kx (lJ c l v) (ba l id) (n+1)=((fY (lJ c l v) ((ba l id).take (n+1)) ⟨-1,(0,0)⟩).n,(fY (lJ c l v) ((ba l id).take (n+1)) ⟨-1,(0,0)⟩).id):=by unfold kx;rw[i0_ (by omega)]
   rw[hst,hst',aL hy,oZ];generalize fY (lJ c l v) ((ba l id).take n) ⟨-1,(0,0)⟩=B;obtain⟨bn,bi⟩:=B;rw[A4 rfl];simp only;by_cases h1:lJ c l v y>bn
   ·rw[aP h1,ct,ob,ct,ob,Bool.true_or,ct]
   ·rw[aR h1,cf,Bool.false_or];by_cases h2:lJ c l v y=bn
    ·rw[show(lJ c l v y==bn)=true by simp[h2],ct,ob,aP h2,Bool.true_and]
     cases qx bi y with
     |true=>rw[ct,ob,ct]
     |false=>rw[cf,cf]
    ·rw[show(lJ c l v y==bn)=false by simp[h2],cf,ob,aR h2,Bool.false_and,cf,cf]) (by
  unfold pK;simp only
  rw[aR (show¬((ba l id).length:Int)<((ba l id).length:Int) by omega),cf]) (by omega)
 have e0:gb.mk (kx (lJ c l v) (ba l id) 0).1 ((0:Nat):Int) (kx (lJ c l v) (ba l id) 0).2=gb.mk 0 0 (0,0):=rfl;rw[e0]at e;rw[e,ob];simp only;rcases nf c l v id with⟨h1,h2⟩|⟨k,h1,h2⟩
 ·rw[h2,h1];rfl
 ·have hne:(ba l id).length≠0:=by
   intro h;rw[List.length_eq_zero_iff]at h;rw[h]at h1;simp at h1
  have hst:kx (lJ c l v) (ba l id) (ba l id).length=((d7 c l v id).n,(d7 c l v id).id):=by
   unfold kx;rw[i0_ hne,take_length];rfl
  rw[hst,aP (show((ba l id).length:Int)>0 by omega),aP (show(d7 c l v id).n>=0 by rw[h2];exact C6 c l v k)]
theorem DN (hp:places l=none):d7 c l v id=⟨-1,(0,0)⟩:=by
 have hk:ba l id=[]:=by unfold ba;rw[hp]
 unfold d7;rw[hk];rfl
theorem KI (hb:kd l)(hW:c.W.length<=1000)(hl:l.length<=1000)(hv:v.length<=1000):Mn c l v=some (gX c l v):=by
 unfold Mn;rw[wt hb hl,ob];unfold xp;rw[AT hl,ob,ob]
 cases hp:places l with
 | none=>
  have hs:m0 c l v (l.map nm) (none:Option (List (ID×Int))).isSome ⟨0,(0,0)⟩=some (.inr ⟨0,(0,0)⟩):=by
   unfold m0;simp only;rw[aP (show(0:Int)<=(l.length:Int) by omega),ct,Option.isSome_none,ob,cf]
  rw[KX,eK hs,ob];unfold gX oB;rw[DN hp,i0_ (by simp)]
 | some m=>
  have key:∀(n f:Nat) (i:Int) (id:ID),i+n=(l.length:Int)+1->0<=i->n<f->∃b,iter (m0 c l v (l.map nm) (some m).isSome) f ⟨i,id⟩=some b/\b.id=oB c l v n id:=by
   intro n
   induction n with
   |zero=>
    intro f i id hi h0 hf;obtain⟨f,rfl⟩:∃g,f=g+1:=⟨f-1,by omega⟩;refine⟨⟨i,id⟩,eK ?_,rfl⟩;unfold m0;simp only;rw[aR (show¬i<=(l.length:Int) by omega),cf,ob,cf]
   | succ n ih=>
    intro f i id hi h0 hf;obtain⟨f,rfl⟩:∃g,f=g+1:=⟨f-1,by omega⟩
    have hs:m0 c l v (l.map nm) (some m).isSome ⟨i,id⟩=if (d7 c l v id).n>=0 then some (.inl ⟨i+1,(d7 c l v id).id⟩)else some (.inr ⟨i,id⟩):=by
     unfold m0;simp only;rw[aP (show i<=(l.length:Int) by omega),ct,Option.isSome_some,ob,ct,If hW hl hp hv,ob];by_cases h:(d7 c l v id).n>=0
     ·rw[aP h,Bool.not_true,cf,i1_ h,cX]
     ·rw[aR h,Bool.not_false,ct,i0_ h]
    unfold oB;by_cases h:(d7 c l v id).n>=0
    ·rw[i1_ h]at hs⊢;rw[mp hs];exact ih f (i+1) _ (by omega) (by omega) (by omega)
    ·rw[i0_ h]at hs⊢;exact⟨_,eK hs,rfl⟩
  obtain⟨b,e,hb⟩:=key (l.length+1) aY 0 (0,0) (by omega) (by omega) (cq);rw[e,ob,hb];rfl
theorem KZ {a b:Int}(h:¬a=b):(a==b)=false:=beq_eq_false_iff_ne.2 h
abbrev Up (l:List Int):Prop:=l.Pairwise fun a b=>a<b
theorem FG {l:List Int}(hl:l.length<=100000)(hs:Up l):∃r,x6 l n=some r/\Up r/\(∀x,x∈r↔x∈l\/x=n)/\r.length<=l.length+1:=by
  obtain⟨b,hb,a,rfl,ha,hgt,hle⟩:=bA (step:=p3 l n) (fun x=>∃a:Nat,x.v_at=a/\a<=l.length/\∀j y,a<=j->l[j]?=some y->n<y) (fun x=>x.v_at.toNat) (fun b=>∃a:Nat,b=⟨(a:Int)⟩/\a<=l.length/\(∀j y,a<=j->l[j]?=some y->n<y)/\∀y,0<a->l[a-1]?=some y->y<=n) (by
    rintro⟨t⟩ ⟨a,ht,h1,h2⟩;simp only at ht;subst ht;unfold p3;simp only;by_cases h0:0<a
    · obtain⟨y,hy,-⟩:=az (l:=l) (n:=a-1);rw[aP (show(a:Int)>0 by omega),ct,cX (n:=(a:Int)-1),show(a:Int)-1=((a-1:Nat):Int) by omega,au hy,ob];by_cases hy2:y>n
      · rw[aP hy2,ct];refine .inl ⟨_,rfl,⟨a-1,rfl,by omega,fun j z hj hz=>?_⟩,by simp only;omega⟩;by_cases e:j=a-1
        · subst e;rw[hy]at hz;rw[<-Option.some.inj hz];exact hy2
        · exact h2 j z (by omega) hz
      · rw[aR hy2,cf];refine .inr ⟨_,rfl,a,rfl,h1,h2,fun z _ hz=>?_⟩;rw[hy]at hz;rw[<-Option.some.inj hz];omega
    · rw[aR (show¬(a:Int)>0 by omega),cf]
      exact .inr ⟨_,rfl,a,rfl,h1,h2,fun z hz=>absurd hz h0⟩) (n:=aY) (x:=⟨(l.length:Int)⟩) ⟨l.length,rfl,Nat.le_refl _,fun j y hj hy=>by have:=(List.getElem?_eq_some_iff.1 hy).1;omega⟩ (cq (by simp only;omega))
  have key:(∃y,0<a/\l[a-1]?=some y/\y=n)\/∀y,0<a->l[a-1]?=some y->y<n:=by
    by_cases h0:0<a
    · obtain⟨y,hy,-⟩:=az (l:=l) (n:=a-1);by_cases e:y=n
      · exact .inl ⟨y,h0,hy,e⟩
      · refine .inr fun z hz0 hz=>?_;have h3:=hle z hz0 hz;rw[hy]at hz;have:=Option.some.inj hz;omega
    · exact .inr fun z hz=>absurd hz h0
  unfold x6;rw[hb,ob];rcases key with⟨y,h0,hy,rfl⟩|hlt
  · refine⟨l,?_,hs,fun x=>⟨.inl,fun h=>h.elim id fun e=>e▸List.mem_of_getElem? hy⟩,by omega⟩;rw[aP (show(a:Int)>0 by omega),ct,cX (n:=(a:Int)-1),show(a:Int)-1=((a-1:Nat):Int) by omega,au hy,ob,beq_self_eq_true,ct,ob];rfl
  · refine⟨(l.take a++[n])++l.drop a,?_,?_,fun x=>?_,?_⟩
    · have hg:((bif decide ((a:Int)>0)then(ix l (i64.wrap ((a:Int)-1))).bind fun y2=>bif y2==n then some (.inr l)else some (.inl ())else some (.inl ())):Option (Unit⊕List Int))=some (.inl ()):=by
        by_cases h0:0<a
        · obtain⟨y,hy,-⟩:=az (l:=l) (n:=a-1);have:=hlt y h0 hy;rw[aP (show(a:Int)>0 by omega),ct,cX (n:=(a:Int)-1),show(a:Int)-1=((a-1:Nat):Int) by omega,au hy,ob,show(y==n)=false from beq_eq_false_iff_ne.2 (by omega),cf]
        · rw[aR (show¬(a:Int)>0 by omega),cf]
      rw[hg,ob];show(bif wP l 0 (a:Int)then _ else none)=_
      have ht:(l.take a).length=a:=by rw[length_take];omega
      have hd:(l.drop a).length=l.length-a:=List.length_drop;rw[show wP l 0 (a:Int)=true from aP (by omega),ct,Int.toNat_natCast,aC,ct,aC (by simp only[length_singleton];omega),ct,show wP l (a:Int) l.length=true from aP (by omega),ct,aC (by simp only[length_append,length_singleton];omega),ct]
    · have hall:=List.pairwise_iff_getElem.1 hs;refine List.pairwise_append.2 ⟨List.pairwise_append.2 ⟨hs.sublist (List.take_sublist _ _),by simp,fun x hx y hy=>?_⟩,hs.sublist (List.drop_sublist _ _),fun x hx y hy=>?_⟩
      · rw[mem_singleton.1 hy];obtain⟨j,hj⟩:=getElem?_of_mem hx;have hjl:=(List.getElem?_eq_some_iff.1 hj).1;rw[length_take]at hjl;rw[getElem?_take_of_lt (by omega)]at hj;obtain⟨z,hz,-⟩:=az (l:=l) (n:=a-1);have h3:=hlt z (by omega) hz;by_cases e:j=a-1
        · subst e;rw[hz]at hj;rw[<-Option.some.inj hj];exact h3
        · have h4:=hall j (a-1) (by omega) (by omega) (by omega);rw[(List.getElem?_eq_some_iff.1 hj).2,(List.getElem?_eq_some_iff.1 hz).2]at h4;omega
      · obtain⟨j,hj⟩:=getElem?_of_mem hy;rw[List.getElem?_drop]at hj;have h5:=hgt _ y (by omega) hj;rcases mem_append.1 hx with hx|hx
        · obtain⟨i,hi⟩:=getElem?_of_mem hx;have hil:=(List.getElem?_eq_some_iff.1 hi).1;rw[length_take]at hil;rw[getElem?_take_of_lt (by omega)]at hi;have hjl:=(List.getElem?_eq_some_iff.1 hj).1;have h4:=hall i (a+j) (by omega) hjl (by omega);rw[(List.getElem?_eq_some_iff.1 hi).2,(List.getElem?_eq_some_iff.1 hj).2]at h4;exact h4
        · rw[mem_singleton.1 hx];exact h5
    · rw[mem_append,mem_append,mem_singleton]
      conv=>rhs;rw[<-List.take_append_drop a l,mem_append]
      constructor
      · rintro((h|h)|h)
        · exact .inl<|.inl h
        · exact .inr h
        · exact .inl<|.inr h
      · rintro((h|h)|h)
        · exact .inl<|.inl h
        · exact .inr h
        · exact .inl<|.inr h
    · simp only[length_append,length_singleton,length_take,List.length_drop];omega
theorem FD {l:List Vt}(hl:l.length<=90000):∃r,xY l=some r/\Up r/\(∀x,x∈r↔∃v∈l,v.From=x)/\r.length<=l.length:=by
 obtain⟨b,hb,h1,h2,h3⟩:=bA (step:=pY l) (fun x=>∃j:Nat,x.i=j/\j<=l.length/\Up x.out/\(∀y,y∈x.out↔∃v∈l.take j,v.From=y)/\x.out.length<=j) (fun x=>l.length-x.i.toNat) (fun b=>Up b.out/\(∀y,y∈b.out↔∃v∈l,v.From=y)/\b.out.length<=l.length) (by
  rintro⟨out,i⟩ ⟨j,hi,h1,h2,h3,h4⟩;simp only at hi h2 h3 h4;subst hi;unfold pY;simp only;by_cases hlt:j<l.length
  ·obtain⟨y,hy,-⟩:=az hlt;obtain⟨r,hr,r1,r2,r3⟩:=FG (l:=out) (n:=y.From) (by omega) h2;rw[dO,au hy,ob,hr,ob,ah (n:=j)];refine .inl ⟨_,rfl,⟨j+1,rfl,by omega,r1,fun x=>?_,by show r.length<=_;omega⟩,by simp only;omega⟩;show x∈r↔_;rw[r2,h3,aL hy];constructor
   ·rintro(⟨v,h5,h6⟩|e)
    ·exact⟨v,List.mem_append_left _ h5,h6⟩
    ·exact⟨y,List.mem_append_right _ (mem_singleton.2 Z),e.symm⟩
   ·rintro⟨v,h5,h6⟩;rcases mem_append.1 h5 with h5|h5
    ·exact .inl ⟨v,h5,h6⟩
    ·rw[mem_singleton.1 h5]at h6;exact .inr h6.symm
  ·rw[aR (show¬(j:Int)<(l.length:Int) by omega),cf];refine .inr ⟨_,rfl,h2,fun x=>?_,by show out.length<=_;omega⟩;show x∈out↔_
   rw[h3,List.take_of_length_le (by omega)]) (n:=aY) (x:=⟨[],0⟩) ⟨0,rfl,by omega,List.Pairwise.nil,fun y=>by simp,by simp⟩ (cq (by simp only;omega))
 unfold xY;rw[hb,ob];exact⟨_,rfl,h1,h2,h3⟩
def Dv (slot who:Int)(y z:Vt):Prop:=y.From=who/\z.From=who/\y.Slot=slot/\z.Slot=slot/\y.Head≠z.Head
def Me (l:List Vt)(slot who:Int):Prop:=∃y∈l,∃z∈l,Dv slot who y z
theorem I8 {y z:Vt}{A:Type}(s t:A):(bif y.From==who then bif z.From==who then bif y.Slot==slot then bif z.Slot==slot then bif !((y.Head.1==z.Head.1)&&((y.Head.2==z.Head.2)&&true))then s else t else t else t else t else t)=t/\¬Dv slot who y z\/(bif y.From==who then bif z.From==who then bif y.Slot==slot then bif z.Slot==slot then bif !((y.Head.1==z.Head.1)&&((y.Head.2==z.Head.2)&&true))then s else t else t else t else t else t)=s/\Dv slot who y z:=by
 rw[ry];unfold Dv;by_cases h1:y.From=who
 ·by_cases h2:z.From=who
  ·by_cases h3:y.Slot=slot
   ·by_cases h4:z.Slot=slot
    ·by_cases h5:y.Head=z.Head
     ·left;simp[h1,h2,h3,h4,h5]
     ·right;simp[h1,h2,h3,h4,h5]
    ·left;rw[KZ h4];simp[h1,h2,h3,h4]
   ·left;rw[KZ h3];simp[h1,h2,h3]
  ·left;rw[KZ h2];simp[h1,h2]
 ·left;rw[KZ h1];simp[h1]
theorem DU {l:List Vt}(hl:l.length<=90000){i:Nat}(hy:l[i]?=some y) :
  (iter (la l slot who ⟨(i:Int)⟩) aY ⟨0⟩=some (.inr (.inr (.inr true)))/\∃z∈l,Dv slot who y z)\/(∃x,iter (la l slot who ⟨(i:Int)⟩) aY ⟨0⟩=some (.inl x))/\∀k z,k<i->l[k]?=some z->¬Dv slot who y z:=by
 have hil:=(List.getElem?_eq_some_iff.1 hy).1
 obtain⟨b,hb,h⟩:=bA (step:=la l slot who ⟨(i:Int)⟩) (fun x=>∃k:Nat,x.k=k/\k<=i/\∀q z,q<k->l[q]?=some z->¬Dv slot who y z) (fun x=>i-x.k.toNat) (fun b=>(b=.inr (.inr (.inr true))/\∃z∈l,Dv slot who y z)\/(∃x,b=.inl x)/\∀k z,k<i->l[k]?=some z->¬Dv slot who y z) (by
  rintro⟨t⟩ ⟨k,ht,h1,h2⟩;simp only at ht;subst ht;unfold la;simp only;by_cases hlt:k<i
  ·obtain⟨z,hz,hzm⟩:=az (l:=l) (n:=k);rw[dO,au hy,au hz];simp only[bind_some];rcases I8 (slot:=slot) (who:=who) (y:=y) (z:=z) (some (.inr (.inr (.inr (.inr true)))):Option (dQ⊕(dQ⊕(eD⊕(eD⊕Bool))))) (some (.inl ⟨i64.wrap ((k:Int)+1)⟩))with⟨e,h3⟩|⟨e,h3⟩
   ·rw[e,ah (n:=k)];refine .inl ⟨_,rfl,⟨k+1,rfl,by omega,fun q w hq hw=>?_⟩,by simp only;omega⟩;by_cases e2:q=k
    ·subst e2;rw[hz]at hw;rw[<-Option.some.inj hw];exact h3
    ·exact h2 q w (by omega) hw
   ·rw[e];exact .inr ⟨_,rfl,.inl ⟨rfl,z,hzm,h3⟩⟩
  ·rw[aR (show¬(k:Int)<(i:Int) by omega),cf]
   exact .inr ⟨_,rfl,.inr ⟨⟨_,rfl⟩,fun q z hq=>h2 q z (by omega)⟩⟩) (n:=aY) (x:=⟨0⟩) ⟨0,rfl,by omega,fun q z hq=>by omega⟩ (cq (by simp only;omega))
 rcases h with⟨rfl,h⟩|⟨⟨x,rfl⟩,h⟩
 ·exact .inl ⟨hb,h⟩
 ·exact .inr ⟨⟨x,hb⟩,h⟩
open Classical in
theorem FE {l:List Vt}(hl:l.length<=90000)(slot who:Int):xZ l slot who=some (decide (Me l slot who)):=by
 obtain⟨b,hb,h⟩:=bA (step:=pZ l slot who) (fun x=>∃i:Nat,x.i=i/\i<=l.length/\∀q y,q<i->l[q]?=some y->∀k z,k<q->l[k]?=some z->¬Dv slot who y z) (fun x=>l.length-x.i.toNat) (fun b=>(b=.inr true/\Me l slot who)\/(∃x,b=.inl x)/\¬Me l slot who) (by
  rintro⟨t⟩ ⟨i,ht,h1,h2⟩;simp only at ht;subst ht;unfold pZ;simp only;by_cases hlt:i<l.length
  ·obtain⟨y,hy,hym⟩:=az hlt;rw[dO];rcases DU hl (slot:=slot) (who:=who) hy with⟨e,z,hz,h3⟩|⟨⟨x,e⟩,h3⟩
   ·rw[e,ob];exact .inr ⟨_,rfl,.inl ⟨rfl,y,hym,z,hz,h3⟩⟩
   ·rw[e,ob];refine .inl ⟨⟨((i+1:Nat):Int)⟩,?_,⟨i+1,rfl,by omega,fun q w hq hw=>?_⟩,by simp only;omega⟩
    ·rw[ah (n:=i)];rfl
    ·by_cases e2:q=i
     ·subst e2;rw[hy]at hw;rw[<-Option.some.inj hw];exact h3
     ·exact h2 q w (by omega) hw
  ·rw[aR (show¬(i:Int)<(l.length:Int) by omega),cf];refine .inr ⟨_,rfl,.inr ⟨⟨_,rfl⟩,?_⟩⟩;rintro⟨y,hy,z,hz,h3⟩;obtain⟨q,hq⟩:=getElem?_of_mem hy;obtain⟨k,hk⟩:=getElem?_of_mem hz;have hql:=(List.getElem?_eq_some_iff.1 hq).1;have hkl:=(List.getElem?_eq_some_iff.1 hk).1;obtain⟨a1,a2,a3,a4,a5⟩:=h3;by_cases e:k=q
   ·subst e;rw[hq]at hk;exact a5 (by rw[Option.some.inj hk])
   ·by_cases e2:k<q
    ·exact h2 q y (by omega) hq k z e2 hk ⟨a1,a2,a3,a4,a5⟩
    ·exact h2 k z (by omega) hk q y (by omega) hq ⟨a2,a1,a4,a3,fun e3=>a5 e3.symm⟩) (n:=aY) (x:=⟨0⟩) ⟨0,rfl,by omega,fun q y hq=>by omega⟩ (cq (by simp only;omega))
 unfold xZ;rw[hb,ob];rcases h with⟨rfl,h⟩|⟨⟨x,rfl⟩,h⟩
 ·rw[aP h];rfl
 ·rw[aR h];rfl
theorem CG {α:Type}{p:α->Bool}{l:List α}{k:Nat}{y:α}(hy:l[k]?=some y)(hp:p y=true)(h:∀j z,j<k->l[j]?=some z->p z=false):l.find? p=some y:=by
 rw[List.find?_eq_some_iff_append];refine⟨hp,l.take k,l.drop (k+1),?_,fun a ha=>?_⟩
 ·have hk:=(List.getElem?_eq_some_iff.1 hy).1;have h2:=List.drop_eq_getElem_cons hk;rw[(List.getElem?_eq_some_iff.1 hy).2]at h2;rw[<-h2,List.take_append_drop]
 ·obtain⟨j,hj⟩:=getElem?_of_mem ha;have hjl:=(List.getElem?_eq_some_iff.1 hj).1;rw[length_take]at hjl;rw[getElem?_take_of_lt (by omega)]at hj;rw[h j a (by omega) hj];rfl
def sI (slot w:Int)(v:Vt):Bool:=decide (v.From=w/\v.Slot=slot)
theorem Hn {l:List Vt}(hl:l.length<=90000){r:List Int}{i:Nat}{w:Int}(hw:r[i]?=some w){out:List Vt}(ho:out.length<=100000)(o0:List Vt) :
  ∃x:gF,iter (mW l slot r ⟨(i:Int),o0⟩) aY ⟨0,out⟩=some x/\x.out=out++(l.find? (sI slot w)).toList:=by
 obtain⟨b,hb,h⟩:=bA (step:=mW l slot r ⟨(i:Int),o0⟩) (fun x=>∃k:Nat,x.k=k/\k<=l.length/\x.out=out/\∀j z,j<k->l[j]?=some z->sI slot w z=false) (fun x=>l.length-x.k.toNat) (fun b=>b.out=out++(l.find? (sI slot w)).toList) (by
  rintro⟨t,o⟩ ⟨k,ht,h1,h2,h3⟩;simp only at ht h2;subst ht h2;unfold mW;simp only;by_cases hlt:k<l.length
  ·obtain⟨y,hy,-⟩:=az hlt
   have hg:(bif y.From==w then some (y.Slot==slot)else some false)=some (sI slot w y):=by
    unfold sI;by_cases h4:y.From=w
    ·by_cases h5:y.Slot=slot
     ·simp[h4,h5]
     ·rw[KZ h5];simp[h4,h5]
    ·rw[KZ h4];simp[h4]
   rw[dO,au hy,au hw];simp only[bind_some];rw[hg,ob]
   cases hp:sI slot w y with
   |true=>
    rw[ct,aC (by simp only[length_singleton];omega),ct,CG hy hp h3];exact .inr ⟨_,rfl,rfl⟩
   |false=>
    rw[cf,ah (n:=k)];refine .inl ⟨_,rfl,⟨k+1,rfl,by omega,rfl,fun j z hj hz=>?_⟩,by simp only;omega⟩;by_cases e:j=k
    ·subst e;rw[hy]at hz;rw[<-Option.some.inj hz];exact hp
    ·exact h3 j z (by omega) hz
  ·rw[aR (show¬(k:Int)<(l.length:Int) by omega),cf];refine .inr ⟨_,rfl,?_⟩
   have:l.find? (sI slot w)=none:=by
    rw[List.find?_eq_none];intro z hz;obtain⟨j,hj⟩:=getElem?_of_mem hz;rw[h3 j z (by have:=(List.getElem?_eq_some_iff.1 hj).1;omega) hj];simp
   rw[this]
   simp) (n:=aY) (x:=⟨0,out⟩) ⟨0,rfl,by omega,rfl,fun j z hj=>by omega⟩ (cq (by simp only;omega))
 exact⟨b,hb,h⟩
theorem Eb (l:List Vt)(slot:Int):(ut l slot).Nodup:=by
 unfold ut;rw[(cQ _).nodup_iff];have hk:=(oa l).1;unfold List.Nodup at hk⊢;rw[List.pairwise_map]at hk;rw[List.pairwise_filterMap];refine hk.imp fun {a b} hab x hx y hy e=>hab ?_;subst e;unfold gZ at hx hy;split at hx
 ·rename_i h1;split at hy
  ·rename_i h2;have e1:=Option.some.inj hx;have e2:=Option.some.inj hy
   have h3:a.1.frm=b.1.frm:=by rw[<-e2]at e1;exact congrArg Vt.From e1
   have h4:a.1.slot=b.1.slot:=h1.1.trans h2.1.symm;cases ha:a.1;cases hb:b.1;rw[ha,hb]at h3 h4;simp only at h3 h4;rw[h3,h4]
  ·cases hy
 ·cases hx
open Classical in
theorem FA {l:List Vt}(hl:l.length<=30000)(slot:Int):xV l slot=some (ut l slot):=by
 obtain⟨r,hr,r1,r2,r3⟩:=FD (l:=l) (by omega);obtain⟨val,hval⟩:∃val:Int->Option Vt,val=fun w=>if Me l slot w then none else l.find? (sI slot w):=⟨_,rfl⟩
 have hv:∀w x,val w=some x↔x∈ut l slot/\x.From=w:=by
  intro w x;rw[hval,Hm];simp only;constructor
  ·intro h;split at h
   ·cases h
   ·rename_i hd;have h1:=List.find?_some h;have h2:=List.mem_of_find?_eq_some h;obtain⟨h3,h4⟩:=of_decide_eq_true h1;refine⟨⟨h2,h4,fun y hy e=>?_⟩,h3⟩;by_cases h5:y.Head=x.Head
    ·exact h5
    ·have e1:y.From=x.From:=congrArg Du.frm e;have e2:y.Slot=x.Slot:=congrArg Du.slot e;exact absurd ⟨y,hy,x,h2,by rw[e1,h3],h3,by rw[e2,h4],h4,h5⟩ hd
  ·rintro⟨⟨h1,h2,h3⟩,h4⟩
   have hsame:∀y∈l,sI slot w y=true->y=x:=by
    intro y hy hp;obtain⟨h5,h6⟩:=of_decide_eq_true hp
    have hd:qg y=qg x:=by unfold qg;rw[h5,h6,h4,h2]
    exact HM hd<|h3 y hy hd
   rw[i0_]
   ·cases hf:l.find? (sI slot w)with
    |none=>
     rw[List.find?_eq_none]at hf;exact absurd (aP ⟨h4,h2⟩)<|hf x h1
    |some y=>rw[hsame y (List.mem_of_find?_eq_some hf) (List.find?_some hf)]
   ·rintro⟨y,hy,z,hz,a1,a2,a3,a4,a5⟩;exact a5 (by rw[hsame y hy (aP ⟨a1,a3⟩),hsame z hz (aP ⟨a2,a4⟩)])
 have hlen:∀j,((r.take j).filterMap val).length<=j:=fun j=>Nat.le_trans (List.length_filterMap_le _ _) (by rw[length_take];omega)
 have e:=ax (step:=k9 l slot r) (n:=r.length) (fun j=>eA.mk (j:Int) ((r.take j).filterMap val)) (eA.mk (r.length:Int) (r.filterMap val)) (fun j hj=>by
  obtain⟨w,hw,-⟩:=az hj;have hj2:=hlen j;unfold k9;simp only;rw[dO,au hw,ob,FE (by omega),ob,aL hw,List.filterMap_append,ah (n:=j)];by_cases hd:Me l slot w
  ·rw[aP hd,ct,show[w].filterMap val=[] by rw[hval];simp[hd],append_nil]
  ·obtain⟨x,hx,hx2⟩:=Hn (l:=l) (by omega) (slot:=slot) hw (out:=(r.take j).filterMap val) (by omega) ((r.take j).filterMap val)
   rw[aR hd,cf,hx,ob,hx2,show[w].filterMap val=(l.find? (sI slot w)).toList by rw[hval];simp only[List.filterMap_cons,i0_ hd,List.filterMap_nil];cases l.find? (sI slot w) <;>rfl]) (by
  unfold k9;simp only
  rw[ft,take_length]) (by omega)
 have e':iter (k9 l slot r) aY (eA.mk 0 [])=_:=e;unfold xV;rw[hr,ob,e',ob]
 have hone:∀x∈r.filterMap val,∀y∈r.filterMap val,x.From=y.From->x=y:=by
  intro x hx y hy e;obtain⟨a,-,ha⟩:=List.mem_filterMap.1 hx;obtain⟨b,-,hb⟩:=List.mem_filterMap.1 hy;have h1:=((hv a x).1 ha).2;have h2:=((hv b y).1 hb).2;rw[<-h1,e,h2,hb]at ha;exact(Option.some.inj ha).symm
 have hup:(r.filterMap val).Pairwise fun x y=>x.From<y.From:=by
  rw[List.pairwise_filterMap]
  exact r1.imp fun {a b} hab x hx y hy=>by rw[((hv a x).1 hx).2,((hv b y).1 hy).2];exact hab
 have hnd:(r.filterMap val).Nodup:=hup.imp fun {a b} h e=>by rw[e]at h;omega
 have hperm:(r.filterMap val).Perm (ut l slot):=by
  rw[List.perm_ext_iff_of_nodup hnd (Eb l slot)];intro x;rw[List.mem_filterMap];constructor
  ·rintro⟨w,-,hw⟩;exact((hv w x).1 hw).1
  ·intro hx;exact⟨x.From,(r2 _).2 ⟨x,(Hm.1 hx).1,rfl⟩,(hv _ x).2 ⟨hx,rfl⟩⟩
 have:=qN hperm (hup.imp fun {a b} h=>by show a.From<=b.From;omega) (j6 _) hone;exact congrArg some this
theorem xS (hW:c.W.length<=1000)(hv:v.length<=30000)(slot:Int):vo c v slot=some (dF c v slot):=by
 have ho:=By v slot;have hc:=rx c slot
 have e:=ax (step:=k8 (ut v slot) (pF c slot)) (n:=(ut v slot).length) (fun k=>fa.mk (k:Int) (((ut v slot).take k).filter (vQ (pF c slot)))) (fa.mk ((ut v slot).length:Int) (dF c v slot)) (fun k hk=>by
  obtain⟨y,hy,-⟩:=az hk;have hlen:=bW (p:=vQ (pF c slot)) (l:=ut v slot) k;unfold k8;simp only;rw[aP (show(k:Int)<((ut v slot).length:Int) by omega),ct,au hy,ob,oQ,ob,bg hy,ah (n:=k)];show(bif vQ (pF c slot) y then _ else _)=_
  cases vQ (pF c slot) y with
  |true=>rw[ct,ob,aC (by simp only[length_singleton];omega),ct,ct]
  |false=>rw[cf,cf,append_nil]) (by
  unfold k8;simp only
  rw[aR (show¬((ut v slot).length:Int)<((ut v slot).length:Int) by omega),cf,take_length];rfl) (by omega)
 have e':iter (k8 (ut v slot) (pF c slot)) aY (fa.mk 0 [])=_:=e;unfold vo;rw[FA hv,ob,AQ hW,ob,e',ob]
theorem tm (hW:c.W.length<=1000)(hb:kd w.B)(h1:w.B.length<=1000)(h2:w.V.length<=1000)(slot:Int):tk c w slot=some (gX c w.B (dF c w.V slot)):=by
 have hg:=qu c w.V slot;unfold tk;rw[xS hW (by omega),ob,KI hb hW h1 (by omega),ob]
structure cV where
 any:Bool
 i:Int
 o5:List Bk
 o7:List ID
 x_5:Bool
 left:List Bk
def hZ (upto:Int)(lB:List Bk)(x1:cV):Option (cV⊕cV):=bif decide (x1.i<(lB.length:Int))then (ix lB x1.i).bind fun y1=>(JA y1).bind fun v2=>(tp x1.o5 x1.o7 y1.Parent).bind fun v3=>((vp x1.o7 v2).bind fun v5=>bif decide (v5>=0)then some true else some (decide (v3>=y1.Slot))).bind fun v4=>bif v4 then some (.inl (cV.mk x1.any (i64.wrap (x1.i+1)) x1.o5 x1.o7 x1.x_5 x1.left))else (bif decide (v3<0)then some true else some (decide (y1.Slot>upto))).bind fun v6=>bif v6 then bif bJ x1.left.length [y1].length 40 then some (.inl (cV.mk x1.any (i64.wrap (x1.i+1)) x1.o5 x1.o7 x1.x_5 (x1.left++[y1])))else none else bif decide ((x1.o5.length:Int)>=60)then bif bJ x1.left.length [y1].length 40 then some (.inl (cV.mk x1.any (i64.wrap (x1.i+1)) x1.o5 x1.o7 true (x1.left++[y1])))else none else bif bJ x1.o5.length [y1].length 40 then bif bJ x1.o7.length [v2].length 16 then some (.inl (cV.mk true (i64.wrap (x1.i+1)) (x1.o5++[y1]) (x1.o7++[v2]) x1.x_5 x1.left))else none else none else some (.inr (cV.mk x1.any x1.i x1.o5 x1.o7 x1.x_5 x1.left))
def p6 (upto:Int)(wB:List Bk)(lB:List Bk)(nms:List ID)(full:Bool):Option (Bool×List Bk×List Bk×List ID×Bool):=(iter (hZ upto lB) aY (cV.mk false 0 wB nms full ([]:List Bk))).bind fun v1=>some (v1.any,v1.left,v1.o5,v1.o7,v1.x_5)
theorem GF {lB:List Bk}{lV:List Vt}{inp:Vw}{r_:Bool×List Bk×List Bk×List ID×Bool}(h:p6 upto wB lB nms full=some r_):LC prog 170 [.ptr 8 0,(iQ upto)] [.dead,.dead,.box (cH inp),.box [.zs,.zs],.box [.zs,.zs],.vec 5 (wB.map aA),.vec 4 (wV.map aO),.vec 2 (nms.map aX),.box [(jB 5 wB),(jV 6 wV),(kB lB),(kV lV),.vec 2 7 (nms.map aX).length 0 (nms.map aX).length,(bQ full)]] (Is (bQ r_.1) [.dead,.dead,.box (cH inp),.box [.zs,.zs],.box [.zs,.zs],.vec 5 (r_.2.2.1.map aA),.vec 4 (wV.map aO),.vec 2 (r_.2.2.2.1.map aX),.box [(jB 5 r_.2.2.1),(jV 6 wV),(kB r_.2.1),(kV lV),.vec 2 7 (r_.2.2.2.1.map aX).length 0 (r_.2.2.2.1.map aX).length,(bQ r_.2.2.2.2)]]):=by
 refine eN Tryz.func170 Z Z Z ?_;unfold p6 at h;refine qR<|mN Z<|qR<|mN Z<|qR<|mN Z<|zQ<|qR<|mN Z<|LW.ent (bY.lazy (t:=5) (m:=5) Z Z Z) ?_;obtain⟨v1,b1,c1⟩:=zB h;clear h;refine LW.tail (E:=[(0,.ptr 8 0),(4,(bQ false)),(5,(jB 9 v1.left)),(6,(bQ v1.any))]) (O:=[.dead,.dead,.box (cH inp),.box [.zs,.zs],.box [.zs,.zs],.vec 5 (v1.o5.map aA),.vec 4 (wV.map aO),.vec 2 (v1.o7.map aX),.box [(jB 5 v1.o5),(jV 6 wV),(kB lB),(kV lV),.vec 2 7 (v1.o7.map aX).length 0 (v1.o7.map aX).length,(bQ v1.x_5)],.vec 5 (v1.left.map aA)]) ?_<|fun e1 K1 u1=>?_
 ·refine LW.block ?_;refine LW.iterB (E:=fun x1:cV=>[(0,.ptr 8 0),(1,(iQ upto)),(4,(bQ false)),(5,(jB 9 x1.left)),(6,(bQ x1.any)),(7,(iQ x1.i))]) (O:=fun x1=>[.dead,.dead,.box (cH inp),.box [.zs,.zs],.box [.zs,.zs],.vec 5 (x1.o5.map aA),.vec 4 (wV.map aO),.vec 2 (x1.o7.map aX),.box [(jB 5 x1.o5),(jV 6 wV),(kB lB),(kV lV),.vec 2 7 (x1.o7.map aX).length 0 (x1.o7.map aX).length,(bQ x1.x_5)],.vec 5 (x1.left.map aA)]) b1 (av 10 ⟨Z,Z,Z,Z,Z,Z,t_⟩)<|fun x1 z1 h m1=>?_;unfold hZ at h;refine zQ<|qR<|zM Z<|zM Z<|yS Z (zn Z Z)<|yS Z (zA Z Z jK)<|yS Z (zA Z Z aK)<|yS Z (zD Z Z Z bM Z Z)<|yS Z (ck Z Z)<|yS Z (an Z Z Z Z)<|nT ?_;refine zX Z (fun g1=>?_)<|fun g1=>?_
  ·refine zi g1 h fun h=>zk<|zT<|zQ<|zl<|qR<|zM Z<|yS Z (zn Z Z)<|yS Z (zA Z Z jK)<|yS Z (zA Z Z aK)<|yS Z (zD Z Z Z bM Z Z)<|zM Z<|zb h fun y1 j1 h=>yS Z (zx Z Z Z cw j1 Z)<|yS Z (bR Z Z Z ce Z Z)<|yS Z (ze Z uW Z Z)<|yS Z (zs Z Z Z Z ce Z Z Z Z)<|nT<|qR<|yS Z (zD Z Z Z ce Z Z)<|zb h fun v2 a2 h=>yS Z (yP Z Z Z (Pb a2) dG)<|yS Z (ze Z gP Z Z)<|yS Z (zs Z Z Z Z aF Z Z Z Z)<|nT<|zQ<|dx<|zH Z<|yE Z (zn Z Z)<|yE Z (zA Z Z fZ)<|yE Z (zA Z Z aK)<|yE Z (zD Z Z Z bM Z Z)<|zH Z<|yE Z (zn Z Z)<|yE Z (zA Z Z nj)<|yE Z (zD Z Z Z HJ Z Z)<|yE Z (zA Z Z gt)<|yE Z (zD Z Z Z aF Z Z)<|zb h fun v3 a3 h=>yE Z (zC Z Z Z (by kernel_rfl) (LC.lend (GB a3) (.cons (Conv.vecAll Z Z Z) (.cons (Conv.vecAll Z Z Z) dG)) Z))<|zH Z<|LO.nil<|zT<|zQ ?_;obtain⟨v4,b4,c4⟩:=zB h;clear h;refine LW.cut (E:=[(0,.ptr 8 0),(1,(iQ upto)),(4,(bQ false)),(5,(jB 9 x1.left)),(6,(bQ x1.any)),(7,(iQ x1.i)),(8,.ptr 10 0),(9,.ptr 11 0),(10,(iQ v3)),(55,(bQ v4))]) (O:=[.dead,.dead,.box (cH inp),.box [.zs,.zs],.box [.zs,.zs],.vec 5 (x1.o5.map aA),.vec 4 (wV.map aO),.vec 2 (x1.o7.map aX),.box [(jB 5 x1.o5),(jV 6 wV),(kB lB),(kV lV),.vec 2 7 (x1.o7.map aX).length 0 (x1.o7.map aX).length,(bQ x1.x_5)],.vec 5 (x1.left.map aA),.box [(iQ y1.Slot),(iQ y1.From),(uQ y1.Parent.1),(uQ y1.Parent.2),(uQ y1.Salt)],.box [(uQ v2.1),(uQ v2.2)]]) ?_ ?_
   ·have h:=b4;refine dx<|zH Z<|yE Z (zn Z Z)<|yE Z (zA Z Z nj)<|yE Z (zD Z Z Z HJ Z Z)<|yE Z (zD Z Z Z aF Z Z)<|zb h fun v5 a5 h=>yE Z (yC Z Z Z (LC.lend (JR a5) (.cons (Conv.vecAll Z Z Z) dG) Z))<|yE Z (an Z Z Z Z)<|zH Z ?_;refine LO.cases 50 Z (fun(g2:(decide (v5>=0))=true)=>?_) (fun(g2:(decide (v5>=0))=false)=>?_)
    ·refine zi g2 h fun h=>yK Z (gd g2 Z) Z<|yK Z (gd g2 Z) Z<|yK Z (gd g2 Z) Z<|yK Z (gd g2 Z) Z<|yE Z (bv Z (aJ g2 Z) Z)<|LO.nil<|zT ?_;cases h;exact av 12 ⟨Z,Z,Z,Z,Z,Z,Z,Z,Z,Z,t_⟩
    ·refine zo g2 h fun h=>yL Z (gd g2 Z) (zm Z Z)<|yL Z (gd g2 Z) (zA Z Z fK)<|yL Z (gd g2 Z) (zD Z Z Z aW Z Z)<|yL Z (gd g2 Z) (an Z Z Z Z)<|yE Z (aT Z (aJ g2 Z) Z)<|LO.nil<|zT ?_;cases h;exact av 12 ⟨Z,Z,Z,Z,Z,Z,Z,Z,Z,Z,t_⟩
   ·have h:=c4;clear b4;refine zX Z (fun g3=>?_)<|fun g3=>?_
    ·refine zi g3 h fun h=>zq<|ai<|zy<|zT<|zR<|zM Z<|yS Z (an Z Z Z Z)<|mN Z ?_;cases h;exact⟨_,rfl,av 10 ⟨Z,Z,Z,Z,Z,Z,t_⟩⟩
    ·refine zo g3 h fun h=>zk<|zT<|zQ ?_;obtain⟨v6,b6,c6⟩:=zB h;clear h;refine LW.cut (E:=[(0,.ptr 8 0),(1,(iQ upto)),(4,(bQ false)),(5,(jB 9 x1.left)),(6,(bQ x1.any)),(7,(iQ x1.i)),(8,.ptr 10 0),(9,.ptr 11 0),(63,(bQ v6))]) (O:=[.dead,.dead,.box (cH inp),.box [.zs,.zs],.box [.zs,.zs],.vec 5 (x1.o5.map aA),.vec 4 (wV.map aO),.vec 2 (x1.o7.map aX),.box [(jB 5 x1.o5),(jV 6 wV),(kB lB),(kV lV),.vec 2 7 (x1.o7.map aX).length 0 (x1.o7.map aX).length,(bQ x1.x_5)],.vec 5 (x1.left.map aA),.box [(iQ y1.Slot),(iQ y1.From),(uQ y1.Parent.1),(uQ y1.Parent.2),(uQ y1.Salt)],.box [(uQ v2.1),(uQ v2.2)]]) ?_ ?_
     ·have h:=b6;refine zR<|zM Z<|yS Z (an Z Z Z Z)<|zM Z ?_;refine zc 58 Z (fun g4=>?_)<|fun g4=>?_
      ·refine zi g4 h fun h=>yU Z (gd g4 Z) Z<|yU Z (gd g4 Z) Z<|yU Z (gd g4 Z) Z<|yU Z (gd g4 Z) Z<|yS Z (bv Z (aJ g4 Z) Z)<|nT ?_;cases h;exact av 12 ⟨Z,Z,Z,Z,Z,Z,Z,Z,Z,t_⟩
      ·refine zo g4 h fun h=>yV Z (gd g4 Z) (zA Z Z fK)<|yV Z (gd g4 Z) (zD Z Z Z aW Z Z)<|yV Z (gd g4 Z) (zm Z Z)<|yV Z (gd g4 Z) (an Z Z Z Z)<|yS Z (aT Z (aJ g4 Z) Z)<|nT ?_;cases h;exact av 12 ⟨Z,Z,Z,Z,Z,Z,Z,Z,Z,t_⟩
     ·have h:=c6;clear b6;refine zX Z (fun g5=>?_)<|fun g5=>?_
      ·refine zi g5 h fun h=>qR<|zM Z<|yS Z (zD Z Z Z ce Z Z)<|yS Z (gR Z cw Z Z Z Z Z)<|zg h fun q1 h=>yS Z (aa.appendX aA x1.left [y1] rfl Z Z Z iy.p Z cw q1 Z)<|mN Z<|zq<|ai<|zy<|zT<|zR<|zM Z<|yS Z (an Z Z Z Z)<|mN Z ?_;cases h;exact⟨_,rfl,av 10 ⟨Z,Z,Z,Z,Z,Z,t_⟩⟩
      ·refine zo g5 h fun h=>zk<|zT<|zQ<|qR<|zM Z<|yS Z (zn Z Z)<|yS Z (zA Z Z fZ)<|yS Z (zA Z Z aK)<|yS Z (zD Z Z Z bM Z Z)<|yS Z (aa.lenVM Z Z Z (by kernel_rfl))<|yS Z (an Z Z Z Z)<|nT ?_;refine zX Z (fun g6=>?_)<|fun g6=>?_
       ·refine zi g6 h fun h=>qR<|zM Z<|yS Z (zn Z Z)<|yS Z (zA Z Z uc)<|yS Z (zs Z Z Z Z uS Z Z Z Z)<|nT<|qR<|zM Z<|yS Z (zD Z Z Z ce Z Z)<|yS Z (gR Z cw Z Z Z Z Z)<|zg h fun q2 h=>yS Z (aa.appendX aA x1.left [y1] rfl Z Z Z iy.p Z cw q2 Z)<|mN Z<|zq<|ai<|zy<|zT<|zR<|zM Z<|yS Z (an Z Z Z Z)<|mN Z ?_;cases h;exact⟨_,rfl,av 10 ⟨Z,Z,Z,Z,Z,Z,t_⟩⟩
       ·refine zo g6 h fun h=>zk<|zT<|zQ<|fB<|zK Z<|zK Z<|yG Z (fun H _=>zn Z Z)<|yG Z (fun H _=>zA Z Z fZ)<|yG Z (fun H _=>zA Z Z aK)<|yF Z (zd Z Z Z bM Z Z) Z<|yF Z (zd Z Z Z ce Z Z) Z<|yG Z (fun H _=>gR Z cw Z Z Z Z Z)<|zg h fun q3 h=>yF Z (cj.appendX aA x1.o5 [y1] rfl Z Z Z Z cw q3) Z<|yG Z (fun H _=>zn Z Z)<|yG Z (fun H _=>zA Z Z fZ)<|yG Z (fun H _=>zA Z Z aK)<|yF Z (zt Z Z Z Z bM Z Z Z) Z ?_;refine LF.nil ⟨by kernel_rfl,?_⟩;refine zT<|zQ<|fB<|zK Z<|zK Z<|yG Z (fun H _=>zn Z Z)<|yG Z (fun H _=>zA Z Z nj)<|yF Z (zd Z Z Z HJ Z Z) Z<|yF Z (zd Z Z Z aF Z Z) Z<|yG Z (fun H _=>gR Z fH Z Z Z Z Z)<|zg h fun q4 h=>yF Z (cj.appendX aX x1.o7 [v2] rfl Z Z Z Z fH q4) Z<|yG Z (fun H _=>zn Z Z)<|yG Z (fun H _=>zA Z Z nj)<|yF Z (zt Z Z Z Z HJ Z Z Z) Z ?_;refine LF.nil ⟨by kernel_rfl,?_⟩;refine zT<|zR<|zM Z<|zN<|af<|zT<|zR<|zM Z<|yS Z (an Z Z Z Z)<|mN Z ?_;cases h;exact⟨_,rfl,av 10 ⟨Z,Z,Z,Z,Z,Z,t_⟩⟩
  ·refine zo g1 h fun h=>zq<|ai<|ai<|zy<|zT ?_;cases h;obtain rfl:=(m1 _ rfl);exact av 10 ⟨Z,Z,Z,Z,t_⟩
 ·have h:=c1;clear b1;refine zT<|LW.weak u1<|zQ<|LW.ent (bY.frz (t:=5) (env':=[(0,.ptr 8 0),(4,(bQ false)),(6,(bQ v1.any))]) (H0:=[.dead,.dead,.box (cH inp),.box [.zs,.zs],.box [.zs,.zs],.vec 5 (v1.o5.map aA),.vec 4 (wV.map aO),.vec 2 (v1.o7.map aX),.box [(jB 5 v1.o5),(jV 6 wV),(kB lB),(kV lV),.vec 2 7 (v1.o7.map aX).length 0 (v1.o7.map aX).length,(bQ v1.x_5)]]) Z Z Z Z Z ⟨Z,Z,Z,t_⟩ Z Z)<|zR<|zM Z<|zM Z<|yS Z (zn Z Z)<|yS Z (zA Z Z jK)<|yS Z (zA Z Z aK)<|yS Z (zs Z Z Z Z bM Z Z Z Z)<|nT<|qR<|zM Z<|mN Z<|zr ?_;cases h;exact aD (.one (.tmp Z))<|⟨rfl,rfl⟩
structure cM where
 any:Bool
 i:Int
 o6:List Vt
 x_5:Bool
 left:List Vt
def gw (upto:Int)(wB:List Bk)(lV:List Vt)(nms:List ID)(x1:cM):Option (cM⊕cM):=bif decide (x1.i<(lV.length:Int))then (ix lV x1.i).bind fun y1=>(tp wB nms y1.Head).bind fun v2=>((AO x1.o6 y1).bind fun v4=>bif decide (v4>0)then some true else some (decide (v2>y1.Slot))).bind fun v3=>bif v3 then some (.inl (cM.mk x1.any (i64.wrap (x1.i+1)) x1.o6 x1.x_5 x1.left))else (bif decide (v2<0)then some true else some (decide (y1.Slot>upto))).bind fun v5=>bif v5 then bif bJ x1.left.length [y1].length 32 then some (.inl (cM.mk x1.any (i64.wrap (x1.i+1)) x1.o6 x1.x_5 (x1.left++[y1])))else none else bif decide ((x1.o6.length:Int)>=240)then bif bJ x1.left.length [y1].length 32 then some (.inl (cM.mk x1.any (i64.wrap (x1.i+1)) x1.o6 true (x1.left++[y1])))else none else bif bJ x1.o6.length [y1].length 32 then some (.inl (cM.mk true (i64.wrap (x1.i+1)) (x1.o6++[y1]) x1.x_5 x1.left))else none else some (.inr (cM.mk x1.any x1.i x1.o6 x1.x_5 x1.left))
def m5 (upto:Int)(wB:List Bk)(wV:List Vt)(lV:List Vt)(nms:List ID)(full:Bool):Option (Bool×List Vt×List Vt×Bool):=(iter (gw upto wB lV nms) aY (cM.mk false 0 wV full ([]:List Vt))).bind fun v1=>some (v1.any,v1.left,v1.o6,v1.x_5)
theorem DP {lB:List Bk}{lV:List Vt}{inp:Vw}{r_:Bool×List Vt×List Vt×Bool}(h:m5 upto wB wV lV nms full=some r_):LC prog 171 [.ptr 8 0,(iQ upto)] [.dead,.dead,.box (cH inp),.box [.zs,.zs],.box [.zs,.zs],.vec 5 (wB.map aA),.vec 4 (wV.map aO),.vec 2 (nms.map aX),.box [(jB 5 wB),(jV 6 wV),(kB lB),(kV lV),.vec 2 7 (nms.map aX).length 0 (nms.map aX).length,(bQ full)]] (Is (bQ r_.1) [.dead,.dead,.box (cH inp),.box [.zs,.zs],.box [.zs,.zs],.vec 5 (wB.map aA),.vec 4 (r_.2.2.1.map aO),.vec 2 (nms.map aX),.box [(jB 5 wB),(jV 6 r_.2.2.1),(kB lB),(kV r_.2.1),.vec 2 7 (nms.map aX).length 0 (nms.map aX).length,(bQ r_.2.2.2)]]):=by
 refine eN Tryz.func171 Z Z Z ?_;unfold m5 at h;refine qR<|mN Z<|qR<|mN Z<|qR<|mN Z<|zQ<|qR<|mN Z<|LW.ent (bY.lazy (t:=5) (m:=4) Z Z Z) ?_;obtain⟨v1,p1,b1⟩:=zB h;clear h;refine LW.tail (E:=[(0,.ptr 8 0),(4,(bQ false)),(5,(jV 9 v1.left)),(6,(bQ v1.any))]) (O:=[.dead,.dead,.box (cH inp),.box [.zs,.zs],.box [.zs,.zs],.vec 5 (wB.map aA),.vec 4 (v1.o6.map aO),.vec 2 (nms.map aX),.box [(jB 5 wB),(jV 6 v1.o6),(kB lB),(kV lV),.vec 2 7 (nms.map aX).length 0 (nms.map aX).length,(bQ v1.x_5)],.vec 4 (v1.left.map aO)]) ?_<|fun e1 K1 u1=>?_
 ·refine LW.block ?_;refine LW.iterB (E:=fun x1:cM=>[(0,.ptr 8 0),(1,(iQ upto)),(4,(bQ false)),(5,(jV 9 x1.left)),(6,(bQ x1.any)),(7,(iQ x1.i))]) (O:=fun x1=>[.dead,.dead,.box (cH inp),.box [.zs,.zs],.box [.zs,.zs],.vec 5 (wB.map aA),.vec 4 (x1.o6.map aO),.vec 2 (nms.map aX),.box [(jB 5 wB),(jV 6 x1.o6),(kB lB),(kV lV),.vec 2 7 (nms.map aX).length 0 (nms.map aX).length,(bQ x1.x_5)],.vec 4 (x1.left.map aO)]) p1 (av 10 ⟨Z,Z,Z,Z,Z,Z,t_⟩)<|fun x1 z1 h c1=>?_;unfold gw at h;refine zQ<|qR<|zM Z<|zM Z<|yS Z (zn Z Z)<|yS Z (zA Z Z jK)<|yS Z (zA Z Z aQ)<|yS Z (zD Z Z Z co Z Z)<|yS Z (ck Z Z)<|yS Z (an Z Z Z Z)<|nT ?_;refine zX Z (fun g1=>?_)<|fun g1=>?_
  ·refine zi g1 h fun h=>zk<|zT<|zQ<|zl<|qR<|zM Z<|yS Z (zn Z Z)<|yS Z (zA Z Z jK)<|yS Z (zA Z Z aQ)<|yS Z (zD Z Z Z co Z Z)<|zM Z<|zb h fun y1 j1 h=>yS Z (zx Z Z Z bC j1 Z)<|yS Z (bR Z Z Z cB Z Z)<|yS Z (ze Z uX Z Z)<|yS Z (zs Z Z Z Z cB Z Z Z Z)<|nT<|zQ<|dx<|zH Z<|yE Z (zn Z Z)<|yE Z (zA Z Z fZ)<|yE Z (zA Z Z aK)<|yE Z (zD Z Z Z bM Z Z)<|zH Z<|yE Z (zn Z Z)<|yE Z (zA Z Z nj)<|yE Z (zD Z Z Z HJ Z Z)<|yE Z (zA Z Z i2)<|yE Z (zD Z Z Z aF Z Z)<|zb h fun v2 a2 h=>yE Z (zC Z Z Z (by kernel_rfl) (LC.lend (GB a2) (.cons (Conv.vecAll Z Z Z) (.cons (Conv.vecAll Z Z Z) dG)) Z))<|zH Z<|LO.nil<|zT<|zQ ?_;obtain⟨v3,p3,b3⟩:=zB h;clear h;refine LW.cut (E:=[(0,.ptr 8 0),(1,(iQ upto)),(4,(bQ false)),(5,(jV 9 x1.left)),(6,(bQ x1.any)),(7,(iQ x1.i)),(8,.ptr 10 0),(9,(iQ v2)),(53,(bQ v3))]) (O:=[.dead,.dead,.box (cH inp),.box [.zs,.zs],.box [.zs,.zs],.vec 5 (wB.map aA),.vec 4 (x1.o6.map aO),.vec 2 (nms.map aX),.box [(jB 5 wB),(jV 6 x1.o6),(kB lB),(kV lV),.vec 2 7 (nms.map aX).length 0 (nms.map aX).length,(bQ x1.x_5)],.vec 4 (x1.left.map aO),.box [(iQ y1.From),(iQ y1.Slot),(uQ y1.Head.1),(uQ y1.Head.2)]]) ?_ ?_
   ·have h:=p3;refine dx<|zH Z<|yE Z (zn Z Z)<|yE Z (zA Z Z fZ)<|yE Z (zA Z Z aQ)<|yE Z (zD Z Z Z co Z Z)<|yE Z (zD Z Z Z cB Z Z)<|zb h fun v4 a4 h=>yE Z (yC Z Z Z (LC.lend (Lb a4) (.cons (Conv.vecAll Z Z Z) dG) Z))<|yE Z (an Z Z Z Z)<|zH Z ?_;refine LO.cases 48 Z (fun(g2:(decide (v4>0))=true)=>?_) (fun(g2:(decide (v4>0))=false)=>?_)
    ·refine zi g2 h fun h=>yK Z (gd g2 Z) Z<|yK Z (gd g2 Z) Z<|yK Z (gd g2 Z) Z<|yK Z (gd g2 Z) Z<|yE Z (bv Z (aJ g2 Z) Z)<|LO.nil<|zT ?_;cases h;exact av 11 ⟨Z,Z,Z,Z,Z,Z,Z,Z,Z,t_⟩
    ·refine zo g2 h fun h=>yL Z (gd g2 Z) (zm Z Z)<|yL Z (gd g2 Z) (zA Z Z iZ)<|yL Z (gd g2 Z) (zD Z Z Z aW Z Z)<|yL Z (gd g2 Z) (an Z Z Z Z)<|yE Z (aT Z (aJ g2 Z) Z)<|LO.nil<|zT ?_;cases h;exact av 11 ⟨Z,Z,Z,Z,Z,Z,Z,Z,Z,t_⟩
   ·have h:=b3;clear p3;refine zX Z (fun g3=>?_)<|fun g3=>?_
    ·refine zi g3 h fun h=>zq<|ai<|zy<|zT<|zR<|zM Z<|yS Z (an Z Z Z Z)<|mN Z ?_;cases h;exact⟨_,rfl,av 10 ⟨Z,Z,Z,Z,Z,Z,t_⟩⟩
    ·refine zo g3 h fun h=>zk<|zT<|zQ ?_;obtain⟨v5,p5,b5⟩:=zB h;clear h;refine LW.cut (E:=[(0,.ptr 8 0),(1,(iQ upto)),(4,(bQ false)),(5,(jV 9 x1.left)),(6,(bQ x1.any)),(7,(iQ x1.i)),(8,.ptr 10 0),(61,(bQ v5))]) (O:=[.dead,.dead,.box (cH inp),.box [.zs,.zs],.box [.zs,.zs],.vec 5 (wB.map aA),.vec 4 (x1.o6.map aO),.vec 2 (nms.map aX),.box [(jB 5 wB),(jV 6 x1.o6),(kB lB),(kV lV),.vec 2 7 (nms.map aX).length 0 (nms.map aX).length,(bQ x1.x_5)],.vec 4 (x1.left.map aO),.box [(iQ y1.From),(iQ y1.Slot),(uQ y1.Head.1),(uQ y1.Head.2)]]) ?_ ?_
     ·have h:=p5;refine zR<|zM Z<|yS Z (an Z Z Z Z)<|zM Z ?_;refine zc 56 Z (fun g4=>?_)<|fun g4=>?_
      ·refine zi g4 h fun h=>yU Z (gd g4 Z) Z<|yU Z (gd g4 Z) Z<|yU Z (gd g4 Z) Z<|yU Z (gd g4 Z) Z<|yS Z (bv Z (aJ g4 Z) Z)<|nT ?_;cases h;exact av 11 ⟨Z,Z,Z,Z,Z,Z,Z,Z,t_⟩
      ·refine zo g4 h fun h=>yV Z (gd g4 Z) (zA Z Z iZ)<|yV Z (gd g4 Z) (zD Z Z Z aW Z Z)<|yV Z (gd g4 Z) (zm Z Z)<|yV Z (gd g4 Z) (an Z Z Z Z)<|yS Z (aT Z (aJ g4 Z) Z)<|nT ?_;cases h;exact av 11 ⟨Z,Z,Z,Z,Z,Z,Z,Z,t_⟩
     ·have h:=b5;clear p5;refine zX Z (fun g5=>?_)<|fun g5=>?_
      ·refine zi g5 h fun h=>qR<|zM Z<|yS Z (zD Z Z Z cB Z Z)<|yS Z (gR Z bC Z Z Z Z Z)<|zg h fun q1 h=>yS Z (aa.appendX aO x1.left [y1] rfl Z Z Z iy.p Z bC q1 Z)<|mN Z<|zq<|ai<|zy<|zT<|zR<|zM Z<|yS Z (an Z Z Z Z)<|mN Z ?_;cases h;exact⟨_,rfl,av 10 ⟨Z,Z,Z,Z,Z,Z,t_⟩⟩
      ·refine zo g5 h fun h=>zk<|zT<|zQ<|qR<|zM Z<|yS Z (zn Z Z)<|yS Z (zA Z Z fZ)<|yS Z (zA Z Z aQ)<|yS Z (zD Z Z Z co Z Z)<|yS Z (aa.lenVM Z Z Z (by kernel_rfl))<|yS Z (an Z Z Z Z)<|nT ?_;refine zX Z (fun g6=>?_)<|fun g6=>?_
       ·refine zi g6 h fun h=>qR<|zM Z<|yS Z (zn Z Z)<|yS Z (zA Z Z uc)<|yS Z (zs Z Z Z Z uS Z Z Z Z)<|nT<|qR<|zM Z<|yS Z (zD Z Z Z cB Z Z)<|yS Z (gR Z bC Z Z Z Z Z)<|zg h fun q2 h=>yS Z (aa.appendX aO x1.left [y1] rfl Z Z Z iy.p Z bC q2 Z)<|mN Z<|zq<|ai<|zy<|zT<|zR<|zM Z<|yS Z (an Z Z Z Z)<|mN Z ?_;cases h;exact⟨_,rfl,av 10 ⟨Z,Z,Z,Z,Z,Z,t_⟩⟩
       ·refine zo g6 h fun h=>zk<|zT<|zQ<|fB<|zK Z<|zK Z<|yG Z (fun H _=>zn Z Z)<|yG Z (fun H _=>zA Z Z fZ)<|yG Z (fun H _=>zA Z Z aQ)<|yF Z (zd Z Z Z co Z Z) Z<|yF Z (zd Z Z Z cB Z Z) Z<|yG Z (fun H _=>gR Z bC Z Z Z Z Z)<|zg h fun q3 h=>yF Z (cj.appendX aO x1.o6 [y1] rfl Z Z Z Z bC q3) Z<|yG Z (fun H _=>zn Z Z)<|yG Z (fun H _=>zA Z Z fZ)<|yG Z (fun H _=>zA Z Z aQ)<|yF Z (zt Z Z Z Z co Z Z Z) Z ?_;refine LF.nil ⟨by kernel_rfl,?_⟩;refine zT<|zR<|zM Z<|zN<|af<|zT<|zR<|zM Z<|yS Z (an Z Z Z Z)<|mN Z ?_;cases h;exact⟨_,rfl,av 10 ⟨Z,Z,Z,Z,Z,Z,t_⟩⟩
  ·refine zo g1 h fun h=>zq<|ai<|ai<|zy<|zT ?_;cases h;obtain rfl:=(c1 _ rfl);exact av 10 ⟨Z,Z,Z,Z,t_⟩
 ·have h:=b1;clear p1;refine zT<|LW.weak u1<|zQ<|LW.ent (bY.frz (t:=5) (env':=[(0,.ptr 8 0),(4,(bQ false)),(6,(bQ v1.any))]) (H0:=[.dead,.dead,.box (cH inp),.box [.zs,.zs],.box [.zs,.zs],.vec 5 (wB.map aA),.vec 4 (v1.o6.map aO),.vec 2 (nms.map aX),.box [(jB 5 wB),(jV 6 v1.o6),(kB lB),(kV lV),.vec 2 7 (nms.map aX).length 0 (nms.map aX).length,(bQ v1.x_5)]]) Z Z Z Z Z ⟨Z,Z,Z,t_⟩ Z Z)<|zR<|zM Z<|zM Z<|yS Z (zn Z Z)<|yS Z (zA Z Z jK)<|yS Z (zA Z Z aQ)<|yS Z (zs Z Z Z Z co Z Z Z Z)<|nT<|qR<|zM Z<|mN Z<|zr ?_;cases h;exact aD (.one (.tmp Z))<|⟨rfl,rfl⟩
structure dI where
 i:Int
 out:List ID
def ia (l:List Bk)(x1:dI):Option (dI⊕dI):=bif decide (x1.i<(l.length:Int))then (ix l x1.i).bind fun y1=>(JA y1).bind fun v2=>bif bJ x1.out.length [v2].length 16 then some (.inl (dI.mk (i64.wrap (x1.i+1)) (x1.out++[v2])))else none else some (.inr (dI.mk x1.i x1.out))
def p7 (l:List Bk):Option (List ID):=(iter (ia l) aY (dI.mk 0 ([]:List ID))).bind fun v1=>some v1.out
theorem GG {r_:List ID}(h:p7 l=some r_):LC prog 143 [(kB l)] [] (Is (.vec 2 0 (r_.map aX).length 0 (r_.map aX).length) [.vec 2 (r_.map aX)]):=by
 refine eN Tryz.func143 Z Z Z ?_;unfold p7 at h;refine qR<|mN Z<|qR<|mN Z<|zQ<|qR<|mN Z<|LW.ent (bY.lazy (t:=3) (m:=2) Z Z Z) ?_;obtain⟨v1,b1,c1⟩:=zB h;clear h;refine LW.tail (E:=[(2,.zs),(3,.vec 2 0 (v1.out.map aX).length 0 (v1.out.map aX).length)]) (O:=[.vec 2 (v1.out.map aX)]) ?_<|fun e1 K1 u1=>?_
 ·refine LW.block ?_;refine LW.iterB (E:=fun x1:dI=>[(0,(kB l)),(2,.zs),(3,.vec 2 0 (x1.out.map aX).length 0 (x1.out.map aX).length),(4,(iQ x1.i))]) (O:=fun x1=>[.vec 2 (x1.out.map aX)]) b1 (av 1 ⟨Z,Z,Z,Z,t_⟩)<|fun x1 z1 h m1=>?_;unfold ia at h;refine zQ<|qR<|zM Z<|zM Z<|yS Z (ck Z Z)<|yS Z (an Z Z Z Z)<|nT ?_;refine zX Z (fun g1=>?_)<|fun g1=>?_
  ·refine zi g1 h fun h=>zk<|zT<|zQ<|zl<|zR<|zM Z<|zM Z<|zM Z<|zb h fun y1 j1 h=>yS Z (zx Z Z Z cw j1 Z)<|yS Z (bR Z Z Z ce Z Z)<|zb h fun v2 a2 h=>yS Z (yP Z Z Z (Pb a2) dG)<|yS Z (gR Z fH Z Z Z Z Z)<|zg h fun q1 h=>yS Z (aa.appendX aX x1.out [v2] rfl Z Z Z iy.p Z fH q1 Z)<|zM Z<|zN<|af<|zT<|zR<|zM Z<|yS Z (an Z Z Z Z)<|mN Z ?_;cases h;exact⟨_,rfl,av 1 ⟨Z,Z,Z,Z,t_⟩⟩
  ·refine zo g1 h fun h=>zq<|ai<|ai<|zy<|zT ?_;cases h;obtain rfl:=(m1 _ rfl);exact av 1 ⟨Z,Z,t_⟩
 ·have h:=c1;clear b1;refine zT<|LW.weak u1<|qR<|zM Z<|mN Z<|zr ?_;cases h;exact aD (.one (.tmp Z))<|⟨rfl,rfl⟩
structure dP where
 k:Int
 o5:List Bk
 o6:List Vt
 o7:List ID
 x_2:List Bk
 x_3:List Vt
 x_5:Bool
def mV (v_in:Vw)(upto:Int)(x1:dP):Option (dP⊕dP):=bif decide (x1.k<=(i64.wrap ((v_in.B.length:Int)+(v_in.V.length:Int))))then (p6 upto x1.o5 x1.x_2 x1.o7 x1.x_5).bind fun v5=>(m5 upto v5.2.2.1 x1.o6 x1.x_3 v5.2.2.2.1 v5.2.2.2.2).bind fun v6=>bif !v5.1 then bif !v6.1 then some (.inr (dP.mk x1.k v5.2.2.1 v6.2.2.1 v5.2.2.2.1 v5.2.1 v6.2.1 v6.2.2.2))else some (.inl (dP.mk (i64.wrap (x1.k+1)) v5.2.2.1 v6.2.2.1 v5.2.2.2.1 v5.2.1 v6.2.1 v6.2.2.2))else some (.inl (dP.mk (i64.wrap (x1.k+1)) v5.2.2.1 v6.2.2.1 v5.2.2.2.1 v5.2.1 v6.2.1 v6.2.2.2))else some (.inr (dP.mk x1.k x1.o5 x1.o6 x1.o7 x1.x_2 x1.x_3 x1.x_5))
def xT (c:Cf)(w:Vw)(v_in:Vw)(upto:Int):Option (Vw×Vw×Bool):=(xW c w).bind fun v1=>bif !v1 then some (w,v_in,false)else bif bJ 0 w.B.length 40 then bif bJ 0 w.V.length 32 then (vi c v_in).bind fun v2=>(p7 w.B).bind fun v3=>(iter (mV v_in upto) aY (dP.mk 0 w.B w.V v3 v2.B v2.V false)).bind fun v4=>some (Vw.mk v4.o5 v4.o6,Vw.mk v4.x_2 v4.x_3,v4.x_5)else none else none
theorem Nr {v_in:Vw}{r_:Vw×Vw×Bool}(h:xT c w v_in upto=some r_):aq prog 134 [gQ c,iB w,iB v_in,.int .i64 upto] [iB r_.1,iB r_.2.1,.bool r_.2.2]:=by
 refine zh Tryz.func134 Z Z Z Z ?_;unfold xT at h;refine qR<|yS Z (bx Z Z Z Z Z)<|yS Z (bx Z Z Z Z Z)<|yS Z (bx Z Z Z Z Z)<|yS Z (ze Z d5 Z Z)<|yS Z (ze Z d5 Z Z)<|mN Z<|qR<|yS Z (zD Z Z Z be Z Z)<|yS Z (zD Z Z Z aG Z Z)<|zb h fun v1 a1 h=>yS Z (yP Z Z Z (Nu a1) bG)<|mN Z<|zQ<|qR<|zM Z<|yS Z (aa.not Z Z)<|nT ?_;refine zX Z (fun g1=>?_)<|fun g1=>?_
 ·refine zi g1 h fun h=>zQ<|fB<|yF Z (zd Z Z Z aG Z Z) Z<|yF Z (zd Z Z Z aG Z Z) Z<|yF Z (zt Z Z Z Z aG Z Z Z) Z<|yF Z (zt Z Z Z Z aG Z Z Z) Z<|zK Z ?_;refine LF.nil ⟨by kernel_rfl,?_⟩;refine zT<|zr<|ae ?_;cases h;exact zf (.three (er Z Z) (er Z Z) (.tmp Z))<|⟨_,rfl,pA⟩
 ·refine zo g1 h fun h=>zk<|zT<|zQ<|LW.ent (bY.slot Z)<|LW.ent (bY.slot Z)<|LW.ent (bY.slot Z)<|LW.ent (bY.slot Z)<|fB<|yG Z (fun H _=>zA Z Z aK)<|yF Z (zd Z Z Z bM Z Z) Z<|zg h fun q1 h=>yF Z (cj.appendZX aA w.B Z Z (id:=5) Z Z Z cw q1) Z<|yG Z (fun H _=>zA Z Z aQ)<|yF Z (zd Z Z Z co Z Z) Z<|zg h fun q2 h=>yF Z (cj.appendZX aO w.V Z Z (id:=6) Z Z Z bC q2) Z<|yG Z (fun H _=>aa.build Z nh Z Z Z)<|yF Z (zd Z Z Z be Z Z) Z<|yF Z (zd Z Z Z aG Z Z) Z<|zb h fun v2 a2 h=>?_;refine yF (F:=[]) (s:=none) Z (fun H _=>yP Z Z Z (JL a2) bG) Z ?_;refine yG Z (fun H _=>zA Z Z aK)<|yF Z (zd Z Z Z bM Z Z) Z<|zb h fun v3 a3 h=>?_;refine yF Z (cj.callV (id:=7) (qs:=[(kB w.B)]) Z Z Z (by kernel_rfl) (GG a3) (fun H=>(.consC zv .nil)) Z) Z ?_;refine yG Z (fun H _=>aa.build Z K5 Z Z Z)<|yF Z (cj.box Z Z Z (id:=8) Z) Z<|zK Z ?_;refine LF.nil ⟨by kernel_rfl,?_⟩;refine zT<|zQ<|zQ<|LW.ent (bY.kill (i:=0) Z)<|LW.ent (bY.kill (i:=1) Z)<|zR<|mN Z ?_;obtain⟨v4,p4,b4⟩:=zB h;clear h;refine LW.tail (E:=[(8,.ptr 3 0),(9,.ptr 4 0),(10,(bQ false)),(12,.ptr 8 0)]) (O:=[.dead,.dead,.box (cH v_in),.box [.zs,.zs],.box [.zs,.zs],.vec 5 (v4.o5.map aA),.vec 4 (v4.o6.map aO),.vec 2 (v4.o7.map aX),.box [(jB 5 v4.o5),(jV 6 v4.o6),(kB v4.x_2),(kV v4.x_3),.vec 2 7 (v4.o7.map aX).length 0 (v4.o7.map aX).length,(bQ v4.x_5)]]) ?_<|fun e4 c4 u4=>?_
  ·refine LW.block ?_;refine LW.iterB (E:=fun x1:dP=>[(3,(iQ upto)),(6,.ptr 2 0),(8,.ptr 3 0),(9,.ptr 4 0),(10,(bQ false)),(12,.ptr 8 0),(13,(iQ x1.k))]) (O:=fun x1=>[.dead,.dead,.box (cH v_in),.box [.zs,.zs],.box [.zs,.zs],.vec 5 (x1.o5.map aA),.vec 4 (x1.o6.map aO),.vec 2 (x1.o7.map aX),.box [(jB 5 x1.o5),(jV 6 x1.o6),(kB x1.x_2),(kV x1.x_3),.vec 2 7 (x1.o7.map aX).length 0 (x1.o7.map aX).length,(bQ x1.x_5)]]) p4 (av 9 ⟨Z,Z,Z,Z,Z,Z,Z,t_⟩)<|fun x1 z1 h m1=>?_;unfold mV at h;refine zQ<|qR<|zM Z<|yS Z (zA Z Z aK)<|yS Z (zD Z Z Z bM Z Z)<|yS Z (ck Z Z)<|yS Z (zA Z Z aQ)<|yS Z (zD Z Z Z co Z Z)<|yS Z (ck Z Z)<|yS Z (an Z Z Z Z)<|yS Z (an Z Z Z Z)<|nT ?_;refine zX Z (fun g2=>?_)<|fun g2=>?_
   ·refine zi g2 h fun h=>zk<|zT<|zQ<|zl<|qR<|zM Z<|zM Z<|zb h fun v5 a5 h=>yS Z (yC Z Z Z (GF a5))<|mN Z<|qR<|zM Z<|zM Z<|zb h fun v6 a6 h=>yS Z (yC Z Z Z (DP a6))<|mN Z<|qR<|zM Z<|yS Z (aa.not Z Z)<|zM Z ?_;refine zc 57 Z (fun g3=>?_)<|fun g3=>?_
    ·refine zi g3 h fun h=>yV Z (gd g3 Z) (zm Z Z)<|yV Z (gd g3 Z) (aa.not Z Z)<|yS Z (bv Z (aJ g3 Z) Z)<|nT ?_;refine zX Z (fun g4=>?_)<|fun g4=>?_
     ·refine zi g4 h fun h=>zq<|iO (by decide)<|ai<|ai<|zy<|zT ?_;cases h;obtain rfl:=(m1 _ rfl);exact av 9 ⟨Z,Z,Z,Z,t_⟩
     ·refine zo g4 h fun h=>zk<|af<|zT<|zR<|zM Z<|yS Z (an Z Z Z Z)<|mN Z ?_;cases h;exact⟨_,rfl,av 9 ⟨Z,Z,Z,Z,Z,Z,Z,t_⟩⟩
    ·refine zo g3 h fun h=>yU Z (gd g3 Z) Z<|yU Z (gd g3 Z) Z<|yS Z (aT Z (aJ g3 Z) Z)<|nT<|LW.condF Z<|zk<|af<|zT<|zR<|zM Z<|yS Z (an Z Z Z Z)<|mN Z ?_;cases h;exact⟨_,rfl,av 9 ⟨Z,Z,Z,Z,Z,Z,Z,t_⟩⟩
   ·refine zo g2 h fun h=>zq<|ai<|ai<|zy<|zT ?_;cases h;obtain rfl:=(m1 _ rfl);exact av 9 ⟨Z,Z,Z,Z,t_⟩
  ·have h:=b4;clear p4;refine zT<|LW.weak u4<|zQ<|fB<|zK Z<|yG Z (fun H _=>zn Z Z)<|yG Z (fun H _=>zA Z Z fZ)<|yF Z (zd Z Z Z aG Z Z) Z<|zK Z<|yG Z (fun H _=>zn Z Z)<|yG Z (fun H _=>zA Z Z jK)<|yF Z (zd Z Z Z aG Z Z) Z<|zK Z<|yG Z (fun H _=>zn Z Z)<|yG Z (fun H _=>zA Z Z uc)<|yF Z (zd Z Z Z uS Z Z) Z<|yF Z (zt Z Z Z Z aG Z Z Z) Z<|yF Z (zt Z Z Z Z aG Z Z Z) Z<|zK Z ?_;refine LF.nil ⟨by kernel_rfl,?_⟩;refine zT<|zr ?_;cases h;exact zf (.three (er Z Z) (er Z Z) (.tmp Z))<|⟨_,rfl,(.cons (Conv.agg (.cons (Conv.vecAll Z Z Z) (.cons (Conv.vecAll Z Z Z) .nil))) bG)⟩
open Classical in
theorem rZ {S R:Type}{step:S->Option (S⊕(S⊕R))}{n:Nat}(mk:Nat->S)(r0:R)(P:Nat->Prop)(hs:∀j,j<n->step (mk j)=some (.inr (.inr r0))\/(step (mk j)=some (.inl (mk (j+1)))/\P j))
  (he:step (mk n)=some (.inr (.inl (mk n)))) (hn:n<4000000000000000000:=by omega):iter step aY (mk 0)=some (.inr r0)\/(iter step aY (mk 0)=some (.inl (mk n))/\∀j,j<n->P j):=by
 have e:=d9 mk (fun j=>if step (mk j)=some (.inl (mk (j+1)))/\P j then none else some r0) (fun j hj=>by
  by_cases h:step (mk j)=some (.inl (mk (j+1)))/\P j
  ·simp only[i1_ h];exact h.1
  ·simp only[i0_ h];exact(hs j hj).resolve_right h) he hn
 rw[e]
 cases h:cW (fun j=>if step (mk j)=some (.inl (mk (j+1)))/\P j then none else some r0) 0 n with
 |none=>
  right;refine⟨rfl,fun j hj=>?_⟩;have:=gA.1 h j (zero_le _) (by omega);split at this
  ·rename_i h2;exact h2.2
  ·cases this
 |some r=>
  left;obtain⟨j,-,-,h2,-⟩:=fl h;split at h2
  ·cases h2
  ·cases h2;rfl
theorem wl {l:List Vt}(hl:l.length<=100000)(v:Vt):AO l v=some ((l.filter fun y=>decide (y=v)).length:Int):=by
 have e:=ax (step:=nW l v) (n:=l.length) (fun k=>gm.mk (((l.take k).filter fun y=>decide (y=v)).length:Int) (k:Int)) (gm.mk ((l.filter fun y=>decide (y=v)).length:Int) (l.length:Int)) (fun k hk=>by
  obtain⟨y,hy,-⟩:=az hk;have hf:=bW (p:=fun y=>decide (y=v)) (l:=l) k;unfold nW;simp only;rw[dO,au hy,ob,GR,sH hy,ah (n:=k),ah (n:=_)]
  cases decide (y=v)with
  |true=>rw[ct,ct]
  |false=>rw[cf,cf];rfl) (by
  unfold nW;simp only
  rw[ft,take_length]) (by omega)
 have e':iter (nW l v) aY (gm.mk 0 0)=some (gm.mk ((l.filter fun y=>decide (y=v)).length:Int) (l.length:Int)):=e;unfold AO;rw[e',ob]
theorem pc {l:List Vt}{v:Vt}:(((l.filter fun y=>decide (y=v)).length:Int)==0)= !decide (v∈l):=by
 by_cases h:v∈l
 ·rw[aP h];have:0<(l.filter fun y=>decide (y=v)).length:=List.length_pos_of_mem (mem_filter.2 ⟨h,aP rfl⟩);rw[beq_eq_false_iff_ne.2 (by omega)];rfl
 ·rw[aR h,List.filter_eq_nil_iff.2 fun y hy he=>h (by rw[<-of_decide_eq_true he];exact hy)];rfl
theorem lX {a b:Vw}(h1:a.B.length+b.B.length<=90000:=by omega)(h2:a.V.length+b.V.length<=90000:=by omega):tc a b=some (c8 a b):=by
 have e1:=ax (step:=nP b) (n:=b.B.length) (fun k=>ea.mk (k:Int) (db a.B (b.B.take k))) (ea.mk (b.B.length:Int) (db a.B b.B)) (fun k hk=>by
  obtain⟨y,hy,-⟩:=az hk;have hlen:=dp (b.B.take k) a.B
  have htl:(b.B.take k).length<=k:=by rw[length_take];omega
  rw[aL hy,kb];generalize db a.B (b.B.take k)=o at hlen⊢
  have e:=ax (step:=nQ b (ea.mk (k:Int) o)) (n:=o.length) (fun j=>gi.mk (decide (y∈o.take j)) (j:Int)) (gi.mk (decide (y∈o)) (o.length:Int)) (fun j hj=>by
   obtain⟨z,hz,-⟩:=az hj;unfold nQ;simp only;rw[dO,ah (n:=j),aL hz];by_cases hm:y∈o.take j
   ·rw[aP hm,ct,aP (List.mem_append_left _ hm)]
   ·rw[aR hm,cf,au hz,ob,au hy,ob,GP]
    rw[show decide (y∈o.take j++[z])=decide (z=y)from decide_eq_decide.2 ⟨fun h=>by
     rcases mem_append.1 h with h|h
     ·exact absurd h hm
     ·exact(mem_singleton.1 h).symm,fun h=>List.mem_append_right _ (mem_singleton.2 h.symm)⟩]) (by
   unfold nQ;simp only
   rw[ft,take_length]) (by omega)
  have e':iter (nQ b (ea.mk (k:Int) o)) aY (gi.mk false 0)=some (gi.mk (decide (y∈o)) (o.length:Int)):=e;unfold nP;simp only;rw[dO,e',ob,ah (n:=k)];by_cases hm:y∈o
  ·simp only[aP hm,Bool.not_true,cf,i1_ hm]
  ·simp only[aR hm,Bool.not_false,ct,i0_ hm]
   rw[au hy,ob,aC (by simp only[length_singleton];omega),ct]) (by
  unfold nP;simp only
  rw[ft,take_length]) (by omega)
 have e1':iter (nP b) aY (ea.mk 0 a.B)=some (ea.mk (b.B.length:Int) (db a.B b.B)):=e1
 have e2:=ax (step:=nR b) (n:=b.V.length) (fun k=>gj.mk (k:Int) (db a.V (b.V.take k))) (gj.mk (b.V.length:Int) (db a.V b.V)) (fun k hk=>by
  obtain⟨y,hy,-⟩:=az hk;have hlen:=dp (b.V.take k) a.V
  have htl:(b.V.take k).length<=k:=by rw[length_take];omega
  rw[aL hy,kb];generalize db a.V (b.V.take k)=o at hlen⊢;unfold nR;simp only;rw[dO,au hy,ob,wl (by omega),ob,pc,ah (n:=k)];by_cases hm:y∈o
  ·simp only[aP hm,Bool.not_true,cf,i1_ hm]
  ·simp only[aR hm,Bool.not_false,ct,i0_ hm]
   rw[ob,aC (by simp only[length_singleton];omega),ct]) (by
  unfold nR;simp only
  rw[ft,take_length]) (by omega)
 have e2':iter (nR b) aY (gj.mk 0 a.V)=some (gj.mk (b.V.length:Int) (db a.V b.V)):=e2;unfold tc;rw[aC,ct,aC,ct,e1',ob,e2',ob];rfl
theorem nb {S R:Type}{step:S->Option (S⊕(S⊕R))}{n:Nat}(mk:Nat->S)(r0:R)(g:Nat->Bool)(hs:∀j,j<n->step (mk j)=bif g j then some (.inl (mk (j+1)))else some (.inr (.inr r0)))
  (he:step (mk n)=some (.inr (.inl (mk n)))) (hn:n<4000000000000000000:=by omega):(iter step aY (mk 0)=some (.inl (mk n))/\∀j,j<n->g j=true)\/(iter step aY (mk 0)=some (.inr r0)/\∃j,j<n/\g j=false):=by
 have e:=d9 mk (fun j=>bif g j then none else some r0) (fun j hj=>by
  rw[hs j hj]
  cases g j <;>rfl) he hn
 cases h:cW (fun j=>bif g j then none else some r0) 0 n with
 |none=>
  rw[h]at e;refine .inl ⟨e,fun j hj=>?_⟩;have:=gA.1 h j (zero_le _) (by omega)
  cases hg:g j with
  |true=>rfl
  |false=>rw[hg]at this;cases this
 | some r=>
  rw[h]at e;obtain⟨j,-,hj,hf,-⟩:=fl h
  have hgj:g j=false:=by
   cases hg:g j with
   |true=>rw[hg]at hf;cases hf
   |false=>rfl
  rw[hgj]at hf;exact .inr ⟨by rw[e,<-Option.some.inj hf];rfl,j,by omega,hgj⟩
theorem CW (a:ID):((a.1==0)&&((a.2==0)&&true))=decide (a=(0,0)):=ry a (0,0)
theorem qA (h:mayB c b=true):0<b.Slot:=by
 have h1:=(of_decide_eq_true h).1;unfold rf at h1;split at h1
 ·rename_i h2;exact h2.2.1
 ·omega
theorem G8 {v:Vt}(h:mayV c v=true):0<v.Slot:=by
 have h1:=of_decide_eq_true h;unfold pF at h1;split at h1
 ·rename_i h2;exact h2.2.1
 ·cases h1
section
variable {c : Cf} (hW : c.W.length <= 1000)
include hW
theorem xP (hb:ou b):vl c b=some (mayB c b):=by
 unfold vl mayB;rw[wq hW,ob];by_cases h1:0<=rf c b.Slot
 ·rw[aP (show rf c b.Slot>=0 from h1),ct];by_cases h2:rf c b.Slot=b.From
  ·rw[beq_iff_eq.2 h2,ct,wm hb,ob,CW];by_cases h3:nm b=(0,0)
   ·rw[aP h3,aR fun h=>h.2.2 h3];rfl
   ·rw[aR h3,aP ⟨h1,h2,h3⟩];rfl
  ·rw[KZ h2,cf,aR fun h=>h2 h.2.1]
 ·rw[aR (show¬rf c b.Slot>=0 from h1),cf,aR fun h=>h1 h.1]
theorem xQ (v:Vt):vn c v=some (mayV c v):=by
 unfold vn mayV;rw[F1 hW,ob]
theorem xF (hb:kd w.B)(h1:w.B.length<=90000)(h2:w.V.length<=90000):vi c w=some (bF c w):=by
 have e1:=ax (step:=kX c w) (n:=w.B.length) (fun k=>eZ.mk (k:Int) ((w.B.take k).filter (mayB c))) (eZ.mk (w.B.length:Int) (w.B.filter (mayB c))) (fun k hk=>by
  obtain⟨y,hy,hm⟩:=az hk;have hlen:=bW (p:=mayB c) (l:=w.B) k;unfold kX;simp only;rw[dO,au hy,ob,xP hW (hb y hm),ob,bg hy,ah (n:=k)]
  cases mayB c y with
  |true=>rw[ct,ob,aC (by simp only[length_singleton];omega),ct,ct]
  |false=>rw[cf,cf,append_nil]) (by
  unfold kX;simp only
  rw[ft,take_length]) (by omega)
 have e2:=ax (step:=kY c w) (n:=w.V.length) (fun k=>e8.mk (k:Int) ((w.V.take k).filter (mayV c))) (e8.mk (w.V.length:Int) (w.V.filter (mayV c))) (fun k hk=>by
  obtain⟨y,hy,hm⟩:=az hk;have hlen:=bW (p:=mayV c) (l:=w.V) k;unfold kY;simp only;rw[dO,au hy,ob,xQ hW,ob,bg hy,ah (n:=k)]
  cases mayV c y with
  |true=>rw[ct,ob,aC (by simp only[length_singleton];omega),ct,ct]
  |false=>rw[cf,cf,append_nil]) (by
  unfold kY;simp only
  rw[ft,take_length]) (by omega)
 have e1':iter (kX c w) aY (eZ.mk 0 [])=_:=e1;have e2':iter (kY c w) aY (e8.mk 0 [])=_:=e2;unfold vi;rw[e1',ob,e2',ob];rfl
end
theorem x4 (hl:names.length<=4000):vp names id=some (ap names id):=by
 have key:=bA (step:=lb names id) (fun x=>∃n:Nat,x.i=n/\n<=names.length/\∀j,j<n->names[j]?≠some id)
  (fun x=>names.length-x.i.toNat) (fun b=>(∃v,b=.inl v/\ap names id= -1)\/∃r,b=.inr r/\ap names id=r) (by
   rintro⟨i⟩ ⟨n,rfl,hn,hno⟩;simp only;by_cases hlt:n<names.length
   case neg=>
    right;refine⟨.inl ⟨n⟩,?_,.inl ⟨_,rfl,ja fun j hj=>hno j (by omega)⟩⟩;simp only[lb];rw[aR (by omega)];rfl
   obtain⟨y,hy,-⟩:=az hlt;by_cases he:y=id
   ·right;refine⟨.inr n,?_,.inr ⟨_,rfl,jM (he▸hy) hno⟩⟩;simp only[lb];rw[aP (show(n:Int)<(names.length:Int) by omega),au hy];simp[CF,he]
   ·left;refine⟨⟨i64.wrap (n+1)⟩,?_,⟨n+1,ah (n:=n),by omega,fun j hj=>?_⟩,?_⟩
    ·simp only[lb];rw[aP (show(n:Int)<(names.length:Int) by omega),au hy];simp[CF,he]
    ·rcases Nat.lt_succ_iff_lt_or_eq.1 hj with h|h
     ·exact hno j h
     ·subst h;rw[hy];simpa using he
    ·simp only[ah (show n<4000000000 by omega)];omega) (x:=⟨0⟩) ⟨0,rfl,zero_le _,fun j hj=>by omega⟩ (n:=aY) (cq (by simp only;omega))
 obtain⟨b,hb,hpost⟩:=key;simp only[vp,hb,ob];rcases hpost with⟨v,rfl,h⟩|⟨r,rfl,h⟩
 ·simp[h]
 ·simp[h]
def oD (B:List Bk)(id:ID):Int:=(bL B id).getD (-1)
theorem C2 {B:List Bk}:(ap (B.map nm) id<0/\B.find? (fun b=>decide (nm b=id))=none)\/∃(i:Nat) (b:Bk),ap (B.map nm) id=i/\B[i]?=some b/\B.find? (fun b=>decide (nm b=id))=some b:=by
 rcases fr (l:=B.map nm) (v:=id)with⟨h1,h2⟩|⟨i,h1,h2,h3⟩
 ·refine .inl ⟨by omega,?_⟩;rw[List.find?_eq_none];intro b hb e;exact h2<|List.mem_map.2 ⟨b,hb,of_decide_eq_true e⟩
 ·rw[List.getElem?_map]at h2
  cases hb:B[i]? with
  |none=>rw[hb]at h2;cases h2
  |some b=>
   rw[hb]at h2;refine .inr ⟨i,b,h1,hb,CG hb (aP (Option.some.inj h2)) fun j z hj hz=>aR fun e=>h3 j hj ?_⟩;rw[List.getElem?_map,hz,<-e];rfl
theorem tq {B:List Bk}(hl:B.length<=1000)(id:ID):tp B (B.map nm) id=some (oD B id):=by
 unfold tp oD bL;rw[CW];by_cases h0:id=(0,0)
 ·rw[aP h0,ct,i1_ h0];rfl
 ·rw[aR h0,cf,i0_ h0,x4 (by rw[length_map];omega),ob];rcases C2 (B:=B) (id:=id)with⟨h1,h2⟩|⟨i,b,h1,h2,h3⟩
  ·rw[aP h1,ct,h2];rfl
  ·rw[h1,aR (by omega),cf,au h2,ob,h3];rfl
theorem j5 {B:List Bk}{s:Int}(h:bL B id=some s):oD B id=s:=by unfold oD;rw[h];rfl
theorem jZ {B:List Bk}(h:bL B id=none):oD B id= -1:=by unfold oD;rw[h];rfl
theorem r4 {B:List Bk}(hp:∀b∈B,0<b.Slot){s:Int}(h:bL B id=some s):0<=s:=by
 rcases Er h with⟨-,rfl⟩|⟨-,b,hb,-,rfl⟩
 ·omega
 ·have:=hp b hb;omega
theorem ur {α:Type}{l:List α}:(∀(j:Nat) y,l[j]?=some y->y∉l.take j)↔l.Nodup:=by
 constructor
 ·intro h;rw[List.nodup_iff_pairwise_ne,List.pairwise_iff_getElem];intro i j hi hj hij e;refine h j _ (List.getElem?_eq_getElem hj) ?_;refine List.mem_of_getElem? (i:=i) ?_;rw[getElem?_take_of_lt hij,List.getElem?_eq_getElem hi,e]
 ·intro h j y hy hm;obtain⟨i,hi⟩:=getElem?_of_mem hm;have hil:=(List.getElem?_eq_some_iff.1 hi).1;rw[length_take]at hil;rw[getElem?_take_of_lt (by omega)]at hi;have:=(List.getElem?_inj (by omega) h).1 (hi.trans hy.symm);omega
theorem Ca (hl:l.length<=1000):xp l (l.map nm)=some (places l).isSome:=by
 unfold xp;rw[AT hl,ob]
open Classical in
theorem FB (hW:c.W.length<=1000)(hb:kd w.B)(h1:w.B.length<=1000)(h2:w.V.length<=1000):xW c w=some (decide (ov c w)):=by
 unfold xW;rw[wt hb h1,ob,Ca h1,ob,oM hW,ob];by_cases k1:dV w.B
 case neg=>
  rw[show(places w.B).isSome=false by cases h:(places w.B).isSome with|false=>rfl|true=>exact absurd h k1,Bool.not_false,ct,ob,ct,aR fun h=>k1 h.valid]
 rw[show(places w.B).isSome=true from k1,Bool.not_true,cf];by_cases k2:cY c
 case neg=>rw[aR k2,Bool.not_false,ct,ob,ct,aR fun h=>k2 h.conf]
 rw[aP k2,Bool.not_true,cf];by_cases k3:w.B.length<=60
 case neg=>rw[aP (show(w.B.length:Int)>60 by omega),ct,ob,ct,aR fun h=>k3 h.lenB]
 rw[aR (show¬(w.B.length:Int)>60 by omega),cf];by_cases k4:w.V.length<=240
 case neg=>rw[aP (show(w.V.length:Int)>240 by omega),ob,ct,aR fun h=>k4 h.lenV]
 rw[aR (show¬(w.V.length:Int)>240 by omega),ob,cf]
 have e1:=nb (step:=ju c w) (n:=w.B.length) (fun j=>fb.mk (j:Int)) false (fun j=>(w.B[j]?).all (mayB c)) (fun j hj=>by
  obtain⟨y,hy,hm⟩:=az hj;unfold ju;simp only;rw[dO,au hy,ob,xP hW (hb y hm),ob,hy,ah (n:=j)];simp only[all_some]
  cases mayB c y <;>rfl) (by
  unfold ju;simp only
  rw[ft])
 have e1':(iter (ju c w) aY (fb.mk 0)=some (.inl (fb.mk (w.B.length:Int)))/\∀j,j<w.B.length->(w.B[j]?).all (mayB c)=true)\/(iter (ju c w) aY (fb.mk 0)=some (.inr false)/\∃j,j<w.B.length/\(w.B[j]?).all (mayB c)=false):=e1;rcases e1' with⟨e1,k5⟩|⟨e1,j,hj,k5⟩
 case inr=>
  obtain⟨y,hy,hm⟩:=az hj;rw[hy]at k5;rw[e1,ob,aR fun h=>by have:=h.mayB y hm;simp only[all_some]at k5;rw[this]at k5;cases k5];rfl
 have hmay:∀b∈w.B,mayB c b=true:=fun b hm=>by
  obtain⟨j,hj⟩:=getElem?_of_mem hm;have:=k5 j (List.getElem?_eq_some_iff.1 hj).1;rw[hj]at this;exact this
 rw[e1,ob];show((iter (iH c w (w.B.map nm)) aY (eC.mk 0)).bind _)=_
 have e2:=nb (step:=iH c w (w.B.map nm)) (n:=w.V.length) (fun j=>eC.mk (j:Int)) false (fun j=>(w.V[j]?).all fun v=>decide (mayV c v=true/\forB w.B v/\v∉w.V.take j)) (fun j hj=>by
  obtain⟨y,hy,hm⟩:=az hj;unfold iH;simp only;rw[dO,au hy,ob,tq h1,ob,ob,xQ hW,ob,hy,ah (n:=j)];simp only[all_some]
  cases m1:mayV c y with
  |false=>rw[Bool.not_false,ct,aR fun h=>by cases h.1];rfl
  | true=>
   rw[Bool.not_true,cf]
   cases hq:bL w.B y.Head with
   |none=>
    rw[jZ hq,aP (show(-1:Int)<0 by omega),ct,aR]
    ·rfl
    ·rintro⟨-,⟨s,h3,-⟩,-⟩;rw[hq]at h3;cases h3
   | some s=>
    have hs:=r4 (fun b hb=>qA (hmay b hb)) hq;rw[j5 hq,aR (show¬s<0 by omega),cf,ob];by_cases h4:s>y.Slot
    ·rw[aP h4,ct,aR]
     ·rfl
     ·rintro⟨-,⟨s',h3,h5⟩,-⟩;rw[hq]at h3;have:=Option.some.inj h3;omega
    ·rw[aR h4,cf,show wP w.V 0 (j:Int)=true from aP (by omega),ct,ob,Int.toNat_natCast,wl (by rw[length_take];omega),ob];have hz:=pc (l:=w.V.take j) (v:=y);generalize ((w.V.take j).filter fun x=>decide (x=y)).length=n at hz⊢;by_cases h6:y∈w.V.take j
     ·rw[aP h6]at hz;rw[aP (show(n:Int)>0 by have:=(beq_eq_false_iff_ne.1 hz);omega),ct,aR fun h=>h.2.2 h6];rfl
     ·rw[aR h6]at hz
      rw[aR (show¬(n:Int)>0 by have:=(beq_iff_eq.1 hz);omega),cf,aP ⟨rfl,⟨s,hq,by omega⟩,h6⟩];rfl) (by
  unfold iH;simp only
  rw[ft])
 have e2':(iter (iH c w (w.B.map nm)) aY (eC.mk 0)=some (.inl (eC.mk (w.V.length:Int)))/\∀j,j<w.V.length->((w.V[j]?).all fun v=>decide (mayV c v=true/\forB w.B v/\v∉w.V.take j))=true)\/(iter (iH c w (w.B.map nm)) aY (eC.mk 0)=some (.inr false)/\∃j,j<w.V.length/\((w.V[j]?).all fun v=>decide (mayV c v=true/\forB w.B v/\v∉w.V.take j))=false):=e2;rcases e2' with⟨e2,k6⟩|⟨e2,j,hj,k6⟩
 ·have hat:∀(j:Nat) v,w.V[j]?=some v->mayV c v=true/\forB w.B v/\v∉w.V.take j:=fun j v hv=>by
   have:=k6 j (List.getElem?_eq_some_iff.1 hv).1;rw[hv]at this;exact of_decide_eq_true this
  rw[e2,ob,aP]
  ·rfl
  ·refine⟨k2,k1,k3,k4,hmay,fun v hv=>?_,ur.1 fun j y hy=>(hat j y hy).2.2,fun v hv=>?_⟩
   ·obtain⟨j,hj⟩:=getElem?_of_mem hv;exact(hat j v hj).1
   ·obtain⟨j,hj⟩:=getElem?_of_mem hv;exact(hat j v hj).2.1
 ·obtain⟨y,hy,hm⟩:=az hj;rw[hy]at k6;rw[e2,ob,aR fun h=>(of_decide_eq_false k6) ⟨h.mayV y hm,h.forB y hm,ur.2 h.nodup j y hy⟩];rfl
theorem Ak {B l:List Bk}:∀x∈(aV upto B f l).2.1,x∈B\/x∈l:=
 jk (step:=bX upto) (l:=l) (B:=B) (f:=f) (Q:=fun C _=>∀x∈C,x∈B\/x∈l) (fun C f b hb h x hx=>by
  rcases il upto C f b with⟨-,e⟩|⟨-,-,e⟩|⟨-,-,-,e⟩|⟨-,-,-,e⟩ <;>rw[e]at hx
  ·exact h x hx
  ·exact h x hx
  ·exact(mem_append.1 hx).elim (h x) fun h2=>.inr<|mem_singleton.1 h2▸hb
  ·exact h x hx) fun x hx=>.inl hx
theorem D0 {B:List Bk}{y:Bk}(hy:mayB c y=true):(bif decide (ap (B.map nm) (nm y)>=0)then some true else some (decide (oD B y.Parent>=y.Slot)))=some (di B y):=by
 have h0:=(of_decide_eq_true hy).2.2;have hp:=qA hy;unfold di
 have h1:(bL B (nm y)).isSome=decide (ap (B.map nm) (nm y)>=0):=by
  unfold bL;rw[i0_ h0];rcases C2 (B:=B) (id:=nm y)with⟨h1,h2⟩|⟨i,b,h1,h2,h3⟩
  ·rw[h2,aR (by omega)];rfl
  ·rw[h3,aP (by omega)];rfl
 rw[h1]
 cases decide (ap (B.map nm) (nm y)>=0)with
 |true=>rw[ct,Bool.true_or]
 |false=>
  rw[cf,Bool.false_or]
  cases hq:bL B y.Parent with
  |none=>rw[jZ hq,aR (by omega)]
  |some s=>rw[j5 hq]
theorem rF {B:List Bk}(hB:∀b∈B,0<b.Slot)(y:Bk):(bif decide (oD B y.Parent<0)then some true else some (decide (y.Slot>upto)))=some (ga B upto y):=by
 unfold ga
 cases hq:bL B y.Parent with
 |none=>rw[jZ hq,aP (by omega),ct]
 |some q=>
  have:=r4 hB hq;rw[j5 hq,aR (by omega),cf]
theorem pk {B:List Bk}(hB:∀b∈B,0<b.Slot)(y:Vt):(bif decide (oD B y.Head<0)then some true else some (decide (y.Slot>upto)))=some (gN B upto y):=by
 unfold gN
 cases hq:bL B y.Head with
 |none=>rw[jZ hq,aP (by omega),ct]
 |some q=>
  have:=r4 hB hq;rw[j5 hq,aR (by omega),cf]
theorem AU {wB lB:List Bk}(hw:∀b∈wB,mayB c b=true)(hl:∀b∈lB,mayB c b=true)(hk:kd lB)(h1:wB.length<=60)(h2:lB.length<=999) :
  p6 upto wB lB (wB.map nm) full=some (decide (wB.length<(aV upto wB full lB).2.1.length),(aV upto wB full lB).1,(aV upto wB full lB).2.1,(aV upto wB full lB).2.1.map nm,(aV upto wB full lB).2.2):=by
 have e:=ax (step:=hZ upto lB) (n:=lB.length) (fun j=>cV.mk (decide (wB.length<(aV upto wB full (lB.take j)).2.1.length)) (j:Int) (aV upto wB full (lB.take j)).2.1 ((aV upto wB full (lB.take j)).2.1.map nm) (aV upto wB full (lB.take j)).2.2 (aV upto wB full (lB.take j)).1)
  (cV.mk (decide (wB.length<(aV upto wB full lB).2.1.length)) (lB.length:Int) (aV upto wB full lB).2.1 ((aV upto wB full lB).2.1.map nm) (aV upto wB full lB).2.2 (aV upto wB full lB).1) (fun j hj=>by
  obtain⟨y,hy,hm⟩:=az hj;have hmy:=hl y hm;have hmem:=Ak (upto:=upto) (B:=wB) (l:=lB.take j) (f:=full);have hgr:=(ei (j8 upto) (lB.take j) wB full).1;have hrm:=pt (upto:=upto) (l:=lB.take j) (f:=full) h1;have hln:=lL (step:=bX upto) (lB.take j) wB full;have hsn:=gu (step:=bX upto) y (lB.take j) wB full;rw[length_take]at hln;unfold hZ;simp only;rw[aL hy];unfold aV at hmem hrm⊢;rw[hsn];generalize bU (bX upto) wB full (lB.take j)=p at hmem hgr hrm hln⊢;have hpos:∀b∈p.2.1,0<b.Slot:=fun b hb=>(hmem b hb).elim (fun h=>qA (hw b h)) fun h=>qA (hl b (List.mem_of_mem_take h));rw[dO,au hy,ob,wm (hk y hm),ob,tq (by omega),ob,x4 (by rw[length_map];omega),ob,D0 hmy,ob,ah (n:=j)];rcases il upto p.2.1 p.2.2 y with⟨g,e⟩|⟨g,g2,e⟩|⟨g,g2,g3,e⟩|⟨g,g2,g3,e⟩ <;>rw[e,g]
  ·rw[ct];rfl
  ·rw[cf,rF hpos,ob,g2,ct,aC (by simp only[length_singleton];omega),ct];rfl
  ·rw[cf,rF hpos,ob,g2,cf,aR (show¬(p.2.1.length:Int)>=60 by omega),cf,aC (by simp only[length_singleton];omega),ct,aC (by rw[length_map];simp only[length_singleton];omega),ct];have:decide (wB.length<(p.2.1++[y]).length)=true:=aP (by simp only[length_append,length_singleton];omega);simp only[this,List.map_append,List.map_cons,List.map_nil,if_true]
  ·rw[cf,rF hpos,ob,g2,cf,aP (show(p.2.1.length:Int)>=60 by omega),ct,aC (by simp only[length_singleton];omega),ct];rfl) (by
  unfold hZ;simp only
  rw[ft,take_length]) (by omega)
 have e':iter (hZ upto lB) aY (cV.mk (decide (wB.length<wB.length)) 0 wB (wB.map nm) full [])=_:=e;rw[aR (by omega)]at e';unfold p6;rw[e',ob]
theorem Bm {B:List Bk}(hy:0<y.Slot):(bif decide (((V.filter fun x=>decide (x=y)).length:Int)>0)then some true else some (decide (oD B y.Head>y.Slot)))=some (dv B V y):=by
 unfold dv;have hz:=pc (l:=V) (v:=y)
 have h1:decide (((V.filter fun x=>decide (x=y)).length:Int)>0)=decide (y∈V):=by
  generalize (V.filter fun x=>decide (x=y)).length=n at hz⊢;by_cases h:y∈V
  ·rw[aP h]at hz⊢;exact aP (by have:=beq_eq_false_iff_ne.1 hz;omega)
  ·rw[aR h]at hz⊢;exact aR (by have:=beq_iff_eq.1 hz;omega)
 rw[h1]
 cases decide (y∈V)with
 |true=>rw[ct,Bool.true_or]
 |false=>
  rw[cf,Bool.false_or]
  cases hq:bL B y.Head with
  |none=>rw[jZ hq,aR (by omega)]
  |some s=>rw[j5 hq]
theorem yl {wV lV:List Vt}(hB:∀b∈wB,0<b.Slot)(hl:∀v∈lV,mayV c v=true)(h1:wB.length<=60)(h2:wV.length<=240)(h3:lV.length<=999) :
  m5 upto wB wV lV (wB.map nm) full=some (decide (wV.length<(bN upto wB wV full lV).2.1.length),(bN upto wB wV full lV).1,(bN upto wB wV full lV).2.1,(bN upto wB wV full lV).2.2):=by
 have e:=ax (step:=gw upto wB lV (wB.map nm)) (n:=lV.length) (fun j=>cM.mk (decide (wV.length<(bN upto wB wV full (lV.take j)).2.1.length)) (j:Int) (bN upto wB wV full (lV.take j)).2.1 (bN upto wB wV full (lV.take j)).2.2 (bN upto wB wV full (lV.take j)).1)
  (cM.mk (decide (wV.length<(bN upto wB wV full lV).2.1.length)) (lV.length:Int) (bN upto wB wV full lV).2.1 (bN upto wB wV full lV).2.2 (bN upto wB wV full lV).1) (fun j hj=>by
  obtain⟨y,hy,hm⟩:=az hj;have hmy:=G8 (hl y hm);have hgr:=(ei (j9 upto wB) (lV.take j) wV full).1;have hrm:=uw (upto:=upto) (BB:=wB) (l:=lV.take j) (f:=full) h2;have hln:=lL (step:=bZ upto wB) (lV.take j) wV full;have hsn:=gu (step:=bZ upto wB) y (lV.take j) wV full;rw[length_take]at hln;unfold gw;simp only;rw[aL hy];unfold bN at hrm⊢;rw[hsn];generalize bU (bZ upto wB) wV full (lV.take j)=p at hgr hrm hln⊢;rw[dO,au hy,ob,tq (by omega),ob,wl (by omega),ob,Bm hmy,ob,ah (n:=j)];rcases ka upto wB p.2.1 p.2.2 y with⟨g,e⟩|⟨g,g2,e⟩|⟨g,g2,g3,e⟩|⟨g,g2,g3,e⟩ <;>rw[e,g]
  ·rw[ct];rfl
  ·rw[cf,pk hB,ob,g2,ct,aC (by simp only[length_singleton];omega),ct];rfl
  ·rw[cf,pk hB,ob,g2,cf,aR (show¬(p.2.1.length:Int)>=240 by omega),cf,aC (by simp only[length_singleton];omega),ct];have:decide (wV.length<(p.2.1++[y]).length)=true:=aP (by simp only[length_append,length_singleton];omega);simp only[this,if_true]
  ·rw[cf,pk hB,ob,g2,cf,aP (show(p.2.1.length:Int)>=240 by omega),ct,aC (by simp only[length_singleton];omega),ct];rfl) (by
  unfold gw;simp only
  rw[ft,take_length]) (by omega)
 have e':iter (gw upto wB lV (wB.map nm)) aY (cM.mk (decide (wV.length<wV.length)) 0 wV full [])=_:=e;rw[aR (by omega)]at e';unfold m5;rw[e',ob]
theorem nx {α:Type}{step:List α->Bool->α->Bool×List α×Bool}(h:∀B f b,(step B f b).2.1.length+(if (step B f b).1 then 0 else 1)<=B.length+1):∀(l B:List α) (f:Bool),(bU step B f l).1.length+(bU step B f l).2.1.length<=l.length+B.length
 |[],B,f=>by simp[bU]
 |x::r,B,f=>by
  have h1:=h B f x;have h2:=nx h r (step B f x).2.1 (step B f x).2.2;simp only[bU,List.length_cons];split
  ·rename_i h3;rw[i1_ h3]at h1;omega
  ·rename_i h3;rw[i0_ h3]at h1;simp only[List.length_cons];omega
theorem Au (upto:Int)(s:sj):(cg upto s).lB.length+(cg upto s).lV.length+cG (cg upto s)<=s.lB.length+s.lV.length+cG s:=by
 have h1:=nx (step:=bX upto) (fun B f b=>by
  rcases il upto B f b with⟨-,e⟩|⟨-,-,e⟩|⟨-,-,-,e⟩|⟨-,-,-,e⟩ <;>rw[e] <;>simp) s.lB s.B s.full
 have h2:=nx (step:=bZ upto (aV upto s.B s.full s.lB).2.1) (fun B f b=>by
  rcases ka upto (aV upto s.B s.full s.lB).2.1 B f b with⟨-,e⟩|⟨-,-,e⟩|⟨-,-,-,e⟩|⟨-,-,-,e⟩ <;>rw[e] <;>simp) s.lV s.V (aV upto s.B s.full s.lB).2.2
 unfold cg cG;simp only;unfold aV bN at *;omega
theorem Al {B l:List Bk}:∀x∈(aV upto B f l).1,x∈l:=fun x hx=>(lM (step:=bX upto) l B f).subset hx
theorem Ef {BB:List Bk}{V l:List Vt}:∀x∈(bN upto BB V f l).1,x∈l:=fun x hx=>(lM (step:=bZ upto BB) l V f).subset hx
structure Cv (c:Cf)(L:Nat)(s:sj)(k:Nat):Prop where
 B:∀b∈s.B,mayB c b=true
 lB:∀b∈s.lB,mayB c b=true
 ok:kd s.lB
 lV:∀v∈s.lV,mayV c v=true
 bel:oG s
 len:k+s.lB.length+s.lV.length<=L
def Mc (s:sj)(k:Nat):dP:=dP.mk (k:Int) s.B s.V (s.B.map nm) s.lB s.lV s.full
theorem Fy (hW:c.W.length<=1000){w i:Vw}(hb:kd w.B)(hi:kd i.B)(h1:w.B.length<=1000)(h2:w.V.length<=1000)(h3:i.B.length+i.V.length<=999)(upto:Int):xT c w i upto=some (aN c w i upto):=by
 classical
 unfold xT aN;rw[FB hW hb h1 h2,ob];by_cases hm:ov c w
 case neg=>rw[aR hm,Bool.not_false,ct,i0_ hm]
 have ho:=qD c i
 have hN:p7 w.B=some (w.B.map nm):=by
  have e:=ax (step:=ia w.B) (n:=w.B.length) (fun k=>dI.mk (k:Int) ((w.B.take k).map nm)) (dI.mk (w.B.length:Int) (w.B.map nm)) (fun k hk=>by
   obtain⟨y,hy,hmm⟩:=az hk;unfold ia;simp only;rw[dO,au hy,ob,wm (hb y hmm),ob,aC (by rw[length_map,length_take];simp only[length_singleton];omega),ct,aL hy,List.map_append,ah (n:=k)]
   rfl) (by
   unfold ia;simp only
   rw[ft,take_length]) (by omega)
  have e':iter (ia w.B) aY (dI.mk 0 [])=_:=e;unfold p7;rw[e',ob]
 rw[aP hm,Bool.not_true,cf,i1_ hm,aC,ct,aC,ct,xF hW hi (by omega) (by omega),ob,hN,ob];obtain⟨s0,hs0⟩:∃s0:sj,s0=⟨w.B,w.V,false,(bF c i).B,(bF c i).V⟩:=⟨_,rfl⟩;obtain⟨L,hL⟩:∃L,L=i.B.length+i.V.length:=⟨_,rfl⟩
 have hg0:Cv c L s0 0:=by
  rw[hs0];exact⟨hm.mayB,fun b hb=>(mem_filter.1 hb).2,fun b hb=>hi b (mem_filter.1 hb).1,fun v hv=>(mem_filter.1 hv).2,⟨hm.lenB,hm.lenV⟩,by show 0+(bF c i).B.length+(bF c i).V.length<=L;omega⟩
 obtain⟨x,hx,k,hxe⟩:=bA (step:=mV i upto) (fun x=>∃(s:sj) (k:Nat),x=Mc s k/\Cv c L s k/\oE upto (1000-k) s=lR upto s0) (fun x=>(1001-x.k).toNat) (fun x=>∃k:Nat,x=Mc (lR upto s0) k) (by
  rintro x ⟨s,k,rfl,hg,hT⟩;obtain⟨g1,g2,g3,g4,g5,g6⟩:=hg;have hr:=ky upto s;have hc:=Au upto s;have hlf:=sx upto s;have hrB:=Ak (upto:=upto) (B:=s.B) (l:=s.lB) (f:=s.full);have hrm:=pt (upto:=upto) (l:=s.lB) (f:=s.full) g5.1;have hB':∀b∈(cg upto s).B,mayB c b=true:=fun b hb=>(hrB b hb).elim (g1 b) (g2 b);have eB:=AU (c:=c) (upto:=upto) (full:=s.full) g1 g2 g3 g5.1 (by omega);have eV:=yl (c:=c) (upto:=upto) (wB:=(aV upto s.B s.full s.lB).2.1) (wV:=s.V) (lV:=s.lV) (full:=(aV upto s.B s.full s.lB).2.2) (fun b hb=>qA (hB' b hb)) g4 hrm g5.2 (by omega)
  have hgood:cG (cg upto s)≠cG s->Cv c L (cg upto s) (k+1):=fun hne=>by
   refine⟨hB',fun b hb=>g2 b (Al b hb),fun b hb=>g3 b (Al b hb),fun v hv=>g4 v (Ef v hv),qO g5,?_⟩;unfold cG at hne hc;omega
  unfold mV Mc;simp only;rw[aP (show(k:Int)<=i64.wrap ((i.B.length:Int)+(i.V.length:Int)) by rw[cX];omega),ct,eB,ob,eV,ob];simp only;rw[ah (n:=k)]
  have hfin:(1000-k)=(999-k)+1:=by omega
  rw[hfin]at hT;unfold oE at hT
  have hgo:cG (cg upto s)≠cG s->(∃s' k',dP.mk ((k+1:Nat):Int) (aV upto s.B s.full s.lB).2.1 (bN upto (aV upto s.B s.full s.lB).2.1 s.V (aV upto s.B s.full s.lB).2.2 s.lV).2.1 ((aV upto s.B s.full s.lB).2.1.map nm) (aV upto s.B s.full s.lB).1 (bN upto (aV upto s.B s.full s.lB).2.1 s.V (aV upto s.B s.full s.lB).2.2 s.lV).1 (bN upto (aV upto s.B s.full s.lB).2.1 s.V (aV upto s.B s.full s.lB).2.2 s.lV).2.2=Mc s' k'/\Cv c L s' k'/\oE upto (1000-k') s'=lR upto s0):=fun hne=>by
   refine⟨cg upto s,k+1,rfl,hgood hne,?_⟩;rw[i0_ hne]at hT;rw[<-hT,show 1000-(k+1)=999-k by omega]
  by_cases hb1:s.B.length<(aV upto s.B s.full s.lB).2.1.length
  ·rw[aP hb1,Bool.not_true,cf]
   have hne:cG (cg upto s)≠cG s:=by
    have h6:s.B.length<(cg upto s).B.length:=hb1;unfold cG;omega
   exact .inl ⟨_,rfl,hgo hne,by simp only;omega⟩
  ·rw[aR hb1,Bool.not_false,ct];by_cases hv1:s.V.length<(bN upto (aV upto s.B s.full s.lB).2.1 s.V (aV upto s.B s.full s.lB).2.2 s.lV).2.1.length
   ·rw[aP hv1,Bool.not_true,cf]
    have hne:cG (cg upto s)≠cG s:=by
     have h6:s.V.length<(cg upto s).V.length:=hv1;unfold cG;omega
    exact .inl ⟨_,rfl,hgo hne,by simp only;omega⟩
   ·rw[aR hv1,Bool.not_false,ct]
    have heq:cG (cg upto s)=cG s:=by
     have h6:¬s.V.length<(cg upto s).V.length:=hv1;have h7:¬s.B.length<(cg upto s).B.length:=hb1;unfold cG;omega
    rw[i1_ heq]at hT
    exact .inr ⟨_,rfl,k,by rw[<-hT];rfl⟩) (n:=aY) (x:=Mc s0 0) ⟨s0,0,rfl,hg0,rfl⟩ (cq (by unfold Mc;simp only;omega))
 have hx':iter (mV i upto) aY (dP.mk 0 w.B w.V (w.B.map nm) (bF c i).B (bF c i).V false)=some x:=by
  rw[hs0]at hx;exact hx
 rw[hx',ob,hxe,hs0];rfl
def yo (n:Int):Option (List Of):=bif decide (n<0)then none else bif decide ((i64.wrap (n-(i64.wrap (0-0))))>0)then bif Ea (i64.wrap (n-(i64.wrap (0-0)))) 104 then bif decide (0<=0/\0<=(((List.replicate (i64.wrap (n-(i64.wrap (0-0)))).toNat (Of.mk 0 0 (Bk.mk 0 0 (0,0) 0) (Vw.mk [] []):Of)).map cZ).length:Int))then some (List.replicate (i64.wrap (n-(i64.wrap (0-0)))).toNat (Of.mk 0 0 (Bk.mk 0 0 (0,0) 0) (Vw.mk [] []):Of))else none else none else some []
theorem Lu {r_:List Of}(h:yo n=some r_):LC prog 126 [.zs,(iQ n)] [] (Is (.vec 9 0 (r_.map cZ).length 0 0) [.vec 9 (r_.map cZ)]):=by
 refine eN Tryz.func126 Z Z Z ?_;unfold yo at h;refine qR<|mN Z<|zQ<|qR<|zM Z<|yS Z (an Z Z Z Z)<|nT ?_;refine zX Z (fun g1=>?_)<|fun g1=>?_
 ·have h:=zI g1 h;cases h
 ·refine zo g1 h fun h=>zk<|zT<|zQ<|qR<|zM Z<|zM Z<|yS Z (aa.capZ Z Z bq)<|zM Z<|yS Z (aa.lenZ Z Z (by kernel_rfl))<|yS Z (an Z Z Z Z)<|yS Z (an Z Z Z Z)<|mN Z<|qR<|zM Z<|yS Z (an Z Z Z Z)<|nT ?_;refine zX Z (fun g2=>?_)<|fun g2=>?_
  ·refine zi g2 h fun h=>zR<|zM Z<|zM Z<|yS Z (aa.capZ Z Z bq)<|yS Z (aa.sliceZ0 Z Z Z bq)<|zM Z<|zg h fun q1 h=>?_;refine yS Z (aa.appendMake (cs:=[(iQ 0),(iQ 0),(iQ 0),(iQ 0),(uQ 0),(uQ 0),(uQ 0),.zs,.zs]) (zs:=[.int .i64 0,.int .i64 0,.int .i64 0,.int .i64 0,.int .u64 0,.int .u64 0,.int .u64 0,.slice 5 [],.slice 4 []]) cZ (Of.mk 0 0 (Bk.mk 0 0 (0,0) 0) (Vw.mk [] [])) Z Z Z bq Tryz.underlying3 (fun _=>rfl) (by kernel_rfl) Z ⟨rfl,rfl,rfl,rfl,rfl,rfl,rfl,⟨_,rfl⟩,⟨_,rfl⟩,trivial⟩ q1 Z Z) ?_;refine zM Z<|yS Z (aa.lenZ Z Z (by kernel_rfl))<|zg h fun q2 h=>yS Z (aa.sliceVHi Z Z Z Z bq q2)<|mN Z<|qR<|zM Z<|mN Z<|zr ?_;cases h;exact aD (.one (.tmp Z))<|⟨rfl,rfl⟩
  ·refine zo g2 h fun h=>zk<|zT<|zQ<|LW.ent (bY.lazy (t:=0) (m:=9) Z Z Z)<|zR<|zM Z<|mN Z<|zr ?_;cases h;exact aD (.one (.tmp Z))<|⟨rfl,rfl⟩
structure ey where
 size:Int
 t11:Int
structure ez where
 newslice:Nat
 t27:Int
 o0:List Of
def jr (slices:List (List Of))(x1:ey):Option (ey⊕ey):=bif decide (x1.t11<(slices.length:Int))then (ix slices x1.t11).bind fun y1=>bif decide ((i64.wrap (x1.size+(y1.length:Int)))<0)then none else some (.inl (ey.mk (i64.wrap (x1.size+(y1.length:Int))) (i64.wrap (x1.t11+1))))else some (.inr (ey.mk x1.size x1.t11))
def js (slices:List (List Of))(x2:ez):Option (ez⊕ez):=bif decide (x2.t27<(slices.length:Int))then (ix slices x2.t27).bind fun y2=>bif decide (x2.newslice+y2.length<=x2.o0.length)then some (.inl (ez.mk (x2.newslice+y2.length) (i64.wrap (x2.t27+1)) (gU x2.o0 x2.newslice y2)))else none else some (.inr (ez.mk x2.newslice x2.t27 x2.o0))
def xL (slices:List (List Of)):Option (List Of):=(iter (jr slices) aY (ey.mk 0 0)).bind fun v1=>(yo v1.size).bind fun v2=>(iter (js slices) aY (ez.mk 0 0 v2)).bind fun v3=>bif Nat.ble v3.newslice v3.o0.length then some (v3.o0.take v3.newslice)else none
theorem Nl {slices:List (List Of)}{r_:(List Of)}(h:xL slices=some r_):aq prog 83 [.slice 1 (slices.map (Oz 9 cZ))] [.slice 9 (r_.map cZ)]:=by
 refine zh Tryz.func83 Z Z Z Z ?_;unfold xL at h;refine qR<|mN Z<|qR<|mN Z<|zQ<|qR<|zM Z<|yS Z (ck Z Z)<|mN Z ?_;obtain⟨v1,p1,b1⟩:=zB h;clear h;refine LW.tail (E:=[(0,.p (.slice 1 (slices.map (Oz 9 cZ)))),(2,.zs),(3,(iQ v1.size))]) (O:=[]) ?_<|fun e1 K1 u1=>?_
 ·refine LW.block ?_;refine LW.iterB (E:=fun x1:ey=>[(0,.p (.slice 1 (slices.map (Oz 9 cZ)))),(2,.zs),(3,(iQ x1.size)),(9,.p (.slice 1 (slices.map (Oz 9 cZ)))),(10,.p (.int .i64 (slices.length:Int))),(11,(iQ x1.t11))]) (O:=fun x1=>[]) p1 (av 0 ⟨Z,Z,Z,Z,Z,Z,t_⟩)<|fun x1 z1 h m1=>?_;unfold jr at h;refine qR<|yS Z (an Z Z Z Z)<|nT<|zQ ?_;refine zX Z (fun g1=>?_)<|fun g1=>?_
  ·refine zi g1 h fun h=>zk<|zT<|zQ<|zl<|qR<|zb h fun y1 j1 h=>yS Z (zx Z Z Z BL j1 Z)<|yS Z (bR Z Z Z bk Z Z)<|mN Z<|qR<|zM Z<|zM Z<|yS Z (ck Z Z)<|yS Z (an Z Z Z Z)<|mN Z<|qR<|zM Z<|yS Z (an Z Z Z Z)<|nT ?_;refine zX Z (fun g2=>?_)<|fun g2=>?_
   ·have h:=zI g2 h;cases h
   ·refine zo g2 h fun h=>zk<|af<|zT<|zR<|yS Z (an Z Z Z Z)<|mN Z ?_;cases h;exact⟨_,rfl,av 0 ⟨Z,Z,Z,Z,Z,Z,t_⟩⟩
  ·refine zo g1 h fun h=>zq<|ai<|ai<|zy<|zT ?_;cases h;obtain rfl:=(m1 _ rfl);exact av 0 ⟨Z,Z,Z,t_⟩
 ·have h:=b1;clear p1;refine zT<|LW.weak u1<|qR<|zM Z<|zb h fun v2 a2 h=>yS Z (yC Z Z Z (LC.frameX (x':=.vec 9 0 (v2.map cZ).length 0 0) (H':=[.vec 9 (v2.map cZ)]) (Lu a2) (.consZ (.consC zv .nil)) Z Z Z))<|mN Z<|zQ<|qR<|zM Z<|yS Z (ck Z Z)<|mN Z ?_;obtain⟨v3,p3,b3⟩:=zB h;clear h;refine LW.tail (E:=[(2,.zs),(6,.vec 9 0 (v3.o0.map cZ).length 0 v3.newslice)]) (O:=[.vec 9 (v3.o0.map cZ)]) ?_<|fun e3 K3 u3=>?_
  ·refine LW.block ?_;refine LW.iterB (E:=fun x2:ez=>[(2,.zs),(6,.vec 9 0 (x2.o0.map cZ).length 0 x2.newslice),(25,.p (.slice 1 (slices.map (Oz 9 cZ)))),(26,.p (.int .i64 (slices.length:Int))),(27,(iQ x2.t27))]) (O:=fun x2=>[.vec 9 (x2.o0.map cZ)]) p3 (av 1 ⟨Z,Z,Z,Z,Z,t_⟩)<|fun x2 z2 h m2=>?_;unfold js at h;refine qR<|yS Z (an Z Z Z Z)<|nT<|zQ ?_;refine zX Z (fun g3=>?_)<|fun g3=>?_
   ·refine zi g3 h fun h=>zk<|zT<|zQ<|zl<|qR<|zb h fun y2 j2 h=>yS Z (zx Z Z Z BL j2 Z)<|yS Z (bR Z Z Z bk Z Z)<|mN Z<|zR<|zM Z<|zM Z<|zg h fun q1 h=>?_;refine yS Z (aa.appendP (f:=cZ) Z Z Z (fun _=>rfl) Z iy.p Z bq q1 Z) ?_;refine zM Z<|zN<|af<|zT<|zR<|yS Z (an Z Z Z Z)<|mN Z ?_;cases h;exact⟨_,rfl,av 1 ⟨Z,Z,Z,Z,Z,t_⟩⟩
   ·refine zo g3 h fun h=>zq<|ai<|ai<|zy<|zT ?_;cases h;obtain rfl:=(m2 _ rfl);exact av 1 ⟨Z,Z,t_⟩
  ·have h:=b3;clear p3;refine zT<|LW.weak u3<|qR<|zg h fun q2 h=>zM Z<|mN Z<|zr ?_;cases h;exact zf (.one (.tmp Z))<|(Conv.vecTake Z q2)
end Go.Mg
