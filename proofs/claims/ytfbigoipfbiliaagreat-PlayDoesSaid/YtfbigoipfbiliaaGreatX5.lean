/- shuffle. Conditions: none. -/
import Derived.Test.YtfbigoipfbiliaaGreatX4
set_option maxRecDepth 100000
set_option linter.unusedSimpArgs false
set_option linter.unusedVariables false
namespace Go.Mg
open IntKind (i64 u64)
open Go.Proofs.Tryz (f198 f200 prog)
open List (replicate)
open Go.Proofs
variable {at_ s : List Int} {ats : Array TypeId} {c : Cf} {fo xo : Operand} {names : List ID} {r_ seed slot x : Int}
def P9 :Dk:=⟨fun _=>false,0⟩
structure lU where
 i:Int
 t6:Int
 d:Dk
def sO (seed:Int)(n:Int)(x1:lU):Option (lU⊕lU):=bif decide (x1.t6<10)then bif uL n x1.t6 then some (.inl (lU.mk (nB seed n x1.t6 x1.i) (i64.wrap (x1.t6+1)) (x1.d.turned x1.t6)))else none else some (.inr (lU.mk x1.i x1.t6 x1.d))
def EK (seed:Int)(n:Int)(i:Int)(d:Dk):Option (Int×Dk):=(iter (sO seed n) aY (lU.mk i 0 d)).bind fun v1=>some (v1.i,v1.d)
theorem NP {n:Int}{i:Int}{d:Dk}{r_:Int×Dk}(h:EK seed n i d=some r_):LC prog 196 [.ptr 0 0,(iQ i)] [.box (ku seed n d)] (Is (iQ r_.1) [.box (ku seed n r_.2)]):=by
 refine eN Tryz.func196 Z Z Z ?_;unfold EK at h;refine qR<|mN Z<|zQ<|qR<|mN Z ?_;obtain⟨v1,p1,a1⟩:=zB h;clear h;refine LW.tail (E:=[(1,(iQ v1.i)),(4,(iQ 0))]) (O:=[.box (ku seed n v1.d)]) ?_<|fun e1 K1 u1=>?_
 ·refine LW.block ?_;refine LW.iterB (E:=fun x1:lU=>[(0,.ptr 0 0),(1,(iQ x1.i)),(4,(iQ 0)),(6,(iQ x1.t6))]) (O:=fun x1=>[.box (ku seed n x1.d)]) p1 (av 1 ⟨Z,Z,Z,Z,t_⟩)<|fun x1 z1 h m1=>?_;unfold sO at h;refine qR<|yS Z (an Z Z Z Z)<|nT<|zQ ?_;refine zX Z (fun g1=>?_)<|fun g1=>?_
  ·refine zi g1 h fun h=>zk<|zT<|zQ<|zl<|qR<|zM Z<|mN Z<|zR<|zM Z<|zM Z<|zM Z<|zg h fun q1 h=>yS Z (yC Z Z Z (Pt q1))<|zM Z<|zN<|af<|zT<|zR<|yS Z (an Z Z Z Z)<|mN Z ?_;cases h;exact⟨_,rfl,av 1 ⟨Z,Z,Z,Z,t_⟩⟩
  ·refine zo g1 h fun h=>zq<|ai<|ai<|zy<|zT ?_;cases h;obtain rfl:=(m1 _ rfl);exact av 1 ⟨Z,Z,t_⟩
 ·have h:=a1;clear p1;refine zT<|LW.weak u1<|qR<|zM Z<|mN Z<|zr ?_;cases h;exact aD (.one (.tmp Z))<|⟨rfl,rfl⟩
def Dg (n:Int)(i:Int):Option Bool:=bif decide (n>0)then bif decide (n<=1000)then bif decide (i>=0)then some (decide (i<n))else some false else some false else some false
theorem Pq {n:Int}{i:Int}{r_:Bool}(h:Dg n i=some r_):aq prog 195 [.int .i64 n,.int .i64 i] [.bool r_]:=by
 refine zh Tryz.func195 Z Z Z Z ?_;unfold Dg at h;refine qR<|mN Z<|qR<|zM Z<|yS Z (an Z Z Z Z)<|zM Z ?_;refine zc 7 Z (fun g1=>?_)<|fun g1=>?_
 ·refine zi g1 h fun h=>yV Z (gd g1 Z) (zm Z Z)<|yV Z (gd g1 Z) (an Z Z Z Z)<|yS Z (bv Z (aJ g1 Z) Z)<|zM Z ?_;refine zc 11 Z (fun g2=>?_)<|fun g2=>?_
  ·refine zi g2 h fun h=>yV Z (gd g2 Z) (zm Z Z)<|yV Z (gd g2 Z) (an Z Z Z Z)<|yS Z (bv Z (aJ g2 Z) Z)<|zM Z ?_;refine zc 15 Z (fun g3=>?_)<|fun g3=>?_
   ·refine zi g3 h fun h=>yV Z (gd g3 Z) (zm Z Z)<|yV Z (gd g3 Z) (zm Z Z)<|yV Z (gd g3 Z) (an Z Z Z Z)<|yS Z (bv Z (aJ g3 Z) Z)<|mN Z<|zr ?_;cases h;exact aZ Z
   ·refine zo g3 h fun h=>yU Z (gd g3 Z) Z<|yU Z (gd g3 Z) Z<|yU Z (gd g3 Z) Z<|yS Z (aT Z (aJ g3 Z) Z)<|mN Z<|zr ?_;cases h;exact aZ Z
  ·refine zo g2 h fun h=>yU Z (gd g2 Z) Z<|yU Z (gd g2 Z) Z<|yS Z (aT Z (aJ g2 Z) Z)<|zM Z<|aw Z<|aw Z<|aw Z<|yS Z (aT Z Z Z)<|mN Z<|zr ?_;cases h;exact aZ Z
 ·refine zo g1 h fun h=>yU Z (gd g1 Z) Z<|yU Z (gd g1 Z) Z<|yS Z (aT Z (aJ g1 Z) Z)<|zM Z<|aw Z<|aw Z<|yS Z (aT Z Z Z)<|zM Z<|aw Z<|aw Z<|aw Z<|yS Z (aT Z Z Z)<|mN Z<|zr ?_;cases h;exact aZ Z
structure oK where
 t19:Int
 d:Dk
 l:List Int
def tx (seed:Int)(n:Int)(x1:oK):Option (oK⊕oK):=bif decide (x1.t19<((replicate n.toNat (0:Int)).length:Int))then (EK seed n x1.t19 x1.d).bind fun v3=>(ix x1.l x1.t19).bind fun _=>some (.inl (oK.mk (i64.wrap (x1.t19+1)) v3.2 (x1.l.set x1.t19.toNat v3.1)))else some (.inr (oK.mk x1.t19 x1.d x1.l))
def Mk (seed:Int)(n:Int):Option (List Int):=(Dg n 0).bind fun v1=>bif !v1 then some [] else bif Ea n 8 then (iter (tx seed n) aY (oK.mk 0 P9 (replicate n.toNat (0:Int)))).bind fun v2=>bif decide (v2.d.k<n)then some [] else some v2.l else none
theorem QJ {n:Int}{r_:(List Int)}(h:Mk seed n=some r_):aq prog 158 [.int .u64 seed,.int .i64 n] [.slice 1 (r_.map bh)]:=by
 refine zh Tryz.func158 Z Z Z Z ?_;unfold Mk at h;refine qR<|mN Z<|zQ<|qR<|zM Z<|zb h fun v1 a1 h=>yS Z (yP Z Z Z (Pq a1) bG)<|yS Z (aa.not Z Z)<|nT ?_;refine zX Z (fun g1=>?_)<|fun g1=>?_
 ·refine zi g1 h fun h=>qR<|mN Z<|LW.ret<|ae ?_;cases h;exact zf (.one (.tmp Z)) Conv.zs
 ·refine zo g1 h fun h=>zk<|zT<|qR<|zM Z<|zM Z<|yS Z (aa.build Z MD Z Z Z)<|yS Z (bx (H':=[.box (ku seed n P9)]) Z Z Z Z Z)<|mN Z<|qR<|zM Z<|zg h fun q1 h=>yS Z (aa.makeSliceX bh 0 Z Z Z dL (z:=.int .i64 0) (by kernel_rfl) Z q1 Z Z)<|mN Z<|zQ<|qR<|zM Z<|yS Z (aa.lenVM Z Z Z (by kernel_rfl))<|mN Z ?_;obtain⟨v2,p2,b2⟩:=zB h;clear h;refine LW.tail (E:=[(1,(iQ n)),(4,.zs),(5,.ptr 0 0),(6,(jI 1 v2.l))]) (O:=[.box (ku seed n v2.d),.vec 1 (v2.l.map bh)]) ?_<|fun e2 K2 u2=>?_
  ·refine LW.block ?_;refine LW.iterB (E:=fun x1:oK=>[(1,(iQ n)),(4,.zs),(5,.ptr 0 0),(6,(jI 1 x1.l)),(18,.p (.int .i64 ((replicate n.toNat (0:Int)).length:Int))),(19,(iQ x1.t19))]) (O:=fun x1=>[.box (ku seed n x1.d),.vec 1 (x1.l.map bh)]) p2 (av 2 ⟨Z,Z,Z,Z,Z,Z,t_⟩)<|fun x1 z1 h m1=>?_;unfold tx at h;refine qR<|yS Z (an Z Z Z Z)<|nT<|zQ ?_;refine zX Z (fun g2=>?_)<|fun g2=>?_
   ·refine zi g2 h fun h=>zk<|zT<|zQ<|zl<|qR<|zM Z<|mN Z<|zR<|zM Z<|zM Z<|zM Z<|zM Z<|zb h fun v3 a3 h=>yS Z (yC Z Z Z (LC.pre (NP a3) Z Z Z))<|zb h fun y1 j1 h=>yS Z (aa.indexAddrVX Z Z Z Z dL j1) ?_;refine yS Z (aa.storeVX (f:=bh) (l:=x1.l) v3.1 Z Z Z Z aW (fun _=>rfl) j1 Z) ?_;refine zN<|af<|zT<|zR<|yS Z (an Z Z Z Z)<|mN Z ?_;cases h;exact⟨_,rfl,zW 2 ⟨rfl,rfl,rfl,(Qh (rfl)),rfl,rfl,trivial⟩ Z Z Z rfl⟩
   ·refine zo g2 h fun h=>zq<|ai<|ai<|zy<|zT ?_;cases h;obtain rfl:=(m1 _ rfl);exact av 2 ⟨Z,Z,Z,Z,t_⟩
  ·have h:=b2;clear p2;refine zT<|LW.weak u2<|zQ<|qR<|zM Z<|yS Z (zn Z Z)<|yS Z (zA Z Z wK)<|yS Z (yC Z Z Z (Pu (off:=52) Z Z))<|zM Z<|yS Z (an Z Z Z Z)<|nT ?_;refine zX Z (fun g3=>?_)<|fun g3=>?_
   ·refine zi g3 h fun h=>qR<|mN Z<|LW.ret<|ae ?_;cases h;exact zf (.one (.tmp Z)) Conv.zs
   ·refine zo g3 h fun h=>zk<|zT<|qR<|zM Z<|mN Z<|zr ?_;cases h;exact zf (.one (.tmp Z))<|(Conv.vecAll Z Z Z)
structure oW where
 i:Int
def rm (names:List ID)(id:ID)(x1:oW):Option (oW⊕(oW⊕Int)):=bif decide (x1.i<(names.length:Int))then (ix names x1.i).bind fun y1=>bif ((y1.1==id.1)&&((y1.2==id.2)&&true))then some (.inr (.inr x1.i))else some (.inl (oW.mk (i64.wrap (x1.i+1))))else some (.inr (.inl (oW.mk x1.i)))
def Cr (names:List ID)(id:ID):Option Int:=(iter (rm names id) aY (oW.mk 0)).bind fun b_v1=>Sum.elim (fun _=>some (-1)) some b_v1
theorem Li {id:ID}(h:Cr names id=some r_):aq prog 174 [.slice 2 (names.map aX),aX id] [.int .i64 r_]:=by
 refine zh Tryz.func174 Z Z Z Z ?_;unfold Cr at h;refine qR<|yS Z (bx Z Z Z Z Z)<|mN Z<|zQ<|qR<|mN Z ?_;obtain⟨w1,p1,q1⟩:=zB h;clear h;refine LW.tailB (b:=w1) (E:=fun v1=>[(4,(iQ 0))]) (O:=fun v1=>[.box [(uQ id.1),(uQ id.2)]]) ?_<|fun v1 f1 e1 K1 u1=>?_
 ·refine LW.block ?_;refine LW.iterB (E:=fun x1:oW=>[(0,.p (.slice 2 (names.map aX))),(3,.ptr 0 0),(4,(iQ 0)),(5,(iQ x1.i))]) (O:=fun x1=>[.box [(uQ id.1),(uQ id.2)]]) p1 (av 1 ⟨Z,Z,Z,Z,t_⟩)<|fun x1 z1 h m1=>?_;unfold rm at h;refine zQ<|qR<|zM Z<|zM Z<|yS Z (ck Z Z)<|yS Z (an Z Z Z Z)<|nT ?_;refine zX Z (fun g1=>?_)<|fun g1=>?_
  ·refine zi g1 h fun h=>zk<|zT<|zQ<|zl<|zQ<|dx<|zH Z<|zH Z<|zb h fun y1 j1 h=>yE Z (zx Z Z Z fH j1 Z)<|yE Z (bR Z Z Z aF Z Z)<|yE Z (zD Z Z Z aF Z Z)<|yE Z (aa.eqlAgg Z Z Z Z Z gV)<|LO.nil<|zT ?_;refine zX Z (fun g2=>?_)<|fun g2=>?_
   ·refine zi g2 h fun h=>qR<|zM Z<|mN Z<|zr<|ak<|ae<|ae<|ak<|ae<|ae ?_;cases h;obtain rfl:=(m1 _ rfl);have h:=bO q1;cases h;exact aZ Z
   ·refine zo g2 h fun h=>zk<|af<|zT<|zR<|zM Z<|yS Z (an Z Z Z Z)<|mN Z ?_;cases h;exact⟨_,rfl,av 1 ⟨Z,Z,Z,Z,t_⟩⟩
  ·refine zo g1 h fun h=>zq<|ai<|ai<|zy<|zT ?_;cases h;obtain rfl:=(m1 _ rfl);exact⟨_,rfl,av 1 ⟨Z,t_⟩⟩
 ·obtain rfl:=f1;have h:=cR q1;clear p1;refine zT<|LW.weak u1<|qR<|mN Z<|zr ?_;cases h;exact aZ Z
def Fg (x:Int)(n:Int):Option Int:=bif decide (0<=n)then some (bits .xor .u64 x (x.fdiv (2 ^ (min (Int.toNat n) u64.bits))))else none
theorem Lc {n:Int}(h:Fg x n=some r_):aq prog 189 [.int .u64 x,.int .u64 n] [.int .u64 r_]:=by
 refine zh Tryz.func189 Z Z Z Z ?_;unfold Fg at h;refine qR<|mN Z<|qR<|zM Z<|zM Z<|zM Z<|zg h fun q1 h=>yS Z (aa.shr Z Z Z (of_decide_eq_true q1))<|yS Z (an Z Z Z Z)<|mN Z<|zr ?_;cases h;exact aZ Z
def Ky (x:Int):Option Int:=(Fg x 30).bind fun v1=>(Fg (u64.wrap (v1*13787848793156543929)) 27).bind fun v2=>(Fg (u64.wrap (v2*10723151780598845931)) 31).bind fun v3=>some v3
theorem PI (h:Ky x=some r_):aq prog 151 [.int .u64 x] [.int .u64 r_]:=by
 refine zh Tryz.func151 Z Z Z Z ?_;unfold Ky at h;refine qR<|mN Z<|qR<|zM Z<|zb h fun v1 a1 h=>yS Z (yP Z Z Z (Lc a1) bG)<|yS Z (an Z Z Z Z)<|mN Z<|qR<|zM Z<|zb h fun v2 a2 h=>yS Z (yP Z Z Z (Lc a2) bG)<|yS Z (an Z Z Z Z)<|mN Z<|qR<|zM Z<|zb h fun v3 a3 h=>yS Z (yP Z Z Z (Lc a3) bG)<|mN Z<|zr ?_;cases h;exact aZ Z
def tb (h:Int)(x:Int):Option Int:=(Ky (u64.wrap ((bits .xor .u64 h x)+11400714819323198485))).bind fun v1=>some v1
theorem yz {h:Int}(hr:tb h x=some r_):aq prog 120 [.int .u64 h,.int .u64 x] [.int .u64 r_]:=by
 refine zh Tryz.func120 Z Z Z Z ?_;unfold tb at hr;refine qR<|mN Z<|qR<|zM Z<|zM Z<|yS Z (an Z Z Z Z)<|yS Z (an Z Z Z Z)<|zb hr fun v1 a1 hr=>yS Z (yP Z Z Z (PI a1) dG)<|mN Z<|zr ?_;cases hr;exact aZ Z
structure i5 where
 a:Int
 b:Int
 i:Int
def nE (l:List Int)(x1:i5):Option (i5⊕i5):=bif decide (x1.i<=(l.length:Int))then (bif decide (x1.i<(l.length:Int))then (ix l x1.i).bind fun y1=>some y1 else some (u64.wrap ((l.length:Int)))).bind fun v2=>(tb x1.a v2).bind fun v3=>(tb x1.b (u64.wrap (18446744073709551615-v2))).bind fun v4=>some (.inl (i5.mk v3 v4 (i64.wrap (x1.i+1))))else some (.inr (i5.mk x1.a x1.b x1.i))
def EJ (l:List Int):Option ID:=(iter (nE l) aY (i5.mk 1 2 0)).bind fun v1=>some (v1.a,v1.b)
theorem Pp {l:List Int}{r_:ID}(h:EJ l=some r_):aq prog 168 [.slice 1 (l.map kE)] [aX r_]:=by
 refine zh Tryz.func168 Z Z Z Z ?_;unfold EJ at h;refine qR<|yS Z (ze Z gP Z Z)<|nT<|qR<|mN Z<|qR<|mN Z<|zQ<|qR<|mN Z ?_;obtain⟨v1,p1,q1⟩:=zB h;clear h;refine LW.tail (E:=[(2,.ptr 0 0),(3,(uQ v1.a)),(4,(uQ v1.b))]) (O:=[.box [(uQ 0),(uQ 0)]]) ?_<|fun e1 K1 u1=>?_
 ·refine LW.block ?_;refine LW.iterB (E:=fun x1:i5=>[(0,.p (.slice 1 (l.map kE))),(2,.ptr 0 0),(3,(uQ x1.a)),(4,(uQ x1.b)),(5,(iQ x1.i))]) (O:=fun x1=>[.box [(uQ 0),(uQ 0)]]) p1 (av 1 ⟨Z,Z,Z,Z,Z,t_⟩)<|fun x1 z1 h m1=>?_;unfold nE at h;refine zQ<|qR<|zM Z<|zM Z<|yS Z (ck Z Z)<|yS Z (an Z Z Z Z)<|nT ?_;refine zX Z (fun g1=>?_)<|fun g1=>?_
  ·refine zi g1 h fun h=>zk<|zT<|zQ<|zl<|qR<|zM Z<|yS Z (ck Z Z)<|yS Z (aa.convert (k':=.u64) Z Z (by kernel_rfl))<|mN Z ?_;obtain⟨v2,p2,q2⟩:=zB h;clear h;refine LW.cut (E:=[(0,.p (.slice 1 (l.map kE))),(2,.ptr 0 0),(3,(uQ x1.a)),(4,(uQ x1.b)),(5,(iQ x1.i)),(6,(uQ v2))]) (O:=[.box [(uQ 0),(uQ 0)]]) ?_ ?_
   ·have h:=p2;refine qR<|zM Z<|zM Z<|yS Z (ck Z Z)<|yS Z (an Z Z Z Z)<|nT ?_;refine zX Z (fun g2=>?_)<|fun g2=>?_
    ·refine zi g2 h fun h=>zR<|zM Z<|zM Z<|zb h fun y1 j1 h=>yS Z (zx Z Z Z Ev j1 Z)<|yS Z (bR Z Z Z iT Z Z)<|mN Z ?_;cases h;exact av 1 ⟨Z,Z,Z,Z,Z,Z,t_⟩
    ·refine zo g2 h fun h=>zk<|zT ?_;cases h;exact av 1 ⟨Z,Z,Z,Z,Z,Z,t_⟩
   ·have h:=q2;clear p2;refine qR<|zM Z<|zM Z<|zb h fun v3 a3 h=>yS Z (yP Z Z Z (yz a3) bG)<|mN Z<|zR<|zM Z<|zM Z<|yS Z (an Z Z Z Z)<|zb h fun v4 a4 h=>yS Z (yP Z Z Z (yz a4) bG)<|zM Z<|zN<|af<|zT<|zR<|zM Z<|yS Z (an Z Z Z Z)<|mN Z ?_;cases h;exact⟨_,rfl,av 1 ⟨Z,Z,Z,Z,Z,t_⟩⟩
  ·refine zo g1 h fun h=>zq<|ai<|ai<|zy<|zT ?_;cases h;obtain rfl:=(m1 _ rfl);exact av 1 ⟨Z,Z,Z,t_⟩
 ·have h:=q1;clear p1;refine zT<|LW.weak u1<|qR<|zM Z<|zM Z<|yS Z (aa.build Z ng Z Z Z)<|yS Z (zs Z Z Z Z aF Z Z Z Z)<|nT<|zr ?_;cases h;exact zf (.one (er Z Z)) zv
def JA (b:Bk):Option ID:=(EJ [1,u64.wrap (b.Slot),u64.wrap (b.From),b.Parent.1,b.Parent.2,b.Salt]).bind fun v1=>some v1
theorem Pb {b:Bk}{r_:ID}(h:JA b=some r_):aq prog 133 [aA b] [aX r_]:=by
 refine zh Tryz.func133 Z Z Z Z ?_;unfold JA at h;refine qR<|yS Z (bx Z Z Z Z Z)<|yS Z (ze Z gP Z Z)<|nT<|qR<|yS Z (zA Z Z fK)<|yS Z (zD Z Z Z aW Z Z)<|yS Z (aa.convert (k':=.u64) Z Z (by kernel_rfl))<|yS Z (zA Z Z rD)<|yS Z (zD Z Z Z aW Z Z)<|yS Z (aa.convert (k':=.u64) Z Z (by kernel_rfl))<|yS Z (zA Z Z gt)<|yS Z (aa.indexAddrA Z Z Z qa (by decide) (by decide))<|yS Z (zD Z Z Z iT Z Z)<|yS Z (zA Z Z gt)<|yS Z (aa.indexAddrA Z Z Z qa (by decide) (by decide))<|yS Z (zD Z Z Z iT Z Z)<|yS Z (zA Z Z GW)<|yS Z (zD Z Z Z iT Z Z)<|yS Z (gR Z Ev Z Z Z Z Z)<|zb h fun v1 a1 h=>yS Z (yP Z Z Z (Pp a1) dG)<|yS Z (zs Z Z Z Z aF Z Z Z Z)<|nT<|zr ?_;cases h;exact zf (.one (er Z Z)) zv
structure oV where
 i:Int
 out:List ID
def tB (l:List Bk)(x1:oV):Option (oV⊕oV):=bif decide (x1.i<(l.length:Int))then (ix l x1.i).bind fun y1=>(JA y1).bind fun v2=>bif bJ x1.out.length [v2].length 16 then some (.inl (oV.mk (i64.wrap (x1.i+1)) (x1.out++[v2])))else none else some (.inr (oV.mk x1.i x1.out))
def JC (l:List Bk):Option (List ID):=(iter (tB l) aY (oV.mk 0 ([]:List ID))).bind fun v1=>some v1.out
theorem Pf {l:List Bk}{r_:(List ID)}(h:JC l=some r_):aq prog 143 [.slice 5 (l.map aA)] [.slice 2 (r_.map aX)]:=by
 refine zh Tryz.func143 Z Z Z Z ?_;unfold JC at h;refine qR<|mN Z<|qR<|mN Z<|zQ<|qR<|mN Z<|LW.ent (bY.lazy (t:=3) (m:=2) Z Z Z) ?_;obtain⟨v1,p1,b1⟩:=zB h;clear h;refine LW.tail (E:=[(2,.zs),(3,.vec 2 0 (v1.out.map aX).length 0 (v1.out.map aX).length)]) (O:=[.vec 2 (v1.out.map aX)]) ?_<|fun e1 K1 u1=>?_
 ·refine LW.block ?_;refine LW.iterB (E:=fun x1:oV=>[(0,(kB l)),(2,.zs),(3,.vec 2 0 (x1.out.map aX).length 0 (x1.out.map aX).length),(4,(iQ x1.i))]) (O:=fun x1=>[.vec 2 (x1.out.map aX)]) p1 (av 1 ⟨Z,Z,Z,Z,t_⟩)<|fun x1 z1 h m1=>?_;unfold tB at h;refine zQ<|qR<|zM Z<|zM Z<|yS Z (ck Z Z)<|yS Z (an Z Z Z Z)<|nT ?_;refine zX Z (fun g1=>?_)<|fun g1=>?_
  ·refine zi g1 h fun h=>zk<|zT<|zQ<|zl<|zR<|zM Z<|zM Z<|zM Z<|zb h fun y1 j1 h=>yS Z (zx Z Z Z cw j1 Z)<|yS Z (bR Z Z Z ce Z Z)<|zb h fun v2 a2 h=>yS Z (yP Z Z Z (Pb a2) dG)<|yS Z (gR Z fH Z Z Z Z Z)<|zg h fun q1 h=>yS Z (aa.appendX aX x1.out [v2] rfl Z Z Z iy.p Z fH q1 Z)<|zM Z<|zN<|af<|zT<|zR<|zM Z<|yS Z (an Z Z Z Z)<|mN Z ?_;cases h;exact⟨_,rfl,av 1 ⟨Z,Z,Z,Z,t_⟩⟩
  ·refine zo g1 h fun h=>zq<|ai<|ai<|zy<|zT ?_;cases h;obtain rfl:=(m1 _ rfl);exact av 1 ⟨Z,Z,t_⟩
 ·have h:=b1;clear p1;refine zT<|LW.weak u1<|qR<|zM Z<|mN Z<|zr ?_;cases h;exact zf (.one (.tmp Z))<|(Conv.vecAll Z Z Z)
structure gG where
 i:Int
def rk (l:List Bk)(names:List ID)(x1:gG):Option (gG⊕(gG⊕Bool)):=bif decide (x1.i<(l.length:Int))then (ix l x1.i).bind fun y1=>((ix names x1.i).bind fun y2=>bif ((y2.1==0)&&((y2.2==0)&&true))then some true else bif wP names 0 x1.i then (ix names x1.i).bind fun y3=>(Cr (names.take x1.i.toNat) y3).bind fun v3=>bif decide (v3>=0)then some true else some (decide (y1.Slot<1))else none).bind fun v2=>bif v2 then some (.inr (.inr false))else bif ((y1.Parent.1==0)&&((y1.Parent.2==0)&&true))then some (.inl (gG.mk (i64.wrap (x1.i+1))))else bif wP names 0 x1.i then (Cr (names.take x1.i.toNat) y1.Parent).bind fun v4=>bif decide (v4<0)then some (.inr (.inr false))else (ix l v4).bind fun y4=>bif decide (y4.Slot>=y1.Slot)then some (.inr (.inr false))else some (.inl (gG.mk (i64.wrap (x1.i+1))))else none else some (.inr (.inl (gG.mk x1.i)))
def L9 (l:List Bk)(names:List ID):Option Bool:=(iter (rk l names) aY (gG.mk 0)).bind fun b_v1=>Sum.elim (fun _=>some true) some b_v1
theorem Qx {l:List Bk}{r_:Bool}(h:L9 l names=some r_):aq prog 173 [.slice 5 (l.map aA),.slice 2 (names.map aX)] [.bool r_]:=by
 refine zh Tryz.func173 Z Z Z Z ?_;unfold L9 at h;refine qR<|mN Z<|zQ<|qR<|mN Z ?_;obtain⟨w1,p1,c1⟩:=zB h;clear h;refine LW.tailB (b:=w1) (E:=fun v1=>[(4,(bQ false))]) (O:=fun v1=>[]) ?_<|fun v1 f1 e1 K1 u1=>?_
 ·refine LW.block ?_;refine LW.iterB (E:=fun x1:gG=>[(0,(kB l)),(1,.p (.slice 2 (names.map aX))),(4,(bQ false)),(5,(iQ x1.i))]) (O:=fun x1=>[]) p1 (av 0 ⟨Z,Z,Z,Z,t_⟩)<|fun x1 z1 h m1=>?_;unfold rk at h;refine zQ<|qR<|zM Z<|zM Z<|yS Z (ck Z Z)<|yS Z (an Z Z Z Z)<|nT ?_;refine zX Z (fun g1=>?_)<|fun g1=>?_
  ·refine zi g1 h fun h=>zk<|zT<|zQ<|zl<|qR<|zM Z<|zM Z<|zb h fun y1 j1 h=>yS Z (zx Z Z Z cw j1 Z)<|yS Z (bR Z Z Z ce Z Z)<|yS Z (ze Z uW Z Z)<|yS Z (zs Z Z Z Z ce Z Z Z Z)<|nT<|zQ ?_;obtain⟨v2,p2,c2⟩:=zB h;clear h;refine LW.cut (E:=[(0,(kB l)),(1,.p (.slice 2 (names.map aX))),(4,(bQ false)),(5,(iQ x1.i)),(6,.ptr 0 0),(39,(bQ v2))]) (O:=[.box [(iQ y1.Slot),(iQ y1.From),(uQ y1.Parent.1),(uQ y1.Parent.2),(uQ y1.Salt)]]) ?_ ?_
   ·have h:=p2;refine dx<|zH Z<|zH Z<|zb h fun y2 j2 h=>yE Z (zx Z Z Z fH j2 Z)<|yE Z (bR Z Z Z aF Z Z)<|yE Z (aa.build Z ng Z Z Z)<|yE Z (aa.eqlAgg Z Z Z Z Z gV)<|zH Z ?_;refine LO.cases 24 Z (fun(g2:((y2.1==0)&&((y2.2==0)&&true))=true)=>?_) (fun(g2:((y2.1==0)&&((y2.2==0)&&true))=false)=>?_)
    ·refine zi g2 h fun h=>yK Z (gd g2 Z) Z<|yK Z (gd g2 Z) Z<|yK Z (gd g2 Z) Z<|yK Z (gd g2 Z) Z<|yK Z (gd g2 Z) Z<|yK Z (gd g2 Z) Z<|yK Z (gd g2 Z) Z<|yK Z (gd g2 Z) Z<|yK Z (gd g2 Z) Z<|yE Z (bv Z (aJ g2 Z) Z)<|zH Z<|b8 Z<|b8 Z<|b8 Z<|yE Z (bv Z Z Z)<|LO.nil<|zT ?_;cases h;exact av 1 ⟨Z,Z,Z,Z,Z,Z,t_⟩
    ·refine zo g2 h fun h=>yL Z (gd g2 Z) (zm Z Z)<|yL Z (gd g2 Z) (zm Z Z)<|zg h fun q1 h=>yL Z (gd g2 Z) (aa.sliceHi Z Z Z fH q1)<|yL Z (gd g2 Z) (zm Z Z)<|yL Z (gd g2 Z) (zm Z Z)<|zb h fun y3 j3 h=>yL Z (gd g2 Z) (zx Z Z Z fH j3 Z)<|yL Z (gd g2 Z) (bR Z Z Z aF Z Z)<|zb h fun v3 a3 h=>yL Z (gd g2 Z) (yP Z Z Z (Li a3) bG)<|yL Z (gd g2 Z) (an Z Z Z Z)<|yE Z (aT Z (aJ g2 Z) Z)<|zH Z ?_;refine LO.cases 35 Z (fun(g3:(decide (v3>=0))=true)=>?_) (fun(g3:(decide (v3>=0))=false)=>?_)
     ·refine zi g3 h fun h=>yK Z (gd g3 Z) Z<|yK Z (gd g3 Z) Z<|yK Z (gd g3 Z) Z<|yE Z (bv Z (aJ g3 Z) Z)<|LO.nil<|zT ?_;cases h;exact av 1 ⟨Z,Z,Z,Z,Z,Z,t_⟩
     ·refine zo g3 h fun h=>yL Z (gd g3 Z) (zA Z Z fK)<|yL Z (gd g3 Z) (zD Z Z Z aW Z Z)<|yL Z (gd g3 Z) (an Z Z Z Z)<|yE Z (aT Z (aJ g3 Z) Z)<|LO.nil<|zT ?_;cases h;exact av 1 ⟨Z,Z,Z,Z,Z,Z,t_⟩
   ·have h:=c2;clear p2;refine zX Z (fun g4=>?_)<|fun g4=>?_
    ·refine zi g4 h fun h=>qR<|mN Z<|LW.ret<|ae<|ak<|ae<|ae<|ak<|ae<|ae ?_;cases h;obtain rfl:=(m1 _ rfl);have h:=bO c1;cases h;exact aZ Z
    ·refine zo g4 h fun h=>zk<|zT<|zQ<|qR<|yS Z (zA Z Z gt)<|yS Z (zD Z Z Z aF Z Z)<|yS Z (aa.build Z ng Z Z Z)<|yS Z (aa.eqlAgg Z Z Z Z Z gV)<|nT ?_;refine zX Z (fun g5=>?_)<|fun g5=>?_
     ·refine zi g5 h fun h=>zq<|ai<|zy<|zT<|zR<|zM Z<|yS Z (an Z Z Z Z)<|mN Z ?_;cases h;exact⟨_,rfl,av 0 ⟨Z,Z,Z,Z,t_⟩⟩
     ·refine zo g5 h fun h=>zk<|zT<|zQ<|dx<|zH Z<|zH Z<|zg h fun q2 h=>yE Z (aa.sliceHi Z Z Z fH q2)<|yE Z (zA Z Z gt)<|yE Z (zD Z Z Z aF Z Z)<|zb h fun v4 a4 h=>yE Z (yP Z Z Z (Li a4) bG)<|zH Z<|LO.nil<|zT<|zQ<|dx<|zH Z<|yE Z (an Z Z Z Z)<|zH Z ?_;refine LO.cases 52 Z (fun(g6:(decide (v4<0))=true)=>?_) (fun(g6:(decide (v4<0))=false)=>?_)
      ·refine zi g6 h fun h=>yK Z (gd g6 Z) Z<|yK Z (gd g6 Z) Z<|yK Z (gd g6 Z) Z<|yK Z (gd g6 Z) Z<|yK Z (gd g6 Z) Z<|yK Z (gd g6 Z) Z<|yK Z (gd g6 Z) Z<|yK Z (gd g6 Z) Z<|yE Z (bv Z (aJ g6 Z) Z)<|LO.nil<|zT<|LW.condT Z<|qR<|mN Z<|zr<|ak<|ae<|ae<|ak<|ae<|ae ?_;cases h;obtain rfl:=(m1 _ rfl);have h:=bO c1;cases h;exact aZ Z
      ·refine zo g6 h fun h=>yL Z (gd g6 Z) (zm Z Z)<|yL Z (gd g6 Z) (zm Z Z)<|zb h fun y4 j4 h=>yL Z (gd g6 Z) (zx Z Z Z cw j4 Z)<|yL Z (gd g6 Z) (aa.fieldAddrC Z Z fK Z)<|yL Z (gd g6 Z) (bR Z Z Z aW Z Z)<|yL Z (gd g6 Z) (zA Z Z fK)<|yL Z (gd g6 Z) (zD Z Z Z aW Z Z)<|yL Z (gd g6 Z) (an Z Z Z Z)<|yE Z (aT Z (aJ g6 Z) Z)<|LO.nil<|zT ?_;refine zX Z (fun g7=>?_)<|fun g7=>?_
       ·refine zi g7 h fun h=>qR<|mN Z<|LW.ret<|ak<|ae<|ae<|ak<|ae<|ae ?_;cases h;obtain rfl:=(m1 _ rfl);have h:=bO c1;cases h;exact aZ Z
       ·refine zo g7 h fun h=>zk<|af<|zT<|zR<|zM Z<|yS Z (an Z Z Z Z)<|mN Z ?_;cases h;exact⟨_,rfl,av 0 ⟨Z,Z,Z,Z,t_⟩⟩
  ·refine zo g1 h fun h=>zq<|ai<|ai<|zy<|zT ?_;cases h;obtain rfl:=(m1 _ rfl);exact⟨_,rfl,av 0 ⟨Z,t_⟩⟩
 ·obtain rfl:=f1;have h:=cR c1;clear p1;refine zT<|LW.weak u1<|qR<|mN Z<|zr ?_;cases h;exact aZ Z
structure oI where
 i:Int
 id:ID
 out:List ID
def rh (l:List Bk)(v1:(List ID))(x1:oI):Option (oI⊕oI):=bif decide (x1.i>=0)then (ix l x1.i).bind fun y1=>bif bJ x1.out.length [y1.Parent].length 16 then (Cr v1 y1.Parent).bind fun v6=>some (.inl (oI.mk v6 y1.Parent (x1.out++[y1.Parent])))else none else some (.inr (oI.mk x1.i x1.id x1.out))
def L2 (l:List Bk)(id:ID):Option (List ID):=(JC l).bind fun v1=>(L9 l v1).bind fun v2=>(Cr v1 id).bind fun v3=>(bif !v2 then some (.inr [])else bif decide (v3<0)then bif !((id.1==0)&&((id.2==0)&&true))then some (.inr [])else some (.inl ())else some (.inl ())).bind fun b_v4=>Sum.elim (fun _=>(iter (rh l v1) aY (oI.mk v3 id [id])).bind fun v5=>some v5.out) some b_v4
theorem Qq {l:List Bk}{id:ID}{r_:(List ID)}(h:L2 l id=some r_):aq prog 136 [.slice 5 (l.map aA),aX id] [.slice 2 (r_.map aX)]:=by
 refine zh Tryz.func136 Z Z Z Z ?_;unfold L2 at h;refine qR<|yS Z (bx Z Z Z Z Z)<|mN Z<|qR<|zM Z<|zb h fun v1 a1 h=>yS Z (yP Z Z Z (Pf a1) dG)<|mN Z<|qR<|zM Z<|zM Z<|zb h fun v2 a2 h=>yS Z (yP Z Z Z (Qx a2) bG)<|mN Z<|qR<|zM Z<|yS Z (zD Z Z Z aF Z Z)<|zb h fun v3 a3 h=>yS Z (yP Z Z Z (Li a3) bG)<|mN Z ?_;obtain⟨w4,p4,b4⟩:=zB h;clear h;refine LW.cutB (b:=w4) (E:=fun v4=>[(0,(kB l)),(3,.ptr 0 0),(4,.zs),(5,.p (.slice 2 (v1.map aX))),(7,(iQ v3))]) (O:=fun v4=>[.box [(uQ id.1),(uQ id.2)]]) ?_<|fun v4 f4=>?_
 ·have h:=p4;refine qR<|zM Z<|yS Z (aa.not Z Z)<|zM Z ?_;refine zc 19 Z (fun g1=>?_)<|fun g1=>?_
  ·refine zi g1 h fun h=>yU Z (gd g1 Z) Z<|yU Z (gd g1 Z) Z<|yU Z (gd g1 Z) Z<|zY Z Z Z Z Z<|zY Z Z Z Z Z<|zY Z Z Z Z Z<|yU Z (gd g1 Z) Z<|yS Z (bv Z (aJ g1 Z) Z)<|nT<|LW.condT Z<|qR<|mN Z<|zr<|ae ?_;cases h;have h:=bO b4;cases h;exact zf (.one (.tmp Z)) Conv.zs
  ·refine zo g1 h fun h=>yV Z (gd g1 Z) (zm Z Z)<|yV Z (gd g1 Z) (an Z Z Z Z)<|yV Z (gd g1 Z) (zm Z Z) ?_;refine zc 22 Z (fun g2=>?_)<|fun g2=>?_
   ·refine zi g2 h fun h=>yV Z (gd g2 Z) (zD Z Z Z aF Z Z)<|yV Z (gd g2 Z) (aa.build Z ng Z Z Z)<|yV Z (gd g2 Z) (aa.neqAgg Z Z Z Z Z gV)<|yV Z (gd g1 Z) (bv Z (aJ g2 Z) Z)<|yS Z (aT Z (aJ g1 Z) Z)<|nT ?_;refine zX Z (fun g3=>?_)<|fun g3=>?_
    ·refine zi g3 h fun h=>qR<|mN Z<|LW.ret<|ae ?_;cases h;have h:=bO b4;cases h;exact zf (.one (.tmp Z)) Conv.zs
    ·refine zo g3 h fun h=>zk<|zT ?_;cases h;exact⟨_,rfl,av 1 ⟨Z,Z,Z,Z,Z,t_⟩⟩
   ·refine zo g2 h fun h=>yU Z (gd g2 Z) Z<|yU Z (gd g2 Z) Z<|yU Z (gd g2 Z) Z<|yV Z (gd g1 Z) (aT Z (aJ g2 Z) Z)<|yS Z (aT Z (aJ g1 Z) Z)<|nT<|LW.condF Z<|zk<|zT ?_;cases h;exact⟨_,rfl,av 1 ⟨Z,Z,Z,Z,Z,t_⟩⟩
 ·obtain rfl:=f4;have h:=cR b4;clear p4;refine qR<|yS Z (zD Z Z Z aF Z Z)<|yS Z (aa.buildSliceV aX [id] rfl fH Z Z Z Z Z Z Z Z Z)<|mN Z ?_;obtain⟨v5,p5,b5⟩:=zB h;clear h;refine LW.cut (E:=[(4,.zs),(8,.vec 2 1 (v5.out.map aX).length 0 (v5.out.map aX).length)]) (O:=[.box [(uQ v5.id.1),(uQ v5.id.2)],.vec 2 (v5.out.map aX)]) ?_ ?_
  ·refine LW.block ?_;refine LW.iterB (E:=fun x1:oI=>[(0,(kB l)),(3,.ptr 0 0),(4,.zs),(5,.p (.slice 2 (v1.map aX))),(7,(iQ x1.i)),(8,.vec 2 1 (x1.out.map aX).length 0 (x1.out.map aX).length)]) (O:=fun x1=>[.box [(uQ x1.id.1),(uQ x1.id.2)],.vec 2 (x1.out.map aX)]) p5 (av 2 ⟨Z,Z,Z,Z,Z,Z,t_⟩)<|fun x1 z1 h m1=>?_;unfold rh at h;refine zQ<|qR<|zM Z<|yS Z (an Z Z Z Z)<|nT ?_;refine zX Z (fun g4=>?_)<|fun g4=>?_
   ·refine zi g4 h fun h=>zk<|zT<|zl<|qR<|zM Z<|zM Z<|zb h fun y1 j1 h=>yS Z (zx Z Z Z cw j1 Z)<|yS Z (aa.fieldAddrC Z Z gt Z)<|yS Z (bR Z Z Z aF Z Z)<|yS Z (zs Z Z Z Z aF Z Z Z Z)<|nT<|qR<|zM Z<|yS Z (zD Z Z Z aF Z Z)<|yS Z (gR Z fH Z Z Z Z Z)<|zg h fun q1 h=>yS Z (aa.appendX aX x1.out [y1.Parent] rfl Z Z Z iy.p Z fH q1 Z)<|mN Z<|zR<|zM Z<|yS Z (zD Z Z Z aF Z Z)<|zb h fun v6 a6 h=>yS Z (yP Z Z Z (Li a6) bG)<|zM Z<|zN<|af<|zT ?_;cases h;exact⟨_,rfl,av 2 ⟨Z,Z,Z,Z,Z,Z,t_⟩⟩
   ·refine zo g4 h fun h=>zq<|ai<|ai<|zy<|zT ?_;cases h;obtain rfl:=(m1 _ rfl);exact av 2 ⟨Z,Z,t_⟩
  ·have h:=b5;clear p5;refine qR<|zM Z<|mN Z<|zr ?_;cases h;exact zf (.one (.tmp Z))<|(Conv.vecAll Z Z Z)
def KB (l:List Bk)(low:ID)(id:ID):Option Bool:=(L2 l id).bind fun v1=>(Cr v1 low).bind fun v2=>some (decide (v2>=0))
theorem P1 {l:List Bk}{low:ID}{id:ID}{r_:Bool}(h:KB l low id=some r_):aq prog 138 [.slice 5 (l.map aA),aX low,aX id] [.bool r_]:=by
 refine zh Tryz.func138 Z Z Z Z ?_;unfold KB at h;refine qR<|yS Z (bx Z Z Z Z Z)<|yS Z (bx Z Z Z Z Z)<|mN Z<|zQ<|dx<|zH Z<|yE Z (zD Z Z Z aF Z Z)<|zb h fun v1 a1 h=>yE Z (yP Z Z Z (Qq a1) bG)<|yE Z (zD Z Z Z aF Z Z)<|zb h fun v2 a2 h=>yE Z (yP Z Z Z (Li a2) bG)<|yE Z (an Z Z Z Z)<|zH Z<|LO.nil<|zT<|zr ?_;cases h;exact aZ Z
def Mf (c:Cu)(l:List Bk)(head:ID)(found:ID)(v_is:Bool)(slot:Int):Option Cu:=(KB l c.ID head).bind fun v1=>(bif !v1 then some (Cu.mk (0,0) slot (i64.wrap (c.Revoked+1)))else some c).bind fun v2=>(KB l v2.ID found).bind fun v3=>(KB l found head).bind fun v4=>(bif v_is then bif v3 then bif v4 then some (!((v2.ID.1==found.1)&&((v2.ID.2==found.2)&&true)))else some false else some false else some false).bind fun v5=>bif v5 then some (Cu.mk found slot v2.Revoked)else some v2
theorem QG {c:Cu}{l:List Bk}{head:ID}{found:ID}{v_is:Bool}{r_:Cu}(h:Mf c l head found v_is slot=some r_):aq prog 97 [sG c,.slice 5 (l.map aA),aX head,aX found,.bool v_is,.int .i64 slot] [sG r_]:=by
 refine zh Tryz.func97 Z Z Z Z ?_;unfold Mf at h;refine qR<|yS Z (bx Z Z Z Z Z)<|yS Z (bx Z Z Z Z Z)<|yS Z (bx Z Z Z Z Z)<|yS Z (ze Z L0 Z Z)<|nT<|qR<|yS Z (zD Z Z Z gv Z Z)<|yS Z (ze Z L0 Z Z)<|yS Z (zs Z Z Z Z gv Z Z Z Z)<|nT<|qR<|zM Z<|yS Z (zA Z Z mn)<|yS Z (zD Z Z Z aF Z Z)<|yS Z (zD Z Z Z aF Z Z)<|zb h fun v1 a1 h=>yS Z (yP Z Z Z (P1 a1) pA)<|mN Z ?_;obtain⟨v2,p2,q2⟩:=zB h;clear h;refine LW.cut (E:=[(1,(kB l)),(4,(bQ v_is)),(5,(iQ slot)),(8,.ptr 1 0),(9,.ptr 2 0),(12,.ptr 3 0),(13,.ptr 4 0)]) (O:=[.box [(uQ c.ID.1),(uQ c.ID.2),(iQ c.Slot),(iQ c.Revoked)],.box [(uQ head.1),(uQ head.2)],.box [(uQ found.1),(uQ found.2)],.box [(uQ 0),(uQ 0),(iQ 0),(iQ 0)],.box [(uQ v2.ID.1),(uQ v2.ID.2),(iQ v2.Slot),(iQ v2.Revoked)]]) ?_ ?_
 ·have h:=p2;refine qR<|zM Z<|yS Z (aa.not Z Z)<|nT ?_;refine zX Z (fun g1=>?_)<|fun g1=>?_
  ·refine zi g1 h fun h=>qR<|yS Z (aa.build Z ng Z Z Z)<|yS Z (zA Z Z mn)<|yS Z (zs Z Z Z Z aF Z Z Z Z)<|nT<|qR<|zM Z<|yS Z (zA Z Z wM)<|yS Z (zs Z Z Z Z aW Z Z Z Z)<|nT<|zR<|yS Z (zA Z Z Bl)<|yS Z (zD Z Z Z aW Z Z)<|yS Z (an Z Z Z Z)<|yS Z (zA Z Z Bl)<|yS Z (zs Z Z Z Z aW Z Z Z Z)<|nT ?_;cases h;exact av 5 ⟨Z,Z,Z,Z,Z,Z,Z,t_⟩
  ·refine zo g1 h fun h=>zk<|zT ?_;cases h;exact av 5 ⟨Z,Z,Z,Z,Z,Z,Z,t_⟩
 ·have h:=q2;clear p2;refine qR<|zM Z<|yS Z (zA Z Z mn)<|yS Z (zD Z Z Z aF Z Z)<|yS Z (zD Z Z Z aF Z Z)<|zb h fun v3 a3 h=>yS Z (yP Z Z Z (P1 a3) pA)<|mN Z<|qR<|zM Z<|yS Z (zD Z Z Z aF Z Z)<|yS Z (zD Z Z Z aF Z Z)<|zb h fun v4 a4 h=>yS Z (yP Z Z Z (P1 a4) pA)<|mN Z<|zQ ?_;obtain⟨v5,p5,q5⟩:=zB h;clear h;refine LW.cut (E:=[(5,(iQ slot)),(9,.ptr 2 0),(12,.ptr 3 0),(13,.ptr 4 0),(54,(bQ v5))]) (O:=[.box [(uQ c.ID.1),(uQ c.ID.2),(iQ c.Slot),(iQ c.Revoked)],.box [(uQ head.1),(uQ head.2)],.box [(uQ found.1),(uQ found.2)],.box [(uQ 0),(uQ 0),(iQ 0),(iQ 0)],.box [(uQ v2.ID.1),(uQ v2.ID.2),(iQ v2.Slot),(iQ v2.Revoked)]]) ?_ ?_
  ·have h:=p5;refine zR<|zM Z<|zM Z ?_;refine zc 43 Z (fun g2=>?_)<|fun g2=>?_
   ·refine zi g2 h fun h=>yV Z (gd g2 Z) (zm Z Z)<|yS Z (bv Z (aJ g2 Z) Z)<|zM Z ?_;refine zc 46 Z (fun g3=>?_)<|fun g3=>?_
    ·refine zi g3 h fun h=>yV Z (gd g3 Z) (zm Z Z)<|yS Z (bv Z (aJ g3 Z) Z)<|zM Z ?_;refine zc 49 Z (fun g4=>?_)<|fun g4=>?_
     ·refine zi g4 h fun h=>yV Z (gd g4 Z) (zA Z Z mn)<|yV Z (gd g4 Z) (zD Z Z Z aF Z Z)<|yV Z (gd g4 Z) (zD Z Z Z aF Z Z)<|yV Z (gd g4 Z) (aa.neqAgg Z Z Z Z Z gV)<|yS Z (bv Z (aJ g4 Z) Z)<|nT ?_;cases h;exact av 5 ⟨Z,Z,Z,Z,Z,t_⟩
     ·refine zo g4 h fun h=>yU Z (gd g4 Z) Z<|yU Z (gd g4 Z) Z<|yU Z (gd g4 Z) Z<|yU Z (gd g4 Z) Z<|yS Z (aT Z (aJ g4 Z) Z)<|nT ?_;cases h;exact av 5 ⟨Z,Z,Z,Z,Z,t_⟩
    ·refine zo g3 h fun h=>yU Z (gd g3 Z) Z<|yS Z (aT Z (aJ g3 Z) Z)<|zM Z<|aw Z<|aw Z<|aw Z<|aw Z<|yS Z (aT Z Z Z)<|nT ?_;cases h;exact av 5 ⟨Z,Z,Z,Z,Z,t_⟩
   ·refine zo g2 h fun h=>yU Z (gd g2 Z) Z<|yS Z (aT Z (aJ g2 Z) Z)<|zM Z<|aw Z<|yS Z (aT Z Z Z)<|zM Z<|aw Z<|aw Z<|aw Z<|aw Z<|yS Z (aT Z Z Z)<|nT ?_;cases h;exact av 5 ⟨Z,Z,Z,Z,Z,t_⟩
  ·have h:=q5;clear p5;refine zX Z (fun g5=>?_)<|fun g5=>?_
   ·refine zi g5 h fun h=>qR<|yS Z (zD Z Z Z aF Z Z)<|yS Z (zA Z Z mn)<|yS Z (zs Z Z Z Z aF Z Z Z Z)<|nT<|zR<|zM Z<|yS Z (zA Z Z wM)<|yS Z (zs Z Z Z Z aW Z Z Z Z)<|nT<|qR<|yS Z (zD Z Z Z gv Z Z)<|yS Z (zs Z Z Z Z gv Z Z Z Z)<|nT<|zr ?_;cases h;exact zf (.one (er Z Z)) zv
   ·refine zo g5 h fun h=>zk<|zT<|qR<|yS Z (zD Z Z Z gv Z Z)<|yS Z (zs Z Z Z Z gv Z Z Z Z)<|nT<|zr ?_;cases h;exact zf (.one (er Z Z)) zv
structure ke where
 m:Int
 i:Int
def pH (x:List Int)(x1:ke):Option (ke⊕ke):=bif decide (x1.i<(x.length:Int))then (ix x x1.i).bind fun y2=>some (.inl (ke.mk (if y2<x1.m then y2 else x1.m) (i64.wrap (x1.i+1))))else some (.inr (ke.mk x1.m x1.i))
def ER (x:List Int):Option Int:=bif decide ((x.length:Int)<1)then none else (ix x 0).bind fun y1=>(iter (pH x) aY (ke.mk y1 1)).bind fun v1=>some v1.m
theorem Pv {x:List Int}(h:ER x=some r_):aq prog 73 [.slice 1 (x.map bh)] [.int .i64 r_]:=by
 refine zh Tryz.func73 Z Z Z Z ?_;unfold ER at h;refine qR<|mN Z<|zQ<|qR<|zM Z<|yS Z (ck Z Z)<|yS Z (an Z Z Z Z)<|nT ?_;refine zX Z (fun g1=>?_)<|fun g1=>?_
 ·have h:=zI g1 h;cases h
 ·refine zo g1 h fun h=>zk<|zT<|qR<|zM Z<|zb h fun y1 j1 h=>yS Z (zx Z Z Z dL j1 Z)<|yS Z (bR Z Z Z aW Z Z)<|mN Z<|zQ<|qR<|mN Z ?_;obtain⟨v1,p1,q1⟩:=zB h;clear h;refine LW.tail (E:=[(2,(iQ 0)),(3,(iQ v1.m))]) (O:=[]) ?_<|fun e1 K1 u1=>?_
  ·refine LW.block ?_;refine LW.iterB (E:=fun x1:ke=>[(0,(kI x)),(2,(iQ 0)),(3,(iQ x1.m)),(4,(iQ x1.i))]) (O:=fun x1=>[]) p1 (av 0 ⟨Z,Z,Z,Z,t_⟩)<|fun x1 z1 h m1=>?_;unfold pH at h;refine zQ<|qR<|zM Z<|zM Z<|yS Z (ck Z Z)<|yS Z (an Z Z Z Z)<|nT ?_;refine zX Z (fun g2=>?_)<|fun g2=>?_
   ·refine zi g2 h fun h=>zk<|zT<|zQ<|zl<|zR<|zM Z<|zM Z<|zM Z<|zb h fun y2 j2 h=>yS Z (zx Z Z Z dL j2 Z)<|yS Z (bR Z Z Z aW Z Z)<|yS Z (aa.min Z Z Z)<|zM Z<|zN<|af<|zT<|zR<|zM Z<|yS Z (an Z Z Z Z)<|mN Z ?_;cases h;exact⟨_,rfl,av 0 ⟨Z,Z,Z,Z,t_⟩⟩
   ·refine zo g2 h fun h=>zq<|ai<|ai<|zy<|zT ?_;cases h;obtain rfl:=(m1 _ rfl);exact av 0 ⟨Z,Z,t_⟩
  ·have h:=q1;clear p1;refine zT<|LW.weak u1<|qR<|zM Z<|mN Z<|zr ?_;cases h;exact aZ Z
structure kf where
 m:Int
 i:Int
def pI (x:List Int)(x1:kf):Option (kf⊕kf):=bif decide (x1.i<(x.length:Int))then (ix x x1.i).bind fun y2=>some (.inl (kf.mk (if y2>x1.m then y2 else x1.m) (i64.wrap (x1.i+1))))else some (.inr (kf.mk x1.m x1.i))
def ES (x:List Int):Option Int:=bif decide ((x.length:Int)<1)then none else (ix x 0).bind fun y1=>(iter (pI x) aY (kf.mk y1 1)).bind fun v1=>some v1.m
theorem Pw {x:List Int}(h:ES x=some r_):aq prog 74 [.slice 1 (x.map bh)] [.int .i64 r_]:=by
 refine zh Tryz.func74 Z Z Z Z ?_;unfold ES at h;refine qR<|mN Z<|zQ<|qR<|zM Z<|yS Z (ck Z Z)<|yS Z (an Z Z Z Z)<|nT ?_;refine zX Z (fun g1=>?_)<|fun g1=>?_
 ·have h:=zI g1 h;cases h
 ·refine zo g1 h fun h=>zk<|zT<|qR<|zM Z<|zb h fun y1 j1 h=>yS Z (zx Z Z Z dL j1 Z)<|yS Z (bR Z Z Z aW Z Z)<|mN Z<|zQ<|qR<|mN Z ?_;obtain⟨v1,p1,q1⟩:=zB h;clear h;refine LW.tail (E:=[(2,(iQ 0)),(3,(iQ v1.m))]) (O:=[]) ?_<|fun e1 K1 u1=>?_
  ·refine LW.block ?_;refine LW.iterB (E:=fun x1:kf=>[(0,(kI x)),(2,(iQ 0)),(3,(iQ x1.m)),(4,(iQ x1.i))]) (O:=fun x1=>[]) p1 (av 0 ⟨Z,Z,Z,Z,t_⟩)<|fun x1 z1 h m1=>?_;unfold pI at h;refine zQ<|qR<|zM Z<|zM Z<|yS Z (ck Z Z)<|yS Z (an Z Z Z Z)<|nT ?_;refine zX Z (fun g2=>?_)<|fun g2=>?_
   ·refine zi g2 h fun h=>zk<|zT<|zQ<|zl<|zR<|zM Z<|zM Z<|zM Z<|zb h fun y2 j2 h=>yS Z (zx Z Z Z dL j2 Z)<|yS Z (bR Z Z Z aW Z Z)<|yS Z (aa.max Z Z Z)<|zM Z<|zN<|af<|zT<|zR<|zM Z<|yS Z (an Z Z Z Z)<|mN Z ?_;cases h;exact⟨_,rfl,av 0 ⟨Z,Z,Z,Z,t_⟩⟩
   ·refine zo g2 h fun h=>zq<|ai<|ai<|zy<|zT ?_;cases h;obtain rfl:=(m1 _ rfl);exact av 0 ⟨Z,Z,t_⟩
  ·have h:=q1;clear p1;refine zT<|LW.weak u1<|qR<|zM Z<|mN Z<|zr ?_;cases h;exact aZ Z
def EC (c:Cf):Option Bool:=(bif (c.W.length:Int)==0 then some true else bif decide ((c.W.length:Int)>12)then some true else (ER c.W).bind fun v2=>bif decide (v2<0)then some true else (ES c.W).bind fun v3=>some (decide (v3>1099511627776))).bind fun v1=>bif v1 then some false else bif decide (c.Epoch>0)then bif decide (c.Epoch<=8)then bif decide (c.Num>=0)then bif decide (c.Num<=c.Den)then bif decide (c.Den>0)then some (decide (c.Den<=1000))else some false else some false else some false else some false else some false
theorem Mb {r_:Bool}(h:EC c=some r_):aq prog 36 [gQ c] [.bool r_]:=by
 refine zh Tryz.func36 Z Z Z Z ?_;unfold EC at h;refine qR<|yS Z (bx Z Z Z Z Z)<|mN Z<|zQ ?_;obtain⟨v1,p1,q1⟩:=zB h;clear h;refine LW.cut (E:=[(1,.ptr 0 0),(2,(bQ false)),(24,(bQ v1))]) (O:=[.box (ch c)]) ?_ ?_
 ·have h:=p1;refine zR<|yS Z (zA Z Z d3)<|yS Z (zD Z Z Z dH Z Z)<|yS Z (ck Z Z)<|yS Z (an Z Z Z Z)<|zM Z ?_;refine zc 7 Z (fun g1=>?_)<|fun g1=>?_
  ·refine zi g1 h fun h=>yU Z (gd g1 Z) Z<|yU Z (gd g1 Z) Z<|yU Z (gd g1 Z) Z<|yU Z (gd g1 Z) Z<|yS Z (bv Z (aJ g1 Z) Z)<|zM Z<|aw Z<|aw Z<|aw Z<|aw Z<|yS Z (bv Z Z Z)<|zM Z<|aw Z<|aw Z<|aw Z<|aw Z<|yS Z (bv Z Z Z)<|nT ?_;cases h;exact av 1 ⟨Z,Z,Z,t_⟩
  ·refine zo g1 h fun h=>yV Z (gd g1 Z) (zA Z Z d3)<|yV Z (gd g1 Z) (zD Z Z Z dH Z Z)<|yV Z (gd g1 Z) (ck Z Z)<|yV Z (gd g1 Z) (an Z Z Z Z)<|yS Z (aT Z (aJ g1 Z) Z)<|zM Z ?_;refine zc 13 Z (fun g2=>?_)<|fun g2=>?_
   ·refine zi g2 h fun h=>yU Z (gd g2 Z) Z<|yU Z (gd g2 Z) Z<|yU Z (gd g2 Z) Z<|yU Z (gd g2 Z) Z<|yS Z (bv Z (aJ g2 Z) Z)<|zM Z<|aw Z<|aw Z<|aw Z<|aw Z<|yS Z (bv Z Z Z)<|nT ?_;cases h;exact av 1 ⟨Z,Z,Z,t_⟩
   ·refine zo g2 h fun h=>yV Z (gd g2 Z) (zA Z Z d3)<|yV Z (gd g2 Z) (zD Z Z Z dH Z Z)<|zb h fun v2 a2 h=>yV Z (gd g2 Z) (yP Z Z Z (Pv a2) dG)<|yV Z (gd g2 Z) (an Z Z Z Z)<|yS Z (aT Z (aJ g2 Z) Z)<|zM Z ?_;refine zc 19 Z (fun g3=>?_)<|fun g3=>?_
    ·refine zi g3 h fun h=>yU Z (gd g3 Z) Z<|yU Z (gd g3 Z) Z<|yU Z (gd g3 Z) Z<|yU Z (gd g3 Z) Z<|yS Z (bv Z (aJ g3 Z) Z)<|nT ?_;cases h;exact av 1 ⟨Z,Z,Z,t_⟩
    ·refine zo g3 h fun h=>yV Z (gd g3 Z) (zA Z Z d3)<|yV Z (gd g3 Z) (zD Z Z Z dH Z Z)<|zb h fun v3 a3 h=>yV Z (gd g3 Z) (yP Z Z Z (Pw a3) dG)<|yV Z (gd g3 Z) (an Z Z Z Z)<|yS Z (aT Z (aJ g3 Z) Z)<|nT ?_;cases h;exact av 1 ⟨Z,Z,Z,t_⟩
 ·have h:=q1;clear p1;refine zX Z (fun g4=>?_)<|fun g4=>?_
  ·refine zi g4 h fun h=>qR<|mN Z<|LW.ret<|ae ?_;cases h;exact aZ Z
  ·refine zo g4 h fun h=>zk<|zT<|qR<|yS Z (zA Z Z kK)<|yS Z (zD Z Z Z aW Z Z)<|yS Z (an Z Z Z Z)<|zM Z ?_;refine zc 28 Z (fun g5=>?_)<|fun g5=>?_
   ·refine zi g5 h fun h=>yV Z (gd g5 Z) (zA Z Z kK)<|yV Z (gd g5 Z) (zD Z Z Z aW Z Z)<|yV Z (gd g5 Z) (an Z Z Z Z)<|yS Z (bv Z (aJ g5 Z) Z)<|zM Z ?_;refine zc 33 Z (fun g6=>?_)<|fun g6=>?_
    ·refine zi g6 h fun h=>yV Z (gd g6 Z) (zA Z Z rE)<|yV Z (gd g6 Z) (zD Z Z Z aW Z Z)<|yV Z (gd g6 Z) (an Z Z Z Z)<|yS Z (bv Z (aJ g6 Z) Z)<|zM Z ?_;refine zc 38 Z (fun g7=>?_)<|fun g7=>?_
     ·refine zi g7 h fun h=>yV Z (gd g7 Z) (zA Z Z rE)<|yV Z (gd g7 Z) (zD Z Z Z aW Z Z)<|yV Z (gd g7 Z) (zA Z Z kL)<|yV Z (gd g7 Z) (zD Z Z Z aW Z Z)<|yV Z (gd g7 Z) (an Z Z Z Z)<|yS Z (bv Z (aJ g7 Z) Z)<|zM Z ?_;refine zc 45 Z (fun g8=>?_)<|fun g8=>?_
      ·refine zi g8 h fun h=>yV Z (gd g8 Z) (zA Z Z kL)<|yV Z (gd g8 Z) (zD Z Z Z aW Z Z)<|yV Z (gd g8 Z) (an Z Z Z Z)<|yS Z (bv Z (aJ g8 Z) Z)<|zM Z ?_;refine zc 50 Z (fun g9=>?_)<|fun g9=>?_
       ·refine zi g9 h fun h=>yV Z (gd g9 Z) (zA Z Z kL)<|yV Z (gd g9 Z) (zD Z Z Z aW Z Z)<|yV Z (gd g9 Z) (an Z Z Z Z)<|yS Z (bv Z (aJ g9 Z) Z)<|mN Z<|zr ?_;cases h;exact aZ Z
       ·refine zo g9 h fun h=>yU Z (gd g9 Z) Z<|yU Z (gd g9 Z) Z<|yU Z (gd g9 Z) Z<|yS Z (aT Z (aJ g9 Z) Z)<|mN Z<|zr ?_;cases h;exact aZ Z
      ·refine zo g8 h fun h=>yU Z (gd g8 Z) Z<|yU Z (gd g8 Z) Z<|yU Z (gd g8 Z) Z<|yS Z (aT Z (aJ g8 Z) Z)<|zM Z<|aw Z<|aw Z<|aw Z<|yS Z (aT Z Z Z)<|mN Z<|zr ?_;cases h;exact aZ Z
     ·refine zo g7 h fun h=>yU Z (gd g7 Z) Z<|yU Z (gd g7 Z) Z<|yU Z (gd g7 Z) Z<|yU Z (gd g7 Z) Z<|yU Z (gd g7 Z) Z<|yS Z (aT Z (aJ g7 Z) Z)<|zM Z<|aw Z<|aw Z<|aw Z<|yS Z (aT Z Z Z)<|zM Z<|aw Z<|aw Z<|aw Z<|yS Z (aT Z Z Z)<|mN Z<|zr ?_;cases h;exact aZ Z
    ·refine zo g6 h fun h=>yU Z (gd g6 Z) Z<|yU Z (gd g6 Z) Z<|yU Z (gd g6 Z) Z<|yS Z (aT Z (aJ g6 Z) Z)<|zM Z<|aw Z<|aw Z<|aw Z<|aw Z<|aw Z<|yS Z (aT Z Z Z)<|zM Z<|aw Z<|aw Z<|aw Z<|yS Z (aT Z Z Z)<|zM Z<|aw Z<|aw Z<|aw Z<|yS Z (aT Z Z Z)<|mN Z<|zr ?_;cases h;exact aZ Z
   ·refine zo g5 h fun h=>yU Z (gd g5 Z) Z<|yU Z (gd g5 Z) Z<|yU Z (gd g5 Z) Z<|yS Z (aT Z (aJ g5 Z) Z)<|zM Z<|aw Z<|aw Z<|aw Z<|yS Z (aT Z Z Z)<|zM Z<|aw Z<|aw Z<|aw Z<|aw Z<|aw Z<|yS Z (aT Z Z Z)<|zM Z<|aw Z<|aw Z<|aw Z<|yS Z (aT Z Z Z)<|zM Z<|aw Z<|aw Z<|aw Z<|yS Z (aT Z Z Z)<|mN Z<|zr ?_;cases h;exact aZ Z
def Di (c:Cf)(slot:Int):Option Bool:=(EC c).bind fun v1=>bif v1 then bif decide (slot>0)then some (decide (slot<=1048576))else some false else some false
theorem MM {r_:Bool}(h:Di c slot=some r_):aq prog 127 [gQ c,.int .i64 slot] [.bool r_]:=by
 refine zh Tryz.func127 Z Z Z Z ?_;unfold Di at h;refine qR<|yS Z (bx Z Z Z Z Z)<|mN Z<|qR<|yS Z (zD Z Z Z be Z Z)<|zb h fun v1 a1 h=>yS Z (yP Z Z Z (Mb a1) dG)<|zM Z ?_;refine zc 7 Z (fun g1=>?_)<|fun g1=>?_
 ·refine zi g1 h fun h=>yV Z (gd g1 Z) (zm Z Z)<|yV Z (gd g1 Z) (an Z Z Z Z)<|yS Z (bv Z (aJ g1 Z) Z)<|zM Z ?_;refine zc 11 Z (fun g2=>?_)<|fun g2=>?_
  ·refine zi g2 h fun h=>yV Z (gd g2 Z) (zm Z Z)<|yV Z (gd g2 Z) (an Z Z Z Z)<|yS Z (bv Z (aJ g2 Z) Z)<|mN Z<|zr ?_;cases h;exact aZ Z
  ·refine zo g2 h fun h=>yU Z (gd g2 Z) Z<|yU Z (gd g2 Z) Z<|yS Z (aT Z (aJ g2 Z) Z)<|mN Z<|zr ?_;cases h;exact aZ Z
 ·refine zo g1 h fun h=>yU Z (gd g1 Z) Z<|yU Z (gd g1 Z) Z<|yS Z (aT Z (aJ g1 Z) Z)<|zM Z<|aw Z<|aw Z<|yS Z (aT Z Z Z)<|mN Z<|zr ?_;cases h;exact aZ Z
structure lY where
 t8:Int
def nS (s:List Int)(v:Int)(x1:lY):Option (lY⊕(lY⊕Int)):=bif decide (x1.t8<(s.length:Int))then (ix s x1.t8).bind fun y1=>bif v==y1 then some (.inr (.inr x1.t8))else some (.inl (lY.mk (i64.wrap (x1.t8+1))))else some (.inr (.inl (lY.mk x1.t8)))
def Ir (s:List Int)(v:Int):Option Int:=(iter (nS s v) aY (lY.mk 0)).bind fun b_v1=>Sum.elim (fun _=>some (-1)) some b_v1
theorem PJ {v:Int}(h:Ir s v=some r_):aq prog 123 [.slice 1 (s.map bh),.int .i64 v] [.int .i64 r_]:=by
 refine zh Tryz.func123 Z Z Z Z ?_;unfold Ir at h;refine qR<|mN Z<|zQ<|qR<|zM Z<|yS Z (ck Z Z)<|mN Z ?_;obtain⟨w1,p1,q1⟩:=zB h;clear h;refine LW.tailB (b:=w1) (E:=fun v1=>[(4,(iQ 0))]) (O:=fun v1=>[]) ?_<|fun v1 f1 e1 K1 u1=>?_
 ·refine LW.block ?_;refine LW.iterB (E:=fun x1:lY=>[(0,(kI s)),(1,(iQ v)),(4,(iQ 0)),(7,.p (.int .i64 (s.length:Int))),(8,(iQ x1.t8))]) (O:=fun x1=>[]) p1 (av 0 ⟨Z,Z,Z,Z,Z,t_⟩)<|fun x1 z1 h m1=>?_;unfold nS at h;refine qR<|yS Z (an Z Z Z Z)<|nT<|zQ ?_;refine zX Z (fun g1=>?_)<|fun g1=>?_
  ·refine zi g1 h fun h=>zk<|zT<|zQ<|zl<|qR<|zM Z<|mN Z<|qR<|zM Z<|zM Z<|zM Z<|zb h fun y1 j1 h=>yS Z (zx Z Z Z dL j1 Z)<|yS Z (bR Z Z Z aW Z Z)<|yS Z (an Z Z Z Z)<|nT ?_;refine zX Z (fun g2=>?_)<|fun g2=>?_
   ·refine zi g2 h fun h=>qR<|zM Z<|mN Z<|zr<|ak<|ae<|ae<|ak<|ae<|ae ?_;cases h;obtain rfl:=(m1 _ rfl);have h:=bO q1;cases h;exact aZ Z
   ·refine zo g2 h fun h=>zk<|af<|zT<|zR<|yS Z (an Z Z Z Z)<|mN Z ?_;cases h;exact⟨_,rfl,av 0 ⟨Z,Z,Z,Z,Z,t_⟩⟩
  ·refine zo g1 h fun h=>zq<|ai<|ai<|zy<|zT ?_;cases h;obtain rfl:=(m1 _ rfl);exact⟨_,rfl,av 0 ⟨Z,t_⟩⟩
 ·obtain rfl:=f1;have h:=cR q1;clear p1;refine zT<|LW.weak u1<|qR<|mN Z<|zr ?_;cases h;exact aZ Z
def xn (s:List Int)(v:Int):Option Bool:=(Ir s v).bind fun v1=>some (decide (v1>=0))
theorem IV {v:Int}{r_:Bool}(h:xn s v=some r_):aq prog 69 [.slice 1 (s.map bh),.int .i64 v] [.bool r_]:=by
 refine zh Tryz.func69 Z Z Z Z ?_;unfold xn at h;refine qR<|mN Z<|qR<|zM Z<|zM Z<|zb h fun v1 a1 h=>yS Z (yP Z Z Z (PJ a1) bG)<|yS Z (an Z Z Z Z)<|mN Z<|zr ?_;cases h;exact aZ Z
def Dj (slot:Int):Option Bool:=bif decide (slot>=1)then some (decide (slot<=1048576))else some false
theorem MQ {r_:Bool}(h:Dj slot=some r_):aq prog 119 [.int .i64 slot] [.bool r_]:=by
 refine zh Tryz.func119 Z Z Z Z ?_;unfold Dj at h;refine qR<|mN Z<|qR<|zM Z<|yS Z (an Z Z Z Z)<|zM Z ?_;refine zc 5 Z (fun g1=>?_)<|fun g1=>?_
 ·refine zi g1 h fun h=>yV Z (gd g1 Z) (zm Z Z)<|yV Z (gd g1 Z) (an Z Z Z Z)<|yS Z (bv Z (aJ g1 Z) Z)<|mN Z<|zr ?_;cases h;exact aZ Z
 ·refine zo g1 h fun h=>yU Z (gd g1 Z) Z<|yU Z (gd g1 Z) Z<|yS Z (aT Z (aJ g1 Z) Z)<|mN Z<|zr ?_;cases h;exact aZ Z
structure oL where
 i:Int
def oN (c:Cf)(x1:oL):Option (oL⊕(oL⊕Bool)):=bif decide (x1.i<(c.W.length:Int))then (ix c.W x1.i).bind fun y1=>bif decide (y1<0)then some (.inr (.inr false))else (ix c.W x1.i).bind fun y2=>bif decide (y2>1099511627776)then some (.inr (.inr false))else some (.inl (oL.mk (i64.wrap (x1.i+1))))else some (.inr (.inl (oL.mk x1.i)))
def F0 (c:Cf):Option Bool:=(iter (oN c) aY (oL.mk 0)).bind fun b_v1=>Sum.elim (fun _=>bif decide ((c.W.length:Int)>=1)then bif decide ((c.W.length:Int)<=12)then bif decide (c.Epoch>=1)then bif decide (c.Epoch<=8)then bif decide (c.Num>=0)then bif decide (c.Num<=c.Den)then bif decide (c.Den>=1)then some (decide (c.Den<=1000))else some false else some false else some false else some false else some false else some false else some false) some b_v1
theorem Lf {r_:Bool}(h:F0 c=some r_):aq prog 45 [gQ c] [.bool r_]:=by
 refine zh Tryz.func45 Z Z Z Z ?_;unfold F0 at h;refine qR<|yS Z (bx Z Z Z Z Z)<|mN Z<|qR<|yS Z (zA Z Z d3)<|yS Z (zD Z Z Z dH Z Z)<|yS Z (ck Z Z)<|mN Z<|zQ<|qR<|mN Z ?_;obtain⟨w1,p1,q1⟩:=zB h;clear h;refine LW.tailB (b:=w1) (E:=fun v1=>[(1,.ptr 0 0),(2,(bQ false)),(3,.p (.int .i64 (c.W.length:Int)))]) (O:=fun v1=>[.box (ch c)]) ?_<|fun v1 f1 e1 K1 u1=>?_
 ·refine LW.block ?_;refine LW.iterB (E:=fun x1:oL=>[(1,.ptr 0 0),(2,(bQ false)),(3,.p (.int .i64 (c.W.length:Int))),(4,(iQ x1.i))]) (O:=fun x1=>[.box (ch c)]) p1 (av 1 ⟨Z,Z,Z,Z,t_⟩)<|fun x1 z1 h m1=>?_;unfold oN at h;refine zQ<|qR<|zM Z<|zM Z<|yS Z (an Z Z Z Z)<|nT ?_;refine zX Z (fun g1=>?_)<|fun g1=>?_
  ·refine zi g1 h fun h=>zk<|zT<|zQ<|zl<|qR<|yS Z (zA Z Z d3)<|yS Z (zD Z Z Z dH Z Z)<|zM Z<|zb h fun y1 j1 h=>yS Z (zx Z Z Z dL j1 Z)<|yS Z (bR Z Z Z aW Z Z)<|yS Z (an Z Z Z Z)<|zM Z ?_;refine zc 19 Z (fun g2=>?_)<|fun g2=>?_
   ·refine zi g2 h fun h=>yU Z (gd g2 Z) Z<|yU Z (gd g2 Z) Z<|yU Z (gd g2 Z) Z<|yU Z (gd g2 Z) Z<|yU Z (gd g2 Z) Z<|yU Z (gd g2 Z) Z<|yS Z (bv Z (aJ g2 Z) Z)<|nT<|LW.condT Z<|qR<|mN Z<|zr<|ak<|ae<|ae<|ak<|ae<|ae ?_;cases h;obtain rfl:=(m1 _ rfl);have h:=bO q1;cases h;exact aZ Z
   ·refine zo g2 h fun h=>yV Z (gd g2 Z) (zA Z Z d3)<|yV Z (gd g2 Z) (zD Z Z Z dH Z Z)<|yV Z (gd g2 Z) (zm Z Z)<|zb h fun y2 j2 h=>yV Z (gd g2 Z) (zx Z Z Z dL j2 Z)<|yV Z (gd g2 Z) (bR Z Z Z aW Z Z)<|yV Z (gd g2 Z) (an Z Z Z Z)<|yS Z (aT Z (aJ g2 Z) Z)<|nT ?_;refine zX Z (fun g3=>?_)<|fun g3=>?_
    ·refine zi g3 h fun h=>qR<|mN Z<|LW.ret<|ak<|ae<|ae<|ak<|ae<|ae ?_;cases h;obtain rfl:=(m1 _ rfl);have h:=bO q1;cases h;exact aZ Z
    ·refine zo g3 h fun h=>zk<|af<|zT<|zR<|zM Z<|yS Z (an Z Z Z Z)<|mN Z ?_;cases h;exact⟨_,rfl,av 1 ⟨Z,Z,Z,Z,t_⟩⟩
  ·refine zo g1 h fun h=>zq<|ai<|ai<|zy<|zT ?_;cases h;obtain rfl:=(m1 _ rfl);exact⟨_,rfl,av 1 ⟨Z,Z,Z,t_⟩⟩
 ·obtain rfl:=f1;have h:=cR q1;clear p1;refine zT<|LW.weak u1<|qR<|zM Z<|yS Z (an Z Z Z Z)<|zM Z ?_;refine zc 29 Z (fun g4=>?_)<|fun g4=>?_
  ·refine zi g4 h fun h=>yV Z (gd g4 Z) (zm Z Z)<|yV Z (gd g4 Z) (an Z Z Z Z)<|yS Z (bv Z (aJ g4 Z) Z)<|zM Z ?_;refine zc 33 Z (fun g5=>?_)<|fun g5=>?_
   ·refine zi g5 h fun h=>yV Z (gd g5 Z) (zA Z Z kK)<|yV Z (gd g5 Z) (zD Z Z Z aW Z Z)<|yV Z (gd g5 Z) (an Z Z Z Z)<|yS Z (bv Z (aJ g5 Z) Z)<|zM Z ?_;refine zc 38 Z (fun g6=>?_)<|fun g6=>?_
    ·refine zi g6 h fun h=>yV Z (gd g6 Z) (zA Z Z kK)<|yV Z (gd g6 Z) (zD Z Z Z aW Z Z)<|yV Z (gd g6 Z) (an Z Z Z Z)<|yS Z (bv Z (aJ g6 Z) Z)<|zM Z ?_;refine zc 43 Z (fun g7=>?_)<|fun g7=>?_
     ·refine zi g7 h fun h=>yV Z (gd g7 Z) (zA Z Z rE)<|yV Z (gd g7 Z) (zD Z Z Z aW Z Z)<|yV Z (gd g7 Z) (an Z Z Z Z)<|yS Z (bv Z (aJ g7 Z) Z)<|zM Z ?_;refine zc 48 Z (fun g8=>?_)<|fun g8=>?_
      ·refine zi g8 h fun h=>yV Z (gd g8 Z) (zA Z Z rE)<|yV Z (gd g8 Z) (zD Z Z Z aW Z Z)<|yV Z (gd g8 Z) (zA Z Z kL)<|yV Z (gd g8 Z) (zD Z Z Z aW Z Z)<|yV Z (gd g8 Z) (an Z Z Z Z)<|yS Z (bv Z (aJ g8 Z) Z)<|zM Z ?_;refine zc 55 Z (fun g9=>?_)<|fun g9=>?_
       ·refine zi g9 h fun h=>yV Z (gd g9 Z) (zA Z Z kL)<|yV Z (gd g9 Z) (zD Z Z Z aW Z Z)<|yV Z (gd g9 Z) (an Z Z Z Z)<|yS Z (bv Z (aJ g9 Z) Z)<|zM Z ?_;refine zc 60 Z (fun g10=>?_)<|fun g10=>?_
        ·refine zi g10 h fun h=>yV Z (gd g10 Z) (zA Z Z kL)<|yV Z (gd g10 Z) (zD Z Z Z aW Z Z)<|yV Z (gd g10 Z) (an Z Z Z Z)<|yS Z (bv Z (aJ g10 Z) Z)<|mN Z<|zr ?_;cases h;exact aZ Z
        ·refine zo g10 h fun h=>yU Z (gd g10 Z) Z<|yU Z (gd g10 Z) Z<|yU Z (gd g10 Z) Z<|yS Z (aT Z (aJ g10 Z) Z)<|mN Z<|zr ?_;cases h;exact aZ Z
       ·refine zo g9 h fun h=>yU Z (gd g9 Z) Z<|yU Z (gd g9 Z) Z<|yU Z (gd g9 Z) Z<|yS Z (aT Z (aJ g9 Z) Z)<|zM Z<|aw Z<|aw Z<|aw Z<|yS Z (aT Z Z Z)<|mN Z<|zr ?_;cases h;exact aZ Z
      ·refine zo g8 h fun h=>yU Z (gd g8 Z) Z<|yU Z (gd g8 Z) Z<|yU Z (gd g8 Z) Z<|yU Z (gd g8 Z) Z<|yU Z (gd g8 Z) Z<|yS Z (aT Z (aJ g8 Z) Z)<|zM Z<|aw Z<|aw Z<|aw Z<|yS Z (aT Z Z Z)<|zM Z<|aw Z<|aw Z<|aw Z<|yS Z (aT Z Z Z)<|mN Z<|zr ?_;cases h;exact aZ Z
     ·refine zo g7 h fun h=>yU Z (gd g7 Z) Z<|yU Z (gd g7 Z) Z<|yU Z (gd g7 Z) Z<|yS Z (aT Z (aJ g7 Z) Z)<|zM Z<|aw Z<|aw Z<|aw Z<|aw Z<|aw Z<|yS Z (aT Z Z Z)<|zM Z<|aw Z<|aw Z<|aw Z<|yS Z (aT Z Z Z)<|zM Z<|aw Z<|aw Z<|aw Z<|yS Z (aT Z Z Z)<|mN Z<|zr ?_;cases h;exact aZ Z
    ·refine zo g6 h fun h=>yU Z (gd g6 Z) Z<|yU Z (gd g6 Z) Z<|yU Z (gd g6 Z) Z<|yS Z (aT Z (aJ g6 Z) Z)<|zM Z<|aw Z<|aw Z<|aw Z<|yS Z (aT Z Z Z)<|zM Z<|aw Z<|aw Z<|aw Z<|aw Z<|aw Z<|yS Z (aT Z Z Z)<|zM Z<|aw Z<|aw Z<|aw Z<|yS Z (aT Z Z Z)<|zM Z<|aw Z<|aw Z<|aw Z<|yS Z (aT Z Z Z)<|mN Z<|zr ?_;cases h;exact aZ Z
   ·refine zo g5 h fun h=>yU Z (gd g5 Z) Z<|yU Z (gd g5 Z) Z<|yU Z (gd g5 Z) Z<|yS Z (aT Z (aJ g5 Z) Z)<|zM Z<|aw Z<|aw Z<|aw Z<|yS Z (aT Z Z Z)<|zM Z<|aw Z<|aw Z<|aw Z<|yS Z (aT Z Z Z)<|zM Z<|aw Z<|aw Z<|aw Z<|aw Z<|aw Z<|yS Z (aT Z Z Z)<|zM Z<|aw Z<|aw Z<|aw Z<|yS Z (aT Z Z Z)<|zM Z<|aw Z<|aw Z<|aw Z<|yS Z (aT Z Z Z)<|mN Z<|zr ?_;cases h;exact aZ Z
  ·refine zo g4 h fun h=>yU Z (gd g4 Z) Z<|yU Z (gd g4 Z) Z<|yS Z (aT Z (aJ g4 Z) Z)<|zM Z<|aw Z<|aw Z<|aw Z<|yS Z (aT Z Z Z)<|zM Z<|aw Z<|aw Z<|aw Z<|yS Z (aT Z Z Z)<|zM Z<|aw Z<|aw Z<|aw Z<|yS Z (aT Z Z Z)<|zM Z<|aw Z<|aw Z<|aw Z<|aw Z<|aw Z<|yS Z (aT Z Z Z)<|zM Z<|aw Z<|aw Z<|aw Z<|yS Z (aT Z Z Z)<|zM Z<|aw Z<|aw Z<|aw Z<|yS Z (aT Z Z Z)<|mN Z<|zr ?_;cases h;exact aZ Z
structure oP where
 i:Int
def rj (l:List Int)(n:Int)(x1:oP):Option (oP⊕(oP⊕Bool)):=bif decide (x1.i<(l.length:Int))then (ix l x1.i).bind fun y1=>bif y1==n then some (.inr (.inr true))else some (.inl (oP.mk (i64.wrap (x1.i+1))))else some (.inr (.inl (oP.mk x1.i)))
def F5 (l:List Int)(n:Int):Option Bool:=(iter (rj l n) aY (oP.mk 0)).bind fun b_v1=>Sum.elim (fun _=>some false) some b_v1
theorem Lg {l:List Int}{n:Int}{r_:Bool}(h:F5 l n=some r_):aq prog 66 [.slice 1 (l.map bh),.int .i64 n] [.bool r_]:=by
 refine zh Tryz.func66 Z Z Z Z ?_;unfold F5 at h;refine qR<|mN Z<|zQ<|qR<|mN Z ?_;obtain⟨w1,p1,q1⟩:=zB h;clear h;refine LW.tailB (b:=w1) (E:=fun v1=>[(4,(bQ false))]) (O:=fun v1=>[]) ?_<|fun v1 f1 e1 K1 u1=>?_
 ·refine LW.block ?_;refine LW.iterB (E:=fun x1:oP=>[(0,(kI l)),(1,(iQ n)),(4,(bQ false)),(5,(iQ x1.i))]) (O:=fun x1=>[]) p1 (av 0 ⟨Z,Z,Z,Z,t_⟩)<|fun x1 z1 h m1=>?_;unfold rj at h;refine zQ<|qR<|zM Z<|zM Z<|yS Z (ck Z Z)<|yS Z (an Z Z Z Z)<|nT ?_;refine zX Z (fun g1=>?_)<|fun g1=>?_
  ·refine zi g1 h fun h=>zk<|zT<|zQ<|zl<|qR<|zM Z<|zM Z<|zb h fun y1 j1 h=>yS Z (zx Z Z Z dL j1 Z)<|yS Z (bR Z Z Z aW Z Z)<|zM Z<|yS Z (an Z Z Z Z)<|nT ?_;refine zX Z (fun g2=>?_)<|fun g2=>?_
   ·refine zi g2 h fun h=>qR<|mN Z<|LW.ret<|ak<|ae<|ae<|ak<|ae<|ae ?_;cases h;obtain rfl:=(m1 _ rfl);have h:=bO q1;cases h;exact aZ Z
   ·refine zo g2 h fun h=>zk<|af<|zT<|zR<|zM Z<|yS Z (an Z Z Z Z)<|mN Z ?_;cases h;exact⟨_,rfl,av 0 ⟨Z,Z,Z,Z,t_⟩⟩
  ·refine zo g1 h fun h=>zq<|ai<|ai<|zy<|zT ?_;cases h;obtain rfl:=(m1 _ rfl);exact⟨_,rfl,av 0 ⟨Z,t_⟩⟩
 ·obtain rfl:=f1;have h:=cR q1;clear p1;refine zT<|LW.weak u1<|qR<|mN Z<|zr ?_;cases h;exact aZ Z
structure mY where
 n:Int
 i:Int
def oO (c:Cf)(l:List Int)(v1:Bool)(x1:mY):Option (mY⊕mY):=(bif decide (x1.i<(c.W.length:Int))then some v1 else some false).bind fun v3=>bif v3 then (F5 l x1.i).bind fun v4=>bif v4 then (ix c.W x1.i).bind fun y1=>some (.inl (mY.mk (i64.wrap (x1.n+y1)) (i64.wrap (x1.i+1))))else some (.inl (mY.mk x1.n (i64.wrap (x1.i+1))))else some (.inr (mY.mk x1.n x1.i))
def L6 (c:Cf)(l:List Int):Option Int:=(F0 c).bind fun v1=>(iter (oO c l v1) aY (mY.mk 0 0)).bind fun v2=>some v2.n
theorem Qu {l:List Int}(h:L6 c l=some r_):aq prog 175 [gQ c,.slice 1 (l.map bh)] [.int .i64 r_]:=by
 refine zh Tryz.func175 Z Z Z Z ?_;unfold L6 at h;refine qR<|yS Z (bx Z Z Z Z Z)<|mN Z<|qR<|mN Z<|qR<|yS Z (zD Z Z Z be Z Z)<|zb h fun v1 a1 h=>yS Z (yP Z Z Z (Lf a1) dG)<|mN Z<|zQ<|qR<|mN Z ?_;obtain⟨v2,p2,q2⟩:=zB h;clear h;refine LW.tail (E:=[(4,(iQ 0)),(5,(iQ v2.n))]) (O:=[.box (ch c)]) ?_<|fun e2 K2 u2=>?_
 ·refine LW.block ?_;refine LW.iterB (E:=fun x1:mY=>[(1,(kI l)),(2,.ptr 0 0),(4,(iQ 0)),(5,(iQ x1.n)),(6,(bQ v1)),(7,(iQ x1.i))]) (O:=fun x1=>[.box (ch c)]) p2 (av 1 ⟨Z,Z,Z,Z,Z,Z,t_⟩)<|fun x1 z1 h m1=>?_;unfold oO at h;refine zQ ?_;obtain⟨v3,p3,q3⟩:=zB h;clear h;refine LW.cut (E:=[(1,(kI l)),(2,.ptr 0 0),(4,(iQ 0)),(5,(iQ x1.n)),(6,(bQ v1)),(7,(iQ x1.i)),(18,(bQ v3))]) (O:=[.box (ch c)]) ?_ ?_
  ·have h:=p3;refine zR<|zM Z<|yS Z (zA Z Z d3)<|yS Z (zD Z Z Z dH Z Z)<|yS Z (ck Z Z)<|yS Z (an Z Z Z Z)<|zM Z ?_;refine zc 16 Z (fun g1=>?_)<|fun g1=>?_
   ·refine zi g1 h fun h=>yV Z (gd g1 Z) (zm Z Z)<|yS Z (bv Z (aJ g1 Z) Z)<|nT ?_;cases h;exact av 1 ⟨Z,Z,Z,Z,Z,Z,Z,t_⟩
   ·refine zo g1 h fun h=>yU Z (gd g1 Z) Z<|yS Z (aT Z (aJ g1 Z) Z)<|nT ?_;cases h;exact av 1 ⟨Z,Z,Z,Z,Z,Z,Z,t_⟩
  ·have h:=q3;clear p3;refine zX Z (fun g2=>?_)<|fun g2=>?_
   ·refine zi g2 h fun h=>zk<|zT<|zQ<|zl<|qR<|zM Z<|zM Z<|zb h fun v4 a4 h=>yS Z (yP Z Z Z (Lg a4) bG)<|mN Z<|qR<|mN Z ?_;refine zX Z (fun g3=>?_)<|fun g3=>?_
    ·refine zi g3 h fun h=>zR<|zM Z<|yS Z (zA Z Z d3)<|yS Z (zD Z Z Z dH Z Z)<|zM Z<|zb h fun y1 j1 h=>yS Z (zx Z Z Z dL j1 Z)<|yS Z (bR Z Z Z aW Z Z)<|yS Z (an Z Z Z Z)<|zM Z<|zN<|af<|zT<|zR<|zM Z<|yS Z (an Z Z Z Z)<|mN Z ?_;cases h;exact⟨_,rfl,av 1 ⟨Z,Z,Z,Z,Z,Z,t_⟩⟩
    ·refine zo g3 h fun h=>zk<|af<|zT<|zR<|zM Z<|yS Z (an Z Z Z Z)<|mN Z ?_;cases h;exact⟨_,rfl,av 1 ⟨Z,Z,Z,Z,Z,Z,t_⟩⟩
   ·refine zo g2 h fun h=>zq<|ai<|ai<|zy<|zT ?_;cases h;obtain rfl:=(m1 _ rfl);exact av 1 ⟨Z,Z,t_⟩
 ·have h:=q2;clear p2;refine zT<|LW.weak u2<|qR<|zM Z<|mN Z<|zr ?_;cases h;exact aZ Z
theorem uo :∀H:List ab,dq H=some H.length
 |[]=>rfl
 |_::r=>by unfold dq;rw[uo r];rfl
theorem tK :∀(H:List ab) (o:ab),jF H o=some (H++[o])
 |[],_=>rfl
 |_::r,o=>by unfold jF;rw[tK r o];rfl
theorem MP {g:FuncId}{first caps:List LV}{H:List ab}:LC prog 160 [.p (gQ c),.fn g first caps] H (Is (.fn 199 [] [.cptr [.slice 1 (c.W.map bh),.int .u64 c.Seed,.int .i64 c.Epoch,.int .i64 c.Num,.int .i64 c.Den],.fptr (.fn g first caps)]) H):=by
 refine LC.those Tryz.func160 Z Z Z ?_;refine LW.seq<|LW.region<|ay.st Z Z Z (aa.box Z Z Z (uo _) (tK _ _))<|ay.st Z Z Z (aa.box Z Z Z (uo _) (tK _ _))<|ay.st Z Z Z (aa.assign Z Z)<|ay.nil<|cx<|LW.seq<|LW.region<|ay.st Z Z Z (aa.makeFunc Z Z Z)<|ay.st Z Z Z (aa.assign Z Z)<|ay.nil<|cx<|LW.ret ?_;refine⟨.inr rfl,by simp,?_⟩
 have h:∀n:Nat,n=H.length+1->∀{e:aE} {H2:List ab},e.get 4=some (.fn 199 [] [.ptr H.length 0,.ptr n 0])->ec prog e H2 Tryz.f160.results (.fn 199 [] [.ptr H.length 0,.ptr (H.length+1) 0]):=by
  rintro n rfl e H2 he;exact .one<|.tmp he
 exact h _ (by simp) Z
noncomputable def AG :Code:=Qy f200.body
noncomputable def AI :Code:=Qz f200.body
noncomputable def AH :Code:=Qy f198.body
noncomputable def AJ :Code:=Qz f198.body
def Ic (i:Int)(_:Cf)(m:List (Int×Bool)):Option Bool:=some ((am m i).getD false)
theorem NR {i:Int}{m:List (Int×Bool)}{r_:Bool}(h:Ic i c m=some r_):LC prog 201 [(iQ i),.ptr 2 0] [.box (ch c),.map (ar bh (fun v=>(bQ v)) m),.box [.map 1]] (Is (bQ r_) [.box (ch c),.map (ar bh (fun v=>(bQ v)) m),.box [.map 1]]):=by
 refine eN Tryz.func201 Z Z Z ?_;unfold Ic at h;refine qR<|mN Z<|qR<|yS Z (zD Z Z Z HG Z Z)<|zM Z ?_;refine yS Z (aa.getX (f:=bh) (g:=(fun v=>(bQ v))) i false G2 Z Z Z Z Kf O3 Z Z) ?_;refine mN Z<|LW.ret ?_;cases h;exact aD (.one (.tmp Z))<|⟨rfl,rfl⟩
theorem O1 {m:List (Int×Bool)}{n i y:Int}{o:Oper}{env:aE}(ho:o.op=.call { callee:=.value fo,args:=#[xo],argTypes:=ats})(hf:bf env fo=some (.yld 6))(hx:bf env xo=some (iQ i))(h:ix c.W i=some y) :
  gT prog o env [.box (ch c),.map (ar bh (fun v=>(bQ v)) m),.box [.map 1],.box (ch c),.box [(iQ n)],.defd,.loop false 21 [(2,.ptr 3 0),(4,(iQ 0)),(5,.ptr 4 0),(11,.fn 199 [] [.cptr (qc c),.fptr (.fn 201 [] [.ptr 2 0])])] #[12] AG AI] (Is (bQ true) [.box (ch c),.map (ar bh (fun v=>(bQ v)) m),.box [.map 1],.box (ch c),.box [.p (.int .i64 (i64.wrap (n+y)))],.defd,.loop false 21 [(2,.ptr 3 0),(4,(iQ 0)),(5,.ptr 4 0),(11,.fn 199 [] [.cptr (qc c),.fptr (.fn 201 [] [.ptr 2 0])])] #[12] AG AI]):=by
 refine gT.yield (env2:=(6,(iQ i))::(12,(iQ i))::[(2,.ptr 3 0),(4,(iQ 0)),(5,.ptr 4 0),(11,.fn 199 [] [.cptr (qc c),.fptr (.fn 201 [] [.ptr 2 0])])]) (H2:=[.box (ch c),.map (ar bh (fun v=>(bQ v)) m),.box [.map 1],.box (ch c),.box [.p (.int .i64 (i64.wrap (n+y)))],.defd,.loop true 21 [(2,.ptr 3 0),(4,(iQ 0)),(5,.ptr 4 0),(11,.fn 199 [] [.cptr (qc c),.fptr (.fn 201 [] [.ptr 2 0])])] #[12] AG AI]) ho hf hx Z Z (by kernel_rfl) (by kernel_rfl) Z (vv.plain ?_) ?_ Z Z
 ·refine yS Z (za Z Z) ?_;exact zN ⟨rfl,rfl,rfl⟩
 ·refine vv.drawLast (m:=7) (by kernel_rfl) (by kernel_rfl) (by kernel_rfl) ?_;exact yE Z (zD Z Z Z aW Z Z)<|yE Z (zA Z Z d3)<|yE Z (zD Z Z Z dH Z Z)<|zH Z<|yE Z (zx Z Z Z dL h Z)<|yE Z (bR Z Z Z aW Z Z)<|yE Z (an Z Z Z Z)<|LO.nil<|yS Z (zs Z Z Z Z aW Z Z Z Z)<|zN<|⟨rfl,rfl⟩
structure iD where
 t8:Int
 o4_0:Int
def mU (c:Cf)(m:List (Int×Bool))(x1:iD):Option (iD⊕iD):=bif decide (x1.t8<(c.W.length:Int))then (Ic x1.t8 c m).bind fun v2=>bif v2 then (ix c.W x1.t8).bind fun y1=>some (.inl (iD.mk (i64.wrap (x1.t8+1)) (i64.wrap (x1.o4_0+y1))))else some (.inl (iD.mk (i64.wrap (x1.t8+1)) x1.o4_0))else some (.inr (iD.mk x1.t8 x1.o4_0))
def xt (c:Cf)(m:List (Int×Bool))(n:Int):Option Int:=(iter (mU c m) aY (iD.mk 0 n)).bind fun v1=>some v1.o4_0
theorem Lo {m:List (Int×Bool)}{n:Int}(h:xt c m n=some r_):LC prog 199 [.yld 6,.cptr (qc c),.fptr (.fn 201 [] [.ptr 2 0])] [.box (ch c),.map (ar bh (fun v=>(bQ v)) m),.box [.map 1],.box (ch c),.box [(iQ n)],.defd,.loop false 21 [(2,.ptr 3 0),(4,(iQ 0)),(5,.ptr 4 0),(11,.fn 199 [] [.cptr (qc c),.fptr (.fn 201 [] [.ptr 2 0])])] #[12] AG AI] (Is (.tup []) [.box (ch c),.map (ar bh (fun v=>(bQ v)) m),.box [.map 1],.box (ch c),.box [(iQ r_)],.defd,.loop false 21 [(2,.ptr 3 0),(4,(iQ 0)),(5,.ptr 4 0),(11,.fn 199 [] [.cptr (qc c),.fptr (.fn 201 [] [.ptr 2 0])])] #[12] AG AI]):=by
 refine eN Tryz.func199 Z Z Z ?_;unfold xt at h;refine qR<|yS Z (aa.fieldAddrC Z Z d3 Z)<|yS Z (bR Z Z Z dH Z Z)<|yS Z (ck Z Z)<|mN Z ?_;obtain⟨v1,p1,q1⟩:=zB h;clear h;refine LW.tail (E:=[]) (O:=[.box (ch c),.map (ar bh (fun v=>(bQ v)) m),.box [.map 1],.box (ch c),.box [(iQ v1.o4_0)],.defd,.loop false 21 [(2,.ptr 3 0),(4,(iQ 0)),(5,.ptr 4 0),(11,.fn 199 [] [.cptr (qc c),.fptr (.fn 201 [] [.ptr 2 0])])] #[12] AG AI]) ?_<|fun e1 K1 u1=>?_
 ·refine LW.block ?_;refine LW.iterB (E:=fun x1:iD=>[(0,.yld 6),(2,.fptr (.fn 201 [] [.ptr 2 0])),(7,.p (.int .i64 (c.W.length:Int))),(8,(iQ x1.t8))]) (O:=fun x1=>[.box (ch c),.map (ar bh (fun v=>(bQ v)) m),.box [.map 1],.box (ch c),.box [(iQ x1.o4_0)],.defd,.loop false 21 [(2,.ptr 3 0),(4,(iQ 0)),(5,.ptr 4 0),(11,.fn 199 [] [.cptr (qc c),.fptr (.fn 201 [] [.ptr 2 0])])] #[12] AG AI]) p1 (zW 7 ⟨Z,Z,Z,Z,t_⟩ Z Z Z (zL Z (zL (aj (fun _=>rfl) _) (cp (zL Z Z)))))<|fun x1 z1 h m1=>?_;unfold mU at h;refine qR<|yS Z (an Z Z Z Z)<|nT<|zQ ?_;refine zX Z (fun g1=>?_)<|fun g1=>?_
  ·refine zi g1 h fun h=>zk<|zT<|zQ<|zl<|qR<|zM Z<|mN Z<|zQ<|LW.regionI<|bS.st Z Z Z (gT.of (aa.loadF Z Z wg) Z)<|bS.st Z Z Z (gT.of (zm Z Z) Z)<|zb h fun v2 a2 h=>?_;refine bS.st Z Z Z (gT.of (zC Z Z Z (by kernel_rfl) (LC.pre (NR a2) Z (zL Z (zL (aj (fun _=>rfl) _) (zL Z Z))) Z)) Z) ?_;refine bS.st Z Z Z (gT.of (aa.move Z Z) Z) ?_;refine bS.cases 14 Z (fun(g2:v2=true)=>?_) (fun(g2:v2=false)=>?_)
   ·refine zi g2 h fun h=>bS.gd Z Z Z (gd g2 Z) Z (gT.of (zm Z Z) Z)<|bS.gd Z Z Z (gd g2 Z) Z (gT.of (zm Z Z) Z)<|zb h fun y1 j1 h=>bS.gd Z Z Z (gd g2 Z) Z (O1 Z Z Z j1)<|bS.gd Z Z Z (gd g2 Z) Z (gT.of (aa.not Z Z) Z)<|bS.st Z Z Z (gT.of (bv Z (aJ g2 Z) Z) Z)<|bS.nil<|zT<|LW.condF Z<|zk<|af<|zT<|zR<|yS Z (an Z Z Z Z)<|mN Z ?_;cases h;exact⟨_,rfl,zW 7 ⟨Z,Z,Z,Z,t_⟩ Z Z Z (zL Z (zL (aj (fun _=>rfl) _) (cp (zL Z Z))))⟩
   ·refine zo g2 h fun h=>bS.sk Z Z Z (gd g2 Z) Z Z<|bS.sk Z Z Z (gd g2 Z) Z Z<|bS.sk Z Z Z (gd g2 Z) Z Z<|bS.sk Z Z Z (gd g2 Z) Z Z<|bS.st Z Z Z (gT.of (aT Z (aJ g2 Z) Z) Z)<|bS.nil<|zT<|LW.condF Z<|zk<|af<|zT<|zR<|yS Z (an Z Z Z Z)<|mN Z ?_;cases h;exact⟨_,rfl,zW 7 ⟨Z,Z,Z,Z,t_⟩ Z Z Z (zL Z (zL (aj (fun _=>rfl) _) (cp (zL Z Z))))⟩
  ·refine zo g1 h fun h=>zq<|ai<|ai<|zy<|zT ?_;cases h;obtain rfl:=(m1 _ rfl);exact zW 7 trivial Z Z Z<|zL Z<|zL (aj (fun _=>rfl) _)<|cp<|zL Z Z
 ·have h:=q1;clear p1;cases h;exact iL u1 .none ⟨rfl,rfl⟩
def B8 (c:Cf)(m:List (Int×Bool)):Option Int:=(EC c).bind fun v1=>bif !v1 then some 0 else (xt c m 0).bind fun v2=>some v2
theorem Lk {m:List (Int×Bool)}(h:B8 c m=some r_):LC prog 200 [.p (gQ c),.fn 199 [] [.cptr (qc c),.fptr (.fn 201 [] [.ptr 2 0])]] [.box (ch c),.map (ar bh (fun v=>(bQ v)) m),.box [.map 1]] (Is (iQ r_) [.box (ch c),.map (ar bh (fun v=>(bQ v)) m),.box [.map 1]]):=by
 refine LC.ofM Tryz.func200 Z Z Z ?_;unfold B8 at h;refine kc.seqW<|zR<|yS Z (bx Z Z Z Z Z)<|mN Z<|kc.seqW<|zR<|yS Z (ze Z QB Z Z)<|yS Z (zs Z Z Z Z aW Z Z Z Z)<|nT<|kc.seqW<|qR<|yS Z (zD Z Z Z be Z Z)<|zb h fun v1 a1 h=>yS Z (yP Z Z Z (Mb a1) dG)<|yS Z (aa.not Z Z)<|nT ?_;refine zX Z (fun g1=>?_)<|fun g1=>?_
 ·refine zi g1 h fun h=>qR<|yS Z (zD Z Z Z aW Z Z)<|mN Z<|zr<|ae ?_;cases h;refine bT (env':=[(4,(iQ 0))]) (H':=[.box (ch c),.map (ar bh (fun v=>(bQ v)) m),.box [.map 1]]) (zW 3 ⟨Z,t_⟩ Z Z Z (zL Z (zL (aj (fun _=>rfl) _) (zL Z Z)))) (.one (.tmp Z)) ?_;exact⟨rfl,rfl⟩
 ·refine zo g1 h fun h=>zk<|zT<|kc.seq<|kc.seqW<|zR<|mN Z ?_;refine kc.weak (env':=[(2,.ptr 3 0),(4,(iQ 0)),(5,.ptr 4 0),(11,.fn 199 [] [.cptr (qc c),.fptr (.fn 201 [] [.ptr 2 0])])]) (H':=[.box (ch c),.map (ar bh (fun v=>(bQ v)) m),.box [.map 1],.box (ch c),.box [(iQ 0)]]) (zW 5 ⟨Z,Z,Z,Z,t_⟩ Z Z Z (zL Z (zL (aj (fun _=>rfl) _) (zL Z (zL Z (zL Z Z)))))) ?_;refine kc.block<|zb h fun v2 a2 h=>kc.rangeFunc Z (by kernel_rfl) Z (Lo a2) Z Z Z ?_;refine⟨rfl,?_⟩;refine w2<|kc.seq<|kc.region<|mD.st Z Z Z (zD Z Z Z aW Z Z) Z<|mD.st Z Z Z (za Z Z) Z<|mD.nil<|w2<|kc.ret ?_;obtain rfl:=zJ h;exact⟨.inr rfl,_,[(4,(iQ v2))],[.box (ch c),.map (ar bh (fun v=>(bQ v)) m),.box [.map 1]],_,rfl,zW 3 ⟨Z,t_⟩ Z Z Z (zL Z (zL (aj (fun _=>rfl) _) (zL Z Z))),(.one (.tmp Z)),⟨rfl,rfl⟩⟩
def Ib (i:Int)(c:Cf)(slot:Int)(at_:List Int):Option Bool:=(ix at_ i).bind fun y1=>bif decide (c.Epoch≠0)then bif decide (c.Epoch≠0)then some ((y1.tmod c.Epoch)==(slot.tmod c.Epoch))else none else none
theorem NQ {i:Int}{r_:Bool}(h:Ib i c slot at_=some r_):LC prog 161 [(iQ i),.ptr 2 0,.ptr 0 0,.ptr 1 0] [.box (ch c),.box [(iQ slot)],.box [(kI at_)]] (Is (bQ r_) [.box (ch c),.box [(iQ slot)],.box [(kI at_)]]):=by
 refine eN Tryz.func161 Z Z Z ?_;unfold Ib at h;refine qR<|mN Z<|zQ<|dx<|yE Z (zD Z Z Z dH Z Z)<|zH Z<|zb h fun y1 j1 h=>yE Z (zx Z Z Z dL j1 Z)<|yE Z (bR Z Z Z aW Z Z)<|yE Z (zA Z Z kK)<|yE Z (zD Z Z Z aW Z Z)<|zg h fun q1 h=>yE Z (aa.rem Z Z Z (of_decide_eq_true q1))<|yE Z (zD Z Z Z aW Z Z)<|yE Z (zA Z Z kK)<|yE Z (zD Z Z Z aW Z Z)<|zg h fun q2 h=>yE Z (aa.rem Z Z Z (of_decide_eq_true q2))<|yE Z (an Z Z Z Z)<|zH Z<|LO.nil<|zT<|zr ?_;cases h;exact aD (.one (.tmp Z))<|⟨rfl,rfl⟩
theorem O2 {l:List Int}{i:Int}{o:Oper}{env:aE}(ho:o.op=.call { callee:=.value fo,args:=#[xo],argTypes:=ats})(hf:bf env fo=some (.yld 6))(hx:bf env xo=some (iQ i))(q:bJ l.length [i].length 8=true) :
  gT prog o env [.box (ch c),.box [(iQ slot)],.box [(kI at_)],.box [(jI 4 l)],.vec 1 (l.map bh),.defd,.loop false 13 [(2,.ptr 3 0),(4,.zs),(6,.fn 199 [] [.cptr (qc c),.fptr (.fn 161 [] [.ptr 2 0,.ptr 0 0,.ptr 1 0])])] #[7] AH AJ] (Is (bQ true) [.box (ch c),.box [(iQ slot)],.box [(kI at_)],.box [.vec 1 4 ((l++[i]).map bh).length 0 ((l++[i]).map bh).length],.vec 1 ((l++[i]).map bh),.defd,.loop false 13 [(2,.ptr 3 0),(4,.zs),(6,.fn 199 [] [.cptr (qc c),.fptr (.fn 161 [] [.ptr 2 0,.ptr 0 0,.ptr 1 0])])] #[7] AH AJ]):=by
 refine gT.yield (env2:=(5,(iQ i))::(7,(iQ i))::[(2,.ptr 3 0),(4,.zs),(6,.fn 199 [] [.cptr (qc c),.fptr (.fn 161 [] [.ptr 2 0,.ptr 0 0,.ptr 1 0])])]) (H2:=[.box (ch c),.box [(iQ slot)],.box [(kI at_)],.box [.vec 1 4 ((l++[i]).map bh).length 0 ((l++[i]).map bh).length],.vec 1 ((l++[i]).map bh),.defd,.loop true 13 [(2,.ptr 3 0),(4,.zs),(6,.fn 199 [] [.cptr (qc c),.fptr (.fn 161 [] [.ptr 2 0,.ptr 0 0,.ptr 1 0])])] #[7] AH AJ]) ho hf hx Z Z (by kernel_rfl) (by kernel_rfl) Z (vv.plain ?_) (vv.plain ?_) Z Z
 ·refine yS Z (za Z Z) ?_;exact zN ⟨rfl,rfl,rfl⟩
 ·refine yS Z (zD Z Z Z dH Z Z) ?_;exact zM Z<|yS Z (gR Z dL Z Z Z Z Z)<|yS Z (aa.appendX bh l [i] rfl Z Z Z iy.p Z dL q Z)<|yS Z (zs Z Z Z Z dH Z Z Z Z)<|zN<|⟨rfl,rfl⟩
structure eu where
 t8:Int
 o4:List Int
def mT (c:Cf)(slot:Int)(at_:List Int)(x1:eu):Option (eu⊕eu):=bif decide (x1.t8<(c.W.length:Int))then (Ib x1.t8 c slot at_).bind fun v2=>bif v2 then bif bJ x1.o4.length [x1.t8].length 8 then some (.inl (eu.mk (i64.wrap (x1.t8+1)) (x1.o4++[x1.t8])))else none else some (.inl (eu.mk (i64.wrap (x1.t8+1)) x1.o4))else some (.inr (eu.mk x1.t8 x1.o4))
def Cg (c:Cf)(slot:Int)(at_:List Int)(l:List Int):Option (List Int):=(iter (mT c slot at_) aY (eu.mk 0 l)).bind fun v1=>some v1.o4
theorem Ln {l:List Int}{r_:List Int}(h:Cg c slot at_ l=some r_):LC prog 199 [.yld 6,.cptr (qc c),.fptr (.fn 161 [] [.ptr 2 0,.ptr 0 0,.ptr 1 0])] [.box (ch c),.box [(iQ slot)],.box [(kI at_)],.box [(jI 4 l)],.vec 1 (l.map bh),.defd,.loop false 13 [(2,.ptr 3 0),(4,.zs),(6,.fn 199 [] [.cptr (qc c),.fptr (.fn 161 [] [.ptr 2 0,.ptr 0 0,.ptr 1 0])])] #[7] AH AJ] (Is (.tup []) [.box (ch c),.box [(iQ slot)],.box [(kI at_)],.box [(jI 4 r_)],.vec 1 (r_.map bh),.defd,.loop false 13 [(2,.ptr 3 0),(4,.zs),(6,.fn 199 [] [.cptr (qc c),.fptr (.fn 161 [] [.ptr 2 0,.ptr 0 0,.ptr 1 0])])] #[7] AH AJ]):=by
 refine eN Tryz.func199 Z Z Z ?_;unfold Cg at h;refine qR<|yS Z (aa.fieldAddrC Z Z d3 Z)<|yS Z (bR Z Z Z dH Z Z)<|yS Z (ck Z Z)<|mN Z ?_;obtain⟨v1,p1,b1⟩:=zB h;clear h;refine LW.tail (E:=[]) (O:=[.box (ch c),.box [(iQ slot)],.box [(kI at_)],.box [(jI 4 v1.o4)],.vec 1 (v1.o4.map bh),.defd,.loop false 13 [(2,.ptr 3 0),(4,.zs),(6,.fn 199 [] [.cptr (qc c),.fptr (.fn 161 [] [.ptr 2 0,.ptr 0 0,.ptr 1 0])])] #[7] AH AJ]) ?_<|fun e1 K1 u1=>?_
 ·refine LW.block ?_;refine LW.iterB (E:=fun x1:eu=>[(0,.yld 6),(2,.fptr (.fn 161 [] [.ptr 2 0,.ptr 0 0,.ptr 1 0])),(7,.p (.int .i64 (c.W.length:Int))),(8,(iQ x1.t8))]) (O:=fun x1=>[.box (ch c),.box [(iQ slot)],.box [(kI at_)],.box [(jI 4 x1.o4)],.vec 1 (x1.o4.map bh),.defd,.loop false 13 [(2,.ptr 3 0),(4,.zs),(6,.fn 199 [] [.cptr (qc c),.fptr (.fn 161 [] [.ptr 2 0,.ptr 0 0,.ptr 1 0])])] #[7] AH AJ]) p1 (av 7 ⟨Z,Z,Z,Z,t_⟩)<|fun x1 z1 h m1=>?_;unfold mT at h;refine qR<|yS Z (an Z Z Z Z)<|nT<|zQ ?_;refine zX Z (fun g1=>?_)<|fun g1=>?_
  ·refine zi g1 h fun h=>zk<|zT<|zQ<|zl<|qR<|zM Z<|mN Z<|zQ<|LW.regionI<|bS.st Z Z Z (gT.of (aa.loadF Z Z wg) Z)<|bS.st Z Z Z (gT.of (zm Z Z) Z)<|zb h fun v2 a2 h=>bS.st Z Z Z (gT.of (yC Z Z Z (LC.pre (NQ a2) Z Z Z)) Z)<|bS.st Z Z Z (gT.of (zm Z Z) Z) ?_;refine bS.cases 14 Z (fun(g2:v2=true)=>?_) (fun(g2:v2=false)=>?_)
   ·refine zi g2 h fun h=>bS.gd Z Z Z (gd g2 Z) Z (gT.of (zm Z Z) Z)<|bS.gd Z Z Z (gd g2 Z) Z (gT.of (zm Z Z) Z)<|zg h fun q1 h=>bS.gd Z Z Z (gd g2 Z) Z (O2 Z Z Z q1)<|bS.gd Z Z Z (gd g2 Z) Z (gT.of (aa.not Z Z) Z)<|bS.st Z Z Z (gT.of (bv Z (aJ g2 Z) Z) Z)<|bS.nil<|zT<|LW.condF Z<|zk<|af<|zT<|zR<|yS Z (an Z Z Z Z)<|mN Z ?_;cases h;exact⟨_,rfl,av 7 ⟨Z,Z,Z,Z,t_⟩⟩
   ·refine zo g2 h fun h=>bS.sk Z Z Z (gd g2 Z) Z Z<|bS.sk Z Z Z (gd g2 Z) Z Z<|bS.sk Z Z Z (gd g2 Z) Z Z<|bS.sk Z Z Z (gd g2 Z) Z Z<|bS.st Z Z Z (gT.of (aT Z (aJ g2 Z) Z) Z)<|bS.nil<|zT<|LW.condF Z<|zk<|af<|zT<|zR<|yS Z (an Z Z Z Z)<|mN Z ?_;cases h;exact⟨_,rfl,av 7 ⟨Z,Z,Z,Z,t_⟩⟩
  ·refine zo g1 h fun h=>zq<|ai<|ai<|zy<|zT ?_;cases h;obtain rfl:=(m1 _ rfl);exact av 7 trivial
 ·have h:=b1;clear p1;cases h;exact iL u1 .none ⟨rfl,rfl⟩
def Ce (c:Cf)(slot:Int)(at_:List Int):Option (List Int):=(Cg c slot at_ []).bind fun v1=>some v1
theorem Lm {r_:List Int}(h:Ce c slot at_=some r_):LC prog 198 [.zs,.fn 199 [] [.cptr (qc c),.fptr (.fn 161 [] [.ptr 2 0,.ptr 0 0,.ptr 1 0])]] [.box (ch c),.box [(iQ slot)],.box [(kI at_)]] (Is (jI 4 r_) [.box (ch c),.box [(iQ slot)],.box [(kI at_)],.box [(jI 4 r_)],.vec 1 (r_.map bh),.dead,.dead]):=by
 refine LC.ofM Tryz.func198 Z Z Z ?_;unfold Ce at h;refine kc.seqW<|zR<|yS Z (bx Z Z Z Z Z)<|mN Z<|kc.seq<|kc.seqW<|zR<|mN Z<|kc.ent (bY.lazyCell (i:=3) (j:=0) (m:=1) Z Z Z Z Z Z)<|kc.weak (env':=[(2,.ptr 3 0),(4,.zs),(6,.fn 199 [] [.cptr (qc c),.fptr (.fn 161 [] [.ptr 2 0,.ptr 0 0,.ptr 1 0])])]) (H':=[.box (ch c),.box [(iQ slot)],.box [(kI at_)],.box [(jI 4 ([]:List Int))],.vec 1 (([]:List Int).map bh)]) (av 5 ⟨Z,Z,Z,t_⟩)<|kc.block<|zb h fun v1 a1 h=>kc.rangeFunc Z (by kernel_rfl) Z (Ln a1) Z Z Z ?_;refine⟨rfl,?_⟩;refine w2<|kc.seq<|kc.region<|mD.st Z Z Z (zD Z Z Z dH Z Z) Z<|mD.st Z Z Z (za Z Z) Z<|mD.nil<|w2<|kc.ret ?_;obtain rfl:=zJ h;exact⟨.inr rfl,_,[(4,(jI 4 v1))],[.box (ch c),.box [(iQ slot)],.box [(kI at_)],.box [(jI 4 v1)],.vec 1 (v1.map bh),.dead,.dead],_,rfl,zW 7 ⟨Z,t_⟩ Z Z Z rfl,(.one (.tmp Z)),⟨rfl,rfl⟩⟩
def xm (c:Cf)(slot:Int)(at_:List Int):Option (List Int):=(Ce c slot at_).bind fun v1=>some v1
theorem Lj {r_:List Int}(h:xm c slot at_=some r_):LC prog 159 [.fn 199 [] [.cptr (qc c),.fptr (.fn 161 [] [.ptr 2 0,.ptr 0 0,.ptr 1 0])]] [.box (ch c),.box [(iQ slot)],.box [(kI at_)]] (Is (jI 4 r_) [.box (ch c),.box [(iQ slot)],.box [(kI at_)],.box [(jI 4 r_)],.vec 1 (r_.map bh),.dead,.dead]):=by
 refine eN Tryz.func159 Z Z Z ?_;unfold xm at h;refine qR<|mN Z<|qR<|zM Z<|zb h fun v1 a1 h=>yS Z (yC Z Z Z (Lm a1))<|mN Z<|zr ?_;cases h;exact aD (.one (.tmp Z))<|⟨rfl,rfl⟩
def EM (n:Int)(i:Int):Option Bool:=bif decide (n>=1)then bif decide (n<=1000)then bif decide (i>=0)then some (decide (i<n))else some false else some false else some false
theorem Pr {n:Int}{i:Int}{r_:Bool}(h:EM n i=some r_):aq prog 212 [.int .i64 n,.int .i64 i] [.bool r_]:=by
 refine zh Tryz.func212 Z Z Z Z ?_;unfold EM at h;refine qR<|mN Z<|qR<|zM Z<|yS Z (an Z Z Z Z)<|zM Z ?_;refine zc 7 Z (fun g1=>?_)<|fun g1=>?_
 ·refine zi g1 h fun h=>yV Z (gd g1 Z) (zm Z Z)<|yV Z (gd g1 Z) (an Z Z Z Z)<|yS Z (bv Z (aJ g1 Z) Z)<|zM Z ?_;refine zc 11 Z (fun g2=>?_)<|fun g2=>?_
  ·refine zi g2 h fun h=>yV Z (gd g2 Z) (zm Z Z)<|yV Z (gd g2 Z) (an Z Z Z Z)<|yS Z (bv Z (aJ g2 Z) Z)<|zM Z ?_;refine zc 15 Z (fun g3=>?_)<|fun g3=>?_
   ·refine zi g3 h fun h=>yV Z (gd g3 Z) (zm Z Z)<|yV Z (gd g3 Z) (zm Z Z)<|yV Z (gd g3 Z) (an Z Z Z Z)<|yS Z (bv Z (aJ g3 Z) Z)<|mN Z<|zr ?_;cases h;exact aZ Z
   ·refine zo g3 h fun h=>yU Z (gd g3 Z) Z<|yU Z (gd g3 Z) Z<|yU Z (gd g3 Z) Z<|yS Z (aT Z (aJ g3 Z) Z)<|mN Z<|zr ?_;cases h;exact aZ Z
  ·refine zo g2 h fun h=>yU Z (gd g2 Z) Z<|yU Z (gd g2 Z) Z<|yS Z (aT Z (aJ g2 Z) Z)<|zM Z<|aw Z<|aw Z<|aw Z<|yS Z (aT Z Z Z)<|mN Z<|zr ?_;cases h;exact aZ Z
 ·refine zo g1 h fun h=>yU Z (gd g1 Z) Z<|yU Z (gd g1 Z) Z<|yS Z (aT Z (aJ g1 Z) Z)<|zM Z<|aw Z<|aw Z<|yS Z (aT Z Z Z)<|zM Z<|aw Z<|aw Z<|aw Z<|yS Z (aT Z Z Z)<|mN Z<|zr ?_;cases h;exact aZ Z
def EN (seed:Int)(n:Int)(r:Int)(i:Int):Option Int:=(tb seed (u64.wrap (r))).bind fun v1=>bif decide ((u64.wrap (n))≠0)then bif decide (n≠0)then (bif decide (((i64.wrap ((i64.wrap ((i64.wrap (v1.tmod (u64.wrap (n))))+n))-i)).tmod n)>i)then some ((i64.wrap ((i64.wrap ((i64.wrap (v1.tmod (u64.wrap (n))))+n))-i)).tmod n)else some i).bind fun v2=>(tb seed (u64.wrap (i64.wrap (1000+r)))).bind fun v3=>(tb v3 (u64.wrap (v2))).bind fun v4=>bif (v4.tmod 2)==1 then some ((i64.wrap ((i64.wrap ((i64.wrap (v1.tmod (u64.wrap (n))))+n))-i)).tmod n)else some i else none else none
theorem Ps {n:Int}{r:Int}{i:Int}(h:EN seed n r i=some r_):aq prog 213 [.int .u64 seed,.int .i64 n,.int .i64 r,.int .i64 i] [.int .i64 r_]:=by
 refine zh Tryz.func213 Z Z Z Z ?_;unfold EN at h;refine qR<|mN Z<|qR<|zM Z<|zM Z<|yS Z (aa.convert (k':=.u64) Z Z (by kernel_rfl))<|zb h fun v1 a1 h=>yS Z (yP Z Z Z (yz a1) bG)<|zM Z<|yS Z (aa.convert (k':=.u64) Z Z (by kernel_rfl))<|zg h fun q1 h=>yS Z (aa.rem Z Z Z (of_decide_eq_true q1))<|yS Z (aa.convert (k':=.i64) Z Z (by kernel_rfl))<|mN Z<|qR<|zM Z<|zM Z<|yS Z (an Z Z Z Z)<|zM Z<|yS Z (an Z Z Z Z)<|zM Z<|zg h fun q2 h=>yS Z (aa.rem Z Z Z (of_decide_eq_true q2))<|mN Z<|qR<|zM Z<|mN Z ?_;obtain⟨v2,p2,b2⟩:=zB h;clear h;refine LW.cut (E:=[(0,(uQ seed)),(2,(iQ r)),(3,(iQ i)),(8,(iQ 0)),(10,.p (.int .i64 ((i64.wrap ((i64.wrap ((i64.wrap (v1.tmod (u64.wrap (n))))+n))-i)).tmod n))),(11,(iQ v2))]) (O:=[]) ?_ ?_
 ·have h:=p2;refine qR<|zM Z<|zM Z<|yS Z (an Z Z Z Z)<|nT ?_;refine zX Z (fun g1=>?_)<|fun g1=>?_
  ·refine zi g1 h fun h=>zR<|zM Z<|mN Z ?_;cases h;exact av 0 ⟨Z,Z,Z,Z,Z,Z,t_⟩
  ·refine zo g1 h fun h=>zk<|zT ?_;cases h;exact av 0 ⟨Z,Z,Z,Z,Z,Z,t_⟩
 ·have h:=b2;clear p2;refine qR<|zM Z<|zM Z<|yS Z (an Z Z Z Z)<|yS Z (aa.convert (k':=.u64) Z Z (by kernel_rfl))<|zb h fun v3 a3 h=>yS Z (yP Z Z Z (yz a3) bG)<|zM Z<|yS Z (aa.convert (k':=.u64) Z Z (by kernel_rfl))<|zb h fun v4 a4 h=>yS Z (yP Z Z Z (yz a4) bG)<|mN Z<|zQ<|qR<|zM Z<|yS Z (aa.rem Z Z Z (by decide))<|yS Z (an Z Z Z Z)<|nT ?_;refine zX Z (fun g2=>?_)<|fun g2=>?_
  ·refine zi g2 h fun h=>qR<|zM Z<|mN Z<|zr<|ae ?_;cases h;exact aZ Z
  ·refine zo g2 h fun h=>zk<|zT<|qR<|zM Z<|mN Z<|zr ?_;cases h;exact aZ Z
structure oJ where
 i:Int
 r:Int
def wn (seed:Int)(n:Int)(x1:oJ):Option (oJ⊕oJ):=bif decide (x1.r<10)then (EN seed n x1.r x1.i).bind fun v3=>some (.inl (oJ.mk v3 (i64.wrap (x1.r+1))))else some (.inr (oJ.mk x1.i x1.r))
def Mj (seed:Int)(n:Int)(i:Int):Option Int:=(EM n i).bind fun v1=>bif !v1 then some (-1)else (iter (wn seed n) aY (oJ.mk i 0)).bind fun v2=>some v2.i
theorem QI {n:Int}{i:Int}(h:Mj seed n i=some r_):aq prog 172 [.int .u64 seed,.int .i64 n,.int .i64 i] [.int .i64 r_]:=by
 refine zh Tryz.func172 Z Z Z Z ?_;unfold Mj at h;refine qR<|mN Z<|qR<|zM Z<|zM Z<|zb h fun v1 a1 h=>yS Z (yP Z Z Z (Pr a1) bG)<|mN Z<|zQ<|qR<|zM Z<|yS Z (aa.not Z Z)<|nT ?_;refine zX Z (fun g1=>?_)<|fun g1=>?_
 ·refine zi g1 h fun h=>qR<|mN Z<|LW.ret<|ae ?_;cases h;exact aZ Z
 ·refine zo g1 h fun h=>zk<|zT<|zQ<|qR<|mN Z ?_;obtain⟨v2,p2,q2⟩:=zB h;clear h;refine LW.tail (E:=[(2,(iQ v2.i)),(6,(iQ 0))]) (O:=[]) ?_<|fun e2 K2 u2=>?_
  ·refine LW.block ?_;refine LW.iterB (E:=fun x1:oJ=>[(0,(uQ seed)),(1,(iQ n)),(2,(iQ x1.i)),(6,(iQ 0)),(8,(iQ x1.r))]) (O:=fun x1=>[]) p2 (av 0 ⟨Z,Z,Z,Z,Z,t_⟩)<|fun x1 z1 h m1=>?_;unfold wn at h;refine zQ<|qR<|zM Z<|yS Z (an Z Z Z Z)<|nT ?_;refine zX Z (fun g2=>?_)<|fun g2=>?_
   ·refine zi g2 h fun h=>zk<|zT<|zQ<|zl<|zR<|zM Z<|zM Z<|zM Z<|zM Z<|zb h fun v3 a3 h=>yS Z (yP Z Z Z (Ps a3) we)<|zM Z<|zN<|af<|zT<|zR<|zM Z<|yS Z (an Z Z Z Z)<|mN Z ?_;cases h;exact⟨_,rfl,av 0 ⟨Z,Z,Z,Z,Z,t_⟩⟩
   ·refine zo g2 h fun h=>zq<|ai<|ai<|zy<|zT ?_;cases h;obtain rfl:=(m1 _ rfl);exact av 0 ⟨Z,Z,t_⟩
  ·have h:=q2;clear p2;refine zT<|LW.weak u2<|qR<|zM Z<|mN Z<|zr ?_;cases h;exact aZ Z
structure iV where
 i:Int
 out:List Int
def tz (c:Cf)(slot:Int)(v4:Int)(x1:iV):Option (iV⊕iV):=bif decide (x1.i<(c.W.length:Int))then (Mj v4 (c.W.length:Int) x1.i).bind fun v6=>bif decide (c.Epoch≠0)then bif decide (c.Epoch≠0)then bif (v6.tmod c.Epoch)==(slot.tmod c.Epoch)then bif bJ x1.out.length [x1.i].length 8 then some (.inl (iV.mk (i64.wrap (x1.i+1)) (x1.out++[x1.i])))else none else some (.inl (iV.mk (i64.wrap (x1.i+1)) x1.out))else none else none else some (.inr (iV.mk x1.i x1.out))
def KG (c:Cf)(slot:Int):Option (List Int):=(F0 c).bind fun v1=>(Dj slot).bind fun v2=>(bif !v1 then some true else some (!v2)).bind fun v3=>bif v3 then some [] else bif decide (c.Epoch≠0)then (tb c.Seed (u64.wrap (i64.wrap (slot.tdiv c.Epoch)))).bind fun v4=>(iter (tz c slot v4) aY (iV.mk 0 ([]:List Int))).bind fun v5=>some v5.out else none
theorem P3 {r_:(List Int)}(h:KG c slot=some r_):aq prog 135 [gQ c,.int .i64 slot] [.slice 1 (r_.map bh)]:=by
 refine zh Tryz.func135 Z Z Z Z ?_;unfold KG at h;refine qR<|yS Z (bx Z Z Z Z Z)<|mN Z<|qR<|yS Z (zD Z Z Z be Z Z)<|zb h fun v1 a1 h=>yS Z (yP Z Z Z (Lf a1) dG)<|mN Z<|qR<|zM Z<|zb h fun v2 a2 h=>yS Z (yP Z Z Z (MQ a2) dG)<|mN Z<|zQ ?_;obtain⟨v3,p3,b3⟩:=zB h;clear h;refine LW.cut (E:=[(1,(iQ slot)),(2,.ptr 0 0),(4,.zs),(19,(bQ v3))]) (O:=[.box (ch c)]) ?_ ?_
 ·have h:=p3;refine zR<|zM Z<|yS Z (aa.not Z Z)<|zM Z ?_;refine zc 16 Z (fun g1=>?_)<|fun g1=>?_
  ·refine zi g1 h fun h=>yU Z (gd g1 Z) Z<|yU Z (gd g1 Z) Z<|yS Z (bv Z (aJ g1 Z) Z)<|nT ?_;cases h;exact av 1 ⟨Z,Z,Z,Z,t_⟩
  ·refine zo g1 h fun h=>yV Z (gd g1 Z) (zm Z Z)<|yV Z (gd g1 Z) (aa.not Z Z)<|yS Z (aT Z (aJ g1 Z) Z)<|nT ?_;cases h;exact av 1 ⟨Z,Z,Z,Z,t_⟩
 ·have h:=b3;clear p3;refine zX Z (fun g2=>?_)<|fun g2=>?_
  ·refine zi g2 h fun h=>qR<|mN Z<|LW.ret<|ae ?_;cases h;exact zf (.one (.tmp Z)) Conv.zs
  ·refine zo g2 h fun h=>zk<|zT<|zQ<|dx<|yE Z (zA Z Z wN)<|yE Z (zD Z Z Z iT Z Z)<|zH Z<|yE Z (zA Z Z kK)<|yE Z (zD Z Z Z aW Z Z)<|zg h fun q1 h=>yE Z (aa.quo Z Z Z (of_decide_eq_true q1))<|yE Z (aa.convert (k':=.u64) Z Z (by kernel_rfl))<|zb h fun v4 a4 h=>yE Z (yP Z Z Z (yz a4) bG)<|zH Z<|LO.nil<|zT<|qR<|mN Z<|zQ<|qR<|mN Z<|LW.ent (bY.lazy (t:=8) (m:=1) Z Z Z) ?_;obtain⟨v5,p5,b5⟩:=zB h;clear h;refine LW.tail (E:=[(4,.zs),(8,(jI 1 v5.out))]) (O:=[.box (ch c),.vec 1 (v5.out.map bh)]) ?_<|fun e5 K5 u5=>?_
   ·refine LW.block ?_;refine LW.iterB (E:=fun x1:iV=>[(1,(iQ slot)),(2,.ptr 0 0),(4,.zs),(7,(uQ v4)),(8,(jI 1 x1.out)),(9,(iQ x1.i))]) (O:=fun x1=>[.box (ch c),.vec 1 (x1.out.map bh)]) p5 (av 2 ⟨Z,Z,Z,Z,Z,Z,t_⟩)<|fun x1 z1 h m1=>?_;unfold tz at h;refine zQ<|qR<|zM Z<|yS Z (zA Z Z d3)<|yS Z (zD Z Z Z dH Z Z)<|yS Z (ck Z Z)<|yS Z (an Z Z Z Z)<|nT ?_;refine zX Z (fun g3=>?_)<|fun g3=>?_
    ·refine zi g3 h fun h=>zk<|zT<|zQ<|zl<|zQ<|dx<|zH Z<|yE Z (zA Z Z d3)<|yE Z (zD Z Z Z dH Z Z)<|yE Z (ck Z Z)<|zH Z<|zb h fun v6 a6 h=>yE Z (yP Z Z Z (QI a6) pA)<|yE Z (zA Z Z kK)<|yE Z (zD Z Z Z aW Z Z)<|zg h fun q2 h=>yE Z (aa.rem Z Z Z (of_decide_eq_true q2))<|zH Z<|yE Z (zA Z Z kK)<|yE Z (zD Z Z Z aW Z Z)<|zg h fun q3 h=>yE Z (aa.rem Z Z Z (of_decide_eq_true q3))<|yE Z (an Z Z Z Z)<|LO.nil<|zT ?_;refine zX Z (fun g4=>?_)<|fun g4=>?_
     ·refine zi g4 h fun h=>zR<|zM Z<|zM Z<|yS Z (gR Z dL Z Z Z Z Z)<|zg h fun q4 h=>yS Z (aa.appendX bh x1.out [x1.i] rfl Z Z Z iy.p Z dL q4 Z)<|zM Z<|zN<|af<|zT<|zR<|zM Z<|yS Z (an Z Z Z Z)<|mN Z ?_;cases h;exact⟨_,rfl,av 2 ⟨Z,Z,Z,Z,Z,Z,t_⟩⟩
     ·refine zo g4 h fun h=>zk<|af<|zT<|zR<|zM Z<|yS Z (an Z Z Z Z)<|mN Z ?_;cases h;exact⟨_,rfl,av 2 ⟨Z,Z,Z,Z,Z,Z,t_⟩⟩
    ·refine zo g3 h fun h=>zq<|ai<|ai<|zy<|zT ?_;cases h;obtain rfl:=(m1 _ rfl);exact av 2 ⟨Z,Z,t_⟩
   ·have h:=b5;clear p5;refine zT<|LW.weak u5<|qR<|zM Z<|mN Z<|zr ?_;cases h;exact zf (.one (.tmp Z))<|(Conv.vecAll Z Z Z)
def L4 (c:Cf)(slot:Int)(who:Int):Option Bool:=(KG c slot).bind fun v1=>(F5 v1 who).bind fun v2=>some v2
theorem Qs {who:Int}{r_:Bool}(h:L4 c slot who=some r_):aq prog 95 [gQ c,.int .i64 slot,.int .i64 who] [.bool r_]:=by
 refine zh Tryz.func95 Z Z Z Z ?_;unfold L4 at h;refine qR<|yS Z (bx Z Z Z Z Z)<|mN Z<|qR<|yS Z (zD Z Z Z be Z Z)<|zM Z<|zb h fun v1 a1 h=>yS Z (yP Z Z Z (P3 a1) bG)<|zM Z<|zb h fun v2 a2 h=>yS Z (yP Z Z Z (Lg a2) bG)<|mN Z<|qR<|zM Z<|mN Z<|zr ?_;cases h;exact aZ Z
def HW (c:Cf)(slot:Int):Option Int:=(F0 c).bind fun v1=>(Dj slot).bind fun v2=>(bif !v1 then some true else some (!v2)).bind fun v3=>bif v3 then some (-1)else (tb c.Seed 4294967296).bind fun v4=>(tb v4 (u64.wrap (slot))).bind fun v5=>bif decide ((u64.wrap ((c.W.length:Int)))≠0)then some (i64.wrap (v5.tmod (u64.wrap ((c.W.length:Int)))))else none
theorem Pd (h:HW c slot=some r_):aq prog 65 [gQ c,.int .i64 slot] [.int .i64 r_]:=by
 refine zh Tryz.func65 Z Z Z Z ?_;unfold HW at h;refine qR<|yS Z (bx Z Z Z Z Z)<|mN Z<|qR<|yS Z (zD Z Z Z be Z Z)<|zb h fun v1 a1 h=>yS Z (yP Z Z Z (Lf a1) dG)<|mN Z<|qR<|zM Z<|zb h fun v2 a2 h=>yS Z (yP Z Z Z (MQ a2) dG)<|mN Z<|zQ ?_;obtain⟨v3,p3,b3⟩:=zB h;clear h;refine LW.cut (E:=[(1,(iQ slot)),(2,.ptr 0 0),(4,(iQ 0)),(17,(bQ v3))]) (O:=[.box (ch c)]) ?_ ?_
 ·have h:=p3;refine zR<|zM Z<|yS Z (aa.not Z Z)<|zM Z ?_;refine zc 14 Z (fun g1=>?_)<|fun g1=>?_
  ·refine zi g1 h fun h=>yU Z (gd g1 Z) Z<|yU Z (gd g1 Z) Z<|yS Z (bv Z (aJ g1 Z) Z)<|nT ?_;cases h;exact av 1 ⟨Z,Z,Z,Z,t_⟩
  ·refine zo g1 h fun h=>yV Z (gd g1 Z) (zm Z Z)<|yV Z (gd g1 Z) (aa.not Z Z)<|yS Z (aT Z (aJ g1 Z) Z)<|nT ?_;cases h;exact av 1 ⟨Z,Z,Z,Z,t_⟩
 ·have h:=b3;clear p3;refine zX Z (fun g2=>?_)<|fun g2=>?_
  ·refine zi g2 h fun h=>qR<|mN Z<|LW.ret<|ae ?_;cases h;exact aZ Z
  ·refine zo g2 h fun h=>zk<|zT<|qR<|yS Z (zA Z Z wN)<|yS Z (zD Z Z Z iT Z Z)<|zb h fun v4 a4 h=>yS Z (yP Z Z Z (yz a4) bG)<|zM Z<|yS Z (aa.convert (k':=.u64) Z Z (by kernel_rfl))<|zb h fun v5 a5 h=>yS Z (yP Z Z Z (yz a5) bG)<|mN Z<|qR<|zM Z<|yS Z (zA Z Z d3)<|yS Z (zD Z Z Z dH Z Z)<|yS Z (ck Z Z)<|yS Z (aa.convert (k':=.u64) Z Z (by kernel_rfl))<|zg h fun q1 h=>yS Z (aa.rem Z Z Z (of_decide_eq_true q1))<|yS Z (aa.convert (k':=.i64) Z Z (by kernel_rfl))<|mN Z<|zr ?_;cases h;exact aZ Z
structure hP where
 t11:Int
 o1:List (Int×Bool)
def ri (l:List Int)(x1:hP):Option (hP⊕hP):=bif decide (x1.t11<(l.length:Int))then (ix l x1.t11).bind fun y1=>some (.inl (hP.mk (i64.wrap (x1.t11+1)) (bP x1.o1 y1 true)))else some (.inr (hP.mk x1.t11 x1.o1))
def L5 (c:Cf)(l:List Int):Option Int:=(iter (ri l) aY (hP.mk 0 ([]:List (Int×Bool)))).bind fun v1=>(B8 c v1.o1).bind fun v2=>some v2
theorem Qt {l:List Int}(h:L5 c l=some r_):aq prog 162 [gQ c,.slice 1 (l.map bh)] [.int .i64 r_]:=by
 refine zh Tryz.func162 Z Z Z Z ?_;unfold L5 at h;refine qR<|yS Z (bx Z Z Z Z Z)<|mN Z<|qR<|yS Z (aa.makeMap Z Z Z)<|yS Z (ze Z O5 Z Z)<|yS Z (zs Z Z Z Z HG Z Z Z Z)<|nT<|zQ<|qR<|zM Z<|yS Z (ck Z Z)<|mN Z ?_;obtain⟨v1,p1,q1⟩:=zB h;clear h;refine LW.tail (E:=[(2,.ptr 0 0),(4,(iQ 0)),(5,.ptr 2 0)]) (O:=[.box (ch c),.map (ar bh (fun v=>(bQ v)) v1.o1),.box [.map 1]]) ?_<|fun e1 K1 u1=>?_
 ·refine LW.block ?_;refine LW.iterB (E:=fun x1:hP=>[(2,.ptr 0 0),(4,(iQ 0)),(5,.ptr 2 0),(9,(kI l)),(10,.p (.int .i64 (l.length:Int))),(11,(iQ x1.t11))]) (O:=fun x1=>[.box (ch c),.map (ar bh (fun v=>(bQ v)) x1.o1),.box [.map 1]]) p1 (zW 3 ⟨Z,Z,Z,Z,Z,Z,t_⟩ Z Z Z (zL Z (zL (aj (fun _=>rfl) _) (zL Z Z))))<|fun x1 z1 h m1=>?_;unfold ri at h;refine qR<|yS Z (an Z Z Z Z)<|nT<|zQ ?_;refine zX Z (fun g1=>?_)<|fun g1=>?_
  ·refine zi g1 h fun h=>zk<|zT<|zQ<|zl<|qR<|zb h fun y1 j1 h=>yS Z (zx Z Z Z dL j1 Z)<|yS Z (bR Z Z Z aW Z Z)<|mN Z<|zR<|yS Z (zD Z Z Z HG Z Z)<|zM Z ?_;refine yS Z (aa.setX (f:=bh) (g:=(fun v=>(bQ v))) y1 true G2 (.inl Z) Z Z Z Z Z Kf Z) ?_;refine zN<|af<|zT<|zR<|yS Z (an Z Z Z Z)<|mN Z ?_;cases h;exact⟨_,rfl,zW 3 ⟨Z,Z,Z,Z,Z,Z,t_⟩ Z Z Z (zL Z (zL (aj (fun _=>rfl) _) (zL Z Z)))⟩
  ·refine zo g1 h fun h=>zq<|ai<|ai<|zy<|zT ?_;cases h;obtain rfl:=(m1 _ rfl);exact zW 3 ⟨Z,Z,Z,t_⟩ Z Z Z<|zL Z<|zL (aj (fun _=>rfl) _)<|zL Z Z
 ·have h:=q1;clear p1;refine zT<|LW.weak u1<|zQ<|dx<|yE Z (zD Z Z Z be Z Z)<|yE Z (zD Z Z Z be Z Z)<|yE Z (aa.makeFunc Z Z Z)<|yE Z (yC Z Z Z (MP (c:=c)))<|zb h fun v2 a2 h=>yE Z (yC Z Z Z (Lk a2))<|zH Z<|LO.nil<|zT<|zr ?_;cases h;exact aZ Z
def KF (c:Cf)(slot:Int):Option (List Int):=(Di c slot).bind fun v1=>bif !v1 then some [] else bif decide (c.Epoch≠0)then (Mk (step c.Seed (u64.wrap (i64.wrap (slot.tdiv c.Epoch)))) (c.W.length:Int)).bind fun v2=>(xm c slot v2).bind fun v3=>some v3 else none
theorem P2 {r_:(List Int)}(hr:KF c slot=some r_):aq prog 129 [gQ c,.int .i64 slot] [.slice 1 (r_.map bh)]:=by
 refine zh Tryz.func129 Z Z Z Z ?_;unfold KF at hr;refine qR<|yS Z (bx Z Z Z Z Z)<|yS Z (bx Z Z Z Z Z)<|mN Z<|zQ<|qR<|yS Z (zD Z Z Z be Z Z)<|yS Z (zD Z Z Z aW Z Z)<|zb hr fun v1 a1 hr=>yS Z (yP Z Z Z (MM a1) bG)<|yS Z (aa.not Z Z)<|nT ?_;refine zX Z (fun g1=>?_)<|fun g1=>?_
 ·refine zi g1 hr fun hr=>qR<|mN Z<|LW.ret<|ae ?_;cases hr;exact zf (.one (.tmp Z)) Conv.zs
 ·refine zo g1 hr fun hr=>zk<|zT<|zQ<|LW.ent (bY.slot Z)<|fB<|yG Z (fun H _=>zA Z Z wN)<|yF Z (zd Z Z Z iT Z Z) Z<|yF Z (zd Z Z Z aW Z Z) Z<|yG Z (fun H _=>zA Z Z kK)<|yF Z (zd Z Z Z aW Z Z) Z<|zg hr fun q1 hr=>yG Z (fun H _=>aa.quo Z Z Z (of_decide_eq_true q1))<|yG Z (fun H _=>aa.convert (k':=.u64) Z Z (by kernel_rfl)) ?_;refine yF (F:=[]) (s:=none) Z (fun H _=>zC Z Z Z (by kernel_rfl) (zp (yy (h:=c.Seed) (x:=(u64.wrap (i64.wrap (slot.tdiv c.Epoch))))) bG)) Z ?_;refine yG Z (fun H _=>zA Z Z d3)<|yF Z (zd Z Z Z dH Z Z) Z<|yG Z (fun H _=>ck Z Z)<|zb hr fun v2 a2 hr=>?_;refine yF (F:=[]) (s:=none) Z (fun H _=>yP Z Z Z (QJ a2) bG) Z ?_;refine yF Z (cj.alloc Z Ql (id:=2) Z) Z<|yF Z (zt Z Z Z Z dH Z Z Z) Z ?_;refine LF.nil ⟨by kernel_rfl,?_⟩;refine zT<|qR<|yS Z (zD Z Z Z be Z Z)<|yS Z (aa.makeFunc Z Z Z)<|yS Z (yC Z Z Z (MP (c:=c)))<|zb hr fun v3 a3 hr=>yS Z (yC Z Z Z (Lj a3))<|mN Z<|zr ?_;cases hr;exact zf (.one (.tmp Z))<|(Conv.vecAll Z Z Z)
def IE (c:Cf)(slot:Int):Option Int:=(Di c slot).bind fun v1=>bif !v1 then some (-1)else bif decide ((u64.wrap ((c.W.length:Int)))≠0)then some (i64.wrap ((step (step c.Seed 4294967296) (u64.wrap (slot))).tmod (u64.wrap ((c.W.length:Int)))))else none
theorem Pc (hr:IE c slot=some r_):aq prog 84 [gQ c,.int .i64 slot] [.int .i64 r_]:=by
 refine zh Tryz.func84 Z Z Z Z ?_;unfold IE at hr;refine qR<|yS Z (bx Z Z Z Z Z)<|mN Z<|zQ<|qR<|yS Z (zD Z Z Z be Z Z)<|zM Z<|zb hr fun v1 a1 hr=>yS Z (yP Z Z Z (MM a1) bG)<|yS Z (aa.not Z Z)<|nT ?_;refine zX Z (fun g1=>?_)<|fun g1=>?_
 ·refine zi g1 hr fun hr=>qR<|mN Z<|LW.ret<|ae ?_;cases hr;exact aZ Z
 ·refine zo g1 hr fun hr=>zk<|zT<|zQ<|dx<|yE Z (zA Z Z wN)<|yE Z (zD Z Z Z iT Z Z)<|yE Z (yP Z Z Z (yy (h:=c.Seed) (x:=4294967296)) bG)<|zH Z<|yE Z (aa.convert (k':=.u64) Z Z (by kernel_rfl))<|yE Z (zC Z Z Z (by kernel_rfl) (zp (yy (h:=(step c.Seed 4294967296)) (x:=(u64.wrap (slot)))) bG))<|yE Z (zA Z Z d3)<|yE Z (zD Z Z Z dH Z Z)<|yE Z (ck Z Z)<|yE Z (aa.convert (k':=.u64) Z Z (by kernel_rfl))<|zg hr fun q1 hr=>yE Z (aa.rem Z Z Z (of_decide_eq_true q1))<|yE Z (aa.convert (k':=.i64) Z Z (by kernel_rfl))<|zH Z<|LO.nil<|zT<|zr ?_;cases hr;exact aZ Z
def L7 (c:Cf)(slot:Int)(who:Int):Option Bool:=(KF c slot).bind fun v1=>(xn v1 who).bind fun v2=>some v2
theorem Qv {who:Int}{r_:Bool}(h:L7 c slot who=some r_):aq prog 88 [gQ c,.int .i64 slot,.int .i64 who] [.bool r_]:=by
 refine zh Tryz.func88 Z Z Z Z ?_;unfold L7 at h;refine qR<|yS Z (bx Z Z Z Z Z)<|mN Z<|qR<|yS Z (zD Z Z Z be Z Z)<|zM Z<|zb h fun v1 a1 h=>yS Z (yP Z Z Z (P2 a1) bG)<|zM Z<|zb h fun v2 a2 h=>yS Z (yP Z Z Z (IV a2) bG)<|mN Z<|zr ?_;cases h;exact aZ Z
end Go.Mg
