/- shuffle. Conditions: none. -/
import Derived.Test.YtfbigoipfbiliaaGreatX4
set_option maxRecDepth 100000
set_option linter.all false
namespace Go.Mg
open IntKind (i64 u64)
open Go.Proofs.Tryz (f198 f200 prog)
open List (replicate)
open Go.Proofs
variable {at_ s : List Int} {ats : Array TypeId} {c : Cf} {fo xo : Operand} {names : List ID} {r_ seed slot x : Int}
def QW :Dk:=⟨fun _=>false,0⟩
structure mi where
 i:Int
 t6:Int
 d:Dk
def tr (seed:Int)(n:Int)(x1:mi):Option (mi⊕mi):=bif decide (x1.t6<10)then bif vg n x1.t6 then some (.inl (mi.mk (nZ seed n x1.t6 x1.i) (i64.wrap (x1.t6+1)) (x1.d.turned x1.t6)))else none else some (.inr (mi.mk x1.i x1.t6 x1.d))
def Fp (seed:Int)(n:Int)(i:Int)(d:Dk):Option (Int×Dk):=(iter (tr seed n) aY (mi.mk i 0 d)).bind fun v1=>some (v1.i,v1.d)
theorem OH {n:Int}{i:Int}{d:Dk}{r_:Int×Dk}(h:Fp seed n i d=some r_):LC prog 196 [.ptr 0 0,(iQ i)] [.box (kA seed n d)] (Is (iQ r_.1) [.box (kA seed n r_.2)]):=by
 refine eP Tryz.func196 Z Z Z ?_;unfold Fp at h;refine qR<|mN Z<|zQ<|qR<|mN Z ?_;obtain⟨v1,p1,a1⟩:=zB h;clear h;refine LW.tail (E:=[(1,(iQ v1.i)),(4,(iQ 0))]) (O:=[.box (kA seed n v1.d)]) ?_<|fun e1 K1 u1=>?_
 ·refine LW.block ?_;refine LW.iterB (E:=fun x1:mi=>[(0,.ptr 0 0),(1,(iQ x1.i)),(4,(iQ 0)),(6,(iQ x1.t6))]) (O:=fun x1=>[.box (kA seed n x1.d)]) p1 (au 1 ⟨Z,Z,Z,Z,t_⟩)<|fun x1 z1 h m1=>?_;unfold tr at h;refine qR<|yS Z (am Z Z Z Z)<|nT<|zQ ?_;refine zX Z (fun g1=>?_)<|fun g1=>?_
  ·refine zi g1 h fun h=>zk<|zT<|zQ<|zl<|qR<|zM Z<|mN Z<|zR<|zM Z<|zM Z<|zM Z<|zg h fun q1 h=>yS Z (yC Z Z Z (Qi q1))<|zM Z<|zN<|ae<|zT<|zR<|yS Z (am Z Z Z Z)<|mN Z ?_;cases h;exact⟨_,rfl,au 1 ⟨Z,Z,Z,Z,t_⟩⟩
  ·refine zo g1 h fun h=>zq<|aj<|aj<|zy<|zT ?_;cases h;obtain rfl:=(m1 _ rfl);exact au 1 ⟨Z,Z,t_⟩
 ·have h:=a1;clear p1;refine zT<|LW.weak u1<|qR<|zM Z<|mN Z<|zr ?_;cases h;exact aD (.one (.tmp Z))<|⟨rfl,rfl⟩
def DU (n:Int)(i:Int):Option Bool:=bif decide (n>0)then bif decide (n<=1000)then bif decide (i>=0)then some (decide (i<n))else some false else some false else some false
theorem Qf {n:Int}{i:Int}{r_:Bool}(h:DU n i=some r_):aq prog 195 [.int .i64 n,.int .i64 i] [.bool r_]:=by
 refine zh Tryz.func195 Z Z Z Z ?_;unfold DU at h;refine qR<|mN Z<|qR<|zM Z<|yS Z (am Z Z Z Z)<|zM Z ?_;refine zc 7 Z (fun g1=>?_)<|fun g1=>?_
 ·refine zi g1 h fun h=>yV Z (gd g1 Z) (zm Z Z)<|yV Z (gd g1 Z) (am Z Z Z Z)<|yS Z (bA Z (aK g1 Z) Z)<|zM Z ?_;refine zc 11 Z (fun g2=>?_)<|fun g2=>?_
  ·refine zi g2 h fun h=>yV Z (gd g2 Z) (zm Z Z)<|yV Z (gd g2 Z) (am Z Z Z Z)<|yS Z (bA Z (aK g2 Z) Z)<|zM Z ?_;refine zc 15 Z (fun g3=>?_)<|fun g3=>?_
   ·refine zi g3 h fun h=>yV Z (gd g3 Z) (zm Z Z)<|yV Z (gd g3 Z) (zm Z Z)<|yV Z (gd g3 Z) (am Z Z Z Z)<|yS Z (bA Z (aK g3 Z) Z)<|mN Z<|zr ?_;cases h;exact ba Z
   ·refine zo g3 h fun h=>yU Z (gd g3 Z) Z<|yU Z (gd g3 Z) Z<|yU Z (gd g3 Z) Z<|yS Z (aU Z (aK g3 Z) Z)<|mN Z<|zr ?_;cases h;exact ba Z
  ·refine zo g2 h fun h=>yU Z (gd g2 Z) Z<|yU Z (gd g2 Z) Z<|yS Z (aU Z (aK g2 Z) Z)<|zM Z<|aB Z<|aB Z<|aB Z<|yS Z (aU Z Z Z)<|mN Z<|zr ?_;cases h;exact ba Z
 ·refine zo g1 h fun h=>yU Z (gd g1 Z) Z<|yU Z (gd g1 Z) Z<|yS Z (aU Z (aK g1 Z) Z)<|zM Z<|aB Z<|aB Z<|yS Z (aU Z Z Z)<|zM Z<|aB Z<|aB Z<|aB Z<|yS Z (aU Z Z Z)<|mN Z<|zr ?_;cases h;exact ba Z
structure pn where
 t19:Int
 d:Dk
 l:List Int
def t7 (seed:Int)(n:Int)(x1:pn):Option (pn⊕pn):=bif decide (x1.t19<((replicate n.toNat (0:Int)).length:Int))then (Fp seed n x1.t19 x1.d).bind fun v3=>(ix x1.l x1.t19).bind fun _=>some (.inl (pn.mk (i64.wrap (x1.t19+1)) v3.2 (x1.l.set x1.t19.toNat v3.1)))else some (.inr (pn.mk x1.t19 x1.d x1.l))
def Na (seed:Int)(n:Int):Option (List Int):=(DU n 0).bind fun v1=>bif !v1 then some [] else bif EN n 8 then (iter (t7 seed n) aY (pn.mk 0 QW (replicate n.toNat (0:Int)))).bind fun v2=>bif decide (v2.d.k<n)then some [] else some v2.l else none
theorem Rs {n:Int}{r_:(List Int)}(h:Na seed n=some r_):aq prog 158 [.int .u64 seed,.int .i64 n] [.slice 1 (r_.map be)]:=by
 refine zh Tryz.func158 Z Z Z Z ?_;unfold Na at h;refine qR<|mN Z<|zQ<|qR<|zM Z<|zb h fun v1 a1 h=>yS Z (yP Z Z Z (Qf a1) bR)<|yS Z (aa.not Z Z)<|nT ?_;refine zX Z (fun g1=>?_)<|fun g1=>?_
 ·refine zi g1 h fun h=>qR<|mN Z<|LW.ret<|af ?_;cases h;exact zf (.one (.tmp Z)) Conv.zs
 ·refine zo g1 h fun h=>zk<|zT<|qR<|zM Z<|zM Z<|yS Z (aa.build Z Ns Z Z Z)<|yS Z (bv (H':=[.box (kA seed n QW)]) Z Z Z Z Z)<|mN Z<|qR<|zM Z<|zg h fun q1 h=>yS Z (aa.makeSliceX be 0 Z Z Z dN (z:=.int .i64 0) (by kernel_rfl) Z q1 Z Z)<|mN Z<|zQ<|qR<|zM Z<|yS Z (aa.lenVM Z Z Z (by kernel_rfl))<|mN Z ?_;obtain⟨v2,p2,b2⟩:=zB h;clear h;refine LW.tail (E:=[(1,(iQ n)),(4,.zs),(5,.ptr 0 0),(6,(jI 1 v2.l))]) (O:=[.box (kA seed n v2.d),.vec 1 (v2.l.map be)]) ?_<|fun e2 K2 u2=>?_
  ·refine LW.block ?_;refine LW.iterB (E:=fun x1:pn=>[(1,(iQ n)),(4,.zs),(5,.ptr 0 0),(6,(jI 1 x1.l)),(18,.p (.int .i64 ((replicate n.toNat (0:Int)).length:Int))),(19,(iQ x1.t19))]) (O:=fun x1=>[.box (kA seed n x1.d),.vec 1 (x1.l.map be)]) p2 (au 2 ⟨Z,Z,Z,Z,Z,Z,t_⟩)<|fun x1 z1 h m1=>?_;unfold t7 at h;refine qR<|yS Z (am Z Z Z Z)<|nT<|zQ ?_;refine zX Z (fun g2=>?_)<|fun g2=>?_
   ·refine zi g2 h fun h=>zk<|zT<|zQ<|zl<|qR<|zM Z<|mN Z<|zR<|zM Z<|zM Z<|zM Z<|zM Z<|zb h fun v3 a3 h=>yS Z (yC Z Z Z (LC.pre (OH a3) Z Z Z))<|zb h fun y1 j1 h=>yS Z (aa.indexAddrVX Z Z Z Z dN j1) ?_;refine yS Z (aa.storeVX (f:=be) (l:=x1.l) v3.1 Z Z Z Z aV (fun _=>rfl) j1 Z) ?_;refine zN<|ae<|zT<|zR<|yS Z (am Z Z Z Z)<|mN Z ?_;cases h;exact⟨_,rfl,zW 2 ⟨rfl,rfl,rfl,(Q2 (rfl)),rfl,rfl,trivial⟩ Z Z Z rfl⟩
   ·refine zo g2 h fun h=>zq<|aj<|aj<|zy<|zT ?_;cases h;obtain rfl:=(m1 _ rfl);exact au 2 ⟨Z,Z,Z,Z,t_⟩
  ·have h:=b2;clear p2;refine zT<|LW.weak u2<|zQ<|qR<|zM Z<|yS Z (zn Z Z)<|yS Z (zA Z Z xj)<|yS Z (yC Z Z Z (Qj (off:=52) Z Z))<|zM Z<|yS Z (am Z Z Z Z)<|nT ?_;refine zX Z (fun g3=>?_)<|fun g3=>?_
   ·refine zi g3 h fun h=>qR<|mN Z<|LW.ret<|af ?_;cases h;exact zf (.one (.tmp Z)) Conv.zs
   ·refine zo g3 h fun h=>zk<|zT<|qR<|zM Z<|mN Z<|zr ?_;cases h;exact zf (.one (.tmp Z))<|(Conv.vecAll Z Z Z)
structure pC where
 i:Int
def rL (names:List ID)(id:ID)(x1:pC):Option (pC⊕(pC⊕Int)):=bif decide (x1.i<(names.length:Int))then (ix names x1.i).bind fun y1=>bif ((y1.1==id.1)&&((y1.2==id.2)&&true))then some (.inr (.inr x1.i))else some (.inl (pC.mk (i64.wrap (x1.i+1))))else some (.inr (.inl (pC.mk x1.i)))
def C0 (names:List ID)(id:ID):Option Int:=(iter (rL names id) aY (pC.mk 0)).bind fun b_v1=>Sum.elim (fun _=>some (-1)) some b_v1
theorem L9 {id:ID}(h:C0 names id=some r_):aq prog 174 [.slice 2 (names.map aX),aX id] [.int .i64 r_]:=by
 refine zh Tryz.func174 Z Z Z Z ?_;unfold C0 at h;refine qR<|yS Z (bv Z Z Z Z Z)<|mN Z<|zQ<|qR<|mN Z ?_;obtain⟨w1,p1,q1⟩:=zB h;clear h;refine LW.tailB (b:=w1) (E:=fun v1=>[(4,(iQ 0))]) (O:=fun v1=>[.box [(uQ id.1),(uQ id.2)]]) ?_<|fun v1 f1 e1 K1 u1=>?_
 ·refine LW.block ?_;refine LW.iterB (E:=fun x1:pC=>[(0,.p (.slice 2 (names.map aX))),(3,.ptr 0 0),(4,(iQ 0)),(5,(iQ x1.i))]) (O:=fun x1=>[.box [(uQ id.1),(uQ id.2)]]) p1 (au 1 ⟨Z,Z,Z,Z,t_⟩)<|fun x1 z1 h m1=>?_;unfold rL at h;refine zQ<|qR<|zM Z<|zM Z<|yS Z (cx Z Z)<|yS Z (am Z Z Z Z)<|nT ?_;refine zX Z (fun g1=>?_)<|fun g1=>?_
  ·refine zi g1 h fun h=>zk<|zT<|zQ<|zl<|zQ<|dy<|zH Z<|zH Z<|zb h fun y1 j1 h=>yE Z (zx Z Z Z fH j1 Z)<|yE Z (bS Z Z Z aG Z Z)<|yE Z (zD Z Z Z aG Z Z)<|yE Z (aa.eqlAgg Z Z Z Z Z gY)<|LO.nil<|zT ?_;refine zX Z (fun g2=>?_)<|fun g2=>?_
   ·refine zi g2 h fun h=>qR<|zM Z<|mN Z<|zr<|ao<|af<|af<|ao<|af<|af ?_;cases h;obtain rfl:=(m1 _ rfl);have h:=bT q1;cases h;exact ba Z
   ·refine zo g2 h fun h=>zk<|ae<|zT<|zR<|zM Z<|yS Z (am Z Z Z Z)<|mN Z ?_;cases h;exact⟨_,rfl,au 1 ⟨Z,Z,Z,Z,t_⟩⟩
  ·refine zo g1 h fun h=>zq<|aj<|aj<|zy<|zT ?_;cases h;obtain rfl:=(m1 _ rfl);exact⟨_,rfl,au 1 ⟨Z,t_⟩⟩
 ·obtain rfl:=f1;have h:=cU q1;clear p1;refine zT<|LW.weak u1<|qR<|mN Z<|zr ?_;cases h;exact ba Z
def FW (x:Int)(n:Int):Option Int:=bif decide (0<=n)then some (bits .xor .u64 x (x.fdiv (2 ^ (min (Int.toNat n) u64.bits))))else none
theorem L2 {n:Int}(h:FW x n=some r_):aq prog 189 [.int .u64 x,.int .u64 n] [.int .u64 r_]:=by
 refine zh Tryz.func189 Z Z Z Z ?_;unfold FW at h;refine qR<|mN Z<|qR<|zM Z<|zM Z<|zM Z<|zg h fun q1 h=>yS Z (aa.shr Z Z Z (of_decide_eq_true q1))<|yS Z (am Z Z Z Z)<|mN Z<|zr ?_;cases h;exact ba Z
def Lj (x:Int):Option Int:=(FW x 30).bind fun v1=>(FW (u64.wrap (v1*13787848793156543929)) 27).bind fun v2=>(FW (u64.wrap (v2*10723151780598845931)) 31).bind fun v3=>some v3
theorem Qx (h:Lj x=some r_):aq prog 151 [.int .u64 x] [.int .u64 r_]:=by
 refine zh Tryz.func151 Z Z Z Z ?_;unfold Lj at h;refine qR<|mN Z<|qR<|zM Z<|zb h fun v1 a1 h=>yS Z (yP Z Z Z (L2 a1) bR)<|yS Z (am Z Z Z Z)<|mN Z<|qR<|zM Z<|zb h fun v2 a2 h=>yS Z (yP Z Z Z (L2 a2) bR)<|yS Z (am Z Z Z Z)<|mN Z<|qR<|zM Z<|zb h fun v3 a3 h=>yS Z (yP Z Z Z (L2 a3) bR)<|mN Z<|zr ?_;cases h;exact ba Z
def tM (h:Int)(x:Int):Option Int:=(Lj (u64.wrap ((bits .xor .u64 h x)+11400714819323198485))).bind fun v1=>some v1
theorem Aa {h:Int}(hr:tM h x=some r_):aq prog 120 [.int .u64 h,.int .u64 x] [.int .u64 r_]:=by
 refine zh Tryz.func120 Z Z Z Z ?_;unfold tM at hr;refine qR<|mN Z<|qR<|zM Z<|zM Z<|yS Z (am Z Z Z Z)<|yS Z (am Z Z Z Z)<|zb hr fun v1 a1 hr=>yS Z (yP Z Z Z (Qx a1) dB)<|mN Z<|zr ?_;cases hr;exact ba Z
structure jd where
 a:Int
 b:Int
 i:Int
def n8 (l:List Int)(x1:jd):Option (jd⊕jd):=bif decide (x1.i<=(l.length:Int))then (bif decide (x1.i<(l.length:Int))then (ix l x1.i).bind fun y1=>some y1 else some (u64.wrap ((l.length:Int)))).bind fun v2=>(tM x1.a v2).bind fun v3=>(tM x1.b (u64.wrap (18446744073709551615-v2))).bind fun v4=>some (.inl (jd.mk v3 v4 (i64.wrap (x1.i+1))))else some (.inr (jd.mk x1.a x1.b x1.i))
def Fo (l:List Int):Option ID:=(iter (n8 l) aY (jd.mk 1 2 0)).bind fun v1=>some (v1.a,v1.b)
theorem Qe {l:List Int}{r_:ID}(h:Fo l=some r_):aq prog 168 [.slice 1 (l.map kL)] [aX r_]:=by
 refine zh Tryz.func168 Z Z Z Z ?_;unfold Fo at h;refine qR<|yS Z (ze Z gT Z Z)<|nT<|qR<|mN Z<|qR<|mN Z<|zQ<|qR<|mN Z ?_;obtain⟨v1,p1,q1⟩:=zB h;clear h;refine LW.tail (E:=[(2,.ptr 0 0),(3,(uQ v1.a)),(4,(uQ v1.b))]) (O:=[.box [(uQ 0),(uQ 0)]]) ?_<|fun e1 K1 u1=>?_
 ·refine LW.block ?_;refine LW.iterB (E:=fun x1:jd=>[(0,.p (.slice 1 (l.map kL))),(2,.ptr 0 0),(3,(uQ x1.a)),(4,(uQ x1.b)),(5,(iQ x1.i))]) (O:=fun x1=>[.box [(uQ 0),(uQ 0)]]) p1 (au 1 ⟨Z,Z,Z,Z,Z,t_⟩)<|fun x1 z1 h m1=>?_;unfold n8 at h;refine zQ<|qR<|zM Z<|zM Z<|yS Z (cx Z Z)<|yS Z (am Z Z Z Z)<|nT ?_;refine zX Z (fun g1=>?_)<|fun g1=>?_
  ·refine zi g1 h fun h=>zk<|zT<|zQ<|zl<|qR<|zM Z<|yS Z (cx Z Z)<|yS Z (aa.convert (k':=.u64) Z Z (by kernel_rfl))<|mN Z ?_;obtain⟨v2,p2,q2⟩:=zB h;clear h;refine LW.cut (E:=[(0,.p (.slice 1 (l.map kL))),(2,.ptr 0 0),(3,(uQ x1.a)),(4,(uQ x1.b)),(5,(iQ x1.i)),(6,(uQ v2))]) (O:=[.box [(uQ 0),(uQ 0)]]) ?_ ?_
   ·have h:=p2;refine qR<|zM Z<|zM Z<|yS Z (cx Z Z)<|yS Z (am Z Z Z Z)<|nT ?_;refine zX Z (fun g2=>?_)<|fun g2=>?_
    ·refine zi g2 h fun h=>zR<|zM Z<|zM Z<|zb h fun y1 j1 h=>yS Z (zx Z Z Z E9 j1 Z)<|yS Z (bS Z Z Z iV Z Z)<|mN Z ?_;cases h;exact au 1 ⟨Z,Z,Z,Z,Z,Z,t_⟩
    ·refine zo g2 h fun h=>zk<|zT ?_;cases h;exact au 1 ⟨Z,Z,Z,Z,Z,Z,t_⟩
   ·have h:=q2;clear p2;refine qR<|zM Z<|zM Z<|zb h fun v3 a3 h=>yS Z (yP Z Z Z (Aa a3) bR)<|mN Z<|zR<|zM Z<|zM Z<|yS Z (am Z Z Z Z)<|zb h fun v4 a4 h=>yS Z (yP Z Z Z (Aa a4) bR)<|zM Z<|zN<|ae<|zT<|zR<|zM Z<|yS Z (am Z Z Z Z)<|mN Z ?_;cases h;exact⟨_,rfl,au 1 ⟨Z,Z,Z,Z,Z,t_⟩⟩
  ·refine zo g1 h fun h=>zq<|aj<|aj<|zy<|zT ?_;cases h;obtain rfl:=(m1 _ rfl);exact au 1 ⟨Z,Z,Z,t_⟩
 ·have h:=q1;clear p1;refine zT<|LW.weak u1<|qR<|zM Z<|zM Z<|yS Z (aa.build Z nE Z Z Z)<|yS Z (zs Z Z Z Z aG Z Z Z Z)<|nT<|zr ?_;cases h;exact zf (.one (eh Z Z)) zv
def Km (b:Bk):Option ID:=(Fo [1,u64.wrap (b.Slot),u64.wrap (b.From),b.Parent.1,b.Parent.2,b.Salt]).bind fun v1=>some v1
theorem P3 {b:Bk}{r_:ID}(h:Km b=some r_):aq prog 133 [ay b] [aX r_]:=by
 refine zh Tryz.func133 Z Z Z Z ?_;unfold Km at h;refine qR<|yS Z (bv Z Z Z Z Z)<|yS Z (ze Z gT Z Z)<|nT<|qR<|yS Z (zA Z Z fK)<|yS Z (zD Z Z Z aV Z Z)<|yS Z (aa.convert (k':=.u64) Z Z (by kernel_rfl))<|yS Z (zA Z Z sb)<|yS Z (zD Z Z Z aV Z Z)<|yS Z (aa.convert (k':=.u64) Z Z (by kernel_rfl))<|yS Z (zA Z Z gv)<|yS Z (aa.indexAddrA Z Z Z qB (by decide) (by decide))<|yS Z (zD Z Z Z iV Z Z)<|yS Z (zA Z Z gv)<|yS Z (aa.indexAddrA Z Z Z qB (by decide) (by decide))<|yS Z (zD Z Z Z iV Z Z)<|yS Z (zA Z Z HD)<|yS Z (zD Z Z Z iV Z Z)<|yS Z (gU Z E9 Z Z Z Z Z)<|zb h fun v1 a1 h=>yS Z (yP Z Z Z (Qe a1) dB)<|yS Z (zs Z Z Z Z aG Z Z Z Z)<|nT<|zr ?_;cases h;exact zf (.one (eh Z Z)) zv
structure pA where
 i:Int
 out:List ID
def uc (l:List Bk)(x1:pA):Option (pA⊕pA):=bif decide (x1.i<(l.length:Int))then (ix l x1.i).bind fun y1=>(Km y1).bind fun v2=>bif bG x1.out.length [v2].length 16 then some (.inl (pA.mk (i64.wrap (x1.i+1)) (x1.out++[v2])))else none else some (.inr (pA.mk x1.i x1.out))
def Ko (l:List Bk):Option (List ID):=(iter (uc l) aY (pA.mk 0 ([]:List ID))).bind fun v1=>some v1.out
theorem P7 {l:List Bk}{r_:(List ID)}(h:Ko l=some r_):aq prog 143 [.slice 5 (l.map ay)] [.slice 2 (r_.map aX)]:=by
 refine zh Tryz.func143 Z Z Z Z ?_;unfold Ko at h;refine qR<|mN Z<|qR<|mN Z<|zQ<|qR<|mN Z<|LW.ent (bW.lazy (t:=3) (m:=2) Z Z Z) ?_;obtain⟨v1,p1,b1⟩:=zB h;clear h;refine LW.tail (E:=[(2,.zs),(3,.vec 2 0 (v1.out.map aX).length 0 (v1.out.map aX).length)]) (O:=[.vec 2 (v1.out.map aX)]) ?_<|fun e1 K1 u1=>?_
 ·refine LW.block ?_;refine LW.iterB (E:=fun x1:pA=>[(0,(kB l)),(2,.zs),(3,.vec 2 0 (x1.out.map aX).length 0 (x1.out.map aX).length),(4,(iQ x1.i))]) (O:=fun x1=>[.vec 2 (x1.out.map aX)]) p1 (au 1 ⟨Z,Z,Z,Z,t_⟩)<|fun x1 z1 h m1=>?_;unfold uc at h;refine zQ<|qR<|zM Z<|zM Z<|yS Z (cx Z Z)<|yS Z (am Z Z Z Z)<|nT ?_;refine zX Z (fun g1=>?_)<|fun g1=>?_
  ·refine zi g1 h fun h=>zk<|zT<|zQ<|zl<|zR<|zM Z<|zM Z<|zM Z<|zb h fun y1 j1 h=>yS Z (zx Z Z Z cp j1 Z)<|yS Z (bS Z Z Z ca Z Z)<|zb h fun v2 a2 h=>yS Z (yP Z Z Z (P3 a2) dB)<|yS Z (gU Z fH Z Z Z Z Z)<|zg h fun q1 h=>yS Z (aa.appendX aX x1.out [v2] rfl Z Z Z iC.p Z fH q1 Z)<|zM Z<|zN<|ae<|zT<|zR<|zM Z<|yS Z (am Z Z Z Z)<|mN Z ?_;cases h;exact⟨_,rfl,au 1 ⟨Z,Z,Z,Z,t_⟩⟩
  ·refine zo g1 h fun h=>zq<|aj<|aj<|zy<|zT ?_;cases h;obtain rfl:=(m1 _ rfl);exact au 1 ⟨Z,Z,t_⟩
 ·have h:=b1;clear p1;refine zT<|LW.weak u1<|qR<|zM Z<|mN Z<|zr ?_;cases h;exact zf (.one (.tmp Z))<|(Conv.vecAll Z Z Z)
structure gJ where
 i:Int
def rJ (l:List Bk)(names:List ID)(x1:gJ):Option (gJ⊕(gJ⊕Bool)):=bif decide (x1.i<(l.length:Int))then (ix l x1.i).bind fun y1=>((ix names x1.i).bind fun y2=>bif ((y2.1==0)&&((y2.2==0)&&true))then some true else bif xp names 0 x1.i then (ix names x1.i).bind fun y3=>(C0 (names.take x1.i.toNat) y3).bind fun v3=>bif decide (v3>=0)then some true else some (decide (y1.Slot<1))else none).bind fun v2=>bif v2 then some (.inr (.inr false))else bif ((y1.Parent.1==0)&&((y1.Parent.2==0)&&true))then some (.inl (gJ.mk (i64.wrap (x1.i+1))))else bif xp names 0 x1.i then (C0 (names.take x1.i.toNat) y1.Parent).bind fun v4=>bif decide (v4<0)then some (.inr (.inr false))else (ix l v4).bind fun y4=>bif decide (y4.Slot>=y1.Slot)then some (.inr (.inr false))else some (.inl (gJ.mk (i64.wrap (x1.i+1))))else none else some (.inr (.inl (gJ.mk x1.i)))
def MZ (l:List Bk)(names:List ID):Option Bool:=(iter (rJ l names) aY (gJ.mk 0)).bind fun b_v1=>Sum.elim (fun _=>some true) some b_v1
theorem Rg {l:List Bk}{r_:Bool}(h:MZ l names=some r_):aq prog 173 [.slice 5 (l.map ay),.slice 2 (names.map aX)] [.bool r_]:=by
 refine zh Tryz.func173 Z Z Z Z ?_;unfold MZ at h;refine qR<|mN Z<|zQ<|qR<|mN Z ?_;obtain⟨w1,p1,b1⟩:=zB h;clear h;refine LW.tailB (b:=w1) (E:=fun v1=>[(4,(bQ false))]) (O:=fun v1=>[]) ?_<|fun v1 f1 e1 K1 u1=>?_
 ·refine LW.block ?_;refine LW.iterB (E:=fun x1:gJ=>[(0,(kB l)),(1,.p (.slice 2 (names.map aX))),(4,(bQ false)),(5,(iQ x1.i))]) (O:=fun x1=>[]) p1 (au 0 ⟨Z,Z,Z,Z,t_⟩)<|fun x1 z1 h m1=>?_;unfold rJ at h;refine zQ<|qR<|zM Z<|zM Z<|yS Z (cx Z Z)<|yS Z (am Z Z Z Z)<|nT ?_;refine zX Z (fun g1=>?_)<|fun g1=>?_
  ·refine zi g1 h fun h=>zk<|zT<|zQ<|zl<|qR<|zM Z<|zM Z<|zb h fun y1 j1 h=>yS Z (zx Z Z Z cp j1 Z)<|yS Z (bS Z Z Z ca Z Z)<|yS Z (ze Z vt Z Z)<|yS Z (zs Z Z Z Z ca Z Z Z Z)<|nT<|zQ ?_;obtain⟨v2,p2,b2⟩:=zB h;clear h;refine LW.cut (E:=[(0,(kB l)),(1,.p (.slice 2 (names.map aX))),(4,(bQ false)),(5,(iQ x1.i)),(6,.ptr 0 0),(39,(bQ v2))]) (O:=[.box [(iQ y1.Slot),(iQ y1.From),(uQ y1.Parent.1),(uQ y1.Parent.2),(uQ y1.Salt)]]) ?_ ?_
   ·have h:=p2;refine dy<|zH Z<|zH Z<|zb h fun y2 j2 h=>yE Z (zx Z Z Z fH j2 Z)<|yE Z (bS Z Z Z aG Z Z)<|yE Z (aa.build Z nE Z Z Z)<|yE Z (aa.eqlAgg Z Z Z Z Z gY)<|zH Z ?_;refine LO.cases 24 Z (fun(g2:((y2.1==0)&&((y2.2==0)&&true))=true)=>?_) (fun(g2:((y2.1==0)&&((y2.2==0)&&true))=false)=>?_)
    ·refine zi g2 h fun h=>yK Z (gd g2 Z) Z<|yK Z (gd g2 Z) Z<|yK Z (gd g2 Z) Z<|yK Z (gd g2 Z) Z<|yK Z (gd g2 Z) Z<|yK Z (gd g2 Z) Z<|yK Z (gd g2 Z) Z<|yK Z (gd g2 Z) Z<|yK Z (gd g2 Z) Z<|yE Z (bA Z (aK g2 Z) Z)<|zH Z<|bY Z<|bY Z<|bY Z<|yE Z (bA Z Z Z)<|LO.nil<|zT ?_;cases h;exact au 1 ⟨Z,Z,Z,Z,Z,Z,t_⟩
    ·refine zo g2 h fun h=>yL Z (gd g2 Z) (zm Z Z)<|yL Z (gd g2 Z) (zm Z Z)<|zg h fun q1 h=>yL Z (gd g2 Z) (aa.sliceHi Z Z Z fH q1)<|yL Z (gd g2 Z) (zm Z Z)<|yL Z (gd g2 Z) (zm Z Z)<|zb h fun y3 j3 h=>yL Z (gd g2 Z) (zx Z Z Z fH j3 Z)<|yL Z (gd g2 Z) (bS Z Z Z aG Z Z)<|zb h fun v3 a3 h=>yL Z (gd g2 Z) (yP Z Z Z (L9 a3) bR)<|yL Z (gd g2 Z) (am Z Z Z Z)<|yE Z (aU Z (aK g2 Z) Z)<|zH Z ?_;refine LO.cases 35 Z (fun(g3:(decide (v3>=0))=true)=>?_) (fun(g3:(decide (v3>=0))=false)=>?_)
     ·refine zi g3 h fun h=>yK Z (gd g3 Z) Z<|yK Z (gd g3 Z) Z<|yK Z (gd g3 Z) Z<|yE Z (bA Z (aK g3 Z) Z)<|LO.nil<|zT ?_;cases h;exact au 1 ⟨Z,Z,Z,Z,Z,Z,t_⟩
     ·refine zo g3 h fun h=>yL Z (gd g3 Z) (zA Z Z fK)<|yL Z (gd g3 Z) (zD Z Z Z aV Z Z)<|yL Z (gd g3 Z) (am Z Z Z Z)<|yE Z (aU Z (aK g3 Z) Z)<|LO.nil<|zT ?_;cases h;exact au 1 ⟨Z,Z,Z,Z,Z,Z,t_⟩
   ·have h:=b2;clear p2;refine zX Z (fun g4=>?_)<|fun g4=>?_
    ·refine zi g4 h fun h=>qR<|mN Z<|LW.ret<|af<|ao<|af<|af<|ao<|af<|af ?_;cases h;obtain rfl:=(m1 _ rfl);have h:=bT b1;cases h;exact ba Z
    ·refine zo g4 h fun h=>zk<|zT<|zQ<|qR<|yS Z (zA Z Z gv)<|yS Z (zD Z Z Z aG Z Z)<|yS Z (aa.build Z nE Z Z Z)<|yS Z (aa.eqlAgg Z Z Z Z Z gY)<|nT ?_;refine zX Z (fun g5=>?_)<|fun g5=>?_
     ·refine zi g5 h fun h=>zq<|aj<|zy<|zT<|zR<|zM Z<|yS Z (am Z Z Z Z)<|mN Z ?_;cases h;exact⟨_,rfl,au 0 ⟨Z,Z,Z,Z,t_⟩⟩
     ·refine zo g5 h fun h=>zk<|zT<|zQ<|dy<|zH Z<|zH Z<|zg h fun q2 h=>yE Z (aa.sliceHi Z Z Z fH q2)<|yE Z (zA Z Z gv)<|yE Z (zD Z Z Z aG Z Z)<|zb h fun v4 a4 h=>yE Z (yP Z Z Z (L9 a4) bR)<|zH Z<|LO.nil<|zT<|zQ<|dy<|zH Z<|yE Z (am Z Z Z Z)<|zH Z ?_;refine LO.cases 52 Z (fun(g6:(decide (v4<0))=true)=>?_) (fun(g6:(decide (v4<0))=false)=>?_)
      ·refine zi g6 h fun h=>yK Z (gd g6 Z) Z<|yK Z (gd g6 Z) Z<|yK Z (gd g6 Z) Z<|yK Z (gd g6 Z) Z<|yK Z (gd g6 Z) Z<|yK Z (gd g6 Z) Z<|yK Z (gd g6 Z) Z<|yK Z (gd g6 Z) Z<|yE Z (bA Z (aK g6 Z) Z)<|LO.nil<|zT<|LW.condT Z<|qR<|mN Z<|zr<|ao<|af<|af<|ao<|af<|af ?_;cases h;obtain rfl:=(m1 _ rfl);have h:=bT b1;cases h;exact ba Z
      ·refine zo g6 h fun h=>yL Z (gd g6 Z) (zm Z Z)<|yL Z (gd g6 Z) (zm Z Z)<|zb h fun y4 j4 h=>yL Z (gd g6 Z) (zx Z Z Z cp j4 Z)<|yL Z (gd g6 Z) (aa.fieldAddrC Z Z fK Z)<|yL Z (gd g6 Z) (bS Z Z Z aV Z Z)<|yL Z (gd g6 Z) (zA Z Z fK)<|yL Z (gd g6 Z) (zD Z Z Z aV Z Z)<|yL Z (gd g6 Z) (am Z Z Z Z)<|yE Z (aU Z (aK g6 Z) Z)<|LO.nil<|zT ?_;refine zX Z (fun g7=>?_)<|fun g7=>?_
       ·refine zi g7 h fun h=>qR<|mN Z<|LW.ret<|ao<|af<|af<|ao<|af<|af ?_;cases h;obtain rfl:=(m1 _ rfl);have h:=bT b1;cases h;exact ba Z
       ·refine zo g7 h fun h=>zk<|ae<|zT<|zR<|zM Z<|yS Z (am Z Z Z Z)<|mN Z ?_;cases h;exact⟨_,rfl,au 0 ⟨Z,Z,Z,Z,t_⟩⟩
  ·refine zo g1 h fun h=>zq<|aj<|aj<|zy<|zT ?_;cases h;obtain rfl:=(m1 _ rfl);exact⟨_,rfl,au 0 ⟨Z,t_⟩⟩
 ·obtain rfl:=f1;have h:=cU b1;clear p1;refine zT<|LW.weak u1<|qR<|mN Z<|zr ?_;cases h;exact ba Z
structure pk where
 i:Int
 id:ID
 out:List ID
def rG (l:List Bk)(v1:(List ID))(x1:pk):Option (pk⊕pk):=bif decide (x1.i>=0)then (ix l x1.i).bind fun y1=>bif bG x1.out.length [y1.Parent].length 16 then (C0 v1 y1.Parent).bind fun v6=>some (.inl (pk.mk v6 y1.Parent (x1.out++[y1.Parent])))else none else some (.inr (pk.mk x1.i x1.id x1.out))
def MS (l:List Bk)(id:ID):Option (List ID):=(Ko l).bind fun v1=>(MZ l v1).bind fun v2=>(C0 v1 id).bind fun v3=>(bif !v2 then some (.inr [])else bif decide (v3<0)then bif !((id.1==0)&&((id.2==0)&&true))then some (.inr [])else some (.inl ())else some (.inl ())).bind fun b_v4=>Sum.elim (fun _=>(iter (rG l v1) aY (pk.mk v3 id [id])).bind fun v5=>some v5.out) some b_v4
theorem Q9 {l:List Bk}{id:ID}{r_:(List ID)}(h:MS l id=some r_):aq prog 136 [.slice 5 (l.map ay),aX id] [.slice 2 (r_.map aX)]:=by
 refine zh Tryz.func136 Z Z Z Z ?_;unfold MS at h;refine qR<|yS Z (bv Z Z Z Z Z)<|mN Z<|qR<|zM Z<|zb h fun v1 a1 h=>yS Z (yP Z Z Z (P7 a1) dB)<|mN Z<|qR<|zM Z<|zM Z<|zb h fun v2 a2 h=>yS Z (yP Z Z Z (Rg a2) bR)<|mN Z<|qR<|zM Z<|yS Z (zD Z Z Z aG Z Z)<|zb h fun v3 a3 h=>yS Z (yP Z Z Z (L9 a3) bR)<|mN Z ?_;obtain⟨w4,p4,b4⟩:=zB h;clear h;refine LW.cutB (b:=w4) (E:=fun v4=>[(0,(kB l)),(3,.ptr 0 0),(4,.zs),(5,.p (.slice 2 (v1.map aX))),(7,(iQ v3))]) (O:=fun v4=>[.box [(uQ id.1),(uQ id.2)]]) ?_<|fun v4 f4=>?_
 ·have h:=p4;refine qR<|zM Z<|yS Z (aa.not Z Z)<|zM Z ?_;refine zc 19 Z (fun g1=>?_)<|fun g1=>?_
  ·refine zi g1 h fun h=>yU Z (gd g1 Z) Z<|yU Z (gd g1 Z) Z<|yU Z (gd g1 Z) Z<|zY Z Z Z Z Z<|zY Z Z Z Z Z<|zY Z Z Z Z Z<|yU Z (gd g1 Z) Z<|yS Z (bA Z (aK g1 Z) Z)<|nT<|LW.condT Z<|qR<|mN Z<|zr<|af ?_;cases h;have h:=bT b4;cases h;exact zf (.one (.tmp Z)) Conv.zs
  ·refine zo g1 h fun h=>yV Z (gd g1 Z) (zm Z Z)<|yV Z (gd g1 Z) (am Z Z Z Z)<|yV Z (gd g1 Z) (zm Z Z) ?_;refine zc 22 Z (fun g2=>?_)<|fun g2=>?_
   ·refine zi g2 h fun h=>yV Z (gd g2 Z) (zD Z Z Z aG Z Z)<|yV Z (gd g2 Z) (aa.build Z nE Z Z Z)<|yV Z (gd g2 Z) (aa.neqAgg Z Z Z Z Z gY)<|yV Z (gd g1 Z) (bA Z (aK g2 Z) Z)<|yS Z (aU Z (aK g1 Z) Z)<|nT ?_;refine zX Z (fun g3=>?_)<|fun g3=>?_
    ·refine zi g3 h fun h=>qR<|mN Z<|LW.ret<|af ?_;cases h;have h:=bT b4;cases h;exact zf (.one (.tmp Z)) Conv.zs
    ·refine zo g3 h fun h=>zk<|zT ?_;cases h;exact⟨_,rfl,au 1 ⟨Z,Z,Z,Z,Z,t_⟩⟩
   ·refine zo g2 h fun h=>yU Z (gd g2 Z) Z<|yU Z (gd g2 Z) Z<|yU Z (gd g2 Z) Z<|yV Z (gd g1 Z) (aU Z (aK g2 Z) Z)<|yS Z (aU Z (aK g1 Z) Z)<|nT<|LW.condF Z<|zk<|zT ?_;cases h;exact⟨_,rfl,au 1 ⟨Z,Z,Z,Z,Z,t_⟩⟩
 ·obtain rfl:=f4;have h:=cU b4;clear p4;refine qR<|yS Z (zD Z Z Z aG Z Z)<|yS Z (aa.buildSliceV aX [id] rfl fH Z Z Z Z Z Z Z Z Z)<|mN Z ?_;obtain⟨v5,p5,b5⟩:=zB h;clear h;refine LW.cut (E:=[(4,.zs),(8,.vec 2 1 (v5.out.map aX).length 0 (v5.out.map aX).length)]) (O:=[.box [(uQ v5.id.1),(uQ v5.id.2)],.vec 2 (v5.out.map aX)]) ?_ ?_
  ·refine LW.block ?_;refine LW.iterB (E:=fun x1:pk=>[(0,(kB l)),(3,.ptr 0 0),(4,.zs),(5,.p (.slice 2 (v1.map aX))),(7,(iQ x1.i)),(8,.vec 2 1 (x1.out.map aX).length 0 (x1.out.map aX).length)]) (O:=fun x1=>[.box [(uQ x1.id.1),(uQ x1.id.2)],.vec 2 (x1.out.map aX)]) p5 (au 2 ⟨Z,Z,Z,Z,Z,Z,t_⟩)<|fun x1 z1 h m1=>?_;unfold rG at h;refine zQ<|qR<|zM Z<|yS Z (am Z Z Z Z)<|nT ?_;refine zX Z (fun g4=>?_)<|fun g4=>?_
   ·refine zi g4 h fun h=>zk<|zT<|zl<|qR<|zM Z<|zM Z<|zb h fun y1 j1 h=>yS Z (zx Z Z Z cp j1 Z)<|yS Z (aa.fieldAddrC Z Z gv Z)<|yS Z (bS Z Z Z aG Z Z)<|yS Z (zs Z Z Z Z aG Z Z Z Z)<|nT<|qR<|zM Z<|yS Z (zD Z Z Z aG Z Z)<|yS Z (gU Z fH Z Z Z Z Z)<|zg h fun q1 h=>yS Z (aa.appendX aX x1.out [y1.Parent] rfl Z Z Z iC.p Z fH q1 Z)<|mN Z<|zR<|zM Z<|yS Z (zD Z Z Z aG Z Z)<|zb h fun v6 a6 h=>yS Z (yP Z Z Z (L9 a6) bR)<|zM Z<|zN<|ae<|zT ?_;cases h;exact⟨_,rfl,au 2 ⟨Z,Z,Z,Z,Z,Z,t_⟩⟩
   ·refine zo g4 h fun h=>zq<|aj<|aj<|zy<|zT ?_;cases h;obtain rfl:=(m1 _ rfl);exact au 2 ⟨Z,Z,t_⟩
  ·have h:=b5;clear p5;refine qR<|zM Z<|mN Z<|zr ?_;cases h;exact zf (.one (.tmp Z))<|(Conv.vecAll Z Z Z)
def Lm (l:List Bk)(low:ID)(id:ID):Option Bool:=(MS l id).bind fun v1=>(C0 v1 low).bind fun v2=>some (decide (v2>=0))
theorem QP {l:List Bk}{low:ID}{id:ID}{r_:Bool}(h:Lm l low id=some r_):aq prog 138 [.slice 5 (l.map ay),aX low,aX id] [.bool r_]:=by
 refine zh Tryz.func138 Z Z Z Z ?_;unfold Lm at h;refine qR<|yS Z (bv Z Z Z Z Z)<|yS Z (bv Z Z Z Z Z)<|mN Z<|zQ<|dy<|zH Z<|yE Z (zD Z Z Z aG Z Z)<|zb h fun v1 a1 h=>yE Z (yP Z Z Z (Q9 a1) bR)<|yE Z (zD Z Z Z aG Z Z)<|zb h fun v2 a2 h=>yE Z (yP Z Z Z (L9 a2) bR)<|yE Z (am Z Z Z Z)<|zH Z<|LO.nil<|zT<|zr ?_;cases h;exact ba Z
def M7 (c:Cu)(l:List Bk)(head:ID)(found:ID)(v_is:Bool)(slot:Int):Option Cu:=(Lm l c.ID head).bind fun v1=>(bif !v1 then some (Cu.mk (0,0) slot (i64.wrap (c.Revoked+1)))else some c).bind fun v2=>(Lm l v2.ID found).bind fun v3=>(Lm l found head).bind fun v4=>(bif v_is then bif v3 then bif v4 then some (!((v2.ID.1==found.1)&&((v2.ID.2==found.2)&&true)))else some false else some false else some false).bind fun v5=>bif v5 then some (Cu.mk found slot v2.Revoked)else some v2
theorem Rp {c:Cu}{l:List Bk}{head:ID}{found:ID}{v_is:Bool}{r_:Cu}(h:M7 c l head found v_is slot=some r_):aq prog 97 [tg c,.slice 5 (l.map ay),aX head,aX found,.bool v_is,.int .i64 slot] [tg r_]:=by
 refine zh Tryz.func97 Z Z Z Z ?_;unfold M7 at h;refine qR<|yS Z (bv Z Z Z Z Z)<|yS Z (bv Z Z Z Z Z)<|yS Z (bv Z Z Z Z Z)<|yS Z (ze Z MQ Z Z)<|nT<|qR<|yS Z (zD Z Z Z gy Z Z)<|yS Z (ze Z MQ Z Z)<|yS Z (zs Z Z Z Z gy Z Z Z Z)<|nT<|qR<|zM Z<|yS Z (zA Z Z mH)<|yS Z (zD Z Z Z aG Z Z)<|yS Z (zD Z Z Z aG Z Z)<|zb h fun v1 a1 h=>yS Z (yP Z Z Z (QP a1) oU)<|mN Z ?_;obtain⟨v2,p2,q2⟩:=zB h;clear h;refine LW.cut (E:=[(1,(kB l)),(4,(bQ v_is)),(5,(iQ slot)),(8,.ptr 1 0),(9,.ptr 2 0),(12,.ptr 3 0),(13,.ptr 4 0)]) (O:=[.box [(uQ c.ID.1),(uQ c.ID.2),(iQ c.Slot),(iQ c.Revoked)],.box [(uQ head.1),(uQ head.2)],.box [(uQ found.1),(uQ found.2)],.box [(uQ 0),(uQ 0),(iQ 0),(iQ 0)],.box [(uQ v2.ID.1),(uQ v2.ID.2),(iQ v2.Slot),(iQ v2.Revoked)]]) ?_ ?_
 ·have h:=p2;refine qR<|zM Z<|yS Z (aa.not Z Z)<|nT ?_;refine zX Z (fun g1=>?_)<|fun g1=>?_
  ·refine zi g1 h fun h=>qR<|yS Z (aa.build Z nE Z Z Z)<|yS Z (zA Z Z mH)<|yS Z (zs Z Z Z Z aG Z Z Z Z)<|nT<|qR<|zM Z<|yS Z (zA Z Z xl)<|yS Z (zs Z Z Z Z aV Z Z Z Z)<|nT<|zR<|yS Z (zA Z Z BU)<|yS Z (zD Z Z Z aV Z Z)<|yS Z (am Z Z Z Z)<|yS Z (zA Z Z BU)<|yS Z (zs Z Z Z Z aV Z Z Z Z)<|nT ?_;cases h;exact au 5 ⟨Z,Z,Z,Z,Z,Z,Z,t_⟩
  ·refine zo g1 h fun h=>zk<|zT ?_;cases h;exact au 5 ⟨Z,Z,Z,Z,Z,Z,Z,t_⟩
 ·have h:=q2;clear p2;refine qR<|zM Z<|yS Z (zA Z Z mH)<|yS Z (zD Z Z Z aG Z Z)<|yS Z (zD Z Z Z aG Z Z)<|zb h fun v3 a3 h=>yS Z (yP Z Z Z (QP a3) oU)<|mN Z<|qR<|zM Z<|yS Z (zD Z Z Z aG Z Z)<|yS Z (zD Z Z Z aG Z Z)<|zb h fun v4 a4 h=>yS Z (yP Z Z Z (QP a4) oU)<|mN Z<|zQ ?_;obtain⟨v5,p5,q5⟩:=zB h;clear h;refine LW.cut (E:=[(5,(iQ slot)),(9,.ptr 2 0),(12,.ptr 3 0),(13,.ptr 4 0),(54,(bQ v5))]) (O:=[.box [(uQ c.ID.1),(uQ c.ID.2),(iQ c.Slot),(iQ c.Revoked)],.box [(uQ head.1),(uQ head.2)],.box [(uQ found.1),(uQ found.2)],.box [(uQ 0),(uQ 0),(iQ 0),(iQ 0)],.box [(uQ v2.ID.1),(uQ v2.ID.2),(iQ v2.Slot),(iQ v2.Revoked)]]) ?_ ?_
  ·have h:=p5;refine zR<|zM Z<|zM Z ?_;refine zc 43 Z (fun g2=>?_)<|fun g2=>?_
   ·refine zi g2 h fun h=>yV Z (gd g2 Z) (zm Z Z)<|yS Z (bA Z (aK g2 Z) Z)<|zM Z ?_;refine zc 46 Z (fun g3=>?_)<|fun g3=>?_
    ·refine zi g3 h fun h=>yV Z (gd g3 Z) (zm Z Z)<|yS Z (bA Z (aK g3 Z) Z)<|zM Z ?_;refine zc 49 Z (fun g4=>?_)<|fun g4=>?_
     ·refine zi g4 h fun h=>yV Z (gd g4 Z) (zA Z Z mH)<|yV Z (gd g4 Z) (zD Z Z Z aG Z Z)<|yV Z (gd g4 Z) (zD Z Z Z aG Z Z)<|yV Z (gd g4 Z) (aa.neqAgg Z Z Z Z Z gY)<|yS Z (bA Z (aK g4 Z) Z)<|nT ?_;cases h;exact au 5 ⟨Z,Z,Z,Z,Z,t_⟩
     ·refine zo g4 h fun h=>yU Z (gd g4 Z) Z<|yU Z (gd g4 Z) Z<|yU Z (gd g4 Z) Z<|yU Z (gd g4 Z) Z<|yS Z (aU Z (aK g4 Z) Z)<|nT ?_;cases h;exact au 5 ⟨Z,Z,Z,Z,Z,t_⟩
    ·refine zo g3 h fun h=>yU Z (gd g3 Z) Z<|yS Z (aU Z (aK g3 Z) Z)<|zM Z<|aB Z<|aB Z<|aB Z<|aB Z<|yS Z (aU Z Z Z)<|nT ?_;cases h;exact au 5 ⟨Z,Z,Z,Z,Z,t_⟩
   ·refine zo g2 h fun h=>yU Z (gd g2 Z) Z<|yS Z (aU Z (aK g2 Z) Z)<|zM Z<|aB Z<|yS Z (aU Z Z Z)<|zM Z<|aB Z<|aB Z<|aB Z<|aB Z<|yS Z (aU Z Z Z)<|nT ?_;cases h;exact au 5 ⟨Z,Z,Z,Z,Z,t_⟩
  ·have h:=q5;clear p5;refine zX Z (fun g5=>?_)<|fun g5=>?_
   ·refine zi g5 h fun h=>qR<|yS Z (zD Z Z Z aG Z Z)<|yS Z (zA Z Z mH)<|yS Z (zs Z Z Z Z aG Z Z Z Z)<|nT<|zR<|zM Z<|yS Z (zA Z Z xl)<|yS Z (zs Z Z Z Z aV Z Z Z Z)<|nT<|qR<|yS Z (zD Z Z Z gy Z Z)<|yS Z (zs Z Z Z Z gy Z Z Z Z)<|nT<|zr ?_;cases h;exact zf (.one (eh Z Z)) zv
   ·refine zo g5 h fun h=>zk<|zT<|qR<|yS Z (zD Z Z Z gy Z Z)<|yS Z (zs Z Z Z Z gy Z Z Z Z)<|nT<|zr ?_;cases h;exact zf (.one (eh Z Z)) zv
structure kq where
 m:Int
 i:Int
def qa (x:List Int)(x1:kq):Option (kq⊕kq):=bif decide (x1.i<(x.length:Int))then (ix x x1.i).bind fun y2=>some (.inl (kq.mk (if y2<x1.m then y2 else x1.m) (i64.wrap (x1.i+1))))else some (.inr (kq.mk x1.m x1.i))
def Fw (x:List Int):Option Int:=bif decide ((x.length:Int)<1)then none else (ix x 0).bind fun y1=>(iter (qa x) aY (kq.mk y1 1)).bind fun v1=>some v1.m
theorem Qk {x:List Int}(h:Fw x=some r_):aq prog 73 [.slice 1 (x.map be)] [.int .i64 r_]:=by
 refine zh Tryz.func73 Z Z Z Z ?_;unfold Fw at h;refine qR<|mN Z<|zQ<|qR<|zM Z<|yS Z (cx Z Z)<|yS Z (am Z Z Z Z)<|nT ?_;refine zX Z (fun g1=>?_)<|fun g1=>?_
 ·have h:=zI g1 h;cases h
 ·refine zo g1 h fun h=>zk<|zT<|qR<|zM Z<|zb h fun y1 j1 h=>yS Z (zx Z Z Z dN j1 Z)<|yS Z (bS Z Z Z aV Z Z)<|mN Z<|zQ<|qR<|mN Z ?_;obtain⟨v1,p1,q1⟩:=zB h;clear h;refine LW.tail (E:=[(2,(iQ 0)),(3,(iQ v1.m))]) (O:=[]) ?_<|fun e1 K1 u1=>?_
  ·refine LW.block ?_;refine LW.iterB (E:=fun x1:kq=>[(0,(kI x)),(2,(iQ 0)),(3,(iQ x1.m)),(4,(iQ x1.i))]) (O:=fun x1=>[]) p1 (au 0 ⟨Z,Z,Z,Z,t_⟩)<|fun x1 z1 h m1=>?_;unfold qa at h;refine zQ<|qR<|zM Z<|zM Z<|yS Z (cx Z Z)<|yS Z (am Z Z Z Z)<|nT ?_;refine zX Z (fun g2=>?_)<|fun g2=>?_
   ·refine zi g2 h fun h=>zk<|zT<|zQ<|zl<|zR<|zM Z<|zM Z<|zM Z<|zb h fun y2 j2 h=>yS Z (zx Z Z Z dN j2 Z)<|yS Z (bS Z Z Z aV Z Z)<|yS Z (aa.min Z Z Z)<|zM Z<|zN<|ae<|zT<|zR<|zM Z<|yS Z (am Z Z Z Z)<|mN Z ?_;cases h;exact⟨_,rfl,au 0 ⟨Z,Z,Z,Z,t_⟩⟩
   ·refine zo g2 h fun h=>zq<|aj<|aj<|zy<|zT ?_;cases h;obtain rfl:=(m1 _ rfl);exact au 0 ⟨Z,Z,t_⟩
  ·have h:=q1;clear p1;refine zT<|LW.weak u1<|qR<|zM Z<|mN Z<|zr ?_;cases h;exact ba Z
structure kr where
 m:Int
 i:Int
def qb (x:List Int)(x1:kr):Option (kr⊕kr):=bif decide (x1.i<(x.length:Int))then (ix x x1.i).bind fun y2=>some (.inl (kr.mk (if y2>x1.m then y2 else x1.m) (i64.wrap (x1.i+1))))else some (.inr (kr.mk x1.m x1.i))
def Fx (x:List Int):Option Int:=bif decide ((x.length:Int)<1)then none else (ix x 0).bind fun y1=>(iter (qb x) aY (kr.mk y1 1)).bind fun v1=>some v1.m
theorem Ql {x:List Int}(h:Fx x=some r_):aq prog 74 [.slice 1 (x.map be)] [.int .i64 r_]:=by
 refine zh Tryz.func74 Z Z Z Z ?_;unfold Fx at h;refine qR<|mN Z<|zQ<|qR<|zM Z<|yS Z (cx Z Z)<|yS Z (am Z Z Z Z)<|nT ?_;refine zX Z (fun g1=>?_)<|fun g1=>?_
 ·have h:=zI g1 h;cases h
 ·refine zo g1 h fun h=>zk<|zT<|qR<|zM Z<|zb h fun y1 j1 h=>yS Z (zx Z Z Z dN j1 Z)<|yS Z (bS Z Z Z aV Z Z)<|mN Z<|zQ<|qR<|mN Z ?_;obtain⟨v1,p1,q1⟩:=zB h;clear h;refine LW.tail (E:=[(2,(iQ 0)),(3,(iQ v1.m))]) (O:=[]) ?_<|fun e1 K1 u1=>?_
  ·refine LW.block ?_;refine LW.iterB (E:=fun x1:kr=>[(0,(kI x)),(2,(iQ 0)),(3,(iQ x1.m)),(4,(iQ x1.i))]) (O:=fun x1=>[]) p1 (au 0 ⟨Z,Z,Z,Z,t_⟩)<|fun x1 z1 h m1=>?_;unfold qb at h;refine zQ<|qR<|zM Z<|zM Z<|yS Z (cx Z Z)<|yS Z (am Z Z Z Z)<|nT ?_;refine zX Z (fun g2=>?_)<|fun g2=>?_
   ·refine zi g2 h fun h=>zk<|zT<|zQ<|zl<|zR<|zM Z<|zM Z<|zM Z<|zb h fun y2 j2 h=>yS Z (zx Z Z Z dN j2 Z)<|yS Z (bS Z Z Z aV Z Z)<|yS Z (aa.max Z Z Z)<|zM Z<|zN<|ae<|zT<|zR<|zM Z<|yS Z (am Z Z Z Z)<|mN Z ?_;cases h;exact⟨_,rfl,au 0 ⟨Z,Z,Z,Z,t_⟩⟩
   ·refine zo g2 h fun h=>zq<|aj<|aj<|zy<|zT ?_;cases h;obtain rfl:=(m1 _ rfl);exact au 0 ⟨Z,Z,t_⟩
  ·have h:=q1;clear p1;refine zT<|LW.weak u1<|qR<|zM Z<|mN Z<|zr ?_;cases h;exact ba Z
def D9 (c:Cf):Option Bool:=(bif (c.W.length:Int)==0 then some true else bif decide ((c.W.length:Int)>12)then some true else (Fw c.W).bind fun v2=>bif decide (v2<0)then some true else (Fx c.W).bind fun v3=>some (decide (v3>1099511627776))).bind fun v1=>bif v1 then some false else bif decide (c.Epoch>0)then bif decide (c.Epoch<=8)then bif decide (c.Num>=0)then bif decide (c.Num<=c.Den)then bif decide (c.Den>0)then some (decide (c.Den<=1000))else some false else some false else some false else some false else some false
theorem L5 {r_:Bool}(h:D9 c=some r_):aq prog 36 [gF c] [.bool r_]:=by
 refine zh Tryz.func36 Z Z Z Z ?_;unfold D9 at h;refine qR<|yS Z (bv Z Z Z Z Z)<|mN Z<|zQ ?_;obtain⟨v1,p1,q1⟩:=zB h;clear h;refine LW.cut (E:=[(1,.ptr 0 0),(2,(bQ false)),(24,(bQ v1))]) (O:=[.box (cd c)]) ?_ ?_
 ·have h:=p1;refine zR<|yS Z (zA Z Z dZ)<|yS Z (zD Z Z Z d6 Z Z)<|yS Z (cx Z Z)<|yS Z (am Z Z Z Z)<|zM Z ?_;refine zc 7 Z (fun g1=>?_)<|fun g1=>?_
  ·refine zi g1 h fun h=>yU Z (gd g1 Z) Z<|yU Z (gd g1 Z) Z<|yU Z (gd g1 Z) Z<|yU Z (gd g1 Z) Z<|yS Z (bA Z (aK g1 Z) Z)<|zM Z<|aB Z<|aB Z<|aB Z<|aB Z<|yS Z (bA Z Z Z)<|zM Z<|aB Z<|aB Z<|aB Z<|aB Z<|yS Z (bA Z Z Z)<|nT ?_;cases h;exact au 1 ⟨Z,Z,Z,t_⟩
  ·refine zo g1 h fun h=>yV Z (gd g1 Z) (zA Z Z dZ)<|yV Z (gd g1 Z) (zD Z Z Z d6 Z Z)<|yV Z (gd g1 Z) (cx Z Z)<|yV Z (gd g1 Z) (am Z Z Z Z)<|yS Z (aU Z (aK g1 Z) Z)<|zM Z ?_;refine zc 13 Z (fun g2=>?_)<|fun g2=>?_
   ·refine zi g2 h fun h=>yU Z (gd g2 Z) Z<|yU Z (gd g2 Z) Z<|yU Z (gd g2 Z) Z<|yU Z (gd g2 Z) Z<|yS Z (bA Z (aK g2 Z) Z)<|zM Z<|aB Z<|aB Z<|aB Z<|aB Z<|yS Z (bA Z Z Z)<|nT ?_;cases h;exact au 1 ⟨Z,Z,Z,t_⟩
   ·refine zo g2 h fun h=>yV Z (gd g2 Z) (zA Z Z dZ)<|yV Z (gd g2 Z) (zD Z Z Z d6 Z Z)<|zb h fun v2 a2 h=>yV Z (gd g2 Z) (yP Z Z Z (Qk a2) dB)<|yV Z (gd g2 Z) (am Z Z Z Z)<|yS Z (aU Z (aK g2 Z) Z)<|zM Z ?_;refine zc 19 Z (fun g3=>?_)<|fun g3=>?_
    ·refine zi g3 h fun h=>yU Z (gd g3 Z) Z<|yU Z (gd g3 Z) Z<|yU Z (gd g3 Z) Z<|yU Z (gd g3 Z) Z<|yS Z (bA Z (aK g3 Z) Z)<|nT ?_;cases h;exact au 1 ⟨Z,Z,Z,t_⟩
    ·refine zo g3 h fun h=>yV Z (gd g3 Z) (zA Z Z dZ)<|yV Z (gd g3 Z) (zD Z Z Z d6 Z Z)<|zb h fun v3 a3 h=>yV Z (gd g3 Z) (yP Z Z Z (Ql a3) dB)<|yV Z (gd g3 Z) (am Z Z Z Z)<|yS Z (aU Z (aK g3 Z) Z)<|nT ?_;cases h;exact au 1 ⟨Z,Z,Z,t_⟩
 ·have h:=q1;clear p1;refine zX Z (fun g4=>?_)<|fun g4=>?_
  ·refine zi g4 h fun h=>qR<|mN Z<|LW.ret<|af ?_;cases h;exact ba Z
  ·refine zo g4 h fun h=>zk<|zT<|qR<|yS Z (zA Z Z kS)<|yS Z (zD Z Z Z aV Z Z)<|yS Z (am Z Z Z Z)<|zM Z ?_;refine zc 28 Z (fun g5=>?_)<|fun g5=>?_
   ·refine zi g5 h fun h=>yV Z (gd g5 Z) (zA Z Z kS)<|yV Z (gd g5 Z) (zD Z Z Z aV Z Z)<|yV Z (gd g5 Z) (am Z Z Z Z)<|yS Z (bA Z (aK g5 Z) Z)<|zM Z ?_;refine zc 33 Z (fun g6=>?_)<|fun g6=>?_
    ·refine zi g6 h fun h=>yV Z (gd g6 Z) (zA Z Z sd)<|yV Z (gd g6 Z) (zD Z Z Z aV Z Z)<|yV Z (gd g6 Z) (am Z Z Z Z)<|yS Z (bA Z (aK g6 Z) Z)<|zM Z ?_;refine zc 38 Z (fun g7=>?_)<|fun g7=>?_
     ·refine zi g7 h fun h=>yV Z (gd g7 Z) (zA Z Z sd)<|yV Z (gd g7 Z) (zD Z Z Z aV Z Z)<|yV Z (gd g7 Z) (zA Z Z kT)<|yV Z (gd g7 Z) (zD Z Z Z aV Z Z)<|yV Z (gd g7 Z) (am Z Z Z Z)<|yS Z (bA Z (aK g7 Z) Z)<|zM Z ?_;refine zc 45 Z (fun g8=>?_)<|fun g8=>?_
      ·refine zi g8 h fun h=>yV Z (gd g8 Z) (zA Z Z kT)<|yV Z (gd g8 Z) (zD Z Z Z aV Z Z)<|yV Z (gd g8 Z) (am Z Z Z Z)<|yS Z (bA Z (aK g8 Z) Z)<|zM Z ?_;refine zc 50 Z (fun g9=>?_)<|fun g9=>?_
       ·refine zi g9 h fun h=>yV Z (gd g9 Z) (zA Z Z kT)<|yV Z (gd g9 Z) (zD Z Z Z aV Z Z)<|yV Z (gd g9 Z) (am Z Z Z Z)<|yS Z (bA Z (aK g9 Z) Z)<|mN Z<|zr ?_;cases h;exact ba Z
       ·refine zo g9 h fun h=>yU Z (gd g9 Z) Z<|yU Z (gd g9 Z) Z<|yU Z (gd g9 Z) Z<|yS Z (aU Z (aK g9 Z) Z)<|mN Z<|zr ?_;cases h;exact ba Z
      ·refine zo g8 h fun h=>yU Z (gd g8 Z) Z<|yU Z (gd g8 Z) Z<|yU Z (gd g8 Z) Z<|yS Z (aU Z (aK g8 Z) Z)<|zM Z<|aB Z<|aB Z<|aB Z<|yS Z (aU Z Z Z)<|mN Z<|zr ?_;cases h;exact ba Z
     ·refine zo g7 h fun h=>yU Z (gd g7 Z) Z<|yU Z (gd g7 Z) Z<|yU Z (gd g7 Z) Z<|yU Z (gd g7 Z) Z<|yU Z (gd g7 Z) Z<|yS Z (aU Z (aK g7 Z) Z)<|zM Z<|aB Z<|aB Z<|aB Z<|yS Z (aU Z Z Z)<|zM Z<|aB Z<|aB Z<|aB Z<|yS Z (aU Z Z Z)<|mN Z<|zr ?_;cases h;exact ba Z
    ·refine zo g6 h fun h=>yU Z (gd g6 Z) Z<|yU Z (gd g6 Z) Z<|yU Z (gd g6 Z) Z<|yS Z (aU Z (aK g6 Z) Z)<|zM Z<|aB Z<|aB Z<|aB Z<|aB Z<|aB Z<|yS Z (aU Z Z Z)<|zM Z<|aB Z<|aB Z<|aB Z<|yS Z (aU Z Z Z)<|zM Z<|aB Z<|aB Z<|aB Z<|yS Z (aU Z Z Z)<|mN Z<|zr ?_;cases h;exact ba Z
   ·refine zo g5 h fun h=>yU Z (gd g5 Z) Z<|yU Z (gd g5 Z) Z<|yU Z (gd g5 Z) Z<|yS Z (aU Z (aK g5 Z) Z)<|zM Z<|aB Z<|aB Z<|aB Z<|yS Z (aU Z Z Z)<|zM Z<|aB Z<|aB Z<|aB Z<|aB Z<|aB Z<|yS Z (aU Z Z Z)<|zM Z<|aB Z<|aB Z<|aB Z<|yS Z (aU Z Z Z)<|zM Z<|aB Z<|aB Z<|aB Z<|yS Z (aU Z Z Z)<|mN Z<|zr ?_;cases h;exact ba Z
def DW (c:Cf)(slot:Int):Option Bool:=(D9 c).bind fun v1=>bif v1 then bif decide (slot>0)then some (decide (slot<=1048576))else some false else some false
theorem NB {r_:Bool}(h:DW c slot=some r_):aq prog 127 [gF c,.int .i64 slot] [.bool r_]:=by
 refine zh Tryz.func127 Z Z Z Z ?_;unfold DW at h;refine qR<|yS Z (bv Z Z Z Z Z)<|mN Z<|qR<|yS Z (zD Z Z Z bd Z Z)<|zb h fun v1 a1 h=>yS Z (yP Z Z Z (L5 a1) dB)<|zM Z ?_;refine zc 7 Z (fun g1=>?_)<|fun g1=>?_
 ·refine zi g1 h fun h=>yV Z (gd g1 Z) (zm Z Z)<|yV Z (gd g1 Z) (am Z Z Z Z)<|yS Z (bA Z (aK g1 Z) Z)<|zM Z ?_;refine zc 11 Z (fun g2=>?_)<|fun g2=>?_
  ·refine zi g2 h fun h=>yV Z (gd g2 Z) (zm Z Z)<|yV Z (gd g2 Z) (am Z Z Z Z)<|yS Z (bA Z (aK g2 Z) Z)<|mN Z<|zr ?_;cases h;exact ba Z
  ·refine zo g2 h fun h=>yU Z (gd g2 Z) Z<|yU Z (gd g2 Z) Z<|yS Z (aU Z (aK g2 Z) Z)<|mN Z<|zr ?_;cases h;exact ba Z
 ·refine zo g1 h fun h=>yU Z (gd g1 Z) Z<|yU Z (gd g1 Z) Z<|yS Z (aU Z (aK g1 Z) Z)<|zM Z<|aB Z<|aB Z<|yS Z (aU Z Z Z)<|mN Z<|zr ?_;cases h;exact ba Z
structure mm where
 t8:Int
def ox (s:List Int)(v:Int)(x1:mm):Option (mm⊕(mm⊕Int)):=bif decide (x1.t8<(s.length:Int))then (ix s x1.t8).bind fun y1=>bif v==y1 then some (.inr (.inr x1.t8))else some (.inl (mm.mk (i64.wrap (x1.t8+1))))else some (.inr (.inl (mm.mk x1.t8)))
def Jg (s:List Int)(v:Int):Option Int:=(iter (ox s v) aY (mm.mk 0)).bind fun b_v1=>Sum.elim (fun _=>some (-1)) some b_v1
theorem Qy {v:Int}(h:Jg s v=some r_):aq prog 123 [.slice 1 (s.map be),.int .i64 v] [.int .i64 r_]:=by
 refine zh Tryz.func123 Z Z Z Z ?_;unfold Jg at h;refine qR<|mN Z<|zQ<|qR<|zM Z<|yS Z (cx Z Z)<|mN Z ?_;obtain⟨w1,p1,q1⟩:=zB h;clear h;refine LW.tailB (b:=w1) (E:=fun v1=>[(4,(iQ 0))]) (O:=fun v1=>[]) ?_<|fun v1 f1 e1 K1 u1=>?_
 ·refine LW.block ?_;refine LW.iterB (E:=fun x1:mm=>[(0,(kI s)),(1,(iQ v)),(4,(iQ 0)),(7,.p (.int .i64 (s.length:Int))),(8,(iQ x1.t8))]) (O:=fun x1=>[]) p1 (au 0 ⟨Z,Z,Z,Z,Z,t_⟩)<|fun x1 z1 h m1=>?_;unfold ox at h;refine qR<|yS Z (am Z Z Z Z)<|nT<|zQ ?_;refine zX Z (fun g1=>?_)<|fun g1=>?_
  ·refine zi g1 h fun h=>zk<|zT<|zQ<|zl<|qR<|zM Z<|mN Z<|qR<|zM Z<|zM Z<|zM Z<|zb h fun y1 j1 h=>yS Z (zx Z Z Z dN j1 Z)<|yS Z (bS Z Z Z aV Z Z)<|yS Z (am Z Z Z Z)<|nT ?_;refine zX Z (fun g2=>?_)<|fun g2=>?_
   ·refine zi g2 h fun h=>qR<|zM Z<|mN Z<|zr<|ao<|af<|af<|ao<|af<|af ?_;cases h;obtain rfl:=(m1 _ rfl);have h:=bT q1;cases h;exact ba Z
   ·refine zo g2 h fun h=>zk<|ae<|zT<|zR<|yS Z (am Z Z Z Z)<|mN Z ?_;cases h;exact⟨_,rfl,au 0 ⟨Z,Z,Z,Z,Z,t_⟩⟩
  ·refine zo g1 h fun h=>zq<|aj<|aj<|zy<|zT ?_;cases h;obtain rfl:=(m1 _ rfl);exact⟨_,rfl,au 0 ⟨Z,t_⟩⟩
 ·obtain rfl:=f1;have h:=cU q1;clear p1;refine zT<|LW.weak u1<|qR<|mN Z<|zr ?_;cases h;exact ba Z
def xX (s:List Int)(v:Int):Option Bool:=(Jg s v).bind fun v1=>some (decide (v1>=0))
theorem JG {v:Int}{r_:Bool}(h:xX s v=some r_):aq prog 69 [.slice 1 (s.map be),.int .i64 v] [.bool r_]:=by
 refine zh Tryz.func69 Z Z Z Z ?_;unfold xX at h;refine qR<|mN Z<|qR<|zM Z<|zM Z<|zb h fun v1 a1 h=>yS Z (yP Z Z Z (Qy a1) bR)<|yS Z (am Z Z Z Z)<|mN Z<|zr ?_;cases h;exact ba Z
def DX (slot:Int):Option Bool:=bif decide (slot>=1)then some (decide (slot<=1048576))else some false
theorem NF {r_:Bool}(h:DX slot=some r_):aq prog 119 [.int .i64 slot] [.bool r_]:=by
 refine zh Tryz.func119 Z Z Z Z ?_;unfold DX at h;refine qR<|mN Z<|qR<|zM Z<|yS Z (am Z Z Z Z)<|zM Z ?_;refine zc 5 Z (fun g1=>?_)<|fun g1=>?_
 ·refine zi g1 h fun h=>yV Z (gd g1 Z) (zm Z Z)<|yV Z (gd g1 Z) (am Z Z Z Z)<|yS Z (bA Z (aK g1 Z) Z)<|mN Z<|zr ?_;cases h;exact ba Z
 ·refine zo g1 h fun h=>yU Z (gd g1 Z) Z<|yU Z (gd g1 Z) Z<|yS Z (aU Z (aK g1 Z) Z)<|mN Z<|zr ?_;cases h;exact ba Z
structure po where
 i:Int
def pq (c:Cf)(x1:po):Option (po⊕(po⊕Bool)):=bif decide (x1.i<(c.W.length:Int))then (ix c.W x1.i).bind fun y1=>bif decide (y1<0)then some (.inr (.inr false))else (ix c.W x1.i).bind fun y2=>bif decide (y2>1099511627776)then some (.inr (.inr false))else some (.inl (po.mk (i64.wrap (x1.i+1))))else some (.inr (.inl (po.mk x1.i)))
def GG (c:Cf):Option Bool:=(iter (pq c) aY (po.mk 0)).bind fun b_v1=>Sum.elim (fun _=>bif decide ((c.W.length:Int)>=1)then bif decide ((c.W.length:Int)<=12)then bif decide (c.Epoch>=1)then bif decide (c.Epoch<=8)then bif decide (c.Num>=0)then bif decide (c.Num<=c.Den)then bif decide (c.Den>=1)then some (decide (c.Den<=1000))else some false else some false else some false else some false else some false else some false else some false) some b_v1
theorem L6 {r_:Bool}(h:GG c=some r_):aq prog 45 [gF c] [.bool r_]:=by
 refine zh Tryz.func45 Z Z Z Z ?_;unfold GG at h;refine qR<|yS Z (bv Z Z Z Z Z)<|mN Z<|qR<|yS Z (zA Z Z dZ)<|yS Z (zD Z Z Z d6 Z Z)<|yS Z (cx Z Z)<|mN Z<|zQ<|qR<|mN Z ?_;obtain⟨w1,p1,q1⟩:=zB h;clear h;refine LW.tailB (b:=w1) (E:=fun v1=>[(1,.ptr 0 0),(2,(bQ false)),(3,.p (.int .i64 (c.W.length:Int)))]) (O:=fun v1=>[.box (cd c)]) ?_<|fun v1 f1 e1 K1 u1=>?_
 ·refine LW.block ?_;refine LW.iterB (E:=fun x1:po=>[(1,.ptr 0 0),(2,(bQ false)),(3,.p (.int .i64 (c.W.length:Int))),(4,(iQ x1.i))]) (O:=fun x1=>[.box (cd c)]) p1 (au 1 ⟨Z,Z,Z,Z,t_⟩)<|fun x1 z1 h m1=>?_;unfold pq at h;refine zQ<|qR<|zM Z<|zM Z<|yS Z (am Z Z Z Z)<|nT ?_;refine zX Z (fun g1=>?_)<|fun g1=>?_
  ·refine zi g1 h fun h=>zk<|zT<|zQ<|zl<|qR<|yS Z (zA Z Z dZ)<|yS Z (zD Z Z Z d6 Z Z)<|zM Z<|zb h fun y1 j1 h=>yS Z (zx Z Z Z dN j1 Z)<|yS Z (bS Z Z Z aV Z Z)<|yS Z (am Z Z Z Z)<|zM Z ?_;refine zc 19 Z (fun g2=>?_)<|fun g2=>?_
   ·refine zi g2 h fun h=>yU Z (gd g2 Z) Z<|yU Z (gd g2 Z) Z<|yU Z (gd g2 Z) Z<|yU Z (gd g2 Z) Z<|yU Z (gd g2 Z) Z<|yU Z (gd g2 Z) Z<|yS Z (bA Z (aK g2 Z) Z)<|nT<|LW.condT Z<|qR<|mN Z<|zr<|ao<|af<|af<|ao<|af<|af ?_;cases h;obtain rfl:=(m1 _ rfl);have h:=bT q1;cases h;exact ba Z
   ·refine zo g2 h fun h=>yV Z (gd g2 Z) (zA Z Z dZ)<|yV Z (gd g2 Z) (zD Z Z Z d6 Z Z)<|yV Z (gd g2 Z) (zm Z Z)<|zb h fun y2 j2 h=>yV Z (gd g2 Z) (zx Z Z Z dN j2 Z)<|yV Z (gd g2 Z) (bS Z Z Z aV Z Z)<|yV Z (gd g2 Z) (am Z Z Z Z)<|yS Z (aU Z (aK g2 Z) Z)<|nT ?_;refine zX Z (fun g3=>?_)<|fun g3=>?_
    ·refine zi g3 h fun h=>qR<|mN Z<|LW.ret<|ao<|af<|af<|ao<|af<|af ?_;cases h;obtain rfl:=(m1 _ rfl);have h:=bT q1;cases h;exact ba Z
    ·refine zo g3 h fun h=>zk<|ae<|zT<|zR<|zM Z<|yS Z (am Z Z Z Z)<|mN Z ?_;cases h;exact⟨_,rfl,au 1 ⟨Z,Z,Z,Z,t_⟩⟩
  ·refine zo g1 h fun h=>zq<|aj<|aj<|zy<|zT ?_;cases h;obtain rfl:=(m1 _ rfl);exact⟨_,rfl,au 1 ⟨Z,Z,Z,t_⟩⟩
 ·obtain rfl:=f1;have h:=cU q1;clear p1;refine zT<|LW.weak u1<|qR<|zM Z<|yS Z (am Z Z Z Z)<|zM Z ?_;refine zc 29 Z (fun g4=>?_)<|fun g4=>?_
  ·refine zi g4 h fun h=>yV Z (gd g4 Z) (zm Z Z)<|yV Z (gd g4 Z) (am Z Z Z Z)<|yS Z (bA Z (aK g4 Z) Z)<|zM Z ?_;refine zc 33 Z (fun g5=>?_)<|fun g5=>?_
   ·refine zi g5 h fun h=>yV Z (gd g5 Z) (zA Z Z kS)<|yV Z (gd g5 Z) (zD Z Z Z aV Z Z)<|yV Z (gd g5 Z) (am Z Z Z Z)<|yS Z (bA Z (aK g5 Z) Z)<|zM Z ?_;refine zc 38 Z (fun g6=>?_)<|fun g6=>?_
    ·refine zi g6 h fun h=>yV Z (gd g6 Z) (zA Z Z kS)<|yV Z (gd g6 Z) (zD Z Z Z aV Z Z)<|yV Z (gd g6 Z) (am Z Z Z Z)<|yS Z (bA Z (aK g6 Z) Z)<|zM Z ?_;refine zc 43 Z (fun g7=>?_)<|fun g7=>?_
     ·refine zi g7 h fun h=>yV Z (gd g7 Z) (zA Z Z sd)<|yV Z (gd g7 Z) (zD Z Z Z aV Z Z)<|yV Z (gd g7 Z) (am Z Z Z Z)<|yS Z (bA Z (aK g7 Z) Z)<|zM Z ?_;refine zc 48 Z (fun g8=>?_)<|fun g8=>?_
      ·refine zi g8 h fun h=>yV Z (gd g8 Z) (zA Z Z sd)<|yV Z (gd g8 Z) (zD Z Z Z aV Z Z)<|yV Z (gd g8 Z) (zA Z Z kT)<|yV Z (gd g8 Z) (zD Z Z Z aV Z Z)<|yV Z (gd g8 Z) (am Z Z Z Z)<|yS Z (bA Z (aK g8 Z) Z)<|zM Z ?_;refine zc 55 Z (fun g9=>?_)<|fun g9=>?_
       ·refine zi g9 h fun h=>yV Z (gd g9 Z) (zA Z Z kT)<|yV Z (gd g9 Z) (zD Z Z Z aV Z Z)<|yV Z (gd g9 Z) (am Z Z Z Z)<|yS Z (bA Z (aK g9 Z) Z)<|zM Z ?_;refine zc 60 Z (fun g10=>?_)<|fun g10=>?_
        ·refine zi g10 h fun h=>yV Z (gd g10 Z) (zA Z Z kT)<|yV Z (gd g10 Z) (zD Z Z Z aV Z Z)<|yV Z (gd g10 Z) (am Z Z Z Z)<|yS Z (bA Z (aK g10 Z) Z)<|mN Z<|zr ?_;cases h;exact ba Z
        ·refine zo g10 h fun h=>yU Z (gd g10 Z) Z<|yU Z (gd g10 Z) Z<|yU Z (gd g10 Z) Z<|yS Z (aU Z (aK g10 Z) Z)<|mN Z<|zr ?_;cases h;exact ba Z
       ·refine zo g9 h fun h=>yU Z (gd g9 Z) Z<|yU Z (gd g9 Z) Z<|yU Z (gd g9 Z) Z<|yS Z (aU Z (aK g9 Z) Z)<|zM Z<|aB Z<|aB Z<|aB Z<|yS Z (aU Z Z Z)<|mN Z<|zr ?_;cases h;exact ba Z
      ·refine zo g8 h fun h=>yU Z (gd g8 Z) Z<|yU Z (gd g8 Z) Z<|yU Z (gd g8 Z) Z<|yU Z (gd g8 Z) Z<|yU Z (gd g8 Z) Z<|yS Z (aU Z (aK g8 Z) Z)<|zM Z<|aB Z<|aB Z<|aB Z<|yS Z (aU Z Z Z)<|zM Z<|aB Z<|aB Z<|aB Z<|yS Z (aU Z Z Z)<|mN Z<|zr ?_;cases h;exact ba Z
     ·refine zo g7 h fun h=>yU Z (gd g7 Z) Z<|yU Z (gd g7 Z) Z<|yU Z (gd g7 Z) Z<|yS Z (aU Z (aK g7 Z) Z)<|zM Z<|aB Z<|aB Z<|aB Z<|aB Z<|aB Z<|yS Z (aU Z Z Z)<|zM Z<|aB Z<|aB Z<|aB Z<|yS Z (aU Z Z Z)<|zM Z<|aB Z<|aB Z<|aB Z<|yS Z (aU Z Z Z)<|mN Z<|zr ?_;cases h;exact ba Z
    ·refine zo g6 h fun h=>yU Z (gd g6 Z) Z<|yU Z (gd g6 Z) Z<|yU Z (gd g6 Z) Z<|yS Z (aU Z (aK g6 Z) Z)<|zM Z<|aB Z<|aB Z<|aB Z<|yS Z (aU Z Z Z)<|zM Z<|aB Z<|aB Z<|aB Z<|aB Z<|aB Z<|yS Z (aU Z Z Z)<|zM Z<|aB Z<|aB Z<|aB Z<|yS Z (aU Z Z Z)<|zM Z<|aB Z<|aB Z<|aB Z<|yS Z (aU Z Z Z)<|mN Z<|zr ?_;cases h;exact ba Z
   ·refine zo g5 h fun h=>yU Z (gd g5 Z) Z<|yU Z (gd g5 Z) Z<|yU Z (gd g5 Z) Z<|yS Z (aU Z (aK g5 Z) Z)<|zM Z<|aB Z<|aB Z<|aB Z<|yS Z (aU Z Z Z)<|zM Z<|aB Z<|aB Z<|aB Z<|yS Z (aU Z Z Z)<|zM Z<|aB Z<|aB Z<|aB Z<|aB Z<|aB Z<|yS Z (aU Z Z Z)<|zM Z<|aB Z<|aB Z<|aB Z<|yS Z (aU Z Z Z)<|zM Z<|aB Z<|aB Z<|aB Z<|yS Z (aU Z Z Z)<|mN Z<|zr ?_;cases h;exact ba Z
  ·refine zo g4 h fun h=>yU Z (gd g4 Z) Z<|yU Z (gd g4 Z) Z<|yS Z (aU Z (aK g4 Z) Z)<|zM Z<|aB Z<|aB Z<|aB Z<|yS Z (aU Z Z Z)<|zM Z<|aB Z<|aB Z<|aB Z<|yS Z (aU Z Z Z)<|zM Z<|aB Z<|aB Z<|aB Z<|yS Z (aU Z Z Z)<|zM Z<|aB Z<|aB Z<|aB Z<|aB Z<|aB Z<|yS Z (aU Z Z Z)<|zM Z<|aB Z<|aB Z<|aB Z<|yS Z (aU Z Z Z)<|zM Z<|aB Z<|aB Z<|aB Z<|yS Z (aU Z Z Z)<|mN Z<|zr ?_;cases h;exact ba Z
structure pt where
 i:Int
def rI (l:List Int)(n:Int)(x1:pt):Option (pt⊕(pt⊕Bool)):=bif decide (x1.i<(l.length:Int))then (ix l x1.i).bind fun y1=>bif y1==n then some (.inr (.inr true))else some (.inl (pt.mk (i64.wrap (x1.i+1))))else some (.inr (.inl (pt.mk x1.i)))
def GL (l:List Int)(n:Int):Option Bool:=(iter (rI l n) aY (pt.mk 0)).bind fun b_v1=>Sum.elim (fun _=>some false) some b_v1
theorem L7 {l:List Int}{n:Int}{r_:Bool}(h:GL l n=some r_):aq prog 66 [.slice 1 (l.map be),.int .i64 n] [.bool r_]:=by
 refine zh Tryz.func66 Z Z Z Z ?_;unfold GL at h;refine qR<|mN Z<|zQ<|qR<|mN Z ?_;obtain⟨w1,p1,q1⟩:=zB h;clear h;refine LW.tailB (b:=w1) (E:=fun v1=>[(4,(bQ false))]) (O:=fun v1=>[]) ?_<|fun v1 f1 e1 K1 u1=>?_
 ·refine LW.block ?_;refine LW.iterB (E:=fun x1:pt=>[(0,(kI l)),(1,(iQ n)),(4,(bQ false)),(5,(iQ x1.i))]) (O:=fun x1=>[]) p1 (au 0 ⟨Z,Z,Z,Z,t_⟩)<|fun x1 z1 h m1=>?_;unfold rI at h;refine zQ<|qR<|zM Z<|zM Z<|yS Z (cx Z Z)<|yS Z (am Z Z Z Z)<|nT ?_;refine zX Z (fun g1=>?_)<|fun g1=>?_
  ·refine zi g1 h fun h=>zk<|zT<|zQ<|zl<|qR<|zM Z<|zM Z<|zb h fun y1 j1 h=>yS Z (zx Z Z Z dN j1 Z)<|yS Z (bS Z Z Z aV Z Z)<|zM Z<|yS Z (am Z Z Z Z)<|nT ?_;refine zX Z (fun g2=>?_)<|fun g2=>?_
   ·refine zi g2 h fun h=>qR<|mN Z<|LW.ret<|ao<|af<|af<|ao<|af<|af ?_;cases h;obtain rfl:=(m1 _ rfl);have h:=bT q1;cases h;exact ba Z
   ·refine zo g2 h fun h=>zk<|ae<|zT<|zR<|zM Z<|yS Z (am Z Z Z Z)<|mN Z ?_;cases h;exact⟨_,rfl,au 0 ⟨Z,Z,Z,Z,t_⟩⟩
  ·refine zo g1 h fun h=>zq<|aj<|aj<|zy<|zT ?_;cases h;obtain rfl:=(m1 _ rfl);exact⟨_,rfl,au 0 ⟨Z,t_⟩⟩
 ·obtain rfl:=f1;have h:=cU q1;clear p1;refine zT<|LW.weak u1<|qR<|mN Z<|zr ?_;cases h;exact ba Z
structure np where
 n:Int
 i:Int
def pr (c:Cf)(l:List Int)(v1:Bool)(x1:np):Option (np⊕np):=(bif decide (x1.i<(c.W.length:Int))then some v1 else some false).bind fun v3=>bif v3 then (GL l x1.i).bind fun v4=>bif v4 then (ix c.W x1.i).bind fun y1=>some (.inl (np.mk (i64.wrap (x1.n+y1)) (i64.wrap (x1.i+1))))else some (.inl (np.mk x1.n (i64.wrap (x1.i+1))))else some (.inr (np.mk x1.n x1.i))
def MW (c:Cf)(l:List Int):Option Int:=(GG c).bind fun v1=>(iter (pr c l v1) aY (np.mk 0 0)).bind fun v2=>some v2.n
theorem Rd {l:List Int}(h:MW c l=some r_):aq prog 175 [gF c,.slice 1 (l.map be)] [.int .i64 r_]:=by
 refine zh Tryz.func175 Z Z Z Z ?_;unfold MW at h;refine qR<|yS Z (bv Z Z Z Z Z)<|mN Z<|qR<|mN Z<|qR<|yS Z (zD Z Z Z bd Z Z)<|zb h fun v1 a1 h=>yS Z (yP Z Z Z (L6 a1) dB)<|mN Z<|zQ<|qR<|mN Z ?_;obtain⟨v2,p2,q2⟩:=zB h;clear h;refine LW.tail (E:=[(4,(iQ 0)),(5,(iQ v2.n))]) (O:=[.box (cd c)]) ?_<|fun e2 K2 u2=>?_
 ·refine LW.block ?_;refine LW.iterB (E:=fun x1:np=>[(1,(kI l)),(2,.ptr 0 0),(4,(iQ 0)),(5,(iQ x1.n)),(6,(bQ v1)),(7,(iQ x1.i))]) (O:=fun x1=>[.box (cd c)]) p2 (au 1 ⟨Z,Z,Z,Z,Z,Z,t_⟩)<|fun x1 z1 h m1=>?_;unfold pr at h;refine zQ ?_;obtain⟨v3,p3,q3⟩:=zB h;clear h;refine LW.cut (E:=[(1,(kI l)),(2,.ptr 0 0),(4,(iQ 0)),(5,(iQ x1.n)),(6,(bQ v1)),(7,(iQ x1.i)),(18,(bQ v3))]) (O:=[.box (cd c)]) ?_ ?_
  ·have h:=p3;refine zR<|zM Z<|yS Z (zA Z Z dZ)<|yS Z (zD Z Z Z d6 Z Z)<|yS Z (cx Z Z)<|yS Z (am Z Z Z Z)<|zM Z ?_;refine zc 16 Z (fun g1=>?_)<|fun g1=>?_
   ·refine zi g1 h fun h=>yV Z (gd g1 Z) (zm Z Z)<|yS Z (bA Z (aK g1 Z) Z)<|nT ?_;cases h;exact au 1 ⟨Z,Z,Z,Z,Z,Z,Z,t_⟩
   ·refine zo g1 h fun h=>yU Z (gd g1 Z) Z<|yS Z (aU Z (aK g1 Z) Z)<|nT ?_;cases h;exact au 1 ⟨Z,Z,Z,Z,Z,Z,Z,t_⟩
  ·have h:=q3;clear p3;refine zX Z (fun g2=>?_)<|fun g2=>?_
   ·refine zi g2 h fun h=>zk<|zT<|zQ<|zl<|qR<|zM Z<|zM Z<|zb h fun v4 a4 h=>yS Z (yP Z Z Z (L7 a4) bR)<|mN Z<|qR<|mN Z ?_;refine zX Z (fun g3=>?_)<|fun g3=>?_
    ·refine zi g3 h fun h=>zR<|zM Z<|yS Z (zA Z Z dZ)<|yS Z (zD Z Z Z d6 Z Z)<|zM Z<|zb h fun y1 j1 h=>yS Z (zx Z Z Z dN j1 Z)<|yS Z (bS Z Z Z aV Z Z)<|yS Z (am Z Z Z Z)<|zM Z<|zN<|ae<|zT<|zR<|zM Z<|yS Z (am Z Z Z Z)<|mN Z ?_;cases h;exact⟨_,rfl,au 1 ⟨Z,Z,Z,Z,Z,Z,t_⟩⟩
    ·refine zo g3 h fun h=>zk<|ae<|zT<|zR<|zM Z<|yS Z (am Z Z Z Z)<|mN Z ?_;cases h;exact⟨_,rfl,au 1 ⟨Z,Z,Z,Z,Z,Z,t_⟩⟩
   ·refine zo g2 h fun h=>zq<|aj<|aj<|zy<|zT ?_;cases h;obtain rfl:=(m1 _ rfl);exact au 1 ⟨Z,Z,t_⟩
 ·have h:=q2;clear p2;refine zT<|LW.weak u2<|qR<|zM Z<|mN Z<|zr ?_;cases h;exact ba Z
theorem uP :∀H:List ab,dr H=some H.length
 |[]=>rfl
 |_::r=>by unfold dr;rw[uP r];rfl
theorem uk :∀(H:List ab) (o:ab),jP H o=some (H++[o])
 |[],_=>rfl
 |_::r,o=>by unfold jP;rw[uk r o];rfl
theorem NE {g:FuncId}{first caps:List LV}{H:List ab}:LC prog 160 [.p (gF c),.fn g first caps] H (Is (.fn 199 [] [.cptr [.slice 1 (c.W.map be),.int .u64 c.Seed,.int .i64 c.Epoch,.int .i64 c.Num,.int .i64 c.Den],.fptr (.fn g first caps)]) H):=by
 refine LC.those Tryz.func160 Z Z Z ?_;refine LW.seq<|LW.region<|ax.st Z Z Z (aa.box Z Z Z (uP _) (uk _ _))<|ax.st Z Z Z (aa.box Z Z Z (uP _) (uk _ _))<|ax.st Z Z Z (aa.assign Z Z)<|ax.nil<|cr<|LW.seq<|LW.region<|ax.st Z Z Z (aa.makeFunc Z Z Z)<|ax.st Z Z Z (aa.assign Z Z)<|ax.nil<|cr<|LW.ret ?_;refine⟨.inr rfl,by simp,?_⟩
 have h:∀n:Nat,n=H.length+1->∀{e:aE} {H2:List ab},e.get 4=some (.fn 199 [] [.ptr H.length 0,.ptr n 0])->eg prog e H2 Tryz.f160.results (.fn 199 [] [.ptr H.length 0,.ptr (H.length+1) 0]):=by
  rintro n rfl e H2 he;exact .one<|.tmp he
 exact h _ (by simp) Z
noncomputable def Bi :Code:=Rh f200.body
noncomputable def Bl :Code:=Ri f200.body
noncomputable def Bj :Code:=Rh f198.body
noncomputable def Bm :Code:=Ri f198.body
def IZ (i:Int)(_:Cf)(m:List (Int×Bool)):Option Bool:=some ((ak m i).getD false)
theorem OJ {i:Int}{m:List (Int×Bool)}{r_:Bool}(h:IZ i c m=some r_):LC prog 201 [(iQ i),.ptr 2 0] [.box (cd c),.map (ar be (fun v=>(bQ v)) m),.box [.map 1]] (Is (bQ r_) [.box (cd c),.map (ar be (fun v=>(bQ v)) m),.box [.map 1]]):=by
 refine eP Tryz.func201 Z Z Z ?_;unfold IZ at h;refine qR<|mN Z<|qR<|yS Z (zD Z Z Z Iw Z Z)<|zM Z ?_;refine yS Z (aa.getX (f:=be) (g:=(fun v=>(bQ v))) i false HI Z Z Z Z K0 PW Z Z) ?_;refine mN Z<|LW.ret ?_;cases h;exact aD (.one (.tmp Z))<|⟨rfl,rfl⟩
theorem PT {m:List (Int×Bool)}{n i y:Int}{o:Oper}{env:aE}(ho:o.op=.call { callee:=.value fo,args:=#[xo],argTypes:=ats})(hf:bf env fo=some (.yld 6))(hx:bf env xo=some (iQ i))(h:ix c.W i=some y) :
  gV prog o env [.box (cd c),.map (ar be (fun v=>(bQ v)) m),.box [.map 1],.box (cd c),.box [(iQ n)],.defd,.loop false 21 [(2,.ptr 3 0),(4,(iQ 0)),(5,.ptr 4 0),(11,.fn 199 [] [.cptr (qD c),.fptr (.fn 201 [] [.ptr 2 0])])] #[12] Bi Bl] (Is (bQ true) [.box (cd c),.map (ar be (fun v=>(bQ v)) m),.box [.map 1],.box (cd c),.box [.p (.int .i64 (i64.wrap (n+y)))],.defd,.loop false 21 [(2,.ptr 3 0),(4,(iQ 0)),(5,.ptr 4 0),(11,.fn 199 [] [.cptr (qD c),.fptr (.fn 201 [] [.ptr 2 0])])] #[12] Bi Bl]):=by
 refine gV.yield (env2:=(6,(iQ i))::(12,(iQ i))::[(2,.ptr 3 0),(4,(iQ 0)),(5,.ptr 4 0),(11,.fn 199 [] [.cptr (qD c),.fptr (.fn 201 [] [.ptr 2 0])])]) (H2:=[.box (cd c),.map (ar be (fun v=>(bQ v)) m),.box [.map 1],.box (cd c),.box [.p (.int .i64 (i64.wrap (n+y)))],.defd,.loop true 21 [(2,.ptr 3 0),(4,(iQ 0)),(5,.ptr 4 0),(11,.fn 199 [] [.cptr (qD c),.fptr (.fn 201 [] [.ptr 2 0])])] #[12] Bi Bl]) ho hf hx Z Z (by kernel_rfl) (by kernel_rfl) Z (vZ.plain ?_) ?_ Z Z
 ·refine yS Z (za Z Z) ?_;exact zN ⟨rfl,rfl,rfl⟩
 ·refine vZ.drawLast (m:=7) (by kernel_rfl) (by kernel_rfl) (by kernel_rfl) ?_;exact yE Z (zD Z Z Z aV Z Z)<|yE Z (zA Z Z dZ)<|yE Z (zD Z Z Z d6 Z Z)<|zH Z<|yE Z (zx Z Z Z dN h Z)<|yE Z (bS Z Z Z aV Z Z)<|yE Z (am Z Z Z Z)<|LO.nil<|yS Z (zs Z Z Z Z aV Z Z Z Z)<|zN<|⟨rfl,rfl⟩
structure iG where
 t8:Int
 o4_0:Int
def ni (c:Cf)(m:List (Int×Bool))(x1:iG):Option (iG⊕iG):=bif decide (x1.t8<(c.W.length:Int))then (IZ x1.t8 c m).bind fun v2=>bif v2 then (ix c.W x1.t8).bind fun y1=>some (.inl (iG.mk (i64.wrap (x1.t8+1)) (i64.wrap (x1.o4_0+y1))))else some (.inl (iG.mk (i64.wrap (x1.t8+1)) x1.o4_0))else some (.inr (iG.mk x1.t8 x1.o4_0))
def x4 (c:Cf)(m:List (Int×Bool))(n:Int):Option Int:=(iter (ni c m) aY (iG.mk 0 n)).bind fun v1=>some v1.o4_0
theorem Mf {m:List (Int×Bool)}{n:Int}(h:x4 c m n=some r_):LC prog 199 [.yld 6,.cptr (qD c),.fptr (.fn 201 [] [.ptr 2 0])] [.box (cd c),.map (ar be (fun v=>(bQ v)) m),.box [.map 1],.box (cd c),.box [(iQ n)],.defd,.loop false 21 [(2,.ptr 3 0),(4,(iQ 0)),(5,.ptr 4 0),(11,.fn 199 [] [.cptr (qD c),.fptr (.fn 201 [] [.ptr 2 0])])] #[12] Bi Bl] (Is (.tup []) [.box (cd c),.map (ar be (fun v=>(bQ v)) m),.box [.map 1],.box (cd c),.box [(iQ r_)],.defd,.loop false 21 [(2,.ptr 3 0),(4,(iQ 0)),(5,.ptr 4 0),(11,.fn 199 [] [.cptr (qD c),.fptr (.fn 201 [] [.ptr 2 0])])] #[12] Bi Bl]):=by
 refine eP Tryz.func199 Z Z Z ?_;unfold x4 at h;refine qR<|yS Z (aa.fieldAddrC Z Z dZ Z)<|yS Z (bS Z Z Z d6 Z Z)<|yS Z (cx Z Z)<|mN Z ?_;obtain⟨v1,p1,q1⟩:=zB h;clear h;refine LW.tail (E:=[]) (O:=[.box (cd c),.map (ar be (fun v=>(bQ v)) m),.box [.map 1],.box (cd c),.box [(iQ v1.o4_0)],.defd,.loop false 21 [(2,.ptr 3 0),(4,(iQ 0)),(5,.ptr 4 0),(11,.fn 199 [] [.cptr (qD c),.fptr (.fn 201 [] [.ptr 2 0])])] #[12] Bi Bl]) ?_<|fun e1 K1 u1=>?_
 ·refine LW.block ?_;refine LW.iterB (E:=fun x1:iG=>[(0,.yld 6),(2,.fptr (.fn 201 [] [.ptr 2 0])),(7,.p (.int .i64 (c.W.length:Int))),(8,(iQ x1.t8))]) (O:=fun x1=>[.box (cd c),.map (ar be (fun v=>(bQ v)) m),.box [.map 1],.box (cd c),.box [(iQ x1.o4_0)],.defd,.loop false 21 [(2,.ptr 3 0),(4,(iQ 0)),(5,.ptr 4 0),(11,.fn 199 [] [.cptr (qD c),.fptr (.fn 201 [] [.ptr 2 0])])] #[12] Bi Bl]) p1 (zW 7 ⟨Z,Z,Z,Z,t_⟩ Z Z Z (zL Z (zL (ai (fun _=>rfl) _) (ci (zL Z Z)))))<|fun x1 z1 h m1=>?_;unfold ni at h;refine qR<|yS Z (am Z Z Z Z)<|nT<|zQ ?_;refine zX Z (fun g1=>?_)<|fun g1=>?_
  ·refine zi g1 h fun h=>zk<|zT<|zQ<|zl<|qR<|zM Z<|mN Z<|zQ<|LW.regionI<|bM.st Z Z Z (gV.of (aa.loadF Z Z wM) Z)<|bM.st Z Z Z (gV.of (zm Z Z) Z)<|zb h fun v2 a2 h=>?_;refine bM.st Z Z Z (gV.of (zC Z Z Z (by kernel_rfl) (LC.pre (OJ a2) Z (zL Z (zL (ai (fun _=>rfl) _) (zL Z Z))) Z)) Z) ?_;refine bM.st Z Z Z (gV.of (aa.move Z Z) Z) ?_;refine bM.cases 14 Z (fun(g2:v2=true)=>?_) (fun(g2:v2=false)=>?_)
   ·refine zi g2 h fun h=>bM.gd Z Z Z (gd g2 Z) Z (gV.of (zm Z Z) Z)<|bM.gd Z Z Z (gd g2 Z) Z (gV.of (zm Z Z) Z)<|zb h fun y1 j1 h=>bM.gd Z Z Z (gd g2 Z) Z (PT Z Z Z j1)<|bM.gd Z Z Z (gd g2 Z) Z (gV.of (aa.not Z Z) Z)<|bM.st Z Z Z (gV.of (bA Z (aK g2 Z) Z) Z)<|bM.nil<|zT<|LW.condF Z<|zk<|ae<|zT<|zR<|yS Z (am Z Z Z Z)<|mN Z ?_;cases h;exact⟨_,rfl,zW 7 ⟨Z,Z,Z,Z,t_⟩ Z Z Z (zL Z (zL (ai (fun _=>rfl) _) (ci (zL Z Z))))⟩
   ·refine zo g2 h fun h=>bM.sk Z Z Z (gd g2 Z) Z Z<|bM.sk Z Z Z (gd g2 Z) Z Z<|bM.sk Z Z Z (gd g2 Z) Z Z<|bM.sk Z Z Z (gd g2 Z) Z Z<|bM.st Z Z Z (gV.of (aU Z (aK g2 Z) Z) Z)<|bM.nil<|zT<|LW.condF Z<|zk<|ae<|zT<|zR<|yS Z (am Z Z Z Z)<|mN Z ?_;cases h;exact⟨_,rfl,zW 7 ⟨Z,Z,Z,Z,t_⟩ Z Z Z (zL Z (zL (ai (fun _=>rfl) _) (ci (zL Z Z))))⟩
  ·refine zo g1 h fun h=>zq<|aj<|aj<|zy<|zT ?_;cases h;obtain rfl:=(m1 _ rfl);exact zW 7 trivial Z Z Z<|zL Z<|zL (ai (fun _=>rfl) _)<|ci<|zL Z Z
 ·have h:=q1;clear p1;cases h;exact iL u1 .none ⟨rfl,rfl⟩
def CG (c:Cf)(m:List (Int×Bool)):Option Int:=(D9 c).bind fun v1=>bif !v1 then some 0 else (x4 c m 0).bind fun v2=>some v2
theorem Mb {m:List (Int×Bool)}(h:CG c m=some r_):LC prog 200 [.p (gF c),.fn 199 [] [.cptr (qD c),.fptr (.fn 201 [] [.ptr 2 0])]] [.box (cd c),.map (ar be (fun v=>(bQ v)) m),.box [.map 1]] (Is (iQ r_) [.box (cd c),.map (ar be (fun v=>(bQ v)) m),.box [.map 1]]):=by
 refine LC.ofM Tryz.func200 Z Z Z ?_;unfold CG at h;refine km.seqW<|zR<|yS Z (bv Z Z Z Z Z)<|mN Z<|km.seqW<|zR<|yS Z (ze Z Rl Z Z)<|yS Z (zs Z Z Z Z aV Z Z Z Z)<|nT<|km.seqW<|qR<|yS Z (zD Z Z Z bd Z Z)<|zb h fun v1 a1 h=>yS Z (yP Z Z Z (L5 a1) dB)<|yS Z (aa.not Z Z)<|nT ?_;refine zX Z (fun g1=>?_)<|fun g1=>?_
 ·refine zi g1 h fun h=>qR<|yS Z (zD Z Z Z aV Z Z)<|mN Z<|zr<|af ?_;cases h;refine bN (env':=[(4,(iQ 0))]) (H':=[.box (cd c),.map (ar be (fun v=>(bQ v)) m),.box [.map 1]]) (zW 3 ⟨Z,t_⟩ Z Z Z (zL Z (zL (ai (fun _=>rfl) _) (zL Z Z)))) (.one (.tmp Z)) ?_;exact⟨rfl,rfl⟩
 ·refine zo g1 h fun h=>zk<|zT<|km.seq<|km.seqW<|zR<|mN Z ?_;refine km.weak (env':=[(2,.ptr 3 0),(4,(iQ 0)),(5,.ptr 4 0),(11,.fn 199 [] [.cptr (qD c),.fptr (.fn 201 [] [.ptr 2 0])])]) (H':=[.box (cd c),.map (ar be (fun v=>(bQ v)) m),.box [.map 1],.box (cd c),.box [(iQ 0)]]) (zW 5 ⟨Z,Z,Z,Z,t_⟩ Z Z Z (zL Z (zL (ai (fun _=>rfl) _) (zL Z (zL Z (zL Z Z)))))) ?_;refine km.block<|zb h fun v2 a2 h=>km.rangeFunc Z (by kernel_rfl) Z (Mf a2) Z Z Z ?_;refine⟨rfl,?_⟩;refine xD<|km.seq<|km.region<|mX.st Z Z Z (zD Z Z Z aV Z Z) Z<|mX.st Z Z Z (za Z Z) Z<|mX.nil<|xD<|km.ret ?_;obtain rfl:=zJ h;exact⟨.inr rfl,_,[(4,(iQ v2))],[.box (cd c),.map (ar be (fun v=>(bQ v)) m),.box [.map 1]],_,rfl,zW 3 ⟨Z,t_⟩ Z Z Z (zL Z (zL (ai (fun _=>rfl) _) (zL Z Z))),(.one (.tmp Z)),⟨rfl,rfl⟩⟩
def IY (i:Int)(c:Cf)(slot:Int)(at_:List Int):Option Bool:=(ix at_ i).bind fun y1=>bif decide (c.Epoch≠0)then bif decide (c.Epoch≠0)then some ((y1.tmod c.Epoch)==(slot.tmod c.Epoch))else none else none
theorem OI {i:Int}{r_:Bool}(h:IY i c slot at_=some r_):LC prog 161 [(iQ i),.ptr 2 0,.ptr 0 0,.ptr 1 0] [.box (cd c),.box [(iQ slot)],.box [(kI at_)]] (Is (bQ r_) [.box (cd c),.box [(iQ slot)],.box [(kI at_)]]):=by
 refine eP Tryz.func161 Z Z Z ?_;unfold IY at h;refine qR<|mN Z<|zQ<|dy<|yE Z (zD Z Z Z d6 Z Z)<|zH Z<|zb h fun y1 j1 h=>yE Z (zx Z Z Z dN j1 Z)<|yE Z (bS Z Z Z aV Z Z)<|yE Z (zA Z Z kS)<|yE Z (zD Z Z Z aV Z Z)<|zg h fun q1 h=>yE Z (aa.rem Z Z Z (of_decide_eq_true q1))<|yE Z (zD Z Z Z aV Z Z)<|yE Z (zA Z Z kS)<|yE Z (zD Z Z Z aV Z Z)<|zg h fun q2 h=>yE Z (aa.rem Z Z Z (of_decide_eq_true q2))<|yE Z (am Z Z Z Z)<|zH Z<|LO.nil<|zT<|zr ?_;cases h;exact aD (.one (.tmp Z))<|⟨rfl,rfl⟩
theorem PU {l:List Int}{i:Int}{o:Oper}{env:aE}(ho:o.op=.call { callee:=.value fo,args:=#[xo],argTypes:=ats})(hf:bf env fo=some (.yld 6))(hx:bf env xo=some (iQ i))(q:bG l.length [i].length 8=true) :
  gV prog o env [.box (cd c),.box [(iQ slot)],.box [(kI at_)],.box [(jI 4 l)],.vec 1 (l.map be),.defd,.loop false 13 [(2,.ptr 3 0),(4,.zs),(6,.fn 199 [] [.cptr (qD c),.fptr (.fn 161 [] [.ptr 2 0,.ptr 0 0,.ptr 1 0])])] #[7] Bj Bm] (Is (bQ true) [.box (cd c),.box [(iQ slot)],.box [(kI at_)],.box [.vec 1 4 ((l++[i]).map be).length 0 ((l++[i]).map be).length],.vec 1 ((l++[i]).map be),.defd,.loop false 13 [(2,.ptr 3 0),(4,.zs),(6,.fn 199 [] [.cptr (qD c),.fptr (.fn 161 [] [.ptr 2 0,.ptr 0 0,.ptr 1 0])])] #[7] Bj Bm]):=by
 refine gV.yield (env2:=(5,(iQ i))::(7,(iQ i))::[(2,.ptr 3 0),(4,.zs),(6,.fn 199 [] [.cptr (qD c),.fptr (.fn 161 [] [.ptr 2 0,.ptr 0 0,.ptr 1 0])])]) (H2:=[.box (cd c),.box [(iQ slot)],.box [(kI at_)],.box [.vec 1 4 ((l++[i]).map be).length 0 ((l++[i]).map be).length],.vec 1 ((l++[i]).map be),.defd,.loop true 13 [(2,.ptr 3 0),(4,.zs),(6,.fn 199 [] [.cptr (qD c),.fptr (.fn 161 [] [.ptr 2 0,.ptr 0 0,.ptr 1 0])])] #[7] Bj Bm]) ho hf hx Z Z (by kernel_rfl) (by kernel_rfl) Z (vZ.plain ?_) (vZ.plain ?_) Z Z
 ·refine yS Z (za Z Z) ?_;exact zN ⟨rfl,rfl,rfl⟩
 ·refine yS Z (zD Z Z Z d6 Z Z) ?_;exact zM Z<|yS Z (gU Z dN Z Z Z Z Z)<|yS Z (aa.appendX be l [i] rfl Z Z Z iC.p Z dN q Z)<|yS Z (zs Z Z Z Z d6 Z Z Z Z)<|zN<|⟨rfl,rfl⟩
structure eu where
 t8:Int
 o4:List Int
def nh (c:Cf)(slot:Int)(at_:List Int)(x1:eu):Option (eu⊕eu):=bif decide (x1.t8<(c.W.length:Int))then (IY x1.t8 c slot at_).bind fun v2=>bif v2 then bif bG x1.o4.length [x1.t8].length 8 then some (.inl (eu.mk (i64.wrap (x1.t8+1)) (x1.o4++[x1.t8])))else none else some (.inl (eu.mk (i64.wrap (x1.t8+1)) x1.o4))else some (.inr (eu.mk x1.t8 x1.o4))
def CN (c:Cf)(slot:Int)(at_:List Int)(l:List Int):Option (List Int):=(iter (nh c slot at_) aY (eu.mk 0 l)).bind fun v1=>some v1.o4
theorem Me {l:List Int}{r_:List Int}(h:CN c slot at_ l=some r_):LC prog 199 [.yld 6,.cptr (qD c),.fptr (.fn 161 [] [.ptr 2 0,.ptr 0 0,.ptr 1 0])] [.box (cd c),.box [(iQ slot)],.box [(kI at_)],.box [(jI 4 l)],.vec 1 (l.map be),.defd,.loop false 13 [(2,.ptr 3 0),(4,.zs),(6,.fn 199 [] [.cptr (qD c),.fptr (.fn 161 [] [.ptr 2 0,.ptr 0 0,.ptr 1 0])])] #[7] Bj Bm] (Is (.tup []) [.box (cd c),.box [(iQ slot)],.box [(kI at_)],.box [(jI 4 r_)],.vec 1 (r_.map be),.defd,.loop false 13 [(2,.ptr 3 0),(4,.zs),(6,.fn 199 [] [.cptr (qD c),.fptr (.fn 161 [] [.ptr 2 0,.ptr 0 0,.ptr 1 0])])] #[7] Bj Bm]):=by
 refine eP Tryz.func199 Z Z Z ?_;unfold CN at h;refine qR<|yS Z (aa.fieldAddrC Z Z dZ Z)<|yS Z (bS Z Z Z d6 Z Z)<|yS Z (cx Z Z)<|mN Z ?_;obtain⟨v1,p1,b1⟩:=zB h;clear h;refine LW.tail (E:=[]) (O:=[.box (cd c),.box [(iQ slot)],.box [(kI at_)],.box [(jI 4 v1.o4)],.vec 1 (v1.o4.map be),.defd,.loop false 13 [(2,.ptr 3 0),(4,.zs),(6,.fn 199 [] [.cptr (qD c),.fptr (.fn 161 [] [.ptr 2 0,.ptr 0 0,.ptr 1 0])])] #[7] Bj Bm]) ?_<|fun e1 K1 u1=>?_
 ·refine LW.block ?_;refine LW.iterB (E:=fun x1:eu=>[(0,.yld 6),(2,.fptr (.fn 161 [] [.ptr 2 0,.ptr 0 0,.ptr 1 0])),(7,.p (.int .i64 (c.W.length:Int))),(8,(iQ x1.t8))]) (O:=fun x1=>[.box (cd c),.box [(iQ slot)],.box [(kI at_)],.box [(jI 4 x1.o4)],.vec 1 (x1.o4.map be),.defd,.loop false 13 [(2,.ptr 3 0),(4,.zs),(6,.fn 199 [] [.cptr (qD c),.fptr (.fn 161 [] [.ptr 2 0,.ptr 0 0,.ptr 1 0])])] #[7] Bj Bm]) p1 (au 7 ⟨Z,Z,Z,Z,t_⟩)<|fun x1 z1 h m1=>?_;unfold nh at h;refine qR<|yS Z (am Z Z Z Z)<|nT<|zQ ?_;refine zX Z (fun g1=>?_)<|fun g1=>?_
  ·refine zi g1 h fun h=>zk<|zT<|zQ<|zl<|qR<|zM Z<|mN Z<|zQ<|LW.regionI<|bM.st Z Z Z (gV.of (aa.loadF Z Z wM) Z)<|bM.st Z Z Z (gV.of (zm Z Z) Z)<|zb h fun v2 a2 h=>bM.st Z Z Z (gV.of (yC Z Z Z (LC.pre (OI a2) Z Z Z)) Z)<|bM.st Z Z Z (gV.of (zm Z Z) Z) ?_;refine bM.cases 14 Z (fun(g2:v2=true)=>?_) (fun(g2:v2=false)=>?_)
   ·refine zi g2 h fun h=>bM.gd Z Z Z (gd g2 Z) Z (gV.of (zm Z Z) Z)<|bM.gd Z Z Z (gd g2 Z) Z (gV.of (zm Z Z) Z)<|zg h fun q1 h=>bM.gd Z Z Z (gd g2 Z) Z (PU Z Z Z q1)<|bM.gd Z Z Z (gd g2 Z) Z (gV.of (aa.not Z Z) Z)<|bM.st Z Z Z (gV.of (bA Z (aK g2 Z) Z) Z)<|bM.nil<|zT<|LW.condF Z<|zk<|ae<|zT<|zR<|yS Z (am Z Z Z Z)<|mN Z ?_;cases h;exact⟨_,rfl,au 7 ⟨Z,Z,Z,Z,t_⟩⟩
   ·refine zo g2 h fun h=>bM.sk Z Z Z (gd g2 Z) Z Z<|bM.sk Z Z Z (gd g2 Z) Z Z<|bM.sk Z Z Z (gd g2 Z) Z Z<|bM.sk Z Z Z (gd g2 Z) Z Z<|bM.st Z Z Z (gV.of (aU Z (aK g2 Z) Z) Z)<|bM.nil<|zT<|LW.condF Z<|zk<|ae<|zT<|zR<|yS Z (am Z Z Z Z)<|mN Z ?_;cases h;exact⟨_,rfl,au 7 ⟨Z,Z,Z,Z,t_⟩⟩
  ·refine zo g1 h fun h=>zq<|aj<|aj<|zy<|zT ?_;cases h;obtain rfl:=(m1 _ rfl);exact au 7 trivial
 ·have h:=b1;clear p1;cases h;exact iL u1 .none ⟨rfl,rfl⟩
def CM (c:Cf)(slot:Int)(at_:List Int):Option (List Int):=(CN c slot at_ []).bind fun v1=>some v1
theorem Md {r_:List Int}(h:CM c slot at_=some r_):LC prog 198 [.zs,.fn 199 [] [.cptr (qD c),.fptr (.fn 161 [] [.ptr 2 0,.ptr 0 0,.ptr 1 0])]] [.box (cd c),.box [(iQ slot)],.box [(kI at_)]] (Is (jI 4 r_) [.box (cd c),.box [(iQ slot)],.box [(kI at_)],.box [(jI 4 r_)],.vec 1 (r_.map be),.dead,.dead]):=by
 refine LC.ofM Tryz.func198 Z Z Z ?_;unfold CM at h;refine km.seqW<|zR<|yS Z (bv Z Z Z Z Z)<|mN Z<|km.seq<|km.seqW<|zR<|mN Z<|km.ent (bW.lazyCell (i:=3) (j:=0) (m:=1) Z Z Z Z Z Z)<|km.weak (env':=[(2,.ptr 3 0),(4,.zs),(6,.fn 199 [] [.cptr (qD c),.fptr (.fn 161 [] [.ptr 2 0,.ptr 0 0,.ptr 1 0])])]) (H':=[.box (cd c),.box [(iQ slot)],.box [(kI at_)],.box [(jI 4 ([]:List Int))],.vec 1 (([]:List Int).map be)]) (au 5 ⟨Z,Z,Z,t_⟩)<|km.block<|zb h fun v1 a1 h=>km.rangeFunc Z (by kernel_rfl) Z (Me a1) Z Z Z ?_;refine⟨rfl,?_⟩;refine xD<|km.seq<|km.region<|mX.st Z Z Z (zD Z Z Z d6 Z Z) Z<|mX.st Z Z Z (za Z Z) Z<|mX.nil<|xD<|km.ret ?_;obtain rfl:=zJ h;exact⟨.inr rfl,_,[(4,(jI 4 v1))],[.box (cd c),.box [(iQ slot)],.box [(kI at_)],.box [(jI 4 v1)],.vec 1 (v1.map be),.dead,.dead],_,rfl,zW 7 ⟨Z,t_⟩ Z Z Z rfl,(.one (.tmp Z)),⟨rfl,rfl⟩⟩
def xW (c:Cf)(slot:Int)(at_:List Int):Option (List Int):=(CM c slot at_).bind fun v1=>some v1
theorem Ma {r_:List Int}(h:xW c slot at_=some r_):LC prog 159 [.fn 199 [] [.cptr (qD c),.fptr (.fn 161 [] [.ptr 2 0,.ptr 0 0,.ptr 1 0])]] [.box (cd c),.box [(iQ slot)],.box [(kI at_)]] (Is (jI 4 r_) [.box (cd c),.box [(iQ slot)],.box [(kI at_)],.box [(jI 4 r_)],.vec 1 (r_.map be),.dead,.dead]):=by
 refine eP Tryz.func159 Z Z Z ?_;unfold xW at h;refine qR<|mN Z<|qR<|zM Z<|zb h fun v1 a1 h=>yS Z (yC Z Z Z (Md a1))<|mN Z<|zr ?_;cases h;exact aD (.one (.tmp Z))<|⟨rfl,rfl⟩
def Fr (n:Int)(i:Int):Option Bool:=bif decide (n>=1)then bif decide (n<=1000)then bif decide (i>=0)then some (decide (i<n))else some false else some false else some false
theorem Qg {n:Int}{i:Int}{r_:Bool}(h:Fr n i=some r_):aq prog 212 [.int .i64 n,.int .i64 i] [.bool r_]:=by
 refine zh Tryz.func212 Z Z Z Z ?_;unfold Fr at h;refine qR<|mN Z<|qR<|zM Z<|yS Z (am Z Z Z Z)<|zM Z ?_;refine zc 7 Z (fun g1=>?_)<|fun g1=>?_
 ·refine zi g1 h fun h=>yV Z (gd g1 Z) (zm Z Z)<|yV Z (gd g1 Z) (am Z Z Z Z)<|yS Z (bA Z (aK g1 Z) Z)<|zM Z ?_;refine zc 11 Z (fun g2=>?_)<|fun g2=>?_
  ·refine zi g2 h fun h=>yV Z (gd g2 Z) (zm Z Z)<|yV Z (gd g2 Z) (am Z Z Z Z)<|yS Z (bA Z (aK g2 Z) Z)<|zM Z ?_;refine zc 15 Z (fun g3=>?_)<|fun g3=>?_
   ·refine zi g3 h fun h=>yV Z (gd g3 Z) (zm Z Z)<|yV Z (gd g3 Z) (zm Z Z)<|yV Z (gd g3 Z) (am Z Z Z Z)<|yS Z (bA Z (aK g3 Z) Z)<|mN Z<|zr ?_;cases h;exact ba Z
   ·refine zo g3 h fun h=>yU Z (gd g3 Z) Z<|yU Z (gd g3 Z) Z<|yU Z (gd g3 Z) Z<|yS Z (aU Z (aK g3 Z) Z)<|mN Z<|zr ?_;cases h;exact ba Z
  ·refine zo g2 h fun h=>yU Z (gd g2 Z) Z<|yU Z (gd g2 Z) Z<|yS Z (aU Z (aK g2 Z) Z)<|zM Z<|aB Z<|aB Z<|aB Z<|yS Z (aU Z Z Z)<|mN Z<|zr ?_;cases h;exact ba Z
 ·refine zo g1 h fun h=>yU Z (gd g1 Z) Z<|yU Z (gd g1 Z) Z<|yS Z (aU Z (aK g1 Z) Z)<|zM Z<|aB Z<|aB Z<|yS Z (aU Z Z Z)<|zM Z<|aB Z<|aB Z<|aB Z<|yS Z (aU Z Z Z)<|mN Z<|zr ?_;cases h;exact ba Z
def Fs (seed:Int)(n:Int)(r:Int)(i:Int):Option Int:=(tM seed (u64.wrap (r))).bind fun v1=>bif decide ((u64.wrap (n))≠0)then bif decide (n≠0)then (bif decide (((i64.wrap ((i64.wrap ((i64.wrap (v1.tmod (u64.wrap (n))))+n))-i)).tmod n)>i)then some ((i64.wrap ((i64.wrap ((i64.wrap (v1.tmod (u64.wrap (n))))+n))-i)).tmod n)else some i).bind fun v2=>(tM seed (u64.wrap (i64.wrap (1000+r)))).bind fun v3=>(tM v3 (u64.wrap (v2))).bind fun v4=>bif (v4.tmod 2)==1 then some ((i64.wrap ((i64.wrap ((i64.wrap (v1.tmod (u64.wrap (n))))+n))-i)).tmod n)else some i else none else none
theorem Qh {n:Int}{r:Int}{i:Int}(h:Fs seed n r i=some r_):aq prog 213 [.int .u64 seed,.int .i64 n,.int .i64 r,.int .i64 i] [.int .i64 r_]:=by
 refine zh Tryz.func213 Z Z Z Z ?_;unfold Fs at h;refine qR<|mN Z<|qR<|zM Z<|zM Z<|yS Z (aa.convert (k':=.u64) Z Z (by kernel_rfl))<|zb h fun v1 a1 h=>yS Z (yP Z Z Z (Aa a1) bR)<|zM Z<|yS Z (aa.convert (k':=.u64) Z Z (by kernel_rfl))<|zg h fun q1 h=>yS Z (aa.rem Z Z Z (of_decide_eq_true q1))<|yS Z (aa.convert (k':=.i64) Z Z (by kernel_rfl))<|mN Z<|qR<|zM Z<|zM Z<|yS Z (am Z Z Z Z)<|zM Z<|yS Z (am Z Z Z Z)<|zM Z<|zg h fun q2 h=>yS Z (aa.rem Z Z Z (of_decide_eq_true q2))<|mN Z<|qR<|zM Z<|mN Z ?_;obtain⟨v2,p2,b2⟩:=zB h;clear h;refine LW.cut (E:=[(0,(uQ seed)),(2,(iQ r)),(3,(iQ i)),(8,(iQ 0)),(10,.p (.int .i64 ((i64.wrap ((i64.wrap ((i64.wrap (v1.tmod (u64.wrap (n))))+n))-i)).tmod n))),(11,(iQ v2))]) (O:=[]) ?_ ?_
 ·have h:=p2;refine qR<|zM Z<|zM Z<|yS Z (am Z Z Z Z)<|nT ?_;refine zX Z (fun g1=>?_)<|fun g1=>?_
  ·refine zi g1 h fun h=>zR<|zM Z<|mN Z ?_;cases h;exact au 0 ⟨Z,Z,Z,Z,Z,Z,t_⟩
  ·refine zo g1 h fun h=>zk<|zT ?_;cases h;exact au 0 ⟨Z,Z,Z,Z,Z,Z,t_⟩
 ·have h:=b2;clear p2;refine qR<|zM Z<|zM Z<|yS Z (am Z Z Z Z)<|yS Z (aa.convert (k':=.u64) Z Z (by kernel_rfl))<|zb h fun v3 a3 h=>yS Z (yP Z Z Z (Aa a3) bR)<|zM Z<|yS Z (aa.convert (k':=.u64) Z Z (by kernel_rfl))<|zb h fun v4 a4 h=>yS Z (yP Z Z Z (Aa a4) bR)<|mN Z<|zQ<|qR<|zM Z<|yS Z (aa.rem Z Z Z (by decide))<|yS Z (am Z Z Z Z)<|nT ?_;refine zX Z (fun g2=>?_)<|fun g2=>?_
  ·refine zi g2 h fun h=>qR<|zM Z<|mN Z<|zr<|af ?_;cases h;exact ba Z
  ·refine zo g2 h fun h=>zk<|zT<|qR<|zM Z<|mN Z<|zr ?_;cases h;exact ba Z
structure pm where
 i:Int
 r:Int
def wS (seed:Int)(n:Int)(x1:pm):Option (pm⊕pm):=bif decide (x1.r<10)then (Fs seed n x1.r x1.i).bind fun v3=>some (.inl (pm.mk v3 (i64.wrap (x1.r+1))))else some (.inr (pm.mk x1.i x1.r))
def M9 (seed:Int)(n:Int)(i:Int):Option Int:=(Fr n i).bind fun v1=>bif !v1 then some (-1)else (iter (wS seed n) aY (pm.mk i 0)).bind fun v2=>some v2.i
theorem Rr {n:Int}{i:Int}(h:M9 seed n i=some r_):aq prog 172 [.int .u64 seed,.int .i64 n,.int .i64 i] [.int .i64 r_]:=by
 refine zh Tryz.func172 Z Z Z Z ?_;unfold M9 at h;refine qR<|mN Z<|qR<|zM Z<|zM Z<|zb h fun v1 a1 h=>yS Z (yP Z Z Z (Qg a1) bR)<|mN Z<|zQ<|qR<|zM Z<|yS Z (aa.not Z Z)<|nT ?_;refine zX Z (fun g1=>?_)<|fun g1=>?_
 ·refine zi g1 h fun h=>qR<|mN Z<|LW.ret<|af ?_;cases h;exact ba Z
 ·refine zo g1 h fun h=>zk<|zT<|zQ<|qR<|mN Z ?_;obtain⟨v2,p2,q2⟩:=zB h;clear h;refine LW.tail (E:=[(2,(iQ v2.i)),(6,(iQ 0))]) (O:=[]) ?_<|fun e2 K2 u2=>?_
  ·refine LW.block ?_;refine LW.iterB (E:=fun x1:pm=>[(0,(uQ seed)),(1,(iQ n)),(2,(iQ x1.i)),(6,(iQ 0)),(8,(iQ x1.r))]) (O:=fun x1=>[]) p2 (au 0 ⟨Z,Z,Z,Z,Z,t_⟩)<|fun x1 z1 h m1=>?_;unfold wS at h;refine zQ<|qR<|zM Z<|yS Z (am Z Z Z Z)<|nT ?_;refine zX Z (fun g2=>?_)<|fun g2=>?_
   ·refine zi g2 h fun h=>zk<|zT<|zQ<|zl<|zR<|zM Z<|zM Z<|zM Z<|zM Z<|zb h fun v3 a3 h=>yS Z (yP Z Z Z (Qh a3) wL)<|zM Z<|zN<|ae<|zT<|zR<|zM Z<|yS Z (am Z Z Z Z)<|mN Z ?_;cases h;exact⟨_,rfl,au 0 ⟨Z,Z,Z,Z,Z,t_⟩⟩
   ·refine zo g2 h fun h=>zq<|aj<|aj<|zy<|zT ?_;cases h;obtain rfl:=(m1 _ rfl);exact au 0 ⟨Z,Z,t_⟩
  ·have h:=q2;clear p2;refine zT<|LW.weak u2<|qR<|zM Z<|mN Z<|zr ?_;cases h;exact ba Z
structure iY where
 i:Int
 out:List Int
def ua (c:Cf)(slot:Int)(v4:Int)(x1:iY):Option (iY⊕iY):=bif decide (x1.i<(c.W.length:Int))then (M9 v4 (c.W.length:Int) x1.i).bind fun v6=>bif decide (c.Epoch≠0)then bif decide (c.Epoch≠0)then bif (v6.tmod c.Epoch)==(slot.tmod c.Epoch)then bif bG x1.out.length [x1.i].length 8 then some (.inl (iY.mk (i64.wrap (x1.i+1)) (x1.out++[x1.i])))else none else some (.inl (iY.mk (i64.wrap (x1.i+1)) x1.out))else none else none else some (.inr (iY.mk x1.i x1.out))
def Lr (c:Cf)(slot:Int):Option (List Int):=(GG c).bind fun v1=>(DX slot).bind fun v2=>(bif !v1 then some true else some (!v2)).bind fun v3=>bif v3 then some [] else bif decide (c.Epoch≠0)then (tM c.Seed (u64.wrap (i64.wrap (slot.tdiv c.Epoch)))).bind fun v4=>(iter (ua c slot v4) aY (iY.mk 0 ([]:List Int))).bind fun v5=>some v5.out else none
theorem QR {r_:(List Int)}(h:Lr c slot=some r_):aq prog 135 [gF c,.int .i64 slot] [.slice 1 (r_.map be)]:=by
 refine zh Tryz.func135 Z Z Z Z ?_;unfold Lr at h;refine qR<|yS Z (bv Z Z Z Z Z)<|mN Z<|qR<|yS Z (zD Z Z Z bd Z Z)<|zb h fun v1 a1 h=>yS Z (yP Z Z Z (L6 a1) dB)<|mN Z<|qR<|zM Z<|zb h fun v2 a2 h=>yS Z (yP Z Z Z (NF a2) dB)<|mN Z<|zQ ?_;obtain⟨v3,p3,b3⟩:=zB h;clear h;refine LW.cut (E:=[(1,(iQ slot)),(2,.ptr 0 0),(4,.zs),(19,(bQ v3))]) (O:=[.box (cd c)]) ?_ ?_
 ·have h:=p3;refine zR<|zM Z<|yS Z (aa.not Z Z)<|zM Z ?_;refine zc 16 Z (fun g1=>?_)<|fun g1=>?_
  ·refine zi g1 h fun h=>yU Z (gd g1 Z) Z<|yU Z (gd g1 Z) Z<|yS Z (bA Z (aK g1 Z) Z)<|nT ?_;cases h;exact au 1 ⟨Z,Z,Z,Z,t_⟩
  ·refine zo g1 h fun h=>yV Z (gd g1 Z) (zm Z Z)<|yV Z (gd g1 Z) (aa.not Z Z)<|yS Z (aU Z (aK g1 Z) Z)<|nT ?_;cases h;exact au 1 ⟨Z,Z,Z,Z,t_⟩
 ·have h:=b3;clear p3;refine zX Z (fun g2=>?_)<|fun g2=>?_
  ·refine zi g2 h fun h=>qR<|mN Z<|LW.ret<|af ?_;cases h;exact zf (.one (.tmp Z)) Conv.zs
  ·refine zo g2 h fun h=>zk<|zT<|zQ<|dy<|yE Z (zA Z Z xm)<|yE Z (zD Z Z Z iV Z Z)<|zH Z<|yE Z (zA Z Z kS)<|yE Z (zD Z Z Z aV Z Z)<|zg h fun q1 h=>yE Z (aa.quo Z Z Z (of_decide_eq_true q1))<|yE Z (aa.convert (k':=.u64) Z Z (by kernel_rfl))<|zb h fun v4 a4 h=>yE Z (yP Z Z Z (Aa a4) bR)<|zH Z<|LO.nil<|zT<|qR<|mN Z<|zQ<|qR<|mN Z<|LW.ent (bW.lazy (t:=8) (m:=1) Z Z Z) ?_;obtain⟨v5,p5,b5⟩:=zB h;clear h;refine LW.tail (E:=[(4,.zs),(8,(jI 1 v5.out))]) (O:=[.box (cd c),.vec 1 (v5.out.map be)]) ?_<|fun e5 K5 u5=>?_
   ·refine LW.block ?_;refine LW.iterB (E:=fun x1:iY=>[(1,(iQ slot)),(2,.ptr 0 0),(4,.zs),(7,(uQ v4)),(8,(jI 1 x1.out)),(9,(iQ x1.i))]) (O:=fun x1=>[.box (cd c),.vec 1 (x1.out.map be)]) p5 (au 2 ⟨Z,Z,Z,Z,Z,Z,t_⟩)<|fun x1 z1 h m1=>?_;unfold ua at h;refine zQ<|qR<|zM Z<|yS Z (zA Z Z dZ)<|yS Z (zD Z Z Z d6 Z Z)<|yS Z (cx Z Z)<|yS Z (am Z Z Z Z)<|nT ?_;refine zX Z (fun g3=>?_)<|fun g3=>?_
    ·refine zi g3 h fun h=>zk<|zT<|zQ<|zl<|zQ<|dy<|zH Z<|yE Z (zA Z Z dZ)<|yE Z (zD Z Z Z d6 Z Z)<|yE Z (cx Z Z)<|zH Z<|zb h fun v6 a6 h=>yE Z (yP Z Z Z (Rr a6) oU)<|yE Z (zA Z Z kS)<|yE Z (zD Z Z Z aV Z Z)<|zg h fun q2 h=>yE Z (aa.rem Z Z Z (of_decide_eq_true q2))<|zH Z<|yE Z (zA Z Z kS)<|yE Z (zD Z Z Z aV Z Z)<|zg h fun q3 h=>yE Z (aa.rem Z Z Z (of_decide_eq_true q3))<|yE Z (am Z Z Z Z)<|LO.nil<|zT ?_;refine zX Z (fun g4=>?_)<|fun g4=>?_
     ·refine zi g4 h fun h=>zR<|zM Z<|zM Z<|yS Z (gU Z dN Z Z Z Z Z)<|zg h fun q4 h=>yS Z (aa.appendX be x1.out [x1.i] rfl Z Z Z iC.p Z dN q4 Z)<|zM Z<|zN<|ae<|zT<|zR<|zM Z<|yS Z (am Z Z Z Z)<|mN Z ?_;cases h;exact⟨_,rfl,au 2 ⟨Z,Z,Z,Z,Z,Z,t_⟩⟩
     ·refine zo g4 h fun h=>zk<|ae<|zT<|zR<|zM Z<|yS Z (am Z Z Z Z)<|mN Z ?_;cases h;exact⟨_,rfl,au 2 ⟨Z,Z,Z,Z,Z,Z,t_⟩⟩
    ·refine zo g3 h fun h=>zq<|aj<|aj<|zy<|zT ?_;cases h;obtain rfl:=(m1 _ rfl);exact au 2 ⟨Z,Z,t_⟩
   ·have h:=b5;clear p5;refine zT<|LW.weak u5<|qR<|zM Z<|mN Z<|zr ?_;cases h;exact zf (.one (.tmp Z))<|(Conv.vecAll Z Z Z)
def MU (c:Cf)(slot:Int)(who:Int):Option Bool:=(Lr c slot).bind fun v1=>(GL v1 who).bind fun v2=>some v2
theorem Rb {who:Int}{r_:Bool}(h:MU c slot who=some r_):aq prog 95 [gF c,.int .i64 slot,.int .i64 who] [.bool r_]:=by
 refine zh Tryz.func95 Z Z Z Z ?_;unfold MU at h;refine qR<|yS Z (bv Z Z Z Z Z)<|mN Z<|qR<|yS Z (zD Z Z Z bd Z Z)<|zM Z<|zb h fun v1 a1 h=>yS Z (yP Z Z Z (QR a1) bR)<|zM Z<|zb h fun v2 a2 h=>yS Z (yP Z Z Z (L7 a2) bR)<|mN Z<|qR<|zM Z<|mN Z<|zr ?_;cases h;exact ba Z
def Zz (c:Cf)(slot:Int):Option Int:=(GG c).bind fun v1=>(DX slot).bind fun v2=>(bif !v1 then some true else some (!v2)).bind fun v3=>bif v3 then some (-1)else (tM c.Seed 4294967296).bind fun v4=>(tM v4 (u64.wrap (slot))).bind fun v5=>bif decide ((u64.wrap ((c.W.length:Int)))≠0)then some (i64.wrap (v5.tmod (u64.wrap ((c.W.length:Int)))))else none
theorem P5 (h:Zz c slot=some r_):aq prog 65 [gF c,.int .i64 slot] [.int .i64 r_]:=by
 refine zh Tryz.func65 Z Z Z Z ?_;unfold Zz at h;refine qR<|yS Z (bv Z Z Z Z Z)<|mN Z<|qR<|yS Z (zD Z Z Z bd Z Z)<|zb h fun v1 a1 h=>yS Z (yP Z Z Z (L6 a1) dB)<|mN Z<|qR<|zM Z<|zb h fun v2 a2 h=>yS Z (yP Z Z Z (NF a2) dB)<|mN Z<|zQ ?_;obtain⟨v3,p3,b3⟩:=zB h;clear h;refine LW.cut (E:=[(1,(iQ slot)),(2,.ptr 0 0),(4,(iQ 0)),(17,(bQ v3))]) (O:=[.box (cd c)]) ?_ ?_
 ·have h:=p3;refine zR<|zM Z<|yS Z (aa.not Z Z)<|zM Z ?_;refine zc 14 Z (fun g1=>?_)<|fun g1=>?_
  ·refine zi g1 h fun h=>yU Z (gd g1 Z) Z<|yU Z (gd g1 Z) Z<|yS Z (bA Z (aK g1 Z) Z)<|nT ?_;cases h;exact au 1 ⟨Z,Z,Z,Z,t_⟩
  ·refine zo g1 h fun h=>yV Z (gd g1 Z) (zm Z Z)<|yV Z (gd g1 Z) (aa.not Z Z)<|yS Z (aU Z (aK g1 Z) Z)<|nT ?_;cases h;exact au 1 ⟨Z,Z,Z,Z,t_⟩
 ·have h:=b3;clear p3;refine zX Z (fun g2=>?_)<|fun g2=>?_
  ·refine zi g2 h fun h=>qR<|mN Z<|LW.ret<|af ?_;cases h;exact ba Z
  ·refine zo g2 h fun h=>zk<|zT<|qR<|yS Z (zA Z Z xm)<|yS Z (zD Z Z Z iV Z Z)<|zb h fun v4 a4 h=>yS Z (yP Z Z Z (Aa a4) bR)<|zM Z<|yS Z (aa.convert (k':=.u64) Z Z (by kernel_rfl))<|zb h fun v5 a5 h=>yS Z (yP Z Z Z (Aa a5) bR)<|mN Z<|qR<|zM Z<|yS Z (zA Z Z dZ)<|yS Z (zD Z Z Z d6 Z Z)<|yS Z (cx Z Z)<|yS Z (aa.convert (k':=.u64) Z Z (by kernel_rfl))<|zg h fun q1 h=>yS Z (aa.rem Z Z Z (of_decide_eq_true q1))<|yS Z (aa.convert (k':=.i64) Z Z (by kernel_rfl))<|mN Z<|zr ?_;cases h;exact ba Z
structure ia where
 t11:Int
 o1:List (Int×Bool)
def rH (l:List Int)(x1:ia):Option (ia⊕ia):=bif decide (x1.t11<(l.length:Int))then (ix l x1.t11).bind fun y1=>some (.inl (ia.mk (i64.wrap (x1.t11+1)) (bK x1.o1 y1 true)))else some (.inr (ia.mk x1.t11 x1.o1))
def MV (c:Cf)(l:List Int):Option Int:=(iter (rH l) aY (ia.mk 0 ([]:List (Int×Bool)))).bind fun v1=>(CG c v1.o1).bind fun v2=>some v2
theorem Rc {l:List Int}(h:MV c l=some r_):aq prog 162 [gF c,.slice 1 (l.map be)] [.int .i64 r_]:=by
 refine zh Tryz.func162 Z Z Z Z ?_;unfold MV at h;refine qR<|yS Z (bv Z Z Z Z Z)<|mN Z<|qR<|yS Z (aa.makeMap Z Z Z)<|yS Z (ze Z PY Z Z)<|yS Z (zs Z Z Z Z Iw Z Z Z Z)<|nT<|zQ<|qR<|zM Z<|yS Z (cx Z Z)<|mN Z ?_;obtain⟨v1,p1,q1⟩:=zB h;clear h;refine LW.tail (E:=[(2,.ptr 0 0),(4,(iQ 0)),(5,.ptr 2 0)]) (O:=[.box (cd c),.map (ar be (fun v=>(bQ v)) v1.o1),.box [.map 1]]) ?_<|fun e1 b1 u1=>?_
 ·refine LW.block ?_;refine LW.iterB (E:=fun x1:ia=>[(2,.ptr 0 0),(4,(iQ 0)),(5,.ptr 2 0),(9,(kI l)),(10,.p (.int .i64 (l.length:Int))),(11,(iQ x1.t11))]) (O:=fun x1=>[.box (cd c),.map (ar be (fun v=>(bQ v)) x1.o1),.box [.map 1]]) p1 (zW 3 ⟨Z,Z,Z,Z,Z,Z,t_⟩ Z Z Z (zL Z (zL (ai (fun _=>rfl) _) (zL Z Z))))<|fun x1 z1 h m1=>?_;unfold rH at h;refine qR<|yS Z (am Z Z Z Z)<|nT<|zQ ?_;refine zX Z (fun g1=>?_)<|fun g1=>?_
  ·refine zi g1 h fun h=>zk<|zT<|zQ<|zl<|qR<|zb h fun y1 j1 h=>yS Z (zx Z Z Z dN j1 Z)<|yS Z (bS Z Z Z aV Z Z)<|mN Z<|zR<|yS Z (zD Z Z Z Iw Z Z)<|zM Z ?_;refine yS Z (aa.setX (f:=be) (g:=(fun v=>(bQ v))) y1 true HI (.inl Z) Z Z Z Z Z K0 Z) ?_;refine zN<|ae<|zT<|zR<|yS Z (am Z Z Z Z)<|mN Z ?_;cases h;exact⟨_,rfl,zW 3 ⟨Z,Z,Z,Z,Z,Z,t_⟩ Z Z Z (zL Z (zL (ai (fun _=>rfl) _) (zL Z Z)))⟩
  ·refine zo g1 h fun h=>zq<|aj<|aj<|zy<|zT ?_;cases h;obtain rfl:=(m1 _ rfl);exact zW 3 ⟨Z,Z,Z,t_⟩ Z Z Z<|zL Z<|zL (ai (fun _=>rfl) _)<|zL Z Z
 ·have h:=q1;clear p1;refine zT<|LW.weak u1<|zQ<|dy<|yE Z (zD Z Z Z bd Z Z)<|yE Z (zD Z Z Z bd Z Z)<|yE Z (aa.makeFunc Z Z Z)<|yE Z (yC Z Z Z (NE (c:=c)))<|zb h fun v2 a2 h=>yE Z (yC Z Z Z (Mb a2))<|zH Z<|LO.nil<|zT<|zr ?_;cases h;exact ba Z
def Lq (c:Cf)(slot:Int):Option (List Int):=(DW c slot).bind fun v1=>bif !v1 then some [] else bif decide (c.Epoch≠0)then (Na (step c.Seed (u64.wrap (i64.wrap (slot.tdiv c.Epoch)))) (c.W.length:Int)).bind fun v2=>(xW c slot v2).bind fun v3=>some v3 else none
theorem QQ {r_:(List Int)}(hr:Lq c slot=some r_):aq prog 129 [gF c,.int .i64 slot] [.slice 1 (r_.map be)]:=by
 refine zh Tryz.func129 Z Z Z Z ?_;unfold Lq at hr;refine qR<|yS Z (bv Z Z Z Z Z)<|yS Z (bv Z Z Z Z Z)<|mN Z<|zQ<|qR<|yS Z (zD Z Z Z bd Z Z)<|yS Z (zD Z Z Z aV Z Z)<|zb hr fun v1 a1 hr=>yS Z (yP Z Z Z (NB a1) bR)<|yS Z (aa.not Z Z)<|nT ?_;refine zX Z (fun g1=>?_)<|fun g1=>?_
 ·refine zi g1 hr fun hr=>qR<|mN Z<|LW.ret<|af ?_;cases hr;exact zf (.one (.tmp Z)) Conv.zs
 ·refine zo g1 hr fun hr=>zk<|zT<|zQ<|LW.ent (bW.slot Z)<|fC<|yG Z (fun H _=>zA Z Z xm)<|yF Z (zd Z Z Z iV Z Z) Z<|yF Z (zd Z Z Z aV Z Z) Z<|yG Z (fun H _=>zA Z Z kS)<|yF Z (zd Z Z Z aV Z Z) Z<|zg hr fun q1 hr=>yG Z (fun H _=>aa.quo Z Z Z (of_decide_eq_true q1))<|yG Z (fun H _=>aa.convert (k':=.u64) Z Z (by kernel_rfl)) ?_;refine yF (F:=[]) (s:=none) Z (fun H _=>zC Z Z Z (by kernel_rfl) (zp (z8 (h:=c.Seed) (x:=(u64.wrap (i64.wrap (slot.tdiv c.Epoch))))) bR)) Z ?_;refine yG Z (fun H _=>zA Z Z dZ)<|yF Z (zd Z Z Z d6 Z Z) Z<|yG Z (fun H _=>cx Z Z)<|zb hr fun v2 a2 hr=>?_;refine yF (F:=[]) (s:=none) Z (fun H _=>yP Z Z Z (Rs a2) bR) Z ?_;refine yF Z (ch.alloc Z Q6 (id:=2) Z) Z<|yF Z (zt Z Z Z Z d6 Z Z Z) Z ?_;refine LF.nil ⟨by kernel_rfl,?_⟩;refine zT<|qR<|yS Z (zD Z Z Z bd Z Z)<|yS Z (aa.makeFunc Z Z Z)<|yS Z (yC Z Z Z (NE (c:=c)))<|zb hr fun v3 a3 hr=>yS Z (yC Z Z Z (Ma a3))<|mN Z<|zr ?_;cases hr;exact zf (.one (.tmp Z))<|(Conv.vecAll Z Z Z)
def Jr (c:Cf)(slot:Int):Option Int:=(DW c slot).bind fun v1=>bif !v1 then some (-1)else bif decide ((u64.wrap ((c.W.length:Int)))≠0)then some (i64.wrap ((step (step c.Seed 4294967296) (u64.wrap (slot))).tmod (u64.wrap ((c.W.length:Int)))))else none
theorem P4 (hr:Jr c slot=some r_):aq prog 84 [gF c,.int .i64 slot] [.int .i64 r_]:=by
 refine zh Tryz.func84 Z Z Z Z ?_;unfold Jr at hr;refine qR<|yS Z (bv Z Z Z Z Z)<|mN Z<|zQ<|qR<|yS Z (zD Z Z Z bd Z Z)<|zM Z<|zb hr fun v1 a1 hr=>yS Z (yP Z Z Z (NB a1) bR)<|yS Z (aa.not Z Z)<|nT ?_;refine zX Z (fun g1=>?_)<|fun g1=>?_
 ·refine zi g1 hr fun hr=>qR<|mN Z<|LW.ret<|af ?_;cases hr;exact ba Z
 ·refine zo g1 hr fun hr=>zk<|zT<|zQ<|dy<|yE Z (zA Z Z xm)<|yE Z (zD Z Z Z iV Z Z)<|yE Z (yP Z Z Z (z8 (h:=c.Seed) (x:=4294967296)) bR)<|zH Z<|yE Z (aa.convert (k':=.u64) Z Z (by kernel_rfl))<|yE Z (zC Z Z Z (by kernel_rfl) (zp (z8 (h:=(step c.Seed 4294967296)) (x:=(u64.wrap (slot)))) bR))<|yE Z (zA Z Z dZ)<|yE Z (zD Z Z Z d6 Z Z)<|yE Z (cx Z Z)<|yE Z (aa.convert (k':=.u64) Z Z (by kernel_rfl))<|zg hr fun q1 hr=>yE Z (aa.rem Z Z Z (of_decide_eq_true q1))<|yE Z (aa.convert (k':=.i64) Z Z (by kernel_rfl))<|zH Z<|LO.nil<|zT<|zr ?_;cases hr;exact ba Z
def MX (c:Cf)(slot:Int)(who:Int):Option Bool:=(Lq c slot).bind fun v1=>(xX v1 who).bind fun v2=>some v2
theorem Re {who:Int}{r_:Bool}(h:MX c slot who=some r_):aq prog 88 [gF c,.int .i64 slot,.int .i64 who] [.bool r_]:=by
 refine zh Tryz.func88 Z Z Z Z ?_;unfold MX at h;refine qR<|yS Z (bv Z Z Z Z Z)<|mN Z<|qR<|yS Z (zD Z Z Z bd Z Z)<|zM Z<|zb h fun v1 a1 h=>yS Z (yP Z Z Z (QQ a1) bR)<|zM Z<|zb h fun v2 a2 h=>yS Z (yP Z Z Z (JG a2) bR)<|mN Z<|zr ?_;cases h;exact ba Z
end Go.Mg
