/- Products of numbers. Conditions: none. -/
import Derived.Test.YtfbigoipfbiliaaGreatX9
set_option maxRecDepth 100000
set_option linter.all false
namespace Go.Mg
open IntKind (i64 u64)
open Go.Proofs.Tryz (func86 prog)
open List (length_singleton length_take take_add_one take_length)
open Nat (le_trans)
open Int (toNat)
open Go.Proofs
variable {a b d k s slot : Int} {c c0 : Cf} {full r_ : Bool} {head id : ID} {in0 w : Vw} {n0 x : Nd} {tl : List Of}
def xS (x:Int)(y:Int):Option (Int×Int):=some (u64.wrap ((u64.wrap ((u64.wrap ((x.fdiv (2 ^ (min (toNat 32) u64.bits)))*(y.fdiv (2 ^ (min (toNat 32) u64.bits)))))+((u64.wrap ((u64.wrap ((x.fdiv (2 ^ (min (toNat 32) u64.bits)))*(bits .and .u64 y 4294967295)))+((u64.wrap ((bits .and .u64 x 4294967295)*(bits .and .u64 y 4294967295))).fdiv (2 ^ (min (toNat 32) u64.bits))))).fdiv (2 ^ (min (toNat 32) u64.bits)))))+((u64.wrap ((bits .and .u64 (u64.wrap ((u64.wrap ((x.fdiv (2 ^ (min (toNat 32) u64.bits)))*(bits .and .u64 y 4294967295)))+((u64.wrap ((bits .and .u64 x 4294967295)*(bits .and .u64 y 4294967295))).fdiv (2 ^ (min (toNat 32) u64.bits))))) 4294967295)+(u64.wrap ((bits .and .u64 x 4294967295)*(y.fdiv (2 ^ (min (toNat 32) u64.bits))))))).fdiv (2 ^ (min (toNat 32) u64.bits)))),u64.wrap (x*y))
theorem NA {x:Int}{y:Int}{r_:Int×Int}(h:xS x y=some r_):aq prog 229 [.int .u64 x,.int .u64 y] [.int .u64 r_.1,.int .u64 r_.2]:=by
 refine zh Tryz.func229 Z Z Z Z ?_;unfold xS at h;refine qR<|zM Z<|mN Z<|qR<|zM Z<|yS Z (am Z Z Z Z)<|mN Z<|qR<|zM Z<|yS Z (aa.shr Z Z Z (by decide))<|mN Z<|qR<|zM Z<|yS Z (am Z Z Z Z)<|mN Z<|qR<|zM Z<|yS Z (aa.shr Z Z Z (by decide))<|mN Z<|qR<|zM Z<|zM Z<|yS Z (am Z Z Z Z)<|mN Z<|qR<|zM Z<|zM Z<|yS Z (am Z Z Z Z)<|zM Z<|yS Z (aa.shr Z Z Z (by decide))<|yS Z (am Z Z Z Z)<|mN Z<|qR<|zM Z<|yS Z (am Z Z Z Z)<|mN Z<|qR<|zM Z<|yS Z (aa.shr Z Z Z (by decide))<|mN Z<|qR<|zM Z<|zM Z<|zM Z<|yS Z (am Z Z Z Z)<|yS Z (am Z Z Z Z)<|mN Z<|qR<|zM Z<|zM Z<|yS Z (am Z Z Z Z)<|zM Z<|yS Z (am Z Z Z Z)<|zM Z<|yS Z (aa.shr Z Z Z (by decide))<|yS Z (am Z Z Z Z)<|mN Z<|qR<|zM Z<|zM Z<|yS Z (am Z Z Z Z)<|mN Z<|zr ?_;cases h;exact zf (.two (.tmp Z) (.tmp Z))<|⟨_,rfl,bR⟩
def xP (a:Int)(b:Int):Option ID:=(xS (u64.wrap (a)) (u64.wrap (b))).bind fun v1=>some v1
theorem Kt {r_:ID}(h:xP a b=some r_):aq prog 207 [.int .i64 a,.int .i64 b] [aX r_]:=by
 refine zh Tryz.func207 Z Z Z Z ?_;unfold xP at h;refine qR<|yS Z (ze Z Cw Z Z)<|nT<|qR<|zM Z<|yS Z (aa.convert (k':=.u64) Z Z (by kernel_rfl))<|zM Z<|yS Z (aa.convert (k':=.u64) Z Z (by kernel_rfl))<|zb h fun v1 a1 h=>yS Z (yP Z Z Z (NA a1) bR)<|zM Z<|yS Z (eZ Z Z Z)<|yS Z (eZ Z Z Z)<|zM Z<|mN Z<|qR<|zM Z<|zM Z<|yS Z (aa.build Z LN Z Z Z)<|yS Z (zs Z Z Z Z vn Z Z Z Z)<|nT<|zr ?_;cases h;exact zf (.one (eh Z Z)) zv
def xR (n:Int):Option Bool:=bif decide (n>=0)then some (decide (n<=4611686018427387904))else some false
theorem Nz {n:Int}(h:xR n=some r_):aq prog 228 [.int .i64 n] [.bool r_]:=by
 refine zh Tryz.func228 Z Z Z Z ?_;unfold xR at h;refine qR<|mN Z<|qR<|zM Z<|yS Z (am Z Z Z Z)<|zM Z ?_;refine zc 5 Z (fun g1=>?_)<|fun g1=>?_
 ·refine zi g1 h fun h=>yV Z (gd g1 Z) (zm Z Z)<|yV Z (gd g1 Z) (am Z Z Z Z)<|yS Z (bA Z (aK g1 Z) Z)<|mN Z<|zr ?_;cases h;exact ba Z
 ·refine zo g1 h fun h=>yU Z (gd g1 Z) Z<|yU Z (gd g1 Z) Z<|yS Z (aU Z (aK g1 Z) Z)<|mN Z<|zr ?_;cases h;exact ba Z
def CC (n:Int):Option Bool:=(xR n).bind fun v1=>some (!v1)
theorem Ny {n:Int}(h:CC n=some r_):aq prog 227 [.int .i64 n] [.bool r_]:=by
 refine zh Tryz.func227 Z Z Z Z ?_;unfold CC at h;refine qR<|mN Z<|qR<|zM Z<|zb h fun v1 a1 h=>yS Z (yP Z Z Z (Nz a1) dB)<|yS Z (aa.not Z Z)<|mN Z<|zr ?_;cases h;exact ba Z
structure iB where
 t8:Int
def oE (s:List Int)(x1:iB):Option (iB⊕(iB⊕Int)):=bif decide (x1.t8<(s.length:Int))then (ix s x1.t8).bind fun y1=>(CC y1).bind fun v2=>bif v2 then some (.inr (.inr x1.t8))else some (.inl (iB.mk (i64.wrap (x1.t8+1))))else some (.inr (.inl (iB.mk x1.t8)))
def Jt (s:List Int):Option Int:=(iter (oE s) aY (iB.mk 0)).bind fun b_v1=>Sum.elim (fun _=>some (-1)) some b_v1
theorem OV {s:List Int}{r_:Int}(h:Jt s=some r_):LC prog 235 [(kI s),.fn 227 [] []] [] (Is (iQ r_) []):=by
 refine eP Tryz.func235 Z Z Z ?_;unfold Jt at h;refine qR<|mN Z<|zQ<|qR<|zM Z<|yS Z (cx Z Z)<|mN Z ?_;obtain⟨w1,p1,q1⟩:=zB h;clear h;refine LW.tailB (b:=w1) (E:=fun v1=>[(4,(iQ 0))]) (O:=fun v1=>[]) ?_<|fun v1 f1 e1 K1 u1=>?_
 ·refine LW.block ?_;refine LW.iterB (E:=fun x1:iB=>[(0,(kI s)),(1,.fn 227 [] []),(4,(iQ 0)),(7,.p (.int .i64 (s.length:Int))),(8,(iQ x1.t8))]) (O:=fun x1=>[]) p1 (au 0 ⟨Z,Z,Z,Z,Z,t_⟩)<|fun x1 z1 h m1=>?_;unfold oE at h;refine qR<|yS Z (am Z Z Z Z)<|nT<|zQ ?_;refine zX Z (fun g1=>?_)<|fun g1=>?_
  ·refine zi g1 h fun h=>zk<|zT<|zQ<|zl<|qR<|zM Z<|mN Z<|qR<|zM Z<|zM Z<|zM Z<|zb h fun y1 j1 h=>yS Z (zx Z Z Z dN j1 Z)<|yS Z (bS Z Z Z aV Z Z)<|zb h fun v2 a2 h=>yS Z (yP Z Z Z (Ny a2) dB)<|nT ?_;refine zX Z (fun g2=>?_)<|fun g2=>?_
   ·refine zi g2 h fun h=>qR<|zM Z<|mN Z<|zr<|ao<|af<|af<|ao<|af<|af ?_;cases h;obtain rfl:=(m1 _ rfl);have h:=bT q1;cases h;exact aD (.one (.tmp Z))<|⟨rfl,rfl⟩
   ·refine zo g2 h fun h=>zk<|ae<|zT<|zR<|yS Z (am Z Z Z Z)<|mN Z ?_;cases h;exact⟨_,rfl,au 0 ⟨Z,Z,Z,Z,Z,t_⟩⟩
  ·refine zo g1 h fun h=>zq<|aj<|aj<|zy<|zT ?_;cases h;obtain rfl:=(m1 _ rfl);exact⟨_,rfl,au 0 ⟨Z,t_⟩⟩
 ·obtain rfl:=f1;have h:=cU q1;clear p1;refine zT<|LW.weak u1<|qR<|mN Z<|zr ?_;cases h;exact aD (.one (.tmp Z))<|⟨rfl,rfl⟩
def P1 (s:List Int):Option Bool:=(Jt s).bind fun v1=>some (decide (v1>=0))
theorem QT {s:List Int}(h:P1 s=some r_):LC prog 226 [(kI s),.fn 227 [] []] [] (Is (bQ r_) []):=by
 refine eP Tryz.func226 Z Z Z ?_;unfold P1 at h;refine qR<|mN Z<|qR<|zM Z<|zM Z<|zb h fun v1 a1 h=>yS Z (yC Z Z Z (OV a1))<|yS Z (am Z Z Z Z)<|mN Z<|zr ?_;cases h;exact aD (.one (.tmp Z))<|⟨rfl,rfl⟩
def xO (l:List Int):Option Bool:=(P1 l).bind fun v1=>some (!v1)
theorem Nw {l:List Int}(h:xO l=some r_):aq prog 206 [.slice 1 (l.map be)] [.bool r_]:=by
 refine zh Tryz.func206 Z Z Z Z ?_;unfold xO at h;refine qR<|mN Z<|qR<|zM Z<|zb h fun v1 a1 h=>yS Z (yC Z Z Z (QT a1))<|yS Z (aa.not Z Z)<|mN Z<|zr ?_;cases h;exact ba Z
def xM (a:Int)(b:Int)(c:Int)(d:Int):Option Bool:=(xO [a,b,c,d]).bind fun v1=>bif !v1 then some false else (xP a b).bind fun v2=>(xP c d).bind fun v3=>bif !((v2.1==v3.1)&&((v2.2==v3.2)&&true))then (D2 [v2.1,v2.2] [v3.1,v3.2]).bind fun v4=>some (decide (v4>0))else some false
theorem Nu {c:Int}(h:xM a b c d=some r_):aq prog 166 [.int .i64 a,.int .i64 b,.int .i64 c,.int .i64 d] [.bool r_]:=by
 refine zh Tryz.func166 Z Z Z Z ?_;unfold xM at h;refine qR<|mN Z<|zQ<|qR<|zM Z<|zM Z<|zM Z<|zM Z<|yS Z (gU Z dN Z Z Z Z Z)<|zb h fun v1 a1 h=>yS Z (yP Z Z Z (Nw a1) dB)<|yS Z (aa.not Z Z)<|nT ?_;refine zX Z (fun g1=>?_)<|fun g1=>?_
 ·refine zi g1 h fun h=>qR<|mN Z<|LW.ret<|af ?_;cases h;exact ba Z
 ·refine zo g1 h fun h=>zk<|zT<|qR<|zM Z<|zM Z<|zb h fun v2 a2 h=>yS Z (yP Z Z Z (Kt a2) bR)<|zM Z<|zM Z<|zb h fun v3 a3 h=>yS Z (yP Z Z Z (Kt a3) bR)<|yS Z (ze Z Cw Z Z)<|yS Z (ze Z Cw Z Z)<|yS Z (zs Z Z Z Z vn Z Z Z Z)<|yS Z (zs Z Z Z Z vn Z Z Z Z)<|nT<|zQ<|dy<|yE Z (zD Z Z Z vn Z Z)<|yE Z (zD Z Z Z vn Z Z)<|yE Z (aa.neqAgg Z Z Z Z Z JU)<|zH Z ?_;refine LO.cases 27 Z (fun(g2:(!((v2.1==v3.1)&&((v2.2==v3.2)&&true)))=true)=>?_) (fun(g2:(!((v2.1==v3.1)&&((v2.2==v3.2)&&true)))=false)=>?_)
  ·refine zi g2 h fun h=>yL Z (gd g2 Z) (aa.sliceBox Z Z G4 Z Z Z)<|yL Z (gd g2 Z) (aa.sliceBox Z Z G4 Z Z Z)<|zb h fun v4 a4 h=>yL Z (gd g2 Z) (zC Z Z Z (by kernel_rfl) (LC.lend (NK a4) (.cons (Conv.boxSlice Z Z Z Z) (.cons (Conv.boxSlice Z Z Z Z) .nil)) Z))<|yL Z (gd g2 Z) (am Z Z Z Z)<|yE Z (bA Z (aK g2 Z) Z)<|zH Z<|LO.nil<|zT<|zr ?_;cases h;exact ba Z
  ·refine zo g2 h fun h=>yK Z (gd g2 Z) Z<|yK Z (gd g2 Z) Z<|yK Z (gd g2 Z) Z<|yK Z (gd g2 Z) Z<|yE Z (aU Z (aK g2 Z) Z)<|zH Z<|LO.nil<|zT<|zr ?_;cases h;exact ba Z
def GY (c:Cf)(w:Vw)(slot:Int):Option (List Vt×Int):=(vJ c w.V slot).bind fun v1=>(Lq c slot).bind fun v2=>(MV c v2).bind fun v3=>some (v1,v3)
theorem OY {r_:List Vt×Int}(h:GY c w slot=some r_):LC prog 130 [.p (gF c),.p (iW w),(iQ slot)] [] (Is (.agg [.fn 163 [] [.ptr 0 0,.ptr 1 0,.ptr 3 0],.fn 165 [] [.ptr 0 0,.ptr 4 0]]) [.box (cd c),.box (cE w),.box [.fn 163 [] [.ptr 0 0,.ptr 1 0,.ptr 3 0],.fn 165 [] [.ptr 0 0,.ptr 4 0]],.box [(kV r_.1)],.box [(iQ r_.2)]]):=by
 refine eP Tryz.func130 Z Z Z ?_;unfold GY at h;refine qR<|yS Z (bv Z Z Z Z Z)<|yS Z (bv Z Z Z Z Z)<|yS Z (ze Z IN Z Z)<|nT<|zQ<|LW.ent (bW.slot Z)<|LW.ent (bW.slot Z)<|fC<|yF Z (zd Z Z Z bd Z Z) Z<|yG Z (fun H _=>zA Z Z aS)<|yF Z (zd Z Z Z cq Z Z) Z<|zK Z<|zb h fun v1 a1 h=>?_;refine yF (F:=[]) (s:=none) Z (fun H _=>yP Z Z Z (Kv a1) oU) Z ?_;refine yF Z (zd Z Z Z bd Z Z) Z<|yF Z (zd Z Z Z bd Z Z) Z<|zK Z<|zb h fun v2 a2 h=>?_;refine yF (F:=[]) (s:=none) Z (fun H _=>yP Z Z Z (QQ a2) bR) Z ?_;obtain⟨v3,a3,h⟩:=zB h;refine yF (F:=[]) (s:=none) Z (fun H _=>yP Z Z Z (Rc a3) bR) Z ?_;refine yF Z (ch.alloc Z Q8 (id:=3) Z) Z<|yF Z (ch.alloc Z Rl (id:=4) Z) Z<|yF Z (zt Z Z Z Z cq Z Z Z) Z<|yF Z (zt Z Z Z Z aV Z Z Z) Z ?_;refine LF.nil ⟨by kernel_rfl,?_⟩;refine zT<|qR<|yS Z (aa.makeFunc Z Z Z)<|yS Z (aa.makeFunc Z Z Z)<|yS Z (aa.build Z LS Z Z Z)<|yS Z (zs Z Z Z Z IA Z Z Z Z)<|nT<|zr ?_;cases h;exact aD (.one (eh Z Z))<|⟨rfl,rfl⟩
theorem O2 {r_:List Vt×Int}(hr:GY c w slot=some r_):zV prog 130 [gF c,iW w,.int .i64 slot] (.agg [.fn 163 [] [.cptr (qD c),.cptr [.slice 5 (w.B.map ay),.slice 4 (w.V.map aO)],.cptr [.slice 4 (r_.1.map aO)]],.fn 165 [] [.cptr (qD c),.cptr [.int .i64 r_.2]]]):=
 zV.ofLC rfl (OY hr) (ed.agg ⟨ed.fn trivial ⟨ed.ptr rfl rfl rfl,ed.ptr rfl rfl rfl,ed.ptr rfl rfl rfl,trivial⟩,ed.fn trivial ⟨ed.ptr rfl rfl rfl,ed.ptr rfl rfl rfl,trivial⟩,trivial⟩)
def Jx (id:ID)(c:Cf)(w:Vw)(v:List Vt):Option Int:=(DY c w.B v id).bind fun v1=>some v1
theorem OZ {v:List Vt}{r_:Int}(h:Jx id c w v=some r_):LC prog 163 [.p (aX id),.cptr (qD c),.cptr [.slice 5 (w.B.map ay),.slice 4 (w.V.map aO)],.cptr [.slice 4 (v.map aO)]] [] (Is (iQ r_) []):=by
 refine eP Tryz.func163 Z Z Z ?_;unfold Jx at h;refine qR<|yS Z (bv Z Z Z Z Z)<|mN Z<|qR<|yS Z (bS Z Z Z bd Z Z)<|yS Z (aa.fieldAddrC Z Z aL Z)<|yS Z (bS Z Z Z bL Z Z)<|yS Z (bS Z Z Z cq Z Z)<|yS Z (zD Z Z Z aG Z Z)<|zb h fun v1 a1 h=>yS Z (yP Z Z Z (NG a1) wL)<|mN Z<|zr ?_;obtain rfl:=zJ h;exact bN (env':=[(5,(iQ v1))]) (H':=[]) (au 0 ⟨Z,t_⟩) (.one (.tmp Z))<|⟨rfl,rfl⟩
def wX (n:Int)(c:Cf)(al:Int):Option Bool:=(xM (i64.wrap (2*n)) c.Den al (i64.wrap (c.Den+(i64.wrap (2*c.Num))))).bind fun v1=>some v1
theorem JM {n:Int}{al:Int}(h:wX n c al=some r_):LC prog 165 [(iQ n),.cptr (qD c),.cptr [.int .i64 al]] [] (Is (bQ r_) []):=by
 refine eP Tryz.func165 Z Z Z ?_;unfold wX at h;refine qR<|mN Z<|qR<|zM Z<|yS Z (am Z Z Z Z)<|yS Z (aa.fieldAddrC Z Z kT Z)<|yS Z (bS Z Z Z aV Z Z)<|yS Z (bS Z Z Z aV Z Z)<|yS Z (aa.fieldAddrC Z Z kT Z)<|yS Z (bS Z Z Z aV Z Z)<|yS Z (aa.fieldAddrC Z Z sd Z)<|yS Z (bS Z Z Z aV Z Z)<|yS Z (am Z Z Z Z)<|yS Z (am Z Z Z Z)<|zb h fun v1 a1 h=>yS Z (yP Z Z Z (Nu a1) wL)<|mN Z<|zr ?_;cases h;exact aD (.one (.tmp Z))<|⟨rfl,rfl⟩
structure oG where
 l:List ID
 v:List Vt
 al:Int
def mw (c:Cf)(w:Vw)(x1:oG):Option (oG⊕(ID×Bool)):=bif decide ((x1.l.length:Int)<2)then some (.inr ((0,0),false))else (ix x1.l 0).bind fun y1=>(Jx y1 c w x1.v).bind fun v2=>(wX v2 c x1.al).bind fun v3=>bif v3 then (ix x1.l 0).bind fun y2=>some (.inr (y2,true))else bif xp x1.l 1 x1.l.length then some (.inl (oG.mk (x1.l.drop (1:Int).toNat) x1.v x1.al))else none
def qk (c:Cf)(w:Vw)(slot:Int)(head:ID):Option (ID×Bool):=(GY c w slot).bind fun v1=>bif few w.B then iter (mw c w) aY (oG.mk (an w.B head) v1.1 v1.2)else none
theorem N7 {r_:ID×Bool}(h:qk c w slot head=some r_):aq prog 89 [gF c,iW w,.int .i64 slot,aX head] [aX r_.1,.bool r_.2]:=by
 refine zh Tryz.func89 Z Z Z Z ?_;unfold qk at h;refine qR<|yS Z (bv Z Z Z Z Z)<|yS Z (bv Z Z Z Z Z)<|yS Z (bv Z Z Z Z Z)<|yS Z (ze Z gT Z Z)<|mN Z ?_;refine LW.iterG (step:=mw c w) (N:=aY) (b:=r_) (E:=fun x1:oG=>[(8,.ptr 3 0),(9,(bQ false)),(10,.ptr 4 0),(11,.p (.slice 2 (x1.l.map aX)))]) (O:=fun x1=>[.box (cd c),.box (cE w),.box [(uQ head.1),(uQ head.2)],.box [(uQ 0),(uQ 0)],.box [.fn 163 [] [.cptr (qD c),.cptr [.slice 5 (w.B.map ay),.slice 4 (w.V.map aO)],.cptr [.slice 4 (x1.v.map aO)]],.fn 165 [] [.cptr (qD c),.cptr [.int .i64 x1.al]]]]) Z ?_<|fun x1 z1 h m1=>?_
 ·refine LW.ent (bW.slot Z)<|fC<|yF Z (zd Z Z Z bd Z Z) Z<|yF Z (zd Z Z Z aI Z Z) Z<|zK Z<|zb h fun v1 a1 h=>?_;refine yF (F:=[]) (s:=none) Z (fun H _=>yC Z Z Z (LC.free (O2 a1) oU)) Z ?_;refine yG Z (fun H _=>zA Z Z aL)<|yF Z (zd Z Z Z bL Z Z) Z<|yF Z (zd Z Z Z aG Z Z) Z<|zg h fun q1 h=>?_;refine yF (F:=[]) (s:=none) Z (fun H _=>yP Z Z Z (QM (l:=w.B) (id:=head) (BP q1)) bR) Z ?_;refine yF Z (ch.alloc Z IN (id:=4) Z) Z<|yF Z (zt Z Z Z Z IA Z Z Z) Z<|zK Z ?_;refine LF.nil ⟨by kernel_rfl,?_⟩;exact zT<|⟨_,h,au 5 ⟨Z,Z,Z,Z,t_⟩⟩
 ·unfold mw at h;refine zQ<|qR<|zM Z<|yS Z (cx Z Z)<|yS Z (am Z Z Z Z)<|nT ?_;refine zX Z (fun g1=>?_)<|fun g1=>?_
  ·refine zi g1 h fun h=>qR<|yS Z (aa.build Z nE Z Z Z)<|yS Z (zs Z Z Z Z aG Z Z Z Z)<|mN Z<|zr<|af<|AF ?_;cases h;obtain rfl:=(m1 _ rfl);exact zf (.two (eh Z Z) (.tmp Z))<|⟨_,rfl,bR⟩
  ·refine zo g1 h fun h=>zk<|zT<|zQ<|zQ<|dy<|yE Z (zA Z Z HB)<|yE Z (zD Z Z Z wM Z Z)<|yE Z (zA Z Z HA)<|yE Z (zD Z Z Z MM Z Z)<|zH Z<|zb h fun y1 j1 h=>yE Z (zx Z Z Z fH j1 Z)<|yE Z (bS Z Z Z aG Z Z)<|zb h fun v2 a2 h=>yE Z (yC Z Z Z (LC.pre (OZ a2) Z Z Z))<|zb h fun v3 a3 h=>yE Z (yC Z Z Z (LC.pre (JM a3) Z Z Z))<|LO.nil<|zT ?_;refine zX Z (fun g2=>?_)<|fun g2=>?_
   ·refine zi g2 h fun h=>qR<|zM Z<|zb h fun y2 j2 h=>yS Z (zx Z Z Z fH j2 Z)<|yS Z (bS Z Z Z aG Z Z)<|yS Z (zs Z Z Z Z aG Z Z Z Z)<|mN Z<|zr<|af<|AF ?_;cases h;obtain rfl:=(m1 _ rfl);exact zf (.two (eh Z Z) (.tmp Z))<|⟨_,rfl,bR⟩
   ·refine zo g2 h fun h=>zk<|zT<|qR<|zM Z<|zg h fun q2 h=>yS Z (aa.sliceLo Z Z Z fH q2)<|mN Z<|LW.goto<|HK ?_;cases h;exact⟨_,rfl,au 5 ⟨Z,Z,Z,Z,t_⟩⟩
structure eG where
 t21:Int
 w_11:Bool
 o5:List Of
def lE (x:Nd)(c:Cf)(slot:Int)(v1:(List Of))(x1:eG):Option (eG⊕eG):=bif decide (x1.t21<(v1.length:Int))then (ix v1 x1.t21).bind fun y1=>(bif (x.Tick.tmod 3)==2 then some ((x.Tick.tmod 3)==2)else bif y1.Slot != slot then some (y1.Slot != slot)else (Jr c slot).bind fun v4=>some (y1.From != v4)).bind fun v3=>bif v3 then some (.inl (eG.mk (i64.wrap (x1.t21+1)) x1.w_11 x1.o5))else bif (x1.o5.length:Int)==8 then some (.inl (eG.mk (i64.wrap (x1.t21+1)) true x1.o5))else (tQ y1).bind fun v5=>bif bG x1.o5.length [v5].length 104 then some (.inl (eG.mk (i64.wrap (x1.t21+1)) x1.w_11 (x1.o5++[v5])))else none else some (.inr (eG.mk x1.t21 x1.w_11 x1.o5))
def zE (l:List Of)(x:Nd)(c:Cf)(slot:Int):Option (List Of×Bool):=(yl [x.O,l]).bind fun v1=>(iter (lE x c slot v1) aY (eG.mk 0 x.Full ([]:List Of))).bind fun v2=>some (v2.o5,v2.w_11)
theorem Mn {l:List Of}{r_:List Of×Bool}(h:zE l x c slot=some r_):LC prog 41 [.ptr 4 0,(kO l)] [.box (cd c0),.box (oO n0),.box (cE in0),.box nf,.box [(iQ x.No),(iQ x.Tick),(kB x.V.B),(kV x.V.V),(kB x.In.B),(kV x.In.V),(kO x.O),(uQ x.C.ID.1),(uQ x.C.ID.2),(iQ x.C.Slot),(iQ x.C.Revoked),(bQ x.Full),(kI c.W),(uQ c.Seed),(iQ c.Epoch),(iQ c.Num),(iQ c.Den),(iQ slot),(kO tl)]] (Is (.tup []) [.box (cd c0),.box (oO n0),.box (cE in0),.box nf,.box [(iQ x.No),(iQ x.Tick),(kB x.V.B),(kV x.V.V),(kB x.In.B),(kV x.In.V),(jO 5 r_.1),(uQ x.C.ID.1),(uQ x.C.ID.2),(iQ x.C.Slot),(iQ x.C.Revoked),(bQ r_.2),(kI c.W),(uQ c.Seed),(iQ c.Epoch),(iQ c.Num),(iQ c.Den),(iQ slot),(kO tl)],.vec 9 (r_.1.map da)]):=by
 refine eP Tryz.func41 Z Z Z ?_;unfold zE at h;refine qR<|zM Z<|yS Z (zn Z Z)<|yS Z (zA Z Z aJ)<|yS Z (zA Z Z bB)<|yS Z (zD Z Z Z bq Z Z)<|zM Z<|yS Z (gU Z Cj Z Z Z Z Z)<|zb h fun v1 a1 h=>yS Z (yP Z Z Z (N6 a1) dB)<|mN Z<|qR<|zM Z<|yS Z (zn Z Z)<|yS Z (zA Z Z aJ)<|yS Z (zA Z Z bB)<|yS Z (zs Z Z Z Z bq Z Z Z Z)<|nT<|zQ<|LW.ent (bW.lazyCell (i:=4) (j:=6) (m:=9) Z Z Z Z Z Z)<|zR<|zM Z<|yS Z (cx Z Z)<|mN Z ?_;obtain⟨v2,b2,d2⟩:=zB h;clear h;refine LW.tail (E:=[]) (O:=[.box (cd c0),.box (oO n0),.box (cE in0),.box nf,.box [(iQ x.No),(iQ x.Tick),(kB x.V.B),(kV x.V.V),(kB x.In.B),(kV x.In.V),(jO 5 v2.o5),(uQ x.C.ID.1),(uQ x.C.ID.2),(iQ x.C.Slot),(iQ x.C.Revoked),(bQ v2.w_11),(kI c.W),(uQ c.Seed),(iQ c.Epoch),(iQ c.Num),(iQ c.Den),(iQ slot),(kO tl)],.vec 9 (v2.o5.map da)]) ?_<|fun e2 K2 u2=>?_
 ·refine LW.block ?_;refine LW.iterB (E:=fun x1:eG=>[(0,.ptr 4 0),(19,(kO v1)),(20,.p (.int .i64 (v1.length:Int))),(21,(iQ x1.t21))]) (O:=fun x1=>[.box (cd c0),.box (oO n0),.box (cE in0),.box nf,.box [(iQ x.No),(iQ x.Tick),(kB x.V.B),(kV x.V.V),(kB x.In.B),(kV x.In.V),(jO 5 x1.o5),(uQ x.C.ID.1),(uQ x.C.ID.2),(iQ x.C.Slot),(iQ x.C.Revoked),(bQ x1.w_11),(kI c.W),(uQ c.Seed),(iQ c.Epoch),(iQ c.Num),(iQ c.Den),(iQ slot),(kO tl)],.vec 9 (x1.o5.map da)]) b2 (au 6 ⟨Z,Z,Z,Z,t_⟩)<|fun x1 z1 h m1=>?_;unfold lE at h;refine qR<|yS Z (am Z Z Z Z)<|nT<|zQ ?_;refine zX Z (fun g1=>?_)<|fun g1=>?_
  ·refine zi g1 h fun h=>zk<|zT<|zQ<|zl<|qR<|zb h fun y1 j1 h=>yS Z (zx Z Z Z bp j1 Z)<|yS Z (bS Z Z Z er Z Z)<|yS Z (ze Z p7 Z Z)<|yS Z (zs Z Z Z Z er Z Z Z Z)<|nT<|zl ?_;obtain⟨v3,b3,d3⟩:=zB h;clear h;refine LW.cut (E:=[(0,.ptr 4 0),(6,.ptr 6 0),(19,(kO v1)),(20,.p (.int .i64 (v1.length:Int))),(21,(iQ x1.t21)),(38,(bQ v3))]) (O:=[.box (cd c0),.box (oO n0),.box (cE in0),.box nf,.box [(iQ x.No),(iQ x.Tick),(kB x.V.B),(kV x.V.V),(kB x.In.B),(kV x.In.V),(jO 5 x1.o5),(uQ x.C.ID.1),(uQ x.C.ID.2),(iQ x.C.Slot),(iQ x.C.Revoked),(bQ x1.w_11),(kI c.W),(uQ c.Seed),(iQ c.Epoch),(iQ c.Num),(iQ c.Den),(iQ slot),(kO tl)],.vec 9 (x1.o5.map da),.box [(iQ y1.Slot),(iQ y1.From),(iQ y1.B.Slot),(iQ y1.B.From),(uQ y1.B.Parent.1),(uQ y1.B.Parent.2),(uQ y1.B.Salt),(kB y1.V.B),(kV y1.V.V)]]) ?_ ?_
   ·have h:=b3;refine qR<|zM Z<|yS Z (zn Z Z)<|yS Z (zA Z Z aJ)<|yS Z (zA Z Z co)<|yS Z (zD Z Z Z aV Z Z)<|yS Z (aa.rem Z Z Z (by decide))<|yS Z (am Z Z Z Z)<|mN Z ?_;refine zX Z (fun g2=>?_)<|fun g2=>?_
    ·refine zi g2 h fun h=>zk<|zT ?_;cases h;exact au 7 ⟨Z,Z,Z,Z,Z,Z,t_⟩
    ·refine zo g2 h fun h=>zQ<|dy<|yE Z (zA Z Z lN)<|yE Z (zD Z Z Z aV Z Z)<|zH Z<|yE Z (zn Z Z)<|yE Z (zA Z Z dF)<|yE Z (zD Z Z Z aV Z Z)<|yE Z (am Z Z Z Z)<|zH Z<|LO.nil<|zT ?_;refine zX Z (fun g3=>?_)<|fun g3=>?_
     ·refine zi g3 h fun h=>zk<|zT ?_;cases h;exact au 7 ⟨Z,Z,Z,Z,Z,Z,t_⟩
     ·refine zo g3 h fun h=>dy<|yE Z (zA Z Z lO)<|yE Z (zD Z Z Z aV Z Z)<|zH Z<|yE Z (zn Z Z)<|yE Z (zA Z Z jS)<|yE Z (zD Z Z Z bd Z Z)<|zH Z<|yE Z (zn Z Z)<|yE Z (zA Z Z dF)<|yE Z (zD Z Z Z aV Z Z)<|zb h fun v4 a4 h=>yE Z (yP Z Z Z (P4 a4) bR)<|yE Z (am Z Z Z Z)<|zH Z<|LO.nil<|zT ?_;cases h;exact au 7 ⟨Z,Z,Z,Z,Z,Z,t_⟩
   ·have h:=d3;clear b3;refine zX Z (fun g4=>?_)<|fun g4=>?_
    ·refine zi g4 h fun h=>zk<|ae<|ae<|zT<|zR<|yS Z (am Z Z Z Z)<|mN Z ?_;cases h;exact⟨_,rfl,au 6 ⟨Z,Z,Z,Z,t_⟩⟩
    ·refine zo g4 h fun h=>qR<|zM Z<|yS Z (zn Z Z)<|yS Z (zA Z Z aJ)<|yS Z (zA Z Z bB)<|yS Z (zD Z Z Z bq Z Z)<|yS Z (aa.lenVM Z Z Z (by kernel_rfl))<|yS Z (am Z Z Z Z)<|mN Z ?_;refine zX Z (fun g5=>?_)<|fun g5=>?_
     ·refine zi g5 h fun h=>zR<|zM Z<|yS Z (zn Z Z)<|yS Z (zA Z Z aJ)<|yS Z (zA Z Z eK)<|yS Z (zs Z Z Z Z vo Z Z Z Z)<|zN<|ae<|ae<|zT<|zR<|yS Z (am Z Z Z Z)<|mN Z ?_;cases h;exact⟨_,rfl,au 6 ⟨Z,Z,Z,Z,t_⟩⟩
     ·refine zo g5 h fun h=>fC<|zK Z<|zK Z<|yG Z (fun H _=>zn Z Z)<|yG Z (fun H _=>zA Z Z aJ)<|yG Z (fun H _=>zA Z Z bB)<|yF Z (zd Z Z Z bq Z Z) Z<|yF Z (zd Z Z Z er Z Z) Z<|zb h fun v5 a5 h=>?_;refine yF (F:=[]) (s:=none) Z (fun H _=>yP Z Z Z (He a5) dB) Z ?_;refine yG Z (fun H _=>gU Z bp Z Z Z Z Z)<|zg h fun q1 h=>yF Z (ch.appendX da x1.o5 [v5] rfl Z Z Z Z bp q1) Z<|yG Z (fun H _=>zn Z Z)<|yG Z (fun H _=>zA Z Z aJ)<|yG Z (fun H _=>zA Z Z bB)<|yF Z (zt Z Z Z Z bq Z Z Z) Z ?_;refine LF.nil ⟨by kernel_rfl,?_⟩;refine ae<|ae<|zT<|zR<|yS Z (am Z Z Z Z)<|mN Z ?_;cases h;exact⟨_,rfl,au 6 ⟨Z,Z,Z,Z,t_⟩⟩
  ·refine zo g1 h fun h=>zq<|aj<|aj<|zy<|zT ?_;cases h;obtain rfl:=(m1 _ rfl);exact au 6 trivial
 ·have h:=d2;clear b2;cases h;exact iL u2 .none ⟨rfl,rfl⟩
def nt (inp:Vw)(c:Cf)(slot:Int)(v:Vw)(full:Bool):Option (Vw×Vw×Bool):=(Nj c v inp slot).bind fun v1=>bif full then some (v1.2.1,v1.1,true)else some (v1.2.1,v1.1,v1.2.2)
theorem tw {inp:Vw}{v:Vw}{o:List Of}{r_:Vw×Vw×Bool}(h:nt inp c slot v full=some r_):LC prog 85 [.ptr 4 0,.p (iW inp)] [.box (cd c0),.box (oO n0),.box (cE in0),.box nf,.box [(iQ x.No),(iQ x.Tick),(kB v.B),(kV v.V),(kB x.In.B),(kV x.In.V),(jO 5 o),(uQ x.C.ID.1),(uQ x.C.ID.2),(iQ x.C.Slot),(iQ x.C.Revoked),(bQ full),(kI c.W),(uQ c.Seed),(iQ c.Epoch),(iQ c.Num),(iQ c.Den),(iQ slot),(kO tl)],.vec 9 (o.map da)] (Is (.p (iW r_.1)) [.box (cd c0),.box (oO n0),.box (cE in0),.box nf,.box [(iQ x.No),(iQ x.Tick),(kB r_.2.1.B),(kV r_.2.1.V),(kB x.In.B),(kV x.In.V),(jO 5 o),(uQ x.C.ID.1),(uQ x.C.ID.2),(iQ x.C.Slot),(iQ x.C.Revoked),(bQ r_.2.2),(kI c.W),(uQ c.Seed),(iQ c.Epoch),(iQ c.Num),(iQ c.Den),(iQ slot),(kO tl)],.vec 9 (o.map da)]):=by
 refine eP Tryz.func85 Z Z Z ?_;unfold nt at h;refine qR<|yS Z (bv Z Z Z Z Z)<|yS Z (ze Z d7 Z Z)<|nT<|zQ<|LW.ent (bW.slot Z)<|LW.ent (bW.slot Z)<|fC<|zK Z<|yG Z (fun H _=>zn Z Z)<|yG Z (fun H _=>zA Z Z jS)<|yF Z (zd Z Z Z bd Z Z) Z<|zK Z<|yG Z (fun H _=>zn Z Z)<|yG Z (fun H _=>zA Z Z aJ)<|yG Z (fun H _=>zA Z Z bO)<|yF Z (zd Z Z Z aI Z Z) Z<|yF Z (zd Z Z Z aI Z Z) Z<|zK Z<|yG Z (fun H _=>zn Z Z)<|yG Z (fun H _=>zA Z Z dF)<|yF Z (zd Z Z Z aV Z Z) Z<|zb h fun v1 a1 h=>?_;refine yF (F:=[]) (s:=none) Z (fun H _=>yP Z Z Z (Rz a1) wL) Z ?_;refine zK Z<|yG Z (fun H _=>eZ Z Z Z)<|yG Z (fun H _=>eZ Z Z Z)<|yG Z (fun H _=>eZ Z Z Z)<|yF Z (ch.alloc Z d7 (id:=8) Z) Z<|yF Z (ch.alloc Z d7 (id:=9) Z) Z<|yF Z (zt Z Z Z Z aI Z Z Z) Z<|yF Z (zt Z Z Z Z aI Z Z Z) Z<|zK Z ?_;refine LF.nil ⟨by kernel_rfl,?_⟩;refine zT<|zQ<|fC<|zK Z<|zK Z<|yF Z (zd Z Z Z aI Z Z) Z<|zK Z<|yG Z (fun H _=>zn Z Z)<|yG Z (fun H _=>zA Z Z aJ)<|yG Z (fun H _=>zA Z Z eK)<|yF Z (zd Z Z Z vo Z Z) Z<|zK Z ?_;refine LF.cases 35 Z (fun(g1:full=true)=>?_) (fun(g1:full=false)=>?_)
 ·refine zi g1 h fun h=>LF.sk Z Z Z (gd g1 Z) Z Z<|yG Z (fun H _=>bA Z (aK g1 Z) Z)<|yG Z (fun H _=>zn Z Z)<|yG Z (fun H _=>zA Z Z aJ)<|yG Z (fun H _=>zA Z Z bO)<|yF Z (zt Z Z Z Z aI Z Z Z) Z<|yG Z (fun H _=>zn Z Z)<|yG Z (fun H _=>zA Z Z aJ)<|yG Z (fun H _=>zA Z Z eK)<|yF Z (zt Z Z Z Z vo Z Z Z) Z ?_;refine LF.nil ⟨by kernel_rfl,?_⟩;refine zT<|qR<|yS Z (zD Z Z Z aI Z Z)<|yS Z (zs Z Z Z Z aI Z Z Z Z)<|nT<|zr ?_;obtain rfl:=zJ h;exact lI (env':=[]) (H':=[.box (cd c0),.box (oO n0),.box (cE in0),.box nf,.box [(iQ x.No),(iQ x.Tick),(kB v1.1.B),(kV v1.1.V),(kB x.In.B),(kV x.In.V),(jO 5 o),(uQ x.C.ID.1),(uQ x.C.ID.2),(iQ x.C.Slot),(iQ x.C.Revoked),(bQ true),(kI c.W),(uQ c.Seed),(iQ c.Epoch),(iQ c.Num),(iQ c.Den),(iQ slot),(kO tl)],.vec 9 (o.map da)]) (au 6 trivial) (.one (eh Z Z)) Z<|⟨rfl,rfl⟩
 ·have h:=zO g1 h;refine LF.gd (F:=[]) (s:=none) Z Z Z (gd g1 Z) Z (fun H _=>aa.move Z Z) Z ?_;refine yG Z (fun H _=>aU Z (aK g1 Z) Z)<|yG Z (fun H _=>zn Z Z)<|yG Z (fun H _=>zA Z Z aJ)<|yG Z (fun H _=>zA Z Z bO)<|yF Z (zt Z Z Z Z aI Z Z Z) Z<|yG Z (fun H _=>zn Z Z)<|yG Z (fun H _=>zA Z Z aJ)<|yG Z (fun H _=>zA Z Z eK)<|yF Z (zt Z Z Z Z vo Z Z Z) Z ?_;refine LF.nil ⟨by kernel_rfl,?_⟩;refine zT<|qR<|yS Z (zD Z Z Z aI Z Z)<|yS Z (zs Z Z Z Z aI Z Z Z Z)<|nT<|zr ?_;obtain rfl:=zJ h;exact lI (env':=[]) (H':=[.box (cd c0),.box (oO n0),.box (cE in0),.box nf,.box [(iQ x.No),(iQ x.Tick),(kB v1.1.B),(kV v1.1.V),(kB x.In.B),(kV x.In.V),(jO 5 o),(uQ x.C.ID.1),(uQ x.C.ID.2),(iQ x.C.Slot),(iQ x.C.Revoked),(bQ v1.2.2),(kI c.W),(uQ c.Seed),(iQ c.Epoch),(iQ c.Num),(iQ c.Den),(iQ slot),(kO tl)],.vec 9 (o.map da)]) (au 6 trivial) (.one (eh Z Z)) Z<|⟨rfl,rfl⟩
def wY (c:Cf)(v:Vw)(s:Int):Option ID:=(ng c v s).bind fun v1=>some v1
theorem JO {v:Vw}{o:List Of}{r_:ID}(h:wY c v s=some r_):LC prog 86 [.ptr 4 0,(iQ s)] [.box (cd c0),.box (oO n0),.box (cE in0),.box nf,.box [(iQ x.No),(iQ x.Tick),(kB v.B),(kV v.V),(kB x.In.B),(kV x.In.V),(jO 5 o),(uQ x.C.ID.1),(uQ x.C.ID.2),(iQ x.C.Slot),(iQ x.C.Revoked),(bQ x.Full),(kI c.W),(uQ c.Seed),(iQ c.Epoch),(iQ c.Num),(iQ c.Den),(iQ slot),(kO tl)],.vec 9 (o.map da)] (Is (.p (aX r_)) [.box (cd c0),.box (oO n0),.box (cE in0),.box nf,.box [(iQ x.No),(iQ x.Tick),(kB v.B),(kV v.V),(kB x.In.B),(kV x.In.V),(jO 5 o),(uQ x.C.ID.1),(uQ x.C.ID.2),(iQ x.C.Slot),(iQ x.C.Revoked),(bQ x.Full),(kI c.W),(uQ c.Seed),(iQ c.Epoch),(iQ c.Num),(iQ c.Den),(iQ slot),(kO tl)],.vec 9 (o.map da)]):=by
 refine eP func86 Z Z Z ?_;unfold wY at h;refine qR<|yS Z (ze Z gT Z Z)<|nT<|zQ<|LW.drawLast (m:=11) (by kernel_rfl) (by kernel_rfl) (by kernel_rfl)<|zH Z<|yE Z (zn Z Z)<|yE Z (zA Z Z jS)<|yE Z (zD Z Z Z bd Z Z)<|zH Z<|yE Z (zn Z Z)<|yE Z (zA Z Z aJ)<|yE Z (zA Z Z bO)<|yE Z (zD Z Z Z aI Z Z)<|zH Z<|zb h fun v1 a1 h=>yE Z (yP Z Z Z (Ku a1) oU)<|LO.nil<|yS Z (zs Z Z Z Z aG Z Z Z Z)<|nT<|zr ?_;cases h;exact lI (env':=[]) (H':=[.box (cd c0),.box (oO n0),.box (cE in0),.box nf,.box [(iQ x.No),(iQ x.Tick),(kB v.B),(kV v.V),(kB x.In.B),(kV x.In.V),(jO 5 o),(uQ x.C.ID.1),(uQ x.C.ID.2),(iQ x.C.Slot),(iQ x.C.Revoked),(bQ x.Full),(kI c.W),(uQ c.Seed),(iQ c.Epoch),(iQ c.Num),(iQ c.Den),(iQ slot),(kO tl)],.vec 9 (o.map da)]) (au 6 trivial) (.one (eh Z Z)) Z<|⟨rfl,rfl⟩
theorem IF {v:Vw}{r_:ID}(h:ng c v s=some r_):wY c v s=some r_:=by unfold wY;rw[h];rfl
def tu (c:Cf)(v:Vw)(s:Int):Option ID:=(ng c v s).bind fun v1=>some v1
theorem Ae {v:Vw}{o:List Of}{r_:ID}(h:tu c v s=some r_):LC prog 86 [.ptr 4 0,(iQ s)] [.box (cd c0),.box (oO n0),.box (cE in0),.box nf,.box [(iQ x.No),(iQ x.Tick),(kB v.B),(kV v.V),(kB x.In.B),(kV x.In.V),(kO x.O),(uQ x.C.ID.1),(uQ x.C.ID.2),(iQ x.C.Slot),(iQ x.C.Revoked),(bQ x.Full),(kI c.W),(uQ c.Seed),(iQ c.Epoch),(iQ c.Num),(iQ c.Den),(iQ slot),(kO tl)],.vec 9 (o.map da)] (Is (.p (aX r_)) [.box (cd c0),.box (oO n0),.box (cE in0),.box nf,.box [(iQ x.No),(iQ x.Tick),(kB v.B),(kV v.V),(kB x.In.B),(kV x.In.V),(kO x.O),(uQ x.C.ID.1),(uQ x.C.ID.2),(iQ x.C.Slot),(iQ x.C.Revoked),(bQ x.Full),(kI c.W),(uQ c.Seed),(iQ c.Epoch),(iQ c.Num),(iQ c.Den),(iQ slot),(kO tl)],.vec 9 (o.map da)]):=by
 refine eP func86 Z Z Z ?_;unfold tu at h;refine qR<|yS Z (ze Z gT Z Z)<|nT<|zQ<|LW.drawLast (m:=11) (by kernel_rfl) (by kernel_rfl) (by kernel_rfl)<|zH Z<|yE Z (zn Z Z)<|yE Z (zA Z Z jS)<|yE Z (zD Z Z Z bd Z Z)<|zH Z<|yE Z (zn Z Z)<|yE Z (zA Z Z aJ)<|yE Z (zA Z Z bO)<|yE Z (zD Z Z Z aI Z Z)<|zH Z<|zb h fun v1 a1 h=>yE Z (yP Z Z Z (Ku a1) oU)<|LO.nil<|yS Z (zs Z Z Z Z aG Z Z Z Z)<|nT<|zr ?_;cases h;exact lI (env':=[]) (H':=[.box (cd c0),.box (oO n0),.box (cE in0),.box nf,.box [(iQ x.No),(iQ x.Tick),(kB v.B),(kV v.V),(kB x.In.B),(kV x.In.V),(kO x.O),(uQ x.C.ID.1),(uQ x.C.ID.2),(iQ x.C.Slot),(iQ x.C.Revoked),(bQ x.Full),(kI c.W),(uQ c.Seed),(iQ c.Epoch),(iQ c.Num),(iQ c.Den),(iQ slot),(kO tl)],.vec 9 (o.map da)]) (au 6 trivial) (.one (eh Z Z)) Z<|⟨rfl,rfl⟩
theorem wN {v:Vw}{r_:ID}(h:ng c v s=some r_):tu c v s=some r_:=by unfold tu;rw[h];rfl
def rM (x:Nd)(c:Cf)(slot:Int)(tl:List Of):Option (Vw×Vw×Bool×List Of):=(Jr c slot).bind fun v1=>bif x.No != v1 then some (x.V,x.In,x.Full,tl)else (nt x.In c slot x.V x.Full).bind fun v2=>(ng c v2.2.1 (i64.wrap (slot-1))).bind fun v3=>(tQ (Of.mk slot x.No (Bk.mk slot x.No v3 0) v2.2.1)).bind fun v4=>(vO (Bk.mk slot x.No v3 0)).bind fun v5=>(nt v5 c slot v2.2.1 v2.2.2).bind fun v6=>some (v6.2.1,v2.1,v6.2.2,[v4])
theorem JI {o:List Of}{r_:Vw×Vw×Bool×List Of}(h:rM x c slot tl=some r_):LC prog 42 [.ptr 4 0] [.box (cd c0),.box (oO n0),.box (cE in0),.box nf,.box [(iQ x.No),(iQ x.Tick),(kB x.V.B),(kV x.V.V),(kB x.In.B),(kV x.In.V),(jO 5 o),(uQ x.C.ID.1),(uQ x.C.ID.2),(iQ x.C.Slot),(iQ x.C.Revoked),(bQ x.Full),(kI c.W),(uQ c.Seed),(iQ c.Epoch),(iQ c.Num),(iQ c.Den),(iQ slot),(kO tl)],.vec 9 (o.map da)] (Is (.tup []) [.box (cd c0),.box (oO n0),.box (cE in0),.box nf,.box [(iQ x.No),(iQ x.Tick),(kB r_.1.B),(kV r_.1.V),(kB r_.2.1.B),(kV r_.2.1.V),(jO 5 o),(uQ x.C.ID.1),(uQ x.C.ID.2),(iQ x.C.Slot),(iQ x.C.Revoked),(bQ r_.2.2.1),(kI c.W),(uQ c.Seed),(iQ c.Epoch),(iQ c.Num),(iQ c.Den),(iQ slot),(kO r_.2.2.2)],.vec 9 (o.map da)]):=by
 refine eP Tryz.func42 Z Z Z ?_;unfold rM at h;refine zQ<|zQ<|dy<|zH Z<|yE Z (zn Z Z)<|yE Z (zA Z Z aJ)<|yE Z (zA Z Z dE)<|yE Z (zD Z Z Z aV Z Z)<|zH Z<|yE Z (zn Z Z)<|yE Z (zA Z Z jS)<|yE Z (zD Z Z Z bd Z Z)<|zH Z<|yE Z (zn Z Z)<|yE Z (zA Z Z dF)<|yE Z (zD Z Z Z aV Z Z)<|zb h fun v1 a1 h=>yE Z (yP Z Z Z (P4 a1) bR)<|yE Z (am Z Z Z Z)<|LO.nil<|zT ?_;refine zX Z (fun g1=>?_)<|fun g1=>?_
 ·refine zi g1 h fun h=>LW.ret<|af ?_;cases h;exact aD .none<|⟨rfl,rfl⟩
 ·refine zo g1 h fun h=>zk<|zT<|qR<|zM Z<|zM Z<|zM Z<|yS Z (zn Z Z)<|yS Z (zA Z Z aJ)<|yS Z (zA Z Z br)<|yS Z (zD Z Z Z aI Z Z)<|zb h fun v2 a2 h=>yS Z (yC Z Z Z (tw (x:=Nd.mk x.No x.Tick x.V x.In [] x.C x.Full) (o:=o) (tl:=tl) a2))<|yS Z (zn Z Z)<|yS Z (zA Z Z aJ)<|yS Z (zA Z Z br)<|yS Z (zs Z Z Z Z aI Z Z Z Z)<|nT<|zQ<|LW.ent (bW.slot Z)<|fC<|zK Z<|yG Z (fun H _=>zn Z Z)<|yG Z (fun H _=>zA Z Z dF)<|yF Z (zd Z Z Z aV Z Z) Z<|zK Z<|yG Z (fun H _=>zn Z Z)<|yG Z (fun H _=>zA Z Z aJ)<|yG Z (fun H _=>zA Z Z dE)<|yF Z (zd Z Z Z aV Z Z) Z<|zK Z<|zK Z<|yG Z (fun H _=>zn Z Z)<|yG Z (fun H _=>zA Z Z dF)<|yF Z (zd Z Z Z aV Z Z) Z<|yG Z (fun H _=>am Z Z Z Z)<|zb h fun v3 a3 h=>?_;refine yF Z (ch.preH (s:=none) (fun _=>yC Z Z Z (LC.pre (JO (x:=Nd.mk x.No x.Tick v2.2.1 v2.1 [] x.C v2.2.2) (o:=o) (tl:=tl) (IF a3)) Z Z Z)) Z Z Z Z) Z ?_;refine yG Z (fun H _=>aa.build Z LY Z Z Z)<|yF Z (ch.alloc Z vt (id:=6) Z) Z<|yF Z (zt Z Z Z Z ca Z Z Z) Z ?_;refine LF.nil ⟨by kernel_rfl,?_⟩;refine zT<|zQ<|fC<|zK Z<|zK Z<|yG Z (fun H _=>zn Z Z)<|yG Z (fun H _=>zA Z Z dF)<|yF Z (zd Z Z Z aV Z Z) Z<|zK Z<|yG Z (fun H _=>zn Z Z)<|yG Z (fun H _=>zA Z Z aJ)<|yG Z (fun H _=>zA Z Z dE)<|yF Z (zd Z Z Z aV Z Z) Z<|yF Z (zd Z Z Z ca Z Z) Z<|zK Z<|yG Z (fun H _=>zn Z Z)<|yG Z (fun H _=>zA Z Z aJ)<|yG Z (fun H _=>zA Z Z bO)<|yF Z (zd Z Z Z aI Z Z) Z<|yG Z (fun H _=>aa.build Z xa Z Z Z)<|zb h fun v4 a4 h=>?_;refine yF (F:=[]) (s:=none) Z (fun H _=>yP Z Z Z (He a4) dB) Z ?_;refine yG Z (fun H _=>gU Z bp Z Z Z Z Z)<|yG Z (fun H _=>zn Z Z)<|yG Z (fun H _=>zA Z Z qO)<|yF Z (zt Z Z Z Z bq Z Z Z) Z ?_;refine LF.nil ⟨by kernel_rfl,?_⟩;refine zT<|zR<|zM Z<|yS Z (zD Z Z Z ca Z Z)<|zb h fun v5 a5 h=>yS Z (yP Z Z Z (KA a5) dB)<|zb h fun v6 a6 h=>yS Z (yC Z Z Z (LC.pre (tw (x:=Nd.mk x.No x.Tick v2.2.1 v2.1 [] x.C v2.2.2) (o:=o) (tl:=[v4]) a6) Z Z Z))<|zN ?_;obtain rfl:=zJ h;exact iL (env':=[]) (H':=[.box (cd c0),.box (oO n0),.box (cE in0),.box nf,.box [(iQ x.No),(iQ x.Tick),(kB v6.2.1.B),(kV v6.2.1.V),(kB v2.1.B),(kV v2.1.V),(jO 5 o),(uQ x.C.ID.1),(uQ x.C.ID.2),(iQ x.C.Slot),(iQ x.C.Revoked),(bQ v6.2.2),(kI c.W),(uQ c.Seed),(iQ c.Epoch),(iQ c.Num),(iQ c.Den),(iQ slot),.p (.slice 9 ([v4].map da))],.vec 9 (o.map da)]) (au 6 trivial) .none<|⟨rfl,rfl⟩
structure dK where
 t11:Int
 w_2:List Bk
 w_3:List Vt
 w_4:List Bk
 w_5:List Vt
 w_11:Bool
def ik (o:List Of)(c:Cf)(slot:Int)(x1:dK):Option (dK⊕dK):=bif decide (x1.t11<(o.length:Int))then (ix o x1.t11).bind fun y1=>(vO y1.B).bind fun v2=>(GP y1.V v2).bind fun v3=>(nt v3 c slot (Vw.mk x1.w_2 x1.w_3) x1.w_11).bind fun v4=>(GP (Vw.mk x1.w_4 x1.w_5) v4.1).bind fun v5=>some (.inl (dK.mk (i64.wrap (x1.t11+1)) v4.2.1.B v4.2.1.V v5.B v5.V v4.2.2))else some (.inr (dK.mk x1.t11 x1.w_2 x1.w_3 x1.w_4 x1.w_5 x1.w_11))
def oF (x:Nd)(o:List Of)(c:Cf)(slot:Int):Option (Vw×Vw×Bool):=(iter (ik o c slot) aY (dK.mk 0 x.V.B x.V.V x.In.B x.In.V x.Full)).bind fun v1=>(MX c slot x.No).bind fun v6=>bif v6 then (ng c (Vw.mk v1.w_2 v1.w_3) (i64.wrap (slot-1))).bind fun v7=>(GP (Vw.mk v1.w_4 v1.w_5) (Vw.mk [] [Vt.mk x.No slot v7])).bind fun v8=>some (Vw.mk v1.w_2 v1.w_3,v8,v1.w_11)else some (Vw.mk v1.w_2 v1.w_3,Vw.mk v1.w_4 v1.w_5,v1.w_11)
theorem Hn {o:List Of}{r_:Vw×Vw×Bool}(hr:oF x o c slot=some r_):LC prog 43 [.ptr 4 0] [.box (cd c0),.box (oO n0),.box (cE in0),.box nf,.box [(iQ x.No),(iQ x.Tick),(kB x.V.B),(kV x.V.V),(kB x.In.B),(kV x.In.V),(jO 5 o),(uQ x.C.ID.1),(uQ x.C.ID.2),(iQ x.C.Slot),(iQ x.C.Revoked),(bQ x.Full),(kI c.W),(uQ c.Seed),(iQ c.Epoch),(iQ c.Num),(iQ c.Den),(iQ slot),(kO tl)],.vec 9 (o.map da)] (Is (.tup []) [.box (cd c0),.box (oO n0),.box (cE in0),.box nf,.box [(iQ x.No),(iQ x.Tick),(kB r_.1.B),(kV r_.1.V),(kB r_.2.1.B),(kV r_.2.1.V),(kO ([]:List Of)),(uQ x.C.ID.1),(uQ x.C.ID.2),(iQ x.C.Slot),(iQ x.C.Revoked),(bQ r_.2.2),(kI c.W),(uQ c.Seed),(iQ c.Epoch),(iQ c.Num),(iQ c.Den),(iQ slot),(kO tl)],.vec 9 (o.map da)]):=by
 refine eP Tryz.func43 Z Z Z ?_;unfold oF at hr;refine zQ<|qR<|zM Z<|yS Z (zn Z Z)<|yS Z (zA Z Z aJ)<|yS Z (zA Z Z bB)<|yS Z (zD Z Z Z bq Z Z)<|yS Z (aa.lenVM Z Z Z (by kernel_rfl))<|mN Z ?_;obtain⟨v1,b1,q1⟩:=zB hr;clear hr;refine LW.tail (E:=[(0,.ptr 4 0)]) (O:=[.box (cd c0),.box (oO n0),.box (cE in0),.box nf,.box [(iQ x.No),(iQ x.Tick),(kB v1.w_2),(kV v1.w_3),(kB v1.w_4),(kV v1.w_5),(jO 5 o),(uQ x.C.ID.1),(uQ x.C.ID.2),(iQ x.C.Slot),(iQ x.C.Revoked),(bQ v1.w_11),(kI c.W),(uQ c.Seed),(iQ c.Epoch),(iQ c.Num),(iQ c.Den),(iQ slot),(kO tl)],.vec 9 (o.map da)]) ?_<|fun e1 K1 u1=>?_
 ·refine LW.block ?_;refine LW.iterB (E:=fun x1:dK=>[(0,.ptr 4 0),(9,(jO 5 o)),(10,.p (.int .i64 (o.length:Int))),(11,(iQ x1.t11))]) (O:=fun x1=>[.box (cd c0),.box (oO n0),.box (cE in0),.box nf,.box [(iQ x.No),(iQ x.Tick),(kB x1.w_2),(kV x1.w_3),(kB x1.w_4),(kV x1.w_5),(jO 5 o),(uQ x.C.ID.1),(uQ x.C.ID.2),(iQ x.C.Slot),(iQ x.C.Revoked),(bQ x1.w_11),(kI c.W),(uQ c.Seed),(iQ c.Epoch),(iQ c.Num),(iQ c.Den),(iQ slot),(kO tl)],.vec 9 (o.map da)]) b1 (au 6 ⟨Z,Z,Z,Z,t_⟩)<|fun x1 z1 hr m1=>?_;unfold ik at hr;refine qR<|yS Z (am Z Z Z Z)<|nT<|zQ ?_;refine zX Z (fun g1=>?_)<|fun g1=>?_
  ·refine zi g1 hr fun hr=>zk<|zT<|zQ<|zl<|qR<|zb hr fun y1 j1 hr=>yS Z (aa.indexAddrVX Z Z Z Z bp j1)<|yS Z (aa.loadVX Z Z Z er j1 Z Z Z Z)<|yS Z (ze Z p7 Z Z)<|yS Z (zs Z Z Z Z er Z Z Z Z)<|nT ?_;refine LW.drawWJ (z:=4) (e:=18) (J:=(fun o_=>∃a_ b_ c_:LV,o_=.box [(iQ x.No),(iQ x.Tick),a_,b_,(kB x1.w_4),(kV x1.w_5),(jO 5 o),(uQ x.C.ID.1),(uQ x.C.ID.2),(iQ x.C.Slot),(iQ x.C.Revoked),c_,(kI c.W),(uQ c.Seed),(iQ c.Epoch),(iQ c.Num),(iQ c.Den),(iQ slot),(kO tl)])) (by kernel_rfl) (by kernel_rfl) (fun o_ h_=>⟨_,_,_,(zJ h_).symm⟩) ?_;refine kM.mv Z<|kM.mv Z ?_;refine kM.st (F:=[]) (s:=none) Z Z Z (fun H _=>aa.nilCheck Z Z) (fun _=>trivial) Z ?_;refine kM.st (F:=[]) (s:=none) Z Z Z (fun H _=>zA Z Z aJ) (fun _=>trivial) Z ?_;refine kM.st (F:=[]) (s:=none) Z Z Z (fun H _=>zA Z Z br) (fun _=>trivial) Z ?_;refine kM.look Z Z Z (by kernel_rfl) Z (fun H_ y_ hy_ hj_=>by obtain⟨a_,b_,c_,rfl⟩:=hj_;exact zD Z Z hy_ aI Z Z) ?_;refine kM.mv Z ?_;refine kM.st (F:=[]) (s:=none) Z Z Z (fun H _=>zA Z Z fZ) (fun _=>trivial) Z ?_;refine kM.st Z Z Z (ch.load Z Z Z aI Z Z) (fun _=>trivial) Z ?_;refine kM.st (F:=[]) (s:=none) Z Z Z (fun H _=>zA Z Z lP) (fun _=>trivial) Z ?_;refine kM.st Z Z Z (ch.load Z Z Z ca Z Z) (fun _=>trivial) Z ?_;obtain⟨v2,a2,hr⟩:=zB hr;refine kM.st (F:=[]) (s:=none) Z Z Z (fun H _=>yP Z Z Z (KA a2) dB) (fun _=>trivial) Z ?_;obtain⟨v3,a3,hr⟩:=zB hr;refine kM.st (F:=[]) (s:=none) Z Z Z (fun H _=>yP Z Z Z (L8 a3) bR) (fun _=>trivial) Z ?_;obtain⟨v4,a4,hr⟩:=zB hr;refine kM.st Z Z Z (ch.preH (s:=some (4,.box [(iQ x.No),(iQ x.Tick),(kB v4.2.1.B),(kV v4.2.1.V),(kB x1.w_4),(kV x1.w_5),(jO 5 o),(uQ x.C.ID.1),(uQ x.C.ID.2),(iQ x.C.Slot),(iQ x.C.Revoked),(bQ v4.2.2),(kI c.W),(uQ c.Seed),(iQ c.Epoch),(iQ c.Num),(iQ c.Den),(iQ slot),(kO tl)])) (fun _=>zC Z Z Z (by kernel_rfl) (LC.pre (tw (x:=Nd.mk x.No x.Tick (Vw.mk x1.w_2 x1.w_3) (Vw.mk x1.w_4 x1.w_5) [] x.C x1.w_11) (o:=o) (tl:=tl) a4) Z Z Z)) Z Z Z Z) (fun _ _=>⟨_,_,_,rfl⟩) Z ?_;obtain⟨v5,a5,hr⟩:=zB hr;refine kM.st (F:=[]) (s:=none) Z Z Z (fun H _=>yP Z Z Z (L8 a5) bR) (fun _=>trivial) Z ?_;refine kM.st (F:=[]) (s:=none) Z Z Z (fun H _=>aa.nilCheck Z Z) (fun _=>trivial) Z ?_;refine kM.st (F:=[]) (s:=none) Z Z Z (fun H _=>zA Z Z aJ) (fun _=>trivial) Z ?_;refine kM.st (F:=[]) (s:=none) Z Z Z (fun H _=>zA Z Z br) (fun _=>trivial) Z ?_;refine kM.st Z Z Z (ch.store Z Z Z Z aI Z Z Z) (fun h=>absurd h (by decide)) Z ?_;refine kM.nil ⟨by kernel_rfl,?_⟩;refine ae<|zT<|zR<|yS Z (am Z Z Z Z)<|mN Z ?_;cases hr;exact⟨_,rfl,au 6 ⟨Z,Z,Z,Z,t_⟩⟩
  ·refine zo g1 hr fun hr=>zq<|aj<|aj<|zy<|zT ?_;cases hr;obtain rfl:=(m1 _ rfl);exact au 6 ⟨Z,t_⟩
 ·have hr:=q1;clear b1;refine zT<|LW.weak u1<|qR<|zM Z<|yS Z (zn Z Z)<|yS Z (zA Z Z aJ)<|yS Z (zA Z Z bB)<|yS Z (zs Z Z Z Z bq Z Z Z Z)<|nT<|zQ<|LW.ent (bW.zsCell (i:=4) (j:=6) (m:=9) Z Z Z Z)<|dy<|zH Z<|yE Z (zn Z Z)<|yE Z (zA Z Z jS)<|yE Z (zD Z Z Z bd Z Z)<|zH Z<|yE Z (zn Z Z)<|yE Z (zA Z Z dF)<|yE Z (zD Z Z Z aV Z Z)<|zH Z<|yE Z (zn Z Z)<|yE Z (zA Z Z aJ)<|yE Z (zA Z Z dE)<|yE Z (zD Z Z Z aV Z Z)<|zb hr fun v6 a6 hr=>yE Z (yP Z Z Z (Re a6) oU)<|LO.nil<|zT ?_;refine zX Z (fun g2=>?_)<|fun g2=>?_
  ·refine zi g2 hr fun hr=>zQ<|LW.ent (bW.slot Z)<|fC<|zK Z<|yG Z (fun H _=>zn Z Z)<|yG Z (fun H _=>zA Z Z aJ)<|yG Z (fun H _=>zA Z Z dE)<|yF Z (zd Z Z Z aV Z Z) Z<|zK Z<|yG Z (fun H _=>zn Z Z)<|yG Z (fun H _=>zA Z Z dF)<|yF Z (zd Z Z Z aV Z Z) Z<|zK Z<|zK Z<|yG Z (fun H _=>zn Z Z)<|yG Z (fun H _=>zA Z Z dF)<|yF Z (zd Z Z Z aV Z Z) Z<|yG Z (fun H _=>am Z Z Z Z)<|zb hr fun v7 a7 hr=>?_;refine yF Z (ch.preH (s:=none) (fun _=>zC Z Z Z (by kernel_rfl) (LC.pre (Ae (x:=Nd.mk x.No x.Tick (Vw.mk v1.w_2 v1.w_3) (Vw.mk v1.w_4 v1.w_5) [] x.C v1.w_11) (o:=o) (tl:=tl) (wN a7)) Z Z Z)) Z Z Z Z) Z ?_;refine yG Z (fun H _=>aa.build Z LZ Z Z Z)<|yF Z (ch.alloc Z vu (id:=6) Z) Z<|yF Z (zt Z Z Z Z cz Z Z Z) Z ?_;refine LF.nil ⟨by kernel_rfl,?_⟩;refine zT<|fC<|zK Z<|zK Z<|yG Z (fun H _=>zn Z Z)<|yG Z (fun H _=>zA Z Z aJ)<|yG Z (fun H _=>zA Z Z br)<|yF Z (zd Z Z Z aI Z Z) Z<|yF Z (zd Z Z Z cz Z Z) Z<|yG Z (fun H _=>gU Z bz Z Z Z Z Z)<|yG Z (fun H _=>aa.build Z nF Z Z Z)<|zb hr fun v8 a8 hr=>?_;refine yF (F:=[]) (s:=none) Z (fun H _=>zC Z Z Z (by kernel_rfl) (zp (L8 a8) (.cons zv (.cons (Conv.agg (.cons Conv.zs dB)) .nil)))) Z ?_;refine yG Z (fun H _=>zn Z Z)<|yG Z (fun H _=>zA Z Z aJ)<|yG Z (fun H _=>zA Z Z br)<|yF Z (zt Z Z Z Z aI Z Z Z) Z ?_;refine LF.nil ⟨by kernel_rfl,?_⟩;obtain rfl:=zJ hr;exact iL (env':=[]) (H':=[.box (cd c0),.box (oO n0),.box (cE in0),.box nf,.box [(iQ x.No),(iQ x.Tick),(kB v1.w_2),(kV v1.w_3),(kB v8.B),(kV v8.V),(kO ([]:List Of)),(uQ x.C.ID.1),(uQ x.C.ID.2),(iQ x.C.Slot),(iQ x.C.Revoked),(bQ v1.w_11),(kI c.W),(uQ c.Seed),(iQ c.Epoch),(iQ c.Num),(iQ c.Den),(iQ slot),(kO tl)],.vec 9 (o.map da)]) (au 6 trivial) .none<|⟨rfl,rfl⟩
  ·refine zo g2 hr fun hr=>LW.skip ?_;cases hr;exact jf .none<|⟨rfl,rfl⟩
def pD (x:Nd)(c:Cf)(slot:Int):Option (Vw×Vw×Cu×Bool):=(nt x.In c slot x.V x.Full).bind fun v1=>(ng c v1.2.1 slot).bind fun v2=>(qk c v1.2.1 slot v2).bind fun v3=>bif few v1.2.1.B then some (v1.2.1,v1.1,dL x.C v1.2.1.B v2 v3.1 v3.2 slot,v1.2.2)else none
theorem JN {o:List Of}{r_:Vw×Vw×Cu×Bool}(h:pD x c slot=some r_):LC prog 44 [.ptr 4 0] [.box (cd c0),.box (oO n0),.box (cE in0),.box nf,.box [(iQ x.No),(iQ x.Tick),(kB x.V.B),(kV x.V.V),(kB x.In.B),(kV x.In.V),(jO 5 o),(uQ x.C.ID.1),(uQ x.C.ID.2),(iQ x.C.Slot),(iQ x.C.Revoked),(bQ x.Full),(kI c.W),(uQ c.Seed),(iQ c.Epoch),(iQ c.Num),(iQ c.Den),(iQ slot),(kO tl)],.vec 9 (o.map da)] (Is (.tup []) [.box (cd c0),.box (oO n0),.box (cE in0),.box nf,.box [(iQ x.No),(iQ x.Tick),(kB r_.1.B),(kV r_.1.V),(kB r_.2.1.B),(kV r_.2.1.V),(kO ([]:List Of)),(uQ r_.2.2.1.ID.1),(uQ r_.2.2.1.ID.2),(iQ r_.2.2.1.Slot),(iQ r_.2.2.1.Revoked),(bQ r_.2.2.2),(kI c.W),(uQ c.Seed),(iQ c.Epoch),(iQ c.Num),(iQ c.Den),(iQ slot),(kO tl)],.vec 9 (o.map da)]):=by
 refine eP Tryz.func44 Z Z Z ?_;unfold pD at h;refine qR<|zM Z<|zM Z<|zM Z<|yS Z (zn Z Z)<|yS Z (zA Z Z aJ)<|yS Z (zA Z Z br)<|yS Z (zD Z Z Z aI Z Z)<|zb h fun v1 a1 h=>yS Z (yC Z Z Z (tw (x:=Nd.mk x.No x.Tick x.V x.In [] x.C x.Full) (o:=o) (tl:=tl) a1))<|yS Z (zn Z Z)<|yS Z (zA Z Z aJ)<|yS Z (zA Z Z br)<|yS Z (zs Z Z Z Z aI Z Z Z Z)<|nT<|qR<|zM Z<|yS Z (zn Z Z)<|yS Z (zA Z Z aJ)<|yS Z (zA Z Z bB)<|yS Z (zs Z Z Z Z bq Z Z Z Z)<|nT<|zQ<|LW.ent (bW.zsCell (i:=4) (j:=6) (m:=9) Z Z Z Z)<|zR<|zM Z<|zM Z<|yS Z (zn Z Z)<|yS Z (zA Z Z dF)<|yS Z (zD Z Z Z aV Z Z)<|zb h fun v2 a2 h=>yS Z (yC Z Z Z (Ae (x:=Nd.mk x.No x.Tick v1.2.1 v1.1 [] x.C v1.2.2) (o:=o) (tl:=tl) (wN a2)))<|yS Z (ze Z gT Z Z)<|yS Z (zs Z Z Z Z aG Z Z Z Z)<|nT<|zQ<|LW.ent (bW.slot Z)<|fC<|zK Z<|yG Z (fun H _=>zn Z Z)<|yG Z (fun H _=>zA Z Z jS)<|yF Z (zd Z Z Z bd Z Z) Z<|zK Z<|yG Z (fun H _=>zn Z Z)<|yG Z (fun H _=>zA Z Z aJ)<|yG Z (fun H _=>zA Z Z bO)<|yF Z (zd Z Z Z aI Z Z) Z<|zK Z<|yG Z (fun H _=>zn Z Z)<|yG Z (fun H _=>zA Z Z dF)<|yF Z (zd Z Z Z aV Z Z) Z<|yF Z (zd Z Z Z aG Z Z) Z<|zb h fun v3 a3 h=>?_;refine yF (F:=[]) (s:=none) Z (fun H _=>yP Z Z Z (N7 a3) wL) Z ?_;refine zK Z<|yG Z (fun H _=>eZ Z Z Z)<|yG Z (fun H _=>eZ Z Z Z)<|yF Z (ch.alloc Z gT (id:=7) Z) Z<|yF Z (zt Z Z Z Z aG Z Z Z) Z<|zK Z ?_;refine LF.nil ⟨by kernel_rfl,?_⟩;refine zT<|fC<|zK Z<|zK Z<|yG Z (fun H _=>zn Z Z)<|yG Z (fun H _=>zA Z Z aJ)<|yG Z (fun H _=>zA Z Z gM)<|yF Z (zd Z Z Z gy Z Z) Z<|zK Z<|yG Z (fun H _=>zn Z Z)<|yG Z (fun H _=>zA Z Z aJ)<|yG Z (fun H _=>zA Z Z bO)<|yG Z (fun H _=>zA Z Z aL)<|yF Z (zd Z Z Z bL Z Z) Z<|yF Z (zd Z Z Z aG Z Z) Z<|yF Z (zd Z Z Z aG Z Z) Z<|zK Z<|zK Z<|yG Z (fun H _=>zn Z Z)<|yG Z (fun H _=>zA Z Z dF)<|yF Z (zd Z Z Z aV Z Z) Z<|zg h fun q1 h=>?_;refine yF (F:=[]) (s:=none) Z (fun H _=>yP Z Z Z (Ro (c:=x.C) (l:=v1.2.1.B) (head:=v2) (found:=v3.1) (is:=v3.2) (slot:=slot) (BP q1)) (.cons zv Cn)) Z ?_;refine yG Z (fun H _=>zn Z Z)<|yG Z (fun H _=>zA Z Z aJ)<|yG Z (fun H _=>zA Z Z gM)<|yF Z (zt Z Z Z Z gy Z Z Z) Z ?_;refine LF.nil ⟨by kernel_rfl,?_⟩;obtain rfl:=zJ h;exact iL (env':=[]) (H':=[.box (cd c0),.box (oO n0),.box (cE in0),.box nf,.box [(iQ x.No),(iQ x.Tick),(kB v1.2.1.B),(kV v1.2.1.V),(kB v1.1.B),(kV v1.1.V),(kO ([]:List Of)),.p (.int .u64 (((dL x.C v1.2.1.B v2 v3.1 v3.2 slot).ID).1)),.p (.int .u64 (((dL x.C v1.2.1.B v2 v3.1 v3.2 slot).ID).2)),.p (.int .i64 ((dL x.C v1.2.1.B v2 v3.1 v3.2 slot).Slot)),.p (.int .i64 ((dL x.C v1.2.1.B v2 v3.1 v3.2 slot).Revoked)),(bQ v1.2.2),(kI c.W),(uQ c.Seed),(iQ c.Epoch),(iQ c.Num),(iQ c.Den),(iQ slot),(kO tl)],.vec 9 (o.map da)]) (au 6 trivial) .none<|⟨rfl,rfl⟩
theorem qC {b:Bool}{p:Prop}(h1:b=true->p)(h2:b=false->p):p:=by cases b <;>simp_all
theorem dg (h:(a==b)=true):LV.p (.int .i64 a)=(iQ b):=by rw[eq_of_beq h]
structure fa where
 t57:Int
 o5:List Of
def lb (n:Nd)(x1:fa):Option (fa⊕fa):=bif decide (x1.t57<(n.O.length:Int))then (ix n.O x1.t57).bind fun y1=>(tQ y1).bind fun v6=>bif bG x1.o5.length [v6].length 104 then some (.inl (fa.mk (i64.wrap (x1.t57+1)) (x1.o5++[v6])))else none else some (.inr (fa.mk x1.t57 x1.o5))
def kx (c:Cf)(n:Nd)(v_in:Vw)(o:List Of):Option (Nd×(List Of)):=((D9 c).bind fun v2=>bif !v2 then some true else bif decide (n.Tick<3)then some true else some (decide ((i64.wrap (n.Tick.tdiv 3))>1048576))).bind fun v1=>bif v1 then (tO n.V).bind fun v3=>(tO n.In).bind fun v4=>(iter (lb n) aY (fa.mk 0 ([]:List Of))).bind fun v5=>some (Nd.mk n.No n.Tick v3 v4 v5.o5 n.C n.Full,[])else (MY c v_in).bind fun v7=>(GP n.In v7).bind fun v8=>(zE o (Nd.mk n.No n.Tick n.V v8 n.O n.C n.Full) c (i64.wrap (n.Tick.tdiv 3))).bind fun v9=>bif (n.Tick.tmod 3)==0 then (rM (Nd.mk n.No n.Tick n.V v8 [] n.C v9.2) c (i64.wrap (n.Tick.tdiv 3)) ([]:List Of)).bind fun v10=>some (Nd.mk n.No (i64.wrap (n.Tick+1)) v10.1 v10.2.1 v9.1 n.C v10.2.2.1,v10.2.2.2)else bif (n.Tick.tmod 3)==1 then (oF (Nd.mk n.No n.Tick n.V v8 [] n.C v9.2) v9.1 c (i64.wrap (n.Tick.tdiv 3))).bind fun v11=>some (Nd.mk n.No (i64.wrap (n.Tick+1)) v11.1 v11.2.1 [] n.C v11.2.2,[])else bif (n.Tick.tmod 3)==2 then (pD (Nd.mk n.No n.Tick n.V v8 [] n.C v9.2) c (i64.wrap (n.Tick.tdiv 3))).bind fun v12=>some (Nd.mk n.No (i64.wrap (n.Tick+1)) v12.1 v12.2.1 [] v12.2.2.1 v12.2.2.2,[])else none
theorem NU {n:Nd}{v_in:Vw}{o:List Of}{r_:Nd×(List Of)}(h:kx c n v_in o=some r_):aq prog 10 [gF c,dH n,iW v_in,.slice 9 (o.map da)] [dH r_.1,.slice 9 (r_.2.map da)]:=by
 refine zh Tryz.func10 Z Z Z Z ?_;unfold kx at h;refine qR<|yS Z (bv Z Z Z Z Z)<|yS Z (bv Z Z Z Z Z)<|yS Z (bv Z Z Z Z Z)<|yS Z (ze Z eX Z Z)<|mN Z<|qR<|yS Z (zD Z Z Z aP Z Z)<|yS Z (zD Z Z Z bd Z Z)<|yS Z (zA Z Z co)<|yS Z (zD Z Z Z aV Z Z)<|yS Z (aa.quo Z Z Z (by decide))<|yS Z (aa.build Z LQ Z Z Z)<|yS Z (bv Z Z Z Z Z)<|mN Z<|zQ ?_;obtain⟨v1,b1,c1⟩:=zB h;clear h;refine LW.cut (E:=[(3,(kO o)),(4,.ptr 0 0),(5,.ptr 1 0),(6,.ptr 2 0),(8,.ptr 3 0),(9,.zs),(10,.ptr 4 0),(35,(bQ v1))]) (O:=[.box (cd c),.box (oO n),.box (cE v_in),.box nf,.box [(iQ n.No),(iQ n.Tick),(kB n.V.B),(kV n.V.V),(kB n.In.B),(kV n.In.V),(kO n.O),(uQ n.C.ID.1),(uQ n.C.ID.2),(iQ n.C.Slot),(iQ n.C.Revoked),(bQ n.Full),(kI c.W),(uQ c.Seed),(iQ c.Epoch),(iQ c.Num),(iQ c.Den),.p (.int .i64 (i64.wrap (n.Tick.tdiv 3))),.zs]]) ?_ ?_
 ·have h:=b1;refine zR<|yS Z (zD Z Z Z bd Z Z)<|zb h fun v2 a2 h=>yS Z (yP Z Z Z (L5 a2) dB)<|yS Z (aa.not Z Z)<|zM Z ?_;refine zc 24 Z (fun g1=>?_)<|fun g1=>?_
  ·refine zi g1 h fun h=>yU Z (gd g1 Z) Z<|yU Z (gd g1 Z) Z<|yU Z (gd g1 Z) Z<|yS Z (bA Z (aK g1 Z) Z)<|zM Z<|aB Z<|aB Z<|aB Z<|aB Z<|aB Z<|yS Z (bA Z Z Z)<|nT ?_;cases h;exact au 5 ⟨Z,Z,Z,Z,Z,Z,Z,Z,t_⟩
  ·refine zo g1 h fun h=>yV Z (gd g1 Z) (zA Z Z co)<|yV Z (gd g1 Z) (zD Z Z Z aV Z Z)<|yV Z (gd g1 Z) (am Z Z Z Z)<|yS Z (aU Z (aK g1 Z) Z)<|zM Z ?_;refine zc 29 Z (fun g2=>?_)<|fun g2=>?_
   ·refine zi g2 h fun h=>yU Z (gd g2 Z) Z<|yU Z (gd g2 Z) Z<|yU Z (gd g2 Z) Z<|yU Z (gd g2 Z) Z<|yU Z (gd g2 Z) Z<|yS Z (bA Z (aK g2 Z) Z)<|nT ?_;cases h;exact au 5 ⟨Z,Z,Z,Z,Z,Z,Z,Z,t_⟩
   ·refine zo g2 h fun h=>yV Z (gd g2 Z) (zm Z Z)<|yV Z (gd g2 Z) (zn Z Z)<|yV Z (gd g2 Z) (zA Z Z dF)<|yV Z (gd g2 Z) (zD Z Z Z aV Z Z)<|yV Z (gd g2 Z) (am Z Z Z Z)<|yS Z (aU Z (aK g2 Z) Z)<|nT ?_;cases h;exact au 5 ⟨Z,Z,Z,Z,Z,Z,Z,Z,t_⟩
 ·have h:=c1;clear b1;refine zX Z (fun g3=>?_)<|fun g3=>?_
  ·refine zi g3 h fun h=>zQ<|fC<|zK Z<|zK Z<|yG Z (fun H _=>zA Z Z bO)<|yF Z (zd Z Z Z aI Z Z) Z<|zb h fun v3 a3 h=>?_;refine yF (F:=[]) (s:=none) Z (fun H _=>yP Z Z Z (Hd a3) dB) Z ?_;refine yG Z (fun H _=>zA Z Z br)<|yF Z (zd Z Z Z aI Z Z) Z<|zb h fun v4 a4 h=>?_;refine yF (F:=[]) (s:=none) Z (fun H _=>yP Z Z Z (Hd a4) dB) Z ?_;refine yG Z (fun H _=>zn Z Z)<|yG Z (fun H _=>zA Z Z aJ)<|yG Z (fun H _=>zA Z Z bO)<|yF Z (zt Z Z Z Z aI Z Z Z) Z<|yG Z (fun H _=>zn Z Z)<|yG Z (fun H _=>zA Z Z aJ)<|yG Z (fun H _=>zA Z Z br)<|yF Z (zt Z Z Z Z aI Z Z Z) Z ?_;refine LF.nil ⟨by kernel_rfl,?_⟩;refine zT<|qR<|zM Z<|yS Z (zn Z Z)<|yS Z (zA Z Z aJ)<|yS Z (zA Z Z bB)<|yS Z (zs Z Z Z Z bq Z Z Z Z)<|nT<|zQ<|zQ<|LW.ent (bW.lazyCell (i:=4) (j:=6) (m:=9) Z Z Z Z Z Z)<|zR<|yS Z (zA Z Z bB)<|yS Z (zD Z Z Z bq Z Z)<|yS Z (cx Z Z)<|mN Z ?_;obtain⟨v5,b5,c5⟩:=zB h;clear h;refine LW.tail (E:=[(3,(kO o)),(4,.ptr 0 0),(5,.ptr 1 0),(6,.ptr 2 0),(8,.ptr 3 0),(9,.zs),(10,.ptr 4 0)]) (O:=[.box (cd c),.box (oO n),.box (cE v_in),.box nf,.box [(iQ n.No),(iQ n.Tick),(kB v3.B),(kV v3.V),(kB v4.B),(kV v4.V),(jO 5 v5.o5),(uQ n.C.ID.1),(uQ n.C.ID.2),(iQ n.C.Slot),(iQ n.C.Revoked),(bQ n.Full),(kI c.W),(uQ c.Seed),(iQ c.Epoch),(iQ c.Num),(iQ c.Den),.p (.int .i64 (i64.wrap (n.Tick.tdiv 3))),.zs],.vec 9 (v5.o5.map da)]) ?_<|fun e5 K5 u5=>?_
   ·refine LW.block ?_;refine LW.iterB (E:=fun x1:fa=>[(3,(kO o)),(4,.ptr 0 0),(5,.ptr 1 0),(6,.ptr 2 0),(8,.ptr 3 0),(9,.zs),(10,.ptr 4 0),(55,(kO n.O)),(56,.p (.int .i64 (n.O.length:Int))),(57,(iQ x1.t57))]) (O:=fun x1=>[.box (cd c),.box (oO n),.box (cE v_in),.box nf,.box [(iQ n.No),(iQ n.Tick),(kB v3.B),(kV v3.V),(kB v4.B),(kV v4.V),(jO 5 x1.o5),(uQ n.C.ID.1),(uQ n.C.ID.2),(iQ n.C.Slot),(iQ n.C.Revoked),(bQ n.Full),(kI c.W),(uQ c.Seed),(iQ c.Epoch),(iQ c.Num),(iQ c.Den),.p (.int .i64 (i64.wrap (n.Tick.tdiv 3))),.zs],.vec 9 (x1.o5.map da)]) b5 (au 6 ⟨Z,Z,Z,Z,Z,Z,Z,Z,Z,Z,t_⟩)<|fun x1 z1 h m1=>?_;unfold lb at h;refine qR<|yS Z (am Z Z Z Z)<|nT<|zQ ?_;refine zX Z (fun g4=>?_)<|fun g4=>?_
    ·refine zi g4 h fun h=>zk<|zT<|zQ<|zl<|qR<|zb h fun y1 j1 h=>yS Z (zx Z Z Z bp j1 Z)<|yS Z (bS Z Z Z er Z Z)<|yS Z (ze Z p7 Z Z)<|yS Z (zs Z Z Z Z er Z Z Z Z)<|nT<|fC<|zK Z<|zK Z<|yG Z (fun H _=>zn Z Z)<|yG Z (fun H _=>zA Z Z aJ)<|yG Z (fun H _=>zA Z Z bB)<|yF Z (zd Z Z Z bq Z Z) Z<|yF Z (zd Z Z Z er Z Z) Z<|zb h fun v6 a6 h=>?_;refine yF (F:=[]) (s:=none) Z (fun H _=>yP Z Z Z (He a6) dB) Z ?_;refine yG Z (fun H _=>gU Z bp Z Z Z Z Z)<|zg h fun q1 h=>yF Z (ch.appendX da x1.o5 [v6] rfl Z Z Z Z bp q1) Z<|yG Z (fun H _=>zn Z Z)<|yG Z (fun H _=>zA Z Z aJ)<|yG Z (fun H _=>zA Z Z bB)<|yF Z (zt Z Z Z Z bq Z Z Z) Z ?_;refine LF.nil ⟨by kernel_rfl,?_⟩;refine ae<|zT<|zR<|yS Z (am Z Z Z Z)<|mN Z ?_;cases h;exact⟨_,rfl,au 6 ⟨Z,Z,Z,Z,Z,Z,Z,Z,Z,Z,t_⟩⟩
    ·refine zo g4 h fun h=>zq<|aj<|aj<|zy<|zT ?_;cases h;obtain rfl:=(m1 _ rfl);exact au 6 ⟨Z,Z,Z,Z,Z,Z,Z,t_⟩
   ·have h:=c5;clear b5;refine zT<|LW.weak u5<|qR<|zM Z<|yS Z (zn Z Z)<|yS Z (zA Z Z aJ)<|yS Z (zD Z Z Z aP Z Z)<|yS Z (zs Z Z Z Z aP Z Z Z Z)<|mN Z<|zr<|af ?_;cases h;exact zf (.two (eh Z Z) (.tmp Z))<|⟨_,rfl,(.cons (Conv.agg (.cons zv (.cons zv (.cons zv (.cons zv (.cons zv (.cons zv (.cons (Conv.vecAll Z Z Z) Cn)))))))) (.cons Conv.zs .nil))⟩
  ·refine zo g3 h fun h=>zk<|zT<|zQ<|fC<|zK Z<|yG Z (fun H _=>zA Z Z br)<|yF Z (zd Z Z Z aI Z Z) Z<|yF Z (zd Z Z Z bd Z Z) Z<|yF Z (zd Z Z Z aI Z Z) Z<|zb h fun v7 a7 h=>?_;refine yF (F:=[]) (s:=none) Z (fun H _=>yP Z Z Z (Rf a7) bR) Z ?_;obtain⟨v8,a8,h⟩:=zB h;refine yF (F:=[]) (s:=none) Z (fun H _=>yP Z Z Z (L8 a8) bR) Z ?_;refine yG Z (fun H _=>zn Z Z)<|yG Z (fun H _=>zA Z Z aJ)<|yG Z (fun H _=>zA Z Z br)<|yF Z (zt Z Z Z Z aI Z Z Z) Z ?_;refine LF.nil ⟨by kernel_rfl,?_⟩;refine zT<|zQ<|LW.ent (bW.zsCell (i:=4) (j:=18) (m:=9) Z Z Z Z)<|zR<|zM Z<|zM Z<|zb h fun v9 a9 h=>yS Z (yC Z Z Z (Mn (x:=Nd.mk n.No n.Tick n.V v8 n.O n.C n.Full) (tl:=([]:List Of)) a9))<|nT<|qR<|yS Z (aa.build Z LR Z Z Z)<|yS Z (ze Z MR Z Z)<|yS Z (zs Z Z Z Z ML Z Z Z Z)<|nT<|zQ ?_;refine qC (b:=(n.Tick.tmod 3)==0) (fun(g5:((n.Tick.tmod 3)==0)=true)=>?_) (fun(g5:((n.Tick.tmod 3)==0)=false)=>?_)
   ·refine zi g5 h fun h=>zR<|yS Z (zA Z Z co)<|yS Z (zD Z Z Z aV Z Z)<|yS Z (aa.isEq (y:=(iQ 0)) (aa.rem Z Z Z (by decide)) (dg g5))<|yS Z (aa.indexAddrA Z Z Z BG (by decide) (by decide))<|yS Z (zD Z Z Z Cq Z Z)<|zM Z<|zb h fun v10 a10 h=>yS Z (zC Z Z Z (by kernel_rfl) (LC.pre (JI (x:=Nd.mk n.No n.Tick n.V v8 [] n.C v9.2) (o:=v9.1) (tl:=([]:List Of)) a10) Z Z Z))<|nT<|qR<|zM Z<|yS Z (zn Z Z)<|yS Z (zA Z Z aJ)<|yS Z (zA Z Z co)<|yS Z (zD Z Z Z aV Z Z)<|yS Z (am Z Z Z Z)<|yS Z (zn Z Z)<|yS Z (zA Z Z aJ)<|yS Z (zA Z Z co)<|yS Z (zs Z Z Z Z aV Z Z Z Z)<|nT<|zQ<|fC<|zK Z<|yG Z (fun H _=>zn Z Z)<|yG Z (fun H _=>zA Z Z aJ)<|yF Z (zd Z Z Z aP Z Z) Z<|zK Z<|yG Z (fun H _=>zn Z Z)<|yG Z (fun H _=>zA Z Z qO)<|yF Z (zd Z Z Z bq Z Z) Z<|yF Z (zt Z Z Z Z aP Z Z Z) Z<|zK Z ?_;refine LF.nil ⟨by kernel_rfl,?_⟩;refine zT<|zr ?_;cases h;exact zf (.two (eh Z Z) (.tmp Z))<|⟨_,rfl,(.cons (Conv.agg (.cons zv (.cons zv (.cons zv (.cons zv (.cons zv (.cons zv (.cons (Conv.vecAll Z Z Z) Cn)))))))) dB)⟩
   ·have h:=zO g5 h;refine qC (b:=(n.Tick.tmod 3)==1) (fun(g6:((n.Tick.tmod 3)==1)=true)=>?_) (fun(g6:((n.Tick.tmod 3)==1)=false)=>?_)
    ·refine zi g6 h fun h=>zR<|yS Z (zA Z Z co)<|yS Z (zD Z Z Z aV Z Z)<|yS Z (aa.isEq (y:=(iQ 1)) (aa.rem Z Z Z (by decide)) (dg g6))<|yS Z (aa.indexAddrA Z Z Z BG (by decide) (by decide))<|yS Z (zD Z Z Z Cq Z Z)<|zM Z<|zb h fun v11 a11 h=>yS Z (zC Z Z Z (by kernel_rfl) (LC.pre (Hn (x:=Nd.mk n.No n.Tick n.V v8 [] n.C v9.2) (o:=v9.1) (tl:=([]:List Of)) a11) Z Z Z))<|nT<|qR<|zM Z<|yS Z (zn Z Z)<|yS Z (zA Z Z aJ)<|yS Z (zA Z Z co)<|yS Z (zD Z Z Z aV Z Z)<|yS Z (am Z Z Z Z)<|yS Z (zn Z Z)<|yS Z (zA Z Z aJ)<|yS Z (zA Z Z co)<|yS Z (zs Z Z Z Z aV Z Z Z Z)<|nT<|zQ<|fC<|zK Z<|yG Z (fun H _=>zn Z Z)<|yG Z (fun H _=>zA Z Z aJ)<|yF Z (zd Z Z Z aP Z Z) Z<|zK Z<|yG Z (fun H _=>zn Z Z)<|yG Z (fun H _=>zA Z Z qO)<|yF Z (zd Z Z Z bq Z Z) Z<|yF Z (zt Z Z Z Z aP Z Z Z) Z<|zK Z ?_;refine LF.nil ⟨by kernel_rfl,?_⟩;refine zT<|zr ?_;cases h;exact zf (.two (eh Z Z) (.tmp Z))<|⟨_,rfl,bR⟩
    ·refine zo g6 h fun h=>zg h fun q2 h=>zR<|yS Z (zA Z Z co)<|yS Z (zD Z Z Z aV Z Z)<|yS Z (aa.isEq (y:=(iQ 2)) (aa.rem Z Z Z (by decide)) (dg q2))<|yS Z (aa.indexAddrA Z Z Z BG (by decide) (by decide))<|yS Z (zD Z Z Z Cq Z Z)<|zM Z<|zb h fun v12 a12 h=>yS Z (zC Z Z Z (by kernel_rfl) (LC.pre (JN (x:=Nd.mk n.No n.Tick n.V v8 [] n.C v9.2) (o:=v9.1) (tl:=([]:List Of)) a12) Z Z Z))<|nT<|qR<|zM Z<|yS Z (zn Z Z)<|yS Z (zA Z Z aJ)<|yS Z (zA Z Z co)<|yS Z (zD Z Z Z aV Z Z)<|yS Z (am Z Z Z Z)<|yS Z (zn Z Z)<|yS Z (zA Z Z aJ)<|yS Z (zA Z Z co)<|yS Z (zs Z Z Z Z aV Z Z Z Z)<|nT<|zQ<|fC<|zK Z<|yG Z (fun H _=>zn Z Z)<|yG Z (fun H _=>zA Z Z aJ)<|yF Z (zd Z Z Z aP Z Z) Z<|zK Z<|yG Z (fun H _=>zn Z Z)<|yG Z (fun H _=>zA Z Z qO)<|yF Z (zd Z Z Z bq Z Z) Z<|yF Z (zt Z Z Z Z aP Z Z Z) Z<|zK Z ?_;refine LF.nil ⟨by kernel_rfl,?_⟩;refine zT<|zr ?_;cases h;exact zf (.two (eh Z Z) (.tmp Z))<|⟨_,rfl,bR⟩
def RC (x:Int×Int×Int×Int):PV:=.agg [.int .i64 x.1,.int .i64 x.2.1,.int .i64 x.2.2.1,.int .i64 x.2.2.2]
def sN (n:Int):Option Bool:=bif decide (n>=0)then some (decide (n<=4611686018427387904))else some false
theorem C8 {n:Int}(h:sN n=some r_):aq prog 214 [.int .i64 n] [.bool r_]:=by
 refine zh Tryz.func214 Z Z Z Z ?_;unfold sN at h;refine qR<|mN Z<|qR<|zM Z<|yS Z (am Z Z Z Z)<|zM Z ?_;refine zc 5 Z (fun g1=>?_)<|fun g1=>?_
 ·refine zi g1 h fun h=>yV Z (gd g1 Z) (zm Z Z)<|yV Z (gd g1 Z) (am Z Z Z Z)<|yS Z (bA Z (aK g1 Z) Z)<|mN Z<|zr ?_;cases h;exact ba Z
 ·refine zo g1 h fun h=>yU Z (gd g1 Z) Z<|yU Z (gd g1 Z) Z<|yS Z (aU Z (aK g1 Z) Z)<|mN Z<|zr ?_;cases h;exact ba Z
def vT (a:Int) (b:Int):Option (Int×Int×Int×Int):=bif decide (4294967296≠0)then bif decide (4294967296≠0)then bif decide (4294967296≠0)then bif decide (4294967296≠0)then bif decide (4294967296≠0)then bif decide (4294967296≠0)then bif decide (4294967296≠0)then bif decide (4294967296≠0)then some (i64.wrap (u64.wrap ((u64.wrap ((u64.wrap ((u64.wrap ((u64.wrap (i64.wrap (a.tdiv 4294967296)))*(u64.wrap (i64.wrap (b.tdiv 4294967296)))))+(u64.wrap ((u64.wrap ((u64.wrap ((u64.wrap (i64.wrap (a.tdiv 4294967296)))*(u64.wrap (b.tmod 4294967296))))+(u64.wrap (i64.wrap (u64.wrap ((u64.wrap ((u64.wrap (a.tmod 4294967296))*(u64.wrap (b.tmod 4294967296)))).tdiv 4294967296)))))).tdiv 4294967296))))+(u64.wrap ((u64.wrap ((u64.wrap ((u64.wrap (a.tmod 4294967296))*(u64.wrap (i64.wrap (b.tdiv 4294967296)))))+((u64.wrap ((u64.wrap ((u64.wrap (i64.wrap (a.tdiv 4294967296)))*(u64.wrap (b.tmod 4294967296))))+(u64.wrap (i64.wrap (u64.wrap ((u64.wrap ((u64.wrap (a.tmod 4294967296))*(u64.wrap (b.tmod 4294967296)))).tdiv 4294967296)))))).tmod 4294967296))).tdiv 4294967296)))).tdiv 4294967296)),i64.wrap ((u64.wrap ((u64.wrap ((u64.wrap ((u64.wrap (i64.wrap (a.tdiv 4294967296)))*(u64.wrap (i64.wrap (b.tdiv 4294967296)))))+(u64.wrap ((u64.wrap ((u64.wrap ((u64.wrap (i64.wrap (a.tdiv 4294967296)))*(u64.wrap (b.tmod 4294967296))))+(u64.wrap (i64.wrap (u64.wrap ((u64.wrap ((u64.wrap (a.tmod 4294967296))*(u64.wrap (b.tmod 4294967296)))).tdiv 4294967296)))))).tdiv 4294967296))))+(u64.wrap ((u64.wrap ((u64.wrap ((u64.wrap (a.tmod 4294967296))*(u64.wrap (i64.wrap (b.tdiv 4294967296)))))+((u64.wrap ((u64.wrap ((u64.wrap (i64.wrap (a.tdiv 4294967296)))*(u64.wrap (b.tmod 4294967296))))+(u64.wrap (i64.wrap (u64.wrap ((u64.wrap ((u64.wrap (a.tmod 4294967296))*(u64.wrap (b.tmod 4294967296)))).tdiv 4294967296)))))).tmod 4294967296))).tdiv 4294967296)))).tmod 4294967296),i64.wrap ((u64.wrap ((u64.wrap ((u64.wrap (a.tmod 4294967296))*(u64.wrap (i64.wrap (b.tdiv 4294967296)))))+((u64.wrap ((u64.wrap ((u64.wrap (i64.wrap (a.tdiv 4294967296)))*(u64.wrap (b.tmod 4294967296))))+(u64.wrap (i64.wrap (u64.wrap ((u64.wrap ((u64.wrap (a.tmod 4294967296))*(u64.wrap (b.tmod 4294967296)))).tdiv 4294967296)))))).tmod 4294967296))).tmod 4294967296),i64.wrap ((u64.wrap ((u64.wrap (a.tmod 4294967296))*(u64.wrap (b.tmod 4294967296)))).tmod 4294967296))else none else none else none else none else none else none else none else none
theorem KF {r_:(Int×Int×Int×Int)}(h:vT a b=some r_):aq prog 215 [.int .i64 a,.int .i64 b] [RC r_]:=by
 refine zh Tryz.func215 Z Z Z Z ?_;unfold vT at h;refine qR<|yS Z (ze Z Cy Z Z)<|nT<|qR<|mN Z<|zQ<|dy<|zH Z<|zH Z<|zg h fun q1 h=>yE Z (aa.rem Z Z Z (of_decide_eq_true q1))<|yE Z (aa.convert (k':=.u64) Z Z (by kernel_rfl))<|zH Z<|zH Z<|zg h fun q2 h=>yE Z (aa.rem Z Z Z (of_decide_eq_true q2))<|yE Z (aa.convert (k':=.u64) Z Z (by kernel_rfl))<|yE Z (am Z Z Z Z)<|zH Z<|LO.nil<|zT<|qR<|zM Z<|yS Z (aa.rem Z Z Z (by decide))<|yS Z (aa.convert (k':=.i64) Z Z (by kernel_rfl))<|mN Z<|qR<|zM Z<|yS Z (aa.quo Z Z Z (by decide))<|yS Z (aa.convert (k':=.i64) Z Z (by kernel_rfl))<|mN Z<|zQ<|dy<|zH Z<|zH Z<|zg h fun q3 h=>yE Z (aa.quo Z Z Z (of_decide_eq_true q3))<|yE Z (aa.convert (k':=.u64) Z Z (by kernel_rfl))<|zH Z<|zH Z<|zg h fun q4 h=>yE Z (aa.rem Z Z Z (of_decide_eq_true q4))<|yE Z (aa.convert (k':=.u64) Z Z (by kernel_rfl))<|yE Z (am Z Z Z Z)<|zH Z<|yE Z (aa.convert (k':=.u64) Z Z (by kernel_rfl))<|yE Z (am Z Z Z Z)<|zH Z<|LO.nil<|zT<|zQ<|dy<|zH Z<|zH Z<|zg h fun q5 h=>yE Z (aa.rem Z Z Z (of_decide_eq_true q5))<|yE Z (aa.convert (k':=.u64) Z Z (by kernel_rfl))<|zH Z<|zH Z<|zg h fun q6 h=>yE Z (aa.quo Z Z Z (of_decide_eq_true q6))<|yE Z (aa.convert (k':=.u64) Z Z (by kernel_rfl))<|yE Z (am Z Z Z Z)<|zH Z<|yE Z (aa.rem Z Z Z (by decide))<|yE Z (am Z Z Z Z)<|zH Z<|LO.nil<|zT<|zQ<|dy<|zH Z<|zH Z<|zg h fun q7 h=>yE Z (aa.quo Z Z Z (of_decide_eq_true q7))<|yE Z (aa.convert (k':=.u64) Z Z (by kernel_rfl))<|zH Z<|zH Z<|zg h fun q8 h=>yE Z (aa.quo Z Z Z (of_decide_eq_true q8))<|yE Z (aa.convert (k':=.u64) Z Z (by kernel_rfl))<|yE Z (am Z Z Z Z)<|zH Z<|yE Z (aa.quo Z Z Z (by decide))<|yE Z (am Z Z Z Z)<|zH Z<|yE Z (aa.quo Z Z Z (by decide))<|yE Z (am Z Z Z Z)<|zH Z<|LO.nil ?_;refine zT<|qR<|zM Z<|yS Z (aa.quo Z Z Z (by decide))<|yS Z (aa.convert (k':=.i64) Z Z (by kernel_rfl))<|zM Z<|yS Z (aa.rem Z Z Z (by decide))<|yS Z (aa.convert (k':=.i64) Z Z (by kernel_rfl))<|zM Z<|yS Z (aa.rem Z Z Z (by decide))<|yS Z (aa.convert (k':=.i64) Z Z (by kernel_rfl))<|zM Z<|yS Z (aa.build Z LU Z Z Z)<|yS Z (zs Z Z Z Z Cr Z Z Z Z)<|nT<|zr ?_;cases h;exact zf (.one (eh Z Z)) zv
structure fQ where
 i:Int
def qp (v6:(Int×Int×Int×Int))(v7:(Int×Int×Int×Int))(x1:fQ):Option (fQ⊕(fQ⊕Bool)):=bif decide (x1.i<4)then bif (x1.i)==0 then bif v6.1 != v7.1 then some (.inr (.inr (decide (v6.1>v7.1))))else some (.inl (fQ.mk (i64.wrap (x1.i+1))))else bif (x1.i)==1 then bif v6.2.1 != v7.2.1 then some (.inr (.inr (decide (v6.2.1>v7.2.1))))else some (.inl (fQ.mk (i64.wrap (x1.i+1))))else bif (x1.i)==2 then bif v6.2.2.1 != v7.2.2.1 then some (.inr (.inr (decide (v6.2.2.1>v7.2.2.1))))else some (.inl (fQ.mk (i64.wrap (x1.i+1))))else bif x1.i==3 then bif v6.2.2.2 != v7.2.2.2 then some (.inr (.inr (decide (v6.2.2.2>v7.2.2.2))))else some (.inl (fQ.mk (i64.wrap (x1.i+1))))else none else some (.inr (.inl (fQ.mk x1.i)))
def yy (a:Int)(b:Int)(c:Int)(d:Int):Option Bool:=(sN a).bind fun v1=>(sN b).bind fun v2=>(sN c).bind fun v3=>(sN d).bind fun v4=>(bif !v1 then some true else bif !v2 then some true else bif !v3 then some true else some (!v4)).bind fun v5=>bif v5 then some false else (vT a b).bind fun v6=>(vT c d).bind fun v7=>(iter (qp v6 v7) aY (fQ.mk 0)).bind fun b_v8=>Sum.elim (fun _=>some false) some b_v8
theorem Og {c:Int}(h:yy a b c d=some r_):aq prog 176 [.int .i64 a,.int .i64 b,.int .i64 c,.int .i64 d] [.bool r_]:=by
 refine zh Tryz.func176 Z Z Z Z ?_;unfold yy at h;refine qR<|mN Z<|qR<|zM Z<|zb h fun v1 a1 h=>yS Z (yP Z Z Z (C8 a1) dB)<|mN Z<|qR<|zM Z<|zb h fun v2 a2 h=>yS Z (yP Z Z Z (C8 a2) dB)<|mN Z<|qR<|zM Z<|zb h fun v3 a3 h=>yS Z (yP Z Z Z (C8 a3) dB)<|mN Z<|qR<|zM Z<|zb h fun v4 a4 h=>yS Z (yP Z Z Z (C8 a4) dB)<|mN Z<|zQ ?_;obtain⟨v5,p5,b5⟩:=zB h;clear h;refine LW.cut (E:=[(0,(iQ a)),(1,(iQ b)),(2,(iQ c)),(3,(iQ d)),(8,(bQ false)),(37,(bQ v5))]) (O:=[]) ?_ ?_
 ·have h:=p5;refine zR<|zM Z<|yS Z (aa.not Z Z)<|zM Z ?_;refine zc 26 Z (fun g1=>?_)<|fun g1=>?_
  ·refine zi g1 h fun h=>yU Z (gd g1 Z) Z<|yU Z (gd g1 Z) Z<|yS Z (bA Z (aK g1 Z) Z)<|zM Z<|aB Z<|aB Z<|yS Z (bA Z Z Z)<|zM Z<|aB Z<|aB Z<|yS Z (bA Z Z Z)<|nT ?_;cases h;exact au 0 ⟨Z,Z,Z,Z,Z,Z,t_⟩
  ·refine zo g1 h fun h=>yV Z (gd g1 Z) (zm Z Z)<|yV Z (gd g1 Z) (aa.not Z Z)<|yS Z (aU Z (aK g1 Z) Z)<|zM Z ?_;refine zc 30 Z (fun g2=>?_)<|fun g2=>?_
   ·refine zi g2 h fun h=>yU Z (gd g2 Z) Z<|yU Z (gd g2 Z) Z<|yS Z (bA Z (aK g2 Z) Z)<|zM Z<|aB Z<|aB Z<|yS Z (bA Z Z Z)<|nT ?_;cases h;exact au 0 ⟨Z,Z,Z,Z,Z,Z,t_⟩
   ·refine zo g2 h fun h=>yV Z (gd g2 Z) (zm Z Z)<|yV Z (gd g2 Z) (aa.not Z Z)<|yS Z (aU Z (aK g2 Z) Z)<|zM Z ?_;refine zc 34 Z (fun g3=>?_)<|fun g3=>?_
    ·refine zi g3 h fun h=>yU Z (gd g3 Z) Z<|yU Z (gd g3 Z) Z<|yS Z (bA Z (aK g3 Z) Z)<|nT ?_;cases h;exact au 0 ⟨Z,Z,Z,Z,Z,Z,t_⟩
    ·refine zo g3 h fun h=>yV Z (gd g3 Z) (zm Z Z)<|yV Z (gd g3 Z) (aa.not Z Z)<|yS Z (aU Z (aK g3 Z) Z)<|nT ?_;cases h;exact au 0 ⟨Z,Z,Z,Z,Z,Z,t_⟩
 ·have h :=b5;clear p5;refine zX Z (fun g4=>?_)<|fun g4=>?_
  ·refine zi g4 h fun h=>qR<|mN Z<|LW.ret<|af ?_;cases h;exact ba Z
  ·refine zo g4 h fun h=>zk<|zT<|qR<|zM Z<|zM Z<|zb h fun v6 a6 h=>yS Z (yP Z Z Z (KF a6) bR)<|yS Z (ze Z Cy Z Z)<|yS Z (zs Z Z Z Z Cr Z Z Z Z)<|nT<|qR<|zM Z<|zM Z<|zb h fun v7 a7 h=>yS Z (yP Z Z Z (KF a7) bR)<|yS Z (ze Z Cy Z Z)<|yS Z (zs Z Z Z Z Cr Z Z Z Z)<|nT<|zQ<|qR<|mN Z ?_;obtain⟨w8,p8,b8⟩:=zB h;clear h;refine LW.tailB (b:=w8) (E:=fun v8=>[(8,(bQ false))]) (O:=fun v8=>[.box [(iQ v6.1),(iQ v6.2.1),(iQ v6.2.2.1),(iQ v6.2.2.2)],.box [(iQ v7.1),(iQ v7.2.1),(iQ v7.2.2.1),(iQ v7.2.2.2)]]) ?_<|fun v8 f8 e8 K8 u8=>?_
   ·refine LW.block ?_;refine LW.iterB (E:=fun x1:fQ=>[(8,(bQ false)),(13,.ptr 0 0),(14,.ptr 1 0),(15,(iQ x1.i))]) (O:=fun x1=>[.box [(iQ v6.1),(iQ v6.2.1),(iQ v6.2.2.1),(iQ v6.2.2.2)],.box [(iQ v7.1),(iQ v7.2.1),(iQ v7.2.2.1),(iQ v7.2.2.2)]]) p8 (au 2 ⟨Z,Z,Z,Z,t_⟩)<|fun x1 z1 h m1=>?_;unfold qp at h;refine zQ<|qR<|zM Z<|yS Z (am Z Z Z Z)<|nT ?_;refine zX Z (fun g5=>?_)<|fun g5=>?_
    ·refine zi g5 h fun h=>zk<|zT<|zQ<|zl<|zQ ?_;refine qC (b:=(x1.i)==0) (fun(g6:((x1.i)==0)=true)=>?_) (fun(g6:((x1.i)==0)=false)=>?_)
     ·refine zi g6 h fun h=>dy<|yE Z (aa.isEq (y:=(iQ 0)) (zm Z Z) (dg g6))<|yE Z (aa.indexAddrA Z Z Z fJ (by decide) (by decide))<|yE Z (zD Z Z Z aV Z Z)<|yE Z (aa.isEq (y:=(iQ 0)) (zm Z Z) (dg g6))<|yE Z (aa.indexAddrA Z Z Z fJ (by decide) (by decide))<|yE Z (zD Z Z Z aV Z Z)<|yE Z (am Z Z Z Z)<|LO.nil<|zT ?_;refine zX Z (fun g7=>?_)<|fun g7=>?_
      ·refine zi g7 h fun h=>zQ<|dy<|yE Z (aa.isEq (y:=(iQ 0)) (zm Z Z) (dg g6))<|yE Z (aa.indexAddrA Z Z Z fJ (by decide) (by decide))<|yE Z (zD Z Z Z aV Z Z)<|yE Z (aa.isEq (y:=(iQ 0)) (zm Z Z) (dg g6))<|yE Z (aa.indexAddrA Z Z Z fJ (by decide) (by decide))<|yE Z (zD Z Z Z aV Z Z)<|yE Z (am Z Z Z Z)<|zH Z<|LO.nil<|zT<|zr<|ao<|af<|af<|ao<|af<|af ?_;cases h;obtain rfl:=(m1 _ rfl);have h:=bT b8;cases h;exact ba Z
      ·refine zo g7 h fun h=>zk<|ae<|zT<|zR<|zM Z<|yS Z (am Z Z Z Z)<|mN Z ?_;cases h;exact⟨_,rfl,au 2 ⟨Z,Z,Z,Z,t_⟩⟩
     ·have h:=zO g6 h;refine qC (b:=(x1.i)==1) (fun(g8:((x1.i)==1)=true)=>?_) (fun(g8:((x1.i)==1)=false)=>?_)
      ·refine zi g8 h fun h=>dy<|yE Z (aa.isEq (y:=(iQ 1)) (zm Z Z) (dg g8))<|yE Z (aa.indexAddrA Z Z Z fJ (by decide) (by decide))<|yE Z (zD Z Z Z aV Z Z)<|yE Z (aa.isEq (y:=(iQ 1)) (zm Z Z) (dg g8))<|yE Z (aa.indexAddrA Z Z Z fJ (by decide) (by decide))<|yE Z (zD Z Z Z aV Z Z)<|yE Z (am Z Z Z Z)<|LO.nil<|zT ?_;refine zX Z (fun g9=>?_)<|fun g9=>?_
       ·refine zi g9 h fun h=>zQ<|dy<|yE Z (aa.isEq (y:=(iQ 1)) (zm Z Z) (dg g8))<|yE Z (aa.indexAddrA Z Z Z fJ (by decide) (by decide))<|yE Z (zD Z Z Z aV Z Z)<|yE Z (aa.isEq (y:=(iQ 1)) (zm Z Z) (dg g8))<|yE Z (aa.indexAddrA Z Z Z fJ (by decide) (by decide))<|yE Z (zD Z Z Z aV Z Z)<|yE Z (am Z Z Z Z)<|zH Z<|LO.nil<|zT<|zr<|ao<|af<|af<|ao<|af<|af ?_;cases h;obtain rfl:=(m1 _ rfl);have h:=bT b8;cases h;exact ba Z
       ·refine zo g9 h fun h=>zk<|ae<|zT<|zR<|zM Z<|yS Z (am Z Z Z Z)<|mN Z ?_;cases h;exact⟨_,rfl,au 2 ⟨Z,Z,Z,Z,t_⟩⟩
      ·have h:=zO g8 h;refine qC (b:=(x1.i)==2) (fun(g10:((x1.i)==2)=true)=>?_) (fun(g10:((x1.i)==2)=false)=>?_)
       ·refine zi g10 h fun h=>dy<|yE Z (aa.isEq (y:=(iQ 2)) (zm Z Z) (dg g10))<|yE Z (aa.indexAddrA Z Z Z fJ (by decide) (by decide))<|yE Z (zD Z Z Z aV Z Z)<|yE Z (aa.isEq (y:=(iQ 2)) (zm Z Z) (dg g10))<|yE Z (aa.indexAddrA Z Z Z fJ (by decide) (by decide))<|yE Z (zD Z Z Z aV Z Z)<|yE Z (am Z Z Z Z)<|LO.nil<|zT ?_;refine zX Z (fun g11=>?_)<|fun g11=>?_
        ·refine zi g11 h fun h=>zQ<|dy<|yE Z (aa.isEq (y:=(iQ 2)) (zm Z Z) (dg g10))<|yE Z (aa.indexAddrA Z Z Z fJ (by decide) (by decide))<|yE Z (zD Z Z Z aV Z Z)<|yE Z (aa.isEq (y:=(iQ 2)) (zm Z Z) (dg g10))<|yE Z (aa.indexAddrA Z Z Z fJ (by decide) (by decide))<|yE Z (zD Z Z Z aV Z Z)<|yE Z (am Z Z Z Z)<|zH Z<|LO.nil<|zT<|zr<|ao<|af<|af<|ao<|af<|af ?_;cases h;obtain rfl:=(m1 _ rfl);have h:=bT b8;cases h;exact ba Z
        ·refine zo g11 h fun h=>zk<|ae<|zT<|zR<|zM Z<|yS Z (am Z Z Z Z)<|mN Z ?_;cases h;exact⟨_,rfl,au 2 ⟨Z,Z,Z,Z,t_⟩⟩
       ·refine zo g10 h fun h=>zg h fun q1 h=>dy<|yE Z (aa.isEq (y:=(iQ 3)) (zm Z Z) (dg q1))<|yE Z (aa.indexAddrA Z Z Z fJ (by decide) (by decide))<|yE Z (zD Z Z Z aV Z Z)<|yE Z (aa.isEq (y:=(iQ 3)) (zm Z Z) (dg q1))<|yE Z (aa.indexAddrA Z Z Z fJ (by decide) (by decide))<|yE Z (zD Z Z Z aV Z Z)<|yE Z (am Z Z Z Z)<|LO.nil<|zT ?_;refine zX Z (fun g12=>?_)<|fun g12=>?_
        ·refine zi g12 h fun h=>zQ<|dy<|yE Z (aa.isEq (y:=(iQ 3)) (zm Z Z) (dg q1))<|yE Z (aa.indexAddrA Z Z Z fJ (by decide) (by decide))<|yE Z (zD Z Z Z aV Z Z)<|yE Z (aa.isEq (y:=(iQ 3)) (zm Z Z) (dg q1))<|yE Z (aa.indexAddrA Z Z Z fJ (by decide) (by decide))<|yE Z (zD Z Z Z aV Z Z)<|yE Z (am Z Z Z Z)<|zH Z<|LO.nil<|zT<|zr<|ao<|af<|af<|ao<|af<|af ?_;cases h;obtain rfl:=(m1 _ rfl);have h:=bT b8;cases h;exact ba Z
        ·refine zo g12 h fun h=>zk<|ae<|zT<|zR<|zM Z<|yS Z (am Z Z Z Z)<|mN Z ?_;cases h;exact⟨_,rfl,au 2 ⟨Z,Z,Z,Z,t_⟩⟩
    ·refine zo g5 h fun h=>zq<|aj<|aj<|zy<|zT ?_;cases h;obtain rfl:=(m1 _ rfl);exact⟨_,rfl,au 2 ⟨Z,t_⟩⟩
   ·obtain rfl:=f8;have h:=cU b8;clear p8;refine zT<|LW.weak u8<|qR<|mN Z<|zr ?_;cases h;exact ba Z
def yD (c:Cf)(l:List Bk)(v:List Vt)(id:ID):Option Int:=(Ko l).bind fun v1=>(xY l v1).bind fun v2=>bif !v2 then some 0 else (D3 c l v1 v id).bind fun v3=>some v3
theorem Ok {l:List Bk}{v:List Vt}{r_:Int}(h:yD c l v id=some r_):aq prog 216 [gF c,.slice 5 (l.map ay),.slice 4 (v.map aO),aX id] [.int .i64 r_]:=by
 refine zh Tryz.func216 Z Z Z Z ?_;unfold yD at h;refine qR<|yS Z (bv Z Z Z Z Z)<|yS Z (bv Z Z Z Z Z)<|mN Z<|qR<|zM Z<|zb h fun v1 a1 h=>yS Z (yP Z Z Z (P7 a1) dB)<|mN Z<|qR<|zM Z<|zM Z<|zb h fun v2 a2 h=>yS Z (yP Z Z Z (L0 a2) bR)<|mN Z<|zQ<|qR<|zM Z<|yS Z (aa.not Z Z)<|nT ?_;refine zX Z (fun g1=>?_)<|fun g1=>?_
 ·refine zi g1 h fun h=>qR<|mN Z<|LW.ret<|af ?_;cases h;exact ba Z
 ·refine zo g1 h fun h=>zk<|zT<|qR<|yS Z (zD Z Z Z bd Z Z)<|zM Z<|zM Z<|zM Z<|yS Z (zD Z Z Z aG Z Z)<|zb h fun v3 a3 h=>yS Z (yP Z Z Z (NL a3) Cn)<|mN Z<|zr ?_;cases h;exact ba Z
def CX (c:Cf)(w:Vw)(slot:Int)(id:ID):Option Int:=(vR c w.V slot).bind fun v1=>(yD c w.B v1 id).bind fun v2=>some v2
theorem Oh {r_:Int}(h:CX c w slot id=some r_):aq prog 177 [gF c,iW w,.int .i64 slot,aX id] [.int .i64 r_]:=by
 refine zh Tryz.func177 Z Z Z Z ?_;unfold CX at h;refine qR<|yS Z (bv Z Z Z Z Z)<|yS Z (bv Z Z Z Z Z)<|yS Z (bv Z Z Z Z Z)<|mN Z<|zQ<|dy<|yE Z (zD Z Z Z bd Z Z)<|yE Z (zA Z Z aL)<|yE Z (zD Z Z Z bL Z Z)<|yE Z (zD Z Z Z bd Z Z)<|yE Z (zA Z Z aS)<|yE Z (zD Z Z Z cq Z Z)<|zH Z<|zb h fun v1 a1 h=>yE Z (yP Z Z Z (KD a1) oU)<|yE Z (zD Z Z Z aG Z Z)<|zb h fun v2 a2 h=>yE Z (yP Z Z Z (Ok a2) wL)<|zH Z<|LO.nil<|zT<|zr ?_;cases h;exact ba Z
def yv (c:Cf)(w:Vw)(slot:Int)(id:ID):Option Bool:=(Lr c slot).bind fun v1=>(MW c v1).bind fun v2=>(CX c w slot id).bind fun v3=>(yy (i64.wrap (2*v3)) c.Den v2 (i64.wrap (c.Den+(i64.wrap (2*c.Num))))).bind fun v4=>some v4
theorem Oc (h:yv c w slot id=some r_):aq prog 137 [gF c,iW w,.int .i64 slot,aX id] [.bool r_]:=by
 refine zh Tryz.func137 Z Z Z Z ?_;unfold yv at h;refine qR<|yS Z (bv Z Z Z Z Z)<|yS Z (bv Z Z Z Z Z)<|yS Z (bv Z Z Z Z Z)<|mN Z<|zQ<|dy<|yE Z (zD Z Z Z bd Z Z)<|yE Z (zD Z Z Z bd Z Z)<|zH Z<|zb h fun v1 a1 h=>yE Z (yP Z Z Z (QR a1) bR)<|zb h fun v2 a2 h=>yE Z (yP Z Z Z (Rd a2) bR)<|zH Z<|LO.nil<|zT<|zQ<|dy<|yE Z (zD Z Z Z bd Z Z)<|yE Z (zD Z Z Z aI Z Z)<|zH Z<|yE Z (zD Z Z Z aG Z Z)<|zb h fun v3 a3 h=>yE Z (yP Z Z Z (Oh a3) wL)<|yE Z (am Z Z Z Z)<|yE Z (zA Z Z kT)<|yE Z (zD Z Z Z aV Z Z)<|zH Z<|yE Z (zA Z Z kT)<|yE Z (zD Z Z Z aV Z Z)<|yE Z (zA Z Z sd)<|yE Z (zD Z Z Z aV Z Z)<|yE Z (am Z Z Z Z)<|yE Z (am Z Z Z Z)<|zb h fun v4 a4 h=>yE Z (yP Z Z Z (Og a4) wL)<|zH Z<|LO.nil<|zT<|qR<|zM Z<|mN Z<|zr ?_;cases h;exact ba Z
structure jC where
 i:Int
def qo (c:Cf)(w:Vw)(slot:Int)(v1:(List ID))(x1:jC):Option (jC⊕(jC⊕(ID×Bool))):=bif decide ((i64.wrap (x1.i+1))<(v1.length:Int))then (ix v1 x1.i).bind fun y1=>(yv c w slot y1).bind fun v3=>bif v3 then (ix v1 x1.i).bind fun y2=>some (.inr (.inr (y2,true)))else some (.inl (jC.mk (i64.wrap (x1.i+1))))else some (.inr (.inl (jC.mk x1.i)))
def yr (c:Cf)(w:Vw)(slot:Int)(head:ID):Option (ID×Bool):=(MS w.B head).bind fun v1=>(iter (qo c w slot v1) aY (jC.mk 0)).bind fun b_v2=>Sum.elim (fun _=>some ((0,0),false)) some b_v2
theorem Oa {r_:ID×Bool}(h:yr c w slot head=some r_):aq prog 96 [gF c,iW w,.int .i64 slot,aX head] [aX r_.1,.bool r_.2]:=by
 refine zh Tryz.func96 Z Z Z Z ?_;unfold yr at h;refine qR<|yS Z (bv Z Z Z Z Z)<|yS Z (bv Z Z Z Z Z)<|yS Z (bv Z Z Z Z Z)<|yS Z (ze Z gT Z Z)<|mN Z<|qR<|yS Z (zA Z Z aL)<|yS Z (zD Z Z Z bL Z Z)<|yS Z (zD Z Z Z aG Z Z)<|zb h fun v1 a1 h=>yS Z (yP Z Z Z (Q9 a1) bR)<|mN Z<|zQ<|qR<|mN Z ?_;obtain⟨w2,p2,q2⟩:=zB h;clear h;refine LW.tailB (b:=w2) (E:=fun v2=>[(8,.ptr 3 0),(9,(bQ false))]) (O:=fun v2=>[.box (cd c),.box (cE w),.box [(uQ head.1),(uQ head.2)],.box [(uQ 0),(uQ 0)]]) ?_<|fun v2 f2 e2 K2 u2=>?_
 ·refine LW.block ?_;refine LW.iterB (E:=fun x1:jC=>[(2,(iQ slot)),(4,.ptr 0 0),(5,.ptr 1 0),(8,.ptr 3 0),(9,(bQ false)),(10,.p (.slice 2 (v1.map aX))),(11,(iQ x1.i))]) (O:=fun x1=>[.box (cd c),.box (cE w),.box [(uQ head.1),(uQ head.2)],.box [(uQ 0),(uQ 0)]]) p2 (au 4 ⟨Z,Z,Z,Z,Z,Z,Z,t_⟩)<|fun x1 z1 h m1=>?_;unfold qo at h;refine zQ<|qR<|zM Z<|yS Z (am Z Z Z Z)<|zM Z<|yS Z (cx Z Z)<|yS Z (am Z Z Z Z)<|nT ?_;refine zX Z (fun g1=>?_)<|fun g1=>?_
  ·refine zi g1 h fun h=>zk<|zT<|zQ<|zl<|zQ<|dy<|yE Z (zD Z Z Z bd Z Z)<|yE Z (zD Z Z Z aI Z Z)<|zH Z<|zH Z<|zH Z<|zb h fun y1 j1 h=>yE Z (zx Z Z Z fH j1 Z)<|yE Z (bS Z Z Z aG Z Z)<|zb h fun v3 a3 h=>yE Z (yP Z Z Z (Oc a3) wL)<|zH Z<|LO.nil<|zT<|qR<|mN Z ?_;refine zX Z (fun g2=>?_)<|fun g2=>?_
   ·refine zi g2 h fun h=>qR<|zM Z<|zM Z<|zb h fun y2 j2 h=>yS Z (zx Z Z Z fH j2 Z)<|yS Z (bS Z Z Z aG Z Z)<|yS Z (zs Z Z Z Z aG Z Z Z Z)<|mN Z<|zr<|ao<|af<|af<|ao<|af<|af ?_;cases h;obtain rfl:=(m1 _ rfl);have h:=bT q2;cases h;exact zf (.two (eh Z Z) (.tmp Z))<|⟨_,rfl,bR⟩
   ·refine zo g2 h fun h=>zk<|ae<|zT<|zR<|zM Z<|yS Z (am Z Z Z Z)<|mN Z ?_;cases h;exact⟨_,rfl,au 4 ⟨Z,Z,Z,Z,Z,Z,Z,t_⟩⟩
  ·refine zo g1 h fun h=>zq<|aj<|aj<|zy<|zT ?_;cases h;obtain rfl:=(m1 _ rfl);exact⟨_,rfl,au 4 ⟨Z,Z,t_⟩⟩
 ·obtain rfl:=f2;have h:=cU q2;clear p2;refine zT<|LW.weak u2<|qR<|yS Z (aa.build Z nE Z Z Z)<|yS Z (zs Z Z Z Z aG Z Z Z Z)<|mN Z<|zr ?_;cases h;exact zf (.two (eh Z Z) (.tmp Z))<|⟨_,rfl,bR⟩
def C1 (n:Nd)(w:Vw):Option Vw:=(xQ n).bind fun v1=>(GP w v1).bind fun v2=>some v2
theorem Mj {n:Nd}{r_:Vw}(h:C1 n w=some r_):LC prog 148 [.p (dH n),.ptr 0 0] [.box (cE w)] (Is (.tup []) [.box (cE r_)]):=by
 refine eP Tryz.func148 Z Z Z ?_;unfold C1 at h;refine qR<|yS Z (bv Z Z Z Z Z)<|nT<|LW.drawLast (m:=4) (by kernel_rfl) (by kernel_rfl) (by kernel_rfl)<|yE Z (zD Z Z Z aI Z Z)<|yE Z (zD Z Z Z aP Z Z)<|zb h fun v1 a1 h=>yE Z (yP Z Z Z (Nx a1) dB)<|zb h fun v2 a2 h=>yE Z (yP Z Z Z (L8 a2) bR)<|LO.nil<|yS Z (zs Z Z Z Z aI Z Z Z Z)<|zN ?_;obtain rfl:=zJ h;exact iL (env':=[]) (H':=[.box (cE v2)]) (au 1 trivial) .none<|⟨rfl,rfl⟩
structure eQ where
 t8:Int
 o0:Vw
def jp (l:List Nd)(x1:eQ):Option (eQ⊕eQ):=bif decide (x1.t8<(l.length:Int))then (ix l x1.t8).bind fun y1=>(C1 y1 x1.o0).bind fun v2=>some (.inl (eQ.mk (i64.wrap (x1.t8+1)) v2))else some (.inr (eQ.mk x1.t8 x1.o0))
def ud (l:List Nd)(w:Vw):Option Vw:=(iter (jp l) aY (eQ.mk 0 w)).bind fun v1=>some v1.o0
theorem JH {l:List Nd}{r_:Vw}(h:ud l w=some r_):LC prog 147 [.p (.slice 12 (l.map dH)),.fn 148 [] [.ptr 0 0]] [.box (cE w)] (Is (.tup []) [.box (cE r_)]):=by
 refine eP Tryz.func147 Z Z Z ?_;unfold ud at h;refine qR<|zM Z<|yS Z (cx Z Z)<|mN Z ?_;obtain⟨v1,p1,q1⟩:=zB h;clear h;refine LW.tail (E:=[]) (O:=[.box (cE v1.o0)]) ?_<|fun e1 K1 u1=>?_
 ·refine LW.block ?_;refine LW.iterB (E:=fun x1:eQ=>[(1,.fn 148 [] [.ptr 0 0]),(6,.p (.slice 12 (l.map dH))),(7,.p (.int .i64 (l.length:Int))),(8,(iQ x1.t8))]) (O:=fun x1=>[.box (cE x1.o0)]) p1 (au 1 ⟨Z,Z,Z,Z,t_⟩)<|fun x1 z1 h m1=>?_;unfold jp at h;refine qR<|yS Z (am Z Z Z Z)<|nT<|zQ ?_;refine zX Z (fun g1=>?_)<|fun g1=>?_
  ·refine zi g1 h fun h=>zk<|zT<|zQ<|zl<|qR<|zb h fun y1 j1 h=>yS Z (zx Z Z Z dM j1 Z)<|yS Z (bS Z Z Z aP Z Z)<|yS Z (ze Z eX Z Z)<|yS Z (zs Z Z Z Z aP Z Z Z Z)<|nT<|zR<|zM Z<|yS Z (zD Z Z Z aP Z Z)<|zb h fun v2 a2 h=>yS Z (yC Z Z Z (LC.pre (Mj a2) Z Z Z))<|zN<|ae<|zT<|zR<|yS Z (am Z Z Z Z)<|mN Z ?_;cases h;exact⟨_,rfl,au 1 ⟨Z,Z,Z,Z,t_⟩⟩
  ·refine zo g1 h fun h=>zq<|aj<|aj<|zy<|zT ?_;cases h;obtain rfl:=(m1 _ rfl);exact au 1 trivial
 ·have h:=q1;clear p1;cases h;exact iL u1 .none ⟨rfl,rfl⟩
def xN (l:List Nd):Option Vw:=(ud l (Vw.mk [] [])).bind fun v1=>some v1
theorem Nv {l:List Nd}{r_:Vw}(h:xN l=some r_):aq prog 107 [.slice 12 (l.map dH)] [iW r_]:=by
 refine zh Tryz.func107 Z Z Z Z ?_;unfold xN at h;refine qR<|yS Z (ze Z d7 Z Z)<|nT<|zQ<|LW.ent (bW.zsCell (i:=0) (j:=0) (m:=5) Z Z Z Z)<|LW.ent (bW.zsCell (i:=0) (j:=1) (m:=4) Z Z Z Z)<|zR<|zM Z<|yS Z (aa.makeFunc Z Z Z)<|zb h fun v1 a1 h=>yS Z (yC Z Z Z (JH a1))<|nT<|qR<|yS Z (zD Z Z Z aI Z Z)<|yS Z (zs Z Z Z Z aI Z Z Z Z)<|nT<|zr ?_;cases h;exact zf (.one (eh Z Z)) zv
structure M5 where
 i:Int
structure M6 where
 i:Int
def pE (k:Int)(w:Vw):Prop:=(w.B.length:Int)<=k/\(w.V.length:Int)<=k
def kN (k:Int)(n:Nd):Prop:=pE k n.V/\pE k n.In/\n.O.length<=10/\∀o∈n.O,pE k o.V
def fu (n:Nd):Vw:=cQ n.V n.In
theorem sj {n:Nd}(h:kN k n):((fu n).B.length:Int)<=2*k/\((fu n).V.length:Int)<=2*k:=by
 obtain⟨⟨a1,a2⟩,⟨b1,b2⟩,-⟩:=h;have h1:=dq n.In.B n.V.B;have h2:=dq n.In.V n.V.V;unfold fu cQ;simp only;omega
theorem Ft {n:Nd}(h:kN k n)(hk:k<=1000):xQ n=some (fu n):=by
 obtain⟨⟨a1,a2⟩,⟨b1,b2⟩,-⟩:=h;unfold xQ;rw[pz];rfl
def mz (l:List Nd)(w:Vw):Vw:=l.foldl (fun w n=>cQ w (fu n)) w
theorem wa (l:List Nd)(n:Nd)(w:Vw):mz (l++[n]) w=cQ (mz l w) (fu n):=by unfold mz;rw[List.foldl_append];rfl
theorem qz {k:Int}:∀{l:List Nd} {w:Vw},(∀n∈l,kN k n)->((mz l w).B.length:Int)<=w.B.length+l.length*(2*k)/\((mz l w).V.length:Int)<=w.V.length+l.length*(2*k)
 |[],w,_=>by simp[mz]
 |n::r,w,h=>by
  have h1:=sj (h n (.head _));have h2:=qz (l:=r) (w:=cQ w (fu n)) fun m hm=>h m (.tail _ hm);have h3:=dq (fu n).B w.B;have h4:=dq (fu n).V w.V;have e:mz (n::r) w=mz r (cQ w (fu n)):=rfl;have e1:(cQ w (fu n)).B=c8 w.B (fu n).B:=rfl;have e2:(cQ w (fu n)).V=c8 w.V (fu n).V:=rfl;rw[e,List.length_cons,Int.natCast_add,Int.add_mul];rw[e1,e2]at h2;omega
theorem wb :∀{l:List Nd} {w:Vw},w.B.Nodup->w.V.Nodup->(mz l w).B.Nodup/\(mz l w).V.Nodup
 |[],w,h1,h2=>⟨h1,h2⟩
 |n::r,w,h1,h2=>wb (l:=r) (w:=cQ w (fu n)) (iX h1) (iX h2)
theorem Bx {k0:Int}{l:List Nd}(h0:0<=k0)(hk0:k0<=1000)(hl:(l.length:Int)*(2*k0)<=40000)(hl2:l.length<=100000)(hs:∀n∈l,kN k0 n)(h1:w.B.length<=1000)(h2:w.V.length<=1000):ud l w=some (mz l w):=by
 have e:=av (step:=jp l) (n:=l.length) (fun k=>eQ.mk (k:Int) (mz (l.take k) w)) (eQ.mk (l.length:Int) (mz l w)) (fun k hk=>by
  obtain⟨y,hy,hm⟩:=aA hk
  have et:l.take (k+1)=l.take k++[y]:=by rw[take_add_one,hy];rfl
  have hsy:=hs y hm;have hlen:=qz (l:=l.take k) (w:=w) fun m hm=>hs m (List.mem_of_mem_take hm);rw[length_take]at hlen;have hkn:=sj hsy;have hmul:((Min.min k l.length:Nat):Int)*(2*k0)<=l.length*(2*k0):=Int.mul_le_mul_of_nonneg_right (by omega) (by omega);unfold jp;simp only;rw[eN,aw hy,ob,et,wa,ah (n:=k)];unfold C1;rw[Ft hsy (by omega),ob,pz,ob]
  rfl) (by
  unfold jp;simp only
  rw[gt,take_length]) (by omega)
 have e':iter (jp l) aY (eQ.mk 0 w)=_:=e;unfold ud;rw[e',ob]
theorem DV {l:List Nd}(hl:l.length<=40)(hs:∀n∈l,kN 500 n):xN l=some (mz l ⟨[],[]⟩):=by
 unfold xN;rw[Bx (k0:=500) (by omega) (by omega) (by omega) (by omega) hs (Nat.zero_le _) (Nat.zero_le _)];rfl
theorem Fu (n:Int):xR n=some (decide (0<=n/\n<=4611686018427387904)):=by
 unfold xR;by_cases h:0<=n
 ·rw[aQ (show n>=0 from h),ct];congr 1;exact decide_eq_decide.2 ⟨fun h2=>⟨h,h2⟩,fun h2=>h2.2⟩
 ·rw[aR (show¬n>=0 from h),cf,aR fun h2=>h h2.1]
theorem Ju {l:List Int}(hl:l.length<=1000)(h:∀x∈l,0<=x/\x<=4611686018427387904):xO l=some true:=by
 have e:=av (step:=oE l) (n:=l.length) (fun k=>iB.mk (k:Int)) (.inl (iB.mk (l.length:Int))) (fun k hk=>by
  obtain⟨y,hy,hm⟩:=aA hk;unfold oE CC;simp only
  rw[eN,aw hy,ob,Fu,ob,ob,aQ (h y hm),Bool.not_true,cf,ah (n:=k)]) (by
  unfold oE;simp only
  rw[gt]) (by omega)
 have e':iter (oE l) aY (iB.mk 0)=_:=e;unfold xO P1 Jt;rw[e',ob,sl,ob,ob];rfl
theorem rQ {x:Int}(h0:0<=x)(h1:x<=18446744073709551615:=by omega):bits .and .u64 x 4294967295=x % 4294967296:=by
 obtain⟨n,rfl⟩:∃n:Nat,x=n:=⟨x.toNat,by omega⟩;have e:bits .and .u64 (n:Int) 4294967295=u64.wrap ((BitVec.ofInt 64 (n:Int) &&& BitVec.ofInt 64 4294967295).toNat:Int):=rfl
 have e2:(BitVec.ofInt 64 4294967295).toNat=2 ^ 32-1:=by decide
 have e3:(BitVec.ofInt 64 (n:Int)).toNat=n:=by
  rw[BitVec.toNat_ofInt];omega
 rw[e,BitVec.toNat_and,e2,e3,Nat.and_two_pow_sub_one_eq_mod,gR];omega
theorem sK {x y:Int}(hx:0<=x)(hx1:x<=26388279066624)(hy:0<=y)(hy1:y<=3000):xS x y=some (0,x*y):=by
 have e:∀z,u64.wrap z=z % 18446744073709551616:=fun z=>rfl
 have hp:((2:Int) ^ (min (toNat 32) u64.bits))=4294967296:=by decide
 have hd:∀z:Int,z.fdiv 4294967296=z / 4294967296:=fun z=>Int.fdiv_eq_ediv_of_nonneg z (by omega)
 have h0:y / 4294967296=0:=by omega
 have h1:y % 4294967296=y:=by omega
 unfold xS;rw[hp,hd,hd,hd,hd,hd,rQ (x:=y) hy,rQ (x:=x) hx,h0,h1];have a1:0<=x / 4294967296*y:=Int.mul_nonneg (by omega) hy;have a2:x / 4294967296*y<=6144*3000:=Int.mul_le_mul (by omega) hy1 hy (by omega);have a3:0<=x % 4294967296*y:=Int.mul_nonneg (by omega) hy;have a4:x % 4294967296*y<=4294967295*3000:=Int.mul_le_mul (by omega) hy1 hy (by omega);have a5:0<=x*y:=Int.mul_nonneg hx hy;have a6:x*y<=26388279066624*3000:=Int.mul_le_mul hx1 hy1 hy (by omega);rw[Int.mul_zero,Int.mul_zero];generalize x / 4294967296*y=q at a1 a2⊢;generalize x % 4294967296*y=p at a3 a4⊢;generalize x*y=r at a5 a6⊢
 have ht:u64.wrap (u64.wrap q+u64.wrap p / 4294967296)=q+p / 4294967296:=by simp only[e];omega
 rw[ht,rQ (by omega)];refine congrArg some<|Prod.ext ?_ ?_
 ·simp only[e];omega
 ·simp only[e];omega
theorem Fq {a b c d:Int}(ha:0<=a/\a<=26388279066624)(hb:0<=b/\b<=3000)(hc:0<=c/\c<=26388279066624)(hd:0<=d/\d<=3000):xM a b c d=some (decide (a*b>c*d)):=by
 unfold xM;rw[Ju (by simp) (by simp;omega),ob,Bool.not_true,cf];unfold xP;rw[gR ha.1,gR hb.1,gR hc.1,gR hd.1,sK ha.1 ha.2 hb.1 hb.2,ob,ob,sK hc.1 hc.2 hd.1 hd.2,ob,ob];simp only;rw[x5,ob];generalize a*b=x;generalize c*d=y;unfold mB;by_cases h:x=y
 ·subst h;simp
 ·have hb:(x==y)=false:=beq_eq_false_iff_ne.2 h;by_cases h2:x>y
  ·simp[hb,h2,show¬x<y by omega]
  ·simp[hb,h2,show x<y by omega]
def Q4 :Of:=Of.mk 0 0 (Bk.mk 0 0 (0,0) 0) (Vw.mk [] [])
theorem GT {n:Nat}(hn:n<=1000):zw (n:Int)=some (List.replicate n Q4):=by
 have e:i64.wrap ((n:Int)-(i64.wrap (0-0)))=n:=by
  rw[show i64.wrap (0-0)=0 from by decide,cR];omega
 unfold zw;rw[aR (show¬(n:Int)<0 by omega),cf,e];by_cases h0:(n:Int)>0
 ·rw[aQ h0,ct,show EN (n:Int) 104=true from aQ (by omega),ct];simp[Q4]
 ·rw[aR h0,cf]
  obtain rfl:n=0:=by omega
  rfl
theorem F8 {a b:List Of}(h:a.length+b.length<=1000):yl [a,b]=some (a++b):=by
 have e1:=av (step:=jx [a,b]) (n:=2) (fun k=>match k with|0=>ey.mk 0 0|1=>ey.mk (a.length:Int) 1|_=>ey.mk ((a.length+b.length:Nat):Int) 2) (ey.mk ((a.length+b.length:Nat):Int) 2) (fun k hk=>by
  match k,hk with
  |0,_=>
   unfold jx;simp only;rw[aQ (show(0:Int)<(([a,b]:List (List Of)).length:Int) by simp),ct,show ix [a,b] 0=some a from rfl,ob,cR,aR (show¬(0:Int)+(a.length:Int)<0 by omega),cf,Int.zero_add];rfl
  |1,_=>
   unfold jx;simp only;rw[aQ (show(1:Int)<(([a,b]:List (List Of)).length:Int) by simp),ct,show ix [a,b] 1=some b from rfl,ob,cR,aR (show¬(a.length:Int)+(b.length:Int)<0 by omega),cf,Int.natCast_add]
   rfl) (by
  unfold jx;simp only
  rw[aR (show¬(2:Int)<(([a,b]:List (List Of)).length:Int) by simp),cf]) (by omega)
 have e1':iter (jx [a,b]) aY (ey.mk 0 0)=_:=e1;obtain⟨r,hr⟩:∃r,r=List.replicate (a.length+b.length) Q4:=⟨_,rfl⟩
 have hrl:r.length=a.length+b.length:=by rw[hr];simp
 have p1:gX r 0 a=a++r.drop a.length:=by unfold gX;simp
 have p1l:(gX r 0 a).length=a.length+b.length:=by rw[p1];simp;omega
 have p2:(gX (gX r 0 a) a.length b).take (a.length+b.length)=a++b:=by
  have e:(gX r 0 a).take a.length=a:=by rw[p1,List.take_left'];rfl
  unfold gX at e⊢;rw[e,List.take_left'];simp
 have p2l:(gX (gX r 0 a) a.length b).length=a.length+b.length:=by rw[A0 (by rw[p1l];omega),p1l]
 have e2:=av (step:=jy [a,b]) (n:=2) (fun k=>match k with|0=>ez.mk 0 0 r|1=>ez.mk a.length 1 (gX r 0 a)|_=>ez.mk (a.length+b.length) 2 (gX (gX r 0 a) a.length b)) (ez.mk (a.length+b.length) 2 (gX (gX r 0 a) a.length b)) (fun k hk=>by
  match k,hk with
  |0,_=>
   unfold jy;simp only;rw[aQ (show(0:Int)<(([a,b]:List (List Of)).length:Int) by simp),ct,show ix [a,b] 0=some a from rfl,ob,aQ (show 0+a.length<=r.length by omega),ct,Nat.zero_add];rfl
  |1,_=>
   unfold jy;simp only;rw[aQ (show(1:Int)<(([a,b]:List (List Of)).length:Int) by simp),ct,show ix [a,b] 1=some b from rfl,ob,aQ (show a.length+b.length<=(gX r 0 a).length by omega),ct]
   rfl) (by
  unfold jy;simp only
  rw[aR (show¬(2:Int)<(([a,b]:List (List Of)).length:Int) by simp),cf]) (by omega)
 have e2':iter (jy [a,b]) aY (ez.mk 0 0 r)=_:=e2;unfold yl;rw[e1',ob];simp only;rw[GT h,ob,<-hr,e2',ob];simp only;rw[show Nat.ble (a.length+b.length) (gX (gX r 0 a) a.length b).length=true from Nat.ble_eq_true_of_le (by omega),ct,p2]
def i5 (o:Of):Prop:=o.V.B.length<=1000/\o.V.V.length<=1000
theorem tP {v:Vw}(h1:v.B.length<=1000:=by omega)(h2:v.V.length<=1000:=by omega):tO v=some v:=by
 unfold tO;rw[aC,ct,aC,ct]
theorem tR {o:Of}(h:i5 o):tQ o=some o:=by
 unfold tQ;rw[tP h.1 h.2];rfl
def IQ (t:Int)(c:Cf)(slot:Int)(o:Of):Bool:=decide (¬t.tmod 3=2/\o.Slot=slot/\o.From=oR c slot)
def m8 (t:Int)(c:Cf)(slot:Int)(s:List Of×Bool)(o:Of):List Of×Bool:=if IQ t c slot o=true then(if s.1.length=8 then(s.1,true)else(s.1++[o],s.2))else s
def hY (t:Int)(c:Cf)(slot:Int)(full:Bool)(l:List Of):List Of×Bool:=l.foldl (m8 t c slot) ([],full)
theorem wo (t:Int)(c:Cf)(slot:Int)(full:Bool)(l:List Of)(o:Of):hY t c slot full (l++[o])=m8 t c slot (hY t c slot full l) o:=by unfold hY;rw[List.foldl_append];rfl
theorem Dy {t:Int}{c:Cf}{slot:Int}:∀(l:List Of) (s:List Of×Bool),s.1.length<=8->(l.foldl (m8 t c slot) s).1.length<=8/\(∀o∈(l.foldl (m8 t c slot) s).1,o∈s.1\/(o∈l/\IQ t c slot o=true))/\(s.2=true->(l.foldl (m8 t c slot) s).2=true)
 |[],s,h=>⟨h,fun o ho=>.inl ho,id⟩
 | x ::r,s,h=>by
  rw[List.foldl_cons]
  have hs:(m8 t c slot s x).1.length<=8/\(∀o∈(m8 t c slot s x).1,o∈s.1\/(o=x/\IQ t c slot o=true))/\(s.2=true->(m8 t c slot s x).2=true):=by
   unfold m8;split
   ·rename_i hk;split
    ·exact⟨h,fun o ho=>.inl ho,fun _=>rfl⟩
    ·refine⟨by simp only[List.length_append,length_singleton];omega,fun o ho=>?_,id⟩;rcases List.mem_append.1 ho with ho|ho
     ·exact .inl ho
     ·rw[List.mem_singleton]at ho;subst ho;exact .inr ⟨rfl,hk⟩
   ·exact⟨h,fun o ho=>.inl ho,id⟩
  obtain⟨h1,h2,h3⟩:=Dy r (m8 t c slot s x) hs.1;refine⟨h1,fun o ho=>?_,fun e=>h3 (hs.2.2 e)⟩;rcases h2 o ho with h4|⟨h4,h5⟩
  ·rcases hs.2.1 o h4 with h5|⟨rfl,h5⟩
   ·exact .inl h5
   ·exact .inr ⟨.head _,h5⟩
  ·exact .inr ⟨.tail _ h4,h5⟩
theorem gw (t:Int)(c:Cf)(slot:Int)(full:Bool)(l:List Of):(hY t c slot full l).1.length<=8/\(∀o∈(hY t c slot full l).1,o∈l/\IQ t c slot o=true)/\(full=true->(hY t c slot full l).2=true):=by
 obtain⟨h1,h2,h3⟩:=Dy (t:=t) (c:=c) (slot:=slot) l ([],full) (by simp);refine⟨h1,fun o ho=>?_,h3⟩;rcases h2 o ho with h4|h4
 ·simp at h4
 ·exact h4
theorem GU {l:List Of}(hl:x.O.length+l.length<=1000)(hs:∀o∈x.O++l,i5 o):zE l x c slot=some (hY x.Tick c slot x.Full (x.O++l)):=by
 unfold zE;rw[F8 hl,ob];generalize hL:x.O++l=L at hs
 have hLl:L.length<=1000:=by rw[<-hL,List.length_append];omega
 have e:=av (step:=lE x c slot L) (n:=L.length) (fun k=>eG.mk (k:Int) (hY x.Tick c slot x.Full (L.take k)).2 (hY x.Tick c slot x.Full (L.take k)).1) (eG.mk (L.length:Int) (hY x.Tick c slot x.Full L).2 (hY x.Tick c slot x.Full L).1) (fun k hk=>by
  obtain⟨y,hy,hm⟩:=aA hk
  have et:L.take (k+1)=L.take k++[y]:=by rw[take_add_one,hy];rfl
  have hf:=gw x.Tick c slot x.Full (L.take k);unfold lE;simp only;rw[eN,aw hy,ob,et,wo,ah (n:=k)];generalize hY x.Tick c slot x.Full (L.take k)=s at hf⊢
  have hgate:(bif (x.Tick.tmod 3)==2 then some ((x.Tick.tmod 3)==2)else bif y.Slot != slot then some (y.Slot != slot)else(Jr c slot).bind fun v4=>some (y.From != v4))=some (!IQ x.Tick c slot y):=by
   rw[wT,ob];unfold IQ;by_cases h1:x.Tick.tmod 3=2
   ·rw[beq_iff_eq.2 h1,ct,aR fun h=>h.1 h1];rfl
   ·rw[beq_eq_false_iff_ne.2 h1,cf];by_cases h2:y.Slot=slot
    ·rw[show(y.Slot != slot)=false by simp[h2],cf];by_cases h3:y.From=oR c slot
     ·rw[show(y.From != oR c slot)=false by simp[h3],aQ ⟨h1,h2,h3⟩];rfl
     ·rw[show(y.From != oR c slot)=true by simp[h3],aR fun h=>h3 h.2.2];rfl
    ·rw[show(y.Slot != slot)=true by simp[h2],ct,aR fun h=>h2 h.2.1];rfl
  rw[hgate,ob];unfold m8
  cases hk2:IQ x.Tick c slot y with
  |false=>rw[Bool.not_false,ct];rfl
  |true=>
   rw[Bool.not_true,cf,i1_ rfl];by_cases h8:s.1.length=8
   ·rw[show((s.1.length:Int)==8)=true by simp[h8],ct,i1_ h8]
   ·rw[show((s.1.length:Int)==8)=false by rw[beq_eq_false_iff_ne];omega,cf,tR (hs y hm),ob,aC (by simp only[length_singleton];omega),ct,i0_ h8]) (by
  unfold lE;simp only
  rw[gt,take_length]) (by omega)
 have e':iter (lE x c slot L) aY (eG.mk 0 x.Full [])=_:=e;rw[e',ob]
theorem oS (c:Cf)(w i:Vw)(s:Int):w.B.length<=(aN c w i s).1.B.length/\(aN c w i s).1.B.length<=w.B.length+60/\w.V.length<=(aN c w i s).1.V.length/\(aN c w i s).1.V.length<=w.V.length+240/\(aN c w i s).2.1.B.length<=i.B.length/\(aN c w i s).2.1.V.length<=i.V.length:=by
 by_cases h:i4 c w
 ·have ht:=Ip h i s;have hl:=Iq ht;have h1:=ht.may.lenB;have h2:=ht.may.lenV;omega
 ·have e:aN c w i s=(w,i,false):=by unfold aN;rw[i0_ h]
  rw[e];simp only;omega
theorem oD {inp:Vw}{v:Vw}(h1:v.B.length<=1000:=by omega)(h2:v.V.length<=1000:=by omega)(h3:inp.B.length<=800:=by omega)(h4:inp.V.length<=600:=by omega) :
  nt inp c slot v full=some ((aN c v inp slot).2.1,(aN c v inp slot).1,full||(aN c v inp slot).2.2):=by
 unfold nt;rw[Ly h1 h2 h3 h4,ob];cases full <;>rfl
theorem mg (c:Cf)(w i:Vw)(s:Int):(aN c w i s).1.B.length<=max w.B.length 60/\(aN c w i s).1.V.length<=max w.V.length 240:=by
 by_cases h:i4 c w
 ·have ht:=Ip h i s;have h1:=ht.may.lenB;have h2:=ht.may.lenV;omega
 ·have e:aN c w i s=(w,i,false):=by unfold aN;rw[i0_ h]
  rw[e];simp only;omega
theorem Vw.eta (w:Vw):Vw.mk w.B w.V=w:=rfl
noncomputable def l7 (x:Nd)(c:Cf)(slot:Int):Bk:=⟨slot,x.No,g0 c (aN c x.V x.In slot).1.B (dG c (aN c x.V x.In slot).1.V (i64.wrap (slot-1))),0⟩
noncomputable def cX (x:Nd)(c:Cf)(slot:Int):Vw×Vw×Bool×List Of:=
 if x.No=oR c slot then
  ((aN c (aN c x.V x.In slot).1 ⟨[l7 x c slot],[]⟩ slot).1,(aN c x.V x.In slot).2.1,(x.Full||(aN c x.V x.In slot).2.2)||(aN c (aN c x.V x.In slot).1 ⟨[l7 x c slot],[]⟩ slot).2.2,[⟨slot,x.No,l7 x c slot,(aN c x.V x.In slot).1⟩])
 else(x.V,x.In,x.Full,[])
theorem Eb (h1:x.V.B.length<=500)(h2:x.V.V.length<=500)(h3:x.In.B.length<=500)(h4:x.In.V.length<=500):rM x c slot []=some (cX x c slot):=by
 have hm:=mg c x.V x.In slot;unfold rM cX;rw[wT,ob];by_cases h:x.No=oR c slot
 ·rw[show(x.No != oR c slot)=false by simp[h],cf,i1_ h,oD,ob];simp only;rw[tL (by omega) (by omega),ob];have hs:i5 (Of.mk slot x.No (Bk.mk slot x.No (g0 c (aN c x.V x.In slot).1.B (dG c (aN c x.V x.In slot).1.V (i64.wrap (slot-1)))) 0) (aN c x.V x.In slot).1):=⟨by show(aN c x.V x.In slot).1.B.length<=1000;omega,by show(aN c x.V x.In slot).1.V.length<=1000;omega⟩;rw[tR hs,ob];unfold vO;rw[ob,oD (by omega) (by omega) (by simp) (by simp),ob];rfl
 ·rw[show(x.No != oR c slot)=true by simp[h],ct,i0_ h]
noncomputable def kG (c:Cf)(slot:Int)(s:Vw×Vw×Bool)(o:Of):Vw×Vw×Bool:=
 ((aN c s.1 (cQ o.V ⟨[o.B],[]⟩) slot).1,cQ s.2.1 (aN c s.1 (cQ o.V ⟨[o.B],[]⟩) slot).2.1,s.2.2||(aN c s.1 (cQ o.V ⟨[o.B],[]⟩) slot).2.2)
noncomputable def a8 (x:Nd)(o:List Of)(c:Cf)(slot:Int):Vw×Vw×Bool:=o.foldl (kG c slot) (x.V,x.In,x.Full)
noncomputable def dI (x:Nd)(o:List Of)(c:Cf)(slot:Int):Vw×Vw×Bool:=
 if x.No∈nG c slot then
  ((a8 x o c slot).1,cQ (a8 x o c slot).2.1 ⟨[],[⟨x.No,slot,g0 c (a8 x o c slot).1.B (dG c (a8 x o c slot).1.V (i64.wrap (slot-1)))⟩]⟩,(a8 x o c slot).2.2)
 else a8 x o c slot
theorem u6 (x:Nd)(o:List Of)(c:Cf)(slot:Int)(y:Of):a8 x (o++[y]) c slot=kG c slot (a8 x o c slot) y:=by unfold a8;rw[List.foldl_append];rfl
theorem uR (o:Of):(cQ o.V ⟨[o.B],[]⟩).B.length<=o.V.B.length+1/\(cQ o.V ⟨[o.B],[]⟩).V.length<=o.V.V.length:=by
 have h1:=dq [o.B] o.V.B;have h2:=dq ([]:List Vt) o.V.V;exact⟨h1,h2⟩
theorem si (a b:Vw):(cQ a b).B.length<=a.B.length+b.B.length/\(cQ a b).V.length<=a.V.length+b.V.length:=⟨dq _ _,dq _ _⟩
theorem rx (h1:x.V.B.length<=500)(h2:x.V.V.length<=500)(h3:x.In.B.length<=500)(h4:x.In.V.length<=500):∀(k:Nat) (o:List Of),o.length<=k->(∀y∈o,y.V.B.length<=500/\y.V.V.length<=500)->
  (a8 x o c slot).1.B.length<=500/\(a8 x o c slot).1.V.length<=500/\(a8 x o c slot).2.1.B.length<=500+501*k/\(a8 x o c slot).2.1.V.length<=500+501*k:=by
 intro k
 induction k with
 |zero=>
  intro o ho _;obtain rfl:o=[]:=List.length_eq_zero_iff.1 (by omega);exact⟨h1,h2,le_trans h3 (by omega),le_trans h4 (by omega)⟩
 |succ k ih=>
  intro o ho hs;rcases List.eq_nil_or_concat o with rfl|⟨r,y,rfl⟩
  ·exact⟨h1,h2,le_trans h3 (by omega),le_trans h4 (by omega)⟩
  ·rw[List.concat_eq_append]at ho hs⊢;rw[List.length_append,length_singleton]at ho;obtain⟨a1,a2,a3,a4⟩:=ih r (by omega) fun z hz=>hs z (List.mem_append_left _ hz);have hy:=hs y (List.mem_append_right _ (List.mem_singleton.2 rfl));have hl:=uR y;rw[u6];unfold kG;generalize a8 x r c slot=s at a1 a2 a3 a4⊢;have hm:=mg c s.1 (cQ y.V ⟨[y.B],[]⟩) slot;have hz:=oS c s.1 (cQ y.V ⟨[y.B],[]⟩) slot;have hj:=si s.2.1 (aN c s.1 (cQ y.V ⟨[y.B],[]⟩) slot).2.1;simp only;omega
theorem By {o:List Of}(h1:x.V.B.length<=500)(h2:x.V.V.length<=500)(h3:x.In.B.length<=500)(h4:x.In.V.length<=500)(ho:o.length<=8)(hs:∀y∈o,y.V.B.length<=500/\y.V.V.length<=500) :
  oF x o c slot=some (dI x o c slot):=by
 have e:=av (step:=ik o c slot) (n:=o.length) (fun k=>dK.mk (k:Int) (a8 x (o.take k) c slot).1.B (a8 x (o.take k) c slot).1.V (a8 x (o.take k) c slot).2.1.B (a8 x (o.take k) c slot).2.1.V (a8 x (o.take k) c slot).2.2)
  (dK.mk (o.length:Int) (a8 x o c slot).1.B (a8 x o c slot).1.V (a8 x o c slot).2.1.B (a8 x o c slot).2.1.V (a8 x o c slot).2.2) (fun k hk=>by
  obtain⟨y,hy,hm⟩:=aA hk
  have et:o.take (k+1)=o.take k++[y]:=by rw[take_add_one,hy];rfl
  have hsz:=rx (c:=c) (slot:=slot) h1 h2 h3 h4 8 (o.take k) (by rw[length_take];omega) fun z hz=>hs z (List.mem_of_mem_take hz);have hy2:=hs y hm;have hl:=uR y;unfold ik;simp only;rw[eN,aw hy,ob,et,u6,ah (n:=k)];generalize a8 x (o.take k) c slot=s at hsz⊢;have hz:=oS c s.1 (cQ y.V ⟨[y.B],[]⟩) slot;unfold vO;rw[ob,pz (by simp only[length_singleton];omega) (by simp only[List.length_nil];omega),ob,Vw.eta,Vw.eta,oD,ob];simp only;rw[pz,ob]
  rfl) (by
  unfold ik;simp only
  rw[gt,take_length]) (by omega)
 have e':iter (ik o c slot) aY (dK.mk 0 x.V.B x.V.V x.In.B x.In.V x.Full)=_:=e;have hsz:=rx (c:=c) (slot:=slot) h1 h2 h3 h4 8 o ho hs;unfold oF dI;rw[e',ob,GK,ob];simp only[Vw.eta];generalize a8 x o c slot=s at hsz⊢;by_cases h:x.No∈nG c slot
 ·rw[aQ h,ct,i1_ h,tL (by omega) (by omega),ob,pz (by simp only[List.length_nil];omega) (by simp only[length_singleton];omega),ob]
 ·rw[aR h,cf,i0_ h]
def nz (c:Cf)(w:Vw)(slot:Int)(id:ID):Prop:=xK c (nG c slot)*(c.Den+2*c.Num)<2*lY c w.B (dG c w.V slot) id*c.Den
instance (c:Cf) (w:Vw) (slot:Int) (id:ID):Decidable (nz c w slot id):=inferInstanceAs (Decidable (_<_))
def p4 (c:Cf)(w:Vw)(slot:Int):List ID->ID×Bool
 |a::b::r=>if nz c w slot a then(a,true)else p4 c w slot (b::r)
 |_=>((0,0),false)
theorem wK {c:Cf}{w:Vw}{slot:Int}:∀l:List ID,(p4 c w slot l).2=true->nz c w slot (p4 c w slot l).1
 |[],h=>by cases h
 |[_],h=>by cases h
 |a::b::r,h=>by
  unfold p4 at h⊢;by_cases hs:nz c w slot a
  ·rw[i1_ hs];exact hs
  ·rw[i0_ hs]at h⊢;exact wK (b::r) h
theorem ve {l:List ID}(h:l.length<2):p4 c w slot l=((0,0),false):=by
 match l,h with
 |[],_=>rfl
 |[_],_=>rfl
theorem DM {l:List ID}{y:ID}(hy:l[0]?=some y)(h:2<=l.length):p4 c w slot l=if nz c w slot y then(y,true)else p4 c w slot (l.drop 1):=by
 match l,h with
 |a::b::r,_=>
  obtain rfl:=Option.some.inj hy;rfl
theorem ym (hm:cZ c)(h1:w.B.length<=1000)(h2:w.V.length<=1000):qk c w slot head=some (p4 c w slot (an w.B head)):=by
 have hg:=qQ c w.V slot;have hc:=rU c slot;unfold qk GY;rw[xT (by omega),ob,Bs,ob,GI (by omega),ob,ob,show few w.B=true from aQ h1,ct];have hwt:=DR c (nG c slot)
 obtain⟨b,hb,rfl⟩:=bw (step:=mw c w) (fun x=>x.v=dG c w.V slot/\x.al=xK c (nG c slot)/\p4 c w slot x.l=p4 c w slot (an w.B head)) (fun x=>x.l.length) (fun r=>r=p4 c w slot (an w.B head)) (by
  rintro⟨l,v,al⟩ ⟨e1,e2,e3⟩;simp only at e1 e2 e3;subst e1 e2;by_cases hl:(l.length:Int)<2
  ·right;refine⟨((0,0),false),?_,by rw[<-e3,ve (by omega)]⟩;unfold mw;simp only;rw[aQ hl,ct]
  ·obtain⟨y,hy,-⟩:=aA (l:=l) (n:=0);have hy':ix l 0=some y:=aw hy;have htop:=DM (c:=c) (w:=w) (slot:=slot) hy (by omega);obtain⟨-,-,-,-,-,m1,m2,m3,m4⟩:=hm;have hon:0<=lY c w.B (dG c w.V slot) y/\lY c w.B (dG c w.V slot) y<=13194139533312:=DR _ _
   have hstep:mw c w ⟨l,dG c w.V slot,xK c (nG c slot)⟩=bif decide (2*lY c w.B (dG c w.V slot) y*c.Den>xK c (nG c slot)*(c.Den+2*c.Num))then some (.inr (y,true))else some (.inl ⟨l.drop 1,dG c w.V slot,xK c (nG c slot)⟩):=by
    unfold mw Jx wX;simp only
    rw[aR hl,cf,hy',ob,CH h1 (by omega),ob,ob,cR,cR (n:=2*c.Num),cR,Fq ⟨by omega,by omega⟩ ⟨by omega,by omega⟩ ⟨by omega,by omega⟩ ⟨by omega,by omega⟩,ob,ob,ob,
     show xp l 1 l.length=true from aQ (by omega),ct]
    rfl
   cases hd:decide (2*lY c w.B (dG c w.V slot) y*c.Den>xK c (nG c slot)*(c.Den+2*c.Num))with
   |true=>rw[hd,ct]at hstep;exact .inr ⟨_,hstep,by rw[<-e3,htop,i1_ (show nz c w slot y from of_decide_eq_true hd)]⟩
   |false=>
    rw[hd,cf]at hstep;refine .inl ⟨_,hstep,⟨rfl,rfl,by rw[<-e3,htop,i0_ (show¬nz c w slot y from of_decide_eq_false hd)]⟩,?_⟩;simp only[List.length_drop]
    omega) (n:=aY) (x:=oG.mk (an w.B head) (dG c w.V slot) (xK c (nG c slot))) ⟨rfl,rfl,rfl⟩ (cj (by have:(an w.B head).length<=w.B.length+1:=oL head;simp only;omega))
 exact hb
theorem D8 (hm:cZ c)(h1:w.B.length<=1000)(h2:w.V.length<=1000):∃r,qk c w slot head=some r/\(r.2=true->nz c w slot r.1):=⟨_,ym hm h1 h2,wK _⟩
theorem uh (hm:cZ c)(h1:x.V.B.length<=500)(h2:x.V.V.length<=500)(h3:x.In.B.length<=500)(h4:x.In.V.length<=500) :
  ∃r,qk c (aN c x.V x.In slot).1 slot (g0 c (aN c x.V x.In slot).1.B (dG c (aN c x.V x.In slot).1.V slot))=some r/\(r.2=true->nz c (aN c x.V x.In slot).1 slot r.1)/\pD x c slot=some ((aN c x.V x.In slot).1,(aN c x.V x.In slot).2.1,dL x.C (aN c x.V x.In slot).1.B (g0 c (aN c x.V x.In slot).1.B (dG c (aN c x.V x.In slot).1.V slot)) r.1 r.2 slot,x.Full||(aN c x.V x.In slot).2.2):=by
 have hx:=mg c x.V x.In slot;obtain⟨r,hr,hs⟩:=D8 (slot:=slot) (head:=g0 c (aN c x.V x.In slot).1.B (dG c (aN c x.V x.In slot).1.V slot)) hm (w:=(aN c x.V x.In slot).1) (by omega) (by omega);refine⟨r,hr,hs,?_⟩;unfold pD;rw[oD,ob];simp only;rw[tL (by omega) (by omega),ob,hr,ob,show few (aN c x.V x.In slot).1.B=true from aQ (by omega),ct]
theorem Eg (hm:cZ c)(h1:x.V.B.length<=500)(h2:x.V.V.length<=500)(h3:x.In.B.length<=500)(h4:x.In.V.length<=500) :
  ∃cu,pD x c slot=some ((aN c x.V x.In slot).1,(aN c x.V x.In slot).2.1,cu,x.Full||(aN c x.V x.In slot).2.2):=
 have ⟨_,_,_,e⟩:=uh hm h1 h2 h3 h4
 ⟨_,e⟩
structure Rn (c:Cf)(n:Nd)(inp:Vw)(o:List Of):Prop where
 n:kN 30 n
 inp:pE 30 inp
 len:o.length<=10
 o:∀y∈o,pE 30 y.V
theorem rA (hk:k<=1000){l:List Of}(h:∀y∈l,pE k y.V):∀y∈l,i5 y:=fun y hy=>by
 obtain⟨a,b⟩:=h y hy;exact⟨by omega,by omega⟩
structure nw (c:Cf)(n:Nd)(inp:Vw)(o:List Of):Prop where
 vw:n.V.B.length<=500/\n.V.V.length<=500
 inw:n.In.B.length<=1000/\n.In.V.length<=1000
 came:inp.B.length<=2000/\inp.V.length<=2000
 ins:(cQ n.In (bx c inp)).B.length<=500/\(cQ n.In (bx c inp)).V.length<=500
 len:n.O.length+o.length<=1000
 offs:∀y∈n.O++o,y.V.B.length<=500/\y.V.V.length<=500
theorem Ew {n:Nd}(hl:n.O.length<=1000)(hs:∀y∈n.O,i5 y):iter (lb n) aY (fa.mk 0 [])=some (fa.mk (n.O.length:Int) n.O):=by
 have e:=av (step:=lb n) (n:=n.O.length) (fun k=>fa.mk (k:Int) (n.O.take k)) (fa.mk (n.O.length:Int) n.O) (fun k hk=>by
  obtain⟨y,hy,hm⟩:=aA hk
  have et:n.O.take (k+1)=n.O.take k++[y]:=by rw[take_add_one,hy];rfl
  unfold lb;simp only
  rw[eN,aw hy,ob,tR (hs y hm),ob,aC (by rw[length_take];simp only[length_singleton];omega),ct,et,ah (n:=k)]) (by
  unfold lb;simp only
  rw[gt,take_length]) (by omega)
 exact e
def ga (c:Cf)(n:Nd):Bool:=decide (¬cZ c\/n.Tick<3\/i64.wrap (n.Tick.tdiv 3)>1048576)
theorem sg (c:Cf)(n:Nd):((D9 c).bind fun v2=>bif !v2 then some true else bif decide (n.Tick<3)then some true else some (decide ((i64.wrap (n.Tick.tdiv 3))>1048576)))=some (ga c n):=by
 rw[mr,ob];unfold ga;by_cases h1:cZ c
 ·rw[aQ h1,Bool.not_true,cf];by_cases h2:n.Tick<3
  ·rw[aQ h2,ct,aQ (.inr (.inl h2))]
  ·rw[aR h2,cf];by_cases h3:i64.wrap (n.Tick.tdiv 3)>1048576
   ·rw[aQ h3,aQ (.inr (.inr h3))]
   ·rw[aR h3,aR];rintro(h|h|h)
    ·exact h h1
    ·exact h2 h
    ·exact h3 h
 ·rw[aR h1,Bool.not_false,ct,aQ (.inl h1)]
theorem sL {n:Nd}{inp:Vw}{o:List Of}(hf:nw c n inp o)(h:ga c n=true):kx c n inp o=some (n,[]):=by
 obtain⟨⟨a1,a2⟩,⟨b1,b2⟩,-,-,c1,c2⟩:=hf;unfold kx;rw[sg,ob,h,ct,tP,ob,tP,ob,Ew (by omega) (fun y hy=>by have:=c2 y (List.mem_append_left _ hy);exact⟨by omega,by omega⟩),ob]
def gW (c:Cf)(n:Nd)(inp:Vw):Vw:=cQ n.In (bx c inp)
def aF (n:Nd):Int:=i64.wrap (n.Tick.tdiv 3)
def d8 (c:Cf)(n:Nd)(o:List Of):List Of×Bool:=hY n.Tick c (aF n) n.Full (n.O++o)
def cK (c:Cf)(n:Nd)(inp:Vw)(o:List Of):Nd:=⟨n.No,n.Tick,n.V,gW c n inp,[],n.C,(d8 c n o).2⟩
theorem qi {n:Nd}{inp:Vw}{o:List Of}(hf:nw c n inp o)(h:ga c n=false):kx c n inp o =
  bif (n.Tick.tmod 3)==0 then
   (rM (cK c n inp o) c (aF n) []).bind fun v10=>some (Nd.mk n.No (i64.wrap (n.Tick+1)) v10.1 v10.2.1 (d8 c n o).1 n.C v10.2.2.1,v10.2.2.2)
  else bif (n.Tick.tmod 3)==1 then
   (oF (cK c n inp o) (d8 c n o).1 c (aF n)).bind fun v11=>some (Nd.mk n.No (i64.wrap (n.Tick+1)) v11.1 v11.2.1 [] n.C v11.2.2,[])
  else bif (n.Tick.tmod 3)==2 then
   (pD (cK c n inp o) c (aF n)).bind fun v12=>some (Nd.mk n.No (i64.wrap (n.Tick+1)) v12.1 v12.2.1 [] v12.2.2.1 v12.2.2.2,[])
  else none:=by
 obtain⟨⟨a1,a2⟩,⟨b1,b2⟩,⟨e1,e2⟩,-,g1,g2⟩:=hf;have h2:=uV c inp;unfold kx;rw[sg,ob,h,cf,GO,ob,pz,ob];rw[GU (by show n.O.length+o.length<=1000;omega) (fun y hy=>by have:=g2 y hy;exact⟨by omega,by omega⟩),ob];rfl
theorem pP {n:Nd}{inp:Vw}{o:List Of}(hf:nw c n inp o):(d8 c n o).1.length<=8/\∀y∈(d8 c n o).1,y.V.B.length<=500/\y.V.V.length<=500:=by
 obtain⟨h1,h2,-⟩:=gw n.Tick c (aF n) n.Full (n.O++o);exact⟨h1,fun y hy=>hf.offs y (h2 y hy).1⟩
theorem x7 {n:Nd}{inp:Vw}{o:List Of}(hf:nw c n inp o)(h:ga c n=false)(h0:n.Tick.tmod 3=0) :
  kx c n inp o=some (Nd.mk n.No (i64.wrap (n.Tick+1)) (cX (cK c n inp o) c (aF n)).1 (cX (cK c n inp o) c (aF n)).2.1 (d8 c n o).1 n.C (cX (cK c n inp o) c (aF n)).2.2.1,(cX (cK c n inp o) c (aF n)).2.2.2):=by
 have hi:(gW c n inp).B.length<=500/\(gW c n inp).V.length<=500:=hf.ins;rw[qi hf h];obtain⟨⟨a1,a2⟩,-⟩:=hf;rw[beq_iff_eq.2 h0,ct,Eb (by show n.V.B.length<=500;omega) (by show n.V.V.length<=500;omega) (by show(gW c n inp).B.length<=500;omega) (by show(gW c n inp).V.length<=500;omega),ob]
theorem x8 {n:Nd}{inp:Vw}{o:List Of}(hf:nw c n inp o)(h:ga c n=false)(h1:n.Tick.tmod 3=1) :
  kx c n inp o=some (Nd.mk n.No (i64.wrap (n.Tick+1)) (dI (cK c n inp o) (d8 c n o).1 c (aF n)).1 (dI (cK c n inp o) (d8 c n o).1 c (aF n)).2.1 [] n.C (dI (cK c n inp o) (d8 c n o).1 c (aF n)).2.2,[]):=by
 have hi:(gW c n inp).B.length<=500/\(gW c n inp).V.length<=500:=hf.ins;obtain⟨hr1,hr2⟩:=pP hf;rw[qi hf h];obtain⟨⟨a1,a2⟩,-⟩:=hf;rw[show((n.Tick.tmod 3)==0)=false by rw[h1];rfl,cf,beq_iff_eq.2 h1,ct,By (by show n.V.B.length<=500;omega) (by show n.V.V.length<=500;omega) (by show(gW c n inp).B.length<=500;omega) (by show(gW c n inp).V.length<=500;omega) hr1 hr2,ob]
theorem FZ {n:Nd}{inp:Vw}{o:List Of}(hf:nw c n inp o)(h:ga c n=false)(h2:n.Tick.tmod 3=2) :
  ∃cu,kx c n inp o=some (Nd.mk n.No (i64.wrap (n.Tick+1)) (aN c n.V (gW c n inp) (aF n)).1 (aN c n.V (gW c n inp) (aF n)).2.1 [] cu ((d8 c n o).2||(aN c n.V (gW c n inp) (aF n)).2.2),[]):=by
 have hi:(gW c n inp).B.length<=500/\(gW c n inp).V.length<=500:=hf.ins
 have hm:cZ c:=by
  have:=of_decide_eq_false h;exact Decidable.not_not.1 fun h=>this<|.inl h
 rw[qi hf h];obtain⟨⟨a1,a2⟩,-⟩:=hf;obtain⟨cu,e⟩:=Eg (x:=cK c n inp o) (slot:=aF n) hm (by show n.V.B.length<=500;omega) (by show n.V.V.length<=500;omega) (by show(gW c n inp).B.length<=500;omega) (by show(gW c n inp).V.length<=500;omega);rw[show((n.Tick.tmod 3)==0)=false by rw[h2];rfl,cf,show((n.Tick.tmod 3)==1)=false by rw[h2];rfl,cf,beq_iff_eq.2 h2,ct,e,ob];exact⟨cu,rfl⟩
theorem Be {n:Nd}(h:ga c n=false):n.Tick.tmod 3=0\/n.Tick.tmod 3=1\/n.Tick.tmod 3=2:=by
 have h3:¬n.Tick<3:=fun h2=>(of_decide_eq_false h) (.inr (.inl h2));rw[Int.tmod_eq_emod_of_nonneg (by omega)];omega
section
variable {c : Cu} {l : List Bk} {head found : ID} {is : Bool} {slot : Int}
theorem HT (h:0<=ap (an l head) c.ID):dL c l head found is slot =
  if is=true/\ap (an l head) found>=0/\ap (an l head) found<ap (an l head) c.ID then⟨found,slot,c.Revoked⟩else c:=by
 simp only[dL,i0_ (show¬ap (an l head) c.ID<0 by omega)]
theorem HS (hl:l.length<=1000)(h:ap (an l head) c.ID<0):dL c l head found is slot =
  if is=true/\ap (an l head) found>=0/\ap (an l head) found<((an l head).length:Int)-1 then⟨found,slot,i64.wrap (c.Revoked+1)⟩else⟨(0,0),slot,i64.wrap (c.Revoked+1)⟩:=by
 simp only[dL,i1_ h,IH hl]
end
end Go.Mg
