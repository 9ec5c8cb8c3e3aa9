/- Products of numbers. Conditions: none. -/
import Derived.Test.YtfbigoipfbiliaaGreatX9
set_option maxRecDepth 100000
set_option linter.unusedSimpArgs false
set_option linter.unusedVariables false
namespace Go.Mg
open IntKind (i64 u64)
open Go.Proofs.Tryz (func86 prog)
open List (length_singleton length_take take_add_one take_length)
open Nat (le_trans)
open Int (toNat)
open Go.Proofs
variable {a b d k most s slot : Int} {c c0 : Cf} {full r_ : Bool} {head id : ID} {in0 w : Vw} {n0 x : Nd} {tl : List Of}
def xi (x:Int)(y:Int):Option (Int×Int):=some (u64.wrap ((u64.wrap ((u64.wrap ((x.fdiv (2 ^ (min (toNat 32) u64.bits)))*(y.fdiv (2 ^ (min (toNat 32) u64.bits)))))+((u64.wrap ((u64.wrap ((x.fdiv (2 ^ (min (toNat 32) u64.bits)))*(bits .and .u64 y 4294967295)))+((u64.wrap ((bits .and .u64 x 4294967295)*(bits .and .u64 y 4294967295))).fdiv (2 ^ (min (toNat 32) u64.bits))))).fdiv (2 ^ (min (toNat 32) u64.bits)))))+((u64.wrap ((bits .and .u64 (u64.wrap ((u64.wrap ((x.fdiv (2 ^ (min (toNat 32) u64.bits)))*(bits .and .u64 y 4294967295)))+((u64.wrap ((bits .and .u64 x 4294967295)*(bits .and .u64 y 4294967295))).fdiv (2 ^ (min (toNat 32) u64.bits))))) 4294967295)+(u64.wrap ((bits .and .u64 x 4294967295)*(y.fdiv (2 ^ (min (toNat 32) u64.bits))))))).fdiv (2 ^ (min (toNat 32) u64.bits)))),u64.wrap (x*y))
theorem ML {x:Int}{y:Int}{r_:Int×Int}(h:xi x y=some r_):aq prog 229 [.int .u64 x,.int .u64 y] [.int .u64 r_.1,.int .u64 r_.2]:=by
 refine zh Tryz.func229 Z Z Z Z ?_;unfold xi at h;refine qR<|zM Z<|mN Z<|qR<|zM Z<|yS Z (an Z Z Z Z)<|mN Z<|qR<|zM Z<|yS Z (aa.shr Z Z Z (by decide))<|mN Z<|qR<|zM Z<|yS Z (an Z Z Z Z)<|mN Z<|qR<|zM Z<|yS Z (aa.shr Z Z Z (by decide))<|mN Z<|qR<|zM Z<|zM Z<|yS Z (an Z Z Z Z)<|mN Z<|qR<|zM Z<|zM Z<|yS Z (an Z Z Z Z)<|zM Z<|yS Z (aa.shr Z Z Z (by decide))<|yS Z (an Z Z Z Z)<|mN Z<|qR<|zM Z<|yS Z (an Z Z Z Z)<|mN Z<|qR<|zM Z<|yS Z (aa.shr Z Z Z (by decide))<|mN Z<|qR<|zM Z<|zM Z<|zM Z<|yS Z (an Z Z Z Z)<|yS Z (an Z Z Z Z)<|mN Z<|qR<|zM Z<|zM Z<|yS Z (an Z Z Z Z)<|zM Z<|yS Z (an Z Z Z Z)<|zM Z<|yS Z (aa.shr Z Z Z (by decide))<|yS Z (an Z Z Z Z)<|mN Z<|qR<|zM Z<|zM Z<|yS Z (an Z Z Z Z)<|mN Z<|zr ?_;cases h;exact zf (.two (.tmp Z) (.tmp Z))<|⟨_,rfl,bG⟩
def xf (a:Int)(b:Int):Option ID:=(xi (u64.wrap (a)) (u64.wrap (b))).bind fun v1=>some v1
theorem JF {r_:ID}(h:xf a b=some r_):aq prog 207 [.int .i64 a,.int .i64 b] [aX r_]:=by
 refine zh Tryz.func207 Z Z Z Z ?_;unfold xf at h;refine qR<|yS Z (ze Z BW Z Z)<|nT<|qR<|zM Z<|yS Z (aa.convert (k':=.u64) Z Z (by kernel_rfl))<|zM Z<|yS Z (aa.convert (k':=.u64) Z Z (by kernel_rfl))<|zb h fun v1 a1 h=>yS Z (yP Z Z Z (ML a1) bG)<|zM Z<|yS Z (eW Z Z Z)<|yS Z (eW Z Z Z)<|zM Z<|mN Z<|qR<|zM Z<|zM Z<|yS Z (aa.build Z K0 Z Z Z)<|yS Z (zs Z Z Z Z uR Z Z Z Z)<|nT<|zr ?_;cases h;exact zf (.one (er Z Z)) zv
def xh (n:Int):Option Bool:=bif decide (n>=0)then some (decide (n<=4611686018427387904))else some false
theorem MK {n:Int}(h:xh n=some r_):aq prog 228 [.int .i64 n] [.bool r_]:=by
 refine zh Tryz.func228 Z Z Z Z ?_;unfold xh at h;refine qR<|mN Z<|qR<|zM Z<|yS Z (an Z Z Z Z)<|zM Z ?_;refine zc 5 Z (fun g1=>?_)<|fun g1=>?_
 ·refine zi g1 h fun h=>yV Z (gd g1 Z) (zm Z Z)<|yV Z (gd g1 Z) (an Z Z Z Z)<|yS Z (bv Z (aJ g1 Z) Z)<|mN Z<|zr ?_;cases h;exact aZ Z
 ·refine zo g1 h fun h=>yU Z (gd g1 Z) Z<|yU Z (gd g1 Z) Z<|yS Z (aT Z (aJ g1 Z) Z)<|mN Z<|zr ?_;cases h;exact aZ Z
def B4 (n:Int):Option Bool:=(xh n).bind fun v1=>some (!v1)
theorem MJ {n:Int}(h:B4 n=some r_):aq prog 227 [.int .i64 n] [.bool r_]:=by
 refine zh Tryz.func227 Z Z Z Z ?_;unfold B4 at h;refine qR<|mN Z<|qR<|zM Z<|zb h fun v1 a1 h=>yS Z (yP Z Z Z (MK a1) dG)<|yS Z (aa.not Z Z)<|mN Z<|zr ?_;cases h;exact aZ Z
structure iw where
 t8:Int
def n3 (s:List Int)(x1:iw):Option (iw⊕(iw⊕Int)):=bif decide (x1.t8<(s.length:Int))then (ix s x1.t8).bind fun y1=>(B4 y1).bind fun v2=>bif v2 then some (.inr (.inr x1.t8))else some (.inl (iw.mk (i64.wrap (x1.t8+1))))else some (.inr (.inl (iw.mk x1.t8)))
def II (s:List Int):Option Int:=(iter (n3 s) aY (iw.mk 0)).bind fun b_v1=>Sum.elim (fun _=>some (-1)) some b_v1
theorem N3 {s:List Int}{r_:Int}(h:II s=some r_):LC prog 235 [(kI s),.fn 227 [] []] [] (Is (iQ r_) []):=by
 refine eN Tryz.func235 Z Z Z ?_;unfold II at h;refine qR<|mN Z<|zQ<|qR<|zM Z<|yS Z (ck Z Z)<|mN Z ?_;obtain⟨w1,p1,q1⟩:=zB h;clear h;refine LW.tailB (b:=w1) (E:=fun v1=>[(4,(iQ 0))]) (O:=fun v1=>[]) ?_<|fun v1 f1 e1 K1 u1=>?_
 ·refine LW.block ?_;refine LW.iterB (E:=fun x1:iw=>[(0,(kI s)),(1,.fn 227 [] []),(4,(iQ 0)),(7,.p (.int .i64 (s.length:Int))),(8,(iQ x1.t8))]) (O:=fun x1=>[]) p1 (av 0 ⟨Z,Z,Z,Z,Z,t_⟩)<|fun x1 z1 h m1=>?_;unfold n3 at h;refine qR<|yS Z (an Z Z Z Z)<|nT<|zQ ?_;refine zX Z (fun g1=>?_)<|fun g1=>?_
  ·refine zi g1 h fun h=>zk<|zT<|zQ<|zl<|qR<|zM Z<|mN Z<|qR<|zM Z<|zM Z<|zM Z<|zb h fun y1 j1 h=>yS Z (zx Z Z Z dL j1 Z)<|yS Z (bR Z Z Z aW Z Z)<|zb h fun v2 a2 h=>yS Z (yP Z Z Z (MJ a2) dG)<|nT ?_;refine zX Z (fun g2=>?_)<|fun g2=>?_
   ·refine zi g2 h fun h=>qR<|zM Z<|mN Z<|zr<|ak<|ae<|ae<|ak<|ae<|ae ?_;cases h;obtain rfl:=(m1 _ rfl);have h:=bO q1;cases h;exact aD (.one (.tmp Z))<|⟨rfl,rfl⟩
   ·refine zo g2 h fun h=>zk<|af<|zT<|zR<|yS Z (an Z Z Z Z)<|mN Z ?_;cases h;exact⟨_,rfl,av 0 ⟨Z,Z,Z,Z,Z,t_⟩⟩
  ·refine zo g1 h fun h=>zq<|ai<|ai<|zy<|zT ?_;cases h;obtain rfl:=(m1 _ rfl);exact⟨_,rfl,av 0 ⟨Z,t_⟩⟩
 ·obtain rfl:=f1;have h:=cR q1;clear p1;refine zT<|LW.weak u1<|qR<|mN Z<|zr ?_;cases h;exact aD (.one (.tmp Z))<|⟨rfl,rfl⟩
def O8 (s:List Int):Option Bool:=(II s).bind fun v1=>some (decide (v1>=0))
theorem P6 {s:List Int}(h:O8 s=some r_):LC prog 226 [(kI s),.fn 227 [] []] [] (Is (bQ r_) []):=by
 refine eN Tryz.func226 Z Z Z ?_;unfold O8 at h;refine qR<|mN Z<|qR<|zM Z<|zM Z<|zb h fun v1 a1 h=>yS Z (yC Z Z Z (N3 a1))<|yS Z (an Z Z Z Z)<|mN Z<|zr ?_;cases h;exact aD (.one (.tmp Z))<|⟨rfl,rfl⟩
def xe (l:List Int):Option Bool:=(O8 l).bind fun v1=>some (!v1)
theorem MH {l:List Int}(h:xe l=some r_):aq prog 206 [.slice 1 (l.map bh)] [.bool r_]:=by
 refine zh Tryz.func206 Z Z Z Z ?_;unfold xe at h;refine qR<|mN Z<|qR<|zM Z<|zb h fun v1 a1 h=>yS Z (yC Z Z Z (P6 a1))<|yS Z (aa.not Z Z)<|mN Z<|zr ?_;cases h;exact aZ Z
def xc (a:Int)(b:Int)(c:Int)(d:Int):Option Bool:=(xe [a,b,c,d]).bind fun v1=>bif !v1 then some false else (xf a b).bind fun v2=>(xf c d).bind fun v3=>bif !((v2.1==v3.1)&&((v2.2==v3.2)&&true))then (Dp [v2.1,v2.2] [v3.1,v3.2]).bind fun v4=>some (decide (v4>0))else some false
theorem MF {c:Int}(h:xc a b c d=some r_):aq prog 166 [.int .i64 a,.int .i64 b,.int .i64 c,.int .i64 d] [.bool r_]:=by
 refine zh Tryz.func166 Z Z Z Z ?_;unfold xc at h;refine qR<|mN Z<|zQ<|qR<|zM Z<|zM Z<|zM Z<|zM Z<|yS Z (gR Z dL Z Z Z Z Z)<|zb h fun v1 a1 h=>yS Z (yP Z Z Z (MH a1) dG)<|yS Z (aa.not Z Z)<|nT ?_;refine zX Z (fun g1=>?_)<|fun g1=>?_
 ·refine zi g1 h fun h=>qR<|mN Z<|LW.ret<|ae ?_;cases h;exact aZ Z
 ·refine zo g1 h fun h=>zk<|zT<|qR<|zM Z<|zM Z<|zb h fun v2 a2 h=>yS Z (yP Z Z Z (JF a2) bG)<|zM Z<|zM Z<|zb h fun v3 a3 h=>yS Z (yP Z Z Z (JF a3) bG)<|yS Z (ze Z BW Z Z)<|yS Z (ze Z BW Z Z)<|yS Z (zs Z Z Z Z uR Z Z Z Z)<|yS Z (zs Z Z Z Z uR Z Z Z Z)<|nT<|zQ<|dx<|yE Z (zD Z Z Z uR Z Z)<|yE Z (zD Z Z Z uR Z Z)<|yE Z (aa.neqAgg Z Z Z Z Z I9)<|zH Z ?_;refine LO.cases 27 Z (fun(g2:(!((v2.1==v3.1)&&((v2.2==v3.2)&&true)))=true)=>?_) (fun(g2:(!((v2.1==v3.1)&&((v2.2==v3.2)&&true)))=false)=>?_)
  ·refine zi g2 h fun h=>yL Z (gd g2 Z) (aa.sliceBox Z Z Gp Z Z Z)<|yL Z (gd g2 Z) (aa.sliceBox Z Z Gp Z Z Z)<|zb h fun v4 a4 h=>yL Z (gd g2 Z) (zC Z Z Z (by kernel_rfl) (LC.lend (MV a4) (.cons (Conv.boxSlice Z Z Z Z) (.cons (Conv.boxSlice Z Z Z Z) .nil)) Z))<|yL Z (gd g2 Z) (an Z Z Z Z)<|yE Z (bv Z (aJ g2 Z) Z)<|zH Z<|LO.nil<|zT<|zr ?_;cases h;exact aZ Z
  ·refine zo g2 h fun h=>yK Z (gd g2 Z) Z<|yK Z (gd g2 Z) Z<|yK Z (gd g2 Z) Z<|yK Z (gd g2 Z) Z<|yE Z (aT Z (aJ g2 Z) Z)<|zH Z<|LO.nil<|zT<|zr ?_;cases h;exact aZ Z
def Gk (c:Cf)(w:Vw)(slot:Int):Option (List Vt×Int):=(vb c w.V slot).bind fun v1=>(KF c slot).bind fun v2=>(L5 c v2).bind fun v3=>some (v1,v3)
theorem N6 {r_:List Vt×Int}(h:Gk c w slot=some r_):LC prog 130 [.p (gQ c),.p (iB w),(iQ slot)] [] (Is (.agg [.fn 163 [] [.ptr 0 0,.ptr 1 0,.ptr 3 0],.fn 165 [] [.ptr 0 0,.ptr 4 0]]) [.box (ch c),.box (cH w),.box [.fn 163 [] [.ptr 0 0,.ptr 1 0,.ptr 3 0],.fn 165 [] [.ptr 0 0,.ptr 4 0]],.box [(kV r_.1)],.box [(iQ r_.2)]]):=by
 refine eN Tryz.func130 Z Z Z ?_;unfold Gk at h;refine qR<|yS Z (bx Z Z Z Z Z)<|yS Z (bx Z Z Z Z Z)<|yS Z (ze Z HV Z Z)<|nT<|zQ<|LW.ent (bY.slot Z)<|LW.ent (bY.slot Z)<|fB<|yF Z (zd Z Z Z be Z Z) Z<|yG Z (fun H _=>zA Z Z aQ)<|yF Z (zd Z Z Z co Z Z) Z<|zK Z<|zb h fun v1 a1 h=>?_;refine yF (F:=[]) (s:=none) Z (fun H _=>yP Z Z Z (JH a1) pA) Z ?_;refine yF Z (zd Z Z Z be Z Z) Z<|yF Z (zd Z Z Z be Z Z) Z<|zK Z<|zb h fun v2 a2 h=>?_;refine yF (F:=[]) (s:=none) Z (fun H _=>yP Z Z Z (P2 a2) bG) Z ?_;obtain⟨v3,a3,h⟩:=zB h;refine yF (F:=[]) (s:=none) Z (fun H _=>yP Z Z Z (Qt a3) bG) Z ?_;refine yF Z (cj.alloc Z Qn (id:=3) Z) Z<|yF Z (cj.alloc Z QB (id:=4) Z) Z<|yF Z (zt Z Z Z Z co Z Z Z) Z<|yF Z (zt Z Z Z Z aW Z Z Z) Z ?_;refine LF.nil ⟨by kernel_rfl,?_⟩;refine zT<|qR<|yS Z (aa.makeFunc Z Z Z)<|yS Z (aa.makeFunc Z Z Z)<|yS Z (aa.build Z K4 Z Z Z)<|yS Z (zs Z Z Z Z HK Z Z Z Z)<|nT<|zr ?_;cases h;exact aD (.one (er Z Z))<|⟨rfl,rfl⟩
theorem Oa {r_:List Vt×Int}(hr:Gk c w slot=some r_):yv prog 130 [gQ c,iB w,.int .i64 slot] (.agg [.fn 163 [] [.cptr (qc c),.cptr [.slice 5 (w.B.map aA),.slice 4 (w.V.map aO)],.cptr [.slice 4 (r_.1.map aO)]],.fn 165 [] [.cptr (qc c),.cptr [.int .i64 r_.2]]]):=
 yv.ofLC rfl (N6 hr) (eb.agg ⟨eb.fn trivial ⟨eb.ptr rfl rfl rfl,eb.ptr rfl rfl rfl,eb.ptr rfl rfl rfl,trivial⟩,eb.fn trivial ⟨eb.ptr rfl rfl rfl,eb.ptr rfl rfl rfl,trivial⟩,trivial⟩)
def IM (id:ID)(c:Cf)(w:Vw)(v:List Vt):Option Int:=(Dl c w.B v id).bind fun v1=>some v1
theorem N7 {v:List Vt}{r_:Int}(h:IM id c w v=some r_):LC prog 163 [.p (aX id),.cptr (qc c),.cptr [.slice 5 (w.B.map aA),.slice 4 (w.V.map aO)],.cptr [.slice 4 (v.map aO)]] [] (Is (iQ r_) []):=by
 refine eN Tryz.func163 Z Z Z ?_;unfold IM at h;refine qR<|yS Z (bx Z Z Z Z Z)<|mN Z<|qR<|yS Z (bR Z Z Z be Z Z)<|yS Z (aa.fieldAddrC Z Z aK Z)<|yS Z (bR Z Z Z bM Z Z)<|yS Z (bR Z Z Z co Z Z)<|yS Z (zD Z Z Z aF Z Z)<|zb h fun v1 a1 h=>yS Z (yP Z Z Z (MR a1) we)<|mN Z<|zr ?_;obtain rfl:=zJ h;exact bT (env':=[(5,(iQ v1))]) (H':=[]) (av 0 ⟨Z,t_⟩) (.one (.tmp Z))<|⟨rfl,rfl⟩
def wu (n:Int)(c:Cf)(al:Int):Option Bool:=(xc (i64.wrap (2*n)) c.Den al (i64.wrap (c.Den+(i64.wrap (2*c.Num))))).bind fun v1=>some v1
theorem I4 {n:Int}{al:Int}(h:wu n c al=some r_):LC prog 165 [(iQ n),.cptr (qc c),.cptr [.int .i64 al]] [] (Is (bQ r_) []):=by
 refine eN Tryz.func165 Z Z Z ?_;unfold wu at h;refine qR<|mN Z<|qR<|zM Z<|yS Z (an Z Z Z Z)<|yS Z (aa.fieldAddrC Z Z kL Z)<|yS Z (bR Z Z Z aW Z Z)<|yS Z (bR Z Z Z aW Z Z)<|yS Z (aa.fieldAddrC Z Z kL Z)<|yS Z (bR Z Z Z aW Z Z)<|yS Z (aa.fieldAddrC Z Z rE Z)<|yS Z (bR Z Z Z aW Z Z)<|yS Z (an Z Z Z Z)<|yS Z (an Z Z Z Z)<|zb h fun v1 a1 h=>yS Z (yP Z Z Z (MF a1) we)<|mN Z<|zr ?_;cases h;exact aD (.one (.tmp Z))<|⟨rfl,rfl⟩
structure n7 where
 l:List ID
 v:List Vt
 al:Int
def l9 (c:Cf)(w:Vw)(x1:n7):Option (n7⊕(ID×Bool)):=bif decide ((x1.l.length:Int)<2)then some (.inr ((0,0),false))else (ix x1.l 0).bind fun y1=>(IM y1 c w x1.v).bind fun v2=>(wu v2 c x1.al).bind fun v3=>bif v3 then (ix x1.l 0).bind fun y2=>some (.inr (y2,true))else bif wP x1.l 1 x1.l.length then some (.inl (n7.mk (x1.l.drop (1:Int).toNat) x1.v x1.al))else none
def pR (c:Cf)(w:Vw)(slot:Int)(head:ID):Option (ID×Bool):=(Gk c w slot).bind fun v1=>bif few w.B then iter (l9 c w) aY (n7.mk (ao w.B head) v1.1 v1.2)else none
theorem Nm {r_:ID×Bool}(h:pR c w slot head=some r_):aq prog 89 [gQ c,iB w,.int .i64 slot,aX head] [aX r_.1,.bool r_.2]:=by
 refine zh Tryz.func89 Z Z Z Z ?_;unfold pR at h;refine qR<|yS Z (bx Z Z Z Z Z)<|yS Z (bx Z Z Z Z Z)<|yS Z (bx Z Z Z Z Z)<|yS Z (ze Z gP Z Z)<|mN Z ?_;refine LW.iterG (step:=l9 c w) (N:=aY) (b:=r_) (E:=fun x1:n7=>[(8,.ptr 3 0),(9,(bQ false)),(10,.ptr 4 0),(11,.p (.slice 2 (x1.l.map aX)))]) (O:=fun x1=>[.box (ch c),.box (cH w),.box [(uQ head.1),(uQ head.2)],.box [(uQ 0),(uQ 0)],.box [.fn 163 [] [.cptr (qc c),.cptr [.slice 5 (w.B.map aA),.slice 4 (w.V.map aO)],.cptr [.slice 4 (x1.v.map aO)]],.fn 165 [] [.cptr (qc c),.cptr [.int .i64 x1.al]]]]) Z ?_<|fun x1 b1 h m1=>?_
 ·refine LW.ent (bY.slot Z)<|fB<|yF Z (zd Z Z Z be Z Z) Z<|yF Z (zd Z Z Z aG Z Z) Z<|zK Z<|zb h fun v1 a1 h=>?_;refine yF (F:=[]) (s:=none) Z (fun H _=>yC Z Z Z (LC.free (Oa a1) pA)) Z ?_;refine yG Z (fun H _=>zA Z Z aK)<|yF Z (zd Z Z Z bM Z Z) Z<|yF Z (zd Z Z Z aF Z Z) Z<|zg h fun q1 h=>?_;refine yF (F:=[]) (s:=none) Z (fun H _=>yP Z Z Z (PY (l:=w.B) (id:=head) (Bf q1)) bG) Z ?_;refine yF Z (cj.alloc Z HV (id:=4) Z) Z<|yF Z (zt Z Z Z Z HK Z Z Z) Z<|zK Z ?_;refine LF.nil ⟨by kernel_rfl,?_⟩;exact zT<|⟨_,h,av 5 ⟨Z,Z,Z,Z,t_⟩⟩
 ·unfold l9 at h;refine zQ<|qR<|zM Z<|yS Z (ck Z Z)<|yS Z (an Z Z Z Z)<|nT ?_;refine zX Z (fun g1=>?_)<|fun g1=>?_
  ·refine zi g1 h fun h=>qR<|yS Z (aa.build Z ng Z Z Z)<|yS Z (zs Z Z Z Z aF Z Z Z Z)<|mN Z<|zr<|ae<|z7 ?_;cases h;obtain rfl:=(m1 _ rfl);exact zf (.two (er Z Z) (.tmp Z))<|⟨_,rfl,bG⟩
  ·refine zo g1 h fun h=>zk<|zT<|zQ<|zQ<|dx<|yE Z (zA Z Z GU)<|yE Z (zD Z Z Z wg Z Z)<|yE Z (zA Z Z GT)<|yE Z (zD Z Z Z LX Z Z)<|zH Z<|zb h fun y1 j1 h=>yE Z (zx Z Z Z fH j1 Z)<|yE Z (bR Z Z Z aF Z Z)<|zb h fun v2 a2 h=>yE Z (yC Z Z Z (LC.pre (N7 a2) Z Z Z))<|zb h fun v3 a3 h=>yE Z (yC Z Z Z (LC.pre (I4 a3) Z Z Z))<|LO.nil<|zT ?_;refine zX Z (fun g2=>?_)<|fun g2=>?_
   ·refine zi g2 h fun h=>qR<|zM Z<|zb h fun y2 j2 h=>yS Z (zx Z Z Z fH j2 Z)<|yS Z (bR Z Z Z aF Z Z)<|yS Z (zs Z Z Z Z aF Z Z Z Z)<|mN Z<|zr<|ae<|z7 ?_;cases h;obtain rfl:=(m1 _ rfl);exact zf (.two (er Z Z) (.tmp Z))<|⟨_,rfl,bG⟩
   ·refine zo g2 h fun h=>zk<|zT<|qR<|zM Z<|zg h fun q2 h=>yS Z (aa.sliceLo Z Z Z fH q2)<|mN Z<|LW.goto<|G4 ?_;cases h;exact⟨_,rfl,av 5 ⟨Z,Z,Z,Z,t_⟩⟩
structure eG where
 t21:Int
 w_11:Bool
 o5:List Of
def lq (x:Nd)(c:Cf)(slot:Int)(v1:(List Of))(x1:eG):Option (eG⊕eG):=bif decide (x1.t21<(v1.length:Int))then (ix v1 x1.t21).bind fun y1=>(bif (x.Tick.tmod 3)==2 then some ((x.Tick.tmod 3)==2)else bif y1.Slot != slot then some (y1.Slot != slot)else (IE c slot).bind fun v4=>some (y1.From != v4)).bind fun v3=>bif v3 then some (.inl (eG.mk (i64.wrap (x1.t21+1)) x1.w_11 x1.o5))else bif (x1.o5.length:Int)==8 then some (.inl (eG.mk (i64.wrap (x1.t21+1)) true x1.o5))else (tg y1).bind fun v5=>bif bJ x1.o5.length [v5].length 104 then some (.inl (eG.mk (i64.wrap (x1.t21+1)) x1.w_11 (x1.o5++[v5])))else none else some (.inr (eG.mk x1.t21 x1.w_11 x1.o5))
def yp (l:List Of)(x:Nd)(c:Cf)(slot:Int):Option (List Of×Bool):=(xL [x.O,l]).bind fun v1=>(iter (lq x c slot v1) aY (eG.mk 0 x.Full ([]:List Of))).bind fun v2=>some (v2.o5,v2.w_11)
theorem Lv {l:List Of}{r_:List Of×Bool}(h:yp l x c slot=some r_):LC prog 41 [.ptr 4 0,(kO l)] [.box (ch c0),.box (ol n0),.box (cH in0),.box mP,.box [(iQ x.No),(iQ x.Tick),(kB x.V.B),(kV x.V.V),(kB x.In.B),(kV x.In.V),(kO x.O),(uQ x.C.ID.1),(uQ x.C.ID.2),(iQ x.C.Slot),(iQ x.C.Revoked),(bQ x.Full),(kI c.W),(uQ c.Seed),(iQ c.Epoch),(iQ c.Num),(iQ c.Den),(iQ slot),(kO tl)]] (Is (.tup []) [.box (ch c0),.box (ol n0),.box (cH in0),.box mP,.box [(iQ x.No),(iQ x.Tick),(kB x.V.B),(kV x.V.V),(kB x.In.B),(kV x.In.V),(jO 5 r_.1),(uQ x.C.ID.1),(uQ x.C.ID.2),(iQ x.C.Slot),(iQ x.C.Revoked),(bQ r_.2),(kI c.W),(uQ c.Seed),(iQ c.Epoch),(iQ c.Num),(iQ c.Den),(iQ slot),(kO tl)],.vec 9 (r_.1.map cZ)]):=by
 refine eN Tryz.func41 Z Z Z ?_;unfold yp at h;refine qR<|zM Z<|yS Z (zn Z Z)<|yS Z (zA Z Z aI)<|yS Z (zA Z Z bz)<|yS Z (zD Z Z Z bk Z Z)<|zM Z<|yS Z (gR Z BL Z Z Z Z Z)<|zb h fun v1 a1 h=>yS Z (yP Z Z Z (Nl a1) dG)<|mN Z<|qR<|zM Z<|yS Z (zn Z Z)<|yS Z (zA Z Z aI)<|yS Z (zA Z Z bz)<|yS Z (zs Z Z Z Z bk Z Z Z Z)<|nT<|zQ<|LW.ent (bY.lazyCell (i:=4) (j:=6) (m:=9) Z Z Z Z Z Z)<|zR<|zM Z<|yS Z (ck Z Z)<|mN Z ?_;obtain⟨v2,p2,b2⟩:=zB h;clear h;refine LW.tail (E:=[]) (O:=[.box (ch c0),.box (ol n0),.box (cH in0),.box mP,.box [(iQ x.No),(iQ x.Tick),(kB x.V.B),(kV x.V.V),(kB x.In.B),(kV x.In.V),(jO 5 v2.o5),(uQ x.C.ID.1),(uQ x.C.ID.2),(iQ x.C.Slot),(iQ x.C.Revoked),(bQ v2.w_11),(kI c.W),(uQ c.Seed),(iQ c.Epoch),(iQ c.Num),(iQ c.Den),(iQ slot),(kO tl)],.vec 9 (v2.o5.map cZ)]) ?_<|fun e2 K2 u2=>?_
 ·refine LW.block ?_;refine LW.iterB (E:=fun x1:eG=>[(0,.ptr 4 0),(19,(kO v1)),(20,.p (.int .i64 (v1.length:Int))),(21,(iQ x1.t21))]) (O:=fun x1=>[.box (ch c0),.box (ol n0),.box (cH in0),.box mP,.box [(iQ x.No),(iQ x.Tick),(kB x.V.B),(kV x.V.V),(kB x.In.B),(kV x.In.V),(jO 5 x1.o5),(uQ x.C.ID.1),(uQ x.C.ID.2),(iQ x.C.Slot),(iQ x.C.Revoked),(bQ x1.w_11),(kI c.W),(uQ c.Seed),(iQ c.Epoch),(iQ c.Num),(iQ c.Den),(iQ slot),(kO tl)],.vec 9 (x1.o5.map cZ)]) p2 (av 6 ⟨Z,Z,Z,Z,t_⟩)<|fun x1 z1 h m1=>?_;unfold lq at h;refine qR<|yS Z (an Z Z Z Z)<|nT<|zQ ?_;refine zX Z (fun g1=>?_)<|fun g1=>?_
  ·refine zi g1 h fun h=>zk<|zT<|zQ<|zl<|qR<|zb h fun y1 j1 h=>yS Z (zx Z Z Z bq j1 Z)<|yS Z (bR Z Z Z eo Z Z)<|yS Z (ze Z pE Z Z)<|yS Z (zs Z Z Z Z eo Z Z Z Z)<|nT<|zl ?_;obtain⟨v3,p3,b3⟩:=zB h;clear h;refine LW.cut (E:=[(0,.ptr 4 0),(6,.ptr 6 0),(19,(kO v1)),(20,.p (.int .i64 (v1.length:Int))),(21,(iQ x1.t21)),(38,(bQ v3))]) (O:=[.box (ch c0),.box (ol n0),.box (cH in0),.box mP,.box [(iQ x.No),(iQ x.Tick),(kB x.V.B),(kV x.V.V),(kB x.In.B),(kV x.In.V),(jO 5 x1.o5),(uQ x.C.ID.1),(uQ x.C.ID.2),(iQ x.C.Slot),(iQ x.C.Revoked),(bQ x1.w_11),(kI c.W),(uQ c.Seed),(iQ c.Epoch),(iQ c.Num),(iQ c.Den),(iQ slot),(kO tl)],.vec 9 (x1.o5.map cZ),.box [(iQ y1.Slot),(iQ y1.From),(iQ y1.B.Slot),(iQ y1.B.From),(uQ y1.B.Parent.1),(uQ y1.B.Parent.2),(uQ y1.B.Salt),(kB y1.V.B),(kV y1.V.V)]]) ?_ ?_
   ·have h:=p3;refine qR<|zM Z<|yS Z (zn Z Z)<|yS Z (zA Z Z aI)<|yS Z (zA Z Z cv)<|yS Z (zD Z Z Z aW Z Z)<|yS Z (aa.rem Z Z Z (by decide))<|yS Z (an Z Z Z Z)<|mN Z ?_;refine zX Z (fun g2=>?_)<|fun g2=>?_
    ·refine zi g2 h fun h=>zk<|zT ?_;cases h;exact av 7 ⟨Z,Z,Z,Z,Z,Z,t_⟩
    ·refine zo g2 h fun h=>zQ<|dx<|yE Z (zA Z Z lA)<|yE Z (zD Z Z Z aW Z Z)<|zH Z<|yE Z (zn Z Z)<|yE Z (zA Z Z dE)<|yE Z (zD Z Z Z aW Z Z)<|yE Z (an Z Z Z Z)<|zH Z<|LO.nil<|zT ?_;refine zX Z (fun g3=>?_)<|fun g3=>?_
     ·refine zi g3 h fun h=>zk<|zT ?_;cases h;exact av 7 ⟨Z,Z,Z,Z,Z,Z,t_⟩
     ·refine zo g3 h fun h=>dx<|yE Z (zA Z Z lC)<|yE Z (zD Z Z Z aW Z Z)<|zH Z<|yE Z (zn Z Z)<|yE Z (zA Z Z jJ)<|yE Z (zD Z Z Z be Z Z)<|zH Z<|yE Z (zn Z Z)<|yE Z (zA Z Z dE)<|yE Z (zD Z Z Z aW Z Z)<|zb h fun v4 a4 h=>yE Z (yP Z Z Z (Pc a4) bG)<|yE Z (an Z Z Z Z)<|zH Z<|LO.nil<|zT ?_;cases h;exact av 7 ⟨Z,Z,Z,Z,Z,Z,t_⟩
   ·have h:=b3;clear p3;refine zX Z (fun g4=>?_)<|fun g4=>?_
    ·refine zi g4 h fun h=>zk<|af<|af<|zT<|zR<|yS Z (an Z Z Z Z)<|mN Z ?_;cases h;exact⟨_,rfl,av 6 ⟨Z,Z,Z,Z,t_⟩⟩
    ·refine zo g4 h fun h=>qR<|zM Z<|yS Z (zn Z Z)<|yS Z (zA Z Z aI)<|yS Z (zA Z Z bz)<|yS Z (zD Z Z Z bk Z Z)<|yS Z (aa.lenVM Z Z Z (by kernel_rfl))<|yS Z (an Z Z Z Z)<|mN Z ?_;refine zX Z (fun g5=>?_)<|fun g5=>?_
     ·refine zi g5 h fun h=>zR<|zM Z<|yS Z (zn Z Z)<|yS Z (zA Z Z aI)<|yS Z (zA Z Z eJ)<|yS Z (zs Z Z Z Z uS Z Z Z Z)<|zN<|af<|af<|zT<|zR<|yS Z (an Z Z Z Z)<|mN Z ?_;cases h;exact⟨_,rfl,av 6 ⟨Z,Z,Z,Z,t_⟩⟩
     ·refine zo g5 h fun h=>fB<|zK Z<|zK Z<|yG Z (fun H _=>zn Z Z)<|yG Z (fun H _=>zA Z Z aI)<|yG Z (fun H _=>zA Z Z bz)<|yF Z (zd Z Z Z bk Z Z) Z<|yF Z (zd Z Z Z eo Z Z) Z<|zb h fun v5 a5 h=>?_;refine yF (F:=[]) (s:=none) Z (fun H _=>yP Z Z Z (Gy a5) dG) Z ?_;refine yG Z (fun H _=>gR Z bq Z Z Z Z Z)<|zg h fun q1 h=>yF Z (cj.appendX cZ x1.o5 [v5] rfl Z Z Z Z bq q1) Z<|yG Z (fun H _=>zn Z Z)<|yG Z (fun H _=>zA Z Z aI)<|yG Z (fun H _=>zA Z Z bz)<|yF Z (zt Z Z Z Z bk Z Z Z) Z ?_;refine LF.nil ⟨by kernel_rfl,?_⟩;refine af<|af<|zT<|zR<|yS Z (an Z Z Z Z)<|mN Z ?_;cases h;exact⟨_,rfl,av 6 ⟨Z,Z,Z,Z,t_⟩⟩
  ·refine zo g1 h fun h=>zq<|ai<|ai<|zy<|zT ?_;cases h;obtain rfl:=(m1 _ rfl);exact av 6 trivial
 ·have h:=b2;clear p2;cases h;exact iL u2 .none ⟨rfl,rfl⟩
def m6 (inp:Vw)(c:Cf)(slot:Int)(v:Vw)(full:Bool):Option (Vw×Vw×Bool):=(Mr c v inp slot).bind fun v1=>bif full then some (v1.2.1,v1.1,true)else some (v1.2.1,v1.1,v1.2.2)
theorem sU {inp:Vw}{v:Vw}{o:List Of}{r_:Vw×Vw×Bool}(h:m6 inp c slot v full=some r_):LC prog 85 [.ptr 4 0,.p (iB inp)] [.box (ch c0),.box (ol n0),.box (cH in0),.box mP,.box [(iQ x.No),(iQ x.Tick),(kB v.B),(kV v.V),(kB x.In.B),(kV x.In.V),(jO 5 o),(uQ x.C.ID.1),(uQ x.C.ID.2),(iQ x.C.Slot),(iQ x.C.Revoked),(bQ full),(kI c.W),(uQ c.Seed),(iQ c.Epoch),(iQ c.Num),(iQ c.Den),(iQ slot),(kO tl)],.vec 9 (o.map cZ)] (Is (.p (iB r_.1)) [.box (ch c0),.box (ol n0),.box (cH in0),.box mP,.box [(iQ x.No),(iQ x.Tick),(kB r_.2.1.B),(kV r_.2.1.V),(kB x.In.B),(kV x.In.V),(jO 5 o),(uQ x.C.ID.1),(uQ x.C.ID.2),(iQ x.C.Slot),(iQ x.C.Revoked),(bQ r_.2.2),(kI c.W),(uQ c.Seed),(iQ c.Epoch),(iQ c.Num),(iQ c.Den),(iQ slot),(kO tl)],.vec 9 (o.map cZ)]):=by
 refine eN Tryz.func85 Z Z Z ?_;unfold m6 at h;refine qR<|yS Z (bx Z Z Z Z Z)<|yS Z (ze Z d5 Z Z)<|nT<|zQ<|LW.ent (bY.slot Z)<|LW.ent (bY.slot Z)<|fB<|zK Z<|yG Z (fun H _=>zn Z Z)<|yG Z (fun H _=>zA Z Z jJ)<|yF Z (zd Z Z Z be Z Z) Z<|zK Z<|yG Z (fun H _=>zn Z Z)<|yG Z (fun H _=>zA Z Z aI)<|yG Z (fun H _=>zA Z Z bI)<|yF Z (zd Z Z Z aG Z Z) Z<|yF Z (zd Z Z Z aG Z Z) Z<|zK Z<|yG Z (fun H _=>zn Z Z)<|yG Z (fun H _=>zA Z Z dE)<|yF Z (zd Z Z Z aW Z Z) Z<|zb h fun v1 a1 h=>?_;refine yF (F:=[]) (s:=none) Z (fun H _=>yP Z Z Z (QQ a1) we) Z ?_;refine zK Z<|yG Z (fun H _=>eW Z Z Z)<|yG Z (fun H _=>eW Z Z Z)<|yG Z (fun H _=>eW Z Z Z)<|yF Z (cj.alloc Z d5 (id:=8) Z) Z<|yF Z (cj.alloc Z d5 (id:=9) Z) Z<|yF Z (zt Z Z Z Z aG Z Z Z) Z<|yF Z (zt Z Z Z Z aG Z Z Z) Z<|zK Z ?_;refine LF.nil ⟨by kernel_rfl,?_⟩;refine zT<|zQ<|fB<|zK Z<|zK Z<|yF Z (zd Z Z Z aG Z Z) Z<|zK Z<|yG Z (fun H _=>zn Z Z)<|yG Z (fun H _=>zA Z Z aI)<|yG Z (fun H _=>zA Z Z eJ)<|yF Z (zd Z Z Z uS Z Z) Z<|zK Z ?_;refine LF.cases 35 Z (fun(g1:full=true)=>?_) (fun(g1:full=false)=>?_)
 ·refine zi g1 h fun h=>LF.sk Z Z Z (gd g1 Z) Z Z<|yG Z (fun H _=>bv Z (aJ g1 Z) Z)<|yG Z (fun H _=>zn Z Z)<|yG Z (fun H _=>zA Z Z aI)<|yG Z (fun H _=>zA Z Z bI)<|yF Z (zt Z Z Z Z aG Z Z Z) Z<|yG Z (fun H _=>zn Z Z)<|yG Z (fun H _=>zA Z Z aI)<|yG Z (fun H _=>zA Z Z eJ)<|yF Z (zt Z Z Z Z uS Z Z Z) Z ?_;refine LF.nil ⟨by kernel_rfl,?_⟩;refine zT<|qR<|yS Z (zD Z Z Z aG Z Z)<|yS Z (zs Z Z Z Z aG Z Z Z Z)<|nT<|zr ?_;obtain rfl:=zJ h;exact lu (env':=[]) (H':=[.box (ch c0),.box (ol n0),.box (cH in0),.box mP,.box [(iQ x.No),(iQ x.Tick),(kB v1.1.B),(kV v1.1.V),(kB x.In.B),(kV x.In.V),(jO 5 o),(uQ x.C.ID.1),(uQ x.C.ID.2),(iQ x.C.Slot),(iQ x.C.Revoked),(bQ true),(kI c.W),(uQ c.Seed),(iQ c.Epoch),(iQ c.Num),(iQ c.Den),(iQ slot),(kO tl)],.vec 9 (o.map cZ)]) (av 6 trivial) (.one (er Z Z)) Z<|⟨rfl,rfl⟩
 ·have h:=zO g1 h;refine LF.gd (F:=[]) (s:=none) Z Z Z (gd g1 Z) Z (fun H _=>aa.move Z Z) Z ?_;refine yG Z (fun H _=>aT Z (aJ g1 Z) Z)<|yG Z (fun H _=>zn Z Z)<|yG Z (fun H _=>zA Z Z aI)<|yG Z (fun H _=>zA Z Z bI)<|yF Z (zt Z Z Z Z aG Z Z Z) Z<|yG Z (fun H _=>zn Z Z)<|yG Z (fun H _=>zA Z Z aI)<|yG Z (fun H _=>zA Z Z eJ)<|yF Z (zt Z Z Z Z uS Z Z Z) Z ?_;refine LF.nil ⟨by kernel_rfl,?_⟩;refine zT<|qR<|yS Z (zD Z Z Z aG Z Z)<|yS Z (zs Z Z Z Z aG Z Z Z Z)<|nT<|zr ?_;obtain rfl:=zJ h;exact lu (env':=[]) (H':=[.box (ch c0),.box (ol n0),.box (cH in0),.box mP,.box [(iQ x.No),(iQ x.Tick),(kB v1.1.B),(kV v1.1.V),(kB x.In.B),(kV x.In.V),(jO 5 o),(uQ x.C.ID.1),(uQ x.C.ID.2),(iQ x.C.Slot),(iQ x.C.Revoked),(bQ v1.2.2),(kI c.W),(uQ c.Seed),(iQ c.Epoch),(iQ c.Num),(iQ c.Den),(iQ slot),(kO tl)],.vec 9 (o.map cZ)]) (av 6 trivial) (.one (er Z Z)) Z<|⟨rfl,rfl⟩
def wv (c:Cf)(v:Vw)(s:Int):Option ID:=(mS c v s).bind fun v1=>some v1
theorem I6 {v:Vw}{o:List Of}{r_:ID}(h:wv c v s=some r_):LC prog 86 [.ptr 4 0,(iQ s)] [.box (ch c0),.box (ol n0),.box (cH in0),.box mP,.box [(iQ x.No),(iQ x.Tick),(kB v.B),(kV v.V),(kB x.In.B),(kV x.In.V),(jO 5 o),(uQ x.C.ID.1),(uQ x.C.ID.2),(iQ x.C.Slot),(iQ x.C.Revoked),(bQ x.Full),(kI c.W),(uQ c.Seed),(iQ c.Epoch),(iQ c.Num),(iQ c.Den),(iQ slot),(kO tl)],.vec 9 (o.map cZ)] (Is (.p (aX r_)) [.box (ch c0),.box (ol n0),.box (cH in0),.box mP,.box [(iQ x.No),(iQ x.Tick),(kB v.B),(kV v.V),(kB x.In.B),(kV x.In.V),(jO 5 o),(uQ x.C.ID.1),(uQ x.C.ID.2),(iQ x.C.Slot),(iQ x.C.Revoked),(bQ x.Full),(kI c.W),(uQ c.Seed),(iQ c.Epoch),(iQ c.Num),(iQ c.Den),(iQ slot),(kO tl)],.vec 9 (o.map cZ)]):=by
 refine eN func86 Z Z Z ?_;unfold wv at h;refine qR<|yS Z (ze Z gP Z Z)<|nT<|zQ<|LW.drawLast (m:=11) (by kernel_rfl) (by kernel_rfl) (by kernel_rfl)<|zH Z<|yE Z (zn Z Z)<|yE Z (zA Z Z jJ)<|yE Z (zD Z Z Z be Z Z)<|zH Z<|yE Z (zn Z Z)<|yE Z (zA Z Z aI)<|yE Z (zA Z Z bI)<|yE Z (zD Z Z Z aG Z Z)<|zH Z<|zb h fun v1 a1 h=>yE Z (yP Z Z Z (JG a1) pA)<|LO.nil<|yS Z (zs Z Z Z Z aF Z Z Z Z)<|nT<|zr ?_;cases h;exact lu (env':=[]) (H':=[.box (ch c0),.box (ol n0),.box (cH in0),.box mP,.box [(iQ x.No),(iQ x.Tick),(kB v.B),(kV v.V),(kB x.In.B),(kV x.In.V),(jO 5 o),(uQ x.C.ID.1),(uQ x.C.ID.2),(iQ x.C.Slot),(iQ x.C.Revoked),(bQ x.Full),(kI c.W),(uQ c.Seed),(iQ c.Epoch),(iQ c.Num),(iQ c.Den),(iQ slot),(kO tl)],.vec 9 (o.map cZ)]) (av 6 trivial) (.one (er Z Z)) Z<|⟨rfl,rfl⟩
theorem HN {v:Vw}{r_:ID}(h:mS c v s=some r_):wv c v s=some r_:=by unfold wv;rw[h];rfl
def sS (c:Cf)(v:Vw)(s:Int):Option ID:=(mS c v s).bind fun v1=>some v1
theorem yD {v:Vw}{o:List Of}{r_:ID}(h:sS c v s=some r_):LC prog 86 [.ptr 4 0,(iQ s)] [.box (ch c0),.box (ol n0),.box (cH in0),.box mP,.box [(iQ x.No),(iQ x.Tick),(kB v.B),(kV v.V),(kB x.In.B),(kV x.In.V),(kO x.O),(uQ x.C.ID.1),(uQ x.C.ID.2),(iQ x.C.Slot),(iQ x.C.Revoked),(bQ x.Full),(kI c.W),(uQ c.Seed),(iQ c.Epoch),(iQ c.Num),(iQ c.Den),(iQ slot),(kO tl)],.vec 9 (o.map cZ)] (Is (.p (aX r_)) [.box (ch c0),.box (ol n0),.box (cH in0),.box mP,.box [(iQ x.No),(iQ x.Tick),(kB v.B),(kV v.V),(kB x.In.B),(kV x.In.V),(kO x.O),(uQ x.C.ID.1),(uQ x.C.ID.2),(iQ x.C.Slot),(iQ x.C.Revoked),(bQ x.Full),(kI c.W),(uQ c.Seed),(iQ c.Epoch),(iQ c.Num),(iQ c.Den),(iQ slot),(kO tl)],.vec 9 (o.map cZ)]):=by
 refine eN func86 Z Z Z ?_;unfold sS at h;refine qR<|yS Z (ze Z gP Z Z)<|nT<|zQ<|LW.drawLast (m:=11) (by kernel_rfl) (by kernel_rfl) (by kernel_rfl)<|zH Z<|yE Z (zn Z Z)<|yE Z (zA Z Z jJ)<|yE Z (zD Z Z Z be Z Z)<|zH Z<|yE Z (zn Z Z)<|yE Z (zA Z Z aI)<|yE Z (zA Z Z bI)<|yE Z (zD Z Z Z aG Z Z)<|zH Z<|zb h fun v1 a1 h=>yE Z (yP Z Z Z (JG a1) pA)<|LO.nil<|yS Z (zs Z Z Z Z aF Z Z Z Z)<|nT<|zr ?_;cases h;exact lu (env':=[]) (H':=[.box (ch c0),.box (ol n0),.box (cH in0),.box mP,.box [(iQ x.No),(iQ x.Tick),(kB v.B),(kV v.V),(kB x.In.B),(kV x.In.V),(kO x.O),(uQ x.C.ID.1),(uQ x.C.ID.2),(iQ x.C.Slot),(iQ x.C.Revoked),(bQ x.Full),(kI c.W),(uQ c.Seed),(iQ c.Epoch),(iQ c.Num),(iQ c.Den),(iQ slot),(kO tl)],.vec 9 (o.map cZ)]) (av 6 trivial) (.one (er Z Z)) Z<|⟨rfl,rfl⟩
theorem wi {v:Vw}{r_:ID}(h:mS c v s=some r_):sS c v s=some r_:=by unfold sS;rw[h];rfl
def rn (x:Nd)(c:Cf)(slot:Int)(tl:List Of):Option (Vw×Vw×Bool×List Of):=(IE c slot).bind fun v1=>bif x.No != v1 then some (x.V,x.In,x.Full,tl)else (m6 x.In c slot x.V x.Full).bind fun v2=>(mS c v2.2.1 (i64.wrap (slot-1))).bind fun v3=>(tg (Of.mk slot x.No (Bk.mk slot x.No v3 0) v2.2.1)).bind fun v4=>(vk (Bk.mk slot x.No v3 0)).bind fun v5=>(m6 v5 c slot v2.2.1 v2.2.2).bind fun v6=>some (v6.2.1,v2.1,v6.2.2,[v4])
theorem IX {o:List Of}{r_:Vw×Vw×Bool×List Of}(h:rn x c slot tl=some r_):LC prog 42 [.ptr 4 0] [.box (ch c0),.box (ol n0),.box (cH in0),.box mP,.box [(iQ x.No),(iQ x.Tick),(kB x.V.B),(kV x.V.V),(kB x.In.B),(kV x.In.V),(jO 5 o),(uQ x.C.ID.1),(uQ x.C.ID.2),(iQ x.C.Slot),(iQ x.C.Revoked),(bQ x.Full),(kI c.W),(uQ c.Seed),(iQ c.Epoch),(iQ c.Num),(iQ c.Den),(iQ slot),(kO tl)],.vec 9 (o.map cZ)] (Is (.tup []) [.box (ch c0),.box (ol n0),.box (cH in0),.box mP,.box [(iQ x.No),(iQ x.Tick),(kB r_.1.B),(kV r_.1.V),(kB r_.2.1.B),(kV r_.2.1.V),(jO 5 o),(uQ x.C.ID.1),(uQ x.C.ID.2),(iQ x.C.Slot),(iQ x.C.Revoked),(bQ r_.2.2.1),(kI c.W),(uQ c.Seed),(iQ c.Epoch),(iQ c.Num),(iQ c.Den),(iQ slot),(kO r_.2.2.2)],.vec 9 (o.map cZ)]):=by
 refine eN Tryz.func42 Z Z Z ?_;unfold rn at h;refine zQ<|zQ<|dx<|zH Z<|yE Z (zn Z Z)<|yE Z (zA Z Z aI)<|yE Z (zA Z Z dD)<|yE Z (zD Z Z Z aW Z Z)<|zH Z<|yE Z (zn Z Z)<|yE Z (zA Z Z jJ)<|yE Z (zD Z Z Z be Z Z)<|zH Z<|yE Z (zn Z Z)<|yE Z (zA Z Z dE)<|yE Z (zD Z Z Z aW Z Z)<|zb h fun v1 a1 h=>yE Z (yP Z Z Z (Pc a1) bG)<|yE Z (an Z Z Z Z)<|LO.nil<|zT ?_;refine zX Z (fun g1=>?_)<|fun g1=>?_
 ·refine zi g1 h fun h=>LW.ret<|ae ?_;cases h;exact aD .none<|⟨rfl,rfl⟩
 ·refine zo g1 h fun h=>zk<|zT<|qR<|zM Z<|zM Z<|zM Z<|yS Z (zn Z Z)<|yS Z (zA Z Z aI)<|yS Z (zA Z Z bp)<|yS Z (zD Z Z Z aG Z Z)<|zb h fun v2 a2 h=>yS Z (yC Z Z Z (sU (x:=Nd.mk x.No x.Tick x.V x.In [] x.C x.Full) (o:=o) (tl:=tl) a2))<|yS Z (zn Z Z)<|yS Z (zA Z Z aI)<|yS Z (zA Z Z bp)<|yS Z (zs Z Z Z Z aG Z Z Z Z)<|nT<|zQ<|LW.ent (bY.slot Z)<|fB<|zK Z<|yG Z (fun H _=>zn Z Z)<|yG Z (fun H _=>zA Z Z dE)<|yF Z (zd Z Z Z aW Z Z) Z<|zK Z<|yG Z (fun H _=>zn Z Z)<|yG Z (fun H _=>zA Z Z aI)<|yG Z (fun H _=>zA Z Z dD)<|yF Z (zd Z Z Z aW Z Z) Z<|zK Z<|zK Z<|yG Z (fun H _=>zn Z Z)<|yG Z (fun H _=>zA Z Z dE)<|yF Z (zd Z Z Z aW Z Z) Z<|yG Z (fun H _=>an Z Z Z Z)<|zb h fun v3 a3 h=>?_;refine yF Z (cj.preH (s:=none) (fun _=>yC Z Z Z (LC.pre (I6 (x:=Nd.mk x.No x.Tick v2.2.1 v2.1 [] x.C v2.2.2) (o:=o) (tl:=tl) (HN a3)) Z Z Z)) Z Z Z Z) Z ?_;refine yG Z (fun H _=>aa.build Z K8 Z Z Z)<|yF Z (cj.alloc Z uW (id:=6) Z) Z<|yF Z (zt Z Z Z Z ce Z Z Z) Z ?_;refine LF.nil ⟨by kernel_rfl,?_⟩;refine zT<|zQ<|fB<|zK Z<|zK Z<|yG Z (fun H _=>zn Z Z)<|yG Z (fun H _=>zA Z Z dE)<|yF Z (zd Z Z Z aW Z Z) Z<|zK Z<|yG Z (fun H _=>zn Z Z)<|yG Z (fun H _=>zA Z Z aI)<|yG Z (fun H _=>zA Z Z dD)<|yF Z (zd Z Z Z aW Z Z) Z<|yF Z (zd Z Z Z ce Z Z) Z<|zK Z<|yG Z (fun H _=>zn Z Z)<|yG Z (fun H _=>zA Z Z aI)<|yG Z (fun H _=>zA Z Z bI)<|yF Z (zd Z Z Z aG Z Z) Z<|yG Z (fun H _=>aa.build Z wA Z Z Z)<|zb h fun v4 a4 h=>?_;refine yF (F:=[]) (s:=none) Z (fun H _=>yP Z Z Z (Gy a4) dG) Z ?_;refine yG Z (fun H _=>gR Z bq Z Z Z Z Z)<|yG Z (fun H _=>zn Z Z)<|yG Z (fun H _=>zA Z Z qr)<|yF Z (zt Z Z Z Z bk Z Z Z) Z ?_;refine LF.nil ⟨by kernel_rfl,?_⟩;refine zT<|zR<|zM Z<|yS Z (zD Z Z Z ce Z Z)<|zb h fun v5 a5 h=>yS Z (yP Z Z Z (JN a5) dG)<|zb h fun v6 a6 h=>yS Z (yC Z Z Z (LC.pre (sU (x:=Nd.mk x.No x.Tick v2.2.1 v2.1 [] x.C v2.2.2) (o:=o) (tl:=[v4]) a6) Z Z Z))<|zN ?_;obtain rfl:=zJ h;exact iL (env':=[]) (H':=[.box (ch c0),.box (ol n0),.box (cH in0),.box mP,.box [(iQ x.No),(iQ x.Tick),(kB v6.2.1.B),(kV v6.2.1.V),(kB v2.1.B),(kV v2.1.V),(jO 5 o),(uQ x.C.ID.1),(uQ x.C.ID.2),(iQ x.C.Slot),(iQ x.C.Revoked),(bQ v6.2.2),(kI c.W),(uQ c.Seed),(iQ c.Epoch),(iQ c.Num),(iQ c.Den),(iQ slot),.p (.slice 9 ([v4].map cZ))],.vec 9 (o.map cZ)]) (av 6 trivial) .none<|⟨rfl,rfl⟩
structure dJ where
 t11:Int
 w_2:List Bk
 w_3:List Vt
 w_4:List Bk
 w_5:List Vt
 w_11:Bool
def ic (o:List Of)(c:Cf)(slot:Int)(x1:dJ):Option (dJ⊕dJ):=bif decide (x1.t11<(o.length:Int))then (ix o x1.t11).bind fun y1=>(vk y1.B).bind fun v2=>(F9 y1.V v2).bind fun v3=>(m6 v3 c slot (Vw.mk x1.w_2 x1.w_3) x1.w_11).bind fun v4=>(F9 (Vw.mk x1.w_4 x1.w_5) v4.1).bind fun v5=>some (.inl (dJ.mk (i64.wrap (x1.t11+1)) v4.2.1.B v4.2.1.V v5.B v5.V v4.2.2))else some (.inr (dJ.mk x1.t11 x1.w_2 x1.w_3 x1.w_4 x1.w_5 x1.w_11))
def n4 (x:Nd)(o:List Of)(c:Cf)(slot:Int):Option (Vw×Vw×Bool):=(iter (ic o c slot) aY (dJ.mk 0 x.V.B x.V.V x.In.B x.In.V x.Full)).bind fun v1=>(L7 c slot x.No).bind fun v6=>bif v6 then (mS c (Vw.mk v1.w_2 v1.w_3) (i64.wrap (slot-1))).bind fun v7=>(F9 (Vw.mk v1.w_4 v1.w_5) (Vw.mk [] [Vt.mk x.No slot v7])).bind fun v8=>some (Vw.mk v1.w_2 v1.w_3,v8,v1.w_11)else some (Vw.mk v1.w_2 v1.w_3,Vw.mk v1.w_4 v1.w_5,v1.w_11)
theorem GH {o:List Of}{r_:Vw×Vw×Bool}(hr:n4 x o c slot=some r_):LC prog 43 [.ptr 4 0] [.box (ch c0),.box (ol n0),.box (cH in0),.box mP,.box [(iQ x.No),(iQ x.Tick),(kB x.V.B),(kV x.V.V),(kB x.In.B),(kV x.In.V),(jO 5 o),(uQ x.C.ID.1),(uQ x.C.ID.2),(iQ x.C.Slot),(iQ x.C.Revoked),(bQ x.Full),(kI c.W),(uQ c.Seed),(iQ c.Epoch),(iQ c.Num),(iQ c.Den),(iQ slot),(kO tl)],.vec 9 (o.map cZ)] (Is (.tup []) [.box (ch c0),.box (ol n0),.box (cH in0),.box mP,.box [(iQ x.No),(iQ x.Tick),(kB r_.1.B),(kV r_.1.V),(kB r_.2.1.B),(kV r_.2.1.V),(kO ([]:List Of)),(uQ x.C.ID.1),(uQ x.C.ID.2),(iQ x.C.Slot),(iQ x.C.Revoked),(bQ r_.2.2),(kI c.W),(uQ c.Seed),(iQ c.Epoch),(iQ c.Num),(iQ c.Den),(iQ slot),(kO tl)],.vec 9 (o.map cZ)]):=by
 refine eN Tryz.func43 Z Z Z ?_;unfold n4 at hr;refine zQ<|qR<|zM Z<|yS Z (zn Z Z)<|yS Z (zA Z Z aI)<|yS Z (zA Z Z bz)<|yS Z (zD Z Z Z bk Z Z)<|yS Z (aa.lenVM Z Z Z (by kernel_rfl))<|mN Z ?_;obtain⟨v1,p1,q1⟩:=zB hr;clear hr;refine LW.tail (E:=[(0,.ptr 4 0)]) (O:=[.box (ch c0),.box (ol n0),.box (cH in0),.box mP,.box [(iQ x.No),(iQ x.Tick),(kB v1.w_2),(kV v1.w_3),(kB v1.w_4),(kV v1.w_5),(jO 5 o),(uQ x.C.ID.1),(uQ x.C.ID.2),(iQ x.C.Slot),(iQ x.C.Revoked),(bQ v1.w_11),(kI c.W),(uQ c.Seed),(iQ c.Epoch),(iQ c.Num),(iQ c.Den),(iQ slot),(kO tl)],.vec 9 (o.map cZ)]) ?_<|fun e1 b1 u1=>?_
 ·refine LW.block ?_;refine LW.iterB (E:=fun x1:dJ=>[(0,.ptr 4 0),(9,(jO 5 o)),(10,.p (.int .i64 (o.length:Int))),(11,(iQ x1.t11))]) (O:=fun x1=>[.box (ch c0),.box (ol n0),.box (cH in0),.box mP,.box [(iQ x.No),(iQ x.Tick),(kB x1.w_2),(kV x1.w_3),(kB x1.w_4),(kV x1.w_5),(jO 5 o),(uQ x.C.ID.1),(uQ x.C.ID.2),(iQ x.C.Slot),(iQ x.C.Revoked),(bQ x1.w_11),(kI c.W),(uQ c.Seed),(iQ c.Epoch),(iQ c.Num),(iQ c.Den),(iQ slot),(kO tl)],.vec 9 (o.map cZ)]) p1 (av 6 ⟨Z,Z,Z,Z,t_⟩)<|fun x1 z1 hr m1=>?_;unfold ic at hr;refine qR<|yS Z (an Z Z Z Z)<|nT<|zQ ?_;refine zX Z (fun g1=>?_)<|fun g1=>?_
  ·refine zi g1 hr fun hr=>zk<|zT<|zQ<|zl<|qR<|zb hr fun y1 j1 hr=>yS Z (aa.indexAddrVX Z Z Z Z bq j1)<|yS Z (aa.loadVX Z Z Z eo j1 Z Z Z Z)<|yS Z (ze Z pE Z Z)<|yS Z (zs Z Z Z Z eo Z Z Z Z)<|nT ?_;refine LW.drawWJ (z:=4) (e:=18) (J:=(fun o_=>∃a_ b_ c_:LV,o_=.box [(iQ x.No),(iQ x.Tick),a_,b_,(kB x1.w_4),(kV x1.w_5),(jO 5 o),(uQ x.C.ID.1),(uQ x.C.ID.2),(iQ x.C.Slot),(iQ x.C.Revoked),c_,(kI c.W),(uQ c.Seed),(iQ c.Epoch),(iQ c.Num),(iQ c.Den),(iQ slot),(kO tl)])) (by kernel_rfl) (by kernel_rfl) (fun o_ h_=>⟨_,_,_,(zJ h_).symm⟩) ?_;refine kF.mv Z<|kF.mv Z ?_;refine kF.st (F:=[]) (s:=none) Z Z Z (fun H _=>aa.nilCheck Z Z) (fun _=>trivial) Z ?_;refine kF.st (F:=[]) (s:=none) Z Z Z (fun H _=>zA Z Z aI) (fun _=>trivial) Z ?_;refine kF.st (F:=[]) (s:=none) Z Z Z (fun H _=>zA Z Z bp) (fun _=>trivial) Z ?_;refine kF.look Z Z Z (by kernel_rfl) Z (fun H_ y_ hy_ hj_=>by obtain⟨a_,b_,c_,rfl⟩:=hj_;exact zD Z Z hy_ aG Z Z) ?_;refine kF.mv Z ?_;refine kF.st (F:=[]) (s:=none) Z Z Z (fun H _=>zA Z Z fp) (fun _=>trivial) Z ?_;refine kF.st Z Z Z (cj.load Z Z Z aG Z Z) (fun _=>trivial) Z ?_;refine kF.st (F:=[]) (s:=none) Z Z Z (fun H _=>zA Z Z lD) (fun _=>trivial) Z ?_;refine kF.st Z Z Z (cj.load Z Z Z ce Z Z) (fun _=>trivial) Z ?_;obtain⟨v2,a2,hr⟩:=zB hr;refine kF.st (F:=[]) (s:=none) Z Z Z (fun H _=>yP Z Z Z (JN a2) dG) (fun _=>trivial) Z ?_;obtain⟨v3,a3,hr⟩:=zB hr;refine kF.st (F:=[]) (s:=none) Z Z Z (fun H _=>yP Z Z Z (Lh a3) bG) (fun _=>trivial) Z ?_;obtain⟨v4,a4,hr⟩:=zB hr;refine kF.st Z Z Z (cj.preH (s:=some (4,.box [(iQ x.No),(iQ x.Tick),(kB v4.2.1.B),(kV v4.2.1.V),(kB x1.w_4),(kV x1.w_5),(jO 5 o),(uQ x.C.ID.1),(uQ x.C.ID.2),(iQ x.C.Slot),(iQ x.C.Revoked),(bQ v4.2.2),(kI c.W),(uQ c.Seed),(iQ c.Epoch),(iQ c.Num),(iQ c.Den),(iQ slot),(kO tl)])) (fun _=>zC Z Z Z (by kernel_rfl) (LC.pre (sU (x:=Nd.mk x.No x.Tick (Vw.mk x1.w_2 x1.w_3) (Vw.mk x1.w_4 x1.w_5) [] x.C x1.w_11) (o:=o) (tl:=tl) a4) Z Z Z)) Z Z Z Z) (fun _ _=>⟨_,_,_,rfl⟩) Z ?_;obtain⟨v5,a5,hr⟩:=zB hr;refine kF.st (F:=[]) (s:=none) Z Z Z (fun H _=>yP Z Z Z (Lh a5) bG) (fun _=>trivial) Z ?_;refine kF.st (F:=[]) (s:=none) Z Z Z (fun H _=>aa.nilCheck Z Z) (fun _=>trivial) Z ?_;refine kF.st (F:=[]) (s:=none) Z Z Z (fun H _=>zA Z Z aI) (fun _=>trivial) Z ?_;refine kF.st (F:=[]) (s:=none) Z Z Z (fun H _=>zA Z Z bp) (fun _=>trivial) Z ?_;refine kF.st Z Z Z (cj.store Z Z Z Z aG Z Z Z) (fun h=>absurd h (by decide)) Z ?_;refine kF.nil ⟨by kernel_rfl,?_⟩;refine af<|zT<|zR<|yS Z (an Z Z Z Z)<|mN Z ?_;cases hr;exact⟨_,rfl,av 6 ⟨Z,Z,Z,Z,t_⟩⟩
  ·refine zo g1 hr fun hr=>zq<|ai<|ai<|zy<|zT ?_;cases hr;obtain rfl:=(m1 _ rfl);exact av 6 ⟨Z,t_⟩
 ·have hr:=q1;clear p1;refine zT<|LW.weak u1<|qR<|zM Z<|yS Z (zn Z Z)<|yS Z (zA Z Z aI)<|yS Z (zA Z Z bz)<|yS Z (zs Z Z Z Z bk Z Z Z Z)<|nT<|zQ<|LW.ent (bY.zsCell (i:=4) (j:=6) (m:=9) Z Z Z Z)<|dx<|zH Z<|yE Z (zn Z Z)<|yE Z (zA Z Z jJ)<|yE Z (zD Z Z Z be Z Z)<|zH Z<|yE Z (zn Z Z)<|yE Z (zA Z Z dE)<|yE Z (zD Z Z Z aW Z Z)<|zH Z<|yE Z (zn Z Z)<|yE Z (zA Z Z aI)<|yE Z (zA Z Z dD)<|yE Z (zD Z Z Z aW Z Z)<|zb hr fun v6 a6 hr=>yE Z (yP Z Z Z (Qv a6) pA)<|LO.nil<|zT ?_;refine zX Z (fun g2=>?_)<|fun g2=>?_
  ·refine zi g2 hr fun hr=>zQ<|LW.ent (bY.slot Z)<|fB<|zK Z<|yG Z (fun H _=>zn Z Z)<|yG Z (fun H _=>zA Z Z aI)<|yG Z (fun H _=>zA Z Z dD)<|yF Z (zd Z Z Z aW Z Z) Z<|zK Z<|yG Z (fun H _=>zn Z Z)<|yG Z (fun H _=>zA Z Z dE)<|yF Z (zd Z Z Z aW Z Z) Z<|zK Z<|zK Z<|yG Z (fun H _=>zn Z Z)<|yG Z (fun H _=>zA Z Z dE)<|yF Z (zd Z Z Z aW Z Z) Z<|yG Z (fun H _=>an Z Z Z Z)<|zb hr fun v7 a7 hr=>?_;refine yF Z (cj.preH (s:=none) (fun _=>zC Z Z Z (by kernel_rfl) (LC.pre (yD (x:=Nd.mk x.No x.Tick (Vw.mk v1.w_2 v1.w_3) (Vw.mk v1.w_4 v1.w_5) [] x.C v1.w_11) (o:=o) (tl:=tl) (wi a7)) Z Z Z)) Z Z Z Z) Z ?_;refine yG Z (fun H _=>aa.build Z K9 Z Z Z)<|yF Z (cj.alloc Z uX (id:=6) Z) Z<|yF Z (zt Z Z Z Z cB Z Z Z) Z ?_;refine LF.nil ⟨by kernel_rfl,?_⟩;refine zT<|fB<|zK Z<|zK Z<|yG Z (fun H _=>zn Z Z)<|yG Z (fun H _=>zA Z Z aI)<|yG Z (fun H _=>zA Z Z bp)<|yF Z (zd Z Z Z aG Z Z) Z<|yF Z (zd Z Z Z cB Z Z) Z<|yG Z (fun H _=>gR Z bC Z Z Z Z Z)<|yG Z (fun H _=>aa.build Z nh Z Z Z)<|zb hr fun v8 a8 hr=>?_;refine yF (F:=[]) (s:=none) Z (fun H _=>zC Z Z Z (by kernel_rfl) (zp (Lh a8) (.cons zv (.cons (Conv.agg (.cons Conv.zs dG)) .nil)))) Z ?_;refine yG Z (fun H _=>zn Z Z)<|yG Z (fun H _=>zA Z Z aI)<|yG Z (fun H _=>zA Z Z bp)<|yF Z (zt Z Z Z Z aG Z Z Z) Z ?_;refine LF.nil ⟨by kernel_rfl,?_⟩;obtain rfl:=zJ hr;exact iL (env':=[]) (H':=[.box (ch c0),.box (ol n0),.box (cH in0),.box mP,.box [(iQ x.No),(iQ x.Tick),(kB v1.w_2),(kV v1.w_3),(kB v8.B),(kV v8.V),(kO ([]:List Of)),(uQ x.C.ID.1),(uQ x.C.ID.2),(iQ x.C.Slot),(iQ x.C.Revoked),(bQ v1.w_11),(kI c.W),(uQ c.Seed),(iQ c.Epoch),(iQ c.Num),(iQ c.Den),(iQ slot),(kO tl)],.vec 9 (o.map cZ)]) (av 6 trivial) .none<|⟨rfl,rfl⟩
  ·refine zo g2 hr fun hr=>LW.skip ?_;cases hr;exact i7 .none<|⟨rfl,rfl⟩
def oX (x:Nd)(c:Cf)(slot:Int):Option (Vw×Vw×Cu×Bool):=(m6 x.In c slot x.V x.Full).bind fun v1=>(mS c v1.2.1 slot).bind fun v2=>(pR c v1.2.1 slot v2).bind fun v3=>bif few v1.2.1.B then some (v1.2.1,v1.1,dK x.C v1.2.1.B v2 v3.1 v3.2 slot,v1.2.2)else none
theorem I5 {o:List Of}{r_:Vw×Vw×Cu×Bool}(h:oX x c slot=some r_):LC prog 44 [.ptr 4 0] [.box (ch c0),.box (ol n0),.box (cH in0),.box mP,.box [(iQ x.No),(iQ x.Tick),(kB x.V.B),(kV x.V.V),(kB x.In.B),(kV x.In.V),(jO 5 o),(uQ x.C.ID.1),(uQ x.C.ID.2),(iQ x.C.Slot),(iQ x.C.Revoked),(bQ x.Full),(kI c.W),(uQ c.Seed),(iQ c.Epoch),(iQ c.Num),(iQ c.Den),(iQ slot),(kO tl)],.vec 9 (o.map cZ)] (Is (.tup []) [.box (ch c0),.box (ol n0),.box (cH in0),.box mP,.box [(iQ x.No),(iQ x.Tick),(kB r_.1.B),(kV r_.1.V),(kB r_.2.1.B),(kV r_.2.1.V),(kO ([]:List Of)),(uQ r_.2.2.1.ID.1),(uQ r_.2.2.1.ID.2),(iQ r_.2.2.1.Slot),(iQ r_.2.2.1.Revoked),(bQ r_.2.2.2),(kI c.W),(uQ c.Seed),(iQ c.Epoch),(iQ c.Num),(iQ c.Den),(iQ slot),(kO tl)],.vec 9 (o.map cZ)]):=by
 refine eN Tryz.func44 Z Z Z ?_;unfold oX at h;refine qR<|zM Z<|zM Z<|zM Z<|yS Z (zn Z Z)<|yS Z (zA Z Z aI)<|yS Z (zA Z Z bp)<|yS Z (zD Z Z Z aG Z Z)<|zb h fun v1 a1 h=>yS Z (yC Z Z Z (sU (x:=Nd.mk x.No x.Tick x.V x.In [] x.C x.Full) (o:=o) (tl:=tl) a1))<|yS Z (zn Z Z)<|yS Z (zA Z Z aI)<|yS Z (zA Z Z bp)<|yS Z (zs Z Z Z Z aG Z Z Z Z)<|nT<|qR<|zM Z<|yS Z (zn Z Z)<|yS Z (zA Z Z aI)<|yS Z (zA Z Z bz)<|yS Z (zs Z Z Z Z bk Z Z Z Z)<|nT<|zQ<|LW.ent (bY.zsCell (i:=4) (j:=6) (m:=9) Z Z Z Z)<|zR<|zM Z<|zM Z<|yS Z (zn Z Z)<|yS Z (zA Z Z dE)<|yS Z (zD Z Z Z aW Z Z)<|zb h fun v2 a2 h=>yS Z (yC Z Z Z (yD (x:=Nd.mk x.No x.Tick v1.2.1 v1.1 [] x.C v1.2.2) (o:=o) (tl:=tl) (wi a2)))<|yS Z (ze Z gP Z Z)<|yS Z (zs Z Z Z Z aF Z Z Z Z)<|nT<|zQ<|LW.ent (bY.slot Z)<|fB<|zK Z<|yG Z (fun H _=>zn Z Z)<|yG Z (fun H _=>zA Z Z jJ)<|yF Z (zd Z Z Z be Z Z) Z<|zK Z<|yG Z (fun H _=>zn Z Z)<|yG Z (fun H _=>zA Z Z aI)<|yG Z (fun H _=>zA Z Z bI)<|yF Z (zd Z Z Z aG Z Z) Z<|zK Z<|yG Z (fun H _=>zn Z Z)<|yG Z (fun H _=>zA Z Z dE)<|yF Z (zd Z Z Z aW Z Z) Z<|yF Z (zd Z Z Z aF Z Z) Z<|zb h fun v3 a3 h=>?_;refine yF (F:=[]) (s:=none) Z (fun H _=>yP Z Z Z (Nm a3) we) Z ?_;refine zK Z<|yG Z (fun H _=>eW Z Z Z)<|yG Z (fun H _=>eW Z Z Z)<|yF Z (cj.alloc Z gP (id:=7) Z) Z<|yF Z (zt Z Z Z Z aF Z Z Z) Z<|zK Z ?_;refine LF.nil ⟨by kernel_rfl,?_⟩;refine zT<|fB<|zK Z<|zK Z<|yG Z (fun H _=>zn Z Z)<|yG Z (fun H _=>zA Z Z aI)<|yG Z (fun H _=>zA Z Z gJ)<|yF Z (zd Z Z Z gv Z Z) Z<|zK Z<|yG Z (fun H _=>zn Z Z)<|yG Z (fun H _=>zA Z Z aI)<|yG Z (fun H _=>zA Z Z bI)<|yG Z (fun H _=>zA Z Z aK)<|yF Z (zd Z Z Z bM Z Z) Z<|yF Z (zd Z Z Z aF Z Z) Z<|yF Z (zd Z Z Z aF Z Z) Z<|zK Z<|zK Z<|yG Z (fun H _=>zn Z Z)<|yG Z (fun H _=>zA Z Z dE)<|yF Z (zd Z Z Z aW Z Z) Z<|zg h fun q1 h=>?_;refine yF (F:=[]) (s:=none) Z (fun H _=>yP Z Z Z (QF (c:=x.C) (l:=v1.2.1.B) (head:=v2) (found:=v3.1) (is:=v3.2) (slot:=slot) (Bf q1)) (.cons zv BP)) Z ?_;refine yG Z (fun H _=>zn Z Z)<|yG Z (fun H _=>zA Z Z aI)<|yG Z (fun H _=>zA Z Z gJ)<|yF Z (zt Z Z Z Z gv Z Z Z) Z ?_;refine LF.nil ⟨by kernel_rfl,?_⟩;obtain rfl:=zJ h;exact iL (env':=[]) (H':=[.box (ch c0),.box (ol n0),.box (cH in0),.box mP,.box [(iQ x.No),(iQ x.Tick),(kB v1.2.1.B),(kV v1.2.1.V),(kB v1.1.B),(kV v1.1.V),(kO ([]:List Of)),.p (.int .u64 (((dK x.C v1.2.1.B v2 v3.1 v3.2 slot).ID).1)),.p (.int .u64 (((dK x.C v1.2.1.B v2 v3.1 v3.2 slot).ID).2)),.p (.int .i64 ((dK x.C v1.2.1.B v2 v3.1 v3.2 slot).Slot)),.p (.int .i64 ((dK x.C v1.2.1.B v2 v3.1 v3.2 slot).Revoked)),(bQ v1.2.2),(kI c.W),(uQ c.Seed),(iQ c.Epoch),(iQ c.Num),(iQ c.Den),(iQ slot),(kO tl)],.vec 9 (o.map cZ)]) (av 6 trivial) .none<|⟨rfl,rfl⟩
theorem qb {b:Bool}{p:Prop}(h1:b=true->p)(h2:b=false->p):p:=by cases b <;>simp_all
theorem df (h:(a==b)=true):LV.p (.int .i64 a)=(iQ b):=by rw[eq_of_beq h]
structure eY where
 t57:Int
 o5:List Of
def kW (n:Nd)(x1:eY):Option (eY⊕eY):=bif decide (x1.t57<(n.O.length:Int))then (ix n.O x1.t57).bind fun y1=>(tg y1).bind fun v6=>bif bJ x1.o5.length [v6].length 104 then some (.inl (eY.mk (i64.wrap (x1.t57+1)) (x1.o5++[v6])))else none else some (.inr (eY.mk x1.t57 x1.o5))
def ko (c:Cf)(n:Nd)(v_in:Vw)(o:List Of):Option (Nd×(List Of)):=((EC c).bind fun v2=>bif !v2 then some true else bif decide (n.Tick<3)then some true else some (decide ((i64.wrap (n.Tick.tdiv 3))>1048576))).bind fun v1=>bif v1 then (te n.V).bind fun v3=>(te n.In).bind fun v4=>(iter (kW n) aY (eY.mk 0 ([]:List Of))).bind fun v5=>some (Nd.mk n.No n.Tick v3 v4 v5.o5 n.C n.Full,[])else (L8 c v_in).bind fun v7=>(F9 n.In v7).bind fun v8=>(yp o (Nd.mk n.No n.Tick n.V v8 n.O n.C n.Full) c (i64.wrap (n.Tick.tdiv 3))).bind fun v9=>bif (n.Tick.tmod 3)==0 then (rn (Nd.mk n.No n.Tick n.V v8 [] n.C v9.2) c (i64.wrap (n.Tick.tdiv 3)) ([]:List Of)).bind fun v10=>some (Nd.mk n.No (i64.wrap (n.Tick+1)) v10.1 v10.2.1 v9.1 n.C v10.2.2.1,v10.2.2.2)else bif (n.Tick.tmod 3)==1 then (n4 (Nd.mk n.No n.Tick n.V v8 [] n.C v9.2) v9.1 c (i64.wrap (n.Tick.tdiv 3))).bind fun v11=>some (Nd.mk n.No (i64.wrap (n.Tick+1)) v11.1 v11.2.1 [] n.C v11.2.2,[])else bif (n.Tick.tmod 3)==2 then (oX (Nd.mk n.No n.Tick n.V v8 [] n.C v9.2) c (i64.wrap (n.Tick.tdiv 3))).bind fun v12=>some (Nd.mk n.No (i64.wrap (n.Tick+1)) v12.1 v12.2.1 [] v12.2.2.1 v12.2.2.2,[])else none
theorem M6 {n:Nd}{v_in:Vw}{o:List Of}{r_:Nd×(List Of)}(h:ko c n v_in o=some r_):aq prog 10 [gQ c,du n,iB v_in,.slice 9 (o.map cZ)] [du r_.1,.slice 9 (r_.2.map cZ)]:=by
 refine zh Tryz.func10 Z Z Z Z ?_;unfold ko at h;refine qR<|yS Z (bx Z Z Z Z Z)<|yS Z (bx Z Z Z Z Z)<|yS Z (bx Z Z Z Z Z)<|yS Z (ze Z eU Z Z)<|mN Z<|qR<|yS Z (zD Z Z Z aM Z Z)<|yS Z (zD Z Z Z be Z Z)<|yS Z (zA Z Z cv)<|yS Z (zD Z Z Z aW Z Z)<|yS Z (aa.quo Z Z Z (by decide))<|yS Z (aa.build Z K2 Z Z Z)<|yS Z (bx Z Z Z Z Z)<|mN Z<|zQ ?_;obtain⟨v1,p1,b1⟩:=zB h;clear h;refine LW.cut (E:=[(3,(kO o)),(4,.ptr 0 0),(5,.ptr 1 0),(6,.ptr 2 0),(8,.ptr 3 0),(9,.zs),(10,.ptr 4 0),(35,(bQ v1))]) (O:=[.box (ch c),.box (ol n),.box (cH v_in),.box mP,.box [(iQ n.No),(iQ n.Tick),(kB n.V.B),(kV n.V.V),(kB n.In.B),(kV n.In.V),(kO n.O),(uQ n.C.ID.1),(uQ n.C.ID.2),(iQ n.C.Slot),(iQ n.C.Revoked),(bQ n.Full),(kI c.W),(uQ c.Seed),(iQ c.Epoch),(iQ c.Num),(iQ c.Den),.p (.int .i64 (i64.wrap (n.Tick.tdiv 3))),.zs]]) ?_ ?_
 ·have h:=p1;refine zR<|yS Z (zD Z Z Z be Z Z)<|zb h fun v2 a2 h=>yS Z (yP Z Z Z (Mb a2) dG)<|yS Z (aa.not Z Z)<|zM Z ?_;refine zc 24 Z (fun g1=>?_)<|fun g1=>?_
  ·refine zi g1 h fun h=>yU Z (gd g1 Z) Z<|yU Z (gd g1 Z) Z<|yU Z (gd g1 Z) Z<|yS Z (bv Z (aJ g1 Z) Z)<|zM Z<|aw Z<|aw Z<|aw Z<|aw Z<|aw Z<|yS Z (bv Z Z Z)<|nT ?_;cases h;exact av 5 ⟨Z,Z,Z,Z,Z,Z,Z,Z,t_⟩
  ·refine zo g1 h fun h=>yV Z (gd g1 Z) (zA Z Z cv)<|yV Z (gd g1 Z) (zD Z Z Z aW Z Z)<|yV Z (gd g1 Z) (an Z Z Z Z)<|yS Z (aT Z (aJ g1 Z) Z)<|zM Z ?_;refine zc 29 Z (fun g2=>?_)<|fun g2=>?_
   ·refine zi g2 h fun h=>yU Z (gd g2 Z) Z<|yU Z (gd g2 Z) Z<|yU Z (gd g2 Z) Z<|yU Z (gd g2 Z) Z<|yU Z (gd g2 Z) Z<|yS Z (bv Z (aJ g2 Z) Z)<|nT ?_;cases h;exact av 5 ⟨Z,Z,Z,Z,Z,Z,Z,Z,t_⟩
   ·refine zo g2 h fun h=>yV Z (gd g2 Z) (zm Z Z)<|yV Z (gd g2 Z) (zn Z Z)<|yV Z (gd g2 Z) (zA Z Z dE)<|yV Z (gd g2 Z) (zD Z Z Z aW Z Z)<|yV Z (gd g2 Z) (an Z Z Z Z)<|yS Z (aT Z (aJ g2 Z) Z)<|nT ?_;cases h;exact av 5 ⟨Z,Z,Z,Z,Z,Z,Z,Z,t_⟩
 ·have h:=b1;clear p1;refine zX Z (fun g3=>?_)<|fun g3=>?_
  ·refine zi g3 h fun h=>zQ<|fB<|zK Z<|zK Z<|yG Z (fun H _=>zA Z Z bI)<|yF Z (zd Z Z Z aG Z Z) Z<|zb h fun v3 a3 h=>?_;refine yF (F:=[]) (s:=none) Z (fun H _=>yP Z Z Z (Gw a3) dG) Z ?_;refine yG Z (fun H _=>zA Z Z bp)<|yF Z (zd Z Z Z aG Z Z) Z<|zb h fun v4 a4 h=>?_;refine yF (F:=[]) (s:=none) Z (fun H _=>yP Z Z Z (Gw a4) dG) Z ?_;refine yG Z (fun H _=>zn Z Z)<|yG Z (fun H _=>zA Z Z aI)<|yG Z (fun H _=>zA Z Z bI)<|yF Z (zt Z Z Z Z aG Z Z Z) Z<|yG Z (fun H _=>zn Z Z)<|yG Z (fun H _=>zA Z Z aI)<|yG Z (fun H _=>zA Z Z bp)<|yF Z (zt Z Z Z Z aG Z Z Z) Z ?_;refine LF.nil ⟨by kernel_rfl,?_⟩;refine zT<|qR<|zM Z<|yS Z (zn Z Z)<|yS Z (zA Z Z aI)<|yS Z (zA Z Z bz)<|yS Z (zs Z Z Z Z bk Z Z Z Z)<|nT<|zQ<|zQ<|LW.ent (bY.lazyCell (i:=4) (j:=6) (m:=9) Z Z Z Z Z Z)<|zR<|yS Z (zA Z Z bz)<|yS Z (zD Z Z Z bk Z Z)<|yS Z (ck Z Z)<|mN Z ?_;obtain⟨v5,p5,b5⟩:=zB h;clear h;refine LW.tail (E:=[(3,(kO o)),(4,.ptr 0 0),(5,.ptr 1 0),(6,.ptr 2 0),(8,.ptr 3 0),(9,.zs),(10,.ptr 4 0)]) (O:=[.box (ch c),.box (ol n),.box (cH v_in),.box mP,.box [(iQ n.No),(iQ n.Tick),(kB v3.B),(kV v3.V),(kB v4.B),(kV v4.V),(jO 5 v5.o5),(uQ n.C.ID.1),(uQ n.C.ID.2),(iQ n.C.Slot),(iQ n.C.Revoked),(bQ n.Full),(kI c.W),(uQ c.Seed),(iQ c.Epoch),(iQ c.Num),(iQ c.Den),.p (.int .i64 (i64.wrap (n.Tick.tdiv 3))),.zs],.vec 9 (v5.o5.map cZ)]) ?_<|fun e5 c5 u5=>?_
   ·refine LW.block ?_;refine LW.iterB (E:=fun x1:eY=>[(3,(kO o)),(4,.ptr 0 0),(5,.ptr 1 0),(6,.ptr 2 0),(8,.ptr 3 0),(9,.zs),(10,.ptr 4 0),(55,(kO n.O)),(56,.p (.int .i64 (n.O.length:Int))),(57,(iQ x1.t57))]) (O:=fun x1=>[.box (ch c),.box (ol n),.box (cH v_in),.box mP,.box [(iQ n.No),(iQ n.Tick),(kB v3.B),(kV v3.V),(kB v4.B),(kV v4.V),(jO 5 x1.o5),(uQ n.C.ID.1),(uQ n.C.ID.2),(iQ n.C.Slot),(iQ n.C.Revoked),(bQ n.Full),(kI c.W),(uQ c.Seed),(iQ c.Epoch),(iQ c.Num),(iQ c.Den),.p (.int .i64 (i64.wrap (n.Tick.tdiv 3))),.zs],.vec 9 (x1.o5.map cZ)]) p5 (av 6 ⟨Z,Z,Z,Z,Z,Z,Z,Z,Z,Z,t_⟩)<|fun x1 z1 h m1=>?_;unfold kW at h;refine qR<|yS Z (an Z Z Z Z)<|nT<|zQ ?_;refine zX Z (fun g4=>?_)<|fun g4=>?_
    ·refine zi g4 h fun h=>zk<|zT<|zQ<|zl<|qR<|zb h fun y1 j1 h=>yS Z (zx Z Z Z bq j1 Z)<|yS Z (bR Z Z Z eo Z Z)<|yS Z (ze Z pE Z Z)<|yS Z (zs Z Z Z Z eo Z Z Z Z)<|nT<|fB<|zK Z<|zK Z<|yG Z (fun H _=>zn Z Z)<|yG Z (fun H _=>zA Z Z aI)<|yG Z (fun H _=>zA Z Z bz)<|yF Z (zd Z Z Z bk Z Z) Z<|yF Z (zd Z Z Z eo Z Z) Z<|zb h fun v6 a6 h=>?_;refine yF (F:=[]) (s:=none) Z (fun H _=>yP Z Z Z (Gy a6) dG) Z ?_;refine yG Z (fun H _=>gR Z bq Z Z Z Z Z)<|zg h fun q1 h=>yF Z (cj.appendX cZ x1.o5 [v6] rfl Z Z Z Z bq q1) Z<|yG Z (fun H _=>zn Z Z)<|yG Z (fun H _=>zA Z Z aI)<|yG Z (fun H _=>zA Z Z bz)<|yF Z (zt Z Z Z Z bk Z Z Z) Z ?_;refine LF.nil ⟨by kernel_rfl,?_⟩;refine af<|zT<|zR<|yS Z (an Z Z Z Z)<|mN Z ?_;cases h;exact⟨_,rfl,av 6 ⟨Z,Z,Z,Z,Z,Z,Z,Z,Z,Z,t_⟩⟩
    ·refine zo g4 h fun h=>zq<|ai<|ai<|zy<|zT ?_;cases h;obtain rfl:=(m1 _ rfl);exact av 6 ⟨Z,Z,Z,Z,Z,Z,Z,t_⟩
   ·have h:=b5;clear p5;refine zT<|LW.weak u5<|qR<|zM Z<|yS Z (zn Z Z)<|yS Z (zA Z Z aI)<|yS Z (zD Z Z Z aM Z Z)<|yS Z (zs Z Z Z Z aM Z Z Z Z)<|mN Z<|zr<|ae ?_;cases h;exact zf (.two (er Z Z) (.tmp Z))<|⟨_,rfl,(.cons (Conv.agg (.cons zv (.cons zv (.cons zv (.cons zv (.cons zv (.cons zv (.cons (Conv.vecAll Z Z Z) BP)))))))) (.cons Conv.zs .nil))⟩
  ·refine zo g3 h fun h=>zk<|zT<|zQ<|fB<|zK Z<|yG Z (fun H _=>zA Z Z bp)<|yF Z (zd Z Z Z aG Z Z) Z<|yF Z (zd Z Z Z be Z Z) Z<|yF Z (zd Z Z Z aG Z Z) Z<|zb h fun v7 a7 h=>?_;refine yF (F:=[]) (s:=none) Z (fun H _=>yP Z Z Z (Qw a7) bG) Z ?_;obtain⟨v8,a8,h⟩:=zB h;refine yF (F:=[]) (s:=none) Z (fun H _=>yP Z Z Z (Lh a8) bG) Z ?_;refine yG Z (fun H _=>zn Z Z)<|yG Z (fun H _=>zA Z Z aI)<|yG Z (fun H _=>zA Z Z bp)<|yF Z (zt Z Z Z Z aG Z Z Z) Z ?_;refine LF.nil ⟨by kernel_rfl,?_⟩;refine zT<|zQ<|LW.ent (bY.zsCell (i:=4) (j:=18) (m:=9) Z Z Z Z)<|zR<|zM Z<|zM Z<|zb h fun v9 a9 h=>yS Z (yC Z Z Z (Lv (x:=Nd.mk n.No n.Tick n.V v8 n.O n.C n.Full) (tl:=([]:List Of)) a9))<|nT<|qR<|yS Z (aa.build Z K3 Z Z Z)<|yS Z (ze Z L1 Z Z)<|yS Z (zs Z Z Z Z LU Z Z Z Z)<|nT<|zQ ?_;refine qb (b:=(n.Tick.tmod 3)==0) (fun(g5:((n.Tick.tmod 3)==0)=true)=>?_) (fun(g5:((n.Tick.tmod 3)==0)=false)=>?_)
   ·refine zi g5 h fun h=>zR<|yS Z (zA Z Z cv)<|yS Z (zD Z Z Z aW Z Z)<|yS Z (aa.isEq (y:=(iQ 0)) (aa.rem Z Z Z (by decide)) (df g5))<|yS Z (aa.indexAddrA Z Z Z A5 (by decide) (by decide))<|yS Z (zD Z Z Z BS Z Z)<|zM Z<|zb h fun v10 a10 h=>yS Z (zC Z Z Z (by kernel_rfl) (LC.pre (IX (x:=Nd.mk n.No n.Tick n.V v8 [] n.C v9.2) (o:=v9.1) (tl:=([]:List Of)) a10) Z Z Z))<|nT<|qR<|zM Z<|yS Z (zn Z Z)<|yS Z (zA Z Z aI)<|yS Z (zA Z Z cv)<|yS Z (zD Z Z Z aW Z Z)<|yS Z (an Z Z Z Z)<|yS Z (zn Z Z)<|yS Z (zA Z Z aI)<|yS Z (zA Z Z cv)<|yS Z (zs Z Z Z Z aW Z Z Z Z)<|nT<|zQ<|fB<|zK Z<|yG Z (fun H _=>zn Z Z)<|yG Z (fun H _=>zA Z Z aI)<|yF Z (zd Z Z Z aM Z Z) Z<|zK Z<|yG Z (fun H _=>zn Z Z)<|yG Z (fun H _=>zA Z Z qr)<|yF Z (zd Z Z Z bk Z Z) Z<|yF Z (zt Z Z Z Z aM Z Z Z) Z<|zK Z ?_;refine LF.nil ⟨by kernel_rfl,?_⟩;refine zT<|zr ?_;cases h;exact zf (.two (er Z Z) (.tmp Z))<|⟨_,rfl,(.cons (Conv.agg (.cons zv (.cons zv (.cons zv (.cons zv (.cons zv (.cons zv (.cons (Conv.vecAll Z Z Z) BP)))))))) dG)⟩
   ·have h:=zO g5 h;refine qb (b:=(n.Tick.tmod 3)==1) (fun(g6:((n.Tick.tmod 3)==1)=true)=>?_) (fun(g6:((n.Tick.tmod 3)==1)=false)=>?_)
    ·refine zi g6 h fun h=>zR<|yS Z (zA Z Z cv)<|yS Z (zD Z Z Z aW Z Z)<|yS Z (aa.isEq (y:=(iQ 1)) (aa.rem Z Z Z (by decide)) (df g6))<|yS Z (aa.indexAddrA Z Z Z A5 (by decide) (by decide))<|yS Z (zD Z Z Z BS Z Z)<|zM Z<|zb h fun v11 a11 h=>yS Z (zC Z Z Z (by kernel_rfl) (LC.pre (GH (x:=Nd.mk n.No n.Tick n.V v8 [] n.C v9.2) (o:=v9.1) (tl:=([]:List Of)) a11) Z Z Z))<|nT<|qR<|zM Z<|yS Z (zn Z Z)<|yS Z (zA Z Z aI)<|yS Z (zA Z Z cv)<|yS Z (zD Z Z Z aW Z Z)<|yS Z (an Z Z Z Z)<|yS Z (zn Z Z)<|yS Z (zA Z Z aI)<|yS Z (zA Z Z cv)<|yS Z (zs Z Z Z Z aW Z Z Z Z)<|nT<|zQ<|fB<|zK Z<|yG Z (fun H _=>zn Z Z)<|yG Z (fun H _=>zA Z Z aI)<|yF Z (zd Z Z Z aM Z Z) Z<|zK Z<|yG Z (fun H _=>zn Z Z)<|yG Z (fun H _=>zA Z Z qr)<|yF Z (zd Z Z Z bk Z Z) Z<|yF Z (zt Z Z Z Z aM Z Z Z) Z<|zK Z ?_;refine LF.nil ⟨by kernel_rfl,?_⟩;refine zT<|zr ?_;cases h;exact zf (.two (er Z Z) (.tmp Z))<|⟨_,rfl,bG⟩
    ·refine zo g6 h fun h=>zg h fun q2 h=>zR<|yS Z (zA Z Z cv)<|yS Z (zD Z Z Z aW Z Z)<|yS Z (aa.isEq (y:=(iQ 2)) (aa.rem Z Z Z (by decide)) (df q2))<|yS Z (aa.indexAddrA Z Z Z A5 (by decide) (by decide))<|yS Z (zD Z Z Z BS Z Z)<|zM Z<|zb h fun v12 a12 h=>yS Z (zC Z Z Z (by kernel_rfl) (LC.pre (I5 (x:=Nd.mk n.No n.Tick n.V v8 [] n.C v9.2) (o:=v9.1) (tl:=([]:List Of)) a12) Z Z Z))<|nT<|qR<|zM Z<|yS Z (zn Z Z)<|yS Z (zA Z Z aI)<|yS Z (zA Z Z cv)<|yS Z (zD Z Z Z aW Z Z)<|yS Z (an Z Z Z Z)<|yS Z (zn Z Z)<|yS Z (zA Z Z aI)<|yS Z (zA Z Z cv)<|yS Z (zs Z Z Z Z aW Z Z Z Z)<|nT<|zQ<|fB<|zK Z<|yG Z (fun H _=>zn Z Z)<|yG Z (fun H _=>zA Z Z aI)<|yF Z (zd Z Z Z aM Z Z) Z<|zK Z<|yG Z (fun H _=>zn Z Z)<|yG Z (fun H _=>zA Z Z qr)<|yF Z (zd Z Z Z bk Z Z) Z<|yF Z (zt Z Z Z Z aM Z Z Z) Z<|zK Z ?_;refine LF.nil ⟨by kernel_rfl,?_⟩;refine zT<|zr ?_;cases h;exact zf (.two (er Z Z) (.tmp Z))<|⟨_,rfl,bG⟩
def QT (x:Int×Int×Int×Int):PV:=.agg [.int .i64 x.1,.int .i64 x.2.1,.int .i64 x.2.2.1,.int .i64 x.2.2.2]
def se (n:Int):Option Bool:=bif decide (n>=0)then some (decide (n<=4611686018427387904))else some false
theorem Cz {n:Int}(h:se n=some r_):aq prog 214 [.int .i64 n] [.bool r_]:=by
 refine zh Tryz.func214 Z Z Z Z ?_;unfold se at h;refine qR<|mN Z<|qR<|zM Z<|yS Z (an Z Z Z Z)<|zM Z ?_;refine zc 5 Z (fun g1=>?_)<|fun g1=>?_
 ·refine zi g1 h fun h=>yV Z (gd g1 Z) (zm Z Z)<|yV Z (gd g1 Z) (an Z Z Z Z)<|yS Z (bv Z (aJ g1 Z) Z)<|mN Z<|zr ?_;cases h;exact aZ Z
 ·refine zo g1 h fun h=>yU Z (gd g1 Z) Z<|yU Z (gd g1 Z) Z<|yS Z (aT Z (aJ g1 Z) Z)<|mN Z<|zr ?_;cases h;exact aZ Z
def vq (a:Int) (b:Int):Option (Int×Int×Int×Int):=bif decide (4294967296≠0)then bif decide (4294967296≠0)then bif decide (4294967296≠0)then bif decide (4294967296≠0)then bif decide (4294967296≠0)then bif decide (4294967296≠0)then bif decide (4294967296≠0)then bif decide (4294967296≠0)then some (i64.wrap (u64.wrap ((u64.wrap ((u64.wrap ((u64.wrap ((u64.wrap (i64.wrap (a.tdiv 4294967296)))*(u64.wrap (i64.wrap (b.tdiv 4294967296)))))+(u64.wrap ((u64.wrap ((u64.wrap ((u64.wrap (i64.wrap (a.tdiv 4294967296)))*(u64.wrap (b.tmod 4294967296))))+(u64.wrap (i64.wrap (u64.wrap ((u64.wrap ((u64.wrap (a.tmod 4294967296))*(u64.wrap (b.tmod 4294967296)))).tdiv 4294967296)))))).tdiv 4294967296))))+(u64.wrap ((u64.wrap ((u64.wrap ((u64.wrap (a.tmod 4294967296))*(u64.wrap (i64.wrap (b.tdiv 4294967296)))))+((u64.wrap ((u64.wrap ((u64.wrap (i64.wrap (a.tdiv 4294967296)))*(u64.wrap (b.tmod 4294967296))))+(u64.wrap (i64.wrap (u64.wrap ((u64.wrap ((u64.wrap (a.tmod 4294967296))*(u64.wrap (b.tmod 4294967296)))).tdiv 4294967296)))))).tmod 4294967296))).tdiv 4294967296)))).tdiv 4294967296)),i64.wrap ((u64.wrap ((u64.wrap ((u64.wrap ((u64.wrap (i64.wrap (a.tdiv 4294967296)))*(u64.wrap (i64.wrap (b.tdiv 4294967296)))))+(u64.wrap ((u64.wrap ((u64.wrap ((u64.wrap (i64.wrap (a.tdiv 4294967296)))*(u64.wrap (b.tmod 4294967296))))+(u64.wrap (i64.wrap (u64.wrap ((u64.wrap ((u64.wrap (a.tmod 4294967296))*(u64.wrap (b.tmod 4294967296)))).tdiv 4294967296)))))).tdiv 4294967296))))+(u64.wrap ((u64.wrap ((u64.wrap ((u64.wrap (a.tmod 4294967296))*(u64.wrap (i64.wrap (b.tdiv 4294967296)))))+((u64.wrap ((u64.wrap ((u64.wrap (i64.wrap (a.tdiv 4294967296)))*(u64.wrap (b.tmod 4294967296))))+(u64.wrap (i64.wrap (u64.wrap ((u64.wrap ((u64.wrap (a.tmod 4294967296))*(u64.wrap (b.tmod 4294967296)))).tdiv 4294967296)))))).tmod 4294967296))).tdiv 4294967296)))).tmod 4294967296),i64.wrap ((u64.wrap ((u64.wrap ((u64.wrap (a.tmod 4294967296))*(u64.wrap (i64.wrap (b.tdiv 4294967296)))))+((u64.wrap ((u64.wrap ((u64.wrap (i64.wrap (a.tdiv 4294967296)))*(u64.wrap (b.tmod 4294967296))))+(u64.wrap (i64.wrap (u64.wrap ((u64.wrap ((u64.wrap (a.tmod 4294967296))*(u64.wrap (b.tmod 4294967296)))).tdiv 4294967296)))))).tmod 4294967296))).tmod 4294967296),i64.wrap ((u64.wrap ((u64.wrap (a.tmod 4294967296))*(u64.wrap (b.tmod 4294967296)))).tmod 4294967296))else none else none else none else none else none else none else none else none
theorem JS {r_:(Int×Int×Int×Int)}(h:vq a b=some r_):aq prog 215 [.int .i64 a,.int .i64 b] [QT r_]:=by
 refine zh Tryz.func215 Z Z Z Z ?_;unfold vq at h;refine qR<|yS Z (ze Z BY Z Z)<|nT<|qR<|mN Z<|zQ<|dx<|zH Z<|zH Z<|zg h fun q1 h=>yE Z (aa.rem Z Z Z (of_decide_eq_true q1))<|yE Z (aa.convert (k':=.u64) Z Z (by kernel_rfl))<|zH Z<|zH Z<|zg h fun q2 h=>yE Z (aa.rem Z Z Z (of_decide_eq_true q2))<|yE Z (aa.convert (k':=.u64) Z Z (by kernel_rfl))<|yE Z (an Z Z Z Z)<|zH Z<|LO.nil<|zT<|qR<|zM Z<|yS Z (aa.rem Z Z Z (by decide))<|yS Z (aa.convert (k':=.i64) Z Z (by kernel_rfl))<|mN Z<|qR<|zM Z<|yS Z (aa.quo Z Z Z (by decide))<|yS Z (aa.convert (k':=.i64) Z Z (by kernel_rfl))<|mN Z<|zQ<|dx<|zH Z<|zH Z<|zg h fun q3 h=>yE Z (aa.quo Z Z Z (of_decide_eq_true q3))<|yE Z (aa.convert (k':=.u64) Z Z (by kernel_rfl))<|zH Z<|zH Z<|zg h fun q4 h=>yE Z (aa.rem Z Z Z (of_decide_eq_true q4))<|yE Z (aa.convert (k':=.u64) Z Z (by kernel_rfl))<|yE Z (an Z Z Z Z)<|zH Z<|yE Z (aa.convert (k':=.u64) Z Z (by kernel_rfl))<|yE Z (an Z Z Z Z)<|zH Z<|LO.nil<|zT<|zQ<|dx<|zH Z<|zH Z<|zg h fun q5 h=>yE Z (aa.rem Z Z Z (of_decide_eq_true q5))<|yE Z (aa.convert (k':=.u64) Z Z (by kernel_rfl))<|zH Z<|zH Z<|zg h fun q6 h=>yE Z (aa.quo Z Z Z (of_decide_eq_true q6))<|yE Z (aa.convert (k':=.u64) Z Z (by kernel_rfl))<|yE Z (an Z Z Z Z)<|zH Z<|yE Z (aa.rem Z Z Z (by decide))<|yE Z (an Z Z Z Z)<|zH Z<|LO.nil<|zT<|zQ<|dx<|zH Z<|zH Z<|zg h fun q7 h=>yE Z (aa.quo Z Z Z (of_decide_eq_true q7))<|yE Z (aa.convert (k':=.u64) Z Z (by kernel_rfl))<|zH Z<|zH Z<|zg h fun q8 h=>yE Z (aa.quo Z Z Z (of_decide_eq_true q8))<|yE Z (aa.convert (k':=.u64) Z Z (by kernel_rfl))<|yE Z (an Z Z Z Z)<|zH Z<|yE Z (aa.quo Z Z Z (by decide))<|yE Z (an Z Z Z Z)<|zH Z<|yE Z (aa.quo Z Z Z (by decide))<|yE Z (an Z Z Z Z)<|zH Z<|LO.nil ?_;refine zT<|qR<|zM Z<|yS Z (aa.quo Z Z Z (by decide))<|yS Z (aa.convert (k':=.i64) Z Z (by kernel_rfl))<|zM Z<|yS Z (aa.rem Z Z Z (by decide))<|yS Z (aa.convert (k':=.i64) Z Z (by kernel_rfl))<|zM Z<|yS Z (aa.rem Z Z Z (by decide))<|yS Z (aa.convert (k':=.i64) Z Z (by kernel_rfl))<|zM Z<|yS Z (aa.build Z K6 Z Z Z)<|yS Z (zs Z Z Z Z BT Z Z Z Z)<|nT<|zr ?_;cases h;exact zf (.one (er Z Z)) zv
structure fS where
 i:Int
def pX (v6:(Int×Int×Int×Int))(v7:(Int×Int×Int×Int))(x1:fS):Option (fS⊕(fS⊕Bool)):=bif decide (x1.i<4)then bif (x1.i)==0 then bif v6.1 != v7.1 then some (.inr (.inr (decide (v6.1>v7.1))))else some (.inl (fS.mk (i64.wrap (x1.i+1))))else bif (x1.i)==1 then bif v6.2.1 != v7.2.1 then some (.inr (.inr (decide (v6.2.1>v7.2.1))))else some (.inl (fS.mk (i64.wrap (x1.i+1))))else bif (x1.i)==2 then bif v6.2.2.1 != v7.2.2.1 then some (.inr (.inr (decide (v6.2.2.1>v7.2.2.1))))else some (.inl (fS.mk (i64.wrap (x1.i+1))))else bif x1.i==3 then bif v6.2.2.2 != v7.2.2.2 then some (.inr (.inr (decide (v6.2.2.2>v7.2.2.2))))else some (.inl (fS.mk (i64.wrap (x1.i+1))))else none else some (.inr (.inl (fS.mk x1.i)))
def xX (a:Int)(b:Int)(c:Int)(d:Int):Option Bool:=(se a).bind fun v1=>(se b).bind fun v2=>(se c).bind fun v3=>(se d).bind fun v4=>(bif !v1 then some true else bif !v2 then some true else bif !v3 then some true else some (!v4)).bind fun v5=>bif v5 then some false else (vq a b).bind fun v6=>(vq c d).bind fun v7=>(iter (pX v6 v7) aY (fS.mk 0)).bind fun b_v8=>Sum.elim (fun _=>some false) some b_v8
theorem Nv {c:Int}(h:xX a b c d=some r_):aq prog 176 [.int .i64 a,.int .i64 b,.int .i64 c,.int .i64 d] [.bool r_]:=by
 refine zh Tryz.func176 Z Z Z Z ?_;unfold xX at h;refine qR<|mN Z<|qR<|zM Z<|zb h fun v1 a1 h=>yS Z (yP Z Z Z (Cz a1) dG)<|mN Z<|qR<|zM Z<|zb h fun v2 a2 h=>yS Z (yP Z Z Z (Cz a2) dG)<|mN Z<|qR<|zM Z<|zb h fun v3 a3 h=>yS Z (yP Z Z Z (Cz a3) dG)<|mN Z<|qR<|zM Z<|zb h fun v4 a4 h=>yS Z (yP Z Z Z (Cz a4) dG)<|mN Z<|zQ ?_;obtain⟨v5,p5,b5⟩:=zB h;clear h;refine LW.cut (E:=[(0,(iQ a)),(1,(iQ b)),(2,(iQ c)),(3,(iQ d)),(8,(bQ false)),(37,(bQ v5))]) (O:=[]) ?_ ?_
 ·have h:=p5;refine zR<|zM Z<|yS Z (aa.not Z Z)<|zM Z ?_;refine zc 26 Z (fun g1=>?_)<|fun g1=>?_
  ·refine zi g1 h fun h=>yU Z (gd g1 Z) Z<|yU Z (gd g1 Z) Z<|yS Z (bv Z (aJ g1 Z) Z)<|zM Z<|aw Z<|aw Z<|yS Z (bv Z Z Z)<|zM Z<|aw Z<|aw Z<|yS Z (bv Z Z Z)<|nT ?_;cases h;exact av 0 ⟨Z,Z,Z,Z,Z,Z,t_⟩
  ·refine zo g1 h fun h=>yV Z (gd g1 Z) (zm Z Z)<|yV Z (gd g1 Z) (aa.not Z Z)<|yS Z (aT Z (aJ g1 Z) Z)<|zM Z ?_;refine zc 30 Z (fun g2=>?_)<|fun g2=>?_
   ·refine zi g2 h fun h=>yU Z (gd g2 Z) Z<|yU Z (gd g2 Z) Z<|yS Z (bv Z (aJ g2 Z) Z)<|zM Z<|aw Z<|aw Z<|yS Z (bv Z Z Z)<|nT ?_;cases h;exact av 0 ⟨Z,Z,Z,Z,Z,Z,t_⟩
   ·refine zo g2 h fun h=>yV Z (gd g2 Z) (zm Z Z)<|yV Z (gd g2 Z) (aa.not Z Z)<|yS Z (aT Z (aJ g2 Z) Z)<|zM Z ?_;refine zc 34 Z (fun g3=>?_)<|fun g3=>?_
    ·refine zi g3 h fun h=>yU Z (gd g3 Z) Z<|yU Z (gd g3 Z) Z<|yS Z (bv Z (aJ g3 Z) Z)<|nT ?_;cases h;exact av 0 ⟨Z,Z,Z,Z,Z,Z,t_⟩
    ·refine zo g3 h fun h=>yV Z (gd g3 Z) (zm Z Z)<|yV Z (gd g3 Z) (aa.not Z Z)<|yS Z (aT Z (aJ g3 Z) Z)<|nT ?_;cases h;exact av 0 ⟨Z,Z,Z,Z,Z,Z,t_⟩
 ·have h :=b5;clear p5;refine zX Z (fun g4=>?_)<|fun g4=>?_
  ·refine zi g4 h fun h=>qR<|mN Z<|LW.ret<|ae ?_;cases h;exact aZ Z
  ·refine zo g4 h fun h=>zk<|zT<|qR<|zM Z<|zM Z<|zb h fun v6 a6 h=>yS Z (yP Z Z Z (JS a6) bG)<|yS Z (ze Z BY Z Z)<|yS Z (zs Z Z Z Z BT Z Z Z Z)<|nT<|qR<|zM Z<|zM Z<|zb h fun v7 a7 h=>yS Z (yP Z Z Z (JS a7) bG)<|yS Z (ze Z BY Z Z)<|yS Z (zs Z Z Z Z BT Z Z Z Z)<|nT<|zQ<|qR<|mN Z ?_;obtain⟨w8,p8,b8⟩:=zB h;clear h;refine LW.tailB (b:=w8) (E:=fun v8=>[(8,(bQ false))]) (O:=fun v8=>[.box [(iQ v6.1),(iQ v6.2.1),(iQ v6.2.2.1),(iQ v6.2.2.2)],.box [(iQ v7.1),(iQ v7.2.1),(iQ v7.2.2.1),(iQ v7.2.2.2)]]) ?_<|fun v8 f8 e8 K8 u8=>?_
   ·refine LW.block ?_;refine LW.iterB (E:=fun x1:fS=>[(8,(bQ false)),(13,.ptr 0 0),(14,.ptr 1 0),(15,(iQ x1.i))]) (O:=fun x1=>[.box [(iQ v6.1),(iQ v6.2.1),(iQ v6.2.2.1),(iQ v6.2.2.2)],.box [(iQ v7.1),(iQ v7.2.1),(iQ v7.2.2.1),(iQ v7.2.2.2)]]) p8 (av 2 ⟨Z,Z,Z,Z,t_⟩)<|fun x1 z1 h m1=>?_;unfold pX at h;refine zQ<|qR<|zM Z<|yS Z (an Z Z Z Z)<|nT ?_;refine zX Z (fun g5=>?_)<|fun g5=>?_
    ·refine zi g5 h fun h=>zk<|zT<|zQ<|zl<|zQ ?_;refine qb (b:=(x1.i)==0) (fun(g6:((x1.i)==0)=true)=>?_) (fun(g6:((x1.i)==0)=false)=>?_)
     ·refine zi g6 h fun h=>dx<|yE Z (aa.isEq (y:=(iQ 0)) (zm Z Z) (df g6))<|yE Z (aa.indexAddrA Z Z Z fJ (by decide) (by decide))<|yE Z (zD Z Z Z aW Z Z)<|yE Z (aa.isEq (y:=(iQ 0)) (zm Z Z) (df g6))<|yE Z (aa.indexAddrA Z Z Z fJ (by decide) (by decide))<|yE Z (zD Z Z Z aW Z Z)<|yE Z (an Z Z Z Z)<|LO.nil<|zT ?_;refine zX Z (fun g7=>?_)<|fun g7=>?_
      ·refine zi g7 h fun h=>zQ<|dx<|yE Z (aa.isEq (y:=(iQ 0)) (zm Z Z) (df g6))<|yE Z (aa.indexAddrA Z Z Z fJ (by decide) (by decide))<|yE Z (zD Z Z Z aW Z Z)<|yE Z (aa.isEq (y:=(iQ 0)) (zm Z Z) (df g6))<|yE Z (aa.indexAddrA Z Z Z fJ (by decide) (by decide))<|yE Z (zD Z Z Z aW Z Z)<|yE Z (an Z Z Z Z)<|zH Z<|LO.nil<|zT<|zr<|ak<|ae<|ae<|ak<|ae<|ae ?_;cases h;obtain rfl:=(m1 _ rfl);have h:=bO b8;cases h;exact aZ Z
      ·refine zo g7 h fun h=>zk<|af<|zT<|zR<|zM Z<|yS Z (an Z Z Z Z)<|mN Z ?_;cases h;exact⟨_,rfl,av 2 ⟨Z,Z,Z,Z,t_⟩⟩
     ·have h:=zO g6 h;refine qb (b:=(x1.i)==1) (fun(g8:((x1.i)==1)=true)=>?_) (fun(g8:((x1.i)==1)=false)=>?_)
      ·refine zi g8 h fun h=>dx<|yE Z (aa.isEq (y:=(iQ 1)) (zm Z Z) (df g8))<|yE Z (aa.indexAddrA Z Z Z fJ (by decide) (by decide))<|yE Z (zD Z Z Z aW Z Z)<|yE Z (aa.isEq (y:=(iQ 1)) (zm Z Z) (df g8))<|yE Z (aa.indexAddrA Z Z Z fJ (by decide) (by decide))<|yE Z (zD Z Z Z aW Z Z)<|yE Z (an Z Z Z Z)<|LO.nil<|zT ?_;refine zX Z (fun g9=>?_)<|fun g9=>?_
       ·refine zi g9 h fun h=>zQ<|dx<|yE Z (aa.isEq (y:=(iQ 1)) (zm Z Z) (df g8))<|yE Z (aa.indexAddrA Z Z Z fJ (by decide) (by decide))<|yE Z (zD Z Z Z aW Z Z)<|yE Z (aa.isEq (y:=(iQ 1)) (zm Z Z) (df g8))<|yE Z (aa.indexAddrA Z Z Z fJ (by decide) (by decide))<|yE Z (zD Z Z Z aW Z Z)<|yE Z (an Z Z Z Z)<|zH Z<|LO.nil<|zT<|zr<|ak<|ae<|ae<|ak<|ae<|ae ?_;cases h;obtain rfl:=(m1 _ rfl);have h:=bO b8;cases h;exact aZ Z
       ·refine zo g9 h fun h=>zk<|af<|zT<|zR<|zM Z<|yS Z (an Z Z Z Z)<|mN Z ?_;cases h;exact⟨_,rfl,av 2 ⟨Z,Z,Z,Z,t_⟩⟩
      ·have h:=zO g8 h;refine qb (b:=(x1.i)==2) (fun(g10:((x1.i)==2)=true)=>?_) (fun(g10:((x1.i)==2)=false)=>?_)
       ·refine zi g10 h fun h=>dx<|yE Z (aa.isEq (y:=(iQ 2)) (zm Z Z) (df g10))<|yE Z (aa.indexAddrA Z Z Z fJ (by decide) (by decide))<|yE Z (zD Z Z Z aW Z Z)<|yE Z (aa.isEq (y:=(iQ 2)) (zm Z Z) (df g10))<|yE Z (aa.indexAddrA Z Z Z fJ (by decide) (by decide))<|yE Z (zD Z Z Z aW Z Z)<|yE Z (an Z Z Z Z)<|LO.nil<|zT ?_;refine zX Z (fun g11=>?_)<|fun g11=>?_
        ·refine zi g11 h fun h=>zQ<|dx<|yE Z (aa.isEq (y:=(iQ 2)) (zm Z Z) (df g10))<|yE Z (aa.indexAddrA Z Z Z fJ (by decide) (by decide))<|yE Z (zD Z Z Z aW Z Z)<|yE Z (aa.isEq (y:=(iQ 2)) (zm Z Z) (df g10))<|yE Z (aa.indexAddrA Z Z Z fJ (by decide) (by decide))<|yE Z (zD Z Z Z aW Z Z)<|yE Z (an Z Z Z Z)<|zH Z<|LO.nil<|zT<|zr<|ak<|ae<|ae<|ak<|ae<|ae ?_;cases h;obtain rfl:=(m1 _ rfl);have h:=bO b8;cases h;exact aZ Z
        ·refine zo g11 h fun h=>zk<|af<|zT<|zR<|zM Z<|yS Z (an Z Z Z Z)<|mN Z ?_;cases h;exact⟨_,rfl,av 2 ⟨Z,Z,Z,Z,t_⟩⟩
       ·refine zo g10 h fun h=>zg h fun q1 h=>dx<|yE Z (aa.isEq (y:=(iQ 3)) (zm Z Z) (df q1))<|yE Z (aa.indexAddrA Z Z Z fJ (by decide) (by decide))<|yE Z (zD Z Z Z aW Z Z)<|yE Z (aa.isEq (y:=(iQ 3)) (zm Z Z) (df q1))<|yE Z (aa.indexAddrA Z Z Z fJ (by decide) (by decide))<|yE Z (zD Z Z Z aW Z Z)<|yE Z (an Z Z Z Z)<|LO.nil<|zT ?_;refine zX Z (fun g12=>?_)<|fun g12=>?_
        ·refine zi g12 h fun h=>zQ<|dx<|yE Z (aa.isEq (y:=(iQ 3)) (zm Z Z) (df q1))<|yE Z (aa.indexAddrA Z Z Z fJ (by decide) (by decide))<|yE Z (zD Z Z Z aW Z Z)<|yE Z (aa.isEq (y:=(iQ 3)) (zm Z Z) (df q1))<|yE Z (aa.indexAddrA Z Z Z fJ (by decide) (by decide))<|yE Z (zD Z Z Z aW Z Z)<|yE Z (an Z Z Z Z)<|zH Z<|LO.nil<|zT<|zr<|ak<|ae<|ae<|ak<|ae<|ae ?_;cases h;obtain rfl:=(m1 _ rfl);have h:=bO b8;cases h;exact aZ Z
        ·refine zo g12 h fun h=>zk<|af<|zT<|zR<|zM Z<|yS Z (an Z Z Z Z)<|mN Z ?_;cases h;exact⟨_,rfl,av 2 ⟨Z,Z,Z,Z,t_⟩⟩
    ·refine zo g5 h fun h=>zq<|ai<|ai<|zy<|zT ?_;cases h;obtain rfl:=(m1 _ rfl);exact⟨_,rfl,av 2 ⟨Z,t_⟩⟩
   ·obtain rfl:=f8;have h:=cR b8;clear p8;refine zT<|LW.weak u8<|qR<|mN Z<|zr ?_;cases h;exact aZ Z
def x5 (c:Cf)(l:List Bk)(v:List Vt)(id:ID):Option Int:=(JC l).bind fun v1=>(xp l v1).bind fun v2=>bif !v2 then some 0 else (Dq c l v1 v id).bind fun v3=>some v3
theorem Nz {l:List Bk}{v:List Vt}{r_:Int}(h:x5 c l v id=some r_):aq prog 216 [gQ c,.slice 5 (l.map aA),.slice 4 (v.map aO),aX id] [.int .i64 r_]:=by
 refine zh Tryz.func216 Z Z Z Z ?_;unfold x5 at h;refine qR<|yS Z (bx Z Z Z Z Z)<|yS Z (bx Z Z Z Z Z)<|mN Z<|qR<|zM Z<|zb h fun v1 a1 h=>yS Z (yP Z Z Z (Pf a1) dG)<|mN Z<|qR<|zM Z<|zM Z<|zb h fun v2 a2 h=>yS Z (yP Z Z Z (La a2) bG)<|mN Z<|zQ<|qR<|zM Z<|yS Z (aa.not Z Z)<|nT ?_;refine zX Z (fun g1=>?_)<|fun g1=>?_
 ·refine zi g1 h fun h=>qR<|mN Z<|LW.ret<|ae ?_;cases h;exact aZ Z
 ·refine zo g1 h fun h=>zk<|zT<|qR<|yS Z (zD Z Z Z be Z Z)<|zM Z<|zM Z<|zM Z<|yS Z (zD Z Z Z aF Z Z)<|zb h fun v3 a3 h=>yS Z (yP Z Z Z (MW a3) BP)<|mN Z<|zr ?_;cases h;exact aZ Z
def Cp (c:Cf)(w:Vw)(slot:Int)(id:ID):Option Int:=(vo c w.V slot).bind fun v1=>(x5 c w.B v1 id).bind fun v2=>some v2
theorem Nw {r_:Int}(h:Cp c w slot id=some r_):aq prog 177 [gQ c,iB w,.int .i64 slot,aX id] [.int .i64 r_]:=by
 refine zh Tryz.func177 Z Z Z Z ?_;unfold Cp at h;refine qR<|yS Z (bx Z Z Z Z Z)<|yS Z (bx Z Z Z Z Z)<|yS Z (bx Z Z Z Z Z)<|mN Z<|zQ<|dx<|yE Z (zD Z Z Z be Z Z)<|yE Z (zA Z Z aK)<|yE Z (zD Z Z Z bM Z Z)<|yE Z (zD Z Z Z be Z Z)<|yE Z (zA Z Z aQ)<|yE Z (zD Z Z Z co Z Z)<|zH Z<|zb h fun v1 a1 h=>yE Z (yP Z Z Z (JQ a1) pA)<|yE Z (zD Z Z Z aF Z Z)<|zb h fun v2 a2 h=>yE Z (yP Z Z Z (Nz a2) we)<|zH Z<|LO.nil<|zT<|zr ?_;cases h;exact aZ Z
def xU (c:Cf)(w:Vw)(slot:Int)(id:ID):Option Bool:=(KG c slot).bind fun v1=>(L6 c v1).bind fun v2=>(Cp c w slot id).bind fun v3=>(xX (i64.wrap (2*v3)) c.Den v2 (i64.wrap (c.Den+(i64.wrap (2*c.Num))))).bind fun v4=>some v4
theorem Ns (h:xU c w slot id=some r_):aq prog 137 [gQ c,iB w,.int .i64 slot,aX id] [.bool r_]:=by
 refine zh Tryz.func137 Z Z Z Z ?_;unfold xU at h;refine qR<|yS Z (bx Z Z Z Z Z)<|yS Z (bx Z Z Z Z Z)<|yS Z (bx Z Z Z Z Z)<|mN Z<|zQ<|dx<|yE Z (zD Z Z Z be Z Z)<|yE Z (zD Z Z Z be Z Z)<|zH Z<|zb h fun v1 a1 h=>yE Z (yP Z Z Z (P3 a1) bG)<|zb h fun v2 a2 h=>yE Z (yP Z Z Z (Qu a2) bG)<|zH Z<|LO.nil<|zT<|zQ<|dx<|yE Z (zD Z Z Z be Z Z)<|yE Z (zD Z Z Z aG Z Z)<|zH Z<|yE Z (zD Z Z Z aF Z Z)<|zb h fun v3 a3 h=>yE Z (yP Z Z Z (Nw a3) we)<|yE Z (an Z Z Z Z)<|yE Z (zA Z Z kL)<|yE Z (zD Z Z Z aW Z Z)<|zH Z<|yE Z (zA Z Z kL)<|yE Z (zD Z Z Z aW Z Z)<|yE Z (zA Z Z rE)<|yE Z (zD Z Z Z aW Z Z)<|yE Z (an Z Z Z Z)<|yE Z (an Z Z Z Z)<|zb h fun v4 a4 h=>yE Z (yP Z Z Z (Nv a4) we)<|zH Z<|LO.nil<|zT<|qR<|zM Z<|mN Z<|zr ?_;cases h;exact aZ Z
structure jt where
 i:Int
def pW (c:Cf)(w:Vw)(slot:Int)(v1:(List ID))(x1:jt):Option (jt⊕(jt⊕(ID×Bool))):=bif decide ((i64.wrap (x1.i+1))<(v1.length:Int))then (ix v1 x1.i).bind fun y1=>(xU c w slot y1).bind fun v3=>bif v3 then (ix v1 x1.i).bind fun y2=>some (.inr (.inr (y2,true)))else some (.inl (jt.mk (i64.wrap (x1.i+1))))else some (.inr (.inl (jt.mk x1.i)))
def xR (c:Cf)(w:Vw)(slot:Int)(head:ID):Option (ID×Bool):=(L2 w.B head).bind fun v1=>(iter (pW c w slot v1) aY (jt.mk 0)).bind fun b_v2=>Sum.elim (fun _=>some ((0,0),false)) some b_v2
theorem Nq {r_:ID×Bool}(h:xR c w slot head=some r_):aq prog 96 [gQ c,iB w,.int .i64 slot,aX head] [aX r_.1,.bool r_.2]:=by
 refine zh Tryz.func96 Z Z Z Z ?_;unfold xR at h;refine qR<|yS Z (bx Z Z Z Z Z)<|yS Z (bx Z Z Z Z Z)<|yS Z (bx Z Z Z Z Z)<|yS Z (ze Z gP Z Z)<|mN Z<|qR<|yS Z (zA Z Z aK)<|yS Z (zD Z Z Z bM Z Z)<|yS Z (zD Z Z Z aF Z Z)<|zb h fun v1 a1 h=>yS Z (yP Z Z Z (Qq a1) bG)<|mN Z<|zQ<|qR<|mN Z ?_;obtain⟨w2,p2,q2⟩:=zB h;clear h;refine LW.tailB (b:=w2) (E:=fun v2=>[(8,.ptr 3 0),(9,(bQ false))]) (O:=fun v2=>[.box (ch c),.box (cH w),.box [(uQ head.1),(uQ head.2)],.box [(uQ 0),(uQ 0)]]) ?_<|fun v2 f2 e2 K2 u2=>?_
 ·refine LW.block ?_;refine LW.iterB (E:=fun x1:jt=>[(2,(iQ slot)),(4,.ptr 0 0),(5,.ptr 1 0),(8,.ptr 3 0),(9,(bQ false)),(10,.p (.slice 2 (v1.map aX))),(11,(iQ x1.i))]) (O:=fun x1=>[.box (ch c),.box (cH w),.box [(uQ head.1),(uQ head.2)],.box [(uQ 0),(uQ 0)]]) p2 (av 4 ⟨Z,Z,Z,Z,Z,Z,Z,t_⟩)<|fun x1 z1 h m1=>?_;unfold pW at h;refine zQ<|qR<|zM Z<|yS Z (an Z Z Z Z)<|zM Z<|yS Z (ck Z Z)<|yS Z (an Z Z Z Z)<|nT ?_;refine zX Z (fun g1=>?_)<|fun g1=>?_
  ·refine zi g1 h fun h=>zk<|zT<|zQ<|zl<|zQ<|dx<|yE Z (zD Z Z Z be Z Z)<|yE Z (zD Z Z Z aG Z Z)<|zH Z<|zH Z<|zH Z<|zb h fun y1 j1 h=>yE Z (zx Z Z Z fH j1 Z)<|yE Z (bR Z Z Z aF Z Z)<|zb h fun v3 a3 h=>yE Z (yP Z Z Z (Ns a3) we)<|zH Z<|LO.nil<|zT<|qR<|mN Z ?_;refine zX Z (fun g2=>?_)<|fun g2=>?_
   ·refine zi g2 h fun h=>qR<|zM Z<|zM Z<|zb h fun y2 j2 h=>yS Z (zx Z Z Z fH j2 Z)<|yS Z (bR Z Z Z aF Z Z)<|yS Z (zs Z Z Z Z aF Z Z Z Z)<|mN Z<|zr<|ak<|ae<|ae<|ak<|ae<|ae ?_;cases h;obtain rfl:=(m1 _ rfl);have h:=bO q2;cases h;exact zf (.two (er Z Z) (.tmp Z))<|⟨_,rfl,bG⟩
   ·refine zo g2 h fun h=>zk<|af<|zT<|zR<|zM Z<|yS Z (an Z Z Z Z)<|mN Z ?_;cases h;exact⟨_,rfl,av 4 ⟨Z,Z,Z,Z,Z,Z,Z,t_⟩⟩
  ·refine zo g1 h fun h=>zq<|ai<|ai<|zy<|zT ?_;cases h;obtain rfl:=(m1 _ rfl);exact⟨_,rfl,av 4 ⟨Z,Z,t_⟩⟩
 ·obtain rfl:=f2;have h:=cR q2;clear p2;refine zT<|LW.weak u2<|qR<|yS Z (aa.build Z ng Z Z Z)<|yS Z (zs Z Z Z Z aF Z Z Z Z)<|mN Z<|zr ?_;cases h;exact zf (.two (er Z Z) (.tmp Z))<|⟨_,rfl,bG⟩
def Ct (n:Nd)(w:Vw):Option Vw:=(xg n).bind fun v1=>(F9 w v1).bind fun v2=>some v2
theorem Lr {n:Nd}{r_:Vw}(h:Ct n w=some r_):LC prog 148 [.p (du n),.ptr 0 0] [.box (cH w)] (Is (.tup []) [.box (cH r_)]):=by
 refine eN Tryz.func148 Z Z Z ?_;unfold Ct at h;refine qR<|yS Z (bx Z Z Z Z Z)<|nT<|LW.drawLast (m:=4) (by kernel_rfl) (by kernel_rfl) (by kernel_rfl)<|yE Z (zD Z Z Z aG Z Z)<|yE Z (zD Z Z Z aM Z Z)<|zb h fun v1 a1 h=>yE Z (yP Z Z Z (MI a1) dG)<|zb h fun v2 a2 h=>yE Z (yP Z Z Z (Lh a2) bG)<|LO.nil<|yS Z (zs Z Z Z Z aG Z Z Z Z)<|zN ?_;obtain rfl:=zJ h;exact iL (env':=[]) (H':=[.box (cH v2)]) (av 1 trivial) .none<|⟨rfl,rfl⟩
structure eO where
 t8:Int
 o0:Vw
def jf (l:List Nd)(x1:eO):Option (eO⊕eO):=bif decide (x1.t8<(l.length:Int))then (ix l x1.t8).bind fun y1=>(Ct y1 x1.o0).bind fun v2=>some (.inl (eO.mk (i64.wrap (x1.t8+1)) v2))else some (.inr (eO.mk x1.t8 x1.o0))
def tC (l:List Nd)(w:Vw):Option Vw:=(iter (jf l) aY (eO.mk 0 w)).bind fun v1=>some v1.o0
theorem IW {l:List Nd}{r_:Vw}(h:tC l w=some r_):LC prog 147 [.p (.slice 12 (l.map du)),.fn 148 [] [.ptr 0 0]] [.box (cH w)] (Is (.tup []) [.box (cH r_)]):=by
 refine eN Tryz.func147 Z Z Z ?_;unfold tC at h;refine qR<|zM Z<|yS Z (ck Z Z)<|mN Z ?_;obtain⟨v1,p1,q1⟩:=zB h;clear h;refine LW.tail (E:=[]) (O:=[.box (cH v1.o0)]) ?_<|fun e1 K1 u1=>?_
 ·refine LW.block ?_;refine LW.iterB (E:=fun x1:eO=>[(1,.fn 148 [] [.ptr 0 0]),(6,.p (.slice 12 (l.map du))),(7,.p (.int .i64 (l.length:Int))),(8,(iQ x1.t8))]) (O:=fun x1=>[.box (cH x1.o0)]) p1 (av 1 ⟨Z,Z,Z,Z,t_⟩)<|fun x1 z1 h m1=>?_;unfold jf at h;refine qR<|yS Z (an Z Z Z Z)<|nT<|zQ ?_;refine zX Z (fun g1=>?_)<|fun g1=>?_
  ·refine zi g1 h fun h=>zk<|zT<|zQ<|zl<|qR<|zb h fun y1 j1 h=>yS Z (zx Z Z Z dy j1 Z)<|yS Z (bR Z Z Z aM Z Z)<|yS Z (ze Z eU Z Z)<|yS Z (zs Z Z Z Z aM Z Z Z Z)<|nT<|zR<|zM Z<|yS Z (zD Z Z Z aM Z Z)<|zb h fun v2 a2 h=>yS Z (yC Z Z Z (LC.pre (Lr a2) Z Z Z))<|zN<|af<|zT<|zR<|yS Z (an Z Z Z Z)<|mN Z ?_;cases h;exact⟨_,rfl,av 1 ⟨Z,Z,Z,Z,t_⟩⟩
  ·refine zo g1 h fun h=>zq<|ai<|ai<|zy<|zT ?_;cases h;obtain rfl:=(m1 _ rfl);exact av 1 trivial
 ·have h:=q1;clear p1;cases h;exact iL u1 .none ⟨rfl,rfl⟩
def xd (l:List Nd):Option Vw:=(tC l (Vw.mk [] [])).bind fun v1=>some v1
theorem MG {l:List Nd}{r_:Vw}(h:xd l=some r_):aq prog 107 [.slice 12 (l.map du)] [iB r_]:=by
 refine zh Tryz.func107 Z Z Z Z ?_;unfold xd at h;refine qR<|yS Z (ze Z d5 Z Z)<|nT<|zQ<|LW.ent (bY.zsCell (i:=0) (j:=0) (m:=5) Z Z Z Z)<|LW.ent (bY.zsCell (i:=0) (j:=1) (m:=4) Z Z Z Z)<|zR<|zM Z<|yS Z (aa.makeFunc Z Z Z)<|zb h fun v1 a1 h=>yS Z (yC Z Z Z (IW a1))<|nT<|qR<|yS Z (zD Z Z Z aG Z Z)<|yS Z (zs Z Z Z Z aG Z Z Z Z)<|nT<|zr ?_;cases h;exact zf (.one (er Z Z)) zv
structure fP where
 i:Int
def jp (l:List Of)(most:Int)(x1:fP):Option (fP⊕(fP⊕Bool)):=bif decide (x1.i<(l.length:Int))then (ix l x1.i).bind fun y1=>(KJ y1.V most).bind fun v2=>bif !v2 then some (.inr (.inr false))else some (.inl (fP.mk (i64.wrap (x1.i+1))))else some (.inr (.inl (fP.mk x1.i)))
def td (l:List Of)(most:Int):Option Bool:=bif decide ((l.length:Int)>10)then some false else (iter (jp l most) aY (fP.mk 0)).bind fun b_v1=>Sum.elim (fun _=>some true) some b_v1
theorem JJ {l:List Of}(h:td l most=some r_):aq prog 9 [.slice 9 (l.map cZ),.int .i64 most] [.bool r_]:=by
 refine zh Tryz.func9 Z Z Z Z ?_;unfold td at h;refine qR<|mN Z<|zQ<|qR<|zM Z<|yS Z (ck Z Z)<|yS Z (an Z Z Z Z)<|nT ?_;refine zX Z (fun g1=>?_)<|fun g1=>?_
 ·refine zi g1 h fun h=>qR<|mN Z<|LW.ret<|ae ?_;cases h;exact aZ Z
 ·refine zo g1 h fun h=>zk<|zT<|zQ<|qR<|mN Z ?_;obtain⟨w1,p1,q1⟩:=zB h;clear h;refine LW.tailB (b:=w1) (E:=fun v1=>[(4,(bQ false))]) (O:=fun v1=>[]) ?_<|fun v1 f1 e1 K1 u1=>?_
  ·refine LW.block ?_;refine LW.iterB (E:=fun x1:fP=>[(0,(kO l)),(1,(iQ most)),(4,(bQ false)),(5,(iQ x1.i))]) (O:=fun x1=>[]) p1 (av 0 ⟨Z,Z,Z,Z,t_⟩)<|fun x1 z1 h m1=>?_;unfold jp at h;refine zQ<|qR<|zM Z<|zM Z<|yS Z (ck Z Z)<|yS Z (an Z Z Z Z)<|nT ?_;refine zX Z (fun g2=>?_)<|fun g2=>?_
   ·refine zi g2 h fun h=>zk<|zT<|zQ<|zl<|qR<|zM Z<|zM Z<|zb h fun y1 j1 h=>yS Z (zx Z Z Z bq j1 Z)<|yS Z (aa.fieldAddrC Z Z fp Z)<|yS Z (bR Z Z Z aG Z Z)<|zM Z<|zb h fun v2 a2 h=>yS Z (yP Z Z Z (P4 a2) bG)<|mN Z<|qR<|zM Z<|yS Z (aa.not Z Z)<|nT ?_;refine zX Z (fun g3=>?_)<|fun g3=>?_
    ·refine zi g3 h fun h=>qR<|mN Z<|LW.ret<|ak<|ae<|ae<|ak<|ae<|ae ?_;cases h;obtain rfl:=(m1 _ rfl);have h:=bO q1;cases h;exact aZ Z
    ·refine zo g3 h fun h=>zk<|af<|zT<|zR<|zM Z<|yS Z (an Z Z Z Z)<|mN Z ?_;cases h;exact⟨_,rfl,av 0 ⟨Z,Z,Z,Z,t_⟩⟩
   ·refine zo g2 h fun h=>zq<|ai<|ai<|zy<|zT ?_;cases h;obtain rfl:=(m1 _ rfl);exact⟨_,rfl,av 0 ⟨Z,t_⟩⟩
  ·obtain rfl:=f1;have h:=cR q1;clear p1;refine zT<|LW.weak u1<|qR<|mN Z<|zr ?_;cases h;exact aZ Z
def ve (n:Nd)(most:Int):Option Bool:=(KJ n.V most).bind fun v1=>(KJ n.In most).bind fun v2=>(td n.O most).bind fun v3=>bif v1 then bif v2 then some v3 else some false else some false
theorem M5 {n:Nd}(h:ve n most=some r_):aq prog 7 [du n,.int .i64 most] [.bool r_]:=by
 refine zh Tryz.func7 Z Z Z Z ?_;unfold ve at h;refine qR<|yS Z (bx Z Z Z Z Z)<|mN Z<|qR<|yS Z (zA Z Z bI)<|yS Z (zD Z Z Z aG Z Z)<|zM Z<|zb h fun v1 a1 h=>yS Z (yP Z Z Z (P4 a1) bG)<|mN Z<|qR<|yS Z (zA Z Z bp)<|yS Z (zD Z Z Z aG Z Z)<|zM Z<|zb h fun v2 a2 h=>yS Z (yP Z Z Z (P4 a2) bG)<|mN Z<|qR<|yS Z (zA Z Z bz)<|yS Z (zD Z Z Z bk Z Z)<|zM Z<|zb h fun v3 a3 h=>yS Z (yP Z Z Z (JJ a3) bG)<|mN Z<|qR<|zM Z<|zM Z ?_;refine zc 21 Z (fun g1=>?_)<|fun g1=>?_
 ·refine zi g1 h fun h=>yV Z (gd g1 Z) (zm Z Z)<|yS Z (bv Z (aJ g1 Z) Z)<|zM Z ?_;refine zc 24 Z (fun g2=>?_)<|fun g2=>?_
  ·refine zi g2 h fun h=>yV Z (gd g2 Z) (zm Z Z)<|yS Z (bv Z (aJ g2 Z) Z)<|mN Z<|zr ?_;cases h;exact aZ Z
  ·refine zo g2 h fun h=>yU Z (gd g2 Z) Z<|yS Z (aT Z (aJ g2 Z) Z)<|mN Z<|zr ?_;cases h;exact aZ Z
 ·refine zo g1 h fun h=>yU Z (gd g1 Z) Z<|yS Z (aT Z (aJ g1 Z) Z)<|zM Z<|aw Z<|yS Z (aT Z Z Z)<|mN Z<|zr ?_;cases h;exact aZ Z
structure fQ where
 i:Int
def jq (l:List Nd)(most:Int)(x1:fQ):Option (fQ⊕(fQ⊕Bool)):=bif decide (x1.i<(l.length:Int))then (ix l x1.i).bind fun y1=>(ve y1 most).bind fun v2=>bif !v2 then some (.inr (.inr false))else some (.inl (fQ.mk (i64.wrap (x1.i+1))))else some (.inr (.inl (fQ.mk x1.i)))
def vf (l:List Nd)(many:Int)(most:Int):Option Bool:=bif decide ((l.length:Int)>many)then some false else (iter (jq l most) aY (fQ.mk 0)).bind fun b_v1=>Sum.elim (fun _=>some true) some b_v1
theorem M7 {l:List Nd}{many:Int}(h:vf l many most=some r_):aq prog 24 [.slice 12 (l.map du),.int .i64 many,.int .i64 most] [.bool r_]:=by
 refine zh Tryz.func24 Z Z Z Z ?_;unfold vf at h;refine qR<|mN Z<|zQ<|qR<|zM Z<|yS Z (ck Z Z)<|zM Z<|yS Z (an Z Z Z Z)<|nT ?_;refine zX Z (fun g1=>?_)<|fun g1=>?_
 ·refine zi g1 h fun h=>qR<|mN Z<|LW.ret<|ae ?_;cases h;exact aZ Z
 ·refine zo g1 h fun h=>zk<|zT<|zQ<|qR<|mN Z ?_;obtain⟨w1,p1,q1⟩:=zB h;clear h;refine LW.tailB (b:=w1) (E:=fun v1=>[(6,(bQ false))]) (O:=fun v1=>[]) ?_<|fun v1 f1 e1 K1 u1=>?_
  ·refine LW.block ?_;refine LW.iterB (E:=fun x1:fQ=>[(0,.p (.slice 12 (l.map du))),(2,(iQ most)),(6,(bQ false)),(7,(iQ x1.i))]) (O:=fun x1=>[]) p1 (av 0 ⟨Z,Z,Z,Z,t_⟩)<|fun x1 z1 h m1=>?_;unfold jq at h;refine zQ<|qR<|zM Z<|zM Z<|yS Z (ck Z Z)<|yS Z (an Z Z Z Z)<|nT ?_;refine zX Z (fun g2=>?_)<|fun g2=>?_
   ·refine zi g2 h fun h=>zk<|zT<|zQ<|zl<|qR<|zM Z<|zM Z<|zb h fun y1 j1 h=>yS Z (zx Z Z Z dy j1 Z)<|yS Z (bR Z Z Z aM Z Z)<|zM Z<|zb h fun v2 a2 h=>yS Z (yP Z Z Z (M5 a2) bG)<|mN Z<|qR<|zM Z<|yS Z (aa.not Z Z)<|nT ?_;refine zX Z (fun g3=>?_)<|fun g3=>?_
    ·refine zi g3 h fun h=>qR<|mN Z<|LW.ret<|ak<|ae<|ae<|ak<|ae<|ae ?_;cases h;obtain rfl:=(m1 _ rfl);have h:=bO q1;cases h;exact aZ Z
    ·refine zo g3 h fun h=>zk<|af<|zT<|zR<|zM Z<|yS Z (an Z Z Z Z)<|mN Z ?_;cases h;exact⟨_,rfl,av 0 ⟨Z,Z,Z,Z,t_⟩⟩
   ·refine zo g2 h fun h=>zq<|ai<|ai<|zy<|zT ?_;cases h;obtain rfl:=(m1 _ rfl);exact⟨_,rfl,av 0 ⟨Z,t_⟩⟩
  ·obtain rfl:=f1;have h:=cR q1;clear p1;refine zT<|LW.weak u1<|qR<|mN Z<|zr ?_;cases h;exact aZ Z
def mf (k:Int)(w:Vw):Prop:=(w.B.length:Int)<=k/\(w.V.length:Int)<=k
def gq (k:Int)(n:Nd):Prop:=mf k n.V/\mf k n.In/\n.O.length<=10/\∀o∈n.O,mf k o.V
theorem pO (l:List Of)(k:Int):td l k=some false\/(td l k=some true/\l.length<=10/\∀o∈l,mf k o.V):=by
 unfold td;by_cases h10:(l.length:Int)>10
 ·rw[aP h10,ct];exact .inl rfl
 ·rw[aR h10,cf]
  have e:=rZ (step:=jp l k) (n:=l.length) (fun j=>fP.mk (j:Int)) false (fun j=>∀o,l[j]?=some o->mf k o.V) (fun j hj=>by
   obtain⟨y,hy,-⟩:=az hj;unfold jp;simp only;rw[dO,au hy,ob,AR,ob,ah (n:=j)];by_cases h:(y.V.B.length:Int)<=k/\(y.V.V.length:Int)<=k
   ·rw[aP h,Bool.not_true,cf];exact .inr ⟨rfl,fun o ho=>by rw[hy]at ho;cases ho;exact h⟩
   ·rw[aR h,Bool.not_false,ct];exact .inl rfl) (by
   unfold jp;simp only
   rw[ft])
  rcases e with e|⟨e,h⟩
  ·have e':iter (jp l k) aY (fP.mk 0)=_:=e;rw[e',ob,sr];exact .inl rfl
  ·have e':iter (jp l k) aY (fP.mk 0)=_:=e;rw[e',ob,sl];exact .inr ⟨rfl,by omega,fun o ho=>by obtain⟨j,hj⟩:=List.getElem?_of_mem ho;exact h j (List.getElem?_eq_some_iff.1 hj).1 o hj⟩
theorem Fk (n:Nd)(k:Int):ve n k=some false\/(ve n k=some true/\gq k n):=by
 unfold ve;rw[AR,ob,AR,ob];rcases pO n.O k with e|⟨e,h1,h2⟩
 ·rw[e,ob];cases decide ((n.V.B.length:Int)<=k/\(n.V.V.length:Int)<=k) <;>cases decide ((n.In.B.length:Int)<=k/\(n.In.V.length:Int)<=k) <;>exact .inl rfl
 ·rw[e,ob];by_cases ha:(n.V.B.length:Int)<=k/\(n.V.V.length:Int)<=k
  ·rw[aP ha,ct];by_cases hb:(n.In.B.length:Int)<=k/\(n.In.V.length:Int)<=k
   ·rw[aP hb,ct];exact .inr ⟨rfl,ha,hb,h1,h2⟩
   ·rw[aR hb,cf];exact .inl rfl
  ·rw[aR ha,cf];exact .inl rfl
theorem xy (l:List Nd){m:Int}(hm:m<=1000)(k:Int):vf l m k=some false\/(vf l m k=some true/\(l.length:Int)<=m/\∀n∈l,gq k n):=by
 unfold vf;by_cases h10:(l.length:Int)>m
 ·rw[aP h10,ct];exact .inl rfl
 ·rw[aR h10,cf]
  have e:=rZ (step:=jq l k) (n:=l.length) (fun j=>fQ.mk (j:Int)) false (fun j=>∀o,l[j]?=some o->gq k o) (fun j hj=>by
   obtain⟨y,hy,-⟩:=az hj;unfold jq;simp only;rw[dO,au hy,ob,ah (n:=j)];rcases Fk y k with e|⟨e,h⟩
   ·rw[e,ob,Bool.not_false,ct];exact .inl rfl
   ·rw[e,ob,Bool.not_true,cf];exact .inr ⟨rfl,fun o ho=>by rw[hy]at ho;cases ho;exact h⟩) (by
   unfold jq;simp only
   rw[ft])
  rcases e with e|⟨e,h⟩
  ·have e':iter (jq l k) aY (fQ.mk 0)=_:=e;rw[e',ob,sr];exact .inl rfl
  ·have e':iter (jq l k) aY (fQ.mk 0)=_:=e;rw[e',ob,sl];exact .inr ⟨rfl,by omega,fun o ho=>by obtain⟨j,hj⟩:=List.getElem?_of_mem ho;exact h j (List.getElem?_eq_some_iff.1 hj).1 o hj⟩
def fL (n:Nd):Vw:=c8 n.V n.In
theorem rJ {n:Nd}(h:gq k n):((fL n).B.length:Int)<=2*k/\((fL n).V.length:Int)<=2*k:=by
 obtain⟨⟨a1,a2⟩,⟨b1,b2⟩,-⟩:=h;have h1:=dp n.In.B n.V.B;have h2:=dp n.In.V n.V.V;unfold fL c8;simp only;omega
theorem EO {n:Nd}(h:gq k n)(hk:k<=1000):xg n=some (fL n):=by
 obtain⟨⟨a1,a2⟩,⟨b1,b2⟩,-⟩:=h;unfold xg;rw[oU];rfl
def m9 (l:List Nd)(w:Vw):Vw:=l.foldl (fun w n=>c8 w (fL n)) w
theorem vz (l:List Nd)(n:Nd)(w:Vw):m9 (l++[n]) w=c8 (m9 l w) (fL n):=by unfold m9;rw[List.foldl_append];rfl
theorem na {k:Int}:∀{l:List Nd} {w:Vw},(∀n∈l,gq k n)->((m9 l w).B.length:Int)<=w.B.length+l.length*(2*k)/\((m9 l w).V.length:Int)<=w.V.length+l.length*(2*k)
 |[],w,_=>by simp[m9]
 |n::r,w,h=>by
  have h1:=rJ (h n (.head _));have h2:=na (l:=r) (w:=c8 w (fL n)) fun m hm=>h m (.tail _ hm);have h3:=dp (fL n).B w.B;have h4:=dp (fL n).V w.V;have e:m9 (n::r) w=m9 r (c8 w (fL n)):=rfl;have e1:(c8 w (fL n)).B=db w.B (fL n).B:=rfl;have e2:(c8 w (fL n)).V=db w.V (fL n).V:=rfl;rw[e,List.length_cons,Int.natCast_add,Int.add_mul];rw[e1,e2]at h2;omega
theorem AV {k0:Int}{l:List Nd}(h0:0<=k0)(hk0:k0<=1000)(hl:(l.length:Int)*(2*k0)<=40000)(hl2:l.length<=100000)(hs:∀n∈l,gq k0 n)(h1:w.B.length<=1000)(h2:w.V.length<=1000):tC l w=some (m9 l w):=by
 have e:=ax (step:=jf l) (n:=l.length) (fun k=>eO.mk (k:Int) (m9 (l.take k) w)) (eO.mk (l.length:Int) (m9 l w)) (fun k hk=>by
  obtain⟨y,hy,hm⟩:=az hk
  have et:l.take (k+1)=l.take k++[y]:=by rw[take_add_one,hy];rfl
  have hsy:=hs y hm;have hlen:=na (l:=l.take k) (w:=w) fun m hm=>hs m (List.mem_of_mem_take hm);rw[length_take]at hlen;have hkn:=rJ hsy;have hmul:((Min.min k l.length:Nat):Int)*(2*k0)<=l.length*(2*k0):=Int.mul_le_mul_of_nonneg_right (by omega) (by omega);unfold jf;simp only;rw[dO,au hy,ob,et,vz,ah (n:=k)];unfold Ct;rw[EO hsy (by omega),ob,oU,ob]
  rfl) (by
  unfold jf;simp only
  rw[ft,take_length]) (by omega)
 have e':iter (jf l) aY (eO.mk 0 w)=_:=e;unfold tC;rw[e',ob]
theorem Dh {l:List Nd}(hl:l.length<=40)(hs:∀n∈l,gq 500 n):xd l=some (m9 l ⟨[],[]⟩):=by
 unfold xd;rw[AV (k0:=500) (by omega) (by omega) (by omega) (by omega) hs (Nat.zero_le _) (Nat.zero_le _)];rfl
theorem BJ {k k':Int}{n:Nd}(h:gq k n)(hk:k<=k'):gq k' n:=by
 obtain⟨⟨a1,a2⟩,⟨b1,b2⟩,c,d⟩:=h;exact⟨⟨by omega,by omega⟩,⟨by omega,by omega⟩,c,fun o ho=>⟨by have:=(d o ho).1;omega,by have:=(d o ho).2;omega⟩⟩
theorem EP (n:Int):xh n=some (decide (0<=n/\n<=4611686018427387904)):=by
 unfold xh;by_cases h:0<=n
 ·rw[aP (show n>=0 from h),ct];congr 1;exact decide_eq_decide.2 ⟨fun h2=>⟨h,h2⟩,fun h2=>h2.2⟩
 ·rw[aR (show¬n>=0 from h),cf,aR fun h2=>h h2.1]
theorem IJ {l:List Int}(hl:l.length<=1000)(h:∀x∈l,0<=x/\x<=4611686018427387904):xe l=some true:=by
 have e:=ax (step:=n3 l) (n:=l.length) (fun k=>iw.mk (k:Int)) (.inl (iw.mk (l.length:Int))) (fun k hk=>by
  obtain⟨y,hy,hm⟩:=az hk;unfold n3 B4;simp only
  rw[dO,au hy,ob,EP,ob,ob,aP (h y hm),Bool.not_true,cf,ah (n:=k)]) (by
  unfold n3;simp only
  rw[ft]) (by omega)
 have e':iter (n3 l) aY (iw.mk 0)=_:=e;unfold xe O8 II;rw[e',ob,sl,ob,ob];rfl
theorem rq {x:Int}(h0:0<=x)(h1:x<=18446744073709551615:=by omega):bits .and .u64 x 4294967295=x % 4294967296:=by
 obtain⟨n,rfl⟩:∃n:Nat,x=n:=⟨x.toNat,by omega⟩;have e:bits .and .u64 (n:Int) 4294967295=u64.wrap ((BitVec.ofInt 64 (n:Int) &&& BitVec.ofInt 64 4294967295).toNat:Int):=rfl
 have e2:(BitVec.ofInt 64 4294967295).toNat=2 ^ 32-1:=by decide
 have e3:(BitVec.ofInt 64 (n:Int)).toNat=n:=by
  rw[BitVec.toNat_ofInt];omega
 rw[e,BitVec.toNat_and,e2,e3,Nat.and_two_pow_sub_one_eq_mod,gO];omega
theorem r9 {x y:Int}(hx:0<=x)(hx1:x<=26388279066624)(hy:0<=y)(hy1:y<=3000):xi x y=some (0,x*y):=by
 have e:∀z,u64.wrap z=z % 18446744073709551616:=fun z=>rfl
 have hp:((2:Int) ^ (min (toNat 32) u64.bits))=4294967296:=by decide
 have hd:∀z:Int,z.fdiv 4294967296=z / 4294967296:=fun z=>Int.fdiv_eq_ediv_of_nonneg z (by omega)
 have h0:y / 4294967296=0:=by omega
 have h1:y % 4294967296=y:=by omega
 unfold xi;rw[hp,hd,hd,hd,hd,hd,rq (x:=y) hy,rq (x:=x) hx,h0,h1];have a1:0<=x / 4294967296*y:=Int.mul_nonneg (by omega) hy;have a2:x / 4294967296*y<=6144*3000:=Int.mul_le_mul (by omega) hy1 hy (by omega);have a3:0<=x % 4294967296*y:=Int.mul_nonneg (by omega) hy;have a4:x % 4294967296*y<=4294967295*3000:=Int.mul_le_mul (by omega) hy1 hy (by omega);have a5:0<=x*y:=Int.mul_nonneg hx hy;have a6:x*y<=26388279066624*3000:=Int.mul_le_mul hx1 hy1 hy (by omega);rw[Int.mul_zero,Int.mul_zero];generalize x / 4294967296*y=q at a1 a2⊢;generalize x % 4294967296*y=p at a3 a4⊢;generalize x*y=r at a5 a6⊢
 have ht:u64.wrap (u64.wrap q+u64.wrap p / 4294967296)=q+p / 4294967296:=by simp only[e];omega
 rw[ht,rq (by omega)];refine congrArg some<|Prod.ext ?_ ?_
 ·simp only[e];omega
 ·simp only[e];omega
theorem EL {a b c d:Int}(ha:0<=a/\a<=26388279066624)(hb:0<=b/\b<=3000)(hc:0<=c/\c<=26388279066624)(hd:0<=d/\d<=3000):xc a b c d=some (decide (a*b>c*d)):=by
 unfold xc;rw[IJ (by simp) (by simp;omega),ob,Bool.not_true,cf];unfold xf;rw[gO ha.1,gO hb.1,gO hc.1,gO hd.1,r9 ha.1 ha.2 hb.1 hb.2,ob,ob,r9 hc.1 hc.2 hd.1 hd.2,ob,ob];simp only;rw[xu,ob];generalize a*b=x;generalize c*d=y;unfold mh;by_cases h:x=y
 ·subst h;simp
 ·have hb:(x==y)=false:=beq_eq_false_iff_ne.2 h;by_cases h2:x>y
  ·simp[hb,h2,show¬x<y by omega]
  ·simp[hb,h2,show x<y by omega]
def Qj :Of:=Of.mk 0 0 (Bk.mk 0 0 (0,0) 0) (Vw.mk [] [])
theorem Gf {n:Nat}(hn:n<=1000):yo (n:Int)=some (List.replicate n Qj):=by
 have e:i64.wrap ((n:Int)-(i64.wrap (0-0)))=n:=by
  rw[show i64.wrap (0-0)=0 from by decide,cX];omega
 unfold yo;rw[aR (show¬(n:Int)<0 by omega),cf,e];by_cases h0:(n:Int)>0
 ·rw[aP h0,ct,show Ea (n:Int) 104=true from aP (by omega),ct];simp[Qj]
 ·rw[aR h0,cf]
  obtain rfl:n=0:=by omega
  rfl
theorem Fu {a b:List Of}(h:a.length+b.length<=1000):xL [a,b]=some (a++b):=by
 have e1:=ax (step:=jr [a,b]) (n:=2) (fun k=>match k with|0=>ey.mk 0 0|1=>ey.mk (a.length:Int) 1|_=>ey.mk ((a.length+b.length:Nat):Int) 2) (ey.mk ((a.length+b.length:Nat):Int) 2) (fun k hk=>by
  match k,hk with
  |0,_=>
   unfold jr;simp only;rw[aP (show(0:Int)<(([a,b]:List (List Of)).length:Int) by simp),ct,show ix [a,b] 0=some a from rfl,ob,cX,aR (show¬(0:Int)+(a.length:Int)<0 by omega),cf,Int.zero_add];rfl
  |1,_=>
   unfold jr;simp only;rw[aP (show(1:Int)<(([a,b]:List (List Of)).length:Int) by simp),ct,show ix [a,b] 1=some b from rfl,ob,cX,aR (show¬(a.length:Int)+(b.length:Int)<0 by omega),cf,Int.natCast_add]
   rfl) (by
  unfold jr;simp only
  rw[aR (show¬(2:Int)<(([a,b]:List (List Of)).length:Int) by simp),cf]) (by omega)
 have e1':iter (jr [a,b]) aY (ey.mk 0 0)=_:=e1;obtain⟨r,hr⟩:∃r,r=List.replicate (a.length+b.length) Qj:=⟨_,rfl⟩
 have hrl:r.length=a.length+b.length:=by rw[hr];simp
 have p1:gU r 0 a=a++r.drop a.length:=by unfold gU;simp
 have p1l:(gU r 0 a).length=a.length+b.length:=by rw[p1];simp;omega
 have p2:(gU (gU r 0 a) a.length b).take (a.length+b.length)=a++b:=by
  have e:(gU r 0 a).take a.length=a:=by rw[p1,List.take_left'];rfl
  unfold gU at e⊢;rw[e,List.take_left'];simp
 have p2l:(gU (gU r 0 a) a.length b).length=a.length+b.length:=by rw[Aq (by rw[p1l];omega),p1l]
 have e2:=ax (step:=js [a,b]) (n:=2) (fun k=>match k with|0=>ez.mk 0 0 r|1=>ez.mk a.length 1 (gU r 0 a)|_=>ez.mk (a.length+b.length) 2 (gU (gU r 0 a) a.length b)) (ez.mk (a.length+b.length) 2 (gU (gU r 0 a) a.length b)) (fun k hk=>by
  match k,hk with
  |0,_=>
   unfold js;simp only;rw[aP (show(0:Int)<(([a,b]:List (List Of)).length:Int) by simp),ct,show ix [a,b] 0=some a from rfl,ob,aP (show 0+a.length<=r.length by omega),ct,Nat.zero_add];rfl
  |1,_=>
   unfold js;simp only;rw[aP (show(1:Int)<(([a,b]:List (List Of)).length:Int) by simp),ct,show ix [a,b] 1=some b from rfl,ob,aP (show a.length+b.length<=(gU r 0 a).length by omega),ct]
   rfl) (by
  unfold js;simp only
  rw[aR (show¬(2:Int)<(([a,b]:List (List Of)).length:Int) by simp),cf]) (by omega)
 have e2':iter (js [a,b]) aY (ez.mk 0 0 r)=_:=e2;unfold xL;rw[e1',ob];simp only;rw[Gf h,ob,<-hr,e2',ob];simp only;rw[show Nat.ble (a.length+b.length) (gU (gU r 0 a) a.length b).length=true from Nat.ble_eq_true_of_le (by omega),ct,p2]
def gr (o:Of):Prop:=o.V.B.length<=1000/\o.V.V.length<=1000
theorem tf {v:Vw}(h1:v.B.length<=1000:=by omega)(h2:v.V.length<=1000:=by omega):te v=some v:=by
 unfold te;rw[aC,ct,aC,ct]
theorem th {o:Of}(h:gr o):tg o=some o:=by
 unfold tg;rw[tf h.1 h.2];rfl
def HZ (t:Int)(c:Cf)(slot:Int)(o:Of):Bool:=decide (¬t.tmod 3=2/\o.Slot=slot/\o.From=rf c slot)
def mJ (t:Int)(c:Cf)(slot:Int)(s:List Of×Bool)(o:Of):List Of×Bool:=if HZ t c slot o=true then(if s.1.length=8 then(s.1,true)else(s.1++[o],s.2))else s
def gY (t:Int)(c:Cf)(slot:Int)(full:Bool)(l:List Of):List Of×Bool:=l.foldl (mJ t c slot) ([],full)
theorem vM (t:Int)(c:Cf)(slot:Int)(full:Bool)(l:List Of)(o:Of):gY t c slot full (l++[o])=mJ t c slot (gY t c slot full l) o:=by unfold gY;rw[List.foldl_append];rfl
theorem CV {t:Int}{c:Cf}{slot:Int}:∀(l:List Of) (s:List Of×Bool),s.1.length<=8->(l.foldl (mJ t c slot) s).1.length<=8/\(∀o∈(l.foldl (mJ t c slot) s).1,o∈s.1\/(o∈l/\HZ t c slot o=true))/\(s.2=true->(l.foldl (mJ t c slot) s).2=true)
 |[],s,h=>⟨h,fun o ho=>.inl ho,id⟩
 | x ::r,s,h=>by
  rw[List.foldl_cons]
  have hs:(mJ t c slot s x).1.length<=8/\(∀o∈(mJ t c slot s x).1,o∈s.1\/(o=x/\HZ t c slot o=true))/\(s.2=true->(mJ t c slot s x).2=true):=by
   unfold mJ;split
   ·rename_i hk;split
    ·exact⟨h,fun o ho=>.inl ho,fun _=>rfl⟩
    ·refine⟨by simp only[List.length_append,length_singleton];omega,fun o ho=>?_,id⟩;rcases List.mem_append.1 ho with ho|ho
     ·exact .inl ho
     ·rw[List.mem_singleton]at ho;subst ho;exact .inr ⟨rfl,hk⟩
   ·exact⟨h,fun o ho=>.inl ho,id⟩
  obtain⟨h1,h2,h3⟩:=CV r (mJ t c slot s x) hs.1;refine⟨h1,fun o ho=>?_,fun e=>h3 (hs.2.2 e)⟩;rcases h2 o ho with h4|⟨h4,h5⟩
  ·rcases hs.2.1 o h4 with h5|⟨rfl,h5⟩
   ·exact .inl h5
   ·exact .inr ⟨.head _,h5⟩
  ·exact .inr ⟨.tail _ h4,h5⟩
theorem mo (t:Int)(c:Cf)(slot:Int)(full:Bool)(l:List Of):(gY t c slot full l).1.length<=8/\(∀o∈(gY t c slot full l).1,o∈l/\HZ t c slot o=true)/\(full=true->(gY t c slot full l).2=true):=by
 obtain⟨h1,h2,h3⟩:=CV (t:=t) (c:=c) (slot:=slot) l ([],full) (by simp);refine⟨h1,fun o ho=>?_,h3⟩;rcases h2 o ho with h4|h4
 ·simp at h4
 ·exact h4
theorem Gg {l:List Of}(hl:x.O.length+l.length<=1000)(hs:∀o∈x.O++l,gr o):yp l x c slot=some (gY x.Tick c slot x.Full (x.O++l)):=by
 unfold yp;rw[Fu hl,ob];generalize hL:x.O++l=L at hs
 have hLl:L.length<=1000:=by rw[<-hL,List.length_append];omega
 have e:=ax (step:=lq x c slot L) (n:=L.length) (fun k=>eG.mk (k:Int) (gY x.Tick c slot x.Full (L.take k)).2 (gY x.Tick c slot x.Full (L.take k)).1) (eG.mk (L.length:Int) (gY x.Tick c slot x.Full L).2 (gY x.Tick c slot x.Full L).1) (fun k hk=>by
  obtain⟨y,hy,hm⟩:=az hk
  have et:L.take (k+1)=L.take k++[y]:=by rw[take_add_one,hy];rfl
  have hf:=mo x.Tick c slot x.Full (L.take k);unfold lq;simp only;rw[dO,au hy,ob,et,vM,ah (n:=k)];generalize gY x.Tick c slot x.Full (L.take k)=s at hf⊢
  have hgate:(bif (x.Tick.tmod 3)==2 then some ((x.Tick.tmod 3)==2)else bif y.Slot != slot then some (y.Slot != slot)else(IE c slot).bind fun v4=>some (y.From != v4))=some (!HZ x.Tick c slot y):=by
   rw[wo,ob];unfold HZ;by_cases h1:x.Tick.tmod 3=2
   ·rw[beq_iff_eq.2 h1,ct,aR fun h=>h.1 h1];rfl
   ·rw[beq_eq_false_iff_ne.2 h1,cf];by_cases h2:y.Slot=slot
    ·rw[show(y.Slot != slot)=false by simp[h2],cf];by_cases h3:y.From=rf c slot
     ·rw[show(y.From != rf c slot)=false by simp[h3],aP ⟨h1,h2,h3⟩];rfl
     ·rw[show(y.From != rf c slot)=true by simp[h3],aR fun h=>h3 h.2.2];rfl
    ·rw[show(y.Slot != slot)=true by simp[h2],ct,aR fun h=>h2 h.2.1];rfl
  rw[hgate,ob];unfold mJ
  cases hk2:HZ x.Tick c slot y with
  |false=>rw[Bool.not_false,ct];rfl
  |true=>
   rw[Bool.not_true,cf,i1_ rfl];by_cases h8:s.1.length=8
   ·rw[show((s.1.length:Int)==8)=true by simp[h8],ct,i1_ h8]
   ·rw[show((s.1.length:Int)==8)=false by rw[beq_eq_false_iff_ne];omega,cf,th (hs y hm),ob,aC (by simp only[length_singleton];omega),ct,i0_ h8]) (by
  unfold lq;simp only
  rw[ft,take_length]) (by omega)
 have e':iter (lq x c slot L) aY (eG.mk 0 x.Full [])=_:=e;rw[e',ob]
theorem ot (c:Cf)(w i:Vw)(s:Int):w.B.length<=(aN c w i s).1.B.length/\(aN c w i s).1.B.length<=w.B.length+60/\w.V.length<=(aN c w i s).1.V.length/\(aN c w i s).1.V.length<=w.V.length+240/\(aN c w i s).2.1.B.length<=i.B.length/\(aN c w i s).2.1.V.length<=i.V.length:=by
 by_cases h:ov c w
 ·have ht:=LT h i s;have hl:=HC ht;have h1:=ht.may.lenB;have h2:=ht.may.lenV;omega
 ·have e:aN c w i s=(w,i,false):=by unfold aN;rw[i0_ h]
  rw[e];simp only;omega
theorem nZ {inp:Vw}{v:Vw}(h1:v.B.length<=1000:=by omega)(h2:v.V.length<=1000:=by omega)(h3:inp.B.length<=800:=by omega)(h4:inp.V.length<=600:=by omega) :
  m6 inp c slot v full=some ((aN c v inp slot).2.1,(aN c v inp slot).1,full||(aN c v inp slot).2.2):=by
 unfold m6;rw[KO h1 h2 h3 h4,ob];cases full <;>rfl
theorem lS (c:Cf)(w i:Vw)(s:Int):(aN c w i s).1.B.length<=max w.B.length 60/\(aN c w i s).1.V.length<=max w.V.length 240:=by
 by_cases h:ov c w
 ·have ht:=LT h i s;have h1:=ht.may.lenB;have h2:=ht.may.lenV;omega
 ·have e:aN c w i s=(w,i,false):=by unfold aN;rw[i0_ h]
  rw[e];simp only;omega
theorem Vw.eta (w:Vw):Vw.mk w.B w.V=w:=rfl
noncomputable def oC (x:Nd)(c:Cf)(slot:Int):Bk:=⟨slot,x.No,gX c (aN c x.V x.In slot).1.B (dF c (aN c x.V x.In slot).1.V (i64.wrap (slot-1))),0⟩
noncomputable def eg (x:Nd)(c:Cf)(slot:Int):Vw×Vw×Bool×List Of:=
 if x.No=rf c slot then
  ((aN c (aN c x.V x.In slot).1 ⟨[oC x c slot],[]⟩ slot).1,(aN c x.V x.In slot).2.1,(x.Full||(aN c x.V x.In slot).2.2)||(aN c (aN c x.V x.In slot).1 ⟨[oC x c slot],[]⟩ slot).2.2,[⟨slot,x.No,oC x c slot,(aN c x.V x.In slot).1⟩])
 else(x.V,x.In,x.Full,[])
theorem DA (h1:x.V.B.length<=500)(h2:x.V.V.length<=500)(h3:x.In.B.length<=500)(h4:x.In.V.length<=500):rn x c slot []=some (eg x c slot):=by
 have hm:=lS c x.V x.In slot;unfold rn eg;rw[wo,ob];by_cases h:x.No=rf c slot
 ·rw[show(x.No != rf c slot)=false by simp[h],cf,i1_ h,nZ,ob];simp only;rw[ta (by omega) (by omega),ob];have hs:gr (Of.mk slot x.No (Bk.mk slot x.No (gX c (aN c x.V x.In slot).1.B (dF c (aN c x.V x.In slot).1.V (i64.wrap (slot-1)))) 0) (aN c x.V x.In slot).1):=⟨by show(aN c x.V x.In slot).1.B.length<=1000;omega,by show(aN c x.V x.In slot).1.V.length<=1000;omega⟩;rw[th hs,ob];unfold vk;rw[ob,nZ (by omega) (by omega) (by simp) (by simp),ob];rfl
 ·rw[show(x.No != rf c slot)=true by simp[h],ct,i0_ h]
noncomputable def qT (c:Cf)(slot:Int)(s:Vw×Vw×Bool)(o:Of):Vw×Vw×Bool:=
 ((aN c s.1 (c8 o.V ⟨[o.B],[]⟩) slot).1,c8 s.2.1 (aN c s.1 (c8 o.V ⟨[o.B],[]⟩) slot).2.1,s.2.2||(aN c s.1 (c8 o.V ⟨[o.B],[]⟩) slot).2.2)
noncomputable def bc (x:Nd)(o:List Of)(c:Cf)(slot:Int):Vw×Vw×Bool:=o.foldl (qT c slot) (x.V,x.In,x.Full)
noncomputable def fG (x:Nd)(o:List Of)(c:Cf)(slot:Int):Vw×Vw×Bool:=
 if x.No∈pF c slot then
  ((bc x o c slot).1,c8 (bc x o c slot).2.1 ⟨[],[⟨x.No,slot,gX c (bc x o c slot).1.B (dF c (bc x o c slot).1.V (i64.wrap (slot-1)))⟩]⟩,(bc x o c slot).2.2)
 else bc x o c slot
theorem uA (x:Nd)(o:List Of)(c:Cf)(slot:Int)(y:Of):bc x (o++[y]) c slot=qT c slot (bc x o c slot) y:=by unfold bc;rw[List.foldl_append];rfl
theorem up (o:Of):(c8 o.V ⟨[o.B],[]⟩).B.length<=o.V.B.length+1/\(c8 o.V ⟨[o.B],[]⟩).V.length<=o.V.V.length:=by
 have h1:=dp [o.B] o.V.B;have h2:=dp ([]:List Vt) o.V.V;exact⟨h1,h2⟩
theorem oh (a b:Vw):(c8 a b).B.length<=a.B.length+b.B.length/\(c8 a b).V.length<=a.V.length+b.V.length:=⟨dp _ _,dp _ _⟩
theorem qU (h1:x.V.B.length<=500)(h2:x.V.V.length<=500)(h3:x.In.B.length<=500)(h4:x.In.V.length<=500):∀(k:Nat) (o:List Of),o.length<=k->(∀y∈o,y.V.B.length<=500/\y.V.V.length<=500)->
  (bc x o c slot).1.B.length<=500/\(bc x o c slot).1.V.length<=500/\(bc x o c slot).2.1.B.length<=500+501*k/\(bc x o c slot).2.1.V.length<=500+501*k:=by
 intro k
 induction k with
 |zero=>
  intro o ho _;obtain rfl:o=[]:=List.length_eq_zero_iff.1 (by omega);exact⟨h1,h2,le_trans h3 (by omega),le_trans h4 (by omega)⟩
 |succ k ih=>
  intro o ho hs;rcases List.eq_nil_or_concat o with rfl|⟨r,y,rfl⟩
  ·exact⟨h1,h2,le_trans h3 (by omega),le_trans h4 (by omega)⟩
  ·rw[List.concat_eq_append]at ho hs⊢;rw[List.length_append,length_singleton]at ho;obtain⟨a1,a2,a3,a4⟩:=ih r (by omega) fun z hz=>hs z (List.mem_append_left _ hz);have hy:=hs y (List.mem_append_right _ (List.mem_singleton.2 rfl));have hl:=up y;rw[uA];unfold qT;generalize bc x r c slot=s at a1 a2 a3 a4⊢;have hm:=lS c s.1 (c8 y.V ⟨[y.B],[]⟩) slot;have hz:=ot c s.1 (c8 y.V ⟨[y.B],[]⟩) slot;have hj:=oh s.2.1 (aN c s.1 (c8 y.V ⟨[y.B],[]⟩) slot).2.1;simp only;omega
theorem AW {o:List Of}(h1:x.V.B.length<=500)(h2:x.V.V.length<=500)(h3:x.In.B.length<=500)(h4:x.In.V.length<=500)(ho:o.length<=8)(hs:∀y∈o,y.V.B.length<=500/\y.V.V.length<=500) :
  n4 x o c slot=some (fG x o c slot):=by
 have e:=ax (step:=ic o c slot) (n:=o.length) (fun k=>dJ.mk (k:Int) (bc x (o.take k) c slot).1.B (bc x (o.take k) c slot).1.V (bc x (o.take k) c slot).2.1.B (bc x (o.take k) c slot).2.1.V (bc x (o.take k) c slot).2.2)
  (dJ.mk (o.length:Int) (bc x o c slot).1.B (bc x o c slot).1.V (bc x o c slot).2.1.B (bc x o c slot).2.1.V (bc x o c slot).2.2) (fun k hk=>by
  obtain⟨y,hy,hm⟩:=az hk
  have et:o.take (k+1)=o.take k++[y]:=by rw[take_add_one,hy];rfl
  have hsz:=qU (c:=c) (slot:=slot) h1 h2 h3 h4 8 (o.take k) (by rw[length_take];omega) fun z hz=>hs z (List.mem_of_mem_take hz);have hy2:=hs y hm;have hl:=up y;unfold ic;simp only;rw[dO,au hy,ob,et,uA,ah (n:=k)];generalize bc x (o.take k) c slot=s at hsz⊢;have hz:=ot c s.1 (c8 y.V ⟨[y.B],[]⟩) slot;unfold vk;rw[ob,oU (by simp only[length_singleton];omega) (by simp only[List.length_nil];omega),ob,Vw.eta,Vw.eta,nZ,ob];simp only;rw[oU,ob]
  rfl) (by
  unfold ic;simp only
  rw[ft,take_length]) (by omega)
 have e':iter (ic o c slot) aY (dJ.mk 0 x.V.B x.V.V x.In.B x.In.V x.Full)=_:=e;have hsz:=qU (c:=c) (slot:=slot) h1 h2 h3 h4 8 o ho hs;unfold n4 fG;rw[e',ob,F4,ob];simp only[Vw.eta];generalize bc x o c slot=s at hsz⊢;by_cases h:x.No∈pF c slot
 ·rw[aP h,ct,i1_ h,ta (by omega) (by omega),ob,oU (by simp only[List.length_nil];omega) (by simp only[length_singleton];omega),ob]
 ·rw[aR h,cf,i0_ h]
def m8 (c:Cf)(w:Vw)(slot:Int)(id:ID):Prop:=xa c (pF c slot)*(c.Den+2*c.Num)<2*lJ c w.B (dF c w.V slot) id*c.Den
instance (c:Cf) (w:Vw) (slot:Int) (id:ID):Decidable (m8 c w slot id):=inferInstanceAs (Decidable (_<_))
def pz (c:Cf)(w:Vw)(slot:Int):List ID->ID×Bool
 |a::b::r=>if m8 c w slot a then(a,true)else pz c w slot (b::r)
 |_=>((0,0),false)
theorem wd {c:Cf}{w:Vw}{slot:Int}:∀l:List ID,(pz c w slot l).2=true->m8 c w slot (pz c w slot l).1
 |[],h=>by cases h
 |[_],h=>by cases h
 |a::b::r,h=>by
  unfold pz at h⊢;by_cases hs:m8 c w slot a
  ·rw[i1_ hs];exact hs
  ·rw[i0_ hs]at h⊢;exact wd (b::r) h
theorem uJ {l:List ID}(h:l.length<2):pz c w slot l=((0,0),false):=by
 match l,h with
 |[],_=>rfl
 |[_],_=>rfl
theorem Da {l:List ID}{y:ID}(hy:l[0]?=some y)(h:2<=l.length):pz c w slot l=if m8 c w slot y then(y,true)else pz c w slot (l.drop 1):=by
 match l,h with
 |a::b::r,_=>
  obtain rfl:=Option.some.inj hy;rfl
theorem xM (hm:cY c)(h1:w.B.length<=1000)(h2:w.V.length<=1000):pR c w slot head=some (pz c w slot (ao w.B head)):=by
 have hg:=qu c w.V slot;have hc:=rx c slot;unfold pR Gk;rw[xj (by omega),ob,AP,ob,F2 (by omega),ob,ob,show few w.B=true from aP h1,ct];have hwt:=Df c (pF c slot)
 obtain⟨b,hb,rfl⟩:=bA (step:=l9 c w) (fun x=>x.v=dF c w.V slot/\x.al=xa c (pF c slot)/\pz c w slot x.l=pz c w slot (ao w.B head)) (fun x=>x.l.length) (fun r=>r=pz c w slot (ao w.B head)) (by
  rintro⟨l,v,al⟩ ⟨e1,e2,e3⟩;simp only at e1 e2 e3;subst e1 e2;by_cases hl:(l.length:Int)<2
  ·right;refine⟨((0,0),false),?_,by rw[<-e3,uJ (by omega)]⟩;unfold l9;simp only;rw[aP hl,ct]
  ·obtain⟨y,hy,-⟩:=az (l:=l) (n:=0);have hy':ix l 0=some y:=au hy;have htop:=Da (c:=c) (w:=w) (slot:=slot) hy (by omega);obtain⟨-,-,-,-,-,m1,m2,m3,m4⟩:=hm;have hon:0<=lJ c w.B (dF c w.V slot) y/\lJ c w.B (dF c w.V slot) y<=13194139533312:=Df _ _
   have hstep:l9 c w ⟨l,dF c w.V slot,xa c (pF c slot)⟩=bif decide (2*lJ c w.B (dF c w.V slot) y*c.Den>xa c (pF c slot)*(c.Den+2*c.Num))then some (.inr (y,true))else some (.inl ⟨l.drop 1,dF c w.V slot,xa c (pF c slot)⟩):=by
    unfold l9 IM wu;simp only
    rw[aR hl,cf,hy',ob,B9 h1 (by omega),ob,ob,cX,cX (n:=2*c.Num),cX,EL ⟨by omega,by omega⟩ ⟨by omega,by omega⟩ ⟨by omega,by omega⟩ ⟨by omega,by omega⟩,ob,ob,ob,
     show wP l 1 l.length=true from aP (by omega),ct]
    rfl
   cases hd:decide (2*lJ c w.B (dF c w.V slot) y*c.Den>xa c (pF c slot)*(c.Den+2*c.Num))with
   |true=>rw[hd,ct]at hstep;exact .inr ⟨_,hstep,by rw[<-e3,htop,i1_ (show m8 c w slot y from of_decide_eq_true hd)]⟩
   |false=>
    rw[hd,cf]at hstep;refine .inl ⟨_,hstep,⟨rfl,rfl,by rw[<-e3,htop,i0_ (show¬m8 c w slot y from of_decide_eq_false hd)]⟩,?_⟩;simp only[List.length_drop]
    omega) (n:=aY) (x:=n7.mk (ao w.B head) (dF c w.V slot) (xa c (pF c slot))) ⟨rfl,rfl,rfl⟩ (cq (by have:(ao w.B head).length<=w.B.length+1:=oc head;simp only;omega))
 exact hb
theorem Dx (hm:cY c)(h1:w.B.length<=1000)(h2:w.V.length<=1000):∃r,pR c w slot head=some r/\(r.2=true->m8 c w slot r.1):=⟨_,xM hm h1 h2,wd _⟩
theorem tG (hm:cY c)(h1:x.V.B.length<=500)(h2:x.V.V.length<=500)(h3:x.In.B.length<=500)(h4:x.In.V.length<=500) :
  ∃r,pR c (aN c x.V x.In slot).1 slot (gX c (aN c x.V x.In slot).1.B (dF c (aN c x.V x.In slot).1.V slot))=some r/\(r.2=true->m8 c (aN c x.V x.In slot).1 slot r.1)/\oX x c slot=some ((aN c x.V x.In slot).1,(aN c x.V x.In slot).2.1,dK x.C (aN c x.V x.In slot).1.B (gX c (aN c x.V x.In slot).1.B (dF c (aN c x.V x.In slot).1.V slot)) r.1 r.2 slot,x.Full||(aN c x.V x.In slot).2.2):=by
 have hx:=lS c x.V x.In slot;obtain⟨r,hr,hs⟩:=Dx (slot:=slot) (head:=gX c (aN c x.V x.In slot).1.B (dF c (aN c x.V x.In slot).1.V slot)) hm (w:=(aN c x.V x.In slot).1) (by omega) (by omega);refine⟨r,hr,hs,?_⟩;unfold oX;rw[nZ,ob];simp only;rw[ta (by omega) (by omega),ob,hr,ob,show few (aN c x.V x.In slot).1.B=true from aP (by omega),ct]
theorem DF (hm:cY c)(h1:x.V.B.length<=500)(h2:x.V.V.length<=500)(h3:x.In.B.length<=500)(h4:x.In.V.length<=500) :
  ∃cu,oX x c slot=some ((aN c x.V x.In slot).1,(aN c x.V x.In slot).2.1,cu,x.Full||(aN c x.V x.In slot).2.2):=
 have ⟨_,_,_,e⟩:=tG hm h1 h2 h3 h4
 ⟨_,e⟩
structure QC (c:Cf)(n:Nd)(inp:Vw)(o:List Of):Prop where
 n:gq 30 n
 inp:mf 30 inp
 len:o.length<=10
 o:∀y∈o,mf 30 y.V
theorem qY (hk:k<=1000){l:List Of}(h:∀y∈l,mf k y.V):∀y∈l,gr y:=fun y hy=>by
 obtain⟨a,b⟩:=h y hy;exact⟨by omega,by omega⟩
structure tH (c:Cf)(n:Nd)(inp:Vw)(o:List Of):Prop where
 vw:n.V.B.length<=500/\n.V.V.length<=500
 inw:n.In.B.length<=1000/\n.In.V.length<=1000
 came:inp.B.length<=2000/\inp.V.length<=2000
 ins:(c8 n.In (bF c inp)).B.length<=500/\(c8 n.In (bF c inp)).V.length<=500
 len:n.O.length+o.length<=1000
 offs:∀y∈n.O++o,y.V.B.length<=500/\y.V.V.length<=500
theorem DT {n:Nd}(hl:n.O.length<=1000)(hs:∀y∈n.O,gr y):iter (kW n) aY (eY.mk 0 [])=some (eY.mk (n.O.length:Int) n.O):=by
 have e:=ax (step:=kW n) (n:=n.O.length) (fun k=>eY.mk (k:Int) (n.O.take k)) (eY.mk (n.O.length:Int) n.O) (fun k hk=>by
  obtain⟨y,hy,hm⟩:=az hk
  have et:n.O.take (k+1)=n.O.take k++[y]:=by rw[take_add_one,hy];rfl
  unfold kW;simp only
  rw[dO,au hy,ob,th (hs y hm),ob,aC (by rw[length_take];simp only[length_singleton];omega),ct,et,ah (n:=k)]) (by
  unfold kW;simp only
  rw[ft,take_length]) (by omega)
 exact e
def jL (c:Cf)(n:Nd):Bool:=decide (¬cY c\/n.Tick<3\/i64.wrap (n.Tick.tdiv 3)>1048576)
theorem rH (c:Cf)(n:Nd):((EC c).bind fun v2=>bif !v2 then some true else bif decide (n.Tick<3)then some true else some (decide ((i64.wrap (n.Tick.tdiv 3))>1048576)))=some (jL c n):=by
 rw[l8,ob];unfold jL;by_cases h1:cY c
 ·rw[aP h1,Bool.not_true,cf];by_cases h2:n.Tick<3
  ·rw[aP h2,ct,aP (.inr (.inl h2))]
  ·rw[aR h2,cf];by_cases h3:i64.wrap (n.Tick.tdiv 3)>1048576
   ·rw[aP h3,aP (.inr (.inr h3))]
   ·rw[aR h3,aR];rintro(h|h|h)
    ·exact h h1
    ·exact h2 h
    ·exact h3 h
 ·rw[aR h1,Bool.not_false,ct,aP (.inl h1)]
theorem sb {n:Nd}{inp:Vw}{o:List Of}(hf:tH c n inp o)(h:jL c n=true):ko c n inp o=some (n,[]):=by
 obtain⟨⟨a1,a2⟩,⟨b1,b2⟩,-,-,c1,c2⟩:=hf;unfold ko;rw[rH,ob,h,ct,tf,ob,tf,ob,DT (by omega) (fun y hy=>by have:=c2 y (List.mem_append_left _ hy);exact⟨by omega,by omega⟩),ob]
def iU (c:Cf)(n:Nd)(inp:Vw):Vw:=c8 n.In (bF c inp)
def aS (n:Nd):Int:=i64.wrap (n.Tick.tdiv 3)
def fq (c:Cf)(n:Nd)(o:List Of):List Of×Bool:=gY n.Tick c (aS n) n.Full (n.O++o)
def dr (c:Cf)(n:Nd)(inp:Vw)(o:List Of):Nd:=⟨n.No,n.Tick,n.V,iU c n inp,[],n.C,(fq c n o).2⟩
theorem pP {n:Nd}{inp:Vw}{o:List Of}(hf:tH c n inp o)(h:jL c n=false):ko c n inp o =
  bif (n.Tick.tmod 3)==0 then
   (rn (dr c n inp o) c (aS n) []).bind fun v10=>some (Nd.mk n.No (i64.wrap (n.Tick+1)) v10.1 v10.2.1 (fq c n o).1 n.C v10.2.2.1,v10.2.2.2)
  else bif (n.Tick.tmod 3)==1 then
   (n4 (dr c n inp o) (fq c n o).1 c (aS n)).bind fun v11=>some (Nd.mk n.No (i64.wrap (n.Tick+1)) v11.1 v11.2.1 [] n.C v11.2.2,[])
  else bif (n.Tick.tmod 3)==2 then
   (oX (dr c n inp o) c (aS n)).bind fun v12=>some (Nd.mk n.No (i64.wrap (n.Tick+1)) v12.1 v12.2.1 [] v12.2.2.1 v12.2.2.2,[])
  else none:=by
 obtain⟨⟨a1,a2⟩,⟨b1,b2⟩,⟨e1,e2⟩,-,g1,g2⟩:=hf;have h2:=qD c inp;unfold ko;rw[rH,ob,h,cf,F8,ob,oU,ob];rw[Gg (by show n.O.length+o.length<=1000;omega) (fun y hy=>by have:=g2 y hy;exact⟨by omega,by omega⟩),ob];rfl
theorem pn {n:Nd}{inp:Vw}{o:List Of}(hf:tH c n inp o):(fq c n o).1.length<=8/\∀y∈(fq c n o).1,y.V.B.length<=500/\y.V.V.length<=500:=by
 obtain⟨h1,h2,-⟩:=mo n.Tick c (aS n) n.Full (n.O++o);exact⟨h1,fun y hy=>hf.offs y (h2 y hy).1⟩
theorem xw {n:Nd}{inp:Vw}{o:List Of}(hf:tH c n inp o)(h:jL c n=false)(h0:n.Tick.tmod 3=0) :
  ko c n inp o=some (Nd.mk n.No (i64.wrap (n.Tick+1)) (eg (dr c n inp o) c (aS n)).1 (eg (dr c n inp o) c (aS n)).2.1 (fq c n o).1 n.C (eg (dr c n inp o) c (aS n)).2.2.1,(eg (dr c n inp o) c (aS n)).2.2.2):=by
 have hi:(iU c n inp).B.length<=500/\(iU c n inp).V.length<=500:=hf.ins;rw[pP hf h];obtain⟨⟨a1,a2⟩,-⟩:=hf;rw[beq_iff_eq.2 h0,ct,DA (by show n.V.B.length<=500;omega) (by show n.V.V.length<=500;omega) (by show(iU c n inp).B.length<=500;omega) (by show(iU c n inp).V.length<=500;omega),ob]
theorem xx {n:Nd}{inp:Vw}{o:List Of}(hf:tH c n inp o)(h:jL c n=false)(h1:n.Tick.tmod 3=1) :
  ko c n inp o=some (Nd.mk n.No (i64.wrap (n.Tick+1)) (fG (dr c n inp o) (fq c n o).1 c (aS n)).1 (fG (dr c n inp o) (fq c n o).1 c (aS n)).2.1 [] n.C (fG (dr c n inp o) (fq c n o).1 c (aS n)).2.2,[]):=by
 have hi:(iU c n inp).B.length<=500/\(iU c n inp).V.length<=500:=hf.ins;obtain⟨hr1,hr2⟩:=pn hf;rw[pP hf h];obtain⟨⟨a1,a2⟩,-⟩:=hf;rw[show((n.Tick.tmod 3)==0)=false by rw[h1];rfl,cf,beq_iff_eq.2 h1,ct,AW (by show n.V.B.length<=500;omega) (by show n.V.V.length<=500;omega) (by show(iU c n inp).B.length<=500;omega) (by show(iU c n inp).V.length<=500;omega) hr1 hr2,ob]
theorem Fl {n:Nd}{inp:Vw}{o:List Of}(hf:tH c n inp o)(h:jL c n=false)(h2:n.Tick.tmod 3=2) :
  ∃cu,ko c n inp o=some (Nd.mk n.No (i64.wrap (n.Tick+1)) (aN c n.V (iU c n inp) (aS n)).1 (aN c n.V (iU c n inp) (aS n)).2.1 [] cu ((fq c n o).2||(aN c n.V (iU c n inp) (aS n)).2.2),[]):=by
 have hi:(iU c n inp).B.length<=500/\(iU c n inp).V.length<=500:=hf.ins
 have hm:cY c:=by
  have:=of_decide_eq_false h;exact Decidable.not_not.1 fun h=>this<|.inl h
 rw[pP hf h];obtain⟨⟨a1,a2⟩,-⟩:=hf;obtain⟨cu,e⟩:=DF (x:=dr c n inp o) (slot:=aS n) hm (by show n.V.B.length<=500;omega) (by show n.V.V.length<=500;omega) (by show(iU c n inp).B.length<=500;omega) (by show(iU c n inp).V.length<=500;omega);rw[show((n.Tick.tmod 3)==0)=false by rw[h2];rfl,cf,show((n.Tick.tmod 3)==1)=false by rw[h2];rfl,cf,beq_iff_eq.2 h2,ct,e,ob];exact⟨cu,rfl⟩
theorem AB {n:Nd}(h:jL c n=false):n.Tick.tmod 3=0\/n.Tick.tmod 3=1\/n.Tick.tmod 3=2:=by
 have h3:¬n.Tick<3:=fun h2=>(of_decide_eq_false h) (.inr (.inl h2));rw[Int.tmod_eq_emod_of_nonneg (by omega)];omega
section
variable {c : Cu} {l : List Bk} {head found : ID} {is : Bool} {slot : Int}
theorem Hf (h:0<=ap (ao l head) c.ID):dK c l head found is slot =
  if is=true/\ap (ao l head) found>=0/\ap (ao l head) found<ap (ao l head) c.ID then⟨found,slot,c.Revoked⟩else c:=by
 simp only[dK,i0_ (show¬ap (ao l head) c.ID<0 by omega)]
theorem He (hl:l.length<=1000)(h:ap (ao l head) c.ID<0):dK c l head found is slot =
  if is=true/\ap (ao l head) found>=0/\ap (ao l head) found<((ao l head).length:Int)-1 then⟨found,slot,i64.wrap (c.Revoked+1)⟩else⟨(0,0),slot,i64.wrap (c.Revoked+1)⟩:=by
 simp only[dK,i1_ h,HP hl]
end
end Go.Mg
