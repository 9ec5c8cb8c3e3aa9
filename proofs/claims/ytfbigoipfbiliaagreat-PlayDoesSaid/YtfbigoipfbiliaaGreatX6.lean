/- Weights of blocks, heads: what stands alone, and the reference. Conditions: none. -/
import Derived.Test.YtfbigoipfbiliaaGreatX5
set_option maxRecDepth 100000
set_option linter.unusedSimpArgs false
set_option linter.unusedVariables false
namespace Go.Mg
open IntKind (i64)
open Go.Proofs.Tryz (func40 prog)
open Go.Proofs
variable {α : Type} {a b : Vw} {c : Cf} {f : α -> PV} {l s : List Bk} {m : List (ID × Bool)} {names : List ID} {r_ : Bool} {v : List Vt}
def Dw (x:Int):Option Bool:=some (x != x)
theorem M2 {x:Int}(h:Dw x=some r_):aq prog 236 [.int .u64 x] [.bool r_]:=by
 refine zh Tryz.func236 Z Z Z Z ?_;unfold Dw at h;refine qR<|mN Z<|qR<|zM Z<|zM Z<|yS Z (an Z Z Z Z)<|mN Z<|zr ?_;cases h;exact aZ Z
def Fh (x:Int)(y:Int):Option Int:=(Dw x).bind fun v1=>(Dw y).bind fun v2=>bif v1 then bif v2 then some 0 else some (-1)else bif v2 then some 1 else bif decide (x<y)then some (-1)else bif decide (x>y)then some 1 else some 0
theorem PO {x:Int}{y:Int}{r_:Int}(h:Fh x y=some r_):aq prog 230 [.int .u64 x,.int .u64 y] [.int .i64 r_]:=by
 refine zh Tryz.func230 Z Z Z Z ?_;unfold Fh at h;refine qR<|mN Z<|qR<|zM Z<|zb h fun v1 a1 h=>yS Z (yP Z Z Z (M2 a1) dG)<|mN Z<|qR<|zM Z<|zb h fun v2 a2 h=>yS Z (yP Z Z Z (M2 a2) dG)<|mN Z<|zQ<|qR<|mN Z ?_;refine zX Z (fun g1=>?_)<|fun g1=>?_
 ·refine zi g1 h fun h=>zQ<|qR<|mN Z ?_;refine zX Z (fun g2=>?_)<|fun g2=>?_
  ·refine zi g2 h fun h=>qR<|mN Z<|LW.ret<|ae<|ae ?_;cases h;exact aZ Z
  ·refine zo g2 h fun h=>zk<|zT<|qR<|mN Z<|zr<|ae ?_;cases h;exact aZ Z
 ·refine zo g1 h fun h=>zk<|zT<|zQ<|qR<|mN Z ?_;refine zX Z (fun g3=>?_)<|fun g3=>?_
  ·refine zi g3 h fun h=>qR<|mN Z<|LW.ret<|ae ?_;cases h;exact aZ Z
  ·refine zo g3 h fun h=>zk<|zT<|zQ<|qR<|zM Z<|zM Z<|yS Z (an Z Z Z Z)<|nT ?_;refine zX Z (fun g4=>?_)<|fun g4=>?_
   ·refine zi g4 h fun h=>qR<|mN Z<|LW.ret<|ae ?_;cases h;exact aZ Z
   ·refine zo g4 h fun h=>zk<|zT<|zQ<|qR<|zM Z<|zM Z<|yS Z (an Z Z Z Z)<|nT ?_;refine zX Z (fun g5=>?_)<|fun g5=>?_
    ·refine zi g5 h fun h=>qR<|mN Z<|LW.ret<|ae ?_;cases h;exact aZ Z
    ·refine zo g5 h fun h=>zk<|zT<|qR<|mN Z<|zr ?_;cases h;exact aZ Z
structure fz where
 t11:Int
def kj (s1:List Int)(s2:List Int)(x1:fz):Option (fz⊕(fz⊕Int)):=bif decide (x1.t11<(s1.length:Int))then (ix s1 x1.t11).bind fun y1=>bif decide (x1.t11>=(s2.length:Int))then some (.inr (.inr 1))else (ix s2 x1.t11).bind fun y2=>(Fh y1 y2).bind fun v2=>bif v2 != 0 then some (.inr (.inr v2))else some (.inl (fz.mk (i64.wrap (x1.t11+1))))else some (.inr (.inl (fz.mk x1.t11)))
def Dp (s1:List Int)(s2:List Int):Option Int:=(iter (kj s1 s2) aY (fz.mk 0)).bind fun b_v1=>Sum.elim (fun _=>bif decide ((s1.length:Int)<(s2.length:Int))then some (-1)else some 0) some b_v1
theorem MV {s1:List Int}{s2:List Int}{r_:Int}(h:Dp s1 s2=some r_):aq prog 208 [.slice 1 (s1.map kE),.slice 1 (s2.map kE)] [.int .i64 r_]:=by
 refine zh Tryz.func208 Z Z Z Z ?_;unfold Dp at h;refine qR<|mN Z<|zQ<|qR<|zM Z<|yS Z (ck Z Z)<|mN Z ?_;obtain⟨w1,p1,q1⟩:=zB h;clear h;refine LW.tailB (b:=w1) (E:=fun v1=>[(0,.p (.slice 1 (s1.map kE))),(1,.p (.slice 1 (s2.map kE))),(4,(iQ 0))]) (O:=fun v1=>[]) ?_<|fun v1 f1 e1 K1 u1=>?_
 ·refine LW.block ?_;refine LW.iterB (E:=fun x1:fz=>[(0,.p (.slice 1 (s1.map kE))),(1,.p (.slice 1 (s2.map kE))),(4,(iQ 0)),(9,.p (.slice 1 (s1.map kE))),(10,.p (.int .i64 (s1.length:Int))),(11,(iQ x1.t11))]) (O:=fun x1=>[]) p1 (av 0 ⟨Z,Z,Z,Z,Z,Z,t_⟩)<|fun x1 z1 h m1=>?_;unfold kj at h;refine qR<|yS Z (an Z Z Z Z)<|nT<|zQ ?_;refine zX Z (fun g1=>?_)<|fun g1=>?_
  ·refine zi g1 h fun h=>zk<|zT<|zQ<|zl<|qR<|zM Z<|zb h fun y1 j1 h=>yS Z (zx Z Z Z Ev j1 Z)<|yS Z (bR Z Z Z iT Z Z)<|zM Z<|mN Z<|zQ<|qR<|zM Z<|zM Z<|yS Z (ck Z Z)<|yS Z (an Z Z Z Z)<|nT ?_;refine zX Z (fun g2=>?_)<|fun g2=>?_
   ·refine zi g2 h fun h=>qR<|mN Z<|LW.ret<|ae<|ak<|ae<|ae<|ak<|ae<|ae ?_;cases h;obtain rfl:=(m1 _ rfl);have h:=bO q1;cases h;exact aZ Z
   ·refine zo g2 h fun h=>zk<|zT<|qR<|zM Z<|zM Z<|zb h fun y2 j2 h=>yS Z (zx Z Z Z Ev j2 Z)<|yS Z (bR Z Z Z iT Z Z)<|mN Z<|qR<|zM Z<|zM Z<|zb h fun v2 a2 h=>yS Z (yP Z Z Z (PO a2) bG)<|mN Z<|qR<|zM Z<|yS Z (an Z Z Z Z)<|nT ?_;refine zX Z (fun g3=>?_)<|fun g3=>?_
    ·refine zi g3 h fun h=>qR<|zM Z<|mN Z<|zr<|ak<|ae<|ae<|ak<|ae<|ae ?_;cases h;obtain rfl:=(m1 _ rfl);have h:=bO q1;cases h;exact aZ Z
    ·refine zo g3 h fun h=>zk<|af<|zT<|zR<|yS Z (an Z Z Z Z)<|mN Z ?_;cases h;exact⟨_,rfl,av 0 ⟨Z,Z,Z,Z,Z,Z,t_⟩⟩
  ·refine zo g1 h fun h=>zq<|ai<|ai<|zy<|zT ?_;cases h;obtain rfl:=(m1 _ rfl);exact⟨_,rfl,av 0 ⟨Z,Z,Z,t_⟩⟩
 ·obtain rfl:=f1;have h:=cR q1;clear p1;refine zT<|LW.weak u1<|zQ<|qR<|zM Z<|yS Z (ck Z Z)<|zM Z<|yS Z (ck Z Z)<|yS Z (an Z Z Z Z)<|nT ?_;refine zX Z (fun g4=>?_)<|fun g4=>?_
  ·refine zi g4 h fun h=>qR<|mN Z<|LW.ret<|ae ?_;cases h;exact aZ Z
  ·refine zo g4 h fun h=>zk<|zT<|qR<|mN Z<|zr ?_;cases h;exact aZ Z
def EU (a:ID)(b:ID):Option Bool:=(Dp [a.1,a.2] [b.1,b.2]).bind fun v1=>some (decide (v1<0))
theorem Px {a:ID}{b:ID}(h:EU a b=some r_):aq prog 217 [aX a,aX b] [.bool r_]:=by
 refine zh Tryz.func217 Z Z Z Z ?_;unfold EU at h;refine qR<|yS Z (bx Z Z Z Z Z)<|yS Z (bx Z Z Z Z Z)<|mN Z<|zQ<|dx<|yE Z (aa.sliceBox Z Z qa Z Z Z)<|yE Z (aa.sliceBox Z Z qa Z Z Z)<|zb h fun v1 a1 h=>yE Z (zC Z Z Z (by kernel_rfl) (LC.lend (MV a1) (.cons (Conv.boxSlice Z Z Z Z) (.cons (Conv.boxSlice Z Z Z Z) .nil)) Z))<|yE Z (an Z Z Z Z)<|zH Z<|LO.nil<|zT<|zr ?_;cases h;exact aZ Z
def EV (a:Rk)(b:Rk):Option Bool:=bif a.n != b.n then some (decide (a.n>b.n))else bif !((a.n==b.n)&&((a.id.1==b.id.1)&&((a.id.2==b.id.2)&&true)))then (EU b.id a.id).bind fun v1=>some v1 else some false
theorem Py {a:Rk}{b:Rk}(h:EV a b=some r_):aq prog 179 [QA a,QA b] [.bool r_]:=by
 refine zh Tryz.func179 Z Z Z Z ?_;unfold EV at h;refine qR<|yS Z (bx Z Z Z Z Z)<|yS Z (bx Z Z Z Z Z)<|mN Z<|zQ<|qR<|yS Z (zA Z Z qq)<|yS Z (zD Z Z Z aW Z Z)<|yS Z (zA Z Z qq)<|yS Z (zD Z Z Z aW Z Z)<|yS Z (an Z Z Z Z)<|nT ?_;refine zX Z (fun g1=>?_)<|fun g1=>?_
 ·refine zi g1 h fun h=>qR<|yS Z (zA Z Z qq)<|yS Z (zD Z Z Z aW Z Z)<|yS Z (zA Z Z qq)<|yS Z (zD Z Z Z aW Z Z)<|yS Z (an Z Z Z Z)<|mN Z<|zr<|ae ?_;cases h;exact aZ Z
 ·refine zo g1 h fun h=>zk<|zT<|qR<|yS Z (zD Z Z Z sy Z Z)<|yS Z (zD Z Z Z sy Z Z)<|yS Z (aa.neqAgg Z Z Z Z Z LB)<|zM Z ?_;refine zc 18 Z (fun g2=>?_)<|fun g2=>?_
  ·refine zi g2 h fun h=>yV Z (gd g2 Z) (zA Z Z wL)<|yV Z (gd g2 Z) (zD Z Z Z aF Z Z)<|yV Z (gd g2 Z) (zA Z Z wL)<|yV Z (gd g2 Z) (zD Z Z Z aF Z Z)<|zb h fun v1 a1 h=>yV Z (gd g2 Z) (yP Z Z Z (Px a1) bG)<|yS Z (bv Z (aJ g2 Z) Z)<|mN Z<|zr ?_;cases h;exact aZ Z
  ·refine zo g2 h fun h=>yU Z (gd g2 Z) Z<|yU Z (gd g2 Z) Z<|yU Z (gd g2 Z) Z<|yU Z (gd g2 Z) Z<|yU Z (gd g2 Z) Z<|yS Z (aT Z (aJ g2 Z) Z)<|mN Z<|zr ?_;cases h;exact aZ Z
def Iv (x:Vt):Option Int:=some x.From
theorem PK {x:Vt}{r_:Int}(h:Iv x=some r_):aq prog 205 [aO x] [.int .i64 r_]:=by
 refine zh Tryz.func205 Z Z Z Z ?_;unfold Iv at h;refine qR<|yS Z (bx Z Z Z Z Z)<|mN Z<|qR<|yS Z (zA Z Z ik)<|yS Z (zD Z Z Z aW Z Z)<|mN Z<|zr ?_;cases h;exact aZ Z
def Fc (a:ID)(b:ID):Option Bool:=bif decide (a.1<b.1)then some true else bif a.1==b.1 then some (decide (a.2<b.2))else some false
theorem PM {a:ID}{b:ID}(h:Fc a b=some r_):aq prog 186 [aX a,aX b] [.bool r_]:=by
 refine zh Tryz.func186 Z Z Z Z ?_;unfold Fc at h;refine qR<|yS Z (bx Z Z Z Z Z)<|yS Z (bx Z Z Z Z Z)<|mN Z<|qR<|yS Z (aa.indexAddrA Z Z Z qa (by decide) (by decide))<|yS Z (zD Z Z Z iT Z Z)<|yS Z (aa.indexAddrA Z Z Z qa (by decide) (by decide))<|yS Z (zD Z Z Z iT Z Z)<|yS Z (an Z Z Z Z)<|zM Z ?_;refine zc 10 Z (fun g1=>?_)<|fun g1=>?_
 ·refine zi g1 h fun h=>yU Z (gd g1 Z) Z<|yU Z (gd g1 Z) Z<|yU Z (gd g1 Z) Z<|yU Z (gd g1 Z) Z<|yU Z (gd g1 Z) Z<|yU Z (gd g1 Z) Z<|zY Z Z Z Z Z<|zY Z Z Z Z Z<|zY Z Z Z Z Z<|zY Z Z Z Z Z<|zY Z Z Z Z Z<|yU Z (gd g1 Z) Z<|yS Z (bv Z (aJ g1 Z) Z)<|mN Z<|zr ?_;cases h;exact aZ Z
 ·refine zo g1 h fun h=>yV Z (gd g1 Z) (aa.indexAddrA Z Z Z qa (by decide) (by decide))<|yV Z (gd g1 Z) (zD Z Z Z iT Z Z)<|yV Z (gd g1 Z) (aa.indexAddrA Z Z Z qa (by decide) (by decide))<|yV Z (gd g1 Z) (zD Z Z Z iT Z Z)<|yV Z (gd g1 Z) (an Z Z Z Z)<|yV Z (gd g1 Z) (zm Z Z) ?_;refine zc 16 Z (fun g2=>?_)<|fun g2=>?_
  ·refine zi g2 h fun h=>yV Z (gd g2 Z) (aa.indexAddrA Z Z Z qa (by decide) (by decide))<|yV Z (gd g2 Z) (zD Z Z Z iT Z Z)<|yV Z (gd g2 Z) (aa.indexAddrA Z Z Z qa (by decide) (by decide))<|yV Z (gd g2 Z) (zD Z Z Z iT Z Z)<|yV Z (gd g2 Z) (an Z Z Z Z)<|yV Z (gd g1 Z) (bv Z (aJ g2 Z) Z)<|yS Z (aT Z (aJ g1 Z) Z)<|mN Z<|zr ?_;cases h;exact aZ Z
  ·refine zo g2 h fun h=>yU Z (gd g2 Z) Z<|yU Z (gd g2 Z) Z<|yU Z (gd g2 Z) Z<|yU Z (gd g2 Z) Z<|yU Z (gd g2 Z) Z<|yV Z (gd g1 Z) (aT Z (aJ g2 Z) Z)<|yS Z (aT Z (aJ g1 Z) Z)<|mN Z<|zr ?_;cases h;exact aZ Z
structure gk where
 i:Int
 out:List ID
def pM (l:List Bk)(names:List ID)(id:ID)(x1:gk):Option (gk⊕gk):=bif decide (x1.i<(l.length:Int))then (ix l x1.i).bind fun y1=>bif ((y1.Parent.1==id.1)&&((y1.Parent.2==id.2)&&true))then (ix names x1.i).bind fun y2=>bif bJ x1.out.length [y2].length 16 then some (.inl (gk.mk (i64.wrap (x1.i+1)) (x1.out++[y2])))else none else some (.inl (gk.mk (i64.wrap (x1.i+1)) x1.out))else some (.inr (gk.mk x1.i x1.out))
def Fb (l:List Bk)(names:List ID)(id:ID):Option (List ID):=(iter (pM l names id) aY (gk.mk 0 ([]:List ID))).bind fun v1=>some v1.out
theorem PL {id:ID}{r_:(List ID)}(h:Fb l names id=some r_):aq prog 184 [.slice 5 (l.map aA),.slice 2 (names.map aX),aX id] [.slice 2 (r_.map aX)]:=by
 refine zh Tryz.func184 Z Z Z Z ?_;unfold Fb at h;refine qR<|yS Z (bx Z Z Z Z Z)<|mN Z<|qR<|mN Z<|zQ<|qR<|mN Z<|LW.ent (bY.lazy (t:=7) (m:=2) Z Z Z) ?_;obtain⟨v1,p1,a1⟩:=zB h;clear h;refine LW.tail (E:=[(6,.zs),(7,.vec 2 1 (v1.out.map aX).length 0 (v1.out.map aX).length)]) (O:=[.box [(uQ id.1),(uQ id.2)],.vec 2 (v1.out.map aX)]) ?_<|fun e1 K1 u1=>?_
 ·refine LW.block ?_;refine LW.iterB (E:=fun x1:gk=>[(0,(kB l)),(1,.p (.slice 2 (names.map aX))),(5,.ptr 0 0),(6,.zs),(7,.vec 2 1 (x1.out.map aX).length 0 (x1.out.map aX).length),(8,(iQ x1.i))]) (O:=fun x1=>[.box [(uQ id.1),(uQ id.2)],.vec 2 (x1.out.map aX)]) p1 (av 2 ⟨Z,Z,Z,Z,Z,Z,t_⟩)<|fun x1 z1 h m1=>?_;unfold pM at h;refine zQ<|qR<|zM Z<|zM Z<|yS Z (ck Z Z)<|yS Z (an Z Z Z Z)<|nT ?_;refine zX Z (fun g1=>?_)<|fun g1=>?_
  ·refine zi g1 h fun h=>zk<|zT<|zQ<|zl<|zQ<|dx<|zH Z<|zH Z<|zb h fun y1 j1 h=>yE Z (zx Z Z Z cw j1 Z)<|yE Z (aa.fieldAddrC Z Z gt Z)<|yE Z (bR Z Z Z aF Z Z)<|yE Z (zD Z Z Z aF Z Z)<|yE Z (aa.eqlAgg Z Z Z Z Z gV)<|LO.nil<|zT ?_;refine zX Z (fun g2=>?_)<|fun g2=>?_
   ·refine zi g2 h fun h=>zR<|zM Z<|zM Z<|zM Z<|zb h fun y2 j2 h=>yS Z (zx Z Z Z fH j2 Z)<|yS Z (bR Z Z Z aF Z Z)<|yS Z (gR Z fH Z Z Z Z Z)<|zg h fun q1 h=>yS Z (aa.appendX aX x1.out [y2] rfl Z Z Z iy.p Z fH q1 Z)<|zM Z<|zN<|af<|zT<|zR<|zM Z<|yS Z (an Z Z Z Z)<|mN Z ?_;cases h;exact⟨_,rfl,av 2 ⟨Z,Z,Z,Z,Z,Z,t_⟩⟩
   ·refine zo g2 h fun h=>zk<|af<|zT<|zR<|zM Z<|yS Z (an Z Z Z Z)<|mN Z ?_;cases h;exact⟨_,rfl,av 2 ⟨Z,Z,Z,Z,Z,Z,t_⟩⟩
  ·refine zo g1 h fun h=>zq<|ai<|ai<|zy<|zT ?_;cases h;obtain rfl:=(m1 _ rfl);exact av 2 ⟨Z,Z,t_⟩
 ·have h:=a1;clear p1;refine zT<|LW.weak u1<|qR<|zM Z<|mN Z<|zr ?_;cases h;exact zf (.one (.tmp Z))<|(Conv.vecAll Z Z Z)
structure l6 where
 i:Int
 id:ID
def l7 (l:List Bk)(names:List ID)(low:ID)(x1:l6):Option (l6⊕l6):=(bif decide (x1.i>=0)then some (!((x1.id.1==low.1)&&((x1.id.2==low.2)&&true)))else some false).bind fun v4=>bif v4 then (ix l x1.i).bind fun y1=>(Cr names y1.Parent).bind fun v5=>some (.inl (l6.mk v5 y1.Parent))else some (.inr (l6.mk x1.i x1.id))
def Fi (l:List Bk)(names:List ID)(low:ID)(id:ID):Option Bool:=(Cr names id).bind fun v1=>(bif decide (v1<0)then bif !((id.1==0)&&((id.2==0)&&true))then some (.inr false)else some (.inl ())else some (.inl ())).bind fun b_v2=>Sum.elim (fun _=>(iter (l7 l names low) aY (l6.mk v1 id)).bind fun v3=>some ((v3.id.1==low.1)&&((v3.id.2==low.2)&&true))) some b_v2
theorem PP {low:ID}{id:ID}(h:Fi l names low id=some r_):aq prog 222 [.slice 5 (l.map aA),.slice 2 (names.map aX),aX low,aX id] [.bool r_]:=by
 refine zh Tryz.func222 Z Z Z Z ?_;unfold Fi at h;refine qR<|yS Z (bx Z Z Z Z Z)<|yS Z (bx Z Z Z Z Z)<|mN Z<|qR<|zM Z<|yS Z (zD Z Z Z aF Z Z)<|zb h fun v1 a1 h=>yS Z (yP Z Z Z (Li a1) bG)<|mN Z ?_;obtain⟨w2,p2,q2⟩:=zB h;clear h;refine LW.cutB (b:=w2) (E:=fun v2=>[(0,(kB l)),(1,.p (.slice 2 (names.map aX))),(6,.ptr 0 0),(7,.ptr 1 0),(8,(bQ false)),(9,(iQ v1))]) (O:=fun v2=>[.box [(uQ low.1),(uQ low.2)],.box [(uQ id.1),(uQ id.2)]]) ?_<|fun v2 f2=>?_
 ·have h:=p2;refine qR<|zM Z<|yS Z (an Z Z Z Z)<|zM Z ?_;refine zc 15 Z (fun g1=>?_)<|fun g1=>?_
  ·refine zi g1 h fun h=>yV Z (gd g1 Z) (zD Z Z Z aF Z Z)<|yV Z (gd g1 Z) (aa.build Z ng Z Z Z)<|yV Z (gd g1 Z) (aa.neqAgg Z Z Z Z Z gV)<|yS Z (bv Z (aJ g1 Z) Z)<|nT ?_;refine zX Z (fun g2=>?_)<|fun g2=>?_
   ·refine zi g2 h fun h=>qR<|mN Z<|LW.ret<|ae ?_;cases h;have h:=bO q2;cases h;exact aZ Z
   ·refine zo g2 h fun h=>zk<|zT ?_;cases h;exact⟨_,rfl,av 2 ⟨Z,Z,Z,Z,Z,Z,t_⟩⟩
  ·refine zo g1 h fun h=>yU Z (gd g1 Z) Z<|yU Z (gd g1 Z) Z<|yU Z (gd g1 Z) Z<|yS Z (aT Z (aJ g1 Z) Z)<|nT<|LW.condF Z<|zk<|zT ?_;cases h;exact⟨_,rfl,av 2 ⟨Z,Z,Z,Z,Z,Z,t_⟩⟩
 ·obtain rfl:=f2;have h:=cR q2;clear p2;obtain⟨v3,p3,q3⟩:=zB h;clear h;refine LW.cut (E:=[(6,.ptr 0 0),(7,.ptr 1 0),(8,(bQ false))]) (O:=[.box [(uQ low.1),(uQ low.2)],.box [(uQ v3.id.1),(uQ v3.id.2)]]) ?_ ?_
  ·refine LW.block ?_;refine LW.iterB (E:=fun x1:l6=>[(0,(kB l)),(1,.p (.slice 2 (names.map aX))),(6,.ptr 0 0),(7,.ptr 1 0),(8,(bQ false)),(9,(iQ x1.i))]) (O:=fun x1=>[.box [(uQ low.1),(uQ low.2)],.box [(uQ x1.id.1),(uQ x1.id.2)]]) p3 (av 2 ⟨Z,Z,Z,Z,Z,Z,t_⟩)<|fun x1 z1 h m1=>?_;unfold l7 at h;refine zQ ?_;obtain⟨v4,p4,q4⟩:=zB h;clear h;refine LW.cut (E:=[(0,(kB l)),(1,.p (.slice 2 (names.map aX))),(6,.ptr 0 0),(7,.ptr 1 0),(8,(bQ false)),(9,(iQ x1.i)),(26,(bQ v4))]) (O:=[.box [(uQ low.1),(uQ low.2)],.box [(uQ x1.id.1),(uQ x1.id.2)]]) ?_ ?_
   ·have h:=p4;refine zR<|zM Z<|yS Z (an Z Z Z Z)<|zM Z ?_;refine zc 22 Z (fun g3=>?_)<|fun g3=>?_
    ·refine zi g3 h fun h=>yV Z (gd g3 Z) (zD Z Z Z aF Z Z)<|yV Z (gd g3 Z) (zD Z Z Z aF Z Z)<|yV Z (gd g3 Z) (aa.neqAgg Z Z Z Z Z gV)<|yS Z (bv Z (aJ g3 Z) Z)<|nT ?_;cases h;exact av 2 ⟨Z,Z,Z,Z,Z,Z,Z,t_⟩
    ·refine zo g3 h fun h=>yU Z (gd g3 Z) Z<|yU Z (gd g3 Z) Z<|yU Z (gd g3 Z) Z<|yS Z (aT Z (aJ g3 Z) Z)<|nT ?_;cases h;exact av 2 ⟨Z,Z,Z,Z,Z,Z,Z,t_⟩
   ·have h:=q4;clear p4;refine zX Z (fun g4=>?_)<|fun g4=>?_
    ·refine zi g4 h fun h=>zk<|zT<|zl<|qR<|zM Z<|zM Z<|zb h fun y1 j1 h=>yS Z (zx Z Z Z cw j1 Z)<|yS Z (aa.fieldAddrC Z Z gt Z)<|yS Z (bR Z Z Z aF Z Z)<|yS Z (zs Z Z Z Z aF Z Z Z Z)<|nT<|zR<|zM Z<|yS Z (zD Z Z Z aF Z Z)<|zb h fun v5 a5 h=>yS Z (yP Z Z Z (Li a5) bG)<|zM Z<|zN<|af<|zT ?_;cases h;exact⟨_,rfl,av 2 ⟨Z,Z,Z,Z,Z,Z,t_⟩⟩
    ·refine zo g4 h fun h=>zq<|ai<|ai<|zy<|zT ?_;cases h;obtain rfl:=(m1 _ rfl);exact av 2 ⟨Z,Z,Z,t_⟩
  ·have h:=q3;clear p3;refine qR<|yS Z (zD Z Z Z aF Z Z)<|yS Z (zD Z Z Z aF Z Z)<|yS Z (aa.eqlAgg Z Z Z Z Z gV)<|mN Z<|zr ?_;cases h;exact aZ Z
structure gl where
 i:Int
 who:List Int
def pN (l:List Bk)(names:List ID)(v:List Vt)(id:ID)(x1:gl):Option (gl⊕gl):=bif decide (x1.i<(v.length:Int))then (ix v x1.i).bind fun y1=>(Fi l names id y1.Head).bind fun v2=>bif v2 then (ix v x1.i).bind fun y2=>bif bJ x1.who.length [y2.From].length 8 then some (.inl (gl.mk (i64.wrap (x1.i+1)) (x1.who++[y2.From])))else none else some (.inl (gl.mk (i64.wrap (x1.i+1)) x1.who))else some (.inr (gl.mk x1.i x1.who))
def Dq (c:Cf)(l:List Bk)(names:List ID)(v:List Vt)(id:ID):Option Int:=(iter (pN l names v id) aY (gl.mk 0 ([]:List Int))).bind fun v1=>(L6 c v1.who).bind fun v3=>some v3
theorem MW {id:ID}{r_:Int}(h:Dq c l names v id=some r_):aq prog 185 [gQ c,.slice 5 (l.map aA),.slice 2 (names.map aX),.slice 4 (v.map aO),aX id] [.int .i64 r_]:=by
 refine zh Tryz.func185 Z Z Z Z ?_;unfold Dq at h;refine qR<|yS Z (bx Z Z Z Z Z)<|yS Z (bx Z Z Z Z Z)<|mN Z<|qR<|mN Z<|zQ<|qR<|mN Z<|LW.ent (bY.lazy (t:=11) (m:=1) Z Z Z) ?_;obtain⟨v1,p1,b1⟩:=zB h;clear h;refine LW.tail (E:=[(5,.ptr 0 0),(10,(iQ 0)),(11,(jI 2 v1.who))]) (O:=[.box (ch c),.box [(uQ id.1),(uQ id.2)],.vec 1 (v1.who.map bh)]) ?_<|fun e1 K1 u1=>?_
 ·refine LW.block ?_;refine LW.iterB (E:=fun x1:gl=>[(1,(kB l)),(2,.p (.slice 2 (names.map aX))),(3,(kV v)),(5,.ptr 0 0),(9,.ptr 1 0),(10,(iQ 0)),(11,(jI 2 x1.who)),(12,(iQ x1.i))]) (O:=fun x1=>[.box (ch c),.box [(uQ id.1),(uQ id.2)],.vec 1 (x1.who.map bh)]) p1 (av 3 ⟨Z,Z,Z,Z,Z,Z,Z,Z,t_⟩)<|fun x1 z1 h m1=>?_;unfold pN at h;refine zQ<|qR<|zM Z<|zM Z<|yS Z (ck Z Z)<|yS Z (an Z Z Z Z)<|nT ?_;refine zX Z (fun g1=>?_)<|fun g1=>?_
  ·refine zi g1 h fun h=>zk<|zT<|zQ<|zl<|zQ<|dx<|zH Z<|zH Z<|yE Z (zD Z Z Z aF Z Z)<|zH Z<|zH Z<|zb h fun y1 j1 h=>yE Z (zx Z Z Z bC j1 Z)<|yE Z (aa.fieldAddrC Z Z i2 Z)<|yE Z (bR Z Z Z aF Z Z)<|zb h fun v2 a2 h=>yE Z (yP Z Z Z (PP a2) we)<|zH Z<|LO.nil<|zT<|qR<|mN Z ?_;refine zX Z (fun g2=>?_)<|fun g2=>?_
   ·refine zi g2 h fun h=>zR<|zM Z<|zM Z<|zM Z<|zb h fun y2 j2 h=>yS Z (zx Z Z Z bC j2 Z)<|yS Z (aa.fieldAddrC Z Z ik Z)<|yS Z (bR Z Z Z aW Z Z)<|yS Z (gR Z dL Z Z Z Z Z)<|zg h fun q1 h=>yS Z (aa.appendX bh x1.who [y2.From] rfl Z Z Z iy.p Z dL q1 Z)<|zM Z<|zN<|af<|zT<|zR<|zM Z<|yS Z (an Z Z Z Z)<|mN Z ?_;cases h;exact⟨_,rfl,av 3 ⟨Z,Z,Z,Z,Z,Z,Z,Z,t_⟩⟩
   ·refine zo g2 h fun h=>zk<|af<|zT<|zR<|zM Z<|yS Z (an Z Z Z Z)<|mN Z ?_;cases h;exact⟨_,rfl,av 3 ⟨Z,Z,Z,Z,Z,Z,Z,Z,t_⟩⟩
  ·refine zo g1 h fun h=>zq<|ai<|ai<|zy<|zT ?_;cases h;obtain rfl:=(m1 _ rfl);exact av 3 ⟨Z,Z,Z,t_⟩
 ·have h:=b1;clear p1;refine zT<|LW.weak u1<|qR<|yS Z (zD Z Z Z be Z Z)<|zM Z<|zb h fun v3 a3 h=>yS Z (zC Z Z Z (by kernel_rfl) (LC.lend (Qu a3) (.cons zv (.cons (Conv.vecAll Z Z Z) .nil)) Z))<|mN Z<|zr ?_;cases h;exact aZ Z
structure gb where
 most:Int
 i:Int
 best:ID
def pK (c:Cf)(l:List Bk)(names:List ID)(v:List Vt)(v1:(List ID))(x1:gb):Option (gb⊕gb):=bif decide (x1.i<(v1.length:Int))then (ix v1 x1.i).bind fun y1=>(Dq c l names v y1).bind fun v3=>(ix v1 x1.i).bind fun y2=>(Fc x1.best y2).bind fun v4=>(bif x1.i==0 then some true else bif decide (v3>x1.most)then some true else bif v3==x1.most then some v4 else some false).bind fun v5=>bif v5 then (ix v1 x1.i).bind fun y3=>some (.inl (gb.mk v3 (i64.wrap (x1.i+1)) y3))else some (.inl (gb.mk x1.most (i64.wrap (x1.i+1)) x1.best))else some (.inr (gb.mk x1.most x1.i x1.best))
def EW (c:Cf)(l:List Bk)(names:List ID)(v:List Vt)(id:ID):Option (ID×Bool):=(Fb l names id).bind fun v1=>(iter (pK c l names v v1) aY (gb.mk 0 0 (0,0))).bind fun v2=>some (v2.best,decide ((v1.length:Int)>0))
theorem Pz {id:ID}{r_:ID×Bool}(h:EW c l names v id=some r_):aq prog 145 [gQ c,.slice 5 (l.map aA),.slice 2 (names.map aX),.slice 4 (v.map aO),aX id] [aX r_.1,.bool r_.2]:=by
 refine zh Tryz.func145 Z Z Z Z ?_;unfold EW at h;refine qR<|yS Z (bx Z Z Z Z Z)<|yS Z (bx Z Z Z Z Z)<|yS Z (ze Z gP Z Z)<|mN Z<|qR<|zM Z<|zM Z<|yS Z (zD Z Z Z aF Z Z)<|zb h fun v1 a1 h=>yS Z (yP Z Z Z (PL a1) pA)<|mN Z<|qR<|yS Z (aa.build Z ng Z Z Z)<|yS Z (ze Z gP Z Z)<|yS Z (zs Z Z Z Z aF Z Z Z Z)<|nT<|qR<|mN Z<|zQ<|qR<|mN Z ?_;obtain⟨v2,p2,q2⟩:=zB h;clear h;refine LW.tail (E:=[(10,.ptr 2 0),(11,(bQ false)),(12,.p (.slice 2 (v1.map aX))),(13,.ptr 3 0)]) (O:=[.box (ch c),.box [(uQ id.1),(uQ id.2)],.box [(uQ 0),(uQ 0)],.box [(uQ v2.best.1),(uQ v2.best.2)]]) ?_<|fun e2 K2 u2=>?_
 ·refine LW.block ?_;refine LW.iterB (E:=fun x1:gb=>[(1,(kB l)),(2,.p (.slice 2 (names.map aX))),(3,(kV v)),(5,.ptr 0 0),(10,.ptr 2 0),(11,(bQ false)),(12,.p (.slice 2 (v1.map aX))),(13,.ptr 3 0),(14,(iQ x1.most)),(15,(iQ x1.i))]) (O:=fun x1=>[.box (ch c),.box [(uQ id.1),(uQ id.2)],.box [(uQ 0),(uQ 0)],.box [(uQ x1.best.1),(uQ x1.best.2)]]) p2 (av 4 ⟨Z,Z,Z,Z,Z,Z,Z,Z,Z,Z,t_⟩)<|fun x1 z1 h m1=>?_;unfold pK at h;refine zQ<|qR<|zM Z<|zM Z<|yS Z (ck Z Z)<|yS Z (an Z Z Z Z)<|nT ?_;refine zX Z (fun g1=>?_)<|fun g1=>?_
  ·refine zi g1 h fun h=>zk<|zT<|zQ<|zl<|zQ<|dx<|yE Z (zD Z Z Z be Z Z)<|zH Z<|zH Z<|zH Z<|zH Z<|zH Z<|zb h fun y1 j1 h=>yE Z (zx Z Z Z fH j1 Z)<|yE Z (bR Z Z Z aF Z Z)<|zb h fun v3 a3 h=>yE Z (yP Z Z Z (MW a3) BP)<|zH Z<|LO.nil<|zT<|zQ<|dx<|yE Z (zD Z Z Z aF Z Z)<|zH Z<|zH Z<|zb h fun y2 j2 h=>yE Z (zx Z Z Z fH j2 Z)<|yE Z (bR Z Z Z aF Z Z)<|zb h fun v4 a4 h=>yE Z (yP Z Z Z (PM a4) bG)<|zH Z<|LO.nil<|zT ?_;obtain⟨v5,p5,q5⟩:=zB h;clear h;refine LW.cut (E:=[(1,(kB l)),(2,.p (.slice 2 (names.map aX))),(3,(kV v)),(5,.ptr 0 0),(10,.ptr 2 0),(11,(bQ false)),(12,.p (.slice 2 (v1.map aX))),(13,.ptr 3 0),(14,(iQ x1.most)),(15,(iQ x1.i)),(16,(iQ v3)),(58,(bQ v5))]) (O:=[.box (ch c),.box [(uQ id.1),(uQ id.2)],.box [(uQ 0),(uQ 0)],.box [(uQ x1.best.1),(uQ x1.best.2)]]) ?_ ?_
   ·have h:=p5;refine zR<|zM Z<|yS Z (an Z Z Z Z)<|zM Z ?_;refine zc 46 Z (fun g2=>?_)<|fun g2=>?_
    ·refine zi g2 h fun h=>yU Z (gd g2 Z) Z<|yU Z (gd g2 Z) Z<|yU Z (gd g2 Z) Z<|yS Z (bv Z (aJ g2 Z) Z)<|zM Z<|aw Z<|aw Z<|aw Z<|aw Z<|zY Z Z Z Z Z<|aw Z<|yS Z (bv Z Z Z)<|nT ?_;cases h;exact av 4 ⟨Z,Z,Z,Z,Z,Z,Z,Z,Z,Z,Z,Z,t_⟩
    ·refine zo g2 h fun h=>yV Z (gd g2 Z) (zm Z Z)<|yV Z (gd g2 Z) (zm Z Z)<|yV Z (gd g2 Z) (an Z Z Z Z)<|yS Z (aT Z (aJ g2 Z) Z)<|zM Z ?_;refine zc 51 Z (fun g3=>?_)<|fun g3=>?_
     ·refine zi g3 h fun h=>yU Z (gd g3 Z) Z<|yU Z (gd g3 Z) Z<|yU Z (gd g3 Z) Z<|yU Z (gd g3 Z) Z<|zY Z Z Z Z Z<|yU Z (gd g3 Z) Z<|yS Z (bv Z (aJ g3 Z) Z)<|nT ?_;cases h;exact av 4 ⟨Z,Z,Z,Z,Z,Z,Z,Z,Z,Z,Z,Z,t_⟩
     ·refine zo g3 h fun h=>yV Z (gd g3 Z) (zm Z Z)<|yV Z (gd g3 Z) (zm Z Z)<|yV Z (gd g3 Z) (an Z Z Z Z)<|yV Z (gd g3 Z) (zm Z Z) ?_;refine zc 55 Z (fun g4=>?_)<|fun g4=>?_
      ·refine zi g4 h fun h=>yV Z (gd g4 Z) (zm Z Z)<|yV Z (gd g3 Z) (bv Z (aJ g4 Z) Z)<|yS Z (aT Z (aJ g3 Z) Z)<|nT ?_;cases h;exact av 4 ⟨Z,Z,Z,Z,Z,Z,Z,Z,Z,Z,Z,Z,t_⟩
      ·refine zo g4 h fun h=>yU Z (gd g4 Z) Z<|yV Z (gd g3 Z) (aT Z (aJ g4 Z) Z)<|yS Z (aT Z (aJ g3 Z) Z)<|nT ?_;cases h;exact av 4 ⟨Z,Z,Z,Z,Z,Z,Z,Z,Z,Z,Z,Z,t_⟩
   ·have h:=q5;clear p5;refine zX Z (fun g5=>?_)<|fun g5=>?_
    ·refine zi g5 h fun h=>qR<|zM Z<|zM Z<|zb h fun y3 j3 h=>yS Z (zx Z Z Z fH j3 Z)<|yS Z (bR Z Z Z aF Z Z)<|yS Z (zs Z Z Z Z aF Z Z Z Z)<|nT<|zR<|zM Z<|zM Z<|zN<|af<|zT<|zR<|zM Z<|yS Z (an Z Z Z Z)<|mN Z ?_;cases h;exact⟨_,rfl,av 4 ⟨Z,Z,Z,Z,Z,Z,Z,Z,Z,Z,t_⟩⟩
    ·refine zo g5 h fun h=>zk<|af<|zT<|zR<|zM Z<|yS Z (an Z Z Z Z)<|mN Z ?_;cases h;exact⟨_,rfl,av 4 ⟨Z,Z,Z,Z,Z,Z,Z,Z,Z,Z,t_⟩⟩
  ·refine zo g1 h fun h=>zq<|ai<|ai<|zy<|zT ?_;cases h;obtain rfl:=(m1 _ rfl);exact av 4 ⟨Z,Z,Z,Z,t_⟩
 ·have h:=q2;clear p2;refine zT<|LW.weak u2<|qR<|yS Z (zD Z Z Z aF Z Z)<|zM Z<|yS Z (ck Z Z)<|yS Z (an Z Z Z Z)<|yS Z (zs Z Z Z Z aF Z Z Z Z)<|mN Z<|zr ?_;cases h;exact zf (.two (er Z Z) (.tmp Z))<|⟨_,rfl,bG⟩
def xp (l:List Bk)(names:List ID):Option Bool:=(L9 l names).bind fun v1=>some v1
theorem La (h:xp l names=some r_):aq prog 144 [.slice 5 (l.map aA),.slice 2 (names.map aX)] [.bool r_]:=by
 refine zh Tryz.func144 Z Z Z Z ?_;unfold xp at h;refine qR<|mN Z<|qR<|zM Z<|zM Z<|zb h fun v1 a1 h=>yS Z (yP Z Z Z (Qx a1) bG)<|mN Z<|qR<|zM Z<|mN Z<|zr ?_;cases h;exact aZ Z
structure mZ where
 i:Int
 id:ID
def m0 (c:Cf)(l:List Bk)(v:List Vt)(v1:(List ID))(v2:Bool)(x1:mZ):Option (mZ⊕mZ):=(bif decide (x1.i<=(l.length:Int))then some v2 else some false).bind fun v4=>bif v4 then (EW c l v1 v x1.id).bind fun v5=>bif !v5.2 then some (.inr (mZ.mk x1.i x1.id))else some (.inl (mZ.mk (i64.wrap (x1.i+1)) v5.1))else some (.inr (mZ.mk x1.i x1.id))
def Mn (c:Cf)(l:List Bk)(v:List Vt):Option ID:=(JC l).bind fun v1=>(xp l v1).bind fun v2=>(iter (m0 c l v v1 v2) aY (mZ.mk 0 (0,0))).bind fun v3=>some v3.id
theorem QM {r_:ID}(h:Mn c l v=some r_):aq prog 100 [gQ c,.slice 5 (l.map aA),.slice 4 (v.map aO)] [aX r_]:=by
 refine zh Tryz.func100 Z Z Z Z ?_;unfold Mn at h;refine qR<|yS Z (bx Z Z Z Z Z)<|yS Z (ze Z gP Z Z)<|nT<|qR<|yS Z (aa.build Z ng Z Z Z)<|yS Z (ze Z gP Z Z)<|yS Z (zs Z Z Z Z aF Z Z Z Z)<|nT<|qR<|zM Z<|zb h fun v1 a1 h=>yS Z (yP Z Z Z (Pf a1) dG)<|mN Z<|qR<|zM Z<|zM Z<|zb h fun v2 a2 h=>yS Z (yP Z Z Z (La a2) bG)<|mN Z<|zQ<|qR<|mN Z ?_;obtain⟨v3,p3,q3⟩:=zB h;clear h;refine LW.tail (E:=[(6,.ptr 1 0),(7,.ptr 2 0)]) (O:=[.box (ch c),.box [(uQ 0),(uQ 0)],.box [(uQ v3.id.1),(uQ v3.id.2)]]) ?_<|fun e3 K3 u3=>?_
 ·refine LW.block ?_;refine LW.iterB (E:=fun x1:mZ=>[(1,(kB l)),(2,(kV v)),(3,.ptr 0 0),(6,.ptr 1 0),(7,.ptr 2 0),(8,.p (.slice 2 (v1.map aX))),(9,(bQ v2)),(10,(iQ x1.i))]) (O:=fun x1=>[.box (ch c),.box [(uQ 0),(uQ 0)],.box [(uQ x1.id.1),(uQ x1.id.2)]]) p3 (av 3 ⟨Z,Z,Z,Z,Z,Z,Z,Z,t_⟩)<|fun x1 z1 h b1=>?_;unfold m0 at h;refine zQ ?_;obtain⟨v4,p4,q4⟩:=zB h;clear h;refine LW.cut (E:=[(1,(kB l)),(2,(kV v)),(3,.ptr 0 0),(6,.ptr 1 0),(7,.ptr 2 0),(8,.p (.slice 2 (v1.map aX))),(9,(bQ v2)),(10,(iQ x1.i)),(25,(bQ v4))]) (O:=[.box (ch c),.box [(uQ 0),(uQ 0)],.box [(uQ x1.id.1),(uQ x1.id.2)]]) ?_ ?_
  ·have h:=p4;refine zR<|zM Z<|zM Z<|yS Z (ck Z Z)<|yS Z (an Z Z Z Z)<|zM Z ?_;refine zc 23 Z (fun g1=>?_)<|fun g1=>?_
   ·refine zi g1 h fun h=>yV Z (gd g1 Z) (zm Z Z)<|yS Z (bv Z (aJ g1 Z) Z)<|nT ?_;cases h;exact av 3 ⟨Z,Z,Z,Z,Z,Z,Z,Z,Z,t_⟩
   ·refine zo g1 h fun h=>yU Z (gd g1 Z) Z<|yS Z (aT Z (aJ g1 Z) Z)<|nT ?_;cases h;exact av 3 ⟨Z,Z,Z,Z,Z,Z,Z,Z,Z,t_⟩
  ·have h:=q4;clear p4;refine zX Z (fun g2=>?_)<|fun g2=>?_
   ·refine zi g2 h fun h=>zk<|zT<|zQ<|zl<|qR<|yS Z (zD Z Z Z be Z Z)<|zM Z<|zM Z<|zM Z<|yS Z (zD Z Z Z aF Z Z)<|zb h fun v5 a5 h=>yS Z (yP Z Z Z (Pz a5) BP)<|zM Z<|yS Z (eW Z Z Z)<|yS Z (eW Z Z Z)<|yS Z (ze Z gP Z Z)<|yS Z (zs Z Z Z Z aF Z Z Z Z)<|mN Z<|zQ<|qR<|zM Z<|yS Z (aa.not Z Z)<|nT ?_;refine zX Z (fun g3=>?_)<|fun g3=>?_
    ·refine zi g3 h fun h=>zq<|ai<|iO (by decide)<|ai<|ai<|zy<|zT ?_;cases h;obtain rfl:=(b1 _ rfl);exact av 3 ⟨Z,Z,t_⟩
    ·refine zo g3 h fun h=>zk<|zT<|zR<|yS Z (zD Z Z Z aF Z Z)<|yS Z (zs Z Z Z Z aF Z Z Z Z)<|zN<|af<|zT<|zR<|zM Z<|yS Z (an Z Z Z Z)<|mN Z ?_;cases h;exact⟨_,rfl,av 3 ⟨Z,Z,Z,Z,Z,Z,Z,Z,t_⟩⟩
   ·refine zo g2 h fun h=>zq<|ai<|ai<|zy<|zT ?_;cases h;obtain rfl:=(b1 _ rfl);exact av 3 ⟨Z,Z,t_⟩
 ·have h:=q3;clear p3;refine zT<|LW.weak u3<|qR<|yS Z (zD Z Z Z aF Z Z)<|yS Z (zs Z Z Z Z aF Z Z Z Z)<|nT<|zr ?_;cases h;exact zf (.one (er Z Z)) zv
def E9 (x:Vt)(_:Cf)(l:List Bk)(id:ID)(m:List (ID×Bool)):Option (Bool×(List (ID×Bool))):=bif !((am m x.Head).isSome)then bif few l then some (decide (ap (ao l x.Head) id>=0),bP m x.Head (decide (ap (ao l x.Head) id>=0)))else none else some ((am m x.Head).getD false,m)
theorem NW {x:Vt}{id:ID}{r_:Bool×(List (ID×Bool))}(h:E9 x c l id m=some r_):LC prog 202 [.p (aO x),.ptr 4 0,.ptr 1 0,.ptr 2 0] [.box (ch c),.box [(kB l)],.box [(uQ id.1),(uQ id.2)],.map (ar aX (fun v=>(bQ v)) m),.box [.map 3]] (Is (bQ r_.1) [.box (ch c),.box [(kB l)],.box [(uQ id.1),(uQ id.2)],.map (ar aX (fun v=>(bQ v)) r_.2),.box [.map 3]]):=by
 refine eN Tryz.func202 Z Z Z ?_;unfold E9 at h;refine qR<|yS Z (bx Z Z Z Z Z)<|mN Z<|qR<|yS Z (zD Z Z Z HI Z Z)<|yS Z (zA Z Z i2)<|yS Z (zD Z Z Z aF Z Z) ?_;refine yS Z (aa.getX (f:=aX) (g:=(fun v=>(bQ v))) x.Head false f8 Z Z Z Z Kg O3 Z Z) ?_;refine zM Z<|yS Z (eW Z Z Z)<|yS Z (eW Z Z Z)<|zM Z<|mN Z<|zQ<|qR<|zM Z<|yS Z (aa.not Z Z)<|nT ?_;refine zX Z (fun g1=>?_)<|fun g1=>?_
 ·refine zi g1 h fun h=>zQ<|dx<|yE Z (zD Z Z Z bM Z Z)<|yE Z (zA Z Z i2)<|yE Z (zD Z Z Z aF Z Z)<|zg h fun q1 h=>yE Z (yP Z Z Z (PY (l:=l) (id:=x.Head) (Bf q1)) bG)<|yE Z (zD Z Z Z aF Z Z)<|yE Z (zC Z Z Z (by kernel_rfl) (zp (QR (l:=(ao l x.Head)) (v:=id)) bG))<|zH Z<|LO.nil<|zT<|zR<|yS Z (zD Z Z Z HI Z Z)<|yS Z (zA Z Z i2)<|yS Z (zD Z Z Z aF Z Z)<|zM Z ?_;refine yS Z (aa.setX (f:=aX) (g:=(fun v=>(bQ v))) x.Head (decide (ap (ao l x.Head) id>=0)) f8 (.inl Z) Z Z Z Z Z Kg Z) ?_;refine nT<|qR<|zM Z<|mN Z<|zr ?_;cases h;refine bT (env':=[(5,.p (.bool (decide (ap (ao l x.Head) id>=0))))]) (H':=[.box (ch c),.box [(kB l)],.box [(uQ id.1),(uQ id.2)],.map (ar aX (fun v=>(bQ v)) (bP m x.Head (decide (ap (ao l x.Head) id>=0)))),.box [.map 3]]) (zW 5 ⟨Z,t_⟩ Z Z Z (zL Z (zL Z (zL Z (zL (aj (fun _=>rfl) _) (zL Z Z)))))) (.one (.tmp Z)) ?_;exact⟨rfl,rfl⟩
 ·refine zo g1 h fun h=>zk<|zT<|qR<|zM Z<|mN Z<|zr ?_;cases h;refine bT (env':=[(5,.p (.bool ((am m x.Head).getD false)))]) (H':=[.box (ch c),.box [(kB l)],.box [(uQ id.1),(uQ id.2)],.map (ar aX (fun v=>(bQ v)) m),.box [.map 3]]) (zW 5 ⟨Z,t_⟩ Z Z Z (zL Z (zL Z (zL Z (zL (aj (fun _=>rfl) _) (zL Z Z)))))) (.one (.tmp Z)) ?_;exact⟨rfl,rfl⟩
structure km where
 t12:Int
 o3:List (ID×Bool)
 out:List Int
def pL (v:List Vt)(c:Cf)(l:List Bk)(id:ID)(x1:km):Option (km⊕km):=bif decide (x1.t12<(v.length:Int))then (ix v x1.t12).bind fun y1=>(E9 y1 c l id x1.o3).bind fun v2=>bif v2.1 then (Iv y1).bind fun v3=>bif bJ x1.out.length [v3].length 8 then some (.inl (km.mk (i64.wrap (x1.t12+1)) v2.2 (x1.out++[v3])))else none else some (.inl (km.mk (i64.wrap (x1.t12+1)) v2.2 x1.out))else some (.inr (km.mk x1.t12 x1.o3 x1.out))
def Fa (v:List Vt)(c:Cf)(l:List Bk)(id:ID)(m:List (ID×Bool)):Option (List Int×List (ID×Bool)):=(iter (pL v c l id) aY (km.mk 0 m ([]:List Int))).bind fun v1=>some (v1.out,v1.o3)
theorem NX {id:ID}{r_:List Int×List (ID×Bool)}(h:Fa v c l id m=some r_):LC prog 204 [(kV v),.fn 202 [] [.ptr 4 0,.ptr 1 0,.ptr 2 0],.fn 205 [] []] [.box (ch c),.box [(kB l)],.box [(uQ id.1),(uQ id.2)],.map (ar aX (fun v=>(bQ v)) m),.box [.map 3]] (Is (kI r_.1) [.box (ch c),.box [(kB l)],.box [(uQ id.1),(uQ id.2)],.map (ar aX (fun v=>(bQ v)) r_.2),.box [.map 3]]):=by
 refine eN Tryz.func204 Z Z Z ?_;unfold Fa at h;refine qR<|mN Z<|qR<|mN Z<|zQ<|qR<|zM Z<|yS Z (ck Z Z)<|mN Z<|LW.ent (bY.lazy (t:=7) (m:=1) Z Z Z) ?_;obtain⟨v1,p1,b1⟩:=zB h;clear h;refine LW.tail (E:=[(6,.zs),(7,(jI 5 v1.out))]) (O:=[.box (ch c),.box [(kB l)],.box [(uQ id.1),(uQ id.2)],.map (ar aX (fun v=>(bQ v)) v1.o3),.box [.map 3],.vec 1 (v1.out.map bh)]) ?_<|fun e1 K1 u1=>?_
 ·refine LW.block ?_;refine LW.iterB (E:=fun x1:km=>[(1,.fn 202 [] [.ptr 4 0,.ptr 1 0,.ptr 2 0]),(2,.fn 205 [] []),(6,.zs),(7,(jI 5 x1.out)),(10,(kV v)),(11,.p (.int .i64 (v.length:Int))),(12,(iQ x1.t12))]) (O:=fun x1=>[.box (ch c),.box [(kB l)],.box [(uQ id.1),(uQ id.2)],.map (ar aX (fun v=>(bQ v)) x1.o3),.box [.map 3],.vec 1 (x1.out.map bh)]) p1 (zW 6 ⟨Z,Z,Z,Z,Z,Z,Z,t_⟩ Z Z Z (zL Z (zL Z (zL Z (zL (aj (fun _=>rfl) _) (zL Z (zL Z Z)))))))<|fun x1 z1 h m1=>?_;unfold pL at h;refine qR<|yS Z (an Z Z Z Z)<|nT<|zQ ?_;refine zX Z (fun g1=>?_)<|fun g1=>?_
  ·refine zi g1 h fun h=>zk<|zT<|zQ<|zl<|qR<|zb h fun y1 j1 h=>yS Z (zx Z Z Z bC j1 Z)<|yS Z (bR Z Z Z cB Z Z)<|yS Z (ze Z uX Z Z)<|yS Z (zs Z Z Z Z cB Z Z Z Z)<|nT<|qR<|zM Z<|yS Z (zD Z Z Z cB Z Z)<|zb h fun v2 a2 h=>?_;refine yS Z (zC Z Z Z (by kernel_rfl) (LC.pre (NW a2) Z (zL Z (zL Z (zL Z (zL (aj (fun _=>rfl) _) (zL Z Z))))) Z)) ?_;refine nT ?_;refine zX Z (fun g2=>?_)<|fun g2=>?_
   ·refine zi g2 h fun h=>zR<|zM Z<|zM Z<|yS Z (zD Z Z Z cB Z Z)<|zb h fun v3 a3 h=>yS Z (yP Z Z Z (PK a3) dG)<|yS Z (gR Z dL Z Z Z Z Z)<|zg h fun q1 h=>yS Z (aa.appendX bh x1.out [v3] rfl Z Z Z iy.p Z dL q1 Z)<|zM Z<|zN<|af<|zT<|zR<|yS Z (an Z Z Z Z)<|mN Z ?_;cases h;exact⟨_,rfl,zW 6 ⟨Z,Z,Z,Z,Z,Z,Z,t_⟩ Z Z Z (zL Z (zL Z (zL Z (zL (aj (fun _=>rfl) _) (zL Z (zL Z Z))))))⟩
   ·refine zo g2 h fun h=>zk<|af<|zT<|zR<|yS Z (an Z Z Z Z)<|mN Z ?_;cases h;exact⟨_,rfl,zW 6 ⟨Z,Z,Z,Z,Z,Z,Z,t_⟩ Z Z Z (zL Z (zL Z (zL Z (zL (aj (fun _=>rfl) _) (zL Z (zL Z Z))))))⟩
  ·refine zo g1 h fun h=>zq<|ai<|ai<|zy<|zT ?_;cases h;obtain rfl:=(m1 _ rfl);exact zW 6 ⟨Z,Z,t_⟩ Z Z Z<|zL Z<|zL Z<|zL Z<|zL (aj (fun _=>rfl) _)<|zL Z<|zL Z Z
 ·have h:=b1;clear p1;refine zT<|LW.weak u1<|qR<|zM Z<|mN Z ?_;refine LW.weak (env':=[(6,(jI 5 v1.out))]) (H':=[.box (ch c),.box [(kB l)],.box [(uQ id.1),(uQ id.2)],.map (ar aX (fun v=>(bQ v)) v1.o3),.box [.map 3],.vec 1 (v1.out.map bh)]) (zW 6 ⟨Z,t_⟩ Z Z Z (zL Z (zL Z (zL Z (zL (aj (fun _=>rfl) _) (zL Z (zL Z Z))))))) ?_;refine LW.ent (bY.frz (t:=6) (env':=[]) (H0:=[.box (ch c),.box [(kB l)],.box [(uQ id.1),(uQ id.2)],.map (ar aX (fun v=>(bQ v)) v1.o3),.box [.map 3]]) Z Z Z Z Z trivial Z (zL Z (zL Z (zL Z (zL (aj (fun _=>rfl) _) (zL Z Z)))))) ?_;refine LW.ret ?_;cases h;exact aD (.one (.tmp Z))<|⟨rfl,rfl⟩
def Dl (c:Cf)(l:List Bk)(v:List Vt)(id:ID):Option Int:=(Fa v c l id []).bind fun v1=>(L5 c v1.1).bind fun v2=>some v2
theorem MR {id:ID}{r_:Int}(h:Dl c l v id=some r_):aq prog 164 [gQ c,.slice 5 (l.map aA),.slice 4 (v.map aO),aX id] [.int .i64 r_]:=by
 refine zh Tryz.func164 Z Z Z Z ?_;unfold Dl at h;refine qR<|yS Z (bx Z Z Z Z Z)<|yS Z (bx Z Z Z Z Z)<|yS Z (bx Z Z Z Z Z)<|mN Z<|qR<|yS Z (aa.makeMap Z Z Z)<|yS Z (ze Z O7 Z Z)<|yS Z (zs Z Z Z Z HI Z Z Z Z)<|nT<|qR<|yS Z (aa.makeFunc Z Z Z)<|mN Z<|zQ<|fB<|yF Z (zd Z Z Z be Z Z) Z<|zK Z<|zK Z<|zb h fun v1 a1 h=>?_;refine yF Z (cj.all (s:=some (3,.map (ar aX (fun v=>(bQ v)) v1.2))) (yC Z Z Z (NX a1)) Z Z Z) Z ?_;obtain⟨v2,a2,h⟩:=zB h;refine yF (F:=[]) (s:=none) Z (fun H _=>yP Z Z Z (Qt a2) bG) Z ?_;refine zK Z ?_;refine LF.nil ⟨by kernel_rfl,?_⟩;refine zT<|zr ?_;cases h;exact aZ Z
structure iW where
 t19:Int
 best:Rk
def tA (c:Cf)(l:List Bk)(v:List Vt)(v1:(List ID))(x1:iW):Option (iW⊕iW):=bif decide (x1.t19<(v1.length:Int))then (ix v1 x1.t19).bind fun y1=>(Dl c l v y1).bind fun v3=>(EV (Rk.mk v3 y1) x1.best).bind fun v4=>bif v4 then some (.inl (iW.mk (i64.wrap (x1.t19+1)) (Rk.mk v3 y1)))else some (.inl (iW.mk (i64.wrap (x1.t19+1)) x1.best))else some (.inr (iW.mk x1.t19 x1.best))
def Ml (c:Cf)(l:List Bk)(v:List Vt)(id:ID):Option (ID×Bool):=(Mh l id).bind fun v1=>(iter (tA c l v v1) aY (iW.mk 0 (Rk.mk (-1) (0,0)))).bind fun v2=>some (v2.best.id,decide (v2.best.n>=0))
theorem QK {id:ID}{r_:ID×Bool}(h:Ml c l v id=some r_):aq prog 139 [gQ c,.slice 5 (l.map aA),.slice 4 (v.map aO),aX id] [aX r_.1,.bool r_.2]:=by
 refine zh Tryz.func139 Z Z Z Z ?_;unfold Ml at h;refine qR<|yS Z (bx Z Z Z Z Z)<|yS Z (bx Z Z Z Z Z)<|yS Z (ze Z gP Z Z)<|mN Z<|qR<|yS Z (aa.build Z JE Z Z Z)<|yS Z (ze Z Kt Z Z)<|yS Z (zs Z Z Z Z sy Z Z Z Z)<|nT<|zQ<|qR<|zM Z<|yS Z (zD Z Z Z aF Z Z)<|zb h fun v1 a1 h=>yS Z (yP Z Z Z (QH a1) bG)<|yS Z (ck Z Z)<|mN Z ?_;obtain⟨v2,p2,q2⟩:=zB h;clear h;refine LW.tail (E:=[(8,.ptr 2 0),(9,(bQ false)),(10,.ptr 3 0)]) (O:=[.box (ch c),.box [(uQ id.1),(uQ id.2)],.box [(uQ 0),(uQ 0)],.box [(iQ v2.best.n),(uQ v2.best.id.1),(uQ v2.best.id.2)]]) ?_<|fun e2 K2 u2=>?_
 ·refine LW.block ?_;refine LW.iterB (E:=fun x1:iW=>[(1,(kB l)),(2,(kV v)),(4,.ptr 0 0),(8,.ptr 2 0),(9,(bQ false)),(10,.ptr 3 0),(17,.p (.slice 2 (v1.map aX))),(18,.p (.int .i64 (v1.length:Int))),(19,(iQ x1.t19))]) (O:=fun x1=>[.box (ch c),.box [(uQ id.1),(uQ id.2)],.box [(uQ 0),(uQ 0)],.box [(iQ x1.best.n),(uQ x1.best.id.1),(uQ x1.best.id.2)]]) p2 (av 4 ⟨Z,Z,Z,Z,Z,Z,Z,Z,Z,t_⟩)<|fun x1 z1 h m1=>?_;unfold tA at h;refine qR<|yS Z (an Z Z Z Z)<|nT<|zQ ?_;refine zX Z (fun g1=>?_)<|fun g1=>?_
  ·refine zi g1 h fun h=>zk<|zT<|zQ<|zl<|qR<|zb h fun y1 j1 h=>yS Z (zx Z Z Z fH j1 Z)<|yS Z (bR Z Z Z aF Z Z)<|yS Z (ze Z gP Z Z)<|yS Z (zs Z Z Z Z aF Z Z Z Z)<|nT<|zQ<|LW.ent (bY.slot Z)<|fB<|yF Z (zd Z Z Z be Z Z) Z<|zK Z<|zK Z<|yF Z (zd Z Z Z aF Z Z) Z<|zb h fun v3 a3 h=>?_;refine yF (F:=[]) (s:=none) Z (fun H _=>yP Z Z Z (MR a3) we) Z ?_;refine yF Z (zd Z Z Z aF Z Z) Z<|yG Z (fun H _=>aa.build Z JE Z Z Z)<|yF Z (cj.alloc Z Kt (id:=5) Z) Z<|yF Z (zt Z Z Z Z sy Z Z Z) Z ?_;refine LF.nil ⟨by kernel_rfl,?_⟩;refine zT<|qR<|yS Z (zD Z Z Z sy Z Z)<|yS Z (zD Z Z Z sy Z Z)<|zb h fun v4 a4 h=>yS Z (yP Z Z Z (Py a4) bG)<|nT ?_;refine zX Z (fun g2=>?_)<|fun g2=>?_
   ·refine zi g2 h fun h=>zR<|yS Z (zD Z Z Z sy Z Z)<|yS Z (zs Z Z Z Z sy Z Z Z Z)<|zN<|af<|zT<|zR<|yS Z (an Z Z Z Z)<|mN Z ?_;cases h;exact⟨_,rfl,av 4 ⟨Z,Z,Z,Z,Z,Z,Z,Z,Z,t_⟩⟩
   ·refine zo g2 h fun h=>zk<|af<|zT<|zR<|yS Z (an Z Z Z Z)<|mN Z ?_;cases h;exact⟨_,rfl,av 4 ⟨Z,Z,Z,Z,Z,Z,Z,Z,Z,t_⟩⟩
  ·refine zo g1 h fun h=>zq<|ai<|ai<|zy<|zT ?_;cases h;obtain rfl:=(m1 _ rfl);exact av 4 ⟨Z,Z,Z,t_⟩
 ·have h:=q2;clear p2;refine zT<|LW.weak u2<|zQ<|fB<|yG Z (fun H _=>zA Z Z wL)<|yF Z (zd Z Z Z aF Z Z) Z<|yG Z (fun H _=>zA Z Z qq)<|yF Z (zd Z Z Z aW Z Z) Z<|yG Z (fun H _=>an Z Z Z Z)<|yF Z (zt Z Z Z Z aF Z Z Z) Z<|zK Z ?_;refine LF.nil ⟨by kernel_rfl,?_⟩;refine zT<|zr ?_;cases h;exact zf (.two (er Z Z) (.tmp Z))<|⟨_,rfl,bG⟩
structure oR where
 id:ID
def oS (c:Cf)(l:List Bk)(v:List Vt)(x1:oR):Option (oR⊕oR):=(Ml c l v x1.id).bind fun v2=>bif !v2.2 then some (.inr (oR.mk x1.id))else some (.inl (oR.mk v2.1))
def Mm (c:Cf)(l:List Bk)(v:List Vt):Option ID:=(iter (oS c l v) aY (oR.mk (0,0))).bind fun v1=>some v1.id
theorem QL {r_:ID}(h:Mm c l v=some r_):aq prog 98 [gQ c,.slice 5 (l.map aA),.slice 4 (v.map aO)] [aX r_]:=by
 refine zh Tryz.func98 Z Z Z Z ?_;unfold Mm at h;refine qR<|yS Z (bx Z Z Z Z Z)<|yS Z (ze Z gP Z Z)<|nT<|LW.scope<|zQ<|LW.label<|zT ?_;obtain⟨v1,p1,q1⟩:=zB h;clear h;refine LW.cut (E:=[(6,.ptr 1 0)]) (O:=[.box (ch c),.box [(uQ v1.id.1),(uQ v1.id.2)]]) ?_ ?_
 ·refine LW.block ?_;refine LW.iterB (E:=fun x1:oR=>[(1,(kB l)),(2,(kV v)),(3,.ptr 0 0),(6,.ptr 1 0)]) (O:=fun x1=>[.box (ch c),.box [(uQ x1.id.1),(uQ x1.id.2)]]) p1 (av 2 ⟨Z,Z,Z,Z,t_⟩)<|fun x1 z1 h m1=>?_;unfold oS at h;refine zl<|qR<|yS Z (zD Z Z Z be Z Z)<|zM Z<|zM Z<|yS Z (zD Z Z Z aF Z Z)<|zb h fun v2 a2 h=>yS Z (yP Z Z Z (QK a2) we)<|zM Z<|yS Z (eW Z Z Z)<|yS Z (eW Z Z Z)<|yS Z (ze Z gP Z Z)<|yS Z (zs Z Z Z Z aF Z Z Z Z)<|mN Z<|zQ<|qR<|zM Z<|yS Z (aa.not Z Z)<|nT ?_;refine zX Z (fun g1=>?_)<|fun g1=>?_
  ·refine zi g1 h fun h=>zq<|ai<|iO (by decide)<|ai<|zy<|zT ?_;cases h;obtain rfl:=(m1 _ rfl);exact av 2 ⟨Z,t_⟩
  ·refine zo g1 h fun h=>zk<|zT<|zR<|yS Z (zD Z Z Z aF Z Z)<|yS Z (zs Z Z Z Z aF Z Z Z Z)<|zN<|af<|zT ?_;cases h;exact⟨_,rfl,av 2 ⟨Z,Z,Z,Z,t_⟩⟩
 ·have h:=q1;clear p1;refine qR<|yS Z (zD Z Z Z aF Z Z)<|yS Z (zs Z Z Z Z aF Z Z Z Z)<|nT<|zr<|Hl ?_;cases h;exact zf (.one (er Z Z)) zv
theorem yA {l:List α}(hb:bJ 0 l.length 40=true):LC prog 75 [.p (.slice 5 (l.map f))] [] (Is (.vec 5 0 (l.map f).length 0 (l.map f).length) [.vec 5 (l.map f)]):=by
 refine eN Tryz.func75 Z Z Z ?_;refine qR<|yS Z (za Z Z)<|nT<|zQ<|qR<|yS Z (zm Z Z)<|ay.cons Z Z Z (aa.eqNil Z Z Z cw) ?_;rintro _ _ ⟨rfl,b,rfl,hn⟩;refine nT ?_;refine zX Z (fun g=>?_)<|fun g=>?_
 ·have hl:l=[]:=List.map_eq_nil_iff.1 (hn g);subst hl;exact qR<|yS Z (za Z Z)<|nT<|LW.ent (bY.lazy (t:=2) (m:=5) Z Z Z)<|zr<|ae<|aD (.one (.tmp Z)) ⟨rfl,rfl⟩
 ·refine LW.skip ?_;exact zT<|qR<|yS Z (aa.buildSlice0 Z cw)<|yS Z (zm Z Z)<|yS Z (aa.appendZX f l Z Z Z Z iy.p Z cw hb Z)<|yS Z (za Z Z)<|nT<|zr<|aD (.one (.tmp Z)) ⟨rfl,rfl⟩
theorem yB {l:List α}(hb:bJ 0 l.length 32=true):LC prog 76 [.p (.slice 4 (l.map f))] [] (Is (.vec 4 0 (l.map f).length 0 (l.map f).length) [.vec 4 (l.map f)]):=by
 refine eN Tryz.func76 Z Z Z ?_;refine qR<|yS Z (za Z Z)<|nT<|zQ<|qR<|yS Z (zm Z Z)<|ay.cons Z Z Z (aa.eqNil Z Z Z bC) ?_;rintro _ _ ⟨rfl,b,rfl,hn⟩;refine nT ?_;refine zX Z (fun g=>?_)<|fun g=>?_
 ·have hl:l=[]:=List.map_eq_nil_iff.1 (hn g);subst hl;exact qR<|yS Z (za Z Z)<|nT<|LW.ent (bY.lazy (t:=2) (m:=4) Z Z Z)<|zr<|ae<|aD (.one (.tmp Z)) ⟨rfl,rfl⟩
 ·refine LW.skip ?_;exact zT<|qR<|yS Z (aa.buildSlice0 Z bC)<|yS Z (zm Z Z)<|yS Z (aa.appendZX f l Z Z Z Z iy.p Z bC hb Z)<|yS Z (za Z Z)<|nT<|zr<|aD (.one (.tmp Z)) ⟨rfl,rfl⟩
def Mo (c:Cf)(b:Bk):Option Bool:=(IE c b.Slot).bind fun v1=>bif decide (v1>=0)then bif v1==b.From then some (!((((nm b).1)==0)&&((((nm b).2)==0)&&true)))else some false else some false
theorem QN {b:Bk}(h:Mo c b=some r_):aq prog 80 [gQ c,aA b] [.bool r_]:=by
 refine zh Tryz.func80 Z Z Z Z ?_;unfold Mo at h;refine qR<|yS Z (bx Z Z Z Z Z)<|yS Z (bx Z Z Z Z Z)<|mN Z<|qR<|yS Z (zD Z Z Z be Z Z)<|yS Z (zA Z Z fK)<|yS Z (zD Z Z Z aW Z Z)<|zb h fun v1 a1 h=>yS Z (yP Z Z Z (Pc a1) bG)<|mN Z<|qR<|zM Z<|yS Z (an Z Z Z Z)<|zM Z ?_;refine zc 12 Z (fun g1=>?_)<|fun g1=>?_
 ·refine zi g1 h fun h=>yV Z (gd g1 Z) (zm Z Z)<|yV Z (gd g1 Z) (zA Z Z rD)<|yV Z (gd g1 Z) (zD Z Z Z aW Z Z)<|yV Z (gd g1 Z) (an Z Z Z Z)<|yS Z (bv Z (aJ g1 Z) Z)<|zM Z ?_;refine zc 18 Z (fun g2=>?_)<|fun g2=>?_
  ·refine zi g2 h fun h=>yV Z (gd g2 Z) (zD Z Z Z ce Z Z)<|yV Z (gd g2 Z) (yP Z Z Z (Ma (b:=b)) dG)<|yV Z (gd g2 Z) (aa.build Z ng Z Z Z)<|yV Z (gd g2 Z) (aa.neqAgg Z Z Z Z Z gV)<|yS Z (bv Z (aJ g2 Z) Z)<|mN Z<|zr ?_;cases h;exact aZ Z
  ·refine zo g2 h fun h=>yU Z (gd g2 Z) Z<|yU Z (gd g2 Z) Z<|yU Z (gd g2 Z) Z<|yU Z (gd g2 Z) Z<|yS Z (aT Z (aJ g2 Z) Z)<|mN Z<|zr ?_;cases h;exact aZ Z
 ·refine zo g1 h fun h=>yU Z (gd g1 Z) Z<|yU Z (gd g1 Z) Z<|yU Z (gd g1 Z) Z<|yU Z (gd g1 Z) Z<|yS Z (aT Z (aJ g1 Z) Z)<|zM Z<|aw Z<|aw Z<|aw Z<|aw Z<|yS Z (aT Z Z Z)<|mN Z<|zr ?_;cases h;exact aZ Z
def Mp (c:Cf)(v:Vt):Option Bool:=(L7 c v.Slot v.From).bind fun v1=>some v1
theorem QO {v:Vt}(h:Mp c v=some r_):aq prog 82 [gQ c,aO v] [.bool r_]:=by
 refine zh Tryz.func82 Z Z Z Z ?_;unfold Mp at h;refine qR<|yS Z (bx Z Z Z Z Z)<|yS Z (bx Z Z Z Z Z)<|mN Z<|qR<|yS Z (zD Z Z Z be Z Z)<|yS Z (zA Z Z iZ)<|yS Z (zD Z Z Z aW Z Z)<|yS Z (zA Z Z ik)<|yS Z (zD Z Z Z aW Z Z)<|zb h fun v1 a1 h=>yS Z (yP Z Z Z (Qv a1) pA)<|mN Z<|zr ?_;cases h;exact aZ Z
structure iu where
 t8:Int
def nX (s:List Bk)(v:Bk)(x1:iu):Option (iu⊕(iu⊕Int)):=bif decide (x1.t8<(s.length:Int))then (ix s x1.t8).bind fun y1=>bif ((v.Slot==y1.Slot)&&((v.From==y1.From)&&((v.Parent.1==y1.Parent.1)&&((v.Parent.2==y1.Parent.2)&&((v.Salt==y1.Salt)&&true)))))then some (.inr (.inr x1.t8))else some (.inl (iu.mk (i64.wrap (x1.t8+1))))else some (.inr (.inl (iu.mk x1.t8)))
def IB (s:List Bk)(v:Bk):Option Int:=(iter (nX s v) aY (iu.mk 0)).bind fun b_v1=>Sum.elim (fun _=>some (-1)) some b_v1
theorem PQ {v:Bk}{r_:Int}(h:IB s v=some r_):aq prog 149 [.slice 5 (s.map aA),aA v] [.int .i64 r_]:=by
 refine zh Tryz.func149 Z Z Z Z ?_;unfold IB at h;refine qR<|yS Z (bx Z Z Z Z Z)<|mN Z<|zQ<|qR<|zM Z<|yS Z (ck Z Z)<|mN Z ?_;obtain⟨w1,p1,q1⟩:=zB h;clear h;refine LW.tailB (b:=w1) (E:=fun v1=>[(4,(iQ 0))]) (O:=fun v1=>[.box [(iQ v.Slot),(iQ v.From),(uQ v.Parent.1),(uQ v.Parent.2),(uQ v.Salt)]]) ?_<|fun v1 f1 e1 K1 u1=>?_
 ·refine LW.block ?_;refine LW.iterB (E:=fun x1:iu=>[(0,(kB s)),(3,.ptr 0 0),(4,(iQ 0)),(7,.p (.int .i64 (s.length:Int))),(8,(iQ x1.t8))]) (O:=fun x1=>[.box [(iQ v.Slot),(iQ v.From),(uQ v.Parent.1),(uQ v.Parent.2),(uQ v.Salt)]]) p1 (av 1 ⟨Z,Z,Z,Z,Z,t_⟩)<|fun x1 z1 h m1=>?_;unfold nX at h;refine qR<|yS Z (an Z Z Z Z)<|nT<|zQ ?_;refine zX Z (fun g1=>?_)<|fun g1=>?_
  ·refine zi g1 h fun h=>zk<|zT<|zQ<|zl<|qR<|zM Z<|mN Z<|zQ<|dx<|yE Z (zD Z Z Z ce Z Z)<|zH Z<|zH Z<|zb h fun y1 j1 h=>yE Z (zx Z Z Z cw j1 Z)<|yE Z (bR Z Z Z ce Z Z)<|yE Z (aa.eqlAgg Z Z Z Z Z tW)<|LO.nil<|zT ?_;refine zX Z (fun g2=>?_)<|fun g2=>?_
   ·refine zi g2 h fun h=>qR<|zM Z<|mN Z<|zr<|ak<|ae<|ae<|ak<|ae<|ae ?_;cases h;obtain rfl:=(m1 _ rfl);have h:=bO q1;cases h;exact aZ Z
   ·refine zo g2 h fun h=>zk<|af<|zT<|zR<|yS Z (an Z Z Z Z)<|mN Z ?_;cases h;exact⟨_,rfl,av 1 ⟨Z,Z,Z,Z,Z,t_⟩⟩
  ·refine zo g1 h fun h=>zq<|ai<|ai<|zy<|zT ?_;cases h;obtain rfl:=(m1 _ rfl);exact⟨_,rfl,av 1 ⟨Z,t_⟩⟩
 ·obtain rfl:=f1;have h:=cR q1;clear p1;refine zT<|LW.weak u1<|qR<|mN Z<|zr ?_;cases h;exact aZ Z
structure iv where
 t8:Int
def nY (s:List Vt)(v:Vt)(x1:iv):Option (iv⊕(iv⊕Int)):=bif decide (x1.t8<(s.length:Int))then (ix s x1.t8).bind fun y1=>bif ((v.From==y1.From)&&((v.Slot==y1.Slot)&&((v.Head.1==y1.Head.1)&&((v.Head.2==y1.Head.2)&&true))))then some (.inr (.inr x1.t8))else some (.inl (iv.mk (i64.wrap (x1.t8+1))))else some (.inr (.inl (iv.mk x1.t8)))
def IC (s:List Vt)(v:Vt):Option Int:=(iter (nY s v) aY (iv.mk 0)).bind fun b_v1=>Sum.elim (fun _=>some (-1)) some b_v1
theorem PR {s:List Vt}{v:Vt}{r_:Int}(h:IC s v=some r_):aq prog 150 [.slice 4 (s.map aO),aO v] [.int .i64 r_]:=by
 refine zh Tryz.func150 Z Z Z Z ?_;unfold IC at h;refine qR<|yS Z (bx Z Z Z Z Z)<|mN Z<|zQ<|qR<|zM Z<|yS Z (ck Z Z)<|mN Z ?_;obtain⟨w1,p1,q1⟩:=zB h;clear h;refine LW.tailB (b:=w1) (E:=fun v1=>[(4,(iQ 0))]) (O:=fun v1=>[.box [(iQ v.From),(iQ v.Slot),(uQ v.Head.1),(uQ v.Head.2)]]) ?_<|fun v1 f1 e1 K1 u1=>?_
 ·refine LW.block ?_;refine LW.iterB (E:=fun x1:iv=>[(0,(kV s)),(3,.ptr 0 0),(4,(iQ 0)),(7,.p (.int .i64 (s.length:Int))),(8,(iQ x1.t8))]) (O:=fun x1=>[.box [(iQ v.From),(iQ v.Slot),(uQ v.Head.1),(uQ v.Head.2)]]) p1 (av 1 ⟨Z,Z,Z,Z,Z,t_⟩)<|fun x1 z1 h m1=>?_;unfold nY at h;refine qR<|yS Z (an Z Z Z Z)<|nT<|zQ ?_;refine zX Z (fun g1=>?_)<|fun g1=>?_
  ·refine zi g1 h fun h=>zk<|zT<|zQ<|zl<|qR<|zM Z<|mN Z<|zQ<|dx<|yE Z (zD Z Z Z cB Z Z)<|zH Z<|zH Z<|zb h fun y1 j1 h=>yE Z (zx Z Z Z bC j1 Z)<|yE Z (bR Z Z Z cB Z Z)<|yE Z (aa.eqlAgg Z Z Z Z Z yQ)<|LO.nil<|zT ?_;refine zX Z (fun g2=>?_)<|fun g2=>?_
   ·refine zi g2 h fun h=>qR<|zM Z<|mN Z<|zr<|ak<|ae<|ae<|ak<|ae<|ae ?_;cases h;obtain rfl:=(m1 _ rfl);have h:=bO q1;cases h;exact aZ Z
   ·refine zo g2 h fun h=>zk<|af<|zT<|zR<|yS Z (an Z Z Z Z)<|mN Z ?_;cases h;exact⟨_,rfl,av 1 ⟨Z,Z,Z,Z,Z,t_⟩⟩
  ·refine zo g1 h fun h=>zq<|ai<|ai<|zy<|zT ?_;cases h;obtain rfl:=(m1 _ rfl);exact⟨_,rfl,av 1 ⟨Z,t_⟩⟩
 ·obtain rfl:=f1;have h:=cR q1;clear p1;refine zT<|LW.weak u1<|qR<|mN Z<|zr ?_;cases h;exact aZ Z
def Ds (s:List Bk)(v:Bk):Option Bool:=(IB s v).bind fun v1=>some (decide (v1>=0))
theorem MX {v:Bk}(h:Ds s v=some r_):aq prog 114 [.slice 5 (s.map aA),aA v] [.bool r_]:=by
 refine zh Tryz.func114 Z Z Z Z ?_;unfold Ds at h;refine qR<|yS Z (bx Z Z Z Z Z)<|mN Z<|qR<|zM Z<|yS Z (zD Z Z Z ce Z Z)<|zb h fun v1 a1 h=>yS Z (yP Z Z Z (PQ a1) bG)<|yS Z (an Z Z Z Z)<|mN Z<|zr ?_;cases h;exact aZ Z
def Dt (s:List Vt)(v:Vt):Option Bool:=(IC s v).bind fun v1=>some (decide (v1>=0))
theorem MY {s:List Vt}{v:Vt}(h:Dt s v=some r_):aq prog 117 [.slice 4 (s.map aO),aO v] [.bool r_]:=by
 refine zh Tryz.func117 Z Z Z Z ?_;unfold Dt at h;refine qR<|yS Z (bx Z Z Z Z Z)<|mN Z<|qR<|zM Z<|yS Z (zD Z Z Z cB Z Z)<|zb h fun v1 a1 h=>yS Z (yP Z Z Z (PR a1) bG)<|yS Z (an Z Z Z Z)<|mN Z<|zr ?_;cases h;exact aZ Z
structure gg where
 t12:Int
 out:List Bk
def nN (b:List Bk)(x1:gg):Option (gg⊕gg):=bif decide (x1.t12<(b.length:Int))then (ix b x1.t12).bind fun y1=>(Ds x1.out y1).bind fun v2=>bif !v2 then bif bJ x1.out.length [y1].length 40 then some (.inl (gg.mk (i64.wrap (x1.t12+1)) (x1.out++[y1])))else none else some (.inl (gg.mk (i64.wrap (x1.t12+1)) x1.out))else some (.inr (gg.mk x1.t12 x1.out))
def E6 (a:List Bk)(b:List Bk):Option (List Bk):=bif bJ 0 a.length 40 then (iter (nN b) aY (gg.mk 0 a)).bind fun v1=>some v1.out else none
theorem PD {a:List Bk}{b:List Bk}{r_:(List Bk)}(h:E6 a b=some r_):aq prog 77 [.slice 5 (a.map aA),.slice 5 (b.map aA)] [.slice 5 (r_.map aA)]:=by
 refine zh Tryz.func77 Z Z Z Z ?_;unfold E6 at h;refine qR<|mN Z<|qR<|zM Z<|zg h fun q1 h=>yS Z (aa.callV (qs:=[(kB a)]) Z Z Z (by kernel_rfl) (yA q1) (.consC zv .nil) Z Z)<|mN Z<|zQ<|qR<|zM Z<|yS Z (ck Z Z)<|mN Z ?_;obtain⟨v1,p1,b1⟩:=zB h;clear h;refine LW.tail (E:=[(4,.zs),(5,(jB 0 v1.out))]) (O:=[.vec 5 (v1.out.map aA)]) ?_<|fun e1 K1 u1=>?_
 ·refine LW.block ?_;refine LW.iterB (E:=fun x1:gg=>[(4,.zs),(5,(jB 0 x1.out)),(10,(kB b)),(11,.p (.int .i64 (b.length:Int))),(12,(iQ x1.t12))]) (O:=fun x1=>[.vec 5 (x1.out.map aA)]) p1 (av 1 ⟨Z,Z,Z,Z,Z,t_⟩)<|fun x1 z1 h m1=>?_;unfold nN at h;refine qR<|yS Z (an Z Z Z Z)<|nT<|zQ ?_;refine zX Z (fun g1=>?_)<|fun g1=>?_
  ·refine zi g1 h fun h=>zk<|zT<|zQ<|zl<|qR<|zb h fun y1 j1 h=>yS Z (zx Z Z Z cw j1 Z)<|yS Z (bR Z Z Z ce Z Z)<|yS Z (ze Z uW Z Z)<|yS Z (zs Z Z Z Z ce Z Z Z Z)<|nT<|qR<|zM Z<|yS Z (zD Z Z Z ce Z Z)<|zb h fun v2 a2 h=>yS Z (yC Z Z Z (LC.lend (MX a2) (.cons (Conv.vecAll Z Z Z) dG) Z))<|yS Z (aa.not Z Z)<|nT ?_;refine zX Z (fun g2=>?_)<|fun g2=>?_
   ·refine zi g2 h fun h=>zR<|zM Z<|yS Z (zD Z Z Z ce Z Z)<|yS Z (gR Z cw Z Z Z Z Z)<|zg h fun q2 h=>yS Z (aa.appendX aA x1.out [y1] rfl Z Z Z iy.p Z cw q2 Z)<|zM Z<|zN<|af<|zT<|zR<|yS Z (an Z Z Z Z)<|mN Z ?_;cases h;exact⟨_,rfl,av 1 ⟨Z,Z,Z,Z,Z,t_⟩⟩
   ·refine zo g2 h fun h=>zk<|af<|zT<|zR<|yS Z (an Z Z Z Z)<|mN Z ?_;cases h;exact⟨_,rfl,av 1 ⟨Z,Z,Z,Z,Z,t_⟩⟩
  ·refine zo g1 h fun h=>zq<|ai<|ai<|zy<|zT ?_;cases h;obtain rfl:=(m1 _ rfl);exact av 1 ⟨Z,Z,t_⟩
 ·have h:=b1;clear p1;refine zT<|LW.weak u1<|qR<|zM Z<|mN Z<|zr ?_;cases h;exact zf (.one (.tmp Z))<|(Conv.vecAll Z Z Z)
structure gh where
 t12:Int
 out:List Vt
def nO (b:List Vt)(x1:gh):Option (gh⊕gh):=bif decide (x1.t12<(b.length:Int))then (ix b x1.t12).bind fun y1=>(Dt x1.out y1).bind fun v2=>bif !v2 then bif bJ x1.out.length [y1].length 32 then some (.inl (gh.mk (i64.wrap (x1.t12+1)) (x1.out++[y1])))else none else some (.inl (gh.mk (i64.wrap (x1.t12+1)) x1.out))else some (.inr (gh.mk x1.t12 x1.out))
def E7 (a:List Vt)(b:List Vt):Option (List Vt):=bif bJ 0 a.length 32 then (iter (nO b) aY (gh.mk 0 a)).bind fun v1=>some v1.out else none
theorem PE {a:List Vt}{b:List Vt}{r_:(List Vt)}(h:E7 a b=some r_):aq prog 78 [.slice 4 (a.map aO),.slice 4 (b.map aO)] [.slice 4 (r_.map aO)]:=by
 refine zh Tryz.func78 Z Z Z Z ?_;unfold E7 at h;refine qR<|mN Z<|qR<|zM Z<|zg h fun q1 h=>yS Z (aa.callV (qs:=[(kV a)]) Z Z Z (by kernel_rfl) (yB q1) (.consC zv .nil) Z Z)<|mN Z<|zQ<|qR<|zM Z<|yS Z (ck Z Z)<|mN Z ?_;obtain⟨v1,p1,b1⟩:=zB h;clear h;refine LW.tail (E:=[(4,.zs),(5,(jV 0 v1.out))]) (O:=[.vec 4 (v1.out.map aO)]) ?_<|fun e1 K1 u1=>?_
 ·refine LW.block ?_;refine LW.iterB (E:=fun x1:gh=>[(4,.zs),(5,(jV 0 x1.out)),(10,(kV b)),(11,.p (.int .i64 (b.length:Int))),(12,(iQ x1.t12))]) (O:=fun x1=>[.vec 4 (x1.out.map aO)]) p1 (av 1 ⟨Z,Z,Z,Z,Z,t_⟩)<|fun x1 z1 h m1=>?_;unfold nO at h;refine qR<|yS Z (an Z Z Z Z)<|nT<|zQ ?_;refine zX Z (fun g1=>?_)<|fun g1=>?_
  ·refine zi g1 h fun h=>zk<|zT<|zQ<|zl<|qR<|zb h fun y1 j1 h=>yS Z (zx Z Z Z bC j1 Z)<|yS Z (bR Z Z Z cB Z Z)<|yS Z (ze Z uX Z Z)<|yS Z (zs Z Z Z Z cB Z Z Z Z)<|nT<|qR<|zM Z<|yS Z (zD Z Z Z cB Z Z)<|zb h fun v2 a2 h=>yS Z (yC Z Z Z (LC.lend (MY a2) (.cons (Conv.vecAll Z Z Z) dG) Z))<|yS Z (aa.not Z Z)<|nT ?_;refine zX Z (fun g2=>?_)<|fun g2=>?_
   ·refine zi g2 h fun h=>zR<|zM Z<|yS Z (zD Z Z Z cB Z Z)<|yS Z (gR Z bC Z Z Z Z Z)<|zg h fun q2 h=>yS Z (aa.appendX aO x1.out [y1] rfl Z Z Z iy.p Z bC q2 Z)<|zM Z<|zN<|af<|zT<|zR<|yS Z (an Z Z Z Z)<|mN Z ?_;cases h;exact⟨_,rfl,av 1 ⟨Z,Z,Z,Z,Z,t_⟩⟩
   ·refine zo g2 h fun h=>zk<|af<|zT<|zR<|yS Z (an Z Z Z Z)<|mN Z ?_;cases h;exact⟨_,rfl,av 1 ⟨Z,Z,Z,Z,Z,t_⟩⟩
  ·refine zo g1 h fun h=>zq<|ai<|ai<|zy<|zT ?_;cases h;obtain rfl:=(m1 _ rfl);exact av 1 ⟨Z,Z,t_⟩
 ·have h:=b1;clear p1;refine zT<|LW.weak u1<|qR<|zM Z<|mN Z<|zr ?_;cases h;exact zf (.one (.tmp Z))<|(Conv.vecAll Z Z Z)
def F9 (a:Vw)(b:Vw):Option Vw:=(E6 a.B b.B).bind fun v1=>(E7 a.V b.V).bind fun v2=>some (Vw.mk v1 v2)
theorem Lh {r_:Vw}(h:F9 a b=some r_):aq prog 39 [iB a,iB b] [iB r_]:=by
 refine zh Tryz.func39 Z Z Z Z ?_;unfold F9 at h;refine qR<|yS Z (bx Z Z Z Z Z)<|yS Z (bx Z Z Z Z Z)<|yS Z (ze Z d5 Z Z)<|nT<|zQ<|LW.drawLast (m:=11) (by kernel_rfl) (by kernel_rfl) (by kernel_rfl)<|yE Z (zA Z Z aK)<|yE Z (zD Z Z Z bM Z Z)<|yE Z (zA Z Z aK)<|yE Z (zD Z Z Z bM Z Z)<|zb h fun v1 a1 h=>yE Z (yP Z Z Z (PD a1) bG)<|yE Z (zA Z Z aQ)<|yE Z (zD Z Z Z co Z Z)<|yE Z (zA Z Z aQ)<|yE Z (zD Z Z Z co Z Z)<|zb h fun v2 a2 h=>yE Z (yP Z Z Z (PE a2) bG)<|yE Z (aa.build Z nh Z Z Z)<|LO.nil<|yS Z (zs Z Z Z Z aG Z Z Z Z)<|nT<|zr ?_;cases h;exact zf (.one (er Z Z)) zv
structure gm where
 n:Int
 i:Int
def nW (l:List Vt)(v:Vt)(x1:gm):Option (gm⊕gm):=bif decide (x1.i<(l.length:Int))then (ix l x1.i).bind fun y1=>bif ((y1.From==v.From)&&((y1.Slot==v.Slot)&&((y1.Head.1==v.Head.1)&&((y1.Head.2==v.Head.2)&&true))))then some (.inl (gm.mk (i64.wrap (x1.n+1)) (i64.wrap (x1.i+1))))else some (.inl (gm.mk x1.n (i64.wrap (x1.i+1))))else some (.inr (gm.mk x1.n x1.i))
def AO (l:List Vt)(v:Vt):Option Int:=(iter (nW l v) aY (gm.mk 0 0)).bind fun v1=>some v1.n
theorem Lb {l:List Vt}{v:Vt}{r_:Int}(h:AO l v=some r_):aq prog 91 [.slice 4 (l.map aO),aO v] [.int .i64 r_]:=by
 refine zh Tryz.func91 Z Z Z Z ?_;unfold AO at h;refine qR<|yS Z (bx Z Z Z Z Z)<|mN Z<|qR<|mN Z<|zQ<|qR<|mN Z ?_;obtain⟨v1,p1,q1⟩:=zB h;clear h;refine LW.tail (E:=[(4,(iQ 0)),(5,(iQ v1.n))]) (O:=[.box [(iQ v.From),(iQ v.Slot),(uQ v.Head.1),(uQ v.Head.2)]]) ?_<|fun e1 K1 u1=>?_
 ·refine LW.block ?_;refine LW.iterB (E:=fun x1:gm=>[(0,(kV l)),(3,.ptr 0 0),(4,(iQ 0)),(5,(iQ x1.n)),(6,(iQ x1.i))]) (O:=fun x1=>[.box [(iQ v.From),(iQ v.Slot),(uQ v.Head.1),(uQ v.Head.2)]]) p1 (av 1 ⟨Z,Z,Z,Z,Z,t_⟩)<|fun x1 z1 h m1=>?_;unfold nW at h;refine zQ<|qR<|zM Z<|zM Z<|yS Z (ck Z Z)<|yS Z (an Z Z Z Z)<|nT ?_;refine zX Z (fun g1=>?_)<|fun g1=>?_
  ·refine zi g1 h fun h=>zk<|zT<|zQ<|zl<|zQ<|dx<|zH Z<|zH Z<|zb h fun y1 j1 h=>yE Z (zx Z Z Z bC j1 Z)<|yE Z (bR Z Z Z cB Z Z)<|yE Z (zD Z Z Z cB Z Z)<|yE Z (aa.eqlAgg Z Z Z Z Z yQ)<|LO.nil<|zT ?_;refine zX Z (fun g2=>?_)<|fun g2=>?_
   ·refine zi g2 h fun h=>zR<|zM Z<|yS Z (an Z Z Z Z)<|zM Z<|zN<|af<|zT<|zR<|zM Z<|yS Z (an Z Z Z Z)<|mN Z ?_;cases h;exact⟨_,rfl,av 1 ⟨Z,Z,Z,Z,Z,t_⟩⟩
   ·refine zo g2 h fun h=>zk<|af<|zT<|zR<|zM Z<|yS Z (an Z Z Z Z)<|mN Z ?_;cases h;exact⟨_,rfl,av 1 ⟨Z,Z,Z,Z,Z,t_⟩⟩
  ·refine zo g1 h fun h=>zq<|ai<|ai<|zy<|zT ?_;cases h;obtain rfl:=(m1 _ rfl);exact av 1 ⟨Z,Z,t_⟩
 ·have h:=q1;clear p1;refine zT<|LW.weak u1<|qR<|zM Z<|mN Z<|zr ?_;cases h;exact aZ Z
structure ir where
 i:Int
def nI (a:List Vt)(b:List Vt)(x1:ir):Option (ir⊕(ir⊕Bool)):=bif decide (x1.i<(a.length:Int))then (ix a x1.i).bind fun y1=>(ix b x1.i).bind fun y2=>bif !((y1.From==y2.From)&&((y1.Slot==y2.Slot)&&((y1.Head.1==y2.Head.1)&&((y1.Head.2==y2.Head.2)&&true))))then some (.inr (.inr false))else some (.inl (ir.mk (i64.wrap (x1.i+1))))else some (.inr (.inl (ir.mk x1.i)))
def EY (a:List Vt)(b:List Vt):Option Bool:=bif (a.length:Int) != (b.length:Int)then some false else (iter (nI a b) aY (ir.mk 0)).bind fun b_v1=>Sum.elim (fun _=>some true) some b_v1
theorem PC {a:List Vt}{b:List Vt}(h:EY a b=some r_):aq prog 54 [.slice 4 (a.map aO),.slice 4 (b.map aO)] [.bool r_]:=by
 refine zh Tryz.func54 Z Z Z Z ?_;unfold EY at h;refine qR<|mN Z<|zQ<|qR<|zM Z<|yS Z (ck Z Z)<|zM Z<|yS Z (ck Z Z)<|yS Z (an Z Z Z Z)<|nT ?_;refine zX Z (fun g1=>?_)<|fun g1=>?_
 ·refine zi g1 h fun h=>qR<|mN Z<|LW.ret<|ae ?_;cases h;exact aZ Z
 ·refine zo g1 h fun h=>zk<|zT<|zQ<|qR<|mN Z ?_;obtain⟨w1,p1,q1⟩:=zB h;clear h;refine LW.tailB (b:=w1) (E:=fun v1=>[(4,(bQ false))]) (O:=fun v1=>[]) ?_<|fun v1 f1 e1 K1 u1=>?_
  ·refine LW.block ?_;refine LW.iterB (E:=fun x1:ir=>[(0,(kV a)),(1,(kV b)),(4,(bQ false)),(5,(iQ x1.i))]) (O:=fun x1=>[]) p1 (av 0 ⟨Z,Z,Z,Z,t_⟩)<|fun x1 z1 h m1=>?_;unfold nI at h;refine zQ<|qR<|zM Z<|zM Z<|yS Z (ck Z Z)<|yS Z (an Z Z Z Z)<|nT ?_;refine zX Z (fun g2=>?_)<|fun g2=>?_
   ·refine zi g2 h fun h=>zk<|zT<|zQ<|zl<|zQ<|dx<|zH Z<|zH Z<|zb h fun y1 j1 h=>yE Z (zx Z Z Z bC j1 Z)<|yE Z (bR Z Z Z cB Z Z)<|zH Z<|zH Z<|zb h fun y2 j2 h=>yE Z (zx Z Z Z bC j2 Z)<|yE Z (bR Z Z Z cB Z Z)<|yE Z (aa.neqAgg Z Z Z Z Z yQ)<|LO.nil<|zT ?_;refine zX Z (fun g3=>?_)<|fun g3=>?_
    ·refine zi g3 h fun h=>qR<|mN Z<|LW.ret<|ak<|ae<|ae<|ak<|ae<|ae ?_;cases h;obtain rfl:=(m1 _ rfl);have h:=bO q1;cases h;exact aZ Z
    ·refine zo g3 h fun h=>zk<|af<|zT<|zR<|zM Z<|yS Z (an Z Z Z Z)<|mN Z ?_;cases h;exact⟨_,rfl,av 0 ⟨Z,Z,Z,Z,t_⟩⟩
   ·refine zo g2 h fun h=>zq<|ai<|ai<|zy<|zT ?_;cases h;obtain rfl:=(m1 _ rfl);exact⟨_,rfl,av 0 ⟨Z,t_⟩⟩
  ·obtain rfl:=f1;have h:=cR q1;clear p1;refine zT<|LW.weak u1<|qR<|mN Z<|zr ?_;cases h;exact aZ Z
structure iq where
 i:Int
def nH (a:List Bk)(b:List Bk)(x1:iq):Option (iq⊕(iq⊕Bool)):=bif decide (x1.i<(a.length:Int))then (ix a x1.i).bind fun y1=>(ix b x1.i).bind fun y2=>bif !((y1.Slot==y2.Slot)&&((y1.From==y2.From)&&((y1.Parent.1==y2.Parent.1)&&((y1.Parent.2==y2.Parent.2)&&((y1.Salt==y2.Salt)&&true)))))then some (.inr (.inr false))else some (.inl (iq.mk (i64.wrap (x1.i+1))))else some (.inr (.inl (iq.mk x1.i)))
def EX (a:List Bk)(b:List Bk):Option Bool:=bif (a.length:Int) != (b.length:Int)then some false else (iter (nH a b) aY (iq.mk 0)).bind fun b_v1=>Sum.elim (fun _=>some true) some b_v1
theorem PB {a:List Bk}{b:List Bk}(h:EX a b=some r_):aq prog 53 [.slice 5 (a.map aA),.slice 5 (b.map aA)] [.bool r_]:=by
 refine zh Tryz.func53 Z Z Z Z ?_;unfold EX at h;refine qR<|mN Z<|zQ<|qR<|zM Z<|yS Z (ck Z Z)<|zM Z<|yS Z (ck Z Z)<|yS Z (an Z Z Z Z)<|nT ?_;refine zX Z (fun g1=>?_)<|fun g1=>?_
 ·refine zi g1 h fun h=>qR<|mN Z<|LW.ret<|ae ?_;cases h;exact aZ Z
 ·refine zo g1 h fun h=>zk<|zT<|zQ<|qR<|mN Z ?_;obtain⟨w1,p1,q1⟩:=zB h;clear h;refine LW.tailB (b:=w1) (E:=fun v1=>[(4,(bQ false))]) (O:=fun v1=>[]) ?_<|fun v1 f1 e1 K1 u1=>?_
  ·refine LW.block ?_;refine LW.iterB (E:=fun x1:iq=>[(0,(kB a)),(1,(kB b)),(4,(bQ false)),(5,(iQ x1.i))]) (O:=fun x1=>[]) p1 (av 0 ⟨Z,Z,Z,Z,t_⟩)<|fun x1 z1 h m1=>?_;unfold nH at h;refine zQ<|qR<|zM Z<|zM Z<|yS Z (ck Z Z)<|yS Z (an Z Z Z Z)<|nT ?_;refine zX Z (fun g2=>?_)<|fun g2=>?_
   ·refine zi g2 h fun h=>zk<|zT<|zQ<|zl<|zQ<|dx<|zH Z<|zH Z<|zb h fun y1 j1 h=>yE Z (zx Z Z Z cw j1 Z)<|yE Z (bR Z Z Z ce Z Z)<|zH Z<|zH Z<|zb h fun y2 j2 h=>yE Z (zx Z Z Z cw j2 Z)<|yE Z (bR Z Z Z ce Z Z)<|yE Z (aa.neqAgg Z Z Z Z Z tW)<|LO.nil<|zT ?_;refine zX Z (fun g3=>?_)<|fun g3=>?_
    ·refine zi g3 h fun h=>qR<|mN Z<|LW.ret<|ak<|ae<|ae<|ak<|ae<|ae ?_;cases h;obtain rfl:=(m1 _ rfl);have h:=bO q1;cases h;exact aZ Z
    ·refine zo g3 h fun h=>zk<|af<|zT<|zR<|zM Z<|yS Z (an Z Z Z Z)<|mN Z ?_;cases h;exact⟨_,rfl,av 0 ⟨Z,Z,Z,Z,t_⟩⟩
   ·refine zo g2 h fun h=>zq<|ai<|ai<|zy<|zT ?_;cases h;obtain rfl:=(m1 _ rfl);exact⟨_,rfl,av 0 ⟨Z,t_⟩⟩
  ·obtain rfl:=f1;have h:=cR q1;clear p1;refine zT<|LW.weak u1<|qR<|mN Z<|zr ?_;cases h;exact aZ Z
structure ea where
 i:Int
 o3:List Bk
structure gi where
 there:Bool
 k:Int
structure gj where
 i:Int
 o4:List Vt
def nQ (b:Vw)(x1:ea)(x2:gi):Option (gi⊕gi):=bif decide (x2.k<(x1.o3.length:Int))then bif x2.there then some (.inl (gi.mk true (i64.wrap (x2.k+1))))else (ix x1.o3 x2.k).bind fun y1=>(ix b.B x1.i).bind fun y2=>some (.inl (gi.mk ((y1.Slot==y2.Slot)&&((y1.From==y2.From)&&((y1.Parent.1==y2.Parent.1)&&((y1.Parent.2==y2.Parent.2)&&((y1.Salt==y2.Salt)&&true))))) (i64.wrap (x2.k+1))))else some (.inr (gi.mk x2.there x2.k))
def nP (b:Vw)(x1:ea):Option (ea⊕ea):=bif decide (x1.i<(b.B.length:Int))then (iter (nQ b x1) aY (gi.mk false 0)).bind fun v2=>bif !v2.there then (ix b.B x1.i).bind fun y3=>bif bJ x1.o3.length [y3].length 40 then some (.inl (ea.mk (i64.wrap (x1.i+1)) (x1.o3++[y3])))else none else some (.inl (ea.mk (i64.wrap (x1.i+1)) x1.o3))else some (.inr (ea.mk x1.i x1.o3))
def nR (b:Vw)(x3:gj):Option (gj⊕gj):=bif decide (x3.i<(b.V.length:Int))then (ix b.V x3.i).bind fun y4=>(AO x3.o4 y4).bind fun v4=>bif v4==0 then (ix b.V x3.i).bind fun y5=>bif bJ x3.o4.length [y5].length 32 then some (.inl (gj.mk (i64.wrap (x3.i+1)) (x3.o4++[y5])))else none else some (.inl (gj.mk (i64.wrap (x3.i+1)) x3.o4))else some (.inr (gj.mk x3.i x3.o4))
def tc (a:Vw)(b:Vw):Option Vw:=bif bJ 0 a.B.length 40 then bif bJ 0 a.V.length 32 then (iter (nP b) aY (ea.mk 0 a.B)).bind fun v1=>(iter (nR b) aY (gj.mk 0 a.V)).bind fun v3=>some (Vw.mk v1.o3 v3.o4)else none else none
theorem A6 {r_:Vw}(h:tc a b=some r_):aq prog 46 [iB a,iB b] [iB r_]:=by
 refine zh Tryz.func46 Z Z Z Z ?_;unfold tc at h;refine qR<|yS Z (bx Z Z Z Z Z)<|yS Z (bx Z Z Z Z Z)<|yS Z (ze Z d5 Z Z)<|nT<|zQ<|LW.ent (bY.slot Z)<|LW.ent (bY.slot Z)<|LW.ent (bY.slot Z)<|fB<|yG Z (fun H _=>zA Z Z aK)<|yF Z (zd Z Z Z bM Z Z) Z<|zg h fun q1 h=>yF Z (cj.appendZX aA a.B Z Z (id:=3) Z Z Z cw q1) Z<|yG Z (fun H _=>zA Z Z aQ)<|yF Z (zd Z Z Z co Z Z) Z<|zg h fun q2 h=>yF Z (cj.appendZX aO a.V Z Z (id:=4) Z Z Z bC q2) Z<|yG Z (fun H _=>aa.build Z nh Z Z Z)<|yF Z (cj.alloc Z d5 (id:=5) Z) Z<|yF Z (zt Z Z Z Z aG Z Z Z) Z ?_;refine LF.nil ⟨by kernel_rfl,?_⟩;refine zT<|zQ<|qR<|mN Z ?_;obtain⟨v1,p1,b1⟩:=zB h;clear h;refine LW.tail (E:=[(3,.ptr 1 0),(4,.ptr 2 0),(5,.ptr 5 0)]) (O:=[.box (cH a),.box (cH b),.box [.zs,.zs],.vec 5 (v1.o3.map aA),.vec 4 (a.V.map aO),.box [(jB 3 v1.o3),(jV 4 a.V)]]) ?_<|fun e1 K1 u1=>?_
 ·refine LW.block ?_;refine LW.iterB (E:=fun x1:ea=>[(3,.ptr 1 0),(4,.ptr 2 0),(5,.ptr 5 0),(6,(iQ x1.i))]) (O:=fun x1=>[.box (cH a),.box (cH b),.box [.zs,.zs],.vec 5 (x1.o3.map aA),.vec 4 (a.V.map aO),.box [(jB 3 x1.o3),(jV 4 a.V)]]) p1 (av 6 ⟨Z,Z,Z,Z,t_⟩)<|fun x1 z1 h m1=>?_;unfold nP at h;refine zQ<|qR<|zM Z<|yS Z (zA Z Z aK)<|yS Z (zD Z Z Z bM Z Z)<|yS Z (ck Z Z)<|yS Z (an Z Z Z Z)<|nT ?_;refine zX Z (fun g1=>?_)<|fun g1=>?_
  ·refine zi g1 h fun h=>zk<|zT<|zQ<|zl<|qR<|mN Z<|zQ<|qR<|mN Z ?_;obtain⟨v2,p2,b2⟩:=zB h;clear h;refine LW.tail (E:=[(3,.ptr 1 0),(4,.ptr 2 0),(5,.ptr 5 0),(6,(iQ x1.i)),(7,(bQ v2.there))]) (O:=[.box (cH a),.box (cH b),.box [.zs,.zs],.vec 5 (x1.o3.map aA),.vec 4 (a.V.map aO),.box [(jB 3 x1.o3),(jV 4 a.V)]]) ?_<|fun e2 K2 u2=>?_
   ·refine LW.block ?_;refine LW.iterB (E:=fun x2:gi=>[(3,.ptr 1 0),(4,.ptr 2 0),(5,.ptr 5 0),(6,(iQ x1.i)),(7,(bQ x2.there)),(8,(iQ x2.k))]) (O:=fun x2=>[.box (cH a),.box (cH b),.box [.zs,.zs],.vec 5 (x1.o3.map aA),.vec 4 (a.V.map aO),.box [(jB 3 x1.o3),(jV 4 a.V)]]) p2 (av 6 ⟨Z,Z,Z,Z,Z,Z,t_⟩)<|fun x2 z2 h m2=>?_;unfold nQ at h;refine zQ<|qR<|zM Z<|yS Z (zA Z Z aK)<|yS Z (zD Z Z Z bM Z Z)<|yS Z (aa.lenVM Z Z Z (by kernel_rfl))<|yS Z (an Z Z Z Z)<|nT ?_;refine zX Z (fun g2=>?_)<|fun g2=>?_
    ·refine zi g2 h fun h=>zk<|zT<|zQ<|zl<|dx<|zH Z<|zH Z ?_;refine LO.cases 32 Z (fun(g3:x2.there=true)=>?_) (fun(g3:x2.there=false)=>?_)
     ·refine zi g3 h fun h=>yK Z (gd g3 Z) Z<|yK Z (gd g3 Z) Z<|yK Z (gd g3 Z) Z<|yK Z (gd g3 Z) Z<|yK Z (gd g3 Z) Z<|yK Z (gd g3 Z) Z<|yK Z (gd g3 Z) Z<|yK Z (gd g3 Z) Z<|yK Z (gd g3 Z) Z<|yK Z (gd g3 Z) Z<|yK Z (gd g3 Z) Z<|yE Z (bv Z (aJ g3 Z) Z)<|zH Z<|LO.nil<|af<|zT<|zR<|zM Z<|yS Z (an Z Z Z Z)<|mN Z ?_;cases h;exact⟨_,rfl,av 6 ⟨Z,Z,Z,Z,Z,Z,t_⟩⟩
     ·refine zo g3 h fun h=>yL Z (gd g3 Z) (zA Z Z aK)<|yL Z (gd g3 Z) (zD Z Z Z bM Z Z)<|yL Z (gd g3 Z) (zm Z Z)<|zb h fun y1 j1 h=>yL Z (gd g3 Z) (aa.indexAddrVX Z Z Z Z cw j1)<|yL Z (gd g3 Z) (aa.loadVX Z Z Z ce j1 Z Z Z Z)<|yL Z (gd g3 Z) (zA Z Z aK)<|yL Z (gd g3 Z) (zD Z Z Z bM Z Z)<|yL Z (gd g3 Z) (zm Z Z)<|zb h fun y2 j2 h=>yL Z (gd g3 Z) (zx Z Z Z cw j2 Z)<|yL Z (gd g3 Z) (bR Z Z Z ce Z Z)<|yL Z (gd g3 Z) (aa.eqlAgg Z Z Z Z Z tW)<|yE Z (aT Z (aJ g3 Z) Z)<|zH Z<|LO.nil<|af<|zT<|zR<|zM Z<|yS Z (an Z Z Z Z)<|mN Z ?_;cases h;exact⟨_,rfl,av 6 ⟨Z,Z,Z,Z,Z,Z,t_⟩⟩
    ·refine zo g2 h fun h=>zq<|ai<|ai<|zy<|zT ?_;cases h;obtain rfl:=(m2 _ rfl);exact av 6 ⟨Z,Z,Z,Z,Z,t_⟩
   ·have h:=b2;clear p2;refine zT<|LW.weak u2<|qR<|zM Z<|yS Z (aa.not Z Z)<|nT ?_;refine zX Z (fun g4=>?_)<|fun g4=>?_
    ·refine zi g4 h fun h=>fB<|yG Z (fun H _=>zA Z Z aK)<|yF Z (zd Z Z Z bM Z Z) Z<|yG Z (fun H _=>zA Z Z aK)<|yF Z (zd Z Z Z bM Z Z) Z<|zK Z<|zb h fun y3 j3 h=>yG Z (fun H _=>zx Z Z Z cw j3 Z)<|yG Z (fun H _=>bR Z Z Z ce Z Z)<|yG Z (fun H _=>gR Z cw Z Z Z Z Z)<|zg h fun q3 h=>yF Z (cj.appendX aA x1.o3 [y3] rfl Z Z Z Z cw q3) Z<|yG Z (fun H _=>zA Z Z aK)<|yF Z (zt Z Z Z Z bM Z Z Z) Z ?_;refine LF.nil ⟨by kernel_rfl,?_⟩;refine af<|zT<|zR<|zM Z<|yS Z (an Z Z Z Z)<|mN Z ?_;cases h;exact⟨_,rfl,av 6 ⟨Z,Z,Z,Z,t_⟩⟩
    ·refine zo g4 h fun h=>zk<|af<|zT<|zR<|zM Z<|yS Z (an Z Z Z Z)<|mN Z ?_;cases h;exact⟨_,rfl,av 6 ⟨Z,Z,Z,Z,t_⟩⟩
  ·refine zo g1 h fun h=>zq<|ai<|ai<|zy<|zT ?_;cases h;obtain rfl:=(m1 _ rfl);exact av 6 ⟨Z,Z,Z,t_⟩
 ·have h:=b1;clear p1;refine zT<|LW.weak u1<|zQ<|qR<|mN Z ?_;obtain⟨v3,p3,b3⟩:=zB h;clear h;refine LW.tail (E:=[(4,.ptr 2 0),(5,.ptr 5 0)]) (O:=[.box (cH a),.box (cH b),.box [.zs,.zs],.vec 5 (v1.o3.map aA),.vec 4 (v3.o4.map aO),.box [(jB 3 v1.o3),(jV 4 v3.o4)]]) ?_<|fun e3 K3 u3=>?_
  ·refine LW.block ?_;refine LW.iterB (E:=fun x3:gj=>[(3,.ptr 1 0),(4,.ptr 2 0),(5,.ptr 5 0),(9,(iQ x3.i))]) (O:=fun x3=>[.box (cH a),.box (cH b),.box [.zs,.zs],.vec 5 (v1.o3.map aA),.vec 4 (x3.o4.map aO),.box [(jB 3 v1.o3),(jV 4 x3.o4)]]) p3 (av 6 ⟨Z,Z,Z,Z,t_⟩)<|fun x3 z3 h m3=>?_;unfold nR at h;refine zQ<|qR<|zM Z<|yS Z (zA Z Z aQ)<|yS Z (zD Z Z Z co Z Z)<|yS Z (ck Z Z)<|yS Z (an Z Z Z Z)<|nT ?_;refine zX Z (fun g5=>?_)<|fun g5=>?_
   ·refine zi g5 h fun h=>zk<|zT<|zQ<|zl<|zQ<|dx<|yE Z (zA Z Z aQ)<|yE Z (zD Z Z Z co Z Z)<|yE Z (zA Z Z aQ)<|yE Z (zD Z Z Z co Z Z)<|zH Z<|zb h fun y4 j4 h=>yE Z (zx Z Z Z bC j4 Z)<|yE Z (bR Z Z Z cB Z Z)<|zb h fun v4 a4 h=>yE Z (yC Z Z Z (LC.lend (Lb a4) (.cons (Conv.vecAll Z Z Z) dG) Z))<|yE Z (an Z Z Z Z)<|LO.nil<|zT ?_;refine zX Z (fun g6=>?_)<|fun g6=>?_
    ·refine zi g6 h fun h=>fB<|yG Z (fun H _=>zA Z Z aQ)<|yF Z (zd Z Z Z co Z Z) Z<|yG Z (fun H _=>zA Z Z aQ)<|yF Z (zd Z Z Z co Z Z) Z<|zK Z<|zb h fun y5 j5 h=>yG Z (fun H _=>zx Z Z Z bC j5 Z)<|yG Z (fun H _=>bR Z Z Z cB Z Z)<|yG Z (fun H _=>gR Z bC Z Z Z Z Z)<|zg h fun q4 h=>yF Z (cj.appendX aO x3.o4 [y5] rfl Z Z Z Z bC q4) Z<|yG Z (fun H _=>zA Z Z aQ)<|yF Z (zt Z Z Z Z co Z Z Z) Z ?_;refine LF.nil ⟨by kernel_rfl,?_⟩;refine af<|zT<|zR<|zM Z<|yS Z (an Z Z Z Z)<|mN Z ?_;cases h;exact⟨_,rfl,av 6 ⟨Z,Z,Z,Z,t_⟩⟩
    ·refine zo g6 h fun h=>zk<|af<|zT<|zR<|zM Z<|yS Z (an Z Z Z Z)<|mN Z ?_;cases h;exact⟨_,rfl,av 6 ⟨Z,Z,Z,Z,t_⟩⟩
   ·refine zo g5 h fun h=>zq<|ai<|ai<|zy<|zT ?_;cases h;obtain rfl:=(m3 _ rfl);exact av 6 ⟨Z,Z,t_⟩
  ·have h:=b3;clear p3;refine zT<|LW.weak u3<|qR<|yS Z (zD Z Z Z aG Z Z)<|yS Z (zs Z Z Z Z aG Z Z Z Z)<|nT<|zr ?_;cases h;exact zf (.one (er Z Z))<|(Conv.agg (.cons (Conv.vecAll Z Z Z) (.cons (Conv.vecAll Z Z Z) .nil)))
def JB (a:Vw)(b:Vw):Option Bool:=(EX a.B b.B).bind fun v1=>(EY a.V b.V).bind fun v2=>bif v1 then some v2 else some false
theorem P5 (h:JB a b=some r_):aq prog 14 [iB a,iB b] [.bool r_]:=by
 refine zh Tryz.func14 Z Z Z Z ?_;unfold JB at h;refine qR<|yS Z (bx Z Z Z Z Z)<|yS Z (bx Z Z Z Z Z)<|mN Z<|qR<|yS Z (zA Z Z aK)<|yS Z (zD Z Z Z bM Z Z)<|yS Z (zA Z Z aK)<|yS Z (zD Z Z Z bM Z Z)<|zb h fun v1 a1 h=>yS Z (yP Z Z Z (PB a1) bG)<|mN Z<|qR<|yS Z (zA Z Z aQ)<|yS Z (zD Z Z Z co Z Z)<|yS Z (zA Z Z aQ)<|yS Z (zD Z Z Z co Z Z)<|zb h fun v2 a2 h=>yS Z (yP Z Z Z (PC a2) bG)<|mN Z<|qR<|zM Z<|zM Z ?_;refine zc 18 Z (fun g1=>?_)<|fun g1=>?_
 ·refine zi g1 h fun h=>yV Z (gd g1 Z) (zm Z Z)<|yS Z (bv Z (aJ g1 Z) Z)<|mN Z<|zr ?_;cases h;exact aZ Z
 ·refine zo g1 h fun h=>yU Z (gd g1 Z) Z<|yS Z (aT Z (aJ g1 Z) Z)<|mN Z<|zr ?_;cases h;exact aZ Z
def KJ (w:Vw)(most:Int):Option Bool:=bif decide ((w.B.length:Int)<=most)then some (decide ((w.V.length:Int)<=most))else some false
theorem P4 {w:Vw}{most:Int}(h:KJ w most=some r_):aq prog 8 [iB w,.int .i64 most] [.bool r_]:=by
 refine zh Tryz.func8 Z Z Z Z ?_;unfold KJ at h;refine qR<|yS Z (bx Z Z Z Z Z)<|mN Z<|qR<|yS Z (zA Z Z aK)<|yS Z (zD Z Z Z bM Z Z)<|yS Z (ck Z Z)<|zM Z<|yS Z (an Z Z Z Z)<|zM Z ?_;refine zc 10 Z (fun g1=>?_)<|fun g1=>?_
 ·refine zi g1 h fun h=>yV Z (gd g1 Z) (zA Z Z aQ)<|yV Z (gd g1 Z) (zD Z Z Z co Z Z)<|yV Z (gd g1 Z) (ck Z Z)<|yV Z (gd g1 Z) (zm Z Z)<|yV Z (gd g1 Z) (an Z Z Z Z)<|yS Z (bv Z (aJ g1 Z) Z)<|mN Z<|zr ?_;cases h;exact aZ Z
 ·refine zo g1 h fun h=>yU Z (gd g1 Z) Z<|yU Z (gd g1 Z) Z<|yU Z (gd g1 Z) Z<|yU Z (gd g1 Z) Z<|yU Z (gd g1 Z) Z<|yS Z (aT Z (aJ g1 Z) Z)<|mN Z<|zr ?_;cases h;exact aZ Z
def Kx :Option Cf:=some (Cf.mk [1] 0 1 1 4)
theorem PA {r_:Cf}(h:Kx=some r_):aq prog 34 [] [gQ r_]:=by
 refine zh Tryz.func34 Z Z Z Z ?_;unfold Kx at h;refine qR<|yS Z (ze Z Qm Z Z)<|nT<|qR<|yS Z (gR Z dL Z Z Z Z Z)<|yS Z (aa.build Z Po Z Z Z)<|yS Z (zs Z Z Z Z be Z Z Z Z)<|nT<|zr ?_;cases h;exact zf (.one (er Z Z)) zv
structure gc where
 t12:Int
 out:List Bk
def nF (c:Cf)(l:List Bk)(x1:gc):Option (gc⊕gc):=bif decide (x1.t12<(l.length:Int))then (ix l x1.t12).bind fun y1=>(Mo c y1).bind fun v2=>bif v2 then bif bJ x1.out.length [y1].length 40 then some (.inl (gc.mk (i64.wrap (x1.t12+1)) (x1.out++[y1])))else none else some (.inl (gc.mk (i64.wrap (x1.t12+1)) x1.out))else some (.inr (gc.mk x1.t12 x1.out))
def Dm (c:Cf)(l:List Bk):Option (List Bk):=(iter (nF c l) aY (gc.mk 0 ([]:List Bk))).bind fun v1=>some v1.out
theorem JZ {r_:List Bk}(h:Dm c l=some r_):LC prog 79 [.p (gQ c),(kB l),.fn 80 [] []] [] (Is (jB 0 r_) [.vec 5 (r_.map aA)]):=by
 refine eN Tryz.func79 Z Z Z ?_;unfold Dm at h;refine qR<|yS Z (bx Z Z Z Z Z)<|mN Z<|qR<|mN Z<|zQ<|qR<|zM Z<|yS Z (ck Z Z)<|mN Z<|LW.ent (bY.lazy (t:=7) (m:=5) Z Z Z) ?_;obtain⟨v1,p1,b1⟩:=zB h;clear h;refine LW.tail (E:=[(6,.zs),(7,(jB 1 v1.out))]) (O:=[.box (ch c),.vec 5 (v1.out.map aA)]) ?_<|fun e1 K1 u1=>?_
 ·refine LW.block ?_;refine LW.iterB (E:=fun x1:gc=>[(2,.fn 80 [] []),(3,.ptr 0 0),(6,.zs),(7,(jB 1 x1.out)),(10,(kB l)),(11,.p (.int .i64 (l.length:Int))),(12,(iQ x1.t12))]) (O:=fun x1=>[.box (ch c),.vec 5 (x1.out.map aA)]) p1 (av 2 ⟨Z,Z,Z,Z,Z,Z,Z,t_⟩)<|fun x1 z1 h m1=>?_;unfold nF at h;refine qR<|yS Z (an Z Z Z Z)<|nT<|zQ ?_;refine zX Z (fun g1=>?_)<|fun g1=>?_
  ·refine zi g1 h fun h=>zk<|zT<|zQ<|zl<|qR<|zb h fun y1 j1 h=>yS Z (zx Z Z Z cw j1 Z)<|yS Z (bR Z Z Z ce Z Z)<|yS Z (ze Z uW Z Z)<|yS Z (zs Z Z Z Z ce Z Z Z Z)<|nT<|qR<|zM Z<|yS Z (zD Z Z Z be Z Z)<|yS Z (zD Z Z Z ce Z Z)<|zb h fun v2 a2 h=>yS Z (yP Z Z Z (QN a2) bG)<|nT ?_;refine zX Z (fun g2=>?_)<|fun g2=>?_
   ·refine zi g2 h fun h=>zR<|zM Z<|yS Z (zD Z Z Z ce Z Z)<|yS Z (gR Z cw Z Z Z Z Z)<|zg h fun q1 h=>yS Z (aa.appendX aA x1.out [y1] rfl Z Z Z iy.p Z cw q1 Z)<|zM Z<|zN<|af<|zT<|zR<|yS Z (an Z Z Z Z)<|mN Z ?_;cases h;exact⟨_,rfl,av 2 ⟨Z,Z,Z,Z,Z,Z,Z,t_⟩⟩
   ·refine zo g2 h fun h=>zk<|af<|zT<|zR<|yS Z (an Z Z Z Z)<|mN Z ?_;cases h;exact⟨_,rfl,av 2 ⟨Z,Z,Z,Z,Z,Z,Z,t_⟩⟩
  ·refine zo g1 h fun h=>zq<|ai<|ai<|zy<|zT ?_;cases h;obtain rfl:=(m1 _ rfl);exact av 2 ⟨Z,Z,t_⟩
 ·have h:=b1;clear p1;refine zT<|LW.weak u1<|zQ<|LW.ent (bY.last (t:=7) (j:=0) (Hj:=[]) Z Z Z Z Z Z Z)<|zR<|zM Z<|mN Z<|zr ?_;cases h;exact aD (.one (.tmp Z))<|⟨rfl,rfl⟩
structure ge where
 t12:Int
 out:List Vt
def nG (c:Cf)(l:List Vt)(x1:ge):Option (ge⊕ge):=bif decide (x1.t12<(l.length:Int))then (ix l x1.t12).bind fun y1=>(Mp c y1).bind fun v2=>bif v2 then bif bJ x1.out.length [y1].length 32 then some (.inl (ge.mk (i64.wrap (x1.t12+1)) (x1.out++[y1])))else none else some (.inl (ge.mk (i64.wrap (x1.t12+1)) x1.out))else some (.inr (ge.mk x1.t12 x1.out))
def Dn (c:Cf)(l:List Vt):Option (List Vt):=(iter (nG c l) aY (ge.mk 0 ([]:List Vt))).bind fun v1=>some v1.out
theorem J0 {l:List Vt}{r_:List Vt}(h:Dn c l=some r_):LC prog 81 [.p (gQ c),(kV l),.fn 82 [] []] [] (Is (jV 0 r_) [.vec 4 (r_.map aO)]):=by
 refine eN Tryz.func81 Z Z Z ?_;unfold Dn at h;refine qR<|yS Z (bx Z Z Z Z Z)<|mN Z<|qR<|mN Z<|zQ<|qR<|zM Z<|yS Z (ck Z Z)<|mN Z<|LW.ent (bY.lazy (t:=7) (m:=4) Z Z Z) ?_;obtain⟨v1,p1,b1⟩:=zB h;clear h;refine LW.tail (E:=[(6,.zs),(7,(jV 1 v1.out))]) (O:=[.box (ch c),.vec 4 (v1.out.map aO)]) ?_<|fun e1 K1 u1=>?_
 ·refine LW.block ?_;refine LW.iterB (E:=fun x1:ge=>[(2,.fn 82 [] []),(3,.ptr 0 0),(6,.zs),(7,(jV 1 x1.out)),(10,(kV l)),(11,.p (.int .i64 (l.length:Int))),(12,(iQ x1.t12))]) (O:=fun x1=>[.box (ch c),.vec 4 (x1.out.map aO)]) p1 (av 2 ⟨Z,Z,Z,Z,Z,Z,Z,t_⟩)<|fun x1 z1 h m1=>?_;unfold nG at h;refine qR<|yS Z (an Z Z Z Z)<|nT<|zQ ?_;refine zX Z (fun g1=>?_)<|fun g1=>?_
  ·refine zi g1 h fun h=>zk<|zT<|zQ<|zl<|qR<|zb h fun y1 j1 h=>yS Z (zx Z Z Z bC j1 Z)<|yS Z (bR Z Z Z cB Z Z)<|yS Z (ze Z uX Z Z)<|yS Z (zs Z Z Z Z cB Z Z Z Z)<|nT<|qR<|zM Z<|yS Z (zD Z Z Z be Z Z)<|yS Z (zD Z Z Z cB Z Z)<|zb h fun v2 a2 h=>yS Z (yP Z Z Z (QO a2) bG)<|nT ?_;refine zX Z (fun g2=>?_)<|fun g2=>?_
   ·refine zi g2 h fun h=>zR<|zM Z<|yS Z (zD Z Z Z cB Z Z)<|yS Z (gR Z bC Z Z Z Z Z)<|zg h fun q1 h=>yS Z (aa.appendX aO x1.out [y1] rfl Z Z Z iy.p Z bC q1 Z)<|zM Z<|zN<|af<|zT<|zR<|yS Z (an Z Z Z Z)<|mN Z ?_;cases h;exact⟨_,rfl,av 2 ⟨Z,Z,Z,Z,Z,Z,Z,t_⟩⟩
   ·refine zo g2 h fun h=>zk<|af<|zT<|zR<|yS Z (an Z Z Z Z)<|mN Z ?_;cases h;exact⟨_,rfl,av 2 ⟨Z,Z,Z,Z,Z,Z,Z,t_⟩⟩
  ·refine zo g1 h fun h=>zq<|ai<|ai<|zy<|zT ?_;cases h;obtain rfl:=(m1 _ rfl);exact av 2 ⟨Z,Z,t_⟩
 ·have h:=b1;clear p1;refine zT<|LW.weak u1<|zQ<|LW.ent (bY.last (t:=7) (j:=0) (Hj:=[]) Z Z Z Z Z Z Z)<|zR<|zM Z<|mN Z<|zr ?_;cases h;exact aD (.one (.tmp Z))<|⟨rfl,rfl⟩
def L8 (c:Cf)(v_in:Vw):Option Vw:=(Dm c v_in.B).bind fun v1=>(Dn c v_in.V).bind fun v2=>some (Vw.mk v1 v2)
theorem Qw {v_in:Vw}{r_:Vw}(h:L8 c v_in=some r_):aq prog 40 [gQ c,iB v_in] [iB r_]:=by
 refine zh func40 Z Z Z Z ?_;unfold L8 at h;refine qR<|yS Z (bx Z Z Z Z Z)<|yS Z (bx Z Z Z Z Z)<|yS Z (ze Z d5 Z Z)<|nT<|zQ<|LW.ent (bY.slot Z)<|LW.ent (bY.slot Z)<|fB<|yF Z (zd Z Z Z be Z Z) Z<|yG Z (fun H _=>zA Z Z aK)<|yF Z (zd Z Z Z bM Z Z) Z<|zb h fun v1 a1 h=>?_;refine yF Z (cj.callV (id:=3) (qs:=[.p (gQ c),(kB v_in.B),.fn 80 [] []]) Z Z Z (by kernel_rfl) (JZ a1) (fun H=>(.consC zv (.consC zv (.consF .nil)))) Z) Z ?_;refine yF Z (zd Z Z Z be Z Z) Z<|yG Z (fun H _=>zA Z Z aQ)<|yF Z (zd Z Z Z co Z Z) Z<|zb h fun v2 a2 h=>?_;refine yF Z (cj.callV (id:=4) (qs:=[.p (gQ c),(kV v_in.V),.fn 82 [] []]) Z Z Z (by kernel_rfl) (J0 a2) (fun H=>(.consC zv (.consC zv (.consF .nil)))) Z) Z ?_;refine yG Z (fun H _=>aa.build Z nh Z Z Z)<|yF Z (zt Z Z Z Z aG Z Z Z) Z ?_;refine LF.nil ⟨by kernel_rfl,?_⟩;refine zT<|zr ?_;cases h;exact zf (.one (er Z Z))<|(Conv.agg (.cons (Conv.vecAll Z Z Z) (.cons (Conv.vecAll Z Z Z) .nil)))
def F7 (c:Cf)(inp:Vw):Option (List Bk×List Vt):=(Dm c inp.B).bind fun v1=>(Dn c inp.V).bind fun v2=>some (v1,v2)
theorem N0 {inp:Vw}{r_:List Bk×List Vt}(h:F7 c inp=some r_):LC prog 40 [.p (gQ c),.p (iB inp)] [] (Is (.agg [(jB 3 r_.1),(jV 4 r_.2)]) [.box (ch c),.box (cH inp),.box [(jB 3 r_.1),(jV 4 r_.2)],.vec 5 (r_.1.map aA),.vec 4 (r_.2.map aO)]):=by
 refine eN func40 Z Z Z ?_;unfold F7 at h;refine qR<|yS Z (bx Z Z Z Z Z)<|yS Z (bx Z Z Z Z Z)<|yS Z (ze Z d5 Z Z)<|nT<|zQ<|LW.ent (bY.slot Z)<|LW.ent (bY.slot Z)<|fB<|yF Z (zd Z Z Z be Z Z) Z<|yG Z (fun H _=>zA Z Z aK)<|yF Z (zd Z Z Z bM Z Z) Z<|zb h fun v1 a1 h=>?_;refine yF Z (cj.callV (id:=3) (qs:=[.p (gQ c),(kB inp.B),.fn 80 [] []]) Z Z Z (by kernel_rfl) (JZ a1) (fun H=>(.consC zv (.consC zv (.consF .nil)))) Z) Z ?_;refine yF Z (zd Z Z Z be Z Z) Z<|yG Z (fun H _=>zA Z Z aQ)<|yF Z (zd Z Z Z co Z Z) Z<|zb h fun v2 a2 h=>?_;refine yF Z (cj.callV (id:=4) (qs:=[.p (gQ c),(kV inp.V),.fn 82 [] []]) Z Z Z (by kernel_rfl) (J0 a2) (fun H=>(.consC zv (.consC zv (.consF .nil)))) Z) Z ?_;refine yG Z (fun H _=>aa.build Z nh Z Z Z)<|yF Z (zt Z Z Z Z aG Z Z Z) Z ?_;refine LF.nil ⟨by kernel_rfl,?_⟩;refine zT<|zr ?_;cases h;exact aD (.one (er Z Z))<|⟨rfl,rfl⟩
structure gD where
 t27:Int
 o3:List (ID×Int)
structure gE where
 t43:Int
 o4:List (Vt×Bool)
def nJ (w:Vw)(x1:gD):Option (gD⊕gD):=bif decide (x1.t27<(w.B.length:Int))then (ix w.B x1.t27).bind fun y1=>some (.inl (gD.mk (i64.wrap (x1.t27+1)) (bP x1.o3 (nm y1) y1.Slot)))else some (.inr (gD.mk x1.t27 x1.o3))
def nK (w:Vw)(x2:gE):Option (gE⊕gE):=bif decide (x2.t43<(w.V.length:Int))then (ix w.V x2.t43).bind fun y2=>some (.inl (gE.mk (i64.wrap (x2.t43+1)) (bP x2.o4 y2 true)))else some (.inr (gE.mk x2.t43 x2.o4))
def Do (w:Vw)(_:Int):Option (List (ID×Int)×List (Vt×Bool)):=bif bJ 0 w.B.length 40 then bif bJ 0 w.V.length 32 then (iter (nJ w) aY (gD.mk 0 (bP [] (0,0) 0))).bind fun v1=>(iter (nK w) aY (gE.mk 0 ([]:List (Vt×Bool)))).bind fun v2=>some (v1.o3,v2.o4)else none else none
theorem J1 {w:Vw}{upto:Int}{r_:List (ID×Int)×List (Vt×Bool)}(h:Do w upto=some r_):LC prog 153 [.p (iB w),(iQ upto)] [] (Is (.ptr 5 0) [.box (cH w),.vec 5 (w.B.map aA),.vec 4 (w.V.map aO),(mQ r_.1),(mR r_.2),.box [(jB 1 w.B),(jV 2 w.V),.map 3,.map 4,(iQ upto),(bQ false)]]):=by
 refine eN Tryz.func153 Z Z Z ?_;unfold Do at h;refine qR<|yS Z (bx Z Z Z Z Z)<|mN Z<|zQ<|LW.ent (bY.slot Z)<|LW.ent (bY.slot Z)<|LW.ent (bY.slot Z)<|LW.ent (bY.slot Z)<|LW.ent (bY.slot Z)<|fB<|yG Z (fun H _=>zA Z Z aK)<|yF Z (zd Z Z Z bM Z Z) Z<|zg h fun q1 h=>?_;refine yF Z (cj.callV (id:=1) (qs:=[(kB w.B)]) Z Z Z (by kernel_rfl) (yA q1) (fun H=>(.consC zv .nil)) Z) Z ?_;refine yG Z (fun H _=>zA Z Z aQ)<|yF Z (zd Z Z Z co Z Z) Z<|zg h fun q2 h=>?_;refine yF Z (cj.callV (id:=2) (qs:=[(kV w.V)]) Z Z Z (by kernel_rfl) (yB q2) (fun H=>(.consC zv .nil)) Z) Z ?_;refine yG Z (fun H _=>aa.build Z nh Z Z Z)<|yF Z (cj.makeMap Z (id:=3) Z) Z<|yG Z (fun H _=>aa.build Z ng Z Z Z) ?_;refine yF Z (cj.setX (f:=aX) (g:=(fun v=>(iQ v))) (m:=([]:List (ID×Int))) (0,0) 0 f8 (.inr Z) Z Z Z Z Z mO) Z ?_;refine zK Z<|yF Z (cj.makeMap Z (id:=4) Z) Z<|zK Z<|yG Z (fun H _=>aa.build Z ME Z Z Z)<|yF Z (cj.box Z Z Z (id:=5) Z) Z<|zK Z ?_;refine LF.nil ⟨by kernel_rfl,?_⟩;refine zT<|zQ<|qR<|yS Z (zA Z Z aK)<|yS Z (zD Z Z Z bM Z Z)<|yS Z (ck Z Z)<|mN Z ?_;obtain⟨v1,p1,a1⟩:=zB h;clear h;refine LW.tail (E:=[(2,.ptr 0 0),(5,.ptr 5 0)]) (O:=[.box (cH w),.vec 5 (w.B.map aA),.vec 4 (w.V.map aO),(mQ v1.o3),.map (ar aO (fun v=>(bQ v)) []),.box [(jB 1 w.B),(jV 2 w.V),.map 3,.map 4,(iQ upto),(bQ false)]]) ?_<|fun e1 K1 u1=>?_
 ·refine LW.block ?_;refine LW.iterB (E:=fun x1:gD=>[(2,.ptr 0 0),(5,.ptr 5 0),(25,(kB w.B)),(26,.p (.int .i64 (w.B.length:Int))),(27,(iQ x1.t27))]) (O:=fun x1=>[.box (cH w),.vec 5 (w.B.map aA),.vec 4 (w.V.map aO),(mQ x1.o3),.map (ar aO (fun v=>(bQ v)) []),.box [(jB 1 w.B),(jV 2 w.V),.map 3,.map 4,(iQ upto),(bQ false)]]) p1 (zW 6 ⟨Z,Z,Z,Z,Z,t_⟩ Z Z Z (zL Z (zL Z (zL Z (zL (aj (fun _=>rfl) _) (zL (aj (fun _=>rfl) _) (zL Z Z)))))))<|fun x1 z1 h m1=>?_;unfold nJ at h;refine qR<|yS Z (an Z Z Z Z)<|nT<|zQ ?_;refine zX Z (fun g1=>?_)<|fun g1=>?_
  ·refine zi g1 h fun h=>zk<|zT<|zQ<|zl<|qR<|zb h fun y1 j1 h=>yS Z (zx Z Z Z cw j1 Z)<|yS Z (bR Z Z Z ce Z Z)<|yS Z (ze Z uW Z Z)<|yS Z (zs Z Z Z Z ce Z Z Z Z)<|nT<|LW.drawLast (m:=8) (by kernel_rfl) (by kernel_rfl) (by kernel_rfl)<|zH Z<|yE Z (zn Z Z)<|yE Z (zA Z Z og)<|yE Z (zD Z Z Z EB Z Z)<|yE Z (zD Z Z Z ce Z Z)<|yE Z (yP Z Z Z (Ma (b:=y1)) dG)<|yE Z (zA Z Z fK)<|yE Z (zD Z Z Z aW Z Z)<|LO.nil ?_;refine yS Z (aa.setX (f:=aX) (g:=(fun v=>(iQ v))) (nm y1) y1.Slot f8 (.inl Z) Z Z Z Z Z mO Z) ?_;refine zN<|af<|zT<|zR<|yS Z (an Z Z Z Z)<|mN Z ?_;cases h;exact⟨_,rfl,zW 6 ⟨Z,Z,Z,Z,Z,t_⟩ Z Z Z (zL Z (zL Z (zL Z (zL (aj (fun _=>rfl) _) (zL (aj (fun _=>rfl) _) (zL Z Z))))))⟩
  ·refine zo g1 h fun h=>zq<|ai<|ai<|zy<|zT ?_;cases h;obtain rfl:=(m1 _ rfl);exact zW 6 ⟨Z,Z,t_⟩ Z Z Z<|zL Z<|zL Z<|zL Z<|zL (aj (fun _=>rfl) _)<|zL (aj (fun _=>rfl) _)<|zL Z Z
 ·have h:=a1;clear p1;refine zT<|LW.weak u1<|zQ<|qR<|yS Z (zA Z Z aQ)<|yS Z (zD Z Z Z co Z Z)<|yS Z (ck Z Z)<|mN Z ?_;obtain⟨v2,p2,a2⟩:=zB h;clear h;refine LW.tail (E:=[(5,.ptr 5 0)]) (O:=[.box (cH w),.vec 5 (w.B.map aA),.vec 4 (w.V.map aO),(mQ v1.o3),(mR v2.o4),.box [(jB 1 w.B),(jV 2 w.V),.map 3,.map 4,(iQ upto),(bQ false)]]) ?_<|fun e2 K2 u2=>?_
  ·refine LW.block ?_;refine LW.iterB (E:=fun x2:gE=>[(5,.ptr 5 0),(41,(kV w.V)),(42,.p (.int .i64 (w.V.length:Int))),(43,(iQ x2.t43))]) (O:=fun x2=>[.box (cH w),.vec 5 (w.B.map aA),.vec 4 (w.V.map aO),(mQ v1.o3),(mR x2.o4),.box [(jB 1 w.B),(jV 2 w.V),.map 3,.map 4,(iQ upto),(bQ false)]]) p2 (zW 6 ⟨Z,Z,Z,Z,t_⟩ Z Z Z (zL Z (zL Z (zL Z (zL (aj (fun _=>rfl) _) (zL (aj (fun _=>rfl) _) (zL Z Z)))))))<|fun x2 z2 h m2=>?_;unfold nK at h;refine qR<|yS Z (an Z Z Z Z)<|nT<|zQ ?_;refine zX Z (fun g2=>?_)<|fun g2=>?_
   ·refine zi g2 h fun h=>zk<|zT<|zQ<|zl<|qR<|zb h fun y2 j2 h=>yS Z (zx Z Z Z bC j2 Z)<|yS Z (bR Z Z Z cB Z Z)<|yS Z (ze Z uX Z Z)<|yS Z (zs Z Z Z Z cB Z Z Z Z)<|nT<|LW.drawLast (m:=5) (by kernel_rfl) (by kernel_rfl) (by kernel_rfl)<|zH Z<|yE Z (zn Z Z)<|yE Z (zA Z Z sW)<|yE Z (zD Z Z Z Dc Z Z)<|yE Z (zD Z Z Z cB Z Z)<|LO.nil ?_;refine yS Z (aa.setX (f:=aO) (g:=(fun v=>(bQ v))) y2 true Dd (.inl Z) Z Z Z Z Z Hi Z) ?_;refine zN<|af<|zT<|zR<|yS Z (an Z Z Z Z)<|mN Z ?_;cases h;exact⟨_,rfl,zW 6 ⟨Z,Z,Z,Z,t_⟩ Z Z Z (zL Z (zL Z (zL Z (zL (aj (fun _=>rfl) _) (zL (aj (fun _=>rfl) _) (zL Z Z))))))⟩
   ·refine zo g2 h fun h=>zq<|ai<|ai<|zy<|zT ?_;cases h;obtain rfl:=(m2 _ rfl);exact zW 6 ⟨Z,t_⟩ Z Z Z<|zL Z<|zL Z<|zL Z<|zL (aj (fun _=>rfl) _)<|zL (aj (fun _=>rfl) _)<|zL Z Z
  ·have h:=a2;clear p2;refine zT<|LW.weak u2<|qR<|zM Z<|mN Z<|zr ?_;cases h;exact aD (.one (.tmp Z))<|⟨rfl,rfl⟩
theorem CD {d:Nat}(m:List (α×Int)):((ar f (fun v=>(iQ v)) m).map fun e=>(e.1,LV.shift d e.2))=ar f (fun v=>(iQ v)) m:=GN (fun _=>rfl) m
theorem CC {d:Nat}(m:List (α×Bool)):((ar f (fun v=>(bQ v)) m).map fun e=>(e.1,LV.shift d e.2))=ar f (fun v=>(bQ v)) m:=GN (fun _=>rfl) m
end Go.Mg
