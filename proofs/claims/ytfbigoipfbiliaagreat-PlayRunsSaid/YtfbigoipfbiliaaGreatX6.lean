/- Weights of blocks, heads: what stands alone, and the reference. Conditions: none. -/
import Derived.Test.YtfbigoipfbiliaaGreatX5
set_option maxRecDepth 100000
set_option linter.all false
namespace Go.Mg
open IntKind (i64)
open Go.Proofs.Tryz (func40 prog)
open Go.Proofs
variable {α : Type} {a b : Vw} {c : Cf} {f : α -> PV} {l s : List Bk} {m : List (ID × Bool)} {names : List ID} {r_ : Bool} {v : List Vt}
def D7 (x:Int):Option Bool:=some (x != x)
theorem NR {x:Int}(h:D7 x=some r_):aq prog 236 [.int .u64 x] [.bool r_]:=by
 refine zh Tryz.func236 Z Z Z Z ?_;unfold D7 at h;refine qR<|mN Z<|qR<|zM Z<|zM Z<|yS Z (am Z Z Z Z)<|mN Z<|zr ?_;cases h;exact ba Z
def FX (x:Int)(y:Int):Option Int:=(D7 x).bind fun v1=>(D7 y).bind fun v2=>bif v1 then bif v2 then some 0 else some (-1)else bif v2 then some 1 else bif decide (x<y)then some (-1)else bif decide (x>y)then some 1 else some 0
theorem QD {x:Int}{y:Int}{r_:Int}(h:FX x y=some r_):aq prog 230 [.int .u64 x,.int .u64 y] [.int .i64 r_]:=by
 refine zh Tryz.func230 Z Z Z Z ?_;unfold FX at h;refine qR<|mN Z<|qR<|zM Z<|zb h fun v1 a1 h=>yS Z (yP Z Z Z (NR a1) dB)<|mN Z<|qR<|zM Z<|zb h fun v2 a2 h=>yS Z (yP Z Z Z (NR a2) dB)<|mN Z<|zQ<|qR<|mN Z ?_;refine zX Z (fun g1=>?_)<|fun g1=>?_
 ·refine zi g1 h fun h=>zQ<|qR<|mN Z ?_;refine zX Z (fun g2=>?_)<|fun g2=>?_
  ·refine zi g2 h fun h=>qR<|mN Z<|LW.ret<|af<|af ?_;cases h;exact ba Z
  ·refine zo g2 h fun h=>zk<|zT<|qR<|mN Z<|zr<|af ?_;cases h;exact ba Z
 ·refine zo g1 h fun h=>zk<|zT<|zQ<|qR<|mN Z ?_;refine zX Z (fun g3=>?_)<|fun g3=>?_
  ·refine zi g3 h fun h=>qR<|mN Z<|LW.ret<|af ?_;cases h;exact ba Z
  ·refine zo g3 h fun h=>zk<|zT<|zQ<|qR<|zM Z<|zM Z<|yS Z (am Z Z Z Z)<|nT ?_;refine zX Z (fun g4=>?_)<|fun g4=>?_
   ·refine zi g4 h fun h=>qR<|mN Z<|LW.ret<|af ?_;cases h;exact ba Z
   ·refine zo g4 h fun h=>zk<|zT<|zQ<|qR<|zM Z<|zM Z<|yS Z (am Z Z Z Z)<|nT ?_;refine zX Z (fun g5=>?_)<|fun g5=>?_
    ·refine zi g5 h fun h=>qR<|mN Z<|LW.ret<|af ?_;cases h;exact ba Z
    ·refine zo g5 h fun h=>zk<|zT<|qR<|mN Z<|zr ?_;cases h;exact ba Z
structure fA where
 t11:Int
def ku (s1:List Int)(s2:List Int)(x1:fA):Option (fA⊕(fA⊕Int)):=bif decide (x1.t11<(s1.length:Int))then (ix s1 x1.t11).bind fun y1=>bif decide (x1.t11>=(s2.length:Int))then some (.inr (.inr 1))else (ix s2 x1.t11).bind fun y2=>(FX y1 y2).bind fun v2=>bif v2 != 0 then some (.inr (.inr v2))else some (.inl (fA.mk (i64.wrap (x1.t11+1))))else some (.inr (.inl (fA.mk x1.t11)))
def D2 (s1:List Int)(s2:List Int):Option Int:=(iter (ku s1 s2) aY (fA.mk 0)).bind fun b_v1=>Sum.elim (fun _=>bif decide ((s1.length:Int)<(s2.length:Int))then some (-1)else some 0) some b_v1
theorem NK {s1:List Int}{s2:List Int}{r_:Int}(h:D2 s1 s2=some r_):aq prog 208 [.slice 1 (s1.map kL),.slice 1 (s2.map kL)] [.int .i64 r_]:=by
 refine zh Tryz.func208 Z Z Z Z ?_;unfold D2 at h;refine qR<|mN Z<|zQ<|qR<|zM Z<|yS Z (cx Z Z)<|mN Z ?_;obtain⟨w1,p1,q1⟩:=zB h;clear h;refine LW.tailB (b:=w1) (E:=fun v1=>[(0,.p (.slice 1 (s1.map kL))),(1,.p (.slice 1 (s2.map kL))),(4,(iQ 0))]) (O:=fun v1=>[]) ?_<|fun v1 f1 e1 K1 u1=>?_
 ·refine LW.block ?_;refine LW.iterB (E:=fun x1:fA=>[(0,.p (.slice 1 (s1.map kL))),(1,.p (.slice 1 (s2.map kL))),(4,(iQ 0)),(9,.p (.slice 1 (s1.map kL))),(10,.p (.int .i64 (s1.length:Int))),(11,(iQ x1.t11))]) (O:=fun x1=>[]) p1 (au 0 ⟨Z,Z,Z,Z,Z,Z,t_⟩)<|fun x1 z1 h m1=>?_;unfold ku at h;refine qR<|yS Z (am Z Z Z Z)<|nT<|zQ ?_;refine zX Z (fun g1=>?_)<|fun g1=>?_
  ·refine zi g1 h fun h=>zk<|zT<|zQ<|zl<|qR<|zM Z<|zb h fun y1 j1 h=>yS Z (zx Z Z Z E9 j1 Z)<|yS Z (bS Z Z Z iV Z Z)<|zM Z<|mN Z<|zQ<|qR<|zM Z<|zM Z<|yS Z (cx Z Z)<|yS Z (am Z Z Z Z)<|nT ?_;refine zX Z (fun g2=>?_)<|fun g2=>?_
   ·refine zi g2 h fun h=>qR<|mN Z<|LW.ret<|af<|ao<|af<|af<|ao<|af<|af ?_;cases h;obtain rfl:=(m1 _ rfl);have h:=bT q1;cases h;exact ba Z
   ·refine zo g2 h fun h=>zk<|zT<|qR<|zM Z<|zM Z<|zb h fun y2 j2 h=>yS Z (zx Z Z Z E9 j2 Z)<|yS Z (bS Z Z Z iV Z Z)<|mN Z<|qR<|zM Z<|zM Z<|zb h fun v2 a2 h=>yS Z (yP Z Z Z (QD a2) bR)<|mN Z<|qR<|zM Z<|yS Z (am Z Z Z Z)<|nT ?_;refine zX Z (fun g3=>?_)<|fun g3=>?_
    ·refine zi g3 h fun h=>qR<|zM Z<|mN Z<|zr<|ao<|af<|af<|ao<|af<|af ?_;cases h;obtain rfl:=(m1 _ rfl);have h:=bT q1;cases h;exact ba Z
    ·refine zo g3 h fun h=>zk<|ae<|zT<|zR<|yS Z (am Z Z Z Z)<|mN Z ?_;cases h;exact⟨_,rfl,au 0 ⟨Z,Z,Z,Z,Z,Z,t_⟩⟩
  ·refine zo g1 h fun h=>zq<|aj<|aj<|zy<|zT ?_;cases h;obtain rfl:=(m1 _ rfl);exact⟨_,rfl,au 0 ⟨Z,Z,Z,t_⟩⟩
 ·obtain rfl:=f1;have h:=cU q1;clear p1;refine zT<|LW.weak u1<|zQ<|qR<|zM Z<|yS Z (cx Z Z)<|zM Z<|yS Z (cx Z Z)<|yS Z (am Z Z Z Z)<|nT ?_;refine zX Z (fun g4=>?_)<|fun g4=>?_
  ·refine zi g4 h fun h=>qR<|mN Z<|LW.ret<|af ?_;cases h;exact ba Z
  ·refine zo g4 h fun h=>zk<|zT<|qR<|mN Z<|zr ?_;cases h;exact ba Z
def Fz (a:ID)(b:ID):Option Bool:=(D2 [a.1,a.2] [b.1,b.2]).bind fun v1=>some (decide (v1<0))
theorem Qm {a:ID}{b:ID}(h:Fz a b=some r_):aq prog 217 [aX a,aX b] [.bool r_]:=by
 refine zh Tryz.func217 Z Z Z Z ?_;unfold Fz at h;refine qR<|yS Z (bv Z Z Z Z Z)<|yS Z (bv Z Z Z Z Z)<|mN Z<|zQ<|dy<|yE Z (aa.sliceBox Z Z qB Z Z Z)<|yE Z (aa.sliceBox Z Z qB Z Z Z)<|zb h fun v1 a1 h=>yE Z (zC Z Z Z (by kernel_rfl) (LC.lend (NK a1) (.cons (Conv.boxSlice Z Z Z Z) (.cons (Conv.boxSlice Z Z Z Z) .nil)) Z))<|yE Z (am Z Z Z Z)<|zH Z<|LO.nil<|zT<|zr ?_;cases h;exact ba Z
def FA (a:Rk)(b:Rk):Option Bool:=bif a.n != b.n then some (decide (a.n>b.n))else bif !((a.n==b.n)&&((a.id.1==b.id.1)&&((a.id.2==b.id.2)&&true)))then (Fz b.id a.id).bind fun v1=>some v1 else some false
theorem Qn {a:Rk}{b:Rk}(h:FA a b=some r_):aq prog 179 [Rj a,Rj b] [.bool r_]:=by
 refine zh Tryz.func179 Z Z Z Z ?_;unfold FA at h;refine qR<|yS Z (bv Z Z Z Z Z)<|yS Z (bv Z Z Z Z Z)<|mN Z<|zQ<|qR<|yS Z (zA Z Z qN)<|yS Z (zD Z Z Z aV Z Z)<|yS Z (zA Z Z qN)<|yS Z (zD Z Z Z aV Z Z)<|yS Z (am Z Z Z Z)<|nT ?_;refine zX Z (fun g1=>?_)<|fun g1=>?_
 ·refine zi g1 h fun h=>qR<|yS Z (zA Z Z qN)<|yS Z (zD Z Z Z aV Z Z)<|yS Z (zA Z Z qN)<|yS Z (zD Z Z Z aV Z Z)<|yS Z (am Z Z Z Z)<|mN Z<|zr<|af ?_;cases h;exact ba Z
 ·refine zo g1 h fun h=>zk<|zT<|qR<|yS Z (zD Z Z Z tb Z Z)<|yS Z (zD Z Z Z tb Z Z)<|yS Z (aa.neqAgg Z Z Z Z Z Mx)<|zM Z ?_;refine zc 18 Z (fun g2=>?_)<|fun g2=>?_
  ·refine zi g2 h fun h=>yV Z (gd g2 Z) (zA Z Z xk)<|yV Z (gd g2 Z) (zD Z Z Z aG Z Z)<|yV Z (gd g2 Z) (zA Z Z xk)<|yV Z (gd g2 Z) (zD Z Z Z aG Z Z)<|zb h fun v1 a1 h=>yV Z (gd g2 Z) (yP Z Z Z (Qm a1) bR)<|yS Z (bA Z (aK g2 Z) Z)<|mN Z<|zr ?_;cases h;exact ba Z
  ·refine zo g2 h fun h=>yU Z (gd g2 Z) Z<|yU Z (gd g2 Z) Z<|yU Z (gd g2 Z) Z<|yU Z (gd g2 Z) Z<|yU Z (gd g2 Z) Z<|yS Z (aU Z (aK g2 Z) Z)<|mN Z<|zr ?_;cases h;exact ba Z
def Jj (x:Vt):Option Int:=some x.From
theorem Qz {x:Vt}{r_:Int}(h:Jj x=some r_):aq prog 205 [aO x] [.int .i64 r_]:=by
 refine zh Tryz.func205 Z Z Z Z ?_;unfold Jj at h;refine qR<|yS Z (bv Z Z Z Z Z)<|mN Z<|qR<|yS Z (zA Z Z im)<|yS Z (zD Z Z Z aV Z Z)<|mN Z<|zr ?_;cases h;exact ba Z
def FS (a:ID)(b:ID):Option Bool:=bif decide (a.1<b.1)then some true else bif a.1==b.1 then some (decide (a.2<b.2))else some false
theorem QB {a:ID}{b:ID}(h:FS a b=some r_):aq prog 186 [aX a,aX b] [.bool r_]:=by
 refine zh Tryz.func186 Z Z Z Z ?_;unfold FS at h;refine qR<|yS Z (bv Z Z Z Z Z)<|yS Z (bv Z Z Z Z Z)<|mN Z<|qR<|yS Z (aa.indexAddrA Z Z Z qB (by decide) (by decide))<|yS Z (zD Z Z Z iV Z Z)<|yS Z (aa.indexAddrA Z Z Z qB (by decide) (by decide))<|yS Z (zD Z Z Z iV Z Z)<|yS Z (am Z Z Z Z)<|zM Z ?_;refine zc 10 Z (fun g1=>?_)<|fun g1=>?_
 ·refine zi g1 h fun h=>yU Z (gd g1 Z) Z<|yU Z (gd g1 Z) Z<|yU Z (gd g1 Z) Z<|yU Z (gd g1 Z) Z<|yU Z (gd g1 Z) Z<|yU Z (gd g1 Z) Z<|zY Z Z Z Z Z<|zY Z Z Z Z Z<|zY Z Z Z Z Z<|zY Z Z Z Z Z<|zY Z Z Z Z Z<|yU Z (gd g1 Z) Z<|yS Z (bA Z (aK g1 Z) Z)<|mN Z<|zr ?_;cases h;exact ba Z
 ·refine zo g1 h fun h=>yV Z (gd g1 Z) (aa.indexAddrA Z Z Z qB (by decide) (by decide))<|yV Z (gd g1 Z) (zD Z Z Z iV Z Z)<|yV Z (gd g1 Z) (aa.indexAddrA Z Z Z qB (by decide) (by decide))<|yV Z (gd g1 Z) (zD Z Z Z iV Z Z)<|yV Z (gd g1 Z) (am Z Z Z Z)<|yV Z (gd g1 Z) (zm Z Z) ?_;refine zc 16 Z (fun g2=>?_)<|fun g2=>?_
  ·refine zi g2 h fun h=>yV Z (gd g2 Z) (aa.indexAddrA Z Z Z qB (by decide) (by decide))<|yV Z (gd g2 Z) (zD Z Z Z iV Z Z)<|yV Z (gd g2 Z) (aa.indexAddrA Z Z Z qB (by decide) (by decide))<|yV Z (gd g2 Z) (zD Z Z Z iV Z Z)<|yV Z (gd g2 Z) (am Z Z Z Z)<|yV Z (gd g1 Z) (bA Z (aK g2 Z) Z)<|yS Z (aU Z (aK g1 Z) Z)<|mN Z<|zr ?_;cases h;exact ba Z
  ·refine zo g2 h fun h=>yU Z (gd g2 Z) Z<|yU Z (gd g2 Z) Z<|yU Z (gd g2 Z) Z<|yU Z (gd g2 Z) Z<|yU Z (gd g2 Z) Z<|yV Z (gd g1 Z) (aU Z (aK g2 Z) Z)<|yS Z (aU Z (aK g1 Z) Z)<|mN Z<|zr ?_;cases h;exact ba Z
structure gm where
 i:Int
 out:List ID
def qg (l:List Bk)(names:List ID)(id:ID)(x1:gm):Option (gm⊕gm):=bif decide (x1.i<(l.length:Int))then (ix l x1.i).bind fun y1=>bif ((y1.Parent.1==id.1)&&((y1.Parent.2==id.2)&&true))then (ix names x1.i).bind fun y2=>bif bG x1.out.length [y2].length 16 then some (.inl (gm.mk (i64.wrap (x1.i+1)) (x1.out++[y2])))else none else some (.inl (gm.mk (i64.wrap (x1.i+1)) x1.out))else some (.inr (gm.mk x1.i x1.out))
def FR (l:List Bk)(names:List ID)(id:ID):Option (List ID):=(iter (qg l names id) aY (gm.mk 0 ([]:List ID))).bind fun v1=>some v1.out
theorem QA {id:ID}{r_:(List ID)}(h:FR l names id=some r_):aq prog 184 [.slice 5 (l.map ay),.slice 2 (names.map aX),aX id] [.slice 2 (r_.map aX)]:=by
 refine zh Tryz.func184 Z Z Z Z ?_;unfold FR at h;refine qR<|yS Z (bv Z Z Z Z Z)<|mN Z<|qR<|mN Z<|zQ<|qR<|mN Z<|LW.ent (bW.lazy (t:=7) (m:=2) Z Z Z) ?_;obtain⟨v1,p1,a1⟩:=zB h;clear h;refine LW.tail (E:=[(6,.zs),(7,.vec 2 1 (v1.out.map aX).length 0 (v1.out.map aX).length)]) (O:=[.box [(uQ id.1),(uQ id.2)],.vec 2 (v1.out.map aX)]) ?_<|fun e1 K1 u1=>?_
 ·refine LW.block ?_;refine LW.iterB (E:=fun x1:gm=>[(0,(kB l)),(1,.p (.slice 2 (names.map aX))),(5,.ptr 0 0),(6,.zs),(7,.vec 2 1 (x1.out.map aX).length 0 (x1.out.map aX).length),(8,(iQ x1.i))]) (O:=fun x1=>[.box [(uQ id.1),(uQ id.2)],.vec 2 (x1.out.map aX)]) p1 (au 2 ⟨Z,Z,Z,Z,Z,Z,t_⟩)<|fun x1 z1 h m1=>?_;unfold qg at h;refine zQ<|qR<|zM Z<|zM Z<|yS Z (cx Z Z)<|yS Z (am Z Z Z Z)<|nT ?_;refine zX Z (fun g1=>?_)<|fun g1=>?_
  ·refine zi g1 h fun h=>zk<|zT<|zQ<|zl<|zQ<|dy<|zH Z<|zH Z<|zb h fun y1 j1 h=>yE Z (zx Z Z Z cp j1 Z)<|yE Z (aa.fieldAddrC Z Z gv Z)<|yE Z (bS Z Z Z aG Z Z)<|yE Z (zD Z Z Z aG Z Z)<|yE Z (aa.eqlAgg Z Z Z Z Z gY)<|LO.nil<|zT ?_;refine zX Z (fun g2=>?_)<|fun g2=>?_
   ·refine zi g2 h fun h=>zR<|zM Z<|zM Z<|zM Z<|zb h fun y2 j2 h=>yS Z (zx Z Z Z fH j2 Z)<|yS Z (bS Z Z Z aG Z Z)<|yS Z (gU Z fH Z Z Z Z Z)<|zg h fun q1 h=>yS Z (aa.appendX aX x1.out [y2] rfl Z Z Z iC.p Z fH q1 Z)<|zM Z<|zN<|ae<|zT<|zR<|zM Z<|yS Z (am Z Z Z Z)<|mN Z ?_;cases h;exact⟨_,rfl,au 2 ⟨Z,Z,Z,Z,Z,Z,t_⟩⟩
   ·refine zo g2 h fun h=>zk<|ae<|zT<|zR<|zM Z<|yS Z (am Z Z Z Z)<|mN Z ?_;cases h;exact⟨_,rfl,au 2 ⟨Z,Z,Z,Z,Z,Z,t_⟩⟩
  ·refine zo g1 h fun h=>zq<|aj<|aj<|zy<|zT ?_;cases h;obtain rfl:=(m1 _ rfl);exact au 2 ⟨Z,Z,t_⟩
 ·have h:=a1;clear p1;refine zT<|LW.weak u1<|qR<|zM Z<|mN Z<|zr ?_;cases h;exact zf (.one (.tmp Z))<|(Conv.vecAll Z Z Z)
structure mp where
 i:Int
 id:ID
def mq (l:List Bk)(names:List ID)(low:ID)(x1:mp):Option (mp⊕mp):=(bif decide (x1.i>=0)then some (!((x1.id.1==low.1)&&((x1.id.2==low.2)&&true)))else some false).bind fun v4=>bif v4 then (ix l x1.i).bind fun y1=>(C0 names y1.Parent).bind fun v5=>some (.inl (mp.mk v5 y1.Parent))else some (.inr (mp.mk x1.i x1.id))
def FY (l:List Bk)(names:List ID)(low:ID)(id:ID):Option Bool:=(C0 names id).bind fun v1=>(bif decide (v1<0)then bif !((id.1==0)&&((id.2==0)&&true))then some (.inr false)else some (.inl ())else some (.inl ())).bind fun b_v2=>Sum.elim (fun _=>(iter (mq l names low) aY (mp.mk v1 id)).bind fun v3=>some ((v3.id.1==low.1)&&((v3.id.2==low.2)&&true))) some b_v2
theorem QE {low:ID}{id:ID}(h:FY l names low id=some r_):aq prog 222 [.slice 5 (l.map ay),.slice 2 (names.map aX),aX low,aX id] [.bool r_]:=by
 refine zh Tryz.func222 Z Z Z Z ?_;unfold FY at h;refine qR<|yS Z (bv Z Z Z Z Z)<|yS Z (bv Z Z Z Z Z)<|mN Z<|qR<|zM Z<|yS Z (zD Z Z Z aG Z Z)<|zb h fun v1 a1 h=>yS Z (yP Z Z Z (L9 a1) bR)<|mN Z ?_;obtain⟨w2,p2,q2⟩:=zB h;clear h;refine LW.cutB (b:=w2) (E:=fun v2=>[(0,(kB l)),(1,.p (.slice 2 (names.map aX))),(6,.ptr 0 0),(7,.ptr 1 0),(8,(bQ false)),(9,(iQ v1))]) (O:=fun v2=>[.box [(uQ low.1),(uQ low.2)],.box [(uQ id.1),(uQ id.2)]]) ?_<|fun v2 f2=>?_
 ·have h:=p2;refine qR<|zM Z<|yS Z (am Z Z Z Z)<|zM Z ?_;refine zc 15 Z (fun g1=>?_)<|fun g1=>?_
  ·refine zi g1 h fun h=>yV Z (gd g1 Z) (zD Z Z Z aG Z Z)<|yV Z (gd g1 Z) (aa.build Z nE Z Z Z)<|yV Z (gd g1 Z) (aa.neqAgg Z Z Z Z Z gY)<|yS Z (bA Z (aK g1 Z) Z)<|nT ?_;refine zX Z (fun g2=>?_)<|fun g2=>?_
   ·refine zi g2 h fun h=>qR<|mN Z<|LW.ret<|af ?_;cases h;have h:=bT q2;cases h;exact ba Z
   ·refine zo g2 h fun h=>zk<|zT ?_;cases h;exact⟨_,rfl,au 2 ⟨Z,Z,Z,Z,Z,Z,t_⟩⟩
  ·refine zo g1 h fun h=>yU Z (gd g1 Z) Z<|yU Z (gd g1 Z) Z<|yU Z (gd g1 Z) Z<|yS Z (aU Z (aK g1 Z) Z)<|nT<|LW.condF Z<|zk<|zT ?_;cases h;exact⟨_,rfl,au 2 ⟨Z,Z,Z,Z,Z,Z,t_⟩⟩
 ·obtain rfl:=f2;have h:=cU q2;clear p2;obtain⟨v3,p3,q3⟩:=zB h;clear h;refine LW.cut (E:=[(6,.ptr 0 0),(7,.ptr 1 0),(8,(bQ false))]) (O:=[.box [(uQ low.1),(uQ low.2)],.box [(uQ v3.id.1),(uQ v3.id.2)]]) ?_ ?_
  ·refine LW.block ?_;refine LW.iterB (E:=fun x1:mp=>[(0,(kB l)),(1,.p (.slice 2 (names.map aX))),(6,.ptr 0 0),(7,.ptr 1 0),(8,(bQ false)),(9,(iQ x1.i))]) (O:=fun x1=>[.box [(uQ low.1),(uQ low.2)],.box [(uQ x1.id.1),(uQ x1.id.2)]]) p3 (au 2 ⟨Z,Z,Z,Z,Z,Z,t_⟩)<|fun x1 z1 h m1=>?_;unfold mq at h;refine zQ ?_;obtain⟨v4,p4,q4⟩:=zB h;clear h;refine LW.cut (E:=[(0,(kB l)),(1,.p (.slice 2 (names.map aX))),(6,.ptr 0 0),(7,.ptr 1 0),(8,(bQ false)),(9,(iQ x1.i)),(26,(bQ v4))]) (O:=[.box [(uQ low.1),(uQ low.2)],.box [(uQ x1.id.1),(uQ x1.id.2)]]) ?_ ?_
   ·have h:=p4;refine zR<|zM Z<|yS Z (am Z Z Z Z)<|zM Z ?_;refine zc 22 Z (fun g3=>?_)<|fun g3=>?_
    ·refine zi g3 h fun h=>yV Z (gd g3 Z) (zD Z Z Z aG Z Z)<|yV Z (gd g3 Z) (zD Z Z Z aG Z Z)<|yV Z (gd g3 Z) (aa.neqAgg Z Z Z Z Z gY)<|yS Z (bA Z (aK g3 Z) Z)<|nT ?_;cases h;exact au 2 ⟨Z,Z,Z,Z,Z,Z,Z,t_⟩
    ·refine zo g3 h fun h=>yU Z (gd g3 Z) Z<|yU Z (gd g3 Z) Z<|yU Z (gd g3 Z) Z<|yS Z (aU Z (aK g3 Z) Z)<|nT ?_;cases h;exact au 2 ⟨Z,Z,Z,Z,Z,Z,Z,t_⟩
   ·have h:=q4;clear p4;refine zX Z (fun g4=>?_)<|fun g4=>?_
    ·refine zi g4 h fun h=>zk<|zT<|zl<|qR<|zM Z<|zM Z<|zb h fun y1 j1 h=>yS Z (zx Z Z Z cp j1 Z)<|yS Z (aa.fieldAddrC Z Z gv Z)<|yS Z (bS Z Z Z aG Z Z)<|yS Z (zs Z Z Z Z aG Z Z Z Z)<|nT<|zR<|zM Z<|yS Z (zD Z Z Z aG Z Z)<|zb h fun v5 a5 h=>yS Z (yP Z Z Z (L9 a5) bR)<|zM Z<|zN<|ae<|zT ?_;cases h;exact⟨_,rfl,au 2 ⟨Z,Z,Z,Z,Z,Z,t_⟩⟩
    ·refine zo g4 h fun h=>zq<|aj<|aj<|zy<|zT ?_;cases h;obtain rfl:=(m1 _ rfl);exact au 2 ⟨Z,Z,Z,t_⟩
  ·have h:=q3;clear p3;refine qR<|yS Z (zD Z Z Z aG Z Z)<|yS Z (zD Z Z Z aG Z Z)<|yS Z (aa.eqlAgg Z Z Z Z Z gY)<|mN Z<|zr ?_;cases h;exact ba Z
structure gn where
 i:Int
 who:List Int
def qh (l:List Bk)(names:List ID)(v:List Vt)(id:ID)(x1:gn):Option (gn⊕gn):=bif decide (x1.i<(v.length:Int))then (ix v x1.i).bind fun y1=>(FY l names id y1.Head).bind fun v2=>bif v2 then (ix v x1.i).bind fun y2=>bif bG x1.who.length [y2.From].length 8 then some (.inl (gn.mk (i64.wrap (x1.i+1)) (x1.who++[y2.From])))else none else some (.inl (gn.mk (i64.wrap (x1.i+1)) x1.who))else some (.inr (gn.mk x1.i x1.who))
def D3 (c:Cf)(l:List Bk)(names:List ID)(v:List Vt)(id:ID):Option Int:=(iter (qh l names v id) aY (gn.mk 0 ([]:List Int))).bind fun v1=>(MW c v1.who).bind fun v3=>some v3
theorem NL {id:ID}{r_:Int}(h:D3 c l names v id=some r_):aq prog 185 [gF c,.slice 5 (l.map ay),.slice 2 (names.map aX),.slice 4 (v.map aO),aX id] [.int .i64 r_]:=by
 refine zh Tryz.func185 Z Z Z Z ?_;unfold D3 at h;refine qR<|yS Z (bv Z Z Z Z Z)<|yS Z (bv Z Z Z Z Z)<|mN Z<|qR<|mN Z<|zQ<|qR<|mN Z<|LW.ent (bW.lazy (t:=11) (m:=1) Z Z Z) ?_;obtain⟨v1,p1,b1⟩:=zB h;clear h;refine LW.tail (E:=[(5,.ptr 0 0),(10,(iQ 0)),(11,(jI 2 v1.who))]) (O:=[.box (cd c),.box [(uQ id.1),(uQ id.2)],.vec 1 (v1.who.map be)]) ?_<|fun e1 K1 u1=>?_
 ·refine LW.block ?_;refine LW.iterB (E:=fun x1:gn=>[(1,(kB l)),(2,.p (.slice 2 (names.map aX))),(3,(kV v)),(5,.ptr 0 0),(9,.ptr 1 0),(10,(iQ 0)),(11,(jI 2 x1.who)),(12,(iQ x1.i))]) (O:=fun x1=>[.box (cd c),.box [(uQ id.1),(uQ id.2)],.vec 1 (x1.who.map be)]) p1 (au 3 ⟨Z,Z,Z,Z,Z,Z,Z,Z,t_⟩)<|fun x1 z1 h m1=>?_;unfold qh at h;refine zQ<|qR<|zM Z<|zM Z<|yS Z (cx Z Z)<|yS Z (am Z Z Z Z)<|nT ?_;refine zX Z (fun g1=>?_)<|fun g1=>?_
  ·refine zi g1 h fun h=>zk<|zT<|zQ<|zl<|zQ<|dy<|zH Z<|zH Z<|yE Z (zD Z Z Z aG Z Z)<|zH Z<|zH Z<|zb h fun y1 j1 h=>yE Z (zx Z Z Z bz j1 Z)<|yE Z (aa.fieldAddrC Z Z i9 Z)<|yE Z (bS Z Z Z aG Z Z)<|zb h fun v2 a2 h=>yE Z (yP Z Z Z (QE a2) wL)<|zH Z<|LO.nil<|zT<|qR<|mN Z ?_;refine zX Z (fun g2=>?_)<|fun g2=>?_
   ·refine zi g2 h fun h=>zR<|zM Z<|zM Z<|zM Z<|zb h fun y2 j2 h=>yS Z (zx Z Z Z bz j2 Z)<|yS Z (aa.fieldAddrC Z Z im Z)<|yS Z (bS Z Z Z aV Z Z)<|yS Z (gU Z dN Z Z Z Z Z)<|zg h fun q1 h=>yS Z (aa.appendX be x1.who [y2.From] rfl Z Z Z iC.p Z dN q1 Z)<|zM Z<|zN<|ae<|zT<|zR<|zM Z<|yS Z (am Z Z Z Z)<|mN Z ?_;cases h;exact⟨_,rfl,au 3 ⟨Z,Z,Z,Z,Z,Z,Z,Z,t_⟩⟩
   ·refine zo g2 h fun h=>zk<|ae<|zT<|zR<|zM Z<|yS Z (am Z Z Z Z)<|mN Z ?_;cases h;exact⟨_,rfl,au 3 ⟨Z,Z,Z,Z,Z,Z,Z,Z,t_⟩⟩
  ·refine zo g1 h fun h=>zq<|aj<|aj<|zy<|zT ?_;cases h;obtain rfl:=(m1 _ rfl);exact au 3 ⟨Z,Z,Z,t_⟩
 ·have h:=b1;clear p1;refine zT<|LW.weak u1<|qR<|yS Z (zD Z Z Z bd Z Z)<|zM Z<|zb h fun v3 a3 h=>yS Z (zC Z Z Z (by kernel_rfl) (LC.lend (Rd a3) (.cons zv (.cons (Conv.vecAll Z Z Z) .nil)) Z))<|mN Z<|zr ?_;cases h;exact ba Z
structure ge where
 most:Int
 i:Int
 best:ID
def qd (c:Cf)(l:List Bk)(names:List ID)(v:List Vt)(v1:(List ID))(x1:ge):Option (ge⊕ge):=bif decide (x1.i<(v1.length:Int))then (ix v1 x1.i).bind fun y1=>(D3 c l names v y1).bind fun v3=>(ix v1 x1.i).bind fun y2=>(FS x1.best y2).bind fun v4=>(bif x1.i==0 then some true else bif decide (v3>x1.most)then some true else bif v3==x1.most then some v4 else some false).bind fun v5=>bif v5 then (ix v1 x1.i).bind fun y3=>some (.inl (ge.mk v3 (i64.wrap (x1.i+1)) y3))else some (.inl (ge.mk x1.most (i64.wrap (x1.i+1)) x1.best))else some (.inr (ge.mk x1.most x1.i x1.best))
def FB (c:Cf)(l:List Bk)(names:List ID)(v:List Vt)(id:ID):Option (ID×Bool):=(FR l names id).bind fun v1=>(iter (qd c l names v v1) aY (ge.mk 0 0 (0,0))).bind fun v2=>some (v2.best,decide ((v1.length:Int)>0))
theorem Qo {id:ID}{r_:ID×Bool}(h:FB c l names v id=some r_):aq prog 145 [gF c,.slice 5 (l.map ay),.slice 2 (names.map aX),.slice 4 (v.map aO),aX id] [aX r_.1,.bool r_.2]:=by
 refine zh Tryz.func145 Z Z Z Z ?_;unfold FB at h;refine qR<|yS Z (bv Z Z Z Z Z)<|yS Z (bv Z Z Z Z Z)<|yS Z (ze Z gT Z Z)<|mN Z<|qR<|zM Z<|zM Z<|yS Z (zD Z Z Z aG Z Z)<|zb h fun v1 a1 h=>yS Z (yP Z Z Z (QA a1) oU)<|mN Z<|qR<|yS Z (aa.build Z nE Z Z Z)<|yS Z (ze Z gT Z Z)<|yS Z (zs Z Z Z Z aG Z Z Z Z)<|nT<|qR<|mN Z<|zQ<|qR<|mN Z ?_;obtain⟨v2,p2,q2⟩:=zB h;clear h;refine LW.tail (E:=[(10,.ptr 2 0),(11,(bQ false)),(12,.p (.slice 2 (v1.map aX))),(13,.ptr 3 0)]) (O:=[.box (cd c),.box [(uQ id.1),(uQ id.2)],.box [(uQ 0),(uQ 0)],.box [(uQ v2.best.1),(uQ v2.best.2)]]) ?_<|fun e2 K2 u2=>?_
 ·refine LW.block ?_;refine LW.iterB (E:=fun x1:ge=>[(1,(kB l)),(2,.p (.slice 2 (names.map aX))),(3,(kV v)),(5,.ptr 0 0),(10,.ptr 2 0),(11,(bQ false)),(12,.p (.slice 2 (v1.map aX))),(13,.ptr 3 0),(14,(iQ x1.most)),(15,(iQ x1.i))]) (O:=fun x1=>[.box (cd c),.box [(uQ id.1),(uQ id.2)],.box [(uQ 0),(uQ 0)],.box [(uQ x1.best.1),(uQ x1.best.2)]]) p2 (au 4 ⟨Z,Z,Z,Z,Z,Z,Z,Z,Z,Z,t_⟩)<|fun x1 z1 h m1=>?_;unfold qd at h;refine zQ<|qR<|zM Z<|zM Z<|yS Z (cx Z Z)<|yS Z (am Z Z Z Z)<|nT ?_;refine zX Z (fun g1=>?_)<|fun g1=>?_
  ·refine zi g1 h fun h=>zk<|zT<|zQ<|zl<|zQ<|dy<|yE Z (zD Z Z Z bd Z Z)<|zH Z<|zH Z<|zH Z<|zH Z<|zH Z<|zb h fun y1 j1 h=>yE Z (zx Z Z Z fH j1 Z)<|yE Z (bS Z Z Z aG Z Z)<|zb h fun v3 a3 h=>yE Z (yP Z Z Z (NL a3) Cn)<|zH Z<|LO.nil<|zT<|zQ<|dy<|yE Z (zD Z Z Z aG Z Z)<|zH Z<|zH Z<|zb h fun y2 j2 h=>yE Z (zx Z Z Z fH j2 Z)<|yE Z (bS Z Z Z aG Z Z)<|zb h fun v4 a4 h=>yE Z (yP Z Z Z (QB a4) bR)<|zH Z<|LO.nil<|zT ?_;obtain⟨v5,p5,q5⟩:=zB h;clear h;refine LW.cut (E:=[(1,(kB l)),(2,.p (.slice 2 (names.map aX))),(3,(kV v)),(5,.ptr 0 0),(10,.ptr 2 0),(11,(bQ false)),(12,.p (.slice 2 (v1.map aX))),(13,.ptr 3 0),(14,(iQ x1.most)),(15,(iQ x1.i)),(16,(iQ v3)),(58,(bQ v5))]) (O:=[.box (cd c),.box [(uQ id.1),(uQ id.2)],.box [(uQ 0),(uQ 0)],.box [(uQ x1.best.1),(uQ x1.best.2)]]) ?_ ?_
   ·have h:=p5;refine zR<|zM Z<|yS Z (am Z Z Z Z)<|zM Z ?_;refine zc 46 Z (fun g2=>?_)<|fun g2=>?_
    ·refine zi g2 h fun h=>yU Z (gd g2 Z) Z<|yU Z (gd g2 Z) Z<|yU Z (gd g2 Z) Z<|yS Z (bA Z (aK g2 Z) Z)<|zM Z<|aB Z<|aB Z<|aB Z<|aB Z<|zY Z Z Z Z Z<|aB Z<|yS Z (bA Z Z Z)<|nT ?_;cases h;exact au 4 ⟨Z,Z,Z,Z,Z,Z,Z,Z,Z,Z,Z,Z,t_⟩
    ·refine zo g2 h fun h=>yV Z (gd g2 Z) (zm Z Z)<|yV Z (gd g2 Z) (zm Z Z)<|yV Z (gd g2 Z) (am Z Z Z Z)<|yS Z (aU Z (aK g2 Z) Z)<|zM Z ?_;refine zc 51 Z (fun g3=>?_)<|fun g3=>?_
     ·refine zi g3 h fun h=>yU Z (gd g3 Z) Z<|yU Z (gd g3 Z) Z<|yU Z (gd g3 Z) Z<|yU Z (gd g3 Z) Z<|zY Z Z Z Z Z<|yU Z (gd g3 Z) Z<|yS Z (bA Z (aK g3 Z) Z)<|nT ?_;cases h;exact au 4 ⟨Z,Z,Z,Z,Z,Z,Z,Z,Z,Z,Z,Z,t_⟩
     ·refine zo g3 h fun h=>yV Z (gd g3 Z) (zm Z Z)<|yV Z (gd g3 Z) (zm Z Z)<|yV Z (gd g3 Z) (am Z Z Z Z)<|yV Z (gd g3 Z) (zm Z Z) ?_;refine zc 55 Z (fun g4=>?_)<|fun g4=>?_
      ·refine zi g4 h fun h=>yV Z (gd g4 Z) (zm Z Z)<|yV Z (gd g3 Z) (bA Z (aK g4 Z) Z)<|yS Z (aU Z (aK g3 Z) Z)<|nT ?_;cases h;exact au 4 ⟨Z,Z,Z,Z,Z,Z,Z,Z,Z,Z,Z,Z,t_⟩
      ·refine zo g4 h fun h=>yU Z (gd g4 Z) Z<|yV Z (gd g3 Z) (aU Z (aK g4 Z) Z)<|yS Z (aU Z (aK g3 Z) Z)<|nT ?_;cases h;exact au 4 ⟨Z,Z,Z,Z,Z,Z,Z,Z,Z,Z,Z,Z,t_⟩
   ·have h:=q5;clear p5;refine zX Z (fun g5=>?_)<|fun g5=>?_
    ·refine zi g5 h fun h=>qR<|zM Z<|zM Z<|zb h fun y3 j3 h=>yS Z (zx Z Z Z fH j3 Z)<|yS Z (bS Z Z Z aG Z Z)<|yS Z (zs Z Z Z Z aG Z Z Z Z)<|nT<|zR<|zM Z<|zM Z<|zN<|ae<|zT<|zR<|zM Z<|yS Z (am Z Z Z Z)<|mN Z ?_;cases h;exact⟨_,rfl,au 4 ⟨Z,Z,Z,Z,Z,Z,Z,Z,Z,Z,t_⟩⟩
    ·refine zo g5 h fun h=>zk<|ae<|zT<|zR<|zM Z<|yS Z (am Z Z Z Z)<|mN Z ?_;cases h;exact⟨_,rfl,au 4 ⟨Z,Z,Z,Z,Z,Z,Z,Z,Z,Z,t_⟩⟩
  ·refine zo g1 h fun h=>zq<|aj<|aj<|zy<|zT ?_;cases h;obtain rfl:=(m1 _ rfl);exact au 4 ⟨Z,Z,Z,Z,t_⟩
 ·have h:=q2;clear p2;refine zT<|LW.weak u2<|qR<|yS Z (zD Z Z Z aG Z Z)<|zM Z<|yS Z (cx Z Z)<|yS Z (am Z Z Z Z)<|yS Z (zs Z Z Z Z aG Z Z Z Z)<|mN Z<|zr ?_;cases h;exact zf (.two (eh Z Z) (.tmp Z))<|⟨_,rfl,bR⟩
def xY (l:List Bk)(names:List ID):Option Bool:=(MZ l names).bind fun v1=>some v1
theorem L0 (h:xY l names=some r_):aq prog 144 [.slice 5 (l.map ay),.slice 2 (names.map aX)] [.bool r_]:=by
 refine zh Tryz.func144 Z Z Z Z ?_;unfold xY at h;refine qR<|mN Z<|qR<|zM Z<|zM Z<|zb h fun v1 a1 h=>yS Z (yP Z Z Z (Rg a1) bR)<|mN Z<|qR<|zM Z<|mN Z<|zr ?_;cases h;exact ba Z
structure nq where
 i:Int
 id:ID
def nr (c:Cf)(l:List Bk)(v:List Vt)(v1:(List ID))(v2:Bool)(x1:nq):Option (nq⊕nq):=(bif decide (x1.i<=(l.length:Int))then some v2 else some false).bind fun v4=>bif v4 then (FB c l v1 v x1.id).bind fun v5=>bif !v5.2 then some (.inr (nq.mk x1.i x1.id))else some (.inl (nq.mk (i64.wrap (x1.i+1)) v5.1))else some (.inr (nq.mk x1.i x1.id))
def Nf (c:Cf)(l:List Bk)(v:List Vt):Option ID:=(Ko l).bind fun v1=>(xY l v1).bind fun v2=>(iter (nr c l v v1 v2) aY (nq.mk 0 (0,0))).bind fun v3=>some v3.id
theorem Rv {r_:ID}(h:Nf c l v=some r_):aq prog 100 [gF c,.slice 5 (l.map ay),.slice 4 (v.map aO)] [aX r_]:=by
 refine zh Tryz.func100 Z Z Z Z ?_;unfold Nf at h;refine qR<|yS Z (bv Z Z Z Z Z)<|yS Z (ze Z gT Z Z)<|nT<|qR<|yS Z (aa.build Z nE Z Z Z)<|yS Z (ze Z gT Z Z)<|yS Z (zs Z Z Z Z aG Z Z Z Z)<|nT<|qR<|zM Z<|zb h fun v1 a1 h=>yS Z (yP Z Z Z (P7 a1) dB)<|mN Z<|qR<|zM Z<|zM Z<|zb h fun v2 a2 h=>yS Z (yP Z Z Z (L0 a2) bR)<|mN Z<|zQ<|qR<|mN Z ?_;obtain⟨v3,p3,q3⟩:=zB h;clear h;refine LW.tail (E:=[(6,.ptr 1 0),(7,.ptr 2 0)]) (O:=[.box (cd c),.box [(uQ 0),(uQ 0)],.box [(uQ v3.id.1),(uQ v3.id.2)]]) ?_<|fun e3 K3 u3=>?_
 ·refine LW.block ?_;refine LW.iterB (E:=fun x1:nq=>[(1,(kB l)),(2,(kV v)),(3,.ptr 0 0),(6,.ptr 1 0),(7,.ptr 2 0),(8,.p (.slice 2 (v1.map aX))),(9,(bQ v2)),(10,(iQ x1.i))]) (O:=fun x1=>[.box (cd c),.box [(uQ 0),(uQ 0)],.box [(uQ x1.id.1),(uQ x1.id.2)]]) p3 (au 3 ⟨Z,Z,Z,Z,Z,Z,Z,Z,t_⟩)<|fun x1 z1 h m1=>?_;unfold nr at h;refine zQ ?_;obtain⟨v4,p4,q4⟩:=zB h;clear h;refine LW.cut (E:=[(1,(kB l)),(2,(kV v)),(3,.ptr 0 0),(6,.ptr 1 0),(7,.ptr 2 0),(8,.p (.slice 2 (v1.map aX))),(9,(bQ v2)),(10,(iQ x1.i)),(25,(bQ v4))]) (O:=[.box (cd c),.box [(uQ 0),(uQ 0)],.box [(uQ x1.id.1),(uQ x1.id.2)]]) ?_ ?_
  ·have h:=p4;refine zR<|zM Z<|zM Z<|yS Z (cx Z Z)<|yS Z (am Z Z Z Z)<|zM Z ?_;refine zc 23 Z (fun g1=>?_)<|fun g1=>?_
   ·refine zi g1 h fun h=>yV Z (gd g1 Z) (zm Z Z)<|yS Z (bA Z (aK g1 Z) Z)<|nT ?_;cases h;exact au 3 ⟨Z,Z,Z,Z,Z,Z,Z,Z,Z,t_⟩
   ·refine zo g1 h fun h=>yU Z (gd g1 Z) Z<|yS Z (aU Z (aK g1 Z) Z)<|nT ?_;cases h;exact au 3 ⟨Z,Z,Z,Z,Z,Z,Z,Z,Z,t_⟩
  ·have h:=q4;clear p4;refine zX Z (fun g2=>?_)<|fun g2=>?_
   ·refine zi g2 h fun h=>zk<|zT<|zQ<|zl<|qR<|yS Z (zD Z Z Z bd Z Z)<|zM Z<|zM Z<|zM Z<|yS Z (zD Z Z Z aG Z Z)<|zb h fun v5 a5 h=>yS Z (yP Z Z Z (Qo a5) Cn)<|zM Z<|yS Z (eZ Z Z Z)<|yS Z (eZ Z Z Z)<|yS Z (ze Z gT Z Z)<|yS Z (zs Z Z Z Z aG Z Z Z Z)<|mN Z<|zQ<|qR<|zM Z<|yS Z (aa.not Z Z)<|nT ?_;refine zX Z (fun g3=>?_)<|fun g3=>?_
    ·refine zi g3 h fun h=>zq<|aj<|iP (by decide)<|aj<|aj<|zy<|zT ?_;cases h;obtain rfl:=(m1 _ rfl);exact au 3 ⟨Z,Z,t_⟩
    ·refine zo g3 h fun h=>zk<|zT<|zR<|yS Z (zD Z Z Z aG Z Z)<|yS Z (zs Z Z Z Z aG Z Z Z Z)<|zN<|ae<|zT<|zR<|zM Z<|yS Z (am Z Z Z Z)<|mN Z ?_;cases h;exact⟨_,rfl,au 3 ⟨Z,Z,Z,Z,Z,Z,Z,Z,t_⟩⟩
   ·refine zo g2 h fun h=>zq<|aj<|aj<|zy<|zT ?_;cases h;obtain rfl:=(m1 _ rfl);exact au 3 ⟨Z,Z,t_⟩
 ·have h:=q3;clear p3;refine zT<|LW.weak u3<|qR<|yS Z (zD Z Z Z aG Z Z)<|yS Z (zs Z Z Z Z aG Z Z Z Z)<|nT<|zr ?_;cases h;exact zf (.one (eh Z Z)) zv
def FO (x:Vt)(_:Cf)(l:List Bk)(id:ID)(m:List (ID×Bool)):Option (Bool×(List (ID×Bool))):=bif !((ak m x.Head).isSome)then bif few l then some (decide (ap (an l x.Head) id>=0),bK m x.Head (decide (ap (an l x.Head) id>=0)))else none else some ((ak m x.Head).getD false,m)
theorem OO {x:Vt}{id:ID}{r_:Bool×(List (ID×Bool))}(h:FO x c l id m=some r_):LC prog 202 [.p (aO x),.ptr 4 0,.ptr 1 0,.ptr 2 0] [.box (cd c),.box [(kB l)],.box [(uQ id.1),(uQ id.2)],.map (ar aX (fun v=>(bQ v)) m),.box [.map 3]] (Is (bQ r_.1) [.box (cd c),.box [(kB l)],.box [(uQ id.1),(uQ id.2)],.map (ar aX (fun v=>(bQ v)) r_.2),.box [.map 3]]):=by
 refine eP Tryz.func202 Z Z Z ?_;unfold FO at h;refine qR<|yS Z (bv Z Z Z Z Z)<|mN Z<|qR<|yS Z (zD Z Z Z Iy Z Z)<|yS Z (zA Z Z i9)<|yS Z (zD Z Z Z aG Z Z) ?_;refine yS Z (aa.getX (f:=aX) (g:=(fun v=>(bQ v))) x.Head false f9 Z Z Z Z K1 PW Z Z) ?_;refine zM Z<|yS Z (eZ Z Z Z)<|yS Z (eZ Z Z Z)<|zM Z<|mN Z<|zQ<|qR<|zM Z<|yS Z (aa.not Z Z)<|nT ?_;refine zX Z (fun g1=>?_)<|fun g1=>?_
 ·refine zi g1 h fun h=>zQ<|dy<|yE Z (zD Z Z Z bL Z Z)<|yE Z (zA Z Z i9)<|yE Z (zD Z Z Z aG Z Z)<|zg h fun q1 h=>yE Z (yP Z Z Z (QM (l:=l) (id:=x.Head) (BP q1)) bR)<|yE Z (zD Z Z Z aG Z Z)<|yE Z (zC Z Z Z (by kernel_rfl) (zp (RA (l:=(an l x.Head)) (v:=id)) bR))<|zH Z<|LO.nil<|zT<|zR<|yS Z (zD Z Z Z Iy Z Z)<|yS Z (zA Z Z i9)<|yS Z (zD Z Z Z aG Z Z)<|zM Z ?_;refine yS Z (aa.setX (f:=aX) (g:=(fun v=>(bQ v))) x.Head (decide (ap (an l x.Head) id>=0)) f9 (.inl Z) Z Z Z Z Z K1 Z) ?_;refine nT<|qR<|zM Z<|mN Z<|zr ?_;cases h;refine bN (env':=[(5,.p (.bool (decide (ap (an l x.Head) id>=0))))]) (H':=[.box (cd c),.box [(kB l)],.box [(uQ id.1),(uQ id.2)],.map (ar aX (fun v=>(bQ v)) (bK m x.Head (decide (ap (an l x.Head) id>=0)))),.box [.map 3]]) (zW 5 ⟨Z,t_⟩ Z Z Z (zL Z (zL Z (zL Z (zL (ai (fun _=>rfl) _) (zL Z Z)))))) (.one (.tmp Z)) ?_;exact⟨rfl,rfl⟩
 ·refine zo g1 h fun h=>zk<|zT<|qR<|zM Z<|mN Z<|zr ?_;cases h;refine bN (env':=[(5,.p (.bool ((ak m x.Head).getD false)))]) (H':=[.box (cd c),.box [(kB l)],.box [(uQ id.1),(uQ id.2)],.map (ar aX (fun v=>(bQ v)) m),.box [.map 3]]) (zW 5 ⟨Z,t_⟩ Z Z Z (zL Z (zL Z (zL Z (zL (ai (fun _=>rfl) _) (zL Z Z)))))) (.one (.tmp Z)) ?_;exact⟨rfl,rfl⟩
structure kw where
 t12:Int
 o3:List (ID×Bool)
 out:List Int
def qe (v:List Vt)(c:Cf)(l:List Bk)(id:ID)(x1:kw):Option (kw⊕kw):=bif decide (x1.t12<(v.length:Int))then (ix v x1.t12).bind fun y1=>(FO y1 c l id x1.o3).bind fun v2=>bif v2.1 then (Jj y1).bind fun v3=>bif bG x1.out.length [v3].length 8 then some (.inl (kw.mk (i64.wrap (x1.t12+1)) v2.2 (x1.out++[v3])))else none else some (.inl (kw.mk (i64.wrap (x1.t12+1)) v2.2 x1.out))else some (.inr (kw.mk x1.t12 x1.o3 x1.out))
def FQ (v:List Vt)(c:Cf)(l:List Bk)(id:ID)(m:List (ID×Bool)):Option (List Int×List (ID×Bool)):=(iter (qe v c l id) aY (kw.mk 0 m ([]:List Int))).bind fun v1=>some (v1.out,v1.o3)
theorem OP {id:ID}{r_:List Int×List (ID×Bool)}(h:FQ v c l id m=some r_):LC prog 204 [(kV v),.fn 202 [] [.ptr 4 0,.ptr 1 0,.ptr 2 0],.fn 205 [] []] [.box (cd c),.box [(kB l)],.box [(uQ id.1),(uQ id.2)],.map (ar aX (fun v=>(bQ v)) m),.box [.map 3]] (Is (kI r_.1) [.box (cd c),.box [(kB l)],.box [(uQ id.1),(uQ id.2)],.map (ar aX (fun v=>(bQ v)) r_.2),.box [.map 3]]):=by
 refine eP Tryz.func204 Z Z Z ?_;unfold FQ at h;refine qR<|mN Z<|qR<|mN Z<|zQ<|qR<|zM Z<|yS Z (cx Z Z)<|mN Z<|LW.ent (bW.lazy (t:=7) (m:=1) Z Z Z) ?_;obtain⟨v1,p1,b1⟩:=zB h;clear h;refine LW.tail (E:=[(6,.zs),(7,(jI 5 v1.out))]) (O:=[.box (cd c),.box [(kB l)],.box [(uQ id.1),(uQ id.2)],.map (ar aX (fun v=>(bQ v)) v1.o3),.box [.map 3],.vec 1 (v1.out.map be)]) ?_<|fun e1 K1 u1=>?_
 ·refine LW.block ?_;refine LW.iterB (E:=fun x1:kw=>[(1,.fn 202 [] [.ptr 4 0,.ptr 1 0,.ptr 2 0]),(2,.fn 205 [] []),(6,.zs),(7,(jI 5 x1.out)),(10,(kV v)),(11,.p (.int .i64 (v.length:Int))),(12,(iQ x1.t12))]) (O:=fun x1=>[.box (cd c),.box [(kB l)],.box [(uQ id.1),(uQ id.2)],.map (ar aX (fun v=>(bQ v)) x1.o3),.box [.map 3],.vec 1 (x1.out.map be)]) p1 (zW 6 ⟨Z,Z,Z,Z,Z,Z,Z,t_⟩ Z Z Z (zL Z (zL Z (zL Z (zL (ai (fun _=>rfl) _) (zL Z (zL Z Z)))))))<|fun x1 z1 h m1=>?_;unfold qe at h;refine qR<|yS Z (am Z Z Z Z)<|nT<|zQ ?_;refine zX Z (fun g1=>?_)<|fun g1=>?_
  ·refine zi g1 h fun h=>zk<|zT<|zQ<|zl<|qR<|zb h fun y1 j1 h=>yS Z (zx Z Z Z bz j1 Z)<|yS Z (bS Z Z Z cz Z Z)<|yS Z (ze Z vu Z Z)<|yS Z (zs Z Z Z Z cz Z Z Z Z)<|nT<|qR<|zM Z<|yS Z (zD Z Z Z cz Z Z)<|zb h fun v2 a2 h=>?_;refine yS Z (zC Z Z Z (by kernel_rfl) (LC.pre (OO a2) Z (zL Z (zL Z (zL Z (zL (ai (fun _=>rfl) _) (zL Z Z))))) Z)) ?_;refine nT ?_;refine zX Z (fun g2=>?_)<|fun g2=>?_
   ·refine zi g2 h fun h=>zR<|zM Z<|zM Z<|yS Z (zD Z Z Z cz Z Z)<|zb h fun v3 a3 h=>yS Z (yP Z Z Z (Qz a3) dB)<|yS Z (gU Z dN Z Z Z Z Z)<|zg h fun q1 h=>yS Z (aa.appendX be x1.out [v3] rfl Z Z Z iC.p Z dN q1 Z)<|zM Z<|zN<|ae<|zT<|zR<|yS Z (am Z Z Z Z)<|mN Z ?_;cases h;exact⟨_,rfl,zW 6 ⟨Z,Z,Z,Z,Z,Z,Z,t_⟩ Z Z Z (zL Z (zL Z (zL Z (zL (ai (fun _=>rfl) _) (zL Z (zL Z Z))))))⟩
   ·refine zo g2 h fun h=>zk<|ae<|zT<|zR<|yS Z (am Z Z Z Z)<|mN Z ?_;cases h;exact⟨_,rfl,zW 6 ⟨Z,Z,Z,Z,Z,Z,Z,t_⟩ Z Z Z (zL Z (zL Z (zL Z (zL (ai (fun _=>rfl) _) (zL Z (zL Z Z))))))⟩
  ·refine zo g1 h fun h=>zq<|aj<|aj<|zy<|zT ?_;cases h;obtain rfl:=(m1 _ rfl);exact zW 6 ⟨Z,Z,t_⟩ Z Z Z<|zL Z<|zL Z<|zL Z<|zL (ai (fun _=>rfl) _)<|zL Z<|zL Z Z
 ·have h:=b1;clear p1;refine zT<|LW.weak u1<|qR<|zM Z<|mN Z ?_;refine LW.weak (env':=[(6,(jI 5 v1.out))]) (H':=[.box (cd c),.box [(kB l)],.box [(uQ id.1),(uQ id.2)],.map (ar aX (fun v=>(bQ v)) v1.o3),.box [.map 3],.vec 1 (v1.out.map be)]) (zW 6 ⟨Z,t_⟩ Z Z Z (zL Z (zL Z (zL Z (zL (ai (fun _=>rfl) _) (zL Z (zL Z Z))))))) ?_;refine LW.ent (bW.frz (t:=6) (env':=[]) (H0:=[.box (cd c),.box [(kB l)],.box [(uQ id.1),(uQ id.2)],.map (ar aX (fun v=>(bQ v)) v1.o3),.box [.map 3]]) Z Z Z Z Z trivial Z (zL Z (zL Z (zL Z (zL (ai (fun _=>rfl) _) (zL Z Z)))))) ?_;refine LW.ret ?_;cases h;exact aD (.one (.tmp Z))<|⟨rfl,rfl⟩
def DY (c:Cf)(l:List Bk)(v:List Vt)(id:ID):Option Int:=(FQ v c l id []).bind fun v1=>(MV c v1.1).bind fun v2=>some v2
theorem NG {id:ID}{r_:Int}(h:DY c l v id=some r_):aq prog 164 [gF c,.slice 5 (l.map ay),.slice 4 (v.map aO),aX id] [.int .i64 r_]:=by
 refine zh Tryz.func164 Z Z Z Z ?_;unfold DY at h;refine qR<|yS Z (bv Z Z Z Z Z)<|yS Z (bv Z Z Z Z Z)<|yS Z (bv Z Z Z Z Z)<|mN Z<|qR<|yS Z (aa.makeMap Z Z Z)<|yS Z (ze Z P0 Z Z)<|yS Z (zs Z Z Z Z Iy Z Z Z Z)<|nT<|qR<|yS Z (aa.makeFunc Z Z Z)<|mN Z<|zQ<|fC<|yF Z (zd Z Z Z bd Z Z) Z<|zK Z<|zK Z<|zb h fun v1 a1 h=>?_;refine yF Z (ch.all (s:=some (3,.map (ar aX (fun v=>(bQ v)) v1.2))) (yC Z Z Z (OP a1)) Z Z Z) Z ?_;obtain⟨v2,a2,h⟩:=zB h;refine yF (F:=[]) (s:=none) Z (fun H _=>yP Z Z Z (Rc a2) bR) Z ?_;refine zK Z ?_;refine LF.nil ⟨by kernel_rfl,?_⟩;refine zT<|zr ?_;cases h;exact ba Z
structure iZ where
 t19:Int
 best:Rk
def ub (c:Cf)(l:List Bk)(v:List Vt)(v1:(List ID))(x1:iZ):Option (iZ⊕iZ):=bif decide (x1.t19<(v1.length:Int))then (ix v1 x1.t19).bind fun y1=>(DY c l v y1).bind fun v3=>(FA (Rk.mk v3 y1) x1.best).bind fun v4=>bif v4 then some (.inl (iZ.mk (i64.wrap (x1.t19+1)) (Rk.mk v3 y1)))else some (.inl (iZ.mk (i64.wrap (x1.t19+1)) x1.best))else some (.inr (iZ.mk x1.t19 x1.best))
def Nb (c:Cf)(l:List Bk)(v:List Vt)(id:ID):Option (ID×Bool):=(M8 l id).bind fun v1=>(iter (ub c l v v1) aY (iZ.mk 0 (Rk.mk (-1) (0,0)))).bind fun v2=>some (v2.best.id,decide (v2.best.n>=0))
theorem Rt {id:ID}{r_:ID×Bool}(h:Nb c l v id=some r_):aq prog 139 [gF c,.slice 5 (l.map ay),.slice 4 (v.map aO),aX id] [aX r_.1,.bool r_.2]:=by
 refine zh Tryz.func139 Z Z Z Z ?_;unfold Nb at h;refine qR<|yS Z (bv Z Z Z Z Z)<|yS Z (bv Z Z Z Z Z)<|yS Z (ze Z gT Z Z)<|mN Z<|qR<|yS Z (aa.build Z Ks Z Z Z)<|yS Z (ze Z Lf Z Z)<|yS Z (zs Z Z Z Z tb Z Z Z Z)<|nT<|zQ<|qR<|zM Z<|yS Z (zD Z Z Z aG Z Z)<|zb h fun v1 a1 h=>yS Z (yP Z Z Z (Rq a1) bR)<|yS Z (cx Z Z)<|mN Z ?_;obtain⟨v2,p2,q2⟩:=zB h;clear h;refine LW.tail (E:=[(8,.ptr 2 0),(9,(bQ false)),(10,.ptr 3 0)]) (O:=[.box (cd c),.box [(uQ id.1),(uQ id.2)],.box [(uQ 0),(uQ 0)],.box [(iQ v2.best.n),(uQ v2.best.id.1),(uQ v2.best.id.2)]]) ?_<|fun e2 K2 u2=>?_
 ·refine LW.block ?_;refine LW.iterB (E:=fun x1:iZ=>[(1,(kB l)),(2,(kV v)),(4,.ptr 0 0),(8,.ptr 2 0),(9,(bQ false)),(10,.ptr 3 0),(17,.p (.slice 2 (v1.map aX))),(18,.p (.int .i64 (v1.length:Int))),(19,(iQ x1.t19))]) (O:=fun x1=>[.box (cd c),.box [(uQ id.1),(uQ id.2)],.box [(uQ 0),(uQ 0)],.box [(iQ x1.best.n),(uQ x1.best.id.1),(uQ x1.best.id.2)]]) p2 (au 4 ⟨Z,Z,Z,Z,Z,Z,Z,Z,Z,t_⟩)<|fun x1 z1 h m1=>?_;unfold ub at h;refine qR<|yS Z (am Z Z Z Z)<|nT<|zQ ?_;refine zX Z (fun g1=>?_)<|fun g1=>?_
  ·refine zi g1 h fun h=>zk<|zT<|zQ<|zl<|qR<|zb h fun y1 j1 h=>yS Z (zx Z Z Z fH j1 Z)<|yS Z (bS Z Z Z aG Z Z)<|yS Z (ze Z gT Z Z)<|yS Z (zs Z Z Z Z aG Z Z Z Z)<|nT<|zQ<|LW.ent (bW.slot Z)<|fC<|yF Z (zd Z Z Z bd Z Z) Z<|zK Z<|zK Z<|yF Z (zd Z Z Z aG Z Z) Z<|zb h fun v3 a3 h=>?_;refine yF (F:=[]) (s:=none) Z (fun H _=>yP Z Z Z (NG a3) wL) Z ?_;refine yF Z (zd Z Z Z aG Z Z) Z<|yG Z (fun H _=>aa.build Z Ks Z Z Z)<|yF Z (ch.alloc Z Lf (id:=5) Z) Z<|yF Z (zt Z Z Z Z tb Z Z Z) Z ?_;refine LF.nil ⟨by kernel_rfl,?_⟩;refine zT<|qR<|yS Z (zD Z Z Z tb Z Z)<|yS Z (zD Z Z Z tb Z Z)<|zb h fun v4 a4 h=>yS Z (yP Z Z Z (Qn a4) bR)<|nT ?_;refine zX Z (fun g2=>?_)<|fun g2=>?_
   ·refine zi g2 h fun h=>zR<|yS Z (zD Z Z Z tb Z Z)<|yS Z (zs Z Z Z Z tb Z Z Z Z)<|zN<|ae<|zT<|zR<|yS Z (am Z Z Z Z)<|mN Z ?_;cases h;exact⟨_,rfl,au 4 ⟨Z,Z,Z,Z,Z,Z,Z,Z,Z,t_⟩⟩
   ·refine zo g2 h fun h=>zk<|ae<|zT<|zR<|yS Z (am Z Z Z Z)<|mN Z ?_;cases h;exact⟨_,rfl,au 4 ⟨Z,Z,Z,Z,Z,Z,Z,Z,Z,t_⟩⟩
  ·refine zo g1 h fun h=>zq<|aj<|aj<|zy<|zT ?_;cases h;obtain rfl:=(m1 _ rfl);exact au 4 ⟨Z,Z,Z,t_⟩
 ·have h:=q2;clear p2;refine zT<|LW.weak u2<|zQ<|fC<|yG Z (fun H _=>zA Z Z xk)<|yF Z (zd Z Z Z aG Z Z) Z<|yG Z (fun H _=>zA Z Z qN)<|yF Z (zd Z Z Z aV Z Z) Z<|yG Z (fun H _=>am Z Z Z Z)<|yF Z (zt Z Z Z Z aG Z Z Z) Z<|zK Z ?_;refine LF.nil ⟨by kernel_rfl,?_⟩;refine zT<|zr ?_;cases h;exact zf (.two (eh Z Z) (.tmp Z))<|⟨_,rfl,bR⟩
structure pw where
 id:ID
def px (c:Cf)(l:List Bk)(v:List Vt)(x1:pw):Option (pw⊕pw):=(Nb c l v x1.id).bind fun v2=>bif !v2.2 then some (.inr (pw.mk x1.id))else some (.inl (pw.mk v2.1))
def Nc (c:Cf)(l:List Bk)(v:List Vt):Option ID:=(iter (px c l v) aY (pw.mk (0,0))).bind fun v1=>some v1.id
theorem Ru {r_:ID}(h:Nc c l v=some r_):aq prog 98 [gF c,.slice 5 (l.map ay),.slice 4 (v.map aO)] [aX r_]:=by
 refine zh Tryz.func98 Z Z Z Z ?_;unfold Nc at h;refine qR<|yS Z (bv Z Z Z Z Z)<|yS Z (ze Z gT Z Z)<|nT<|LW.scope<|zQ<|LW.label<|zT ?_;obtain⟨v1,p1,q1⟩:=zB h;clear h;refine LW.cut (E:=[(6,.ptr 1 0)]) (O:=[.box (cd c),.box [(uQ v1.id.1),(uQ v1.id.2)]]) ?_ ?_
 ·refine LW.block ?_;refine LW.iterB (E:=fun x1:pw=>[(1,(kB l)),(2,(kV v)),(3,.ptr 0 0),(6,.ptr 1 0)]) (O:=fun x1=>[.box (cd c),.box [(uQ x1.id.1),(uQ x1.id.2)]]) p1 (au 2 ⟨Z,Z,Z,Z,t_⟩)<|fun x1 z1 h m1=>?_;unfold px at h;refine zl<|qR<|yS Z (zD Z Z Z bd Z Z)<|zM Z<|zM Z<|yS Z (zD Z Z Z aG Z Z)<|zb h fun v2 a2 h=>yS Z (yP Z Z Z (Rt a2) wL)<|zM Z<|yS Z (eZ Z Z Z)<|yS Z (eZ Z Z Z)<|yS Z (ze Z gT Z Z)<|yS Z (zs Z Z Z Z aG Z Z Z Z)<|mN Z<|zQ<|qR<|zM Z<|yS Z (aa.not Z Z)<|nT ?_;refine zX Z (fun g1=>?_)<|fun g1=>?_
  ·refine zi g1 h fun h=>zq<|aj<|iP (by decide)<|aj<|zy<|zT ?_;cases h;obtain rfl:=(m1 _ rfl);exact au 2 ⟨Z,t_⟩
  ·refine zo g1 h fun h=>zk<|zT<|zR<|yS Z (zD Z Z Z aG Z Z)<|yS Z (zs Z Z Z Z aG Z Z Z Z)<|zN<|ae<|zT ?_;cases h;exact⟨_,rfl,au 2 ⟨Z,Z,Z,Z,t_⟩⟩
 ·have h:=q1;clear p1;refine qR<|yS Z (zD Z Z Z aG Z Z)<|yS Z (zs Z Z Z Z aG Z Z Z Z)<|nT<|zr<|H5 ?_;cases h;exact zf (.one (eh Z Z)) zv
theorem Ab {l:List α}(hb:bG 0 l.length 40=true):LC prog 75 [.p (.slice 5 (l.map f))] [] (Is (.vec 5 0 (l.map f).length 0 (l.map f).length) [.vec 5 (l.map f)]):=by
 refine eP Tryz.func75 Z Z Z ?_;refine qR<|yS Z (za Z Z)<|nT<|zQ<|qR<|yS Z (zm Z Z)<|ax.cons Z Z Z (aa.eqNil Z Z Z cp) ?_;rintro _ _ ⟨rfl,b,rfl,hn⟩;refine nT ?_;refine zX Z (fun g=>?_)<|fun g=>?_
 ·have hl:l=[]:=List.map_eq_nil_iff.1 (hn g);subst hl;exact qR<|yS Z (za Z Z)<|nT<|LW.ent (bW.lazy (t:=2) (m:=5) Z Z Z)<|zr<|af<|aD (.one (.tmp Z)) ⟨rfl,rfl⟩
 ·refine LW.skip ?_;exact zT<|qR<|yS Z (aa.buildSlice0 Z cp)<|yS Z (zm Z Z)<|yS Z (aa.appendZX f l Z Z Z Z iC.p Z cp hb Z)<|yS Z (za Z Z)<|nT<|zr<|aD (.one (.tmp Z)) ⟨rfl,rfl⟩
theorem Ad {l:List α}(hb:bG 0 l.length 32=true):LC prog 76 [.p (.slice 4 (l.map f))] [] (Is (.vec 4 0 (l.map f).length 0 (l.map f).length) [.vec 4 (l.map f)]):=by
 refine eP Tryz.func76 Z Z Z ?_;refine qR<|yS Z (za Z Z)<|nT<|zQ<|qR<|yS Z (zm Z Z)<|ax.cons Z Z Z (aa.eqNil Z Z Z bz) ?_;rintro _ _ ⟨rfl,b,rfl,hn⟩;refine nT ?_;refine zX Z (fun g=>?_)<|fun g=>?_
 ·have hl:l=[]:=List.map_eq_nil_iff.1 (hn g);subst hl;exact qR<|yS Z (za Z Z)<|nT<|LW.ent (bW.lazy (t:=2) (m:=4) Z Z Z)<|zr<|af<|aD (.one (.tmp Z)) ⟨rfl,rfl⟩
 ·refine LW.skip ?_;exact zT<|qR<|yS Z (aa.buildSlice0 Z bz)<|yS Z (zm Z Z)<|yS Z (aa.appendZX f l Z Z Z Z iC.p Z bz hb Z)<|yS Z (za Z Z)<|nT<|zr<|aD (.one (.tmp Z)) ⟨rfl,rfl⟩
def Ng (c:Cf)(b:Bk):Option Bool:=(Jr c b.Slot).bind fun v1=>bif decide (v1>=0)then bif v1==b.From then some (!((((nm b).1)==0)&&((((nm b).2)==0)&&true)))else some false else some false
theorem Rw {b:Bk}(h:Ng c b=some r_):aq prog 80 [gF c,ay b] [.bool r_]:=by
 refine zh Tryz.func80 Z Z Z Z ?_;unfold Ng at h;refine qR<|yS Z (bv Z Z Z Z Z)<|yS Z (bv Z Z Z Z Z)<|mN Z<|qR<|yS Z (zD Z Z Z bd Z Z)<|yS Z (zA Z Z fK)<|yS Z (zD Z Z Z aV Z Z)<|zb h fun v1 a1 h=>yS Z (yP Z Z Z (P4 a1) bR)<|mN Z<|qR<|zM Z<|yS Z (am Z Z Z Z)<|zM Z ?_;refine zc 12 Z (fun g1=>?_)<|fun g1=>?_
 ·refine zi g1 h fun h=>yV Z (gd g1 Z) (zm Z Z)<|yV Z (gd g1 Z) (zA Z Z sb)<|yV Z (gd g1 Z) (zD Z Z Z aV Z Z)<|yV Z (gd g1 Z) (am Z Z Z Z)<|yS Z (bA Z (aK g1 Z) Z)<|zM Z ?_;refine zc 18 Z (fun g2=>?_)<|fun g2=>?_
  ·refine zi g2 h fun h=>yV Z (gd g2 Z) (zD Z Z Z ca Z Z)<|yV Z (gd g2 Z) (yP Z Z Z (M0 (b:=b)) dB)<|yV Z (gd g2 Z) (aa.build Z nE Z Z Z)<|yV Z (gd g2 Z) (aa.neqAgg Z Z Z Z Z gY)<|yS Z (bA Z (aK g2 Z) Z)<|mN Z<|zr ?_;cases h;exact ba Z
  ·refine zo g2 h fun h=>yU Z (gd g2 Z) Z<|yU Z (gd g2 Z) Z<|yU Z (gd g2 Z) Z<|yU Z (gd g2 Z) Z<|yS Z (aU Z (aK g2 Z) Z)<|mN Z<|zr ?_;cases h;exact ba Z
 ·refine zo g1 h fun h=>yU Z (gd g1 Z) Z<|yU Z (gd g1 Z) Z<|yU Z (gd g1 Z) Z<|yU Z (gd g1 Z) Z<|yS Z (aU Z (aK g1 Z) Z)<|zM Z<|aB Z<|aB Z<|aB Z<|aB Z<|yS Z (aU Z Z Z)<|mN Z<|zr ?_;cases h;exact ba Z
def Nh (c:Cf)(v:Vt):Option Bool:=(MX c v.Slot v.From).bind fun v1=>some v1
theorem Rx {v:Vt}(h:Nh c v=some r_):aq prog 82 [gF c,aO v] [.bool r_]:=by
 refine zh Tryz.func82 Z Z Z Z ?_;unfold Nh at h;refine qR<|yS Z (bv Z Z Z Z Z)<|yS Z (bv Z Z Z Z Z)<|mN Z<|qR<|yS Z (zD Z Z Z bd Z Z)<|yS Z (zA Z Z i8)<|yS Z (zD Z Z Z aV Z Z)<|yS Z (zA Z Z im)<|yS Z (zD Z Z Z aV Z Z)<|zb h fun v1 a1 h=>yS Z (yP Z Z Z (Re a1) oU)<|mN Z<|zr ?_;cases h;exact ba Z
structure iz where
 t8:Int
def oB (s:List Bk)(v:Bk)(x1:iz):Option (iz⊕(iz⊕Int)):=bif decide (x1.t8<(s.length:Int))then (ix s x1.t8).bind fun y1=>bif ((v.Slot==y1.Slot)&&((v.From==y1.From)&&((v.Parent.1==y1.Parent.1)&&((v.Parent.2==y1.Parent.2)&&((v.Salt==y1.Salt)&&true)))))then some (.inr (.inr x1.t8))else some (.inl (iz.mk (i64.wrap (x1.t8+1))))else some (.inr (.inl (iz.mk x1.t8)))
def Jp (s:List Bk)(v:Bk):Option Int:=(iter (oB s v) aY (iz.mk 0)).bind fun b_v1=>Sum.elim (fun _=>some (-1)) some b_v1
theorem QF {v:Bk}{r_:Int}(h:Jp s v=some r_):aq prog 149 [.slice 5 (s.map ay),ay v] [.int .i64 r_]:=by
 refine zh Tryz.func149 Z Z Z Z ?_;unfold Jp at h;refine qR<|yS Z (bv Z Z Z Z Z)<|mN Z<|zQ<|qR<|zM Z<|yS Z (cx Z Z)<|mN Z ?_;obtain⟨w1,p1,q1⟩:=zB h;clear h;refine LW.tailB (b:=w1) (E:=fun v1=>[(4,(iQ 0))]) (O:=fun v1=>[.box [(iQ v.Slot),(iQ v.From),(uQ v.Parent.1),(uQ v.Parent.2),(uQ v.Salt)]]) ?_<|fun v1 f1 e1 K1 u1=>?_
 ·refine LW.block ?_;refine LW.iterB (E:=fun x1:iz=>[(0,(kB s)),(3,.ptr 0 0),(4,(iQ 0)),(7,.p (.int .i64 (s.length:Int))),(8,(iQ x1.t8))]) (O:=fun x1=>[.box [(iQ v.Slot),(iQ v.From),(uQ v.Parent.1),(uQ v.Parent.2),(uQ v.Salt)]]) p1 (au 1 ⟨Z,Z,Z,Z,Z,t_⟩)<|fun x1 z1 h m1=>?_;unfold oB at h;refine qR<|yS Z (am Z Z Z Z)<|nT<|zQ ?_;refine zX Z (fun g1=>?_)<|fun g1=>?_
  ·refine zi g1 h fun h=>zk<|zT<|zQ<|zl<|qR<|zM Z<|mN Z<|zQ<|dy<|yE Z (zD Z Z Z ca Z Z)<|zH Z<|zH Z<|zb h fun y1 j1 h=>yE Z (zx Z Z Z cp j1 Z)<|yE Z (bS Z Z Z ca Z Z)<|yE Z (aa.eqlAgg Z Z Z Z Z uw)<|LO.nil<|zT ?_;refine zX Z (fun g2=>?_)<|fun g2=>?_
   ·refine zi g2 h fun h=>qR<|zM Z<|mN Z<|zr<|ao<|af<|af<|ao<|af<|af ?_;cases h;obtain rfl:=(m1 _ rfl);have h:=bT q1;cases h;exact ba Z
   ·refine zo g2 h fun h=>zk<|ae<|zT<|zR<|yS Z (am Z Z Z Z)<|mN Z ?_;cases h;exact⟨_,rfl,au 1 ⟨Z,Z,Z,Z,Z,t_⟩⟩
  ·refine zo g1 h fun h=>zq<|aj<|aj<|zy<|zT ?_;cases h;obtain rfl:=(m1 _ rfl);exact⟨_,rfl,au 1 ⟨Z,t_⟩⟩
 ·obtain rfl:=f1;have h:=cU q1;clear p1;refine zT<|LW.weak u1<|qR<|mN Z<|zr ?_;cases h;exact ba Z
structure iA where
 t8:Int
def oC (s:List Vt)(v:Vt)(x1:iA):Option (iA⊕(iA⊕Int)):=bif decide (x1.t8<(s.length:Int))then (ix s x1.t8).bind fun y1=>bif ((v.From==y1.From)&&((v.Slot==y1.Slot)&&((v.Head.1==y1.Head.1)&&((v.Head.2==y1.Head.2)&&true))))then some (.inr (.inr x1.t8))else some (.inl (iA.mk (i64.wrap (x1.t8+1))))else some (.inr (.inl (iA.mk x1.t8)))
def Jq (s:List Vt)(v:Vt):Option Int:=(iter (oC s v) aY (iA.mk 0)).bind fun b_v1=>Sum.elim (fun _=>some (-1)) some b_v1
theorem QG {s:List Vt}{v:Vt}{r_:Int}(h:Jq s v=some r_):aq prog 150 [.slice 4 (s.map aO),aO v] [.int .i64 r_]:=by
 refine zh Tryz.func150 Z Z Z Z ?_;unfold Jq at h;refine qR<|yS Z (bv Z Z Z Z Z)<|mN Z<|zQ<|qR<|zM Z<|yS Z (cx Z Z)<|mN Z ?_;obtain⟨w1,p1,q1⟩:=zB h;clear h;refine LW.tailB (b:=w1) (E:=fun v1=>[(4,(iQ 0))]) (O:=fun v1=>[.box [(iQ v.From),(iQ v.Slot),(uQ v.Head.1),(uQ v.Head.2)]]) ?_<|fun v1 f1 e1 K1 u1=>?_
 ·refine LW.block ?_;refine LW.iterB (E:=fun x1:iA=>[(0,(kV s)),(3,.ptr 0 0),(4,(iQ 0)),(7,.p (.int .i64 (s.length:Int))),(8,(iQ x1.t8))]) (O:=fun x1=>[.box [(iQ v.From),(iQ v.Slot),(uQ v.Head.1),(uQ v.Head.2)]]) p1 (au 1 ⟨Z,Z,Z,Z,Z,t_⟩)<|fun x1 z1 h m1=>?_;unfold oC at h;refine qR<|yS Z (am Z Z Z Z)<|nT<|zQ ?_;refine zX Z (fun g1=>?_)<|fun g1=>?_
  ·refine zi g1 h fun h=>zk<|zT<|zQ<|zl<|qR<|zM Z<|mN Z<|zQ<|dy<|yE Z (zD Z Z Z cz Z Z)<|zH Z<|zH Z<|zb h fun y1 j1 h=>yE Z (zx Z Z Z bz j1 Z)<|yE Z (bS Z Z Z cz Z Z)<|yE Z (aa.eqlAgg Z Z Z Z Z Am)<|LO.nil<|zT ?_;refine zX Z (fun g2=>?_)<|fun g2=>?_
   ·refine zi g2 h fun h=>qR<|zM Z<|mN Z<|zr<|ao<|af<|af<|ao<|af<|af ?_;cases h;obtain rfl:=(m1 _ rfl);have h:=bT q1;cases h;exact ba Z
   ·refine zo g2 h fun h=>zk<|ae<|zT<|zR<|yS Z (am Z Z Z Z)<|mN Z ?_;cases h;exact⟨_,rfl,au 1 ⟨Z,Z,Z,Z,Z,t_⟩⟩
  ·refine zo g1 h fun h=>zq<|aj<|aj<|zy<|zT ?_;cases h;obtain rfl:=(m1 _ rfl);exact⟨_,rfl,au 1 ⟨Z,t_⟩⟩
 ·obtain rfl:=f1;have h:=cU q1;clear p1;refine zT<|LW.weak u1<|qR<|mN Z<|zr ?_;cases h;exact ba Z
def D5 (s:List Bk)(v:Bk):Option Bool:=(Jp s v).bind fun v1=>some (decide (v1>=0))
theorem NM {v:Bk}(h:D5 s v=some r_):aq prog 114 [.slice 5 (s.map ay),ay v] [.bool r_]:=by
 refine zh Tryz.func114 Z Z Z Z ?_;unfold D5 at h;refine qR<|yS Z (bv Z Z Z Z Z)<|mN Z<|qR<|zM Z<|yS Z (zD Z Z Z ca Z Z)<|zb h fun v1 a1 h=>yS Z (yP Z Z Z (QF a1) bR)<|yS Z (am Z Z Z Z)<|mN Z<|zr ?_;cases h;exact ba Z
def D6 (s:List Vt)(v:Vt):Option Bool:=(Jq s v).bind fun v1=>some (decide (v1>=0))
theorem NN {s:List Vt}{v:Vt}(h:D6 s v=some r_):aq prog 117 [.slice 4 (s.map aO),aO v] [.bool r_]:=by
 refine zh Tryz.func117 Z Z Z Z ?_;unfold D6 at h;refine qR<|yS Z (bv Z Z Z Z Z)<|mN Z<|qR<|zM Z<|yS Z (zD Z Z Z cz Z Z)<|zb h fun v1 a1 h=>yS Z (yP Z Z Z (QG a1) bR)<|yS Z (am Z Z Z Z)<|mN Z<|zr ?_;cases h;exact ba Z
structure gi where
 t12:Int
 out:List Bk
def oq (b:List Bk)(x1:gi):Option (gi⊕gi):=bif decide (x1.t12<(b.length:Int))then (ix b x1.t12).bind fun y1=>(D5 x1.out y1).bind fun v2=>bif !v2 then bif bG x1.out.length [y1].length 40 then some (.inl (gi.mk (i64.wrap (x1.t12+1)) (x1.out++[y1])))else none else some (.inl (gi.mk (i64.wrap (x1.t12+1)) x1.out))else some (.inr (gi.mk x1.t12 x1.out))
def FL (a:List Bk)(b:List Bk):Option (List Bk):=bif bG 0 a.length 40 then (iter (oq b) aY (gi.mk 0 a)).bind fun v1=>some v1.out else none
theorem Qs {a:List Bk}{b:List Bk}{r_:(List Bk)}(h:FL a b=some r_):aq prog 77 [.slice 5 (a.map ay),.slice 5 (b.map ay)] [.slice 5 (r_.map ay)]:=by
 refine zh Tryz.func77 Z Z Z Z ?_;unfold FL at h;refine qR<|mN Z<|qR<|zM Z<|zg h fun q1 h=>yS Z (aa.callV (qs:=[(kB a)]) Z Z Z (by kernel_rfl) (Ab q1) (.consC zv .nil) Z Z)<|mN Z<|zQ<|qR<|zM Z<|yS Z (cx Z Z)<|mN Z ?_;obtain⟨v1,p1,b1⟩:=zB h;clear h;refine LW.tail (E:=[(4,.zs),(5,(jB 0 v1.out))]) (O:=[.vec 5 (v1.out.map ay)]) ?_<|fun e1 K1 u1=>?_
 ·refine LW.block ?_;refine LW.iterB (E:=fun x1:gi=>[(4,.zs),(5,(jB 0 x1.out)),(10,(kB b)),(11,.p (.int .i64 (b.length:Int))),(12,(iQ x1.t12))]) (O:=fun x1=>[.vec 5 (x1.out.map ay)]) p1 (au 1 ⟨Z,Z,Z,Z,Z,t_⟩)<|fun x1 z1 h m1=>?_;unfold oq at h;refine qR<|yS Z (am Z Z Z Z)<|nT<|zQ ?_;refine zX Z (fun g1=>?_)<|fun g1=>?_
  ·refine zi g1 h fun h=>zk<|zT<|zQ<|zl<|qR<|zb h fun y1 j1 h=>yS Z (zx Z Z Z cp j1 Z)<|yS Z (bS Z Z Z ca Z Z)<|yS Z (ze Z vt Z Z)<|yS Z (zs Z Z Z Z ca Z Z Z Z)<|nT<|qR<|zM Z<|yS Z (zD Z Z Z ca Z Z)<|zb h fun v2 a2 h=>yS Z (yC Z Z Z (LC.lend (NM a2) (.cons (Conv.vecAll Z Z Z) dB) Z))<|yS Z (aa.not Z Z)<|nT ?_;refine zX Z (fun g2=>?_)<|fun g2=>?_
   ·refine zi g2 h fun h=>zR<|zM Z<|yS Z (zD Z Z Z ca Z Z)<|yS Z (gU Z cp Z Z Z Z Z)<|zg h fun q2 h=>yS Z (aa.appendX ay x1.out [y1] rfl Z Z Z iC.p Z cp q2 Z)<|zM Z<|zN<|ae<|zT<|zR<|yS Z (am Z Z Z Z)<|mN Z ?_;cases h;exact⟨_,rfl,au 1 ⟨Z,Z,Z,Z,Z,t_⟩⟩
   ·refine zo g2 h fun h=>zk<|ae<|zT<|zR<|yS Z (am Z Z Z Z)<|mN Z ?_;cases h;exact⟨_,rfl,au 1 ⟨Z,Z,Z,Z,Z,t_⟩⟩
  ·refine zo g1 h fun h=>zq<|aj<|aj<|zy<|zT ?_;cases h;obtain rfl:=(m1 _ rfl);exact au 1 ⟨Z,Z,t_⟩
 ·have h:=b1;clear p1;refine zT<|LW.weak u1<|qR<|zM Z<|mN Z<|zr ?_;cases h;exact zf (.one (.tmp Z))<|(Conv.vecAll Z Z Z)
structure gj where
 t12:Int
 out:List Vt
def ot (b:List Vt)(x1:gj):Option (gj⊕gj):=bif decide (x1.t12<(b.length:Int))then (ix b x1.t12).bind fun y1=>(D6 x1.out y1).bind fun v2=>bif !v2 then bif bG x1.out.length [y1].length 32 then some (.inl (gj.mk (i64.wrap (x1.t12+1)) (x1.out++[y1])))else none else some (.inl (gj.mk (i64.wrap (x1.t12+1)) x1.out))else some (.inr (gj.mk x1.t12 x1.out))
def FM (a:List Vt)(b:List Vt):Option (List Vt):=bif bG 0 a.length 32 then (iter (ot b) aY (gj.mk 0 a)).bind fun v1=>some v1.out else none
theorem Qt {a:List Vt}{b:List Vt}{r_:(List Vt)}(h:FM a b=some r_):aq prog 78 [.slice 4 (a.map aO),.slice 4 (b.map aO)] [.slice 4 (r_.map aO)]:=by
 refine zh Tryz.func78 Z Z Z Z ?_;unfold FM at h;refine qR<|mN Z<|qR<|zM Z<|zg h fun q1 h=>yS Z (aa.callV (qs:=[(kV a)]) Z Z Z (by kernel_rfl) (Ad q1) (.consC zv .nil) Z Z)<|mN Z<|zQ<|qR<|zM Z<|yS Z (cx Z Z)<|mN Z ?_;obtain⟨v1,p1,b1⟩:=zB h;clear h;refine LW.tail (E:=[(4,.zs),(5,(jV 0 v1.out))]) (O:=[.vec 4 (v1.out.map aO)]) ?_<|fun e1 K1 u1=>?_
 ·refine LW.block ?_;refine LW.iterB (E:=fun x1:gj=>[(4,.zs),(5,(jV 0 x1.out)),(10,(kV b)),(11,.p (.int .i64 (b.length:Int))),(12,(iQ x1.t12))]) (O:=fun x1=>[.vec 4 (x1.out.map aO)]) p1 (au 1 ⟨Z,Z,Z,Z,Z,t_⟩)<|fun x1 z1 h m1=>?_;unfold ot at h;refine qR<|yS Z (am Z Z Z Z)<|nT<|zQ ?_;refine zX Z (fun g1=>?_)<|fun g1=>?_
  ·refine zi g1 h fun h=>zk<|zT<|zQ<|zl<|qR<|zb h fun y1 j1 h=>yS Z (zx Z Z Z bz j1 Z)<|yS Z (bS Z Z Z cz Z Z)<|yS Z (ze Z vu Z Z)<|yS Z (zs Z Z Z Z cz Z Z Z Z)<|nT<|qR<|zM Z<|yS Z (zD Z Z Z cz Z Z)<|zb h fun v2 a2 h=>yS Z (yC Z Z Z (LC.lend (NN a2) (.cons (Conv.vecAll Z Z Z) dB) Z))<|yS Z (aa.not Z Z)<|nT ?_;refine zX Z (fun g2=>?_)<|fun g2=>?_
   ·refine zi g2 h fun h=>zR<|zM Z<|yS Z (zD Z Z Z cz Z Z)<|yS Z (gU Z bz Z Z Z Z Z)<|zg h fun q2 h=>yS Z (aa.appendX aO x1.out [y1] rfl Z Z Z iC.p Z bz q2 Z)<|zM Z<|zN<|ae<|zT<|zR<|yS Z (am Z Z Z Z)<|mN Z ?_;cases h;exact⟨_,rfl,au 1 ⟨Z,Z,Z,Z,Z,t_⟩⟩
   ·refine zo g2 h fun h=>zk<|ae<|zT<|zR<|yS Z (am Z Z Z Z)<|mN Z ?_;cases h;exact⟨_,rfl,au 1 ⟨Z,Z,Z,Z,Z,t_⟩⟩
  ·refine zo g1 h fun h=>zq<|aj<|aj<|zy<|zT ?_;cases h;obtain rfl:=(m1 _ rfl);exact au 1 ⟨Z,Z,t_⟩
 ·have h:=b1;clear p1;refine zT<|LW.weak u1<|qR<|zM Z<|mN Z<|zr ?_;cases h;exact zf (.one (.tmp Z))<|(Conv.vecAll Z Z Z)
def GP (a:Vw)(b:Vw):Option Vw:=(FL a.B b.B).bind fun v1=>(FM a.V b.V).bind fun v2=>some (Vw.mk v1 v2)
theorem L8 {r_:Vw}(h:GP a b=some r_):aq prog 39 [iW a,iW b] [iW r_]:=by
 refine zh Tryz.func39 Z Z Z Z ?_;unfold GP at h;refine qR<|yS Z (bv Z Z Z Z Z)<|yS Z (bv Z Z Z Z Z)<|yS Z (ze Z d7 Z Z)<|nT<|zQ<|LW.drawLast (m:=11) (by kernel_rfl) (by kernel_rfl) (by kernel_rfl)<|yE Z (zA Z Z aL)<|yE Z (zD Z Z Z bL Z Z)<|yE Z (zA Z Z aL)<|yE Z (zD Z Z Z bL Z Z)<|zb h fun v1 a1 h=>yE Z (yP Z Z Z (Qs a1) bR)<|yE Z (zA Z Z aS)<|yE Z (zD Z Z Z cq Z Z)<|yE Z (zA Z Z aS)<|yE Z (zD Z Z Z cq Z Z)<|zb h fun v2 a2 h=>yE Z (yP Z Z Z (Qt a2) bR)<|yE Z (aa.build Z nF Z Z Z)<|LO.nil<|yS Z (zs Z Z Z Z aI Z Z Z Z)<|nT<|zr ?_;cases h;exact zf (.one (eh Z Z)) zv
structure gp where
 n:Int
 i:Int
def oA (l:List Vt)(v:Vt)(x1:gp):Option (gp⊕gp):=bif decide (x1.i<(l.length:Int))then (ix l x1.i).bind fun y1=>bif ((y1.From==v.From)&&((y1.Slot==v.Slot)&&((y1.Head.1==v.Head.1)&&((y1.Head.2==v.Head.2)&&true))))then some (.inl (gp.mk (i64.wrap (x1.n+1)) (i64.wrap (x1.i+1))))else some (.inl (gp.mk x1.n (i64.wrap (x1.i+1))))else some (.inr (gp.mk x1.n x1.i))
def Br (l:List Vt)(v:Vt):Option Int:=(iter (oA l v) aY (gp.mk 0 0)).bind fun v1=>some v1.n
theorem L1 {l:List Vt}{v:Vt}{r_:Int}(h:Br l v=some r_):aq prog 91 [.slice 4 (l.map aO),aO v] [.int .i64 r_]:=by
 refine zh Tryz.func91 Z Z Z Z ?_;unfold Br at h;refine qR<|yS Z (bv Z Z Z Z Z)<|mN Z<|qR<|mN Z<|zQ<|qR<|mN Z ?_;obtain⟨v1,p1,q1⟩:=zB h;clear h;refine LW.tail (E:=[(4,(iQ 0)),(5,(iQ v1.n))]) (O:=[.box [(iQ v.From),(iQ v.Slot),(uQ v.Head.1),(uQ v.Head.2)]]) ?_<|fun e1 K1 u1=>?_
 ·refine LW.block ?_;refine LW.iterB (E:=fun x1:gp=>[(0,(kV l)),(3,.ptr 0 0),(4,(iQ 0)),(5,(iQ x1.n)),(6,(iQ x1.i))]) (O:=fun x1=>[.box [(iQ v.From),(iQ v.Slot),(uQ v.Head.1),(uQ v.Head.2)]]) p1 (au 1 ⟨Z,Z,Z,Z,Z,t_⟩)<|fun x1 z1 h m1=>?_;unfold oA at h;refine zQ<|qR<|zM Z<|zM Z<|yS Z (cx Z Z)<|yS Z (am Z Z Z Z)<|nT ?_;refine zX Z (fun g1=>?_)<|fun g1=>?_
  ·refine zi g1 h fun h=>zk<|zT<|zQ<|zl<|zQ<|dy<|zH Z<|zH Z<|zb h fun y1 j1 h=>yE Z (zx Z Z Z bz j1 Z)<|yE Z (bS Z Z Z cz Z Z)<|yE Z (zD Z Z Z cz Z Z)<|yE Z (aa.eqlAgg Z Z Z Z Z Am)<|LO.nil<|zT ?_;refine zX Z (fun g2=>?_)<|fun g2=>?_
   ·refine zi g2 h fun h=>zR<|zM Z<|yS Z (am Z Z Z Z)<|zM Z<|zN<|ae<|zT<|zR<|zM Z<|yS Z (am Z Z Z Z)<|mN Z ?_;cases h;exact⟨_,rfl,au 1 ⟨Z,Z,Z,Z,Z,t_⟩⟩
   ·refine zo g2 h fun h=>zk<|ae<|zT<|zR<|zM Z<|yS Z (am Z Z Z Z)<|mN Z ?_;cases h;exact⟨_,rfl,au 1 ⟨Z,Z,Z,Z,Z,t_⟩⟩
  ·refine zo g1 h fun h=>zq<|aj<|aj<|zy<|zT ?_;cases h;obtain rfl:=(m1 _ rfl);exact au 1 ⟨Z,Z,t_⟩
 ·have h:=q1;clear p1;refine zT<|LW.weak u1<|qR<|zM Z<|mN Z<|zr ?_;cases h;exact ba Z
structure iy where
 i:Int
def od (a:List Vt)(b:List Vt)(x1:iy):Option (iy⊕(iy⊕Bool)):=bif decide (x1.i<(a.length:Int))then (ix a x1.i).bind fun y1=>(ix b x1.i).bind fun y2=>bif !((y1.From==y2.From)&&((y1.Slot==y2.Slot)&&((y1.Head.1==y2.Head.1)&&((y1.Head.2==y2.Head.2)&&true))))then some (.inr (.inr false))else some (.inl (iy.mk (i64.wrap (x1.i+1))))else some (.inr (.inl (iy.mk x1.i)))
def FD (a:List Vt)(b:List Vt):Option Bool:=bif (a.length:Int) != (b.length:Int)then some false else (iter (od a b) aY (iy.mk 0)).bind fun b_v1=>Sum.elim (fun _=>some true) some b_v1
theorem Qr {a:List Vt}{b:List Vt}(h:FD a b=some r_):aq prog 54 [.slice 4 (a.map aO),.slice 4 (b.map aO)] [.bool r_]:=by
 refine zh Tryz.func54 Z Z Z Z ?_;unfold FD at h;refine qR<|mN Z<|zQ<|qR<|zM Z<|yS Z (cx Z Z)<|zM Z<|yS Z (cx Z Z)<|yS Z (am Z Z Z Z)<|nT ?_;refine zX Z (fun g1=>?_)<|fun g1=>?_
 ·refine zi g1 h fun h=>qR<|mN Z<|LW.ret<|af ?_;cases h;exact ba Z
 ·refine zo g1 h fun h=>zk<|zT<|zQ<|qR<|mN Z ?_;obtain⟨w1,p1,q1⟩:=zB h;clear h;refine LW.tailB (b:=w1) (E:=fun v1=>[(4,(bQ false))]) (O:=fun v1=>[]) ?_<|fun v1 f1 e1 K1 u1=>?_
  ·refine LW.block ?_;refine LW.iterB (E:=fun x1:iy=>[(0,(kV a)),(1,(kV b)),(4,(bQ false)),(5,(iQ x1.i))]) (O:=fun x1=>[]) p1 (au 0 ⟨Z,Z,Z,Z,t_⟩)<|fun x1 z1 h m1=>?_;unfold od at h;refine zQ<|qR<|zM Z<|zM Z<|yS Z (cx Z Z)<|yS Z (am Z Z Z Z)<|nT ?_;refine zX Z (fun g2=>?_)<|fun g2=>?_
   ·refine zi g2 h fun h=>zk<|zT<|zQ<|zl<|zQ<|dy<|zH Z<|zH Z<|zb h fun y1 j1 h=>yE Z (zx Z Z Z bz j1 Z)<|yE Z (bS Z Z Z cz Z Z)<|zH Z<|zH Z<|zb h fun y2 j2 h=>yE Z (zx Z Z Z bz j2 Z)<|yE Z (bS Z Z Z cz Z Z)<|yE Z (aa.neqAgg Z Z Z Z Z Am)<|LO.nil<|zT ?_;refine zX Z (fun g3=>?_)<|fun g3=>?_
    ·refine zi g3 h fun h=>qR<|mN Z<|LW.ret<|ao<|af<|af<|ao<|af<|af ?_;cases h;obtain rfl:=(m1 _ rfl);have h:=bT q1;cases h;exact ba Z
    ·refine zo g3 h fun h=>zk<|ae<|zT<|zR<|zM Z<|yS Z (am Z Z Z Z)<|mN Z ?_;cases h;exact⟨_,rfl,au 0 ⟨Z,Z,Z,Z,t_⟩⟩
   ·refine zo g2 h fun h=>zq<|aj<|aj<|zy<|zT ?_;cases h;obtain rfl:=(m1 _ rfl);exact⟨_,rfl,au 0 ⟨Z,t_⟩⟩
  ·obtain rfl:=f1;have h:=cU q1;clear p1;refine zT<|LW.weak u1<|qR<|mN Z<|zr ?_;cases h;exact ba Z
structure iw where
 i:Int
def oc (a:List Bk)(b:List Bk)(x1:iw):Option (iw⊕(iw⊕Bool)):=bif decide (x1.i<(a.length:Int))then (ix a x1.i).bind fun y1=>(ix b x1.i).bind fun y2=>bif !((y1.Slot==y2.Slot)&&((y1.From==y2.From)&&((y1.Parent.1==y2.Parent.1)&&((y1.Parent.2==y2.Parent.2)&&((y1.Salt==y2.Salt)&&true)))))then some (.inr (.inr false))else some (.inl (iw.mk (i64.wrap (x1.i+1))))else some (.inr (.inl (iw.mk x1.i)))
def FC (a:List Bk)(b:List Bk):Option Bool:=bif (a.length:Int) != (b.length:Int)then some false else (iter (oc a b) aY (iw.mk 0)).bind fun b_v1=>Sum.elim (fun _=>some true) some b_v1
theorem Qq {a:List Bk}{b:List Bk}(h:FC a b=some r_):aq prog 53 [.slice 5 (a.map ay),.slice 5 (b.map ay)] [.bool r_]:=by
 refine zh Tryz.func53 Z Z Z Z ?_;unfold FC at h;refine qR<|mN Z<|zQ<|qR<|zM Z<|yS Z (cx Z Z)<|zM Z<|yS Z (cx Z Z)<|yS Z (am Z Z Z Z)<|nT ?_;refine zX Z (fun g1=>?_)<|fun g1=>?_
 ·refine zi g1 h fun h=>qR<|mN Z<|LW.ret<|af ?_;cases h;exact ba Z
 ·refine zo g1 h fun h=>zk<|zT<|zQ<|qR<|mN Z ?_;obtain⟨w1,p1,q1⟩:=zB h;clear h;refine LW.tailB (b:=w1) (E:=fun v1=>[(4,(bQ false))]) (O:=fun v1=>[]) ?_<|fun v1 f1 e1 K1 u1=>?_
  ·refine LW.block ?_;refine LW.iterB (E:=fun x1:iw=>[(0,(kB a)),(1,(kB b)),(4,(bQ false)),(5,(iQ x1.i))]) (O:=fun x1=>[]) p1 (au 0 ⟨Z,Z,Z,Z,t_⟩)<|fun x1 z1 h m1=>?_;unfold oc at h;refine zQ<|qR<|zM Z<|zM Z<|yS Z (cx Z Z)<|yS Z (am Z Z Z Z)<|nT ?_;refine zX Z (fun g2=>?_)<|fun g2=>?_
   ·refine zi g2 h fun h=>zk<|zT<|zQ<|zl<|zQ<|dy<|zH Z<|zH Z<|zb h fun y1 j1 h=>yE Z (zx Z Z Z cp j1 Z)<|yE Z (bS Z Z Z ca Z Z)<|zH Z<|zH Z<|zb h fun y2 j2 h=>yE Z (zx Z Z Z cp j2 Z)<|yE Z (bS Z Z Z ca Z Z)<|yE Z (aa.neqAgg Z Z Z Z Z uw)<|LO.nil<|zT ?_;refine zX Z (fun g3=>?_)<|fun g3=>?_
    ·refine zi g3 h fun h=>qR<|mN Z<|LW.ret<|ao<|af<|af<|ao<|af<|af ?_;cases h;obtain rfl:=(m1 _ rfl);have h:=bT q1;cases h;exact ba Z
    ·refine zo g3 h fun h=>zk<|ae<|zT<|zR<|zM Z<|yS Z (am Z Z Z Z)<|mN Z ?_;cases h;exact⟨_,rfl,au 0 ⟨Z,Z,Z,Z,t_⟩⟩
   ·refine zo g2 h fun h=>zq<|aj<|aj<|zy<|zT ?_;cases h;obtain rfl:=(m1 _ rfl);exact⟨_,rfl,au 0 ⟨Z,t_⟩⟩
  ·obtain rfl:=f1;have h:=cU q1;clear p1;refine zT<|LW.weak u1<|qR<|mN Z<|zr ?_;cases h;exact ba Z
structure ec where
 i:Int
 o3:List Bk
structure gk where
 there:Bool
 k:Int
structure gl where
 i:Int
 o4:List Vt
def ov (b:Vw)(x1:ec)(x2:gk):Option (gk⊕gk):=bif decide (x2.k<(x1.o3.length:Int))then bif x2.there then some (.inl (gk.mk true (i64.wrap (x2.k+1))))else (ix x1.o3 x2.k).bind fun y1=>(ix b.B x1.i).bind fun y2=>some (.inl (gk.mk ((y1.Slot==y2.Slot)&&((y1.From==y2.From)&&((y1.Parent.1==y2.Parent.1)&&((y1.Parent.2==y2.Parent.2)&&((y1.Salt==y2.Salt)&&true))))) (i64.wrap (x2.k+1))))else some (.inr (gk.mk x2.there x2.k))
def ou (b:Vw)(x1:ec):Option (ec⊕ec):=bif decide (x1.i<(b.B.length:Int))then (iter (ov b x1) aY (gk.mk false 0)).bind fun v2=>bif !v2.there then (ix b.B x1.i).bind fun y3=>bif bG x1.o3.length [y3].length 40 then some (.inl (ec.mk (i64.wrap (x1.i+1)) (x1.o3++[y3])))else none else some (.inl (ec.mk (i64.wrap (x1.i+1)) x1.o3))else some (.inr (ec.mk x1.i x1.o3))
def ow (b:Vw)(x3:gl):Option (gl⊕gl):=bif decide (x3.i<(b.V.length:Int))then (ix b.V x3.i).bind fun y4=>(Br x3.o4 y4).bind fun v4=>bif v4==0 then (ix b.V x3.i).bind fun y5=>bif bG x3.o4.length [y5].length 32 then some (.inl (gl.mk (i64.wrap (x3.i+1)) (x3.o4++[y5])))else none else some (.inl (gl.mk (i64.wrap (x3.i+1)) x3.o4))else some (.inr (gl.mk x3.i x3.o4))
def tN (a:Vw)(b:Vw):Option Vw:=bif bG 0 a.B.length 40 then bif bG 0 a.V.length 32 then (iter (ou b) aY (ec.mk 0 a.B)).bind fun v1=>(iter (ow b) aY (gl.mk 0 a.V)).bind fun v3=>some (Vw.mk v1.o3 v3.o4)else none else none
theorem BH {r_:Vw}(h:tN a b=some r_):aq prog 46 [iW a,iW b] [iW r_]:=by
 refine zh Tryz.func46 Z Z Z Z ?_;unfold tN at h;refine qR<|yS Z (bv Z Z Z Z Z)<|yS Z (bv Z Z Z Z Z)<|yS Z (ze Z d7 Z Z)<|nT<|zQ<|LW.ent (bW.slot Z)<|LW.ent (bW.slot Z)<|LW.ent (bW.slot Z)<|fC<|yG Z (fun H _=>zA Z Z aL)<|yF Z (zd Z Z Z bL Z Z) Z<|zg h fun q1 h=>yF Z (ch.appendZX ay a.B Z Z (id:=3) Z Z Z cp q1) Z<|yG Z (fun H _=>zA Z Z aS)<|yF Z (zd Z Z Z cq Z Z) Z<|zg h fun q2 h=>yF Z (ch.appendZX aO a.V Z Z (id:=4) Z Z Z bz q2) Z<|yG Z (fun H _=>aa.build Z nF Z Z Z)<|yF Z (ch.alloc Z d7 (id:=5) Z) Z<|yF Z (zt Z Z Z Z aI Z Z Z) Z ?_;refine LF.nil ⟨by kernel_rfl,?_⟩;refine zT<|zQ<|qR<|mN Z ?_;obtain⟨v1,p1,b1⟩:=zB h;clear h;refine LW.tail (E:=[(3,.ptr 1 0),(4,.ptr 2 0),(5,.ptr 5 0)]) (O:=[.box (cE a),.box (cE b),.box [.zs,.zs],.vec 5 (v1.o3.map ay),.vec 4 (a.V.map aO),.box [(jB 3 v1.o3),(jV 4 a.V)]]) ?_<|fun e1 K1 u1=>?_
 ·refine LW.block ?_;refine LW.iterB (E:=fun x1:ec=>[(3,.ptr 1 0),(4,.ptr 2 0),(5,.ptr 5 0),(6,(iQ x1.i))]) (O:=fun x1=>[.box (cE a),.box (cE b),.box [.zs,.zs],.vec 5 (x1.o3.map ay),.vec 4 (a.V.map aO),.box [(jB 3 x1.o3),(jV 4 a.V)]]) p1 (au 6 ⟨Z,Z,Z,Z,t_⟩)<|fun x1 z1 h m1=>?_;unfold ou at h;refine zQ<|qR<|zM Z<|yS Z (zA Z Z aL)<|yS Z (zD Z Z Z bL Z Z)<|yS Z (cx Z Z)<|yS Z (am Z Z Z Z)<|nT ?_;refine zX Z (fun g1=>?_)<|fun g1=>?_
  ·refine zi g1 h fun h=>zk<|zT<|zQ<|zl<|qR<|mN Z<|zQ<|qR<|mN Z ?_;obtain⟨v2,p2,b2⟩:=zB h;clear h;refine LW.tail (E:=[(3,.ptr 1 0),(4,.ptr 2 0),(5,.ptr 5 0),(6,(iQ x1.i)),(7,(bQ v2.there))]) (O:=[.box (cE a),.box (cE b),.box [.zs,.zs],.vec 5 (x1.o3.map ay),.vec 4 (a.V.map aO),.box [(jB 3 x1.o3),(jV 4 a.V)]]) ?_<|fun e2 K2 u2=>?_
   ·refine LW.block ?_;refine LW.iterB (E:=fun x2:gk=>[(3,.ptr 1 0),(4,.ptr 2 0),(5,.ptr 5 0),(6,(iQ x1.i)),(7,(bQ x2.there)),(8,(iQ x2.k))]) (O:=fun x2=>[.box (cE a),.box (cE b),.box [.zs,.zs],.vec 5 (x1.o3.map ay),.vec 4 (a.V.map aO),.box [(jB 3 x1.o3),(jV 4 a.V)]]) p2 (au 6 ⟨Z,Z,Z,Z,Z,Z,t_⟩)<|fun x2 z2 h m2=>?_;unfold ov at h;refine zQ<|qR<|zM Z<|yS Z (zA Z Z aL)<|yS Z (zD Z Z Z bL Z Z)<|yS Z (aa.lenVM Z Z Z (by kernel_rfl))<|yS Z (am Z Z Z Z)<|nT ?_;refine zX Z (fun g2=>?_)<|fun g2=>?_
    ·refine zi g2 h fun h=>zk<|zT<|zQ<|zl<|dy<|zH Z<|zH Z ?_;refine LO.cases 32 Z (fun(g3:x2.there=true)=>?_) (fun(g3:x2.there=false)=>?_)
     ·refine zi g3 h fun h=>yK Z (gd g3 Z) Z<|yK Z (gd g3 Z) Z<|yK Z (gd g3 Z) Z<|yK Z (gd g3 Z) Z<|yK Z (gd g3 Z) Z<|yK Z (gd g3 Z) Z<|yK Z (gd g3 Z) Z<|yK Z (gd g3 Z) Z<|yK Z (gd g3 Z) Z<|yK Z (gd g3 Z) Z<|yK Z (gd g3 Z) Z<|yE Z (bA Z (aK g3 Z) Z)<|zH Z<|LO.nil<|ae<|zT<|zR<|zM Z<|yS Z (am Z Z Z Z)<|mN Z ?_;cases h;exact⟨_,rfl,au 6 ⟨Z,Z,Z,Z,Z,Z,t_⟩⟩
     ·refine zo g3 h fun h=>yL Z (gd g3 Z) (zA Z Z aL)<|yL Z (gd g3 Z) (zD Z Z Z bL Z Z)<|yL Z (gd g3 Z) (zm Z Z)<|zb h fun y1 j1 h=>yL Z (gd g3 Z) (aa.indexAddrVX Z Z Z Z cp j1)<|yL Z (gd g3 Z) (aa.loadVX Z Z Z ca j1 Z Z Z Z)<|yL Z (gd g3 Z) (zA Z Z aL)<|yL Z (gd g3 Z) (zD Z Z Z bL Z Z)<|yL Z (gd g3 Z) (zm Z Z)<|zb h fun y2 j2 h=>yL Z (gd g3 Z) (zx Z Z Z cp j2 Z)<|yL Z (gd g3 Z) (bS Z Z Z ca Z Z)<|yL Z (gd g3 Z) (aa.eqlAgg Z Z Z Z Z uw)<|yE Z (aU Z (aK g3 Z) Z)<|zH Z<|LO.nil<|ae<|zT<|zR<|zM Z<|yS Z (am Z Z Z Z)<|mN Z ?_;cases h;exact⟨_,rfl,au 6 ⟨Z,Z,Z,Z,Z,Z,t_⟩⟩
    ·refine zo g2 h fun h=>zq<|aj<|aj<|zy<|zT ?_;cases h;obtain rfl:=(m2 _ rfl);exact au 6 ⟨Z,Z,Z,Z,Z,t_⟩
   ·have h:=b2;clear p2;refine zT<|LW.weak u2<|qR<|zM Z<|yS Z (aa.not Z Z)<|nT ?_;refine zX Z (fun g4=>?_)<|fun g4=>?_
    ·refine zi g4 h fun h=>fC<|yG Z (fun H _=>zA Z Z aL)<|yF Z (zd Z Z Z bL Z Z) Z<|yG Z (fun H _=>zA Z Z aL)<|yF Z (zd Z Z Z bL Z Z) Z<|zK Z<|zb h fun y3 j3 h=>yG Z (fun H _=>zx Z Z Z cp j3 Z)<|yG Z (fun H _=>bS Z Z Z ca Z Z)<|yG Z (fun H _=>gU Z cp Z Z Z Z Z)<|zg h fun q3 h=>yF Z (ch.appendX ay x1.o3 [y3] rfl Z Z Z Z cp q3) Z<|yG Z (fun H _=>zA Z Z aL)<|yF Z (zt Z Z Z Z bL Z Z Z) Z ?_;refine LF.nil ⟨by kernel_rfl,?_⟩;refine ae<|zT<|zR<|zM Z<|yS Z (am Z Z Z Z)<|mN Z ?_;cases h;exact⟨_,rfl,au 6 ⟨Z,Z,Z,Z,t_⟩⟩
    ·refine zo g4 h fun h=>zk<|ae<|zT<|zR<|zM Z<|yS Z (am Z Z Z Z)<|mN Z ?_;cases h;exact⟨_,rfl,au 6 ⟨Z,Z,Z,Z,t_⟩⟩
  ·refine zo g1 h fun h=>zq<|aj<|aj<|zy<|zT ?_;cases h;obtain rfl:=(m1 _ rfl);exact au 6 ⟨Z,Z,Z,t_⟩
 ·have h:=b1;clear p1;refine zT<|LW.weak u1<|zQ<|qR<|mN Z ?_;obtain⟨v3,p3,b3⟩:=zB h;clear h;refine LW.tail (E:=[(4,.ptr 2 0),(5,.ptr 5 0)]) (O:=[.box (cE a),.box (cE b),.box [.zs,.zs],.vec 5 (v1.o3.map ay),.vec 4 (v3.o4.map aO),.box [(jB 3 v1.o3),(jV 4 v3.o4)]]) ?_<|fun e3 K3 u3=>?_
  ·refine LW.block ?_;refine LW.iterB (E:=fun x3:gl=>[(3,.ptr 1 0),(4,.ptr 2 0),(5,.ptr 5 0),(9,(iQ x3.i))]) (O:=fun x3=>[.box (cE a),.box (cE b),.box [.zs,.zs],.vec 5 (v1.o3.map ay),.vec 4 (x3.o4.map aO),.box [(jB 3 v1.o3),(jV 4 x3.o4)]]) p3 (au 6 ⟨Z,Z,Z,Z,t_⟩)<|fun x3 z3 h m3=>?_;unfold ow at h;refine zQ<|qR<|zM Z<|yS Z (zA Z Z aS)<|yS Z (zD Z Z Z cq Z Z)<|yS Z (cx Z Z)<|yS Z (am Z Z Z Z)<|nT ?_;refine zX Z (fun g5=>?_)<|fun g5=>?_
   ·refine zi g5 h fun h=>zk<|zT<|zQ<|zl<|zQ<|dy<|yE Z (zA Z Z aS)<|yE Z (zD Z Z Z cq Z Z)<|yE Z (zA Z Z aS)<|yE Z (zD Z Z Z cq Z Z)<|zH Z<|zb h fun y4 j4 h=>yE Z (zx Z Z Z bz j4 Z)<|yE Z (bS Z Z Z cz Z Z)<|zb h fun v4 a4 h=>yE Z (yC Z Z Z (LC.lend (L1 a4) (.cons (Conv.vecAll Z Z Z) dB) Z))<|yE Z (am Z Z Z Z)<|LO.nil<|zT ?_;refine zX Z (fun g6=>?_)<|fun g6=>?_
    ·refine zi g6 h fun h=>fC<|yG Z (fun H _=>zA Z Z aS)<|yF Z (zd Z Z Z cq Z Z) Z<|yG Z (fun H _=>zA Z Z aS)<|yF Z (zd Z Z Z cq Z Z) Z<|zK Z<|zb h fun y5 j5 h=>yG Z (fun H _=>zx Z Z Z bz j5 Z)<|yG Z (fun H _=>bS Z Z Z cz Z Z)<|yG Z (fun H _=>gU Z bz Z Z Z Z Z)<|zg h fun q4 h=>yF Z (ch.appendX aO x3.o4 [y5] rfl Z Z Z Z bz q4) Z<|yG Z (fun H _=>zA Z Z aS)<|yF Z (zt Z Z Z Z cq Z Z Z) Z ?_;refine LF.nil ⟨by kernel_rfl,?_⟩;refine ae<|zT<|zR<|zM Z<|yS Z (am Z Z Z Z)<|mN Z ?_;cases h;exact⟨_,rfl,au 6 ⟨Z,Z,Z,Z,t_⟩⟩
    ·refine zo g6 h fun h=>zk<|ae<|zT<|zR<|zM Z<|yS Z (am Z Z Z Z)<|mN Z ?_;cases h;exact⟨_,rfl,au 6 ⟨Z,Z,Z,Z,t_⟩⟩
   ·refine zo g5 h fun h=>zq<|aj<|aj<|zy<|zT ?_;cases h;obtain rfl:=(m3 _ rfl);exact au 6 ⟨Z,Z,t_⟩
  ·have h:=b3;clear p3;refine zT<|LW.weak u3<|qR<|yS Z (zD Z Z Z aI Z Z)<|yS Z (zs Z Z Z Z aI Z Z Z Z)<|nT<|zr ?_;cases h;exact zf (.one (eh Z Z))<|(Conv.agg (.cons (Conv.vecAll Z Z Z) (.cons (Conv.vecAll Z Z Z) .nil)))
def Kn (a:Vw)(b:Vw):Option Bool:=(FC a.B b.B).bind fun v1=>(FD a.V b.V).bind fun v2=>bif v1 then some v2 else some false
theorem QS (h:Kn a b=some r_):aq prog 14 [iW a,iW b] [.bool r_]:=by
 refine zh Tryz.func14 Z Z Z Z ?_;unfold Kn at h;refine qR<|yS Z (bv Z Z Z Z Z)<|yS Z (bv Z Z Z Z Z)<|mN Z<|qR<|yS Z (zA Z Z aL)<|yS Z (zD Z Z Z bL Z Z)<|yS Z (zA Z Z aL)<|yS Z (zD Z Z Z bL Z Z)<|zb h fun v1 a1 h=>yS Z (yP Z Z Z (Qq a1) bR)<|mN Z<|qR<|yS Z (zA Z Z aS)<|yS Z (zD Z Z Z cq Z Z)<|yS Z (zA Z Z aS)<|yS Z (zD Z Z Z cq Z Z)<|zb h fun v2 a2 h=>yS Z (yP Z Z Z (Qr a2) bR)<|mN Z<|qR<|zM Z<|zM Z ?_;refine zc 18 Z (fun g1=>?_)<|fun g1=>?_
 ·refine zi g1 h fun h=>yV Z (gd g1 Z) (zm Z Z)<|yS Z (bA Z (aK g1 Z) Z)<|mN Z<|zr ?_;cases h;exact ba Z
 ·refine zo g1 h fun h=>yU Z (gd g1 Z) Z<|yS Z (aU Z (aK g1 Z) Z)<|mN Z<|zr ?_;cases h;exact ba Z
def Li :Option Cf:=some (Cf.mk [1] 0 1 1 4)
theorem Qp {r_:Cf}(h:Li=some r_):aq prog 34 [] [gF r_]:=by
 refine zh Tryz.func34 Z Z Z Z ?_;unfold Li at h;refine qR<|yS Z (ze Z Q7 Z Z)<|nT<|qR<|yS Z (gU Z dN Z Z Z Z Z)<|yS Z (aa.build Z Qd Z Z Z)<|yS Z (zs Z Z Z Z bd Z Z Z Z)<|nT<|zr ?_;cases h;exact zf (.one (eh Z Z)) zv
structure gg where
 t12:Int
 out:List Bk
def n9 (c:Cf)(l:List Bk)(x1:gg):Option (gg⊕gg):=bif decide (x1.t12<(l.length:Int))then (ix l x1.t12).bind fun y1=>(Ng c y1).bind fun v2=>bif v2 then bif bG x1.out.length [y1].length 40 then some (.inl (gg.mk (i64.wrap (x1.t12+1)) (x1.out++[y1])))else none else some (.inl (gg.mk (i64.wrap (x1.t12+1)) x1.out))else some (.inr (gg.mk x1.t12 x1.out))
def DZ (c:Cf)(l:List Bk):Option (List Bk):=(iter (n9 c l) aY (gg.mk 0 ([]:List Bk))).bind fun v1=>some v1.out
theorem KK {r_:List Bk}(h:DZ c l=some r_):LC prog 79 [.p (gF c),(kB l),.fn 80 [] []] [] (Is (jB 0 r_) [.vec 5 (r_.map ay)]):=by
 refine eP Tryz.func79 Z Z Z ?_;unfold DZ at h;refine qR<|yS Z (bv Z Z Z Z Z)<|mN Z<|qR<|mN Z<|zQ<|qR<|zM Z<|yS Z (cx Z Z)<|mN Z<|LW.ent (bW.lazy (t:=7) (m:=5) Z Z Z) ?_;obtain⟨v1,p1,b1⟩:=zB h;clear h;refine LW.tail (E:=[(6,.zs),(7,(jB 1 v1.out))]) (O:=[.box (cd c),.vec 5 (v1.out.map ay)]) ?_<|fun e1 K1 u1=>?_
 ·refine LW.block ?_;refine LW.iterB (E:=fun x1:gg=>[(2,.fn 80 [] []),(3,.ptr 0 0),(6,.zs),(7,(jB 1 x1.out)),(10,(kB l)),(11,.p (.int .i64 (l.length:Int))),(12,(iQ x1.t12))]) (O:=fun x1=>[.box (cd c),.vec 5 (x1.out.map ay)]) p1 (au 2 ⟨Z,Z,Z,Z,Z,Z,Z,t_⟩)<|fun x1 z1 h m1=>?_;unfold n9 at h;refine qR<|yS Z (am Z Z Z Z)<|nT<|zQ ?_;refine zX Z (fun g1=>?_)<|fun g1=>?_
  ·refine zi g1 h fun h=>zk<|zT<|zQ<|zl<|qR<|zb h fun y1 j1 h=>yS Z (zx Z Z Z cp j1 Z)<|yS Z (bS Z Z Z ca Z Z)<|yS Z (ze Z vt Z Z)<|yS Z (zs Z Z Z Z ca Z Z Z Z)<|nT<|qR<|zM Z<|yS Z (zD Z Z Z bd Z Z)<|yS Z (zD Z Z Z ca Z Z)<|zb h fun v2 a2 h=>yS Z (yP Z Z Z (Rw a2) bR)<|nT ?_;refine zX Z (fun g2=>?_)<|fun g2=>?_
   ·refine zi g2 h fun h=>zR<|zM Z<|yS Z (zD Z Z Z ca Z Z)<|yS Z (gU Z cp Z Z Z Z Z)<|zg h fun q1 h=>yS Z (aa.appendX ay x1.out [y1] rfl Z Z Z iC.p Z cp q1 Z)<|zM Z<|zN<|ae<|zT<|zR<|yS Z (am Z Z Z Z)<|mN Z ?_;cases h;exact⟨_,rfl,au 2 ⟨Z,Z,Z,Z,Z,Z,Z,t_⟩⟩
   ·refine zo g2 h fun h=>zk<|ae<|zT<|zR<|yS Z (am Z Z Z Z)<|mN Z ?_;cases h;exact⟨_,rfl,au 2 ⟨Z,Z,Z,Z,Z,Z,Z,t_⟩⟩
  ·refine zo g1 h fun h=>zq<|aj<|aj<|zy<|zT ?_;cases h;obtain rfl:=(m1 _ rfl);exact au 2 ⟨Z,Z,t_⟩
 ·have h:=b1;clear p1;refine zT<|LW.weak u1<|zQ<|LW.ent (bW.last (t:=7) (j:=0) (Hj:=[]) Z Z Z Z Z Z Z)<|zR<|zM Z<|mN Z<|zr ?_;cases h;exact aD (.one (.tmp Z))<|⟨rfl,rfl⟩
structure gh where
 t12:Int
 out:List Vt
def oa (c:Cf)(l:List Vt)(x1:gh):Option (gh⊕gh):=bif decide (x1.t12<(l.length:Int))then (ix l x1.t12).bind fun y1=>(Nh c y1).bind fun v2=>bif v2 then bif bG x1.out.length [y1].length 32 then some (.inl (gh.mk (i64.wrap (x1.t12+1)) (x1.out++[y1])))else none else some (.inl (gh.mk (i64.wrap (x1.t12+1)) x1.out))else some (.inr (gh.mk x1.t12 x1.out))
def D0 (c:Cf)(l:List Vt):Option (List Vt):=(iter (oa c l) aY (gh.mk 0 ([]:List Vt))).bind fun v1=>some v1.out
theorem KL {l:List Vt}{r_:List Vt}(h:D0 c l=some r_):LC prog 81 [.p (gF c),(kV l),.fn 82 [] []] [] (Is (jV 0 r_) [.vec 4 (r_.map aO)]):=by
 refine eP Tryz.func81 Z Z Z ?_;unfold D0 at h;refine qR<|yS Z (bv Z Z Z Z Z)<|mN Z<|qR<|mN Z<|zQ<|qR<|zM Z<|yS Z (cx Z Z)<|mN Z<|LW.ent (bW.lazy (t:=7) (m:=4) Z Z Z) ?_;obtain⟨v1,p1,b1⟩:=zB h;clear h;refine LW.tail (E:=[(6,.zs),(7,(jV 1 v1.out))]) (O:=[.box (cd c),.vec 4 (v1.out.map aO)]) ?_<|fun e1 K1 u1=>?_
 ·refine LW.block ?_;refine LW.iterB (E:=fun x1:gh=>[(2,.fn 82 [] []),(3,.ptr 0 0),(6,.zs),(7,(jV 1 x1.out)),(10,(kV l)),(11,.p (.int .i64 (l.length:Int))),(12,(iQ x1.t12))]) (O:=fun x1=>[.box (cd c),.vec 4 (x1.out.map aO)]) p1 (au 2 ⟨Z,Z,Z,Z,Z,Z,Z,t_⟩)<|fun x1 z1 h m1=>?_;unfold oa at h;refine qR<|yS Z (am Z Z Z Z)<|nT<|zQ ?_;refine zX Z (fun g1=>?_)<|fun g1=>?_
  ·refine zi g1 h fun h=>zk<|zT<|zQ<|zl<|qR<|zb h fun y1 j1 h=>yS Z (zx Z Z Z bz j1 Z)<|yS Z (bS Z Z Z cz Z Z)<|yS Z (ze Z vu Z Z)<|yS Z (zs Z Z Z Z cz Z Z Z Z)<|nT<|qR<|zM Z<|yS Z (zD Z Z Z bd Z Z)<|yS Z (zD Z Z Z cz Z Z)<|zb h fun v2 a2 h=>yS Z (yP Z Z Z (Rx a2) bR)<|nT ?_;refine zX Z (fun g2=>?_)<|fun g2=>?_
   ·refine zi g2 h fun h=>zR<|zM Z<|yS Z (zD Z Z Z cz Z Z)<|yS Z (gU Z bz Z Z Z Z Z)<|zg h fun q1 h=>yS Z (aa.appendX aO x1.out [y1] rfl Z Z Z iC.p Z bz q1 Z)<|zM Z<|zN<|ae<|zT<|zR<|yS Z (am Z Z Z Z)<|mN Z ?_;cases h;exact⟨_,rfl,au 2 ⟨Z,Z,Z,Z,Z,Z,Z,t_⟩⟩
   ·refine zo g2 h fun h=>zk<|ae<|zT<|zR<|yS Z (am Z Z Z Z)<|mN Z ?_;cases h;exact⟨_,rfl,au 2 ⟨Z,Z,Z,Z,Z,Z,Z,t_⟩⟩
  ·refine zo g1 h fun h=>zq<|aj<|aj<|zy<|zT ?_;cases h;obtain rfl:=(m1 _ rfl);exact au 2 ⟨Z,Z,t_⟩
 ·have h:=b1;clear p1;refine zT<|LW.weak u1<|zQ<|LW.ent (bW.last (t:=7) (j:=0) (Hj:=[]) Z Z Z Z Z Z Z)<|zR<|zM Z<|mN Z<|zr ?_;cases h;exact aD (.one (.tmp Z))<|⟨rfl,rfl⟩
def MY (c:Cf)(v_in:Vw):Option Vw:=(DZ c v_in.B).bind fun v1=>(D0 c v_in.V).bind fun v2=>some (Vw.mk v1 v2)
theorem Rf {v_in:Vw}{r_:Vw}(h:MY c v_in=some r_):aq prog 40 [gF c,iW v_in] [iW r_]:=by
 refine zh func40 Z Z Z Z ?_;unfold MY at h;refine qR<|yS Z (bv Z Z Z Z Z)<|yS Z (bv Z Z Z Z Z)<|yS Z (ze Z d7 Z Z)<|nT<|zQ<|LW.ent (bW.slot Z)<|LW.ent (bW.slot Z)<|fC<|yF Z (zd Z Z Z bd Z Z) Z<|yG Z (fun H _=>zA Z Z aL)<|yF Z (zd Z Z Z bL Z Z) Z<|zb h fun v1 a1 h=>?_;refine yF Z (ch.callV (id:=3) (qs:=[.p (gF c),(kB v_in.B),.fn 80 [] []]) Z Z Z (by kernel_rfl) (KK a1) (fun H=>(.consC zv (.consC zv (.consF .nil)))) Z) Z ?_;refine yF Z (zd Z Z Z bd Z Z) Z<|yG Z (fun H _=>zA Z Z aS)<|yF Z (zd Z Z Z cq Z Z) Z<|zb h fun v2 a2 h=>?_;refine yF Z (ch.callV (id:=4) (qs:=[.p (gF c),(kV v_in.V),.fn 82 [] []]) Z Z Z (by kernel_rfl) (KL a2) (fun H=>(.consC zv (.consC zv (.consF .nil)))) Z) Z ?_;refine yG Z (fun H _=>aa.build Z nF Z Z Z)<|yF Z (zt Z Z Z Z aI Z Z Z) Z ?_;refine LF.nil ⟨by kernel_rfl,?_⟩;refine zT<|zr ?_;cases h;exact zf (.one (eh Z Z))<|(Conv.agg (.cons (Conv.vecAll Z Z Z) (.cons (Conv.vecAll Z Z Z) .nil)))
def GN (c:Cf)(inp:Vw):Option (List Bk×List Vt):=(DZ c inp.B).bind fun v1=>(D0 c inp.V).bind fun v2=>some (v1,v2)
theorem OS {inp:Vw}{r_:List Bk×List Vt}(h:GN c inp=some r_):LC prog 40 [.p (gF c),.p (iW inp)] [] (Is (.agg [(jB 3 r_.1),(jV 4 r_.2)]) [.box (cd c),.box (cE inp),.box [(jB 3 r_.1),(jV 4 r_.2)],.vec 5 (r_.1.map ay),.vec 4 (r_.2.map aO)]):=by
 refine eP func40 Z Z Z ?_;unfold GN at h;refine qR<|yS Z (bv Z Z Z Z Z)<|yS Z (bv Z Z Z Z Z)<|yS Z (ze Z d7 Z Z)<|nT<|zQ<|LW.ent (bW.slot Z)<|LW.ent (bW.slot Z)<|fC<|yF Z (zd Z Z Z bd Z Z) Z<|yG Z (fun H _=>zA Z Z aL)<|yF Z (zd Z Z Z bL Z Z) Z<|zb h fun v1 a1 h=>?_;refine yF Z (ch.callV (id:=3) (qs:=[.p (gF c),(kB inp.B),.fn 80 [] []]) Z Z Z (by kernel_rfl) (KK a1) (fun H=>(.consC zv (.consC zv (.consF .nil)))) Z) Z ?_;refine yF Z (zd Z Z Z bd Z Z) Z<|yG Z (fun H _=>zA Z Z aS)<|yF Z (zd Z Z Z cq Z Z) Z<|zb h fun v2 a2 h=>?_;refine yF Z (ch.callV (id:=4) (qs:=[.p (gF c),(kV inp.V),.fn 82 [] []]) Z Z Z (by kernel_rfl) (KL a2) (fun H=>(.consC zv (.consC zv (.consF .nil)))) Z) Z ?_;refine yG Z (fun H _=>aa.build Z nF Z Z Z)<|yF Z (zt Z Z Z Z aI Z Z Z) Z ?_;refine LF.nil ⟨by kernel_rfl,?_⟩;refine zT<|zr ?_;cases h;exact aD (.one (eh Z Z))<|⟨rfl,rfl⟩
structure gG where
 t27:Int
 o3:List (ID×Int)
structure gH where
 t43:Int
 o4:List (Vt×Bool)
def og (w:Vw)(x1:gG):Option (gG⊕gG):=bif decide (x1.t27<(w.B.length:Int))then (ix w.B x1.t27).bind fun y1=>some (.inl (gG.mk (i64.wrap (x1.t27+1)) (bK x1.o3 (nm y1) y1.Slot)))else some (.inr (gG.mk x1.t27 x1.o3))
def oh (w:Vw)(x2:gH):Option (gH⊕gH):=bif decide (x2.t43<(w.V.length:Int))then (ix w.V x2.t43).bind fun y2=>some (.inl (gH.mk (i64.wrap (x2.t43+1)) (bK x2.o4 y2 true)))else some (.inr (gH.mk x2.t43 x2.o4))
def D1 (w:Vw)(_:Int):Option (List (ID×Int)×List (Vt×Bool)):=bif bG 0 w.B.length 40 then bif bG 0 w.V.length 32 then (iter (og w) aY (gG.mk 0 (bK [] (0,0) 0))).bind fun v1=>(iter (oh w) aY (gH.mk 0 ([]:List (Vt×Bool)))).bind fun v2=>some (v1.o3,v2.o4)else none else none
theorem KM {w:Vw}{upto:Int}{r_:List (ID×Int)×List (Vt×Bool)}(h:D1 w upto=some r_):LC prog 153 [.p (iW w),(iQ upto)] [] (Is (.ptr 5 0) [.box (cE w),.vec 5 (w.B.map ay),.vec 4 (w.V.map aO),(mQ r_.1),(mR r_.2),.box [(jB 1 w.B),(jV 2 w.V),.map 3,.map 4,(iQ upto),(bQ false)]]):=by
 refine eP Tryz.func153 Z Z Z ?_;unfold D1 at h;refine qR<|yS Z (bv Z Z Z Z Z)<|mN Z<|zQ<|LW.ent (bW.slot Z)<|LW.ent (bW.slot Z)<|LW.ent (bW.slot Z)<|LW.ent (bW.slot Z)<|LW.ent (bW.slot Z)<|fC<|yG Z (fun H _=>zA Z Z aL)<|yF Z (zd Z Z Z bL Z Z) Z<|zg h fun q1 h=>?_;refine yF Z (ch.callV (id:=1) (qs:=[(kB w.B)]) Z Z Z (by kernel_rfl) (Ab q1) (fun H=>(.consC zv .nil)) Z) Z ?_;refine yG Z (fun H _=>zA Z Z aS)<|yF Z (zd Z Z Z cq Z Z) Z<|zg h fun q2 h=>?_;refine yF Z (ch.callV (id:=2) (qs:=[(kV w.V)]) Z Z Z (by kernel_rfl) (Ad q2) (fun H=>(.consC zv .nil)) Z) Z ?_;refine yG Z (fun H _=>aa.build Z nF Z Z Z)<|yF Z (ch.makeMap Z (id:=3) Z) Z<|yG Z (fun H _=>aa.build Z nE Z Z Z) ?_;refine yF Z (ch.setX (f:=aX) (g:=(fun v=>(iQ v))) (m:=([]:List (ID×Int))) (0,0) 0 f9 (.inr Z) Z Z Z Z Z ne) Z ?_;refine zK Z<|yF Z (ch.makeMap Z (id:=4) Z) Z<|zK Z<|yG Z (fun H _=>aa.build Z Nt Z Z Z)<|yF Z (ch.box Z Z Z (id:=5) Z) Z<|zK Z ?_;refine LF.nil ⟨by kernel_rfl,?_⟩;refine zT<|zQ<|qR<|yS Z (zA Z Z aL)<|yS Z (zD Z Z Z bL Z Z)<|yS Z (cx Z Z)<|mN Z ?_;obtain⟨v1,p1,a1⟩:=zB h;clear h;refine LW.tail (E:=[(2,.ptr 0 0),(5,.ptr 5 0)]) (O:=[.box (cE w),.vec 5 (w.B.map ay),.vec 4 (w.V.map aO),(mQ v1.o3),.map (ar aO (fun v=>(bQ v)) []),.box [(jB 1 w.B),(jV 2 w.V),.map 3,.map 4,(iQ upto),(bQ false)]]) ?_<|fun e1 K1 u1=>?_
 ·refine LW.block ?_;refine LW.iterB (E:=fun x1:gG=>[(2,.ptr 0 0),(5,.ptr 5 0),(25,(kB w.B)),(26,.p (.int .i64 (w.B.length:Int))),(27,(iQ x1.t27))]) (O:=fun x1=>[.box (cE w),.vec 5 (w.B.map ay),.vec 4 (w.V.map aO),(mQ x1.o3),.map (ar aO (fun v=>(bQ v)) []),.box [(jB 1 w.B),(jV 2 w.V),.map 3,.map 4,(iQ upto),(bQ false)]]) p1 (zW 6 ⟨Z,Z,Z,Z,Z,t_⟩ Z Z Z (zL Z (zL Z (zL Z (zL (ai (fun _=>rfl) _) (zL (ai (fun _=>rfl) _) (zL Z Z)))))))<|fun x1 z1 h m1=>?_;unfold og at h;refine qR<|yS Z (am Z Z Z Z)<|nT<|zQ ?_;refine zX Z (fun g1=>?_)<|fun g1=>?_
  ·refine zi g1 h fun h=>zk<|zT<|zQ<|zl<|qR<|zb h fun y1 j1 h=>yS Z (zx Z Z Z cp j1 Z)<|yS Z (bS Z Z Z ca Z Z)<|yS Z (ze Z vt Z Z)<|yS Z (zs Z Z Z Z ca Z Z Z Z)<|nT<|LW.drawLast (m:=8) (by kernel_rfl) (by kernel_rfl) (by kernel_rfl)<|zH Z<|yE Z (zn Z Z)<|yE Z (zA Z Z oN)<|yE Z (zD Z Z Z Fg Z Z)<|yE Z (zD Z Z Z ca Z Z)<|yE Z (yP Z Z Z (M0 (b:=y1)) dB)<|yE Z (zA Z Z fK)<|yE Z (zD Z Z Z aV Z Z)<|LO.nil ?_;refine yS Z (aa.setX (f:=aX) (g:=(fun v=>(iQ v))) (nm y1) y1.Slot f9 (.inl Z) Z Z Z Z Z ne Z) ?_;refine zN<|ae<|zT<|zR<|yS Z (am Z Z Z Z)<|mN Z ?_;cases h;exact⟨_,rfl,zW 6 ⟨Z,Z,Z,Z,Z,t_⟩ Z Z Z (zL Z (zL Z (zL Z (zL (ai (fun _=>rfl) _) (zL (ai (fun _=>rfl) _) (zL Z Z))))))⟩
  ·refine zo g1 h fun h=>zq<|aj<|aj<|zy<|zT ?_;cases h;obtain rfl:=(m1 _ rfl);exact zW 6 ⟨Z,Z,t_⟩ Z Z Z<|zL Z<|zL Z<|zL Z<|zL (ai (fun _=>rfl) _)<|zL (ai (fun _=>rfl) _)<|zL Z Z
 ·have h:=a1;clear p1;refine zT<|LW.weak u1<|zQ<|qR<|yS Z (zA Z Z aS)<|yS Z (zD Z Z Z cq Z Z)<|yS Z (cx Z Z)<|mN Z ?_;obtain⟨v2,p2,a2⟩:=zB h;clear h;refine LW.tail (E:=[(5,.ptr 5 0)]) (O:=[.box (cE w),.vec 5 (w.B.map ay),.vec 4 (w.V.map aO),(mQ v1.o3),(mR v2.o4),.box [(jB 1 w.B),(jV 2 w.V),.map 3,.map 4,(iQ upto),(bQ false)]]) ?_<|fun e2 K2 u2=>?_
  ·refine LW.block ?_;refine LW.iterB (E:=fun x2:gH=>[(5,.ptr 5 0),(41,(kV w.V)),(42,.p (.int .i64 (w.V.length:Int))),(43,(iQ x2.t43))]) (O:=fun x2=>[.box (cE w),.vec 5 (w.B.map ay),.vec 4 (w.V.map aO),(mQ v1.o3),(mR x2.o4),.box [(jB 1 w.B),(jV 2 w.V),.map 3,.map 4,(iQ upto),(bQ false)]]) p2 (zW 6 ⟨Z,Z,Z,Z,t_⟩ Z Z Z (zL Z (zL Z (zL Z (zL (ai (fun _=>rfl) _) (zL (ai (fun _=>rfl) _) (zL Z Z)))))))<|fun x2 z2 h m2=>?_;unfold oh at h;refine qR<|yS Z (am Z Z Z Z)<|nT<|zQ ?_;refine zX Z (fun g2=>?_)<|fun g2=>?_
   ·refine zi g2 h fun h=>zk<|zT<|zQ<|zl<|qR<|zb h fun y2 j2 h=>yS Z (zx Z Z Z bz j2 Z)<|yS Z (bS Z Z Z cz Z Z)<|yS Z (ze Z vu Z Z)<|yS Z (zs Z Z Z Z cz Z Z Z Z)<|nT<|LW.drawLast (m:=5) (by kernel_rfl) (by kernel_rfl) (by kernel_rfl)<|zH Z<|yE Z (zn Z Z)<|yE Z (zA Z Z tA)<|yE Z (zD Z Z Z DO Z Z)<|yE Z (zD Z Z Z cz Z Z)<|LO.nil ?_;refine yS Z (aa.setX (f:=aO) (g:=(fun v=>(bQ v))) y2 true DP (.inl Z) Z Z Z Z Z HW Z) ?_;refine zN<|ae<|zT<|zR<|yS Z (am Z Z Z Z)<|mN Z ?_;cases h;exact⟨_,rfl,zW 6 ⟨Z,Z,Z,Z,t_⟩ Z Z Z (zL Z (zL Z (zL Z (zL (ai (fun _=>rfl) _) (zL (ai (fun _=>rfl) _) (zL Z Z))))))⟩
   ·refine zo g2 h fun h=>zq<|aj<|aj<|zy<|zT ?_;cases h;obtain rfl:=(m2 _ rfl);exact zW 6 ⟨Z,t_⟩ Z Z Z<|zL Z<|zL Z<|zL Z<|zL (ai (fun _=>rfl) _)<|zL (ai (fun _=>rfl) _)<|zL Z Z
  ·have h:=a2;clear p2;refine zT<|LW.weak u2<|qR<|zM Z<|mN Z<|zr ?_;cases h;exact aD (.one (.tmp Z))<|⟨rfl,rfl⟩
theorem Dc {d:Nat}(m:List (α×Int)):((ar f (fun v=>(iQ v)) m).map fun e=>(e.1,LV.shift d e.2))=ar f (fun v=>(iQ v)) m:=Hv (fun _=>rfl) m
theorem Db {d:Nat}(m:List (α×Bool)):((ar f (fun v=>(bQ v)) m).map fun e=>(e.1,LV.shift d e.2))=ar f (fun v=>(bQ v)) m:=Hv (fun _=>rfl) m
end Go.Mg
