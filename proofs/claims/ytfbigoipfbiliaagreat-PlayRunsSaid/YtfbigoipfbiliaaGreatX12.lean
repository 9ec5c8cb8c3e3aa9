/- What comes at a tick: closures. Conditions: none. -/
import Derived.Test.YtfbigoipfbiliaaGreatX11
set_option maxRecDepth 100000
set_option linter.all false
namespace Go.Mg
open IntKind (i64)
open Go.Proofs.Tryz (prog)
open List (append_nil foldl_cons getElem?_eq_getElem getElem?_map length_append length_cons length_filter_le length_map length_singleton mem_append mem_cons_of_mem mem_cons_self mem_filter mem_flatMap mem_of_getElem? take_add_one take_length)
open Go.Proofs
variable {α : Type} {P P' : Bk -> Prop} {Q Q' : Vt -> Prop} {U al : Vw} {a : Ac} {b : List Of} {c : Cf} {cl l : List Ac} {k : Nat} {me r_ : Bool} {wh : Int}
theorem yN {w r_:Wd}(h:sP w=some r_):w=r_:=by
 unfold sP at h;obtain⟨_,h⟩:=zG h;obtain⟨_,h⟩:=zG h;obtain⟨_,_,h⟩:=zB h;obtain⟨_,_,h⟩:=zB h;exact zJ h
def Jv (a:Ac)(w:Wd):Option Bool:=bif a.Tick==w.Tick then some (decide (a.To>=0))else some false
theorem OW {w:Wd}(h:Jv a w=some r_):LC prog 109 [.p (mZ a),.ptr 0 0] [.box (gu w)] (Is (bQ r_) [.box (gu w)]):=by
 refine eP Tryz.func109 Z Z Z ?_;unfold Jv at h;refine qR<|yS Z (bv Z Z Z Z Z)<|mN Z<|qR<|yS Z (zA Z Z At)<|yS Z (zD Z Z Z aV Z Z)<|yS Z (zA Z Z cT)<|yS Z (zD Z Z Z aV Z Z)<|yS Z (am Z Z Z Z)<|zM Z ?_;refine zc 9 Z (fun g1=>?_)<|fun g1=>?_
 ·refine zi g1 h fun h=>yV Z (gd g1 Z) (zA Z Z qM)<|yV Z (gd g1 Z) (zD Z Z Z aV Z Z)<|yV Z (gd g1 Z) (am Z Z Z Z)<|yS Z (bA Z (aK g1 Z) Z)<|mN Z<|zr ?_;cases h;exact bN (env':=[(3,.p (.bool (decide (a.To>=0))))]) (H':=[.box (gu w)]) (au 1 ⟨Z,t_⟩) (.one (.tmp Z))<|⟨rfl,rfl⟩
 ·refine zo g1 h fun h=>yU Z (gd g1 Z) Z<|yU Z (gd g1 Z) Z<|yU Z (gd g1 Z) Z<|yS Z (aU Z (aK g1 Z) Z)<|mN Z<|zr ?_;cases h;exact bN (env':=[(3,(bQ false))]) (H':=[.box (gu w)]) (au 1 ⟨Z,t_⟩) (.one (.tmp Z))<|⟨rfl,rfl⟩
structure dS where
 t10:Int
 out:List Ac
def jq (l:List Ac)(w:Wd)(x1:dS):Option (dS⊕dS):=bif decide (x1.t10<(l.length:Int))then (ix l x1.t10).bind fun y1=>(Jv y1 w).bind fun v2=>bif v2 then bif bG x1.out.length [y1].length 72 then some (.inl (dS.mk (i64.wrap (x1.t10+1)) (x1.out++[y1])))else none else some (.inl (dS.mk (i64.wrap (x1.t10+1)) x1.out))else some (.inr (dS.mk x1.t10 x1.out))
def ue (l:List Ac)(w:Wd):Option (List Ac):=(iter (jq l w) aY (dS.mk 0 ([]:List Ac))).bind fun v1=>some v1.out
theorem JJ {w:Wd}{r_:(List Ac)}(h:ue l w=some r_):LC prog 108 [.p (.slice 5 (l.map mZ)),.fn 109 [] [.ptr 0 0]] [.box (gu w)] (Is (.p (.slice 5 (r_.map mZ))) [.box (gu w)]):=by
 refine eP Tryz.func108 Z Z Z ?_;unfold ue at h;refine qR<|mN Z<|qR<|mN Z<|zQ<|zQ<|LW.ent (bW.lazy (t:=5) (m:=5) Z Z Z)<|zR<|zM Z<|yS Z (cx Z Z)<|mN Z ?_;obtain⟨v1,p1,b1⟩:=zB h;clear h;refine LW.tail (E:=[(4,.zs),(5,.vec 5 1 (v1.out.map mZ).length 0 (v1.out.map mZ).length)]) (O:=[.box (gu w),.vec 5 (v1.out.map mZ)]) ?_<|fun e1 K1 u1=>?_
 ·refine LW.block ?_;refine LW.iterB (E:=fun x1:dS=>[(1,.fn 109 [] [.ptr 0 0]),(4,.zs),(5,.vec 5 1 (x1.out.map mZ).length 0 (x1.out.map mZ).length),(8,.p (.slice 5 (l.map mZ))),(9,.p (.int .i64 (l.length:Int))),(10,(iQ x1.t10))]) (O:=fun x1=>[.box (gu w),.vec 5 (x1.out.map mZ)]) p1 (au 2 ⟨Z,Z,Z,Z,Z,Z,t_⟩)<|fun x1 z1 h m1=>?_;unfold jq at h;refine qR<|yS Z (am Z Z Z Z)<|nT<|zQ ?_;refine zX Z (fun g1=>?_)<|fun g1=>?_
  ·refine zi g1 h fun h=>zk<|zT<|zQ<|zl<|qR<|zb h fun y1 j1 h=>yS Z (zx Z Z Z ke j1 Z)<|yS Z (bS Z Z Z n4 Z Z)<|yS Z (ze Z IL Z Z)<|yS Z (zs Z Z Z Z n4 Z Z Z Z)<|nT<|qR<|zM Z<|yS Z (zD Z Z Z n4 Z Z)<|zb h fun v2 a2 h=>yS Z (yC Z Z Z (LC.pre (OW a2) Z Z Z))<|nT ?_;refine zX Z (fun g2=>?_)<|fun g2=>?_
   ·refine zi g2 h fun h=>zR<|zM Z<|yS Z (zD Z Z Z n4 Z Z)<|yS Z (gU Z ke Z Z Z Z Z)<|zg h fun q1 h=>yS Z (aa.appendX mZ x1.out [y1] rfl Z Z Z iC.p Z ke q1 Z)<|zM Z<|zN<|ae<|zT<|zR<|yS Z (am Z Z Z Z)<|mN Z ?_;cases h;exact⟨_,rfl,au 2 ⟨Z,Z,Z,Z,Z,Z,t_⟩⟩
   ·refine zo g2 h fun h=>zk<|ae<|zT<|zR<|yS Z (am Z Z Z Z)<|mN Z ?_;cases h;exact⟨_,rfl,au 2 ⟨Z,Z,Z,Z,Z,Z,t_⟩⟩
  ·refine zo g1 h fun h=>zq<|aj<|aj<|zy<|zT ?_;cases h;obtain rfl:=(m1 _ rfl);exact au 2 ⟨Z,Z,t_⟩
 ·have h:=b1;clear p1;refine zT<|LW.weak u1<|zQ<|LW.ent (bW.frz (t:=5) (env':=[]) (H0:=[.box (gu w)]) Z Z Z Z Z trivial Z Z)<|zR<|zM Z<|mN Z<|zr ?_;cases h;exact aD (.one (.tmp Z))<|⟨rfl,rfl⟩
def Ec (who:Int)(w:Wd):Option Bool:=(xX w.Bad who).bind fun v1=>some v1
theorem KQ {who:Int}{w:Wd}(h:Ec who w=some r_):LC prog 110 [(iQ who),.ptr 2 0] (hM w al wh me cl 111 110) (Is (bQ r_) (hM w al wh me cl 111 110)):=by
 refine eP Tryz.func110 Z Z Z ?_;unfold Ec at h;refine qR<|mN Z<|qR<|yS Z (zA Z Z dc)<|yS Z (zD Z Z Z d6 Z Z)<|zM Z<|zb h fun v1 a1 h=>yS Z (yP Z Z Z (JG a1) bR)<|mN Z<|zr ?_;cases h;exact aD (.one (.tmp Z))<|⟨rfl,rfl⟩
def zP (x:Bk)(w:Wd)(al:Vw):Option Bool:=(Ec x.From w).bind fun v1=>bif v1 then some true else (D5 al.B x).bind fun v2=>some v2
theorem Mp {x:Bk}{w:Wd}(h:zP x w al=some r_):LC prog 113 [.p (ay x),.ptr 5 0,.ptr 4 0] (hM w al wh me cl 111 110) (Is (bQ r_) (hM w al wh me cl 111 110)):=by
 refine eP Tryz.func113 Z Z Z ?_;unfold zP at h;refine qR<|yS Z (bv Z Z Z Z Z)<|mN Z<|qR<|yS Z (zD Z Z Z wM Z Z)<|yS Z (zA Z Z sb)<|yS Z (zD Z Z Z aV Z Z)<|zb h fun v1 a1 h=>yS Z (yC Z Z Z (LC.pre (KQ a1) Z Z Z))<|zM Z ?_;refine zc 9 Z (fun g1=>?_)<|fun g1=>?_
 ·refine zi g1 h fun h=>yU Z (gd g1 Z) Z<|yU Z (gd g1 Z) Z<|yU Z (gd g1 Z) Z<|yU Z (gd g1 Z) Z<|yU Z (gd g1 Z) Z<|yS Z (bA Z (aK g1 Z) Z)<|mN Z<|zr ?_;cases h;exact bN (env':=[(4,(bQ true))]) (H':=(hM w al wh me cl 111 110)) (au 6 ⟨Z,t_⟩) (.one (.tmp Z))<|⟨rfl,rfl⟩
 ·refine zo g1 h fun h=>yV Z (gd g1 Z) (zA Z Z uE)<|yV Z (gd g1 Z) (zA Z Z aL)<|yV Z (gd g1 Z) (zD Z Z Z bL Z Z)<|yV Z (gd g1 Z) (zD Z Z Z ca Z Z)<|zb h fun v2 a2 h=>yV Z (gd g1 Z) (yP Z Z Z (NM a2) bR)<|yS Z (aU Z (aK g1 Z) Z)<|mN Z<|zr ?_;obtain rfl:=zJ h;exact bN (env':=[(4,(bQ v2))]) (H':=(hM w al wh me cl 111 110)) (au 6 ⟨Z,t_⟩) (.one (.tmp Z))<|⟨rfl,rfl⟩
def zS (x:Vt)(w:Wd)(al:Vw):Option Bool:=(Ec x.From w).bind fun v1=>bif v1 then some true else (D6 al.V x).bind fun v2=>some v2
theorem Mq {x:Vt}{w:Wd}(h:zS x w al=some r_):LC prog 116 [.p (aO x),.ptr 5 0,.ptr 4 0] (hM w al wh me cl 111 110) (Is (bQ r_) (hM w al wh me cl 111 110)):=by
 refine eP Tryz.func116 Z Z Z ?_;unfold zS at h;refine qR<|yS Z (bv Z Z Z Z Z)<|mN Z<|qR<|yS Z (zD Z Z Z wM Z Z)<|yS Z (zA Z Z im)<|yS Z (zD Z Z Z aV Z Z)<|zb h fun v1 a1 h=>yS Z (yC Z Z Z (LC.pre (KQ a1) Z Z Z))<|zM Z ?_;refine zc 9 Z (fun g1=>?_)<|fun g1=>?_
 ·refine zi g1 h fun h=>yU Z (gd g1 Z) Z<|yU Z (gd g1 Z) Z<|yU Z (gd g1 Z) Z<|yU Z (gd g1 Z) Z<|yU Z (gd g1 Z) Z<|yS Z (bA Z (aK g1 Z) Z)<|mN Z<|zr ?_;cases h;exact bN (env':=[(4,(bQ true))]) (H':=(hM w al wh me cl 111 110)) (au 6 ⟨Z,t_⟩) (.one (.tmp Z))<|⟨rfl,rfl⟩
 ·refine zo g1 h fun h=>yV Z (gd g1 Z) (zA Z Z uE)<|yV Z (gd g1 Z) (zA Z Z aS)<|yV Z (gd g1 Z) (zD Z Z Z cq Z Z)<|yV Z (gd g1 Z) (zD Z Z Z cz Z Z)<|zb h fun v2 a2 h=>yV Z (gd g1 Z) (yP Z Z Z (NN a2) bR)<|yS Z (aU Z (aK g1 Z) Z)<|mN Z<|zr ?_;obtain rfl:=zJ h;exact bN (env':=[(4,(bQ v2))]) (H':=(hM w al wh me cl 111 110)) (au 6 ⟨Z,t_⟩) (.one (.tmp Z))<|⟨rfl,rfl⟩
structure dT where
 t10:Int
 out:List Bk
def jr (l:List Bk)(w:Wd)(al:Vw)(x1:dT):Option (dT⊕dT):=bif decide (x1.t10<(l.length:Int))then (ix l x1.t10).bind fun y1=>(zP y1 w al).bind fun v2=>bif v2 then bif bG x1.out.length [y1].length 40 then some (.inl (dT.mk (i64.wrap (x1.t10+1)) (x1.out++[y1])))else none else some (.inl (dT.mk (i64.wrap (x1.t10+1)) x1.out))else some (.inr (dT.mk x1.t10 x1.out))
def uf (l:List Bk)(w:Wd)(al:Vw):Option (List Bk):=(iter (jr l w al) aY (dT.mk 0 ([]:List Bk))).bind fun v1=>some v1.out
theorem JK {l:List Bk}{w:Wd}{r_:(List Bk)}(h:uf l w al=some r_):LC prog 112 [(kB l),.fn 113 [] [.ptr 5 0,.ptr 4 0]] (hM w al wh me cl 111 110) (Is (kB r_) (hM w al wh me cl 111 110)):=by
 refine eP Tryz.func112 Z Z Z ?_;unfold uf at h;refine qR<|mN Z<|qR<|mN Z<|zQ<|zQ<|LW.ent (bW.lazy (t:=5) (m:=5) Z Z Z)<|zR<|zM Z<|yS Z (cx Z Z)<|mN Z ?_;obtain⟨v1,p1,b1⟩:=zB h;clear h;refine LW.tail (E:=[(4,.zs),(5,(jB 6 v1.out))]) (O:=[.box (gu w),.box ph,.box (gu w),.box (nQ w al wh me cl 111 5 4),.box (nQ w al wh me cl 111 5 4),.box [.fn 110 [] [.ptr 2 0]],.vec 5 (v1.out.map ay)]) ?_<|fun e1 K1 u1=>?_
 ·refine LW.block ?_;refine LW.iterB (E:=fun x1:dT=>[(1,.fn 113 [] [.ptr 5 0,.ptr 4 0]),(4,.zs),(5,(jB 6 x1.out)),(8,(kB l)),(9,.p (.int .i64 (l.length:Int))),(10,(iQ x1.t10))]) (O:=fun x1=>[.box (gu w),.box ph,.box (gu w),.box (nQ w al wh me cl 111 5 4),.box (nQ w al wh me cl 111 5 4),.box [.fn 110 [] [.ptr 2 0]],.vec 5 (x1.out.map ay)]) p1 (au 7 ⟨Z,Z,Z,Z,Z,Z,t_⟩)<|fun x1 z1 h m1=>?_;unfold jr at h;refine qR<|yS Z (am Z Z Z Z)<|nT<|zQ ?_;refine zX Z (fun g1=>?_)<|fun g1=>?_
  ·refine zi g1 h fun h=>zk<|zT<|zQ<|zl<|qR<|zb h fun y1 j1 h=>yS Z (zx Z Z Z cp j1 Z)<|yS Z (bS Z Z Z ca Z Z)<|yS Z (ze Z vt Z Z)<|yS Z (zs Z Z Z Z ca Z Z Z Z)<|nT<|qR<|zM Z<|yS Z (zD Z Z Z ca Z Z)<|zb h fun v2 a2 h=>yS Z (yC Z Z Z (LC.pre (Mp a2) Z Z Z))<|nT ?_;refine zX Z (fun g2=>?_)<|fun g2=>?_
   ·refine zi g2 h fun h=>zR<|zM Z<|yS Z (zD Z Z Z ca Z Z)<|yS Z (gU Z cp Z Z Z Z Z)<|zg h fun q1 h=>yS Z (aa.appendX ay x1.out [y1] rfl Z Z Z iC.p Z cp q1 Z)<|zM Z<|zN<|ae<|zT<|zR<|yS Z (am Z Z Z Z)<|mN Z ?_;cases h;exact⟨_,rfl,au 7 ⟨Z,Z,Z,Z,Z,Z,t_⟩⟩
   ·refine zo g2 h fun h=>zk<|ae<|zT<|zR<|yS Z (am Z Z Z Z)<|mN Z ?_;cases h;exact⟨_,rfl,au 7 ⟨Z,Z,Z,Z,Z,Z,t_⟩⟩
  ·refine zo g1 h fun h=>zq<|aj<|aj<|zy<|zT ?_;cases h;obtain rfl:=(m1 _ rfl);exact au 7 ⟨Z,Z,t_⟩
 ·have h:=b1;clear p1;refine zT<|LW.weak u1<|zQ<|LW.ent (bW.frz (t:=5) (env':=[]) (H0:=(hM w al wh me cl 111 110)) Z Z Z Z Z trivial Z Z)<|zR<|zM Z<|mN Z<|zr ?_;cases h;exact aD (.one (.tmp Z))<|⟨rfl,rfl⟩
structure dU where
 t10:Int
 out:List Vt
def js (l:List Vt)(w:Wd)(al:Vw)(x1:dU):Option (dU⊕dU):=bif decide (x1.t10<(l.length:Int))then (ix l x1.t10).bind fun y1=>(zS y1 w al).bind fun v2=>bif v2 then bif bG x1.out.length [y1].length 32 then some (.inl (dU.mk (i64.wrap (x1.t10+1)) (x1.out++[y1])))else none else some (.inl (dU.mk (i64.wrap (x1.t10+1)) x1.out))else some (.inr (dU.mk x1.t10 x1.out))
def ug (l:List Vt)(w:Wd)(al:Vw):Option (List Vt):=(iter (js l w al) aY (dU.mk 0 ([]:List Vt))).bind fun v1=>some v1.out
theorem JL {l:List Vt}{w:Wd}{r_:(List Vt)}(h:ug l w al=some r_):LC prog 115 [(kV l),.fn 116 [] [.ptr 5 0,.ptr 4 0]] (hM w al wh me cl 111 110) (Is (kV r_) (hM w al wh me cl 111 110)):=by
 refine eP Tryz.func115 Z Z Z ?_;unfold ug at h;refine qR<|mN Z<|qR<|mN Z<|zQ<|zQ<|LW.ent (bW.lazy (t:=5) (m:=4) Z Z Z)<|zR<|zM Z<|yS Z (cx Z Z)<|mN Z ?_;obtain⟨v1,p1,b1⟩:=zB h;clear h;refine LW.tail (E:=[(4,.zs),(5,(jV 6 v1.out))]) (O:=[.box (gu w),.box ph,.box (gu w),.box (nQ w al wh me cl 111 5 4),.box (nQ w al wh me cl 111 5 4),.box [.fn 110 [] [.ptr 2 0]],.vec 4 (v1.out.map aO)]) ?_<|fun e1 K1 u1=>?_
 ·refine LW.block ?_;refine LW.iterB (E:=fun x1:dU=>[(1,.fn 116 [] [.ptr 5 0,.ptr 4 0]),(4,.zs),(5,(jV 6 x1.out)),(8,(kV l)),(9,.p (.int .i64 (l.length:Int))),(10,(iQ x1.t10))]) (O:=fun x1=>[.box (gu w),.box ph,.box (gu w),.box (nQ w al wh me cl 111 5 4),.box (nQ w al wh me cl 111 5 4),.box [.fn 110 [] [.ptr 2 0]],.vec 4 (x1.out.map aO)]) p1 (au 7 ⟨Z,Z,Z,Z,Z,Z,t_⟩)<|fun x1 z1 h m1=>?_;unfold js at h;refine qR<|yS Z (am Z Z Z Z)<|nT<|zQ ?_;refine zX Z (fun g1=>?_)<|fun g1=>?_
  ·refine zi g1 h fun h=>zk<|zT<|zQ<|zl<|qR<|zb h fun y1 j1 h=>yS Z (zx Z Z Z bz j1 Z)<|yS Z (bS Z Z Z cz Z Z)<|yS Z (ze Z vu Z Z)<|yS Z (zs Z Z Z Z cz Z Z Z Z)<|nT<|qR<|zM Z<|yS Z (zD Z Z Z cz Z Z)<|zb h fun v2 a2 h=>yS Z (yC Z Z Z (LC.pre (Mq a2) Z Z Z))<|nT ?_;refine zX Z (fun g2=>?_)<|fun g2=>?_
   ·refine zi g2 h fun h=>zR<|zM Z<|yS Z (zD Z Z Z cz Z Z)<|yS Z (gU Z bz Z Z Z Z Z)<|zg h fun q1 h=>yS Z (aa.appendX aO x1.out [y1] rfl Z Z Z iC.p Z bz q1 Z)<|zM Z<|zN<|ae<|zT<|zR<|yS Z (am Z Z Z Z)<|mN Z ?_;cases h;exact⟨_,rfl,au 7 ⟨Z,Z,Z,Z,Z,Z,t_⟩⟩
   ·refine zo g2 h fun h=>zk<|ae<|zT<|zR<|yS Z (am Z Z Z Z)<|mN Z ?_;cases h;exact⟨_,rfl,au 7 ⟨Z,Z,Z,Z,Z,Z,t_⟩⟩
  ·refine zo g1 h fun h=>zq<|aj<|aj<|zy<|zT ?_;cases h;obtain rfl:=(m1 _ rfl);exact au 7 ⟨Z,Z,t_⟩
 ·have h:=b1;clear p1;refine zT<|LW.weak u1<|zQ<|LW.ent (bW.frz (t:=5) (env':=[]) (H0:=(hM w al wh me cl 111 110)) Z Z Z Z Z trivial Z Z)<|zR<|zM Z<|mN Z<|zr ?_;cases h;exact aD (.one (.tmp Z))<|⟨rfl,rfl⟩
def zu (a:Ac)(w:Wd)(al:Vw):Option Vw:=(uf a.B w al).bind fun v1=>(ug a.V w al).bind fun v2=>some (Vw.mk v1 v2)
theorem Ml {w:Wd}{r_:Vw}(h:zu a w al=some r_):LC prog 111 [.p (mZ a),.ptr 5 0,.ptr 4 0] (hM w al wh me cl 111 110) (Is (.p (iW r_)) (hM w al wh me cl 111 110)):=by
 refine eP Tryz.func111 Z Z Z ?_;unfold zu at h;refine qR<|yS Z (bv Z Z Z Z Z)<|yS Z (ze Z d7 Z Z)<|nT<|zQ<|LW.drawLast (m:=9) (by kernel_rfl) (by kernel_rfl) (by kernel_rfl)<|yE Z (zA Z Z lL)<|yE Z (zD Z Z Z bL Z Z)<|yE Z (aa.makeFunc Z Z Z)<|zb h fun v1 a1 h=>yE Z (yC Z Z Z (LC.pre (JK a1) Z Z Z))<|yE Z (zA Z Z lM)<|yE Z (zD Z Z Z cq Z Z)<|yE Z (aa.makeFunc Z Z Z)<|zb h fun v2 a2 h=>yE Z (yC Z Z Z (LC.pre (JL a2) Z Z Z))<|yE Z (aa.build Z nF Z Z Z)<|LO.nil<|yS Z (zs Z Z Z Z aI Z Z Z Z)<|nT<|zr ?_;cases h;exact lI (env':=[]) (H':=(hM w al wh me cl 111 110)) (au 6 trivial) (.one (eh Z Z)) Z<|⟨rfl,rfl⟩
def zF (w:Wd)(l:List Ac):Option (Vw×Int×Bool×List Ac):=(xN w.N).bind fun v1=>(Jr w.C (i64.wrap (w.Tick.tdiv 3))).bind fun v2=>(xX w.Bad v2).bind fun v3=>(ue l w).bind fun v4=>some (v1,v2,v3,v4)
theorem Mo {w:Wd}{r_:Vw×Int×Bool×List Ac}(h:zF w l=some r_):LC prog 61 [.p (xJ w),.p (.slice 5 (l.map mZ))] [] (Is (.agg (nQ w r_.1 r_.2.1 r_.2.2.1 r_.2.2.2 111 3 2)) [.box (gu w),.box (nQ w r_.1 r_.2.1 r_.2.2.1 r_.2.2.2 111 3 2),.box (nQ w r_.1 r_.2.1 r_.2.2.1 r_.2.2.2 111 3 2),.box [.fn 110 [] [.ptr 0 0]]]):=by
 refine eP Tryz.func61 Z Z Z ?_;unfold zF at h;refine qR<|yS Z (bv Z Z Z Z Z)<|yS Z (ze Z Cz Z Z)<|nT<|zQ<|LW.ent (bW.slot Z)<|fC<|yF Z (zd Z Z Z bD Z Z) Z<|yG Z (fun H _=>zA Z Z bF)<|yF Z (zd Z Z Z cY Z Z) Z<|zb h fun v1 a1 h=>?_;refine yF (F:=[]) (s:=none) Z (fun H _=>yP Z Z Z (Nv a1) dB) Z ?_;refine yG Z (fun H _=>zA Z Z cT)<|yF Z (zd Z Z Z aV Z Z) Z<|yG Z (fun H _=>aa.quo Z Z Z (by decide))<|yG Z (fun H _=>aa.build Z LX Z Z Z)<|yF Z (ch.alloc Z Cz (id:=2) Z) Z<|yF Z (zt Z Z Z Z vp Z Z Z) Z ?_;refine LF.nil ⟨by kernel_rfl,?_⟩;refine zT<|qR<|yS Z (zA Z Z iO)<|yS Z (zD Z Z Z bd Z Z)<|yS Z (zA Z Z Az)<|yS Z (zD Z Z Z aV Z Z)<|zb h fun v2 a2 h=>yS Z (yP Z Z Z (P4 a2) bR)<|yS Z (zA Z Z uF)<|yS Z (zs Z Z Z Z aV Z Z Z Z)<|nT<|qR<|yS Z (zA Z Z dc)<|yS Z (zD Z Z Z d6 Z Z)<|yS Z (zA Z Z uF)<|yS Z (zD Z Z Z aV Z Z)<|zb h fun v3 a3 h=>yS Z (yP Z Z Z (JG a3) bR)<|yS Z (zA Z Z Ax)<|yS Z (zs Z Z Z Z vo Z Z Z Z)<|nT<|qR<|zM Z<|yS Z (aa.makeFunc Z Z Z)<|zb h fun v4 a4 h=>yS Z (yC Z Z Z (LC.pre (JJ a4) Z Z Z))<|yS Z (zA Z Z AA)<|yS Z (zs Z Z Z Z Iu Z Z Z Z)<|nT<|qR<|yS Z (aa.makeFunc Z Z Z)<|yS Z (ze Z PX Z Z)<|yS Z (zs Z Z Z Z wM Z Z Z Z)<|nT<|qR<|yS Z (aa.makeFunc Z Z Z)<|yS Z (zA Z Z Ay)<|yS Z (zs Z Z Z Z IB Z Z Z Z)<|nT<|qR<|yS Z (zD Z Z Z vp Z Z)<|yS Z (zs Z Z Z Z vp Z Z Z Z)<|nT<|zr ?_;cases h;exact aD (.one (eh Z Z))<|⟨rfl,rfl⟩
structure il where
 t20:Int
 v_in:Vw
 offers:List Of
def rN (w:Wd) (al:Vw) (wh:Int) (me:Bool) (cl:List Ac) (at_:Int) (x1:il):Option (il⊕il):=bif decide (x1.t20<(cl.length:Int))then (ix cl x1.t20).bind fun y1=>bif decide (0<=at_)then bif (bits .and .i64 (y1.To.fdiv (2 ^ (min (Int.toNat at_) i64.bits))) 1)==0 then some (.inl (il.mk (i64.wrap (x1.t20+1)) x1.v_in x1.offers))else (zu y1 w al).bind fun v2=>bif !y1.Offer then (GP x1.v_in v2).bind fun v3=>some (.inl (il.mk (i64.wrap (x1.t20+1)) v3 x1.offers))else (bif me then some (decide ((v2.B.length:Int)>0))else some false).bind fun v4=>bif v4 then (ix v2.B 0).bind fun y2=>bif xp v2.B 1 v2.B.length then bif bG x1.offers.length [Of.mk (i64.wrap (w.Tick.tdiv 3)) wh y2 (Vw.mk (v2.B.drop (1:Int).toNat) v2.V)].length 104 then some (.inl (il.mk (i64.wrap (x1.t20+1)) x1.v_in (x1.offers++[Of.mk (i64.wrap (w.Tick.tdiv 3)) wh y2 (Vw.mk (v2.B.drop (1:Int).toNat) v2.V)])))else none else none else some (.inl (il.mk (i64.wrap (x1.t20+1)) x1.v_in x1.offers))else none else some (.inr (il.mk x1.t20 x1.v_in x1.offers))
def Nk (w:Wd)(al:Vw)(wh:Int)(me:Bool)(cl:List Ac)(at_:Int):Option (Vw×List Of):=bif bG 0 w.O.length 104 then (iter (rN w al wh me cl at_) aY (il.mk 0 al w.O)).bind fun v1=>some (v1.v_in,v1.offers)else none
theorem QV {w:Wd}{at_:Int}{r_:Vw×List Of}(h:Nk w al wh me cl at_=some r_):LC prog 63 [.agg (nQ w al wh me cl 111 5 4),(iQ at_)] (hM w al wh me cl 111 110) (Is (.tup [.p (iW r_.1),(kO r_.2)]) (hM w al wh me cl 111 110)):=by
 refine eP Tryz.func63 Z Z Z ?_;unfold Nk at h;refine qR<|yS Z (bv Z Z Z Z Z)<|yS Z (ze Z d7 Z Z)<|mN Z<|zQ<|LW.ent (bW.slot Z)<|LW.ent (bW.slot Z)<|fC<|yG Z (fun H _=>zA Z Z uE)<|yF Z (zd Z Z Z aI Z Z) Z<|yG Z (fun H _=>zA Z Z HC)<|yG Z (fun H _=>zA Z Z eJ)<|yF Z (zd Z Z Z bq Z Z) Z<|zg h fun q1 h=>?_;refine yF Z (ch.callV (id:=9) (qs:=[(kO w.O)]) Z Z Z (by kernel_rfl) (Hk q1) (fun H=>(.consC zv .nil)) Z) Z ?_;refine yF Z (ch.alloc Z d7 (id:=8) Z) Z<|yF Z (zt Z Z Z Z aI Z Z Z) Z<|zK Z ?_;refine LF.nil ⟨by kernel_rfl,?_⟩;refine zT<|zQ<|qR<|yS Z (zA Z Z AA)<|yS Z (zD Z Z Z Iu Z Z)<|yS Z (cx Z Z)<|mN Z ?_;obtain⟨v1,p1,b1⟩:=zB h;clear h;refine LW.tail (E:=[(4,.ptr 7 0),(5,.zs),(6,.ptr 8 0),(7,(jO 9 v1.offers))]) (O:=[.box (gu w),.box ph,.box (gu w),.box (nQ w al wh me cl 111 5 4),.box (nQ w al wh me cl 111 5 4),.box [.fn 110 [] [.ptr 2 0]],.box (nQ w al wh me cl 111 5 4),.box [.zs,.zs],.box (cE v1.v_in),.vec 9 (v1.offers.map da)]) ?_<|fun e1 K1 u1=>?_
 ·refine LW.block ?_;refine LW.iterB (E:=fun x1:il=>[(1,(iQ at_)),(2,.ptr 6 0),(4,.ptr 7 0),(5,.zs),(6,.ptr 8 0),(7,(jO 9 x1.offers)),(18,.p (.slice 5 (cl.map mZ))),(19,.p (.int .i64 (cl.length:Int))),(20,(iQ x1.t20))]) (O:=fun x1=>[.box (gu w),.box ph,.box (gu w),.box (nQ w al wh me cl 111 5 4),.box (nQ w al wh me cl 111 5 4),.box [.fn 110 [] [.ptr 2 0]],.box (nQ w al wh me cl 111 5 4),.box [.zs,.zs],.box (cE x1.v_in),.vec 9 (x1.offers.map da)]) p1 (au 10 ⟨Z,Z,Z,Z,Z,Z,Z,Z,Z,t_⟩)<|fun x1 z1 h m1=>?_;unfold rN at h;refine qR<|yS Z (am Z Z Z Z)<|nT<|zQ ?_;refine zX Z (fun g1=>?_)<|fun g1=>?_
  ·refine zi g1 h fun h=>zk<|zT<|zQ<|zl<|qR<|zb h fun y1 j1 h=>yS Z (zx Z Z Z ke j1 Z)<|yS Z (bS Z Z Z n4 Z Z)<|yS Z (ze Z IL Z Z)<|yS Z (zs Z Z Z Z n4 Z Z Z Z)<|nT<|zQ<|qR<|yS Z (zA Z Z qM)<|yS Z (zD Z Z Z aV Z Z)<|zM Z<|zg h fun q2 h=>yS Z (aa.shr Z Z Z (of_decide_eq_true q2))<|yS Z (am Z Z Z Z)<|yS Z (am Z Z Z Z)<|nT ?_;refine zX Z (fun g2=>?_)<|fun g2=>?_
   ·refine zi g2 h fun h=>zq<|aj<|zy<|zT<|zR<|yS Z (am Z Z Z Z)<|mN Z ?_;cases h;exact⟨_,rfl,au 10 ⟨Z,Z,Z,Z,Z,Z,Z,Z,Z,t_⟩⟩
   ·refine zo g2 h fun h=>zk<|zT<|qR<|yS Z (zA Z Z Ay)<|yS Z (zD Z Z Z IB Z Z)<|yS Z (zD Z Z Z n4 Z Z)<|zb h fun v2 a2 h=>yS Z (yC Z Z Z (LC.pre (Ml a2) Z Z Z))<|yS Z (ze Z d7 Z Z)<|yS Z (zs Z Z Z Z aI Z Z Z Z)<|nT<|zl<|qR<|yS Z (zA Z Z Au)<|yS Z (zD Z Z Z vo Z Z)<|yS Z (aa.not Z Z)<|mN Z ?_;refine zX Z (fun g3=>?_)<|fun g3=>?_
    ·refine zi g3 h fun h=>zR<|yS Z (zD Z Z Z aI Z Z)<|yS Z (zD Z Z Z aI Z Z)<|zb h fun v3 a3 h=>yS Z (yP Z Z Z (L8 a3) bR)<|yS Z (zs Z Z Z Z aI Z Z Z Z)<|zN<|ae<|ae<|zT<|zR<|yS Z (am Z Z Z Z)<|mN Z ?_;cases h;exact⟨_,rfl,au 10 ⟨Z,Z,Z,Z,Z,Z,Z,Z,Z,t_⟩⟩
    ·have h:=zO g3 h;obtain⟨v4,p4,b4⟩:=zB h;clear h;refine LW.cut (E:=[(1,(iQ at_)),(2,.ptr 6 0),(4,.ptr 7 0),(5,.zs),(6,.ptr 8 0),(7,(jO 9 x1.offers)),(10,.ptr 11 0),(18,.p (.slice 5 (cl.map mZ))),(19,.p (.int .i64 (cl.length:Int))),(20,(iQ x1.t20)),(41,(bQ v4))]) (O:=[.box (gu w),.box ph,.box (gu w),.box (nQ w al wh me cl 111 5 4),.box (nQ w al wh me cl 111 5 4),.box [.fn 110 [] [.ptr 2 0]],.box (nQ w al wh me cl 111 5 4),.box [.zs,.zs],.box (cE x1.v_in),.vec 9 (x1.offers.map da),.box [(iQ y1.Tick),(iQ y1.To),(bQ y1.Offer),(kB y1.B),(kV y1.V)],.box (cE v2)]) ?_ ?_
     ·have h:=p4;refine zR<|yS Z (zA Z Z Ax)<|yS Z (zD Z Z Z vo Z Z)<|zM Z ?_;refine zc 44 Z (fun g4=>?_)<|fun g4=>?_
      ·refine zi g4 h fun h=>yV Z (gd g4 Z) (zA Z Z aL)<|yV Z (gd g4 Z) (zD Z Z Z bL Z Z)<|yV Z (gd g4 Z) (cx Z Z)<|yV Z (gd g4 Z) (am Z Z Z Z)<|yS Z (bA Z (aK g4 Z) Z)<|mN Z ?_;cases h;exact au 12 ⟨Z,Z,Z,Z,Z,Z,Z,Z,Z,Z,Z,t_⟩
      ·refine zo g4 h fun h=>yU Z (gd g4 Z) Z<|yU Z (gd g4 Z) Z<|yU Z (gd g4 Z) Z<|yU Z (gd g4 Z) Z<|yS Z (aU Z (aK g4 Z) Z)<|mN Z ?_;cases h;exact au 12 ⟨Z,Z,Z,Z,Z,Z,Z,Z,Z,Z,Z,t_⟩
     ·have h:=b4;clear p4;refine zX Z (fun g5=>?_)<|fun g5=>?_
      ·refine zi g5 h fun h=>fC<|zK Z<|yG Z (fun H _=>zA Z Z Az)<|yF Z (zd Z Z Z aV Z Z) Z<|yG Z (fun H _=>zA Z Z uF)<|yF Z (zd Z Z Z aV Z Z) Z<|yG Z (fun H _=>zA Z Z aL)<|yF Z (zd Z Z Z bL Z Z) Z<|zb h fun y2 j2 h=>yG Z (fun H _=>zx Z Z Z cp j2 Z)<|yG Z (fun H _=>bS Z Z Z ca Z Z)<|yG Z (fun H _=>zA Z Z aL)<|yF Z (zd Z Z Z bL Z Z) Z<|zg h fun q3 h=>yG Z (fun H _=>aa.sliceLo Z Z Z cp q3)<|yG Z (fun H _=>zA Z Z aS)<|yF Z (zd Z Z Z cq Z Z) Z<|yG Z (fun H _=>aa.build Z nF Z Z Z)<|yG Z (fun H _=>aa.build Z xa Z Z Z)<|yG Z (fun H _=>gU Z bp Z Z Z Z Z)<|zg h fun q4 h=>yF Z (ch.appendX da x1.offers [Of.mk (i64.wrap (w.Tick.tdiv 3)) wh y2 (Vw.mk (v2.B.drop (1:Int).toNat) v2.V)] rfl Z Z Z Z bp q4) Z<|zK Z ?_;refine LF.nil ⟨by kernel_rfl,?_⟩;refine ae<|ae<|zT<|zR<|yS Z (am Z Z Z Z)<|mN Z ?_;cases h;exact⟨_,rfl,au 10 ⟨Z,Z,Z,Z,Z,Z,Z,Z,Z,t_⟩⟩
      ·refine zo g5 h fun h=>zk<|ae<|ae<|zT<|zR<|yS Z (am Z Z Z Z)<|mN Z ?_;cases h;exact⟨_,rfl,au 10 ⟨Z,Z,Z,Z,Z,Z,Z,Z,Z,t_⟩⟩
  ·refine zo g1 h fun h=>zq<|aj<|aj<|zy<|zT ?_;cases h;obtain rfl:=(m1 _ rfl);exact au 10 ⟨Z,Z,Z,Z,t_⟩
 ·have h:=b1;clear p1;refine zT<|LW.weak u1<|zQ<|LW.ent (bW.frz (t:=7) (env':=[(4,.ptr 7 0),(6,.ptr 8 0)]) (H0:=[.box (gu w),.box ph,.box (gu w),.box (nQ w al wh me cl 111 5 4),.box (nQ w al wh me cl 111 5 4),.box [.fn 110 [] [.ptr 2 0]],.box (nQ w al wh me cl 111 5 4),.box [.zs,.zs],.box (cE v1.v_in)]) Z Z Z Z Z ⟨Z,Z,t_⟩ Z Z)<|zR<|yS Z (zD Z Z Z aI Z Z)<|zM Z<|yS Z (zs Z Z Z Z aI Z Z Z Z)<|mN Z<|zr ?_;cases h;exact lI (env':=[]) (H':=(hM w al wh me cl 111 110)) (au 6 trivial) (.two (eh Z Z) (.tmp Z)) Z<|⟨rfl,rfl⟩
structure fR where
 t43:Int
 o9:List Nd
 o10:List Of
def lm (w:Wd)(v4:Vw×Int×Bool×List Ac)(x1:fR):Option (fR⊕fR):=bif decide (x1.t43<(w.N.length:Int))then (Nk w v4.1 v4.2.1 v4.2.2.1 v4.2.2.2 x1.t43).bind fun v6=>(ix w.N x1.t43).bind fun y1=>(kx w.C y1 v6.1 v6.2).bind fun v7=>bif bG x1.o9.length [v7.1].length 176 then bif bG x1.o10.length v7.2.length 104 then some (.inl (fR.mk (i64.wrap (x1.t43+1)) (x1.o9++[v7.1]) (x1.o10++v7.2)))else none else none else some (.inr (fR.mk x1.t43 x1.o9 x1.o10))
def tW (w:Wd)(l:List Ac):Option Wd:=((D9 w.C).bind fun v2=>bif !v2 then some true else bif decide (w.Tick<3)then some true else some (decide (w.Tick>=3145728))).bind fun v1=>bif v1 then (sP w).bind fun _=>some w else (zF w l).bind fun v4=>bif bG 0 w.Bad.length 8 then (iter (lm w v4) aY (fR.mk 0 ([]:List Nd) ([]:List Of))).bind fun v5=>some (Wd.mk w.C w.Bad (i64.wrap (w.Tick+1)) v5.o9 v5.o10)else none
theorem Om {w:Wd}{r_:Wd}(h:tW w l=some r_):aq prog 25 [xJ w,.slice 5 (l.map mZ)] [xJ r_]:=by
 refine zh Tryz.func25 Z Z Z Z ?_;unfold tW at h;refine qR<|yS Z (bv Z Z Z Z Z)<|yS Z (ze Z gS Z Z)<|nT<|zQ ?_;obtain⟨v1,p1,b1⟩:=zB h;clear h;refine LW.cut (E:=[(1,.p (.slice 5 (l.map mZ))),(2,.ptr 0 0),(4,.ptr 1 0),(25,(bQ v1))]) (O:=[.box (gu w),.box ph]) ?_ ?_
 ·have h:=p1;refine zR<|yS Z (zA Z Z iO)<|yS Z (zD Z Z Z bd Z Z)<|zb h fun v2 a2 h=>yS Z (yP Z Z Z (L5 a2) dB)<|yS Z (aa.not Z Z)<|zM Z ?_;refine zc 16 Z (fun g1=>?_)<|fun g1=>?_
  ·refine zi g1 h fun h=>yU Z (gd g1 Z) Z<|yU Z (gd g1 Z) Z<|yU Z (gd g1 Z) Z<|yS Z (bA Z (aK g1 Z) Z)<|zM Z<|aB Z<|aB Z<|aB Z<|yS Z (bA Z Z Z)<|nT ?_;cases h;exact au 2 ⟨Z,Z,Z,Z,t_⟩
  ·refine zo g1 h fun h=>yV Z (gd g1 Z) (zA Z Z cT)<|yV Z (gd g1 Z) (zD Z Z Z aV Z Z)<|yV Z (gd g1 Z) (am Z Z Z Z)<|yS Z (aU Z (aK g1 Z) Z)<|zM Z ?_;refine zc 21 Z (fun g2=>?_)<|fun g2=>?_
   ·refine zi g2 h fun h=>yU Z (gd g2 Z) Z<|yU Z (gd g2 Z) Z<|yU Z (gd g2 Z) Z<|yS Z (bA Z (aK g2 Z) Z)<|nT ?_;cases h;exact au 2 ⟨Z,Z,Z,Z,t_⟩
   ·refine zo g2 h fun h=>yV Z (gd g2 Z) (zA Z Z cT)<|yV Z (gd g2 Z) (zD Z Z Z aV Z Z)<|yV Z (gd g2 Z) (am Z Z Z Z)<|yS Z (aU Z (aK g2 Z) Z)<|nT ?_;cases h;exact au 2 ⟨Z,Z,Z,Z,t_⟩
 ·have h:=b1;clear p1;refine zX Z (fun g3=>?_)<|fun g3=>?_
  ·refine zi g3 h fun h=>qR<|yS Z (zD Z Z Z bD Z Z)<|zb h fun v3 a3 h=>?_;obtain rfl:=yN a3;refine yS Z (yP Z Z Z (KI a3) dB)<|yS Z (zs Z Z Z Z bD Z Z Z Z)<|nT<|zr<|af ?_;cases h;exact zf (.one (eh Z Z)) zv
  ·refine zo g3 h fun h=>zk<|zT<|qR<|yS Z (zD Z Z Z bD Z Z)<|zM Z<|zb h fun v4 a4 h=>yS Z (zC Z Z Z (by kernel_rfl) (LC.frameX (x':=.agg (nQ w v4.1 v4.2.1 v4.2.2.1 v4.2.2.2 111 5 4)) (H':=[.box (gu w),.box ph,.box (gu w),.box (nQ w v4.1 v4.2.1 v4.2.2.1 v4.2.2.2 111 5 4),.box (nQ w v4.1 v4.2.1 v4.2.2.1 v4.2.2.2 111 5 4),.box [.fn 110 [] [.ptr 2 0]]]) (Mo a4) (.consC zv (.consC zv .nil)) Z (by simp only[List.map_cons,List.map_nil,List.cons_append,List.nil_append,ab.shift,LV.shifts,LV.shift] <;>rfl) (by simp only[List.map_cons,List.map_nil,List.cons_append,List.nil_append,ab.shift,LV.shifts,LV.shift] <;>rfl)))<|yS Z (ze Z Cz Z Z)<|yS Z (zs Z Z Z Z vp Z Z Z Z)<|nT<|zQ<|LW.ent (bW.slot Z)<|LW.ent (bW.slot Z)<|fC<|yG Z (fun H _=>zA Z Z iO)<|yF Z (zd Z Z Z bd Z Z) Z<|yG Z (fun H _=>zA Z Z dc)<|yF Z (zd Z Z Z d6 Z Z) Z<|zg h fun q1 h=>?_;refine yF Z (ch.callV (id:=7) (qs:=[(kI w.Bad)]) Z Z Z (by kernel_rfl) (BI q1) (fun H=>(.consC zv .nil)) Z) Z ?_;refine yG Z (fun H _=>zA Z Z cT)<|yF Z (zd Z Z Z aV Z Z) Z<|yG Z (fun H _=>am Z Z Z Z)<|yG Z (fun H _=>aa.build Z w8 Z Z Z)<|yF Z (ch.alloc Z gS (id:=8) Z) Z<|yF Z (zt Z Z Z Z bD Z Z Z) Z ?_;refine LF.nil ⟨by kernel_rfl,?_⟩;refine zT<|zQ<|zQ<|LW.ent (bW.lazyCell (i:=8) (j:=7) (m:=12) Z Z Z Z Z Z)<|LW.ent (bW.lazyCell (i:=8) (j:=8) (m:=9) Z Z Z Z Z Z)<|zR<|yS Z (zA Z Z bF)<|yS Z (zD Z Z Z cY Z Z)<|yS Z (cx Z Z)<|mN Z ?_;obtain⟨v5,p5,b5⟩:=zB h;clear h;refine LW.tail (E:=[(4,.ptr 1 0),(6,.ptr 8 0)]) (O:=[.box (gu w),.box ph,.box (gu w),.box (nQ w v4.1 v4.2.1 v4.2.2.1 v4.2.2.2 111 5 4),.box (nQ w v4.1 v4.2.1 v4.2.2.1 v4.2.2.2 111 5 4),.box [.fn 110 [] [.ptr 2 0]],.box (nQ w v4.1 v4.2.1 v4.2.2.1 v4.2.2.2 111 5 4),.vec 1 (w.Bad.map be),.box [(kI w.C.W),(uQ w.C.Seed),(iQ w.C.Epoch),(iQ w.C.Num),(iQ w.C.Den),(jI 7 w.Bad),.p (.int .i64 (i64.wrap (w.Tick+1))),.vec 12 9 (v5.o9.map dH).length 0 (v5.o9.map dH).length,(jO 10 v5.o10)],.vec 12 (v5.o9.map dH),.vec 9 (v5.o10.map da)]) ?_<|fun e5 K5 u5=>?_
   ·refine LW.block ?_;refine LW.iterB (E:=fun x1:fR=>[(2,.ptr 0 0),(4,.ptr 1 0),(5,.ptr 6 0),(6,.ptr 8 0),(42,.p (.int .i64 (w.N.length:Int))),(43,(iQ x1.t43))]) (O:=fun x1=>[.box (gu w),.box ph,.box (gu w),.box (nQ w v4.1 v4.2.1 v4.2.2.1 v4.2.2.2 111 5 4),.box (nQ w v4.1 v4.2.1 v4.2.2.1 v4.2.2.2 111 5 4),.box [.fn 110 [] [.ptr 2 0]],.box (nQ w v4.1 v4.2.1 v4.2.2.1 v4.2.2.2 111 5 4),.vec 1 (w.Bad.map be),.box [(kI w.C.W),(uQ w.C.Seed),(iQ w.C.Epoch),(iQ w.C.Num),(iQ w.C.Den),(jI 7 w.Bad),.p (.int .i64 (i64.wrap (w.Tick+1))),.vec 12 9 (x1.o9.map dH).length 0 (x1.o9.map dH).length,(jO 10 x1.o10)],.vec 12 (x1.o9.map dH),.vec 9 (x1.o10.map da)]) p5 (au 11 ⟨Z,Z,Z,Z,Z,Z,t_⟩)<|fun x1 z1 h m1=>?_;unfold lm at h;refine qR<|yS Z (am Z Z Z Z)<|nT<|zQ ?_;refine zX Z (fun g4=>?_)<|fun g4=>?_
    ·refine zi g4 h fun h=>zk<|zT<|zQ<|zl<|qR<|zM Z<|mN Z<|qR<|yS Z (zD Z Z Z vp Z Z)<|zM Z<|zb h fun v6 a6 h=>yS Z (yC Z Z Z (LC.pre (QV a6) Z Z Z))<|zM Z<|yS Z (eZ Z Z Z)<|yS Z (eZ Z Z Z)<|yS Z (ze Z d7 Z Z)<|yS Z (zs Z Z Z Z aI Z Z Z Z)<|mN Z<|zQ<|LW.ent (bW.slot Z)<|fC<|yG Z (fun H _=>zA Z Z iO)<|yF Z (zd Z Z Z bd Z Z) Z<|yG Z (fun H _=>zA Z Z bF)<|yF Z (zd Z Z Z cY Z Z) Z<|zK Z<|zb h fun y1 j1 h=>yG Z (fun H _=>zx Z Z Z dM j1 Z)<|yG Z (fun H _=>bS Z Z Z aP Z Z)<|yF Z (zd Z Z Z aI Z Z) Z<|zK Z<|zb h fun v7 a7 h=>?_;refine yF (F:=[]) (s:=none) Z (fun H _=>yP Z Z Z (NU a7) wL) Z ?_;refine zK Z<|yG Z (fun H _=>eZ Z Z Z)<|yG Z (fun H _=>eZ Z Z Z)<|yF Z (ch.alloc Z eX (id:=12) Z) Z<|yF Z (zt Z Z Z Z aP Z Z Z) Z<|zK Z ?_;refine LF.nil ⟨by kernel_rfl,?_⟩;refine zT<|fC<|yG Z (fun H _=>zA Z Z bF)<|yF Z (zd Z Z Z cY Z Z) Z<|yF Z (zd Z Z Z aP Z Z) Z<|yG Z (fun H _=>gU Z dM Z Z Z Z Z)<|zg h fun q2 h=>yF Z (ch.appendX dH x1.o9 [v7.1] rfl Z Z Z Z dM q2) Z<|yG Z (fun H _=>zA Z Z eJ)<|yF Z (zd Z Z Z bq Z Z) Z<|zK Z<|zg h fun q3 h=>yF Z (ch.appendX da x1.o10 v7.2 Z Z Z Z Z bp q3) Z<|yG Z (fun H _=>zA Z Z bF)<|yF Z (zt Z Z Z Z cY Z Z Z) Z<|yG Z (fun H _=>zA Z Z eJ)<|yF Z (zt Z Z Z Z bq Z Z Z) Z ?_;refine LF.nil ⟨by kernel_rfl,?_⟩;refine ae<|zT<|zR<|yS Z (am Z Z Z Z)<|mN Z ?_;cases h;exact⟨_,rfl,au 11 ⟨Z,Z,Z,Z,Z,Z,t_⟩⟩
    ·refine zo g4 h fun h=>zq<|aj<|aj<|zy<|zT ?_;cases h;obtain rfl:=(m1 _ rfl);exact au 11 ⟨Z,Z,t_⟩
   ·have h:=b5;clear p5;refine zT<|LW.weak u5<|qR<|yS Z (zD Z Z Z bD Z Z)<|yS Z (zs Z Z Z Z bD Z Z Z Z)<|nT<|zr ?_;cases h;exact zf (.one (eh Z Z))<|(Conv.agg (.cons zv (.cons zv (.cons zv (.cons zv (.cons zv (.cons (Conv.vecAll Z Z Z) (.cons zv (.cons (Conv.vecAll Z Z Z) (.cons (Conv.vecAll Z Z Z) .nil))))))))))
structure ff where
 t19:Int
 o4:List Nd
def ll (c:Cf)(bad:List Int)(x1:ff):Option (ff⊕ff):=bif decide (x1.t19<(c.W.length:Int))then (xX bad x1.t19).bind fun v3=>bif !v3 then (CV x1.t19).bind fun v4=>bif bG x1.o4.length [v4].length 176 then some (.inl (ff.mk (i64.wrap (x1.t19+1)) (x1.o4++[v4])))else none else some (.inl (ff.mk (i64.wrap (x1.t19+1)) x1.o4))else some (.inr (ff.mk x1.t19 x1.o4))
def vU (c:Cf)(bad:List Int):Option Wd:=bif bG 0 bad.length 8 then (D9 c).bind fun v1=>bif !v1 then some (Wd.mk c bad 0 [] [])else (iter (ll c bad) aY (ff.mk 0 ([]:List Nd))).bind fun v2=>some (Wd.mk c bad 3 v2.o4 [])else none
theorem KG {bad:List Int}{r_:Wd}(h:vU c bad=some r_):aq prog 28 [gF c,.slice 1 (bad.map be)] [xJ r_]:=by
 refine zh Tryz.func28 Z Z Z Z ?_;unfold vU at h;refine qR<|yS Z (bv Z Z Z Z Z)<|yS Z (ze Z gS Z Z)<|nT<|zQ<|LW.ent (bW.slot Z)<|LW.ent (bW.slot Z)<|fC<|yF Z (zd Z Z Z bd Z Z) Z<|zK Z<|zg h fun q1 h=>?_;refine yF Z (ch.callV (id:=2) (qs:=[(kI bad)]) Z Z Z (by kernel_rfl) (BI q1) (fun H=>(.consC zv .nil)) Z) Z ?_;refine yG Z (fun H _=>aa.build Z w8 Z Z Z)<|yF Z (ch.alloc Z gS (id:=3) Z) Z<|yF Z (zt Z Z Z Z bD Z Z Z) Z ?_;refine LF.nil ⟨by kernel_rfl,?_⟩;refine zT<|zQ<|qR<|yS Z (zD Z Z Z bd Z Z)<|zb h fun v1 a1 h=>yS Z (yP Z Z Z (L5 a1) dB)<|yS Z (aa.not Z Z)<|nT ?_;refine zX Z (fun g1=>?_)<|fun g1=>?_
 ·refine zi g1 h fun h=>qR<|yS Z (zD Z Z Z bD Z Z)<|yS Z (zs Z Z Z Z bD Z Z Z Z)<|nT<|zr<|af ?_;cases h;exact zf (.one (eh Z Z))<|(Conv.agg (.cons zv (.cons zv (.cons zv (.cons zv (.cons zv (.cons (Conv.vecAll Z Z Z) (.cons zv (.cons Conv.zs (.cons Conv.zs .nil))))))))))
 ·refine zo g1 h fun h=>zk<|zT<|qR<|yS Z (zA Z Z cT)<|yS Z (zs Z Z Z Z aV Z Z Z Z)<|nT<|zQ<|zQ<|LW.ent (bW.lazyCell (i:=3) (j:=7) (m:=12) Z Z Z Z Z Z)<|zR<|yS Z (zA Z Z dZ)<|yS Z (zD Z Z Z d6 Z Z)<|yS Z (cx Z Z)<|mN Z ?_;obtain⟨v2,p2,b2⟩:=zB h;clear h;refine LW.tail (E:=[(4,.ptr 1 0),(5,.ptr 3 0)]) (O:=[.box (cd c),.box ph,.vec 1 (bad.map be),.box [(kI c.W),(uQ c.Seed),(iQ c.Epoch),(iQ c.Num),(iQ c.Den),(jI 2 bad),(iQ 3),.vec 12 4 (v2.o4.map dH).length 0 (v2.o4.map dH).length,.zs],.vec 12 (v2.o4.map dH)]) ?_<|fun e2 K2 u2=>?_
  ·refine LW.block ?_;refine LW.iterB (E:=fun x1:ff=>[(1,(kI bad)),(4,.ptr 1 0),(5,.ptr 3 0),(18,.p (.int .i64 (c.W.length:Int))),(19,(iQ x1.t19))]) (O:=fun x1=>[.box (cd c),.box ph,.vec 1 (bad.map be),.box [(kI c.W),(uQ c.Seed),(iQ c.Epoch),(iQ c.Num),(iQ c.Den),(jI 2 bad),(iQ 3),.vec 12 4 (x1.o4.map dH).length 0 (x1.o4.map dH).length,.zs],.vec 12 (x1.o4.map dH)]) p2 (au 5 ⟨Z,Z,Z,Z,Z,t_⟩)<|fun x1 z1 h m1=>?_;unfold ll at h;refine qR<|yS Z (am Z Z Z Z)<|nT<|zQ ?_;refine zX Z (fun g2=>?_)<|fun g2=>?_
   ·refine zi g2 h fun h=>zk<|zT<|zQ<|zl<|qR<|zM Z<|mN Z<|qR<|zM Z<|zM Z<|zb h fun v3 a3 h=>yS Z (yP Z Z Z (JG a3) bR)<|yS Z (aa.not Z Z)<|nT ?_;refine zX Z (fun g3=>?_)<|fun g3=>?_
    ·refine zi g3 h fun h=>fC<|yG Z (fun H _=>zA Z Z bF)<|yF Z (zd Z Z Z cY Z Z) Z<|zK Z<|zb h fun v4 a4 h=>?_;refine yF (F:=[]) (s:=none) Z (fun H _=>yP Z Z Z (NZ a4) dB) Z ?_;refine yG Z (fun H _=>gU Z dM Z Z Z Z Z)<|zg h fun q2 h=>yF Z (ch.appendX dH x1.o4 [v4] rfl Z Z Z Z dM q2) Z<|yG Z (fun H _=>zA Z Z bF)<|yF Z (zt Z Z Z Z cY Z Z Z) Z ?_;refine LF.nil ⟨by kernel_rfl,?_⟩;refine ae<|zT<|zR<|yS Z (am Z Z Z Z)<|mN Z ?_;cases h;exact⟨_,rfl,au 5 ⟨Z,Z,Z,Z,Z,t_⟩⟩
    ·refine zo g3 h fun h=>zk<|ae<|zT<|zR<|yS Z (am Z Z Z Z)<|mN Z ?_;cases h;exact⟨_,rfl,au 5 ⟨Z,Z,Z,Z,Z,t_⟩⟩
   ·refine zo g2 h fun h=>zq<|aj<|aj<|zy<|zT ?_;cases h;obtain rfl:=(m1 _ rfl);exact au 5 ⟨Z,Z,t_⟩
  ·have h:=b2;clear p2;refine zT<|LW.weak u2<|qR<|yS Z (zD Z Z Z bD Z Z)<|yS Z (zs Z Z Z Z bD Z Z Z Z)<|nT<|zr ?_;cases h;exact zf (.one (eh Z Z))<|(Conv.agg (.cons zv (.cons zv (.cons zv (.cons zv (.cons zv (.cons (Conv.vecAll Z Z Z) (.cons zv (.cons (Conv.vecAll Z Z Z) (.cons Conv.zs .nil))))))))))
structure fS where
 t11:Int
 w:Wd
def ln (l:List Ac)(ticks:Int)(x1:fS):Option (fS⊕fS):=bif decide (x1.t11<(if 300<ticks then 300 else ticks))then (tW x1.w l).bind fun v3=>some (.inl (fS.mk (i64.wrap (x1.t11+1)) v3))else some (.inr (fS.mk x1.t11 x1.w))
def tX (w:Wd)(l:List Ac)(ticks:Int):Option Wd:=(sP w).bind fun _=>(iter (ln l ticks) aY (fS.mk 0 w)).bind fun v2=>some v2.w
theorem KH {w:Wd}{ticks:Int}{r_:Wd}(h:tX w l ticks=some r_):aq prog 32 [xJ w,.slice 5 (l.map mZ),.int .i64 ticks] [xJ r_]:=by
 refine zh Tryz.func32 Z Z Z Z ?_;unfold tX at h;refine qR<|yS Z (bv Z Z Z Z Z)<|yS Z (ze Z gS Z Z)<|nT<|qR<|yS Z (zD Z Z Z bD Z Z)<|zb h fun v1 a1 h=>?_;obtain rfl:=yN a1;refine yS Z (yP Z Z Z (KI a1) dB)<|yS Z (zs Z Z Z Z bD Z Z Z Z)<|nT<|zQ<|qR<|zM Z<|yS Z (aa.min Z Z Z)<|mN Z ?_;obtain⟨v2,p2,q2⟩:=zB h;clear h;refine LW.tail (E:=[(3,.ptr 0 0),(6,.ptr 1 0)]) (O:=[.box (gu v2.w),.box ph]) ?_<|fun e2 K2 u2=>?_
 ·refine LW.block ?_;refine LW.iterB (E:=fun x1:fS=>[(1,.p (.slice 5 (l.map mZ))),(3,.ptr 0 0),(6,.ptr 1 0),(10,.p (.int .i64 (if 300<ticks then 300 else ticks))),(11,(iQ x1.t11))]) (O:=fun x1=>[.box (gu x1.w),.box ph]) p2 (au 2 ⟨Z,Z,Z,Z,Z,t_⟩)<|fun x1 z1 h m1=>?_;unfold ln at h;refine qR<|yS Z (am Z Z Z Z)<|nT<|zQ ?_;refine zX Z (fun g1=>?_)<|fun g1=>?_
  ·refine zi g1 h fun h=>zk<|zT<|zQ<|zl<|zR<|yS Z (zD Z Z Z bD Z Z)<|zM Z<|zb h fun v3 a3 h=>yS Z (yP Z Z Z (Om a3) bR)<|yS Z (zs Z Z Z Z bD Z Z Z Z)<|zN<|ae<|zT<|zR<|yS Z (am Z Z Z Z)<|mN Z ?_;cases h;exact⟨_,rfl,au 2 ⟨Z,Z,Z,Z,Z,t_⟩⟩
  ·refine zo g1 h fun h=>zq<|aj<|aj<|zy<|zT ?_;cases h;obtain rfl:=(m1 _ rfl);exact au 2 ⟨Z,Z,t_⟩
 ·have h:=q2;clear p2;refine zT<|LW.weak u2<|qR<|yS Z (zD Z Z Z bD Z Z)<|yS Z (zs Z Z Z Z bD Z Z Z Z)<|nT<|zr ?_;cases h;exact zf (.one (eh Z Z)) zv
structure iH where
 i:Int
def qj (a:List Of)(b:List Of)(x1:iH):Option (iH⊕(iH⊕Bool)):=bif decide (x1.i<(a.length:Int))then (ix a x1.i).bind fun y1=>(ix b x1.i).bind fun y2=>(Kn y1.V y2.V).bind fun v2=>bif !v2 then some (.inr (.inr false))else (ix a x1.i).bind fun y3=>(ix b x1.i).bind fun y4=>bif y3.Slot != y4.Slot then some (.inr (.inr false))else (ix a x1.i).bind fun y5=>(ix b x1.i).bind fun y6=>bif y5.From != y6.From then some (.inr (.inr false))else (ix a x1.i).bind fun y7=>(ix b x1.i).bind fun y8=>bif !((y7.B.Slot==y8.B.Slot)&&((y7.B.From==y8.B.From)&&((y7.B.Parent.1==y8.B.Parent.1)&&((y7.B.Parent.2==y8.B.Parent.2)&&((y7.B.Salt==y8.B.Salt)&&true)))))then some (.inr (.inr false))else some (.inl (iH.mk (i64.wrap (x1.i+1))))else some (.inr (.inl (iH.mk x1.i)))
def vN (a:List Of)(b:List Of):Option Bool:=bif (a.length:Int) != (b.length:Int)then some false else (iter (qj a b) aY (iH.mk 0)).bind fun b_v1=>Sum.elim (fun _=>some true) some b_v1
theorem Kz {a:List Of}(h:vN a b=some r_):aq prog 52 [.slice 9 (a.map da),.slice 9 (b.map da)] [.bool r_]:=by
 refine zh Tryz.func52 Z Z Z Z ?_;unfold vN at h;refine qR<|mN Z<|zQ<|qR<|zM Z<|yS Z (cx Z Z)<|zM Z<|yS Z (cx Z Z)<|yS Z (am Z Z Z Z)<|nT ?_;refine zX Z (fun g1=>?_)<|fun g1=>?_
 ·refine zi g1 h fun h=>qR<|mN Z<|LW.ret<|af ?_;cases h;exact ba Z
 ·refine zo g1 h fun h=>zk<|zT<|zQ<|qR<|mN Z ?_;obtain⟨w1,p1,q1⟩:=zB h;clear h;refine LW.tailB (b:=w1) (E:=fun v1=>[(4,(bQ false))]) (O:=fun v1=>[]) ?_<|fun v1 f1 e1 K1 u1=>?_
  ·refine LW.block ?_;refine LW.iterB (E:=fun x1:iH=>[(0,(kO a)),(1,(kO b)),(4,(bQ false)),(5,(iQ x1.i))]) (O:=fun x1=>[]) p1 (au 0 ⟨Z,Z,Z,Z,t_⟩)<|fun x1 z1 h m1=>?_;unfold qj at h;refine zQ<|qR<|zM Z<|zM Z<|yS Z (cx Z Z)<|yS Z (am Z Z Z Z)<|nT ?_;refine zX Z (fun g2=>?_)<|fun g2=>?_
   ·refine zi g2 h fun h=>zk<|zT<|zQ<|zl<|zQ<|dy<|zH Z<|zH Z<|zb h fun y1 j1 h=>yE Z (zx Z Z Z bp j1 Z)<|yE Z (aa.fieldAddrC Z Z fZ Z)<|yE Z (bS Z Z Z aI Z Z)<|zH Z<|zH Z<|zb h fun y2 j2 h=>yE Z (zx Z Z Z bp j2 Z)<|yE Z (aa.fieldAddrC Z Z fZ Z)<|yE Z (bS Z Z Z aI Z Z)<|zb h fun v2 a2 h=>yE Z (yP Z Z Z (QS a2) bR)<|zH Z<|LO.nil<|zT<|zQ<|dy<|zH Z<|yE Z (aa.not Z Z)<|zH Z ?_;refine LO.cases 31 Z (fun(g3:(!v2)=true)=>?_) (fun(g3:(!v2)=false)=>?_)
    ·refine zi g3 h fun h=>yK Z (gd g3 Z) Z<|yK Z (gd g3 Z) Z<|yK Z (gd g3 Z) Z<|yK Z (gd g3 Z) Z<|yK Z (gd g3 Z) Z<|yK Z (gd g3 Z) Z<|yK Z (gd g3 Z) Z<|yK Z (gd g3 Z) Z<|yK Z (gd g3 Z) Z<|yK Z (gd g3 Z) Z<|yK Z (gd g3 Z) Z<|yE Z (bA Z (aK g3 Z) Z)<|zH Z<|bY Z<|bY Z<|bY Z<|bY Z<|bY Z<|bY Z<|bY Z<|bY Z<|bY Z<|bY Z<|bY Z<|yE Z (bA Z Z Z)<|zH Z<|bY Z<|bY Z<|bY Z<|bY Z<|bY Z<|bY Z<|bY Z<|bY Z<|bY Z<|bY Z<|bY Z<|yE Z (bA Z Z Z)<|LO.nil<|zT<|LW.condT Z<|qR<|mN Z<|zr<|ao<|af<|af<|ao<|af<|af ?_;cases h;obtain rfl:=(m1 _ rfl);have h:=bT q1;cases h;exact ba Z
    ·refine zo g3 h fun h=>yL Z (gd g3 Z) (zm Z Z)<|yL Z (gd g3 Z) (zm Z Z)<|zb h fun y3 j3 h=>yL Z (gd g3 Z) (zx Z Z Z bp j3 Z)<|yL Z (gd g3 Z) (aa.fieldAddrC Z Z lN Z)<|yL Z (gd g3 Z) (bS Z Z Z aV Z Z)<|yL Z (gd g3 Z) (zm Z Z)<|yL Z (gd g3 Z) (zm Z Z)<|zb h fun y4 j4 h=>yL Z (gd g3 Z) (zx Z Z Z bp j4 Z)<|yL Z (gd g3 Z) (aa.fieldAddrC Z Z lN Z)<|yL Z (gd g3 Z) (bS Z Z Z aV Z Z)<|yL Z (gd g3 Z) (am Z Z Z Z)<|yE Z (aU Z (aK g3 Z) Z)<|zH Z ?_;refine LO.cases 44 Z (fun(g4:(y3.Slot != y4.Slot)=true)=>?_) (fun(g4:(y3.Slot != y4.Slot)=false)=>?_)
     ·refine zi g4 h fun h=>yK Z (gd g4 Z) Z<|yK Z (gd g4 Z) Z<|yK Z (gd g4 Z) Z<|yK Z (gd g4 Z) Z<|yK Z (gd g4 Z) Z<|yK Z (gd g4 Z) Z<|yK Z (gd g4 Z) Z<|yK Z (gd g4 Z) Z<|yK Z (gd g4 Z) Z<|yK Z (gd g4 Z) Z<|yK Z (gd g4 Z) Z<|yE Z (bA Z (aK g4 Z) Z)<|zH Z<|bY Z<|bY Z<|bY Z<|bY Z<|bY Z<|bY Z<|bY Z<|bY Z<|bY Z<|bY Z<|bY Z<|yE Z (bA Z Z Z)<|LO.nil<|zT<|LW.condT Z<|qR<|mN Z<|zr<|ao<|af<|af<|ao<|af<|af ?_;cases h;obtain rfl:=(m1 _ rfl);have h:=bT q1;cases h;exact ba Z
     ·refine zo g4 h fun h=>yL Z (gd g4 Z) (zm Z Z)<|yL Z (gd g4 Z) (zm Z Z)<|zb h fun y5 j5 h=>yL Z (gd g4 Z) (zx Z Z Z bp j5 Z)<|yL Z (gd g4 Z) (aa.fieldAddrC Z Z lO Z)<|yL Z (gd g4 Z) (bS Z Z Z aV Z Z)<|yL Z (gd g4 Z) (zm Z Z)<|yL Z (gd g4 Z) (zm Z Z)<|zb h fun y6 j6 h=>yL Z (gd g4 Z) (zx Z Z Z bp j6 Z)<|yL Z (gd g4 Z) (aa.fieldAddrC Z Z lO Z)<|yL Z (gd g4 Z) (bS Z Z Z aV Z Z)<|yL Z (gd g4 Z) (am Z Z Z Z)<|yE Z (aU Z (aK g4 Z) Z)<|zH Z ?_;refine LO.cases 57 Z (fun(g5:(y5.From != y6.From)=true)=>?_) (fun(g5:(y5.From != y6.From)=false)=>?_)
      ·refine zi g5 h fun h=>yK Z (gd g5 Z) Z<|yK Z (gd g5 Z) Z<|yK Z (gd g5 Z) Z<|yK Z (gd g5 Z) Z<|yK Z (gd g5 Z) Z<|yK Z (gd g5 Z) Z<|yK Z (gd g5 Z) Z<|yK Z (gd g5 Z) Z<|yK Z (gd g5 Z) Z<|yK Z (gd g5 Z) Z<|yK Z (gd g5 Z) Z<|yE Z (bA Z (aK g5 Z) Z)<|LO.nil<|zT<|LW.condT Z<|qR<|mN Z<|zr<|ao<|af<|af<|ao<|af<|af ?_;cases h;obtain rfl:=(m1 _ rfl);have h:=bT q1;cases h;exact ba Z
      ·refine zo g5 h fun h=>yL Z (gd g5 Z) (zm Z Z)<|yL Z (gd g5 Z) (zm Z Z)<|zb h fun y7 j7 h=>yL Z (gd g5 Z) (zx Z Z Z bp j7 Z)<|yL Z (gd g5 Z) (aa.fieldAddrC Z Z lP Z)<|yL Z (gd g5 Z) (bS Z Z Z ca Z Z)<|yL Z (gd g5 Z) (zm Z Z)<|yL Z (gd g5 Z) (zm Z Z)<|zb h fun y8 j8 h=>yL Z (gd g5 Z) (zx Z Z Z bp j8 Z)<|yL Z (gd g5 Z) (aa.fieldAddrC Z Z lP Z)<|yL Z (gd g5 Z) (bS Z Z Z ca Z Z)<|yL Z (gd g5 Z) (aa.neqAgg Z Z Z Z Z uw)<|yE Z (aU Z (aK g5 Z) Z)<|LO.nil<|zT ?_;refine zX Z (fun g6=>?_)<|fun g6=>?_
       ·refine zi g6 h fun h=>qR<|mN Z<|LW.ret<|ao<|af<|af<|ao<|af<|af ?_;cases h;obtain rfl:=(m1 _ rfl);have h:=bT q1;cases h;exact ba Z
       ·refine zo g6 h fun h=>zk<|ae<|zT<|zR<|zM Z<|yS Z (am Z Z Z Z)<|mN Z ?_;cases h;exact⟨_,rfl,au 0 ⟨Z,Z,Z,Z,t_⟩⟩
   ·refine zo g2 h fun h=>zq<|aj<|aj<|zy<|zT ?_;cases h;obtain rfl:=(m1 _ rfl);exact⟨_,rfl,au 0 ⟨Z,t_⟩⟩
  ·obtain rfl:=f1;have h:=cU q1;clear p1;refine zT<|LW.weak u1<|qR<|mN Z<|zr ?_;cases h;exact ba Z
def ya (a:Nd)(b:Nd):Option Bool:=(Kn a.V b.V).bind fun v1=>(Kn a.In b.In).bind fun v2=>(vN a.O b.O).bind fun v3=>bif v1 then bif v2 then bif v3 then bif a.No==b.No then bif a.Tick==b.Tick then bif ((a.C.ID.1==b.C.ID.1)&&((a.C.ID.2==b.C.ID.2)&&((a.C.Slot==b.C.Slot)&&((a.C.Revoked==b.C.Revoked)&&true))))then some (a.Full==b.Full)else some false else some false else some false else some false else some false else some false
theorem NW {a:Nd}{b:Nd}(h:ya a b=some r_):aq prog 12 [dH a,dH b] [.bool r_]:=by
 refine zh Tryz.func12 Z Z Z Z ?_;unfold ya at h;refine qR<|yS Z (bv Z Z Z Z Z)<|yS Z (bv Z Z Z Z Z)<|mN Z<|qR<|yS Z (zA Z Z bO)<|yS Z (zD Z Z Z aI Z Z)<|yS Z (zA Z Z bO)<|yS Z (zD Z Z Z aI Z Z)<|zb h fun v1 a1 h=>yS Z (yP Z Z Z (QS a1) bR)<|mN Z<|qR<|yS Z (zA Z Z br)<|yS Z (zD Z Z Z aI Z Z)<|yS Z (zA Z Z br)<|yS Z (zD Z Z Z aI Z Z)<|zb h fun v2 a2 h=>yS Z (yP Z Z Z (QS a2) bR)<|mN Z<|qR<|yS Z (zA Z Z bB)<|yS Z (zD Z Z Z bq Z Z)<|yS Z (zA Z Z bB)<|yS Z (zD Z Z Z bq Z Z)<|zb h fun v3 a3 h=>yS Z (yP Z Z Z (Kz a3) bR)<|mN Z<|qR<|zM Z<|zM Z ?_;refine zc 24 Z (fun g1=>?_)<|fun g1=>?_
 ·refine zi g1 h fun h=>yV Z (gd g1 Z) (zm Z Z)<|yS Z (bA Z (aK g1 Z) Z)<|zM Z ?_;refine zc 27 Z (fun g2=>?_)<|fun g2=>?_
  ·refine zi g2 h fun h=>yV Z (gd g2 Z) (zm Z Z)<|yS Z (bA Z (aK g2 Z) Z)<|zM Z ?_;refine zc 30 Z (fun g3=>?_)<|fun g3=>?_
   ·refine zi g3 h fun h=>yV Z (gd g3 Z) (zA Z Z dE)<|yV Z (gd g3 Z) (zD Z Z Z aV Z Z)<|yV Z (gd g3 Z) (zA Z Z dE)<|yV Z (gd g3 Z) (zD Z Z Z aV Z Z)<|yV Z (gd g3 Z) (am Z Z Z Z)<|yS Z (bA Z (aK g3 Z) Z)<|zM Z ?_;refine zc 37 Z (fun g4=>?_)<|fun g4=>?_
    ·refine zi g4 h fun h=>yV Z (gd g4 Z) (zA Z Z co)<|yV Z (gd g4 Z) (zD Z Z Z aV Z Z)<|yV Z (gd g4 Z) (zA Z Z co)<|yV Z (gd g4 Z) (zD Z Z Z aV Z Z)<|yV Z (gd g4 Z) (am Z Z Z Z)<|yS Z (bA Z (aK g4 Z) Z)<|zM Z ?_;refine zc 44 Z (fun g5=>?_)<|fun g5=>?_
     ·refine zi g5 h fun h=>yV Z (gd g5 Z) (zA Z Z gM)<|yV Z (gd g5 Z) (zD Z Z Z gy Z Z)<|yV Z (gd g5 Z) (zA Z Z gM)<|yV Z (gd g5 Z) (zD Z Z Z gy Z Z)<|yV Z (gd g5 Z) (aa.eqlAgg Z Z Z Z Z KS)<|yS Z (bA Z (aK g5 Z) Z)<|zM Z ?_;refine zc 51 Z (fun g6=>?_)<|fun g6=>?_
      ·refine zi g6 h fun h=>yV Z (gd g6 Z) (zA Z Z eK)<|yV Z (gd g6 Z) (zD Z Z Z vo Z Z)<|yV Z (gd g6 Z) (zA Z Z eK)<|yV Z (gd g6 Z) (zD Z Z Z vo Z Z)<|yV Z (gd g6 Z) (aa.eqlBool Z Z Z Tryz.underlying4)<|yS Z (bA Z (aK g6 Z) Z)<|mN Z<|zr ?_;cases h;exact ba Z
      ·refine zo g6 h fun h=>yU Z (gd g6 Z) Z<|yU Z (gd g6 Z) Z<|yU Z (gd g6 Z) Z<|yU Z (gd g6 Z) Z<|yU Z (gd g6 Z) Z<|yS Z (aU Z (aK g6 Z) Z)<|mN Z<|zr ?_;cases h;exact ba Z
     ·refine zo g5 h fun h=>yU Z (gd g5 Z) Z<|yU Z (gd g5 Z) Z<|yU Z (gd g5 Z) Z<|yU Z (gd g5 Z) Z<|yU Z (gd g5 Z) Z<|yS Z (aU Z (aK g5 Z) Z)<|zM Z<|aB Z<|aB Z<|aB Z<|aB Z<|aB Z<|yS Z (aU Z Z Z)<|mN Z<|zr ?_;cases h;exact ba Z
    ·refine zo g4 h fun h=>yU Z (gd g4 Z) Z<|yU Z (gd g4 Z) Z<|yU Z (gd g4 Z) Z<|yU Z (gd g4 Z) Z<|yU Z (gd g4 Z) Z<|yS Z (aU Z (aK g4 Z) Z)<|zM Z<|aB Z<|aB Z<|aB Z<|aB Z<|aB Z<|yS Z (aU Z Z Z)<|zM Z<|aB Z<|aB Z<|aB Z<|aB Z<|aB Z<|yS Z (aU Z Z Z)<|mN Z<|zr ?_;cases h;exact ba Z
   ·refine zo g3 h fun h=>yU Z (gd g3 Z) Z<|yU Z (gd g3 Z) Z<|yU Z (gd g3 Z) Z<|yU Z (gd g3 Z) Z<|yU Z (gd g3 Z) Z<|yS Z (aU Z (aK g3 Z) Z)<|zM Z<|aB Z<|aB Z<|aB Z<|aB Z<|aB Z<|yS Z (aU Z Z Z)<|zM Z<|aB Z<|aB Z<|aB Z<|aB Z<|aB Z<|yS Z (aU Z Z Z)<|zM Z<|aB Z<|aB Z<|aB Z<|aB Z<|aB Z<|yS Z (aU Z Z Z)<|mN Z<|zr ?_;cases h;exact ba Z
  ·refine zo g2 h fun h=>yU Z (gd g2 Z) Z<|yS Z (aU Z (aK g2 Z) Z)<|zM Z<|aB Z<|aB Z<|aB Z<|aB Z<|aB Z<|yS Z (aU Z Z Z)<|zM Z<|aB Z<|aB Z<|aB Z<|aB Z<|aB Z<|yS Z (aU Z Z Z)<|zM Z<|aB Z<|aB Z<|aB Z<|aB Z<|aB Z<|yS Z (aU Z Z Z)<|zM Z<|aB Z<|aB Z<|aB Z<|aB Z<|aB Z<|yS Z (aU Z Z Z)<|mN Z<|zr ?_;cases h;exact ba Z
 ·refine zo g1 h fun h=>yU Z (gd g1 Z) Z<|yS Z (aU Z (aK g1 Z) Z)<|zM Z<|aB Z<|yS Z (aU Z Z Z)<|zM Z<|aB Z<|aB Z<|aB Z<|aB Z<|aB Z<|yS Z (aU Z Z Z)<|zM Z<|aB Z<|aB Z<|aB Z<|aB Z<|aB Z<|yS Z (aU Z Z Z)<|zM Z<|aB Z<|aB Z<|aB Z<|aB Z<|aB Z<|yS Z (aU Z Z Z)<|zM Z<|aB Z<|aB Z<|aB Z<|aB Z<|aB Z<|yS Z (aU Z Z Z)<|mN Z<|zr ?_;cases h;exact ba Z
def yb (a:List Of)(b:List Of):Option Bool:=(vN a b).bind fun v1=>some v1
theorem NX {a:List Of}(h:yb a b=some r_):aq prog 13 [.slice 9 (a.map da),.slice 9 (b.map da)] [.bool r_]:=by
 refine zh Tryz.func13 Z Z Z Z ?_;unfold yb at h;refine qR<|mN Z<|qR<|zM Z<|zM Z<|zb h fun v1 a1 h=>yS Z (yP Z Z Z (Kz a1) bR)<|mN Z<|qR<|zM Z<|mN Z<|zr ?_;cases h;exact ba Z
structure fg where
 i:Int
structure eE where
 i:Int
def jG (a:Wd)(b:Wd)(x1:fg):Option (fg⊕(fg⊕Bool)):=bif decide (x1.i<(a.Bad.length:Int))then (ix a.Bad x1.i).bind fun y1=>(ix b.Bad x1.i).bind fun y2=>bif y1 != y2 then some (.inr (.inr false))else some (.inl (fg.mk (i64.wrap (x1.i+1))))else some (.inr (.inl (fg.mk x1.i)))
def iK (a:Wd)(b:Wd)(x2:eE):Option (eE⊕(eE⊕Bool)):=bif decide (x2.i<(a.N.length:Int))then (ix a.N x2.i).bind fun y3=>(ix b.N x2.i).bind fun y4=>(ya y3 y4).bind fun v5=>bif !v5 then some (.inr (.inr false))else some (.inl (eE.mk (i64.wrap (x2.i+1))))else some (.inr (.inl (eE.mk x2.i)))
def yJ (a:Wd)(b:Wd):Option Bool:=(yb a.O b.O).bind fun v1=>(bif !v1 then some true else bif a.Tick != b.Tick then some true else bif (a.Bad.length:Int) != (b.Bad.length:Int)then some true else some ((a.N.length:Int) != (b.N.length:Int))).bind fun v2=>bif v2 then some false else (iter (jG a b) aY (fg.mk 0)).bind fun b_v3=>Sum.elim (fun _=>(iter (iK a b) aY (eE.mk 0)).bind fun b_v4=>Sum.elim (fun _=>some true) some b_v4) some b_v3
theorem Oq {a:Wd}{b:Wd}(h:yJ a b=some r_):aq prog 27 [xJ a,xJ b] [.bool r_]:=by
 refine zh Tryz.func27 Z Z Z Z ?_;unfold yJ at h;refine qR<|yS Z (bv Z Z Z Z Z)<|yS Z (bv Z Z Z Z Z)<|mN Z<|qR<|yS Z (zA Z Z eJ)<|yS Z (zD Z Z Z bq Z Z)<|yS Z (zA Z Z eJ)<|yS Z (zD Z Z Z bq Z Z)<|zb h fun v1 a1 h=>yS Z (yP Z Z Z (NX a1) bR)<|mN Z<|zQ ?_;obtain⟨v2,p2,q2⟩:=zB h;clear h;refine LW.cut (E:=[(2,.ptr 0 0),(3,.ptr 1 0),(4,(bQ false)),(40,(bQ v2))]) (O:=[.box (gu a),.box (gu b)]) ?_ ?_
 ·have h:=p2;refine zR<|zM Z<|yS Z (aa.not Z Z)<|zM Z ?_;refine zc 16 Z (fun g1=>?_)<|fun g1=>?_
  ·refine zi g1 h fun h=>yU Z (gd g1 Z) Z<|yU Z (gd g1 Z) Z<|yU Z (gd g1 Z) Z<|yU Z (gd g1 Z) Z<|yU Z (gd g1 Z) Z<|yS Z (bA Z (aK g1 Z) Z)<|zM Z<|aB Z<|aB Z<|aB Z<|aB Z<|aB Z<|aB Z<|aB Z<|yS Z (bA Z Z Z)<|zM Z<|aB Z<|aB Z<|aB Z<|aB Z<|aB Z<|aB Z<|aB Z<|yS Z (bA Z Z Z)<|nT ?_;cases h;exact au 2 ⟨Z,Z,Z,Z,t_⟩
  ·refine zo g1 h fun h=>yV Z (gd g1 Z) (zA Z Z cT)<|yV Z (gd g1 Z) (zD Z Z Z aV Z Z)<|yV Z (gd g1 Z) (zA Z Z cT)<|yV Z (gd g1 Z) (zD Z Z Z aV Z Z)<|yV Z (gd g1 Z) (am Z Z Z Z)<|yS Z (aU Z (aK g1 Z) Z)<|zM Z ?_;refine zc 23 Z (fun g2=>?_)<|fun g2=>?_
   ·refine zi g2 h fun h=>yU Z (gd g2 Z) Z<|yU Z (gd g2 Z) Z<|yU Z (gd g2 Z) Z<|yU Z (gd g2 Z) Z<|yU Z (gd g2 Z) Z<|yU Z (gd g2 Z) Z<|yU Z (gd g2 Z) Z<|yS Z (bA Z (aK g2 Z) Z)<|zM Z<|aB Z<|aB Z<|aB Z<|aB Z<|aB Z<|aB Z<|aB Z<|yS Z (bA Z Z Z)<|nT ?_;cases h;exact au 2 ⟨Z,Z,Z,Z,t_⟩
   ·refine zo g2 h fun h=>yV Z (gd g2 Z) (zA Z Z dc)<|yV Z (gd g2 Z) (zD Z Z Z d6 Z Z)<|yV Z (gd g2 Z) (cx Z Z)<|yV Z (gd g2 Z) (zA Z Z dc)<|yV Z (gd g2 Z) (zD Z Z Z d6 Z Z)<|yV Z (gd g2 Z) (cx Z Z)<|yV Z (gd g2 Z) (am Z Z Z Z)<|yS Z (aU Z (aK g2 Z) Z)<|zM Z ?_;refine zc 32 Z (fun g3=>?_)<|fun g3=>?_
    ·refine zi g3 h fun h=>yU Z (gd g3 Z) Z<|yU Z (gd g3 Z) Z<|yU Z (gd g3 Z) Z<|yU Z (gd g3 Z) Z<|yU Z (gd g3 Z) Z<|yU Z (gd g3 Z) Z<|yU Z (gd g3 Z) Z<|yS Z (bA Z (aK g3 Z) Z)<|nT ?_;cases h;exact au 2 ⟨Z,Z,Z,Z,t_⟩
    ·refine zo g3 h fun h=>yV Z (gd g3 Z) (zA Z Z bF)<|yV Z (gd g3 Z) (zD Z Z Z cY Z Z)<|yV Z (gd g3 Z) (cx Z Z)<|yV Z (gd g3 Z) (zA Z Z bF)<|yV Z (gd g3 Z) (zD Z Z Z cY Z Z)<|yV Z (gd g3 Z) (cx Z Z)<|yV Z (gd g3 Z) (am Z Z Z Z)<|yS Z (aU Z (aK g3 Z) Z)<|nT ?_;cases h;exact au 2 ⟨Z,Z,Z,Z,t_⟩
 ·have h:=q2;clear p2;refine zX Z (fun g4=>?_)<|fun g4=>?_
  ·refine zi g4 h fun h=>qR<|mN Z<|LW.ret<|af ?_;cases h;exact ba Z
  ·refine zo g4 h fun h=>zk<|zT<|zQ<|qR<|mN Z ?_;obtain⟨w3,p3,q3⟩:=zB h;clear h;refine LW.tailB (b:=w3) (E:=fun v3=>[(2,.ptr 0 0),(3,.ptr 1 0),(4,(bQ false))]) (O:=fun v3=>[.box (gu a),.box (gu b)]) ?_<|fun v3 f3 e3 K3 u3=>?_
   ·refine LW.block ?_;refine LW.iterB (E:=fun x1:fg=>[(2,.ptr 0 0),(3,.ptr 1 0),(4,(bQ false)),(6,(iQ x1.i))]) (O:=fun x1=>[.box (gu a),.box (gu b)]) p3 (au 2 ⟨Z,Z,Z,Z,t_⟩)<|fun x1 z1 h m1=>?_;unfold jG at h;refine zQ<|qR<|zM Z<|yS Z (zA Z Z dc)<|yS Z (zD Z Z Z d6 Z Z)<|yS Z (cx Z Z)<|yS Z (am Z Z Z Z)<|nT ?_;refine zX Z (fun g5=>?_)<|fun g5=>?_
    ·refine zi g5 h fun h=>zk<|zT<|zQ<|zl<|zQ<|dy<|yE Z (zA Z Z dc)<|yE Z (zD Z Z Z d6 Z Z)<|zH Z<|zb h fun y1 j1 h=>yE Z (zx Z Z Z dN j1 Z)<|yE Z (bS Z Z Z aV Z Z)<|yE Z (zA Z Z dc)<|yE Z (zD Z Z Z d6 Z Z)<|zH Z<|zb h fun y2 j2 h=>yE Z (zx Z Z Z dN j2 Z)<|yE Z (bS Z Z Z aV Z Z)<|yE Z (am Z Z Z Z)<|LO.nil<|zT ?_;refine zX Z (fun g6=>?_)<|fun g6=>?_
     ·refine zi g6 h fun h=>qR<|mN Z<|LW.ret<|ao<|af<|af<|ao<|af<|af ?_;cases h;obtain rfl:=(m1 _ rfl);have h:=bT q3;cases h;exact ba Z
     ·refine zo g6 h fun h=>zk<|ae<|zT<|zR<|zM Z<|yS Z (am Z Z Z Z)<|mN Z ?_;cases h;exact⟨_,rfl,au 2 ⟨Z,Z,Z,Z,t_⟩⟩
    ·refine zo g5 h fun h=>zq<|aj<|aj<|zy<|zT ?_;cases h;obtain rfl:=(m1 _ rfl);exact⟨_,rfl,au 2 ⟨Z,Z,Z,t_⟩⟩
   ·obtain rfl:=f3;have h:=cU q3;clear p3;refine zT<|LW.weak u3<|zQ<|qR<|mN Z ?_;obtain⟨w4,p4,q4⟩:=zB h;clear h;refine LW.tailB (b:=w4) (E:=fun v4=>[(4,(bQ false))]) (O:=fun v4=>[.box (gu a),.box (gu b)]) ?_<|fun v4 f4 e4 K4 u4=>?_
    ·refine LW.block ?_;refine LW.iterB (E:=fun x2:eE=>[(2,.ptr 0 0),(3,.ptr 1 0),(4,(bQ false)),(7,(iQ x2.i))]) (O:=fun x2=>[.box (gu a),.box (gu b)]) p4 (au 2 ⟨Z,Z,Z,Z,t_⟩)<|fun x2 z2 h m2=>?_;unfold iK at h;refine zQ<|qR<|zM Z<|yS Z (zA Z Z bF)<|yS Z (zD Z Z Z cY Z Z)<|yS Z (cx Z Z)<|yS Z (am Z Z Z Z)<|nT ?_;refine zX Z (fun g7=>?_)<|fun g7=>?_
     ·refine zi g7 h fun h=>zk<|zT<|zQ<|zl<|zQ<|dy<|yE Z (zA Z Z bF)<|yE Z (zD Z Z Z cY Z Z)<|zH Z<|zb h fun y3 j3 h=>yE Z (zx Z Z Z dM j3 Z)<|yE Z (bS Z Z Z aP Z Z)<|yE Z (zA Z Z bF)<|yE Z (zD Z Z Z cY Z Z)<|zH Z<|zb h fun y4 j4 h=>yE Z (zx Z Z Z dM j4 Z)<|yE Z (bS Z Z Z aP Z Z)<|zb h fun v5 a5 h=>yE Z (yP Z Z Z (NW a5) bR)<|zH Z<|LO.nil<|zT<|qR<|zM Z<|yS Z (aa.not Z Z)<|nT ?_;refine zX Z (fun g8=>?_)<|fun g8=>?_
      ·refine zi g8 h fun h=>qR<|mN Z<|LW.ret<|ao<|af<|af<|ao<|af<|af ?_;cases h;obtain rfl:=(m2 _ rfl);have h:=bT q4;cases h;exact ba Z
      ·refine zo g8 h fun h=>zk<|ae<|zT<|zR<|zM Z<|yS Z (am Z Z Z Z)<|mN Z ?_;cases h;exact⟨_,rfl,au 2 ⟨Z,Z,Z,Z,t_⟩⟩
     ·refine zo g7 h fun h=>zq<|aj<|aj<|zy<|zT ?_;cases h;obtain rfl:=(m2 _ rfl);exact⟨_,rfl,au 2 ⟨Z,t_⟩⟩
    ·obtain rfl:=f4;have h:=cU q4;clear p4;refine zT<|LW.weak u4<|qR<|mN Z<|zr ?_;cases h;exact ba Z
structure mt where
 t17:Int
def C2 (s1:List Nd)(s2:List Nd)(x1:mt):Option (mt⊕(mt⊕Bool)):=bif decide (x1.t17<(s1.length:Int))then (ix s1 x1.t17).bind fun y1=>(ix s2 x1.t17).bind fun y2=>(CU y1 y2).bind fun v2=>bif !v2 then some (.inr (.inr false))else some (.inl (mt.mk (i64.wrap (x1.t17+1))))else some (.inr (.inl (mt.mk x1.t17)))
def Lz (s1:List Nd)(s2:List Nd):Option Bool:=bif (s1.length:Int) != (s2.length:Int)then some false else (iter (C2 s1 s2) aY (mt.mk 0)).bind fun b_v1=>Sum.elim (fun _=>some true) some b_v1
theorem OT {s1:List Nd}{s2:List Nd}(h:Lz s1 s2=some r_):LC prog 71 [.p (.slice 12 (s1.map dH)),.p (.slice 12 (s2.map dH)),.fn 21 [] []] [] (Is (bQ r_) []):=by
 refine eP Tryz.func71 Z Z Z ?_;unfold Lz at h;refine qR<|mN Z<|zQ<|qR<|zM Z<|yS Z (cx Z Z)<|zM Z<|yS Z (cx Z Z)<|yS Z (am Z Z Z Z)<|nT ?_;refine zX Z (fun g1=>?_)<|fun g1=>?_
 ·refine zi g1 h fun h=>qR<|mN Z<|LW.ret<|af ?_;cases h;exact aD (.one (.tmp Z))<|⟨rfl,rfl⟩
 ·refine zo g1 h fun h=>zk<|zT<|zQ<|qR<|zM Z<|yS Z (cx Z Z)<|mN Z ?_;obtain⟨w1,p1,q1⟩:=zB h;clear h;refine LW.tailB (b:=w1) (E:=fun v1=>[(6,(bQ false))]) (O:=fun v1=>[]) ?_<|fun v1 f1 e1 K1 u1=>?_
  ·refine LW.block ?_;refine LW.iterB (E:=fun x1:mt=>[(1,.p (.slice 12 (s2.map dH))),(2,.fn 21 [] []),(6,(bQ false)),(15,.p (.slice 12 (s1.map dH))),(16,.p (.int .i64 (s1.length:Int))),(17,(iQ x1.t17))]) (O:=fun x1=>[]) p1 (au 0 ⟨Z,Z,Z,Z,Z,Z,t_⟩)<|fun x1 z1 h m1=>?_;unfold C2 at h;refine qR<|yS Z (am Z Z Z Z)<|nT<|zQ ?_;refine zX Z (fun g2=>?_)<|fun g2=>?_
   ·refine zi g2 h fun h=>zk<|zT<|zQ<|zl<|qR<|zM Z<|zb h fun y1 j1 h=>yS Z (zx Z Z Z dM j1 Z)<|yS Z (bS Z Z Z aP Z Z)<|yS Z (ze Z eX Z Z)<|zM Z<|yS Z (zs Z Z Z Z aP Z Z Z Z)<|nT<|qR<|zM Z<|zM Z<|zb h fun y2 j2 h=>yS Z (zx Z Z Z dM j2 Z)<|yS Z (bS Z Z Z aP Z Z)<|yS Z (ze Z eX Z Z)<|yS Z (zs Z Z Z Z aP Z Z Z Z)<|nT<|qR<|zM Z<|yS Z (zD Z Z Z aP Z Z)<|yS Z (zD Z Z Z aP Z Z)<|zb h fun v2 a2 h=>yS Z (yP Z Z Z (Kx a2) bR)<|yS Z (aa.not Z Z)<|nT ?_;refine zX Z (fun g3=>?_)<|fun g3=>?_
    ·refine zi g3 h fun h=>qR<|mN Z<|LW.ret<|ao<|af<|af<|ao<|af<|af ?_;cases h;obtain rfl:=(m1 _ rfl);have h:=bT q1;cases h;exact bN (env':=[(6,(bQ false))]) (H':=[]) (au 0 ⟨Z,t_⟩) (.one (.tmp Z))<|⟨rfl,rfl⟩
    ·refine zo g3 h fun h=>zk<|ae<|zT<|zR<|yS Z (am Z Z Z Z)<|mN Z ?_;cases h;exact⟨_,rfl,au 0 ⟨Z,Z,Z,Z,Z,Z,t_⟩⟩
   ·refine zo g2 h fun h=>zq<|aj<|aj<|zy<|zT ?_;cases h;obtain rfl:=(m1 _ rfl);exact⟨_,rfl,au 0 ⟨Z,t_⟩⟩
  ·obtain rfl:=f1;have h:=cU q1;clear p1;refine zT<|LW.weak u1<|qR<|mN Z<|zr ?_;cases h;exact aD (.one (.tmp Z))<|⟨rfl,rfl⟩
structure jJ where
 t13:Int
def yR (s1:List Int)(s2:List Int)(x1:jJ):Option (jJ⊕(jJ⊕Bool)):=bif decide (x1.t13<(s1.length:Int))then (ix s1 x1.t13).bind fun y1=>(ix s2 x1.t13).bind fun y2=>bif y1 != y2 then some (.inr (.inr false))else some (.inl (jJ.mk (i64.wrap (x1.t13+1))))else some (.inr (.inl (jJ.mk x1.t13)))
def Gu (s1:List Int)(s2:List Int):Option Bool:=bif (s1.length:Int) != (s2.length:Int)then some false else (iter (yR s1 s2) aY (jJ.mk 0)).bind fun b_v1=>Sum.elim (fun _=>some true) some b_v1
theorem Ov {s1:List Int}{s2:List Int}(h:Gu s1 s2=some r_):aq prog 70 [.slice 1 (s1.map be),.slice 1 (s2.map be)] [.bool r_]:=by
 refine zh Tryz.func70 Z Z Z Z ?_;unfold Gu at h;refine qR<|mN Z<|zQ<|qR<|zM Z<|yS Z (cx Z Z)<|zM Z<|yS Z (cx Z Z)<|yS Z (am Z Z Z Z)<|nT ?_;refine zX Z (fun g1=>?_)<|fun g1=>?_
 ·refine zi g1 h fun h=>qR<|mN Z<|LW.ret<|af ?_;cases h;exact ba Z
 ·refine zo g1 h fun h=>zk<|zT<|zQ<|qR<|zM Z<|yS Z (cx Z Z)<|mN Z ?_;obtain⟨w1,p1,q1⟩:=zB h;clear h;refine LW.tailB (b:=w1) (E:=fun v1=>[(4,(bQ false))]) (O:=fun v1=>[]) ?_<|fun v1 f1 e1 K1 u1=>?_
  ·refine LW.block ?_;refine LW.iterB (E:=fun x1:jJ=>[(0,(kI s1)),(1,(kI s2)),(4,(bQ false)),(12,.p (.int .i64 (s1.length:Int))),(13,(iQ x1.t13))]) (O:=fun x1=>[]) p1 (au 0 ⟨Z,Z,Z,Z,Z,t_⟩)<|fun x1 z1 h m1=>?_;unfold yR at h;refine qR<|yS Z (am Z Z Z Z)<|nT<|zQ ?_;refine zX Z (fun g2=>?_)<|fun g2=>?_
   ·refine zi g2 h fun h=>zk<|zT<|zQ<|zl<|qR<|zM Z<|mN Z<|zQ<|dy<|zH Z<|zH Z<|zb h fun y1 j1 h=>yE Z (zx Z Z Z dN j1 Z)<|yE Z (bS Z Z Z aV Z Z)<|zH Z<|zH Z<|zb h fun y2 j2 h=>yE Z (zx Z Z Z dN j2 Z)<|yE Z (bS Z Z Z aV Z Z)<|yE Z (am Z Z Z Z)<|LO.nil<|zT ?_;refine zX Z (fun g3=>?_)<|fun g3=>?_
    ·refine zi g3 h fun h=>qR<|mN Z<|LW.ret<|ao<|af<|af<|ao<|af<|af ?_;cases h;obtain rfl:=(m1 _ rfl);have h:=bT q1;cases h;exact ba Z
    ·refine zo g3 h fun h=>zk<|ae<|zT<|zR<|yS Z (am Z Z Z Z)<|mN Z ?_;cases h;exact⟨_,rfl,au 0 ⟨Z,Z,Z,Z,Z,t_⟩⟩
   ·refine zo g2 h fun h=>zq<|aj<|aj<|zy<|zT ?_;cases h;obtain rfl:=(m1 _ rfl);exact⟨_,rfl,au 0 ⟨Z,t_⟩⟩
  ·obtain rfl:=f1;have h:=cU q1;clear p1;refine zT<|LW.weak u1<|qR<|mN Z<|zr ?_;cases h;exact ba Z
def Gt (a:Wd)(b:Wd):Option Bool:=(CU (Nd.mk 0 0 (Vw.mk [] []) (Vw.mk [] []) a.O (Cu.mk (0,0) 0 0) false) (Nd.mk 0 0 (Vw.mk [] []) (Vw.mk [] []) b.O (Cu.mk (0,0) 0 0) false)).bind fun v1=>bif v1 then bif a.Tick==b.Tick then (Gu a.Bad b.Bad).bind fun v2=>bif v2 then (Lz a.N b.N).bind fun v3=>some v3 else some false else some false else some false
theorem Ou {a:Wd}{b:Wd}(h:Gt a b=some r_):aq prog 30 [xJ a,xJ b] [.bool r_]:=by
 refine zh Tryz.func30 Z Z Z Z ?_;unfold Gt at h;refine qR<|yS Z (bv Z Z Z Z Z)<|yS Z (bv Z Z Z Z Z)<|mN Z<|qR<|yS Z (zA Z Z eJ)<|yS Z (zD Z Z Z bq Z Z)<|yS Z (aa.build Z w9 Z Z Z)<|yS Z (zA Z Z eJ)<|yS Z (zD Z Z Z bq Z Z)<|yS Z (aa.build Z w9 Z Z Z)<|zb h fun v1 a1 h=>yS Z (zC Z Z Z (by kernel_rfl) (zp (Kx a1) (.cons (Conv.agg (.cons zv (.cons zv (.cons Conv.zs (.cons Conv.zs (.cons Conv.zs (.cons Conv.zs (.cons zv Cn)))))))) (.cons (Conv.agg (.cons zv (.cons zv (.cons Conv.zs (.cons Conv.zs (.cons Conv.zs (.cons Conv.zs (.cons zv Cn)))))))) .nil))))<|mN Z<|qR<|zM Z<|zM Z ?_;refine zc 14 Z (fun g1=>?_)<|fun g1=>?_
 ·refine zi g1 h fun h=>yV Z (gd g1 Z) (zA Z Z cT)<|yV Z (gd g1 Z) (zD Z Z Z aV Z Z)<|yV Z (gd g1 Z) (zA Z Z cT)<|yV Z (gd g1 Z) (zD Z Z Z aV Z Z)<|yV Z (gd g1 Z) (am Z Z Z Z)<|yS Z (bA Z (aK g1 Z) Z)<|zM Z ?_;refine zc 21 Z (fun g2=>?_)<|fun g2=>?_
  ·refine zi g2 h fun h=>yV Z (gd g2 Z) (zA Z Z dc)<|yV Z (gd g2 Z) (zD Z Z Z d6 Z Z)<|yV Z (gd g2 Z) (zA Z Z dc)<|yV Z (gd g2 Z) (zD Z Z Z d6 Z Z)<|zb h fun v2 a2 h=>yV Z (gd g2 Z) (yP Z Z Z (Ov a2) bR)<|yS Z (bA Z (aK g2 Z) Z)<|zM Z ?_;refine zc 28 Z (fun g3=>?_)<|fun g3=>?_
   ·refine zi g3 h fun h=>yV Z (gd g3 Z) (zA Z Z bF)<|yV Z (gd g3 Z) (zD Z Z Z cY Z Z)<|yV Z (gd g3 Z) (zA Z Z bF)<|yV Z (gd g3 Z) (zD Z Z Z cY Z Z)<|zb h fun v3 a3 h=>yV Z (gd g3 Z) (yC Z Z Z (LC.pre (OT a3) Z Z Z))<|yS Z (bA Z (aK g3 Z) Z)<|mN Z<|zr ?_;cases h;exact ba Z
   ·refine zo g3 h fun h=>yU Z (gd g3 Z) Z<|yU Z (gd g3 Z) Z<|yU Z (gd g3 Z) Z<|yU Z (gd g3 Z) Z<|yU Z (gd g3 Z) Z<|yS Z (aU Z (aK g3 Z) Z)<|mN Z<|zr ?_;cases h;exact ba Z
  ·refine zo g2 h fun h=>yU Z (gd g2 Z) Z<|yU Z (gd g2 Z) Z<|yU Z (gd g2 Z) Z<|yU Z (gd g2 Z) Z<|yU Z (gd g2 Z) Z<|yS Z (aU Z (aK g2 Z) Z)<|zM Z<|aB Z<|aB Z<|aB Z<|aB Z<|aB Z<|yS Z (aU Z Z Z)<|mN Z<|zr ?_;cases h;exact ba Z
 ·refine zo g1 h fun h=>yU Z (gd g1 Z) Z<|yU Z (gd g1 Z) Z<|yU Z (gd g1 Z) Z<|yU Z (gd g1 Z) Z<|yU Z (gd g1 Z) Z<|yS Z (aU Z (aK g1 Z) Z)<|zM Z<|aB Z<|aB Z<|aB Z<|aB Z<|aB Z<|yS Z (aU Z Z Z)<|zM Z<|aB Z<|aB Z<|aB Z<|aB Z<|aB Z<|yS Z (aU Z Z Z)<|mN Z<|zr ?_;cases h;exact ba Z
noncomputable def vE {α:Type}(a b:α):Bool:=@decide (a=b) (Classical.propDecidable _)
theorem cL {a b:α}(h:a=b):vE a b=true:=@decide_eq_true _ (Classical.propDecidable _) h
theorem cS {a b:α}(h:a≠b):vE a b=false:=@decide_eq_false _ (Classical.propDecidable _) h
theorem Dd {a b:α}(i:Decidable (a=b)):@decide (a=b) i=vE a b:=by
 by_cases h:a=b
 ·rw[cL h];exact aQ h
 ·rw[cS h];exact aR h
theorem Ak (a:α):vE a a=true:=cL rfl
theorem sE {S α:Type}{step:S->Option (S⊕(S⊕Bool))}{a b:List α}(mk:Nat->S)(hl:a.length=b.length)(hs:∀j y z,j<a.length->y∈a->a[j]?=some y->b[j]?=some z->step (mk j)=bif vE y z then some (.inl (mk (j+1)))else some (.inr (.inr false)))
  (he:step (mk a.length)=some (.inr (.inl (mk a.length)))) (hn:a.length<4000000000000000000:=by omega):(iter step aY (mk 0)=some (.inl (mk a.length))/\a=b)\/(iter step aY (mk 0)=some (.inr false)/\a≠b):=by
 have h:=nA mk false (fun j=>vE a[j]? b[j]?) (fun j hj=>by
  obtain⟨y,hy,hm⟩:=aA hj;obtain⟨z,hz,-⟩:=aA (l:=b) (n:=j);rw[hs j y z hj hm hy hz,hy,hz];by_cases h:y=z
  ·rw[cL h,cL (by rw[h])]
  ·rw[cS h,cS (fun e=>h (Option.some.inj e))]) he hn
 rcases h with⟨e,h⟩|⟨e,j,hj,h⟩
 ·refine .inl ⟨e,List.ext_getElem? fun j=>?_⟩;by_cases hj:j<a.length
  ·have:=h j hj;by_cases e:a[j]?=b[j]?
   ·exact e
   ·rw[cS e]at this;cases this
  ·rw[List.getElem?_eq_none (by omega),List.getElem?_eq_none (by omega)]
 ·exact .inr ⟨e,fun e=>by subst e;rw[Ak]at h;cases h⟩
theorem E0 {S α:Type}{step:S->Option (S⊕(S⊕Bool))}{a b:List α}(mk:Nat->S)(hs:∀j y z,j<a.length->y∈a->a[j]?=some y->b[j]?=some z->step (mk j)=bif vE y z then some (.inl (mk (j+1)))else some (.inr (.inr false)))
  (he:step (mk a.length)=some (.inr (.inl (mk a.length)))) (hn:a.length<4000000000000000000):(bif (a.length:Int) != (b.length:Int)then some false else(iter step aY (mk 0)).bind fun r=>Sum.elim (fun _=>some true) some r)=some (vE a b):=by
 by_cases hl:a.length=b.length
 ·rw[show((a.length:Int) != (b.length:Int))=false by simp[hl],cf];rcases sE mk hl hs he hn with⟨e,h⟩|⟨e,h⟩
  ·rw[e,ob,cL h];rfl
  ·rw[e,ob,cS h];rfl
 ·rw[show((a.length:Int) != (b.length:Int))=true by simp;omega,ct,cS fun h=>hl (by rw[h])]
theorem oJ {α β:Type}{a b:α}{f:Option β}{x:β}(hf:a=b->f=some x){r:Option β}(hr:a≠b->r=some x):(bif vE a b then f else r)=some x:=by
 by_cases h:a=b
 ·rw[cL h];exact hf h
 ·rw[cS h];exact hr h
theorem w5 (a b:Int):(a==b)=vE a b:=by
 by_cases h:a=b
 ·rw[cL h];simp[h]
 ·rw[cS h];simp[h]
theorem w7 (a b:Int):(a != b)= !vE a b:=by rw[<-w5];rfl
theorem G5 (a b:Bool):(a==b)=vE a b:=by
 by_cases h:a=b
 ·rw[cL h];simp[h]
 ·rw[cS h];simp[h]
theorem w6 {β:Type}{c:Bool}{x y:β}:(bif !c then x else y)=bif c then y else x:=by cases c <;>rfl
theorem O0 (a b:Bk):((a.Slot==b.Slot)&&((a.From==b.From)&&((a.Parent.1==b.Parent.1)&&((a.Parent.2==b.Parent.2)&&((a.Salt==b.Salt)&&true)))))=vE a b:=(Hx a b).trans (Dd _)
theorem O1 (a b:Cu):((a.ID.1==b.ID.1)&&((a.ID.2==b.ID.2)&&((a.Slot==b.Slot)&&((a.Revoked==b.Revoked)&&true))))=vE a b:=(QX a b).trans (Dd _)
theorem Bu {a b:Vw}(h1:a.B.length<=100000)(h2:a.V.length<=100000):Kn a b=some (vE a b):=by
 rw[Lu h1 h2];by_cases h:a=b
 ·rw[cL h,aQ ⟨by rw[h],by rw[h]⟩]
 ·rw[cS h,aR];rintro⟨e1,e2⟩;cases a;cases b;simp only at e1 e2;exact h (by rw[e1,e2])
theorem yj {a b:List Of}(hl:a.length<=100000)(hs:∀o∈a,i5 o):vN a b=some (vE a b):=by
 unfold vN
 exact E0 (fun k=>iH.mk (k:Int)) (fun j y z hj hm hy hz=>by
  obtain⟨s1,s2⟩:=hs y hm;unfold qj;simp only;rw[eN,aw hy,aw hz,ah (n:=j)];simp only[Option.bind_some];rw[Bu (by omega) (by omega),ob,O0,w7,w7];simp only[w6];obtain⟨y1,y2,y3,y4⟩:=y;obtain⟨z1,z2,z3,z4⟩:=z;simp only;by_cases h1:y4=z4
  ·by_cases h2:y1=z1
   ·by_cases h3:y2=z2
    ·by_cases h4:y3=z3
     ·rw[cL h1,ct,cL h2,ct,cL h3,ct,cL h4,ct,cL (by rw[h1,h2,h3,h4]),ct]
     ·rw[cL h1,ct,cL h2,ct,cL h3,ct,cS h4,cf,cS (fun e=>h4 (Of.mk.inj e).2.2.1),cf]
    ·rw[cL h1,ct,cL h2,ct,cS h3,cf,cS (fun e=>h3 (Of.mk.inj e).2.1),cf]
   ·rw[cL h1,ct,cS h2,cf,cS (fun e=>h2 (Of.mk.inj e).1),cf]
  ·rw[cS h1,cf,cS (fun e=>h1 (Of.mk.inj e).2.2.2),cf]) (by
  unfold qj;simp only
  rw[gt]) (by omega)
theorem F2 {a b:List Of}(hl:a.length<=100000)(hs:∀o∈a,i5 o):yb a b=some (vE a b):=by
 unfold yb;rw[yj hl hs,ob]
structure IR (n:Nd):Prop where
 v:n.V.B.length<=100000/\n.V.V.length<=100000
 i:n.In.B.length<=100000/\n.In.V.length<=100000
 o:n.O.length<=100000
 s:∀y∈n.O,i5 y
theorem J8 {a b:Nd}(h1:a.V=b.V)(h2:a.In=b.In)(h3:a.O=b.O):(bif a.No==b.No then bif a.Tick==b.Tick then bif ((a.C.ID.1==b.C.ID.1)&&((a.C.ID.2==b.C.ID.2)&&((a.C.Slot==b.C.Slot)&&((a.C.Revoked==b.C.Revoked)&&true))))then some (a.Full==b.Full)else some false else some false else some false)=some (vE a b):=by
 rw[O1,w5,w5,G5];obtain⟨a1,a2,a3,a4,a5,a6,a7⟩:=a;obtain⟨b1,b2,b3,b4,b5,b6,b7⟩:=b;simp only at h1 h2 h3⊢
 refine oJ (fun e1=>oJ (fun e2=>oJ (fun e3=>?_) fun e=>by rw[cS fun h=>e (Nd.mk.inj h).2.2.2.2.2.1]) fun e=>by rw[cS fun h=>e (Nd.mk.inj h).2.1]) fun e=>by rw[cS fun h=>e (Nd.mk.inj h).1]
 by_cases e4:a7=b7
 ·rw[cL e4,cL (by rw[h1,h2,h3,e1,e2,e3,e4])]
 ·rw[cS e4,cS fun h=>e4 (Nd.mk.inj h).2.2.2.2.2.2]
theorem F1 {a b:Nd}(h:IR a):ya a b=some (vE a b):=by
 unfold ya;rw[Bu h.v.1 h.v.2,ob,Bu h.i.1 h.i.2,ob,yj h.o h.s,ob]
 exact oJ (fun h1=>oJ (fun h2=>oJ (fun h3=>J8 h1 h2 h3) fun e=>by rw[cS fun h=>e (by rw[h])]) fun e=>by rw[cS fun h=>e (by rw[h])]) fun e=>by rw[cS fun h=>e (by rw[h])]
theorem E6 {n:Nd}{k:Int}(hk:k<=1000)(h:kN k n):IR n:=by
 obtain⟨⟨a1,a2⟩,⟨b1,b2⟩,d1,d2⟩:=h;exact⟨⟨by omega,by omega⟩,⟨by omega,by omega⟩,by omega,rA hk d2⟩
theorem Ik {n:Nd}{inp:Vw}{o:List Of}(hf:nw c n inp o):IR (du c n inp o).1/\(du c n inp o).2.length<=1/\∀y∈(du c n inp o).2,i5 y:=by
 have hi:(gW c n inp).B.length<=500/\(gW c n inp).V.length<=500:=hf.ins;obtain⟨hr1,hr2⟩:=pP hf;have hw:=(nY hf).2;obtain⟨⟨a1,a2⟩,⟨b1,b2⟩,-,-,g1,g2⟩:=id hf
 have hro:∀y∈(d8 c n o).1,i5 y:=fun y hy=>by have:=hr2 y hy;exact⟨by omega,by omega⟩
 have m1:=mg c n.V (gW c n inp) (aF n);have z1:=oS c n.V (gW c n inp) (aF n);rcases hw with⟨-,e⟩|⟨-,-,e⟩|⟨-,-,e⟩|⟨-,-,cu,e⟩
 ·rw[e];exact⟨⟨⟨by simp only;omega,by simp only;omega⟩,⟨by simp only;omega,by simp only;omega⟩,by simp only;omega,fun y hy=>by have:=g2 y (List.mem_append_left _ hy);exact⟨by omega,by omega⟩⟩,by simp,fun y hy=>by cases hy⟩
 ·rw[e];refine⟨?_,BS _ _ _,?_⟩
  ·unfold cX;split
   ·have m2:=mg c (aN c n.V (gW c n inp) (aF n)).1 ⟨[l7 (cK c n inp o) c (aF n)],[]⟩ (aF n);exact⟨⟨by show(aN c (aN c n.V (gW c n inp) (aF n)).1 ⟨[l7 (cK c n inp o) c (aF n)],[]⟩ (aF n)).1.B.length<=100000;omega,by show(aN c (aN c n.V (gW c n inp) (aF n)).1 ⟨[l7 (cK c n inp o) c (aF n)],[]⟩ (aF n)).1.V.length<=100000;omega⟩,⟨by show(aN c n.V (gW c n inp) (aF n)).2.1.B.length<=100000;omega,by show(aN c n.V (gW c n inp) (aF n)).2.1.V.length<=100000;omega⟩,by simp only;omega,hro⟩
   ·exact⟨⟨by show n.V.B.length<=100000;omega,by show n.V.V.length<=100000;omega⟩,⟨by show(gW c n inp).B.length<=100000;omega,by show(gW c n inp).V.length<=100000;omega⟩,by simp only;omega,hro⟩
  ·unfold cX;split
   ·intro y hy;rw[List.mem_singleton.1 hy];exact⟨by show(aN c n.V (gW c n inp) (aF n)).1.B.length<=1000;omega,by show(aN c n.V (gW c n inp) (aF n)).1.V.length<=1000;omega⟩
   ·intro y hy;cases hy
 ·rw[e];refine⟨?_,by simp,fun y hy=>by cases hy⟩;have hz:=rx (x:=cK c n inp o) (c:=c) (slot:=aF n) a1 a2 hi.1 hi.2 8 (d8 c n o).1 hr1 hr2;unfold dI;split
  ·have hj:=si (a8 (cK c n inp o) (d8 c n o).1 c (aF n)).2.1 ⟨[],[⟨(cK c n inp o).No,aF n,g0 c (a8 (cK c n inp o) (d8 c n o).1 c (aF n)).1.B (dG c (a8 (cK c n inp o) (d8 c n o).1 c (aF n)).1.V (i64.wrap (aF n-1)))⟩]⟩;simp only[List.length_nil,length_singleton]at hj;exact⟨⟨by simp only;omega,by simp only;omega⟩,⟨by simp only;omega,by simp only;omega⟩,by simp,fun y hy=>by cases hy⟩
  ·exact⟨⟨by simp only;omega,by simp only;omega⟩,⟨by simp only;omega,by simp only;omega⟩,by simp,fun y hy=>by cases hy⟩
 ·rw[e];refine⟨?_,by simp,fun y hy=>by cases hy⟩;exact⟨⟨by simp only;omega,by simp only;omega⟩,⟨by simp only;omega,by simp only;omega⟩,by simp,fun y hy=>by cases hy⟩
def xy (to at_:Int):Bool:=(bits .and .i64 (to.fdiv (2 ^ (min (Int.toNat at_) i64.bits))) 1)==0
def m5 (bad:List Int)(al:Vw)(a:Ac):Vw:=⟨a.B.filter fun b=>decide (b.From∈bad\/b∈al.B),a.V.filter fun v=>decide (v.From∈bad\/v∈al.V)⟩
def dv (slot wh:Int)(bad:List Int)(al:Vw)(me:Bool)(at_:Int)(s:Vw×List Of)(a:Ac):Vw×List Of:=
 if xy a.To at_=true then s
 else if a.Offer=false then(cQ s.1 (m5 bad al a),s.2)
 else if me=true then
  match (m5 bad al a).B with
  |[]=>s
  |b::r=>(s.1,s.2++[⟨slot,wh,b,⟨r,(m5 bad al a).V⟩⟩])
 else s
def u8 (w:Wd):Int:=i64.wrap (w.Tick.tdiv 3)
def fp (w:Wd)(l:List Ac):List Ac:=l.filter fun a=>decide (a.Tick=w.Tick/\a.To>=0)
def eY (w:Wd):Vw:=mz w.N ⟨[],[]⟩
def fz (w:Wd):Int:=oR w.C (u8 w)
def bk (w:Wd)(l:List Ac)(k:Nat):Vw×List Of:=(fp w l).foldl (dv (u8 w) (fz w) w.Bad (eY w) (decide (fz w∈w.Bad)) (k:Int)) (eY w,w.O)
noncomputable def fy (w:Wd)(l:List Ac):List (Nd×List Of):=w.N.zipIdx.map fun p=>du w.C p.1 (bk w l p.2).1 (bk w l p.2).2
def qT (w:Wd):Bool:=decide (¬cZ w.C\/w.Tick<3\/w.Tick>=3145728)
noncomputable def mC (w:Wd)(l:List Ac):Wd:=if qT w=true then w else⟨w.C,w.Bad,i64.wrap (w.Tick+1),(fy w l).map (·.1),(fy w l).flatMap (·.2)⟩
structure vz (w:Wd):Prop where
 n:w.N.length<=10
 nodes:∀n∈w.N,kN 500 n
 o:w.O.length<=20
 offs:∀o∈w.O,pE 500 o.V
 bad:w.Bad.length<=100
structure nx (l:List Ac):Prop where
 len:l.length<=30
 each:∀a∈l,a.B.length<=8/\a.V.length<=8
theorem tY {v:Vw}(h1:v.B.length<=1000:=by omega)(h2:v.V.length<=1000:=by omega):qv v=some v:=by
 unfold qv;rw[aC,ct,aC,ct]
theorem yO {l:List Of}(hl:l.length<=1000)(hs:∀o∈l,i5 o):sQ l=some l:=by
 have e:=av (step:=lq l) (n:=l.length) (fun k=>fU.mk (k:Int)) (fU.mk (l.length:Int)) (fun k hk=>by
  obtain⟨y,hy,hm⟩:=aA hk;have:=hs y hm;unfold lq;simp only
  rw[eN,aw hy,ob,tY this.1 this.2,ob,ob,ah (n:=k)]) (by
  unfold lq;simp only
  rw[gt]) (by omega)
 have e':iter (lq l) aY (fU.mk 0)=_:=e;unfold sQ;rw[aC,ct,e',ob]
theorem yM {w:Wd}(h:vz w):sP w=some w:=by
 have hN:w.N.length<=10:=h.n
 have e:=av (step:=lp w) (n:=w.N.length) (fun k=>fT.mk (k:Int)) (fT.mk (w.N.length:Int)) (fun k hk=>by
  obtain⟨y,hy,hm⟩:=aA hk;obtain⟨⟨a1,a2⟩,⟨b1,b2⟩,c1,c2⟩:=h.nodes y hm;unfold lp;simp only
  rw[eN,aw hy,ob,tY,ob,tY,ob,yO (by omega) (rA (by omega) c2),ob,ah (n:=k)]) (by
  unfold lp;simp only
  rw[gt]) (by omega)
 have e':iter (lp w) aY (fT.mk 0)=_:=e;unfold sP;have:=h.bad;have:=h.o;rw[aC,ct,aC,ct,yO (by omega) (rA (by omega) h.offs),ob,e',ob]
theorem GW {w:Wd}(x:Bk)(hb:w.Bad.length<=100)(hl:al.B.length<=100000):zP x w al=some (decide (x.From∈w.Bad\/x∈al.B)):=by
 unfold zP Ec;rw[qc,ob,ob];by_cases h:x.From∈w.Bad
 ·rw[aQ h,ct,aQ (.inl h)]
 ·rw[aR h,cf,CR hl,ob];by_cases h2:x∈al.B
  ·rw[aQ h2,aQ (.inr h2)]
  ·rw[aR h2,aR fun h3=>h3.elim h h2]
theorem GX {w:Wd}(x:Vt)(hb:w.Bad.length<=100)(hl:al.V.length<=100000):zS x w al=some (decide (x.From∈w.Bad\/x∈al.V)):=by
 unfold zS Ec;rw[qc,ob,ob];by_cases h:x.From∈w.Bad
 ·rw[aQ h,ct,aQ (.inl h)]
 ·rw[aR h,cf,CS hl,ob];by_cases h2:x∈al.V
  ·rw[aQ h2,aQ (.inr h2)]
  ·rw[aR h2,aR fun h3=>h3.elim h h2]
theorem Ee {l:List Bk}{w:Wd}(hl:l.length<=100000)(hb:w.Bad.length<=100)(ha:al.B.length<=100000):uf l w al=some (l.filter fun x=>decide (x.From∈w.Bad\/x∈al.B)):=by
 have e:=av (step:=jr l w al) (n:=l.length) (fun k=>dT.mk (k:Int) ((l.take k).filter fun x=>decide (x.From∈w.Bad\/x∈al.B))) (dT.mk (l.length:Int) (l.filter fun x=>decide (x.From∈w.Bad\/x∈al.B))) (fun k hk=>by
  obtain⟨y,hy,-⟩:=aA hk;have hlen:=bU (p:=fun x:Bk=>decide (x.From∈w.Bad\/x∈al.B)) (l:=l) k;unfold jr;simp only;rw[eN,aw hy,ob,GW y hb ha,ob,bg hy,ah (n:=k)]
  cases decide (y.From∈w.Bad\/y∈al.B)with
  |true=>rw[ct,aC (by simp only[length_singleton];omega),ct,ct]
  |false=>rw[cf,cf,append_nil]) (by
  unfold jr;simp only
  rw[gt,take_length]) (by omega)
 have e':iter (jr l w al) aY (dT.mk 0 [])=_:=e;unfold uf;rw[e',ob]
theorem Ef {l:List Vt}{w:Wd}(hl:l.length<=100000)(hb:w.Bad.length<=100)(ha:al.V.length<=100000):ug l w al=some (l.filter fun x=>decide (x.From∈w.Bad\/x∈al.V)):=by
 have e:=av (step:=js l w al) (n:=l.length) (fun k=>dU.mk (k:Int) ((l.take k).filter fun x=>decide (x.From∈w.Bad\/x∈al.V))) (dU.mk (l.length:Int) (l.filter fun x=>decide (x.From∈w.Bad\/x∈al.V))) (fun k hk=>by
  obtain⟨y,hy,-⟩:=aA hk;have hlen:=bU (p:=fun x:Vt=>decide (x.From∈w.Bad\/x∈al.V)) (l:=l) k;unfold js;simp only;rw[eN,aw hy,ob,GX y hb ha,ob,bg hy,ah (n:=k)]
  cases decide (y.From∈w.Bad\/y∈al.V)with
  |true=>rw[ct,aC (by simp only[length_singleton];omega),ct,ct]
  |false=>rw[cf,cf,append_nil]) (by
  unfold js;simp only
  rw[gt,take_length]) (by omega)
 have e':iter (js l w al) aY (dU.mk 0 [])=_:=e;unfold ug;rw[e',ob]
theorem GS {w:Wd}(h1:a.B.length<=1000)(h2:a.V.length<=1000)(hb:w.Bad.length<=100)(h3:al.B.length<=100000)(h4:al.V.length<=100000):zu a w al=some (m5 w.Bad al a):=by
 unfold zu;rw[Ee (by omega) hb h3,ob,Ef (by omega) hb h4,ob];rfl
theorem Ed {w:Wd}(hl:l.length<=100000):ue l w=some (fp w l):=by
 have e:=av (step:=jq l w) (n:=l.length) (fun k=>dS.mk (k:Int) (fp w (l.take k))) (dS.mk (l.length:Int) (fp w l)) (fun k hk=>by
  obtain⟨y,hy,-⟩:=aA hk;have hlen:=bU (p:=fun a:Ac=>decide (a.Tick=w.Tick/\a.To>=0)) (l:=l) k;unfold fp at hlen⊢;unfold jq Jv;simp only;rw[eN,aw hy,ob,bg hy,ah (n:=k)];by_cases h1:y.Tick=w.Tick
  ·rw[beq_iff_eq.2 h1,ct,ob];by_cases h2:y.To>=0
   ·rw[aQ h2,ct,aQ ⟨h1,h2⟩,ct,aC (by simp only[length_singleton];omega),ct]
   ·rw[aR h2,cf,aR fun h=>h2 h.2,cf,append_nil]
  ·rw[show(y.Tick==w.Tick)=false by simp[h1],cf,ob,cf,aR fun h=>h1 h.1,cf,append_nil]) (by
  unfold jq;simp only
  rw[gt,take_length]) (by omega)
 have e':iter (jq l w) aY (dS.mk 0 [])=_:=e;unfold ue;rw[e',ob]
theorem C6 {w:Wd}(h:vz w):(eY w).B.length<=10000/\(eY w).V.length<=10000:=by
 have h1:=qz (l:=w.N) (w:=⟨[],[]⟩) (k:=500) h.nodes;have h2:=h.n;unfold eY;simp only[List.length_nil]at h1;omega
theorem GV {w:Wd}(h:vz w)(hl:l.length<=100000):zF w l=some (eY w,fz w,decide (fz w∈w.Bad),fp w l):=by
 unfold zF;rw[DV (by have:=h.n;omega) h.nodes,ob,wT,ob,qc (by have:=h.bad;omega),ob,Ed hl,ob];rfl
theorem qK (bad:List Int)(al:Vw)(a:Ac):(m5 bad al a).B.length<=a.B.length/\(m5 bad al a).V.length<=a.V.length:=⟨length_filter_le _ _,length_filter_le _ _⟩
theorem xE {slot wh:Int}{bad:List Int}{al:Vw}{me:Bool}{k:Int}:∀{l:List Ac} {s:Vw×List Of},(∀a∈l,a.B.length<=8/\a.V.length<=8)->(l.foldl (dv slot wh bad al me k) s).1.B.length<=s.1.B.length+8*l.length/\(l.foldl (dv slot wh bad al me k) s).1.V.length<=s.1.V.length+8*l.length/\(l.foldl (dv slot wh bad al me k) s).2.length<=s.2.length+l.length
 |[],s,_=>by simp
 | a ::r,s,h=>by
  rw[foldl_cons,length_cons];obtain⟨h1,h2⟩:=h a (mem_cons_self ..);have ih:=xE (slot:=slot) (wh:=wh) (bad:=bad) (al:=al) (me:=me) (k:=k) (l:=r) (s:=dv slot wh bad al me k s a) fun b hb=>h b (mem_cons_of_mem _ hb);have hf:=qK bad al a;have hj:=si s.1 (m5 bad al a)
  have:(dv slot wh bad al me k s a).1.B.length<=s.1.B.length+8/\(dv slot wh bad al me k s a).1.V.length<=s.1.V.length+8/\(dv slot wh bad al me k s a).2.length<=s.2.length+1:=by
   unfold dv;split
   ·omega
   ·split
    ·simp only;omega
    ·split
     ·split
      ·omega
      ·simp only[length_append,length_singleton];omega
     ·omega
  omega
theorem LD {w:Wd}(h:vz w)(hl:nx l)(k:Nat):Nk w (eY w) (fz w) (decide (fz w∈w.Bad)) (fp w l) (k:Int)=some (bk w l k):=by
 have hal:=C6 h;have hcl:(fp w l).length<=30:=Nat.le_trans (length_filter_le _ _) hl.len;have hce:∀a∈fp w l,a.B.length<=8/\a.V.length<=8:=fun a ha=>hl.each a (mem_filter.1 ha).1;unfold bk;generalize fp w l=cl at hcl hce;generalize hst:dv (u8 w) (fz w) w.Bad (eY w) (decide (fz w∈w.Bad)) (k:Int)=st;have ho:=h.o;have hb:=h.bad
 have e:=av (step:=rN w (eY w) (fz w) (decide (fz w∈w.Bad)) cl (k:Int)) (n:=cl.length) (fun j=>il.mk (j:Int) ((cl.take j).foldl st (eY w,w.O)).1 ((cl.take j).foldl st (eY w,w.O)).2) (il.mk (cl.length:Int) (cl.foldl st (eY w,w.O)).1 (cl.foldl st (eY w,w.O)).2) (fun j hj=>by
  obtain⟨y,hy,hm⟩:=aA hj
  have et:cl.take (j+1)=cl.take j++[y]:=by rw[take_add_one,hy];rfl
  have hlen:=xE (slot:=u8 w) (wh:=fz w) (bad:=w.Bad) (al:=eY w) (me:=decide (fz w∈w.Bad)) (k:=(k:Int)) (l:=cl.take j) (s:=(eY w,w.O)) fun a ha=>hce a (List.mem_of_mem_take ha);rw[hst,List.length_take]at hlen;obtain⟨y1,y2⟩:=hce y hm;have hf:=qK w.Bad (eY w) y;unfold rN;simp only;rw[et,List.foldl_append,foldl_cons,List.foldl_nil];generalize (cl.take j).foldl st (eY w,w.O)=s at hlen⊢;simp only at hlen;rw[eN,aw hy,ob,aQ (show(0:Int)<=(k:Int) by omega),ct,ah (n:=j),<-hst];show(bif xy y.To (k:Int)then _ else _)=_;unfold dv
  cases hof:xy y.To (k:Int)with
  |true=>rw[ct,i1_ rfl]
  | false=>
   rw[cf,i0_ (by simp),GS (by omega) (by omega) hb (by omega) (by omega),ob]
   cases hoff:y.Offer with
   |false=>rw[Bool.not_false,ct,i1_ rfl,pz,ob]
   | true=>
    rw[Bool.not_true,cf,i0_ (by simp)]
    cases hme:decide (fz w∈w.Bad)with
    |false=>rw[cf,ob,cf,i0_ (by simp)]
    | true=>
     rw[ct,ob,i1_ rfl]
     cases hB:(m5 w.Bad (eY w) y).B with
     |nil=>rfl
     |cons b r=>
      rw[aQ (by simp),ct];show(bif xp (b::r) 1 (b::r).length then _ else none)=_;rw[show xp (b::r) 1 ((b::r).length:Int)=true from aQ (by simp only[length_cons];omega),ct,aC (by simp only[length_singleton];omega),ct]
      rfl) (by
  unfold rN;simp only
  rw[gt,take_length]) (by omega)
 have e':iter (rN w (eY w) (fz w) (decide (fz w∈w.Bad)) cl (k:Int)) aY (il.mk 0 (eY w) w.O)=_:=e;unfold Nk;rw[aC,ct,e',ob]
theorem ir {w:Wd}{n:Nd}(h:w.N[k]?=some n):(fy w l)[k]?=some (du w.C n (bk w l k).1 (bk w l k).2):=by
 unfold fy;rw[getElem?_map,List.getElem?_zipIdx,h];simp
theorem iu (w:Wd)(l:List Ac):(fy w l).length=w.N.length:=by
 unfold fy;rw[length_map,List.length_zipIdx]
theorem uJ (w:Wd):((D9 w.C).bind fun v2=>bif !v2 then some true else bif decide (w.Tick<3)then some true else some (decide (w.Tick>=3145728)))=some (qT w):=by
 rw[mr,ob];unfold qT;by_cases h1:cZ w.C
 ·rw[aQ h1,Bool.not_true,cf];by_cases h2:w.Tick<3
  ·rw[aQ h2,ct,aQ (.inr (.inl h2))]
  ·rw[aR h2,cf];by_cases h3:w.Tick>=3145728
   ·rw[aQ h3,aQ (.inr (.inr h3))]
   ·rw[aR h3,aR];rintro(h|h|h)
    ·exact h h1
    ·exact h2 h
    ·exact h3 h
 ·rw[aR h1,Bool.not_false,ct,aQ (.inl h1)]
theorem Gm {w:Wd}(h:vz w)(hl:nx l)(hG:∀k n,w.N[k]?=some n->nw w.C n (bk w l k).1 (bk w l k).2)(hT:∀k n,w.N[k]?=some n->(du w.C n (bk w l k).1 (bk w l k).2).2.length<=1):tW w l=some (mC w l):=by
 have hN:=h.n;unfold tW mC;rw[uJ,ob]
 cases hi:qT w with
 |true=>rw[ct,yM h,ob,i1_ rfl]
 | false=>
  have hsl:=iu w l
  have hfl:∀k,k<=w.N.length->(((fy w l).take k).flatMap (·.2)).length<=k:=by
   intro k
   induction k with
   |zero=>intro _;simp
   |succ k ih=>
    intro hk;obtain⟨n,hn⟩:∃n,w.N[k]?=some n:=⟨_,getElem?_eq_getElem (by omega)⟩;rw[take_add_one,ir hn,List.flatMap_append,length_append];have:=ih (by omega);have:=hT k n hn;simp only[Option.toList_some,List.flatMap_cons,List.flatMap_nil,append_nil];omega
  have e:=av (step:=lm w (eY w,fz w,decide (fz w∈w.Bad),fp w l)) (n:=w.N.length) (fun k=>fR.mk (k:Int) (((fy w l).take k).map (·.1)) (((fy w l).take k).flatMap (·.2))) (fR.mk (w.N.length:Int) ((fy w l).map (·.1)) ((fy w l).flatMap (·.2))) (fun k hk=>by
   obtain⟨y,hy,hm⟩:=aA hk;have hk2:=hfl k (by omega);have hT1:=hT k y hy;have hw:=(nY (hG k y hy)).1;unfold lm;simp only;rw[eN,LD h hl k,ob,aw hy,ob,hw,ob,aC (by rw[length_map,List.length_take];simp only[length_singleton];omega),ct,aC,ct,ah (n:=k)];rw[take_add_one,ir hy,List.map_append,List.flatMap_append]
   simp) (by
   unfold lm;simp only
   rw[gt,List.take_of_length_le (by omega)]) (by omega)
  have e':iter (lm w (eY w,fz w,decide (fz w∈w.Bad),fp w l)) aY (fR.mk 0 [] [])=_:=e;have:=h.bad;rw[cf,GV h (by have:=hl.len;omega),ob,aC,ct,e',ob,i0_ (by simp)]
def LI (o:Of):Prop:=o.V.B.length<=60/\o.V.V.length<=240
structure Qa (c:Cf)(U:Vw)(n:Nd):Prop where
 may:i4 c n.V
 nd:zZ n.In
 few:n.O.length<=8
 all:p9 (·∈U.B) (·∈U.V) n
 sz:∀o∈n.O,LI o
structure Em (U:Vw)(w:Wd):Prop where
 len:w.N.length<=6
 bad:w.Bad.length<=10
 nodes:∀n∈w.N,Qa w.C U n
 told:w.O.length<=6
 offs:∀o∈w.O,ko (·∈U.B) (·∈U.V) o/\LI o
def ja (l:List Ac):Vw:=⟨l.flatMap Ac.B,l.flatMap Ac.V⟩
def ny (a b:Vw):Prop:=(∀x∈a.B,x∈b.B)/\∀x∈a.V,x∈b.V
theorem vd (a:Vw):ny a a:=⟨fun _ h=>h,fun _ h=>h⟩
theorem sG {a b d:Vw}(h1:ny a b)(h2:ny b d):ny a d:=⟨fun x h=>h2.1 x (h1.1 x h),fun x h=>h2.2 x (h1.2 x h)⟩
theorem oH (hP:∀b,P b->P' b)(hQ:∀v,Q v->Q' v){n:Nd}(h:p9 P Q n):p9 P' Q' n:=
 ⟨⟨fun b hb=>hP b (h.1.1 b hb),fun v hv=>hQ v (h.1.2 v hv)⟩,⟨fun b hb=>hP b (h.2.1.1 b hb),fun v hv=>hQ v (h.2.1.2 v hv)⟩,fun o ho=>⟨hP _ (h.2.2 o ho).1,fun b hb=>hP b ((h.2.2 o ho).2.1 b hb),fun v hv=>hQ v ((h.2.2 o ho).2.2 v hv)⟩⟩
theorem rO (hP:∀b,P b->P' b)(hQ:∀v,Q v->Q' v){o:Of}(h:ko P Q o):ko P' Q' o:=
 ⟨hP _ h.1,fun b hb=>hP b (h.2.1 b hb),fun v hv=>hQ v (h.2.2 v hv)⟩
theorem HX {U U':Vw}(h:ny U U'){n:Nd}(hn:Qa c U n):Qa c U' n:=⟨hn.may,hn.nd,hn.few,oH h.1 h.2 hn.all,hn.sz⟩
theorem IE {U U':Vw}(h:ny U U'){w:Wd}(hw:Em U w):Em U' w:=⟨hw.len,hw.bad,fun n hn=>HX h (hw.nodes n hn),hw.told,fun o ho=>⟨rO h.1 h.2 (hw.offs o ho).1,(hw.offs o ho).2⟩⟩
section
variable {P : Bk -> Prop} {Q : Vt -> Prop}
theorem C5 :∀{l:List Nd} {w:Vw},fM P Q w->(∀n∈l,p9 P Q n)->fM P Q (mz l w)
 |[],w,h,_=>h
 |n::r,w,h,hs=>by
  have hn:=hs n (mem_cons_self ..);exact C5 (l:=r) (w:=cQ w (fu n)) (dY h (dY hn.1 hn.2.1)) fun m hm=>hs m<|mem_cons_of_mem _ hm
theorem En {bad:List Int}(hal:fM P Q al)(hB:∀b∈a.B,b.From∈bad->P b)(hV:∀v∈a.V,v.From∈bad->Q v):fM P Q (m5 bad al a):=by
 refine⟨fun b hb=>?_,fun v hv=>?_⟩
 ·obtain⟨h1,h2⟩:=mem_filter.1 hb;rcases of_decide_eq_true h2 with h|h
  ·exact hB b h1 h
  ·exact hal.1 b h
 ·obtain⟨h1,h2⟩:=mem_filter.1 hv;rcases of_decide_eq_true h2 with h|h
  ·exact hV v h1 h
  ·exact hal.2 v h
theorem Io {slot wh:Int}{bad:List Int}{al:Vw}{me:Bool}{k:Int}(hal:fM P Q al):∀{l:List Ac} {s:Vw×List Of},(∀a∈l,(∀b∈a.B,b.From∈bad->P b)/\∀v∈a.V,v.From∈bad->Q v)->fM P Q s.1->(∀o∈s.2,ko P Q o)->fM P Q (l.foldl (dv slot wh bad al me k) s).1/\∀o∈(l.foldl (dv slot wh bad al me k) s).2,ko P Q o
 |[],s,_,h1,h2=>⟨h1,h2⟩
 | a ::r,s,h,h1,h2=>by
  rw[foldl_cons];have hf:=En hal (h a (mem_cons_self ..)).1 (h a (mem_cons_self ..)).2
  have :fM P Q (dv slot wh bad al me k s a).1/\∀o∈(dv slot wh bad al me k s a).2,ko P Q o:=by
   unfold dv;split
   ·exact⟨h1,h2⟩
   ·split
    ·exact⟨dY h1 hf,h2⟩
    ·split
     ·split
      ·exact⟨h1,h2⟩
      ·rename_i b q hB;refine⟨h1,fun o ho=>?_⟩;rcases mem_append.1 ho with ho|ho
       ·exact h2 o ho
       ·rw[List.mem_singleton.1 ho];exact⟨hf.1 b (by rw[hB];exact mem_cons_self ..),fun x hx=>hf.1 x (by rw[hB];exact mem_cons_of_mem _ hx),hf.2⟩
     ·exact⟨h1,h2⟩
  exact Io hal (fun b hb=>h b (mem_cons_of_mem _ hb)) this.1 this.2
theorem K6 {slot wh:Int}{bad:List Int}{al:Vw}{me:Bool}{k:Int}:∀{l:List Ac} {s:Vw×List Of},zZ s.1->zZ (l.foldl (dv slot wh bad al me k) s).1
 |[],s,h=>h
 | a::r,s,h=>by
  rw[foldl_cons];refine K6 ?_;unfold dv;split
  ·exact h
  ·split
   ·exact lX h
   ·split
    ·split <;>exact h
    ·exact h
theorem K7 {slot wh:Int}{bad:List Int}{al:Vw}{me:Bool}{k:Int}:∀{l:List Ac} {s:Vw×List Of},(∀a∈l,a.B.length<=8/\a.V.length<=8)->(∀o∈s.2,LI o)->∀o∈(l.foldl (dv slot wh bad al me k) s).2,LI o
 |[],s,_,h=>h
 | a ::r,s,hl,h=>by
  rw[foldl_cons];refine K7 (fun b hb=>hl b (mem_cons_of_mem _ hb)) ?_;have hf:=qK bad al a;have ha:=hl a (mem_cons_self ..);unfold dv;split
  ·exact h
  ·split
   ·exact h
   ·split
    ·split
     ·exact h
     ·rename_i b q hB;intro o ho;rcases mem_append.1 ho with ho|ho
      ·exact h o ho
      ·rw[List.mem_singleton.1 ho];have:=congrArg List.length hB;rw[length_cons]at this;exact⟨show q.length<=60 by omega,show(m5 bad al a).V.length<=240 by omega⟩
    ·exact h
end
def Kp (U:Vw):Prop:=U.B.length<=400/\U.V.length<=400
theorem tJ {w:Wd}(hw:Em U w)(hU:Kp U):vz w:=by
 refine⟨by have:=hw.len;omega,fun n hn=>?_,by have:=hw.told;omega,fun o ho=>?_,by have:=hw.bad;omega⟩
 ·have h:=hw.nodes n hn;have h1:=h.may.lenB;have h2:=h.may.lenV;have h3:=d5 h.nd.1 h.all.2.1.1;have h4:=d5 h.nd.2 h.all.2.1.2;have h5:=h.few;obtain⟨u1,u2⟩:=hU;exact⟨⟨by omega,by omega⟩,⟨by omega,by omega⟩,by omega,fun o ho=>by have:=h.sz o ho;exact⟨by have:=this.1;omega,by have:=this.2;omega⟩⟩
 ·have:=(hw.offs o ho).2;exact⟨by have:=this.1;omega,by have:=this.2;omega⟩
theorem nH {w:Wd}(hn:∀n∈w.N,p9 P Q n)(ho:∀o∈w.O,ko P Q o)(ha:∀a∈l,(∀b∈a.B,b.From∈w.Bad->P b)/\∀v∈a.V,v.From∈w.Bad->Q v)(k:Nat) :
  fM P Q (bk w l k).1/\∀o∈(bk w l k).2,ko P Q o:=by
 have hal:fM P Q (eY w):=C5 uj hn;exact Io hal (fun a h=>ha a (mem_filter.1 h).1) hal ho
theorem JQ (w:Wd)(l:List Ac)(k:Nat):zZ (bk w l k).1:=K6 (wb List.nodup_nil List.nodup_nil)
theorem Ht {w:Wd}(hl:nx l)(k:Nat):(bk w l k).2.length<=w.O.length+30:=by
 have h:=(xE (slot:=u8 w) (wh:=fz w) (bad:=w.Bad) (al:=eY w) (me:=decide (fz w∈w.Bad)) (k:=(k:Int)) (l:=fp w l) (s:=(eY w,w.O)) fun a ha=>hl.each a (mem_filter.1 ha).1).2.2;have h2:(fp w l).length<=l.length:=length_filter_le _ _;have h3:=hl.len;unfold bk;simp only at h;omega
theorem xe {w:Wd}(hw:Em U w)(hl:nx l)(k:Nat):∀o∈(bk w l k).2,LI o:=K7 (fun a ha=>hl.each a (mem_filter.1 ha).1) fun o ho=>(hw.offs o ho).2
theorem w2 (hs:ny (ja l) U)(bad:List Int):∀a∈l,(∀b∈a.B,b.From∈bad->b∈U.B)/\∀v∈a.V,v.From∈bad->v∈U.V:=
 fun a ha=>⟨fun b hb _=>hs.1 b (mem_flatMap.2 ⟨a,ha,hb⟩),fun v hv _=>hs.2 v (mem_flatMap.2 ⟨a,ha,hv⟩)⟩
theorem JY {w:Wd}(hw:Em U w)(hU:Kp U)(hl:nx l)(hs:ny (ja l) U){n:Nd}(hk:w.N[k]?=some n):nw w.C n (bk w l k).1 (bk w l k).2:=by
 have hn:=hw.nodes n (mem_of_getElem? hk);obtain⟨u1,u2⟩:=hU;have hc:=nH (fun n hn=>(hw.nodes n hn).all) (fun o ho=>(hw.offs o ho).1) (w2 hs w.Bad) k;have hd:=JQ w l k;have hi:=d5 hd.1 hc.1.1;have hi2:=d5 hd.2 hc.1.2;have hj:zZ (cQ n.In (bx w.C (bk w l k).1)):=lX hn.nd;have hja:fM (·∈U.B) (·∈U.V) (cQ n.In (bx w.C (bk w l k).1)):=dY hn.all.2.1 (oI hc.1);have h1:=hn.may.lenB;have h2:=hn.may.lenV;have h3:=d5 hn.nd.1 hn.all.2.1.1;have h4:=d5 hn.nd.2 hn.all.2.1.2;have h5:=d5 hj.1 hja.1;have h6:=d5 hj.2 hja.2;have h7:=Ht (w:=w) hl k;have h8:=hw.told;have h9:=hn.few;refine⟨by omega,by omega,by omega,by omega,by omega,fun y hy=>?_⟩
 have:LI y:=by
  rcases mem_append.1 hy with hy|hy
  ·exact hn.sz y hy
  ·exact xe hw hl k y hy
 exact⟨by have:=this.1;omega,by have:=this.2;omega⟩
noncomputable def Pi (w:Wd)(l:List Ac):List Bk:=w.N.zipIdx.map fun p=>l7 (cK w.C p.1 (bk w l p.2).1 (bk w l p.2).2) w.C (aF p.1)
noncomputable def Pj (w:Wd)(l:List Ac):List Vt:=w.N.zipIdx.map fun p=>It w.C p.1 (bk w l p.2).1 (bk w l p.2).2
noncomputable def pb (U:Vw)(w:Wd)(l:List Ac):Vw:=⟨U.B++Pi w l,U.V++Pj w l⟩
theorem iR (U:Vw)(w:Wd)(l:List Ac):ny U (pb U w l):=⟨fun _ h=>List.mem_append_left _ h,fun _ h=>List.mem_append_left _ h⟩
theorem H4 {w:Wd}(hw:w.N.length<=6)(l:List Ac):(pb U w l).B.length<=U.B.length+6/\(pb U w l).V.length<=U.V.length+6:=by
 unfold pb Pi Pj;simp only[length_append,length_map,List.length_zipIdx];omega
theorem DS {w:Wd}{n:Nd}(h:w.N[k]?=some n):(n,k)∈w.N.zipIdx:=by
 refine mem_of_getElem? (i:=k) ?_;rw[List.getElem?_zipIdx,h];simp
theorem tx {w:Wd}(hi:qT w=false):((mC w l).N[k]?=(w.N[k]?).map fun n=>(du w.C n (bk w l k).1 (bk w l k).2).1):=by
 unfold mC;rw[i0_ (by simp[hi])];simp only;rw[getElem?_map]
 cases h:w.N[k]? with
 |none=>
  have:=List.getElem?_eq_none_iff.1 h;rw[List.getElem?_eq_none (by rw[iu];exact this)];rfl
 |some n=>rw[ir h];rfl
theorem C9 {w:Wd}(hi:qT w=false){o:Of}(ho:o∈(mC w l).O):∃k n,w.N[k]?=some n/\o∈(du w.C n (bk w l k).1 (bk w l k).2).2:=by
 unfold mC at ho;rw[i0_ (by simp[hi])]at ho;obtain⟨p,hp,h⟩:=mem_flatMap.1 ho;obtain⟨k,hk,e⟩:=List.getElem_of_mem hp;rw[iu]at hk;obtain⟨n,hn⟩:∃n,w.N[k]?=some n:=⟨_,getElem?_eq_getElem hk⟩;refine⟨k,n,hn,?_⟩;have h1:=ir (l:=l) hn;rw[getElem?_eq_getElem (by rw[iu];exact hk),e]at h1;rw[<-Option.some.inj h1];exact h
theorem Mt (w:Wd)(l:List Ac):(mC w l).N.length=w.N.length:=by
 unfold mC;split
 ·rfl
 ·simp only[length_map,iu]
theorem KR {w:Wd}(hw:Em U w)(hU:Kp U)(hl:nx l)(hs:ny (ja l) U):tW w l=some (mC w l)/\Em (pb U w l) (mC w l):=by
 have hfit:=tJ hw hU;have hG:∀k n,w.N[k]?=some n->nw w.C n (bk w l k).1 (bk w l k).2:=fun k n h=>JY hw hU hl hs h;have hsame:=fun k n (h:w.N[k]?=some n)=>wI (hG k n h) (hw.nodes n (mem_of_getElem? h)).may (hw.nodes n (mem_of_getElem? h)).nd (hw.nodes n (mem_of_getElem? h)).few;have hc:=fun k=>nH (fun n hn=>(hw.nodes n hn).all) (fun o ho=>(hw.offs o ho).1) (w2 hs w.Bad) k;refine⟨Gm hfit hl hG fun k n h=>(hsame k n h).2.2.2.2.2.2.1,?_⟩
 cases hi:qT w with
 |true=>unfold mC;rw[i1_ hi];exact IE (iR U w l) hw
 | false=>
  have hall:=fun k n (h:w.N[k]?=some n)=>A8 (P:=(·∈(pb U w l).B)) (Q:=(·∈(pb U w l).V)) (hG k n h)
   (oH (iR U w l).1 (iR U w l).2 (hw.nodes n (mem_of_getElem? h)).all)
   ⟨fun b hb=>(iR U w l).1 b ((hc k).1.1 b hb),fun v hv=>(iR U w l).2 v ((hc k).1.2 v hv)⟩
   (fun y hy=>rO (iR U w l).1 (iR U w l).2 ((hc k).2 y hy))
   (fun _ _ _=>List.mem_append_right _ (List.mem_map.2 ⟨_,DS h,rfl⟩)) (fun _ _ _=>List.mem_append_right _ (List.mem_map.2 ⟨_,DS h,rfl⟩))
  have hC:(mC w l).C=w.C:=by unfold mC;rw[i0_ (by simp[hi])]
  have hB:(mC w l).Bad=w.Bad:=by unfold mC;rw[i0_ (by simp[hi])]
  have hO:(mC w l).O.length<=6:=by
   have:∀k,k<=w.N.length->(((fy w l).take k).flatMap (·.2)).length<=k:=by
    intro k
    induction k with
    |zero=>intro _;simp
    |succ k ih=>
     intro hk;obtain⟨n,hn⟩:∃n,w.N[k]?=some n:=⟨_,getElem?_eq_getElem (by omega)⟩;rw[take_add_one,ir hn,List.flatMap_append,length_append];have:=ih (by omega);have:=(hsame k n hn).2.2.2.2.2.2.1;simp only[Option.toList_some,List.flatMap_cons,List.flatMap_nil,append_nil];omega
   have h2:=this w.N.length (Nat.le_refl _);rw[List.take_of_length_le (by rw[iu];omega)]at h2;have h3:=hw.len;unfold mC;rw[i0_ (by simp[hi])];simp only;omega
  refine⟨by rw[Mt];exact hw.len,by rw[hB];exact hw.bad,fun x hx=>?_,hO,fun o ho=>?_⟩
  ·obtain⟨k,hk,e⟩:=List.getElem_of_mem hx
   have h1:(mC w l).N[k]?=some x:=by rw[getElem?_eq_getElem hk,e]
   rw[tx hi]at h1
   cases hn:w.N[k]? with
   |none=>rw[hn]at h1;cases h1
   |some n=>
    rw[hn]at h1;have e2:=Option.some.inj h1;subst e2;obtain⟨s1,s2,s3,s4,s5,s6,s7,s8,s9⟩:=hsame k n hn;rw[hC];refine⟨s3.1,s4,s5,(hall k n hn).1,fun o ho=>?_⟩;rcases mem_append.1 (s8 o ho)with h|h
    ·exact(hw.nodes n (mem_of_getElem? hn)).sz o h
    ·exact xe hw hl k o h
  ·obtain⟨k,n,hn,h⟩:=C9 hi ho;obtain⟨s1,s2,s3,s4,s5,s6,s7,s8,s9⟩:=hsame k n hn;exact⟨(hall k n hn).2 o h,(s9 o h).lenB,(s9 o h).lenV⟩
structure Kq (w:Wd):Prop where
 may:cZ w.C
 lo:3<=w.Tick
 hi:w.Tick<=100000
 at_:∀n∈w.N,n.Tick=w.Tick
theorem Bc {w:Wd}(h:Kq w):qT w=false:=by
 refine aR ?_;have h1:=h.lo;have h2:=h.hi;rintro(h3|h3|h3)
 ·exact h3 h.may
 ·omega
 ·omega
theorem Il {w:Wd}(h:Kq w){n:Nd}(hn:n∈w.N):ga w.C n=false:=by
 have h1:=h.lo;have h2:=h.hi;have h3:=h.at_ n hn;exact JF h.may (by omega) (by omega)
theorem JR {w:Wd}(hw:Em U w)(hU:Kp U)(hl:nx l)(hs:ny (ja l) U)(ht:Kq w):(mC w l).C=w.C/\(mC w l).Bad=w.Bad/\(mC w l).Tick=w.Tick+1/\(∀n∈(mC w l).N,n.Tick=w.Tick+1)/\(mC w l).N.map Nd.No=w.N.map Nd.No:=by
 have hi:=Bc ht;have h1:=ht.lo;have h2:=ht.hi;have hG:∀k n,w.N[k]?=some n->nw w.C n (bk w l k).1 (bk w l k).2:=fun k n h=>JY hw hU hl hs h;have hsame:=fun k n (h:w.N[k]?=some n)=>wI (hG k n h) (hw.nodes n (mem_of_getElem? h)).may (hw.nodes n (mem_of_getElem? h)).nd (hw.nodes n (mem_of_getElem? h)).few;refine⟨by unfold mC;rw[i0_ (by simp[hi])],by unfold mC;rw[i0_ (by simp[hi])],by unfold mC;rw[i0_ (by simp[hi])];exact cR,fun x hx=>?_,?_⟩
 ·obtain⟨k,hk,e⟩:=List.getElem_of_mem hx
  have h1:(mC w l).N[k]?=some x:=by rw[getElem?_eq_getElem hk,e]
  rw[tx hi]at h1
  cases hn:w.N[k]? with
  |none=>rw[hn]at h1;cases h1
  |some n=>
   rw[hn]at h1;have e2:=Option.some.inj h1;subst e2;have hm:=mem_of_getElem? hn;have:=(hsame k n hn).2.1;rw[Il ht hm,i0_ (by simp),ht.at_ n hm,cR]at this;exact this
 ·apply List.ext_getElem?;intro k;rw[getElem?_map,getElem?_map,tx hi]
  cases hn:w.N[k]? with
  |none=>rfl
  |some n=>
   simp only[Option.map_some];rw[(hsame k n hn).1]
noncomputable def jn (w:Wd)(l:List Ac):Nat->Wd
 |0=>w
 |n+1=>mC (jn w l n) l
noncomputable def vG (U:Vw)(w:Wd)(l:List Ac):Nat->Vw
 |0=>U
 |n+1=>pb (vG U w l n) (jn w l n) l
structure Nl (U:Vw)(w:Wd)(l:List Ac)(k:Nat):Prop where
 ok:Em (vG U w l k) (jn w l k)
 B:(vG U w l k).B.length<=U.B.length+6*k
 V:(vG U w l k).V.length<=U.V.length+6*k
 sub:ny U (vG U w l k)
 time:Kq (jn w l k)
 tick:(jn w l k).Tick=w.Tick+k
 conf:(jn w l k).C=w.C
 bad:(jn w l k).Bad=w.Bad
 nos:(jn w l k).N.map Nd.No=w.N.map Nd.No
theorem Ig {U:Vw}{w:Wd}{l:List Ac}(hw:Em U w)(hl:nx l)(hs:ny (ja l) U)(ht:Kq w)(hB:U.B.length<=300)(hV:U.V.length<=300)(hT:w.Tick<=1000):∀k,k<=15->Nl U w l k
 |0,_=>⟨hw,by simp[vG],by simp[vG],vd U,ht,by simp[jn],rfl,rfl,rfl⟩
 |k+1,h=>by
  obtain⟨r1,r2,r3,r4,r5,r6,r7,r8,r9⟩:=Ig hw hl hs ht hB hV hT k (by omega);have hU:Kp (vG U w l k):=⟨by omega,by omega⟩;have hs':=sG hs r4;have hd:=KR r1 hU hl hs';obtain⟨t1,t2,t3,t4,t5⟩:=JR r1 hU hl hs' r5;have hn:=H4 (U:=vG U w l k) r1.len l;have h1:=r5.lo;refine⟨hd.2,?_,?_,sG r4 (iR _ _ _),⟨by show cZ (mC _ _).C;rw[t1];exact r5.may,by show 3<=(mC _ _).Tick;omega,by show(mC _ _).Tick<=_;omega,fun n hn=>by rw[t4 n hn];exact t3.symm⟩,?_,t1.trans r7,t2.trans r8,t5.trans r9⟩
  ·show(pb _ _ _).B.length<=_;omega
  ·show(pb _ _ _).V.length<=_;omega
  ·show(mC _ _).Tick=_;rw[t3,r6];omega
theorem Mu {w:Wd}(hl:nx l)(hs:ny (ja l) U)(hB:U.B.length<=300)(hV:U.V.length<=300)(hk:k<=15)(h:Nl U w l k):tW (jn w l k) l=some (jn w l (k+1)):=by
 have h2:=h.B;have h3:=h.V;exact(KR h.ok ⟨by omega,by omega⟩ hl (sG hs h.sub)).1
theorem Gq {w:Wd}(hl:nx l)(hs:ny (ja l) U)(hB:U.B.length<=300)(hV:U.V.length<=300){t:Int}(ht:t<=15)(h:∀k:Nat,(k:Int)<=t\/k=0->Nl U w l k):tX w l t=some (jn w l t.toNat):=by
 have h0:=h 0 (.inr rfl);have hU:Kp U:=⟨by omega,by omega⟩
 have e:=av (step:=ln l t) (n:=t.toNat) (fun k=>fS.mk (k:Int) (jn w l k)) (fS.mk (t.toNat:Int) (jn w l t.toNat)) (fun k hk=>by
  unfold ln;simp only
  rw[i0_ (by omega),aQ (show(k:Int)<t by omega),ct,Mu hl hs hB hV (by omega) (h k (.inl (by omega))),ob,ah (n:=k)]) (by
  unfold ln;simp only
  rw[i0_ (by omega),aR (show¬(t.toNat:Int)<t by omega),cf]) (by omega)
 have e':iter (ln l t) aY (fS.mk 0 w)=_:=e;unfold tX;rw[yM (tJ (U:=U) (w:=w) h0.ok hU),ob,e',ob]
end Go.Mg
