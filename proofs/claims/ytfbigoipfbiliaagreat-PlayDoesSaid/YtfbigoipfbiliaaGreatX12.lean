/- What comes at a tick: closures. Conditions: none. -/
import Derived.Test.YtfbigoipfbiliaaGreatX11
set_option maxRecDepth 100000
set_option linter.unusedSimpArgs false
set_option linter.unusedVariables false
namespace Go.Mg
open IntKind (i64)
open Go.Proofs.Tryz (prog)
open List (append_nil foldl_cons length_cons length_singleton mem_cons_of_mem mem_cons_self mem_filter take_length)
open Go.Proofs
variable {α : Type} {a b : List Of} {al : Vw} {cl l : List Ac} {me r_ : Bool} {wh : Int}
theorem x9 {w r_:Wd}(h:sh w=some r_):w=r_:=by
 unfold sh at h;obtain⟨_,h⟩:=zG h;obtain⟨_,h⟩:=zG h;obtain⟨_,_,h⟩:=zB h;obtain⟨_,_,h⟩:=zB h;exact zJ h
def IK (a:Ac)(w:Wd):Option Bool:=bif a.Tick==w.Tick then some (decide (a.To>=0))else some false
theorem N4 {a:Ac}{w:Wd}(h:IK a w=some r_):LC prog 109 [.p (n8 a),.ptr 0 0] [.box (gB w)] (Is (bQ r_) [.box (gB w)]):=by
 refine eN Tryz.func109 Z Z Z ?_;unfold IK at h;refine qR<|yS Z (bx Z Z Z Z Z)<|mN Z<|qR<|yS Z (zA Z Z y0)<|yS Z (zD Z Z Z aW Z Z)<|yS Z (zA Z Z cU)<|yS Z (zD Z Z Z aW Z Z)<|yS Z (an Z Z Z Z)<|zM Z ?_;refine zc 9 Z (fun g1=>?_)<|fun g1=>?_
 ·refine zi g1 h fun h=>yV Z (gd g1 Z) (zA Z Z qp)<|yV Z (gd g1 Z) (zD Z Z Z aW Z Z)<|yV Z (gd g1 Z) (an Z Z Z Z)<|yS Z (bv Z (aJ g1 Z) Z)<|mN Z<|zr ?_;cases h;exact bT (env':=[(3,.p (.bool (decide (a.To>=0))))]) (H':=[.box (gB w)]) (av 1 ⟨Z,t_⟩) (.one (.tmp Z))<|⟨rfl,rfl⟩
 ·refine zo g1 h fun h=>yU Z (gd g1 Z) Z<|yU Z (gd g1 Z) Z<|yU Z (gd g1 Z) Z<|yS Z (aT Z (aJ g1 Z) Z)<|mN Z<|zr ?_;cases h;exact bT (env':=[(3,(bQ false))]) (H':=[.box (gB w)]) (av 1 ⟨Z,t_⟩) (.one (.tmp Z))<|⟨rfl,rfl⟩
structure dS where
 t10:Int
 out:List Ac
def jg (l:List Ac)(w:Wd)(x1:dS):Option (dS⊕dS):=bif decide (x1.t10<(l.length:Int))then (ix l x1.t10).bind fun y1=>(IK y1 w).bind fun v2=>bif v2 then bif bJ x1.out.length [y1].length 72 then some (.inl (dS.mk (i64.wrap (x1.t10+1)) (x1.out++[y1])))else none else some (.inl (dS.mk (i64.wrap (x1.t10+1)) x1.out))else some (.inr (dS.mk x1.t10 x1.out))
def tD (l:List Ac)(w:Wd):Option (List Ac):=(iter (jg l w) aY (dS.mk 0 ([]:List Ac))).bind fun v1=>some v1.out
theorem IY {w:Wd}{r_:(List Ac)}(h:tD l w=some r_):LC prog 108 [.p (.slice 5 (l.map n8)),.fn 109 [] [.ptr 0 0]] [.box (gB w)] (Is (.p (.slice 5 (r_.map n8))) [.box (gB w)]):=by
 refine eN Tryz.func108 Z Z Z ?_;unfold tD at h;refine qR<|mN Z<|qR<|mN Z<|zQ<|zQ<|LW.ent (bY.lazy (t:=5) (m:=5) Z Z Z)<|zR<|zM Z<|yS Z (ck Z Z)<|mN Z ?_;obtain⟨v1,p1,c1⟩:=zB h;clear h;refine LW.tail (E:=[(4,.zs),(5,.vec 5 1 (v1.out.map n8).length 0 (v1.out.map n8).length)]) (O:=[.box (gB w),.vec 5 (v1.out.map n8)]) ?_<|fun e1 K1 u1=>?_
 ·refine LW.block ?_;refine LW.iterB (E:=fun x1:dS=>[(1,.fn 109 [] [.ptr 0 0]),(4,.zs),(5,.vec 5 1 (x1.out.map n8).length 0 (x1.out.map n8).length),(8,.p (.slice 5 (l.map n8))),(9,.p (.int .i64 (l.length:Int))),(10,(iQ x1.t10))]) (O:=fun x1=>[.box (gB w),.vec 5 (x1.out.map n8)]) p1 (av 2 ⟨Z,Z,Z,Z,Z,Z,t_⟩)<|fun x1 z1 h m1=>?_;unfold jg at h;refine qR<|yS Z (an Z Z Z Z)<|nT<|zQ ?_;refine zX Z (fun g1=>?_)<|fun g1=>?_
  ·refine zi g1 h fun h=>zk<|zT<|zQ<|zl<|qR<|zb h fun y1 b1 h=>yS Z (zx Z Z Z j7 b1 Z)<|yS Z (bR Z Z Z nC Z Z)<|yS Z (ze Z HT Z Z)<|yS Z (zs Z Z Z Z nC Z Z Z Z)<|nT<|qR<|zM Z<|yS Z (zD Z Z Z nC Z Z)<|zb h fun v2 a2 h=>yS Z (yC Z Z Z (LC.pre (N4 a2) Z Z Z))<|nT ?_;refine zX Z (fun g2=>?_)<|fun g2=>?_
   ·refine zi g2 h fun h=>zR<|zM Z<|yS Z (zD Z Z Z nC Z Z)<|yS Z (gR Z j7 Z Z Z Z Z)<|zg h fun q1 h=>yS Z (aa.appendX n8 x1.out [y1] rfl Z Z Z iy.p Z j7 q1 Z)<|zM Z<|zN<|af<|zT<|zR<|yS Z (an Z Z Z Z)<|mN Z ?_;cases h;exact⟨_,rfl,av 2 ⟨Z,Z,Z,Z,Z,Z,t_⟩⟩
   ·refine zo g2 h fun h=>zk<|af<|zT<|zR<|yS Z (an Z Z Z Z)<|mN Z ?_;cases h;exact⟨_,rfl,av 2 ⟨Z,Z,Z,Z,Z,Z,t_⟩⟩
  ·refine zo g1 h fun h=>zq<|ai<|ai<|zy<|zT ?_;cases h;obtain rfl:=(m1 _ rfl);exact av 2 ⟨Z,Z,t_⟩
 ·have h:=c1;clear p1;refine zT<|LW.weak u1<|zQ<|LW.ent (bY.frz (t:=5) (env':=[]) (H0:=[.box (gB w)]) Z Z Z Z Z trivial Z Z)<|zR<|zM Z<|mN Z<|zr ?_;cases h;exact aD (.one (.tmp Z))<|⟨rfl,rfl⟩
def DB (who:Int)(w:Wd):Option Bool:=(xn w.Bad who).bind fun v1=>some v1
theorem J5 {who:Int}{w:Wd}(h:DB who w=some r_):LC prog 110 [(iQ who),.ptr 2 0] (hM w al wh me cl 111 110) (Is (bQ r_) (hM w al wh me cl 111 110)):=by
 refine eN Tryz.func110 Z Z Z ?_;unfold DB at h;refine qR<|mN Z<|qR<|yS Z (zA Z Z cP)<|yS Z (zD Z Z Z dH Z Z)<|zM Z<|zb h fun v1 a1 h=>yS Z (yP Z Z Z (IV a1) bG)<|mN Z<|zr ?_;cases h;exact aD (.one (.tmp Z))<|⟨rfl,rfl⟩
def yr (x:Bk)(w:Wd)(al:Vw):Option Bool:=(DB x.From w).bind fun v1=>bif v1 then some true else (Ds al.B x).bind fun v2=>some v2
theorem Lx {x:Bk}{w:Wd}(h:yr x w al=some r_):LC prog 113 [.p (aA x),.ptr 5 0,.ptr 4 0] (hM w al wh me cl 111 110) (Is (bQ r_) (hM w al wh me cl 111 110)):=by
 refine eN Tryz.func113 Z Z Z ?_;unfold yr at h;refine qR<|yS Z (bx Z Z Z Z Z)<|mN Z<|qR<|yS Z (zD Z Z Z wg Z Z)<|yS Z (zA Z Z rD)<|yS Z (zD Z Z Z aW Z Z)<|zb h fun v1 a1 h=>yS Z (yC Z Z Z (LC.pre (J5 a1) Z Z Z))<|zM Z ?_;refine zc 9 Z (fun g1=>?_)<|fun g1=>?_
 ·refine zi g1 h fun h=>yU Z (gd g1 Z) Z<|yU Z (gd g1 Z) Z<|yU Z (gd g1 Z) Z<|yU Z (gd g1 Z) Z<|yU Z (gd g1 Z) Z<|yS Z (bv Z (aJ g1 Z) Z)<|mN Z<|zr ?_;cases h;exact bT (env':=[(4,(bQ true))]) (H':=(hM w al wh me cl 111 110)) (av 6 ⟨Z,t_⟩) (.one (.tmp Z))<|⟨rfl,rfl⟩
 ·refine zo g1 h fun h=>yV Z (gd g1 Z) (zA Z Z ud)<|yV Z (gd g1 Z) (zA Z Z aK)<|yV Z (gd g1 Z) (zD Z Z Z bM Z Z)<|yV Z (gd g1 Z) (zD Z Z Z ce Z Z)<|zb h fun v2 a2 h=>yV Z (gd g1 Z) (yP Z Z Z (MX a2) bG)<|yS Z (aT Z (aJ g1 Z) Z)<|mN Z<|zr ?_;obtain rfl:=zJ h;exact bT (env':=[(4,(bQ v2))]) (H':=(hM w al wh me cl 111 110)) (av 6 ⟨Z,t_⟩) (.one (.tmp Z))<|⟨rfl,rfl⟩
def yt (x:Vt)(w:Wd)(al:Vw):Option Bool:=(DB x.From w).bind fun v1=>bif v1 then some true else (Dt al.V x).bind fun v2=>some v2
theorem Ly {x:Vt}{w:Wd}(h:yt x w al=some r_):LC prog 116 [.p (aO x),.ptr 5 0,.ptr 4 0] (hM w al wh me cl 111 110) (Is (bQ r_) (hM w al wh me cl 111 110)):=by
 refine eN Tryz.func116 Z Z Z ?_;unfold yt at h;refine qR<|yS Z (bx Z Z Z Z Z)<|mN Z<|qR<|yS Z (zD Z Z Z wg Z Z)<|yS Z (zA Z Z ik)<|yS Z (zD Z Z Z aW Z Z)<|zb h fun v1 a1 h=>yS Z (yC Z Z Z (LC.pre (J5 a1) Z Z Z))<|zM Z ?_;refine zc 9 Z (fun g1=>?_)<|fun g1=>?_
 ·refine zi g1 h fun h=>yU Z (gd g1 Z) Z<|yU Z (gd g1 Z) Z<|yU Z (gd g1 Z) Z<|yU Z (gd g1 Z) Z<|yU Z (gd g1 Z) Z<|yS Z (bv Z (aJ g1 Z) Z)<|mN Z<|zr ?_;cases h;exact bT (env':=[(4,(bQ true))]) (H':=(hM w al wh me cl 111 110)) (av 6 ⟨Z,t_⟩) (.one (.tmp Z))<|⟨rfl,rfl⟩
 ·refine zo g1 h fun h=>yV Z (gd g1 Z) (zA Z Z ud)<|yV Z (gd g1 Z) (zA Z Z aQ)<|yV Z (gd g1 Z) (zD Z Z Z co Z Z)<|yV Z (gd g1 Z) (zD Z Z Z cB Z Z)<|zb h fun v2 a2 h=>yV Z (gd g1 Z) (yP Z Z Z (MY a2) bG)<|yS Z (aT Z (aJ g1 Z) Z)<|mN Z<|zr ?_;obtain rfl:=zJ h;exact bT (env':=[(4,(bQ v2))]) (H':=(hM w al wh me cl 111 110)) (av 6 ⟨Z,t_⟩) (.one (.tmp Z))<|⟨rfl,rfl⟩
structure dT where
 t10:Int
 out:List Bk
def jh (l:List Bk)(w:Wd)(al:Vw)(x1:dT):Option (dT⊕dT):=bif decide (x1.t10<(l.length:Int))then (ix l x1.t10).bind fun y1=>(yr y1 w al).bind fun v2=>bif v2 then bif bJ x1.out.length [y1].length 40 then some (.inl (dT.mk (i64.wrap (x1.t10+1)) (x1.out++[y1])))else none else some (.inl (dT.mk (i64.wrap (x1.t10+1)) x1.out))else some (.inr (dT.mk x1.t10 x1.out))
def tE (l:List Bk)(w:Wd)(al:Vw):Option (List Bk):=(iter (jh l w al) aY (dT.mk 0 ([]:List Bk))).bind fun v1=>some v1.out
theorem IZ {l:List Bk}{w:Wd}{r_:(List Bk)}(h:tE l w al=some r_):LC prog 112 [(kB l),.fn 113 [] [.ptr 5 0,.ptr 4 0]] (hM w al wh me cl 111 110) (Is (kB r_) (hM w al wh me cl 111 110)):=by
 refine eN Tryz.func112 Z Z Z ?_;unfold tE at h;refine qR<|mN Z<|qR<|mN Z<|zQ<|zQ<|LW.ent (bY.lazy (t:=5) (m:=5) Z Z Z)<|zR<|zM Z<|yS Z (ck Z Z)<|mN Z ?_;obtain⟨v1,p1,b1⟩:=zB h;clear h;refine LW.tail (E:=[(4,.zs),(5,(jB 6 v1.out))]) (O:=[.box (gB w),.box rc,.box (gB w),.box (nt w al wh me cl 111 5 4),.box (nt w al wh me cl 111 5 4),.box [.fn 110 [] [.ptr 2 0]],.vec 5 (v1.out.map aA)]) ?_<|fun e1 K1 u1=>?_
 ·refine LW.block ?_;refine LW.iterB (E:=fun x1:dT=>[(1,.fn 113 [] [.ptr 5 0,.ptr 4 0]),(4,.zs),(5,(jB 6 x1.out)),(8,(kB l)),(9,.p (.int .i64 (l.length:Int))),(10,(iQ x1.t10))]) (O:=fun x1=>[.box (gB w),.box rc,.box (gB w),.box (nt w al wh me cl 111 5 4),.box (nt w al wh me cl 111 5 4),.box [.fn 110 [] [.ptr 2 0]],.vec 5 (x1.out.map aA)]) p1 (av 7 ⟨Z,Z,Z,Z,Z,Z,t_⟩)<|fun x1 z1 h m1=>?_;unfold jh at h;refine qR<|yS Z (an Z Z Z Z)<|nT<|zQ ?_;refine zX Z (fun g1=>?_)<|fun g1=>?_
  ·refine zi g1 h fun h=>zk<|zT<|zQ<|zl<|qR<|zb h fun y1 j1 h=>yS Z (zx Z Z Z cw j1 Z)<|yS Z (bR Z Z Z ce Z Z)<|yS Z (ze Z uW Z Z)<|yS Z (zs Z Z Z Z ce Z Z Z Z)<|nT<|qR<|zM Z<|yS Z (zD Z Z Z ce Z Z)<|zb h fun v2 a2 h=>yS Z (yC Z Z Z (LC.pre (Lx a2) Z Z Z))<|nT ?_;refine zX Z (fun g2=>?_)<|fun g2=>?_
   ·refine zi g2 h fun h=>zR<|zM Z<|yS Z (zD Z Z Z ce Z Z)<|yS Z (gR Z cw Z Z Z Z Z)<|zg h fun q1 h=>yS Z (aa.appendX aA x1.out [y1] rfl Z Z Z iy.p Z cw q1 Z)<|zM Z<|zN<|af<|zT<|zR<|yS Z (an Z Z Z Z)<|mN Z ?_;cases h;exact⟨_,rfl,av 7 ⟨Z,Z,Z,Z,Z,Z,t_⟩⟩
   ·refine zo g2 h fun h=>zk<|af<|zT<|zR<|yS Z (an Z Z Z Z)<|mN Z ?_;cases h;exact⟨_,rfl,av 7 ⟨Z,Z,Z,Z,Z,Z,t_⟩⟩
  ·refine zo g1 h fun h=>zq<|ai<|ai<|zy<|zT ?_;cases h;obtain rfl:=(m1 _ rfl);exact av 7 ⟨Z,Z,t_⟩
 ·have h:=b1;clear p1;refine zT<|LW.weak u1<|zQ<|LW.ent (bY.frz (t:=5) (env':=[]) (H0:=(hM w al wh me cl 111 110)) Z Z Z Z Z trivial Z Z)<|zR<|zM Z<|mN Z<|zr ?_;cases h;exact aD (.one (.tmp Z))<|⟨rfl,rfl⟩
structure dU where
 t10:Int
 out:List Vt
def ji (l:List Vt)(w:Wd)(al:Vw)(x1:dU):Option (dU⊕dU):=bif decide (x1.t10<(l.length:Int))then (ix l x1.t10).bind fun y1=>(yt y1 w al).bind fun v2=>bif v2 then bif bJ x1.out.length [y1].length 32 then some (.inl (dU.mk (i64.wrap (x1.t10+1)) (x1.out++[y1])))else none else some (.inl (dU.mk (i64.wrap (x1.t10+1)) x1.out))else some (.inr (dU.mk x1.t10 x1.out))
def tF (l:List Vt)(w:Wd)(al:Vw):Option (List Vt):=(iter (ji l w al) aY (dU.mk 0 ([]:List Vt))).bind fun v1=>some v1.out
theorem I0 {l:List Vt}{w:Wd}{r_:(List Vt)}(h:tF l w al=some r_):LC prog 115 [(kV l),.fn 116 [] [.ptr 5 0,.ptr 4 0]] (hM w al wh me cl 111 110) (Is (kV r_) (hM w al wh me cl 111 110)):=by
 refine eN Tryz.func115 Z Z Z ?_;unfold tF at h;refine qR<|mN Z<|qR<|mN Z<|zQ<|zQ<|LW.ent (bY.lazy (t:=5) (m:=4) Z Z Z)<|zR<|zM Z<|yS Z (ck Z Z)<|mN Z ?_;obtain⟨v1,p1,b1⟩:=zB h;clear h;refine LW.tail (E:=[(4,.zs),(5,(jV 6 v1.out))]) (O:=[.box (gB w),.box rc,.box (gB w),.box (nt w al wh me cl 111 5 4),.box (nt w al wh me cl 111 5 4),.box [.fn 110 [] [.ptr 2 0]],.vec 4 (v1.out.map aO)]) ?_<|fun e1 K1 u1=>?_
 ·refine LW.block ?_;refine LW.iterB (E:=fun x1:dU=>[(1,.fn 116 [] [.ptr 5 0,.ptr 4 0]),(4,.zs),(5,(jV 6 x1.out)),(8,(kV l)),(9,.p (.int .i64 (l.length:Int))),(10,(iQ x1.t10))]) (O:=fun x1=>[.box (gB w),.box rc,.box (gB w),.box (nt w al wh me cl 111 5 4),.box (nt w al wh me cl 111 5 4),.box [.fn 110 [] [.ptr 2 0]],.vec 4 (x1.out.map aO)]) p1 (av 7 ⟨Z,Z,Z,Z,Z,Z,t_⟩)<|fun x1 z1 h m1=>?_;unfold ji at h;refine qR<|yS Z (an Z Z Z Z)<|nT<|zQ ?_;refine zX Z (fun g1=>?_)<|fun g1=>?_
  ·refine zi g1 h fun h=>zk<|zT<|zQ<|zl<|qR<|zb h fun y1 j1 h=>yS Z (zx Z Z Z bC j1 Z)<|yS Z (bR Z Z Z cB Z Z)<|yS Z (ze Z uX Z Z)<|yS Z (zs Z Z Z Z cB Z Z Z Z)<|nT<|qR<|zM Z<|yS Z (zD Z Z Z cB Z Z)<|zb h fun v2 a2 h=>yS Z (yC Z Z Z (LC.pre (Ly a2) Z Z Z))<|nT ?_;refine zX Z (fun g2=>?_)<|fun g2=>?_
   ·refine zi g2 h fun h=>zR<|zM Z<|yS Z (zD Z Z Z cB Z Z)<|yS Z (gR Z bC Z Z Z Z Z)<|zg h fun q1 h=>yS Z (aa.appendX aO x1.out [y1] rfl Z Z Z iy.p Z bC q1 Z)<|zM Z<|zN<|af<|zT<|zR<|yS Z (an Z Z Z Z)<|mN Z ?_;cases h;exact⟨_,rfl,av 7 ⟨Z,Z,Z,Z,Z,Z,t_⟩⟩
   ·refine zo g2 h fun h=>zk<|af<|zT<|zR<|yS Z (an Z Z Z Z)<|mN Z ?_;cases h;exact⟨_,rfl,av 7 ⟨Z,Z,Z,Z,Z,Z,t_⟩⟩
  ·refine zo g1 h fun h=>zq<|ai<|ai<|zy<|zT ?_;cases h;obtain rfl:=(m1 _ rfl);exact av 7 ⟨Z,Z,t_⟩
 ·have h:=b1;clear p1;refine zT<|LW.weak u1<|zQ<|LW.ent (bY.frz (t:=5) (env':=[]) (H0:=(hM w al wh me cl 111 110)) Z Z Z Z Z trivial Z Z)<|zR<|zM Z<|mN Z<|zr ?_;cases h;exact aD (.one (.tmp Z))<|⟨rfl,rfl⟩
def yn (a:Ac)(w:Wd)(al:Vw):Option Vw:=(tE a.B w al).bind fun v1=>(tF a.V w al).bind fun v2=>some (Vw.mk v1 v2)
theorem Lt {a:Ac}{w:Wd}{r_:Vw}(h:yn a w al=some r_):LC prog 111 [.p (n8 a),.ptr 5 0,.ptr 4 0] (hM w al wh me cl 111 110) (Is (.p (iB r_)) (hM w al wh me cl 111 110)):=by
 refine eN Tryz.func111 Z Z Z ?_;unfold yn at h;refine qR<|yS Z (bx Z Z Z Z Z)<|yS Z (ze Z d5 Z Z)<|nT<|zQ<|LW.drawLast (m:=9) (by kernel_rfl) (by kernel_rfl) (by kernel_rfl)<|yE Z (zA Z Z ly)<|yE Z (zD Z Z Z bM Z Z)<|yE Z (aa.makeFunc Z Z Z)<|zb h fun v1 a1 h=>yE Z (yC Z Z Z (LC.pre (IZ a1) Z Z Z))<|yE Z (zA Z Z lz)<|yE Z (zD Z Z Z co Z Z)<|yE Z (aa.makeFunc Z Z Z)<|zb h fun v2 a2 h=>yE Z (yC Z Z Z (LC.pre (I0 a2) Z Z Z))<|yE Z (aa.build Z nh Z Z Z)<|LO.nil<|yS Z (zs Z Z Z Z aG Z Z Z Z)<|nT<|zr ?_;cases h;exact lu (env':=[]) (H':=(hM w al wh me cl 111 110)) (av 6 trivial) (.one (er Z Z)) Z<|⟨rfl,rfl⟩
def yq (w:Wd)(l:List Ac):Option (Vw×Int×Bool×List Ac):=(xd w.N).bind fun v1=>(IE w.C (i64.wrap (w.Tick.tdiv 3))).bind fun v2=>(xn w.Bad v2).bind fun v3=>(tD l w).bind fun v4=>some (v1,v2,v3,v4)
theorem Lw {w:Wd}{r_:Vw×Int×Bool×List Ac}(h:yq w l=some r_):LC prog 61 [.p (w9 w),.p (.slice 5 (l.map n8))] [] (Is (.agg (nt w r_.1 r_.2.1 r_.2.2.1 r_.2.2.2 111 3 2)) [.box (gB w),.box (nt w r_.1 r_.2.1 r_.2.2.1 r_.2.2.2 111 3 2),.box (nt w r_.1 r_.2.1 r_.2.2.1 r_.2.2.2 111 3 2),.box [.fn 110 [] [.ptr 0 0]]]):=by
 refine eN Tryz.func61 Z Z Z ?_;unfold yq at h;refine qR<|yS Z (bx Z Z Z Z Z)<|yS Z (ze Z BZ Z Z)<|nT<|zQ<|LW.ent (bY.slot Z)<|fB<|yF Z (zd Z Z Z bB Z Z) Z<|yG Z (fun H _=>zA Z Z bD)<|yF Z (zd Z Z Z cT Z Z) Z<|zb h fun v1 a1 h=>?_;refine yF (F:=[]) (s:=none) Z (fun H _=>yP Z Z Z (MG a1) dG) Z ?_;refine yG Z (fun H _=>zA Z Z cU)<|yF Z (zd Z Z Z aW Z Z) Z<|yG Z (fun H _=>aa.quo Z Z Z (by decide))<|yG Z (fun H _=>aa.build Z K7 Z Z Z)<|yF Z (cj.alloc Z BZ (id:=2) Z) Z<|yF Z (zt Z Z Z Z uT Z Z Z) Z ?_;refine LF.nil ⟨by kernel_rfl,?_⟩;refine zT<|qR<|yS Z (zA Z Z fm)<|yS Z (zD Z Z Z be Z Z)<|yS Z (zA Z Z zF)<|yS Z (zD Z Z Z aW Z Z)<|zb h fun v2 a2 h=>yS Z (yP Z Z Z (Pc a2) bG)<|yS Z (zA Z Z ue)<|yS Z (zs Z Z Z Z aW Z Z Z Z)<|nT<|qR<|yS Z (zA Z Z cP)<|yS Z (zD Z Z Z dH Z Z)<|yS Z (zA Z Z ue)<|yS Z (zD Z Z Z aW Z Z)<|zb h fun v3 a3 h=>yS Z (yP Z Z Z (IV a3) bG)<|yS Z (zA Z Z zw)<|yS Z (zs Z Z Z Z uS Z Z Z Z)<|nT<|qR<|zM Z<|yS Z (aa.makeFunc Z Z Z)<|zb h fun v4 a4 h=>yS Z (yC Z Z Z (LC.pre (IY a4) Z Z Z))<|yS Z (zA Z Z zP)<|yS Z (zs Z Z Z Z HE Z Z Z Z)<|nT<|qR<|yS Z (aa.makeFunc Z Z Z)<|yS Z (ze Z O4 Z Z)<|yS Z (zs Z Z Z Z wg Z Z Z Z)<|nT<|qR<|yS Z (aa.makeFunc Z Z Z)<|yS Z (zA Z Z zE)<|yS Z (zs Z Z Z Z HL Z Z Z Z)<|nT<|qR<|yS Z (zD Z Z Z uT Z Z)<|yS Z (zs Z Z Z Z uT Z Z Z Z)<|nT<|zr ?_;cases h;exact aD (.one (er Z Z))<|⟨rfl,rfl⟩
structure ig where
 t20:Int
 v_in:Vw
 offers:List Of
def rp (w:Wd) (al:Vw) (wh:Int) (me:Bool) (cl:List Ac) (at_:Int) (x1:ig):Option (ig⊕ig):=bif decide (x1.t20<(cl.length:Int))then (ix cl x1.t20).bind fun y1=>bif decide (0<=at_)then bif (bits .and .i64 (y1.To.fdiv (2 ^ (min (Int.toNat at_) i64.bits))) 1)==0 then some (.inl (ig.mk (i64.wrap (x1.t20+1)) x1.v_in x1.offers))else (yn y1 w al).bind fun v2=>bif !y1.Offer then (F9 x1.v_in v2).bind fun v3=>some (.inl (ig.mk (i64.wrap (x1.t20+1)) v3 x1.offers))else (bif me then some (decide ((v2.B.length:Int)>0))else some false).bind fun v4=>bif v4 then (ix v2.B 0).bind fun y2=>bif wP v2.B 1 v2.B.length then bif bJ x1.offers.length [Of.mk (i64.wrap (w.Tick.tdiv 3)) wh y2 (Vw.mk (v2.B.drop (1:Int).toNat) v2.V)].length 104 then some (.inl (ig.mk (i64.wrap (x1.t20+1)) x1.v_in (x1.offers++[Of.mk (i64.wrap (w.Tick.tdiv 3)) wh y2 (Vw.mk (v2.B.drop (1:Int).toNat) v2.V)])))else none else none else some (.inl (ig.mk (i64.wrap (x1.t20+1)) x1.v_in x1.offers))else none else some (.inr (ig.mk x1.t20 x1.v_in x1.offers))
def Ms (w:Wd)(al:Vw)(wh:Int)(me:Bool)(cl:List Ac)(at_:Int):Option (Vw×List Of):=bif bJ 0 w.O.length 104 then (iter (rp w al wh me cl at_) aY (ig.mk 0 al w.O)).bind fun v1=>some (v1.v_in,v1.offers)else none
theorem P8 {w:Wd}{at_:Int}{r_:Vw×List Of}(h:Ms w al wh me cl at_=some r_):LC prog 63 [.agg (nt w al wh me cl 111 5 4),(iQ at_)] (hM w al wh me cl 111 110) (Is (.tup [.p (iB r_.1),(kO r_.2)]) (hM w al wh me cl 111 110)):=by
 refine eN Tryz.func63 Z Z Z ?_;unfold Ms at h;refine qR<|yS Z (bx Z Z Z Z Z)<|yS Z (ze Z d5 Z Z)<|mN Z<|zQ<|LW.ent (bY.slot Z)<|LW.ent (bY.slot Z)<|fB<|yG Z (fun H _=>zA Z Z ud)<|yF Z (zd Z Z Z aG Z Z) Z<|yG Z (fun H _=>zA Z Z GV)<|yG Z (fun H _=>zA Z Z dZ)<|yF Z (zd Z Z Z bk Z Z) Z<|zg h fun q1 h=>?_;refine yF Z (cj.callV (id:=9) (qs:=[(kO w.O)]) Z Z Z (by kernel_rfl) (GE q1) (fun H=>(.consC zv .nil)) Z) Z ?_;refine yF Z (cj.alloc Z d5 (id:=8) Z) Z<|yF Z (zt Z Z Z Z aG Z Z Z) Z<|zK Z ?_;refine LF.nil ⟨by kernel_rfl,?_⟩;refine zT<|zQ<|qR<|yS Z (zA Z Z zP)<|yS Z (zD Z Z Z HE Z Z)<|yS Z (ck Z Z)<|mN Z ?_;obtain⟨v1,p1,c1⟩:=zB h;clear h;refine LW.tail (E:=[(4,.ptr 7 0),(5,.zs),(6,.ptr 8 0),(7,(jO 9 v1.offers))]) (O:=[.box (gB w),.box rc,.box (gB w),.box (nt w al wh me cl 111 5 4),.box (nt w al wh me cl 111 5 4),.box [.fn 110 [] [.ptr 2 0]],.box (nt w al wh me cl 111 5 4),.box [.zs,.zs],.box (cH v1.v_in),.vec 9 (v1.offers.map cZ)]) ?_<|fun e1 K1 u1=>?_
 ·refine LW.block ?_;refine LW.iterB (E:=fun x1:ig=>[(1,(iQ at_)),(2,.ptr 6 0),(4,.ptr 7 0),(5,.zs),(6,.ptr 8 0),(7,(jO 9 x1.offers)),(18,.p (.slice 5 (cl.map n8))),(19,.p (.int .i64 (cl.length:Int))),(20,(iQ x1.t20))]) (O:=fun x1=>[.box (gB w),.box rc,.box (gB w),.box (nt w al wh me cl 111 5 4),.box (nt w al wh me cl 111 5 4),.box [.fn 110 [] [.ptr 2 0]],.box (nt w al wh me cl 111 5 4),.box [.zs,.zs],.box (cH x1.v_in),.vec 9 (x1.offers.map cZ)]) p1 (av 10 ⟨Z,Z,Z,Z,Z,Z,Z,Z,Z,t_⟩)<|fun x1 z1 h m1=>?_;unfold rp at h;refine qR<|yS Z (an Z Z Z Z)<|nT<|zQ ?_;refine zX Z (fun g1=>?_)<|fun g1=>?_
  ·refine zi g1 h fun h=>zk<|zT<|zQ<|zl<|qR<|zb h fun y1 b1 h=>yS Z (zx Z Z Z j7 b1 Z)<|yS Z (bR Z Z Z nC Z Z)<|yS Z (ze Z HT Z Z)<|yS Z (zs Z Z Z Z nC Z Z Z Z)<|nT<|zQ<|qR<|yS Z (zA Z Z qp)<|yS Z (zD Z Z Z aW Z Z)<|zM Z<|zg h fun q2 h=>yS Z (aa.shr Z Z Z (of_decide_eq_true q2))<|yS Z (an Z Z Z Z)<|yS Z (an Z Z Z Z)<|nT ?_;refine zX Z (fun g2=>?_)<|fun g2=>?_
   ·refine zi g2 h fun h=>zq<|ai<|zy<|zT<|zR<|yS Z (an Z Z Z Z)<|mN Z ?_;cases h;exact⟨_,rfl,av 10 ⟨Z,Z,Z,Z,Z,Z,Z,Z,Z,t_⟩⟩
   ·refine zo g2 h fun h=>zk<|zT<|qR<|yS Z (zA Z Z zE)<|yS Z (zD Z Z Z HL Z Z)<|yS Z (zD Z Z Z nC Z Z)<|zb h fun v2 a2 h=>yS Z (yC Z Z Z (LC.pre (Lt a2) Z Z Z))<|yS Z (ze Z d5 Z Z)<|yS Z (zs Z Z Z Z aG Z Z Z Z)<|nT<|zl<|qR<|yS Z (zA Z Z y9)<|yS Z (zD Z Z Z uS Z Z)<|yS Z (aa.not Z Z)<|mN Z ?_;refine zX Z (fun g3=>?_)<|fun g3=>?_
    ·refine zi g3 h fun h=>zR<|yS Z (zD Z Z Z aG Z Z)<|yS Z (zD Z Z Z aG Z Z)<|zb h fun v3 a3 h=>yS Z (yP Z Z Z (Lh a3) bG)<|yS Z (zs Z Z Z Z aG Z Z Z Z)<|zN<|af<|af<|zT<|zR<|yS Z (an Z Z Z Z)<|mN Z ?_;cases h;exact⟨_,rfl,av 10 ⟨Z,Z,Z,Z,Z,Z,Z,Z,Z,t_⟩⟩
    ·have h:=zO g3 h;obtain⟨v4,p4,c4⟩:=zB h;clear h;refine LW.cut (E:=[(1,(iQ at_)),(2,.ptr 6 0),(4,.ptr 7 0),(5,.zs),(6,.ptr 8 0),(7,(jO 9 x1.offers)),(10,.ptr 11 0),(18,.p (.slice 5 (cl.map n8))),(19,.p (.int .i64 (cl.length:Int))),(20,(iQ x1.t20)),(41,(bQ v4))]) (O:=[.box (gB w),.box rc,.box (gB w),.box (nt w al wh me cl 111 5 4),.box (nt w al wh me cl 111 5 4),.box [.fn 110 [] [.ptr 2 0]],.box (nt w al wh me cl 111 5 4),.box [.zs,.zs],.box (cH x1.v_in),.vec 9 (x1.offers.map cZ),.box [(iQ y1.Tick),(iQ y1.To),(bQ y1.Offer),(kB y1.B),(kV y1.V)],.box (cH v2)]) ?_ ?_
     ·have h:=p4;refine zR<|yS Z (zA Z Z zw)<|yS Z (zD Z Z Z uS Z Z)<|zM Z ?_;refine zc 44 Z (fun g4=>?_)<|fun g4=>?_
      ·refine zi g4 h fun h=>yV Z (gd g4 Z) (zA Z Z aK)<|yV Z (gd g4 Z) (zD Z Z Z bM Z Z)<|yV Z (gd g4 Z) (ck Z Z)<|yV Z (gd g4 Z) (an Z Z Z Z)<|yS Z (bv Z (aJ g4 Z) Z)<|mN Z ?_;cases h;exact av 12 ⟨Z,Z,Z,Z,Z,Z,Z,Z,Z,Z,Z,t_⟩
      ·refine zo g4 h fun h=>yU Z (gd g4 Z) Z<|yU Z (gd g4 Z) Z<|yU Z (gd g4 Z) Z<|yU Z (gd g4 Z) Z<|yS Z (aT Z (aJ g4 Z) Z)<|mN Z ?_;cases h;exact av 12 ⟨Z,Z,Z,Z,Z,Z,Z,Z,Z,Z,Z,t_⟩
     ·have h:=c4;clear p4;refine zX Z (fun g5=>?_)<|fun g5=>?_
      ·refine zi g5 h fun h=>fB<|zK Z<|yG Z (fun H _=>zA Z Z zF)<|yF Z (zd Z Z Z aW Z Z) Z<|yG Z (fun H _=>zA Z Z ue)<|yF Z (zd Z Z Z aW Z Z) Z<|yG Z (fun H _=>zA Z Z aK)<|yF Z (zd Z Z Z bM Z Z) Z<|zb h fun y2 b2 h=>yG Z (fun H _=>zx Z Z Z cw b2 Z)<|yG Z (fun H _=>bR Z Z Z ce Z Z)<|yG Z (fun H _=>zA Z Z aK)<|yF Z (zd Z Z Z bM Z Z) Z<|zg h fun q3 h=>yG Z (fun H _=>aa.sliceLo Z Z Z cw q3)<|yG Z (fun H _=>zA Z Z aQ)<|yF Z (zd Z Z Z co Z Z) Z<|yG Z (fun H _=>aa.build Z nh Z Z Z)<|yG Z (fun H _=>aa.build Z wA Z Z Z)<|yG Z (fun H _=>gR Z bq Z Z Z Z Z)<|zg h fun q4 h=>yF Z (cj.appendX cZ x1.offers [Of.mk (i64.wrap (w.Tick.tdiv 3)) wh y2 (Vw.mk (v2.B.drop (1:Int).toNat) v2.V)] rfl Z Z Z Z bq q4) Z<|zK Z ?_;refine LF.nil ⟨by kernel_rfl,?_⟩;refine af<|af<|zT<|zR<|yS Z (an Z Z Z Z)<|mN Z ?_;cases h;exact⟨_,rfl,av 10 ⟨Z,Z,Z,Z,Z,Z,Z,Z,Z,t_⟩⟩
      ·refine zo g5 h fun h=>zk<|af<|af<|zT<|zR<|yS Z (an Z Z Z Z)<|mN Z ?_;cases h;exact⟨_,rfl,av 10 ⟨Z,Z,Z,Z,Z,Z,Z,Z,Z,t_⟩⟩
  ·refine zo g1 h fun h=>zq<|ai<|ai<|zy<|zT ?_;cases h;obtain rfl:=(m1 _ rfl);exact av 10 ⟨Z,Z,Z,Z,t_⟩
 ·have h:=c1;clear p1;refine zT<|LW.weak u1<|zQ<|LW.ent (bY.frz (t:=7) (env':=[(4,.ptr 7 0),(6,.ptr 8 0)]) (H0:=[.box (gB w),.box rc,.box (gB w),.box (nt w al wh me cl 111 5 4),.box (nt w al wh me cl 111 5 4),.box [.fn 110 [] [.ptr 2 0]],.box (nt w al wh me cl 111 5 4),.box [.zs,.zs],.box (cH v1.v_in)]) Z Z Z Z Z ⟨Z,Z,t_⟩ Z Z)<|zR<|yS Z (zD Z Z Z aG Z Z)<|zM Z<|yS Z (zs Z Z Z Z aG Z Z Z Z)<|mN Z<|zr ?_;cases h;exact lu (env':=[]) (H':=(hM w al wh me cl 111 110)) (av 6 trivial) (.two (er Z Z) (.tmp Z)) Z<|⟨rfl,rfl⟩
structure fT where
 t43:Int
 o9:List Nd
 o10:List Of
def ld (w:Wd)(v4:Vw×Int×Bool×List Ac)(x1:fT):Option (fT⊕fT):=bif decide (x1.t43<(w.N.length:Int))then (Ms w v4.1 v4.2.1 v4.2.2.1 v4.2.2.2 x1.t43).bind fun v6=>(ix w.N x1.t43).bind fun y1=>(ko w.C y1 v6.1 v6.2).bind fun v7=>bif bJ x1.o9.length [v7.1].length 176 then bif bJ x1.o10.length v7.2.length 104 then some (.inl (fT.mk (i64.wrap (x1.t43+1)) (x1.o9++[v7.1]) (x1.o10++v7.2)))else none else none else some (.inr (fT.mk x1.t43 x1.o9 x1.o10))
def tr (w:Wd)(l:List Ac):Option Wd:=((EC w.C).bind fun v2=>bif !v2 then some true else bif decide (w.Tick<3)then some true else some (decide (w.Tick>=3145728))).bind fun v1=>bif v1 then (sh w).bind fun _=>some w else (yq w l).bind fun v4=>bif bJ 0 w.Bad.length 8 then (iter (ld w v4) aY (fT.mk 0 ([]:List Nd) ([]:List Of))).bind fun v5=>some (Wd.mk w.C w.Bad (i64.wrap (w.Tick+1)) v5.o9 v5.o10)else none
theorem JU {w:Wd}{r_:Wd}(h:tr w l=some r_):aq prog 25 [w9 w,.slice 5 (l.map n8)] [w9 r_]:=by
 refine zh Tryz.func25 Z Z Z Z ?_;unfold tr at h;refine qR<|yS Z (bx Z Z Z Z Z)<|yS Z (ze Z ip Z Z)<|nT<|zQ ?_;obtain⟨v1,p1,b1⟩:=zB h;clear h;refine LW.cut (E:=[(1,.p (.slice 5 (l.map n8))),(2,.ptr 0 0),(4,.ptr 1 0),(25,(bQ v1))]) (O:=[.box (gB w),.box rc]) ?_ ?_
 ·have h:=p1;refine zR<|yS Z (zA Z Z fm)<|yS Z (zD Z Z Z be Z Z)<|zb h fun v2 a2 h=>yS Z (yP Z Z Z (Mb a2) dG)<|yS Z (aa.not Z Z)<|zM Z ?_;refine zc 16 Z (fun g1=>?_)<|fun g1=>?_
  ·refine zi g1 h fun h=>yU Z (gd g1 Z) Z<|yU Z (gd g1 Z) Z<|yU Z (gd g1 Z) Z<|yS Z (bv Z (aJ g1 Z) Z)<|zM Z<|aw Z<|aw Z<|aw Z<|yS Z (bv Z Z Z)<|nT ?_;cases h;exact av 2 ⟨Z,Z,Z,Z,t_⟩
  ·refine zo g1 h fun h=>yV Z (gd g1 Z) (zA Z Z cU)<|yV Z (gd g1 Z) (zD Z Z Z aW Z Z)<|yV Z (gd g1 Z) (an Z Z Z Z)<|yS Z (aT Z (aJ g1 Z) Z)<|zM Z ?_;refine zc 21 Z (fun g2=>?_)<|fun g2=>?_
   ·refine zi g2 h fun h=>yU Z (gd g2 Z) Z<|yU Z (gd g2 Z) Z<|yU Z (gd g2 Z) Z<|yS Z (bv Z (aJ g2 Z) Z)<|nT ?_;cases h;exact av 2 ⟨Z,Z,Z,Z,t_⟩
   ·refine zo g2 h fun h=>yV Z (gd g2 Z) (zA Z Z cU)<|yV Z (gd g2 Z) (zD Z Z Z aW Z Z)<|yV Z (gd g2 Z) (an Z Z Z Z)<|yS Z (aT Z (aJ g2 Z) Z)<|nT ?_;cases h;exact av 2 ⟨Z,Z,Z,Z,t_⟩
 ·have h:=b1;clear p1;refine zX Z (fun g3=>?_)<|fun g3=>?_
  ·refine zi g3 h fun h=>qR<|yS Z (zD Z Z Z bB Z Z)<|zb h fun v3 a3 h=>?_;obtain rfl:=x9 a3;refine yS Z (yP Z Z Z (JV a3) dG)<|yS Z (zs Z Z Z Z bB Z Z Z Z)<|nT<|zr<|ae ?_;cases h;exact zf (.one (er Z Z)) zv
  ·refine zo g3 h fun h=>zk<|zT<|qR<|yS Z (zD Z Z Z bB Z Z)<|zM Z<|zb h fun v4 a4 h=>yS Z (zC Z Z Z (by kernel_rfl) (LC.frameX (x':=.agg (nt w v4.1 v4.2.1 v4.2.2.1 v4.2.2.2 111 5 4)) (H':=[.box (gB w),.box rc,.box (gB w),.box (nt w v4.1 v4.2.1 v4.2.2.1 v4.2.2.2 111 5 4),.box (nt w v4.1 v4.2.1 v4.2.2.1 v4.2.2.2 111 5 4),.box [.fn 110 [] [.ptr 2 0]]]) (Lw a4) (.consC zv (.consC zv .nil)) Z (by simp only[List.map_cons,List.map_nil,List.cons_append,List.nil_append,ab.shift,LV.shifts,LV.shift] <;>rfl) (by simp only[List.map_cons,List.map_nil,List.cons_append,List.nil_append,ab.shift,LV.shifts,LV.shift] <;>rfl)))<|yS Z (ze Z BZ Z Z)<|yS Z (zs Z Z Z Z uT Z Z Z Z)<|nT<|zQ<|LW.ent (bY.slot Z)<|LW.ent (bY.slot Z)<|fB<|yG Z (fun H _=>zA Z Z fm)<|yF Z (zd Z Z Z be Z Z) Z<|yG Z (fun H _=>zA Z Z cP)<|yF Z (zd Z Z Z dH Z Z) Z<|zg h fun q1 h=>?_;refine yF Z (cj.callV (id:=7) (qs:=[(kI w.Bad)]) Z Z Z (by kernel_rfl) (A7 q1) (fun H=>(.consC zv .nil)) Z) Z ?_;refine yG Z (fun H _=>zA Z Z cU)<|yF Z (zd Z Z Z aW Z Z) Z<|yG Z (fun H _=>an Z Z Z Z)<|yG Z (fun H _=>aa.build Z wy Z Z Z)<|yF Z (cj.alloc Z ip (id:=8) Z) Z<|yF Z (zt Z Z Z Z bB Z Z Z) Z ?_;refine LF.nil ⟨by kernel_rfl,?_⟩;refine zT<|zQ<|zQ<|LW.ent (bY.lazyCell (i:=8) (j:=7) (m:=12) Z Z Z Z Z Z)<|LW.ent (bY.lazyCell (i:=8) (j:=8) (m:=9) Z Z Z Z Z Z)<|zR<|yS Z (zA Z Z bD)<|yS Z (zD Z Z Z cT Z Z)<|yS Z (ck Z Z)<|mN Z ?_;obtain⟨v5,p5,b5⟩:=zB h;clear h;refine LW.tail (E:=[(4,.ptr 1 0),(6,.ptr 8 0)]) (O:=[.box (gB w),.box rc,.box (gB w),.box (nt w v4.1 v4.2.1 v4.2.2.1 v4.2.2.2 111 5 4),.box (nt w v4.1 v4.2.1 v4.2.2.1 v4.2.2.2 111 5 4),.box [.fn 110 [] [.ptr 2 0]],.box (nt w v4.1 v4.2.1 v4.2.2.1 v4.2.2.2 111 5 4),.vec 1 (w.Bad.map bh),.box [(kI w.C.W),(uQ w.C.Seed),(iQ w.C.Epoch),(iQ w.C.Num),(iQ w.C.Den),(jI 7 w.Bad),.p (.int .i64 (i64.wrap (w.Tick+1))),.vec 12 9 (v5.o9.map du).length 0 (v5.o9.map du).length,(jO 10 v5.o10)],.vec 12 (v5.o9.map du),.vec 9 (v5.o10.map cZ)]) ?_<|fun e5 K5 u5=>?_
   ·refine LW.block ?_;refine LW.iterB (E:=fun x1:fT=>[(2,.ptr 0 0),(4,.ptr 1 0),(5,.ptr 6 0),(6,.ptr 8 0),(42,.p (.int .i64 (w.N.length:Int))),(43,(iQ x1.t43))]) (O:=fun x1=>[.box (gB w),.box rc,.box (gB w),.box (nt w v4.1 v4.2.1 v4.2.2.1 v4.2.2.2 111 5 4),.box (nt w v4.1 v4.2.1 v4.2.2.1 v4.2.2.2 111 5 4),.box [.fn 110 [] [.ptr 2 0]],.box (nt w v4.1 v4.2.1 v4.2.2.1 v4.2.2.2 111 5 4),.vec 1 (w.Bad.map bh),.box [(kI w.C.W),(uQ w.C.Seed),(iQ w.C.Epoch),(iQ w.C.Num),(iQ w.C.Den),(jI 7 w.Bad),.p (.int .i64 (i64.wrap (w.Tick+1))),.vec 12 9 (x1.o9.map du).length 0 (x1.o9.map du).length,(jO 10 x1.o10)],.vec 12 (x1.o9.map du),.vec 9 (x1.o10.map cZ)]) p5 (av 11 ⟨Z,Z,Z,Z,Z,Z,t_⟩)<|fun x1 z1 h m1=>?_;unfold ld at h;refine qR<|yS Z (an Z Z Z Z)<|nT<|zQ ?_;refine zX Z (fun g4=>?_)<|fun g4=>?_
    ·refine zi g4 h fun h=>zk<|zT<|zQ<|zl<|qR<|zM Z<|mN Z<|qR<|yS Z (zD Z Z Z uT Z Z)<|zM Z<|zb h fun v6 a6 h=>yS Z (yC Z Z Z (LC.pre (P8 a6) Z Z Z))<|zM Z<|yS Z (eW Z Z Z)<|yS Z (eW Z Z Z)<|yS Z (ze Z d5 Z Z)<|yS Z (zs Z Z Z Z aG Z Z Z Z)<|mN Z<|zQ<|LW.ent (bY.slot Z)<|fB<|yG Z (fun H _=>zA Z Z fm)<|yF Z (zd Z Z Z be Z Z) Z<|yG Z (fun H _=>zA Z Z bD)<|yF Z (zd Z Z Z cT Z Z) Z<|zK Z<|zb h fun y1 j1 h=>yG Z (fun H _=>zx Z Z Z dy j1 Z)<|yG Z (fun H _=>bR Z Z Z aM Z Z)<|yF Z (zd Z Z Z aG Z Z) Z<|zK Z<|zb h fun v7 a7 h=>?_;refine yF (F:=[]) (s:=none) Z (fun H _=>yP Z Z Z (M6 a7) we) Z ?_;refine zK Z<|yG Z (fun H _=>eW Z Z Z)<|yG Z (fun H _=>eW Z Z Z)<|yF Z (cj.alloc Z eU (id:=12) Z) Z<|yF Z (zt Z Z Z Z aM Z Z Z) Z<|zK Z ?_;refine LF.nil ⟨by kernel_rfl,?_⟩;refine zT<|fB<|yG Z (fun H _=>zA Z Z bD)<|yF Z (zd Z Z Z cT Z Z) Z<|yF Z (zd Z Z Z aM Z Z) Z<|yG Z (fun H _=>gR Z dy Z Z Z Z Z)<|zg h fun q2 h=>yF Z (cj.appendX du x1.o9 [v7.1] rfl Z Z Z Z dy q2) Z<|yG Z (fun H _=>zA Z Z dZ)<|yF Z (zd Z Z Z bk Z Z) Z<|zK Z<|zg h fun q3 h=>yF Z (cj.appendX cZ x1.o10 v7.2 Z Z Z Z Z bq q3) Z<|yG Z (fun H _=>zA Z Z bD)<|yF Z (zt Z Z Z Z cT Z Z Z) Z<|yG Z (fun H _=>zA Z Z dZ)<|yF Z (zt Z Z Z Z bk Z Z Z) Z ?_;refine LF.nil ⟨by kernel_rfl,?_⟩;refine af<|zT<|zR<|yS Z (an Z Z Z Z)<|mN Z ?_;cases h;exact⟨_,rfl,av 11 ⟨Z,Z,Z,Z,Z,Z,t_⟩⟩
    ·refine zo g4 h fun h=>zq<|ai<|ai<|zy<|zT ?_;cases h;obtain rfl:=(m1 _ rfl);exact av 11 ⟨Z,Z,t_⟩
   ·have h:=b5;clear p5;refine zT<|LW.weak u5<|qR<|yS Z (zD Z Z Z bB Z Z)<|yS Z (zs Z Z Z Z bB Z Z Z Z)<|nT<|zr ?_;cases h;exact zf (.one (er Z Z))<|(Conv.agg (.cons zv (.cons zv (.cons zv (.cons zv (.cons zv (.cons (Conv.vecAll Z Z Z) (.cons zv (.cons (Conv.vecAll Z Z Z) (.cons (Conv.vecAll Z Z Z) .nil))))))))))
structure fc where
 t19:Int
 o4:List Nd
def lc (c:Cf)(bad:List Int)(x1:fc):Option (fc⊕fc):=bif decide (x1.t19<(c.W.length:Int))then (xn bad x1.t19).bind fun v3=>bif !v3 then (Cn x1.t19).bind fun v4=>bif bJ x1.o4.length [v4].length 176 then some (.inl (fc.mk (i64.wrap (x1.t19+1)) (x1.o4++[v4])))else none else some (.inl (fc.mk (i64.wrap (x1.t19+1)) x1.o4))else some (.inr (fc.mk x1.t19 x1.o4))
def sg (c:Cf)(bad:List Int):Option Wd:=bif bJ 0 bad.length 8 then (EC c).bind fun v1=>bif !v1 then some (Wd.mk c bad 0 [] [])else (iter (lc c bad) aY (fc.mk 0 ([]:List Nd))).bind fun v2=>some (Wd.mk c bad 3 v2.o4 [])else none
theorem JT {c:Cf}{bad:List Int}{r_:Wd}(h:sg c bad=some r_):aq prog 28 [gQ c,.slice 1 (bad.map bh)] [w9 r_]:=by
 refine zh Tryz.func28 Z Z Z Z ?_;unfold sg at h;refine qR<|yS Z (bx Z Z Z Z Z)<|yS Z (ze Z ip Z Z)<|nT<|zQ<|LW.ent (bY.slot Z)<|LW.ent (bY.slot Z)<|fB<|yF Z (zd Z Z Z be Z Z) Z<|zK Z<|zg h fun q1 h=>?_;refine yF Z (cj.callV (id:=2) (qs:=[(kI bad)]) Z Z Z (by kernel_rfl) (A7 q1) (fun H=>(.consC zv .nil)) Z) Z ?_;refine yG Z (fun H _=>aa.build Z wy Z Z Z)<|yF Z (cj.alloc Z ip (id:=3) Z) Z<|yF Z (zt Z Z Z Z bB Z Z Z) Z ?_;refine LF.nil ⟨by kernel_rfl,?_⟩;refine zT<|zQ<|qR<|yS Z (zD Z Z Z be Z Z)<|zb h fun v1 a1 h=>yS Z (yP Z Z Z (Mb a1) dG)<|yS Z (aa.not Z Z)<|nT ?_;refine zX Z (fun g1=>?_)<|fun g1=>?_
 ·refine zi g1 h fun h=>qR<|yS Z (zD Z Z Z bB Z Z)<|yS Z (zs Z Z Z Z bB Z Z Z Z)<|nT<|zr<|ae ?_;cases h;exact zf (.one (er Z Z))<|(Conv.agg (.cons zv (.cons zv (.cons zv (.cons zv (.cons zv (.cons (Conv.vecAll Z Z Z) (.cons zv (.cons Conv.zs (.cons Conv.zs .nil))))))))))
 ·refine zo g1 h fun h=>zk<|zT<|qR<|yS Z (zA Z Z cU)<|yS Z (zs Z Z Z Z aW Z Z Z Z)<|nT<|zQ<|zQ<|LW.ent (bY.lazyCell (i:=3) (j:=7) (m:=12) Z Z Z Z Z Z)<|zR<|yS Z (zA Z Z d3)<|yS Z (zD Z Z Z dH Z Z)<|yS Z (ck Z Z)<|mN Z ?_;obtain⟨v2,p2,b2⟩:=zB h;clear h;refine LW.tail (E:=[(4,.ptr 1 0),(5,.ptr 3 0)]) (O:=[.box (ch c),.box rc,.vec 1 (bad.map bh),.box [(kI c.W),(uQ c.Seed),(iQ c.Epoch),(iQ c.Num),(iQ c.Den),(jI 2 bad),(iQ 3),.vec 12 4 (v2.o4.map du).length 0 (v2.o4.map du).length,.zs],.vec 12 (v2.o4.map du)]) ?_<|fun e2 K2 u2=>?_
  ·refine LW.block ?_;refine LW.iterB (E:=fun x1:fc=>[(1,(kI bad)),(4,.ptr 1 0),(5,.ptr 3 0),(18,.p (.int .i64 (c.W.length:Int))),(19,(iQ x1.t19))]) (O:=fun x1=>[.box (ch c),.box rc,.vec 1 (bad.map bh),.box [(kI c.W),(uQ c.Seed),(iQ c.Epoch),(iQ c.Num),(iQ c.Den),(jI 2 bad),(iQ 3),.vec 12 4 (x1.o4.map du).length 0 (x1.o4.map du).length,.zs],.vec 12 (x1.o4.map du)]) p2 (av 5 ⟨Z,Z,Z,Z,Z,t_⟩)<|fun x1 z1 h m1=>?_;unfold lc at h;refine qR<|yS Z (an Z Z Z Z)<|nT<|zQ ?_;refine zX Z (fun g2=>?_)<|fun g2=>?_
   ·refine zi g2 h fun h=>zk<|zT<|zQ<|zl<|qR<|zM Z<|mN Z<|qR<|zM Z<|zM Z<|zb h fun v3 a3 h=>yS Z (yP Z Z Z (IV a3) bG)<|yS Z (aa.not Z Z)<|nT ?_;refine zX Z (fun g3=>?_)<|fun g3=>?_
    ·refine zi g3 h fun h=>fB<|yG Z (fun H _=>zA Z Z bD)<|yF Z (zd Z Z Z cT Z Z) Z<|zK Z<|zb h fun v4 a4 h=>?_;refine yF (F:=[]) (s:=none) Z (fun H _=>yP Z Z Z (Nc a4) dG) Z ?_;refine yG Z (fun H _=>gR Z dy Z Z Z Z Z)<|zg h fun q2 h=>yF Z (cj.appendX du x1.o4 [v4] rfl Z Z Z Z dy q2) Z<|yG Z (fun H _=>zA Z Z bD)<|yF Z (zt Z Z Z Z cT Z Z Z) Z ?_;refine LF.nil ⟨by kernel_rfl,?_⟩;refine af<|zT<|zR<|yS Z (an Z Z Z Z)<|mN Z ?_;cases h;exact⟨_,rfl,av 5 ⟨Z,Z,Z,Z,Z,t_⟩⟩
    ·refine zo g3 h fun h=>zk<|af<|zT<|zR<|yS Z (an Z Z Z Z)<|mN Z ?_;cases h;exact⟨_,rfl,av 5 ⟨Z,Z,Z,Z,Z,t_⟩⟩
   ·refine zo g2 h fun h=>zq<|ai<|ai<|zy<|zT ?_;cases h;obtain rfl:=(m1 _ rfl);exact av 5 ⟨Z,Z,t_⟩
  ·have h:=b2;clear p2;refine zT<|LW.weak u2<|qR<|yS Z (zD Z Z Z bB Z Z)<|yS Z (zs Z Z Z Z bB Z Z Z Z)<|nT<|zr ?_;cases h;exact zf (.one (er Z Z))<|(Conv.agg (.cons zv (.cons zv (.cons zv (.cons zv (.cons zv (.cons (Conv.vecAll Z Z Z) (.cons zv (.cons (Conv.vecAll Z Z Z) (.cons Conv.zs .nil))))))))))
structure jx where
 t11:Int
 w:Wd
def x8 (l:List Ac)(ticks:Int)(x1:jx):Option (jx⊕jx):=bif decide (x1.t11<(if 300<ticks then 300 else ticks))then (tr x1.w l).bind fun v3=>some (.inl (jx.mk (i64.wrap (x1.t11+1)) v3))else some (.inr (jx.mk x1.t11 x1.w))
def FK (w:Wd)(l:List Ac)(ticks:Int):Option Wd:=(sh w).bind fun _=>(iter (x8 l ticks) aY (jx.mk 0 w)).bind fun v2=>some v2.w
theorem NC {w:Wd}{ticks:Int}{r_:Wd}(h:FK w l ticks=some r_):aq prog 32 [w9 w,.slice 5 (l.map n8),.int .i64 ticks] [w9 r_]:=by
 refine zh Tryz.func32 Z Z Z Z ?_;unfold FK at h;refine qR<|yS Z (bx Z Z Z Z Z)<|yS Z (ze Z ip Z Z)<|nT<|qR<|yS Z (zD Z Z Z bB Z Z)<|zb h fun v1 a1 h=>?_;obtain rfl:=x9 a1;refine yS Z (yP Z Z Z (JV a1) dG)<|yS Z (zs Z Z Z Z bB Z Z Z Z)<|nT<|zQ<|qR<|zM Z<|yS Z (aa.min Z Z Z)<|mN Z ?_;obtain⟨v2,p2,q2⟩:=zB h;clear h;refine LW.tail (E:=[(3,.ptr 0 0),(6,.ptr 1 0)]) (O:=[.box (gB v2.w),.box rc]) ?_<|fun e2 K2 u2=>?_
 ·refine LW.block ?_;refine LW.iterB (E:=fun x1:jx=>[(1,.p (.slice 5 (l.map n8))),(3,.ptr 0 0),(6,.ptr 1 0),(10,.p (.int .i64 (if 300<ticks then 300 else ticks))),(11,(iQ x1.t11))]) (O:=fun x1=>[.box (gB x1.w),.box rc]) p2 (av 2 ⟨Z,Z,Z,Z,Z,t_⟩)<|fun x1 z1 h m1=>?_;unfold x8 at h;refine qR<|yS Z (an Z Z Z Z)<|nT<|zQ ?_;refine zX Z (fun g1=>?_)<|fun g1=>?_
  ·refine zi g1 h fun h=>zk<|zT<|zQ<|zl<|zR<|yS Z (zD Z Z Z bB Z Z)<|zM Z<|zb h fun v3 a3 h=>yS Z (yP Z Z Z (JU a3) bG)<|yS Z (zs Z Z Z Z bB Z Z Z Z)<|zN<|af<|zT<|zR<|yS Z (an Z Z Z Z)<|mN Z ?_;cases h;exact⟨_,rfl,av 2 ⟨Z,Z,Z,Z,Z,t_⟩⟩
  ·refine zo g1 h fun h=>zq<|ai<|ai<|zy<|zT ?_;cases h;obtain rfl:=(m1 _ rfl);exact av 2 ⟨Z,Z,t_⟩
 ·have h:=q2;clear p2;refine zT<|LW.weak u2<|qR<|yS Z (zD Z Z Z bB Z Z)<|yS Z (zs Z Z Z Z bB Z Z Z Z)<|nT<|zr ?_;cases h;exact zf (.one (er Z Z)) zv
structure iE where
 i:Int
def pQ (a:List Of)(b:List Of)(x1:iE):Option (iE⊕(iE⊕Bool)):=bif decide (x1.i<(a.length:Int))then (ix a x1.i).bind fun y1=>(ix b x1.i).bind fun y2=>(JB y1.V y2.V).bind fun v2=>bif !v2 then some (.inr (.inr false))else (ix a x1.i).bind fun y3=>(ix b x1.i).bind fun y4=>bif y3.Slot != y4.Slot then some (.inr (.inr false))else (ix a x1.i).bind fun y5=>(ix b x1.i).bind fun y6=>bif y5.From != y6.From then some (.inr (.inr false))else (ix a x1.i).bind fun y7=>(ix b x1.i).bind fun y8=>bif !((y7.B.Slot==y8.B.Slot)&&((y7.B.From==y8.B.From)&&((y7.B.Parent.1==y8.B.Parent.1)&&((y7.B.Parent.2==y8.B.Parent.2)&&((y7.B.Salt==y8.B.Salt)&&true)))))then some (.inr (.inr false))else some (.inl (iE.mk (i64.wrap (x1.i+1))))else some (.inr (.inl (iE.mk x1.i)))
def vj (a:List Of)(b:List Of):Option Bool:=bif (a.length:Int) != (b.length:Int)then some false else (iter (pQ a b) aY (iE.mk 0)).bind fun b_v1=>Sum.elim (fun _=>some true) some b_v1
theorem JM (h:vj a b=some r_):aq prog 52 [.slice 9 (a.map cZ),.slice 9 (b.map cZ)] [.bool r_]:=by
 refine zh Tryz.func52 Z Z Z Z ?_;unfold vj at h;refine qR<|mN Z<|zQ<|qR<|zM Z<|yS Z (ck Z Z)<|zM Z<|yS Z (ck Z Z)<|yS Z (an Z Z Z Z)<|nT ?_;refine zX Z (fun g1=>?_)<|fun g1=>?_
 ·refine zi g1 h fun h=>qR<|mN Z<|LW.ret<|ae ?_;cases h;exact aZ Z
 ·refine zo g1 h fun h=>zk<|zT<|zQ<|qR<|mN Z ?_;obtain⟨w1,p1,q1⟩:=zB h;clear h;refine LW.tailB (b:=w1) (E:=fun v1=>[(4,(bQ false))]) (O:=fun v1=>[]) ?_<|fun v1 f1 e1 K1 u1=>?_
  ·refine LW.block ?_;refine LW.iterB (E:=fun x1:iE=>[(0,(kO a)),(1,(kO b)),(4,(bQ false)),(5,(iQ x1.i))]) (O:=fun x1=>[]) p1 (av 0 ⟨Z,Z,Z,Z,t_⟩)<|fun x1 z1 h m1=>?_;unfold pQ at h;refine zQ<|qR<|zM Z<|zM Z<|yS Z (ck Z Z)<|yS Z (an Z Z Z Z)<|nT ?_;refine zX Z (fun g2=>?_)<|fun g2=>?_
   ·refine zi g2 h fun h=>zk<|zT<|zQ<|zl<|zQ<|dx<|zH Z<|zH Z<|zb h fun y1 j1 h=>yE Z (zx Z Z Z bq j1 Z)<|yE Z (aa.fieldAddrC Z Z fp Z)<|yE Z (bR Z Z Z aG Z Z)<|zH Z<|zH Z<|zb h fun y2 j2 h=>yE Z (zx Z Z Z bq j2 Z)<|yE Z (aa.fieldAddrC Z Z fp Z)<|yE Z (bR Z Z Z aG Z Z)<|zb h fun v2 a2 h=>yE Z (yP Z Z Z (P5 a2) bG)<|zH Z<|LO.nil<|zT<|zQ<|dx<|zH Z<|yE Z (aa.not Z Z)<|zH Z ?_;refine LO.cases 31 Z (fun(g3:(!v2)=true)=>?_) (fun(g3:(!v2)=false)=>?_)
    ·refine zi g3 h fun h=>yK Z (gd g3 Z) Z<|yK Z (gd g3 Z) Z<|yK Z (gd g3 Z) Z<|yK Z (gd g3 Z) Z<|yK Z (gd g3 Z) Z<|yK Z (gd g3 Z) Z<|yK Z (gd g3 Z) Z<|yK Z (gd g3 Z) Z<|yK Z (gd g3 Z) Z<|yK Z (gd g3 Z) Z<|yK Z (gd g3 Z) Z<|yE Z (bv Z (aJ g3 Z) Z)<|zH Z<|b8 Z<|b8 Z<|b8 Z<|b8 Z<|b8 Z<|b8 Z<|b8 Z<|b8 Z<|b8 Z<|b8 Z<|b8 Z<|yE Z (bv Z Z Z)<|zH Z<|b8 Z<|b8 Z<|b8 Z<|b8 Z<|b8 Z<|b8 Z<|b8 Z<|b8 Z<|b8 Z<|b8 Z<|b8 Z<|yE Z (bv Z Z Z)<|LO.nil<|zT<|LW.condT Z<|qR<|mN Z<|zr<|ak<|ae<|ae<|ak<|ae<|ae ?_;cases h;obtain rfl:=(m1 _ rfl);have h:=bO q1;cases h;exact aZ Z
    ·refine zo g3 h fun h=>yL Z (gd g3 Z) (zm Z Z)<|yL Z (gd g3 Z) (zm Z Z)<|zb h fun y3 j3 h=>yL Z (gd g3 Z) (zx Z Z Z bq j3 Z)<|yL Z (gd g3 Z) (aa.fieldAddrC Z Z lA Z)<|yL Z (gd g3 Z) (bR Z Z Z aW Z Z)<|yL Z (gd g3 Z) (zm Z Z)<|yL Z (gd g3 Z) (zm Z Z)<|zb h fun y4 j4 h=>yL Z (gd g3 Z) (zx Z Z Z bq j4 Z)<|yL Z (gd g3 Z) (aa.fieldAddrC Z Z lA Z)<|yL Z (gd g3 Z) (bR Z Z Z aW Z Z)<|yL Z (gd g3 Z) (an Z Z Z Z)<|yE Z (aT Z (aJ g3 Z) Z)<|zH Z ?_;refine LO.cases 44 Z (fun(g4:(y3.Slot != y4.Slot)=true)=>?_) (fun(g4:(y3.Slot != y4.Slot)=false)=>?_)
     ·refine zi g4 h fun h=>yK Z (gd g4 Z) Z<|yK Z (gd g4 Z) Z<|yK Z (gd g4 Z) Z<|yK Z (gd g4 Z) Z<|yK Z (gd g4 Z) Z<|yK Z (gd g4 Z) Z<|yK Z (gd g4 Z) Z<|yK Z (gd g4 Z) Z<|yK Z (gd g4 Z) Z<|yK Z (gd g4 Z) Z<|yK Z (gd g4 Z) Z<|yE Z (bv Z (aJ g4 Z) Z)<|zH Z<|b8 Z<|b8 Z<|b8 Z<|b8 Z<|b8 Z<|b8 Z<|b8 Z<|b8 Z<|b8 Z<|b8 Z<|b8 Z<|yE Z (bv Z Z Z)<|LO.nil<|zT<|LW.condT Z<|qR<|mN Z<|zr<|ak<|ae<|ae<|ak<|ae<|ae ?_;cases h;obtain rfl:=(m1 _ rfl);have h:=bO q1;cases h;exact aZ Z
     ·refine zo g4 h fun h=>yL Z (gd g4 Z) (zm Z Z)<|yL Z (gd g4 Z) (zm Z Z)<|zb h fun y5 j5 h=>yL Z (gd g4 Z) (zx Z Z Z bq j5 Z)<|yL Z (gd g4 Z) (aa.fieldAddrC Z Z lC Z)<|yL Z (gd g4 Z) (bR Z Z Z aW Z Z)<|yL Z (gd g4 Z) (zm Z Z)<|yL Z (gd g4 Z) (zm Z Z)<|zb h fun y6 j6 h=>yL Z (gd g4 Z) (zx Z Z Z bq j6 Z)<|yL Z (gd g4 Z) (aa.fieldAddrC Z Z lC Z)<|yL Z (gd g4 Z) (bR Z Z Z aW Z Z)<|yL Z (gd g4 Z) (an Z Z Z Z)<|yE Z (aT Z (aJ g4 Z) Z)<|zH Z ?_;refine LO.cases 57 Z (fun(g5:(y5.From != y6.From)=true)=>?_) (fun(g5:(y5.From != y6.From)=false)=>?_)
      ·refine zi g5 h fun h=>yK Z (gd g5 Z) Z<|yK Z (gd g5 Z) Z<|yK Z (gd g5 Z) Z<|yK Z (gd g5 Z) Z<|yK Z (gd g5 Z) Z<|yK Z (gd g5 Z) Z<|yK Z (gd g5 Z) Z<|yK Z (gd g5 Z) Z<|yK Z (gd g5 Z) Z<|yK Z (gd g5 Z) Z<|yK Z (gd g5 Z) Z<|yE Z (bv Z (aJ g5 Z) Z)<|LO.nil<|zT<|LW.condT Z<|qR<|mN Z<|zr<|ak<|ae<|ae<|ak<|ae<|ae ?_;cases h;obtain rfl:=(m1 _ rfl);have h:=bO q1;cases h;exact aZ Z
      ·refine zo g5 h fun h=>yL Z (gd g5 Z) (zm Z Z)<|yL Z (gd g5 Z) (zm Z Z)<|zb h fun y7 j7 h=>yL Z (gd g5 Z) (zx Z Z Z bq j7 Z)<|yL Z (gd g5 Z) (aa.fieldAddrC Z Z lD Z)<|yL Z (gd g5 Z) (bR Z Z Z ce Z Z)<|yL Z (gd g5 Z) (zm Z Z)<|yL Z (gd g5 Z) (zm Z Z)<|zb h fun y8 j8 h=>yL Z (gd g5 Z) (zx Z Z Z bq j8 Z)<|yL Z (gd g5 Z) (aa.fieldAddrC Z Z lD Z)<|yL Z (gd g5 Z) (bR Z Z Z ce Z Z)<|yL Z (gd g5 Z) (aa.neqAgg Z Z Z Z Z tW)<|yE Z (aT Z (aJ g5 Z) Z)<|LO.nil<|zT ?_;refine zX Z (fun g6=>?_)<|fun g6=>?_
       ·refine zi g6 h fun h=>qR<|mN Z<|LW.ret<|ak<|ae<|ae<|ak<|ae<|ae ?_;cases h;obtain rfl:=(m1 _ rfl);have h:=bO q1;cases h;exact aZ Z
       ·refine zo g6 h fun h=>zk<|af<|zT<|zR<|zM Z<|yS Z (an Z Z Z Z)<|mN Z ?_;cases h;exact⟨_,rfl,av 0 ⟨Z,Z,Z,Z,t_⟩⟩
   ·refine zo g2 h fun h=>zq<|ai<|ai<|zy<|zT ?_;cases h;obtain rfl:=(m1 _ rfl);exact⟨_,rfl,av 0 ⟨Z,t_⟩⟩
  ·obtain rfl:=f1;have h:=cR q1;clear p1;refine zT<|LW.weak u1<|qR<|mN Z<|zr ?_;cases h;exact aZ Z
def xB (a:Nd)(b:Nd):Option Bool:=(JB a.V b.V).bind fun v1=>(JB a.In b.In).bind fun v2=>(vj a.O b.O).bind fun v3=>bif v1 then bif v2 then bif v3 then bif a.No==b.No then bif a.Tick==b.Tick then bif ((a.C.ID.1==b.C.ID.1)&&((a.C.ID.2==b.C.ID.2)&&((a.C.Slot==b.C.Slot)&&((a.C.Revoked==b.C.Revoked)&&true))))then some (a.Full==b.Full)else some false else some false else some false else some false else some false else some false
theorem M9 {a:Nd}{b:Nd}(h:xB a b=some r_):aq prog 12 [du a,du b] [.bool r_]:=by
 refine zh Tryz.func12 Z Z Z Z ?_;unfold xB at h;refine qR<|yS Z (bx Z Z Z Z Z)<|yS Z (bx Z Z Z Z Z)<|mN Z<|qR<|yS Z (zA Z Z bI)<|yS Z (zD Z Z Z aG Z Z)<|yS Z (zA Z Z bI)<|yS Z (zD Z Z Z aG Z Z)<|zb h fun v1 a1 h=>yS Z (yP Z Z Z (P5 a1) bG)<|mN Z<|qR<|yS Z (zA Z Z bp)<|yS Z (zD Z Z Z aG Z Z)<|yS Z (zA Z Z bp)<|yS Z (zD Z Z Z aG Z Z)<|zb h fun v2 a2 h=>yS Z (yP Z Z Z (P5 a2) bG)<|mN Z<|qR<|yS Z (zA Z Z bz)<|yS Z (zD Z Z Z bk Z Z)<|yS Z (zA Z Z bz)<|yS Z (zD Z Z Z bk Z Z)<|zb h fun v3 a3 h=>yS Z (yP Z Z Z (JM a3) bG)<|mN Z<|qR<|zM Z<|zM Z ?_;refine zc 24 Z (fun g1=>?_)<|fun g1=>?_
 ·refine zi g1 h fun h=>yV Z (gd g1 Z) (zm Z Z)<|yS Z (bv Z (aJ g1 Z) Z)<|zM Z ?_;refine zc 27 Z (fun g2=>?_)<|fun g2=>?_
  ·refine zi g2 h fun h=>yV Z (gd g2 Z) (zm Z Z)<|yS Z (bv Z (aJ g2 Z) Z)<|zM Z ?_;refine zc 30 Z (fun g3=>?_)<|fun g3=>?_
   ·refine zi g3 h fun h=>yV Z (gd g3 Z) (zA Z Z dD)<|yV Z (gd g3 Z) (zD Z Z Z aW Z Z)<|yV Z (gd g3 Z) (zA Z Z dD)<|yV Z (gd g3 Z) (zD Z Z Z aW Z Z)<|yV Z (gd g3 Z) (an Z Z Z Z)<|yS Z (bv Z (aJ g3 Z) Z)<|zM Z ?_;refine zc 37 Z (fun g4=>?_)<|fun g4=>?_
    ·refine zi g4 h fun h=>yV Z (gd g4 Z) (zA Z Z cv)<|yV Z (gd g4 Z) (zD Z Z Z aW Z Z)<|yV Z (gd g4 Z) (zA Z Z cv)<|yV Z (gd g4 Z) (zD Z Z Z aW Z Z)<|yV Z (gd g4 Z) (an Z Z Z Z)<|yS Z (bv Z (aJ g4 Z) Z)<|zM Z ?_;refine zc 44 Z (fun g5=>?_)<|fun g5=>?_
     ·refine zi g5 h fun h=>yV Z (gd g5 Z) (zA Z Z gJ)<|yV Z (gd g5 Z) (zD Z Z Z gv Z Z)<|yV Z (gd g5 Z) (zA Z Z gJ)<|yV Z (gd g5 Z) (zD Z Z Z gv Z Z)<|yV Z (gd g5 Z) (aa.eqlAgg Z Z Z Z Z J6)<|yS Z (bv Z (aJ g5 Z) Z)<|zM Z ?_;refine zc 51 Z (fun g6=>?_)<|fun g6=>?_
      ·refine zi g6 h fun h=>yV Z (gd g6 Z) (zA Z Z eJ)<|yV Z (gd g6 Z) (zD Z Z Z uS Z Z)<|yV Z (gd g6 Z) (zA Z Z eJ)<|yV Z (gd g6 Z) (zD Z Z Z uS Z Z)<|yV Z (gd g6 Z) (aa.eqlBool Z Z Z Tryz.underlying4)<|yS Z (bv Z (aJ g6 Z) Z)<|mN Z<|zr ?_;cases h;exact aZ Z
      ·refine zo g6 h fun h=>yU Z (gd g6 Z) Z<|yU Z (gd g6 Z) Z<|yU Z (gd g6 Z) Z<|yU Z (gd g6 Z) Z<|yU Z (gd g6 Z) Z<|yS Z (aT Z (aJ g6 Z) Z)<|mN Z<|zr ?_;cases h;exact aZ Z
     ·refine zo g5 h fun h=>yU Z (gd g5 Z) Z<|yU Z (gd g5 Z) Z<|yU Z (gd g5 Z) Z<|yU Z (gd g5 Z) Z<|yU Z (gd g5 Z) Z<|yS Z (aT Z (aJ g5 Z) Z)<|zM Z<|aw Z<|aw Z<|aw Z<|aw Z<|aw Z<|yS Z (aT Z Z Z)<|mN Z<|zr ?_;cases h;exact aZ Z
    ·refine zo g4 h fun h=>yU Z (gd g4 Z) Z<|yU Z (gd g4 Z) Z<|yU Z (gd g4 Z) Z<|yU Z (gd g4 Z) Z<|yU Z (gd g4 Z) Z<|yS Z (aT Z (aJ g4 Z) Z)<|zM Z<|aw Z<|aw Z<|aw Z<|aw Z<|aw Z<|yS Z (aT Z Z Z)<|zM Z<|aw Z<|aw Z<|aw Z<|aw Z<|aw Z<|yS Z (aT Z Z Z)<|mN Z<|zr ?_;cases h;exact aZ Z
   ·refine zo g3 h fun h=>yU Z (gd g3 Z) Z<|yU Z (gd g3 Z) Z<|yU Z (gd g3 Z) Z<|yU Z (gd g3 Z) Z<|yU Z (gd g3 Z) Z<|yS Z (aT Z (aJ g3 Z) Z)<|zM Z<|aw Z<|aw Z<|aw Z<|aw Z<|aw Z<|yS Z (aT Z Z Z)<|zM Z<|aw Z<|aw Z<|aw Z<|aw Z<|aw Z<|yS Z (aT Z Z Z)<|zM Z<|aw Z<|aw Z<|aw Z<|aw Z<|aw Z<|yS Z (aT Z Z Z)<|mN Z<|zr ?_;cases h;exact aZ Z
  ·refine zo g2 h fun h=>yU Z (gd g2 Z) Z<|yS Z (aT Z (aJ g2 Z) Z)<|zM Z<|aw Z<|aw Z<|aw Z<|aw Z<|aw Z<|yS Z (aT Z Z Z)<|zM Z<|aw Z<|aw Z<|aw Z<|aw Z<|aw Z<|yS Z (aT Z Z Z)<|zM Z<|aw Z<|aw Z<|aw Z<|aw Z<|aw Z<|yS Z (aT Z Z Z)<|zM Z<|aw Z<|aw Z<|aw Z<|aw Z<|aw Z<|yS Z (aT Z Z Z)<|mN Z<|zr ?_;cases h;exact aZ Z
 ·refine zo g1 h fun h=>yU Z (gd g1 Z) Z<|yS Z (aT Z (aJ g1 Z) Z)<|zM Z<|aw Z<|yS Z (aT Z Z Z)<|zM Z<|aw Z<|aw Z<|aw Z<|aw Z<|aw Z<|yS Z (aT Z Z Z)<|zM Z<|aw Z<|aw Z<|aw Z<|aw Z<|aw Z<|yS Z (aT Z Z Z)<|zM Z<|aw Z<|aw Z<|aw Z<|aw Z<|aw Z<|yS Z (aT Z Z Z)<|zM Z<|aw Z<|aw Z<|aw Z<|aw Z<|aw Z<|yS Z (aT Z Z Z)<|mN Z<|zr ?_;cases h;exact aZ Z
def xC (a:List Of)(b:List Of):Option Bool:=(vj a b).bind fun v1=>some v1
theorem Na (h:xC a b=some r_):aq prog 13 [.slice 9 (a.map cZ),.slice 9 (b.map cZ)] [.bool r_]:=by
 refine zh Tryz.func13 Z Z Z Z ?_;unfold xC at h;refine qR<|mN Z<|qR<|zM Z<|zM Z<|zb h fun v1 a1 h=>yS Z (yP Z Z Z (JM a1) bG)<|mN Z<|qR<|zM Z<|mN Z<|zr ?_;cases h;exact aZ Z
structure fd where
 i:Int
structure eE where
 i:Int
def jy (a:Wd)(b:Wd)(x1:fd):Option (fd⊕(fd⊕Bool)):=bif decide (x1.i<(a.Bad.length:Int))then (ix a.Bad x1.i).bind fun y1=>(ix b.Bad x1.i).bind fun y2=>bif y1 != y2 then some (.inr (.inr false))else some (.inl (fd.mk (i64.wrap (x1.i+1))))else some (.inr (.inl (fd.mk x1.i)))
def iJ (a:Wd)(b:Wd)(x2:eE):Option (eE⊕(eE⊕Bool)):=bif decide (x2.i<(a.N.length:Int))then (ix a.N x2.i).bind fun y3=>(ix b.N x2.i).bind fun y4=>(xB y3 y4).bind fun v5=>bif !v5 then some (.inr (.inr false))else some (.inl (eE.mk (i64.wrap (x2.i+1))))else some (.inr (.inl (eE.mk x2.i)))
def tt (a:Wd)(b:Wd):Option Bool:=(xC a.O b.O).bind fun v1=>(bif !v1 then some true else bif a.Tick != b.Tick then some true else bif (a.Bad.length:Int) != (b.Bad.length:Int)then some true else some ((a.N.length:Int) != (b.N.length:Int))).bind fun v2=>bif v2 then some false else (iter (jy a b) aY (fd.mk 0)).bind fun b_v3=>Sum.elim (fun _=>(iter (iJ a b) aY (eE.mk 0)).bind fun b_v4=>Sum.elim (fun _=>some true) some b_v4) some b_v3
theorem GC {a:Wd}{b:Wd}(h:tt a b=some r_):aq prog 27 [w9 a,w9 b] [.bool r_]:=by
 refine zh Tryz.func27 Z Z Z Z ?_;unfold tt at h;refine qR<|yS Z (bx Z Z Z Z Z)<|yS Z (bx Z Z Z Z Z)<|mN Z<|qR<|yS Z (zA Z Z dZ)<|yS Z (zD Z Z Z bk Z Z)<|yS Z (zA Z Z dZ)<|yS Z (zD Z Z Z bk Z Z)<|zb h fun v1 a1 h=>yS Z (yP Z Z Z (Na a1) bG)<|mN Z<|zQ ?_;obtain⟨v2,p2,q2⟩:=zB h;clear h;refine LW.cut (E:=[(2,.ptr 0 0),(3,.ptr 1 0),(4,(bQ false)),(40,(bQ v2))]) (O:=[.box (gB a),.box (gB b)]) ?_ ?_
 ·have h:=p2;refine zR<|zM Z<|yS Z (aa.not Z Z)<|zM Z ?_;refine zc 16 Z (fun g1=>?_)<|fun g1=>?_
  ·refine zi g1 h fun h=>yU Z (gd g1 Z) Z<|yU Z (gd g1 Z) Z<|yU Z (gd g1 Z) Z<|yU Z (gd g1 Z) Z<|yU Z (gd g1 Z) Z<|yS Z (bv Z (aJ g1 Z) Z)<|zM Z<|aw Z<|aw Z<|aw Z<|aw Z<|aw Z<|aw Z<|aw Z<|yS Z (bv Z Z Z)<|zM Z<|aw Z<|aw Z<|aw Z<|aw Z<|aw Z<|aw Z<|aw Z<|yS Z (bv Z Z Z)<|nT ?_;cases h;exact av 2 ⟨Z,Z,Z,Z,t_⟩
  ·refine zo g1 h fun h=>yV Z (gd g1 Z) (zA Z Z cU)<|yV Z (gd g1 Z) (zD Z Z Z aW Z Z)<|yV Z (gd g1 Z) (zA Z Z cU)<|yV Z (gd g1 Z) (zD Z Z Z aW Z Z)<|yV Z (gd g1 Z) (an Z Z Z Z)<|yS Z (aT Z (aJ g1 Z) Z)<|zM Z ?_;refine zc 23 Z (fun g2=>?_)<|fun g2=>?_
   ·refine zi g2 h fun h=>yU Z (gd g2 Z) Z<|yU Z (gd g2 Z) Z<|yU Z (gd g2 Z) Z<|yU Z (gd g2 Z) Z<|yU Z (gd g2 Z) Z<|yU Z (gd g2 Z) Z<|yU Z (gd g2 Z) Z<|yS Z (bv Z (aJ g2 Z) Z)<|zM Z<|aw Z<|aw Z<|aw Z<|aw Z<|aw Z<|aw Z<|aw Z<|yS Z (bv Z Z Z)<|nT ?_;cases h;exact av 2 ⟨Z,Z,Z,Z,t_⟩
   ·refine zo g2 h fun h=>yV Z (gd g2 Z) (zA Z Z cP)<|yV Z (gd g2 Z) (zD Z Z Z dH Z Z)<|yV Z (gd g2 Z) (ck Z Z)<|yV Z (gd g2 Z) (zA Z Z cP)<|yV Z (gd g2 Z) (zD Z Z Z dH Z Z)<|yV Z (gd g2 Z) (ck Z Z)<|yV Z (gd g2 Z) (an Z Z Z Z)<|yS Z (aT Z (aJ g2 Z) Z)<|zM Z ?_;refine zc 32 Z (fun g3=>?_)<|fun g3=>?_
    ·refine zi g3 h fun h=>yU Z (gd g3 Z) Z<|yU Z (gd g3 Z) Z<|yU Z (gd g3 Z) Z<|yU Z (gd g3 Z) Z<|yU Z (gd g3 Z) Z<|yU Z (gd g3 Z) Z<|yU Z (gd g3 Z) Z<|yS Z (bv Z (aJ g3 Z) Z)<|nT ?_;cases h;exact av 2 ⟨Z,Z,Z,Z,t_⟩
    ·refine zo g3 h fun h=>yV Z (gd g3 Z) (zA Z Z bD)<|yV Z (gd g3 Z) (zD Z Z Z cT Z Z)<|yV Z (gd g3 Z) (ck Z Z)<|yV Z (gd g3 Z) (zA Z Z bD)<|yV Z (gd g3 Z) (zD Z Z Z cT Z Z)<|yV Z (gd g3 Z) (ck Z Z)<|yV Z (gd g3 Z) (an Z Z Z Z)<|yS Z (aT Z (aJ g3 Z) Z)<|nT ?_;cases h;exact av 2 ⟨Z,Z,Z,Z,t_⟩
 ·have h:=q2;clear p2;refine zX Z (fun g4=>?_)<|fun g4=>?_
  ·refine zi g4 h fun h=>qR<|mN Z<|LW.ret<|ae ?_;cases h;exact aZ Z
  ·refine zo g4 h fun h=>zk<|zT<|zQ<|qR<|mN Z ?_;obtain⟨b3,p3,q3⟩:=zB h;clear h;refine LW.tailB (b:=b3) (E:=fun v3=>[(2,.ptr 0 0),(3,.ptr 1 0),(4,(bQ false))]) (O:=fun v3=>[.box (gB a),.box (gB b)]) ?_<|fun v3 f3 e3 K3 u3=>?_
   ·refine LW.block ?_;refine LW.iterB (E:=fun x1:fd=>[(2,.ptr 0 0),(3,.ptr 1 0),(4,(bQ false)),(6,(iQ x1.i))]) (O:=fun x1=>[.box (gB a),.box (gB b)]) p3 (av 2 ⟨Z,Z,Z,Z,t_⟩)<|fun x1 z1 h m1=>?_;unfold jy at h;refine zQ<|qR<|zM Z<|yS Z (zA Z Z cP)<|yS Z (zD Z Z Z dH Z Z)<|yS Z (ck Z Z)<|yS Z (an Z Z Z Z)<|nT ?_;refine zX Z (fun g5=>?_)<|fun g5=>?_
    ·refine zi g5 h fun h=>zk<|zT<|zQ<|zl<|zQ<|dx<|yE Z (zA Z Z cP)<|yE Z (zD Z Z Z dH Z Z)<|zH Z<|zb h fun y1 j1 h=>yE Z (zx Z Z Z dL j1 Z)<|yE Z (bR Z Z Z aW Z Z)<|yE Z (zA Z Z cP)<|yE Z (zD Z Z Z dH Z Z)<|zH Z<|zb h fun y2 j2 h=>yE Z (zx Z Z Z dL j2 Z)<|yE Z (bR Z Z Z aW Z Z)<|yE Z (an Z Z Z Z)<|LO.nil<|zT ?_;refine zX Z (fun g6=>?_)<|fun g6=>?_
     ·refine zi g6 h fun h=>qR<|mN Z<|LW.ret<|ak<|ae<|ae<|ak<|ae<|ae ?_;cases h;obtain rfl:=(m1 _ rfl);have h:=bO q3;cases h;exact aZ Z
     ·refine zo g6 h fun h=>zk<|af<|zT<|zR<|zM Z<|yS Z (an Z Z Z Z)<|mN Z ?_;cases h;exact⟨_,rfl,av 2 ⟨Z,Z,Z,Z,t_⟩⟩
    ·refine zo g5 h fun h=>zq<|ai<|ai<|zy<|zT ?_;cases h;obtain rfl:=(m1 _ rfl);exact⟨_,rfl,av 2 ⟨Z,Z,Z,t_⟩⟩
   ·obtain rfl:=f3;have h:=cR q3;clear p3;refine zT<|LW.weak u3<|zQ<|qR<|mN Z ?_;obtain⟨b4,p4,q4⟩:=zB h;clear h;refine LW.tailB (b:=b4) (E:=fun v4=>[(4,(bQ false))]) (O:=fun v4=>[.box (gB a),.box (gB b)]) ?_<|fun v4 f4 e4 K4 u4=>?_
    ·refine LW.block ?_;refine LW.iterB (E:=fun x2:eE=>[(2,.ptr 0 0),(3,.ptr 1 0),(4,(bQ false)),(7,(iQ x2.i))]) (O:=fun x2=>[.box (gB a),.box (gB b)]) p4 (av 2 ⟨Z,Z,Z,Z,t_⟩)<|fun x2 z2 h m2=>?_;unfold iJ at h;refine zQ<|qR<|zM Z<|yS Z (zA Z Z bD)<|yS Z (zD Z Z Z cT Z Z)<|yS Z (ck Z Z)<|yS Z (an Z Z Z Z)<|nT ?_;refine zX Z (fun g7=>?_)<|fun g7=>?_
     ·refine zi g7 h fun h=>zk<|zT<|zQ<|zl<|zQ<|dx<|yE Z (zA Z Z bD)<|yE Z (zD Z Z Z cT Z Z)<|zH Z<|zb h fun y3 j3 h=>yE Z (zx Z Z Z dy j3 Z)<|yE Z (bR Z Z Z aM Z Z)<|yE Z (zA Z Z bD)<|yE Z (zD Z Z Z cT Z Z)<|zH Z<|zb h fun y4 j4 h=>yE Z (zx Z Z Z dy j4 Z)<|yE Z (bR Z Z Z aM Z Z)<|zb h fun v5 a5 h=>yE Z (yP Z Z Z (M9 a5) bG)<|zH Z<|LO.nil<|zT<|qR<|zM Z<|yS Z (aa.not Z Z)<|nT ?_;refine zX Z (fun g8=>?_)<|fun g8=>?_
      ·refine zi g8 h fun h=>qR<|mN Z<|LW.ret<|ak<|ae<|ae<|ak<|ae<|ae ?_;cases h;obtain rfl:=(m2 _ rfl);have h:=bO q4;cases h;exact aZ Z
      ·refine zo g8 h fun h=>zk<|af<|zT<|zR<|zM Z<|yS Z (an Z Z Z Z)<|mN Z ?_;cases h;exact⟨_,rfl,av 2 ⟨Z,Z,Z,Z,t_⟩⟩
     ·refine zo g7 h fun h=>zq<|ai<|ai<|zy<|zT ?_;cases h;obtain rfl:=(m2 _ rfl);exact⟨_,rfl,av 2 ⟨Z,t_⟩⟩
    ·obtain rfl:=f4;have h:=cR q4;clear p4;refine zT<|LW.weak u4<|qR<|mN Z<|zr ?_;cases h;exact aZ Z
structure kp where
 t17:Int
def sP (s1:List Nd)(s2:List Nd)(x1:kp):Option (kp⊕(kp⊕Bool)):=bif decide (x1.t17<(s1.length:Int))then (ix s1 x1.t17).bind fun y1=>(ix s2 x1.t17).bind fun y2=>(vg y1 y2).bind fun v2=>bif !v2 then some (.inr (.inr false))else some (.inl (kp.mk (i64.wrap (x1.t17+1))))else some (.inr (.inl (kp.mk x1.t17)))
def Gc (s1:List Nd)(s2:List Nd):Option Bool:=bif (s1.length:Int) != (s2.length:Int)then some false else (iter (sP s1 s2) aY (kp.mk 0)).bind fun b_v1=>Sum.elim (fun _=>some true) some b_v1
theorem N1 {s1:List Nd}{s2:List Nd}(h:Gc s1 s2=some r_):LC prog 71 [.p (.slice 12 (s1.map du)),.p (.slice 12 (s2.map du)),.fn 21 [] []] [] (Is (bQ r_) []):=by
 refine eN Tryz.func71 Z Z Z ?_;unfold Gc at h;refine qR<|mN Z<|zQ<|qR<|zM Z<|yS Z (ck Z Z)<|zM Z<|yS Z (ck Z Z)<|yS Z (an Z Z Z Z)<|nT ?_;refine zX Z (fun g1=>?_)<|fun g1=>?_
 ·refine zi g1 h fun h=>qR<|mN Z<|LW.ret<|ae ?_;cases h;exact aD (.one (.tmp Z))<|⟨rfl,rfl⟩
 ·refine zo g1 h fun h=>zk<|zT<|zQ<|qR<|zM Z<|yS Z (ck Z Z)<|mN Z ?_;obtain⟨w1,p1,q1⟩:=zB h;clear h;refine LW.tailB (b:=w1) (E:=fun v1=>[(6,(bQ false))]) (O:=fun v1=>[]) ?_<|fun v1 f1 e1 K1 u1=>?_
  ·refine LW.block ?_;refine LW.iterB (E:=fun x1:kp=>[(1,.p (.slice 12 (s2.map du))),(2,.fn 21 [] []),(6,(bQ false)),(15,.p (.slice 12 (s1.map du))),(16,.p (.int .i64 (s1.length:Int))),(17,(iQ x1.t17))]) (O:=fun x1=>[]) p1 (av 0 ⟨Z,Z,Z,Z,Z,Z,t_⟩)<|fun x1 z1 h m1=>?_;unfold sP at h;refine qR<|yS Z (an Z Z Z Z)<|nT<|zQ ?_;refine zX Z (fun g2=>?_)<|fun g2=>?_
   ·refine zi g2 h fun h=>zk<|zT<|zQ<|zl<|qR<|zM Z<|zb h fun y1 j1 h=>yS Z (zx Z Z Z dy j1 Z)<|yS Z (bR Z Z Z aM Z Z)<|yS Z (ze Z eU Z Z)<|zM Z<|yS Z (zs Z Z Z Z aM Z Z Z Z)<|nT<|qR<|zM Z<|zM Z<|zb h fun y2 j2 h=>yS Z (zx Z Z Z dy j2 Z)<|yS Z (bR Z Z Z aM Z Z)<|yS Z (ze Z eU Z Z)<|yS Z (zs Z Z Z Z aM Z Z Z Z)<|nT<|qR<|zM Z<|yS Z (zD Z Z Z aM Z Z)<|yS Z (zD Z Z Z aM Z Z)<|zb h fun v2 a2 h=>yS Z (yP Z Z Z (JK a2) bG)<|yS Z (aa.not Z Z)<|nT ?_;refine zX Z (fun g3=>?_)<|fun g3=>?_
    ·refine zi g3 h fun h=>qR<|mN Z<|LW.ret<|ak<|ae<|ae<|ak<|ae<|ae ?_;cases h;obtain rfl:=(m1 _ rfl);have h:=bO q1;cases h;exact bT (env':=[(6,(bQ false))]) (H':=[]) (av 0 ⟨Z,t_⟩) (.one (.tmp Z))<|⟨rfl,rfl⟩
    ·refine zo g3 h fun h=>zk<|af<|zT<|zR<|yS Z (an Z Z Z Z)<|mN Z ?_;cases h;exact⟨_,rfl,av 0 ⟨Z,Z,Z,Z,Z,Z,t_⟩⟩
   ·refine zo g2 h fun h=>zq<|ai<|ai<|zy<|zT ?_;cases h;obtain rfl:=(m1 _ rfl);exact⟨_,rfl,av 0 ⟨Z,t_⟩⟩
  ·obtain rfl:=f1;have h:=cR q1;clear p1;refine zT<|LW.weak u1<|qR<|mN Z<|zr ?_;cases h;exact aD (.one (.tmp Z))<|⟨rfl,rfl⟩
structure iK where
 t13:Int
def p5 (s1:List Int)(s2:List Int)(x1:iK):Option (iK⊕(iK⊕Bool)):=bif decide (x1.t13<(s1.length:Int))then (ix s1 x1.t13).bind fun y1=>(ix s2 x1.t13).bind fun y2=>bif y1 != y2 then some (.inr (.inr false))else some (.inl (iK.mk (i64.wrap (x1.t13+1))))else some (.inr (.inl (iK.mk x1.t13)))
def yc (s1:List Int)(s2:List Int):Option Bool:=bif (s1.length:Int) != (s2.length:Int)then some false else (iter (p5 s1 s2) aY (iK.mk 0)).bind fun b_v1=>Sum.elim (fun _=>some true) some b_v1
theorem NE {s1:List Int}{s2:List Int}(h:yc s1 s2=some r_):aq prog 70 [.slice 1 (s1.map bh),.slice 1 (s2.map bh)] [.bool r_]:=by
 refine zh Tryz.func70 Z Z Z Z ?_;unfold yc at h;refine qR<|mN Z<|zQ<|qR<|zM Z<|yS Z (ck Z Z)<|zM Z<|yS Z (ck Z Z)<|yS Z (an Z Z Z Z)<|nT ?_;refine zX Z (fun g1=>?_)<|fun g1=>?_
 ·refine zi g1 h fun h=>qR<|mN Z<|LW.ret<|ae ?_;cases h;exact aZ Z
 ·refine zo g1 h fun h=>zk<|zT<|zQ<|qR<|zM Z<|yS Z (ck Z Z)<|mN Z ?_;obtain⟨w1,a1,q1⟩:=zB h;clear h;refine LW.tailB (b:=w1) (E:=fun v1=>[(4,(bQ false))]) (O:=fun v1=>[]) ?_<|fun v1 f1 e1 K1 u1=>?_
  ·refine LW.block ?_;refine LW.iterB (E:=fun x1:iK=>[(0,(kI s1)),(1,(kI s2)),(4,(bQ false)),(12,.p (.int .i64 (s1.length:Int))),(13,(iQ x1.t13))]) (O:=fun x1=>[]) a1 (av 0 ⟨Z,Z,Z,Z,Z,t_⟩)<|fun x1 z1 h m1=>?_;unfold p5 at h;refine qR<|yS Z (an Z Z Z Z)<|nT<|zQ ?_;refine zX Z (fun g2=>?_)<|fun g2=>?_
   ·refine zi g2 h fun h=>zk<|zT<|zQ<|zl<|qR<|zM Z<|mN Z<|zQ<|dx<|zH Z<|zH Z<|zb h fun y1 j1 h=>yE Z (zx Z Z Z dL j1 Z)<|yE Z (bR Z Z Z aW Z Z)<|zH Z<|zH Z<|zb h fun y2 j2 h=>yE Z (zx Z Z Z dL j2 Z)<|yE Z (bR Z Z Z aW Z Z)<|yE Z (an Z Z Z Z)<|LO.nil<|zT ?_;refine zX Z (fun g3=>?_)<|fun g3=>?_
    ·refine zi g3 h fun h=>qR<|mN Z<|LW.ret<|ak<|ae<|ae<|ak<|ae<|ae ?_;cases h;obtain rfl:=(m1 _ rfl);have h:=bO q1;cases h;exact aZ Z
    ·refine zo g3 h fun h=>zk<|af<|zT<|zR<|yS Z (an Z Z Z Z)<|mN Z ?_;cases h;exact⟨_,rfl,av 0 ⟨Z,Z,Z,Z,Z,t_⟩⟩
   ·refine zo g2 h fun h=>zq<|ai<|ai<|zy<|zT ?_;cases h;obtain rfl:=(m1 _ rfl);exact⟨_,rfl,av 0 ⟨Z,t_⟩⟩
  ·obtain rfl:=f1;have h:=cR q1;clear a1;refine zT<|LW.weak u1<|qR<|mN Z<|zr ?_;cases h;exact aZ Z
def vt (a:Wd)(b:Wd):Option Bool:=(vg (Nd.mk 0 0 (Vw.mk [] []) (Vw.mk [] []) a.O (Cu.mk (0,0) 0 0) false) (Nd.mk 0 0 (Vw.mk [] []) (Vw.mk [] []) b.O (Cu.mk (0,0) 0 0) false)).bind fun v1=>bif v1 then bif a.Tick==b.Tick then (yc a.Bad b.Bad).bind fun v2=>bif v2 then (Gc a.N b.N).bind fun v3=>some v3 else some false else some false else some false
theorem JX {a:Wd}{b:Wd}(h:vt a b=some r_):aq prog 30 [w9 a,w9 b] [.bool r_]:=by
 refine zh Tryz.func30 Z Z Z Z ?_;unfold vt at h;refine qR<|yS Z (bx Z Z Z Z Z)<|yS Z (bx Z Z Z Z Z)<|mN Z<|qR<|yS Z (zA Z Z dZ)<|yS Z (zD Z Z Z bk Z Z)<|yS Z (aa.build Z wz Z Z Z)<|yS Z (zA Z Z dZ)<|yS Z (zD Z Z Z bk Z Z)<|yS Z (aa.build Z wz Z Z Z)<|zb h fun v1 a1 h=>yS Z (zC Z Z Z (by kernel_rfl) (zp (JK a1) (.cons (Conv.agg (.cons zv (.cons zv (.cons Conv.zs (.cons Conv.zs (.cons Conv.zs (.cons Conv.zs (.cons zv BP)))))))) (.cons (Conv.agg (.cons zv (.cons zv (.cons Conv.zs (.cons Conv.zs (.cons Conv.zs (.cons Conv.zs (.cons zv BP)))))))) .nil))))<|mN Z<|qR<|zM Z<|zM Z ?_;refine zc 14 Z (fun g1=>?_)<|fun g1=>?_
 ·refine zi g1 h fun h=>yV Z (gd g1 Z) (zA Z Z cU)<|yV Z (gd g1 Z) (zD Z Z Z aW Z Z)<|yV Z (gd g1 Z) (zA Z Z cU)<|yV Z (gd g1 Z) (zD Z Z Z aW Z Z)<|yV Z (gd g1 Z) (an Z Z Z Z)<|yS Z (bv Z (aJ g1 Z) Z)<|zM Z ?_;refine zc 21 Z (fun g2=>?_)<|fun g2=>?_
  ·refine zi g2 h fun h=>yV Z (gd g2 Z) (zA Z Z cP)<|yV Z (gd g2 Z) (zD Z Z Z dH Z Z)<|yV Z (gd g2 Z) (zA Z Z cP)<|yV Z (gd g2 Z) (zD Z Z Z dH Z Z)<|zb h fun v2 a2 h=>yV Z (gd g2 Z) (yP Z Z Z (NE a2) bG)<|yS Z (bv Z (aJ g2 Z) Z)<|zM Z ?_;refine zc 28 Z (fun g3=>?_)<|fun g3=>?_
   ·refine zi g3 h fun h=>yV Z (gd g3 Z) (zA Z Z bD)<|yV Z (gd g3 Z) (zD Z Z Z cT Z Z)<|yV Z (gd g3 Z) (zA Z Z bD)<|yV Z (gd g3 Z) (zD Z Z Z cT Z Z)<|zb h fun v3 a3 h=>yV Z (gd g3 Z) (yC Z Z Z (LC.pre (N1 a3) Z Z Z))<|yS Z (bv Z (aJ g3 Z) Z)<|mN Z<|zr ?_;cases h;exact aZ Z
   ·refine zo g3 h fun h=>yU Z (gd g3 Z) Z<|yU Z (gd g3 Z) Z<|yU Z (gd g3 Z) Z<|yU Z (gd g3 Z) Z<|yU Z (gd g3 Z) Z<|yS Z (aT Z (aJ g3 Z) Z)<|mN Z<|zr ?_;cases h;exact aZ Z
  ·refine zo g2 h fun h=>yU Z (gd g2 Z) Z<|yU Z (gd g2 Z) Z<|yU Z (gd g2 Z) Z<|yU Z (gd g2 Z) Z<|yU Z (gd g2 Z) Z<|yS Z (aT Z (aJ g2 Z) Z)<|zM Z<|aw Z<|aw Z<|aw Z<|aw Z<|aw Z<|yS Z (aT Z Z Z)<|mN Z<|zr ?_;cases h;exact aZ Z
 ·refine zo g1 h fun h=>yU Z (gd g1 Z) Z<|yU Z (gd g1 Z) Z<|yU Z (gd g1 Z) Z<|yU Z (gd g1 Z) Z<|yU Z (gd g1 Z) Z<|yS Z (aT Z (aJ g1 Z) Z)<|zM Z<|aw Z<|aw Z<|aw Z<|aw Z<|aw Z<|yS Z (aT Z Z Z)<|zM Z<|aw Z<|aw Z<|aw Z<|aw Z<|aw Z<|yS Z (aT Z Z Z)<|mN Z<|zr ?_;cases h;exact aZ Z
noncomputable def pd {α:Type}(a b:α):Bool:=@decide (a=b) (Classical.propDecidable _)
theorem bV {a b:α}(h:a=b):pd a b=true:=@decide_eq_true _ (Classical.propDecidable _) h
theorem bw {a b:α}(h:a≠b):pd a b=false:=@decide_eq_false _ (Classical.propDecidable _) h
theorem wG {a b:α}(i:Decidable (a=b)):@decide (a=b) i=pd a b:=by
 by_cases h:a=b
 ·rw[bV h];exact aP h
 ·rw[bw h];exact aR h
theorem tU (a:α):pd a a=true:=bV rfl
theorem rY {S α:Type}{step:S->Option (S⊕(S⊕Bool))}{a b:List α}(mk:Nat->S)(hl:a.length=b.length)(hs:∀j y z,j<a.length->y∈a->a[j]?=some y->b[j]?=some z->step (mk j)=bif pd y z then some (.inl (mk (j+1)))else some (.inr (.inr false)))
  (he:step (mk a.length)=some (.inr (.inl (mk a.length)))) (hn:a.length<4000000000000000000:=by omega):(iter step aY (mk 0)=some (.inl (mk a.length))/\a=b)\/(iter step aY (mk 0)=some (.inr false)/\a≠b):=by
 have h:=nb mk false (fun j=>pd a[j]? b[j]?) (fun j hj=>by
  obtain⟨y,hy,hm⟩:=az hj;obtain⟨z,hz,-⟩:=az (l:=b) (n:=j);rw[hs j y z hj hm hy hz,hy,hz];by_cases h:y=z
  ·rw[bV h,bV (by rw[h])]
  ·rw[bw h,bw (fun e=>h (Option.some.inj e))]) he hn
 rcases h with⟨e,h⟩|⟨e,j,hj,h⟩
 ·refine .inl ⟨e,List.ext_getElem? fun j=>?_⟩;by_cases hj:j<a.length
  ·have:=h j hj;by_cases e:a[j]?=b[j]?
   ·exact e
   ·rw[bw e]at this;cases this
  ·rw[List.getElem?_eq_none (by omega),List.getElem?_eq_none (by omega)]
 ·exact .inr ⟨e,fun e=>by subst e;rw[tU]at h;cases h⟩
theorem jm {S α:Type}{step:S->Option (S⊕(S⊕Bool))}{a b:List α}(mk:Nat->S)(hs:∀j y z,j<a.length->y∈a->a[j]?=some y->b[j]?=some z->step (mk j)=bif pd y z then some (.inl (mk (j+1)))else some (.inr (.inr false)))
  (he:step (mk a.length)=some (.inr (.inl (mk a.length)))) (hn:a.length<4000000000000000000:=by omega):(bif (a.length:Int) != (b.length:Int)then some false else(iter step aY (mk 0)).bind fun r=>Sum.elim (fun _=>some true) some r)=some (pd a b):=by
 by_cases hl:a.length=b.length
 ·rw[show((a.length:Int) != (b.length:Int))=false by simp[hl],cf];rcases rY mk hl hs he hn with⟨e,h⟩|⟨e,h⟩
  ·rw[e,ob,bV h];rfl
  ·rw[e,ob,bw h];rfl
 ·rw[show((a.length:Int) != (b.length:Int))=true by simp;omega,ct,bw fun h=>hl (by rw[h])]
theorem ed {α β:Type}{a b:α}{f:Option β}{x:β}(hf:a=b->f=some x){r:Option β}(hr:a≠b->r=some x):(bif pd a b then f else r)=some x:=by
 by_cases h:a=b
 ·rw[bV h];exact hf h
 ·rw[bw h];exact hr h
theorem n9 (a b:Int):(a==b)=pd a b:=by
 by_cases h:a=b
 ·rw[bV h];simp[h]
 ·rw[bw h];simp[h]
theorem sT (a b:Int):(a != b)= !pd a b:=by rw[<-n9];rfl
theorem Gq (a b:Bool):(a==b)=pd a b:=by
 by_cases h:a=b
 ·rw[bV h];simp[h]
 ·rw[bw h];simp[h]
theorem ks {β:Type}{c:Bool}{x y:β}:(bif !c then x else y)=bif c then y else x:=by cases c <;>rfl
theorem GQ (a b:Bk):((a.Slot==b.Slot)&&((a.From==b.From)&&((a.Parent.1==b.Parent.1)&&((a.Parent.2==b.Parent.2)&&((a.Salt==b.Salt)&&true)))))=pd a b:=(GP a b).trans (wG _)
theorem N9 (a b:Vt):((a.From==b.From)&&((a.Slot==b.Slot)&&((a.Head.1==b.Head.1)&&((a.Head.2==b.Head.2)&&true))))=pd a b:=(GR a b).trans (wG _)
theorem N8 (a b:Cu):((a.ID.1==b.ID.1)&&((a.ID.2==b.ID.2)&&((a.Slot==b.Slot)&&((a.Revoked==b.Revoked)&&true))))=pd a b:=(Qa a b).trans (wG _)
theorem AS {a b:Vw}(h1:a.B.length<=100000)(h2:a.V.length<=100000):JB a b=some (pd a b):=by
 rw[KK h1 h2];by_cases h:a=b
 ·rw[bV h,aP ⟨by rw[h],by rw[h]⟩]
 ·rw[bw h,aR];rintro⟨e1,e2⟩;cases a;cases b;simp only at e1 e2;exact h (by rw[e1,e2])
theorem xK (hl:a.length<=100000)(hs:∀o∈a,gr o):vj a b=some (pd a b):=by
 unfold vj
 exact jm (fun k=>iE.mk (k:Int)) (fun j y z hj hm hy hz=>by
  obtain⟨s1,s2⟩:=hs y hm;unfold pQ;simp only;rw[dO,au hy,au hz,ah (n:=j)];simp only[Option.bind_some];rw[AS (by omega) (by omega),ob,GQ,sT,sT];simp only[ks];obtain⟨y1,y2,y3,y4⟩:=y;obtain⟨z1,z2,z3,z4⟩:=z;simp only;by_cases h1:y4=z4
  ·by_cases h2:y1=z1
   ·by_cases h3:y2=z2
    ·by_cases h4:y3=z3
     ·rw[bV h1,ct,bV h2,ct,bV h3,ct,bV h4,ct,bV (by rw[h1,h2,h3,h4]),ct]
     ·rw[bV h1,ct,bV h2,ct,bV h3,ct,bw h4,cf,bw (fun e=>h4 (Of.mk.inj e).2.2.1),cf]
    ·rw[bV h1,ct,bV h2,ct,bw h3,cf,bw (fun e=>h3 (Of.mk.inj e).2.1),cf]
   ·rw[bV h1,ct,bw h2,cf,bw (fun e=>h2 (Of.mk.inj e).1),cf]
  ·rw[bw h1,cf,bw (fun e=>h1 (Of.mk.inj e).2.2.2),cf]) (by
  unfold pQ;simp only
  rw[ft])
theorem Fo (hl:a.length<=100000)(hs:∀o∈a,gr o):xC a b=some (pd a b):=by
 unfold xC;rw[xK hl hs,ob]
structure AK (n:Nd):Prop where
 v:n.V.B.length<=100000/\n.V.V.length<=100000
 i:n.In.B.length<=100000/\n.In.V.length<=100000
 o:n.O.length<=100000
 s:∀y∈n.O,gr y
theorem C4 {a b:Nd}(h1:a.V=b.V)(h2:a.In=b.In)(h3:a.O=b.O):(bif a.No==b.No then bif a.Tick==b.Tick then bif ((a.C.ID.1==b.C.ID.1)&&((a.C.ID.2==b.C.ID.2)&&((a.C.Slot==b.C.Slot)&&((a.C.Revoked==b.C.Revoked)&&true))))then some (a.Full==b.Full)else some false else some false else some false)=some (pd a b):=by
 rw[N8,n9,n9,Gq];obtain⟨a1,a2,a3,a4,a5,a6,a7⟩:=a;obtain⟨b1,b2,b3,b4,b5,b6,b7⟩:=b;simp only at h1 h2 h3⊢
 refine ed (fun e1=>ed (fun e2=>ed (fun e3=>?_) fun e=>by rw[bw fun h=>e (Nd.mk.inj h).2.2.2.2.2.1]) fun e=>by rw[bw fun h=>e (Nd.mk.inj h).2.1]) fun e=>by rw[bw fun h=>e (Nd.mk.inj h).1]
 by_cases e4:a7=b7
 ·rw[bV e4,bV (by rw[h1,h2,h3,e1,e2,e3,e4])]
 ·rw[bw e4,bw fun h=>e4 (Nd.mk.inj h).2.2.2.2.2.2]
theorem Fn {a b:Nd}(h:AK a):xB a b=some (pd a b):=by
 unfold xB;rw[AS h.v.1 h.v.2,ob,AS h.i.1 h.i.2,ob,xK h.o h.s,ob]
 exact ed (fun h1=>ed (fun h2=>ed (fun h3=>C4 h1 h2 h3) fun e=>by rw[bw fun h=>e (by rw[h])]) fun e=>by rw[bw fun h=>e (by rw[h])]) fun e=>by rw[bw fun h=>e (by rw[h])]
theorem Fv {a b:List Bk}(hl:a.length<=100000):xN a b=some (pd a b):=by
 unfold xN
 exact jm (fun k=>iF.mk (k:Int)) (fun j y z hj hm hy hz=>by
  unfold pS;simp only
  rw[dO,au hy,au hz,ob,ob,GQ,ah (n:=j),ks]) (by
  unfold pS;simp only
  rw[ft])
theorem Fw {a b:List Vt}(hl:a.length<=100000):xO a b=some (pd a b):=by
 unfold xO
 exact jm (fun k=>iG.mk (k:Int)) (fun j y z hj hm hy hz=>by
  unfold pT;simp only
  rw[dO,au hy,au hz,ob,ob,N9,ah (n:=j),ks]) (by
  unfold pT;simp only
  rw[ft])
theorem tj {a b:Vw}(h1:a.B.length<=100000)(h2:a.V.length<=100000):ti a b=some (pd a b):=by
 unfold ti;rw[Fv h1,ob,Fw h2,ob];obtain⟨a1,a2⟩:=a;obtain⟨b1,b2⟩:=b;simp only
 refine ed (fun e=>?_) fun e=>by rw[bw fun h=>e (Vw.mk.inj h).1]
 by_cases e2:a2=b2
 ·rw[bV e2,bV (by rw[e,e2])]
 ·rw[bw e2,bw fun h=>e2 (Vw.mk.inj h).2]
theorem Fq {a b:Of}(h:gr a):xE a b=some (pd a b):=by
 obtain⟨s1,s2⟩:=h;unfold xE;rw[tj (by omega) (by omega),ob,GQ,n9,n9];obtain⟨a1,a2,a3,a4⟩:=a;obtain⟨b1,b2,b3,b4⟩:=b;simp only
 refine ed (fun e1=>ed (fun e2=>ed (fun e3=>?_) fun e=>by rw[bw fun h=>e (Of.mk.inj h).2.2.1]) fun e=>by rw[bw fun h=>e (Of.mk.inj h).2.1]) fun e=>by rw[bw fun h=>e (Of.mk.inj h).1]
 by_cases e4:a4=b4
 ·rw[bV e4,bV (by rw[e1,e2,e3,e4])]
 ·rw[bw e4,bw fun h=>e4 (Of.mk.inj h).2.2.2]
theorem IH (hl:a.length<=100000)(hs:∀o∈a,gr o):Gd a b=some (pd a b):=by
 unfold Gd
 exact jm (fun k=>kq.mk (k:Int)) (fun j y z hj hm hy hz=>by
  unfold sQ;simp only
  rw[dO,au hy,au hz,ob,ob,Fq (hs y hm),ob,ah (n:=j),ks]) (by
  unfold sQ;simp only
  rw[ft])
theorem xz {a b:Nd}(h:AK a):vg a b=some (pd a b):=by
 unfold vg;rw[IH h.o h.s,ob,tj h.v.1 h.v.2,ob,tj h.i.1 h.i.2,ob]
 exact ed (fun h3=>ed (fun h1=>ed (fun h2=>C4 h1 h2 h3) fun e=>by rw[bw fun h=>e (by rw[h])]) fun e=>by rw[bw fun h=>e (by rw[h])]) fun e=>by rw[bw fun h=>e (by rw[h])]
theorem Es {n:Nd}{k:Int}(hk:k<=1000)(h:gq k n):AK n:=by
 obtain⟨⟨a1,a2⟩,⟨b1,b2⟩,d1,d2⟩:=h;exact⟨⟨by omega,by omega⟩,⟨by omega,by omega⟩,by omega,qY hk d2⟩
theorem uF {c:Cf}{n:Nd}{inp:Vw}{o:List Of}(hf:tH c n inp o):AK (g0 c n inp o).1/\(g0 c n inp o).2.length<=1/\∀y∈(g0 c n inp o).2,gr y:=by
 have hi:(iU c n inp).B.length<=500/\(iU c n inp).V.length<=500:=hf.ins;obtain⟨hr1,hr2⟩:=pn hf;have hw:=(uG hf).2;obtain⟨⟨a1,a2⟩,⟨b1,b2⟩,-,-,g1,g2⟩:=id hf
 have hro:∀y∈(fq c n o).1,gr y:=fun y hy=>by have:=hr2 y hy;exact⟨by omega,by omega⟩
 have m1:=lS c n.V (iU c n inp) (aS n);have z1:=ot c n.V (iU c n inp) (aS n);rcases hw with⟨-,e⟩|⟨-,-,e⟩|⟨-,-,e⟩|⟨-,-,cu,e⟩
 ·rw[e];exact⟨⟨⟨by simp only;omega,by simp only;omega⟩,⟨by simp only;omega,by simp only;omega⟩,by simp only;omega,fun y hy=>by have:=g2 y (List.mem_append_left _ hy);exact⟨by omega,by omega⟩⟩,by simp,fun y hy=>by cases hy⟩
 ·rw[e];refine⟨?_,Bi _ _ _,?_⟩
  ·unfold eg;split
   ·have m2:=lS c (aN c n.V (iU c n inp) (aS n)).1 ⟨[oC (dr c n inp o) c (aS n)],[]⟩ (aS n);exact⟨⟨by show(aN c (aN c n.V (iU c n inp) (aS n)).1 ⟨[oC (dr c n inp o) c (aS n)],[]⟩ (aS n)).1.B.length<=100000;omega,by show(aN c (aN c n.V (iU c n inp) (aS n)).1 ⟨[oC (dr c n inp o) c (aS n)],[]⟩ (aS n)).1.V.length<=100000;omega⟩,⟨by show(aN c n.V (iU c n inp) (aS n)).2.1.B.length<=100000;omega,by show(aN c n.V (iU c n inp) (aS n)).2.1.V.length<=100000;omega⟩,by simp only;omega,hro⟩
   ·exact⟨⟨by show n.V.B.length<=100000;omega,by show n.V.V.length<=100000;omega⟩,⟨by show(iU c n inp).B.length<=100000;omega,by show(iU c n inp).V.length<=100000;omega⟩,by simp only;omega,hro⟩
  ·unfold eg;split
   ·intro y hy;rw[List.mem_singleton.1 hy];exact⟨by show(aN c n.V (iU c n inp) (aS n)).1.B.length<=1000;omega,by show(aN c n.V (iU c n inp) (aS n)).1.V.length<=1000;omega⟩
   ·intro y hy;cases hy
 ·rw[e];refine⟨?_,by simp,fun y hy=>by cases hy⟩;have hz:=qU (x:=dr c n inp o) (c:=c) (slot:=aS n) a1 a2 hi.1 hi.2 8 (fq c n o).1 hr1 hr2;unfold fG;split
  ·have hj:=oh (bc (dr c n inp o) (fq c n o).1 c (aS n)).2.1 ⟨[],[⟨(dr c n inp o).No,aS n,gX c (bc (dr c n inp o) (fq c n o).1 c (aS n)).1.B (dF c (bc (dr c n inp o) (fq c n o).1 c (aS n)).1.V (i64.wrap (aS n-1)))⟩]⟩;simp only[List.length_nil,length_singleton]at hj;exact⟨⟨by simp only;omega,by simp only;omega⟩,⟨by simp only;omega,by simp only;omega⟩,by simp,fun y hy=>by cases hy⟩
  ·exact⟨⟨by simp only;omega,by simp only;omega⟩,⟨by simp only;omega,by simp only;omega⟩,by simp,fun y hy=>by cases hy⟩
 ·rw[e];refine⟨?_,by simp,fun y hy=>by cases hy⟩;exact⟨⟨by simp only;omega,by simp only;omega⟩,⟨by simp only;omega,by simp only;omega⟩,by simp,fun y hy=>by cases hy⟩
def wU (to at_:Int):Bool:=(bits .and .i64 (to.fdiv (2 ^ (min (Int.toNat at_) i64.bits))) 1)==0
def mG (bad:List Int)(al:Vw)(a:Ac):Vw:=⟨a.B.filter fun b=>decide (b.From∈bad\/b∈al.B),a.V.filter fun v=>decide (v.From∈bad\/v∈al.V)⟩
def dM (slot wh:Int)(bad:List Int)(al:Vw)(me:Bool)(at_:Int)(s:Vw×List Of)(a:Ac):Vw×List Of:=
 if wU a.To at_=true then s
 else if a.Offer=false then(c8 s.1 (mG bad al a),s.2)
 else if me=true then
  match (mG bad al a).B with
  |[]=>s
  |b::r=>(s.1,s.2++[⟨slot,wh,b,⟨r,(mG bad al a).V⟩⟩])
 else s
def uC (w:Wd):Int:=i64.wrap (w.Tick.tdiv 3)
def dY (w:Wd)(l:List Ac):List Ac:=l.filter fun a=>decide (a.Tick=w.Tick/\a.To>=0)
def d6 (w:Wd):Vw:=m9 w.N ⟨[],[]⟩
def fy (w:Wd):Int:=rf w.C (uC w)
def cE (w:Wd)(l:List Ac)(k:Nat):Vw×List Of:=(dY w l).foldl (dM (uC w) (fy w) w.Bad (d6 w) (decide (fy w∈w.Bad)) (k:Int)) (d6 w,w.O)
noncomputable def fx (w:Wd)(l:List Ac):List (Nd×List Of):=w.N.zipIdx.map fun p=>g0 w.C p.1 (cE w l p.2).1 (cE w l p.2).2
def zZ (w:Wd):Bool:=decide (¬cY w.C\/w.Tick<3\/w.Tick>=3145728)
noncomputable def HY (w:Wd)(l:List Ac):Wd:=if zZ w=true then w else⟨w.C,w.Bad,i64.wrap (w.Tick+1),(fx w l).map (·.1),(fx w l).flatMap (·.2)⟩
structure uZ (w:Wd):Prop where
 n:w.N.length<=10
 nodes:∀n∈w.N,gq 500 n
 o:w.O.length<=20
 offs:∀o∈w.O,mf 500 o.V
 bad:w.Bad.length<=100
structure AX (l:List Ac):Prop where
 len:l.length<=30
 each:∀a∈l,a.B.length<=8/\a.V.length<=8
theorem tv {v:Vw}(h1:v.B.length<=1000:=by omega)(h2:v.V.length<=1000:=by omega):p4 v=some v:=by
 unfold p4;rw[aC,ct,aC,ct]
theorem ya {l:List Of}(hl:l.length<=1000)(hs:∀o∈l,gr o):si l=some l:=by
 have e:=ax (step:=lg l) (n:=l.length) (fun k=>fV.mk (k:Int)) (fV.mk (l.length:Int)) (fun k hk=>by
  obtain⟨y,hy,hm⟩:=az hk;have:=hs y hm;unfold lg;simp only
  rw[dO,au hy,ob,tv this.1 this.2,ob,ob,ah (n:=k)]) (by
  unfold lg;simp only
  rw[ft]) (by omega)
 have e':iter (lg l) aY (fV.mk 0)=_:=e;unfold si;rw[aC,ct,e',ob]
theorem FM {w:Wd}(h:uZ w):sh w=some w:=by
 have hN:w.N.length<=10:=h.n
 have e:=ax (step:=lf w) (n:=w.N.length) (fun k=>fU.mk (k:Int)) (fU.mk (w.N.length:Int)) (fun k hk=>by
  obtain⟨y,hy,hm⟩:=az hk;obtain⟨⟨a1,a2⟩,⟨b1,b2⟩,c1,c2⟩:=h.nodes y hm;unfold lf;simp only
  rw[dO,au hy,ob,tv,ob,tv,ob,ya (by omega) (qY (by omega) c2),ob,ah (n:=k)]) (by
  unfold lf;simp only
  rw[ft]) (by omega)
 have e':iter (lf w) aY (fU.mk 0)=_:=e;unfold sh;have:=h.bad;have:=h.o;rw[aC,ct,aC,ct,ya (by omega) (qY (by omega) h.offs),ob,e',ob]
theorem Gi {w:Wd}(x:Bk)(hb:w.Bad.length<=100)(hl:al.B.length<=100000):yr x w al=some (decide (x.From∈w.Bad\/x∈al.B)):=by
 unfold yr DB;rw[pJ,ob,ob];by_cases h:x.From∈w.Bad
 ·rw[aP h,ct,aP (.inl h)]
 ·rw[aR h,cf,Ck hl,ob];by_cases h2:x∈al.B
  ·rw[aP h2,aP (.inr h2)]
  ·rw[aR h2,aR fun h3=>h3.elim h h2]
theorem Gj {w:Wd}(x:Vt)(hb:w.Bad.length<=100)(hl:al.V.length<=100000):yt x w al=some (decide (x.From∈w.Bad\/x∈al.V)):=by
 unfold yt DB;rw[pJ,ob,ob];by_cases h:x.From∈w.Bad
 ·rw[aP h,ct,aP (.inl h)]
 ·rw[aR h,cf,Cl hl,ob];by_cases h2:x∈al.V
  ·rw[aP h2,aP (.inr h2)]
  ·rw[aR h2,aR fun h3=>h3.elim h h2]
theorem DD {l:List Bk}{w:Wd}(hl:l.length<=100000)(hb:w.Bad.length<=100)(ha:al.B.length<=100000):tE l w al=some (l.filter fun x=>decide (x.From∈w.Bad\/x∈al.B)):=by
 have e:=ax (step:=jh l w al) (n:=l.length) (fun k=>dT.mk (k:Int) ((l.take k).filter fun x=>decide (x.From∈w.Bad\/x∈al.B))) (dT.mk (l.length:Int) (l.filter fun x=>decide (x.From∈w.Bad\/x∈al.B))) (fun k hk=>by
  obtain⟨y,hy,-⟩:=az hk;have hlen:=bW (p:=fun x:Bk=>decide (x.From∈w.Bad\/x∈al.B)) (l:=l) k;unfold jh;simp only;rw[dO,au hy,ob,Gi y hb ha,ob,bg hy,ah (n:=k)]
  cases decide (y.From∈w.Bad\/y∈al.B)with
  |true=>rw[ct,aC (by simp only[length_singleton];omega),ct,ct]
  |false=>rw[cf,cf,append_nil]) (by
  unfold jh;simp only
  rw[ft,take_length]) (by omega)
 have e':iter (jh l w al) aY (dT.mk 0 [])=_:=e;unfold tE;rw[e',ob]
theorem DE {l:List Vt}{w:Wd}(hl:l.length<=100000)(hb:w.Bad.length<=100)(ha:al.V.length<=100000):tF l w al=some (l.filter fun x=>decide (x.From∈w.Bad\/x∈al.V)):=by
 have e:=ax (step:=ji l w al) (n:=l.length) (fun k=>dU.mk (k:Int) ((l.take k).filter fun x=>decide (x.From∈w.Bad\/x∈al.V))) (dU.mk (l.length:Int) (l.filter fun x=>decide (x.From∈w.Bad\/x∈al.V))) (fun k hk=>by
  obtain⟨y,hy,-⟩:=az hk;have hlen:=bW (p:=fun x:Vt=>decide (x.From∈w.Bad\/x∈al.V)) (l:=l) k;unfold ji;simp only;rw[dO,au hy,ob,Gj y hb ha,ob,bg hy,ah (n:=k)]
  cases decide (y.From∈w.Bad\/y∈al.V)with
  |true=>rw[ct,aC (by simp only[length_singleton];omega),ct,ct]
  |false=>rw[cf,cf,append_nil]) (by
  unfold ji;simp only
  rw[ft,take_length]) (by omega)
 have e':iter (ji l w al) aY (dU.mk 0 [])=_:=e;unfold tF;rw[e',ob]
theorem Ge {a:Ac}{w:Wd}(h1:a.B.length<=1000)(h2:a.V.length<=1000)(hb:w.Bad.length<=100)(h3:al.B.length<=100000)(h4:al.V.length<=100000):yn a w al=some (mG w.Bad al a):=by
 unfold yn;rw[DD (by omega) hb h3,ob,DE (by omega) hb h4,ob];rfl
theorem DC {w:Wd}(hl:l.length<=100000):tD l w=some (dY w l):=by
 have e:=ax (step:=jg l w) (n:=l.length) (fun k=>dS.mk (k:Int) (dY w (l.take k))) (dS.mk (l.length:Int) (dY w l)) (fun k hk=>by
  obtain⟨y,hy,-⟩:=az hk;have hlen:=bW (p:=fun a:Ac=>decide (a.Tick=w.Tick/\a.To>=0)) (l:=l) k;unfold dY at hlen⊢;unfold jg IK;simp only;rw[dO,au hy,ob,bg hy,ah (n:=k)];by_cases h1:y.Tick=w.Tick
  ·rw[beq_iff_eq.2 h1,ct,ob];by_cases h2:y.To>=0
   ·rw[aP h2,ct,aP ⟨h1,h2⟩,ct,aC (by simp only[length_singleton];omega),ct]
   ·rw[aR h2,cf,aR fun h=>h2 h.2,cf,append_nil]
  ·rw[show(y.Tick==w.Tick)=false by simp[h1],cf,ob,cf,aR fun h=>h1 h.1,cf,append_nil]) (by
  unfold jg;simp only
  rw[ft,take_length]) (by omega)
 have e':iter (jg l w) aY (dS.mk 0 [])=_:=e;unfold tD;rw[e',ob]
theorem Cx {w:Wd}(h:uZ w):(d6 w).B.length<=10000/\(d6 w).V.length<=10000:=by
 have h1:=na (l:=w.N) (w:=⟨[],[]⟩) (k:=500) h.nodes;have h2:=h.n;unfold d6;simp only[List.length_nil]at h1;omega
theorem Gh {w:Wd}(h:uZ w)(hl:l.length<=100000):yq w l=some (d6 w,fy w,decide (fy w∈w.Bad),dY w l):=by
 unfold yq;rw[Dh (by have:=h.n;omega) h.nodes,ob,wo,ob,pJ (by have:=h.bad;omega),ob,DC hl,ob];rfl
theorem qk (bad:List Int)(al:Vw)(a:Ac):(mG bad al a).B.length<=a.B.length/\(mG bad al a).V.length<=a.V.length:=⟨List.length_filter_le _ _,List.length_filter_le _ _⟩
theorem w4 {slot wh:Int}{bad:List Int}{al:Vw}{me:Bool}{k:Int}:∀{l:List Ac} {s:Vw×List Of},(∀a∈l,a.B.length<=8/\a.V.length<=8)->(l.foldl (dM slot wh bad al me k) s).1.B.length<=s.1.B.length+8*l.length/\(l.foldl (dM slot wh bad al me k) s).1.V.length<=s.1.V.length+8*l.length/\(l.foldl (dM slot wh bad al me k) s).2.length<=s.2.length+l.length
 |[],s,_=>by simp
 | a ::r,s,h=>by
  rw[foldl_cons,length_cons];obtain⟨h1,h2⟩:=h a (mem_cons_self ..);have ih:=w4 (slot:=slot) (wh:=wh) (bad:=bad) (al:=al) (me:=me) (k:=k) (l:=r) (s:=dM slot wh bad al me k s a) fun b hb=>h b (mem_cons_of_mem _ hb);have hf:=qk bad al a;have hj:=oh s.1 (mG bad al a)
  have:(dM slot wh bad al me k s a).1.B.length<=s.1.B.length+8/\(dM slot wh bad al me k s a).1.V.length<=s.1.V.length+8/\(dM slot wh bad al me k s a).2.length<=s.2.length+1:=by
   unfold dM;split
   ·omega
   ·split
    ·simp only;omega
    ·split
     ·split
      ·omega
      ·simp only[List.length_append,length_singleton];omega
     ·omega
  omega
theorem KQ {w:Wd}(h:uZ w)(hl:AX l)(k:Nat):Ms w (d6 w) (fy w) (decide (fy w∈w.Bad)) (dY w l) (k:Int)=some (cE w l k):=by
 have hal:=Cx h;have hcl:(dY w l).length<=30:=Nat.le_trans (List.length_filter_le _ _) hl.len;have hce:∀a∈dY w l,a.B.length<=8/\a.V.length<=8:=fun a ha=>hl.each a (mem_filter.1 ha).1;unfold cE;generalize dY w l=cl at hcl hce;generalize hst:dM (uC w) (fy w) w.Bad (d6 w) (decide (fy w∈w.Bad)) (k:Int)=st;have ho:=h.o;have hb:=h.bad
 have e:=ax (step:=rp w (d6 w) (fy w) (decide (fy w∈w.Bad)) cl (k:Int)) (n:=cl.length) (fun j=>ig.mk (j:Int) ((cl.take j).foldl st (d6 w,w.O)).1 ((cl.take j).foldl st (d6 w,w.O)).2) (ig.mk (cl.length:Int) (cl.foldl st (d6 w,w.O)).1 (cl.foldl st (d6 w,w.O)).2) (fun j hj=>by
  obtain⟨y,hy,hm⟩:=az hj
  have et:cl.take (j+1)=cl.take j++[y]:=by rw[List.take_add_one,hy];rfl
  have hlen:=w4 (slot:=uC w) (wh:=fy w) (bad:=w.Bad) (al:=d6 w) (me:=decide (fy w∈w.Bad)) (k:=(k:Int)) (l:=cl.take j) (s:=(d6 w,w.O)) fun a ha=>hce a (List.mem_of_mem_take ha);rw[hst,List.length_take]at hlen;obtain⟨y1,y2⟩:=hce y hm;have hf:=qk w.Bad (d6 w) y;unfold rp;simp only;rw[et,List.foldl_append,foldl_cons,List.foldl_nil];generalize (cl.take j).foldl st (d6 w,w.O)=s at hlen⊢;simp only at hlen;rw[dO,au hy,ob,aP (show(0:Int)<=(k:Int) by omega),ct,ah (n:=j),<-hst];show(bif wU y.To (k:Int)then _ else _)=_;unfold dM
  cases hof:wU y.To (k:Int)with
  |true=>rw[ct,i1_ rfl]
  | false=>
   rw[cf,i0_ (by simp),Ge (by omega) (by omega) hb (by omega) (by omega),ob]
   cases hoff:y.Offer with
   |false=>rw[Bool.not_false,ct,i1_ rfl,oU,ob]
   | true=>
    rw[Bool.not_true,cf,i0_ (by simp)]
    cases hme:decide (fy w∈w.Bad)with
    |false=>rw[cf,ob,cf,i0_ (by simp)]
    | true=>
     rw[ct,ob,i1_ rfl]
     cases hB:(mG w.Bad (d6 w) y).B with
     |nil=>rfl
     |cons b r=>
      rw[aP (by simp),ct];show(bif wP (b::r) 1 (b::r).length then _ else none)=_;rw[show wP (b::r) 1 ((b::r).length:Int)=true from aP (by simp only[length_cons];omega),ct,aC (by simp only[length_singleton];omega),ct]
      rfl) (by
  unfold rp;simp only
  rw[ft,take_length]) (by omega)
 have e':iter (rp w (d6 w) (fy w) (decide (fy w∈w.Bad)) cl (k:Int)) aY (ig.mk 0 (d6 w) w.O)=_:=e;unfold Ms;rw[aC,ct,e',ob]
theorem lP {w:Wd}{k:Nat}{n:Nd}(h:w.N[k]?=some n):(fx w l)[k]?=some (g0 w.C n (cE w l k).1 (cE w l k).2):=by
 unfold fx;rw[List.getElem?_map,List.getElem?_zipIdx,h];simp
theorem r5 (w:Wd)(l:List Ac):(fx w l).length=w.N.length:=by
 unfold fx;rw[List.length_map,List.length_zipIdx]
theorem ui (w:Wd):((EC w.C).bind fun v2=>bif !v2 then some true else bif decide (w.Tick<3)then some true else some (decide (w.Tick>=3145728)))=some (zZ w):=by
 rw[l8,ob];unfold zZ;by_cases h1:cY w.C
 ·rw[aP h1,Bool.not_true,cf];by_cases h2:w.Tick<3
  ·rw[aP h2,ct,aP (.inr (.inl h2))]
  ·rw[aR h2,cf];by_cases h3:w.Tick>=3145728
   ·rw[aP h3,aP (.inr (.inr h3))]
   ·rw[aR h3,aR];rintro(h|h|h)
    ·exact h h1
    ·exact h2 h
    ·exact h3 h
 ·rw[aR h1,Bool.not_false,ct,aP (.inl h1)]
theorem FI {w:Wd}(h:uZ w)(hl:AX l)(hG:∀k n,w.N[k]?=some n->tH w.C n (cE w l k).1 (cE w l k).2)(hT:∀k n,w.N[k]?=some n->(g0 w.C n (cE w l k).1 (cE w l k).2).2.length<=1):tr w l=some (HY w l):=by
 have hN:=h.n;unfold tr HY;rw[ui,ob]
 cases hi:zZ w with
 |true=>rw[ct,FM h,ob,i1_ rfl]
 | false=>
  have hsl:=r5 w l
  have hfl:∀k,k<=w.N.length->(((fx w l).take k).flatMap (·.2)).length<=k:=by
   intro k
   induction k with
   |zero=>intro _;simp
   |succ k ih=>
    intro hk;obtain⟨n,hn⟩:∃n,w.N[k]?=some n:=⟨_,List.getElem?_eq_getElem (by omega)⟩;rw[List.take_add_one,lP hn,List.flatMap_append,List.length_append];have:=ih (by omega);have:=hT k n hn;simp only[Option.toList_some,List.flatMap_cons,List.flatMap_nil,append_nil];omega
  have e:=ax (step:=ld w (d6 w,fy w,decide (fy w∈w.Bad),dY w l)) (n:=w.N.length) (fun k=>fT.mk (k:Int) (((fx w l).take k).map (·.1)) (((fx w l).take k).flatMap (·.2))) (fT.mk (w.N.length:Int) ((fx w l).map (·.1)) ((fx w l).flatMap (·.2))) (fun k hk=>by
   obtain⟨y,hy,hm⟩:=az hk;have hk2:=hfl k (by omega);have hT1:=hT k y hy;have hw:=(uG (hG k y hy)).1;unfold ld;simp only;rw[dO,KQ h hl k,ob,au hy,ob,hw,ob,aC (by rw[List.length_map,List.length_take];simp only[length_singleton];omega),ct,aC,ct,ah (n:=k)];rw[List.take_add_one,lP hy,List.map_append,List.flatMap_append]
   simp) (by
   unfold ld;simp only
   rw[ft,List.take_of_length_le (by omega)]) (by omega)
  have e':iter (ld w (d6 w,fy w,decide (fy w∈w.Bad),dY w l)) aY (fT.mk 0 [] [])=_:=e;have:=h.bad;rw[cf,Gh h (by have:=hl.len;omega),ob,aC,ct,e',ob,i0_ (by simp)]
def Mu (o:Of):Prop:=o.V.B.length<=60/\o.V.V.length<=240
structure QD (c:Cf)(U:Vw)(n:Nd):Prop where
 may:ov c n.V
 nd:QE n.In
 few:n.O.length<=8
 all:EG (·∈U.B) (·∈U.V) n
 sz:∀o∈n.O,Mu o
structure Pa (U:Vw)(w:Wd):Prop where
 len:w.N.length<=6
 bad:w.Bad.length<=10
 nodes:∀n∈w.N,QD w.C U n
 told:w.O.length<=6
 offs:∀o∈w.O,sB (·∈U.B) (·∈U.V) o/\Mu o
def Mz (l:List Ac):Vw:=⟨l.flatMap Ac.B,l.flatMap Ac.V⟩
def Mt (a b:Vw):Prop:=(∀x∈a.B,x∈b.B)/\∀x∈a.V,x∈b.V
section
variable {P : Bk -> Prop} {Q : Vt -> Prop}
theorem Cw :∀{l:List Nd} {w:Vw},gS P Q w->(∀n∈l,EG P Q n)->gS P Q (m9 l w)
 |[],w,h,_=>h
 |n::r,w,h,hs=>by
  have hn:=hs n (mem_cons_self ..);exact Cw (l:=r) (w:=c8 w (fL n)) (ii h (ii hn.1 hn.2.1)) fun m hm=>hs m<|mem_cons_of_mem _ hm
theorem DL {bad:List Int}{a:Ac}(hal:gS P Q al)(hB:∀b∈a.B,b.From∈bad->P b)(hV:∀v∈a.V,v.From∈bad->Q v):gS P Q (mG bad al a):=by
 refine⟨fun b hb=>?_,fun v hv=>?_⟩
 ·obtain⟨h1,h2⟩:=mem_filter.1 hb;rcases of_decide_eq_true h2 with h|h
  ·exact hB b h1 h
  ·exact hal.1 b h
 ·obtain⟨h1,h2⟩:=mem_filter.1 hv;rcases of_decide_eq_true h2 with h|h
  ·exact hV v h1 h
  ·exact hal.2 v h
theorem HB {slot wh:Int}{bad:List Int}{al:Vw}{me:Bool}{k:Int}(hal:gS P Q al):∀{l:List Ac} {s:Vw×List Of},(∀a∈l,(∀b∈a.B,b.From∈bad->P b)/\∀v∈a.V,v.From∈bad->Q v)->gS P Q s.1->(∀o∈s.2,sB P Q o)->gS P Q (l.foldl (dM slot wh bad al me k) s).1/\∀o∈(l.foldl (dM slot wh bad al me k) s).2,sB P Q o
 |[],s,_,h1,h2=>⟨h1,h2⟩
 | a ::r,s,h,h1,h2=>by
  rw[foldl_cons];have hf:=DL hal (h a (mem_cons_self ..)).1 (h a (mem_cons_self ..)).2
  have :gS P Q (dM slot wh bad al me k s a).1/\∀o∈(dM slot wh bad al me k s a).2,sB P Q o:=by
   unfold dM;split
   ·exact⟨h1,h2⟩
   ·split
    ·exact⟨ii h1 hf,h2⟩
    ·split
     ·split
      ·exact⟨h1,h2⟩
      ·rename_i b q hB;refine⟨h1,fun o ho=>?_⟩;rcases List.mem_append.1 ho with ho|ho
       ·exact h2 o ho
       ·rw[List.mem_singleton.1 ho];exact⟨hf.1 b (by rw[hB];exact mem_cons_self ..),fun x hx=>hf.1 x (by rw[hB];exact mem_cons_of_mem _ hx),hf.2⟩
     ·exact⟨h1,h2⟩
  exact HB hal (fun b hb=>h b (mem_cons_of_mem _ hb)) this.1 this.2
theorem Kl {slot wh:Int}{bad:List Int}{al:Vw}{me:Bool}{k:Int}:∀{l:List Ac} {s:Vw×List Of},(∀a∈l,a.B.length<=8/\a.V.length<=8)->(∀o∈s.2,Mu o)->∀o∈(l.foldl (dM slot wh bad al me k) s).2,Mu o
 |[],s,_,h=>h
 | a ::r,s,hl,h=>by
  rw[foldl_cons];refine Kl (fun b hb=>hl b (mem_cons_of_mem _ hb)) ?_;have hf:=qk bad al a;have ha:=hl a (mem_cons_self ..);unfold dM;split
  ·exact h
  ·split
   ·exact h
   ·split
    ·split
     ·exact h
     ·rename_i b q hB;intro o ho;rcases List.mem_append.1 ho with ho|ho
      ·exact h o ho
      ·rw[List.mem_singleton.1 ho];have:=congrArg List.length hB;rw[length_cons]at this;exact⟨show q.length<=60 by omega,show(mG bad al a).V.length<=240 by omega⟩
    ·exact h
end
def Qp (U:Vw):Prop:=U.B.length<=400/\U.V.length<=400
theorem Jw {U:Vw}{w:Wd}(hw:Pa U w)(hU:Qp U):uZ w:=by
 refine⟨by have:=hw.len;omega,fun n hn=>?_,by have:=hw.told;omega,fun o ho=>?_,by have:=hw.bad;omega⟩
 ·have h:=hw.nodes n hn;have h1:=h.may.lenB;have h2:=h.may.lenV;have h3:=rP h.nd.1 h.all.2.1.1;have h4:=rP h.nd.2 h.all.2.1.2;have h5:=h.few;obtain⟨u1,u2⟩:=hU;exact⟨⟨by omega,by omega⟩,⟨by omega,by omega⟩,by omega,fun o ho=>by have:=h.sz o ho;exact⟨by have:=this.1;omega,by have:=this.2;omega⟩⟩
 ·have:=(hw.offs o ho).2;exact⟨by have:=this.1;omega,by have:=this.2;omega⟩
theorem GL {P:Bk->Prop}{Q:Vt->Prop}{w:Wd}(hn:∀n∈w.N,EG P Q n)(ho:∀o∈w.O,sB P Q o)(ha:∀a∈l,(∀b∈a.B,b.From∈w.Bad->P b)/\∀v∈a.V,v.From∈w.Bad->Q v)(k:Nat) :
  gS P Q (cE w l k).1/\∀o∈(cE w l k).2,sB P Q o:=by
 have hal:gS P Q (d6 w):=Cw tJ hn;exact HB hal (fun a h=>ha a (mem_filter.1 h).1) hal ho
noncomputable def Qe (w:Wd)(l:List Ac):List Bk:=w.N.zipIdx.map fun p=>oC (dr w.C p.1 (cE w l p.2).1 (cE w l p.2).2) w.C (aS p.1)
noncomputable def Qf (w:Wd)(l:List Ac):List Vt:=w.N.zipIdx.map fun p=>OC w.C p.1 (cE w l p.2).1 (cE w l p.2).2
noncomputable def Oq (U:Vw)(w:Wd)(l:List Ac):Vw:=⟨U.B++Qe w l,U.V++Qf w l⟩
structure Pk (w:Wd):Prop where
 may:cY w.C
 lo:3<=w.Tick
 hi:w.Tick<=100000
 at_:∀n∈w.N,n.Tick=w.Tick
noncomputable def Av (w:Wd)(l:List Ac):Nat->Wd
 |0=>w
 |n+1=>HY (Av w l n) l
noncomputable def Hx (U:Vw)(w:Wd)(l:List Ac):Nat->Vw
 |0=>U
 |n+1=>Oq (Hx U w l n) (Av w l n) l
structure QU (U:Vw)(w:Wd)(l:List Ac)(k:Nat):Prop where
 ok:Pa (Hx U w l k) (Av w l k)
 B:(Hx U w l k).B.length<=U.B.length+6*k
 V:(Hx U w l k).V.length<=U.V.length+6*k
 sub:Mt U (Hx U w l k)
 time:Pk (Av w l k)
 tick:(Av w l k).Tick=w.Tick+k
 conf:(Av w l k).C=w.C
 bad:(Av w l k).Bad=w.Bad
 nos:(Av w l k).N.map Nd.No=w.N.map Nd.No
end Go.Mg
