/- What comes at a tick: closures. A world behind a tick. A world that begins, and goes on. Are two worlds the same? The example of nodes. When two nodes, two worlds are the same. What arguments are: offers, nodes. NodeSteps. NodeSteps, plain. Conditions: numbers are of their kinds. How the program's own line of words reads, letter by letter; facts of the whole program that each row asks for. Conditions: none. -/
import Derived.Test.YtfbigoipfbiliaaGreatX3
import Derived.Test.YtfbigoipfbiliaaGreatX11
import Derived.Test.YtfbigoipfbiliaaGreatX10
import Derived.Test.YtfbigoipfbiliaaGreatX7
import Derived.Test.YtfbigoipfbiliaaGreatX6
import Derived.Test.YtfbigoipfbiliaaGreatX9
import Derived.Test.YtfbigoipfbiliaaGreatRows
import Derived.ProofKit
import Derived.OpenShut
set_option maxRecDepth 100000
set_option linter.unusedSimpArgs false
set_option linter.unusedVariables false
namespace Go.Mg
open Go.Proofs
structure HV where
 t10:Int
 out:List Ac
structure HW where
 t10:Int
 out:List Bk
structure HX where
 t10:Int
 out:List Vt
open Go.Proofs
structure K0 where
 t20:Int
 v_in:Vw
 offers:List Of
structure Ia where
 t43:Int
 o9:List Nd
 o10:List Of
open Go.Proofs
structure H8 where
 t19:Int
 o4:List Nd
structure Ib where
 t11:Int
 w:Wd
open Go.Proofs
structure gn where
 i:Int
def nE (a:List Of)(b:List Of)(x1:gn):Option (gn⊕(gn⊕Bool)):=bif decide (x1.i<(a.length:Int))then (ix a x1.i).bind fun y1=>(ix b x1.i).bind fun y2=>(EJ y1.V y2.V).bind fun v2=>bif !v2 then some (.inr (.inr false))else (ix a x1.i).bind fun y3=>(ix b x1.i).bind fun y4=>bif y3.Slot != y4.Slot then some (.inr (.inr false))else (ix a x1.i).bind fun y5=>(ix b x1.i).bind fun y6=>bif y5.From != y6.From then some (.inr (.inr false))else (ix a x1.i).bind fun y7=>(ix b x1.i).bind fun y8=>bif !((y7.B.Slot==y8.B.Slot)&&((y7.B.From==y8.B.From)&&((y7.B.Parent.1==y8.B.Parent.1)&&((y7.B.Parent.2==y8.B.Parent.2)&&((y7.B.Salt==y8.B.Salt)&&true)))))then some (.inr (.inr false))else some (.inl (gn.mk (IntKind.i64.wrap (x1.i+1))))else some (.inr (.inl (gn.mk x1.i)))
def sG (a:List Of)(b:List Of):Option Bool:=bif (a.length:Int) != (b.length:Int)then some false else (iter (nE a b) bg (gn.mk 0)).bind fun b_v1=>Sum.elim (fun _=>some true) some b_v1
theorem FM {a:List Of}{b:List Of}{r_:Bool}(hr:sG a b=some r_):ar Tryz.prog 52 [.slice 9 (a.map dC),.slice 9 (b.map dC)] [.bool r_]:=by
 refine zh Tryz.func52 Z Z Z Z ?_;unfold sG at hr;refine zQ<|zR<|zM Z<|zN<|zT<|zQ<|zQ<|zR<|zM Z<|yS Z (cD Z Z (by kernel_rfl))<|zM Z<|yS Z (cD Z Z (by kernel_rfl))<|yS Z (ap Z Z Z Z)<|zN<|zT ?_;refine zX Z (fun g1=>?_)<|fun g1=>?_
 ·refine zi g1 hr fun hr=>zQ<|zR<|zM Z<|zN<|zT<|zr<|af ?_;obtain rfl:=zJ hr;exact zf (.one (.tmp Z)) zv
 ·refine zo g1 hr fun hr=>zk<|zT<|zQ<|zQ<|zR<|zM Z<|zN<|zT ?_;obtain⟨b_v1,hb_v1,ho_v1⟩:=zB hr;clear hr;refine LW.tailB (b:=b_v1) (E:=fun v1=>[(4,(bQ false))]) (O:=fun v1=>[]) ?_<|fun v1 e_v1 env_v1 H_v1 hw_v1=>?_
  ·refine LW.block ?_;refine LW.iterB (E:=fun x1:gn=>[(0,(kO a)),(1,(kO b)),(4,(bQ false)),(5,(iQ x1.i))]) (O:=fun x1=>[]) hb_v1 (zW 0 ⟨rfl,rfl,rfl,rfl,trivial⟩ Z Z Z Z)<|fun x1 z_x1 hr hb_x1=>?_;unfold nE at hr;refine zQ<|zQ<|zR<|zM Z<|zM Z<|yS Z (cD Z Z (by kernel_rfl))<|yS Z (ap Z Z Z Z)<|zN<|zT ?_;refine zX Z (fun g2=>?_)<|fun g2=>?_
   ·refine zi g2 hr fun hr=>zk<|zT<|zQ<|zl<|zQ<|LW.draw2 (by kernel_rfl) (by kernel_rfl)<|zH Z<|zH Z<|zb hr fun y1 h_y1 hr=>yE Z (zx Z Z Z bL h_y1 Z)<|yE Z (aa.fieldAddrC Z Z fG Z)<|yE Z (ci Z Z Z aI Z Z)<|zH Z<|zH Z<|zb hr fun y2 h_y2 hr=>yE Z (zx Z Z Z bL h_y2 Z)<|yE Z (aa.fieldAddrC Z Z fG Z)<|yE Z (ci Z Z Z aI Z Z)<|zb hr fun v2 h_v2 hr=>yE Z (zC Z Z Z (by kernel_rfl) (zp (KU h_v2) (.cons zv (.cons zv .nil))))<|zH Z<|LO.nil<|zT ?_;refine zQ<|LW.draw2 (by kernel_rfl) (by kernel_rfl)<|zH Z<|yE Z (aa.not Z Z)<|zH Z ?_;refine LO.cases 31 Z (fun(g3:(!v2)=true)=>?_) (fun(g3:(!v2)=false)=>?_)
    ·refine zi g3 hr fun hr=>LO.sk Z Z Z (gd g3 Z) Z Z<|LO.sk Z Z Z (gd g3 Z) Z Z<|LO.sk Z Z Z (gd g3 Z) Z Z<|LO.sk Z Z Z (gd g3 Z) Z Z<|LO.sk Z Z Z (gd g3 Z) Z Z<|LO.sk Z Z Z (gd g3 Z) Z Z<|LO.sk Z Z Z (gd g3 Z) Z Z<|LO.sk Z Z Z (gd g3 Z) Z Z<|LO.sk Z Z Z (gd g3 Z) Z Z<|LO.sk Z Z Z (gd g3 Z) Z Z<|LO.sk Z Z Z (gd g3 Z) Z Z<|yE Z (bx Z (aG g3 Z) Z)<|zH Z<|LO.sk Z Z Z Z Z Z<|LO.sk Z Z Z Z Z Z<|LO.sk Z Z Z Z Z Z<|LO.sk Z Z Z Z Z Z<|LO.sk Z Z Z Z Z Z<|LO.sk Z Z Z Z Z Z<|LO.sk Z Z Z Z Z Z<|LO.sk Z Z Z Z Z Z<|LO.sk Z Z Z Z Z Z<|LO.sk Z Z Z Z Z Z ?_;refine LO.sk Z Z Z Z Z Z<|yE Z (bx Z Z Z)<|zH Z<|LO.sk Z Z Z Z Z Z<|LO.sk Z Z Z Z Z Z<|LO.sk Z Z Z Z Z Z<|LO.sk Z Z Z Z Z Z<|LO.sk Z Z Z Z Z Z<|LO.sk Z Z Z Z Z Z<|LO.sk Z Z Z Z Z Z<|LO.sk Z Z Z Z Z Z<|LO.sk Z Z Z Z Z Z<|LO.sk Z Z Z Z Z Z<|LO.sk Z Z Z Z Z Z<|yE Z (bx Z Z Z)<|LO.nil<|zT<|LW.condT Z<|zQ<|zR<|zM Z<|zN<|zT<|zr ?_;refine aq<|af<|af<|aq<|af<|af ?_;obtain rfl:=zJ hr;have hr:=congrArg some (hb_x1 _ rfl);obtain rfl:=zJ hr;have hr:=bV ho_v1;obtain rfl:=zJ hr;exact zf (.one (.tmp Z)) zv
    ·refine zo g3 hr fun hr=>LO.gd Z Z Z (gd g3 Z) Z (zm Z Z)<|LO.gd Z Z Z (gd g3 Z) Z (zm Z Z)<|zb hr fun y3 h_y3 hr=>LO.gd Z Z Z (gd g3 Z) Z (zx Z Z Z bL h_y3 Z)<|LO.gd Z Z Z (gd g3 Z) Z (aa.fieldAddrC Z Z jK Z)<|LO.gd Z Z Z (gd g3 Z) Z (ci Z Z Z aW Z Z)<|LO.gd Z Z Z (gd g3 Z) Z (zm Z Z)<|LO.gd Z Z Z (gd g3 Z) Z (zm Z Z)<|zb hr fun y4 h_y4 hr=>LO.gd Z Z Z (gd g3 Z) Z (zx Z Z Z bL h_y4 Z)<|LO.gd Z Z Z (gd g3 Z) Z (aa.fieldAddrC Z Z jK Z)<|LO.gd Z Z Z (gd g3 Z) Z (ci Z Z Z aW Z Z)<|LO.gd Z Z Z (gd g3 Z) Z (ap Z Z Z Z)<|yE Z (aO Z (aG g3 Z) Z)<|zH Z ?_;refine LO.cases 44 Z (fun(g4:(y3.Slot != y4.Slot)=true)=>?_) (fun(g4:(y3.Slot != y4.Slot)=false)=>?_)
     ·refine zi g4 hr fun hr=>LO.sk Z Z Z (gd g4 Z) Z Z<|LO.sk Z Z Z (gd g4 Z) Z Z<|LO.sk Z Z Z (gd g4 Z) Z Z<|LO.sk Z Z Z (gd g4 Z) Z Z<|LO.sk Z Z Z (gd g4 Z) Z Z<|LO.sk Z Z Z (gd g4 Z) Z Z<|LO.sk Z Z Z (gd g4 Z) Z Z<|LO.sk Z Z Z (gd g4 Z) Z Z<|LO.sk Z Z Z (gd g4 Z) Z Z<|LO.sk Z Z Z (gd g4 Z) Z Z<|LO.sk Z Z Z (gd g4 Z) Z Z<|yE Z (bx Z (aG g4 Z) Z)<|zH Z<|LO.sk Z Z Z Z Z Z<|LO.sk Z Z Z Z Z Z<|LO.sk Z Z Z Z Z Z<|LO.sk Z Z Z Z Z Z<|LO.sk Z Z Z Z Z Z<|LO.sk Z Z Z Z Z Z<|LO.sk Z Z Z Z Z Z<|LO.sk Z Z Z Z Z Z<|LO.sk Z Z Z Z Z Z<|LO.sk Z Z Z Z Z Z ?_;refine LO.sk Z Z Z Z Z Z<|yE Z (bx Z Z Z)<|LO.nil<|zT<|LW.condT Z<|zQ<|zR<|zM Z<|zN<|zT<|zr<|aq<|af<|af<|aq<|af<|af ?_;obtain rfl:=zJ hr;have hr:=congrArg some (hb_x1 _ rfl);obtain rfl:=zJ hr;have hr:=bV ho_v1;obtain rfl:=zJ hr;exact zf (.one (.tmp Z)) zv
     ·refine zo g4 hr fun hr=>LO.gd Z Z Z (gd g4 Z) Z (zm Z Z)<|LO.gd Z Z Z (gd g4 Z) Z (zm Z Z)<|zb hr fun y5 h_y5 hr=>LO.gd Z Z Z (gd g4 Z) Z (zx Z Z Z bL h_y5 Z)<|LO.gd Z Z Z (gd g4 Z) Z (aa.fieldAddrC Z Z jL Z)<|LO.gd Z Z Z (gd g4 Z) Z (ci Z Z Z aW Z Z)<|LO.gd Z Z Z (gd g4 Z) Z (zm Z Z)<|LO.gd Z Z Z (gd g4 Z) Z (zm Z Z)<|zb hr fun y6 h_y6 hr=>LO.gd Z Z Z (gd g4 Z) Z (zx Z Z Z bL h_y6 Z)<|LO.gd Z Z Z (gd g4 Z) Z (aa.fieldAddrC Z Z jL Z)<|LO.gd Z Z Z (gd g4 Z) Z (ci Z Z Z aW Z Z)<|LO.gd Z Z Z (gd g4 Z) Z (ap Z Z Z Z)<|yE Z (aO Z (aG g4 Z) Z)<|zH Z ?_;refine LO.cases 57 Z (fun(g5:(y5.From != y6.From)=true)=>?_) (fun(g5:(y5.From != y6.From)=false)=>?_)
      ·refine zi g5 hr fun hr=>LO.sk Z Z Z (gd g5 Z) Z Z<|LO.sk Z Z Z (gd g5 Z) Z Z<|LO.sk Z Z Z (gd g5 Z) Z Z<|LO.sk Z Z Z (gd g5 Z) Z Z<|LO.sk Z Z Z (gd g5 Z) Z Z<|LO.sk Z Z Z (gd g5 Z) Z Z<|LO.sk Z Z Z (gd g5 Z) Z Z<|LO.sk Z Z Z (gd g5 Z) Z Z<|LO.sk Z Z Z (gd g5 Z) Z Z<|LO.sk Z Z Z (gd g5 Z) Z Z<|LO.sk Z Z Z (gd g5 Z) Z Z<|yE Z (bx Z (aG g5 Z) Z)<|LO.nil<|zT<|LW.condT Z<|zQ<|zR<|zM Z<|zN<|zT<|zr<|aq<|af ?_;refine af<|aq<|af<|af ?_;obtain rfl:=zJ hr;have hr:=congrArg some (hb_x1 _ rfl);obtain rfl:=zJ hr;have hr:=bV ho_v1;obtain rfl:=zJ hr;exact zf (.one (.tmp Z)) zv
      ·refine zo g5 hr fun hr=>LO.gd Z Z Z (gd g5 Z) Z (zm Z Z)<|LO.gd Z Z Z (gd g5 Z) Z (zm Z Z)<|zb hr fun y7 h_y7 hr=>LO.gd Z Z Z (gd g5 Z) Z (zx Z Z Z bL h_y7 Z)<|LO.gd Z Z Z (gd g5 Z) Z (aa.fieldAddrC Z Z il Z)<|LO.gd Z Z Z (gd g5 Z) Z (ci Z Z Z bW Z Z)<|LO.gd Z Z Z (gd g5 Z) Z (zm Z Z)<|LO.gd Z Z Z (gd g5 Z) Z (zm Z Z)<|zb hr fun y8 h_y8 hr=>LO.gd Z Z Z (gd g5 Z) Z (zx Z Z Z bL h_y8 Z)<|LO.gd Z Z Z (gd g5 Z) Z (aa.fieldAddrC Z Z il Z)<|LO.gd Z Z Z (gd g5 Z) Z (ci Z Z Z bW Z Z)<|LO.gd Z Z Z (gd g5 Z) Z (aa.neqAgg Z Z Z Z Z rx)<|yE Z (aO Z (aG g5 Z) Z)<|LO.nil<|zT ?_;refine zX Z (fun g6=>?_)<|fun g6=>?_
       ·refine zi g6 hr fun hr=>zQ<|zR<|zM Z<|zN<|zT<|zr<|aq<|af<|af<|aq<|af<|af ?_;obtain rfl:=zJ hr;have hr:=congrArg some (hb_x1 _ rfl);obtain rfl:=zJ hr;have hr:=bV ho_v1;obtain rfl:=zJ hr;exact zf (.one (.tmp Z)) zv
       ·refine zo g6 hr fun hr=>zk<|ai<|zT<|zR<|zM Z<|yS Z (ap Z Z Z Z)<|zM Z<|zN<|zT ?_;obtain rfl:=zJ hr;exact⟨_,rfl,zW 0 ⟨rfl,rfl,rfl,rfl,trivial⟩ Z Z Z rfl⟩
   ·refine zo g2 hr fun hr=>zq<|aj<|aj<|zy<|zT ?_;obtain rfl:=zJ hr;have hr:=congrArg some (hb_x1 _ rfl);obtain rfl:=zJ hr;exact⟨_,rfl,zW 0 ⟨rfl,trivial⟩ Z Z Z rfl⟩
  ·obtain rfl:=e_v1;have hr:=cU ho_v1;clear hb_v1;refine zT<|LW.weak hw_v1<|zQ<|zR<|zM Z<|zN<|zT<|zr ?_;obtain rfl:=zJ hr;exact zf (.one (.tmp Z)) zv
def qH (a:Nd)(b:Nd):Option Bool:=(EJ a.V b.V).bind fun v1=>(EJ a.In b.In).bind fun v2=>(sG a.O b.O).bind fun v3=>bif v1 then bif v2 then bif v3 then bif a.No==b.No then bif a.Tick==b.Tick then bif ((a.C.ID.1==b.C.ID.1)&&((a.C.ID.2==b.C.ID.2)&&((a.C.Slot==b.C.Slot)&&((a.C.Revoked==b.C.Revoked)&&true))))then some (a.Full==b.Full)else some false else some false else some false else some false else some false else some false
theorem CT {a:Nd}{b:Nd}{r_:Bool}(hr:qH a b=some r_):ar Tryz.prog 12 [nr a,nr b] [.bool r_]:=by
 refine zh Tryz.func12 Z Z Z Z ?_;unfold qH at hr;refine zQ<|zR<|yS Z (bw Z Z Z Z Z)<|yS Z (bw Z Z Z Z Z)<|zM Z<|zN<|zT<|zQ<|zR<|yS Z (zA Z Z aZ)<|yS Z (zD Z Z Z aI Z Z)<|yS Z (zA Z Z aZ)<|yS Z (zD Z Z Z aI Z Z)<|zb hr fun v1 h_v1 hr=>yS Z (zC Z Z Z (by kernel_rfl) (zp (KU h_v1) (.cons zv (.cons zv .nil))))<|zM Z<|zN<|zT<|zQ<|zR<|yS Z (zA Z Z be)<|yS Z (zD Z Z Z aI Z Z)<|yS Z (zA Z Z be)<|yS Z (zD Z Z Z aI Z Z) ?_;refine zb hr fun v2 h_v2 hr=>yS Z (zC Z Z Z (by kernel_rfl) (zp (KU h_v2) (.cons zv (.cons zv .nil))))<|zM Z<|zN<|zT<|zQ<|zR<|yS Z (zA Z Z bp)<|yS Z (zD Z Z Z bY Z Z)<|yS Z (zA Z Z bp)<|yS Z (zD Z Z Z bY Z Z)<|zb hr fun v3 h_v3 hr=>yS Z (zC Z Z Z (by kernel_rfl) (zp (FM h_v3) (.cons zv (.cons zv .nil))))<|zM Z<|zN<|zT<|zQ<|zR<|zM Z<|zM Z ?_;refine zc 24 Z (fun g1=>?_)<|fun g1=>?_
 ·refine zi g1 hr fun hr=>yV Z (gd g1 Z) (zm Z Z)<|yS Z (bx Z (aG g1 Z) Z)<|zM Z ?_;refine zc 27 Z (fun g2=>?_)<|fun g2=>?_
  ·refine zi g2 hr fun hr=>yV Z (gd g2 Z) (zm Z Z)<|yS Z (bx Z (aG g2 Z) Z)<|zM Z ?_;refine zc 30 Z (fun g3=>?_)<|fun g3=>?_
   ·refine zi g3 hr fun hr=>yV Z (gd g3 Z) (zA Z Z cI)<|yV Z (gd g3 Z) (zD Z Z Z aW Z Z)<|yV Z (gd g3 Z) (zA Z Z cI)<|yV Z (gd g3 Z) (zD Z Z Z aW Z Z)<|yV Z (gd g3 Z) (ap Z Z Z Z)<|yS Z (bx Z (aG g3 Z) Z)<|zM Z ?_;refine zc 37 Z (fun g4=>?_)<|fun g4=>?_
    ·refine zi g4 hr fun hr=>yV Z (gd g4 Z) (zA Z Z bB)<|yV Z (gd g4 Z) (zD Z Z Z aW Z Z)<|yV Z (gd g4 Z) (zA Z Z bB)<|yV Z (gd g4 Z) (zD Z Z Z aW Z Z)<|yV Z (gd g4 Z) (ap Z Z Z Z)<|yS Z (bx Z (aG g4 Z) Z)<|zM Z ?_;refine zc 44 Z (fun g5=>?_)<|fun g5=>?_
     ·refine zi g5 hr fun hr=>yV Z (gd g5 Z) (zA Z Z eR)<|yV Z (gd g5 Z) (zD Z Z Z fl Z Z)<|yV Z (gd g5 Z) (zA Z Z eR)<|yV Z (gd g5 Z) (zD Z Z Z fl Z Z)<|yV Z (gd g5 Z) (aa.eqlAgg Z Z Z Z Z F0)<|yS Z (bx Z (aG g5 Z) Z)<|zM Z ?_;refine zc 51 Z (fun g6=>?_)<|fun g6=>?_
      ·refine zi g6 hr fun hr=>yV Z (gd g6 Z) (zA Z Z dR)<|yV Z (gd g6 Z) (zD Z Z Z uf Z Z)<|yV Z (gd g6 Z) (zA Z Z dR)<|yV Z (gd g6 Z) (zD Z Z Z uf Z Z)<|yV Z (gd g6 Z) (aa.eqlBool Z Z Z Tryz.underlying4)<|yS Z (bx Z (aG g6 Z) Z)<|zM Z<|zN<|zT<|zr ?_;obtain rfl:=zJ hr;exact zf (.one (.tmp Z)) zv
      ·refine zo g6 hr fun hr=>yU Z (gd g6 Z) Z<|yU Z (gd g6 Z) Z<|yU Z (gd g6 Z) Z<|yU Z (gd g6 Z) Z<|yU Z (gd g6 Z) Z<|yS Z (aO Z (aG g6 Z) Z)<|zM Z<|zN<|zT<|zr ?_;obtain rfl:=zJ hr;exact zf (.one (.tmp Z)) zv
     ·refine zo g5 hr fun hr=>yU Z (gd g5 Z) Z<|yU Z (gd g5 Z) Z<|yU Z (gd g5 Z) Z<|yU Z (gd g5 Z) Z<|yU Z (gd g5 Z) Z<|yS Z (aO Z (aG g5 Z) Z)<|zM Z<|yU Z Z Z<|yU Z Z Z<|yU Z Z Z<|yU Z Z Z<|yU Z Z Z<|yS Z (aO Z Z Z)<|zM Z<|zN<|zT<|zr ?_;obtain rfl:=zJ hr;exact zf (.one (.tmp Z)) zv
    ·refine zo g4 hr fun hr=>yU Z (gd g4 Z) Z<|yU Z (gd g4 Z) Z<|yU Z (gd g4 Z) Z<|yU Z (gd g4 Z) Z<|yU Z (gd g4 Z) Z<|yS Z (aO Z (aG g4 Z) Z)<|zM Z<|yU Z Z Z<|yU Z Z Z<|yU Z Z Z<|yU Z Z Z<|yU Z Z Z<|yS Z (aO Z Z Z)<|zM Z<|yU Z Z Z<|yU Z Z Z<|yU Z Z Z<|yU Z Z Z<|yU Z Z Z<|yS Z (aO Z Z Z)<|zM Z<|zN<|zT ?_;refine LW.ret ?_;obtain rfl:=zJ hr;exact zf (.one (.tmp Z)) zv
   ·refine zo g3 hr fun hr=>yU Z (gd g3 Z) Z<|yU Z (gd g3 Z) Z<|yU Z (gd g3 Z) Z<|yU Z (gd g3 Z) Z<|yU Z (gd g3 Z) Z<|yS Z (aO Z (aG g3 Z) Z)<|zM Z<|yU Z Z Z<|yU Z Z Z<|yU Z Z Z<|yU Z Z Z<|yU Z Z Z<|yS Z (aO Z Z Z)<|zM Z<|yU Z Z Z<|yU Z Z Z<|yU Z Z Z<|yU Z Z Z<|yU Z Z Z<|yS Z (aO Z Z Z)<|zM Z<|yU Z Z Z<|yU Z Z Z ?_;refine yU Z Z Z<|yU Z Z Z<|yU Z Z Z<|yS Z (aO Z Z Z)<|zM Z<|zN<|zT<|zr ?_;obtain rfl:=zJ hr;exact zf (.one (.tmp Z)) zv
  ·refine zo g2 hr fun hr=>yU Z (gd g2 Z) Z<|yS Z (aO Z (aG g2 Z) Z)<|zM Z<|yU Z Z Z<|yU Z Z Z<|yU Z Z Z<|yU Z Z Z<|yU Z Z Z<|yS Z (aO Z Z Z)<|zM Z<|yU Z Z Z<|yU Z Z Z<|yU Z Z Z<|yU Z Z Z<|yU Z Z Z<|yS Z (aO Z Z Z)<|zM Z<|yU Z Z Z<|yU Z Z Z<|yU Z Z Z<|yU Z Z Z<|yU Z Z Z<|yS Z (aO Z Z Z) ?_;refine zM Z<|yU Z Z Z<|yU Z Z Z<|yU Z Z Z<|yU Z Z Z<|yU Z Z Z<|yS Z (aO Z Z Z)<|zM Z<|zN<|zT<|zr ?_;obtain rfl:=zJ hr;exact zf (.one (.tmp Z)) zv
 ·refine zo g1 hr fun hr=>yU Z (gd g1 Z) Z<|yS Z (aO Z (aG g1 Z) Z)<|zM Z<|yU Z Z Z<|yS Z (aO Z Z Z)<|zM Z<|yU Z Z Z<|yU Z Z Z<|yU Z Z Z<|yU Z Z Z<|yU Z Z Z<|yS Z (aO Z Z Z)<|zM Z<|yU Z Z Z<|yU Z Z Z<|yU Z Z Z<|yU Z Z Z<|yU Z Z Z<|yS Z (aO Z Z Z)<|zM Z<|yU Z Z Z<|yU Z Z Z<|yU Z Z Z ?_;refine yU Z Z Z<|yU Z Z Z<|yS Z (aO Z Z Z)<|zM Z<|yU Z Z Z<|yU Z Z Z<|yU Z Z Z<|yU Z Z Z<|yU Z Z Z<|yS Z (aO Z Z Z)<|zM Z<|zN<|zT<|zr ?_;obtain rfl:=zJ hr;exact zf (.one (.tmp Z)) zv
def uE (a:List Of)(b:List Of):Option Bool:=(sG a b).bind fun v1=>some v1
theorem I8 {a:List Of}{b:List Of}{r_:Bool}(hr:uE a b=some r_):ar Tryz.prog 13 [.slice 9 (a.map dC),.slice 9 (b.map dC)] [.bool r_]:=by
 refine zh Tryz.func13 Z Z Z Z ?_;unfold uE at hr;refine zQ<|zR<|zM Z<|zN<|zT<|zQ<|zR<|zM Z<|zM Z<|zb hr fun v1 h_v1 hr=>yS Z (zC Z Z Z (by kernel_rfl) (zp (FM h_v1) (.cons zv (.cons zv .nil))))<|zM Z<|zN<|zT<|zQ<|zR<|zM Z<|zM Z<|zN<|zT<|zr ?_;obtain rfl:=zJ hr;exact zf (.one (.tmp Z)) zv
structure Ic where
 i:Int
structure Id where
 i:Int
structure KP where
 t17:Int
structure Ig where
 t13:Int
theorem BV :uz=some true:=by kernel_rfl
noncomputable def pY {α:Type}(a b:α):Bool:=@decide (a=b) (Classical.propDecidable _)
theorem bZ {α:Type}{a b:α}(h:a=b):pY a b=true:=@decide_eq_true _ (Classical.propDecidable _) h
theorem bG {α:Type}{a b:α}(h:a≠b):pY a b=false:=@decide_eq_false _ (Classical.propDecidable _) h
theorem tJ {α:Type}{a b:α}(i:Decidable (a=b)):@decide (a=b) i=pY a b:=by
 by_cases h:a=b
 ·rw[bZ h];exact decide_eq_true h
 ·rw[bG h];exact decide_eq_false h
theorem ln {α:Type}(a:α):pY a a=true:=bZ rfl
theorem AV {S α:Type}{step:S→Option (S⊕(S⊕Bool))}{a b:List α}(mk:Nat→S)(hl:a.length=b.length)(hs:∀j y z,j<a.length→y∈a→a[j]?=some y→b[j]?=some z→step (mk j)=bif pY y z then some (.inl (mk (j+1)))else some (.inr (.inr false)))
  (he:step (mk a.length)=some (.inr (.inl (mk a.length)))) (hn:a.length<4000000000000000000):(iter step bg (mk 0)=some (.inl (mk a.length))∧a=b)∨(iter step bg (mk 0)=some (.inr false)∧a≠b):=by
 have h:=rh mk false (fun j=>pY a[j]? b[j]?) (fun j hj=>by
  obtain⟨y,hy,hm⟩:=ax hj;obtain⟨z,hz,-⟩:=ax (l:=b) (n:=j) (by omega);rw[hs j y z hj hm hy hz,hy,hz];by_cases h:y=z
  ·rw[bZ h,bZ (by rw[h])]
  ·rw[bG h,bG (fun e=>h (Option.some.inj e))]) he hn
 rcases h with⟨e,h⟩|⟨e,j,hj,h⟩
 ·refine .inl ⟨e,List.ext_getElem? fun j=>?_⟩;by_cases hj:j<a.length
  ·have:=h j hj;by_cases e:a[j]?=b[j]?
   ·exact e
   ·rw[bG e]at this;cases this
  ·rw[List.getElem?_eq_none (by omega),List.getElem?_eq_none (by omega)]
 ·exact .inr ⟨e,fun e=>by subst e;rw[ln]at h;cases h⟩
theorem mq {S α:Type}{step:S→Option (S⊕(S⊕Bool))}{a b:List α}(mk:Nat→S)(hs:∀j y z,j<a.length→y∈a→a[j]?=some y→b[j]?=some z→step (mk j)=bif pY y z then some (.inl (mk (j+1)))else some (.inr (.inr false)))
  (he:step (mk a.length)=some (.inr (.inl (mk a.length)))) (hn:a.length<4000000000000000000):(bif (a.length:Int) != (b.length:Int)then some false else(iter step bg (mk 0)).bind fun r=>Sum.elim (fun _=>some true) some r)=some (pY a b):=by
 by_cases hl:a.length=b.length
 ·rw[show((a.length:Int) != (b.length:Int))=false by simp[hl],cf];rcases AV mk hl hs he hn with⟨e,h⟩|⟨e,h⟩
  ·rw[e,ob,bZ h];rfl
  ·rw[e,ob,bG h];rfl
 ·rw[show((a.length:Int) != (b.length:Int))=true by simp;omega,ct,bG fun h=>hl (by rw[h])]
theorem eo {α β:Type}{a b:α}{f:Option β}{x:β}(hf:a=b→f=some x){r:Option β}(hr:a≠b→r=some x):(bif pY a b then f else r)=some x:=by
 by_cases h:a=b
 ·rw[bZ h];exact hf h
 ·rw[bG h];exact hr h
theorem nW (a b:Int):(a==b)=pY a b:=by
 by_cases h:a=b
 ·rw[bZ h];simp[h]
 ·rw[bG h];simp[h]
theorem yd (a b:Int):(a != b)= !pY a b:=by rw[←nW];rfl
theorem CK (a b:Bool):(a==b)=pY a b:=by
 by_cases h:a=b
 ·rw[bZ h];simp[h]
 ·rw[bG h];simp[h]
theorem qr {β:Type}{c:Bool}{x y:β}:(bif !c then x else y)=bif c then y else x:=by cases c <;>rfl
theorem C7 (a b:Bk):((a.Slot==b.Slot)&&((a.From==b.From)&&((a.Parent.1==b.Parent.1)&&((a.Parent.2==b.Parent.2)&&((a.Salt==b.Salt)&&true)))))=pY a b:=(E4 a b).trans (tJ _)
theorem JS (a b:Vt):((a.From==b.From)&&((a.Slot==b.Slot)&&((a.Head.1==b.Head.1)&&((a.Head.2==b.Head.2)&&true))))=pY a b:=(E5 a b).trans (tJ _)
theorem JR (a b:Cu):((a.ID.1==b.ID.1)&&((a.ID.2==b.ID.2)&&((a.Slot==b.Slot)&&((a.Revoked==b.Revoked)&&true))))=pY a b:=(LX a b).trans (tJ _)
theorem tz {a b:Vw}(h1:a.B.length≤100000)(h2:a.V.length≤100000):EJ a b=some (pY a b):=by
 rw[GC h1 h2];by_cases h:a=b
 ·rw[bZ h,decide_eq_true ⟨by rw[h],by rw[h]⟩]
 ·rw[bG h,decide_eq_false];rintro⟨e1,e2⟩;cases a;cases b;simp only at e1 e2;exact h (by rw[e1,e2])
theorem uO {a b:List Of}(hl:a.length≤100000)(hs:∀o∈a,gD o):sG a b=some (pY a b):=by
 unfold sG
 exact mq (fun k=>gn.mk (k:Int)) (fun j y z hj hm hy hz=>by
  obtain⟨s1,s2⟩:=hs y hm;unfold nE;simp only;rw[decide_eq_true (show(j:Int)<(a.length:Int) by omega),ct,aw hy,aw hz,ah (n:=j) (by omega)];simp only[Option.bind_some];rw[tz (by omega) (by omega),ob,C7,yd,yd];simp only[qr];obtain⟨y1,y2,y3,y4⟩:=y;obtain⟨z1,z2,z3,z4⟩:=z;simp only;by_cases h1:y4=z4
  ·by_cases h2:y1=z1
   ·by_cases h3:y2=z2
    ·by_cases h4:y3=z3
     ·rw[bZ h1,ct,bZ h2,ct,bZ h3,ct,bZ h4,ct,bZ (by rw[h1,h2,h3,h4]),ct]
     ·rw[bZ h1,ct,bZ h2,ct,bZ h3,ct,bG h4,cf,bG (fun e=>h4 (Of.mk.inj e).2.2.1),cf]
    ·rw[bZ h1,ct,bZ h2,ct,bG h3,cf,bG (fun e=>h3 (Of.mk.inj e).2.1),cf]
   ·rw[bZ h1,ct,bG h2,cf,bG (fun e=>h2 (Of.mk.inj e).1),cf]
  ·rw[bG h1,cf,bG (fun e=>h1 (Of.mk.inj e).2.2.2),cf]) (by
  unfold nE;simp only
  rw[decide_eq_false (show¬(a.length:Int)<(a.length:Int) by omega),cf]) (by omega)
theorem B3 {a b:List Of}(hl:a.length≤100000)(hs:∀o∈a,gD o):uE a b=some (pY a b):=by
 unfold uE;rw[uO hl hs,ob]
structure D5 (n:Nd):Prop where
 v:n.V.B.length≤100000∧n.V.V.length≤100000
 i:n.In.B.length≤100000∧n.In.V.length≤100000
 o:n.O.length≤100000
 s:∀y∈n.O,gD y
theorem yR {a b:Nd}(h1:a.V=b.V)(h2:a.In=b.In)(h3:a.O=b.O):(bif a.No==b.No then bif a.Tick==b.Tick then bif ((a.C.ID.1==b.C.ID.1)&&((a.C.ID.2==b.C.ID.2)&&((a.C.Slot==b.C.Slot)&&((a.C.Revoked==b.C.Revoked)&&true))))then some (a.Full==b.Full)else some false else some false else some false)=some (pY a b):=by
 rw[JR,nW,nW,CK];obtain⟨a1,a2,a3,a4,a5,a6,a7⟩:=a;obtain⟨b1,b2,b3,b4,b5,b6,b7⟩:=b;simp only at h1 h2 h3⊢
 refine eo (fun e1=>eo (fun e2=>eo (fun e3=>?_) fun e=>by rw[bG fun h=>e (Nd.mk.inj h).2.2.2.2.2.1]) fun e=>by rw[bG fun h=>e (Nd.mk.inj h).2.1]) fun e=>by rw[bG fun h=>e (Nd.mk.inj h).1]
 by_cases e4:a7=b7
 ·rw[bZ e4,bZ (by rw[h1,h2,h3,e1,e2,e3,e4])]
 ·rw[bG e4,bG fun h=>e4 (Nd.mk.inj h).2.2.2.2.2.2]
theorem qI {a b:Nd}(h:D5 a):qH a b=some (pY a b):=by
 unfold qH;rw[tz h.v.1 h.v.2,ob,tz h.i.1 h.i.2,ob,uO h.o h.s,ob]
 exact eo (fun h1=>eo (fun h2=>eo (fun h3=>yR h1 h2 h3) fun e=>by rw[bG fun h=>e (by rw[h])]) fun e=>by rw[bG fun h=>e (by rw[h])]) fun e=>by rw[bG fun h=>e (by rw[h])]
theorem Ca {a b:List Bk}(hl:a.length≤100000):uS a b=some (pY a b):=by
 unfold uS
 exact mq (fun k=>gp.mk (k:Int)) (fun j y z hj hm hy hz=>by
  unfold nH;simp only
  rw[decide_eq_true (show(j:Int)<(a.length:Int) by omega),ct,aw hy,aw hz,ob,ob,C7,ah (n:=j) (by omega),qr]) (by
  unfold nH;simp only
  rw[decide_eq_false (show¬(a.length:Int)<(a.length:Int) by omega),cf]) (by omega)
theorem Cb {a b:List Vt}(hl:a.length≤100000):uT a b=some (pY a b):=by
 unfold uT
 exact mq (fun k=>gq.mk (k:Int)) (fun j y z hj hm hy hz=>by
  unfold nI;simp only
  rw[decide_eq_true (show(j:Int)<(a.length:Int) by omega),ct,aw hy,aw hz,ob,ob,JS,ah (n:=j) (by omega),qr]) (by
  unfold nI;simp only
  rw[decide_eq_false (show¬(a.length:Int)<(a.length:Int) by omega),cf]) (by omega)
theorem qO {a b:Vw}(h1:a.B.length≤100000)(h2:a.V.length≤100000):qN a b=some (pY a b):=by
 unfold qN;rw[Ca h1,ob,Cb h2,ob];obtain⟨a1,a2⟩:=a;obtain⟨b1,b2⟩:=b;simp only
 refine eo (fun e=>?_) fun e=>by rw[bG fun h=>e (Vw.mk.inj h).1]
 by_cases e2:a2=b2
 ·rw[bZ e2,bZ (by rw[e,e2])]
 ·rw[bG e2,bG fun h=>e2 (Vw.mk.inj h).2]
theorem B5 {a b:Of}(h:gD a):uI a b=some (pY a b):=by
 obtain⟨s1,s2⟩:=h;unfold uI;rw[qO (by omega) (by omega),ob,C7,nW,nW];obtain⟨a1,a2,a3,a4⟩:=a;obtain⟨b1,b2,b3,b4⟩:=b;simp only
 refine eo (fun e1=>eo (fun e2=>eo (fun e3=>?_) fun e=>by rw[bG fun h=>e (Of.mk.inj h).2.2.1]) fun e=>by rw[bG fun h=>e (Of.mk.inj h).2.1]) fun e=>by rw[bG fun h=>e (Of.mk.inj h).1]
 by_cases e4:a4=b4
 ·rw[bZ e4,bZ (by rw[e1,e2,e3,e4])]
 ·rw[bG e4,bG fun h=>e4 (Of.mk.inj h).2.2.2]
theorem EL {a b:List Of}(hl:a.length≤100000)(hs:∀o∈a,gD o):CA a b=some (pY a b):=by
 unfold CA
 exact mq (fun k=>iY.mk (k:Int)) (fun j y z hj hm hy hz=>by
  unfold qo;simp only
  rw[decide_eq_true (show(j:Int)<(a.length:Int) by omega),ct,aw hy,aw hz,ob,ob,B5 (hs y hm),ob,ah (n:=j) (by omega),qr]) (by
  unfold qo;simp only
  rw[decide_eq_false (show¬(a.length:Int)<(a.length:Int) by omega),cf]) (by omega)
theorem BY {a b:Nd}(h:D5 a):uC a b=some (pY a b):=by
 unfold uC;rw[EL h.o h.s,ob,qO h.v.1 h.v.2,ob,qO h.i.1 h.i.2,ob]
 exact eo (fun h3=>eo (fun h1=>eo (fun h2=>yR h1 h2 h3) fun e=>by rw[bG fun h=>e (by rw[h])]) fun e=>by rw[bG fun h=>e (by rw[h])]) fun e=>by rw[bG fun h=>e (by rw[h])]
theorem A1 {n:Nd}{k:Int}(hk:k≤1000)(h:rf k n):D5 n:=by
 obtain⟨⟨a1,a2⟩,⟨b1,b2⟩,d1,d2⟩:=h;exact⟨⟨by omega,by omega⟩,⟨by omega,by omega⟩,by omega,DH hk d2⟩
theorem DJ {c:Cf}{n:Nd}{inp:Vw}{o:List Of}(hf:rc c n inp o):D5 (iJ c n inp o).1∧(iJ c n inp o).2.length≤1∧∀y∈(iJ c n inp o).2,gD y:=by
 have hi:(gg c n inp).B.length≤500∧(gg c n inp).V.length≤500:=hf.ins;obtain⟨hr1,hr2⟩:=m9 hf;have hw:=(wo hf).2;obtain⟨⟨a1,a2⟩,⟨b1,b2⟩,-,-,g1,g2⟩:=id hf
 have hro:∀y∈(eE c n o).1,gD y:=fun y hy=>by have:=hr2 y hy;exact⟨by omega,by omega⟩
 have m1:=j6 c n.V (gg c n inp) (aP n);have z1:=mr c n.V (gg c n inp) (aP n);rcases hw with⟨-,e⟩|⟨-,-,e⟩|⟨-,-,e⟩|⟨-,-,cu,e⟩
 ·rw[e];exact⟨⟨⟨by simp only;omega,by simp only;omega⟩,⟨by simp only;omega,by simp only;omega⟩,by simp only;omega,fun y hy=>by have:=g2 y (List.mem_append_left _ hy);exact⟨by omega,by omega⟩⟩,by simp,fun y hy=>by cases hy⟩
 ·rw[e];refine⟨?_,xb _ _ _,?_⟩
  ·unfold dA;split
   ·have m2:=j6 c (aF c n.V (gg c n inp) (aP n)).1 ⟨[oB (di c n inp o) c (aP n)],[]⟩ (aP n);exact⟨⟨by show(aF c (aF c n.V (gg c n inp) (aP n)).1 ⟨[oB (di c n inp o) c (aP n)],[]⟩ (aP n)).1.B.length≤100000;omega,by show(aF c (aF c n.V (gg c n inp) (aP n)).1 ⟨[oB (di c n inp o) c (aP n)],[]⟩ (aP n)).1.V.length≤100000;omega⟩,⟨by show(aF c n.V (gg c n inp) (aP n)).2.1.B.length≤100000;omega,by show(aF c n.V (gg c n inp) (aP n)).2.1.V.length≤100000;omega⟩,by simp only;omega,hro⟩
   ·exact⟨⟨by show n.V.B.length≤100000;omega,by show n.V.V.length≤100000;omega⟩,⟨by show(gg c n inp).B.length≤100000;omega,by show(gg c n inp).V.length≤100000;omega⟩,by simp only;omega,hro⟩
  ·unfold dA;split
   ·intro y hy;rw[List.mem_singleton.1 hy];exact⟨by show(aF c n.V (gg c n inp) (aP n)).1.B.length≤1000;omega,by show(aF c n.V (gg c n inp) (aP n)).1.V.length≤1000;omega⟩
   ·intro y hy;cases hy
 ·rw[e];refine⟨?_,by simp,fun y hy=>by cases hy⟩;have hz:=oN (x:=di c n inp o) (c:=c) (slot:=aP n) a1 a2 hi.1 hi.2 8 (eE c n o).1 hr1 hr2;unfold ew;split
  ·have hj:=mn (aV (di c n inp o) (eE c n o).1 c (aP n)).2.1 ⟨[],[⟨(di c n inp o).No,aP n,fP c (aV (di c n inp o) (eE c n o).1 c (aP n)).1.B (de c (aV (di c n inp o) (eE c n o).1 c (aP n)).1.V (IntKind.i64.wrap (aP n-1)))⟩]⟩;simp only[List.length_nil,List.length_singleton]at hj;exact⟨⟨by simp only;omega,by simp only;omega⟩,⟨by simp only;omega,by simp only;omega⟩,by simp,fun y hy=>by cases hy⟩
  ·exact⟨⟨by simp only;omega,by simp only;omega⟩,⟨by simp only;omega,by simp only;omega⟩,by simp,fun y hy=>by cases hy⟩
 ·rw[e];refine⟨?_,by simp,fun y hy=>by cases hy⟩;exact⟨⟨by simp only;omega,by simp only;omega⟩,⟨by simp only;omega,by simp only;omega⟩,by simp,fun y hy=>by cases hy⟩
def ES (o:Of):Prop:=aS .i64 o.Slot∧aS .i64 o.From∧nt o.B∧CH o.V
def GL (n:Nd):Prop:=aS .i64 n.No∧aS .i64 n.Tick∧CH n.V∧CH n.In∧(∀o∈n.O,ES o)∧KZ n.C
theorem F2 {p:PV}(h:qb (.agg [.int .i64,.int .i64,.int .i64,.int .i64,.int .u64,.int .u64,.int .u64,.slice 5 (.agg [.int .i64,.int .i64,.int .u64,.int .u64,.int .u64]),.slice 4 (.agg [.int .i64,.int .i64,.int .u64,.int .u64])]) p):∃o:Of,p=dC o∧ES o:=by
 cases h with|agg h=>
 cases h with|cons a1 h=>cases h with|cons a2 h=>cases h with|cons a3 h=>cases h with|cons a4 h=>cases h with|cons a5 h=>cases h with|cons a6 h=>cases h with|cons a7 h=>cases h with|cons a8 h=>cases h with|cons a9 h=>
  cases h;obtain⟨x,rfl,hx⟩:=ed (fun _ h=>yK h) a8;obtain⟨y,rfl,hy⟩:=ed (fun _ h=>yN h) a9;cases a1;cases a2;cases a3;cases a4;cases a5;cases a6;cases a7;exact⟨⟨_,_,⟨_,_,(_,_),_⟩,⟨x,y⟩⟩,rfl,by assumption,by assumption,⟨by assumption,by assumption,by assumption,by assumption,by assumption⟩,hx,hy⟩
theorem J1 {p:PV}(h:qb (.agg [.int .i64,.int .i64,.slice 5 (.agg [.int .i64,.int .i64,.int .u64,.int .u64,.int .u64]),.slice 4 (.agg [.int .i64,.int .i64,.int .u64,.int .u64]),.slice 5 (.agg [.int .i64,.int .i64,.int .u64,.int .u64,.int .u64]),.slice 4 (.agg [.int .i64,.int .i64,.int .u64,.int .u64]),.slice 9 (.agg [.int .i64,.int .i64,.int .i64,.int .i64,.int .u64,.int .u64,.int .u64,.slice 5 (.agg [.int .i64,.int .i64,.int .u64,.int .u64,.int .u64]),.slice 4 (.agg [.int .i64,.int .i64,.int .u64,.int .u64])]),.int .u64,.int .u64,.int .i64,.int .i64,.bool]) p):∃n:Nd,p=nr n∧GL n:=by
 cases h with|agg h=>
 cases h with|cons a1 h=>cases h with|cons a2 h=>cases h with|cons a3 h=>cases h with|cons a4 h=>cases h with|cons a5 h=>cases h with|cons a6 h=>cases h with|cons a7 h=>cases h with|cons a8 h=>cases h with|cons a9 h=>cases h with|cons b1 h=>cases h with|cons b2 h=>cases h with|cons b3 h=>
  cases h;obtain⟨x,rfl,hx⟩:=ed (fun _ h=>yK h) a3;obtain⟨y,rfl,hy⟩:=ed (fun _ h=>yN h) a4;obtain⟨u,rfl,hu⟩:=ed (fun _ h=>yK h) a5;obtain⟨v,rfl,hv⟩:=ed (fun _ h=>yN h) a6;obtain⟨o,rfl,ho⟩:=ed (fun _ h=>F2 h) a7;cases a1;cases a2;cases a8;cases a9;cases b1;cases b2;cases b3;exact⟨⟨_,_,⟨x,y⟩,⟨u,v⟩,o,⟨(_,_),_,_⟩,_⟩,rfl,by assumption,by assumption,⟨hx,hy⟩,⟨hu,hv⟩,ho,⟨by assumption,by assumption⟩,by assumption,by assumption⟩
open Go.Proofs
def x8 (c:Cf)(n:Nd)(v_in:Vw)(o:List Of):Option Bool:=(uz).bind fun v1=>(sE n 30).bind fun v2=>(FB v_in 30).bind fun v3=>(qG o 30).bind fun v4=>(bif !v1 then some true else bif !v2 then some true else bif !v3 then some true else bif !v4 then some true else some (decide ((c.W.length:Int)>40))).bind fun v5=>bif v5 then some v1 else (fN c n v_in o).bind fun v6=>(uD c n v_in o).bind fun v7=>(qH v6.1 v7.1).bind fun v8=>(uE v6.2 v7.2).bind fun v9=>(um n).bind fun v10=>(uF n).bind fun v11=>(EJ v10 v11).bind fun v12=>(qH n v6.1).bind fun v13=>(uG n.No).bind fun v14=>(x9 n.No).bind fun v15=>(qH v14 v15).bind fun v16=>bif v8 then bif v9 then bif v12 then bif v16 then (sA c n).bind fun v17=>(uH c n).bind fun v18=>bif ((v17.1==v18.1)&&((v17.2==v18.2)&&true))then (uC n v6.1).bind fun v19=>some (v19==v13)else some false else some false else some false else some false else some false
theorem I0 {c:Cf}{n:Nd}{v_in:Vw}{o:List Of}{r_:Bool}(hr:x8 c n v_in o=some r_):ar Tryz.prog 3 [fz c,nr n,gW v_in,.slice 9 (o.map dC)] [.bool r_]:=by
 refine zh Tryz.func3 Z Z Z Z ?_;unfold x8 at hr;refine zQ<|zR<|yS Z (bw Z Z Z Z Z)<|yS Z (bw Z Z Z Z Z)<|yS Z (bw Z Z Z Z Z)<|zM Z<|zN<|zT<|zQ<|zR<|zb hr fun v1 h_v1 hr=>yS Z (zC Z Z Z (by kernel_rfl) (zp (I4 h_v1) .nil))<|zM Z<|zN<|zT<|zQ<|zR<|yS Z (zD Z Z Z aE Z Z)<|zb hr fun v2 h_v2 hr=>yS Z (zC Z Z Z (by kernel_rfl) (zp (I5 h_v2) (.cons zv (.cons zv .nil))))<|zM Z<|zN<|zT<|zQ ?_;refine zR<|yS Z (zD Z Z Z aI Z Z)<|zb hr fun v3 h_v3 hr=>yS Z (zC Z Z Z (by kernel_rfl) (zp (KT h_v3) (.cons zv (.cons zv .nil))))<|zM Z<|zN<|zT<|zQ<|zR<|zM Z<|zb hr fun v4 h_v4 hr=>yS Z (zC Z Z Z (by kernel_rfl) (zp (FJ h_v4) (.cons zv (.cons zv .nil))))<|zM Z<|zN<|zT<|zQ ?_;obtain⟨v5,hb_v5,ho_v5⟩:=zB hr;clear hr;refine LW.cut (E:=[(3,(kO o)),(4,.ptr 0 0),(5,.ptr 1 0),(6,.ptr 2 0),(8,(bQ false)),(9,(bQ v1)),(48,(bQ v5))]) (O:=[.box (bN c),.box (kU n),.box (cG v_in)]) ?_ ?_
 ·have hr:=hb_v5;refine zR<|zM Z<|yS Z (aa.not Z Z)<|zM Z ?_;refine zc 31 Z (fun g1=>?_)<|fun g1=>?_
  ·refine zi g1 hr fun hr=>yU Z (gd g1 Z) Z<|yU Z (gd g1 Z) Z<|yS Z (bx Z (aG g1 Z) Z)<|zM Z<|yU Z Z Z<|yU Z Z Z<|yS Z (bx Z Z Z)<|zM Z<|yU Z Z Z<|yU Z Z Z<|yS Z (bx Z Z Z)<|zM Z<|yU Z Z Z<|yU Z Z Z<|yU Z Z Z<|yU Z Z Z<|yS Z (bx Z Z Z)<|zN<|zT ?_;obtain rfl:=zJ hr;exact zW 3 ⟨Z,Z,Z,Z,Z,Z,Z,trivial⟩ Z Z Z Z
  ·refine zo g1 hr fun hr=>yV Z (gd g1 Z) (zm Z Z)<|yV Z (gd g1 Z) (aa.not Z Z)<|yS Z (aO Z (aG g1 Z) Z)<|zM Z ?_;refine zc 35 Z (fun g2=>?_)<|fun g2=>?_
   ·refine zi g2 hr fun hr=>yU Z (gd g2 Z) Z<|yU Z (gd g2 Z) Z<|yS Z (bx Z (aG g2 Z) Z)<|zM Z<|yU Z Z Z<|yU Z Z Z<|yS Z (bx Z Z Z)<|zM Z<|yU Z Z Z<|yU Z Z Z<|yU Z Z Z<|yU Z Z Z<|yS Z (bx Z Z Z)<|zN<|zT ?_;obtain rfl:=zJ hr;exact zW 3 ⟨Z,Z,Z,Z,Z,Z,Z,trivial⟩ Z Z Z Z
   ·refine zo g2 hr fun hr=>yV Z (gd g2 Z) (zm Z Z)<|yV Z (gd g2 Z) (aa.not Z Z)<|yS Z (aO Z (aG g2 Z) Z)<|zM Z ?_;refine zc 39 Z (fun g3=>?_)<|fun g3=>?_
    ·refine zi g3 hr fun hr=>yU Z (gd g3 Z) Z<|yU Z (gd g3 Z) Z<|yS Z (bx Z (aG g3 Z) Z)<|zM Z<|yU Z Z Z<|yU Z Z Z<|yU Z Z Z<|yU Z Z Z<|yS Z (bx Z Z Z)<|zN<|zT ?_;obtain rfl:=zJ hr;exact zW 3 ⟨Z,Z,Z,Z,Z,Z,Z,trivial⟩ Z Z Z Z
    ·refine zo g3 hr fun hr=>yV Z (gd g3 Z) (zm Z Z)<|yV Z (gd g3 Z) (aa.not Z Z)<|yS Z (aO Z (aG g3 Z) Z)<|zM Z ?_;refine zc 43 Z (fun g4=>?_)<|fun g4=>?_
     ·refine zi g4 hr fun hr=>yU Z (gd g4 Z) Z<|yU Z (gd g4 Z) Z<|yU Z (gd g4 Z) Z<|yU Z (gd g4 Z) Z<|yS Z (bx Z (aG g4 Z) Z)<|zN<|zT ?_;obtain rfl:=zJ hr;exact zW 3 ⟨Z,Z,Z,Z,Z,Z,Z,trivial⟩ Z Z Z Z
     ·refine zo g4 hr fun hr=>yV Z (gd g4 Z) (zA Z Z dY)<|yV Z (gd g4 Z) (zD Z Z Z iM Z Z)<|yV Z (gd g4 Z) (cD Z Z (by kernel_rfl))<|yV Z (gd g4 Z) (ap Z Z Z Z)<|yS Z (aO Z (aG g4 Z) Z)<|zN<|zT ?_;obtain rfl:=zJ hr;exact zW 3 ⟨Z,Z,Z,Z,Z,Z,Z,trivial⟩ Z Z Z Z
 ·have hr:=ho_v5;clear hb_v5;refine zX Z (fun g5=>?_)<|fun g5=>?_
  ·refine zi g5 hr fun hr=>zQ<|zR<|zM Z<|zM Z<|zN<|zT<|zr<|af ?_;obtain rfl:=zJ hr;exact zf (.one (.tmp Z)) zv
  ·refine zo g5 hr fun hr=>zk<|zT<|zQ<|zR<|yS Z (zD Z Z Z aY Z Z)<|yS Z (zD Z Z Z aE Z Z)<|yS Z (zD Z Z Z aI Z Z)<|zM Z<|zb hr fun v6 h_v6 hr=>yS Z (zC Z Z Z (by kernel_rfl) (zp (yh h_v6) (.cons zv (.cons zv (.cons zv (.cons zv .nil))))))<|zM Z<|yS Z (dW Z Z Z)<|yS Z (dW Z Z Z)<|yS Z (ze Z eG Z Z)<|yS Z (zs Z Z Z Z aE Z Z Z Z)<|zM Z<|zN<|zT<|zQ<|zR<|yS Z (zD Z Z Z aY Z Z)<|yS Z (zD Z Z Z aE Z Z)<|yS Z (zD Z Z Z aI Z Z) ?_;refine zM Z<|zb hr fun v7 h_v7 hr=>yS Z (zC Z Z Z (by kernel_rfl) (zp (I7 h_v7) (.cons zv (.cons zv (.cons zv (.cons zv .nil))))))<|zM Z<|yS Z (dW Z Z Z)<|yS Z (dW Z Z Z)<|yS Z (ze Z eG Z Z)<|yS Z (zs Z Z Z Z aE Z Z Z Z)<|zM Z<|zN<|zT<|zQ<|zR<|yS Z (zD Z Z Z aE Z Z)<|yS Z (zD Z Z Z aE Z Z)<|zb hr fun v8 h_v8 hr=>yS Z (zC Z Z Z (by kernel_rfl) (zp (CT h_v8) (.cons zv (.cons zv .nil))))<|zM Z<|zN<|zT<|zQ<|zR<|zM Z<|zM Z ?_;refine zb hr fun v9 h_v9 hr=>yS Z (zC Z Z Z (by kernel_rfl) (zp (I8 h_v9) (.cons zv (.cons zv .nil))))<|zM Z<|zN<|zT<|zQ<|LW.draw2 (by kernel_rfl) (by kernel_rfl)<|yE Z (zD Z Z Z aE Z Z)<|zb hr fun v10 h_v10 hr=>yE Z (zC Z Z Z (by kernel_rfl) (zp (IF h_v10) (.cons zv .nil)))<|yE Z (zD Z Z Z aE Z Z)<|zb hr fun v11 h_v11 hr=>yE Z (zC Z Z Z (by kernel_rfl) (zp (I9 h_v11) (.cons zv .nil)))<|zb hr fun v12 h_v12 hr=>yE Z (zC Z Z Z (by kernel_rfl) (zp (KU h_v12) (.cons zv (.cons zv .nil))))<|zH Z<|LO.nil<|zT<|zQ<|zR<|yS Z (zD Z Z Z aE Z Z)<|yS Z (zD Z Z Z aE Z Z)<|zb hr fun v13 h_v13 hr=>yS Z (zC Z Z Z (by kernel_rfl) (zp (CT h_v13) (.cons zv (.cons zv .nil)))) ?_;refine zM Z<|zN<|zT<|zQ<|LW.draw2 (by kernel_rfl) (by kernel_rfl)<|yE Z (zA Z Z cI)<|yE Z (zD Z Z Z aW Z Z)<|zb hr fun v14 h_v14 hr=>yE Z (zC Z Z Z (by kernel_rfl) (zp (FK h_v14) (.cons zv .nil)))<|yE Z (zA Z Z cI)<|yE Z (zD Z Z Z aW Z Z)<|zb hr fun v15 h_v15 hr=>yE Z (zC Z Z Z (by kernel_rfl) (zp (Ja h_v15) (.cons zv .nil)))<|zb hr fun v16 h_v16 hr=>yE Z (zC Z Z Z (by kernel_rfl) (zp (CT h_v16) (.cons zv (.cons zv .nil))))<|zH Z<|LO.nil<|zT<|zQ<|LW.draw2 (by kernel_rfl) (by kernel_rfl)<|zH Z<|zH Z ?_;refine LO.cases 88 Z (fun(g6:v8=true)=>?_) (fun(g6:v8=false)=>?_)
   ·refine zi g6 hr fun hr=>LO.gd Z Z Z (gd g6 Z) Z (zm Z Z)<|yE Z (bx Z (aG g6 Z) Z)<|zH Z ?_;refine LO.cases 91 Z (fun(g7:v9=true)=>?_) (fun(g7:v9=false)=>?_)
    ·refine zi g7 hr fun hr=>LO.gd Z Z Z (gd g7 Z) Z (zm Z Z)<|yE Z (bx Z (aG g7 Z) Z)<|zH Z ?_;refine LO.cases 94 Z (fun(g8:v12=true)=>?_) (fun(g8:v12=false)=>?_)
     ·refine zi g8 hr fun hr=>LO.gd Z Z Z (gd g8 Z) Z (zm Z Z)<|yE Z (bx Z (aG g8 Z) Z)<|zH Z ?_;refine LO.cases 97 Z (fun(g9:v16=true)=>?_) (fun(g9:v16=false)=>?_)
      ·refine zi g9 hr fun hr=>LO.gd Z Z Z (gd g9 Z) Z (zD Z Z Z aY Z Z)<|LO.gd Z Z Z (gd g9 Z) Z (zD Z Z Z aE Z Z)<|zb hr fun v17 h_v17 hr=>LO.gd Z Z Z (gd g9 Z) Z (zC Z Z Z (by kernel_rfl) (zp (FF h_v17) (.cons zv (.cons zv .nil))))<|LO.gd Z Z Z (gd g9 Z) Z (zD Z Z Z aY Z Z)<|LO.gd Z Z Z (gd g9 Z) Z (zD Z Z Z aE Z Z)<|zb hr fun v18 h_v18 hr=>LO.gd Z Z Z (gd g9 Z) Z (zC Z Z Z (by kernel_rfl) (zp (Jb h_v18) (.cons zv (.cons zv .nil))))<|LO.gd Z Z Z (gd g9 Z) Z (aa.eqlAgg Z Z Z Z Z fu)<|yE Z (bx Z (aG g9 Z) Z)<|zH Z ?_;refine LO.cases 106 Z (fun(g10:((v17.1==v18.1)&&((v17.2==v18.2)&&true))=true)=>?_) (fun(g10:((v17.1==v18.1)&&((v17.2==v18.2)&&true))=false)=>?_)
       ·refine zi g10 hr fun hr=>LO.gd Z Z Z (gd g10 Z) Z (zD Z Z Z aE Z Z)<|LO.gd Z Z Z (gd g10 Z) Z (zD Z Z Z aE Z Z)<|zb hr fun v19 h_v19 hr=>LO.gd Z Z Z (gd g10 Z) Z (zC Z Z Z (by kernel_rfl) (zp (I6 h_v19) (.cons zv (.cons zv .nil))))<|LO.gd Z Z Z (gd g10 Z) Z (zm Z Z)<|LO.gd Z Z Z (gd g10 Z) Z (aa.eqlBool Z Z Z Tryz.underlying4)<|yE Z (bx Z (aG g10 Z) Z)<|zH Z<|LO.nil<|zT<|zr ?_;obtain rfl:=zJ hr;exact zf (.one (.tmp Z)) zv
       ·refine zo g10 hr fun hr=>LO.sk Z Z Z (gd g10 Z) Z Z<|LO.sk Z Z Z (gd g10 Z) Z Z<|LO.sk Z Z Z (gd g10 Z) Z Z<|LO.sk Z Z Z (gd g10 Z) Z Z<|LO.sk Z Z Z (gd g10 Z) Z Z<|yE Z (aO Z (aG g10 Z) Z)<|zH Z<|LO.nil<|zT<|zr ?_;obtain rfl:=zJ hr;exact zf (.one (.tmp Z)) zv
      ·refine zo g9 hr fun hr=>LO.sk Z Z Z (gd g9 Z) Z Z<|LO.sk Z Z Z (gd g9 Z) Z Z<|LO.sk Z Z Z (gd g9 Z) Z Z<|LO.sk Z Z Z (gd g9 Z) Z Z<|LO.sk Z Z Z (gd g9 Z) Z Z<|LO.sk Z Z Z (gd g9 Z) Z Z<|LO.sk Z Z Z (gd g9 Z) Z Z<|yE Z (aO Z (aG g9 Z) Z)<|zH Z<|LO.sk Z Z Z Z Z Z<|LO.sk Z Z Z Z Z Z<|LO.sk Z Z Z Z Z Z<|LO.sk Z Z Z Z Z Z<|LO.sk Z Z Z Z Z Z<|yE Z (aO Z Z Z)<|zH Z<|LO.nil<|zT<|zr ?_;obtain rfl:=zJ hr;exact zf (.one (.tmp Z)) zv
     ·refine zo g8 hr fun hr=>LO.sk Z Z Z (gd g8 Z) Z Z<|yE Z (aO Z (aG g8 Z) Z)<|zH Z<|LO.sk Z Z Z Z Z Z<|LO.sk Z Z Z Z Z Z<|LO.sk Z Z Z Z Z Z<|LO.sk Z Z Z Z Z Z<|LO.sk Z Z Z Z Z Z<|LO.sk Z Z Z Z Z Z<|LO.sk Z Z Z Z Z Z<|yE Z (aO Z Z Z)<|zH Z<|LO.sk Z Z Z Z Z Z<|LO.sk Z Z Z Z Z Z<|LO.sk Z Z Z Z Z Z<|LO.sk Z Z Z Z Z Z<|LO.sk Z Z Z Z Z Z<|yE Z (aO Z Z Z)<|zH Z<|LO.nil<|zT<|zr ?_;obtain rfl:=zJ hr;exact zf (.one (.tmp Z)) zv
    ·refine zo g7 hr fun hr=>LO.sk Z Z Z (gd g7 Z) Z Z<|yE Z (aO Z (aG g7 Z) Z)<|zH Z<|LO.sk Z Z Z Z Z Z<|yE Z (aO Z Z Z)<|zH Z<|LO.sk Z Z Z Z Z Z<|LO.sk Z Z Z Z Z Z<|LO.sk Z Z Z Z Z Z<|LO.sk Z Z Z Z Z Z<|LO.sk Z Z Z Z Z Z<|LO.sk Z Z Z Z Z Z<|LO.sk Z Z Z Z Z Z<|yE Z (aO Z Z Z)<|zH Z<|LO.sk Z Z Z Z Z Z<|LO.sk Z Z Z Z Z Z<|LO.sk Z Z Z Z Z Z<|LO.sk Z Z Z Z Z Z<|LO.sk Z Z Z Z Z Z<|yE Z (aO Z Z Z)<|zH Z<|LO.nil ?_;refine zT<|zr ?_;obtain rfl:=zJ hr;exact zf (.one (.tmp Z)) zv
   ·refine zo g6 hr fun hr=>LO.sk Z Z Z (gd g6 Z) Z Z<|yE Z (aO Z (aG g6 Z) Z)<|zH Z<|LO.sk Z Z Z Z Z Z<|yE Z (aO Z Z Z)<|zH Z<|LO.sk Z Z Z Z Z Z<|yE Z (aO Z Z Z)<|zH Z<|LO.sk Z Z Z Z Z Z<|LO.sk Z Z Z Z Z Z<|LO.sk Z Z Z Z Z Z<|LO.sk Z Z Z Z Z Z<|LO.sk Z Z Z Z Z Z<|LO.sk Z Z Z Z Z Z<|LO.sk Z Z Z Z Z Z<|yE Z (aO Z Z Z)<|zH Z<|LO.sk Z Z Z Z Z Z<|LO.sk Z Z Z Z Z Z<|LO.sk Z Z Z Z Z Z<|LO.sk Z Z Z Z Z Z<|LO.sk Z Z Z Z Z Z ?_;refine yE Z (aO Z Z Z)<|zH Z<|LO.nil<|zT<|zr ?_;obtain rfl:=zJ hr;exact zf (.one (.tmp Z)) zv
theorem HB {n:Nd}(h:GL n):H4 nt (fun _=>True) n:=⟨Kb h.2.2.1.1,Kb h.2.2.2.1.1,fun o ho=>⟨(h.2.2.2.2.1 o ho).2.2.1,Kb (h.2.2.2.2.1 o ho).2.2.2.1⟩⟩
theorem Fi {l:List Of}(h:∀o∈l,ES o):∀o∈l,zu nt (fun _=>True) o:=fun o ho=>⟨(h o ho).2.2.1,Kb (h o ho).2.2.2.1⟩
theorem B4 {c:Cf}(hW:c.W.length≤1000){n:Nd}(hb:gX n.V.B)(h1:n.V.B.length≤1000)(h2:n.V.V.length≤1000):uH c n=some (oy c n):=by
 unfold uH oy DF
 cases h:(IntKind.i64.wrap (n.Tick-1)).tmod 3==2 with
 |true=>rw[ct,bne,h,Bool.not_true,cf,k7 hW hb h1 h2,ob]
 |false=>rw[cf,bne,h,Bool.not_false,ct,k7 hW hb h1 h2,ob]
theorem AI (ha:uz=some true)(c:Cf)(n:Nd)(inp:Vw)(o:List Of)(hn:GL n)(hi:CH inp)(ho:∀y∈o,ES y):x8 c n inp o=some true:=by
 unfold x8;rw[ha,ob]
 have tail:∀f:Bool→Option Bool,(f true=some true)→∀b,b=true→f b=some true:=fun f h b e=>by rw[e];exact h
 rcases BW n 30 with e|⟨e,hs⟩
 ·rw[e,ob,qX,ob];rcases nC o 30 with e2|⟨e2,-⟩ <;>rw[e2,ob] <;>rfl
 rw[e,ob,qX,ob];by_cases hv:(inp.B.length:Int)≤30∧(inp.V.length:Int)≤30
 case neg=>
  rw[decide_eq_false hv];rcases nC o 30 with e2|⟨e2,-⟩ <;>rw[e2,ob] <;>rfl
 rw[decide_eq_true hv];rcases nC o 30 with e2|⟨e2,h10,hs2⟩
 ·rw[e2,ob];rfl
 rw[e2,ob,Bool.not_true,cf,cf,cf,cf,ob];by_cases hw:(c.W.length:Int)>40
 ·rw[decide_eq_true hw,ct]
 rw[decide_eq_false hw,cf]
 have hW:c.W.length≤1000:=by omega
 have hf:EQ c n inp o:=⟨hs,⟨hv.1,hv.2⟩,h10,hs2⟩;obtain⟨⟨a1,a2⟩,⟨b1,b2⟩,d1,d2⟩:=id hs;have hin:=Hs hf
 have hR:It c n inp o:=⟨hf.g,hW,by omega,fun y hy=>by
  rcases List.mem_append.1 hy with h|h
  ·have:=d2 y h;obtain⟨p,q⟩:=this;omega
  ·have:=hs2 y h;obtain⟨p,q⟩:=this;omega,hn.1,HB hn,Kb hi.1,Fi ho⟩
 have hk:=AB hs;obtain⟨q1,q2,q3⟩:=DJ hf.g;have hB:=A1 (by omega) hs
 have eK:uF n=some (rL n):=by
  unfold uF;rw[ny (by omega) (by omega),ob];rfl
 have eS:fN c n inp o=some (iJ c n inp o):=(wo hf.g).1;rw[BZ hR,eS,ob,ob,qI q1,ob,B3 (by omega) q3,ob,Bl hs (by omega),ob,eK,ob,tz (by omega) (by omega),ob,qI hB,ob,show uG n.No=some (Nd.mk n.No 3 (Vw.mk [] []) (Vw.mk [] []) [] (Cu.mk (0,0) 0 0) false)from rfl,ob,show x9 n.No=some (Nd.mk n.No 3 (Vw.mk [] []) (Vw.mk [] []) [] (Cu.mk (0,0) 0 0) false)from rfl,ob,qI ⟨by simp,by simp,by simp,fun y hy=>by cases hy⟩,ob,ln,ct,ln,ct,ln,ct,ln,ct,Bi (by omega) (by omega),ob,B4 hW hn.2.2.1.1 (by omega) (by omega),ob,n7,decide_eq_true rfl,ct,BY hB,ob];simp
end Go.Mg
namespace Go.Proofs.YtfbigoipfbiliaaGreat
def io :List Nat:=[104,97,114,110,101,115,115,32,97,55,52,98,56,102,49,102,100,102,54,102,101,57,52,52,102,102,56,97,97,100,55,54,56,54,49,97,50,49,57,102,50,54,55,100,48,101,102,56,51,53,52,100,99,101,97,57,97,97,50,97,98,51,56,97,101,55,50,99,100,49,57,51,32,99,117,116,32,97,116,32,109,97,114,105,103,111,108,100,47,109,97,114,105,103,111,108,100,108,97,119,49,56,46,78,111,100,101,83,116,101,112,115,32,109,97,114,105,103,111,108,100,47,109,97,114,105,103,111,108,100,108,97,119,50,48,46,80,108,97,121,68,111,101,115,32,109,97,114,105,103,111,108,100,47,109,97,114,105,103,111,108,100,108,97,119,50,48,46,80,108,97,121,82,117,110,115]
theorem LY :Tryz.prog.initOrder=String.ofList (io.map Char.ofNat):=by kernel_rfl
theorem Hu :Tryz.prog.initOrder.toList=io.map Char.ofNat:=by rw[LY,String.toList_ofList]
def ws :List (List Nat):=[[99,117,116],[97,116],[109,97,114,105,103,111,108,100,47,109,97,114,105,103,111,108,100,108,97,119,49,56,46,78,111,100,101,83,116,101,112,115],[109,97,114,105,103,111,108,100,47,109,97,114,105,103,111,108,100,108,97,119,50,48,46,80,108,97,121,68,111,101,115],[109,97,114,105,103,111,108,100,47,109,97,114,105,103,111,108,100,108,97,119,50,48,46,80,108,97,121,82,117,110,115]]
theorem DW :behindMainWord (wordsSigns Tryz.prog.initOrder.toList)=ws.map (List.map Char.ofNat):=by
 rw[Hu]
 kernel_rfl
theorem Kh :stripLifts liftWords (ws.map (List.map Char.ofNat))=([],ws.map (List.map Char.ofNat)):=by kernel_rfl
theorem Ke :Tryz.prog.doorRows=[]:=by kernel_rfl
theorem LZ :Tryz.prog.laysLater=false:=by kernel_rfl
theorem Kc :Tryz.prog.bearsReflect=false:=by kernel_rfl
theorem F1 : (ws.map (List.map Char.ofNat)).head? = some "cut".toList := by kernel_rfl
theorem Hl (P : Program) (W : List (List Char)) (hW : behindMainWord (wordsSigns P.initOrder.toList) = W) (hs : stripLifts liftWords W = ([], W)) (hh : W.head? = some "cut".toList) (hr : P.doorRows = []) (hl : P.laysLater = false) (hb : P.bearsReflect = false) : P.mayEnter = true := by
 unfold Program.mayEnter;rw[hW]
 cases W with
 |nil=>cases hh
 |cons c r=>
  simp only[hs,hh,hl,hb,Program.doorFits,hr];simp
theorem mayEnter :Tryz.prog.mayEnter=true:=Hl Tryz.prog _ DW Kh F1 Ke LZ Kc
theorem own :ownKnob Tryz.prog.godebug=none:=by kernel_rfl
theorem yQ :laidOutB Tryz.prog=true:=by kernel_rfl
theorem Kd :mapsRowed Tryz.prog=true:=by kernel_rfl
theorem JV :Tryz.prog.stopsHeard=true:=by kernel_rfl
theorem Fd (P : Program) (W : List (List Char)) (hW : behindMainWord (wordsSigns P.initOrder.toList) = W) (hh : W.head? = some "cut".toList) : P.make = some .cut := by
 unfold Program.make;rw[hW]
 cases W with
 |nil=>cases hh
 |cons c r=>
  have e : c = "cut".toList := by simpa using hh
  subst e;show(if _ then _ else _)=_;rw[if_neg (by decide),if_pos (by simp)]
theorem J7 :Tryz.prog.make=some .cut:=Fd Tryz.prog _ DW F1
theorem J5 :Tryz.prog.liftsFinal=false:=by
 unfold Program.liftsFinal Program.headLifts;rw[DW]
 kernel_rfl
end Go.Proofs.YtfbigoipfbiliaaGreat
