/- Are two worlds the same? The example; what is begun. PlayOther. Plain laws of weights on blocks, and of the head: the program's side. Plain laws of views: lists of blocks and votes, and what may be at all. Laws of trees. TreeKids, TreeMore: plain. Plain laws of views: which views may be. Plain laws of views: what is taken. Plain laws of views: what is taken, as the program does it. Plain laws of views: votes that are taken, as the program does it. Plain laws of views: view.Take. Plain laws of views: what holds of what is taken. Laws of views. The laws of views' example. Laws of views. Laws of views: ViewOnly, ViewJoin. Laws of views. Laws of views. Laws of views: ViewMay, ViewKeeps. Plain laws of views: what is counted, as a set. Laws of views. Laws of views. Laws of views. Conditions: none. -/
import Derived.Test.YtbjmcafamkdokaaGreatX3
import Derived.Test.YtbjmcafamkdokaaGreatX8
import Derived.Test.YtbjmcafamkdokaaGreatX5
import Derived.Test.YtbjmcafamkdokaaGreatX7
import Derived.Test.YtbjmcafamkdokaaGreatX6
set_option maxRecDepth 100000
set_option linter.unusedSimpArgs false
set_option linter.unusedVariables false
namespace Go.Mg
open Go.Proofs
structure dS where
 i : Int
def ip (a : List Of) (b : List Of) (x1 : dS) : Option (dS ⊕ (dS ⊕ Bool)) :=
 bif decide (x1.i < (a.length : Int)) then
  (ix a x1.i).bind fun y1 =>
  (ix b x1.i).bind fun y2 =>
  (D1 y1.V y2.V).bind fun v2 =>
  bif !v2 then
   some (.inr (.inr false))
  else
   (ix a x1.i).bind fun y3 =>
   (ix b x1.i).bind fun y4 =>
   bif y3.Slot != y4.Slot then
    some (.inr (.inr false))
   else
    (ix a x1.i).bind fun y5 =>
    (ix b x1.i).bind fun y6 =>
    bif y5.From != y6.From then
     some (.inr (.inr false))
    else
     (ix a x1.i).bind fun y7 =>
     (ix b x1.i).bind fun y8 =>
     bif !((y7.B.Slot == y8.B.Slot) && ((y7.B.From == y8.B.From) && ((y7.B.Parent.1 == y8.B.Parent.1) && ((y7.B.Parent.2 == y8.B.Parent.2) && ((y7.B.Salt == y8.B.Salt) && true))))) then
      some (.inr (.inr false))
     else
      some (.inl (dS.mk (IntKind.i64.wrap (x1.i + 1))))
 else
  some (.inr (.inl (dS.mk x1.i)))
def qi (a : List Of) (b : List Of) : Option Bool :=
 bif (a.length : Int) != (b.length : Int) then
  some false
 else
  (iter (ip a b) bH (dS.mk 0)).bind fun b_v1 => Sum.elim (fun _ =>
   some true) some b_v1
theorem De {a : List Of} {b : List Of} {r_ : Bool} (hr : qi a b = some r_) : aw Tryz.prog 126 [.slice 9 (a.map di), .slice 9 (b.map di)] [.bool r_] := by
 refine zh Tryz.func126 Z Z Z Z ?_;unfold qi at hr;refine zQ<|zR<|zM Z<|zN<|zT<|zQ<|zQ<|zR<|zM Z<|yS Z (cC Z Z (by kernel_rfl))<|zM Z<|yS Z (cC Z Z (by kernel_rfl))<|yS Z (ax Z Z Z Z)<|zN<|zT ?_;refine zX Z (fun g1 => ?_)<|fun g1 => ?_
 ·
  refine zi g1 hr fun hr => zQ<|zR<|zM Z<|zN<|zT<|zr<|af ?_;obtain rfl := zJ hr;exact zf (.one (.tmp Z)) zv
 ·
  refine zo g1 hr fun hr => zk<|zT<|zQ<|zQ<|zR<|zM Z<|zN<|zT ?_;obtain ⟨b_v1, hb_v1, ho_v1⟩ := zB hr;clear hr;refine LW.tailB (b := b_v1) (E := fun v1 => [(4, (bQ false))]) (O := fun v1 => []) ?_<|fun v1 e_v1 env_v1 H_v1 hw_v1 => ?_
  ·refine LW.block ?_;refine LW.iterB (E := fun x1 : dS => [(0, (kO a)), (1, (kO b)), (4, (bQ false)), (5, (iQ x1.i))]) (O := fun x1 => []) hb_v1 (zW 0 ⟨rfl, rfl, rfl, rfl, trivial⟩ Z Z Z Z)<|fun x1 z_x1 hr hb_x1 => ?_;unfold ip at hr;refine zQ<|zQ<|zR<|zM Z<|zM Z<|yS Z (cC Z Z (by kernel_rfl))<|yS Z (ax Z Z Z Z)<|zN<|zT ?_;refine zX Z (fun g2 => ?_)<|fun g2 => ?_
   ·
    refine zi g2 hr fun hr => zk<|zT<|zQ<|zl<|zQ<|LW.draw2 (by kernel_rfl) (by kernel_rfl)<|zH Z<|zH Z<|zb hr fun y1 h_y1 hr => yE Z (zx Z Z Z bv h_y1 Z)<|yE Z (ab.fieldAddrC Z Z eO Z)<|yE Z (cT Z Z Z aK Z Z)<|zH Z<|zH Z<|zb hr fun y2 h_y2 hr => yE Z (zx Z Z Z bv h_y2 Z)<|yE Z (ab.fieldAddrC Z Z eO Z)<|yE Z (cT Z Z Z aK Z Z)<|zb hr fun v2 h_v2 hr => yE Z (zC Z Z Z (by kernel_rfl) (zp (IC h_v2) (.cons zv (.cons zv .nil))))<|zH Z<|LO.nil<|zT ?_;refine zQ<|LW.draw2 (by kernel_rfl) (by kernel_rfl)<|zH Z<|yE Z (ab.not Z Z)<|zH Z ?_;refine LO.cases 31 Z (fun (g3 : (!v2) = true) => ?_) (fun (g3 : (!v2) = false) => ?_)
    ·
     refine zi g3 hr fun hr => LO.sk Z Z Z (gd g3 Z) Z Z<|LO.sk Z Z Z (gd g3 Z) Z Z<|LO.sk Z Z Z (gd g3 Z) Z Z<|LO.sk Z Z Z (gd g3 Z) Z Z<|LO.sk Z Z Z (gd g3 Z) Z Z<|LO.sk Z Z Z (gd g3 Z) Z Z<|LO.sk Z Z Z (gd g3 Z) Z Z<|LO.sk Z Z Z (gd g3 Z) Z Z<|LO.sk Z Z Z (gd g3 Z) Z Z<|LO.sk Z Z Z (gd g3 Z) Z Z<|LO.sk Z Z Z (gd g3 Z) Z Z<|yE Z (ca Z (aN g3 Z) Z)<|zH Z<|LO.sk Z Z Z Z Z Z<|LO.sk Z Z Z Z Z Z<|LO.sk Z Z Z Z Z Z<|LO.sk Z Z Z Z Z Z<|LO.sk Z Z Z Z Z Z<|LO.sk Z Z Z Z Z Z<|LO.sk Z Z Z Z Z Z<|LO.sk Z Z Z Z Z Z<|LO.sk Z Z Z Z Z Z<|LO.sk Z Z Z Z Z Z ?_;refine LO.sk Z Z Z Z Z Z<|yE Z (ca Z Z Z)<|zH Z<|LO.sk Z Z Z Z Z Z<|LO.sk Z Z Z Z Z Z<|LO.sk Z Z Z Z Z Z<|LO.sk Z Z Z Z Z Z<|LO.sk Z Z Z Z Z Z<|LO.sk Z Z Z Z Z Z<|LO.sk Z Z Z Z Z Z<|LO.sk Z Z Z Z Z Z<|LO.sk Z Z Z Z Z Z<|LO.sk Z Z Z Z Z Z<|LO.sk Z Z Z Z Z Z<|yE Z (ca Z Z Z)<|LO.nil<|zT<|LW.condT Z<|zQ<|zR<|zM Z<|zN<|zT<|zr ?_;refine aq<|af<|af<|aq<|af<|af ?_;obtain rfl := zJ hr;have hr := congrArg some (hb_x1 _ rfl);obtain rfl := zJ hr;have hr := ck ho_v1;obtain rfl := zJ hr;exact zf (.one (.tmp Z)) zv
    ·
     refine zo g3 hr fun hr => LO.gd Z Z Z (gd g3 Z) Z (zm Z Z)<|LO.gd Z Z Z (gd g3 Z) Z (zm Z Z)<|zb hr fun y3 h_y3 hr => LO.gd Z Z Z (gd g3 Z) Z (zx Z Z Z bv h_y3 Z)<|LO.gd Z Z Z (gd g3 Z) Z (ab.fieldAddrC Z Z jS Z)<|LO.gd Z Z Z (gd g3 Z) Z (cT Z Z Z aX Z Z)<|LO.gd Z Z Z (gd g3 Z) Z (zm Z Z)<|LO.gd Z Z Z (gd g3 Z) Z (zm Z Z)<|zb hr fun y4 h_y4 hr => LO.gd Z Z Z (gd g3 Z) Z (zx Z Z Z bv h_y4 Z)<|LO.gd Z Z Z (gd g3 Z) Z (ab.fieldAddrC Z Z jS Z)<|LO.gd Z Z Z (gd g3 Z) Z (cT Z Z Z aX Z Z)<|LO.gd Z Z Z (gd g3 Z) Z (ax Z Z Z Z)<|yE Z (a8 Z (aN g3 Z) Z)<|zH Z ?_;refine LO.cases 44 Z (fun (g4 : (y3.Slot != y4.Slot) = true) => ?_) (fun (g4 : (y3.Slot != y4.Slot) = false) => ?_)
     ·
      refine zi g4 hr fun hr => LO.sk Z Z Z (gd g4 Z) Z Z<|LO.sk Z Z Z (gd g4 Z) Z Z<|LO.sk Z Z Z (gd g4 Z) Z Z<|LO.sk Z Z Z (gd g4 Z) Z Z<|LO.sk Z Z Z (gd g4 Z) Z Z<|LO.sk Z Z Z (gd g4 Z) Z Z<|LO.sk Z Z Z (gd g4 Z) Z Z<|LO.sk Z Z Z (gd g4 Z) Z Z<|LO.sk Z Z Z (gd g4 Z) Z Z<|LO.sk Z Z Z (gd g4 Z) Z Z<|LO.sk Z Z Z (gd g4 Z) Z Z<|yE Z (ca Z (aN g4 Z) Z)<|zH Z<|LO.sk Z Z Z Z Z Z<|LO.sk Z Z Z Z Z Z<|LO.sk Z Z Z Z Z Z<|LO.sk Z Z Z Z Z Z<|LO.sk Z Z Z Z Z Z<|LO.sk Z Z Z Z Z Z<|LO.sk Z Z Z Z Z Z<|LO.sk Z Z Z Z Z Z<|LO.sk Z Z Z Z Z Z<|LO.sk Z Z Z Z Z Z ?_;refine LO.sk Z Z Z Z Z Z<|yE Z (ca Z Z Z)<|LO.nil<|zT<|LW.condT Z<|zQ<|zR<|zM Z<|zN<|zT<|zr<|aq<|af<|af<|aq<|af<|af ?_;obtain rfl := zJ hr;have hr := congrArg some (hb_x1 _ rfl);obtain rfl := zJ hr;have hr := ck ho_v1;obtain rfl := zJ hr;exact zf (.one (.tmp Z)) zv
     ·
      refine zo g4 hr fun hr => LO.gd Z Z Z (gd g4 Z) Z (zm Z Z)<|LO.gd Z Z Z (gd g4 Z) Z (zm Z Z)<|zb hr fun y5 h_y5 hr => LO.gd Z Z Z (gd g4 Z) Z (zx Z Z Z bv h_y5 Z)<|LO.gd Z Z Z (gd g4 Z) Z (ab.fieldAddrC Z Z jT Z)<|LO.gd Z Z Z (gd g4 Z) Z (cT Z Z Z aX Z Z)<|LO.gd Z Z Z (gd g4 Z) Z (zm Z Z)<|LO.gd Z Z Z (gd g4 Z) Z (zm Z Z)<|zb hr fun y6 h_y6 hr => LO.gd Z Z Z (gd g4 Z) Z (zx Z Z Z bv h_y6 Z)<|LO.gd Z Z Z (gd g4 Z) Z (ab.fieldAddrC Z Z jT Z)<|LO.gd Z Z Z (gd g4 Z) Z (cT Z Z Z aX Z Z)<|LO.gd Z Z Z (gd g4 Z) Z (ax Z Z Z Z)<|yE Z (a8 Z (aN g4 Z) Z)<|zH Z ?_;refine LO.cases 57 Z (fun (g5 : (y5.From != y6.From) = true) => ?_) (fun (g5 : (y5.From != y6.From) = false) => ?_)
      ·
       refine zi g5 hr fun hr => LO.sk Z Z Z (gd g5 Z) Z Z<|LO.sk Z Z Z (gd g5 Z) Z Z<|LO.sk Z Z Z (gd g5 Z) Z Z<|LO.sk Z Z Z (gd g5 Z) Z Z<|LO.sk Z Z Z (gd g5 Z) Z Z<|LO.sk Z Z Z (gd g5 Z) Z Z<|LO.sk Z Z Z (gd g5 Z) Z Z<|LO.sk Z Z Z (gd g5 Z) Z Z<|LO.sk Z Z Z (gd g5 Z) Z Z<|LO.sk Z Z Z (gd g5 Z) Z Z<|LO.sk Z Z Z (gd g5 Z) Z Z<|yE Z (ca Z (aN g5 Z) Z)<|LO.nil<|zT<|LW.condT Z<|zQ<|zR<|zM Z<|zN<|zT<|zr<|aq<|af ?_;refine af<|aq<|af<|af ?_;obtain rfl := zJ hr;have hr := congrArg some (hb_x1 _ rfl);obtain rfl := zJ hr;have hr := ck ho_v1;obtain rfl := zJ hr;exact zf (.one (.tmp Z)) zv
      ·
       refine zo g5 hr fun hr => LO.gd Z Z Z (gd g5 Z) Z (zm Z Z)<|LO.gd Z Z Z (gd g5 Z) Z (zm Z Z)<|zb hr fun y7 h_y7 hr => LO.gd Z Z Z (gd g5 Z) Z (zx Z Z Z bv h_y7 Z)<|LO.gd Z Z Z (gd g5 Z) Z (ab.fieldAddrC Z Z jU Z)<|LO.gd Z Z Z (gd g5 Z) Z (cT Z Z Z cj Z Z)<|LO.gd Z Z Z (gd g5 Z) Z (zm Z Z)<|LO.gd Z Z Z (gd g5 Z) Z (zm Z Z)<|zb hr fun y8 h_y8 hr => LO.gd Z Z Z (gd g5 Z) Z (zx Z Z Z bv h_y8 Z)<|LO.gd Z Z Z (gd g5 Z) Z (ab.fieldAddrC Z Z jU Z)<|LO.gd Z Z Z (gd g5 Z) Z (cT Z Z Z cj Z Z)<|LO.gd Z Z Z (gd g5 Z) Z (ab.neqAgg Z Z Z Z Z tc)<|yE Z (a8 Z (aN g5 Z) Z)<|LO.nil<|zT ?_;refine zX Z (fun g6 => ?_)<|fun g6 => ?_
       ·
        refine zi g6 hr fun hr => zQ<|zR<|zM Z<|zN<|zT<|zr<|aq<|af<|af<|aq<|af<|af ?_;obtain rfl := zJ hr;have hr := congrArg some (hb_x1 _ rfl);obtain rfl := zJ hr;have hr := ck ho_v1;obtain rfl := zJ hr;exact zf (.one (.tmp Z)) zv
       ·
        refine zo g6 hr fun hr => zk<|ai<|zT<|zR<|zM Z<|yS Z (ax Z Z Z Z)<|zM Z<|zN<|zT ?_;obtain rfl := zJ hr;exact ⟨_, rfl, zW 0 ⟨rfl, rfl, rfl, rfl, trivial⟩ Z Z Z rfl⟩
   ·
    refine zo g2 hr fun hr => zq<|ao<|ao<|zy<|zT ?_;obtain rfl := zJ hr;have hr := congrArg some (hb_x1 _ rfl);obtain rfl := zJ hr;exact ⟨_, rfl, zW 0 ⟨rfl, trivial⟩ Z Z Z rfl⟩
  ·obtain rfl := e_v1;have hr := dK ho_v1;clear hb_v1;refine zT<|LW.weak hw_v1<|zQ<|zR<|zM Z<|zN<|zT<|zr ?_;obtain rfl := zJ hr;exact zf (.one (.tmp Z)) zv
def so (a : Nd) (b : Nd) : Option Bool :=
 (D1 a.V b.V).bind fun v1 =>
 (D1 a.In b.In).bind fun v2 =>
 (qi a.O b.O).bind fun v3 =>
 bif v1 then
  bif v2 then
   bif v3 then
    bif a.No == b.No then
     bif a.Tick == b.Tick then
      bif ((a.C.ID.1 == b.C.ID.1) && ((a.C.ID.2 == b.C.ID.2) && ((a.C.Slot == b.C.Slot) && ((a.C.Revoked == b.C.Revoked) && true)))) then
       some (a.Full == b.Full)
      else
       some false
     else
      some false
    else
     some false
   else
    some false
  else
   some false
 else
  some false
theorem F1 {a : Nd} {b : Nd} {r_ : Bool} (hr : so a b = some r_) : aw Tryz.prog 72 [gW a, gW b] [.bool r_] := by
 refine zh Tryz.func72 Z Z Z Z ?_;unfold so at hr;refine zQ<|zR<|yS Z (bV Z Z Z Z Z)<|yS Z (bV Z Z Z Z Z)<|zM Z<|zN<|zT<|zQ<|zR<|yS Z (zA Z Z bR)<|yS Z (zD Z Z Z aK Z Z)<|yS Z (zA Z Z bR)<|yS Z (zD Z Z Z aK Z Z)<|zb hr fun v1 h_v1 hr => yS Z (zC Z Z Z (by kernel_rfl) (zp (IC h_v1) (.cons zv (.cons zv .nil))))<|zM Z<|zN<|zT<|zQ<|zR<|yS Z (zA Z Z bF)<|yS Z (zD Z Z Z aK Z Z)<|yS Z (zA Z Z bF)<|yS Z (zD Z Z Z aK Z Z) ?_;refine zb hr fun v2 h_v2 hr => yS Z (zC Z Z Z (by kernel_rfl) (zp (IC h_v2) (.cons zv (.cons zv .nil))))<|zM Z<|zN<|zT<|zQ<|zR<|yS Z (zA Z Z bI)<|yS Z (zD Z Z Z bl Z Z)<|yS Z (zA Z Z bI)<|yS Z (zD Z Z Z bl Z Z)<|zb hr fun v3 h_v3 hr => yS Z (zC Z Z Z (by kernel_rfl) (zp (De h_v3) (.cons zv (.cons zv .nil))))<|zM Z<|zN<|zT<|zQ<|zR<|zM Z<|zM Z ?_;refine zc 24 Z (fun g1 => ?_)<|fun g1 => ?_
 ·
  refine zi g1 hr fun hr => yV Z (gd g1 Z) (zm Z Z)<|yS Z (ca Z (aN g1 Z) Z)<|zM Z ?_;refine zc 27 Z (fun g2 => ?_)<|fun g2 => ?_
  ·
   refine zi g2 hr fun hr => yV Z (gd g2 Z) (zm Z Z)<|yS Z (ca Z (aN g2 Z) Z)<|zM Z ?_;refine zc 30 Z (fun g3 => ?_)<|fun g3 => ?_
   ·
    refine zi g3 hr fun hr => yV Z (gd g3 Z) (zA Z Z eN)<|yV Z (gd g3 Z) (zD Z Z Z aX Z Z)<|yV Z (gd g3 Z) (zA Z Z eN)<|yV Z (gd g3 Z) (zD Z Z Z aX Z Z)<|yV Z (gd g3 Z) (ax Z Z Z Z)<|yS Z (ca Z (aN g3 Z) Z)<|zM Z ?_;refine zc 37 Z (fun g4 => ?_)<|fun g4 => ?_
    ·
     refine zi g4 hr fun hr => yV Z (gd g4 Z) (zA Z Z b8)<|yV Z (gd g4 Z) (zD Z Z Z aX Z Z)<|yV Z (gd g4 Z) (zA Z Z b8)<|yV Z (gd g4 Z) (zD Z Z Z aX Z Z)<|yV Z (gd g4 Z) (ax Z Z Z Z)<|yS Z (ca Z (aN g4 Z) Z)<|zM Z ?_;refine zc 44 Z (fun g5 => ?_)<|fun g5 => ?_
     ·
      refine zi g5 hr fun hr => yV Z (gd g5 Z) (zA Z Z gm)<|yV Z (gd g5 Z) (zD Z Z Z gC Z Z)<|yV Z (gd g5 Z) (zA Z Z gm)<|yV Z (gd g5 Z) (zD Z Z Z gC Z Z)<|yV Z (gd g5 Z) (ab.eqlAgg Z Z Z Z Z Dt)<|yS Z (ca Z (aN g5 Z) Z)<|zM Z ?_;refine zc 51 Z (fun g6 => ?_)<|fun g6 => ?_
      ·
       refine zi g6 hr fun hr => yV Z (gd g6 Z) (zA Z Z fx)<|yV Z (gd g6 Z) (zD Z Z Z vC Z Z)<|yV Z (gd g6 Z) (zA Z Z fx)<|yV Z (gd g6 Z) (zD Z Z Z vC Z Z)<|yV Z (gd g6 Z) (ab.eqlBool Z Z Z Tryz.underlying4)<|yS Z (ca Z (aN g6 Z) Z)<|zM Z<|zN<|zT<|zr ?_;obtain rfl := zJ hr;exact zf (.one (.tmp Z)) zv
      ·
       refine zo g6 hr fun hr => yU Z (gd g6 Z) Z<|yU Z (gd g6 Z) Z<|yU Z (gd g6 Z) Z<|yU Z (gd g6 Z) Z<|yU Z (gd g6 Z) Z<|yS Z (a8 Z (aN g6 Z) Z)<|zM Z<|zN<|zT<|zr ?_;obtain rfl := zJ hr;exact zf (.one (.tmp Z)) zv
     ·
      refine zo g5 hr fun hr => yU Z (gd g5 Z) Z<|yU Z (gd g5 Z) Z<|yU Z (gd g5 Z) Z<|yU Z (gd g5 Z) Z<|yU Z (gd g5 Z) Z<|yS Z (a8 Z (aN g5 Z) Z)<|zM Z<|yU Z Z Z<|yU Z Z Z<|yU Z Z Z<|yU Z Z Z<|yU Z Z Z<|yS Z (a8 Z Z Z)<|zM Z<|zN<|zT<|zr ?_;obtain rfl := zJ hr;exact zf (.one (.tmp Z)) zv
    ·
     refine zo g4 hr fun hr => yU Z (gd g4 Z) Z<|yU Z (gd g4 Z) Z<|yU Z (gd g4 Z) Z<|yU Z (gd g4 Z) Z<|yU Z (gd g4 Z) Z<|yS Z (a8 Z (aN g4 Z) Z)<|zM Z<|yU Z Z Z<|yU Z Z Z<|yU Z Z Z<|yU Z Z Z<|yU Z Z Z<|yS Z (a8 Z Z Z)<|zM Z<|yU Z Z Z<|yU Z Z Z<|yU Z Z Z<|yU Z Z Z<|yU Z Z Z<|yS Z (a8 Z Z Z)<|zM Z<|zN<|zT ?_;refine LW.ret ?_;obtain rfl := zJ hr;exact zf (.one (.tmp Z)) zv
   ·
    refine zo g3 hr fun hr => yU Z (gd g3 Z) Z<|yU Z (gd g3 Z) Z<|yU Z (gd g3 Z) Z<|yU Z (gd g3 Z) Z<|yU Z (gd g3 Z) Z<|yS Z (a8 Z (aN g3 Z) Z)<|zM Z<|yU Z Z Z<|yU Z Z Z<|yU Z Z Z<|yU Z Z Z<|yU Z Z Z<|yS Z (a8 Z Z Z)<|zM Z<|yU Z Z Z<|yU Z Z Z<|yU Z Z Z<|yU Z Z Z<|yU Z Z Z<|yS Z (a8 Z Z Z)<|zM Z<|yU Z Z Z<|yU Z Z Z ?_;refine yU Z Z Z<|yU Z Z Z<|yU Z Z Z<|yS Z (a8 Z Z Z)<|zM Z<|zN<|zT<|zr ?_;obtain rfl := zJ hr;exact zf (.one (.tmp Z)) zv
  ·
   refine zo g2 hr fun hr => yU Z (gd g2 Z) Z<|yS Z (a8 Z (aN g2 Z) Z)<|zM Z<|yU Z Z Z<|yU Z Z Z<|yU Z Z Z<|yU Z Z Z<|yU Z Z Z<|yS Z (a8 Z Z Z)<|zM Z<|yU Z Z Z<|yU Z Z Z<|yU Z Z Z<|yU Z Z Z<|yU Z Z Z<|yS Z (a8 Z Z Z)<|zM Z<|yU Z Z Z<|yU Z Z Z<|yU Z Z Z<|yU Z Z Z<|yU Z Z Z<|yS Z (a8 Z Z Z) ?_;refine zM Z<|yU Z Z Z<|yU Z Z Z<|yU Z Z Z<|yU Z Z Z<|yU Z Z Z<|yS Z (a8 Z Z Z)<|zM Z<|zN<|zT<|zr ?_;obtain rfl := zJ hr;exact zf (.one (.tmp Z)) zv
 ·
  refine zo g1 hr fun hr => yU Z (gd g1 Z) Z<|yS Z (a8 Z (aN g1 Z) Z)<|zM Z<|yU Z Z Z<|yS Z (a8 Z Z Z)<|zM Z<|yU Z Z Z<|yU Z Z Z<|yU Z Z Z<|yU Z Z Z<|yU Z Z Z<|yS Z (a8 Z Z Z)<|zM Z<|yU Z Z Z<|yU Z Z Z<|yU Z Z Z<|yU Z Z Z<|yU Z Z Z<|yS Z (a8 Z Z Z)<|zM Z<|yU Z Z Z<|yU Z Z Z<|yU Z Z Z ?_;refine yU Z Z Z<|yU Z Z Z<|yS Z (a8 Z Z Z)<|zM Z<|yU Z Z Z<|yU Z Z Z<|yU Z Z Z<|yU Z Z Z<|yU Z Z Z<|yS Z (a8 Z Z Z)<|zM Z<|zN<|zT<|zr ?_;obtain rfl := zJ hr;exact zf (.one (.tmp Z)) zv
def vY (a : List Of) (b : List Of) : Option Bool :=
 (qi a b).bind fun v1 =>
 some v1
theorem F2 {a : List Of} {b : List Of} {r_ : Bool} (hr : vY a b = some r_) : aw Tryz.prog 71 [.slice 9 (a.map di), .slice 9 (b.map di)] [.bool r_] := by
 refine zh Tryz.func71 Z Z Z Z ?_;unfold vY at hr;refine zQ<|zR<|zM Z<|zN<|zT<|zQ<|zR<|zM Z<|zM Z<|zb hr fun v1 h_v1 hr => yS Z (zC Z Z Z (by kernel_rfl) (zp (De h_v1) (.cons zv (.cons zv .nil))))<|zM Z<|zN<|zT<|zQ<|zR<|zM Z<|zM Z<|zN<|zT<|zr ?_;obtain rfl := zJ hr;exact zf (.one (.tmp Z)) zv
structure dV where
 i : Int
structure dx where
 i : Int
def iv (a : Wd) (b : Wd) (x1 : dV) : Option (dV ⊕ (dV ⊕ Bool)) :=
 bif decide (x1.i < (a.Bad.length : Int)) then
  (ix a.Bad x1.i).bind fun y1 =>
  (ix b.Bad x1.i).bind fun y2 =>
  bif y1 != y2 then
   some (.inr (.inr false))
  else
   some (.inl (dV.mk (IntKind.i64.wrap (x1.i + 1))))
 else
  some (.inr (.inl (dV.mk x1.i)))
def ga (a : Wd) (b : Wd) (x2 : dx) : Option (dx ⊕ (dx ⊕ Bool)) :=
 bif decide (x2.i < (a.N.length : Int)) then
  (ix a.N x2.i).bind fun y3 =>
  (ix b.N x2.i).bind fun y4 =>
  (so y3 y4).bind fun v5 =>
  bif !v5 then
   some (.inr (.inr false))
  else
   some (.inl (dx.mk (IntKind.i64.wrap (x2.i + 1))))
 else
  some (.inr (.inl (dx.mk x2.i)))
def qo (a : Wd) (b : Wd) : Option Bool :=
 (vY a.O b.O).bind fun v1 =>
 (
  bif !v1 then
   some true
  else
   bif a.Tick != b.Tick then
    some true
   else
    bif (a.Bad.length : Int) != (b.Bad.length : Int) then
     some true
    else
     some ((a.N.length : Int) != (b.N.length : Int))
 ).bind fun v2 =>
 bif v2 then
  some false
 else
  (iter (iv a b) bH (dV.mk 0)).bind fun b_v3 => Sum.elim (fun _ =>
   (iter (ga a b) bH (dx.mk 0)).bind fun b_v4 => Sum.elim (fun _ =>
    some true) some b_v4) some b_v3
theorem Gd {a : Wd} {b : Wd} {r_ : Bool} (hr : qo a b = some r_) : aw Tryz.prog 35 [ya a, ya b] [.bool r_] := by
 refine zh Tryz.func35 Z Z Z Z ?_;unfold qo at hr;refine zQ<|zR<|yS Z (bV Z Z Z Z Z)<|yS Z (bV Z Z Z Z Z)<|zM Z<|zN<|zT<|zQ<|zR<|yS Z (zA Z Z eM)<|yS Z (zD Z Z Z bl Z Z)<|yS Z (zA Z Z eM)<|yS Z (zD Z Z Z bl Z Z)<|zb hr fun v1 h_v1 hr => yS Z (zC Z Z Z (by kernel_rfl) (zp (F2 h_v1) (.cons zv (.cons zv .nil))))<|zM Z<|zN<|zT<|zQ ?_;obtain ⟨v2, hb_v2, ho_v2⟩ := zB hr;clear hr;refine LW.cut (E := [(2, .ptr 0 0), (3, .ptr 1 0), (4, (bQ false)), (40, (bQ v2))]) (O := [.box (fX a), .box (fX b)]) ?_ ?_
 ·have hr := hb_v2;refine zR<|zM Z<|yS Z (ab.not Z Z)<|zM Z ?_;refine zc 16 Z (fun g1 => ?_)<|fun g1 => ?_
  ·
   refine zi g1 hr fun hr => yU Z (gd g1 Z) Z<|yU Z (gd g1 Z) Z<|yU Z (gd g1 Z) Z<|yU Z (gd g1 Z) Z<|yU Z (gd g1 Z) Z<|yS Z (ca Z (aN g1 Z) Z)<|zM Z<|yU Z Z Z<|yU Z Z Z<|yU Z Z Z<|yU Z Z Z<|yU Z Z Z<|yU Z Z Z<|yU Z Z Z<|yS Z (ca Z Z Z)<|zM Z<|yU Z Z Z<|yU Z Z Z<|yU Z Z Z<|yU Z Z Z<|yU Z Z Z<|yU Z Z Z<|yU Z Z Z ?_;refine yS Z (ca Z Z Z)<|zN<|zT ?_;obtain rfl := zJ hr;exact zW 2 ⟨Z, Z, Z, Z, trivial⟩ Z Z Z Z
  ·
   refine zo g1 hr fun hr => yV Z (gd g1 Z) (zA Z Z dA)<|yV Z (gd g1 Z) (zD Z Z Z aX Z Z)<|yV Z (gd g1 Z) (zA Z Z dA)<|yV Z (gd g1 Z) (zD Z Z Z aX Z Z)<|yV Z (gd g1 Z) (ax Z Z Z Z)<|yS Z (a8 Z (aN g1 Z) Z)<|zM Z ?_;refine zc 23 Z (fun g2 => ?_)<|fun g2 => ?_
   ·
    refine zi g2 hr fun hr => yU Z (gd g2 Z) Z<|yU Z (gd g2 Z) Z<|yU Z (gd g2 Z) Z<|yU Z (gd g2 Z) Z<|yU Z (gd g2 Z) Z<|yU Z (gd g2 Z) Z<|yU Z (gd g2 Z) Z<|yS Z (ca Z (aN g2 Z) Z)<|zM Z<|yU Z Z Z<|yU Z Z Z<|yU Z Z Z<|yU Z Z Z<|yU Z Z Z<|yU Z Z Z<|yU Z Z Z<|yS Z (ca Z Z Z)<|zN<|zT ?_;obtain rfl := zJ hr;exact zW 2 ⟨Z, Z, Z, Z, trivial⟩ Z Z Z Z
   ·
    refine zo g2 hr fun hr => yV Z (gd g2 Z) (zA Z Z df)<|yV Z (gd g2 Z) (zD Z Z Z eU Z Z)<|yV Z (gd g2 Z) (cC Z Z (by kernel_rfl))<|yV Z (gd g2 Z) (zA Z Z df)<|yV Z (gd g2 Z) (zD Z Z Z eU Z Z)<|yV Z (gd g2 Z) (cC Z Z (by kernel_rfl))<|yV Z (gd g2 Z) (ax Z Z Z Z)<|yS Z (a8 Z (aN g2 Z) Z)<|zM Z ?_;refine zc 32 Z (fun g3 => ?_)<|fun g3 => ?_
    ·
     refine zi g3 hr fun hr => yU Z (gd g3 Z) Z<|yU Z (gd g3 Z) Z<|yU Z (gd g3 Z) Z<|yU Z (gd g3 Z) Z<|yU Z (gd g3 Z) Z<|yU Z (gd g3 Z) Z<|yU Z (gd g3 Z) Z<|yS Z (ca Z (aN g3 Z) Z)<|zN<|zT ?_;obtain rfl := zJ hr;exact zW 2 ⟨Z, Z, Z, Z, trivial⟩ Z Z Z Z
    ·
     refine zo g3 hr fun hr => yV Z (gd g3 Z) (zA Z Z bA)<|yV Z (gd g3 Z) (zD Z Z Z cQ Z Z)<|yV Z (gd g3 Z) (cC Z Z (by kernel_rfl))<|yV Z (gd g3 Z) (zA Z Z bA)<|yV Z (gd g3 Z) (zD Z Z Z cQ Z Z)<|yV Z (gd g3 Z) (cC Z Z (by kernel_rfl))<|yV Z (gd g3 Z) (ax Z Z Z Z)<|yS Z (a8 Z (aN g3 Z) Z)<|zN<|zT ?_;obtain rfl := zJ hr;exact zW 2 ⟨Z, Z, Z, Z, trivial⟩ Z Z Z Z
 ·have hr := ho_v2;clear hb_v2;refine zX Z (fun g4 => ?_)<|fun g4 => ?_
  ·
   refine zi g4 hr fun hr => zQ<|zR<|zM Z<|zN<|zT<|zr<|af ?_;obtain rfl := zJ hr;exact zf (.one (.tmp Z)) zv
  ·
   refine zo g4 hr fun hr => zk<|zT<|zQ<|zQ<|zR<|zM Z<|zN<|zT ?_;obtain ⟨b_v3, hb_v3, ho_v3⟩ := zB hr;clear hr;refine LW.tailB (b := b_v3) (E := fun v3 => [(2, .ptr 0 0), (3, .ptr 1 0), (4, (bQ false))]) (O := fun v3 => [.box (fX a), .box (fX b)]) ?_<|fun v3 e_v3 env_v3 H_v3 hw_v3 => ?_
   ·refine LW.block ?_;refine LW.iterB (E := fun x1 : dV => [(2, .ptr 0 0), (3, .ptr 1 0), (4, (bQ false)), (6, (iQ x1.i))]) (O := fun x1 => [.box (fX a), .box (fX b)]) hb_v3 (zW 2 ⟨rfl, rfl, rfl, rfl, trivial⟩ Z Z Z Z)<|fun x1 z_x1 hr hb_x1 => ?_;unfold iv at hr;refine zQ<|zQ<|zR<|zM Z<|yS Z (zA Z Z df)<|yS Z (zD Z Z Z eU Z Z)<|yS Z (cC Z Z (by kernel_rfl))<|yS Z (ax Z Z Z Z)<|zN<|zT ?_;refine zX Z (fun g5 => ?_)<|fun g5 => ?_
    ·
     refine zi g5 hr fun hr => zk<|zT<|zQ<|zl<|zQ<|LW.draw2 (by kernel_rfl) (by kernel_rfl)<|yE Z (zA Z Z df)<|yE Z (zD Z Z Z eU Z Z)<|zH Z<|zb hr fun y1 h_y1 hr => yE Z (zx Z Z Z fP h_y1 Z)<|yE Z (cT Z Z Z aX Z Z)<|yE Z (zA Z Z df)<|yE Z (zD Z Z Z eU Z Z)<|zH Z<|zb hr fun y2 h_y2 hr => yE Z (zx Z Z Z fP h_y2 Z)<|yE Z (cT Z Z Z aX Z Z)<|yE Z (ax Z Z Z Z)<|LO.nil<|zT ?_;refine zX Z (fun g6 => ?_)<|fun g6 => ?_
     ·
      refine zi g6 hr fun hr => zQ<|zR<|zM Z<|zN<|zT<|zr<|aq<|af<|af<|aq<|af<|af ?_;obtain rfl := zJ hr;have hr := congrArg some (hb_x1 _ rfl);obtain rfl := zJ hr;have hr := ck ho_v3;obtain rfl := zJ hr;exact zf (.one (.tmp Z)) zv
     ·
      refine zo g6 hr fun hr => zk<|ai<|zT<|zR<|zM Z<|yS Z (ax Z Z Z Z)<|zM Z<|zN<|zT ?_;obtain rfl := zJ hr;exact ⟨_, rfl, zW 2 ⟨rfl, rfl, rfl, rfl, trivial⟩ Z Z Z rfl⟩
    ·
     refine zo g5 hr fun hr => zq<|ao<|ao<|zy<|zT ?_;obtain rfl := zJ hr;have hr := congrArg some (hb_x1 _ rfl);obtain rfl := zJ hr;exact ⟨_, rfl, zW 2 ⟨rfl, rfl, rfl, trivial⟩ Z Z Z rfl⟩
   ·obtain rfl := e_v3;have hr := dK ho_v3;clear hb_v3;refine zT<|LW.weak hw_v3<|zQ<|zQ<|zR<|zM Z<|zN<|zT ?_;obtain ⟨b_v4, hb_v4, ho_v4⟩ := zB hr;clear hr;refine LW.tailB (b := b_v4) (E := fun v4 => [(4, (bQ false))]) (O := fun v4 => [.box (fX a), .box (fX b)]) ?_<|fun v4 e_v4 env_v4 H_v4 hw_v4 => ?_
    ·refine LW.block ?_;refine LW.iterB (E := fun x2 : dx => [(2, .ptr 0 0), (3, .ptr 1 0), (4, (bQ false)), (7, (iQ x2.i))]) (O := fun x2 => [.box (fX a), .box (fX b)]) hb_v4 (zW 2 ⟨rfl, rfl, rfl, rfl, trivial⟩ Z Z Z Z)<|fun x2 z_x2 hr hb_x2 => ?_;unfold ga at hr;refine zQ<|zQ<|zR<|zM Z<|yS Z (zA Z Z bA)<|yS Z (zD Z Z Z cQ Z Z)<|yS Z (cC Z Z (by kernel_rfl))<|yS Z (ax Z Z Z Z)<|zN<|zT ?_;refine zX Z (fun g7 => ?_)<|fun g7 => ?_
     ·
      refine zi g7 hr fun hr => zk<|zT<|zQ<|zl<|zQ<|LW.draw2 (by kernel_rfl) (by kernel_rfl)<|yE Z (zA Z Z bA)<|yE Z (zD Z Z Z cQ Z Z)<|zH Z<|zb hr fun y3 h_y3 hr => yE Z (zx Z Z Z er h_y3 Z)<|yE Z (cT Z Z Z bZ Z Z)<|yE Z (zA Z Z bA)<|yE Z (zD Z Z Z cQ Z Z)<|zH Z<|zb hr fun y4 h_y4 hr => yE Z (zx Z Z Z er h_y4 Z)<|yE Z (cT Z Z Z bZ Z Z)<|zb hr fun v5 h_v5 hr => yE Z (zC Z Z Z (by kernel_rfl) (zp (F1 h_v5) (.cons zv (.cons zv .nil))))<|zH Z<|LO.nil<|zT ?_;refine zQ<|zR<|zM Z<|yS Z (ab.not Z Z)<|zN<|zT ?_;refine zX Z (fun g8 => ?_)<|fun g8 => ?_
      ·
       refine zi g8 hr fun hr => zQ<|zR<|zM Z<|zN<|zT<|zr<|aq<|af<|af<|aq<|af<|af ?_;obtain rfl := zJ hr;have hr := congrArg some (hb_x2 _ rfl);obtain rfl := zJ hr;have hr := ck ho_v4;obtain rfl := zJ hr;exact zf (.one (.tmp Z)) zv
      ·
       refine zo g8 hr fun hr => zk<|ai<|zT<|zR<|zM Z<|yS Z (ax Z Z Z Z)<|zM Z<|zN<|zT ?_;obtain rfl := zJ hr;exact ⟨_, rfl, zW 2 ⟨rfl, rfl, rfl, rfl, trivial⟩ Z Z Z rfl⟩
     ·
      refine zo g7 hr fun hr => zq<|ao<|ao<|zy<|zT ?_;obtain rfl := zJ hr;have hr := congrArg some (hb_x2 _ rfl);obtain rfl := zJ hr;exact ⟨_, rfl, zW 2 ⟨rfl, trivial⟩ Z Z Z rfl⟩
    ·obtain rfl := e_v4;have hr := dK ho_v4;clear hb_v4;refine zT<|LW.weak hw_v4<|zQ<|zR<|zM Z<|zN<|zT<|zr ?_;obtain rfl := zJ hr;exact zf (.one (.tmp Z)) zv
structure iX where
 t17 : Int
def wc (s1 : List Nd) (s2 : List Nd) (x1 : iX) : Option (iX ⊕ (iX ⊕ Bool)) :=
 bif decide (x1.t17 < (s1.length : Int)) then
  (ix s1 x1.t17).bind fun y1 =>
  (ix s2 x1.t17).bind fun y2 =>
  (vX y1 y2).bind fun v2 =>
  bif !v2 then
   some (.inr (.inr false))
  else
   some (.inl (iX.mk (IntKind.i64.wrap (x1.t17 + 1))))
 else
  some (.inr (.inl (iX.mk x1.t17)))
def D6 (s1 : List Nd) (s2 : List Nd) : Option Bool :=
 bif (s1.length : Int) != (s2.length : Int) then
  some false
 else
  (iter (wc s1 s2) bH (iX.mk 0)).bind fun b_v1 => Sum.elim (fun _ =>
   some true) some b_v1
theorem Gv {s1 : List Nd} {s2 : List Nd} {r_ : Bool} (hr : D6 s1 s2 = some r_) : LC Tryz.prog 122 [.p (.slice 12 (s1.map gW)), .p (.slice 12 (s2.map gW)), .fn 120 [] []] [] (Is (bQ r_) []) := by
 refine dt Tryz.func122 Z Z Z ?_;unfold D6 at hr;refine zQ<|zR<|zM Z<|zN<|zT<|zQ<|zQ<|zR<|zM Z<|yS Z (cC Z Z (by kernel_rfl))<|zM Z<|yS Z (cC Z Z (by kernel_rfl))<|yS Z (ax Z Z Z Z)<|zN<|zT ?_;refine zX Z (fun g1 => ?_)<|fun g1 => ?_
 ·
  refine zi g1 hr fun hr => zQ<|zR<|zM Z<|zN<|zT<|zr<|af ?_;obtain rfl := zJ hr;exact ap (.one (.tmp Z))<|⟨rfl, rfl⟩
 ·
  refine zo g1 hr fun hr => zk<|zT<|zQ<|zQ<|zR<|zM Z<|yS Z (cC Z Z (by kernel_rfl))<|zM Z<|zN<|zT ?_;obtain ⟨b_v1, hb_v1, ho_v1⟩ := zB hr;clear hr;refine LW.tailB (b := b_v1) (E := fun v1 => [(6, (bQ false))]) (O := fun v1 => []) ?_<|fun v1 e_v1 env_v1 H_v1 hw_v1 => ?_
  ·refine LW.block ?_;refine LW.iterB (E := fun x1 : iX => [(1, .p (.slice 12 (s2.map gW))), (2, .fn 120 [] []), (6, (bQ false)), (15, .p (.slice 12 (s1.map gW))), (16, .p (.int .i64 (s1.length : Int))), (17, (iQ x1.t17))]) (O := fun x1 => []) hb_v1 (zW 0 ⟨rfl, rfl, rfl, rfl, rfl, rfl, trivial⟩ Z Z Z Z)<|fun x1 z_x1 hr hb_x1 => ?_;unfold wc at hr;refine zQ<|zR<|yS Z (ax Z Z Z Z)<|zN<|zT<|zQ ?_;refine zX Z (fun g2 => ?_)<|fun g2 => ?_
   ·
    refine zi g2 hr fun hr => zk<|zT<|zQ<|zl<|zQ<|zR<|zM Z<|zb hr fun y1 h_y1 hr => yS Z (zx Z Z Z er h_y1 Z)<|yS Z (cT Z Z Z bZ Z Z)<|yS Z (ze Z nl Z Z)<|zM Z<|yS Z (zs Z Z Z Z bZ Z Z Z Z)<|zN<|zT<|zQ<|zR<|zM Z<|zM Z<|zb hr fun y2 h_y2 hr => yS Z (zx Z Z Z er h_y2 Z)<|yS Z (cT Z Z Z bZ Z Z)<|yS Z (ze Z nl Z Z) ?_;refine yS Z (zs Z Z Z Z bZ Z Z Z Z)<|zN<|zT<|zQ<|zR<|zM Z<|yS Z (zD Z Z Z bZ Z Z)<|yS Z (zD Z Z Z bZ Z Z)<|zb hr fun v2 h_v2 hr => yS Z (zC Z Z Z (by kernel_rfl) (zp (Dd h_v2) (.cons zv (.cons zv .nil))))<|yS Z (ab.not Z Z)<|zN<|zT ?_;refine zX Z (fun g3 => ?_)<|fun g3 => ?_
    ·
     refine zi g3 hr fun hr => zQ<|zR<|zM Z<|zN<|zT<|zr<|aq<|af<|af<|aq<|af<|af ?_;obtain rfl := zJ hr;have hr := congrArg some (hb_x1 _ rfl);obtain rfl := zJ hr;have hr := ck ho_v1;obtain rfl := zJ hr;exact aS (env' := [(6, (bQ false))]) (H' := []) (zW 0 ⟨rfl, trivial⟩ Z Z Z Z) (.one (.tmp Z))<|⟨rfl, rfl⟩
    ·
     refine zo g3 hr fun hr => zk<|ai<|zT<|zR<|yS Z (ax Z Z Z Z)<|zM Z<|zN<|zT ?_;obtain rfl := zJ hr;exact ⟨_, rfl, zW 0 ⟨rfl, rfl, rfl, rfl, rfl, rfl, trivial⟩ Z Z Z rfl⟩
   ·
    refine zo g2 hr fun hr => zq<|ao<|ao<|zy<|zT ?_;obtain rfl := zJ hr;have hr := congrArg some (hb_x1 _ rfl);obtain rfl := zJ hr;exact ⟨_, rfl, zW 0 ⟨rfl, trivial⟩ Z Z Z rfl⟩
  ·obtain rfl := e_v1;have hr := dK ho_v1;clear hb_v1;refine zT<|LW.weak hw_v1<|zQ<|zR<|zM Z<|zN<|zT<|zr ?_;obtain rfl := zJ hr;exact ap (.one (.tmp Z))<|⟨rfl, rfl⟩
structure gc where
 t13 : Int
def sC (s1 : List Int) (s2 : List Int) (x1 : gc) : Option (gc ⊕ (gc ⊕ Bool)) :=
 bif decide (x1.t13 < (s1.length : Int)) then
  (ix s1 x1.t13).bind fun y1 =>
  (ix s2 x1.t13).bind fun y2 =>
  bif y1 != y2 then
   some (.inr (.inr false))
  else
   some (.inl (gc.mk (IntKind.i64.wrap (x1.t13 + 1))))
 else
  some (.inr (.inl (gc.mk x1.t13)))
def yZ (s1 : List Int) (s2 : List Int) : Option Bool :=
 bif (s1.length : Int) != (s2.length : Int) then
  some false
 else
  (iter (sC s1 s2) bH (gc.mk 0)).bind fun b_v1 => Sum.elim (fun _ =>
   some true) some b_v1
theorem Gf {s1 : List Int} {s2 : List Int} {r_ : Bool} (hr : yZ s1 s2 = some r_) : aw Tryz.prog 121 [.slice 1 (s1.map aB), .slice 1 (s2.map aB)] [.bool r_] := by
 refine zh Tryz.func121 Z Z Z Z ?_;unfold yZ at hr;refine zQ<|zR<|zM Z<|zN<|zT<|zQ<|zQ<|zR<|zM Z<|yS Z (cC Z Z (by kernel_rfl))<|zM Z<|yS Z (cC Z Z (by kernel_rfl))<|yS Z (ax Z Z Z Z)<|zN<|zT ?_;refine zX Z (fun g1 => ?_)<|fun g1 => ?_
 ·
  refine zi g1 hr fun hr => zQ<|zR<|zM Z<|zN<|zT<|zr<|af ?_;obtain rfl := zJ hr;exact zf (.one (.tmp Z)) zv
 ·
  refine zo g1 hr fun hr => zk<|zT<|zQ<|zQ<|zR<|zM Z<|yS Z (cC Z Z (by kernel_rfl))<|zM Z<|zN<|zT ?_;obtain ⟨b_v1, hb_v1, ho_v1⟩ := zB hr;clear hr;refine LW.tailB (b := b_v1) (E := fun v1 => [(4, (bQ false))]) (O := fun v1 => []) ?_<|fun v1 e_v1 env_v1 H_v1 hw_v1 => ?_
  ·refine LW.block ?_;refine LW.iterB (E := fun x1 : gc => [(0, (kI s1)), (1, (kI s2)), (4, (bQ false)), (12, .p (.int .i64 (s1.length : Int))), (13, (iQ x1.t13))]) (O := fun x1 => []) hb_v1 (zW 0 ⟨rfl, rfl, rfl, rfl, rfl, trivial⟩ Z Z Z Z)<|fun x1 z_x1 hr hb_x1 => ?_;unfold sC at hr;refine zQ<|zR<|yS Z (ax Z Z Z Z)<|zN<|zT<|zQ ?_;refine zX Z (fun g2 => ?_)<|fun g2 => ?_
   ·
    refine zi g2 hr fun hr => zk<|zT<|zQ<|zl<|zQ<|zR<|zM Z<|zM Z<|zN<|zT<|zQ<|LW.draw2 (by kernel_rfl) (by kernel_rfl)<|zH Z<|zH Z<|zb hr fun y1 h_y1 hr => yE Z (zx Z Z Z fP h_y1 Z)<|yE Z (cT Z Z Z aX Z Z)<|zH Z<|zH Z<|zb hr fun y2 h_y2 hr => yE Z (zx Z Z Z fP h_y2 Z)<|yE Z (cT Z Z Z aX Z Z)<|yE Z (ax Z Z Z Z) ?_;refine LO.nil<|zT ?_;refine zX Z (fun g3 => ?_)<|fun g3 => ?_
    ·
     refine zi g3 hr fun hr => zQ<|zR<|zM Z<|zN<|zT<|zr<|aq<|af<|af<|aq<|af<|af ?_;obtain rfl := zJ hr;have hr := congrArg some (hb_x1 _ rfl);obtain rfl := zJ hr;have hr := ck ho_v1;obtain rfl := zJ hr;exact zf (.one (.tmp Z)) zv
    ·
     refine zo g3 hr fun hr => zk<|ai<|zT<|zR<|yS Z (ax Z Z Z Z)<|zM Z<|zN<|zT ?_;obtain rfl := zJ hr;exact ⟨_, rfl, zW 0 ⟨rfl, rfl, rfl, rfl, rfl, trivial⟩ Z Z Z rfl⟩
   ·
    refine zo g2 hr fun hr => zq<|ao<|ao<|zy<|zT ?_;obtain rfl := zJ hr;have hr := congrArg some (hb_x1 _ rfl);obtain rfl := zJ hr;exact ⟨_, rfl, zW 0 ⟨rfl, trivial⟩ Z Z Z rfl⟩
  ·obtain rfl := e_v1;have hr := dK ho_v1;clear hb_v1;refine zT<|LW.weak hw_v1<|zQ<|zR<|zM Z<|zN<|zT<|zr ?_;obtain rfl := zJ hr;exact zf (.one (.tmp Z)) zv
def yY (a : Wd) (b : Wd) : Option Bool :=
 (vX (Nd.mk 0 0 (Vw.mk [] []) (Vw.mk [] []) a.O (Cu.mk (0, 0) 0 0) false) (Nd.mk 0 0 (Vw.mk [] []) (Vw.mk [] []) b.O (Cu.mk (0, 0) 0 0) false)).bind fun v1 =>
 bif v1 then
  bif a.Tick == b.Tick then
   (yZ a.Bad b.Bad).bind fun v2 =>
   bif v2 then
    (D6 a.N b.N).bind fun v3 =>
    some v3
   else
    some false
  else
   some false
 else
  some false
theorem Ge {a : Wd} {b : Wd} {r_ : Bool} (hr : yY a b = some r_) : aw Tryz.prog 66 [ya a, ya b] [.bool r_] := by
 refine zh Tryz.func66 Z Z Z Z ?_;unfold yY at hr;refine zQ<|zR<|yS Z (bV Z Z Z Z Z)<|yS Z (bV Z Z Z Z Z)<|zM Z<|zN<|zT<|zQ<|zR<|yS Z (zA Z Z eM)<|yS Z (zD Z Z Z bl Z Z)<|yS Z (ab.build Z uM Z Z Z)<|yS Z (zA Z Z eM)<|yS Z (zD Z Z Z bl Z Z)<|yS Z (ab.build Z uM Z Z Z)<|zb hr fun v1 h_v1 hr => yS Z (zC Z Z Z (by kernel_rfl) (zp (Dd h_v1) (.cons (Conv.agg (.cons zv (.cons zv (.cons Conv.zs (.cons Conv.zs (.cons Conv.zs (.cons Conv.zs (.cons zv (.cons zv (.cons zv (.cons zv (.cons zv (.cons zv .nil))))))))))))) (.cons (Conv.agg (.cons zv (.cons zv (.cons Conv.zs (.cons Conv.zs (.cons Conv.zs (.cons Conv.zs (.cons zv (.cons zv (.cons zv (.cons zv (.cons zv (.cons zv .nil))))))))))))) .nil))))<|zM Z<|zN<|zT<|zQ<|zR<|zM Z<|zM Z ?_;refine zc 14 Z (fun g1 => ?_)<|fun g1 => ?_
 ·
  refine zi g1 hr fun hr => yV Z (gd g1 Z) (zA Z Z dA)<|yV Z (gd g1 Z) (zD Z Z Z aX Z Z)<|yV Z (gd g1 Z) (zA Z Z dA)<|yV Z (gd g1 Z) (zD Z Z Z aX Z Z)<|yV Z (gd g1 Z) (ax Z Z Z Z)<|yS Z (ca Z (aN g1 Z) Z)<|zM Z ?_;refine zc 21 Z (fun g2 => ?_)<|fun g2 => ?_
  ·
   refine zi g2 hr fun hr => yV Z (gd g2 Z) (zA Z Z df)<|yV Z (gd g2 Z) (zD Z Z Z eU Z Z)<|yV Z (gd g2 Z) (zA Z Z df)<|yV Z (gd g2 Z) (zD Z Z Z eU Z Z)<|zb hr fun v2 h_v2 hr => yV Z (gd g2 Z) (zC Z Z Z (by kernel_rfl) (zp (Gf h_v2) (.cons zv (.cons zv .nil))))<|yS Z (ca Z (aN g2 Z) Z)<|zM Z ?_;refine zc 28 Z (fun g3 => ?_)<|fun g3 => ?_
   ·
    refine zi g3 hr fun hr => yV Z (gd g3 Z) (zA Z Z bA)<|yV Z (gd g3 Z) (zD Z Z Z cQ Z Z)<|yV Z (gd g3 Z) (zA Z Z bA)<|yV Z (gd g3 Z) (zD Z Z Z cQ Z Z)<|zb hr fun v3 h_v3 hr => yV Z (gd g3 Z) (zC Z Z Z (by kernel_rfl) (LC.pre (Gv h_v3) Z Z Z))<|yS Z (ca Z (aN g3 Z) Z)<|zM Z<|zN<|zT<|zr ?_;obtain rfl := zJ hr;exact zf (.one (.tmp Z)) zv
   ·
    refine zo g3 hr fun hr => yU Z (gd g3 Z) Z<|yU Z (gd g3 Z) Z<|yU Z (gd g3 Z) Z<|yU Z (gd g3 Z) Z<|yU Z (gd g3 Z) Z<|yS Z (a8 Z (aN g3 Z) Z)<|zM Z<|zN<|zT<|zr ?_;obtain rfl := zJ hr;exact zf (.one (.tmp Z)) zv
  ·
   refine zo g2 hr fun hr => yU Z (gd g2 Z) Z<|yU Z (gd g2 Z) Z<|yU Z (gd g2 Z) Z<|yU Z (gd g2 Z) Z<|yU Z (gd g2 Z) Z<|yS Z (a8 Z (aN g2 Z) Z)<|zM Z<|yU Z Z Z<|yU Z Z Z<|yU Z Z Z<|yU Z Z Z<|yU Z Z Z<|yS Z (a8 Z Z Z)<|zM Z<|zN<|zT<|zr ?_;obtain rfl := zJ hr;exact zf (.one (.tmp Z)) zv
 ·
  refine zo g1 hr fun hr => yU Z (gd g1 Z) Z<|yU Z (gd g1 Z) Z<|yU Z (gd g1 Z) Z<|yU Z (gd g1 Z) Z<|yU Z (gd g1 Z) Z<|yS Z (a8 Z (aN g1 Z) Z)<|zM Z<|yU Z Z Z<|yU Z Z Z<|yU Z Z Z<|yU Z Z Z<|yU Z Z Z<|yS Z (a8 Z Z Z)<|zM Z<|yU Z Z Z<|yU Z Z Z<|yU Z Z Z<|yU Z Z Z<|yU Z Z Z<|yS Z (a8 Z Z Z)<|zM Z<|zN<|zT ?_;refine LW.ret ?_;obtain rfl := zJ hr;exact zf (.one (.tmp Z)) zv
open Go.Proofs
def sw : Option Bool :=
 (DW ).bind fun v1 =>
 (ou v1 ([] : List Int)).bind fun v2 =>
 (kP v2 ([] : List Ac) 3).bind fun v3 =>
 bif v3.Tick == 6 then
  bif (v3.N.length : Int) == 1 then
   (ix v3.N 0).bind fun y1 =>
   bif ((y1.C.ID.1 == ((nm (Bk.mk 1 0 (0, 0) 0)).1)) && ((y1.C.ID.2 == ((nm (Bk.mk 1 0 (0, 0) 0)).2)) && true)) then
    (yY v3 v3).bind fun v4 =>
    some v4
   else
    some false
  else
   some false
 else
  some false
theorem Gb {r_ : Bool} (hr : sw = some r_) : aw Tryz.prog 29 [] [.bool r_] := by
 refine zh Tryz.func29 Z Z Z Z ?_;unfold sw at hr;refine zQ<|zR<|zM Z<|zN<|zT<|zQ<|zR<|zb hr fun v1 h_v1 hr => yS Z (zC Z Z Z (by kernel_rfl) (zp (Id h_v1) .nil))<|zb hr fun v2 h_v2 hr => yS Z (zC Z Z Z (by kernel_rfl) (zp (Dg h_v2) (.cons zv (.cons Conv.zs .nil))))<|zb hr fun v3 h_v3 hr => yS Z (zC Z Z Z (by kernel_rfl) (zp (Aq h_v3) (.cons zv (.cons Conv.zs (.cons zv .nil)))))<|yS Z (ze Z kd Z Z)<|yS Z (zs Z Z Z Z bU Z Z Z Z)<|zN<|zT<|zQ<|LW.draw2 (by kernel_rfl) (by kernel_rfl)<|yE Z (zA Z Z dA)<|yE Z (zD Z Z Z aX Z Z)<|yE Z (ax Z Z Z Z)<|zH Z ?_;refine LO.cases 8 Z (fun (g1 : (v3.Tick == 6) = true) => ?_) (fun (g1 : (v3.Tick == 6) = false) => ?_)
 ·
  refine zi g1 hr fun hr => LO.gd Z Z Z (gd g1 Z) Z (zA Z Z bA)<|LO.gd Z Z Z (gd g1 Z) Z (zD Z Z Z cQ Z Z)<|LO.gd Z Z Z (gd g1 Z) Z (cC Z Z (by kernel_rfl))<|LO.gd Z Z Z (gd g1 Z) Z (ax Z Z Z Z)<|yE Z (ca Z (aN g1 Z) Z)<|zH Z ?_;refine LO.cases 14 Z (fun (g2 : ((v3.N.length : Int) == 1) = true) => ?_) (fun (g2 : ((v3.N.length : Int) == 1) = false) => ?_)
  ·
   refine zi g2 hr fun hr => LO.gd Z Z Z (gd g2 Z) Z (zA Z Z bA)<|LO.gd Z Z Z (gd g2 Z) Z (zD Z Z Z cQ Z Z)<|zb hr fun y1 h_y1 hr => LO.gd Z Z Z (gd g2 Z) Z (zx Z Z Z er h_y1 Z)<|LO.gd Z Z Z (gd g2 Z) Z (ab.fieldAddrC Z Z gm Z)<|LO.gd Z Z Z (gd g2 Z) Z (ab.fieldAddrC Z Z rx Z)<|LO.gd Z Z Z (gd g2 Z) Z (cT Z Z Z aV Z Z)<|LO.gd Z Z Z (gd g2 Z) Z (ab.build Z Fz Z Z Z)<|LO.gd Z Z Z (gd g2 Z) Z (zC Z Z Z (by kernel_rfl) (zp (Fc (b := (Bk.mk 1 0 (0, 0) 0))) (.cons zv .nil)))<|LO.gd Z Z Z (gd g2 Z) Z (ab.eqlAgg Z Z Z Z Z tb)<|yE Z (ca Z (aN g2 Z) Z)<|zH Z ?_;refine LO.cases 25 Z (fun (g3 : ((y1.C.ID.1 == ((nm (Bk.mk 1 0 (0, 0) 0)).1)) && ((y1.C.ID.2 == ((nm (Bk.mk 1 0 (0, 0) 0)).2)) && true)) = true) => ?_) (fun (g3 : ((y1.C.ID.1 == ((nm (Bk.mk 1 0 (0, 0) 0)).1)) && ((y1.C.ID.2 == ((nm (Bk.mk 1 0 (0, 0) 0)).2)) && true)) = false) => ?_)
   ·
    refine zi g3 hr fun hr => LO.gd Z Z Z (gd g3 Z) Z (zD Z Z Z bU Z Z)<|LO.gd Z Z Z (gd g3 Z) Z (zD Z Z Z bU Z Z)<|zb hr fun v4 h_v4 hr => LO.gd Z Z Z (gd g3 Z) Z (zC Z Z Z (by kernel_rfl) (zp (Ge h_v4) (.cons zv (.cons zv .nil))))<|yE Z (ca Z (aN g3 Z) Z)<|zH Z<|LO.nil<|zT<|zr ?_;obtain rfl := zJ hr;exact zf (.one (.tmp Z)) zv
   ·
    refine zo g3 hr fun hr => LO.sk Z Z Z (gd g3 Z) Z Z<|LO.sk Z Z Z (gd g3 Z) Z Z<|LO.sk Z Z Z (gd g3 Z) Z Z<|yE Z (a8 Z (aN g3 Z) Z)<|zH Z<|LO.nil<|zT<|zr ?_;obtain rfl := zJ hr;exact zf (.one (.tmp Z)) zv
  ·
   refine zo g2 hr fun hr => LO.sk Z Z Z (gd g2 Z) Z Z<|LO.sk Z Z Z (gd g2 Z) Z Z<|LO.sk Z Z Z (gd g2 Z) Z Z<|LO.sk Z Z Z (gd g2 Z) Z Z<|LO.sk Z Z Z (gd g2 Z) Z Z<|LO.sk Z Z Z (gd g2 Z) Z Z<|LO.sk Z Z Z (gd g2 Z) Z Z<|LO.sk Z Z Z (gd g2 Z) Z Z<|LO.sk Z Z Z (gd g2 Z) Z Z<|yE Z (a8 Z (aN g2 Z) Z)<|zH Z<|LO.sk Z Z Z Z Z Z<|LO.sk Z Z Z Z Z Z<|LO.sk Z Z Z Z Z Z<|yE Z (a8 Z Z Z)<|zH Z<|LO.nil<|zT<|zr ?_;obtain rfl := zJ hr;exact zf (.one (.tmp Z)) zv
 ·
  refine zo g1 hr fun hr => LO.sk Z Z Z (gd g1 Z) Z Z<|LO.sk Z Z Z (gd g1 Z) Z Z<|LO.sk Z Z Z (gd g1 Z) Z Z<|LO.sk Z Z Z (gd g1 Z) Z Z<|yE Z (a8 Z (aN g1 Z) Z)<|zH Z<|LO.sk Z Z Z Z Z Z<|LO.sk Z Z Z Z Z Z<|LO.sk Z Z Z Z Z Z<|LO.sk Z Z Z Z Z Z<|LO.sk Z Z Z Z Z Z<|LO.sk Z Z Z Z Z Z<|LO.sk Z Z Z Z Z Z<|LO.sk Z Z Z Z Z Z<|LO.sk Z Z Z Z Z Z<|yE Z (a8 Z Z Z)<|zH Z<|LO.sk Z Z Z Z Z Z<|LO.sk Z Z Z Z Z Z<|LO.sk Z Z Z Z Z Z<|yE Z (a8 Z Z Z)<|zH Z<|LO.nil ?_;refine zT<|zr ?_;obtain rfl := zJ hr;exact zf (.one (.tmp Z)) zv
structure dy where
 i : Int
def gb (l : List Ac) (x1 : dy) : Option (dy ⊕ (dy ⊕ Bool)) :=
 bif decide (x1.i < (l.length : Int)) then
  (ix l x1.i).bind fun y1 =>
  bif decide ((y1.B.length : Int) > 8) then
   some (.inr (.inr false))
  else
   (ix l x1.i).bind fun y2 =>
   bif decide ((y2.V.length : Int) > 8) then
    some (.inr (.inr false))
   else
    some (.inl (dy.mk (IntKind.i64.wrap (x1.i + 1))))
 else
  some (.inr (.inl (dy.mk x1.i)))
def ow (l : List Ac) (most : Int) : Option Bool :=
 bif decide ((l.length : Int) > most) then
  some false
 else
  (iter (gb l) bH (dy.mk 0)).bind fun b_v1 => Sum.elim (fun _ =>
   some true) some b_v1
theorem Dh {l : List Ac} {most : Int} {r_ : Bool} (hr : ow l most = some r_) : aw Tryz.prog 36 [.slice 5 (l.map lL), .int .i64 most] [.bool r_] := by
 refine zh Tryz.func36 Z Z Z Z ?_;unfold ow at hr;refine zQ<|zR<|zM Z<|zN<|zT<|zQ<|zQ<|zR<|zM Z<|yS Z (cC Z Z (by kernel_rfl))<|zM Z<|yS Z (ax Z Z Z Z)<|zN<|zT ?_;refine zX Z (fun g1 => ?_)<|fun g1 => ?_
 ·
  refine zi g1 hr fun hr => zQ<|zR<|zM Z<|zN<|zT<|zr<|af ?_;obtain rfl := zJ hr;exact zf (.one (.tmp Z)) zv
 ·
  refine zo g1 hr fun hr => zk<|zT<|zQ<|zQ<|zR<|zM Z<|zN<|zT ?_;obtain ⟨b_v1, hb_v1, ho_v1⟩ := zB hr;clear hr;refine LW.tailB (b := b_v1) (E := fun v1 => [(4, (bQ false))]) (O := fun v1 => []) ?_<|fun v1 e_v1 env_v1 H_v1 hw_v1 => ?_
  ·refine LW.block ?_;refine LW.iterB (E := fun x1 : dy => [(0, .p (.slice 5 (l.map lL))), (4, (bQ false)), (5, (iQ x1.i))]) (O := fun x1 => []) hb_v1 (zW 0 ⟨rfl, rfl, rfl, trivial⟩ Z Z Z Z)<|fun x1 z_x1 hr hb_x1 => ?_;unfold gb at hr;refine zQ<|zQ<|zR<|zM Z<|zM Z<|yS Z (cC Z Z (by kernel_rfl))<|yS Z (ax Z Z Z Z)<|zN<|zT ?_;refine zX Z (fun g2 => ?_)<|fun g2 => ?_
   ·
    refine zi g2 hr fun hr => zk<|zT<|zQ<|zl<|zQ<|zR<|zM Z<|zM Z<|zb hr fun y1 h_y1 hr => yS Z (zx Z Z Z hZ h_y1 Z)<|yS Z (ab.fieldAddrC Z Z tk Z)<|yS Z (cT Z Z Z dr Z Z)<|yS Z (cC Z Z (by kernel_rfl))<|yS Z (ax Z Z Z Z)<|zM Z ?_;refine zc 23 Z (fun g3 => ?_)<|fun g3 => ?_
    ·
     refine zi g3 hr fun hr => yU Z (gd g3 Z) Z<|yU Z (gd g3 Z) Z<|yU Z (gd g3 Z) Z<|yU Z (gd g3 Z) Z<|yU Z (gd g3 Z) Z<|yU Z (gd g3 Z) Z<|yU Z (gd g3 Z) Z<|yS Z (ca Z (aN g3 Z) Z)<|zN<|zT<|LW.condT Z<|zQ<|zR<|zM Z<|zN<|zT<|zr<|aq<|af<|af<|aq<|af<|af ?_;obtain rfl := zJ hr;have hr := congrArg some (hb_x1 _ rfl);obtain rfl := zJ hr;have hr := ck ho_v1;obtain rfl := zJ hr;exact zf (.one (.tmp Z)) zv
    ·
     refine zo g3 hr fun hr => yV Z (gd g3 Z) (zm Z Z)<|yV Z (gd g3 Z) (zm Z Z)<|zb hr fun y2 h_y2 hr => yV Z (gd g3 Z) (zx Z Z Z hZ h_y2 Z)<|yV Z (gd g3 Z) (ab.fieldAddrC Z Z tm Z)<|yV Z (gd g3 Z) (cT Z Z Z dP Z Z)<|yV Z (gd g3 Z) (cC Z Z (by kernel_rfl))<|yV Z (gd g3 Z) (ax Z Z Z Z)<|yS Z (a8 Z (aN g3 Z) Z)<|zN<|zT ?_;refine zX Z (fun g4 => ?_)<|fun g4 => ?_
     ·
      refine zi g4 hr fun hr => zQ<|zR<|zM Z<|zN<|zT<|zr<|aq<|af<|af<|aq<|af<|af ?_;obtain rfl := zJ hr;have hr := congrArg some (hb_x1 _ rfl);obtain rfl := zJ hr;have hr := ck ho_v1;obtain rfl := zJ hr;exact zf (.one (.tmp Z)) zv
     ·
      refine zo g4 hr fun hr => zk<|ai<|zT<|zR<|zM Z<|yS Z (ax Z Z Z Z)<|zM Z<|zN<|zT ?_;obtain rfl := zJ hr;exact ⟨_, rfl, zW 0 ⟨rfl, rfl, rfl, trivial⟩ Z Z Z rfl⟩
   ·
    refine zo g2 hr fun hr => zq<|ao<|ao<|zy<|zT ?_;obtain rfl := zJ hr;have hr := congrArg some (hb_x1 _ rfl);obtain rfl := zJ hr;exact ⟨_, rfl, zW 0 ⟨rfl, trivial⟩ Z Z Z rfl⟩
  ·obtain rfl := e_v1;have hr := dK ho_v1;clear hb_v1;refine zT<|LW.weak hw_v1<|zQ<|zR<|zM Z<|zN<|zT<|zr ?_;obtain rfl := zJ hr;exact zf (.one (.tmp Z)) zv
def qm (c : Cf) (bad : List Int) (l : List Ac) : Option Bool :=
 (ow l 25).bind fun v1 =>
 bif v1 then
  (w5 c).bind fun v2 =>
  bif v2 then
   bif decide ((c.W.length : Int) ≤ 6) then
    some (decide ((bad.length : Int) ≤ 6))
   else
    some false
  else
   some false
 else
  some false
theorem Gc {c : Cf} {bad : List Int} {l : List Ac} {r_ : Bool} (hr : qm c bad l = some r_) : aw Tryz.prog 30 [kG c, .slice 1 (bad.map aB), .slice 5 (l.map lL)] [.bool r_] := by
 refine zh Tryz.func30 Z Z Z Z ?_;unfold qm at hr;refine zQ<|zR<|yS Z (bV Z Z Z Z Z)<|zM Z<|zN<|zT<|zQ<|zR<|zM Z<|zb hr fun v1 h_v1 hr => yS Z (zC Z Z Z (by kernel_rfl) (zp (Dh h_v1) (.cons zv (.cons zv .nil))))<|zM Z<|zN<|zT<|zQ<|zR<|zM Z<|zM Z ?_;refine zc 11 Z (fun g1 => ?_)<|fun g1 => ?_
 ·
  refine zi g1 hr fun hr => yV Z (gd g1 Z) (zD Z Z Z b6 Z Z)<|zb hr fun v2 h_v2 hr => yV Z (gd g1 Z) (zC Z Z Z (by kernel_rfl) (zp (En h_v2) (.cons zv .nil)))<|yS Z (ca Z (aN g1 Z) Z)<|zM Z ?_;refine zc 15 Z (fun g2 => ?_)<|fun g2 => ?_
  ·
   refine zi g2 hr fun hr => yV Z (gd g2 Z) (zA Z Z gp)<|yV Z (gd g2 Z) (zD Z Z Z eU Z Z)<|yV Z (gd g2 Z) (cC Z Z (by kernel_rfl))<|yV Z (gd g2 Z) (ax Z Z Z Z)<|yS Z (ca Z (aN g2 Z) Z)<|zM Z ?_;refine zc 21 Z (fun g3 => ?_)<|fun g3 => ?_
   ·
    refine zi g3 hr fun hr => yV Z (gd g3 Z) (zm Z Z)<|yV Z (gd g3 Z) (cC Z Z (by kernel_rfl))<|yV Z (gd g3 Z) (ax Z Z Z Z)<|yS Z (ca Z (aN g3 Z) Z)<|zM Z<|zN<|zT<|zr ?_;obtain rfl := zJ hr;exact zf (.one (.tmp Z)) zv
   ·
    refine zo g3 hr fun hr => yU Z (gd g3 Z) Z<|yU Z (gd g3 Z) Z<|yU Z (gd g3 Z) Z<|yS Z (a8 Z (aN g3 Z) Z)<|zM Z<|zN<|zT<|zr ?_;obtain rfl := zJ hr;exact zf (.one (.tmp Z)) zv
  ·
   refine zo g2 hr fun hr => yU Z (gd g2 Z) Z<|yU Z (gd g2 Z) Z<|yU Z (gd g2 Z) Z<|yU Z (gd g2 Z) Z<|yS Z (a8 Z (aN g2 Z) Z)<|zM Z<|yU Z Z Z<|yU Z Z Z<|yU Z Z Z<|yS Z (a8 Z Z Z)<|zM Z<|zN<|zT<|zr ?_;obtain rfl := zJ hr;exact zf (.one (.tmp Z)) zv
 ·
  refine zo g1 hr fun hr => yU Z (gd g1 Z) Z<|yU Z (gd g1 Z) Z<|yS Z (a8 Z (aN g1 Z) Z)<|zM Z<|yU Z Z Z<|yU Z Z Z<|yU Z Z Z<|yU Z Z Z<|yS Z (a8 Z Z Z)<|zM Z<|yU Z Z Z<|yU Z Z Z<|yU Z Z Z<|yS Z (a8 Z Z Z)<|zM Z<|zN<|zT<|zr ?_;obtain rfl := zJ hr;exact zf (.one (.tmp Z)) zv
open Go.Proofs
def wa (c : Cf) (bad : List Int) (l : List Ac) (a : Ac) (ticks : Int) : Option Bool :=
 (sw ).bind fun v1 =>
 (qm c bad l).bind fun v2 =>
 (ow [a] 1).bind fun v3 =>
 (
  bif !v1 then
   some (.inr v1)
  else
   bif !v2 then
    some (.inr v1)
   else
    bif !v3 then
     some (.inr v1)
    else
     bif decide (ticks > 10) then
      some (.inr v1)
     else
      bif decide (a.To > 0) then
       bif decide (a.Tick ≥ 3) then
        bif decide (a.Tick < (IntKind.i64.wrap (3 + ticks))) then
         some (.inr v1)
        else
         some (.inl ())
       else
        some (.inl ())
      else
       some (.inl ())
 ).bind fun b_v4 => Sum.elim (fun _ =>
  (ou c bad).bind fun v5 =>
  bif b9 0 l.length 72 then
   bif b9 l.length [a].length 72 then
    (kP v5 l ticks).bind fun v6 =>
    (kP v5 (l ++ [a]) ticks).bind fun v7 =>
    (qo v6 v7).bind fun v8 =>
    some v8
   else none
  else none) some b_v4
theorem F9 {c : Cf} {bad : List Int} {l : List Ac} {a : Ac} {ticks : Int} {r_ : Bool} (hr : wa c bad l a ticks = some r_) : aw Tryz.prog 9 [kG c, .slice 1 (bad.map aB), .slice 5 (l.map lL), lL a, .int .i64 ticks] [.bool r_] := by
 refine zh Tryz.func9 Z Z Z Z ?_;unfold wa at hr;refine zQ<|zR<|yS Z (bV Z Z Z Z Z)<|yS Z (bV Z Z Z Z Z)<|zM Z<|zN<|zT<|zQ<|zR<|zb hr fun v1 h_v1 hr => yS Z (zC Z Z Z (by kernel_rfl) (zp (Gb h_v1) .nil))<|zM Z<|zN<|zT<|zQ<|zR<|yS Z (zD Z Z Z b6 Z Z)<|zM Z<|zM Z<|zb hr fun v2 h_v2 hr => yS Z (zC Z Z Z (by kernel_rfl) (zp (Gc h_v2) (.cons zv (.cons zv (.cons zv .nil)))))<|zM Z<|zN<|zT ?_;refine zQ<|zR<|yS Z (zD Z Z Z jp Z Z)<|yS Z (mA Z hZ Z Z Z Z Z)<|zb hr fun v3 h_v3 hr => yS Z (zC Z Z Z (by kernel_rfl) (zp (Dh h_v3) (.cons zv (.cons zv .nil))))<|zM Z<|zN<|zT ?_;obtain ⟨b_v4, hb_v4, ho_v4⟩ := zB hr;clear hr;refine LW.cutB (b := b_v4) (E := fun v4 => [(1, (kI bad)), (2, .p (.slice 5 (l.map lL))), (4, (iQ ticks)), (5, .ptr 0 0), (8, .ptr 1 0), (10, (bQ false))]) (O := fun v4 => [.box (bN c), .box [(iQ a.Tick), (iQ a.To), (bQ a.Offer), (kB a.B), (kV a.V)]]) ?_<|fun v4 e_v4 => ?_
 ·have hr := hb_v4;refine zQ<|zR<|zM Z<|yS Z (ab.not Z Z)<|zM Z ?_;refine zc 27 Z (fun g1 => ?_)<|fun g1 => ?_
  ·
   refine zi g1 hr fun hr => yU Z (gd g1 Z) Z<|yU Z (gd g1 Z) Z<|yS Z (ca Z (aN g1 Z) Z)<|zM Z<|yU Z Z Z<|yU Z Z Z<|yS Z (ca Z Z Z)<|zM Z<|yU Z Z Z<|yU Z Z Z<|yS Z (ca Z Z Z)<|zM Z<|yU Z Z Z<|yU Z Z Z<|yU Z Z Z<|yU Z Z Z<|zY Z Z Z Z Z<|zY Z Z Z Z Z<|zY Z Z Z Z Z<|yU Z Z Z<|yU Z Z Z<|zY Z Z Z Z Z<|zY Z Z Z Z Z ?_;refine zY Z Z Z Z Z<|zY Z Z Z Z Z<|zY Z Z Z Z Z<|yU Z Z Z<|yS Z (ca Z Z Z)<|zN<|zT<|LW.condT Z<|zQ<|zR<|zM Z<|zM Z<|zN<|zT<|zr<|af ?_;obtain rfl := zJ hr;have hr := ck ho_v4;obtain rfl := zJ hr;exact zf (.one (.tmp Z)) zv
  ·
   refine zo g1 hr fun hr => yV Z (gd g1 Z) (zm Z Z)<|yV Z (gd g1 Z) (ab.not Z Z)<|yS Z (a8 Z (aN g1 Z) Z)<|zM Z ?_;refine zc 31 Z (fun g2 => ?_)<|fun g2 => ?_
   ·
    refine zi g2 hr fun hr => yU Z (gd g2 Z) Z<|yU Z (gd g2 Z) Z<|yS Z (ca Z (aN g2 Z) Z)<|zM Z<|yU Z Z Z<|yU Z Z Z<|yS Z (ca Z Z Z)<|zM Z<|yU Z Z Z<|yU Z Z Z<|yU Z Z Z<|yU Z Z Z<|zY Z Z Z Z Z<|zY Z Z Z Z Z<|zY Z Z Z Z Z<|yU Z Z Z<|yU Z Z Z<|zY Z Z Z Z Z<|zY Z Z Z Z Z<|zY Z Z Z Z Z<|zY Z Z Z Z Z<|zY Z Z Z Z Z<|yU Z Z Z ?_;refine yS Z (ca Z Z Z)<|zN<|zT<|LW.condT Z<|zQ<|zR<|zM Z<|zM Z<|zN<|zT<|zr<|af ?_;obtain rfl := zJ hr;have hr := ck ho_v4;obtain rfl := zJ hr;exact zf (.one (.tmp Z)) zv
   ·
    refine zo g2 hr fun hr => yV Z (gd g2 Z) (zm Z Z)<|yV Z (gd g2 Z) (ab.not Z Z)<|yS Z (a8 Z (aN g2 Z) Z)<|zM Z ?_;refine zc 35 Z (fun g3 => ?_)<|fun g3 => ?_
    ·
     refine zi g3 hr fun hr => yU Z (gd g3 Z) Z<|yU Z (gd g3 Z) Z<|yS Z (ca Z (aN g3 Z) Z)<|zM Z<|yU Z Z Z<|yU Z Z Z<|yU Z Z Z<|yU Z Z Z<|zY Z Z Z Z Z<|zY Z Z Z Z Z<|zY Z Z Z Z Z<|yU Z Z Z<|yU Z Z Z<|zY Z Z Z Z Z<|zY Z Z Z Z Z<|zY Z Z Z Z Z<|zY Z Z Z Z Z<|zY Z Z Z Z Z<|yU Z Z Z<|yS Z (ca Z Z Z)<|zN<|zT<|LW.condT Z ?_;refine zQ<|zR<|zM Z<|zM Z<|zN<|zT<|zr<|af ?_;obtain rfl := zJ hr;have hr := ck ho_v4;obtain rfl := zJ hr;exact zf (.one (.tmp Z)) zv
    ·
     refine zo g3 hr fun hr => yV Z (gd g3 Z) (zm Z Z)<|yV Z (gd g3 Z) (ax Z Z Z Z)<|yS Z (a8 Z (aN g3 Z) Z)<|zM Z ?_;refine zc 39 Z (fun g4 => ?_)<|fun g4 => ?_
     ·
      refine zi g4 hr fun hr => yU Z (gd g4 Z) Z<|yU Z (gd g4 Z) Z<|yU Z (gd g4 Z) Z<|yU Z (gd g4 Z) Z<|zY Z Z Z Z Z<|zY Z Z Z Z Z<|zY Z Z Z Z Z<|yU Z (gd g4 Z) Z<|yU Z (gd g4 Z) Z<|zY Z Z Z Z Z<|zY Z Z Z Z Z<|zY Z Z Z Z Z<|zY Z Z Z Z Z<|zY Z Z Z Z Z<|yU Z (gd g4 Z) Z<|yS Z (ca Z (aN g4 Z) Z)<|zN<|zT<|LW.condT Z<|zQ<|zR<|zM Z<|zM Z ?_;refine zN<|zT<|zr<|af ?_;obtain rfl := zJ hr;have hr := ck ho_v4;obtain rfl := zJ hr;exact zf (.one (.tmp Z)) zv
     ·
      refine zo g4 hr fun hr => yV Z (gd g4 Z) (zA Z Z pg)<|yV Z (gd g4 Z) (zD Z Z Z aX Z Z)<|yV Z (gd g4 Z) (ax Z Z Z Z)<|yV Z (gd g4 Z) (zm Z Z) ?_;refine zc 43 Z (fun g5 => ?_)<|fun g5 => ?_
      ·
       refine zi g5 hr fun hr => yV Z (gd g5 Z) (zA Z Z pd)<|yV Z (gd g5 Z) (zD Z Z Z aX Z Z)<|yV Z (gd g5 Z) (ax Z Z Z Z)<|yV Z (gd g4 Z) (ca Z (aN g5 Z) Z)<|yV Z (gd g4 Z) (zm Z Z) ?_;refine zc 48 Z (fun g6 => ?_)<|fun g6 => ?_
       ·
        refine zi g6 hr fun hr => yV Z (gd g6 Z) (zA Z Z pd)<|yV Z (gd g6 Z) (zD Z Z Z aX Z Z)<|yV Z (gd g6 Z) (zm Z Z)<|yV Z (gd g6 Z) (ax Z Z Z Z)<|yV Z (gd g6 Z) (ax Z Z Z Z)<|yV Z (gd g4 Z) (ca Z (aN g6 Z) Z)<|yS Z (a8 Z (aN g4 Z) Z)<|zN<|zT ?_;refine zX Z (fun g7 => ?_)<|fun g7 => ?_
        ·
         refine zi g7 hr fun hr => zQ<|zR<|zM Z<|zM Z<|zN<|zT<|zr<|af ?_;obtain rfl := zJ hr;have hr := ck ho_v4;obtain rfl := zJ hr;exact zf (.one (.tmp Z)) zv
        ·
         refine zo g7 hr fun hr => zk<|zT ?_;obtain rfl := zJ hr;exact ⟨_, rfl, zW 2 ⟨rfl, rfl, rfl, rfl, rfl, rfl, trivial⟩ Z Z Z rfl⟩
       ·
        refine zo g6 hr fun hr => yU Z (gd g6 Z) Z<|yU Z (gd g6 Z) Z<|yU Z (gd g6 Z) Z<|yU Z (gd g6 Z) Z<|yU Z (gd g6 Z) Z<|yV Z (gd g4 Z) (a8 Z (aN g6 Z) Z)<|yS Z (a8 Z (aN g4 Z) Z)<|zN<|zT<|LW.condF Z<|zk<|zT ?_;obtain rfl := zJ hr;exact ⟨_, rfl, zW 2 ⟨rfl, rfl, rfl, rfl, rfl, rfl, trivial⟩ Z Z Z rfl⟩
      ·
       refine zo g5 hr fun hr => yU Z (gd g5 Z) Z<|yU Z (gd g5 Z) Z<|yU Z (gd g5 Z) Z<|yV Z (gd g4 Z) (a8 Z (aN g5 Z) Z)<|yV Z (gd g4 Z) (zm Z Z)<|yU Z Z Z<|yU Z Z Z<|yU Z Z Z<|yU Z Z Z<|yU Z Z Z<|yV Z (gd g4 Z) (a8 Z Z Z)<|yS Z (a8 Z (aN g4 Z) Z)<|zN<|zT<|LW.condF Z<|zk<|zT ?_;obtain rfl := zJ hr;exact ⟨_, rfl, zW 2 ⟨rfl, rfl, rfl, rfl, rfl, rfl, trivial⟩ Z Z Z rfl⟩
 ·obtain rfl := e_v4;have hr := dK ho_v4;clear hb_v4;refine zQ<|zR<|yS Z (zD Z Z Z b6 Z Z)<|zM Z<|zb hr fun v5 h_v5 hr => yS Z (zC Z Z Z (by kernel_rfl) (zp (Dg h_v5) (.cons zv (.cons zv .nil))))<|yS Z (ze Z kd Z Z)<|yS Z (zs Z Z Z Z bU Z Z Z Z)<|zN<|zT<|zQ<|LW.ent (bJ.slot Z)<|LW.drawW (by kernel_rfl) (by kernel_rfl)<|zK Z<|zg hr fun q1 hr => yF Z (bE.appendZX lL l Z Z (id := 3) Z Z Z hZ q1) Z<|yF Z (zd Z Z Z jp Z Z) Z ?_;refine yF (F := []) (s := none) Z (fun H _ => mA Z hZ Z Z Z Z Z) Z ?_;refine zg hr fun q2 hr => yF Z (bE.appendX lL l [a] rfl Z Z Z Z hZ q2) Z<|zK Z ?_;refine LF.nil ⟨by kernel_rfl, ?_⟩;refine zT<|zQ<|LW.ent (bJ.frz (t := 15) (env' := [(2, .p (.slice 5 (l.map lL))), (4, (iQ ticks)), (14, .ptr 2 0)]) (H0 := [.box (bN c), .box [(iQ a.Tick), (iQ a.To), (bQ a.Offer), (kB a.B), (kV a.V)], .box (fX v5)]) Z Z Z Z Z ⟨rfl, rfl, rfl, trivial⟩ Z Z)<|LW.draw2 (by kernel_rfl) (by kernel_rfl)<|yE Z (zD Z Z Z bU Z Z)<|zH Z<|zH Z<|zb hr fun v6 h_v6 hr => yE Z (zC Z Z Z (by kernel_rfl) (zp (Aq h_v6) (.cons zv (.cons zv (.cons zv .nil)))))<|yE Z (zD Z Z Z bU Z Z)<|zH Z<|zH Z<|zb hr fun v7 h_v7 hr => yE Z (zC Z Z Z (by kernel_rfl) (zp (Aq h_v7) (.cons zv (.cons zv (.cons zv .nil)))))<|zb hr fun v8 h_v8 hr => yE Z (zC Z Z Z (by kernel_rfl) (zp (Gd h_v8) (.cons zv (.cons zv .nil))))<|zH Z<|LO.nil<|zT<|zQ<|zR<|zM Z<|zM Z<|zN ?_;refine zT<|zr ?_;obtain rfl := zJ hr;exact zf (.one (.tmp Z)) zv
theorem l8 {α β : Type} {step : α → Option (α ⊕ β)} {n : Nat} {x y : α} (h : step x = some (.inl y)) : iter step (n + 1) x = iter step n y := by
 rw [iter, h]
theorem fy {α β : Type} {step : α → Option (α ⊕ β)} {n : Nat} {x : α} {b : β} (h : step x = some (.inr b)) : iter step (n + 1) x = some b := by
 rw [iter, h]
theorem Fv : bH = 4611686018427387901 + 1 + 1 + 1 := rfl
def tI (a b : ID) : Bool := decide (a.1 < b.1 ∨ a.1 = b.1 ∧ a.2 < b.2)
def i6 (x y : Int) : Int := if x < y then -1 else if x > y then 1 else 0
theorem vW (x y : Int) : yI x y = some (i6 x y) := by
 have h : ∀ z : Int, w2 z = some false := fun z => by unfold w2; rw [show (z != z) = false by simp]
 unfold yI i6;rw [h x, ob, h y, ob, cf, cf];by_cases h1 : x < y
 ·rw [decide_eq_true h1, ct, if_pos h1]
 ·rw [decide_eq_false h1, cf, if_neg h1];by_cases h2 : x > y
  ·rw [decide_eq_true h2, ct, if_pos h2]
  ·rw [decide_eq_false h2, cf, if_neg h2]
theorem si (a1 a2 b1 b2 : Int) : wX [a1, a2] [b1, b2] = some (if i6 a1 b1 ≠ 0 then i6 a1 b1 else i6 a2 b2) := by
 unfold wX
 have h0 : ∀ i : Int, i = 0 → gK [a1, a2] [b1, b2] (dD.mk i) = if i6 a1 b1 ≠ 0 then some (.inr (.inr (i6 a1 b1))) else some (.inl (dD.mk 1)) := by
  rintro i rfl;unfold gK;simp only;rw [show decide ((0 : Int) < (([a1, a2] : List Int).length : Int)) = true from rfl, ct, show ix [a1, a2] 0 = some a1 from rfl, ob, show decide ((0 : Int) ≥ (([b1, b2] : List Int).length : Int)) = false from rfl, cf, show ix [b1, b2] 0 = some b1 from rfl, ob, vW, ob, show IntKind.i64.wrap (0 + 1) = 1 from d8 (by omega) (by omega)];by_cases h : i6 a1 b1 = 0
  ·rw [show (i6 a1 b1 != 0) = false by simp [h], cf, if_neg (not_not_intro h)]
  ·rw [show (i6 a1 b1 != 0) = true by simp [h], ct, if_pos h]
 have h1 : gK [a1, a2] [b1, b2] (dD.mk 1) = if i6 a2 b2 ≠ 0 then some (.inr (.inr (i6 a2 b2))) else some (.inl (dD.mk 2)) := by
  unfold gK;simp only;rw [show decide ((1 : Int) < (([a1, a2] : List Int).length : Int)) = true from rfl, ct, show ix [a1, a2] 1 = some a2 from rfl, ob, show decide ((1 : Int) ≥ (([b1, b2] : List Int).length : Int)) = false from rfl, cf, show ix [b1, b2] 1 = some b2 from rfl, ob, vW, ob, show IntKind.i64.wrap (1 + 1) = 2 from d8 (by omega) (by omega)];by_cases h : i6 a2 b2 = 0
  ·rw [show (i6 a2 b2 != 0) = false by simp [h], cf, if_neg (not_not_intro h)]
  ·rw [show (i6 a2 b2 != 0) = true by simp [h], ct, if_pos h]
 have h2 : gK [a1, a2] [b1, b2] (dD.mk 2) = some (.inr (.inl (dD.mk 2))) := by
  unfold gK;simp only;rw [show decide ((2 : Int) < (([a1, a2] : List Int).length : Int)) = false from rfl, cf]
 rw [Fv];by_cases c1 : i6 a1 b1 = 0
 ·have e1 := h0 0 rfl;rw [if_neg (not_not_intro c1)] at e1;rw [l8 e1, if_neg (not_not_intro c1)];by_cases c2 : i6 a2 b2 = 0
  ·rw [if_neg (not_not_intro c2)] at h1;rw [l8 h1, fy h2, ob, sl, show decide ((([a1, a2] : List Int).length : Int) < (([b1, b2] : List Int).length : Int)) = false from rfl, cf, c2]
  ·rw [if_pos c2] at h1;rw [fy h1, ob, sr]
 ·have e1 := h0 0 rfl;rw [if_pos c1] at e1;rw [fy e1, if_pos c1, ob, sr]
theorem BS (a b : ID) : ym a b = some (tI a b) := by
 unfold ym tI;rw [si, ob];congr 1;refine decide_eq_decide.2 ?_;unfold i6;by_cases h1 : a.1 < b.1
 ·simp [h1]
 ·by_cases h2 : a.1 > b.1
  ·have : a.1 ≠ b.1 := by omega
   simp [h1, h2, this]
  ·have : a.1 = b.1 := by omega
   by_cases h3 : a.2 < b.2
   ·simp [this, h3]
   ·by_cases h4 : a.2 > b.2 <;> simp [this, h3, h4]
theorem xC (a : ID) : tI a a = false := by unfold tI; exact decide_eq_false (by omega)
def li (a b : Rk) : Bool := if a.n = b.n then tI b.id a.id else decide (a.n > b.n)
theorem BT (a b : Rk) : yn a b = some (li a b) := by
 unfold yn li;by_cases h : a.n = b.n
 ·rw [show (a.n != b.n) = false by simp [h], cf, if_pos h, show (a.n == b.n) = true by simp [h], Bool.true_and, CL];by_cases h2 : a.id = b.id
  ·rw [decide_eq_true h2, Bool.not_true, cf, h2, xC]
  ·rw [decide_eq_false h2, Bool.not_false, ct, BS, ob]
 ·rw [show (a.n != b.n) = true by simp [h], ct, if_neg h]
def jo (l : List Bk) (id h : ID) : Bool := decide (id ∈ a7 l h)
def nL (l : List Bk) (v : List Vt) (id : ID) : List Int := (v.filter fun x => jo l id x.Head).map Vt.From
def wI (c : Cf) (l : List Bk) (v : List Vt) (id : ID) : Int := vE c (nL l v id)
theorem fr {α β : Type} [DecidableEq α] {m : List (α × β)} {k q : α} {v : β} : aj (aW m k v) q = if k = q then some v else aj m q := by
 induction m with
 | nil => simp [aW, aj]
 | cons p r ih =>
  obtain ⟨a, b⟩ := p;unfold aW;by_cases h : a = k
  ·rw [if_pos h];subst h;by_cases h2 : a = q
   ·simp [aj, h2]
   ·simp [aj, h2]
  ·rw [if_neg h];simp only [aj];rw [ih];by_cases h2 : a = q
   ·rw [if_pos h2, if_pos h2, if_neg (fun e => h (by rw [h2, e]))]
   ·rw [if_neg h2, if_neg h2]
def uH (l : List Bk) (id : ID) (m : List (ID × Bool)) : Prop := ∀ h b, aj m h = some b → b = jo l id h
theorem B8 {l : List Bk} (hl : l.length ≤ 1000) {x : Vt} {c : Cf} {id : ID} {m : List (ID × Bool)} (hm : uH l id m) : ∃ m', yB x c l id m = some (jo l id x.Head, m') ∧ uH l id m' := by
 unfold yB
 have hu : decide (aT (a7 l x.Head) id ≥ 0) = jo l id x.Head := by
  unfold jo; exact decide_eq_decide.2 ⟨fun h => nB.1 h, fun h => nB.2 h⟩
 cases hf : aj m x.Head with
 | none =>
  refine ⟨aW m x.Head (jo l id x.Head), ?_, ?_⟩
  ·rw [Option.isSome_none, Bool.not_false, ct, EM hl, ct, hu]
  ·intro h b hb;rw [fr] at hb;by_cases e : x.Head = h
   ·rw [if_pos e] at hb; cases hb; rw [e]
   ·rw [if_neg e] at hb; exact hm h b hb
 | some b =>
  refine ⟨m, ?_, hm⟩;rw [Option.isSome_some, Bool.not_true, cf, Option.getD_some, hm _ _ hf]
theorem bw {α : Type} {l : List α} {j : Nat} {y : α} (h : l[j]? = some y) : l.take (j + 1) = l.take j ++ [y] := by rw [List.take_add_one, h]; rfl
theorem xv {l : List Bk} {v : List Vt} {id : ID} {n : Nat} {y : Vt} (hy : v[n]? = some y) : nL l (v.take (n + 1)) id = nL l (v.take n) id ++ bif jo l id y.Head then [y.From] else [] := by
 unfold nL;rw [bw hy, List.filter_append, List.map_append];cases h : jo l id y.Head <;> simp [h]
theorem ti (l : List Bk) (v : List Vt) (id : ID) : (nL l v id).length ≤ v.length := by
 unfold nL; rw [List.length_map]; exact List.length_filter_le _ _
theorem B9 {l : List Bk} (hl : l.length ≤ 1000) {v : List Vt} (hv : v.length ≤ 1000) {c : Cf} {id : ID} : ∃ m', yC v c l id [] = some (nL l v id, m') := by
 unfold yC
 have key := dg (step := lQ v c l id) (fun x => ∃ n : Nat, n ≤ v.length ∧ x.t12 = n ∧ uH l id x.o3 ∧ x.out = nL l (v.take n) id) (fun x => v.length - x.t12.toNat) (fun b => b.out = nL l v id) (by
  rintro ⟨t, m, out⟩ ⟨n, hn, h1, hm, ho⟩;simp only at h1 ho hm;subst h1 ho;by_cases hlt : n < v.length
  ·left;obtain ⟨y, hy, -⟩ := aA hlt;obtain ⟨m', e, hm'⟩ := B8 hl (x := y) (c := c) hm;have hlen := ti l (v.take n) id;rw [List.length_take] at hlen;refine ⟨⟨((n + 1 : Nat) : Int), m', nL l (v.take (n + 1)) id⟩, ?_, ⟨n + 1, hlt, rfl, hm', rfl⟩, by simp only; omega⟩;unfold lQ;simp only;rw [decide_eq_true (show (n : Int) < (v.length : Int) by omega), ct, aC hy, ob, e, ob, xv hy, ak (n := n) (by omega)]
   cases hu : jo l id y.Head with
   | true => rw [ct, show Ca y = some y.From from rfl, ob, aI (by simp only [List.length_singleton]; omega) (by omega), ct, ct]
   | false => rw [cf, cf, List.append_nil]
  ·right
   obtain rfl : n = v.length := by omega
   refine ⟨⟨(v.length : Int), m, nL l (v.take v.length) id⟩, ?_, by simp only [List.take_length]⟩;unfold lQ;simp only
   rw [decide_eq_false (show ¬ (v.length : Int) < (v.length : Int) by omega), cf]) (n := bH) (x := ⟨0, [], []⟩) ⟨0, by omega, rfl, (fun h b hb => by cases hb), by simp [nL]⟩ (ei (by simp only; omega))
 obtain ⟨b, e, hp⟩ := key;exact ⟨b.o3, by rw [e, ob, hp]⟩
theorem vM {l : List Bk} (hl : l.length ≤ 1000) {v : List Vt} (hv : v.length ≤ 1000) (c : Cf) (id : ID) : wS c l v id = some (wI c l v id) := by
 unfold wS;obtain ⟨m', e⟩ := B9 hl hv (c := c) (id := id);have := ti l v id;rw [e, ob, y9 (by simp only; omega), ob]; rfl
theorem DE (c : Cf) (l : List Bk) (v : List Vt) (id : ID) : 0 ≤ wI c l v id := by
 unfold wI vE;split
 ·next h => exact (oc h.okW.2 _).1
 ·omega
def jw (f : ID → Int) : List ID → Rk → Rk
 | [], b => b
 | k :: r, b => jw f r (bif li ⟨f k, k⟩ b then ⟨f k, k⟩ else b)
theorem oN (f : ID → Int) (k : ID) : ∀ (a : List ID) (b : Rk), jw f (a ++ [k]) b = bif li ⟨f k, k⟩ (jw f a b) then ⟨f k, k⟩ else jw f a b
 | [], _ => rfl
 | _ :: r, _ => oN f k r _
def gi (c : Cf) (l : List Bk) (v : List Vt) (id : ID) : Rk := jw (wI c l v) (cE l id) ⟨-1, (0, 0)⟩
theorem AR (l : List Bk) (id : ID) : (cE l id).length ≤ l.length := by
 unfold cE;split
 ·simp
 ·rw [List.length_map]; exact List.length_filter_le _ _
theorem zu {l : List Bk} (hl : l.length ≤ 1000) {v : List Vt} (hv : v.length ≤ 1000) (c : Cf) (id : ID) : Fl c l v id = some ((gi c l v id).id, decide ((gi c l v id).n ≥ 0)) := by
 unfold Fl;have hk := AR l id;rw [DX hl, ob]
 have e := az (step := oB c l v (cE l id)) (n := (cE l id).length) (fun n => fF.mk (n : Int) (jw (wI c l v) ((cE l id).take n) ⟨-1, (0, 0)⟩)) (fF.mk ((cE l id).length : Int) (gi c l v id)) (fun n hn => by
  obtain ⟨y, hy, -⟩ := aA hn;unfold oB;simp only;rw [decide_eq_true (show (n : Int) < ((cE l id).length : Int) by omega), ct, aC hy, ob, vM hl hv, ob, BT, ob, ak (n := n) (by omega), bw hy, oN]
  cases li ⟨wI c l v y, y⟩ (jw (wI c l v) ((cE l id).take n) ⟨-1, (0, 0)⟩) with
  | true => rw [ct, ct]
  | false => rw [cf, cf]) (by
  unfold oB;simp only
  rw [decide_eq_false (show ¬ ((cE l id).length : Int) < ((cE l id).length : Int) by omega), cf, List.take_length]; rfl) (by omega)
 have e0 : fF.mk ((0 : Nat) : Int) (jw (wI c l v) ((cE l id).take 0) ⟨-1, (0, 0)⟩) = fF.mk 0 (Rk.mk (-1) (0, 0)) := rfl;rw [e0] at e;rw [e, ob]
theorem mL {f : ID → Int} (hf : ∀ k, 0 ≤ f k) : ∀ (a : List ID) (b : Rk), (a = [] ∧ jw f a b = b) ∨ (jw f a b = b ∧ 0 ≤ b.n) ∨ (∃ k ∈ a, jw f a b = ⟨f k, k⟩) ∨ (b.n < -1)
 | [], b => .inl ⟨rfl, rfl⟩
 | k :: r, b => by
  by_cases hb : b.n < -1
  ·exact .inr<|.inr<|.inr hb
  ·unfold jw
   cases h : li ⟨f k, k⟩ b with
   | true =>
    rw [ct];rcases mL hf r ⟨f k, k⟩ with ⟨rfl, e⟩ | ⟨e, -⟩ | ⟨k', hk', e⟩ | h4
    ·exact .inr<|.inr<|.inl ⟨k, .head _, e⟩
    ·exact .inr<|.inr<|.inl ⟨k, .head _, e⟩
    ·exact .inr<|.inr<|.inl ⟨k', .tail _ hk', e⟩
    ·have := hf k; simp only at h4; omega
   | false =>
    rw [cf]
    have hb0 : 0 ≤ b.n := by
     unfold li at h;simp only at h;have := hf k;by_cases e : f k = b.n
     ·omega
     ·rw [if_neg e] at h;have := of_decide_eq_false h;omega
    rcases mL hf r b with ⟨rfl, e⟩ | h2 | ⟨k', hk', e⟩ | h4
    ·exact .inr<|.inl ⟨e, hb0⟩
    ·exact .inr<|.inl h2
    ·exact .inr<|.inr<|.inl ⟨k', .tail _ hk', e⟩
    ·omega
theorem sR (c : Cf) (l : List Bk) (v : List Vt) (id : ID) : (cE l id = [] ∧ gi c l v id = ⟨-1, (0, 0)⟩) ∨ ∃ k ∈ cE l id, gi c l v id = ⟨wI c l v k, k⟩ := by
 unfold gi;rcases mL (DE c l v) (cE l id) ⟨-1, (0, 0)⟩ with h | ⟨e, h2⟩ | h3 | h4
 ·exact .inl h
 ·simp only at h2; omega
 ·exact .inr h3
 ·simp only at h4; omega
def tz (c : Cf) (l : List Bk) (v : List Vt) : Nat → ID → ID
 | 0, id => id
 | n + 1, id => if (gi c l v id).n ≥ 0 then tz c l v n (gi c l v id).id else id
def kW (c : Cf) (l : List Bk) (v : List Vt) : ID := tz c l v (l.length + 1) (0, 0)
theorem ER {l : List Bk} {m : List (ID × Int)} (hp : places l = some m) {id k : ID} {i : Int} (hi : aj m id = some i) (hk : k ∈ cE l id) : ∃ j, aj m k = some j ∧ i < j ∧ j < l.length := by
 unfold cE at hk;rw [hp] at hk;obtain ⟨b, hb, rfl⟩ := List.mem_map.1 hk;rw [List.mem_filter] at hb;obtain ⟨n, hn⟩ := List.getElem?_of_mem hb.1;have hI := bL hp;have hnl := (List.getElem?_eq_some_iff.1 hn).1;have h1 := hI.names n b hnl hn;refine ⟨n, h1, ?_, by omega⟩;rcases hI.known _ _ h1 with ⟨h2, -⟩ | ⟨b', p, h2, h3, h4, h5, h6, h7, h8, h9⟩
 ·omega
 ·rw [Int.toNat_natCast, hn] at h4;cases h4;have hpar : b.Parent = id := of_decide_eq_true hb.2;rw [hpar, hi] at h6;cases h6;exact h7
theorem qG {l : List Bk} (hl : l.length ≤ 1000) {v : List Vt} (hv : v.length ≤ 1000) (c : Cf) {m : List (ID × Int)} (hp : places l = some m) : ∀ (n f : Nat) (id : ID) (i : Int), aj m id = some i → (l.length : Int) - i ≤ n → n < f →
  iter (la c l v) f ⟨id⟩ = some ⟨tz c l v n id⟩
 | 0, f, id, i, hi, hn, _ => by
  rcases (bL hp).known _ _ hi with ⟨h, -⟩ | ⟨b, p, h0, h1, -⟩ <;> omega
 | n + 1, f, id, i, hi, hn, hf => by
  obtain ⟨f, rfl⟩ : ∃ g, f = g + 1 := ⟨f - 1, by omega⟩
  have hs : la c l v ⟨id⟩ = if (gi c l v id).n ≥ 0 then some (.inl ⟨(gi c l v id).id⟩) else some (.inr ⟨id⟩) := by
   unfold la;simp only;rw [zu hl hv, ob];by_cases h : (gi c l v id).n ≥ 0
   ·rw [decide_eq_true h, Bool.not_true, cf, if_pos h]
   ·rw [decide_eq_false h, Bool.not_false, ct, if_neg h]
  unfold tz;rcases sR c l v id with ⟨-, e⟩ | ⟨k, hk, e⟩
  ·have : ¬ (gi c l v id).n ≥ 0 := by rw [e]; simp
   rw [if_neg this] at hs ⊢;exact fy hs
  ·have hpos : (gi c l v id).n ≥ 0 := by rw [e]; exact DE c l v k
   rw [if_pos hpos] at hs ⊢;rw [l8 hs, e];obtain ⟨j, hj, h1, h2⟩ := ER hp hi hk;exact qG hl hv c hp n f k j hj (by omega) (by omega)
theorem D0 {l : List Bk} (hl : l.length ≤ 1000) {v : List Vt} (hv : v.length ≤ 1000) (c : Cf) : Fm c l v = some (kW c l v) := by
 unfold Fm kW
 cases hp : places l with
 | some m =>
  rw [qG hl hv c hp (l.length + 1) bH (0, 0) (-1) (bL hp).zero (by omega) (ei (by omega)), ob]
 | none =>
  have hk : cE l (0, 0) = [] := by unfold cE; rw [hp]
  have hb : gi c l v (0, 0) = ⟨-1, (0, 0)⟩ := by unfold gi; rw [hk]; rfl
  have hs : la c l v ⟨(0, 0)⟩ = some (.inr ⟨(0, 0)⟩) := by
   unfold la;simp only;rw [zu hl hv, ob, hb];rfl
  rw [Fv, fy hs, ob];unfold tz;rw [hb, if_neg (by simp)]
def bP {R : Type} (f : Nat → Option R) : Nat → Nat → Option R
 | _, 0 => none
 | k, d + 1 => match f k with
  | some r => some r
  | none => bP f (k + 1) d
theorem ft {R : Type} {f : Nat → Option R} : ∀ {d k : Nat}, bP f k d = none ↔ ∀ j, k ≤ j → j < k + d → f j = none
 | 0, k => ⟨fun _ j h1 h2 => by omega, fun _ => rfl⟩
 | d + 1, k => by
  unfold bP
  cases h : f k with
  | some r => exact ⟨fun h => (by cases h), fun h2 => (by rw [h2 k (Nat.le_refl _) (by omega)] at h; cases h)⟩
  | none =>
   rw [ft (k := k + 1)];refine ⟨fun h2 j h3 h4 => ?_, fun h2 j h3 h4 => h2 j (by omega) (by omega)⟩;by_cases e : j = k
   ·subst e; exact h
   ·exact h2 j (by omega) (by omega)
theorem eB {R : Type} {f : Nat → Option R} {r : R} : ∀ {d k : Nat}, bP f k d = some r → ∃ j, k ≤ j ∧ j < k + d ∧ f j = some r ∧ ∀ i, k ≤ i → i < j → f i = none
 | 0, k, h => by cases h
 | d + 1, k, h => by
  unfold bP at h
  cases hk : f k with
  | some q =>
   rw [hk] at h;cases h;exact ⟨k, Nat.le_refl _, by omega, hk, fun i h1 h2 => by omega⟩
  | none =>
   rw [hk] at h;obtain ⟨j, h1, h2, h3, h4⟩ := eB h;refine ⟨j, by omega, by omega, h3, fun i h5 h6 => ?_⟩;by_cases e : i = k
   ·subst e; exact hk
   ·exact h4 i (by omega) h6
def iK {S R : Type} (s : S) : Option R → S ⊕ R
 | some r => .inr r
 | none => .inl s
theorem dC {S R : Type} {step : S → Option (S ⊕ (S ⊕ R))} {n : Nat} (mk : Nat → S) (f : Nat → Option R) (hs : ∀ j, j < n → step (mk j) = match f j with | some r => some (.inr (.inr r)) | none => some (.inl (mk (j + 1))))
  (he : step (mk n) = some (.inr (.inl (mk n)))) (hn : n < 4000000000000000000) : iter step bH (mk 0) = some (iK (mk n) (bP f 0 n)) := by
 have key : ∀ (d k q : Nat), k + d = n → d < q → iter step q (mk k) = some (iK (mk n) (bP f k d)) := by
  intro d
  induction d with
  | zero =>
   intro k q hk hq;obtain ⟨q, rfl⟩ : ∃ p, q = p + 1 := ⟨q - 1, by omega⟩
   obtain rfl : k = n := by omega
   exact fy he
  | succ d ih =>
   intro k q hk hq;obtain ⟨q, rfl⟩ : ∃ p, q = p + 1 := ⟨q - 1, by omega⟩;have h1 := hs k (by omega);unfold bP
   cases hf : f k with
   | some r =>
    rw [hf] at h1;exact fy h1
   | none =>
    rw [hf] at h1;rw [l8 h1];exact ih (k + 1) q (by omega) (by omega)
 exact key n 0 bH (by omega)<|ei hn
def eV {α : Type} [DecidableEq α] (l : List α) (v : α) (j : Nat) : Option Int := if l[j]? = some v then some (j : Int) else none
theorem jX {α : Type} [DecidableEq α] {l : List α} {v : α} : (bP (eV l v) 0 l.length).isSome = decide (v ∈ l) := by
 cases h : bP (eV l v) 0 l.length with
 | none =>
  rw [ft] at h;refine (decide_eq_false fun hm => ?_).symm;obtain ⟨j, hj⟩ := List.getElem?_of_mem hm;have := h j (Nat.zero_le _) (by have := (List.getElem?_eq_some_iff.1 hj).1; omega);unfold eV at this;rw [if_pos hj] at this;cases this
 | some r =>
  obtain ⟨j, -, -, h3, -⟩ := eB h;refine (decide_eq_true ?_).symm;unfold eV at h3;split at h3
  ·rename_i e; exact List.mem_of_getElem? e
  ·cases h3
theorem pq {α : Type} [DecidableEq α] {l : List α} {v : α} {n : Nat} {r : Int} (h : bP (eV l v) 0 n = some r) : 0 ≤ r := by
 obtain ⟨j, -, -, h3, -⟩ := eB h;unfold eV at h3;split at h3
 ·cases h3; omega
 ·cases h3
theorem vU {l : List Bk} (hl : l.length ≤ 100000) (v : Bk) : wZ l v = some (decide (v ∈ l)) := by
 have e := dC (step := kx l v) (n := l.length) (fun k => fe.mk (k : Int)) (eV l v) (fun j hj => by
  obtain ⟨y, hy, -⟩ := aA hj;unfold kx eV;simp only;rw [decide_eq_true (show (j : Int) < (l.length : Int) by omega), ct, aC hy, ob, EK, ak (n := j) (by omega), hy];by_cases h : v = y
  ·rw [decide_eq_true h, ct, if_pos (by rw [h])]
  ·rw [decide_eq_false h, cf, if_neg (fun e => h (Option.some.inj e).symm)]) (by
  unfold kx;simp only
  rw [decide_eq_false (show ¬ (l.length : Int) < (l.length : Int) by omega), cf]) (by omega)
 unfold wZ Cd;rw [← jX];have e' : iter (kx l v) bH (fe.mk 0) = some (iK (fe.mk (l.length : Int)) (bP (eV l v) 0 l.length)) := e;rw [e', ob]
 cases h : bP (eV l v) 0 l.length with
 | none => rw [iK, sl, ob]; rfl
 | some r => rw [iK, sr, ob, decide_eq_true (pq h)]; rfl
theorem vV {l : List Vt} (hl : l.length ≤ 100000) (v : Vt) : w0 l v = some (decide (v ∈ l)) := by
 have e := dC (step := ky l v) (n := l.length) (fun k => ff.mk (k : Int)) (eV l v) (fun j hj => by
  obtain ⟨y, hy, -⟩ := aA hj;unfold ky eV;simp only;rw [decide_eq_true (show (j : Int) < (l.length : Int) by omega), ct, aC hy, ob, GE, ak (n := j) (by omega), hy];by_cases h : v = y
  ·rw [decide_eq_true h, ct, if_pos (by rw [h])]
  ·rw [decide_eq_false h, cf, if_neg (fun e => h (Option.some.inj e).symm)]) (by
  unfold ky;simp only
  rw [decide_eq_false (show ¬ (l.length : Int) < (l.length : Int) by omega), cf]) (by omega)
 unfold w0 Ce;rw [← jX];have e' : iter (ky l v) bH (ff.mk 0) = some (iK (ff.mk (l.length : Int)) (bP (eV l v) 0 l.length)) := e;rw [e', ob]
 cases h : bP (eV l v) 0 l.length with
 | none => rw [iK, sl, ob]; rfl
 | some r => rw [iK, sr, ob, decide_eq_true (pq h)]; rfl
section
variable {α : Type} [DecidableEq α]
def cR (a : List α) : List α → List α
 | [] => a
 | x :: r => cR (if x ∈ a then a else a ++ [x]) r
theorem lK (x : α) : ∀ (b a : List α), cR a (b ++ [x]) = if x ∈ cR a b then cR a b else cR a b ++ [x]
 | [], _ => rfl
 | _ :: r, _ => lK x r _
theorem nk (x : α) : ∀ (b a : List α), x ∈ cR a b ↔ x ∈ a ∨ x ∈ b
 | [], a => by simp [cR]
 | y :: r, a => by
  unfold cR;rw [nk x r];by_cases h : y ∈ a
  ·rw [if_pos h, List.mem_cons];exact ⟨fun h2 => h2.elim .inl (fun h3 => .inr (.inr h3)), fun h2 => h2.elim .inl fun h3 => h3.elim (fun e => .inl (e ▸ h)) .inr⟩
  ·rw [if_neg h, List.mem_append, List.mem_singleton, List.mem_cons, or_assoc]
theorem cS : ∀ (b a : List α), (cR a b).length ≤ a.length + b.length
 | [], a => by simp [cR]
 | y :: r, a => by
  unfold cR;have := cS r (if y ∈ a then a else a ++ [y])
  have h2 : (if y ∈ a then a else a ++ [y]).length ≤ a.length + 1 := by split <;> simp
  simp only [List.length_cons]; omega
theorem fD : ∀ {b a : List α}, a.Nodup → (cR a b).Nodup
 | [], _, h => h
 | y :: r, a, h => by
  unfold cR;refine fD ?_;split
  ·exact h
  ·rename_i hn;rw [List.nodup_append];exact ⟨h, by simp, fun x hx z hz => by rw [List.mem_singleton] at hz; subst hz; exact fun e => hn (e ▸ hx)⟩
end
theorem B5 {a b : List Bk} (h : a.length + b.length ≤ 90000) : yy a b = some (cR a b) := by
 unfold yy;rw [aI (by omega) (by omega), ct]
 have e := az (step := kr b) (n := b.length) (fun k => eb.mk (k : Int) (cR a (b.take k))) (eb.mk (b.length : Int) (cR a b)) (fun k hk => by
  obtain ⟨y, hy, -⟩ := aA hk;have hlen := cS (b.take k) a;rw [List.length_take] at hlen;unfold kr;simp only;rw [decide_eq_true (show (k : Int) < (b.length : Int) by omega), ct, aC hy, ob, vU (by omega), ob, bw hy, lK, ak (n := k) (by omega)];by_cases hm : y ∈ cR a (b.take k)
  ·rw [decide_eq_true hm, Bool.not_true, cf, if_pos hm]
  ·rw [decide_eq_false hm, Bool.not_false, ct, aI (by simp only [List.length_singleton]; omega) (by omega), ct, if_neg hm]) (by
  unfold kr;simp only
  rw [decide_eq_false (show ¬ (b.length : Int) < (b.length : Int) by omega), cf, List.take_length]) (by omega)
 have e' : iter (kr b) bH (eb.mk 0 a) = some (eb.mk (b.length : Int) (cR a b)) := e;rw [e', ob]
theorem B6 {a b : List Vt} (h : a.length + b.length ≤ 90000) : yz a b = some (cR a b) := by
 unfold yz;rw [aI (by omega) (by omega), ct]
 have e := az (step := ks b) (n := b.length) (fun k => ec.mk (k : Int) (cR a (b.take k))) (ec.mk (b.length : Int) (cR a b)) (fun k hk => by
  obtain ⟨y, hy, -⟩ := aA hk;have hlen := cS (b.take k) a;rw [List.length_take] at hlen;unfold ks;simp only;rw [decide_eq_true (show (k : Int) < (b.length : Int) by omega), ct, aC hy, ob, vV (by omega), ob, bw hy, lK, ak (n := k) (by omega)];by_cases hm : y ∈ cR a (b.take k)
  ·rw [decide_eq_true hm, Bool.not_true, cf, if_pos hm]
  ·rw [decide_eq_false hm, Bool.not_false, ct, aI (by simp only [List.length_singleton]; omega) (by omega), ct, if_neg hm]) (by
  unfold ks;simp only
  rw [decide_eq_false (show ¬ (b.length : Int) < (b.length : Int) by omega), cf, List.take_length]) (by omega)
 have e' : iter (ks b) bH (ec.mk 0 a) = some (ec.mk (b.length : Int) (cR a b)) := e;rw [e', ob]
def bS (a b : Vw) : Vw := ⟨cR a.B b.B, cR a.V b.V⟩
theorem lc {a b : Vw} (h1 : a.B.length + b.B.length ≤ 90000) (h2 : a.V.length + b.V.length ≤ 90000) : zF a b = some (bS a b) := by
 unfold zF;rw [B5 h1, ob, B6 h2, ob]; rfl
section
variable {α : Type} [DecidableEq α]
def fI (a b : List α) (j : Nat) : Option Bool := if a[j]? = b[j]? then none else some false
theorem lX {a b : List α} (hl : a.length = b.length) : (match bP (fI a b) 0 a.length with | some r => r | none => true) = decide (a = b) := by
 cases h : bP (fI a b) 0 a.length with
 | none =>
  rw [ft] at h;refine (decide_eq_true ?_).symm;apply List.ext_getElem?;intro j;by_cases hj : j < a.length
  ·have := h j (Nat.zero_le _) (by omega);unfold fI at this;split at this
   ·assumption
   ·cases this
  ·rw [List.getElem?_eq_none (by omega), List.getElem?_eq_none (by omega)]
 | some r =>
  obtain ⟨j, -, -, h3, -⟩ := eB h;unfold fI at h3;split at h3
  ·cases h3
  ·rename_i hne;cases h3;exact (decide_eq_false fun e => hne (by rw [e])).symm
end
theorem BU {a b : List Bk} (h : a.length ≤ 100000) : yo a b = some (decide (a = b)) := by
 unfold yo;by_cases hl : a.length = b.length
 ·rw [show ((a.length : Int) != (b.length : Int)) = false by simp [hl], cf]
  have e := dC (step := ki a b) (n := a.length) (fun k => fc.mk (k : Int)) (fI a b) (fun j hj => by
   obtain ⟨y, hy, -⟩ := aA hj;obtain ⟨z, hz, -⟩ := aA (l := b) (n := j) (by omega);unfold ki fI;simp only;rw [decide_eq_true (show (j : Int) < (a.length : Int) by omega), ct, aC hy, ob, aC hz, ob, EK, ak (n := j) (by omega), hy, hz];by_cases e : y = z
   ·rw [decide_eq_true e, Bool.not_true, cf, if_pos (by rw [e])]
   ·rw [decide_eq_false e, Bool.not_false, ct, if_neg (fun q => e (Option.some.inj q))]) (by
   unfold ki;simp only
   rw [decide_eq_false (show ¬ (a.length : Int) < (a.length : Int) by omega), cf]) (by omega)
  have e' : iter (ki a b) bH (fc.mk 0) = some (iK (fc.mk (a.length : Int)) (bP (fI a b) 0 a.length)) := e;rw [e', ob, ← lX hl]
  cases bP (fI a b) 0 a.length with
  | none => rw [iK, sl]
  | some r => rw [iK, sr]
 ·rw [show ((a.length : Int) != (b.length : Int)) = true by rw [bne_iff_ne]; omega, ct, decide_eq_false fun e => hl (by rw [e])]
theorem BV {a b : List Vt} (h : a.length ≤ 100000) : yp a b = some (decide (a = b)) := by
 unfold yp;by_cases hl : a.length = b.length
 ·rw [show ((a.length : Int) != (b.length : Int)) = false by simp [hl], cf]
  have e := dC (step := kj a b) (n := a.length) (fun k => fd.mk (k : Int)) (fI a b) (fun j hj => by
   obtain ⟨y, hy, -⟩ := aA hj;obtain ⟨z, hz, -⟩ := aA (l := b) (n := j) (by omega);unfold kj fI;simp only;rw [decide_eq_true (show (j : Int) < (a.length : Int) by omega), ct, aC hy, ob, aC hz, ob, GE, ak (n := j) (by omega), hy, hz];by_cases e : y = z
   ·rw [decide_eq_true e, Bool.not_true, cf, if_pos (by rw [e])]
   ·rw [decide_eq_false e, Bool.not_false, ct, if_neg (fun q => e (Option.some.inj q))]) (by
   unfold kj;simp only
   rw [decide_eq_false (show ¬ (a.length : Int) < (a.length : Int) by omega), cf]) (by omega)
  have e' : iter (kj a b) bH (fd.mk 0) = some (iK (fd.mk (a.length : Int)) (bP (fI a b) 0 a.length)) := e;rw [e', ob, ← lX hl]
  cases bP (fI a b) 0 a.length with
  | none => rw [iK, sl]
  | some r => rw [iK, sr]
 ·rw [show ((a.length : Int) != (b.length : Int)) = true by rw [bne_iff_ne]; omega, ct, decide_eq_false fun e => hl (by rw [e])]
theorem uD {a b : Vw} (h1 : a.B.length ≤ 100000) (h2 : a.V.length ≤ 100000) : D1 a b = some (decide (a.B = b.B ∧ a.V = b.V)) := by
 unfold D1;rw [BU h1, ob, BV h2, ob];by_cases h : a.B = b.B
 ·rw [decide_eq_true h, ct]; congr 1; exact decide_eq_decide.2 ⟨fun h3 => ⟨h, h3⟩, fun h3 => h3.2⟩
 ·rw [decide_eq_false h, cf, decide_eq_false fun h3 => h h3.1]
def mayB (c : Cf) (b : Bk) : Bool := decide (0 ≤ p6 c b.Slot ∧ p6 c b.Slot = b.From ∧ nm b ≠ (0, 0))
def mayV (c : Cf) (v : Vt) : Bool := decide (v.From ∈ oT c v.Slot)
theorem D2 (c : Cf) (b : Bk) : Fn c b = some (mayB c b) := by
 unfold Fn mayB;rw [rf, ob];by_cases h1 : p6 c b.Slot ≥ 0
 ·rw [decide_eq_true h1, ct];by_cases h2 : p6 c b.Slot = b.From
  ·rw [show (p6 c b.Slot == b.From) = true by simp [h2], ct, GD];by_cases h3 : nm b = (0, 0)
   ·rw [decide_eq_true h3, Bool.not_true, decide_eq_false fun h => h.2.2 h3]
   ·rw [decide_eq_false h3, Bool.not_false, decide_eq_true ⟨h1, h2, h3⟩]
  ·rw [show (p6 c b.Slot == b.From) = false by simp [h2], cf, decide_eq_false fun h => h2 h.2.1]
 ·rw [decide_eq_false h1, cf, decide_eq_false fun h => h1 h.1]
theorem D3 (c : Cf) (v : Vt) : Fo c v = some (mayV c v) := by
 unfold Fo mayV;rw [zj, ob]
theorem bK {α : Type} {p : α → Bool} {l : List α} {n : Nat} {y : α} (hy : l[n]? = some y) : (l.take (n + 1)).filter p = (l.take n).filter p ++ bif p y then [y] else [] := by
 rw [bw hy, List.filter_append];cases h : p y <;> simp [h]
theorem de {α : Type} {p : α → Bool} {l : List α} (n : Nat) : ((l.take n).filter p).length ≤ n :=
 Nat.le_trans (List.length_filter_le _ _) (by rw [List.length_take]; omega)
theorem vN {c : Cf} {l : List Bk} (hl : l.length ≤ 100000) : wT c l = some (l.filter (mayB c)) := by
 unfold wT
 have e := az (step := kf c l) (n := l.length) (fun k => d9.mk (k : Int) ((l.take k).filter (mayB c))) (d9.mk (l.length : Int) (l.filter (mayB c))) (fun k hk => by
  obtain ⟨y, hy, -⟩ := aA hk;have hlen := de (p := mayB c) (l := l) k;unfold kf;simp only;rw [decide_eq_true (show (k : Int) < (l.length : Int) by omega), ct, aC hy, ob, D2, ob, bK hy, ak (n := k) (by omega)]
  cases mayB c y with
  | true => rw [ct, aI (by simp only [List.length_singleton]; omega) (by omega), ct, ct]
  | false => rw [cf, cf, List.append_nil]) (by
  unfold kf;simp only
  rw [decide_eq_false (show ¬ (l.length : Int) < (l.length : Int) by omega), cf, List.take_length]) (by omega)
 have e' : iter (kf c l) bH (d9.mk 0 []) = some (d9.mk (l.length : Int) (l.filter (mayB c))) := e;rw [e', ob]
theorem vO {c : Cf} {l : List Vt} (hl : l.length ≤ 100000) : wU c l = some (l.filter (mayV c)) := by
 unfold wU
 have e := az (step := kg c l) (n := l.length) (fun k => ea.mk (k : Int) ((l.take k).filter (mayV c))) (ea.mk (l.length : Int) (l.filter (mayV c))) (fun k hk => by
  obtain ⟨y, hy, -⟩ := aA hk;have hlen := de (p := mayV c) (l := l) k;unfold kg;simp only;rw [decide_eq_true (show (k : Int) < (l.length : Int) by omega), ct, aC hy, ob, D3, ob, bK hy, ak (n := k) (by omega)]
  cases mayV c y with
  | true => rw [ct, aI (by simp only [List.length_singleton]; omega) (by omega), ct, ct]
  | false => rw [cf, cf, List.append_nil]) (by
  unfold kg;simp only
  rw [decide_eq_false (show ¬ (l.length : Int) < (l.length : Int) by omega), cf, List.take_length]) (by omega)
 have e' : iter (kg c l) bH (ea.mk 0 []) = some (ea.mk (l.length : Int) (l.filter (mayV c))) := e;rw [e', ob]
def aU (c : Cf) (w : Vw) : Vw := ⟨w.B.filter (mayB c), w.V.filter (mayV c)⟩
theorem zE {c : Cf} {w : Vw} (h1 : w.B.length ≤ 100000) (h2 : w.V.length ≤ 100000) : E7 c w = some (aU c w) := by
 unfold E7;rw [vN h1, ob, vO h2, ob]; rfl
theorem Ch {c : Cf} {w : Vw} (h1 : w.B.length ≤ 100000) (h2 : w.V.length ≤ 100000) : zw c w = some ((aU c w).B, (aU c w).V) := by
 unfold zw;rw [vN h1, ob, vO h2, ob]; rfl
open Go.Proofs
def xG (l : List Bk) (n : Nat) : Prop := ∃ y p, l[n]? = some y ∧ aj (nZ l n) y.Parent = some p ∧ ¬ y.Slot ≤ bX l p ∧ aj (nZ l n) (nm y) = none
theorem AM {l : List Bk} : ∀ (r n : Nat), l.length - n = r → n ≤ l.length → ((d7 l (l.drop n) n (nZ l n)).isSome = true ↔ ∀ i, n ≤ i → i < l.length → xG l i)
 | 0, n, hr, hn => by
  have : n = l.length := by omega
  subst this;rw [List.drop_length];exact ⟨fun _ i h1 h2 => by omega, fun _ => rfl⟩
 | r + 1, n, hr, hn => by
  obtain ⟨y, hy, -⟩ := aA (l := l) (n := n) (by omega);have ih := AM (l := l) r (n + 1) (by omega) (by omega)
  have e : nZ l (n + 1) = nZ l n ++ [(nm y, (n : Int))] := by simp only [nZ, hy]
  rw [e] at ih;rw [eD hy];constructor
  ·intro h i h1 h2
   cases hp : aj (nZ l n) y.Parent with
   | none => rw [hp] at h; cases h
   | some p =>
    rw [hp] at h;simp only at h;by_cases hs : y.Slot ≤ bX l p
    ·rw [if_pos hs] at h; cases h
    ·rw [if_neg hs] at h
     cases hq : aj (nZ l n) (nm y) with
     | some q => rw [hq] at h; cases h
     | none =>
      rw [hq] at h;by_cases hin : i = n
      ·subst hin; exact ⟨y, p, hy, hp, hs, hq⟩
      ·exact ih.1 h i (by omega) h2
  ·intro h;obtain ⟨y', p, hy', hp, hs, hq⟩ := h n (Nat.le_refl _) (by omega);rw [hy] at hy'; cases hy';rw [hp]; simp only;rw [if_neg hs, hq];exact ih.2 fun i h1 h2 => h i (by omega) h2
theorem rD {l : List Bk} : (places l).isSome = true ↔ ∀ i, i < l.length → xG l i := by
 have := AM (l := l) l.length 0 (by omega) (Nat.zero_le _);rw [show (places l) = d7 l (l.drop 0) 0 (nZ l 0) from rfl, this];exact ⟨fun h i hi => h i (Nat.zero_le _) hi, fun h i _ hi => h i hi⟩
theorem lC {l m : List Bk} : ∀ n, (∀ i, i < n → l[i]? = m[i]?) → nZ l n = nZ m n
 | 0, _ => rfl
 | n + 1, h => by
  simp only [nZ, h n (by omega), lC n fun i hi => h i (by omega)]
theorem nD {l m : List Bk} {n : Nat} (h : ∀ i, i ≤ n → l[i]? = m[i]?) (ho : xG l n) (hn : n < l.length) : xG m n := by
 obtain ⟨y, p, h1, h2, h3, h4⟩ := ho;have e := lC n fun i hi => h i (by omega);refine ⟨y, p, by rw [← h n (Nat.le_refl _)]; exact h1, by rw [← e]; exact h2, ?_, by rw [← e]; exact h4⟩
 have hp : p = -1 ∨ 0 ≤ p ∧ p < n := by
  rw [tL _ n (by omega)] at h2;split at h2
  ·cases h2; exact .inl rfl
  ·split at h2
   ·rename_i hi;obtain ⟨j, b, g1, g2, -⟩ := AS hi;cases h2;exact .inr ⟨by omega, by omega⟩
   ·cases h2
 rcases hp with rfl | ⟨h5, h6⟩
 ·simpa [bX] using h3
 ·have : bX m p = bX l p := by
   simp only [bX, h p.toNat (by omega)]
  rw [this]; exact h3
theorem tN {l : List Bk} {k : Nat} (h : (places l).isSome = true) (hk : k ≤ l.length) : (places (l.take k)).isSome = true := by
 rw [rD] at h ⊢;intro i hi;simp only [List.length_take] at hi;refine nD (fun j hj => ?_) (h i (by omega)) (by omega);rw [List.getElem?_take_of_lt (by omega)]
def wn (l : List Bk) (b : Bk) : Bool := (gS l b.Parent).2 && decide (b.Slot > (gS l b.Parent).1) && !decide (nm b = (0, 0)) && decide (mO l (nm b) < 0)
theorem AV {l : List Bk} {m : List (ID × Int)} {b : Bk} (h : places l = some m) : (places (l ++ [b])).isSome = wn l b := by
 have hl : ∀ i, i < l.length → xG l i := rD.1 (by rw [h]; rfl)
 have hpre : ∀ i, i < l.length → l[i]? = (l ++ [b])[i]? := fun i hi => by rw [List.getElem?_append_left hi]
 have hm : nZ (l ++ [b]) l.length = m := by rw [← lC l.length hpre, ← xM h]
 have hb : (l ++ [b])[l.length]? = some b := by simp
 have hslot : ∀ p i, aj m p = some i → bX (l ++ [b]) i = bX l i := by
  intro p i hf;rcases tG h hf with ⟨rfl, -⟩ | ⟨c, h0, h1, h2, -⟩
  ·rfl
  ·have : ¬ i = -1 := by omega
   simp only [bX, if_neg this, ← hpre i.toNat (by omega)]
 have key : (places (l ++ [b])).isSome = true ↔ xG (l ++ [b]) l.length := by
  rw [rD];constructor
  ·intro h1; exact h1 l.length (by simp)
  ·intro h1 i hi;simp only [List.length_append, List.length_singleton] at hi;by_cases e : i = l.length
   ·subst e; exact h1
   ·exact nD (fun j hj => hpre j (by omega)) (hl i (by omega)) (by omega)
 rw [Bool.eq_iff_iff, key];constructor
 ·rintro ⟨y, p, h1, h2, h3, h4⟩;rw [hb] at h1; cases h1;rw [hm] at h2 h4;rw [hslot _ _ h2] at h3
  have hz : ¬ nm b = (0, 0) := fun e => by rw [e, (bL h).zero] at h4; cases h4
  have g1 : gS l b.Parent = (bX l p, true) := by simp only [gS, h, h2]
  have g2 : mO l (nm b) = -1 := by simp only [mO, h, h4]; rfl
  unfold wn;rw [g1, g2, decide_eq_true (show b.Slot > bX l p by omega), decide_eq_false hz]; rfl
 ·intro hf;unfold wn at hf;simp only [Bool.and_eq_true, Bool.not_eq_true', decide_eq_true_eq, decide_eq_false_iff_not] at hf;obtain ⟨⟨⟨h1, h2⟩, h3⟩, h4⟩ := hf
  cases hp : aj m b.Parent with
  | none => simp only [gS, h, hp] at h1; cases h1
  | some p =>
   simp only [gS, h, hp] at h2;refine ⟨b, p, hb, by rw [hm]; exact hp, by rw [hslot _ _ hp]; omega, ?_⟩;rw [hm];rcases Option.eq_none_or_eq_some (aj m (nm b)) with h5 | ⟨i, h5⟩
   ·exact h5
   ·exfalso;simp only [mO, h, h5, Option.getD_some] at h4;rcases tG h h5 with ⟨-, e⟩ | ⟨c, h0, -⟩
    ·exact h3 e
    ·omega
def bB (B : List Bk) (id : ID) : Option Int := if id = (0, 0) then some 0 else (B.find? fun b => decide (nm b = id)).map Bk.Slot
theorem pI (B : List Bk) (b : Bk) (id : ID) : bB (B ++ [b]) id = (bB B id).or (if nm b = id then some b.Slot else none) := by
 unfold bB;by_cases h : id = (0, 0)
 ·rw [if_pos h, if_pos h]; rfl
 ·rw [if_neg h, if_neg h, List.find?_append]
  cases B.find? fun b => decide (nm b = id) with
  | some x => rfl
  | none =>
   by_cases h2 : nm b = id
   ·simp [h2]
   ·simp [h2]
theorem jj {B : List Bk} {id : ID} {s : Int} (h : bB B id = some s) (t : List Bk) : bB (B ++ t) id = some s := by
 unfold bB at h ⊢;by_cases h0 : id = (0, 0)
 ·rw [if_pos h0] at h ⊢; exact h
 ·rw [if_neg h0] at h ⊢;rw [List.find?_append]
  cases hf : B.find? fun b => decide (nm b = id) with
  | some x => rw [hf] at h; exact h
  | none => rw [hf] at h; cases h
theorem vp {B : List Bk} {b : Bk} (h : b ∈ B) : ∃ s, bB B (nm b) = some s := by
 unfold bB;by_cases h0 : nm b = (0, 0)
 ·rw [if_pos h0]; exact ⟨_, rfl⟩
 ·rw [if_neg h0]
  cases hf : B.find? fun q => decide (nm q = nm b) with
  | some x => exact ⟨_, rfl⟩
  | none =>
   rw [List.find?_eq_none] at hf;have := hf b h;simp at this
def dz (B : List Bk) : Prop := (places B).isSome = true
theorem x5 : dz [] := rfl
theorem mu {l : List Bk} {m : List (ID × Int)} (h : places l = some m) (id : ID) : bB l id = (aj m id).map (bX l) := by
 have hI := bL h;unfold bB;by_cases h0 : id = (0, 0)
 ·rw [if_pos h0, h0, hI.zero]; simp [bX]
 ·rw [if_neg h0]
  cases hf : aj m id with
  | none =>
   cases hq : l.find? fun b => decide (nm b = id) with
   | none => rfl
   | some b =>
    exfalso;have hb := List.mem_of_find?_eq_some hq
    have hn : nm b = id := by simpa using List.find?_some hq
    obtain ⟨i, hi⟩ := List.getElem?_of_mem hb;have := hI.names i b (List.getElem?_eq_some_iff.1 hi).1 hi;rw [hn, hf] at this; cases this
  | some i =>
   rcases hI.known _ _ hf with ⟨-, h1⟩ | ⟨b, p, h1, h2, h3, h4, -⟩
   ·exact absurd h1 h0
   ·cases hq : l.find? fun b => decide (nm b = id) with
    | none =>
     rw [List.find?_eq_none] at hq;have := hq b (List.mem_of_getElem? h3);simp [h4] at this
    | some b' =>
     have hb := List.mem_of_find?_eq_some hq
     have hn : nm b' = id := by simpa using List.find?_some hq
     obtain ⟨j, hj⟩ := List.getElem?_of_mem hb;have := hI.names j b' (List.getElem?_eq_some_iff.1 hj).1 hj;rw [hn, hf] at this;cases this;simp [bX, hj, show ¬ (j : Int) = -1 by omega]
theorem xV {l : List Bk} {m : List (ID × Int)} (h : places l = some m) (id : ID) : gS l id = match bB l id with | some s => (s, true) | none => (0, false) := by
 rw [mu h];unfold gS;rw [h];simp only;cases aj m id <;> rfl
theorem AC {l : List Bk} {m : List (ID × Int)} (h : places l = some m) (id : ID) : (¬ id = (0, 0) ∧ mO l id < 0) ↔ bB l id = none := by
 rw [mu h];unfold mO;rw [h];simp only
 cases hf : aj m id with
 | none =>
  refine ⟨fun _ => rfl, fun _ => ⟨fun e => ?_, by simp⟩⟩;rw [e, (bL h).zero] at hf; cases hf
 | some i =>
  refine ⟨fun h1 => ?_, fun h1 => by cases h1⟩;rcases (bL h).known _ _ hf with ⟨-, h2⟩ | ⟨_, _, h2, -⟩
  ·exact absurd h2 h1.1
  ·have := h1.2; simp at this; omega
theorem pX {B : List Bk} {b : Bk} : dz (B ++ [b]) ↔ dz B ∧ (∃ s, bB B b.Parent = some s ∧ s < b.Slot) ∧ bB B (nm b) = none := by
 have key : ∀ {m}, places B = some m → (dz (B ++ [b]) ↔ (∃ s, bB B b.Parent = some s ∧ s < b.Slot) ∧ bB B (nm b) = none) := by
  intro m hm;unfold dz;rw [AV hm, ← AC hm];unfold wn;rw [xV hm]
  cases bB B b.Parent with
  | none => simp
  | some s => simp [and_assoc]
 cases hm : places B with
 | some m =>
  rw [key hm];exact ⟨fun h => ⟨by unfold dz; rw [hm]; rfl, h⟩, fun h => h.2⟩
 | none =>
  have hno : ¬ dz B := by unfold dz; rw [hm]; simp
  refine ⟨fun h => absurd ?_ hno, fun h => absurd h.1 hno⟩;have := tN (k := B.length) h (by simp)
  rwa [List.take_left' rfl] at this
theorem vz {B : List Bk} (h : dz B) (k : Nat) : dz (B.take k) := by
 by_cases hk : k ≤ B.length
 ·exact tN h hk
 ·rw [List.take_of_length_le (by omega)]; exact h
def ug : List Bk → List (ID × Int) → List (ID × Int)
 | [], m => m
 | b :: r, m => ug r (aW m (nm b) b.Slot)
def lF (B : List Bk) : List (ID × Int) := ug B [((0, 0), 0)]
def tA : List Vt → List (Vt × Bool) → List (Vt × Bool)
 | [], m => m
 | v :: r, m => tA r (aW m v true)
def jE (V : List Vt) : List (Vt × Bool) := tA V []
theorem qW (b : Bk) : ∀ (B : List Bk) (m), ug (B ++ [b]) m = aW (ug B m) (nm b) b.Slot
 | [], _ => rfl
 | _ :: r, _ => qW b r _
theorem qH (v : Vt) : ∀ (V : List Vt) (m), tA (V ++ [v]) m = aW (tA V m) v true
 | [], _ => rfl
 | _ :: r, _ => qH v r _
theorem qY (B : List Bk) (b : Bk) : lF (B ++ [b]) = aW (lF B) (nm b) b.Slot := qW b B _
theorem qJ (V : List Vt) (v : Vt) : jE (V ++ [v]) = aW (jE V) v true := qH v V _
theorem mt {α β : Type} [DecidableEq α] (m : List (α × β)) (k : α) (v : β) : (aW m k v).length = if (aj m k).isSome then m.length else m.length + 1 := by
 induction m with
 | nil => simp [aW, aj]
 | cons p r ih =>
  obtain ⟨a, b⟩ := p;by_cases h : a = k
  ·simp [aW, aj, h]
  ·cases hf : aj r k <;> simp [aW, aj, h, hf] at ih ⊢ <;> exact ih
theorem Bg (B : List Bk) : (lF B).length ≤ B.length + 1 := by
 unfold lF
 have : ∀ (B : List Bk) (m : List (ID × Int)), (ug B m).length ≤ B.length + m.length := by
  intro B
  induction B with
  | nil => intro m; simp [ug]
  | cons b r ih =>
   intro m;have h1 := ih (aW m (nm b) b.Slot);have h2 := mt m (nm b) b.Slot;unfold ug;simp only [List.length_cons];split at h2 <;> omega
 have := this B [((0, 0), 0)];simpa using this
theorem qX {B : List Bk} (h : dz B) : ∀ id, aj (lF B) id = bB B id := by
 have key : ∀ k, k ≤ B.length → ∀ id, aj (lF (B.take k)) id = bB (B.take k) id := by
  intro k
  induction k with
  | zero =>
   intro _ id;simp only [List.take_zero];unfold lF ug bB aj aj;by_cases e : id = (0, 0)
   ·simp [e]
   ·simp [e, Ne.symm e]
  | succ k ih =>
   intro hk id;obtain ⟨b, hb, -⟩ := aA (l := B) (n := k) (by omega);have hv := vz h (k + 1);rw [bw hb] at hv ⊢;rw [pX] at hv;rw [qY, fr, pI, ih (by omega)];by_cases e : nm b = id
   ·rw [if_pos e, if_pos e, ← e, hv.2.2]; rfl
   ·rw [if_neg e, if_neg e]; cases bB (B.take k) id <;> rfl
 have := key B.length (Nat.le_refl _)
 rwa [List.take_length] at this
theorem qI (V : List Vt) (v : Vt) : aj (jE V) v = if v ∈ V then some true else none := by
 have : ∀ (V : List Vt) (m : List (Vt × Bool)), aj (tA V m) v = if v ∈ V then some true else aj m v := by
  intro V
  induction V with
  | nil => intro m; simp [tA]
  | cons x r ih =>
   intro m;unfold tA;rw [ih, fr];by_cases h : v ∈ r
   ·simp [h]
   ·by_cases h2 : x = v
    ·simp [h2]
    ·simp [h, h2, Ne.symm h2]
 rw [jE, this]; rfl
theorem tB (V : List Vt) : (jE V).length ≤ V.length ∧ ((jE V).length = V.length ↔ V.Nodup) := by
 have key : ∀ k, k ≤ V.length → (jE (V.take k)).length ≤ k ∧ ((jE (V.take k)).length = k ↔ (V.take k).Nodup) := by
  intro k
  induction k with
  | zero => intro _; simp [jE, tA]
  | succ k ih =>
   intro hk;obtain ⟨v, hv, -⟩ := aA (l := V) (n := k) (by omega);obtain ⟨h1, h2⟩ := ih (by omega);rw [bw hv, qJ, mt, qI, List.nodup_append];by_cases hm : v ∈ V.take k
   ·rw [if_pos hm];refine ⟨by simp; omega, ⟨fun e => by simp at e; omega, fun h => absurd Z (h.2.2 v hm v (by simp))⟩⟩
   ·rw [if_neg hm];refine ⟨by simp; omega, ⟨fun e => ⟨h2.1 (by simp at e; omega), by simp, fun a ha b hb => by rw [List.mem_singleton] at hb; subst hb; exact fun q => hm (q ▸ ha)⟩, fun h => ?_⟩⟩;have := h2.2 h.1;simp; omega
 have := key V.length (Nat.le_refl _)
 rwa [List.take_length] at this
theorem vP {w : Vw} {u : Int} (h1 : w.B.length ≤ 90000) (h2 : w.V.length ≤ 90000) : wW w u = some (lF w.B, jE w.V) := by
 unfold wW;rw [aI (by omega) (by omega), ct, aI (by omega) (by omega), ct]
 have e1 := az (step := km w) (n := w.B.length) (fun k => eG.mk (k : Int) (lF (w.B.take k))) (eG.mk (w.B.length : Int) (lF w.B)) (fun k hk => by
  obtain ⟨y, hy, -⟩ := aA hk;unfold km;simp only
  rw [decide_eq_true (show (k : Int) < (w.B.length : Int) by omega), ct, aC hy, ob, bw hy, qY, ak (n := k) (by omega)]) (by
  unfold km;simp only
  rw [decide_eq_false (show ¬ (w.B.length : Int) < (w.B.length : Int) by omega), cf, List.take_length]) (by omega)
 have e1' : iter (km w) bH (eG.mk 0 (aW [] (0, 0) 0)) = some (eG.mk (w.B.length : Int) (lF w.B)) := e1
 have e2 := az (step := ko w) (n := w.V.length) (fun k => eI.mk (k : Int) (jE (w.V.take k))) (eI.mk (w.V.length : Int) (jE w.V)) (fun k hk => by
  obtain ⟨y, hy, -⟩ := aA hk;unfold ko;simp only
  rw [decide_eq_true (show (k : Int) < (w.V.length : Int) by omega), ct, aC hy, ob, bw hy, qJ, ak (n := k) (by omega)]) (by
  unfold ko;simp only
  rw [decide_eq_false (show ¬ (w.V.length : Int) < (w.V.length : Int) by omega), cf, List.take_length]) (by omega)
 have e2' : iter (ko w) bH (eI.mk 0 []) = some (eI.mk (w.V.length : Int) (jE w.V)) := e2;rw [e1', ob, e2', ob]
def forB (B : List Bk) (v : Vt) : Prop := ∃ s, bB B v.Head = some s ∧ s ≤ v.Slot
def sP (sm : List (ID × Int)) (v : Vt) : Bool := match aj sm v.Head with
 | none => true
 | some s => decide (s > v.Slot)
theorem BW (v : Vt) (sm : List (ID × Int)) : yq v sm = some (sP sm v) := by
 unfold yq sP
 cases aj sm v.Head with
 | none => rfl
 | some s => rfl
def qy (sm : List (ID × Int)) (l : List Vt) (j : Nat) : Option Int := match l[j]? with
 | some v => if sP sm v = true then some (j : Int) else none
 | none => none
theorem BX {l : List Vt} (hl : l.length ≤ 90000) (sm : List (ID × Int)) : yr l sm = some (l.any (sP sm)) := by
 have e := dC (step := ik l sm) (n := l.length) (fun k => dR.mk (k : Int)) (qy sm l) (fun j hj => by
  obtain ⟨y, hy, -⟩ := aA hj;unfold ik qy;simp only;rw [decide_eq_true (show (j : Int) < (l.length : Int) by omega), ct, aC hy, ob, BW, ob, ak (n := j) (by omega), hy];simp only
  cases sP sm y with
  | true => rw [ct, if_pos rfl]
  | false => rw [cf, if_neg (by simp)]) (by
  unfold ik;simp only
  rw [decide_eq_false (show ¬ (l.length : Int) < (l.length : Int) by omega), cf]) (by omega)
 unfold yr vS;have e' : iter (ik l sm) bH (dR.mk 0) = some (iK (dR.mk (l.length : Int)) (bP (qy sm l) 0 l.length)) := e;rw [e', ob]
 cases h : bP (qy sm l) 0 l.length with
 | none =>
  rw [iK, sl, ob];rw [ft] at h;congr 1;rw [show decide ((-1 : Int) ≥ 0) = false from rfl];symm;rw [List.any_eq_false];intro v hv;obtain ⟨j, hj⟩ := List.getElem?_of_mem hv;have := h j (Nat.zero_le _) (by have := (List.getElem?_eq_some_iff.1 hj).1; omega);unfold qy at this;rw [hj] at this;simp only at this;intro hb;rw [if_pos hb] at this; cases this
 | some r =>
  obtain ⟨j, -, -, h3, -⟩ := eB h;unfold qy at h3;split at h3
  ·rename_i v hv;split at h3
   ·rename_i hb;cases h3;rw [iK, sr, ob, decide_eq_true (show (j : Int) ≥ 0 by omega)];congr 1;symm;rw [List.any_eq_true];exact ⟨v, List.mem_of_getElem? hv, hb⟩
   ·cases h3
  ·cases h3
structure ge (c : Cf) (w : Vw) : Prop where
 conf : dk c
 valid : dz w.B
 lenB : w.B.length ≤ 60
 lenV : w.V.length ≤ 240
 mayB : ∀ b ∈ w.B, mayB c b = true
 mayV : ∀ v ∈ w.V, mayV c v = true
 nodup : w.V.Nodup
 forB : ∀ v ∈ w.V, forB w.B v
open Classical in
theorem D4 {c : Cf} {w : Vw} (h1 : w.B.length ≤ 1000) (h2 : w.V.length ≤ 1000) : Fp c w = some (decide (ge c w)) := by
 have hno : ∀ h : ¬ ge c w, decide (ge c w) = false := fun h => decide_eq_false h;unfold Fp;rw [k8, ob];by_cases c1 : dk c
 ·rw [decide_eq_true c1, Bool.not_true, cf, y0, ob];by_cases c2 : dz w.B
  ·rw [show (places w.B).isSome = true from c2, Bool.not_true, cf];by_cases c3 : w.B.length ≤ 60
   ·rw [decide_eq_false (show ¬ (w.B.length : Int) > 60 by omega), cf, ob];by_cases c4 : w.V.length ≤ 240
    ·rw [decide_eq_false (show ¬ (w.V.length : Int) > 240 by omega), cf, zE (by omega) (by omega), ob]
     have hfB : (aU c w).B.length = w.B.length ↔ ∀ b ∈ w.B, mayB c b = true := by unfold aU; exact List.length_filter_eq_length_iff
     have hfV : (aU c w).V.length = w.V.length ↔ ∀ v ∈ w.V, mayV c v = true := by unfold aU; exact List.length_filter_eq_length_iff
     by_cases c5 : ∀ b ∈ w.B, mayB c b = true
     ·rw [show (((aU c w).B.length : Int) != (w.B.length : Int)) = false by rw [hfB.2 c5]; simp, cf, ob];by_cases c6 : ∀ v ∈ w.V, mayV c v = true
      ·have hm := tB w.V;rw [show (((aU c w).V.length : Int) != (w.V.length : Int)) = false by rw [hfV.2 c6]; simp, cf, vP (by omega) (by omega), ob, show rp (jE w.V) = true from decide_eq_true (by omega), ct];by_cases c7 : w.V.Nodup
       ·rw [show (((jE w.V).length : Int) == (w.V.length : Int)) = true by rw [hm.2.2 c7]; simp, ct, BX (by omega), ob];congr 1
        have hbad : ∀ v, sP (lF w.B) v = false ↔ Go.Mg.forB w.B v := by
         intro v;unfold sP Go.Mg.forB;rw [qX c2]
         cases bB w.B v.Head with
         | none => simp
         | some s => simp
        cases ha : w.V.any (sP (lF w.B)) with
        | true =>
         obtain ⟨v, hv, hb⟩ := List.any_eq_true.1 ha;symm;refine hno fun h => ?_;have := (hbad v).2 (h.forB v hv);rw [hb] at this; cases this
        | false =>
         rw [List.any_eq_false] at ha;symm;exact decide_eq_true ⟨c1, c2, c3, c4, c5, c6, c7, fun v hv => (hbad v).1 (by have := ha v hv; simpa using this)⟩
       ·rw [show (((jE w.V).length : Int) == (w.V.length : Int)) = false by
         rw [beq_eq_false_iff_ne]; intro e; exact c7 (hm.2.1 (by omega)), cf, hno fun h => c7 h.nodup]
      ·rw [show (((aU c w).V.length : Int) != (w.V.length : Int)) = true by
        rw [bne_iff_ne]; intro e; exact c6 (hfV.1 (by omega)), ct, hno fun h => c6 h.mayV]
     ·rw [show (((aU c w).B.length : Int) != (w.B.length : Int)) = true by
       rw [bne_iff_ne]; intro e; exact c5 (hfB.1 (by omega)), ct, ob, ct, hno fun h => c5 h.mayB]
    ·rw [decide_eq_true (show (w.V.length : Int) > 240 by omega), ct, hno fun h => c4 h.lenV]
   ·rw [decide_eq_true (show (w.B.length : Int) > 60 by omega), ct, ob, ct, hno fun h => c3 h.lenB]
  ·rw [show (places w.B).isSome = false from by unfold dz at c2; simpa using c2, Bool.not_false, ct, ob, ct, hno fun h => c2 h.valid]
 ·rw [decide_eq_false c1, Bool.not_false, ct, ob, ct, hno fun h => c1 h.conf]
def cq (B : List Bk) (b : Bk) : Bool := (bB B (nm b)).isSome || (match bB B b.Parent with | some s => decide (s ≥ b.Slot) | none => false)
def eR (B : List Bk) (upto : Int) (b : Bk) : Bool := match bB B b.Parent with | some _ => decide (b.Slot > upto) | none => true
def bj (upto : Int) (B : List Bk) (full : Bool) (b : Bk) : Bool × List Bk × Bool :=
 if cq B b then (true, B, full) else if eR B upto b then (false, B, full) else if B.length < 60 then (true, B ++ [b], full) else (false, B, true)
def cG (B : List Bk) (V : List Vt) (v : Vt) : Bool := decide (v ∈ V) || (match bB B v.Head with | some s => decide (s > v.Slot) | none => false)
def fC (B : List Bk) (upto : Int) (v : Vt) : Bool := match bB B v.Head with | some _ => decide (v.Slot > upto) | none => true
def bk (upto : Int) (B : List Bk) (V : List Vt) (full : Bool) (v : Vt) : Bool × List Vt × Bool :=
 if cG B V v then (true, V, full) else if fC B upto v then (false, V, full) else if V.length < 240 then (true, V ++ [v], full) else (false, V, true)
def Co (B : List Bk) (sm : List (ID × Int)) : Prop := ∀ id, aj sm id = bB B id
def Eb (V : List Vt) (hm : List (Vt × Bool)) : Prop := ∀ v, aj hm v = if v ∈ V then some true else none
theorem vT (n most : Int) (full : Bool) : wY n most full = some (decide (n < most), if n < most then full else true) := by
 unfold wY
 cases full with
 | true => rw [ct]; by_cases h : n < most <;> simp [h]
 | false =>
  rw [cf];by_cases h : n < most
  ·rw [if_pos h, decide_eq_false (show ¬ n ≥ most by omega)]
  ·rw [if_neg h, decide_eq_true (show n ≥ most by omega)]
theorem BY {b : Bk} {B : List Bk} {sm : List (ID × Int)} {upto : Int} {full : Bool} (hs : Co B sm) (hB : B.length ≤ 1000) (hl : sm.length ≤ 900000) :
  ∃ sm', uy b B sm upto full = some ((bj upto B full b).1, (bj upto B full b).2.1, sm', (bj upto B full b).2.2) ∧ Co (bj upto B full b).2.1 sm' ∧ sm'.length ≤ sm.length + ((bj upto B full b).2.1.length - B.length) := by
 unfold uy;rw [hs, hs]
 cases hn : bB B (nm b) with
 | some q =>
  have e : bj upto B full b = (true, B, full) := by simp [bj, cq, hn]
  rw [e];refine ⟨sm, ?_, hs, by simp⟩;rw [Option.isSome_some, ct, ob, ct]
 | none =>
  rw [Option.isSome_none, cf]
  cases hp : bB B b.Parent with
  | none =>
   have e : bj upto B full b = (false, B, full) := by simp [bj, cq, eR, hn, hp]
   rw [e];refine ⟨sm, ?_, hs, by simp⟩;rw [Option.isSome_none, cf, ob, cf, Bool.not_false, ct, ob, ct]
  | some s =>
   rw [Option.isSome_some, ct, ob, Option.getD_some];by_cases h1 : s ≥ b.Slot
   ·have e : bj upto B full b = (true, B, full) := by simp [bj, cq, hn, hp, h1]
    rw [e];refine ⟨sm, ?_, hs, by simp⟩;rw [decide_eq_true h1, ct]
   ·rw [decide_eq_false h1, cf, Bool.not_true, cf];by_cases h2 : b.Slot > upto
    ·have e : bj upto B full b = (false, B, full) := by simp [bj, cq, eR, hn, hp, h1, h2]
     rw [e];refine ⟨sm, ?_, hs, by simp⟩;rw [decide_eq_true h2, ct, ob, ct]
    ·rw [decide_eq_false h2, cf, vT, ob, ob];by_cases h3 : B.length < 60
     ·have e : bj upto B full b = (true, B ++ [b], full) := by simp [bj, cq, eR, hn, hp, h1, h2, h3]
      rw [e];refine ⟨aW sm (nm b) b.Slot, ?_, fun id => ?_, ?_⟩
      ·rw [decide_eq_true (show (B.length : Int) < 60 by omega), Bool.not_true, cf, aI (by simp only [List.length_singleton]; omega) (by omega), ct, show rp sm = true from decide_eq_true (by omega), ct, if_pos (show (B.length : Int) < 60 by omega)]
      ·rw [fr, pI, hs];by_cases e : nm b = id
       ·rw [if_pos e, if_pos e, ← e, hn]; rfl
       ·rw [if_neg e, if_neg e]; cases bB B id <;> rfl
      ·rw [mt, List.length_append, List.length_singleton]; split <;> omega
     ·have e : bj upto B full b = (false, B, true) := by simp [bj, cq, eR, hn, hp, h1, h2, h3]
      rw [e];refine ⟨sm, ?_, hs, by simp⟩;rw [decide_eq_false (show ¬ (B.length : Int) < 60 by omega), Bool.not_false, ct, if_neg (show ¬ (B.length : Int) < 60 by omega)]
theorem BZ {v : Vt} {B : List Bk} {V : List Vt} {sm : List (ID × Int)} {hm : List (Vt × Bool)} {upto : Int} {full : Bool} (hs : Co B sm) (hh : Eb V hm) (hV : V.length ≤ 1000) (hl : hm.length ≤ 900000) :
  ∃ hm', uz v V sm hm upto full = some ((bk upto B V full v).1, (bk upto B V full v).2.1, hm', (bk upto B V full v).2.2) ∧ Eb (bk upto B V full v).2.1 hm' ∧ hm'.length ≤ hm.length + ((bk upto B V full v).2.1.length - V.length) := by
 unfold uz;rw [hs, hh];by_cases hn : v ∈ V
 ·have e : bk upto B V full v = (true, V, full) := by simp [bk, cG, hn]
  rw [e];refine ⟨hm, ?_, hh, by simp⟩;rw [if_pos hn, Option.getD_some, ct, ob, ct]
 ·rw [if_neg hn, Option.getD_none, cf]
  cases hp : bB B v.Head with
  | none =>
   have e : bk upto B V full v = (false, V, full) := by simp [bk, cG, fC, hn, hp]
   rw [e];refine ⟨hm, ?_, hh, by simp⟩;rw [Option.isSome_none, cf, ob, cf, Bool.not_false, ct, ob, ct]
  | some s =>
   rw [Option.isSome_some, ct, ob, Option.getD_some];by_cases h1 : s > v.Slot
   ·have e : bk upto B V full v = (true, V, full) := by simp [bk, cG, hn, hp, h1]
    rw [e];refine ⟨hm, ?_, hh, by simp⟩;rw [decide_eq_true h1, ct]
   ·rw [decide_eq_false h1, cf, Bool.not_true, cf];by_cases h2 : v.Slot > upto
    ·have e : bk upto B V full v = (false, V, full) := by simp [bk, cG, fC, hn, hp, h1, h2]
     rw [e];refine ⟨hm, ?_, hh, by simp⟩;rw [decide_eq_true h2, ct, ob, ct]
    ·rw [decide_eq_false h2, cf, vT, ob, ob];by_cases h3 : V.length < 240
     ·have e : bk upto B V full v = (true, V ++ [v], full) := by simp [bk, cG, fC, hn, hp, h1, h2, h3]
      rw [e];refine ⟨aW hm v true, ?_, fun id => ?_, ?_⟩
      ·rw [decide_eq_true (show (V.length : Int) < 240 by omega), Bool.not_true, cf, aI (by simp only [List.length_singleton]; omega) (by omega), ct, show rp hm = true from decide_eq_true (by omega), ct, if_pos (show (V.length : Int) < 240 by omega)]
      ·rw [fr, hh];by_cases e : v = id
       ·subst e; simp
       ·simp [e, Ne.symm e]
      ·rw [mt, List.length_append, List.length_singleton]; split <;> omega
     ·have e : bk upto B V full v = (false, V, true) := by simp [bk, cG, fC, hn, hp, h1, h2, h3]
      rw [e];refine ⟨hm, ?_, hh, by simp⟩;rw [decide_eq_false (show ¬ (V.length : Int) < 240 by omega), Bool.not_false, ct, if_neg (show ¬ (V.length : Int) < 240 by omega)]
section
variable {α : Type}
def bd (step : List α → Bool → α → Bool × List α × Bool) : List α → Bool → List α → List α × List α × Bool
 | B, f, [] => ([], B, f)
 | B, f, b :: r => (if (step B f b).1 then (bd step (step B f b).2.1 (step B f b).2.2 r).1 else b :: (bd step (step B f b).2.1 (step B f b).2.2 r).1, (bd step (step B f b).2.1 (step B f b).2.2 r).2)
variable {step : List α → Bool → α → Bool × List α × Bool}
theorem gx (b : α) : ∀ (l B : List α) (f : Bool), bd step B f (l ++ [b]) =
  (if (step (bd step B f l).2.1 (bd step B f l).2.2 b).1 then (bd step B f l).1 else (bd step B f l).1 ++ [b], (step (bd step B f l).2.1 (bd step B f l).2.2 b).2)
 | [], B, f => by
  simp only [List.nil_append, bd];rfl
 | x :: r, B, f => by
  simp only [List.cons_append, bd, gx b r];split <;> split <;> simp_all
theorem mZ : ∀ (l B : List α) (f : Bool), (bd step B f l).1.length ≤ l.length
 | [], B, f => by simp [bd]
 | x :: r, B, f => by
  have := mZ r (step B f x).2.1 (step B f x).2.2;simp only [bd];split
  ·simp only [List.length_cons]; omega
  ·simp only [List.length_cons]; omega
theorem ep (h : ∀ B f b, B.length ≤ (step B f b).2.1.length ∧ (step B f b).2.1.length ≤ B.length + 1) : ∀ (l B : List α) (f : Bool), B.length ≤ (bd step B f l).2.1.length ∧ (bd step B f l).2.1.length ≤ B.length + l.length
 | [], B, f => by simp [bd]
 | x :: r, B, f => by
  have h1 := h B f x;have h2 := ep h r (step B f x).2.1 (step B f x).2.2;simp only [bd, List.length_cons];omega
end
def bi (upto : Int) : List Bk → Bool → List Bk → List Bk × List Bk × Bool := bd (bj upto)
def bT (upto : Int) (B : List Bk) : List Vt → Bool → List Vt → List Vt × List Vt × Bool := bd (bk upto B)
theorem jm (upto : Int) (B : List Bk) (f : Bool) (b : Bk) : B.length ≤ (bj upto B f b).2.1.length ∧ (bj upto B f b).2.1.length ≤ B.length + 1 := by
 unfold bj; split <;> (try split) <;> (try split) <;> simp
theorem jn (upto : Int) (B : List Bk) (V : List Vt) (f : Bool) (v : Vt) : V.length ≤ (bk upto B V f v).2.1.length ∧ (bk upto B V f v).2.1.length ≤ V.length + 1 := by
 unfold bk; split <;> (try split) <;> (try split) <;> simp
structure uK (B : List Bk) (sm : List (ID × Int)) : Prop where
 find : Co B sm
 len : sm.length ≤ B.length + 1
structure x8 (V : List Vt) (hm : List (Vt × Bool)) : Prop where
 find : Eb V hm
 len : hm.length ≤ V.length
theorem yt {b : Bk} {B : List Bk} {sm : List (ID × Int)} {upto : Int} {full : Bool} (hs : uK B sm) (hB : B.length ≤ 1000) :
  ∃ sm', uy b B sm upto full = some ((bj upto B full b).1, (bj upto B full b).2.1, sm', (bj upto B full b).2.2) ∧ uK (bj upto B full b).2.1 sm' := by
 obtain ⟨sm', h1, h2, h3⟩ := BY (b := b) (upto := upto) (full := full) hs.find hB (by have := hs.len; omega);have hg := jm upto B full b;exact ⟨sm', h1, h2, by have := hs.len; omega⟩
theorem yu {v : Vt} {B : List Bk} {V : List Vt} {sm : List (ID × Int)} {hm : List (Vt × Bool)} {upto : Int} {full : Bool} (hs : uK B sm) (hh : x8 V hm) (hV : V.length ≤ 1000) :
  ∃ hm', uz v V sm hm upto full = some ((bk upto B V full v).1, (bk upto B V full v).2.1, hm', (bk upto B V full v).2.2) ∧ x8 (bk upto B V full v).2.1 hm' := by
 obtain ⟨hm', h1, h2, h3⟩ := BZ (v := v) (upto := upto) (full := full) hs.find hh.find hV (by have := hh.len; omega);have hg := jn upto B V full v;exact ⟨hm', h1, h2, by have := hh.len; omega⟩
theorem fB {α : Type} {l : List α} {j : Nat} {y : α} (h : l[j]? = some y) : l.take (j + 1) = l.take j ++ [y] := bw h
theorem Cc {lB l B : List Bk} {kk : Nat} {sm : List (ID × Int)} {upto : Int} {full : Bool} (hl : lB.take kk = l) (hk : l.length = kk) (hs : uK B sm) (hB : B.length + kk ≤ 900) :
  ∃ i B' sm' f', yH lB kk B sm upto full = some (i, B', sm', f') ∧ uK B' sm' ∧ ((i = -1 ∧ bi upto B full l = (l, B', f')) ∨ ∃ j : Nat, i = j ∧ j < kk ∧ bi upto B full (l.take (j + 1)) = (l.take j, B', f')) := by
 unfold yH
 have key := dg (step := kw lB kk upto) (fun x => ∃ j : Nat, j ≤ kk ∧ x.t8 = j ∧ bi upto B full (l.take j) = (l.take j, x.o6, x.o10_5) ∧ uK x.o6 x.o8) (fun x => kk - x.t8.toNat)
  (fun b => (∃ x, b = .inl x ∧ bi upto B full l = (l, x.o6, x.o10_5) ∧ uK x.o6 x.o8) ∨ ∃ (j : Nat) (B' : List Bk) (sm' : List (ID × Int)) (f' : Bool), b = .inr ((j : Int), B', sm', f') ∧ j < kk ∧ bi upto B full (l.take (j + 1)) = (l.take j, B', f') ∧ uK B' sm') (by
   rintro ⟨t, B1, sm1, f1⟩ ⟨j, hj, h1, h2, h3⟩;simp only at h1 h2 h3;subst h1;by_cases hlt : j < kk
   ·obtain ⟨y, hy, -⟩ := aA (l := l) (n := j) (by omega);have hgr := ep (step := bj upto) (jm upto) (l.take j) B full;have h2' : bd (bj upto) B full (l.take j) = (l.take j, B1, f1) := h2;rw [h2'] at hgr;simp only at hgr;rw [List.length_take] at hgr;obtain ⟨sm', e, hr⟩ := yt (b := y) (upto := upto) (full := f1) h3 (by omega)
    have hsn : bi upto B full (l.take (j + 1)) = (if (bj upto B1 f1 y).1 then l.take j else l.take j ++ [y], (bj upto B1 f1 y).2) := by
     rw [fB hy];unfold bi;rw [gx, h2']
    generalize bj upto B1 f1 y = q at e hr hsn;obtain ⟨g, B2, f2⟩ := q;simp only at e hr hsn
    have hstep : kw lB kk upto ⟨(j : Int), B1, sm1, f1⟩ = bif g then some (.inr (.inr ((j : Int), B2, sm', f2))) else some (.inl ⟨((j + 1 : Nat) : Int), B2, sm', f2⟩) := by
     unfold kw;simp only;rw [decide_eq_true (show (j : Int) < (kk : Int) by omega), ct, hl, aC hy, ob, e, ob, ak (n := j) (by omega)]
    cases g with
    | true =>
     right;rw [ct] at hstep;rw [if_pos rfl] at hsn;exact ⟨_, hstep, .inr ⟨j, B2, sm', f2, rfl, hlt, hsn, hr⟩⟩
    | false =>
     left;rw [cf] at hstep;rw [if_neg (by simp)] at hsn;refine ⟨_, hstep, ⟨j + 1, hlt, rfl, ?_, hr⟩, by simp only; omega⟩;rw [hsn, fB hy]
   ·right
    obtain rfl : j = kk := by omega
    refine ⟨.inl ⟨(j : Int), B1, sm1, f1⟩, ?_, .inl ⟨_, rfl, ?_, h3⟩⟩
    ·unfold kw;simp only;rw [decide_eq_false (show ¬ (j : Int) < (j : Int) by omega), cf]
    ·rw [List.take_of_length_le (by omega)] at h2; exact h2) (n := bH) (x := ⟨0, B, sm, full⟩) ⟨0, by omega, rfl, by simp [bi, bd], hs⟩ (ei (by simp only; omega))
 obtain ⟨b, e, ⟨x, rfl, h1, h2⟩ | ⟨j, B', sm', f', rfl, h0, h1, h2⟩⟩ := key
 ·exact ⟨-1, x.o6, x.o8, x.o10_5, by rw [e, ob, sl], h2, .inl ⟨rfl, h1⟩⟩
 ·exact ⟨j, B', sm', f', by rw [e, ob, sr], h2, .inr ⟨j, rfl, h0, h1⟩⟩
structure p9 {α : Type} (lB : List α) (k : Nat) (l : List α) : Prop where
 take : lB.take k = l
 le : k ≤ lB.length
theorem p9.len {α : Type} {lB l : List α} {k : Nat} (h : p9 lB k l) : l.length = k := by
 rw [← h.take, List.length_take]; have := h.le; omega
theorem rm {α : Type} {a l : List α} {i kk : Nat} {z : α} (hi : i ≤ kk) (hk : kk ≤ a.length) (h : a.take i = l) : p9 (gV a i (kk - i) z) i l := by
 have hlen := oS (l := a) (off := i) (k := kk - i) (z := z) (by omega);refine ⟨?_, by omega⟩;unfold gV;rw [List.append_assoc, List.take_left' (by rw [List.length_take]; omega), h]
structure Mv {α : Type} (l a : List α) (i j : Nat) (left : List α) : Prop where
 ij : i < j
 jl : j ≤ l.length
 len : l.length ≤ a.length
 left : a.take i = left
 rest : ∀ q, j ≤ q → q < l.length → a[q]? = l[q]?
theorem Mv.next_gone {α : Type} {l a : List α} {i j : Nat} {left : List α} (h : Mv l a i j left) (hj : j < l.length) : Mv l a i (j + 1) left :=
 ⟨by have := h.ij; omega, hj, h.len, h.left, fun q h1 h2 => h.rest q (by omega) h2⟩
theorem Mv.next_stay {α : Type} {l a : List α} {i j : Nat} {left : List α} {y : α} (h : Mv l a i j left) (hj : j < l.length) (_ : l[j]? = some y) : Mv l (a.set i y) (i + 1) (j + 1) (left ++ [y]) := by
 have h1 := h.ij;have h2 := h.len;refine ⟨by omega, hj, by rw [List.length_set]; exact h2, ?_, fun q h3 h4 => ?_⟩
 ·have hi : (a.set i y)[i]? = some y := by rw [List.getElem?_set]; simp; omega
  rw [fB hi, List.take_set_of_le (Nat.le_refl _), h.left]
 ·rw [List.getElem?_set, if_neg (by omega)];exact h.rest q (by omega) h4
theorem B3 {lB l B : List Bk} {kk : Nat} {sm : List (ID × Int)} {upto : Int} {full : Bool} (hl : p9 lB kk l) (hs : uK B sm) (hB : B.length + kk ≤ 900) :
  ∃ k' lB' sm', yv lB kk B sm upto full = some (k', lB', (bi upto B full l).2.1, sm', (bi upto B full l).2.2) ∧ uK (bi upto B full l).2.1 sm' ∧ p9 lB' k' (bi upto B full l).1 := by
 have hk := hl.len;obtain ⟨i, B0, sm0, f0, e0, hr0, h0⟩ := Cc (upto := upto) (full := full) hl.take hk hs hB;unfold yv;rw [e0, ob];rcases h0 with ⟨rfl, hp⟩ | ⟨j0, rfl, hj0, hp⟩
 ·rw [hp];refine ⟨kk, lB, sm0, ?_, hr0, hl⟩;simp only;rw [show ((-1 : Int) == -1) = true from rfl, ct]
 ·simp only;rw [show ((j0 : Int) == -1) = false by rw [beq_eq_false_iff_ne]; omega, cf, ak (n := j0) (by omega)]
  have key := dg (step := kp kk upto) (fun x => ∃ (i j : Nat), x.i = i ∧ x.j = j ∧ uK x.o6 x.o8 ∧ (bi upto B full (l.take j)).2 = (x.o6, x.o10_5) ∧ Mv l x.o14 i j (bi upto B full (l.take j)).1) (fun x => kk - x.j.toNat)
   (fun x => ∃ i : Nat, x.i = i ∧ i ≤ kk ∧ uK x.o6 x.o8 ∧ (bi upto B full l).2 = (x.o6, x.o10_5) ∧ x.o14.take i = (bi upto B full l).1 ∧ kk ≤ x.o14.length) (by
   rintro ⟨i', j', B1, sm1, f1, a⟩ ⟨i, j, h1, h2, h3, h4, h5⟩;simp only at h1 h2 h3 h4 h5;subst h1 h2;have hij := h5.ij;have hjl := h5.jl;have hal := h5.len;by_cases hlt : j < kk
   ·left;obtain ⟨y, hy, -⟩ := aA (l := l) (n := j) (by omega)
    have hya : (a.take kk)[j]? = some y := by rw [List.getElem?_take_of_lt hlt, h5.rest j (Nat.le_refl _) (by omega), hy]
    obtain ⟨z, hz, -⟩ := aA (l := a.take kk) (n := i) (by rw [List.length_take]; omega);have hgr := ep (step := bj upto) (jm upto) (l.take j) B full;have h4' : (bd (bj upto) B full (l.take j)).2 = (B1, f1) := h4;rw [h4'] at hgr;simp only at hgr;rw [List.length_take] at hgr;obtain ⟨sm', e, hr⟩ := yt (b := y) (upto := upto) (full := f1) h3 (by omega)
    have hsn : bi upto B full (l.take (j + 1)) = (if (bj upto B1 f1 y).1 then (bi upto B full (l.take j)).1 else (bi upto B full (l.take j)).1 ++ [y], (bj upto B1 f1 y).2) := by
     rw [fB hy];unfold bi;rw [gx, h4']
    generalize bj upto B1 f1 y = q at e hr hsn;obtain ⟨g, B2, f2⟩ := q;simp only at e hr hsn
    have hstep : kp kk upto ⟨(i : Int), (j : Int), B1, sm1, f1, a⟩ = bif !g then some (.inl ⟨((i + 1 : Nat) : Int), ((j + 1 : Nat) : Int), B2, sm', f2, a.set i y⟩) else some (.inl ⟨(i : Int), ((j + 1 : Nat) : Int), B2, sm', f2, a⟩) := by
     unfold kp;simp only;rw [decide_eq_true (show (j : Int) < (kk : Int) by omega), ct, aC hya, ob, e, ob, aC hz, ob, ak (n := j) (by omega), ak (n := i) (by omega), Int.toNat_natCast]
    cases g with
    | true =>
     rw [Bool.not_true, cf] at hstep;rw [if_pos rfl] at hsn;refine ⟨_, hstep, ⟨i, j + 1, rfl, rfl, hr, by rw [hsn], ?_⟩, by simp only; omega⟩;rw [hsn];exact h5.next_gone (by omega)
    | false =>
     rw [Bool.not_false, ct] at hstep;rw [if_neg (by simp)] at hsn;refine ⟨_, hstep, ⟨i + 1, j + 1, rfl, rfl, hr, by rw [hsn], ?_⟩, by simp only; omega⟩;rw [hsn];exact h5.next_stay (by omega) hy
   ·right
    have hjk : j = kk := by omega
    have htl : l.take j = l := List.take_of_length_le (by omega);rw [htl] at h4 h5;refine ⟨⟨(i : Int), (j : Int), B1, sm1, f1, a⟩, ?_, i, rfl, by omega, h3, h4, h5.left, by show kk ≤ a.length; omega⟩;unfold kp;simp only
    rw [decide_eq_false (show ¬ (j : Int) < (kk : Int) by omega), cf]) (n := bH) (x := ⟨(j0 : Int), ((j0 + 1 : Nat) : Int), B0, sm0, f0, lB⟩)
   ⟨j0, j0 + 1, rfl, rfl, hr0, by rw [hp], by
    rw [hp];refine ⟨by omega, by omega, by have := hl.le; simp only; omega, ?_, fun q h1 h2 => ?_⟩
    ·show lB.take j0 = l.take j0;rw [← hl.take, List.take_take, Nat.min_eq_left (by omega)]
    ·rw [← hl.take, List.getElem?_take_of_lt (by omega)]⟩ (ei (by simp only; omega))
  obtain ⟨x, ex, i, hi, hik, hr, h1, h2, h3⟩ := key;generalize bi upto B full l = p at h1 h2 ⊢;obtain ⟨pl, pB, pf⟩ := p;simp only at h1 h2 ⊢;rw [ex, ob, hi, decide_eq_true (show 0 ≤ (i : Int) ∧ (i : Int) ≤ (kk : Int) by omega), ct, Int.toNat_natCast, decide_eq_true (show i + (kk - i) ≤ x.o14.length by omega), ct, ct];cases h1;exact ⟨i, gV x.o14 i (kk - i) ⟨0, 0, (0, 0), 0⟩, x.o8, rfl, hr, rm hik h3 h2⟩
theorem Cb {lV l V : List Vt} {kk : Nat} {BB : List Bk} {sm0 : List (ID × Int)} {hm : List (Vt × Bool)} {upto : Int} {full : Bool} (hl : lV.take kk = l) (hk : l.length = kk) (hsm : uK BB sm0) (hs : x8 V hm) (hB : V.length + kk ≤ 900) :
  ∃ i V' hm' f', yD lV kk V sm0 hm upto full = some (i, V', hm', f') ∧ x8 V' hm' ∧ ((i = -1 ∧ bT upto BB V full l = (l, V', f')) ∨ ∃ j : Nat, i = j ∧ j < kk ∧ bT upto BB V full (l.take (j + 1)) = (l.take j, V', f')) := by
 unfold yD
 have key := dg (step := ku lV kk sm0 upto) (fun x => ∃ j : Nat, j ≤ kk ∧ x.t8 = j ∧ bT upto BB V full (l.take j) = (l.take j, x.o7, x.o10_5) ∧ x8 x.o7 x.o9) (fun x => kk - x.t8.toNat)
  (fun b => (∃ x, b = .inl x ∧ bT upto BB V full l = (l, x.o7, x.o10_5) ∧ x8 x.o7 x.o9) ∨ ∃ (j : Nat) (V' : List Vt) (hm' : List (Vt × Bool)) (f' : Bool), b = .inr ((j : Int), V', hm', f') ∧ j < kk ∧ bT upto BB V full (l.take (j + 1)) = (l.take j, V', f') ∧ x8 V' hm') (by
   rintro ⟨t, V1, hm1, f1⟩ ⟨j, hj, h1, h2, h3⟩;simp only at h1 h2 h3;subst h1;by_cases hlt : j < kk
   ·obtain ⟨y, hy, -⟩ := aA (l := l) (n := j) (by omega);have hgr := ep (step := bk upto BB) (jn upto BB) (l.take j) V full;have h2' : bd (bk upto BB) V full (l.take j) = (l.take j, V1, f1) := h2;rw [h2'] at hgr;simp only at hgr;rw [List.length_take] at hgr;obtain ⟨hm', e, hr⟩ := yu (v := y) (upto := upto) (full := f1) hsm h3 (by omega)
    have hsn : bT upto BB V full (l.take (j + 1)) = (if (bk upto BB V1 f1 y).1 then l.take j else l.take j ++ [y], (bk upto BB V1 f1 y).2) := by
     rw [fB hy];unfold bT;rw [gx, h2']
    generalize bk upto BB V1 f1 y = q at e hr hsn;obtain ⟨g, V2, f2⟩ := q;simp only at e hr hsn
    have hstep : ku lV kk sm0 upto ⟨(j : Int), V1, hm1, f1⟩ = bif g then some (.inr (.inr ((j : Int), V2, hm', f2))) else some (.inl ⟨((j + 1 : Nat) : Int), V2, hm', f2⟩) := by
     unfold ku;simp only;rw [decide_eq_true (show (j : Int) < (kk : Int) by omega), ct, hl, aC hy, ob, e, ob, ak (n := j) (by omega)]
    cases g with
    | true =>
     right;rw [ct] at hstep;rw [if_pos rfl] at hsn;exact ⟨_, hstep, .inr ⟨j, V2, hm', f2, rfl, hlt, hsn, hr⟩⟩
    | false =>
     left;rw [cf] at hstep;rw [if_neg (by simp)] at hsn;refine ⟨_, hstep, ⟨j + 1, hlt, rfl, ?_, hr⟩, by simp only; omega⟩;rw [hsn, fB hy]
   ·right
    obtain rfl : j = kk := by omega
    refine ⟨.inl ⟨(j : Int), V1, hm1, f1⟩, ?_, .inl ⟨_, rfl, ?_, h3⟩⟩
    ·unfold ku;simp only;rw [decide_eq_false (show ¬ (j : Int) < (j : Int) by omega), cf]
    ·rw [List.take_of_length_le (by omega)] at h2; exact h2) (n := bH) (x := ⟨0, V, hm, full⟩) ⟨0, by omega, rfl, by simp [bT, bd], hs⟩ (ei (by simp only; omega))
 obtain ⟨b, e, ⟨x, rfl, h1, h2⟩ | ⟨j, V', hm', f', rfl, h0, h1, h2⟩⟩ := key
 ·exact ⟨-1, x.o7, x.o9, x.o10_5, by rw [e, ob, sl], h2, .inl ⟨rfl, h1⟩⟩
 ·exact ⟨j, V', hm', f', by rw [e, ob, sr], h2, .inr ⟨j, rfl, h0, h1⟩⟩
theorem B4 {lV l V : List Vt} {kk : Nat} {BB : List Bk} {sm0 : List (ID × Int)} {hm : List (Vt × Bool)} {upto : Int} {full : Bool} (hl : p9 lV kk l) (hsm : uK BB sm0) (hs : x8 V hm) (hB : V.length + kk ≤ 900) :
  ∃ k' lV' hm', yw lV kk V sm0 hm upto full = some (k', lV', (bT upto BB V full l).2.1, hm', (bT upto BB V full l).2.2) ∧ x8 (bT upto BB V full l).2.1 hm' ∧ p9 lV' k' (bT upto BB V full l).1 := by
 have hk := hl.len;obtain ⟨i, V0, hm0, f0, e0, hr0, h0⟩ := Cb (upto := upto) (full := full) hl.take hk hsm hs hB;unfold yw;rw [e0, ob];rcases h0 with ⟨rfl, hp⟩ | ⟨j0, rfl, hj0, hp⟩
 ·rw [hp];refine ⟨kk, lV, hm0, ?_, hr0, hl⟩;simp only;rw [show ((-1 : Int) == -1) = true from rfl, ct]
 ·simp only;rw [show ((j0 : Int) == -1) = false by rw [beq_eq_false_iff_ne]; omega, cf, ak (n := j0) (by omega)]
  have key := dg (step := kq kk sm0 upto) (fun x => ∃ (i j : Nat), x.i = i ∧ x.j = j ∧ x8 x.o7 x.o9 ∧ (bT upto BB V full (l.take j)).2 = (x.o7, x.o10_5) ∧ Mv l x.o15 i j (bT upto BB V full (l.take j)).1) (fun x => kk - x.j.toNat)
   (fun x => ∃ i : Nat, x.i = i ∧ i ≤ kk ∧ x8 x.o7 x.o9 ∧ (bT upto BB V full l).2 = (x.o7, x.o10_5) ∧ x.o15.take i = (bT upto BB V full l).1 ∧ kk ≤ x.o15.length) (by
   rintro ⟨i', j', V1, hm1, f1, a⟩ ⟨i, j, h1, h2, h3, h4, h5⟩;simp only at h1 h2 h3 h4 h5;subst h1 h2;have hij := h5.ij;have hjl := h5.jl;have hal := h5.len;by_cases hlt : j < kk
   ·left;obtain ⟨y, hy, -⟩ := aA (l := l) (n := j) (by omega)
    have hya : (a.take kk)[j]? = some y := by rw [List.getElem?_take_of_lt hlt, h5.rest j (Nat.le_refl _) (by omega), hy]
    obtain ⟨z, hz, -⟩ := aA (l := a.take kk) (n := i) (by rw [List.length_take]; omega);have hgr := ep (step := bk upto BB) (jn upto BB) (l.take j) V full;have h4' : (bd (bk upto BB) V full (l.take j)).2 = (V1, f1) := h4;rw [h4'] at hgr;simp only at hgr;rw [List.length_take] at hgr;obtain ⟨hm', e, hr⟩ := yu (v := y) (upto := upto) (full := f1) hsm h3 (by omega)
    have hsn : bT upto BB V full (l.take (j + 1)) = (if (bk upto BB V1 f1 y).1 then (bT upto BB V full (l.take j)).1 else (bT upto BB V full (l.take j)).1 ++ [y], (bk upto BB V1 f1 y).2) := by
     rw [fB hy];unfold bT;rw [gx, h4']
    generalize bk upto BB V1 f1 y = q at e hr hsn;obtain ⟨g, V2, f2⟩ := q;simp only at e hr hsn
    have hstep : kq kk sm0 upto ⟨(i : Int), (j : Int), V1, hm1, f1, a⟩ = bif !g then some (.inl ⟨((i + 1 : Nat) : Int), ((j + 1 : Nat) : Int), V2, hm', f2, a.set i y⟩) else some (.inl ⟨(i : Int), ((j + 1 : Nat) : Int), V2, hm', f2, a⟩) := by
     unfold kq;simp only;rw [decide_eq_true (show (j : Int) < (kk : Int) by omega), ct, aC hya, ob, e, ob, aC hz, ob, ak (n := j) (by omega), ak (n := i) (by omega), Int.toNat_natCast]
    cases g with
    | true =>
     rw [Bool.not_true, cf] at hstep;rw [if_pos rfl] at hsn;refine ⟨_, hstep, ⟨i, j + 1, rfl, rfl, hr, by rw [hsn], ?_⟩, by simp only; omega⟩;rw [hsn];exact h5.next_gone (by omega)
    | false =>
     rw [Bool.not_false, ct] at hstep;rw [if_neg (by simp)] at hsn;refine ⟨_, hstep, ⟨i + 1, j + 1, rfl, rfl, hr, by rw [hsn], ?_⟩, by simp only; omega⟩;rw [hsn];exact h5.next_stay (by omega) hy
   ·right
    have hjk : j = kk := by omega
    have htl : l.take j = l := List.take_of_length_le (by omega);rw [htl] at h4 h5;refine ⟨⟨(i : Int), (j : Int), V1, hm1, f1, a⟩, ?_, i, rfl, by omega, h3, h4, h5.left, by show kk ≤ a.length; omega⟩;unfold kq;simp only
    rw [decide_eq_false (show ¬ (j : Int) < (kk : Int) by omega), cf]) (n := bH) (x := ⟨(j0 : Int), ((j0 + 1 : Nat) : Int), V0, hm0, f0, lV⟩)
   ⟨j0, j0 + 1, rfl, rfl, hr0, by rw [hp], by
    rw [hp];refine ⟨by omega, by omega, by have := hl.le; simp only; omega, ?_, fun q h1 h2 => ?_⟩
    ·show lV.take j0 = l.take j0;rw [← hl.take, List.take_take, Nat.min_eq_left (by omega)]
    ·rw [← hl.take, List.getElem?_take_of_lt (by omega)]⟩ (ei (by simp only; omega))
  obtain ⟨x, ex, i, hi, hik, hr, h1, h2, h3⟩ := key;generalize bT upto BB V full l = p at h1 h2 ⊢;obtain ⟨pl, pV, pf⟩ := p;simp only at h1 h2 ⊢;rw [ex, ob, hi, decide_eq_true (show 0 ≤ (i : Int) ∧ (i : Int) ≤ (kk : Int) by omega), ct, Int.toNat_natCast, decide_eq_true (show i + (kk - i) ≤ x.o15.length by omega), ct, ct];cases h1;exact ⟨i, gV x.o15 i (kk - i) ⟨0, 0, (0, 0)⟩, x.o9, rfl, hr, rm hik h3 h2⟩
structure p7 where
 B : List Bk
 V : List Vt
 full : Bool
 lB : List Bk
 lV : List Vt
def cN (upto : Int) (s : p7) : p7 :=
 ⟨(bi upto s.B s.full s.lB).2.1, (bT upto (bi upto s.B s.full s.lB).2.1 s.V (bi upto s.B s.full s.lB).2.2 s.lV).2.1, (bT upto (bi upto s.B s.full s.lB).2.1 s.V (bi upto s.B s.full s.lB).2.2 s.lV).2.2,
  (bi upto s.B s.full s.lB).1, (bT upto (bi upto s.B s.full s.lB).2.1 s.V (bi upto s.B s.full s.lB).2.2 s.lV).1⟩
def cO (s : p7) : Nat := s.B.length + s.V.length
def pQ (upto : Int) : Nat → p7 → p7
 | 0, s => s
 | n + 1, s => if cO (cN upto s) = cO s then cN upto s else pQ upto n (cN upto s)
def kY (upto : Int) (s : p7) : p7 := pQ upto 1000 s
open Classical in
noncomputable def aE (c : Cf) (w inp : Vw) (slot : Int) : Vw × Vw × Bool :=
 if ge c w then (⟨(kY slot ⟨w.B, w.V, false, (aU c inp).B, (aU c inp).V⟩).B, (kY slot ⟨w.B, w.V, false, (aU c inp).B, (aU c inp).V⟩).V⟩, ⟨(kY slot ⟨w.B, w.V, false, (aU c inp).B, (aU c inp).V⟩).lB, (kY slot ⟨w.B, w.V, false, (aU c inp).B, (aU c inp).V⟩).lV⟩, (kY slot ⟨w.B, w.V, false, (aU c inp).B, (aU c inp).V⟩).full)
 else (w, inp, false)
def mE (s : p7) : Prop := s.B.length ≤ 60 ∧ s.V.length ≤ 240
theorem vt {upto : Int} {B : List Bk} {f : Bool} {b : Bk} (h : B.length ≤ 60) : (bj upto B f b).2.1.length ≤ 60 := by
 unfold bj; split <;> (try split) <;> (try split) <;> simp <;> omega
theorem vu {upto : Int} {B : List Bk} {V : List Vt} {f : Bool} {v : Vt} (h : V.length ≤ 240) : (bk upto B V f v).2.1.length ≤ 240 := by
 unfold bk; split <;> (try split) <;> (try split) <;> simp <;> omega
theorem mY {α : Type} {step : List α → Bool → α → Bool × List α × Bool} {Q : List α → Prop} (h : ∀ B f b, Q B → Q (step B f b).2.1) : ∀ (l B : List α) (f : Bool), Q B → Q (bd step B f l).2.1
 | [], B, f, hB => by simpa only [bd] using hB
 | x :: r, B, f, hB => by
  have := mY h r (step B f x).2.1 (step B f x).2.2 (h B f x hB);simpa only [bd] using this
theorem ve {upto : Int} {l B : List Bk} {f : Bool} (h : B.length ≤ 60) : (bi upto B f l).2.1.length ≤ 60 := mY (step := bj upto) (Q := fun B => B.length ≤ 60) (fun _ _ _ h => vt h) l B f h
theorem vf {upto : Int} {BB : List Bk} {l V : List Vt} {f : Bool} (h : V.length ≤ 240) : (bT upto BB V f l).2.1.length ≤ 240 := mY (step := bk upto BB) (Q := fun V => V.length ≤ 240) (fun _ _ _ h => vu h) l V f h
theorem rH {upto : Int} {s : p7} (h : mE s) : mE (cN upto s) := ⟨ve h.1, vf h.2⟩
theorem ua (upto : Int) (s : p7) : (cN upto s).lB.length ≤ s.lB.length ∧ (cN upto s).lV.length ≤ s.lV.length := ⟨mZ _ _ _, mZ _ _ _⟩
theorem j6 (upto : Int) (s : p7) : s.B.length ≤ (cN upto s).B.length ∧ s.V.length ≤ (cN upto s).V.length :=
 ⟨(ep (jm upto) _ _ _).1, (ep (jn upto _) _ _ _).1⟩
structure xf (s : p7) (x : eX) : Prop where
 o6 : x.o6 = s.B
 o7 : x.o7 = s.V
 full : x.x_5 = s.full
 sm : uK s.B x.o8
 hm : x8 s.V x.o9
 lB : p9 x.o14 x.left_0 s.lB
 lV : p9 x.o15 x.left_1 s.lV
theorem w6 {upto : Int} {s : p7} {x : eX} (h : xf s x) (hb : mE s) (hl1 : s.lB.length ≤ 800) (hl2 : s.lV.length ≤ 600) (hn : x.n ≠ (cO s : Int)) : ∃ y, lb upto x = some (.inl y) ∧ xf (cN upto s) y ∧ y.n = (cO s : Int) := by
 obtain ⟨n, o6, o7, o8, o9, f, o14, o15, k0, k1⟩ := x;obtain ⟨e6, e7, ef, hsm, hhm, hlB, hlV⟩ := h;simp only at e6 e7 ef hsm hhm hlB hlV hn;subst e6 e7 ef;have hb1 := hb.1;have hb2 := hb.2;obtain ⟨k', lB', sm', e1, r1, p1⟩ := B3 (upto := upto) (full := s.full) hlB hsm (by have := hlB.len; omega);unfold cN;generalize bi upto s.B s.full s.lB = p at e1 r1 p1 ⊢;obtain ⟨pl, pB, pf⟩ := p;simp only at e1 r1 p1 ⊢;obtain ⟨k2, lV', hm', e2, r2, p2⟩ := B4 (upto := upto) (full := pf) hlV r1 hhm (by have := hlV.len; omega);generalize bT upto pB s.V pf s.lV = q at e2 r2 p2 ⊢;obtain ⟨ql, qV, qf⟩ := q;simp only at e2 r2 p2 ⊢
 have hw : IntKind.i64.wrap ((s.B.length : Int) + (s.V.length : Int)) = (cO s : Int) := by
  unfold cO; rw [d8 (by omega) (by omega)]; omega
 refine ⟨eX.mk (cO s : Int) pB qV sm' hm' qf lB' lV' k' k2, ?_, ⟨rfl, rfl, rfl, r1, r2, p1, p2⟩, rfl⟩;unfold lb;simp only;rw [hw, show (n != (cO s : Int)) = true by rw [bne_iff_ne]; exact hn, ct, e1, ob];simp only;rw [e2, ob]
theorem sD {upto : Int} : ∀ (m : Nat) (s : p7) (x : eX) (q : Nat), xf s x → mE s → s.lB.length ≤ 800 → s.lV.length ≤ 600 → x.n ≠ (cO s : Int) → 300 < m + cO s → m < q →
  ∃ y, iter (lb upto) (q + 1) x = some y ∧ xf (pQ upto m s) y
 | 0, s, x, q, _, hb, _, _, _, hm, _ => by
  have h1 := hb.1;have h2 := hb.2;unfold cO at hm;omega
 | m + 1, s, x, q, h, hb, hl1, hl2, hn, hm, hq => by
  obtain ⟨y, e, hr, hy⟩ := w6 h hb hl1 hl2 hn;have hg := j6 upto s;have hlen := ua upto s;have hb' := rH (upto := upto) hb;obtain ⟨q, rfl⟩ : ∃ p, q = p + 1 := ⟨q - 1, by omega⟩;rw [l8 e];unfold pQ;by_cases hs : cO (cN upto s) = cO s
  ·rw [if_pos hs];refine ⟨y, fy ?_, hr⟩
   have hw : IntKind.i64.wrap ((y.o6.length : Int) + (y.o7.length : Int)) = (cO s : Int) := by
    rw [hr.o6, hr.o7, ← hs];have h1 := hb'.1;have h2 := hb'.2;unfold cO; rw [d8 (by omega) (by omega)]; omega
   unfold lb;rw [hw, hy, show (((cO s : Nat) : Int) != (cO s : Int)) = false by simp, cf, ← hy]
  ·rw [if_neg hs];exact sD m (cN upto s) y q hr hb' (by omega) (by omega) (by rw [hy]; omega) (by unfold cO at *; omega) (by omega)
open Classical in
theorem D5 {c : Cf} {w inp : Vw} {slot : Int} (h1 : w.B.length ≤ 1000) (h2 : w.V.length ≤ 1000) (h3 : inp.B.length ≤ 800) (h4 : inp.V.length ≤ 600) : Fq c w inp slot = some (aE c w inp slot) := by
 unfold Fq aE;rw [vP (by omega) (by omega), ob, D4 h1 h2, ob];by_cases hm : ge c w
 ·rw [decide_eq_true hm, Bool.not_true, cf, if_pos hm, Ch (by omega) (by omega), ob];simp only;have hfB : (aU c inp).B.length ≤ inp.B.length := List.length_filter_le _ _;have hfV : (aU c inp).V.length ≤ inp.V.length := List.length_filter_le _ _
  have hr : xf ⟨w.B, w.V, false, (aU c inp).B, (aU c inp).V⟩ (eX.mk (-1) w.B w.V (lF w.B) (jE w.V) false (aU c inp).B (aU c inp).V ((aU c inp).B.map ay).length ((aU c inp).V.map aD).length) :=
   ⟨rfl, rfl, rfl, ⟨qX hm.valid, Bg w.B⟩, ⟨qI w.V, (tB w.V).1⟩, ⟨by simp, by simp⟩, ⟨by simp, by simp⟩⟩
  have hbel : mE ⟨w.B, w.V, false, (aU c inp).B, (aU c inp).V⟩ := ⟨hm.lenB, hm.lenV⟩;generalize aU c inp = o at *;obtain ⟨y, e, hy⟩ := sD (upto := slot) 1000 _ _ 4611686018427387903 hr hbel (by simp only; omega) (by simp only; omega) (by simp only; omega) (by omega) (by omega);have e' : iter (lb slot) bH (eX.mk (-1) w.B w.V (lF w.B) (jE w.V) false o.B o.V (o.B.map ay).length (o.V.map aD).length) = some y := e;rw [e', ob];change xf (kY slot _) y at hy;generalize kY slot ⟨w.B, w.V, false, o.B, o.V⟩ = s at hy ⊢;rw [Nat.ble_eq_true_of_le hy.lB.le, ct, Nat.ble_eq_true_of_le hy.lV.le, ct, hy.o6, hy.o7, hy.full, hy.lB.take, hy.lV.take]
 ·rw [decide_eq_false hm, Bool.not_false, ct, if_neg hm, aI (by omega) (by omega), ct, aI (by omega) (by omega), ct]
theorem pp {B : List Bk} {b : Bk} (h : cq B b = true) (t : List Bk) : cq (B ++ t) b = true := by
 unfold cq at h ⊢;rw [Bool.or_eq_true] at h ⊢;rcases h with h | h
 ·left;obtain ⟨s, hs⟩ := Option.isSome_iff_exists.1 h;rw [jj hs]; rfl
 ·right
  cases hp : bB B b.Parent with
  | none => rw [hp] at h; cases h
  | some s => rw [hp] at h; rw [jj hp]; exact h
theorem lr {B : List Bk} {V : List Vt} {v : Vt} (h : cG B V v = true) (t : List Bk) (u : List Vt) : cG (B ++ t) (V ++ u) v = true := by
 unfold cG at h ⊢;rw [Bool.or_eq_true] at h ⊢;rcases h with h | h
 ·left;exact decide_eq_true<|List.mem_append_left _<|of_decide_eq_true h
 ·right
  cases hp : bB B v.Head with
  | none => rw [hp] at h; cases h
  | some s => rw [hp] at h; rw [jj hp]; exact h
theorem uZ {B : List Bk} {b : Bk} (h : b ∈ B) : cq B b = true := by
 obtain ⟨s, hs⟩ := vp h;unfold cq; rw [hs]; rfl
theorem u4 {B : List Bk} {V : List Vt} {v : Vt} (h : v ∈ V) : cG B V v = true := by
 unfold cG; rw [decide_eq_true h]; rfl
theorem lG (upto : Int) (B : List Bk) (f : Bool) (b : Bk) :
  (cq B b = true ∧ bj upto B f b = (true, B, f)) ∨ (cq B b = false ∧ eR B upto b = true ∧ bj upto B f b = (false, B, f)) ∨
  (cq B b = false ∧ eR B upto b = false ∧ B.length < 60 ∧ bj upto B f b = (true, B ++ [b], f)) ∨ (cq B b = false ∧ eR B upto b = false ∧ 60 ≤ B.length ∧ bj upto B f b = (false, B, true)) := by
 unfold bj
 cases h1 : cq B b with
 | true => exact .inl ⟨rfl, by rw [if_pos rfl]⟩
 | false =>
  right;rw [if_neg (by simp)]
  cases h2 : eR B upto b with
  | true => exact .inl ⟨rfl, rfl, by rw [if_pos rfl]⟩
  | false =>
   right;rw [if_neg (by simp)];by_cases h3 : B.length < 60
   ·exact .inl ⟨rfl, rfl, h3, by rw [if_pos h3]⟩
   ·exact .inr ⟨rfl, rfl, by omega, by rw [if_neg h3]⟩
theorem lH (upto : Int) (B : List Bk) (V : List Vt) (f : Bool) (v : Vt) :
  (cG B V v = true ∧ bk upto B V f v = (true, V, f)) ∨ (cG B V v = false ∧ fC B upto v = true ∧ bk upto B V f v = (false, V, f)) ∨
  (cG B V v = false ∧ fC B upto v = false ∧ V.length < 240 ∧ bk upto B V f v = (true, V ++ [v], f)) ∨ (cG B V v = false ∧ fC B upto v = false ∧ 240 ≤ V.length ∧ bk upto B V f v = (false, V, true)) := by
 unfold bk
 cases h1 : cG B V v with
 | true => exact .inl ⟨rfl, by rw [if_pos rfl]⟩
 | false =>
  right;rw [if_neg (by simp)]
  cases h2 : fC B upto v with
  | true => exact .inl ⟨rfl, rfl, by rw [if_pos rfl]⟩
  | false =>
   right;rw [if_neg (by simp)];by_cases h3 : V.length < 240
   ·exact .inl ⟨rfl, rfl, h3, by rw [if_pos h3]⟩
   ·exact .inr ⟨rfl, rfl, by omega, by rw [if_neg h3]⟩
section
variable {α : Type} {step : List α → Bool → α → Bool × List α × Bool}
theorem iL {Q : List α → Bool → Prop} : ∀ {l B : List α} {f : Bool}, (∀ B f b, b ∈ l → Q B f → Q (step B f b).2.1 (step B f b).2.2) → Q B f → Q (bd step B f l).2.1 (bd step B f l).2.2
 | [], B, f, _, hB => by simpa only [bd] using hB
 | x :: r, B, f, h, hB => by
  have := iL (l := r) (fun B f b hb => h B f b (.tail _ hb)) (h B f x (.head _) hB);simpa only [bd] using this
theorem m0 : ∀ (l B : List α) (f : Bool), (bd step B f l).1.Sublist l
 | [], B, f => by simp [bd]
 | x :: r, B, f => by
  have := m0 r (step B f x).2.1 (step B f x).2.2;simp only [bd];split
  ·exact this.cons x
  ·exact this.cons_cons x
theorem lD {G : List α → α → Prop} (hs : ∀ B f b, (step B f b).1 = true → G (step B f b).2.1 b) (hm : ∀ B f b c, G B c → G (step B f b).2.1 c) : ∀ (l B : List α) (f : Bool) (b : α), b ∈ l → b ∈ (bd step B f l).1 ∨ G (bd step B f l).2.1 b
 | x :: r, B, f, b, hb => by
  have hkeep : ∀ (r B : List α) (f : Bool) (c : α), G B c → G (bd step B f r).2.1 c := fun r B f c hc => iL (Q := fun B _ => G B c) (fun B f b _ hB => hm B f b c hB) hc;simp only [bd];rcases List.mem_cons.1 hb with e | hb
  ·subst e
   cases h : (step B f b).1 with
   | true => exact .inr (hkeep _ _ _ _ (hs B f b h))
   | false => left; rw [if_neg (by simp)]; exact .head _
  ·rcases lD hs hm r (step B f x).2.1 (step B f x).2.2 b hb with h | h
   ·left;split
    ·exact h
    ·exact .tail _ h
   ·exact .inr h
end
section
variable {α : Type} {g w : List α → α → Bool} {cap : Nat}
def fK (g w : List α → α → Bool) (cap : Nat) (B : List α) (f : Bool) (b : α) : Bool × List α × Bool :=
 if g B b then (true, B, f) else if w B b then (false, B, f) else if B.length < cap then (true, B ++ [b], f) else (false, B, true)
def lI (g w : List α → α → Bool) (B : List α) (f : Bool) (l : List α) : List α × List α × Bool := (l.filter fun b => !g B b, B, f || l.any fun b => !g B b && !w B b)
theorem pO : ∀ {l B : List α} {f : Bool}, (∀ b ∈ l, g B b = false → w B b = false → cap ≤ B.length) → bd (fK g w cap) B f l = lI g w B f l
 | [], B, f, _ => by simp [bd, lI]
 | x :: r, B, f, h => by
  have ih := fun f => pO (l := r) (f := f) (B := B) fun b hb => h b (.tail _ hb);unfold lI at ih ⊢;simp only [bd]
  cases h1 : g B x with
  | true =>
   have e : fK g w cap B f x = (true, B, f) := by unfold fK; rw [h1, if_pos rfl]
   rw [e];simp [ih, h1]
  | false =>
   cases h2 : w B x with
   | true =>
    have e : fK g w cap B f x = (false, B, f) := by unfold fK; rw [h1, if_neg (by simp), h2, if_pos rfl]
    rw [e];simp [ih, h1, h2]
   | false =>
    have e : fK g w cap B f x = (false, B, true) := by
     unfold fK; rw [h1, if_neg (by simp), h2, if_neg (by simp), if_neg];have := h x (.head _) h1 h2;omega
    rw [e];simp [ih, h1, h2]
theorem q0 (B : List α) (f : Bool) (b : α) : ∃ t, (fK g w cap B f b).2.1 = B ++ t := by
 unfold fK;split
 ·exact ⟨[], by simp⟩
 ·split
  ·exact ⟨[], by simp⟩
  ·split
   ·exact ⟨[b], rfl⟩
   ·exact ⟨[], by simp⟩
theorem xJ (l B : List α) (f : Bool) : ∃ u, (bd (fK g w cap) B f l).2.1 = B ++ u :=
 iL (Q := fun C _ => ∃ u, C = B ++ u) (fun C f b _ ⟨u, hu⟩ => by
  obtain ⟨t, ht⟩ := q0 (g := g) (w := w) (cap := cap) C f b
  exact ⟨u ++ t, by rw [ht, hu, List.append_assoc]⟩) ⟨[], by simp⟩
theorem pN : ∀ {l B : List α} {f : Bool}, (bd (fK g w cap) B f l).2.1.length = B.length → ∀ b ∈ l, g B b = false → w B b = false → cap ≤ B.length
 | x :: r, B, f, h, b, hb, h1, h2 => by
  simp only [bd] at h;obtain ⟨t, ht⟩ := q0 (g := g) (w := w) (cap := cap) B f x;obtain ⟨u, hu⟩ := xJ (g := g) (w := w) (cap := cap) r (fK g w cap B f x).2.1 (fK g w cap B f x).2.2
  have hB : (fK g w cap B f x).2.1 = B := by
   rw [hu, ht, List.length_append, List.length_append] at h;have : t = [] := List.length_eq_zero_iff.1 (by omega);rw [ht, this, List.append_nil]
  rcases List.mem_cons.1 hb with e | hb
  ·subst e;refine Classical.byContradiction fun hc => ?_
   have e : fK g w cap B f b = (true, B ++ [b], f) := by
    unfold fK; rw [h1, if_neg (by simp), h2, if_neg (by simp), if_pos (by omega)]
   rw [e] at hB;have := congrArg List.length hB;simp at this
  ·rw [hB] at h;exact pN h b hb h1 h2
end
structure p8 (w o : Vw) (upto : Int) (s : p7) : Prop where
 preB : ∃ t, s.B = w.B ++ t ∧ ∀ b ∈ t, b ∈ o.B ∧ b.Slot ≤ upto
 preV : ∃ t, s.V = w.V ++ t ∧ ∀ v ∈ t, v ∈ o.V ∧ v.Slot ≤ upto
 valid : dz s.B
 nodup : s.V.Nodup
 forB : ∀ v ∈ s.V, forB s.B v
 below : mE s
 subB : s.lB.Sublist o.B
 subV : s.lV.Sublist o.V
 allB : ∀ b ∈ o.B, b ∈ s.lB ∨ cq s.B b = true
 allV : ∀ v ∈ o.V, v ∈ s.lV ∨ cG s.B s.V v = true
theorem vD {B : List Bk} {upto : Int} {b : Bk} (h1 : cq B b = false) (h2 : eR B upto b = false) : (∃ s, bB B b.Parent = some s ∧ s < b.Slot) ∧ bB B (nm b) = none ∧ b.Slot ≤ upto := by
 unfold cq at h1;unfold eR at h2;rw [Bool.or_eq_false_iff] at h1
 have hn : bB B (nm b) = none := by
  cases h : bB B (nm b) with
  | none => rfl
  | some s => rw [h] at h1; cases h1.1
 cases hp : bB B b.Parent with
 | none => rw [hp] at h2; cases h2
 | some s =>
  rw [hp] at h1 h2;have a1 := of_decide_eq_false h1.2;have a2 := of_decide_eq_false h2;exact ⟨⟨s, rfl, by omega⟩, hn, by omega⟩
theorem ul {B : List Bk} {V : List Vt} {upto : Int} {v : Vt} (h1 : cG B V v = false) (h2 : fC B upto v = false) : forB B v ∧ v ∉ V ∧ v.Slot ≤ upto := by
 unfold cG at h1;unfold fC at h2;rw [Bool.or_eq_false_iff] at h1;have hn := of_decide_eq_false h1.1
 cases hp : bB B v.Head with
 | none => rw [hp] at h2; cases h2
 | some s =>
  rw [hp] at h1 h2;have a1 := of_decide_eq_false h1.2;have a2 := of_decide_eq_false h2;exact ⟨⟨s, hp, by omega⟩, hn, by omega⟩
theorem xu {B : List Bk} {v : Vt} (h : forB B v) (t : List Bk) : forB (B ++ t) v := by
 obtain ⟨s, h1, h2⟩ := h;exact ⟨s, jj h1 t, h2⟩
theorem xH {w o : Vw} {upto : Int} {s : p7} (h : p8 w o upto s) : p8 w o upto ⟨(bi upto s.B s.full s.lB).2.1, s.V, (bi upto s.B s.full s.lB).2.2, (bi upto s.B s.full s.lB).1, s.lV⟩ := by
 have key : ∃ u, (bi upto s.B s.full s.lB).2.1 = s.B ++ u ∧ (∀ b ∈ u, b ∈ o.B ∧ b.Slot ≤ upto) ∧ dz (s.B ++ u) ∧ (s.B ++ u).length ≤ 60 := by
  have := iL (step := bj upto) (l := s.lB) (B := s.B) (f := s.full) (Q := fun C _ => ∃ u, C = s.B ++ u ∧ (∀ b ∈ u, b ∈ o.B ∧ b.Slot ≤ upto) ∧ dz (s.B ++ u) ∧ (s.B ++ u).length ≤ 60)
   (fun C f b hb ⟨u, hu, h1, h2, h3⟩ => by
    subst hu;rcases lG upto (s.B ++ u) f b with ⟨-, e⟩ | ⟨-, -, e⟩ | ⟨a1, a2, a3, e⟩ | ⟨-, -, -, e⟩
    ·rw [e]; exact ⟨u, rfl, h1, h2, h3⟩
    ·rw [e]; exact ⟨u, rfl, h1, h2, h3⟩
    ·rw [e];obtain ⟨k1, k2, k3⟩ := vD a1 a2;refine ⟨u ++ [b], by simp, fun c hc => ?_, ?_, ?_⟩
     ·rcases List.mem_append.1 hc with hc | hc
      ·exact h1 c hc
      ·rw [List.mem_singleton] at hc; subst hc;exact ⟨h.subB.subset hb, k3⟩
     ·rw [← List.append_assoc]; exact pX.2 ⟨h2, k1, k2⟩
     ·rw [← List.append_assoc, List.length_append, List.length_singleton]; omega
    ·rw [e]; exact ⟨u, rfl, h1, h2, h3⟩)
   ⟨[], by simp, by simp, by simpa using h.valid, by simpa using h.below.1⟩
  exact this
 obtain ⟨u, hu, h1, h2, h3⟩ := key
 have hgone : ∀ b ∈ s.lB, b ∈ (bi upto s.B s.full s.lB).1 ∨ cq (bi upto s.B s.full s.lB).2.1 b = true :=
  lD (step := bj upto) (G := fun B b => cq B b = true) (fun B f b hb => by
   rcases lG upto B f b with ⟨a, e⟩ | ⟨-, -, e⟩ | ⟨-, -, -, e⟩ | ⟨-, -, -, e⟩ <;> rw [e] at hb ⊢
   ·exact a
   ·cases hb
   ·exact uZ (by simp)
   ·cases hb) (fun B f b c hc => by
   rcases lG upto B f b with ⟨a, e⟩ | ⟨-, -, e⟩ | ⟨-, -, -, e⟩ | ⟨-, -, -, e⟩ <;> rw [e]
   ·exact hc
   ·exact hc
   ·exact pp hc _
   ·exact hc) s.lB s.B s.full
 obtain ⟨t, ht, ht2⟩ := h.preB
 refine ⟨⟨t ++ u, by simp only; rw [hu, ht, List.append_assoc], fun b hb => (List.mem_append.1 hb).elim (ht2 b) (h1 b)⟩, h.preV, by simp only [hu]; exact h2, h.nodup, fun v hv => ?_, ⟨by simp only [hu]; exact h3, h.below.2⟩,
  (m0 s.lB s.B s.full).trans h.subB, h.subV, fun b hb => ?_, fun v hv => ?_⟩
 ·simp only [hu]; exact xu (h.forB v hv) u
 ·rcases h.allB b hb with h5 | h5
  ·exact hgone b h5
  ·right; simp only [hu]; exact pp h5 u
 ·rcases h.allV v hv with h5 | h5
  ·exact .inl h5
  ·right;simp only [hu];have := lr h5 u []
   rwa [List.append_nil] at this
theorem xI {w o : Vw} {upto : Int} {s : p7} (h : p8 w o upto s) : p8 w o upto ⟨s.B, (bT upto s.B s.V s.full s.lV).2.1, (bT upto s.B s.V s.full s.lV).2.2, s.lB, (bT upto s.B s.V s.full s.lV).1⟩ := by
 have key : ∃ u, (bT upto s.B s.V s.full s.lV).2.1 = s.V ++ u ∧ (∀ v ∈ u, v ∈ o.V ∧ v.Slot ≤ upto) ∧ (s.V ++ u).Nodup ∧ (∀ v ∈ s.V ++ u, Go.Mg.forB s.B v) ∧ (s.V ++ u).length ≤ 240 := by
  have := iL (step := bk upto s.B) (l := s.lV) (B := s.V) (f := s.full) (Q := fun C _ => ∃ u, C = s.V ++ u ∧ (∀ v ∈ u, v ∈ o.V ∧ v.Slot ≤ upto) ∧ (s.V ++ u).Nodup ∧ (∀ v ∈ s.V ++ u, Go.Mg.forB s.B v) ∧ (s.V ++ u).length ≤ 240)
   (fun C f v hv ⟨u, hu, h1, h2, h4, h3⟩ => by
    subst hu;rcases lH upto s.B (s.V ++ u) f v with ⟨-, e⟩ | ⟨-, -, e⟩ | ⟨a1, a2, a3, e⟩ | ⟨-, -, -, e⟩
    ·rw [e]; exact ⟨u, rfl, h1, h2, h4, h3⟩
    ·rw [e]; exact ⟨u, rfl, h1, h2, h4, h3⟩
    ·rw [e];obtain ⟨k1, k2, k3⟩ := ul a1 a2;refine ⟨u ++ [v], by simp, fun c hc => ?_, ?_, fun c hc => ?_, ?_⟩
     ·rcases List.mem_append.1 hc with hc | hc
      ·exact h1 c hc
      ·rw [List.mem_singleton] at hc; subst hc;exact ⟨h.subV.subset hv, k3⟩
     ·rw [← List.append_assoc, List.nodup_append];exact ⟨h2, by simp, fun a ha b hb => by rw [List.mem_singleton] at hb; subst hb; exact fun q => k2 (q ▸ ha)⟩
     ·rw [← List.append_assoc] at hc;rcases List.mem_append.1 hc with hc | hc
      ·exact h4 c hc
      ·rw [List.mem_singleton] at hc; subst hc; exact k1
     ·rw [← List.append_assoc, List.length_append, List.length_singleton]; omega
    ·rw [e]; exact ⟨u, rfl, h1, h2, h4, h3⟩)
   ⟨[], by simp, by simp, by simpa using h.nodup, by simpa using h.forB, by simpa using h.below.2⟩
  exact this
 obtain ⟨u, hu, h1, h2, h4, h3⟩ := key
 have hgone : ∀ v ∈ s.lV, v ∈ (bT upto s.B s.V s.full s.lV).1 ∨ cG s.B (bT upto s.B s.V s.full s.lV).2.1 v = true :=
  lD (step := bk upto s.B) (G := fun V v => cG s.B V v = true) (fun V f v hb => by
   rcases lH upto s.B V f v with ⟨a, e⟩ | ⟨-, -, e⟩ | ⟨-, -, -, e⟩ | ⟨-, -, -, e⟩ <;> rw [e] at hb ⊢
   ·exact a
   ·cases hb
   ·exact u4 (by simp)
   ·cases hb) (fun V f v c hc => by
   rcases lH upto s.B V f v with ⟨a, e⟩ | ⟨-, -, e⟩ | ⟨-, -, -, e⟩ | ⟨-, -, -, e⟩ <;> rw [e]
   ·exact hc
   ·exact hc
   ·have := lr hc [] [v]; rwa [List.append_nil] at this
   ·exact hc) s.lV s.V s.full
 obtain ⟨t, ht, ht2⟩ := h.preV
 refine ⟨h.preB, ⟨t ++ u, by simp only; rw [hu, ht, List.append_assoc], fun b hb => (List.mem_append.1 hb).elim (ht2 b) (h1 b)⟩, h.valid, by simp only [hu]; exact h2, fun v hv => ?_, ⟨h.below.1, by simp only [hu]; exact h3⟩,
  h.subB, (m0 s.lV s.V s.full).trans h.subV, h.allB, fun v hv => ?_⟩
 ·simp only [hu] at hv; exact h4 v hv
 ·rcases h.allV v hv with h5 | h5
  ·exact hgone v h5
  ·right;simp only [hu];have := lr h5 [] u
   rwa [List.append_nil] at this
theorem vn {w o : Vw} {upto : Int} {s : p7} (h : p8 w o upto s) : p8 w o upto (cN upto s) := xI (xH h)
structure DV (upto : Int) (s : p7) : Prop where
 B : ∀ b ∈ s.lB, cq s.B b = false ∧ (eR s.B upto b = true ∨ 60 ≤ s.B.length ∧ s.full = true)
 V : ∀ v ∈ s.lV, cG s.B s.V v = false ∧ (fC s.B upto v = true ∨ 240 ≤ s.V.length ∧ s.full = true)
theorem vl {upto : Int} {s : p7} (h : cO (cN upto s) = cO s) : DV upto (cN upto s) := by
 have hg := j6 upto s
 have hB : (bi upto s.B s.full s.lB).2.1.length = s.B.length := by unfold cO at h; have : (cN upto s).B = (bi upto s.B s.full s.lB).2.1 := rfl; rw [← this]; omega
 have h1 : ∀ b ∈ s.lB, cq s.B b = false → eR s.B upto b = false → 60 ≤ s.B.length := pN (g := cq) (w := fun B b => eR B upto b) (cap := 60) (f := s.full) hB;have e1 : bi upto s.B s.full s.lB = lI cq (fun B b => eR B upto b) s.B s.full s.lB := pO h1
 have hV : (bT upto s.B s.V (bi upto s.B s.full s.lB).2.2 s.lV).2.1.length = s.V.length := by
  have : (cN upto s).V = (bT upto (bi upto s.B s.full s.lB).2.1 s.V (bi upto s.B s.full s.lB).2.2 s.lV).2.1 := rfl
  have e2 : (bi upto s.B s.full s.lB).2.1 = s.B := by rw [e1]; rfl
  rw [e2] at this;rw [← this];unfold cO at h; omega
 have h2 : ∀ v ∈ s.lV, cG s.B s.V v = false → fC s.B upto v = false → 240 ≤ s.V.length := pN (g := cG s.B) (w := fun _ v => fC s.B upto v) (cap := 240) (f := (bi upto s.B s.full s.lB).2.2) hV;unfold cN;rw [e1];unfold lI;simp only;have e2 : bT upto s.B s.V (s.full || s.lB.any fun b => !cq s.B b && !eR s.B upto b) s.lV = lI (cG s.B) (fun _ v => fC s.B upto v) s.V (s.full || s.lB.any fun b => !cq s.B b && !eR s.B upto b) s.lV := pO h2;rw [e2];unfold lI;refine ⟨fun b hb => ?_, fun v hv => ?_⟩
 ·simp only [List.mem_filter, Bool.not_eq_true'] at hb;refine ⟨hb.2, ?_⟩
  cases hw : eR s.B upto b with
  | true => exact .inl rfl
  | false =>
   right;refine ⟨h1 b hb.1 hb.2 hw, ?_⟩;simp only [Bool.or_eq_true];exact .inl<|.inr<|List.any_eq_true.2 ⟨b, hb.1, by simp [hb.2, hw]⟩
 ·simp only [List.mem_filter, Bool.not_eq_true'] at hv;refine ⟨hv.2, ?_⟩
  cases hw : fC s.B upto v with
  | true => exact .inl rfl
  | false =>
   right;refine ⟨h2 v hv.1 hv.2 hw, ?_⟩;simp only [Bool.or_eq_true];exact .inr<|List.any_eq_true.2 ⟨v, hv.1, by simp [hv.2, hw]⟩
theorem q7 {w o : Vw} {upto : Int} : ∀ (m : Nat) (s : p7), p8 w o upto s → 300 < m + cO s → p8 w o upto (pQ upto m s) ∧ DV upto (pQ upto m s)
 | 0, s, h, hm => by
  have h1 := h.below.1;have h2 := h.below.2;unfold cO at hm;omega
 | m + 1, s, h, hm => by
  have hr := vn h;have hg := j6 upto s;unfold pQ;by_cases hs : cO (cN upto s) = cO s
  ·rw [if_pos hs]; exact ⟨hr, vl hs⟩
  ·rw [if_neg hs];exact q7 m (cN upto s) hr (by unfold cO at *; omega)
theorem xx {c : Cf} {w o : Vw} {upto : Int} (h : ge c w) : p8 w o upto ⟨w.B, w.V, false, o.B, o.V⟩ :=
 ⟨⟨[], by simp, by simp⟩, ⟨[], by simp, by simp⟩, h.valid, h.nodup, h.forB, ⟨h.lenB, h.lenV⟩, List.Sublist.refl _, List.Sublist.refl _, fun _ h => .inl h, fun _ h => .inl h⟩
theorem Bm {c : Cf} {w o : Vw} {upto : Int} (h : ge c w) : p8 w o upto (kY upto ⟨w.B, w.V, false, o.B, o.V⟩) ∧ DV upto (kY upto ⟨w.B, w.V, false, o.B, o.V⟩) :=
 q7 1000 _ (xx h) (by omega)
structure Ed (c : Cf) (w inp : Vw) (upto : Int) (r : Vw × Vw × Bool) : Prop where
 may : ge c r.1
 preB : ∃ t, r.1.B = w.B ++ t ∧ ∀ b ∈ t, b ∈ (aU c inp).B ∧ b.Slot ≤ upto
 preV : ∃ t, r.1.V = w.V ++ t ∧ ∀ v ∈ t, v ∈ (aU c inp).V ∧ v.Slot ≤ upto
 subB : r.2.1.B.Sublist (aU c inp).B
 subV : r.2.1.V.Sublist (aU c inp).V
 allB : ∀ b ∈ (aU c inp).B, b ∈ r.2.1.B ∨ cq r.1.B b = true
 allV : ∀ v ∈ (aU c inp).V, v ∈ r.2.1.V ∨ cG r.1.B r.1.V v = true
 endB : ∀ b ∈ r.2.1.B, cq r.1.B b = false ∧ (eR r.1.B upto b = true ∨ 60 ≤ r.1.B.length ∧ r.2.2 = true)
 endV : ∀ v ∈ r.2.1.V, cG r.1.B r.1.V v = false ∧ (fC r.1.B upto v = true ∨ 240 ≤ r.1.V.length ∧ r.2.2 = true)
theorem Br {c : Cf} {w : Vw} (h : ge c w) (inp : Vw) (upto : Int) : Ed c w inp upto (aE c w inp upto) := by
 unfold aE;rw [if_pos h];have hmB : ∀ b ∈ (aU c inp).B, mayB c b = true := fun b hb => (List.mem_filter.1 hb).2;have hmV : ∀ v ∈ (aU c inp).V, mayV c v = true := fun b hb => (List.mem_filter.1 hb).2;have := Bm (o := aU c inp) (upto := upto) h;obtain ⟨hi, he⟩ := this;generalize kY upto ⟨w.B, w.V, false, (aU c inp).B, (aU c inp).V⟩ = s at hi he ⊢;obtain ⟨t, ht, ht2⟩ := hi.preB;obtain ⟨u, hu, hu2⟩ := hi.preV;refine ⟨⟨h.conf, hi.valid, hi.below.1, hi.below.2, fun b hb => ?_, fun v hv => ?_, hi.nodup, hi.forB⟩, ⟨t, ht, ht2⟩, ⟨u, hu, hu2⟩, hi.subB, hi.subV, hi.allB, hi.allV, he.B, he.V⟩
 ·simp only [ht] at hb;rcases List.mem_append.1 hb with hb | hb
  ·exact h.mayB b hb
  ·exact hmB b (ht2 b hb).1
 ·simp only [hu] at hv;rcases List.mem_append.1 hv with hv | hv
  ·exact h.mayV v hv
  ·exact hmV v (hu2 v hv).1
open Go.Proofs
open Go.Proofs
theorem Ba (c : Cf) (w : Vw) : (aU c w).B.length ≤ w.B.length ∧ (aU c w).V.length ≤ w.V.length := ⟨List.length_filter_le _ _, List.length_filter_le _ _⟩
open Go.Proofs
open Go.Proofs
theorem Bs {c : Cf} {w inp : Vw} {upto : Int} {r : Vw × Vw × Bool} (h : Ed c w inp upto r) : w.B.length ≤ r.1.B.length ∧ w.V.length ≤ r.1.V.length ∧ r.2.1.B.length ≤ inp.B.length ∧ r.2.1.V.length ≤ inp.V.length := by
 obtain ⟨t, ht, -⟩ := h.preB;obtain ⟨u, hu, -⟩ := h.preV;exact ⟨by rw [ht]; simp, by rw [hu]; simp, (h.subB.trans List.filter_sublist).length_le, (h.subV.trans List.filter_sublist).length_le⟩
theorem xY {c : Cf} {w inp : Vw} {upto : Int} {r : Vw × Vw × Bool} (h : Ed c w inp upto r) : r.1.B.take w.B.length = w.B ∧ r.1.V.take w.V.length = w.V := by
 obtain ⟨t, ht, -⟩ := h.preB;obtain ⟨u, hu, -⟩ := h.preV;rw [ht, hu];exact ⟨List.take_left' rfl, List.take_left' rfl⟩
theorem dH {α : Type} [DecidableEq α] : ∀ {l L : List α}, l.Nodup → (∀ x ∈ l, x ∈ L) → l.length ≤ L.length
 | [], _, _, _ => Nat.zero_le _
 | x :: r, L, h, hs => by
  rw [List.nodup_cons] at h;have hx := hs x (.head _);have h1 := dH (L := L.erase x) h.2 fun y hy => (List.mem_erase_of_ne (show y ≠ x from fun e => h.1 (by rw [← e]; exact hy))).2 (hs y (.tail _ hy));have h2 := List.length_erase_of_mem hx;have h3 := List.length_pos_of_mem hx;simp only [List.length_cons]; omega
inductive CB (base o : List Bk) (upto : Int) : Bk → Prop
 | base {b : Bk} : b ∈ base → CB base o upto b
 | root {b : Bk} : b ∈ o → b.Slot ≤ upto → b.Parent = (0, 0) → 0 < b.Slot → CB base o upto b
 | step {b p : Bk} : b ∈ o → b.Slot ≤ upto → CB base o upto p → nm p = b.Parent → p.Slot < b.Slot → CB base o upto b
theorem CB.mono {base base' o o' : List Bk} {upto upto' : Int} (h1 : ∀ b ∈ base, CB base' o' upto' b) (h2 : ∀ b ∈ o, b ∈ o') (h3 : upto ≤ upto') {b : Bk} (h : CB base o upto b) : CB base' o' upto' b := by
 induction h with
 | base h => exact h1 _ h
 | root a1 a2 a3 a4 => exact .root (h2 _ a1) (Int.le_trans a2 h3) a3 a4
 | step a1 a2 _ a4 a5 ih => exact .step (h2 _ a1) (Int.le_trans a2 h3) ih a4 a5
structure Rm (U : Vw) : Prop where
 inj : ∀ a ∈ U.B, ∀ b ∈ U.B, nm a = nm b → a = b
 B : U.B.length < 60
 V : U.V.length < 240
open Go.Proofs
open Go.Proofs
open Go.Proofs
end Go.Mg
