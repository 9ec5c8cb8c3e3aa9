/- Are two worlds the same? The example; what is begun. PlayQuiet. Plain laws of weights on blocks, and of the head: the program's side. Plain laws of views: lists of blocks and votes, and what may be at all. Laws of trees. TreeKids, TreeMore: plain. Plain laws of views: which views may be. Plain laws of views: what is taken. Plain laws of views: what is taken, as the program does it. Plain laws of views: votes that are taken, as the program does it. Plain laws of views: view.Take. Plain laws of views: what holds of what is taken. Laws of views. The laws of views' example. Laws of views. Laws of views: ViewOnly, ViewJoin. Laws of views. Laws of views. Laws of views: ViewMay, ViewKeeps. Plain laws of views: what is counted, as a set. Laws of views. Laws of views. Laws of views. Plain laws of views: order, and all. Nets, plain: how much nodes have; what they have together. Laws of nets, plain: what all have together, in whatever order. Conditions: none. -/
import Derived.Test.YtbjmcafamkdokaaGreatX3
import Derived.Test.YtbjmcafamkdokaaGreatX8
import Derived.Test.YtbjmcafamkdokaaGreatX5
import Derived.Test.YtbjmcafamkdokaaGreatX7
import Derived.Test.YtbjmcafamkdokaaGreatX6
set_option maxRecDepth 100000
set_option linter.unusedSimpArgs false
set_option linter.unusedVariables false
namespace Go.Mg
open Go.Proofs
structure dP where
 i : Int
def ik (a : List Of) (b : List Of) (x1 : dP) : Option (dP ⊕ (dP ⊕ Bool)) :=
 bif decide (x1.i < (a.length : Int)) then
  (ix a x1.i).bind fun y1 =>
  (ix b x1.i).bind fun y2 =>
  (DT y1.V y2.V).bind fun v2 =>
  bif !v2 then
   some (.inr (.inr false))
  else
   (ix a x1.i).bind fun y3 =>
   (ix b x1.i).bind fun y4 =>
   bif y3.Slot != y4.Slot then
    some (.inr (.inr false))
   else
    (ix a x1.i).bind fun y5 =>
    (ix b x1.i).bind fun y6 =>
    bif y5.From != y6.From then
     some (.inr (.inr false))
    else
     (ix a x1.i).bind fun y7 =>
     (ix b x1.i).bind fun y8 =>
     bif !((y7.B.Slot == y8.B.Slot) && ((y7.B.From == y8.B.From) && ((y7.B.Parent.1 == y8.B.Parent.1) && ((y7.B.Parent.2 == y8.B.Parent.2) && ((y7.B.Salt == y8.B.Salt) && true))))) then
      some (.inr (.inr false))
     else
      some (.inl (dP.mk (IntKind.i64.wrap (x1.i + 1))))
 else
  some (.inr (.inl (dP.mk x1.i)))
def p9 (a : List Of) (b : List Of) : Option Bool :=
 bif (a.length : Int) != (b.length : Int) then
  some false
 else
  (iter (ik a b) bE (dP.mk 0)).bind fun b_v1 => Sum.elim (fun _ =>
   some true) some b_v1
theorem C8 {a : List Of} {b : List Of} {r_ : Bool} (hr : p9 a b = some r_) : aw Tryz.prog 126 [.slice 9 (a.map dh), .slice 9 (b.map dh)] [.bool r_] := by
 refine zh Tryz.func126 Z Z Z Z ?_;unfold p9 at hr;refine zQ<|zR<|zM Z<|zN<|zT<|zQ<|zQ<|zR<|zM Z<|yS Z (cB Z Z (by kernel_rfl))<|zM Z<|yS Z (cB Z Z (by kernel_rfl))<|yS Z (ay Z Z Z Z)<|zN<|zT ?_;refine zX Z (fun g1 => ?_)<|fun g1 => ?_
 ·
  refine zi g1 hr fun hr => zQ<|zR<|zM Z<|zN<|zT<|zr<|af ?_;obtain rfl := zJ hr;exact zf (.one (.tmp Z)) zv
 ·
  refine zo g1 hr fun hr => zk<|zT<|zQ<|zQ<|zR<|zM Z<|zN<|zT ?_;obtain ⟨b_v1, hb_v1, ho_v1⟩ := zB hr;clear hr;refine LW.tailB (b := b_v1) (E := fun v1 => [(4, (bQ false))]) (O := fun v1 => []) ?_<|fun v1 e_v1 env_v1 H_v1 hw_v1 => ?_
  ·refine LW.block ?_;refine LW.iterB (E := fun x1 : dP => [(0, (kO a)), (1, (kO b)), (4, (bQ false)), (5, (iQ x1.i))]) (O := fun x1 => []) hb_v1 (zW 0 ⟨rfl, rfl, rfl, rfl, trivial⟩ Z Z Z Z)<|fun x1 z_x1 hr hb_x1 => ?_;unfold ik at hr;refine zQ<|zQ<|zR<|zM Z<|zM Z<|yS Z (cB Z Z (by kernel_rfl))<|yS Z (ay Z Z Z Z)<|zN<|zT ?_;refine zX Z (fun g2 => ?_)<|fun g2 => ?_
   ·
    refine zi g2 hr fun hr => zk<|zT<|zQ<|zl<|zQ<|LW.draw2 (by kernel_rfl) (by kernel_rfl)<|zH Z<|zH Z<|zb hr fun y1 h_y1 hr => yE Z (zx Z Z Z bv h_y1 Z)<|yE Z (ab.fieldAddrC Z Z eM Z)<|yE Z (cR Z Z Z aJ Z Z)<|zH Z<|zH Z<|zb hr fun y2 h_y2 hr => yE Z (zx Z Z Z bv h_y2 Z)<|yE Z (ab.fieldAddrC Z Z eM Z)<|yE Z (cR Z Z Z aJ Z Z)<|zb hr fun v2 h_v2 hr => yE Z (zC Z Z Z (by kernel_rfl) (zp (Iz h_v2) (.cons zv (.cons zv .nil))))<|zH Z<|LO.nil<|zT ?_;refine zQ<|LW.draw2 (by kernel_rfl) (by kernel_rfl)<|zH Z<|yE Z (ab.not Z Z)<|zH Z ?_;refine LO.cases 31 Z (fun (g3 : (!v2) = true) => ?_) (fun (g3 : (!v2) = false) => ?_)
    ·
     refine zi g3 hr fun hr => LO.sk Z Z Z (gd g3 Z) Z Z<|LO.sk Z Z Z (gd g3 Z) Z Z<|LO.sk Z Z Z (gd g3 Z) Z Z<|LO.sk Z Z Z (gd g3 Z) Z Z<|LO.sk Z Z Z (gd g3 Z) Z Z<|LO.sk Z Z Z (gd g3 Z) Z Z<|LO.sk Z Z Z (gd g3 Z) Z Z<|LO.sk Z Z Z (gd g3 Z) Z Z<|LO.sk Z Z Z (gd g3 Z) Z Z<|LO.sk Z Z Z (gd g3 Z) Z Z<|LO.sk Z Z Z (gd g3 Z) Z Z<|yE Z (cq Z (aS g3 Z) Z)<|zH Z<|LO.sk Z Z Z Z Z Z<|LO.sk Z Z Z Z Z Z<|LO.sk Z Z Z Z Z Z<|LO.sk Z Z Z Z Z Z<|LO.sk Z Z Z Z Z Z<|LO.sk Z Z Z Z Z Z<|LO.sk Z Z Z Z Z Z<|LO.sk Z Z Z Z Z Z<|LO.sk Z Z Z Z Z Z<|LO.sk Z Z Z Z Z Z ?_;refine LO.sk Z Z Z Z Z Z<|yE Z (cq Z Z Z)<|zH Z<|LO.sk Z Z Z Z Z Z<|LO.sk Z Z Z Z Z Z<|LO.sk Z Z Z Z Z Z<|LO.sk Z Z Z Z Z Z<|LO.sk Z Z Z Z Z Z<|LO.sk Z Z Z Z Z Z<|LO.sk Z Z Z Z Z Z<|LO.sk Z Z Z Z Z Z<|LO.sk Z Z Z Z Z Z<|LO.sk Z Z Z Z Z Z<|LO.sk Z Z Z Z Z Z<|yE Z (cq Z Z Z)<|LO.nil<|zT<|LW.condT Z<|zQ<|zR<|zM Z<|zN<|zT<|zr ?_;refine aq<|af<|af<|aq<|af<|af ?_;obtain rfl := zJ hr;have hr := congrArg some (hb_x1 _ rfl);obtain rfl := zJ hr;have hr := cS ho_v1;obtain rfl := zJ hr;exact zf (.one (.tmp Z)) zv
    ·
     refine zo g3 hr fun hr => LO.gd Z Z Z (gd g3 Z) Z (zm Z Z)<|LO.gd Z Z Z (gd g3 Z) Z (zm Z Z)<|zb hr fun y3 h_y3 hr => LO.gd Z Z Z (gd g3 Z) Z (zx Z Z Z bv h_y3 Z)<|LO.gd Z Z Z (gd g3 Z) Z (ab.fieldAddrC Z Z jM Z)<|LO.gd Z Z Z (gd g3 Z) Z (cR Z Z Z a7 Z Z)<|LO.gd Z Z Z (gd g3 Z) Z (zm Z Z)<|LO.gd Z Z Z (gd g3 Z) Z (zm Z Z)<|zb hr fun y4 h_y4 hr => LO.gd Z Z Z (gd g3 Z) Z (zx Z Z Z bv h_y4 Z)<|LO.gd Z Z Z (gd g3 Z) Z (ab.fieldAddrC Z Z jM Z)<|LO.gd Z Z Z (gd g3 Z) Z (cR Z Z Z a7 Z Z)<|LO.gd Z Z Z (gd g3 Z) Z (ay Z Z Z Z)<|yE Z (bg Z (aS g3 Z) Z)<|zH Z ?_;refine LO.cases 44 Z (fun (g4 : (y3.Slot != y4.Slot) = true) => ?_) (fun (g4 : (y3.Slot != y4.Slot) = false) => ?_)
     ·
      refine zi g4 hr fun hr => LO.sk Z Z Z (gd g4 Z) Z Z<|LO.sk Z Z Z (gd g4 Z) Z Z<|LO.sk Z Z Z (gd g4 Z) Z Z<|LO.sk Z Z Z (gd g4 Z) Z Z<|LO.sk Z Z Z (gd g4 Z) Z Z<|LO.sk Z Z Z (gd g4 Z) Z Z<|LO.sk Z Z Z (gd g4 Z) Z Z<|LO.sk Z Z Z (gd g4 Z) Z Z<|LO.sk Z Z Z (gd g4 Z) Z Z<|LO.sk Z Z Z (gd g4 Z) Z Z<|LO.sk Z Z Z (gd g4 Z) Z Z<|yE Z (cq Z (aS g4 Z) Z)<|zH Z<|LO.sk Z Z Z Z Z Z<|LO.sk Z Z Z Z Z Z<|LO.sk Z Z Z Z Z Z<|LO.sk Z Z Z Z Z Z<|LO.sk Z Z Z Z Z Z<|LO.sk Z Z Z Z Z Z<|LO.sk Z Z Z Z Z Z<|LO.sk Z Z Z Z Z Z<|LO.sk Z Z Z Z Z Z<|LO.sk Z Z Z Z Z Z ?_;refine LO.sk Z Z Z Z Z Z<|yE Z (cq Z Z Z)<|LO.nil<|zT<|LW.condT Z<|zQ<|zR<|zM Z<|zN<|zT<|zr<|aq<|af<|af<|aq<|af<|af ?_;obtain rfl := zJ hr;have hr := congrArg some (hb_x1 _ rfl);obtain rfl := zJ hr;have hr := cS ho_v1;obtain rfl := zJ hr;exact zf (.one (.tmp Z)) zv
     ·
      refine zo g4 hr fun hr => LO.gd Z Z Z (gd g4 Z) Z (zm Z Z)<|LO.gd Z Z Z (gd g4 Z) Z (zm Z Z)<|zb hr fun y5 h_y5 hr => LO.gd Z Z Z (gd g4 Z) Z (zx Z Z Z bv h_y5 Z)<|LO.gd Z Z Z (gd g4 Z) Z (ab.fieldAddrC Z Z jN Z)<|LO.gd Z Z Z (gd g4 Z) Z (cR Z Z Z a7 Z Z)<|LO.gd Z Z Z (gd g4 Z) Z (zm Z Z)<|LO.gd Z Z Z (gd g4 Z) Z (zm Z Z)<|zb hr fun y6 h_y6 hr => LO.gd Z Z Z (gd g4 Z) Z (zx Z Z Z bv h_y6 Z)<|LO.gd Z Z Z (gd g4 Z) Z (ab.fieldAddrC Z Z jN Z)<|LO.gd Z Z Z (gd g4 Z) Z (cR Z Z Z a7 Z Z)<|LO.gd Z Z Z (gd g4 Z) Z (ay Z Z Z Z)<|yE Z (bg Z (aS g4 Z) Z)<|zH Z ?_;refine LO.cases 57 Z (fun (g5 : (y5.From != y6.From) = true) => ?_) (fun (g5 : (y5.From != y6.From) = false) => ?_)
      ·
       refine zi g5 hr fun hr => LO.sk Z Z Z (gd g5 Z) Z Z<|LO.sk Z Z Z (gd g5 Z) Z Z<|LO.sk Z Z Z (gd g5 Z) Z Z<|LO.sk Z Z Z (gd g5 Z) Z Z<|LO.sk Z Z Z (gd g5 Z) Z Z<|LO.sk Z Z Z (gd g5 Z) Z Z<|LO.sk Z Z Z (gd g5 Z) Z Z<|LO.sk Z Z Z (gd g5 Z) Z Z<|LO.sk Z Z Z (gd g5 Z) Z Z<|LO.sk Z Z Z (gd g5 Z) Z Z<|LO.sk Z Z Z (gd g5 Z) Z Z<|yE Z (cq Z (aS g5 Z) Z)<|LO.nil<|zT<|LW.condT Z<|zQ<|zR<|zM Z<|zN<|zT<|zr<|aq<|af ?_;refine af<|aq<|af<|af ?_;obtain rfl := zJ hr;have hr := congrArg some (hb_x1 _ rfl);obtain rfl := zJ hr;have hr := cS ho_v1;obtain rfl := zJ hr;exact zf (.one (.tmp Z)) zv
      ·
       refine zo g5 hr fun hr => LO.gd Z Z Z (gd g5 Z) Z (zm Z Z)<|LO.gd Z Z Z (gd g5 Z) Z (zm Z Z)<|zb hr fun y7 h_y7 hr => LO.gd Z Z Z (gd g5 Z) Z (zx Z Z Z bv h_y7 Z)<|LO.gd Z Z Z (gd g5 Z) Z (ab.fieldAddrC Z Z jP Z)<|LO.gd Z Z Z (gd g5 Z) Z (cR Z Z Z ce Z Z)<|LO.gd Z Z Z (gd g5 Z) Z (zm Z Z)<|LO.gd Z Z Z (gd g5 Z) Z (zm Z Z)<|zb hr fun y8 h_y8 hr => LO.gd Z Z Z (gd g5 Z) Z (zx Z Z Z bv h_y8 Z)<|LO.gd Z Z Z (gd g5 Z) Z (ab.fieldAddrC Z Z jP Z)<|LO.gd Z Z Z (gd g5 Z) Z (cR Z Z Z ce Z Z)<|LO.gd Z Z Z (gd g5 Z) Z (ab.neqAgg Z Z Z Z Z sY)<|yE Z (bg Z (aS g5 Z) Z)<|LO.nil<|zT ?_;refine zX Z (fun g6 => ?_)<|fun g6 => ?_
       ·
        refine zi g6 hr fun hr => zQ<|zR<|zM Z<|zN<|zT<|zr<|aq<|af<|af<|aq<|af<|af ?_;obtain rfl := zJ hr;have hr := congrArg some (hb_x1 _ rfl);obtain rfl := zJ hr;have hr := cS ho_v1;obtain rfl := zJ hr;exact zf (.one (.tmp Z)) zv
       ·
        refine zo g6 hr fun hr => zk<|ai<|zT<|zR<|zM Z<|yS Z (ay Z Z Z Z)<|zM Z<|zN<|zT ?_;obtain rfl := zJ hr;exact ⟨_, rfl, zW 0 ⟨rfl, rfl, rfl, rfl, trivial⟩ Z Z Z rfl⟩
   ·
    refine zo g2 hr fun hr => zq<|ao<|ao<|zy<|zT ?_;obtain rfl := zJ hr;have hr := congrArg some (hb_x1 _ rfl);obtain rfl := zJ hr;exact ⟨_, rfl, zW 0 ⟨rfl, trivial⟩ Z Z Z rfl⟩
  ·obtain rfl := e_v1;have hr := d4 ho_v1;clear hb_v1;refine zT<|LW.weak hw_v1<|zQ<|zR<|zM Z<|zN<|zT<|zr ?_;obtain rfl := zJ hr;exact zf (.one (.tmp Z)) zv
def sf (a : Nd) (b : Nd) : Option Bool :=
 (DT a.V b.V).bind fun v1 =>
 (DT a.In b.In).bind fun v2 =>
 (p9 a.O b.O).bind fun v3 =>
 bif v1 then
  bif v2 then
   bif v3 then
    bif a.No == b.No then
     bif a.Tick == b.Tick then
      bif ((a.C.ID.1 == b.C.ID.1) && ((a.C.ID.2 == b.C.ID.2) && ((a.C.Slot == b.C.Slot) && ((a.C.Revoked == b.C.Revoked) && true)))) then
       some (a.Full == b.Full)
      else
       some false
     else
      some false
    else
     some false
   else
    some false
  else
   some false
 else
  some false
theorem FW {a : Nd} {b : Nd} {r_ : Bool} (hr : sf a b = some r_) : aw Tryz.prog 72 [gV a, gV b] [.bool r_] := by
 refine zh Tryz.func72 Z Z Z Z ?_;unfold sf at hr;refine zQ<|zR<|yS Z (bT Z Z Z Z Z)<|yS Z (bT Z Z Z Z Z)<|zM Z<|zN<|zT<|zQ<|zR<|yS Z (zA Z Z bP)<|yS Z (zD Z Z Z aJ Z Z)<|yS Z (zA Z Z bP)<|yS Z (zD Z Z Z aJ Z Z)<|zb hr fun v1 h_v1 hr => yS Z (zC Z Z Z (by kernel_rfl) (zp (Iz h_v1) (.cons zv (.cons zv .nil))))<|zM Z<|zN<|zT<|zQ<|zR<|yS Z (zA Z Z bC)<|yS Z (zD Z Z Z aJ Z Z)<|yS Z (zA Z Z bC)<|yS Z (zD Z Z Z aJ Z Z) ?_;refine zb hr fun v2 h_v2 hr => yS Z (zC Z Z Z (by kernel_rfl) (zp (Iz h_v2) (.cons zv (.cons zv .nil))))<|zM Z<|zN<|zT<|zQ<|zR<|yS Z (zA Z Z bH)<|yS Z (zD Z Z Z bl Z Z)<|yS Z (zA Z Z bH)<|yS Z (zD Z Z Z bl Z Z)<|zb hr fun v3 h_v3 hr => yS Z (zC Z Z Z (by kernel_rfl) (zp (C8 h_v3) (.cons zv (.cons zv .nil))))<|zM Z<|zN<|zT<|zQ<|zR<|zM Z<|zM Z ?_;refine zc 24 Z (fun g1 => ?_)<|fun g1 => ?_
 ·
  refine zi g1 hr fun hr => yV Z (gd g1 Z) (zm Z Z)<|yS Z (cq Z (aS g1 Z) Z)<|zM Z ?_;refine zc 27 Z (fun g2 => ?_)<|fun g2 => ?_
  ·
   refine zi g2 hr fun hr => yV Z (gd g2 Z) (zm Z Z)<|yS Z (cq Z (aS g2 Z) Z)<|zM Z ?_;refine zc 30 Z (fun g3 => ?_)<|fun g3 => ?_
   ·
    refine zi g3 hr fun hr => yV Z (gd g3 Z) (zA Z Z eK)<|yV Z (gd g3 Z) (zD Z Z Z a7 Z Z)<|yV Z (gd g3 Z) (zA Z Z eK)<|yV Z (gd g3 Z) (zD Z Z Z a7 Z Z)<|yV Z (gd g3 Z) (ay Z Z Z Z)<|yS Z (cq Z (aS g3 Z) Z)<|zM Z ?_;refine zc 37 Z (fun g4 => ?_)<|fun g4 => ?_
    ·
     refine zi g4 hr fun hr => yV Z (gd g4 Z) (zA Z Z b7)<|yV Z (gd g4 Z) (zD Z Z Z a7 Z Z)<|yV Z (gd g4 Z) (zA Z Z b7)<|yV Z (gd g4 Z) (zD Z Z Z a7 Z Z)<|yV Z (gd g4 Z) (ay Z Z Z Z)<|yS Z (cq Z (aS g4 Z) Z)<|zM Z ?_;refine zc 44 Z (fun g5 => ?_)<|fun g5 => ?_
     ·
      refine zi g5 hr fun hr => yV Z (gd g5 Z) (zA Z Z gk)<|yV Z (gd g5 Z) (zD Z Z Z gA Z Z)<|yV Z (gd g5 Z) (zA Z Z gk)<|yV Z (gd g5 Z) (zD Z Z Z gA Z Z)<|yV Z (gd g5 Z) (ab.eqlAgg Z Z Z Z Z Dm)<|yS Z (cq Z (aS g5 Z) Z)<|zM Z ?_;refine zc 51 Z (fun g6 => ?_)<|fun g6 => ?_
      ·
       refine zi g6 hr fun hr => yV Z (gd g6 Z) (zA Z Z ft)<|yV Z (gd g6 Z) (zD Z Z Z vu Z Z)<|yV Z (gd g6 Z) (zA Z Z ft)<|yV Z (gd g6 Z) (zD Z Z Z vu Z Z)<|yV Z (gd g6 Z) (ab.eqlBool Z Z Z Tryz.underlying4)<|yS Z (cq Z (aS g6 Z) Z)<|zM Z<|zN<|zT<|zr ?_;obtain rfl := zJ hr;exact zf (.one (.tmp Z)) zv
      ·
       refine zo g6 hr fun hr => yU Z (gd g6 Z) Z<|yU Z (gd g6 Z) Z<|yU Z (gd g6 Z) Z<|yU Z (gd g6 Z) Z<|yU Z (gd g6 Z) Z<|yS Z (bg Z (aS g6 Z) Z)<|zM Z<|zN<|zT<|zr ?_;obtain rfl := zJ hr;exact zf (.one (.tmp Z)) zv
     ·
      refine zo g5 hr fun hr => yU Z (gd g5 Z) Z<|yU Z (gd g5 Z) Z<|yU Z (gd g5 Z) Z<|yU Z (gd g5 Z) Z<|yU Z (gd g5 Z) Z<|yS Z (bg Z (aS g5 Z) Z)<|zM Z<|yU Z Z Z<|yU Z Z Z<|yU Z Z Z<|yU Z Z Z<|yU Z Z Z<|yS Z (bg Z Z Z)<|zM Z<|zN<|zT<|zr ?_;obtain rfl := zJ hr;exact zf (.one (.tmp Z)) zv
    ·
     refine zo g4 hr fun hr => yU Z (gd g4 Z) Z<|yU Z (gd g4 Z) Z<|yU Z (gd g4 Z) Z<|yU Z (gd g4 Z) Z<|yU Z (gd g4 Z) Z<|yS Z (bg Z (aS g4 Z) Z)<|zM Z<|yU Z Z Z<|yU Z Z Z<|yU Z Z Z<|yU Z Z Z<|yU Z Z Z<|yS Z (bg Z Z Z)<|zM Z<|yU Z Z Z<|yU Z Z Z<|yU Z Z Z<|yU Z Z Z<|yU Z Z Z<|yS Z (bg Z Z Z)<|zM Z<|zN<|zT ?_;refine LW.ret ?_;obtain rfl := zJ hr;exact zf (.one (.tmp Z)) zv
   ·
    refine zo g3 hr fun hr => yU Z (gd g3 Z) Z<|yU Z (gd g3 Z) Z<|yU Z (gd g3 Z) Z<|yU Z (gd g3 Z) Z<|yU Z (gd g3 Z) Z<|yS Z (bg Z (aS g3 Z) Z)<|zM Z<|yU Z Z Z<|yU Z Z Z<|yU Z Z Z<|yU Z Z Z<|yU Z Z Z<|yS Z (bg Z Z Z)<|zM Z<|yU Z Z Z<|yU Z Z Z<|yU Z Z Z<|yU Z Z Z<|yU Z Z Z<|yS Z (bg Z Z Z)<|zM Z<|yU Z Z Z<|yU Z Z Z ?_;refine yU Z Z Z<|yU Z Z Z<|yU Z Z Z<|yS Z (bg Z Z Z)<|zM Z<|zN<|zT<|zr ?_;obtain rfl := zJ hr;exact zf (.one (.tmp Z)) zv
  ·
   refine zo g2 hr fun hr => yU Z (gd g2 Z) Z<|yS Z (bg Z (aS g2 Z) Z)<|zM Z<|yU Z Z Z<|yU Z Z Z<|yU Z Z Z<|yU Z Z Z<|yU Z Z Z<|yS Z (bg Z Z Z)<|zM Z<|yU Z Z Z<|yU Z Z Z<|yU Z Z Z<|yU Z Z Z<|yU Z Z Z<|yS Z (bg Z Z Z)<|zM Z<|yU Z Z Z<|yU Z Z Z<|yU Z Z Z<|yU Z Z Z<|yU Z Z Z<|yS Z (bg Z Z Z) ?_;refine zM Z<|yU Z Z Z<|yU Z Z Z<|yU Z Z Z<|yU Z Z Z<|yU Z Z Z<|yS Z (bg Z Z Z)<|zM Z<|zN<|zT<|zr ?_;obtain rfl := zJ hr;exact zf (.one (.tmp Z)) zv
 ·
  refine zo g1 hr fun hr => yU Z (gd g1 Z) Z<|yS Z (bg Z (aS g1 Z) Z)<|zM Z<|yU Z Z Z<|yS Z (bg Z Z Z)<|zM Z<|yU Z Z Z<|yU Z Z Z<|yU Z Z Z<|yU Z Z Z<|yU Z Z Z<|yS Z (bg Z Z Z)<|zM Z<|yU Z Z Z<|yU Z Z Z<|yU Z Z Z<|yU Z Z Z<|yU Z Z Z<|yS Z (bg Z Z Z)<|zM Z<|yU Z Z Z<|yU Z Z Z<|yU Z Z Z ?_;refine yU Z Z Z<|yU Z Z Z<|yS Z (bg Z Z Z)<|zM Z<|yU Z Z Z<|yU Z Z Z<|yU Z Z Z<|yU Z Z Z<|yU Z Z Z<|yS Z (bg Z Z Z)<|zM Z<|zN<|zT<|zr ?_;obtain rfl := zJ hr;exact zf (.one (.tmp Z)) zv
def vT (a : List Of) (b : List Of) : Option Bool :=
 (p9 a b).bind fun v1 =>
 some v1
theorem FX {a : List Of} {b : List Of} {r_ : Bool} (hr : vT a b = some r_) : aw Tryz.prog 71 [.slice 9 (a.map dh), .slice 9 (b.map dh)] [.bool r_] := by
 refine zh Tryz.func71 Z Z Z Z ?_;unfold vT at hr;refine zQ<|zR<|zM Z<|zN<|zT<|zQ<|zR<|zM Z<|zM Z<|zb hr fun v1 h_v1 hr => yS Z (zC Z Z Z (by kernel_rfl) (zp (C8 h_v1) (.cons zv (.cons zv .nil))))<|zM Z<|zN<|zT<|zQ<|zR<|zM Z<|zM Z<|zN<|zT<|zr ?_;obtain rfl := zJ hr;exact zf (.one (.tmp Z)) zv
structure dS where
 i : Int
structure dv where
 i : Int
def iq (a : Wd) (b : Wd) (x1 : dS) : Option (dS ⊕ (dS ⊕ Bool)) :=
 bif decide (x1.i < (a.Bad.length : Int)) then
  (ix a.Bad x1.i).bind fun y1 =>
  (ix b.Bad x1.i).bind fun y2 =>
  bif y1 != y2 then
   some (.inr (.inr false))
  else
   some (.inl (dS.mk (IntKind.i64.wrap (x1.i + 1))))
 else
  some (.inr (.inl (dS.mk x1.i)))
def f4 (a : Wd) (b : Wd) (x2 : dv) : Option (dv ⊕ (dv ⊕ Bool)) :=
 bif decide (x2.i < (a.N.length : Int)) then
  (ix a.N x2.i).bind fun y3 =>
  (ix b.N x2.i).bind fun y4 =>
  (sf y3 y4).bind fun v5 =>
  bif !v5 then
   some (.inr (.inr false))
  else
   some (.inl (dv.mk (IntKind.i64.wrap (x2.i + 1))))
 else
  some (.inr (.inl (dv.mk x2.i)))
def so (a : Wd) (b : Wd) : Option Bool :=
 (vT a.O b.O).bind fun v1 =>
 (
  bif !v1 then
   some true
  else
   bif a.Tick != b.Tick then
    some true
   else
    bif (a.Bad.length : Int) != (b.Bad.length : Int) then
     some true
    else
     some ((a.N.length : Int) != (b.N.length : Int))
 ).bind fun v2 =>
 bif v2 then
  some false
 else
  (iter (iq a b) bE (dS.mk 0)).bind fun b_v3 => Sum.elim (fun _ =>
   (iter (f4 a b) bE (dv.mk 0)).bind fun b_v4 => Sum.elim (fun _ =>
    some true) some b_v4) some b_v3
theorem F8 {a : Wd} {b : Wd} {r_ : Bool} (hr : so a b = some r_) : aw Tryz.prog 35 [x5 a, x5 b] [.bool r_] := by
 refine zh Tryz.func35 Z Z Z Z ?_;unfold so at hr;refine zQ<|zR<|yS Z (bT Z Z Z Z Z)<|yS Z (bT Z Z Z Z Z)<|zM Z<|zN<|zT<|zQ<|zR<|yS Z (zA Z Z eJ)<|yS Z (zD Z Z Z bl Z Z)<|yS Z (zA Z Z eJ)<|yS Z (zD Z Z Z bl Z Z)<|zb hr fun v1 h_v1 hr => yS Z (zC Z Z Z (by kernel_rfl) (zp (FX h_v1) (.cons zv (.cons zv .nil))))<|zM Z<|zN<|zT<|zQ ?_;obtain ⟨v2, hb_v2, ho_v2⟩ := zB hr;clear hr;refine LW.cut (E := [(2, .ptr 0 0), (3, .ptr 1 0), (4, (bQ false)), (40, (bQ v2))]) (O := [.box (gB a), .box (gB b)]) ?_ ?_
 ·have hr := hb_v2;refine zR<|zM Z<|yS Z (ab.not Z Z)<|zM Z ?_;refine zc 16 Z (fun g1 => ?_)<|fun g1 => ?_
  ·
   refine zi g1 hr fun hr => yU Z (gd g1 Z) Z<|yU Z (gd g1 Z) Z<|yU Z (gd g1 Z) Z<|yU Z (gd g1 Z) Z<|yU Z (gd g1 Z) Z<|yS Z (cq Z (aS g1 Z) Z)<|zM Z<|yU Z Z Z<|yU Z Z Z<|yU Z Z Z<|yU Z Z Z<|yU Z Z Z<|yU Z Z Z<|yU Z Z Z<|yS Z (cq Z Z Z)<|zM Z<|yU Z Z Z<|yU Z Z Z<|yU Z Z Z<|yU Z Z Z<|yU Z Z Z<|yU Z Z Z<|yU Z Z Z ?_;refine yS Z (cq Z Z Z)<|zN<|zT ?_;obtain rfl := zJ hr;exact zW 2 ⟨Z, Z, Z, Z, trivial⟩ Z Z Z Z
  ·
   refine zo g1 hr fun hr => yV Z (gd g1 Z) (zA Z Z dy)<|yV Z (gd g1 Z) (zD Z Z Z a7 Z Z)<|yV Z (gd g1 Z) (zA Z Z dy)<|yV Z (gd g1 Z) (zD Z Z Z a7 Z Z)<|yV Z (gd g1 Z) (ay Z Z Z Z)<|yS Z (bg Z (aS g1 Z) Z)<|zM Z ?_;refine zc 23 Z (fun g2 => ?_)<|fun g2 => ?_
   ·
    refine zi g2 hr fun hr => yU Z (gd g2 Z) Z<|yU Z (gd g2 Z) Z<|yU Z (gd g2 Z) Z<|yU Z (gd g2 Z) Z<|yU Z (gd g2 Z) Z<|yU Z (gd g2 Z) Z<|yU Z (gd g2 Z) Z<|yS Z (cq Z (aS g2 Z) Z)<|zM Z<|yU Z Z Z<|yU Z Z Z<|yU Z Z Z<|yU Z Z Z<|yU Z Z Z<|yU Z Z Z<|yU Z Z Z<|yS Z (cq Z Z Z)<|zN<|zT ?_;obtain rfl := zJ hr;exact zW 2 ⟨Z, Z, Z, Z, trivial⟩ Z Z Z Z
   ·
    refine zo g2 hr fun hr => yV Z (gd g2 Z) (zA Z Z de)<|yV Z (gd g2 Z) (zD Z Z Z eR Z Z)<|yV Z (gd g2 Z) (cB Z Z (by kernel_rfl))<|yV Z (gd g2 Z) (zA Z Z de)<|yV Z (gd g2 Z) (zD Z Z Z eR Z Z)<|yV Z (gd g2 Z) (cB Z Z (by kernel_rfl))<|yV Z (gd g2 Z) (ay Z Z Z Z)<|yS Z (bg Z (aS g2 Z) Z)<|zM Z ?_;refine zc 32 Z (fun g3 => ?_)<|fun g3 => ?_
    ·
     refine zi g3 hr fun hr => yU Z (gd g3 Z) Z<|yU Z (gd g3 Z) Z<|yU Z (gd g3 Z) Z<|yU Z (gd g3 Z) Z<|yU Z (gd g3 Z) Z<|yU Z (gd g3 Z) Z<|yU Z (gd g3 Z) Z<|yS Z (cq Z (aS g3 Z) Z)<|zN<|zT ?_;obtain rfl := zJ hr;exact zW 2 ⟨Z, Z, Z, Z, trivial⟩ Z Z Z Z
    ·
     refine zo g3 hr fun hr => yV Z (gd g3 Z) (zA Z Z bz)<|yV Z (gd g3 Z) (zD Z Z Z cP Z Z)<|yV Z (gd g3 Z) (cB Z Z (by kernel_rfl))<|yV Z (gd g3 Z) (zA Z Z bz)<|yV Z (gd g3 Z) (zD Z Z Z cP Z Z)<|yV Z (gd g3 Z) (cB Z Z (by kernel_rfl))<|yV Z (gd g3 Z) (ay Z Z Z Z)<|yS Z (bg Z (aS g3 Z) Z)<|zN<|zT ?_;obtain rfl := zJ hr;exact zW 2 ⟨Z, Z, Z, Z, trivial⟩ Z Z Z Z
 ·have hr := ho_v2;clear hb_v2;refine zX Z (fun g4 => ?_)<|fun g4 => ?_
  ·
   refine zi g4 hr fun hr => zQ<|zR<|zM Z<|zN<|zT<|zr<|af ?_;obtain rfl := zJ hr;exact zf (.one (.tmp Z)) zv
  ·
   refine zo g4 hr fun hr => zk<|zT<|zQ<|zQ<|zR<|zM Z<|zN<|zT ?_;obtain ⟨b_v3, hb_v3, ho_v3⟩ := zB hr;clear hr;refine LW.tailB (b := b_v3) (E := fun v3 => [(2, .ptr 0 0), (3, .ptr 1 0), (4, (bQ false))]) (O := fun v3 => [.box (gB a), .box (gB b)]) ?_<|fun v3 e_v3 env_v3 H_v3 hw_v3 => ?_
   ·refine LW.block ?_;refine LW.iterB (E := fun x1 : dS => [(2, .ptr 0 0), (3, .ptr 1 0), (4, (bQ false)), (6, (iQ x1.i))]) (O := fun x1 => [.box (gB a), .box (gB b)]) hb_v3 (zW 2 ⟨rfl, rfl, rfl, rfl, trivial⟩ Z Z Z Z)<|fun x1 z_x1 hr hb_x1 => ?_;unfold iq at hr;refine zQ<|zQ<|zR<|zM Z<|yS Z (zA Z Z de)<|yS Z (zD Z Z Z eR Z Z)<|yS Z (cB Z Z (by kernel_rfl))<|yS Z (ay Z Z Z Z)<|zN<|zT ?_;refine zX Z (fun g5 => ?_)<|fun g5 => ?_
    ·
     refine zi g5 hr fun hr => zk<|zT<|zQ<|zl<|zQ<|LW.draw2 (by kernel_rfl) (by kernel_rfl)<|yE Z (zA Z Z de)<|yE Z (zD Z Z Z eR Z Z)<|zH Z<|zb hr fun y1 h_y1 hr => yE Z (zx Z Z Z fO h_y1 Z)<|yE Z (cR Z Z Z a7 Z Z)<|yE Z (zA Z Z de)<|yE Z (zD Z Z Z eR Z Z)<|zH Z<|zb hr fun y2 h_y2 hr => yE Z (zx Z Z Z fO h_y2 Z)<|yE Z (cR Z Z Z a7 Z Z)<|yE Z (ay Z Z Z Z)<|LO.nil<|zT ?_;refine zX Z (fun g6 => ?_)<|fun g6 => ?_
     ·
      refine zi g6 hr fun hr => zQ<|zR<|zM Z<|zN<|zT<|zr<|aq<|af<|af<|aq<|af<|af ?_;obtain rfl := zJ hr;have hr := congrArg some (hb_x1 _ rfl);obtain rfl := zJ hr;have hr := cS ho_v3;obtain rfl := zJ hr;exact zf (.one (.tmp Z)) zv
     ·
      refine zo g6 hr fun hr => zk<|ai<|zT<|zR<|zM Z<|yS Z (ay Z Z Z Z)<|zM Z<|zN<|zT ?_;obtain rfl := zJ hr;exact ⟨_, rfl, zW 2 ⟨rfl, rfl, rfl, rfl, trivial⟩ Z Z Z rfl⟩
    ·
     refine zo g5 hr fun hr => zq<|ao<|ao<|zy<|zT ?_;obtain rfl := zJ hr;have hr := congrArg some (hb_x1 _ rfl);obtain rfl := zJ hr;exact ⟨_, rfl, zW 2 ⟨rfl, rfl, rfl, trivial⟩ Z Z Z rfl⟩
   ·obtain rfl := e_v3;have hr := d4 ho_v3;clear hb_v3;refine zT<|LW.weak hw_v3<|zQ<|zQ<|zR<|zM Z<|zN<|zT ?_;obtain ⟨b_v4, hb_v4, ho_v4⟩ := zB hr;clear hr;refine LW.tailB (b := b_v4) (E := fun v4 => [(4, (bQ false))]) (O := fun v4 => [.box (gB a), .box (gB b)]) ?_<|fun v4 e_v4 env_v4 H_v4 hw_v4 => ?_
    ·refine LW.block ?_;refine LW.iterB (E := fun x2 : dv => [(2, .ptr 0 0), (3, .ptr 1 0), (4, (bQ false)), (7, (iQ x2.i))]) (O := fun x2 => [.box (gB a), .box (gB b)]) hb_v4 (zW 2 ⟨rfl, rfl, rfl, rfl, trivial⟩ Z Z Z Z)<|fun x2 z_x2 hr hb_x2 => ?_;unfold f4 at hr;refine zQ<|zQ<|zR<|zM Z<|yS Z (zA Z Z bz)<|yS Z (zD Z Z Z cP Z Z)<|yS Z (cB Z Z (by kernel_rfl))<|yS Z (ay Z Z Z Z)<|zN<|zT ?_;refine zX Z (fun g7 => ?_)<|fun g7 => ?_
     ·
      refine zi g7 hr fun hr => zk<|zT<|zQ<|zl<|zQ<|LW.draw2 (by kernel_rfl) (by kernel_rfl)<|yE Z (zA Z Z bz)<|yE Z (zD Z Z Z cP Z Z)<|zH Z<|zb hr fun y3 h_y3 hr => yE Z (zx Z Z Z ei h_y3 Z)<|yE Z (cR Z Z Z bX Z Z)<|yE Z (zA Z Z bz)<|yE Z (zD Z Z Z cP Z Z)<|zH Z<|zb hr fun y4 h_y4 hr => yE Z (zx Z Z Z ei h_y4 Z)<|yE Z (cR Z Z Z bX Z Z)<|zb hr fun v5 h_v5 hr => yE Z (zC Z Z Z (by kernel_rfl) (zp (FW h_v5) (.cons zv (.cons zv .nil))))<|zH Z<|LO.nil<|zT ?_;refine zQ<|zR<|zM Z<|yS Z (ab.not Z Z)<|zN<|zT ?_;refine zX Z (fun g8 => ?_)<|fun g8 => ?_
      ·
       refine zi g8 hr fun hr => zQ<|zR<|zM Z<|zN<|zT<|zr<|aq<|af<|af<|aq<|af<|af ?_;obtain rfl := zJ hr;have hr := congrArg some (hb_x2 _ rfl);obtain rfl := zJ hr;have hr := cS ho_v4;obtain rfl := zJ hr;exact zf (.one (.tmp Z)) zv
      ·
       refine zo g8 hr fun hr => zk<|ai<|zT<|zR<|zM Z<|yS Z (ay Z Z Z Z)<|zM Z<|zN<|zT ?_;obtain rfl := zJ hr;exact ⟨_, rfl, zW 2 ⟨rfl, rfl, rfl, rfl, trivial⟩ Z Z Z rfl⟩
     ·
      refine zo g7 hr fun hr => zq<|ao<|ao<|zy<|zT ?_;obtain rfl := zJ hr;have hr := congrArg some (hb_x2 _ rfl);obtain rfl := zJ hr;exact ⟨_, rfl, zW 2 ⟨rfl, trivial⟩ Z Z Z rfl⟩
    ·obtain rfl := e_v4;have hr := d4 ho_v4;clear hb_v4;refine zT<|LW.weak hw_v4<|zQ<|zR<|zM Z<|zN<|zT<|zr ?_;obtain rfl := zJ hr;exact zf (.one (.tmp Z)) zv
structure iU where
 t17 : Int
def vX (s1 : List Nd) (s2 : List Nd) (x1 : iU) : Option (iU ⊕ (iU ⊕ Bool)) :=
 bif decide (x1.t17 < (s1.length : Int)) then
  (ix s1 x1.t17).bind fun y1 =>
  (ix s2 x1.t17).bind fun y2 =>
  (vS y1 y2).bind fun v2 =>
  bif !v2 then
   some (.inr (.inr false))
  else
   some (.inl (iU.mk (IntKind.i64.wrap (x1.t17 + 1))))
 else
  some (.inr (.inl (iU.mk x1.t17)))
def DY (s1 : List Nd) (s2 : List Nd) : Option Bool :=
 bif (s1.length : Int) != (s2.length : Int) then
  some false
 else
  (iter (vX s1 s2) bE (iU.mk 0)).bind fun b_v1 => Sum.elim (fun _ =>
   some true) some b_v1
theorem Gr {s1 : List Nd} {s2 : List Nd} {r_ : Bool} (hr : DY s1 s2 = some r_) : LC Tryz.prog 122 [.p (.slice 12 (s1.map gV)), .p (.slice 12 (s2.map gV)), .fn 120 [] []] [] (Is (bQ r_) []) := by
 refine dq Tryz.func122 Z Z Z ?_;unfold DY at hr;refine zQ<|zR<|zM Z<|zN<|zT<|zQ<|zQ<|zR<|zM Z<|yS Z (cB Z Z (by kernel_rfl))<|zM Z<|yS Z (cB Z Z (by kernel_rfl))<|yS Z (ay Z Z Z Z)<|zN<|zT ?_;refine zX Z (fun g1 => ?_)<|fun g1 => ?_
 ·
  refine zi g1 hr fun hr => zQ<|zR<|zM Z<|zN<|zT<|zr<|af ?_;obtain rfl := zJ hr;exact ap (.one (.tmp Z))<|⟨rfl, rfl⟩
 ·
  refine zo g1 hr fun hr => zk<|zT<|zQ<|zQ<|zR<|zM Z<|yS Z (cB Z Z (by kernel_rfl))<|zM Z<|zN<|zT ?_;obtain ⟨b_v1, hb_v1, ho_v1⟩ := zB hr;clear hr;refine LW.tailB (b := b_v1) (E := fun v1 => [(6, (bQ false))]) (O := fun v1 => []) ?_<|fun v1 e_v1 env_v1 H_v1 hw_v1 => ?_
  ·refine LW.block ?_;refine LW.iterB (E := fun x1 : iU => [(1, .p (.slice 12 (s2.map gV))), (2, .fn 120 [] []), (6, (bQ false)), (15, .p (.slice 12 (s1.map gV))), (16, .p (.int .i64 (s1.length : Int))), (17, (iQ x1.t17))]) (O := fun x1 => []) hb_v1 (zW 0 ⟨rfl, rfl, rfl, rfl, rfl, rfl, trivial⟩ Z Z Z Z)<|fun x1 z_x1 hr hb_x1 => ?_;unfold vX at hr;refine zQ<|zR<|yS Z (ay Z Z Z Z)<|zN<|zT<|zQ ?_;refine zX Z (fun g2 => ?_)<|fun g2 => ?_
   ·
    refine zi g2 hr fun hr => zk<|zT<|zQ<|zl<|zQ<|zR<|zM Z<|zb hr fun y1 h_y1 hr => yS Z (zx Z Z Z ei h_y1 Z)<|yS Z (cR Z Z Z bX Z Z)<|yS Z (ze Z ne Z Z)<|zM Z<|yS Z (zs Z Z Z Z bX Z Z Z Z)<|zN<|zT<|zQ<|zR<|zM Z<|zM Z<|zb hr fun y2 h_y2 hr => yS Z (zx Z Z Z ei h_y2 Z)<|yS Z (cR Z Z Z bX Z Z)<|yS Z (ze Z ne Z Z) ?_;refine yS Z (zs Z Z Z Z bX Z Z Z Z)<|zN<|zT<|zQ<|zR<|zM Z<|yS Z (zD Z Z Z bX Z Z)<|yS Z (zD Z Z Z bX Z Z)<|zb hr fun v2 h_v2 hr => yS Z (zC Z Z Z (by kernel_rfl) (zp (C7 h_v2) (.cons zv (.cons zv .nil))))<|yS Z (ab.not Z Z)<|zN<|zT ?_;refine zX Z (fun g3 => ?_)<|fun g3 => ?_
    ·
     refine zi g3 hr fun hr => zQ<|zR<|zM Z<|zN<|zT<|zr<|aq<|af<|af<|aq<|af<|af ?_;obtain rfl := zJ hr;have hr := congrArg some (hb_x1 _ rfl);obtain rfl := zJ hr;have hr := cS ho_v1;obtain rfl := zJ hr;exact aQ (env' := [(6, (bQ false))]) (H' := []) (zW 0 ⟨rfl, trivial⟩ Z Z Z Z) (.one (.tmp Z))<|⟨rfl, rfl⟩
    ·
     refine zo g3 hr fun hr => zk<|ai<|zT<|zR<|yS Z (ay Z Z Z Z)<|zM Z<|zN<|zT ?_;obtain rfl := zJ hr;exact ⟨_, rfl, zW 0 ⟨rfl, rfl, rfl, rfl, rfl, rfl, trivial⟩ Z Z Z rfl⟩
   ·
    refine zo g2 hr fun hr => zq<|ao<|ao<|zy<|zT ?_;obtain rfl := zJ hr;have hr := congrArg some (hb_x1 _ rfl);obtain rfl := zJ hr;exact ⟨_, rfl, zW 0 ⟨rfl, trivial⟩ Z Z Z rfl⟩
  ·obtain rfl := e_v1;have hr := d4 ho_v1;clear hb_v1;refine zT<|LW.weak hw_v1<|zQ<|zR<|zM Z<|zN<|zT<|zr ?_;obtain rfl := zJ hr;exact ap (.one (.tmp Z))<|⟨rfl, rfl⟩
structure ga where
 t13 : Int
def sw (s1 : List Int) (s2 : List Int) (x1 : ga) : Option (ga ⊕ (ga ⊕ Bool)) :=
 bif decide (x1.t13 < (s1.length : Int)) then
  (ix s1 x1.t13).bind fun y1 =>
  (ix s2 x1.t13).bind fun y2 =>
  bif y1 != y2 then
   some (.inr (.inr false))
  else
   some (.inl (ga.mk (IntKind.i64.wrap (x1.t13 + 1))))
 else
  some (.inr (.inl (ga.mk x1.t13)))
def yT (s1 : List Int) (s2 : List Int) : Option Bool :=
 bif (s1.length : Int) != (s2.length : Int) then
  some false
 else
  (iter (sw s1 s2) bE (ga.mk 0)).bind fun b_v1 => Sum.elim (fun _ =>
   some true) some b_v1
theorem Gb {s1 : List Int} {s2 : List Int} {r_ : Bool} (hr : yT s1 s2 = some r_) : aw Tryz.prog 121 [.slice 1 (s1.map aB), .slice 1 (s2.map aB)] [.bool r_] := by
 refine zh Tryz.func121 Z Z Z Z ?_;unfold yT at hr;refine zQ<|zR<|zM Z<|zN<|zT<|zQ<|zQ<|zR<|zM Z<|yS Z (cB Z Z (by kernel_rfl))<|zM Z<|yS Z (cB Z Z (by kernel_rfl))<|yS Z (ay Z Z Z Z)<|zN<|zT ?_;refine zX Z (fun g1 => ?_)<|fun g1 => ?_
 ·
  refine zi g1 hr fun hr => zQ<|zR<|zM Z<|zN<|zT<|zr<|af ?_;obtain rfl := zJ hr;exact zf (.one (.tmp Z)) zv
 ·
  refine zo g1 hr fun hr => zk<|zT<|zQ<|zQ<|zR<|zM Z<|yS Z (cB Z Z (by kernel_rfl))<|zM Z<|zN<|zT ?_;obtain ⟨b_v1, hb_v1, ho_v1⟩ := zB hr;clear hr;refine LW.tailB (b := b_v1) (E := fun v1 => [(4, (bQ false))]) (O := fun v1 => []) ?_<|fun v1 e_v1 env_v1 H_v1 hw_v1 => ?_
  ·refine LW.block ?_;refine LW.iterB (E := fun x1 : ga => [(0, (kI s1)), (1, (kI s2)), (4, (bQ false)), (12, .p (.int .i64 (s1.length : Int))), (13, (iQ x1.t13))]) (O := fun x1 => []) hb_v1 (zW 0 ⟨rfl, rfl, rfl, rfl, rfl, trivial⟩ Z Z Z Z)<|fun x1 z_x1 hr hb_x1 => ?_;unfold sw at hr;refine zQ<|zR<|yS Z (ay Z Z Z Z)<|zN<|zT<|zQ ?_;refine zX Z (fun g2 => ?_)<|fun g2 => ?_
   ·
    refine zi g2 hr fun hr => zk<|zT<|zQ<|zl<|zQ<|zR<|zM Z<|zM Z<|zN<|zT<|zQ<|LW.draw2 (by kernel_rfl) (by kernel_rfl)<|zH Z<|zH Z<|zb hr fun y1 h_y1 hr => yE Z (zx Z Z Z fO h_y1 Z)<|yE Z (cR Z Z Z a7 Z Z)<|zH Z<|zH Z<|zb hr fun y2 h_y2 hr => yE Z (zx Z Z Z fO h_y2 Z)<|yE Z (cR Z Z Z a7 Z Z)<|yE Z (ay Z Z Z Z) ?_;refine LO.nil<|zT ?_;refine zX Z (fun g3 => ?_)<|fun g3 => ?_
    ·
     refine zi g3 hr fun hr => zQ<|zR<|zM Z<|zN<|zT<|zr<|aq<|af<|af<|aq<|af<|af ?_;obtain rfl := zJ hr;have hr := congrArg some (hb_x1 _ rfl);obtain rfl := zJ hr;have hr := cS ho_v1;obtain rfl := zJ hr;exact zf (.one (.tmp Z)) zv
    ·
     refine zo g3 hr fun hr => zk<|ai<|zT<|zR<|yS Z (ay Z Z Z Z)<|zM Z<|zN<|zT ?_;obtain rfl := zJ hr;exact ⟨_, rfl, zW 0 ⟨rfl, rfl, rfl, rfl, rfl, trivial⟩ Z Z Z rfl⟩
   ·
    refine zo g2 hr fun hr => zq<|ao<|ao<|zy<|zT ?_;obtain rfl := zJ hr;have hr := congrArg some (hb_x1 _ rfl);obtain rfl := zJ hr;exact ⟨_, rfl, zW 0 ⟨rfl, trivial⟩ Z Z Z rfl⟩
  ·obtain rfl := e_v1;have hr := d4 ho_v1;clear hb_v1;refine zT<|LW.weak hw_v1<|zQ<|zR<|zM Z<|zN<|zT<|zr ?_;obtain rfl := zJ hr;exact zf (.one (.tmp Z)) zv
def yR (a : Wd) (b : Wd) : Option Bool :=
 (vS (Nd.mk 0 0 (Vw.mk [] []) (Vw.mk [] []) a.O (Cu.mk (0, 0) 0 0) false) (Nd.mk 0 0 (Vw.mk [] []) (Vw.mk [] []) b.O (Cu.mk (0, 0) 0 0) false)).bind fun v1 =>
 bif v1 then
  bif a.Tick == b.Tick then
   (yT a.Bad b.Bad).bind fun v2 =>
   bif v2 then
    (DY a.N b.N).bind fun v3 =>
    some v3
   else
    some false
  else
   some false
 else
  some false
theorem Ga {a : Wd} {b : Wd} {r_ : Bool} (hr : yR a b = some r_) : aw Tryz.prog 66 [x5 a, x5 b] [.bool r_] := by
 refine zh Tryz.func66 Z Z Z Z ?_;unfold yR at hr;refine zQ<|zR<|yS Z (bT Z Z Z Z Z)<|yS Z (bT Z Z Z Z Z)<|zM Z<|zN<|zT<|zQ<|zR<|yS Z (zA Z Z eJ)<|yS Z (zD Z Z Z bl Z Z)<|yS Z (ab.build Z uG Z Z Z)<|yS Z (zA Z Z eJ)<|yS Z (zD Z Z Z bl Z Z)<|yS Z (ab.build Z uG Z Z Z)<|zb hr fun v1 h_v1 hr => yS Z (zC Z Z Z (by kernel_rfl) (zp (C7 h_v1) (.cons (Conv.agg (.cons zv (.cons zv (.cons Conv.zs (.cons Conv.zs (.cons Conv.zs (.cons Conv.zs (.cons zv (.cons zv (.cons zv (.cons zv (.cons zv (.cons zv .nil))))))))))))) (.cons (Conv.agg (.cons zv (.cons zv (.cons Conv.zs (.cons Conv.zs (.cons Conv.zs (.cons Conv.zs (.cons zv (.cons zv (.cons zv (.cons zv (.cons zv (.cons zv .nil))))))))))))) .nil))))<|zM Z<|zN<|zT<|zQ<|zR<|zM Z<|zM Z ?_;refine zc 14 Z (fun g1 => ?_)<|fun g1 => ?_
 ·
  refine zi g1 hr fun hr => yV Z (gd g1 Z) (zA Z Z dy)<|yV Z (gd g1 Z) (zD Z Z Z a7 Z Z)<|yV Z (gd g1 Z) (zA Z Z dy)<|yV Z (gd g1 Z) (zD Z Z Z a7 Z Z)<|yV Z (gd g1 Z) (ay Z Z Z Z)<|yS Z (cq Z (aS g1 Z) Z)<|zM Z ?_;refine zc 21 Z (fun g2 => ?_)<|fun g2 => ?_
  ·
   refine zi g2 hr fun hr => yV Z (gd g2 Z) (zA Z Z de)<|yV Z (gd g2 Z) (zD Z Z Z eR Z Z)<|yV Z (gd g2 Z) (zA Z Z de)<|yV Z (gd g2 Z) (zD Z Z Z eR Z Z)<|zb hr fun v2 h_v2 hr => yV Z (gd g2 Z) (zC Z Z Z (by kernel_rfl) (zp (Gb h_v2) (.cons zv (.cons zv .nil))))<|yS Z (cq Z (aS g2 Z) Z)<|zM Z ?_;refine zc 28 Z (fun g3 => ?_)<|fun g3 => ?_
   ·
    refine zi g3 hr fun hr => yV Z (gd g3 Z) (zA Z Z bz)<|yV Z (gd g3 Z) (zD Z Z Z cP Z Z)<|yV Z (gd g3 Z) (zA Z Z bz)<|yV Z (gd g3 Z) (zD Z Z Z cP Z Z)<|zb hr fun v3 h_v3 hr => yV Z (gd g3 Z) (zC Z Z Z (by kernel_rfl) (LC.pre (Gr h_v3) Z Z Z))<|yS Z (cq Z (aS g3 Z) Z)<|zM Z<|zN<|zT<|zr ?_;obtain rfl := zJ hr;exact zf (.one (.tmp Z)) zv
   ·
    refine zo g3 hr fun hr => yU Z (gd g3 Z) Z<|yU Z (gd g3 Z) Z<|yU Z (gd g3 Z) Z<|yU Z (gd g3 Z) Z<|yU Z (gd g3 Z) Z<|yS Z (bg Z (aS g3 Z) Z)<|zM Z<|zN<|zT<|zr ?_;obtain rfl := zJ hr;exact zf (.one (.tmp Z)) zv
  ·
   refine zo g2 hr fun hr => yU Z (gd g2 Z) Z<|yU Z (gd g2 Z) Z<|yU Z (gd g2 Z) Z<|yU Z (gd g2 Z) Z<|yU Z (gd g2 Z) Z<|yS Z (bg Z (aS g2 Z) Z)<|zM Z<|yU Z Z Z<|yU Z Z Z<|yU Z Z Z<|yU Z Z Z<|yU Z Z Z<|yS Z (bg Z Z Z)<|zM Z<|zN<|zT<|zr ?_;obtain rfl := zJ hr;exact zf (.one (.tmp Z)) zv
 ·
  refine zo g1 hr fun hr => yU Z (gd g1 Z) Z<|yU Z (gd g1 Z) Z<|yU Z (gd g1 Z) Z<|yU Z (gd g1 Z) Z<|yU Z (gd g1 Z) Z<|yS Z (bg Z (aS g1 Z) Z)<|zM Z<|yU Z Z Z<|yU Z Z Z<|yU Z Z Z<|yU Z Z Z<|yU Z Z Z<|yS Z (bg Z Z Z)<|zM Z<|yU Z Z Z<|yU Z Z Z<|yU Z Z Z<|yU Z Z Z<|yU Z Z Z<|yS Z (bg Z Z Z)<|zM Z<|zN<|zT ?_;refine LW.ret ?_;obtain rfl := zJ hr;exact zf (.one (.tmp Z)) zv
open Go.Proofs
def sn : Option Bool :=
 (DO ).bind fun v1 =>
 (qc v1 ([] : List Int)).bind fun v2 =>
 (nh v2 ([] : List Ac) 3).bind fun v3 =>
 bif v3.Tick == 6 then
  bif (v3.N.length : Int) == 1 then
   (ix v3.N 0).bind fun y1 =>
   bif ((y1.C.ID.1 == ((nm (Bk.mk 1 0 (0, 0) 0)).1)) && ((y1.C.ID.2 == ((nm (Bk.mk 1 0 (0, 0) 0)).2)) && true)) then
    (yR v3 v3).bind fun v4 =>
    some v4
   else
    some false
  else
   some false
 else
  some false
theorem F6 {r_ : Bool} (hr : sn = some r_) : aw Tryz.prog 29 [] [.bool r_] := by
 refine zh Tryz.func29 Z Z Z Z ?_;unfold sn at hr;refine zQ<|zR<|zM Z<|zN<|zT<|zQ<|zR<|zb hr fun v1 h_v1 hr => yS Z (zC Z Z Z (by kernel_rfl) (zp (Ia h_v1) .nil))<|zb hr fun v2 h_v2 hr => yS Z (zC Z Z Z (by kernel_rfl) (zp (Da h_v2) (.cons zv (.cons Conv.zs .nil))))<|zb hr fun v3 h_v3 hr => yS Z (zC Z Z Z (by kernel_rfl) (zp (Al h_v3) (.cons zv (.cons Conv.zs (.cons zv .nil)))))<|yS Z (ze Z j7 Z Z)<|yS Z (zs Z Z Z Z bS Z Z Z Z)<|zN<|zT<|zQ<|LW.draw2 (by kernel_rfl) (by kernel_rfl)<|yE Z (zA Z Z dy)<|yE Z (zD Z Z Z a7 Z Z)<|yE Z (ay Z Z Z Z)<|zH Z ?_;refine LO.cases 8 Z (fun (g1 : (v3.Tick == 6) = true) => ?_) (fun (g1 : (v3.Tick == 6) = false) => ?_)
 ·
  refine zi g1 hr fun hr => LO.gd Z Z Z (gd g1 Z) Z (zA Z Z bz)<|LO.gd Z Z Z (gd g1 Z) Z (zD Z Z Z cP Z Z)<|LO.gd Z Z Z (gd g1 Z) Z (cB Z Z (by kernel_rfl))<|LO.gd Z Z Z (gd g1 Z) Z (ay Z Z Z Z)<|yE Z (cq Z (aS g1 Z) Z)<|zH Z ?_;refine LO.cases 14 Z (fun (g2 : ((v3.N.length : Int) == 1) = true) => ?_) (fun (g2 : ((v3.N.length : Int) == 1) = false) => ?_)
  ·
   refine zi g2 hr fun hr => LO.gd Z Z Z (gd g2 Z) Z (zA Z Z bz)<|LO.gd Z Z Z (gd g2 Z) Z (zD Z Z Z cP Z Z)<|zb hr fun y1 h_y1 hr => LO.gd Z Z Z (gd g2 Z) Z (zx Z Z Z ei h_y1 Z)<|LO.gd Z Z Z (gd g2 Z) Z (ab.fieldAddrC Z Z gk Z)<|LO.gd Z Z Z (gd g2 Z) Z (ab.fieldAddrC Z Z rn Z)<|LO.gd Z Z Z (gd g2 Z) Z (cR Z Z Z aU Z Z)<|LO.gd Z Z Z (gd g2 Z) Z (ab.build Z Fu Z Z Z)<|LO.gd Z Z Z (gd g2 Z) Z (zC Z Z Z (by kernel_rfl) (zp (E7 (b := (Bk.mk 1 0 (0, 0) 0))) (.cons zv .nil)))<|LO.gd Z Z Z (gd g2 Z) Z (ab.eqlAgg Z Z Z Z Z sX)<|yE Z (cq Z (aS g2 Z) Z)<|zH Z ?_;refine LO.cases 25 Z (fun (g3 : ((y1.C.ID.1 == ((nm (Bk.mk 1 0 (0, 0) 0)).1)) && ((y1.C.ID.2 == ((nm (Bk.mk 1 0 (0, 0) 0)).2)) && true)) = true) => ?_) (fun (g3 : ((y1.C.ID.1 == ((nm (Bk.mk 1 0 (0, 0) 0)).1)) && ((y1.C.ID.2 == ((nm (Bk.mk 1 0 (0, 0) 0)).2)) && true)) = false) => ?_)
   ·
    refine zi g3 hr fun hr => LO.gd Z Z Z (gd g3 Z) Z (zD Z Z Z bS Z Z)<|LO.gd Z Z Z (gd g3 Z) Z (zD Z Z Z bS Z Z)<|zb hr fun v4 h_v4 hr => LO.gd Z Z Z (gd g3 Z) Z (zC Z Z Z (by kernel_rfl) (zp (Ga h_v4) (.cons zv (.cons zv .nil))))<|yE Z (cq Z (aS g3 Z) Z)<|zH Z<|LO.nil<|zT<|zr ?_;obtain rfl := zJ hr;exact zf (.one (.tmp Z)) zv
   ·
    refine zo g3 hr fun hr => LO.sk Z Z Z (gd g3 Z) Z Z<|LO.sk Z Z Z (gd g3 Z) Z Z<|LO.sk Z Z Z (gd g3 Z) Z Z<|yE Z (bg Z (aS g3 Z) Z)<|zH Z<|LO.nil<|zT<|zr ?_;obtain rfl := zJ hr;exact zf (.one (.tmp Z)) zv
  ·
   refine zo g2 hr fun hr => LO.sk Z Z Z (gd g2 Z) Z Z<|LO.sk Z Z Z (gd g2 Z) Z Z<|LO.sk Z Z Z (gd g2 Z) Z Z<|LO.sk Z Z Z (gd g2 Z) Z Z<|LO.sk Z Z Z (gd g2 Z) Z Z<|LO.sk Z Z Z (gd g2 Z) Z Z<|LO.sk Z Z Z (gd g2 Z) Z Z<|LO.sk Z Z Z (gd g2 Z) Z Z<|LO.sk Z Z Z (gd g2 Z) Z Z<|yE Z (bg Z (aS g2 Z) Z)<|zH Z<|LO.sk Z Z Z Z Z Z<|LO.sk Z Z Z Z Z Z<|LO.sk Z Z Z Z Z Z<|yE Z (bg Z Z Z)<|zH Z<|LO.nil<|zT<|zr ?_;obtain rfl := zJ hr;exact zf (.one (.tmp Z)) zv
 ·
  refine zo g1 hr fun hr => LO.sk Z Z Z (gd g1 Z) Z Z<|LO.sk Z Z Z (gd g1 Z) Z Z<|LO.sk Z Z Z (gd g1 Z) Z Z<|LO.sk Z Z Z (gd g1 Z) Z Z<|yE Z (bg Z (aS g1 Z) Z)<|zH Z<|LO.sk Z Z Z Z Z Z<|LO.sk Z Z Z Z Z Z<|LO.sk Z Z Z Z Z Z<|LO.sk Z Z Z Z Z Z<|LO.sk Z Z Z Z Z Z<|LO.sk Z Z Z Z Z Z<|LO.sk Z Z Z Z Z Z<|LO.sk Z Z Z Z Z Z<|LO.sk Z Z Z Z Z Z<|yE Z (bg Z Z Z)<|zH Z<|LO.sk Z Z Z Z Z Z<|LO.sk Z Z Z Z Z Z<|LO.sk Z Z Z Z Z Z<|yE Z (bg Z Z Z)<|zH Z<|LO.nil ?_;refine zT<|zr ?_;obtain rfl := zJ hr;exact zf (.one (.tmp Z)) zv
structure dw where
 i : Int
def f9 (l : List Ac) (x1 : dw) : Option (dw ⊕ (dw ⊕ Bool)) :=
 bif decide (x1.i < (l.length : Int)) then
  (ix l x1.i).bind fun y1 =>
  bif decide ((y1.B.length : Int) > 8) then
   some (.inr (.inr false))
  else
   (ix l x1.i).bind fun y2 =>
   bif decide ((y2.V.length : Int) > 8) then
    some (.inr (.inr false))
   else
    some (.inl (dw.mk (IntKind.i64.wrap (x1.i + 1))))
 else
  some (.inr (.inl (dw.mk x1.i)))
def qe (l : List Ac) (most : Int) : Option Bool :=
 bif decide ((l.length : Int) > most) then
  some false
 else
  (iter (f9 l) bE (dw.mk 0)).bind fun b_v1 => Sum.elim (fun _ =>
   some true) some b_v1
theorem F9 {l : List Ac} {most : Int} {r_ : Bool} (hr : qe l most = some r_) : aw Tryz.prog 36 [.slice 5 (l.map nk), .int .i64 most] [.bool r_] := by
 refine zh Tryz.func36 Z Z Z Z ?_;unfold qe at hr;refine zQ<|zR<|zM Z<|zN<|zT<|zQ<|zQ<|zR<|zM Z<|yS Z (cB Z Z (by kernel_rfl))<|zM Z<|yS Z (ay Z Z Z Z)<|zN<|zT ?_;refine zX Z (fun g1 => ?_)<|fun g1 => ?_
 ·
  refine zi g1 hr fun hr => zQ<|zR<|zM Z<|zN<|zT<|zr<|af ?_;obtain rfl := zJ hr;exact zf (.one (.tmp Z)) zv
 ·
  refine zo g1 hr fun hr => zk<|zT<|zQ<|zQ<|zR<|zM Z<|zN<|zT ?_;obtain ⟨b_v1, hb_v1, ho_v1⟩ := zB hr;clear hr;refine LW.tailB (b := b_v1) (E := fun v1 => [(4, (bQ false))]) (O := fun v1 => []) ?_<|fun v1 e_v1 env_v1 H_v1 hw_v1 => ?_
  ·refine LW.block ?_;refine LW.iterB (E := fun x1 : dw => [(0, .p (.slice 5 (l.map nk))), (4, (bQ false)), (5, (iQ x1.i))]) (O := fun x1 => []) hb_v1 (zW 0 ⟨rfl, rfl, rfl, trivial⟩ Z Z Z Z)<|fun x1 z_x1 hr hb_x1 => ?_;unfold f9 at hr;refine zQ<|zQ<|zR<|zM Z<|zM Z<|yS Z (cB Z Z (by kernel_rfl))<|yS Z (ay Z Z Z Z)<|zN<|zT ?_;refine zX Z (fun g2 => ?_)<|fun g2 => ?_
   ·
    refine zi g2 hr fun hr => zk<|zT<|zQ<|zl<|zQ<|zR<|zM Z<|zM Z<|zb hr fun y1 h_y1 hr => yS Z (zx Z Z Z m5 h_y1 Z)<|yS Z (ab.fieldAddrC Z Z tg Z)<|yS Z (cR Z Z Z dp Z Z)<|yS Z (cB Z Z (by kernel_rfl))<|yS Z (ay Z Z Z Z)<|zM Z ?_;refine zc 23 Z (fun g3 => ?_)<|fun g3 => ?_
    ·
     refine zi g3 hr fun hr => yU Z (gd g3 Z) Z<|yU Z (gd g3 Z) Z<|yU Z (gd g3 Z) Z<|yU Z (gd g3 Z) Z<|yU Z (gd g3 Z) Z<|yU Z (gd g3 Z) Z<|yU Z (gd g3 Z) Z<|yS Z (cq Z (aS g3 Z) Z)<|zN<|zT<|LW.condT Z<|zQ<|zR<|zM Z<|zN<|zT<|zr<|aq<|af<|af<|aq<|af<|af ?_;obtain rfl := zJ hr;have hr := congrArg some (hb_x1 _ rfl);obtain rfl := zJ hr;have hr := cS ho_v1;obtain rfl := zJ hr;exact zf (.one (.tmp Z)) zv
    ·
     refine zo g3 hr fun hr => yV Z (gd g3 Z) (zm Z Z)<|yV Z (gd g3 Z) (zm Z Z)<|zb hr fun y2 h_y2 hr => yV Z (gd g3 Z) (zx Z Z Z m5 h_y2 Z)<|yV Z (gd g3 Z) (ab.fieldAddrC Z Z th Z)<|yV Z (gd g3 Z) (cR Z Z Z dM Z Z)<|yV Z (gd g3 Z) (cB Z Z (by kernel_rfl))<|yV Z (gd g3 Z) (ay Z Z Z Z)<|yS Z (bg Z (aS g3 Z) Z)<|zN<|zT ?_;refine zX Z (fun g4 => ?_)<|fun g4 => ?_
     ·
      refine zi g4 hr fun hr => zQ<|zR<|zM Z<|zN<|zT<|zr<|aq<|af<|af<|aq<|af<|af ?_;obtain rfl := zJ hr;have hr := congrArg some (hb_x1 _ rfl);obtain rfl := zJ hr;have hr := cS ho_v1;obtain rfl := zJ hr;exact zf (.one (.tmp Z)) zv
     ·
      refine zo g4 hr fun hr => zk<|ai<|zT<|zR<|zM Z<|yS Z (ay Z Z Z Z)<|zM Z<|zN<|zT ?_;obtain rfl := zJ hr;exact ⟨_, rfl, zW 0 ⟨rfl, rfl, rfl, trivial⟩ Z Z Z rfl⟩
   ·
    refine zo g2 hr fun hr => zq<|ao<|ao<|zy<|zT ?_;obtain rfl := zJ hr;have hr := congrArg some (hb_x1 _ rfl);obtain rfl := zJ hr;exact ⟨_, rfl, zW 0 ⟨rfl, trivial⟩ Z Z Z rfl⟩
  ·obtain rfl := e_v1;have hr := d4 ho_v1;clear hb_v1;refine zT<|LW.weak hw_v1<|zQ<|zR<|zM Z<|zN<|zT<|zr ?_;obtain rfl := zJ hr;exact zf (.one (.tmp Z)) zv
def qd (c : Cf) (bad : List Int) (l : List Ac) : Option Bool :=
 (qe l 25).bind fun v1 =>
 bif v1 then
  (wY c).bind fun v2 =>
  bif v2 then
   bif decide ((c.W.length : Int) ≤ 6) then
    some (decide ((bad.length : Int) ≤ 6))
   else
    some false
  else
   some false
 else
  some false
theorem F7 {c : Cf} {bad : List Int} {l : List Ac} {r_ : Bool} (hr : qd c bad l = some r_) : aw Tryz.prog 30 [kz c, .slice 1 (bad.map aB), .slice 5 (l.map nk)] [.bool r_] := by
 refine zh Tryz.func30 Z Z Z Z ?_;unfold qd at hr;refine zQ<|zR<|yS Z (bT Z Z Z Z Z)<|zM Z<|zN<|zT<|zQ<|zR<|zM Z<|zb hr fun v1 h_v1 hr => yS Z (zC Z Z Z (by kernel_rfl) (zp (F9 h_v1) (.cons zv (.cons zv .nil))))<|zM Z<|zN<|zT<|zQ<|zR<|zM Z<|zM Z ?_;refine zc 11 Z (fun g1 => ?_)<|fun g1 => ?_
 ·
  refine zi g1 hr fun hr => yV Z (gd g1 Z) (zD Z Z Z bY Z Z)<|zb hr fun v2 h_v2 hr => yV Z (gd g1 Z) (zC Z Z Z (by kernel_rfl) (zp (Ef h_v2) (.cons zv .nil)))<|yS Z (cq Z (aS g1 Z) Z)<|zM Z ?_;refine zc 15 Z (fun g2 => ?_)<|fun g2 => ?_
  ·
   refine zi g2 hr fun hr => yV Z (gd g2 Z) (zA Z Z gm)<|yV Z (gd g2 Z) (zD Z Z Z eR Z Z)<|yV Z (gd g2 Z) (cB Z Z (by kernel_rfl))<|yV Z (gd g2 Z) (ay Z Z Z Z)<|yS Z (cq Z (aS g2 Z) Z)<|zM Z ?_;refine zc 21 Z (fun g3 => ?_)<|fun g3 => ?_
   ·
    refine zi g3 hr fun hr => yV Z (gd g3 Z) (zm Z Z)<|yV Z (gd g3 Z) (cB Z Z (by kernel_rfl))<|yV Z (gd g3 Z) (ay Z Z Z Z)<|yS Z (cq Z (aS g3 Z) Z)<|zM Z<|zN<|zT<|zr ?_;obtain rfl := zJ hr;exact zf (.one (.tmp Z)) zv
   ·
    refine zo g3 hr fun hr => yU Z (gd g3 Z) Z<|yU Z (gd g3 Z) Z<|yU Z (gd g3 Z) Z<|yS Z (bg Z (aS g3 Z) Z)<|zM Z<|zN<|zT<|zr ?_;obtain rfl := zJ hr;exact zf (.one (.tmp Z)) zv
  ·
   refine zo g2 hr fun hr => yU Z (gd g2 Z) Z<|yU Z (gd g2 Z) Z<|yU Z (gd g2 Z) Z<|yU Z (gd g2 Z) Z<|yS Z (bg Z (aS g2 Z) Z)<|zM Z<|yU Z Z Z<|yU Z Z Z<|yU Z Z Z<|yS Z (bg Z Z Z)<|zM Z<|zN<|zT<|zr ?_;obtain rfl := zJ hr;exact zf (.one (.tmp Z)) zv
 ·
  refine zo g1 hr fun hr => yU Z (gd g1 Z) Z<|yU Z (gd g1 Z) Z<|yS Z (bg Z (aS g1 Z) Z)<|zM Z<|yU Z Z Z<|yU Z Z Z<|yU Z Z Z<|yU Z Z Z<|yS Z (bg Z Z Z)<|zM Z<|yU Z Z Z<|yU Z Z Z<|yU Z Z Z<|yS Z (bg Z Z Z)<|zM Z<|zN<|zT<|zr ?_;obtain rfl := zJ hr;exact zf (.one (.tmp Z)) zv
open Go.Proofs
def vV (c : Cf) (l : List Ac) (ticks : Int) : Option Bool :=
 (sn ).bind fun v1 =>
 (qd c ([] : List Int) l).bind fun v2 =>
 (
  bif !v1 then
   some true
  else
   bif !v2 then
    some true
   else
    some (decide (ticks > 10))
 ).bind fun v3 =>
 bif v3 then
  some v1
 else
  (qc c ([] : List Int)).bind fun v4 =>
  (nh v4 l ticks).bind fun v5 =>
  (nh v4 ([] : List Ac) ticks).bind fun v6 =>
  (so v5 v6).bind fun v7 =>
  some v7
theorem F4 {c : Cf} {l : List Ac} {ticks : Int} {r_ : Bool} (hr : vV c l ticks = some r_) : aw Tryz.prog 8 [kz c, .slice 5 (l.map nk), .int .i64 ticks] [.bool r_] := by
 refine zh Tryz.func8 Z Z Z Z ?_;unfold vV at hr;refine zQ<|zR<|yS Z (bT Z Z Z Z Z)<|zM Z<|zN<|zT<|zQ<|zR<|zb hr fun v1 h_v1 hr => yS Z (zC Z Z Z (by kernel_rfl) (zp (F6 h_v1) .nil))<|zM Z<|zN<|zT<|zQ<|zR<|yS Z (zD Z Z Z bY Z Z)<|zM Z<|zb hr fun v2 h_v2 hr => yS Z (zC Z Z Z (by kernel_rfl) (zp (F7 h_v2) (.cons zv (.cons Conv.zs (.cons zv .nil)))))<|zM Z<|zN<|zT<|zQ ?_;obtain ⟨v3, hb_v3, ho_v3⟩ := zB hr;clear hr;refine LW.cut (E := [(1, .p (.slice 5 (l.map nk))), (2, (iQ ticks)), (3, .ptr 0 0), (6, (bQ false)), (7, (bQ v1)), (24, (bQ v3))]) (O := [.box (bN c)]) ?_ ?_
 ·have hr := hb_v3;refine zR<|zM Z<|yS Z (ab.not Z Z)<|zM Z ?_;refine zc 17 Z (fun g1 => ?_)<|fun g1 => ?_
  ·
   refine zi g1 hr fun hr => yU Z (gd g1 Z) Z<|yU Z (gd g1 Z) Z<|yS Z (cq Z (aS g1 Z) Z)<|zM Z<|yU Z Z Z<|yU Z Z Z<|yS Z (cq Z Z Z)<|zN<|zT ?_;obtain rfl := zJ hr;exact zW 1 ⟨Z, Z, Z, Z, Z, Z, trivial⟩ Z Z Z Z
  ·
   refine zo g1 hr fun hr => yV Z (gd g1 Z) (zm Z Z)<|yV Z (gd g1 Z) (ab.not Z Z)<|yS Z (bg Z (aS g1 Z) Z)<|zM Z ?_;refine zc 21 Z (fun g2 => ?_)<|fun g2 => ?_
   ·
    refine zi g2 hr fun hr => yU Z (gd g2 Z) Z<|yU Z (gd g2 Z) Z<|yS Z (cq Z (aS g2 Z) Z)<|zN<|zT ?_;obtain rfl := zJ hr;exact zW 1 ⟨Z, Z, Z, Z, Z, Z, trivial⟩ Z Z Z Z
   ·
    refine zo g2 hr fun hr => yV Z (gd g2 Z) (zm Z Z)<|yV Z (gd g2 Z) (ay Z Z Z Z)<|yS Z (bg Z (aS g2 Z) Z)<|zN<|zT ?_;obtain rfl := zJ hr;exact zW 1 ⟨Z, Z, Z, Z, Z, Z, trivial⟩ Z Z Z Z
 ·have hr := ho_v3;clear hb_v3;refine zX Z (fun g3 => ?_)<|fun g3 => ?_
  ·
   refine zi g3 hr fun hr => zQ<|zR<|zM Z<|zM Z<|zN<|zT<|zr<|af ?_;obtain rfl := zJ hr;exact zf (.one (.tmp Z)) zv
  ·
   refine zo g3 hr fun hr => zk<|zT<|zQ<|zR<|yS Z (zD Z Z Z bY Z Z)<|zb hr fun v4 h_v4 hr => yS Z (zC Z Z Z (by kernel_rfl) (zp (Da h_v4) (.cons zv (.cons Conv.zs .nil))))<|yS Z (ze Z j7 Z Z)<|yS Z (zs Z Z Z Z bS Z Z Z Z)<|zN<|zT<|zQ<|LW.draw2 (by kernel_rfl) (by kernel_rfl)<|yE Z (zD Z Z Z bS Z Z)<|zH Z<|zH Z<|zb hr fun v5 h_v5 hr => yE Z (zC Z Z Z (by kernel_rfl) (zp (Al h_v5) (.cons zv (.cons zv (.cons zv .nil)))))<|yE Z (zD Z Z Z bS Z Z)<|zH Z<|zb hr fun v6 h_v6 hr => yE Z (zC Z Z Z (by kernel_rfl) (zp (Al h_v6) (.cons zv (.cons Conv.zs (.cons zv .nil)))))<|zb hr fun v7 h_v7 hr => ?_;refine yE Z (zC Z Z Z (by kernel_rfl) (zp (F8 h_v7) (.cons zv (.cons zv .nil))))<|zH Z<|LO.nil<|zT<|zQ<|zR<|zM Z<|zM Z<|zN<|zT<|zr ?_;obtain rfl := zJ hr;exact zf (.one (.tmp Z)) zv
theorem lU {α β : Type} {step : α → Option (α ⊕ β)} {n : Nat} {x y : α} (h : step x = some (.inl y)) : iter step (n + 1) x = iter step n y := by
 rw [iter, h]
theorem fu {α β : Type} {step : α → Option (α ⊕ β)} {n : Nat} {x : α} {b : β} (h : step x = some (.inr b)) : iter step (n + 1) x = some b := by
 rw [iter, h]
theorem Fq : bE = 4611686018427387901 + 1 + 1 + 1 := rfl
def tE (a b : ID) : Bool := decide (a.1 < b.1 ∨ a.1 = b.1 ∧ a.2 < b.2)
def iY (x y : Int) : Int := if x < y then -1 else if x > y then 1 else 0
theorem vR (x y : Int) : yB x y = some (iY x y) := by
 have h : ∀ z : Int, wW z = some false := fun z => by unfold wW; rw [show (z != z) = false by simp]
 unfold yB iY;rw [h x, ob, h y, ob, cf, cf];by_cases h1 : x < y
 ·rw [decide_eq_true h1, ct, if_pos h1]
 ·rw [decide_eq_false h1, cf, if_neg h1];by_cases h2 : x > y
  ·rw [decide_eq_true h2, ct, if_pos h2]
  ·rw [decide_eq_false h2, cf, if_neg h2]
theorem sc (a1 a2 b1 b2 : Int) : wR [a1, a2] [b1, b2] = some (if iY a1 b1 ≠ 0 then iY a1 b1 else iY a2 b2) := by
 unfold wR
 have h0 : ∀ i : Int, i = 0 → gJ [a1, a2] [b1, b2] (dB.mk i) = if iY a1 b1 ≠ 0 then some (.inr (.inr (iY a1 b1))) else some (.inl (dB.mk 1)) := by
  rintro i rfl;unfold gJ;simp only;rw [show decide ((0 : Int) < (([a1, a2] : List Int).length : Int)) = true from rfl, ct, show ix [a1, a2] 0 = some a1 from rfl, ob, show decide ((0 : Int) ≥ (([b1, b2] : List Int).length : Int)) = false from rfl, cf, show ix [b1, b2] 0 = some b1 from rfl, ob, vR, ob, show IntKind.i64.wrap (0 + 1) = 1 from eA (by omega) (by omega)];by_cases h : iY a1 b1 = 0
  ·rw [show (iY a1 b1 != 0) = false by simp [h], cf, if_neg (not_not_intro h)]
  ·rw [show (iY a1 b1 != 0) = true by simp [h], ct, if_pos h]
 have h1 : gJ [a1, a2] [b1, b2] (dB.mk 1) = if iY a2 b2 ≠ 0 then some (.inr (.inr (iY a2 b2))) else some (.inl (dB.mk 2)) := by
  unfold gJ;simp only;rw [show decide ((1 : Int) < (([a1, a2] : List Int).length : Int)) = true from rfl, ct, show ix [a1, a2] 1 = some a2 from rfl, ob, show decide ((1 : Int) ≥ (([b1, b2] : List Int).length : Int)) = false from rfl, cf, show ix [b1, b2] 1 = some b2 from rfl, ob, vR, ob, show IntKind.i64.wrap (1 + 1) = 2 from eA (by omega) (by omega)];by_cases h : iY a2 b2 = 0
  ·rw [show (iY a2 b2 != 0) = false by simp [h], cf, if_neg (not_not_intro h)]
  ·rw [show (iY a2 b2 != 0) = true by simp [h], ct, if_pos h]
 have h2 : gJ [a1, a2] [b1, b2] (dB.mk 2) = some (.inr (.inl (dB.mk 2))) := by
  unfold gJ;simp only;rw [show decide ((2 : Int) < (([a1, a2] : List Int).length : Int)) = false from rfl, cf]
 rw [Fq];by_cases c1 : iY a1 b1 = 0
 ·have e1 := h0 0 rfl;rw [if_neg (not_not_intro c1)] at e1;rw [lU e1, if_neg (not_not_intro c1)];by_cases c2 : iY a2 b2 = 0
  ·rw [if_neg (not_not_intro c2)] at h1;rw [lU h1, fu h2, ob, sl, show decide ((([a1, a2] : List Int).length : Int) < (([b1, b2] : List Int).length : Int)) = false from rfl, cf, c2]
  ·rw [if_pos c2] at h1;rw [fu h1, ob, sr]
 ·have e1 := h0 0 rfl;rw [if_pos c1] at e1;rw [fu e1, if_pos c1, ob, sr]
theorem BM (a b : ID) : yg a b = some (tE a b) := by
 unfold yg tE;rw [sc, ob];congr 1;refine decide_eq_decide.2 ?_;unfold iY;by_cases h1 : a.1 < b.1
 ·simp [h1]
 ·by_cases h2 : a.1 > b.1
  ·have : a.1 ≠ b.1 := by omega
   simp [h1, h2, this]
  ·have : a.1 = b.1 := by omega
   by_cases h3 : a.2 < b.2
   ·simp [this, h3]
   ·by_cases h4 : a.2 > b.2 <;> simp [this, h3, h4]
theorem xx (a : ID) : tE a a = false := by unfold tE; exact decide_eq_false (by omega)
def k7 (a b : Rk) : Bool := if a.n = b.n then tE b.id a.id else decide (a.n > b.n)
theorem BN (a b : Rk) : yh a b = some (k7 a b) := by
 unfold yh k7;by_cases h : a.n = b.n
 ·rw [show (a.n != b.n) = false by simp [h], cf, if_pos h, show (a.n == b.n) = true by simp [h], Bool.true_and, CF];by_cases h2 : a.id = b.id
  ·rw [decide_eq_true h2, Bool.not_true, cf, h2, xx]
  ·rw [decide_eq_false h2, Bool.not_false, ct, BM, ob]
 ·rw [show (a.n != b.n) = true by simp [h], ct, if_neg h]
def jj (l : List Bk) (id h : ID) : Bool := decide (id ∈ aZ l h)
def nG (l : List Bk) (v : List Vt) (id : ID) : List Int := (v.filter fun x => jj l id x.Head).map Vt.From
def wD (c : Cf) (l : List Bk) (v : List Vt) (id : ID) : Int := vz c (nG l v id)
theorem fm {α β : Type} [DecidableEq α] {m : List (α × β)} {k q : α} {v : β} : aj (aV m k v) q = if k = q then some v else aj m q := by
 induction m with
 | nil => simp [aV, aj]
 | cons p r ih =>
  obtain ⟨a, b⟩ := p;unfold aV;by_cases h : a = k
  ·rw [if_pos h];subst h;by_cases h2 : a = q
   ·simp [aj, h2]
   ·simp [aj, h2]
  ·rw [if_neg h];simp only [aj];rw [ih];by_cases h2 : a = q
   ·rw [if_pos h2, if_pos h2, if_neg (fun e => h (by rw [h2, e]))]
   ·rw [if_neg h2, if_neg h2]
def uB (l : List Bk) (id : ID) (m : List (ID × Bool)) : Prop := ∀ h b, aj m h = some b → b = jj l id h
theorem BZ {l : List Bk} (hl : l.length ≤ 1000) {x : Vt} {c : Cf} {id : ID} {m : List (ID × Bool)} (hm : uB l id m) : ∃ m', yw x c l id m = some (jj l id x.Head, m') ∧ uB l id m' := by
 unfold yw
 have hu : decide (aR (aZ l x.Head) id ≥ 0) = jj l id x.Head := by
  unfold jj; exact decide_eq_decide.2 ⟨fun h => nw.1 h, fun h => nw.2 h⟩
 cases hf : aj m x.Head with
 | none =>
  refine ⟨aV m x.Head (jj l id x.Head), ?_, ?_⟩
  ·rw [Option.isSome_none, Bool.not_false, ct, EF hl, ct, hu]
  ·intro h b hb;rw [fm] at hb;by_cases e : x.Head = h
   ·rw [if_pos e] at hb; cases hb; rw [e]
   ·rw [if_neg e] at hb; exact hm h b hb
 | some b =>
  refine ⟨m, ?_, hm⟩;rw [Option.isSome_some, Bool.not_true, cf, Option.getD_some, hm _ _ hf]
theorem bw {α : Type} {l : List α} {j : Nat} {y : α} (h : l[j]? = some y) : l.take (j + 1) = l.take j ++ [y] := by rw [List.take_add_one, h]; rfl
theorem xn {l : List Bk} {v : List Vt} {id : ID} {n : Nat} {y : Vt} (hy : v[n]? = some y) : nG l (v.take (n + 1)) id = nG l (v.take n) id ++ bif jj l id y.Head then [y.From] else [] := by
 unfold nG;rw [bw hy, List.filter_append, List.map_append];cases h : jj l id y.Head <;> simp [h]
theorem td (l : List Bk) (v : List Vt) (id : ID) : (nG l v id).length ≤ v.length := by
 unfold nG; rw [List.length_map]; exact List.length_filter_le _ _
theorem B3 {l : List Bk} (hl : l.length ≤ 1000) {v : List Vt} (hv : v.length ≤ 1000) {c : Cf} {id : ID} : ∃ m', yx v c l id [] = some (nG l v id, m') := by
 unfold yx
 have key := df (step := lH v c l id) (fun x => ∃ n : Nat, n ≤ v.length ∧ x.t12 = n ∧ uB l id x.o3 ∧ x.out = nG l (v.take n) id) (fun x => v.length - x.t12.toNat) (fun b => b.out = nG l v id) (by
  rintro ⟨t, m, out⟩ ⟨n, hn, h1, hm, ho⟩;simp only at h1 ho hm;subst h1 ho;by_cases hlt : n < v.length
  ·left;obtain ⟨y, hy, -⟩ := aA hlt;obtain ⟨m', e, hm'⟩ := BZ hl (x := y) (c := c) hm;have hlen := td l (v.take n) id;rw [List.length_take] at hlen;refine ⟨⟨((n + 1 : Nat) : Int), m', nG l (v.take (n + 1)) id⟩, ?_, ⟨n + 1, hlt, rfl, hm', rfl⟩, by simp only; omega⟩;unfold lH;simp only;rw [decide_eq_true (show (n : Int) < (v.length : Int) by omega), ct, aC hy, ob, e, ob, xn hy, ak (n := n) (by omega)]
   cases hu : jj l id y.Head with
   | true => rw [ct, show B4 y = some y.From from rfl, ob, aK (by simp only [List.length_singleton]; omega) (by omega), ct, ct]
   | false => rw [cf, cf, List.append_nil]
  ·right
   obtain rfl : n = v.length := by omega
   refine ⟨⟨(v.length : Int), m, nG l (v.take v.length) id⟩, ?_, by simp only [List.take_length]⟩;unfold lH;simp only
   rw [decide_eq_false (show ¬ (v.length : Int) < (v.length : Int) by omega), cf]) (n := bE) (x := ⟨0, [], []⟩) ⟨0, by omega, rfl, (fun h b hb => by cases hb), by simp [nG]⟩ (ec (by simp only; omega))
 obtain ⟨b, e, hp⟩ := key;exact ⟨b.o3, by rw [e, ob, hp]⟩
theorem vH {l : List Bk} (hl : l.length ≤ 1000) {v : List Vt} (hv : v.length ≤ 1000) (c : Cf) (id : ID) : wN c l v id = some (wD c l v id) := by
 unfold wN;obtain ⟨m', e⟩ := B3 hl hv (c := c) (id := id);have := td l v id;rw [e, ob, yX (by simp only; omega), ob]; rfl
theorem Dw (c : Cf) (l : List Bk) (v : List Vt) (id : ID) : 0 ≤ wD c l v id := by
 unfold wD vz;split
 ·next h => exact (n4 h.okW.2 _).1
 ·omega
def jr (f : ID → Int) : List ID → Rk → Rk
 | [], b => b
 | k :: r, b => jr f r (bif k7 ⟨f k, k⟩ b then ⟨f k, k⟩ else b)
theorem oF (f : ID → Int) (k : ID) : ∀ (a : List ID) (b : Rk), jr f (a ++ [k]) b = bif k7 ⟨f k, k⟩ (jr f a b) then ⟨f k, k⟩ else jr f a b
 | [], _ => rfl
 | _ :: r, _ => oF f k r _
def gg (c : Cf) (l : List Bk) (v : List Vt) (id : ID) : Rk := jr (wD c l v) (cE l id) ⟨-1, (0, 0)⟩
theorem AN (l : List Bk) (id : ID) : (cE l id).length ≤ l.length := by
 unfold cE;split
 ·simp
 ·rw [List.length_map]; exact List.length_filter_le _ _
theorem yZ {l : List Bk} (hl : l.length ≤ 1000) {v : List Vt} (hv : v.length ≤ 1000) (c : Cf) (id : ID) : Ff c l v id = some ((gg c l v id).id, decide ((gg c l v id).n ≥ 0)) := by
 unfold Ff;have hk := AN l id;rw [DP hl, ob]
 have e := az (step := ot c l v (cE l id)) (n := (cE l id).length) (fun n => fC.mk (n : Int) (jr (wD c l v) ((cE l id).take n) ⟨-1, (0, 0)⟩)) (fC.mk ((cE l id).length : Int) (gg c l v id)) (fun n hn => by
  obtain ⟨y, hy, -⟩ := aA hn;unfold ot;simp only;rw [decide_eq_true (show (n : Int) < ((cE l id).length : Int) by omega), ct, aC hy, ob, vH hl hv, ob, BN, ob, ak (n := n) (by omega), bw hy, oF]
  cases k7 ⟨wD c l v y, y⟩ (jr (wD c l v) ((cE l id).take n) ⟨-1, (0, 0)⟩) with
  | true => rw [ct, ct]
  | false => rw [cf, cf]) (by
  unfold ot;simp only
  rw [decide_eq_false (show ¬ ((cE l id).length : Int) < ((cE l id).length : Int) by omega), cf, List.take_length]; rfl) (by omega)
 have e0 : fC.mk ((0 : Nat) : Int) (jr (wD c l v) ((cE l id).take 0) ⟨-1, (0, 0)⟩) = fC.mk 0 (Rk.mk (-1) (0, 0)) := rfl;rw [e0] at e;rw [e, ob]
theorem mB {f : ID → Int} (hf : ∀ k, 0 ≤ f k) : ∀ (a : List ID) (b : Rk), (a = [] ∧ jr f a b = b) ∨ (jr f a b = b ∧ 0 ≤ b.n) ∨ (∃ k ∈ a, jr f a b = ⟨f k, k⟩) ∨ (b.n < -1)
 | [], b => .inl ⟨rfl, rfl⟩
 | k :: r, b => by
  by_cases hb : b.n < -1
  ·exact .inr<|.inr<|.inr hb
  ·unfold jr
   cases h : k7 ⟨f k, k⟩ b with
   | true =>
    rw [ct];rcases mB hf r ⟨f k, k⟩ with ⟨rfl, e⟩ | ⟨e, -⟩ | ⟨k', hk', e⟩ | h4
    ·exact .inr<|.inr<|.inl ⟨k, .head _, e⟩
    ·exact .inr<|.inr<|.inl ⟨k, .head _, e⟩
    ·exact .inr<|.inr<|.inl ⟨k', .tail _ hk', e⟩
    ·have := hf k; simp only at h4; omega
   | false =>
    rw [cf]
    have hb0 : 0 ≤ b.n := by
     unfold k7 at h;simp only at h;have := hf k;by_cases e : f k = b.n
     ·omega
     ·rw [if_neg e] at h;have := of_decide_eq_false h;omega
    rcases mB hf r b with ⟨rfl, e⟩ | h2 | ⟨k', hk', e⟩ | h4
    ·exact .inr<|.inl ⟨e, hb0⟩
    ·exact .inr<|.inl h2
    ·exact .inr<|.inr<|.inl ⟨k', .tail _ hk', e⟩
    ·omega
theorem sM (c : Cf) (l : List Bk) (v : List Vt) (id : ID) : (cE l id = [] ∧ gg c l v id = ⟨-1, (0, 0)⟩) ∨ ∃ k ∈ cE l id, gg c l v id = ⟨wD c l v k, k⟩ := by
 unfold gg;rcases mB (Dw c l v) (cE l id) ⟨-1, (0, 0)⟩ with h | ⟨e, h2⟩ | h3 | h4
 ·exact .inl h
 ·simp only at h2; omega
 ·exact .inr h3
 ·simp only at h4; omega
def tu (c : Cf) (l : List Bk) (v : List Vt) : Nat → ID → ID
 | 0, id => id
 | n + 1, id => if (gg c l v id).n ≥ 0 then tu c l v n (gg c l v id).id else id
def kM (c : Cf) (l : List Bk) (v : List Vt) : ID := tu c l v (l.length + 1) (0, 0)
theorem EL {l : List Bk} {m : List (ID × Int)} (hp : places l = some m) {id k : ID} {i : Int} (hi : aj m id = some i) (hk : k ∈ cE l id) : ∃ j, aj m k = some j ∧ i < j ∧ j < l.length := by
 unfold cE at hk;rw [hp] at hk;obtain ⟨b, hb, rfl⟩ := List.mem_map.1 hk;rw [List.mem_filter] at hb;obtain ⟨n, hn⟩ := List.getElem?_of_mem hb.1;have hI := bJ hp;have hnl := (List.getElem?_eq_some_iff.1 hn).1;have h1 := hI.names n b hnl hn;refine ⟨n, h1, ?_, by omega⟩;rcases hI.known _ _ h1 with ⟨h2, -⟩ | ⟨b', p, h2, h3, h4, h5, h6, h7, h8, h9⟩
 ·omega
 ·rw [Int.toNat_natCast, hn] at h4;cases h4;have hpar : b.Parent = id := of_decide_eq_true hb.2;rw [hpar, hi] at h6;cases h6;exact h7
theorem qA {l : List Bk} (hl : l.length ≤ 1000) {v : List Vt} (hv : v.length ≤ 1000) (c : Cf) {m : List (ID × Int)} (hp : places l = some m) : ∀ (n f : Nat) (id : ID) (i : Int), aj m id = some i → (l.length : Int) - i ≤ n → n < f →
  iter (kU c l v) f ⟨id⟩ = some ⟨tu c l v n id⟩
 | 0, f, id, i, hi, hn, _ => by
  rcases (bJ hp).known _ _ hi with ⟨h, -⟩ | ⟨b, p, h0, h1, -⟩ <;> omega
 | n + 1, f, id, i, hi, hn, hf => by
  obtain ⟨f, rfl⟩ : ∃ g, f = g + 1 := ⟨f - 1, by omega⟩
  have hs : kU c l v ⟨id⟩ = if (gg c l v id).n ≥ 0 then some (.inl ⟨(gg c l v id).id⟩) else some (.inr ⟨id⟩) := by
   unfold kU;simp only;rw [yZ hl hv, ob];by_cases h : (gg c l v id).n ≥ 0
   ·rw [decide_eq_true h, Bool.not_true, cf, if_pos h]
   ·rw [decide_eq_false h, Bool.not_false, ct, if_neg h]
  unfold tu;rcases sM c l v id with ⟨-, e⟩ | ⟨k, hk, e⟩
  ·have : ¬ (gg c l v id).n ≥ 0 := by rw [e]; simp
   rw [if_neg this] at hs ⊢;exact fu hs
  ·have hpos : (gg c l v id).n ≥ 0 := by rw [e]; exact Dw c l v k
   rw [if_pos hpos] at hs ⊢;rw [lU hs, e];obtain ⟨j, hj, h1, h2⟩ := EL hp hi hk;exact qA hl hv c hp n f k j hj (by omega) (by omega)
theorem DS {l : List Bk} (hl : l.length ≤ 1000) {v : List Vt} (hv : v.length ≤ 1000) (c : Cf) : Fg c l v = some (kM c l v) := by
 unfold Fg kM
 cases hp : places l with
 | some m =>
  rw [qA hl hv c hp (l.length + 1) bE (0, 0) (-1) (bJ hp).zero (by omega) (ec (by omega)), ob]
 | none =>
  have hk : cE l (0, 0) = [] := by unfold cE; rw [hp]
  have hb : gg c l v (0, 0) = ⟨-1, (0, 0)⟩ := by unfold gg; rw [hk]; rfl
  have hs : kU c l v ⟨(0, 0)⟩ = some (.inr ⟨(0, 0)⟩) := by
   unfold kU;simp only;rw [yZ hl hv, ob, hb];rfl
  rw [Fq, fu hs, ob];unfold tu;rw [hb, if_neg (by simp)]
def bO {R : Type} (f : Nat → Option R) : Nat → Nat → Option R
 | _, 0 => none
 | k, d + 1 => match f k with
  | some r => some r
  | none => bO f (k + 1) d
theorem fp {R : Type} {f : Nat → Option R} : ∀ {d k : Nat}, bO f k d = none ↔ ∀ j, k ≤ j → j < k + d → f j = none
 | 0, k => ⟨fun _ j h1 h2 => by omega, fun _ => rfl⟩
 | d + 1, k => by
  unfold bO
  cases h : f k with
  | some r => exact ⟨fun h => (by cases h), fun h2 => (by rw [h2 k (Nat.le_refl _) (by omega)] at h; cases h)⟩
  | none =>
   rw [fp (k := k + 1)];refine ⟨fun h2 j h3 h4 => ?_, fun h2 j h3 h4 => h2 j (by omega) (by omega)⟩;by_cases e : j = k
   ·subst e; exact h
   ·exact h2 j (by omega) (by omega)
theorem eu {R : Type} {f : Nat → Option R} {r : R} : ∀ {d k : Nat}, bO f k d = some r → ∃ j, k ≤ j ∧ j < k + d ∧ f j = some r ∧ ∀ i, k ≤ i → i < j → f i = none
 | 0, k, h => by cases h
 | d + 1, k, h => by
  unfold bO at h
  cases hk : f k with
  | some q =>
   rw [hk] at h;cases h;exact ⟨k, Nat.le_refl _, by omega, hk, fun i h1 h2 => by omega⟩
  | none =>
   rw [hk] at h;obtain ⟨j, h1, h2, h3, h4⟩ := eu h;refine ⟨j, by omega, by omega, h3, fun i h5 h6 => ?_⟩;by_cases e : i = k
   ·subst e; exact hk
   ·exact h4 i (by omega) h6
def iH {S R : Type} (s : S) : Option R → S ⊕ R
 | some r => .inr r
 | none => .inl s
theorem dA {S R : Type} {step : S → Option (S ⊕ (S ⊕ R))} {n : Nat} (mk : Nat → S) (f : Nat → Option R) (hs : ∀ j, j < n → step (mk j) = match f j with | some r => some (.inr (.inr r)) | none => some (.inl (mk (j + 1))))
  (he : step (mk n) = some (.inr (.inl (mk n)))) (hn : n < 4000000000000000000) : iter step bE (mk 0) = some (iH (mk n) (bO f 0 n)) := by
 have key : ∀ (d k q : Nat), k + d = n → d < q → iter step q (mk k) = some (iH (mk n) (bO f k d)) := by
  intro d
  induction d with
  | zero =>
   intro k q hk hq;obtain ⟨q, rfl⟩ : ∃ p, q = p + 1 := ⟨q - 1, by omega⟩
   obtain rfl : k = n := by omega
   exact fu he
  | succ d ih =>
   intro k q hk hq;obtain ⟨q, rfl⟩ : ∃ p, q = p + 1 := ⟨q - 1, by omega⟩;have h1 := hs k (by omega);unfold bO
   cases hf : f k with
   | some r =>
    rw [hf] at h1;exact fu h1
   | none =>
    rw [hf] at h1;rw [lU h1];exact ih (k + 1) q (by omega) (by omega)
 exact key n 0 bE (by omega)<|ec hn
def eS {α : Type} [DecidableEq α] (l : List α) (v : α) (j : Nat) : Option Int := if l[j]? = some v then some (j : Int) else none
theorem jR {α : Type} [DecidableEq α] {l : List α} {v : α} : (bO (eS l v) 0 l.length).isSome = decide (v ∈ l) := by
 cases h : bO (eS l v) 0 l.length with
 | none =>
  rw [fp] at h;refine (decide_eq_false fun hm => ?_).symm;obtain ⟨j, hj⟩ := List.getElem?_of_mem hm;have := h j (Nat.zero_le _) (by have := (List.getElem?_eq_some_iff.1 hj).1; omega);unfold eS at this;rw [if_pos hj] at this;cases this
 | some r =>
  obtain ⟨j, -, -, h3, -⟩ := eu h;refine (decide_eq_true ?_).symm;unfold eS at h3;split at h3
  ·rename_i e; exact List.mem_of_getElem? e
  ·cases h3
theorem pd {α : Type} [DecidableEq α] {l : List α} {v : α} {n : Nat} {r : Int} (h : bO (eS l v) 0 n = some r) : 0 ≤ r := by
 obtain ⟨j, -, -, h3, -⟩ := eu h;unfold eS at h3;split at h3
 ·cases h3; omega
 ·cases h3
theorem vP {l : List Bk} (hl : l.length ≤ 100000) (v : Bk) : wT l v = some (decide (v ∈ l)) := by
 have e := dA (step := kq l v) (n := l.length) (fun k => fb.mk (k : Int)) (eS l v) (fun j hj => by
  obtain ⟨y, hy, -⟩ := aA hj;unfold kq eS;simp only;rw [decide_eq_true (show (j : Int) < (l.length : Int) by omega), ct, aC hy, ob, ED, ak (n := j) (by omega), hy];by_cases h : v = y
  ·rw [decide_eq_true h, ct, if_pos (by rw [h])]
  ·rw [decide_eq_false h, cf, if_neg (fun e => h (Option.some.inj e).symm)]) (by
  unfold kq;simp only
  rw [decide_eq_false (show ¬ (l.length : Int) < (l.length : Int) by omega), cf]) (by omega)
 unfold wT B7;rw [← jR];have e' : iter (kq l v) bE (fb.mk 0) = some (iH (fb.mk (l.length : Int)) (bO (eS l v) 0 l.length)) := e;rw [e', ob]
 cases h : bO (eS l v) 0 l.length with
 | none => rw [iH, sl, ob]; rfl
 | some r => rw [iH, sr, ob, decide_eq_true (pd h)]; rfl
theorem vQ {l : List Vt} (hl : l.length ≤ 100000) (v : Vt) : wU l v = some (decide (v ∈ l)) := by
 have e := dA (step := kr l v) (n := l.length) (fun k => fc.mk (k : Int)) (eS l v) (fun j hj => by
  obtain ⟨y, hy, -⟩ := aA hj;unfold kr eS;simp only;rw [decide_eq_true (show (j : Int) < (l.length : Int) by omega), ct, aC hy, ob, GA, ak (n := j) (by omega), hy];by_cases h : v = y
  ·rw [decide_eq_true h, ct, if_pos (by rw [h])]
  ·rw [decide_eq_false h, cf, if_neg (fun e => h (Option.some.inj e).symm)]) (by
  unfold kr;simp only
  rw [decide_eq_false (show ¬ (l.length : Int) < (l.length : Int) by omega), cf]) (by omega)
 unfold wU B8;rw [← jR];have e' : iter (kr l v) bE (fc.mk 0) = some (iH (fc.mk (l.length : Int)) (bO (eS l v) 0 l.length)) := e;rw [e', ob]
 cases h : bO (eS l v) 0 l.length with
 | none => rw [iH, sl, ob]; rfl
 | some r => rw [iH, sr, ob, decide_eq_true (pd h)]; rfl
section
variable {α : Type} [DecidableEq α]
def cA (a : List α) : List α → List α
 | [] => a
 | x :: r => cA (if x ∈ a then a else a ++ [x]) r
theorem lA (x : α) : ∀ (b a : List α), cA a (b ++ [x]) = if x ∈ cA a b then cA a b else cA a b ++ [x]
 | [], _ => rfl
 | _ :: r, _ => lA x r _
theorem m9 (x : α) : ∀ (b a : List α), x ∈ cA a b ↔ x ∈ a ∨ x ∈ b
 | [], a => by simp [cA]
 | y :: r, a => by
  unfold cA;rw [m9 x r];by_cases h : y ∈ a
  ·rw [if_pos h, List.mem_cons];exact ⟨fun h2 => h2.elim .inl (fun h3 => .inr (.inr h3)), fun h2 => h2.elim .inl fun h3 => h3.elim (fun e => .inl (e ▸ h)) .inr⟩
  ·rw [if_neg h, List.mem_append, List.mem_singleton, List.mem_cons, or_assoc]
theorem cQ : ∀ (b a : List α), (cA a b).length ≤ a.length + b.length
 | [], a => by simp [cA]
 | y :: r, a => by
  unfold cA;have := cQ r (if y ∈ a then a else a ++ [y])
  have h2 : (if y ∈ a then a else a ++ [y]).length ≤ a.length + 1 := by split <;> simp
  simp only [List.length_cons]; omega
theorem na : ∀ {b a : List α}, (∀ x ∈ b, x ∈ a) → cA a b = a
 | [], _, _ => rfl
 | y :: r, a, h => by
  unfold cA;rw [if_pos (h y (.head _))];exact na fun x hx => h x<|.tail _ hx
theorem fA : ∀ {b a : List α}, a.Nodup → (cA a b).Nodup
 | [], _, h => h
 | y :: r, a, h => by
  unfold cA;refine fA ?_;split
  ·exact h
  ·rename_i hn;rw [List.nodup_append];exact ⟨h, by simp, fun x hx z hz => by rw [List.mem_singleton] at hz; subst hz; exact fun e => hn (e ▸ hx)⟩
end
theorem BW {a b : List Bk} (h : a.length + b.length ≤ 90000) : yt a b = some (cA a b) := by
 unfold yt;rw [aK (by omega) (by omega), ct]
 have e := az (step := ki b) (n := b.length) (fun k => d7.mk (k : Int) (cA a (b.take k))) (d7.mk (b.length : Int) (cA a b)) (fun k hk => by
  obtain ⟨y, hy, -⟩ := aA hk;have hlen := cQ (b.take k) a;rw [List.length_take] at hlen;unfold ki;simp only;rw [decide_eq_true (show (k : Int) < (b.length : Int) by omega), ct, aC hy, ob, vP (by omega), ob, bw hy, lA, ak (n := k) (by omega)];by_cases hm : y ∈ cA a (b.take k)
  ·rw [decide_eq_true hm, Bool.not_true, cf, if_pos hm]
  ·rw [decide_eq_false hm, Bool.not_false, ct, aK (by simp only [List.length_singleton]; omega) (by omega), ct, if_neg hm]) (by
  unfold ki;simp only
  rw [decide_eq_false (show ¬ (b.length : Int) < (b.length : Int) by omega), cf, List.take_length]) (by omega)
 have e' : iter (ki b) bE (d7.mk 0 a) = some (d7.mk (b.length : Int) (cA a b)) := e;rw [e', ob]
theorem BX {a b : List Vt} (h : a.length + b.length ≤ 90000) : yu a b = some (cA a b) := by
 unfold yu;rw [aK (by omega) (by omega), ct]
 have e := az (step := kj b) (n := b.length) (fun k => d8.mk (k : Int) (cA a (b.take k))) (d8.mk (b.length : Int) (cA a b)) (fun k hk => by
  obtain ⟨y, hy, -⟩ := aA hk;have hlen := cQ (b.take k) a;rw [List.length_take] at hlen;unfold kj;simp only;rw [decide_eq_true (show (k : Int) < (b.length : Int) by omega), ct, aC hy, ob, vQ (by omega), ob, bw hy, lA, ak (n := k) (by omega)];by_cases hm : y ∈ cA a (b.take k)
  ·rw [decide_eq_true hm, Bool.not_true, cf, if_pos hm]
  ·rw [decide_eq_false hm, Bool.not_false, ct, aK (by simp only [List.length_singleton]; omega) (by omega), ct, if_neg hm]) (by
  unfold kj;simp only
  rw [decide_eq_false (show ¬ (b.length : Int) < (b.length : Int) by omega), cf, List.take_length]) (by omega)
 have e' : iter (kj b) bE (d8.mk 0 a) = some (d8.mk (b.length : Int) (cA a b)) := e;rw [e', ob]
def bG (a b : Vw) : Vw := ⟨cA a.B b.B, cA a.V b.V⟩
theorem kX {a b : Vw} (h1 : a.B.length + b.B.length ≤ 90000) (h2 : a.V.length + b.V.length ≤ 90000) : zj a b = some (bG a b) := by
 unfold zj;rw [BW h1, ob, BX h2, ob]; rfl
section
variable {α : Type} [DecidableEq α]
def fE (a b : List α) (j : Nat) : Option Bool := if a[j]? = b[j]? then none else some false
theorem lM {a b : List α} (hl : a.length = b.length) : (match bO (fE a b) 0 a.length with | some r => r | none => true) = decide (a = b) := by
 cases h : bO (fE a b) 0 a.length with
 | none =>
  rw [fp] at h;refine (decide_eq_true ?_).symm;apply List.ext_getElem?;intro j;by_cases hj : j < a.length
  ·have := h j (Nat.zero_le _) (by omega);unfold fE at this;split at this
   ·assumption
   ·cases this
  ·rw [List.getElem?_eq_none (by omega), List.getElem?_eq_none (by omega)]
 | some r =>
  obtain ⟨j, -, -, h3, -⟩ := eu h;unfold fE at h3;split at h3
  ·cases h3
  ·rename_i hne;cases h3;exact (decide_eq_false fun e => hne (by rw [e])).symm
end
theorem BO {a b : List Bk} (h : a.length ≤ 100000) : yi a b = some (decide (a = b)) := by
 unfold yi;by_cases hl : a.length = b.length
 ·rw [show ((a.length : Int) != (b.length : Int)) = false by simp [hl], cf]
  have e := dA (step := kb a b) (n := a.length) (fun k => e8.mk (k : Int)) (fE a b) (fun j hj => by
   obtain ⟨y, hy, -⟩ := aA hj;obtain ⟨z, hz, -⟩ := aA (l := b) (n := j) (by omega);unfold kb fE;simp only;rw [decide_eq_true (show (j : Int) < (a.length : Int) by omega), ct, aC hy, ob, aC hz, ob, ED, ak (n := j) (by omega), hy, hz];by_cases e : y = z
   ·rw [decide_eq_true e, Bool.not_true, cf, if_pos (by rw [e])]
   ·rw [decide_eq_false e, Bool.not_false, ct, if_neg (fun q => e (Option.some.inj q))]) (by
   unfold kb;simp only
   rw [decide_eq_false (show ¬ (a.length : Int) < (a.length : Int) by omega), cf]) (by omega)
  have e' : iter (kb a b) bE (e8.mk 0) = some (iH (e8.mk (a.length : Int)) (bO (fE a b) 0 a.length)) := e;rw [e', ob, ← lM hl]
  cases bO (fE a b) 0 a.length with
  | none => rw [iH, sl]
  | some r => rw [iH, sr]
 ·rw [show ((a.length : Int) != (b.length : Int)) = true by rw [bne_iff_ne]; omega, ct, decide_eq_false fun e => hl (by rw [e])]
theorem BP {a b : List Vt} (h : a.length ≤ 100000) : yj a b = some (decide (a = b)) := by
 unfold yj;by_cases hl : a.length = b.length
 ·rw [show ((a.length : Int) != (b.length : Int)) = false by simp [hl], cf]
  have e := dA (step := kc a b) (n := a.length) (fun k => fa.mk (k : Int)) (fE a b) (fun j hj => by
   obtain ⟨y, hy, -⟩ := aA hj;obtain ⟨z, hz, -⟩ := aA (l := b) (n := j) (by omega);unfold kc fE;simp only;rw [decide_eq_true (show (j : Int) < (a.length : Int) by omega), ct, aC hy, ob, aC hz, ob, GA, ak (n := j) (by omega), hy, hz];by_cases e : y = z
   ·rw [decide_eq_true e, Bool.not_true, cf, if_pos (by rw [e])]
   ·rw [decide_eq_false e, Bool.not_false, ct, if_neg (fun q => e (Option.some.inj q))]) (by
   unfold kc;simp only
   rw [decide_eq_false (show ¬ (a.length : Int) < (a.length : Int) by omega), cf]) (by omega)
  have e' : iter (kc a b) bE (fa.mk 0) = some (iH (fa.mk (a.length : Int)) (bO (fE a b) 0 a.length)) := e;rw [e', ob, ← lM hl]
  cases bO (fE a b) 0 a.length with
  | none => rw [iH, sl]
  | some r => rw [iH, sr]
 ·rw [show ((a.length : Int) != (b.length : Int)) = true by rw [bne_iff_ne]; omega, ct, decide_eq_false fun e => hl (by rw [e])]
theorem ux {a b : Vw} (h1 : a.B.length ≤ 100000) (h2 : a.V.length ≤ 100000) : DT a b = some (decide (a.B = b.B ∧ a.V = b.V)) := by
 unfold DT;rw [BO h1, ob, BP h2, ob];by_cases h : a.B = b.B
 ·rw [decide_eq_true h, ct]; congr 1; exact decide_eq_decide.2 ⟨fun h3 => ⟨h, h3⟩, fun h3 => h3.2⟩
 ·rw [decide_eq_false h, cf, decide_eq_false fun h3 => h h3.1]
def mayB (c : Cf) (b : Bk) : Bool := decide (0 ≤ pW c b.Slot ∧ pW c b.Slot = b.From ∧ nm b ≠ (0, 0))
def mayV (c : Cf) (v : Vt) : Bool := decide (v.From ∈ oL c v.Slot)
theorem DU (c : Cf) (b : Bk) : Fh c b = some (mayB c b) := by
 unfold Fh mayB;rw [q6, ob];by_cases h1 : pW c b.Slot ≥ 0
 ·rw [decide_eq_true h1, ct];by_cases h2 : pW c b.Slot = b.From
  ·rw [show (pW c b.Slot == b.From) = true by simp [h2], ct, Gz];by_cases h3 : nm b = (0, 0)
   ·rw [decide_eq_true h3, Bool.not_true, decide_eq_false fun h => h.2.2 h3]
   ·rw [decide_eq_false h3, Bool.not_false, decide_eq_true ⟨h1, h2, h3⟩]
  ·rw [show (pW c b.Slot == b.From) = false by simp [h2], cf, decide_eq_false fun h => h2 h.2.1]
 ·rw [decide_eq_false h1, cf, decide_eq_false fun h => h1 h.1]
theorem DV (c : Cf) (v : Vt) : Fi c v = some (mayV c v) := by
 unfold Fi mayV;rw [yY, ob]
theorem bI {α : Type} {p : α → Bool} {l : List α} {n : Nat} {y : α} (hy : l[n]? = some y) : (l.take (n + 1)).filter p = (l.take n).filter p ++ bif p y then [y] else [] := by
 rw [bw hy, List.filter_append];cases h : p y <;> simp [h]
theorem dc {α : Type} {p : α → Bool} {l : List α} (n : Nat) : ((l.take n).filter p).length ≤ n :=
 Nat.le_trans (List.length_filter_le _ _) (by rw [List.length_take]; omega)
theorem vI {c : Cf} {l : List Bk} (hl : l.length ≤ 100000) : wO c l = some (l.filter (mayB c)) := by
 unfold wO
 have e := az (step := j9 c l) (n := l.length) (fun k => d5.mk (k : Int) ((l.take k).filter (mayB c))) (d5.mk (l.length : Int) (l.filter (mayB c))) (fun k hk => by
  obtain ⟨y, hy, -⟩ := aA hk;have hlen := dc (p := mayB c) (l := l) k;unfold j9;simp only;rw [decide_eq_true (show (k : Int) < (l.length : Int) by omega), ct, aC hy, ob, DU, ob, bI hy, ak (n := k) (by omega)]
  cases mayB c y with
  | true => rw [ct, aK (by simp only [List.length_singleton]; omega) (by omega), ct, ct]
  | false => rw [cf, cf, List.append_nil]) (by
  unfold j9;simp only
  rw [decide_eq_false (show ¬ (l.length : Int) < (l.length : Int) by omega), cf, List.take_length]) (by omega)
 have e' : iter (j9 c l) bE (d5.mk 0 []) = some (d5.mk (l.length : Int) (l.filter (mayB c))) := e;rw [e', ob]
theorem vJ {c : Cf} {l : List Vt} (hl : l.length ≤ 100000) : wP c l = some (l.filter (mayV c)) := by
 unfold wP
 have e := az (step := ka c l) (n := l.length) (fun k => d6.mk (k : Int) ((l.take k).filter (mayV c))) (d6.mk (l.length : Int) (l.filter (mayV c))) (fun k hk => by
  obtain ⟨y, hy, -⟩ := aA hk;have hlen := dc (p := mayV c) (l := l) k;unfold ka;simp only;rw [decide_eq_true (show (k : Int) < (l.length : Int) by omega), ct, aC hy, ob, DV, ob, bI hy, ak (n := k) (by omega)]
  cases mayV c y with
  | true => rw [ct, aK (by simp only [List.length_singleton]; omega) (by omega), ct, ct]
  | false => rw [cf, cf, List.append_nil]) (by
  unfold ka;simp only
  rw [decide_eq_false (show ¬ (l.length : Int) < (l.length : Int) by omega), cf, List.take_length]) (by omega)
 have e' : iter (ka c l) bE (d6.mk 0 []) = some (d6.mk (l.length : Int) (l.filter (mayV c))) := e;rw [e', ob]
def aT (c : Cf) (w : Vw) : Vw := ⟨w.B.filter (mayB c), w.V.filter (mayV c)⟩
theorem y9 {c : Cf} {w : Vw} (h1 : w.B.length ≤ 100000) (h2 : w.V.length ≤ 100000) : E2 c w = some (aT c w) := by
 unfold E2;rw [vI h1, ob, vJ h2, ob]; rfl
theorem Ca {c : Cf} {w : Vw} (h1 : w.B.length ≤ 100000) (h2 : w.V.length ≤ 100000) : y0 c w = some ((aT c w).B, (aT c w).V) := by
 unfold y0;rw [vI h1, ob, vJ h2, ob]; rfl
open Go.Proofs
def xB (l : List Bk) (n : Nat) : Prop := ∃ y p, l[n]? = some y ∧ aj (nU l n) y.Parent = some p ∧ ¬ y.Slot ≤ bV l p ∧ aj (nU l n) (nm y) = none
theorem AI {l : List Bk} : ∀ (r n : Nat), l.length - n = r → n ≤ l.length → ((dZ l (l.drop n) n (nU l n)).isSome = true ↔ ∀ i, n ≤ i → i < l.length → xB l i)
 | 0, n, hr, hn => by
  have : n = l.length := by omega
  subst this;rw [List.drop_length];exact ⟨fun _ i h1 h2 => by omega, fun _ => rfl⟩
 | r + 1, n, hr, hn => by
  obtain ⟨y, hy, -⟩ := aA (l := l) (n := n) (by omega);have ih := AI (l := l) r (n + 1) (by omega) (by omega)
  have e : nU l (n + 1) = nU l n ++ [(nm y, (n : Int))] := by simp only [nU, hy]
  rw [e] at ih;rw [ey hy];constructor
  ·intro h i h1 h2
   cases hp : aj (nU l n) y.Parent with
   | none => rw [hp] at h; cases h
   | some p =>
    rw [hp] at h;simp only at h;by_cases hs : y.Slot ≤ bV l p
    ·rw [if_pos hs] at h; cases h
    ·rw [if_neg hs] at h
     cases hq : aj (nU l n) (nm y) with
     | some q => rw [hq] at h; cases h
     | none =>
      rw [hq] at h;by_cases hin : i = n
      ·subst hin; exact ⟨y, p, hy, hp, hs, hq⟩
      ·exact ih.1 h i (by omega) h2
  ·intro h;obtain ⟨y', p, hy', hp, hs, hq⟩ := h n (Nat.le_refl _) (by omega);rw [hy] at hy'; cases hy';rw [hp]; simp only;rw [if_neg hs, hq];exact ih.2 fun i h1 h2 => h i (by omega) h2
theorem rx {l : List Bk} : (places l).isSome = true ↔ ∀ i, i < l.length → xB l i := by
 have := AI (l := l) l.length 0 (by omega) (Nat.zero_le _);rw [show (places l) = dZ l (l.drop 0) 0 (nU l 0) from rfl, this];exact ⟨fun h i hi => h i (Nat.zero_le _) hi, fun h i _ hi => h i hi⟩
theorem ln {l m : List Bk} : ∀ n, (∀ i, i < n → l[i]? = m[i]?) → nU l n = nU m n
 | 0, _ => rfl
 | n + 1, h => by
  simp only [nU, h n (by omega), ln n fun i hi => h i (by omega)]
theorem ny {l m : List Bk} {n : Nat} (h : ∀ i, i ≤ n → l[i]? = m[i]?) (ho : xB l n) (hn : n < l.length) : xB m n := by
 obtain ⟨y, p, h1, h2, h3, h4⟩ := ho;have e := ln n fun i hi => h i (by omega);refine ⟨y, p, by rw [← h n (Nat.le_refl _)]; exact h1, by rw [← e]; exact h2, ?_, by rw [← e]; exact h4⟩
 have hp : p = -1 ∨ 0 ≤ p ∧ p < n := by
  rw [tH _ n (by omega)] at h2;split at h2
  ·cases h2; exact .inl rfl
  ·split at h2
   ·rename_i hi;obtain ⟨j, b, g1, g2, -⟩ := AO hi;cases h2;exact .inr ⟨by omega, by omega⟩
   ·cases h2
 rcases hp with rfl | ⟨h5, h6⟩
 ·simpa [bV] using h3
 ·have : bV m p = bV l p := by
   simp only [bV, h p.toNat (by omega)]
  rw [this]; exact h3
theorem tJ {l : List Bk} {k : Nat} (h : (places l).isSome = true) (hk : k ≤ l.length) : (places (l.take k)).isSome = true := by
 rw [rx] at h ⊢;intro i hi;simp only [List.length_take] at hi;refine ny (fun j hj => ?_) (h i (by omega)) (by omega);rw [List.getElem?_take_of_lt (by omega)]
def wi (l : List Bk) (b : Bk) : Bool := (gR l b.Parent).2 && decide (b.Slot > (gR l b.Parent).1) && !decide (nm b = (0, 0)) && decide (mE l (nm b) < 0)
theorem AR {l : List Bk} {m : List (ID × Int)} {b : Bk} (h : places l = some m) : (places (l ++ [b])).isSome = wi l b := by
 have hl : ∀ i, i < l.length → xB l i := rx.1 (by rw [h]; rfl)
 have hpre : ∀ i, i < l.length → l[i]? = (l ++ [b])[i]? := fun i hi => by rw [List.getElem?_append_left hi]
 have hm : nU (l ++ [b]) l.length = m := by rw [← ln l.length hpre, ← xH h]
 have hb : (l ++ [b])[l.length]? = some b := by simp
 have hslot : ∀ p i, aj m p = some i → bV (l ++ [b]) i = bV l i := by
  intro p i hf;rcases tC h hf with ⟨rfl, -⟩ | ⟨c, h0, h1, h2, -⟩
  ·rfl
  ·have : ¬ i = -1 := by omega
   simp only [bV, if_neg this, ← hpre i.toNat (by omega)]
 have key : (places (l ++ [b])).isSome = true ↔ xB (l ++ [b]) l.length := by
  rw [rx];constructor
  ·intro h1; exact h1 l.length (by simp)
  ·intro h1 i hi;simp only [List.length_append, List.length_singleton] at hi;by_cases e : i = l.length
   ·subst e; exact h1
   ·exact ny (fun j hj => hpre j (by omega)) (hl i (by omega)) (by omega)
 rw [Bool.eq_iff_iff, key];constructor
 ·rintro ⟨y, p, h1, h2, h3, h4⟩;rw [hb] at h1; cases h1;rw [hm] at h2 h4;rw [hslot _ _ h2] at h3
  have hz : ¬ nm b = (0, 0) := fun e => by rw [e, (bJ h).zero] at h4; cases h4
  have g1 : gR l b.Parent = (bV l p, true) := by simp only [gR, h, h2]
  have g2 : mE l (nm b) = -1 := by simp only [mE, h, h4]; rfl
  unfold wi;rw [g1, g2, decide_eq_true (show b.Slot > bV l p by omega), decide_eq_false hz]; rfl
 ·intro hf;unfold wi at hf;simp only [Bool.and_eq_true, Bool.not_eq_true', decide_eq_true_eq, decide_eq_false_iff_not] at hf;obtain ⟨⟨⟨h1, h2⟩, h3⟩, h4⟩ := hf
  cases hp : aj m b.Parent with
  | none => simp only [gR, h, hp] at h1; cases h1
  | some p =>
   simp only [gR, h, hp] at h2;refine ⟨b, p, hb, by rw [hm]; exact hp, by rw [hslot _ _ hp]; omega, ?_⟩;rw [hm];rcases Option.eq_none_or_eq_some (aj m (nm b)) with h5 | ⟨i, h5⟩
   ·exact h5
   ·exfalso;simp only [mE, h, h5, Option.getD_some] at h4;rcases tC h h5 with ⟨-, e⟩ | ⟨c, h0, -⟩
    ·exact h3 e
    ·omega
def bA (B : List Bk) (id : ID) : Option Int := if id = (0, 0) then some 0 else (B.find? fun b => decide (nm b = id)).map Bk.Slot
theorem px (B : List Bk) (b : Bk) (id : ID) : bA (B ++ [b]) id = (bA B id).or (if nm b = id then some b.Slot else none) := by
 unfold bA;by_cases h : id = (0, 0)
 ·rw [if_pos h, if_pos h]; rfl
 ·rw [if_neg h, if_neg h, List.find?_append]
  cases B.find? fun b => decide (nm b = id) with
  | some x => rfl
  | none =>
   by_cases h2 : nm b = id
   ·simp [h2]
   ·simp [h2]
theorem jf {B : List Bk} {id : ID} {s : Int} (h : bA B id = some s) (t : List Bk) : bA (B ++ t) id = some s := by
 unfold bA at h ⊢;by_cases h0 : id = (0, 0)
 ·rw [if_pos h0] at h ⊢; exact h
 ·rw [if_neg h0] at h ⊢;rw [List.find?_append]
  cases hf : B.find? fun b => decide (nm b = id) with
  | some x => rw [hf] at h; exact h
  | none => rw [hf] at h; cases h
theorem vi {B : List Bk} {b : Bk} (h : b ∈ B) : ∃ s, bA B (nm b) = some s := by
 unfold bA;by_cases h0 : nm b = (0, 0)
 ·rw [if_pos h0]; exact ⟨_, rfl⟩
 ·rw [if_neg h0]
  cases hf : B.find? fun q => decide (nm q = nm b) with
  | some x => exact ⟨_, rfl⟩
  | none =>
   rw [List.find?_eq_none] at hf;have := hf b h;simp at this
def dx (B : List Bk) : Prop := (places B).isSome = true
theorem xX : dx [] := rfl
theorem mi {l : List Bk} {m : List (ID × Int)} (h : places l = some m) (id : ID) : bA l id = (aj m id).map (bV l) := by
 have hI := bJ h;unfold bA;by_cases h0 : id = (0, 0)
 ·rw [if_pos h0, h0, hI.zero]; simp [bV]
 ·rw [if_neg h0]
  cases hf : aj m id with
  | none =>
   cases hq : l.find? fun b => decide (nm b = id) with
   | none => rfl
   | some b =>
    exfalso;have hb := List.mem_of_find?_eq_some hq
    have hn : nm b = id := by simpa using List.find?_some hq
    obtain ⟨i, hi⟩ := List.getElem?_of_mem hb;have := hI.names i b (List.getElem?_eq_some_iff.1 hi).1 hi;rw [hn, hf] at this; cases this
  | some i =>
   rcases hI.known _ _ hf with ⟨-, h1⟩ | ⟨b, p, h1, h2, h3, h4, -⟩
   ·exact absurd h1 h0
   ·cases hq : l.find? fun b => decide (nm b = id) with
    | none =>
     rw [List.find?_eq_none] at hq;have := hq b (List.mem_of_getElem? h3);simp [h4] at this
    | some b' =>
     have hb := List.mem_of_find?_eq_some hq
     have hn : nm b' = id := by simpa using List.find?_some hq
     obtain ⟨j, hj⟩ := List.getElem?_of_mem hb;have := hI.names j b' (List.getElem?_eq_some_iff.1 hj).1 hj;rw [hn, hf] at this;cases this;simp [bV, hj, show ¬ (j : Int) = -1 by omega]
theorem xQ {l : List Bk} {m : List (ID × Int)} (h : places l = some m) (id : ID) : gR l id = match bA l id with | some s => (s, true) | none => (0, false) := by
 rw [mi h];unfold gR;rw [h];simp only;cases aj m id <;> rfl
theorem Ax {l : List Bk} {m : List (ID × Int)} (h : places l = some m) (id : ID) : (¬ id = (0, 0) ∧ mE l id < 0) ↔ bA l id = none := by
 rw [mi h];unfold mE;rw [h];simp only
 cases hf : aj m id with
 | none =>
  refine ⟨fun _ => rfl, fun _ => ⟨fun e => ?_, by simp⟩⟩;rw [e, (bJ h).zero] at hf; cases hf
 | some i =>
  refine ⟨fun h1 => ?_, fun h1 => by cases h1⟩;rcases (bJ h).known _ _ hf with ⟨-, h2⟩ | ⟨_, _, h2, -⟩
  ·exact absurd h2 h1.1
  ·have := h1.2; simp at this; omega
theorem pO {B : List Bk} {b : Bk} : dx (B ++ [b]) ↔ dx B ∧ (∃ s, bA B b.Parent = some s ∧ s < b.Slot) ∧ bA B (nm b) = none := by
 have key : ∀ {m}, places B = some m → (dx (B ++ [b]) ↔ (∃ s, bA B b.Parent = some s ∧ s < b.Slot) ∧ bA B (nm b) = none) := by
  intro m hm;unfold dx;rw [AR hm, ← Ax hm];unfold wi;rw [xQ hm]
  cases bA B b.Parent with
  | none => simp
  | some s => simp [and_assoc]
 cases hm : places B with
 | some m =>
  rw [key hm];exact ⟨fun h => ⟨by unfold dx; rw [hm]; rfl, h⟩, fun h => h.2⟩
 | none =>
  have hno : ¬ dx B := by unfold dx; rw [hm]; simp
  refine ⟨fun h => absurd ?_ hno, fun h => absurd h.1 hno⟩;have := tJ (k := B.length) h (by simp)
  rwa [List.take_left' rfl] at this
theorem vq {B : List Bk} (h : dx B) (k : Nat) : dx (B.take k) := by
 by_cases hk : k ≤ B.length
 ·exact tJ h hk
 ·rw [List.take_of_length_le (by omega)]; exact h
def ub : List Bk → List (ID × Int) → List (ID × Int)
 | [], m => m
 | b :: r, m => ub r (aV m (nm b) b.Slot)
def lr (B : List Bk) : List (ID × Int) := ub B [((0, 0), 0)]
def tv : List Vt → List (Vt × Bool) → List (Vt × Bool)
 | [], m => m
 | v :: r, m => tv r (aV m v true)
def jx (V : List Vt) : List (Vt × Bool) := tv V []
theorem qP (b : Bk) : ∀ (B : List Bk) (m), ub (B ++ [b]) m = aV (ub B m) (nm b) b.Slot
 | [], _ => rfl
 | _ :: r, _ => qP b r _
theorem qB (v : Vt) : ∀ (V : List Vt) (m), tv (V ++ [v]) m = aV (tv V m) v true
 | [], _ => rfl
 | _ :: r, _ => qB v r _
theorem qR (B : List Bk) (b : Bk) : lr (B ++ [b]) = aV (lr B) (nm b) b.Slot := qP b B _
theorem qD (V : List Vt) (v : Vt) : jx (V ++ [v]) = aV (jx V) v true := qB v V _
theorem mh {α β : Type} [DecidableEq α] (m : List (α × β)) (k : α) (v : β) : (aV m k v).length = if (aj m k).isSome then m.length else m.length + 1 := by
 induction m with
 | nil => simp [aV, aj]
 | cons p r ih =>
  obtain ⟨a, b⟩ := p;by_cases h : a = k
  ·simp [aV, aj, h]
  ·cases hf : aj r k <;> simp [aV, aj, h, hf] at ih ⊢ <;> exact ih
theorem A9 (B : List Bk) : (lr B).length ≤ B.length + 1 := by
 unfold lr
 have : ∀ (B : List Bk) (m : List (ID × Int)), (ub B m).length ≤ B.length + m.length := by
  intro B
  induction B with
  | nil => intro m; simp [ub]
  | cons b r ih =>
   intro m;have h1 := ih (aV m (nm b) b.Slot);have h2 := mh m (nm b) b.Slot;unfold ub;simp only [List.length_cons];split at h2 <;> omega
 have := this B [((0, 0), 0)];simpa using this
theorem qQ {B : List Bk} (h : dx B) : ∀ id, aj (lr B) id = bA B id := by
 have key : ∀ k, k ≤ B.length → ∀ id, aj (lr (B.take k)) id = bA (B.take k) id := by
  intro k
  induction k with
  | zero =>
   intro _ id;simp only [List.take_zero];unfold lr ub bA aj aj;by_cases e : id = (0, 0)
   ·simp [e]
   ·simp [e, Ne.symm e]
  | succ k ih =>
   intro hk id;obtain ⟨b, hb, -⟩ := aA (l := B) (n := k) (by omega);have hv := vq h (k + 1);rw [bw hb] at hv ⊢;rw [pO] at hv;rw [qR, fm, px, ih (by omega)];by_cases e : nm b = id
   ·rw [if_pos e, if_pos e, ← e, hv.2.2]; rfl
   ·rw [if_neg e, if_neg e]; cases bA (B.take k) id <;> rfl
 have := key B.length (Nat.le_refl _)
 rwa [List.take_length] at this
theorem qC (V : List Vt) (v : Vt) : aj (jx V) v = if v ∈ V then some true else none := by
 have : ∀ (V : List Vt) (m : List (Vt × Bool)), aj (tv V m) v = if v ∈ V then some true else aj m v := by
  intro V
  induction V with
  | nil => intro m; simp [tv]
  | cons x r ih =>
   intro m;unfold tv;rw [ih, fm];by_cases h : v ∈ r
   ·simp [h]
   ·by_cases h2 : x = v
    ·simp [h2]
    ·simp [h, h2, Ne.symm h2]
 rw [jx, this]; rfl
theorem tw (V : List Vt) : (jx V).length ≤ V.length ∧ ((jx V).length = V.length ↔ V.Nodup) := by
 have key : ∀ k, k ≤ V.length → (jx (V.take k)).length ≤ k ∧ ((jx (V.take k)).length = k ↔ (V.take k).Nodup) := by
  intro k
  induction k with
  | zero => intro _; simp [jx, tv]
  | succ k ih =>
   intro hk;obtain ⟨v, hv, -⟩ := aA (l := V) (n := k) (by omega);obtain ⟨h1, h2⟩ := ih (by omega);rw [bw hv, qD, mh, qC, List.nodup_append];by_cases hm : v ∈ V.take k
   ·rw [if_pos hm];refine ⟨by simp; omega, ⟨fun e => by simp at e; omega, fun h => absurd Z (h.2.2 v hm v (by simp))⟩⟩
   ·rw [if_neg hm];refine ⟨by simp; omega, ⟨fun e => ⟨h2.1 (by simp at e; omega), by simp, fun a ha b hb => by rw [List.mem_singleton] at hb; subst hb; exact fun q => hm (q ▸ ha)⟩, fun h => ?_⟩⟩;have := h2.2 h.1;simp; omega
 have := key V.length (Nat.le_refl _)
 rwa [List.take_length] at this
theorem vK {w : Vw} {u : Int} (h1 : w.B.length ≤ 90000) (h2 : w.V.length ≤ 90000) : wQ w u = some (lr w.B, jx w.V) := by
 unfold wQ;rw [aK (by omega) (by omega), ct, aK (by omega) (by omega), ct]
 have e1 := az (step := kd w) (n := w.B.length) (fun k => eD.mk (k : Int) (lr (w.B.take k))) (eD.mk (w.B.length : Int) (lr w.B)) (fun k hk => by
  obtain ⟨y, hy, -⟩ := aA hk;unfold kd;simp only
  rw [decide_eq_true (show (k : Int) < (w.B.length : Int) by omega), ct, aC hy, ob, bw hy, qR, ak (n := k) (by omega)]) (by
  unfold kd;simp only
  rw [decide_eq_false (show ¬ (w.B.length : Int) < (w.B.length : Int) by omega), cf, List.take_length]) (by omega)
 have e1' : iter (kd w) bE (eD.mk 0 (aV [] (0, 0) 0)) = some (eD.mk (w.B.length : Int) (lr w.B)) := e1
 have e2 := az (step := ke w) (n := w.V.length) (fun k => eE.mk (k : Int) (jx (w.V.take k))) (eE.mk (w.V.length : Int) (jx w.V)) (fun k hk => by
  obtain ⟨y, hy, -⟩ := aA hk;unfold ke;simp only
  rw [decide_eq_true (show (k : Int) < (w.V.length : Int) by omega), ct, aC hy, ob, bw hy, qD, ak (n := k) (by omega)]) (by
  unfold ke;simp only
  rw [decide_eq_false (show ¬ (w.V.length : Int) < (w.V.length : Int) by omega), cf, List.take_length]) (by omega)
 have e2' : iter (ke w) bE (eE.mk 0 []) = some (eE.mk (w.V.length : Int) (jx w.V)) := e2;rw [e1', ob, e2', ob]
def forB (B : List Bk) (v : Vt) : Prop := ∃ s, bA B v.Head = some s ∧ s ≤ v.Slot
def sK (sm : List (ID × Int)) (v : Vt) : Bool := match aj sm v.Head with
 | none => true
 | some s => decide (s > v.Slot)
theorem BQ (v : Vt) (sm : List (ID × Int)) : yl v sm = some (sK sm v) := by
 unfold yl sK
 cases aj sm v.Head with
 | none => rfl
 | some s => rfl
def qq (sm : List (ID × Int)) (l : List Vt) (j : Nat) : Option Int := match l[j]? with
 | some v => if sK sm v = true then some (j : Int) else none
 | none => none
theorem BR {l : List Vt} (hl : l.length ≤ 90000) (sm : List (ID × Int)) : ym l sm = some (l.any (sK sm)) := by
 have e := dA (step := ic l sm) (n := l.length) (fun k => dO.mk (k : Int)) (qq sm l) (fun j hj => by
  obtain ⟨y, hy, -⟩ := aA hj;unfold ic qq;simp only;rw [decide_eq_true (show (j : Int) < (l.length : Int) by omega), ct, aC hy, ob, BQ, ob, ak (n := j) (by omega), hy];simp only
  cases sK sm y with
  | true => rw [ct, if_pos rfl]
  | false => rw [cf, if_neg (by simp)]) (by
  unfold ic;simp only
  rw [decide_eq_false (show ¬ (l.length : Int) < (l.length : Int) by omega), cf]) (by omega)
 unfold ym vN;have e' : iter (ic l sm) bE (dO.mk 0) = some (iH (dO.mk (l.length : Int)) (bO (qq sm l) 0 l.length)) := e;rw [e', ob]
 cases h : bO (qq sm l) 0 l.length with
 | none =>
  rw [iH, sl, ob];rw [fp] at h;congr 1;rw [show decide ((-1 : Int) ≥ 0) = false from rfl];symm;rw [List.any_eq_false];intro v hv;obtain ⟨j, hj⟩ := List.getElem?_of_mem hv;have := h j (Nat.zero_le _) (by have := (List.getElem?_eq_some_iff.1 hj).1; omega);unfold qq at this;rw [hj] at this;simp only at this;intro hb;rw [if_pos hb] at this; cases this
 | some r =>
  obtain ⟨j, -, -, h3, -⟩ := eu h;unfold qq at h3;split at h3
  ·rename_i v hv;split at h3
   ·rename_i hb;cases h3;rw [iH, sr, ob, decide_eq_true (show (j : Int) ≥ 0 by omega)];congr 1;symm;rw [List.any_eq_true];exact ⟨v, List.mem_of_getElem? hv, hb⟩
   ·cases h3
  ·cases h3
structure gb (c : Cf) (w : Vw) : Prop where
 conf : dj c
 valid : dx w.B
 lenB : w.B.length ≤ 60
 lenV : w.V.length ≤ 240
 mayB : ∀ b ∈ w.B, mayB c b = true
 mayV : ∀ v ∈ w.V, mayV c v = true
 nodup : w.V.Nodup
 forB : ∀ v ∈ w.V, forB w.B v
open Classical in
theorem DW {c : Cf} {w : Vw} (h1 : w.B.length ≤ 1000) (h2 : w.V.length ≤ 1000) : Fk c w = some (decide (gb c w)) := by
 have hno : ∀ h : ¬ gb c w, decide (gb c w) = false := fun h => decide_eq_false h;unfold Fk;rw [kS, ob];by_cases c1 : dj c
 ·rw [decide_eq_true c1, Bool.not_true, cf, yW, ob];by_cases c2 : dx w.B
  ·rw [show (places w.B).isSome = true from c2, Bool.not_true, cf];by_cases c3 : w.B.length ≤ 60
   ·rw [decide_eq_false (show ¬ (w.B.length : Int) > 60 by omega), cf, ob];by_cases c4 : w.V.length ≤ 240
    ·rw [decide_eq_false (show ¬ (w.V.length : Int) > 240 by omega), cf, y9 (by omega) (by omega), ob]
     have hfB : (aT c w).B.length = w.B.length ↔ ∀ b ∈ w.B, mayB c b = true := by unfold aT; exact List.length_filter_eq_length_iff
     have hfV : (aT c w).V.length = w.V.length ↔ ∀ v ∈ w.V, mayV c v = true := by unfold aT; exact List.length_filter_eq_length_iff
     by_cases c5 : ∀ b ∈ w.B, mayB c b = true
     ·rw [show (((aT c w).B.length : Int) != (w.B.length : Int)) = false by rw [hfB.2 c5]; simp, cf, ob];by_cases c6 : ∀ v ∈ w.V, mayV c v = true
      ·have hm := tw w.V;rw [show (((aT c w).V.length : Int) != (w.V.length : Int)) = false by rw [hfV.2 c6]; simp, cf, vK (by omega) (by omega), ob, show ri (jx w.V) = true from decide_eq_true (by omega), ct];by_cases c7 : w.V.Nodup
       ·rw [show (((jx w.V).length : Int) == (w.V.length : Int)) = true by rw [hm.2.2 c7]; simp, ct, BR (by omega), ob];congr 1
        have hbad : ∀ v, sK (lr w.B) v = false ↔ Go.Mg.forB w.B v := by
         intro v;unfold sK Go.Mg.forB;rw [qQ c2]
         cases bA w.B v.Head with
         | none => simp
         | some s => simp
        cases ha : w.V.any (sK (lr w.B)) with
        | true =>
         obtain ⟨v, hv, hb⟩ := List.any_eq_true.1 ha;symm;refine hno fun h => ?_;have := (hbad v).2 (h.forB v hv);rw [hb] at this; cases this
        | false =>
         rw [List.any_eq_false] at ha;symm;exact decide_eq_true ⟨c1, c2, c3, c4, c5, c6, c7, fun v hv => (hbad v).1 (by have := ha v hv; simpa using this)⟩
       ·rw [show (((jx w.V).length : Int) == (w.V.length : Int)) = false by
         rw [beq_eq_false_iff_ne]; intro e; exact c7 (hm.2.1 (by omega)), cf, hno fun h => c7 h.nodup]
      ·rw [show (((aT c w).V.length : Int) != (w.V.length : Int)) = true by
        rw [bne_iff_ne]; intro e; exact c6 (hfV.1 (by omega)), ct, hno fun h => c6 h.mayV]
     ·rw [show (((aT c w).B.length : Int) != (w.B.length : Int)) = true by
       rw [bne_iff_ne]; intro e; exact c5 (hfB.1 (by omega)), ct, ob, ct, hno fun h => c5 h.mayB]
    ·rw [decide_eq_true (show (w.V.length : Int) > 240 by omega), ct, hno fun h => c4 h.lenV]
   ·rw [decide_eq_true (show (w.B.length : Int) > 60 by omega), ct, ob, ct, hno fun h => c3 h.lenB]
  ·rw [show (places w.B).isSome = false from by unfold dx at c2; simpa using c2, Bool.not_false, ct, ob, ct, hno fun h => c2 h.valid]
 ·rw [decide_eq_false c1, Bool.not_false, ct, ob, ct, hno fun h => c1 h.conf]
def ck (B : List Bk) (b : Bk) : Bool := (bA B (nm b)).isSome || (match bA B b.Parent with | some s => decide (s ≥ b.Slot) | none => false)
def eO (B : List Bk) (upto : Int) (b : Bk) : Bool := match bA B b.Parent with | some _ => decide (b.Slot > upto) | none => true
def bj (upto : Int) (B : List Bk) (full : Bool) (b : Bk) : Bool × List Bk × Bool :=
 if ck B b then (true, B, full) else if eO B upto b then (false, B, full) else if B.length < 60 then (true, B ++ [b], full) else (false, B, true)
def cF (B : List Bk) (V : List Vt) (v : Vt) : Bool := decide (v ∈ V) || (match bA B v.Head with | some s => decide (s > v.Slot) | none => false)
def fz (B : List Bk) (upto : Int) (v : Vt) : Bool := match bA B v.Head with | some _ => decide (v.Slot > upto) | none => true
def bk (upto : Int) (B : List Bk) (V : List Vt) (full : Bool) (v : Vt) : Bool × List Vt × Bool :=
 if cF B V v then (true, V, full) else if fz B upto v then (false, V, full) else if V.length < 240 then (true, V ++ [v], full) else (false, V, true)
def Ci (B : List Bk) (sm : List (ID × Int)) : Prop := ∀ id, aj sm id = bA B id
def D3 (V : List Vt) (hm : List (Vt × Bool)) : Prop := ∀ v, aj hm v = if v ∈ V then some true else none
theorem vO (n most : Int) (full : Bool) : wS n most full = some (decide (n < most), if n < most then full else true) := by
 unfold wS
 cases full with
 | true => rw [ct]; by_cases h : n < most <;> simp [h]
 | false =>
  rw [cf];by_cases h : n < most
  ·rw [if_pos h, decide_eq_false (show ¬ n ≥ most by omega)]
  ·rw [if_neg h, decide_eq_true (show n ≥ most by omega)]
theorem BS {b : Bk} {B : List Bk} {sm : List (ID × Int)} {upto : Int} {full : Bool} (hs : Ci B sm) (hB : B.length ≤ 1000) (hl : sm.length ≤ 900000) :
  ∃ sm', ur b B sm upto full = some ((bj upto B full b).1, (bj upto B full b).2.1, sm', (bj upto B full b).2.2) ∧ Ci (bj upto B full b).2.1 sm' ∧ sm'.length ≤ sm.length + ((bj upto B full b).2.1.length - B.length) := by
 unfold ur;rw [hs, hs]
 cases hn : bA B (nm b) with
 | some q =>
  have e : bj upto B full b = (true, B, full) := by simp [bj, ck, hn]
  rw [e];refine ⟨sm, ?_, hs, by simp⟩;rw [Option.isSome_some, ct, ob, ct]
 | none =>
  rw [Option.isSome_none, cf]
  cases hp : bA B b.Parent with
  | none =>
   have e : bj upto B full b = (false, B, full) := by simp [bj, ck, eO, hn, hp]
   rw [e];refine ⟨sm, ?_, hs, by simp⟩;rw [Option.isSome_none, cf, ob, cf, Bool.not_false, ct, ob, ct]
  | some s =>
   rw [Option.isSome_some, ct, ob, Option.getD_some];by_cases h1 : s ≥ b.Slot
   ·have e : bj upto B full b = (true, B, full) := by simp [bj, ck, hn, hp, h1]
    rw [e];refine ⟨sm, ?_, hs, by simp⟩;rw [decide_eq_true h1, ct]
   ·rw [decide_eq_false h1, cf, Bool.not_true, cf];by_cases h2 : b.Slot > upto
    ·have e : bj upto B full b = (false, B, full) := by simp [bj, ck, eO, hn, hp, h1, h2]
     rw [e];refine ⟨sm, ?_, hs, by simp⟩;rw [decide_eq_true h2, ct, ob, ct]
    ·rw [decide_eq_false h2, cf, vO, ob, ob];by_cases h3 : B.length < 60
     ·have e : bj upto B full b = (true, B ++ [b], full) := by simp [bj, ck, eO, hn, hp, h1, h2, h3]
      rw [e];refine ⟨aV sm (nm b) b.Slot, ?_, fun id => ?_, ?_⟩
      ·rw [decide_eq_true (show (B.length : Int) < 60 by omega), Bool.not_true, cf, aK (by simp only [List.length_singleton]; omega) (by omega), ct, show ri sm = true from decide_eq_true (by omega), ct, if_pos (show (B.length : Int) < 60 by omega)]
      ·rw [fm, px, hs];by_cases e : nm b = id
       ·rw [if_pos e, if_pos e, ← e, hn]; rfl
       ·rw [if_neg e, if_neg e]; cases bA B id <;> rfl
      ·rw [mh, List.length_append, List.length_singleton]; split <;> omega
     ·have e : bj upto B full b = (false, B, true) := by simp [bj, ck, eO, hn, hp, h1, h2, h3]
      rw [e];refine ⟨sm, ?_, hs, by simp⟩;rw [decide_eq_false (show ¬ (B.length : Int) < 60 by omega), Bool.not_false, ct, if_neg (show ¬ (B.length : Int) < 60 by omega)]
theorem BT {v : Vt} {B : List Bk} {V : List Vt} {sm : List (ID × Int)} {hm : List (Vt × Bool)} {upto : Int} {full : Bool} (hs : Ci B sm) (hh : D3 V hm) (hV : V.length ≤ 1000) (hl : hm.length ≤ 900000) :
  ∃ hm', ut v V sm hm upto full = some ((bk upto B V full v).1, (bk upto B V full v).2.1, hm', (bk upto B V full v).2.2) ∧ D3 (bk upto B V full v).2.1 hm' ∧ hm'.length ≤ hm.length + ((bk upto B V full v).2.1.length - V.length) := by
 unfold ut;rw [hs, hh];by_cases hn : v ∈ V
 ·have e : bk upto B V full v = (true, V, full) := by simp [bk, cF, hn]
  rw [e];refine ⟨hm, ?_, hh, by simp⟩;rw [if_pos hn, Option.getD_some, ct, ob, ct]
 ·rw [if_neg hn, Option.getD_none, cf]
  cases hp : bA B v.Head with
  | none =>
   have e : bk upto B V full v = (false, V, full) := by simp [bk, cF, fz, hn, hp]
   rw [e];refine ⟨hm, ?_, hh, by simp⟩;rw [Option.isSome_none, cf, ob, cf, Bool.not_false, ct, ob, ct]
  | some s =>
   rw [Option.isSome_some, ct, ob, Option.getD_some];by_cases h1 : s > v.Slot
   ·have e : bk upto B V full v = (true, V, full) := by simp [bk, cF, hn, hp, h1]
    rw [e];refine ⟨hm, ?_, hh, by simp⟩;rw [decide_eq_true h1, ct]
   ·rw [decide_eq_false h1, cf, Bool.not_true, cf];by_cases h2 : v.Slot > upto
    ·have e : bk upto B V full v = (false, V, full) := by simp [bk, cF, fz, hn, hp, h1, h2]
     rw [e];refine ⟨hm, ?_, hh, by simp⟩;rw [decide_eq_true h2, ct, ob, ct]
    ·rw [decide_eq_false h2, cf, vO, ob, ob];by_cases h3 : V.length < 240
     ·have e : bk upto B V full v = (true, V ++ [v], full) := by simp [bk, cF, fz, hn, hp, h1, h2, h3]
      rw [e];refine ⟨aV hm v true, ?_, fun id => ?_, ?_⟩
      ·rw [decide_eq_true (show (V.length : Int) < 240 by omega), Bool.not_true, cf, aK (by simp only [List.length_singleton]; omega) (by omega), ct, show ri hm = true from decide_eq_true (by omega), ct, if_pos (show (V.length : Int) < 240 by omega)]
      ·rw [fm, hh];by_cases e : v = id
       ·subst e; simp
       ·simp [e, Ne.symm e]
      ·rw [mh, List.length_append, List.length_singleton]; split <;> omega
     ·have e : bk upto B V full v = (false, V, true) := by simp [bk, cF, fz, hn, hp, h1, h2, h3]
      rw [e];refine ⟨hm, ?_, hh, by simp⟩;rw [decide_eq_false (show ¬ (V.length : Int) < 240 by omega), Bool.not_false, ct, if_neg (show ¬ (V.length : Int) < 240 by omega)]
section
variable {α : Type}
def bc (step : List α → Bool → α → Bool × List α × Bool) : List α → Bool → List α → List α × List α × Bool
 | B, f, [] => ([], B, f)
 | B, f, b :: r => (if (step B f b).1 then (bc step (step B f b).2.1 (step B f b).2.2 r).1 else b :: (bc step (step B f b).2.1 (step B f b).2.2 r).1, (bc step (step B f b).2.1 (step B f b).2.2 r).2)
variable {step : List α → Bool → α → Bool × List α × Bool}
theorem gv (b : α) : ∀ (l B : List α) (f : Bool), bc step B f (l ++ [b]) =
  (if (step (bc step B f l).2.1 (bc step B f l).2.2 b).1 then (bc step B f l).1 else (bc step B f l).1 ++ [b], (step (bc step B f l).2.1 (bc step B f l).2.2 b).2)
 | [], B, f => by
  simp only [List.nil_append, bc];rfl
 | x :: r, B, f => by
  simp only [List.cons_append, bc, gv b r];split <;> split <;> simp_all
theorem mN : ∀ (l B : List α) (f : Bool), (bc step B f l).1.length ≤ l.length
 | [], B, f => by simp [bc]
 | x :: r, B, f => by
  have := mN r (step B f x).2.1 (step B f x).2.2;simp only [bc];split
  ·simp only [List.length_cons]; omega
  ·simp only [List.length_cons]; omega
theorem eh (h : ∀ B f b, B.length ≤ (step B f b).2.1.length ∧ (step B f b).2.1.length ≤ B.length + 1) : ∀ (l B : List α) (f : Bool), B.length ≤ (bc step B f l).2.1.length ∧ (bc step B f l).2.1.length ≤ B.length + l.length
 | [], B, f => by simp [bc]
 | x :: r, B, f => by
  have h1 := h B f x;have h2 := eh h r (step B f x).2.1 (step B f x).2.2;simp only [bc, List.length_cons];omega
end
def bi (upto : Int) : List Bk → Bool → List Bk → List Bk × List Bk × Bool := bc (bj upto)
def bR (upto : Int) (B : List Bk) : List Vt → Bool → List Vt → List Vt × List Vt × Bool := bc (bk upto B)
theorem jh (upto : Int) (B : List Bk) (f : Bool) (b : Bk) : B.length ≤ (bj upto B f b).2.1.length ∧ (bj upto B f b).2.1.length ≤ B.length + 1 := by
 unfold bj; split <;> (try split) <;> (try split) <;> simp
theorem ji (upto : Int) (B : List Bk) (V : List Vt) (f : Bool) (v : Vt) : V.length ≤ (bk upto B V f v).2.1.length ∧ (bk upto B V f v).2.1.length ≤ V.length + 1 := by
 unfold bk; split <;> (try split) <;> (try split) <;> simp
structure uE (B : List Bk) (sm : List (ID × Int)) : Prop where
 find : Ci B sm
 len : sm.length ≤ B.length + 1
structure x3 (V : List Vt) (hm : List (Vt × Bool)) : Prop where
 find : D3 V hm
 len : hm.length ≤ V.length
theorem yn {b : Bk} {B : List Bk} {sm : List (ID × Int)} {upto : Int} {full : Bool} (hs : uE B sm) (hB : B.length ≤ 1000) :
  ∃ sm', ur b B sm upto full = some ((bj upto B full b).1, (bj upto B full b).2.1, sm', (bj upto B full b).2.2) ∧ uE (bj upto B full b).2.1 sm' := by
 obtain ⟨sm', h1, h2, h3⟩ := BS (b := b) (upto := upto) (full := full) hs.find hB (by have := hs.len; omega);have hg := jh upto B full b;exact ⟨sm', h1, h2, by have := hs.len; omega⟩
theorem yo {v : Vt} {B : List Bk} {V : List Vt} {sm : List (ID × Int)} {hm : List (Vt × Bool)} {upto : Int} {full : Bool} (hs : uE B sm) (hh : x3 V hm) (hV : V.length ≤ 1000) :
  ∃ hm', ut v V sm hm upto full = some ((bk upto B V full v).1, (bk upto B V full v).2.1, hm', (bk upto B V full v).2.2) ∧ x3 (bk upto B V full v).2.1 hm' := by
 obtain ⟨hm', h1, h2, h3⟩ := BT (v := v) (upto := upto) (full := full) hs.find hh.find hV (by have := hh.len; omega);have hg := ji upto B V full v;exact ⟨hm', h1, h2, by have := hh.len; omega⟩
theorem fy {α : Type} {l : List α} {j : Nat} {y : α} (h : l[j]? = some y) : l.take (j + 1) = l.take j ++ [y] := bw h
theorem B6 {lB l B : List Bk} {kk : Nat} {sm : List (ID × Int)} {upto : Int} {full : Bool} (hl : lB.take kk = l) (hk : l.length = kk) (hs : uE B sm) (hB : B.length + kk ≤ 900) :
  ∃ i B' sm' f', yA lB kk B sm upto full = some (i, B', sm', f') ∧ uE B' sm' ∧ ((i = -1 ∧ bi upto B full l = (l, B', f')) ∨ ∃ j : Nat, i = j ∧ j < kk ∧ bi upto B full (l.take (j + 1)) = (l.take j, B', f')) := by
 unfold yA
 have key := df (step := kp lB kk upto) (fun x => ∃ j : Nat, j ≤ kk ∧ x.t8 = j ∧ bi upto B full (l.take j) = (l.take j, x.o6, x.o10_5) ∧ uE x.o6 x.o8) (fun x => kk - x.t8.toNat)
  (fun b => (∃ x, b = .inl x ∧ bi upto B full l = (l, x.o6, x.o10_5) ∧ uE x.o6 x.o8) ∨ ∃ (j : Nat) (B' : List Bk) (sm' : List (ID × Int)) (f' : Bool), b = .inr ((j : Int), B', sm', f') ∧ j < kk ∧ bi upto B full (l.take (j + 1)) = (l.take j, B', f') ∧ uE B' sm') (by
   rintro ⟨t, B1, sm1, f1⟩ ⟨j, hj, h1, h2, h3⟩;simp only at h1 h2 h3;subst h1;by_cases hlt : j < kk
   ·obtain ⟨y, hy, -⟩ := aA (l := l) (n := j) (by omega);have hgr := eh (step := bj upto) (jh upto) (l.take j) B full;have h2' : bc (bj upto) B full (l.take j) = (l.take j, B1, f1) := h2;rw [h2'] at hgr;simp only at hgr;rw [List.length_take] at hgr;obtain ⟨sm', e, hr⟩ := yn (b := y) (upto := upto) (full := f1) h3 (by omega)
    have hsn : bi upto B full (l.take (j + 1)) = (if (bj upto B1 f1 y).1 then l.take j else l.take j ++ [y], (bj upto B1 f1 y).2) := by
     rw [fy hy];unfold bi;rw [gv, h2']
    generalize bj upto B1 f1 y = q at e hr hsn;obtain ⟨g, B2, f2⟩ := q;simp only at e hr hsn
    have hstep : kp lB kk upto ⟨(j : Int), B1, sm1, f1⟩ = bif g then some (.inr (.inr ((j : Int), B2, sm', f2))) else some (.inl ⟨((j + 1 : Nat) : Int), B2, sm', f2⟩) := by
     unfold kp;simp only;rw [decide_eq_true (show (j : Int) < (kk : Int) by omega), ct, hl, aC hy, ob, e, ob, ak (n := j) (by omega)]
    cases g with
    | true =>
     right;rw [ct] at hstep;rw [if_pos rfl] at hsn;exact ⟨_, hstep, .inr ⟨j, B2, sm', f2, rfl, hlt, hsn, hr⟩⟩
    | false =>
     left;rw [cf] at hstep;rw [if_neg (by simp)] at hsn;refine ⟨_, hstep, ⟨j + 1, hlt, rfl, ?_, hr⟩, by simp only; omega⟩;rw [hsn, fy hy]
   ·right
    obtain rfl : j = kk := by omega
    refine ⟨.inl ⟨(j : Int), B1, sm1, f1⟩, ?_, .inl ⟨_, rfl, ?_, h3⟩⟩
    ·unfold kp;simp only;rw [decide_eq_false (show ¬ (j : Int) < (j : Int) by omega), cf]
    ·rw [List.take_of_length_le (by omega)] at h2; exact h2) (n := bE) (x := ⟨0, B, sm, full⟩) ⟨0, by omega, rfl, by simp [bi, bc], hs⟩ (ec (by simp only; omega))
 obtain ⟨b, e, ⟨x, rfl, h1, h2⟩ | ⟨j, B', sm', f', rfl, h0, h1, h2⟩⟩ := key
 ·exact ⟨-1, x.o6, x.o8, x.o10_5, by rw [e, ob, sl], h2, .inl ⟨rfl, h1⟩⟩
 ·exact ⟨j, B', sm', f', by rw [e, ob, sr], h2, .inr ⟨j, rfl, h0, h1⟩⟩
structure pZ {α : Type} (lB : List α) (k : Nat) (l : List α) : Prop where
 take : lB.take k = l
 le : k ≤ lB.length
theorem pZ.len {α : Type} {lB l : List α} {k : Nat} (h : pZ lB k l) : l.length = k := by
 rw [← h.take, List.length_take]; have := h.le; omega
theorem rg {α : Type} {a l : List α} {i kk : Nat} {z : α} (hi : i ≤ kk) (hk : kk ≤ a.length) (h : a.take i = l) : pZ (gU a i (kk - i) z) i l := by
 have hlen := oK (l := a) (off := i) (k := kk - i) (z := z) (by omega);refine ⟨?_, by omega⟩;unfold gU;rw [List.append_assoc, List.take_left' (by rw [List.length_take]; omega), h]
structure Mv {α : Type} (l a : List α) (i j : Nat) (left : List α) : Prop where
 ij : i < j
 jl : j ≤ l.length
 len : l.length ≤ a.length
 left : a.take i = left
 rest : ∀ q, j ≤ q → q < l.length → a[q]? = l[q]?
theorem Mv.next_gone {α : Type} {l a : List α} {i j : Nat} {left : List α} (h : Mv l a i j left) (hj : j < l.length) : Mv l a i (j + 1) left :=
 ⟨by have := h.ij; omega, hj, h.len, h.left, fun q h1 h2 => h.rest q (by omega) h2⟩
theorem Mv.next_stay {α : Type} {l a : List α} {i j : Nat} {left : List α} {y : α} (h : Mv l a i j left) (hj : j < l.length) (_ : l[j]? = some y) : Mv l (a.set i y) (i + 1) (j + 1) (left ++ [y]) := by
 have h1 := h.ij;have h2 := h.len;refine ⟨by omega, hj, by rw [List.length_set]; exact h2, ?_, fun q h3 h4 => ?_⟩
 ·have hi : (a.set i y)[i]? = some y := by rw [List.getElem?_set]; simp; omega
  rw [fy hi, List.take_set_of_le (Nat.le_refl _), h.left]
 ·rw [List.getElem?_set, if_neg (by omega)];exact h.rest q (by omega) h4
theorem BU {lB l B : List Bk} {kk : Nat} {sm : List (ID × Int)} {upto : Int} {full : Bool} (hl : pZ lB kk l) (hs : uE B sm) (hB : B.length + kk ≤ 900) :
  ∃ k' lB' sm', yp lB kk B sm upto full = some (k', lB', (bi upto B full l).2.1, sm', (bi upto B full l).2.2) ∧ uE (bi upto B full l).2.1 sm' ∧ pZ lB' k' (bi upto B full l).1 := by
 have hk := hl.len;obtain ⟨i, B0, sm0, f0, e0, hr0, h0⟩ := B6 (upto := upto) (full := full) hl.take hk hs hB;unfold yp;rw [e0, ob];rcases h0 with ⟨rfl, hp⟩ | ⟨j0, rfl, hj0, hp⟩
 ·rw [hp];refine ⟨kk, lB, sm0, ?_, hr0, hl⟩;simp only;rw [show ((-1 : Int) == -1) = true from rfl, ct]
 ·simp only;rw [show ((j0 : Int) == -1) = false by rw [beq_eq_false_iff_ne]; omega, cf, ak (n := j0) (by omega)]
  have key := df (step := kf kk upto) (fun x => ∃ (i j : Nat), x.i = i ∧ x.j = j ∧ uE x.o6 x.o8 ∧ (bi upto B full (l.take j)).2 = (x.o6, x.o10_5) ∧ Mv l x.o14 i j (bi upto B full (l.take j)).1) (fun x => kk - x.j.toNat)
   (fun x => ∃ i : Nat, x.i = i ∧ i ≤ kk ∧ uE x.o6 x.o8 ∧ (bi upto B full l).2 = (x.o6, x.o10_5) ∧ x.o14.take i = (bi upto B full l).1 ∧ kk ≤ x.o14.length) (by
   rintro ⟨i', j', B1, sm1, f1, a⟩ ⟨i, j, h1, h2, h3, h4, h5⟩;simp only at h1 h2 h3 h4 h5;subst h1 h2;have hij := h5.ij;have hjl := h5.jl;have hal := h5.len;by_cases hlt : j < kk
   ·left;obtain ⟨y, hy, -⟩ := aA (l := l) (n := j) (by omega)
    have hya : (a.take kk)[j]? = some y := by rw [List.getElem?_take_of_lt hlt, h5.rest j (Nat.le_refl _) (by omega), hy]
    obtain ⟨z, hz, -⟩ := aA (l := a.take kk) (n := i) (by rw [List.length_take]; omega);have hgr := eh (step := bj upto) (jh upto) (l.take j) B full;have h4' : (bc (bj upto) B full (l.take j)).2 = (B1, f1) := h4;rw [h4'] at hgr;simp only at hgr;rw [List.length_take] at hgr;obtain ⟨sm', e, hr⟩ := yn (b := y) (upto := upto) (full := f1) h3 (by omega)
    have hsn : bi upto B full (l.take (j + 1)) = (if (bj upto B1 f1 y).1 then (bi upto B full (l.take j)).1 else (bi upto B full (l.take j)).1 ++ [y], (bj upto B1 f1 y).2) := by
     rw [fy hy];unfold bi;rw [gv, h4']
    generalize bj upto B1 f1 y = q at e hr hsn;obtain ⟨g, B2, f2⟩ := q;simp only at e hr hsn
    have hstep : kf kk upto ⟨(i : Int), (j : Int), B1, sm1, f1, a⟩ = bif !g then some (.inl ⟨((i + 1 : Nat) : Int), ((j + 1 : Nat) : Int), B2, sm', f2, a.set i y⟩) else some (.inl ⟨(i : Int), ((j + 1 : Nat) : Int), B2, sm', f2, a⟩) := by
     unfold kf;simp only;rw [decide_eq_true (show (j : Int) < (kk : Int) by omega), ct, aC hya, ob, e, ob, aC hz, ob, ak (n := j) (by omega), ak (n := i) (by omega), Int.toNat_natCast]
    cases g with
    | true =>
     rw [Bool.not_true, cf] at hstep;rw [if_pos rfl] at hsn;refine ⟨_, hstep, ⟨i, j + 1, rfl, rfl, hr, by rw [hsn], ?_⟩, by simp only; omega⟩;rw [hsn];exact h5.next_gone (by omega)
    | false =>
     rw [Bool.not_false, ct] at hstep;rw [if_neg (by simp)] at hsn;refine ⟨_, hstep, ⟨i + 1, j + 1, rfl, rfl, hr, by rw [hsn], ?_⟩, by simp only; omega⟩;rw [hsn];exact h5.next_stay (by omega) hy
   ·right
    have hjk : j = kk := by omega
    have htl : l.take j = l := List.take_of_length_le (by omega);rw [htl] at h4 h5;refine ⟨⟨(i : Int), (j : Int), B1, sm1, f1, a⟩, ?_, i, rfl, by omega, h3, h4, h5.left, by show kk ≤ a.length; omega⟩;unfold kf;simp only
    rw [decide_eq_false (show ¬ (j : Int) < (kk : Int) by omega), cf]) (n := bE) (x := ⟨(j0 : Int), ((j0 + 1 : Nat) : Int), B0, sm0, f0, lB⟩)
   ⟨j0, j0 + 1, rfl, rfl, hr0, by rw [hp], by
    rw [hp];refine ⟨by omega, by omega, by have := hl.le; simp only; omega, ?_, fun q h1 h2 => ?_⟩
    ·show lB.take j0 = l.take j0;rw [← hl.take, List.take_take, Nat.min_eq_left (by omega)]
    ·rw [← hl.take, List.getElem?_take_of_lt (by omega)]⟩ (ec (by simp only; omega))
  obtain ⟨x, ex, i, hi, hik, hr, h1, h2, h3⟩ := key;generalize bi upto B full l = p at h1 h2 ⊢;obtain ⟨pl, pB, pf⟩ := p;simp only at h1 h2 ⊢;rw [ex, ob, hi, decide_eq_true (show 0 ≤ (i : Int) ∧ (i : Int) ≤ (kk : Int) by omega), ct, Int.toNat_natCast, decide_eq_true (show i + (kk - i) ≤ x.o14.length by omega), ct, ct];cases h1;exact ⟨i, gU x.o14 i (kk - i) ⟨0, 0, (0, 0), 0⟩, x.o8, rfl, hr, rg hik h3 h2⟩
theorem B5 {lV l V : List Vt} {kk : Nat} {BB : List Bk} {sm0 : List (ID × Int)} {hm : List (Vt × Bool)} {upto : Int} {full : Bool} (hl : lV.take kk = l) (hk : l.length = kk) (hsm : uE BB sm0) (hs : x3 V hm) (hB : V.length + kk ≤ 900) :
  ∃ i V' hm' f', yy lV kk V sm0 hm upto full = some (i, V', hm', f') ∧ x3 V' hm' ∧ ((i = -1 ∧ bR upto BB V full l = (l, V', f')) ∨ ∃ j : Nat, i = j ∧ j < kk ∧ bR upto BB V full (l.take (j + 1)) = (l.take j, V', f')) := by
 unfold yy
 have key := df (step := ko lV kk sm0 upto) (fun x => ∃ j : Nat, j ≤ kk ∧ x.t8 = j ∧ bR upto BB V full (l.take j) = (l.take j, x.o7, x.o10_5) ∧ x3 x.o7 x.o9) (fun x => kk - x.t8.toNat)
  (fun b => (∃ x, b = .inl x ∧ bR upto BB V full l = (l, x.o7, x.o10_5) ∧ x3 x.o7 x.o9) ∨ ∃ (j : Nat) (V' : List Vt) (hm' : List (Vt × Bool)) (f' : Bool), b = .inr ((j : Int), V', hm', f') ∧ j < kk ∧ bR upto BB V full (l.take (j + 1)) = (l.take j, V', f') ∧ x3 V' hm') (by
   rintro ⟨t, V1, hm1, f1⟩ ⟨j, hj, h1, h2, h3⟩;simp only at h1 h2 h3;subst h1;by_cases hlt : j < kk
   ·obtain ⟨y, hy, -⟩ := aA (l := l) (n := j) (by omega);have hgr := eh (step := bk upto BB) (ji upto BB) (l.take j) V full;have h2' : bc (bk upto BB) V full (l.take j) = (l.take j, V1, f1) := h2;rw [h2'] at hgr;simp only at hgr;rw [List.length_take] at hgr;obtain ⟨hm', e, hr⟩ := yo (v := y) (upto := upto) (full := f1) hsm h3 (by omega)
    have hsn : bR upto BB V full (l.take (j + 1)) = (if (bk upto BB V1 f1 y).1 then l.take j else l.take j ++ [y], (bk upto BB V1 f1 y).2) := by
     rw [fy hy];unfold bR;rw [gv, h2']
    generalize bk upto BB V1 f1 y = q at e hr hsn;obtain ⟨g, V2, f2⟩ := q;simp only at e hr hsn
    have hstep : ko lV kk sm0 upto ⟨(j : Int), V1, hm1, f1⟩ = bif g then some (.inr (.inr ((j : Int), V2, hm', f2))) else some (.inl ⟨((j + 1 : Nat) : Int), V2, hm', f2⟩) := by
     unfold ko;simp only;rw [decide_eq_true (show (j : Int) < (kk : Int) by omega), ct, hl, aC hy, ob, e, ob, ak (n := j) (by omega)]
    cases g with
    | true =>
     right;rw [ct] at hstep;rw [if_pos rfl] at hsn;exact ⟨_, hstep, .inr ⟨j, V2, hm', f2, rfl, hlt, hsn, hr⟩⟩
    | false =>
     left;rw [cf] at hstep;rw [if_neg (by simp)] at hsn;refine ⟨_, hstep, ⟨j + 1, hlt, rfl, ?_, hr⟩, by simp only; omega⟩;rw [hsn, fy hy]
   ·right
    obtain rfl : j = kk := by omega
    refine ⟨.inl ⟨(j : Int), V1, hm1, f1⟩, ?_, .inl ⟨_, rfl, ?_, h3⟩⟩
    ·unfold ko;simp only;rw [decide_eq_false (show ¬ (j : Int) < (j : Int) by omega), cf]
    ·rw [List.take_of_length_le (by omega)] at h2; exact h2) (n := bE) (x := ⟨0, V, hm, full⟩) ⟨0, by omega, rfl, by simp [bR, bc], hs⟩ (ec (by simp only; omega))
 obtain ⟨b, e, ⟨x, rfl, h1, h2⟩ | ⟨j, V', hm', f', rfl, h0, h1, h2⟩⟩ := key
 ·exact ⟨-1, x.o7, x.o9, x.o10_5, by rw [e, ob, sl], h2, .inl ⟨rfl, h1⟩⟩
 ·exact ⟨j, V', hm', f', by rw [e, ob, sr], h2, .inr ⟨j, rfl, h0, h1⟩⟩
theorem BV {lV l V : List Vt} {kk : Nat} {BB : List Bk} {sm0 : List (ID × Int)} {hm : List (Vt × Bool)} {upto : Int} {full : Bool} (hl : pZ lV kk l) (hsm : uE BB sm0) (hs : x3 V hm) (hB : V.length + kk ≤ 900) :
  ∃ k' lV' hm', yq lV kk V sm0 hm upto full = some (k', lV', (bR upto BB V full l).2.1, hm', (bR upto BB V full l).2.2) ∧ x3 (bR upto BB V full l).2.1 hm' ∧ pZ lV' k' (bR upto BB V full l).1 := by
 have hk := hl.len;obtain ⟨i, V0, hm0, f0, e0, hr0, h0⟩ := B5 (upto := upto) (full := full) hl.take hk hsm hs hB;unfold yq;rw [e0, ob];rcases h0 with ⟨rfl, hp⟩ | ⟨j0, rfl, hj0, hp⟩
 ·rw [hp];refine ⟨kk, lV, hm0, ?_, hr0, hl⟩;simp only;rw [show ((-1 : Int) == -1) = true from rfl, ct]
 ·simp only;rw [show ((j0 : Int) == -1) = false by rw [beq_eq_false_iff_ne]; omega, cf, ak (n := j0) (by omega)]
  have key := df (step := kg kk sm0 upto) (fun x => ∃ (i j : Nat), x.i = i ∧ x.j = j ∧ x3 x.o7 x.o9 ∧ (bR upto BB V full (l.take j)).2 = (x.o7, x.o10_5) ∧ Mv l x.o15 i j (bR upto BB V full (l.take j)).1) (fun x => kk - x.j.toNat)
   (fun x => ∃ i : Nat, x.i = i ∧ i ≤ kk ∧ x3 x.o7 x.o9 ∧ (bR upto BB V full l).2 = (x.o7, x.o10_5) ∧ x.o15.take i = (bR upto BB V full l).1 ∧ kk ≤ x.o15.length) (by
   rintro ⟨i', j', V1, hm1, f1, a⟩ ⟨i, j, h1, h2, h3, h4, h5⟩;simp only at h1 h2 h3 h4 h5;subst h1 h2;have hij := h5.ij;have hjl := h5.jl;have hal := h5.len;by_cases hlt : j < kk
   ·left;obtain ⟨y, hy, -⟩ := aA (l := l) (n := j) (by omega)
    have hya : (a.take kk)[j]? = some y := by rw [List.getElem?_take_of_lt hlt, h5.rest j (Nat.le_refl _) (by omega), hy]
    obtain ⟨z, hz, -⟩ := aA (l := a.take kk) (n := i) (by rw [List.length_take]; omega);have hgr := eh (step := bk upto BB) (ji upto BB) (l.take j) V full;have h4' : (bc (bk upto BB) V full (l.take j)).2 = (V1, f1) := h4;rw [h4'] at hgr;simp only at hgr;rw [List.length_take] at hgr;obtain ⟨hm', e, hr⟩ := yo (v := y) (upto := upto) (full := f1) hsm h3 (by omega)
    have hsn : bR upto BB V full (l.take (j + 1)) = (if (bk upto BB V1 f1 y).1 then (bR upto BB V full (l.take j)).1 else (bR upto BB V full (l.take j)).1 ++ [y], (bk upto BB V1 f1 y).2) := by
     rw [fy hy];unfold bR;rw [gv, h4']
    generalize bk upto BB V1 f1 y = q at e hr hsn;obtain ⟨g, V2, f2⟩ := q;simp only at e hr hsn
    have hstep : kg kk sm0 upto ⟨(i : Int), (j : Int), V1, hm1, f1, a⟩ = bif !g then some (.inl ⟨((i + 1 : Nat) : Int), ((j + 1 : Nat) : Int), V2, hm', f2, a.set i y⟩) else some (.inl ⟨(i : Int), ((j + 1 : Nat) : Int), V2, hm', f2, a⟩) := by
     unfold kg;simp only;rw [decide_eq_true (show (j : Int) < (kk : Int) by omega), ct, aC hya, ob, e, ob, aC hz, ob, ak (n := j) (by omega), ak (n := i) (by omega), Int.toNat_natCast]
    cases g with
    | true =>
     rw [Bool.not_true, cf] at hstep;rw [if_pos rfl] at hsn;refine ⟨_, hstep, ⟨i, j + 1, rfl, rfl, hr, by rw [hsn], ?_⟩, by simp only; omega⟩;rw [hsn];exact h5.next_gone (by omega)
    | false =>
     rw [Bool.not_false, ct] at hstep;rw [if_neg (by simp)] at hsn;refine ⟨_, hstep, ⟨i + 1, j + 1, rfl, rfl, hr, by rw [hsn], ?_⟩, by simp only; omega⟩;rw [hsn];exact h5.next_stay (by omega) hy
   ·right
    have hjk : j = kk := by omega
    have htl : l.take j = l := List.take_of_length_le (by omega);rw [htl] at h4 h5;refine ⟨⟨(i : Int), (j : Int), V1, hm1, f1, a⟩, ?_, i, rfl, by omega, h3, h4, h5.left, by show kk ≤ a.length; omega⟩;unfold kg;simp only
    rw [decide_eq_false (show ¬ (j : Int) < (kk : Int) by omega), cf]) (n := bE) (x := ⟨(j0 : Int), ((j0 + 1 : Nat) : Int), V0, hm0, f0, lV⟩)
   ⟨j0, j0 + 1, rfl, rfl, hr0, by rw [hp], by
    rw [hp];refine ⟨by omega, by omega, by have := hl.le; simp only; omega, ?_, fun q h1 h2 => ?_⟩
    ·show lV.take j0 = l.take j0;rw [← hl.take, List.take_take, Nat.min_eq_left (by omega)]
    ·rw [← hl.take, List.getElem?_take_of_lt (by omega)]⟩ (ec (by simp only; omega))
  obtain ⟨x, ex, i, hi, hik, hr, h1, h2, h3⟩ := key;generalize bR upto BB V full l = p at h1 h2 ⊢;obtain ⟨pl, pV, pf⟩ := p;simp only at h1 h2 ⊢;rw [ex, ob, hi, decide_eq_true (show 0 ≤ (i : Int) ∧ (i : Int) ≤ (kk : Int) by omega), ct, Int.toNat_natCast, decide_eq_true (show i + (kk - i) ≤ x.o15.length by omega), ct, ct];cases h1;exact ⟨i, gU x.o15 i (kk - i) ⟨0, 0, (0, 0)⟩, x.o9, rfl, hr, rg hik h3 h2⟩
structure pX where
 B : List Bk
 V : List Vt
 full : Bool
 lB : List Bk
 lV : List Vt
def cM (upto : Int) (s : pX) : pX :=
 ⟨(bi upto s.B s.full s.lB).2.1, (bR upto (bi upto s.B s.full s.lB).2.1 s.V (bi upto s.B s.full s.lB).2.2 s.lV).2.1, (bR upto (bi upto s.B s.full s.lB).2.1 s.V (bi upto s.B s.full s.lB).2.2 s.lV).2.2,
  (bi upto s.B s.full s.lB).1, (bR upto (bi upto s.B s.full s.lB).2.1 s.V (bi upto s.B s.full s.lB).2.2 s.lV).1⟩
def cN (s : pX) : Nat := s.B.length + s.V.length
def pH (upto : Int) : Nat → pX → pX
 | 0, s => s
 | n + 1, s => if cN (cM upto s) = cN s then cM upto s else pH upto n (cM upto s)
def kP (upto : Int) (s : pX) : pX := pH upto 1000 s
open Classical in
noncomputable def aE (c : Cf) (w inp : Vw) (slot : Int) : Vw × Vw × Bool :=
 if gb c w then (⟨(kP slot ⟨w.B, w.V, false, (aT c inp).B, (aT c inp).V⟩).B, (kP slot ⟨w.B, w.V, false, (aT c inp).B, (aT c inp).V⟩).V⟩, ⟨(kP slot ⟨w.B, w.V, false, (aT c inp).B, (aT c inp).V⟩).lB, (kP slot ⟨w.B, w.V, false, (aT c inp).B, (aT c inp).V⟩).lV⟩, (kP slot ⟨w.B, w.V, false, (aT c inp).B, (aT c inp).V⟩).full)
 else (w, inp, false)
def mq (s : pX) : Prop := s.B.length ≤ 60 ∧ s.V.length ≤ 240
theorem vl {upto : Int} {B : List Bk} {f : Bool} {b : Bk} (h : B.length ≤ 60) : (bj upto B f b).2.1.length ≤ 60 := by
 unfold bj; split <;> (try split) <;> (try split) <;> simp <;> omega
theorem vn {upto : Int} {B : List Bk} {V : List Vt} {f : Bool} {v : Vt} (h : V.length ≤ 240) : (bk upto B V f v).2.1.length ≤ 240 := by
 unfold bk; split <;> (try split) <;> (try split) <;> simp <;> omega
theorem mM {α : Type} {step : List α → Bool → α → Bool × List α × Bool} {Q : List α → Prop} (h : ∀ B f b, Q B → Q (step B f b).2.1) : ∀ (l B : List α) (f : Bool), Q B → Q (bc step B f l).2.1
 | [], B, f, hB => by simpa only [bc] using hB
 | x :: r, B, f, hB => by
  have := mM h r (step B f x).2.1 (step B f x).2.2 (h B f x hB);simpa only [bc] using this
theorem u8 {upto : Int} {l B : List Bk} {f : Bool} (h : B.length ≤ 60) : (bi upto B f l).2.1.length ≤ 60 := mM (step := bj upto) (Q := fun B => B.length ≤ 60) (fun _ _ _ h => vl h) l B f h
theorem u9 {upto : Int} {BB : List Bk} {l V : List Vt} {f : Bool} (h : V.length ≤ 240) : (bR upto BB V f l).2.1.length ≤ 240 := mM (step := bk upto BB) (Q := fun V => V.length ≤ 240) (fun _ _ _ h => vn h) l V f h
theorem rB {upto : Int} {s : pX} (h : mq s) : mq (cM upto s) := ⟨u8 h.1, u9 h.2⟩
theorem tX (upto : Int) (s : pX) : (cM upto s).lB.length ≤ s.lB.length ∧ (cM upto s).lV.length ≤ s.lV.length := ⟨mN _ _ _, mN _ _ _⟩
theorem j1 (upto : Int) (s : pX) : s.B.length ≤ (cM upto s).B.length ∧ s.V.length ≤ (cM upto s).V.length :=
 ⟨(eh (jh upto) _ _ _).1, (eh (ji upto _) _ _ _).1⟩
structure xa (s : pX) (x : eU) : Prop where
 o6 : x.o6 = s.B
 o7 : x.o7 = s.V
 full : x.x_5 = s.full
 sm : uE s.B x.o8
 hm : x3 s.V x.o9
 lB : pZ x.o14 x.left_0 s.lB
 lV : pZ x.o15 x.left_1 s.lV
theorem wZ {upto : Int} {s : pX} {x : eU} (h : xa s x) (hb : mq s) (hl1 : s.lB.length ≤ 800) (hl2 : s.lV.length ≤ 600) (hn : x.n ≠ (cN s : Int)) : ∃ y, kW upto x = some (.inl y) ∧ xa (cM upto s) y ∧ y.n = (cN s : Int) := by
 obtain ⟨n, o6, o7, o8, o9, f, o14, o15, k0, k1⟩ := x;obtain ⟨e6, e7, ef, hsm, hhm, hlB, hlV⟩ := h;simp only at e6 e7 ef hsm hhm hlB hlV hn;subst e6 e7 ef;have hb1 := hb.1;have hb2 := hb.2;obtain ⟨k', lB', sm', e1, r1, p1⟩ := BU (upto := upto) (full := s.full) hlB hsm (by have := hlB.len; omega);unfold cM;generalize bi upto s.B s.full s.lB = p at e1 r1 p1 ⊢;obtain ⟨pl, pB, pf⟩ := p;simp only at e1 r1 p1 ⊢;obtain ⟨k2, lV', hm', e2, r2, p2⟩ := BV (upto := upto) (full := pf) hlV r1 hhm (by have := hlV.len; omega);generalize bR upto pB s.V pf s.lV = q at e2 r2 p2 ⊢;obtain ⟨ql, qV, qf⟩ := q;simp only at e2 r2 p2 ⊢
 have hw : IntKind.i64.wrap ((s.B.length : Int) + (s.V.length : Int)) = (cN s : Int) := by
  unfold cN; rw [eA (by omega) (by omega)]; omega
 refine ⟨eU.mk (cN s : Int) pB qV sm' hm' qf lB' lV' k' k2, ?_, ⟨rfl, rfl, rfl, r1, r2, p1, p2⟩, rfl⟩;unfold kW;simp only;rw [hw, show (n != (cN s : Int)) = true by rw [bne_iff_ne]; exact hn, ct, e1, ob];simp only;rw [e2, ob]
theorem sx {upto : Int} : ∀ (m : Nat) (s : pX) (x : eU) (q : Nat), xa s x → mq s → s.lB.length ≤ 800 → s.lV.length ≤ 600 → x.n ≠ (cN s : Int) → 300 < m + cN s → m < q →
  ∃ y, iter (kW upto) (q + 1) x = some y ∧ xa (pH upto m s) y
 | 0, s, x, q, _, hb, _, _, _, hm, _ => by
  have h1 := hb.1;have h2 := hb.2;unfold cN at hm;omega
 | m + 1, s, x, q, h, hb, hl1, hl2, hn, hm, hq => by
  obtain ⟨y, e, hr, hy⟩ := wZ h hb hl1 hl2 hn;have hg := j1 upto s;have hlen := tX upto s;have hb' := rB (upto := upto) hb;obtain ⟨q, rfl⟩ : ∃ p, q = p + 1 := ⟨q - 1, by omega⟩;rw [lU e];unfold pH;by_cases hs : cN (cM upto s) = cN s
  ·rw [if_pos hs];refine ⟨y, fu ?_, hr⟩
   have hw : IntKind.i64.wrap ((y.o6.length : Int) + (y.o7.length : Int)) = (cN s : Int) := by
    rw [hr.o6, hr.o7, ← hs];have h1 := hb'.1;have h2 := hb'.2;unfold cN; rw [eA (by omega) (by omega)]; omega
   unfold kW;rw [hw, hy, show (((cN s : Nat) : Int) != (cN s : Int)) = false by simp, cf, ← hy]
  ·rw [if_neg hs];exact sx m (cM upto s) y q hr hb' (by omega) (by omega) (by rw [hy]; omega) (by unfold cN at *; omega) (by omega)
open Classical in
theorem DX {c : Cf} {w inp : Vw} {slot : Int} (h1 : w.B.length ≤ 1000) (h2 : w.V.length ≤ 1000) (h3 : inp.B.length ≤ 800) (h4 : inp.V.length ≤ 600) : Fl c w inp slot = some (aE c w inp slot) := by
 unfold Fl aE;rw [vK (by omega) (by omega), ob, DW h1 h2, ob];by_cases hm : gb c w
 ·rw [decide_eq_true hm, Bool.not_true, cf, if_pos hm, Ca (by omega) (by omega), ob];simp only;have hfB : (aT c inp).B.length ≤ inp.B.length := List.length_filter_le _ _;have hfV : (aT c inp).V.length ≤ inp.V.length := List.length_filter_le _ _
  have hr : xa ⟨w.B, w.V, false, (aT c inp).B, (aT c inp).V⟩ (eU.mk (-1) w.B w.V (lr w.B) (jx w.V) false (aT c inp).B (aT c inp).V ((aT c inp).B.map ax).length ((aT c inp).V.map aD).length) :=
   ⟨rfl, rfl, rfl, ⟨qQ hm.valid, A9 w.B⟩, ⟨qC w.V, (tw w.V).1⟩, ⟨by simp, by simp⟩, ⟨by simp, by simp⟩⟩
  have hbel : mq ⟨w.B, w.V, false, (aT c inp).B, (aT c inp).V⟩ := ⟨hm.lenB, hm.lenV⟩;generalize aT c inp = o at *;obtain ⟨y, e, hy⟩ := sx (upto := slot) 1000 _ _ 4611686018427387903 hr hbel (by simp only; omega) (by simp only; omega) (by simp only; omega) (by omega) (by omega);have e' : iter (kW slot) bE (eU.mk (-1) w.B w.V (lr w.B) (jx w.V) false o.B o.V (o.B.map ax).length (o.V.map aD).length) = some y := e;rw [e', ob];change xa (kP slot _) y at hy;generalize kP slot ⟨w.B, w.V, false, o.B, o.V⟩ = s at hy ⊢;rw [Nat.ble_eq_true_of_le hy.lB.le, ct, Nat.ble_eq_true_of_le hy.lV.le, ct, hy.o6, hy.o7, hy.full, hy.lB.take, hy.lV.take]
 ·rw [decide_eq_false hm, Bool.not_false, ct, if_neg hm, aK (by omega) (by omega), ct, aK (by omega) (by omega), ct]
theorem pc {B : List Bk} {b : Bk} (h : ck B b = true) (t : List Bk) : ck (B ++ t) b = true := by
 unfold ck at h ⊢;rw [Bool.or_eq_true] at h ⊢;rcases h with h | h
 ·left;obtain ⟨s, hs⟩ := Option.isSome_iff_exists.1 h;rw [jf hs]; rfl
 ·right
  cases hp : bA B b.Parent with
  | none => rw [hp] at h; cases h
  | some s => rw [hp] at h; rw [jf hp]; exact h
theorem lg {B : List Bk} {V : List Vt} {v : Vt} (h : cF B V v = true) (t : List Bk) (u : List Vt) : cF (B ++ t) (V ++ u) v = true := by
 unfold cF at h ⊢;rw [Bool.or_eq_true] at h ⊢;rcases h with h | h
 ·left;exact decide_eq_true<|List.mem_append_left _<|of_decide_eq_true h
 ·right
  cases hp : bA B v.Head with
  | none => rw [hp] at h; cases h
  | some s => rw [hp] at h; rw [jf hp]; exact h
theorem uT {B : List Bk} {b : Bk} (h : b ∈ B) : ck B b = true := by
 obtain ⟨s, hs⟩ := vi h;unfold ck; rw [hs]; rfl
theorem uU {B : List Bk} {V : List Vt} {v : Vt} (h : v ∈ V) : cF B V v = true := by
 unfold cF; rw [decide_eq_true h]; rfl
theorem lu (upto : Int) (B : List Bk) (f : Bool) (b : Bk) :
  (ck B b = true ∧ bj upto B f b = (true, B, f)) ∨ (ck B b = false ∧ eO B upto b = true ∧ bj upto B f b = (false, B, f)) ∨
  (ck B b = false ∧ eO B upto b = false ∧ B.length < 60 ∧ bj upto B f b = (true, B ++ [b], f)) ∨ (ck B b = false ∧ eO B upto b = false ∧ 60 ≤ B.length ∧ bj upto B f b = (false, B, true)) := by
 unfold bj
 cases h1 : ck B b with
 | true => exact .inl ⟨rfl, by rw [if_pos rfl]⟩
 | false =>
  right;rw [if_neg (by simp)]
  cases h2 : eO B upto b with
  | true => exact .inl ⟨rfl, rfl, by rw [if_pos rfl]⟩
  | false =>
   right;rw [if_neg (by simp)];by_cases h3 : B.length < 60
   ·exact .inl ⟨rfl, rfl, h3, by rw [if_pos h3]⟩
   ·exact .inr ⟨rfl, rfl, by omega, by rw [if_neg h3]⟩
theorem lv (upto : Int) (B : List Bk) (V : List Vt) (f : Bool) (v : Vt) :
  (cF B V v = true ∧ bk upto B V f v = (true, V, f)) ∨ (cF B V v = false ∧ fz B upto v = true ∧ bk upto B V f v = (false, V, f)) ∨
  (cF B V v = false ∧ fz B upto v = false ∧ V.length < 240 ∧ bk upto B V f v = (true, V ++ [v], f)) ∨ (cF B V v = false ∧ fz B upto v = false ∧ 240 ≤ V.length ∧ bk upto B V f v = (false, V, true)) := by
 unfold bk
 cases h1 : cF B V v with
 | true => exact .inl ⟨rfl, by rw [if_pos rfl]⟩
 | false =>
  right;rw [if_neg (by simp)]
  cases h2 : fz B upto v with
  | true => exact .inl ⟨rfl, rfl, by rw [if_pos rfl]⟩
  | false =>
   right;rw [if_neg (by simp)];by_cases h3 : V.length < 240
   ·exact .inl ⟨rfl, rfl, h3, by rw [if_pos h3]⟩
   ·exact .inr ⟨rfl, rfl, by omega, by rw [if_neg h3]⟩
section
variable {α : Type} {step : List α → Bool → α → Bool × List α × Bool}
theorem iI {Q : List α → Bool → Prop} : ∀ {l B : List α} {f : Bool}, (∀ B f b, b ∈ l → Q B f → Q (step B f b).2.1 (step B f b).2.2) → Q B f → Q (bc step B f l).2.1 (bc step B f l).2.2
 | [], B, f, _, hB => by simpa only [bc] using hB
 | x :: r, B, f, h, hB => by
  have := iI (l := r) (fun B f b hb => h B f b (.tail _ hb)) (h B f x (.head _) hB);simpa only [bc] using this
theorem mO : ∀ (l B : List α) (f : Bool), (bc step B f l).1.Sublist l
 | [], B, f => by simp [bc]
 | x :: r, B, f => by
  have := mO r (step B f x).2.1 (step B f x).2.2;simp only [bc];split
  ·exact this.cons x
  ·exact this.cons_cons x
theorem lp {G : List α → α → Prop} (hs : ∀ B f b, (step B f b).1 = true → G (step B f b).2.1 b) (hm : ∀ B f b c, G B c → G (step B f b).2.1 c) : ∀ (l B : List α) (f : Bool) (b : α), b ∈ l → b ∈ (bc step B f l).1 ∨ G (bc step B f l).2.1 b
 | x :: r, B, f, b, hb => by
  have hkeep : ∀ (r B : List α) (f : Bool) (c : α), G B c → G (bc step B f r).2.1 c := fun r B f c hc => iI (Q := fun B _ => G B c) (fun B f b _ hB => hm B f b c hB) hc;simp only [bc];rcases List.mem_cons.1 hb with e | hb
  ·subst e
   cases h : (step B f b).1 with
   | true => exact .inr (hkeep _ _ _ _ (hs B f b h))
   | false => left; rw [if_neg (by simp)]; exact .head _
  ·rcases lp hs hm r (step B f x).2.1 (step B f x).2.2 b hb with h | h
   ·left;split
    ·exact h
    ·exact .tail _ h
   ·exact .inr h
end
section
variable {α : Type} {g w : List α → α → Bool} {cap : Nat}
def fJ (g w : List α → α → Bool) (cap : Nat) (B : List α) (f : Bool) (b : α) : Bool × List α × Bool :=
 if g B b then (true, B, f) else if w B b then (false, B, f) else if B.length < cap then (true, B ++ [b], f) else (false, B, true)
def lw (g w : List α → α → Bool) (B : List α) (f : Bool) (l : List α) : List α × List α × Bool := (l.filter fun b => !g B b, B, f || l.any fun b => !g B b && !w B b)
theorem pF : ∀ {l B : List α} {f : Bool}, (∀ b ∈ l, g B b = false → w B b = false → cap ≤ B.length) → bc (fJ g w cap) B f l = lw g w B f l
 | [], B, f, _ => by simp [bc, lw]
 | x :: r, B, f, h => by
  have ih := fun f => pF (l := r) (f := f) (B := B) fun b hb => h b (.tail _ hb);unfold lw at ih ⊢;simp only [bc]
  cases h1 : g B x with
  | true =>
   have e : fJ g w cap B f x = (true, B, f) := by unfold fJ; rw [h1, if_pos rfl]
   rw [e];simp [ih, h1]
  | false =>
   cases h2 : w B x with
   | true =>
    have e : fJ g w cap B f x = (false, B, f) := by unfold fJ; rw [h1, if_neg (by simp), h2, if_pos rfl]
    rw [e];simp [ih, h1, h2]
   | false =>
    have e : fJ g w cap B f x = (false, B, true) := by
     unfold fJ; rw [h1, if_neg (by simp), h2, if_neg (by simp), if_neg];have := h x (.head _) h1 h2;omega
    rw [e];simp [ih, h1, h2]
theorem qT (B : List α) (f : Bool) (b : α) : ∃ t, (fJ g w cap B f b).2.1 = B ++ t := by
 unfold fJ;split
 ·exact ⟨[], by simp⟩
 ·split
  ·exact ⟨[], by simp⟩
  ·split
   ·exact ⟨[b], rfl⟩
   ·exact ⟨[], by simp⟩
theorem xE (l B : List α) (f : Bool) : ∃ u, (bc (fJ g w cap) B f l).2.1 = B ++ u :=
 iI (Q := fun C _ => ∃ u, C = B ++ u) (fun C f b _ ⟨u, hu⟩ => by
  obtain ⟨t, ht⟩ := qT (g := g) (w := w) (cap := cap) C f b
  exact ⟨u ++ t, by rw [ht, hu, List.append_assoc]⟩) ⟨[], by simp⟩
theorem pE : ∀ {l B : List α} {f : Bool}, (bc (fJ g w cap) B f l).2.1.length = B.length → ∀ b ∈ l, g B b = false → w B b = false → cap ≤ B.length
 | x :: r, B, f, h, b, hb, h1, h2 => by
  simp only [bc] at h;obtain ⟨t, ht⟩ := qT (g := g) (w := w) (cap := cap) B f x;obtain ⟨u, hu⟩ := xE (g := g) (w := w) (cap := cap) r (fJ g w cap B f x).2.1 (fJ g w cap B f x).2.2
  have hB : (fJ g w cap B f x).2.1 = B := by
   rw [hu, ht, List.length_append, List.length_append] at h;have : t = [] := List.length_eq_zero_iff.1 (by omega);rw [ht, this, List.append_nil]
  rcases List.mem_cons.1 hb with e | hb
  ·subst e;refine Classical.byContradiction fun hc => ?_
   have e : fJ g w cap B f b = (true, B ++ [b], f) := by
    unfold fJ; rw [h1, if_neg (by simp), h2, if_neg (by simp), if_pos (by omega)]
   rw [e] at hB;have := congrArg List.length hB;simp at this
  ·rw [hB] at h;exact pE h b hb h1 h2
end
structure pY (w o : Vw) (upto : Int) (s : pX) : Prop where
 preB : ∃ t, s.B = w.B ++ t ∧ ∀ b ∈ t, b ∈ o.B ∧ b.Slot ≤ upto
 preV : ∃ t, s.V = w.V ++ t ∧ ∀ v ∈ t, v ∈ o.V ∧ v.Slot ≤ upto
 valid : dx s.B
 nodup : s.V.Nodup
 forB : ∀ v ∈ s.V, forB s.B v
 below : mq s
 subB : s.lB.Sublist o.B
 subV : s.lV.Sublist o.V
 allB : ∀ b ∈ o.B, b ∈ s.lB ∨ ck s.B b = true
 allV : ∀ v ∈ o.V, v ∈ s.lV ∨ cF s.B s.V v = true
theorem vv {B : List Bk} {upto : Int} {b : Bk} (h1 : ck B b = false) (h2 : eO B upto b = false) : (∃ s, bA B b.Parent = some s ∧ s < b.Slot) ∧ bA B (nm b) = none ∧ b.Slot ≤ upto := by
 unfold ck at h1;unfold eO at h2;rw [Bool.or_eq_false_iff] at h1
 have hn : bA B (nm b) = none := by
  cases h : bA B (nm b) with
  | none => rfl
  | some s => rw [h] at h1; cases h1.1
 cases hp : bA B b.Parent with
 | none => rw [hp] at h2; cases h2
 | some s =>
  rw [hp] at h1 h2;have a1 := of_decide_eq_false h1.2;have a2 := of_decide_eq_false h2;exact ⟨⟨s, rfl, by omega⟩, hn, by omega⟩
theorem ug {B : List Bk} {V : List Vt} {upto : Int} {v : Vt} (h1 : cF B V v = false) (h2 : fz B upto v = false) : forB B v ∧ v ∉ V ∧ v.Slot ≤ upto := by
 unfold cF at h1;unfold fz at h2;rw [Bool.or_eq_false_iff] at h1;have hn := of_decide_eq_false h1.1
 cases hp : bA B v.Head with
 | none => rw [hp] at h2; cases h2
 | some s =>
  rw [hp] at h1 h2;have a1 := of_decide_eq_false h1.2;have a2 := of_decide_eq_false h2;exact ⟨⟨s, hp, by omega⟩, hn, by omega⟩
theorem xm {B : List Bk} {v : Vt} (h : forB B v) (t : List Bk) : forB (B ++ t) v := by
 obtain ⟨s, h1, h2⟩ := h;exact ⟨s, jf h1 t, h2⟩
theorem xC {w o : Vw} {upto : Int} {s : pX} (h : pY w o upto s) : pY w o upto ⟨(bi upto s.B s.full s.lB).2.1, s.V, (bi upto s.B s.full s.lB).2.2, (bi upto s.B s.full s.lB).1, s.lV⟩ := by
 have key : ∃ u, (bi upto s.B s.full s.lB).2.1 = s.B ++ u ∧ (∀ b ∈ u, b ∈ o.B ∧ b.Slot ≤ upto) ∧ dx (s.B ++ u) ∧ (s.B ++ u).length ≤ 60 := by
  have := iI (step := bj upto) (l := s.lB) (B := s.B) (f := s.full) (Q := fun C _ => ∃ u, C = s.B ++ u ∧ (∀ b ∈ u, b ∈ o.B ∧ b.Slot ≤ upto) ∧ dx (s.B ++ u) ∧ (s.B ++ u).length ≤ 60)
   (fun C f b hb ⟨u, hu, h1, h2, h3⟩ => by
    subst hu;rcases lu upto (s.B ++ u) f b with ⟨-, e⟩ | ⟨-, -, e⟩ | ⟨a1, a2, a3, e⟩ | ⟨-, -, -, e⟩
    ·rw [e]; exact ⟨u, rfl, h1, h2, h3⟩
    ·rw [e]; exact ⟨u, rfl, h1, h2, h3⟩
    ·rw [e];obtain ⟨k1, k2, k3⟩ := vv a1 a2;refine ⟨u ++ [b], by simp, fun c hc => ?_, ?_, ?_⟩
     ·rcases List.mem_append.1 hc with hc | hc
      ·exact h1 c hc
      ·rw [List.mem_singleton] at hc; subst hc;exact ⟨h.subB.subset hb, k3⟩
     ·rw [← List.append_assoc]; exact pO.2 ⟨h2, k1, k2⟩
     ·rw [← List.append_assoc, List.length_append, List.length_singleton]; omega
    ·rw [e]; exact ⟨u, rfl, h1, h2, h3⟩)
   ⟨[], by simp, by simp, by simpa using h.valid, by simpa using h.below.1⟩
  exact this
 obtain ⟨u, hu, h1, h2, h3⟩ := key
 have hgone : ∀ b ∈ s.lB, b ∈ (bi upto s.B s.full s.lB).1 ∨ ck (bi upto s.B s.full s.lB).2.1 b = true :=
  lp (step := bj upto) (G := fun B b => ck B b = true) (fun B f b hb => by
   rcases lu upto B f b with ⟨a, e⟩ | ⟨-, -, e⟩ | ⟨-, -, -, e⟩ | ⟨-, -, -, e⟩ <;> rw [e] at hb ⊢
   ·exact a
   ·cases hb
   ·exact uT (by simp)
   ·cases hb) (fun B f b c hc => by
   rcases lu upto B f b with ⟨a, e⟩ | ⟨-, -, e⟩ | ⟨-, -, -, e⟩ | ⟨-, -, -, e⟩ <;> rw [e]
   ·exact hc
   ·exact hc
   ·exact pc hc _
   ·exact hc) s.lB s.B s.full
 obtain ⟨t, ht, ht2⟩ := h.preB
 refine ⟨⟨t ++ u, by simp only; rw [hu, ht, List.append_assoc], fun b hb => (List.mem_append.1 hb).elim (ht2 b) (h1 b)⟩, h.preV, by simp only [hu]; exact h2, h.nodup, fun v hv => ?_, ⟨by simp only [hu]; exact h3, h.below.2⟩,
  (mO s.lB s.B s.full).trans h.subB, h.subV, fun b hb => ?_, fun v hv => ?_⟩
 ·simp only [hu]; exact xm (h.forB v hv) u
 ·rcases h.allB b hb with h5 | h5
  ·exact hgone b h5
  ·right; simp only [hu]; exact pc h5 u
 ·rcases h.allV v hv with h5 | h5
  ·exact .inl h5
  ·right;simp only [hu];have := lg h5 u []
   rwa [List.append_nil] at this
theorem xD {w o : Vw} {upto : Int} {s : pX} (h : pY w o upto s) : pY w o upto ⟨s.B, (bR upto s.B s.V s.full s.lV).2.1, (bR upto s.B s.V s.full s.lV).2.2, s.lB, (bR upto s.B s.V s.full s.lV).1⟩ := by
 have key : ∃ u, (bR upto s.B s.V s.full s.lV).2.1 = s.V ++ u ∧ (∀ v ∈ u, v ∈ o.V ∧ v.Slot ≤ upto) ∧ (s.V ++ u).Nodup ∧ (∀ v ∈ s.V ++ u, Go.Mg.forB s.B v) ∧ (s.V ++ u).length ≤ 240 := by
  have := iI (step := bk upto s.B) (l := s.lV) (B := s.V) (f := s.full) (Q := fun C _ => ∃ u, C = s.V ++ u ∧ (∀ v ∈ u, v ∈ o.V ∧ v.Slot ≤ upto) ∧ (s.V ++ u).Nodup ∧ (∀ v ∈ s.V ++ u, Go.Mg.forB s.B v) ∧ (s.V ++ u).length ≤ 240)
   (fun C f v hv ⟨u, hu, h1, h2, h4, h3⟩ => by
    subst hu;rcases lv upto s.B (s.V ++ u) f v with ⟨-, e⟩ | ⟨-, -, e⟩ | ⟨a1, a2, a3, e⟩ | ⟨-, -, -, e⟩
    ·rw [e]; exact ⟨u, rfl, h1, h2, h4, h3⟩
    ·rw [e]; exact ⟨u, rfl, h1, h2, h4, h3⟩
    ·rw [e];obtain ⟨k1, k2, k3⟩ := ug a1 a2;refine ⟨u ++ [v], by simp, fun c hc => ?_, ?_, fun c hc => ?_, ?_⟩
     ·rcases List.mem_append.1 hc with hc | hc
      ·exact h1 c hc
      ·rw [List.mem_singleton] at hc; subst hc;exact ⟨h.subV.subset hv, k3⟩
     ·rw [← List.append_assoc, List.nodup_append];exact ⟨h2, by simp, fun a ha b hb => by rw [List.mem_singleton] at hb; subst hb; exact fun q => k2 (q ▸ ha)⟩
     ·rw [← List.append_assoc] at hc;rcases List.mem_append.1 hc with hc | hc
      ·exact h4 c hc
      ·rw [List.mem_singleton] at hc; subst hc; exact k1
     ·rw [← List.append_assoc, List.length_append, List.length_singleton]; omega
    ·rw [e]; exact ⟨u, rfl, h1, h2, h4, h3⟩)
   ⟨[], by simp, by simp, by simpa using h.nodup, by simpa using h.forB, by simpa using h.below.2⟩
  exact this
 obtain ⟨u, hu, h1, h2, h4, h3⟩ := key
 have hgone : ∀ v ∈ s.lV, v ∈ (bR upto s.B s.V s.full s.lV).1 ∨ cF s.B (bR upto s.B s.V s.full s.lV).2.1 v = true :=
  lp (step := bk upto s.B) (G := fun V v => cF s.B V v = true) (fun V f v hb => by
   rcases lv upto s.B V f v with ⟨a, e⟩ | ⟨-, -, e⟩ | ⟨-, -, -, e⟩ | ⟨-, -, -, e⟩ <;> rw [e] at hb ⊢
   ·exact a
   ·cases hb
   ·exact uU (by simp)
   ·cases hb) (fun V f v c hc => by
   rcases lv upto s.B V f v with ⟨a, e⟩ | ⟨-, -, e⟩ | ⟨-, -, -, e⟩ | ⟨-, -, -, e⟩ <;> rw [e]
   ·exact hc
   ·exact hc
   ·have := lg hc [] [v]; rwa [List.append_nil] at this
   ·exact hc) s.lV s.V s.full
 obtain ⟨t, ht, ht2⟩ := h.preV
 refine ⟨h.preB, ⟨t ++ u, by simp only; rw [hu, ht, List.append_assoc], fun b hb => (List.mem_append.1 hb).elim (ht2 b) (h1 b)⟩, h.valid, by simp only [hu]; exact h2, fun v hv => ?_, ⟨h.below.1, by simp only [hu]; exact h3⟩,
  h.subB, (mO s.lV s.V s.full).trans h.subV, h.allB, fun v hv => ?_⟩
 ·simp only [hu] at hv; exact h4 v hv
 ·rcases h.allV v hv with h5 | h5
  ·exact hgone v h5
  ·right;simp only [hu];have := lg h5 [] u
   rwa [List.append_nil] at this
theorem vf {w o : Vw} {upto : Int} {s : pX} (h : pY w o upto s) : pY w o upto (cM upto s) := xD (xC h)
structure DN (upto : Int) (s : pX) : Prop where
 B : ∀ b ∈ s.lB, ck s.B b = false ∧ (eO s.B upto b = true ∨ 60 ≤ s.B.length ∧ s.full = true)
 V : ∀ v ∈ s.lV, cF s.B s.V v = false ∧ (fz s.B upto v = true ∨ 240 ≤ s.V.length ∧ s.full = true)
theorem ve {upto : Int} {s : pX} (h : cN (cM upto s) = cN s) : DN upto (cM upto s) := by
 have hg := j1 upto s
 have hB : (bi upto s.B s.full s.lB).2.1.length = s.B.length := by unfold cN at h; have : (cM upto s).B = (bi upto s.B s.full s.lB).2.1 := rfl; rw [← this]; omega
 have h1 : ∀ b ∈ s.lB, ck s.B b = false → eO s.B upto b = false → 60 ≤ s.B.length := pE (g := ck) (w := fun B b => eO B upto b) (cap := 60) (f := s.full) hB;have e1 : bi upto s.B s.full s.lB = lw ck (fun B b => eO B upto b) s.B s.full s.lB := pF h1
 have hV : (bR upto s.B s.V (bi upto s.B s.full s.lB).2.2 s.lV).2.1.length = s.V.length := by
  have : (cM upto s).V = (bR upto (bi upto s.B s.full s.lB).2.1 s.V (bi upto s.B s.full s.lB).2.2 s.lV).2.1 := rfl
  have e2 : (bi upto s.B s.full s.lB).2.1 = s.B := by rw [e1]; rfl
  rw [e2] at this;rw [← this];unfold cN at h; omega
 have h2 : ∀ v ∈ s.lV, cF s.B s.V v = false → fz s.B upto v = false → 240 ≤ s.V.length := pE (g := cF s.B) (w := fun _ v => fz s.B upto v) (cap := 240) (f := (bi upto s.B s.full s.lB).2.2) hV;unfold cM;rw [e1];unfold lw;simp only;have e2 : bR upto s.B s.V (s.full || s.lB.any fun b => !ck s.B b && !eO s.B upto b) s.lV = lw (cF s.B) (fun _ v => fz s.B upto v) s.V (s.full || s.lB.any fun b => !ck s.B b && !eO s.B upto b) s.lV := pF h2;rw [e2];unfold lw;refine ⟨fun b hb => ?_, fun v hv => ?_⟩
 ·simp only [List.mem_filter, Bool.not_eq_true'] at hb;refine ⟨hb.2, ?_⟩
  cases hw : eO s.B upto b with
  | true => exact .inl rfl
  | false =>
   right;refine ⟨h1 b hb.1 hb.2 hw, ?_⟩;simp only [Bool.or_eq_true];exact .inl<|.inr<|List.any_eq_true.2 ⟨b, hb.1, by simp [hb.2, hw]⟩
 ·simp only [List.mem_filter, Bool.not_eq_true'] at hv;refine ⟨hv.2, ?_⟩
  cases hw : fz s.B upto v with
  | true => exact .inl rfl
  | false =>
   right;refine ⟨h2 v hv.1 hv.2 hw, ?_⟩;simp only [Bool.or_eq_true];exact .inr<|List.any_eq_true.2 ⟨v, hv.1, by simp [hv.2, hw]⟩
theorem qX {w o : Vw} {upto : Int} : ∀ (m : Nat) (s : pX), pY w o upto s → 300 < m + cN s → pY w o upto (pH upto m s) ∧ DN upto (pH upto m s)
 | 0, s, h, hm => by
  have h1 := h.below.1;have h2 := h.below.2;unfold cN at hm;omega
 | m + 1, s, h, hm => by
  have hr := vf h;have hg := j1 upto s;unfold pH;by_cases hs : cN (cM upto s) = cN s
  ·rw [if_pos hs]; exact ⟨hr, ve hs⟩
  ·rw [if_neg hs];exact qX m (cM upto s) hr (by unfold cN at *; omega)
theorem xq {c : Cf} {w o : Vw} {upto : Int} (h : gb c w) : pY w o upto ⟨w.B, w.V, false, o.B, o.V⟩ :=
 ⟨⟨[], by simp, by simp⟩, ⟨[], by simp, by simp⟩, h.valid, h.nodup, h.forB, ⟨h.lenB, h.lenV⟩, List.Sublist.refl _, List.Sublist.refl _, fun _ h => .inl h, fun _ h => .inl h⟩
theorem Bf {c : Cf} {w o : Vw} {upto : Int} (h : gb c w) : pY w o upto (kP upto ⟨w.B, w.V, false, o.B, o.V⟩) ∧ DN upto (kP upto ⟨w.B, w.V, false, o.B, o.V⟩) :=
 qX 1000 _ (xq h) (by omega)
structure D5 (c : Cf) (w inp : Vw) (upto : Int) (r : Vw × Vw × Bool) : Prop where
 may : gb c r.1
 preB : ∃ t, r.1.B = w.B ++ t ∧ ∀ b ∈ t, b ∈ (aT c inp).B ∧ b.Slot ≤ upto
 preV : ∃ t, r.1.V = w.V ++ t ∧ ∀ v ∈ t, v ∈ (aT c inp).V ∧ v.Slot ≤ upto
 subB : r.2.1.B.Sublist (aT c inp).B
 subV : r.2.1.V.Sublist (aT c inp).V
 allB : ∀ b ∈ (aT c inp).B, b ∈ r.2.1.B ∨ ck r.1.B b = true
 allV : ∀ v ∈ (aT c inp).V, v ∈ r.2.1.V ∨ cF r.1.B r.1.V v = true
 endB : ∀ b ∈ r.2.1.B, ck r.1.B b = false ∧ (eO r.1.B upto b = true ∨ 60 ≤ r.1.B.length ∧ r.2.2 = true)
 endV : ∀ v ∈ r.2.1.V, cF r.1.B r.1.V v = false ∧ (fz r.1.B upto v = true ∨ 240 ≤ r.1.V.length ∧ r.2.2 = true)
theorem Bj {c : Cf} {w : Vw} (h : gb c w) (inp : Vw) (upto : Int) : D5 c w inp upto (aE c w inp upto) := by
 unfold aE;rw [if_pos h];have hmB : ∀ b ∈ (aT c inp).B, mayB c b = true := fun b hb => (List.mem_filter.1 hb).2;have hmV : ∀ v ∈ (aT c inp).V, mayV c v = true := fun b hb => (List.mem_filter.1 hb).2;have := Bf (o := aT c inp) (upto := upto) h;obtain ⟨hi, he⟩ := this;generalize kP upto ⟨w.B, w.V, false, (aT c inp).B, (aT c inp).V⟩ = s at hi he ⊢;obtain ⟨t, ht, ht2⟩ := hi.preB;obtain ⟨u, hu, hu2⟩ := hi.preV;refine ⟨⟨h.conf, hi.valid, hi.below.1, hi.below.2, fun b hb => ?_, fun v hv => ?_, hi.nodup, hi.forB⟩, ⟨t, ht, ht2⟩, ⟨u, hu, hu2⟩, hi.subB, hi.subV, hi.allB, hi.allV, he.B, he.V⟩
 ·simp only [ht] at hb;rcases List.mem_append.1 hb with hb | hb
  ·exact h.mayB b hb
  ·exact hmB b (ht2 b hb).1
 ·simp only [hu] at hv;rcases List.mem_append.1 hv with hv | hv
  ·exact h.mayV v hv
  ·exact hmV v (hu2 v hv).1
open Go.Proofs
open Go.Proofs
theorem A4 (c : Cf) (w : Vw) : (aT c w).B.length ≤ w.B.length ∧ (aT c w).V.length ≤ w.V.length := ⟨List.length_filter_le _ _, List.length_filter_le _ _⟩
open Go.Proofs
open Go.Proofs
theorem Bl {c : Cf} {w inp : Vw} {upto : Int} {r : Vw × Vw × Bool} (h : D5 c w inp upto r) : w.B.length ≤ r.1.B.length ∧ w.V.length ≤ r.1.V.length ∧ r.2.1.B.length ≤ inp.B.length ∧ r.2.1.V.length ≤ inp.V.length := by
 obtain ⟨t, ht, -⟩ := h.preB;obtain ⟨u, hu, -⟩ := h.preV;exact ⟨by rw [ht]; simp, by rw [hu]; simp, (h.subB.trans List.filter_sublist).length_le, (h.subV.trans List.filter_sublist).length_le⟩
theorem xT {c : Cf} {w inp : Vw} {upto : Int} {r : Vw × Vw × Bool} (h : D5 c w inp upto r) : r.1.B.take w.B.length = w.B ∧ r.1.V.take w.V.length = w.V := by
 obtain ⟨t, ht, -⟩ := h.preB;obtain ⟨u, hu, -⟩ := h.preV;rw [ht, hu];exact ⟨List.take_left' rfl, List.take_left' rfl⟩
theorem dG {α : Type} [DecidableEq α] : ∀ {l L : List α}, l.Nodup → (∀ x ∈ l, x ∈ L) → l.length ≤ L.length
 | [], _, _, _ => Nat.zero_le _
 | x :: r, L, h, hs => by
  rw [List.nodup_cons] at h;have hx := hs x (.head _);have h1 := dG (L := L.erase x) h.2 fun y hy => (List.mem_erase_of_ne (show y ≠ x from fun e => h.1 (by rw [← e]; exact hy))).2 (hs y (.tail _ hy));have h2 := List.length_erase_of_mem hx;have h3 := List.length_pos_of_mem hx;simp only [List.length_cons]; omega
inductive CB (base o : List Bk) (upto : Int) : Bk → Prop
 | base {b : Bk} : b ∈ base → CB base o upto b
 | root {b : Bk} : b ∈ o → b.Slot ≤ upto → b.Parent = (0, 0) → 0 < b.Slot → CB base o upto b
 | step {b p : Bk} : b ∈ o → b.Slot ≤ upto → CB base o upto p → nm p = b.Parent → p.Slot < b.Slot → CB base o upto b
theorem CB.mono {base base' o o' : List Bk} {upto upto' : Int} (h1 : ∀ b ∈ base, CB base' o' upto' b) (h2 : ∀ b ∈ o, b ∈ o') (h3 : upto ≤ upto') {b : Bk} (h : CB base o upto b) : CB base' o' upto' b := by
 induction h with
 | base h => exact h1 _ h
 | root a1 a2 a3 a4 => exact .root (h2 _ a1) (Int.le_trans a2 h3) a3 a4
 | step a1 a2 _ a4 a5 ih => exact .step (h2 _ a1) (Int.le_trans a2 h3) ih a4 a5
structure Rm (U : Vw) : Prop where
 inj : ∀ a ∈ U.B, ∀ b ∈ U.B, nm a = nm b → a = b
 B : U.B.length < 60
 V : U.V.length < 240
open Go.Proofs
open Go.Proofs
open Go.Proofs
open Classical in
theorem xN {S R : Type} {step : S → Option (S ⊕ (S ⊕ R))} {n : Nat} (mk : Nat → S) (r0 : R) (P : Nat → Prop) (hs : ∀ j, j < n → step (mk j) = some (.inr (.inr r0)) ∨ (step (mk j) = some (.inl (mk (j + 1))) ∧ P j))
  (he : step (mk n) = some (.inr (.inl (mk n)))) (hn : n < 4000000000000000000) : iter step bE (mk 0) = some (.inr r0) ∨ (iter step bE (mk 0) = some (.inl (mk n)) ∧ ∀ j, j < n → P j) := by
 have e := dA mk (fun j => if step (mk j) = some (.inl (mk (j + 1))) ∧ P j then none else some r0) (fun j hj => by
  by_cases h : step (mk j) = some (.inl (mk (j + 1))) ∧ P j
  ·simp only [if_pos h]; exact h.1
  ·simp only [if_neg h]; exact (hs j hj).resolve_right h) he hn
 rw [e]
 cases h : bO (fun j => if step (mk j) = some (.inl (mk (j + 1))) ∧ P j then none else some r0) 0 n with
 | none =>
  right;refine ⟨rfl, fun j hj => ?_⟩;have := fp.1 h j (Nat.zero_le _) (by omega);split at this
  ·rename_i h2; exact h2.2
  ·cases this
 | some r =>
  left;obtain ⟨j, -, -, h2, -⟩ := eu h;split at h2
  ·cases h2
  ·cases h2; rfl
def k5 (k : Int) (w : Vw) : Prop := (w.B.length : Int) ≤ k ∧ (w.V.length : Int) ≤ k
def jH (k : Int) (n : Nd) : Prop := k5 k n.V ∧ k5 k n.In ∧ n.O.length ≤ 10 ∧ ∀ o ∈ n.O, k5 k o.V
def dK (n : Nd) : Vw := bG n.V n.In
theorem qJ {n : Nd} {k : Int} (h : jH k n) : ((dK n).B.length : Int) ≤ 2 * k ∧ ((dK n).V.length : Int) ≤ 2 * k := by
 obtain ⟨⟨a1, a2⟩, ⟨b1, b2⟩, -⟩ := h;have h1 := cQ n.In.B n.V.B;have h2 := cQ n.In.V n.V.V;unfold dK bG;simp only;omega
theorem ya {n : Nd} {k : Int} (h : jH k n) (hk : k ≤ 1000) : rS n = some (dK n) := by
 obtain ⟨⟨a1, a2⟩, ⟨b1, b2⟩, -⟩ := h;unfold rS;rw [kX (by omega) (by omega)]; rfl
def kE (l : List Nd) (w : Vw) : Vw := l.foldl (fun w n => bG w (dK n)) w
theorem xc (l : List Nd) (n : Nd) (w : Vw) : kE (l ++ [n]) w = bG (kE l w) (dK n) := by unfold kE; rw [List.foldl_append]; rfl
theorem oA {k : Int} : ∀ {l : List Nd} {w : Vw}, (∀ n ∈ l, jH k n) → ((kE l w).B.length : Int) ≤ w.B.length + l.length * (2 * k) ∧ ((kE l w).V.length : Int) ≤ w.V.length + l.length * (2 * k)
 | [], w, _ => by simp [kE]
 | n :: r, w, h => by
  have h1 := qJ (h n (.head _));have h2 := oA (l := r) (w := bG w (dK n)) fun m hm => h m (.tail _ hm);have h3 := cQ (dK n).B w.B;have h4 := cQ (dK n).V w.V;have e : kE (n :: r) w = kE r (bG w (dK n)) := rfl;have e1 : (bG w (dK n)).B = cA w.B (dK n).B := rfl;have e2 : (bG w (dK n)).V = cA w.V (dK n).V := rfl;rw [e, List.length_cons, Int.natCast_add, Int.add_mul];rw [e1, e2] at h2;omega
theorem qm : ∀ {l : List Nd} {w : Vw}, w.B.Nodup → w.V.Nodup → (kE l w).B.Nodup ∧ (kE l w).V.Nodup
 | [], w, h1, h2 => ⟨h1, h2⟩
 | n :: r, w, h1, h2 => qm (l := r) (w := bG w (dK n)) (fA h1) (fA h2)
theorem uy {k0 : Int} {l : List Nd} {w : Vw} (h0 : 0 ≤ k0) (hk0 : k0 ≤ 1000) (hl : (l.length : Int) * (2 * k0) ≤ 40000) (hl2 : l.length ≤ 100000) (hs : ∀ n ∈ l, jH k0 n) (h1 : w.B.length ≤ 1000) (h2 : w.V.length ≤ 1000) : ou l w = some (kE l w) := by
 have e := az (step := fP l) (n := l.length) (fun k => di.mk (k : Int) (kE (l.take k) w)) (di.mk (l.length : Int) (kE l w)) (fun k hk => by
  obtain ⟨y, hy, hm⟩ := aA hk
  have et : l.take (k + 1) = l.take k ++ [y] := by rw [List.take_add_one, hy]; rfl
  have hsy := hs y hm;have hlen := oA (l := l.take k) (w := w) fun m hm => hs m (List.mem_of_mem_take hm);rw [List.length_take] at hlen;have hkn := qJ hsy;have hmul : ((Min.min k l.length : Nat) : Int) * (2 * k0) ≤ l.length * (2 * k0) := Int.mul_le_mul_of_nonneg_right (by omega) (by omega);unfold fP;simp only;rw [decide_eq_true (show (k : Int) < (l.length : Int) by omega), ct, aC hy, ob, et, xc, ak (n := k) (by omega)];unfold vW;rw [ya hsy (by omega), ob, kX (by omega) (by omega), ob]
  rfl) (by
  unfold fP;simp only
  rw [decide_eq_false (show ¬ (l.length : Int) < (l.length : Int) by omega), cf, List.take_length]) (by omega)
 have e' : iter (fP l) bE (di.mk 0 w) = _ := e;unfold ou;rw [e', ob]
theorem wL {l : List Nd} (hl : l.length ≤ 40) (hs : ∀ n ∈ l, jH 500 n) : rP l = some (kE l ⟨[], []⟩) := by
 unfold rP;rw [uy (k0 := 500) (by omega) (by omega) (by omega) (by omega) hs (Nat.zero_le _) (Nat.zero_le _)]; rfl
theorem AL {a b : Vw} (h1 : ∀ x ∈ b.B, x ∈ a.B) (h2 : ∀ x ∈ b.V, x ∈ a.V) : bG a b = a := by
 unfold bG;rw [na h1, na h2]
end Go.Mg
