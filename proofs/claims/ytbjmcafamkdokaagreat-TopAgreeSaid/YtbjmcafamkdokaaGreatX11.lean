/- TopAgree. TopAgree, plain. What arguments are: offers, nodes. What arguments are: acts. How the program's own line of words reads, letter by letter; facts of the whole program that each row asks for. Conditions: none. -/
import Derived.Test.YtbjmcafamkdokaaGreatX3
import Derived.Test.YtbjmcafamkdokaaGreatX10
import Derived.Test.YtbjmcafamkdokaaGreatX7
import Derived.Test.YtbjmcafamkdokaaGreatX8
import Derived.Test.YtbjmcafamkdokaaGreatX6
import Derived.Test.YtbjmcafamkdokaaGreatRows
import Derived.ProofKit
import Derived.OpenShut
set_option maxRecDepth 100000
set_option linter.unusedSimpArgs false
set_option linter.unusedVariables false
namespace Go.Mg
open Go.Proofs
structure dJ where
 i : Int
def gB (w : Vw) (v : Vt) (x1 : dJ) : Option (dJ ⊕ (dJ ⊕ Bool)) :=
 bif decide (x1.i < (w.V.length : Int)) then
  (ix w.V x1.i).bind fun y1 =>
  bif ((y1.From == v.From) && ((y1.Slot == v.Slot) && ((y1.Head.1 == v.Head.1) && ((y1.Head.2 == v.Head.2) && true)))) then
   some (.inr (.inr true))
  else
   some (.inl (dJ.mk (IntKind.i64.wrap (x1.i + 1))))
 else
  some (.inr (.inl (dJ.mk x1.i)))
def rN (w : Vw) (v : Vt) : Option Bool :=
 (iter (gB w v) bG (dJ.mk 0)).bind fun b_v1 => Sum.elim (fun _ =>
  some false) some b_v1
theorem Iz {w : Vw} {v : Vt} {r_ : Bool} (hr : rN w v = some r_) : av Tryz.prog 21 [mA w, aI v] [.bool r_] := by
 refine zh Tryz.func21 Z Z Z Z ?_;unfold rN at hr;refine zQ<|zR<|yS Z (bV Z Z Z Z Z)<|yS Z (bV Z Z Z Z Z)<|zM Z<|zN<|zT<|zQ<|zQ<|zR<|zM Z<|zN<|zT ?_;obtain ⟨b_v1, hb_v1, ho_v1⟩ := zB hr;clear hr;refine LW.tailB (b := b_v1) (E := fun v1 => [(4, (bQ false))]) (O := fun v1 => [.box (de w), .box [(iQ v.From), (iQ v.Slot), (uQ v.Head.1), (uQ v.Head.2)]]) ?_<|fun v1 e_v1 env_v1 H_v1 hw_v1 => ?_
 ·refine LW.block ?_;refine LW.iterB (E := fun x1 : dJ => [(2, .ptr 0 0), (3, .ptr 1 0), (4, (bQ false)), (5, (iQ x1.i))]) (O := fun x1 => [.box (de w), .box [(iQ v.From), (iQ v.Slot), (uQ v.Head.1), (uQ v.Head.2)]]) hb_v1 (zW 2 ⟨rfl, rfl, rfl, rfl, trivial⟩ Z Z Z Z)<|fun x1 z_x1 hr hb_x1 => ?_;unfold gB at hr;refine zQ<|zQ<|zR<|zM Z<|yS Z (zA Z Z bP)<|yS Z (zD Z Z Z eC Z Z)<|yS Z (dT Z Z (by kernel_rfl))<|yS Z (aw Z Z Z Z)<|zN<|zT ?_;refine zX Z (fun g1 => ?_)<|fun g1 => ?_
  ·
   refine zi g1 hr fun hr => zk<|zT<|zQ<|zl<|zQ<|LW.draw2 (by kernel_rfl) (by kernel_rfl)<|yE Z (zA Z Z bP)<|yE Z (zD Z Z Z eC Z Z)<|zH Z<|zb hr fun y1 h_y1 hr => yE Z (zx Z Z Z dF h_y1 Z)<|yE Z (dS Z Z Z cB Z Z)<|yE Z (zD Z Z Z cB Z Z)<|yE Z (ab.eqlAgg Z Z Z Z Z FB)<|LO.nil<|zT ?_;refine zX Z (fun g2 => ?_)<|fun g2 => ?_
   ·
    refine zi g2 hr fun hr => zQ<|zR<|zM Z<|zN<|zT<|zr<|ay<|aj<|aj<|ay<|aj<|aj ?_;obtain rfl := zJ hr;have hr := congrArg some (hb_x1 _ rfl);obtain rfl := zJ hr;have hr := d8 ho_v1;obtain rfl := zJ hr;exact zf (.one (.tmp Z)) zv
   ·
    refine zo g2 hr fun hr => zk<|ai<|zT<|zR<|zM Z<|yS Z (aw Z Z Z Z)<|zM Z<|zN<|zT ?_;obtain rfl := zJ hr;exact ⟨_, rfl, zW 2 ⟨rfl, rfl, rfl, rfl, trivial⟩ Z Z Z rfl⟩
  ·
   refine zo g1 hr fun hr => zq<|ao<|ao<|zy<|zT ?_;obtain rfl := zJ hr;have hr := congrArg some (hb_x1 _ rfl);obtain rfl := zJ hr;exact ⟨_, rfl, zW 2 ⟨rfl, trivial⟩ Z Z Z rfl⟩
 ·obtain rfl := e_v1;have hr := gb ho_v1;clear hb_v1;refine zT<|LW.weak hw_v1<|zQ<|zR<|zM Z<|zN<|zT<|zr ?_;obtain rfl := zJ hr;exact zf (.one (.tmp Z)) zv
structure bI where
 t : Int
 w : Wd
structure dq where
 i : Int
def iT (c : Cf) (x1 : bI) (v6 : Wd) (y1 : Of) (v10 : (List ID)) (x2 : dq) : Option (dq ⊕ (dq ⊕ (bI ⊕ (bI ⊕ Bool)))) :=
 bif decide (x2.i < (v10.length : Int)) then
  (ix v6.N x2.i).bind fun y3 =>
  (ix v6.N x2.i).bind fun y4 =>
  (rN y4.In (Vt.mk y3.No (IntKind.i64.wrap (x1.t.tdiv 3)) (nm y1.B))).bind fun v12 =>
  (ix v10 x2.i).bind fun y5 =>
  bif !((y5.1 == ((nm y1.B).1)) && ((y5.2 == ((nm y1.B).2)) && true)) then
   some (.inr (.inr (.inr (.inr false))))
  else
   (ix v6.N x2.i).bind fun y6 =>
   (F4 c (IntKind.i64.wrap (x1.t.tdiv 3)) y6.No).bind fun v13 =>
   bif v13 then
    bif !v12 then
     some (.inr (.inr (.inr (.inr false))))
    else
     some (.inl (dq.mk (IntKind.i64.wrap (x2.i + 1))))
   else
    some (.inl (dq.mk (IntKind.i64.wrap (x2.i + 1))))
 else
  some (.inr (.inl (dq.mk x2.i)))
def mK (c : Cf) (l : List Ac) (slots : Int) (x1 : bI) : Option (bI ⊕ (bI ⊕ Bool)) :=
 bif decide (x1.t < (IntKind.i64.wrap ((IntKind.i64.wrap (3 * slots)) + 3))) then
  (oF x1.w l).bind fun v6 =>
  (rM v6 l).bind fun v7 =>
  bif v7 then
   some (.inr (.inr true))
  else
   (
    bif (x1.t.tmod 3) != 1 then
     some true
    else
     some ((x1.w.O.length : Int) == 0)
   ).bind fun v8 =>
   bif v8 then
    some (.inl (bI.mk (IntKind.i64.wrap (x1.t + 1)) v6))
   else
    (ix x1.w.O 0).bind fun y1 =>
    (
     bif (x1.w.O.length : Int) != 1 then
      some true
     else
      (ix x1.w.O 0).bind fun y2 =>
      some (y2.Slot != (IntKind.i64.wrap (x1.t.tdiv 3)))
    ).bind fun v9 =>
    bif v9 then
     some (.inr (.inr false))
    else
     (ug c v6.N).bind fun v10 =>
     (iter (iT c x1 v6 y1 v10) bG (dq.mk 0)).bind fun b_v11 => Sum.elim (fun _ =>
      some (.inl (bI.mk (IntKind.i64.wrap (x1.t + 1)) v6))) some b_v11
 else
  some (.inr (.inl (bI.mk x1.t x1.w)))
def xK (c : Cf) (bad : List Int) (l : List Ac) (slots : Int) : Option Bool :=
 (ui ).bind fun v1 =>
 (rK c bad l slots).bind fun v2 =>
 (
  bif !v1 then
   some true
  else
   some (!v2)
 ).bind fun v3 =>
 bif v3 then
  some v1
 else
  (rL c bad).bind fun v4 =>
  (iter (mK c l slots) bG (bI.mk 3 v4)).bind fun b_v5 => Sum.elim (fun _ =>
   some true) some b_v5
theorem Iv {c : Cf} {bad : List Int} {l : List Ac} {slots : Int} {r_ : Bool} (hr : xK c bad l slots = some r_) : av Tryz.prog 3 [jx c, .slice 1 (bad.map aE), .slice 5 (l.map kc), .int .i64 slots] [.bool r_] := by
 refine zh Tryz.func3 Z Z Z Z ?_;unfold xK at hr;refine zQ<|zR<|yS Z (bV Z Z Z Z Z)<|zM Z<|zN<|zT<|zQ<|zR<|zb hr fun v1 h_v1 hr => yS Z (zC Z Z Z (by kernel_rfl) (zp (Iw h_v1) .nil))<|zM Z<|zN<|zT<|zQ<|zR<|yS Z (zD Z Z Z bE Z Z)<|zM Z<|zM Z<|zM Z<|zb hr fun v2 h_v2 hr => yS Z (zC Z Z Z (by kernel_rfl) (zp (Ix h_v2) (.cons zv (.cons zv (.cons zv (.cons zv .nil))))))<|zM Z<|zN<|zT ?_;refine zQ ?_;obtain ⟨v3, hb_v3, ho_v3⟩ := zB hr;clear hr;refine LW.cut (E := [(1, (kI bad)), (2, .p (.slice 5 (l.map kc))), (3, (iQ slots)), (4, .ptr 0 0), (8, (bQ false)), (9, (bQ v1)), (31, (bQ v3))]) (O := [.box (bB c)]) ?_ ?_
 ·have hr := hb_v3;refine zR<|zM Z<|yS Z (ab.not Z Z)<|zM Z ?_;refine zc 28 Z (fun g1 => ?_)<|fun g1 => ?_
  ·
   refine zi g1 hr fun hr => yU Z (gd g1 Z) Z<|yU Z (gd g1 Z) Z<|yS Z (eP Z (bL g1 Z) Z)<|zN<|zT ?_;obtain rfl := zJ hr;exact zW 1 ⟨Z, Z, Z, Z, Z, Z, Z, trivial⟩ Z Z Z Z
  ·
   refine zo g1 hr fun hr => yV Z (gd g1 Z) (zm Z Z)<|yV Z (gd g1 Z) (ab.not Z Z)<|yS Z (db Z (bL g1 Z) Z)<|zN<|zT ?_;obtain rfl := zJ hr;exact zW 1 ⟨Z, Z, Z, Z, Z, Z, Z, trivial⟩ Z Z Z Z
 ·have hr := ho_v3;clear hb_v3;refine zX Z (fun g2 => ?_)<|fun g2 => ?_
  ·
   refine zi g2 hr fun hr => zQ<|zR<|zM Z<|zM Z<|zN<|zT<|zr<|aj ?_;obtain rfl := zJ hr;exact zf (.one (.tmp Z)) zv
  ·
   refine zo g2 hr fun hr => zk<|zT<|zQ<|zR<|yS Z (zD Z Z Z bE Z Z)<|zM Z<|zb hr fun v4 h_v4 hr => yS Z (zC Z Z Z (by kernel_rfl) (zp (Fn h_v4) (.cons zv (.cons zv .nil))))<|yS Z (ze Z kW Z Z)<|yS Z (zs Z Z Z Z bU Z Z Z Z)<|zN<|zT<|zQ<|zQ<|zR<|zM Z<|zN<|zT ?_;obtain ⟨b_v5, hb_v5, ho_v5⟩ := zB hr;clear hr;refine LW.tailB (b := b_v5) (E := fun v5 => [(8, (bQ false))]) (O := fun v5 => [.box (bB c), .box (fl v5.w)]) ?_<|fun v5 e_v5 env_v5 H_v5 hw_v5 => ?_
   ·refine LW.block ?_;refine LW.iterB (E := fun x1 : bI => [(2, .p (.slice 5 (l.map kc))), (3, (iQ slots)), (4, .ptr 0 0), (8, (bQ false)), (11, .ptr 1 0), (12, (iQ x1.t))]) (O := fun x1 => [.box (bB c), .box (fl x1.w)]) hb_v5 (zW 2 ⟨rfl, rfl, rfl, rfl, rfl, rfl, trivial⟩ Z Z Z Z)<|fun x1 z_x1 hr hb_x1 => ?_;unfold mK at hr;refine zQ<|zQ<|zR<|zM Z<|zM Z<|yS Z (aw Z Z Z Z)<|yS Z (aw Z Z Z Z)<|yS Z (aw Z Z Z Z)<|zN<|zT ?_;refine zX Z (fun g3 => ?_)<|fun g3 => ?_
    ·
     refine zi g3 hr fun hr => zk<|zT<|zQ<|zl<|zQ<|zR<|yS Z (zA Z Z gJ)<|yS Z (zD Z Z Z bT Z Z)<|zM Z<|zN<|zT<|zQ<|zR<|yS Z (zD Z Z Z bU Z Z)<|zM Z<|zb hr fun v6 h_v6 hr => yS Z (zC Z Z Z (by kernel_rfl) (zp (Fo h_v6) (.cons zv (.cons zv .nil))))<|yS Z (zs Z Z Z Z bU Z Z Z Z)<|zN<|zT<|zQ<|zR<|yS Z (zD Z Z Z bU Z Z) ?_;refine zM Z<|zb hr fun v7 h_v7 hr => yS Z (zC Z Z Z (by kernel_rfl) (zp (Iy h_v7) (.cons zv (.cons zv .nil))))<|zM Z<|zN<|zT<|zQ<|zQ<|zR<|zM Z<|zN<|zT ?_;refine zX Z (fun g4 => ?_)<|fun g4 => ?_
     ·
      refine zi g4 hr fun hr => zQ<|zR<|zM Z<|zN<|zT<|zr<|aj<|ay<|aj<|aj<|ay<|aj<|aj ?_;obtain rfl := zJ hr;have hr := congrArg some (hb_x1 _ rfl);obtain rfl := zJ hr;have hr := d8 ho_v5;obtain rfl := zJ hr;exact zf (.one (.tmp Z)) zv
     ·
      refine zo g4 hr fun hr => zk<|zT<|zQ ?_;obtain ⟨v8, hb_v8, ho_v8⟩ := zB hr;clear hr;refine LW.cut (E := [(2, .p (.slice 5 (l.map kc))), (3, (iQ slots)), (4, .ptr 0 0), (8, (bQ false)), (11, .ptr 1 0), (12, (iQ x1.t)), (13, (kO x1.w.O)), (59, (bQ v8))]) (O := [.box (bB c), .box (fl v6)]) ?_ ?_
      ·have hr := hb_v8;refine zR<|zM Z<|yS Z (ab.rem Z Z Z (by decide))<|yS Z (aw Z Z Z Z)<|zM Z ?_;refine zc 55 Z (fun g5 => ?_)<|fun g5 => ?_
       ·
        refine zi g5 hr fun hr => yU Z (gd g5 Z) Z<|yU Z (gd g5 Z) Z<|yU Z (gd g5 Z) Z<|yS Z (eP Z (bL g5 Z) Z)<|zN<|zT ?_;obtain rfl := zJ hr;exact zW 2 ⟨Z, Z, Z, Z, Z, Z, Z, Z, trivial⟩ Z Z Z Z
       ·
        refine zo g5 hr fun hr => yV Z (gd g5 Z) (zm Z Z)<|yV Z (gd g5 Z) (dT Z Z (by kernel_rfl))<|yV Z (gd g5 Z) (aw Z Z Z Z)<|yS Z (db Z (bL g5 Z) Z)<|zN<|zT ?_;obtain rfl := zJ hr;exact zW 2 ⟨Z, Z, Z, Z, Z, Z, Z, Z, trivial⟩ Z Z Z Z
      ·have hr := ho_v8;clear hb_v8;refine zX Z (fun g6 => ?_)<|fun g6 => ?_
       ·
        refine zi g6 hr fun hr => zq<|ao<|zy<|zT<|zR<|zM Z<|yS Z (aw Z Z Z Z)<|zM Z<|zN<|zT ?_;obtain rfl := zJ hr;exact ⟨_, rfl, zW 2 ⟨rfl, rfl, rfl, rfl, rfl, rfl, trivial⟩ Z Z Z rfl⟩
       ·
        refine zo g6 hr fun hr => zk<|zT<|zQ<|zR<|zM Z<|zb hr fun y1 h_y1 hr => yS Z (zx Z Z Z ca h_y1 Z)<|yS Z (ab.fieldAddrC Z Z qt Z)<|yS Z (dS Z Z Z cH Z Z)<|yS Z (zC Z Z Z (by kernel_rfl) (zp (Fr (b := y1.B)) (.cons zv .nil)))<|yS Z (ze Z jo Z Z)<|yS Z (zs Z Z Z Z aR Z Z Z Z)<|zN<|zT<|zQ ?_;obtain ⟨v9, hb_v9, ho_v9⟩ := zB hr;clear hr;refine LW.cut (E := [(2, .p (.slice 5 (l.map kc))), (3, (iQ slots)), (4, .ptr 0 0), (8, (bQ false)), (11, .ptr 1 0), (12, (iQ x1.t)), (15, .ptr 2 0), (76, (bQ v9))]) (O := [.box (bB c), .box (fl v6), .box [.p (.int .u64 ((nm y1.B).1)), .p (.int .u64 ((nm y1.B).2))]]) ?_ ?_
        ·have hr := hb_v9;refine zR<|zM Z<|yS Z (dT Z Z (by kernel_rfl))<|yS Z (aw Z Z Z Z)<|zM Z ?_;refine zc 68 Z (fun g7 => ?_)<|fun g7 => ?_
         ·
          refine zi g7 hr fun hr => yU Z (gd g7 Z) Z<|yU Z (gd g7 Z) Z<|yU Z (gd g7 Z) Z<|yU Z (gd g7 Z) Z<|yU Z (gd g7 Z) Z<|yU Z (gd g7 Z) Z<|yU Z (gd g7 Z) Z<|yS Z (eP Z (bL g7 Z) Z)<|zN<|zT ?_;obtain rfl := zJ hr;exact zW 3 ⟨Z, Z, Z, Z, Z, Z, Z, Z, trivial⟩ Z Z Z Z
         ·
          refine zo g7 hr fun hr => yV Z (gd g7 Z) (zm Z Z)<|zb hr fun y2 h_y2 hr => yV Z (gd g7 Z) (zx Z Z Z ca h_y2 Z)<|yV Z (gd g7 Z) (ab.fieldAddrC Z Z u4 Z)<|yV Z (gd g7 Z) (dS Z Z Z bC Z Z)<|yV Z (gd g7 Z) (zm Z Z)<|yV Z (gd g7 Z) (ab.quo Z Z Z (by decide))<|yV Z (gd g7 Z) (aw Z Z Z Z)<|yS Z (db Z (bL g7 Z) Z)<|zN<|zT ?_;obtain rfl := zJ hr;exact zW 3 ⟨Z, Z, Z, Z, Z, Z, Z, Z, trivial⟩ Z Z Z Z
        ·have hr := ho_v9;clear hb_v9;refine zX Z (fun g8 => ?_)<|fun g8 => ?_
         ·
          refine zi g8 hr fun hr => zQ<|zR<|zM Z<|zN<|zT<|zr<|aj<|ay<|aj<|aj<|ay<|aj<|aj ?_;obtain rfl := zJ hr;have hr := congrArg some (hb_x1 _ rfl);obtain rfl := zJ hr;have hr := d8 ho_v5;obtain rfl := zJ hr;exact zf (.one (.tmp Z)) zv
         ·
          refine zo g8 hr fun hr => zk<|zT<|zQ<|zR<|yS Z (zD Z Z Z bE Z Z)<|yS Z (zA Z Z bK)<|yS Z (zD Z Z Z dk Z Z)<|zb hr fun v10 h_v10 hr => yS Z (zC Z Z Z (by kernel_rfl) (zp (Ip h_v10) (.cons zv (.cons zv .nil))))<|zM Z<|zN<|zT<|zQ<|zR<|zM Z<|zN<|zT ?_;obtain ⟨b_v11, hb_v11, ho_v11⟩ := zB hr;clear hr;refine LW.tailB (b := b_v11) (E := fun v11 => [(2, .p (.slice 5 (l.map kc))), (3, (iQ slots)), (4, .ptr 0 0), (8, (bQ false)), (11, .ptr 1 0), (12, (iQ x1.t))]) (O := fun v11 => [.box (bB c), .box (fl v6), .box [.p (.int .u64 ((nm y1.B).1)), .p (.int .u64 ((nm y1.B).2))]]) ?_<|fun v11 e_v11 env_v11 H_v11 hw_v11 => ?_
          ·refine LW.block ?_;refine LW.iterB (E := fun x2 : dq => [(2, .p (.slice 5 (l.map kc))), (3, (iQ slots)), (4, .ptr 0 0), (8, (bQ false)), (11, .ptr 1 0), (12, (iQ x1.t)), (15, .ptr 2 0), (16, .p (.slice 2 (v10.map bH))), (17, (iQ x2.i))]) (O := fun x2 => [.box (bB c), .box (fl v6), .box [.p (.int .u64 ((nm y1.B).1)), .p (.int .u64 ((nm y1.B).2))]]) hb_v11 (zW 3 ⟨rfl, rfl, rfl, rfl, rfl, rfl, rfl, rfl, rfl, trivial⟩ Z Z Z Z)<|fun x2 z_x2 hr hb_x2 => ?_;unfold iT at hr;refine zQ<|zQ<|zR<|zM Z<|zM Z<|yS Z (dT Z Z (by kernel_rfl))<|yS Z (aw Z Z Z Z)<|zN<|zT ?_;refine zX Z (fun g9 => ?_)<|fun g9 => ?_
           ·
            refine zi g9 hr fun hr => zk<|zT<|zQ<|zl<|zQ<|LW.ent (bM.slot Z)<|LW.drawW (by kernel_rfl) (by kernel_rfl) ?_;refine yF (F := []) (s := none) Z (fun H _ => zA Z Z bK) Z ?_;refine yF Z (zd Z Z Z dk Z Z) Z<|zK Z<|zb hr fun y3 h_y3 hr => ?_;refine yF (F := []) (s := none) Z (fun H _ => zx Z Z Z dR h_y3 Z) Z ?_;refine yF (F := []) (s := none) Z (fun H _ => ab.fieldAddrC Z Z gK Z) Z ?_;refine yF (F := []) (s := none) Z (fun H _ => dS Z Z Z bC Z Z) Z ?_;refine zK Z ?_;refine yF (F := []) (s := none) Z (fun H _ => ab.quo Z Z Z (by decide)) Z ?_;refine yF Z (zd Z Z Z aR Z Z) Z ?_;refine yF (F := []) (s := none) Z (fun H _ => ab.build Z Gs Z Z Z) Z ?_;refine yF Z (bJ.alloc Z rC (id := 3) Z) Z<|yF Z (zt Z Z Z Z cB Z Z Z) Z ?_;refine LF.nil ⟨by kernel_rfl, ?_⟩;refine zT<|zQ<|LW.draw2 (by kernel_rfl) (by kernel_rfl)<|yE Z (zA Z Z bK)<|yE Z (zD Z Z Z dk Z Z)<|zH Z<|zb hr fun y4 h_y4 hr => yE Z (zx Z Z Z dR h_y4 Z)<|yE Z (ab.fieldAddrC Z Z cg Z)<|yE Z (dS Z Z Z aT Z Z)<|yE Z (zD Z Z Z cB Z Z)<|zb hr fun v12 h_v12 hr => yE Z (zC Z Z Z (by kernel_rfl) (zp (Iz h_v12) (.cons zv (.cons zv .nil))))<|zH Z<|LO.nil<|zT<|zQ<|LW.draw2 (by kernel_rfl) (by kernel_rfl)<|zH Z<|zH Z<|zb hr fun y5 h_y5 hr => yE Z (zx Z Z Z nw h_y5 Z)<|yE Z (dS Z Z Z aR Z Z)<|yE Z (zD Z Z Z aR Z Z) ?_;refine yE Z (ab.neqAgg Z Z Z Z Z rY)<|zH Z ?_;refine LO.cases 111 Z (fun (g10 : (!((y5.1 == ((nm y1.B).1)) && ((y5.2 == ((nm y1.B).2)) && true))) = true) => ?_) (fun (g10 : (!((y5.1 == ((nm y1.B).1)) && ((y5.2 == ((nm y1.B).2)) && true))) = false) => ?_)
            ·
             refine zi g10 hr fun hr => LO.sk Z Z Z (gd g10 Z) Z Z<|LO.sk Z Z Z (gd g10 Z) Z Z<|LO.sk Z Z Z (gd g10 Z) Z Z<|LO.sk Z Z Z (gd g10 Z) Z Z<|LO.sk Z Z Z (gd g10 Z) Z Z<|LO.sk Z Z Z (gd g10 Z) Z Z<|LO.sk Z Z Z (gd g10 Z) Z Z<|LO.sk Z Z Z (gd g10 Z) Z Z<|LO.sk Z Z Z (gd g10 Z) Z Z<|LO.sk Z Z Z (gd g10 Z) Z Z<|LO.sk Z Z Z (gd g10 Z) Z Z<|LO.sku Z Z Z Z Z<|LO.sku Z Z Z Z Z<|LO.sk Z Z Z (gd g10 Z) Z Z<|yE Z (eP Z (bL g10 Z) Z)<|LO.nil<|zT<|LW.condT Z<|zQ<|zR<|zM Z<|zN<|zT ?_;refine LW.ret<|ay<|aj<|aj<|ay<|aj<|ay<|aj<|aj<|ay<|aj<|aj ?_;obtain rfl := zJ hr;have hr := congrArg some (hb_x2 _ rfl);obtain rfl := zJ hr;have hr := d8 ho_v11;obtain rfl := zJ hr;have hr := congrArg some (hb_x1 _ rfl);obtain rfl := zJ hr;have hr := d8 ho_v5;obtain rfl := zJ hr;exact zf (.one (.tmp Z)) zv
            ·
             refine zo g10 hr fun hr => LO.gd Z Z Z (gd g10 Z) Z (zD Z Z Z bE Z Z)<|LO.gd Z Z Z (gd g10 Z) Z (zm Z Z)<|LO.gd Z Z Z (gd g10 Z) Z (ab.quo Z Z Z (by decide))<|LO.gd Z Z Z (gd g10 Z) Z (zA Z Z bK)<|LO.gd Z Z Z (gd g10 Z) Z (zD Z Z Z dk Z Z)<|LO.gd Z Z Z (gd g10 Z) Z (zm Z Z)<|zb hr fun y6 h_y6 hr => LO.gd Z Z Z (gd g10 Z) Z (zx Z Z Z dR h_y6 Z)<|LO.gd Z Z Z (gd g10 Z) Z (ab.fieldAddrC Z Z gK Z)<|LO.gd Z Z Z (gd g10 Z) Z (dS Z Z Z bC Z Z)<|zb hr fun v13 h_v13 hr => LO.gd Z Z Z (gd g10 Z) Z (zC Z Z Z (by kernel_rfl) (zp (KT h_v13) (.cons zv (.cons zv (.cons zv .nil)))))<|LO.gd Z Z Z (gd g10 Z) Z (zm Z Z) ?_;refine LO.cases 122 Z (fun (g11 : v13 = true) => ?_) (fun (g11 : v13 = false) => ?_)
             ·
              refine zi g11 hr fun hr => LO.gd Z Z Z (gd g11 Z) Z (zm Z Z)<|LO.gd Z Z Z (gd g11 Z) Z (ab.not Z Z)<|LO.gd Z Z Z (gd g10 Z) Z (eP Z (bL g11 Z) Z)<|yE Z (db Z (bL g10 Z) Z)<|LO.nil<|zT ?_;refine zX Z (fun g12 => ?_)<|fun g12 => ?_
              ·
               refine zi g12 hr fun hr => zQ<|zR<|zM Z<|zN<|zT<|zr<|ay<|aj<|aj<|ay<|aj<|ay<|aj<|aj<|ay<|aj<|aj ?_;obtain rfl := zJ hr;have hr := congrArg some (hb_x2 _ rfl);obtain rfl := zJ hr;have hr := d8 ho_v11;obtain rfl := zJ hr;have hr := congrArg some (hb_x1 _ rfl);obtain rfl := zJ hr;have hr := d8 ho_v5;obtain rfl := zJ hr;exact zf (.one (.tmp Z)) zv
              ·
               refine zo g12 hr fun hr => zk<|ai<|zT<|zR<|zM Z<|yS Z (aw Z Z Z Z)<|zM Z<|zN<|zT ?_;obtain rfl := zJ hr;exact ⟨_, rfl, zW 3 ⟨rfl, rfl, rfl, rfl, rfl, rfl, rfl, rfl, rfl, trivial⟩ Z Z Z rfl⟩
             ·
              refine zo g11 hr fun hr => LO.sk Z Z Z (gd g11 Z) Z Z<|LO.sk Z Z Z (gd g11 Z) Z Z<|LO.gd Z Z Z (gd g10 Z) Z (db Z (bL g11 Z) Z)<|yE Z (db Z (bL g10 Z) Z)<|LO.nil<|zT<|LW.condF Z<|zk<|ai<|zT<|zR<|zM Z<|yS Z (aw Z Z Z Z)<|zM Z<|zN<|zT ?_;obtain rfl := zJ hr;exact ⟨_, rfl, zW 3 ⟨rfl, rfl, rfl, rfl, rfl, rfl, rfl, rfl, rfl, trivial⟩ Z Z Z rfl⟩
           ·
            refine zo g9 hr fun hr => zq<|ao<|ao<|zy<|zT ?_;obtain rfl := zJ hr;have hr := congrArg some (hb_x2 _ rfl);obtain rfl := zJ hr;exact ⟨_, rfl, zW 3 ⟨rfl, rfl, rfl, rfl, rfl, rfl, trivial⟩ Z Z Z rfl⟩
          ·obtain rfl := e_v11;have hr := gb ho_v11;clear hb_v11;refine ai<|zT<|LW.weak hw_v11<|zR<|zM Z<|yS Z (aw Z Z Z Z)<|zM Z<|zN<|zT ?_;obtain rfl := zJ hr;exact ⟨_, rfl, zW 2 ⟨rfl, rfl, rfl, rfl, rfl, rfl, trivial⟩ Z Z Z rfl⟩
    ·
     refine zo g3 hr fun hr => zq<|ao<|ao<|zy<|zT ?_;obtain rfl := zJ hr;have hr := congrArg some (hb_x1 _ rfl);obtain rfl := zJ hr;exact ⟨_, rfl, zW 2 ⟨rfl, trivial⟩ Z Z Z rfl⟩
   ·obtain rfl := e_v5;have hr := gb ho_v5;clear hb_v5;refine zT<|LW.weak hw_v5<|zQ<|zR<|zM Z<|zN<|zT<|zr ?_;obtain rfl := zJ hr;exact zf (.one (.tmp Z)) zv
theorem yT {c : Cf} {l : List Nd} (hl : l.length ≤ 100) (hs : ∀ n ∈ l, ks 500 n) : ug c l = some (l.map (dx c)) := by
 have e := aB (step := gm l c) (n := l.length) (fun k => dz.mk (k : Int) ((l.take k).map (dx c))) (dz.mk (l.length : Int) (l.map (dx c))) (fun k hk => by
  obtain ⟨y, hy, hm⟩ := aD hk;obtain ⟨⟨a1, a2⟩, -⟩ := hs y hm;unfold gm;simp only;rw [decide_eq_true (show (k : Int) < (l.length : Int) by omega), ct, aG hy, ob, aS hy, List.map_append, ak (n := k) (by omega)];unfold pk;rw [A0 (by omega) (by omega), ob, aP (by rw [List.length_map, List.length_take, List.length_singleton]; omega) (by omega), ct, ob]
  rfl) (by
  unfold gm;simp only
  rw [decide_eq_false (show ¬ (l.length : Int) < (l.length : Int) by omega), cf, List.take_length]) (by omega)
 have e' : iter (gm l c) bG (dz.mk 0 []) = _ := e;unfold ug sR;rw [e', ob, ob]
theorem BE {w : Vw} (h : w.V.length ≤ 1000) (v : Vt) : rN w v = some true ∨ (rN w v = some false ∧ v ∉ w.V) := by
 have e := sy (step := gB w v) (n := w.V.length) (fun j => dJ.mk (j : Int)) true (fun j => w.V[j]? ≠ some v) (fun j hj => by
  obtain ⟨y, hy, -⟩ := aD hj;unfold gB;simp only;rw [decide_eq_true (show (j : Int) < (w.V.length : Int) by omega), ct, aG hy, ob, I5, ak (n := j) (by omega)];by_cases h : y = v
  ·rw [decide_eq_true h, ct]; exact .inl rfl
  ·rw [decide_eq_false h, cf]; exact .inr ⟨rfl, by rw [hy]; simpa using h⟩) (by
  unfold gB;simp only
  rw [decide_eq_false (show ¬ (w.V.length : Int) < (w.V.length : Int) by omega), cf]) (by omega)
 have e' : iter (gB w v) bG (dJ.mk 0) = some (.inr true) ∨ (iter (gB w v) bG (dJ.mk 0) = some (.inl (dJ.mk (w.V.length : Int))) ∧ ∀ j, j < w.V.length → w.V[j]? ≠ some v) := e;unfold rN;rcases e' with e' | ⟨e', h2⟩
 ·rw [e', ob]; exact .inl rfl
 ·rw [e', ob];refine .inr ⟨rfl, fun hv => ?_⟩;obtain ⟨j, hj⟩ := List.getElem?_of_mem hv;exact h2 j (List.getElem?_eq_some_iff.1 hj).1 hj
section
variable {c : Cf} {bad : List Int} {l : List Ac}
theorem Df (hb : ki c bad l) {k : Nat} (hk : k ≤ 15) : ((b6 (bY c bad) l k).N.map Nd.No).Nodup ∧ ∀ n ∈ (b6 (bY c bad) l k).N, 0 ≤ n.No ∧ n.No ∉ (b6 (bY c bad) l k).Bad := by
 have h := mN (bad := bad) hb.may hb.w (by have := hb.bad; omega) hb.acts k hk;have hn := h.nos;rw [yp] at hn;rw [hn, (kP hb hk).2.1];refine ⟨oL _ _, fun n hm => ?_⟩;have h1 : n.No ∈ (b6 (bY c bad) l k).N.map Nd.No := List.mem_map.2 ⟨n, hm, rfl⟩;rw [hn] at h1;obtain ⟨h2, h3⟩ := List.mem_filter.1 h1;obtain ⟨q, -, e⟩ := List.mem_map.1 h2;exact ⟨by rw [← e]; exact Int.natCast_nonneg q, of_decide_eq_true h3⟩
theorem ww (hb : ki c bad l) {k : Nat} (hk : k ≤ 14) (ht : (3 + k : Int) % 3 = 1) (T : wv (b6 (bY c bad) l (k + 1)) l) {b : Bk} {V : Vw} (O : po (b6 (bY c bad) l k) b V) (o : Of) (ho : o.B = b) :
  iter (iT c (bI.mk (3 + k) (b6 (bY c bad) l k)) (b6 (bY c bad) l (k + 1)) o ((b6 (bY c bad) l (k + 1)).N.map (dx c))) bG (dq.mk 0) = some (.inl (dq.mk ((b6 (bY c bad) l (k + 1)).N.length : Int))) := by
 obtain ⟨e1, e2, e3⟩ := kP hb (k := k) (by omega);obtain ⟨f1, f2, f3⟩ := kP hb (k := k + 1) (by omega);have G' := l9 hb (k := k + 1) (by omega);have hfit := tB hb (k := k + 1) (by omega);have hN := hfit.n;have hag := fun {x : Nd} (hx : x ∈ (b6 (bY c bad) l (k + 1)).N) => Gi (l9 hb (k := k) (by omega)) T (by rw [e3]; exact ht) O hx;have hat := G'.time.at_;rw [f3] at hat;rw [e1, e3] at hag;generalize b6 (bY c bad) l (k + 1) = w' at hfit hN hag hat ⊢
 exact aB (step := iT c (bI.mk (3 + k) (b6 (bY c bad) l k)) w' o (w'.N.map (dx c))) (n := w'.N.length) (fun j => dq.mk (j : Int)) (.inl (dq.mk (w'.N.length : Int))) (fun j hj => by
  obtain ⟨x, hx, hm⟩ := aD hj;obtain ⟨h1, h2⟩ := hag hm;obtain ⟨-, ⟨a1, a2⟩, -⟩ := hfit.nodes x hm
  have hy : (w'.N.map (dx c))[j]? = some (nm b) := by
   rw [List.getElem?_map, hx];show some (dx c x) = _;unfold dx;rw [hat x hm, Di (by omega) (by omega), if_neg (by omega), show ((3 : Int) + ((k + 1 : Nat) : Int) - 1) / 3 - 1 = (3 + k : Int) / 3 - 1 by omega, h1]
  have es : IntKind.i64.wrap ((3 + k : Int).tdiv 3) = (3 + k : Int) / 3 := by rw [Int.tdiv_eq_ediv_of_nonneg (by omega), cv (by omega) (by omega)]
  unfold iT;simp only;rw [decide_eq_true (show (j : Int) < ((w'.N.map (dx c)).length : Int) by rw [List.length_map]; omega), ct, aG hx, ob, ob, es, ho];rcases BE (w := x.In) (by omega) ⟨x.No, (3 + k : Int) / 3, nm b⟩ with e | ⟨e, h3⟩
  ·rw [e, ob, aG hy, ob, z7, decide_eq_true rfl, Bool.not_true, cf, ob, sQ, ob, ak (n := j) (by omega)]
   cases decide (x.No ∈ lz c ((3 + k : Int) / 3)) with
   | true => rw [ct, cf]
   | false => rw [cf]
  ·rw [e, ob, aG hy, ob, z7, decide_eq_true rfl, Bool.not_true, cf, ob, sQ, ob, ak (n := j) (by omega), decide_eq_false fun h4 => h3 (h2 h4), cf]) (by
  unfold iT;simp only
  rw [decide_eq_false (show ¬ (w'.N.length : Int) < ((w'.N.map (dx c)).length : Int) by rw [List.length_map]; omega), cf]) (by omega)
theorem Dr (ha : ui = some true) (c : Cf) (bad : List Int) (l : List Ac) (slots : Int) : xK c bad l slots = some true := by
 unfold xK;rw [ha, ob];rcases Bz c bad l slots with e | ⟨e, hb, hs1, hs4⟩
 ·rw [e, ob, Bool.not_true, cf, Bool.not_false, ob, ct]
 have hbb := hb.bad;rw [e, ob, Bool.not_true, cf, ob, cf, BA hb.may (by omega), ob]
 obtain ⟨r, hr, hp⟩ := cY (step := mK c l slots) (fun x => ∃ k : Nat, x.t = 3 + k ∧ (k : Int) ≤ 3 * slots ∧ x.w = b6 (bY c bad) l k ∧ xP (b6 (bY c bad) l k) ∧ ((3 + k : Int) % 3 = 1 → (b6 (bY c bad) l k).O ≠ [] → ∃ b V, po (b6 (bY c bad) l k) b V)) (fun x => (3 * slots + 3 - x.t).toNat) (fun b => b = .inr true ∨ ∃ x, b = .inl x) (by
  rintro ⟨t, w⟩ ⟨k, ht, hk, hw, hq, ho⟩;simp only at ht hw;subst ht hw;unfold mK;simp only;rw [cv (n := 3 * slots) (by omega) (by omega), cv (n := 3 * slots + 3) (by omega) (by omega)];by_cases hlt : (3 + k : Int) < 3 * slots + 3
  ·rw [decide_eq_true hlt, ct, G5 hb (by omega), ob];rcases BD (tB hb (k := k + 1) (by omega)) hb.acts with e | ⟨e, T⟩
   ·right;exact ⟨_, by rw [e, ob, ct], .inl rfl⟩
   ·left;obtain ⟨e1, e2, e3⟩ := kP hb (k := k) (by omega);have G := l9 hb (k := k) (by omega);have hfit := tB hb (k := k + 1) (by omega);have hN := hfit.n;have hgood := Df hb (k := k) (by omega);refine ⟨bI.mk (3 + ((k + 1 : Nat) : Int)) (b6 (bY c bad) l (k + 1)), ?_, ⟨k + 1, rfl, by omega, rfl, Dd G, fun h1 h2 => EV G T (EX hb (by omega)) hgood.1 hgood.2 (vo hb k (by omega)) hq (by rw [e3]; omega) h2⟩, by simp only; omega⟩
    have hnext : some (Sum.inl (bI.mk (IntKind.i64.wrap (3 + (k : Int) + 1)) (b6 (bY c bad) l (k + 1)))) = (some (Sum.inl (bI.mk (3 + ((k + 1 : Nat) : Int)) (b6 (bY c bad) l (k + 1)))) : Option (bI ⊕ (bI ⊕ Bool))) := by
     rw [cv (n := 3 + (k : Int) + 1) (by omega) (by omega)];congr 3
    rw [e, ob, cf];by_cases h3 : (3 + k : Int).tmod 3 = 1
    ·rw [show ((3 + k : Int).tmod 3 != 1) = false by simp [h3], cf, ob];rw [Int.tmod_eq_emod_of_nonneg (by omega)] at h3;by_cases h4 : (b6 (bY c bad) l k).O = []
     ·rw [h4];exact hnext
     ·obtain ⟨b, V, O⟩ := ho h3 h4;have hloop := ww hb (by omega) h3 T O ⟨(b6 (bY c bad) l k).Tick / 3, j7 (b6 (bY c bad) l k).C ((b6 (bY c bad) l k).Tick / 3), b, V⟩ rfl;have hO := O.told
      have hix : ix (b6 (bY c bad) l k).O 0 = some ⟨(b6 (bY c bad) l k).Tick / 3, j7 (b6 (bY c bad) l k).C ((b6 (bY c bad) l k).Tick / 3), b, V⟩ := by rw [hO]; rfl
      have hl : ((b6 (bY c bad) l k).O.length : Int) = 1 := by rw [hO]; rfl
      have es : IntKind.i64.wrap ((3 + k : Int).tdiv 3) = (3 + k : Int) / 3 := by rw [Int.tdiv_eq_ediv_of_nonneg (by omega), cv (by omega) (by omega)]
      rw [hl, show ((1 : Int) == 0) = false from rfl, cf, hix, ob, show ((1 : Int) != 1) = false from rfl, cf, ob, es, e3, show (((3 + k : Int) / 3) != ((3 + k : Int) / 3)) = false by simp, ob, cf, yT (by omega) hfit.nodes, ob];rw [e3] at hloop;rw [hloop, ob];exact hnext
    ·rw [show ((3 + k : Int).tmod 3 != 1) = true by simp [h3], ct, ob, ct];exact hnext
  ·right;rw [decide_eq_false hlt, cf]
   exact ⟨_, rfl, .inr ⟨_, rfl⟩⟩) (n := bG) (x := bI.mk 3 (bY c bad)) ⟨0, rfl, by show ((0 : Nat) : Int) ≤ _; omega, rfl, fun _ => ⟨rfl, fun n hn => by
    obtain ⟨i, -, h⟩ := List.mem_map.1 hn;subst h
    rfl⟩, fun _ h => absurd rfl h⟩ (ec (by simp only; omega))
 rw [hr, ob];rcases hp with rfl | ⟨x, rfl⟩ <;> rfl
end
def Kk (a : Ac) : Prop := aZ .i64 a.Tick ∧ aZ .i64 a.To ∧ (∀ b ∈ a.B, Hl b) ∧ ∀ v ∈ a.V, HJ v
theorem Jc {p : PV} (h : pp (.agg [.int .i64, .int .i64, .bool, .slice 5 (.agg [.int .i64, .int .i64, .int .u64, .int .u64, .int .u64]), .slice 4 (.agg [.int .i64, .int .i64, .int .u64, .int .u64])]) p) : ∃ a : Ac, p = kc a ∧ Kk a := by
 cases h with | agg h =>
 cases h with | cons a1 h => cases h with | cons a2 h => cases h with | cons a3 h => cases h with | cons a4 h => cases h with | cons a5 h =>
  cases h;obtain ⟨x, rfl, hx⟩ := mY (fun _ h => Jd h) a4;obtain ⟨y, rfl, hy⟩ := mY (fun _ h => Jg h) a5;cases a1; cases a2; cases a3;exact ⟨⟨_, _, _, x, y⟩, rfl, by assumption, by assumption, hx, hy⟩
end Go.Mg
namespace Go.Proofs.YtbjmcafamkdokaaGreat
def io : List Nat := [104, 97, 114, 110, 101, 115, 115, 32, 51, 101, 97, 51, 57, 55, 99, 53, 56, 97, 55, 50, 48, 55, 49, 52, 99, 98, 101, 48, 97, 97, 50, 55, 55, 53, 56, 98, 49, 49, 48, 102, 57, 99, 99, 98, 48, 49, 99, 51, 48, 97, 49, 50, 97, 99, 97, 54, 50, 53, 52, 56, 51, 100, 97, 54, 56, 97, 98, 97, 51, 98, 50, 52, 32, 99, 117, 116, 32, 97, 116, 32, 109, 97, 114, 105, 103, 111, 108, 100, 47, 109, 97, 114, 105, 103, 111, 108, 100, 116, 111, 112, 46, 84, 111, 112, 65, 103, 114, 101, 101, 32, 109, 97, 114, 105, 103, 111, 108, 100, 47, 109, 97, 114, 105, 103, 111, 108, 100, 116, 111, 112, 46, 84, 111, 112, 83, 117, 114, 101, 32, 109, 97, 114, 105, 103, 111, 108, 100, 47, 109, 97, 114, 105, 103, 111, 108, 100, 116, 111, 112, 46, 84, 111, 112, 78, 101, 118, 101, 114, 32, 109, 97, 114, 105, 103, 111, 108, 100, 47, 109, 97, 114, 105, 103, 111, 108, 100, 108, 97, 119, 50, 48, 46, 80, 108, 97, 121, 72, 111, 110, 101, 115, 116, 32, 109, 97, 114, 105, 103, 111, 108, 100, 47, 109, 97, 114, 105, 103, 111, 108, 100, 108, 97, 119, 50, 48, 46, 80, 108, 97, 121, 80, 97, 114, 116, 115, 32, 109, 97, 114, 105, 103, 111, 108, 100, 47, 109, 97, 114, 105, 103, 111, 108, 100, 108, 97, 119, 50, 48, 46, 80, 108, 97, 121, 81, 117, 105, 101, 116, 32, 109, 97, 114, 105, 103, 111, 108, 100, 47, 109, 97, 114, 105, 103, 111, 108, 100, 108, 97, 119, 50, 48, 46, 80, 108, 97, 121, 79, 116, 104, 101, 114, 32, 109, 97, 114, 105, 103, 111, 108, 100, 47, 109, 97, 114, 105, 103, 111, 108, 100, 108, 97, 119, 50, 48, 46, 80, 108, 97, 121, 78, 111, 100, 101, 115, 32, 109, 97, 114, 105, 103, 111, 108, 100, 47, 109, 97, 114, 105, 103, 111, 108, 100, 108, 97, 119, 50, 48, 46, 80, 108, 97, 121, 83, 112, 114, 101, 97, 100, 115, 32, 109, 97, 114, 105, 103, 111, 108, 100, 47, 109, 97, 114, 105, 103, 111, 108, 100, 108, 97, 119, 50, 49, 46, 65, 117, 100, 105, 116, 83, 101, 101, 110, 32, 109, 97, 114, 105, 103, 111, 108, 100, 47, 109, 97, 114, 105, 103, 111, 108, 100, 108, 97, 119, 50, 49, 46, 65, 117, 100, 105, 116, 72, 111, 108, 100, 115]
theorem KZ : Tryz.prog.initOrder = String.ofList (io.map Char.ofNat) := by kernel_rfl
theorem GW : Tryz.prog.initOrder.toList = io.map Char.ofNat := by rw [KZ, String.toList_ofList]
def ws : List (List Nat) := [[99, 117, 116], [97, 116], [109, 97, 114, 105, 103, 111, 108, 100, 47, 109, 97, 114, 105, 103, 111, 108, 100, 116, 111, 112, 46, 84, 111, 112, 65, 103, 114, 101, 101], [109, 97, 114, 105, 103, 111, 108, 100, 47, 109, 97, 114, 105, 103, 111, 108, 100, 116, 111, 112, 46, 84, 111, 112, 83, 117, 114, 101], [109, 97, 114, 105, 103, 111, 108, 100, 47, 109, 97, 114, 105, 103, 111, 108, 100, 116, 111, 112, 46, 84, 111, 112, 78, 101, 118, 101, 114], [109, 97, 114, 105, 103, 111, 108, 100, 47, 109, 97, 114, 105, 103, 111, 108, 100, 108, 97, 119, 50, 48, 46, 80, 108, 97, 121, 72, 111, 110, 101, 115, 116], [109, 97, 114, 105, 103, 111, 108, 100, 47, 109, 97, 114, 105, 103, 111, 108, 100, 108, 97, 119, 50, 48, 46, 80, 108, 97, 121, 80, 97, 114, 116, 115], [109, 97, 114, 105, 103, 111, 108, 100, 47, 109, 97, 114, 105, 103, 111, 108, 100, 108, 97, 119, 50, 48, 46, 80, 108, 97, 121, 81, 117, 105, 101, 116], [109, 97, 114, 105, 103, 111, 108, 100, 47, 109, 97, 114, 105, 103, 111, 108, 100, 108, 97, 119, 50, 48, 46, 80, 108, 97, 121, 79, 116, 104, 101, 114], [109, 97, 114, 105, 103, 111, 108, 100, 47, 109, 97, 114, 105, 103, 111, 108, 100, 108, 97, 119, 50, 48, 46, 80, 108, 97, 121, 78, 111, 100, 101, 115], [109, 97, 114, 105, 103, 111, 108, 100, 47, 109, 97, 114, 105, 103, 111, 108, 100, 108, 97, 119, 50, 48, 46, 80, 108, 97, 121, 83, 112, 114, 101, 97, 100, 115], [109, 97, 114, 105, 103, 111, 108, 100, 47, 109, 97, 114, 105, 103, 111, 108, 100, 108, 97, 119, 50, 49, 46, 65, 117, 100, 105, 116, 83, 101, 101, 110], [109, 97, 114, 105, 103, 111, 108, 100, 47, 109, 97, 114, 105, 103, 111, 108, 100, 108, 97, 119, 50, 49, 46, 65, 117, 100, 105, 116, 72, 111, 108, 100, 115]]
theorem DG : behindMainWord (wordsSigns Tryz.prog.initOrder.toList) = ws.map (List.map Char.ofNat) := by
 rw [GW]
 kernel_rfl
theorem Jv : stripLifts liftWords (ws.map (List.map Char.ofNat)) = ([], ws.map (List.map Char.ofNat)) := by kernel_rfl
theorem Js : Tryz.prog.doorRows = [] := by kernel_rfl
theorem K0 : Tryz.prog.laysLater = false := by kernel_rfl
theorem Jq : Tryz.prog.bearsReflect = false := by kernel_rfl
theorem FC : (ws.map (List.map Char.ofNat)).head? = some "cut".toList := by kernel_rfl
theorem GR (P : Program) (W : List (List Char)) (hW : behindMainWord (wordsSigns P.initOrder.toList) = W) (hs : stripLifts liftWords W = ([], W)) (hh : W.head? = some "cut".toList) (hr : P.doorRows = []) (hl : P.laysLater = false) (hb : P.bearsReflect = false) : P.mayEnter = true := by
 unfold Program.mayEnter;rw [hW]
 cases W with
 | nil => cases hh
 | cons c r =>
  simp only [hs, hh, hl, hb, Program.doorFits, hr];simp
theorem mayEnter : Tryz.prog.mayEnter = true := GR Tryz.prog _ DG Jv FC Js K0 Jq
theorem own : ownKnob Tryz.prog.godebug = none := by kernel_rfl
theorem ym : laidOutB Tryz.prog = true := by kernel_rfl
theorem Jr : mapsRowed Tryz.prog = true := by kernel_rfl
theorem I9 : Tryz.prog.stopsHeard = true := by kernel_rfl
theorem EQ (P : Program) (W : List (List Char)) (hW : behindMainWord (wordsSigns P.initOrder.toList) = W) (hh : W.head? = some "cut".toList) : P.make = some .cut := by
 unfold Program.make;rw [hW]
 cases W with
 | nil => cases hh
 | cons c r =>
  have e : c = "cut".toList := by simpa using hh
  subst e;show (if _ then _ else _) = _;rw [if_neg (by decide), if_pos (by simp)]
theorem Jl : Tryz.prog.make = some .cut := EQ Tryz.prog _ DG FC
theorem Jj : Tryz.prog.liftsFinal = false := by
 unfold Program.liftsFinal Program.headLifts;rw [DG]
 kernel_rfl
end Go.Proofs.YtbjmcafamkdokaaGreat
