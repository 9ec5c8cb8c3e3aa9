/- A world behind a tick. A world that begins, and goes on. Are two nodes the same? Are two worlds the same? The example; what is begun. All that is seen; what is held. The example of audits. AuditSeen. Laws of views. Laws of views. Conditions: none. -/
import Derived.Test.YtbjmcafamkdokaaGreatX3
import Derived.Test.YtbjmcafamkdokaaGreatX8
import Derived.Test.YtbjmcafamkdokaaGreatX6
import Derived.Test.YtbjmcafamkdokaaGreatX5
import Derived.Test.YtbjmcafamkdokaaGreatX7
set_option maxRecDepth 100000
set_option linter.unusedSimpArgs false
set_option linter.unusedVariables false
namespace Go.Mg
open Go.Proofs
def uu (w : Wd) (l : List Ac) : Option (Vw × Int × Bool × List Ac) :=
 (rE w.N).bind fun v1 =>
 (Ec w.C (IntKind.i64.wrap (w.Tick.tdiv 3))).bind fun v2 =>
 (sO w.Bad v2).bind fun v3 =>
 (pS l w).bind fun v4 =>
 some (v1, v2, v3, v4)
theorem GL {w : Wd} {l : List Ac} {r_ : Vw × Int × Bool × List Ac} (hr : uu w l = some r_) : LC Tryz.prog 51 [.p (DE w), .p (.slice 5 (l.map kc))] [] (Is (.agg (kG w r_.1 r_.2.1 r_.2.2.1 r_.2.2.2 87 3 2)) [.box (fl w), .box (kG w r_.1 r_.2.1 r_.2.2.1 r_.2.2.2 87 3 2), .box (kG w r_.1 r_.2.1 r_.2.2.1 r_.2.2.2 87 3 2), .box [.fn 86 [] [.ptr 0 0]]]) := by
 refine dc Tryz.func51 Z Z Z ?_;unfold uu at hr;refine zQ<|zR<|yS Z (bV Z Z Z Z Z)<|yS Z (ze Z xq Z Z)<|zN<|zT<|zQ<|LW.ent (bM.slot Z)<|LW.drawW (by kernel_rfl) (by kernel_rfl)<|yF Z (zd Z Z Z bU Z Z) Z ?_;refine yF (F := []) (s := none) Z (fun H _ => zA Z Z bK) Z ?_;refine yF Z (zd Z Z Z dk Z Z) Z<|zb hr fun v1 h_v1 hr => ?_;refine yF (F := []) (s := none) Z (fun H _ => zC Z Z Z (by kernel_rfl) (zp (Fh h_v1) (.cons zv .nil))) Z ?_;refine yF (F := []) (s := none) Z (fun H _ => zA Z Z ja) Z ?_;refine yF Z (zd Z Z Z bC Z Z) Z ?_;refine yF (F := []) (s := none) Z (fun H _ => ab.quo Z Z Z (by decide)) Z ?_;refine yF (F := []) (s := none) Z (fun H _ => ab.build Z Gr Z Z Z) Z ?_;refine yF Z (bJ.alloc Z xq (id := 2) Z) Z<|yF Z (zt Z Z Z Z ri Z Z Z) Z ?_;refine LF.nil ⟨by kernel_rfl, ?_⟩;refine zT<|zQ<|zR<|yS Z (zA Z Z i9)<|yS Z (zD Z Z Z bE Z Z)<|yS Z (zA Z Z u9)<|yS Z (zD Z Z Z bC Z Z)<|zb hr fun v2 h_v2 hr => yS Z (zC Z Z Z (by kernel_rfl) (zp (Kf h_v2) (.cons zv (.cons zv .nil))))<|yS Z (zA Z Z qw)<|yS Z (zs Z Z Z Z bC Z Z Z Z)<|zN<|zT<|zQ<|zR<|yS Z (zA Z Z ky)<|yS Z (zD Z Z Z fh Z Z)<|yS Z (zA Z Z qw)<|yS Z (zD Z Z Z bC Z Z)<|zb hr fun v3 h_v3 hr => yS Z (zC Z Z Z (by kernel_rfl) (zp (Ce h_v3) (.cons zv (.cons zv .nil))))<|yS Z (zA Z Z u7)<|yS Z (zs Z Z Z Z AQ Z Z Z Z)<|zN ?_;refine zT<|zQ<|zR<|zM Z<|yS Z (ab.makeFunc Z Z Z)<|zb hr fun v4 h_v4 hr => yS Z (zC Z Z Z (by kernel_rfl) (LC.pre (Ez h_v4) Z Z Z))<|yS Z (zA Z Z va)<|yS Z (zs Z Z Z Z Dw Z Z Z Z)<|zN<|zT<|zQ<|zR<|yS Z (ab.makeFunc Z Z Z)<|yS Z (ze Z J0 Z Z)<|yS Z (zs Z Z Z Z sL Z Z Z Z)<|zN<|zT<|zQ<|zR<|yS Z (ab.makeFunc Z Z Z)<|yS Z (zA Z Z u8)<|yS Z (zs Z Z Z Z DC Z Z Z Z)<|zN ?_;refine zT<|zQ<|zR<|yS Z (zD Z Z Z ri Z Z)<|yS Z (zs Z Z Z Z ri Z Z Z Z)<|zN<|zT<|zr ?_;obtain rfl := zJ hr;exact ap (.one (.cellAgg Z Z (by kernel_rfl) Z))<|⟨rfl, rfl⟩
structure ft where
 t20 : Int
 v_in : Vw
 offers : List Of
def nJ (w : Wd) (al : Vw) (wh : Int) (me : Bool) (cl : List Ac) (at_ : Int) (x1 : ft) : Option (ft ⊕ ft) :=
 bif decide (x1.t20 < (cl.length : Int)) then
  (ix cl x1.t20).bind fun y1 =>
  bif decide (0 ≤ at_) then
   bif (bits .and .i64 (y1.To.fdiv (2 ^ (min (Int.toNat at_) IntKind.i64.bits))) 1) == 0 then
    some (.inl (ft.mk (IntKind.i64.wrap (x1.t20 + 1)) x1.v_in x1.offers))
   else
    (uq y1 w al).bind fun v2 =>
    bif !y1.Offer then
     (xL x1.v_in v2).bind fun v3 =>
     some (.inl (ft.mk (IntKind.i64.wrap (x1.t20 + 1)) v3 x1.offers))
    else
     (
      bif me then
       some (decide ((v2.B.length : Int) > 0))
      else
       some false
     ).bind fun v4 =>
     bif v4 then
      (ix v2.B 0).bind fun y2 =>
      bif Hi v2.B 1 v2.B.length then
       bif room x1.offers.length [Of.mk (IntKind.i64.wrap (w.Tick.tdiv 3)) wh y2 (Vw.mk (v2.B.drop (1 : Int).toNat) v2.V)].length 104 then
        some (.inl (ft.mk (IntKind.i64.wrap (x1.t20 + 1)) x1.v_in (x1.offers ++ [Of.mk (IntKind.i64.wrap (w.Tick.tdiv 3)) wh y2 (Vw.mk (v2.B.drop (1 : Int).toNat) v2.V)])))
       else none
      else none
     else
      some (.inl (ft.mk (IntKind.i64.wrap (x1.t20 + 1)) x1.v_in x1.offers))
  else none
 else
  some (.inr (ft.mk x1.t20 x1.v_in x1.offers))
def HH (w : Wd) (al : Vw) (wh : Int) (me : Bool) (cl : List Ac) (at_ : Int) : Option (Vw × List Of) :=
 bif room 0 w.O.length 104 then
  (iter (nJ w al wh me cl at_) bG (ft.mk 0 al w.O)).bind fun v1 =>
  some (v1.v_in, v1.offers)
 else none
theorem KW {w : Wd} {al : Vw} {wh : Int} {me : Bool} {cl : List Ac} {at_ : Int} {r_ : Vw × List Of} (hr : HH w al wh me cl at_ = some r_) : LC Tryz.prog 52 [.agg (kG w al wh me cl 87 5 4), (iQ at_)] (hM w al wh me cl 87 86) (Is (.tup [.p (mA r_.1), (kO r_.2)]) (hM w al wh me cl 87 86)) := by
 refine dc Tryz.func52 Z Z Z ?_;unfold HH at hr;refine zQ<|zR<|yS Z (bV Z Z Z Z Z)<|yS Z (ze Z ia Z Z)<|zM Z<|zN<|zT<|zQ<|LW.ent (bM.slot Z)<|LW.ent (bM.slot Z)<|LW.drawW (by kernel_rfl) (by kernel_rfl) ?_;refine yF (F := []) (s := none) Z (fun H _ => zA Z Z qv) Z ?_;refine yF Z (zd Z Z Z aT Z Z) Z ?_;refine yF (F := []) (s := none) Z (fun H _ => zA Z Z CK) Z ?_;refine yF (F := []) (s := none) Z (fun H _ => zA Z Z gJ) Z ?_;refine yF Z (zd Z Z Z bT Z Z) Z<|zg hr fun q1 hr => ?_;refine yF Z (bJ.callV (id := 9) (qs := [(kO w.O)]) Z Z Z (by kernel_rfl) (Cj q1) (fun H => (.consC zv .nil)) Z) Z ?_;refine yF Z (bJ.alloc Z ia (id := 8) Z) Z<|yF Z (zt Z Z Z Z aT Z Z Z) Z<|zK Z ?_;refine LF.nil ⟨by kernel_rfl, ?_⟩;refine zT<|zQ<|zQ<|zR<|yS Z (zA Z Z va)<|yS Z (zD Z Z Z Dw Z Z)<|yS Z (dT Z Z (by kernel_rfl))<|zM Z<|zN<|zT ?_;obtain ⟨v1, hb_v1, ho_v1⟩ := zB hr;clear hr;refine LW.tail (E := [(4, .ptr 7 0), (5, .zs), (6, .ptr 8 0), (7, (jO 9 v1.offers))]) (O := [.box (fl w), .box tL, .box (fl w), .box (kG w al wh me cl 87 5 4), .box (kG w al wh me cl 87 5 4), .box [.fn 86 [] [.ptr 2 0]], .box (kG w al wh me cl 87 5 4), .box [.zs, .zs], .box (de v1.v_in), .vec 9 (v1.offers.map dP)]) ?_<|fun env_v1 H_v1 hw_v1 => ?_
 ·refine LW.block ?_;refine LW.iterB (E := fun x1 : ft => [(1, (iQ at_)), (2, .ptr 6 0), (4, .ptr 7 0), (5, .zs), (6, .ptr 8 0), (7, (jO 9 x1.offers)), (18, .p (.slice 5 (cl.map kc))), (19, .p (.int .i64 (cl.length : Int))), (20, (iQ x1.t20))]) (O := fun x1 => [.box (fl w), .box tL, .box (fl w), .box (kG w al wh me cl 87 5 4), .box (kG w al wh me cl 87 5 4), .box [.fn 86 [] [.ptr 2 0]], .box (kG w al wh me cl 87 5 4), .box [.zs, .zs], .box (de x1.v_in), .vec 9 (x1.offers.map dP)]) hb_v1 (zW 10 ⟨rfl, rfl, rfl, rfl, rfl, rfl, rfl, rfl, rfl, trivial⟩ Z Z Z Z)<|fun x1 z_x1 hr hb_x1 => ?_;unfold nJ at hr;refine zQ<|zR<|yS Z (aw Z Z Z Z)<|zN<|zT<|zQ ?_;refine zX Z (fun g1 => ?_)<|fun g1 => ?_
  ·
   refine zi g1 hr fun hr => zk<|zT<|zQ<|zl<|zQ<|zR<|zb hr fun y1 h_y1 hr => yS Z (zx Z Z Z mq h_y1 Z)<|yS Z (dS Z Z Z jW Z Z)<|yS Z (ze Z xl Z Z)<|yS Z (zs Z Z Z Z jW Z Z Z Z)<|zN<|zT<|zQ<|zQ<|zR<|yS Z (zA Z Z uZ)<|yS Z (zD Z Z Z bC Z Z)<|zM Z<|zg hr fun q2 hr => yS Z (ab.shr Z Z Z (of_decide_eq_true q2))<|yS Z (aw Z Z Z Z)<|yS Z (aw Z Z Z Z) ?_;refine zN<|zT ?_;refine zX Z (fun g2 => ?_)<|fun g2 => ?_
   ·
    refine zi g2 hr fun hr => zq<|ao<|zy<|zT<|zR<|yS Z (aw Z Z Z Z)<|zM Z<|zN<|zT ?_;obtain rfl := zJ hr;exact ⟨_, rfl, zW 10 ⟨rfl, rfl, rfl, rfl, rfl, rfl, rfl, rfl, rfl, trivial⟩ Z Z Z rfl⟩
   ·
    refine zo g2 hr fun hr => zk<|zT<|zQ<|zR<|yS Z (zA Z Z u8)<|yS Z (zD Z Z Z DC Z Z)<|yS Z (zD Z Z Z jW Z Z)<|zb hr fun v2 h_v2 hr => yS Z (zC Z Z Z (by kernel_rfl) (LC.pre (GI h_v2) Z Z Z))<|yS Z (ze Z ia Z Z)<|yS Z (zs Z Z Z Z aT Z Z Z Z)<|zN<|zT<|zl<|zQ<|zR<|yS Z (zA Z Z CF)<|yS Z (zD Z Z Z AQ Z Z)<|yS Z (ab.not Z Z)<|zM Z<|zN<|zT ?_;refine zX Z (fun g3 => ?_)<|fun g3 => ?_
    ·
     refine zi g3 hr fun hr => zR<|yS Z (zD Z Z Z aT Z Z)<|yS Z (zD Z Z Z aT Z Z)<|zb hr fun v3 h_v3 hr => yS Z (zC Z Z Z (by kernel_rfl) (zp (DM h_v3) (.cons zv (.cons zv .nil))))<|yS Z (zs Z Z Z Z aT Z Z Z Z)<|zN<|ai<|ai<|zT<|zR<|yS Z (aw Z Z Z Z)<|zM Z<|zN<|zT ?_;obtain rfl := zJ hr;exact ⟨_, rfl, zW 10 ⟨rfl, rfl, rfl, rfl, rfl, rfl, rfl, rfl, rfl, trivial⟩ Z Z Z rfl⟩
    ·
     have hr := zO g3 hr;obtain ⟨v4, hb_v4, ho_v4⟩ := zB hr;clear hr;refine LW.cut (E := [(1, (iQ at_)), (2, .ptr 6 0), (4, .ptr 7 0), (5, .zs), (6, .ptr 8 0), (7, (jO 9 x1.offers)), (10, .ptr 11 0), (18, .p (.slice 5 (cl.map kc))), (19, .p (.int .i64 (cl.length : Int))), (20, (iQ x1.t20)), (41, (bQ v4))]) (O := [.box (fl w), .box tL, .box (fl w), .box (kG w al wh me cl 87 5 4), .box (kG w al wh me cl 87 5 4), .box [.fn 86 [] [.ptr 2 0]], .box (kG w al wh me cl 87 5 4), .box [.zs, .zs], .box (de x1.v_in), .vec 9 (x1.offers.map dP), .box [(iQ y1.Tick), (iQ y1.To), (bQ y1.Offer), (kB y1.B), (kV y1.V)], .box (de v2)]) ?_ ?_
     ·have hr := hb_v4;refine zR<|yS Z (zA Z Z u7)<|yS Z (zD Z Z Z AQ Z Z)<|zM Z ?_;refine zc 44 Z (fun g4 => ?_)<|fun g4 => ?_
      ·
       refine zi g4 hr fun hr => yV Z (gd g4 Z) (zA Z Z bD)<|yV Z (gd g4 Z) (zD Z Z Z dE Z Z)<|yV Z (gd g4 Z) (dT Z Z (by kernel_rfl))<|yV Z (gd g4 Z) (aw Z Z Z Z)<|yS Z (eP Z (bL g4 Z) Z)<|zM Z<|zN<|zT ?_;obtain rfl := zJ hr;exact zW 12 ⟨Z, Z, Z, Z, Z, Z, Z, Z, Z, Z, Z, trivial⟩ Z Z Z Z
      ·
       refine zo g4 hr fun hr => yU Z (gd g4 Z) Z<|yU Z (gd g4 Z) Z<|yU Z (gd g4 Z) Z<|yU Z (gd g4 Z) Z<|yS Z (db Z (bL g4 Z) Z)<|zM Z<|zN<|zT ?_;obtain rfl := zJ hr;exact zW 12 ⟨Z, Z, Z, Z, Z, Z, Z, Z, Z, Z, Z, trivial⟩ Z Z Z Z
     ·have hr := ho_v4;clear hb_v4;refine zX Z (fun g5 => ?_)<|fun g5 => ?_
      ·
       refine zi g5 hr fun hr => LW.drawW (by kernel_rfl) (by kernel_rfl)<|zK Z ?_;refine yF (F := []) (s := none) Z (fun H _ => zA Z Z u9) Z ?_;refine yF Z (zd Z Z Z bC Z Z) Z ?_;refine yF (F := []) (s := none) Z (fun H _ => zA Z Z qw) Z ?_;refine yF Z (zd Z Z Z bC Z Z) Z ?_;refine yF (F := []) (s := none) Z (fun H _ => zA Z Z bD) Z ?_;refine yF Z (zd Z Z Z dE Z Z) Z<|zb hr fun y2 h_y2 hr => ?_;refine yF (F := []) (s := none) Z (fun H _ => zx Z Z Z eB h_y2 Z) Z ?_;refine yF (F := []) (s := none) Z (fun H _ => dS Z Z Z cH Z Z) Z ?_;refine yF (F := []) (s := none) Z (fun H _ => zA Z Z bD) Z ?_;refine yF Z (zd Z Z Z dE Z Z) Z<|zg hr fun q3 hr => ?_;refine yF (F := []) (s := none) Z (fun H _ => ab.sliceLo Z Z Z eB q3) Z ?_;refine yF (F := []) (s := none) Z (fun H _ => zA Z Z bP) Z ?_;refine yF Z (zd Z Z Z eC Z Z) Z ?_;refine yF (F := []) (s := none) Z (fun H _ => ab.build Z nS Z Z Z) Z ?_;refine yF (F := []) (s := none) Z (fun H _ => ab.build Z Cc Z Z Z) Z ?_;refine yF (F := []) (s := none) Z (fun H _ => mD Z ca Z Z Z Z Z) Z ?_;refine zg hr fun q4 hr => yF Z (bJ.appendX dP x1.offers [Of.mk (IntKind.i64.wrap (w.Tick.tdiv 3)) wh y2 (Vw.mk (v2.B.drop (1 : Int).toNat) v2.V)] rfl Z Z Z Z ca q4) Z<|zK Z ?_;refine LF.nil ⟨by kernel_rfl, ?_⟩;refine ai<|ai<|zT<|zR<|yS Z (aw Z Z Z Z)<|zM Z<|zN<|zT ?_;obtain rfl := zJ hr;exact ⟨_, rfl, zW 10 ⟨rfl, rfl, rfl, rfl, rfl, rfl, rfl, rfl, rfl, trivial⟩ Z Z Z rfl⟩
      ·
       refine zo g5 hr fun hr => zk<|ai<|ai<|zT<|zR<|yS Z (aw Z Z Z Z)<|zM Z<|zN<|zT ?_;obtain rfl := zJ hr;exact ⟨_, rfl, zW 10 ⟨rfl, rfl, rfl, rfl, rfl, rfl, rfl, rfl, rfl, trivial⟩ Z Z Z rfl⟩
  ·
   refine zo g1 hr fun hr => zq<|ao<|ao<|zy<|zT ?_;obtain rfl := zJ hr;have hr := congrArg some (hb_x1 _ rfl);obtain rfl := zJ hr;exact zW 10 ⟨Z, Z, Z, Z, trivial⟩ Z Z Z Z
 ·have hr := ho_v1;clear hb_v1;refine zT<|LW.weak hw_v1<|zQ<|LW.ent (bM.frz (t := 7) (env' := [(4, .ptr 7 0), (6, .ptr 8 0)]) (H0 := [.box (fl w), .box tL, .box (fl w), .box (kG w al wh me cl 87 5 4), .box (kG w al wh me cl 87 5 4), .box [.fn 86 [] [.ptr 2 0]], .box (kG w al wh me cl 87 5 4), .box [.zs, .zs], .box (de v1.v_in)]) Z Z Z Z Z ⟨rfl, rfl, trivial⟩ Z Z)<|zR<|yS Z (zD Z Z Z aT Z Z)<|zM Z<|yS Z (zs Z Z Z Z aT Z Z Z Z)<|zM Z<|zN<|zT<|zr ?_;obtain rfl := zJ hr;exact i6 (env' := []) (H' := (hM w al wh me cl 87 86)) (zW 6 trivial Z Z Z Z) (.two (.cellAgg Z Z (by kernel_rfl) Z) (.tmp Z)) Z<|⟨rfl, rfl⟩
structure eo where
 t43 : Int
 o9 : List Nd
 o10 : List Of
def iV (w : Wd) (v4 : Vw × Int × Bool × List Ac) (x1 : eo) : Option (eo ⊕ eo) :=
 bif decide (x1.t43 < (w.N.length : Int)) then
  (HH w v4.1 v4.2.1 v4.2.2.1 v4.2.2.2 x1.t43).bind fun v6 =>
  (ix w.N x1.t43).bind fun y1 =>
  (iP w.C y1 v6.1 v6.2).bind fun v7 =>
  bif room x1.o9.length [v7.1].length 176 then
   bif room x1.o10.length v7.2.length 104 then
    some (.inl (eo.mk (IntKind.i64.wrap (x1.t43 + 1)) (x1.o9 ++ [v7.1]) (x1.o10 ++ v7.2)))
   else none
  else none
 else
  some (.inr (eo.mk x1.t43 x1.o9 x1.o10))
def oF (w : Wd) (l : List Ac) : Option Wd :=
 (
  (yP w.C).bind fun v2 =>
  bif !v2 then
   some true
  else
   bif decide (w.Tick < 3) then
    some true
   else
    some (decide (w.Tick ≥ 3145728))
 ).bind fun v1 =>
 bif v1 then
  (oG w).bind fun _ =>
  some w
 else
  (uu w l).bind fun v4 =>
  bif room 0 w.Bad.length 8 then
   (iter (iV w v4) bG (eo.mk 0 ([] : List Nd) ([] : List Of))).bind fun v5 =>
   some (Wd.mk w.C w.Bad (IntKind.i64.wrap (w.Tick + 1)) v5.o9 v5.o10)
  else none
theorem Fo {w : Wd} {l : List Ac} {r_ : Wd} (hr : oF w l = some r_) : av Tryz.prog 17 [DE w, .slice 5 (l.map kc)] [DE r_] := by
 refine zh Tryz.func17 Z Z Z Z ?_;unfold oF at hr;refine zQ<|zR<|yS Z (bV Z Z Z Z Z)<|yS Z (ze Z kW Z Z)<|zN<|zT<|zQ ?_;obtain ⟨v1, hb_v1, ho_v1⟩ := zB hr;clear hr;refine LW.cut (E := [(1, .p (.slice 5 (l.map kc))), (2, .ptr 0 0), (4, .ptr 1 0), (25, (bQ v1))]) (O := [.box (fl w), .box tL]) ?_ ?_
 ·have hr := hb_v1;refine zR<|yS Z (zA Z Z i9)<|yS Z (zD Z Z Z bE Z Z)<|zb hr fun v2 h_v2 hr => yS Z (zC Z Z Z (by kernel_rfl) (zp (Gv h_v2) (.cons zv .nil)))<|yS Z (ab.not Z Z)<|zM Z ?_;refine zc 16 Z (fun g1 => ?_)<|fun g1 => ?_
  ·
   refine zi g1 hr fun hr => yU Z (gd g1 Z) Z<|yU Z (gd g1 Z) Z<|yU Z (gd g1 Z) Z<|yS Z (eP Z (bL g1 Z) Z)<|zM Z<|yU Z Z Z<|yU Z Z Z<|yU Z Z Z<|yS Z (eP Z Z Z)<|zN<|zT ?_;obtain rfl := zJ hr;exact zW 2 ⟨Z, Z, Z, Z, trivial⟩ Z Z Z Z
  ·
   refine zo g1 hr fun hr => yV Z (gd g1 Z) (zA Z Z ja)<|yV Z (gd g1 Z) (zD Z Z Z bC Z Z)<|yV Z (gd g1 Z) (aw Z Z Z Z)<|yS Z (db Z (bL g1 Z) Z)<|zM Z ?_;refine zc 21 Z (fun g2 => ?_)<|fun g2 => ?_
   ·
    refine zi g2 hr fun hr => yU Z (gd g2 Z) Z<|yU Z (gd g2 Z) Z<|yU Z (gd g2 Z) Z<|yS Z (eP Z (bL g2 Z) Z)<|zN<|zT ?_;obtain rfl := zJ hr;exact zW 2 ⟨Z, Z, Z, Z, trivial⟩ Z Z Z Z
   ·
    refine zo g2 hr fun hr => yV Z (gd g2 Z) (zA Z Z ja)<|yV Z (gd g2 Z) (zD Z Z Z bC Z Z)<|yV Z (gd g2 Z) (aw Z Z Z Z)<|yS Z (db Z (bL g2 Z) Z)<|zN<|zT ?_;obtain rfl := zJ hr;exact zW 2 ⟨Z, Z, Z, Z, trivial⟩ Z Z Z Z
 ·have hr := ho_v1;clear hb_v1;refine zX Z (fun g3 => ?_)<|fun g3 => ?_
  ·
   refine zi g3 hr fun hr => zQ<|zR<|yS Z (zD Z Z Z bU Z Z)<|zb hr fun v3 h_v3 hr => ?_;obtain rfl := uk h_v3;refine yS Z (zC Z Z Z (by kernel_rfl) (zp (Fp h_v3) (.cons zv .nil)))<|yS Z (zs Z Z Z Z bU Z Z Z Z)<|zN<|zT<|zr<|aj ?_;obtain rfl := zJ hr;exact zf (.one (.cellAgg Z Z (by kernel_rfl) Z)) zv
  ·
   refine zo g3 hr fun hr => zk<|zT<|zQ<|zR<|yS Z (zD Z Z Z bU Z Z)<|zM Z<|zb hr fun v4 h_v4 hr => yS Z (zC Z Z Z (by kernel_rfl) (LC.frameX (x' := .agg (kG w v4.1 v4.2.1 v4.2.2.1 v4.2.2.2 87 5 4)) (H' := [.box (fl w), .box tL, .box (fl w), .box (kG w v4.1 v4.2.1 v4.2.2.1 v4.2.2.2 87 5 4), .box (kG w v4.1 v4.2.1 v4.2.2.1 v4.2.2.2 87 5 4), .box [.fn 86 [] [.ptr 2 0]]]) (GL h_v4) (.consC zv (.consC zv .nil)) Z (by simp only [List.map_cons, List.map_nil, List.cons_append, List.nil_append, aa.shift, LV.shifts, LV.shift] <;> rfl) (by simp only [List.map_cons, List.map_nil, List.cons_append, List.nil_append, aa.shift, LV.shifts, LV.shift] <;> rfl)))<|yS Z (ze Z xq Z Z)<|yS Z (zs Z Z Z Z ri Z Z Z Z)<|zN<|zT<|zQ<|LW.ent (bM.slot Z)<|LW.ent (bM.slot Z)<|LW.drawW (by kernel_rfl) (by kernel_rfl) ?_;refine yF (F := []) (s := none) Z (fun H _ => zA Z Z i9) Z ?_;refine yF Z (zd Z Z Z bE Z Z) Z ?_;refine yF (F := []) (s := none) Z (fun H _ => zA Z Z ky) Z ?_;refine yF Z (zd Z Z Z fh Z Z) Z<|zg hr fun q1 hr => ?_;refine yF Z (bJ.callV (id := 7) (qs := [(kI w.Bad)]) Z Z Z (by kernel_rfl) (wA q1) (fun H => (.consC zv .nil)) Z) Z ?_;refine yF (F := []) (s := none) Z (fun H _ => zA Z Z ja) Z ?_;refine yF Z (zd Z Z Z bC Z Z) Z ?_;refine yF (F := []) (s := none) Z (fun H _ => aw Z Z Z Z) Z ?_;refine yF (F := []) (s := none) Z (fun H _ => ab.build Z Cb Z Z Z) Z ?_;refine yF Z (bJ.alloc Z kW (id := 8) Z) Z<|yF Z (zt Z Z Z Z bU Z Z Z) Z ?_;refine LF.nil ⟨by kernel_rfl, ?_⟩;refine zT<|zQ<|zQ<|LW.ent (bM.lazyCell (i := 8) (j := 7) (m := 12) Z Z Z Z Z Z)<|LW.ent (bM.lazyCell (i := 8) (j := 8) (m := 9) Z Z Z Z Z Z)<|zR<|yS Z (zA Z Z bK)<|yS Z (zD Z Z Z dk Z Z)<|yS Z (dT Z Z (by kernel_rfl))<|zM Z<|zN<|zT ?_;obtain ⟨v5, hb_v5, ho_v5⟩ := zB hr;clear hr;refine LW.tail (E := [(4, .ptr 1 0), (6, .ptr 8 0)]) (O := [.box (fl w), .box tL, .box (fl w), .box (kG w v4.1 v4.2.1 v4.2.2.1 v4.2.2.2 87 5 4), .box (kG w v4.1 v4.2.1 v4.2.2.1 v4.2.2.2 87 5 4), .box [.fn 86 [] [.ptr 2 0]], .box (kG w v4.1 v4.2.1 v4.2.2.1 v4.2.2.2 87 5 4), .vec 1 (w.Bad.map aE), .box [(kI w.C.W), (uQ w.C.Seed), (iQ w.C.Epoch), (iQ w.C.Num), (iQ w.C.Den), (jI 7 w.Bad), .p (.int .i64 (IntKind.i64.wrap (w.Tick + 1))), .vec 12 9 (v5.o9.map gk).length 0 (v5.o9.map gk).length, (jO 10 v5.o10)], .vec 12 (v5.o9.map gk), .vec 9 (v5.o10.map dP)]) ?_<|fun env_v5 H_v5 hw_v5 => ?_
   ·refine LW.block ?_;refine LW.iterB (E := fun x1 : eo => [(2, .ptr 0 0), (4, .ptr 1 0), (5, .ptr 6 0), (6, .ptr 8 0), (42, .p (.int .i64 (w.N.length : Int))), (43, (iQ x1.t43))]) (O := fun x1 => [.box (fl w), .box tL, .box (fl w), .box (kG w v4.1 v4.2.1 v4.2.2.1 v4.2.2.2 87 5 4), .box (kG w v4.1 v4.2.1 v4.2.2.1 v4.2.2.2 87 5 4), .box [.fn 86 [] [.ptr 2 0]], .box (kG w v4.1 v4.2.1 v4.2.2.1 v4.2.2.2 87 5 4), .vec 1 (w.Bad.map aE), .box [(kI w.C.W), (uQ w.C.Seed), (iQ w.C.Epoch), (iQ w.C.Num), (iQ w.C.Den), (jI 7 w.Bad), .p (.int .i64 (IntKind.i64.wrap (w.Tick + 1))), .vec 12 9 (x1.o9.map gk).length 0 (x1.o9.map gk).length, (jO 10 x1.o10)], .vec 12 (x1.o9.map gk), .vec 9 (x1.o10.map dP)]) hb_v5 (zW 11 ⟨rfl, rfl, rfl, rfl, rfl, rfl, trivial⟩ Z Z Z Z)<|fun x1 z_x1 hr hb_x1 => ?_;unfold iV at hr;refine zQ<|zR<|yS Z (aw Z Z Z Z)<|zN<|zT<|zQ ?_;refine zX Z (fun g4 => ?_)<|fun g4 => ?_
    ·
     refine zi g4 hr fun hr => zk<|zT<|zQ<|zl<|zQ<|zR<|zM Z<|zM Z<|zN<|zT<|zQ<|zR<|yS Z (zD Z Z Z ri Z Z)<|zM Z<|zb hr fun v6 h_v6 hr => yS Z (zC Z Z Z (by kernel_rfl) (LC.pre (KW h_v6) Z Z Z))<|zM Z<|yS Z (fA Z Z Z)<|yS Z (fA Z Z Z)<|yS Z (ze Z ia Z Z)<|yS Z (zs Z Z Z Z aT Z Z Z Z)<|zM Z<|zN ?_;refine zT<|zQ<|LW.ent (bM.slot Z)<|LW.drawW (by kernel_rfl) (by kernel_rfl) ?_;refine yF (F := []) (s := none) Z (fun H _ => zA Z Z i9) Z ?_;refine yF Z (zd Z Z Z bE Z Z) Z ?_;refine yF (F := []) (s := none) Z (fun H _ => zA Z Z bK) Z ?_;refine yF Z (zd Z Z Z dk Z Z) Z<|zK Z<|zb hr fun y1 h_y1 hr => ?_;refine yF (F := []) (s := none) Z (fun H _ => zx Z Z Z dR h_y1 Z) Z ?_;refine yF (F := []) (s := none) Z (fun H _ => dS Z Z Z co Z Z) Z ?_;refine yF Z (zd Z Z Z aT Z Z) Z<|zK Z<|zb hr fun v7 h_v7 hr => ?_;refine yF (F := []) (s := none) Z (fun H _ => zC Z Z Z (by kernel_rfl) (zp (Il h_v7) (.cons zv (.cons zv (.cons zv (.cons zv .nil)))))) Z ?_;refine zK Z ?_;refine yF (F := []) (s := none) Z (fun H _ => fA Z Z Z) Z ?_;refine yF (F := []) (s := none) Z (fun H _ => fA Z Z Z) Z ?_;refine yF Z (bJ.alloc Z rl (id := 12) Z) Z<|yF Z (zt Z Z Z Z co Z Z Z) Z<|zK Z ?_;refine LF.nil ⟨by kernel_rfl, ?_⟩;refine zT<|LW.drawW (by kernel_rfl) (by kernel_rfl) ?_;refine yF (F := []) (s := none) Z (fun H _ => zA Z Z bK) Z ?_;refine yF Z (zd Z Z Z dk Z Z) Z<|yF Z (zd Z Z Z co Z Z) Z ?_;refine yF (F := []) (s := none) Z (fun H _ => mD Z dR Z Z Z Z Z) Z ?_;refine zg hr fun q2 hr => yF Z (bJ.appendX gk x1.o9 [v7.1] rfl Z Z Z Z dR q2) Z ?_;refine yF (F := []) (s := none) Z (fun H _ => zA Z Z gJ) Z ?_;refine yF Z (zd Z Z Z bT Z Z) Z<|zK Z<|zg hr fun q3 hr => yF Z (bJ.appendX dP x1.o10 v7.2 Z Z Z Z Z ca q3) Z ?_;refine yF (F := []) (s := none) Z (fun H _ => zA Z Z bK) Z ?_;refine yF Z (zt Z Z Z Z dk Z Z Z) Z ?_;refine yF (F := []) (s := none) Z (fun H _ => zA Z Z gJ) Z ?_;refine yF Z (zt Z Z Z Z bT Z Z Z) Z ?_;refine LF.nil ⟨by kernel_rfl, ?_⟩;refine ai<|zT<|zR<|yS Z (aw Z Z Z Z)<|zM Z<|zN<|zT ?_;obtain rfl := zJ hr;exact ⟨_, rfl, zW 11 ⟨rfl, rfl, rfl, rfl, rfl, rfl, trivial⟩ Z Z Z rfl⟩
    ·
     refine zo g4 hr fun hr => zq<|ao<|ao<|zy<|zT ?_;obtain rfl := zJ hr;have hr := congrArg some (hb_x1 _ rfl);obtain rfl := zJ hr;exact zW 11 ⟨Z, Z, trivial⟩ Z Z Z Z
   ·have hr := ho_v5;clear hb_v5;refine zT<|LW.weak hw_v5<|zQ<|zR<|yS Z (zD Z Z Z bU Z Z)<|yS Z (zs Z Z Z Z bU Z Z Z Z)<|zN<|zT<|zr ?_;obtain rfl := zJ hr;exact zf (.one (.cellAgg Z Z (by kernel_rfl) Z))<|(Conv.agg (.cons zv (.cons zv (.cons zv (.cons zv (.cons zv (.cons (Conv.vecAll Z Z Z) (.cons zv (.cons (Conv.vecAll Z Z Z) (.cons (Conv.vecAll Z Z Z) .nil))))))))))
open Go.Proofs
structure dI where
 t19 : Int
 o4 : List Nd
def iU (c : Cf) (bad : List Int) (x1 : dI) : Option (dI ⊕ dI) :=
 bif decide (x1.t19 < (c.W.length : Int)) then
  (sO bad x1.t19).bind fun v3 =>
  bif !v3 then
   (xI x1.t19).bind fun v4 =>
   bif room x1.o4.length [v4].length 176 then
    some (.inl (dI.mk (IntKind.i64.wrap (x1.t19 + 1)) (x1.o4 ++ [v4])))
   else none
  else
   some (.inl (dI.mk (IntKind.i64.wrap (x1.t19 + 1)) x1.o4))
 else
  some (.inr (dI.mk x1.t19 x1.o4))
def rL (c : Cf) (bad : List Int) : Option Wd :=
 bif room 0 bad.length 8 then
  (yP c).bind fun v1 =>
  bif !v1 then
   some (Wd.mk c bad 0 [] [])
  else
   (iter (iU c bad) bG (dI.mk 0 ([] : List Nd))).bind fun v2 =>
   some (Wd.mk c bad 3 v2.o4 [])
 else none
theorem Fn {c : Cf} {bad : List Int} {r_ : Wd} (hr : rL c bad = some r_) : av Tryz.prog 16 [jx c, .slice 1 (bad.map aE)] [DE r_] := by
 refine zh Tryz.func16 Z Z Z Z ?_;unfold rL at hr;refine zQ<|zR<|yS Z (bV Z Z Z Z Z)<|yS Z (ze Z kW Z Z)<|zN<|zT<|zQ<|LW.ent (bM.slot Z)<|LW.ent (bM.slot Z)<|LW.drawW (by kernel_rfl) (by kernel_rfl)<|yF Z (zd Z Z Z bE Z Z) Z<|zK Z<|zg hr fun q1 hr => ?_;refine yF Z (bJ.callV (id := 2) (qs := [(kI bad)]) Z Z Z (by kernel_rfl) (wA q1) (fun H => (.consC zv .nil)) Z) Z ?_;refine yF (F := []) (s := none) Z (fun H _ => ab.build Z Cb Z Z Z) Z ?_;refine yF Z (bJ.alloc Z kW (id := 3) Z) Z<|yF Z (zt Z Z Z Z bU Z Z Z) Z ?_;refine LF.nil ⟨by kernel_rfl, ?_⟩;refine zT<|zQ<|zQ<|zR<|yS Z (zD Z Z Z bE Z Z)<|zb hr fun v1 h_v1 hr => yS Z (zC Z Z Z (by kernel_rfl) (zp (Gv h_v1) (.cons zv .nil)))<|yS Z (ab.not Z Z)<|zN<|zT ?_;refine zX Z (fun g1 => ?_)<|fun g1 => ?_
 ·
  refine zi g1 hr fun hr => zQ<|zR<|yS Z (zD Z Z Z bU Z Z)<|yS Z (zs Z Z Z Z bU Z Z Z Z)<|zN<|zT<|zr<|aj ?_;obtain rfl := zJ hr;exact zf (.one (.cellAgg Z Z (by kernel_rfl) Z))<|(Conv.agg (.cons zv (.cons zv (.cons zv (.cons zv (.cons zv (.cons (Conv.vecAll Z Z Z) (.cons zv (.cons Conv.zs (.cons Conv.zs .nil))))))))))
 ·
  refine zo g1 hr fun hr => zk<|zT<|zQ<|zR<|yS Z (zA Z Z ja)<|yS Z (zs Z Z Z Z bC Z Z Z Z)<|zN<|zT<|zQ<|zQ<|LW.ent (bM.lazyCell (i := 3) (j := 7) (m := 12) Z Z Z Z Z Z)<|zR<|yS Z (zA Z Z gM)<|yS Z (zD Z Z Z fh Z Z)<|yS Z (dT Z Z (by kernel_rfl))<|zM Z<|zN<|zT ?_;obtain ⟨v2, hb_v2, ho_v2⟩ := zB hr;clear hr;refine LW.tail (E := [(4, .ptr 1 0), (5, .ptr 3 0)]) (O := [.box (bB c), .box tL, .vec 1 (bad.map aE), .box [(kI c.W), (uQ c.Seed), (iQ c.Epoch), (iQ c.Num), (iQ c.Den), (jI 2 bad), (iQ 3), .vec 12 4 (v2.o4.map gk).length 0 (v2.o4.map gk).length, .zs], .vec 12 (v2.o4.map gk)]) ?_<|fun env_v2 H_v2 hw_v2 => ?_
  ·refine LW.block ?_;refine LW.iterB (E := fun x1 : dI => [(1, (kI bad)), (4, .ptr 1 0), (5, .ptr 3 0), (18, .p (.int .i64 (c.W.length : Int))), (19, (iQ x1.t19))]) (O := fun x1 => [.box (bB c), .box tL, .vec 1 (bad.map aE), .box [(kI c.W), (uQ c.Seed), (iQ c.Epoch), (iQ c.Num), (iQ c.Den), (jI 2 bad), (iQ 3), .vec 12 4 (x1.o4.map gk).length 0 (x1.o4.map gk).length, .zs], .vec 12 (x1.o4.map gk)]) hb_v2 (zW 5 ⟨rfl, rfl, rfl, rfl, rfl, trivial⟩ Z Z Z Z)<|fun x1 z_x1 hr hb_x1 => ?_;unfold iU at hr;refine zQ<|zR<|yS Z (aw Z Z Z Z)<|zN<|zT<|zQ ?_;refine zX Z (fun g2 => ?_)<|fun g2 => ?_
   ·
    refine zi g2 hr fun hr => zk<|zT<|zQ<|zl<|zQ<|zR<|zM Z<|zM Z<|zN<|zT<|zQ<|zR<|zM Z<|zM Z<|zb hr fun v3 h_v3 hr => yS Z (zC Z Z Z (by kernel_rfl) (zp (Ce h_v3) (.cons zv (.cons zv .nil))))<|yS Z (ab.not Z Z)<|zN<|zT ?_;refine zX Z (fun g3 => ?_)<|fun g3 => ?_
    ·
     refine zi g3 hr fun hr => LW.drawW (by kernel_rfl) (by kernel_rfl) ?_;refine yF (F := []) (s := none) Z (fun H _ => zA Z Z bK) Z ?_;refine yF Z (zd Z Z Z dk Z Z) Z<|zK Z<|zb hr fun v4 h_v4 hr => ?_;refine yF (F := []) (s := none) Z (fun H _ => zC Z Z Z (by kernel_rfl) (zp (Iq h_v4) (.cons zv .nil))) Z ?_;refine yF (F := []) (s := none) Z (fun H _ => mD Z dR Z Z Z Z Z) Z ?_;refine zg hr fun q2 hr => yF Z (bJ.appendX gk x1.o4 [v4] rfl Z Z Z Z dR q2) Z ?_;refine yF (F := []) (s := none) Z (fun H _ => zA Z Z bK) Z ?_;refine yF Z (zt Z Z Z Z dk Z Z Z) Z ?_;refine LF.nil ⟨by kernel_rfl, ?_⟩;refine ai<|zT<|zR<|yS Z (aw Z Z Z Z)<|zM Z<|zN<|zT ?_;obtain rfl := zJ hr;exact ⟨_, rfl, zW 5 ⟨rfl, rfl, rfl, rfl, rfl, trivial⟩ Z Z Z rfl⟩
    ·
     refine zo g3 hr fun hr => zk<|ai<|zT<|zR<|yS Z (aw Z Z Z Z)<|zM Z<|zN<|zT ?_;obtain rfl := zJ hr;exact ⟨_, rfl, zW 5 ⟨rfl, rfl, rfl, rfl, rfl, trivial⟩ Z Z Z rfl⟩
   ·
    refine zo g2 hr fun hr => zq<|ao<|ao<|zy<|zT ?_;obtain rfl := zJ hr;have hr := congrArg some (hb_x1 _ rfl);obtain rfl := zJ hr;exact zW 5 ⟨Z, Z, trivial⟩ Z Z Z Z
  ·have hr := ho_v2;clear hb_v2;refine zT<|LW.weak hw_v2<|zQ<|zR<|yS Z (zD Z Z Z bU Z Z)<|yS Z (zs Z Z Z Z bU Z Z Z Z)<|zN<|zT<|zr ?_;obtain rfl := zJ hr;exact zf (.one (.cellAgg Z Z (by kernel_rfl) Z))<|(Conv.agg (.cons zv (.cons zv (.cons zv (.cons zv (.cons zv (.cons (Conv.vecAll Z Z Z) (.cons zv (.cons (Conv.vecAll Z Z Z) (.cons Conv.zs .nil))))))))))
structure gC where
 t11 : Int
 w : Wd
def uj (l : List Ac) (ticks : Int) (x1 : gC) : Option (gC ⊕ gC) :=
 bif decide (x1.t11 < (if 300 < ticks then 300 else ticks)) then
  (oF x1.w l).bind fun v3 =>
  some (.inl (gC.mk (IntKind.i64.wrap (x1.t11 + 1)) v3))
 else
  some (.inr (gC.mk x1.t11 x1.w))
def BG (w : Wd) (l : List Ac) (ticks : Int) : Option Wd :=
 (oG w).bind fun _ =>
 (iter (uj l ticks) bG (gC.mk 0 w)).bind fun v2 =>
 some v2.w
theorem IB {w : Wd} {l : List Ac} {ticks : Int} {r_ : Wd} (hr : BG w l ticks = some r_) : av Tryz.prog 31 [DE w, .slice 5 (l.map kc), .int .i64 ticks] [DE r_] := by
 refine zh Tryz.func31 Z Z Z Z ?_;unfold BG at hr;refine zQ<|zR<|yS Z (bV Z Z Z Z Z)<|yS Z (ze Z kW Z Z)<|zN<|zT<|zQ<|zR<|yS Z (zD Z Z Z bU Z Z)<|zb hr fun v1 h_v1 hr => ?_;obtain rfl := uk h_v1;refine yS Z (zC Z Z Z (by kernel_rfl) (zp (Fp h_v1) (.cons zv .nil)))<|yS Z (zs Z Z Z Z bU Z Z Z Z)<|zN<|zT<|zQ<|zQ<|zR<|zM Z<|yS Z (ab.min Z Z Z)<|zM Z<|zN<|zT ?_;obtain ⟨v2, hb_v2, ho_v2⟩ := zB hr;clear hr;refine LW.tail (E := [(3, .ptr 0 0), (6, .ptr 1 0)]) (O := [.box (fl v2.w), .box tL]) ?_<|fun env_v2 H_v2 hw_v2 => ?_
 ·refine LW.block ?_;refine LW.iterB (E := fun x1 : gC => [(1, .p (.slice 5 (l.map kc))), (3, .ptr 0 0), (6, .ptr 1 0), (10, .p (.int .i64 (if 300 < ticks then 300 else ticks))), (11, (iQ x1.t11))]) (O := fun x1 => [.box (fl x1.w), .box tL]) hb_v2 (zW 2 ⟨rfl, rfl, rfl, rfl, rfl, trivial⟩ Z Z Z Z)<|fun x1 z_x1 hr hb_x1 => ?_;unfold uj at hr;refine zQ<|zR<|yS Z (aw Z Z Z Z)<|zN<|zT<|zQ ?_;refine zX Z (fun g1 => ?_)<|fun g1 => ?_
  ·
   refine zi g1 hr fun hr => zk<|zT<|zQ<|zl<|zR<|yS Z (zD Z Z Z bU Z Z)<|zM Z<|zb hr fun v3 h_v3 hr => yS Z (zC Z Z Z (by kernel_rfl) (zp (Fo h_v3) (.cons zv (.cons zv .nil))))<|yS Z (zs Z Z Z Z bU Z Z Z Z)<|zN<|ai<|zT<|zR<|yS Z (aw Z Z Z Z)<|zM Z<|zN<|zT ?_;obtain rfl := zJ hr;exact ⟨_, rfl, zW 2 ⟨rfl, rfl, rfl, rfl, rfl, trivial⟩ Z Z Z rfl⟩
  ·
   refine zo g1 hr fun hr => zq<|ao<|ao<|zy<|zT ?_;obtain rfl := zJ hr;have hr := congrArg some (hb_x1 _ rfl);obtain rfl := zJ hr;exact zW 2 ⟨Z, Z, trivial⟩ Z Z Z Z
 ·have hr := ho_v2;clear hb_v2;refine zT<|LW.weak hw_v2<|zQ<|zR<|yS Z (zD Z Z Z bU Z Z)<|yS Z (zs Z Z Z Z bU Z Z Z Z)<|zN<|zT<|zr ?_;obtain rfl := zJ hr;exact zf (.one (.cellAgg Z Z (by kernel_rfl) Z)) zv
open Go.Proofs
structure Hn where
 t13 : Int
structure Ho where
 t13 : Int
structure Kc where
 t17 : Int
open Go.Proofs
structure Hm where
 i : Int
structure Hw where
 i : Int
structure Hx where
 i : Int
structure Kb where
 t17 : Int
structure Hy where
 t13 : Int
open Go.Proofs
structure dK where
 i : Int
def gD (l : List Ac) (x1 : dK) : Option (dK ⊕ (dK ⊕ Bool)) :=
 bif decide (x1.i < (l.length : Int)) then
  (ix l x1.i).bind fun y1 =>
  bif decide ((y1.B.length : Int) > 8) then
   some (.inr (.inr false))
  else
   (ix l x1.i).bind fun y2 =>
   bif decide ((y2.V.length : Int) > 8) then
    some (.inr (.inr false))
   else
    some (.inl (dK.mk (IntKind.i64.wrap (x1.i + 1))))
 else
  some (.inr (.inl (dK.mk x1.i)))
def rP (l : List Ac) (most : Int) : Option Bool :=
 bif decide ((l.length : Int) > most) then
  some false
 else
  (iter (gD l) bG (dK.mk 0)).bind fun b_v1 => Sum.elim (fun _ =>
   some true) some b_v1
theorem IC {l : List Ac} {most : Int} {r_ : Bool} (hr : rP l most = some r_) : av Tryz.prog 36 [.slice 5 (l.map kc), .int .i64 most] [.bool r_] := by
 refine zh Tryz.func36 Z Z Z Z ?_;unfold rP at hr;refine zQ<|zR<|zM Z<|zN<|zT<|zQ<|zQ<|zR<|zM Z<|yS Z (dT Z Z (by kernel_rfl))<|zM Z<|yS Z (aw Z Z Z Z)<|zN<|zT ?_;refine zX Z (fun g1 => ?_)<|fun g1 => ?_
 ·
  refine zi g1 hr fun hr => zQ<|zR<|zM Z<|zN<|zT<|zr<|aj ?_;obtain rfl := zJ hr;exact zf (.one (.tmp Z)) zv
 ·
  refine zo g1 hr fun hr => zk<|zT<|zQ<|zQ<|zR<|zM Z<|zN<|zT ?_;obtain ⟨b_v1, hb_v1, ho_v1⟩ := zB hr;clear hr;refine LW.tailB (b := b_v1) (E := fun v1 => [(4, (bQ false))]) (O := fun v1 => []) ?_<|fun v1 e_v1 env_v1 H_v1 hw_v1 => ?_
  ·refine LW.block ?_;refine LW.iterB (E := fun x1 : dK => [(0, .p (.slice 5 (l.map kc))), (4, (bQ false)), (5, (iQ x1.i))]) (O := fun x1 => []) hb_v1 (zW 0 ⟨rfl, rfl, rfl, trivial⟩ Z Z Z Z)<|fun x1 z_x1 hr hb_x1 => ?_;unfold gD at hr;refine zQ<|zQ<|zR<|zM Z<|zM Z<|yS Z (dT Z Z (by kernel_rfl))<|yS Z (aw Z Z Z Z)<|zN<|zT ?_;refine zX Z (fun g2 => ?_)<|fun g2 => ?_
   ·
    refine zi g2 hr fun hr => zk<|zT<|zQ<|zl<|zQ<|zR<|zM Z<|zM Z<|zb hr fun y1 h_y1 hr => yS Z (zx Z Z Z mq h_y1 Z)<|yS Z (ab.fieldAddrC Z Z qm Z)<|yS Z (dS Z Z Z dE Z Z)<|yS Z (dT Z Z (by kernel_rfl))<|yS Z (aw Z Z Z Z)<|zM Z ?_;refine zc 23 Z (fun g3 => ?_)<|fun g3 => ?_
    ·
     refine zi g3 hr fun hr => yU Z (gd g3 Z) Z<|yU Z (gd g3 Z) Z<|yU Z (gd g3 Z) Z<|yU Z (gd g3 Z) Z<|yU Z (gd g3 Z) Z<|yU Z (gd g3 Z) Z<|yU Z (gd g3 Z) Z<|yS Z (eP Z (bL g3 Z) Z)<|zN<|zT<|LW.condT Z<|zQ<|zR<|zM Z<|zN<|zT<|zr<|ay<|aj<|aj<|ay<|aj<|aj ?_;obtain rfl := zJ hr;have hr := congrArg some (hb_x1 _ rfl);obtain rfl := zJ hr;have hr := d8 ho_v1;obtain rfl := zJ hr;exact zf (.one (.tmp Z)) zv
    ·
     refine zo g3 hr fun hr => yV Z (gd g3 Z) (zm Z Z)<|yV Z (gd g3 Z) (zm Z Z)<|zb hr fun y2 h_y2 hr => yV Z (gd g3 Z) (zx Z Z Z mq h_y2 Z)<|yV Z (gd g3 Z) (ab.fieldAddrC Z Z qo Z)<|yV Z (gd g3 Z) (dS Z Z Z eC Z Z)<|yV Z (gd g3 Z) (dT Z Z (by kernel_rfl))<|yV Z (gd g3 Z) (aw Z Z Z Z)<|yS Z (db Z (bL g3 Z) Z)<|zN<|zT ?_;refine zX Z (fun g4 => ?_)<|fun g4 => ?_
     ·
      refine zi g4 hr fun hr => zQ<|zR<|zM Z<|zN<|zT<|zr<|ay<|aj<|aj<|ay<|aj<|aj ?_;obtain rfl := zJ hr;have hr := congrArg some (hb_x1 _ rfl);obtain rfl := zJ hr;have hr := d8 ho_v1;obtain rfl := zJ hr;exact zf (.one (.tmp Z)) zv
     ·
      refine zo g4 hr fun hr => zk<|ai<|zT<|zR<|zM Z<|yS Z (aw Z Z Z Z)<|zM Z<|zN<|zT ?_;obtain rfl := zJ hr;exact ⟨_, rfl, zW 0 ⟨rfl, rfl, rfl, trivial⟩ Z Z Z rfl⟩
   ·
    refine zo g2 hr fun hr => zq<|ao<|ao<|zy<|zT ?_;obtain rfl := zJ hr;have hr := congrArg some (hb_x1 _ rfl);obtain rfl := zJ hr;exact ⟨_, rfl, zW 0 ⟨rfl, trivial⟩ Z Z Z rfl⟩
  ·obtain rfl := e_v1;have hr := gb ho_v1;clear hb_v1;refine zT<|LW.weak hw_v1<|zQ<|zR<|zM Z<|zN<|zT<|zr ?_;obtain rfl := zJ hr;exact zf (.one (.tmp Z)) zv
def rO (c : Cf) (bad : List Int) (l : List Ac) : Option Bool :=
 (rP l 25).bind fun v1 =>
 bif v1 then
  (yP c).bind fun v2 =>
  bif v2 then
   bif decide ((c.W.length : Int) ≤ 6) then
    some (decide ((bad.length : Int) ≤ 6))
   else
    some false
  else
   some false
 else
  some false
theorem IA {c : Cf} {bad : List Int} {l : List Ac} {r_ : Bool} (hr : rO c bad l = some r_) : av Tryz.prog 30 [jx c, .slice 1 (bad.map aE), .slice 5 (l.map kc)] [.bool r_] := by
 refine zh Tryz.func30 Z Z Z Z ?_;unfold rO at hr;refine zQ<|zR<|yS Z (bV Z Z Z Z Z)<|zM Z<|zN<|zT<|zQ<|zR<|zM Z<|zb hr fun v1 h_v1 hr => yS Z (zC Z Z Z (by kernel_rfl) (zp (IC h_v1) (.cons zv (.cons zv .nil))))<|zM Z<|zN<|zT<|zQ<|zR<|zM Z<|zM Z ?_;refine zc 11 Z (fun g1 => ?_)<|fun g1 => ?_
 ·
  refine zi g1 hr fun hr => yV Z (gd g1 Z) (zD Z Z Z bE Z Z)<|zb hr fun v2 h_v2 hr => yV Z (gd g1 Z) (zC Z Z Z (by kernel_rfl) (zp (Gv h_v2) (.cons zv .nil)))<|yS Z (eP Z (bL g1 Z) Z)<|zM Z ?_;refine zc 15 Z (fun g2 => ?_)<|fun g2 => ?_
  ·
   refine zi g2 hr fun hr => yV Z (gd g2 Z) (zA Z Z gM)<|yV Z (gd g2 Z) (zD Z Z Z fh Z Z)<|yV Z (gd g2 Z) (dT Z Z (by kernel_rfl))<|yV Z (gd g2 Z) (aw Z Z Z Z)<|yS Z (eP Z (bL g2 Z) Z)<|zM Z ?_;refine zc 21 Z (fun g3 => ?_)<|fun g3 => ?_
   ·
    refine zi g3 hr fun hr => yV Z (gd g3 Z) (zm Z Z)<|yV Z (gd g3 Z) (dT Z Z (by kernel_rfl))<|yV Z (gd g3 Z) (aw Z Z Z Z)<|yS Z (eP Z (bL g3 Z) Z)<|zM Z<|zN<|zT<|zr ?_;obtain rfl := zJ hr;exact zf (.one (.tmp Z)) zv
   ·
    refine zo g3 hr fun hr => yU Z (gd g3 Z) Z<|yU Z (gd g3 Z) Z<|yU Z (gd g3 Z) Z<|yS Z (db Z (bL g3 Z) Z)<|zM Z<|zN<|zT<|zr ?_;obtain rfl := zJ hr;exact zf (.one (.tmp Z)) zv
  ·
   refine zo g2 hr fun hr => yU Z (gd g2 Z) Z<|yU Z (gd g2 Z) Z<|yU Z (gd g2 Z) Z<|yU Z (gd g2 Z) Z<|yS Z (db Z (bL g2 Z) Z)<|zM Z<|yU Z Z Z<|yU Z Z Z<|yU Z Z Z<|yS Z (db Z Z Z)<|zM Z<|zN<|zT<|zr ?_;obtain rfl := zJ hr;exact zf (.one (.tmp Z)) zv
 ·
  refine zo g1 hr fun hr => yU Z (gd g1 Z) Z<|yU Z (gd g1 Z) Z<|yS Z (db Z (bL g1 Z) Z)<|zM Z<|yU Z Z Z<|yU Z Z Z<|yU Z Z Z<|yU Z Z Z<|yS Z (db Z Z Z)<|zM Z<|yU Z Z Z<|yU Z Z Z<|yU Z Z Z<|yS Z (db Z Z Z)<|zM Z<|zN<|zT<|zr ?_;obtain rfl := zJ hr;exact zf (.one (.tmp Z)) zv
open Go.Proofs
structure dG where
 t16 : Int
 out : Vw
structure eh where
 t32 : Int
 out : Vw
def gx (w : Wd) (x1 : dG) : Option (dG ⊕ dG) :=
 bif decide (x1.t16 < (w.O.length : Int)) then
  (ix w.O x1.t16).bind fun y1 =>
  (xL x1.out y1.V).bind fun v3 =>
  (xL v3 (Vw.mk [y1.B] [])).bind fun v4 =>
  some (.inl (dG.mk (IntKind.i64.wrap (x1.t16 + 1)) v4))
 else
  some (.inr (dG.mk x1.t16 x1.out))
def iJ (l : List Ac) (x2 : eh) : Option (eh ⊕ eh) :=
 bif decide (x2.t32 < (l.length : Int)) then
  (ix l x2.t32).bind fun y2 =>
  (xL x2.out (Vw.mk y2.B y2.V)).bind fun v6 =>
  some (.inl (eh.mk (IntKind.i64.wrap (x2.t32 + 1)) v6))
 else
  some (.inr (eh.mk x2.t32 x2.out))
def tP (w : Wd) (l : List Ac) : Option Vw :=
 (rE w.N).bind fun v1 =>
 (iter (gx w) bG (dG.mk 0 v1)).bind fun v2 =>
 (iter (iJ l) bG (eh.mk 0 v2.out)).bind fun v5 =>
 some v5.out
theorem HS {w : Wd} {l : List Ac} {r_ : Vw} (hr : tP w l = some r_) : av Tryz.prog 43 [DE w, .slice 5 (l.map kc)] [mA r_] := by
 refine zh Tryz.func43 Z Z Z Z ?_;unfold tP at hr;refine zQ<|zR<|yS Z (bV Z Z Z Z Z)<|yS Z (ze Z ia Z Z)<|zN<|zT<|zQ<|zR<|yS Z (zA Z Z bK)<|yS Z (zD Z Z Z dk Z Z)<|zb hr fun v1 h_v1 hr => yS Z (zC Z Z Z (by kernel_rfl) (zp (Fh h_v1) (.cons zv .nil)))<|yS Z (ze Z ia Z Z)<|yS Z (zs Z Z Z Z aT Z Z Z Z)<|zN<|zT<|zQ<|zQ<|zR<|yS Z (zA Z Z gJ)<|yS Z (zD Z Z Z bT Z Z)<|yS Z (dT Z Z (by kernel_rfl))<|zM Z<|zN ?_;refine zT ?_;obtain ⟨v2, hb_v2, ho_v2⟩ := zB hr;clear hr;refine LW.tail (E := [(1, .p (.slice 5 (l.map kc))), (4, .ptr 1 0), (5, .ptr 2 0)]) (O := [.box (fl w), .box [.zs, .zs], .box (de v2.out)]) ?_<|fun env_v2 H_v2 hw_v2 => ?_
 ·refine LW.block ?_;refine LW.iterB (E := fun x1 : dG => [(1, .p (.slice 5 (l.map kc))), (4, .ptr 1 0), (5, .ptr 2 0), (14, (kO w.O)), (15, .p (.int .i64 (w.O.length : Int))), (16, (iQ x1.t16))]) (O := fun x1 => [.box (fl w), .box [.zs, .zs], .box (de x1.out)]) hb_v2 (zW 3 ⟨rfl, rfl, rfl, rfl, rfl, rfl, trivial⟩ Z Z Z Z)<|fun x1 z_x1 hr hb_x1 => ?_;unfold gx at hr;refine zQ<|zR<|yS Z (aw Z Z Z Z)<|zN<|zT<|zQ ?_;refine zX Z (fun g1 => ?_)<|fun g1 => ?_
  ·
   refine zi g1 hr fun hr => zk<|zT<|zQ<|zl<|zQ<|zR<|zb hr fun y1 h_y1 hr => yS Z (zx Z Z Z ca h_y1 Z)<|yS Z (dS Z Z Z f4 Z Z)<|yS Z (ze Z rm Z Z)<|yS Z (zs Z Z Z Z f4 Z Z Z Z)<|zN<|zT<|LW.drawLast (m := 9) (by kernel_rfl) (by kernel_rfl) (by kernel_rfl)<|yE Z (zD Z Z Z aT Z Z)<|yE Z (zA Z Z jb)<|yE Z (zD Z Z Z aT Z Z)<|zb hr fun v3 h_v3 hr => yE Z (zC Z Z Z (by kernel_rfl) (zp (DM h_v3) (.cons zv (.cons zv .nil))))<|yE Z (zA Z Z qt)<|yE Z (zD Z Z Z cH Z Z)<|yE Z (mD Z eB Z Z Z Z Z)<|yE Z (ab.build Z nS Z Z Z) ?_;refine zb hr fun v4 h_v4 hr => yE Z (zC Z Z Z (by kernel_rfl) (zp (DM h_v4) (.cons zv (.cons (Conv.agg (.cons zv (.cons Conv.zs .nil))) .nil))))<|LO.nil<|yS Z (zs Z Z Z Z aT Z Z Z Z)<|zN<|ai<|zT<|zR<|yS Z (aw Z Z Z Z)<|zM Z<|zN<|zT ?_;obtain rfl := zJ hr;exact ⟨_, rfl, zW 3 ⟨rfl, rfl, rfl, rfl, rfl, rfl, trivial⟩ Z Z Z rfl⟩
  ·
   refine zo g1 hr fun hr => zq<|ao<|ao<|zy<|zT ?_;obtain rfl := zJ hr;have hr := congrArg some (hb_x1 _ rfl);obtain rfl := zJ hr;exact zW 3 ⟨Z, Z, Z, trivial⟩ Z Z Z Z
 ·have hr := ho_v2;clear hb_v2;refine zT<|LW.weak hw_v2<|zQ<|zQ<|zR<|zM Z<|yS Z (dT Z Z (by kernel_rfl))<|zM Z<|zN<|zT ?_;obtain ⟨v5, hb_v5, ho_v5⟩ := zB hr;clear hr;refine LW.tail (E := [(4, .ptr 1 0), (5, .ptr 2 0)]) (O := [.box (fl w), .box [.zs, .zs], .box (de v5.out)]) ?_<|fun env_v5 H_v5 hw_v5 => ?_
  ·refine LW.block ?_;refine LW.iterB (E := fun x2 : eh => [(4, .ptr 1 0), (5, .ptr 2 0), (30, .p (.slice 5 (l.map kc))), (31, .p (.int .i64 (l.length : Int))), (32, (iQ x2.t32))]) (O := fun x2 => [.box (fl w), .box [.zs, .zs], .box (de x2.out)]) hb_v5 (zW 3 ⟨rfl, rfl, rfl, rfl, rfl, trivial⟩ Z Z Z Z)<|fun x2 z_x2 hr hb_x2 => ?_;unfold iJ at hr;refine zQ<|zR<|yS Z (aw Z Z Z Z)<|zN<|zT<|zQ ?_;refine zX Z (fun g2 => ?_)<|fun g2 => ?_
   ·
    refine zi g2 hr fun hr => zk<|zT<|zQ<|zl<|zQ<|zR<|zb hr fun y2 h_y2 hr => yS Z (zx Z Z Z mq h_y2 Z)<|yS Z (dS Z Z Z jW Z Z)<|yS Z (ze Z xl Z Z)<|yS Z (zs Z Z Z Z jW Z Z Z Z)<|zN<|zT<|zR<|yS Z (zD Z Z Z aT Z Z)<|yS Z (zA Z Z qm)<|yS Z (zD Z Z Z dE Z Z)<|yS Z (zA Z Z qo)<|yS Z (zD Z Z Z eC Z Z)<|yS Z (ab.build Z nS Z Z Z)<|zb hr fun v6 h_v6 hr => yS Z (zC Z Z Z (by kernel_rfl) (zp (DM h_v6) (.cons zv (.cons zv .nil))))<|yS Z (zs Z Z Z Z aT Z Z Z Z) ?_;refine zN<|ai<|zT<|zR<|yS Z (aw Z Z Z Z)<|zM Z<|zN<|zT ?_;obtain rfl := zJ hr;exact ⟨_, rfl, zW 3 ⟨rfl, rfl, rfl, rfl, rfl, trivial⟩ Z Z Z rfl⟩
   ·
    refine zo g2 hr fun hr => zq<|ao<|ao<|zy<|zT ?_;obtain rfl := zJ hr;have hr := congrArg some (hb_x2 _ rfl);obtain rfl := zJ hr;exact zW 3 ⟨Z, Z, trivial⟩ Z Z Z Z
  ·have hr := ho_v5;clear hb_v5;refine zT<|LW.weak hw_v5<|zQ<|zR<|yS Z (zD Z Z Z aT Z Z)<|yS Z (zs Z Z Z Z aT Z Z Z Z)<|zN<|zT<|zr ?_;obtain rfl := zJ hr;exact zf (.one (.cellAgg Z Z (by kernel_rfl) Z)) zv
def sS (n : Nd) (w : Wd) (id : ID) : Option Bool :=
 (rD w.C n).bind fun v1 =>
 bif few n.V.B then
  some (!(decide (aU (aF n.V.B v1) id ≥ 0)))
 else none
theorem Cl {n : Nd} {w : Wd} {id : ID} {r_ : Bool} (hr : sS n w id = some r_) : LC Tryz.prog 64 [.p (gk n), .ptr 1 0, .ptr 0 0] [.box (fl w), .box [(uQ id.1), (uQ id.2)]] (Is (bQ r_) [.box (fl w), .box [(uQ id.1), (uQ id.2)]]) := by
 refine dc Tryz.func64 Z Z Z ?_;unfold sS at hr;refine zQ<|zR<|yS Z (bV Z Z Z Z Z)<|zM Z<|zN<|zT<|zQ<|LW.draw2 (by kernel_rfl) (by kernel_rfl)<|yE Z (zA Z Z ce)<|yE Z (zA Z Z bD)<|yE Z (zD Z Z Z dE Z Z)<|yE Z (zD Z Z Z aR Z Z)<|yE Z (zA Z Z i9)<|yE Z (zD Z Z Z bE Z Z)<|yE Z (zD Z Z Z co Z Z)<|zb hr fun v1 h_v1 hr => yE Z (zC Z Z Z (by kernel_rfl) (zp (Fg h_v1) (.cons zv (.cons zv .nil))))<|zg hr fun q1 hr => yE Z (zC Z Z Z (by kernel_rfl) (zp (Ln (l := n.V.B) (a := id) (b := v1) (tf q1)) (.cons zv (.cons zv (.cons zv .nil)))))<|yE Z (ab.not Z Z)<|zH Z<|LO.nil<|zT<|zr ?_;obtain rfl := zJ hr;exact ba (env' := [(4, .p (.bool (!(decide (aU (aF n.V.B v1) id ≥ 0)))))]) (H' := [.box (fl w), .box [(uQ id.1), (uQ id.2)]]) (zW 2 ⟨rfl, trivial⟩ Z Z Z Z) (.one (.tmp Z))<|⟨rfl, rfl⟩
structure jt where
 t8 : Int
def xN (l : List Nd) (w : Wd) (id : ID) (x1 : jt) : Option (jt ⊕ (jt ⊕ Int)) :=
 bif decide (x1.t8 < (l.length : Int)) then
  (ix l x1.t8).bind fun y1 =>
  (sS y1 w id).bind fun v2 =>
  bif v2 then
   some (.inr (.inr x1.t8))
  else
   some (.inl (jt.mk (IntKind.i64.wrap (x1.t8 + 1))))
 else
  some (.inr (.inl (jt.mk x1.t8)))
def Gb (l : List Nd) (w : Wd) (id : ID) : Option Int :=
 (iter (xN l w id) bG (jt.mk 0)).bind fun b_v1 => Sum.elim (fun _ =>
  some (-1)) some b_v1
theorem IU {l : List Nd} {w : Wd} {id : ID} {r_ : Int} (hr : Gb l w id = some r_) : LC Tryz.prog 118 [.p (.slice 12 (l.map gk)), .fn 64 [] [.ptr 1 0, .ptr 0 0]] [.box (fl w), .box [(uQ id.1), (uQ id.2)]] (Is (iQ r_) [.box (fl w), .box [(uQ id.1), (uQ id.2)]]) := by
 refine dc Tryz.func118 Z Z Z ?_;unfold Gb at hr;refine zQ<|zR<|zM Z<|zN<|zT<|zQ<|zQ<|zR<|zM Z<|yS Z (dT Z Z (by kernel_rfl))<|zM Z<|zN<|zT ?_;obtain ⟨b_v1, hb_v1, ho_v1⟩ := zB hr;clear hr;refine LW.tailB (b := b_v1) (E := fun v1 => [(4, (iQ 0))]) (O := fun v1 => [.box (fl w), .box [(uQ id.1), (uQ id.2)]]) ?_<|fun v1 e_v1 env_v1 H_v1 hw_v1 => ?_
 ·refine LW.block ?_;refine LW.iterB (E := fun x1 : jt => [(0, .p (.slice 12 (l.map gk))), (1, .fn 64 [] [.ptr 1 0, .ptr 0 0]), (4, (iQ 0)), (7, .p (.int .i64 (l.length : Int))), (8, (iQ x1.t8))]) (O := fun x1 => [.box (fl w), .box [(uQ id.1), (uQ id.2)]]) hb_v1 (zW 2 ⟨rfl, rfl, rfl, rfl, rfl, trivial⟩ Z Z Z Z)<|fun x1 z_x1 hr hb_x1 => ?_;unfold xN at hr;refine zQ<|zR<|yS Z (aw Z Z Z Z)<|zN<|zT<|zQ ?_;refine zX Z (fun g1 => ?_)<|fun g1 => ?_
  ·
   refine zi g1 hr fun hr => zk<|zT<|zQ<|zl<|zQ<|zR<|zM Z<|zM Z<|zN<|zT<|zQ<|zR<|zM Z<|zM Z<|zM Z<|zb hr fun y1 h_y1 hr => yS Z (zx Z Z Z dR h_y1 Z)<|yS Z (dS Z Z Z co Z Z)<|zb hr fun v2 h_v2 hr => yS Z (zC Z Z Z (by kernel_rfl) (Cl h_v2))<|zN<|zT ?_;refine zX Z (fun g2 => ?_)<|fun g2 => ?_
   ·
    refine zi g2 hr fun hr => zQ<|zR<|zM Z<|zM Z<|zN<|zT<|zr<|ay<|aj<|aj<|ay<|aj<|aj ?_;obtain rfl := zJ hr;have hr := congrArg some (hb_x1 _ rfl);obtain rfl := zJ hr;have hr := d8 ho_v1;obtain rfl := zJ hr;exact ap (.one (.tmp Z))<|⟨rfl, rfl⟩
   ·
    refine zo g2 hr fun hr => zk<|ai<|zT<|zR<|yS Z (aw Z Z Z Z)<|zM Z<|zN<|zT ?_;obtain rfl := zJ hr;exact ⟨_, rfl, zW 2 ⟨rfl, rfl, rfl, rfl, rfl, trivial⟩ Z Z Z rfl⟩
  ·
   refine zo g1 hr fun hr => zq<|ao<|ao<|zy<|zT ?_;obtain rfl := zJ hr;have hr := congrArg some (hb_x1 _ rfl);obtain rfl := zJ hr;exact ⟨_, rfl, zW 2 ⟨rfl, trivial⟩ Z Z Z rfl⟩
 ·obtain rfl := e_v1;have hr := gb ho_v1;clear hb_v1;refine zT<|LW.weak hw_v1<|zQ<|zR<|zM Z<|zN<|zT<|zr ?_;obtain rfl := zJ hr;exact ap (.one (.tmp Z))<|⟨rfl, rfl⟩
def Ga (l : List Nd) (w : Wd) (id : ID) : Option Bool :=
 (Gb l w id).bind fun v1 =>
 some (decide (v1 ≥ 0))
theorem IS {l : List Nd} {w : Wd} {id : ID} {r_ : Bool} (hr : Ga l w id = some r_) : LC Tryz.prog 63 [.p (.slice 12 (l.map gk)), .fn 64 [] [.ptr 1 0, .ptr 0 0]] [.box (fl w), .box [(uQ id.1), (uQ id.2)]] (Is (bQ r_) [.box (fl w), .box [(uQ id.1), (uQ id.2)]]) := by
 refine dc Tryz.func63 Z Z Z ?_;unfold Ga at hr;refine zQ<|zR<|zM Z<|zN<|zT<|zQ<|zR<|zM Z<|zM Z<|zb hr fun v1 h_v1 hr => yS Z (zC Z Z Z (by kernel_rfl) (IU h_v1))<|yS Z (aw Z Z Z Z)<|zM Z<|zN<|zT<|zr ?_;obtain rfl := zJ hr;exact ap (.one (.tmp Z))<|⟨rfl, rfl⟩
def AW (w : Wd) (id : ID) : Option Bool :=
 (Ga w.N w id).bind fun v1 =>
 some (!v1)
theorem HR {w : Wd} {id : ID} {r_ : Bool} (hr : AW w id = some r_) : av Tryz.prog 27 [DE w, bH id] [.bool r_] := by
 refine zh Tryz.func27 Z Z Z Z ?_;unfold AW at hr;refine zQ<|zR<|yS Z (bV Z Z Z Z Z)<|yS Z (bV Z Z Z Z Z)<|zM Z<|zN<|zT<|zQ<|zR<|yS Z (zA Z Z bK)<|yS Z (zD Z Z Z dk Z Z)<|yS Z (ab.makeFunc Z Z Z)<|zb hr fun v1 h_v1 hr => yS Z (zC Z Z Z (by kernel_rfl) (IS h_v1))<|yS Z (ab.not Z Z)<|zM Z<|zN<|zT<|zr ?_;obtain rfl := zJ hr;exact zf (.one (.tmp Z)) zv
open Go.Proofs
open Go.Proofs
structure Hv where
 i : Int
open Go.Proofs
open Go.Proofs
end Go.Mg
