/- A world behind a tick. A world that begins, and goes on. Are two nodes the same? Are two worlds the same? The example; what is begun. All that is seen; what is held. The example of audits. AuditSeen. Laws of views. Laws of views. Conditions: none. -/
import Derived.Test.YtbjmcafamkdokaaGreatX3
import Derived.Test.YtbjmcafamkdokaaGreatX8
import Derived.Test.YtbjmcafamkdokaaGreatX6
import Derived.Test.YtbjmcafamkdokaaGreatX5
import Derived.Test.YtbjmcafamkdokaaGreatX7
set_option maxRecDepth 100000
set_option linter.unusedSimpArgs false
set_option linter.unusedVariables false
namespace Go.Mg
open Go.Proofs
def uX (w : Wd) (l : List Ac) : Option (Vw × Int × Bool × List Ac) :=
 (rW w.N).bind fun v1 =>
 (ET w.C (IntKind.i64.wrap (w.Tick.tdiv 3))).bind fun v2 =>
 (tk w.Bad v2).bind fun v3 =>
 (p8 l w).bind fun v4 =>
 some (v1, v2, v3, v4)
theorem Ht {w : Wd} {l : List Ac} {r_ : Vw × Int × Bool × List Ac} (hr : uX w l = some r_) : LC Tryz.prog 51 [.p (Ei w), .p (.slice 5 (l.map kq))] [] (Is (.agg (kS w r_.1 r_.2.1 r_.2.2.1 r_.2.2.2 87 3 2)) [.box (fh w), .box (kS w r_.1 r_.2.1 r_.2.2.1 r_.2.2.2 87 3 2), .box (kS w r_.1 r_.2.1 r_.2.2.1 r_.2.2.2 87 3 2), .box [.fn 86 [] [.ptr 0 0]]]) := by
 refine dp Tryz.func51 Z Z Z ?_;unfold uX at hr;refine zQ (zR (yS Z (b6 Z Z Z Z Z) (yS Z (ze Z xX Z Z) (zN (zT (zQ (LW.ent (bO.slot Z) (LW.drawW (by kernel_rfl) (by kernel_rfl) (yF Z (zd Z Z Z bK Z Z) Z ?_)))))))));refine yF (F := []) (s := none) Z (fun H _ => zA Z Z bF) Z ?_;refine yF Z (zd Z Z Z db Z Z) Z (zb hr fun v1 h_v1 hr => ?_);refine yF (F := []) (s := none) Z (fun H _ => zC Z Z Z (by kernel_rfl) (zp (F0 h_v1) (.cons zv .nil))) Z ?_;refine yF (F := []) (s := none) Z (fun H _ => zA Z Z ja) Z ?_;refine yF Z (zd Z Z Z bC Z Z) Z ?_;refine yF (F := []) (s := none) Z (fun H _ => ab.quo Z Z Z (by decide)) Z ?_;refine yF (F := []) (s := none) Z (fun H _ => ab.build Z G7 Z Z Z) Z ?_;refine yF Z (bL.alloc Z xX (id := 2) Z) Z (yF Z (zt Z Z Z Z rC Z Z Z) Z ?_);refine LF.nil ⟨by kernel_rfl, ?_⟩;refine zT (zQ (zR (yS Z (zA Z Z i9) (yS Z (zD Z Z Z bA Z Z) (yS Z (zA Z Z vG) (yS Z (zD Z Z Z bC Z Z) (zb hr fun v2 h_v2 hr => yS Z (zC Z Z Z (by kernel_rfl) (zp (KY h_v2) (.cons zv (.cons zv .nil)))) (yS Z (zA Z Z qL) (yS Z (zs Z Z Z Z bC Z Z Z Z) (zN (zT (zQ (zR (yS Z (zA Z Z kJ) (yS Z (zD Z Z Z fc Z Z) (yS Z (zA Z Z qL) (yS Z (zD Z Z Z bC Z Z) (zb hr fun v3 h_v3 hr => yS Z (zC Z Z Z (by kernel_rfl) (zp (CM h_v3) (.cons zv (.cons zv .nil)))) (yS Z (zA Z Z vE) (yS Z (zs Z Z Z Z Bs Z Z Z Z) (zN ?_)))))))))))))))))))));refine zT (zQ (zR (zM Z (yS Z (ab.makeFunc Z Z Z) (zb hr fun v4 h_v4 hr => yS Z (zC Z Z Z (by kernel_rfl) (LC.pre (Fe h_v4) Z Z Z)) (yS Z (zA Z Z vH) (yS Z (zs Z Z Z Z D9 Z Z Z Z) (zN (zT (zQ (zR (yS Z (ab.makeFunc Z Z Z) (yS Z (ze Z KJ Z Z) (yS Z (zs Z Z Z Z tf Z Z Z Z) (zN (zT (zQ (zR (yS Z (ab.makeFunc Z Z Z) (yS Z (zA Z Z vF) (yS Z (zs Z Z Z Z Ef Z Z Z Z) (zN ?_))))))))))))))))))))));refine zT (zQ (zR (yS Z (zD Z Z Z rC Z Z) (yS Z (zs Z Z Z Z rC Z Z Z Z) (zN (zT (zr ?_)))))));obtain rfl := zJ hr;exact aq (.one (.cellAgg Z Z (by kernel_rfl) Z)) (⟨rfl, rfl⟩)
structure fp where
 t20 : Int
 v_in : Vw
 offers : List Of
def nU (w : Wd) (al : Vw) (wh : Int) (me : Bool) (cl : List Ac) (at_ : Int) (x1 : fp) : Option (fp ⊕ fp) :=
 bif decide (x1.t20 < (cl.length : Int)) then
  (ix cl x1.t20).bind fun y1 =>
  bif decide (0 ≤ at_) then
   bif (bits .and .i64 (y1.To.fdiv (2 ^ (min (Int.toNat at_) IntKind.i64.bits))) 1) == 0 then
    some (.inl (fp.mk (IntKind.i64.wrap (x1.t20 + 1)) x1.v_in x1.offers))
   else
    (uT y1 w al).bind fun v2 =>
    bif !y1.Offer then
     (yn x1.v_in v2).bind fun v3 =>
     some (.inl (fp.mk (IntKind.i64.wrap (x1.t20 + 1)) v3 x1.offers))
    else
     (
      bif me then
       some (decide ((v2.B.length : Int) > 0))
      else
       some false
     ).bind fun v4 =>
     bif v4 then
      (ix v2.B 0).bind fun y2 =>
      bif HZ v2.B 1 v2.B.length then
       bif room x1.offers.length [Of.mk (IntKind.i64.wrap (w.Tick.tdiv 3)) wh y2 (Vw.mk (v2.B.drop (1 : Int).toNat) v2.V)].length 104 then
        some (.inl (fp.mk (IntKind.i64.wrap (x1.t20 + 1)) x1.v_in (x1.offers ++ [Of.mk (IntKind.i64.wrap (w.Tick.tdiv 3)) wh y2 (Vw.mk (v2.B.drop (1 : Int).toNat) v2.V)])))
       else none
      else none
     else
      some (.inl (fp.mk (IntKind.i64.wrap (x1.t20 + 1)) x1.v_in x1.offers))
  else none
 else
  some (.inr (fp.mk x1.t20 x1.v_in x1.offers))
def Iw (w : Wd) (al : Vw) (wh : Int) (me : Bool) (cl : List Ac) (at_ : Int) : Option (Vw × List Of) :=
 bif room 0 w.O.length 104 then
  (iter (nU w al wh me cl at_) bG (fp.mk 0 al w.O)).bind fun v1 =>
  some (v1.v_in, v1.offers)
 else none
theorem LG {w : Wd} {al : Vw} {wh : Int} {me : Bool} {cl : List Ac} {at_ : Int} {r_ : Vw × List Of} (hr : Iw w al wh me cl at_ = some r_) : LC Tryz.prog 52 [.agg (kS w al wh me cl 87 5 4), (iQ at_)] (hM w al wh me cl 87 86) (Is (.tup [.p (mP r_.1), (kO r_.2)]) (hM w al wh me cl 87 86)) := by
 refine dp Tryz.func52 Z Z Z ?_;unfold Iw at hr;refine zQ (zR (yS Z (b6 Z Z Z Z Z) (yS Z (ze Z ig Z Z) (zM Z (zN (zT (zQ (LW.ent (bO.slot Z) (LW.ent (bO.slot Z) (LW.drawW (by kernel_rfl) (by kernel_rfl) ?_))))))))));refine yF (F := []) (s := none) Z (fun H _ => zA Z Z qK) Z ?_;refine yF Z (zd Z Z Z aS Z Z) Z ?_;refine yF (F := []) (s := none) Z (fun H _ => zA Z Z Dg) Z ?_;refine yF (F := []) (s := none) Z (fun H _ => zA Z Z jb) Z ?_;refine yF Z (zd Z Z Z bZ Z Z) Z (zg hr fun q1 hr => ?_);refine yF Z (bL.callV (id := 9) (qs := [(kO w.O)]) Z Z Z (by kernel_rfl) (CQ q1) (fun H => (.consC zv .nil)) Z) Z ?_;refine yF Z (bL.alloc Z ig (id := 8) Z) Z (yF Z (zt Z Z Z Z aS Z Z Z) Z (zK Z ?_));refine LF.nil ⟨by kernel_rfl, ?_⟩;refine zT (zQ (zQ (zR (yS Z (zA Z Z vH) (yS Z (zD Z Z Z D9 Z Z) (yS Z (d7 Z Z (by kernel_rfl)) (zM Z (zN (zT ?_)))))))));obtain ⟨v1, hb_v1, ho_v1⟩ := zB hr;clear hr;refine LW.tail (E := [(4, .ptr 7 0), (5, .zs), (6, .ptr 8 0), (7, (jO 9 v1.offers))]) (O := [.box (fh w), .box ul, .box (fh w), .box (kS w al wh me cl 87 5 4), .box (kS w al wh me cl 87 5 4), .box [.fn 86 [] [.ptr 2 0]], .box (kS w al wh me cl 87 5 4), .box [.zs, .zs], .box (dq v1.v_in), .vec 9 (v1.offers.map dN)]) ?_ (fun env_v1 H_v1 hw_v1 => ?_)
 ·refine LW.block ?_;refine LW.iterB (E := fun x1 : fp => [(1, (iQ at_)), (2, .ptr 6 0), (4, .ptr 7 0), (5, .zs), (6, .ptr 8 0), (7, (jO 9 x1.offers)), (18, .p (.slice 5 (cl.map kq))), (19, .p (.int .i64 (cl.length : Int))), (20, (iQ x1.t20))]) (O := fun x1 => [.box (fh w), .box ul, .box (fh w), .box (kS w al wh me cl 87 5 4), .box (kS w al wh me cl 87 5 4), .box [.fn 86 [] [.ptr 2 0]], .box (kS w al wh me cl 87 5 4), .box [.zs, .zs], .box (dq x1.v_in), .vec 9 (x1.offers.map dN)]) hb_v1 (zW 10 ⟨rfl, rfl, rfl, rfl, rfl, rfl, rfl, rfl, rfl, trivial⟩ Z Z Z Z) (fun x1 z_x1 hr hb_x1 => ?_);unfold nU at hr;refine zQ (zR (yS Z (ax Z Z Z Z) (zN (zT (zQ ?_)))));refine zX Z (fun g1 => ?_) (fun g1 => ?_)
  ·
   refine zi g1 hr fun hr => zk (zT (zQ (zl (zQ (zR (zb hr fun y1 h_y1 hr => yS Z (zx Z Z Z mG h_y1 Z) (yS Z (d6 Z Z Z j4 Z Z) (yS Z (ze Z xT Z Z) (yS Z (zs Z Z Z Z j4 Z Z Z Z) (zN (zT (zQ (zQ (zR (yS Z (zA Z Z vA) (yS Z (zD Z Z Z bC Z Z) (zM Z (zg hr fun q2 hr => yS Z (ab.shr Z Z Z (of_decide_eq_true q2)) (yS Z (ax Z Z Z Z) (yS Z (ax Z Z Z Z) ?_))))))))))))))))))));refine zN (zT ?_);refine zX Z (fun g2 => ?_) (fun g2 => ?_)
   ·
    refine zi g2 hr fun hr => zq (ap (zy (zT (zR (yS Z (ax Z Z Z Z) (zM Z (zN (zT ?_))))))));obtain rfl := zJ hr;exact ⟨_, rfl, zW 10 ⟨rfl, rfl, rfl, rfl, rfl, rfl, rfl, rfl, rfl, trivial⟩ Z Z Z rfl⟩
   ·
    refine zo g2 hr fun hr => zk (zT (zQ (zR (yS Z (zA Z Z vF) (yS Z (zD Z Z Z Ef Z Z) (yS Z (zD Z Z Z j4 Z Z) (zb hr fun v2 h_v2 hr => yS Z (zC Z Z Z (by kernel_rfl) (LC.pre (Ho h_v2) Z Z Z)) (yS Z (ze Z ig Z Z) (yS Z (zs Z Z Z Z aS Z Z Z Z) (zN (zT (zl (zQ (zR (yS Z (zA Z Z C9) (yS Z (zD Z Z Z Bs Z Z) (yS Z (ab.not Z Z) (zM Z (zN (zT ?_))))))))))))))))))));refine zX Z (fun g3 => ?_) (fun g3 => ?_)
    ·
     refine zi g3 hr fun hr => zR (yS Z (zD Z Z Z aS Z Z) (yS Z (zD Z Z Z aS Z Z) (zb hr fun v3 h_v3 hr => yS Z (zC Z Z Z (by kernel_rfl) (zp (Eu h_v3) (.cons zv (.cons zv .nil)))) (yS Z (zs Z Z Z Z aS Z Z Z Z) (zN (ai (ai (zT (zR (yS Z (ax Z Z Z Z) (zM Z (zN (zT ?_)))))))))))));obtain rfl := zJ hr;exact ⟨_, rfl, zW 10 ⟨rfl, rfl, rfl, rfl, rfl, rfl, rfl, rfl, rfl, trivial⟩ Z Z Z rfl⟩
    ·
     have hr := zO g3 hr;obtain ⟨v4, hb_v4, ho_v4⟩ := zB hr;clear hr;refine LW.cut (E := [(1, (iQ at_)), (2, .ptr 6 0), (4, .ptr 7 0), (5, .zs), (6, .ptr 8 0), (7, (jO 9 x1.offers)), (10, .ptr 11 0), (18, .p (.slice 5 (cl.map kq))), (19, .p (.int .i64 (cl.length : Int))), (20, (iQ x1.t20)), (41, (bQ v4))]) (O := [.box (fh w), .box ul, .box (fh w), .box (kS w al wh me cl 87 5 4), .box (kS w al wh me cl 87 5 4), .box [.fn 86 [] [.ptr 2 0]], .box (kS w al wh me cl 87 5 4), .box [.zs, .zs], .box (dq x1.v_in), .vec 9 (x1.offers.map dN), .box [(iQ y1.Tick), (iQ y1.To), (bQ y1.Offer), (kB y1.B), (kV y1.V)], .box (dq v2)]) ?_ ?_
     ·have hr := hb_v4;refine zR (yS Z (zA Z Z vE) (yS Z (zD Z Z Z Bs Z Z) (zM Z ?_)));refine zc 44 Z (fun g4 => ?_) (fun g4 => ?_)
      ·
       refine zi g4 hr fun hr => yV Z (gd g4 Z) (zA Z Z bz) (yV Z (gd g4 Z) (zD Z Z Z dA Z Z) (yV Z (gd g4 Z) (d7 Z Z (by kernel_rfl)) (yV Z (gd g4 Z) (ax Z Z Z Z) (yS Z (eF Z (bM g4 Z) Z) (zM Z (zN (zT ?_)))))));obtain rfl := zJ hr;exact zW 12 ⟨Z, Z, Z, Z, Z, Z, Z, Z, Z, Z, Z, trivial⟩ Z Z Z Z
      ·
       refine zo g4 hr fun hr => yU Z (gd g4 Z) Z (yU Z (gd g4 Z) Z (yU Z (gd g4 Z) Z (yU Z (gd g4 Z) Z (yS Z (df Z (bM g4 Z) Z) (zM Z (zN (zT ?_)))))));obtain rfl := zJ hr;exact zW 12 ⟨Z, Z, Z, Z, Z, Z, Z, Z, Z, Z, Z, trivial⟩ Z Z Z Z
     ·have hr := ho_v4;clear hb_v4;refine zX Z (fun g5 => ?_) (fun g5 => ?_)
      ·
       refine zi g5 hr fun hr => LW.drawW (by kernel_rfl) (by kernel_rfl) (zK Z ?_);refine yF (F := []) (s := none) Z (fun H _ => zA Z Z vG) Z ?_;refine yF Z (zd Z Z Z bC Z Z) Z ?_;refine yF (F := []) (s := none) Z (fun H _ => zA Z Z qL) Z ?_;refine yF Z (zd Z Z Z bC Z Z) Z ?_;refine yF (F := []) (s := none) Z (fun H _ => zA Z Z bz) Z ?_;refine yF Z (zd Z Z Z dA Z Z) Z (zb hr fun y2 h_y2 hr => ?_);refine yF (F := []) (s := none) Z (fun H _ => zx Z Z Z ew h_y2 Z) Z ?_;refine yF (F := []) (s := none) Z (fun H _ => d6 Z Z Z cN Z Z) Z ?_;refine yF (F := []) (s := none) Z (fun H _ => zA Z Z bz) Z ?_;refine yF Z (zd Z Z Z dA Z Z) Z (zg hr fun q3 hr => ?_);refine yF (F := []) (s := none) Z (fun H _ => ab.sliceLo Z Z Z ew q3) Z ?_;refine yF (F := []) (s := none) Z (fun H _ => zA Z Z b9) Z ?_;refine yF Z (zd Z Z Z eU Z Z) Z ?_;refine yF (F := []) (s := none) Z (fun H _ => ab.build Z oa Z Z Z) Z ?_;refine yF (F := []) (s := none) Z (fun H _ => ab.build Z CK Z Z Z) Z ?_;refine yF (F := []) (s := none) Z (fun H _ => mS Z cz Z Z Z Z Z) Z ?_;refine zg hr fun q4 hr => yF Z (bL.appendX dN x1.offers [Of.mk (IntKind.i64.wrap (w.Tick.tdiv 3)) wh y2 (Vw.mk (v2.B.drop (1 : Int).toNat) v2.V)] rfl Z Z Z Z cz q4) Z (zK Z ?_);refine LF.nil ⟨by kernel_rfl, ?_⟩;refine ai (ai (zT (zR (yS Z (ax Z Z Z Z) (zM Z (zN (zT ?_)))))));obtain rfl := zJ hr;exact ⟨_, rfl, zW 10 ⟨rfl, rfl, rfl, rfl, rfl, rfl, rfl, rfl, rfl, trivial⟩ Z Z Z rfl⟩
      ·
       refine zo g5 hr fun hr => zk (ai (ai (zT (zR (yS Z (ax Z Z Z Z) (zM Z (zN (zT ?_))))))));obtain rfl := zJ hr;exact ⟨_, rfl, zW 10 ⟨rfl, rfl, rfl, rfl, rfl, rfl, rfl, rfl, rfl, trivial⟩ Z Z Z rfl⟩
  ·
   refine zo g1 hr fun hr => zq (ap (ap (zy (zT ?_))));obtain rfl := zJ hr;have hr := congrArg some (hb_x1 _ rfl);obtain rfl := zJ hr;exact zW 10 ⟨Z, Z, Z, Z, trivial⟩ Z Z Z Z
 ·have hr := ho_v1;clear hb_v1;refine zT (LW.weak hw_v1 (zQ (LW.ent (bO.frz (t := 7) (env' := [(4, .ptr 7 0), (6, .ptr 8 0)]) (H0 := [.box (fh w), .box ul, .box (fh w), .box (kS w al wh me cl 87 5 4), .box (kS w al wh me cl 87 5 4), .box [.fn 86 [] [.ptr 2 0]], .box (kS w al wh me cl 87 5 4), .box [.zs, .zs], .box (dq v1.v_in)]) Z Z Z Z Z ⟨rfl, rfl, trivial⟩ Z Z) (zR (yS Z (zD Z Z Z aS Z Z) (zM Z (yS Z (zs Z Z Z Z aS Z Z Z Z) (zM Z (zN (zT (zr ?_)))))))))));obtain rfl := zJ hr;exact i6 (env' := []) (H' := (hM w al wh me cl 87 86)) (zW 6 trivial Z Z Z Z) (.two (.cellAgg Z Z (by kernel_rfl) Z) (.tmp Z)) Z (⟨rfl, rfl⟩)
structure ed where
 t43 : Int
 o9 : List Nd
 o10 : List Of
def iW (w : Wd) (v4 : Vw × Int × Bool × List Ac) (x1 : ed) : Option (ed ⊕ ed) :=
 bif decide (x1.t43 < (w.N.length : Int)) then
  (Iw w v4.1 v4.2.1 v4.2.2.1 v4.2.2.2 x1.t43).bind fun v6 =>
  (ix w.N x1.t43).bind fun y1 =>
  (iR w.C y1 v6.1 v6.2).bind fun v7 =>
  bif room x1.o9.length [v7.1].length 176 then
   bif room x1.o10.length v7.2.length 104 then
    some (.inl (ed.mk (IntKind.i64.wrap (x1.t43 + 1)) (x1.o9 ++ [v7.1]) (x1.o10 ++ v7.2)))
   else none
  else none
 else
  some (.inr (ed.mk x1.t43 x1.o9 x1.o10))
def oW (w : Wd) (l : List Ac) : Option Wd :=
 (
  (ym w.C).bind fun v2 =>
  bif !v2 then
   some true
  else
   bif decide (w.Tick < 3) then
    some true
   else
    some (decide (w.Tick ≥ 3145728))
 ).bind fun v1 =>
 bif v1 then
  (oX w).bind fun _ =>
  some w
 else
  (uX w l).bind fun v4 =>
  bif room 0 w.Bad.length 8 then
   (iter (iW w v4) bG (ed.mk 0 ([] : List Nd) ([] : List Of))).bind fun v5 =>
   some (Wd.mk w.C w.Bad (IntKind.i64.wrap (w.Tick + 1)) v5.o9 v5.o10)
  else none
theorem F6 {w : Wd} {l : List Ac} {r_ : Wd} (hr : oW w l = some r_) : aw Tryz.prog 17 [Ei w, .slice 5 (l.map kq)] [Ei r_] := by
 refine zh Tryz.func17 Z Z Z Z ?_;unfold oW at hr;refine zQ (zR (yS Z (b6 Z Z Z Z Z) (yS Z (ze Z j9 Z Z) (zN (zT (zQ ?_))))));obtain ⟨v1, hb_v1, ho_v1⟩ := zB hr;clear hr;refine LW.cut (E := [(1, .p (.slice 5 (l.map kq))), (2, .ptr 0 0), (4, .ptr 1 0), (25, (bQ v1))]) (O := [.box (fh w), .box ul]) ?_ ?_
 ·have hr := hb_v1;refine zR (yS Z (zA Z Z i9) (yS Z (zD Z Z Z bA Z Z) (zb hr fun v2 h_v2 hr => yS Z (zC Z Z Z (by kernel_rfl) (zp (F9 h_v2) (.cons zv .nil))) (yS Z (ab.not Z Z) (zM Z ?_)))));refine zc 16 Z (fun g1 => ?_) (fun g1 => ?_)
  ·
   refine zi g1 hr fun hr => yU Z (gd g1 Z) Z (yU Z (gd g1 Z) Z (yU Z (gd g1 Z) Z (yS Z (eF Z (bM g1 Z) Z) (zM Z (yU Z Z Z (yU Z Z Z (yU Z Z Z (yS Z (eF Z Z Z) (zN (zT ?_))))))))));obtain rfl := zJ hr;exact zW 2 ⟨Z, Z, Z, Z, trivial⟩ Z Z Z Z
  ·
   refine zo g1 hr fun hr => yV Z (gd g1 Z) (zA Z Z ja) (yV Z (gd g1 Z) (zD Z Z Z bC Z Z) (yV Z (gd g1 Z) (ax Z Z Z Z) (yS Z (df Z (bM g1 Z) Z) (zM Z ?_))));refine zc 21 Z (fun g2 => ?_) (fun g2 => ?_)
   ·
    refine zi g2 hr fun hr => yU Z (gd g2 Z) Z (yU Z (gd g2 Z) Z (yU Z (gd g2 Z) Z (yS Z (eF Z (bM g2 Z) Z) (zN (zT ?_)))));obtain rfl := zJ hr;exact zW 2 ⟨Z, Z, Z, Z, trivial⟩ Z Z Z Z
   ·
    refine zo g2 hr fun hr => yV Z (gd g2 Z) (zA Z Z ja) (yV Z (gd g2 Z) (zD Z Z Z bC Z Z) (yV Z (gd g2 Z) (ax Z Z Z Z) (yS Z (df Z (bM g2 Z) Z) (zN (zT ?_)))));obtain rfl := zJ hr;exact zW 2 ⟨Z, Z, Z, Z, trivial⟩ Z Z Z Z
 ·have hr := ho_v1;clear hb_v1;refine zX Z (fun g3 => ?_) (fun g3 => ?_)
  ·
   refine zi g3 hr fun hr => zQ (zR (yS Z (zD Z Z Z bK Z Z) (zb hr fun v3 h_v3 hr => ?_)));obtain rfl := uN h_v3;refine yS Z (zC Z Z Z (by kernel_rfl) (zp (F7 h_v3) (.cons zv .nil))) (yS Z (zs Z Z Z Z bK Z Z Z Z) (zN (zT (zr (aj ?_)))));obtain rfl := zJ hr;exact zf (.one (.cellAgg Z Z (by kernel_rfl) Z)) zv
  ·
   refine zo g3 hr fun hr => zk (zT (zQ (zR (yS Z (zD Z Z Z bK Z Z) (zM Z (zb hr fun v4 h_v4 hr => yS Z (zC Z Z Z (by kernel_rfl) (LC.frameX (x' := .agg (kS w v4.1 v4.2.1 v4.2.2.1 v4.2.2.2 87 5 4)) (H' := [.box (fh w), .box ul, .box (fh w), .box (kS w v4.1 v4.2.1 v4.2.2.1 v4.2.2.2 87 5 4), .box (kS w v4.1 v4.2.1 v4.2.2.1 v4.2.2.2 87 5 4), .box [.fn 86 [] [.ptr 2 0]]]) (Ht h_v4) (.consC zv (.consC zv .nil)) Z (by simp only [List.map_cons, List.map_nil, List.cons_append, List.nil_append, aa.shift, LV.shifts, LV.shift] <;> rfl) (by simp only [List.map_cons, List.map_nil, List.cons_append, List.nil_append, aa.shift, LV.shifts, LV.shift] <;> rfl))) (yS Z (ze Z xX Z Z) (yS Z (zs Z Z Z Z rC Z Z Z Z) (zN (zT (zQ (LW.ent (bO.slot Z) (LW.ent (bO.slot Z) (LW.drawW (by kernel_rfl) (by kernel_rfl) ?_))))))))))))));refine yF (F := []) (s := none) Z (fun H _ => zA Z Z i9) Z ?_;refine yF Z (zd Z Z Z bA Z Z) Z ?_;refine yF (F := []) (s := none) Z (fun H _ => zA Z Z kJ) Z ?_;refine yF Z (zd Z Z Z fc Z Z) Z (zg hr fun q1 hr => ?_);refine yF Z (bL.callV (id := 7) (qs := [(kI w.Bad)]) Z Z Z (by kernel_rfl) (w5 q1) (fun H => (.consC zv .nil)) Z) Z ?_;refine yF (F := []) (s := none) Z (fun H _ => zA Z Z ja) Z ?_;refine yF Z (zd Z Z Z bC Z Z) Z ?_;refine yF (F := []) (s := none) Z (fun H _ => ax Z Z Z Z) Z ?_;refine yF (F := []) (s := none) Z (fun H _ => ab.build Z CJ Z Z Z) Z ?_;refine yF Z (bL.alloc Z j9 (id := 8) Z) Z (yF Z (zt Z Z Z Z bK Z Z Z) Z ?_);refine LF.nil ⟨by kernel_rfl, ?_⟩;refine zT (zQ (zQ (LW.ent (bO.lazyCell (i := 8) (j := 7) (m := 12) Z Z Z Z Z Z) (LW.ent (bO.lazyCell (i := 8) (j := 8) (m := 9) Z Z Z Z Z Z) (zR (yS Z (zA Z Z bF) (yS Z (zD Z Z Z db Z Z) (yS Z (d7 Z Z (by kernel_rfl)) (zM Z (zN (zT ?_)))))))))));obtain ⟨v5, hb_v5, ho_v5⟩ := zB hr;clear hr;refine LW.tail (E := [(4, .ptr 1 0), (6, .ptr 8 0)]) (O := [.box (fh w), .box ul, .box (fh w), .box (kS w v4.1 v4.2.1 v4.2.2.1 v4.2.2.2 87 5 4), .box (kS w v4.1 v4.2.1 v4.2.2.1 v4.2.2.2 87 5 4), .box [.fn 86 [] [.ptr 2 0]], .box (kS w v4.1 v4.2.1 v4.2.2.1 v4.2.2.2 87 5 4), .vec 1 (w.Bad.map aG), .box [(kI w.C.W), (uQ w.C.Seed), (iQ w.C.Epoch), (iQ w.C.Num), (iQ w.C.Den), (jI 7 w.Bad), .p (.int .i64 (IntKind.i64.wrap (w.Tick + 1))), .vec 12 9 (v5.o9.map ic).length 0 (v5.o9.map ic).length, (jO 10 v5.o10)], .vec 12 (v5.o9.map ic), .vec 9 (v5.o10.map dN)]) ?_ (fun env_v5 H_v5 hw_v5 => ?_)
   ·refine LW.block ?_;refine LW.iterB (E := fun x1 : ed => [(2, .ptr 0 0), (4, .ptr 1 0), (5, .ptr 6 0), (6, .ptr 8 0), (42, .p (.int .i64 (w.N.length : Int))), (43, (iQ x1.t43))]) (O := fun x1 => [.box (fh w), .box ul, .box (fh w), .box (kS w v4.1 v4.2.1 v4.2.2.1 v4.2.2.2 87 5 4), .box (kS w v4.1 v4.2.1 v4.2.2.1 v4.2.2.2 87 5 4), .box [.fn 86 [] [.ptr 2 0]], .box (kS w v4.1 v4.2.1 v4.2.2.1 v4.2.2.2 87 5 4), .vec 1 (w.Bad.map aG), .box [(kI w.C.W), (uQ w.C.Seed), (iQ w.C.Epoch), (iQ w.C.Num), (iQ w.C.Den), (jI 7 w.Bad), .p (.int .i64 (IntKind.i64.wrap (w.Tick + 1))), .vec 12 9 (x1.o9.map ic).length 0 (x1.o9.map ic).length, (jO 10 x1.o10)], .vec 12 (x1.o9.map ic), .vec 9 (x1.o10.map dN)]) hb_v5 (zW 11 ⟨rfl, rfl, rfl, rfl, rfl, rfl, trivial⟩ Z Z Z Z) (fun x1 z_x1 hr hb_x1 => ?_);unfold iW at hr;refine zQ (zR (yS Z (ax Z Z Z Z) (zN (zT (zQ ?_)))));refine zX Z (fun g4 => ?_) (fun g4 => ?_)
    ·
     refine zi g4 hr fun hr => zk (zT (zQ (zl (zQ (zR (zM Z (zM Z (zN (zT (zQ (zR (yS Z (zD Z Z Z rC Z Z) (zM Z (zb hr fun v6 h_v6 hr => yS Z (zC Z Z Z (by kernel_rfl) (LC.pre (LG h_v6) Z Z Z)) (zM Z (yS Z (fd Z Z Z) (yS Z (fd Z Z Z) (yS Z (ze Z ig Z Z) (yS Z (zs Z Z Z Z aS Z Z Z Z) (zM Z (zN ?_)))))))))))))))))))));refine zT (zQ (LW.ent (bO.slot Z) (LW.drawW (by kernel_rfl) (by kernel_rfl) ?_)));refine yF (F := []) (s := none) Z (fun H _ => zA Z Z i9) Z ?_;refine yF Z (zd Z Z Z bA Z Z) Z ?_;refine yF (F := []) (s := none) Z (fun H _ => zA Z Z bF) Z ?_;refine yF Z (zd Z Z Z db Z Z) Z (zK Z (zb hr fun y1 h_y1 hr => ?_));refine yF (F := []) (s := none) Z (fun H _ => zx Z Z Z dP h_y1 Z) Z ?_;refine yF (F := []) (s := none) Z (fun H _ => d6 Z Z Z dc Z Z) Z ?_;refine yF Z (zd Z Z Z aS Z Z) Z (zK Z (zb hr fun v7 h_v7 hr => ?_));refine yF (F := []) (s := none) Z (fun H _ => zC Z Z Z (by kernel_rfl) (zp (I9 h_v7) (.cons zv (.cons zv (.cons zv (.cons zv .nil)))))) Z ?_;refine zK Z ?_;refine yF (F := []) (s := none) Z (fun H _ => fd Z Z Z) Z ?_;refine yF (F := []) (s := none) Z (fun H _ => fd Z Z Z) Z ?_;refine yF Z (bL.alloc Z ui (id := 12) Z) Z (yF Z (zt Z Z Z Z dc Z Z Z) Z (zK Z ?_));refine LF.nil ⟨by kernel_rfl, ?_⟩;refine zT (LW.drawW (by kernel_rfl) (by kernel_rfl) ?_);refine yF (F := []) (s := none) Z (fun H _ => zA Z Z bF) Z ?_;refine yF Z (zd Z Z Z db Z Z) Z (yF Z (zd Z Z Z dc Z Z) Z ?_);refine yF (F := []) (s := none) Z (fun H _ => mS Z dP Z Z Z Z Z) Z ?_;refine zg hr fun q2 hr => yF Z (bL.appendX ic x1.o9 [v7.1] rfl Z Z Z Z dP q2) Z ?_;refine yF (F := []) (s := none) Z (fun H _ => zA Z Z jb) Z ?_;refine yF Z (zd Z Z Z bZ Z Z) Z (zK Z (zg hr fun q3 hr => yF Z (bL.appendX dN x1.o10 v7.2 Z Z Z Z Z cz q3) Z ?_));refine yF (F := []) (s := none) Z (fun H _ => zA Z Z bF) Z ?_;refine yF Z (zt Z Z Z Z db Z Z Z) Z ?_;refine yF (F := []) (s := none) Z (fun H _ => zA Z Z jb) Z ?_;refine yF Z (zt Z Z Z Z bZ Z Z Z) Z ?_;refine LF.nil ⟨by kernel_rfl, ?_⟩;refine ai (zT (zR (yS Z (ax Z Z Z Z) (zM Z (zN (zT ?_))))));obtain rfl := zJ hr;exact ⟨_, rfl, zW 11 ⟨rfl, rfl, rfl, rfl, rfl, rfl, trivial⟩ Z Z Z rfl⟩
    ·
     refine zo g4 hr fun hr => zq (ap (ap (zy (zT ?_))));obtain rfl := zJ hr;have hr := congrArg some (hb_x1 _ rfl);obtain rfl := zJ hr;exact zW 11 ⟨Z, Z, trivial⟩ Z Z Z Z
   ·have hr := ho_v5;clear hb_v5;refine zT (LW.weak hw_v5 (zQ (zR (yS Z (zD Z Z Z bK Z Z) (yS Z (zs Z Z Z Z bK Z Z Z Z) (zN (zT (zr ?_))))))));obtain rfl := zJ hr;exact zf (.one (.cellAgg Z Z (by kernel_rfl) Z)) ((Conv.agg (.cons zv (.cons zv (.cons zv (.cons zv (.cons zv (.cons (Conv.vecAll Z Z Z) (.cons zv (.cons (Conv.vecAll Z Z Z) (.cons (Conv.vecAll Z Z Z) .nil)))))))))))
open Go.Proofs
structure dI where
 t19 : Int
 o4 : List Nd
def iV (c : Cf) (bad : List Int) (x1 : dI) : Option (dI ⊕ dI) :=
 bif decide (x1.t19 < (c.W.length : Int)) then
  (tk bad x1.t19).bind fun v3 =>
  bif !v3 then
   (yi x1.t19).bind fun v4 =>
   bif room x1.o4.length [v4].length 176 then
    some (.inl (dI.mk (IntKind.i64.wrap (x1.t19 + 1)) (x1.o4 ++ [v4])))
   else none
  else
   some (.inl (dI.mk (IntKind.i64.wrap (x1.t19 + 1)) x1.o4))
 else
  some (.inr (dI.mk x1.t19 x1.o4))
def p0 (c : Cf) (bad : List Int) : Option Wd :=
 bif room 0 bad.length 8 then
  (ym c).bind fun v1 =>
  bif !v1 then
   some (Wd.mk c bad 0 [] [])
  else
   (iter (iV c bad) bG (dI.mk 0 ([] : List Nd))).bind fun v2 =>
   some (Wd.mk c bad 3 v2.o4 [])
 else none
theorem F5 {c : Cf} {bad : List Int} {r_ : Wd} (hr : p0 c bad = some r_) : aw Tryz.prog 16 [jC c, .slice 1 (bad.map aG)] [Ei r_] := by
 refine zh Tryz.func16 Z Z Z Z ?_;unfold p0 at hr;refine zQ (zR (yS Z (b6 Z Z Z Z Z) (yS Z (ze Z j9 Z Z) (zN (zT (zQ (LW.ent (bO.slot Z) (LW.ent (bO.slot Z) (LW.drawW (by kernel_rfl) (by kernel_rfl) (yF Z (zd Z Z Z bA Z Z) Z (zK Z (zg hr fun q1 hr => ?_))))))))))));refine yF Z (bL.callV (id := 2) (qs := [(kI bad)]) Z Z Z (by kernel_rfl) (w5 q1) (fun H => (.consC zv .nil)) Z) Z ?_;refine yF (F := []) (s := none) Z (fun H _ => ab.build Z CJ Z Z Z) Z ?_;refine yF Z (bL.alloc Z j9 (id := 3) Z) Z (yF Z (zt Z Z Z Z bK Z Z Z) Z ?_);refine LF.nil ⟨by kernel_rfl, ?_⟩;refine zT (zQ (zQ (zR (yS Z (zD Z Z Z bA Z Z) (zb hr fun v1 h_v1 hr => yS Z (zC Z Z Z (by kernel_rfl) (zp (F9 h_v1) (.cons zv .nil))) (yS Z (ab.not Z Z) (zN (zT ?_))))))));refine zX Z (fun g1 => ?_) (fun g1 => ?_)
 ·
  refine zi g1 hr fun hr => zQ (zR (yS Z (zD Z Z Z bK Z Z) (yS Z (zs Z Z Z Z bK Z Z Z Z) (zN (zT (zr (aj ?_)))))));obtain rfl := zJ hr;exact zf (.one (.cellAgg Z Z (by kernel_rfl) Z)) ((Conv.agg (.cons zv (.cons zv (.cons zv (.cons zv (.cons zv (.cons (Conv.vecAll Z Z Z) (.cons zv (.cons Conv.zs (.cons Conv.zs .nil)))))))))))
 ·
  refine zo g1 hr fun hr => zk (zT (zQ (zR (yS Z (zA Z Z ja) (yS Z (zs Z Z Z Z bC Z Z Z Z) (zN (zT (zQ (zQ (LW.ent (bO.lazyCell (i := 3) (j := 7) (m := 12) Z Z Z Z Z Z) (zR (yS Z (zA Z Z gO) (yS Z (zD Z Z Z fc Z Z) (yS Z (d7 Z Z (by kernel_rfl)) (zM Z (zN (zT ?_)))))))))))))))));obtain ⟨v2, hb_v2, ho_v2⟩ := zB hr;clear hr;refine LW.tail (E := [(4, .ptr 1 0), (5, .ptr 3 0)]) (O := [.box (bI c), .box ul, .vec 1 (bad.map aG), .box [(kI c.W), (uQ c.Seed), (iQ c.Epoch), (iQ c.Num), (iQ c.Den), (jI 2 bad), (iQ 3), .vec 12 4 (v2.o4.map ic).length 0 (v2.o4.map ic).length, .zs], .vec 12 (v2.o4.map ic)]) ?_ (fun env_v2 H_v2 hw_v2 => ?_)
  ·refine LW.block ?_;refine LW.iterB (E := fun x1 : dI => [(1, (kI bad)), (4, .ptr 1 0), (5, .ptr 3 0), (18, .p (.int .i64 (c.W.length : Int))), (19, (iQ x1.t19))]) (O := fun x1 => [.box (bI c), .box ul, .vec 1 (bad.map aG), .box [(kI c.W), (uQ c.Seed), (iQ c.Epoch), (iQ c.Num), (iQ c.Den), (jI 2 bad), (iQ 3), .vec 12 4 (x1.o4.map ic).length 0 (x1.o4.map ic).length, .zs], .vec 12 (x1.o4.map ic)]) hb_v2 (zW 5 ⟨rfl, rfl, rfl, rfl, rfl, trivial⟩ Z Z Z Z) (fun x1 z_x1 hr hb_x1 => ?_);unfold iV at hr;refine zQ (zR (yS Z (ax Z Z Z Z) (zN (zT (zQ ?_)))));refine zX Z (fun g2 => ?_) (fun g2 => ?_)
   ·
    refine zi g2 hr fun hr => zk (zT (zQ (zl (zQ (zR (zM Z (zM Z (zN (zT (zQ (zR (zM Z (zM Z (zb hr fun v3 h_v3 hr => yS Z (zC Z Z Z (by kernel_rfl) (zp (CM h_v3) (.cons zv (.cons zv .nil)))) (yS Z (ab.not Z Z) (zN (zT ?_)))))))))))))))));refine zX Z (fun g3 => ?_) (fun g3 => ?_)
    ·
     refine zi g3 hr fun hr => LW.drawW (by kernel_rfl) (by kernel_rfl) ?_;refine yF (F := []) (s := none) Z (fun H _ => zA Z Z bF) Z ?_;refine yF Z (zd Z Z Z db Z Z) Z (zK Z (zb hr fun v4 h_v4 hr => ?_));refine yF (F := []) (s := none) Z (fun H _ => zC Z Z Z (by kernel_rfl) (zp (Jc h_v4) (.cons zv .nil))) Z ?_;refine yF (F := []) (s := none) Z (fun H _ => mS Z dP Z Z Z Z Z) Z ?_;refine zg hr fun q2 hr => yF Z (bL.appendX ic x1.o4 [v4] rfl Z Z Z Z dP q2) Z ?_;refine yF (F := []) (s := none) Z (fun H _ => zA Z Z bF) Z ?_;refine yF Z (zt Z Z Z Z db Z Z Z) Z ?_;refine LF.nil ⟨by kernel_rfl, ?_⟩;refine ai (zT (zR (yS Z (ax Z Z Z Z) (zM Z (zN (zT ?_))))));obtain rfl := zJ hr;exact ⟨_, rfl, zW 5 ⟨rfl, rfl, rfl, rfl, rfl, trivial⟩ Z Z Z rfl⟩
    ·
     refine zo g3 hr fun hr => zk (ai (zT (zR (yS Z (ax Z Z Z Z) (zM Z (zN (zT ?_)))))));obtain rfl := zJ hr;exact ⟨_, rfl, zW 5 ⟨rfl, rfl, rfl, rfl, rfl, trivial⟩ Z Z Z rfl⟩
   ·
    refine zo g2 hr fun hr => zq (ap (ap (zy (zT ?_))));obtain rfl := zJ hr;have hr := congrArg some (hb_x1 _ rfl);obtain rfl := zJ hr;exact zW 5 ⟨Z, Z, trivial⟩ Z Z Z Z
  ·have hr := ho_v2;clear hb_v2;refine zT (LW.weak hw_v2 (zQ (zR (yS Z (zD Z Z Z bK Z Z) (yS Z (zs Z Z Z Z bK Z Z Z Z) (zN (zT (zr ?_))))))));obtain rfl := zJ hr;exact zf (.one (.cellAgg Z Z (by kernel_rfl) Z)) ((Conv.agg (.cons zv (.cons zv (.cons zv (.cons zv (.cons zv (.cons (Conv.vecAll Z Z Z) (.cons zv (.cons (Conv.vecAll Z Z Z) (.cons Conv.zs .nil)))))))))))
structure gD where
 t11 : Int
 w : Wd
def uM (l : List Ac) (ticks : Int) (x1 : gD) : Option (gD ⊕ gD) :=
 bif decide (x1.t11 < (if 300 < ticks then 300 else ticks)) then
  (oW x1.w l).bind fun v3 =>
  some (.inl (gD.mk (IntKind.i64.wrap (x1.t11 + 1)) v3))
 else
  some (.inr (gD.mk x1.t11 x1.w))
def Cg (w : Wd) (l : List Ac) (ticks : Int) : Option Wd :=
 (oX w).bind fun _ =>
 (iter (uM l ticks) bG (gD.mk 0 w)).bind fun v2 =>
 some v2.w
theorem Jl {w : Wd} {l : List Ac} {ticks : Int} {r_ : Wd} (hr : Cg w l ticks = some r_) : aw Tryz.prog 31 [Ei w, .slice 5 (l.map kq), .int .i64 ticks] [Ei r_] := by
 refine zh Tryz.func31 Z Z Z Z ?_;unfold Cg at hr;refine zQ (zR (yS Z (b6 Z Z Z Z Z) (yS Z (ze Z j9 Z Z) (zN (zT (zQ (zR (yS Z (zD Z Z Z bK Z Z) (zb hr fun v1 h_v1 hr => ?_)))))))));obtain rfl := uN h_v1;refine yS Z (zC Z Z Z (by kernel_rfl) (zp (F7 h_v1) (.cons zv .nil))) (yS Z (zs Z Z Z Z bK Z Z Z Z) (zN (zT (zQ (zQ (zR (zM Z (yS Z (ab.min Z Z Z) (zM Z (zN (zT ?_)))))))))));obtain ⟨v2, hb_v2, ho_v2⟩ := zB hr;clear hr;refine LW.tail (E := [(3, .ptr 0 0), (6, .ptr 1 0)]) (O := [.box (fh v2.w), .box ul]) ?_ (fun env_v2 H_v2 hw_v2 => ?_)
 ·refine LW.block ?_;refine LW.iterB (E := fun x1 : gD => [(1, .p (.slice 5 (l.map kq))), (3, .ptr 0 0), (6, .ptr 1 0), (10, .p (.int .i64 (if 300 < ticks then 300 else ticks))), (11, (iQ x1.t11))]) (O := fun x1 => [.box (fh x1.w), .box ul]) hb_v2 (zW 2 ⟨rfl, rfl, rfl, rfl, rfl, trivial⟩ Z Z Z Z) (fun x1 z_x1 hr hb_x1 => ?_);unfold uM at hr;refine zQ (zR (yS Z (ax Z Z Z Z) (zN (zT (zQ ?_)))));refine zX Z (fun g1 => ?_) (fun g1 => ?_)
  ·
   refine zi g1 hr fun hr => zk (zT (zQ (zl (zR (yS Z (zD Z Z Z bK Z Z) (zM Z (zb hr fun v3 h_v3 hr => yS Z (zC Z Z Z (by kernel_rfl) (zp (F6 h_v3) (.cons zv (.cons zv .nil)))) (yS Z (zs Z Z Z Z bK Z Z Z Z) (zN (ai (zT (zR (yS Z (ax Z Z Z Z) (zM Z (zN (zT ?_))))))))))))))));obtain rfl := zJ hr;exact ⟨_, rfl, zW 2 ⟨rfl, rfl, rfl, rfl, rfl, trivial⟩ Z Z Z rfl⟩
  ·
   refine zo g1 hr fun hr => zq (ap (ap (zy (zT ?_))));obtain rfl := zJ hr;have hr := congrArg some (hb_x1 _ rfl);obtain rfl := zJ hr;exact zW 2 ⟨Z, Z, trivial⟩ Z Z Z Z
 ·have hr := ho_v2;clear hb_v2;refine zT (LW.weak hw_v2 (zQ (zR (yS Z (zD Z Z Z bK Z Z) (yS Z (zs Z Z Z Z bK Z Z Z Z) (zN (zT (zr ?_))))))));obtain rfl := zJ hr;exact zf (.one (.cellAgg Z Z (by kernel_rfl) Z)) zv
open Go.Proofs
structure H8 where
 t13 : Int
structure Ia where
 t13 : Int
structure KV where
 t17 : Int
open Go.Proofs
structure H7 where
 i : Int
structure Ij where
 i : Int
structure Ik where
 i : Int
structure KU where
 t17 : Int
structure Il where
 t13 : Int
open Go.Proofs
structure dJ where
 i : Int
def gE (l : List Ac) (x1 : dJ) : Option (dJ ⊕ (dJ ⊕ Bool)) :=
 bif decide (x1.i < (l.length : Int)) then
  (ix l x1.i).bind fun y1 =>
  bif decide ((y1.B.length : Int) > 8) then
   some (.inr (.inr false))
  else
   (ix l x1.i).bind fun y2 =>
   bif decide ((y2.V.length : Int) > 8) then
    some (.inr (.inr false))
   else
    some (.inl (dJ.mk (IntKind.i64.wrap (x1.i + 1))))
 else
  some (.inr (.inl (dJ.mk x1.i)))
def sf (l : List Ac) (most : Int) : Option Bool :=
 bif decide ((l.length : Int) > most) then
  some false
 else
  (iter (gE l) bG (dJ.mk 0)).bind fun b_v1 => Sum.elim (fun _ =>
   some true) some b_v1
theorem Jm {l : List Ac} {most : Int} {r_ : Bool} (hr : sf l most = some r_) : aw Tryz.prog 36 [.slice 5 (l.map kq), .int .i64 most] [.bool r_] := by
 refine zh Tryz.func36 Z Z Z Z ?_;unfold sf at hr;refine zQ (zR (zM Z (zN (zT (zQ (zQ (zR (zM Z (yS Z (d7 Z Z (by kernel_rfl)) (zM Z (yS Z (ax Z Z Z Z) (zN (zT ?_)))))))))))));refine zX Z (fun g1 => ?_) (fun g1 => ?_)
 ·
  refine zi g1 hr fun hr => zQ (zR (zM Z (zN (zT (zr (aj ?_))))));obtain rfl := zJ hr;exact zf (.one (.tmp Z)) zv
 ·
  refine zo g1 hr fun hr => zk (zT (zQ (zQ (zR (zM Z (zN (zT ?_)))))));obtain ⟨b_v1, hb_v1, ho_v1⟩ := zB hr;clear hr;refine LW.tailB (b := b_v1) (E := fun v1 => [(4, (bQ false))]) (O := fun v1 => []) ?_ (fun v1 e_v1 env_v1 H_v1 hw_v1 => ?_)
  ·refine LW.block ?_;refine LW.iterB (E := fun x1 : dJ => [(0, .p (.slice 5 (l.map kq))), (4, (bQ false)), (5, (iQ x1.i))]) (O := fun x1 => []) hb_v1 (zW 0 ⟨rfl, rfl, rfl, trivial⟩ Z Z Z Z) (fun x1 z_x1 hr hb_x1 => ?_);unfold gE at hr;refine zQ (zQ (zR (zM Z (zM Z (yS Z (d7 Z Z (by kernel_rfl)) (yS Z (ax Z Z Z Z) (zN (zT ?_))))))));refine zX Z (fun g2 => ?_) (fun g2 => ?_)
   ·
    refine zi g2 hr fun hr => zk (zT (zQ (zl (zQ (zR (zM Z (zM Z (zb hr fun y1 h_y1 hr => yS Z (zx Z Z Z mG h_y1 Z) (yS Z (ab.fieldAddrC Z Z qF Z) (yS Z (d6 Z Z Z dA Z Z) (yS Z (d7 Z Z (by kernel_rfl)) (yS Z (ax Z Z Z Z) (zM Z ?_)))))))))))));refine zc 23 Z (fun g3 => ?_) (fun g3 => ?_)
    ·
     refine zi g3 hr fun hr => yU Z (gd g3 Z) Z (yU Z (gd g3 Z) Z (yU Z (gd g3 Z) Z (yU Z (gd g3 Z) Z (yU Z (gd g3 Z) Z (yU Z (gd g3 Z) Z (yU Z (gd g3 Z) Z (yS Z (eF Z (bM g3 Z) Z) (zN (zT (LW.condT Z (zQ (zR (zM Z (zN (zT (zr (aA (aj (aj (aA (aj (aj ?_))))))))))))))))))))));obtain rfl := zJ hr;have hr := congrArg some (hb_x1 _ rfl);obtain rfl := zJ hr;have hr := ey ho_v1;obtain rfl := zJ hr;exact zf (.one (.tmp Z)) zv
    ·
     refine zo g3 hr fun hr => yV Z (gd g3 Z) (zm Z Z) (yV Z (gd g3 Z) (zm Z Z) (zb hr fun y2 h_y2 hr => yV Z (gd g3 Z) (zx Z Z Z mG h_y2 Z) (yV Z (gd g3 Z) (ab.fieldAddrC Z Z qG Z) (yV Z (gd g3 Z) (d6 Z Z Z eU Z Z) (yV Z (gd g3 Z) (d7 Z Z (by kernel_rfl)) (yV Z (gd g3 Z) (ax Z Z Z Z) (yS Z (df Z (bM g3 Z) Z) (zN (zT ?_)))))))));refine zX Z (fun g4 => ?_) (fun g4 => ?_)
     ·
      refine zi g4 hr fun hr => zQ (zR (zM Z (zN (zT (zr (aA (aj (aj (aA (aj (aj ?_)))))))))));obtain rfl := zJ hr;have hr := congrArg some (hb_x1 _ rfl);obtain rfl := zJ hr;have hr := ey ho_v1;obtain rfl := zJ hr;exact zf (.one (.tmp Z)) zv
     ·
      refine zo g4 hr fun hr => zk (ai (zT (zR (zM Z (yS Z (ax Z Z Z Z) (zM Z (zN (zT ?_))))))));obtain rfl := zJ hr;exact ⟨_, rfl, zW 0 ⟨rfl, rfl, rfl, trivial⟩ Z Z Z rfl⟩
   ·
    refine zo g2 hr fun hr => zq (ap (ap (zy (zT ?_))));obtain rfl := zJ hr;have hr := congrArg some (hb_x1 _ rfl);obtain rfl := zJ hr;exact ⟨_, rfl, zW 0 ⟨rfl, trivial⟩ Z Z Z rfl⟩
  ·obtain rfl := e_v1;have hr := ga ho_v1;clear hb_v1;refine zT (LW.weak hw_v1 (zQ (zR (zM Z (zN (zT (zr ?_)))))));obtain rfl := zJ hr;exact zf (.one (.tmp Z)) zv
def se (c : Cf) (bad : List Int) (l : List Ac) : Option Bool :=
 (sf l 25).bind fun v1 =>
 bif v1 then
  (ym c).bind fun v2 =>
  bif v2 then
   bif decide ((c.W.length : Int) ≤ 6) then
    some (decide ((bad.length : Int) ≤ 6))
   else
    some false
  else
   some false
 else
  some false
theorem Jk {c : Cf} {bad : List Int} {l : List Ac} {r_ : Bool} (hr : se c bad l = some r_) : aw Tryz.prog 30 [jC c, .slice 1 (bad.map aG), .slice 5 (l.map kq)] [.bool r_] := by
 refine zh Tryz.func30 Z Z Z Z ?_;unfold se at hr;refine zQ (zR (yS Z (b6 Z Z Z Z Z) (zM Z (zN (zT (zQ (zR (zM Z (zb hr fun v1 h_v1 hr => yS Z (zC Z Z Z (by kernel_rfl) (zp (Jm h_v1) (.cons zv (.cons zv .nil)))) (zM Z (zN (zT (zQ (zR (zM Z (zM Z ?_))))))))))))))));refine zc 11 Z (fun g1 => ?_) (fun g1 => ?_)
 ·
  refine zi g1 hr fun hr => yV Z (gd g1 Z) (zD Z Z Z bA Z Z) (zb hr fun v2 h_v2 hr => yV Z (gd g1 Z) (zC Z Z Z (by kernel_rfl) (zp (F9 h_v2) (.cons zv .nil))) (yS Z (eF Z (bM g1 Z) Z) (zM Z ?_)));refine zc 15 Z (fun g2 => ?_) (fun g2 => ?_)
  ·
   refine zi g2 hr fun hr => yV Z (gd g2 Z) (zA Z Z gO) (yV Z (gd g2 Z) (zD Z Z Z fc Z Z) (yV Z (gd g2 Z) (d7 Z Z (by kernel_rfl)) (yV Z (gd g2 Z) (ax Z Z Z Z) (yS Z (eF Z (bM g2 Z) Z) (zM Z ?_)))));refine zc 21 Z (fun g3 => ?_) (fun g3 => ?_)
   ·
    refine zi g3 hr fun hr => yV Z (gd g3 Z) (zm Z Z) (yV Z (gd g3 Z) (d7 Z Z (by kernel_rfl)) (yV Z (gd g3 Z) (ax Z Z Z Z) (yS Z (eF Z (bM g3 Z) Z) (zM Z (zN (zT (zr ?_)))))));obtain rfl := zJ hr;exact zf (.one (.tmp Z)) zv
   ·
    refine zo g3 hr fun hr => yU Z (gd g3 Z) Z (yU Z (gd g3 Z) Z (yU Z (gd g3 Z) Z (yS Z (df Z (bM g3 Z) Z) (zM Z (zN (zT (zr ?_)))))));obtain rfl := zJ hr;exact zf (.one (.tmp Z)) zv
  ·
   refine zo g2 hr fun hr => yU Z (gd g2 Z) Z (yU Z (gd g2 Z) Z (yU Z (gd g2 Z) Z (yU Z (gd g2 Z) Z (yS Z (df Z (bM g2 Z) Z) (zM Z (yU Z Z Z (yU Z Z Z (yU Z Z Z (yS Z (df Z Z Z) (zM Z (zN (zT (zr ?_)))))))))))));obtain rfl := zJ hr;exact zf (.one (.tmp Z)) zv
 ·
  refine zo g1 hr fun hr => yU Z (gd g1 Z) Z (yU Z (gd g1 Z) Z (yS Z (df Z (bM g1 Z) Z) (zM Z (yU Z Z Z (yU Z Z Z (yU Z Z Z (yU Z Z Z (yS Z (df Z Z Z) (zM Z (yU Z Z Z (yU Z Z Z (yU Z Z Z (yS Z (df Z Z Z) (zM Z (zN (zT (zr ?_)))))))))))))))));obtain rfl := zJ hr;exact zf (.one (.tmp Z)) zv
open Go.Proofs
structure dE where
 t16 : Int
 out : Vw
structure d8 where
 t32 : Int
 out : Vw
def gy (w : Wd) (x1 : dE) : Option (dE ⊕ dE) :=
 bif decide (x1.t16 < (w.O.length : Int)) then
  (ix w.O x1.t16).bind fun y1 =>
  (yn x1.out y1.V).bind fun v3 =>
  (yn v3 (Vw.mk [y1.B] [])).bind fun v4 =>
  some (.inl (dE.mk (IntKind.i64.wrap (x1.t16 + 1)) v4))
 else
  some (.inr (dE.mk x1.t16 x1.out))
def iK (l : List Ac) (x2 : d8) : Option (d8 ⊕ d8) :=
 bif decide (x2.t32 < (l.length : Int)) then
  (ix l x2.t32).bind fun y2 =>
  (yn x2.out (Vw.mk y2.B y2.V)).bind fun v6 =>
  some (.inl (d8.mk (IntKind.i64.wrap (x2.t32 + 1)) v6))
 else
  some (.inr (d8.mk x2.t32 x2.out))
def uq (w : Wd) (l : List Ac) : Option Vw :=
 (rW w.N).bind fun v1 =>
 (iter (gy w) bG (dE.mk 0 v1)).bind fun v2 =>
 (iter (iK l) bG (d8.mk 0 v2.out)).bind fun v5 =>
 some v5.out
theorem II {w : Wd} {l : List Ac} {r_ : Vw} (hr : uq w l = some r_) : aw Tryz.prog 43 [Ei w, .slice 5 (l.map kq)] [mP r_] := by
 refine zh Tryz.func43 Z Z Z Z ?_;unfold uq at hr;refine zQ (zR (yS Z (b6 Z Z Z Z Z) (yS Z (ze Z ig Z Z) (zN (zT (zQ (zR (yS Z (zA Z Z bF) (yS Z (zD Z Z Z db Z Z) (zb hr fun v1 h_v1 hr => yS Z (zC Z Z Z (by kernel_rfl) (zp (F0 h_v1) (.cons zv .nil))) (yS Z (ze Z ig Z Z) (yS Z (zs Z Z Z Z aS Z Z Z Z) (zN (zT (zQ (zQ (zR (yS Z (zA Z Z jb) (yS Z (zD Z Z Z bZ Z Z) (yS Z (d7 Z Z (by kernel_rfl)) (zM Z (zN ?_))))))))))))))))))))));refine zT ?_;obtain ⟨v2, hb_v2, ho_v2⟩ := zB hr;clear hr;refine LW.tail (E := [(1, .p (.slice 5 (l.map kq))), (4, .ptr 1 0), (5, .ptr 2 0)]) (O := [.box (fh w), .box [.zs, .zs], .box (dq v2.out)]) ?_ (fun env_v2 H_v2 hw_v2 => ?_)
 ·refine LW.block ?_;refine LW.iterB (E := fun x1 : dE => [(1, .p (.slice 5 (l.map kq))), (4, .ptr 1 0), (5, .ptr 2 0), (14, (kO w.O)), (15, .p (.int .i64 (w.O.length : Int))), (16, (iQ x1.t16))]) (O := fun x1 => [.box (fh w), .box [.zs, .zs], .box (dq x1.out)]) hb_v2 (zW 3 ⟨rfl, rfl, rfl, rfl, rfl, rfl, trivial⟩ Z Z Z Z) (fun x1 z_x1 hr hb_x1 => ?_);unfold gy at hr;refine zQ (zR (yS Z (ax Z Z Z Z) (zN (zT (zQ ?_)))));refine zX Z (fun g1 => ?_) (fun g1 => ?_)
  ·
   refine zi g1 hr fun hr => zk (zT (zQ (zl (zQ (zR (zb hr fun y1 h_y1 hr => yS Z (zx Z Z Z cz h_y1 Z) (yS Z (d6 Z Z Z fZ Z Z) (yS Z (ze Z rF Z Z) (yS Z (zs Z Z Z Z fZ Z Z Z Z) (zN (zT (LW.drawLast (m := 9) (by kernel_rfl) (by kernel_rfl) (by kernel_rfl) (yE Z (zD Z Z Z aS Z Z) (yE Z (zA Z Z jd) (yE Z (zD Z Z Z aS Z Z) (zb hr fun v3 h_v3 hr => yE Z (zC Z Z Z (by kernel_rfl) (zp (Eu h_v3) (.cons zv (.cons zv .nil)))) (yE Z (zA Z Z vB) (yE Z (zD Z Z Z cN Z Z) (yE Z (mS Z ew Z Z Z Z Z) (yE Z (ab.build Z oa Z Z Z) ?_))))))))))))))))))));refine zb hr fun v4 h_v4 hr => yE Z (zC Z Z Z (by kernel_rfl) (zp (Eu h_v4) (.cons zv (.cons (Conv.agg (.cons zv (.cons Conv.zs .nil))) .nil)))) (LO.nil (yS Z (zs Z Z Z Z aS Z Z Z Z) (zN (ai (zT (zR (yS Z (ax Z Z Z Z) (zM Z (zN (zT ?_))))))))));obtain rfl := zJ hr;exact ⟨_, rfl, zW 3 ⟨rfl, rfl, rfl, rfl, rfl, rfl, trivial⟩ Z Z Z rfl⟩
  ·
   refine zo g1 hr fun hr => zq (ap (ap (zy (zT ?_))));obtain rfl := zJ hr;have hr := congrArg some (hb_x1 _ rfl);obtain rfl := zJ hr;exact zW 3 ⟨Z, Z, Z, trivial⟩ Z Z Z Z
 ·have hr := ho_v2;clear hb_v2;refine zT (LW.weak hw_v2 (zQ (zQ (zR (zM Z (yS Z (d7 Z Z (by kernel_rfl)) (zM Z (zN (zT ?_)))))))));obtain ⟨v5, hb_v5, ho_v5⟩ := zB hr;clear hr;refine LW.tail (E := [(4, .ptr 1 0), (5, .ptr 2 0)]) (O := [.box (fh w), .box [.zs, .zs], .box (dq v5.out)]) ?_ (fun env_v5 H_v5 hw_v5 => ?_)
  ·refine LW.block ?_;refine LW.iterB (E := fun x2 : d8 => [(4, .ptr 1 0), (5, .ptr 2 0), (30, .p (.slice 5 (l.map kq))), (31, .p (.int .i64 (l.length : Int))), (32, (iQ x2.t32))]) (O := fun x2 => [.box (fh w), .box [.zs, .zs], .box (dq x2.out)]) hb_v5 (zW 3 ⟨rfl, rfl, rfl, rfl, rfl, trivial⟩ Z Z Z Z) (fun x2 z_x2 hr hb_x2 => ?_);unfold iK at hr;refine zQ (zR (yS Z (ax Z Z Z Z) (zN (zT (zQ ?_)))));refine zX Z (fun g2 => ?_) (fun g2 => ?_)
   ·
    refine zi g2 hr fun hr => zk (zT (zQ (zl (zQ (zR (zb hr fun y2 h_y2 hr => yS Z (zx Z Z Z mG h_y2 Z) (yS Z (d6 Z Z Z j4 Z Z) (yS Z (ze Z xT Z Z) (yS Z (zs Z Z Z Z j4 Z Z Z Z) (zN (zT (zR (yS Z (zD Z Z Z aS Z Z) (yS Z (zA Z Z qF) (yS Z (zD Z Z Z dA Z Z) (yS Z (zA Z Z qG) (yS Z (zD Z Z Z eU Z Z) (yS Z (ab.build Z oa Z Z Z) (zb hr fun v6 h_v6 hr => yS Z (zC Z Z Z (by kernel_rfl) (zp (Eu h_v6) (.cons zv (.cons zv .nil)))) (yS Z (zs Z Z Z Z aS Z Z Z Z) ?_))))))))))))))))))));refine zN (ai (zT (zR (yS Z (ax Z Z Z Z) (zM Z (zN (zT ?_)))))));obtain rfl := zJ hr;exact ⟨_, rfl, zW 3 ⟨rfl, rfl, rfl, rfl, rfl, trivial⟩ Z Z Z rfl⟩
   ·
    refine zo g2 hr fun hr => zq (ap (ap (zy (zT ?_))));obtain rfl := zJ hr;have hr := congrArg some (hb_x2 _ rfl);obtain rfl := zJ hr;exact zW 3 ⟨Z, Z, trivial⟩ Z Z Z Z
  ·have hr := ho_v5;clear hb_v5;refine zT (LW.weak hw_v5 (zQ (zR (yS Z (zD Z Z Z aS Z Z) (yS Z (zs Z Z Z Z aS Z Z Z Z) (zN (zT (zr ?_))))))));obtain rfl := zJ hr;exact zf (.one (.cellAgg Z Z (by kernel_rfl) Z)) zv
def tr (n : Nd) (w : Wd) (id : ID) : Option Bool :=
 (BA w.C n).bind fun v1 =>
 bif few n.V.B then
  some (!(decide (aE (am n.V.B v1) id ≥ 0)))
 else none
theorem CR {n : Nd} {w : Wd} {id : ID} {r_ : Bool} (hr : tr n w id = some r_) : LC Tryz.prog 64 [.p (ic n), .ptr 1 0, .ptr 0 0] [.box (fh w), .box [(uQ id.1), (uQ id.2)]] (Is (bQ r_) [.box (fh w), .box [(uQ id.1), (uQ id.2)]]) := by
 refine dp Tryz.func64 Z Z Z ?_;unfold tr at hr;refine zQ (zR (yS Z (b6 Z Z Z Z Z) (zM Z (zN (zT (zQ (LW.draw2 (by kernel_rfl) (by kernel_rfl) (yE Z (zA Z Z bV) (yE Z (zA Z Z bz) (yE Z (zD Z Z Z dA Z Z) (yE Z (zD Z Z Z aR Z Z) (yE Z (zA Z Z i9) (yE Z (zD Z Z Z bA Z Z) (yE Z (zD Z Z Z dc Z Z) (zb hr fun v1 h_v1 hr => yE Z (zC Z Z Z (by kernel_rfl) (zp (IJ h_v1) (.cons zv (.cons zv .nil)))) (zg hr fun q1 hr => yE Z (zC Z Z Z (by kernel_rfl) (zp (L0 (l := n.V.B) (a := id) (b := v1) (qz q1)) (.cons zv (.cons zv (.cons zv .nil))))) (yE Z (ab.not Z Z) (zH Z (LO.nil (zT (zr ?_)))))))))))))))))))));obtain rfl := zJ hr;exact a8 (env' := [(4, .p (.bool (!(decide (aE (am n.V.B v1) id ≥ 0)))))]) (H' := [.box (fh w), .box [(uQ id.1), (uQ id.2)]]) (zW 2 ⟨rfl, trivial⟩ Z Z Z Z) (.one (.tmp Z)) (⟨rfl, rfl⟩)
structure jx where
 t8 : Int
def yp (l : List Nd) (w : Wd) (id : ID) (x1 : jx) : Option (jx ⊕ (jx ⊕ Int)) :=
 bif decide (x1.t8 < (l.length : Int)) then
  (ix l x1.t8).bind fun y1 =>
  (tr y1 w id).bind fun v2 =>
  bif v2 then
   some (.inr (.inr x1.t8))
  else
   some (.inl (jx.mk (IntKind.i64.wrap (x1.t8 + 1))))
 else
  some (.inr (.inl (jx.mk x1.t8)))
def GQ (l : List Nd) (w : Wd) (id : ID) : Option Int :=
 (iter (yp l w id) bG (jx.mk 0)).bind fun b_v1 => Sum.elim (fun _ =>
  some (-1)) some b_v1
theorem JD {l : List Nd} {w : Wd} {id : ID} {r_ : Int} (hr : GQ l w id = some r_) : LC Tryz.prog 118 [.p (.slice 12 (l.map ic)), .fn 64 [] [.ptr 1 0, .ptr 0 0]] [.box (fh w), .box [(uQ id.1), (uQ id.2)]] (Is (iQ r_) [.box (fh w), .box [(uQ id.1), (uQ id.2)]]) := by
 refine dp Tryz.func118 Z Z Z ?_;unfold GQ at hr;refine zQ (zR (zM Z (zN (zT (zQ (zQ (zR (zM Z (yS Z (d7 Z Z (by kernel_rfl)) (zM Z (zN (zT ?_))))))))))));obtain ⟨b_v1, hb_v1, ho_v1⟩ := zB hr;clear hr;refine LW.tailB (b := b_v1) (E := fun v1 => [(4, (iQ 0))]) (O := fun v1 => [.box (fh w), .box [(uQ id.1), (uQ id.2)]]) ?_ (fun v1 e_v1 env_v1 H_v1 hw_v1 => ?_)
 ·refine LW.block ?_;refine LW.iterB (E := fun x1 : jx => [(0, .p (.slice 12 (l.map ic))), (1, .fn 64 [] [.ptr 1 0, .ptr 0 0]), (4, (iQ 0)), (7, .p (.int .i64 (l.length : Int))), (8, (iQ x1.t8))]) (O := fun x1 => [.box (fh w), .box [(uQ id.1), (uQ id.2)]]) hb_v1 (zW 2 ⟨rfl, rfl, rfl, rfl, rfl, trivial⟩ Z Z Z Z) (fun x1 z_x1 hr hb_x1 => ?_);unfold yp at hr;refine zQ (zR (yS Z (ax Z Z Z Z) (zN (zT (zQ ?_)))));refine zX Z (fun g1 => ?_) (fun g1 => ?_)
  ·
   refine zi g1 hr fun hr => zk (zT (zQ (zl (zQ (zR (zM Z (zM Z (zN (zT (zQ (zR (zM Z (zM Z (zM Z (zb hr fun y1 h_y1 hr => yS Z (zx Z Z Z dP h_y1 Z) (yS Z (d6 Z Z Z dc Z Z) (zb hr fun v2 h_v2 hr => yS Z (zC Z Z Z (by kernel_rfl) (CR h_v2)) (zN (zT ?_)))))))))))))))))));refine zX Z (fun g2 => ?_) (fun g2 => ?_)
   ·
    refine zi g2 hr fun hr => zQ (zR (zM Z (zM Z (zN (zT (zr (aA (aj (aj (aA (aj (aj ?_))))))))))));obtain rfl := zJ hr;have hr := congrArg some (hb_x1 _ rfl);obtain rfl := zJ hr;have hr := ey ho_v1;obtain rfl := zJ hr;exact aq (.one (.tmp Z)) (⟨rfl, rfl⟩)
   ·
    refine zo g2 hr fun hr => zk (ai (zT (zR (yS Z (ax Z Z Z Z) (zM Z (zN (zT ?_)))))));obtain rfl := zJ hr;exact ⟨_, rfl, zW 2 ⟨rfl, rfl, rfl, rfl, rfl, trivial⟩ Z Z Z rfl⟩
  ·
   refine zo g1 hr fun hr => zq (ap (ap (zy (zT ?_))));obtain rfl := zJ hr;have hr := congrArg some (hb_x1 _ rfl);obtain rfl := zJ hr;exact ⟨_, rfl, zW 2 ⟨rfl, trivial⟩ Z Z Z rfl⟩
 ·obtain rfl := e_v1;have hr := ga ho_v1;clear hb_v1;refine zT (LW.weak hw_v1 (zQ (zR (zM Z (zN (zT (zr ?_)))))));obtain rfl := zJ hr;exact aq (.one (.tmp Z)) (⟨rfl, rfl⟩)
def GP (l : List Nd) (w : Wd) (id : ID) : Option Bool :=
 (GQ l w id).bind fun v1 =>
 some (decide (v1 ≥ 0))
theorem JB {l : List Nd} {w : Wd} {id : ID} {r_ : Bool} (hr : GP l w id = some r_) : LC Tryz.prog 63 [.p (.slice 12 (l.map ic)), .fn 64 [] [.ptr 1 0, .ptr 0 0]] [.box (fh w), .box [(uQ id.1), (uQ id.2)]] (Is (bQ r_) [.box (fh w), .box [(uQ id.1), (uQ id.2)]]) := by
 refine dp Tryz.func63 Z Z Z ?_;unfold GP at hr;refine zQ (zR (zM Z (zN (zT (zQ (zR (zM Z (zM Z (zb hr fun v1 h_v1 hr => yS Z (zC Z Z Z (by kernel_rfl) (JD h_v1)) (yS Z (ax Z Z Z Z) (zM Z (zN (zT (zr ?_))))))))))))));obtain rfl := zJ hr;exact aq (.one (.tmp Z)) (⟨rfl, rfl⟩)
def Bx (w : Wd) (id : ID) : Option Bool :=
 (GP w.N w id).bind fun v1 =>
 some (!v1)
theorem IH {w : Wd} {id : ID} {r_ : Bool} (hr : Bx w id = some r_) : aw Tryz.prog 27 [Ei w, ci id] [.bool r_] := by
 refine zh Tryz.func27 Z Z Z Z ?_;unfold Bx at hr;refine zQ (zR (yS Z (b6 Z Z Z Z Z) (yS Z (b6 Z Z Z Z Z) (zM Z (zN (zT (zQ (zR (yS Z (zA Z Z bF) (yS Z (zD Z Z Z db Z Z) (yS Z (ab.makeFunc Z Z Z) (zb hr fun v1 h_v1 hr => yS Z (zC Z Z Z (by kernel_rfl) (JB h_v1)) (yS Z (ab.not Z Z) (zM Z (zN (zT (zr ?_)))))))))))))))));obtain rfl := zJ hr;exact zf (.one (.tmp Z)) zv
open Go.Proofs
open Go.Proofs
structure Ii where
 i : Int
open Go.Proofs
open Go.Proofs
end Go.Mg
