/- TopSure. TopSure, plain. What arguments are: offers, nodes. What arguments are: acts. How the program's own line of words reads, letter by letter; facts of the whole program that each row asks for. Conditions: none. -/
import Derived.Test.YtbjmcafamkdokaaGreatX3
import Derived.Test.YtbjmcafamkdokaaGreatX10
import Derived.Test.YtbjmcafamkdokaaGreatX7
import Derived.Test.YtbjmcafamkdokaaGreatX8
import Derived.Test.YtbjmcafamkdokaaGreatX6
import Derived.Test.YtbjmcafamkdokaaGreatRows
import Derived.ProofKit
import Derived.OpenShut
set_option maxRecDepth 100000
set_option linter.unusedSimpArgs false
set_option linter.unusedVariables false
namespace Go.Mg
open Go.Proofs
structure cp where
 t : Int
 w : Wd
 pins : List ID
structure bM where
 i : Int
 pins : List ID
structure dF where
 i : Int
def kw (c : Cf) (bad : List Int) (x1 : cp) (v7 : Wd) (x2 : bM) : Option (bM ⊕ bM) :=
 (
  bif decide (x2.i < (v7.N.length : Int)) then
   some ((x1.t.tmod 3) == 2)
  else
   some false
 ).bind fun v10 =>
 bif v10 then
  (ix v7.N x2.i).bind fun y1 =>
  (ix v7.N x2.i).bind fun y2 =>
  (pX c y2).bind fun v11 =>
  (oV c y1.V (IntKind.i64.wrap (x1.t.tdiv 3)) v11).bind fun v12 =>
  (
   bif v12.2 then
    (rT c bad (IntKind.i64.wrap (x1.t.tdiv 3))).bind fun v14 =>
    some v14
   else
    some false
  ).bind fun v13 =>
  bif v13 then
   bif room x2.pins.length [v12.1].length 16 then
    some (.inl (bM.mk (IntKind.i64.wrap (x2.i + 1)) (x2.pins ++ [v12.1])))
   else none
  else
   some (.inl (bM.mk (IntKind.i64.wrap (x2.i + 1)) x2.pins))
 else
  some (.inr (bM.mk x2.i x2.pins))
def iU (v7 : Wd) (v9 : bM) (x3 : dF) : Option (dF ⊕ (dF ⊕ (cp ⊕ (cp ⊕ Bool)))) :=
 bif decide (x3.i < (v9.pins.length : Int)) then
  (ix v9.pins x3.i).bind fun y3 =>
  (pW v7 y3).bind fun v16 =>
  bif !v16 then
   some (.inr (.inr (.inr (.inr false))))
  else
   some (.inl (dF.mk (IntKind.i64.wrap (x3.i + 1))))
 else
  some (.inr (.inl (dF.mk x3.i)))
def mW (c : Cf) (bad : List Int) (l : List Ac) (slots : Int) (x1 : cp) : Option (cp ⊕ (cp ⊕ Bool)) :=
 bif decide (x1.t < (IntKind.i64.wrap ((IntKind.i64.wrap (3 * slots)) + 3))) then
  (oW x1.w l).bind fun v7 =>
  (sd v7 l).bind fun v8 =>
  bif v8 then
   some (.inr (.inr true))
  else
   (iter (kw c bad x1 v7) bD (bM.mk 0 x1.pins)).bind fun v9 =>
   (iter (iU v7 v9) bD (dF.mk 0)).bind fun b_v15 => Sum.elim (fun _ =>
    some (.inl (cp.mk (IntKind.i64.wrap (x1.t + 1)) v7 v9.pins))) some b_v15
 else
  some (.inr (.inl (cp.mk x1.t x1.w x1.pins)))
def yg (c : Cf) (bad : List Int) (l : List Ac) (slots : Int) : Option Bool :=
 (uK ).bind fun v1 =>
 (sb c bad l slots).bind fun v2 =>
 (
  bif !v1 then
   some true
  else
   bif !v2 then
    some true
   else
    (rS c bad 1 slots).bind fun v4 =>
    some (!v4)
 ).bind fun v3 =>
 bif v3 then
  some v1
 else
  (sc c bad).bind fun v5 =>
  (iter (mW c bad l slots) bD (cp.mk 3 v5 ([] : List ID))).bind fun b_v6 => Sum.elim (fun _ =>
   some true) some b_v6
theorem Jb {c : Cf} {bad : List Int} {l : List Ac} {slots : Int} {r_ : Bool} (hr : yg c bad l slots = some r_) : aw Tryz.prog 4 [jC c, .slice 1 (bad.map aF), .slice 5 (l.map jz), .int .i64 slots] [.bool r_] := by
 refine zh Tryz.func4 Z Z Z Z ?_;unfold yg at hr;refine zQ (zR (yS Z (bZ Z Z Z Z Z) (zM Z (zN (zT (zQ (zR (zb hr fun v1 h_v1 hr => yS Z (zC Z Z Z (by kernel_rfl) (zp (Jc h_v1) .nil)) (zM Z (zN (zT (zQ (zR (yS Z (zD Z Z Z bv Z Z) (zM Z (zM Z (zM Z (zb hr fun v2 h_v2 hr => yS Z (zC Z Z Z (by kernel_rfl) (zp (Jd h_v2) (.cons zv (.cons zv (.cons zv (.cons zv .nil)))))) (zM Z (zN (zT ?_)))))))))))))))))))));refine zQ ?_;obtain ⟨v3, hb_v3, ho_v3⟩ := zB hr;clear hr;refine LW.cut (E := [(1, (kI bad)), (2, .p (.slice 5 (l.map jz))), (3, (iQ slots)), (4, .ptr 0 0), (8, (bQ false)), (9, (bQ v1)), (37, (bQ v3))]) (O := [.box (bE c)]) ?_ ?_
 ·have hr := hb_v3;refine zR (zM Z (yS Z (ab.not Z Z) (zM Z ?_)));refine zc 27 Z (fun g1 => ?_) (fun g1 => ?_)
  ·
   refine zi g1 hr fun hr => yU Z (gd g1 Z) Z (yU Z (gd g1 Z) Z (yS Z (eo Z (bI g1 Z) Z) (zM Z (yU Z Z Z (yU Z Z Z (yU Z Z Z (yU Z Z Z (yU Z Z Z (yS Z (eo Z Z Z) (zN (zT ?_)))))))))));obtain rfl := zJ hr;exact zW 1 ⟨Z, Z, Z, Z, Z, Z, Z, trivial⟩ Z Z Z Z
  ·
   refine zo g1 hr fun hr => yV Z (gd g1 Z) (zm Z Z) (yV Z (gd g1 Z) (ab.not Z Z) (yS Z (dc Z (bI g1 Z) Z) (zM Z ?_)));refine zc 31 Z (fun g2 => ?_) (fun g2 => ?_)
   ·
    refine zi g2 hr fun hr => yU Z (gd g2 Z) Z (yU Z (gd g2 Z) Z (yU Z (gd g2 Z) Z (yU Z (gd g2 Z) Z (yU Z (gd g2 Z) Z (yS Z (eo Z (bI g2 Z) Z) (zN (zT ?_)))))));obtain rfl := zJ hr;exact zW 1 ⟨Z, Z, Z, Z, Z, Z, Z, trivial⟩ Z Z Z Z
   ·
    refine zo g2 hr fun hr => yV Z (gd g2 Z) (zD Z Z Z bv Z Z) (yV Z (gd g2 Z) (zm Z Z) (yV Z (gd g2 Z) (zm Z Z) (zb hr fun v4 h_v4 hr => yV Z (gd g2 Z) (zC Z Z Z (by kernel_rfl) (zp (FW h_v4) (.cons zv (.cons zv (.cons zv (.cons zv .nil)))))) (yV Z (gd g2 Z) (ab.not Z Z) (yS Z (dc Z (bI g2 Z) Z) (zN (zT ?_)))))));obtain rfl := zJ hr;exact zW 1 ⟨Z, Z, Z, Z, Z, Z, Z, trivial⟩ Z Z Z Z
 ·have hr := ho_v3;clear hb_v3;refine zX Z (fun g3 => ?_) (fun g3 => ?_)
  ·
   refine zi g3 hr fun hr => zQ (zR (zM Z (zM Z (zN (zT (zr (am ?_)))))));obtain rfl := zJ hr;exact zf (.one (.tmp Z)) zv
  ·
   refine zo g3 hr fun hr => zk (zT (zQ (zR (yS Z (zD Z Z Z bv Z Z) (zM Z (zb hr fun v5 h_v5 hr => yS Z (zC Z Z Z (by kernel_rfl) (zp (F6 h_v5) (.cons zv (.cons zv .nil)))) (yS Z (ze Z k9 Z Z) (yS Z (zs Z Z Z Z bK Z Z Z Z) (zN (zT (zQ (zR (zM Z (zN (zT (zQ (zQ (zR (zM Z (zN (zT ?_)))))))))))))))))))));refine LW.ent (bL.lazy (t := 12) (m := 2) Z Z Z) ?_;obtain ⟨b_v6, hb_v6, ho_v6⟩ := zB hr;clear hr;refine LW.tailB (b := b_v6) (E := fun v6 => [(8, (bQ false))]) (O := fun v6 => [.box (bE c), .box (e8 v6.w), .vec 2 (v6.pins.map bF)]) ?_ (fun v6 e_v6 env_v6 H_v6 hw_v6 => ?_)
   ·refine LW.block ?_;refine LW.iterB (E := fun x1 : cp => [(1, (kI bad)), (2, .p (.slice 5 (l.map jz))), (3, (iQ slots)), (4, .ptr 0 0), (8, (bQ false)), (11, .ptr 1 0), (12, .vec 2 2 (x1.pins.map bF).length 0 (x1.pins.map bF).length), (13, (iQ x1.t))]) (O := fun x1 => [.box (bE c), .box (e8 x1.w), .vec 2 (x1.pins.map bF)]) hb_v6 (zW 3 ⟨rfl, rfl, rfl, rfl, rfl, rfl, rfl, rfl, trivial⟩ Z Z Z Z) (fun x1 z_x1 hr hb_x1 => ?_);unfold mW at hr;refine zQ (zQ (zR (zM Z (zM Z (yS Z (ax Z Z Z Z) (yS Z (ax Z Z Z Z) (yS Z (ax Z Z Z Z) (zN (zT ?_)))))))));refine zX Z (fun g4 => ?_) (fun g4 => ?_)
    ·
     refine zi g4 hr fun hr => zk (zT (zQ (zl (zQ (zR (yS Z (zD Z Z Z bK Z Z) (zM Z (zb hr fun v7 h_v7 hr => yS Z (zC Z Z Z (by kernel_rfl) (zp (F7 h_v7) (.cons zv (.cons zv .nil)))) (yS Z (zs Z Z Z Z bK Z Z Z Z) (zN (zT (zQ (zR (yS Z (zD Z Z Z bK Z Z) (zM Z (zb hr fun v8 h_v8 hr => yS Z (zC Z Z Z (by kernel_rfl) (zp (Je h_v8) (.cons zv (.cons zv .nil)))) (zM Z (zN (zT (zQ ?_))))))))))))))))))));refine zQ (zR (zM Z (zN (zT ?_))));refine zX Z (fun g5 => ?_) (fun g5 => ?_)
     ·
      refine zi g5 hr fun hr => zQ (zR (zM Z (zN (zT (zr (am (aD (am (am (aD (am (am ?_))))))))))));obtain rfl := zJ hr;have hr := congrArg some (hb_x1 _ rfl);obtain rfl := zJ hr;have hr := ff ho_v6;obtain rfl := zJ hr;exact zf (.one (.tmp Z)) zv
     ·
      refine zo g5 hr fun hr => zk (zT (zQ (zQ (zR (zM Z (zN (zT ?_)))))));obtain ⟨v9, hb_v9, ho_v9⟩ := zB hr;clear hr;refine LW.tail (E := [(1, (kI bad)), (2, .p (.slice 5 (l.map jz))), (3, (iQ slots)), (4, .ptr 0 0), (8, (bQ false)), (11, .ptr 1 0), (12, .vec 2 2 (v9.pins.map bF).length 0 (v9.pins.map bF).length), (13, (iQ x1.t))]) (O := [.box (bE c), .box (e8 v7), .vec 2 (v9.pins.map bF)]) ?_ (fun env_v9 H_v9 hw_v9 => ?_)
      ·refine LW.block ?_;refine LW.iterB (E := fun x2 : bM => [(1, (kI bad)), (2, .p (.slice 5 (l.map jz))), (3, (iQ slots)), (4, .ptr 0 0), (8, (bQ false)), (11, .ptr 1 0), (12, .vec 2 2 (x2.pins.map bF).length 0 (x2.pins.map bF).length), (13, (iQ x1.t)), (15, (iQ x2.i))]) (O := fun x2 => [.box (bE c), .box (e8 v7), .vec 2 (x2.pins.map bF)]) hb_v9 (zW 3 ⟨rfl, rfl, rfl, rfl, rfl, rfl, rfl, rfl, rfl, trivial⟩ Z Z Z Z) (fun x2 z_x2 hr hb_x2 => ?_);unfold kw at hr;refine zQ ?_;obtain ⟨v10, hb_v10, ho_v10⟩ := zB hr;clear hr;refine LW.cut (E := [(1, (kI bad)), (2, .p (.slice 5 (l.map jz))), (3, (iQ slots)), (4, .ptr 0 0), (8, (bQ false)), (11, .ptr 1 0), (12, .vec 2 2 (x2.pins.map bF).length 0 (x2.pins.map bF).length), (13, (iQ x1.t)), (15, (iQ x2.i)), (65, (bQ v10))]) (O := [.box (bE c), .box (e8 v7), .vec 2 (x2.pins.map bF)]) ?_ ?_
       ·have hr := hb_v10;refine zR (zM Z (yS Z (zA Z Z bN) (yS Z (zD Z Z Z dB Z Z) (yS Z (dY Z Z (by kernel_rfl)) (yS Z (ax Z Z Z Z) (zM Z ?_))))));refine zc 61 Z (fun g6 => ?_) (fun g6 => ?_)
        ·
         refine zi g6 hr fun hr => yV Z (gd g6 Z) (zm Z Z) (yV Z (gd g6 Z) (ab.rem Z Z Z (by decide)) (yV Z (gd g6 Z) (ax Z Z Z Z) (yS Z (eo Z (bI g6 Z) Z) (zN (zT ?_)))));obtain rfl := zJ hr;exact zW 3 ⟨Z, Z, Z, Z, Z, Z, Z, Z, Z, Z, trivial⟩ Z Z Z Z
        ·
         refine zo g6 hr fun hr => yU Z (gd g6 Z) Z (yU Z (gd g6 Z) Z (yU Z (gd g6 Z) Z (yS Z (dc Z (bI g6 Z) Z) (zN (zT ?_)))));obtain rfl := zJ hr;exact zW 3 ⟨Z, Z, Z, Z, Z, Z, Z, Z, Z, Z, trivial⟩ Z Z Z Z
       ·have hr := ho_v10;clear hb_v10;refine zX Z (fun g7 => ?_) (fun g7 => ?_)
        ·
         refine zi g7 hr fun hr => zk (zT (zQ (zl (zQ (LW.ent (bL.slot Z) (LW.drawW (by kernel_rfl) (by kernel_rfl) (yF Z (zd Z Z Z bv Z Z) Z ?_)))))));refine yF (F := []) (s := none) Z (fun H _ => zA Z Z bN) Z ?_;refine yF Z (zd Z Z Z dB Z Z) Z (zK Z (zb hr fun y1 h_y1 hr => ?_));refine yF (F := []) (s := none) Z (fun H _ => zx Z Z Z eE h_y1 Z) Z ?_;refine yF (F := []) (s := none) Z (fun H _ => ab.fieldAddrC Z Z bV Z) Z ?_;refine yF (F := []) (s := none) Z (fun H _ => eA Z Z Z aS Z Z) Z ?_;refine zK Z ?_;refine yF (F := []) (s := none) Z (fun H _ => ab.quo Z Z Z (by decide)) Z ?_;refine yF Z (zd Z Z Z bv Z Z) Z ?_;refine yF (F := []) (s := none) Z (fun H _ => zA Z Z bN) Z ?_;refine yF Z (zd Z Z Z dB Z Z) Z (zK Z (zb hr fun y2 h_y2 hr => ?_));refine yF (F := []) (s := none) Z (fun H _ => zx Z Z Z eE h_y2 Z) Z ?_;refine yF (F := []) (s := none) Z (fun H _ => eA Z Z Z cS Z Z) Z ?_;obtain ⟨v11, h_v11, hr⟩ := zB hr;refine yF (F := []) (s := none) Z (fun H _ => zC Z Z Z (by kernel_rfl) (zp (FZ h_v11) (.cons zv (.cons zv .nil)))) Z ?_;obtain ⟨v12, h_v12, hr⟩ := zB hr;refine yF (F := []) (s := none) Z (fun H _ => zC Z Z Z (by kernel_rfl) (zp (F5 h_v12) (.cons zv (.cons zv (.cons zv (.cons zv .nil)))))) Z ?_;refine zK Z ?_;refine yF (F := []) (s := none) Z (fun H _ => eZ Z Z Z) Z ?_;refine yF (F := []) (s := none) Z (fun H _ => eZ Z Z Z) Z ?_;refine yF Z (bH.alloc Z js (id := 3) Z) Z (yF Z (zt Z Z Z Z aR Z Z Z) Z (zK Z ?_));refine LF.nil ⟨by kernel_rfl, ?_⟩;refine zT ?_;obtain ⟨v13, hb_v13, ho_v13⟩ := zB hr;clear hr;refine LW.cut (E := [(1, (kI bad)), (2, .p (.slice 5 (l.map jz))), (3, (iQ slots)), (4, .ptr 0 0), (8, (bQ false)), (11, .ptr 1 0), (12, .vec 2 2 (x2.pins.map bF).length 0 (x2.pins.map bF).length), (13, (iQ x1.t)), (15, (iQ x2.i)), (16, .ptr 3 0), (95, (bQ v13))]) (O := [.box (bE c), .box (e8 v7), .vec 2 (x2.pins.map bF), .box [(uQ v12.1.1), (uQ v12.1.2)]]) ?_ ?_
         ·have hr := hb_v13;refine zR (zM Z (zM Z ?_));refine zc 89 Z (fun g8 => ?_) (fun g8 => ?_)
          ·
           refine zi g8 hr fun hr => yV Z (gd g8 Z) (zD Z Z Z bv Z Z) (yV Z (gd g8 Z) (zm Z Z) (yV Z (gd g8 Z) (zm Z Z) (yV Z (gd g8 Z) (ab.quo Z Z Z (by decide)) (zb hr fun v14 h_v14 hr => yV Z (gd g8 Z) (zC Z Z Z (by kernel_rfl) (zp (IE h_v14) (.cons zv (.cons zv (.cons zv .nil))))) (yS Z (eo Z (bI g8 Z) Z) (zN (zT ?_)))))));obtain rfl := zJ hr;exact zW 4 ⟨Z, Z, Z, Z, Z, Z, Z, Z, Z, Z, Z, trivial⟩ Z Z Z Z
          ·
           refine zo g8 hr fun hr => yU Z (gd g8 Z) Z (yU Z (gd g8 Z) Z (yU Z (gd g8 Z) Z (yU Z (gd g8 Z) Z (yU Z (gd g8 Z) Z (yS Z (dc Z (bI g8 Z) Z) (zN (zT ?_)))))));obtain rfl := zJ hr;exact zW 4 ⟨Z, Z, Z, Z, Z, Z, Z, Z, Z, Z, Z, trivial⟩ Z Z Z Z
         ·have hr := ho_v13;clear hb_v13;refine zX Z (fun g9 => ?_) (fun g9 => ?_)
          ·
           refine zi g9 hr fun hr => zR (zM Z (yS Z (zD Z Z Z aR Z Z) (yS Z (mL Z nG Z Z Z Z Z) (zg hr fun q1 hr => yS Z (ab.appendX bF x2.pins [v12.1] rfl Z Z Z km.p Z nG q1 Z) (zM Z (zN (ai (zT (zR (zM Z (yS Z (ax Z Z Z Z) (zM Z (zN (zT ?_))))))))))))));obtain rfl := zJ hr;exact ⟨_, rfl, zW 3 ⟨rfl, rfl, rfl, rfl, rfl, rfl, rfl, rfl, rfl, trivial⟩ Z Z Z rfl⟩
          ·
           refine zo g9 hr fun hr => zk (ai (zT (zR (zM Z (yS Z (ax Z Z Z Z) (zM Z (zN (zT ?_))))))));obtain rfl := zJ hr;exact ⟨_, rfl, zW 3 ⟨rfl, rfl, rfl, rfl, rfl, rfl, rfl, rfl, rfl, trivial⟩ Z Z Z rfl⟩
        ·
         refine zo g7 hr fun hr => zq (ao (ao (zy (zT ?_))));obtain rfl := zJ hr;have hr := congrArg some (hb_x2 _ rfl);obtain rfl := zJ hr;exact zW 3 ⟨Z, Z, Z, Z, Z, Z, Z, Z, trivial⟩ Z Z Z Z
      ·have hr := ho_v9;clear hb_v9;refine zT (LW.weak hw_v9 (zQ (zR (zM Z (zN (zT ?_))))));obtain ⟨b_v15, hb_v15, ho_v15⟩ := zB hr;clear hr;refine LW.tailB (b := b_v15) (E := fun v15 => [(1, (kI bad)), (2, .p (.slice 5 (l.map jz))), (3, (iQ slots)), (4, .ptr 0 0), (8, (bQ false)), (11, .ptr 1 0), (12, .vec 2 2 (v9.pins.map bF).length 0 (v9.pins.map bF).length), (13, (iQ x1.t))]) (O := fun v15 => [.box (bE c), .box (e8 v7), .vec 2 (v9.pins.map bF)]) ?_ (fun v15 e_v15 env_v15 H_v15 hw_v15 => ?_)
       ·refine LW.block ?_;refine LW.iterB (E := fun x3 : dF => [(1, (kI bad)), (2, .p (.slice 5 (l.map jz))), (3, (iQ slots)), (4, .ptr 0 0), (8, (bQ false)), (11, .ptr 1 0), (12, .vec 2 2 (v9.pins.map bF).length 0 (v9.pins.map bF).length), (13, (iQ x1.t)), (18, (iQ x3.i))]) (O := fun x3 => [.box (bE c), .box (e8 v7), .vec 2 (v9.pins.map bF)]) hb_v15 (zW 3 ⟨rfl, rfl, rfl, rfl, rfl, rfl, rfl, rfl, rfl, trivial⟩ Z Z Z Z) (fun x3 z_x3 hr hb_x3 => ?_);unfold iU at hr;refine zQ (zQ (zR (zM Z (zM Z (yS Z (ab.lenVM Z Z Z (by kernel_rfl)) (yS Z (ax Z Z Z Z) (zN (zT ?_))))))));refine zX Z (fun g10 => ?_) (fun g10 => ?_)
        ·
         refine zi g10 hr fun hr => zk (zT (zQ (zl (zQ (LW.draw2 (by kernel_rfl) (by kernel_rfl) (yE Z (zD Z Z Z bK Z Z) (zH Z (zH Z (zb hr fun y3 h_y3 hr => yE Z (ab.indexAddrVX Z Z Z Z nG h_y3) (yE Z (ab.loadVX Z Z Z aR h_y3 Z Z Z Z) (zb hr fun v16 h_v16 hr => yE Z (zC Z Z Z (by kernel_rfl) (zp (FX h_v16) (.cons zv (.cons zv .nil)))) (yE Z (ab.not Z Z) (LO.nil (zT ?_))))))))))))));refine zX Z (fun g11 => ?_) (fun g11 => ?_)
         ·
          refine zi g11 hr fun hr => zQ (zR (zM Z (zN (zT (zr (aD (am (am (aD (am (aD (am (am (aD (am (am ?_))))))))))))))));obtain rfl := zJ hr;have hr := congrArg some (hb_x3 _ rfl);obtain rfl := zJ hr;have hr := ff ho_v15;obtain rfl := zJ hr;have hr := congrArg some (hb_x1 _ rfl);obtain rfl := zJ hr;have hr := ff ho_v6;obtain rfl := zJ hr;exact zf (.one (.tmp Z)) zv
         ·
          refine zo g11 hr fun hr => zk (ai (zT (zR (zM Z (yS Z (ax Z Z Z Z) (zM Z (zN (zT ?_))))))));obtain rfl := zJ hr;exact ⟨_, rfl, zW 3 ⟨rfl, rfl, rfl, rfl, rfl, rfl, rfl, rfl, rfl, trivial⟩ Z Z Z rfl⟩
        ·
         refine zo g10 hr fun hr => zq (ao (ao (zy (zT ?_))));obtain rfl := zJ hr;have hr := congrArg some (hb_x3 _ rfl);obtain rfl := zJ hr;exact ⟨_, rfl, zW 3 ⟨rfl, rfl, rfl, rfl, rfl, rfl, rfl, rfl, trivial⟩ Z Z Z rfl⟩
       ·obtain rfl := e_v15;have hr := hZ ho_v15;clear hb_v15;refine ai (zT (LW.weak hw_v15 (zR (zM Z (yS Z (ax Z Z Z Z) (zM Z (zN (zT ?_))))))));obtain rfl := zJ hr;exact ⟨_, rfl, zW 3 ⟨rfl, rfl, rfl, rfl, rfl, rfl, rfl, rfl, trivial⟩ Z Z Z rfl⟩
    ·
     refine zo g4 hr fun hr => zq (ao (ao (zy (zT ?_))));obtain rfl := zJ hr;have hr := congrArg some (hb_x1 _ rfl);obtain rfl := zJ hr;exact ⟨_, rfl, zW 3 ⟨rfl, trivial⟩ Z Z Z rfl⟩
   ·obtain rfl := e_v6;have hr := hZ ho_v6;clear hb_v6;refine zT (LW.weak hw_v6 (zQ (zR (zM Z (zN (zT (zr ?_)))))));obtain rfl := zJ hr;exact zf (.one (.tmp Z)) zv
theorem HL {U : Vw} {w : Wd} {l : List Ac} (G : Gw U w l) (T : qh (eT w l) l) (hh : gG w.C w.Bad w) (hA : xU w) (L : EZ w) (hs : gg w.C w.Bad (w.Tick / 3) < fd w.C w.Bad (w.Tick / 3)) {id : ID} (hp : sh w id) : sh (eT w l) id := by
 by_cases h : w.Tick % 3 = 2
 ·exact AZ G T hh hA h L.upto (L.voted h) hs hp
 ·exact DL G h hp
section
variable {c : Cf} {bad : List Int} {l : List Ac}
theorem FA (hb : gy c bad l) {k : Nat} (hk : k ≤ 14) (T : qh (cy (ck c bad) l (k + 1)) l) (hs : nH c bad ((3 + k : Int) / 3) = true) {id : ID} (hp : sh (cy (ck c bad) l k) id) : sh (cy (ck c bad) l (k + 1)) id := by
 obtain ⟨e1, e2, e3⟩ := jm hb (k := k) (by omega);refine HL (jK hb (by omega)) T (tZ hb (by omega)) (DN hb (by omega)) (q5 hb k (by omega)) ?_ hp;rw [e1, e2, e3];exact of_decide_eq_true hs
def FN (c : Cf) (bad : List Int) (s : Int) : Prop := cH c ∧ 0 < fd c bad s + gg c bad s ∧ ¬ gg c bad s * c.Den > (fd c bad s + gg c bad s) * c.Num
theorem DU (hb : gy c bad l) {k : Nat} (hk : k ≤ 14) (ht : (3 + k : Int) % 3 = 2) (T : qh (cy (ck c bad) l (k + 1)) l) (hs : FN c bad ((3 + k : Int) / 3)) {n : Nd} (hn : n ∈ (cy (ck c bad) l (k + 1)).N) {id : ID} (hp : yl c n.V ((3 + k : Int) / 3) id) : sh (cy (ck c bad) l (k + 1)) id := by
 obtain ⟨e1, e2, e3⟩ := jm hb (k := k) (by omega);obtain ⟨f1, f2, f3⟩ := jm hb (k := k + 1) (by omega);have L := q5 hb k (by omega);have hh' : gG c bad (cy (ck c bad) l (k + 1)) := mm hb (k + 1) (by omega);have hm := (jK hb (k := k + 1) (by omega)).may hn;rw [f1] at hm;refine Fz (jK hb (by omega)) T (tZ hb (by omega)) (by rw [e1, e2]; exact hh') (DN hb (by omega)) (by rw [e3]; exact ht) L.upto (L.voted (by rw [e3]; exact ht)) hn (by rw [e1]; exact hm) ?_ ?_
 ·rw [e1, e3]; exact hp
 ·rw [e1, e2, e3]; have := hs.2.2; omega
theorem AY (hb : gy c bad l) {k : Nat} (hk : k ≤ 15) {id : ID} (hp : sh (cy (ck c bad) l k) id) : pW (cy (ck c bad) l k) id = some true :=
 have G := jK hb hk
 Bw (tY hb hk) fun n hn => (m0 (G.may hn).valid).2 (A0 G (tZ hb hk) hp hn)
theorem Bf (hb : gy c bad l) {k : Nat} (hk : k ≤ 14) (T : qh (cy (ck c bad) l (k + 1)) l) {pins : List ID} (hp : ∀ id ∈ pins, sh (cy (ck c bad) l (k + 1)) id) (hl : pins.length ≤ 1000) (w0 : Wd) :
  ∃ x : bM, iter (kw c bad (cp.mk (3 + k) w0 pins) (cy (ck c bad) l (k + 1))) bD (bM.mk 0 pins) = some x ∧ (∀ id ∈ x.pins, sh (cy (ck c bad) l (k + 1)) id) ∧ x.pins.length ≤ pins.length + 6 := by
 have hfit := tY hb (k := k + 1) (by omega);obtain ⟨f1, -, -⟩ := jm hb (k := k + 1) (by omega);have hlen := (jK hb (k := k + 1) (by omega)).ok.len;have hbb := hb.bad;have hsure := fun ht hc {n} (hn : n ∈ (cy (ck c bad) l (k + 1)).N) {id : ID} hs => DU hb hk ht T hc hn (id := id) hs;generalize cy (ck c bad) l (k + 1) = w at hp hfit f1 hlen hsure ⊢
 obtain ⟨x, hx, h1, h2⟩ := cN (step := kw c bad (cp.mk (3 + k) w0 pins) w) (fun x => ∃ j : Nat, x.i = j ∧ j ≤ w.N.length ∧ (∀ id ∈ x.pins, sh w id) ∧ x.pins.length ≤ pins.length + j) (fun x => w.N.length - x.i.toNat) (fun x => (∀ id ∈ x.pins, sh w id) ∧ x.pins.length ≤ pins.length + 6) (by
  rintro ⟨i, ps⟩ ⟨j, hj, hjl, h1, h2⟩;simp only at hj h1 h2;subst hj
  have hout : ∀ b : Bool, b = false → (∃ y, (bif b then (ix w.N (j : Int)).bind fun y1 => (ix w.N (j : Int)).bind fun y2 => (pX c y2).bind fun v11 => (oV c y1.V (IntKind.i64.wrap ((3 + k : Int).tdiv 3)) v11).bind fun v12 => (bif v12.2 then (rT c bad (IntKind.i64.wrap ((3 + k : Int).tdiv 3))).bind fun v14 => some v14 else some false).bind fun v13 => bif v13 then bif room ps.length [v12.1].length 16 then some (.inl (bM.mk (IntKind.i64.wrap ((j : Int) + 1)) (ps ++ [v12.1]))) else none else some (.inl (bM.mk (IntKind.i64.wrap ((j : Int) + 1)) ps)) else some (.inr (bM.mk (j : Int) ps)) : Option (bM ⊕ bM)) = some (.inr y) ∧ (∀ id ∈ y.pins, sh w id) ∧ y.pins.length ≤ pins.length + 6) := by
   rintro b rfl;exact ⟨_, by rw [cf], h1, by show ps.length ≤ _; omega⟩
  unfold kw;simp only;by_cases hlt : j < w.N.length
  ·rw [decide_eq_true (show (j : Int) < (w.N.length : Int) by omega), ct, ob];by_cases ht : (3 + k : Int).tmod 3 = 2
   ·left;rw [beq_iff_eq.2 ht, ct];rw [Int.tmod_eq_emod_of_nonneg (by omega)] at ht;obtain ⟨y, hy, hm⟩ := aE hlt;obtain ⟨⟨a1, a2⟩, -⟩ := hfit.nodes y hm
    have es : IntKind.i64.wrap ((3 + k : Int).tdiv 3) = (3 + k : Int) / 3 := by rw [Int.tdiv_eq_ediv_of_nonneg (by omega), cA (by omega) (by omega)]
    obtain ⟨r, hr, hrs⟩ := sa (c := c) (w := y.V) (slot := (3 + k : Int) / 3) (head := fO c y) hb.may (by omega) (by omega);rw [aH hy, ob, ob, uq (by omega) (by omega), ob, es, hr, ob, aj (n := j) (by omega)]
    cases h3 : r.2 with
    | false =>
     rw [cf, ob, cf];exact ⟨_, rfl, ⟨j + 1, rfl, by omega, h1, by show ps.length ≤ _; omega⟩, by simp only; omega⟩
    | true =>
     rw [ct, Bv (by omega), ob, ob];by_cases hc : FN c bad ((3 + k : Int) / 3)
     ·rw [decide_eq_true (show cH c ∧ _ from hc), ct, aL (by simp only [List.length_singleton]; omega) (by omega), ct];refine ⟨_, rfl, ⟨j + 1, rfl, by omega, fun id hid => ?_, by simp only [List.length_append, List.length_singleton]; omega⟩, by simp only; omega⟩;rcases List.mem_append.1 hid with hid | hid
      ·exact h1 id hid
      ·rw [List.mem_singleton.1 hid];exact hsure ht hc hm (hrs h3)
     ·rw [decide_eq_false (show ¬ (cH c ∧ _) from hc), cf];exact ⟨_, rfl, ⟨j + 1, rfl, by omega, h1, by show ps.length ≤ _; omega⟩, by simp only; omega⟩
   ·right;exact hout _ (beq_eq_false_iff_ne.2 ht)
  ·right;rw [decide_eq_false (show ¬ (j : Int) < (w.N.length : Int) by omega), cf, ob]
   exact hout _ Z) (n := bD) (x := bM.mk 0 pins) ⟨0, rfl, by omega, hp, by simp only; omega⟩ (dy (by simp only; omega))
 exact ⟨x, hx, h1, h2⟩
theorem DT (hb : gy c bad l) {k : Nat} (hk : k ≤ 15) (v : bM) (hl : v.pins.length ≤ 1000) (hp : ∀ id ∈ v.pins, sh (cy (ck c bad) l k) id) : iter (iU (cy (ck c bad) l k) v) bD (dF.mk 0) = some (.inl (dF.mk (v.pins.length : Int))) :=
 az (step := iU (cy (ck c bad) l k) v) (n := v.pins.length) (fun k => dF.mk (k : Int)) (.inl (dF.mk (v.pins.length : Int))) (fun j hj => by
  obtain ⟨y, hy, hm⟩ := aE hj;unfold iU;simp only
  rw [decide_eq_true (show (j : Int) < (v.pins.length : Int) by omega), ct, aH hy, ob, AY hb hk (hp y hm), ob, Bool.not_true, cf, aj (n := j) (by omega)]) (by
  unfold iU;simp only
  rw [decide_eq_false (show ¬ (v.pins.length : Int) < (v.pins.length : Int) by omega), cf]) (by omega)
open Classical in
theorem FH (ha : uK = some true) (c : Cf) (bad : List Int) (l : List Ac) (slots : Int) : yg c bad l slots = some true := by
 unfold yg;rw [ha, ob];rcases B8 c bad l slots with e | ⟨e, hb, hs1, hs4⟩
 ·rw [e, ob, Bool.not_true, cf, Bool.not_false, ct, ob, ct]
 have hbb := hb.bad;rw [e, ob, Bool.not_true, cf, cf, Bu (by omega) (by omega) (by omega) (by omega), ob];by_cases hst : tu c bad 1 slots
 case neg => rw [decide_eq_false hst, Bool.not_false, ob, ct]
 rw [decide_eq_true hst, Bool.not_true, ob, cf, B9 hb.may (by omega), ob]
 obtain ⟨r, hr, hp⟩ := cN (step := mW c bad l slots) (fun x => ∃ k : Nat, x.t = 3 + k ∧ (k : Int) ≤ 3 * slots ∧ x.w = cy (ck c bad) l k ∧ (∀ id ∈ x.pins, sh (cy (ck c bad) l k) id) ∧ x.pins.length ≤ 6 * k) (fun x => (3 * slots + 3 - x.t).toNat) (fun b => b = .inr true ∨ ∃ x, b = .inl x) (by
  rintro ⟨t, w, pins⟩ ⟨k, ht, hk, hw, hpin, hlen⟩;simp only at ht hw hpin hlen;subst ht hw;unfold mW;simp only;rw [cA (n := 3 * slots) (by omega) (by omega), cA (n := 3 * slots + 3) (by omega) (by omega)];by_cases hlt : (3 + k : Int) < 3 * slots + 3
  ·rw [decide_eq_true hlt, ct, HN hb (by omega), ob];rcases Cb (tY hb (k := k + 1) (by omega)) hb.acts with e | ⟨e, T⟩
   ·right;exact ⟨_, by rw [e, ob, ct], .inl rfl⟩
   ·left;have hpin' : ∀ id ∈ pins, sh (cy (ck c bad) l (k + 1)) id := fun id hid => FA hb (by omega) T (hst _ (by omega) (by omega)) (hpin id hid);obtain ⟨x, hx, h1, h2⟩ := Bf hb (by omega) T hpin' (by omega) (cy (ck c bad) l k);refine ⟨cp.mk (3 + ((k + 1 : Nat) : Int)) (cy (ck c bad) l (k + 1)) x.pins, ?_, ⟨k + 1, rfl, by omega, rfl, h1, by simp only; omega⟩, by simp only; omega⟩;rw [e, ob, cf, hx, ob, DT hb (by omega) x (by omega) h1, ob, cA (n := 3 + (k : Int) + 1) (by omega) (by omega)];show some (Sum.inl (cp.mk _ _ _)) = _;congr 3
  ·right;rw [decide_eq_false hlt, cf]
   exact ⟨_, rfl, .inr ⟨_, rfl⟩⟩) (n := bD) (x := cp.mk 3 (ck c bad) []) ⟨0, rfl, by show ((0 : Nat) : Int) ≤ _; omega, rfl, fun id hid => (by cases hid), Nat.zero_le _⟩ (dy (by simp only; omega))
 rw [hr, ob];rcases hp with rfl | ⟨x, rfl⟩ <;> rfl
end
def KY (a : Ac) : Prop := aZ .i64 a.Tick ∧ aZ .i64 a.To ∧ (∀ b ∈ a.B, H7 b) ∧ ∀ v ∈ a.V, Iw v
theorem JO {p : PV} (h : pF (.agg [.int .i64, .int .i64, .bool, .slice 5 (.agg [.int .i64, .int .i64, .int .u64, .int .u64, .int .u64]), .slice 4 (.agg [.int .i64, .int .i64, .int .u64, .int .u64])]) p) : ∃ a : Ac, p = jz a ∧ KY a := by
 cases h with | agg h =>
 cases h with | cons a1 h => cases h with | cons a2 h => cases h with | cons a3 h => cases h with | cons a4 h => cases h with | cons a5 h =>
  cases h;obtain ⟨x, rfl, hx⟩ := nf (fun _ h => JP h) a4;obtain ⟨y, rfl, hy⟩ := nf (fun _ h => JS h) a5;cases a1; cases a2; cases a3;exact ⟨⟨_, _, _, x, y⟩, rfl, by assumption, by assumption, hx, hy⟩
end Go.Mg
namespace Go.Proofs.YtbjmcafamkdokaaGreat
def io : List Nat := [104, 97, 114, 110, 101, 115, 115, 32, 51, 101, 97, 51, 57, 55, 99, 53, 56, 97, 55, 50, 48, 55, 49, 52, 99, 98, 101, 48, 97, 97, 50, 55, 55, 53, 56, 98, 49, 49, 48, 102, 57, 99, 99, 98, 48, 49, 99, 51, 48, 97, 49, 50, 97, 99, 97, 54, 50, 53, 52, 56, 51, 100, 97, 54, 56, 97, 98, 97, 51, 98, 50, 52, 32, 99, 117, 116, 32, 97, 116, 32, 109, 97, 114, 105, 103, 111, 108, 100, 47, 109, 97, 114, 105, 103, 111, 108, 100, 116, 111, 112, 46, 84, 111, 112, 65, 103, 114, 101, 101, 32, 109, 97, 114, 105, 103, 111, 108, 100, 47, 109, 97, 114, 105, 103, 111, 108, 100, 116, 111, 112, 46, 84, 111, 112, 83, 117, 114, 101, 32, 109, 97, 114, 105, 103, 111, 108, 100, 47, 109, 97, 114, 105, 103, 111, 108, 100, 116, 111, 112, 46, 84, 111, 112, 78, 101, 118, 101, 114, 32, 109, 97, 114, 105, 103, 111, 108, 100, 47, 109, 97, 114, 105, 103, 111, 108, 100, 108, 97, 119, 50, 48, 46, 80, 108, 97, 121, 72, 111, 110, 101, 115, 116, 32, 109, 97, 114, 105, 103, 111, 108, 100, 47, 109, 97, 114, 105, 103, 111, 108, 100, 108, 97, 119, 50, 48, 46, 80, 108, 97, 121, 80, 97, 114, 116, 115, 32, 109, 97, 114, 105, 103, 111, 108, 100, 47, 109, 97, 114, 105, 103, 111, 108, 100, 108, 97, 119, 50, 48, 46, 80, 108, 97, 121, 81, 117, 105, 101, 116, 32, 109, 97, 114, 105, 103, 111, 108, 100, 47, 109, 97, 114, 105, 103, 111, 108, 100, 108, 97, 119, 50, 48, 46, 80, 108, 97, 121, 79, 116, 104, 101, 114, 32, 109, 97, 114, 105, 103, 111, 108, 100, 47, 109, 97, 114, 105, 103, 111, 108, 100, 108, 97, 119, 50, 48, 46, 80, 108, 97, 121, 78, 111, 100, 101, 115, 32, 109, 97, 114, 105, 103, 111, 108, 100, 47, 109, 97, 114, 105, 103, 111, 108, 100, 108, 97, 119, 50, 48, 46, 80, 108, 97, 121, 83, 112, 114, 101, 97, 100, 115, 32, 109, 97, 114, 105, 103, 111, 108, 100, 47, 109, 97, 114, 105, 103, 111, 108, 100, 108, 97, 119, 50, 49, 46, 65, 117, 100, 105, 116, 83, 101, 101, 110, 32, 109, 97, 114, 105, 103, 111, 108, 100, 47, 109, 97, 114, 105, 103, 111, 108, 100, 108, 97, 119, 50, 49, 46, 65, 117, 100, 105, 116, 72, 111, 108, 100, 115]
theorem LE : Tryz.prog.initOrder = String.ofList (io.map Char.ofNat) := by kernel_rfl
theorem HD : Tryz.prog.initOrder.toList = io.map Char.ofNat := by rw [LE, String.toList_ofList]
def ws : List (List Nat) := [[99, 117, 116], [97, 116], [109, 97, 114, 105, 103, 111, 108, 100, 47, 109, 97, 114, 105, 103, 111, 108, 100, 116, 111, 112, 46, 84, 111, 112, 65, 103, 114, 101, 101], [109, 97, 114, 105, 103, 111, 108, 100, 47, 109, 97, 114, 105, 103, 111, 108, 100, 116, 111, 112, 46, 84, 111, 112, 83, 117, 114, 101], [109, 97, 114, 105, 103, 111, 108, 100, 47, 109, 97, 114, 105, 103, 111, 108, 100, 116, 111, 112, 46, 84, 111, 112, 78, 101, 118, 101, 114], [109, 97, 114, 105, 103, 111, 108, 100, 47, 109, 97, 114, 105, 103, 111, 108, 100, 108, 97, 119, 50, 48, 46, 80, 108, 97, 121, 72, 111, 110, 101, 115, 116], [109, 97, 114, 105, 103, 111, 108, 100, 47, 109, 97, 114, 105, 103, 111, 108, 100, 108, 97, 119, 50, 48, 46, 80, 108, 97, 121, 80, 97, 114, 116, 115], [109, 97, 114, 105, 103, 111, 108, 100, 47, 109, 97, 114, 105, 103, 111, 108, 100, 108, 97, 119, 50, 48, 46, 80, 108, 97, 121, 81, 117, 105, 101, 116], [109, 97, 114, 105, 103, 111, 108, 100, 47, 109, 97, 114, 105, 103, 111, 108, 100, 108, 97, 119, 50, 48, 46, 80, 108, 97, 121, 79, 116, 104, 101, 114], [109, 97, 114, 105, 103, 111, 108, 100, 47, 109, 97, 114, 105, 103, 111, 108, 100, 108, 97, 119, 50, 48, 46, 80, 108, 97, 121, 78, 111, 100, 101, 115], [109, 97, 114, 105, 103, 111, 108, 100, 47, 109, 97, 114, 105, 103, 111, 108, 100, 108, 97, 119, 50, 48, 46, 80, 108, 97, 121, 83, 112, 114, 101, 97, 100, 115], [109, 97, 114, 105, 103, 111, 108, 100, 47, 109, 97, 114, 105, 103, 111, 108, 100, 108, 97, 119, 50, 49, 46, 65, 117, 100, 105, 116, 83, 101, 101, 110], [109, 97, 114, 105, 103, 111, 108, 100, 47, 109, 97, 114, 105, 103, 111, 108, 100, 108, 97, 119, 50, 49, 46, 65, 117, 100, 105, 116, 72, 111, 108, 100, 115]]
theorem Ef : behindMainWord (wordsSigns Tryz.prog.initOrder.toList) = ws.map (List.map Char.ofNat) := by
 rw [HD]
 kernel_rfl
theorem J9 : stripLifts liftWords (ws.map (List.map Char.ofNat)) = ([], ws.map (List.map Char.ofNat)) := by kernel_rfl
theorem J6 : Tryz.prog.doorRows = [] := by kernel_rfl
theorem LG : Tryz.prog.laysLater = false := by kernel_rfl
theorem J4 : Tryz.prog.bearsReflect = false := by kernel_rfl
theorem Gk : (ws.map (List.map Char.ofNat)).head? = some "cut".toList := by kernel_rfl
theorem Hy (P : Program) (W : List (List Char)) (hW : behindMainWord (wordsSigns P.initOrder.toList) = W) (hs : stripLifts liftWords W = ([], W)) (hh : W.head? = some "cut".toList) (hr : P.doorRows = []) (hl : P.laysLater = false) (hb : P.bearsReflect = false) : P.mayEnter = true := by
 unfold Program.mayEnter;rw [hW]
 cases W with
 | nil => cases hh
 | cons c r =>
  simp only [hs, hh, hl, hb, Program.doorFits, hr];simp
theorem mayEnter : Tryz.prog.mayEnter = true := Hy Tryz.prog _ Ef J9 Gk J6 LG J4
theorem own : ownKnob Tryz.prog.godebug = none := by kernel_rfl
theorem yW : laidOutB Tryz.prog = true := by kernel_rfl
theorem J5 : mapsRowed Tryz.prog = true := by kernel_rfl
theorem JL : Tryz.prog.stopsHeard = true := by kernel_rfl
theorem Fu (P : Program) (W : List (List Char)) (hW : behindMainWord (wordsSigns P.initOrder.toList) = W) (hh : W.head? = some "cut".toList) : P.make = some .cut := by
 unfold Program.make;rw [hW]
 cases W with
 | nil => cases hh
 | cons c r =>
  have e : c = "cut".toList := by simpa using hh
  subst e;show (if _ then _ else _) = _;rw [if_neg (by decide), if_pos (by simp)]
theorem JY : Tryz.prog.make = some .cut := Fu Tryz.prog _ Ef Gk
theorem JV : Tryz.prog.liftsFinal = false := by
 unfold Program.liftsFinal Program.headLifts;rw [Ef]
 kernel_rfl
end Go.Proofs.YtbjmcafamkdokaaGreat
