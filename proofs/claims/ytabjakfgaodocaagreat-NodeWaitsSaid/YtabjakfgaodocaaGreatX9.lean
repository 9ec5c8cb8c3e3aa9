/- Laws of nodes. The example of nodes. Conditions: none. -/
import Derived.Test.YtabjakfgaodocaaGreatX3
import Derived.Test.YtabjakfgaodocaaGreatX7
import Derived.Test.YtabjakfgaodocaaGreatX8
namespace Go.Mg
open Go.Proofs
def F3013 : Option Bool :=
 (F125 ).bind fun v1 =>
 (F3043 0).bind fun v2 =>
 (F3018 v1 v2 (Vw.mk [] []) ([] : List Of)).bind fun v3 =>
 (
  bif (v3.2.length : Int) != 1 then
   some true
  else
   (ix v3.2 0).bind fun y1 =>
   bif !((y1.B.Slot == 1) && ((y1.B.From == 0) && ((y1.B.Parent.1 == 0) && ((y1.B.Parent.2 == 0) && ((y1.B.Salt == 0) && true))))) then
    some true
   else
    some ((v3.1.V.B.length : Int) != 1)
 ).bind fun v4 =>
 bif v4 then
  some false
 else
  (F3018 v1 v3.1 (Vw.mk [] []) v3.2).bind fun v5 =>
  (F3018 v1 v5.1 (Vw.mk [] []) ([] : List Of)).bind fun v6 =>
  bif (v6.1.V.V.length : Int) == 1 then
   bif ((v6.1.C.ID.1 == ((nm (Bk.mk 1 0 (0, 0) 0)).1)) && ((v6.1.C.ID.2 == ((nm (Bk.mk 1 0 (0, 0) 0)).2)) && true)) then
    bif v6.1.C.Revoked == 0 then
     (F1030 v1 v6.1).bind fun v7 =>
     bif ((v7.1 == ((nm (Bk.mk 1 0 (0, 0) 0)).1)) && ((v7.2 == ((nm (Bk.mk 1 0 (0, 0) 0)).2)) && true)) then
      some (v6.1.Tick == 6)
     else
      some false
    else
     some false
   else
    some false
  else
   some false
set_option maxRecDepth 100000 in
theorem c3013 {r_ : Bool} (hr : F3013 = some r_) : LPure Tryz.prog 13 [] [.bool r_] := by
 refine LPure.start Tryz.func13 Z Z Z Z ?_
 unfold F3013 at hr
 refine zQ (zR (zM Z (zN (zT (zQ (zR (zb hr fun v1 h_v1 hr => zS Z Z Z (zC Z Z Z (by kernel_rfl) (LC.pure (c125 h_v1) .nil)) (zS Z Z Z (LOp.alloc Z zt55 Z Z) (zS Z Z Z (LOp.store Z Z Z Z vt55 Z Z Z Z) (zN (zT (zQ (zR (zb hr fun v2 h_v2 hr => zS Z Z Z (zC Z Z Z (by kernel_rfl) (LC.pure (c3043 h_v2) (.cons Conv.p .nil))) (zS Z Z Z (LOp.alloc Z zt1071 Z Z) (zS Z Z Z (LOp.store Z Z Z Z vt1071 Z Z Z Z) (zN (zT (zQ (zR (zS Z Z Z (zD Z Z Z vt55 Z Z) ?_)))))))))))))))))))))
 refine zS Z Z Z (zD Z Z Z vt1071 Z Z) (zS Z Z Z (LOp.build Z bt75 Z Z Z) (zb hr fun v3 h_v3 hr => zS Z Z Z (zC Z Z Z (by kernel_rfl) (LC.pure (c3018 h_v3) (.cons Conv.p (.cons Conv.p (.cons (Conv.agg (.cons Conv.zs (.cons Conv.zs .nil))) (.cons Conv.zs .nil)))))) (zM Z (zS Z Z Z (LOp.extract Z Z Z) (zS Z Z Z (LOp.extract Z Z Z) (zS Z Z Z (LOp.store Z Z Z Z vt1071 Z Z Z Z) (zM Z (zN (zT (zQ (zR (zS Z Z Z (LOp.build Z bt42 Z Z Z) (zS Z Z Z (LOp.alloc Z zt42 Z Z) (zS Z Z Z (LOp.store Z Z Z Z vt42 Z Z Z Z) (zN (zT (zQ ?_)))))))))))))))))
 obtain ⟨v4, hb_v4, ho_v4⟩ := zB hr
 clear hr
 refine LW.cut (E := [(0, .p (.bool false)), (1, .ptr 0 0), (2, .ptr 1 0), (3, .p (.slice 9 (v3.2.map ofP))), (4, .ptr 2 0), (32, .p (.bool v4))]) (O := [.box [.p (.slice 1 (v1.W.map i64P)), .p (.int .u64 v1.Seed), .p (.int .i64 v1.Epoch), .p (.int .i64 v1.Num), .p (.int .i64 v1.Den)], .box [.p (.int .i64 v3.1.No), .p (.int .i64 v3.1.Tick), .p (.slice 5 (v3.1.V.B.map blkP)), .p (.slice 4 (v3.1.V.V.map vtP)), .p (.slice 5 (v3.1.In.B.map blkP)), .p (.slice 4 (v3.1.In.V.map vtP)), .p (.slice 9 (v3.1.O.map ofP)), .p (.int .u64 v3.1.C.ID.1), .p (.int .u64 v3.1.C.ID.2), .p (.int .i64 v3.1.C.Slot), .p (.int .i64 v3.1.C.Revoked), .p (.bool v3.1.Full)], .box [.p (.int .i64 1), .p (.int .i64 0), .p (.int .u64 0), .p (.int .u64 0), .p (.int .u64 0)]]) ?_ ?_
 ·have hr := hb_v4
  refine LW.draw (by kernel_rfl) (by kernel_rfl) (zH Z (zE Z Z Z (LOp.lenM Z Z (by kernel_rfl)) (zE Z Z Z (LOp.bin Z Z Z Z) (zH Z ?_))))
  refine LO.cases 18 Z (fun (g1 : ((v3.2.length : Int) != 1) = true) => ?_) (fun (g1 : ((v3.2.length : Int) != 1) = false) => ?_)
  ·
   refine zi g1 hr fun hr => LO.sk Z Z Z (gd g1 Z) Z Z (LO.sk Z Z Z (gd g1 Z) Z Z (LO.sk Z Z Z (gd g1 Z) Z Z (LO.sk Z Z Z (gd g1 Z) Z Z (LO.sk Z Z Z (gd g1 Z) Z Z (LO.sk Z Z Z (gd g1 Z) Z Z (zE Z Z Z (LOp.pickT Z (gdl g1 Z) Z) (zH Z (LO.sk Z Z Z Z Z Z (LO.sk Z Z Z Z Z Z (LO.sk Z Z Z Z Z Z (LO.sk Z Z Z Z Z Z (LO.sk Z Z Z Z Z Z (zE Z Z Z (LOp.pickT Z Z Z) (LO.nil (zT ?_)))))))))))))))
   obtain rfl := zJ hr
   exact zW 3 ⟨Z, Z, Z, Z, Z, Z, trivial⟩ Z Z Z Z
  ·
   refine zo g1 hr fun hr => LO.gd Z Z Z (gd g1 Z) Z (LOp.move Z Z) (zb hr fun y1 h_y1 hr => LO.gd Z Z Z (gd g1 Z) Z (LOp.indexAddrX Z Z Z st1036 h_y1 Z) (LO.gd Z Z Z (gd g1 Z) Z (LOp.fieldAddrC Z Z ft1077_2 Z) (LO.gd Z Z Z (gd g1 Z) Z (LOp.loadC Z Z Z vt42 Z Z) (LO.gd Z Z Z (gd g1 Z) Z (zD Z Z Z vt42 Z Z) (LO.gd Z Z Z (gd g1 Z) Z (LOp.neqAgg Z Z Z Z Z eqt42) (zE Z Z Z (LOp.pickF Z (gdl g1 Z) Z) (zH Z ?_)))))))
   refine LO.cases 26 Z (fun (g2 : (!((y1.B.Slot == 1) && ((y1.B.From == 0) && ((y1.B.Parent.1 == 0) && ((y1.B.Parent.2 == 0) && ((y1.B.Salt == 0) && true)))))) = true) => ?_) (fun (g2 : (!((y1.B.Slot == 1) && ((y1.B.From == 0) && ((y1.B.Parent.1 == 0) && ((y1.B.Parent.2 == 0) && ((y1.B.Salt == 0) && true)))))) = false) => ?_)
   ·
    refine zi g2 hr fun hr => LO.sk Z Z Z (gd g2 Z) Z Z (LO.sk Z Z Z (gd g2 Z) Z Z (LO.sk Z Z Z (gd g2 Z) Z Z (LO.sk Z Z Z (gd g2 Z) Z Z (LO.sk Z Z Z (gd g2 Z) Z Z (zE Z Z Z (LOp.pickT Z (gdl g2 Z) Z) (LO.nil (zT ?_)))))))
    obtain rfl := zJ hr
    exact zW 3 ⟨Z, Z, Z, Z, Z, Z, trivial⟩ Z Z Z Z
   ·
    refine zo g2 hr fun hr => LO.gd Z Z Z (gd g2 Z) Z (zA Z Z ft1071_2) (LO.gd Z Z Z (gd g2 Z) Z (zA Z Z ft75_0) (LO.gd Z Z Z (gd g2 Z) Z (zD Z Z Z vt27 Z Z) (LO.gd Z Z Z (gd g2 Z) Z (LOp.lenM Z Z (by kernel_rfl)) (LO.gd Z Z Z (gd g2 Z) Z (LOp.bin Z Z Z Z) (zE Z Z Z (LOp.pickF Z (gdl g2 Z) Z) (LO.nil (zT ?_)))))))
    obtain rfl := zJ hr
    exact zW 3 ⟨Z, Z, Z, Z, Z, Z, trivial⟩ Z Z Z Z
 ·have hr := ho_v4
  clear hb_v4
  refine zX Z (fun g3 => ?_) (fun g3 => ?_)
  ·
   refine zi g3 hr fun hr => zQ (zR (zM Z (zN (zT (LW.ret (thn_r ?_))))))
   obtain rfl := zJ hr
   refine finP_ret (.one (.tmp Z)) ?_
   exact Conv.p
  ·
   refine zo g3 hr fun hr => LW.skip (zT (zQ (zR (zS Z Z Z (zD Z Z Z vt55 Z Z) (zS Z Z Z (zD Z Z Z vt1071 Z Z) (zS Z Z Z (LOp.build Z bt75 Z Z Z) (zM Z (zb hr fun v5 h_v5 hr => zS Z Z Z (zC Z Z Z (by kernel_rfl) (LC.pure (c3018 h_v5) (.cons Conv.p (.cons Conv.p (.cons (Conv.agg (.cons Conv.zs (.cons Conv.zs .nil))) (.cons Conv.p .nil)))))) (zM Z (zS Z Z Z (LOp.extract Z Z Z) (zS Z Z Z (LOp.extract Z Z Z) (zS Z Z Z (LOp.store Z Z Z Z vt1071 Z Z Z Z) (zN (zT (zQ (zR (zS Z Z Z (zD Z Z Z vt55 Z Z) (zS Z Z Z (zD Z Z Z vt1071 Z Z) (zS Z Z Z (LOp.build Z bt75 Z Z Z) (zb hr fun v6 h_v6 hr => zS Z Z Z (zC Z Z Z (by kernel_rfl) (LC.pure (c3018 h_v6) (.cons Conv.p (.cons Conv.p (.cons (Conv.agg (.cons Conv.zs (.cons Conv.zs .nil))) (.cons Conv.zs .nil)))))) ?_))))))))))))))))))))
   refine zM Z (zS Z Z Z (LOp.extract Z Z Z) (zS Z Z Z (LOp.extract Z Z Z) (zS Z Z Z (LOp.store Z Z Z Z vt1071 Z Z Z Z) (zN (zT (zQ (LW.draw (by kernel_rfl) (by kernel_rfl) (zE Z Z Z (zA Z Z ft1071_2) (zE Z Z Z (zA Z Z ft75_1) (zE Z Z Z (zD Z Z Z vt68 Z Z) (zE Z Z Z (LOp.lenM Z Z (by kernel_rfl)) (zE Z Z Z (LOp.bin Z Z Z Z) (zH Z ?_)))))))))))))
   refine LO.cases 53 Z (fun (g4 : ((v6.1.V.V.length : Int) == 1) = true) => ?_) (fun (g4 : ((v6.1.V.V.length : Int) == 1) = false) => ?_)
   ·
    refine zi g4 hr fun hr => LO.gd Z Z Z (gd g4 Z) Z (zA Z Z ft1071_5) (LO.gd Z Z Z (gd g4 Z) Z (zA Z Z ft26_0) (LO.gd Z Z Z (gd g4 Z) Z (zD Z Z Z vt24 Z Z) (LO.gd Z Z Z (gd g4 Z) Z (zD Z Z Z vt42 Z Z) (LO.gd Z Z Z (gd g4 Z) Z (zC Z Z Z (by kernel_rfl) (LC.pure (c50 (b := (Bk.mk 1 0 (0, 0) 0))) (.cons Conv.p .nil))) (LO.gd Z Z Z (gd g4 Z) Z (LOp.eqlAgg Z Z Z Z Z eqt24) (zE Z Z Z (LOp.pickT Z (gdl g4 Z) Z) (zH Z ?_)))))))
    refine LO.cases 61 Z (fun (g5 : ((v6.1.C.ID.1 == ((nm (Bk.mk 1 0 (0, 0) 0)).1)) && ((v6.1.C.ID.2 == ((nm (Bk.mk 1 0 (0, 0) 0)).2)) && true)) = true) => ?_) (fun (g5 : ((v6.1.C.ID.1 == ((nm (Bk.mk 1 0 (0, 0) 0)).1)) && ((v6.1.C.ID.2 == ((nm (Bk.mk 1 0 (0, 0) 0)).2)) && true)) = false) => ?_)
    ·
     refine zi g5 hr fun hr => LO.gd Z Z Z (gd g5 Z) Z (zA Z Z ft1071_5) (LO.gd Z Z Z (gd g5 Z) Z (zA Z Z ft26_2) (LO.gd Z Z Z (gd g5 Z) Z (zD Z Z Z vt3 Z Z) (LO.gd Z Z Z (gd g5 Z) Z (LOp.bin Z Z Z Z) (zE Z Z Z (LOp.pickT Z (gdl g5 Z) Z) (zH Z ?_)))))
     refine LO.cases 67 Z (fun (g6 : (v6.1.C.Revoked == 0) = true) => ?_) (fun (g6 : (v6.1.C.Revoked == 0) = false) => ?_)
     ·
      refine zi g6 hr fun hr => LO.gd Z Z Z (gd g6 Z) Z (zD Z Z Z vt55 Z Z) (LO.gd Z Z Z (gd g6 Z) Z (zD Z Z Z vt1071 Z Z) (zb hr fun v7 h_v7 hr => LO.gd Z Z Z (gd g6 Z) Z (zC Z Z Z (by kernel_rfl) (LC.pure (c1030 h_v7) (.cons Conv.p (.cons Conv.p .nil)))) (LO.gd Z Z Z (gd g6 Z) Z (zD Z Z Z vt42 Z Z) (LO.gd Z Z Z (gd g6 Z) Z (zC Z Z Z (by kernel_rfl) (LC.pure (c50 (b := (Bk.mk 1 0 (0, 0) 0))) (.cons Conv.p .nil))) (LO.gd Z Z Z (gd g6 Z) Z (LOp.eqlAgg Z Z Z Z Z eqt24) (zE Z Z Z (LOp.pickT Z (gdl g6 Z) Z) (zH Z ?_)))))))
      refine LO.cases 75 Z (fun (g7 : ((v7.1 == ((nm (Bk.mk 1 0 (0, 0) 0)).1)) && ((v7.2 == ((nm (Bk.mk 1 0 (0, 0) 0)).2)) && true)) = true) => ?_) (fun (g7 : ((v7.1 == ((nm (Bk.mk 1 0 (0, 0) 0)).1)) && ((v7.2 == ((nm (Bk.mk 1 0 (0, 0) 0)).2)) && true)) = false) => ?_)
      ·
       refine zi g7 hr fun hr => LO.gd Z Z Z (gd g7 Z) Z (zA Z Z ft1071_1) (LO.gd Z Z Z (gd g7 Z) Z (zD Z Z Z vt3 Z Z) (LO.gd Z Z Z (gd g7 Z) Z (LOp.bin Z Z Z Z) (zE Z Z Z (LOp.pickT Z (gdl g7 Z) Z) (zH Z (LO.nil (zT (LW.ret ?_)))))))
       obtain rfl := zJ hr
       refine finP_ret (.one (.tmp Z)) ?_
       exact Conv.p
      ·
       refine zo g7 hr fun hr => LO.sk Z Z Z (gd g7 Z) Z Z (LO.sk Z Z Z (gd g7 Z) Z Z (LO.sk Z Z Z (gd g7 Z) Z Z (zE Z Z Z (LOp.pickF Z (gdl g7 Z) Z) (zH Z (LO.nil (zT (LW.ret ?_)))))))
       obtain rfl := zJ hr
       refine finP_ret (.one (.tmp Z)) ?_
       exact Conv.p
     ·
      refine zo g6 hr fun hr => LO.sk Z Z Z (gd g6 Z) Z Z (LO.sk Z Z Z (gd g6 Z) Z Z (LO.sk Z Z Z (gd g6 Z) Z Z (LO.sk Z Z Z (gd g6 Z) Z Z (LO.sk Z Z Z (gd g6 Z) Z Z (LO.sk Z Z Z (gd g6 Z) Z Z (zE Z Z Z (LOp.pickF Z (gdl g6 Z) Z) (zH Z (LO.sk Z Z Z Z Z Z (LO.sk Z Z Z Z Z Z (LO.sk Z Z Z Z Z Z (zE Z Z Z (LOp.pickF Z Z Z) (zH Z (LO.nil (zT (LW.ret ?_)))))))))))))))
      obtain rfl := zJ hr
      refine finP_ret (.one (.tmp Z)) ?_
      exact Conv.p
    ·
     refine zo g5 hr fun hr => LO.sk Z Z Z (gd g5 Z) Z Z (LO.sk Z Z Z (gd g5 Z) Z Z (LO.sk Z Z Z (gd g5 Z) Z Z (LO.sk Z Z Z (gd g5 Z) Z Z (zE Z Z Z (LOp.pickF Z (gdl g5 Z) Z) (zH Z (LO.sk Z Z Z Z Z Z (LO.sk Z Z Z Z Z Z (LO.sk Z Z Z Z Z Z (LO.sk Z Z Z Z Z Z (LO.sk Z Z Z Z Z Z (LO.sk Z Z Z Z Z Z (zE Z Z Z (LOp.pickF Z Z Z) (zH Z (LO.sk Z Z Z Z Z Z (LO.sk Z Z Z Z Z Z (LO.sk Z Z Z Z Z Z (zE Z Z Z (LOp.pickF Z Z Z) (zH Z (LO.nil (zT (LW.ret ?_)))))))))))))))))))))
     obtain rfl := zJ hr
     refine finP_ret (.one (.tmp Z)) ?_
     exact Conv.p
   ·
    refine zo g4 hr fun hr => LO.sk Z Z Z (gd g4 Z) Z Z (LO.sk Z Z Z (gd g4 Z) Z Z (LO.sk Z Z Z (gd g4 Z) Z Z (LO.sk Z Z Z (gd g4 Z) Z Z (LO.sk Z Z Z (gd g4 Z) Z Z (LO.sk Z Z Z (gd g4 Z) Z Z (zE Z Z Z (LOp.pickF Z (gdl g4 Z) Z) (zH Z (LO.sk Z Z Z Z Z Z (LO.sk Z Z Z Z Z Z (LO.sk Z Z Z Z Z Z (LO.sk Z Z Z Z Z Z (zE Z Z Z (LOp.pickF Z Z Z) (zH Z (LO.sk Z Z Z Z Z Z (LO.sk Z Z Z Z Z Z (LO.sk Z Z Z Z Z Z (LO.sk Z Z Z Z Z Z (LO.sk Z Z Z Z Z Z (LO.sk Z Z Z Z Z Z (zE Z Z Z (LOp.pickF Z Z Z) (zH Z (LO.sk Z Z Z Z Z Z ?_))))))))))))))))))))))
    refine LO.sk Z Z Z Z Z Z (LO.sk Z Z Z Z Z Z (zE Z Z Z (LOp.pickF Z Z Z) (zH Z (LO.nil (zT (LW.ret ?_))))))
    obtain rfl := zJ hr
    refine finP_ret (.one (.tmp Z)) ?_
    exact Conv.p
structure F3023_L1 where
 n : Int
 i : Int
def F3004 (c : Cf) (n : Nd) (v_in : Vw) (o : List Of) : Option Bool :=
 (F3013 ).bind fun v1 =>
 (F3014 n 25).bind fun v2 =>
 (F84 v_in 25).bind fun v3 =>
 (F3016 o 25).bind fun v4 =>
 (
  bif !v1 then
   some true
  else
   bif !v2 then
    some true
   else
    bif !v3 then
     some true
    else
     bif !v4 then
      some true
     else
      bif decide ((c.W.length : Int) > 40) then
       some true
      else
       (F64 c).bind fun v6 =>
       bif !v6 then
        some true
       else
        bif decide (n.Tick < 3) then
         some true
        else
         some (decide (n.Tick > 1000000))
 ).bind fun v5 =>
 bif v5 then
  some v1
 else
  (F3018 c n v_in o).bind fun v7 =>
  (F63 c (IntKind.i64.wrap (n.Tick.tdiv 3))).bind fun v8 =>
  (F86 v7.1.V n.V).bind fun v9 =>
  (
   bif (n.Tick.tmod 3) != 0 then
    some true
   else
    some (n.No != v8)
  ).bind fun v10 =>
  bif v10 then
   (
    bif decide ((v7.2.length : Int) > 0) then
     some (.inr false)
    else
     bif (n.Tick.tmod 3) == 0 then
      bif !v9 then
       some (.inr false)
      else
       some (.inl ())
     else
      some (.inl ())
   ).bind fun b_v11 => Sum.elim (fun _ =>
    (
     bif (n.Tick.tmod 3) != 1 then
      some true
     else
      bif decide ((IntKind.i64.wrap ((n.O.length : Int) + (o.length : Int))) > 0) then
       some true
      else
       some v9
    ).bind fun v12 =>
    some v12) some b_v11
  else
   bif (v7.2.length : Int) == 1 then
    (ix v7.2 0).bind fun y1 =>
    bif y1.Slot == (IntKind.i64.wrap (n.Tick.tdiv 3)) then
     (ix v7.2 0).bind fun y2 =>
     bif y2.From == v8 then
      (ix v7.2 0).bind fun y3 =>
      bif y3.B.Slot == (IntKind.i64.wrap (n.Tick.tdiv 3)) then
       (ix v7.2 0).bind fun y4 =>
       bif y4.B.From == v8 then
        (ix v7.2 0).bind fun y5 =>
        bif y5.B.Salt == 0 then
         (F89 c n.V).bind fun v13 =>
         bif !v13 then
          some true
         else
          (ix v7.2 0).bind fun y6 =>
          (F89 c y6.V).bind fun v14 =>
          bif v14 then
           (ix v7.2 0).bind fun y7 =>
           (ix v7.2 0).bind fun y8 =>
           bif few y7.V.B then
            some (decide (((chainOf y7.V.B y8.B.Parent).length : Int) > 0))
           else none
          else
           some false
        else
         some false
       else
        some false
      else
       some false
     else
      some false
    else
     some false
   else
    some false
set_option maxRecDepth 100000 in
theorem c3004 {c : Cf} {n : Nd} {v_in : Vw} {o : List Of} {r_ : Bool} (hr : F3004 c n v_in o = some r_) : LPure Tryz.prog 4 [cfP c, ndP n, vwP v_in, .slice 9 (o.map ofP)] [.bool r_] := by
 refine LPure.start Tryz.func4 Z Z Z Z ?_
 unfold F3004 at hr
 refine zQ (zR (zS Z Z Z (LOp.box Z Z Z Z Z) (zS Z Z Z (LOp.box Z Z Z Z Z) (zS Z Z Z (LOp.box Z Z Z Z Z) (zM Z (zN (zT (zQ (zR (zb hr fun v1 h_v1 hr => zS Z Z Z (zC Z Z Z (by kernel_rfl) (LC.pure (c3013 h_v1) .nil)) (zM Z (zN (zT (zQ (zR (zS Z Z Z (zD Z Z Z vt1071 Z Z) (zb hr fun v2 h_v2 hr => zS Z Z Z (zC Z Z Z (by kernel_rfl) (LC.pure (c3014 h_v2) (.cons Conv.p (.cons Conv.p .nil)))) (zM Z (zN (zT (zQ ?_)))))))))))))))))))))
 refine zR (zS Z Z Z (zD Z Z Z vt75 Z Z) (zb hr fun v3 h_v3 hr => zS Z Z Z (zC Z Z Z (by kernel_rfl) (LC.pure (c84 h_v3) (.cons Conv.p (.cons Conv.p .nil)))) (zM Z (zN (zT (zQ (zR (zM Z (zb hr fun v4 h_v4 hr => zS Z Z Z (zC Z Z Z (by kernel_rfl) (LC.pure (c3016 h_v4) (.cons Conv.p (.cons Conv.p .nil)))) (zM Z (zN (zT (zQ ?_)))))))))))))
 obtain ⟨v5, hb_v5, ho_v5⟩ := zB hr
 clear hr
 refine LW.cut (E := [(3, .p (.slice 9 (o.map ofP))), (4, .ptr 0 0), (5, .ptr 1 0), (6, .ptr 2 0), (8, .p (.bool false)), (9, .p (.bool v1)), (59, .p (.bool v5))]) (O := [.box [.p (.slice 1 (c.W.map i64P)), .p (.int .u64 c.Seed), .p (.int .i64 c.Epoch), .p (.int .i64 c.Num), .p (.int .i64 c.Den)], .box [.p (.int .i64 n.No), .p (.int .i64 n.Tick), .p (.slice 5 (n.V.B.map blkP)), .p (.slice 4 (n.V.V.map vtP)), .p (.slice 5 (n.In.B.map blkP)), .p (.slice 4 (n.In.V.map vtP)), .p (.slice 9 (n.O.map ofP)), .p (.int .u64 n.C.ID.1), .p (.int .u64 n.C.ID.2), .p (.int .i64 n.C.Slot), .p (.int .i64 n.C.Revoked), .p (.bool n.Full)], .box [.p (.slice 5 (v_in.B.map blkP)), .p (.slice 4 (v_in.V.map vtP))]]) ?_ ?_
 ·have hr := hb_v5
  refine zR (zM Z (zS Z Z Z (LOp.not Z Z) (zM Z ?_)))
  refine LOps.cases 27 Z (fun g1 => ?_) (fun g1 => ?_)
  ·
   refine zi g1 hr fun hr => zU Z Z Z (gd g1 Z) Z Z (zU Z Z Z (gd g1 Z) Z Z (zS Z Z Z (LOp.pickT Z (gdl g1 Z) Z) (zM Z (zU Z Z Z Z Z Z (zU Z Z Z Z Z Z (zS Z Z Z (LOp.pickT Z Z Z) (zM Z (zU Z Z Z Z Z Z (zU Z Z Z Z Z Z (zS Z Z Z (LOp.pickT Z Z Z) (zM Z (zU Z Z Z Z Z Z (zU Z Z Z Z Z Z (zU Z Z Z Z Z Z (zU Z Z Z Z Z Z (zS Z Z Z (LOp.pickT Z Z Z) (zM Z (zU Z Z Z Z Z Z (zU Z Z Z Z Z Z (zU Z Z Z Z Z Z (zS Z Z Z (LOp.pickT Z Z Z) (zM Z ?_))))))))))))))))))))))
   refine zU Z Z Z Z Z Z (zU Z Z Z Z Z Z (zU Z Z Z Z Z Z (zS Z Z Z (LOp.pickT Z Z Z) (zM Z (zU Z Z Z Z Z Z (zU Z Z Z Z Z Z (zU Z Z Z Z Z Z (zS Z Z Z (LOp.pickT Z Z Z) (zN (zT ?_))))))))))
   obtain rfl := zJ hr
   exact zW 3 ⟨Z, Z, Z, Z, Z, Z, Z, trivial⟩ Z Z Z Z
  ·
   refine zo g1 hr fun hr => zV Z Z Z (gd g1 Z) Z (LOp.move Z Z) (zV Z Z Z (gd g1 Z) Z (LOp.not Z Z) (zS Z Z Z (LOp.pickF Z (gdl g1 Z) Z) (zM Z ?_)))
   refine LOps.cases 31 Z (fun g2 => ?_) (fun g2 => ?_)
   ·
    refine zi g2 hr fun hr => zU Z Z Z (gd g2 Z) Z Z (zU Z Z Z (gd g2 Z) Z Z (zS Z Z Z (LOp.pickT Z (gdl g2 Z) Z) (zM Z (zU Z Z Z Z Z Z (zU Z Z Z Z Z Z (zS Z Z Z (LOp.pickT Z Z Z) (zM Z (zU Z Z Z Z Z Z (zU Z Z Z Z Z Z (zU Z Z Z Z Z Z (zU Z Z Z Z Z Z (zS Z Z Z (LOp.pickT Z Z Z) (zM Z (zU Z Z Z Z Z Z (zU Z Z Z Z Z Z (zU Z Z Z Z Z Z (zS Z Z Z (LOp.pickT Z Z Z) (zM Z (zU Z Z Z Z Z Z (zU Z Z Z Z Z Z (zU Z Z Z Z Z Z (zS Z Z Z (LOp.pickT Z Z Z) ?_))))))))))))))))))))))
    refine zM Z (zU Z Z Z Z Z Z (zU Z Z Z Z Z Z (zU Z Z Z Z Z Z (zS Z Z Z (LOp.pickT Z Z Z) (zN (zT ?_))))))
    obtain rfl := zJ hr
    exact zW 3 ⟨Z, Z, Z, Z, Z, Z, Z, trivial⟩ Z Z Z Z
   ·
    refine zo g2 hr fun hr => zV Z Z Z (gd g2 Z) Z (LOp.move Z Z) (zV Z Z Z (gd g2 Z) Z (LOp.not Z Z) (zS Z Z Z (LOp.pickF Z (gdl g2 Z) Z) (zM Z ?_)))
    refine LOps.cases 35 Z (fun g3 => ?_) (fun g3 => ?_)
    ·
     refine zi g3 hr fun hr => zU Z Z Z (gd g3 Z) Z Z (zU Z Z Z (gd g3 Z) Z Z (zS Z Z Z (LOp.pickT Z (gdl g3 Z) Z) (zM Z (zU Z Z Z Z Z Z (zU Z Z Z Z Z Z (zU Z Z Z Z Z Z (zU Z Z Z Z Z Z (zS Z Z Z (LOp.pickT Z Z Z) (zM Z (zU Z Z Z Z Z Z (zU Z Z Z Z Z Z (zU Z Z Z Z Z Z (zS Z Z Z (LOp.pickT Z Z Z) (zM Z (zU Z Z Z Z Z Z (zU Z Z Z Z Z Z (zU Z Z Z Z Z Z (zS Z Z Z (LOp.pickT Z Z Z) (zM Z (zU Z Z Z Z Z Z (zU Z Z Z Z Z Z (zU Z Z Z Z Z Z ?_))))))))))))))))))))))
     refine zS Z Z Z (LOp.pickT Z Z Z) (zN (zT ?_))
     obtain rfl := zJ hr
     exact zW 3 ⟨Z, Z, Z, Z, Z, Z, Z, trivial⟩ Z Z Z Z
    ·
     refine zo g3 hr fun hr => zV Z Z Z (gd g3 Z) Z (LOp.move Z Z) (zV Z Z Z (gd g3 Z) Z (LOp.not Z Z) (zS Z Z Z (LOp.pickF Z (gdl g3 Z) Z) (zM Z ?_)))
     refine LOps.cases 39 Z (fun g4 => ?_) (fun g4 => ?_)
     ·
      refine zi g4 hr fun hr => zU Z Z Z (gd g4 Z) Z Z (zU Z Z Z (gd g4 Z) Z Z (zU Z Z Z (gd g4 Z) Z Z (zU Z Z Z (gd g4 Z) Z Z (zS Z Z Z (LOp.pickT Z (gdl g4 Z) Z) (zM Z (zU Z Z Z Z Z Z (zU Z Z Z Z Z Z (zU Z Z Z Z Z Z (zS Z Z Z (LOp.pickT Z Z Z) (zM Z (zU Z Z Z Z Z Z (zU Z Z Z Z Z Z (zU Z Z Z Z Z Z (zS Z Z Z (LOp.pickT Z Z Z) (zM Z (zU Z Z Z Z Z Z (zU Z Z Z Z Z Z (zU Z Z Z Z Z Z (zS Z Z Z (LOp.pickT Z Z Z) (zN (zT ?_)))))))))))))))))))))
      obtain rfl := zJ hr
      exact zW 3 ⟨Z, Z, Z, Z, Z, Z, Z, trivial⟩ Z Z Z Z
     ·
      refine zo g4 hr fun hr => zV Z Z Z (gd g4 Z) Z (zA Z Z ft55_0) (zV Z Z Z (gd g4 Z) Z (zD Z Z Z vt49 Z Z) (zV Z Z Z (gd g4 Z) Z (LOp.lenM Z Z (by kernel_rfl)) (zV Z Z Z (gd g4 Z) Z (LOp.bin Z Z Z Z) (zS Z Z Z (LOp.pickF Z (gdl g4 Z) Z) (zM Z ?_)))))
      refine LOps.cases 45 Z (fun g5 => ?_) (fun g5 => ?_)
      ·
       refine zi g5 hr fun hr => zU Z Z Z (gd g5 Z) Z Z (zU Z Z Z (gd g5 Z) Z Z (zU Z Z Z (gd g5 Z) Z Z (zS Z Z Z (LOp.pickT Z (gdl g5 Z) Z) (zM Z (zU Z Z Z Z Z Z (zU Z Z Z Z Z Z (zU Z Z Z Z Z Z (zS Z Z Z (LOp.pickT Z Z Z) (zM Z (zU Z Z Z Z Z Z (zU Z Z Z Z Z Z (zU Z Z Z Z Z Z (zS Z Z Z (LOp.pickT Z Z Z) (zN (zT ?_)))))))))))))))
       obtain rfl := zJ hr
       exact zW 3 ⟨Z, Z, Z, Z, Z, Z, Z, trivial⟩ Z Z Z Z
      ·
       refine zo g5 hr fun hr => zV Z Z Z (gd g5 Z) Z (zD Z Z Z vt55 Z Z) (zb hr fun v6 h_v6 hr => zV Z Z Z (gd g5 Z) Z (zC Z Z Z (by kernel_rfl) (LC.pure (c64 h_v6) (.cons Conv.p .nil))) (zV Z Z Z (gd g5 Z) Z (LOp.not Z Z) (zS Z Z Z (LOp.pickF Z (gdl g5 Z) Z) (zM Z ?_))))
       refine LOps.cases 50 Z (fun g6 => ?_) (fun g6 => ?_)
       ·
        refine zi g6 hr fun hr => zU Z Z Z (gd g6 Z) Z Z (zU Z Z Z (gd g6 Z) Z Z (zU Z Z Z (gd g6 Z) Z Z (zS Z Z Z (LOp.pickT Z (gdl g6 Z) Z) (zM Z (zU Z Z Z Z Z Z (zU Z Z Z Z Z Z (zU Z Z Z Z Z Z (zS Z Z Z (LOp.pickT Z Z Z) (zN (zT ?_))))))))))
        obtain rfl := zJ hr
        exact zW 3 ⟨Z, Z, Z, Z, Z, Z, Z, trivial⟩ Z Z Z Z
       ·
        refine zo g6 hr fun hr => zV Z Z Z (gd g6 Z) Z (zA Z Z ft1071_1) (zV Z Z Z (gd g6 Z) Z (zD Z Z Z vt3 Z Z) (zV Z Z Z (gd g6 Z) Z (LOp.bin Z Z Z Z) (zS Z Z Z (LOp.pickF Z (gdl g6 Z) Z) (zM Z ?_))))
        refine LOps.cases 55 Z (fun g7 => ?_) (fun g7 => ?_)
        ·
         refine zi g7 hr fun hr => zU Z Z Z (gd g7 Z) Z Z (zU Z Z Z (gd g7 Z) Z Z (zU Z Z Z (gd g7 Z) Z Z (zS Z Z Z (LOp.pickT Z (gdl g7 Z) Z) (zN (zT ?_)))))
         obtain rfl := zJ hr
         exact zW 3 ⟨Z, Z, Z, Z, Z, Z, Z, trivial⟩ Z Z Z Z
        ·
         refine zo g7 hr fun hr => zV Z Z Z (gd g7 Z) Z (zA Z Z ft1071_1) (zV Z Z Z (gd g7 Z) Z (zD Z Z Z vt3 Z Z) (zV Z Z Z (gd g7 Z) Z (LOp.bin Z Z Z Z) (zS Z Z Z (LOp.pickF Z (gdl g7 Z) Z) (zN (zT ?_)))))
         obtain rfl := zJ hr
         exact zW 3 ⟨Z, Z, Z, Z, Z, Z, Z, trivial⟩ Z Z Z Z
 ·have hr := ho_v5
  clear hb_v5
  refine zX Z (fun g8 => ?_) (fun g8 => ?_)
  ·
   refine zi g8 hr fun hr => zQ (zR (zM Z (zM Z (zN (zT (LW.ret (thn_r ?_)))))))
   obtain rfl := zJ hr
   refine finP_ret (.one (.tmp Z)) ?_
   exact Conv.p
  ·
   refine zo g8 hr fun hr => LW.skip (zT (zQ (zR (zS Z Z Z (zD Z Z Z vt55 Z Z) (zS Z Z Z (zD Z Z Z vt1071 Z Z) (zS Z Z Z (zD Z Z Z vt75 Z Z) (zM Z (zb hr fun v7 h_v7 hr => zS Z Z Z (zC Z Z Z (by kernel_rfl) (LC.pure (c3018 h_v7) (.cons Conv.p (.cons Conv.p (.cons Conv.p (.cons Conv.p .nil)))))) (zM Z (zS Z Z Z (LOp.extract Z Z Z) (zS Z Z Z (LOp.extract Z Z Z) (zS Z Z Z (LOp.alloc Z zt1071 Z Z) (zS Z Z Z (LOp.store Z Z Z Z vt1071 Z Z Z Z) (zM Z (zN (zT (zQ (zR (zS Z Z Z (zA Z Z ft1071_1) (zS Z Z Z (zD Z Z Z vt3 Z Z) (zS Z Z Z (LOp.quo Z Z Z (by decide)) ?_)))))))))))))))))))))
   refine zM Z (zN (zT (zQ (zR (zS Z Z Z (zD Z Z Z vt55 Z Z) (zM Z (zb hr fun v8 h_v8 hr => zS Z Z Z (zC Z Z Z (by kernel_rfl) (LC.pure (c63 h_v8) (.cons Conv.p (.cons Conv.p .nil)))) (zM Z (zN (zT (zQ (zR (zS Z Z Z (zA Z Z ft1071_2) (zS Z Z Z (zD Z Z Z vt75 Z Z) (zS Z Z Z (zA Z Z ft1071_2) (zS Z Z Z (zD Z Z Z vt75 Z Z) (zb hr fun v9 h_v9 hr => zS Z Z Z (zC Z Z Z (by kernel_rfl) (LC.pure (c86 h_v9) (.cons Conv.p (.cons Conv.p .nil)))) (zM Z (zN (zT (zQ ?_)))))))))))))))))))))
   obtain ⟨v10, hb_v10, ho_v10⟩ := zB hr
   clear hr
   refine LW.cut (E := [(3, .p (.slice 9 (o.map ofP))), (4, .ptr 0 0), (5, .ptr 1 0), (8, .p (.bool false)), (14, .p (.slice 9 (v7.2.map ofP))), (15, .p (.int .i64 (IntKind.i64.wrap (n.Tick.tdiv 3)))), (16, .p (.int .i64 v8)), (17, .p (.bool v9)), (89, .p (.bool v10))]) (O := [.box [.p (.slice 1 (c.W.map i64P)), .p (.int .u64 c.Seed), .p (.int .i64 c.Epoch), .p (.int .i64 c.Num), .p (.int .i64 c.Den)], .box [.p (.int .i64 n.No), .p (.int .i64 n.Tick), .p (.slice 5 (n.V.B.map blkP)), .p (.slice 4 (n.V.V.map vtP)), .p (.slice 5 (n.In.B.map blkP)), .p (.slice 4 (n.In.V.map vtP)), .p (.slice 9 (n.O.map ofP)), .p (.int .u64 n.C.ID.1), .p (.int .u64 n.C.ID.2), .p (.int .i64 n.C.Slot), .p (.int .i64 n.C.Revoked), .p (.bool n.Full)], .box [.p (.slice 5 (v_in.B.map blkP)), .p (.slice 4 (v_in.V.map vtP))], .box [.p (.int .i64 v7.1.No), .p (.int .i64 v7.1.Tick), .p (.slice 5 (v7.1.V.B.map blkP)), .p (.slice 4 (v7.1.V.V.map vtP)), .p (.slice 5 (v7.1.In.B.map blkP)), .p (.slice 4 (v7.1.In.V.map vtP)), .p (.slice 9 (v7.1.O.map ofP)), .p (.int .u64 v7.1.C.ID.1), .p (.int .u64 v7.1.C.ID.2), .p (.int .i64 v7.1.C.Slot), .p (.int .i64 v7.1.C.Revoked), .p (.bool v7.1.Full)]]) ?_ ?_
   ·have hr := hb_v10
    refine zR (zS Z Z Z (zA Z Z ft1071_1) (zS Z Z Z (zD Z Z Z vt3 Z Z) (zS Z Z Z (LOp.rem Z Z Z (by decide)) (zS Z Z Z (LOp.bin Z Z Z Z) (zM Z ?_)))))
    refine LOps.cases 84 Z (fun g9 => ?_) (fun g9 => ?_)
    ·
     refine zi g9 hr fun hr => zU Z Z Z (gd g9 Z) Z Z (zU Z Z Z (gd g9 Z) Z Z (zU Z Z Z (gd g9 Z) Z Z (zU Z Z Z (gd g9 Z) Z Z (zS Z Z Z (LOp.pickT Z (gdl g9 Z) Z) (zN (zT ?_))))))
     obtain rfl := zJ hr
     exact zW 4 ⟨Z, Z, Z, Z, Z, Z, Z, Z, Z, trivial⟩ Z Z Z Z
    ·
     refine zo g9 hr fun hr => zV Z Z Z (gd g9 Z) Z (zA Z Z ft1071_0) (zV Z Z Z (gd g9 Z) Z (zD Z Z Z vt3 Z Z) (zV Z Z Z (gd g9 Z) Z (LOp.move Z Z) (zV Z Z Z (gd g9 Z) Z (LOp.bin Z Z Z Z) (zS Z Z Z (LOp.pickF Z (gdl g9 Z) Z) (zN (zT ?_))))))
     obtain rfl := zJ hr
     exact zW 4 ⟨Z, Z, Z, Z, Z, Z, Z, Z, Z, trivial⟩ Z Z Z Z
   ·have hr := ho_v10
    clear hb_v10
    refine zX Z (fun g10 => ?_) (fun g10 => ?_)
    ·
     have hr := zI g10 hr
     obtain ⟨b_v11, hb_v11, ho_v11⟩ := zB hr
     clear hr
     refine LW.cutB (b := b_v11) (E := fun v11 => [(3, .p (.slice 9 (o.map ofP))), (4, .ptr 0 0), (5, .ptr 1 0), (8, .p (.bool false)), (14, .p (.slice 9 (v7.2.map ofP))), (15, .p (.int .i64 (IntKind.i64.wrap (n.Tick.tdiv 3)))), (16, .p (.int .i64 v8)), (17, .p (.bool v9))]) (O := fun v11 => [.box [.p (.slice 1 (c.W.map i64P)), .p (.int .u64 c.Seed), .p (.int .i64 c.Epoch), .p (.int .i64 c.Num), .p (.int .i64 c.Den)], .box [.p (.int .i64 n.No), .p (.int .i64 n.Tick), .p (.slice 5 (n.V.B.map blkP)), .p (.slice 4 (n.V.V.map vtP)), .p (.slice 5 (n.In.B.map blkP)), .p (.slice 4 (n.In.V.map vtP)), .p (.slice 9 (n.O.map ofP)), .p (.int .u64 n.C.ID.1), .p (.int .u64 n.C.ID.2), .p (.int .i64 n.C.Slot), .p (.int .i64 n.C.Revoked), .p (.bool n.Full)], .box [.p (.slice 5 (v_in.B.map blkP)), .p (.slice 4 (v_in.V.map vtP))], .box [.p (.int .i64 v7.1.No), .p (.int .i64 v7.1.Tick), .p (.slice 5 (v7.1.V.B.map blkP)), .p (.slice 4 (v7.1.V.V.map vtP)), .p (.slice 5 (v7.1.In.B.map blkP)), .p (.slice 4 (v7.1.In.V.map vtP)), .p (.slice 9 (v7.1.O.map ofP)), .p (.int .u64 v7.1.C.ID.1), .p (.int .u64 v7.1.C.ID.2), .p (.int .i64 v7.1.C.Slot), .p (.int .i64 v7.1.C.Revoked), .p (.bool v7.1.Full)]]) ?_ (fun v11 e_v11 => ?_)
     ·have hr := hb_v11
      refine zQ (zR (zM Z (zS Z Z Z (LOp.lenM Z Z (by kernel_rfl)) (zS Z Z Z (LOp.bin Z Z Z Z) (zM Z ?_)))))
      refine LOps.cases 93 Z (fun g11 => ?_) (fun g11 => ?_)
      ·
       refine zi g11 hr fun hr => zU Z Z Z (gd g11 Z) Z Z (zU Z Z Z (gd g11 Z) Z Z (zU Z Z Z (gd g11 Z) Z Z (zU Z Z Z (gd g11 Z) Z Z (zU Z Z Z (gd g11 Z) Z Z (zY Z Z Z Z Z (zY Z Z Z Z Z (zU Z Z Z (gd g11 Z) Z Z (zS Z Z Z (LOp.pickT Z (gdl g11 Z) Z) (zN (zT (LW.condT Z (zQ (zR (zM Z (zN (zT (LW.ret (thn_r (thn_r ?_)))))))))))))))))))
       obtain rfl := zJ hr
       have hr := sum_r ho_v11
       obtain rfl := zJ hr
       refine finP_ret (.one (.tmp Z)) ?_
       exact Conv.p
      ·
       refine zo g11 hr fun hr => zV Z Z Z (gd g11 Z) Z (zA Z Z ft1071_1) (zV Z Z Z (gd g11 Z) Z (zD Z Z Z vt3 Z Z) (zV Z Z Z (gd g11 Z) Z (LOp.rem Z Z Z (by decide)) (zV Z Z Z (gd g11 Z) Z (LOp.bin Z Z Z Z) (zV Z Z Z (gd g11 Z) Z (LOp.move Z Z) ?_))))
       refine LOps.cases 98 Z (fun g12 => ?_) (fun g12 => ?_)
       ·
        refine zi g12 hr fun hr => zV Z Z Z (gd g12 Z) Z (LOp.move Z Z) (zV Z Z Z (gd g12 Z) Z (LOp.not Z Z) (zV Z Z Z (gd g11 Z) Z (LOp.pickT Z (gdl g12 Z) Z) (zS Z Z Z (LOp.pickF Z (gdl g11 Z) Z) (zN (zT ?_)))))
        refine zX Z (fun g13 => ?_) (fun g13 => ?_)
        ·
         refine zi g13 hr fun hr => zQ (zR (zM Z (zN (zT (LW.ret (thn_r (thn_r ?_)))))))
         obtain rfl := zJ hr
         have hr := sum_r ho_v11
         obtain rfl := zJ hr
         refine finP_ret (.one (.tmp Z)) ?_
         exact Conv.p
        ·
         refine zo g13 hr fun hr => LW.skip (zT ?_)
         obtain rfl := zJ hr
         exact ⟨_, rfl, zW 4 ⟨rfl, rfl, rfl, rfl, rfl, rfl, rfl, rfl, trivial⟩ Z Z Z rfl⟩
       ·
        refine zo g12 hr fun hr => zU Z Z Z (gd g12 Z) Z Z (zU Z Z Z (gd g12 Z) Z Z (zV Z Z Z (gd g11 Z) Z (LOp.pickF Z (gdl g12 Z) Z) (zS Z Z Z (LOp.pickF Z (gdl g11 Z) Z) (zN (zT (LW.condF Z (LW.skip (zT ?_))))))))
        obtain rfl := zJ hr
        exact ⟨_, rfl, zW 4 ⟨rfl, rfl, rfl, rfl, rfl, rfl, rfl, rfl, trivial⟩ Z Z Z rfl⟩
     ·obtain rfl := e_v11
      have hr := sum_l ho_v11
      clear hb_v11
      obtain ⟨v12, hb_v12, ho_v12⟩ := zB hr
      clear hr
      refine LW.cut (E := [(4, .ptr 0 0), (5, .ptr 1 0), (8, .p (.bool v12)), (14, .p (.slice 9 (v7.2.map ofP))), (15, .p (.int .i64 (IntKind.i64.wrap (n.Tick.tdiv 3)))), (16, .p (.int .i64 v8))]) (O := [.box [.p (.slice 1 (c.W.map i64P)), .p (.int .u64 c.Seed), .p (.int .i64 c.Epoch), .p (.int .i64 c.Num), .p (.int .i64 c.Den)], .box [.p (.int .i64 n.No), .p (.int .i64 n.Tick), .p (.slice 5 (n.V.B.map blkP)), .p (.slice 4 (n.V.V.map vtP)), .p (.slice 5 (n.In.B.map blkP)), .p (.slice 4 (n.In.V.map vtP)), .p (.slice 9 (n.O.map ofP)), .p (.int .u64 n.C.ID.1), .p (.int .u64 n.C.ID.2), .p (.int .i64 n.C.Slot), .p (.int .i64 n.C.Revoked), .p (.bool n.Full)], .box [.p (.slice 5 (v_in.B.map blkP)), .p (.slice 4 (v_in.V.map vtP))], .box [.p (.int .i64 v7.1.No), .p (.int .i64 v7.1.Tick), .p (.slice 5 (v7.1.V.B.map blkP)), .p (.slice 4 (v7.1.V.V.map vtP)), .p (.slice 5 (v7.1.In.B.map blkP)), .p (.slice 4 (v7.1.In.V.map vtP)), .p (.slice 9 (v7.1.O.map ofP)), .p (.int .u64 v7.1.C.ID.1), .p (.int .u64 v7.1.C.ID.2), .p (.int .i64 v7.1.C.Slot), .p (.int .i64 v7.1.C.Revoked), .p (.bool v7.1.Full)]]) ?_ ?_
      ·have hr := hb_v12
       refine zR (zS Z Z Z (zA Z Z ft1071_1) (zS Z Z Z (zD Z Z Z vt3 Z Z) (zS Z Z Z (LOp.rem Z Z Z (by decide)) (zS Z Z Z (LOp.bin Z Z Z Z) (zM Z ?_)))))
       refine LOps.cases 107 Z (fun g14 => ?_) (fun g14 => ?_)
       ·
        refine zi g14 hr fun hr => zU Z Z Z (gd g14 Z) Z Z (zU Z Z Z (gd g14 Z) Z Z (zU Z Z Z (gd g14 Z) Z Z (zU Z Z Z (gd g14 Z) Z Z (zU Z Z Z (gd g14 Z) Z Z (zU Z Z Z (gd g14 Z) Z Z (zU Z Z Z (gd g14 Z) Z Z (zS Z Z Z (LOp.pickT Z (gdl g14 Z) Z) (zM Z (zU Z Z Z Z Z Z (zS Z Z Z (LOp.pickT Z Z Z) (zM Z (zN (zT ?_)))))))))))))
        obtain rfl := zJ hr
        exact zW 4 ⟨Z, Z, Z, Z, Z, Z, trivial⟩ Z Z Z Z
       ·
        refine zo g14 hr fun hr => zV Z Z Z (gd g14 Z) Z (zA Z Z ft1071_4) (zV Z Z Z (gd g14 Z) Z (zD Z Z Z vt1036 Z Z) (zV Z Z Z (gd g14 Z) Z (LOp.lenM Z Z (by kernel_rfl)) (zV Z Z Z (gd g14 Z) Z (LOp.move Z Z) (zV Z Z Z (gd g14 Z) Z (LOp.lenM Z Z (by kernel_rfl)) (zV Z Z Z (gd g14 Z) Z (LOp.bin Z Z Z Z) (zV Z Z Z (gd g14 Z) Z (LOp.bin Z Z Z Z) (zS Z Z Z (LOp.pickF Z (gdl g14 Z) Z) (zM Z ?_))))))))
        refine LOps.cases 116 Z (fun g15 => ?_) (fun g15 => ?_)
        ·
         refine zi g15 hr fun hr => zU Z Z Z (gd g15 Z) Z Z (zS Z Z Z (LOp.pickT Z (gdl g15 Z) Z) (zM Z (zN (zT ?_))))
         obtain rfl := zJ hr
         exact zW 4 ⟨Z, Z, Z, Z, Z, Z, trivial⟩ Z Z Z Z
        ·
         refine zo g15 hr fun hr => zV Z Z Z (gd g15 Z) Z (LOp.move Z Z) (zS Z Z Z (LOp.pickF Z (gdl g15 Z) Z) (zM Z (zN (zT ?_))))
         obtain rfl := zJ hr
         exact zW 4 ⟨Z, Z, Z, Z, Z, Z, trivial⟩ Z Z Z Z
      ·have hr := ho_v12
       clear hb_v12
       refine LW.ret (thn_r ?_)
       obtain rfl := zJ hr
       refine finP_ret (.one (.tmp Z)) ?_
       exact Conv.p
    ·
     refine zo g10 hr fun hr => LW.skip (zT (zQ (LW.draw (by kernel_rfl) (by kernel_rfl) (zH Z (zE Z Z Z (LOp.lenM Z Z (by kernel_rfl)) (zE Z Z Z (LOp.bin Z Z Z Z) (zH Z ?_)))))))
     refine LO.cases 122 Z (fun (g16 : ((v7.2.length : Int) == 1) = true) => ?_) (fun (g16 : ((v7.2.length : Int) == 1) = false) => ?_)
     ·
      refine zi g16 hr fun hr => LO.gd Z Z Z (gd g16 Z) Z (LOp.move Z Z) (zb hr fun y1 h_y1 hr => LO.gd Z Z Z (gd g16 Z) Z (LOp.indexAddrX Z Z Z st1036 h_y1 Z) (LO.gd Z Z Z (gd g16 Z) Z (LOp.fieldAddrC Z Z ft1077_0 Z) (LO.gd Z Z Z (gd g16 Z) Z (LOp.loadC Z Z Z vt3 Z Z) (LO.gd Z Z Z (gd g16 Z) Z (LOp.move Z Z) (LO.gd Z Z Z (gd g16 Z) Z (LOp.bin Z Z Z Z) (zE Z Z Z (LOp.pickT Z (gdl g16 Z) Z) (zH Z ?_)))))))
      refine LO.cases 130 Z (fun (g17 : (y1.Slot == (IntKind.i64.wrap (n.Tick.tdiv 3))) = true) => ?_) (fun (g17 : (y1.Slot == (IntKind.i64.wrap (n.Tick.tdiv 3))) = false) => ?_)
      ·
       refine zi g17 hr fun hr => LO.gd Z Z Z (gd g17 Z) Z (LOp.move Z Z) (zb hr fun y2 h_y2 hr => LO.gd Z Z Z (gd g17 Z) Z (LOp.indexAddrX Z Z Z st1036 h_y2 Z) (LO.gd Z Z Z (gd g17 Z) Z (LOp.fieldAddrC Z Z ft1077_1 Z) (LO.gd Z Z Z (gd g17 Z) Z (LOp.loadC Z Z Z vt3 Z Z) (LO.gd Z Z Z (gd g17 Z) Z (LOp.move Z Z) (LO.gd Z Z Z (gd g17 Z) Z (LOp.bin Z Z Z Z) (zE Z Z Z (LOp.pickT Z (gdl g17 Z) Z) (zH Z ?_)))))))
       refine LO.cases 138 Z (fun (g18 : (y2.From == v8) = true) => ?_) (fun (g18 : (y2.From == v8) = false) => ?_)
       ·
        refine zi g18 hr fun hr => LO.gd Z Z Z (gd g18 Z) Z (LOp.move Z Z) (zb hr fun y3 h_y3 hr => LO.gd Z Z Z (gd g18 Z) Z (LOp.indexAddrX Z Z Z st1036 h_y3 Z) (LO.gd Z Z Z (gd g18 Z) Z (LOp.fieldAddrC Z Z ft1077_2 Z) (LO.gd Z Z Z (gd g18 Z) Z (LOp.fieldAddrC Z Z ft42_0 Z) (LO.gd Z Z Z (gd g18 Z) Z (LOp.loadC Z Z Z vt3 Z Z) (LO.gd Z Z Z (gd g18 Z) Z (LOp.move Z Z) (LO.gd Z Z Z (gd g18 Z) Z (LOp.bin Z Z Z Z) (zE Z Z Z (LOp.pickT Z (gdl g18 Z) Z) (zH Z ?_))))))))
        refine LO.cases 147 Z (fun (g19 : (y3.B.Slot == (IntKind.i64.wrap (n.Tick.tdiv 3))) = true) => ?_) (fun (g19 : (y3.B.Slot == (IntKind.i64.wrap (n.Tick.tdiv 3))) = false) => ?_)
        ·
         refine zi g19 hr fun hr => LO.gd Z Z Z (gd g19 Z) Z (LOp.move Z Z) (zb hr fun y4 h_y4 hr => LO.gd Z Z Z (gd g19 Z) Z (LOp.indexAddrX Z Z Z st1036 h_y4 Z) (LO.gd Z Z Z (gd g19 Z) Z (LOp.fieldAddrC Z Z ft1077_2 Z) (LO.gd Z Z Z (gd g19 Z) Z (LOp.fieldAddrC Z Z ft42_1 Z) (LO.gd Z Z Z (gd g19 Z) Z (LOp.loadC Z Z Z vt3 Z Z) (LO.gd Z Z Z (gd g19 Z) Z (LOp.move Z Z) (LO.gd Z Z Z (gd g19 Z) Z (LOp.bin Z Z Z Z) (zE Z Z Z (LOp.pickT Z (gdl g19 Z) Z) (zH Z ?_))))))))
         refine LO.cases 156 Z (fun (g20 : (y4.B.From == v8) = true) => ?_) (fun (g20 : (y4.B.From == v8) = false) => ?_)
         ·
          refine zi g20 hr fun hr => LO.gd Z Z Z (gd g20 Z) Z (LOp.move Z Z) (zb hr fun y5 h_y5 hr => LO.gd Z Z Z (gd g20 Z) Z (LOp.indexAddrX Z Z Z st1036 h_y5 Z) (LO.gd Z Z Z (gd g20 Z) Z (LOp.fieldAddrC Z Z ft1077_2 Z) (LO.gd Z Z Z (gd g20 Z) Z (LOp.fieldAddrC Z Z ft42_3 Z) (LO.gd Z Z Z (gd g20 Z) Z (LOp.loadC Z Z Z vt22 Z Z) (LO.gd Z Z Z (gd g20 Z) Z (LOp.bin Z Z Z Z) (zE Z Z Z (LOp.pickT Z (gdl g20 Z) Z) (zH Z ?_)))))))
          refine LO.cases 164 Z (fun (g21 : (y5.B.Salt == 0) = true) => ?_) (fun (g21 : (y5.B.Salt == 0) = false) => ?_)
          ·
           refine zi g21 hr fun hr => LO.gd Z Z Z (gd g21 Z) Z (zD Z Z Z vt55 Z Z) (LO.gd Z Z Z (gd g21 Z) Z (zA Z Z ft1071_2) (LO.gd Z Z Z (gd g21 Z) Z (zD Z Z Z vt75 Z Z) (zb hr fun v13 h_v13 hr => LO.gd Z Z Z (gd g21 Z) Z (zC Z Z Z (by kernel_rfl) (LC.pure (c89 h_v13) (.cons Conv.p (.cons Conv.p .nil)))) (LO.gd Z Z Z (gd g21 Z) Z (LOp.not Z Z) (LO.gd Z Z Z (gd g21 Z) Z (LOp.move Z Z) ?_)))))
           refine LO.cases 170 Z (fun (g22 : (!v13) = true) => ?_) (fun (g22 : (!v13) = false) => ?_)
           ·
            refine zi g22 hr fun hr => LO.sk Z Z Z (gd g22 Z) Z Z (LO.sk Z Z Z (gd g22 Z) Z Z (LO.sk Z Z Z (gd g22 Z) Z Z (LO.sk Z Z Z (gd g22 Z) Z Z (LO.sk Z Z Z (gd g22 Z) Z Z (LO.sk Z Z Z (gd g22 Z) Z Z (LO.sk Z Z Z (gd g22 Z) Z Z (LO.sku Z Z Z Z Z (LO.sku Z Z Z Z Z (LO.sku Z Z Z Z Z (LO.sku Z Z Z Z Z (LO.sku Z Z Z Z Z (LO.sku Z Z Z Z Z (LO.sku Z Z Z Z Z (LO.sku Z Z Z Z Z (LO.sku Z Z Z Z Z (LO.sku Z Z Z Z Z (LO.sku Z Z Z Z Z (LO.sku Z Z Z Z Z (LO.sku Z Z Z Z Z (LO.sk Z Z Z (gd g22 Z) Z Z (LO.gd Z Z Z (gd g21 Z) Z (LOp.pickT Z (gdl g22 Z) Z) (zE Z Z Z (LOp.pickT Z (gdl g21 Z) Z) ?_))))))))))))))))))))))
            refine zH Z (LO.nil (zT (LW.ret ?_)))
            obtain rfl := zJ hr
            refine finP_ret (.one (.tmp Z)) ?_
            exact Conv.p
           ·
            refine zo g22 hr fun hr => LO.gd Z Z Z (gd g22 Z) Z (zD Z Z Z vt55 Z Z) (LO.gd Z Z Z (gd g22 Z) Z (LOp.move Z Z) (zb hr fun y6 h_y6 hr => LO.gd Z Z Z (gd g22 Z) Z (LOp.indexAddrX Z Z Z st1036 h_y6 Z) (LO.gd Z Z Z (gd g22 Z) Z (LOp.fieldAddrC Z Z ft1077_3 Z) (LO.gd Z Z Z (gd g22 Z) Z (LOp.loadC Z Z Z vt75 Z Z) (zb hr fun v14 h_v14 hr => LO.gd Z Z Z (gd g22 Z) Z (zC Z Z Z (by kernel_rfl) (LC.pure (c89 h_v14) (.cons Conv.p (.cons Conv.p .nil)))) (LO.gd Z Z Z (gd g22 Z) Z (LOp.move Z Z) ?_))))))
            refine LO.cases 177 Z (fun (g23 : v14 = true) => ?_) (fun (g23 : v14 = false) => ?_)
            ·
             refine zi g23 hr fun hr => LO.gd Z Z Z (gd g23 Z) Z (LOp.move Z Z) (zb hr fun y7 h_y7 hr => LO.gd Z Z Z (gd g23 Z) Z (LOp.indexAddrX Z Z Z st1036 h_y7 Z) (LO.gd Z Z Z (gd g23 Z) Z (LOp.fieldAddrC Z Z ft1077_3 Z) (LO.gd Z Z Z (gd g23 Z) Z (LOp.fieldAddrC Z Z ft75_0 Z) (LO.gd Z Z Z (gd g23 Z) Z (LOp.loadC Z Z Z vt27 Z Z) (LO.gd Z Z Z (gd g23 Z) Z (LOp.move Z Z) (zb hr fun y8 h_y8 hr => LO.gd Z Z Z (gd g23 Z) Z (LOp.indexAddrX Z Z Z st1036 h_y8 Z) (LO.gd Z Z Z (gd g23 Z) Z (LOp.fieldAddrC Z Z ft1077_2 Z) (LO.gd Z Z Z (gd g23 Z) Z (LOp.fieldAddrC Z Z ft42_2 Z) (LO.gd Z Z Z (gd g23 Z) Z (LOp.loadC Z Z Z vt24 Z Z) (zg hr fun q1 hr => LO.gd Z Z Z (gd g23 Z) Z (zC Z Z Z (by kernel_rfl) (LC.pure (c39 (l := y7.V.B) (id := y8.B.Parent) (few_le q1)) (.cons Conv.p (.cons Conv.p .nil)))) (LO.gd Z Z Z (gd g23 Z) Z (LOp.lenM Z Z (by kernel_rfl)) (LO.gd Z Z Z (gd g23 Z) Z (LOp.bin Z Z Z Z) (LO.gd Z Z Z (gd g22 Z) Z (LOp.pickT Z (gdl g23 Z) Z) (LO.gd Z Z Z (gd g21 Z) Z (LOp.pickF Z (gdl g22 Z) Z) (zE Z Z Z (LOp.pickT Z (gdl g21 Z) Z) (zH Z (LO.nil (zT (LW.ret ?_)))))))))))))))))))
             obtain rfl := zJ hr
             refine finP_ret (.one (.tmp Z)) ?_
             exact Conv.p
            ·
             refine zo g23 hr fun hr => LO.sk Z Z Z (gd g23 Z) Z Z (LO.sk Z Z Z (gd g23 Z) Z Z (LO.sk Z Z Z (gd g23 Z) Z Z (LO.sk Z Z Z (gd g23 Z) Z Z (LO.sk Z Z Z (gd g23 Z) Z Z (LO.sk Z Z Z (gd g23 Z) Z Z (LO.sk Z Z Z (gd g23 Z) Z Z (LO.sk Z Z Z (gd g23 Z) Z Z (LO.sk Z Z Z (gd g23 Z) Z Z (LO.sk Z Z Z (gd g23 Z) Z Z (LO.sk Z Z Z (gd g23 Z) Z Z (LO.sk Z Z Z (gd g23 Z) Z Z (LO.sk Z Z Z (gd g23 Z) Z Z (LO.gd Z Z Z (gd g22 Z) Z (LOp.pickF Z (gdl g23 Z) Z) (LO.gd Z Z Z (gd g21 Z) Z (LOp.pickF Z (gdl g22 Z) Z) (zE Z Z Z (LOp.pickT Z (gdl g21 Z) Z) (zH Z (LO.nil (zT (LW.ret ?_)))))))))))))))))))
             obtain rfl := zJ hr
             refine finP_ret (.one (.tmp Z)) ?_
             exact Conv.p
          ·
           refine zo g21 hr fun hr => LO.sk Z Z Z (gd g21 Z) Z Z (LO.sk Z Z Z (gd g21 Z) Z Z (LO.sk Z Z Z (gd g21 Z) Z Z (LO.sk Z Z Z (gd g21 Z) Z Z (LO.sk Z Z Z (gd g21 Z) Z Z (LO.sk Z Z Z (gd g21 Z) Z Z (LO.sku Z Z Z Z Z (LO.sku Z Z Z Z Z (LO.sku Z Z Z Z Z (LO.sku Z Z Z Z Z (LO.sku Z Z Z Z Z (LO.sku Z Z Z Z Z (LO.sku Z Z Z Z Z (LO.sku Z Z Z Z Z (LO.sku Z Z Z Z Z (LO.sku Z Z Z Z Z (LO.sku Z Z Z Z Z (LO.sku Z Z Z Z Z (LO.sku Z Z Z Z Z (LO.sku Z Z Z Z Z (LO.sku Z Z Z Z Z (LO.sku Z Z Z Z Z (LO.sku Z Z Z Z Z ?_))))))))))))))))))))))
           refine LO.sku Z Z Z Z Z (LO.sku Z Z Z Z Z (LO.sku Z Z Z Z Z (LO.sku Z Z Z Z Z (LO.sk Z Z Z (gd g21 Z) Z Z (zE Z Z Z (LOp.pickF Z (gdl g21 Z) Z) (zH Z (LO.nil (zT (LW.ret ?_)))))))))
           obtain rfl := zJ hr
           refine finP_ret (.one (.tmp Z)) ?_
           exact Conv.p
         ·
          refine zo g20 hr fun hr => LO.sk Z Z Z (gd g20 Z) Z Z (LO.sk Z Z Z (gd g20 Z) Z Z (LO.sk Z Z Z (gd g20 Z) Z Z (LO.sk Z Z Z (gd g20 Z) Z Z (LO.sk Z Z Z (gd g20 Z) Z Z (LO.sk Z Z Z (gd g20 Z) Z Z (zE Z Z Z (LOp.pickF Z (gdl g20 Z) Z) (zH Z (LO.sk Z Z Z Z Z Z (LO.sk Z Z Z Z Z Z (LO.sk Z Z Z Z Z Z (LO.sk Z Z Z Z Z Z (LO.sk Z Z Z Z Z Z (LO.sk Z Z Z Z Z Z (LO.sku Z Z Z Z Z (LO.sku Z Z Z Z Z (LO.sku Z Z Z Z Z (LO.sku Z Z Z Z Z (LO.sku Z Z Z Z Z (LO.sku Z Z Z Z Z (LO.sku Z Z Z Z Z (LO.sku Z Z Z Z Z (LO.sku Z Z Z Z Z ?_))))))))))))))))))))))
          refine LO.sku Z Z Z Z Z (LO.sku Z Z Z Z Z (LO.sku Z Z Z Z Z (LO.sku Z Z Z Z Z (LO.sku Z Z Z Z Z (LO.sku Z Z Z Z Z (LO.sku Z Z Z Z Z (LO.sku Z Z Z Z Z (LO.sku Z Z Z Z Z (LO.sku Z Z Z Z Z (LO.sku Z Z Z Z Z (LO.sku Z Z Z Z Z (LO.sk Z Z Z Z Z Z (zE Z Z Z (LOp.pickF Z Z Z) (zH Z (LO.nil (zT (LW.ret ?_)))))))))))))))))
          obtain rfl := zJ hr
          refine finP_ret (.one (.tmp Z)) ?_
          exact Conv.p
        ·
         refine zo g19 hr fun hr => LO.sk Z Z Z (gd g19 Z) Z Z (LO.sk Z Z Z (gd g19 Z) Z Z (LO.sk Z Z Z (gd g19 Z) Z Z (LO.sk Z Z Z (gd g19 Z) Z Z (LO.sk Z Z Z (gd g19 Z) Z Z (LO.sk Z Z Z (gd g19 Z) Z Z (LO.sk Z Z Z (gd g19 Z) Z Z (zE Z Z Z (LOp.pickF Z (gdl g19 Z) Z) (zH Z (LO.sk Z Z Z Z Z Z (LO.sk Z Z Z Z Z Z (LO.sk Z Z Z Z Z Z (LO.sk Z Z Z Z Z Z (LO.sk Z Z Z Z Z Z (LO.sk Z Z Z Z Z Z (zE Z Z Z (LOp.pickF Z Z Z) (zH Z (LO.sk Z Z Z Z Z Z (LO.sk Z Z Z Z Z Z (LO.sk Z Z Z Z Z Z (LO.sk Z Z Z Z Z Z (LO.sk Z Z Z Z Z Z (LO.sk Z Z Z Z Z Z ?_))))))))))))))))))))))
         refine LO.sku Z Z Z Z Z (LO.sku Z Z Z Z Z (LO.sku Z Z Z Z Z (LO.sku Z Z Z Z Z (LO.sku Z Z Z Z Z (LO.sku Z Z Z Z Z (LO.sku Z Z Z Z Z (LO.sku Z Z Z Z Z (LO.sku Z Z Z Z Z (LO.sku Z Z Z Z Z (LO.sku Z Z Z Z Z (LO.sku Z Z Z Z Z (LO.sku Z Z Z Z Z (LO.sku Z Z Z Z Z (LO.sku Z Z Z Z Z (LO.sku Z Z Z Z Z (LO.sku Z Z Z Z Z (LO.sku Z Z Z Z Z (LO.sku Z Z Z Z Z (LO.sku Z Z Z Z Z (LO.sku Z Z Z Z Z (LO.sk Z Z Z Z Z Z (zE Z Z Z (LOp.pickF Z Z Z) (zH Z ?_)))))))))))))))))))))))
         refine LO.nil (zT (LW.ret ?_))
         obtain rfl := zJ hr
         refine finP_ret (.one (.tmp Z)) ?_
         exact Conv.p
       ·
        refine zo g18 hr fun hr => LO.sk Z Z Z (gd g18 Z) Z Z (LO.sk Z Z Z (gd g18 Z) Z Z (LO.sk Z Z Z (gd g18 Z) Z Z (LO.sk Z Z Z (gd g18 Z) Z Z (LO.sk Z Z Z (gd g18 Z) Z Z (LO.sk Z Z Z (gd g18 Z) Z Z (LO.sk Z Z Z (gd g18 Z) Z Z (zE Z Z Z (LOp.pickF Z (gdl g18 Z) Z) (zH Z (LO.sk Z Z Z Z Z Z (LO.sk Z Z Z Z Z Z (LO.sk Z Z Z Z Z Z (LO.sk Z Z Z Z Z Z (LO.sk Z Z Z Z Z Z (LO.sk Z Z Z Z Z Z (LO.sk Z Z Z Z Z Z (zE Z Z Z (LOp.pickF Z Z Z) (zH Z (LO.sk Z Z Z Z Z Z (LO.sk Z Z Z Z Z Z (LO.sk Z Z Z Z Z Z (LO.sk Z Z Z Z Z Z (LO.sk Z Z Z Z Z Z ?_))))))))))))))))))))))
        refine LO.sk Z Z Z Z Z Z (zE Z Z Z (LOp.pickF Z Z Z) (zH Z (LO.sk Z Z Z Z Z Z (LO.sk Z Z Z Z Z Z (LO.sk Z Z Z Z Z Z (LO.sk Z Z Z Z Z Z (LO.sk Z Z Z Z Z Z (LO.sk Z Z Z Z Z Z (LO.sku Z Z Z Z Z (LO.sku Z Z Z Z Z (LO.sku Z Z Z Z Z (LO.sku Z Z Z Z Z (LO.sku Z Z Z Z Z (LO.sku Z Z Z Z Z (LO.sku Z Z Z Z Z (LO.sku Z Z Z Z Z (LO.sku Z Z Z Z Z (LO.sku Z Z Z Z Z (LO.sku Z Z Z Z Z (LO.sku Z Z Z Z Z (LO.sku Z Z Z Z Z (LO.sku Z Z Z Z Z (LO.sku Z Z Z Z Z ?_)))))))))))))))))))))))
        refine LO.sku Z Z Z Z Z (LO.sku Z Z Z Z Z (LO.sku Z Z Z Z Z (LO.sku Z Z Z Z Z (LO.sku Z Z Z Z Z (LO.sku Z Z Z Z Z (LO.sk Z Z Z Z Z Z (zE Z Z Z (LOp.pickF Z Z Z) (zH Z (LO.nil (zT (LW.ret ?_)))))))))))
        obtain rfl := zJ hr
        refine finP_ret (.one (.tmp Z)) ?_
        exact Conv.p
      ·
       refine zo g17 hr fun hr => LO.sk Z Z Z (gd g17 Z) Z Z (LO.sk Z Z Z (gd g17 Z) Z Z (LO.sk Z Z Z (gd g17 Z) Z Z (LO.sk Z Z Z (gd g17 Z) Z Z (LO.sk Z Z Z (gd g17 Z) Z Z (LO.sk Z Z Z (gd g17 Z) Z Z (zE Z Z Z (LOp.pickF Z (gdl g17 Z) Z) (zH Z (LO.sk Z Z Z Z Z Z (LO.sk Z Z Z Z Z Z (LO.sk Z Z Z Z Z Z (LO.sk Z Z Z Z Z Z (LO.sk Z Z Z Z Z Z (LO.sk Z Z Z Z Z Z (LO.sk Z Z Z Z Z Z (zE Z Z Z (LOp.pickF Z Z Z) (zH Z (LO.sk Z Z Z Z Z Z (LO.sk Z Z Z Z Z Z (LO.sk Z Z Z Z Z Z (LO.sk Z Z Z Z Z Z (LO.sk Z Z Z Z Z Z (LO.sk Z Z Z Z Z Z ?_))))))))))))))))))))))
       refine LO.sk Z Z Z Z Z Z (zE Z Z Z (LOp.pickF Z Z Z) (zH Z (LO.sk Z Z Z Z Z Z (LO.sk Z Z Z Z Z Z (LO.sk Z Z Z Z Z Z (LO.sk Z Z Z Z Z Z (LO.sk Z Z Z Z Z Z (LO.sk Z Z Z Z Z Z (zE Z Z Z (LOp.pickF Z Z Z) (zH Z (LO.sk Z Z Z Z Z Z (LO.sk Z Z Z Z Z Z (LO.sk Z Z Z Z Z Z (LO.sk Z Z Z Z Z Z (LO.sk Z Z Z Z Z Z (LO.sk Z Z Z Z Z Z (LO.sku Z Z Z Z Z (LO.sku Z Z Z Z Z (LO.sku Z Z Z Z Z (LO.sku Z Z Z Z Z (LO.sku Z Z Z Z Z (LO.sku Z Z Z Z Z (LO.sku Z Z Z Z Z ?_)))))))))))))))))))))))
       refine LO.sku Z Z Z Z Z (LO.sku Z Z Z Z Z (LO.sku Z Z Z Z Z (LO.sku Z Z Z Z Z (LO.sku Z Z Z Z Z (LO.sku Z Z Z Z Z (LO.sku Z Z Z Z Z (LO.sku Z Z Z Z Z (LO.sku Z Z Z Z Z (LO.sku Z Z Z Z Z (LO.sku Z Z Z Z Z (LO.sku Z Z Z Z Z (LO.sku Z Z Z Z Z (LO.sku Z Z Z Z Z (LO.sk Z Z Z Z Z Z (zE Z Z Z (LOp.pickF Z Z Z) (zH Z (LO.nil (zT (LW.ret ?_)))))))))))))))))))
       obtain rfl := zJ hr
       refine finP_ret (.one (.tmp Z)) ?_
       exact Conv.p
     ·
      refine zo g16 hr fun hr => LO.sk Z Z Z (gd g16 Z) Z Z (LO.sk Z Z Z (gd g16 Z) Z Z (LO.sk Z Z Z (gd g16 Z) Z Z (LO.sk Z Z Z (gd g16 Z) Z Z (LO.sk Z Z Z (gd g16 Z) Z Z (LO.sk Z Z Z (gd g16 Z) Z Z (zE Z Z Z (LOp.pickF Z (gdl g16 Z) Z) (zH Z (LO.sk Z Z Z Z Z Z (LO.sk Z Z Z Z Z Z (LO.sk Z Z Z Z Z Z (LO.sk Z Z Z Z Z Z (LO.sk Z Z Z Z Z Z (LO.sk Z Z Z Z Z Z (zE Z Z Z (LOp.pickF Z Z Z) (zH Z (LO.sk Z Z Z Z Z Z (LO.sk Z Z Z Z Z Z (LO.sk Z Z Z Z Z Z (LO.sk Z Z Z Z Z Z (LO.sk Z Z Z Z Z Z (LO.sk Z Z Z Z Z Z (LO.sk Z Z Z Z Z Z ?_))))))))))))))))))))))
      refine zE Z Z Z (LOp.pickF Z Z Z) (zH Z (LO.sk Z Z Z Z Z Z (LO.sk Z Z Z Z Z Z (LO.sk Z Z Z Z Z Z (LO.sk Z Z Z Z Z Z (LO.sk Z Z Z Z Z Z (LO.sk Z Z Z Z Z Z (LO.sk Z Z Z Z Z Z (zE Z Z Z (LOp.pickF Z Z Z) (zH Z (LO.sk Z Z Z Z Z Z (LO.sk Z Z Z Z Z Z (LO.sk Z Z Z Z Z Z (LO.sk Z Z Z Z Z Z (LO.sk Z Z Z Z Z Z (LO.sk Z Z Z Z Z Z (zE Z Z Z (LOp.pickF Z Z Z) (zH Z (LO.sk Z Z Z Z Z Z (LO.sk Z Z Z Z Z Z (LO.sk Z Z Z Z Z Z (LO.sk Z Z Z Z Z Z (LO.sk Z Z Z Z Z Z ?_)))))))))))))))))))))))
      refine LO.sk Z Z Z Z Z Z (LO.sku Z Z Z Z Z (LO.sku Z Z Z Z Z (LO.sku Z Z Z Z Z (LO.sku Z Z Z Z Z (LO.sku Z Z Z Z Z (LO.sku Z Z Z Z Z (LO.sku Z Z Z Z Z (LO.sku Z Z Z Z Z (LO.sku Z Z Z Z Z (LO.sku Z Z Z Z Z (LO.sku Z Z Z Z Z (LO.sku Z Z Z Z Z (LO.sku Z Z Z Z Z (LO.sku Z Z Z Z Z (LO.sku Z Z Z Z Z (LO.sku Z Z Z Z Z (LO.sku Z Z Z Z Z (LO.sku Z Z Z Z Z (LO.sku Z Z Z Z Z (LO.sku Z Z Z Z Z (LO.sku Z Z Z Z Z (LO.sk Z Z Z Z Z Z (zE Z Z Z (LOp.pickF Z Z Z) ?_)))))))))))))))))))))))
      refine zH Z (LO.nil (zT (LW.ret ?_)))
      obtain rfl := zJ hr
      refine finP_ret (.one (.tmp Z)) ?_
      exact Conv.p
structure F3005_L1 where
 i : Int
structure F3005_L2 where
 i : Int
theorem F3013_eq : F3013 = some true := by kernel_rfl
end Go.Mg
