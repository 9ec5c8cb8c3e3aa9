/- Laws of nodes. The example of nodes. Conditions: none. -/
import Derived.Test.YtabjakfgaodocaaGreatX3
import Derived.Test.YtabjakfgaodocaaGreatX7
import Derived.Test.YtabjakfgaodocaaGreatX8
namespace Go.Mg
open Go.Proofs
def F3013 : Option Bool :=
 (F125 ).bind fun v1 =>
 (F3043 0).bind fun v2 =>
 (F3018 v1 v2 (Vw.mk [] []) ([] : List Of)).bind fun v3 =>
 (
  bif (v3.2.length : Int) != 1 then
   some true
  else
   (ix v3.2 0).bind fun y1 =>
   bif !((y1.B.Slot == 1) && ((y1.B.From == 0) && ((y1.B.Parent.1 == 0) && ((y1.B.Parent.2 == 0) && ((y1.B.Salt == 0) && true))))) then
    some true
   else
    some ((v3.1.V.B.length : Int) != 1)
 ).bind fun v4 =>
 bif v4 then
  some false
 else
  (F3018 v1 v3.1 (Vw.mk [] []) v3.2).bind fun v5 =>
  (F3018 v1 v5.1 (Vw.mk [] []) ([] : List Of)).bind fun v6 =>
  bif (v6.1.V.V.length : Int) == 1 then
   bif ((v6.1.C.ID.1 == ((nm (Bk.mk 1 0 (0, 0) 0)).1)) && ((v6.1.C.ID.2 == ((nm (Bk.mk 1 0 (0, 0) 0)).2)) && true)) then
    bif v6.1.C.Revoked == 0 then
     (F1030 v1 v6.1).bind fun v7 =>
     bif ((v7.1 == ((nm (Bk.mk 1 0 (0, 0) 0)).1)) && ((v7.2 == ((nm (Bk.mk 1 0 (0, 0) 0)).2)) && true)) then
      some (v6.1.Tick == 6)
     else
      some false
    else
     some false
   else
    some false
  else
   some false
set_option maxRecDepth 100000 in
theorem c3013 {r_ : Bool} (hr : F3013 = some r_) : LPure Tryz.prog 13 [] [.bool r_] := by
 refine LPure.start Tryz.func13 Z Z Z Z ?_
 unfold F3013 at hr
 refine zQ (zR (zM Z (zN (zT (zQ (zR (zb hr fun v1 h_v1 hr => zS Z Z Z (zC Z Z Z (by kernel_rfl) (LC.pure (c125 h_v1) .nil)) (zS Z Z Z (LOp.alloc Z zt55 Z Z) (zS Z Z Z (LOp.store Z Z Z Z vt55 Z Z Z Z) (zN (zT (zQ (zR (zb hr fun v2 h_v2 hr => zS Z Z Z (zC Z Z Z (by kernel_rfl) (LC.pure (c3043 h_v2) (.cons Conv.p .nil))) (zS Z Z Z (LOp.alloc Z zt1071 Z Z) (zS Z Z Z (LOp.store Z Z Z Z vt1071 Z Z Z Z) (zN (zT (zQ (zR (zS Z Z Z (zD Z Z Z vt55 Z Z) ?_)))))))))))))))))))))
 refine zS Z Z Z (zD Z Z Z vt1071 Z Z) (zS Z Z Z (LOp.build Z bt75 Z Z Z) (zb hr fun v3 h_v3 hr => zS Z Z Z (zC Z Z Z (by kernel_rfl) (LC.pure (c3018 h_v3) (.cons Conv.p (.cons Conv.p (.cons (Conv.agg (.cons Conv.zs (.cons Conv.zs .nil))) (.cons Conv.zs .nil)))))) (zM Z (zS Z Z Z (LOp.extract Z Z Z) (zS Z Z Z (LOp.extract Z Z Z) (zS Z Z Z (LOp.store Z Z Z Z vt1071 Z Z Z Z) (zM Z (zN (zT (zQ (zR (zS Z Z Z (LOp.build Z bt42 Z Z Z) (zS Z Z Z (LOp.alloc Z zt42 Z Z) (zS Z Z Z (LOp.store Z Z Z Z vt42 Z Z Z Z) (zN (zT (zQ ?_)))))))))))))))))
 obtain ⟨v4, hb_v4, ho_v4⟩ := zB hr
 clear hr
 refine LW.cut (E := [(0, .p (.bool false)), (1, .ptr 0 0), (2, .ptr 1 0), (3, .p (.slice 9 (v3.2.map ofP))), (4, .ptr 2 0), (32, .p (.bool v4))]) (O := [.box [.p (.slice 1 (v1.W.map i64P)), .p (.int .u64 v1.Seed), .p (.int .i64 v1.Epoch), .p (.int .i64 v1.Num), .p (.int .i64 v1.Den)], .box [.p (.int .i64 v3.1.No), .p (.int .i64 v3.1.Tick), .p (.slice 5 (v3.1.V.B.map blkP)), .p (.slice 4 (v3.1.V.V.map vtP)), .p (.slice 5 (v3.1.In.B.map blkP)), .p (.slice 4 (v3.1.In.V.map vtP)), .p (.slice 9 (v3.1.O.map ofP)), .p (.int .u64 v3.1.C.ID.1), .p (.int .u64 v3.1.C.ID.2), .p (.int .i64 v3.1.C.Slot), .p (.int .i64 v3.1.C.Revoked), .p (.bool v3.1.Full)], .box [.p (.int .i64 1), .p (.int .i64 0), .p (.int .u64 0), .p (.int .u64 0), .p (.int .u64 0)]]) ?_ ?_
 ·have hr := hb_v4
  refine LW.draw (by kernel_rfl) (by kernel_rfl) (zH Z (zE Z Z Z (LOp.lenM Z Z (by kernel_rfl)) (zE Z Z Z (LOp.bin Z Z Z Z) (zH Z ?_))))
  refine LO.cases 18 Z (fun (g1 : ((v3.2.length : Int) != 1) = true) => ?_) (fun (g1 : ((v3.2.length : Int) != 1) = false) => ?_)
  ·
   refine zi g1 hr fun hr => LO.sk Z Z Z (gd g1 Z) Z Z (LO.sk Z Z Z (gd g1 Z) Z Z (LO.sk Z Z Z (gd g1 Z) Z Z (LO.sk Z Z Z (gd g1 Z) Z Z (LO.sk Z Z Z (gd g1 Z) Z Z (LO.sk Z Z Z (gd g1 Z) Z Z (zE Z Z Z (LOp.pickT Z (gdl g1 Z) Z) (zH Z (LO.sk Z Z Z Z Z Z (LO.sk Z Z Z Z Z Z (LO.sk Z Z Z Z Z Z (LO.sk Z Z Z Z Z Z (LO.sk Z Z Z Z Z Z (zE Z Z Z (LOp.pickT Z Z Z) (LO.nil (zT ?_)))))))))))))))
   obtain rfl := zJ hr
   exact zW 3 ⟨Z, Z, Z, Z, Z, Z, trivial⟩ Z Z Z Z
  ·
   refine zo g1 hr fun hr => LO.gd Z Z Z (gd g1 Z) Z (LOp.move Z Z) (zb hr fun y1 h_y1 hr => LO.gd Z Z Z (gd g1 Z) Z (LOp.indexAddrX Z Z Z st1036 h_y1 Z) (LO.gd Z Z Z (gd g1 Z) Z (LOp.fieldAddrC Z Z ft1077_2 Z) (LO.gd Z Z Z (gd g1 Z) Z (LOp.loadC Z Z Z vt42 Z Z) (LO.gd Z Z Z (gd g1 Z) Z (zD Z Z Z vt42 Z Z) (LO.gd Z Z Z (gd g1 Z) Z (LOp.neqAgg Z Z Z Z Z eqt42) (zE Z Z Z (LOp.pickF Z (gdl g1 Z) Z) (zH Z ?_)))))))
   refine LO.cases 26 Z (fun (g2 : (!((y1.B.Slot == 1) && ((y1.B.From == 0) && ((y1.B.Parent.1 == 0) && ((y1.B.Parent.2 == 0) && ((y1.B.Salt == 0) && true)))))) = true) => ?_) (fun (g2 : (!((y1.B.Slot == 1) && ((y1.B.From == 0) && ((y1.B.Parent.1 == 0) && ((y1.B.Parent.2 == 0) && ((y1.B.Salt == 0) && true)))))) = false) => ?_)
   ·
    refine zi g2 hr fun hr => LO.sk Z Z Z (gd g2 Z) Z Z (LO.sk Z Z Z (gd g2 Z) Z Z (LO.sk Z Z Z (gd g2 Z) Z Z (LO.sk Z Z Z (gd g2 Z) Z Z (LO.sk Z Z Z (gd g2 Z) Z Z (zE Z Z Z (LOp.pickT Z (gdl g2 Z) Z) (LO.nil (zT ?_)))))))
    obtain rfl := zJ hr
    exact zW 3 ⟨Z, Z, Z, Z, Z, Z, trivial⟩ Z Z Z Z
   ·
    refine zo g2 hr fun hr => LO.gd Z Z Z (gd g2 Z) Z (zA Z Z ft1071_2) (LO.gd Z Z Z (gd g2 Z) Z (zA Z Z ft75_0) (LO.gd Z Z Z (gd g2 Z) Z (zD Z Z Z vt27 Z Z) (LO.gd Z Z Z (gd g2 Z) Z (LOp.lenM Z Z (by kernel_rfl)) (LO.gd Z Z Z (gd g2 Z) Z (LOp.bin Z Z Z Z) (zE Z Z Z (LOp.pickF Z (gdl g2 Z) Z) (LO.nil (zT ?_)))))))
    obtain rfl := zJ hr
    exact zW 3 ⟨Z, Z, Z, Z, Z, Z, trivial⟩ Z Z Z Z
 ·have hr := ho_v4
  clear hb_v4
  refine zX Z (fun g3 => ?_) (fun g3 => ?_)
  ·
   refine zi g3 hr fun hr => zQ (zR (zM Z (zN (zT (LW.ret (thn_r ?_))))))
   obtain rfl := zJ hr
   refine finP_ret (.one (.tmp Z)) ?_
   exact Conv.p
  ·
   refine zo g3 hr fun hr => LW.skip (zT (zQ (zR (zS Z Z Z (zD Z Z Z vt55 Z Z) (zS Z Z Z (zD Z Z Z vt1071 Z Z) (zS Z Z Z (LOp.build Z bt75 Z Z Z) (zM Z (zb hr fun v5 h_v5 hr => zS Z Z Z (zC Z Z Z (by kernel_rfl) (LC.pure (c3018 h_v5) (.cons Conv.p (.cons Conv.p (.cons (Conv.agg (.cons Conv.zs (.cons Conv.zs .nil))) (.cons Conv.p .nil)))))) (zM Z (zS Z Z Z (LOp.extract Z Z Z) (zS Z Z Z (LOp.extract Z Z Z) (zS Z Z Z (LOp.store Z Z Z Z vt1071 Z Z Z Z) (zN (zT (zQ (zR (zS Z Z Z (zD Z Z Z vt55 Z Z) (zS Z Z Z (zD Z Z Z vt1071 Z Z) (zS Z Z Z (LOp.build Z bt75 Z Z Z) (zb hr fun v6 h_v6 hr => zS Z Z Z (zC Z Z Z (by kernel_rfl) (LC.pure (c3018 h_v6) (.cons Conv.p (.cons Conv.p (.cons (Conv.agg (.cons Conv.zs (.cons Conv.zs .nil))) (.cons Conv.zs .nil)))))) ?_))))))))))))))))))))
   refine zM Z (zS Z Z Z (LOp.extract Z Z Z) (zS Z Z Z (LOp.extract Z Z Z) (zS Z Z Z (LOp.store Z Z Z Z vt1071 Z Z Z Z) (zN (zT (zQ (LW.draw (by kernel_rfl) (by kernel_rfl) (zE Z Z Z (zA Z Z ft1071_2) (zE Z Z Z (zA Z Z ft75_1) (zE Z Z Z (zD Z Z Z vt68 Z Z) (zE Z Z Z (LOp.lenM Z Z (by kernel_rfl)) (zE Z Z Z (LOp.bin Z Z Z Z) (zH Z ?_)))))))))))))
   refine LO.cases 53 Z (fun (g4 : ((v6.1.V.V.length : Int) == 1) = true) => ?_) (fun (g4 : ((v6.1.V.V.length : Int) == 1) = false) => ?_)
   ·
    refine zi g4 hr fun hr => LO.gd Z Z Z (gd g4 Z) Z (zA Z Z ft1071_5) (LO.gd Z Z Z (gd g4 Z) Z (zA Z Z ft26_0) (LO.gd Z Z Z (gd g4 Z) Z (zD Z Z Z vt24 Z Z) (LO.gd Z Z Z (gd g4 Z) Z (zD Z Z Z vt42 Z Z) (LO.gd Z Z Z (gd g4 Z) Z (zC Z Z Z (by kernel_rfl) (LC.pure (c50 (b := (Bk.mk 1 0 (0, 0) 0))) (.cons Conv.p .nil))) (LO.gd Z Z Z (gd g4 Z) Z (LOp.eqlAgg Z Z Z Z Z eqt24) (zE Z Z Z (LOp.pickT Z (gdl g4 Z) Z) (zH Z ?_)))))))
    refine LO.cases 61 Z (fun (g5 : ((v6.1.C.ID.1 == ((nm (Bk.mk 1 0 (0, 0) 0)).1)) && ((v6.1.C.ID.2 == ((nm (Bk.mk 1 0 (0, 0) 0)).2)) && true)) = true) => ?_) (fun (g5 : ((v6.1.C.ID.1 == ((nm (Bk.mk 1 0 (0, 0) 0)).1)) && ((v6.1.C.ID.2 == ((nm (Bk.mk 1 0 (0, 0) 0)).2)) && true)) = false) => ?_)
    ·
     refine zi g5 hr fun hr => LO.gd Z Z Z (gd g5 Z) Z (zA Z Z ft1071_5) (LO.gd Z Z Z (gd g5 Z) Z (zA Z Z ft26_2) (LO.gd Z Z Z (gd g5 Z) Z (zD Z Z Z vt3 Z Z) (LO.gd Z Z Z (gd g5 Z) Z (LOp.bin Z Z Z Z) (zE Z Z Z (LOp.pickT Z (gdl g5 Z) Z) (zH Z ?_)))))
     refine LO.cases 67 Z (fun (g6 : (v6.1.C.Revoked == 0) = true) => ?_) (fun (g6 : (v6.1.C.Revoked == 0) = false) => ?_)
     ·
      refine zi g6 hr fun hr => LO.gd Z Z Z (gd g6 Z) Z (zD Z Z Z vt55 Z Z) (LO.gd Z Z Z (gd g6 Z) Z (zD Z Z Z vt1071 Z Z) (zb hr fun v7 h_v7 hr => LO.gd Z Z Z (gd g6 Z) Z (zC Z Z Z (by kernel_rfl) (LC.pure (c1030 h_v7) (.cons Conv.p (.cons Conv.p .nil)))) (LO.gd Z Z Z (gd g6 Z) Z (zD Z Z Z vt42 Z Z) (LO.gd Z Z Z (gd g6 Z) Z (zC Z Z Z (by kernel_rfl) (LC.pure (c50 (b := (Bk.mk 1 0 (0, 0) 0))) (.cons Conv.p .nil))) (LO.gd Z Z Z (gd g6 Z) Z (LOp.eqlAgg Z Z Z Z Z eqt24) (zE Z Z Z (LOp.pickT Z (gdl g6 Z) Z) (zH Z ?_)))))))
      refine LO.cases 75 Z (fun (g7 : ((v7.1 == ((nm (Bk.mk 1 0 (0, 0) 0)).1)) && ((v7.2 == ((nm (Bk.mk 1 0 (0, 0) 0)).2)) && true)) = true) => ?_) (fun (g7 : ((v7.1 == ((nm (Bk.mk 1 0 (0, 0) 0)).1)) && ((v7.2 == ((nm (Bk.mk 1 0 (0, 0) 0)).2)) && true)) = false) => ?_)
      ·
       refine zi g7 hr fun hr => LO.gd Z Z Z (gd g7 Z) Z (zA Z Z ft1071_1) (LO.gd Z Z Z (gd g7 Z) Z (zD Z Z Z vt3 Z Z) (LO.gd Z Z Z (gd g7 Z) Z (LOp.bin Z Z Z Z) (zE Z Z Z (LOp.pickT Z (gdl g7 Z) Z) (zH Z (LO.nil (zT (LW.ret ?_)))))))
       obtain rfl := zJ hr
       refine finP_ret (.one (.tmp Z)) ?_
       exact Conv.p
      ·
       refine zo g7 hr fun hr => LO.sk Z Z Z (gd g7 Z) Z Z (LO.sk Z Z Z (gd g7 Z) Z Z (LO.sk Z Z Z (gd g7 Z) Z Z (zE Z Z Z (LOp.pickF Z (gdl g7 Z) Z) (zH Z (LO.nil (zT (LW.ret ?_)))))))
       obtain rfl := zJ hr
       refine finP_ret (.one (.tmp Z)) ?_
       exact Conv.p
     ·
      refine zo g6 hr fun hr => LO.sk Z Z Z (gd g6 Z) Z Z (LO.sk Z Z Z (gd g6 Z) Z Z (LO.sk Z Z Z (gd g6 Z) Z Z (LO.sk Z Z Z (gd g6 Z) Z Z (LO.sk Z Z Z (gd g6 Z) Z Z (LO.sk Z Z Z (gd g6 Z) Z Z (zE Z Z Z (LOp.pickF Z (gdl g6 Z) Z) (zH Z (LO.sk Z Z Z Z Z Z (LO.sk Z Z Z Z Z Z (LO.sk Z Z Z Z Z Z (zE Z Z Z (LOp.pickF Z Z Z) (zH Z (LO.nil (zT (LW.ret ?_)))))))))))))))
      obtain rfl := zJ hr
      refine finP_ret (.one (.tmp Z)) ?_
      exact Conv.p
    ·
     refine zo g5 hr fun hr => LO.sk Z Z Z (gd g5 Z) Z Z (LO.sk Z Z Z (gd g5 Z) Z Z (LO.sk Z Z Z (gd g5 Z) Z Z (LO.sk Z Z Z (gd g5 Z) Z Z (zE Z Z Z (LOp.pickF Z (gdl g5 Z) Z) (zH Z (LO.sk Z Z Z Z Z Z (LO.sk Z Z Z Z Z Z (LO.sk Z Z Z Z Z Z (LO.sk Z Z Z Z Z Z (LO.sk Z Z Z Z Z Z (LO.sk Z Z Z Z Z Z (zE Z Z Z (LOp.pickF Z Z Z) (zH Z (LO.sk Z Z Z Z Z Z (LO.sk Z Z Z Z Z Z (LO.sk Z Z Z Z Z Z (zE Z Z Z (LOp.pickF Z Z Z) (zH Z (LO.nil (zT (LW.ret ?_)))))))))))))))))))))
     obtain rfl := zJ hr
     refine finP_ret (.one (.tmp Z)) ?_
     exact Conv.p
   ·
    refine zo g4 hr fun hr => LO.sk Z Z Z (gd g4 Z) Z Z (LO.sk Z Z Z (gd g4 Z) Z Z (LO.sk Z Z Z (gd g4 Z) Z Z (LO.sk Z Z Z (gd g4 Z) Z Z (LO.sk Z Z Z (gd g4 Z) Z Z (LO.sk Z Z Z (gd g4 Z) Z Z (zE Z Z Z (LOp.pickF Z (gdl g4 Z) Z) (zH Z (LO.sk Z Z Z Z Z Z (LO.sk Z Z Z Z Z Z (LO.sk Z Z Z Z Z Z (LO.sk Z Z Z Z Z Z (zE Z Z Z (LOp.pickF Z Z Z) (zH Z (LO.sk Z Z Z Z Z Z (LO.sk Z Z Z Z Z Z (LO.sk Z Z Z Z Z Z (LO.sk Z Z Z Z Z Z (LO.sk Z Z Z Z Z Z (LO.sk Z Z Z Z Z Z (zE Z Z Z (LOp.pickF Z Z Z) (zH Z (LO.sk Z Z Z Z Z Z ?_))))))))))))))))))))))
    refine LO.sk Z Z Z Z Z Z (LO.sk Z Z Z Z Z Z (zE Z Z Z (LOp.pickF Z Z Z) (zH Z (LO.nil (zT (LW.ret ?_))))))
    obtain rfl := zJ hr
    refine finP_ret (.one (.tmp Z)) ?_
    exact Conv.p
structure F3023_L1 where
 n : Int
 i : Int
def F3023_s1 (w : Vw) (who : Int) (slot : Int) (x1 : F3023_L1) : Option (F3023_L1 ⊕ F3023_L1) :=
 bif decide (x1.i < (w.V.length : Int)) then
  (ix w.V x1.i).bind fun y1 =>
  bif y1.From == who then
   (ix w.V x1.i).bind fun y2 =>
   bif y2.Slot == slot then
    some (.inl (F3023_L1.mk (IntKind.i64.wrap (x1.n + 1)) (IntKind.i64.wrap (x1.i + 1))))
   else
    some (.inl (F3023_L1.mk x1.n (IntKind.i64.wrap (x1.i + 1))))
  else
   some (.inl (F3023_L1.mk x1.n (IntKind.i64.wrap (x1.i + 1))))
 else
  some (.inr (F3023_L1.mk x1.n x1.i))
def F3023 (w : Vw) (who : Int) (slot : Int) : Option Int :=
 (iter (F3023_s1 w who slot) big (F3023_L1.mk 0 0)).bind fun v1 =>
 some v1.n
set_option maxRecDepth 100000 in
theorem c3023 {w : Vw} {who : Int} {slot : Int} {r_ : Int} (hr : F3023 w who slot = some r_) : LPure Tryz.prog 23 [vwP w, .int .i64 who, .int .i64 slot] [.int .i64 r_] := by
 refine LPure.start Tryz.func23 Z Z Z Z ?_
 unfold F3023 at hr
 refine zQ (zR (zS Z Z Z (LOp.box Z Z Z Z Z) (zM Z (zN (zT (zQ (zR (zM Z (zN (zT (zQ (zQ (zR (zM Z (zN (zT ?_))))))))))))))))
 obtain ⟨v1, hb_v1, ho_v1⟩ := zB hr
 clear hr
 refine LW.tail (E := [(6, .p (.int .i64 0)), (7, .p (.int .i64 v1.n))]) (O := [.box [.p (.slice 5 (w.B.map blkP)), .p (.slice 4 (w.V.map vtP))]]) ?_ (fun env_v1 H_v1 hw_v1 => ?_)
 ·refine LW.block ?_
  refine LW.iterB (E := fun x1 : F3023_L1 => [(1, .p (.int .i64 who)), (2, .p (.int .i64 slot)), (3, .ptr 0 0), (6, .p (.int .i64 0)), (7, .p (.int .i64 x1.n)), (8, .p (.int .i64 x1.i))]) (O := fun x1 => [.box [.p (.slice 5 (w.B.map blkP)), .p (.slice 4 (w.V.map vtP))]]) hb_v1 (zW 1 ⟨rfl, rfl, rfl, rfl, rfl, rfl, trivial⟩ Z Z Z Z) (fun x1 z_x1 hr hb_x1 => ?_)
  unfold F3023_s1 at hr
  refine zQ (zQ (zR (zM Z (zS Z Z Z (zA Z Z ft75_1) (zS Z Z Z (zD Z Z Z vt68 Z Z) (zS Z Z Z (LOp.lenM Z Z (by kernel_rfl)) (zS Z Z Z (LOp.bin Z Z Z Z) (zN (zT ?_)))))))))
  refine zX Z (fun g1 => ?_) (fun g1 => ?_)
  ·
   refine zi g1 hr fun hr => LW.skip (zT (zQ (LW.block (zQ (zR (zS Z Z Z (zA Z Z ft75_1) (zS Z Z Z (zD Z Z Z vt68 Z Z) (zM Z (zb hr fun y1 h_y1 hr => zS Z Z Z (LOp.indexAddrX Z Z Z st68 h_y1 Z) (zS Z Z Z (LOp.fieldAddrC Z Z ft82_0 Z) (zS Z Z Z (LOp.loadC Z Z Z vt3 Z Z) (zM Z (zS Z Z Z (LOp.bin Z Z Z Z) (zM Z ?_))))))))))))))
   refine LOps.cases 24 Z (fun g2 => ?_) (fun g2 => ?_)
   ·
    refine zi g2 hr fun hr => zV Z Z Z (gd g2 Z) Z (zA Z Z ft75_1) (zV Z Z Z (gd g2 Z) Z (zD Z Z Z vt68 Z Z) (zV Z Z Z (gd g2 Z) Z (LOp.move Z Z) (zb hr fun y2 h_y2 hr => zV Z Z Z (gd g2 Z) Z (LOp.indexAddrX Z Z Z st68 h_y2 Z) (zV Z Z Z (gd g2 Z) Z (LOp.fieldAddrC Z Z ft82_1 Z) (zV Z Z Z (gd g2 Z) Z (LOp.loadC Z Z Z vt3 Z Z) (zV Z Z Z (gd g2 Z) Z (LOp.move Z Z) (zV Z Z Z (gd g2 Z) Z (LOp.bin Z Z Z Z) (zS Z Z Z (LOp.pickT Z (gdl g2 Z) Z) (zN (zT ?_))))))))))
    refine zX Z (fun g3 => ?_) (fun g3 => ?_)
    ·
     refine zi g3 hr fun hr => zR (zM Z (zS Z Z Z (LOp.bin Z Z Z Z) (zM Z (zN (inBlk_n (zT (zR (zM Z (zS Z Z Z (LOp.bin Z Z Z Z) (zM Z (zN (zT ?_))))))))))))
     obtain rfl := zJ hr
     exact ⟨_, rfl, zW 1 ⟨rfl, rfl, rfl, rfl, rfl, rfl, trivial⟩ Z Z Z rfl⟩
    ·
     refine zo g3 hr fun hr => LW.skip (inBlk_n (zT (zR (zM Z (zS Z Z Z (LOp.bin Z Z Z Z) (zM Z (zN (zT ?_))))))))
     obtain rfl := zJ hr
     exact ⟨_, rfl, zW 1 ⟨rfl, rfl, rfl, rfl, rfl, rfl, trivial⟩ Z Z Z rfl⟩
   ·
    refine zo g2 hr fun hr => zU Z Z Z (gd g2 Z) Z Z (zU Z Z Z (gd g2 Z) Z Z (zU Z Z Z (gd g2 Z) Z Z (zU Z Z Z (gd g2 Z) Z Z (zU Z Z Z (gd g2 Z) Z Z (zU Z Z Z (gd g2 Z) Z Z (zU Z Z Z (gd g2 Z) Z Z (zU Z Z Z (gd g2 Z) Z Z (zS Z Z Z (LOp.pickF Z (gdl g2 Z) Z) (zN (zT (LW.condF Z (LW.skip (inBlk_n (zT (zR (zM Z (zS Z Z Z (LOp.bin Z Z Z Z) (zM Z (zN (zT ?_))))))))))))))))))))
    obtain rfl := zJ hr
    exact ⟨_, rfl, zW 1 ⟨rfl, rfl, rfl, rfl, rfl, rfl, trivial⟩ Z Z Z rfl⟩
  ·
   refine zo g1 hr fun hr => LW.exit (thn_e (thn_e (inBlk_self (zT ?_))))
   obtain rfl := zJ hr
   have hr := congrArg some (hb_x1 _ rfl)
   obtain rfl := zJ hr
   exact zW 1 ⟨Z, Z, trivial⟩ Z Z Z Z
 ·have hr := ho_v1
  clear hb_v1
  refine zT (LW.weak hw_v1 (zQ (zR (zM Z (zM Z (zN (zT (LW.ret ?_))))))))
  obtain rfl := zJ hr
  refine finP_ret (.one (.tmp Z)) ?_
  exact Conv.p
structure F3005_L1 where
 i : Int
structure F3005_L2 where
 i : Int
def F3005_s1 (n : Nd) (x1 : F3005_L1) : Option (F3005_L1 ⊕ (F3005_L1 ⊕ Bool)) :=
 bif decide (x1.i < (n.O.length : Int)) then
  (ix n.O x1.i).bind fun y1 =>
  (F3023 y1.V n.No (IntKind.i64.wrap (n.Tick.tdiv 3))).bind fun v7 =>
  bif decide (v7 > 0) then
   some (.inr (.inr true))
  else
   some (.inl (F3005_L1.mk (IntKind.i64.wrap (x1.i + 1))))
 else
  some (.inr (.inl (F3005_L1.mk x1.i)))
def F3005_s2 (n : Nd) (o : List Of) (x2 : F3005_L2) : Option (F3005_L2 ⊕ (F3005_L2 ⊕ Bool)) :=
 bif decide (x2.i < (o.length : Int)) then
  (ix o x2.i).bind fun y2 =>
  (F3023 y2.V n.No (IntKind.i64.wrap (n.Tick.tdiv 3))).bind fun v9 =>
  bif decide (v9 > 0) then
   some (.inr (.inr true))
  else
   some (.inl (F3005_L2.mk (IntKind.i64.wrap (x2.i + 1))))
 else
  some (.inr (.inl (F3005_L2.mk x2.i)))
def F3005 (c : Cf) (n : Nd) (o : List Of) : Option Bool :=
 (F3013 ).bind fun v1 =>
 (F3014 n 25).bind fun v2 =>
 (F3016 o 25).bind fun v3 =>
 (
  bif !v1 then
   some true
  else
   bif !v2 then
    some true
   else
    bif !v3 then
     some true
    else
     bif decide ((c.W.length : Int) > 40) then
      some true
     else
      (F64 c).bind fun v5 =>
      bif !v5 then
       some true
      else
       bif decide (n.Tick < 3) then
        some true
       else
        some (decide (n.Tick > 1000000))
 ).bind fun v4 =>
 bif v4 then
  some v1
 else
  (iter (F3005_s1 n) big (F3005_L1.mk 0)).bind fun b_v6 => Sum.elim (fun _ =>
   (iter (F3005_s2 n o) big (F3005_L2.mk 0)).bind fun b_v8 => Sum.elim (fun _ =>
    (F3023 n.V n.No (IntKind.i64.wrap (n.Tick.tdiv 3))).bind fun v10 =>
    (F3023 n.In n.No (IntKind.i64.wrap (n.Tick.tdiv 3))).bind fun v11 =>
    bif decide ((IntKind.i64.wrap (v10 + v11)) > 0) then
     some true
    else
     (F3018 c n (Vw.mk [] []) o).bind fun v12 =>
     (F3023 v12.1.V n.No (IntKind.i64.wrap (n.Tick.tdiv 3))).bind fun v13 =>
     (F3023 v12.1.In n.No (IntKind.i64.wrap (n.Tick.tdiv 3))).bind fun v14 =>
     (
      bif (n.Tick.tmod 3) != 1 then
       some true
      else
       (F74 c (IntKind.i64.wrap (n.Tick.tdiv 3)) n.No).bind fun v16 =>
       some (!v16)
     ).bind fun v15 =>
     bif v15 then
      some ((IntKind.i64.wrap (v13 + v14)) == 0)
     else
      bif (IntKind.i64.wrap (v13 + v14)) == 1 then
       bif decide ((v12.1.In.V.length : Int) > 0) then
        (ix v12.1.In.V (IntKind.i64.wrap ((v12.1.In.V.length : Int) - 1))).bind fun y3 =>
        (F1030 c v12.1).bind fun v17 =>
        some ((y3.From == n.No) && ((y3.Slot == (IntKind.i64.wrap (n.Tick.tdiv 3))) && ((y3.Head.1 == v17.1) && ((y3.Head.2 == v17.2) && true))))
       else
        some false
      else
       some false) some b_v8) some b_v6
set_option maxRecDepth 100000 in
theorem c3005 {c : Cf} {n : Nd} {o : List Of} {r_ : Bool} (hr : F3005 c n o = some r_) : LPure Tryz.prog 5 [cfP c, ndP n, .slice 9 (o.map ofP)] [.bool r_] := by
 refine LPure.start Tryz.func5 Z Z Z Z ?_
 unfold F3005 at hr
 refine zQ (zR (zS Z Z Z (LOp.box Z Z Z Z Z) (zS Z Z Z (LOp.box Z Z Z Z Z) (zM Z (zN (zT (zQ (zR (zb hr fun v1 h_v1 hr => zS Z Z Z (zC Z Z Z (by kernel_rfl) (LC.pure (c3013 h_v1) .nil)) (zM Z (zN (zT (zQ (zR (zS Z Z Z (zD Z Z Z vt1071 Z Z) (zb hr fun v2 h_v2 hr => zS Z Z Z (zC Z Z Z (by kernel_rfl) (LC.pure (c3014 h_v2) (.cons Conv.p (.cons Conv.p .nil)))) (zM Z (zN (zT (zQ (zR ?_)))))))))))))))))))))
 refine zM Z (zb hr fun v3 h_v3 hr => zS Z Z Z (zC Z Z Z (by kernel_rfl) (LC.pure (c3016 h_v3) (.cons Conv.p (.cons Conv.p .nil)))) (zM Z (zN (zT (zQ ?_)))))
 obtain ⟨v4, hb_v4, ho_v4⟩ := zB hr
 clear hr
 refine LW.cut (E := [(2, .p (.slice 9 (o.map ofP))), (3, .ptr 0 0), (4, .ptr 1 0), (6, .p (.bool false)), (7, .p (.bool v1)), (52, .p (.bool v4))]) (O := [.box [.p (.slice 1 (c.W.map i64P)), .p (.int .u64 c.Seed), .p (.int .i64 c.Epoch), .p (.int .i64 c.Num), .p (.int .i64 c.Den)], .box [.p (.int .i64 n.No), .p (.int .i64 n.Tick), .p (.slice 5 (n.V.B.map blkP)), .p (.slice 4 (n.V.V.map vtP)), .p (.slice 5 (n.In.B.map blkP)), .p (.slice 4 (n.In.V.map vtP)), .p (.slice 9 (n.O.map ofP)), .p (.int .u64 n.C.ID.1), .p (.int .u64 n.C.ID.2), .p (.int .i64 n.C.Slot), .p (.int .i64 n.C.Revoked), .p (.bool n.Full)]]) ?_ ?_
 ·have hr := hb_v4
  refine zR (zM Z (zS Z Z Z (LOp.not Z Z) (zM Z ?_)))
  refine LOps.cases 24 Z (fun g1 => ?_) (fun g1 => ?_)
  ·
   refine zi g1 hr fun hr => zU Z Z Z (gd g1 Z) Z Z (zU Z Z Z (gd g1 Z) Z Z (zS Z Z Z (LOp.pickT Z (gdl g1 Z) Z) (zM Z (zU Z Z Z Z Z Z (zU Z Z Z Z Z Z (zS Z Z Z (LOp.pickT Z Z Z) (zM Z (zU Z Z Z Z Z Z (zU Z Z Z Z Z Z (zU Z Z Z Z Z Z (zU Z Z Z Z Z Z (zS Z Z Z (LOp.pickT Z Z Z) (zM Z (zU Z Z Z Z Z Z (zU Z Z Z Z Z Z (zU Z Z Z Z Z Z (zS Z Z Z (LOp.pickT Z Z Z) (zM Z (zU Z Z Z Z Z Z (zU Z Z Z Z Z Z (zU Z Z Z Z Z Z (zS Z Z Z (LOp.pickT Z Z Z) ?_))))))))))))))))))))))
   refine zM Z (zU Z Z Z Z Z Z (zU Z Z Z Z Z Z (zU Z Z Z Z Z Z (zS Z Z Z (LOp.pickT Z Z Z) (zN (zT ?_))))))
   obtain rfl := zJ hr
   exact zW 2 ⟨Z, Z, Z, Z, Z, Z, trivial⟩ Z Z Z Z
  ·
   refine zo g1 hr fun hr => zV Z Z Z (gd g1 Z) Z (LOp.move Z Z) (zV Z Z Z (gd g1 Z) Z (LOp.not Z Z) (zS Z Z Z (LOp.pickF Z (gdl g1 Z) Z) (zM Z ?_)))
   refine LOps.cases 28 Z (fun g2 => ?_) (fun g2 => ?_)
   ·
    refine zi g2 hr fun hr => zU Z Z Z (gd g2 Z) Z Z (zU Z Z Z (gd g2 Z) Z Z (zS Z Z Z (LOp.pickT Z (gdl g2 Z) Z) (zM Z (zU Z Z Z Z Z Z (zU Z Z Z Z Z Z (zU Z Z Z Z Z Z (zU Z Z Z Z Z Z (zS Z Z Z (LOp.pickT Z Z Z) (zM Z (zU Z Z Z Z Z Z (zU Z Z Z Z Z Z (zU Z Z Z Z Z Z (zS Z Z Z (LOp.pickT Z Z Z) (zM Z (zU Z Z Z Z Z Z (zU Z Z Z Z Z Z (zU Z Z Z Z Z Z (zS Z Z Z (LOp.pickT Z Z Z) (zM Z (zU Z Z Z Z Z Z (zU Z Z Z Z Z Z (zU Z Z Z Z Z Z ?_))))))))))))))))))))))
    refine zS Z Z Z (LOp.pickT Z Z Z) (zN (zT ?_))
    obtain rfl := zJ hr
    exact zW 2 ⟨Z, Z, Z, Z, Z, Z, trivial⟩ Z Z Z Z
   ·
    refine zo g2 hr fun hr => zV Z Z Z (gd g2 Z) Z (LOp.move Z Z) (zV Z Z Z (gd g2 Z) Z (LOp.not Z Z) (zS Z Z Z (LOp.pickF Z (gdl g2 Z) Z) (zM Z ?_)))
    refine LOps.cases 32 Z (fun g3 => ?_) (fun g3 => ?_)
    ·
     refine zi g3 hr fun hr => zU Z Z Z (gd g3 Z) Z Z (zU Z Z Z (gd g3 Z) Z Z (zU Z Z Z (gd g3 Z) Z Z (zU Z Z Z (gd g3 Z) Z Z (zS Z Z Z (LOp.pickT Z (gdl g3 Z) Z) (zM Z (zU Z Z Z Z Z Z (zU Z Z Z Z Z Z (zU Z Z Z Z Z Z (zS Z Z Z (LOp.pickT Z Z Z) (zM Z (zU Z Z Z Z Z Z (zU Z Z Z Z Z Z (zU Z Z Z Z Z Z (zS Z Z Z (LOp.pickT Z Z Z) (zM Z (zU Z Z Z Z Z Z (zU Z Z Z Z Z Z (zU Z Z Z Z Z Z (zS Z Z Z (LOp.pickT Z Z Z) (zN (zT ?_)))))))))))))))))))))
     obtain rfl := zJ hr
     exact zW 2 ⟨Z, Z, Z, Z, Z, Z, trivial⟩ Z Z Z Z
    ·
     refine zo g3 hr fun hr => zV Z Z Z (gd g3 Z) Z (zA Z Z ft55_0) (zV Z Z Z (gd g3 Z) Z (zD Z Z Z vt49 Z Z) (zV Z Z Z (gd g3 Z) Z (LOp.lenM Z Z (by kernel_rfl)) (zV Z Z Z (gd g3 Z) Z (LOp.bin Z Z Z Z) (zS Z Z Z (LOp.pickF Z (gdl g3 Z) Z) (zM Z ?_)))))
     refine LOps.cases 38 Z (fun g4 => ?_) (fun g4 => ?_)
     ·
      refine zi g4 hr fun hr => zU Z Z Z (gd g4 Z) Z Z (zU Z Z Z (gd g4 Z) Z Z (zU Z Z Z (gd g4 Z) Z Z (zS Z Z Z (LOp.pickT Z (gdl g4 Z) Z) (zM Z (zU Z Z Z Z Z Z (zU Z Z Z Z Z Z (zU Z Z Z Z Z Z (zS Z Z Z (LOp.pickT Z Z Z) (zM Z (zU Z Z Z Z Z Z (zU Z Z Z Z Z Z (zU Z Z Z Z Z Z (zS Z Z Z (LOp.pickT Z Z Z) (zN (zT ?_)))))))))))))))
      obtain rfl := zJ hr
      exact zW 2 ⟨Z, Z, Z, Z, Z, Z, trivial⟩ Z Z Z Z
     ·
      refine zo g4 hr fun hr => zV Z Z Z (gd g4 Z) Z (zD Z Z Z vt55 Z Z) (zb hr fun v5 h_v5 hr => zV Z Z Z (gd g4 Z) Z (zC Z Z Z (by kernel_rfl) (LC.pure (c64 h_v5) (.cons Conv.p .nil))) (zV Z Z Z (gd g4 Z) Z (LOp.not Z Z) (zS Z Z Z (LOp.pickF Z (gdl g4 Z) Z) (zM Z ?_))))
      refine LOps.cases 43 Z (fun g5 => ?_) (fun g5 => ?_)
      ·
       refine zi g5 hr fun hr => zU Z Z Z (gd g5 Z) Z Z (zU Z Z Z (gd g5 Z) Z Z (zU Z Z Z (gd g5 Z) Z Z (zS Z Z Z (LOp.pickT Z (gdl g5 Z) Z) (zM Z (zU Z Z Z Z Z Z (zU Z Z Z Z Z Z (zU Z Z Z Z Z Z (zS Z Z Z (LOp.pickT Z Z Z) (zN (zT ?_))))))))))
       obtain rfl := zJ hr
       exact zW 2 ⟨Z, Z, Z, Z, Z, Z, trivial⟩ Z Z Z Z
      ·
       refine zo g5 hr fun hr => zV Z Z Z (gd g5 Z) Z (zA Z Z ft1071_1) (zV Z Z Z (gd g5 Z) Z (zD Z Z Z vt3 Z Z) (zV Z Z Z (gd g5 Z) Z (LOp.bin Z Z Z Z) (zS Z Z Z (LOp.pickF Z (gdl g5 Z) Z) (zM Z ?_))))
       refine LOps.cases 48 Z (fun g6 => ?_) (fun g6 => ?_)
       ·
        refine zi g6 hr fun hr => zU Z Z Z (gd g6 Z) Z Z (zU Z Z Z (gd g6 Z) Z Z (zU Z Z Z (gd g6 Z) Z Z (zS Z Z Z (LOp.pickT Z (gdl g6 Z) Z) (zN (zT ?_)))))
        obtain rfl := zJ hr
        exact zW 2 ⟨Z, Z, Z, Z, Z, Z, trivial⟩ Z Z Z Z
       ·
        refine zo g6 hr fun hr => zV Z Z Z (gd g6 Z) Z (zA Z Z ft1071_1) (zV Z Z Z (gd g6 Z) Z (zD Z Z Z vt3 Z Z) (zV Z Z Z (gd g6 Z) Z (LOp.bin Z Z Z Z) (zS Z Z Z (LOp.pickF Z (gdl g6 Z) Z) (zN (zT ?_)))))
        obtain rfl := zJ hr
        exact zW 2 ⟨Z, Z, Z, Z, Z, Z, trivial⟩ Z Z Z Z
 ·have hr := ho_v4
  clear hb_v4
  refine zX Z (fun g7 => ?_) (fun g7 => ?_)
  ·
   refine zi g7 hr fun hr => zQ (zR (zM Z (zM Z (zN (zT (LW.ret (thn_r ?_)))))))
   obtain rfl := zJ hr
   refine finP_ret (.one (.tmp Z)) ?_
   exact Conv.p
  ·
   refine zo g7 hr fun hr => LW.skip (zT (zQ (zR (zS Z Z Z (zA Z Z ft1071_1) (zS Z Z Z (zD Z Z Z vt3 Z Z) (zS Z Z Z (LOp.quo Z Z Z (by decide)) (zM Z (zN (zT (zQ (zQ (zR (zM Z (zN (zT ?_)))))))))))))))
   obtain ⟨b_v6, hb_v6, ho_v6⟩ := zB hr
   clear hr
   refine LW.tailB (b := b_v6) (E := fun v6 => [(2, .p (.slice 9 (o.map ofP))), (3, .ptr 0 0), (4, .ptr 1 0), (6, .p (.bool false)), (10, .p (.int .i64 (IntKind.i64.wrap (n.Tick.tdiv 3))))]) (O := fun v6 => [.box [.p (.slice 1 (c.W.map i64P)), .p (.int .u64 c.Seed), .p (.int .i64 c.Epoch), .p (.int .i64 c.Num), .p (.int .i64 c.Den)], .box [.p (.int .i64 n.No), .p (.int .i64 n.Tick), .p (.slice 5 (n.V.B.map blkP)), .p (.slice 4 (n.V.V.map vtP)), .p (.slice 5 (n.In.B.map blkP)), .p (.slice 4 (n.In.V.map vtP)), .p (.slice 9 (n.O.map ofP)), .p (.int .u64 n.C.ID.1), .p (.int .u64 n.C.ID.2), .p (.int .i64 n.C.Slot), .p (.int .i64 n.C.Revoked), .p (.bool n.Full)]]) ?_ (fun v6 e_v6 env_v6 H_v6 hw_v6 => ?_)
   ·refine LW.block ?_
    refine LW.iterB (E := fun x1 : F3005_L1 => [(2, .p (.slice 9 (o.map ofP))), (3, .ptr 0 0), (4, .ptr 1 0), (6, .p (.bool false)), (10, .p (.int .i64 (IntKind.i64.wrap (n.Tick.tdiv 3)))), (11, .p (.int .i64 x1.i))]) (O := fun x1 => [.box [.p (.slice 1 (c.W.map i64P)), .p (.int .u64 c.Seed), .p (.int .i64 c.Epoch), .p (.int .i64 c.Num), .p (.int .i64 c.Den)], .box [.p (.int .i64 n.No), .p (.int .i64 n.Tick), .p (.slice 5 (n.V.B.map blkP)), .p (.slice 4 (n.V.V.map vtP)), .p (.slice 5 (n.In.B.map blkP)), .p (.slice 4 (n.In.V.map vtP)), .p (.slice 9 (n.O.map ofP)), .p (.int .u64 n.C.ID.1), .p (.int .u64 n.C.ID.2), .p (.int .i64 n.C.Slot), .p (.int .i64 n.C.Revoked), .p (.bool n.Full)]]) hb_v6 (zW 2 ⟨rfl, rfl, rfl, rfl, rfl, rfl, trivial⟩ Z Z Z Z) (fun x1 z_x1 hr hb_x1 => ?_)
    unfold F3005_s1 at hr
    refine zQ (zQ (zR (zM Z (zS Z Z Z (zA Z Z ft1071_4) (zS Z Z Z (zD Z Z Z vt1036 Z Z) (zS Z Z Z (LOp.lenM Z Z (by kernel_rfl)) (zS Z Z Z (LOp.bin Z Z Z Z) (zN (zT ?_)))))))))
    refine zX Z (fun g8 => ?_) (fun g8 => ?_)
    ·
     refine zi g8 hr fun hr => LW.skip (zT (zQ (LW.block (zQ (LW.draw (by kernel_rfl) (by kernel_rfl) (zE Z Z Z (zA Z Z ft1071_4) (zE Z Z Z (zD Z Z Z vt1036 Z Z) (zH Z (zb hr fun y1 h_y1 hr => zE Z Z Z (LOp.indexAddrX Z Z Z st1036 h_y1 Z) (zE Z Z Z (LOp.fieldAddrC Z Z ft1077_3 Z) (zE Z Z Z (LOp.loadC Z Z Z vt75 Z Z) (zE Z Z Z (zA Z Z ft1071_0) (zE Z Z Z (zD Z Z Z vt3 Z Z) (zH Z (zb hr fun v7 h_v7 hr => zE Z Z Z (zC Z Z Z (by kernel_rfl) (LC.pure (c3023 h_v7) (.cons Conv.p (.cons Conv.p (.cons Conv.p .nil))))) (zE Z Z Z (LOp.bin Z Z Z Z) (LO.nil (zT ?_))))))))))))))))))
     refine zX Z (fun g9 => ?_) (fun g9 => ?_)
     ·
      refine zi g9 hr fun hr => zQ (zR (zM Z (zN (zT (LW.ret (inBlk_r (thn_r (thn_r (inBlk_r (thn_r (thn_r ?_)))))))))))
      obtain rfl := zJ hr
      have hr := congrArg some (hb_x1 _ rfl)
      obtain rfl := zJ hr
      have hr := sum_r ho_v6
      obtain rfl := zJ hr
      refine finP_ret (.one (.tmp Z)) ?_
      exact Conv.p
     ·
      refine zo g9 hr fun hr => LW.skip (inBlk_n (zT (zR (zM Z (zS Z Z Z (LOp.bin Z Z Z Z) (zM Z (zN (zT ?_))))))))
      obtain rfl := zJ hr
      exact ⟨_, rfl, zW 2 ⟨rfl, rfl, rfl, rfl, rfl, rfl, trivial⟩ Z Z Z rfl⟩
    ·
     refine zo g8 hr fun hr => LW.exit (thn_e (thn_e (inBlk_self (zT ?_))))
     obtain rfl := zJ hr
     have hr := congrArg some (hb_x1 _ rfl)
     obtain rfl := zJ hr
     exact ⟨_, rfl, zW 2 ⟨rfl, rfl, rfl, rfl, rfl, trivial⟩ Z Z Z rfl⟩
   ·obtain rfl := e_v6
    have hr := sum_l ho_v6
    clear hb_v6
    refine zT (LW.weak hw_v6 (zQ (zQ (zR (zM Z (zN (zT ?_)))))))
    obtain ⟨b_v8, hb_v8, ho_v8⟩ := zB hr
    clear hr
    refine LW.tailB (b := b_v8) (E := fun v8 => [(2, .p (.slice 9 (o.map ofP))), (3, .ptr 0 0), (4, .ptr 1 0), (6, .p (.bool false)), (10, .p (.int .i64 (IntKind.i64.wrap (n.Tick.tdiv 3))))]) (O := fun v8 => [.box [.p (.slice 1 (c.W.map i64P)), .p (.int .u64 c.Seed), .p (.int .i64 c.Epoch), .p (.int .i64 c.Num), .p (.int .i64 c.Den)], .box [.p (.int .i64 n.No), .p (.int .i64 n.Tick), .p (.slice 5 (n.V.B.map blkP)), .p (.slice 4 (n.V.V.map vtP)), .p (.slice 5 (n.In.B.map blkP)), .p (.slice 4 (n.In.V.map vtP)), .p (.slice 9 (n.O.map ofP)), .p (.int .u64 n.C.ID.1), .p (.int .u64 n.C.ID.2), .p (.int .i64 n.C.Slot), .p (.int .i64 n.C.Revoked), .p (.bool n.Full)]]) ?_ (fun v8 e_v8 env_v8 H_v8 hw_v8 => ?_)
    ·refine LW.block ?_
     refine LW.iterB (E := fun x2 : F3005_L2 => [(2, .p (.slice 9 (o.map ofP))), (3, .ptr 0 0), (4, .ptr 1 0), (6, .p (.bool false)), (10, .p (.int .i64 (IntKind.i64.wrap (n.Tick.tdiv 3)))), (12, .p (.int .i64 x2.i))]) (O := fun x2 => [.box [.p (.slice 1 (c.W.map i64P)), .p (.int .u64 c.Seed), .p (.int .i64 c.Epoch), .p (.int .i64 c.Num), .p (.int .i64 c.Den)], .box [.p (.int .i64 n.No), .p (.int .i64 n.Tick), .p (.slice 5 (n.V.B.map blkP)), .p (.slice 4 (n.V.V.map vtP)), .p (.slice 5 (n.In.B.map blkP)), .p (.slice 4 (n.In.V.map vtP)), .p (.slice 9 (n.O.map ofP)), .p (.int .u64 n.C.ID.1), .p (.int .u64 n.C.ID.2), .p (.int .i64 n.C.Slot), .p (.int .i64 n.C.Revoked), .p (.bool n.Full)]]) hb_v8 (zW 2 ⟨rfl, rfl, rfl, rfl, rfl, rfl, trivial⟩ Z Z Z Z) (fun x2 z_x2 hr hb_x2 => ?_)
     unfold F3005_s2 at hr
     refine zQ (zQ (zR (zM Z (zM Z (zS Z Z Z (LOp.lenM Z Z (by kernel_rfl)) (zS Z Z Z (LOp.bin Z Z Z Z) (zN (zT ?_))))))))
     refine zX Z (fun g10 => ?_) (fun g10 => ?_)
     ·
      refine zi g10 hr fun hr => LW.skip (zT (zQ (LW.block (zQ (LW.draw (by kernel_rfl) (by kernel_rfl) (zH Z (zH Z (zb hr fun y2 h_y2 hr => zE Z Z Z (LOp.indexAddrX Z Z Z st1036 h_y2 Z) (zE Z Z Z (LOp.fieldAddrC Z Z ft1077_3 Z) (zE Z Z Z (LOp.loadC Z Z Z vt75 Z Z) (zE Z Z Z (zA Z Z ft1071_0) (zE Z Z Z (zD Z Z Z vt3 Z Z) (zH Z (zb hr fun v9 h_v9 hr => zE Z Z Z (zC Z Z Z (by kernel_rfl) (LC.pure (c3023 h_v9) (.cons Conv.p (.cons Conv.p (.cons Conv.p .nil))))) (zE Z Z Z (LOp.bin Z Z Z Z) (LO.nil (zT ?_)))))))))))))))))
      refine zX Z (fun g11 => ?_) (fun g11 => ?_)
      ·
       refine zi g11 hr fun hr => zQ (zR (zM Z (zN (zT (LW.ret (inBlk_r (thn_r (thn_r (inBlk_r (thn_r (thn_r ?_)))))))))))
       obtain rfl := zJ hr
       have hr := congrArg some (hb_x2 _ rfl)
       obtain rfl := zJ hr
       have hr := sum_r ho_v8
       obtain rfl := zJ hr
       refine finP_ret (.one (.tmp Z)) ?_
       exact Conv.p
      ·
       refine zo g11 hr fun hr => LW.skip (inBlk_n (zT (zR (zM Z (zS Z Z Z (LOp.bin Z Z Z Z) (zM Z (zN (zT ?_))))))))
       obtain rfl := zJ hr
       exact ⟨_, rfl, zW 2 ⟨rfl, rfl, rfl, rfl, rfl, rfl, trivial⟩ Z Z Z rfl⟩
     ·
      refine zo g10 hr fun hr => LW.exit (thn_e (thn_e (inBlk_self (zT ?_))))
      obtain rfl := zJ hr
      have hr := congrArg some (hb_x2 _ rfl)
      obtain rfl := zJ hr
      exact ⟨_, rfl, zW 2 ⟨rfl, rfl, rfl, rfl, rfl, trivial⟩ Z Z Z rfl⟩
    ·obtain rfl := e_v8
     have hr := sum_l ho_v8
     clear hb_v8
     refine zT (LW.weak hw_v8 (zQ (zQ (LW.draw (by kernel_rfl) (by kernel_rfl) (zE Z Z Z (zA Z Z ft1071_2) (zE Z Z Z (zD Z Z Z vt75 Z Z) (zE Z Z Z (zA Z Z ft1071_0) (zE Z Z Z (zD Z Z Z vt3 Z Z) (zH Z (zb hr fun v10 h_v10 hr => zE Z Z Z (zC Z Z Z (by kernel_rfl) (LC.pure (c3023 h_v10) (.cons Conv.p (.cons Conv.p (.cons Conv.p .nil))))) (zE Z Z Z (zA Z Z ft1071_3) (zE Z Z Z (zD Z Z Z vt75 Z Z) (zE Z Z Z (zA Z Z ft1071_0) (zE Z Z Z (zD Z Z Z vt3 Z Z) (zH Z (zb hr fun v11 h_v11 hr => zE Z Z Z (zC Z Z Z (by kernel_rfl) (LC.pure (c3023 h_v11) (.cons Conv.p (.cons Conv.p (.cons Conv.p .nil))))) (zE Z Z Z (LOp.bin Z Z Z Z) (zE Z Z Z (LOp.bin Z Z Z Z) (LO.nil (zT ?_))))))))))))))))))))
     refine zX Z (fun g12 => ?_) (fun g12 => ?_)
     ·
      refine zi g12 hr fun hr => zQ (zR (zM Z (zN (zT (LW.ret (thn_r ?_))))))
      obtain rfl := zJ hr
      refine finP_ret (.one (.tmp Z)) ?_
      exact Conv.p
     ·
      refine zo g12 hr fun hr => LW.skip (zT (zQ (zR (zS Z Z Z (zD Z Z Z vt55 Z Z) (zS Z Z Z (zD Z Z Z vt1071 Z Z) (zS Z Z Z (LOp.build Z bt75 Z Z Z) (zM Z (zb hr fun v12 h_v12 hr => zS Z Z Z (zC Z Z Z (by kernel_rfl) (LC.pure (c3018 h_v12) (.cons Conv.p (.cons Conv.p (.cons (Conv.agg (.cons Conv.zs (.cons Conv.zs .nil))) (.cons Conv.p .nil)))))) (zM Z (zS Z Z Z (LOp.extract Z Z Z) (zS Z Z Z (LOp.extract Z Z Z) (zS Z Z Z (LOp.alloc Z zt1071 Z Z) (zS Z Z Z (LOp.store Z Z Z Z vt1071 Z Z Z Z) (zM Z (zN (zT (zQ (LW.draw (by kernel_rfl) (by kernel_rfl) (zE Z Z Z (zA Z Z ft1071_2) (zE Z Z Z (zD Z Z Z vt75 Z Z) (zE Z Z Z (zA Z Z ft1071_0) ?_)))))))))))))))))))))
      refine zE Z Z Z (zD Z Z Z vt3 Z Z) (zH Z (zb hr fun v13 h_v13 hr => zE Z Z Z (zC Z Z Z (by kernel_rfl) (LC.pure (c3023 h_v13) (.cons Conv.p (.cons Conv.p (.cons Conv.p .nil))))) (zE Z Z Z (zA Z Z ft1071_3) (zE Z Z Z (zD Z Z Z vt75 Z Z) (zE Z Z Z (zA Z Z ft1071_0) (zE Z Z Z (zD Z Z Z vt3 Z Z) (zH Z (zb hr fun v14 h_v14 hr => zE Z Z Z (zC Z Z Z (by kernel_rfl) (LC.pure (c3023 h_v14) (.cons Conv.p (.cons Conv.p (.cons Conv.p .nil))))) (zE Z Z Z (LOp.bin Z Z Z Z) (zH Z (LO.nil (zT (zQ ?_)))))))))))))
      obtain ⟨v15, hb_v15, ho_v15⟩ := zB hr
      clear hr
      refine LW.cut (E := [(3, .ptr 0 0), (4, .ptr 1 0), (6, .p (.bool false)), (10, .p (.int .i64 (IntKind.i64.wrap (n.Tick.tdiv 3)))), (13, .ptr 2 0), (15, .p (.int .i64 (IntKind.i64.wrap (v13 + v14)))), (137, .p (.bool v15))]) (O := [.box [.p (.slice 1 (c.W.map i64P)), .p (.int .u64 c.Seed), .p (.int .i64 c.Epoch), .p (.int .i64 c.Num), .p (.int .i64 c.Den)], .box [.p (.int .i64 n.No), .p (.int .i64 n.Tick), .p (.slice 5 (n.V.B.map blkP)), .p (.slice 4 (n.V.V.map vtP)), .p (.slice 5 (n.In.B.map blkP)), .p (.slice 4 (n.In.V.map vtP)), .p (.slice 9 (n.O.map ofP)), .p (.int .u64 n.C.ID.1), .p (.int .u64 n.C.ID.2), .p (.int .i64 n.C.Slot), .p (.int .i64 n.C.Revoked), .p (.bool n.Full)], .box [.p (.int .i64 v12.1.No), .p (.int .i64 v12.1.Tick), .p (.slice 5 (v12.1.V.B.map blkP)), .p (.slice 4 (v12.1.V.V.map vtP)), .p (.slice 5 (v12.1.In.B.map blkP)), .p (.slice 4 (v12.1.In.V.map vtP)), .p (.slice 9 (v12.1.O.map ofP)), .p (.int .u64 v12.1.C.ID.1), .p (.int .u64 v12.1.C.ID.2), .p (.int .i64 v12.1.C.Slot), .p (.int .i64 v12.1.C.Revoked), .p (.bool v12.1.Full)]]) ?_ ?_
      ·have hr := hb_v15
       refine zR (zS Z Z Z (zA Z Z ft1071_1) (zS Z Z Z (zD Z Z Z vt3 Z Z) (zS Z Z Z (LOp.rem Z Z Z (by decide)) (zS Z Z Z (LOp.bin Z Z Z Z) (zM Z ?_)))))
       refine LOps.cases 130 Z (fun g13 => ?_) (fun g13 => ?_)
       ·
        refine zi g13 hr fun hr => zU Z Z Z (gd g13 Z) Z Z (zU Z Z Z (gd g13 Z) Z Z (zU Z Z Z (gd g13 Z) Z Z (zU Z Z Z (gd g13 Z) Z Z (zU Z Z Z (gd g13 Z) Z Z (zU Z Z Z (gd g13 Z) Z Z (zS Z Z Z (LOp.pickT Z (gdl g13 Z) Z) (zN (zT ?_))))))))
        obtain rfl := zJ hr
        exact zW 3 ⟨Z, Z, Z, Z, Z, Z, Z, trivial⟩ Z Z Z Z
       ·
        refine zo g13 hr fun hr => zV Z Z Z (gd g13 Z) Z (zD Z Z Z vt55 Z Z) (zV Z Z Z (gd g13 Z) Z (LOp.move Z Z) (zV Z Z Z (gd g13 Z) Z (zA Z Z ft1071_0) (zV Z Z Z (gd g13 Z) Z (zD Z Z Z vt3 Z Z) (zb hr fun v16 h_v16 hr => zV Z Z Z (gd g13 Z) Z (zC Z Z Z (by kernel_rfl) (LC.pure (c74 h_v16) (.cons Conv.p (.cons Conv.p (.cons Conv.p .nil))))) (zV Z Z Z (gd g13 Z) Z (LOp.not Z Z) (zS Z Z Z (LOp.pickF Z (gdl g13 Z) Z) (zN (zT ?_))))))))
        obtain rfl := zJ hr
        exact zW 3 ⟨Z, Z, Z, Z, Z, Z, Z, trivial⟩ Z Z Z Z
      ·have hr := ho_v15
       clear hb_v15
       refine zX Z (fun g14 => ?_) (fun g14 => ?_)
       ·
        refine zi g14 hr fun hr => zQ (zR (zM Z (zS Z Z Z (LOp.bin Z Z Z Z) (zM Z (zN (zT (LW.ret (thn_r ?_))))))))
        obtain rfl := zJ hr
        refine finP_ret (.one (.tmp Z)) ?_
        exact Conv.p
       ·
        refine zo g14 hr fun hr => LW.skip (zT (zQ (zR (zS Z Z Z (zA Z Z ft1071_3) (zS Z Z Z (zA Z Z ft75_1) (zS Z Z Z (zD Z Z Z vt68 Z Z) (zM Z (zN (zT (zQ (LW.draw (by kernel_rfl) (by kernel_rfl) (zH Z (zE Z Z Z (LOp.bin Z Z Z Z) (zH Z ?_))))))))))))))
        refine LO.cases 145 Z (fun (g15 : ((IntKind.i64.wrap (v13 + v14)) == 1) = true) => ?_) (fun (g15 : ((IntKind.i64.wrap (v13 + v14)) == 1) = false) => ?_)
        ·
         refine zi g15 hr fun hr => LO.gd Z Z Z (gd g15 Z) Z (LOp.move Z Z) (LO.gd Z Z Z (gd g15 Z) Z (LOp.lenM Z Z (by kernel_rfl)) (LO.gd Z Z Z (gd g15 Z) Z (LOp.bin Z Z Z Z) (zE Z Z Z (LOp.pickT Z (gdl g15 Z) Z) (zH Z ?_))))
         refine LO.cases 150 Z (fun (g16 : (decide ((v12.1.In.V.length : Int) > 0)) = true) => ?_) (fun (g16 : (decide ((v12.1.In.V.length : Int) > 0)) = false) => ?_)
         ·
          refine zi g16 hr fun hr => LO.gd Z Z Z (gd g16 Z) Z (LOp.move Z Z) (LO.gd Z Z Z (gd g16 Z) Z (LOp.move Z Z) (LO.gd Z Z Z (gd g16 Z) Z (LOp.lenM Z Z (by kernel_rfl)) (LO.gd Z Z Z (gd g16 Z) Z (LOp.bin Z Z Z Z) (zb hr fun y3 h_y3 hr => LO.gd Z Z Z (gd g16 Z) Z (LOp.indexAddrX Z Z Z st68 h_y3 Z) (LO.gd Z Z Z (gd g16 Z) Z (LOp.loadC Z Z Z vt82 Z Z) (LO.gd Z Z Z (gd g16 Z) Z (zA Z Z ft1071_0) (LO.gd Z Z Z (gd g16 Z) Z (zD Z Z Z vt3 Z Z) (LO.gd Z Z Z (gd g16 Z) Z (LOp.move Z Z) (LO.gd Z Z Z (gd g16 Z) Z (zD Z Z Z vt55 Z Z) (LO.gd Z Z Z (gd g16 Z) Z (zD Z Z Z vt1071 Z Z) (zb hr fun v17 h_v17 hr => LO.gd Z Z Z (gd g16 Z) Z (zC Z Z Z (by kernel_rfl) (LC.pure (c1030 h_v17) (.cons Conv.p (.cons Conv.p .nil)))) (LO.gd Z Z Z (gd g16 Z) Z (LOp.build Z bt82 Z Z Z) (LO.gd Z Z Z (gd g16 Z) Z (LOp.eqlAgg Z Z Z Z Z eqt82) (zE Z Z Z (LOp.pickT Z (gdl g16 Z) Z) (zH Z (LO.nil (zT (LW.ret ?_))))))))))))))))))
          obtain rfl := zJ hr
          refine finP_ret (.one (.tmp Z)) ?_
          exact Conv.p
         ·
          refine zo g16 hr fun hr => LO.sk Z Z Z (gd g16 Z) Z Z (LO.sk Z Z Z (gd g16 Z) Z Z (LO.sk Z Z Z (gd g16 Z) Z Z (LO.sk Z Z Z (gd g16 Z) Z Z (LO.sk Z Z Z (gd g16 Z) Z Z (LO.sk Z Z Z (gd g16 Z) Z Z (LO.sk Z Z Z (gd g16 Z) Z Z (LO.sk Z Z Z (gd g16 Z) Z Z (LO.sk Z Z Z (gd g16 Z) Z Z (LO.sk Z Z Z (gd g16 Z) Z Z (LO.sk Z Z Z (gd g16 Z) Z Z (LO.sk Z Z Z (gd g16 Z) Z Z (LO.sk Z Z Z (gd g16 Z) Z Z (LO.sk Z Z Z (gd g16 Z) Z Z (zE Z Z Z (LOp.pickF Z (gdl g16 Z) Z) (zH Z (LO.nil (zT (LW.ret ?_))))))))))))))))))
          obtain rfl := zJ hr
          refine finP_ret (.one (.tmp Z)) ?_
          exact Conv.p
        ·
         refine zo g15 hr fun hr => LO.sk Z Z Z (gd g15 Z) Z Z (LO.sk Z Z Z (gd g15 Z) Z Z (LO.sk Z Z Z (gd g15 Z) Z Z (zE Z Z Z (LOp.pickF Z (gdl g15 Z) Z) (zH Z (LO.sk Z Z Z Z Z Z (LO.sk Z Z Z Z Z Z (LO.sk Z Z Z Z Z Z (LO.sk Z Z Z Z Z Z (LO.sk Z Z Z Z Z Z (LO.sk Z Z Z Z Z Z (LO.sk Z Z Z Z Z Z (LO.sk Z Z Z Z Z Z (LO.sk Z Z Z Z Z Z (LO.sk Z Z Z Z Z Z (LO.sk Z Z Z Z Z Z (LO.sk Z Z Z Z Z Z (LO.sk Z Z Z Z Z Z (LO.sk Z Z Z Z Z Z (zE Z Z Z (LOp.pickF Z Z Z) (zH Z (LO.nil (zT ?_))))))))))))))))))))))
         refine LW.ret ?_
         obtain rfl := zJ hr
         refine finP_ret (.one (.tmp Z)) ?_
         exact Conv.p
theorem F3013_eq : F3013 = some true := by kernel_rfl
end Go.Mg
