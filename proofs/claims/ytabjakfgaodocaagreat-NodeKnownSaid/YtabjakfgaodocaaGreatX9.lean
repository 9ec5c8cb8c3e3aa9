/- Laws of nodes. The example of nodes. Conditions: none. -/
import Derived.Test.YtabjakfgaodocaaGreatX3
import Derived.Test.YtabjakfgaodocaaGreatX7
import Derived.Test.YtabjakfgaodocaaGreatX8
namespace Go.Mg
open Go.Proofs
def F3013 : Option Bool :=
  (F125 ).bind fun v1 =>
  (F3043 0).bind fun v2 =>
  (F3018 v1 v2 (Vw.mk [] []) ([] : List Of)).bind fun v3 =>
  (
    bif (v3.2.length : Int) != 1 then
      some true
    else
      (ix v3.2 0).bind fun y1 =>
      bif !((y1.B.Slot == 1) && ((y1.B.From == 0) && ((y1.B.Parent.1 == 0) && ((y1.B.Parent.2 == 0) && ((y1.B.Salt == 0) && true))))) then
        some true
      else
        some ((v3.1.V.B.length : Int) != 1)
  ).bind fun v4 =>
  bif v4 then
    some false
  else
    (F3018 v1 v3.1 (Vw.mk [] []) v3.2).bind fun v5 =>
    (F3018 v1 v5.1 (Vw.mk [] []) ([] : List Of)).bind fun v6 =>
    bif (v6.1.V.V.length : Int) == 1 then
      bif ((v6.1.C.ID.1 == ((nm (Bk.mk 1 0 (0, 0) 0)).1)) && ((v6.1.C.ID.2 == ((nm (Bk.mk 1 0 (0, 0) 0)).2)) && true)) then
        bif v6.1.C.Revoked == 0 then
          (F1030 v1 v6.1).bind fun v7 =>
          bif ((v7.1 == ((nm (Bk.mk 1 0 (0, 0) 0)).1)) && ((v7.2 == ((nm (Bk.mk 1 0 (0, 0) 0)).2)) && true)) then
            some (v6.1.Tick == 6)
          else
            some false
        else
          some false
      else
        some false
    else
      some false
set_option maxRecDepth 100000 in
theorem c3013 {r_ : Bool} (hr : F3013 = some r_) : LPure Tryz.prog 13 [] [.bool r_] := by
  refine LPure.start Tryz.func13 Z Z Z Z ?_
  unfold F3013 at hr
  refine zQ (zR (zM Z (zN (zT (zQ (zR ?_))))))
  obtain ⟨v1, h_v1, hr⟩ := zB hr
  refine zS Z Z Z (zC Z Z Z (by kernel_rfl) (LC.pure (c125 h_v1) .nil)) (zS Z Z Z (LOp.alloc Z zt55 Z Z) (zS Z Z Z (LOp.store Z Z Z Z vt55 Z Z Z Z) (zN (zT (zQ (zR ?_))))))
  obtain ⟨v2, h_v2, hr⟩ := zB hr
  refine zS Z Z Z (zC Z Z Z (by kernel_rfl) (LC.pure (c3043 h_v2) (.cons Conv.p .nil))) (zS Z Z Z (LOp.alloc Z zt1071 Z Z) (zS Z Z Z (LOp.store Z Z Z Z vt1071 Z Z Z Z) (zN (zT (zQ (zR (zS Z Z Z (zD Z Z Z vt55 Z Z) (zS Z Z Z (zD Z Z Z vt1071 Z Z) (zS Z Z Z (LOp.build Z bt75 Z Z Z) ?_)))))))))
  obtain ⟨v3, h_v3, hr⟩ := zB hr
  refine zS Z Z Z (zC Z Z Z (by kernel_rfl) (LC.pure (c3018 h_v3) (.cons Conv.p (.cons Conv.p (.cons (Conv.agg (.cons Conv.zs (.cons Conv.zs .nil))) (.cons Conv.zs .nil)))))) (zM Z (zS Z Z Z (LOp.extract Z Z Z) (zS Z Z Z (LOp.extract Z Z Z) (zS Z Z Z (LOp.store Z Z Z Z vt1071 Z Z Z Z) (zM Z (zN (zT (zQ (zR (zS Z Z Z (LOp.build Z bt42 Z Z Z) (zS Z Z Z (LOp.alloc Z zt42 Z Z) ?_)))))))))))
  refine zS Z Z Z (LOp.store Z Z Z Z vt42 Z Z Z Z) (zN (zT (zQ ?_)))
  obtain ⟨v4, hb_v4, ho_v4⟩ := zB hr
  clear hr
  refine LW.cut (E := [(0, .p (.bool false)), (1, .ptr 0 0), (2, .ptr 1 0), (3, .p (.slice 9 (v3.2.map ofP))), (4, .ptr 2 0), (32, .p (.bool v4))]) (O := [.box [.p (.slice 1 (v1.W.map i64P)), .p (.int .u64 v1.Seed), .p (.int .i64 v1.Epoch), .p (.int .i64 v1.Num), .p (.int .i64 v1.Den)], .box [.p (.int .i64 v3.1.No), .p (.int .i64 v3.1.Tick), .p (.slice 5 (v3.1.V.B.map blkP)), .p (.slice 4 (v3.1.V.V.map vtP)), .p (.slice 5 (v3.1.In.B.map blkP)), .p (.slice 4 (v3.1.In.V.map vtP)), .p (.slice 9 (v3.1.O.map ofP)), .p (.int .u64 v3.1.C.ID.1), .p (.int .u64 v3.1.C.ID.2), .p (.int .i64 v3.1.C.Slot), .p (.int .i64 v3.1.C.Revoked), .p (.bool v3.1.Full)], .box [.p (.int .i64 1), .p (.int .i64 0), .p (.int .u64 0), .p (.int .u64 0), .p (.int .u64 0)]]) ?_ ?_
  · have hr := hb_v4
    refine LW.draw (by kernel_rfl) (by kernel_rfl) (zH Z (zE Z Z Z (LOp.lenM Z Z (by kernel_rfl)) (zE Z Z Z (LOp.bin Z Z Z Z) (zH Z ?_))))
    refine LO.cases 18 Z (fun (g1 : ((v3.2.length : Int) != 1) = true) => ?_) (fun (g1 : ((v3.2.length : Int) != 1) = false) => ?_)
    ·
      have hr := zI g1 hr
      refine LO.sk Z Z Z (gd g1 Z) Z Z (LO.sk Z Z Z (gd g1 Z) Z Z (LO.sk Z Z Z (gd g1 Z) Z Z (LO.sk Z Z Z (gd g1 Z) Z Z (LO.sk Z Z Z (gd g1 Z) Z Z (LO.sk Z Z Z (gd g1 Z) Z Z (zE Z Z Z (LOp.pickT Z (gdl g1 Z) Z) (zH Z (LO.sk Z Z Z Z Z Z (LO.sk Z Z Z Z Z Z (LO.sk Z Z Z Z Z Z (LO.sk Z Z Z Z Z Z ?_)))))))))))
      refine LO.sk Z Z Z Z Z Z (zE Z Z Z (LOp.pickT Z Z Z) (LO.nil (zT ?_)))
      obtain rfl := zJ hr
      exact zW 3 ⟨Z, Z, Z, Z, Z, Z, trivial⟩ Z Z Z Z
    ·
      have hr := zO g1 hr
      refine LO.gd Z Z Z (gd g1 Z) Z (LOp.move Z Z) ?_
      obtain ⟨y1, h_y1, hr⟩ := zB hr
      refine LO.gd Z Z Z (gd g1 Z) Z (LOp.indexAddrX Z Z Z st1036 h_y1 Z) (LO.gd Z Z Z (gd g1 Z) Z (LOp.fieldAddrC Z Z ft1077_2 Z) (LO.gd Z Z Z (gd g1 Z) Z (LOp.loadC Z Z Z vt42 Z Z) (LO.gd Z Z Z (gd g1 Z) Z (zD Z Z Z vt42 Z Z) (LO.gd Z Z Z (gd g1 Z) Z (LOp.neqAgg Z Z Z Z Z eqt42) (zE Z Z Z (LOp.pickF Z (gdl g1 Z) Z) (zH Z ?_))))))
      refine LO.cases 26 Z (fun (g2 : (!((y1.B.Slot == 1) && ((y1.B.From == 0) && ((y1.B.Parent.1 == 0) && ((y1.B.Parent.2 == 0) && ((y1.B.Salt == 0) && true)))))) = true) => ?_) (fun (g2 : (!((y1.B.Slot == 1) && ((y1.B.From == 0) && ((y1.B.Parent.1 == 0) && ((y1.B.Parent.2 == 0) && ((y1.B.Salt == 0) && true)))))) = false) => ?_)
      ·
        have hr := zI g2 hr
        refine LO.sk Z Z Z (gd g2 Z) Z Z (LO.sk Z Z Z (gd g2 Z) Z Z (LO.sk Z Z Z (gd g2 Z) Z Z (LO.sk Z Z Z (gd g2 Z) Z Z (LO.sk Z Z Z (gd g2 Z) Z Z (zE Z Z Z (LOp.pickT Z (gdl g2 Z) Z) (LO.nil (zT ?_)))))))
        obtain rfl := zJ hr
        exact zW 3 ⟨Z, Z, Z, Z, Z, Z, trivial⟩ Z Z Z Z
      ·
        have hr := zO g2 hr
        refine LO.gd Z Z Z (gd g2 Z) Z (zA Z Z ft1071_2) (LO.gd Z Z Z (gd g2 Z) Z (zA Z Z ft75_0) (LO.gd Z Z Z (gd g2 Z) Z (zD Z Z Z vt27 Z Z) (LO.gd Z Z Z (gd g2 Z) Z (LOp.lenM Z Z (by kernel_rfl)) (LO.gd Z Z Z (gd g2 Z) Z (LOp.bin Z Z Z Z) (zE Z Z Z (LOp.pickF Z (gdl g2 Z) Z) (LO.nil (zT ?_)))))))
        obtain rfl := zJ hr
        exact zW 3 ⟨Z, Z, Z, Z, Z, Z, trivial⟩ Z Z Z Z
  · have hr := ho_v4
    clear hb_v4
    refine zX Z (fun (g3 : v4 = true) => ?_) (fun (g3 : v4 = false) => ?_)
    ·
      have hr := zI g3 hr
      refine zQ (zR (zM Z (zN (zT (LW.ret (thn_r ?_))))))
      obtain rfl := zJ hr
      refine finP_ret (.one (.tmp Z)) ?_
      exact Conv.p
    ·
      have hr := zO g3 hr
      refine LW.skip (zT (zQ (zR (zS Z Z Z (zD Z Z Z vt55 Z Z) (zS Z Z Z (zD Z Z Z vt1071 Z Z) (zS Z Z Z (LOp.build Z bt75 Z Z Z) (zM Z ?_)))))))
      obtain ⟨v5, h_v5, hr⟩ := zB hr
      refine zS Z Z Z (zC Z Z Z (by kernel_rfl) (LC.pure (c3018 h_v5) (.cons Conv.p (.cons Conv.p (.cons (Conv.agg (.cons Conv.zs (.cons Conv.zs .nil))) (.cons Conv.p .nil)))))) (zM Z (zS Z Z Z (LOp.extract Z Z Z) (zS Z Z Z (LOp.extract Z Z Z) (zS Z Z Z (LOp.store Z Z Z Z vt1071 Z Z Z Z) (zN (zT (zQ (zR (zS Z Z Z (zD Z Z Z vt55 Z Z) (zS Z Z Z (zD Z Z Z vt1071 Z Z) (zS Z Z Z (LOp.build Z bt75 Z Z Z) ?_)))))))))))
      obtain ⟨v6, h_v6, hr⟩ := zB hr
      refine zS Z Z Z (zC Z Z Z (by kernel_rfl) (LC.pure (c3018 h_v6) (.cons Conv.p (.cons Conv.p (.cons (Conv.agg (.cons Conv.zs (.cons Conv.zs .nil))) (.cons Conv.zs .nil)))))) (zM Z (zS Z Z Z (LOp.extract Z Z Z) (zS Z Z Z (LOp.extract Z Z Z) (zS Z Z Z (LOp.store Z Z Z Z vt1071 Z Z Z Z) (zN (zT (zQ (LW.draw (by kernel_rfl) (by kernel_rfl) (zE Z Z Z (zA Z Z ft1071_2) (zE Z Z Z (zA Z Z ft75_1) (zE Z Z Z (zD Z Z Z vt68 Z Z) ?_)))))))))))
      refine zE Z Z Z (LOp.lenM Z Z (by kernel_rfl)) (zE Z Z Z (LOp.bin Z Z Z Z) (zH Z ?_))
      refine LO.cases 53 Z (fun (g4 : ((v6.1.V.V.length : Int) == 1) = true) => ?_) (fun (g4 : ((v6.1.V.V.length : Int) == 1) = false) => ?_)
      ·
        have hr := zI g4 hr
        refine LO.gd Z Z Z (gd g4 Z) Z (zA Z Z ft1071_5) (LO.gd Z Z Z (gd g4 Z) Z (zA Z Z ft26_0) (LO.gd Z Z Z (gd g4 Z) Z (zD Z Z Z vt24 Z Z) (LO.gd Z Z Z (gd g4 Z) Z (zD Z Z Z vt42 Z Z) (LO.gd Z Z Z (gd g4 Z) Z (zC Z Z Z (by kernel_rfl) (LC.pure (c50 (b := (Bk.mk 1 0 (0, 0) 0))) (.cons Conv.p .nil))) (LO.gd Z Z Z (gd g4 Z) Z (LOp.eqlAgg Z Z Z Z Z eqt24) (zE Z Z Z (LOp.pickT Z (gdl g4 Z) Z) (zH Z ?_)))))))
        refine LO.cases 61 Z (fun (g5 : ((v6.1.C.ID.1 == ((nm (Bk.mk 1 0 (0, 0) 0)).1)) && ((v6.1.C.ID.2 == ((nm (Bk.mk 1 0 (0, 0) 0)).2)) && true)) = true) => ?_) (fun (g5 : ((v6.1.C.ID.1 == ((nm (Bk.mk 1 0 (0, 0) 0)).1)) && ((v6.1.C.ID.2 == ((nm (Bk.mk 1 0 (0, 0) 0)).2)) && true)) = false) => ?_)
        ·
          have hr := zI g5 hr
          refine LO.gd Z Z Z (gd g5 Z) Z (zA Z Z ft1071_5) (LO.gd Z Z Z (gd g5 Z) Z (zA Z Z ft26_2) (LO.gd Z Z Z (gd g5 Z) Z (zD Z Z Z vt3 Z Z) (LO.gd Z Z Z (gd g5 Z) Z (LOp.bin Z Z Z Z) (zE Z Z Z (LOp.pickT Z (gdl g5 Z) Z) (zH Z ?_)))))
          refine LO.cases 67 Z (fun (g6 : (v6.1.C.Revoked == 0) = true) => ?_) (fun (g6 : (v6.1.C.Revoked == 0) = false) => ?_)
          ·
            have hr := zI g6 hr
            refine LO.gd Z Z Z (gd g6 Z) Z (zD Z Z Z vt55 Z Z) (LO.gd Z Z Z (gd g6 Z) Z (zD Z Z Z vt1071 Z Z) ?_)
            obtain ⟨v7, h_v7, hr⟩ := zB hr
            refine LO.gd Z Z Z (gd g6 Z) Z (zC Z Z Z (by kernel_rfl) (LC.pure (c1030 h_v7) (.cons Conv.p (.cons Conv.p .nil)))) (LO.gd Z Z Z (gd g6 Z) Z (zD Z Z Z vt42 Z Z) (LO.gd Z Z Z (gd g6 Z) Z (zC Z Z Z (by kernel_rfl) (LC.pure (c50 (b := (Bk.mk 1 0 (0, 0) 0))) (.cons Conv.p .nil))) (LO.gd Z Z Z (gd g6 Z) Z (LOp.eqlAgg Z Z Z Z Z eqt24) (zE Z Z Z (LOp.pickT Z (gdl g6 Z) Z) (zH Z ?_)))))
            refine LO.cases 75 Z (fun (g7 : ((v7.1 == ((nm (Bk.mk 1 0 (0, 0) 0)).1)) && ((v7.2 == ((nm (Bk.mk 1 0 (0, 0) 0)).2)) && true)) = true) => ?_) (fun (g7 : ((v7.1 == ((nm (Bk.mk 1 0 (0, 0) 0)).1)) && ((v7.2 == ((nm (Bk.mk 1 0 (0, 0) 0)).2)) && true)) = false) => ?_)
            ·
              have hr := zI g7 hr
              refine LO.gd Z Z Z (gd g7 Z) Z (zA Z Z ft1071_1) (LO.gd Z Z Z (gd g7 Z) Z (zD Z Z Z vt3 Z Z) (LO.gd Z Z Z (gd g7 Z) Z (LOp.bin Z Z Z Z) (zE Z Z Z (LOp.pickT Z (gdl g7 Z) Z) (zH Z (LO.nil (zT (LW.ret ?_)))))))
              obtain rfl := zJ hr
              refine finP_ret (.one (.tmp Z)) ?_
              exact Conv.p
            ·
              have hr := zO g7 hr
              refine LO.sk Z Z Z (gd g7 Z) Z Z (LO.sk Z Z Z (gd g7 Z) Z Z (LO.sk Z Z Z (gd g7 Z) Z Z (zE Z Z Z (LOp.pickF Z (gdl g7 Z) Z) (zH Z (LO.nil (zT (LW.ret ?_)))))))
              obtain rfl := zJ hr
              refine finP_ret (.one (.tmp Z)) ?_
              exact Conv.p
          ·
            have hr := zO g6 hr
            refine LO.sk Z Z Z (gd g6 Z) Z Z (LO.sk Z Z Z (gd g6 Z) Z Z (LO.sk Z Z Z (gd g6 Z) Z Z (LO.sk Z Z Z (gd g6 Z) Z Z (LO.sk Z Z Z (gd g6 Z) Z Z (LO.sk Z Z Z (gd g6 Z) Z Z (zE Z Z Z (LOp.pickF Z (gdl g6 Z) Z) (zH Z (LO.sk Z Z Z Z Z Z (LO.sk Z Z Z Z Z Z (LO.sk Z Z Z Z Z Z (zE Z Z Z (LOp.pickF Z Z Z) ?_)))))))))))
            refine zH Z (LO.nil (zT (LW.ret ?_)))
            obtain rfl := zJ hr
            refine finP_ret (.one (.tmp Z)) ?_
            exact Conv.p
        ·
          have hr := zO g5 hr
          refine LO.sk Z Z Z (gd g5 Z) Z Z (LO.sk Z Z Z (gd g5 Z) Z Z (LO.sk Z Z Z (gd g5 Z) Z Z (LO.sk Z Z Z (gd g5 Z) Z Z (zE Z Z Z (LOp.pickF Z (gdl g5 Z) Z) (zH Z (LO.sk Z Z Z Z Z Z (LO.sk Z Z Z Z Z Z (LO.sk Z Z Z Z Z Z (LO.sk Z Z Z Z Z Z (LO.sk Z Z Z Z Z Z (LO.sk Z Z Z Z Z Z ?_)))))))))))
          refine zE Z Z Z (LOp.pickF Z Z Z) (zH Z (LO.sk Z Z Z Z Z Z (LO.sk Z Z Z Z Z Z (LO.sk Z Z Z Z Z Z (zE Z Z Z (LOp.pickF Z Z Z) (zH Z (LO.nil (zT (LW.ret ?_)))))))))
          obtain rfl := zJ hr
          refine finP_ret (.one (.tmp Z)) ?_
          exact Conv.p
      ·
        have hr := zO g4 hr
        refine LO.sk Z Z Z (gd g4 Z) Z Z (LO.sk Z Z Z (gd g4 Z) Z Z (LO.sk Z Z Z (gd g4 Z) Z Z (LO.sk Z Z Z (gd g4 Z) Z Z (LO.sk Z Z Z (gd g4 Z) Z Z (LO.sk Z Z Z (gd g4 Z) Z Z (zE Z Z Z (LOp.pickF Z (gdl g4 Z) Z) (zH Z (LO.sk Z Z Z Z Z Z (LO.sk Z Z Z Z Z Z (LO.sk Z Z Z Z Z Z (LO.sk Z Z Z Z Z Z ?_)))))))))))
        refine zE Z Z Z (LOp.pickF Z Z Z) (zH Z (LO.sk Z Z Z Z Z Z (LO.sk Z Z Z Z Z Z (LO.sk Z Z Z Z Z Z (LO.sk Z Z Z Z Z Z (LO.sk Z Z Z Z Z Z (LO.sk Z Z Z Z Z Z (zE Z Z Z (LOp.pickF Z Z Z) (zH Z (LO.sk Z Z Z Z Z Z (LO.sk Z Z Z Z Z Z ?_)))))))))))
        refine LO.sk Z Z Z Z Z Z (zE Z Z Z (LOp.pickF Z Z Z) (zH Z (LO.nil (zT (LW.ret ?_)))))
        obtain rfl := zJ hr
        refine finP_ret (.one (.tmp Z)) ?_
        exact Conv.p
structure F3023_L1 where
  n : Int
  i : Int
structure F3005_L1 where
  i : Int
structure F3005_L2 where
  i : Int
def F3006 (c : Cf) (n : Nd) (v_in : Vw) : Option Bool :=
  (F3013 ).bind fun v1 =>
  (F3014 n 25).bind fun v2 =>
  (F84 v_in 25).bind fun v3 =>
  (
    bif !v1 then
      some true
    else
      bif !v2 then
        some true
      else
        bif !v3 then
          some true
        else
          bif decide ((c.W.length : Int) > 40) then
            some true
          else
            (F64 c).bind fun v5 =>
            bif !v5 then
              some true
            else
              bif decide (n.Tick < 3) then
                some true
              else
                bif decide (n.Tick > 1000000) then
                  some true
                else
                  bif (n.Tick.tmod 3) != 1 then
                    some true
                  else
                    some (decide ((n.O.length : Int) > 0))
  ).bind fun v4 =>
  bif v4 then
    some v1
  else
    (F3018 c n v_in ([] : List Of)).bind fun v6 =>
    (F1051 v6.1).bind fun v7 =>
    (F85 c v_in).bind fun v8 =>
    (F141 v7 v8).bind fun v9 =>
    (F1051 n).bind fun v10 =>
    (F141 v7 v10).bind fun v11 =>
    bif (v9.B.length : Int) == (v7.B.length : Int) then
      bif (v9.V.length : Int) == (v7.V.length : Int) then
        bif (v11.B.length : Int) == (v7.B.length : Int) then
          some ((v11.V.length : Int) == (v7.V.length : Int))
        else
          some false
      else
        some false
    else
      some false
set_option maxRecDepth 100000 in
theorem c3006 {c : Cf} {n : Nd} {v_in : Vw} {r_ : Bool} (hr : F3006 c n v_in = some r_) : LPure Tryz.prog 6 [cfP c, ndP n, vwP v_in] [.bool r_] := by
  refine LPure.start Tryz.func6 Z Z Z Z ?_
  unfold F3006 at hr
  refine zQ (zR (zS Z Z Z (LOp.box Z Z Z Z Z) (zS Z Z Z (LOp.box Z Z Z Z Z) (zS Z Z Z (LOp.box Z Z Z Z Z) (zM Z (zN (zT (zQ (zR ?_)))))))))
  obtain ⟨v1, h_v1, hr⟩ := zB hr
  refine zS Z Z Z (zC Z Z Z (by kernel_rfl) (LC.pure (c3013 h_v1) .nil)) (zM Z (zN (zT (zQ (zR (zS Z Z Z (zD Z Z Z vt1071 Z Z) ?_))))))
  obtain ⟨v2, h_v2, hr⟩ := zB hr
  refine zS Z Z Z (zC Z Z Z (by kernel_rfl) (LC.pure (c3014 h_v2) (.cons Conv.p (.cons Conv.p .nil)))) (zM Z (zN (zT (zQ (zR (zS Z Z Z (zD Z Z Z vt75 Z Z) ?_))))))
  obtain ⟨v3, h_v3, hr⟩ := zB hr
  refine zS Z Z Z (zC Z Z Z (by kernel_rfl) (LC.pure (c84 h_v3) (.cons Conv.p (.cons Conv.p .nil)))) (zM Z (zN (zT (zQ ?_))))
  obtain ⟨v4, hb_v4, ho_v4⟩ := zB hr
  clear hr
  refine LW.cut (E := [(3, .ptr 0 0), (4, .ptr 1 0), (5, .ptr 2 0), (6, .p (.bool false)), (7, .p (.bool v1)), (62, .p (.bool v4))]) (O := [.box [.p (.slice 1 (c.W.map i64P)), .p (.int .u64 c.Seed), .p (.int .i64 c.Epoch), .p (.int .i64 c.Num), .p (.int .i64 c.Den)], .box [.p (.int .i64 n.No), .p (.int .i64 n.Tick), .p (.slice 5 (n.V.B.map blkP)), .p (.slice 4 (n.V.V.map vtP)), .p (.slice 5 (n.In.B.map blkP)), .p (.slice 4 (n.In.V.map vtP)), .p (.slice 9 (n.O.map ofP)), .p (.int .u64 n.C.ID.1), .p (.int .u64 n.C.ID.2), .p (.int .i64 n.C.Slot), .p (.int .i64 n.C.Revoked), .p (.bool n.Full)], .box [.p (.slice 5 (v_in.B.map blkP)), .p (.slice 4 (v_in.V.map vtP))]]) ?_ ?_
  · have hr := hb_v4
    refine zR (zM Z (zS Z Z Z (LOp.not Z Z) (zM Z ?_)))
    refine LOps.cases 22 Z (fun (g1 : (!v1) = true) => ?_) (fun (g1 : (!v1) = false) => ?_)
    ·
      have hr := zI g1 hr
      refine zU Z Z Z (gd g1 Z) Z Z (zU Z Z Z (gd g1 Z) Z Z (zS Z Z Z (LOp.pickT Z (gdl g1 Z) Z) (zM Z (zU Z Z Z Z Z Z (zU Z Z Z Z Z Z (zS Z Z Z (LOp.pickT Z Z Z) (zM Z (zU Z Z Z Z Z Z (zU Z Z Z Z Z Z (zU Z Z Z Z Z Z (zU Z Z Z Z Z Z ?_)))))))))))
      refine zS Z Z Z (LOp.pickT Z Z Z) (zM Z (zU Z Z Z Z Z Z (zU Z Z Z Z Z Z (zU Z Z Z Z Z Z (zS Z Z Z (LOp.pickT Z Z Z) (zM Z (zU Z Z Z Z Z Z (zU Z Z Z Z Z Z (zU Z Z Z Z Z Z (zS Z Z Z (LOp.pickT Z Z Z) (zM Z ?_)))))))))))
      refine zU Z Z Z Z Z Z (zU Z Z Z Z Z Z (zU Z Z Z Z Z Z (zS Z Z Z (LOp.pickT Z Z Z) (zM Z (zU Z Z Z Z Z Z (zU Z Z Z Z Z Z (zU Z Z Z Z Z Z (zU Z Z Z Z Z Z (zS Z Z Z (LOp.pickT Z Z Z) (zM Z (zU Z Z Z Z Z Z ?_)))))))))))
      refine zU Z Z Z Z Z Z (zU Z Z Z Z Z Z (zU Z Z Z Z Z Z (zS Z Z Z (LOp.pickT Z Z Z) (zN (zT ?_)))))
      obtain rfl := zJ hr
      exact zW 3 ⟨Z, Z, Z, Z, Z, Z, trivial⟩ Z Z Z Z
    ·
      have hr := zO g1 hr
      refine zV Z Z Z (gd g1 Z) Z (LOp.move Z Z) (zV Z Z Z (gd g1 Z) Z (LOp.not Z Z) (zS Z Z Z (LOp.pickF Z (gdl g1 Z) Z) (zM Z ?_)))
      refine LOps.cases 26 Z (fun (g2 : (!v2) = true) => ?_) (fun (g2 : (!v2) = false) => ?_)
      ·
        have hr := zI g2 hr
        refine zU Z Z Z (gd g2 Z) Z Z (zU Z Z Z (gd g2 Z) Z Z (zS Z Z Z (LOp.pickT Z (gdl g2 Z) Z) (zM Z (zU Z Z Z Z Z Z (zU Z Z Z Z Z Z (zU Z Z Z Z Z Z (zU Z Z Z Z Z Z (zS Z Z Z (LOp.pickT Z Z Z) (zM Z (zU Z Z Z Z Z Z (zU Z Z Z Z Z Z ?_)))))))))))
        refine zU Z Z Z Z Z Z (zS Z Z Z (LOp.pickT Z Z Z) (zM Z (zU Z Z Z Z Z Z (zU Z Z Z Z Z Z (zU Z Z Z Z Z Z (zS Z Z Z (LOp.pickT Z Z Z) (zM Z (zU Z Z Z Z Z Z (zU Z Z Z Z Z Z (zU Z Z Z Z Z Z (zS Z Z Z (LOp.pickT Z Z Z) ?_)))))))))))
        refine zM Z (zU Z Z Z Z Z Z (zU Z Z Z Z Z Z (zU Z Z Z Z Z Z (zU Z Z Z Z Z Z (zS Z Z Z (LOp.pickT Z Z Z) (zM Z (zU Z Z Z Z Z Z (zU Z Z Z Z Z Z (zU Z Z Z Z Z Z (zU Z Z Z Z Z Z (zS Z Z Z (LOp.pickT Z Z Z) ?_)))))))))))
        refine zN (zT ?_)
        obtain rfl := zJ hr
        exact zW 3 ⟨Z, Z, Z, Z, Z, Z, trivial⟩ Z Z Z Z
      ·
        have hr := zO g2 hr
        refine zV Z Z Z (gd g2 Z) Z (LOp.move Z Z) (zV Z Z Z (gd g2 Z) Z (LOp.not Z Z) (zS Z Z Z (LOp.pickF Z (gdl g2 Z) Z) (zM Z ?_)))
        refine LOps.cases 30 Z (fun (g3 : (!v3) = true) => ?_) (fun (g3 : (!v3) = false) => ?_)
        ·
          have hr := zI g3 hr
          refine zU Z Z Z (gd g3 Z) Z Z (zU Z Z Z (gd g3 Z) Z Z (zU Z Z Z (gd g3 Z) Z Z (zU Z Z Z (gd g3 Z) Z Z (zS Z Z Z (LOp.pickT Z (gdl g3 Z) Z) (zM Z (zU Z Z Z Z Z Z (zU Z Z Z Z Z Z (zU Z Z Z Z Z Z (zS Z Z Z (LOp.pickT Z Z Z) (zM Z (zU Z Z Z Z Z Z ?_)))))))))))
          refine zU Z Z Z Z Z Z (zU Z Z Z Z Z Z (zS Z Z Z (LOp.pickT Z Z Z) (zM Z (zU Z Z Z Z Z Z (zU Z Z Z Z Z Z (zU Z Z Z Z Z Z (zS Z Z Z (LOp.pickT Z Z Z) (zM Z (zU Z Z Z Z Z Z (zU Z Z Z Z Z Z (zU Z Z Z Z Z Z ?_)))))))))))
          refine zU Z Z Z Z Z Z (zS Z Z Z (LOp.pickT Z Z Z) (zM Z (zU Z Z Z Z Z Z (zU Z Z Z Z Z Z (zU Z Z Z Z Z Z (zU Z Z Z Z Z Z (zS Z Z Z (LOp.pickT Z Z Z) (zN (zT ?_)))))))))
          obtain rfl := zJ hr
          exact zW 3 ⟨Z, Z, Z, Z, Z, Z, trivial⟩ Z Z Z Z
        ·
          have hr := zO g3 hr
          refine zV Z Z Z (gd g3 Z) Z (zA Z Z ft55_0) (zV Z Z Z (gd g3 Z) Z (zD Z Z Z vt49 Z Z) (zV Z Z Z (gd g3 Z) Z (LOp.lenM Z Z (by kernel_rfl)) (zV Z Z Z (gd g3 Z) Z (LOp.bin Z Z Z Z) (zS Z Z Z (LOp.pickF Z (gdl g3 Z) Z) (zM Z ?_)))))
          refine LOps.cases 36 Z (fun (g4 : (decide ((c.W.length : Int) > 40)) = true) => ?_) (fun (g4 : (decide ((c.W.length : Int) > 40)) = false) => ?_)
          ·
            have hr := zI g4 hr
            refine zU Z Z Z (gd g4 Z) Z Z (zU Z Z Z (gd g4 Z) Z Z (zU Z Z Z (gd g4 Z) Z Z (zS Z Z Z (LOp.pickT Z (gdl g4 Z) Z) (zM Z (zU Z Z Z Z Z Z (zU Z Z Z Z Z Z (zU Z Z Z Z Z Z (zS Z Z Z (LOp.pickT Z Z Z) (zM Z (zU Z Z Z Z Z Z (zU Z Z Z Z Z Z ?_)))))))))))
            refine zU Z Z Z Z Z Z (zS Z Z Z (LOp.pickT Z Z Z) (zM Z (zU Z Z Z Z Z Z (zU Z Z Z Z Z Z (zU Z Z Z Z Z Z (zU Z Z Z Z Z Z (zS Z Z Z (LOp.pickT Z Z Z) (zM Z (zU Z Z Z Z Z Z (zU Z Z Z Z Z Z (zU Z Z Z Z Z Z ?_)))))))))))
            refine zU Z Z Z Z Z Z (zS Z Z Z (LOp.pickT Z Z Z) (zN (zT ?_)))
            obtain rfl := zJ hr
            exact zW 3 ⟨Z, Z, Z, Z, Z, Z, trivial⟩ Z Z Z Z
          ·
            have hr := zO g4 hr
            refine zV Z Z Z (gd g4 Z) Z (zD Z Z Z vt55 Z Z) ?_
            obtain ⟨v5, h_v5, hr⟩ := zB hr
            refine zV Z Z Z (gd g4 Z) Z (zC Z Z Z (by kernel_rfl) (LC.pure (c64 h_v5) (.cons Conv.p .nil))) (zV Z Z Z (gd g4 Z) Z (LOp.not Z Z) (zS Z Z Z (LOp.pickF Z (gdl g4 Z) Z) (zM Z ?_)))
            refine LOps.cases 41 Z (fun (g5 : (!v5) = true) => ?_) (fun (g5 : (!v5) = false) => ?_)
            ·
              have hr := zI g5 hr
              refine zU Z Z Z (gd g5 Z) Z Z (zU Z Z Z (gd g5 Z) Z Z (zU Z Z Z (gd g5 Z) Z Z (zS Z Z Z (LOp.pickT Z (gdl g5 Z) Z) (zM Z (zU Z Z Z Z Z Z (zU Z Z Z Z Z Z (zU Z Z Z Z Z Z (zS Z Z Z (LOp.pickT Z Z Z) (zM Z (zU Z Z Z Z Z Z (zU Z Z Z Z Z Z ?_)))))))))))
              refine zU Z Z Z Z Z Z (zU Z Z Z Z Z Z (zS Z Z Z (LOp.pickT Z Z Z) (zM Z (zU Z Z Z Z Z Z (zU Z Z Z Z Z Z (zU Z Z Z Z Z Z (zU Z Z Z Z Z Z (zS Z Z Z (LOp.pickT Z Z Z) (zN (zT ?_))))))))))
              obtain rfl := zJ hr
              exact zW 3 ⟨Z, Z, Z, Z, Z, Z, trivial⟩ Z Z Z Z
            ·
              have hr := zO g5 hr
              refine zV Z Z Z (gd g5 Z) Z (zA Z Z ft1071_1) (zV Z Z Z (gd g5 Z) Z (zD Z Z Z vt3 Z Z) (zV Z Z Z (gd g5 Z) Z (LOp.bin Z Z Z Z) (zS Z Z Z (LOp.pickF Z (gdl g5 Z) Z) (zM Z ?_))))
              refine LOps.cases 46 Z (fun (g6 : (decide (n.Tick < 3)) = true) => ?_) (fun (g6 : (decide (n.Tick < 3)) = false) => ?_)
              ·
                have hr := zI g6 hr
                refine zU Z Z Z (gd g6 Z) Z Z (zU Z Z Z (gd g6 Z) Z Z (zU Z Z Z (gd g6 Z) Z Z (zS Z Z Z (LOp.pickT Z (gdl g6 Z) Z) (zM Z (zU Z Z Z Z Z Z (zU Z Z Z Z Z Z (zU Z Z Z Z Z Z (zU Z Z Z Z Z Z (zS Z Z Z (LOp.pickT Z Z Z) (zM Z (zU Z Z Z Z Z Z ?_)))))))))))
                refine zU Z Z Z Z Z Z (zU Z Z Z Z Z Z (zU Z Z Z Z Z Z (zS Z Z Z (LOp.pickT Z Z Z) (zN (zT ?_)))))
                obtain rfl := zJ hr
                exact zW 3 ⟨Z, Z, Z, Z, Z, Z, trivial⟩ Z Z Z Z
              ·
                have hr := zO g6 hr
                refine zV Z Z Z (gd g6 Z) Z (zA Z Z ft1071_1) (zV Z Z Z (gd g6 Z) Z (zD Z Z Z vt3 Z Z) (zV Z Z Z (gd g6 Z) Z (LOp.bin Z Z Z Z) (zS Z Z Z (LOp.pickF Z (gdl g6 Z) Z) (zM Z ?_))))
                refine LOps.cases 51 Z (fun (g7 : (decide (n.Tick > 1000000)) = true) => ?_) (fun (g7 : (decide (n.Tick > 1000000)) = false) => ?_)
                ·
                  have hr := zI g7 hr
                  refine zU Z Z Z (gd g7 Z) Z Z (zU Z Z Z (gd g7 Z) Z Z (zU Z Z Z (gd g7 Z) Z Z (zU Z Z Z (gd g7 Z) Z Z (zS Z Z Z (LOp.pickT Z (gdl g7 Z) Z) (zM Z (zU Z Z Z Z Z Z (zU Z Z Z Z Z Z (zU Z Z Z Z Z Z (zU Z Z Z Z Z Z (zS Z Z Z (LOp.pickT Z Z Z) (zN ?_)))))))))))
                  refine zT ?_
                  obtain rfl := zJ hr
                  exact zW 3 ⟨Z, Z, Z, Z, Z, Z, trivial⟩ Z Z Z Z
                ·
                  have hr := zO g7 hr
                  refine zV Z Z Z (gd g7 Z) Z (zA Z Z ft1071_1) (zV Z Z Z (gd g7 Z) Z (zD Z Z Z vt3 Z Z) (zV Z Z Z (gd g7 Z) Z (LOp.rem Z Z Z (by decide)) (zV Z Z Z (gd g7 Z) Z (LOp.bin Z Z Z Z) (zS Z Z Z (LOp.pickF Z (gdl g7 Z) Z) (zM Z ?_)))))
                  refine LOps.cases 57 Z (fun (g8 : ((n.Tick.tmod 3) != 1) = true) => ?_) (fun (g8 : ((n.Tick.tmod 3) != 1) = false) => ?_)
                  ·
                    have hr := zI g8 hr
                    refine zU Z Z Z (gd g8 Z) Z Z (zU Z Z Z (gd g8 Z) Z Z (zU Z Z Z (gd g8 Z) Z Z (zU Z Z Z (gd g8 Z) Z Z (zS Z Z Z (LOp.pickT Z (gdl g8 Z) Z) (zN (zT ?_))))))
                    obtain rfl := zJ hr
                    exact zW 3 ⟨Z, Z, Z, Z, Z, Z, trivial⟩ Z Z Z Z
                  ·
                    have hr := zO g8 hr
                    refine zV Z Z Z (gd g8 Z) Z (zA Z Z ft1071_4) (zV Z Z Z (gd g8 Z) Z (zD Z Z Z vt1036 Z Z) (zV Z Z Z (gd g8 Z) Z (LOp.lenM Z Z (by kernel_rfl)) (zV Z Z Z (gd g8 Z) Z (LOp.bin Z Z Z Z) (zS Z Z Z (LOp.pickF Z (gdl g8 Z) Z) (zN (zT ?_))))))
                    obtain rfl := zJ hr
                    exact zW 3 ⟨Z, Z, Z, Z, Z, Z, trivial⟩ Z Z Z Z
  · have hr := ho_v4
    clear hb_v4
    refine zX Z (fun (g9 : v4 = true) => ?_) (fun (g9 : v4 = false) => ?_)
    ·
      have hr := zI g9 hr
      refine zQ (zR (zM Z (zM Z (zN (zT (LW.ret (thn_r ?_)))))))
      obtain rfl := zJ hr
      refine finP_ret (.one (.tmp Z)) ?_
      exact Conv.p
    ·
      have hr := zO g9 hr
      refine LW.skip (zT (zQ (zR (zS Z Z Z (zD Z Z Z vt55 Z Z) (zS Z Z Z (zD Z Z Z vt1071 Z Z) (zS Z Z Z (zD Z Z Z vt75 Z Z) ?_))))))
      obtain ⟨v6, h_v6, hr⟩ := zB hr
      refine zS Z Z Z (zC Z Z Z (by kernel_rfl) (LC.pure (c3018 h_v6) (.cons Conv.p (.cons Conv.p (.cons Conv.p (.cons Conv.zs .nil)))))) (zM Z (zS Z Z Z (LOp.extract Z Z Z) (zS Z Z Z (LOp.extract Z Z Z) (zS Z Z Z (LOp.alloc Z zt1071 Z Z) (zS Z Z Z (LOp.store Z Z Z Z vt1071 Z Z Z Z) (zM Z (zN (zT (zQ (zR (zS Z Z Z (zD Z Z Z vt1071 Z Z) ?_)))))))))))
      obtain ⟨v7, h_v7, hr⟩ := zB hr
      refine zS Z Z Z (zC Z Z Z (by kernel_rfl) (LC.pure (c1051 h_v7) (.cons Conv.p .nil))) (zS Z Z Z (LOp.alloc Z zt75 Z Z) (zS Z Z Z (LOp.store Z Z Z Z vt75 Z Z Z Z) (zN (zT (zQ (LW.ent (Ent.slot Z) (LW.drawW (by kernel_rfl) (by kernel_rfl) (zF Z Z Z (LAt.load Z Z Z vt75 Z Z) Z (zF Z Z Z (LAt.load Z Z Z vt55 Z Z) Z (zF Z Z Z (LAt.load Z Z Z vt75 Z Z) Z ?_))))))))))
      obtain ⟨v8, h_v8, hr⟩ := zB hr
      refine zF (F := []) (s := none) Z Z Z (fun H _ => zC Z Z Z (by kernel_rfl) (LC.pure (c85 h_v8) (.cons Conv.p (.cons Conv.p .nil)))) Z ?_
      obtain ⟨v9, h_v9, hr⟩ := zB hr
      refine zF (F := []) (s := none) Z Z Z (fun H _ => zC Z Z Z (by kernel_rfl) (LC.pure (c141 h_v9) (.cons Conv.p (.cons Conv.p .nil)))) Z ?_
      refine zF Z Z Z (LAt.alloc Z zt75 (id := 5) Z) Z (zF Z Z Z (LAt.store Z Z Z Z vt75 Z Z Z) Z ?_)
      refine LF.nil ⟨by kernel_rfl, ?_⟩
      refine zT (zQ (LW.ent (Ent.slot Z) (LW.drawW (by kernel_rfl) (by kernel_rfl) (zF Z Z Z (LAt.load Z Z Z vt75 Z Z) Z (zF Z Z Z (LAt.load Z Z Z vt1071 Z Z) Z ?_)))))
      obtain ⟨v10, h_v10, hr⟩ := zB hr
      refine zF (F := []) (s := none) Z Z Z (fun H _ => zC Z Z Z (by kernel_rfl) (LC.pure (c1051 h_v10) (.cons Conv.p .nil))) Z ?_
      obtain ⟨v11, h_v11, hr⟩ := zB hr
      refine zF (F := []) (s := none) Z Z Z (fun H _ => zC Z Z Z (by kernel_rfl) (LC.pure (c141 h_v11) (.cons Conv.p (.cons Conv.p .nil)))) Z ?_
      refine zF Z Z Z (LAt.alloc Z zt75 (id := 6) Z) Z (zF Z Z Z (LAt.store Z Z Z Z vt75 Z Z Z) Z ?_)
      refine LF.nil ⟨by kernel_rfl, ?_⟩
      refine zT (zQ (zR (zS Z Z Z (zA Z Z ft75_0) (zS Z Z Z (zD Z Z Z vt27 Z Z) (zS Z Z Z (LOp.lenM Z Z (by kernel_rfl)) (zS Z Z Z (zA Z Z ft75_0) (zS Z Z Z (zD Z Z Z vt27 Z Z) (zS Z Z Z (LOp.lenM Z Z (by kernel_rfl)) (zS Z Z Z (LOp.bin Z Z Z Z) (zM Z ?_))))))))))
      refine LOps.cases 89 Z (fun (g10 : ((v9.B.length : Int) == (v7.B.length : Int)) = true) => ?_) (fun (g10 : ((v9.B.length : Int) == (v7.B.length : Int)) = false) => ?_)
      ·
        have hr := zI g10 hr
        refine zV Z Z Z (gd g10 Z) Z (zA Z Z ft75_1) (zV Z Z Z (gd g10 Z) Z (zD Z Z Z vt68 Z Z) (zV Z Z Z (gd g10 Z) Z (LOp.lenM Z Z (by kernel_rfl)) (zV Z Z Z (gd g10 Z) Z (zA Z Z ft75_1) (zV Z Z Z (gd g10 Z) Z (zD Z Z Z vt68 Z Z) (zV Z Z Z (gd g10 Z) Z (LOp.lenM Z Z (by kernel_rfl)) (zV Z Z Z (gd g10 Z) Z (LOp.bin Z Z Z Z) (zS Z Z Z (LOp.pickT Z (gdl g10 Z) Z) (zM Z ?_))))))))
        refine LOps.cases 98 Z (fun (g11 : ((v9.V.length : Int) == (v7.V.length : Int)) = true) => ?_) (fun (g11 : ((v9.V.length : Int) == (v7.V.length : Int)) = false) => ?_)
        ·
          have hr := zI g11 hr
          refine zV Z Z Z (gd g11 Z) Z (zA Z Z ft75_0) (zV Z Z Z (gd g11 Z) Z (zD Z Z Z vt27 Z Z) (zV Z Z Z (gd g11 Z) Z (LOp.lenM Z Z (by kernel_rfl)) (zV Z Z Z (gd g11 Z) Z (zA Z Z ft75_0) (zV Z Z Z (gd g11 Z) Z (zD Z Z Z vt27 Z Z) (zV Z Z Z (gd g11 Z) Z (LOp.lenM Z Z (by kernel_rfl)) (zV Z Z Z (gd g11 Z) Z (LOp.bin Z Z Z Z) (zS Z Z Z (LOp.pickT Z (gdl g11 Z) Z) (zM Z ?_))))))))
          refine LOps.cases 107 Z (fun (g12 : ((v11.B.length : Int) == (v7.B.length : Int)) = true) => ?_) (fun (g12 : ((v11.B.length : Int) == (v7.B.length : Int)) = false) => ?_)
          ·
            have hr := zI g12 hr
            refine zV Z Z Z (gd g12 Z) Z (zA Z Z ft75_1) (zV Z Z Z (gd g12 Z) Z (zD Z Z Z vt68 Z Z) (zV Z Z Z (gd g12 Z) Z (LOp.lenM Z Z (by kernel_rfl)) (zV Z Z Z (gd g12 Z) Z (zA Z Z ft75_1) (zV Z Z Z (gd g12 Z) Z (zD Z Z Z vt68 Z Z) (zV Z Z Z (gd g12 Z) Z (LOp.lenM Z Z (by kernel_rfl)) (zV Z Z Z (gd g12 Z) Z (LOp.bin Z Z Z Z) (zS Z Z Z (LOp.pickT Z (gdl g12 Z) Z) (zM Z (zN (zT (LW.ret ?_)))))))))))
            obtain rfl := zJ hr
            refine finP_ret (.one (.tmp Z)) ?_
            exact Conv.p
          ·
            have hr := zO g12 hr
            refine zU Z Z Z (gd g12 Z) Z Z (zU Z Z Z (gd g12 Z) Z Z (zU Z Z Z (gd g12 Z) Z Z (zU Z Z Z (gd g12 Z) Z Z (zU Z Z Z (gd g12 Z) Z Z (zU Z Z Z (gd g12 Z) Z Z (zU Z Z Z (gd g12 Z) Z Z (zS Z Z Z (LOp.pickF Z (gdl g12 Z) Z) (zM Z (zN (zT (LW.ret ?_)))))))))))
            obtain rfl := zJ hr
            refine finP_ret (.one (.tmp Z)) ?_
            exact Conv.p
        ·
          have hr := zO g11 hr
          refine zU Z Z Z (gd g11 Z) Z Z (zU Z Z Z (gd g11 Z) Z Z (zU Z Z Z (gd g11 Z) Z Z (zU Z Z Z (gd g11 Z) Z Z (zU Z Z Z (gd g11 Z) Z Z (zU Z Z Z (gd g11 Z) Z Z (zU Z Z Z (gd g11 Z) Z Z (zS Z Z Z (LOp.pickF Z (gdl g11 Z) Z) (zM Z (zU Z Z Z Z Z Z (zU Z Z Z Z Z Z (zU Z Z Z Z Z Z ?_)))))))))))
          refine zU Z Z Z Z Z Z (zU Z Z Z Z Z Z (zU Z Z Z Z Z Z (zU Z Z Z Z Z Z (zS Z Z Z (LOp.pickF Z Z Z) (zM Z (zN (zT (LW.ret ?_))))))))
          obtain rfl := zJ hr
          refine finP_ret (.one (.tmp Z)) ?_
          exact Conv.p
      ·
        have hr := zO g10 hr
        refine zU Z Z Z (gd g10 Z) Z Z (zU Z Z Z (gd g10 Z) Z Z (zU Z Z Z (gd g10 Z) Z Z (zU Z Z Z (gd g10 Z) Z Z (zU Z Z Z (gd g10 Z) Z Z (zU Z Z Z (gd g10 Z) Z Z (zU Z Z Z (gd g10 Z) Z Z (zS Z Z Z (LOp.pickF Z (gdl g10 Z) Z) (zM Z (zU Z Z Z Z Z Z (zU Z Z Z Z Z Z (zU Z Z Z Z Z Z ?_)))))))))))
        refine zU Z Z Z Z Z Z (zU Z Z Z Z Z Z (zU Z Z Z Z Z Z (zU Z Z Z Z Z Z (zS Z Z Z (LOp.pickF Z Z Z) (zM Z (zU Z Z Z Z Z Z (zU Z Z Z Z Z Z (zU Z Z Z Z Z Z (zU Z Z Z Z Z Z (zU Z Z Z Z Z Z (zU Z Z Z Z Z Z ?_)))))))))))
        refine zU Z Z Z Z Z Z (zS Z Z Z (LOp.pickF Z Z Z) (zM Z (zN (zT (LW.ret ?_)))))
        obtain rfl := zJ hr
        refine finP_ret (.one (.tmp Z)) ?_
        exact Conv.p
theorem F3013_eq : F3013 = some true := by kernel_rfl
end Go.Mg
