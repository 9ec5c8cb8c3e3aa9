/- Laws of nodes. The example of nodes. Plain laws of weights on blocks, and of the head: the program's side. Plain laws of views: lists of blocks and votes, and what may be at all. Laws of trees. TreeKids, TreeMore: plain. Conditions: none. -/
import Derived.Test.YtabjakfgaodocaaGreatX3
import Derived.Test.YtabjakfgaodocaaGreatX7
import Derived.Test.YtabjakfgaodocaaGreatX8
import Derived.Test.YtabjakfgaodocaaGreatX6
namespace Go.Mg
open Go.Proofs
def F3013 : Option Bool :=
  (F125 ).bind fun v1 =>
  (F3043 0).bind fun v2 =>
  (F3018 v1 v2 (Vw.mk [] []) ([] : List Of)).bind fun v3 =>
  (
    bif (v3.2.length : Int) != 1 then
      some true
    else
      (ix v3.2 0).bind fun y1 =>
      bif !((y1.B.Slot == 1) && ((y1.B.From == 0) && ((y1.B.Parent.1 == 0) && ((y1.B.Parent.2 == 0) && ((y1.B.Salt == 0) && true))))) then
        some true
      else
        some ((v3.1.V.B.length : Int) != 1)
  ).bind fun v4 =>
  bif v4 then
    some false
  else
    (F3018 v1 v3.1 (Vw.mk [] []) v3.2).bind fun v5 =>
    (F3018 v1 v5.1 (Vw.mk [] []) ([] : List Of)).bind fun v6 =>
    bif (v6.1.V.V.length : Int) == 1 then
      bif ((v6.1.C.ID.1 == ((nm (Bk.mk 1 0 (0, 0) 0)).1)) && ((v6.1.C.ID.2 == ((nm (Bk.mk 1 0 (0, 0) 0)).2)) && true)) then
        bif v6.1.C.Revoked == 0 then
          (F1030 v1 v6.1).bind fun v7 =>
          bif ((v7.1 == ((nm (Bk.mk 1 0 (0, 0) 0)).1)) && ((v7.2 == ((nm (Bk.mk 1 0 (0, 0) 0)).2)) && true)) then
            some (v6.1.Tick == 6)
          else
            some false
        else
          some false
      else
        some false
    else
      some false
set_option maxRecDepth 100000 in
theorem c3013 {r_ : Bool} (hr : F3013 = some r_) : LPure Tryz.prog 13 [] [.bool r_] := by
  refine LPure.start Tryz.func13 Z Z Z Z ?_
  unfold F3013 at hr
  refine zQ (zR (zM Z (zN (zT (zQ (zR ?_))))))
  obtain ⟨v1, h_v1, hr⟩ := zB hr
  refine zS Z Z Z (zC Z Z Z (by kernel_rfl) (LC.pure (c125 h_v1) .nil)) (zS Z Z Z (LOp.alloc Z zt55 Z Z) (zS Z Z Z (LOp.store Z Z Z Z vt55 Z Z Z Z) (zN (zT (zQ (zR ?_))))))
  obtain ⟨v2, h_v2, hr⟩ := zB hr
  refine zS Z Z Z (zC Z Z Z (by kernel_rfl) (LC.pure (c3043 h_v2) (.cons Conv.p .nil))) (zS Z Z Z (LOp.alloc Z zt1071 Z Z) (zS Z Z Z (LOp.store Z Z Z Z vt1071 Z Z Z Z) (zN (zT (zQ (zR (zS Z Z Z (zD Z Z Z vt55 Z Z) (zS Z Z Z (zD Z Z Z vt1071 Z Z) (zS Z Z Z (LOp.build Z bt75 Z Z Z) ?_)))))))))
  obtain ⟨v3, h_v3, hr⟩ := zB hr
  refine zS Z Z Z (zC Z Z Z (by kernel_rfl) (LC.pure (c3018 h_v3) (.cons Conv.p (.cons Conv.p (.cons (Conv.agg (.cons Conv.zs (.cons Conv.zs .nil))) (.cons Conv.zs .nil)))))) (zM Z (zS Z Z Z (LOp.extract Z Z Z) (zS Z Z Z (LOp.extract Z Z Z) (zS Z Z Z (LOp.store Z Z Z Z vt1071 Z Z Z Z) (zM Z (zN (zT (zQ (zR (zS Z Z Z (LOp.build Z bt42 Z Z Z) (zS Z Z Z (LOp.alloc Z zt42 Z Z) ?_)))))))))))
  refine zS Z Z Z (LOp.store Z Z Z Z vt42 Z Z Z Z) (zN (zT (zQ ?_)))
  obtain ⟨v4, hb_v4, ho_v4⟩ := zB hr
  clear hr
  refine LW.cut (E := [(0, .p (.bool false)), (1, .ptr 0 0), (2, .ptr 1 0), (3, .p (.slice 9 (v3.2.map ofP))), (4, .ptr 2 0), (32, .p (.bool v4))]) (O := [.box [.p (.slice 1 (v1.W.map i64P)), .p (.int .u64 v1.Seed), .p (.int .i64 v1.Epoch), .p (.int .i64 v1.Num), .p (.int .i64 v1.Den)], .box [.p (.int .i64 v3.1.No), .p (.int .i64 v3.1.Tick), .p (.slice 5 (v3.1.V.B.map blkP)), .p (.slice 4 (v3.1.V.V.map vtP)), .p (.slice 5 (v3.1.In.B.map blkP)), .p (.slice 4 (v3.1.In.V.map vtP)), .p (.slice 9 (v3.1.O.map ofP)), .p (.int .u64 v3.1.C.ID.1), .p (.int .u64 v3.1.C.ID.2), .p (.int .i64 v3.1.C.Slot), .p (.int .i64 v3.1.C.Revoked), .p (.bool v3.1.Full)], .box [.p (.int .i64 1), .p (.int .i64 0), .p (.int .u64 0), .p (.int .u64 0), .p (.int .u64 0)]]) ?_ ?_
  · have hr := hb_v4
    refine LW.draw (by kernel_rfl) (by kernel_rfl) (zH Z (zE Z Z Z (LOp.lenM Z Z (by kernel_rfl)) (zE Z Z Z (LOp.bin Z Z Z Z) (zH Z ?_))))
    refine LO.cases 18 Z (fun (g1 : ((v3.2.length : Int) != 1) = true) => ?_) (fun (g1 : ((v3.2.length : Int) != 1) = false) => ?_)
    ·
      have hr := zI g1 hr
      refine LO.sk Z Z Z (gd g1 Z) Z Z (LO.sk Z Z Z (gd g1 Z) Z Z (LO.sk Z Z Z (gd g1 Z) Z Z (LO.sk Z Z Z (gd g1 Z) Z Z (LO.sk Z Z Z (gd g1 Z) Z Z (LO.sk Z Z Z (gd g1 Z) Z Z (zE Z Z Z (LOp.pickT Z (gdl g1 Z) Z) (zH Z (LO.sk Z Z Z Z Z Z (LO.sk Z Z Z Z Z Z (LO.sk Z Z Z Z Z Z (LO.sk Z Z Z Z Z Z ?_)))))))))))
      refine LO.sk Z Z Z Z Z Z (zE Z Z Z (LOp.pickT Z Z Z) (LO.nil (zT ?_)))
      obtain rfl := zJ hr
      exact zW 3 ⟨Z, Z, Z, Z, Z, Z, trivial⟩ Z Z Z Z
    ·
      have hr := zO g1 hr
      refine LO.gd Z Z Z (gd g1 Z) Z (LOp.move Z Z) ?_
      obtain ⟨y1, h_y1, hr⟩ := zB hr
      refine LO.gd Z Z Z (gd g1 Z) Z (LOp.indexAddrX Z Z Z st1036 h_y1 Z) (LO.gd Z Z Z (gd g1 Z) Z (LOp.fieldAddrC Z Z ft1077_2 Z) (LO.gd Z Z Z (gd g1 Z) Z (LOp.loadC Z Z Z vt42 Z Z) (LO.gd Z Z Z (gd g1 Z) Z (zD Z Z Z vt42 Z Z) (LO.gd Z Z Z (gd g1 Z) Z (LOp.neqAgg Z Z Z Z Z eqt42) (zE Z Z Z (LOp.pickF Z (gdl g1 Z) Z) (zH Z ?_))))))
      refine LO.cases 26 Z (fun (g2 : (!((y1.B.Slot == 1) && ((y1.B.From == 0) && ((y1.B.Parent.1 == 0) && ((y1.B.Parent.2 == 0) && ((y1.B.Salt == 0) && true)))))) = true) => ?_) (fun (g2 : (!((y1.B.Slot == 1) && ((y1.B.From == 0) && ((y1.B.Parent.1 == 0) && ((y1.B.Parent.2 == 0) && ((y1.B.Salt == 0) && true)))))) = false) => ?_)
      ·
        have hr := zI g2 hr
        refine LO.sk Z Z Z (gd g2 Z) Z Z (LO.sk Z Z Z (gd g2 Z) Z Z (LO.sk Z Z Z (gd g2 Z) Z Z (LO.sk Z Z Z (gd g2 Z) Z Z (LO.sk Z Z Z (gd g2 Z) Z Z (zE Z Z Z (LOp.pickT Z (gdl g2 Z) Z) (LO.nil (zT ?_)))))))
        obtain rfl := zJ hr
        exact zW 3 ⟨Z, Z, Z, Z, Z, Z, trivial⟩ Z Z Z Z
      ·
        have hr := zO g2 hr
        refine LO.gd Z Z Z (gd g2 Z) Z (zA Z Z ft1071_2) (LO.gd Z Z Z (gd g2 Z) Z (zA Z Z ft75_0) (LO.gd Z Z Z (gd g2 Z) Z (zD Z Z Z vt27 Z Z) (LO.gd Z Z Z (gd g2 Z) Z (LOp.lenM Z Z (by kernel_rfl)) (LO.gd Z Z Z (gd g2 Z) Z (LOp.bin Z Z Z Z) (zE Z Z Z (LOp.pickF Z (gdl g2 Z) Z) (LO.nil (zT ?_)))))))
        obtain rfl := zJ hr
        exact zW 3 ⟨Z, Z, Z, Z, Z, Z, trivial⟩ Z Z Z Z
  · have hr := ho_v4
    clear hb_v4
    refine zX Z (fun (g3 : v4 = true) => ?_) (fun (g3 : v4 = false) => ?_)
    ·
      have hr := zI g3 hr
      refine zQ (zR (zM Z (zN (zT (LW.ret (thn_r ?_))))))
      obtain rfl := zJ hr
      refine finP_ret (.one (.tmp Z)) ?_
      exact Conv.p
    ·
      have hr := zO g3 hr
      refine LW.skip (zT (zQ (zR (zS Z Z Z (zD Z Z Z vt55 Z Z) (zS Z Z Z (zD Z Z Z vt1071 Z Z) (zS Z Z Z (LOp.build Z bt75 Z Z Z) (zM Z ?_)))))))
      obtain ⟨v5, h_v5, hr⟩ := zB hr
      refine zS Z Z Z (zC Z Z Z (by kernel_rfl) (LC.pure (c3018 h_v5) (.cons Conv.p (.cons Conv.p (.cons (Conv.agg (.cons Conv.zs (.cons Conv.zs .nil))) (.cons Conv.p .nil)))))) (zM Z (zS Z Z Z (LOp.extract Z Z Z) (zS Z Z Z (LOp.extract Z Z Z) (zS Z Z Z (LOp.store Z Z Z Z vt1071 Z Z Z Z) (zN (zT (zQ (zR (zS Z Z Z (zD Z Z Z vt55 Z Z) (zS Z Z Z (zD Z Z Z vt1071 Z Z) (zS Z Z Z (LOp.build Z bt75 Z Z Z) ?_)))))))))))
      obtain ⟨v6, h_v6, hr⟩ := zB hr
      refine zS Z Z Z (zC Z Z Z (by kernel_rfl) (LC.pure (c3018 h_v6) (.cons Conv.p (.cons Conv.p (.cons (Conv.agg (.cons Conv.zs (.cons Conv.zs .nil))) (.cons Conv.zs .nil)))))) (zM Z (zS Z Z Z (LOp.extract Z Z Z) (zS Z Z Z (LOp.extract Z Z Z) (zS Z Z Z (LOp.store Z Z Z Z vt1071 Z Z Z Z) (zN (zT (zQ (LW.draw (by kernel_rfl) (by kernel_rfl) (zE Z Z Z (zA Z Z ft1071_2) (zE Z Z Z (zA Z Z ft75_1) (zE Z Z Z (zD Z Z Z vt68 Z Z) ?_)))))))))))
      refine zE Z Z Z (LOp.lenM Z Z (by kernel_rfl)) (zE Z Z Z (LOp.bin Z Z Z Z) (zH Z ?_))
      refine LO.cases 53 Z (fun (g4 : ((v6.1.V.V.length : Int) == 1) = true) => ?_) (fun (g4 : ((v6.1.V.V.length : Int) == 1) = false) => ?_)
      ·
        have hr := zI g4 hr
        refine LO.gd Z Z Z (gd g4 Z) Z (zA Z Z ft1071_5) (LO.gd Z Z Z (gd g4 Z) Z (zA Z Z ft26_0) (LO.gd Z Z Z (gd g4 Z) Z (zD Z Z Z vt24 Z Z) (LO.gd Z Z Z (gd g4 Z) Z (zD Z Z Z vt42 Z Z) (LO.gd Z Z Z (gd g4 Z) Z (zC Z Z Z (by kernel_rfl) (LC.pure (c50 (b := (Bk.mk 1 0 (0, 0) 0))) (.cons Conv.p .nil))) (LO.gd Z Z Z (gd g4 Z) Z (LOp.eqlAgg Z Z Z Z Z eqt24) (zE Z Z Z (LOp.pickT Z (gdl g4 Z) Z) (zH Z ?_)))))))
        refine LO.cases 61 Z (fun (g5 : ((v6.1.C.ID.1 == ((nm (Bk.mk 1 0 (0, 0) 0)).1)) && ((v6.1.C.ID.2 == ((nm (Bk.mk 1 0 (0, 0) 0)).2)) && true)) = true) => ?_) (fun (g5 : ((v6.1.C.ID.1 == ((nm (Bk.mk 1 0 (0, 0) 0)).1)) && ((v6.1.C.ID.2 == ((nm (Bk.mk 1 0 (0, 0) 0)).2)) && true)) = false) => ?_)
        ·
          have hr := zI g5 hr
          refine LO.gd Z Z Z (gd g5 Z) Z (zA Z Z ft1071_5) (LO.gd Z Z Z (gd g5 Z) Z (zA Z Z ft26_2) (LO.gd Z Z Z (gd g5 Z) Z (zD Z Z Z vt3 Z Z) (LO.gd Z Z Z (gd g5 Z) Z (LOp.bin Z Z Z Z) (zE Z Z Z (LOp.pickT Z (gdl g5 Z) Z) (zH Z ?_)))))
          refine LO.cases 67 Z (fun (g6 : (v6.1.C.Revoked == 0) = true) => ?_) (fun (g6 : (v6.1.C.Revoked == 0) = false) => ?_)
          ·
            have hr := zI g6 hr
            refine LO.gd Z Z Z (gd g6 Z) Z (zD Z Z Z vt55 Z Z) (LO.gd Z Z Z (gd g6 Z) Z (zD Z Z Z vt1071 Z Z) ?_)
            obtain ⟨v7, h_v7, hr⟩ := zB hr
            refine LO.gd Z Z Z (gd g6 Z) Z (zC Z Z Z (by kernel_rfl) (LC.pure (c1030 h_v7) (.cons Conv.p (.cons Conv.p .nil)))) (LO.gd Z Z Z (gd g6 Z) Z (zD Z Z Z vt42 Z Z) (LO.gd Z Z Z (gd g6 Z) Z (zC Z Z Z (by kernel_rfl) (LC.pure (c50 (b := (Bk.mk 1 0 (0, 0) 0))) (.cons Conv.p .nil))) (LO.gd Z Z Z (gd g6 Z) Z (LOp.eqlAgg Z Z Z Z Z eqt24) (zE Z Z Z (LOp.pickT Z (gdl g6 Z) Z) (zH Z ?_)))))
            refine LO.cases 75 Z (fun (g7 : ((v7.1 == ((nm (Bk.mk 1 0 (0, 0) 0)).1)) && ((v7.2 == ((nm (Bk.mk 1 0 (0, 0) 0)).2)) && true)) = true) => ?_) (fun (g7 : ((v7.1 == ((nm (Bk.mk 1 0 (0, 0) 0)).1)) && ((v7.2 == ((nm (Bk.mk 1 0 (0, 0) 0)).2)) && true)) = false) => ?_)
            ·
              have hr := zI g7 hr
              refine LO.gd Z Z Z (gd g7 Z) Z (zA Z Z ft1071_1) (LO.gd Z Z Z (gd g7 Z) Z (zD Z Z Z vt3 Z Z) (LO.gd Z Z Z (gd g7 Z) Z (LOp.bin Z Z Z Z) (zE Z Z Z (LOp.pickT Z (gdl g7 Z) Z) (zH Z (LO.nil (zT (LW.ret ?_)))))))
              obtain rfl := zJ hr
              refine finP_ret (.one (.tmp Z)) ?_
              exact Conv.p
            ·
              have hr := zO g7 hr
              refine LO.sk Z Z Z (gd g7 Z) Z Z (LO.sk Z Z Z (gd g7 Z) Z Z (LO.sk Z Z Z (gd g7 Z) Z Z (zE Z Z Z (LOp.pickF Z (gdl g7 Z) Z) (zH Z (LO.nil (zT (LW.ret ?_)))))))
              obtain rfl := zJ hr
              refine finP_ret (.one (.tmp Z)) ?_
              exact Conv.p
          ·
            have hr := zO g6 hr
            refine LO.sk Z Z Z (gd g6 Z) Z Z (LO.sk Z Z Z (gd g6 Z) Z Z (LO.sk Z Z Z (gd g6 Z) Z Z (LO.sk Z Z Z (gd g6 Z) Z Z (LO.sk Z Z Z (gd g6 Z) Z Z (LO.sk Z Z Z (gd g6 Z) Z Z (zE Z Z Z (LOp.pickF Z (gdl g6 Z) Z) (zH Z (LO.sk Z Z Z Z Z Z (LO.sk Z Z Z Z Z Z (LO.sk Z Z Z Z Z Z (zE Z Z Z (LOp.pickF Z Z Z) ?_)))))))))))
            refine zH Z (LO.nil (zT (LW.ret ?_)))
            obtain rfl := zJ hr
            refine finP_ret (.one (.tmp Z)) ?_
            exact Conv.p
        ·
          have hr := zO g5 hr
          refine LO.sk Z Z Z (gd g5 Z) Z Z (LO.sk Z Z Z (gd g5 Z) Z Z (LO.sk Z Z Z (gd g5 Z) Z Z (LO.sk Z Z Z (gd g5 Z) Z Z (zE Z Z Z (LOp.pickF Z (gdl g5 Z) Z) (zH Z (LO.sk Z Z Z Z Z Z (LO.sk Z Z Z Z Z Z (LO.sk Z Z Z Z Z Z (LO.sk Z Z Z Z Z Z (LO.sk Z Z Z Z Z Z (LO.sk Z Z Z Z Z Z ?_)))))))))))
          refine zE Z Z Z (LOp.pickF Z Z Z) (zH Z (LO.sk Z Z Z Z Z Z (LO.sk Z Z Z Z Z Z (LO.sk Z Z Z Z Z Z (zE Z Z Z (LOp.pickF Z Z Z) (zH Z (LO.nil (zT (LW.ret ?_)))))))))
          obtain rfl := zJ hr
          refine finP_ret (.one (.tmp Z)) ?_
          exact Conv.p
      ·
        have hr := zO g4 hr
        refine LO.sk Z Z Z (gd g4 Z) Z Z (LO.sk Z Z Z (gd g4 Z) Z Z (LO.sk Z Z Z (gd g4 Z) Z Z (LO.sk Z Z Z (gd g4 Z) Z Z (LO.sk Z Z Z (gd g4 Z) Z Z (LO.sk Z Z Z (gd g4 Z) Z Z (zE Z Z Z (LOp.pickF Z (gdl g4 Z) Z) (zH Z (LO.sk Z Z Z Z Z Z (LO.sk Z Z Z Z Z Z (LO.sk Z Z Z Z Z Z (LO.sk Z Z Z Z Z Z ?_)))))))))))
        refine zE Z Z Z (LOp.pickF Z Z Z) (zH Z (LO.sk Z Z Z Z Z Z (LO.sk Z Z Z Z Z Z (LO.sk Z Z Z Z Z Z (LO.sk Z Z Z Z Z Z (LO.sk Z Z Z Z Z Z (LO.sk Z Z Z Z Z Z (zE Z Z Z (LOp.pickF Z Z Z) (zH Z (LO.sk Z Z Z Z Z Z (LO.sk Z Z Z Z Z Z ?_)))))))))))
        refine LO.sk Z Z Z Z Z Z (zE Z Z Z (LOp.pickF Z Z Z) (zH Z (LO.nil (zT (LW.ret ?_)))))
        obtain rfl := zJ hr
        refine finP_ret (.one (.tmp Z)) ?_
        exact Conv.p
structure F3023_L1 where
  n : Int
  i : Int
def F3011 (c : Cf) (n : Nd) (v_in : Vw) : Option Bool :=
  (F3013 ).bind fun v1 =>
  (F3014 n 25).bind fun v2 =>
  (F84 v_in 25).bind fun v3 =>
  (
    bif !v1 then
      some true
    else
      bif !v2 then
        some true
      else
        bif !v3 then
          some true
        else
          some (decide ((c.W.length : Int) > 40))
  ).bind fun v4 =>
  bif v4 then
    some v1
  else
    (F3018 c n v_in ([] : List Of)).bind fun v5 =>
    (
      (F64 c).bind fun v7 =>
      bif !v7 then
        some true
      else
        bif decide (n.Tick < 3) then
          some true
        else
          some (decide ((IntKind.i64.wrap (n.Tick.tdiv 3)) > 1048576))
    ).bind fun v6 =>
    bif v6 then
      (
        (F3038 v5.1 n).bind fun v9 =>
        bif v9 then
          some ((v5.2.length : Int) == 0)
        else
          some false
      ).bind fun v8 =>
      some v8
    else
      bif v5.1.Tick == (IntKind.i64.wrap (n.Tick + 1)) then
        bif v5.1.No == n.No then
          some (decide ((v5.2.length : Int) ≤ 1))
        else
          some false
      else
        some false
set_option maxRecDepth 100000 in
theorem c3011 {c : Cf} {n : Nd} {v_in : Vw} {r_ : Bool} (hr : F3011 c n v_in = some r_) : LPure Tryz.prog 11 [cfP c, ndP n, vwP v_in] [.bool r_] := by
  refine LPure.start Tryz.func11 Z Z Z Z ?_
  unfold F3011 at hr
  refine zQ (zR (zS Z Z Z (LOp.box Z Z Z Z Z) (zS Z Z Z (LOp.box Z Z Z Z Z) (zS Z Z Z (LOp.box Z Z Z Z Z) (zM Z (zN (zT (zQ (zR ?_)))))))))
  obtain ⟨v1, h_v1, hr⟩ := zB hr
  refine zS Z Z Z (zC Z Z Z (by kernel_rfl) (LC.pure (c3013 h_v1) .nil)) (zM Z (zN (zT (zQ (zR (zS Z Z Z (zD Z Z Z vt1071 Z Z) ?_))))))
  obtain ⟨v2, h_v2, hr⟩ := zB hr
  refine zS Z Z Z (zC Z Z Z (by kernel_rfl) (LC.pure (c3014 h_v2) (.cons Conv.p (.cons Conv.p .nil)))) (zM Z (zN (zT (zQ (zR (zS Z Z Z (zD Z Z Z vt75 Z Z) ?_))))))
  obtain ⟨v3, h_v3, hr⟩ := zB hr
  refine zS Z Z Z (zC Z Z Z (by kernel_rfl) (LC.pure (c84 h_v3) (.cons Conv.p (.cons Conv.p .nil)))) (zM Z (zN (zT (zQ ?_))))
  obtain ⟨v4, hb_v4, ho_v4⟩ := zB hr
  clear hr
  refine LW.cut (E := [(3, .ptr 0 0), (4, .ptr 1 0), (5, .ptr 2 0), (6, .p (.bool false)), (7, .p (.bool v1)), (32, .p (.bool v4))]) (O := [.box [.p (.slice 1 (c.W.map i64P)), .p (.int .u64 c.Seed), .p (.int .i64 c.Epoch), .p (.int .i64 c.Num), .p (.int .i64 c.Den)], .box [.p (.int .i64 n.No), .p (.int .i64 n.Tick), .p (.slice 5 (n.V.B.map blkP)), .p (.slice 4 (n.V.V.map vtP)), .p (.slice 5 (n.In.B.map blkP)), .p (.slice 4 (n.In.V.map vtP)), .p (.slice 9 (n.O.map ofP)), .p (.int .u64 n.C.ID.1), .p (.int .u64 n.C.ID.2), .p (.int .i64 n.C.Slot), .p (.int .i64 n.C.Revoked), .p (.bool n.Full)], .box [.p (.slice 5 (v_in.B.map blkP)), .p (.slice 4 (v_in.V.map vtP))]]) ?_ ?_
  · have hr := hb_v4
    refine zR (zM Z (zS Z Z Z (LOp.not Z Z) (zM Z ?_)))
    refine LOps.cases 19 Z (fun (g1 : (!v1) = true) => ?_) (fun (g1 : (!v1) = false) => ?_)
    ·
      have hr := zI g1 hr
      refine zU Z Z Z (gd g1 Z) Z Z (zU Z Z Z (gd g1 Z) Z Z (zS Z Z Z (LOp.pickT Z (gdl g1 Z) Z) (zM Z (zU Z Z Z Z Z Z (zU Z Z Z Z Z Z (zS Z Z Z (LOp.pickT Z Z Z) (zM Z (zU Z Z Z Z Z Z (zU Z Z Z Z Z Z (zU Z Z Z Z Z Z (zU Z Z Z Z Z Z ?_)))))))))))
      refine zS Z Z Z (LOp.pickT Z Z Z) (zN (zT ?_))
      obtain rfl := zJ hr
      exact zW 3 ⟨Z, Z, Z, Z, Z, Z, trivial⟩ Z Z Z Z
    ·
      have hr := zO g1 hr
      refine zV Z Z Z (gd g1 Z) Z (LOp.move Z Z) (zV Z Z Z (gd g1 Z) Z (LOp.not Z Z) (zS Z Z Z (LOp.pickF Z (gdl g1 Z) Z) (zM Z ?_)))
      refine LOps.cases 23 Z (fun (g2 : (!v2) = true) => ?_) (fun (g2 : (!v2) = false) => ?_)
      ·
        have hr := zI g2 hr
        refine zU Z Z Z (gd g2 Z) Z Z (zU Z Z Z (gd g2 Z) Z Z (zS Z Z Z (LOp.pickT Z (gdl g2 Z) Z) (zM Z (zU Z Z Z Z Z Z (zU Z Z Z Z Z Z (zU Z Z Z Z Z Z (zU Z Z Z Z Z Z (zS Z Z Z (LOp.pickT Z Z Z) (zN (zT ?_))))))))))
        obtain rfl := zJ hr
        exact zW 3 ⟨Z, Z, Z, Z, Z, Z, trivial⟩ Z Z Z Z
      ·
        have hr := zO g2 hr
        refine zV Z Z Z (gd g2 Z) Z (LOp.move Z Z) (zV Z Z Z (gd g2 Z) Z (LOp.not Z Z) (zS Z Z Z (LOp.pickF Z (gdl g2 Z) Z) (zM Z ?_)))
        refine LOps.cases 27 Z (fun (g3 : (!v3) = true) => ?_) (fun (g3 : (!v3) = false) => ?_)
        ·
          have hr := zI g3 hr
          refine zU Z Z Z (gd g3 Z) Z Z (zU Z Z Z (gd g3 Z) Z Z (zU Z Z Z (gd g3 Z) Z Z (zU Z Z Z (gd g3 Z) Z Z (zS Z Z Z (LOp.pickT Z (gdl g3 Z) Z) (zN (zT ?_))))))
          obtain rfl := zJ hr
          exact zW 3 ⟨Z, Z, Z, Z, Z, Z, trivial⟩ Z Z Z Z
        ·
          have hr := zO g3 hr
          refine zV Z Z Z (gd g3 Z) Z (zA Z Z ft55_0) (zV Z Z Z (gd g3 Z) Z (zD Z Z Z vt49 Z Z) (zV Z Z Z (gd g3 Z) Z (LOp.lenM Z Z (by kernel_rfl)) (zV Z Z Z (gd g3 Z) Z (LOp.bin Z Z Z Z) (zS Z Z Z (LOp.pickF Z (gdl g3 Z) Z) (zN (zT ?_))))))
          obtain rfl := zJ hr
          exact zW 3 ⟨Z, Z, Z, Z, Z, Z, trivial⟩ Z Z Z Z
  · have hr := ho_v4
    clear hb_v4
    refine zX Z (fun (g4 : v4 = true) => ?_) (fun (g4 : v4 = false) => ?_)
    ·
      have hr := zI g4 hr
      refine zQ (zR (zM Z (zM Z (zN (zT (LW.ret (thn_r ?_)))))))
      obtain rfl := zJ hr
      refine finP_ret (.one (.tmp Z)) ?_
      exact Conv.p
    ·
      have hr := zO g4 hr
      refine LW.skip (zT (zQ (zR (zS Z Z Z (zD Z Z Z vt55 Z Z) (zS Z Z Z (zD Z Z Z vt1071 Z Z) (zS Z Z Z (zD Z Z Z vt75 Z Z) ?_))))))
      obtain ⟨v5, h_v5, hr⟩ := zB hr
      refine zS Z Z Z (zC Z Z Z (by kernel_rfl) (LC.pure (c3018 h_v5) (.cons Conv.p (.cons Conv.p (.cons Conv.p (.cons Conv.zs .nil)))))) (zM Z (zS Z Z Z (LOp.extract Z Z Z) (zS Z Z Z (LOp.extract Z Z Z) (zS Z Z Z (LOp.alloc Z zt1071 Z Z) (zS Z Z Z (LOp.store Z Z Z Z vt1071 Z Z Z Z) (zM Z (zN (zT (zQ ?_)))))))))
      obtain ⟨v6, hb_v6, ho_v6⟩ := zB hr
      clear hr
      refine LW.cut (E := [(4, .ptr 1 0), (6, .p (.bool false)), (10, .ptr 3 0), (11, .p (.slice 9 (v5.2.map ofP))), (54, .p (.bool v6))]) (O := [.box [.p (.slice 1 (c.W.map i64P)), .p (.int .u64 c.Seed), .p (.int .i64 c.Epoch), .p (.int .i64 c.Num), .p (.int .i64 c.Den)], .box [.p (.int .i64 n.No), .p (.int .i64 n.Tick), .p (.slice 5 (n.V.B.map blkP)), .p (.slice 4 (n.V.V.map vtP)), .p (.slice 5 (n.In.B.map blkP)), .p (.slice 4 (n.In.V.map vtP)), .p (.slice 9 (n.O.map ofP)), .p (.int .u64 n.C.ID.1), .p (.int .u64 n.C.ID.2), .p (.int .i64 n.C.Slot), .p (.int .i64 n.C.Revoked), .p (.bool n.Full)], .box [.p (.slice 5 (v_in.B.map blkP)), .p (.slice 4 (v_in.V.map vtP))], .box [.p (.int .i64 v5.1.No), .p (.int .i64 v5.1.Tick), .p (.slice 5 (v5.1.V.B.map blkP)), .p (.slice 4 (v5.1.V.V.map vtP)), .p (.slice 5 (v5.1.In.B.map blkP)), .p (.slice 4 (v5.1.In.V.map vtP)), .p (.slice 9 (v5.1.O.map ofP)), .p (.int .u64 v5.1.C.ID.1), .p (.int .u64 v5.1.C.ID.2), .p (.int .i64 v5.1.C.Slot), .p (.int .i64 v5.1.C.Revoked), .p (.bool v5.1.Full)]]) ?_ ?_
      · have hr := hb_v6
        refine zR (zS Z Z Z (zD Z Z Z vt55 Z Z) ?_)
        obtain ⟨v7, h_v7, hr⟩ := zB hr
        refine zS Z Z Z (zC Z Z Z (by kernel_rfl) (LC.pure (c64 h_v7) (.cons Conv.p .nil))) (zS Z Z Z (LOp.not Z Z) (zM Z ?_))
        refine LOps.cases 44 Z (fun (g5 : (!v7) = true) => ?_) (fun (g5 : (!v7) = false) => ?_)
        ·
          have hr := zI g5 hr
          refine zU Z Z Z (gd g5 Z) Z Z (zU Z Z Z (gd g5 Z) Z Z (zU Z Z Z (gd g5 Z) Z Z (zS Z Z Z (LOp.pickT Z (gdl g5 Z) Z) (zM Z (zU Z Z Z Z Z Z (zU Z Z Z Z Z Z (zU Z Z Z Z Z Z (zU Z Z Z Z Z Z (zS Z Z Z (LOp.pickT Z Z Z) (zN (zT ?_)))))))))))
          obtain rfl := zJ hr
          exact zW 4 ⟨Z, Z, Z, Z, Z, trivial⟩ Z Z Z Z
        ·
          have hr := zO g5 hr
          refine zV Z Z Z (gd g5 Z) Z (zA Z Z ft1071_1) (zV Z Z Z (gd g5 Z) Z (zD Z Z Z vt3 Z Z) (zV Z Z Z (gd g5 Z) Z (LOp.bin Z Z Z Z) (zS Z Z Z (LOp.pickF Z (gdl g5 Z) Z) (zM Z ?_))))
          refine LOps.cases 49 Z (fun (g6 : (decide (n.Tick < 3)) = true) => ?_) (fun (g6 : (decide (n.Tick < 3)) = false) => ?_)
          ·
            have hr := zI g6 hr
            refine zU Z Z Z (gd g6 Z) Z Z (zU Z Z Z (gd g6 Z) Z Z (zU Z Z Z (gd g6 Z) Z Z (zU Z Z Z (gd g6 Z) Z Z (zS Z Z Z (LOp.pickT Z (gdl g6 Z) Z) (zN (zT ?_))))))
            obtain rfl := zJ hr
            exact zW 4 ⟨Z, Z, Z, Z, Z, trivial⟩ Z Z Z Z
          ·
            have hr := zO g6 hr
            refine zV Z Z Z (gd g6 Z) Z (zA Z Z ft1071_1) (zV Z Z Z (gd g6 Z) Z (zD Z Z Z vt3 Z Z) (zV Z Z Z (gd g6 Z) Z (LOp.quo Z Z Z (by decide)) (zV Z Z Z (gd g6 Z) Z (LOp.bin Z Z Z Z) (zS Z Z Z (LOp.pickF Z (gdl g6 Z) Z) (zN (zT ?_))))))
            obtain rfl := zJ hr
            exact zW 4 ⟨Z, Z, Z, Z, Z, trivial⟩ Z Z Z Z
      · have hr := ho_v6
        clear hb_v6
        refine zX Z (fun (g7 : v6 = true) => ?_) (fun (g7 : v6 = false) => ?_)
        ·
          have hr := zI g7 hr
          obtain ⟨v8, hb_v8, ho_v8⟩ := zB hr
          clear hr
          refine LW.cut (E := [(4, .ptr 1 0), (6, .p (.bool v8)), (10, .ptr 3 0), (11, .p (.slice 9 (v5.2.map ofP)))]) (O := [.box [.p (.slice 1 (c.W.map i64P)), .p (.int .u64 c.Seed), .p (.int .i64 c.Epoch), .p (.int .i64 c.Num), .p (.int .i64 c.Den)], .box [.p (.int .i64 n.No), .p (.int .i64 n.Tick), .p (.slice 5 (n.V.B.map blkP)), .p (.slice 4 (n.V.V.map vtP)), .p (.slice 5 (n.In.B.map blkP)), .p (.slice 4 (n.In.V.map vtP)), .p (.slice 9 (n.O.map ofP)), .p (.int .u64 n.C.ID.1), .p (.int .u64 n.C.ID.2), .p (.int .i64 n.C.Slot), .p (.int .i64 n.C.Revoked), .p (.bool n.Full)], .box [.p (.slice 5 (v_in.B.map blkP)), .p (.slice 4 (v_in.V.map vtP))], .box [.p (.int .i64 v5.1.No), .p (.int .i64 v5.1.Tick), .p (.slice 5 (v5.1.V.B.map blkP)), .p (.slice 4 (v5.1.V.V.map vtP)), .p (.slice 5 (v5.1.In.B.map blkP)), .p (.slice 4 (v5.1.In.V.map vtP)), .p (.slice 9 (v5.1.O.map ofP)), .p (.int .u64 v5.1.C.ID.1), .p (.int .u64 v5.1.C.ID.2), .p (.int .i64 v5.1.C.Slot), .p (.int .i64 v5.1.C.Revoked), .p (.bool v5.1.Full)]]) ?_ ?_
          · have hr := hb_v8
            refine zR (zS Z Z Z (zD Z Z Z vt1071 Z Z) (zS Z Z Z (zD Z Z Z vt1071 Z Z) ?_))
            obtain ⟨v9, h_v9, hr⟩ := zB hr
            refine zS Z Z Z (zC Z Z Z (by kernel_rfl) (LC.pure (c3038 h_v9) (.cons Conv.p (.cons Conv.p .nil)))) (zM Z ?_)
            refine LOps.cases 58 Z (fun (g8 : v9 = true) => ?_) (fun (g8 : v9 = false) => ?_)
            ·
              have hr := zI g8 hr
              refine zV Z Z Z (gd g8 Z) Z (LOp.move Z Z) (zV Z Z Z (gd g8 Z) Z (LOp.lenM Z Z (by kernel_rfl)) (zV Z Z Z (gd g8 Z) Z (LOp.bin Z Z Z Z) (zS Z Z Z (LOp.pickT Z (gdl g8 Z) Z) (zM Z (zN (zT ?_))))))
              obtain rfl := zJ hr
              exact zW 4 ⟨Z, Z, Z, Z, trivial⟩ Z Z Z Z
            ·
              have hr := zO g8 hr
              refine zU Z Z Z (gd g8 Z) Z Z (zU Z Z Z (gd g8 Z) Z Z (zU Z Z Z (gd g8 Z) Z Z (zS Z Z Z (LOp.pickF Z (gdl g8 Z) Z) (zM Z (zN (zT ?_))))))
              obtain rfl := zJ hr
              exact zW 4 ⟨Z, Z, Z, Z, trivial⟩ Z Z Z Z
          · have hr := ho_v8
            clear hb_v8
            refine LW.ret (thn_r ?_)
            obtain rfl := zJ hr
            refine finP_ret (.one (.tmp Z)) ?_
            exact Conv.p
        ·
          have hr := zO g7 hr
          refine LW.skip (zT (zQ (zR (zS Z Z Z (zA Z Z ft1071_1) (zS Z Z Z (zD Z Z Z vt3 Z Z) (zS Z Z Z (zA Z Z ft1071_1) (zS Z Z Z (zD Z Z Z vt3 Z Z) (zS Z Z Z (LOp.bin Z Z Z Z) (zS Z Z Z (LOp.bin Z Z Z Z) (zM Z ?_))))))))))
          refine LOps.cases 69 Z (fun (g9 : (v5.1.Tick == (IntKind.i64.wrap (n.Tick + 1))) = true) => ?_) (fun (g9 : (v5.1.Tick == (IntKind.i64.wrap (n.Tick + 1))) = false) => ?_)
          ·
            have hr := zI g9 hr
            refine zV Z Z Z (gd g9 Z) Z (zA Z Z ft1071_0) (zV Z Z Z (gd g9 Z) Z (zD Z Z Z vt3 Z Z) (zV Z Z Z (gd g9 Z) Z (zA Z Z ft1071_0) (zV Z Z Z (gd g9 Z) Z (zD Z Z Z vt3 Z Z) (zV Z Z Z (gd g9 Z) Z (LOp.bin Z Z Z Z) (zS Z Z Z (LOp.pickT Z (gdl g9 Z) Z) (zM Z ?_))))))
            refine LOps.cases 76 Z (fun (g10 : (v5.1.No == n.No) = true) => ?_) (fun (g10 : (v5.1.No == n.No) = false) => ?_)
            ·
              have hr := zI g10 hr
              refine zV Z Z Z (gd g10 Z) Z (LOp.move Z Z) (zV Z Z Z (gd g10 Z) Z (LOp.lenM Z Z (by kernel_rfl)) (zV Z Z Z (gd g10 Z) Z (LOp.bin Z Z Z Z) (zS Z Z Z (LOp.pickT Z (gdl g10 Z) Z) (zM Z (zN (zT (LW.ret ?_)))))))
              obtain rfl := zJ hr
              refine finP_ret (.one (.tmp Z)) ?_
              exact Conv.p
            ·
              have hr := zO g10 hr
              refine zU Z Z Z (gd g10 Z) Z Z (zU Z Z Z (gd g10 Z) Z Z (zU Z Z Z (gd g10 Z) Z Z (zS Z Z Z (LOp.pickF Z (gdl g10 Z) Z) (zM Z (zN (zT (LW.ret ?_)))))))
              obtain rfl := zJ hr
              refine finP_ret (.one (.tmp Z)) ?_
              exact Conv.p
          ·
            have hr := zO g9 hr
            refine zU Z Z Z (gd g9 Z) Z Z (zU Z Z Z (gd g9 Z) Z Z (zU Z Z Z (gd g9 Z) Z Z (zU Z Z Z (gd g9 Z) Z Z (zU Z Z Z (gd g9 Z) Z Z (zS Z Z Z (LOp.pickF Z (gdl g9 Z) Z) (zM Z (zU Z Z Z Z Z Z (zU Z Z Z Z Z Z (zU Z Z Z Z Z Z (zS Z Z Z (LOp.pickF Z Z Z) (zM Z ?_)))))))))))
            refine zN (zT (LW.ret ?_))
            obtain rfl := zJ hr
            refine finP_ret (.one (.tmp Z)) ?_
            exact Conv.p
structure F3005_L1 where
  i : Int
structure F3005_L2 where
  i : Int
theorem F3013_eq : F3013 = some true := by kernel_rfl
theorem iter_go {α β : Type} {step : α → Option (α ⊕ β)} {n : Nat} {x y : α} (h : step x = some (.inl y)) : iter step (n + 1) x = iter step n y := by
  rw [iter, h]
theorem iter_end {α β : Type} {step : α → Option (α ⊕ β)} {n : Nat} {x : α} {b : β} (h : step x = some (.inr b)) : iter step (n + 1) x = some b := by
  rw [iter, h]
theorem big3 : big = 4611686018427387901 + 1 + 1 + 1 := rfl
def lessP (a b : ID) : Bool := decide (a.1 < b.1 ∨ a.1 = b.1 ∧ a.2 < b.2)
def cmpI (x y : Int) : Int := if x < y then -1 else if x > y then 1 else 0
theorem F168_eq (x y : Int) : F168 x y = some (cmpI x y) := by
  have h : ∀ z : Int, F175 z = some false := fun z => by unfold F175; rw [show (z != z) = false by simp]
  unfold F168 cmpI
  rw [h x, ob, h y, ob, cf, cf]
  by_cases h1 : x < y
  · rw [decide_eq_true h1, ct, if_pos h1]
  · rw [decide_eq_false h1, cf, if_neg h1]
    by_cases h2 : x > y
    · rw [decide_eq_true h2, ct, if_pos h2]
    · rw [decide_eq_false h2, cf, if_neg h2]
theorem F151_two (a1 a2 b1 b2 : Int) : F151 [a1, a2] [b1, b2] = some (if cmpI a1 b1 ≠ 0 then cmpI a1 b1 else cmpI a2 b2) := by
  unfold F151
  have h0 : ∀ i : Int, i = 0 → F151_s1 [a1, a2] [b1, b2] (F151_L1.mk i) = if cmpI a1 b1 ≠ 0 then some (.inr (.inr (cmpI a1 b1))) else some (.inl (F151_L1.mk 1)) := by
    rintro i rfl
    unfold F151_s1
    simp only
    rw [show decide ((0 : Int) < (([a1, a2] : List Int).length : Int)) = true from rfl, ct, show ix [a1, a2] 0 = some a1 from rfl, ob, show decide ((0 : Int) ≥ (([b1, b2] : List Int).length : Int)) = false from rfl, cf, show ix [b1, b2] 0 = some b1 from rfl, ob, F168_eq, ob, show IntKind.i64.wrap (0 + 1) = 1 from wrapI (by omega) (by omega)]
    by_cases h : cmpI a1 b1 = 0
    · rw [show (cmpI a1 b1 != 0) = false by simp [h], cf, if_neg (not_not_intro h)]
    · rw [show (cmpI a1 b1 != 0) = true by simp [h], ct, if_pos h]
  have h1 : F151_s1 [a1, a2] [b1, b2] (F151_L1.mk 1) = if cmpI a2 b2 ≠ 0 then some (.inr (.inr (cmpI a2 b2))) else some (.inl (F151_L1.mk 2)) := by
    unfold F151_s1
    simp only
    rw [show decide ((1 : Int) < (([a1, a2] : List Int).length : Int)) = true from rfl, ct, show ix [a1, a2] 1 = some a2 from rfl, ob, show decide ((1 : Int) ≥ (([b1, b2] : List Int).length : Int)) = false from rfl, cf, show ix [b1, b2] 1 = some b2 from rfl, ob, F168_eq, ob, show IntKind.i64.wrap (1 + 1) = 2 from wrapI (by omega) (by omega)]
    by_cases h : cmpI a2 b2 = 0
    · rw [show (cmpI a2 b2 != 0) = false by simp [h], cf, if_neg (not_not_intro h)]
    · rw [show (cmpI a2 b2 != 0) = true by simp [h], ct, if_pos h]
  have h2 : F151_s1 [a1, a2] [b1, b2] (F151_L1.mk 2) = some (.inr (.inl (F151_L1.mk 2))) := by
    unfold F151_s1
    simp only
    rw [show decide ((2 : Int) < (([a1, a2] : List Int).length : Int)) = false from rfl, cf]
  rw [big3]
  by_cases c1 : cmpI a1 b1 = 0
  · have e1 := h0 0 rfl
    rw [if_neg (not_not_intro c1)] at e1
    rw [iter_go e1, if_neg (not_not_intro c1)]
    by_cases c2 : cmpI a2 b2 = 0
    · rw [if_neg (not_not_intro c2)] at h1
      rw [iter_go h1, iter_end h2, ob, sl, show decide ((([a1, a2] : List Int).length : Int) < (([b1, b2] : List Int).length : Int)) = false from rfl, cf, c2]
    · rw [if_pos c2] at h1
      rw [iter_end h1, ob, sr]
  · have e1 := h0 0 rfl
    rw [if_pos c1] at e1
    rw [iter_end e1, if_pos c1, ob, sr]
theorem F120_eq (a b : ID) : F120 a b = some (lessP a b) := by
  unfold F120 lessP
  rw [F151_two, ob]
  congr 1
  refine decide_eq_decide.2 ?_
  unfold cmpI
  by_cases h1 : a.1 < b.1
  · simp [h1]
  · by_cases h2 : a.1 > b.1
    · have : a.1 ≠ b.1 := by omega
      simp [h1, h2, this]
    · have : a.1 = b.1 := by omega
      by_cases h3 : a.2 < b.2
      · simp [this, h3]
      · by_cases h4 : a.2 > b.2 <;> simp [this, h3, h4]
theorem lessP_irr (a : ID) : lessP a a = false := by unfold lessP; exact decide_eq_false (by omega)
def aboveP (a b : Rk) : Bool := if a.n = b.n then lessP b.id a.id else decide (a.n > b.n)
theorem F122_eq (a b : Rk) : F122 a b = some (aboveP a b) := by
  unfold F122 aboveP
  by_cases h : a.n = b.n
  · rw [show (a.n != b.n) = false by simp [h], cf, if_pos h, show (a.n == b.n) = true by simp [h], Bool.true_and, eqID]
    by_cases h2 : a.id = b.id
    · rw [decide_eq_true h2, Bool.not_true, cf, h2, lessP_irr]
    · rw [decide_eq_false h2, Bool.not_false, ct, F120_eq, ob]
  · rw [show (a.n != b.n) = true by simp [h], ct, if_neg h]
def underB (l : List Bk) (id h : ID) : Bool := decide (id ∈ chainOf l h)
def forL (l : List Bk) (v : List Vt) (id : ID) : List Int := (v.filter fun x => underB l id x.Head).map Vt.From
def onP (c : Cf) (l : List Bk) (v : List Vt) (id : ID) : Int := wtP c (forL l v id)
theorem findE_setEg {α β : Type} [DecidableEq α] {m : List (α × β)} {k q : α} {v : β} : findE (setE m k v) q = if k = q then some v else findE m q := by
  induction m with
  | nil => simp [setE, findE]
  | cons p r ih =>
    obtain ⟨a, b⟩ := p
    unfold setE
    by_cases h : a = k
    · rw [if_pos h]
      subst h
      by_cases h2 : a = q
      · simp [findE, h2]
      · simp [findE, h2]
    · rw [if_neg h]
      simp only [findE]
      rw [ih]
      by_cases h2 : a = q
      · rw [if_pos h2, if_pos h2, if_neg (fun e => h (by rw [h2, e]))]
      · rw [if_neg h2, if_neg h2]
def MemoOk (l : List Bk) (id : ID) (m : List (ID × Bool)) : Prop := ∀ h b, findE m h = some b → b = underB l id h
theorem F152_eq {l : List Bk} (hl : l.length ≤ 1000) {x : Vt} {c : Cf} {id : ID} {m : List (ID × Bool)} (hm : MemoOk l id m) : ∃ m', F152 x c l id m = some (underB l id x.Head, m') ∧ MemoOk l id m' := by
  unfold F152
  have hu : decide (indexOf (chainOf l x.Head) id ≥ 0) = underB l id x.Head := by
    unfold underB; exact decide_eq_decide.2 ⟨fun h => indexOf_mem.1 h, fun h => indexOf_mem.2 h⟩
  cases hf : findE m x.Head with
  | none =>
    refine ⟨setE m x.Head (underB l id x.Head), ?_, ?_⟩
    · rw [Option.isSome_none, Bool.not_false, ct, few_of hl, ct, hu]
    · intro h b hb
      rw [findE_setEg] at hb
      by_cases e : x.Head = h
      · rw [if_pos e] at hb; cases hb; rw [e]
      · rw [if_neg e] at hb; exact hm h b hb
  | some b =>
    refine ⟨m, ?_, hm⟩
    rw [Option.isSome_some, Bool.not_true, cf, Option.getD_some, hm _ _ hf]
theorem take_succ_getG {α : Type} {l : List α} {j : Nat} {y : α} (h : l[j]? = some y) : l.take (j + 1) = l.take j ++ [y] := by rw [List.take_add_one, h]; rfl
theorem forL_snoc {l : List Bk} {v : List Vt} {id : ID} {n : Nat} {y : Vt} (hy : v[n]? = some y) : forL l (v.take (n + 1)) id = forL l (v.take n) id ++ bif underB l id y.Head then [y.From] else [] := by
  unfold forL
  rw [take_succ_getG hy, List.filter_append, List.map_append]
  cases h : underB l id y.Head <;> simp [h]
theorem forL_len (l : List Bk) (v : List Vt) (id : ID) : (forL l v id).length ≤ v.length := by
  unfold forL; rw [List.length_map]; exact List.length_filter_le _ _
theorem F153_eq {l : List Bk} (hl : l.length ≤ 1000) {v : List Vt} (hv : v.length ≤ 1000) {c : Cf} {id : ID} : ∃ m', F153 v c l id [] = some (forL l v id, m') := by
  unfold F153
  have key := iter_inv (step := F153_s1 v c l id) (fun x => ∃ n : Nat, n ≤ v.length ∧ x.t12 = n ∧ MemoOk l id x.o3 ∧ x.out = forL l (v.take n) id) (fun x => v.length - x.t12.toNat) (fun b => b.out = forL l v id) (by
    rintro ⟨t, m, out⟩ ⟨n, hn, h1, hm, ho⟩
    simp only at h1 ho hm
    subst h1 ho
    by_cases hlt : n < v.length
    · left
      obtain ⟨y, hy, -⟩ := get_of hlt
      obtain ⟨m', e, hm'⟩ := F152_eq hl (x := y) (c := c) hm
      have hlen := forL_len l (v.take n) id
      rw [List.length_take] at hlen
      refine ⟨⟨((n + 1 : Nat) : Int), m', forL l (v.take (n + 1)) id⟩, ?_, ⟨n + 1, hlt, rfl, hm', rfl⟩, by simp only; omega⟩
      unfold F153_s1
      simp only
      rw [decide_eq_true (show (n : Int) < (v.length : Int) by omega), ct, ix_nat hy, ob, e, ob, forL_snoc hy, wrap_succ (n := n) (by omega)]
      cases hu : underB l id y.Head with
      | true => rw [ct, show F154 y = some y.From from rfl, ob, room_ok (by simp only [List.length_singleton]; omega) (by omega), ct, ct]
      | false => rw [cf, cf, List.append_nil]
    · right
      obtain rfl : n = v.length := by omega
      refine ⟨⟨(v.length : Int), m, forL l (v.take v.length) id⟩, ?_, by simp only [List.take_length]⟩
      unfold F153_s1
      simp only
      rw [decide_eq_false (show ¬ (v.length : Int) < (v.length : Int) by omega), cf]) (n := big) (x := ⟨0, [], []⟩) ⟨0, by omega, rfl, (fun h b hb => by cases hb), by simp [forL]⟩ (big_gt (by simp only; omega))
  obtain ⟨b, e, hp⟩ := key
  exact ⟨b.o3, by rw [e, ob, hp]⟩
theorem F121_eq {l : List Bk} (hl : l.length ≤ 1000) {v : List Vt} (hv : v.length ≤ 1000) (c : Cf) (id : ID) : F121 c l v id = some (onP c l v id) := by
  unfold F121
  obtain ⟨m', e⟩ := F153_eq hl hv (c := c) (id := id)
  have := forL_len l v id
  rw [e, ob, F70_eq (by simp only; omega), ob]; rfl
theorem on_in (c : Cf) (l : List Bk) (v : List Vt) (id : ID) : 0 ≤ onP c l v id := by
  unfold onP wtP
  split
  · next h => exact (wsum_in h.okW.2 _).1
  · omega
def bestK (f : ID → Int) : List ID → Rk → Rk
  | [], b => b
  | k :: r, b => bestK f r (bif aboveP ⟨f k, k⟩ b then ⟨f k, k⟩ else b)
theorem bestK_snoc (f : ID → Int) (k : ID) : ∀ (a : List ID) (b : Rk), bestK f (a ++ [k]) b = bif aboveP ⟨f k, k⟩ (bestK f a b) then ⟨f k, k⟩ else bestK f a b
  | [], _ => rfl
  | _ :: r, _ => bestK_snoc f k r _
def bestP (c : Cf) (l : List Bk) (v : List Vt) (id : ID) : Rk := bestK (onP c l v) (kidsOf l id) ⟨-1, (0, 0)⟩
theorem kids_len (l : List Bk) (id : ID) : (kidsOf l id).length ≤ l.length := by
  unfold kidsOf
  split
  · simp
  · rw [List.length_map]; exact List.length_filter_le _ _
theorem F79_eq {l : List Bk} (hl : l.length ≤ 1000) {v : List Vt} (hv : v.length ≤ 1000) (c : Cf) (id : ID) : F79 c l v id = some ((bestP c l v id).id, decide ((bestP c l v id).n ≥ 0)) := by
  unfold F79
  have hk := kids_len l id
  rw [F46_eq hl, ob]
  have e := count_loop (step := F79_s1 c l v (kidsOf l id)) (n := (kidsOf l id).length) (fun n => F79_L1.mk (n : Int) (bestK (onP c l v) ((kidsOf l id).take n) ⟨-1, (0, 0)⟩)) (F79_L1.mk ((kidsOf l id).length : Int) (bestP c l v id)) (fun n hn => by
    obtain ⟨y, hy, -⟩ := get_of hn
    unfold F79_s1
    simp only
    rw [decide_eq_true (show (n : Int) < ((kidsOf l id).length : Int) by omega), ct, ix_nat hy, ob, F121_eq hl hv, ob, F122_eq, ob, wrap_succ (n := n) (by omega), take_succ_getG hy, bestK_snoc]
    cases aboveP ⟨onP c l v y, y⟩ (bestK (onP c l v) ((kidsOf l id).take n) ⟨-1, (0, 0)⟩) with
    | true => rw [ct, ct]
    | false => rw [cf, cf]) (by
    unfold F79_s1
    simp only
    rw [decide_eq_false (show ¬ ((kidsOf l id).length : Int) < ((kidsOf l id).length : Int) by omega), cf, List.take_length]; rfl) (by omega)
  have e0 : F79_L1.mk ((0 : Nat) : Int) (bestK (onP c l v) ((kidsOf l id).take 0) ⟨-1, (0, 0)⟩) = F79_L1.mk 0 (Rk.mk (-1) (0, 0)) := rfl
  rw [e0] at e
  rw [e, ob]
theorem bestK_mem {f : ID → Int} (hf : ∀ k, 0 ≤ f k) : ∀ (a : List ID) (b : Rk), (a = [] ∧ bestK f a b = b) ∨ (bestK f a b = b ∧ 0 ≤ b.n) ∨ (∃ k ∈ a, bestK f a b = ⟨f k, k⟩) ∨ (b.n < -1)
  | [], b => .inl ⟨rfl, rfl⟩
  | k :: r, b => by
    by_cases hb : b.n < -1
    · exact .inr (.inr (.inr hb))
    · unfold bestK
      cases h : aboveP ⟨f k, k⟩ b with
      | true =>
        rw [ct]
        rcases bestK_mem hf r ⟨f k, k⟩ with ⟨rfl, e⟩ | ⟨e, -⟩ | ⟨k', hk', e⟩ | h4
        · exact .inr (.inr (.inl ⟨k, .head _, e⟩))
        · exact .inr (.inr (.inl ⟨k, .head _, e⟩))
        · exact .inr (.inr (.inl ⟨k', .tail _ hk', e⟩))
        · have := hf k; simp only at h4; omega
      | false =>
        rw [cf]
        have hb0 : 0 ≤ b.n := by
          unfold aboveP at h
          simp only at h
          have := hf k
          by_cases e : f k = b.n
          · omega
          · rw [if_neg e] at h
            have := of_decide_eq_false h
            omega
        rcases bestK_mem hf r b with ⟨rfl, e⟩ | h2 | ⟨k', hk', e⟩ | h4
        · exact .inr (.inl ⟨e, hb0⟩)
        · exact .inr (.inl h2)
        · exact .inr (.inr (.inl ⟨k', .tail _ hk', e⟩))
        · omega
theorem bestP_cases (c : Cf) (l : List Bk) (v : List Vt) (id : ID) : (kidsOf l id = [] ∧ bestP c l v id = ⟨-1, (0, 0)⟩) ∨ ∃ k ∈ kidsOf l id, bestP c l v id = ⟨onP c l v k, k⟩ := by
  unfold bestP
  rcases bestK_mem (on_in c l v) (kidsOf l id) ⟨-1, (0, 0)⟩ with h | ⟨e, h2⟩ | h3 | h4
  · exact .inl h
  · simp only at h2; omega
  · exact .inr h3
  · simp only at h4; omega
def headF (c : Cf) (l : List Bk) (v : List Vt) : Nat → ID → ID
  | 0, id => id
  | n + 1, id => if (bestP c l v id).n ≥ 0 then headF c l v n (bestP c l v id).id else id
def headP (c : Cf) (l : List Bk) (v : List Vt) : ID := headF c l v (l.length + 1) (0, 0)
theorem kid_ix {l : List Bk} {m : List (ID × Int)} (hp : places l = some m) {id k : ID} {i : Int} (hi : findE m id = some i) (hk : k ∈ kidsOf l id) : ∃ j, findE m k = some j ∧ i < j ∧ j < l.length := by
  unfold kidsOf at hk
  rw [hp] at hk
  obtain ⟨b, hb, rfl⟩ := List.mem_map.1 hk
  rw [List.mem_filter] at hb
  obtain ⟨n, hn⟩ := List.getElem?_of_mem hb.1
  have hI := places_inv hp
  have hnl := (List.getElem?_eq_some_iff.1 hn).1
  have h1 := hI.names n b hnl hn
  refine ⟨n, h1, ?_, by omega⟩
  rcases hI.known _ _ h1 with ⟨h2, -⟩ | ⟨b', p, h2, h3, h4, h5, h6, h7, h8, h9⟩
  · omega
  · rw [Int.toNat_natCast, hn] at h4
    cases h4
    have hpar : b.Parent = id := of_decide_eq_true hb.2
    rw [hpar, hi] at h6
    cases h6
    exact h7
theorem head_iter {l : List Bk} (hl : l.length ≤ 1000) {v : List Vt} (hv : v.length ≤ 1000) (c : Cf) {m : List (ID × Int)} (hp : places l = some m) : ∀ (n f : Nat) (id : ID) (i : Int), findE m id = some i → (l.length : Int) - i ≤ n → n < f →
    iter (F81_s1 c l v) f ⟨id⟩ = some ⟨headF c l v n id⟩
  | 0, f, id, i, hi, hn, _ => by
    rcases (places_inv hp).known _ _ hi with ⟨h, -⟩ | ⟨b, p, h0, h1, -⟩ <;> omega
  | n + 1, f, id, i, hi, hn, hf => by
    obtain ⟨f, rfl⟩ : ∃ g, f = g + 1 := ⟨f - 1, by omega⟩
    have hs : F81_s1 c l v ⟨id⟩ = if (bestP c l v id).n ≥ 0 then some (.inl ⟨(bestP c l v id).id⟩) else some (.inr ⟨id⟩) := by
      unfold F81_s1
      simp only
      rw [F79_eq hl hv, ob]
      by_cases h : (bestP c l v id).n ≥ 0
      · rw [decide_eq_true h, Bool.not_true, cf, if_pos h]
      · rw [decide_eq_false h, Bool.not_false, ct, if_neg h]
    unfold headF
    rcases bestP_cases c l v id with ⟨-, e⟩ | ⟨k, hk, e⟩
    · have : ¬ (bestP c l v id).n ≥ 0 := by rw [e]; simp
      rw [if_neg this] at hs ⊢
      exact iter_end hs
    · have hpos : (bestP c l v id).n ≥ 0 := by rw [e]; exact on_in c l v k
      rw [if_pos hpos] at hs ⊢
      rw [iter_go hs, e]
      obtain ⟨j, hj, h1, h2⟩ := kid_ix hp hi hk
      exact head_iter hl hv c hp n f k j hj (by omega) (by omega)
theorem F81_eq {l : List Bk} (hl : l.length ≤ 1000) {v : List Vt} (hv : v.length ≤ 1000) (c : Cf) : F81 c l v = some (headP c l v) := by
  unfold F81 headP
  cases hp : places l with
  | some m =>
    rw [head_iter hl hv c hp (l.length + 1) big (0, 0) (-1) (places_inv hp).zero (by omega) (big_gt (by omega)), ob]
  | none =>
    have hk : kidsOf l (0, 0) = [] := by unfold kidsOf; rw [hp]
    have hb : bestP c l v (0, 0) = ⟨-1, (0, 0)⟩ := by unfold bestP; rw [hk]; rfl
    have hs : F81_s1 c l v ⟨(0, 0)⟩ = some (.inr ⟨(0, 0)⟩) := by
      unfold F81_s1
      simp only
      rw [F79_eq hl hv, ob, hb]
      rfl
    rw [big3, iter_end hs, ob]
    unfold headF
    rw [hb, if_neg (by simp)]
def firstF {R : Type} (f : Nat → Option R) : Nat → Nat → Option R
  | _, 0 => none
  | k, d + 1 => match f k with
    | some r => some r
    | none => firstF f (k + 1) d
theorem firstF_none {R : Type} {f : Nat → Option R} : ∀ {d k : Nat}, firstF f k d = none ↔ ∀ j, k ≤ j → j < k + d → f j = none
  | 0, k => ⟨fun _ j h1 h2 => by omega, fun _ => rfl⟩
  | d + 1, k => by
    unfold firstF
    cases h : f k with
    | some r => exact ⟨fun h => (by cases h), fun h2 => (by rw [h2 k (Nat.le_refl _) (by omega)] at h; cases h)⟩
    | none =>
      rw [firstF_none (k := k + 1)]
      refine ⟨fun h2 j h3 h4 => ?_, fun h2 j h3 h4 => h2 j (by omega) (by omega)⟩
      by_cases e : j = k
      · subst e; exact h
      · exact h2 j (by omega) (by omega)
theorem firstF_some {R : Type} {f : Nat → Option R} {r : R} : ∀ {d k : Nat}, firstF f k d = some r → ∃ j, k ≤ j ∧ j < k + d ∧ f j = some r ∧ ∀ i, k ≤ i → i < j → f i = none
  | 0, k, h => by cases h
  | d + 1, k, h => by
    unfold firstF at h
    cases hk : f k with
    | some q =>
      rw [hk] at h
      cases h
      exact ⟨k, Nat.le_refl _, by omega, hk, fun i h1 h2 => by omega⟩
    | none =>
      rw [hk] at h
      obtain ⟨j, h1, h2, h3, h4⟩ := firstF_some h
      refine ⟨j, by omega, by omega, h3, fun i h5 h6 => ?_⟩
      by_cases e : i = k
      · subst e; exact hk
      · exact h4 i (by omega) h6
def outF {S R : Type} (s : S) : Option R → S ⊕ R
  | some r => .inr r
  | none => .inl s
theorem search_loop {S R : Type} {step : S → Option (S ⊕ (S ⊕ R))} {n : Nat} (mk : Nat → S) (f : Nat → Option R) (hs : ∀ j, j < n → step (mk j) = match f j with | some r => some (.inr (.inr r)) | none => some (.inl (mk (j + 1))))
    (he : step (mk n) = some (.inr (.inl (mk n)))) (hn : n < 4000000000000000000) : iter step big (mk 0) = some (outF (mk n) (firstF f 0 n)) := by
  have key : ∀ (d k q : Nat), k + d = n → d < q → iter step q (mk k) = some (outF (mk n) (firstF f k d)) := by
    intro d
    induction d with
    | zero =>
      intro k q hk hq
      obtain ⟨q, rfl⟩ : ∃ p, q = p + 1 := ⟨q - 1, by omega⟩
      obtain rfl : k = n := by omega
      exact iter_end he
    | succ d ih =>
      intro k q hk hq
      obtain ⟨q, rfl⟩ : ∃ p, q = p + 1 := ⟨q - 1, by omega⟩
      have h1 := hs k (by omega)
      unfold firstF
      cases hf : f k with
      | some r =>
        rw [hf] at h1
        exact iter_end h1
      | none =>
        rw [hf] at h1
        rw [iter_go h1]
        exact ih (k + 1) q (by omega) (by omega)
  exact key n 0 big (by omega) (big_gt hn)
def hasAt {α : Type} [DecidableEq α] (l : List α) (v : α) (j : Nat) : Option Int := if l[j]? = some v then some (j : Int) else none
theorem hasAt_first {α : Type} [DecidableEq α] {l : List α} {v : α} : (firstF (hasAt l v) 0 l.length).isSome = decide (v ∈ l) := by
  cases h : firstF (hasAt l v) 0 l.length with
  | none =>
    rw [firstF_none] at h
    refine (decide_eq_false fun hm => ?_).symm
    obtain ⟨j, hj⟩ := List.getElem?_of_mem hm
    have := h j (Nat.zero_le _) (by have := (List.getElem?_eq_some_iff.1 hj).1; omega)
    unfold hasAt at this
    rw [if_pos hj] at this
    cases this
  | some r =>
    obtain ⟨j, -, -, h3, -⟩ := firstF_some h
    refine (decide_eq_true ?_).symm
    unfold hasAt at h3
    split at h3
    · rename_i e; exact List.mem_of_getElem? e
    · cases h3
theorem hasAt_nn {α : Type} [DecidableEq α] {l : List α} {v : α} {n : Nat} {r : Int} (h : firstF (hasAt l v) 0 n = some r) : 0 ≤ r := by
  obtain ⟨j, -, -, h3, -⟩ := firstF_some h
  unfold hasAt at h3
  split at h3
  · cases h3; omega
  · cases h3
theorem F161_eq {l : List Bk} (hl : l.length ≤ 100000) (v : Bk) : F161 l v = some (decide (v ∈ l)) := by
  have e := search_loop (step := F170_s1 l v) (n := l.length) (fun k => F170_L1.mk (k : Int)) (hasAt l v) (fun j hj => by
    obtain ⟨y, hy, -⟩ := get_of hj
    unfold F170_s1 hasAt
    simp only
    rw [decide_eq_true (show (j : Int) < (l.length : Int) by omega), ct, ix_nat hy, ob, eqBk, wrap_succ (n := j) (by omega), hy]
    by_cases h : v = y
    · rw [decide_eq_true h, ct, if_pos (by rw [h])]
    · rw [decide_eq_false h, cf, if_neg (fun e => h (Option.some.inj e).symm)]) (by
    unfold F170_s1
    simp only
    rw [decide_eq_false (show ¬ (l.length : Int) < (l.length : Int) by omega), cf]) (by omega)
  unfold F161 F170
  rw [← hasAt_first]
  have e' : iter (F170_s1 l v) big (F170_L1.mk 0) = some (outF (F170_L1.mk (l.length : Int)) (firstF (hasAt l v) 0 l.length)) := e
  rw [e', ob]
  cases h : firstF (hasAt l v) 0 l.length with
  | none => rw [outF, sl, ob]; rfl
  | some r => rw [outF, sr, ob, decide_eq_true (hasAt_nn h)]; rfl
theorem F162_eq {l : List Vt} (hl : l.length ≤ 100000) (v : Vt) : F162 l v = some (decide (v ∈ l)) := by
  have e := search_loop (step := F171_s1 l v) (n := l.length) (fun k => F171_L1.mk (k : Int)) (hasAt l v) (fun j hj => by
    obtain ⟨y, hy, -⟩ := get_of hj
    unfold F171_s1 hasAt
    simp only
    rw [decide_eq_true (show (j : Int) < (l.length : Int) by omega), ct, ix_nat hy, ob, eqVt, wrap_succ (n := j) (by omega), hy]
    by_cases h : v = y
    · rw [decide_eq_true h, ct, if_pos (by rw [h])]
    · rw [decide_eq_false h, cf, if_neg (fun e => h (Option.some.inj e).symm)]) (by
    unfold F171_s1
    simp only
    rw [decide_eq_false (show ¬ (l.length : Int) < (l.length : Int) by omega), cf]) (by omega)
  unfold F162 F171
  rw [← hasAt_first]
  have e' : iter (F171_s1 l v) big (F171_L1.mk 0) = some (outF (F171_L1.mk (l.length : Int)) (firstF (hasAt l v) 0 l.length)) := e
  rw [e', ob]
  cases h : firstF (hasAt l v) 0 l.length with
  | none => rw [outF, sl, ob]; rfl
  | some r => rw [outF, sr, ob, decide_eq_true (hasAt_nn h)]; rfl
section
variable {α : Type} [DecidableEq α]
def withP (a : List α) : List α → List α
  | [] => a
  | x :: r => withP (if x ∈ a then a else a ++ [x]) r
theorem withP_snoc (x : α) : ∀ (b a : List α), withP a (b ++ [x]) = if x ∈ withP a b then withP a b else withP a b ++ [x]
  | [], _ => rfl
  | _ :: r, _ => withP_snoc x r _
theorem withP_len : ∀ (b a : List α), (withP a b).length ≤ a.length + b.length
  | [], a => by simp [withP]
  | y :: r, a => by
    unfold withP
    have := withP_len r (if y ∈ a then a else a ++ [y])
    have h2 : (if y ∈ a then a else a ++ [y]).length ≤ a.length + 1 := by split <;> simp
    simp only [List.length_cons]; omega
end
theorem F139_eq {a b : List Bk} (h : a.length + b.length ≤ 90000) : F139 a b = some (withP a b) := by
  unfold F139
  rw [room_ok (by omega) (by omega), ct]
  have e := count_loop (step := F139_s1 b) (n := b.length) (fun k => F139_L1.mk (k : Int) (withP a (b.take k))) (F139_L1.mk (b.length : Int) (withP a b)) (fun k hk => by
    obtain ⟨y, hy, -⟩ := get_of hk
    have hlen := withP_len (b.take k) a
    rw [List.length_take] at hlen
    unfold F139_s1
    simp only
    rw [decide_eq_true (show (k : Int) < (b.length : Int) by omega), ct, ix_nat hy, ob, F161_eq (by omega), ob, take_succ_getG hy, withP_snoc, wrap_succ (n := k) (by omega)]
    by_cases hm : y ∈ withP a (b.take k)
    · rw [decide_eq_true hm, Bool.not_true, cf, if_pos hm]
    · rw [decide_eq_false hm, Bool.not_false, ct, room_ok (by simp only [List.length_singleton]; omega) (by omega), ct, if_neg hm]) (by
    unfold F139_s1
    simp only
    rw [decide_eq_false (show ¬ (b.length : Int) < (b.length : Int) by omega), cf, List.take_length]) (by omega)
  have e' : iter (F139_s1 b) big (F139_L1.mk 0 a) = some (F139_L1.mk (b.length : Int) (withP a b)) := e
  rw [e', ob]
theorem F140_eq {a b : List Vt} (h : a.length + b.length ≤ 90000) : F140 a b = some (withP a b) := by
  unfold F140
  rw [room_ok (by omega) (by omega), ct]
  have e := count_loop (step := F140_s1 b) (n := b.length) (fun k => F140_L1.mk (k : Int) (withP a (b.take k))) (F140_L1.mk (b.length : Int) (withP a b)) (fun k hk => by
    obtain ⟨y, hy, -⟩ := get_of hk
    have hlen := withP_len (b.take k) a
    rw [List.length_take] at hlen
    unfold F140_s1
    simp only
    rw [decide_eq_true (show (k : Int) < (b.length : Int) by omega), ct, ix_nat hy, ob, F162_eq (by omega), ob, take_succ_getG hy, withP_snoc, wrap_succ (n := k) (by omega)]
    by_cases hm : y ∈ withP a (b.take k)
    · rw [decide_eq_true hm, Bool.not_true, cf, if_pos hm]
    · rw [decide_eq_false hm, Bool.not_false, ct, room_ok (by simp only [List.length_singleton]; omega) (by omega), ct, if_neg hm]) (by
    unfold F140_s1
    simp only
    rw [decide_eq_false (show ¬ (b.length : Int) < (b.length : Int) by omega), cf, List.take_length]) (by omega)
  have e' : iter (F140_s1 b) big (F140_L1.mk 0 a) = some (F140_L1.mk (b.length : Int) (withP a b)) := e
  rw [e', ob]
def joinP (a b : Vw) : Vw := ⟨withP a.B b.B, withP a.V b.V⟩
theorem F91_eq {a b : Vw} (h1 : a.B.length + b.B.length ≤ 90000) (h2 : a.V.length + b.V.length ≤ 90000) : F91 a b = some (joinP a b) := by
  unfold F91
  rw [F139_eq h1, ob, F140_eq h2, ob]; rfl
theorem F84_eq (w : Vw) (n : Int) : F84 w n = some (decide ((w.B.length : Int) ≤ n ∧ (w.V.length : Int) ≤ n)) := by
  unfold F84
  by_cases h : (w.B.length : Int) ≤ n
  · rw [decide_eq_true h, ct]; congr 1; exact decide_eq_decide.2 ⟨fun h2 => ⟨h, h2⟩, fun h2 => h2.2⟩
  · rw [decide_eq_false h, cf, decide_eq_false fun h2 => h h2.1]
def mayB (c : Cf) (b : Bk) : Bool := decide (0 ≤ prP c b.Slot ∧ prP c b.Slot = b.From ∧ nm b ≠ (0, 0))
def mayV (c : Cf) (v : Vt) : Bool := decide (v.From ∈ cmP c v.Slot)
theorem F87_eq (c : Cf) (b : Bk) : F87 c b = some (mayB c b) := by
  unfold F87 mayB
  rw [F63_eq, ob]
  by_cases h1 : prP c b.Slot ≥ 0
  · rw [decide_eq_true h1, ct]
    by_cases h2 : prP c b.Slot = b.From
    · rw [show (prP c b.Slot == b.From) = true by simp [h2], ct, eqID0]
      by_cases h3 : nm b = (0, 0)
      · rw [decide_eq_true h3, Bool.not_true, decide_eq_false fun h => h.2.2 h3]
      · rw [decide_eq_false h3, Bool.not_false, decide_eq_true ⟨h1, h2, h3⟩]
    · rw [show (prP c b.Slot == b.From) = false by simp [h2], cf, decide_eq_false fun h => h2 h.2.1]
  · rw [decide_eq_false h1, cf, decide_eq_false fun h => h1 h.1]
theorem F88_eq (c : Cf) (v : Vt) : F88 c v = some (mayV c v) := by
  unfold F88 mayV
  rw [F74_eq, ob]
theorem filter_take_snoc {α : Type} {p : α → Bool} {l : List α} {n : Nat} {y : α} (hy : l[n]? = some y) : (l.take (n + 1)).filter p = (l.take n).filter p ++ bif p y then [y] else [] := by
  rw [take_succ_getG hy, List.filter_append]
  cases h : p y <;> simp [h]
theorem filter_take_len {α : Type} {p : α → Bool} {l : List α} (n : Nat) : ((l.take n).filter p).length ≤ n :=
  Nat.le_trans (List.length_filter_le _ _) (by rw [List.length_take]; omega)
theorem F126_eq {c : Cf} {l : List Bk} (hl : l.length ≤ 100000) : F126 c l = some (l.filter (mayB c)) := by
  unfold F126
  have e := count_loop (step := F126_s1 c l) (n := l.length) (fun k => F126_L1.mk (k : Int) ((l.take k).filter (mayB c))) (F126_L1.mk (l.length : Int) (l.filter (mayB c))) (fun k hk => by
    obtain ⟨y, hy, -⟩ := get_of hk
    have hlen := filter_take_len (p := mayB c) (l := l) k
    unfold F126_s1
    simp only
    rw [decide_eq_true (show (k : Int) < (l.length : Int) by omega), ct, ix_nat hy, ob, F87_eq, ob, filter_take_snoc hy, wrap_succ (n := k) (by omega)]
    cases mayB c y with
    | true => rw [ct, room_ok (by simp only [List.length_singleton]; omega) (by omega), ct, ct]
    | false => rw [cf, cf, List.append_nil]) (by
    unfold F126_s1
    simp only
    rw [decide_eq_false (show ¬ (l.length : Int) < (l.length : Int) by omega), cf, List.take_length]) (by omega)
  have e' : iter (F126_s1 c l) big (F126_L1.mk 0 []) = some (F126_L1.mk (l.length : Int) (l.filter (mayB c))) := e
  rw [e', ob]
theorem F127_eq {c : Cf} {l : List Vt} (hl : l.length ≤ 100000) : F127 c l = some (l.filter (mayV c)) := by
  unfold F127
  have e := count_loop (step := F127_s1 c l) (n := l.length) (fun k => F127_L1.mk (k : Int) ((l.take k).filter (mayV c))) (F127_L1.mk (l.length : Int) (l.filter (mayV c))) (fun k hk => by
    obtain ⟨y, hy, -⟩ := get_of hk
    have hlen := filter_take_len (p := mayV c) (l := l) k
    unfold F127_s1
    simp only
    rw [decide_eq_true (show (k : Int) < (l.length : Int) by omega), ct, ix_nat hy, ob, F88_eq, ob, filter_take_snoc hy, wrap_succ (n := k) (by omega)]
    cases mayV c y with
    | true => rw [ct, room_ok (by simp only [List.length_singleton]; omega) (by omega), ct, ct]
    | false => rw [cf, cf, List.append_nil]) (by
    unfold F127_s1
    simp only
    rw [decide_eq_false (show ¬ (l.length : Int) < (l.length : Int) by omega), cf, List.take_length]) (by omega)
  have e' : iter (F127_s1 c l) big (F127_L1.mk 0 []) = some (F127_L1.mk (l.length : Int) (l.filter (mayV c))) := e
  rw [e', ob]
def onlyP (c : Cf) (w : Vw) : Vw := ⟨w.B.filter (mayB c), w.V.filter (mayV c)⟩
theorem F85_eq {c : Cf} {w : Vw} (h1 : w.B.length ≤ 100000) (h2 : w.V.length ≤ 100000) : F85 c w = some (onlyP c w) := by
  unfold F85
  rw [F126_eq h1, ob, F127_eq h2, ob]; rfl
theorem F85V_eq {c : Cf} {w : Vw} (h1 : w.B.length ≤ 100000) (h2 : w.V.length ≤ 100000) : F85V c w = some ((onlyP c w).B, (onlyP c w).V) := by
  unfold F85V
  rw [F126_eq h1, ob, F127_eq h2, ob]; rfl
open Go.Proofs
def okAt (l : List Bk) (n : Nat) : Prop := ∃ y p, l[n]? = some y ∧ findE (mAt l n) y.Parent = some p ∧ ¬ y.Slot ≤ slotIx l p ∧ findE (mAt l n) (nm y) = none
theorem go_iff {l : List Bk} : ∀ (r n : Nat), l.length - n = r → n ≤ l.length → ((placesGo l (l.drop n) n (mAt l n)).isSome = true ↔ ∀ i, n ≤ i → i < l.length → okAt l i)
  | 0, n, hr, hn => by
    have : n = l.length := by omega
    subst this
    rw [List.drop_length]
    exact ⟨fun _ i h1 h2 => by omega, fun _ => rfl⟩
  | r + 1, n, hr, hn => by
    obtain ⟨y, hy, -⟩ := get_of (l := l) (n := n) (by omega)
    have ih := go_iff (l := l) r (n + 1) (by omega) (by omega)
    have e : mAt l (n + 1) = mAt l n ++ [(nm y, (n : Int))] := by simp only [mAt, hy]
    rw [e] at ih
    rw [placesGo_at hy]
    constructor
    · intro h i h1 h2
      cases hp : findE (mAt l n) y.Parent with
      | none => rw [hp] at h; cases h
      | some p =>
        rw [hp] at h
        simp only at h
        by_cases hs : y.Slot ≤ slotIx l p
        · rw [if_pos hs] at h; cases h
        · rw [if_neg hs] at h
          cases hq : findE (mAt l n) (nm y) with
          | some q => rw [hq] at h; cases h
          | none =>
            rw [hq] at h
            by_cases hin : i = n
            · subst hin; exact ⟨y, p, hy, hp, hs, hq⟩
            · exact ih.1 h i (by omega) h2
    · intro h
      obtain ⟨y', p, hy', hp, hs, hq⟩ := h n (Nat.le_refl _) (by omega)
      rw [hy] at hy'; cases hy'
      rw [hp]; simp only
      rw [if_neg hs, hq]
      exact ih.2 fun i h1 h2 => h i (by omega) h2
theorem may_iff {l : List Bk} : (places l).isSome = true ↔ ∀ i, i < l.length → okAt l i := by
  have := go_iff (l := l) l.length 0 (by omega) (Nat.zero_le _)
  rw [show (places l) = placesGo l (l.drop 0) 0 (mAt l 0) from rfl, this]
  exact ⟨fun h i hi => h i (Nat.zero_le _) hi, fun h i _ hi => h i hi⟩
theorem mAt_prefix {l m : List Bk} : ∀ n, (∀ i, i < n → l[i]? = m[i]?) → mAt l n = mAt m n
  | 0, _ => rfl
  | n + 1, h => by
    simp only [mAt, h n (by omega), mAt_prefix n fun i hi => h i (by omega)]
theorem okAt_prefix {l m : List Bk} {n : Nat} (h : ∀ i, i ≤ n → l[i]? = m[i]?) (ho : okAt l n) (hn : n < l.length) : okAt m n := by
  obtain ⟨y, p, h1, h2, h3, h4⟩ := ho
  have e := mAt_prefix n fun i hi => h i (by omega)
  refine ⟨y, p, by rw [← h n (Nat.le_refl _)]; exact h1, by rw [← e]; exact h2, ?_, by rw [← e]; exact h4⟩
  have hp : p = -1 ∨ 0 ≤ p ∧ p < n := by
    rw [mAt_find _ n (by omega)] at h2
    split at h2
    · cases h2; exact .inl rfl
    · split at h2
      · rename_i hi
        obtain ⟨j, b, g1, g2, -⟩ := mAt_slot hi
        cases h2
        exact .inr ⟨by omega, by omega⟩
      · cases h2
  rcases hp with rfl | ⟨h5, h6⟩
  · simpa [slotIx] using h3
  · have : slotIx m p = slotIx l p := by
      simp only [slotIx, h p.toNat (by omega)]
    rw [this]; exact h3
theorem may_take {l : List Bk} {k : Nat} (h : (places l).isSome = true) (hk : k ≤ l.length) : (places (l.take k)).isSome = true := by
  rw [may_iff] at h ⊢
  intro i hi
  simp only [List.length_take] at hi
  refine okAt_prefix (fun j hj => ?_) (h i (by omega)) (by omega)
  rw [List.getElem?_take_of_lt (by omega)]
def fineB (l : List Bk) (b : Bk) : Bool := (slotOfB l b.Parent).2 && decide (b.Slot > (slotOfB l b.Parent).1) && !decide (nm b = (0, 0)) && decide (findOf l (nm b) < 0)
theorem may_more {l : List Bk} {m : List (ID × Int)} {b : Bk} (h : places l = some m) : (places (l ++ [b])).isSome = fineB l b := by
  have hl : ∀ i, i < l.length → okAt l i := may_iff.1 (by rw [h]; rfl)
  have hpre : ∀ i, i < l.length → l[i]? = (l ++ [b])[i]? := fun i hi => by rw [List.getElem?_append_left hi]
  have hm : mAt (l ++ [b]) l.length = m := by rw [← mAt_prefix l.length hpre, ← places_is h]
  have hb : (l ++ [b])[l.length]? = some b := by simp
  have hslot : ∀ p i, findE m p = some i → slotIx (l ++ [b]) i = slotIx l i := by
    intro p i hf
    rcases known_ix h hf with ⟨rfl, -⟩ | ⟨c, h0, h1, h2, -⟩
    · rfl
    · have : ¬ i = -1 := by omega
      simp only [slotIx, if_neg this, ← hpre i.toNat (by omega)]
  have key : (places (l ++ [b])).isSome = true ↔ okAt (l ++ [b]) l.length := by
    rw [may_iff]
    constructor
    · intro h1; exact h1 l.length (by simp)
    · intro h1 i hi
      simp only [List.length_append, List.length_singleton] at hi
      by_cases e : i = l.length
      · subst e; exact h1
      · exact okAt_prefix (fun j hj => hpre j (by omega)) (hl i (by omega)) (by omega)
  rw [Bool.eq_iff_iff, key]
  constructor
  · rintro ⟨y, p, h1, h2, h3, h4⟩
    rw [hb] at h1; cases h1
    rw [hm] at h2 h4
    rw [hslot _ _ h2] at h3
    have hz : ¬ nm b = (0, 0) := fun e => by rw [e, (places_inv h).zero] at h4; cases h4
    have g1 : slotOfB l b.Parent = (slotIx l p, true) := by simp only [slotOfB, h, h2]
    have g2 : findOf l (nm b) = -1 := by simp only [findOf, h, h4]; rfl
    unfold fineB
    rw [g1, g2, decide_eq_true (show b.Slot > slotIx l p by omega), decide_eq_false hz]; rfl
  · intro hf
    unfold fineB at hf
    simp only [Bool.and_eq_true, Bool.not_eq_true', decide_eq_true_eq, decide_eq_false_iff_not] at hf
    obtain ⟨⟨⟨h1, h2⟩, h3⟩, h4⟩ := hf
    cases hp : findE m b.Parent with
    | none => simp only [slotOfB, h, hp] at h1; cases h1
    | some p =>
      simp only [slotOfB, h, hp] at h2
      refine ⟨b, p, hb, by rw [hm]; exact hp, by rw [hslot _ _ hp]; omega, ?_⟩
      rw [hm]
      rcases Option.eq_none_or_eq_some (findE m (nm b)) with h5 | ⟨i, h5⟩
      · exact h5
      · exfalso
        simp only [findOf, h, h5, Option.getD_some] at h4
        rcases known_ix h h5 with ⟨-, e⟩ | ⟨c, h0, -⟩
        · exact h3 e
        · omega
end Go.Mg
