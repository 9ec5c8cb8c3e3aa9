/- Laws of nodes. The example of nodes. Conditions: none. -/
import Derived.Test.YtabjakfgaodocaaGreatX3
import Derived.Test.YtabjakfgaodocaaGreatX7
import Derived.Test.YtabjakfgaodocaaGreatX8
namespace Go.Mg
open Go.Proofs
def F3013 : Option Bool :=
  (F125 ).bind fun v1 =>
  (F3043 0).bind fun v2 =>
  (F3018 v1 v2 (Vw.mk [] []) ([] : List Of)).bind fun v3 =>
  (
    bif (v3.2.length : Int) != 1 then
      some true
    else
      (ix v3.2 0).bind fun y1 =>
      bif !((y1.B.Slot == 1) && ((y1.B.From == 0) && ((y1.B.Parent.1 == 0) && ((y1.B.Parent.2 == 0) && ((y1.B.Salt == 0) && true))))) then
        some true
      else
        some ((v3.1.V.B.length : Int) != 1)
  ).bind fun v4 =>
  bif v4 then
    some false
  else
    (F3018 v1 v3.1 (Vw.mk [] []) v3.2).bind fun v5 =>
    (F3018 v1 v5.1 (Vw.mk [] []) ([] : List Of)).bind fun v6 =>
    bif (v6.1.V.V.length : Int) == 1 then
      bif ((v6.1.C.ID.1 == ((nm (Bk.mk 1 0 (0, 0) 0)).1)) && ((v6.1.C.ID.2 == ((nm (Bk.mk 1 0 (0, 0) 0)).2)) && true)) then
        bif v6.1.C.Revoked == 0 then
          (F1030 v1 v6.1).bind fun v7 =>
          bif ((v7.1 == ((nm (Bk.mk 1 0 (0, 0) 0)).1)) && ((v7.2 == ((nm (Bk.mk 1 0 (0, 0) 0)).2)) && true)) then
            some (v6.1.Tick == 6)
          else
            some false
        else
          some false
      else
        some false
    else
      some false
set_option maxRecDepth 100000 in
theorem c3013 {r_ : Bool} (hr : F3013 = some r_) : LPure Tryz.prog 13 [] [.bool r_] := by
  refine LPure.start Tryz.func13 Z Z Z Z ?_
  unfold F3013 at hr
  refine zQ (zR (zM Z (zN (zT (zQ (zR ?_))))))
  obtain ⟨v1, h_v1, hr⟩ := zB hr
  refine zS Z Z Z (zC Z Z Z (by kernel_rfl) (LC.pure (c125 h_v1) .nil)) (zS Z Z Z (LOp.alloc Z zt55 Z Z) (zS Z Z Z (LOp.store Z Z Z Z vt55 Z Z Z Z) (zN (zT (zQ (zR ?_))))))
  obtain ⟨v2, h_v2, hr⟩ := zB hr
  refine zS Z Z Z (zC Z Z Z (by kernel_rfl) (LC.pure (c3043 h_v2) (.cons Conv.p .nil))) (zS Z Z Z (LOp.alloc Z zt1071 Z Z) (zS Z Z Z (LOp.store Z Z Z Z vt1071 Z Z Z Z) (zN (zT (zQ (zR (zS Z Z Z (zD Z Z Z vt55 Z Z) (zS Z Z Z (zD Z Z Z vt1071 Z Z) (zS Z Z Z (LOp.build Z bt75 Z Z Z) ?_)))))))))
  obtain ⟨v3, h_v3, hr⟩ := zB hr
  refine zS Z Z Z (zC Z Z Z (by kernel_rfl) (LC.pure (c3018 h_v3) (.cons Conv.p (.cons Conv.p (.cons (Conv.agg (.cons Conv.zs (.cons Conv.zs .nil))) (.cons Conv.zs .nil)))))) (zM Z (zS Z Z Z (LOp.extract Z Z Z) (zS Z Z Z (LOp.extract Z Z Z) (zS Z Z Z (LOp.store Z Z Z Z vt1071 Z Z Z Z) (zM Z (zN (zT (zQ (zR (zS Z Z Z (LOp.build Z bt42 Z Z Z) (zS Z Z Z (LOp.alloc Z zt42 Z Z) ?_)))))))))))
  refine zS Z Z Z (LOp.store Z Z Z Z vt42 Z Z Z Z) (zN (zT (zQ ?_)))
  obtain ⟨v4, hb_v4, ho_v4⟩ := zB hr
  clear hr
  refine LW.cut (E := [(0, .p (.bool false)), (1, .ptr 0 0), (2, .ptr 1 0), (3, .p (.slice 9 (v3.2.map ofP))), (4, .ptr 2 0), (32, .p (.bool v4))]) (O := [.box [.p (.slice 1 (v1.W.map i64P)), .p (.int .u64 v1.Seed), .p (.int .i64 v1.Epoch), .p (.int .i64 v1.Num), .p (.int .i64 v1.Den)], .box [.p (.int .i64 v3.1.No), .p (.int .i64 v3.1.Tick), .p (.slice 5 (v3.1.V.B.map blkP)), .p (.slice 4 (v3.1.V.V.map vtP)), .p (.slice 5 (v3.1.In.B.map blkP)), .p (.slice 4 (v3.1.In.V.map vtP)), .p (.slice 9 (v3.1.O.map ofP)), .p (.int .u64 v3.1.C.ID.1), .p (.int .u64 v3.1.C.ID.2), .p (.int .i64 v3.1.C.Slot), .p (.int .i64 v3.1.C.Revoked), .p (.bool v3.1.Full)], .box [.p (.int .i64 1), .p (.int .i64 0), .p (.int .u64 0), .p (.int .u64 0), .p (.int .u64 0)]]) ?_ ?_
  · have hr := hb_v4
    refine LW.draw (by kernel_rfl) (by kernel_rfl) (zH Z (zE Z Z Z (LOp.lenM Z Z (by kernel_rfl)) (zE Z Z Z (LOp.bin Z Z Z Z) (zH Z ?_))))
    refine LO.cases 18 Z (fun (g1 : ((v3.2.length : Int) != 1) = true) => ?_) (fun (g1 : ((v3.2.length : Int) != 1) = false) => ?_)
    ·
      have hr := zI g1 hr
      refine LO.sk Z Z Z (gd g1 Z) Z Z (LO.sk Z Z Z (gd g1 Z) Z Z (LO.sk Z Z Z (gd g1 Z) Z Z (LO.sk Z Z Z (gd g1 Z) Z Z (LO.sk Z Z Z (gd g1 Z) Z Z (LO.sk Z Z Z (gd g1 Z) Z Z (zE Z Z Z (LOp.pickT Z (gdl g1 Z) Z) (zH Z (LO.sk Z Z Z Z Z Z (LO.sk Z Z Z Z Z Z (LO.sk Z Z Z Z Z Z (LO.sk Z Z Z Z Z Z ?_)))))))))))
      refine LO.sk Z Z Z Z Z Z (zE Z Z Z (LOp.pickT Z Z Z) (LO.nil (zT ?_)))
      obtain rfl := zJ hr
      exact zW 3 ⟨Z, Z, Z, Z, Z, Z, trivial⟩ Z Z Z Z
    ·
      have hr := zO g1 hr
      refine LO.gd Z Z Z (gd g1 Z) Z (LOp.move Z Z) ?_
      obtain ⟨y1, h_y1, hr⟩ := zB hr
      refine LO.gd Z Z Z (gd g1 Z) Z (LOp.indexAddrX Z Z Z st1036 h_y1 Z) (LO.gd Z Z Z (gd g1 Z) Z (LOp.fieldAddrC Z Z ft1077_2 Z) (LO.gd Z Z Z (gd g1 Z) Z (LOp.loadC Z Z Z vt42 Z Z) (LO.gd Z Z Z (gd g1 Z) Z (zD Z Z Z vt42 Z Z) (LO.gd Z Z Z (gd g1 Z) Z (LOp.neqAgg Z Z Z Z Z eqt42) (zE Z Z Z (LOp.pickF Z (gdl g1 Z) Z) (zH Z ?_))))))
      refine LO.cases 26 Z (fun (g2 : (!((y1.B.Slot == 1) && ((y1.B.From == 0) && ((y1.B.Parent.1 == 0) && ((y1.B.Parent.2 == 0) && ((y1.B.Salt == 0) && true)))))) = true) => ?_) (fun (g2 : (!((y1.B.Slot == 1) && ((y1.B.From == 0) && ((y1.B.Parent.1 == 0) && ((y1.B.Parent.2 == 0) && ((y1.B.Salt == 0) && true)))))) = false) => ?_)
      ·
        have hr := zI g2 hr
        refine LO.sk Z Z Z (gd g2 Z) Z Z (LO.sk Z Z Z (gd g2 Z) Z Z (LO.sk Z Z Z (gd g2 Z) Z Z (LO.sk Z Z Z (gd g2 Z) Z Z (LO.sk Z Z Z (gd g2 Z) Z Z (zE Z Z Z (LOp.pickT Z (gdl g2 Z) Z) (LO.nil (zT ?_)))))))
        obtain rfl := zJ hr
        exact zW 3 ⟨Z, Z, Z, Z, Z, Z, trivial⟩ Z Z Z Z
      ·
        have hr := zO g2 hr
        refine LO.gd Z Z Z (gd g2 Z) Z (zA Z Z ft1071_2) (LO.gd Z Z Z (gd g2 Z) Z (zA Z Z ft75_0) (LO.gd Z Z Z (gd g2 Z) Z (zD Z Z Z vt27 Z Z) (LO.gd Z Z Z (gd g2 Z) Z (LOp.lenM Z Z (by kernel_rfl)) (LO.gd Z Z Z (gd g2 Z) Z (LOp.bin Z Z Z Z) (zE Z Z Z (LOp.pickF Z (gdl g2 Z) Z) (LO.nil (zT ?_)))))))
        obtain rfl := zJ hr
        exact zW 3 ⟨Z, Z, Z, Z, Z, Z, trivial⟩ Z Z Z Z
  · have hr := ho_v4
    clear hb_v4
    refine zX Z (fun (g3 : v4 = true) => ?_) (fun (g3 : v4 = false) => ?_)
    ·
      have hr := zI g3 hr
      refine zQ (zR (zM Z (zN (zT (LW.ret (thn_r ?_))))))
      obtain rfl := zJ hr
      refine finP_ret (.one (.tmp Z)) ?_
      exact Conv.p
    ·
      have hr := zO g3 hr
      refine LW.skip (zT (zQ (zR (zS Z Z Z (zD Z Z Z vt55 Z Z) (zS Z Z Z (zD Z Z Z vt1071 Z Z) (zS Z Z Z (LOp.build Z bt75 Z Z Z) (zM Z ?_)))))))
      obtain ⟨v5, h_v5, hr⟩ := zB hr
      refine zS Z Z Z (zC Z Z Z (by kernel_rfl) (LC.pure (c3018 h_v5) (.cons Conv.p (.cons Conv.p (.cons (Conv.agg (.cons Conv.zs (.cons Conv.zs .nil))) (.cons Conv.p .nil)))))) (zM Z (zS Z Z Z (LOp.extract Z Z Z) (zS Z Z Z (LOp.extract Z Z Z) (zS Z Z Z (LOp.store Z Z Z Z vt1071 Z Z Z Z) (zN (zT (zQ (zR (zS Z Z Z (zD Z Z Z vt55 Z Z) (zS Z Z Z (zD Z Z Z vt1071 Z Z) (zS Z Z Z (LOp.build Z bt75 Z Z Z) ?_)))))))))))
      obtain ⟨v6, h_v6, hr⟩ := zB hr
      refine zS Z Z Z (zC Z Z Z (by kernel_rfl) (LC.pure (c3018 h_v6) (.cons Conv.p (.cons Conv.p (.cons (Conv.agg (.cons Conv.zs (.cons Conv.zs .nil))) (.cons Conv.zs .nil)))))) (zM Z (zS Z Z Z (LOp.extract Z Z Z) (zS Z Z Z (LOp.extract Z Z Z) (zS Z Z Z (LOp.store Z Z Z Z vt1071 Z Z Z Z) (zN (zT (zQ (LW.draw (by kernel_rfl) (by kernel_rfl) (zE Z Z Z (zA Z Z ft1071_2) (zE Z Z Z (zA Z Z ft75_1) (zE Z Z Z (zD Z Z Z vt68 Z Z) ?_)))))))))))
      refine zE Z Z Z (LOp.lenM Z Z (by kernel_rfl)) (zE Z Z Z (LOp.bin Z Z Z Z) (zH Z ?_))
      refine LO.cases 53 Z (fun (g4 : ((v6.1.V.V.length : Int) == 1) = true) => ?_) (fun (g4 : ((v6.1.V.V.length : Int) == 1) = false) => ?_)
      ·
        have hr := zI g4 hr
        refine LO.gd Z Z Z (gd g4 Z) Z (zA Z Z ft1071_5) (LO.gd Z Z Z (gd g4 Z) Z (zA Z Z ft26_0) (LO.gd Z Z Z (gd g4 Z) Z (zD Z Z Z vt24 Z Z) (LO.gd Z Z Z (gd g4 Z) Z (zD Z Z Z vt42 Z Z) (LO.gd Z Z Z (gd g4 Z) Z (zC Z Z Z (by kernel_rfl) (LC.pure (c50 (b := (Bk.mk 1 0 (0, 0) 0))) (.cons Conv.p .nil))) (LO.gd Z Z Z (gd g4 Z) Z (LOp.eqlAgg Z Z Z Z Z eqt24) (zE Z Z Z (LOp.pickT Z (gdl g4 Z) Z) (zH Z ?_)))))))
        refine LO.cases 61 Z (fun (g5 : ((v6.1.C.ID.1 == ((nm (Bk.mk 1 0 (0, 0) 0)).1)) && ((v6.1.C.ID.2 == ((nm (Bk.mk 1 0 (0, 0) 0)).2)) && true)) = true) => ?_) (fun (g5 : ((v6.1.C.ID.1 == ((nm (Bk.mk 1 0 (0, 0) 0)).1)) && ((v6.1.C.ID.2 == ((nm (Bk.mk 1 0 (0, 0) 0)).2)) && true)) = false) => ?_)
        ·
          have hr := zI g5 hr
          refine LO.gd Z Z Z (gd g5 Z) Z (zA Z Z ft1071_5) (LO.gd Z Z Z (gd g5 Z) Z (zA Z Z ft26_2) (LO.gd Z Z Z (gd g5 Z) Z (zD Z Z Z vt3 Z Z) (LO.gd Z Z Z (gd g5 Z) Z (LOp.bin Z Z Z Z) (zE Z Z Z (LOp.pickT Z (gdl g5 Z) Z) (zH Z ?_)))))
          refine LO.cases 67 Z (fun (g6 : (v6.1.C.Revoked == 0) = true) => ?_) (fun (g6 : (v6.1.C.Revoked == 0) = false) => ?_)
          ·
            have hr := zI g6 hr
            refine LO.gd Z Z Z (gd g6 Z) Z (zD Z Z Z vt55 Z Z) (LO.gd Z Z Z (gd g6 Z) Z (zD Z Z Z vt1071 Z Z) ?_)
            obtain ⟨v7, h_v7, hr⟩ := zB hr
            refine LO.gd Z Z Z (gd g6 Z) Z (zC Z Z Z (by kernel_rfl) (LC.pure (c1030 h_v7) (.cons Conv.p (.cons Conv.p .nil)))) (LO.gd Z Z Z (gd g6 Z) Z (zD Z Z Z vt42 Z Z) (LO.gd Z Z Z (gd g6 Z) Z (zC Z Z Z (by kernel_rfl) (LC.pure (c50 (b := (Bk.mk 1 0 (0, 0) 0))) (.cons Conv.p .nil))) (LO.gd Z Z Z (gd g6 Z) Z (LOp.eqlAgg Z Z Z Z Z eqt24) (zE Z Z Z (LOp.pickT Z (gdl g6 Z) Z) (zH Z ?_)))))
            refine LO.cases 75 Z (fun (g7 : ((v7.1 == ((nm (Bk.mk 1 0 (0, 0) 0)).1)) && ((v7.2 == ((nm (Bk.mk 1 0 (0, 0) 0)).2)) && true)) = true) => ?_) (fun (g7 : ((v7.1 == ((nm (Bk.mk 1 0 (0, 0) 0)).1)) && ((v7.2 == ((nm (Bk.mk 1 0 (0, 0) 0)).2)) && true)) = false) => ?_)
            ·
              have hr := zI g7 hr
              refine LO.gd Z Z Z (gd g7 Z) Z (zA Z Z ft1071_1) (LO.gd Z Z Z (gd g7 Z) Z (zD Z Z Z vt3 Z Z) (LO.gd Z Z Z (gd g7 Z) Z (LOp.bin Z Z Z Z) (zE Z Z Z (LOp.pickT Z (gdl g7 Z) Z) (zH Z (LO.nil (zT (LW.ret ?_)))))))
              obtain rfl := zJ hr
              refine finP_ret (.one (.tmp Z)) ?_
              exact Conv.p
            ·
              have hr := zO g7 hr
              refine LO.sk Z Z Z (gd g7 Z) Z Z (LO.sk Z Z Z (gd g7 Z) Z Z (LO.sk Z Z Z (gd g7 Z) Z Z (zE Z Z Z (LOp.pickF Z (gdl g7 Z) Z) (zH Z (LO.nil (zT (LW.ret ?_)))))))
              obtain rfl := zJ hr
              refine finP_ret (.one (.tmp Z)) ?_
              exact Conv.p
          ·
            have hr := zO g6 hr
            refine LO.sk Z Z Z (gd g6 Z) Z Z (LO.sk Z Z Z (gd g6 Z) Z Z (LO.sk Z Z Z (gd g6 Z) Z Z (LO.sk Z Z Z (gd g6 Z) Z Z (LO.sk Z Z Z (gd g6 Z) Z Z (LO.sk Z Z Z (gd g6 Z) Z Z (zE Z Z Z (LOp.pickF Z (gdl g6 Z) Z) (zH Z (LO.sk Z Z Z Z Z Z (LO.sk Z Z Z Z Z Z (LO.sk Z Z Z Z Z Z (zE Z Z Z (LOp.pickF Z Z Z) ?_)))))))))))
            refine zH Z (LO.nil (zT (LW.ret ?_)))
            obtain rfl := zJ hr
            refine finP_ret (.one (.tmp Z)) ?_
            exact Conv.p
        ·
          have hr := zO g5 hr
          refine LO.sk Z Z Z (gd g5 Z) Z Z (LO.sk Z Z Z (gd g5 Z) Z Z (LO.sk Z Z Z (gd g5 Z) Z Z (LO.sk Z Z Z (gd g5 Z) Z Z (zE Z Z Z (LOp.pickF Z (gdl g5 Z) Z) (zH Z (LO.sk Z Z Z Z Z Z (LO.sk Z Z Z Z Z Z (LO.sk Z Z Z Z Z Z (LO.sk Z Z Z Z Z Z (LO.sk Z Z Z Z Z Z (LO.sk Z Z Z Z Z Z ?_)))))))))))
          refine zE Z Z Z (LOp.pickF Z Z Z) (zH Z (LO.sk Z Z Z Z Z Z (LO.sk Z Z Z Z Z Z (LO.sk Z Z Z Z Z Z (zE Z Z Z (LOp.pickF Z Z Z) (zH Z (LO.nil (zT (LW.ret ?_)))))))))
          obtain rfl := zJ hr
          refine finP_ret (.one (.tmp Z)) ?_
          exact Conv.p
      ·
        have hr := zO g4 hr
        refine LO.sk Z Z Z (gd g4 Z) Z Z (LO.sk Z Z Z (gd g4 Z) Z Z (LO.sk Z Z Z (gd g4 Z) Z Z (LO.sk Z Z Z (gd g4 Z) Z Z (LO.sk Z Z Z (gd g4 Z) Z Z (LO.sk Z Z Z (gd g4 Z) Z Z (zE Z Z Z (LOp.pickF Z (gdl g4 Z) Z) (zH Z (LO.sk Z Z Z Z Z Z (LO.sk Z Z Z Z Z Z (LO.sk Z Z Z Z Z Z (LO.sk Z Z Z Z Z Z ?_)))))))))))
        refine zE Z Z Z (LOp.pickF Z Z Z) (zH Z (LO.sk Z Z Z Z Z Z (LO.sk Z Z Z Z Z Z (LO.sk Z Z Z Z Z Z (LO.sk Z Z Z Z Z Z (LO.sk Z Z Z Z Z Z (LO.sk Z Z Z Z Z Z (zE Z Z Z (LOp.pickF Z Z Z) (zH Z (LO.sk Z Z Z Z Z Z (LO.sk Z Z Z Z Z Z ?_)))))))))))
        refine LO.sk Z Z Z Z Z Z (zE Z Z Z (LOp.pickF Z Z Z) (zH Z (LO.nil (zT (LW.ret ?_)))))
        obtain rfl := zJ hr
        refine finP_ret (.one (.tmp Z)) ?_
        exact Conv.p
structure F3023_L1 where
  n : Int
  i : Int
structure F3005_L1 where
  i : Int
structure F3005_L2 where
  i : Int
def F3003 (c : Cf) (n : Nd) (v_in : Vw) (o : List Of) : Option Bool :=
  (F3013 ).bind fun v1 =>
  (F3014 n 25).bind fun v2 =>
  (F84 v_in 25).bind fun v3 =>
  (F3016 o 25).bind fun v4 =>
  (
    bif !v1 then
      some true
    else
      bif !v2 then
        some true
      else
        bif !v3 then
          some true
        else
          bif !v4 then
            some true
          else
            bif decide ((c.W.length : Int) > 40) then
              some true
            else
              (F89 c n.V).bind fun v6 =>
              some (!v6)
  ).bind fun v5 =>
  bif v5 then
    some v1
  else
    (F3018 c n v_in o).bind fun v7 =>
    (
      (F89 c v7.1.V).bind fun v9 =>
      bif !v9 then
        some (.inr false)
      else
        bif decide ((v7.1.V.B.length : Int) < (n.V.B.length : Int)) then
          some (.inr false)
        else
          bif decide ((v7.1.V.V.length : Int) < (n.V.V.length : Int)) then
            some (.inr false)
          else
            bif v7.1.Tick != n.Tick then
              bif v7.1.Tick != (IntKind.i64.wrap (n.Tick + 1)) then
                some (.inr false)
              else
                some (.inl ())
            else
              some (.inl ())
    ).bind fun b_v8 => Sum.elim (fun _ =>
      bif inL v7.1.V.B 0 (n.V.B.length : Int) then
        bif inL v7.1.V.V 0 (n.V.V.length : Int) then
          (F86 (Vw.mk (v7.1.V.B.take (n.V.B.length : Int).toNat) (v7.1.V.V.take (n.V.V.length : Int).toNat)) n.V).bind fun v10 =>
          bif v10 then
            bif v7.1.No == n.No then
              bif v7.1.Full then
                some true
              else
                some (!n.Full)
            else
              some false
          else
            some false
        else none
      else none) some b_v8
set_option maxRecDepth 100000 in
theorem c3003 {c : Cf} {n : Nd} {v_in : Vw} {o : List Of} {r_ : Bool} (hr : F3003 c n v_in o = some r_) : LPure Tryz.prog 3 [cfP c, ndP n, vwP v_in, .slice 9 (o.map ofP)] [.bool r_] := by
  refine LPure.start Tryz.func3 Z Z Z Z ?_
  unfold F3003 at hr
  refine zQ (zR (zS Z Z Z (LOp.box Z Z Z Z Z) (zS Z Z Z (LOp.box Z Z Z Z Z) (zS Z Z Z (LOp.box Z Z Z Z Z) (zM Z (zN (zT (zQ (zR ?_)))))))))
  obtain ⟨v1, h_v1, hr⟩ := zB hr
  refine zS Z Z Z (zC Z Z Z (by kernel_rfl) (LC.pure (c3013 h_v1) .nil)) (zM Z (zN (zT (zQ (zR (zS Z Z Z (zD Z Z Z vt1071 Z Z) ?_))))))
  obtain ⟨v2, h_v2, hr⟩ := zB hr
  refine zS Z Z Z (zC Z Z Z (by kernel_rfl) (LC.pure (c3014 h_v2) (.cons Conv.p (.cons Conv.p .nil)))) (zM Z (zN (zT (zQ (zR (zS Z Z Z (zD Z Z Z vt75 Z Z) ?_))))))
  obtain ⟨v3, h_v3, hr⟩ := zB hr
  refine zS Z Z Z (zC Z Z Z (by kernel_rfl) (LC.pure (c84 h_v3) (.cons Conv.p (.cons Conv.p .nil)))) (zM Z (zN (zT (zQ (zR (zM Z ?_))))))
  obtain ⟨v4, h_v4, hr⟩ := zB hr
  refine zS Z Z Z (zC Z Z Z (by kernel_rfl) (LC.pure (c3016 h_v4) (.cons Conv.p (.cons Conv.p .nil)))) (zM Z (zN (zT (zQ ?_))))
  obtain ⟨v5, hb_v5, ho_v5⟩ := zB hr
  clear hr
  refine LW.cut (E := [(3, .p (.slice 9 (o.map ofP))), (4, .ptr 0 0), (5, .ptr 1 0), (6, .ptr 2 0), (8, .p (.bool false)), (9, .p (.bool v1)), (49, .p (.bool v5))]) (O := [.box [.p (.slice 1 (c.W.map i64P)), .p (.int .u64 c.Seed), .p (.int .i64 c.Epoch), .p (.int .i64 c.Num), .p (.int .i64 c.Den)], .box [.p (.int .i64 n.No), .p (.int .i64 n.Tick), .p (.slice 5 (n.V.B.map blkP)), .p (.slice 4 (n.V.V.map vtP)), .p (.slice 5 (n.In.B.map blkP)), .p (.slice 4 (n.In.V.map vtP)), .p (.slice 9 (n.O.map ofP)), .p (.int .u64 n.C.ID.1), .p (.int .u64 n.C.ID.2), .p (.int .i64 n.C.Slot), .p (.int .i64 n.C.Revoked), .p (.bool n.Full)], .box [.p (.slice 5 (v_in.B.map blkP)), .p (.slice 4 (v_in.V.map vtP))]]) ?_ ?_
  · have hr := hb_v5
    refine zR (zM Z (zS Z Z Z (LOp.not Z Z) (zM Z ?_)))
    refine LOps.cases 25 Z (fun (g1 : (!v1) = true) => ?_) (fun (g1 : (!v1) = false) => ?_)
    ·
      have hr := zI g1 hr
      refine zU Z Z Z (gd g1 Z) Z Z (zU Z Z Z (gd g1 Z) Z Z (zS Z Z Z (LOp.pickT Z (gdl g1 Z) Z) (zM Z (zU Z Z Z Z Z Z (zU Z Z Z Z Z Z (zS Z Z Z (LOp.pickT Z Z Z) (zM Z (zU Z Z Z Z Z Z (zU Z Z Z Z Z Z (zS Z Z Z (LOp.pickT Z Z Z) (zM Z ?_)))))))))))
      refine zU Z Z Z Z Z Z (zU Z Z Z Z Z Z (zU Z Z Z Z Z Z (zU Z Z Z Z Z Z (zS Z Z Z (LOp.pickT Z Z Z) (zM Z (zU Z Z Z Z Z Z (zU Z Z Z Z Z Z (zU Z Z Z Z Z Z (zU Z Z Z Z Z Z (zU Z Z Z Z Z Z (zS Z Z Z (LOp.pickT Z Z Z) ?_)))))))))))
      refine zN (zT ?_)
      obtain rfl := zJ hr
      exact zW 3 ⟨Z, Z, Z, Z, Z, Z, Z, trivial⟩ Z Z Z Z
    ·
      have hr := zO g1 hr
      refine zV Z Z Z (gd g1 Z) Z (LOp.move Z Z) (zV Z Z Z (gd g1 Z) Z (LOp.not Z Z) (zS Z Z Z (LOp.pickF Z (gdl g1 Z) Z) (zM Z ?_)))
      refine LOps.cases 29 Z (fun (g2 : (!v2) = true) => ?_) (fun (g2 : (!v2) = false) => ?_)
      ·
        have hr := zI g2 hr
        refine zU Z Z Z (gd g2 Z) Z Z (zU Z Z Z (gd g2 Z) Z Z (zS Z Z Z (LOp.pickT Z (gdl g2 Z) Z) (zM Z (zU Z Z Z Z Z Z (zU Z Z Z Z Z Z (zS Z Z Z (LOp.pickT Z Z Z) (zM Z (zU Z Z Z Z Z Z (zU Z Z Z Z Z Z (zU Z Z Z Z Z Z (zU Z Z Z Z Z Z ?_)))))))))))
        refine zS Z Z Z (LOp.pickT Z Z Z) (zM Z (zU Z Z Z Z Z Z (zU Z Z Z Z Z Z (zU Z Z Z Z Z Z (zU Z Z Z Z Z Z (zU Z Z Z Z Z Z (zS Z Z Z (LOp.pickT Z Z Z) (zN (zT ?_)))))))))
        obtain rfl := zJ hr
        exact zW 3 ⟨Z, Z, Z, Z, Z, Z, Z, trivial⟩ Z Z Z Z
      ·
        have hr := zO g2 hr
        refine zV Z Z Z (gd g2 Z) Z (LOp.move Z Z) (zV Z Z Z (gd g2 Z) Z (LOp.not Z Z) (zS Z Z Z (LOp.pickF Z (gdl g2 Z) Z) (zM Z ?_)))
        refine LOps.cases 33 Z (fun (g3 : (!v3) = true) => ?_) (fun (g3 : (!v3) = false) => ?_)
        ·
          have hr := zI g3 hr
          refine zU Z Z Z (gd g3 Z) Z Z (zU Z Z Z (gd g3 Z) Z Z (zS Z Z Z (LOp.pickT Z (gdl g3 Z) Z) (zM Z (zU Z Z Z Z Z Z (zU Z Z Z Z Z Z (zU Z Z Z Z Z Z (zU Z Z Z Z Z Z (zS Z Z Z (LOp.pickT Z Z Z) (zM Z (zU Z Z Z Z Z Z (zU Z Z Z Z Z Z ?_)))))))))))
          refine zU Z Z Z Z Z Z (zU Z Z Z Z Z Z (zU Z Z Z Z Z Z (zS Z Z Z (LOp.pickT Z Z Z) (zN (zT ?_)))))
          obtain rfl := zJ hr
          exact zW 3 ⟨Z, Z, Z, Z, Z, Z, Z, trivial⟩ Z Z Z Z
        ·
          have hr := zO g3 hr
          refine zV Z Z Z (gd g3 Z) Z (LOp.move Z Z) (zV Z Z Z (gd g3 Z) Z (LOp.not Z Z) (zS Z Z Z (LOp.pickF Z (gdl g3 Z) Z) (zM Z ?_)))
          refine LOps.cases 37 Z (fun (g4 : (!v4) = true) => ?_) (fun (g4 : (!v4) = false) => ?_)
          ·
            have hr := zI g4 hr
            refine zU Z Z Z (gd g4 Z) Z Z (zU Z Z Z (gd g4 Z) Z Z (zU Z Z Z (gd g4 Z) Z Z (zU Z Z Z (gd g4 Z) Z Z (zS Z Z Z (LOp.pickT Z (gdl g4 Z) Z) (zM Z (zU Z Z Z Z Z Z (zU Z Z Z Z Z Z (zU Z Z Z Z Z Z (zU Z Z Z Z Z Z (zU Z Z Z Z Z Z (zS Z Z Z (LOp.pickT Z Z Z) ?_)))))))))))
            refine zN (zT ?_)
            obtain rfl := zJ hr
            exact zW 3 ⟨Z, Z, Z, Z, Z, Z, Z, trivial⟩ Z Z Z Z
          ·
            have hr := zO g4 hr
            refine zV Z Z Z (gd g4 Z) Z (zA Z Z ft55_0) (zV Z Z Z (gd g4 Z) Z (zD Z Z Z vt49 Z Z) (zV Z Z Z (gd g4 Z) Z (LOp.lenM Z Z (by kernel_rfl)) (zV Z Z Z (gd g4 Z) Z (LOp.bin Z Z Z Z) (zS Z Z Z (LOp.pickF Z (gdl g4 Z) Z) (zM Z ?_)))))
            refine LOps.cases 43 Z (fun (g5 : (decide ((c.W.length : Int) > 40)) = true) => ?_) (fun (g5 : (decide ((c.W.length : Int) > 40)) = false) => ?_)
            ·
              have hr := zI g5 hr
              refine zU Z Z Z (gd g5 Z) Z Z (zU Z Z Z (gd g5 Z) Z Z (zU Z Z Z (gd g5 Z) Z Z (zU Z Z Z (gd g5 Z) Z Z (zU Z Z Z (gd g5 Z) Z Z (zS Z Z Z (LOp.pickT Z (gdl g5 Z) Z) (zN (zT ?_)))))))
              obtain rfl := zJ hr
              exact zW 3 ⟨Z, Z, Z, Z, Z, Z, Z, trivial⟩ Z Z Z Z
            ·
              have hr := zO g5 hr
              refine zV Z Z Z (gd g5 Z) Z (zD Z Z Z vt55 Z Z) (zV Z Z Z (gd g5 Z) Z (zA Z Z ft1071_2) (zV Z Z Z (gd g5 Z) Z (zD Z Z Z vt75 Z Z) ?_))
              obtain ⟨v6, h_v6, hr⟩ := zB hr
              refine zV Z Z Z (gd g5 Z) Z (zC Z Z Z (by kernel_rfl) (LC.pure (c89 h_v6) (.cons Conv.p (.cons Conv.p .nil)))) (zV Z Z Z (gd g5 Z) Z (LOp.not Z Z) (zS Z Z Z (LOp.pickF Z (gdl g5 Z) Z) (zN (zT ?_))))
              obtain rfl := zJ hr
              exact zW 3 ⟨Z, Z, Z, Z, Z, Z, Z, trivial⟩ Z Z Z Z
  · have hr := ho_v5
    clear hb_v5
    refine zX Z (fun (g6 : v5 = true) => ?_) (fun (g6 : v5 = false) => ?_)
    ·
      have hr := zI g6 hr
      refine zQ (zR (zM Z (zM Z (zN (zT (LW.ret (thn_r ?_)))))))
      obtain rfl := zJ hr
      refine finP_ret (.one (.tmp Z)) ?_
      exact Conv.p
    ·
      have hr := zO g6 hr
      refine LW.skip (zT (zQ (zR (zS Z Z Z (zD Z Z Z vt55 Z Z) (zS Z Z Z (zD Z Z Z vt1071 Z Z) (zS Z Z Z (zD Z Z Z vt75 Z Z) (zM Z ?_)))))))
      obtain ⟨v7, h_v7, hr⟩ := zB hr
      refine zS Z Z Z (zC Z Z Z (by kernel_rfl) (LC.pure (c3018 h_v7) (.cons Conv.p (.cons Conv.p (.cons Conv.p (.cons Conv.p .nil)))))) (zM Z (zS Z Z Z (LOp.extract Z Z Z) (zS Z Z Z (LOp.extract Z Z Z) (zS Z Z Z (LOp.alloc Z zt1071 Z Z) (zS Z Z Z (LOp.store Z Z Z Z vt1071 Z Z Z Z) (zM Z (zN (zT ?_))))))))
      obtain ⟨b_v8, hb_v8, ho_v8⟩ := zB hr
      clear hr
      refine LW.cutB (b := b_v8) (E := fun v8 => [(5, .ptr 1 0), (8, .p (.bool false)), (13, .ptr 3 0)]) (O := fun v8 => [.box [.p (.slice 1 (c.W.map i64P)), .p (.int .u64 c.Seed), .p (.int .i64 c.Epoch), .p (.int .i64 c.Num), .p (.int .i64 c.Den)], .box [.p (.int .i64 n.No), .p (.int .i64 n.Tick), .p (.slice 5 (n.V.B.map blkP)), .p (.slice 4 (n.V.V.map vtP)), .p (.slice 5 (n.In.B.map blkP)), .p (.slice 4 (n.In.V.map vtP)), .p (.slice 9 (n.O.map ofP)), .p (.int .u64 n.C.ID.1), .p (.int .u64 n.C.ID.2), .p (.int .i64 n.C.Slot), .p (.int .i64 n.C.Revoked), .p (.bool n.Full)], .box [.p (.slice 5 (v_in.B.map blkP)), .p (.slice 4 (v_in.V.map vtP))], .box [.p (.int .i64 v7.1.No), .p (.int .i64 v7.1.Tick), .p (.slice 5 (v7.1.V.B.map blkP)), .p (.slice 4 (v7.1.V.V.map vtP)), .p (.slice 5 (v7.1.In.B.map blkP)), .p (.slice 4 (v7.1.In.V.map vtP)), .p (.slice 9 (v7.1.O.map ofP)), .p (.int .u64 v7.1.C.ID.1), .p (.int .u64 v7.1.C.ID.2), .p (.int .i64 v7.1.C.Slot), .p (.int .i64 v7.1.C.Revoked), .p (.bool v7.1.Full)]]) ?_ (fun v8 e_v8 => ?_)
      · have hr := hb_v8
        refine zQ (zR (zS Z Z Z (zD Z Z Z vt55 Z Z) (zS Z Z Z (zA Z Z ft1071_2) (zS Z Z Z (zD Z Z Z vt75 Z Z) ?_))))
        obtain ⟨v9, h_v9, hr⟩ := zB hr
        refine zS Z Z Z (zC Z Z Z (by kernel_rfl) (LC.pure (c89 h_v9) (.cons Conv.p (.cons Conv.p .nil)))) (zS Z Z Z (LOp.not Z Z) (zM Z ?_))
        refine LOps.cases 64 Z (fun (g7 : (!v9) = true) => ?_) (fun (g7 : (!v9) = false) => ?_)
        ·
          have hr := zI g7 hr
          refine zU Z Z Z (gd g7 Z) Z Z (zU Z Z Z (gd g7 Z) Z Z (zU Z Z Z (gd g7 Z) Z Z (zU Z Z Z (gd g7 Z) Z Z (zU Z Z Z (gd g7 Z) Z Z (zU Z Z Z (gd g7 Z) Z Z (zU Z Z Z (gd g7 Z) Z Z (zU Z Z Z (gd g7 Z) Z Z (zU Z Z Z (gd g7 Z) Z Z (zS Z Z Z (LOp.pickT Z (gdl g7 Z) Z) (zM Z (zU Z Z Z Z Z Z ?_)))))))))))
          refine zU Z Z Z Z Z Z (zU Z Z Z Z Z Z (zU Z Z Z Z Z Z (zU Z Z Z Z Z Z (zU Z Z Z Z Z Z (zU Z Z Z Z Z Z (zU Z Z Z Z Z Z (zU Z Z Z Z Z Z (zS Z Z Z (LOp.pickT Z Z Z) (zM Z (zU Z Z Z Z Z Z (zU Z Z Z Z Z Z ?_)))))))))))
          refine zU Z Z Z Z Z Z (zU Z Z Z Z Z Z (zU Z Z Z Z Z Z (zU Z Z Z Z Z Z (zY Z Z Z Z Z (zY Z Z Z Z Z (zY Z Z Z Z Z (zY Z Z Z Z Z (zY Z Z Z Z Z (zY Z Z Z Z Z (zU Z Z Z Z Z Z (zS Z Z Z (LOp.pickT Z Z Z) ?_)))))))))))
          refine zN (zT (LW.condT Z (zQ (zR (zM Z (zN (zT (LW.ret (thn_r ?_)))))))))
          obtain rfl := zJ hr
          have hr := sum_r ho_v8
          obtain rfl := zJ hr
          refine finP_ret (.one (.tmp Z)) ?_
          exact Conv.p
        ·
          have hr := zO g7 hr
          refine zV Z Z Z (gd g7 Z) Z (zA Z Z ft1071_2) (zV Z Z Z (gd g7 Z) Z (zA Z Z ft75_0) (zV Z Z Z (gd g7 Z) Z (zD Z Z Z vt27 Z Z) (zV Z Z Z (gd g7 Z) Z (LOp.lenM Z Z (by kernel_rfl)) (zV Z Z Z (gd g7 Z) Z (zA Z Z ft1071_2) (zV Z Z Z (gd g7 Z) Z (zA Z Z ft75_0) (zV Z Z Z (gd g7 Z) Z (zD Z Z Z vt27 Z Z) (zV Z Z Z (gd g7 Z) Z (LOp.lenM Z Z (by kernel_rfl)) (zV Z Z Z (gd g7 Z) Z (LOp.bin Z Z Z Z) (zS Z Z Z (LOp.pickF Z (gdl g7 Z) Z) (zM Z ?_))))))))))
          refine LOps.cases 75 Z (fun (g8 : (decide ((v7.1.V.B.length : Int) < (n.V.B.length : Int))) = true) => ?_) (fun (g8 : (decide ((v7.1.V.B.length : Int) < (n.V.B.length : Int))) = false) => ?_)
          ·
            have hr := zI g8 hr
            refine zU Z Z Z (gd g8 Z) Z Z (zU Z Z Z (gd g8 Z) Z Z (zU Z Z Z (gd g8 Z) Z Z (zU Z Z Z (gd g8 Z) Z Z (zU Z Z Z (gd g8 Z) Z Z (zU Z Z Z (gd g8 Z) Z Z (zU Z Z Z (gd g8 Z) Z Z (zU Z Z Z (gd g8 Z) Z Z (zU Z Z Z (gd g8 Z) Z Z (zS Z Z Z (LOp.pickT Z (gdl g8 Z) Z) (zM Z (zU Z Z Z Z Z Z ?_)))))))))))
            refine zU Z Z Z Z Z Z (zU Z Z Z Z Z Z (zU Z Z Z Z Z Z (zU Z Z Z Z Z Z (zU Z Z Z Z Z Z (zY Z Z Z Z Z (zY Z Z Z Z Z (zY Z Z Z Z Z (zY Z Z Z Z Z (zY Z Z Z Z Z (zY Z Z Z Z Z (zU Z Z Z Z Z Z ?_)))))))))))
            refine zS Z Z Z (LOp.pickT Z Z Z) (zN (zT (LW.condT Z (zQ (zR (zM Z (zN (zT (LW.ret (thn_r ?_))))))))))
            obtain rfl := zJ hr
            have hr := sum_r ho_v8
            obtain rfl := zJ hr
            refine finP_ret (.one (.tmp Z)) ?_
            exact Conv.p
          ·
            have hr := zO g8 hr
            refine zV Z Z Z (gd g8 Z) Z (zA Z Z ft1071_2) (zV Z Z Z (gd g8 Z) Z (zA Z Z ft75_1) (zV Z Z Z (gd g8 Z) Z (zD Z Z Z vt68 Z Z) (zV Z Z Z (gd g8 Z) Z (LOp.lenM Z Z (by kernel_rfl)) (zV Z Z Z (gd g8 Z) Z (zA Z Z ft1071_2) (zV Z Z Z (gd g8 Z) Z (zA Z Z ft75_1) (zV Z Z Z (gd g8 Z) Z (zD Z Z Z vt68 Z Z) (zV Z Z Z (gd g8 Z) Z (LOp.lenM Z Z (by kernel_rfl)) (zV Z Z Z (gd g8 Z) Z (LOp.bin Z Z Z Z) (zS Z Z Z (LOp.pickF Z (gdl g8 Z) Z) (zM Z ?_))))))))))
            refine LOps.cases 86 Z (fun (g9 : (decide ((v7.1.V.V.length : Int) < (n.V.V.length : Int))) = true) => ?_) (fun (g9 : (decide ((v7.1.V.V.length : Int) < (n.V.V.length : Int))) = false) => ?_)
            ·
              have hr := zI g9 hr
              refine zU Z Z Z (gd g9 Z) Z Z (zU Z Z Z (gd g9 Z) Z Z (zU Z Z Z (gd g9 Z) Z Z (zU Z Z Z (gd g9 Z) Z Z (zU Z Z Z (gd g9 Z) Z Z (zU Z Z Z (gd g9 Z) Z Z (zY Z Z Z Z Z (zY Z Z Z Z Z (zY Z Z Z Z Z (zY Z Z Z Z Z (zY Z Z Z Z Z (zY Z Z Z Z Z ?_)))))))))))
              refine zU Z Z Z (gd g9 Z) Z Z (zS Z Z Z (LOp.pickT Z (gdl g9 Z) Z) (zN (zT (LW.condT Z (zQ (zR (zM Z (zN (zT (LW.ret (thn_r ?_)))))))))))
              obtain rfl := zJ hr
              have hr := sum_r ho_v8
              obtain rfl := zJ hr
              refine finP_ret (.one (.tmp Z)) ?_
              exact Conv.p
            ·
              have hr := zO g9 hr
              refine zV Z Z Z (gd g9 Z) Z (zA Z Z ft1071_1) (zV Z Z Z (gd g9 Z) Z (zD Z Z Z vt3 Z Z) (zV Z Z Z (gd g9 Z) Z (zA Z Z ft1071_1) (zV Z Z Z (gd g9 Z) Z (zD Z Z Z vt3 Z Z) (zV Z Z Z (gd g9 Z) Z (LOp.bin Z Z Z Z) (zV Z Z Z (gd g9 Z) Z (LOp.move Z Z) ?_)))))
              refine LOps.cases 92 Z (fun (g10 : (v7.1.Tick != n.Tick) = true) => ?_) (fun (g10 : (v7.1.Tick != n.Tick) = false) => ?_)
              ·
                have hr := zI g10 hr
                refine zV Z Z Z (gd g10 Z) Z (zA Z Z ft1071_1) (zV Z Z Z (gd g10 Z) Z (zD Z Z Z vt3 Z Z) (zV Z Z Z (gd g10 Z) Z (zA Z Z ft1071_1) (zV Z Z Z (gd g10 Z) Z (zD Z Z Z vt3 Z Z) (zV Z Z Z (gd g10 Z) Z (LOp.bin Z Z Z Z) (zV Z Z Z (gd g10 Z) Z (LOp.bin Z Z Z Z) (zV Z Z Z (gd g9 Z) Z (LOp.pickT Z (gdl g10 Z) Z) (zS Z Z Z (LOp.pickF Z (gdl g9 Z) Z) (zN (zT ?_)))))))))
                refine zX Z (fun (g11 : (v7.1.Tick != (IntKind.i64.wrap (n.Tick + 1))) = true) => ?_) (fun (g11 : (v7.1.Tick != (IntKind.i64.wrap (n.Tick + 1))) = false) => ?_)
                ·
                  have hr := zI g11 hr
                  refine zQ (zR (zM Z (zN (zT (LW.ret (thn_r ?_))))))
                  obtain rfl := zJ hr
                  have hr := sum_r ho_v8
                  obtain rfl := zJ hr
                  refine finP_ret (.one (.tmp Z)) ?_
                  exact Conv.p
                ·
                  have hr := zO g11 hr
                  refine LW.skip (zT ?_)
                  obtain rfl := zJ hr
                  exact ⟨_, rfl, zW 4 ⟨rfl, rfl, rfl, trivial⟩ Z Z Z rfl⟩
              ·
                have hr := zO g10 hr
                refine zU Z Z Z (gd g10 Z) Z Z (zU Z Z Z (gd g10 Z) Z Z (zU Z Z Z (gd g10 Z) Z Z (zU Z Z Z (gd g10 Z) Z Z (zU Z Z Z (gd g10 Z) Z Z (zU Z Z Z (gd g10 Z) Z Z (zV Z Z Z (gd g9 Z) Z (LOp.pickF Z (gdl g10 Z) Z) (zS Z Z Z (LOp.pickF Z (gdl g9 Z) Z) (zN (zT (LW.condF Z (LW.skip ?_)))))))))))
                refine zT ?_
                obtain rfl := zJ hr
                exact ⟨_, rfl, zW 4 ⟨rfl, rfl, rfl, trivial⟩ Z Z Z rfl⟩
      · obtain rfl := e_v8
        have hr := sum_l ho_v8
        clear hb_v8
        refine zQ (LW.draw (by kernel_rfl) (by kernel_rfl) (zE Z Z Z (zA Z Z ft1071_2) (zE Z Z Z (zA Z Z ft75_0) (zE Z Z Z (zD Z Z Z vt27 Z Z) (zE Z Z Z (zA Z Z ft1071_2) (zE Z Z Z (zA Z Z ft75_0) (zE Z Z Z (zD Z Z Z vt27 Z Z) (zE Z Z Z (LOp.lenM Z Z (by kernel_rfl)) ?_))))))))
        obtain ⟨q1, hr⟩ := zG hr
        refine zE Z Z Z (LOp.sliceHi Z Z Z st27 q1) (zE Z Z Z (zA Z Z ft1071_2) (zE Z Z Z (zA Z Z ft75_1) (zE Z Z Z (zD Z Z Z vt68 Z Z) (zE Z Z Z (zA Z Z ft1071_2) (zE Z Z Z (zA Z Z ft75_1) (zE Z Z Z (zD Z Z Z vt68 Z Z) (zE Z Z Z (LOp.lenM Z Z (by kernel_rfl)) ?_)))))))
        obtain ⟨q2, hr⟩ := zG hr
        refine zE Z Z Z (LOp.sliceHi Z Z Z st68 q2) (zE Z Z Z (LOp.build Z bt75 Z Z Z) (zE Z Z Z (zA Z Z ft1071_2) (zE Z Z Z (zD Z Z Z vt75 Z Z) ?_)))
        obtain ⟨v10, h_v10, hr⟩ := zB hr
        refine zE Z Z Z (zC Z Z Z (by kernel_rfl) (LC.pure (c86 h_v10) (.cons Conv.p (.cons Conv.p .nil)))) (zH Z (LO.nil (zT (zQ (zR (zM Z (zM Z ?_)))))))
        refine LOps.cases 122 Z (fun (g12 : v10 = true) => ?_) (fun (g12 : v10 = false) => ?_)
        ·
          have hr := zI g12 hr
          refine zV Z Z Z (gd g12 Z) Z (zA Z Z ft1071_0) (zV Z Z Z (gd g12 Z) Z (zD Z Z Z vt3 Z Z) (zV Z Z Z (gd g12 Z) Z (zA Z Z ft1071_0) (zV Z Z Z (gd g12 Z) Z (zD Z Z Z vt3 Z Z) (zV Z Z Z (gd g12 Z) Z (LOp.bin Z Z Z Z) (zS Z Z Z (LOp.pickT Z (gdl g12 Z) Z) (zM Z ?_))))))
          refine LOps.cases 129 Z (fun (g13 : (v7.1.No == n.No) = true) => ?_) (fun (g13 : (v7.1.No == n.No) = false) => ?_)
          ·
            have hr := zI g13 hr
            refine zV Z Z Z (gd g13 Z) Z (zA Z Z ft1071_6) (zV Z Z Z (gd g13 Z) Z (zD Z Z Z vt4 Z Z) (zV Z Z Z (gd g13 Z) Z (LOp.move Z Z) ?_))
            refine LOps.cases 132 Z (fun (g14 : v7.1.Full = true) => ?_) (fun (g14 : v7.1.Full = false) => ?_)
            ·
              have hr := zI g14 hr
              refine zU Z Z Z (gd g14 Z) Z Z (zU Z Z Z (gd g14 Z) Z Z (zU Z Z Z (gd g14 Z) Z Z (zV Z Z Z (gd g13 Z) Z (LOp.pickT Z (gdl g14 Z) Z) (zS Z Z Z (LOp.pickT Z (gdl g13 Z) Z) (zM Z (zN (zT (LW.ret ?_))))))))
              obtain rfl := zJ hr
              refine finP_ret (.one (.tmp Z)) ?_
              exact Conv.p
            ·
              have hr := zO g14 hr
              refine zV Z Z Z (gd g14 Z) Z (zA Z Z ft1071_6) (zV Z Z Z (gd g14 Z) Z (zD Z Z Z vt4 Z Z) (zV Z Z Z (gd g14 Z) Z (LOp.not Z Z) (zV Z Z Z (gd g13 Z) Z (LOp.pickF Z (gdl g14 Z) Z) (zS Z Z Z (LOp.pickT Z (gdl g13 Z) Z) (zM Z (zN (zT (LW.ret ?_))))))))
              obtain rfl := zJ hr
              refine finP_ret (.one (.tmp Z)) ?_
              exact Conv.p
          ·
            have hr := zO g13 hr
            refine zU Z Z Z (gd g13 Z) Z Z (zU Z Z Z (gd g13 Z) Z Z (zU Z Z Z (gd g13 Z) Z Z (zY Z Z Z Z Z (zY Z Z Z Z Z (zY Z Z Z Z Z (zU Z Z Z (gd g13 Z) Z Z (zS Z Z Z (LOp.pickF Z (gdl g13 Z) Z) (zM Z (zN (zT (LW.ret ?_)))))))))))
            obtain rfl := zJ hr
            refine finP_ret (.one (.tmp Z)) ?_
            exact Conv.p
        ·
          have hr := zO g12 hr
          refine zU Z Z Z (gd g12 Z) Z Z (zU Z Z Z (gd g12 Z) Z Z (zU Z Z Z (gd g12 Z) Z Z (zU Z Z Z (gd g12 Z) Z Z (zU Z Z Z (gd g12 Z) Z Z (zS Z Z Z (LOp.pickF Z (gdl g12 Z) Z) (zM Z (zU Z Z Z Z Z Z (zU Z Z Z Z Z Z (zU Z Z Z Z Z Z (zY Z Z Z Z Z (zY Z Z Z Z Z ?_)))))))))))
          refine zY Z Z Z Z Z (zU Z Z Z Z Z Z (zS Z Z Z (LOp.pickF Z Z Z) (zM Z (zN (zT (LW.ret ?_))))))
          obtain rfl := zJ hr
          refine finP_ret (.one (.tmp Z)) ?_
          exact Conv.p
theorem F3013_eq : F3013 = some true := by kernel_rfl
end Go.Mg
