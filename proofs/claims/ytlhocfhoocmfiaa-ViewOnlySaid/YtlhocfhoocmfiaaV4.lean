/- Laws of views. Laws of views: ViewOnly, ViewJoin. Conditions: none. -/
import Derived.Test.YtlhocfhoocmfiaaV2
import Derived.Test.YtlhocfhoocmfiaaV3
namespace Go.Mg
open Go.Proofs
structure F29_L1 where
  n : Int
  i : Int
structure F29_L2 where
  n : Int
  i : Int
def F29_s1 (c : Cf) (v_in : Vw) (x1 : F29_L1) : Option (F29_L1 ⊕ F29_L1) :=
  bif decide (x1.i < (v_in.B.length : Int)) then
    (ix v_in.B x1.i).bind fun y1 =>
    (F87 c y1).bind fun v9 =>
    bif v9 then
      some (.inl (F29_L1.mk (IntKind.i64.wrap (x1.n + 1)) (IntKind.i64.wrap (x1.i + 1))))
    else
      some (.inl (F29_L1.mk x1.n (IntKind.i64.wrap (x1.i + 1))))
  else
    some (.inr (F29_L1.mk x1.n x1.i))
def F29_s2 (c : Cf) (v_in : Vw) (x2 : F29_L2) : Option (F29_L2 ⊕ F29_L2) :=
  bif decide (x2.i < (v_in.V.length : Int)) then
    (ix v_in.V x2.i).bind fun y2 =>
    (F88 c y2).bind fun v11 =>
    bif v11 then
      some (.inl (F29_L2.mk (IntKind.i64.wrap (x2.n + 1)) (IntKind.i64.wrap (x2.i + 1))))
    else
      some (.inl (F29_L2.mk x2.n (IntKind.i64.wrap (x2.i + 1))))
  else
    some (.inr (F29_L2.mk x2.n x2.i))
def F29 (c : Cf) (v_in : Vw) : Option Bool :=
  (F83 ).bind fun v1 =>
  (F84 v_in 40).bind fun v2 =>
  (
    bif !v1 then
      some true
    else
      bif !v2 then
        some true
      else
        some (decide ((c.W.length : Int) > 40))
  ).bind fun v3 =>
  bif v3 then
    some v1
  else
    (F85 c v_in).bind fun v4 =>
    (F85 c v4).bind fun v5 =>
    (F86 v5 v4).bind fun v6 =>
    (
      bif !v6 then
        some true
      else
        bif decide ((v4.B.length : Int) > (v_in.B.length : Int)) then
          some true
        else
          some (decide ((v4.V.length : Int) > (v_in.V.length : Int)))
    ).bind fun v7 =>
    bif v7 then
      some false
    else
      (iter (F29_s1 c v_in) big (F29_L1.mk 0 0)).bind fun v8 =>
      (iter (F29_s2 c v_in) big (F29_L2.mk v8.n 0)).bind fun v10 =>
      bif v10.n == (IntKind.i64.wrap ((v4.B.length : Int) + (v4.V.length : Int))) then
        (F64 c).bind fun v12 =>
        bif v12 then
          some true
        else
          some (v10.n == 0)
      else
        some false
set_option maxRecDepth 100000 in
theorem c29 {c : Cf} {v_in : Vw} {r_ : Bool} (hr : F29 c v_in = some r_) : LPure Try.prog 29 [cfP c, vwP v_in] [.bool r_] := by
  refine LPure.start Try.func29 rfl rfl rfl rfl ?_
  unfold F29 at hr
  refine LW.seq ?_
  refine LW.region ?_
  refine LOps.st rfl rfl rfl (LOp.box rfl rfl rfl rfl rfl) ?_
  refine LOps.st rfl rfl rfl (LOp.box rfl rfl rfl rfl rfl) ?_
  refine LOps.st rfl rfl rfl (LOp.assign rfl rfl) ?_
  refine LOps.nil ?_
  refine thn_n ?_
  refine LW.seq ?_
  refine LW.region ?_
  obtain ⟨v1, h_v1, hr⟩ := bind_get hr
  refine LOps.st rfl rfl rfl (LOp.call rfl rfl rfl (by kernel_rfl) (LC.pure (c83 h_v1) .nil)) ?_
  refine LOps.st rfl rfl rfl (LOp.assign rfl rfl) ?_
  refine LOps.nil ?_
  refine thn_n ?_
  refine LW.seq ?_
  refine LW.region ?_
  refine LOps.st rfl rfl rfl (LOp.load rfl rfl rfl vt75 rfl rfl) ?_
  obtain ⟨v2, h_v2, hr⟩ := bind_get hr
  refine LOps.st rfl rfl rfl (LOp.call rfl rfl rfl (by kernel_rfl) (LC.pure (c84 h_v2) (.cons Conv.p (.cons Conv.p .nil)))) ?_
  refine LOps.st rfl rfl rfl (LOp.assign rfl rfl) ?_
  refine LOps.nil ?_
  refine thn_n ?_
  refine LW.seq ?_
  obtain ⟨v3, hb_v3, ho_v3⟩ := bind_get hr
  clear hr
  refine LW.cut (E := [(2, .ptr 0 0), (3, .ptr 1 0), (4, .p (.bool false)), (5, .p (.bool v1)), (26, .p (.bool v3))]) (O := [.box [.p (.slice 1 (c.W.map i64P)), .p (.int .u64 c.Seed), .p (.int .i64 c.Epoch), .p (.int .i64 c.Num), .p (.int .i64 c.Den)], .box [.p (.slice 5 (v_in.B.map blkP)), .p (.slice 4 (v_in.V.map vtP))]]) ?_ ?_
  · have hr := hb_v3
    refine LW.region ?_
    refine LOps.st rfl rfl rfl (LOp.move rfl rfl) ?_
    refine LOps.st rfl rfl rfl (LOp.not rfl rfl) ?_
    refine LOps.st rfl rfl rfl (LOp.move rfl rfl) ?_
    refine LOps.cases 17 rfl (fun (g1 : (!v1) = true) => ?_) (fun (g1 : (!v1) = false) => ?_)
    · -- g1 is True
      have hr := ite_t g1 hr
      refine LOps.sk rfl rfl rfl (gd g1 rfl) rfl rfl ?_
      refine LOps.sk rfl rfl rfl (gd g1 rfl) rfl rfl ?_
      refine LOps.st rfl rfl rfl (LOp.pickT rfl (gdl g1 rfl) rfl) ?_
      refine LOps.st rfl rfl rfl (LOp.move rfl rfl) ?_
      refine LOps.sk rfl rfl rfl rfl rfl rfl ?_
      refine LOps.sk rfl rfl rfl rfl rfl rfl ?_
      refine LOps.sk rfl rfl rfl rfl rfl rfl ?_
      refine LOps.sk rfl rfl rfl rfl rfl rfl ?_
      refine LOps.st rfl rfl rfl (LOp.pickT rfl rfl rfl) ?_
      refine LOps.nil ?_
      refine thn_n ?_
      obtain rfl := Option.some.inj hr
      exact Weak.of 2 ⟨rfl, rfl, rfl, rfl, rfl, trivial⟩ rfl rfl rfl rfl
    · -- g1 is False
      have hr := ite_f g1 hr
      refine LOps.gd rfl rfl rfl (gd g1 rfl) rfl (LOp.move rfl rfl) ?_
      refine LOps.gd rfl rfl rfl (gd g1 rfl) rfl (LOp.not rfl rfl) ?_
      refine LOps.st rfl rfl rfl (LOp.pickF rfl (gdl g1 rfl) rfl) ?_
      refine LOps.st rfl rfl rfl (LOp.move rfl rfl) ?_
      refine LOps.cases 21 rfl (fun (g2 : (!v2) = true) => ?_) (fun (g2 : (!v2) = false) => ?_)
      · -- g2 is True
        have hr := ite_t g2 hr
        refine LOps.sk rfl rfl rfl (gd g2 rfl) rfl rfl ?_
        refine LOps.sk rfl rfl rfl (gd g2 rfl) rfl rfl ?_
        refine LOps.sk rfl rfl rfl (gd g2 rfl) rfl rfl ?_
        refine LOps.sk rfl rfl rfl (gd g2 rfl) rfl rfl ?_
        refine LOps.st rfl rfl rfl (LOp.pickT rfl (gdl g2 rfl) rfl) ?_
        refine LOps.nil ?_
        refine thn_n ?_
        obtain rfl := Option.some.inj hr
        exact Weak.of 2 ⟨rfl, rfl, rfl, rfl, rfl, trivial⟩ rfl rfl rfl rfl
      · -- g2 is False
        have hr := ite_f g2 hr
        refine LOps.gd rfl rfl rfl (gd g2 rfl) rfl (LOp.fieldAddr rfl rfl ft55_0) ?_
        refine LOps.gd rfl rfl rfl (gd g2 rfl) rfl (LOp.load rfl rfl rfl vt49 rfl rfl) ?_
        refine LOps.gd rfl rfl rfl (gd g2 rfl) rfl (LOp.lenM rfl rfl (by kernel_rfl)) ?_
        refine LOps.gd rfl rfl rfl (gd g2 rfl) rfl (LOp.bin rfl rfl rfl rfl) ?_
        refine LOps.st rfl rfl rfl (LOp.pickF rfl (gdl g2 rfl) rfl) ?_
        refine LOps.nil ?_
        refine thn_n ?_
        obtain rfl := Option.some.inj hr
        exact Weak.of 2 ⟨rfl, rfl, rfl, rfl, rfl, trivial⟩ rfl rfl rfl rfl
  · have hr := ho_v3
    clear hb_v3
    refine LW.cond rfl (fun (g3 : v3 = true) => ?_) (fun (g3 : v3 = false) => ?_)
    · -- g3 is True
      have hr := ite_t g3 hr
      refine LW.seq ?_
      refine LW.region ?_
      refine LOps.st rfl rfl rfl (LOp.move rfl rfl) ?_
      refine LOps.st rfl rfl rfl (LOp.assign rfl rfl) ?_
      refine LOps.nil ?_
      refine thn_n ?_
      refine LW.ret ?_
      refine thn_r ?_
      obtain rfl := Option.some.inj hr
      refine finP_ret (.one (.tmp rfl)) ?_
      exact Conv.p
    · -- g3 is False
      have hr := ite_f g3 hr
      refine LW.skip ?_
      refine thn_n ?_
      refine LW.seq ?_
      refine LW.region ?_
      refine LOps.st rfl rfl rfl (LOp.load rfl rfl rfl vt55 rfl rfl) ?_
      refine LOps.st rfl rfl rfl (LOp.load rfl rfl rfl vt75 rfl rfl) ?_
      obtain ⟨v4, h_v4, hr⟩ := bind_get hr
      refine LOps.st rfl rfl rfl (LOp.call rfl rfl rfl (by kernel_rfl) (LC.pure (c85 h_v4) (.cons Conv.p (.cons Conv.p .nil)))) ?_
      refine LOps.st rfl rfl rfl (LOp.alloc rfl zt75 rfl rfl) ?_
      refine LOps.st rfl rfl rfl (LOp.store rfl rfl rfl rfl vt75 rfl rfl rfl rfl) ?_
      refine LOps.nil ?_
      refine thn_n ?_
      refine LW.seq ?_
      refine LW.draw (by kernel_rfl) (by kernel_rfl) ?_
      refine LO.st rfl rfl rfl (LOp.load rfl rfl rfl vt55 rfl rfl) ?_
      refine LO.st rfl rfl rfl (LOp.load rfl rfl rfl vt75 rfl rfl) ?_
      obtain ⟨v5, h_v5, hr⟩ := bind_get hr
      refine LO.st rfl rfl rfl (LOp.call rfl rfl rfl (by kernel_rfl) (LC.pure (c85 h_v5) (.cons Conv.p (.cons Conv.p .nil)))) ?_
      refine LO.st rfl rfl rfl (LOp.load rfl rfl rfl vt75 rfl rfl) ?_
      obtain ⟨v6, h_v6, hr⟩ := bind_get hr
      refine LO.st rfl rfl rfl (LOp.call rfl rfl rfl (by kernel_rfl) (LC.pure (c86 h_v6) (.cons Conv.p (.cons Conv.p .nil)))) ?_
      refine LO.st rfl rfl rfl (LOp.assign rfl rfl) ?_
      refine LO.nil ?_
      refine thn_n ?_
      refine LW.seq ?_
      obtain ⟨v7, hb_v7, ho_v7⟩ := bind_get hr
      clear hr
      refine LW.cut (E := [(2, .ptr 0 0), (3, .ptr 1 0), (4, .p (.bool false)), (7, .ptr 2 0), (55, .p (.bool v7))]) (O := [.box [.p (.slice 1 (c.W.map i64P)), .p (.int .u64 c.Seed), .p (.int .i64 c.Epoch), .p (.int .i64 c.Num), .p (.int .i64 c.Den)], .box [.p (.slice 5 (v_in.B.map blkP)), .p (.slice 4 (v_in.V.map vtP))], .box [.p (.slice 5 (v4.B.map blkP)), .p (.slice 4 (v4.V.map vtP))]]) ?_ ?_
      · have hr := hb_v7
        refine LW.region ?_
        refine LOps.st rfl rfl rfl (LOp.move rfl rfl) ?_
        refine LOps.st rfl rfl rfl (LOp.not rfl rfl) ?_
        refine LOps.st rfl rfl rfl (LOp.move rfl rfl) ?_
        refine LOps.cases 38 rfl (fun (g4 : (!v6) = true) => ?_) (fun (g4 : (!v6) = false) => ?_)
        · -- g4 is True
          have hr := ite_t g4 hr
          refine LOps.sk rfl rfl rfl (gd g4 rfl) rfl rfl ?_
          refine LOps.sk rfl rfl rfl (gd g4 rfl) rfl rfl ?_
          refine LOps.sk rfl rfl rfl (gd g4 rfl) rfl rfl ?_
          refine LOps.sk rfl rfl rfl (gd g4 rfl) rfl rfl ?_
          refine LOps.sk rfl rfl rfl (gd g4 rfl) rfl rfl ?_
          refine LOps.sk rfl rfl rfl (gd g4 rfl) rfl rfl ?_
          refine LOps.sk rfl rfl rfl (gd g4 rfl) rfl rfl ?_
          refine LOps.st rfl rfl rfl (LOp.pickT rfl (gdl g4 rfl) rfl) ?_
          refine LOps.st rfl rfl rfl (LOp.move rfl rfl) ?_
          refine LOps.sk rfl rfl rfl rfl rfl rfl ?_
          refine LOps.sk rfl rfl rfl rfl rfl rfl ?_
          refine LOps.sk rfl rfl rfl rfl rfl rfl ?_
          refine LOps.sk rfl rfl rfl rfl rfl rfl ?_
          refine LOps.sk rfl rfl rfl rfl rfl rfl ?_
          refine LOps.sk rfl rfl rfl rfl rfl rfl ?_
          refine LOps.sk rfl rfl rfl rfl rfl rfl ?_
          refine LOps.st rfl rfl rfl (LOp.pickT rfl rfl rfl) ?_
          refine LOps.nil ?_
          refine thn_n ?_
          obtain rfl := Option.some.inj hr
          exact Weak.of 3 ⟨rfl, rfl, rfl, rfl, rfl, trivial⟩ rfl rfl rfl rfl
        · -- g4 is False
          have hr := ite_f g4 hr
          refine LOps.gd rfl rfl rfl (gd g4 rfl) rfl (LOp.fieldAddr rfl rfl ft75_0) ?_
          refine LOps.gd rfl rfl rfl (gd g4 rfl) rfl (LOp.load rfl rfl rfl vt27 rfl rfl) ?_
          refine LOps.gd rfl rfl rfl (gd g4 rfl) rfl (LOp.lenM rfl rfl (by kernel_rfl)) ?_
          refine LOps.gd rfl rfl rfl (gd g4 rfl) rfl (LOp.fieldAddr rfl rfl ft75_0) ?_
          refine LOps.gd rfl rfl rfl (gd g4 rfl) rfl (LOp.load rfl rfl rfl vt27 rfl rfl) ?_
          refine LOps.gd rfl rfl rfl (gd g4 rfl) rfl (LOp.lenM rfl rfl (by kernel_rfl)) ?_
          refine LOps.gd rfl rfl rfl (gd g4 rfl) rfl (LOp.bin rfl rfl rfl rfl) ?_
          refine LOps.st rfl rfl rfl (LOp.pickF rfl (gdl g4 rfl) rfl) ?_
          refine LOps.st rfl rfl rfl (LOp.move rfl rfl) ?_
          refine LOps.cases 47 rfl (fun (g5 : (decide ((v4.B.length : Int) > (v_in.B.length : Int))) = true) => ?_) (fun (g5 : (decide ((v4.B.length : Int) > (v_in.B.length : Int))) = false) => ?_)
          · -- g5 is True
            have hr := ite_t g5 hr
            refine LOps.sk rfl rfl rfl (gd g5 rfl) rfl rfl ?_
            refine LOps.sk rfl rfl rfl (gd g5 rfl) rfl rfl ?_
            refine LOps.sk rfl rfl rfl (gd g5 rfl) rfl rfl ?_
            refine LOps.sk rfl rfl rfl (gd g5 rfl) rfl rfl ?_
            refine LOps.sk rfl rfl rfl (gd g5 rfl) rfl rfl ?_
            refine LOps.sk rfl rfl rfl (gd g5 rfl) rfl rfl ?_
            refine LOps.sk rfl rfl rfl (gd g5 rfl) rfl rfl ?_
            refine LOps.st rfl rfl rfl (LOp.pickT rfl (gdl g5 rfl) rfl) ?_
            refine LOps.nil ?_
            refine thn_n ?_
            obtain rfl := Option.some.inj hr
            exact Weak.of 3 ⟨rfl, rfl, rfl, rfl, rfl, trivial⟩ rfl rfl rfl rfl
          · -- g5 is False
            have hr := ite_f g5 hr
            refine LOps.gd rfl rfl rfl (gd g5 rfl) rfl (LOp.fieldAddr rfl rfl ft75_1) ?_
            refine LOps.gd rfl rfl rfl (gd g5 rfl) rfl (LOp.load rfl rfl rfl vt68 rfl rfl) ?_
            refine LOps.gd rfl rfl rfl (gd g5 rfl) rfl (LOp.lenM rfl rfl (by kernel_rfl)) ?_
            refine LOps.gd rfl rfl rfl (gd g5 rfl) rfl (LOp.fieldAddr rfl rfl ft75_1) ?_
            refine LOps.gd rfl rfl rfl (gd g5 rfl) rfl (LOp.load rfl rfl rfl vt68 rfl rfl) ?_
            refine LOps.gd rfl rfl rfl (gd g5 rfl) rfl (LOp.lenM rfl rfl (by kernel_rfl)) ?_
            refine LOps.gd rfl rfl rfl (gd g5 rfl) rfl (LOp.bin rfl rfl rfl rfl) ?_
            refine LOps.st rfl rfl rfl (LOp.pickF rfl (gdl g5 rfl) rfl) ?_
            refine LOps.nil ?_
            refine thn_n ?_
            obtain rfl := Option.some.inj hr
            exact Weak.of 3 ⟨rfl, rfl, rfl, rfl, rfl, trivial⟩ rfl rfl rfl rfl
      · have hr := ho_v7
        clear hb_v7
        refine LW.cond rfl (fun (g6 : v7 = true) => ?_) (fun (g6 : v7 = false) => ?_)
        · -- g6 is True
          have hr := ite_t g6 hr
          refine LW.seq ?_
          refine LW.region ?_
          refine LOps.st rfl rfl rfl (LOp.assign rfl rfl) ?_
          refine LOps.nil ?_
          refine thn_n ?_
          refine LW.ret ?_
          refine thn_r ?_
          obtain rfl := Option.some.inj hr
          refine finP_ret (.one (.tmp rfl)) ?_
          exact Conv.p
        · -- g6 is False
          have hr := ite_f g6 hr
          refine LW.skip ?_
          refine thn_n ?_
          refine LW.seq ?_
          refine LW.region ?_
          refine LOps.st rfl rfl rfl (LOp.assign rfl rfl) ?_
          refine LOps.nil ?_
          refine thn_n ?_
          refine LW.seq ?_
          refine LW.seq ?_
          refine LW.region ?_
          refine LOps.st rfl rfl rfl (LOp.assign rfl rfl) ?_
          refine LOps.nil ?_
          refine thn_n ?_
          obtain ⟨v8, hb_v8, ho_v8⟩ := bind_get hr
          clear hr
          refine LW.tail (E := [(2, .ptr 0 0), (3, .ptr 1 0), (4, .p (.bool false)), (7, .ptr 2 0), (9, .p (.int .i64 v8.n))]) (O := [.box [.p (.slice 1 (c.W.map i64P)), .p (.int .u64 c.Seed), .p (.int .i64 c.Epoch), .p (.int .i64 c.Num), .p (.int .i64 c.Den)], .box [.p (.slice 5 (v_in.B.map blkP)), .p (.slice 4 (v_in.V.map vtP))], .box [.p (.slice 5 (v4.B.map blkP)), .p (.slice 4 (v4.V.map vtP))]]) ?_ (fun env_v8 H_v8 hw_v8 => ?_)
          · refine LW.block ?_
            refine LW.iterB (E := fun x1 : F29_L1 => [(2, .ptr 0 0), (3, .ptr 1 0), (4, .p (.bool false)), (7, .ptr 2 0), (9, .p (.int .i64 x1.n)), (10, .p (.int .i64 x1.i))]) (O := fun x1 => [.box [.p (.slice 1 (c.W.map i64P)), .p (.int .u64 c.Seed), .p (.int .i64 c.Epoch), .p (.int .i64 c.Num), .p (.int .i64 c.Den)], .box [.p (.slice 5 (v_in.B.map blkP)), .p (.slice 4 (v_in.V.map vtP))], .box [.p (.slice 5 (v4.B.map blkP)), .p (.slice 4 (v4.V.map vtP))]]) hb_v8 (Weak.of 3 ⟨rfl, rfl, rfl, rfl, rfl, rfl, trivial⟩ rfl rfl rfl rfl) (fun x1 z_x1 hr hb_x1 => ?_)
            unfold F29_s1 at hr
            refine LW.seq ?_
            refine LW.seq ?_
            refine LW.region ?_
            refine LOps.st rfl rfl rfl (LOp.move rfl rfl) ?_
            refine LOps.st rfl rfl rfl (LOp.fieldAddr rfl rfl ft75_0) ?_
            refine LOps.st rfl rfl rfl (LOp.load rfl rfl rfl vt27 rfl rfl) ?_
            refine LOps.st rfl rfl rfl (LOp.lenM rfl rfl (by kernel_rfl)) ?_
            refine LOps.st rfl rfl rfl (LOp.bin rfl rfl rfl rfl) ?_
            refine LOps.nil ?_
            refine thn_n ?_
            refine LW.cond rfl (fun (g7 : (decide (x1.i < (v_in.B.length : Int))) = true) => ?_) (fun (g7 : (decide (x1.i < (v_in.B.length : Int))) = false) => ?_)
            · -- g7 is True
              have hr := ite_t g7 hr
              refine LW.skip ?_
              refine thn_n ?_
              refine LW.seq ?_
              refine LW.block ?_
              refine LW.seq ?_
              refine LW.draw (by kernel_rfl) (by kernel_rfl) ?_
              refine LO.st rfl rfl rfl (LOp.load rfl rfl rfl vt55 rfl rfl) ?_
              refine LO.st rfl rfl rfl (LOp.fieldAddr rfl rfl ft75_0) ?_
              refine LO.st rfl rfl rfl (LOp.load rfl rfl rfl vt27 rfl rfl) ?_
              refine LO.st rfl rfl rfl (LOp.move rfl rfl) ?_
              obtain ⟨y1, h_y1, hr⟩ := bind_get hr
              refine LO.st rfl rfl rfl (LOp.indexAddrX rfl rfl rfl st27 h_y1 rfl) ?_
              refine LO.st rfl rfl rfl (LOp.loadC rfl rfl rfl vt42 rfl rfl) ?_
              obtain ⟨v9, h_v9, hr⟩ := bind_get hr
              refine LO.st rfl rfl rfl (LOp.call rfl rfl rfl (by kernel_rfl) (LC.pure (c87 h_v9) (.cons Conv.p (.cons Conv.p .nil)))) ?_
              refine LO.nil ?_
              refine thn_n ?_
              refine LW.cond rfl (fun (g8 : v9 = true) => ?_) (fun (g8 : v9 = false) => ?_)
              · -- g8 is True
                have hr := ite_t g8 hr
                refine LW.region ?_
                refine LOps.st rfl rfl rfl (LOp.move rfl rfl) ?_
                refine LOps.st rfl rfl rfl (LOp.bin rfl rfl rfl rfl) ?_
                refine LOps.st rfl rfl rfl (LOp.assign rfl rfl) ?_
                refine LOps.nil ?_
                refine inBlk_n ?_
                refine thn_n ?_
                refine LW.region ?_
                refine LOps.st rfl rfl rfl (LOp.move rfl rfl) ?_
                refine LOps.st rfl rfl rfl (LOp.bin rfl rfl rfl rfl) ?_
                refine LOps.st rfl rfl rfl (LOp.assign rfl rfl) ?_
                refine LOps.nil ?_
                refine thn_n ?_
                obtain rfl := Option.some.inj hr
                exact ⟨_, rfl, Weak.of 3 ⟨rfl, rfl, rfl, rfl, rfl, rfl, trivial⟩ rfl rfl rfl rfl⟩
              · -- g8 is False
                have hr := ite_f g8 hr
                refine LW.skip ?_
                refine inBlk_n ?_
                refine thn_n ?_
                refine LW.region ?_
                refine LOps.st rfl rfl rfl (LOp.move rfl rfl) ?_
                refine LOps.st rfl rfl rfl (LOp.bin rfl rfl rfl rfl) ?_
                refine LOps.st rfl rfl rfl (LOp.assign rfl rfl) ?_
                refine LOps.nil ?_
                refine thn_n ?_
                obtain rfl := Option.some.inj hr
                exact ⟨_, rfl, Weak.of 3 ⟨rfl, rfl, rfl, rfl, rfl, rfl, trivial⟩ rfl rfl rfl rfl⟩
            · -- g7 is False
              have hr := ite_f g7 hr
              refine LW.exit ?_
              refine thn_e ?_
              refine thn_e ?_
              refine inBlk_self ?_
              refine thn_n ?_
              obtain rfl := Option.some.inj hr
              have hr := congrArg some (hb_x1 _ rfl)
              obtain rfl := Option.some.inj hr
              exact Weak.of 3 ⟨rfl, rfl, rfl, rfl, rfl, trivial⟩ rfl rfl rfl rfl
          · have hr := ho_v8
            clear hb_v8
            refine thn_n ?_
            refine LW.weak hw_v8 ?_
            refine LW.seq ?_
            refine LW.seq ?_
            refine LW.region ?_
            refine LOps.st rfl rfl rfl (LOp.assign rfl rfl) ?_
            refine LOps.nil ?_
            refine thn_n ?_
            obtain ⟨v10, hb_v10, ho_v10⟩ := bind_get hr
            clear hr
            refine LW.tail (E := [(2, .ptr 0 0), (4, .p (.bool false)), (7, .ptr 2 0), (9, .p (.int .i64 v10.n))]) (O := [.box [.p (.slice 1 (c.W.map i64P)), .p (.int .u64 c.Seed), .p (.int .i64 c.Epoch), .p (.int .i64 c.Num), .p (.int .i64 c.Den)], .box [.p (.slice 5 (v_in.B.map blkP)), .p (.slice 4 (v_in.V.map vtP))], .box [.p (.slice 5 (v4.B.map blkP)), .p (.slice 4 (v4.V.map vtP))]]) ?_ (fun env_v10 H_v10 hw_v10 => ?_)
            · refine LW.block ?_
              refine LW.iterB (E := fun x2 : F29_L2 => [(2, .ptr 0 0), (3, .ptr 1 0), (4, .p (.bool false)), (7, .ptr 2 0), (9, .p (.int .i64 x2.n)), (11, .p (.int .i64 x2.i))]) (O := fun x2 => [.box [.p (.slice 1 (c.W.map i64P)), .p (.int .u64 c.Seed), .p (.int .i64 c.Epoch), .p (.int .i64 c.Num), .p (.int .i64 c.Den)], .box [.p (.slice 5 (v_in.B.map blkP)), .p (.slice 4 (v_in.V.map vtP))], .box [.p (.slice 5 (v4.B.map blkP)), .p (.slice 4 (v4.V.map vtP))]]) hb_v10 (Weak.of 3 ⟨rfl, rfl, rfl, rfl, rfl, rfl, trivial⟩ rfl rfl rfl rfl) (fun x2 z_x2 hr hb_x2 => ?_)
              unfold F29_s2 at hr
              refine LW.seq ?_
              refine LW.seq ?_
              refine LW.region ?_
              refine LOps.st rfl rfl rfl (LOp.move rfl rfl) ?_
              refine LOps.st rfl rfl rfl (LOp.fieldAddr rfl rfl ft75_1) ?_
              refine LOps.st rfl rfl rfl (LOp.load rfl rfl rfl vt68 rfl rfl) ?_
              refine LOps.st rfl rfl rfl (LOp.lenM rfl rfl (by kernel_rfl)) ?_
              refine LOps.st rfl rfl rfl (LOp.bin rfl rfl rfl rfl) ?_
              refine LOps.nil ?_
              refine thn_n ?_
              refine LW.cond rfl (fun (g9 : (decide (x2.i < (v_in.V.length : Int))) = true) => ?_) (fun (g9 : (decide (x2.i < (v_in.V.length : Int))) = false) => ?_)
              · -- g9 is True
                have hr := ite_t g9 hr
                refine LW.skip ?_
                refine thn_n ?_
                refine LW.seq ?_
                refine LW.block ?_
                refine LW.seq ?_
                refine LW.draw (by kernel_rfl) (by kernel_rfl) ?_
                refine LO.st rfl rfl rfl (LOp.load rfl rfl rfl vt55 rfl rfl) ?_
                refine LO.st rfl rfl rfl (LOp.fieldAddr rfl rfl ft75_1) ?_
                refine LO.st rfl rfl rfl (LOp.load rfl rfl rfl vt68 rfl rfl) ?_
                refine LO.st rfl rfl rfl (LOp.move rfl rfl) ?_
                obtain ⟨y2, h_y2, hr⟩ := bind_get hr
                refine LO.st rfl rfl rfl (LOp.indexAddrX rfl rfl rfl st68 h_y2 rfl) ?_
                refine LO.st rfl rfl rfl (LOp.loadC rfl rfl rfl vt82 rfl rfl) ?_
                obtain ⟨v11, h_v11, hr⟩ := bind_get hr
                refine LO.st rfl rfl rfl (LOp.call rfl rfl rfl (by kernel_rfl) (LC.pure (c88 h_v11) (.cons Conv.p (.cons Conv.p .nil)))) ?_
                refine LO.nil ?_
                refine thn_n ?_
                refine LW.cond rfl (fun (g10 : v11 = true) => ?_) (fun (g10 : v11 = false) => ?_)
                · -- g10 is True
                  have hr := ite_t g10 hr
                  refine LW.region ?_
                  refine LOps.st rfl rfl rfl (LOp.move rfl rfl) ?_
                  refine LOps.st rfl rfl rfl (LOp.bin rfl rfl rfl rfl) ?_
                  refine LOps.st rfl rfl rfl (LOp.assign rfl rfl) ?_
                  refine LOps.nil ?_
                  refine inBlk_n ?_
                  refine thn_n ?_
                  refine LW.region ?_
                  refine LOps.st rfl rfl rfl (LOp.move rfl rfl) ?_
                  refine LOps.st rfl rfl rfl (LOp.bin rfl rfl rfl rfl) ?_
                  refine LOps.st rfl rfl rfl (LOp.assign rfl rfl) ?_
                  refine LOps.nil ?_
                  refine thn_n ?_
                  obtain rfl := Option.some.inj hr
                  exact ⟨_, rfl, Weak.of 3 ⟨rfl, rfl, rfl, rfl, rfl, rfl, trivial⟩ rfl rfl rfl rfl⟩
                · -- g10 is False
                  have hr := ite_f g10 hr
                  refine LW.skip ?_
                  refine inBlk_n ?_
                  refine thn_n ?_
                  refine LW.region ?_
                  refine LOps.st rfl rfl rfl (LOp.move rfl rfl) ?_
                  refine LOps.st rfl rfl rfl (LOp.bin rfl rfl rfl rfl) ?_
                  refine LOps.st rfl rfl rfl (LOp.assign rfl rfl) ?_
                  refine LOps.nil ?_
                  refine thn_n ?_
                  obtain rfl := Option.some.inj hr
                  exact ⟨_, rfl, Weak.of 3 ⟨rfl, rfl, rfl, rfl, rfl, rfl, trivial⟩ rfl rfl rfl rfl⟩
              · -- g9 is False
                have hr := ite_f g9 hr
                refine LW.exit ?_
                refine thn_e ?_
                refine thn_e ?_
                refine inBlk_self ?_
                refine thn_n ?_
                obtain rfl := Option.some.inj hr
                have hr := congrArg some (hb_x2 _ rfl)
                obtain rfl := Option.some.inj hr
                exact Weak.of 3 ⟨rfl, rfl, rfl, rfl, trivial⟩ rfl rfl rfl rfl
            · have hr := ho_v10
              clear hb_v10
              refine thn_n ?_
              refine LW.weak hw_v10 ?_
              refine LW.seq ?_
              refine LW.region ?_
              refine LOps.st rfl rfl rfl (LOp.move rfl rfl) ?_
              refine LOps.st rfl rfl rfl (LOp.fieldAddr rfl rfl ft75_0) ?_
              refine LOps.st rfl rfl rfl (LOp.load rfl rfl rfl vt27 rfl rfl) ?_
              refine LOps.st rfl rfl rfl (LOp.lenM rfl rfl (by kernel_rfl)) ?_
              refine LOps.st rfl rfl rfl (LOp.fieldAddr rfl rfl ft75_1) ?_
              refine LOps.st rfl rfl rfl (LOp.load rfl rfl rfl vt68 rfl rfl) ?_
              refine LOps.st rfl rfl rfl (LOp.lenM rfl rfl (by kernel_rfl)) ?_
              refine LOps.st rfl rfl rfl (LOp.bin rfl rfl rfl rfl) ?_
              refine LOps.st rfl rfl rfl (LOp.bin rfl rfl rfl rfl) ?_
              refine LOps.st rfl rfl rfl (LOp.move rfl rfl) ?_
              refine LOps.cases 97 rfl (fun (g11 : (v10.n == (IntKind.i64.wrap ((v4.B.length : Int) + (v4.V.length : Int)))) = true) => ?_) (fun (g11 : (v10.n == (IntKind.i64.wrap ((v4.B.length : Int) + (v4.V.length : Int)))) = false) => ?_)
              · -- g11 is True
                have hr := ite_t g11 hr
                refine LOps.gd rfl rfl rfl (gd g11 rfl) rfl (LOp.load rfl rfl rfl vt55 rfl rfl) ?_
                obtain ⟨v12, h_v12, hr⟩ := bind_get hr
                refine LOps.gd rfl rfl rfl (gd g11 rfl) rfl (LOp.call rfl rfl rfl (by kernel_rfl) (LC.pure (c64 h_v12) (.cons Conv.p .nil))) ?_
                refine LOps.gd rfl rfl rfl (gd g11 rfl) rfl (LOp.move rfl rfl) ?_
                refine LOps.cases 100 rfl (fun (g12 : v12 = true) => ?_) (fun (g12 : v12 = false) => ?_)
                · -- g12 is True
                  have hr := ite_t g12 hr
                  refine LOps.sk rfl rfl rfl (gd g12 rfl) rfl rfl ?_
                  refine LOps.sk rfl rfl rfl (gd g12 rfl) rfl rfl ?_
                  refine LOps.gd rfl rfl rfl (gd g11 rfl) rfl (LOp.pickT rfl (gdl g12 rfl) rfl) ?_
                  refine LOps.st rfl rfl rfl (LOp.pickT rfl (gdl g11 rfl) rfl) ?_
                  refine LOps.st rfl rfl rfl (LOp.assign rfl rfl) ?_
                  refine LOps.nil ?_
                  refine thn_n ?_
                  refine LW.ret ?_
                  obtain rfl := Option.some.inj hr
                  refine finP_ret (.one (.tmp rfl)) ?_
                  exact Conv.p
                · -- g12 is False
                  have hr := ite_f g12 hr
                  refine LOps.gd rfl rfl rfl (gd g12 rfl) rfl (LOp.move rfl rfl) ?_
                  refine LOps.gd rfl rfl rfl (gd g12 rfl) rfl (LOp.bin rfl rfl rfl rfl) ?_
                  refine LOps.gd rfl rfl rfl (gd g11 rfl) rfl (LOp.pickF rfl (gdl g12 rfl) rfl) ?_
                  refine LOps.st rfl rfl rfl (LOp.pickT rfl (gdl g11 rfl) rfl) ?_
                  refine LOps.st rfl rfl rfl (LOp.assign rfl rfl) ?_
                  refine LOps.nil ?_
                  refine thn_n ?_
                  refine LW.ret ?_
                  obtain rfl := Option.some.inj hr
                  refine finP_ret (.one (.tmp rfl)) ?_
                  exact Conv.p
              · -- g11 is False
                have hr := ite_f g11 hr
                refine LOps.sk rfl rfl rfl (gd g11 rfl) rfl rfl ?_
                refine LOps.sk rfl rfl rfl (gd g11 rfl) rfl rfl ?_
                refine LOps.sk rfl rfl rfl (gd g11 rfl) rfl rfl ?_
                refine LOps.sku rfl rfl rfl rfl rfl ?_
                refine LOps.sku rfl rfl rfl rfl rfl ?_
                refine LOps.sk rfl rfl rfl (gd g11 rfl) rfl rfl ?_
                refine LOps.st rfl rfl rfl (LOp.pickF rfl (gdl g11 rfl) rfl) ?_
                refine LOps.st rfl rfl rfl (LOp.assign rfl rfl) ?_
                refine LOps.nil ?_
                refine thn_n ?_
                refine LW.ret ?_
                obtain rfl := Option.some.inj hr
                refine finP_ret (.one (.tmp rfl)) ?_
                exact Conv.p
theorem only_twice (c : Cf) (w : Vw) : onlyP c (onlyP c w) = onlyP c w := by
  unfold onlyP
  simp only [List.filter_filter, Bool.and_self]
theorem only_len (c : Cf) (w : Vw) : (onlyP c w).B.length ≤ w.B.length ∧ (onlyP c w).V.length ≤ w.V.length := ⟨List.length_filter_le _ _, List.length_filter_le _ _⟩
theorem may_none {c : Cf} (h : ¬ MayC c) : (∀ b, mayB c b = false) ∧ ∀ v, mayV c v = false := by
  refine ⟨fun b => ?_, fun v => ?_⟩
  · unfold mayB prP
    rw [if_neg fun h2 : OkS c b.Slot => h h2.1]
    exact decide_eq_false fun h2 => by have := h2.1; omega
  · unfold mayV cmP
    rw [if_neg fun h2 : OkS c v.Slot => h h2.1]
    exact decide_eq_false (by simp)
theorem filter_none {α : Type} {p : α → Bool} {l : List α} (h : ∀ x, p x = false) : (l.filter p).length = 0 := by
  rw [List.length_eq_zero_iff, List.filter_eq_nil_iff]
  intro x _
  simp [h x]
theorem filter_len_snoc {α : Type} {p : α → Bool} {l : List α} {n : Nat} {y : α} (hy : l[n]? = some y) : ((l.take (n + 1)).filter p).length = ((l.take n).filter p).length + bif p y then 1 else 0 := by
  rw [filter_take_snoc hy, List.length_append]
  cases p y <;> rfl
theorem viOnly (c : Cf) (w : Vw) : F29 c w = some true := by
  unfold F29
  rw [F83_eq, ob, F84_eq, ob, Bool.not_true, cf]
  by_cases hf : (w.B.length : Int) ≤ 40 ∧ (w.V.length : Int) ≤ 40
  · rw [decide_eq_true hf, Bool.not_true, cf, ob]
    by_cases h0 : (c.W.length : Int) > 40
    · rw [decide_eq_true h0, ct]
    · have hlen := only_len c w
      rw [decide_eq_false h0, cf, F85_eq (by omega) (by omega), ob, F85_eq (by omega) (by omega), ob, only_twice, F86_eq (by omega) (by omega), ob, decide_eq_true ⟨rfl, rfl⟩, Bool.not_true, cf, decide_eq_false (show ¬ ((onlyP c w).B.length : Int) > (w.B.length : Int) by omega), cf, ob,
        decide_eq_false (show ¬ ((onlyP c w).V.length : Int) > (w.V.length : Int) by omega), cf]
      have hw : ∀ n : Nat, n ≤ 100000 → IntKind.i64.wrap ((n : Int) + 1) = ((n + 1 : Nat) : Int) := fun n h => wrap_succ (by omega)
      have e1 := count_loop (step := F29_s1 c w) (n := w.B.length) (fun k => F29_L1.mk (((w.B.take k).filter (mayB c)).length : Int) (k : Int)) (F29_L1.mk ((w.B.filter (mayB c)).length : Int) (w.B.length : Int)) (fun k hk => by
        obtain ⟨y, hy, -⟩ := get_of hk
        have hl := filter_take_len (p := mayB c) (l := w.B) k
        unfold F29_s1
        simp only
        rw [decide_eq_true (show (k : Int) < (w.B.length : Int) by omega), ct, ix_nat hy, ob, F87_eq, ob, filter_len_snoc hy, hw k (by omega), hw _ (by omega)]
        cases mayB c y with
        | true => rw [ct, ct]
        | false => rw [cf, cf]; rfl) (by
        unfold F29_s1
        simp only
        rw [decide_eq_false (show ¬ (w.B.length : Int) < (w.B.length : Int) by omega), cf, List.take_length]) (by omega)
      have e1' : iter (F29_s1 c w) big (F29_L1.mk 0 0) = some (F29_L1.mk ((w.B.filter (mayB c)).length : Int) (w.B.length : Int)) := e1
      have hB : (w.B.filter (mayB c)).length ≤ w.B.length := List.length_filter_le _ _
      have e2 := count_loop (step := F29_s2 c w) (n := w.V.length) (fun k => F29_L2.mk (((w.B.filter (mayB c)).length + ((w.V.take k).filter (mayV c)).length : Nat) : Int) (k : Int)) (F29_L2.mk (((w.B.filter (mayB c)).length + (w.V.filter (mayV c)).length : Nat) : Int) (w.V.length : Int)) (fun k hk => by
        obtain ⟨y, hy, -⟩ := get_of hk
        have hl := filter_take_len (p := mayV c) (l := w.V) k
        unfold F29_s2
        simp only
        rw [decide_eq_true (show (k : Int) < (w.V.length : Int) by omega), ct, ix_nat hy, ob, F88_eq, ob, filter_len_snoc hy, hw k (by omega), hw _ (by omega)]
        cases mayV c y with
        | true => rw [ct, ct]; rfl
        | false => rw [cf, cf]; rfl) (by
        unfold F29_s2
        simp only
        rw [decide_eq_false (show ¬ (w.V.length : Int) < (w.V.length : Int) by omega), cf, List.take_length]) (by omega)
      have e2' : iter (F29_s2 c w) big (F29_L2.mk ((w.B.filter (mayB c)).length : Int) 0) = some (F29_L2.mk (((w.B.filter (mayB c)).length + (w.V.filter (mayV c)).length : Nat) : Int) (w.V.length : Int)) := e2
      have hV : (w.V.filter (mayV c)).length ≤ w.V.length := List.length_filter_le _ _
      rw [e1', ob, e2', ob]
      simp only
      rw [show IntKind.i64.wrap (((onlyP c w).B.length : Int) + ((onlyP c w).V.length : Int)) = (((w.B.filter (mayB c)).length + (w.V.filter (mayV c)).length : Nat) : Int) by
        rw [wrapI (by omega) (by omega)]; unfold onlyP; simp, beq_self_eq_true, ct, F64_eq, ob]
      by_cases hm : MayC c
      · rw [decide_eq_true hm, ct]
      · rw [decide_eq_false hm, cf, filter_none (may_none hm).1, filter_none (may_none hm).2]; rfl
  · rw [decide_eq_false hf, Bool.not_false, ct, ob, ct]
end Go.Mg
