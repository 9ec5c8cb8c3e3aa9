/- Laws of views. Laws of views. Laws of views. Plain laws of views: what is counted, as a set. Plain laws of views: order, and all. Laws of views: ViewOrder, ViewMeets, ViewEarly. Conditions: none. -/
import Derived.Test.YtlhocfhoocmfiaaV2
import Derived.Test.YtlhocfhoocmfiaaV4
namespace Go.Mg
open Go.Proofs
structure F32_L1 where
  i : Int
structure F32_L2 where
  k : Int
open Go.Proofs
structure F33_L1 where
  i : Int
structure F33_L2 where
  k : Int
structure F33_L3 where
  i : Int
open Go.Proofs
structure F35_L1 where
  i : Int
structure F35_L2 where
  i : Int
structure F35_L3 where
  i : Int
structure F35_L4 where
  k : Int
def F35_s1 (slot : Int) (v6 : Vw × Vw × Bool) (x1 : F35_L1) : Option (F35_L1 ⊕ (F35_L1 ⊕ Bool)) :=
  bif decide (x1.i < (v6.1.B.length : Int)) then
    (ix v6.1.B x1.i).bind fun y1 =>
    bif decide (y1.Slot > slot) then
      some (.inr (.inr false))
    else
      some (.inl (F35_L1.mk (IntKind.i64.wrap (x1.i + 1))))
  else
    some (.inr (.inl (F35_L1.mk x1.i)))
def F35_s2 (slot : Int) (v6 : Vw × Vw × Bool) (x2 : F35_L2) : Option (F35_L2 ⊕ (F35_L2 ⊕ Bool)) :=
  bif decide (x2.i < (v6.1.V.length : Int)) then
    (ix v6.1.V x2.i).bind fun y2 =>
    bif decide (y2.Slot > slot) then
      some (.inr (.inr false))
    else
      some (.inl (F35_L2.mk (IntKind.i64.wrap (x2.i + 1))))
  else
    some (.inr (.inl (F35_L2.mk x2.i)))
def F35_s4 (v10 : Vw) (x3 : F35_L3) (x4 : F35_L4) : Option (F35_L4 ⊕ (F35_L4 ⊕ (F35_L3 ⊕ (F35_L3 ⊕ Bool)))) :=
  bif decide (x4.k < x3.i) then
    (ix v10.B x3.i).bind fun y3 =>
    (ix v10.B x4.k).bind fun y4 =>
    bif ((((nm y3).1) == ((nm y4).1)) && ((((nm y3).2) == ((nm y4).2)) && true)) then
      some (.inr (.inr (.inr (.inr true))))
    else
      some (.inl (F35_L4.mk (IntKind.i64.wrap (x4.k + 1))))
  else
    some (.inr (.inl (F35_L4.mk x4.k)))
def F35_s3 (v10 : Vw) (x3 : F35_L3) : Option (F35_L3 ⊕ (F35_L3 ⊕ Bool)) :=
  bif decide (x3.i < (v10.B.length : Int)) then
    (iter (F35_s4 v10 x3) big (F35_L4.mk 0)).bind fun b_v12 => Sum.elim (fun _ =>
      some (.inl (F35_L3.mk (IntKind.i64.wrap (x3.i + 1))))) some b_v12
  else
    some (.inr (.inl (F35_L3.mk x3.i)))
def F35 (c : Cf) (w : Vw) (v_in : Vw) (slot : Int) : Option Bool :=
  (F83 ).bind fun v1 =>
  (F84 w 25).bind fun v2 =>
  (F84 v_in 25).bind fun v3 =>
  (
    bif !v1 then
      some true
    else
      bif !v2 then
        some true
      else
        bif !v3 then
          some true
        else
          bif decide ((c.W.length : Int) > 40) then
            some true
          else
            (F89 c w).bind fun v5 =>
            bif !v5 then
              some true
            else
              bif decide (slot < 0) then
                some true
              else
                some (decide (slot > 1000000))
  ).bind fun v4 =>
  bif v4 then
    some v1
  else
    (F90 c w v_in slot).bind fun v6 =>
    (F90 c w v_in (IntKind.i64.wrap (slot + 1))).bind fun v7 =>
    (iter (F35_s1 slot v6) big (F35_L1.mk (w.B.length : Int))).bind fun b_v8 => Sum.elim (fun _ =>
      (iter (F35_s2 slot v6) big (F35_L2.mk (w.V.length : Int))).bind fun b_v9 => Sum.elim (fun _ =>
        (F91 w v_in).bind fun v10 =>
        (iter (F35_s3 v10) big (F35_L3.mk 0)).bind fun b_v11 => Sum.elim (fun _ =>
          (F91 v7.1 v6.1).bind fun v13 =>
          bif (v13.B.length : Int) == (v7.1.B.length : Int) then
            some ((v13.V.length : Int) == (v7.1.V.length : Int))
          else
            some false) some b_v11) some b_v9) some b_v8
set_option maxRecDepth 100000 in
theorem c35 {c : Cf} {w : Vw} {v_in : Vw} {slot : Int} {r_ : Bool} (hr : F35 c w v_in slot = some r_) : LPure Try.prog 35 [cfP c, vwP w, vwP v_in, .int .i64 slot] [.bool r_] := by
  refine LPure.start Try.func35 rfl rfl rfl rfl ?_
  unfold F35 at hr
  refine LW.seq ?_
  refine LW.region ?_
  refine LOps.st rfl rfl rfl (LOp.box rfl rfl rfl rfl rfl) ?_
  refine LOps.st rfl rfl rfl (LOp.box rfl rfl rfl rfl rfl) ?_
  refine LOps.st rfl rfl rfl (LOp.box rfl rfl rfl rfl rfl) ?_
  refine LOps.st rfl rfl rfl (LOp.assign rfl rfl) ?_
  refine LOps.nil ?_
  refine thn_n ?_
  refine LW.seq ?_
  refine LW.region ?_
  obtain ⟨v1, h_v1, hr⟩ := bind_get hr
  refine LOps.st rfl rfl rfl (LOp.call rfl rfl rfl (by kernel_rfl) (LC.pure (c83 h_v1) .nil)) ?_
  refine LOps.st rfl rfl rfl (LOp.assign rfl rfl) ?_
  refine LOps.nil ?_
  refine thn_n ?_
  refine LW.seq ?_
  refine LW.region ?_
  refine LOps.st rfl rfl rfl (LOp.load rfl rfl rfl vt75 rfl rfl) ?_
  obtain ⟨v2, h_v2, hr⟩ := bind_get hr
  refine LOps.st rfl rfl rfl (LOp.call rfl rfl rfl (by kernel_rfl) (LC.pure (c84 h_v2) (.cons Conv.p (.cons Conv.p .nil)))) ?_
  refine LOps.st rfl rfl rfl (LOp.assign rfl rfl) ?_
  refine LOps.nil ?_
  refine thn_n ?_
  refine LW.seq ?_
  refine LW.region ?_
  refine LOps.st rfl rfl rfl (LOp.load rfl rfl rfl vt75 rfl rfl) ?_
  obtain ⟨v3, h_v3, hr⟩ := bind_get hr
  refine LOps.st rfl rfl rfl (LOp.call rfl rfl rfl (by kernel_rfl) (LC.pure (c84 h_v3) (.cons Conv.p (.cons Conv.p .nil)))) ?_
  refine LOps.st rfl rfl rfl (LOp.assign rfl rfl) ?_
  refine LOps.nil ?_
  refine thn_n ?_
  refine LW.seq ?_
  obtain ⟨v4, hb_v4, ho_v4⟩ := bind_get hr
  clear hr
  refine LW.cut (E := [(3, .p (.int .i64 slot)), (4, .ptr 0 0), (5, .ptr 1 0), (6, .ptr 2 0), (8, .p (.bool false)), (9, .p (.bool v1)), (58, .p (.bool v4))]) (O := [.box [.p (.slice 1 (c.W.map i64P)), .p (.int .u64 c.Seed), .p (.int .i64 c.Epoch), .p (.int .i64 c.Num), .p (.int .i64 c.Den)], .box [.p (.slice 5 (w.B.map blkP)), .p (.slice 4 (w.V.map vtP))], .box [.p (.slice 5 (v_in.B.map blkP)), .p (.slice 4 (v_in.V.map vtP))]]) ?_ ?_
  · have hr := hb_v4
    refine LW.region ?_
    refine LOps.st rfl rfl rfl (LOp.move rfl rfl) ?_
    refine LOps.st rfl rfl rfl (LOp.not rfl rfl) ?_
    refine LOps.st rfl rfl rfl (LOp.move rfl rfl) ?_
    refine LOps.cases 31 rfl (fun (g1 : (!v1) = true) => ?_) (fun (g1 : (!v1) = false) => ?_)
    · -- g1 is True
      have hr := ite_t g1 hr
      refine LOps.sk rfl rfl rfl (gd g1 rfl) rfl rfl ?_
      refine LOps.sk rfl rfl rfl (gd g1 rfl) rfl rfl ?_
      refine LOps.st rfl rfl rfl (LOp.pickT rfl (gdl g1 rfl) rfl) ?_
      refine LOps.st rfl rfl rfl (LOp.move rfl rfl) ?_
      refine LOps.sk rfl rfl rfl rfl rfl rfl ?_
      refine LOps.sk rfl rfl rfl rfl rfl rfl ?_
      refine LOps.st rfl rfl rfl (LOp.pickT rfl rfl rfl) ?_
      refine LOps.st rfl rfl rfl (LOp.move rfl rfl) ?_
      refine LOps.sk rfl rfl rfl rfl rfl rfl ?_
      refine LOps.sk rfl rfl rfl rfl rfl rfl ?_
      refine LOps.sk rfl rfl rfl rfl rfl rfl ?_
      refine LOps.sk rfl rfl rfl rfl rfl rfl ?_
      refine LOps.st rfl rfl rfl (LOp.pickT rfl rfl rfl) ?_
      refine LOps.st rfl rfl rfl (LOp.move rfl rfl) ?_
      refine LOps.sk rfl rfl rfl rfl rfl rfl ?_
      refine LOps.sk rfl rfl rfl rfl rfl rfl ?_
      refine LOps.sk rfl rfl rfl rfl rfl rfl ?_
      refine LOps.sk rfl rfl rfl rfl rfl rfl ?_
      refine LOps.st rfl rfl rfl (LOp.pickT rfl rfl rfl) ?_
      refine LOps.st rfl rfl rfl (LOp.move rfl rfl) ?_
      refine LOps.sk rfl rfl rfl rfl rfl rfl ?_
      refine LOps.sk rfl rfl rfl rfl rfl rfl ?_
      refine LOps.st rfl rfl rfl (LOp.pickT rfl rfl rfl) ?_
      refine LOps.st rfl rfl rfl (LOp.move rfl rfl) ?_
      refine LOps.sk rfl rfl rfl rfl rfl rfl ?_
      refine LOps.sk rfl rfl rfl rfl rfl rfl ?_
      refine LOps.st rfl rfl rfl (LOp.pickT rfl rfl rfl) ?_
      refine LOps.nil ?_
      refine thn_n ?_
      obtain rfl := Option.some.inj hr
      exact Weak.of 3 ⟨rfl, rfl, rfl, rfl, rfl, rfl, rfl, trivial⟩ rfl rfl rfl rfl
    · -- g1 is False
      have hr := ite_f g1 hr
      refine LOps.gd rfl rfl rfl (gd g1 rfl) rfl (LOp.move rfl rfl) ?_
      refine LOps.gd rfl rfl rfl (gd g1 rfl) rfl (LOp.not rfl rfl) ?_
      refine LOps.st rfl rfl rfl (LOp.pickF rfl (gdl g1 rfl) rfl) ?_
      refine LOps.st rfl rfl rfl (LOp.move rfl rfl) ?_
      refine LOps.cases 35 rfl (fun (g2 : (!v2) = true) => ?_) (fun (g2 : (!v2) = false) => ?_)
      · -- g2 is True
        have hr := ite_t g2 hr
        refine LOps.sk rfl rfl rfl (gd g2 rfl) rfl rfl ?_
        refine LOps.sk rfl rfl rfl (gd g2 rfl) rfl rfl ?_
        refine LOps.st rfl rfl rfl (LOp.pickT rfl (gdl g2 rfl) rfl) ?_
        refine LOps.st rfl rfl rfl (LOp.move rfl rfl) ?_
        refine LOps.sk rfl rfl rfl rfl rfl rfl ?_
        refine LOps.sk rfl rfl rfl rfl rfl rfl ?_
        refine LOps.sk rfl rfl rfl rfl rfl rfl ?_
        refine LOps.sk rfl rfl rfl rfl rfl rfl ?_
        refine LOps.st rfl rfl rfl (LOp.pickT rfl rfl rfl) ?_
        refine LOps.st rfl rfl rfl (LOp.move rfl rfl) ?_
        refine LOps.sk rfl rfl rfl rfl rfl rfl ?_
        refine LOps.sk rfl rfl rfl rfl rfl rfl ?_
        refine LOps.sk rfl rfl rfl rfl rfl rfl ?_
        refine LOps.sk rfl rfl rfl rfl rfl rfl ?_
        refine LOps.st rfl rfl rfl (LOp.pickT rfl rfl rfl) ?_
        refine LOps.st rfl rfl rfl (LOp.move rfl rfl) ?_
        refine LOps.sk rfl rfl rfl rfl rfl rfl ?_
        refine LOps.sk rfl rfl rfl rfl rfl rfl ?_
        refine LOps.st rfl rfl rfl (LOp.pickT rfl rfl rfl) ?_
        refine LOps.st rfl rfl rfl (LOp.move rfl rfl) ?_
        refine LOps.sk rfl rfl rfl rfl rfl rfl ?_
        refine LOps.sk rfl rfl rfl rfl rfl rfl ?_
        refine LOps.st rfl rfl rfl (LOp.pickT rfl rfl rfl) ?_
        refine LOps.nil ?_
        refine thn_n ?_
        obtain rfl := Option.some.inj hr
        exact Weak.of 3 ⟨rfl, rfl, rfl, rfl, rfl, rfl, rfl, trivial⟩ rfl rfl rfl rfl
      · -- g2 is False
        have hr := ite_f g2 hr
        refine LOps.gd rfl rfl rfl (gd g2 rfl) rfl (LOp.move rfl rfl) ?_
        refine LOps.gd rfl rfl rfl (gd g2 rfl) rfl (LOp.not rfl rfl) ?_
        refine LOps.st rfl rfl rfl (LOp.pickF rfl (gdl g2 rfl) rfl) ?_
        refine LOps.st rfl rfl rfl (LOp.move rfl rfl) ?_
        refine LOps.cases 39 rfl (fun (g3 : (!v3) = true) => ?_) (fun (g3 : (!v3) = false) => ?_)
        · -- g3 is True
          have hr := ite_t g3 hr
          refine LOps.sk rfl rfl rfl (gd g3 rfl) rfl rfl ?_
          refine LOps.sk rfl rfl rfl (gd g3 rfl) rfl rfl ?_
          refine LOps.sk rfl rfl rfl (gd g3 rfl) rfl rfl ?_
          refine LOps.sk rfl rfl rfl (gd g3 rfl) rfl rfl ?_
          refine LOps.st rfl rfl rfl (LOp.pickT rfl (gdl g3 rfl) rfl) ?_
          refine LOps.st rfl rfl rfl (LOp.move rfl rfl) ?_
          refine LOps.sk rfl rfl rfl rfl rfl rfl ?_
          refine LOps.sk rfl rfl rfl rfl rfl rfl ?_
          refine LOps.sk rfl rfl rfl rfl rfl rfl ?_
          refine LOps.sk rfl rfl rfl rfl rfl rfl ?_
          refine LOps.st rfl rfl rfl (LOp.pickT rfl rfl rfl) ?_
          refine LOps.st rfl rfl rfl (LOp.move rfl rfl) ?_
          refine LOps.sk rfl rfl rfl rfl rfl rfl ?_
          refine LOps.sk rfl rfl rfl rfl rfl rfl ?_
          refine LOps.st rfl rfl rfl (LOp.pickT rfl rfl rfl) ?_
          refine LOps.st rfl rfl rfl (LOp.move rfl rfl) ?_
          refine LOps.sk rfl rfl rfl rfl rfl rfl ?_
          refine LOps.sk rfl rfl rfl rfl rfl rfl ?_
          refine LOps.st rfl rfl rfl (LOp.pickT rfl rfl rfl) ?_
          refine LOps.nil ?_
          refine thn_n ?_
          obtain rfl := Option.some.inj hr
          exact Weak.of 3 ⟨rfl, rfl, rfl, rfl, rfl, rfl, rfl, trivial⟩ rfl rfl rfl rfl
        · -- g3 is False
          have hr := ite_f g3 hr
          refine LOps.gd rfl rfl rfl (gd g3 rfl) rfl (LOp.fieldAddr rfl rfl ft55_0) ?_
          refine LOps.gd rfl rfl rfl (gd g3 rfl) rfl (LOp.load rfl rfl rfl vt49 rfl rfl) ?_
          refine LOps.gd rfl rfl rfl (gd g3 rfl) rfl (LOp.lenM rfl rfl (by kernel_rfl)) ?_
          refine LOps.gd rfl rfl rfl (gd g3 rfl) rfl (LOp.bin rfl rfl rfl rfl) ?_
          refine LOps.st rfl rfl rfl (LOp.pickF rfl (gdl g3 rfl) rfl) ?_
          refine LOps.st rfl rfl rfl (LOp.move rfl rfl) ?_
          refine LOps.cases 45 rfl (fun (g4 : (decide ((c.W.length : Int) > 40)) = true) => ?_) (fun (g4 : (decide ((c.W.length : Int) > 40)) = false) => ?_)
          · -- g4 is True
            have hr := ite_t g4 hr
            refine LOps.sk rfl rfl rfl (gd g4 rfl) rfl rfl ?_
            refine LOps.sk rfl rfl rfl (gd g4 rfl) rfl rfl ?_
            refine LOps.sk rfl rfl rfl (gd g4 rfl) rfl rfl ?_
            refine LOps.sk rfl rfl rfl (gd g4 rfl) rfl rfl ?_
            refine LOps.st rfl rfl rfl (LOp.pickT rfl (gdl g4 rfl) rfl) ?_
            refine LOps.st rfl rfl rfl (LOp.move rfl rfl) ?_
            refine LOps.sk rfl rfl rfl rfl rfl rfl ?_
            refine LOps.sk rfl rfl rfl rfl rfl rfl ?_
            refine LOps.st rfl rfl rfl (LOp.pickT rfl rfl rfl) ?_
            refine LOps.st rfl rfl rfl (LOp.move rfl rfl) ?_
            refine LOps.sk rfl rfl rfl rfl rfl rfl ?_
            refine LOps.sk rfl rfl rfl rfl rfl rfl ?_
            refine LOps.st rfl rfl rfl (LOp.pickT rfl rfl rfl) ?_
            refine LOps.nil ?_
            refine thn_n ?_
            obtain rfl := Option.some.inj hr
            exact Weak.of 3 ⟨rfl, rfl, rfl, rfl, rfl, rfl, rfl, trivial⟩ rfl rfl rfl rfl
          · -- g4 is False
            have hr := ite_f g4 hr
            refine LOps.gd rfl rfl rfl (gd g4 rfl) rfl (LOp.load rfl rfl rfl vt55 rfl rfl) ?_
            refine LOps.gd rfl rfl rfl (gd g4 rfl) rfl (LOp.load rfl rfl rfl vt75 rfl rfl) ?_
            obtain ⟨v5, h_v5, hr⟩ := bind_get hr
            refine LOps.gd rfl rfl rfl (gd g4 rfl) rfl (LOp.call rfl rfl rfl (by kernel_rfl) (LC.pure (c89 h_v5) (.cons Conv.p (.cons Conv.p .nil)))) ?_
            refine LOps.gd rfl rfl rfl (gd g4 rfl) rfl (LOp.not rfl rfl) ?_
            refine LOps.st rfl rfl rfl (LOp.pickF rfl (gdl g4 rfl) rfl) ?_
            refine LOps.st rfl rfl rfl (LOp.move rfl rfl) ?_
            refine LOps.cases 51 rfl (fun (g5 : (!v5) = true) => ?_) (fun (g5 : (!v5) = false) => ?_)
            · -- g5 is True
              have hr := ite_t g5 hr
              refine LOps.sk rfl rfl rfl (gd g5 rfl) rfl rfl ?_
              refine LOps.sk rfl rfl rfl (gd g5 rfl) rfl rfl ?_
              refine LOps.st rfl rfl rfl (LOp.pickT rfl (gdl g5 rfl) rfl) ?_
              refine LOps.st rfl rfl rfl (LOp.move rfl rfl) ?_
              refine LOps.sk rfl rfl rfl rfl rfl rfl ?_
              refine LOps.sk rfl rfl rfl rfl rfl rfl ?_
              refine LOps.st rfl rfl rfl (LOp.pickT rfl rfl rfl) ?_
              refine LOps.nil ?_
              refine thn_n ?_
              obtain rfl := Option.some.inj hr
              exact Weak.of 3 ⟨rfl, rfl, rfl, rfl, rfl, rfl, rfl, trivial⟩ rfl rfl rfl rfl
            · -- g5 is False
              have hr := ite_f g5 hr
              refine LOps.gd rfl rfl rfl (gd g5 rfl) rfl (LOp.move rfl rfl) ?_
              refine LOps.gd rfl rfl rfl (gd g5 rfl) rfl (LOp.bin rfl rfl rfl rfl) ?_
              refine LOps.st rfl rfl rfl (LOp.pickF rfl (gdl g5 rfl) rfl) ?_
              refine LOps.st rfl rfl rfl (LOp.move rfl rfl) ?_
              refine LOps.cases 55 rfl (fun (g6 : (decide (slot < 0)) = true) => ?_) (fun (g6 : (decide (slot < 0)) = false) => ?_)
              · -- g6 is True
                have hr := ite_t g6 hr
                refine LOps.sk rfl rfl rfl (gd g6 rfl) rfl rfl ?_
                refine LOps.sk rfl rfl rfl (gd g6 rfl) rfl rfl ?_
                refine LOps.st rfl rfl rfl (LOp.pickT rfl (gdl g6 rfl) rfl) ?_
                refine LOps.nil ?_
                refine thn_n ?_
                obtain rfl := Option.some.inj hr
                exact Weak.of 3 ⟨rfl, rfl, rfl, rfl, rfl, rfl, rfl, trivial⟩ rfl rfl rfl rfl
              · -- g6 is False
                have hr := ite_f g6 hr
                refine LOps.gd rfl rfl rfl (gd g6 rfl) rfl (LOp.move rfl rfl) ?_
                refine LOps.gd rfl rfl rfl (gd g6 rfl) rfl (LOp.bin rfl rfl rfl rfl) ?_
                refine LOps.st rfl rfl rfl (LOp.pickF rfl (gdl g6 rfl) rfl) ?_
                refine LOps.nil ?_
                refine thn_n ?_
                obtain rfl := Option.some.inj hr
                exact Weak.of 3 ⟨rfl, rfl, rfl, rfl, rfl, rfl, rfl, trivial⟩ rfl rfl rfl rfl
  · have hr := ho_v4
    clear hb_v4
    refine LW.cond rfl (fun (g7 : v4 = true) => ?_) (fun (g7 : v4 = false) => ?_)
    · -- g7 is True
      have hr := ite_t g7 hr
      refine LW.seq ?_
      refine LW.region ?_
      refine LOps.st rfl rfl rfl (LOp.move rfl rfl) ?_
      refine LOps.st rfl rfl rfl (LOp.assign rfl rfl) ?_
      refine LOps.nil ?_
      refine thn_n ?_
      refine LW.ret ?_
      refine thn_r ?_
      obtain rfl := Option.some.inj hr
      refine finP_ret (.one (.tmp rfl)) ?_
      exact Conv.p
    · -- g7 is False
      have hr := ite_f g7 hr
      refine LW.skip ?_
      refine thn_n ?_
      refine LW.seq ?_
      refine LW.region ?_
      refine LOps.st rfl rfl rfl (LOp.load rfl rfl rfl vt55 rfl rfl) ?_
      refine LOps.st rfl rfl rfl (LOp.load rfl rfl rfl vt75 rfl rfl) ?_
      refine LOps.st rfl rfl rfl (LOp.load rfl rfl rfl vt75 rfl rfl) ?_
      refine LOps.st rfl rfl rfl (LOp.move rfl rfl) ?_
      obtain ⟨v6, h_v6, hr⟩ := bind_get hr
      refine LOps.st rfl rfl rfl (LOp.call rfl rfl rfl (by kernel_rfl) (LC.pure (c90 h_v6) (.cons Conv.p (.cons Conv.p (.cons Conv.p (.cons Conv.p .nil)))))) ?_
      refine LOps.st rfl rfl rfl (LOp.move rfl rfl) ?_
      refine LOps.st rfl rfl rfl (LOp.extract rfl rfl rfl) ?_
      refine LOps.st rfl rfl rfl (LOp.extract rfl rfl rfl) ?_
      refine LOps.st rfl rfl rfl (LOp.extract rfl rfl rfl) ?_
      refine LOps.st rfl rfl rfl (LOp.alloc rfl zt75 rfl rfl) ?_
      refine LOps.st rfl rfl rfl (LOp.alloc rfl zt75 rfl rfl) ?_
      refine LOps.st rfl rfl rfl (LOp.store rfl rfl rfl rfl vt75 rfl rfl rfl rfl) ?_
      refine LOps.st rfl rfl rfl (LOp.store rfl rfl rfl rfl vt75 rfl rfl rfl rfl) ?_
      refine LOps.st rfl rfl rfl (LOp.assign rfl rfl) ?_
      refine LOps.nil ?_
      refine thn_n ?_
      refine LW.seq ?_
      refine LW.region ?_
      refine LOps.st rfl rfl rfl (LOp.load rfl rfl rfl vt55 rfl rfl) ?_
      refine LOps.st rfl rfl rfl (LOp.load rfl rfl rfl vt75 rfl rfl) ?_
      refine LOps.st rfl rfl rfl (LOp.load rfl rfl rfl vt75 rfl rfl) ?_
      refine LOps.st rfl rfl rfl (LOp.move rfl rfl) ?_
      refine LOps.st rfl rfl rfl (LOp.bin rfl rfl rfl rfl) ?_
      obtain ⟨v7, h_v7, hr⟩ := bind_get hr
      refine LOps.st rfl rfl rfl (LOp.call rfl rfl rfl (by kernel_rfl) (LC.pure (c90 h_v7) (.cons Conv.p (.cons Conv.p (.cons Conv.p (.cons Conv.p .nil)))))) ?_
      refine LOps.st rfl rfl rfl (LOp.move rfl rfl) ?_
      refine LOps.st rfl rfl rfl (LOp.extract rfl rfl rfl) ?_
      refine LOps.st rfl rfl rfl (LOp.extract rfl rfl rfl) ?_
      refine LOps.st rfl rfl rfl (LOp.extract rfl rfl rfl) ?_
      refine LOps.st rfl rfl rfl (LOp.alloc rfl zt75 rfl rfl) ?_
      refine LOps.st rfl rfl rfl (LOp.alloc rfl zt75 rfl rfl) ?_
      refine LOps.st rfl rfl rfl (LOp.store rfl rfl rfl rfl vt75 rfl rfl rfl rfl) ?_
      refine LOps.st rfl rfl rfl (LOp.store rfl rfl rfl rfl vt75 rfl rfl rfl rfl) ?_
      refine LOps.st rfl rfl rfl (LOp.assign rfl rfl) ?_
      refine LOps.nil ?_
      refine thn_n ?_
      refine LW.seq ?_
      refine LW.seq ?_
      refine LW.region ?_
      refine LOps.st rfl rfl rfl (LOp.fieldAddr rfl rfl ft75_0) ?_
      refine LOps.st rfl rfl rfl (LOp.load rfl rfl rfl vt27 rfl rfl) ?_
      refine LOps.st rfl rfl rfl (LOp.lenM rfl rfl (by kernel_rfl)) ?_
      refine LOps.st rfl rfl rfl (LOp.assign rfl rfl) ?_
      refine LOps.nil ?_
      refine thn_n ?_
      obtain ⟨b_v8, hb_v8, ho_v8⟩ := bind_get hr
      clear hr
      refine LW.tailB (b := b_v8) (E := fun v8 => [(3, .p (.int .i64 slot)), (5, .ptr 1 0), (6, .ptr 2 0), (8, .p (.bool false)), (12, .ptr 3 0), (15, .ptr 5 0)]) (O := fun v8 => [.box [.p (.slice 1 (c.W.map i64P)), .p (.int .u64 c.Seed), .p (.int .i64 c.Epoch), .p (.int .i64 c.Num), .p (.int .i64 c.Den)], .box [.p (.slice 5 (w.B.map blkP)), .p (.slice 4 (w.V.map vtP))], .box [.p (.slice 5 (v_in.B.map blkP)), .p (.slice 4 (v_in.V.map vtP))], .box [.p (.slice 5 (v6.1.B.map blkP)), .p (.slice 4 (v6.1.V.map vtP))], .box [.p (.slice 5 (v6.2.1.B.map blkP)), .p (.slice 4 (v6.2.1.V.map vtP))], .box [.p (.slice 5 (v7.1.B.map blkP)), .p (.slice 4 (v7.1.V.map vtP))], .box [.p (.slice 5 (v7.2.1.B.map blkP)), .p (.slice 4 (v7.2.1.V.map vtP))]]) ?_ (fun v8 e_v8 env_v8 H_v8 hw_v8 => ?_)
      · refine LW.block ?_
        refine LW.iterB (E := fun x1 : F35_L1 => [(3, .p (.int .i64 slot)), (5, .ptr 1 0), (6, .ptr 2 0), (8, .p (.bool false)), (12, .ptr 3 0), (15, .ptr 5 0), (18, .p (.int .i64 x1.i))]) (O := fun x1 => [.box [.p (.slice 1 (c.W.map i64P)), .p (.int .u64 c.Seed), .p (.int .i64 c.Epoch), .p (.int .i64 c.Num), .p (.int .i64 c.Den)], .box [.p (.slice 5 (w.B.map blkP)), .p (.slice 4 (w.V.map vtP))], .box [.p (.slice 5 (v_in.B.map blkP)), .p (.slice 4 (v_in.V.map vtP))], .box [.p (.slice 5 (v6.1.B.map blkP)), .p (.slice 4 (v6.1.V.map vtP))], .box [.p (.slice 5 (v6.2.1.B.map blkP)), .p (.slice 4 (v6.2.1.V.map vtP))], .box [.p (.slice 5 (v7.1.B.map blkP)), .p (.slice 4 (v7.1.V.map vtP))], .box [.p (.slice 5 (v7.2.1.B.map blkP)), .p (.slice 4 (v7.2.1.V.map vtP))]]) hb_v8 (Weak.of 7 ⟨rfl, rfl, rfl, rfl, rfl, rfl, rfl, trivial⟩ rfl rfl rfl rfl) (fun x1 z_x1 hr hb_x1 => ?_)
        unfold F35_s1 at hr
        refine LW.seq ?_
        refine LW.seq ?_
        refine LW.region ?_
        refine LOps.st rfl rfl rfl (LOp.move rfl rfl) ?_
        refine LOps.st rfl rfl rfl (LOp.fieldAddr rfl rfl ft75_0) ?_
        refine LOps.st rfl rfl rfl (LOp.load rfl rfl rfl vt27 rfl rfl) ?_
        refine LOps.st rfl rfl rfl (LOp.lenM rfl rfl (by kernel_rfl)) ?_
        refine LOps.st rfl rfl rfl (LOp.bin rfl rfl rfl rfl) ?_
        refine LOps.nil ?_
        refine thn_n ?_
        refine LW.cond rfl (fun (g8 : (decide (x1.i < (v6.1.B.length : Int))) = true) => ?_) (fun (g8 : (decide (x1.i < (v6.1.B.length : Int))) = false) => ?_)
        · -- g8 is True
          have hr := ite_t g8 hr
          refine LW.skip ?_
          refine thn_n ?_
          refine LW.seq ?_
          refine LW.block ?_
          refine LW.seq ?_
          refine LW.region ?_
          refine LOps.st rfl rfl rfl (LOp.fieldAddr rfl rfl ft75_0) ?_
          refine LOps.st rfl rfl rfl (LOp.load rfl rfl rfl vt27 rfl rfl) ?_
          refine LOps.st rfl rfl rfl (LOp.move rfl rfl) ?_
          obtain ⟨y1, h_y1, hr⟩ := bind_get hr
          refine LOps.st rfl rfl rfl (LOp.indexAddrX rfl rfl rfl st27 h_y1 rfl) ?_
          refine LOps.st rfl rfl rfl (LOp.fieldAddrC rfl rfl ft42_0 rfl) ?_
          refine LOps.st rfl rfl rfl (LOp.loadC rfl rfl rfl vt3 rfl rfl) ?_
          refine LOps.st rfl rfl rfl (LOp.move rfl rfl) ?_
          refine LOps.st rfl rfl rfl (LOp.bin rfl rfl rfl rfl) ?_
          refine LOps.nil ?_
          refine thn_n ?_
          refine LW.cond rfl (fun (g9 : (decide (y1.Slot > slot)) = true) => ?_) (fun (g9 : (decide (y1.Slot > slot)) = false) => ?_)
          · -- g9 is True
            have hr := ite_t g9 hr
            refine LW.seq ?_
            refine LW.region ?_
            refine LOps.st rfl rfl rfl (LOp.assign rfl rfl) ?_
            refine LOps.nil ?_
            refine thn_n ?_
            refine LW.ret ?_
            refine inBlk_r ?_
            refine thn_r ?_
            refine thn_r ?_
            refine inBlk_r ?_
            refine thn_r ?_
            refine thn_r ?_
            obtain rfl := Option.some.inj hr
            have hr := congrArg some (hb_x1 _ rfl)
            obtain rfl := Option.some.inj hr
            have hr := sum_r ho_v8
            obtain rfl := Option.some.inj hr
            refine finP_ret (.one (.tmp rfl)) ?_
            exact Conv.p
          · -- g9 is False
            have hr := ite_f g9 hr
            refine LW.skip ?_
            refine inBlk_n ?_
            refine thn_n ?_
            refine LW.region ?_
            refine LOps.st rfl rfl rfl (LOp.move rfl rfl) ?_
            refine LOps.st rfl rfl rfl (LOp.bin rfl rfl rfl rfl) ?_
            refine LOps.st rfl rfl rfl (LOp.assign rfl rfl) ?_
            refine LOps.nil ?_
            refine thn_n ?_
            obtain rfl := Option.some.inj hr
            exact ⟨_, rfl, Weak.of 7 ⟨rfl, rfl, rfl, rfl, rfl, rfl, rfl, trivial⟩ rfl rfl rfl rfl⟩
        · -- g8 is False
          have hr := ite_f g8 hr
          refine LW.exit ?_
          refine thn_e ?_
          refine thn_e ?_
          refine inBlk_self ?_
          refine thn_n ?_
          obtain rfl := Option.some.inj hr
          have hr := congrArg some (hb_x1 _ rfl)
          obtain rfl := Option.some.inj hr
          exact ⟨_, rfl, Weak.of 7 ⟨rfl, rfl, rfl, rfl, rfl, rfl, trivial⟩ rfl rfl rfl rfl⟩
      · obtain rfl := e_v8
        have hr := sum_l ho_v8
        clear hb_v8
        refine thn_n ?_
        refine LW.weak hw_v8 ?_
        refine LW.seq ?_
        refine LW.seq ?_
        refine LW.region ?_
        refine LOps.st rfl rfl rfl (LOp.fieldAddr rfl rfl ft75_1) ?_
        refine LOps.st rfl rfl rfl (LOp.load rfl rfl rfl vt68 rfl rfl) ?_
        refine LOps.st rfl rfl rfl (LOp.lenM rfl rfl (by kernel_rfl)) ?_
        refine LOps.st rfl rfl rfl (LOp.assign rfl rfl) ?_
        refine LOps.nil ?_
        refine thn_n ?_
        obtain ⟨b_v9, hb_v9, ho_v9⟩ := bind_get hr
        clear hr
        refine LW.tailB (b := b_v9) (E := fun v9 => [(5, .ptr 1 0), (6, .ptr 2 0), (8, .p (.bool false)), (12, .ptr 3 0), (15, .ptr 5 0)]) (O := fun v9 => [.box [.p (.slice 1 (c.W.map i64P)), .p (.int .u64 c.Seed), .p (.int .i64 c.Epoch), .p (.int .i64 c.Num), .p (.int .i64 c.Den)], .box [.p (.slice 5 (w.B.map blkP)), .p (.slice 4 (w.V.map vtP))], .box [.p (.slice 5 (v_in.B.map blkP)), .p (.slice 4 (v_in.V.map vtP))], .box [.p (.slice 5 (v6.1.B.map blkP)), .p (.slice 4 (v6.1.V.map vtP))], .box [.p (.slice 5 (v6.2.1.B.map blkP)), .p (.slice 4 (v6.2.1.V.map vtP))], .box [.p (.slice 5 (v7.1.B.map blkP)), .p (.slice 4 (v7.1.V.map vtP))], .box [.p (.slice 5 (v7.2.1.B.map blkP)), .p (.slice 4 (v7.2.1.V.map vtP))]]) ?_ (fun v9 e_v9 env_v9 H_v9 hw_v9 => ?_)
        · refine LW.block ?_
          refine LW.iterB (E := fun x2 : F35_L2 => [(3, .p (.int .i64 slot)), (5, .ptr 1 0), (6, .ptr 2 0), (8, .p (.bool false)), (12, .ptr 3 0), (15, .ptr 5 0), (19, .p (.int .i64 x2.i))]) (O := fun x2 => [.box [.p (.slice 1 (c.W.map i64P)), .p (.int .u64 c.Seed), .p (.int .i64 c.Epoch), .p (.int .i64 c.Num), .p (.int .i64 c.Den)], .box [.p (.slice 5 (w.B.map blkP)), .p (.slice 4 (w.V.map vtP))], .box [.p (.slice 5 (v_in.B.map blkP)), .p (.slice 4 (v_in.V.map vtP))], .box [.p (.slice 5 (v6.1.B.map blkP)), .p (.slice 4 (v6.1.V.map vtP))], .box [.p (.slice 5 (v6.2.1.B.map blkP)), .p (.slice 4 (v6.2.1.V.map vtP))], .box [.p (.slice 5 (v7.1.B.map blkP)), .p (.slice 4 (v7.1.V.map vtP))], .box [.p (.slice 5 (v7.2.1.B.map blkP)), .p (.slice 4 (v7.2.1.V.map vtP))]]) hb_v9 (Weak.of 7 ⟨rfl, rfl, rfl, rfl, rfl, rfl, rfl, trivial⟩ rfl rfl rfl rfl) (fun x2 z_x2 hr hb_x2 => ?_)
          unfold F35_s2 at hr
          refine LW.seq ?_
          refine LW.seq ?_
          refine LW.region ?_
          refine LOps.st rfl rfl rfl (LOp.move rfl rfl) ?_
          refine LOps.st rfl rfl rfl (LOp.fieldAddr rfl rfl ft75_1) ?_
          refine LOps.st rfl rfl rfl (LOp.load rfl rfl rfl vt68 rfl rfl) ?_
          refine LOps.st rfl rfl rfl (LOp.lenM rfl rfl (by kernel_rfl)) ?_
          refine LOps.st rfl rfl rfl (LOp.bin rfl rfl rfl rfl) ?_
          refine LOps.nil ?_
          refine thn_n ?_
          refine LW.cond rfl (fun (g10 : (decide (x2.i < (v6.1.V.length : Int))) = true) => ?_) (fun (g10 : (decide (x2.i < (v6.1.V.length : Int))) = false) => ?_)
          · -- g10 is True
            have hr := ite_t g10 hr
            refine LW.skip ?_
            refine thn_n ?_
            refine LW.seq ?_
            refine LW.block ?_
            refine LW.seq ?_
            refine LW.region ?_
            refine LOps.st rfl rfl rfl (LOp.fieldAddr rfl rfl ft75_1) ?_
            refine LOps.st rfl rfl rfl (LOp.load rfl rfl rfl vt68 rfl rfl) ?_
            refine LOps.st rfl rfl rfl (LOp.move rfl rfl) ?_
            obtain ⟨y2, h_y2, hr⟩ := bind_get hr
            refine LOps.st rfl rfl rfl (LOp.indexAddrX rfl rfl rfl st68 h_y2 rfl) ?_
            refine LOps.st rfl rfl rfl (LOp.fieldAddrC rfl rfl ft82_1 rfl) ?_
            refine LOps.st rfl rfl rfl (LOp.loadC rfl rfl rfl vt3 rfl rfl) ?_
            refine LOps.st rfl rfl rfl (LOp.move rfl rfl) ?_
            refine LOps.st rfl rfl rfl (LOp.bin rfl rfl rfl rfl) ?_
            refine LOps.nil ?_
            refine thn_n ?_
            refine LW.cond rfl (fun (g11 : (decide (y2.Slot > slot)) = true) => ?_) (fun (g11 : (decide (y2.Slot > slot)) = false) => ?_)
            · -- g11 is True
              have hr := ite_t g11 hr
              refine LW.seq ?_
              refine LW.region ?_
              refine LOps.st rfl rfl rfl (LOp.assign rfl rfl) ?_
              refine LOps.nil ?_
              refine thn_n ?_
              refine LW.ret ?_
              refine inBlk_r ?_
              refine thn_r ?_
              refine thn_r ?_
              refine inBlk_r ?_
              refine thn_r ?_
              refine thn_r ?_
              obtain rfl := Option.some.inj hr
              have hr := congrArg some (hb_x2 _ rfl)
              obtain rfl := Option.some.inj hr
              have hr := sum_r ho_v9
              obtain rfl := Option.some.inj hr
              refine finP_ret (.one (.tmp rfl)) ?_
              exact Conv.p
            · -- g11 is False
              have hr := ite_f g11 hr
              refine LW.skip ?_
              refine inBlk_n ?_
              refine thn_n ?_
              refine LW.region ?_
              refine LOps.st rfl rfl rfl (LOp.move rfl rfl) ?_
              refine LOps.st rfl rfl rfl (LOp.bin rfl rfl rfl rfl) ?_
              refine LOps.st rfl rfl rfl (LOp.assign rfl rfl) ?_
              refine LOps.nil ?_
              refine thn_n ?_
              obtain rfl := Option.some.inj hr
              exact ⟨_, rfl, Weak.of 7 ⟨rfl, rfl, rfl, rfl, rfl, rfl, rfl, trivial⟩ rfl rfl rfl rfl⟩
          · -- g10 is False
            have hr := ite_f g10 hr
            refine LW.exit ?_
            refine thn_e ?_
            refine thn_e ?_
            refine inBlk_self ?_
            refine thn_n ?_
            obtain rfl := Option.some.inj hr
            have hr := congrArg some (hb_x2 _ rfl)
            obtain rfl := Option.some.inj hr
            exact ⟨_, rfl, Weak.of 7 ⟨rfl, rfl, rfl, rfl, rfl, trivial⟩ rfl rfl rfl rfl⟩
        · obtain rfl := e_v9
          have hr := sum_l ho_v9
          clear hb_v9
          refine thn_n ?_
          refine LW.weak hw_v9 ?_
          refine LW.seq ?_
          refine LW.region ?_
          refine LOps.st rfl rfl rfl (LOp.load rfl rfl rfl vt75 rfl rfl) ?_
          refine LOps.st rfl rfl rfl (LOp.load rfl rfl rfl vt75 rfl rfl) ?_
          obtain ⟨v10, h_v10, hr⟩ := bind_get hr
          refine LOps.st rfl rfl rfl (LOp.call rfl rfl rfl (by kernel_rfl) (LC.pure (c91 h_v10) (.cons Conv.p (.cons Conv.p .nil)))) ?_
          refine LOps.st rfl rfl rfl (LOp.alloc rfl zt75 rfl rfl) ?_
          refine LOps.st rfl rfl rfl (LOp.store rfl rfl rfl rfl vt75 rfl rfl rfl rfl) ?_
          refine LOps.nil ?_
          refine thn_n ?_
          refine LW.seq ?_
          refine LW.seq ?_
          refine LW.region ?_
          refine LOps.st rfl rfl rfl (LOp.assign rfl rfl) ?_
          refine LOps.nil ?_
          refine thn_n ?_
          obtain ⟨b_v11, hb_v11, ho_v11⟩ := bind_get hr
          clear hr
          refine LW.tailB (b := b_v11) (E := fun v11 => [(8, .p (.bool false)), (12, .ptr 3 0), (15, .ptr 5 0)]) (O := fun v11 => [.box [.p (.slice 1 (c.W.map i64P)), .p (.int .u64 c.Seed), .p (.int .i64 c.Epoch), .p (.int .i64 c.Num), .p (.int .i64 c.Den)], .box [.p (.slice 5 (w.B.map blkP)), .p (.slice 4 (w.V.map vtP))], .box [.p (.slice 5 (v_in.B.map blkP)), .p (.slice 4 (v_in.V.map vtP))], .box [.p (.slice 5 (v6.1.B.map blkP)), .p (.slice 4 (v6.1.V.map vtP))], .box [.p (.slice 5 (v6.2.1.B.map blkP)), .p (.slice 4 (v6.2.1.V.map vtP))], .box [.p (.slice 5 (v7.1.B.map blkP)), .p (.slice 4 (v7.1.V.map vtP))], .box [.p (.slice 5 (v7.2.1.B.map blkP)), .p (.slice 4 (v7.2.1.V.map vtP))], .box [.p (.slice 5 (v10.B.map blkP)), .p (.slice 4 (v10.V.map vtP))]]) ?_ (fun v11 e_v11 env_v11 H_v11 hw_v11 => ?_)
          · refine LW.block ?_
            refine LW.iterB (E := fun x3 : F35_L3 => [(8, .p (.bool false)), (12, .ptr 3 0), (15, .ptr 5 0), (20, .ptr 7 0), (21, .p (.int .i64 x3.i))]) (O := fun x3 => [.box [.p (.slice 1 (c.W.map i64P)), .p (.int .u64 c.Seed), .p (.int .i64 c.Epoch), .p (.int .i64 c.Num), .p (.int .i64 c.Den)], .box [.p (.slice 5 (w.B.map blkP)), .p (.slice 4 (w.V.map vtP))], .box [.p (.slice 5 (v_in.B.map blkP)), .p (.slice 4 (v_in.V.map vtP))], .box [.p (.slice 5 (v6.1.B.map blkP)), .p (.slice 4 (v6.1.V.map vtP))], .box [.p (.slice 5 (v6.2.1.B.map blkP)), .p (.slice 4 (v6.2.1.V.map vtP))], .box [.p (.slice 5 (v7.1.B.map blkP)), .p (.slice 4 (v7.1.V.map vtP))], .box [.p (.slice 5 (v7.2.1.B.map blkP)), .p (.slice 4 (v7.2.1.V.map vtP))], .box [.p (.slice 5 (v10.B.map blkP)), .p (.slice 4 (v10.V.map vtP))]]) hb_v11 (Weak.of 8 ⟨rfl, rfl, rfl, rfl, rfl, trivial⟩ rfl rfl rfl rfl) (fun x3 z_x3 hr hb_x3 => ?_)
            unfold F35_s3 at hr
            refine LW.seq ?_
            refine LW.seq ?_
            refine LW.region ?_
            refine LOps.st rfl rfl rfl (LOp.move rfl rfl) ?_
            refine LOps.st rfl rfl rfl (LOp.fieldAddr rfl rfl ft75_0) ?_
            refine LOps.st rfl rfl rfl (LOp.load rfl rfl rfl vt27 rfl rfl) ?_
            refine LOps.st rfl rfl rfl (LOp.lenM rfl rfl (by kernel_rfl)) ?_
            refine LOps.st rfl rfl rfl (LOp.bin rfl rfl rfl rfl) ?_
            refine LOps.nil ?_
            refine thn_n ?_
            refine LW.cond rfl (fun (g12 : (decide (x3.i < (v10.B.length : Int))) = true) => ?_) (fun (g12 : (decide (x3.i < (v10.B.length : Int))) = false) => ?_)
            · -- g12 is True
              have hr := ite_t g12 hr
              refine LW.skip ?_
              refine thn_n ?_
              refine LW.seq ?_
              refine LW.block ?_
              refine LW.seq ?_
              refine LW.region ?_
              refine LOps.st rfl rfl rfl (LOp.assign rfl rfl) ?_
              refine LOps.nil ?_
              refine thn_n ?_
              obtain ⟨b_v12, hb_v12, ho_v12⟩ := bind_get hr
              clear hr
              refine LW.tailB (b := b_v12) (E := fun v12 => [(8, .p (.bool false)), (12, .ptr 3 0), (15, .ptr 5 0), (20, .ptr 7 0), (21, .p (.int .i64 x3.i))]) (O := fun v12 => [.box [.p (.slice 1 (c.W.map i64P)), .p (.int .u64 c.Seed), .p (.int .i64 c.Epoch), .p (.int .i64 c.Num), .p (.int .i64 c.Den)], .box [.p (.slice 5 (w.B.map blkP)), .p (.slice 4 (w.V.map vtP))], .box [.p (.slice 5 (v_in.B.map blkP)), .p (.slice 4 (v_in.V.map vtP))], .box [.p (.slice 5 (v6.1.B.map blkP)), .p (.slice 4 (v6.1.V.map vtP))], .box [.p (.slice 5 (v6.2.1.B.map blkP)), .p (.slice 4 (v6.2.1.V.map vtP))], .box [.p (.slice 5 (v7.1.B.map blkP)), .p (.slice 4 (v7.1.V.map vtP))], .box [.p (.slice 5 (v7.2.1.B.map blkP)), .p (.slice 4 (v7.2.1.V.map vtP))], .box [.p (.slice 5 (v10.B.map blkP)), .p (.slice 4 (v10.V.map vtP))]]) ?_ (fun v12 e_v12 env_v12 H_v12 hw_v12 => ?_)
              · refine LW.block ?_
                refine LW.iterB (E := fun x4 : F35_L4 => [(8, .p (.bool false)), (12, .ptr 3 0), (15, .ptr 5 0), (20, .ptr 7 0), (21, .p (.int .i64 x3.i)), (22, .p (.int .i64 x4.k))]) (O := fun x4 => [.box [.p (.slice 1 (c.W.map i64P)), .p (.int .u64 c.Seed), .p (.int .i64 c.Epoch), .p (.int .i64 c.Num), .p (.int .i64 c.Den)], .box [.p (.slice 5 (w.B.map blkP)), .p (.slice 4 (w.V.map vtP))], .box [.p (.slice 5 (v_in.B.map blkP)), .p (.slice 4 (v_in.V.map vtP))], .box [.p (.slice 5 (v6.1.B.map blkP)), .p (.slice 4 (v6.1.V.map vtP))], .box [.p (.slice 5 (v6.2.1.B.map blkP)), .p (.slice 4 (v6.2.1.V.map vtP))], .box [.p (.slice 5 (v7.1.B.map blkP)), .p (.slice 4 (v7.1.V.map vtP))], .box [.p (.slice 5 (v7.2.1.B.map blkP)), .p (.slice 4 (v7.2.1.V.map vtP))], .box [.p (.slice 5 (v10.B.map blkP)), .p (.slice 4 (v10.V.map vtP))]]) hb_v12 (Weak.of 8 ⟨rfl, rfl, rfl, rfl, rfl, rfl, trivial⟩ rfl rfl rfl rfl) (fun x4 z_x4 hr hb_x4 => ?_)
                unfold F35_s4 at hr
                refine LW.seq ?_
                refine LW.seq ?_
                refine LW.region ?_
                refine LOps.st rfl rfl rfl (LOp.move rfl rfl) ?_
                refine LOps.st rfl rfl rfl (LOp.move rfl rfl) ?_
                refine LOps.st rfl rfl rfl (LOp.bin rfl rfl rfl rfl) ?_
                refine LOps.nil ?_
                refine thn_n ?_
                refine LW.cond rfl (fun (g13 : (decide (x4.k < x3.i)) = true) => ?_) (fun (g13 : (decide (x4.k < x3.i)) = false) => ?_)
                · -- g13 is True
                  have hr := ite_t g13 hr
                  refine LW.skip ?_
                  refine thn_n ?_
                  refine LW.seq ?_
                  refine LW.block ?_
                  refine LW.seq ?_
                  refine LW.draw (by kernel_rfl) (by kernel_rfl) ?_
                  refine LO.st rfl rfl rfl (LOp.fieldAddr rfl rfl ft75_0) ?_
                  refine LO.st rfl rfl rfl (LOp.load rfl rfl rfl vt27 rfl rfl) ?_
                  refine LO.st rfl rfl rfl (LOp.move rfl rfl) ?_
                  obtain ⟨y3, h_y3, hr⟩ := bind_get hr
                  refine LO.st rfl rfl rfl (LOp.indexAddrX rfl rfl rfl st27 h_y3 rfl) ?_
                  refine LO.st rfl rfl rfl (LOp.loadC rfl rfl rfl vt42 rfl rfl) ?_
                  refine LO.st rfl rfl rfl (LOp.call rfl rfl rfl (by kernel_rfl) (LC.pure (c50 (b := y3)) (.cons Conv.p .nil))) ?_
                  refine LO.st rfl rfl rfl (LOp.fieldAddr rfl rfl ft75_0) ?_
                  refine LO.st rfl rfl rfl (LOp.load rfl rfl rfl vt27 rfl rfl) ?_
                  refine LO.st rfl rfl rfl (LOp.move rfl rfl) ?_
                  obtain ⟨y4, h_y4, hr⟩ := bind_get hr
                  refine LO.st rfl rfl rfl (LOp.indexAddrX rfl rfl rfl st27 h_y4 rfl) ?_
                  refine LO.st rfl rfl rfl (LOp.loadC rfl rfl rfl vt42 rfl rfl) ?_
                  refine LO.st rfl rfl rfl (LOp.call rfl rfl rfl (by kernel_rfl) (LC.pure (c50 (b := y4)) (.cons Conv.p .nil))) ?_
                  refine LO.st rfl rfl rfl (LOp.eqlAgg rfl rfl rfl rfl rfl eqt24) ?_
                  refine LO.nil ?_
                  refine thn_n ?_
                  refine LW.cond rfl (fun (g14 : ((((nm y3).1) == ((nm y4).1)) && ((((nm y3).2) == ((nm y4).2)) && true)) = true) => ?_) (fun (g14 : ((((nm y3).1) == ((nm y4).1)) && ((((nm y3).2) == ((nm y4).2)) && true)) = false) => ?_)
                  · -- g14 is True
                    have hr := ite_t g14 hr
                    refine LW.seq ?_
                    refine LW.region ?_
                    refine LOps.st rfl rfl rfl (LOp.assign rfl rfl) ?_
                    refine LOps.nil ?_
                    refine thn_n ?_
                    refine LW.ret ?_
                    refine inBlk_r ?_
                    refine thn_r ?_
                    refine thn_r ?_
                    refine inBlk_r ?_
                    refine thn_r ?_
                    refine inBlk_r ?_
                    refine thn_r ?_
                    refine thn_r ?_
                    refine inBlk_r ?_
                    refine thn_r ?_
                    refine thn_r ?_
                    obtain rfl := Option.some.inj hr
                    have hr := congrArg some (hb_x4 _ rfl)
                    obtain rfl := Option.some.inj hr
                    have hr := sum_r ho_v12
                    obtain rfl := Option.some.inj hr
                    have hr := congrArg some (hb_x3 _ rfl)
                    obtain rfl := Option.some.inj hr
                    have hr := sum_r ho_v11
                    obtain rfl := Option.some.inj hr
                    refine finP_ret (.one (.tmp rfl)) ?_
                    exact Conv.p
                  · -- g14 is False
                    have hr := ite_f g14 hr
                    refine LW.skip ?_
                    refine inBlk_n ?_
                    refine thn_n ?_
                    refine LW.region ?_
                    refine LOps.st rfl rfl rfl (LOp.move rfl rfl) ?_
                    refine LOps.st rfl rfl rfl (LOp.bin rfl rfl rfl rfl) ?_
                    refine LOps.st rfl rfl rfl (LOp.assign rfl rfl) ?_
                    refine LOps.nil ?_
                    refine thn_n ?_
                    obtain rfl := Option.some.inj hr
                    exact ⟨_, rfl, Weak.of 8 ⟨rfl, rfl, rfl, rfl, rfl, rfl, trivial⟩ rfl rfl rfl rfl⟩
                · -- g13 is False
                  have hr := ite_f g13 hr
                  refine LW.exit ?_
                  refine thn_e ?_
                  refine thn_e ?_
                  refine inBlk_self ?_
                  refine thn_n ?_
                  obtain rfl := Option.some.inj hr
                  have hr := congrArg some (hb_x4 _ rfl)
                  obtain rfl := Option.some.inj hr
                  exact ⟨_, rfl, Weak.of 8 ⟨rfl, rfl, rfl, rfl, rfl, trivial⟩ rfl rfl rfl rfl⟩
              · obtain rfl := e_v12
                have hr := sum_l ho_v12
                clear hb_v12
                refine inBlk_n ?_
                refine thn_n ?_
                refine LW.weak hw_v12 ?_
                refine LW.region ?_
                refine LOps.st rfl rfl rfl (LOp.move rfl rfl) ?_
                refine LOps.st rfl rfl rfl (LOp.bin rfl rfl rfl rfl) ?_
                refine LOps.st rfl rfl rfl (LOp.assign rfl rfl) ?_
                refine LOps.nil ?_
                refine thn_n ?_
                obtain rfl := Option.some.inj hr
                exact ⟨_, rfl, Weak.of 8 ⟨rfl, rfl, rfl, rfl, rfl, trivial⟩ rfl rfl rfl rfl⟩
            · -- g12 is False
              have hr := ite_f g12 hr
              refine LW.exit ?_
              refine thn_e ?_
              refine thn_e ?_
              refine inBlk_self ?_
              refine thn_n ?_
              obtain rfl := Option.some.inj hr
              have hr := congrArg some (hb_x3 _ rfl)
              obtain rfl := Option.some.inj hr
              exact ⟨_, rfl, Weak.of 8 ⟨rfl, rfl, rfl, trivial⟩ rfl rfl rfl rfl⟩
          · obtain rfl := e_v11
            have hr := sum_l ho_v11
            clear hb_v11
            refine thn_n ?_
            refine LW.weak hw_v11 ?_
            refine LW.seq ?_
            refine LW.region ?_
            refine LOps.st rfl rfl rfl (LOp.load rfl rfl rfl vt75 rfl rfl) ?_
            refine LOps.st rfl rfl rfl (LOp.load rfl rfl rfl vt75 rfl rfl) ?_
            obtain ⟨v13, h_v13, hr⟩ := bind_get hr
            refine LOps.st rfl rfl rfl (LOp.call rfl rfl rfl (by kernel_rfl) (LC.pure (c91 h_v13) (.cons Conv.p (.cons Conv.p .nil)))) ?_
            refine LOps.st rfl rfl rfl (LOp.alloc rfl zt75 rfl rfl) ?_
            refine LOps.st rfl rfl rfl (LOp.store rfl rfl rfl rfl vt75 rfl rfl rfl rfl) ?_
            refine LOps.nil ?_
            refine thn_n ?_
            refine LW.seq ?_
            refine LW.region ?_
            refine LOps.st rfl rfl rfl (LOp.fieldAddr rfl rfl ft75_0) ?_
            refine LOps.st rfl rfl rfl (LOp.load rfl rfl rfl vt27 rfl rfl) ?_
            refine LOps.st rfl rfl rfl (LOp.lenM rfl rfl (by kernel_rfl)) ?_
            refine LOps.st rfl rfl rfl (LOp.fieldAddr rfl rfl ft75_0) ?_
            refine LOps.st rfl rfl rfl (LOp.load rfl rfl rfl vt27 rfl rfl) ?_
            refine LOps.st rfl rfl rfl (LOp.lenM rfl rfl (by kernel_rfl)) ?_
            refine LOps.st rfl rfl rfl (LOp.bin rfl rfl rfl rfl) ?_
            refine LOps.st rfl rfl rfl (LOp.move rfl rfl) ?_
            refine LOps.cases 153 rfl (fun (g15 : ((v13.B.length : Int) == (v7.1.B.length : Int)) = true) => ?_) (fun (g15 : ((v13.B.length : Int) == (v7.1.B.length : Int)) = false) => ?_)
            · -- g15 is True
              have hr := ite_t g15 hr
              refine LOps.gd rfl rfl rfl (gd g15 rfl) rfl (LOp.fieldAddr rfl rfl ft75_1) ?_
              refine LOps.gd rfl rfl rfl (gd g15 rfl) rfl (LOp.load rfl rfl rfl vt68 rfl rfl) ?_
              refine LOps.gd rfl rfl rfl (gd g15 rfl) rfl (LOp.lenM rfl rfl (by kernel_rfl)) ?_
              refine LOps.gd rfl rfl rfl (gd g15 rfl) rfl (LOp.fieldAddr rfl rfl ft75_1) ?_
              refine LOps.gd rfl rfl rfl (gd g15 rfl) rfl (LOp.load rfl rfl rfl vt68 rfl rfl) ?_
              refine LOps.gd rfl rfl rfl (gd g15 rfl) rfl (LOp.lenM rfl rfl (by kernel_rfl)) ?_
              refine LOps.gd rfl rfl rfl (gd g15 rfl) rfl (LOp.bin rfl rfl rfl rfl) ?_
              refine LOps.st rfl rfl rfl (LOp.pickT rfl (gdl g15 rfl) rfl) ?_
              refine LOps.st rfl rfl rfl (LOp.assign rfl rfl) ?_
              refine LOps.nil ?_
              refine thn_n ?_
              refine LW.ret ?_
              obtain rfl := Option.some.inj hr
              refine finP_ret (.one (.tmp rfl)) ?_
              exact Conv.p
            · -- g15 is False
              have hr := ite_f g15 hr
              refine LOps.sk rfl rfl rfl (gd g15 rfl) rfl rfl ?_
              refine LOps.sk rfl rfl rfl (gd g15 rfl) rfl rfl ?_
              refine LOps.sk rfl rfl rfl (gd g15 rfl) rfl rfl ?_
              refine LOps.sk rfl rfl rfl (gd g15 rfl) rfl rfl ?_
              refine LOps.sk rfl rfl rfl (gd g15 rfl) rfl rfl ?_
              refine LOps.sk rfl rfl rfl (gd g15 rfl) rfl rfl ?_
              refine LOps.sk rfl rfl rfl (gd g15 rfl) rfl rfl ?_
              refine LOps.st rfl rfl rfl (LOp.pickF rfl (gdl g15 rfl) rfl) ?_
              refine LOps.st rfl rfl rfl (LOp.assign rfl rfl) ?_
              refine LOps.nil ?_
              refine thn_n ?_
              refine LW.ret ?_
              obtain rfl := Option.some.inj hr
              refine finP_ret (.one (.tmp rfl)) ?_
              exact Conv.p
theorem nodup_len {α : Type} [DecidableEq α] : ∀ {l L : List α}, l.Nodup → (∀ x ∈ l, x ∈ L) → l.length ≤ L.length
  | [], _, _, _ => Nat.zero_le _
  | x :: r, L, h, hs => by
    rw [List.nodup_cons] at h
    have hx := hs x (.head _)
    have h1 := nodup_len (L := L.erase x) h.2 fun y hy => (List.mem_erase_of_ne (show y ≠ x from fun e => h.1 (by rw [← e]; exact hy))).2 (hs y (.tail _ hy))
    have h2 := List.length_erase_of_mem hx
    have h3 := List.length_pos_of_mem hx
    simp only [List.length_cons]; omega
theorem nodup_of_names {B : List Bk} (h : ValidB B) : B.Nodup := by
  have h1 := valid_names h
  rw [List.nodup_cons] at h1
  exact List.Pairwise.imp (fun hne e => hne (by rw [e])) (List.pairwise_map.1 h1.2)
theorem slotQ_iff {B : List Bk} (h : ValidB B) {id : ID} {s : Int} : slotQ B id = some s ↔ (id = (0, 0) ∧ s = 0) ∨ ∃ b ∈ B, nm b = id ∧ b.Slot = s := by
  constructor
  · intro h1
    rcases slotQ_mem h1 with h2 | ⟨-, h2⟩
    · exact .inl h2
    · exact .inr h2
  · rintro (⟨h1, h2⟩ | ⟨b, h1, h2, h3⟩)
    · subst h1 h2; unfold slotQ; rw [if_pos rfl]
    · rw [← h2, ← h3]; exact valid_slot h h1
theorem slotQ_sub {B C : List Bk} (h : ValidB B) (h2 : ValidB C) (hs : ∀ b ∈ B, b ∈ C) {id : ID} {s : Int} (hq : slotQ B id = some s) : slotQ C id = some s := by
  rw [slotQ_iff h] at hq
  rw [slotQ_iff h2]
  rcases hq with hq | ⟨b, h1, h3⟩
  · exact .inl hq
  · exact .inr ⟨b, hs b h1, h3⟩
/-- What is counted at last: what was, and what comes, of a slot not too late, with a parent counted, of a lesser slot. -/
inductive CB (base o : List Bk) (upto : Int) : Bk → Prop
  | base {b : Bk} : b ∈ base → CB base o upto b
  | root {b : Bk} : b ∈ o → b.Slot ≤ upto → b.Parent = (0, 0) → 0 < b.Slot → CB base o upto b
  | step {b p : Bk} : b ∈ o → b.Slot ≤ upto → CB base o upto p → nm p = b.Parent → p.Slot < b.Slot → CB base o upto b
theorem CB.mono {base base' o o' : List Bk} {upto upto' : Int} (h1 : ∀ b ∈ base, CB base' o' upto' b) (h2 : ∀ b ∈ o, b ∈ o') (h3 : upto ≤ upto') {b : Bk} (h : CB base o upto b) : CB base' o' upto' b := by
  induction h with
  | base h => exact h1 _ h
  | root a1 a2 a3 a4 => exact .root (h2 _ a1) (Int.le_trans a2 h3) a3 a4
  | step a1 a2 _ a4 a5 ih => exact .step (h2 _ a1) (Int.le_trans a2 h3) ih a4 a5
structure Rm (U : Vw) : Prop where
  inj : ∀ a ∈ U.B, ∀ b ∈ U.B, nm a = nm b → a = b
  B : U.B.length < 60
  V : U.V.length < 240
def Sb (w U : Vw) : Prop := (∀ b ∈ w.B, b ∈ U.B) ∧ ∀ v ∈ w.V, v ∈ U.V
theorem took_sb {c : Cf} {w i U : Vw} {upto : Int} {r : Vw × Vw × Bool} (h : Took c w i upto r) (h1 : Sb w U) (h2 : Sb i U) : Sb r.1 U ∧ Sb r.2.1 U := by
  obtain ⟨t, ht, ht2⟩ := h.preB
  obtain ⟨u, hu, hu2⟩ := h.preV
  refine ⟨⟨fun b hb => ?_, fun v hv => ?_⟩, fun b hb => h2.1 b (List.mem_filter.1 (h.subB.subset hb)).1, fun b hb => h2.2 b (List.mem_filter.1 (h.subV.subset hb)).1⟩
  · rw [ht] at hb
    exact (List.mem_append.1 hb).elim (h1.1 b) fun hb => h2.1 b (List.mem_filter.1 (ht2 b hb).1).1
  · rw [hu] at hv
    exact (List.mem_append.1 hv).elim (h1.2 v) fun hb => h2.2 v (List.mem_filter.1 (hu2 v hb).1).1
theorem may_room {c : Cf} {w U : Vw} (h : MayW c w) (hr : Rm U) (hs : Sb w U) : w.B.length < 60 ∧ w.V.length < 240 :=
  ⟨Nat.lt_of_le_of_lt (nodup_len (nodup_of_names h.valid) hs.1) hr.B, Nat.lt_of_le_of_lt (nodup_len h.nodup hs.2) hr.V⟩
/-- A block that the view that is counted knows the name of is in it. -/
theorem known_in {c : Cf} {x U : Vw} (_hx : MayW c x) (hr : Rm U) (hs : Sb x U) {b : Bk} (hb : b ∈ U.B) (h0 : nm b ≠ (0, 0)) {s : Int} (hq : slotQ x.B (nm b) = some s) : b ∈ x.B := by
  rcases slotQ_mem hq with ⟨e, -⟩ | ⟨-, b', h1, h2, -⟩
  · exact absurd e h0
  · rw [← hr.inj b' (hs.1 _ h1) b hb h2]; exact h1
/-- What comes, of a slot not too late, with a parent there of a lesser slot, is counted. -/
theorem took_in {c : Cf} {w i U : Vw} {upto : Int} {r : Vw × Vw × Bool} (h : Took c w i upto r) (hr : Rm U) (h1 : Sb w U) (h2 : Sb i U) {b : Bk} {s : Int} (hb : b ∈ (onlyP c i).B) (hu : b.Slot ≤ upto) (hq : slotQ r.1.B b.Parent = some s) (hs : s < b.Slot) : b ∈ r.1.B := by
  have hsb := (took_sb h h1 h2).1
  have hroom := may_room h.may hr hsb
  have hb2 := List.mem_filter.1 hb
  have hm := of_decide_eq_true hb2.2
  rcases h.allB b hb with hl | hg
  · obtain ⟨-, hw | hw⟩ := h.endB b hl
    · unfold waitB at hw
      rw [hq] at hw
      have := of_decide_eq_true hw
      omega
    · omega
  · unfold goneB at hg
    rw [Bool.or_eq_true, hq] at hg
    rcases hg with hg | hg
    · obtain ⟨q, hq2⟩ := Option.isSome_iff_exists.1 hg
      exact known_in h.may hr hsb (h2.1 b hb2.1) hm.2.2 hq2
    · have := of_decide_eq_true hg
      omega
theorem took_B {c : Cf} {w i U : Vw} {upto : Int} {r : Vw × Vw × Bool} (h : Took c w i upto r) (hr : Rm U) (h1 : Sb w U) (h2 : Sb i U) (b : Bk) : b ∈ r.1.B ↔ CB w.B (onlyP c i).B upto b := by
  constructor
  · obtain ⟨t, ht, ht2⟩ := h.preB
    have key : ∀ k, k ≤ r.1.B.length → ∀ b ∈ r.1.B.take k, CB w.B (onlyP c i).B upto b := by
      intro k
      induction k with
      | zero => intro _ b hb; simp at hb
      | succ k ih =>
        intro hk b hb
        obtain ⟨y, hy, -⟩ := get_of (l := r.1.B) (n := k) (by omega)
        have hv := valid_take h.may.valid (k + 1)
        rw [take_succ_getG hy] at hb hv
        rcases List.mem_append.1 hb with hb | hb
        · exact ih (by omega) b hb
        · rw [List.mem_singleton] at hb
          subst hb
          obtain ⟨-, ⟨s, hs1, hs2⟩, -⟩ := valid_snoc.1 hv
          have hmem := List.mem_of_getElem? hy
          rw [ht] at hmem
          rcases List.mem_append.1 hmem with hw | hw
          · exact .base hw
          · rcases slotQ_mem hs1 with ⟨e1, e2⟩ | ⟨-, p, hp1, hp2, hp3⟩
            · exact .root (ht2 b hw).1 (ht2 b hw).2 e1 (by omega)
            · exact .step (ht2 b hw).1 (ht2 b hw).2 (ih (by omega) p hp1) hp2 (by omega)
    intro hb
    exact key r.1.B.length (Nat.le_refl _) b (by rw [List.take_length]; exact hb)
  · intro hc
    induction hc with
    | base hb =>
      obtain ⟨t, ht, -⟩ := h.preB
      rw [ht]; exact List.mem_append_left _ hb
    | root a1 a2 a3 a4 => exact took_in h hr h1 h2 a1 a2 ((slotQ_iff h.may.valid).2 (.inl ⟨a3, rfl⟩)) a4
    | step a1 a2 _ a4 a5 ih => exact took_in h hr h1 h2 a1 a2 ((slotQ_iff h.may.valid).2 (.inr ⟨_, ih, a4, rfl⟩)) a5
theorem took_V {c : Cf} {w i U : Vw} {upto : Int} {r : Vw × Vw × Bool} (h : Took c w i upto r) (hr : Rm U) (h1 : Sb w U) (h2 : Sb i U) (v : Vt) : v ∈ r.1.V ↔ v ∈ w.V ∨ (v ∈ (onlyP c i).V ∧ v.Slot ≤ upto ∧ forB r.1.B v) := by
  obtain ⟨u, hu, hu2⟩ := h.preV
  constructor
  · intro hv
    have hf := h.may.forB v hv
    rw [hu] at hv
    rcases List.mem_append.1 hv with hv | hv
    · exact .inl hv
    · exact .inr ⟨(hu2 v hv).1, (hu2 v hv).2, hf⟩
  · rintro (hv | ⟨hv, hs, s, hq, hle⟩)
    · rw [hu]; exact List.mem_append_left _ hv
    · have hroom := may_room h.may hr (took_sb h h1 h2).1
      rcases h.allV v hv with hl | hg
      · obtain ⟨-, hw | hw⟩ := h.endV v hl
        · unfold waitV at hw
          rw [hq] at hw
          have := of_decide_eq_true hw
          omega
        · omega
      · unfold goneV at hg
        rw [Bool.or_eq_true, hq] at hg
        rcases hg with hg | hg
        · exact of_decide_eq_true hg
        · have := of_decide_eq_true hg
          omega
open Classical in
theorem scan_loop {S R : Type} {step : S → Option (S ⊕ (S ⊕ R))} {n : Nat} (mk : Nat → S) (r0 : R) (P : Nat → Prop) (hs : ∀ j, j < n → step (mk j) = some (.inr (.inr r0)) ∨ (step (mk j) = some (.inl (mk (j + 1))) ∧ P j))
    (he : step (mk n) = some (.inr (.inl (mk n)))) (hn : n < 4000000000000000000) : iter step big (mk 0) = some (.inr r0) ∨ (iter step big (mk 0) = some (.inl (mk n)) ∧ ∀ j, j < n → P j) := by
  have e := search_loop mk (fun j => if step (mk j) = some (.inl (mk (j + 1))) ∧ P j then none else some r0) (fun j hj => by
    by_cases h : step (mk j) = some (.inl (mk (j + 1))) ∧ P j
    · simp only [if_pos h]; exact h.1
    · simp only [if_neg h]; exact (hs j hj).resolve_right h) he hn
  rw [e]
  cases h : firstF (fun j => if step (mk j) = some (.inl (mk (j + 1))) ∧ P j then none else some r0) 0 n with
  | none =>
    right
    refine ⟨rfl, fun j hj => ?_⟩
    have := firstF_none.1 h j (Nat.zero_le _) (by omega)
    split at this
    · rename_i h2; exact h2.2
    · cases this
  | some r =>
    left
    obtain ⟨j, -, -, h2, -⟩ := firstF_some h
    split at h2
    · cases h2
    · cases h2; rfl
theorem inj_of {l : List Bk} (h : ∀ i, i < l.length → ∀ j, j < i → ∀ y z, l[i]? = some y → l[j]? = some z → nm y ≠ nm z) : ∀ a ∈ l, ∀ b ∈ l, nm a = nm b → a = b := by
  intro a ha b hb e
  obtain ⟨i, hi⟩ := List.getElem?_of_mem ha
  obtain ⟨j, hj⟩ := List.getElem?_of_mem hb
  rcases Nat.lt_trichotomy i j with h1 | h1 | h1
  · exact absurd e.symm (h j (List.getElem?_eq_some_iff.1 hj).1 i h1 b a hj hi)
  · subst h1; rw [hi] at hj; exact Option.some.inj hj
  · exact absurd e (h i (List.getElem?_eq_some_iff.1 hi).1 j h1 a b hi hj)
def sep (l : List Bk) (i : Nat) : Prop := ∀ j, j < i → ∀ y z, l[i]? = some y → l[j]? = some z → nm y ≠ nm z
theorem F35_clash {u : Vw} (hl : u.B.length ≤ 1000) : iter (F35_s3 u) big (F35_L3.mk 0) = some (.inr true) ∨ (iter (F35_s3 u) big (F35_L3.mk 0) = some (.inl (F35_L3.mk (u.B.length : Int))) ∧ ∀ i, i < u.B.length → sep u.B i) := by
  refine scan_loop (n := u.B.length) (fun k => F35_L3.mk (k : Int)) true (sep u.B) (fun i hi => ?_) ?_ (by omega)
  · have h2 := scan_loop (step := F35_s4 u (F35_L3.mk (i : Int))) (n := i) (fun k => F35_L4.mk (k : Int)) (.inr (.inr true)) (fun j => ∀ y z, u.B[i]? = some y → u.B[j]? = some z → nm y ≠ nm z) (fun j hj => by
      obtain ⟨y, hy, -⟩ := get_of hi
      obtain ⟨z, hz, -⟩ := get_of (l := u.B) (n := j) (by omega)
      unfold F35_s4
      simp only
      rw [decide_eq_true (show (j : Int) < (i : Int) by omega), ct, ix_nat hy, ob, ix_nat hz, ob, eqID, wrap_succ (n := j) (by omega)]
      by_cases h : nm y = nm z
      · rw [decide_eq_true h, ct]; exact .inl rfl
      · rw [decide_eq_false h, cf]
        refine .inr ⟨rfl, fun y' z' h1 h2 => ?_⟩
        rw [hy] at h1; rw [hz] at h2; cases h1; cases h2; exact h) (by
      unfold F35_s4
      simp only
      rw [decide_eq_false (show ¬ (i : Int) < (i : Int) by omega), cf]) (by omega)
    unfold F35_s3
    simp only
    rw [decide_eq_true (show (i : Int) < (u.B.length : Int) by omega), ct, wrap_succ (n := i) (by omega)]
    rcases h2 with e | ⟨e, h2⟩
    · have e' : iter (F35_s4 u (F35_L3.mk (i : Int))) big (F35_L4.mk 0) = _ := e
      rw [e', ob, sr]; exact .inl rfl
    · have e' : iter (F35_s4 u (F35_L3.mk (i : Int))) big (F35_L4.mk 0) = _ := e
      rw [e', ob, sl]; exact .inr ⟨rfl, h2⟩
  · unfold F35_s3
    simp only
    rw [decide_eq_false (show ¬ (u.B.length : Int) < (u.B.length : Int) by omega), cf]
theorem only_mem {c : Cf} {w : Vw} : (∀ b, b ∈ (onlyP c w).B ↔ b ∈ w.B ∧ mayB c b = true) ∧ ∀ v, v ∈ (onlyP c w).V ↔ v ∈ w.V ∧ mayV c v = true := ⟨fun _ => List.mem_filter, fun _ => List.mem_filter⟩
theorem forB_sub {B C : List Bk} (h : ValidB B) (h2 : ValidB C) (hs : ∀ b ∈ B, b ∈ C) {v : Vt} (hf : forB B v) : forB C v := by
  obtain ⟨s, h3, h4⟩ := hf
  exact ⟨s, slotQ_sub h h2 hs h3, h4⟩
theorem join_mem {a b : Vw} : (∀ x, x ∈ (joinP a b).B ↔ x ∈ a.B ∨ x ∈ b.B) ∧ ∀ x, x ∈ (joinP a b).V ↔ x ∈ a.V ∨ x ∈ b.V := ⟨fun x => withP_mem x b.B a.B, fun x => withP_mem x b.V a.V⟩
theorem join_sb (a b : Vw) : Sb a (joinP a b) ∧ Sb b (joinP a b) :=
  ⟨⟨fun x h => (join_mem.1 x).2 (.inl h), fun x h => (join_mem.2 x).2 (.inl h)⟩, fun x h => (join_mem.1 x).2 (.inr h), fun x h => (join_mem.2 x).2 (.inr h)⟩
/-- In the same slot, or later, no less is counted. -/
theorem take_more {c : Cf} {w i i' U : Vw} {upto upto' : Int} {r r' : Vw × Vw × Bool} (h : Took c w i upto r) (h' : Took c w i' upto' r') (hr : Rm U) (h1 : Sb w U) (h2 : Sb i U) (h3 : Sb i' U) (hi : Sb i i') (hu : upto ≤ upto') : Sb r.1 r'.1 := by
  have hB : ∀ b ∈ r.1.B, b ∈ r'.1.B := fun b hb => (took_B h' hr h1 h3 b).2 (((took_B h hr h1 h2 b).1 hb).mono (fun _ hb => .base hb) (fun b hb => (only_mem.1 b).2 ⟨hi.1 b ((only_mem.1 b).1 hb).1, ((only_mem.1 b).1 hb).2⟩) hu)
  refine ⟨hB, fun v hv => (took_V h' hr h1 h3 v).2 ?_⟩
  rcases (took_V h hr h1 h2 v).1 hv with hv | ⟨a1, a2, a3⟩
  · exact .inl hv
  · exact .inr ⟨(only_mem.2 v).2 ⟨hi.2 v ((only_mem.2 v).1 a1).1, ((only_mem.2 v).1 a1).2⟩, by omega, forB_sub h.may.valid h'.may.valid hB a3⟩
open Classical in
theorem viEarly (c : Cf) (w i : Vw) (slot : Int) : F35 c w i slot = some true := by
  unfold F35
  rw [F83_eq, ob, F84_eq, ob, F84_eq, ob, Bool.not_true, cf]
  by_cases hf : (w.B.length : Int) ≤ 25 ∧ (w.V.length : Int) ≤ 25
  · rw [decide_eq_true hf, Bool.not_true, cf]
    by_cases hi : (i.B.length : Int) ≤ 25 ∧ (i.V.length : Int) ≤ 25
    · rw [decide_eq_true hi, Bool.not_true, cf]
      by_cases h0 : (c.W.length : Int) > 40
      · rw [decide_eq_true h0, ct, ob, ct]
      · rw [decide_eq_false h0, cf, F89_eq (by omega) (by omega), ob]
        by_cases hm : MayW c w
        · rw [decide_eq_true hm, Bool.not_true, cf]
          by_cases c1 : slot < 0
          · rw [decide_eq_true c1, ct, ob, ct]
          · rw [decide_eq_false c1, cf, ob]
            by_cases c2 : slot > 1000000
            · rw [decide_eq_true c2, ct]
            · rw [decide_eq_false c2, cf, F90_eq (by omega) (by omega) (by omega) (by omega), ob, show IntKind.i64.wrap (slot + 1) = slot + 1 from wrapI (by omega) (by omega), F90_eq (by omega) (by omega) (by omega) (by omega), ob]
              have h6 := took hm i slot
              have h7 := took hm i (slot + 1)
              generalize takeP c w i slot = r at h6 ⊢
              generalize takeP c w i (slot + 1) = q at h7 ⊢
              have g6 := took_len h6
              have g7 := took_len h7
              have m1 := h6.may.lenB
              have m2 := h6.may.lenV
              have m3 := h7.may.lenB
              have m4 := h7.may.lenV
              obtain ⟨t, ht, ht2⟩ := h6.preB
              obtain ⟨u, hu, hu2⟩ := h6.preV
              have tl : r.1.B.length = w.B.length + t.length := by rw [ht, List.length_append]
              have ul : r.1.V.length = w.V.length + u.length := by rw [hu, List.length_append]
              have e1 := search_loop (step := F35_s1 slot r) (n := t.length) (fun k => F35_L1.mk ((w.B.length + k : Nat) : Int)) (fun _ => (none : Option Bool)) (fun j hj => by
                obtain ⟨y, hy, hmem⟩ := get_of hj
                have hy2 : r.1.B[w.B.length + j]? = some y := by rw [ht, List.getElem?_append_right (by omega), Nat.add_sub_cancel_left]; exact hy
                unfold F35_s1
                simp only
                rw [decide_eq_true (show ((w.B.length + j : Nat) : Int) < (r.1.B.length : Int) by omega), ct, ix_nat hy2, ob, decide_eq_false (show ¬ y.Slot > slot by have := (ht2 y hmem).2; omega), cf, wrap_succ (n := w.B.length + j) (by omega)]
                rfl) (by
                unfold F35_s1
                simp only
                rw [decide_eq_false (show ¬ ((w.B.length + t.length : Nat) : Int) < (r.1.B.length : Int) by omega), cf]) (by omega)
              have e1' : iter (F35_s1 slot r) big (F35_L1.mk (w.B.length : Int)) = some (.inl (F35_L1.mk ((w.B.length + t.length : Nat) : Int))) := by rw [firstF_none.2 (fun _ _ _ => rfl)] at e1; exact e1
              have e2 := search_loop (step := F35_s2 slot r) (n := u.length) (fun k => F35_L2.mk ((w.V.length + k : Nat) : Int)) (fun _ => (none : Option Bool)) (fun j hj => by
                obtain ⟨y, hy, hmem⟩ := get_of hj
                have hy2 : r.1.V[w.V.length + j]? = some y := by rw [hu, List.getElem?_append_right (by omega), Nat.add_sub_cancel_left]; exact hy
                unfold F35_s2
                simp only
                rw [decide_eq_true (show ((w.V.length + j : Nat) : Int) < (r.1.V.length : Int) by omega), ct, ix_nat hy2, ob, decide_eq_false (show ¬ y.Slot > slot by have := (hu2 y hmem).2; omega), cf, wrap_succ (n := w.V.length + j) (by omega)]
                rfl) (by
                unfold F35_s2
                simp only
                rw [decide_eq_false (show ¬ ((w.V.length + u.length : Nat) : Int) < (r.1.V.length : Int) by omega), cf]) (by omega)
              have e2' : iter (F35_s2 slot r) big (F35_L2.mk (w.V.length : Int)) = some (.inl (F35_L2.mk ((w.V.length + u.length : Nat) : Int))) := by rw [firstF_none.2 (fun _ _ _ => rfl)] at e2; exact e2
              obtain ⟨l1, l2, l3, l4⟩ := join_len w i
              rw [e1', ob, sl, e2', ob, sl, F91_eq (by omega) (by omega), ob]
              rcases F35_clash (u := joinP w i) (by omega) with e | ⟨e, hc⟩
              · rw [e, ob, sr]
              · have hr : Rm (joinP w i) := ⟨inj_of hc, by omega, by omega⟩
                obtain ⟨hw, hiU⟩ := join_sb w i
                have hs := take_more h6 h7 hr hw hiU hiU ⟨fun _ h => h, fun _ h => h⟩ (by omega)
                rw [e, ob, sl, F91_eq (by omega) (by omega), ob, show joinP q.1 r.1 = q.1 by unfold joinP; rw [withP_sub hs.1, withP_sub hs.2]]
                simp
        · rw [decide_eq_false hm, Bool.not_false, ct, ob, ct]
    · rw [decide_eq_false hi, Bool.not_false, ct, ob, ct]
  · rw [decide_eq_false hf, Bool.not_false, ct, ob, ct]
end Go.Mg
