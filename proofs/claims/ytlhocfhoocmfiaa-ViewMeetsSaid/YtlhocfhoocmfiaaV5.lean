/- Laws of views. Laws of views. Laws of views. Plain laws of views: what is counted, as a set. Plain laws of views: order, and all. Laws of views: ViewOrder, ViewMeets, ViewEarly. Conditions: none. -/
import Derived.Test.YtlhocfhoocmfiaaV2
import Derived.Test.YtlhocfhoocmfiaaV4
namespace Go.Mg
open Go.Proofs
structure F32_L1 where
  i : Int
structure F32_L2 where
  k : Int
open Go.Proofs
structure F33_L1 where
  i : Int
structure F33_L2 where
  k : Int
structure F33_L3 where
  i : Int
def F33_s2 (v7 : Vw) (x1 : F33_L1) (x2 : F33_L2) : Option (F33_L2 ⊕ (F33_L2 ⊕ (F33_L1 ⊕ (F33_L1 ⊕ Bool)))) :=
  bif decide (x2.k < x1.i) then
    (ix v7.B x1.i).bind fun y2 =>
    (ix v7.B x2.k).bind fun y3 =>
    bif ((((nm y2).1) == ((nm y3).1)) && ((((nm y2).2) == ((nm y3).2)) && true)) then
      some (.inr (.inr (.inr (.inr true))))
    else
      some (.inl (F33_L2.mk (IntKind.i64.wrap (x2.k + 1))))
  else
    some (.inr (.inl (F33_L2.mk x2.k)))
def F33_s1 (slot : Int) (v7 : Vw) (x1 : F33_L1) : Option (F33_L1 ⊕ (F33_L1 ⊕ Bool)) :=
  bif decide (x1.i < (v7.B.length : Int)) then
    (ix v7.B x1.i).bind fun y1 =>
    bif decide (y1.Slot > slot) then
      some (.inr (.inr true))
    else
      (iter (F33_s2 v7 x1) big (F33_L2.mk 0)).bind fun b_v9 => Sum.elim (fun _ =>
        some (.inl (F33_L1.mk (IntKind.i64.wrap (x1.i + 1))))) some b_v9
  else
    some (.inr (.inl (F33_L1.mk x1.i)))
def F33_s3 (slot : Int) (v7 : Vw) (x3 : F33_L3) : Option (F33_L3 ⊕ (F33_L3 ⊕ Bool)) :=
  bif decide (x3.i < (v7.V.length : Int)) then
    (ix v7.V x3.i).bind fun y4 =>
    bif decide (y4.Slot > slot) then
      some (.inr (.inr true))
    else
      some (.inl (F33_L3.mk (IntKind.i64.wrap (x3.i + 1))))
  else
    some (.inr (.inl (F33_L3.mk x3.i)))
def F33 (c : Cf) (a : Vw) (b : Vw) (slot : Int) : Option Bool :=
  (F83 ).bind fun v1 =>
  (F84 a 25).bind fun v2 =>
  (F84 b 25).bind fun v3 =>
  (
    bif !v1 then
      some true
    else
      bif !v2 then
        some true
      else
        bif !v3 then
          some true
        else
          bif decide ((c.W.length : Int) > 40) then
            some true
          else
            (F89 c a).bind fun v5 =>
            bif !v5 then
              some true
            else
              (F89 c b).bind fun v6 =>
              some (!v6)
  ).bind fun v4 =>
  bif v4 then
    some v1
  else
    (F91 a b).bind fun v7 =>
    (iter (F33_s1 slot v7) big (F33_L1.mk 0)).bind fun b_v8 => Sum.elim (fun _ =>
      (iter (F33_s3 slot v7) big (F33_L3.mk 0)).bind fun b_v10 => Sum.elim (fun _ =>
        (F90 c a b slot).bind fun v11 =>
        (F90 c b a slot).bind fun v12 =>
        (F92 v11.1 v12.1).bind fun v13 =>
        (F92 v11.1 v7).bind fun v14 =>
        bif !v11.2.2 then
          bif !v12.2.2 then
            bif v13 then
              bif v14 then
                some ((IntKind.i64.wrap ((IntKind.i64.wrap ((IntKind.i64.wrap ((v11.2.1.B.length : Int) + (v11.2.1.V.length : Int))) + (v12.2.1.B.length : Int))) + (v12.2.1.V.length : Int))) == 0)
              else
                some false
            else
              some false
          else
            some false
        else
          some false) some b_v10) some b_v8
set_option maxRecDepth 100000 in
theorem c33 {c : Cf} {a : Vw} {b : Vw} {slot : Int} {r_ : Bool} (hr : F33 c a b slot = some r_) : LPure Try.prog 33 [cfP c, vwP a, vwP b, .int .i64 slot] [.bool r_] := by
  refine LPure.start Try.func33 rfl rfl rfl rfl ?_
  unfold F33 at hr
  refine LW.seq ?_
  refine LW.region ?_
  refine LOps.st rfl rfl rfl (LOp.box rfl rfl rfl rfl rfl) ?_
  refine LOps.st rfl rfl rfl (LOp.box rfl rfl rfl rfl rfl) ?_
  refine LOps.st rfl rfl rfl (LOp.box rfl rfl rfl rfl rfl) ?_
  refine LOps.st rfl rfl rfl (LOp.assign rfl rfl) ?_
  refine LOps.nil ?_
  refine thn_n ?_
  refine LW.seq ?_
  refine LW.region ?_
  obtain ⟨v1, h_v1, hr⟩ := bind_get hr
  refine LOps.st rfl rfl rfl (LOp.call rfl rfl rfl (by kernel_rfl) (LC.pure (c83 h_v1) .nil)) ?_
  refine LOps.st rfl rfl rfl (LOp.assign rfl rfl) ?_
  refine LOps.nil ?_
  refine thn_n ?_
  refine LW.seq ?_
  refine LW.region ?_
  refine LOps.st rfl rfl rfl (LOp.load rfl rfl rfl vt75 rfl rfl) ?_
  obtain ⟨v2, h_v2, hr⟩ := bind_get hr
  refine LOps.st rfl rfl rfl (LOp.call rfl rfl rfl (by kernel_rfl) (LC.pure (c84 h_v2) (.cons Conv.p (.cons Conv.p .nil)))) ?_
  refine LOps.st rfl rfl rfl (LOp.assign rfl rfl) ?_
  refine LOps.nil ?_
  refine thn_n ?_
  refine LW.seq ?_
  refine LW.region ?_
  refine LOps.st rfl rfl rfl (LOp.load rfl rfl rfl vt75 rfl rfl) ?_
  obtain ⟨v3, h_v3, hr⟩ := bind_get hr
  refine LOps.st rfl rfl rfl (LOp.call rfl rfl rfl (by kernel_rfl) (LC.pure (c84 h_v3) (.cons Conv.p (.cons Conv.p .nil)))) ?_
  refine LOps.st rfl rfl rfl (LOp.assign rfl rfl) ?_
  refine LOps.nil ?_
  refine thn_n ?_
  refine LW.seq ?_
  obtain ⟨v4, hb_v4, ho_v4⟩ := bind_get hr
  clear hr
  refine LW.cut (E := [(3, .p (.int .i64 slot)), (4, .ptr 0 0), (5, .ptr 1 0), (6, .ptr 2 0), (8, .p (.bool false)), (9, .p (.bool v1)), (56, .p (.bool v4))]) (O := [.box [.p (.slice 1 (c.W.map i64P)), .p (.int .u64 c.Seed), .p (.int .i64 c.Epoch), .p (.int .i64 c.Num), .p (.int .i64 c.Den)], .box [.p (.slice 5 (a.B.map blkP)), .p (.slice 4 (a.V.map vtP))], .box [.p (.slice 5 (b.B.map blkP)), .p (.slice 4 (b.V.map vtP))]]) ?_ ?_
  · have hr := hb_v4
    refine LW.region ?_
    refine LOps.st rfl rfl rfl (LOp.move rfl rfl) ?_
    refine LOps.st rfl rfl rfl (LOp.not rfl rfl) ?_
    refine LOps.st rfl rfl rfl (LOp.move rfl rfl) ?_
    refine LOps.cases 31 rfl (fun (g1 : (!v1) = true) => ?_) (fun (g1 : (!v1) = false) => ?_)
    · -- g1 is True
      have hr := ite_t g1 hr
      refine LOps.sk rfl rfl rfl (gd g1 rfl) rfl rfl ?_
      refine LOps.sk rfl rfl rfl (gd g1 rfl) rfl rfl ?_
      refine LOps.st rfl rfl rfl (LOp.pickT rfl (gdl g1 rfl) rfl) ?_
      refine LOps.st rfl rfl rfl (LOp.move rfl rfl) ?_
      refine LOps.sk rfl rfl rfl rfl rfl rfl ?_
      refine LOps.sk rfl rfl rfl rfl rfl rfl ?_
      refine LOps.st rfl rfl rfl (LOp.pickT rfl rfl rfl) ?_
      refine LOps.st rfl rfl rfl (LOp.move rfl rfl) ?_
      refine LOps.sk rfl rfl rfl rfl rfl rfl ?_
      refine LOps.sk rfl rfl rfl rfl rfl rfl ?_
      refine LOps.sk rfl rfl rfl rfl rfl rfl ?_
      refine LOps.sk rfl rfl rfl rfl rfl rfl ?_
      refine LOps.st rfl rfl rfl (LOp.pickT rfl rfl rfl) ?_
      refine LOps.st rfl rfl rfl (LOp.move rfl rfl) ?_
      refine LOps.sk rfl rfl rfl rfl rfl rfl ?_
      refine LOps.sk rfl rfl rfl rfl rfl rfl ?_
      refine LOps.sk rfl rfl rfl rfl rfl rfl ?_
      refine LOps.sk rfl rfl rfl rfl rfl rfl ?_
      refine LOps.st rfl rfl rfl (LOp.pickT rfl rfl rfl) ?_
      refine LOps.st rfl rfl rfl (LOp.move rfl rfl) ?_
      refine LOps.sk rfl rfl rfl rfl rfl rfl ?_
      refine LOps.sk rfl rfl rfl rfl rfl rfl ?_
      refine LOps.sk rfl rfl rfl rfl rfl rfl ?_
      refine LOps.sk rfl rfl rfl rfl rfl rfl ?_
      refine LOps.st rfl rfl rfl (LOp.pickT rfl rfl rfl) ?_
      refine LOps.nil ?_
      refine thn_n ?_
      obtain rfl := Option.some.inj hr
      exact Weak.of 3 ⟨rfl, rfl, rfl, rfl, rfl, rfl, rfl, trivial⟩ rfl rfl rfl rfl
    · -- g1 is False
      have hr := ite_f g1 hr
      refine LOps.gd rfl rfl rfl (gd g1 rfl) rfl (LOp.move rfl rfl) ?_
      refine LOps.gd rfl rfl rfl (gd g1 rfl) rfl (LOp.not rfl rfl) ?_
      refine LOps.st rfl rfl rfl (LOp.pickF rfl (gdl g1 rfl) rfl) ?_
      refine LOps.st rfl rfl rfl (LOp.move rfl rfl) ?_
      refine LOps.cases 35 rfl (fun (g2 : (!v2) = true) => ?_) (fun (g2 : (!v2) = false) => ?_)
      · -- g2 is True
        have hr := ite_t g2 hr
        refine LOps.sk rfl rfl rfl (gd g2 rfl) rfl rfl ?_
        refine LOps.sk rfl rfl rfl (gd g2 rfl) rfl rfl ?_
        refine LOps.st rfl rfl rfl (LOp.pickT rfl (gdl g2 rfl) rfl) ?_
        refine LOps.st rfl rfl rfl (LOp.move rfl rfl) ?_
        refine LOps.sk rfl rfl rfl rfl rfl rfl ?_
        refine LOps.sk rfl rfl rfl rfl rfl rfl ?_
        refine LOps.sk rfl rfl rfl rfl rfl rfl ?_
        refine LOps.sk rfl rfl rfl rfl rfl rfl ?_
        refine LOps.st rfl rfl rfl (LOp.pickT rfl rfl rfl) ?_
        refine LOps.st rfl rfl rfl (LOp.move rfl rfl) ?_
        refine LOps.sk rfl rfl rfl rfl rfl rfl ?_
        refine LOps.sk rfl rfl rfl rfl rfl rfl ?_
        refine LOps.sk rfl rfl rfl rfl rfl rfl ?_
        refine LOps.sk rfl rfl rfl rfl rfl rfl ?_
        refine LOps.st rfl rfl rfl (LOp.pickT rfl rfl rfl) ?_
        refine LOps.st rfl rfl rfl (LOp.move rfl rfl) ?_
        refine LOps.sk rfl rfl rfl rfl rfl rfl ?_
        refine LOps.sk rfl rfl rfl rfl rfl rfl ?_
        refine LOps.sk rfl rfl rfl rfl rfl rfl ?_
        refine LOps.sk rfl rfl rfl rfl rfl rfl ?_
        refine LOps.st rfl rfl rfl (LOp.pickT rfl rfl rfl) ?_
        refine LOps.nil ?_
        refine thn_n ?_
        obtain rfl := Option.some.inj hr
        exact Weak.of 3 ⟨rfl, rfl, rfl, rfl, rfl, rfl, rfl, trivial⟩ rfl rfl rfl rfl
      · -- g2 is False
        have hr := ite_f g2 hr
        refine LOps.gd rfl rfl rfl (gd g2 rfl) rfl (LOp.move rfl rfl) ?_
        refine LOps.gd rfl rfl rfl (gd g2 rfl) rfl (LOp.not rfl rfl) ?_
        refine LOps.st rfl rfl rfl (LOp.pickF rfl (gdl g2 rfl) rfl) ?_
        refine LOps.st rfl rfl rfl (LOp.move rfl rfl) ?_
        refine LOps.cases 39 rfl (fun (g3 : (!v3) = true) => ?_) (fun (g3 : (!v3) = false) => ?_)
        · -- g3 is True
          have hr := ite_t g3 hr
          refine LOps.sk rfl rfl rfl (gd g3 rfl) rfl rfl ?_
          refine LOps.sk rfl rfl rfl (gd g3 rfl) rfl rfl ?_
          refine LOps.sk rfl rfl rfl (gd g3 rfl) rfl rfl ?_
          refine LOps.sk rfl rfl rfl (gd g3 rfl) rfl rfl ?_
          refine LOps.st rfl rfl rfl (LOp.pickT rfl (gdl g3 rfl) rfl) ?_
          refine LOps.st rfl rfl rfl (LOp.move rfl rfl) ?_
          refine LOps.sk rfl rfl rfl rfl rfl rfl ?_
          refine LOps.sk rfl rfl rfl rfl rfl rfl ?_
          refine LOps.sk rfl rfl rfl rfl rfl rfl ?_
          refine LOps.sk rfl rfl rfl rfl rfl rfl ?_
          refine LOps.st rfl rfl rfl (LOp.pickT rfl rfl rfl) ?_
          refine LOps.st rfl rfl rfl (LOp.move rfl rfl) ?_
          refine LOps.sk rfl rfl rfl rfl rfl rfl ?_
          refine LOps.sk rfl rfl rfl rfl rfl rfl ?_
          refine LOps.sk rfl rfl rfl rfl rfl rfl ?_
          refine LOps.sk rfl rfl rfl rfl rfl rfl ?_
          refine LOps.st rfl rfl rfl (LOp.pickT rfl rfl rfl) ?_
          refine LOps.nil ?_
          refine thn_n ?_
          obtain rfl := Option.some.inj hr
          exact Weak.of 3 ⟨rfl, rfl, rfl, rfl, rfl, rfl, rfl, trivial⟩ rfl rfl rfl rfl
        · -- g3 is False
          have hr := ite_f g3 hr
          refine LOps.gd rfl rfl rfl (gd g3 rfl) rfl (LOp.fieldAddr rfl rfl ft55_0) ?_
          refine LOps.gd rfl rfl rfl (gd g3 rfl) rfl (LOp.load rfl rfl rfl vt49 rfl rfl) ?_
          refine LOps.gd rfl rfl rfl (gd g3 rfl) rfl (LOp.lenM rfl rfl (by kernel_rfl)) ?_
          refine LOps.gd rfl rfl rfl (gd g3 rfl) rfl (LOp.bin rfl rfl rfl rfl) ?_
          refine LOps.st rfl rfl rfl (LOp.pickF rfl (gdl g3 rfl) rfl) ?_
          refine LOps.st rfl rfl rfl (LOp.move rfl rfl) ?_
          refine LOps.cases 45 rfl (fun (g4 : (decide ((c.W.length : Int) > 40)) = true) => ?_) (fun (g4 : (decide ((c.W.length : Int) > 40)) = false) => ?_)
          · -- g4 is True
            have hr := ite_t g4 hr
            refine LOps.sk rfl rfl rfl (gd g4 rfl) rfl rfl ?_
            refine LOps.sk rfl rfl rfl (gd g4 rfl) rfl rfl ?_
            refine LOps.sk rfl rfl rfl (gd g4 rfl) rfl rfl ?_
            refine LOps.sk rfl rfl rfl (gd g4 rfl) rfl rfl ?_
            refine LOps.st rfl rfl rfl (LOp.pickT rfl (gdl g4 rfl) rfl) ?_
            refine LOps.st rfl rfl rfl (LOp.move rfl rfl) ?_
            refine LOps.sk rfl rfl rfl rfl rfl rfl ?_
            refine LOps.sk rfl rfl rfl rfl rfl rfl ?_
            refine LOps.sk rfl rfl rfl rfl rfl rfl ?_
            refine LOps.sk rfl rfl rfl rfl rfl rfl ?_
            refine LOps.st rfl rfl rfl (LOp.pickT rfl rfl rfl) ?_
            refine LOps.nil ?_
            refine thn_n ?_
            obtain rfl := Option.some.inj hr
            exact Weak.of 3 ⟨rfl, rfl, rfl, rfl, rfl, rfl, rfl, trivial⟩ rfl rfl rfl rfl
          · -- g4 is False
            have hr := ite_f g4 hr
            refine LOps.gd rfl rfl rfl (gd g4 rfl) rfl (LOp.load rfl rfl rfl vt55 rfl rfl) ?_
            refine LOps.gd rfl rfl rfl (gd g4 rfl) rfl (LOp.load rfl rfl rfl vt75 rfl rfl) ?_
            obtain ⟨v5, h_v5, hr⟩ := bind_get hr
            refine LOps.gd rfl rfl rfl (gd g4 rfl) rfl (LOp.call rfl rfl rfl (by kernel_rfl) (LC.pure (c89 h_v5) (.cons Conv.p (.cons Conv.p .nil)))) ?_
            refine LOps.gd rfl rfl rfl (gd g4 rfl) rfl (LOp.not rfl rfl) ?_
            refine LOps.st rfl rfl rfl (LOp.pickF rfl (gdl g4 rfl) rfl) ?_
            refine LOps.st rfl rfl rfl (LOp.move rfl rfl) ?_
            refine LOps.cases 51 rfl (fun (g5 : (!v5) = true) => ?_) (fun (g5 : (!v5) = false) => ?_)
            · -- g5 is True
              have hr := ite_t g5 hr
              refine LOps.sk rfl rfl rfl (gd g5 rfl) rfl rfl ?_
              refine LOps.sk rfl rfl rfl (gd g5 rfl) rfl rfl ?_
              refine LOps.sk rfl rfl rfl (gd g5 rfl) rfl rfl ?_
              refine LOps.sk rfl rfl rfl (gd g5 rfl) rfl rfl ?_
              refine LOps.st rfl rfl rfl (LOp.pickT rfl (gdl g5 rfl) rfl) ?_
              refine LOps.nil ?_
              refine thn_n ?_
              obtain rfl := Option.some.inj hr
              exact Weak.of 3 ⟨rfl, rfl, rfl, rfl, rfl, rfl, rfl, trivial⟩ rfl rfl rfl rfl
            · -- g5 is False
              have hr := ite_f g5 hr
              refine LOps.gd rfl rfl rfl (gd g5 rfl) rfl (LOp.load rfl rfl rfl vt55 rfl rfl) ?_
              refine LOps.gd rfl rfl rfl (gd g5 rfl) rfl (LOp.load rfl rfl rfl vt75 rfl rfl) ?_
              obtain ⟨v6, h_v6, hr⟩ := bind_get hr
              refine LOps.gd rfl rfl rfl (gd g5 rfl) rfl (LOp.call rfl rfl rfl (by kernel_rfl) (LC.pure (c89 h_v6) (.cons Conv.p (.cons Conv.p .nil)))) ?_
              refine LOps.gd rfl rfl rfl (gd g5 rfl) rfl (LOp.not rfl rfl) ?_
              refine LOps.st rfl rfl rfl (LOp.pickF rfl (gdl g5 rfl) rfl) ?_
              refine LOps.nil ?_
              refine thn_n ?_
              obtain rfl := Option.some.inj hr
              exact Weak.of 3 ⟨rfl, rfl, rfl, rfl, rfl, rfl, rfl, trivial⟩ rfl rfl rfl rfl
  · have hr := ho_v4
    clear hb_v4
    refine LW.cond rfl (fun (g6 : v4 = true) => ?_) (fun (g6 : v4 = false) => ?_)
    · -- g6 is True
      have hr := ite_t g6 hr
      refine LW.seq ?_
      refine LW.region ?_
      refine LOps.st rfl rfl rfl (LOp.move rfl rfl) ?_
      refine LOps.st rfl rfl rfl (LOp.assign rfl rfl) ?_
      refine LOps.nil ?_
      refine thn_n ?_
      refine LW.ret ?_
      refine thn_r ?_
      obtain rfl := Option.some.inj hr
      refine finP_ret (.one (.tmp rfl)) ?_
      exact Conv.p
    · -- g6 is False
      have hr := ite_f g6 hr
      refine LW.skip ?_
      refine thn_n ?_
      refine LW.seq ?_
      refine LW.region ?_
      refine LOps.st rfl rfl rfl (LOp.load rfl rfl rfl vt75 rfl rfl) ?_
      refine LOps.st rfl rfl rfl (LOp.load rfl rfl rfl vt75 rfl rfl) ?_
      obtain ⟨v7, h_v7, hr⟩ := bind_get hr
      refine LOps.st rfl rfl rfl (LOp.call rfl rfl rfl (by kernel_rfl) (LC.pure (c91 h_v7) (.cons Conv.p (.cons Conv.p .nil)))) ?_
      refine LOps.st rfl rfl rfl (LOp.alloc rfl zt75 rfl rfl) ?_
      refine LOps.st rfl rfl rfl (LOp.store rfl rfl rfl rfl vt75 rfl rfl rfl rfl) ?_
      refine LOps.nil ?_
      refine thn_n ?_
      refine LW.seq ?_
      refine LW.seq ?_
      refine LW.region ?_
      refine LOps.st rfl rfl rfl (LOp.assign rfl rfl) ?_
      refine LOps.nil ?_
      refine thn_n ?_
      obtain ⟨b_v8, hb_v8, ho_v8⟩ := bind_get hr
      clear hr
      refine LW.tailB (b := b_v8) (E := fun v8 => [(3, .p (.int .i64 slot)), (4, .ptr 0 0), (5, .ptr 1 0), (6, .ptr 2 0), (8, .p (.bool false)), (12, .ptr 3 0)]) (O := fun v8 => [.box [.p (.slice 1 (c.W.map i64P)), .p (.int .u64 c.Seed), .p (.int .i64 c.Epoch), .p (.int .i64 c.Num), .p (.int .i64 c.Den)], .box [.p (.slice 5 (a.B.map blkP)), .p (.slice 4 (a.V.map vtP))], .box [.p (.slice 5 (b.B.map blkP)), .p (.slice 4 (b.V.map vtP))], .box [.p (.slice 5 (v7.B.map blkP)), .p (.slice 4 (v7.V.map vtP))]]) ?_ (fun v8 e_v8 env_v8 H_v8 hw_v8 => ?_)
      · refine LW.block ?_
        refine LW.iterB (E := fun x1 : F33_L1 => [(3, .p (.int .i64 slot)), (4, .ptr 0 0), (5, .ptr 1 0), (6, .ptr 2 0), (8, .p (.bool false)), (12, .ptr 3 0), (13, .p (.int .i64 x1.i))]) (O := fun x1 => [.box [.p (.slice 1 (c.W.map i64P)), .p (.int .u64 c.Seed), .p (.int .i64 c.Epoch), .p (.int .i64 c.Num), .p (.int .i64 c.Den)], .box [.p (.slice 5 (a.B.map blkP)), .p (.slice 4 (a.V.map vtP))], .box [.p (.slice 5 (b.B.map blkP)), .p (.slice 4 (b.V.map vtP))], .box [.p (.slice 5 (v7.B.map blkP)), .p (.slice 4 (v7.V.map vtP))]]) hb_v8 (Weak.of 4 ⟨rfl, rfl, rfl, rfl, rfl, rfl, rfl, trivial⟩ rfl rfl rfl rfl) (fun x1 z_x1 hr hb_x1 => ?_)
        unfold F33_s1 at hr
        refine LW.seq ?_
        refine LW.seq ?_
        refine LW.region ?_
        refine LOps.st rfl rfl rfl (LOp.move rfl rfl) ?_
        refine LOps.st rfl rfl rfl (LOp.fieldAddr rfl rfl ft75_0) ?_
        refine LOps.st rfl rfl rfl (LOp.load rfl rfl rfl vt27 rfl rfl) ?_
        refine LOps.st rfl rfl rfl (LOp.lenM rfl rfl (by kernel_rfl)) ?_
        refine LOps.st rfl rfl rfl (LOp.bin rfl rfl rfl rfl) ?_
        refine LOps.nil ?_
        refine thn_n ?_
        refine LW.cond rfl (fun (g7 : (decide (x1.i < (v7.B.length : Int))) = true) => ?_) (fun (g7 : (decide (x1.i < (v7.B.length : Int))) = false) => ?_)
        · -- g7 is True
          have hr := ite_t g7 hr
          refine LW.skip ?_
          refine thn_n ?_
          refine LW.seq ?_
          refine LW.block ?_
          refine LW.seq ?_
          refine LW.seq ?_
          refine LW.region ?_
          refine LOps.st rfl rfl rfl (LOp.fieldAddr rfl rfl ft75_0) ?_
          refine LOps.st rfl rfl rfl (LOp.load rfl rfl rfl vt27 rfl rfl) ?_
          refine LOps.st rfl rfl rfl (LOp.move rfl rfl) ?_
          obtain ⟨y1, h_y1, hr⟩ := bind_get hr
          refine LOps.st rfl rfl rfl (LOp.indexAddrX rfl rfl rfl st27 h_y1 rfl) ?_
          refine LOps.st rfl rfl rfl (LOp.fieldAddrC rfl rfl ft42_0 rfl) ?_
          refine LOps.st rfl rfl rfl (LOp.loadC rfl rfl rfl vt3 rfl rfl) ?_
          refine LOps.st rfl rfl rfl (LOp.move rfl rfl) ?_
          refine LOps.st rfl rfl rfl (LOp.bin rfl rfl rfl rfl) ?_
          refine LOps.nil ?_
          refine thn_n ?_
          refine LW.cond rfl (fun (g8 : (decide (y1.Slot > slot)) = true) => ?_) (fun (g8 : (decide (y1.Slot > slot)) = false) => ?_)
          · -- g8 is True
            have hr := ite_t g8 hr
            refine LW.seq ?_
            refine LW.region ?_
            refine LOps.st rfl rfl rfl (LOp.assign rfl rfl) ?_
            refine LOps.nil ?_
            refine thn_n ?_
            refine LW.ret ?_
            refine thn_r ?_
            refine inBlk_r ?_
            refine thn_r ?_
            refine thn_r ?_
            refine inBlk_r ?_
            refine thn_r ?_
            refine thn_r ?_
            obtain rfl := Option.some.inj hr
            have hr := congrArg some (hb_x1 _ rfl)
            obtain rfl := Option.some.inj hr
            have hr := sum_r ho_v8
            obtain rfl := Option.some.inj hr
            refine finP_ret (.one (.tmp rfl)) ?_
            exact Conv.p
          · -- g8 is False
            have hr := ite_f g8 hr
            refine LW.skip ?_
            refine thn_n ?_
            refine LW.seq ?_
            refine LW.region ?_
            refine LOps.st rfl rfl rfl (LOp.assign rfl rfl) ?_
            refine LOps.nil ?_
            refine thn_n ?_
            obtain ⟨b_v9, hb_v9, ho_v9⟩ := bind_get hr
            clear hr
            refine LW.tailB (b := b_v9) (E := fun v9 => [(3, .p (.int .i64 slot)), (4, .ptr 0 0), (5, .ptr 1 0), (6, .ptr 2 0), (8, .p (.bool false)), (12, .ptr 3 0), (13, .p (.int .i64 x1.i))]) (O := fun v9 => [.box [.p (.slice 1 (c.W.map i64P)), .p (.int .u64 c.Seed), .p (.int .i64 c.Epoch), .p (.int .i64 c.Num), .p (.int .i64 c.Den)], .box [.p (.slice 5 (a.B.map blkP)), .p (.slice 4 (a.V.map vtP))], .box [.p (.slice 5 (b.B.map blkP)), .p (.slice 4 (b.V.map vtP))], .box [.p (.slice 5 (v7.B.map blkP)), .p (.slice 4 (v7.V.map vtP))]]) ?_ (fun v9 e_v9 env_v9 H_v9 hw_v9 => ?_)
            · refine LW.block ?_
              refine LW.iterB (E := fun x2 : F33_L2 => [(3, .p (.int .i64 slot)), (4, .ptr 0 0), (5, .ptr 1 0), (6, .ptr 2 0), (8, .p (.bool false)), (12, .ptr 3 0), (13, .p (.int .i64 x1.i)), (14, .p (.int .i64 x2.k))]) (O := fun x2 => [.box [.p (.slice 1 (c.W.map i64P)), .p (.int .u64 c.Seed), .p (.int .i64 c.Epoch), .p (.int .i64 c.Num), .p (.int .i64 c.Den)], .box [.p (.slice 5 (a.B.map blkP)), .p (.slice 4 (a.V.map vtP))], .box [.p (.slice 5 (b.B.map blkP)), .p (.slice 4 (b.V.map vtP))], .box [.p (.slice 5 (v7.B.map blkP)), .p (.slice 4 (v7.V.map vtP))]]) hb_v9 (Weak.of 4 ⟨rfl, rfl, rfl, rfl, rfl, rfl, rfl, rfl, trivial⟩ rfl rfl rfl rfl) (fun x2 z_x2 hr hb_x2 => ?_)
              unfold F33_s2 at hr
              refine LW.seq ?_
              refine LW.seq ?_
              refine LW.region ?_
              refine LOps.st rfl rfl rfl (LOp.move rfl rfl) ?_
              refine LOps.st rfl rfl rfl (LOp.move rfl rfl) ?_
              refine LOps.st rfl rfl rfl (LOp.bin rfl rfl rfl rfl) ?_
              refine LOps.nil ?_
              refine thn_n ?_
              refine LW.cond rfl (fun (g9 : (decide (x2.k < x1.i)) = true) => ?_) (fun (g9 : (decide (x2.k < x1.i)) = false) => ?_)
              · -- g9 is True
                have hr := ite_t g9 hr
                refine LW.skip ?_
                refine thn_n ?_
                refine LW.seq ?_
                refine LW.block ?_
                refine LW.seq ?_
                refine LW.draw (by kernel_rfl) (by kernel_rfl) ?_
                refine LO.st rfl rfl rfl (LOp.fieldAddr rfl rfl ft75_0) ?_
                refine LO.st rfl rfl rfl (LOp.load rfl rfl rfl vt27 rfl rfl) ?_
                refine LO.st rfl rfl rfl (LOp.move rfl rfl) ?_
                obtain ⟨y2, h_y2, hr⟩ := bind_get hr
                refine LO.st rfl rfl rfl (LOp.indexAddrX rfl rfl rfl st27 h_y2 rfl) ?_
                refine LO.st rfl rfl rfl (LOp.loadC rfl rfl rfl vt42 rfl rfl) ?_
                refine LO.st rfl rfl rfl (LOp.call rfl rfl rfl (by kernel_rfl) (LC.pure (c50 (b := y2)) (.cons Conv.p .nil))) ?_
                refine LO.st rfl rfl rfl (LOp.fieldAddr rfl rfl ft75_0) ?_
                refine LO.st rfl rfl rfl (LOp.load rfl rfl rfl vt27 rfl rfl) ?_
                refine LO.st rfl rfl rfl (LOp.move rfl rfl) ?_
                obtain ⟨y3, h_y3, hr⟩ := bind_get hr
                refine LO.st rfl rfl rfl (LOp.indexAddrX rfl rfl rfl st27 h_y3 rfl) ?_
                refine LO.st rfl rfl rfl (LOp.loadC rfl rfl rfl vt42 rfl rfl) ?_
                refine LO.st rfl rfl rfl (LOp.call rfl rfl rfl (by kernel_rfl) (LC.pure (c50 (b := y3)) (.cons Conv.p .nil))) ?_
                refine LO.st rfl rfl rfl (LOp.eqlAgg rfl rfl rfl rfl rfl eqt24) ?_
                refine LO.nil ?_
                refine thn_n ?_
                refine LW.cond rfl (fun (g10 : ((((nm y2).1) == ((nm y3).1)) && ((((nm y2).2) == ((nm y3).2)) && true)) = true) => ?_) (fun (g10 : ((((nm y2).1) == ((nm y3).1)) && ((((nm y2).2) == ((nm y3).2)) && true)) = false) => ?_)
                · -- g10 is True
                  have hr := ite_t g10 hr
                  refine LW.seq ?_
                  refine LW.region ?_
                  refine LOps.st rfl rfl rfl (LOp.assign rfl rfl) ?_
                  refine LOps.nil ?_
                  refine thn_n ?_
                  refine LW.ret ?_
                  refine inBlk_r ?_
                  refine thn_r ?_
                  refine thn_r ?_
                  refine inBlk_r ?_
                  refine thn_r ?_
                  refine inBlk_r ?_
                  refine thn_r ?_
                  refine thn_r ?_
                  refine inBlk_r ?_
                  refine thn_r ?_
                  refine thn_r ?_
                  obtain rfl := Option.some.inj hr
                  have hr := congrArg some (hb_x2 _ rfl)
                  obtain rfl := Option.some.inj hr
                  have hr := sum_r ho_v9
                  obtain rfl := Option.some.inj hr
                  have hr := congrArg some (hb_x1 _ rfl)
                  obtain rfl := Option.some.inj hr
                  have hr := sum_r ho_v8
                  obtain rfl := Option.some.inj hr
                  refine finP_ret (.one (.tmp rfl)) ?_
                  exact Conv.p
                · -- g10 is False
                  have hr := ite_f g10 hr
                  refine LW.skip ?_
                  refine inBlk_n ?_
                  refine thn_n ?_
                  refine LW.region ?_
                  refine LOps.st rfl rfl rfl (LOp.move rfl rfl) ?_
                  refine LOps.st rfl rfl rfl (LOp.bin rfl rfl rfl rfl) ?_
                  refine LOps.st rfl rfl rfl (LOp.assign rfl rfl) ?_
                  refine LOps.nil ?_
                  refine thn_n ?_
                  obtain rfl := Option.some.inj hr
                  exact ⟨_, rfl, Weak.of 4 ⟨rfl, rfl, rfl, rfl, rfl, rfl, rfl, rfl, trivial⟩ rfl rfl rfl rfl⟩
              · -- g9 is False
                have hr := ite_f g9 hr
                refine LW.exit ?_
                refine thn_e ?_
                refine thn_e ?_
                refine inBlk_self ?_
                refine thn_n ?_
                obtain rfl := Option.some.inj hr
                have hr := congrArg some (hb_x2 _ rfl)
                obtain rfl := Option.some.inj hr
                exact ⟨_, rfl, Weak.of 4 ⟨rfl, rfl, rfl, rfl, rfl, rfl, rfl, trivial⟩ rfl rfl rfl rfl⟩
            · obtain rfl := e_v9
              have hr := sum_l ho_v9
              clear hb_v9
              refine inBlk_n ?_
              refine thn_n ?_
              refine LW.weak hw_v9 ?_
              refine LW.region ?_
              refine LOps.st rfl rfl rfl (LOp.move rfl rfl) ?_
              refine LOps.st rfl rfl rfl (LOp.bin rfl rfl rfl rfl) ?_
              refine LOps.st rfl rfl rfl (LOp.assign rfl rfl) ?_
              refine LOps.nil ?_
              refine thn_n ?_
              obtain rfl := Option.some.inj hr
              exact ⟨_, rfl, Weak.of 4 ⟨rfl, rfl, rfl, rfl, rfl, rfl, rfl, trivial⟩ rfl rfl rfl rfl⟩
        · -- g7 is False
          have hr := ite_f g7 hr
          refine LW.exit ?_
          refine thn_e ?_
          refine thn_e ?_
          refine inBlk_self ?_
          refine thn_n ?_
          obtain rfl := Option.some.inj hr
          have hr := congrArg some (hb_x1 _ rfl)
          obtain rfl := Option.some.inj hr
          exact ⟨_, rfl, Weak.of 4 ⟨rfl, rfl, rfl, rfl, rfl, rfl, trivial⟩ rfl rfl rfl rfl⟩
      · obtain rfl := e_v8
        have hr := sum_l ho_v8
        clear hb_v8
        refine thn_n ?_
        refine LW.weak hw_v8 ?_
        refine LW.seq ?_
        refine LW.seq ?_
        refine LW.region ?_
        refine LOps.st rfl rfl rfl (LOp.assign rfl rfl) ?_
        refine LOps.nil ?_
        refine thn_n ?_
        obtain ⟨b_v10, hb_v10, ho_v10⟩ := bind_get hr
        clear hr
        refine LW.tailB (b := b_v10) (E := fun v10 => [(3, .p (.int .i64 slot)), (4, .ptr 0 0), (5, .ptr 1 0), (6, .ptr 2 0), (8, .p (.bool false)), (12, .ptr 3 0)]) (O := fun v10 => [.box [.p (.slice 1 (c.W.map i64P)), .p (.int .u64 c.Seed), .p (.int .i64 c.Epoch), .p (.int .i64 c.Num), .p (.int .i64 c.Den)], .box [.p (.slice 5 (a.B.map blkP)), .p (.slice 4 (a.V.map vtP))], .box [.p (.slice 5 (b.B.map blkP)), .p (.slice 4 (b.V.map vtP))], .box [.p (.slice 5 (v7.B.map blkP)), .p (.slice 4 (v7.V.map vtP))]]) ?_ (fun v10 e_v10 env_v10 H_v10 hw_v10 => ?_)
        · refine LW.block ?_
          refine LW.iterB (E := fun x3 : F33_L3 => [(3, .p (.int .i64 slot)), (4, .ptr 0 0), (5, .ptr 1 0), (6, .ptr 2 0), (8, .p (.bool false)), (12, .ptr 3 0), (15, .p (.int .i64 x3.i))]) (O := fun x3 => [.box [.p (.slice 1 (c.W.map i64P)), .p (.int .u64 c.Seed), .p (.int .i64 c.Epoch), .p (.int .i64 c.Num), .p (.int .i64 c.Den)], .box [.p (.slice 5 (a.B.map blkP)), .p (.slice 4 (a.V.map vtP))], .box [.p (.slice 5 (b.B.map blkP)), .p (.slice 4 (b.V.map vtP))], .box [.p (.slice 5 (v7.B.map blkP)), .p (.slice 4 (v7.V.map vtP))]]) hb_v10 (Weak.of 4 ⟨rfl, rfl, rfl, rfl, rfl, rfl, rfl, trivial⟩ rfl rfl rfl rfl) (fun x3 z_x3 hr hb_x3 => ?_)
          unfold F33_s3 at hr
          refine LW.seq ?_
          refine LW.seq ?_
          refine LW.region ?_
          refine LOps.st rfl rfl rfl (LOp.move rfl rfl) ?_
          refine LOps.st rfl rfl rfl (LOp.fieldAddr rfl rfl ft75_1) ?_
          refine LOps.st rfl rfl rfl (LOp.load rfl rfl rfl vt68 rfl rfl) ?_
          refine LOps.st rfl rfl rfl (LOp.lenM rfl rfl (by kernel_rfl)) ?_
          refine LOps.st rfl rfl rfl (LOp.bin rfl rfl rfl rfl) ?_
          refine LOps.nil ?_
          refine thn_n ?_
          refine LW.cond rfl (fun (g11 : (decide (x3.i < (v7.V.length : Int))) = true) => ?_) (fun (g11 : (decide (x3.i < (v7.V.length : Int))) = false) => ?_)
          · -- g11 is True
            have hr := ite_t g11 hr
            refine LW.skip ?_
            refine thn_n ?_
            refine LW.seq ?_
            refine LW.block ?_
            refine LW.seq ?_
            refine LW.region ?_
            refine LOps.st rfl rfl rfl (LOp.fieldAddr rfl rfl ft75_1) ?_
            refine LOps.st rfl rfl rfl (LOp.load rfl rfl rfl vt68 rfl rfl) ?_
            refine LOps.st rfl rfl rfl (LOp.move rfl rfl) ?_
            obtain ⟨y4, h_y4, hr⟩ := bind_get hr
            refine LOps.st rfl rfl rfl (LOp.indexAddrX rfl rfl rfl st68 h_y4 rfl) ?_
            refine LOps.st rfl rfl rfl (LOp.fieldAddrC rfl rfl ft82_1 rfl) ?_
            refine LOps.st rfl rfl rfl (LOp.loadC rfl rfl rfl vt3 rfl rfl) ?_
            refine LOps.st rfl rfl rfl (LOp.move rfl rfl) ?_
            refine LOps.st rfl rfl rfl (LOp.bin rfl rfl rfl rfl) ?_
            refine LOps.nil ?_
            refine thn_n ?_
            refine LW.cond rfl (fun (g12 : (decide (y4.Slot > slot)) = true) => ?_) (fun (g12 : (decide (y4.Slot > slot)) = false) => ?_)
            · -- g12 is True
              have hr := ite_t g12 hr
              refine LW.seq ?_
              refine LW.region ?_
              refine LOps.st rfl rfl rfl (LOp.assign rfl rfl) ?_
              refine LOps.nil ?_
              refine thn_n ?_
              refine LW.ret ?_
              refine inBlk_r ?_
              refine thn_r ?_
              refine thn_r ?_
              refine inBlk_r ?_
              refine thn_r ?_
              refine thn_r ?_
              obtain rfl := Option.some.inj hr
              have hr := congrArg some (hb_x3 _ rfl)
              obtain rfl := Option.some.inj hr
              have hr := sum_r ho_v10
              obtain rfl := Option.some.inj hr
              refine finP_ret (.one (.tmp rfl)) ?_
              exact Conv.p
            · -- g12 is False
              have hr := ite_f g12 hr
              refine LW.skip ?_
              refine inBlk_n ?_
              refine thn_n ?_
              refine LW.region ?_
              refine LOps.st rfl rfl rfl (LOp.move rfl rfl) ?_
              refine LOps.st rfl rfl rfl (LOp.bin rfl rfl rfl rfl) ?_
              refine LOps.st rfl rfl rfl (LOp.assign rfl rfl) ?_
              refine LOps.nil ?_
              refine thn_n ?_
              obtain rfl := Option.some.inj hr
              exact ⟨_, rfl, Weak.of 4 ⟨rfl, rfl, rfl, rfl, rfl, rfl, rfl, trivial⟩ rfl rfl rfl rfl⟩
          · -- g11 is False
            have hr := ite_f g11 hr
            refine LW.exit ?_
            refine thn_e ?_
            refine thn_e ?_
            refine inBlk_self ?_
            refine thn_n ?_
            obtain rfl := Option.some.inj hr
            have hr := congrArg some (hb_x3 _ rfl)
            obtain rfl := Option.some.inj hr
            exact ⟨_, rfl, Weak.of 4 ⟨rfl, rfl, rfl, rfl, rfl, rfl, trivial⟩ rfl rfl rfl rfl⟩
        · obtain rfl := e_v10
          have hr := sum_l ho_v10
          clear hb_v10
          refine thn_n ?_
          refine LW.weak hw_v10 ?_
          refine LW.seq ?_
          refine LW.region ?_
          refine LOps.st rfl rfl rfl (LOp.load rfl rfl rfl vt55 rfl rfl) ?_
          refine LOps.st rfl rfl rfl (LOp.load rfl rfl rfl vt75 rfl rfl) ?_
          refine LOps.st rfl rfl rfl (LOp.load rfl rfl rfl vt75 rfl rfl) ?_
          refine LOps.st rfl rfl rfl (LOp.move rfl rfl) ?_
          obtain ⟨v11, h_v11, hr⟩ := bind_get hr
          refine LOps.st rfl rfl rfl (LOp.call rfl rfl rfl (by kernel_rfl) (LC.pure (c90 h_v11) (.cons Conv.p (.cons Conv.p (.cons Conv.p (.cons Conv.p .nil)))))) ?_
          refine LOps.st rfl rfl rfl (LOp.move rfl rfl) ?_
          refine LOps.st rfl rfl rfl (LOp.extract rfl rfl rfl) ?_
          refine LOps.st rfl rfl rfl (LOp.extract rfl rfl rfl) ?_
          refine LOps.st rfl rfl rfl (LOp.extract rfl rfl rfl) ?_
          refine LOps.st rfl rfl rfl (LOp.alloc rfl zt75 rfl rfl) ?_
          refine LOps.st rfl rfl rfl (LOp.alloc rfl zt75 rfl rfl) ?_
          refine LOps.st rfl rfl rfl (LOp.store rfl rfl rfl rfl vt75 rfl rfl rfl rfl) ?_
          refine LOps.st rfl rfl rfl (LOp.store rfl rfl rfl rfl vt75 rfl rfl rfl rfl) ?_
          refine LOps.st rfl rfl rfl (LOp.assign rfl rfl) ?_
          refine LOps.nil ?_
          refine thn_n ?_
          refine LW.seq ?_
          refine LW.region ?_
          refine LOps.st rfl rfl rfl (LOp.load rfl rfl rfl vt55 rfl rfl) ?_
          refine LOps.st rfl rfl rfl (LOp.load rfl rfl rfl vt75 rfl rfl) ?_
          refine LOps.st rfl rfl rfl (LOp.load rfl rfl rfl vt75 rfl rfl) ?_
          refine LOps.st rfl rfl rfl (LOp.move rfl rfl) ?_
          obtain ⟨v12, h_v12, hr⟩ := bind_get hr
          refine LOps.st rfl rfl rfl (LOp.call rfl rfl rfl (by kernel_rfl) (LC.pure (c90 h_v12) (.cons Conv.p (.cons Conv.p (.cons Conv.p (.cons Conv.p .nil)))))) ?_
          refine LOps.st rfl rfl rfl (LOp.move rfl rfl) ?_
          refine LOps.st rfl rfl rfl (LOp.extract rfl rfl rfl) ?_
          refine LOps.st rfl rfl rfl (LOp.extract rfl rfl rfl) ?_
          refine LOps.st rfl rfl rfl (LOp.extract rfl rfl rfl) ?_
          refine LOps.st rfl rfl rfl (LOp.alloc rfl zt75 rfl rfl) ?_
          refine LOps.st rfl rfl rfl (LOp.alloc rfl zt75 rfl rfl) ?_
          refine LOps.st rfl rfl rfl (LOp.store rfl rfl rfl rfl vt75 rfl rfl rfl rfl) ?_
          refine LOps.st rfl rfl rfl (LOp.store rfl rfl rfl rfl vt75 rfl rfl rfl rfl) ?_
          refine LOps.st rfl rfl rfl (LOp.assign rfl rfl) ?_
          refine LOps.nil ?_
          refine thn_n ?_
          refine LW.seq ?_
          refine LW.region ?_
          refine LOps.st rfl rfl rfl (LOp.load rfl rfl rfl vt75 rfl rfl) ?_
          refine LOps.st rfl rfl rfl (LOp.load rfl rfl rfl vt75 rfl rfl) ?_
          obtain ⟨v13, h_v13, hr⟩ := bind_get hr
          refine LOps.st rfl rfl rfl (LOp.call rfl rfl rfl (by kernel_rfl) (LC.pure (c92 h_v13) (.cons Conv.p (.cons Conv.p .nil)))) ?_
          refine LOps.st rfl rfl rfl (LOp.assign rfl rfl) ?_
          refine LOps.nil ?_
          refine thn_n ?_
          refine LW.seq ?_
          refine LW.region ?_
          refine LOps.st rfl rfl rfl (LOp.load rfl rfl rfl vt75 rfl rfl) ?_
          refine LOps.st rfl rfl rfl (LOp.load rfl rfl rfl vt75 rfl rfl) ?_
          obtain ⟨v14, h_v14, hr⟩ := bind_get hr
          refine LOps.st rfl rfl rfl (LOp.call rfl rfl rfl (by kernel_rfl) (LC.pure (c92 h_v14) (.cons Conv.p (.cons Conv.p .nil)))) ?_
          refine LOps.st rfl rfl rfl (LOp.assign rfl rfl) ?_
          refine LOps.nil ?_
          refine thn_n ?_
          refine LW.seq ?_
          refine LW.region ?_
          refine LOps.st rfl rfl rfl (LOp.move rfl rfl) ?_
          refine LOps.st rfl rfl rfl (LOp.not rfl rfl) ?_
          refine LOps.st rfl rfl rfl (LOp.move rfl rfl) ?_
          refine LOps.cases 135 rfl (fun (g13 : (!v11.2.2) = true) => ?_) (fun (g13 : (!v11.2.2) = false) => ?_)
          · -- g13 is True
            have hr := ite_t g13 hr
            refine LOps.gd rfl rfl rfl (gd g13 rfl) rfl (LOp.move rfl rfl) ?_
            refine LOps.gd rfl rfl rfl (gd g13 rfl) rfl (LOp.not rfl rfl) ?_
            refine LOps.st rfl rfl rfl (LOp.pickT rfl (gdl g13 rfl) rfl) ?_
            refine LOps.st rfl rfl rfl (LOp.move rfl rfl) ?_
            refine LOps.cases 139 rfl (fun (g14 : (!v12.2.2) = true) => ?_) (fun (g14 : (!v12.2.2) = false) => ?_)
            · -- g14 is True
              have hr := ite_t g14 hr
              refine LOps.gd rfl rfl rfl (gd g14 rfl) rfl (LOp.move rfl rfl) ?_
              refine LOps.st rfl rfl rfl (LOp.pickT rfl (gdl g14 rfl) rfl) ?_
              refine LOps.st rfl rfl rfl (LOp.move rfl rfl) ?_
              refine LOps.cases 142 rfl (fun (g15 : v13 = true) => ?_) (fun (g15 : v13 = false) => ?_)
              · -- g15 is True
                have hr := ite_t g15 hr
                refine LOps.gd rfl rfl rfl (gd g15 rfl) rfl (LOp.move rfl rfl) ?_
                refine LOps.st rfl rfl rfl (LOp.pickT rfl (gdl g15 rfl) rfl) ?_
                refine LOps.st rfl rfl rfl (LOp.move rfl rfl) ?_
                refine LOps.cases 145 rfl (fun (g16 : v14 = true) => ?_) (fun (g16 : v14 = false) => ?_)
                · -- g16 is True
                  have hr := ite_t g16 hr
                  refine LOps.gd rfl rfl rfl (gd g16 rfl) rfl (LOp.fieldAddr rfl rfl ft75_0) ?_
                  refine LOps.gd rfl rfl rfl (gd g16 rfl) rfl (LOp.load rfl rfl rfl vt27 rfl rfl) ?_
                  refine LOps.gd rfl rfl rfl (gd g16 rfl) rfl (LOp.lenM rfl rfl (by kernel_rfl)) ?_
                  refine LOps.gd rfl rfl rfl (gd g16 rfl) rfl (LOp.fieldAddr rfl rfl ft75_1) ?_
                  refine LOps.gd rfl rfl rfl (gd g16 rfl) rfl (LOp.load rfl rfl rfl vt68 rfl rfl) ?_
                  refine LOps.gd rfl rfl rfl (gd g16 rfl) rfl (LOp.lenM rfl rfl (by kernel_rfl)) ?_
                  refine LOps.gd rfl rfl rfl (gd g16 rfl) rfl (LOp.bin rfl rfl rfl rfl) ?_
                  refine LOps.gd rfl rfl rfl (gd g16 rfl) rfl (LOp.fieldAddr rfl rfl ft75_0) ?_
                  refine LOps.gd rfl rfl rfl (gd g16 rfl) rfl (LOp.load rfl rfl rfl vt27 rfl rfl) ?_
                  refine LOps.gd rfl rfl rfl (gd g16 rfl) rfl (LOp.lenM rfl rfl (by kernel_rfl)) ?_
                  refine LOps.gd rfl rfl rfl (gd g16 rfl) rfl (LOp.bin rfl rfl rfl rfl) ?_
                  refine LOps.gd rfl rfl rfl (gd g16 rfl) rfl (LOp.fieldAddr rfl rfl ft75_1) ?_
                  refine LOps.gd rfl rfl rfl (gd g16 rfl) rfl (LOp.load rfl rfl rfl vt68 rfl rfl) ?_
                  refine LOps.gd rfl rfl rfl (gd g16 rfl) rfl (LOp.lenM rfl rfl (by kernel_rfl)) ?_
                  refine LOps.gd rfl rfl rfl (gd g16 rfl) rfl (LOp.bin rfl rfl rfl rfl) ?_
                  refine LOps.gd rfl rfl rfl (gd g16 rfl) rfl (LOp.bin rfl rfl rfl rfl) ?_
                  refine LOps.st rfl rfl rfl (LOp.pickT rfl (gdl g16 rfl) rfl) ?_
                  refine LOps.st rfl rfl rfl (LOp.assign rfl rfl) ?_
                  refine LOps.nil ?_
                  refine thn_n ?_
                  refine LW.ret ?_
                  obtain rfl := Option.some.inj hr
                  refine finP_ret (.one (.tmp rfl)) ?_
                  exact Conv.p
                · -- g16 is False
                  have hr := ite_f g16 hr
                  refine LOps.sk rfl rfl rfl (gd g16 rfl) rfl rfl ?_
                  refine LOps.sk rfl rfl rfl (gd g16 rfl) rfl rfl ?_
                  refine LOps.sk rfl rfl rfl (gd g16 rfl) rfl rfl ?_
                  refine LOps.sk rfl rfl rfl (gd g16 rfl) rfl rfl ?_
                  refine LOps.sk rfl rfl rfl (gd g16 rfl) rfl rfl ?_
                  refine LOps.sk rfl rfl rfl (gd g16 rfl) rfl rfl ?_
                  refine LOps.sk rfl rfl rfl (gd g16 rfl) rfl rfl ?_
                  refine LOps.sk rfl rfl rfl (gd g16 rfl) rfl rfl ?_
                  refine LOps.sk rfl rfl rfl (gd g16 rfl) rfl rfl ?_
                  refine LOps.sk rfl rfl rfl (gd g16 rfl) rfl rfl ?_
                  refine LOps.sk rfl rfl rfl (gd g16 rfl) rfl rfl ?_
                  refine LOps.sk rfl rfl rfl (gd g16 rfl) rfl rfl ?_
                  refine LOps.sk rfl rfl rfl (gd g16 rfl) rfl rfl ?_
                  refine LOps.sk rfl rfl rfl (gd g16 rfl) rfl rfl ?_
                  refine LOps.sk rfl rfl rfl (gd g16 rfl) rfl rfl ?_
                  refine LOps.sk rfl rfl rfl (gd g16 rfl) rfl rfl ?_
                  refine LOps.st rfl rfl rfl (LOp.pickF rfl (gdl g16 rfl) rfl) ?_
                  refine LOps.st rfl rfl rfl (LOp.assign rfl rfl) ?_
                  refine LOps.nil ?_
                  refine thn_n ?_
                  refine LW.ret ?_
                  obtain rfl := Option.some.inj hr
                  refine finP_ret (.one (.tmp rfl)) ?_
                  exact Conv.p
              · -- g15 is False
                have hr := ite_f g15 hr
                refine LOps.sk rfl rfl rfl (gd g15 rfl) rfl rfl ?_
                refine LOps.st rfl rfl rfl (LOp.pickF rfl (gdl g15 rfl) rfl) ?_
                refine LOps.st rfl rfl rfl (LOp.move rfl rfl) ?_
                refine LOps.sk rfl rfl rfl rfl rfl rfl ?_
                refine LOps.sk rfl rfl rfl rfl rfl rfl ?_
                refine LOps.sk rfl rfl rfl rfl rfl rfl ?_
                refine LOps.sk rfl rfl rfl rfl rfl rfl ?_
                refine LOps.sk rfl rfl rfl rfl rfl rfl ?_
                refine LOps.sk rfl rfl rfl rfl rfl rfl ?_
                refine LOps.sk rfl rfl rfl rfl rfl rfl ?_
                refine LOps.sk rfl rfl rfl rfl rfl rfl ?_
                refine LOps.sk rfl rfl rfl rfl rfl rfl ?_
                refine LOps.sk rfl rfl rfl rfl rfl rfl ?_
                refine LOps.sk rfl rfl rfl rfl rfl rfl ?_
                refine LOps.sk rfl rfl rfl rfl rfl rfl ?_
                refine LOps.sk rfl rfl rfl rfl rfl rfl ?_
                refine LOps.sk rfl rfl rfl rfl rfl rfl ?_
                refine LOps.sk rfl rfl rfl rfl rfl rfl ?_
                refine LOps.sk rfl rfl rfl rfl rfl rfl ?_
                refine LOps.st rfl rfl rfl (LOp.pickF rfl rfl rfl) ?_
                refine LOps.st rfl rfl rfl (LOp.assign rfl rfl) ?_
                refine LOps.nil ?_
                refine thn_n ?_
                refine LW.ret ?_
                obtain rfl := Option.some.inj hr
                refine finP_ret (.one (.tmp rfl)) ?_
                exact Conv.p
            · -- g14 is False
              have hr := ite_f g14 hr
              refine LOps.sk rfl rfl rfl (gd g14 rfl) rfl rfl ?_
              refine LOps.st rfl rfl rfl (LOp.pickF rfl (gdl g14 rfl) rfl) ?_
              refine LOps.st rfl rfl rfl (LOp.move rfl rfl) ?_
              refine LOps.sk rfl rfl rfl rfl rfl rfl ?_
              refine LOps.st rfl rfl rfl (LOp.pickF rfl rfl rfl) ?_
              refine LOps.st rfl rfl rfl (LOp.move rfl rfl) ?_
              refine LOps.sk rfl rfl rfl rfl rfl rfl ?_
              refine LOps.sk rfl rfl rfl rfl rfl rfl ?_
              refine LOps.sk rfl rfl rfl rfl rfl rfl ?_
              refine LOps.sk rfl rfl rfl rfl rfl rfl ?_
              refine LOps.sk rfl rfl rfl rfl rfl rfl ?_
              refine LOps.sk rfl rfl rfl rfl rfl rfl ?_
              refine LOps.sk rfl rfl rfl rfl rfl rfl ?_
              refine LOps.sk rfl rfl rfl rfl rfl rfl ?_
              refine LOps.sk rfl rfl rfl rfl rfl rfl ?_
              refine LOps.sk rfl rfl rfl rfl rfl rfl ?_
              refine LOps.sk rfl rfl rfl rfl rfl rfl ?_
              refine LOps.sk rfl rfl rfl rfl rfl rfl ?_
              refine LOps.sk rfl rfl rfl rfl rfl rfl ?_
              refine LOps.sk rfl rfl rfl rfl rfl rfl ?_
              refine LOps.sk rfl rfl rfl rfl rfl rfl ?_
              refine LOps.sk rfl rfl rfl rfl rfl rfl ?_
              refine LOps.st rfl rfl rfl (LOp.pickF rfl rfl rfl) ?_
              refine LOps.st rfl rfl rfl (LOp.assign rfl rfl) ?_
              refine LOps.nil ?_
              refine thn_n ?_
              refine LW.ret ?_
              obtain rfl := Option.some.inj hr
              refine finP_ret (.one (.tmp rfl)) ?_
              exact Conv.p
          · -- g13 is False
            have hr := ite_f g13 hr
            refine LOps.sk rfl rfl rfl (gd g13 rfl) rfl rfl ?_
            refine LOps.sk rfl rfl rfl (gd g13 rfl) rfl rfl ?_
            refine LOps.st rfl rfl rfl (LOp.pickF rfl (gdl g13 rfl) rfl) ?_
            refine LOps.st rfl rfl rfl (LOp.move rfl rfl) ?_
            refine LOps.sk rfl rfl rfl rfl rfl rfl ?_
            refine LOps.st rfl rfl rfl (LOp.pickF rfl rfl rfl) ?_
            refine LOps.st rfl rfl rfl (LOp.move rfl rfl) ?_
            refine LOps.sk rfl rfl rfl rfl rfl rfl ?_
            refine LOps.st rfl rfl rfl (LOp.pickF rfl rfl rfl) ?_
            refine LOps.st rfl rfl rfl (LOp.move rfl rfl) ?_
            refine LOps.sk rfl rfl rfl rfl rfl rfl ?_
            refine LOps.sk rfl rfl rfl rfl rfl rfl ?_
            refine LOps.sk rfl rfl rfl rfl rfl rfl ?_
            refine LOps.sk rfl rfl rfl rfl rfl rfl ?_
            refine LOps.sk rfl rfl rfl rfl rfl rfl ?_
            refine LOps.sk rfl rfl rfl rfl rfl rfl ?_
            refine LOps.sk rfl rfl rfl rfl rfl rfl ?_
            refine LOps.sk rfl rfl rfl rfl rfl rfl ?_
            refine LOps.sk rfl rfl rfl rfl rfl rfl ?_
            refine LOps.sk rfl rfl rfl rfl rfl rfl ?_
            refine LOps.sk rfl rfl rfl rfl rfl rfl ?_
            refine LOps.sk rfl rfl rfl rfl rfl rfl ?_
            refine LOps.sk rfl rfl rfl rfl rfl rfl ?_
            refine LOps.sk rfl rfl rfl rfl rfl rfl ?_
            refine LOps.sk rfl rfl rfl rfl rfl rfl ?_
            refine LOps.sk rfl rfl rfl rfl rfl rfl ?_
            refine LOps.st rfl rfl rfl (LOp.pickF rfl rfl rfl) ?_
            refine LOps.st rfl rfl rfl (LOp.assign rfl rfl) ?_
            refine LOps.nil ?_
            refine thn_n ?_
            refine LW.ret ?_
            obtain rfl := Option.some.inj hr
            refine finP_ret (.one (.tmp rfl)) ?_
            exact Conv.p
open Go.Proofs
structure F35_L1 where
  i : Int
structure F35_L2 where
  i : Int
structure F35_L3 where
  i : Int
structure F35_L4 where
  k : Int
theorem nodup_len {α : Type} [DecidableEq α] : ∀ {l L : List α}, l.Nodup → (∀ x ∈ l, x ∈ L) → l.length ≤ L.length
  | [], _, _, _ => Nat.zero_le _
  | x :: r, L, h, hs => by
    rw [List.nodup_cons] at h
    have hx := hs x (.head _)
    have h1 := nodup_len (L := L.erase x) h.2 fun y hy => (List.mem_erase_of_ne (show y ≠ x from fun e => h.1 (by rw [← e]; exact hy))).2 (hs y (.tail _ hy))
    have h2 := List.length_erase_of_mem hx
    have h3 := List.length_pos_of_mem hx
    simp only [List.length_cons]; omega
theorem nodup_of_names {B : List Bk} (h : ValidB B) : B.Nodup := by
  have h1 := valid_names h
  rw [List.nodup_cons] at h1
  exact List.Pairwise.imp (fun hne e => hne (by rw [e])) (List.pairwise_map.1 h1.2)
theorem slotQ_iff {B : List Bk} (h : ValidB B) {id : ID} {s : Int} : slotQ B id = some s ↔ (id = (0, 0) ∧ s = 0) ∨ ∃ b ∈ B, nm b = id ∧ b.Slot = s := by
  constructor
  · intro h1
    rcases slotQ_mem h1 with h2 | ⟨-, h2⟩
    · exact .inl h2
    · exact .inr h2
  · rintro (⟨h1, h2⟩ | ⟨b, h1, h2, h3⟩)
    · subst h1 h2; unfold slotQ; rw [if_pos rfl]
    · rw [← h2, ← h3]; exact valid_slot h h1
theorem slotQ_sub {B C : List Bk} (h : ValidB B) (h2 : ValidB C) (hs : ∀ b ∈ B, b ∈ C) {id : ID} {s : Int} (hq : slotQ B id = some s) : slotQ C id = some s := by
  rw [slotQ_iff h] at hq
  rw [slotQ_iff h2]
  rcases hq with hq | ⟨b, h1, h3⟩
  · exact .inl hq
  · exact .inr ⟨b, hs b h1, h3⟩
/-- What is counted at last: what was, and what comes, of a slot not too late, with a parent counted, of a lesser slot. -/
inductive CB (base o : List Bk) (upto : Int) : Bk → Prop
  | base {b : Bk} : b ∈ base → CB base o upto b
  | root {b : Bk} : b ∈ o → b.Slot ≤ upto → b.Parent = (0, 0) → 0 < b.Slot → CB base o upto b
  | step {b p : Bk} : b ∈ o → b.Slot ≤ upto → CB base o upto p → nm p = b.Parent → p.Slot < b.Slot → CB base o upto b
theorem CB.mono {base base' o o' : List Bk} {upto upto' : Int} (h1 : ∀ b ∈ base, CB base' o' upto' b) (h2 : ∀ b ∈ o, b ∈ o') (h3 : upto ≤ upto') {b : Bk} (h : CB base o upto b) : CB base' o' upto' b := by
  induction h with
  | base h => exact h1 _ h
  | root a1 a2 a3 a4 => exact .root (h2 _ a1) (Int.le_trans a2 h3) a3 a4
  | step a1 a2 _ a4 a5 ih => exact .step (h2 _ a1) (Int.le_trans a2 h3) ih a4 a5
structure Rm (U : Vw) : Prop where
  inj : ∀ a ∈ U.B, ∀ b ∈ U.B, nm a = nm b → a = b
  B : U.B.length < 60
  V : U.V.length < 240
def Sb (w U : Vw) : Prop := (∀ b ∈ w.B, b ∈ U.B) ∧ ∀ v ∈ w.V, v ∈ U.V
theorem took_sb {c : Cf} {w i U : Vw} {upto : Int} {r : Vw × Vw × Bool} (h : Took c w i upto r) (h1 : Sb w U) (h2 : Sb i U) : Sb r.1 U ∧ Sb r.2.1 U := by
  obtain ⟨t, ht, ht2⟩ := h.preB
  obtain ⟨u, hu, hu2⟩ := h.preV
  refine ⟨⟨fun b hb => ?_, fun v hv => ?_⟩, fun b hb => h2.1 b (List.mem_filter.1 (h.subB.subset hb)).1, fun b hb => h2.2 b (List.mem_filter.1 (h.subV.subset hb)).1⟩
  · rw [ht] at hb
    exact (List.mem_append.1 hb).elim (h1.1 b) fun hb => h2.1 b (List.mem_filter.1 (ht2 b hb).1).1
  · rw [hu] at hv
    exact (List.mem_append.1 hv).elim (h1.2 v) fun hb => h2.2 v (List.mem_filter.1 (hu2 v hb).1).1
theorem may_room {c : Cf} {w U : Vw} (h : MayW c w) (hr : Rm U) (hs : Sb w U) : w.B.length < 60 ∧ w.V.length < 240 :=
  ⟨Nat.lt_of_le_of_lt (nodup_len (nodup_of_names h.valid) hs.1) hr.B, Nat.lt_of_le_of_lt (nodup_len h.nodup hs.2) hr.V⟩
/-- A block that the view that is counted knows the name of is in it. -/
theorem known_in {c : Cf} {x U : Vw} (_hx : MayW c x) (hr : Rm U) (hs : Sb x U) {b : Bk} (hb : b ∈ U.B) (h0 : nm b ≠ (0, 0)) {s : Int} (hq : slotQ x.B (nm b) = some s) : b ∈ x.B := by
  rcases slotQ_mem hq with ⟨e, -⟩ | ⟨-, b', h1, h2, -⟩
  · exact absurd e h0
  · rw [← hr.inj b' (hs.1 _ h1) b hb h2]; exact h1
/-- What comes, of a slot not too late, with a parent there of a lesser slot, is counted. -/
theorem took_in {c : Cf} {w i U : Vw} {upto : Int} {r : Vw × Vw × Bool} (h : Took c w i upto r) (hr : Rm U) (h1 : Sb w U) (h2 : Sb i U) {b : Bk} {s : Int} (hb : b ∈ (onlyP c i).B) (hu : b.Slot ≤ upto) (hq : slotQ r.1.B b.Parent = some s) (hs : s < b.Slot) : b ∈ r.1.B := by
  have hsb := (took_sb h h1 h2).1
  have hroom := may_room h.may hr hsb
  have hb2 := List.mem_filter.1 hb
  have hm := of_decide_eq_true hb2.2
  rcases h.allB b hb with hl | hg
  · obtain ⟨-, hw | hw⟩ := h.endB b hl
    · unfold waitB at hw
      rw [hq] at hw
      have := of_decide_eq_true hw
      omega
    · omega
  · unfold goneB at hg
    rw [Bool.or_eq_true, hq] at hg
    rcases hg with hg | hg
    · obtain ⟨q, hq2⟩ := Option.isSome_iff_exists.1 hg
      exact known_in h.may hr hsb (h2.1 b hb2.1) hm.2.2 hq2
    · have := of_decide_eq_true hg
      omega
theorem took_V {c : Cf} {w i U : Vw} {upto : Int} {r : Vw × Vw × Bool} (h : Took c w i upto r) (hr : Rm U) (h1 : Sb w U) (h2 : Sb i U) (v : Vt) : v ∈ r.1.V ↔ v ∈ w.V ∨ (v ∈ (onlyP c i).V ∧ v.Slot ≤ upto ∧ forB r.1.B v) := by
  obtain ⟨u, hu, hu2⟩ := h.preV
  constructor
  · intro hv
    have hf := h.may.forB v hv
    rw [hu] at hv
    rcases List.mem_append.1 hv with hv | hv
    · exact .inl hv
    · exact .inr ⟨(hu2 v hv).1, (hu2 v hv).2, hf⟩
  · rintro (hv | ⟨hv, hs, s, hq, hle⟩)
    · rw [hu]; exact List.mem_append_left _ hv
    · have hroom := may_room h.may hr (took_sb h h1 h2).1
      rcases h.allV v hv with hl | hg
      · obtain ⟨-, hw | hw⟩ := h.endV v hl
        · unfold waitV at hw
          rw [hq] at hw
          have := of_decide_eq_true hw
          omega
        · omega
      · unfold goneV at hg
        rw [Bool.or_eq_true, hq] at hg
        rcases hg with hg | hg
        · exact of_decide_eq_true hg
        · have := of_decide_eq_true hg
          omega
def FullT (s : GvS) : Prop := s.full = true → 60 ≤ s.B.length ∨ 240 ≤ s.V.length
theorem roundT_full {upto : Int} {s : GvS} (h : FullT s) : FullT (roundT upto s) := by
  have h1 : (passB upto s.B s.full s.lB).2.2 = true → 60 ≤ (passB upto s.B s.full s.lB).2.1.length ∨ 240 ≤ s.V.length :=
    passG_ind (step := stepB upto) (l := s.lB) (B := s.B) (f := s.full) (Q := fun C f => f = true → 60 ≤ C.length ∨ 240 ≤ s.V.length) (fun C f b _ hQ => by
      rcases stepB_ways upto C f b with ⟨-, e⟩ | ⟨-, -, e⟩ | ⟨-, -, -, e⟩ | ⟨-, -, k, e⟩ <;> rw [e]
      · exact hQ
      · exact hQ
      · intro hf; have := hQ hf; simp only [List.length_append, List.length_singleton]; omega
      · intro _; exact .inl k) h
  have h2 : (passV upto (passB upto s.B s.full s.lB).2.1 s.V (passB upto s.B s.full s.lB).2.2 s.lV).2.2 = true → 60 ≤ (passB upto s.B s.full s.lB).2.1.length ∨ 240 ≤ (passV upto (passB upto s.B s.full s.lB).2.1 s.V (passB upto s.B s.full s.lB).2.2 s.lV).2.1.length :=
    passG_ind (step := stepV upto (passB upto s.B s.full s.lB).2.1) (l := s.lV) (B := s.V) (f := (passB upto s.B s.full s.lB).2.2) (Q := fun C f => f = true → 60 ≤ (passB upto s.B s.full s.lB).2.1.length ∨ 240 ≤ C.length) (fun C f b _ hQ => by
      rcases stepV_ways upto (passB upto s.B s.full s.lB).2.1 C f b with ⟨-, e⟩ | ⟨-, -, e⟩ | ⟨-, -, -, e⟩ | ⟨-, -, k, e⟩ <;> rw [e]
      · exact hQ
      · exact hQ
      · intro hf; have := hQ hf; simp only [List.length_append, List.length_singleton]; omega
      · intro _; exact .inr k) h1
  exact h2
theorem takeN_full {upto : Int} : ∀ (n : Nat) {s : GvS}, FullT s → FullT (takeN upto n s)
  | 0, _, h => h
  | n + 1, s, h => by
    unfold takeN
    split
    · exact roundT_full h
    · exact takeN_full n (roundT_full h)
theorem take_full {c : Cf} {w i : Vw} {upto : Int} (hm : MayW c w) (hf : (takeP c w i upto).2.2 = true) : 60 ≤ (takeP c w i upto).1.B.length ∨ 240 ≤ (takeP c w i upto).1.V.length := by
  unfold takeP at hf ⊢
  rw [if_pos hm] at hf ⊢
  exact takeN_full 1000 (s := ⟨w.B, w.V, false, (onlyP c i).B, (onlyP c i).V⟩) (fun h => by cases h) hf
theorem take_free {c : Cf} {w i U : Vw} {upto : Int} (hm : MayW c w) (hr : Rm U) (h1 : Sb w U) (h2 : Sb i U) : (takeP c w i upto).2.2 = false := by
  have h := took hm i upto
  have hroom := may_room h.may hr (took_sb h h1 h2).1
  cases hf : (takeP c w i upto).2.2 with
  | false => rfl
  | true => have := take_full hm hf; omega
open Classical in
theorem scan_loop {S R : Type} {step : S → Option (S ⊕ (S ⊕ R))} {n : Nat} (mk : Nat → S) (r0 : R) (P : Nat → Prop) (hs : ∀ j, j < n → step (mk j) = some (.inr (.inr r0)) ∨ (step (mk j) = some (.inl (mk (j + 1))) ∧ P j))
    (he : step (mk n) = some (.inr (.inl (mk n)))) (hn : n < 4000000000000000000) : iter step big (mk 0) = some (.inr r0) ∨ (iter step big (mk 0) = some (.inl (mk n)) ∧ ∀ j, j < n → P j) := by
  have e := search_loop mk (fun j => if step (mk j) = some (.inl (mk (j + 1))) ∧ P j then none else some r0) (fun j hj => by
    by_cases h : step (mk j) = some (.inl (mk (j + 1))) ∧ P j
    · simp only [if_pos h]; exact h.1
    · simp only [if_neg h]; exact (hs j hj).resolve_right h) he hn
  rw [e]
  cases h : firstF (fun j => if step (mk j) = some (.inl (mk (j + 1))) ∧ P j then none else some r0) 0 n with
  | none =>
    right
    refine ⟨rfl, fun j hj => ?_⟩
    have := firstF_none.1 h j (Nat.zero_le _) (by omega)
    split at this
    · rename_i h2; exact h2.2
    · cases this
  | some r =>
    left
    obtain ⟨j, -, -, h2, -⟩ := firstF_some h
    split at h2
    · cases h2
    · cases h2; rfl
theorem inj_of {l : List Bk} (h : ∀ i, i < l.length → ∀ j, j < i → ∀ y z, l[i]? = some y → l[j]? = some z → nm y ≠ nm z) : ∀ a ∈ l, ∀ b ∈ l, nm a = nm b → a = b := by
  intro a ha b hb e
  obtain ⟨i, hi⟩ := List.getElem?_of_mem ha
  obtain ⟨j, hj⟩ := List.getElem?_of_mem hb
  rcases Nat.lt_trichotomy i j with h1 | h1 | h1
  · exact absurd e.symm (h j (List.getElem?_eq_some_iff.1 hj).1 i h1 b a hj hi)
  · subst h1; rw [hi] at hj; exact Option.some.inj hj
  · exact absurd e (h i (List.getElem?_eq_some_iff.1 hi).1 j h1 a b hi hj)
def sep (l : List Bk) (i : Nat) : Prop := ∀ j, j < i → ∀ y z, l[i]? = some y → l[j]? = some z → nm y ≠ nm z
theorem F33_clash {u : Vw} {slot : Int} (hl : u.B.length ≤ 1000) : iter (F33_s1 slot u) big (F33_L1.mk 0) = some (.inr true) ∨ (iter (F33_s1 slot u) big (F33_L1.mk 0) = some (.inl (F33_L1.mk (u.B.length : Int))) ∧ ∀ i, i < u.B.length → sep u.B i ∧ ∀ y, u.B[i]? = some y → y.Slot ≤ slot) := by
  refine scan_loop (n := u.B.length) (fun k => F33_L1.mk (k : Int)) true (fun i => sep u.B i ∧ ∀ y, u.B[i]? = some y → y.Slot ≤ slot) (fun i hi => ?_) ?_ (by omega)
  · have h2 := scan_loop (step := F33_s2 u (F33_L1.mk (i : Int))) (n := i) (fun k => F33_L2.mk (k : Int)) (.inr (.inr true)) (fun j => ∀ y z, u.B[i]? = some y → u.B[j]? = some z → nm y ≠ nm z) (fun j hj => by
      obtain ⟨y, hy, -⟩ := get_of hi
      obtain ⟨z, hz, -⟩ := get_of (l := u.B) (n := j) (by omega)
      unfold F33_s2
      simp only
      rw [decide_eq_true (show (j : Int) < (i : Int) by omega), ct, ix_nat hy, ob, ix_nat hz, ob, eqID, wrap_succ (n := j) (by omega)]
      by_cases h : nm y = nm z
      · rw [decide_eq_true h, ct]; exact .inl rfl
      · rw [decide_eq_false h, cf]
        refine .inr ⟨rfl, fun y' z' h1 h2 => ?_⟩
        rw [hy] at h1; rw [hz] at h2; cases h1; cases h2; exact h) (by
      unfold F33_s2
      simp only
      rw [decide_eq_false (show ¬ (i : Int) < (i : Int) by omega), cf]) (by omega)
    obtain ⟨y, hy, -⟩ := get_of hi
    unfold F33_s1
    simp only
    rw [decide_eq_true (show (i : Int) < (u.B.length : Int) by omega), ct, ix_nat hy, ob, wrap_succ (n := i) (by omega)]
    by_cases hs : y.Slot > slot
    · rw [decide_eq_true hs, ct]; exact .inl rfl
    · rw [decide_eq_false hs, cf]
      rcases h2 with e | ⟨e, h2⟩
      · have e' : iter (F33_s2 u (F33_L1.mk (i : Int))) big (F33_L2.mk 0) = _ := e
        rw [e', ob, sr]; exact .inl rfl
      · have e' : iter (F33_s2 u (F33_L1.mk (i : Int))) big (F33_L2.mk 0) = _ := e
        rw [e', ob, sl]; exact .inr ⟨rfl, h2, fun y' h => by rw [hy] at h; cases h; omega⟩
  · unfold F33_s1
    simp only
    rw [decide_eq_false (show ¬ (u.B.length : Int) < (u.B.length : Int) by omega), cf]
theorem F33_slots {u : Vw} {slot : Int} (hl : u.V.length ≤ 1000) : iter (F33_s3 slot u) big (F33_L3.mk 0) = some (.inr true) ∨ (iter (F33_s3 slot u) big (F33_L3.mk 0) = some (.inl (F33_L3.mk (u.V.length : Int))) ∧ ∀ i, i < u.V.length → ∀ y, u.V[i]? = some y → y.Slot ≤ slot) := by
  refine scan_loop (n := u.V.length) (fun k => F33_L3.mk (k : Int)) true (fun i => ∀ y, u.V[i]? = some y → y.Slot ≤ slot) (fun i hi => ?_) ?_ (by omega)
  · obtain ⟨y, hy, -⟩ := get_of hi
    unfold F33_s3
    simp only
    rw [decide_eq_true (show (i : Int) < (u.V.length : Int) by omega), ct, ix_nat hy, ob, wrap_succ (n := i) (by omega)]
    by_cases hs : y.Slot > slot
    · rw [decide_eq_true hs, ct]; exact .inl rfl
    · rw [decide_eq_false hs, cf]; exact .inr ⟨rfl, fun y' h => by rw [hy] at h; cases h; omega⟩
  · unfold F33_s3
    simp only
    rw [decide_eq_false (show ¬ (u.V.length : Int) < (u.V.length : Int) by omega), cf]
theorem F163_eq {l : List Vt} (hl : l.length ≤ 100000) (v : Vt) : F163 l v = some ((l.filter fun y => decide (y = v)).length : Int) := by
  have e := count_loop (step := F163_s1 l v) (n := l.length) (fun k => F163_L1.mk (((l.take k).filter fun y => decide (y = v)).length : Int) (k : Int)) (F163_L1.mk ((l.filter fun y => decide (y = v)).length : Int) (l.length : Int)) (fun k hk => by
    obtain ⟨y, hy, -⟩ := get_of hk
    have hf := filter_take_len (p := fun y => decide (y = v)) (l := l) k
    unfold F163_s1
    simp only
    rw [decide_eq_true (show (k : Int) < (l.length : Int) by omega), ct, ix_nat hy, ob, eqVt, filter_len_snoc hy, wrap_succ (n := k) (by omega), wrap_succ (n := _) (by omega)]
    cases decide (y = v) with
    | true => rw [ct, ct]
    | false => rw [cf, cf]; rfl) (by
    unfold F163_s1
    simp only
    rw [decide_eq_false (show ¬ (l.length : Int) < (l.length : Int) by omega), cf, List.take_length]) (by omega)
  have e' : iter (F163_s1 l v) big (F163_L1.mk 0 0) = some (F163_L1.mk ((l.filter fun y => decide (y = v)).length : Int) (l.length : Int)) := e
  unfold F163
  rw [e', ob]
theorem count_zero {l : List Vt} {v : Vt} : (((l.filter fun y => decide (y = v)).length : Int) == 0) = !decide (v ∈ l) := by
  by_cases h : v ∈ l
  · rw [decide_eq_true h]
    have : 0 < (l.filter fun y => decide (y = v)).length := List.length_pos_of_mem (List.mem_filter.2 ⟨h, decide_eq_true rfl⟩)
    rw [beq_eq_false_iff_ne.2 (by omega)]; rfl
  · rw [decide_eq_false h, List.filter_eq_nil_iff.2 fun y hy he => h (by rw [← of_decide_eq_true he]; exact hy)]; rfl
theorem F141_eq {a b : Vw} (h1 : a.B.length + b.B.length ≤ 90000) (h2 : a.V.length + b.V.length ≤ 90000) : F141 a b = some (joinP a b) := by
  have e1 := count_loop (step := F141_s1 b) (n := b.B.length) (fun k => F141_L1.mk (k : Int) (withP a.B (b.B.take k))) (F141_L1.mk (b.B.length : Int) (withP a.B b.B)) (fun k hk => by
    obtain ⟨y, hy, -⟩ := get_of hk
    have hlen := withP_len (b.B.take k) a.B
    have htl : (b.B.take k).length ≤ k := by rw [List.length_take]; omega
    rw [take_succ_getG hy, withP_snoc]
    generalize withP a.B (b.B.take k) = o at hlen ⊢
    have e := count_loop (step := F141_s2 b (F141_L1.mk (k : Int) o)) (n := o.length) (fun j => F141_L2.mk (decide (y ∈ o.take j)) (j : Int)) (F141_L2.mk (decide (y ∈ o)) (o.length : Int)) (fun j hj => by
      obtain ⟨z, hz, -⟩ := get_of hj
      unfold F141_s2
      simp only
      rw [decide_eq_true (show (j : Int) < (o.length : Int) by omega), ct, wrap_succ (n := j) (by omega), take_succ_getG hz]
      by_cases hm : y ∈ o.take j
      · rw [decide_eq_true hm, ct, decide_eq_true (List.mem_append_left _ hm)]
      · rw [decide_eq_false hm, cf, ix_nat hz, ob, ix_nat hy, ob, eqBk]
        rw [show decide (y ∈ o.take j ++ [z]) = decide (z = y) from decide_eq_decide.2 ⟨fun h => by
          rcases List.mem_append.1 h with h | h
          · exact absurd h hm
          · exact (List.mem_singleton.1 h).symm, fun h => List.mem_append_right _ (List.mem_singleton.2 h.symm)⟩]) (by
      unfold F141_s2
      simp only
      rw [decide_eq_false (show ¬ (o.length : Int) < (o.length : Int) by omega), cf, List.take_length]) (by omega)
    have e' : iter (F141_s2 b (F141_L1.mk (k : Int) o)) big (F141_L2.mk false 0) = some (F141_L2.mk (decide (y ∈ o)) (o.length : Int)) := e
    unfold F141_s1
    simp only
    rw [decide_eq_true (show (k : Int) < (b.B.length : Int) by omega), ct, e', ob, wrap_succ (n := k) (by omega)]
    by_cases hm : y ∈ o
    · simp only [decide_eq_true hm, Bool.not_true, cf, if_pos hm]
    · simp only [decide_eq_false hm, Bool.not_false, ct, if_neg hm]
      rw [ix_nat hy, ob, room_ok (by simp only [List.length_singleton]; omega) (by omega), ct]) (by
    unfold F141_s1
    simp only
    rw [decide_eq_false (show ¬ (b.B.length : Int) < (b.B.length : Int) by omega), cf, List.take_length]) (by omega)
  have e1' : iter (F141_s1 b) big (F141_L1.mk 0 a.B) = some (F141_L1.mk (b.B.length : Int) (withP a.B b.B)) := e1
  have e2 := count_loop (step := F141_s3 b) (n := b.V.length) (fun k => F141_L3.mk (k : Int) (withP a.V (b.V.take k))) (F141_L3.mk (b.V.length : Int) (withP a.V b.V)) (fun k hk => by
    obtain ⟨y, hy, -⟩ := get_of hk
    have hlen := withP_len (b.V.take k) a.V
    have htl : (b.V.take k).length ≤ k := by rw [List.length_take]; omega
    rw [take_succ_getG hy, withP_snoc]
    generalize withP a.V (b.V.take k) = o at hlen ⊢
    unfold F141_s3
    simp only
    rw [decide_eq_true (show (k : Int) < (b.V.length : Int) by omega), ct, ix_nat hy, ob, F163_eq (by omega), ob, count_zero, wrap_succ (n := k) (by omega)]
    by_cases hm : y ∈ o
    · simp only [decide_eq_true hm, Bool.not_true, cf, if_pos hm]
    · simp only [decide_eq_false hm, Bool.not_false, ct, if_neg hm]
      rw [ob, room_ok (by simp only [List.length_singleton]; omega) (by omega), ct]) (by
    unfold F141_s3
    simp only
    rw [decide_eq_false (show ¬ (b.V.length : Int) < (b.V.length : Int) by omega), cf, List.take_length]) (by omega)
  have e2' : iter (F141_s3 b) big (F141_L3.mk 0 a.V) = some (F141_L3.mk (b.V.length : Int) (withP a.V b.V)) := e2
  unfold F141
  rw [room_ok (by omega) (by omega), ct, room_ok (by omega) (by omega), ct, e1', ob, e2', ob]
  rfl
theorem nodup_same {α : Type} [DecidableEq α] {a b : List α} (ha : a.Nodup) (hb : b.Nodup) (h : ∀ x, x ∈ a ↔ x ∈ b) : a.length = b.length :=
  Nat.le_antisymm (nodup_len ha fun x hx => (h x).1 hx) (nodup_len hb fun x hx => (h x).2 hx)
theorem F92_same {a b : Vw} (h1 : a.B.length ≤ 1000) (h2 : a.V.length ≤ 1000) (n1 : a.B.Nodup) (n2 : b.B.Nodup) (n3 : a.V.Nodup) (n4 : b.V.Nodup) (hB : ∀ x, x ∈ a.B ↔ x ∈ b.B) (hV : ∀ x, x ∈ a.V ↔ x ∈ b.V) : F92 a b = some true := by
  have lB := nodup_same n1 n2 hB
  have lV := nodup_same n3 n4 hV
  have hj : joinP a b = a := by
    unfold joinP
    rw [withP_sub fun x hx => (hB x).2 hx, withP_sub fun x hx => (hV x).2 hx]
  unfold F92
  rw [F141_eq (by omega) (by omega), hj]
  simp [lB, lV]
theorem took_pre {c : Cf} {w i : Vw} {upto : Int} {r : Vw × Vw × Bool} (h : Took c w i upto r) : Sb w r.1 := by
  obtain ⟨t, ht, -⟩ := h.preB
  obtain ⟨u, hu, -⟩ := h.preV
  exact ⟨fun b hb => by rw [ht]; exact List.mem_append_left _ hb, fun v hv => by rw [hu]; exact List.mem_append_left _ hv⟩
theorem only_mem {c : Cf} {w : Vw} : (∀ b, b ∈ (onlyP c w).B ↔ b ∈ w.B ∧ mayB c b = true) ∧ ∀ v, v ∈ (onlyP c w).V ↔ v ∈ w.V ∧ mayV c v = true := ⟨fun _ => List.mem_filter, fun _ => List.mem_filter⟩
theorem forB_sub {B C : List Bk} (h : ValidB B) (h2 : ValidB C) (hs : ∀ b ∈ B, b ∈ C) {v : Vt} (hf : forB B v) : forB C v := by
  obtain ⟨s, h3, h4⟩ := hf
  exact ⟨s, slotQ_sub h h2 hs h3, h4⟩
theorem join_mem {a b : Vw} : (∀ x, x ∈ (joinP a b).B ↔ x ∈ a.B ∨ x ∈ b.B) ∧ ∀ x, x ∈ (joinP a b).V ↔ x ∈ a.V ∨ x ∈ b.V := ⟨fun x => withP_mem x b.B a.B, fun x => withP_mem x b.V a.V⟩
theorem join_sb (a b : Vw) : Sb a (joinP a b) ∧ Sb b (joinP a b) :=
  ⟨⟨fun x h => (join_mem.1 x).2 (.inl h), fun x h => (join_mem.2 x).2 (.inl h)⟩, fun x h => (join_mem.1 x).2 (.inr h), fun x h => (join_mem.2 x).2 (.inr h)⟩
/-- What another view has, of slots not too late, is counted whole. -/
theorem take_whole {c : Cf} {a b U : Vw} {upto : Int} {r : Vw × Vw × Bool} (h : Took c a b upto r) (hb : MayW c b) (hr : Rm U) (h1 : Sb a U) (h2 : Sb b U) (hB : ∀ x ∈ b.B, x.Slot ≤ upto) (hV : ∀ x ∈ b.V, x.Slot ≤ upto) : Sb b r.1 ∧ r.2.1.B = [] ∧ r.2.1.V = [] := by
  have hall : ∀ k, k ≤ b.B.length → ∀ x ∈ b.B.take k, x ∈ r.1.B := by
    intro k
    induction k with
    | zero => intro _ x hx; simp at hx
    | succ k ih =>
      intro hk x hx
      obtain ⟨y, hy, hmem⟩ := get_of (l := b.B) (n := k) (by omega)
      have hv := valid_take hb.valid (k + 1)
      rw [take_succ_getG hy] at hx hv
      rcases List.mem_append.1 hx with hx | hx
      · exact ih (by omega) x hx
      · rw [List.mem_singleton] at hx
        subst hx
        obtain ⟨hv0, ⟨s, hs1, hs2⟩, -⟩ := valid_snoc.1 hv
        exact took_in h hr h1 h2 ((only_mem.1 x).2 ⟨hmem, hb.mayB x hmem⟩) (hB x hmem) (slotQ_sub hv0 h.may.valid (ih (by omega)) hs1) hs2
  have hBs : ∀ x ∈ b.B, x ∈ r.1.B := fun x hx => hall _ (Nat.le_refl _) x (by rw [List.take_length]; exact hx)
  have hVs : ∀ x ∈ b.V, x ∈ r.1.V := fun x hx => (took_V h hr h1 h2 x).2 (.inr ⟨(only_mem.2 x).2 ⟨hx, hb.mayV x hx⟩, hV x hx, forB_sub hb.valid h.may.valid hBs (hb.forB x hx)⟩)
  refine ⟨⟨hBs, hVs⟩, List.eq_nil_iff_forall_not_mem.2 fun x hx => ?_, List.eq_nil_iff_forall_not_mem.2 fun x hx => ?_⟩
  · have h3 := (h.endB x hx).1
    rw [goneB_self (hBs x ((only_mem.1 x).1 (h.subB.subset hx)).1)] at h3; cases h3
  · have h3 := (h.endV x hx).1
    rw [goneV_self (hVs x ((only_mem.2 x).1 (h.subV.subset hx)).1)] at h3; cases h3
theorem may_same {c : Cf} {a b : Vw} (h1 : MayW c a) (h2 : MayW c b) (hab : Sb a b) (hba : Sb b a) : F92 a b = some true := by
  have l1 := h1.lenB
  have l2 := h1.lenV
  exact F92_same (by omega) (by omega) (nodup_of_names h1.valid) (nodup_of_names h2.valid) h1.nodup h2.nodup (fun x => ⟨hab.1 x, hba.1 x⟩) (fun x => ⟨hab.2 x, hba.2 x⟩)
open Classical in
theorem viMeets (c : Cf) (a b : Vw) (slot : Int) : F33 c a b slot = some true := by
  unfold F33
  rw [F83_eq, ob, F84_eq, ob, F84_eq, ob, Bool.not_true, cf]
  by_cases hf : (a.B.length : Int) ≤ 25 ∧ (a.V.length : Int) ≤ 25
  · rw [decide_eq_true hf, Bool.not_true, cf]
    by_cases hi : (b.B.length : Int) ≤ 25 ∧ (b.V.length : Int) ≤ 25
    · rw [decide_eq_true hi, Bool.not_true, cf]
      by_cases h0 : (c.W.length : Int) > 40
      · rw [decide_eq_true h0, ct, ob, ct]
      · rw [decide_eq_false h0, cf, F89_eq (by omega) (by omega), ob]
        by_cases hm : MayW c a
        · rw [decide_eq_true hm, Bool.not_true, cf, F89_eq (by omega) (by omega), ob, ob]
          by_cases hmb : MayW c b
          · rw [decide_eq_true hmb, Bool.not_true, cf, F91_eq (by omega) (by omega), ob]
            obtain ⟨l1, l2, l3, l4⟩ := join_len a b
            rcases F33_clash (u := joinP a b) (slot := slot) (by omega) with e | ⟨e, hc⟩
            · rw [e, ob, sr]
            · rw [e, ob, sl]
              rcases F33_slots (u := joinP a b) (slot := slot) (by omega) with e2 | ⟨e2, hc2⟩
              · rw [e2, ob, sr]
              · have hr : Rm (joinP a b) := ⟨inj_of fun i hi => (hc i hi).1, by omega, by omega⟩
                obtain ⟨ha, hb⟩ := join_sb a b
                have sB : ∀ x ∈ (joinP a b).B, x.Slot ≤ slot := fun x hx => by
                  obtain ⟨n, hn⟩ := List.getElem?_of_mem hx
                  exact (hc n (List.getElem?_eq_some_iff.1 hn).1).2 x hn
                have sV : ∀ x ∈ (joinP a b).V, x.Slot ≤ slot := fun x hx => by
                  obtain ⟨n, hn⟩ := List.getElem?_of_mem hx
                  exact hc2 n (List.getElem?_eq_some_iff.1 hn).1 x hn
                have f1 := take_free (upto := slot) hm hr ha hb
                have f2 := take_free (upto := slot) hmb hr hb ha
                have h11 := took hm b slot
                have h12 := took hmb a slot
                rw [e2, ob, sl, F90_eq (by omega) (by omega) (by omega) (by omega), ob, F90_eq (by omega) (by omega) (by omega) (by omega), ob]
                generalize takeP c a b slot = r at f1 h11 ⊢
                generalize takeP c b a slot = q at f2 h12 ⊢
                obtain ⟨w1, w2, w3⟩ := take_whole h11 hmb hr ha hb (fun x hx => sB x (hb.1 x hx)) (fun x hx => sV x (hb.2 x hx))
                obtain ⟨w4, w5, w6⟩ := take_whole h12 hm hr hb ha (fun x hx => sB x (ha.1 x hx)) (fun x hx => sV x (ha.2 x hx))
                have p1 := took_pre h11
                have p2 := took_pre h12
                have u1 := (took_sb h11 ha hb).1
                have u2 := (took_sb h12 hb ha).1
                have t1 : Sb (joinP a b) r.1 := ⟨fun x hx => ((join_mem.1 x).1 hx).elim (p1.1 x) (w1.1 x), fun x hx => ((join_mem.2 x).1 hx).elim (p1.2 x) (w1.2 x)⟩
                have t2 : Sb (joinP a b) q.1 := ⟨fun x hx => ((join_mem.1 x).1 hx).elim (w4.1 x) (p2.1 x), fun x hx => ((join_mem.2 x).1 hx).elim (w4.2 x) (p2.2 x)⟩
                have m1 := h11.may.lenB
                have m2 := h11.may.lenV
                rw [may_same h11.may h12.may ⟨fun x hx => t2.1 x (u1.1 x hx), fun x hx => t2.2 x (u1.2 x hx)⟩ ⟨fun x hx => t1.1 x (u2.1 x hx), fun x hx => t1.2 x (u2.2 x hx)⟩, ob,
                  F92_same (by omega) (by omega) (nodup_of_names h11.may.valid) (withP_nodup (nodup_of_names hm.valid)) h11.may.nodup (withP_nodup hm.nodup) (fun x => ⟨u1.1 x, t1.1 x⟩) (fun x => ⟨u1.2 x, t1.2 x⟩), ob, f1, Bool.not_false, ct, f2, Bool.not_false, ct, ct, ct, w2, w3, w5, w6]
                rfl
          · rw [decide_eq_false hmb, Bool.not_false, ct]
        · rw [decide_eq_false hm, Bool.not_false, ct, ob, ct]
    · rw [decide_eq_false hi, Bool.not_false, ct, ob, ct]
  · rw [decide_eq_false hf, Bool.not_false, ct, ob, ct]
end Go.Mg
