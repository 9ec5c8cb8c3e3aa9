/- Laws of views. Laws of views: ViewOnly, ViewJoin. Laws of views. Laws of views. Laws of views: ViewMay, ViewKeeps. Conditions: none. -/
import Derived.Test.YtlhocfhoocmfiaaV2
import Derived.Test.YtlhocfhoocmfiaaV3
namespace Go.Mg
open Go.Proofs
structure F29_L1 where
  n : Int
  i : Int
structure F29_L2 where
  n : Int
  i : Int
open Go.Proofs
structure F30_L1 where
  i : Int
structure F30_L2 where
  i : Int
def F30_s1 (c : Cf) (w : Vw) (x1 : F30_L1) : Option (F30_L1 ⊕ (F30_L1 ⊕ Bool)) :=
  bif decide (x1.i < (w.B.length : Int)) then
    (ix w.B x1.i).bind fun y1 =>
    (ix w.B x1.i).bind fun y2 =>
    (F63 c y2.Slot).bind fun v6 =>
    bif y1.From != v6 then
      some (.inr (.inr false))
    else
      some (.inl (F30_L1.mk (IntKind.i64.wrap (x1.i + 1))))
  else
    some (.inr (.inl (F30_L1.mk x1.i)))
def F30_s2 (c : Cf) (w : Vw) (x2 : F30_L2) : Option (F30_L2 ⊕ (F30_L2 ⊕ Bool)) :=
  bif decide (x2.i < (w.V.length : Int)) then
    (ix w.V x2.i).bind fun y3 =>
    (F43 w.B y3.Head).bind fun v8 =>
    bif !v8.2 then
      some (.inr (.inr false))
    else
      (ix w.V x2.i).bind fun y4 =>
      bif decide (v8.1 > y4.Slot) then
        some (.inr (.inr false))
      else
        (ix w.V x2.i).bind fun y5 =>
        (ix w.V x2.i).bind fun y6 =>
        (F74 c y5.Slot y6.From).bind fun v9 =>
        bif !v9 then
          some (.inr (.inr false))
        else
          some (.inl (F30_L2.mk (IntKind.i64.wrap (x2.i + 1))))
  else
    some (.inr (.inl (F30_L2.mk x2.i)))
def F30 (c : Cf) (w : Vw) (v_at : Int) : Option Bool :=
  (F83 ).bind fun v1 =>
  (F84 w 40).bind fun v2 =>
  (
    bif !v1 then
      some true
    else
      bif !v2 then
        some true
      else
        bif decide ((c.W.length : Int) > 40) then
          some true
        else
          (F89 c w).bind fun v4 =>
          bif !v4 then
            some true
          else
            bif decide (v_at < 0) then
              some true
            else
              some (decide (v_at > (w.B.length : Int)))
  ).bind fun v3 =>
  bif v3 then
    some v1
  else
    (iter (F30_s1 c w) big (F30_L1.mk 0)).bind fun b_v5 => Sum.elim (fun _ =>
      (iter (F30_s2 c w) big (F30_L2.mk 0)).bind fun b_v7 => Sum.elim (fun _ =>
        (F52 w.B).bind fun v10 =>
        bif v10 then
          bif inL w.B 0 v_at then
            (F89 c (Vw.mk (w.B.take v_at.toNat) [])).bind fun v11 =>
            bif v11 then
              bif inL w.V 0 (IntKind.i64.wrap ((w.V.length : Int).tdiv 2)) then
                (F89 c (Vw.mk w.B (w.V.take (IntKind.i64.wrap ((w.V.length : Int).tdiv 2)).toNat))).bind fun v12 =>
                some v12
              else none
            else
              some false
          else none
        else
          some false) some b_v7) some b_v5
set_option maxRecDepth 100000 in
theorem c30 {c : Cf} {w : Vw} {v_at : Int} {r_ : Bool} (hr : F30 c w v_at = some r_) : LPure Try.prog 30 [cfP c, vwP w, .int .i64 v_at] [.bool r_] := by
  refine LPure.start Try.func30 rfl rfl rfl rfl ?_
  unfold F30 at hr
  refine LW.seq ?_
  refine LW.region ?_
  refine LOps.st rfl rfl rfl (LOp.box rfl rfl rfl rfl rfl) ?_
  refine LOps.st rfl rfl rfl (LOp.box rfl rfl rfl rfl rfl) ?_
  refine LOps.st rfl rfl rfl (LOp.assign rfl rfl) ?_
  refine LOps.nil ?_
  refine thn_n ?_
  refine LW.seq ?_
  refine LW.region ?_
  obtain ⟨v1, h_v1, hr⟩ := bind_get hr
  refine LOps.st rfl rfl rfl (LOp.call rfl rfl rfl (by kernel_rfl) (LC.pure (c83 h_v1) .nil)) ?_
  refine LOps.st rfl rfl rfl (LOp.assign rfl rfl) ?_
  refine LOps.nil ?_
  refine thn_n ?_
  refine LW.seq ?_
  refine LW.region ?_
  refine LOps.st rfl rfl rfl (LOp.load rfl rfl rfl vt75 rfl rfl) ?_
  obtain ⟨v2, h_v2, hr⟩ := bind_get hr
  refine LOps.st rfl rfl rfl (LOp.call rfl rfl rfl (by kernel_rfl) (LC.pure (c84 h_v2) (.cons Conv.p (.cons Conv.p .nil)))) ?_
  refine LOps.st rfl rfl rfl (LOp.assign rfl rfl) ?_
  refine LOps.nil ?_
  refine thn_n ?_
  refine LW.seq ?_
  obtain ⟨v3, hb_v3, ho_v3⟩ := bind_get hr
  clear hr
  refine LW.cut (E := [(2, .p (.int .i64 v_at)), (3, .ptr 0 0), (4, .ptr 1 0), (6, .p (.bool false)), (7, .p (.bool v1)), (44, .p (.bool v3))]) (O := [.box [.p (.slice 1 (c.W.map i64P)), .p (.int .u64 c.Seed), .p (.int .i64 c.Epoch), .p (.int .i64 c.Num), .p (.int .i64 c.Den)], .box [.p (.slice 5 (w.B.map blkP)), .p (.slice 4 (w.V.map vtP))]]) ?_ ?_
  · have hr := hb_v3
    refine LW.region ?_
    refine LOps.st rfl rfl rfl (LOp.move rfl rfl) ?_
    refine LOps.st rfl rfl rfl (LOp.not rfl rfl) ?_
    refine LOps.st rfl rfl rfl (LOp.move rfl rfl) ?_
    refine LOps.cases 18 rfl (fun (g1 : (!v1) = true) => ?_) (fun (g1 : (!v1) = false) => ?_)
    · -- g1 is True
      have hr := ite_t g1 hr
      refine LOps.sk rfl rfl rfl (gd g1 rfl) rfl rfl ?_
      refine LOps.sk rfl rfl rfl (gd g1 rfl) rfl rfl ?_
      refine LOps.st rfl rfl rfl (LOp.pickT rfl (gdl g1 rfl) rfl) ?_
      refine LOps.st rfl rfl rfl (LOp.move rfl rfl) ?_
      refine LOps.sk rfl rfl rfl rfl rfl rfl ?_
      refine LOps.sk rfl rfl rfl rfl rfl rfl ?_
      refine LOps.sk rfl rfl rfl rfl rfl rfl ?_
      refine LOps.sk rfl rfl rfl rfl rfl rfl ?_
      refine LOps.st rfl rfl rfl (LOp.pickT rfl rfl rfl) ?_
      refine LOps.st rfl rfl rfl (LOp.move rfl rfl) ?_
      refine LOps.sk rfl rfl rfl rfl rfl rfl ?_
      refine LOps.sk rfl rfl rfl rfl rfl rfl ?_
      refine LOps.sk rfl rfl rfl rfl rfl rfl ?_
      refine LOps.sk rfl rfl rfl rfl rfl rfl ?_
      refine LOps.st rfl rfl rfl (LOp.pickT rfl rfl rfl) ?_
      refine LOps.st rfl rfl rfl (LOp.move rfl rfl) ?_
      refine LOps.sk rfl rfl rfl rfl rfl rfl ?_
      refine LOps.sk rfl rfl rfl rfl rfl rfl ?_
      refine LOps.st rfl rfl rfl (LOp.pickT rfl rfl rfl) ?_
      refine LOps.st rfl rfl rfl (LOp.move rfl rfl) ?_
      refine LOps.sk rfl rfl rfl rfl rfl rfl ?_
      refine LOps.sk rfl rfl rfl rfl rfl rfl ?_
      refine LOps.sk rfl rfl rfl rfl rfl rfl ?_
      refine LOps.sk rfl rfl rfl rfl rfl rfl ?_
      refine LOps.sk rfl rfl rfl rfl rfl rfl ?_
      refine LOps.st rfl rfl rfl (LOp.pickT rfl rfl rfl) ?_
      refine LOps.nil ?_
      refine thn_n ?_
      obtain rfl := Option.some.inj hr
      exact Weak.of 2 ⟨rfl, rfl, rfl, rfl, rfl, rfl, trivial⟩ rfl rfl rfl rfl
    · -- g1 is False
      have hr := ite_f g1 hr
      refine LOps.gd rfl rfl rfl (gd g1 rfl) rfl (LOp.move rfl rfl) ?_
      refine LOps.gd rfl rfl rfl (gd g1 rfl) rfl (LOp.not rfl rfl) ?_
      refine LOps.st rfl rfl rfl (LOp.pickF rfl (gdl g1 rfl) rfl) ?_
      refine LOps.st rfl rfl rfl (LOp.move rfl rfl) ?_
      refine LOps.cases 22 rfl (fun (g2 : (!v2) = true) => ?_) (fun (g2 : (!v2) = false) => ?_)
      · -- g2 is True
        have hr := ite_t g2 hr
        refine LOps.sk rfl rfl rfl (gd g2 rfl) rfl rfl ?_
        refine LOps.sk rfl rfl rfl (gd g2 rfl) rfl rfl ?_
        refine LOps.sk rfl rfl rfl (gd g2 rfl) rfl rfl ?_
        refine LOps.sk rfl rfl rfl (gd g2 rfl) rfl rfl ?_
        refine LOps.st rfl rfl rfl (LOp.pickT rfl (gdl g2 rfl) rfl) ?_
        refine LOps.st rfl rfl rfl (LOp.move rfl rfl) ?_
        refine LOps.sk rfl rfl rfl rfl rfl rfl ?_
        refine LOps.sk rfl rfl rfl rfl rfl rfl ?_
        refine LOps.sk rfl rfl rfl rfl rfl rfl ?_
        refine LOps.sk rfl rfl rfl rfl rfl rfl ?_
        refine LOps.st rfl rfl rfl (LOp.pickT rfl rfl rfl) ?_
        refine LOps.st rfl rfl rfl (LOp.move rfl rfl) ?_
        refine LOps.sk rfl rfl rfl rfl rfl rfl ?_
        refine LOps.sk rfl rfl rfl rfl rfl rfl ?_
        refine LOps.st rfl rfl rfl (LOp.pickT rfl rfl rfl) ?_
        refine LOps.st rfl rfl rfl (LOp.move rfl rfl) ?_
        refine LOps.sk rfl rfl rfl rfl rfl rfl ?_
        refine LOps.sk rfl rfl rfl rfl rfl rfl ?_
        refine LOps.sk rfl rfl rfl rfl rfl rfl ?_
        refine LOps.sk rfl rfl rfl rfl rfl rfl ?_
        refine LOps.sk rfl rfl rfl rfl rfl rfl ?_
        refine LOps.st rfl rfl rfl (LOp.pickT rfl rfl rfl) ?_
        refine LOps.nil ?_
        refine thn_n ?_
        obtain rfl := Option.some.inj hr
        exact Weak.of 2 ⟨rfl, rfl, rfl, rfl, rfl, rfl, trivial⟩ rfl rfl rfl rfl
      · -- g2 is False
        have hr := ite_f g2 hr
        refine LOps.gd rfl rfl rfl (gd g2 rfl) rfl (LOp.fieldAddr rfl rfl ft55_0) ?_
        refine LOps.gd rfl rfl rfl (gd g2 rfl) rfl (LOp.load rfl rfl rfl vt49 rfl rfl) ?_
        refine LOps.gd rfl rfl rfl (gd g2 rfl) rfl (LOp.lenM rfl rfl (by kernel_rfl)) ?_
        refine LOps.gd rfl rfl rfl (gd g2 rfl) rfl (LOp.bin rfl rfl rfl rfl) ?_
        refine LOps.st rfl rfl rfl (LOp.pickF rfl (gdl g2 rfl) rfl) ?_
        refine LOps.st rfl rfl rfl (LOp.move rfl rfl) ?_
        refine LOps.cases 28 rfl (fun (g3 : (decide ((c.W.length : Int) > 40)) = true) => ?_) (fun (g3 : (decide ((c.W.length : Int) > 40)) = false) => ?_)
        · -- g3 is True
          have hr := ite_t g3 hr
          refine LOps.sk rfl rfl rfl (gd g3 rfl) rfl rfl ?_
          refine LOps.sk rfl rfl rfl (gd g3 rfl) rfl rfl ?_
          refine LOps.sk rfl rfl rfl (gd g3 rfl) rfl rfl ?_
          refine LOps.sk rfl rfl rfl (gd g3 rfl) rfl rfl ?_
          refine LOps.st rfl rfl rfl (LOp.pickT rfl (gdl g3 rfl) rfl) ?_
          refine LOps.st rfl rfl rfl (LOp.move rfl rfl) ?_
          refine LOps.sk rfl rfl rfl rfl rfl rfl ?_
          refine LOps.sk rfl rfl rfl rfl rfl rfl ?_
          refine LOps.st rfl rfl rfl (LOp.pickT rfl rfl rfl) ?_
          refine LOps.st rfl rfl rfl (LOp.move rfl rfl) ?_
          refine LOps.sk rfl rfl rfl rfl rfl rfl ?_
          refine LOps.sk rfl rfl rfl rfl rfl rfl ?_
          refine LOps.sk rfl rfl rfl rfl rfl rfl ?_
          refine LOps.sk rfl rfl rfl rfl rfl rfl ?_
          refine LOps.sk rfl rfl rfl rfl rfl rfl ?_
          refine LOps.st rfl rfl rfl (LOp.pickT rfl rfl rfl) ?_
          refine LOps.nil ?_
          refine thn_n ?_
          obtain rfl := Option.some.inj hr
          exact Weak.of 2 ⟨rfl, rfl, rfl, rfl, rfl, rfl, trivial⟩ rfl rfl rfl rfl
        · -- g3 is False
          have hr := ite_f g3 hr
          refine LOps.gd rfl rfl rfl (gd g3 rfl) rfl (LOp.load rfl rfl rfl vt55 rfl rfl) ?_
          refine LOps.gd rfl rfl rfl (gd g3 rfl) rfl (LOp.load rfl rfl rfl vt75 rfl rfl) ?_
          obtain ⟨v4, h_v4, hr⟩ := bind_get hr
          refine LOps.gd rfl rfl rfl (gd g3 rfl) rfl (LOp.call rfl rfl rfl (by kernel_rfl) (LC.pure (c89 h_v4) (.cons Conv.p (.cons Conv.p .nil)))) ?_
          refine LOps.gd rfl rfl rfl (gd g3 rfl) rfl (LOp.not rfl rfl) ?_
          refine LOps.st rfl rfl rfl (LOp.pickF rfl (gdl g3 rfl) rfl) ?_
          refine LOps.st rfl rfl rfl (LOp.move rfl rfl) ?_
          refine LOps.cases 34 rfl (fun (g4 : (!v4) = true) => ?_) (fun (g4 : (!v4) = false) => ?_)
          · -- g4 is True
            have hr := ite_t g4 hr
            refine LOps.sk rfl rfl rfl (gd g4 rfl) rfl rfl ?_
            refine LOps.sk rfl rfl rfl (gd g4 rfl) rfl rfl ?_
            refine LOps.st rfl rfl rfl (LOp.pickT rfl (gdl g4 rfl) rfl) ?_
            refine LOps.st rfl rfl rfl (LOp.move rfl rfl) ?_
            refine LOps.sk rfl rfl rfl rfl rfl rfl ?_
            refine LOps.sk rfl rfl rfl rfl rfl rfl ?_
            refine LOps.sk rfl rfl rfl rfl rfl rfl ?_
            refine LOps.sk rfl rfl rfl rfl rfl rfl ?_
            refine LOps.sk rfl rfl rfl rfl rfl rfl ?_
            refine LOps.st rfl rfl rfl (LOp.pickT rfl rfl rfl) ?_
            refine LOps.nil ?_
            refine thn_n ?_
            obtain rfl := Option.some.inj hr
            exact Weak.of 2 ⟨rfl, rfl, rfl, rfl, rfl, rfl, trivial⟩ rfl rfl rfl rfl
          · -- g4 is False
            have hr := ite_f g4 hr
            refine LOps.gd rfl rfl rfl (gd g4 rfl) rfl (LOp.move rfl rfl) ?_
            refine LOps.gd rfl rfl rfl (gd g4 rfl) rfl (LOp.bin rfl rfl rfl rfl) ?_
            refine LOps.st rfl rfl rfl (LOp.pickF rfl (gdl g4 rfl) rfl) ?_
            refine LOps.st rfl rfl rfl (LOp.move rfl rfl) ?_
            refine LOps.cases 38 rfl (fun (g5 : (decide (v_at < 0)) = true) => ?_) (fun (g5 : (decide (v_at < 0)) = false) => ?_)
            · -- g5 is True
              have hr := ite_t g5 hr
              refine LOps.sk rfl rfl rfl (gd g5 rfl) rfl rfl ?_
              refine LOps.sk rfl rfl rfl (gd g5 rfl) rfl rfl ?_
              refine LOps.sk rfl rfl rfl (gd g5 rfl) rfl rfl ?_
              refine LOps.sk rfl rfl rfl (gd g5 rfl) rfl rfl ?_
              refine LOps.sk rfl rfl rfl (gd g5 rfl) rfl rfl ?_
              refine LOps.st rfl rfl rfl (LOp.pickT rfl (gdl g5 rfl) rfl) ?_
              refine LOps.nil ?_
              refine thn_n ?_
              obtain rfl := Option.some.inj hr
              exact Weak.of 2 ⟨rfl, rfl, rfl, rfl, rfl, rfl, trivial⟩ rfl rfl rfl rfl
            · -- g5 is False
              have hr := ite_f g5 hr
              refine LOps.gd rfl rfl rfl (gd g5 rfl) rfl (LOp.move rfl rfl) ?_
              refine LOps.gd rfl rfl rfl (gd g5 rfl) rfl (LOp.fieldAddr rfl rfl ft75_0) ?_
              refine LOps.gd rfl rfl rfl (gd g5 rfl) rfl (LOp.load rfl rfl rfl vt27 rfl rfl) ?_
              refine LOps.gd rfl rfl rfl (gd g5 rfl) rfl (LOp.lenM rfl rfl (by kernel_rfl)) ?_
              refine LOps.gd rfl rfl rfl (gd g5 rfl) rfl (LOp.bin rfl rfl rfl rfl) ?_
              refine LOps.st rfl rfl rfl (LOp.pickF rfl (gdl g5 rfl) rfl) ?_
              refine LOps.nil ?_
              refine thn_n ?_
              obtain rfl := Option.some.inj hr
              exact Weak.of 2 ⟨rfl, rfl, rfl, rfl, rfl, rfl, trivial⟩ rfl rfl rfl rfl
  · have hr := ho_v3
    clear hb_v3
    refine LW.cond rfl (fun (g6 : v3 = true) => ?_) (fun (g6 : v3 = false) => ?_)
    · -- g6 is True
      have hr := ite_t g6 hr
      refine LW.seq ?_
      refine LW.region ?_
      refine LOps.st rfl rfl rfl (LOp.move rfl rfl) ?_
      refine LOps.st rfl rfl rfl (LOp.assign rfl rfl) ?_
      refine LOps.nil ?_
      refine thn_n ?_
      refine LW.ret ?_
      refine thn_r ?_
      obtain rfl := Option.some.inj hr
      refine finP_ret (.one (.tmp rfl)) ?_
      exact Conv.p
    · -- g6 is False
      have hr := ite_f g6 hr
      refine LW.skip ?_
      refine thn_n ?_
      refine LW.seq ?_
      refine LW.seq ?_
      refine LW.region ?_
      refine LOps.st rfl rfl rfl (LOp.assign rfl rfl) ?_
      refine LOps.nil ?_
      refine thn_n ?_
      obtain ⟨b_v5, hb_v5, ho_v5⟩ := bind_get hr
      clear hr
      refine LW.tailB (b := b_v5) (E := fun v5 => [(2, .p (.int .i64 v_at)), (3, .ptr 0 0), (4, .ptr 1 0), (6, .p (.bool false))]) (O := fun v5 => [.box [.p (.slice 1 (c.W.map i64P)), .p (.int .u64 c.Seed), .p (.int .i64 c.Epoch), .p (.int .i64 c.Num), .p (.int .i64 c.Den)], .box [.p (.slice 5 (w.B.map blkP)), .p (.slice 4 (w.V.map vtP))]]) ?_ (fun v5 e_v5 env_v5 H_v5 hw_v5 => ?_)
      · refine LW.block ?_
        refine LW.iterB (E := fun x1 : F30_L1 => [(2, .p (.int .i64 v_at)), (3, .ptr 0 0), (4, .ptr 1 0), (6, .p (.bool false)), (9, .p (.int .i64 x1.i))]) (O := fun x1 => [.box [.p (.slice 1 (c.W.map i64P)), .p (.int .u64 c.Seed), .p (.int .i64 c.Epoch), .p (.int .i64 c.Num), .p (.int .i64 c.Den)], .box [.p (.slice 5 (w.B.map blkP)), .p (.slice 4 (w.V.map vtP))]]) hb_v5 (Weak.of 2 ⟨rfl, rfl, rfl, rfl, rfl, trivial⟩ rfl rfl rfl rfl) (fun x1 z_x1 hr hb_x1 => ?_)
        unfold F30_s1 at hr
        refine LW.seq ?_
        refine LW.seq ?_
        refine LW.region ?_
        refine LOps.st rfl rfl rfl (LOp.move rfl rfl) ?_
        refine LOps.st rfl rfl rfl (LOp.fieldAddr rfl rfl ft75_0) ?_
        refine LOps.st rfl rfl rfl (LOp.load rfl rfl rfl vt27 rfl rfl) ?_
        refine LOps.st rfl rfl rfl (LOp.lenM rfl rfl (by kernel_rfl)) ?_
        refine LOps.st rfl rfl rfl (LOp.bin rfl rfl rfl rfl) ?_
        refine LOps.nil ?_
        refine thn_n ?_
        refine LW.cond rfl (fun (g7 : (decide (x1.i < (w.B.length : Int))) = true) => ?_) (fun (g7 : (decide (x1.i < (w.B.length : Int))) = false) => ?_)
        · -- g7 is True
          have hr := ite_t g7 hr
          refine LW.skip ?_
          refine thn_n ?_
          refine LW.seq ?_
          refine LW.block ?_
          refine LW.seq ?_
          refine LW.draw (by kernel_rfl) (by kernel_rfl) ?_
          refine LO.st rfl rfl rfl (LOp.fieldAddr rfl rfl ft75_0) ?_
          refine LO.st rfl rfl rfl (LOp.load rfl rfl rfl vt27 rfl rfl) ?_
          refine LO.st rfl rfl rfl (LOp.move rfl rfl) ?_
          obtain ⟨y1, h_y1, hr⟩ := bind_get hr
          refine LO.st rfl rfl rfl (LOp.indexAddrX rfl rfl rfl st27 h_y1 rfl) ?_
          refine LO.st rfl rfl rfl (LOp.fieldAddrC rfl rfl ft42_1 rfl) ?_
          refine LO.st rfl rfl rfl (LOp.loadC rfl rfl rfl vt3 rfl rfl) ?_
          refine LO.st rfl rfl rfl (LOp.load rfl rfl rfl vt55 rfl rfl) ?_
          refine LO.st rfl rfl rfl (LOp.fieldAddr rfl rfl ft75_0) ?_
          refine LO.st rfl rfl rfl (LOp.load rfl rfl rfl vt27 rfl rfl) ?_
          refine LO.st rfl rfl rfl (LOp.move rfl rfl) ?_
          obtain ⟨y2, h_y2, hr⟩ := bind_get hr
          refine LO.st rfl rfl rfl (LOp.indexAddrX rfl rfl rfl st27 h_y2 rfl) ?_
          refine LO.st rfl rfl rfl (LOp.fieldAddrC rfl rfl ft42_0 rfl) ?_
          refine LO.st rfl rfl rfl (LOp.loadC rfl rfl rfl vt3 rfl rfl) ?_
          obtain ⟨v6, h_v6, hr⟩ := bind_get hr
          refine LO.st rfl rfl rfl (LOp.call rfl rfl rfl (by kernel_rfl) (LC.pure (c63 h_v6) (.cons Conv.p (.cons Conv.p .nil)))) ?_
          refine LO.st rfl rfl rfl (LOp.bin rfl rfl rfl rfl) ?_
          refine LO.nil ?_
          refine thn_n ?_
          refine LW.cond rfl (fun (g8 : (y1.From != v6) = true) => ?_) (fun (g8 : (y1.From != v6) = false) => ?_)
          · -- g8 is True
            have hr := ite_t g8 hr
            refine LW.seq ?_
            refine LW.region ?_
            refine LOps.st rfl rfl rfl (LOp.assign rfl rfl) ?_
            refine LOps.nil ?_
            refine thn_n ?_
            refine LW.ret ?_
            refine inBlk_r ?_
            refine thn_r ?_
            refine thn_r ?_
            refine inBlk_r ?_
            refine thn_r ?_
            refine thn_r ?_
            obtain rfl := Option.some.inj hr
            have hr := congrArg some (hb_x1 _ rfl)
            obtain rfl := Option.some.inj hr
            have hr := sum_r ho_v5
            obtain rfl := Option.some.inj hr
            refine finP_ret (.one (.tmp rfl)) ?_
            exact Conv.p
          · -- g8 is False
            have hr := ite_f g8 hr
            refine LW.skip ?_
            refine inBlk_n ?_
            refine thn_n ?_
            refine LW.region ?_
            refine LOps.st rfl rfl rfl (LOp.move rfl rfl) ?_
            refine LOps.st rfl rfl rfl (LOp.bin rfl rfl rfl rfl) ?_
            refine LOps.st rfl rfl rfl (LOp.assign rfl rfl) ?_
            refine LOps.nil ?_
            refine thn_n ?_
            obtain rfl := Option.some.inj hr
            exact ⟨_, rfl, Weak.of 2 ⟨rfl, rfl, rfl, rfl, rfl, trivial⟩ rfl rfl rfl rfl⟩
        · -- g7 is False
          have hr := ite_f g7 hr
          refine LW.exit ?_
          refine thn_e ?_
          refine thn_e ?_
          refine inBlk_self ?_
          refine thn_n ?_
          obtain rfl := Option.some.inj hr
          have hr := congrArg some (hb_x1 _ rfl)
          obtain rfl := Option.some.inj hr
          exact ⟨_, rfl, Weak.of 2 ⟨rfl, rfl, rfl, rfl, trivial⟩ rfl rfl rfl rfl⟩
      · obtain rfl := e_v5
        have hr := sum_l ho_v5
        clear hb_v5
        refine thn_n ?_
        refine LW.weak hw_v5 ?_
        refine LW.seq ?_
        refine LW.seq ?_
        refine LW.region ?_
        refine LOps.st rfl rfl rfl (LOp.assign rfl rfl) ?_
        refine LOps.nil ?_
        refine thn_n ?_
        obtain ⟨b_v7, hb_v7, ho_v7⟩ := bind_get hr
        clear hr
        refine LW.tailB (b := b_v7) (E := fun v7 => [(2, .p (.int .i64 v_at)), (3, .ptr 0 0), (4, .ptr 1 0), (6, .p (.bool false))]) (O := fun v7 => [.box [.p (.slice 1 (c.W.map i64P)), .p (.int .u64 c.Seed), .p (.int .i64 c.Epoch), .p (.int .i64 c.Num), .p (.int .i64 c.Den)], .box [.p (.slice 5 (w.B.map blkP)), .p (.slice 4 (w.V.map vtP))]]) ?_ (fun v7 e_v7 env_v7 H_v7 hw_v7 => ?_)
        · refine LW.block ?_
          refine LW.iterB (E := fun x2 : F30_L2 => [(2, .p (.int .i64 v_at)), (3, .ptr 0 0), (4, .ptr 1 0), (6, .p (.bool false)), (10, .p (.int .i64 x2.i))]) (O := fun x2 => [.box [.p (.slice 1 (c.W.map i64P)), .p (.int .u64 c.Seed), .p (.int .i64 c.Epoch), .p (.int .i64 c.Num), .p (.int .i64 c.Den)], .box [.p (.slice 5 (w.B.map blkP)), .p (.slice 4 (w.V.map vtP))]]) hb_v7 (Weak.of 2 ⟨rfl, rfl, rfl, rfl, rfl, trivial⟩ rfl rfl rfl rfl) (fun x2 z_x2 hr hb_x2 => ?_)
          unfold F30_s2 at hr
          refine LW.seq ?_
          refine LW.seq ?_
          refine LW.region ?_
          refine LOps.st rfl rfl rfl (LOp.move rfl rfl) ?_
          refine LOps.st rfl rfl rfl (LOp.fieldAddr rfl rfl ft75_1) ?_
          refine LOps.st rfl rfl rfl (LOp.load rfl rfl rfl vt68 rfl rfl) ?_
          refine LOps.st rfl rfl rfl (LOp.lenM rfl rfl (by kernel_rfl)) ?_
          refine LOps.st rfl rfl rfl (LOp.bin rfl rfl rfl rfl) ?_
          refine LOps.nil ?_
          refine thn_n ?_
          refine LW.cond rfl (fun (g9 : (decide (x2.i < (w.V.length : Int))) = true) => ?_) (fun (g9 : (decide (x2.i < (w.V.length : Int))) = false) => ?_)
          · -- g9 is True
            have hr := ite_t g9 hr
            refine LW.skip ?_
            refine thn_n ?_
            refine LW.seq ?_
            refine LW.block ?_
            refine LW.seq ?_
            refine LW.draw (by kernel_rfl) (by kernel_rfl) ?_
            refine LO.st rfl rfl rfl (LOp.fieldAddr rfl rfl ft75_0) ?_
            refine LO.st rfl rfl rfl (LOp.load rfl rfl rfl vt27 rfl rfl) ?_
            refine LO.st rfl rfl rfl (LOp.fieldAddr rfl rfl ft75_1) ?_
            refine LO.st rfl rfl rfl (LOp.load rfl rfl rfl vt68 rfl rfl) ?_
            refine LO.st rfl rfl rfl (LOp.move rfl rfl) ?_
            obtain ⟨y3, h_y3, hr⟩ := bind_get hr
            refine LO.st rfl rfl rfl (LOp.indexAddrX rfl rfl rfl st68 h_y3 rfl) ?_
            refine LO.st rfl rfl rfl (LOp.fieldAddrC rfl rfl ft82_2 rfl) ?_
            refine LO.st rfl rfl rfl (LOp.loadC rfl rfl rfl vt24 rfl rfl) ?_
            obtain ⟨v8, h_v8, hr⟩ := bind_get hr
            refine LO.st rfl rfl rfl (LOp.call rfl rfl rfl (by kernel_rfl) (LC.pure (c43 h_v8) (.cons Conv.p (.cons Conv.p .nil)))) ?_
            refine LO.st rfl rfl rfl (LOp.move rfl rfl) ?_
            refine LO.st rfl rfl rfl (LOp.extract rfl rfl rfl) ?_
            refine LO.st rfl rfl rfl (LOp.extract rfl rfl rfl) ?_
            refine LO.st rfl rfl rfl (LOp.assign rfl rfl) ?_
            refine LO.st rfl rfl rfl (LOp.assign rfl rfl) ?_
            refine LO.nil ?_
            refine thn_n ?_
            refine LW.seq ?_
            refine LW.draw (by kernel_rfl) (by kernel_rfl) ?_
            refine LO.st rfl rfl rfl (LOp.move rfl rfl) ?_
            refine LO.st rfl rfl rfl (LOp.not rfl rfl) ?_
            refine LO.st rfl rfl rfl (LOp.move rfl rfl) ?_
            refine LO.cases 89 rfl (fun (g10 : (!v8.2) = true) => ?_) (fun (g10 : (!v8.2) = false) => ?_)
            · -- g10 is True
              have hr := ite_t g10 hr
              refine LO.sk rfl rfl rfl (gd g10 rfl) rfl rfl ?_
              refine LO.sk rfl rfl rfl (gd g10 rfl) rfl rfl ?_
              refine LO.sk rfl rfl rfl (gd g10 rfl) rfl rfl ?_
              refine LO.sk rfl rfl rfl (gd g10 rfl) rfl rfl ?_
              refine LO.sk rfl rfl rfl (gd g10 rfl) rfl rfl ?_
              refine LO.sk rfl rfl rfl (gd g10 rfl) rfl rfl ?_
              refine LO.sk rfl rfl rfl (gd g10 rfl) rfl rfl ?_
              refine LO.sk rfl rfl rfl (gd g10 rfl) rfl rfl ?_
              refine LO.st rfl rfl rfl (LOp.pickT rfl (gdl g10 rfl) rfl) ?_
              refine LO.st rfl rfl rfl (LOp.move rfl rfl) ?_
              refine LO.sk rfl rfl rfl rfl rfl rfl ?_
              refine LO.sk rfl rfl rfl rfl rfl rfl ?_
              refine LO.sk rfl rfl rfl rfl rfl rfl ?_
              refine LO.sk rfl rfl rfl rfl rfl rfl ?_
              refine LO.sk rfl rfl rfl rfl rfl rfl ?_
              refine LO.sk rfl rfl rfl rfl rfl rfl ?_
              refine LO.sk rfl rfl rfl rfl rfl rfl ?_
              refine LO.sk rfl rfl rfl rfl rfl rfl ?_
              refine LO.sk rfl rfl rfl rfl rfl rfl ?_
              refine LO.sk rfl rfl rfl rfl rfl rfl ?_
              refine LO.sk rfl rfl rfl rfl rfl rfl ?_
              refine LO.sk rfl rfl rfl rfl rfl rfl ?_
              refine LO.sk rfl rfl rfl rfl rfl rfl ?_
              refine LO.sk rfl rfl rfl rfl rfl rfl ?_
              refine LO.sk rfl rfl rfl rfl rfl rfl ?_
              refine LO.st rfl rfl rfl (LOp.pickT rfl rfl rfl) ?_
              refine LO.nil ?_
              refine thn_n ?_
              refine LW.condT rfl ?_
              refine LW.seq ?_
              refine LW.region ?_
              refine LOps.st rfl rfl rfl (LOp.assign rfl rfl) ?_
              refine LOps.nil ?_
              refine thn_n ?_
              refine LW.ret ?_
              refine inBlk_r ?_
              refine thn_r ?_
              refine thn_r ?_
              refine inBlk_r ?_
              refine thn_r ?_
              refine thn_r ?_
              obtain rfl := Option.some.inj hr
              have hr := congrArg some (hb_x2 _ rfl)
              obtain rfl := Option.some.inj hr
              have hr := sum_r ho_v7
              obtain rfl := Option.some.inj hr
              refine finP_ret (.one (.tmp rfl)) ?_
              exact Conv.p
            · -- g10 is False
              have hr := ite_f g10 hr
              refine LO.gd rfl rfl rfl (gd g10 rfl) rfl (LOp.move rfl rfl) ?_
              refine LO.gd rfl rfl rfl (gd g10 rfl) rfl (LOp.fieldAddr rfl rfl ft75_1) ?_
              refine LO.gd rfl rfl rfl (gd g10 rfl) rfl (LOp.load rfl rfl rfl vt68 rfl rfl) ?_
              refine LO.gd rfl rfl rfl (gd g10 rfl) rfl (LOp.move rfl rfl) ?_
              obtain ⟨y4, h_y4, hr⟩ := bind_get hr
              refine LO.gd rfl rfl rfl (gd g10 rfl) rfl (LOp.indexAddrX rfl rfl rfl st68 h_y4 rfl) ?_
              refine LO.gd rfl rfl rfl (gd g10 rfl) rfl (LOp.fieldAddrC rfl rfl ft82_1 rfl) ?_
              refine LO.gd rfl rfl rfl (gd g10 rfl) rfl (LOp.loadC rfl rfl rfl vt3 rfl rfl) ?_
              refine LO.gd rfl rfl rfl (gd g10 rfl) rfl (LOp.bin rfl rfl rfl rfl) ?_
              refine LO.st rfl rfl rfl (LOp.pickF rfl (gdl g10 rfl) rfl) ?_
              refine LO.st rfl rfl rfl (LOp.move rfl rfl) ?_
              refine LO.cases 99 rfl (fun (g11 : (decide (v8.1 > y4.Slot)) = true) => ?_) (fun (g11 : (decide (v8.1 > y4.Slot)) = false) => ?_)
              · -- g11 is True
                have hr := ite_t g11 hr
                refine LO.sk rfl rfl rfl (gd g11 rfl) rfl rfl ?_
                refine LO.sk rfl rfl rfl (gd g11 rfl) rfl rfl ?_
                refine LO.sk rfl rfl rfl (gd g11 rfl) rfl rfl ?_
                refine LO.sk rfl rfl rfl (gd g11 rfl) rfl rfl ?_
                refine LO.sk rfl rfl rfl (gd g11 rfl) rfl rfl ?_
                refine LO.sk rfl rfl rfl (gd g11 rfl) rfl rfl ?_
                refine LO.sk rfl rfl rfl (gd g11 rfl) rfl rfl ?_
                refine LO.sk rfl rfl rfl (gd g11 rfl) rfl rfl ?_
                refine LO.sk rfl rfl rfl (gd g11 rfl) rfl rfl ?_
                refine LO.sk rfl rfl rfl (gd g11 rfl) rfl rfl ?_
                refine LO.sk rfl rfl rfl (gd g11 rfl) rfl rfl ?_
                refine LO.sk rfl rfl rfl (gd g11 rfl) rfl rfl ?_
                refine LO.sk rfl rfl rfl (gd g11 rfl) rfl rfl ?_
                refine LO.sk rfl rfl rfl (gd g11 rfl) rfl rfl ?_
                refine LO.sk rfl rfl rfl (gd g11 rfl) rfl rfl ?_
                refine LO.st rfl rfl rfl (LOp.pickT rfl (gdl g11 rfl) rfl) ?_
                refine LO.nil ?_
                refine thn_n ?_
                refine LW.condT rfl ?_
                refine LW.seq ?_
                refine LW.region ?_
                refine LOps.st rfl rfl rfl (LOp.assign rfl rfl) ?_
                refine LOps.nil ?_
                refine thn_n ?_
                refine LW.ret ?_
                refine inBlk_r ?_
                refine thn_r ?_
                refine thn_r ?_
                refine inBlk_r ?_
                refine thn_r ?_
                refine thn_r ?_
                obtain rfl := Option.some.inj hr
                have hr := congrArg some (hb_x2 _ rfl)
                obtain rfl := Option.some.inj hr
                have hr := sum_r ho_v7
                obtain rfl := Option.some.inj hr
                refine finP_ret (.one (.tmp rfl)) ?_
                exact Conv.p
              · -- g11 is False
                have hr := ite_f g11 hr
                refine LO.gd rfl rfl rfl (gd g11 rfl) rfl (LOp.load rfl rfl rfl vt55 rfl rfl) ?_
                refine LO.gd rfl rfl rfl (gd g11 rfl) rfl (LOp.fieldAddr rfl rfl ft75_1) ?_
                refine LO.gd rfl rfl rfl (gd g11 rfl) rfl (LOp.load rfl rfl rfl vt68 rfl rfl) ?_
                refine LO.gd rfl rfl rfl (gd g11 rfl) rfl (LOp.move rfl rfl) ?_
                obtain ⟨y5, h_y5, hr⟩ := bind_get hr
                refine LO.gd rfl rfl rfl (gd g11 rfl) rfl (LOp.indexAddrX rfl rfl rfl st68 h_y5 rfl) ?_
                refine LO.gd rfl rfl rfl (gd g11 rfl) rfl (LOp.fieldAddrC rfl rfl ft82_1 rfl) ?_
                refine LO.gd rfl rfl rfl (gd g11 rfl) rfl (LOp.loadC rfl rfl rfl vt3 rfl rfl) ?_
                refine LO.gd rfl rfl rfl (gd g11 rfl) rfl (LOp.fieldAddr rfl rfl ft75_1) ?_
                refine LO.gd rfl rfl rfl (gd g11 rfl) rfl (LOp.load rfl rfl rfl vt68 rfl rfl) ?_
                refine LO.gd rfl rfl rfl (gd g11 rfl) rfl (LOp.move rfl rfl) ?_
                obtain ⟨y6, h_y6, hr⟩ := bind_get hr
                refine LO.gd rfl rfl rfl (gd g11 rfl) rfl (LOp.indexAddrX rfl rfl rfl st68 h_y6 rfl) ?_
                refine LO.gd rfl rfl rfl (gd g11 rfl) rfl (LOp.fieldAddrC rfl rfl ft82_0 rfl) ?_
                refine LO.gd rfl rfl rfl (gd g11 rfl) rfl (LOp.loadC rfl rfl rfl vt3 rfl rfl) ?_
                obtain ⟨v9, h_v9, hr⟩ := bind_get hr
                refine LO.gd rfl rfl rfl (gd g11 rfl) rfl (LOp.call rfl rfl rfl (by kernel_rfl) (LC.pure (c74 h_v9) (.cons Conv.p (.cons Conv.p (.cons Conv.p .nil))))) ?_
                refine LO.gd rfl rfl rfl (gd g11 rfl) rfl (LOp.not rfl rfl) ?_
                refine LO.st rfl rfl rfl (LOp.pickF rfl (gdl g11 rfl) rfl) ?_
                refine LO.nil ?_
                refine thn_n ?_
                refine LW.cond rfl (fun (g12 : (!v9) = true) => ?_) (fun (g12 : (!v9) = false) => ?_)
                · -- g12 is True
                  have hr := ite_t g12 hr
                  refine LW.seq ?_
                  refine LW.region ?_
                  refine LOps.st rfl rfl rfl (LOp.assign rfl rfl) ?_
                  refine LOps.nil ?_
                  refine thn_n ?_
                  refine LW.ret ?_
                  refine inBlk_r ?_
                  refine thn_r ?_
                  refine thn_r ?_
                  refine inBlk_r ?_
                  refine thn_r ?_
                  refine thn_r ?_
                  obtain rfl := Option.some.inj hr
                  have hr := congrArg some (hb_x2 _ rfl)
                  obtain rfl := Option.some.inj hr
                  have hr := sum_r ho_v7
                  obtain rfl := Option.some.inj hr
                  refine finP_ret (.one (.tmp rfl)) ?_
                  exact Conv.p
                · -- g12 is False
                  have hr := ite_f g12 hr
                  refine LW.skip ?_
                  refine inBlk_n ?_
                  refine thn_n ?_
                  refine LW.region ?_
                  refine LOps.st rfl rfl rfl (LOp.move rfl rfl) ?_
                  refine LOps.st rfl rfl rfl (LOp.bin rfl rfl rfl rfl) ?_
                  refine LOps.st rfl rfl rfl (LOp.assign rfl rfl) ?_
                  refine LOps.nil ?_
                  refine thn_n ?_
                  obtain rfl := Option.some.inj hr
                  exact ⟨_, rfl, Weak.of 2 ⟨rfl, rfl, rfl, rfl, rfl, trivial⟩ rfl rfl rfl rfl⟩
          · -- g9 is False
            have hr := ite_f g9 hr
            refine LW.exit ?_
            refine thn_e ?_
            refine thn_e ?_
            refine inBlk_self ?_
            refine thn_n ?_
            obtain rfl := Option.some.inj hr
            have hr := congrArg some (hb_x2 _ rfl)
            obtain rfl := Option.some.inj hr
            exact ⟨_, rfl, Weak.of 2 ⟨rfl, rfl, rfl, rfl, trivial⟩ rfl rfl rfl rfl⟩
        · obtain rfl := e_v7
          have hr := sum_l ho_v7
          clear hb_v7
          refine thn_n ?_
          refine LW.weak hw_v7 ?_
          refine LW.seq ?_
          refine LW.draw (by kernel_rfl) (by kernel_rfl) ?_
          refine LO.st rfl rfl rfl (LOp.fieldAddr rfl rfl ft75_0) ?_
          refine LO.st rfl rfl rfl (LOp.load rfl rfl rfl vt27 rfl rfl) ?_
          obtain ⟨v10, h_v10, hr⟩ := bind_get hr
          refine LO.st rfl rfl rfl (LOp.call rfl rfl rfl (by kernel_rfl) (LC.pure (c52 h_v10) (.cons Conv.p .nil))) ?_
          refine LO.st rfl rfl rfl (LOp.move rfl rfl) ?_
          refine LO.cases 119 rfl (fun (g13 : v10 = true) => ?_) (fun (g13 : v10 = false) => ?_)
          · -- g13 is True
            have hr := ite_t g13 hr
            refine LO.gd rfl rfl rfl (gd g13 rfl) rfl (LOp.load rfl rfl rfl vt55 rfl rfl) ?_
            refine LO.gd rfl rfl rfl (gd g13 rfl) rfl (LOp.fieldAddr rfl rfl ft75_0) ?_
            refine LO.gd rfl rfl rfl (gd g13 rfl) rfl (LOp.load rfl rfl rfl vt27 rfl rfl) ?_
            refine LO.gd rfl rfl rfl (gd g13 rfl) rfl (LOp.move rfl rfl) ?_
            obtain ⟨q1, hr⟩ := grd_get hr
            refine LO.gd rfl rfl rfl (gd g13 rfl) rfl (LOp.sliceHi rfl rfl rfl st27 q1) ?_
            refine LO.gd rfl rfl rfl (gd g13 rfl) rfl (LOp.build rfl bt75 rfl rfl rfl) ?_
            obtain ⟨v11, h_v11, hr⟩ := bind_get hr
            refine LO.gd rfl rfl rfl (gd g13 rfl) rfl (LOp.call rfl rfl rfl (by kernel_rfl) (LC.pure (c89 h_v11) (.cons Conv.p (.cons (Conv.agg (.cons Conv.p (.cons Conv.zs .nil))) .nil)))) ?_
            refine LO.st rfl rfl rfl (LOp.pickT rfl (gdl g13 rfl) rfl) ?_
            refine LO.st rfl rfl rfl (LOp.move rfl rfl) ?_
            refine LO.cases 128 rfl (fun (g14 : v11 = true) => ?_) (fun (g14 : v11 = false) => ?_)
            · -- g14 is True
              have hr := ite_t g14 hr
              refine LO.gd rfl rfl rfl (gd g14 rfl) rfl (LOp.load rfl rfl rfl vt55 rfl rfl) ?_
              refine LO.gd rfl rfl rfl (gd g14 rfl) rfl (LOp.fieldAddr rfl rfl ft75_0) ?_
              refine LO.gd rfl rfl rfl (gd g14 rfl) rfl (LOp.load rfl rfl rfl vt27 rfl rfl) ?_
              refine LO.gd rfl rfl rfl (gd g14 rfl) rfl (LOp.fieldAddr rfl rfl ft75_1) ?_
              refine LO.gd rfl rfl rfl (gd g14 rfl) rfl (LOp.load rfl rfl rfl vt68 rfl rfl) ?_
              refine LO.gd rfl rfl rfl (gd g14 rfl) rfl (LOp.fieldAddr rfl rfl ft75_1) ?_
              refine LO.gd rfl rfl rfl (gd g14 rfl) rfl (LOp.load rfl rfl rfl vt68 rfl rfl) ?_
              refine LO.gd rfl rfl rfl (gd g14 rfl) rfl (LOp.lenM rfl rfl (by kernel_rfl)) ?_
              refine LO.gd rfl rfl rfl (gd g14 rfl) rfl (LOp.quo rfl rfl rfl (by decide)) ?_
              obtain ⟨q2, hr⟩ := grd_get hr
              refine LO.gd rfl rfl rfl (gd g14 rfl) rfl (LOp.sliceHi rfl rfl rfl st68 q2) ?_
              refine LO.gd rfl rfl rfl (gd g14 rfl) rfl (LOp.build rfl bt75 rfl rfl rfl) ?_
              obtain ⟨v12, h_v12, hr⟩ := bind_get hr
              refine LO.gd rfl rfl rfl (gd g14 rfl) rfl (LOp.call rfl rfl rfl (by kernel_rfl) (LC.pure (c89 h_v12) (.cons Conv.p (.cons Conv.p .nil)))) ?_
              refine LO.st rfl rfl rfl (LOp.pickT rfl (gdl g14 rfl) rfl) ?_
              refine LO.st rfl rfl rfl (LOp.assign rfl rfl) ?_
              refine LO.nil ?_
              refine thn_n ?_
              refine LW.ret ?_
              obtain rfl := Option.some.inj hr
              refine finP_ret (.one (.tmp rfl)) ?_
              exact Conv.p
            · -- g14 is False
              have hr := ite_f g14 hr
              refine LO.sk rfl rfl rfl (gd g14 rfl) rfl rfl ?_
              refine LO.sk rfl rfl rfl (gd g14 rfl) rfl rfl ?_
              refine LO.sk rfl rfl rfl (gd g14 rfl) rfl rfl ?_
              refine LO.sk rfl rfl rfl (gd g14 rfl) rfl rfl ?_
              refine LO.sk rfl rfl rfl (gd g14 rfl) rfl rfl ?_
              refine LO.sk rfl rfl rfl (gd g14 rfl) rfl rfl ?_
              refine LO.sk rfl rfl rfl (gd g14 rfl) rfl rfl ?_
              refine LO.sk rfl rfl rfl (gd g14 rfl) rfl rfl ?_
              refine LO.sk rfl rfl rfl (gd g14 rfl) rfl rfl ?_
              refine LO.sk rfl rfl rfl (gd g14 rfl) rfl rfl ?_
              refine LO.sk rfl rfl rfl (gd g14 rfl) rfl rfl ?_
              refine LO.sk rfl rfl rfl (gd g14 rfl) rfl rfl ?_
              refine LO.st rfl rfl rfl (LOp.pickF rfl (gdl g14 rfl) rfl) ?_
              refine LO.st rfl rfl rfl (LOp.assign rfl rfl) ?_
              refine LO.nil ?_
              refine thn_n ?_
              refine LW.ret ?_
              obtain rfl := Option.some.inj hr
              refine finP_ret (.one (.tmp rfl)) ?_
              exact Conv.p
          · -- g13 is False
            have hr := ite_f g13 hr
            refine LO.sk rfl rfl rfl (gd g13 rfl) rfl rfl ?_
            refine LO.sk rfl rfl rfl (gd g13 rfl) rfl rfl ?_
            refine LO.sk rfl rfl rfl (gd g13 rfl) rfl rfl ?_
            refine LO.sk rfl rfl rfl (gd g13 rfl) rfl rfl ?_
            refine LO.sk rfl rfl rfl (gd g13 rfl) rfl rfl ?_
            refine LO.sk rfl rfl rfl (gd g13 rfl) rfl rfl ?_
            refine LO.sk rfl rfl rfl (gd g13 rfl) rfl rfl ?_
            refine LO.st rfl rfl rfl (LOp.pickF rfl (gdl g13 rfl) rfl) ?_
            refine LO.st rfl rfl rfl (LOp.move rfl rfl) ?_
            refine LO.sk rfl rfl rfl rfl rfl rfl ?_
            refine LO.sk rfl rfl rfl rfl rfl rfl ?_
            refine LO.sk rfl rfl rfl rfl rfl rfl ?_
            refine LO.sk rfl rfl rfl rfl rfl rfl ?_
            refine LO.sk rfl rfl rfl rfl rfl rfl ?_
            refine LO.sk rfl rfl rfl rfl rfl rfl ?_
            refine LO.sk rfl rfl rfl rfl rfl rfl ?_
            refine LO.sk rfl rfl rfl rfl rfl rfl ?_
            refine LO.sk rfl rfl rfl rfl rfl rfl ?_
            refine LO.sk rfl rfl rfl rfl rfl rfl ?_
            refine LO.sk rfl rfl rfl rfl rfl rfl ?_
            refine LO.sk rfl rfl rfl rfl rfl rfl ?_
            refine LO.st rfl rfl rfl (LOp.pickF rfl rfl rfl) ?_
            refine LO.st rfl rfl rfl (LOp.assign rfl rfl) ?_
            refine LO.nil ?_
            refine thn_n ?_
            refine LW.ret ?_
            obtain rfl := Option.some.inj hr
            refine finP_ret (.one (.tmp rfl)) ?_
            exact Conv.p
open Go.Proofs
theorem may_cut {c : Cf} {w : Vw} (h : MayW c w) (k : Nat) : MayW c ⟨w.B.take k, []⟩ ∧ MayW c ⟨w.B, w.V.take k⟩ :=
  ⟨⟨h.conf, valid_take h.valid k, Nat.le_trans (by simp only [List.length_take]; omega) h.lenB, by simp, fun b hb => h.mayB b (List.mem_of_mem_take hb), by simp, by simp, by simp⟩,
    h.conf, h.valid, h.lenB, Nat.le_trans (by simp only [List.length_take]; omega) h.lenV, h.mayB, fun v hv => h.mayV v (List.mem_of_mem_take hv), h.nodup.sublist (List.take_sublist _ _), fun v hv => h.forB v (List.mem_of_mem_take hv)⟩
open Classical in
theorem viMay (c : Cf) (w : Vw) (a : Int) : F30 c w a = some true := by
  unfold F30
  rw [F83_eq, ob, F84_eq, ob, Bool.not_true, cf]
  by_cases hf : (w.B.length : Int) ≤ 40 ∧ (w.V.length : Int) ≤ 40
  · rw [decide_eq_true hf, Bool.not_true, cf]
    by_cases h0 : (c.W.length : Int) > 40
    · rw [decide_eq_true h0, ct, ob, ct]
    · rw [decide_eq_false h0, cf, F89_eq (by omega) (by omega), ob]
      by_cases hm : MayW c w
      · rw [decide_eq_true hm, Bool.not_true, cf]
        by_cases h1 : a < 0
        · rw [decide_eq_true h1, ct, ob, ct]
        · rw [decide_eq_false h1, cf, ob]
          by_cases h2 : a > (w.B.length : Int)
          · rw [decide_eq_true h2, ct]
          · rw [decide_eq_false h2, cf]
            obtain ⟨m, hpl⟩ := Option.isSome_iff_exists.1 hm.valid
            have e1 := search_loop (step := F30_s1 c w) (n := w.B.length) (fun k => F30_L1.mk (k : Int)) (fun _ => (none : Option Bool)) (fun j hj => by
              obtain ⟨y, hy, hmem⟩ := get_of hj
              have h3 := of_decide_eq_true (hm.mayB y hmem)
              unfold F30_s1
              simp only
              rw [decide_eq_true (show (j : Int) < (w.B.length : Int) by omega), ct, ix_nat hy, ob, ob, F63_eq, ob, show (y.From != prP c y.Slot) = false by rw [h3.2.1]; simp, cf, wrap_succ (n := j) (by omega)]) (by
              unfold F30_s1
              simp only
              rw [decide_eq_false (show ¬ (w.B.length : Int) < (w.B.length : Int) by omega), cf]) (by omega)
            have e1' : iter (F30_s1 c w) big (F30_L1.mk 0) = some (.inl (F30_L1.mk (w.B.length : Int))) := by rw [firstF_none.2 (fun _ _ _ => rfl)] at e1; exact e1
            have e2 := search_loop (step := F30_s2 c w) (n := w.V.length) (fun k => F30_L2.mk (k : Int)) (fun _ => (none : Option Bool)) (fun j hj => by
              obtain ⟨y, hy, hmem⟩ := get_of hj
              have h3 := of_decide_eq_true (hm.mayV y hmem)
              obtain ⟨s, hs1, hs2⟩ := hm.forB y hmem
              unfold F30_s2
              simp only
              rw [decide_eq_true (show (j : Int) < (w.V.length : Int) by omega), ct, ix_nat hy, ob, F43_eq, ob, slotOfB_q hpl, hs1]
              simp only
              rw [Bool.not_true, cf, ob, decide_eq_false (show ¬ s > y.Slot by omega), cf, ob, ob, F74_eq, ob, decide_eq_true h3, Bool.not_true, cf, wrap_succ (n := j) (by omega)]) (by
              unfold F30_s2
              simp only
              rw [decide_eq_false (show ¬ (w.V.length : Int) < (w.V.length : Int) by omega), cf]) (by omega)
            have e2' : iter (F30_s2 c w) big (F30_L2.mk 0) = some (.inl (F30_L2.mk (w.V.length : Int))) := by rw [firstF_none.2 (fun _ _ _ => rfl)] at e2; exact e2
            have hd : IntKind.i64.wrap ((w.V.length : Int).tdiv 2) = (w.V.length : Int) / 2 := by
              rw [Int.tdiv_eq_ediv_of_nonneg (by omega)]; exact wrapI (by omega) (by omega)
            rw [e1', ob, sl, e2', ob, sl, F52_eq, ob, hpl, Option.isSome_some, ct, inL_hi (by omega) (by omega), ct, F89_eq (by simp only [List.length_take]; omega) (by simp), ob, decide_eq_true (may_cut hm _).1, ct, hd, inL_hi (by omega) (by omega), ct,
              F89_eq (by simp only; omega) (by simp only [List.length_take]; omega), ob, decide_eq_true (may_cut hm _).2]
      · rw [decide_eq_false hm, Bool.not_false, ct, ob, ct]
  · rw [decide_eq_false hf, Bool.not_false, ct, ob, ct]
end Go.Mg
