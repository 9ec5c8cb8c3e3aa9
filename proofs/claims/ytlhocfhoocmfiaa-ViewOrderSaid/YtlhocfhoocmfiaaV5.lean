/- Laws of views. Laws of views. Laws of views. Plain laws of views: what is counted, as a set. Plain laws of views: order, and all. Laws of views: ViewOrder, ViewMeets, ViewEarly. Conditions: none. -/
import Derived.Test.YtlhocfhoocmfiaaV2
import Derived.Test.YtlhocfhoocmfiaaV4
namespace Go.Mg
open Go.Proofs
structure F32_L1 where
  i : Int
structure F32_L2 where
  k : Int
def F32_s2 (v6 : Vw) (x1 : F32_L1) (x2 : F32_L2) : Option (F32_L2 ⊕ (F32_L2 ⊕ (F32_L1 ⊕ (F32_L1 ⊕ Bool)))) :=
  bif decide (x2.k < x1.i) then
    (ix v6.B x1.i).bind fun y1 =>
    (ix v6.B x2.k).bind fun y2 =>
    bif ((((nm y1).1) == ((nm y2).1)) && ((((nm y1).2) == ((nm y2).2)) && true)) then
      some (.inr (.inr (.inr (.inr true))))
    else
      some (.inl (F32_L2.mk (IntKind.i64.wrap (x2.k + 1))))
  else
    some (.inr (.inl (F32_L2.mk x2.k)))
def F32_s1 (v6 : Vw) (x1 : F32_L1) : Option (F32_L1 ⊕ (F32_L1 ⊕ Bool)) :=
  bif decide (x1.i < (v6.B.length : Int)) then
    (iter (F32_s2 v6 x1) big (F32_L2.mk 0)).bind fun b_v8 => Sum.elim (fun _ =>
      some (.inl (F32_L1.mk (IntKind.i64.wrap (x1.i + 1))))) some b_v8
  else
    some (.inr (.inl (F32_L1.mk x1.i)))
def F32 (c : Cf) (w : Vw) (v_in : Vw) (slot : Int) (v_at : Int) (vt : Int) : Option Bool :=
  (F83 ).bind fun v1 =>
  (F84 w 25).bind fun v2 =>
  (F84 v_in 25).bind fun v3 =>
  (
    bif !v1 then
      some true
    else
      bif !v2 then
        some true
      else
        bif !v3 then
          some true
        else
          bif decide ((c.W.length : Int) > 40) then
            some true
          else
            (F89 c w).bind fun v5 =>
            bif !v5 then
              some true
            else
              bif decide (v_at < 0) then
                some true
              else
                bif decide (v_at > (v_in.B.length : Int)) then
                  some true
                else
                  bif decide (vt < 0) then
                    some true
                  else
                    some (decide (vt > (v_in.V.length : Int)))
  ).bind fun v4 =>
  bif v4 then
    some v1
  else
    (F91 w v_in).bind fun v6 =>
    (iter (F32_s1 v6) big (F32_L1.mk 0)).bind fun b_v7 => Sum.elim (fun _ =>
      (F90 c w v_in slot).bind fun v9 =>
      bif inL v_in.B 0 v_at then
        bif inL v_in.V 0 vt then
          bif inL v_in.B v_at v_in.B.length then
            bif inL v_in.V vt v_in.V.length then
              (F90 c w (Vw.mk (v_in.B.drop v_at.toNat) (v_in.V.drop vt.toNat)) slot).bind fun v10 =>
              (F91 v10.2.1 (Vw.mk (v_in.B.take v_at.toNat) (v_in.V.take vt.toNat))).bind fun v11 =>
              (F90 c v10.1 v11 slot).bind fun v12 =>
              (F91 (Vw.mk (v_in.B.drop v_at.toNat) (v_in.V.drop vt.toNat)) (Vw.mk (v_in.B.take v_at.toNat) (v_in.V.take vt.toNat))).bind fun v13 =>
              (F90 c w v13 slot).bind fun v14 =>
              (F92 v9.1 v12.1).bind fun v15 =>
              (F92 v9.1 v14.1).bind fun v16 =>
              bif v15 then
                some v16
              else
                some false
            else none
          else none
        else none
      else none) some b_v7
set_option maxRecDepth 100000 in
theorem c32 {c : Cf} {w : Vw} {v_in : Vw} {slot : Int} {v_at : Int} {vt : Int} {r_ : Bool} (hr : F32 c w v_in slot v_at vt = some r_) : LPure Try.prog 32 [cfP c, vwP w, vwP v_in, .int .i64 slot, .int .i64 v_at, .int .i64 vt] [.bool r_] := by
  refine LPure.start Try.func32 rfl rfl rfl rfl ?_
  unfold F32 at hr
  refine LW.seq ?_
  refine LW.region ?_
  refine LOps.st rfl rfl rfl (LOp.box rfl rfl rfl rfl rfl) ?_
  refine LOps.st rfl rfl rfl (LOp.box rfl rfl rfl rfl rfl) ?_
  refine LOps.st rfl rfl rfl (LOp.box rfl rfl rfl rfl rfl) ?_
  refine LOps.st rfl rfl rfl (LOp.assign rfl rfl) ?_
  refine LOps.nil ?_
  refine thn_n ?_
  refine LW.seq ?_
  refine LW.region ?_
  obtain ⟨v1, h_v1, hr⟩ := bind_get hr
  refine LOps.st rfl rfl rfl (LOp.call rfl rfl rfl (by kernel_rfl) (LC.pure (c83 h_v1) .nil)) ?_
  refine LOps.st rfl rfl rfl (LOp.assign rfl rfl) ?_
  refine LOps.nil ?_
  refine thn_n ?_
  refine LW.seq ?_
  refine LW.region ?_
  refine LOps.st rfl rfl rfl (LOp.load rfl rfl rfl vt75 rfl rfl) ?_
  obtain ⟨v2, h_v2, hr⟩ := bind_get hr
  refine LOps.st rfl rfl rfl (LOp.call rfl rfl rfl (by kernel_rfl) (LC.pure (c84 h_v2) (.cons Conv.p (.cons Conv.p .nil)))) ?_
  refine LOps.st rfl rfl rfl (LOp.assign rfl rfl) ?_
  refine LOps.nil ?_
  refine thn_n ?_
  refine LW.seq ?_
  refine LW.region ?_
  refine LOps.st rfl rfl rfl (LOp.load rfl rfl rfl vt75 rfl rfl) ?_
  obtain ⟨v3, h_v3, hr⟩ := bind_get hr
  refine LOps.st rfl rfl rfl (LOp.call rfl rfl rfl (by kernel_rfl) (LC.pure (c84 h_v3) (.cons Conv.p (.cons Conv.p .nil)))) ?_
  refine LOps.st rfl rfl rfl (LOp.assign rfl rfl) ?_
  refine LOps.nil ?_
  refine thn_n ?_
  refine LW.seq ?_
  obtain ⟨v4, hb_v4, ho_v4⟩ := bind_get hr
  clear hr
  refine LW.cut (E := [(3, .p (.int .i64 slot)), (4, .p (.int .i64 v_at)), (5, .p (.int .i64 vt)), (6, .ptr 0 0), (7, .ptr 1 0), (8, .ptr 2 0), (12, .p (.bool false)), (13, .p (.bool v1)), (83, .p (.bool v4))]) (O := [.box [.p (.slice 1 (c.W.map i64P)), .p (.int .u64 c.Seed), .p (.int .i64 c.Epoch), .p (.int .i64 c.Num), .p (.int .i64 c.Den)], .box [.p (.slice 5 (w.B.map blkP)), .p (.slice 4 (w.V.map vtP))], .box [.p (.slice 5 (v_in.B.map blkP)), .p (.slice 4 (v_in.V.map vtP))]]) ?_ ?_
  · have hr := hb_v4
    refine LW.region ?_
    refine LOps.st rfl rfl rfl (LOp.move rfl rfl) ?_
    refine LOps.st rfl rfl rfl (LOp.not rfl rfl) ?_
    refine LOps.st rfl rfl rfl (LOp.move rfl rfl) ?_
    refine LOps.cases 42 rfl (fun (g1 : (!v1) = true) => ?_) (fun (g1 : (!v1) = false) => ?_)
    · -- g1 is True
      have hr := ite_t g1 hr
      refine LOps.sk rfl rfl rfl (gd g1 rfl) rfl rfl ?_
      refine LOps.sk rfl rfl rfl (gd g1 rfl) rfl rfl ?_
      refine LOps.st rfl rfl rfl (LOp.pickT rfl (gdl g1 rfl) rfl) ?_
      refine LOps.st rfl rfl rfl (LOp.move rfl rfl) ?_
      refine LOps.sk rfl rfl rfl rfl rfl rfl ?_
      refine LOps.sk rfl rfl rfl rfl rfl rfl ?_
      refine LOps.st rfl rfl rfl (LOp.pickT rfl rfl rfl) ?_
      refine LOps.st rfl rfl rfl (LOp.move rfl rfl) ?_
      refine LOps.sk rfl rfl rfl rfl rfl rfl ?_
      refine LOps.sk rfl rfl rfl rfl rfl rfl ?_
      refine LOps.sk rfl rfl rfl rfl rfl rfl ?_
      refine LOps.sk rfl rfl rfl rfl rfl rfl ?_
      refine LOps.st rfl rfl rfl (LOp.pickT rfl rfl rfl) ?_
      refine LOps.st rfl rfl rfl (LOp.move rfl rfl) ?_
      refine LOps.sk rfl rfl rfl rfl rfl rfl ?_
      refine LOps.sk rfl rfl rfl rfl rfl rfl ?_
      refine LOps.sk rfl rfl rfl rfl rfl rfl ?_
      refine LOps.sk rfl rfl rfl rfl rfl rfl ?_
      refine LOps.st rfl rfl rfl (LOp.pickT rfl rfl rfl) ?_
      refine LOps.st rfl rfl rfl (LOp.move rfl rfl) ?_
      refine LOps.sk rfl rfl rfl rfl rfl rfl ?_
      refine LOps.sk rfl rfl rfl rfl rfl rfl ?_
      refine LOps.st rfl rfl rfl (LOp.pickT rfl rfl rfl) ?_
      refine LOps.st rfl rfl rfl (LOp.move rfl rfl) ?_
      refine LOps.sk rfl rfl rfl rfl rfl rfl ?_
      refine LOps.sk rfl rfl rfl rfl rfl rfl ?_
      refine LOps.sk rfl rfl rfl rfl rfl rfl ?_
      refine LOps.sk rfl rfl rfl rfl rfl rfl ?_
      refine LOps.sk rfl rfl rfl rfl rfl rfl ?_
      refine LOps.st rfl rfl rfl (LOp.pickT rfl rfl rfl) ?_
      refine LOps.st rfl rfl rfl (LOp.move rfl rfl) ?_
      refine LOps.sk rfl rfl rfl rfl rfl rfl ?_
      refine LOps.sk rfl rfl rfl rfl rfl rfl ?_
      refine LOps.st rfl rfl rfl (LOp.pickT rfl rfl rfl) ?_
      refine LOps.st rfl rfl rfl (LOp.move rfl rfl) ?_
      refine LOps.sk rfl rfl rfl rfl rfl rfl ?_
      refine LOps.sk rfl rfl rfl rfl rfl rfl ?_
      refine LOps.sk rfl rfl rfl rfl rfl rfl ?_
      refine LOps.sk rfl rfl rfl rfl rfl rfl ?_
      refine LOps.sk rfl rfl rfl rfl rfl rfl ?_
      refine LOps.st rfl rfl rfl (LOp.pickT rfl rfl rfl) ?_
      refine LOps.nil ?_
      refine thn_n ?_
      obtain rfl := Option.some.inj hr
      exact Weak.of 3 ⟨rfl, rfl, rfl, rfl, rfl, rfl, rfl, rfl, rfl, trivial⟩ rfl rfl rfl rfl
    · -- g1 is False
      have hr := ite_f g1 hr
      refine LOps.gd rfl rfl rfl (gd g1 rfl) rfl (LOp.move rfl rfl) ?_
      refine LOps.gd rfl rfl rfl (gd g1 rfl) rfl (LOp.not rfl rfl) ?_
      refine LOps.st rfl rfl rfl (LOp.pickF rfl (gdl g1 rfl) rfl) ?_
      refine LOps.st rfl rfl rfl (LOp.move rfl rfl) ?_
      refine LOps.cases 46 rfl (fun (g2 : (!v2) = true) => ?_) (fun (g2 : (!v2) = false) => ?_)
      · -- g2 is True
        have hr := ite_t g2 hr
        refine LOps.sk rfl rfl rfl (gd g2 rfl) rfl rfl ?_
        refine LOps.sk rfl rfl rfl (gd g2 rfl) rfl rfl ?_
        refine LOps.st rfl rfl rfl (LOp.pickT rfl (gdl g2 rfl) rfl) ?_
        refine LOps.st rfl rfl rfl (LOp.move rfl rfl) ?_
        refine LOps.sk rfl rfl rfl rfl rfl rfl ?_
        refine LOps.sk rfl rfl rfl rfl rfl rfl ?_
        refine LOps.sk rfl rfl rfl rfl rfl rfl ?_
        refine LOps.sk rfl rfl rfl rfl rfl rfl ?_
        refine LOps.st rfl rfl rfl (LOp.pickT rfl rfl rfl) ?_
        refine LOps.st rfl rfl rfl (LOp.move rfl rfl) ?_
        refine LOps.sk rfl rfl rfl rfl rfl rfl ?_
        refine LOps.sk rfl rfl rfl rfl rfl rfl ?_
        refine LOps.sk rfl rfl rfl rfl rfl rfl ?_
        refine LOps.sk rfl rfl rfl rfl rfl rfl ?_
        refine LOps.st rfl rfl rfl (LOp.pickT rfl rfl rfl) ?_
        refine LOps.st rfl rfl rfl (LOp.move rfl rfl) ?_
        refine LOps.sk rfl rfl rfl rfl rfl rfl ?_
        refine LOps.sk rfl rfl rfl rfl rfl rfl ?_
        refine LOps.st rfl rfl rfl (LOp.pickT rfl rfl rfl) ?_
        refine LOps.st rfl rfl rfl (LOp.move rfl rfl) ?_
        refine LOps.sk rfl rfl rfl rfl rfl rfl ?_
        refine LOps.sk rfl rfl rfl rfl rfl rfl ?_
        refine LOps.sk rfl rfl rfl rfl rfl rfl ?_
        refine LOps.sk rfl rfl rfl rfl rfl rfl ?_
        refine LOps.sk rfl rfl rfl rfl rfl rfl ?_
        refine LOps.st rfl rfl rfl (LOp.pickT rfl rfl rfl) ?_
        refine LOps.st rfl rfl rfl (LOp.move rfl rfl) ?_
        refine LOps.sk rfl rfl rfl rfl rfl rfl ?_
        refine LOps.sk rfl rfl rfl rfl rfl rfl ?_
        refine LOps.st rfl rfl rfl (LOp.pickT rfl rfl rfl) ?_
        refine LOps.st rfl rfl rfl (LOp.move rfl rfl) ?_
        refine LOps.sk rfl rfl rfl rfl rfl rfl ?_
        refine LOps.sk rfl rfl rfl rfl rfl rfl ?_
        refine LOps.sk rfl rfl rfl rfl rfl rfl ?_
        refine LOps.sk rfl rfl rfl rfl rfl rfl ?_
        refine LOps.sk rfl rfl rfl rfl rfl rfl ?_
        refine LOps.st rfl rfl rfl (LOp.pickT rfl rfl rfl) ?_
        refine LOps.nil ?_
        refine thn_n ?_
        obtain rfl := Option.some.inj hr
        exact Weak.of 3 ⟨rfl, rfl, rfl, rfl, rfl, rfl, rfl, rfl, rfl, trivial⟩ rfl rfl rfl rfl
      · -- g2 is False
        have hr := ite_f g2 hr
        refine LOps.gd rfl rfl rfl (gd g2 rfl) rfl (LOp.move rfl rfl) ?_
        refine LOps.gd rfl rfl rfl (gd g2 rfl) rfl (LOp.not rfl rfl) ?_
        refine LOps.st rfl rfl rfl (LOp.pickF rfl (gdl g2 rfl) rfl) ?_
        refine LOps.st rfl rfl rfl (LOp.move rfl rfl) ?_
        refine LOps.cases 50 rfl (fun (g3 : (!v3) = true) => ?_) (fun (g3 : (!v3) = false) => ?_)
        · -- g3 is True
          have hr := ite_t g3 hr
          refine LOps.sk rfl rfl rfl (gd g3 rfl) rfl rfl ?_
          refine LOps.sk rfl rfl rfl (gd g3 rfl) rfl rfl ?_
          refine LOps.sk rfl rfl rfl (gd g3 rfl) rfl rfl ?_
          refine LOps.sk rfl rfl rfl (gd g3 rfl) rfl rfl ?_
          refine LOps.st rfl rfl rfl (LOp.pickT rfl (gdl g3 rfl) rfl) ?_
          refine LOps.st rfl rfl rfl (LOp.move rfl rfl) ?_
          refine LOps.sk rfl rfl rfl rfl rfl rfl ?_
          refine LOps.sk rfl rfl rfl rfl rfl rfl ?_
          refine LOps.sk rfl rfl rfl rfl rfl rfl ?_
          refine LOps.sk rfl rfl rfl rfl rfl rfl ?_
          refine LOps.st rfl rfl rfl (LOp.pickT rfl rfl rfl) ?_
          refine LOps.st rfl rfl rfl (LOp.move rfl rfl) ?_
          refine LOps.sk rfl rfl rfl rfl rfl rfl ?_
          refine LOps.sk rfl rfl rfl rfl rfl rfl ?_
          refine LOps.st rfl rfl rfl (LOp.pickT rfl rfl rfl) ?_
          refine LOps.st rfl rfl rfl (LOp.move rfl rfl) ?_
          refine LOps.sk rfl rfl rfl rfl rfl rfl ?_
          refine LOps.sk rfl rfl rfl rfl rfl rfl ?_
          refine LOps.sk rfl rfl rfl rfl rfl rfl ?_
          refine LOps.sk rfl rfl rfl rfl rfl rfl ?_
          refine LOps.sk rfl rfl rfl rfl rfl rfl ?_
          refine LOps.st rfl rfl rfl (LOp.pickT rfl rfl rfl) ?_
          refine LOps.st rfl rfl rfl (LOp.move rfl rfl) ?_
          refine LOps.sk rfl rfl rfl rfl rfl rfl ?_
          refine LOps.sk rfl rfl rfl rfl rfl rfl ?_
          refine LOps.st rfl rfl rfl (LOp.pickT rfl rfl rfl) ?_
          refine LOps.st rfl rfl rfl (LOp.move rfl rfl) ?_
          refine LOps.sk rfl rfl rfl rfl rfl rfl ?_
          refine LOps.sk rfl rfl rfl rfl rfl rfl ?_
          refine LOps.sk rfl rfl rfl rfl rfl rfl ?_
          refine LOps.sk rfl rfl rfl rfl rfl rfl ?_
          refine LOps.sk rfl rfl rfl rfl rfl rfl ?_
          refine LOps.st rfl rfl rfl (LOp.pickT rfl rfl rfl) ?_
          refine LOps.nil ?_
          refine thn_n ?_
          obtain rfl := Option.some.inj hr
          exact Weak.of 3 ⟨rfl, rfl, rfl, rfl, rfl, rfl, rfl, rfl, rfl, trivial⟩ rfl rfl rfl rfl
        · -- g3 is False
          have hr := ite_f g3 hr
          refine LOps.gd rfl rfl rfl (gd g3 rfl) rfl (LOp.fieldAddr rfl rfl ft55_0) ?_
          refine LOps.gd rfl rfl rfl (gd g3 rfl) rfl (LOp.load rfl rfl rfl vt49 rfl rfl) ?_
          refine LOps.gd rfl rfl rfl (gd g3 rfl) rfl (LOp.lenM rfl rfl (by kernel_rfl)) ?_
          refine LOps.gd rfl rfl rfl (gd g3 rfl) rfl (LOp.bin rfl rfl rfl rfl) ?_
          refine LOps.st rfl rfl rfl (LOp.pickF rfl (gdl g3 rfl) rfl) ?_
          refine LOps.st rfl rfl rfl (LOp.move rfl rfl) ?_
          refine LOps.cases 56 rfl (fun (g4 : (decide ((c.W.length : Int) > 40)) = true) => ?_) (fun (g4 : (decide ((c.W.length : Int) > 40)) = false) => ?_)
          · -- g4 is True
            have hr := ite_t g4 hr
            refine LOps.sk rfl rfl rfl (gd g4 rfl) rfl rfl ?_
            refine LOps.sk rfl rfl rfl (gd g4 rfl) rfl rfl ?_
            refine LOps.sk rfl rfl rfl (gd g4 rfl) rfl rfl ?_
            refine LOps.sk rfl rfl rfl (gd g4 rfl) rfl rfl ?_
            refine LOps.st rfl rfl rfl (LOp.pickT rfl (gdl g4 rfl) rfl) ?_
            refine LOps.st rfl rfl rfl (LOp.move rfl rfl) ?_
            refine LOps.sk rfl rfl rfl rfl rfl rfl ?_
            refine LOps.sk rfl rfl rfl rfl rfl rfl ?_
            refine LOps.st rfl rfl rfl (LOp.pickT rfl rfl rfl) ?_
            refine LOps.st rfl rfl rfl (LOp.move rfl rfl) ?_
            refine LOps.sk rfl rfl rfl rfl rfl rfl ?_
            refine LOps.sk rfl rfl rfl rfl rfl rfl ?_
            refine LOps.sk rfl rfl rfl rfl rfl rfl ?_
            refine LOps.sk rfl rfl rfl rfl rfl rfl ?_
            refine LOps.sk rfl rfl rfl rfl rfl rfl ?_
            refine LOps.st rfl rfl rfl (LOp.pickT rfl rfl rfl) ?_
            refine LOps.st rfl rfl rfl (LOp.move rfl rfl) ?_
            refine LOps.sk rfl rfl rfl rfl rfl rfl ?_
            refine LOps.sk rfl rfl rfl rfl rfl rfl ?_
            refine LOps.st rfl rfl rfl (LOp.pickT rfl rfl rfl) ?_
            refine LOps.st rfl rfl rfl (LOp.move rfl rfl) ?_
            refine LOps.sk rfl rfl rfl rfl rfl rfl ?_
            refine LOps.sk rfl rfl rfl rfl rfl rfl ?_
            refine LOps.sk rfl rfl rfl rfl rfl rfl ?_
            refine LOps.sk rfl rfl rfl rfl rfl rfl ?_
            refine LOps.sk rfl rfl rfl rfl rfl rfl ?_
            refine LOps.st rfl rfl rfl (LOp.pickT rfl rfl rfl) ?_
            refine LOps.nil ?_
            refine thn_n ?_
            obtain rfl := Option.some.inj hr
            exact Weak.of 3 ⟨rfl, rfl, rfl, rfl, rfl, rfl, rfl, rfl, rfl, trivial⟩ rfl rfl rfl rfl
          · -- g4 is False
            have hr := ite_f g4 hr
            refine LOps.gd rfl rfl rfl (gd g4 rfl) rfl (LOp.load rfl rfl rfl vt55 rfl rfl) ?_
            refine LOps.gd rfl rfl rfl (gd g4 rfl) rfl (LOp.load rfl rfl rfl vt75 rfl rfl) ?_
            obtain ⟨v5, h_v5, hr⟩ := bind_get hr
            refine LOps.gd rfl rfl rfl (gd g4 rfl) rfl (LOp.call rfl rfl rfl (by kernel_rfl) (LC.pure (c89 h_v5) (.cons Conv.p (.cons Conv.p .nil)))) ?_
            refine LOps.gd rfl rfl rfl (gd g4 rfl) rfl (LOp.not rfl rfl) ?_
            refine LOps.st rfl rfl rfl (LOp.pickF rfl (gdl g4 rfl) rfl) ?_
            refine LOps.st rfl rfl rfl (LOp.move rfl rfl) ?_
            refine LOps.cases 62 rfl (fun (g5 : (!v5) = true) => ?_) (fun (g5 : (!v5) = false) => ?_)
            · -- g5 is True
              have hr := ite_t g5 hr
              refine LOps.sk rfl rfl rfl (gd g5 rfl) rfl rfl ?_
              refine LOps.sk rfl rfl rfl (gd g5 rfl) rfl rfl ?_
              refine LOps.st rfl rfl rfl (LOp.pickT rfl (gdl g5 rfl) rfl) ?_
              refine LOps.st rfl rfl rfl (LOp.move rfl rfl) ?_
              refine LOps.sk rfl rfl rfl rfl rfl rfl ?_
              refine LOps.sk rfl rfl rfl rfl rfl rfl ?_
              refine LOps.sk rfl rfl rfl rfl rfl rfl ?_
              refine LOps.sk rfl rfl rfl rfl rfl rfl ?_
              refine LOps.sk rfl rfl rfl rfl rfl rfl ?_
              refine LOps.st rfl rfl rfl (LOp.pickT rfl rfl rfl) ?_
              refine LOps.st rfl rfl rfl (LOp.move rfl rfl) ?_
              refine LOps.sk rfl rfl rfl rfl rfl rfl ?_
              refine LOps.sk rfl rfl rfl rfl rfl rfl ?_
              refine LOps.st rfl rfl rfl (LOp.pickT rfl rfl rfl) ?_
              refine LOps.st rfl rfl rfl (LOp.move rfl rfl) ?_
              refine LOps.sk rfl rfl rfl rfl rfl rfl ?_
              refine LOps.sk rfl rfl rfl rfl rfl rfl ?_
              refine LOps.sk rfl rfl rfl rfl rfl rfl ?_
              refine LOps.sk rfl rfl rfl rfl rfl rfl ?_
              refine LOps.sk rfl rfl rfl rfl rfl rfl ?_
              refine LOps.st rfl rfl rfl (LOp.pickT rfl rfl rfl) ?_
              refine LOps.nil ?_
              refine thn_n ?_
              obtain rfl := Option.some.inj hr
              exact Weak.of 3 ⟨rfl, rfl, rfl, rfl, rfl, rfl, rfl, rfl, rfl, trivial⟩ rfl rfl rfl rfl
            · -- g5 is False
              have hr := ite_f g5 hr
              refine LOps.gd rfl rfl rfl (gd g5 rfl) rfl (LOp.move rfl rfl) ?_
              refine LOps.gd rfl rfl rfl (gd g5 rfl) rfl (LOp.bin rfl rfl rfl rfl) ?_
              refine LOps.st rfl rfl rfl (LOp.pickF rfl (gdl g5 rfl) rfl) ?_
              refine LOps.st rfl rfl rfl (LOp.move rfl rfl) ?_
              refine LOps.cases 66 rfl (fun (g6 : (decide (v_at < 0)) = true) => ?_) (fun (g6 : (decide (v_at < 0)) = false) => ?_)
              · -- g6 is True
                have hr := ite_t g6 hr
                refine LOps.sk rfl rfl rfl (gd g6 rfl) rfl rfl ?_
                refine LOps.sk rfl rfl rfl (gd g6 rfl) rfl rfl ?_
                refine LOps.sk rfl rfl rfl (gd g6 rfl) rfl rfl ?_
                refine LOps.sk rfl rfl rfl (gd g6 rfl) rfl rfl ?_
                refine LOps.sk rfl rfl rfl (gd g6 rfl) rfl rfl ?_
                refine LOps.st rfl rfl rfl (LOp.pickT rfl (gdl g6 rfl) rfl) ?_
                refine LOps.st rfl rfl rfl (LOp.move rfl rfl) ?_
                refine LOps.sk rfl rfl rfl rfl rfl rfl ?_
                refine LOps.sk rfl rfl rfl rfl rfl rfl ?_
                refine LOps.st rfl rfl rfl (LOp.pickT rfl rfl rfl) ?_
                refine LOps.st rfl rfl rfl (LOp.move rfl rfl) ?_
                refine LOps.sk rfl rfl rfl rfl rfl rfl ?_
                refine LOps.sk rfl rfl rfl rfl rfl rfl ?_
                refine LOps.sk rfl rfl rfl rfl rfl rfl ?_
                refine LOps.sk rfl rfl rfl rfl rfl rfl ?_
                refine LOps.sk rfl rfl rfl rfl rfl rfl ?_
                refine LOps.st rfl rfl rfl (LOp.pickT rfl rfl rfl) ?_
                refine LOps.nil ?_
                refine thn_n ?_
                obtain rfl := Option.some.inj hr
                exact Weak.of 3 ⟨rfl, rfl, rfl, rfl, rfl, rfl, rfl, rfl, rfl, trivial⟩ rfl rfl rfl rfl
              · -- g6 is False
                have hr := ite_f g6 hr
                refine LOps.gd rfl rfl rfl (gd g6 rfl) rfl (LOp.move rfl rfl) ?_
                refine LOps.gd rfl rfl rfl (gd g6 rfl) rfl (LOp.fieldAddr rfl rfl ft75_0) ?_
                refine LOps.gd rfl rfl rfl (gd g6 rfl) rfl (LOp.load rfl rfl rfl vt27 rfl rfl) ?_
                refine LOps.gd rfl rfl rfl (gd g6 rfl) rfl (LOp.lenM rfl rfl (by kernel_rfl)) ?_
                refine LOps.gd rfl rfl rfl (gd g6 rfl) rfl (LOp.bin rfl rfl rfl rfl) ?_
                refine LOps.st rfl rfl rfl (LOp.pickF rfl (gdl g6 rfl) rfl) ?_
                refine LOps.st rfl rfl rfl (LOp.move rfl rfl) ?_
                refine LOps.cases 73 rfl (fun (g7 : (decide (v_at > (v_in.B.length : Int))) = true) => ?_) (fun (g7 : (decide (v_at > (v_in.B.length : Int))) = false) => ?_)
                · -- g7 is True
                  have hr := ite_t g7 hr
                  refine LOps.sk rfl rfl rfl (gd g7 rfl) rfl rfl ?_
                  refine LOps.sk rfl rfl rfl (gd g7 rfl) rfl rfl ?_
                  refine LOps.st rfl rfl rfl (LOp.pickT rfl (gdl g7 rfl) rfl) ?_
                  refine LOps.st rfl rfl rfl (LOp.move rfl rfl) ?_
                  refine LOps.sk rfl rfl rfl rfl rfl rfl ?_
                  refine LOps.sk rfl rfl rfl rfl rfl rfl ?_
                  refine LOps.sk rfl rfl rfl rfl rfl rfl ?_
                  refine LOps.sk rfl rfl rfl rfl rfl rfl ?_
                  refine LOps.sk rfl rfl rfl rfl rfl rfl ?_
                  refine LOps.st rfl rfl rfl (LOp.pickT rfl rfl rfl) ?_
                  refine LOps.nil ?_
                  refine thn_n ?_
                  obtain rfl := Option.some.inj hr
                  exact Weak.of 3 ⟨rfl, rfl, rfl, rfl, rfl, rfl, rfl, rfl, rfl, trivial⟩ rfl rfl rfl rfl
                · -- g7 is False
                  have hr := ite_f g7 hr
                  refine LOps.gd rfl rfl rfl (gd g7 rfl) rfl (LOp.move rfl rfl) ?_
                  refine LOps.gd rfl rfl rfl (gd g7 rfl) rfl (LOp.bin rfl rfl rfl rfl) ?_
                  refine LOps.st rfl rfl rfl (LOp.pickF rfl (gdl g7 rfl) rfl) ?_
                  refine LOps.st rfl rfl rfl (LOp.move rfl rfl) ?_
                  refine LOps.cases 77 rfl (fun (g8 : (decide (vt < 0)) = true) => ?_) (fun (g8 : (decide (vt < 0)) = false) => ?_)
                  · -- g8 is True
                    have hr := ite_t g8 hr
                    refine LOps.sk rfl rfl rfl (gd g8 rfl) rfl rfl ?_
                    refine LOps.sk rfl rfl rfl (gd g8 rfl) rfl rfl ?_
                    refine LOps.sk rfl rfl rfl (gd g8 rfl) rfl rfl ?_
                    refine LOps.sk rfl rfl rfl (gd g8 rfl) rfl rfl ?_
                    refine LOps.sk rfl rfl rfl (gd g8 rfl) rfl rfl ?_
                    refine LOps.st rfl rfl rfl (LOp.pickT rfl (gdl g8 rfl) rfl) ?_
                    refine LOps.nil ?_
                    refine thn_n ?_
                    obtain rfl := Option.some.inj hr
                    exact Weak.of 3 ⟨rfl, rfl, rfl, rfl, rfl, rfl, rfl, rfl, rfl, trivial⟩ rfl rfl rfl rfl
                  · -- g8 is False
                    have hr := ite_f g8 hr
                    refine LOps.gd rfl rfl rfl (gd g8 rfl) rfl (LOp.move rfl rfl) ?_
                    refine LOps.gd rfl rfl rfl (gd g8 rfl) rfl (LOp.fieldAddr rfl rfl ft75_1) ?_
                    refine LOps.gd rfl rfl rfl (gd g8 rfl) rfl (LOp.load rfl rfl rfl vt68 rfl rfl) ?_
                    refine LOps.gd rfl rfl rfl (gd g8 rfl) rfl (LOp.lenM rfl rfl (by kernel_rfl)) ?_
                    refine LOps.gd rfl rfl rfl (gd g8 rfl) rfl (LOp.bin rfl rfl rfl rfl) ?_
                    refine LOps.st rfl rfl rfl (LOp.pickF rfl (gdl g8 rfl) rfl) ?_
                    refine LOps.nil ?_
                    refine thn_n ?_
                    obtain rfl := Option.some.inj hr
                    exact Weak.of 3 ⟨rfl, rfl, rfl, rfl, rfl, rfl, rfl, rfl, rfl, trivial⟩ rfl rfl rfl rfl
  · have hr := ho_v4
    clear hb_v4
    refine LW.cond rfl (fun (g9 : v4 = true) => ?_) (fun (g9 : v4 = false) => ?_)
    · -- g9 is True
      have hr := ite_t g9 hr
      refine LW.seq ?_
      refine LW.region ?_
      refine LOps.st rfl rfl rfl (LOp.move rfl rfl) ?_
      refine LOps.st rfl rfl rfl (LOp.assign rfl rfl) ?_
      refine LOps.nil ?_
      refine thn_n ?_
      refine LW.ret ?_
      refine thn_r ?_
      obtain rfl := Option.some.inj hr
      refine finP_ret (.one (.tmp rfl)) ?_
      exact Conv.p
    · -- g9 is False
      have hr := ite_f g9 hr
      refine LW.skip ?_
      refine thn_n ?_
      refine LW.seq ?_
      refine LW.region ?_
      refine LOps.st rfl rfl rfl (LOp.load rfl rfl rfl vt75 rfl rfl) ?_
      refine LOps.st rfl rfl rfl (LOp.load rfl rfl rfl vt75 rfl rfl) ?_
      obtain ⟨v6, h_v6, hr⟩ := bind_get hr
      refine LOps.st rfl rfl rfl (LOp.call rfl rfl rfl (by kernel_rfl) (LC.pure (c91 h_v6) (.cons Conv.p (.cons Conv.p .nil)))) ?_
      refine LOps.st rfl rfl rfl (LOp.alloc rfl zt75 rfl rfl) ?_
      refine LOps.st rfl rfl rfl (LOp.store rfl rfl rfl rfl vt75 rfl rfl rfl rfl) ?_
      refine LOps.nil ?_
      refine thn_n ?_
      refine LW.seq ?_
      refine LW.seq ?_
      refine LW.region ?_
      refine LOps.st rfl rfl rfl (LOp.assign rfl rfl) ?_
      refine LOps.nil ?_
      refine thn_n ?_
      obtain ⟨b_v7, hb_v7, ho_v7⟩ := bind_get hr
      clear hr
      refine LW.tailB (b := b_v7) (E := fun v7 => [(3, .p (.int .i64 slot)), (4, .p (.int .i64 v_at)), (5, .p (.int .i64 vt)), (6, .ptr 0 0), (7, .ptr 1 0), (8, .ptr 2 0), (12, .p (.bool false))]) (O := fun v7 => [.box [.p (.slice 1 (c.W.map i64P)), .p (.int .u64 c.Seed), .p (.int .i64 c.Epoch), .p (.int .i64 c.Num), .p (.int .i64 c.Den)], .box [.p (.slice 5 (w.B.map blkP)), .p (.slice 4 (w.V.map vtP))], .box [.p (.slice 5 (v_in.B.map blkP)), .p (.slice 4 (v_in.V.map vtP))], .box [.p (.slice 5 (v6.B.map blkP)), .p (.slice 4 (v6.V.map vtP))]]) ?_ (fun v7 e_v7 env_v7 H_v7 hw_v7 => ?_)
      · refine LW.block ?_
        refine LW.iterB (E := fun x1 : F32_L1 => [(3, .p (.int .i64 slot)), (4, .p (.int .i64 v_at)), (5, .p (.int .i64 vt)), (6, .ptr 0 0), (7, .ptr 1 0), (8, .ptr 2 0), (12, .p (.bool false)), (16, .ptr 3 0), (17, .p (.int .i64 x1.i))]) (O := fun x1 => [.box [.p (.slice 1 (c.W.map i64P)), .p (.int .u64 c.Seed), .p (.int .i64 c.Epoch), .p (.int .i64 c.Num), .p (.int .i64 c.Den)], .box [.p (.slice 5 (w.B.map blkP)), .p (.slice 4 (w.V.map vtP))], .box [.p (.slice 5 (v_in.B.map blkP)), .p (.slice 4 (v_in.V.map vtP))], .box [.p (.slice 5 (v6.B.map blkP)), .p (.slice 4 (v6.V.map vtP))]]) hb_v7 (Weak.of 4 ⟨rfl, rfl, rfl, rfl, rfl, rfl, rfl, rfl, rfl, trivial⟩ rfl rfl rfl rfl) (fun x1 z_x1 hr hb_x1 => ?_)
        unfold F32_s1 at hr
        refine LW.seq ?_
        refine LW.seq ?_
        refine LW.region ?_
        refine LOps.st rfl rfl rfl (LOp.move rfl rfl) ?_
        refine LOps.st rfl rfl rfl (LOp.fieldAddr rfl rfl ft75_0) ?_
        refine LOps.st rfl rfl rfl (LOp.load rfl rfl rfl vt27 rfl rfl) ?_
        refine LOps.st rfl rfl rfl (LOp.lenM rfl rfl (by kernel_rfl)) ?_
        refine LOps.st rfl rfl rfl (LOp.bin rfl rfl rfl rfl) ?_
        refine LOps.nil ?_
        refine thn_n ?_
        refine LW.cond rfl (fun (g10 : (decide (x1.i < (v6.B.length : Int))) = true) => ?_) (fun (g10 : (decide (x1.i < (v6.B.length : Int))) = false) => ?_)
        · -- g10 is True
          have hr := ite_t g10 hr
          refine LW.skip ?_
          refine thn_n ?_
          refine LW.seq ?_
          refine LW.block ?_
          refine LW.seq ?_
          refine LW.region ?_
          refine LOps.st rfl rfl rfl (LOp.assign rfl rfl) ?_
          refine LOps.nil ?_
          refine thn_n ?_
          obtain ⟨b_v8, hb_v8, ho_v8⟩ := bind_get hr
          clear hr
          refine LW.tailB (b := b_v8) (E := fun v8 => [(3, .p (.int .i64 slot)), (4, .p (.int .i64 v_at)), (5, .p (.int .i64 vt)), (6, .ptr 0 0), (7, .ptr 1 0), (8, .ptr 2 0), (12, .p (.bool false)), (16, .ptr 3 0), (17, .p (.int .i64 x1.i))]) (O := fun v8 => [.box [.p (.slice 1 (c.W.map i64P)), .p (.int .u64 c.Seed), .p (.int .i64 c.Epoch), .p (.int .i64 c.Num), .p (.int .i64 c.Den)], .box [.p (.slice 5 (w.B.map blkP)), .p (.slice 4 (w.V.map vtP))], .box [.p (.slice 5 (v_in.B.map blkP)), .p (.slice 4 (v_in.V.map vtP))], .box [.p (.slice 5 (v6.B.map blkP)), .p (.slice 4 (v6.V.map vtP))]]) ?_ (fun v8 e_v8 env_v8 H_v8 hw_v8 => ?_)
          · refine LW.block ?_
            refine LW.iterB (E := fun x2 : F32_L2 => [(3, .p (.int .i64 slot)), (4, .p (.int .i64 v_at)), (5, .p (.int .i64 vt)), (6, .ptr 0 0), (7, .ptr 1 0), (8, .ptr 2 0), (12, .p (.bool false)), (16, .ptr 3 0), (17, .p (.int .i64 x1.i)), (18, .p (.int .i64 x2.k))]) (O := fun x2 => [.box [.p (.slice 1 (c.W.map i64P)), .p (.int .u64 c.Seed), .p (.int .i64 c.Epoch), .p (.int .i64 c.Num), .p (.int .i64 c.Den)], .box [.p (.slice 5 (w.B.map blkP)), .p (.slice 4 (w.V.map vtP))], .box [.p (.slice 5 (v_in.B.map blkP)), .p (.slice 4 (v_in.V.map vtP))], .box [.p (.slice 5 (v6.B.map blkP)), .p (.slice 4 (v6.V.map vtP))]]) hb_v8 (Weak.of 4 ⟨rfl, rfl, rfl, rfl, rfl, rfl, rfl, rfl, rfl, rfl, trivial⟩ rfl rfl rfl rfl) (fun x2 z_x2 hr hb_x2 => ?_)
            unfold F32_s2 at hr
            refine LW.seq ?_
            refine LW.seq ?_
            refine LW.region ?_
            refine LOps.st rfl rfl rfl (LOp.move rfl rfl) ?_
            refine LOps.st rfl rfl rfl (LOp.move rfl rfl) ?_
            refine LOps.st rfl rfl rfl (LOp.bin rfl rfl rfl rfl) ?_
            refine LOps.nil ?_
            refine thn_n ?_
            refine LW.cond rfl (fun (g11 : (decide (x2.k < x1.i)) = true) => ?_) (fun (g11 : (decide (x2.k < x1.i)) = false) => ?_)
            · -- g11 is True
              have hr := ite_t g11 hr
              refine LW.skip ?_
              refine thn_n ?_
              refine LW.seq ?_
              refine LW.block ?_
              refine LW.seq ?_
              refine LW.draw (by kernel_rfl) (by kernel_rfl) ?_
              refine LO.st rfl rfl rfl (LOp.fieldAddr rfl rfl ft75_0) ?_
              refine LO.st rfl rfl rfl (LOp.load rfl rfl rfl vt27 rfl rfl) ?_
              refine LO.st rfl rfl rfl (LOp.move rfl rfl) ?_
              obtain ⟨y1, h_y1, hr⟩ := bind_get hr
              refine LO.st rfl rfl rfl (LOp.indexAddrX rfl rfl rfl st27 h_y1 rfl) ?_
              refine LO.st rfl rfl rfl (LOp.loadC rfl rfl rfl vt42 rfl rfl) ?_
              refine LO.st rfl rfl rfl (LOp.call rfl rfl rfl (by kernel_rfl) (LC.pure (c50 (b := y1)) (.cons Conv.p .nil))) ?_
              refine LO.st rfl rfl rfl (LOp.fieldAddr rfl rfl ft75_0) ?_
              refine LO.st rfl rfl rfl (LOp.load rfl rfl rfl vt27 rfl rfl) ?_
              refine LO.st rfl rfl rfl (LOp.move rfl rfl) ?_
              obtain ⟨y2, h_y2, hr⟩ := bind_get hr
              refine LO.st rfl rfl rfl (LOp.indexAddrX rfl rfl rfl st27 h_y2 rfl) ?_
              refine LO.st rfl rfl rfl (LOp.loadC rfl rfl rfl vt42 rfl rfl) ?_
              refine LO.st rfl rfl rfl (LOp.call rfl rfl rfl (by kernel_rfl) (LC.pure (c50 (b := y2)) (.cons Conv.p .nil))) ?_
              refine LO.st rfl rfl rfl (LOp.eqlAgg rfl rfl rfl rfl rfl eqt24) ?_
              refine LO.nil ?_
              refine thn_n ?_
              refine LW.cond rfl (fun (g12 : ((((nm y1).1) == ((nm y2).1)) && ((((nm y1).2) == ((nm y2).2)) && true)) = true) => ?_) (fun (g12 : ((((nm y1).1) == ((nm y2).1)) && ((((nm y1).2) == ((nm y2).2)) && true)) = false) => ?_)
              · -- g12 is True
                have hr := ite_t g12 hr
                refine LW.seq ?_
                refine LW.region ?_
                refine LOps.st rfl rfl rfl (LOp.assign rfl rfl) ?_
                refine LOps.nil ?_
                refine thn_n ?_
                refine LW.ret ?_
                refine inBlk_r ?_
                refine thn_r ?_
                refine thn_r ?_
                refine inBlk_r ?_
                refine thn_r ?_
                refine inBlk_r ?_
                refine thn_r ?_
                refine thn_r ?_
                refine inBlk_r ?_
                refine thn_r ?_
                refine thn_r ?_
                obtain rfl := Option.some.inj hr
                have hr := congrArg some (hb_x2 _ rfl)
                obtain rfl := Option.some.inj hr
                have hr := sum_r ho_v8
                obtain rfl := Option.some.inj hr
                have hr := congrArg some (hb_x1 _ rfl)
                obtain rfl := Option.some.inj hr
                have hr := sum_r ho_v7
                obtain rfl := Option.some.inj hr
                refine finP_ret (.one (.tmp rfl)) ?_
                exact Conv.p
              · -- g12 is False
                have hr := ite_f g12 hr
                refine LW.skip ?_
                refine inBlk_n ?_
                refine thn_n ?_
                refine LW.region ?_
                refine LOps.st rfl rfl rfl (LOp.move rfl rfl) ?_
                refine LOps.st rfl rfl rfl (LOp.bin rfl rfl rfl rfl) ?_
                refine LOps.st rfl rfl rfl (LOp.assign rfl rfl) ?_
                refine LOps.nil ?_
                refine thn_n ?_
                obtain rfl := Option.some.inj hr
                exact ⟨_, rfl, Weak.of 4 ⟨rfl, rfl, rfl, rfl, rfl, rfl, rfl, rfl, rfl, rfl, trivial⟩ rfl rfl rfl rfl⟩
            · -- g11 is False
              have hr := ite_f g11 hr
              refine LW.exit ?_
              refine thn_e ?_
              refine thn_e ?_
              refine inBlk_self ?_
              refine thn_n ?_
              obtain rfl := Option.some.inj hr
              have hr := congrArg some (hb_x2 _ rfl)
              obtain rfl := Option.some.inj hr
              exact ⟨_, rfl, Weak.of 4 ⟨rfl, rfl, rfl, rfl, rfl, rfl, rfl, rfl, rfl, trivial⟩ rfl rfl rfl rfl⟩
          · obtain rfl := e_v8
            have hr := sum_l ho_v8
            clear hb_v8
            refine inBlk_n ?_
            refine thn_n ?_
            refine LW.weak hw_v8 ?_
            refine LW.region ?_
            refine LOps.st rfl rfl rfl (LOp.move rfl rfl) ?_
            refine LOps.st rfl rfl rfl (LOp.bin rfl rfl rfl rfl) ?_
            refine LOps.st rfl rfl rfl (LOp.assign rfl rfl) ?_
            refine LOps.nil ?_
            refine thn_n ?_
            obtain rfl := Option.some.inj hr
            exact ⟨_, rfl, Weak.of 4 ⟨rfl, rfl, rfl, rfl, rfl, rfl, rfl, rfl, rfl, trivial⟩ rfl rfl rfl rfl⟩
        · -- g10 is False
          have hr := ite_f g10 hr
          refine LW.exit ?_
          refine thn_e ?_
          refine thn_e ?_
          refine inBlk_self ?_
          refine thn_n ?_
          obtain rfl := Option.some.inj hr
          have hr := congrArg some (hb_x1 _ rfl)
          obtain rfl := Option.some.inj hr
          exact ⟨_, rfl, Weak.of 4 ⟨rfl, rfl, rfl, rfl, rfl, rfl, rfl, trivial⟩ rfl rfl rfl rfl⟩
      · obtain rfl := e_v7
        have hr := sum_l ho_v7
        clear hb_v7
        refine thn_n ?_
        refine LW.weak hw_v7 ?_
        refine LW.seq ?_
        refine LW.region ?_
        refine LOps.st rfl rfl rfl (LOp.load rfl rfl rfl vt55 rfl rfl) ?_
        refine LOps.st rfl rfl rfl (LOp.load rfl rfl rfl vt75 rfl rfl) ?_
        refine LOps.st rfl rfl rfl (LOp.load rfl rfl rfl vt75 rfl rfl) ?_
        refine LOps.st rfl rfl rfl (LOp.move rfl rfl) ?_
        obtain ⟨v9, h_v9, hr⟩ := bind_get hr
        refine LOps.st rfl rfl rfl (LOp.call rfl rfl rfl (by kernel_rfl) (LC.pure (c90 h_v9) (.cons Conv.p (.cons Conv.p (.cons Conv.p (.cons Conv.p .nil)))))) ?_
        refine LOps.st rfl rfl rfl (LOp.move rfl rfl) ?_
        refine LOps.st rfl rfl rfl (LOp.extract rfl rfl rfl) ?_
        refine LOps.st rfl rfl rfl (LOp.extract rfl rfl rfl) ?_
        refine LOps.st rfl rfl rfl (LOp.extract rfl rfl rfl) ?_
        refine LOps.st rfl rfl rfl (LOp.alloc rfl zt75 rfl rfl) ?_
        refine LOps.st rfl rfl rfl (LOp.alloc rfl zt75 rfl rfl) ?_
        refine LOps.st rfl rfl rfl (LOp.store rfl rfl rfl rfl vt75 rfl rfl rfl rfl) ?_
        refine LOps.st rfl rfl rfl (LOp.store rfl rfl rfl rfl vt75 rfl rfl rfl rfl) ?_
        refine LOps.st rfl rfl rfl (LOp.assign rfl rfl) ?_
        refine LOps.nil ?_
        refine thn_n ?_
        refine LW.seq ?_
        refine LW.ent (Ent.slot rfl) ?_
        refine LW.drawW (by kernel_rfl) (by kernel_rfl) ?_
        refine LF.st (F := []) (s := none) rfl rfl rfl (fun H _ => LOp.fieldAddr rfl rfl ft75_0) rfl ?_
        refine LF.st rfl rfl rfl (LAt.load rfl rfl rfl vt27 rfl rfl) rfl ?_
        refine LF.st (F := []) (s := none) rfl rfl rfl (fun H _ => LOp.move rfl rfl) rfl ?_
        obtain ⟨q1, hr⟩ := grd_get hr
        refine LF.st (F := []) (s := none) rfl rfl rfl (fun H _ => LOp.sliceHi rfl rfl rfl st27 q1) rfl ?_
        refine LF.st (F := []) (s := none) rfl rfl rfl (fun H _ => LOp.fieldAddr rfl rfl ft75_1) rfl ?_
        refine LF.st rfl rfl rfl (LAt.load rfl rfl rfl vt68 rfl rfl) rfl ?_
        refine LF.st (F := []) (s := none) rfl rfl rfl (fun H _ => LOp.move rfl rfl) rfl ?_
        obtain ⟨q2, hr⟩ := grd_get hr
        refine LF.st (F := []) (s := none) rfl rfl rfl (fun H _ => LOp.sliceHi rfl rfl rfl st68 q2) rfl ?_
        refine LF.st (F := []) (s := none) rfl rfl rfl (fun H _ => LOp.build rfl bt75 rfl rfl rfl) rfl ?_
        refine LF.st rfl rfl rfl (LAt.alloc rfl zt75 (id := 6) rfl) rfl ?_
        refine LF.st rfl rfl rfl (LAt.store rfl rfl rfl rfl vt75 rfl rfl rfl) rfl ?_
        refine LF.nil ⟨by kernel_rfl, ?_⟩
        refine thn_n ?_
        refine LW.seq ?_
        refine LW.ent (Ent.slot rfl) ?_
        refine LW.drawW (by kernel_rfl) (by kernel_rfl) ?_
        refine LF.st (F := []) (s := none) rfl rfl rfl (fun H _ => LOp.fieldAddr rfl rfl ft75_0) rfl ?_
        refine LF.st rfl rfl rfl (LAt.load rfl rfl rfl vt27 rfl rfl) rfl ?_
        refine LF.st (F := []) (s := none) rfl rfl rfl (fun H _ => LOp.move rfl rfl) rfl ?_
        obtain ⟨q3, hr⟩ := grd_get hr
        refine LF.st (F := []) (s := none) rfl rfl rfl (fun H _ => LOp.sliceLo rfl rfl rfl st27 q3) rfl ?_
        refine LF.st (F := []) (s := none) rfl rfl rfl (fun H _ => LOp.fieldAddr rfl rfl ft75_1) rfl ?_
        refine LF.st rfl rfl rfl (LAt.load rfl rfl rfl vt68 rfl rfl) rfl ?_
        refine LF.st (F := []) (s := none) rfl rfl rfl (fun H _ => LOp.move rfl rfl) rfl ?_
        obtain ⟨q4, hr⟩ := grd_get hr
        refine LF.st (F := []) (s := none) rfl rfl rfl (fun H _ => LOp.sliceLo rfl rfl rfl st68 q4) rfl ?_
        refine LF.st (F := []) (s := none) rfl rfl rfl (fun H _ => LOp.build rfl bt75 rfl rfl rfl) rfl ?_
        refine LF.st rfl rfl rfl (LAt.alloc rfl zt75 (id := 7) rfl) rfl ?_
        refine LF.st rfl rfl rfl (LAt.store rfl rfl rfl rfl vt75 rfl rfl rfl) rfl ?_
        refine LF.nil ⟨by kernel_rfl, ?_⟩
        refine thn_n ?_
        refine LW.seq ?_
        refine LW.region ?_
        refine LOps.st rfl rfl rfl (LOp.load rfl rfl rfl vt55 rfl rfl) ?_
        refine LOps.st rfl rfl rfl (LOp.load rfl rfl rfl vt75 rfl rfl) ?_
        refine LOps.st rfl rfl rfl (LOp.load rfl rfl rfl vt75 rfl rfl) ?_
        refine LOps.st rfl rfl rfl (LOp.move rfl rfl) ?_
        obtain ⟨v10, h_v10, hr⟩ := bind_get hr
        refine LOps.st rfl rfl rfl (LOp.call rfl rfl rfl (by kernel_rfl) (LC.pure (c90 h_v10) (.cons Conv.p (.cons Conv.p (.cons Conv.p (.cons Conv.p .nil)))))) ?_
        refine LOps.st rfl rfl rfl (LOp.move rfl rfl) ?_
        refine LOps.st rfl rfl rfl (LOp.extract rfl rfl rfl) ?_
        refine LOps.st rfl rfl rfl (LOp.extract rfl rfl rfl) ?_
        refine LOps.st rfl rfl rfl (LOp.extract rfl rfl rfl) ?_
        refine LOps.st rfl rfl rfl (LOp.alloc rfl zt75 rfl rfl) ?_
        refine LOps.st rfl rfl rfl (LOp.alloc rfl zt75 rfl rfl) ?_
        refine LOps.st rfl rfl rfl (LOp.store rfl rfl rfl rfl vt75 rfl rfl rfl rfl) ?_
        refine LOps.st rfl rfl rfl (LOp.store rfl rfl rfl rfl vt75 rfl rfl rfl rfl) ?_
        refine LOps.st rfl rfl rfl (LOp.assign rfl rfl) ?_
        refine LOps.nil ?_
        refine thn_n ?_
        refine LW.seq ?_
        refine LW.ent (Ent.slot rfl) ?_
        refine LW.ent (Ent.slot rfl) ?_
        refine LW.drawW (by kernel_rfl) (by kernel_rfl) ?_
        refine LF.st rfl rfl rfl (LAt.load rfl rfl rfl vt55 rfl rfl) rfl ?_
        refine LF.st rfl rfl rfl (LAt.load rfl rfl rfl vt75 rfl rfl) rfl ?_
        refine LF.st rfl rfl rfl (LAt.load rfl rfl rfl vt75 rfl rfl) rfl ?_
        refine LF.st rfl rfl rfl (LAt.load rfl rfl rfl vt75 rfl rfl) rfl ?_
        obtain ⟨v11, h_v11, hr⟩ := bind_get hr
        refine LF.st (F := []) (s := none) rfl rfl rfl (fun H _ => LOp.call rfl rfl rfl (by kernel_rfl) (LC.pure (c91 h_v11) (.cons Conv.p (.cons Conv.p .nil)))) rfl ?_
        refine LF.st (F := []) (s := none) rfl rfl rfl (fun H _ => LOp.move rfl rfl) rfl ?_
        obtain ⟨v12, h_v12, hr⟩ := bind_get hr
        refine LF.st (F := []) (s := none) rfl rfl rfl (fun H _ => LOp.call rfl rfl rfl (by kernel_rfl) (LC.pure (c90 h_v12) (.cons Conv.p (.cons Conv.p (.cons Conv.p (.cons Conv.p .nil)))))) rfl ?_
        refine LF.st (F := []) (s := none) rfl rfl rfl (fun H _ => LOp.move rfl rfl) rfl ?_
        refine LF.st (F := []) (s := none) rfl rfl rfl (fun H _ => LOp.extract rfl rfl rfl) rfl ?_
        refine LF.st (F := []) (s := none) rfl rfl rfl (fun H _ => LOp.extract rfl rfl rfl) rfl ?_
        refine LF.st (F := []) (s := none) rfl rfl rfl (fun H _ => LOp.extract rfl rfl rfl) rfl ?_
        refine LF.st rfl rfl rfl (LAt.alloc rfl zt75 (id := 10) rfl) rfl ?_
        refine LF.st rfl rfl rfl (LAt.alloc rfl zt75 (id := 11) rfl) rfl ?_
        refine LF.st rfl rfl rfl (LAt.store rfl rfl rfl rfl vt75 rfl rfl rfl) rfl ?_
        refine LF.st rfl rfl rfl (LAt.store rfl rfl rfl rfl vt75 rfl rfl rfl) rfl ?_
        refine LF.st (F := []) (s := none) rfl rfl rfl (fun H _ => LOp.assign rfl rfl) rfl ?_
        refine LF.nil ⟨by kernel_rfl, ?_⟩
        refine thn_n ?_
        refine LW.seq ?_
        refine LW.ent (Ent.slot rfl) ?_
        refine LW.ent (Ent.slot rfl) ?_
        refine LW.drawW (by kernel_rfl) (by kernel_rfl) ?_
        refine LF.st rfl rfl rfl (LAt.load rfl rfl rfl vt55 rfl rfl) rfl ?_
        refine LF.st rfl rfl rfl (LAt.load rfl rfl rfl vt75 rfl rfl) rfl ?_
        refine LF.st rfl rfl rfl (LAt.load rfl rfl rfl vt75 rfl rfl) rfl ?_
        refine LF.st rfl rfl rfl (LAt.load rfl rfl rfl vt75 rfl rfl) rfl ?_
        obtain ⟨v13, h_v13, hr⟩ := bind_get hr
        refine LF.st (F := []) (s := none) rfl rfl rfl (fun H _ => LOp.call rfl rfl rfl (by kernel_rfl) (LC.pure (c91 h_v13) (.cons Conv.p (.cons Conv.p .nil)))) rfl ?_
        refine LF.st (F := []) (s := none) rfl rfl rfl (fun H _ => LOp.move rfl rfl) rfl ?_
        obtain ⟨v14, h_v14, hr⟩ := bind_get hr
        refine LF.st (F := []) (s := none) rfl rfl rfl (fun H _ => LOp.call rfl rfl rfl (by kernel_rfl) (LC.pure (c90 h_v14) (.cons Conv.p (.cons Conv.p (.cons Conv.p (.cons Conv.p .nil)))))) rfl ?_
        refine LF.st (F := []) (s := none) rfl rfl rfl (fun H _ => LOp.move rfl rfl) rfl ?_
        refine LF.st (F := []) (s := none) rfl rfl rfl (fun H _ => LOp.extract rfl rfl rfl) rfl ?_
        refine LF.st (F := []) (s := none) rfl rfl rfl (fun H _ => LOp.extract rfl rfl rfl) rfl ?_
        refine LF.st (F := []) (s := none) rfl rfl rfl (fun H _ => LOp.extract rfl rfl rfl) rfl ?_
        refine LF.st rfl rfl rfl (LAt.alloc rfl zt75 (id := 12) rfl) rfl ?_
        refine LF.st rfl rfl rfl (LAt.alloc rfl zt75 (id := 13) rfl) rfl ?_
        refine LF.st rfl rfl rfl (LAt.store rfl rfl rfl rfl vt75 rfl rfl rfl) rfl ?_
        refine LF.st rfl rfl rfl (LAt.store rfl rfl rfl rfl vt75 rfl rfl rfl) rfl ?_
        refine LF.st (F := []) (s := none) rfl rfl rfl (fun H _ => LOp.assign rfl rfl) rfl ?_
        refine LF.nil ⟨by kernel_rfl, ?_⟩
        refine thn_n ?_
        refine LW.seq ?_
        refine LW.region ?_
        refine LOps.st rfl rfl rfl (LOp.load rfl rfl rfl vt75 rfl rfl) ?_
        refine LOps.st rfl rfl rfl (LOp.load rfl rfl rfl vt75 rfl rfl) ?_
        obtain ⟨v15, h_v15, hr⟩ := bind_get hr
        refine LOps.st rfl rfl rfl (LOp.call rfl rfl rfl (by kernel_rfl) (LC.pure (c92 h_v15) (.cons Conv.p (.cons Conv.p .nil)))) ?_
        refine LOps.st rfl rfl rfl (LOp.assign rfl rfl) ?_
        refine LOps.nil ?_
        refine thn_n ?_
        refine LW.seq ?_
        refine LW.region ?_
        refine LOps.st rfl rfl rfl (LOp.load rfl rfl rfl vt75 rfl rfl) ?_
        refine LOps.st rfl rfl rfl (LOp.load rfl rfl rfl vt75 rfl rfl) ?_
        obtain ⟨v16, h_v16, hr⟩ := bind_get hr
        refine LOps.st rfl rfl rfl (LOp.call rfl rfl rfl (by kernel_rfl) (LC.pure (c92 h_v16) (.cons Conv.p (.cons Conv.p .nil)))) ?_
        refine LOps.st rfl rfl rfl (LOp.assign rfl rfl) ?_
        refine LOps.nil ?_
        refine thn_n ?_
        refine LW.seq ?_
        refine LW.region ?_
        refine LOps.st rfl rfl rfl (LOp.move rfl rfl) ?_
        refine LOps.st rfl rfl rfl (LOp.move rfl rfl) ?_
        refine LOps.cases 178 rfl (fun (g13 : v15 = true) => ?_) (fun (g13 : v15 = false) => ?_)
        · -- g13 is True
          have hr := ite_t g13 hr
          refine LOps.gd rfl rfl rfl (gd g13 rfl) rfl (LOp.move rfl rfl) ?_
          refine LOps.st rfl rfl rfl (LOp.pickT rfl (gdl g13 rfl) rfl) ?_
          refine LOps.st rfl rfl rfl (LOp.assign rfl rfl) ?_
          refine LOps.nil ?_
          refine thn_n ?_
          refine LW.ret ?_
          obtain rfl := Option.some.inj hr
          refine finP_ret (.one (.tmp rfl)) ?_
          exact Conv.p
        · -- g13 is False
          have hr := ite_f g13 hr
          refine LOps.sk rfl rfl rfl (gd g13 rfl) rfl rfl ?_
          refine LOps.st rfl rfl rfl (LOp.pickF rfl (gdl g13 rfl) rfl) ?_
          refine LOps.st rfl rfl rfl (LOp.assign rfl rfl) ?_
          refine LOps.nil ?_
          refine thn_n ?_
          refine LW.ret ?_
          obtain rfl := Option.some.inj hr
          refine finP_ret (.one (.tmp rfl)) ?_
          exact Conv.p
open Go.Proofs
structure F33_L1 where
  i : Int
structure F33_L2 where
  k : Int
structure F33_L3 where
  i : Int
open Go.Proofs
structure F35_L1 where
  i : Int
structure F35_L2 where
  i : Int
structure F35_L3 where
  i : Int
structure F35_L4 where
  k : Int
/-- What is counted at last: what was, and what comes, of a slot not too late, with a parent counted, of a lesser slot. -/
inductive CB (base o : List Bk) (upto : Int) : Bk → Prop
  | base {b : Bk} : b ∈ base → CB base o upto b
  | root {b : Bk} : b ∈ o → b.Slot ≤ upto → b.Parent = (0, 0) → 0 < b.Slot → CB base o upto b
  | step {b p : Bk} : b ∈ o → b.Slot ≤ upto → CB base o upto p → nm p = b.Parent → p.Slot < b.Slot → CB base o upto b
theorem CB.mono {base base' o o' : List Bk} {upto upto' : Int} (h1 : ∀ b ∈ base, CB base' o' upto' b) (h2 : ∀ b ∈ o, b ∈ o') (h3 : upto ≤ upto') {b : Bk} (h : CB base o upto b) : CB base' o' upto' b := by
  induction h with
  | base h => exact h1 _ h
  | root a1 a2 a3 a4 => exact .root (h2 _ a1) (Int.le_trans a2 h3) a3 a4
  | step a1 a2 _ a4 a5 ih => exact .step (h2 _ a1) (Int.le_trans a2 h3) ih a4 a5
structure Rm (U : Vw) : Prop where
  inj : ∀ a ∈ U.B, ∀ b ∈ U.B, nm a = nm b → a = b
  B : U.B.length < 60
  V : U.V.length < 240
open Classical in
theorem scan_loop {S R : Type} {step : S → Option (S ⊕ (S ⊕ R))} {n : Nat} (mk : Nat → S) (r0 : R) (P : Nat → Prop) (hs : ∀ j, j < n → step (mk j) = some (.inr (.inr r0)) ∨ (step (mk j) = some (.inl (mk (j + 1))) ∧ P j))
    (he : step (mk n) = some (.inr (.inl (mk n)))) (hn : n < 4000000000000000000) : iter step big (mk 0) = some (.inr r0) ∨ (iter step big (mk 0) = some (.inl (mk n)) ∧ ∀ j, j < n → P j) := by
  have e := search_loop mk (fun j => if step (mk j) = some (.inl (mk (j + 1))) ∧ P j then none else some r0) (fun j hj => by
    by_cases h : step (mk j) = some (.inl (mk (j + 1))) ∧ P j
    · simp only [if_pos h]; exact h.1
    · simp only [if_neg h]; exact (hs j hj).resolve_right h) he hn
  rw [e]
  cases h : firstF (fun j => if step (mk j) = some (.inl (mk (j + 1))) ∧ P j then none else some r0) 0 n with
  | none =>
    right
    refine ⟨rfl, fun j hj => ?_⟩
    have := firstF_none.1 h j (Nat.zero_le _) (by omega)
    split at this
    · rename_i h2; exact h2.2
    · cases this
  | some r =>
    left
    obtain ⟨j, -, -, h2, -⟩ := firstF_some h
    split at h2
    · cases h2
    · cases h2; rfl
open Classical in
theorem viOrder (c : Cf) (w i : Vw) (slot at_ vt : Int) : F32 c w i slot at_ vt = some true := by
  unfold F32
  rw [F83_eq, ob, F84_eq, ob, F84_eq, ob, Bool.not_true, cf]
  by_cases hf : (w.B.length : Int) ≤ 25 ∧ (w.V.length : Int) ≤ 25
  · rw [decide_eq_true hf, Bool.not_true, cf]
    by_cases hi : (i.B.length : Int) ≤ 25 ∧ (i.V.length : Int) ≤ 25
    · rw [decide_eq_true hi, Bool.not_true, cf]
      by_cases h0 : (c.W.length : Int) > 40
      · rw [decide_eq_true h0, ct, ob, ct]
      · rw [decide_eq_false h0, cf, F89_eq (by omega) (by omega), ob]
        by_cases hm : MayW c w
        · rw [decide_eq_true hm, Bool.not_true, cf]
          by_cases c1 : at_ < 0
          · rw [decide_eq_true c1, ct, ob, ct]
          · rw [decide_eq_false c1, cf]
            by_cases c2 : at_ > (i.B.length : Int)
            · rw [decide_eq_true c2, ct, ob, ct]
            · rw [decide_eq_false c2, cf]
              by_cases c3 : vt < 0
              · rw [decide_eq_true c3, ct, ob, ct]
              · rw [decide_eq_false c3, cf, ob]
                by_cases c4 : vt > (i.V.length : Int)
                · rw [decide_eq_true c4, ct]
                · rw [decide_eq_false c4, cf, F91_eq (by omega) (by omega), ob]
                  obtain ⟨l1, l2, l3, l4⟩ := join_len w i
                  rcases F32_clash (u := joinP w i) (by omega) with e | ⟨e, hc⟩
                  · rw [e, ob, sr]
                  · have hr : Rm (joinP w i) := ⟨inj_of hc, by omega, by omega⟩
                    obtain ⟨hw, hiU⟩ := join_sb w i
                    have hmB : ∀ b, b ∈ i.B ↔ b ∈ i.B.drop at_.toNat ∨ b ∈ i.B.take at_.toNat := cut_mem _ _
                    have hmV : ∀ b, b ∈ i.V ↔ b ∈ i.V.drop vt.toNat ∨ b ∈ i.V.take vt.toNat := cut_mem _ _
                    have d1 : (i.B.drop at_.toNat).length ≤ 25 := by rw [List.length_drop]; omega
                    have d2 : (i.V.drop vt.toNat).length ≤ 25 := by rw [List.length_drop]; omega
                    have d3 : (i.B.take at_.toNat).length ≤ 25 := by rw [List.length_take]; omega
                    have d4 : (i.V.take vt.toNat).length ≤ 25 := by rw [List.length_take]; omega
                    have i1 : inL i.B at_ i.B.length = true := decide_eq_true ⟨by omega, by omega, by omega⟩
                    have i2 : inL i.V vt i.V.length = true := decide_eq_true ⟨by omega, by omega, by omega⟩
                    rw [e, ob, sl, F90_eq (by omega) (by omega) (by omega) (by omega), ob, inL_hi (by omega) (by omega), ct, inL_hi (by omega) (by omega), ct, i1, ct, i2, ct, F90_eq (by omega) (by omega) (by simp only; omega) (by simp only; omega), ob]
                    generalize hj : (⟨i.B.drop at_.toNat, i.V.drop vt.toNat⟩ : Vw) = j
                    generalize hfst : (⟨i.B.take at_.toNat, i.V.take vt.toNat⟩ : Vw) = f
                    have jB : j.B = i.B.drop at_.toNat := by rw [← hj]
                    have jV : j.V = i.V.drop vt.toNat := by rw [← hj]
                    have fB : f.B = i.B.take at_.toNat := by rw [← hfst]
                    have fV : f.V = i.V.take vt.toNat := by rw [← hfst]
                    rw [← jB, ← fB] at hmB
                    rw [← jV, ← fV] at hmV
                    rw [← jB] at d1
                    rw [← jV] at d2
                    rw [← fB] at d3
                    rw [← fV] at d4
                    have h9 := took hm i slot
                    have h10 := took hm j slot
                    generalize takeP c w i slot = r9 at h9 ⊢
                    generalize takeP c w j slot = r10 at h10 ⊢
                    have g10 := took_len h10
                    have m1 := h10.may.lenB
                    have m2 := h10.may.lenV
                    have k1 := join_len r10.2.1 f
                    have k2 := join_len j f
                    rw [F91_eq (by omega) (by omega), ob, F90_eq (by omega) (by omega) (by omega) (by omega), ob, F91_eq (by omega) (by omega), ob, F90_eq (by omega) (by omega) (by omega) (by omega), ob]
                    have h12 := took h10.may (joinP r10.2.1 f) slot
                    have h14 := took hm (joinP j f) slot
                    obtain ⟨q1, q2⟩ := take_parts h9 h10 h12 hr hw hiU hmB hmV (fun b => join_mem.1 b) (fun b => join_mem.2 b)
                    have sj : Sb (joinP j f) i := ⟨fun b hb => (hmB b).2 ((join_mem.1 b).1 hb), fun b hb => (hmV b).2 ((join_mem.2 b).1 hb)⟩
                    have sj' : Sb i (joinP j f) := ⟨fun b hb => (join_mem.1 b).2 ((hmB b).1 hb), fun b hb => (join_mem.2 b).2 ((hmV b).1 hb)⟩
                    have sU : Sb (joinP j f) (joinP w i) := ⟨fun b hb => hiU.1 b (sj.1 b hb), fun b hb => hiU.2 b (sj.2 b hb)⟩
                    rw [may_same h9.may h12.may q1 q2, ob, may_same h9.may h14.may (take_more h9 h14 hr hw hiU sU sj' (Int.le_refl _)) (take_more h14 h9 hr hw sU hiU sj (Int.le_refl _)), ob, ct]
        · rw [decide_eq_false hm, Bool.not_false, ct, ob, ct]
    · rw [decide_eq_false hi, Bool.not_false, ct, ob, ct]
  · rw [decide_eq_false hf, Bool.not_false, ct, ob, ct]
open Classical in
theorem viMeets (c : Cf) (a b : Vw) (slot : Int) : F33 c a b slot = some true := by
  unfold F33
  rw [F83_eq, ob, F84_eq, ob, F84_eq, ob, Bool.not_true, cf]
  by_cases hf : (a.B.length : Int) ≤ 25 ∧ (a.V.length : Int) ≤ 25
  · rw [decide_eq_true hf, Bool.not_true, cf]
    by_cases hi : (b.B.length : Int) ≤ 25 ∧ (b.V.length : Int) ≤ 25
    · rw [decide_eq_true hi, Bool.not_true, cf]
      by_cases h0 : (c.W.length : Int) > 40
      · rw [decide_eq_true h0, ct, ob, ct]
      · rw [decide_eq_false h0, cf, F89_eq (by omega) (by omega), ob]
        by_cases hm : MayW c a
        · rw [decide_eq_true hm, Bool.not_true, cf, F89_eq (by omega) (by omega), ob, ob]
          by_cases hmb : MayW c b
          · rw [decide_eq_true hmb, Bool.not_true, cf, F91_eq (by omega) (by omega), ob]
            obtain ⟨l1, l2, l3, l4⟩ := join_len a b
            rcases F33_clash (u := joinP a b) (slot := slot) (by omega) with e | ⟨e, hc⟩
            · rw [e, ob, sr]
            · rw [e, ob, sl]
              rcases F33_slots (u := joinP a b) (slot := slot) (by omega) with e2 | ⟨e2, hc2⟩
              · rw [e2, ob, sr]
              · have hr : Rm (joinP a b) := ⟨inj_of fun i hi => (hc i hi).1, by omega, by omega⟩
                obtain ⟨ha, hb⟩ := join_sb a b
                have sB : ∀ x ∈ (joinP a b).B, x.Slot ≤ slot := fun x hx => by
                  obtain ⟨n, hn⟩ := List.getElem?_of_mem hx
                  exact (hc n (List.getElem?_eq_some_iff.1 hn).1).2 x hn
                have sV : ∀ x ∈ (joinP a b).V, x.Slot ≤ slot := fun x hx => by
                  obtain ⟨n, hn⟩ := List.getElem?_of_mem hx
                  exact hc2 n (List.getElem?_eq_some_iff.1 hn).1 x hn
                have f1 := take_free (upto := slot) hm hr ha hb
                have f2 := take_free (upto := slot) hmb hr hb ha
                have h11 := took hm b slot
                have h12 := took hmb a slot
                rw [e2, ob, sl, F90_eq (by omega) (by omega) (by omega) (by omega), ob, F90_eq (by omega) (by omega) (by omega) (by omega), ob]
                generalize takeP c a b slot = r at f1 h11 ⊢
                generalize takeP c b a slot = q at f2 h12 ⊢
                obtain ⟨w1, w2, w3⟩ := take_whole h11 hmb hr ha hb (fun x hx => sB x (hb.1 x hx)) (fun x hx => sV x (hb.2 x hx))
                obtain ⟨w4, w5, w6⟩ := take_whole h12 hm hr hb ha (fun x hx => sB x (ha.1 x hx)) (fun x hx => sV x (ha.2 x hx))
                have p1 := took_pre h11
                have p2 := took_pre h12
                have u1 := (took_sb h11 ha hb).1
                have u2 := (took_sb h12 hb ha).1
                have t1 : Sb (joinP a b) r.1 := ⟨fun x hx => ((join_mem.1 x).1 hx).elim (p1.1 x) (w1.1 x), fun x hx => ((join_mem.2 x).1 hx).elim (p1.2 x) (w1.2 x)⟩
                have t2 : Sb (joinP a b) q.1 := ⟨fun x hx => ((join_mem.1 x).1 hx).elim (w4.1 x) (p2.1 x), fun x hx => ((join_mem.2 x).1 hx).elim (w4.2 x) (p2.2 x)⟩
                have m1 := h11.may.lenB
                have m2 := h11.may.lenV
                rw [may_same h11.may h12.may ⟨fun x hx => t2.1 x (u1.1 x hx), fun x hx => t2.2 x (u1.2 x hx)⟩ ⟨fun x hx => t1.1 x (u2.1 x hx), fun x hx => t1.2 x (u2.2 x hx)⟩, ob,
                  F92_same (by omega) (by omega) (nodup_of_names h11.may.valid) (withP_nodup (nodup_of_names hm.valid)) h11.may.nodup (withP_nodup hm.nodup) (fun x => ⟨u1.1 x, t1.1 x⟩) (fun x => ⟨u1.2 x, t1.2 x⟩), ob, f1, Bool.not_false, ct, f2, Bool.not_false, ct, ct, ct, w2, w3, w5, w6]
                rfl
          · rw [decide_eq_false hmb, Bool.not_false, ct]
        · rw [decide_eq_false hm, Bool.not_false, ct, ob, ct]
    · rw [decide_eq_false hi, Bool.not_false, ct, ob, ct]
  · rw [decide_eq_false hf, Bool.not_false, ct, ob, ct]
open Classical in
theorem viEarly (c : Cf) (w i : Vw) (slot : Int) : F35 c w i slot = some true := by
  unfold F35
  rw [F83_eq, ob, F84_eq, ob, F84_eq, ob, Bool.not_true, cf]
  by_cases hf : (w.B.length : Int) ≤ 25 ∧ (w.V.length : Int) ≤ 25
  · rw [decide_eq_true hf, Bool.not_true, cf]
    by_cases hi : (i.B.length : Int) ≤ 25 ∧ (i.V.length : Int) ≤ 25
    · rw [decide_eq_true hi, Bool.not_true, cf]
      by_cases h0 : (c.W.length : Int) > 40
      · rw [decide_eq_true h0, ct, ob, ct]
      · rw [decide_eq_false h0, cf, F89_eq (by omega) (by omega), ob]
        by_cases hm : MayW c w
        · rw [decide_eq_true hm, Bool.not_true, cf]
          by_cases c1 : slot < 0
          · rw [decide_eq_true c1, ct, ob, ct]
          · rw [decide_eq_false c1, cf, ob]
            by_cases c2 : slot > 1000000
            · rw [decide_eq_true c2, ct]
            · rw [decide_eq_false c2, cf, F90_eq (by omega) (by omega) (by omega) (by omega), ob, show IntKind.i64.wrap (slot + 1) = slot + 1 from wrapI (by omega) (by omega), F90_eq (by omega) (by omega) (by omega) (by omega), ob]
              have h6 := took hm i slot
              have h7 := took hm i (slot + 1)
              generalize takeP c w i slot = r at h6 ⊢
              generalize takeP c w i (slot + 1) = q at h7 ⊢
              have g6 := took_len h6
              have g7 := took_len h7
              have m1 := h6.may.lenB
              have m2 := h6.may.lenV
              have m3 := h7.may.lenB
              have m4 := h7.may.lenV
              obtain ⟨t, ht, ht2⟩ := h6.preB
              obtain ⟨u, hu, hu2⟩ := h6.preV
              have tl : r.1.B.length = w.B.length + t.length := by rw [ht, List.length_append]
              have ul : r.1.V.length = w.V.length + u.length := by rw [hu, List.length_append]
              have e1 := search_loop (step := F35_s1 slot r) (n := t.length) (fun k => F35_L1.mk ((w.B.length + k : Nat) : Int)) (fun _ => (none : Option Bool)) (fun j hj => by
                obtain ⟨y, hy, hmem⟩ := get_of hj
                have hy2 : r.1.B[w.B.length + j]? = some y := by rw [ht, List.getElem?_append_right (by omega), Nat.add_sub_cancel_left]; exact hy
                unfold F35_s1
                simp only
                rw [decide_eq_true (show ((w.B.length + j : Nat) : Int) < (r.1.B.length : Int) by omega), ct, ix_nat hy2, ob, decide_eq_false (show ¬ y.Slot > slot by have := (ht2 y hmem).2; omega), cf, wrap_succ (n := w.B.length + j) (by omega)]
                rfl) (by
                unfold F35_s1
                simp only
                rw [decide_eq_false (show ¬ ((w.B.length + t.length : Nat) : Int) < (r.1.B.length : Int) by omega), cf]) (by omega)
              have e1' : iter (F35_s1 slot r) big (F35_L1.mk (w.B.length : Int)) = some (.inl (F35_L1.mk ((w.B.length + t.length : Nat) : Int))) := by rw [firstF_none.2 (fun _ _ _ => rfl)] at e1; exact e1
              have e2 := search_loop (step := F35_s2 slot r) (n := u.length) (fun k => F35_L2.mk ((w.V.length + k : Nat) : Int)) (fun _ => (none : Option Bool)) (fun j hj => by
                obtain ⟨y, hy, hmem⟩ := get_of hj
                have hy2 : r.1.V[w.V.length + j]? = some y := by rw [hu, List.getElem?_append_right (by omega), Nat.add_sub_cancel_left]; exact hy
                unfold F35_s2
                simp only
                rw [decide_eq_true (show ((w.V.length + j : Nat) : Int) < (r.1.V.length : Int) by omega), ct, ix_nat hy2, ob, decide_eq_false (show ¬ y.Slot > slot by have := (hu2 y hmem).2; omega), cf, wrap_succ (n := w.V.length + j) (by omega)]
                rfl) (by
                unfold F35_s2
                simp only
                rw [decide_eq_false (show ¬ ((w.V.length + u.length : Nat) : Int) < (r.1.V.length : Int) by omega), cf]) (by omega)
              have e2' : iter (F35_s2 slot r) big (F35_L2.mk (w.V.length : Int)) = some (.inl (F35_L2.mk ((w.V.length + u.length : Nat) : Int))) := by rw [firstF_none.2 (fun _ _ _ => rfl)] at e2; exact e2
              obtain ⟨l1, l2, l3, l4⟩ := join_len w i
              rw [e1', ob, sl, e2', ob, sl, F91_eq (by omega) (by omega), ob]
              rcases F35_clash (u := joinP w i) (by omega) with e | ⟨e, hc⟩
              · rw [e, ob, sr]
              · have hr : Rm (joinP w i) := ⟨inj_of hc, by omega, by omega⟩
                obtain ⟨hw, hiU⟩ := join_sb w i
                have hs := take_more h6 h7 hr hw hiU hiU ⟨fun _ h => h, fun _ h => h⟩ (by omega)
                rw [e, ob, sl, F91_eq (by omega) (by omega), ob, show joinP q.1 r.1 = q.1 by unfold joinP; rw [withP_sub hs.1, withP_sub hs.2]]
                simp
        · rw [decide_eq_false hm, Bool.not_false, ct, ob, ct]
    · rw [decide_eq_false hi, Bool.not_false, ct, ob, ct]
  · rw [decide_eq_false hf, Bool.not_false, ct, ob, ct]
end Go.Mg
