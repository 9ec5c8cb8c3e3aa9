/- Laws of views. Laws of views. Laws of views. Plain laws of views: what is counted, as a set. Plain laws of views: order, and all. Laws of views: ViewOrder, ViewMeets, ViewEarly. Conditions: none. -/
import Derived.Test.YtlhocfhoocmfiaaV2
import Derived.Test.YtlhocfhoocmfiaaV4
namespace Go.Mg
open Go.Proofs
structure F32_L1 where
  i : Int
structure F32_L2 where
  k : Int
def F32_s2 (v6 : Vw) (x1 : F32_L1) (x2 : F32_L2) : Option (F32_L2 ⊕ (F32_L2 ⊕ (F32_L1 ⊕ (F32_L1 ⊕ Bool)))) :=
  bif decide (x2.k < x1.i) then
    (ix v6.B x1.i).bind fun y1 =>
    (ix v6.B x2.k).bind fun y2 =>
    bif ((((nm y1).1) == ((nm y2).1)) && ((((nm y1).2) == ((nm y2).2)) && true)) then
      some (.inr (.inr (.inr (.inr true))))
    else
      some (.inl (F32_L2.mk (IntKind.i64.wrap (x2.k + 1))))
  else
    some (.inr (.inl (F32_L2.mk x2.k)))
def F32_s1 (v6 : Vw) (x1 : F32_L1) : Option (F32_L1 ⊕ (F32_L1 ⊕ Bool)) :=
  bif decide (x1.i < (v6.B.length : Int)) then
    (iter (F32_s2 v6 x1) big (F32_L2.mk 0)).bind fun b_v8 => Sum.elim (fun _ =>
      some (.inl (F32_L1.mk (IntKind.i64.wrap (x1.i + 1))))) some b_v8
  else
    some (.inr (.inl (F32_L1.mk x1.i)))
def F32 (c : Cf) (w : Vw) (v_in : Vw) (slot : Int) (v_at : Int) (vt : Int) : Option Bool :=
  (F83 ).bind fun v1 =>
  (F84 w 25).bind fun v2 =>
  (F84 v_in 25).bind fun v3 =>
  (
    bif !v1 then
      some true
    else
      bif !v2 then
        some true
      else
        bif !v3 then
          some true
        else
          bif decide ((c.W.length : Int) > 40) then
            some true
          else
            (F89 c w).bind fun v5 =>
            bif !v5 then
              some true
            else
              bif decide (v_at < 0) then
                some true
              else
                bif decide (v_at > (v_in.B.length : Int)) then
                  some true
                else
                  bif decide (vt < 0) then
                    some true
                  else
                    some (decide (vt > (v_in.V.length : Int)))
  ).bind fun v4 =>
  bif v4 then
    some v1
  else
    (F91 w v_in).bind fun v6 =>
    (iter (F32_s1 v6) big (F32_L1.mk 0)).bind fun b_v7 => Sum.elim (fun _ =>
      (F90 c w v_in slot).bind fun v9 =>
      bif inL v_in.B 0 v_at then
        bif inL v_in.V 0 vt then
          bif inL v_in.B v_at v_in.B.length then
            bif inL v_in.V vt v_in.V.length then
              (F90 c w (Vw.mk (v_in.B.drop v_at.toNat) (v_in.V.drop vt.toNat)) slot).bind fun v10 =>
              (F91 v10.2.1 (Vw.mk (v_in.B.take v_at.toNat) (v_in.V.take vt.toNat))).bind fun v11 =>
              (F90 c v10.1 v11 slot).bind fun v12 =>
              (F91 (Vw.mk (v_in.B.drop v_at.toNat) (v_in.V.drop vt.toNat)) (Vw.mk (v_in.B.take v_at.toNat) (v_in.V.take vt.toNat))).bind fun v13 =>
              (F90 c w v13 slot).bind fun v14 =>
              (F92 v9.1 v12.1).bind fun v15 =>
              (F92 v9.1 v14.1).bind fun v16 =>
              bif v15 then
                some v16
              else
                some false
            else none
          else none
        else none
      else none) some b_v7
set_option maxRecDepth 100000 in
theorem c32 {c : Cf} {w : Vw} {v_in : Vw} {slot : Int} {v_at : Int} {vt : Int} {r_ : Bool} (hr : F32 c w v_in slot v_at vt = some r_) : LPure Try.prog 32 [cfP c, vwP w, vwP v_in, .int .i64 slot, .int .i64 v_at, .int .i64 vt] [.bool r_] := by
  refine LPure.start Try.func32 rfl rfl rfl rfl ?_
  unfold F32 at hr
  refine LW.seq ?_
  refine LW.region ?_
  refine LOps.st rfl rfl rfl (LOp.box rfl rfl rfl rfl rfl) ?_
  refine LOps.st rfl rfl rfl (LOp.box rfl rfl rfl rfl rfl) ?_
  refine LOps.st rfl rfl rfl (LOp.box rfl rfl rfl rfl rfl) ?_
  refine LOps.st rfl rfl rfl (LOp.assign rfl rfl) ?_
  refine LOps.nil ?_
  refine thn_n ?_
  refine LW.seq ?_
  refine LW.region ?_
  obtain ⟨v1, h_v1, hr⟩ := bind_get hr
  refine LOps.st rfl rfl rfl (LOp.call rfl rfl rfl (by kernel_rfl) (LC.pure (c83 h_v1) .nil)) ?_
  refine LOps.st rfl rfl rfl (LOp.assign rfl rfl) ?_
  refine LOps.nil ?_
  refine thn_n ?_
  refine LW.seq ?_
  refine LW.region ?_
  refine LOps.st rfl rfl rfl (LOp.load rfl rfl rfl vt75 rfl rfl) ?_
  obtain ⟨v2, h_v2, hr⟩ := bind_get hr
  refine LOps.st rfl rfl rfl (LOp.call rfl rfl rfl (by kernel_rfl) (LC.pure (c84 h_v2) (.cons Conv.p (.cons Conv.p .nil)))) ?_
  refine LOps.st rfl rfl rfl (LOp.assign rfl rfl) ?_
  refine LOps.nil ?_
  refine thn_n ?_
  refine LW.seq ?_
  refine LW.region ?_
  refine LOps.st rfl rfl rfl (LOp.load rfl rfl rfl vt75 rfl rfl) ?_
  obtain ⟨v3, h_v3, hr⟩ := bind_get hr
  refine LOps.st rfl rfl rfl (LOp.call rfl rfl rfl (by kernel_rfl) (LC.pure (c84 h_v3) (.cons Conv.p (.cons Conv.p .nil)))) ?_
  refine LOps.st rfl rfl rfl (LOp.assign rfl rfl) ?_
  refine LOps.nil ?_
  refine thn_n ?_
  refine LW.seq ?_
  obtain ⟨v4, hb_v4, ho_v4⟩ := bind_get hr
  clear hr
  refine LW.cut (E := [(3, .p (.int .i64 slot)), (4, .p (.int .i64 v_at)), (5, .p (.int .i64 vt)), (6, .ptr 0 0), (7, .ptr 1 0), (8, .ptr 2 0), (12, .p (.bool false)), (13, .p (.bool v1)), (83, .p (.bool v4))]) (O := [.box [.p (.slice 1 (c.W.map i64P)), .p (.int .u64 c.Seed), .p (.int .i64 c.Epoch), .p (.int .i64 c.Num), .p (.int .i64 c.Den)], .box [.p (.slice 5 (w.B.map blkP)), .p (.slice 4 (w.V.map vtP))], .box [.p (.slice 5 (v_in.B.map blkP)), .p (.slice 4 (v_in.V.map vtP))]]) ?_ ?_
  · have hr := hb_v4
    refine LW.region ?_
    refine LOps.st rfl rfl rfl (LOp.move rfl rfl) ?_
    refine LOps.st rfl rfl rfl (LOp.not rfl rfl) ?_
    refine LOps.st rfl rfl rfl (LOp.move rfl rfl) ?_
    refine LOps.cases 42 rfl (fun (g1 : (!v1) = true) => ?_) (fun (g1 : (!v1) = false) => ?_)
    · -- g1 is True
      have hr := ite_t g1 hr
      refine LOps.sk rfl rfl rfl (gd g1 rfl) rfl rfl ?_
      refine LOps.sk rfl rfl rfl (gd g1 rfl) rfl rfl ?_
      refine LOps.st rfl rfl rfl (LOp.pickT rfl (gdl g1 rfl) rfl) ?_
      refine LOps.st rfl rfl rfl (LOp.move rfl rfl) ?_
      refine LOps.sk rfl rfl rfl rfl rfl rfl ?_
      refine LOps.sk rfl rfl rfl rfl rfl rfl ?_
      refine LOps.st rfl rfl rfl (LOp.pickT rfl rfl rfl) ?_
      refine LOps.st rfl rfl rfl (LOp.move rfl rfl) ?_
      refine LOps.sk rfl rfl rfl rfl rfl rfl ?_
      refine LOps.sk rfl rfl rfl rfl rfl rfl ?_
      refine LOps.sk rfl rfl rfl rfl rfl rfl ?_
      refine LOps.sk rfl rfl rfl rfl rfl rfl ?_
      refine LOps.st rfl rfl rfl (LOp.pickT rfl rfl rfl) ?_
      refine LOps.st rfl rfl rfl (LOp.move rfl rfl) ?_
      refine LOps.sk rfl rfl rfl rfl rfl rfl ?_
      refine LOps.sk rfl rfl rfl rfl rfl rfl ?_
      refine LOps.sk rfl rfl rfl rfl rfl rfl ?_
      refine LOps.sk rfl rfl rfl rfl rfl rfl ?_
      refine LOps.st rfl rfl rfl (LOp.pickT rfl rfl rfl) ?_
      refine LOps.st rfl rfl rfl (LOp.move rfl rfl) ?_
      refine LOps.sk rfl rfl rfl rfl rfl rfl ?_
      refine LOps.sk rfl rfl rfl rfl rfl rfl ?_
      refine LOps.st rfl rfl rfl (LOp.pickT rfl rfl rfl) ?_
      refine LOps.st rfl rfl rfl (LOp.move rfl rfl) ?_
      refine LOps.sk rfl rfl rfl rfl rfl rfl ?_
      refine LOps.sk rfl rfl rfl rfl rfl rfl ?_
      refine LOps.sk rfl rfl rfl rfl rfl rfl ?_
      refine LOps.sk rfl rfl rfl rfl rfl rfl ?_
      refine LOps.sk rfl rfl rfl rfl rfl rfl ?_
      refine LOps.st rfl rfl rfl (LOp.pickT rfl rfl rfl) ?_
      refine LOps.st rfl rfl rfl (LOp.move rfl rfl) ?_
      refine LOps.sk rfl rfl rfl rfl rfl rfl ?_
      refine LOps.sk rfl rfl rfl rfl rfl rfl ?_
      refine LOps.st rfl rfl rfl (LOp.pickT rfl rfl rfl) ?_
      refine LOps.st rfl rfl rfl (LOp.move rfl rfl) ?_
      refine LOps.sk rfl rfl rfl rfl rfl rfl ?_
      refine LOps.sk rfl rfl rfl rfl rfl rfl ?_
      refine LOps.sk rfl rfl rfl rfl rfl rfl ?_
      refine LOps.sk rfl rfl rfl rfl rfl rfl ?_
      refine LOps.sk rfl rfl rfl rfl rfl rfl ?_
      refine LOps.st rfl rfl rfl (LOp.pickT rfl rfl rfl) ?_
      refine LOps.nil ?_
      refine thn_n ?_
      obtain rfl := Option.some.inj hr
      exact Weak.of 3 ⟨rfl, rfl, rfl, rfl, rfl, rfl, rfl, rfl, rfl, trivial⟩ rfl rfl rfl rfl
    · -- g1 is False
      have hr := ite_f g1 hr
      refine LOps.gd rfl rfl rfl (gd g1 rfl) rfl (LOp.move rfl rfl) ?_
      refine LOps.gd rfl rfl rfl (gd g1 rfl) rfl (LOp.not rfl rfl) ?_
      refine LOps.st rfl rfl rfl (LOp.pickF rfl (gdl g1 rfl) rfl) ?_
      refine LOps.st rfl rfl rfl (LOp.move rfl rfl) ?_
      refine LOps.cases 46 rfl (fun (g2 : (!v2) = true) => ?_) (fun (g2 : (!v2) = false) => ?_)
      · -- g2 is True
        have hr := ite_t g2 hr
        refine LOps.sk rfl rfl rfl (gd g2 rfl) rfl rfl ?_
        refine LOps.sk rfl rfl rfl (gd g2 rfl) rfl rfl ?_
        refine LOps.st rfl rfl rfl (LOp.pickT rfl (gdl g2 rfl) rfl) ?_
        refine LOps.st rfl rfl rfl (LOp.move rfl rfl) ?_
        refine LOps.sk rfl rfl rfl rfl rfl rfl ?_
        refine LOps.sk rfl rfl rfl rfl rfl rfl ?_
        refine LOps.sk rfl rfl rfl rfl rfl rfl ?_
        refine LOps.sk rfl rfl rfl rfl rfl rfl ?_
        refine LOps.st rfl rfl rfl (LOp.pickT rfl rfl rfl) ?_
        refine LOps.st rfl rfl rfl (LOp.move rfl rfl) ?_
        refine LOps.sk rfl rfl rfl rfl rfl rfl ?_
        refine LOps.sk rfl rfl rfl rfl rfl rfl ?_
        refine LOps.sk rfl rfl rfl rfl rfl rfl ?_
        refine LOps.sk rfl rfl rfl rfl rfl rfl ?_
        refine LOps.st rfl rfl rfl (LOp.pickT rfl rfl rfl) ?_
        refine LOps.st rfl rfl rfl (LOp.move rfl rfl) ?_
        refine LOps.sk rfl rfl rfl rfl rfl rfl ?_
        refine LOps.sk rfl rfl rfl rfl rfl rfl ?_
        refine LOps.st rfl rfl rfl (LOp.pickT rfl rfl rfl) ?_
        refine LOps.st rfl rfl rfl (LOp.move rfl rfl) ?_
        refine LOps.sk rfl rfl rfl rfl rfl rfl ?_
        refine LOps.sk rfl rfl rfl rfl rfl rfl ?_
        refine LOps.sk rfl rfl rfl rfl rfl rfl ?_
        refine LOps.sk rfl rfl rfl rfl rfl rfl ?_
        refine LOps.sk rfl rfl rfl rfl rfl rfl ?_
        refine LOps.st rfl rfl rfl (LOp.pickT rfl rfl rfl) ?_
        refine LOps.st rfl rfl rfl (LOp.move rfl rfl) ?_
        refine LOps.sk rfl rfl rfl rfl rfl rfl ?_
        refine LOps.sk rfl rfl rfl rfl rfl rfl ?_
        refine LOps.st rfl rfl rfl (LOp.pickT rfl rfl rfl) ?_
        refine LOps.st rfl rfl rfl (LOp.move rfl rfl) ?_
        refine LOps.sk rfl rfl rfl rfl rfl rfl ?_
        refine LOps.sk rfl rfl rfl rfl rfl rfl ?_
        refine LOps.sk rfl rfl rfl rfl rfl rfl ?_
        refine LOps.sk rfl rfl rfl rfl rfl rfl ?_
        refine LOps.sk rfl rfl rfl rfl rfl rfl ?_
        refine LOps.st rfl rfl rfl (LOp.pickT rfl rfl rfl) ?_
        refine LOps.nil ?_
        refine thn_n ?_
        obtain rfl := Option.some.inj hr
        exact Weak.of 3 ⟨rfl, rfl, rfl, rfl, rfl, rfl, rfl, rfl, rfl, trivial⟩ rfl rfl rfl rfl
      · -- g2 is False
        have hr := ite_f g2 hr
        refine LOps.gd rfl rfl rfl (gd g2 rfl) rfl (LOp.move rfl rfl) ?_
        refine LOps.gd rfl rfl rfl (gd g2 rfl) rfl (LOp.not rfl rfl) ?_
        refine LOps.st rfl rfl rfl (LOp.pickF rfl (gdl g2 rfl) rfl) ?_
        refine LOps.st rfl rfl rfl (LOp.move rfl rfl) ?_
        refine LOps.cases 50 rfl (fun (g3 : (!v3) = true) => ?_) (fun (g3 : (!v3) = false) => ?_)
        · -- g3 is True
          have hr := ite_t g3 hr
          refine LOps.sk rfl rfl rfl (gd g3 rfl) rfl rfl ?_
          refine LOps.sk rfl rfl rfl (gd g3 rfl) rfl rfl ?_
          refine LOps.sk rfl rfl rfl (gd g3 rfl) rfl rfl ?_
          refine LOps.sk rfl rfl rfl (gd g3 rfl) rfl rfl ?_
          refine LOps.st rfl rfl rfl (LOp.pickT rfl (gdl g3 rfl) rfl) ?_
          refine LOps.st rfl rfl rfl (LOp.move rfl rfl) ?_
          refine LOps.sk rfl rfl rfl rfl rfl rfl ?_
          refine LOps.sk rfl rfl rfl rfl rfl rfl ?_
          refine LOps.sk rfl rfl rfl rfl rfl rfl ?_
          refine LOps.sk rfl rfl rfl rfl rfl rfl ?_
          refine LOps.st rfl rfl rfl (LOp.pickT rfl rfl rfl) ?_
          refine LOps.st rfl rfl rfl (LOp.move rfl rfl) ?_
          refine LOps.sk rfl rfl rfl rfl rfl rfl ?_
          refine LOps.sk rfl rfl rfl rfl rfl rfl ?_
          refine LOps.st rfl rfl rfl (LOp.pickT rfl rfl rfl) ?_
          refine LOps.st rfl rfl rfl (LOp.move rfl rfl) ?_
          refine LOps.sk rfl rfl rfl rfl rfl rfl ?_
          refine LOps.sk rfl rfl rfl rfl rfl rfl ?_
          refine LOps.sk rfl rfl rfl rfl rfl rfl ?_
          refine LOps.sk rfl rfl rfl rfl rfl rfl ?_
          refine LOps.sk rfl rfl rfl rfl rfl rfl ?_
          refine LOps.st rfl rfl rfl (LOp.pickT rfl rfl rfl) ?_
          refine LOps.st rfl rfl rfl (LOp.move rfl rfl) ?_
          refine LOps.sk rfl rfl rfl rfl rfl rfl ?_
          refine LOps.sk rfl rfl rfl rfl rfl rfl ?_
          refine LOps.st rfl rfl rfl (LOp.pickT rfl rfl rfl) ?_
          refine LOps.st rfl rfl rfl (LOp.move rfl rfl) ?_
          refine LOps.sk rfl rfl rfl rfl rfl rfl ?_
          refine LOps.sk rfl rfl rfl rfl rfl rfl ?_
          refine LOps.sk rfl rfl rfl rfl rfl rfl ?_
          refine LOps.sk rfl rfl rfl rfl rfl rfl ?_
          refine LOps.sk rfl rfl rfl rfl rfl rfl ?_
          refine LOps.st rfl rfl rfl (LOp.pickT rfl rfl rfl) ?_
          refine LOps.nil ?_
          refine thn_n ?_
          obtain rfl := Option.some.inj hr
          exact Weak.of 3 ⟨rfl, rfl, rfl, rfl, rfl, rfl, rfl, rfl, rfl, trivial⟩ rfl rfl rfl rfl
        · -- g3 is False
          have hr := ite_f g3 hr
          refine LOps.gd rfl rfl rfl (gd g3 rfl) rfl (LOp.fieldAddr rfl rfl ft55_0) ?_
          refine LOps.gd rfl rfl rfl (gd g3 rfl) rfl (LOp.load rfl rfl rfl vt49 rfl rfl) ?_
          refine LOps.gd rfl rfl rfl (gd g3 rfl) rfl (LOp.lenM rfl rfl (by kernel_rfl)) ?_
          refine LOps.gd rfl rfl rfl (gd g3 rfl) rfl (LOp.bin rfl rfl rfl rfl) ?_
          refine LOps.st rfl rfl rfl (LOp.pickF rfl (gdl g3 rfl) rfl) ?_
          refine LOps.st rfl rfl rfl (LOp.move rfl rfl) ?_
          refine LOps.cases 56 rfl (fun (g4 : (decide ((c.W.length : Int) > 40)) = true) => ?_) (fun (g4 : (decide ((c.W.length : Int) > 40)) = false) => ?_)
          · -- g4 is True
            have hr := ite_t g4 hr
            refine LOps.sk rfl rfl rfl (gd g4 rfl) rfl rfl ?_
            refine LOps.sk rfl rfl rfl (gd g4 rfl) rfl rfl ?_
            refine LOps.sk rfl rfl rfl (gd g4 rfl) rfl rfl ?_
            refine LOps.sk rfl rfl rfl (gd g4 rfl) rfl rfl ?_
            refine LOps.st rfl rfl rfl (LOp.pickT rfl (gdl g4 rfl) rfl) ?_
            refine LOps.st rfl rfl rfl (LOp.move rfl rfl) ?_
            refine LOps.sk rfl rfl rfl rfl rfl rfl ?_
            refine LOps.sk rfl rfl rfl rfl rfl rfl ?_
            refine LOps.st rfl rfl rfl (LOp.pickT rfl rfl rfl) ?_
            refine LOps.st rfl rfl rfl (LOp.move rfl rfl) ?_
            refine LOps.sk rfl rfl rfl rfl rfl rfl ?_
            refine LOps.sk rfl rfl rfl rfl rfl rfl ?_
            refine LOps.sk rfl rfl rfl rfl rfl rfl ?_
            refine LOps.sk rfl rfl rfl rfl rfl rfl ?_
            refine LOps.sk rfl rfl rfl rfl rfl rfl ?_
            refine LOps.st rfl rfl rfl (LOp.pickT rfl rfl rfl) ?_
            refine LOps.st rfl rfl rfl (LOp.move rfl rfl) ?_
            refine LOps.sk rfl rfl rfl rfl rfl rfl ?_
            refine LOps.sk rfl rfl rfl rfl rfl rfl ?_
            refine LOps.st rfl rfl rfl (LOp.pickT rfl rfl rfl) ?_
            refine LOps.st rfl rfl rfl (LOp.move rfl rfl) ?_
            refine LOps.sk rfl rfl rfl rfl rfl rfl ?_
            refine LOps.sk rfl rfl rfl rfl rfl rfl ?_
            refine LOps.sk rfl rfl rfl rfl rfl rfl ?_
            refine LOps.sk rfl rfl rfl rfl rfl rfl ?_
            refine LOps.sk rfl rfl rfl rfl rfl rfl ?_
            refine LOps.st rfl rfl rfl (LOp.pickT rfl rfl rfl) ?_
            refine LOps.nil ?_
            refine thn_n ?_
            obtain rfl := Option.some.inj hr
            exact Weak.of 3 ⟨rfl, rfl, rfl, rfl, rfl, rfl, rfl, rfl, rfl, trivial⟩ rfl rfl rfl rfl
          · -- g4 is False
            have hr := ite_f g4 hr
            refine LOps.gd rfl rfl rfl (gd g4 rfl) rfl (LOp.load rfl rfl rfl vt55 rfl rfl) ?_
            refine LOps.gd rfl rfl rfl (gd g4 rfl) rfl (LOp.load rfl rfl rfl vt75 rfl rfl) ?_
            obtain ⟨v5, h_v5, hr⟩ := bind_get hr
            refine LOps.gd rfl rfl rfl (gd g4 rfl) rfl (LOp.call rfl rfl rfl (by kernel_rfl) (LC.pure (c89 h_v5) (.cons Conv.p (.cons Conv.p .nil)))) ?_
            refine LOps.gd rfl rfl rfl (gd g4 rfl) rfl (LOp.not rfl rfl) ?_
            refine LOps.st rfl rfl rfl (LOp.pickF rfl (gdl g4 rfl) rfl) ?_
            refine LOps.st rfl rfl rfl (LOp.move rfl rfl) ?_
            refine LOps.cases 62 rfl (fun (g5 : (!v5) = true) => ?_) (fun (g5 : (!v5) = false) => ?_)
            · -- g5 is True
              have hr := ite_t g5 hr
              refine LOps.sk rfl rfl rfl (gd g5 rfl) rfl rfl ?_
              refine LOps.sk rfl rfl rfl (gd g5 rfl) rfl rfl ?_
              refine LOps.st rfl rfl rfl (LOp.pickT rfl (gdl g5 rfl) rfl) ?_
              refine LOps.st rfl rfl rfl (LOp.move rfl rfl) ?_
              refine LOps.sk rfl rfl rfl rfl rfl rfl ?_
              refine LOps.sk rfl rfl rfl rfl rfl rfl ?_
              refine LOps.sk rfl rfl rfl rfl rfl rfl ?_
              refine LOps.sk rfl rfl rfl rfl rfl rfl ?_
              refine LOps.sk rfl rfl rfl rfl rfl rfl ?_
              refine LOps.st rfl rfl rfl (LOp.pickT rfl rfl rfl) ?_
              refine LOps.st rfl rfl rfl (LOp.move rfl rfl) ?_
              refine LOps.sk rfl rfl rfl rfl rfl rfl ?_
              refine LOps.sk rfl rfl rfl rfl rfl rfl ?_
              refine LOps.st rfl rfl rfl (LOp.pickT rfl rfl rfl) ?_
              refine LOps.st rfl rfl rfl (LOp.move rfl rfl) ?_
              refine LOps.sk rfl rfl rfl rfl rfl rfl ?_
              refine LOps.sk rfl rfl rfl rfl rfl rfl ?_
              refine LOps.sk rfl rfl rfl rfl rfl rfl ?_
              refine LOps.sk rfl rfl rfl rfl rfl rfl ?_
              refine LOps.sk rfl rfl rfl rfl rfl rfl ?_
              refine LOps.st rfl rfl rfl (LOp.pickT rfl rfl rfl) ?_
              refine LOps.nil ?_
              refine thn_n ?_
              obtain rfl := Option.some.inj hr
              exact Weak.of 3 ⟨rfl, rfl, rfl, rfl, rfl, rfl, rfl, rfl, rfl, trivial⟩ rfl rfl rfl rfl
            · -- g5 is False
              have hr := ite_f g5 hr
              refine LOps.gd rfl rfl rfl (gd g5 rfl) rfl (LOp.move rfl rfl) ?_
              refine LOps.gd rfl rfl rfl (gd g5 rfl) rfl (LOp.bin rfl rfl rfl rfl) ?_
              refine LOps.st rfl rfl rfl (LOp.pickF rfl (gdl g5 rfl) rfl) ?_
              refine LOps.st rfl rfl rfl (LOp.move rfl rfl) ?_
              refine LOps.cases 66 rfl (fun (g6 : (decide (v_at < 0)) = true) => ?_) (fun (g6 : (decide (v_at < 0)) = false) => ?_)
              · -- g6 is True
                have hr := ite_t g6 hr
                refine LOps.sk rfl rfl rfl (gd g6 rfl) rfl rfl ?_
                refine LOps.sk rfl rfl rfl (gd g6 rfl) rfl rfl ?_
                refine LOps.sk rfl rfl rfl (gd g6 rfl) rfl rfl ?_
                refine LOps.sk rfl rfl rfl (gd g6 rfl) rfl rfl ?_
                refine LOps.sk rfl rfl rfl (gd g6 rfl) rfl rfl ?_
                refine LOps.st rfl rfl rfl (LOp.pickT rfl (gdl g6 rfl) rfl) ?_
                refine LOps.st rfl rfl rfl (LOp.move rfl rfl) ?_
                refine LOps.sk rfl rfl rfl rfl rfl rfl ?_
                refine LOps.sk rfl rfl rfl rfl rfl rfl ?_
                refine LOps.st rfl rfl rfl (LOp.pickT rfl rfl rfl) ?_
                refine LOps.st rfl rfl rfl (LOp.move rfl rfl) ?_
                refine LOps.sk rfl rfl rfl rfl rfl rfl ?_
                refine LOps.sk rfl rfl rfl rfl rfl rfl ?_
                refine LOps.sk rfl rfl rfl rfl rfl rfl ?_
                refine LOps.sk rfl rfl rfl rfl rfl rfl ?_
                refine LOps.sk rfl rfl rfl rfl rfl rfl ?_
                refine LOps.st rfl rfl rfl (LOp.pickT rfl rfl rfl) ?_
                refine LOps.nil ?_
                refine thn_n ?_
                obtain rfl := Option.some.inj hr
                exact Weak.of 3 ⟨rfl, rfl, rfl, rfl, rfl, rfl, rfl, rfl, rfl, trivial⟩ rfl rfl rfl rfl
              · -- g6 is False
                have hr := ite_f g6 hr
                refine LOps.gd rfl rfl rfl (gd g6 rfl) rfl (LOp.move rfl rfl) ?_
                refine LOps.gd rfl rfl rfl (gd g6 rfl) rfl (LOp.fieldAddr rfl rfl ft75_0) ?_
                refine LOps.gd rfl rfl rfl (gd g6 rfl) rfl (LOp.load rfl rfl rfl vt27 rfl rfl) ?_
                refine LOps.gd rfl rfl rfl (gd g6 rfl) rfl (LOp.lenM rfl rfl (by kernel_rfl)) ?_
                refine LOps.gd rfl rfl rfl (gd g6 rfl) rfl (LOp.bin rfl rfl rfl rfl) ?_
                refine LOps.st rfl rfl rfl (LOp.pickF rfl (gdl g6 rfl) rfl) ?_
                refine LOps.st rfl rfl rfl (LOp.move rfl rfl) ?_
                refine LOps.cases 73 rfl (fun (g7 : (decide (v_at > (v_in.B.length : Int))) = true) => ?_) (fun (g7 : (decide (v_at > (v_in.B.length : Int))) = false) => ?_)
                · -- g7 is True
                  have hr := ite_t g7 hr
                  refine LOps.sk rfl rfl rfl (gd g7 rfl) rfl rfl ?_
                  refine LOps.sk rfl rfl rfl (gd g7 rfl) rfl rfl ?_
                  refine LOps.st rfl rfl rfl (LOp.pickT rfl (gdl g7 rfl) rfl) ?_
                  refine LOps.st rfl rfl rfl (LOp.move rfl rfl) ?_
                  refine LOps.sk rfl rfl rfl rfl rfl rfl ?_
                  refine LOps.sk rfl rfl rfl rfl rfl rfl ?_
                  refine LOps.sk rfl rfl rfl rfl rfl rfl ?_
                  refine LOps.sk rfl rfl rfl rfl rfl rfl ?_
                  refine LOps.sk rfl rfl rfl rfl rfl rfl ?_
                  refine LOps.st rfl rfl rfl (LOp.pickT rfl rfl rfl) ?_
                  refine LOps.nil ?_
                  refine thn_n ?_
                  obtain rfl := Option.some.inj hr
                  exact Weak.of 3 ⟨rfl, rfl, rfl, rfl, rfl, rfl, rfl, rfl, rfl, trivial⟩ rfl rfl rfl rfl
                · -- g7 is False
                  have hr := ite_f g7 hr
                  refine LOps.gd rfl rfl rfl (gd g7 rfl) rfl (LOp.move rfl rfl) ?_
                  refine LOps.gd rfl rfl rfl (gd g7 rfl) rfl (LOp.bin rfl rfl rfl rfl) ?_
                  refine LOps.st rfl rfl rfl (LOp.pickF rfl (gdl g7 rfl) rfl) ?_
                  refine LOps.st rfl rfl rfl (LOp.move rfl rfl) ?_
                  refine LOps.cases 77 rfl (fun (g8 : (decide (vt < 0)) = true) => ?_) (fun (g8 : (decide (vt < 0)) = false) => ?_)
                  · -- g8 is True
                    have hr := ite_t g8 hr
                    refine LOps.sk rfl rfl rfl (gd g8 rfl) rfl rfl ?_
                    refine LOps.sk rfl rfl rfl (gd g8 rfl) rfl rfl ?_
                    refine LOps.sk rfl rfl rfl (gd g8 rfl) rfl rfl ?_
                    refine LOps.sk rfl rfl rfl (gd g8 rfl) rfl rfl ?_
                    refine LOps.sk rfl rfl rfl (gd g8 rfl) rfl rfl ?_
                    refine LOps.st rfl rfl rfl (LOp.pickT rfl (gdl g8 rfl) rfl) ?_
                    refine LOps.nil ?_
                    refine thn_n ?_
                    obtain rfl := Option.some.inj hr
                    exact Weak.of 3 ⟨rfl, rfl, rfl, rfl, rfl, rfl, rfl, rfl, rfl, trivial⟩ rfl rfl rfl rfl
                  · -- g8 is False
                    have hr := ite_f g8 hr
                    refine LOps.gd rfl rfl rfl (gd g8 rfl) rfl (LOp.move rfl rfl) ?_
                    refine LOps.gd rfl rfl rfl (gd g8 rfl) rfl (LOp.fieldAddr rfl rfl ft75_1) ?_
                    refine LOps.gd rfl rfl rfl (gd g8 rfl) rfl (LOp.load rfl rfl rfl vt68 rfl rfl) ?_
                    refine LOps.gd rfl rfl rfl (gd g8 rfl) rfl (LOp.lenM rfl rfl (by kernel_rfl)) ?_
                    refine LOps.gd rfl rfl rfl (gd g8 rfl) rfl (LOp.bin rfl rfl rfl rfl) ?_
                    refine LOps.st rfl rfl rfl (LOp.pickF rfl (gdl g8 rfl) rfl) ?_
                    refine LOps.nil ?_
                    refine thn_n ?_
                    obtain rfl := Option.some.inj hr
                    exact Weak.of 3 ⟨rfl, rfl, rfl, rfl, rfl, rfl, rfl, rfl, rfl, trivial⟩ rfl rfl rfl rfl
  · have hr := ho_v4
    clear hb_v4
    refine LW.cond rfl (fun (g9 : v4 = true) => ?_) (fun (g9 : v4 = false) => ?_)
    · -- g9 is True
      have hr := ite_t g9 hr
      refine LW.seq ?_
      refine LW.region ?_
      refine LOps.st rfl rfl rfl (LOp.move rfl rfl) ?_
      refine LOps.st rfl rfl rfl (LOp.assign rfl rfl) ?_
      refine LOps.nil ?_
      refine thn_n ?_
      refine LW.ret ?_
      refine thn_r ?_
      obtain rfl := Option.some.inj hr
      refine finP_ret (.one (.tmp rfl)) ?_
      exact Conv.p
    · -- g9 is False
      have hr := ite_f g9 hr
      refine LW.skip ?_
      refine thn_n ?_
      refine LW.seq ?_
      refine LW.region ?_
      refine LOps.st rfl rfl rfl (LOp.load rfl rfl rfl vt75 rfl rfl) ?_
      refine LOps.st rfl rfl rfl (LOp.load rfl rfl rfl vt75 rfl rfl) ?_
      obtain ⟨v6, h_v6, hr⟩ := bind_get hr
      refine LOps.st rfl rfl rfl (LOp.call rfl rfl rfl (by kernel_rfl) (LC.pure (c91 h_v6) (.cons Conv.p (.cons Conv.p .nil)))) ?_
      refine LOps.st rfl rfl rfl (LOp.alloc rfl zt75 rfl rfl) ?_
      refine LOps.st rfl rfl rfl (LOp.store rfl rfl rfl rfl vt75 rfl rfl rfl rfl) ?_
      refine LOps.nil ?_
      refine thn_n ?_
      refine LW.seq ?_
      refine LW.seq ?_
      refine LW.region ?_
      refine LOps.st rfl rfl rfl (LOp.assign rfl rfl) ?_
      refine LOps.nil ?_
      refine thn_n ?_
      obtain ⟨b_v7, hb_v7, ho_v7⟩ := bind_get hr
      clear hr
      refine LW.tailB (b := b_v7) (E := fun v7 => [(3, .p (.int .i64 slot)), (4, .p (.int .i64 v_at)), (5, .p (.int .i64 vt)), (6, .ptr 0 0), (7, .ptr 1 0), (8, .ptr 2 0), (12, .p (.bool false))]) (O := fun v7 => [.box [.p (.slice 1 (c.W.map i64P)), .p (.int .u64 c.Seed), .p (.int .i64 c.Epoch), .p (.int .i64 c.Num), .p (.int .i64 c.Den)], .box [.p (.slice 5 (w.B.map blkP)), .p (.slice 4 (w.V.map vtP))], .box [.p (.slice 5 (v_in.B.map blkP)), .p (.slice 4 (v_in.V.map vtP))], .box [.p (.slice 5 (v6.B.map blkP)), .p (.slice 4 (v6.V.map vtP))]]) ?_ (fun v7 e_v7 env_v7 H_v7 hw_v7 => ?_)
      · refine LW.block ?_
        refine LW.iterB (E := fun x1 : F32_L1 => [(3, .p (.int .i64 slot)), (4, .p (.int .i64 v_at)), (5, .p (.int .i64 vt)), (6, .ptr 0 0), (7, .ptr 1 0), (8, .ptr 2 0), (12, .p (.bool false)), (16, .ptr 3 0), (17, .p (.int .i64 x1.i))]) (O := fun x1 => [.box [.p (.slice 1 (c.W.map i64P)), .p (.int .u64 c.Seed), .p (.int .i64 c.Epoch), .p (.int .i64 c.Num), .p (.int .i64 c.Den)], .box [.p (.slice 5 (w.B.map blkP)), .p (.slice 4 (w.V.map vtP))], .box [.p (.slice 5 (v_in.B.map blkP)), .p (.slice 4 (v_in.V.map vtP))], .box [.p (.slice 5 (v6.B.map blkP)), .p (.slice 4 (v6.V.map vtP))]]) hb_v7 (Weak.of 4 ⟨rfl, rfl, rfl, rfl, rfl, rfl, rfl, rfl, rfl, trivial⟩ rfl rfl rfl rfl) (fun x1 z_x1 hr hb_x1 => ?_)
        unfold F32_s1 at hr
        refine LW.seq ?_
        refine LW.seq ?_
        refine LW.region ?_
        refine LOps.st rfl rfl rfl (LOp.move rfl rfl) ?_
        refine LOps.st rfl rfl rfl (LOp.fieldAddr rfl rfl ft75_0) ?_
        refine LOps.st rfl rfl rfl (LOp.load rfl rfl rfl vt27 rfl rfl) ?_
        refine LOps.st rfl rfl rfl (LOp.lenM rfl rfl (by kernel_rfl)) ?_
        refine LOps.st rfl rfl rfl (LOp.bin rfl rfl rfl rfl) ?_
        refine LOps.nil ?_
        refine thn_n ?_
        refine LW.cond rfl (fun (g10 : (decide (x1.i < (v6.B.length : Int))) = true) => ?_) (fun (g10 : (decide (x1.i < (v6.B.length : Int))) = false) => ?_)
        · -- g10 is True
          have hr := ite_t g10 hr
          refine LW.skip ?_
          refine thn_n ?_
          refine LW.seq ?_
          refine LW.block ?_
          refine LW.seq ?_
          refine LW.region ?_
          refine LOps.st rfl rfl rfl (LOp.assign rfl rfl) ?_
          refine LOps.nil ?_
          refine thn_n ?_
          obtain ⟨b_v8, hb_v8, ho_v8⟩ := bind_get hr
          clear hr
          refine LW.tailB (b := b_v8) (E := fun v8 => [(3, .p (.int .i64 slot)), (4, .p (.int .i64 v_at)), (5, .p (.int .i64 vt)), (6, .ptr 0 0), (7, .ptr 1 0), (8, .ptr 2 0), (12, .p (.bool false)), (16, .ptr 3 0), (17, .p (.int .i64 x1.i))]) (O := fun v8 => [.box [.p (.slice 1 (c.W.map i64P)), .p (.int .u64 c.Seed), .p (.int .i64 c.Epoch), .p (.int .i64 c.Num), .p (.int .i64 c.Den)], .box [.p (.slice 5 (w.B.map blkP)), .p (.slice 4 (w.V.map vtP))], .box [.p (.slice 5 (v_in.B.map blkP)), .p (.slice 4 (v_in.V.map vtP))], .box [.p (.slice 5 (v6.B.map blkP)), .p (.slice 4 (v6.V.map vtP))]]) ?_ (fun v8 e_v8 env_v8 H_v8 hw_v8 => ?_)
          · refine LW.block ?_
            refine LW.iterB (E := fun x2 : F32_L2 => [(3, .p (.int .i64 slot)), (4, .p (.int .i64 v_at)), (5, .p (.int .i64 vt)), (6, .ptr 0 0), (7, .ptr 1 0), (8, .ptr 2 0), (12, .p (.bool false)), (16, .ptr 3 0), (17, .p (.int .i64 x1.i)), (18, .p (.int .i64 x2.k))]) (O := fun x2 => [.box [.p (.slice 1 (c.W.map i64P)), .p (.int .u64 c.Seed), .p (.int .i64 c.Epoch), .p (.int .i64 c.Num), .p (.int .i64 c.Den)], .box [.p (.slice 5 (w.B.map blkP)), .p (.slice 4 (w.V.map vtP))], .box [.p (.slice 5 (v_in.B.map blkP)), .p (.slice 4 (v_in.V.map vtP))], .box [.p (.slice 5 (v6.B.map blkP)), .p (.slice 4 (v6.V.map vtP))]]) hb_v8 (Weak.of 4 ⟨rfl, rfl, rfl, rfl, rfl, rfl, rfl, rfl, rfl, rfl, trivial⟩ rfl rfl rfl rfl) (fun x2 z_x2 hr hb_x2 => ?_)
            unfold F32_s2 at hr
            refine LW.seq ?_
            refine LW.seq ?_
            refine LW.region ?_
            refine LOps.st rfl rfl rfl (LOp.move rfl rfl) ?_
            refine LOps.st rfl rfl rfl (LOp.move rfl rfl) ?_
            refine LOps.st rfl rfl rfl (LOp.bin rfl rfl rfl rfl) ?_
            refine LOps.nil ?_
            refine thn_n ?_
            refine LW.cond rfl (fun (g11 : (decide (x2.k < x1.i)) = true) => ?_) (fun (g11 : (decide (x2.k < x1.i)) = false) => ?_)
            · -- g11 is True
              have hr := ite_t g11 hr
              refine LW.skip ?_
              refine thn_n ?_
              refine LW.seq ?_
              refine LW.block ?_
              refine LW.seq ?_
              refine LW.draw (by kernel_rfl) (by kernel_rfl) ?_
              refine LO.st rfl rfl rfl (LOp.fieldAddr rfl rfl ft75_0) ?_
              refine LO.st rfl rfl rfl (LOp.load rfl rfl rfl vt27 rfl rfl) ?_
              refine LO.st rfl rfl rfl (LOp.move rfl rfl) ?_
              obtain ⟨y1, h_y1, hr⟩ := bind_get hr
              refine LO.st rfl rfl rfl (LOp.indexAddrX rfl rfl rfl st27 h_y1 rfl) ?_
              refine LO.st rfl rfl rfl (LOp.loadC rfl rfl rfl vt42 rfl rfl) ?_
              refine LO.st rfl rfl rfl (LOp.call rfl rfl rfl (by kernel_rfl) (LC.pure (c50 (b := y1)) (.cons Conv.p .nil))) ?_
              refine LO.st rfl rfl rfl (LOp.fieldAddr rfl rfl ft75_0) ?_
              refine LO.st rfl rfl rfl (LOp.load rfl rfl rfl vt27 rfl rfl) ?_
              refine LO.st rfl rfl rfl (LOp.move rfl rfl) ?_
              obtain ⟨y2, h_y2, hr⟩ := bind_get hr
              refine LO.st rfl rfl rfl (LOp.indexAddrX rfl rfl rfl st27 h_y2 rfl) ?_
              refine LO.st rfl rfl rfl (LOp.loadC rfl rfl rfl vt42 rfl rfl) ?_
              refine LO.st rfl rfl rfl (LOp.call rfl rfl rfl (by kernel_rfl) (LC.pure (c50 (b := y2)) (.cons Conv.p .nil))) ?_
              refine LO.st rfl rfl rfl (LOp.eqlAgg rfl rfl rfl rfl rfl eqt24) ?_
              refine LO.nil ?_
              refine thn_n ?_
              refine LW.cond rfl (fun (g12 : ((((nm y1).1) == ((nm y2).1)) && ((((nm y1).2) == ((nm y2).2)) && true)) = true) => ?_) (fun (g12 : ((((nm y1).1) == ((nm y2).1)) && ((((nm y1).2) == ((nm y2).2)) && true)) = false) => ?_)
              · -- g12 is True
                have hr := ite_t g12 hr
                refine LW.seq ?_
                refine LW.region ?_
                refine LOps.st rfl rfl rfl (LOp.assign rfl rfl) ?_
                refine LOps.nil ?_
                refine thn_n ?_
                refine LW.ret ?_
                refine inBlk_r ?_
                refine thn_r ?_
                refine thn_r ?_
                refine inBlk_r ?_
                refine thn_r ?_
                refine inBlk_r ?_
                refine thn_r ?_
                refine thn_r ?_
                refine inBlk_r ?_
                refine thn_r ?_
                refine thn_r ?_
                obtain rfl := Option.some.inj hr
                have hr := congrArg some (hb_x2 _ rfl)
                obtain rfl := Option.some.inj hr
                have hr := sum_r ho_v8
                obtain rfl := Option.some.inj hr
                have hr := congrArg some (hb_x1 _ rfl)
                obtain rfl := Option.some.inj hr
                have hr := sum_r ho_v7
                obtain rfl := Option.some.inj hr
                refine finP_ret (.one (.tmp rfl)) ?_
                exact Conv.p
              · -- g12 is False
                have hr := ite_f g12 hr
                refine LW.skip ?_
                refine inBlk_n ?_
                refine thn_n ?_
                refine LW.region ?_
                refine LOps.st rfl rfl rfl (LOp.move rfl rfl) ?_
                refine LOps.st rfl rfl rfl (LOp.bin rfl rfl rfl rfl) ?_
                refine LOps.st rfl rfl rfl (LOp.assign rfl rfl) ?_
                refine LOps.nil ?_
                refine thn_n ?_
                obtain rfl := Option.some.inj hr
                exact ⟨_, rfl, Weak.of 4 ⟨rfl, rfl, rfl, rfl, rfl, rfl, rfl, rfl, rfl, rfl, trivial⟩ rfl rfl rfl rfl⟩
            · -- g11 is False
              have hr := ite_f g11 hr
              refine LW.exit ?_
              refine thn_e ?_
              refine thn_e ?_
              refine inBlk_self ?_
              refine thn_n ?_
              obtain rfl := Option.some.inj hr
              have hr := congrArg some (hb_x2 _ rfl)
              obtain rfl := Option.some.inj hr
              exact ⟨_, rfl, Weak.of 4 ⟨rfl, rfl, rfl, rfl, rfl, rfl, rfl, rfl, rfl, trivial⟩ rfl rfl rfl rfl⟩
          · obtain rfl := e_v8
            have hr := sum_l ho_v8
            clear hb_v8
            refine inBlk_n ?_
            refine thn_n ?_
            refine LW.weak hw_v8 ?_
            refine LW.region ?_
            refine LOps.st rfl rfl rfl (LOp.move rfl rfl) ?_
            refine LOps.st rfl rfl rfl (LOp.bin rfl rfl rfl rfl) ?_
            refine LOps.st rfl rfl rfl (LOp.assign rfl rfl) ?_
            refine LOps.nil ?_
            refine thn_n ?_
            obtain rfl := Option.some.inj hr
            exact ⟨_, rfl, Weak.of 4 ⟨rfl, rfl, rfl, rfl, rfl, rfl, rfl, rfl, rfl, trivial⟩ rfl rfl rfl rfl⟩
        · -- g10 is False
          have hr := ite_f g10 hr
          refine LW.exit ?_
          refine thn_e ?_
          refine thn_e ?_
          refine inBlk_self ?_
          refine thn_n ?_
          obtain rfl := Option.some.inj hr
          have hr := congrArg some (hb_x1 _ rfl)
          obtain rfl := Option.some.inj hr
          exact ⟨_, rfl, Weak.of 4 ⟨rfl, rfl, rfl, rfl, rfl, rfl, rfl, trivial⟩ rfl rfl rfl rfl⟩
      · obtain rfl := e_v7
        have hr := sum_l ho_v7
        clear hb_v7
        refine thn_n ?_
        refine LW.weak hw_v7 ?_
        refine LW.seq ?_
        refine LW.region ?_
        refine LOps.st rfl rfl rfl (LOp.load rfl rfl rfl vt55 rfl rfl) ?_
        refine LOps.st rfl rfl rfl (LOp.load rfl rfl rfl vt75 rfl rfl) ?_
        refine LOps.st rfl rfl rfl (LOp.load rfl rfl rfl vt75 rfl rfl) ?_
        refine LOps.st rfl rfl rfl (LOp.move rfl rfl) ?_
        obtain ⟨v9, h_v9, hr⟩ := bind_get hr
        refine LOps.st rfl rfl rfl (LOp.call rfl rfl rfl (by kernel_rfl) (LC.pure (c90 h_v9) (.cons Conv.p (.cons Conv.p (.cons Conv.p (.cons Conv.p .nil)))))) ?_
        refine LOps.st rfl rfl rfl (LOp.move rfl rfl) ?_
        refine LOps.st rfl rfl rfl (LOp.extract rfl rfl rfl) ?_
        refine LOps.st rfl rfl rfl (LOp.extract rfl rfl rfl) ?_
        refine LOps.st rfl rfl rfl (LOp.extract rfl rfl rfl) ?_
        refine LOps.st rfl rfl rfl (LOp.alloc rfl zt75 rfl rfl) ?_
        refine LOps.st rfl rfl rfl (LOp.alloc rfl zt75 rfl rfl) ?_
        refine LOps.st rfl rfl rfl (LOp.store rfl rfl rfl rfl vt75 rfl rfl rfl rfl) ?_
        refine LOps.st rfl rfl rfl (LOp.store rfl rfl rfl rfl vt75 rfl rfl rfl rfl) ?_
        refine LOps.st rfl rfl rfl (LOp.assign rfl rfl) ?_
        refine LOps.nil ?_
        refine thn_n ?_
        refine LW.seq ?_
        refine LW.ent (Ent.slot rfl) ?_
        refine LW.drawW (by kernel_rfl) (by kernel_rfl) ?_
        refine LF.st (F := []) (s := none) rfl rfl rfl (fun H _ => LOp.fieldAddr rfl rfl ft75_0) rfl ?_
        refine LF.st rfl rfl rfl (LAt.load rfl rfl rfl vt27 rfl rfl) rfl ?_
        refine LF.st (F := []) (s := none) rfl rfl rfl (fun H _ => LOp.move rfl rfl) rfl ?_
        obtain ⟨q1, hr⟩ := grd_get hr
        refine LF.st (F := []) (s := none) rfl rfl rfl (fun H _ => LOp.sliceHi rfl rfl rfl st27 q1) rfl ?_
        refine LF.st (F := []) (s := none) rfl rfl rfl (fun H _ => LOp.fieldAddr rfl rfl ft75_1) rfl ?_
        refine LF.st rfl rfl rfl (LAt.load rfl rfl rfl vt68 rfl rfl) rfl ?_
        refine LF.st (F := []) (s := none) rfl rfl rfl (fun H _ => LOp.move rfl rfl) rfl ?_
        obtain ⟨q2, hr⟩ := grd_get hr
        refine LF.st (F := []) (s := none) rfl rfl rfl (fun H _ => LOp.sliceHi rfl rfl rfl st68 q2) rfl ?_
        refine LF.st (F := []) (s := none) rfl rfl rfl (fun H _ => LOp.build rfl bt75 rfl rfl rfl) rfl ?_
        refine LF.st rfl rfl rfl (LAt.alloc rfl zt75 (id := 6) rfl) rfl ?_
        refine LF.st rfl rfl rfl (LAt.store rfl rfl rfl rfl vt75 rfl rfl rfl) rfl ?_
        refine LF.nil ⟨by kernel_rfl, ?_⟩
        refine thn_n ?_
        refine LW.seq ?_
        refine LW.ent (Ent.slot rfl) ?_
        refine LW.drawW (by kernel_rfl) (by kernel_rfl) ?_
        refine LF.st (F := []) (s := none) rfl rfl rfl (fun H _ => LOp.fieldAddr rfl rfl ft75_0) rfl ?_
        refine LF.st rfl rfl rfl (LAt.load rfl rfl rfl vt27 rfl rfl) rfl ?_
        refine LF.st (F := []) (s := none) rfl rfl rfl (fun H _ => LOp.move rfl rfl) rfl ?_
        obtain ⟨q3, hr⟩ := grd_get hr
        refine LF.st (F := []) (s := none) rfl rfl rfl (fun H _ => LOp.sliceLo rfl rfl rfl st27 q3) rfl ?_
        refine LF.st (F := []) (s := none) rfl rfl rfl (fun H _ => LOp.fieldAddr rfl rfl ft75_1) rfl ?_
        refine LF.st rfl rfl rfl (LAt.load rfl rfl rfl vt68 rfl rfl) rfl ?_
        refine LF.st (F := []) (s := none) rfl rfl rfl (fun H _ => LOp.move rfl rfl) rfl ?_
        obtain ⟨q4, hr⟩ := grd_get hr
        refine LF.st (F := []) (s := none) rfl rfl rfl (fun H _ => LOp.sliceLo rfl rfl rfl st68 q4) rfl ?_
        refine LF.st (F := []) (s := none) rfl rfl rfl (fun H _ => LOp.build rfl bt75 rfl rfl rfl) rfl ?_
        refine LF.st rfl rfl rfl (LAt.alloc rfl zt75 (id := 7) rfl) rfl ?_
        refine LF.st rfl rfl rfl (LAt.store rfl rfl rfl rfl vt75 rfl rfl rfl) rfl ?_
        refine LF.nil ⟨by kernel_rfl, ?_⟩
        refine thn_n ?_
        refine LW.seq ?_
        refine LW.region ?_
        refine LOps.st rfl rfl rfl (LOp.load rfl rfl rfl vt55 rfl rfl) ?_
        refine LOps.st rfl rfl rfl (LOp.load rfl rfl rfl vt75 rfl rfl) ?_
        refine LOps.st rfl rfl rfl (LOp.load rfl rfl rfl vt75 rfl rfl) ?_
        refine LOps.st rfl rfl rfl (LOp.move rfl rfl) ?_
        obtain ⟨v10, h_v10, hr⟩ := bind_get hr
        refine LOps.st rfl rfl rfl (LOp.call rfl rfl rfl (by kernel_rfl) (LC.pure (c90 h_v10) (.cons Conv.p (.cons Conv.p (.cons Conv.p (.cons Conv.p .nil)))))) ?_
        refine LOps.st rfl rfl rfl (LOp.move rfl rfl) ?_
        refine LOps.st rfl rfl rfl (LOp.extract rfl rfl rfl) ?_
        refine LOps.st rfl rfl rfl (LOp.extract rfl rfl rfl) ?_
        refine LOps.st rfl rfl rfl (LOp.extract rfl rfl rfl) ?_
        refine LOps.st rfl rfl rfl (LOp.alloc rfl zt75 rfl rfl) ?_
        refine LOps.st rfl rfl rfl (LOp.alloc rfl zt75 rfl rfl) ?_
        refine LOps.st rfl rfl rfl (LOp.store rfl rfl rfl rfl vt75 rfl rfl rfl rfl) ?_
        refine LOps.st rfl rfl rfl (LOp.store rfl rfl rfl rfl vt75 rfl rfl rfl rfl) ?_
        refine LOps.st rfl rfl rfl (LOp.assign rfl rfl) ?_
        refine LOps.nil ?_
        refine thn_n ?_
        refine LW.seq ?_
        refine LW.ent (Ent.slot rfl) ?_
        refine LW.ent (Ent.slot rfl) ?_
        refine LW.drawW (by kernel_rfl) (by kernel_rfl) ?_
        refine LF.st rfl rfl rfl (LAt.load rfl rfl rfl vt55 rfl rfl) rfl ?_
        refine LF.st rfl rfl rfl (LAt.load rfl rfl rfl vt75 rfl rfl) rfl ?_
        refine LF.st rfl rfl rfl (LAt.load rfl rfl rfl vt75 rfl rfl) rfl ?_
        refine LF.st rfl rfl rfl (LAt.load rfl rfl rfl vt75 rfl rfl) rfl ?_
        obtain ⟨v11, h_v11, hr⟩ := bind_get hr
        refine LF.st (F := []) (s := none) rfl rfl rfl (fun H _ => LOp.call rfl rfl rfl (by kernel_rfl) (LC.pure (c91 h_v11) (.cons Conv.p (.cons Conv.p .nil)))) rfl ?_
        refine LF.st (F := []) (s := none) rfl rfl rfl (fun H _ => LOp.move rfl rfl) rfl ?_
        obtain ⟨v12, h_v12, hr⟩ := bind_get hr
        refine LF.st (F := []) (s := none) rfl rfl rfl (fun H _ => LOp.call rfl rfl rfl (by kernel_rfl) (LC.pure (c90 h_v12) (.cons Conv.p (.cons Conv.p (.cons Conv.p (.cons Conv.p .nil)))))) rfl ?_
        refine LF.st (F := []) (s := none) rfl rfl rfl (fun H _ => LOp.move rfl rfl) rfl ?_
        refine LF.st (F := []) (s := none) rfl rfl rfl (fun H _ => LOp.extract rfl rfl rfl) rfl ?_
        refine LF.st (F := []) (s := none) rfl rfl rfl (fun H _ => LOp.extract rfl rfl rfl) rfl ?_
        refine LF.st (F := []) (s := none) rfl rfl rfl (fun H _ => LOp.extract rfl rfl rfl) rfl ?_
        refine LF.st rfl rfl rfl (LAt.alloc rfl zt75 (id := 10) rfl) rfl ?_
        refine LF.st rfl rfl rfl (LAt.alloc rfl zt75 (id := 11) rfl) rfl ?_
        refine LF.st rfl rfl rfl (LAt.store rfl rfl rfl rfl vt75 rfl rfl rfl) rfl ?_
        refine LF.st rfl rfl rfl (LAt.store rfl rfl rfl rfl vt75 rfl rfl rfl) rfl ?_
        refine LF.st (F := []) (s := none) rfl rfl rfl (fun H _ => LOp.assign rfl rfl) rfl ?_
        refine LF.nil ⟨by kernel_rfl, ?_⟩
        refine thn_n ?_
        refine LW.seq ?_
        refine LW.ent (Ent.slot rfl) ?_
        refine LW.ent (Ent.slot rfl) ?_
        refine LW.drawW (by kernel_rfl) (by kernel_rfl) ?_
        refine LF.st rfl rfl rfl (LAt.load rfl rfl rfl vt55 rfl rfl) rfl ?_
        refine LF.st rfl rfl rfl (LAt.load rfl rfl rfl vt75 rfl rfl) rfl ?_
        refine LF.st rfl rfl rfl (LAt.load rfl rfl rfl vt75 rfl rfl) rfl ?_
        refine LF.st rfl rfl rfl (LAt.load rfl rfl rfl vt75 rfl rfl) rfl ?_
        obtain ⟨v13, h_v13, hr⟩ := bind_get hr
        refine LF.st (F := []) (s := none) rfl rfl rfl (fun H _ => LOp.call rfl rfl rfl (by kernel_rfl) (LC.pure (c91 h_v13) (.cons Conv.p (.cons Conv.p .nil)))) rfl ?_
        refine LF.st (F := []) (s := none) rfl rfl rfl (fun H _ => LOp.move rfl rfl) rfl ?_
        obtain ⟨v14, h_v14, hr⟩ := bind_get hr
        refine LF.st (F := []) (s := none) rfl rfl rfl (fun H _ => LOp.call rfl rfl rfl (by kernel_rfl) (LC.pure (c90 h_v14) (.cons Conv.p (.cons Conv.p (.cons Conv.p (.cons Conv.p .nil)))))) rfl ?_
        refine LF.st (F := []) (s := none) rfl rfl rfl (fun H _ => LOp.move rfl rfl) rfl ?_
        refine LF.st (F := []) (s := none) rfl rfl rfl (fun H _ => LOp.extract rfl rfl rfl) rfl ?_
        refine LF.st (F := []) (s := none) rfl rfl rfl (fun H _ => LOp.extract rfl rfl rfl) rfl ?_
        refine LF.st (F := []) (s := none) rfl rfl rfl (fun H _ => LOp.extract rfl rfl rfl) rfl ?_
        refine LF.st rfl rfl rfl (LAt.alloc rfl zt75 (id := 12) rfl) rfl ?_
        refine LF.st rfl rfl rfl (LAt.alloc rfl zt75 (id := 13) rfl) rfl ?_
        refine LF.st rfl rfl rfl (LAt.store rfl rfl rfl rfl vt75 rfl rfl rfl) rfl ?_
        refine LF.st rfl rfl rfl (LAt.store rfl rfl rfl rfl vt75 rfl rfl rfl) rfl ?_
        refine LF.st (F := []) (s := none) rfl rfl rfl (fun H _ => LOp.assign rfl rfl) rfl ?_
        refine LF.nil ⟨by kernel_rfl, ?_⟩
        refine thn_n ?_
        refine LW.seq ?_
        refine LW.region ?_
        refine LOps.st rfl rfl rfl (LOp.load rfl rfl rfl vt75 rfl rfl) ?_
        refine LOps.st rfl rfl rfl (LOp.load rfl rfl rfl vt75 rfl rfl) ?_
        obtain ⟨v15, h_v15, hr⟩ := bind_get hr
        refine LOps.st rfl rfl rfl (LOp.call rfl rfl rfl (by kernel_rfl) (LC.pure (c92 h_v15) (.cons Conv.p (.cons Conv.p .nil)))) ?_
        refine LOps.st rfl rfl rfl (LOp.assign rfl rfl) ?_
        refine LOps.nil ?_
        refine thn_n ?_
        refine LW.seq ?_
        refine LW.region ?_
        refine LOps.st rfl rfl rfl (LOp.load rfl rfl rfl vt75 rfl rfl) ?_
        refine LOps.st rfl rfl rfl (LOp.load rfl rfl rfl vt75 rfl rfl) ?_
        obtain ⟨v16, h_v16, hr⟩ := bind_get hr
        refine LOps.st rfl rfl rfl (LOp.call rfl rfl rfl (by kernel_rfl) (LC.pure (c92 h_v16) (.cons Conv.p (.cons Conv.p .nil)))) ?_
        refine LOps.st rfl rfl rfl (LOp.assign rfl rfl) ?_
        refine LOps.nil ?_
        refine thn_n ?_
        refine LW.seq ?_
        refine LW.region ?_
        refine LOps.st rfl rfl rfl (LOp.move rfl rfl) ?_
        refine LOps.st rfl rfl rfl (LOp.move rfl rfl) ?_
        refine LOps.cases 178 rfl (fun (g13 : v15 = true) => ?_) (fun (g13 : v15 = false) => ?_)
        · -- g13 is True
          have hr := ite_t g13 hr
          refine LOps.gd rfl rfl rfl (gd g13 rfl) rfl (LOp.move rfl rfl) ?_
          refine LOps.st rfl rfl rfl (LOp.pickT rfl (gdl g13 rfl) rfl) ?_
          refine LOps.st rfl rfl rfl (LOp.assign rfl rfl) ?_
          refine LOps.nil ?_
          refine thn_n ?_
          refine LW.ret ?_
          obtain rfl := Option.some.inj hr
          refine finP_ret (.one (.tmp rfl)) ?_
          exact Conv.p
        · -- g13 is False
          have hr := ite_f g13 hr
          refine LOps.sk rfl rfl rfl (gd g13 rfl) rfl rfl ?_
          refine LOps.st rfl rfl rfl (LOp.pickF rfl (gdl g13 rfl) rfl) ?_
          refine LOps.st rfl rfl rfl (LOp.assign rfl rfl) ?_
          refine LOps.nil ?_
          refine thn_n ?_
          refine LW.ret ?_
          obtain rfl := Option.some.inj hr
          refine finP_ret (.one (.tmp rfl)) ?_
          exact Conv.p
open Go.Proofs
structure F33_L1 where
  i : Int
structure F33_L2 where
  k : Int
structure F33_L3 where
  i : Int
open Go.Proofs
structure F35_L1 where
  i : Int
structure F35_L2 where
  i : Int
structure F35_L3 where
  i : Int
structure F35_L4 where
  k : Int
theorem nodup_len {α : Type} [DecidableEq α] : ∀ {l L : List α}, l.Nodup → (∀ x ∈ l, x ∈ L) → l.length ≤ L.length
  | [], _, _, _ => Nat.zero_le _
  | x :: r, L, h, hs => by
    rw [List.nodup_cons] at h
    have hx := hs x (.head _)
    have h1 := nodup_len (L := L.erase x) h.2 fun y hy => (List.mem_erase_of_ne (show y ≠ x from fun e => h.1 (by rw [← e]; exact hy))).2 (hs y (.tail _ hy))
    have h2 := List.length_erase_of_mem hx
    have h3 := List.length_pos_of_mem hx
    simp only [List.length_cons]; omega
theorem nodup_of_names {B : List Bk} (h : ValidB B) : B.Nodup := by
  have h1 := valid_names h
  rw [List.nodup_cons] at h1
  exact List.Pairwise.imp (fun hne e => hne (by rw [e])) (List.pairwise_map.1 h1.2)
theorem slotQ_iff {B : List Bk} (h : ValidB B) {id : ID} {s : Int} : slotQ B id = some s ↔ (id = (0, 0) ∧ s = 0) ∨ ∃ b ∈ B, nm b = id ∧ b.Slot = s := by
  constructor
  · intro h1
    rcases slotQ_mem h1 with h2 | ⟨-, h2⟩
    · exact .inl h2
    · exact .inr h2
  · rintro (⟨h1, h2⟩ | ⟨b, h1, h2, h3⟩)
    · subst h1 h2; unfold slotQ; rw [if_pos rfl]
    · rw [← h2, ← h3]; exact valid_slot h h1
theorem slotQ_sub {B C : List Bk} (h : ValidB B) (h2 : ValidB C) (hs : ∀ b ∈ B, b ∈ C) {id : ID} {s : Int} (hq : slotQ B id = some s) : slotQ C id = some s := by
  rw [slotQ_iff h] at hq
  rw [slotQ_iff h2]
  rcases hq with hq | ⟨b, h1, h3⟩
  · exact .inl hq
  · exact .inr ⟨b, hs b h1, h3⟩
/-- What is counted at last: what was, and what comes, of a slot not too late, with a parent counted, of a lesser slot. -/
inductive CB (base o : List Bk) (upto : Int) : Bk → Prop
  | base {b : Bk} : b ∈ base → CB base o upto b
  | root {b : Bk} : b ∈ o → b.Slot ≤ upto → b.Parent = (0, 0) → 0 < b.Slot → CB base o upto b
  | step {b p : Bk} : b ∈ o → b.Slot ≤ upto → CB base o upto p → nm p = b.Parent → p.Slot < b.Slot → CB base o upto b
theorem CB.mono {base base' o o' : List Bk} {upto upto' : Int} (h1 : ∀ b ∈ base, CB base' o' upto' b) (h2 : ∀ b ∈ o, b ∈ o') (h3 : upto ≤ upto') {b : Bk} (h : CB base o upto b) : CB base' o' upto' b := by
  induction h with
  | base h => exact h1 _ h
  | root a1 a2 a3 a4 => exact .root (h2 _ a1) (Int.le_trans a2 h3) a3 a4
  | step a1 a2 _ a4 a5 ih => exact .step (h2 _ a1) (Int.le_trans a2 h3) ih a4 a5
structure Rm (U : Vw) : Prop where
  inj : ∀ a ∈ U.B, ∀ b ∈ U.B, nm a = nm b → a = b
  B : U.B.length < 60
  V : U.V.length < 240
def Sb (w U : Vw) : Prop := (∀ b ∈ w.B, b ∈ U.B) ∧ ∀ v ∈ w.V, v ∈ U.V
theorem took_sb {c : Cf} {w i U : Vw} {upto : Int} {r : Vw × Vw × Bool} (h : Took c w i upto r) (h1 : Sb w U) (h2 : Sb i U) : Sb r.1 U ∧ Sb r.2.1 U := by
  obtain ⟨t, ht, ht2⟩ := h.preB
  obtain ⟨u, hu, hu2⟩ := h.preV
  refine ⟨⟨fun b hb => ?_, fun v hv => ?_⟩, fun b hb => h2.1 b (List.mem_filter.1 (h.subB.subset hb)).1, fun b hb => h2.2 b (List.mem_filter.1 (h.subV.subset hb)).1⟩
  · rw [ht] at hb
    exact (List.mem_append.1 hb).elim (h1.1 b) fun hb => h2.1 b (List.mem_filter.1 (ht2 b hb).1).1
  · rw [hu] at hv
    exact (List.mem_append.1 hv).elim (h1.2 v) fun hb => h2.2 v (List.mem_filter.1 (hu2 v hb).1).1
theorem may_room {c : Cf} {w U : Vw} (h : MayW c w) (hr : Rm U) (hs : Sb w U) : w.B.length < 60 ∧ w.V.length < 240 :=
  ⟨Nat.lt_of_le_of_lt (nodup_len (nodup_of_names h.valid) hs.1) hr.B, Nat.lt_of_le_of_lt (nodup_len h.nodup hs.2) hr.V⟩
/-- A block that the view that is counted knows the name of is in it. -/
theorem known_in {c : Cf} {x U : Vw} (_hx : MayW c x) (hr : Rm U) (hs : Sb x U) {b : Bk} (hb : b ∈ U.B) (h0 : nm b ≠ (0, 0)) {s : Int} (hq : slotQ x.B (nm b) = some s) : b ∈ x.B := by
  rcases slotQ_mem hq with ⟨e, -⟩ | ⟨-, b', h1, h2, -⟩
  · exact absurd e h0
  · rw [← hr.inj b' (hs.1 _ h1) b hb h2]; exact h1
/-- What comes, of a slot not too late, with a parent there of a lesser slot, is counted. -/
theorem took_in {c : Cf} {w i U : Vw} {upto : Int} {r : Vw × Vw × Bool} (h : Took c w i upto r) (hr : Rm U) (h1 : Sb w U) (h2 : Sb i U) {b : Bk} {s : Int} (hb : b ∈ (onlyP c i).B) (hu : b.Slot ≤ upto) (hq : slotQ r.1.B b.Parent = some s) (hs : s < b.Slot) : b ∈ r.1.B := by
  have hsb := (took_sb h h1 h2).1
  have hroom := may_room h.may hr hsb
  have hb2 := List.mem_filter.1 hb
  have hm := of_decide_eq_true hb2.2
  rcases h.allB b hb with hl | hg
  · obtain ⟨-, hw | hw⟩ := h.endB b hl
    · unfold waitB at hw
      rw [hq] at hw
      have := of_decide_eq_true hw
      omega
    · omega
  · unfold goneB at hg
    rw [Bool.or_eq_true, hq] at hg
    rcases hg with hg | hg
    · obtain ⟨q, hq2⟩ := Option.isSome_iff_exists.1 hg
      exact known_in h.may hr hsb (h2.1 b hb2.1) hm.2.2 hq2
    · have := of_decide_eq_true hg
      omega
theorem took_B {c : Cf} {w i U : Vw} {upto : Int} {r : Vw × Vw × Bool} (h : Took c w i upto r) (hr : Rm U) (h1 : Sb w U) (h2 : Sb i U) (b : Bk) : b ∈ r.1.B ↔ CB w.B (onlyP c i).B upto b := by
  constructor
  · obtain ⟨t, ht, ht2⟩ := h.preB
    have key : ∀ k, k ≤ r.1.B.length → ∀ b ∈ r.1.B.take k, CB w.B (onlyP c i).B upto b := by
      intro k
      induction k with
      | zero => intro _ b hb; simp at hb
      | succ k ih =>
        intro hk b hb
        obtain ⟨y, hy, -⟩ := get_of (l := r.1.B) (n := k) (by omega)
        have hv := valid_take h.may.valid (k + 1)
        rw [take_succ_getG hy] at hb hv
        rcases List.mem_append.1 hb with hb | hb
        · exact ih (by omega) b hb
        · rw [List.mem_singleton] at hb
          subst hb
          obtain ⟨-, ⟨s, hs1, hs2⟩, -⟩ := valid_snoc.1 hv
          have hmem := List.mem_of_getElem? hy
          rw [ht] at hmem
          rcases List.mem_append.1 hmem with hw | hw
          · exact .base hw
          · rcases slotQ_mem hs1 with ⟨e1, e2⟩ | ⟨-, p, hp1, hp2, hp3⟩
            · exact .root (ht2 b hw).1 (ht2 b hw).2 e1 (by omega)
            · exact .step (ht2 b hw).1 (ht2 b hw).2 (ih (by omega) p hp1) hp2 (by omega)
    intro hb
    exact key r.1.B.length (Nat.le_refl _) b (by rw [List.take_length]; exact hb)
  · intro hc
    induction hc with
    | base hb =>
      obtain ⟨t, ht, -⟩ := h.preB
      rw [ht]; exact List.mem_append_left _ hb
    | root a1 a2 a3 a4 => exact took_in h hr h1 h2 a1 a2 ((slotQ_iff h.may.valid).2 (.inl ⟨a3, rfl⟩)) a4
    | step a1 a2 _ a4 a5 ih => exact took_in h hr h1 h2 a1 a2 ((slotQ_iff h.may.valid).2 (.inr ⟨_, ih, a4, rfl⟩)) a5
theorem took_V {c : Cf} {w i U : Vw} {upto : Int} {r : Vw × Vw × Bool} (h : Took c w i upto r) (hr : Rm U) (h1 : Sb w U) (h2 : Sb i U) (v : Vt) : v ∈ r.1.V ↔ v ∈ w.V ∨ (v ∈ (onlyP c i).V ∧ v.Slot ≤ upto ∧ forB r.1.B v) := by
  obtain ⟨u, hu, hu2⟩ := h.preV
  constructor
  · intro hv
    have hf := h.may.forB v hv
    rw [hu] at hv
    rcases List.mem_append.1 hv with hv | hv
    · exact .inl hv
    · exact .inr ⟨(hu2 v hv).1, (hu2 v hv).2, hf⟩
  · rintro (hv | ⟨hv, hs, s, hq, hle⟩)
    · rw [hu]; exact List.mem_append_left _ hv
    · have hroom := may_room h.may hr (took_sb h h1 h2).1
      rcases h.allV v hv with hl | hg
      · obtain ⟨-, hw | hw⟩ := h.endV v hl
        · unfold waitV at hw
          rw [hq] at hw
          have := of_decide_eq_true hw
          omega
        · omega
      · unfold goneV at hg
        rw [Bool.or_eq_true, hq] at hg
        rcases hg with hg | hg
        · exact of_decide_eq_true hg
        · have := of_decide_eq_true hg
          omega
open Classical in
theorem scan_loop {S R : Type} {step : S → Option (S ⊕ (S ⊕ R))} {n : Nat} (mk : Nat → S) (r0 : R) (P : Nat → Prop) (hs : ∀ j, j < n → step (mk j) = some (.inr (.inr r0)) ∨ (step (mk j) = some (.inl (mk (j + 1))) ∧ P j))
    (he : step (mk n) = some (.inr (.inl (mk n)))) (hn : n < 4000000000000000000) : iter step big (mk 0) = some (.inr r0) ∨ (iter step big (mk 0) = some (.inl (mk n)) ∧ ∀ j, j < n → P j) := by
  have e := search_loop mk (fun j => if step (mk j) = some (.inl (mk (j + 1))) ∧ P j then none else some r0) (fun j hj => by
    by_cases h : step (mk j) = some (.inl (mk (j + 1))) ∧ P j
    · simp only [if_pos h]; exact h.1
    · simp only [if_neg h]; exact (hs j hj).resolve_right h) he hn
  rw [e]
  cases h : firstF (fun j => if step (mk j) = some (.inl (mk (j + 1))) ∧ P j then none else some r0) 0 n with
  | none =>
    right
    refine ⟨rfl, fun j hj => ?_⟩
    have := firstF_none.1 h j (Nat.zero_le _) (by omega)
    split at this
    · rename_i h2; exact h2.2
    · cases this
  | some r =>
    left
    obtain ⟨j, -, -, h2, -⟩ := firstF_some h
    split at h2
    · cases h2
    · cases h2; rfl
theorem inj_of {l : List Bk} (h : ∀ i, i < l.length → ∀ j, j < i → ∀ y z, l[i]? = some y → l[j]? = some z → nm y ≠ nm z) : ∀ a ∈ l, ∀ b ∈ l, nm a = nm b → a = b := by
  intro a ha b hb e
  obtain ⟨i, hi⟩ := List.getElem?_of_mem ha
  obtain ⟨j, hj⟩ := List.getElem?_of_mem hb
  rcases Nat.lt_trichotomy i j with h1 | h1 | h1
  · exact absurd e.symm (h j (List.getElem?_eq_some_iff.1 hj).1 i h1 b a hj hi)
  · subst h1; rw [hi] at hj; exact Option.some.inj hj
  · exact absurd e (h i (List.getElem?_eq_some_iff.1 hi).1 j h1 a b hi hj)
def sep (l : List Bk) (i : Nat) : Prop := ∀ j, j < i → ∀ y z, l[i]? = some y → l[j]? = some z → nm y ≠ nm z
theorem F32_clash {u : Vw} (hl : u.B.length ≤ 1000) : iter (F32_s1 u) big (F32_L1.mk 0) = some (.inr true) ∨ (iter (F32_s1 u) big (F32_L1.mk 0) = some (.inl (F32_L1.mk (u.B.length : Int))) ∧ ∀ i, i < u.B.length → sep u.B i) := by
  refine scan_loop (n := u.B.length) (fun k => F32_L1.mk (k : Int)) true (sep u.B) (fun i hi => ?_) ?_ (by omega)
  · have h2 := scan_loop (step := F32_s2 u (F32_L1.mk (i : Int))) (n := i) (fun k => F32_L2.mk (k : Int)) (.inr (.inr true)) (fun j => ∀ y z, u.B[i]? = some y → u.B[j]? = some z → nm y ≠ nm z) (fun j hj => by
      obtain ⟨y, hy, -⟩ := get_of hi
      obtain ⟨z, hz, -⟩ := get_of (l := u.B) (n := j) (by omega)
      unfold F32_s2
      simp only
      rw [decide_eq_true (show (j : Int) < (i : Int) by omega), ct, ix_nat hy, ob, ix_nat hz, ob, eqID, wrap_succ (n := j) (by omega)]
      by_cases h : nm y = nm z
      · rw [decide_eq_true h, ct]; exact .inl rfl
      · rw [decide_eq_false h, cf]
        refine .inr ⟨rfl, fun y' z' h1 h2 => ?_⟩
        rw [hy] at h1; rw [hz] at h2; cases h1; cases h2; exact h) (by
      unfold F32_s2
      simp only
      rw [decide_eq_false (show ¬ (i : Int) < (i : Int) by omega), cf]) (by omega)
    unfold F32_s1
    simp only
    rw [decide_eq_true (show (i : Int) < (u.B.length : Int) by omega), ct, wrap_succ (n := i) (by omega)]
    rcases h2 with e | ⟨e, h2⟩
    · have e' : iter (F32_s2 u (F32_L1.mk (i : Int))) big (F32_L2.mk 0) = _ := e
      rw [e', ob, sr]; exact .inl rfl
    · have e' : iter (F32_s2 u (F32_L1.mk (i : Int))) big (F32_L2.mk 0) = _ := e
      rw [e', ob, sl]; exact .inr ⟨rfl, h2⟩
  · unfold F32_s1
    simp only
    rw [decide_eq_false (show ¬ (u.B.length : Int) < (u.B.length : Int) by omega), cf]
theorem F163_eq {l : List Vt} (hl : l.length ≤ 100000) (v : Vt) : F163 l v = some ((l.filter fun y => decide (y = v)).length : Int) := by
  have e := count_loop (step := F163_s1 l v) (n := l.length) (fun k => F163_L1.mk (((l.take k).filter fun y => decide (y = v)).length : Int) (k : Int)) (F163_L1.mk ((l.filter fun y => decide (y = v)).length : Int) (l.length : Int)) (fun k hk => by
    obtain ⟨y, hy, -⟩ := get_of hk
    have hf := filter_take_len (p := fun y => decide (y = v)) (l := l) k
    unfold F163_s1
    simp only
    rw [decide_eq_true (show (k : Int) < (l.length : Int) by omega), ct, ix_nat hy, ob, eqVt, filter_len_snoc hy, wrap_succ (n := k) (by omega), wrap_succ (n := _) (by omega)]
    cases decide (y = v) with
    | true => rw [ct, ct]
    | false => rw [cf, cf]; rfl) (by
    unfold F163_s1
    simp only
    rw [decide_eq_false (show ¬ (l.length : Int) < (l.length : Int) by omega), cf, List.take_length]) (by omega)
  have e' : iter (F163_s1 l v) big (F163_L1.mk 0 0) = some (F163_L1.mk ((l.filter fun y => decide (y = v)).length : Int) (l.length : Int)) := e
  unfold F163
  rw [e', ob]
theorem count_zero {l : List Vt} {v : Vt} : (((l.filter fun y => decide (y = v)).length : Int) == 0) = !decide (v ∈ l) := by
  by_cases h : v ∈ l
  · rw [decide_eq_true h]
    have : 0 < (l.filter fun y => decide (y = v)).length := List.length_pos_of_mem (List.mem_filter.2 ⟨h, decide_eq_true rfl⟩)
    rw [beq_eq_false_iff_ne.2 (by omega)]; rfl
  · rw [decide_eq_false h, List.filter_eq_nil_iff.2 fun y hy he => h (by rw [← of_decide_eq_true he]; exact hy)]; rfl
theorem F141_eq {a b : Vw} (h1 : a.B.length + b.B.length ≤ 90000) (h2 : a.V.length + b.V.length ≤ 90000) : F141 a b = some (joinP a b) := by
  have e1 := count_loop (step := F141_s1 b) (n := b.B.length) (fun k => F141_L1.mk (k : Int) (withP a.B (b.B.take k))) (F141_L1.mk (b.B.length : Int) (withP a.B b.B)) (fun k hk => by
    obtain ⟨y, hy, -⟩ := get_of hk
    have hlen := withP_len (b.B.take k) a.B
    have htl : (b.B.take k).length ≤ k := by rw [List.length_take]; omega
    rw [take_succ_getG hy, withP_snoc]
    generalize withP a.B (b.B.take k) = o at hlen ⊢
    have e := count_loop (step := F141_s2 b (F141_L1.mk (k : Int) o)) (n := o.length) (fun j => F141_L2.mk (decide (y ∈ o.take j)) (j : Int)) (F141_L2.mk (decide (y ∈ o)) (o.length : Int)) (fun j hj => by
      obtain ⟨z, hz, -⟩ := get_of hj
      unfold F141_s2
      simp only
      rw [decide_eq_true (show (j : Int) < (o.length : Int) by omega), ct, wrap_succ (n := j) (by omega), take_succ_getG hz]
      by_cases hm : y ∈ o.take j
      · rw [decide_eq_true hm, ct, decide_eq_true (List.mem_append_left _ hm)]
      · rw [decide_eq_false hm, cf, ix_nat hz, ob, ix_nat hy, ob, eqBk]
        rw [show decide (y ∈ o.take j ++ [z]) = decide (z = y) from decide_eq_decide.2 ⟨fun h => by
          rcases List.mem_append.1 h with h | h
          · exact absurd h hm
          · exact (List.mem_singleton.1 h).symm, fun h => List.mem_append_right _ (List.mem_singleton.2 h.symm)⟩]) (by
      unfold F141_s2
      simp only
      rw [decide_eq_false (show ¬ (o.length : Int) < (o.length : Int) by omega), cf, List.take_length]) (by omega)
    have e' : iter (F141_s2 b (F141_L1.mk (k : Int) o)) big (F141_L2.mk false 0) = some (F141_L2.mk (decide (y ∈ o)) (o.length : Int)) := e
    unfold F141_s1
    simp only
    rw [decide_eq_true (show (k : Int) < (b.B.length : Int) by omega), ct, e', ob, wrap_succ (n := k) (by omega)]
    by_cases hm : y ∈ o
    · simp only [decide_eq_true hm, Bool.not_true, cf, if_pos hm]
    · simp only [decide_eq_false hm, Bool.not_false, ct, if_neg hm]
      rw [ix_nat hy, ob, room_ok (by simp only [List.length_singleton]; omega) (by omega), ct]) (by
    unfold F141_s1
    simp only
    rw [decide_eq_false (show ¬ (b.B.length : Int) < (b.B.length : Int) by omega), cf, List.take_length]) (by omega)
  have e1' : iter (F141_s1 b) big (F141_L1.mk 0 a.B) = some (F141_L1.mk (b.B.length : Int) (withP a.B b.B)) := e1
  have e2 := count_loop (step := F141_s3 b) (n := b.V.length) (fun k => F141_L3.mk (k : Int) (withP a.V (b.V.take k))) (F141_L3.mk (b.V.length : Int) (withP a.V b.V)) (fun k hk => by
    obtain ⟨y, hy, -⟩ := get_of hk
    have hlen := withP_len (b.V.take k) a.V
    have htl : (b.V.take k).length ≤ k := by rw [List.length_take]; omega
    rw [take_succ_getG hy, withP_snoc]
    generalize withP a.V (b.V.take k) = o at hlen ⊢
    unfold F141_s3
    simp only
    rw [decide_eq_true (show (k : Int) < (b.V.length : Int) by omega), ct, ix_nat hy, ob, F163_eq (by omega), ob, count_zero, wrap_succ (n := k) (by omega)]
    by_cases hm : y ∈ o
    · simp only [decide_eq_true hm, Bool.not_true, cf, if_pos hm]
    · simp only [decide_eq_false hm, Bool.not_false, ct, if_neg hm]
      rw [ob, room_ok (by simp only [List.length_singleton]; omega) (by omega), ct]) (by
    unfold F141_s3
    simp only
    rw [decide_eq_false (show ¬ (b.V.length : Int) < (b.V.length : Int) by omega), cf, List.take_length]) (by omega)
  have e2' : iter (F141_s3 b) big (F141_L3.mk 0 a.V) = some (F141_L3.mk (b.V.length : Int) (withP a.V b.V)) := e2
  unfold F141
  rw [room_ok (by omega) (by omega), ct, room_ok (by omega) (by omega), ct, e1', ob, e2', ob]
  rfl
theorem nodup_same {α : Type} [DecidableEq α] {a b : List α} (ha : a.Nodup) (hb : b.Nodup) (h : ∀ x, x ∈ a ↔ x ∈ b) : a.length = b.length :=
  Nat.le_antisymm (nodup_len ha fun x hx => (h x).1 hx) (nodup_len hb fun x hx => (h x).2 hx)
theorem F92_same {a b : Vw} (h1 : a.B.length ≤ 1000) (h2 : a.V.length ≤ 1000) (n1 : a.B.Nodup) (n2 : b.B.Nodup) (n3 : a.V.Nodup) (n4 : b.V.Nodup) (hB : ∀ x, x ∈ a.B ↔ x ∈ b.B) (hV : ∀ x, x ∈ a.V ↔ x ∈ b.V) : F92 a b = some true := by
  have lB := nodup_same n1 n2 hB
  have lV := nodup_same n3 n4 hV
  have hj : joinP a b = a := by
    unfold joinP
    rw [withP_sub fun x hx => (hB x).2 hx, withP_sub fun x hx => (hV x).2 hx]
  unfold F92
  rw [F141_eq (by omega) (by omega), hj]
  simp [lB, lV]
theorem cut_mem {α : Type} (l : List α) (n : Nat) (b : α) : b ∈ l ↔ b ∈ l.drop n ∨ b ∈ l.take n := by
  rw [or_comm, ← List.mem_append, List.take_append_drop]
theorem took_pre {c : Cf} {w i : Vw} {upto : Int} {r : Vw × Vw × Bool} (h : Took c w i upto r) : Sb w r.1 := by
  obtain ⟨t, ht, -⟩ := h.preB
  obtain ⟨u, hu, -⟩ := h.preV
  exact ⟨fun b hb => by rw [ht]; exact List.mem_append_left _ hb, fun v hv => by rw [hu]; exact List.mem_append_left _ hv⟩
theorem only_mem {c : Cf} {w : Vw} : (∀ b, b ∈ (onlyP c w).B ↔ b ∈ w.B ∧ mayB c b = true) ∧ ∀ v, v ∈ (onlyP c w).V ↔ v ∈ w.V ∧ mayV c v = true := ⟨fun _ => List.mem_filter, fun _ => List.mem_filter⟩
theorem forB_sub {B C : List Bk} (h : ValidB B) (h2 : ValidB C) (hs : ∀ b ∈ B, b ∈ C) {v : Vt} (hf : forB B v) : forB C v := by
  obtain ⟨s, h3, h4⟩ := hf
  exact ⟨s, slotQ_sub h h2 hs h3, h4⟩
theorem join_mem {a b : Vw} : (∀ x, x ∈ (joinP a b).B ↔ x ∈ a.B ∨ x ∈ b.B) ∧ ∀ x, x ∈ (joinP a b).V ↔ x ∈ a.V ∨ x ∈ b.V := ⟨fun x => withP_mem x b.B a.B, fun x => withP_mem x b.V a.V⟩
theorem join_sb (a b : Vw) : Sb a (joinP a b) ∧ Sb b (joinP a b) :=
  ⟨⟨fun x h => (join_mem.1 x).2 (.inl h), fun x h => (join_mem.2 x).2 (.inl h)⟩, fun x h => (join_mem.1 x).2 (.inr h), fun x h => (join_mem.2 x).2 (.inr h)⟩
/-- In the same slot, or later, no less is counted. -/
theorem take_more {c : Cf} {w i i' U : Vw} {upto upto' : Int} {r r' : Vw × Vw × Bool} (h : Took c w i upto r) (h' : Took c w i' upto' r') (hr : Rm U) (h1 : Sb w U) (h2 : Sb i U) (h3 : Sb i' U) (hi : Sb i i') (hu : upto ≤ upto') : Sb r.1 r'.1 := by
  have hB : ∀ b ∈ r.1.B, b ∈ r'.1.B := fun b hb => (took_B h' hr h1 h3 b).2 (((took_B h hr h1 h2 b).1 hb).mono (fun _ hb => .base hb) (fun b hb => (only_mem.1 b).2 ⟨hi.1 b ((only_mem.1 b).1 hb).1, ((only_mem.1 b).1 hb).2⟩) hu)
  refine ⟨hB, fun v hv => (took_V h' hr h1 h3 v).2 ?_⟩
  rcases (took_V h hr h1 h2 v).1 hv with hv | ⟨a1, a2, a3⟩
  · exact .inl hv
  · exact .inr ⟨(only_mem.2 v).2 ⟨hi.2 v ((only_mem.2 v).1 a1).1, ((only_mem.2 v).1 a1).2⟩, by omega, forB_sub h.may.valid h'.may.valid hB a3⟩
/-- What comes in two parts, the latter first. -/
theorem take_parts {c : Cf} {w i j f k U : Vw} {upto : Int} {r9 r10 r12 : Vw × Vw × Bool} (h9 : Took c w i upto r9) (h10 : Took c w j upto r10) (h12 : Took c r10.1 k upto r12) (hr : Rm U) (h1 : Sb w U) (h2 : Sb i U)
    (hiB : ∀ b, b ∈ i.B ↔ b ∈ j.B ∨ b ∈ f.B) (hiV : ∀ b, b ∈ i.V ↔ b ∈ j.V ∨ b ∈ f.V) (hkB : ∀ b, b ∈ k.B ↔ b ∈ r10.2.1.B ∨ b ∈ f.B) (hkV : ∀ b, b ∈ k.V ↔ b ∈ r10.2.1.V ∨ b ∈ f.V) : Sb r9.1 r12.1 ∧ Sb r12.1 r9.1 := by
  have hj : Sb j U := ⟨fun b hb => h2.1 b ((hiB b).2 (.inl hb)), fun b hb => h2.2 b ((hiV b).2 (.inl hb))⟩
  obtain ⟨hx, hl⟩ := took_sb h10 h1 hj
  have hk : Sb k U := ⟨fun b hb => ((hkB b).1 hb).elim (hl.1 b) fun hb => h2.1 b ((hiB b).2 (.inr hb)), fun b hb => ((hkV b).1 hb).elim (hl.2 b) fun hb => h2.2 b ((hiV b).2 (.inr hb))⟩
  have p10 := took_pre h10
  have p12 := took_pre h12
  have hin : ∀ b s, b ∈ (onlyP c i).B → b.Slot ≤ upto → slotQ r12.1.B b.Parent = some s → s < b.Slot → b ∈ r12.1.B := by
    intro b s hb hu hq hs
    obtain ⟨hb1, hb2⟩ := (only_mem.1 b).1 hb
    have hm := of_decide_eq_true hb2
    rcases (hiB b).1 hb1 with hbj | hbf
    · rcases h10.allB b ((only_mem.1 b).2 ⟨hbj, hb2⟩) with hleft | hg
      · exact took_in h12 hr hx hk ((only_mem.1 b).2 ⟨(hkB b).2 (.inl hleft), hb2⟩) hu hq hs
      · unfold goneB at hg
        rw [Bool.or_eq_true] at hg
        rcases hg with hg | hg
        · obtain ⟨q, hq2⟩ := Option.isSome_iff_exists.1 hg
          exact p12.1 b (known_in h10.may hr hx (hj.1 b hbj) hm.2.2 hq2)
        · cases hp : slotQ r10.1.B b.Parent with
          | none => rw [hp] at hg; cases hg
          | some s' =>
            rw [hp] at hg
            have := of_decide_eq_true hg
            have h5 := slotQ_sub h10.may.valid h12.may.valid p12.1 hp
            rw [hq] at h5; cases h5; omega
    · exact took_in h12 hr hx hk ((only_mem.1 b).2 ⟨(hkB b).2 (.inr hbf), hb2⟩) hu hq hs
  have hB1 : ∀ b ∈ r9.1.B, b ∈ r12.1.B := by
    intro b hb
    have hc := (took_B h9 hr h1 h2 b).1 hb
    clear hb
    induction hc with
    | base hb => exact p12.1 _ (p10.1 _ hb)
    | root a1 a2 a3 a4 => exact hin _ 0 a1 a2 ((slotQ_iff h12.may.valid).2 (.inl ⟨a3, rfl⟩)) a4
    | step a1 a2 _ a4 a5 ih => exact hin _ _ a1 a2 ((slotQ_iff h12.may.valid).2 (.inr ⟨_, ih, a4, rfl⟩)) a5
  have hko : ∀ b, b ∈ (onlyP c k).B → b ∈ (onlyP c i).B := fun b hb => by
    obtain ⟨a1, a2⟩ := (only_mem.1 b).1 hb
    refine (only_mem.1 b).2 ⟨(hiB b).2 (((hkB b).1 a1).imp (fun h => ?_) id), a2⟩
    exact ((only_mem.1 b).1 (h10.subB.subset h)).1
  have hB2 : ∀ b ∈ r12.1.B, b ∈ r9.1.B := fun b hb => (took_B h9 hr h1 h2 b).2 (((took_B h12 hr hx hk b).1 hb).mono
    (fun b hb => ((took_B h10 hr h1 hj b).1 hb).mono (fun _ h => .base h) (fun b hb => (only_mem.1 b).2 ⟨(hiB b).2 (.inl ((only_mem.1 b).1 hb).1), ((only_mem.1 b).1 hb).2⟩) (Int.le_refl _)) hko (Int.le_refl _))
  refine ⟨⟨hB1, fun v hv => ?_⟩, hB2, fun v hv => ?_⟩
  · rcases (took_V h9 hr h1 h2 v).1 hv with hv | ⟨a1, a2, a3⟩
    · exact p12.2 v (p10.2 v hv)
    · have a3' := forB_sub h9.may.valid h12.may.valid hB1 a3
      obtain ⟨b1, b2⟩ := (only_mem.2 v).1 a1
      rcases (hiV v).1 b1 with hvj | hvf
      · rcases h10.allV v ((only_mem.2 v).2 ⟨hvj, b2⟩) with hleft | hg
        · exact (took_V h12 hr hx hk v).2 (.inr ⟨(only_mem.2 v).2 ⟨(hkV v).2 (.inl hleft), b2⟩, a2, a3'⟩)
        · unfold goneV at hg
          rw [Bool.or_eq_true] at hg
          rcases hg with hg | hg
          · exact p12.2 v (of_decide_eq_true hg)
          · cases hp : slotQ r10.1.B v.Head with
            | none => rw [hp] at hg; cases hg
            | some s' =>
              rw [hp] at hg
              have := of_decide_eq_true hg
              have h5 := slotQ_sub h10.may.valid h12.may.valid p12.1 hp
              obtain ⟨q, q1, q2⟩ := a3'
              rw [q1] at h5; cases h5; omega
      · exact (took_V h12 hr hx hk v).2 (.inr ⟨(only_mem.2 v).2 ⟨(hkV v).2 (.inr hvf), b2⟩, a2, a3'⟩)
  · rcases (took_V h12 hr hx hk v).1 hv with hv | ⟨a1, a2, a3⟩
    · rcases (took_V h10 hr h1 hj v).1 hv with hv | ⟨a1, a2, a3⟩
      · exact (took_V h9 hr h1 h2 v).2 (.inl hv)
      · obtain ⟨b1, b2⟩ := (only_mem.2 v).1 a1
        exact (took_V h9 hr h1 h2 v).2 (.inr ⟨(only_mem.2 v).2 ⟨(hiV v).2 (.inl b1), b2⟩, a2, forB_sub h10.may.valid h9.may.valid (fun b hb => hB2 b (p12.1 b hb)) a3⟩)
    · obtain ⟨b1, b2⟩ := (only_mem.2 v).1 a1
      refine (took_V h9 hr h1 h2 v).2 (.inr ⟨(only_mem.2 v).2 ⟨(hiV v).2 (((hkV v).1 b1).imp (fun h => ?_) id), b2⟩, a2, forB_sub h12.may.valid h9.may.valid hB2 a3⟩)
      exact ((only_mem.2 v).1 (h10.subV.subset h)).1
theorem may_same {c : Cf} {a b : Vw} (h1 : MayW c a) (h2 : MayW c b) (hab : Sb a b) (hba : Sb b a) : F92 a b = some true := by
  have l1 := h1.lenB
  have l2 := h1.lenV
  exact F92_same (by omega) (by omega) (nodup_of_names h1.valid) (nodup_of_names h2.valid) h1.nodup h2.nodup (fun x => ⟨hab.1 x, hba.1 x⟩) (fun x => ⟨hab.2 x, hba.2 x⟩)
open Classical in
theorem viOrder (c : Cf) (w i : Vw) (slot at_ vt : Int) : F32 c w i slot at_ vt = some true := by
  unfold F32
  rw [F83_eq, ob, F84_eq, ob, F84_eq, ob, Bool.not_true, cf]
  by_cases hf : (w.B.length : Int) ≤ 25 ∧ (w.V.length : Int) ≤ 25
  · rw [decide_eq_true hf, Bool.not_true, cf]
    by_cases hi : (i.B.length : Int) ≤ 25 ∧ (i.V.length : Int) ≤ 25
    · rw [decide_eq_true hi, Bool.not_true, cf]
      by_cases h0 : (c.W.length : Int) > 40
      · rw [decide_eq_true h0, ct, ob, ct]
      · rw [decide_eq_false h0, cf, F89_eq (by omega) (by omega), ob]
        by_cases hm : MayW c w
        · rw [decide_eq_true hm, Bool.not_true, cf]
          by_cases c1 : at_ < 0
          · rw [decide_eq_true c1, ct, ob, ct]
          · rw [decide_eq_false c1, cf]
            by_cases c2 : at_ > (i.B.length : Int)
            · rw [decide_eq_true c2, ct, ob, ct]
            · rw [decide_eq_false c2, cf]
              by_cases c3 : vt < 0
              · rw [decide_eq_true c3, ct, ob, ct]
              · rw [decide_eq_false c3, cf, ob]
                by_cases c4 : vt > (i.V.length : Int)
                · rw [decide_eq_true c4, ct]
                · rw [decide_eq_false c4, cf, F91_eq (by omega) (by omega), ob]
                  obtain ⟨l1, l2, l3, l4⟩ := join_len w i
                  rcases F32_clash (u := joinP w i) (by omega) with e | ⟨e, hc⟩
                  · rw [e, ob, sr]
                  · have hr : Rm (joinP w i) := ⟨inj_of hc, by omega, by omega⟩
                    obtain ⟨hw, hiU⟩ := join_sb w i
                    have hmB : ∀ b, b ∈ i.B ↔ b ∈ i.B.drop at_.toNat ∨ b ∈ i.B.take at_.toNat := cut_mem _ _
                    have hmV : ∀ b, b ∈ i.V ↔ b ∈ i.V.drop vt.toNat ∨ b ∈ i.V.take vt.toNat := cut_mem _ _
                    have d1 : (i.B.drop at_.toNat).length ≤ 25 := by rw [List.length_drop]; omega
                    have d2 : (i.V.drop vt.toNat).length ≤ 25 := by rw [List.length_drop]; omega
                    have d3 : (i.B.take at_.toNat).length ≤ 25 := by rw [List.length_take]; omega
                    have d4 : (i.V.take vt.toNat).length ≤ 25 := by rw [List.length_take]; omega
                    have i1 : inL i.B at_ i.B.length = true := decide_eq_true ⟨by omega, by omega, by omega⟩
                    have i2 : inL i.V vt i.V.length = true := decide_eq_true ⟨by omega, by omega, by omega⟩
                    rw [e, ob, sl, F90_eq (by omega) (by omega) (by omega) (by omega), ob, inL_hi (by omega) (by omega), ct, inL_hi (by omega) (by omega), ct, i1, ct, i2, ct, F90_eq (by omega) (by omega) (by simp only; omega) (by simp only; omega), ob]
                    generalize hj : (⟨i.B.drop at_.toNat, i.V.drop vt.toNat⟩ : Vw) = j
                    generalize hfst : (⟨i.B.take at_.toNat, i.V.take vt.toNat⟩ : Vw) = f
                    have jB : j.B = i.B.drop at_.toNat := by rw [← hj]
                    have jV : j.V = i.V.drop vt.toNat := by rw [← hj]
                    have fB : f.B = i.B.take at_.toNat := by rw [← hfst]
                    have fV : f.V = i.V.take vt.toNat := by rw [← hfst]
                    rw [← jB, ← fB] at hmB
                    rw [← jV, ← fV] at hmV
                    rw [← jB] at d1
                    rw [← jV] at d2
                    rw [← fB] at d3
                    rw [← fV] at d4
                    have h9 := took hm i slot
                    have h10 := took hm j slot
                    generalize takeP c w i slot = r9 at h9 ⊢
                    generalize takeP c w j slot = r10 at h10 ⊢
                    have g10 := took_len h10
                    have m1 := h10.may.lenB
                    have m2 := h10.may.lenV
                    have k1 := join_len r10.2.1 f
                    have k2 := join_len j f
                    rw [F91_eq (by omega) (by omega), ob, F90_eq (by omega) (by omega) (by omega) (by omega), ob, F91_eq (by omega) (by omega), ob, F90_eq (by omega) (by omega) (by omega) (by omega), ob]
                    have h12 := took h10.may (joinP r10.2.1 f) slot
                    have h14 := took hm (joinP j f) slot
                    obtain ⟨q1, q2⟩ := take_parts h9 h10 h12 hr hw hiU hmB hmV (fun b => join_mem.1 b) (fun b => join_mem.2 b)
                    have sj : Sb (joinP j f) i := ⟨fun b hb => (hmB b).2 ((join_mem.1 b).1 hb), fun b hb => (hmV b).2 ((join_mem.2 b).1 hb)⟩
                    have sj' : Sb i (joinP j f) := ⟨fun b hb => (join_mem.1 b).2 ((hmB b).1 hb), fun b hb => (join_mem.2 b).2 ((hmV b).1 hb)⟩
                    have sU : Sb (joinP j f) (joinP w i) := ⟨fun b hb => hiU.1 b (sj.1 b hb), fun b hb => hiU.2 b (sj.2 b hb)⟩
                    rw [may_same h9.may h12.may q1 q2, ob, may_same h9.may h14.may (take_more h9 h14 hr hw hiU sU sj' (Int.le_refl _)) (take_more h14 h9 hr hw sU hiU sj (Int.le_refl _)), ob, ct]
        · rw [decide_eq_false hm, Bool.not_false, ct, ob, ct]
    · rw [decide_eq_false hi, Bool.not_false, ct, ob, ct]
  · rw [decide_eq_false hf, Bool.not_false, ct, ob, ct]
end Go.Mg
