/- Laws of views. Laws of views: ViewOnly, ViewJoin. Conditions: none. -/
import Derived.Test.YtlhocfhoocmfiaaV2
import Derived.Test.YtlhocfhoocmfiaaV3
namespace Go.Mg
open Go.Proofs
structure F29_L1 where
  n : Int
  i : Int
structure F29_L2 where
  n : Int
  i : Int
def F34 (a : Vw) (b : Vw) : Option Bool :=
  (F83 ).bind fun v1 =>
  (F84 a 40).bind fun v2 =>
  (F84 b 40).bind fun v3 =>
  (
    bif !v1 then
      some true
    else
      bif !v2 then
        some true
      else
        some (!v3)
  ).bind fun v4 =>
  bif v4 then
    some v1
  else
    (F91 a b).bind fun v5 =>
    (F91 v5 a).bind fun v6 =>
    (F86 v6 v5).bind fun v7 =>
    (F91 v5 b).bind fun v8 =>
    (F86 v8 v5).bind fun v9 =>
    (
      bif !v7 then
        some true
      else
        bif !v9 then
          some true
        else
          bif decide ((v5.B.length : Int) < (a.B.length : Int)) then
            some true
          else
            bif decide ((v5.V.length : Int) < (a.V.length : Int)) then
              some true
            else
              some (decide ((v5.B.length : Int) > (IntKind.i64.wrap ((a.B.length : Int) + (b.B.length : Int)))))
    ).bind fun v10 =>
    bif v10 then
      some false
    else
      bif inL v5.B 0 (a.B.length : Int) then
        bif inL v5.V 0 (a.V.length : Int) then
          (F86 (Vw.mk (v5.B.take (a.B.length : Int).toNat) (v5.V.take (a.V.length : Int).toNat)) a).bind fun v11 =>
          some v11
        else none
      else none
set_option maxRecDepth 100000 in
theorem c34 {a : Vw} {b : Vw} {r_ : Bool} (hr : F34 a b = some r_) : LPure Try.prog 34 [vwP a, vwP b] [.bool r_] := by
  refine LPure.start Try.func34 rfl rfl rfl rfl ?_
  unfold F34 at hr
  refine LW.seq ?_
  refine LW.region ?_
  refine LOps.st rfl rfl rfl (LOp.box rfl rfl rfl rfl rfl) ?_
  refine LOps.st rfl rfl rfl (LOp.box rfl rfl rfl rfl rfl) ?_
  refine LOps.st rfl rfl rfl (LOp.assign rfl rfl) ?_
  refine LOps.nil ?_
  refine thn_n ?_
  refine LW.seq ?_
  refine LW.region ?_
  obtain ⟨v1, h_v1, hr⟩ := bind_get hr
  refine LOps.st rfl rfl rfl (LOp.call rfl rfl rfl (by kernel_rfl) (LC.pure (c83 h_v1) .nil)) ?_
  refine LOps.st rfl rfl rfl (LOp.assign rfl rfl) ?_
  refine LOps.nil ?_
  refine thn_n ?_
  refine LW.seq ?_
  refine LW.region ?_
  refine LOps.st rfl rfl rfl (LOp.load rfl rfl rfl vt75 rfl rfl) ?_
  obtain ⟨v2, h_v2, hr⟩ := bind_get hr
  refine LOps.st rfl rfl rfl (LOp.call rfl rfl rfl (by kernel_rfl) (LC.pure (c84 h_v2) (.cons Conv.p (.cons Conv.p .nil)))) ?_
  refine LOps.st rfl rfl rfl (LOp.assign rfl rfl) ?_
  refine LOps.nil ?_
  refine thn_n ?_
  refine LW.seq ?_
  refine LW.region ?_
  refine LOps.st rfl rfl rfl (LOp.load rfl rfl rfl vt75 rfl rfl) ?_
  obtain ⟨v3, h_v3, hr⟩ := bind_get hr
  refine LOps.st rfl rfl rfl (LOp.call rfl rfl rfl (by kernel_rfl) (LC.pure (c84 h_v3) (.cons Conv.p (.cons Conv.p .nil)))) ?_
  refine LOps.st rfl rfl rfl (LOp.assign rfl rfl) ?_
  refine LOps.nil ?_
  refine thn_n ?_
  refine LW.seq ?_
  obtain ⟨v4, hb_v4, ho_v4⟩ := bind_get hr
  clear hr
  refine LW.cut (E := [(2, .ptr 0 0), (3, .ptr 1 0), (4, .p (.bool false)), (5, .p (.bool v1)), (25, .p (.bool v4))]) (O := [.box [.p (.slice 5 (a.B.map blkP)), .p (.slice 4 (a.V.map vtP))], .box [.p (.slice 5 (b.B.map blkP)), .p (.slice 4 (b.V.map vtP))]]) ?_ ?_
  · have hr := hb_v4
    refine LW.region ?_
    refine LOps.st rfl rfl rfl (LOp.move rfl rfl) ?_
    refine LOps.st rfl rfl rfl (LOp.not rfl rfl) ?_
    refine LOps.st rfl rfl rfl (LOp.move rfl rfl) ?_
    refine LOps.cases 18 rfl (fun (g1 : (!v1) = true) => ?_) (fun (g1 : (!v1) = false) => ?_)
    · -- g1 is True
      have hr := ite_t g1 hr
      refine LOps.sk rfl rfl rfl (gd g1 rfl) rfl rfl ?_
      refine LOps.sk rfl rfl rfl (gd g1 rfl) rfl rfl ?_
      refine LOps.st rfl rfl rfl (LOp.pickT rfl (gdl g1 rfl) rfl) ?_
      refine LOps.st rfl rfl rfl (LOp.move rfl rfl) ?_
      refine LOps.sk rfl rfl rfl rfl rfl rfl ?_
      refine LOps.sk rfl rfl rfl rfl rfl rfl ?_
      refine LOps.st rfl rfl rfl (LOp.pickT rfl rfl rfl) ?_
      refine LOps.nil ?_
      refine thn_n ?_
      obtain rfl := Option.some.inj hr
      exact Weak.of 2 ⟨rfl, rfl, rfl, rfl, rfl, trivial⟩ rfl rfl rfl rfl
    · -- g1 is False
      have hr := ite_f g1 hr
      refine LOps.gd rfl rfl rfl (gd g1 rfl) rfl (LOp.move rfl rfl) ?_
      refine LOps.gd rfl rfl rfl (gd g1 rfl) rfl (LOp.not rfl rfl) ?_
      refine LOps.st rfl rfl rfl (LOp.pickF rfl (gdl g1 rfl) rfl) ?_
      refine LOps.st rfl rfl rfl (LOp.move rfl rfl) ?_
      refine LOps.cases 22 rfl (fun (g2 : (!v2) = true) => ?_) (fun (g2 : (!v2) = false) => ?_)
      · -- g2 is True
        have hr := ite_t g2 hr
        refine LOps.sk rfl rfl rfl (gd g2 rfl) rfl rfl ?_
        refine LOps.sk rfl rfl rfl (gd g2 rfl) rfl rfl ?_
        refine LOps.st rfl rfl rfl (LOp.pickT rfl (gdl g2 rfl) rfl) ?_
        refine LOps.nil ?_
        refine thn_n ?_
        obtain rfl := Option.some.inj hr
        exact Weak.of 2 ⟨rfl, rfl, rfl, rfl, rfl, trivial⟩ rfl rfl rfl rfl
      · -- g2 is False
        have hr := ite_f g2 hr
        refine LOps.gd rfl rfl rfl (gd g2 rfl) rfl (LOp.move rfl rfl) ?_
        refine LOps.gd rfl rfl rfl (gd g2 rfl) rfl (LOp.not rfl rfl) ?_
        refine LOps.st rfl rfl rfl (LOp.pickF rfl (gdl g2 rfl) rfl) ?_
        refine LOps.nil ?_
        refine thn_n ?_
        obtain rfl := Option.some.inj hr
        exact Weak.of 2 ⟨rfl, rfl, rfl, rfl, rfl, trivial⟩ rfl rfl rfl rfl
  · have hr := ho_v4
    clear hb_v4
    refine LW.cond rfl (fun (g3 : v4 = true) => ?_) (fun (g3 : v4 = false) => ?_)
    · -- g3 is True
      have hr := ite_t g3 hr
      refine LW.seq ?_
      refine LW.region ?_
      refine LOps.st rfl rfl rfl (LOp.move rfl rfl) ?_
      refine LOps.st rfl rfl rfl (LOp.assign rfl rfl) ?_
      refine LOps.nil ?_
      refine thn_n ?_
      refine LW.ret ?_
      refine thn_r ?_
      obtain rfl := Option.some.inj hr
      refine finP_ret (.one (.tmp rfl)) ?_
      exact Conv.p
    · -- g3 is False
      have hr := ite_f g3 hr
      refine LW.skip ?_
      refine thn_n ?_
      refine LW.seq ?_
      refine LW.region ?_
      refine LOps.st rfl rfl rfl (LOp.load rfl rfl rfl vt75 rfl rfl) ?_
      refine LOps.st rfl rfl rfl (LOp.load rfl rfl rfl vt75 rfl rfl) ?_
      obtain ⟨v5, h_v5, hr⟩ := bind_get hr
      refine LOps.st rfl rfl rfl (LOp.call rfl rfl rfl (by kernel_rfl) (LC.pure (c91 h_v5) (.cons Conv.p (.cons Conv.p .nil)))) ?_
      refine LOps.st rfl rfl rfl (LOp.alloc rfl zt75 rfl rfl) ?_
      refine LOps.st rfl rfl rfl (LOp.store rfl rfl rfl rfl vt75 rfl rfl rfl rfl) ?_
      refine LOps.nil ?_
      refine thn_n ?_
      refine LW.seq ?_
      refine LW.draw (by kernel_rfl) (by kernel_rfl) ?_
      refine LO.st rfl rfl rfl (LOp.load rfl rfl rfl vt75 rfl rfl) ?_
      refine LO.st rfl rfl rfl (LOp.load rfl rfl rfl vt75 rfl rfl) ?_
      obtain ⟨v6, h_v6, hr⟩ := bind_get hr
      refine LO.st rfl rfl rfl (LOp.call rfl rfl rfl (by kernel_rfl) (LC.pure (c91 h_v6) (.cons Conv.p (.cons Conv.p .nil)))) ?_
      refine LO.st rfl rfl rfl (LOp.load rfl rfl rfl vt75 rfl rfl) ?_
      obtain ⟨v7, h_v7, hr⟩ := bind_get hr
      refine LO.st rfl rfl rfl (LOp.call rfl rfl rfl (by kernel_rfl) (LC.pure (c86 h_v7) (.cons Conv.p (.cons Conv.p .nil)))) ?_
      refine LO.st rfl rfl rfl (LOp.assign rfl rfl) ?_
      refine LO.nil ?_
      refine thn_n ?_
      refine LW.seq ?_
      refine LW.draw (by kernel_rfl) (by kernel_rfl) ?_
      refine LO.st rfl rfl rfl (LOp.load rfl rfl rfl vt75 rfl rfl) ?_
      refine LO.st rfl rfl rfl (LOp.load rfl rfl rfl vt75 rfl rfl) ?_
      obtain ⟨v8, h_v8, hr⟩ := bind_get hr
      refine LO.st rfl rfl rfl (LOp.call rfl rfl rfl (by kernel_rfl) (LC.pure (c91 h_v8) (.cons Conv.p (.cons Conv.p .nil)))) ?_
      refine LO.st rfl rfl rfl (LOp.load rfl rfl rfl vt75 rfl rfl) ?_
      obtain ⟨v9, h_v9, hr⟩ := bind_get hr
      refine LO.st rfl rfl rfl (LOp.call rfl rfl rfl (by kernel_rfl) (LC.pure (c86 h_v9) (.cons Conv.p (.cons Conv.p .nil)))) ?_
      refine LO.st rfl rfl rfl (LOp.assign rfl rfl) ?_
      refine LO.nil ?_
      refine thn_n ?_
      refine LW.seq ?_
      obtain ⟨v10, hb_v10, ho_v10⟩ := bind_get hr
      clear hr
      refine LW.cut (E := [(2, .ptr 0 0), (4, .p (.bool false)), (8, .ptr 2 0), (76, .p (.bool v10))]) (O := [.box [.p (.slice 5 (a.B.map blkP)), .p (.slice 4 (a.V.map vtP))], .box [.p (.slice 5 (b.B.map blkP)), .p (.slice 4 (b.V.map vtP))], .box [.p (.slice 5 (v5.B.map blkP)), .p (.slice 4 (v5.V.map vtP))]]) ?_ ?_
      · have hr := hb_v10
        refine LW.region ?_
        refine LOps.st rfl rfl rfl (LOp.move rfl rfl) ?_
        refine LOps.st rfl rfl rfl (LOp.not rfl rfl) ?_
        refine LOps.st rfl rfl rfl (LOp.move rfl rfl) ?_
        refine LOps.cases 42 rfl (fun (g4 : (!v7) = true) => ?_) (fun (g4 : (!v7) = false) => ?_)
        · -- g4 is True
          have hr := ite_t g4 hr
          refine LOps.sk rfl rfl rfl (gd g4 rfl) rfl rfl ?_
          refine LOps.sk rfl rfl rfl (gd g4 rfl) rfl rfl ?_
          refine LOps.st rfl rfl rfl (LOp.pickT rfl (gdl g4 rfl) rfl) ?_
          refine LOps.st rfl rfl rfl (LOp.move rfl rfl) ?_
          refine LOps.sk rfl rfl rfl rfl rfl rfl ?_
          refine LOps.sk rfl rfl rfl rfl rfl rfl ?_
          refine LOps.sk rfl rfl rfl rfl rfl rfl ?_
          refine LOps.sk rfl rfl rfl rfl rfl rfl ?_
          refine LOps.sk rfl rfl rfl rfl rfl rfl ?_
          refine LOps.sk rfl rfl rfl rfl rfl rfl ?_
          refine LOps.sk rfl rfl rfl rfl rfl rfl ?_
          refine LOps.st rfl rfl rfl (LOp.pickT rfl rfl rfl) ?_
          refine LOps.st rfl rfl rfl (LOp.move rfl rfl) ?_
          refine LOps.sk rfl rfl rfl rfl rfl rfl ?_
          refine LOps.sk rfl rfl rfl rfl rfl rfl ?_
          refine LOps.sk rfl rfl rfl rfl rfl rfl ?_
          refine LOps.sk rfl rfl rfl rfl rfl rfl ?_
          refine LOps.sk rfl rfl rfl rfl rfl rfl ?_
          refine LOps.sk rfl rfl rfl rfl rfl rfl ?_
          refine LOps.sk rfl rfl rfl rfl rfl rfl ?_
          refine LOps.st rfl rfl rfl (LOp.pickT rfl rfl rfl) ?_
          refine LOps.st rfl rfl rfl (LOp.move rfl rfl) ?_
          refine LOps.sk rfl rfl rfl rfl rfl rfl ?_
          refine LOps.sk rfl rfl rfl rfl rfl rfl ?_
          refine LOps.sk rfl rfl rfl rfl rfl rfl ?_
          refine LOps.sk rfl rfl rfl rfl rfl rfl ?_
          refine LOps.sk rfl rfl rfl rfl rfl rfl ?_
          refine LOps.sk rfl rfl rfl rfl rfl rfl ?_
          refine LOps.sk rfl rfl rfl rfl rfl rfl ?_
          refine LOps.sk rfl rfl rfl rfl rfl rfl ?_
          refine LOps.sk rfl rfl rfl rfl rfl rfl ?_
          refine LOps.sk rfl rfl rfl rfl rfl rfl ?_
          refine LOps.sk rfl rfl rfl rfl rfl rfl ?_
          refine LOps.st rfl rfl rfl (LOp.pickT rfl rfl rfl) ?_
          refine LOps.nil ?_
          refine thn_n ?_
          obtain rfl := Option.some.inj hr
          exact Weak.of 3 ⟨rfl, rfl, rfl, rfl, trivial⟩ rfl rfl rfl rfl
        · -- g4 is False
          have hr := ite_f g4 hr
          refine LOps.gd rfl rfl rfl (gd g4 rfl) rfl (LOp.move rfl rfl) ?_
          refine LOps.gd rfl rfl rfl (gd g4 rfl) rfl (LOp.not rfl rfl) ?_
          refine LOps.st rfl rfl rfl (LOp.pickF rfl (gdl g4 rfl) rfl) ?_
          refine LOps.st rfl rfl rfl (LOp.move rfl rfl) ?_
          refine LOps.cases 46 rfl (fun (g5 : (!v9) = true) => ?_) (fun (g5 : (!v9) = false) => ?_)
          · -- g5 is True
            have hr := ite_t g5 hr
            refine LOps.sk rfl rfl rfl (gd g5 rfl) rfl rfl ?_
            refine LOps.sk rfl rfl rfl (gd g5 rfl) rfl rfl ?_
            refine LOps.sk rfl rfl rfl (gd g5 rfl) rfl rfl ?_
            refine LOps.sk rfl rfl rfl (gd g5 rfl) rfl rfl ?_
            refine LOps.sk rfl rfl rfl (gd g5 rfl) rfl rfl ?_
            refine LOps.sk rfl rfl rfl (gd g5 rfl) rfl rfl ?_
            refine LOps.sk rfl rfl rfl (gd g5 rfl) rfl rfl ?_
            refine LOps.st rfl rfl rfl (LOp.pickT rfl (gdl g5 rfl) rfl) ?_
            refine LOps.st rfl rfl rfl (LOp.move rfl rfl) ?_
            refine LOps.sk rfl rfl rfl rfl rfl rfl ?_
            refine LOps.sk rfl rfl rfl rfl rfl rfl ?_
            refine LOps.sk rfl rfl rfl rfl rfl rfl ?_
            refine LOps.sk rfl rfl rfl rfl rfl rfl ?_
            refine LOps.sk rfl rfl rfl rfl rfl rfl ?_
            refine LOps.sk rfl rfl rfl rfl rfl rfl ?_
            refine LOps.sk rfl rfl rfl rfl rfl rfl ?_
            refine LOps.st rfl rfl rfl (LOp.pickT rfl rfl rfl) ?_
            refine LOps.st rfl rfl rfl (LOp.move rfl rfl) ?_
            refine LOps.sk rfl rfl rfl rfl rfl rfl ?_
            refine LOps.sk rfl rfl rfl rfl rfl rfl ?_
            refine LOps.sk rfl rfl rfl rfl rfl rfl ?_
            refine LOps.sk rfl rfl rfl rfl rfl rfl ?_
            refine LOps.sk rfl rfl rfl rfl rfl rfl ?_
            refine LOps.sk rfl rfl rfl rfl rfl rfl ?_
            refine LOps.sk rfl rfl rfl rfl rfl rfl ?_
            refine LOps.sk rfl rfl rfl rfl rfl rfl ?_
            refine LOps.sk rfl rfl rfl rfl rfl rfl ?_
            refine LOps.sk rfl rfl rfl rfl rfl rfl ?_
            refine LOps.sk rfl rfl rfl rfl rfl rfl ?_
            refine LOps.st rfl rfl rfl (LOp.pickT rfl rfl rfl) ?_
            refine LOps.nil ?_
            refine thn_n ?_
            obtain rfl := Option.some.inj hr
            exact Weak.of 3 ⟨rfl, rfl, rfl, rfl, trivial⟩ rfl rfl rfl rfl
          · -- g5 is False
            have hr := ite_f g5 hr
            refine LOps.gd rfl rfl rfl (gd g5 rfl) rfl (LOp.fieldAddr rfl rfl ft75_0) ?_
            refine LOps.gd rfl rfl rfl (gd g5 rfl) rfl (LOp.load rfl rfl rfl vt27 rfl rfl) ?_
            refine LOps.gd rfl rfl rfl (gd g5 rfl) rfl (LOp.lenM rfl rfl (by kernel_rfl)) ?_
            refine LOps.gd rfl rfl rfl (gd g5 rfl) rfl (LOp.fieldAddr rfl rfl ft75_0) ?_
            refine LOps.gd rfl rfl rfl (gd g5 rfl) rfl (LOp.load rfl rfl rfl vt27 rfl rfl) ?_
            refine LOps.gd rfl rfl rfl (gd g5 rfl) rfl (LOp.lenM rfl rfl (by kernel_rfl)) ?_
            refine LOps.gd rfl rfl rfl (gd g5 rfl) rfl (LOp.bin rfl rfl rfl rfl) ?_
            refine LOps.st rfl rfl rfl (LOp.pickF rfl (gdl g5 rfl) rfl) ?_
            refine LOps.st rfl rfl rfl (LOp.move rfl rfl) ?_
            refine LOps.cases 55 rfl (fun (g6 : (decide ((v5.B.length : Int) < (a.B.length : Int))) = true) => ?_) (fun (g6 : (decide ((v5.B.length : Int) < (a.B.length : Int))) = false) => ?_)
            · -- g6 is True
              have hr := ite_t g6 hr
              refine LOps.sk rfl rfl rfl (gd g6 rfl) rfl rfl ?_
              refine LOps.sk rfl rfl rfl (gd g6 rfl) rfl rfl ?_
              refine LOps.sk rfl rfl rfl (gd g6 rfl) rfl rfl ?_
              refine LOps.sk rfl rfl rfl (gd g6 rfl) rfl rfl ?_
              refine LOps.sk rfl rfl rfl (gd g6 rfl) rfl rfl ?_
              refine LOps.sk rfl rfl rfl (gd g6 rfl) rfl rfl ?_
              refine LOps.sk rfl rfl rfl (gd g6 rfl) rfl rfl ?_
              refine LOps.st rfl rfl rfl (LOp.pickT rfl (gdl g6 rfl) rfl) ?_
              refine LOps.st rfl rfl rfl (LOp.move rfl rfl) ?_
              refine LOps.sk rfl rfl rfl rfl rfl rfl ?_
              refine LOps.sk rfl rfl rfl rfl rfl rfl ?_
              refine LOps.sk rfl rfl rfl rfl rfl rfl ?_
              refine LOps.sk rfl rfl rfl rfl rfl rfl ?_
              refine LOps.sk rfl rfl rfl rfl rfl rfl ?_
              refine LOps.sk rfl rfl rfl rfl rfl rfl ?_
              refine LOps.sk rfl rfl rfl rfl rfl rfl ?_
              refine LOps.sk rfl rfl rfl rfl rfl rfl ?_
              refine LOps.sk rfl rfl rfl rfl rfl rfl ?_
              refine LOps.sk rfl rfl rfl rfl rfl rfl ?_
              refine LOps.sk rfl rfl rfl rfl rfl rfl ?_
              refine LOps.st rfl rfl rfl (LOp.pickT rfl rfl rfl) ?_
              refine LOps.nil ?_
              refine thn_n ?_
              obtain rfl := Option.some.inj hr
              exact Weak.of 3 ⟨rfl, rfl, rfl, rfl, trivial⟩ rfl rfl rfl rfl
            · -- g6 is False
              have hr := ite_f g6 hr
              refine LOps.gd rfl rfl rfl (gd g6 rfl) rfl (LOp.fieldAddr rfl rfl ft75_1) ?_
              refine LOps.gd rfl rfl rfl (gd g6 rfl) rfl (LOp.load rfl rfl rfl vt68 rfl rfl) ?_
              refine LOps.gd rfl rfl rfl (gd g6 rfl) rfl (LOp.lenM rfl rfl (by kernel_rfl)) ?_
              refine LOps.gd rfl rfl rfl (gd g6 rfl) rfl (LOp.fieldAddr rfl rfl ft75_1) ?_
              refine LOps.gd rfl rfl rfl (gd g6 rfl) rfl (LOp.load rfl rfl rfl vt68 rfl rfl) ?_
              refine LOps.gd rfl rfl rfl (gd g6 rfl) rfl (LOp.lenM rfl rfl (by kernel_rfl)) ?_
              refine LOps.gd rfl rfl rfl (gd g6 rfl) rfl (LOp.bin rfl rfl rfl rfl) ?_
              refine LOps.st rfl rfl rfl (LOp.pickF rfl (gdl g6 rfl) rfl) ?_
              refine LOps.st rfl rfl rfl (LOp.move rfl rfl) ?_
              refine LOps.cases 64 rfl (fun (g7 : (decide ((v5.V.length : Int) < (a.V.length : Int))) = true) => ?_) (fun (g7 : (decide ((v5.V.length : Int) < (a.V.length : Int))) = false) => ?_)
              · -- g7 is True
                have hr := ite_t g7 hr
                refine LOps.sk rfl rfl rfl (gd g7 rfl) rfl rfl ?_
                refine LOps.sk rfl rfl rfl (gd g7 rfl) rfl rfl ?_
                refine LOps.sk rfl rfl rfl (gd g7 rfl) rfl rfl ?_
                refine LOps.sk rfl rfl rfl (gd g7 rfl) rfl rfl ?_
                refine LOps.sk rfl rfl rfl (gd g7 rfl) rfl rfl ?_
                refine LOps.sk rfl rfl rfl (gd g7 rfl) rfl rfl ?_
                refine LOps.sk rfl rfl rfl (gd g7 rfl) rfl rfl ?_
                refine LOps.sk rfl rfl rfl (gd g7 rfl) rfl rfl ?_
                refine LOps.sk rfl rfl rfl (gd g7 rfl) rfl rfl ?_
                refine LOps.sk rfl rfl rfl (gd g7 rfl) rfl rfl ?_
                refine LOps.sk rfl rfl rfl (gd g7 rfl) rfl rfl ?_
                refine LOps.st rfl rfl rfl (LOp.pickT rfl (gdl g7 rfl) rfl) ?_
                refine LOps.nil ?_
                refine thn_n ?_
                obtain rfl := Option.some.inj hr
                exact Weak.of 3 ⟨rfl, rfl, rfl, rfl, trivial⟩ rfl rfl rfl rfl
              · -- g7 is False
                have hr := ite_f g7 hr
                refine LOps.gd rfl rfl rfl (gd g7 rfl) rfl (LOp.fieldAddr rfl rfl ft75_0) ?_
                refine LOps.gd rfl rfl rfl (gd g7 rfl) rfl (LOp.load rfl rfl rfl vt27 rfl rfl) ?_
                refine LOps.gd rfl rfl rfl (gd g7 rfl) rfl (LOp.lenM rfl rfl (by kernel_rfl)) ?_
                refine LOps.gd rfl rfl rfl (gd g7 rfl) rfl (LOp.fieldAddr rfl rfl ft75_0) ?_
                refine LOps.gd rfl rfl rfl (gd g7 rfl) rfl (LOp.load rfl rfl rfl vt27 rfl rfl) ?_
                refine LOps.gd rfl rfl rfl (gd g7 rfl) rfl (LOp.lenM rfl rfl (by kernel_rfl)) ?_
                refine LOps.gd rfl rfl rfl (gd g7 rfl) rfl (LOp.fieldAddr rfl rfl ft75_0) ?_
                refine LOps.gd rfl rfl rfl (gd g7 rfl) rfl (LOp.load rfl rfl rfl vt27 rfl rfl) ?_
                refine LOps.gd rfl rfl rfl (gd g7 rfl) rfl (LOp.lenM rfl rfl (by kernel_rfl)) ?_
                refine LOps.gd rfl rfl rfl (gd g7 rfl) rfl (LOp.bin rfl rfl rfl rfl) ?_
                refine LOps.gd rfl rfl rfl (gd g7 rfl) rfl (LOp.bin rfl rfl rfl rfl) ?_
                refine LOps.st rfl rfl rfl (LOp.pickF rfl (gdl g7 rfl) rfl) ?_
                refine LOps.nil ?_
                refine thn_n ?_
                obtain rfl := Option.some.inj hr
                exact Weak.of 3 ⟨rfl, rfl, rfl, rfl, trivial⟩ rfl rfl rfl rfl
      · have hr := ho_v10
        clear hb_v10
        refine LW.cond rfl (fun (g8 : v10 = true) => ?_) (fun (g8 : v10 = false) => ?_)
        · -- g8 is True
          have hr := ite_t g8 hr
          refine LW.seq ?_
          refine LW.region ?_
          refine LOps.st rfl rfl rfl (LOp.assign rfl rfl) ?_
          refine LOps.nil ?_
          refine thn_n ?_
          refine LW.ret ?_
          refine thn_r ?_
          obtain rfl := Option.some.inj hr
          refine finP_ret (.one (.tmp rfl)) ?_
          exact Conv.p
        · -- g8 is False
          have hr := ite_f g8 hr
          refine LW.skip ?_
          refine thn_n ?_
          refine LW.seq ?_
          refine LW.draw (by kernel_rfl) (by kernel_rfl) ?_
          refine LO.st rfl rfl rfl (LOp.fieldAddr rfl rfl ft75_0) ?_
          refine LO.st rfl rfl rfl (LOp.load rfl rfl rfl vt27 rfl rfl) ?_
          refine LO.st rfl rfl rfl (LOp.fieldAddr rfl rfl ft75_0) ?_
          refine LO.st rfl rfl rfl (LOp.load rfl rfl rfl vt27 rfl rfl) ?_
          refine LO.st rfl rfl rfl (LOp.lenM rfl rfl (by kernel_rfl)) ?_
          obtain ⟨q1, hr⟩ := grd_get hr
          refine LO.st rfl rfl rfl (LOp.sliceHi rfl rfl rfl st27 q1) ?_
          refine LO.st rfl rfl rfl (LOp.fieldAddr rfl rfl ft75_1) ?_
          refine LO.st rfl rfl rfl (LOp.load rfl rfl rfl vt68 rfl rfl) ?_
          refine LO.st rfl rfl rfl (LOp.fieldAddr rfl rfl ft75_1) ?_
          refine LO.st rfl rfl rfl (LOp.load rfl rfl rfl vt68 rfl rfl) ?_
          refine LO.st rfl rfl rfl (LOp.lenM rfl rfl (by kernel_rfl)) ?_
          obtain ⟨q2, hr⟩ := grd_get hr
          refine LO.st rfl rfl rfl (LOp.sliceHi rfl rfl rfl st68 q2) ?_
          refine LO.st rfl rfl rfl (LOp.build rfl bt75 rfl rfl rfl) ?_
          refine LO.st rfl rfl rfl (LOp.load rfl rfl rfl vt75 rfl rfl) ?_
          obtain ⟨v11, h_v11, hr⟩ := bind_get hr
          refine LO.st rfl rfl rfl (LOp.call rfl rfl rfl (by kernel_rfl) (LC.pure (c86 h_v11) (.cons Conv.p (.cons Conv.p .nil)))) ?_
          refine LO.st rfl rfl rfl (LOp.assign rfl rfl) ?_
          refine LO.nil ?_
          refine thn_n ?_
          refine LW.ret ?_
          obtain rfl := Option.some.inj hr
          refine finP_ret (.one (.tmp rfl)) ?_
          exact Conv.p
theorem join_again (a b : Vw) : joinP (joinP a b) b = joinP a b ∧ joinP (joinP a b) a = joinP a b := by
  unfold joinP
  simp only [Vw.mk.injEq]
  exact ⟨⟨withP_sub fun x hx => (withP_mem x b.B a.B).2 (.inr hx), withP_sub fun x hx => (withP_mem x b.V a.V).2 (.inr hx)⟩, withP_sub fun x hx => (withP_mem x b.B a.B).2 (.inl hx), withP_sub fun x hx => (withP_mem x b.V a.V).2 (.inl hx)⟩
theorem join_len (a b : Vw) : a.B.length ≤ (joinP a b).B.length ∧ a.V.length ≤ (joinP a b).V.length ∧ (joinP a b).B.length ≤ a.B.length + b.B.length ∧ (joinP a b).V.length ≤ a.V.length + b.V.length :=
  ⟨withP_len_ge _ _, withP_len_ge _ _, withP_len _ _, withP_len _ _⟩
theorem join_take (a b : Vw) : (joinP a b).B.take a.B.length = a.B ∧ (joinP a b).V.take a.V.length = a.V := by
  obtain ⟨t, ht⟩ := withP_pre b.B a.B
  obtain ⟨u, hu⟩ := withP_pre b.V a.V
  unfold joinP
  simp only
  rw [ht, hu, List.take_left' rfl, List.take_left' rfl]
  exact ⟨rfl, rfl⟩
theorem inL_len {α : Type} {l : List α} {n : Nat} (h : n ≤ l.length) : inL l 0 (n : Int) = true := inL_hi (by omega) (by omega)
theorem viJoin (a b : Vw) : F34 a b = some true := by
  unfold F34
  rw [F83_eq, ob, F84_eq, ob, F84_eq, ob, Bool.not_true, cf]
  by_cases h1 : (a.B.length : Int) ≤ 40 ∧ (a.V.length : Int) ≤ 40
  · rw [decide_eq_true h1, Bool.not_true, cf, ob]
    by_cases h2 : (b.B.length : Int) ≤ 40 ∧ (b.V.length : Int) ≤ 40
    · obtain ⟨l1, l2, l3, l4⟩ := join_len a b
      obtain ⟨j1, j2⟩ := join_again a b
      obtain ⟨t1, t2⟩ := join_take a b
      rw [decide_eq_true h2, Bool.not_true, cf, F91_eq (by omega) (by omega), ob, F91_eq (by omega) (by omega), ob, j2, F86_eq (by omega) (by omega), ob, F91_eq (by omega) (by omega), ob, j1, F86_eq (by omega) (by omega), ob, decide_eq_true ⟨rfl, rfl⟩, Bool.not_true, cf, cf,
        decide_eq_false (show ¬ ((joinP a b).B.length : Int) < (a.B.length : Int) by omega), cf, decide_eq_false (show ¬ ((joinP a b).V.length : Int) < (a.V.length : Int) by omega), cf, ob,
        show IntKind.i64.wrap ((a.B.length : Int) + (b.B.length : Int)) = (a.B.length : Int) + (b.B.length : Int) from wrapI (by omega) (by omega), decide_eq_false (show ¬ ((joinP a b).B.length : Int) > (a.B.length : Int) + (b.B.length : Int) by omega), cf,
        inL_len l1, ct, inL_len l2, ct, Int.toNat_natCast, Int.toNat_natCast, t1, t2, F86_eq (by simp only; omega) (by simp only; omega), ob, decide_eq_true ⟨rfl, rfl⟩]
    · rw [decide_eq_false h2, Bool.not_false, ct]
  · rw [decide_eq_false h1, Bool.not_false, ct, ob, ct]
end Go.Mg
