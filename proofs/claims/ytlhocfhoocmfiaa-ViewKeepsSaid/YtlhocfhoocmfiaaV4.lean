/- Laws of views. Laws of views: ViewOnly, ViewJoin. Laws of views. Laws of views. Laws of views: ViewMay, ViewKeeps. Conditions: none. -/
import Derived.Test.YtlhocfhoocmfiaaV2
import Derived.Test.YtlhocfhoocmfiaaV3
namespace Go.Mg
open Go.Proofs
structure F29_L1 where
  n : Int
  i : Int
structure F29_L2 where
  n : Int
  i : Int
theorem inL_len {α : Type} {l : List α} {n : Nat} (h : n ≤ l.length) : inL l 0 (n : Int) = true := inL_hi (by omega) (by omega)
open Go.Proofs
structure F30_L1 where
  i : Int
structure F30_L2 where
  i : Int
open Go.Proofs
def F31 (c : Cf) (w : Vw) (v_in : Vw) (slot : Int) : Option Bool :=
  (F83 ).bind fun v1 =>
  (F84 w 40).bind fun v2 =>
  (F84 v_in 40).bind fun v3 =>
  (
    bif !v1 then
      some true
    else
      bif !v2 then
        some true
      else
        bif !v3 then
          some true
        else
          bif decide ((c.W.length : Int) > 40) then
            some true
          else
            (F89 c w).bind fun v5 =>
            some (!v5)
  ).bind fun v4 =>
  bif v4 then
    some v1
  else
    (F90 c w v_in slot).bind fun v6 =>
    (
      (F89 c v6.1).bind fun v8 =>
      bif !v8 then
        some true
      else
        bif decide ((v6.1.B.length : Int) < (w.B.length : Int)) then
          some true
        else
          some (decide ((v6.1.V.length : Int) < (w.V.length : Int)))
    ).bind fun v7 =>
    bif v7 then
      some false
    else
      bif inL v6.1.B 0 (w.B.length : Int) then
        bif inL v6.1.V 0 (w.V.length : Int) then
          (F86 (Vw.mk (v6.1.B.take (w.B.length : Int).toNat) (v6.1.V.take (w.V.length : Int).toNat)) w).bind fun v9 =>
          (F90 c v6.1 v6.2.1 slot).bind fun v10 =>
          (F86 v6.1 v10.1).bind fun v11 =>
          (F86 v6.2.1 v10.2.1).bind fun v12 =>
          (F91 v_in v6.2.1).bind fun v13 =>
          bif v9 then
            bif v6.2.2 then
              some true
            else
              bif v10.2.2 then
                bif (v13.B.length : Int) == (v_in.B.length : Int) then
                  some true
                else
                  (F91 v_in v_in).bind fun v14 =>
                  some ((v14.B.length : Int) != (v_in.B.length : Int))
              else
                bif v11 then
                  bif v12 then
                    bif (v13.B.length : Int) == (v_in.B.length : Int) then
                      some true
                    else
                      (F91 v_in v_in).bind fun v15 =>
                      some ((v15.B.length : Int) != (v_in.B.length : Int))
                  else
                    some false
                else
                  some false
          else
            some false
        else none
      else none
set_option maxRecDepth 100000 in
theorem c31 {c : Cf} {w : Vw} {v_in : Vw} {slot : Int} {r_ : Bool} (hr : F31 c w v_in slot = some r_) : LPure Try.prog 31 [cfP c, vwP w, vwP v_in, .int .i64 slot] [.bool r_] := by
  refine LPure.start Try.func31 rfl rfl rfl rfl ?_
  unfold F31 at hr
  refine LW.seq ?_
  refine LW.region ?_
  refine LOps.st rfl rfl rfl (LOp.box rfl rfl rfl rfl rfl) ?_
  refine LOps.st rfl rfl rfl (LOp.box rfl rfl rfl rfl rfl) ?_
  refine LOps.st rfl rfl rfl (LOp.box rfl rfl rfl rfl rfl) ?_
  refine LOps.st rfl rfl rfl (LOp.assign rfl rfl) ?_
  refine LOps.nil ?_
  refine thn_n ?_
  refine LW.seq ?_
  refine LW.region ?_
  obtain ⟨v1, h_v1, hr⟩ := bind_get hr
  refine LOps.st rfl rfl rfl (LOp.call rfl rfl rfl (by kernel_rfl) (LC.pure (c83 h_v1) .nil)) ?_
  refine LOps.st rfl rfl rfl (LOp.assign rfl rfl) ?_
  refine LOps.nil ?_
  refine thn_n ?_
  refine LW.seq ?_
  refine LW.region ?_
  refine LOps.st rfl rfl rfl (LOp.load rfl rfl rfl vt75 rfl rfl) ?_
  obtain ⟨v2, h_v2, hr⟩ := bind_get hr
  refine LOps.st rfl rfl rfl (LOp.call rfl rfl rfl (by kernel_rfl) (LC.pure (c84 h_v2) (.cons Conv.p (.cons Conv.p .nil)))) ?_
  refine LOps.st rfl rfl rfl (LOp.assign rfl rfl) ?_
  refine LOps.nil ?_
  refine thn_n ?_
  refine LW.seq ?_
  refine LW.region ?_
  refine LOps.st rfl rfl rfl (LOp.load rfl rfl rfl vt75 rfl rfl) ?_
  obtain ⟨v3, h_v3, hr⟩ := bind_get hr
  refine LOps.st rfl rfl rfl (LOp.call rfl rfl rfl (by kernel_rfl) (LC.pure (c84 h_v3) (.cons Conv.p (.cons Conv.p .nil)))) ?_
  refine LOps.st rfl rfl rfl (LOp.assign rfl rfl) ?_
  refine LOps.nil ?_
  refine thn_n ?_
  refine LW.seq ?_
  obtain ⟨v4, hb_v4, ho_v4⟩ := bind_get hr
  clear hr
  refine LW.cut (E := [(3, .p (.int .i64 slot)), (4, .ptr 0 0), (5, .ptr 1 0), (6, .ptr 2 0), (8, .p (.bool false)), (9, .p (.bool v1)), (48, .p (.bool v4))]) (O := [.box [.p (.slice 1 (c.W.map i64P)), .p (.int .u64 c.Seed), .p (.int .i64 c.Epoch), .p (.int .i64 c.Num), .p (.int .i64 c.Den)], .box [.p (.slice 5 (w.B.map blkP)), .p (.slice 4 (w.V.map vtP))], .box [.p (.slice 5 (v_in.B.map blkP)), .p (.slice 4 (v_in.V.map vtP))]]) ?_ ?_
  · have hr := hb_v4
    refine LW.region ?_
    refine LOps.st rfl rfl rfl (LOp.move rfl rfl) ?_
    refine LOps.st rfl rfl rfl (LOp.not rfl rfl) ?_
    refine LOps.st rfl rfl rfl (LOp.move rfl rfl) ?_
    refine LOps.cases 29 rfl (fun (g1 : (!v1) = true) => ?_) (fun (g1 : (!v1) = false) => ?_)
    · -- g1 is True
      have hr := ite_t g1 hr
      refine LOps.sk rfl rfl rfl (gd g1 rfl) rfl rfl ?_
      refine LOps.sk rfl rfl rfl (gd g1 rfl) rfl rfl ?_
      refine LOps.st rfl rfl rfl (LOp.pickT rfl (gdl g1 rfl) rfl) ?_
      refine LOps.st rfl rfl rfl (LOp.move rfl rfl) ?_
      refine LOps.sk rfl rfl rfl rfl rfl rfl ?_
      refine LOps.sk rfl rfl rfl rfl rfl rfl ?_
      refine LOps.st rfl rfl rfl (LOp.pickT rfl rfl rfl) ?_
      refine LOps.st rfl rfl rfl (LOp.move rfl rfl) ?_
      refine LOps.sk rfl rfl rfl rfl rfl rfl ?_
      refine LOps.sk rfl rfl rfl rfl rfl rfl ?_
      refine LOps.sk rfl rfl rfl rfl rfl rfl ?_
      refine LOps.sk rfl rfl rfl rfl rfl rfl ?_
      refine LOps.st rfl rfl rfl (LOp.pickT rfl rfl rfl) ?_
      refine LOps.st rfl rfl rfl (LOp.move rfl rfl) ?_
      refine LOps.sk rfl rfl rfl rfl rfl rfl ?_
      refine LOps.sk rfl rfl rfl rfl rfl rfl ?_
      refine LOps.sk rfl rfl rfl rfl rfl rfl ?_
      refine LOps.sk rfl rfl rfl rfl rfl rfl ?_
      refine LOps.st rfl rfl rfl (LOp.pickT rfl rfl rfl) ?_
      refine LOps.nil ?_
      refine thn_n ?_
      obtain rfl := Option.some.inj hr
      exact Weak.of 3 ⟨rfl, rfl, rfl, rfl, rfl, rfl, rfl, trivial⟩ rfl rfl rfl rfl
    · -- g1 is False
      have hr := ite_f g1 hr
      refine LOps.gd rfl rfl rfl (gd g1 rfl) rfl (LOp.move rfl rfl) ?_
      refine LOps.gd rfl rfl rfl (gd g1 rfl) rfl (LOp.not rfl rfl) ?_
      refine LOps.st rfl rfl rfl (LOp.pickF rfl (gdl g1 rfl) rfl) ?_
      refine LOps.st rfl rfl rfl (LOp.move rfl rfl) ?_
      refine LOps.cases 33 rfl (fun (g2 : (!v2) = true) => ?_) (fun (g2 : (!v2) = false) => ?_)
      · -- g2 is True
        have hr := ite_t g2 hr
        refine LOps.sk rfl rfl rfl (gd g2 rfl) rfl rfl ?_
        refine LOps.sk rfl rfl rfl (gd g2 rfl) rfl rfl ?_
        refine LOps.st rfl rfl rfl (LOp.pickT rfl (gdl g2 rfl) rfl) ?_
        refine LOps.st rfl rfl rfl (LOp.move rfl rfl) ?_
        refine LOps.sk rfl rfl rfl rfl rfl rfl ?_
        refine LOps.sk rfl rfl rfl rfl rfl rfl ?_
        refine LOps.sk rfl rfl rfl rfl rfl rfl ?_
        refine LOps.sk rfl rfl rfl rfl rfl rfl ?_
        refine LOps.st rfl rfl rfl (LOp.pickT rfl rfl rfl) ?_
        refine LOps.st rfl rfl rfl (LOp.move rfl rfl) ?_
        refine LOps.sk rfl rfl rfl rfl rfl rfl ?_
        refine LOps.sk rfl rfl rfl rfl rfl rfl ?_
        refine LOps.sk rfl rfl rfl rfl rfl rfl ?_
        refine LOps.sk rfl rfl rfl rfl rfl rfl ?_
        refine LOps.st rfl rfl rfl (LOp.pickT rfl rfl rfl) ?_
        refine LOps.nil ?_
        refine thn_n ?_
        obtain rfl := Option.some.inj hr
        exact Weak.of 3 ⟨rfl, rfl, rfl, rfl, rfl, rfl, rfl, trivial⟩ rfl rfl rfl rfl
      · -- g2 is False
        have hr := ite_f g2 hr
        refine LOps.gd rfl rfl rfl (gd g2 rfl) rfl (LOp.move rfl rfl) ?_
        refine LOps.gd rfl rfl rfl (gd g2 rfl) rfl (LOp.not rfl rfl) ?_
        refine LOps.st rfl rfl rfl (LOp.pickF rfl (gdl g2 rfl) rfl) ?_
        refine LOps.st rfl rfl rfl (LOp.move rfl rfl) ?_
        refine LOps.cases 37 rfl (fun (g3 : (!v3) = true) => ?_) (fun (g3 : (!v3) = false) => ?_)
        · -- g3 is True
          have hr := ite_t g3 hr
          refine LOps.sk rfl rfl rfl (gd g3 rfl) rfl rfl ?_
          refine LOps.sk rfl rfl rfl (gd g3 rfl) rfl rfl ?_
          refine LOps.sk rfl rfl rfl (gd g3 rfl) rfl rfl ?_
          refine LOps.sk rfl rfl rfl (gd g3 rfl) rfl rfl ?_
          refine LOps.st rfl rfl rfl (LOp.pickT rfl (gdl g3 rfl) rfl) ?_
          refine LOps.st rfl rfl rfl (LOp.move rfl rfl) ?_
          refine LOps.sk rfl rfl rfl rfl rfl rfl ?_
          refine LOps.sk rfl rfl rfl rfl rfl rfl ?_
          refine LOps.sk rfl rfl rfl rfl rfl rfl ?_
          refine LOps.sk rfl rfl rfl rfl rfl rfl ?_
          refine LOps.st rfl rfl rfl (LOp.pickT rfl rfl rfl) ?_
          refine LOps.nil ?_
          refine thn_n ?_
          obtain rfl := Option.some.inj hr
          exact Weak.of 3 ⟨rfl, rfl, rfl, rfl, rfl, rfl, rfl, trivial⟩ rfl rfl rfl rfl
        · -- g3 is False
          have hr := ite_f g3 hr
          refine LOps.gd rfl rfl rfl (gd g3 rfl) rfl (LOp.fieldAddr rfl rfl ft55_0) ?_
          refine LOps.gd rfl rfl rfl (gd g3 rfl) rfl (LOp.load rfl rfl rfl vt49 rfl rfl) ?_
          refine LOps.gd rfl rfl rfl (gd g3 rfl) rfl (LOp.lenM rfl rfl (by kernel_rfl)) ?_
          refine LOps.gd rfl rfl rfl (gd g3 rfl) rfl (LOp.bin rfl rfl rfl rfl) ?_
          refine LOps.st rfl rfl rfl (LOp.pickF rfl (gdl g3 rfl) rfl) ?_
          refine LOps.st rfl rfl rfl (LOp.move rfl rfl) ?_
          refine LOps.cases 43 rfl (fun (g4 : (decide ((c.W.length : Int) > 40)) = true) => ?_) (fun (g4 : (decide ((c.W.length : Int) > 40)) = false) => ?_)
          · -- g4 is True
            have hr := ite_t g4 hr
            refine LOps.sk rfl rfl rfl (gd g4 rfl) rfl rfl ?_
            refine LOps.sk rfl rfl rfl (gd g4 rfl) rfl rfl ?_
            refine LOps.sk rfl rfl rfl (gd g4 rfl) rfl rfl ?_
            refine LOps.sk rfl rfl rfl (gd g4 rfl) rfl rfl ?_
            refine LOps.st rfl rfl rfl (LOp.pickT rfl (gdl g4 rfl) rfl) ?_
            refine LOps.nil ?_
            refine thn_n ?_
            obtain rfl := Option.some.inj hr
            exact Weak.of 3 ⟨rfl, rfl, rfl, rfl, rfl, rfl, rfl, trivial⟩ rfl rfl rfl rfl
          · -- g4 is False
            have hr := ite_f g4 hr
            refine LOps.gd rfl rfl rfl (gd g4 rfl) rfl (LOp.load rfl rfl rfl vt55 rfl rfl) ?_
            refine LOps.gd rfl rfl rfl (gd g4 rfl) rfl (LOp.load rfl rfl rfl vt75 rfl rfl) ?_
            obtain ⟨v5, h_v5, hr⟩ := bind_get hr
            refine LOps.gd rfl rfl rfl (gd g4 rfl) rfl (LOp.call rfl rfl rfl (by kernel_rfl) (LC.pure (c89 h_v5) (.cons Conv.p (.cons Conv.p .nil)))) ?_
            refine LOps.gd rfl rfl rfl (gd g4 rfl) rfl (LOp.not rfl rfl) ?_
            refine LOps.st rfl rfl rfl (LOp.pickF rfl (gdl g4 rfl) rfl) ?_
            refine LOps.nil ?_
            refine thn_n ?_
            obtain rfl := Option.some.inj hr
            exact Weak.of 3 ⟨rfl, rfl, rfl, rfl, rfl, rfl, rfl, trivial⟩ rfl rfl rfl rfl
  · have hr := ho_v4
    clear hb_v4
    refine LW.cond rfl (fun (g5 : v4 = true) => ?_) (fun (g5 : v4 = false) => ?_)
    · -- g5 is True
      have hr := ite_t g5 hr
      refine LW.seq ?_
      refine LW.region ?_
      refine LOps.st rfl rfl rfl (LOp.move rfl rfl) ?_
      refine LOps.st rfl rfl rfl (LOp.assign rfl rfl) ?_
      refine LOps.nil ?_
      refine thn_n ?_
      refine LW.ret ?_
      refine thn_r ?_
      obtain rfl := Option.some.inj hr
      refine finP_ret (.one (.tmp rfl)) ?_
      exact Conv.p
    · -- g5 is False
      have hr := ite_f g5 hr
      refine LW.skip ?_
      refine thn_n ?_
      refine LW.seq ?_
      refine LW.region ?_
      refine LOps.st rfl rfl rfl (LOp.load rfl rfl rfl vt55 rfl rfl) ?_
      refine LOps.st rfl rfl rfl (LOp.load rfl rfl rfl vt75 rfl rfl) ?_
      refine LOps.st rfl rfl rfl (LOp.load rfl rfl rfl vt75 rfl rfl) ?_
      refine LOps.st rfl rfl rfl (LOp.move rfl rfl) ?_
      obtain ⟨v6, h_v6, hr⟩ := bind_get hr
      refine LOps.st rfl rfl rfl (LOp.call rfl rfl rfl (by kernel_rfl) (LC.pure (c90 h_v6) (.cons Conv.p (.cons Conv.p (.cons Conv.p (.cons Conv.p .nil)))))) ?_
      refine LOps.st rfl rfl rfl (LOp.move rfl rfl) ?_
      refine LOps.st rfl rfl rfl (LOp.extract rfl rfl rfl) ?_
      refine LOps.st rfl rfl rfl (LOp.extract rfl rfl rfl) ?_
      refine LOps.st rfl rfl rfl (LOp.extract rfl rfl rfl) ?_
      refine LOps.st rfl rfl rfl (LOp.alloc rfl zt75 rfl rfl) ?_
      refine LOps.st rfl rfl rfl (LOp.alloc rfl zt75 rfl rfl) ?_
      refine LOps.st rfl rfl rfl (LOp.store rfl rfl rfl rfl vt75 rfl rfl rfl rfl) ?_
      refine LOps.st rfl rfl rfl (LOp.store rfl rfl rfl rfl vt75 rfl rfl rfl rfl) ?_
      refine LOps.st rfl rfl rfl (LOp.assign rfl rfl) ?_
      refine LOps.nil ?_
      refine thn_n ?_
      refine LW.seq ?_
      obtain ⟨v7, hb_v7, ho_v7⟩ := bind_get hr
      clear hr
      refine LW.cut (E := [(3, .p (.int .i64 slot)), (4, .ptr 0 0), (5, .ptr 1 0), (6, .ptr 2 0), (8, .p (.bool false)), (12, .ptr 3 0), (13, .ptr 4 0), (14, .p (.bool v6.2.2)), (80, .p (.bool v7))]) (O := [.box [.p (.slice 1 (c.W.map i64P)), .p (.int .u64 c.Seed), .p (.int .i64 c.Epoch), .p (.int .i64 c.Num), .p (.int .i64 c.Den)], .box [.p (.slice 5 (w.B.map blkP)), .p (.slice 4 (w.V.map vtP))], .box [.p (.slice 5 (v_in.B.map blkP)), .p (.slice 4 (v_in.V.map vtP))], .box [.p (.slice 5 (v6.1.B.map blkP)), .p (.slice 4 (v6.1.V.map vtP))], .box [.p (.slice 5 (v6.2.1.B.map blkP)), .p (.slice 4 (v6.2.1.V.map vtP))]]) ?_ ?_
      · have hr := hb_v7
        refine LW.region ?_
        refine LOps.st rfl rfl rfl (LOp.load rfl rfl rfl vt55 rfl rfl) ?_
        refine LOps.st rfl rfl rfl (LOp.load rfl rfl rfl vt75 rfl rfl) ?_
        obtain ⟨v8, h_v8, hr⟩ := bind_get hr
        refine LOps.st rfl rfl rfl (LOp.call rfl rfl rfl (by kernel_rfl) (LC.pure (c89 h_v8) (.cons Conv.p (.cons Conv.p .nil)))) ?_
        refine LOps.st rfl rfl rfl (LOp.not rfl rfl) ?_
        refine LOps.st rfl rfl rfl (LOp.move rfl rfl) ?_
        refine LOps.cases 63 rfl (fun (g6 : (!v8) = true) => ?_) (fun (g6 : (!v8) = false) => ?_)
        · -- g6 is True
          have hr := ite_t g6 hr
          refine LOps.sk rfl rfl rfl (gd g6 rfl) rfl rfl ?_
          refine LOps.sk rfl rfl rfl (gd g6 rfl) rfl rfl ?_
          refine LOps.sk rfl rfl rfl (gd g6 rfl) rfl rfl ?_
          refine LOps.sk rfl rfl rfl (gd g6 rfl) rfl rfl ?_
          refine LOps.sk rfl rfl rfl (gd g6 rfl) rfl rfl ?_
          refine LOps.sk rfl rfl rfl (gd g6 rfl) rfl rfl ?_
          refine LOps.sk rfl rfl rfl (gd g6 rfl) rfl rfl ?_
          refine LOps.st rfl rfl rfl (LOp.pickT rfl (gdl g6 rfl) rfl) ?_
          refine LOps.st rfl rfl rfl (LOp.move rfl rfl) ?_
          refine LOps.sk rfl rfl rfl rfl rfl rfl ?_
          refine LOps.sk rfl rfl rfl rfl rfl rfl ?_
          refine LOps.sk rfl rfl rfl rfl rfl rfl ?_
          refine LOps.sk rfl rfl rfl rfl rfl rfl ?_
          refine LOps.sk rfl rfl rfl rfl rfl rfl ?_
          refine LOps.sk rfl rfl rfl rfl rfl rfl ?_
          refine LOps.sk rfl rfl rfl rfl rfl rfl ?_
          refine LOps.st rfl rfl rfl (LOp.pickT rfl rfl rfl) ?_
          refine LOps.nil ?_
          refine thn_n ?_
          obtain rfl := Option.some.inj hr
          exact Weak.of 5 ⟨rfl, rfl, rfl, rfl, rfl, rfl, rfl, rfl, rfl, trivial⟩ rfl rfl rfl rfl
        · -- g6 is False
          have hr := ite_f g6 hr
          refine LOps.gd rfl rfl rfl (gd g6 rfl) rfl (LOp.fieldAddr rfl rfl ft75_0) ?_
          refine LOps.gd rfl rfl rfl (gd g6 rfl) rfl (LOp.load rfl rfl rfl vt27 rfl rfl) ?_
          refine LOps.gd rfl rfl rfl (gd g6 rfl) rfl (LOp.lenM rfl rfl (by kernel_rfl)) ?_
          refine LOps.gd rfl rfl rfl (gd g6 rfl) rfl (LOp.fieldAddr rfl rfl ft75_0) ?_
          refine LOps.gd rfl rfl rfl (gd g6 rfl) rfl (LOp.load rfl rfl rfl vt27 rfl rfl) ?_
          refine LOps.gd rfl rfl rfl (gd g6 rfl) rfl (LOp.lenM rfl rfl (by kernel_rfl)) ?_
          refine LOps.gd rfl rfl rfl (gd g6 rfl) rfl (LOp.bin rfl rfl rfl rfl) ?_
          refine LOps.st rfl rfl rfl (LOp.pickF rfl (gdl g6 rfl) rfl) ?_
          refine LOps.st rfl rfl rfl (LOp.move rfl rfl) ?_
          refine LOps.cases 72 rfl (fun (g7 : (decide ((v6.1.B.length : Int) < (w.B.length : Int))) = true) => ?_) (fun (g7 : (decide ((v6.1.B.length : Int) < (w.B.length : Int))) = false) => ?_)
          · -- g7 is True
            have hr := ite_t g7 hr
            refine LOps.sk rfl rfl rfl (gd g7 rfl) rfl rfl ?_
            refine LOps.sk rfl rfl rfl (gd g7 rfl) rfl rfl ?_
            refine LOps.sk rfl rfl rfl (gd g7 rfl) rfl rfl ?_
            refine LOps.sk rfl rfl rfl (gd g7 rfl) rfl rfl ?_
            refine LOps.sk rfl rfl rfl (gd g7 rfl) rfl rfl ?_
            refine LOps.sk rfl rfl rfl (gd g7 rfl) rfl rfl ?_
            refine LOps.sk rfl rfl rfl (gd g7 rfl) rfl rfl ?_
            refine LOps.st rfl rfl rfl (LOp.pickT rfl (gdl g7 rfl) rfl) ?_
            refine LOps.nil ?_
            refine thn_n ?_
            obtain rfl := Option.some.inj hr
            exact Weak.of 5 ⟨rfl, rfl, rfl, rfl, rfl, rfl, rfl, rfl, rfl, trivial⟩ rfl rfl rfl rfl
          · -- g7 is False
            have hr := ite_f g7 hr
            refine LOps.gd rfl rfl rfl (gd g7 rfl) rfl (LOp.fieldAddr rfl rfl ft75_1) ?_
            refine LOps.gd rfl rfl rfl (gd g7 rfl) rfl (LOp.load rfl rfl rfl vt68 rfl rfl) ?_
            refine LOps.gd rfl rfl rfl (gd g7 rfl) rfl (LOp.lenM rfl rfl (by kernel_rfl)) ?_
            refine LOps.gd rfl rfl rfl (gd g7 rfl) rfl (LOp.fieldAddr rfl rfl ft75_1) ?_
            refine LOps.gd rfl rfl rfl (gd g7 rfl) rfl (LOp.load rfl rfl rfl vt68 rfl rfl) ?_
            refine LOps.gd rfl rfl rfl (gd g7 rfl) rfl (LOp.lenM rfl rfl (by kernel_rfl)) ?_
            refine LOps.gd rfl rfl rfl (gd g7 rfl) rfl (LOp.bin rfl rfl rfl rfl) ?_
            refine LOps.st rfl rfl rfl (LOp.pickF rfl (gdl g7 rfl) rfl) ?_
            refine LOps.nil ?_
            refine thn_n ?_
            obtain rfl := Option.some.inj hr
            exact Weak.of 5 ⟨rfl, rfl, rfl, rfl, rfl, rfl, rfl, rfl, rfl, trivial⟩ rfl rfl rfl rfl
      · have hr := ho_v7
        clear hb_v7
        refine LW.cond rfl (fun (g8 : v7 = true) => ?_) (fun (g8 : v7 = false) => ?_)
        · -- g8 is True
          have hr := ite_t g8 hr
          refine LW.seq ?_
          refine LW.region ?_
          refine LOps.st rfl rfl rfl (LOp.assign rfl rfl) ?_
          refine LOps.nil ?_
          refine thn_n ?_
          refine LW.ret ?_
          refine thn_r ?_
          obtain rfl := Option.some.inj hr
          refine finP_ret (.one (.tmp rfl)) ?_
          exact Conv.p
        · -- g8 is False
          have hr := ite_f g8 hr
          refine LW.skip ?_
          refine thn_n ?_
          refine LW.seq ?_
          refine LW.draw (by kernel_rfl) (by kernel_rfl) ?_
          refine LO.st rfl rfl rfl (LOp.fieldAddr rfl rfl ft75_0) ?_
          refine LO.st rfl rfl rfl (LOp.load rfl rfl rfl vt27 rfl rfl) ?_
          refine LO.st rfl rfl rfl (LOp.fieldAddr rfl rfl ft75_0) ?_
          refine LO.st rfl rfl rfl (LOp.load rfl rfl rfl vt27 rfl rfl) ?_
          refine LO.st rfl rfl rfl (LOp.lenM rfl rfl (by kernel_rfl)) ?_
          obtain ⟨q1, hr⟩ := grd_get hr
          refine LO.st rfl rfl rfl (LOp.sliceHi rfl rfl rfl st27 q1) ?_
          refine LO.st rfl rfl rfl (LOp.fieldAddr rfl rfl ft75_1) ?_
          refine LO.st rfl rfl rfl (LOp.load rfl rfl rfl vt68 rfl rfl) ?_
          refine LO.st rfl rfl rfl (LOp.fieldAddr rfl rfl ft75_1) ?_
          refine LO.st rfl rfl rfl (LOp.load rfl rfl rfl vt68 rfl rfl) ?_
          refine LO.st rfl rfl rfl (LOp.lenM rfl rfl (by kernel_rfl)) ?_
          obtain ⟨q2, hr⟩ := grd_get hr
          refine LO.st rfl rfl rfl (LOp.sliceHi rfl rfl rfl st68 q2) ?_
          refine LO.st rfl rfl rfl (LOp.build rfl bt75 rfl rfl rfl) ?_
          refine LO.st rfl rfl rfl (LOp.load rfl rfl rfl vt75 rfl rfl) ?_
          obtain ⟨v9, h_v9, hr⟩ := bind_get hr
          refine LO.st rfl rfl rfl (LOp.call rfl rfl rfl (by kernel_rfl) (LC.pure (c86 h_v9) (.cons Conv.p (.cons Conv.p .nil)))) ?_
          refine LO.st rfl rfl rfl (LOp.assign rfl rfl) ?_
          refine LO.nil ?_
          refine thn_n ?_
          refine LW.seq ?_
          refine LW.region ?_
          refine LOps.st rfl rfl rfl (LOp.load rfl rfl rfl vt55 rfl rfl) ?_
          refine LOps.st rfl rfl rfl (LOp.load rfl rfl rfl vt75 rfl rfl) ?_
          refine LOps.st rfl rfl rfl (LOp.load rfl rfl rfl vt75 rfl rfl) ?_
          refine LOps.st rfl rfl rfl (LOp.move rfl rfl) ?_
          obtain ⟨v10, h_v10, hr⟩ := bind_get hr
          refine LOps.st rfl rfl rfl (LOp.call rfl rfl rfl (by kernel_rfl) (LC.pure (c90 h_v10) (.cons Conv.p (.cons Conv.p (.cons Conv.p (.cons Conv.p .nil)))))) ?_
          refine LOps.st rfl rfl rfl (LOp.move rfl rfl) ?_
          refine LOps.st rfl rfl rfl (LOp.extract rfl rfl rfl) ?_
          refine LOps.st rfl rfl rfl (LOp.extract rfl rfl rfl) ?_
          refine LOps.st rfl rfl rfl (LOp.extract rfl rfl rfl) ?_
          refine LOps.st rfl rfl rfl (LOp.alloc rfl zt75 rfl rfl) ?_
          refine LOps.st rfl rfl rfl (LOp.alloc rfl zt75 rfl rfl) ?_
          refine LOps.st rfl rfl rfl (LOp.store rfl rfl rfl rfl vt75 rfl rfl rfl rfl) ?_
          refine LOps.st rfl rfl rfl (LOp.store rfl rfl rfl rfl vt75 rfl rfl rfl rfl) ?_
          refine LOps.st rfl rfl rfl (LOp.assign rfl rfl) ?_
          refine LOps.nil ?_
          refine thn_n ?_
          refine LW.seq ?_
          refine LW.region ?_
          refine LOps.st rfl rfl rfl (LOp.load rfl rfl rfl vt75 rfl rfl) ?_
          refine LOps.st rfl rfl rfl (LOp.load rfl rfl rfl vt75 rfl rfl) ?_
          obtain ⟨v11, h_v11, hr⟩ := bind_get hr
          refine LOps.st rfl rfl rfl (LOp.call rfl rfl rfl (by kernel_rfl) (LC.pure (c86 h_v11) (.cons Conv.p (.cons Conv.p .nil)))) ?_
          refine LOps.st rfl rfl rfl (LOp.assign rfl rfl) ?_
          refine LOps.nil ?_
          refine thn_n ?_
          refine LW.seq ?_
          refine LW.region ?_
          refine LOps.st rfl rfl rfl (LOp.load rfl rfl rfl vt75 rfl rfl) ?_
          refine LOps.st rfl rfl rfl (LOp.load rfl rfl rfl vt75 rfl rfl) ?_
          obtain ⟨v12, h_v12, hr⟩ := bind_get hr
          refine LOps.st rfl rfl rfl (LOp.call rfl rfl rfl (by kernel_rfl) (LC.pure (c86 h_v12) (.cons Conv.p (.cons Conv.p .nil)))) ?_
          refine LOps.st rfl rfl rfl (LOp.assign rfl rfl) ?_
          refine LOps.nil ?_
          refine thn_n ?_
          refine LW.seq ?_
          refine LW.region ?_
          refine LOps.st rfl rfl rfl (LOp.load rfl rfl rfl vt75 rfl rfl) ?_
          refine LOps.st rfl rfl rfl (LOp.load rfl rfl rfl vt75 rfl rfl) ?_
          obtain ⟨v13, h_v13, hr⟩ := bind_get hr
          refine LOps.st rfl rfl rfl (LOp.call rfl rfl rfl (by kernel_rfl) (LC.pure (c91 h_v13) (.cons Conv.p (.cons Conv.p .nil)))) ?_
          refine LOps.st rfl rfl rfl (LOp.alloc rfl zt75 rfl rfl) ?_
          refine LOps.st rfl rfl rfl (LOp.store rfl rfl rfl rfl vt75 rfl rfl rfl rfl) ?_
          refine LOps.nil ?_
          refine thn_n ?_
          refine LW.seq ?_
          refine LW.draw (by kernel_rfl) (by kernel_rfl) ?_
          refine LO.st rfl rfl rfl (LOp.move rfl rfl) ?_
          refine LO.st rfl rfl rfl (LOp.move rfl rfl) ?_
          refine LO.cases 115 rfl (fun (g9 : v9 = true) => ?_) (fun (g9 : v9 = false) => ?_)
          · -- g9 is True
            have hr := ite_t g9 hr
            refine LO.gd rfl rfl rfl (gd g9 rfl) rfl (LOp.move rfl rfl) ?_
            refine LO.gd rfl rfl rfl (gd g9 rfl) rfl (LOp.move rfl rfl) ?_
            refine LO.cases 117 rfl (fun (g10 : v6.2.2 = true) => ?_) (fun (g10 : v6.2.2 = false) => ?_)
            · -- g10 is True
              have hr := ite_t g10 hr
              refine LO.sk rfl rfl rfl (gd g10 rfl) rfl rfl ?_
              refine LO.gd rfl rfl rfl (gd g9 rfl) rfl (LOp.pickT rfl (gdl g10 rfl) rfl) ?_
              refine LO.gd rfl rfl rfl (gd g9 rfl) rfl (LOp.move rfl rfl) ?_
              refine LO.sk rfl rfl rfl rfl rfl rfl ?_
              refine LO.sk rfl rfl rfl rfl rfl rfl ?_
              refine LO.sku rfl rfl rfl rfl rfl ?_
              refine LO.sk rfl rfl rfl rfl rfl rfl ?_
              refine LO.gd rfl rfl rfl (gd g9 rfl) rfl (LOp.pickT rfl rfl rfl) ?_
              refine LO.st rfl rfl rfl (LOp.pickT rfl (gdl g9 rfl) rfl) ?_
              refine LO.st rfl rfl rfl (LOp.move rfl rfl) ?_
              refine LO.gd rfl rfl rfl rfl rfl (LOp.move rfl rfl) ?_
              refine LO.gd rfl rfl rfl rfl rfl (LOp.move rfl rfl) ?_
              refine LO.sk rfl rfl rfl (gd g10 rfl) rfl rfl ?_
              refine LO.sk rfl rfl rfl (gd g10 rfl) rfl rfl ?_
              refine LO.sk rfl rfl rfl (gd g10 rfl) rfl rfl ?_
              refine LO.sk rfl rfl rfl (gd g10 rfl) rfl rfl ?_
              refine LO.sk rfl rfl rfl (gd g10 rfl) rfl rfl ?_
              refine LO.sk rfl rfl rfl (gd g10 rfl) rfl rfl ?_
              refine LO.sk rfl rfl rfl (gd g10 rfl) rfl rfl ?_
              refine LO.gd rfl rfl rfl rfl rfl (LOp.pickT rfl (gdl g10 rfl) rfl) ?_
              refine LO.gd rfl rfl rfl rfl rfl (LOp.move rfl rfl) ?_
              refine LO.sk rfl rfl rfl rfl rfl rfl ?_
              refine LO.sk rfl rfl rfl rfl rfl rfl ?_
              refine LO.sk rfl rfl rfl rfl rfl rfl ?_
              refine LO.sk rfl rfl rfl rfl rfl rfl ?_
              refine LO.sk rfl rfl rfl rfl rfl rfl ?_
              refine LO.sk rfl rfl rfl rfl rfl rfl ?_
              refine LO.sk rfl rfl rfl rfl rfl rfl ?_
              refine LO.sk rfl rfl rfl rfl rfl rfl ?_
              refine LO.sk rfl rfl rfl rfl rfl rfl ?_
              refine LO.gd rfl rfl rfl rfl rfl (LOp.pickT rfl rfl rfl) ?_
              refine LO.st rfl rfl rfl (LOp.pickT rfl rfl rfl) ?_
              refine LO.st rfl rfl rfl (LOp.assign rfl rfl) ?_
              refine LO.nil ?_
              refine thn_n ?_
              refine LW.ret ?_
              obtain rfl := Option.some.inj hr
              refine finP_ret (.one (.tmp rfl)) ?_
              exact Conv.p
            · -- g10 is False
              have hr := ite_f g10 hr
              refine LO.gd rfl rfl rfl (gd g10 rfl) rfl (LOp.move rfl rfl) ?_
              refine LO.gd rfl rfl rfl (gd g9 rfl) rfl (LOp.pickF rfl (gdl g10 rfl) rfl) ?_
              refine LO.gd rfl rfl rfl (gd g9 rfl) rfl (LOp.move rfl rfl) ?_
              refine LO.cases 120 rfl (fun (g11 : v10.2.2 = true) => ?_) (fun (g11 : v10.2.2 = false) => ?_)
              · -- g11 is True
                have hr := ite_t g11 hr
                refine LO.sk rfl rfl rfl (gd g11 rfl) rfl rfl ?_
                refine LO.sk rfl rfl rfl (gd g11 rfl) rfl rfl ?_
                refine LO.sku rfl rfl rfl rfl rfl ?_
                refine LO.sk rfl rfl rfl (gd g11 rfl) rfl rfl ?_
                refine LO.gd rfl rfl rfl (gd g9 rfl) rfl (LOp.pickT rfl (gdl g11 rfl) rfl) ?_
                refine LO.st rfl rfl rfl (LOp.pickT rfl (gdl g9 rfl) rfl) ?_
                refine LO.st rfl rfl rfl (LOp.move rfl rfl) ?_
                refine LO.gd rfl rfl rfl rfl rfl (LOp.move rfl rfl) ?_
                refine LO.gd rfl rfl rfl rfl rfl (LOp.move rfl rfl) ?_
                refine LO.gd rfl rfl rfl (gd g10 rfl) rfl (LOp.fieldAddr rfl rfl ft75_0) ?_
                refine LO.gd rfl rfl rfl (gd g10 rfl) rfl (LOp.load rfl rfl rfl vt27 rfl rfl) ?_
                refine LO.gd rfl rfl rfl (gd g10 rfl) rfl (LOp.lenM rfl rfl (by kernel_rfl)) ?_
                refine LO.gd rfl rfl rfl (gd g10 rfl) rfl (LOp.fieldAddr rfl rfl ft75_0) ?_
                refine LO.gd rfl rfl rfl (gd g10 rfl) rfl (LOp.load rfl rfl rfl vt27 rfl rfl) ?_
                refine LO.gd rfl rfl rfl (gd g10 rfl) rfl (LOp.lenM rfl rfl (by kernel_rfl)) ?_
                refine LO.gd rfl rfl rfl (gd g10 rfl) rfl (LOp.bin rfl rfl rfl rfl) ?_
                refine LO.gd rfl rfl rfl rfl rfl (LOp.pickF rfl (gdl g10 rfl) rfl) ?_
                refine LO.gd rfl rfl rfl rfl rfl (LOp.move rfl rfl) ?_
                refine LO.cases 138 rfl (fun (g12 : ((v13.B.length : Int) == (v_in.B.length : Int)) = true) => ?_) (fun (g12 : ((v13.B.length : Int) == (v_in.B.length : Int)) = false) => ?_)
                · -- g12 is True
                  have hr := ite_t g12 hr
                  refine LO.sk rfl rfl rfl (gd g12 rfl) rfl rfl ?_
                  refine LO.sk rfl rfl rfl (gd g12 rfl) rfl rfl ?_
                  refine LO.sk rfl rfl rfl (gd g12 rfl) rfl rfl ?_
                  refine LO.sk rfl rfl rfl (gd g12 rfl) rfl rfl ?_
                  refine LO.sk rfl rfl rfl (gd g12 rfl) rfl rfl ?_
                  refine LO.sk rfl rfl rfl (gd g12 rfl) rfl rfl ?_
                  refine LO.sk rfl rfl rfl (gd g12 rfl) rfl rfl ?_
                  refine LO.sk rfl rfl rfl (gd g12 rfl) rfl rfl ?_
                  refine LO.sk rfl rfl rfl (gd g12 rfl) rfl rfl ?_
                  refine LO.gd rfl rfl rfl rfl rfl (LOp.pickT rfl (gdl g12 rfl) rfl) ?_
                  refine LO.st rfl rfl rfl (LOp.pickT rfl rfl rfl) ?_
                  refine LO.st rfl rfl rfl (LOp.assign rfl rfl) ?_
                  refine LO.nil ?_
                  refine thn_n ?_
                  refine LW.ret ?_
                  obtain rfl := Option.some.inj hr
                  refine finP_ret (.one (.tmp rfl)) ?_
                  exact Conv.p
                · -- g12 is False
                  have hr := ite_f g12 hr
                  refine LO.gd rfl rfl rfl (gd g12 rfl) rfl (LOp.load rfl rfl rfl vt75 rfl rfl) ?_
                  refine LO.gd rfl rfl rfl (gd g12 rfl) rfl (LOp.load rfl rfl rfl vt75 rfl rfl) ?_
                  obtain ⟨v14, h_v14, hr⟩ := bind_get hr
                  refine LO.gd rfl rfl rfl (gd g12 rfl) rfl (LOp.call rfl rfl rfl (by kernel_rfl) (LC.pure (c91 h_v14) (.cons Conv.p (.cons Conv.p .nil)))) ?_
                  refine LO.gd rfl rfl rfl (gd g12 rfl) rfl (LOp.field rfl rfl rfl ft75_0 rfl rfl) ?_
                  refine LO.gd rfl rfl rfl (gd g12 rfl) rfl (LOp.lenM rfl rfl (by kernel_rfl)) ?_
                  refine LO.gd rfl rfl rfl (gd g12 rfl) rfl (LOp.fieldAddr rfl rfl ft75_0) ?_
                  refine LO.gd rfl rfl rfl (gd g12 rfl) rfl (LOp.load rfl rfl rfl vt27 rfl rfl) ?_
                  refine LO.gd rfl rfl rfl (gd g12 rfl) rfl (LOp.lenM rfl rfl (by kernel_rfl)) ?_
                  refine LO.gd rfl rfl rfl (gd g12 rfl) rfl (LOp.bin rfl rfl rfl rfl) ?_
                  refine LO.gd rfl rfl rfl rfl rfl (LOp.pickF rfl (gdl g12 rfl) rfl) ?_
                  refine LO.st rfl rfl rfl (LOp.pickT rfl rfl rfl) ?_
                  refine LO.st rfl rfl rfl (LOp.assign rfl rfl) ?_
                  refine LO.nil ?_
                  refine thn_n ?_
                  refine LW.ret ?_
                  obtain rfl := Option.some.inj hr
                  refine finP_ret (.one (.tmp rfl)) ?_
                  exact Conv.p
              · -- g11 is False
                have hr := ite_f g11 hr
                refine LO.gd rfl rfl rfl (gd g11 rfl) rfl (LOp.move rfl rfl) ?_
                refine LO.gd rfl rfl rfl (gd g11 rfl) rfl (LOp.move rfl rfl) ?_
                refine LO.cases 122 rfl (fun (g13 : v11 = true) => ?_) (fun (g13 : v11 = false) => ?_)
                · -- g13 is True
                  have hr := ite_t g13 hr
                  refine LO.gd rfl rfl rfl (gd g13 rfl) rfl (LOp.move rfl rfl) ?_
                  refine LO.gd rfl rfl rfl (gd g11 rfl) rfl (LOp.pickT rfl (gdl g13 rfl) rfl) ?_
                  refine LO.gd rfl rfl rfl (gd g9 rfl) rfl (LOp.pickF rfl (gdl g11 rfl) rfl) ?_
                  refine LO.st rfl rfl rfl (LOp.pickT rfl (gdl g9 rfl) rfl) ?_
                  refine LO.st rfl rfl rfl (LOp.move rfl rfl) ?_
                  refine LO.cases 127 rfl (fun (g14 : v12 = true) => ?_) (fun (g14 : v12 = false) => ?_)
                  · -- g14 is True
                    have hr := ite_t g14 hr
                    refine LO.gd rfl rfl rfl (gd g14 rfl) rfl (LOp.move rfl rfl) ?_
                    refine LO.gd rfl rfl rfl (gd g14 rfl) rfl (LOp.move rfl rfl) ?_
                    refine LO.gd rfl rfl rfl (gd g10 rfl) rfl (LOp.fieldAddr rfl rfl ft75_0) ?_
                    refine LO.gd rfl rfl rfl (gd g10 rfl) rfl (LOp.load rfl rfl rfl vt27 rfl rfl) ?_
                    refine LO.gd rfl rfl rfl (gd g10 rfl) rfl (LOp.lenM rfl rfl (by kernel_rfl)) ?_
                    refine LO.gd rfl rfl rfl (gd g10 rfl) rfl (LOp.fieldAddr rfl rfl ft75_0) ?_
                    refine LO.gd rfl rfl rfl (gd g10 rfl) rfl (LOp.load rfl rfl rfl vt27 rfl rfl) ?_
                    refine LO.gd rfl rfl rfl (gd g10 rfl) rfl (LOp.lenM rfl rfl (by kernel_rfl)) ?_
                    refine LO.gd rfl rfl rfl (gd g10 rfl) rfl (LOp.bin rfl rfl rfl rfl) ?_
                    refine LO.gd rfl rfl rfl (gd g14 rfl) rfl (LOp.pickF rfl (gdl g10 rfl) rfl) ?_
                    refine LO.gd rfl rfl rfl (gd g14 rfl) rfl (LOp.move rfl rfl) ?_
                    refine LO.cases 138 rfl (fun (g15 : ((v13.B.length : Int) == (v_in.B.length : Int)) = true) => ?_) (fun (g15 : ((v13.B.length : Int) == (v_in.B.length : Int)) = false) => ?_)
                    · -- g15 is True
                      have hr := ite_t g15 hr
                      refine LO.sk rfl rfl rfl (gd g15 rfl) rfl rfl ?_
                      refine LO.sk rfl rfl rfl (gd g15 rfl) rfl rfl ?_
                      refine LO.sk rfl rfl rfl (gd g15 rfl) rfl rfl ?_
                      refine LO.sk rfl rfl rfl (gd g15 rfl) rfl rfl ?_
                      refine LO.sk rfl rfl rfl (gd g15 rfl) rfl rfl ?_
                      refine LO.sk rfl rfl rfl (gd g15 rfl) rfl rfl ?_
                      refine LO.sk rfl rfl rfl (gd g15 rfl) rfl rfl ?_
                      refine LO.sk rfl rfl rfl (gd g15 rfl) rfl rfl ?_
                      refine LO.sk rfl rfl rfl (gd g15 rfl) rfl rfl ?_
                      refine LO.gd rfl rfl rfl (gd g14 rfl) rfl (LOp.pickT rfl (gdl g15 rfl) rfl) ?_
                      refine LO.st rfl rfl rfl (LOp.pickT rfl (gdl g14 rfl) rfl) ?_
                      refine LO.st rfl rfl rfl (LOp.assign rfl rfl) ?_
                      refine LO.nil ?_
                      refine thn_n ?_
                      refine LW.ret ?_
                      obtain rfl := Option.some.inj hr
                      refine finP_ret (.one (.tmp rfl)) ?_
                      exact Conv.p
                    · -- g15 is False
                      have hr := ite_f g15 hr
                      refine LO.gd rfl rfl rfl (gd g15 rfl) rfl (LOp.load rfl rfl rfl vt75 rfl rfl) ?_
                      refine LO.gd rfl rfl rfl (gd g15 rfl) rfl (LOp.load rfl rfl rfl vt75 rfl rfl) ?_
                      obtain ⟨v15, h_v15, hr⟩ := bind_get hr
                      refine LO.gd rfl rfl rfl (gd g15 rfl) rfl (LOp.call rfl rfl rfl (by kernel_rfl) (LC.pure (c91 h_v15) (.cons Conv.p (.cons Conv.p .nil)))) ?_
                      refine LO.gd rfl rfl rfl (gd g15 rfl) rfl (LOp.field rfl rfl rfl ft75_0 rfl rfl) ?_
                      refine LO.gd rfl rfl rfl (gd g15 rfl) rfl (LOp.lenM rfl rfl (by kernel_rfl)) ?_
                      refine LO.gd rfl rfl rfl (gd g15 rfl) rfl (LOp.fieldAddr rfl rfl ft75_0) ?_
                      refine LO.gd rfl rfl rfl (gd g15 rfl) rfl (LOp.load rfl rfl rfl vt27 rfl rfl) ?_
                      refine LO.gd rfl rfl rfl (gd g15 rfl) rfl (LOp.lenM rfl rfl (by kernel_rfl)) ?_
                      refine LO.gd rfl rfl rfl (gd g15 rfl) rfl (LOp.bin rfl rfl rfl rfl) ?_
                      refine LO.gd rfl rfl rfl (gd g14 rfl) rfl (LOp.pickF rfl (gdl g15 rfl) rfl) ?_
                      refine LO.st rfl rfl rfl (LOp.pickT rfl (gdl g14 rfl) rfl) ?_
                      refine LO.st rfl rfl rfl (LOp.assign rfl rfl) ?_
                      refine LO.nil ?_
                      refine thn_n ?_
                      refine LW.ret ?_
                      obtain rfl := Option.some.inj hr
                      refine finP_ret (.one (.tmp rfl)) ?_
                      exact Conv.p
                  · -- g14 is False
                    have hr := ite_f g14 hr
                    refine LO.sk rfl rfl rfl (gd g14 rfl) rfl rfl ?_
                    refine LO.sk rfl rfl rfl (gd g14 rfl) rfl rfl ?_
                    refine LO.sku rfl rfl rfl rfl rfl ?_
                    refine LO.sku rfl rfl rfl rfl rfl ?_
                    refine LO.sku rfl rfl rfl rfl rfl ?_
                    refine LO.sku rfl rfl rfl rfl rfl ?_
                    refine LO.sku rfl rfl rfl rfl rfl ?_
                    refine LO.sku rfl rfl rfl rfl rfl ?_
                    refine LO.sku rfl rfl rfl rfl rfl ?_
                    refine LO.sk rfl rfl rfl (gd g14 rfl) rfl rfl ?_
                    refine LO.sk rfl rfl rfl (gd g14 rfl) rfl rfl ?_
                    refine LO.sku rfl rfl rfl rfl rfl ?_
                    refine LO.sku rfl rfl rfl rfl rfl ?_
                    refine LO.sku rfl rfl rfl rfl rfl ?_
                    refine LO.sku rfl rfl rfl rfl rfl ?_
                    refine LO.sku rfl rfl rfl rfl rfl ?_
                    refine LO.sku rfl rfl rfl rfl rfl ?_
                    refine LO.sku rfl rfl rfl rfl rfl ?_
                    refine LO.sku rfl rfl rfl rfl rfl ?_
                    refine LO.sku rfl rfl rfl rfl rfl ?_
                    refine LO.sk rfl rfl rfl (gd g14 rfl) rfl rfl ?_
                    refine LO.st rfl rfl rfl (LOp.pickF rfl (gdl g14 rfl) rfl) ?_
                    refine LO.st rfl rfl rfl (LOp.assign rfl rfl) ?_
                    refine LO.nil ?_
                    refine thn_n ?_
                    refine LW.ret ?_
                    obtain rfl := Option.some.inj hr
                    refine finP_ret (.one (.tmp rfl)) ?_
                    exact Conv.p
                · -- g13 is False
                  have hr := ite_f g13 hr
                  refine LO.sk rfl rfl rfl (gd g13 rfl) rfl rfl ?_
                  refine LO.gd rfl rfl rfl (gd g11 rfl) rfl (LOp.pickF rfl (gdl g13 rfl) rfl) ?_
                  refine LO.gd rfl rfl rfl (gd g9 rfl) rfl (LOp.pickF rfl (gdl g11 rfl) rfl) ?_
                  refine LO.st rfl rfl rfl (LOp.pickT rfl (gdl g9 rfl) rfl) ?_
                  refine LO.st rfl rfl rfl (LOp.move rfl rfl) ?_
                  refine LO.sk rfl rfl rfl rfl rfl rfl ?_
                  refine LO.sk rfl rfl rfl rfl rfl rfl ?_
                  refine LO.sku rfl rfl rfl rfl rfl ?_
                  refine LO.sku rfl rfl rfl rfl rfl ?_
                  refine LO.sku rfl rfl rfl rfl rfl ?_
                  refine LO.sku rfl rfl rfl rfl rfl ?_
                  refine LO.sku rfl rfl rfl rfl rfl ?_
                  refine LO.sku rfl rfl rfl rfl rfl ?_
                  refine LO.sku rfl rfl rfl rfl rfl ?_
                  refine LO.sk rfl rfl rfl rfl rfl rfl ?_
                  refine LO.sk rfl rfl rfl rfl rfl rfl ?_
                  refine LO.sku rfl rfl rfl rfl rfl ?_
                  refine LO.sku rfl rfl rfl rfl rfl ?_
                  refine LO.sku rfl rfl rfl rfl rfl ?_
                  refine LO.sku rfl rfl rfl rfl rfl ?_
                  refine LO.sku rfl rfl rfl rfl rfl ?_
                  refine LO.sku rfl rfl rfl rfl rfl ?_
                  refine LO.sku rfl rfl rfl rfl rfl ?_
                  refine LO.sku rfl rfl rfl rfl rfl ?_
                  refine LO.sku rfl rfl rfl rfl rfl ?_
                  refine LO.sk rfl rfl rfl rfl rfl rfl ?_
                  refine LO.st rfl rfl rfl (LOp.pickF rfl rfl rfl) ?_
                  refine LO.st rfl rfl rfl (LOp.assign rfl rfl) ?_
                  refine LO.nil ?_
                  refine thn_n ?_
                  refine LW.ret ?_
                  obtain rfl := Option.some.inj hr
                  refine finP_ret (.one (.tmp rfl)) ?_
                  exact Conv.p
          · -- g9 is False
            have hr := ite_f g9 hr
            refine LO.sk rfl rfl rfl (gd g9 rfl) rfl rfl ?_
            refine LO.sk rfl rfl rfl (gd g9 rfl) rfl rfl ?_
            refine LO.sku rfl rfl rfl rfl rfl ?_
            refine LO.sk rfl rfl rfl (gd g9 rfl) rfl rfl ?_
            refine LO.sk rfl rfl rfl (gd g9 rfl) rfl rfl ?_
            refine LO.sku rfl rfl rfl rfl rfl ?_
            refine LO.sku rfl rfl rfl rfl rfl ?_
            refine LO.sku rfl rfl rfl rfl rfl ?_
            refine LO.sku rfl rfl rfl rfl rfl ?_
            refine LO.sk rfl rfl rfl (gd g9 rfl) rfl rfl ?_
            refine LO.st rfl rfl rfl (LOp.pickF rfl (gdl g9 rfl) rfl) ?_
            refine LO.st rfl rfl rfl (LOp.move rfl rfl) ?_
            refine LO.sk rfl rfl rfl rfl rfl rfl ?_
            refine LO.sk rfl rfl rfl rfl rfl rfl ?_
            refine LO.sku rfl rfl rfl rfl rfl ?_
            refine LO.sku rfl rfl rfl rfl rfl ?_
            refine LO.sku rfl rfl rfl rfl rfl ?_
            refine LO.sku rfl rfl rfl rfl rfl ?_
            refine LO.sku rfl rfl rfl rfl rfl ?_
            refine LO.sku rfl rfl rfl rfl rfl ?_
            refine LO.sku rfl rfl rfl rfl rfl ?_
            refine LO.sk rfl rfl rfl rfl rfl rfl ?_
            refine LO.sk rfl rfl rfl rfl rfl rfl ?_
            refine LO.sku rfl rfl rfl rfl rfl ?_
            refine LO.sku rfl rfl rfl rfl rfl ?_
            refine LO.sku rfl rfl rfl rfl rfl ?_
            refine LO.sku rfl rfl rfl rfl rfl ?_
            refine LO.sku rfl rfl rfl rfl rfl ?_
            refine LO.sku rfl rfl rfl rfl rfl ?_
            refine LO.sku rfl rfl rfl rfl rfl ?_
            refine LO.sku rfl rfl rfl rfl rfl ?_
            refine LO.sku rfl rfl rfl rfl rfl ?_
            refine LO.sk rfl rfl rfl rfl rfl rfl ?_
            refine LO.st rfl rfl rfl (LOp.pickF rfl rfl rfl) ?_
            refine LO.st rfl rfl rfl (LOp.assign rfl rfl) ?_
            refine LO.nil ?_
            refine thn_n ?_
            refine LW.ret ?_
            obtain rfl := Option.some.inj hr
            refine finP_ret (.one (.tmp rfl)) ?_
            exact Conv.p
open Classical in
theorem only_sub {c : Cf} {w x : Vw} (h1 : x.B.Sublist (onlyP c w).B) (h2 : x.V.Sublist (onlyP c w).V) : onlyP c x = x := by
  unfold onlyP
  rw [List.filter_eq_self.2 fun b hb => (List.mem_filter.1 (h1.subset hb)).2, List.filter_eq_self.2 fun b hb => (List.mem_filter.1 (h2.subset hb)).2]
theorem takeN_still {upto : Int} {s : GvS} (h : roundT upto s = s) (n : Nat) : takeN upto (n + 1) s = s := by
  unfold takeN
  rw [h, if_pos rfl]
theorem stillX_self {α : Type} {g w : List α → α → Bool} {B l : List α} (h : ∀ b ∈ l, g B b = false ∧ w B b = true) : stillX g w B false l = (l, B, false) := by
  unfold stillX
  rw [List.filter_eq_self.2 fun b hb => by rw [(h b hb).1]; rfl, List.any_eq_false.2 fun b hb => by rw [(h b hb).1, (h b hb).2]; simp]
  rfl
theorem roundT_still {upto : Int} {B lB : List Bk} {V lV : List Vt} (hB : ∀ b ∈ lB, goneB B b = false ∧ waitB B upto b = true) (hV : ∀ v ∈ lV, goneV B V v = false ∧ waitV B upto v = true) : roundT upto ⟨B, V, false, lB, lV⟩ = ⟨B, V, false, lB, lV⟩ := by
  have e1 : passB upto B false lB = (lB, B, false) := (still_of (g := goneB) (w := fun B b => waitB B upto b) (cap := 60) (fun b hb _ h => by rw [(hB b hb).2] at h; cases h)).trans (stillX_self hB)
  have e2 : passV upto B V false lV = (lV, V, false) := (still_of (g := goneV B) (w := fun _ v => waitV B upto v) (cap := 240) (fun b hb _ h => by rw [(hV b hb).2] at h; cases h)).trans (stillX_self hV)
  unfold roundT
  simp only [e1, e2]
theorem take_again {c : Cf} {w inp : Vw} {upto : Int} {r : Vw × Vw × Bool} (h : Took c w inp upto r) (hf : r.2.2 = false) : takeP c r.1 r.2.1 upto = (r.1, r.2.1, false) := by
  unfold takeP
  rw [if_pos h.may, only_sub h.subB h.subV]
  have e : takeT upto ⟨r.1.B, r.1.V, false, r.2.1.B, r.2.1.V⟩ = ⟨r.1.B, r.1.V, false, r.2.1.B, r.2.1.V⟩ :=
    takeN_still (roundT_still (fun b hb => ⟨(h.endB b hb).1, (h.endB b hb).2.resolve_right fun h2 => by rw [hf] at h2; cases h2.2⟩) (fun b hb => ⟨(h.endV b hb).1, (h.endV b hb).2.resolve_right fun h2 => by rw [hf] at h2; cases h2.2⟩)) 999
  rw [e]
theorem took_len {c : Cf} {w inp : Vw} {upto : Int} {r : Vw × Vw × Bool} (h : Took c w inp upto r) : w.B.length ≤ r.1.B.length ∧ w.V.length ≤ r.1.V.length ∧ r.2.1.B.length ≤ inp.B.length ∧ r.2.1.V.length ≤ inp.V.length := by
  obtain ⟨t, ht, -⟩ := h.preB
  obtain ⟨u, hu, -⟩ := h.preV
  exact ⟨by rw [ht]; simp, by rw [hu]; simp, (h.subB.trans List.filter_sublist).length_le, (h.subV.trans List.filter_sublist).length_le⟩
theorem took_take {c : Cf} {w inp : Vw} {upto : Int} {r : Vw × Vw × Bool} (h : Took c w inp upto r) : r.1.B.take w.B.length = w.B ∧ r.1.V.take w.V.length = w.V := by
  obtain ⟨t, ht, -⟩ := h.preB
  obtain ⟨u, hu, -⟩ := h.preV
  rw [ht, hu]
  exact ⟨List.take_left' rfl, List.take_left' rfl⟩
open Classical in
theorem viKeeps (c : Cf) (w i : Vw) (slot : Int) : F31 c w i slot = some true := by
  unfold F31
  rw [F83_eq, ob, F84_eq, ob, F84_eq, ob, Bool.not_true, cf]
  by_cases hf : (w.B.length : Int) ≤ 40 ∧ (w.V.length : Int) ≤ 40
  · rw [decide_eq_true hf, Bool.not_true, cf]
    by_cases hi : (i.B.length : Int) ≤ 40 ∧ (i.V.length : Int) ≤ 40
    · rw [decide_eq_true hi, Bool.not_true, cf]
      by_cases h0 : (c.W.length : Int) > 40
      · rw [decide_eq_true h0, ct, ob, ct]
      · rw [decide_eq_false h0, cf, F89_eq (by omega) (by omega), ob, ob]
        by_cases hm : MayW c w
        · rw [decide_eq_true hm, Bool.not_true, cf, F90_eq (by omega) (by omega) (by omega) (by omega), ob]
          have ht := took hm i slot
          generalize takeP c w i slot = r at ht ⊢
          have hl := took_len ht
          have hk := took_take ht
          have hj : joinP i r.2.1 = i := by
            unfold joinP
            rw [withP_sub fun x hx => (List.mem_filter.1 (ht.subB.subset hx)).1, withP_sub fun x hx => (List.mem_filter.1 (ht.subV.subset hx)).1]
          have h60 := ht.may.lenB
          have h240 := ht.may.lenV
          have ht2 := took ht.may r.2.1 slot
          have hag := take_again ht
          rw [F89_eq (by omega) (by omega), ob, decide_eq_true ht.may, Bool.not_true, cf, decide_eq_false (show ¬ (r.1.B.length : Int) < (w.B.length : Int) by omega), cf, ob, decide_eq_false (show ¬ (r.1.V.length : Int) < (w.V.length : Int) by omega), cf,
            inL_len hl.1, ct, inL_len hl.2.1, ct, Int.toNat_natCast, Int.toNat_natCast, hk.1, hk.2, F86_eq (by simp only; omega) (by simp only; omega), ob, F90_eq (by omega) (by omega) (by omega) (by omega), ob, F86_eq (by omega) (by omega), ob, F86_eq (by omega) (by omega), ob,
            F91_eq (by omega) (by omega), ob, hj, decide_eq_true ⟨rfl, rfl⟩, ct]
          cases hfu : r.2.2 with
          | true => rw [ct]
          | false =>
            rw [cf, hag hfu]
            simp
        · rw [decide_eq_false hm, Bool.not_false, ct]
    · rw [decide_eq_false hi, Bool.not_false, ct, ob, ct]
  · rw [decide_eq_false hf, Bool.not_false, ct, ob, ct]
end Go.Mg
