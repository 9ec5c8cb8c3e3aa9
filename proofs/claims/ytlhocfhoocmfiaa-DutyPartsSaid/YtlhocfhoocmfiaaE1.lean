/- Laws of duties. Laws of duties. Laws of duties. Laws of duties: DutyAll. Laws of duties: DutyParts. Laws of duties: DutyWeighs. Laws of duties: DutyOnce. Laws of duties: DutyOnce. Conditions: none. -/
import Derived.Test.YtlhocfhoocmfiaaD1
import Derived.Test.YtlhocfhoocmfiaaD2
namespace Go.Mg
open Go.Proofs
def F26 (c : Cf) (slot : Int) (who : Int) : Option Bool :=
  (F62 ).bind fun v1 =>
  (
    bif !v1 then
      some true
    else
      some (decide ((c.W.length : Int) > 40))
  ).bind fun v2 =>
  bif v2 then
    some v1
  else
    (F64 c).bind fun v3 =>
    bif !v3 then
      (
        (F65 c slot).bind fun v5 =>
        bif (v5.length : Int) == 0 then
          (F72 c).bind fun v6 =>
          bif v6 == 0 then
            (F70 c [0, 1]).bind fun v7 =>
            bif v7 == 0 then
              (F74 c slot who).bind fun v8 =>
              some (!v8)
            else
              some false
          else
            some false
        else
          some false
      ).bind fun v4 =>
      some v4
    else
      (
        bif decide (slot < 1) then
          some true
        else
          bif decide (slot > 1048576) then
            some true
          else
            some (c.Epoch != 1)
      ).bind fun v9 =>
      bif v9 then
        some true
      else
        (F65 c slot).bind fun v10 =>
        bif (v10.length : Int) == (c.W.length : Int) then
          (F74 c slot who).bind fun v11 =>
          bif decide (who ≥ 0) then
            some (v11 == (decide (who < (c.W.length : Int))))
          else
            some (v11 == false)
        else
          some false
set_option maxRecDepth 100000 in
theorem c26 {c : Cf} {slot : Int} {who : Int} {r_ : Bool} (hr : F26 c slot who = some r_) : LPure Try.prog 26 [cfP c, .int .i64 slot, .int .i64 who] [.bool r_] := by
  refine LPure.start Try.func26 rfl rfl rfl rfl ?_
  unfold F26 at hr
  refine LW.seq ?_
  refine LW.region ?_
  refine LOps.st rfl rfl rfl (LOp.box rfl rfl rfl rfl rfl) ?_
  refine LOps.st rfl rfl rfl (LOp.assign rfl rfl) ?_
  refine LOps.nil ?_
  refine thn_n ?_
  refine LW.seq ?_
  refine LW.region ?_
  obtain ⟨v1, h_v1, hr⟩ := bind_get hr
  refine LOps.st rfl rfl rfl (LOp.call rfl rfl rfl (by kernel_rfl) (LC.pure (c62 h_v1) .nil)) ?_
  refine LOps.st rfl rfl rfl (LOp.assign rfl rfl) ?_
  refine LOps.nil ?_
  refine thn_n ?_
  refine LW.seq ?_
  obtain ⟨v2, hb_v2, ho_v2⟩ := bind_get hr
  clear hr
  refine LW.cut (E := [(1, .p (.int .i64 slot)), (2, .p (.int .i64 who)), (3, .ptr 0 0), (6, .p (.bool false)), (7, .p (.bool v1)), (16, .p (.bool v2))]) (O := [.box [.p (.slice 1 (c.W.map i64P)), .p (.int .u64 c.Seed), .p (.int .i64 c.Epoch), .p (.int .i64 c.Num), .p (.int .i64 c.Den)]]) ?_ ?_
  · have hr := hb_v2
    refine LW.region ?_
    refine LOps.st rfl rfl rfl (LOp.move rfl rfl) ?_
    refine LOps.st rfl rfl rfl (LOp.not rfl rfl) ?_
    refine LOps.st rfl rfl rfl (LOp.move rfl rfl) ?_
    refine LOps.cases 11 rfl (fun (g1 : (!v1) = true) => ?_) (fun (g1 : (!v1) = false) => ?_)
    · -- g1 is True
      have hr := ite_t g1 hr
      refine LOps.sk rfl rfl rfl (gd g1 rfl) rfl rfl ?_
      refine LOps.sk rfl rfl rfl (gd g1 rfl) rfl rfl ?_
      refine LOps.sk rfl rfl rfl (gd g1 rfl) rfl rfl ?_
      refine LOps.sk rfl rfl rfl (gd g1 rfl) rfl rfl ?_
      refine LOps.st rfl rfl rfl (LOp.pickT rfl (gdl g1 rfl) rfl) ?_
      refine LOps.nil ?_
      refine thn_n ?_
      obtain rfl := Option.some.inj hr
      exact Weak.of 1 ⟨rfl, rfl, rfl, rfl, rfl, rfl, trivial⟩ rfl rfl rfl rfl
    · -- g1 is False
      have hr := ite_f g1 hr
      refine LOps.gd rfl rfl rfl (gd g1 rfl) rfl (LOp.fieldAddr rfl rfl ft55_0) ?_
      refine LOps.gd rfl rfl rfl (gd g1 rfl) rfl (LOp.load rfl rfl rfl vt49 rfl rfl) ?_
      refine LOps.gd rfl rfl rfl (gd g1 rfl) rfl (LOp.lenM rfl rfl (by kernel_rfl)) ?_
      refine LOps.gd rfl rfl rfl (gd g1 rfl) rfl (LOp.bin rfl rfl rfl rfl) ?_
      refine LOps.st rfl rfl rfl (LOp.pickF rfl (gdl g1 rfl) rfl) ?_
      refine LOps.nil ?_
      refine thn_n ?_
      obtain rfl := Option.some.inj hr
      exact Weak.of 1 ⟨rfl, rfl, rfl, rfl, rfl, rfl, trivial⟩ rfl rfl rfl rfl
  · have hr := ho_v2
    clear hb_v2
    refine LW.cond rfl (fun (g2 : v2 = true) => ?_) (fun (g2 : v2 = false) => ?_)
    · -- g2 is True
      have hr := ite_t g2 hr
      refine LW.seq ?_
      refine LW.region ?_
      refine LOps.st rfl rfl rfl (LOp.move rfl rfl) ?_
      refine LOps.st rfl rfl rfl (LOp.assign rfl rfl) ?_
      refine LOps.nil ?_
      refine thn_n ?_
      refine LW.ret ?_
      refine thn_r ?_
      obtain rfl := Option.some.inj hr
      refine finP_ret (.one (.tmp rfl)) ?_
      exact Conv.p
    · -- g2 is False
      have hr := ite_f g2 hr
      refine LW.skip ?_
      refine thn_n ?_
      refine LW.seq ?_
      refine LW.seq ?_
      refine LW.region ?_
      refine LOps.st rfl rfl rfl (LOp.load rfl rfl rfl vt55 rfl rfl) ?_
      obtain ⟨v3, h_v3, hr⟩ := bind_get hr
      refine LOps.st rfl rfl rfl (LOp.call rfl rfl rfl (by kernel_rfl) (LC.pure (c64 h_v3) (.cons Conv.p .nil))) ?_
      refine LOps.st rfl rfl rfl (LOp.not rfl rfl) ?_
      refine LOps.nil ?_
      refine thn_n ?_
      refine LW.cond rfl (fun (g3 : (!v3) = true) => ?_) (fun (g3 : (!v3) = false) => ?_)
      · -- g3 is True
        have hr := ite_t g3 hr
        obtain ⟨v4, hb_v4, ho_v4⟩ := bind_get hr
        clear hr
        refine LW.cut (E := [(1, .p (.int .i64 slot)), (2, .p (.int .i64 who)), (3, .ptr 0 0), (6, .p (.bool v4))]) (O := [.box [.p (.slice 1 (c.W.map i64P)), .p (.int .u64 c.Seed), .p (.int .i64 c.Epoch), .p (.int .i64 c.Num), .p (.int .i64 c.Den)]]) ?_ ?_
        · have hr := hb_v4
          refine LW.region ?_
          refine LOps.st rfl rfl rfl (LOp.load rfl rfl rfl vt55 rfl rfl) ?_
          refine LOps.st rfl rfl rfl (LOp.move rfl rfl) ?_
          obtain ⟨v5, h_v5, hr⟩ := bind_get hr
          refine LOps.st rfl rfl rfl (LOp.call rfl rfl rfl (by kernel_rfl) (LC.pure (c65 h_v5) (.cons Conv.p (.cons Conv.p .nil)))) ?_
          refine LOps.st rfl rfl rfl (LOp.lenM rfl rfl (by kernel_rfl)) ?_
          refine LOps.st rfl rfl rfl (LOp.bin rfl rfl rfl rfl) ?_
          refine LOps.st rfl rfl rfl (LOp.move rfl rfl) ?_
          refine LOps.cases 26 rfl (fun (g4 : ((v5.length : Int) == 0) = true) => ?_) (fun (g4 : ((v5.length : Int) == 0) = false) => ?_)
          · -- g4 is True
            have hr := ite_t g4 hr
            refine LOps.gd rfl rfl rfl (gd g4 rfl) rfl (LOp.load rfl rfl rfl vt55 rfl rfl) ?_
            obtain ⟨v6, h_v6, hr⟩ := bind_get hr
            refine LOps.gd rfl rfl rfl (gd g4 rfl) rfl (LOp.call rfl rfl rfl (by kernel_rfl) (LC.pure (c72 h_v6) (.cons Conv.p .nil))) ?_
            refine LOps.gd rfl rfl rfl (gd g4 rfl) rfl (LOp.bin rfl rfl rfl rfl) ?_
            refine LOps.st rfl rfl rfl (LOp.pickT rfl (gdl g4 rfl) rfl) ?_
            refine LOps.st rfl rfl rfl (LOp.move rfl rfl) ?_
            refine LOps.cases 31 rfl (fun (g5 : (v6 == 0) = true) => ?_) (fun (g5 : (v6 == 0) = false) => ?_)
            · -- g5 is True
              have hr := ite_t g5 hr
              refine LOps.gd rfl rfl rfl (gd g5 rfl) rfl (LOp.load rfl rfl rfl vt55 rfl rfl) ?_
              refine LOps.gd rfl rfl rfl (gd g5 rfl) rfl (LOp.buildSlice rfl st49 rfl rfl rfl rfl rfl) ?_
              obtain ⟨v7, h_v7, hr⟩ := bind_get hr
              refine LOps.gd rfl rfl rfl (gd g5 rfl) rfl (LOp.call rfl rfl rfl (by kernel_rfl) (LC.pure (c70 h_v7) (.cons Conv.p (.cons Conv.p .nil)))) ?_
              refine LOps.gd rfl rfl rfl (gd g5 rfl) rfl (LOp.bin rfl rfl rfl rfl) ?_
              refine LOps.st rfl rfl rfl (LOp.pickT rfl (gdl g5 rfl) rfl) ?_
              refine LOps.st rfl rfl rfl (LOp.move rfl rfl) ?_
              refine LOps.cases 37 rfl (fun (g6 : (v7 == 0) = true) => ?_) (fun (g6 : (v7 == 0) = false) => ?_)
              · -- g6 is True
                have hr := ite_t g6 hr
                refine LOps.gd rfl rfl rfl (gd g6 rfl) rfl (LOp.load rfl rfl rfl vt55 rfl rfl) ?_
                refine LOps.gd rfl rfl rfl (gd g6 rfl) rfl (LOp.move rfl rfl) ?_
                refine LOps.gd rfl rfl rfl (gd g6 rfl) rfl (LOp.move rfl rfl) ?_
                obtain ⟨v8, h_v8, hr⟩ := bind_get hr
                refine LOps.gd rfl rfl rfl (gd g6 rfl) rfl (LOp.call rfl rfl rfl (by kernel_rfl) (LC.pure (c74 h_v8) (.cons Conv.p (.cons Conv.p (.cons Conv.p .nil))))) ?_
                refine LOps.gd rfl rfl rfl (gd g6 rfl) rfl (LOp.not rfl rfl) ?_
                refine LOps.st rfl rfl rfl (LOp.pickT rfl (gdl g6 rfl) rfl) ?_
                refine LOps.st rfl rfl rfl (LOp.assign rfl rfl) ?_
                refine LOps.nil ?_
                refine thn_n ?_
                obtain rfl := Option.some.inj hr
                exact Weak.of 1 ⟨rfl, rfl, rfl, rfl, trivial⟩ rfl rfl rfl rfl
              · -- g6 is False
                have hr := ite_f g6 hr
                refine LOps.sk rfl rfl rfl (gd g6 rfl) rfl rfl ?_
                refine LOps.sk rfl rfl rfl (gd g6 rfl) rfl rfl ?_
                refine LOps.sk rfl rfl rfl (gd g6 rfl) rfl rfl ?_
                refine LOps.sk rfl rfl rfl (gd g6 rfl) rfl rfl ?_
                refine LOps.sk rfl rfl rfl (gd g6 rfl) rfl rfl ?_
                refine LOps.st rfl rfl rfl (LOp.pickF rfl (gdl g6 rfl) rfl) ?_
                refine LOps.st rfl rfl rfl (LOp.assign rfl rfl) ?_
                refine LOps.nil ?_
                refine thn_n ?_
                obtain rfl := Option.some.inj hr
                exact Weak.of 1 ⟨rfl, rfl, rfl, rfl, trivial⟩ rfl rfl rfl rfl
            · -- g5 is False
              have hr := ite_f g5 hr
              refine LOps.sk rfl rfl rfl (gd g5 rfl) rfl rfl ?_
              refine LOps.sk rfl rfl rfl (gd g5 rfl) rfl rfl ?_
              refine LOps.sk rfl rfl rfl (gd g5 rfl) rfl rfl ?_
              refine LOps.sk rfl rfl rfl (gd g5 rfl) rfl rfl ?_
              refine LOps.st rfl rfl rfl (LOp.pickF rfl (gdl g5 rfl) rfl) ?_
              refine LOps.st rfl rfl rfl (LOp.move rfl rfl) ?_
              refine LOps.sk rfl rfl rfl rfl rfl rfl ?_
              refine LOps.sk rfl rfl rfl rfl rfl rfl ?_
              refine LOps.sk rfl rfl rfl rfl rfl rfl ?_
              refine LOps.sk rfl rfl rfl rfl rfl rfl ?_
              refine LOps.sk rfl rfl rfl rfl rfl rfl ?_
              refine LOps.st rfl rfl rfl (LOp.pickF rfl rfl rfl) ?_
              refine LOps.st rfl rfl rfl (LOp.assign rfl rfl) ?_
              refine LOps.nil ?_
              refine thn_n ?_
              obtain rfl := Option.some.inj hr
              exact Weak.of 1 ⟨rfl, rfl, rfl, rfl, trivial⟩ rfl rfl rfl rfl
          · -- g4 is False
            have hr := ite_f g4 hr
            refine LOps.sk rfl rfl rfl (gd g4 rfl) rfl rfl ?_
            refine LOps.sk rfl rfl rfl (gd g4 rfl) rfl rfl ?_
            refine LOps.sk rfl rfl rfl (gd g4 rfl) rfl rfl ?_
            refine LOps.st rfl rfl rfl (LOp.pickF rfl (gdl g4 rfl) rfl) ?_
            refine LOps.st rfl rfl rfl (LOp.move rfl rfl) ?_
            refine LOps.sk rfl rfl rfl rfl rfl rfl ?_
            refine LOps.sk rfl rfl rfl rfl rfl rfl ?_
            refine LOps.sk rfl rfl rfl rfl rfl rfl ?_
            refine LOps.sk rfl rfl rfl rfl rfl rfl ?_
            refine LOps.st rfl rfl rfl (LOp.pickF rfl rfl rfl) ?_
            refine LOps.st rfl rfl rfl (LOp.move rfl rfl) ?_
            refine LOps.sk rfl rfl rfl rfl rfl rfl ?_
            refine LOps.sk rfl rfl rfl rfl rfl rfl ?_
            refine LOps.sk rfl rfl rfl rfl rfl rfl ?_
            refine LOps.sk rfl rfl rfl rfl rfl rfl ?_
            refine LOps.sk rfl rfl rfl rfl rfl rfl ?_
            refine LOps.st rfl rfl rfl (LOp.pickF rfl rfl rfl) ?_
            refine LOps.st rfl rfl rfl (LOp.assign rfl rfl) ?_
            refine LOps.nil ?_
            refine thn_n ?_
            obtain rfl := Option.some.inj hr
            exact Weak.of 1 ⟨rfl, rfl, rfl, rfl, trivial⟩ rfl rfl rfl rfl
        · have hr := ho_v4
          clear hb_v4
          refine LW.ret ?_
          refine thn_r ?_
          obtain rfl := Option.some.inj hr
          refine finP_ret (.one (.tmp rfl)) ?_
          exact Conv.p
      · -- g3 is False
        have hr := ite_f g3 hr
        refine LW.skip ?_
        refine thn_n ?_
        refine LW.seq ?_
        obtain ⟨v9, hb_v9, ho_v9⟩ := bind_get hr
        clear hr
        refine LW.cut (E := [(1, .p (.int .i64 slot)), (2, .p (.int .i64 who)), (3, .ptr 0 0), (6, .p (.bool false)), (54, .p (.bool v9))]) (O := [.box [.p (.slice 1 (c.W.map i64P)), .p (.int .u64 c.Seed), .p (.int .i64 c.Epoch), .p (.int .i64 c.Num), .p (.int .i64 c.Den)]]) ?_ ?_
        · have hr := hb_v9
          refine LW.region ?_
          refine LOps.st rfl rfl rfl (LOp.move rfl rfl) ?_
          refine LOps.st rfl rfl rfl (LOp.bin rfl rfl rfl rfl) ?_
          refine LOps.st rfl rfl rfl (LOp.move rfl rfl) ?_
          refine LOps.cases 46 rfl (fun (g7 : (decide (slot < 1)) = true) => ?_) (fun (g7 : (decide (slot < 1)) = false) => ?_)
          · -- g7 is True
            have hr := ite_t g7 hr
            refine LOps.sk rfl rfl rfl (gd g7 rfl) rfl rfl ?_
            refine LOps.sk rfl rfl rfl (gd g7 rfl) rfl rfl ?_
            refine LOps.st rfl rfl rfl (LOp.pickT rfl (gdl g7 rfl) rfl) ?_
            refine LOps.st rfl rfl rfl (LOp.move rfl rfl) ?_
            refine LOps.sk rfl rfl rfl rfl rfl rfl ?_
            refine LOps.sk rfl rfl rfl rfl rfl rfl ?_
            refine LOps.sk rfl rfl rfl rfl rfl rfl ?_
            refine LOps.st rfl rfl rfl (LOp.pickT rfl rfl rfl) ?_
            refine LOps.nil ?_
            refine thn_n ?_
            obtain rfl := Option.some.inj hr
            exact Weak.of 1 ⟨rfl, rfl, rfl, rfl, rfl, trivial⟩ rfl rfl rfl rfl
          · -- g7 is False
            have hr := ite_f g7 hr
            refine LOps.gd rfl rfl rfl (gd g7 rfl) rfl (LOp.move rfl rfl) ?_
            refine LOps.gd rfl rfl rfl (gd g7 rfl) rfl (LOp.bin rfl rfl rfl rfl) ?_
            refine LOps.st rfl rfl rfl (LOp.pickF rfl (gdl g7 rfl) rfl) ?_
            refine LOps.st rfl rfl rfl (LOp.move rfl rfl) ?_
            refine LOps.cases 50 rfl (fun (g8 : (decide (slot > 1048576)) = true) => ?_) (fun (g8 : (decide (slot > 1048576)) = false) => ?_)
            · -- g8 is True
              have hr := ite_t g8 hr
              refine LOps.sk rfl rfl rfl (gd g8 rfl) rfl rfl ?_
              refine LOps.sk rfl rfl rfl (gd g8 rfl) rfl rfl ?_
              refine LOps.sk rfl rfl rfl (gd g8 rfl) rfl rfl ?_
              refine LOps.st rfl rfl rfl (LOp.pickT rfl (gdl g8 rfl) rfl) ?_
              refine LOps.nil ?_
              refine thn_n ?_
              obtain rfl := Option.some.inj hr
              exact Weak.of 1 ⟨rfl, rfl, rfl, rfl, rfl, trivial⟩ rfl rfl rfl rfl
            · -- g8 is False
              have hr := ite_f g8 hr
              refine LOps.gd rfl rfl rfl (gd g8 rfl) rfl (LOp.fieldAddr rfl rfl ft55_2) ?_
              refine LOps.gd rfl rfl rfl (gd g8 rfl) rfl (LOp.load rfl rfl rfl vt3 rfl rfl) ?_
              refine LOps.gd rfl rfl rfl (gd g8 rfl) rfl (LOp.bin rfl rfl rfl rfl) ?_
              refine LOps.st rfl rfl rfl (LOp.pickF rfl (gdl g8 rfl) rfl) ?_
              refine LOps.nil ?_
              refine thn_n ?_
              obtain rfl := Option.some.inj hr
              exact Weak.of 1 ⟨rfl, rfl, rfl, rfl, rfl, trivial⟩ rfl rfl rfl rfl
        · have hr := ho_v9
          clear hb_v9
          refine LW.cond rfl (fun (g9 : v9 = true) => ?_) (fun (g9 : v9 = false) => ?_)
          · -- g9 is True
            have hr := ite_t g9 hr
            refine LW.seq ?_
            refine LW.region ?_
            refine LOps.st rfl rfl rfl (LOp.assign rfl rfl) ?_
            refine LOps.nil ?_
            refine thn_n ?_
            refine LW.ret ?_
            refine thn_r ?_
            obtain rfl := Option.some.inj hr
            refine finP_ret (.one (.tmp rfl)) ?_
            exact Conv.p
          · -- g9 is False
            have hr := ite_f g9 hr
            refine LW.skip ?_
            refine thn_n ?_
            refine LW.seq ?_
            refine LW.draw (by kernel_rfl) (by kernel_rfl) ?_
            refine LO.st rfl rfl rfl (LOp.load rfl rfl rfl vt55 rfl rfl) ?_
            refine LO.st rfl rfl rfl (LOp.move rfl rfl) ?_
            obtain ⟨v10, h_v10, hr⟩ := bind_get hr
            refine LO.st rfl rfl rfl (LOp.call rfl rfl rfl (by kernel_rfl) (LC.pure (c65 h_v10) (.cons Conv.p (.cons Conv.p .nil)))) ?_
            refine LO.st rfl rfl rfl (LOp.lenM rfl rfl (by kernel_rfl)) ?_
            refine LO.st rfl rfl rfl (LOp.fieldAddr rfl rfl ft55_0) ?_
            refine LO.st rfl rfl rfl (LOp.load rfl rfl rfl vt49 rfl rfl) ?_
            refine LO.st rfl rfl rfl (LOp.lenM rfl rfl (by kernel_rfl)) ?_
            refine LO.st rfl rfl rfl (LOp.bin rfl rfl rfl rfl) ?_
            refine LO.st rfl rfl rfl (LOp.move rfl rfl) ?_
            refine LO.cases 63 rfl (fun (g10 : ((v10.length : Int) == (c.W.length : Int)) = true) => ?_) (fun (g10 : ((v10.length : Int) == (c.W.length : Int)) = false) => ?_)
            · -- g10 is True
              have hr := ite_t g10 hr
              refine LO.gd rfl rfl rfl (gd g10 rfl) rfl (LOp.load rfl rfl rfl vt55 rfl rfl) ?_
              refine LO.gd rfl rfl rfl (gd g10 rfl) rfl (LOp.move rfl rfl) ?_
              refine LO.gd rfl rfl rfl (gd g10 rfl) rfl (LOp.move rfl rfl) ?_
              obtain ⟨v11, h_v11, hr⟩ := bind_get hr
              refine LO.gd rfl rfl rfl (gd g10 rfl) rfl (LOp.call rfl rfl rfl (by kernel_rfl) (LC.pure (c74 h_v11) (.cons Conv.p (.cons Conv.p (.cons Conv.p .nil))))) ?_
              refine LO.gd rfl rfl rfl (gd g10 rfl) rfl (LOp.move rfl rfl) ?_
              refine LO.gd rfl rfl rfl (gd g10 rfl) rfl (LOp.bin rfl rfl rfl rfl) ?_
              refine LO.gd rfl rfl rfl (gd g10 rfl) rfl (LOp.move rfl rfl) ?_
              refine LO.cases 70 rfl (fun (g11 : (decide (who ≥ 0)) = true) => ?_) (fun (g11 : (decide (who ≥ 0)) = false) => ?_)
              · -- g11 is True
                have hr := ite_t g11 hr
                refine LO.gd rfl rfl rfl (gd g11 rfl) rfl (LOp.move rfl rfl) ?_
                refine LO.gd rfl rfl rfl (gd g11 rfl) rfl (LOp.fieldAddr rfl rfl ft55_0) ?_
                refine LO.gd rfl rfl rfl (gd g11 rfl) rfl (LOp.load rfl rfl rfl vt49 rfl rfl) ?_
                refine LO.gd rfl rfl rfl (gd g11 rfl) rfl (LOp.lenM rfl rfl (by kernel_rfl)) ?_
                refine LO.gd rfl rfl rfl (gd g11 rfl) rfl (LOp.bin rfl rfl rfl rfl) ?_
                refine LO.gd rfl rfl rfl (gd g10 rfl) rfl (LOp.pickT rfl (gdl g11 rfl) rfl) ?_
                refine LO.gd rfl rfl rfl (gd g10 rfl) rfl (LOp.eqlBool rfl rfl rfl Try.underlying4) ?_
                refine LO.st rfl rfl rfl (LOp.pickT rfl (gdl g10 rfl) rfl) ?_
                refine LO.st rfl rfl rfl (LOp.assign rfl rfl) ?_
                refine LO.nil ?_
                refine thn_n ?_
                refine LW.ret ?_
                obtain rfl := Option.some.inj hr
                refine finP_ret (.one (.tmp rfl)) ?_
                exact Conv.p
              · -- g11 is False
                have hr := ite_f g11 hr
                refine LO.sk rfl rfl rfl (gd g11 rfl) rfl rfl ?_
                refine LO.sk rfl rfl rfl (gd g11 rfl) rfl rfl ?_
                refine LO.sk rfl rfl rfl (gd g11 rfl) rfl rfl ?_
                refine LO.sk rfl rfl rfl (gd g11 rfl) rfl rfl ?_
                refine LO.sk rfl rfl rfl (gd g11 rfl) rfl rfl ?_
                refine LO.gd rfl rfl rfl (gd g10 rfl) rfl (LOp.pickF rfl (gdl g11 rfl) rfl) ?_
                refine LO.gd rfl rfl rfl (gd g10 rfl) rfl (LOp.eqlBool rfl rfl rfl Try.underlying4) ?_
                refine LO.st rfl rfl rfl (LOp.pickT rfl (gdl g10 rfl) rfl) ?_
                refine LO.st rfl rfl rfl (LOp.assign rfl rfl) ?_
                refine LO.nil ?_
                refine thn_n ?_
                refine LW.ret ?_
                obtain rfl := Option.some.inj hr
                refine finP_ret (.one (.tmp rfl)) ?_
                exact Conv.p
            · -- g10 is False
              have hr := ite_f g10 hr
              refine LO.sk rfl rfl rfl (gd g10 rfl) rfl rfl ?_
              refine LO.sk rfl rfl rfl (gd g10 rfl) rfl rfl ?_
              refine LO.sk rfl rfl rfl (gd g10 rfl) rfl rfl ?_
              refine LO.sk rfl rfl rfl (gd g10 rfl) rfl rfl ?_
              refine LO.sk rfl rfl rfl (gd g10 rfl) rfl rfl ?_
              refine LO.sk rfl rfl rfl (gd g10 rfl) rfl rfl ?_
              refine LO.sk rfl rfl rfl (gd g10 rfl) rfl rfl ?_
              refine LO.sku rfl rfl rfl rfl rfl ?_
              refine LO.sku rfl rfl rfl rfl rfl ?_
              refine LO.sku rfl rfl rfl rfl rfl ?_
              refine LO.sku rfl rfl rfl rfl rfl ?_
              refine LO.sku rfl rfl rfl rfl rfl ?_
              refine LO.sk rfl rfl rfl (gd g10 rfl) rfl rfl ?_
              refine LO.sk rfl rfl rfl (gd g10 rfl) rfl rfl ?_
              refine LO.st rfl rfl rfl (LOp.pickF rfl (gdl g10 rfl) rfl) ?_
              refine LO.st rfl rfl rfl (LOp.assign rfl rfl) ?_
              refine LO.nil ?_
              refine thn_n ?_
              refine LW.ret ?_
              obtain rfl := Option.some.inj hr
              refine finP_ret (.one (.tmp rfl)) ?_
              exact Conv.p
structure F27_L1 where
  both : Bool
  i : Int
structure F27_L2 where
  both : Bool
  k : Int
def F27_s2 (a : List Int) (b : List Int) (x1 : F27_L1) (x2 : F27_L2) : Option (F27_L2 ⊕ F27_L2) :=
  bif decide (x2.k < (b.length : Int)) then
    bif x2.both then
      some (.inl (F27_L2.mk true (IntKind.i64.wrap (x2.k + 1))))
    else
      (ix a x1.i).bind fun y1 =>
      (ix b x2.k).bind fun y2 =>
      some (.inl (F27_L2.mk (y1 == y2) (IntKind.i64.wrap (x2.k + 1))))
  else
    some (.inr (F27_L2.mk x2.both x2.k))
def F27_s1 (a : List Int) (b : List Int) (x1 : F27_L1) : Option (F27_L1 ⊕ F27_L1) :=
  bif decide (x1.i < (a.length : Int)) then
    (iter (F27_s2 a b x1) big (F27_L2.mk x1.both 0)).bind fun v4 =>
    some (.inl (F27_L1.mk v4.both (IntKind.i64.wrap (x1.i + 1))))
  else
    some (.inr (F27_L1.mk x1.both x1.i))
def F27 (c : Cf) (a : List Int) (b : List Int) : Option Bool :=
  (F62 ).bind fun v1 =>
  (
    bif !v1 then
      some true
    else
      bif decide ((c.W.length : Int) > 40) then
        some true
      else
        bif decide ((a.length : Int) > 20) then
          some true
        else
          some (decide ((b.length : Int) > 20))
  ).bind fun v2 =>
  bif v2 then
    some v1
  else
    (iter (F27_s1 a b) big (F27_L1.mk false 0)).bind fun v3 =>
    bif room 0 a.length 8 then
      bif room a.length b.length 8 then
        (F70 c (a ++ b)).bind fun v5 =>
        (F70 c a).bind fun v6 =>
        (F70 c b).bind fun v7 =>
        bif decide (v5 ≤ (IntKind.i64.wrap (v6 + v7))) then
          bif v3.both then
            (F70 c [(-1), (c.W.length : Int), 1099511627776]).bind fun v8 =>
            some (v8 == 0)
          else
            bif v5 == (IntKind.i64.wrap (v6 + v7)) then
              (F70 c [(-1), (c.W.length : Int), 1099511627776]).bind fun v9 =>
              some (v9 == 0)
            else
              some false
        else
          some false
      else none
    else none
set_option maxRecDepth 100000 in
theorem c27 {c : Cf} {a : List Int} {b : List Int} {r_ : Bool} (hr : F27 c a b = some r_) : LPure Try.prog 27 [cfP c, .slice 1 (a.map i64P), .slice 1 (b.map i64P)] [.bool r_] := by
  refine LPure.start Try.func27 rfl rfl rfl rfl ?_
  unfold F27 at hr
  refine LW.seq ?_
  refine LW.region ?_
  refine LOps.st rfl rfl rfl (LOp.box rfl rfl rfl rfl rfl) ?_
  refine LOps.st rfl rfl rfl (LOp.assign rfl rfl) ?_
  refine LOps.nil ?_
  refine thn_n ?_
  refine LW.seq ?_
  refine LW.region ?_
  obtain ⟨v1, h_v1, hr⟩ := bind_get hr
  refine LOps.st rfl rfl rfl (LOp.call rfl rfl rfl (by kernel_rfl) (LC.pure (c62 h_v1) .nil)) ?_
  refine LOps.st rfl rfl rfl (LOp.assign rfl rfl) ?_
  refine LOps.nil ?_
  refine thn_n ?_
  refine LW.seq ?_
  obtain ⟨v2, hb_v2, ho_v2⟩ := bind_get hr
  clear hr
  refine LW.cut (E := [(1, .p (.slice 1 (a.map i64P))), (2, .p (.slice 1 (b.map i64P))), (3, .ptr 0 0), (6, .p (.bool false)), (7, .p (.bool v1)), (31, .p (.bool v2))]) (O := [.box [.p (.slice 1 (c.W.map i64P)), .p (.int .u64 c.Seed), .p (.int .i64 c.Epoch), .p (.int .i64 c.Num), .p (.int .i64 c.Den)]]) ?_ ?_
  · have hr := hb_v2
    refine LW.region ?_
    refine LOps.st rfl rfl rfl (LOp.move rfl rfl) ?_
    refine LOps.st rfl rfl rfl (LOp.not rfl rfl) ?_
    refine LOps.st rfl rfl rfl (LOp.move rfl rfl) ?_
    refine LOps.cases 16 rfl (fun (g1 : (!v1) = true) => ?_) (fun (g1 : (!v1) = false) => ?_)
    · -- g1 is True
      have hr := ite_t g1 hr
      refine LOps.sk rfl rfl rfl (gd g1 rfl) rfl rfl ?_
      refine LOps.sk rfl rfl rfl (gd g1 rfl) rfl rfl ?_
      refine LOps.sk rfl rfl rfl (gd g1 rfl) rfl rfl ?_
      refine LOps.sk rfl rfl rfl (gd g1 rfl) rfl rfl ?_
      refine LOps.st rfl rfl rfl (LOp.pickT rfl (gdl g1 rfl) rfl) ?_
      refine LOps.st rfl rfl rfl (LOp.move rfl rfl) ?_
      refine LOps.sk rfl rfl rfl rfl rfl rfl ?_
      refine LOps.sk rfl rfl rfl rfl rfl rfl ?_
      refine LOps.sk rfl rfl rfl rfl rfl rfl ?_
      refine LOps.st rfl rfl rfl (LOp.pickT rfl rfl rfl) ?_
      refine LOps.st rfl rfl rfl (LOp.move rfl rfl) ?_
      refine LOps.sk rfl rfl rfl rfl rfl rfl ?_
      refine LOps.sk rfl rfl rfl rfl rfl rfl ?_
      refine LOps.sk rfl rfl rfl rfl rfl rfl ?_
      refine LOps.st rfl rfl rfl (LOp.pickT rfl rfl rfl) ?_
      refine LOps.nil ?_
      refine thn_n ?_
      obtain rfl := Option.some.inj hr
      exact Weak.of 1 ⟨rfl, rfl, rfl, rfl, rfl, rfl, trivial⟩ rfl rfl rfl rfl
    · -- g1 is False
      have hr := ite_f g1 hr
      refine LOps.gd rfl rfl rfl (gd g1 rfl) rfl (LOp.fieldAddr rfl rfl ft55_0) ?_
      refine LOps.gd rfl rfl rfl (gd g1 rfl) rfl (LOp.load rfl rfl rfl vt49 rfl rfl) ?_
      refine LOps.gd rfl rfl rfl (gd g1 rfl) rfl (LOp.lenM rfl rfl (by kernel_rfl)) ?_
      refine LOps.gd rfl rfl rfl (gd g1 rfl) rfl (LOp.bin rfl rfl rfl rfl) ?_
      refine LOps.st rfl rfl rfl (LOp.pickF rfl (gdl g1 rfl) rfl) ?_
      refine LOps.st rfl rfl rfl (LOp.move rfl rfl) ?_
      refine LOps.cases 22 rfl (fun (g2 : (decide ((c.W.length : Int) > 40)) = true) => ?_) (fun (g2 : (decide ((c.W.length : Int) > 40)) = false) => ?_)
      · -- g2 is True
        have hr := ite_t g2 hr
        refine LOps.sk rfl rfl rfl (gd g2 rfl) rfl rfl ?_
        refine LOps.sk rfl rfl rfl (gd g2 rfl) rfl rfl ?_
        refine LOps.sk rfl rfl rfl (gd g2 rfl) rfl rfl ?_
        refine LOps.st rfl rfl rfl (LOp.pickT rfl (gdl g2 rfl) rfl) ?_
        refine LOps.st rfl rfl rfl (LOp.move rfl rfl) ?_
        refine LOps.sk rfl rfl rfl rfl rfl rfl ?_
        refine LOps.sk rfl rfl rfl rfl rfl rfl ?_
        refine LOps.sk rfl rfl rfl rfl rfl rfl ?_
        refine LOps.st rfl rfl rfl (LOp.pickT rfl rfl rfl) ?_
        refine LOps.nil ?_
        refine thn_n ?_
        obtain rfl := Option.some.inj hr
        exact Weak.of 1 ⟨rfl, rfl, rfl, rfl, rfl, rfl, trivial⟩ rfl rfl rfl rfl
      · -- g2 is False
        have hr := ite_f g2 hr
        refine LOps.gd rfl rfl rfl (gd g2 rfl) rfl (LOp.move rfl rfl) ?_
        refine LOps.gd rfl rfl rfl (gd g2 rfl) rfl (LOp.lenM rfl rfl (by kernel_rfl)) ?_
        refine LOps.gd rfl rfl rfl (gd g2 rfl) rfl (LOp.bin rfl rfl rfl rfl) ?_
        refine LOps.st rfl rfl rfl (LOp.pickF rfl (gdl g2 rfl) rfl) ?_
        refine LOps.st rfl rfl rfl (LOp.move rfl rfl) ?_
        refine LOps.cases 27 rfl (fun (g3 : (decide ((a.length : Int) > 20)) = true) => ?_) (fun (g3 : (decide ((a.length : Int) > 20)) = false) => ?_)
        · -- g3 is True
          have hr := ite_t g3 hr
          refine LOps.sk rfl rfl rfl (gd g3 rfl) rfl rfl ?_
          refine LOps.sk rfl rfl rfl (gd g3 rfl) rfl rfl ?_
          refine LOps.sk rfl rfl rfl (gd g3 rfl) rfl rfl ?_
          refine LOps.st rfl rfl rfl (LOp.pickT rfl (gdl g3 rfl) rfl) ?_
          refine LOps.nil ?_
          refine thn_n ?_
          obtain rfl := Option.some.inj hr
          exact Weak.of 1 ⟨rfl, rfl, rfl, rfl, rfl, rfl, trivial⟩ rfl rfl rfl rfl
        · -- g3 is False
          have hr := ite_f g3 hr
          refine LOps.gd rfl rfl rfl (gd g3 rfl) rfl (LOp.move rfl rfl) ?_
          refine LOps.gd rfl rfl rfl (gd g3 rfl) rfl (LOp.lenM rfl rfl (by kernel_rfl)) ?_
          refine LOps.gd rfl rfl rfl (gd g3 rfl) rfl (LOp.bin rfl rfl rfl rfl) ?_
          refine LOps.st rfl rfl rfl (LOp.pickF rfl (gdl g3 rfl) rfl) ?_
          refine LOps.nil ?_
          refine thn_n ?_
          obtain rfl := Option.some.inj hr
          exact Weak.of 1 ⟨rfl, rfl, rfl, rfl, rfl, rfl, trivial⟩ rfl rfl rfl rfl
  · have hr := ho_v2
    clear hb_v2
    refine LW.cond rfl (fun (g4 : v2 = true) => ?_) (fun (g4 : v2 = false) => ?_)
    · -- g4 is True
      have hr := ite_t g4 hr
      refine LW.seq ?_
      refine LW.region ?_
      refine LOps.st rfl rfl rfl (LOp.move rfl rfl) ?_
      refine LOps.st rfl rfl rfl (LOp.assign rfl rfl) ?_
      refine LOps.nil ?_
      refine thn_n ?_
      refine LW.ret ?_
      refine thn_r ?_
      obtain rfl := Option.some.inj hr
      refine finP_ret (.one (.tmp rfl)) ?_
      exact Conv.p
    · -- g4 is False
      have hr := ite_f g4 hr
      refine LW.skip ?_
      refine thn_n ?_
      refine LW.seq ?_
      refine LW.region ?_
      refine LOps.st rfl rfl rfl (LOp.assign rfl rfl) ?_
      refine LOps.nil ?_
      refine thn_n ?_
      refine LW.seq ?_
      refine LW.seq ?_
      refine LW.region ?_
      refine LOps.st rfl rfl rfl (LOp.assign rfl rfl) ?_
      refine LOps.nil ?_
      refine thn_n ?_
      obtain ⟨v3, hb_v3, ho_v3⟩ := bind_get hr
      clear hr
      refine LW.tail (E := [(1, .p (.slice 1 (a.map i64P))), (2, .p (.slice 1 (b.map i64P))), (3, .ptr 0 0), (6, .p (.bool false)), (8, .p (.bool v3.both))]) (O := [.box [.p (.slice 1 (c.W.map i64P)), .p (.int .u64 c.Seed), .p (.int .i64 c.Epoch), .p (.int .i64 c.Num), .p (.int .i64 c.Den)]]) ?_ (fun env_v3 H_v3 hw_v3 => ?_)
      · refine LW.block ?_
        refine LW.iterB (E := fun x1 : F27_L1 => [(1, .p (.slice 1 (a.map i64P))), (2, .p (.slice 1 (b.map i64P))), (3, .ptr 0 0), (6, .p (.bool false)), (8, .p (.bool x1.both)), (9, .p (.int .i64 x1.i))]) (O := fun x1 => [.box [.p (.slice 1 (c.W.map i64P)), .p (.int .u64 c.Seed), .p (.int .i64 c.Epoch), .p (.int .i64 c.Num), .p (.int .i64 c.Den)]]) hb_v3 (Weak.of 1 ⟨rfl, rfl, rfl, rfl, rfl, rfl, trivial⟩ rfl rfl rfl rfl) (fun x1 z_x1 hr hb_x1 => ?_)
        unfold F27_s1 at hr
        refine LW.seq ?_
        refine LW.seq ?_
        refine LW.region ?_
        refine LOps.st rfl rfl rfl (LOp.move rfl rfl) ?_
        refine LOps.st rfl rfl rfl (LOp.move rfl rfl) ?_
        refine LOps.st rfl rfl rfl (LOp.lenM rfl rfl (by kernel_rfl)) ?_
        refine LOps.st rfl rfl rfl (LOp.bin rfl rfl rfl rfl) ?_
        refine LOps.nil ?_
        refine thn_n ?_
        refine LW.cond rfl (fun (g5 : (decide (x1.i < (a.length : Int))) = true) => ?_) (fun (g5 : (decide (x1.i < (a.length : Int))) = false) => ?_)
        · -- g5 is True
          have hr := ite_t g5 hr
          refine LW.skip ?_
          refine thn_n ?_
          refine LW.seq ?_
          refine LW.block ?_
          refine LW.seq ?_
          refine LW.region ?_
          refine LOps.st rfl rfl rfl (LOp.assign rfl rfl) ?_
          refine LOps.nil ?_
          refine thn_n ?_
          obtain ⟨v4, hb_v4, ho_v4⟩ := bind_get hr
          clear hr
          refine LW.tail (E := [(1, .p (.slice 1 (a.map i64P))), (2, .p (.slice 1 (b.map i64P))), (3, .ptr 0 0), (6, .p (.bool false)), (8, .p (.bool v4.both)), (9, .p (.int .i64 x1.i))]) (O := [.box [.p (.slice 1 (c.W.map i64P)), .p (.int .u64 c.Seed), .p (.int .i64 c.Epoch), .p (.int .i64 c.Num), .p (.int .i64 c.Den)]]) ?_ (fun env_v4 H_v4 hw_v4 => ?_)
          · refine LW.block ?_
            refine LW.iterB (E := fun x2 : F27_L2 => [(1, .p (.slice 1 (a.map i64P))), (2, .p (.slice 1 (b.map i64P))), (3, .ptr 0 0), (6, .p (.bool false)), (8, .p (.bool x2.both)), (9, .p (.int .i64 x1.i)), (10, .p (.int .i64 x2.k))]) (O := fun x2 => [.box [.p (.slice 1 (c.W.map i64P)), .p (.int .u64 c.Seed), .p (.int .i64 c.Epoch), .p (.int .i64 c.Num), .p (.int .i64 c.Den)]]) hb_v4 (Weak.of 1 ⟨rfl, rfl, rfl, rfl, rfl, rfl, rfl, trivial⟩ rfl rfl rfl rfl) (fun x2 z_x2 hr hb_x2 => ?_)
            unfold F27_s2 at hr
            refine LW.seq ?_
            refine LW.seq ?_
            refine LW.region ?_
            refine LOps.st rfl rfl rfl (LOp.move rfl rfl) ?_
            refine LOps.st rfl rfl rfl (LOp.move rfl rfl) ?_
            refine LOps.st rfl rfl rfl (LOp.lenM rfl rfl (by kernel_rfl)) ?_
            refine LOps.st rfl rfl rfl (LOp.bin rfl rfl rfl rfl) ?_
            refine LOps.nil ?_
            refine thn_n ?_
            refine LW.cond rfl (fun (g6 : (decide (x2.k < (b.length : Int))) = true) => ?_) (fun (g6 : (decide (x2.k < (b.length : Int))) = false) => ?_)
            · -- g6 is True
              have hr := ite_t g6 hr
              refine LW.skip ?_
              refine thn_n ?_
              refine LW.seq ?_
              refine LW.block ?_
              refine LW.draw (by kernel_rfl) (by kernel_rfl) ?_
              refine LO.st rfl rfl rfl (LOp.move rfl rfl) ?_
              refine LO.st rfl rfl rfl (LOp.move rfl rfl) ?_
              refine LO.cases 46 rfl (fun (g7 : x2.both = true) => ?_) (fun (g7 : x2.both = false) => ?_)
              · -- g7 is True
                have hr := ite_t g7 hr
                refine LO.sk rfl rfl rfl (gd g7 rfl) rfl rfl ?_
                refine LO.sk rfl rfl rfl (gd g7 rfl) rfl rfl ?_
                refine LO.sk rfl rfl rfl (gd g7 rfl) rfl rfl ?_
                refine LO.sk rfl rfl rfl (gd g7 rfl) rfl rfl ?_
                refine LO.sk rfl rfl rfl (gd g7 rfl) rfl rfl ?_
                refine LO.sk rfl rfl rfl (gd g7 rfl) rfl rfl ?_
                refine LO.sk rfl rfl rfl (gd g7 rfl) rfl rfl ?_
                refine LO.sk rfl rfl rfl (gd g7 rfl) rfl rfl ?_
                refine LO.sk rfl rfl rfl (gd g7 rfl) rfl rfl ?_
                refine LO.st rfl rfl rfl (LOp.pickT rfl (gdl g7 rfl) rfl) ?_
                refine LO.st rfl rfl rfl (LOp.assign rfl rfl) ?_
                refine LO.nil ?_
                refine inBlk_n ?_
                refine thn_n ?_
                refine LW.region ?_
                refine LOps.st rfl rfl rfl (LOp.move rfl rfl) ?_
                refine LOps.st rfl rfl rfl (LOp.bin rfl rfl rfl rfl) ?_
                refine LOps.st rfl rfl rfl (LOp.assign rfl rfl) ?_
                refine LOps.nil ?_
                refine thn_n ?_
                obtain rfl := Option.some.inj hr
                exact ⟨_, rfl, Weak.of 1 ⟨rfl, rfl, rfl, rfl, rfl, rfl, rfl, trivial⟩ rfl rfl rfl rfl⟩
              · -- g7 is False
                have hr := ite_f g7 hr
                refine LO.gd rfl rfl rfl (gd g7 rfl) rfl (LOp.move rfl rfl) ?_
                refine LO.gd rfl rfl rfl (gd g7 rfl) rfl (LOp.move rfl rfl) ?_
                obtain ⟨y1, h_y1, hr⟩ := bind_get hr
                refine LO.gd rfl rfl rfl (gd g7 rfl) rfl (LOp.indexAddrX rfl rfl rfl st49 h_y1 rfl) ?_
                refine LO.gd rfl rfl rfl (gd g7 rfl) rfl (LOp.loadC rfl rfl rfl vt3 rfl rfl) ?_
                refine LO.gd rfl rfl rfl (gd g7 rfl) rfl (LOp.move rfl rfl) ?_
                refine LO.gd rfl rfl rfl (gd g7 rfl) rfl (LOp.move rfl rfl) ?_
                obtain ⟨y2, h_y2, hr⟩ := bind_get hr
                refine LO.gd rfl rfl rfl (gd g7 rfl) rfl (LOp.indexAddrX rfl rfl rfl st49 h_y2 rfl) ?_
                refine LO.gd rfl rfl rfl (gd g7 rfl) rfl (LOp.loadC rfl rfl rfl vt3 rfl rfl) ?_
                refine LO.gd rfl rfl rfl (gd g7 rfl) rfl (LOp.bin rfl rfl rfl rfl) ?_
                refine LO.st rfl rfl rfl (LOp.pickF rfl (gdl g7 rfl) rfl) ?_
                refine LO.st rfl rfl rfl (LOp.assign rfl rfl) ?_
                refine LO.nil ?_
                refine inBlk_n ?_
                refine thn_n ?_
                refine LW.region ?_
                refine LOps.st rfl rfl rfl (LOp.move rfl rfl) ?_
                refine LOps.st rfl rfl rfl (LOp.bin rfl rfl rfl rfl) ?_
                refine LOps.st rfl rfl rfl (LOp.assign rfl rfl) ?_
                refine LOps.nil ?_
                refine thn_n ?_
                obtain rfl := Option.some.inj hr
                exact ⟨_, rfl, Weak.of 1 ⟨rfl, rfl, rfl, rfl, rfl, rfl, rfl, trivial⟩ rfl rfl rfl rfl⟩
            · -- g6 is False
              have hr := ite_f g6 hr
              refine LW.exit ?_
              refine thn_e ?_
              refine thn_e ?_
              refine inBlk_self ?_
              refine thn_n ?_
              obtain rfl := Option.some.inj hr
              have hr := congrArg some (hb_x2 _ rfl)
              obtain rfl := Option.some.inj hr
              exact Weak.of 1 ⟨rfl, rfl, rfl, rfl, rfl, rfl, trivial⟩ rfl rfl rfl rfl
          · have hr := ho_v4
            clear hb_v4
            refine inBlk_n ?_
            refine thn_n ?_
            refine LW.weak hw_v4 ?_
            refine LW.region ?_
            refine LOps.st rfl rfl rfl (LOp.move rfl rfl) ?_
            refine LOps.st rfl rfl rfl (LOp.bin rfl rfl rfl rfl) ?_
            refine LOps.st rfl rfl rfl (LOp.assign rfl rfl) ?_
            refine LOps.nil ?_
            refine thn_n ?_
            obtain rfl := Option.some.inj hr
            exact ⟨_, rfl, Weak.of 1 ⟨rfl, rfl, rfl, rfl, rfl, rfl, trivial⟩ rfl rfl rfl rfl⟩
        · -- g5 is False
          have hr := ite_f g5 hr
          refine LW.exit ?_
          refine thn_e ?_
          refine thn_e ?_
          refine inBlk_self ?_
          refine thn_n ?_
          obtain rfl := Option.some.inj hr
          have hr := congrArg some (hb_x1 _ rfl)
          obtain rfl := Option.some.inj hr
          exact Weak.of 1 ⟨rfl, rfl, rfl, rfl, rfl, trivial⟩ rfl rfl rfl rfl
      · have hr := ho_v3
        clear hb_v3
        refine thn_n ?_
        refine LW.weak hw_v3 ?_
        refine LW.seq ?_
        refine LW.ent (Ent.slot rfl) ?_
        refine LW.drawW (by kernel_rfl) (by kernel_rfl) ?_
        refine LF.st rfl rfl rfl (LAt.load rfl rfl rfl vt55 rfl rfl) rfl ?_
        refine LF.st (F := []) (s := none) rfl rfl rfl (fun H _ => LOp.move rfl rfl) rfl ?_
        obtain ⟨q1, hr⟩ := grd_get hr
        refine LF.st rfl rfl rfl (LAt.appendZX i64P a rfl rfl (id := 1) rfl rfl rfl st49 q1) rfl ?_
        refine LF.st (F := []) (s := none) rfl rfl rfl (fun H _ => LOp.move rfl rfl) rfl ?_
        obtain ⟨q2, hr⟩ := grd_get hr
        refine LF.st rfl rfl rfl (LAt.appendX i64P a b rfl rfl rfl rfl rfl st49 q2) rfl ?_
        obtain ⟨v5, h_v5, hr⟩ := bind_get hr
        refine LF.st (F := [1]) (s := none) rfl rfl rfl (fun H hA => LOp.call rfl rfl rfl (by kernel_rfl) (LC.lend (c70 h_v5) (.cons Conv.p (.cons (Conv.vecAll (by rw [← nth_eq]; exact hA.get (by simp) rfl) rfl rfl) .nil)) rfl)) rfl ?_
        refine LF.st (F := []) (s := none) rfl rfl rfl (fun H _ => LOp.assign rfl rfl) rfl ?_
        refine LF.nil ⟨by kernel_rfl, ?_⟩
        refine thn_n ?_
        refine LW.seq ?_
        refine LW.draw (by kernel_rfl) (by kernel_rfl) ?_
        refine LO.st rfl rfl rfl (LOp.load rfl rfl rfl vt55 rfl rfl) ?_
        refine LO.st rfl rfl rfl (LOp.move rfl rfl) ?_
        obtain ⟨v6, h_v6, hr⟩ := bind_get hr
        refine LO.st rfl rfl rfl (LOp.call rfl rfl rfl (by kernel_rfl) (LC.pure (c70 h_v6) (.cons Conv.p (.cons Conv.p .nil)))) ?_
        refine LO.st rfl rfl rfl (LOp.load rfl rfl rfl vt55 rfl rfl) ?_
        refine LO.st rfl rfl rfl (LOp.move rfl rfl) ?_
        obtain ⟨v7, h_v7, hr⟩ := bind_get hr
        refine LO.st rfl rfl rfl (LOp.call rfl rfl rfl (by kernel_rfl) (LC.pure (c70 h_v7) (.cons Conv.p (.cons Conv.p .nil)))) ?_
        refine LO.st rfl rfl rfl (LOp.bin rfl rfl rfl rfl) ?_
        refine LO.st rfl rfl rfl (LOp.assign rfl rfl) ?_
        refine LO.nil ?_
        refine thn_n ?_
        refine LW.seq ?_
        refine LW.region ?_
        refine LOps.st rfl rfl rfl (LOp.move rfl rfl) ?_
        refine LOps.st rfl rfl rfl (LOp.move rfl rfl) ?_
        refine LOps.st rfl rfl rfl (LOp.bin rfl rfl rfl rfl) ?_
        refine LOps.st rfl rfl rfl (LOp.move rfl rfl) ?_
        refine LOps.cases 73 rfl (fun (g8 : (decide (v5 ≤ (IntKind.i64.wrap (v6 + v7)))) = true) => ?_) (fun (g8 : (decide (v5 ≤ (IntKind.i64.wrap (v6 + v7)))) = false) => ?_)
        · -- g8 is True
          have hr := ite_t g8 hr
          refine LOps.gd rfl rfl rfl (gd g8 rfl) rfl (LOp.move rfl rfl) ?_
          refine LOps.gd rfl rfl rfl (gd g8 rfl) rfl (LOp.move rfl rfl) ?_
          refine LOps.cases 75 rfl (fun (g9 : v3.both = true) => ?_) (fun (g9 : v3.both = false) => ?_)
          · -- g9 is True
            have hr := ite_t g9 hr
            refine LOps.sk rfl rfl rfl (gd g9 rfl) rfl rfl ?_
            refine LOps.sk rfl rfl rfl (gd g9 rfl) rfl rfl ?_
            refine LOps.sk rfl rfl rfl (gd g9 rfl) rfl rfl ?_
            refine LOps.gd rfl rfl rfl (gd g8 rfl) rfl (LOp.pickT rfl (gdl g9 rfl) rfl) ?_
            refine LOps.st rfl rfl rfl (LOp.pickT rfl (gdl g8 rfl) rfl) ?_
            refine LOps.st rfl rfl rfl (LOp.move rfl rfl) ?_
            refine LOps.gd rfl rfl rfl rfl rfl (LOp.load rfl rfl rfl vt55 rfl rfl) ?_
            refine LOps.gd rfl rfl rfl rfl rfl (LOp.fieldAddr rfl rfl ft55_0) ?_
            refine LOps.gd rfl rfl rfl rfl rfl (LOp.load rfl rfl rfl vt49 rfl rfl) ?_
            refine LOps.gd rfl rfl rfl rfl rfl (LOp.lenM rfl rfl (by kernel_rfl)) ?_
            refine LOps.gd rfl rfl rfl rfl rfl (LOp.buildSlice rfl st49 rfl rfl rfl rfl rfl) ?_
            obtain ⟨v8, h_v8, hr⟩ := bind_get hr
            refine LOps.gd rfl rfl rfl rfl rfl (LOp.call rfl rfl rfl (by kernel_rfl) (LC.pure (c70 h_v8) (.cons Conv.p (.cons Conv.p .nil)))) ?_
            refine LOps.gd rfl rfl rfl rfl rfl (LOp.bin rfl rfl rfl rfl) ?_
            refine LOps.st rfl rfl rfl (LOp.pickT rfl rfl rfl) ?_
            refine LOps.st rfl rfl rfl (LOp.assign rfl rfl) ?_
            refine LOps.nil ?_
            refine thn_n ?_
            refine LW.ret ?_
            obtain rfl := Option.some.inj hr
            refine finP_ret (.one (.tmp rfl)) ?_
            exact Conv.p
          · -- g9 is False
            have hr := ite_f g9 hr
            refine LOps.gd rfl rfl rfl (gd g9 rfl) rfl (LOp.move rfl rfl) ?_
            refine LOps.gd rfl rfl rfl (gd g9 rfl) rfl (LOp.move rfl rfl) ?_
            refine LOps.gd rfl rfl rfl (gd g9 rfl) rfl (LOp.bin rfl rfl rfl rfl) ?_
            refine LOps.gd rfl rfl rfl (gd g8 rfl) rfl (LOp.pickF rfl (gdl g9 rfl) rfl) ?_
            refine LOps.st rfl rfl rfl (LOp.pickT rfl (gdl g8 rfl) rfl) ?_
            refine LOps.st rfl rfl rfl (LOp.move rfl rfl) ?_
            refine LOps.cases 81 rfl (fun (g10 : (v5 == (IntKind.i64.wrap (v6 + v7))) = true) => ?_) (fun (g10 : (v5 == (IntKind.i64.wrap (v6 + v7))) = false) => ?_)
            · -- g10 is True
              have hr := ite_t g10 hr
              refine LOps.gd rfl rfl rfl (gd g10 rfl) rfl (LOp.load rfl rfl rfl vt55 rfl rfl) ?_
              refine LOps.gd rfl rfl rfl (gd g10 rfl) rfl (LOp.fieldAddr rfl rfl ft55_0) ?_
              refine LOps.gd rfl rfl rfl (gd g10 rfl) rfl (LOp.load rfl rfl rfl vt49 rfl rfl) ?_
              refine LOps.gd rfl rfl rfl (gd g10 rfl) rfl (LOp.lenM rfl rfl (by kernel_rfl)) ?_
              refine LOps.gd rfl rfl rfl (gd g10 rfl) rfl (LOp.buildSlice rfl st49 rfl rfl rfl rfl rfl) ?_
              obtain ⟨v9, h_v9, hr⟩ := bind_get hr
              refine LOps.gd rfl rfl rfl (gd g10 rfl) rfl (LOp.call rfl rfl rfl (by kernel_rfl) (LC.pure (c70 h_v9) (.cons Conv.p (.cons Conv.p .nil)))) ?_
              refine LOps.gd rfl rfl rfl (gd g10 rfl) rfl (LOp.bin rfl rfl rfl rfl) ?_
              refine LOps.st rfl rfl rfl (LOp.pickT rfl (gdl g10 rfl) rfl) ?_
              refine LOps.st rfl rfl rfl (LOp.assign rfl rfl) ?_
              refine LOps.nil ?_
              refine thn_n ?_
              refine LW.ret ?_
              obtain rfl := Option.some.inj hr
              refine finP_ret (.one (.tmp rfl)) ?_
              exact Conv.p
            · -- g10 is False
              have hr := ite_f g10 hr
              refine LOps.sk rfl rfl rfl (gd g10 rfl) rfl rfl ?_
              refine LOps.sk rfl rfl rfl (gd g10 rfl) rfl rfl ?_
              refine LOps.sk rfl rfl rfl (gd g10 rfl) rfl rfl ?_
              refine LOps.sk rfl rfl rfl (gd g10 rfl) rfl rfl ?_
              refine LOps.sk rfl rfl rfl (gd g10 rfl) rfl rfl ?_
              refine LOps.sk rfl rfl rfl (gd g10 rfl) rfl rfl ?_
              refine LOps.sk rfl rfl rfl (gd g10 rfl) rfl rfl ?_
              refine LOps.st rfl rfl rfl (LOp.pickF rfl (gdl g10 rfl) rfl) ?_
              refine LOps.st rfl rfl rfl (LOp.assign rfl rfl) ?_
              refine LOps.nil ?_
              refine thn_n ?_
              refine LW.ret ?_
              obtain rfl := Option.some.inj hr
              refine finP_ret (.one (.tmp rfl)) ?_
              exact Conv.p
        · -- g8 is False
          have hr := ite_f g8 hr
          refine LOps.sk rfl rfl rfl (gd g8 rfl) rfl rfl ?_
          refine LOps.sk rfl rfl rfl (gd g8 rfl) rfl rfl ?_
          refine LOps.sku rfl rfl rfl rfl rfl ?_
          refine LOps.sku rfl rfl rfl rfl rfl ?_
          refine LOps.sku rfl rfl rfl rfl rfl ?_
          refine LOps.sk rfl rfl rfl (gd g8 rfl) rfl rfl ?_
          refine LOps.st rfl rfl rfl (LOp.pickF rfl (gdl g8 rfl) rfl) ?_
          refine LOps.st rfl rfl rfl (LOp.move rfl rfl) ?_
          refine LOps.sk rfl rfl rfl rfl rfl rfl ?_
          refine LOps.sk rfl rfl rfl rfl rfl rfl ?_
          refine LOps.sk rfl rfl rfl rfl rfl rfl ?_
          refine LOps.sk rfl rfl rfl rfl rfl rfl ?_
          refine LOps.sk rfl rfl rfl rfl rfl rfl ?_
          refine LOps.sk rfl rfl rfl rfl rfl rfl ?_
          refine LOps.sk rfl rfl rfl rfl rfl rfl ?_
          refine LOps.st rfl rfl rfl (LOp.pickF rfl rfl rfl) ?_
          refine LOps.st rfl rfl rfl (LOp.assign rfl rfl) ?_
          refine LOps.nil ?_
          refine thn_n ?_
          refine LW.ret ?_
          obtain rfl := Option.some.inj hr
          refine finP_ret (.one (.tmp rfl)) ?_
          exact Conv.p
open Go.Proofs
structure F25_L1 where
  i : Int
  all : List Int
def F25_s1 (c : Cf) (x1 : F25_L1) : Option (F25_L1 ⊕ F25_L1) :=
  bif decide (x1.i < (c.W.length : Int)) then
    bif room x1.all.length [x1.i].length 8 then
      some (.inl (F25_L1.mk (IntKind.i64.wrap (x1.i + 1)) (x1.all ++ [x1.i])))
    else none
  else
    some (.inr (F25_L1.mk x1.i x1.all))
def F25 (c : Cf) (l : List Int) (who : Int) : Option Bool :=
  (F62 ).bind fun v1 =>
  (
    bif !v1 then
      some true
    else
      bif decide ((c.W.length : Int) > 40) then
        some true
      else
        bif decide ((l.length : Int) > 40) then
          some true
        else
          (F64 c).bind fun v3 =>
          some (!v3)
  ).bind fun v2 =>
  bif v2 then
    some v1
  else
    (F70 c l).bind fun v4 =>
    bif room 0 l.length 8 then
      bif room l.length [who].length 8 then
        (F70 c (l ++ [who])).bind fun v5 =>
        (F70 c [who]).bind fun v6 =>
        (F76 l who).bind fun v7 =>
        (iter (F25_s1 c) big (F25_L1.mk 0 ([] : List Int))).bind fun v8 =>
        bif decide (v4 ≥ 0) then
          (F72 c).bind fun v9 =>
          bif decide (v4 ≤ v9) then
            bif v7 then
              bif v5 == v4 then
                (F70 c v8.all).bind fun v10 =>
                (F72 c).bind fun v11 =>
                bif v10 == v11 then
                  (F70 c ([] : List Int)).bind fun v12 =>
                  bif v12 == 0 then
                    bif room 0 l.length 8 then
                      bif room l.length l.length 8 then
                        (F70 c (l ++ l)).bind fun v13 =>
                        some (v13 == v4)
                      else none
                    else none
                  else
                    some false
                else
                  some false
              else
                bif !v7 then
                  bif v5 == (IntKind.i64.wrap (v4 + v6)) then
                    (F70 c v8.all).bind fun v14 =>
                    (F72 c).bind fun v15 =>
                    bif v14 == v15 then
                      (F70 c ([] : List Int)).bind fun v16 =>
                      bif v16 == 0 then
                        bif room 0 l.length 8 then
                          bif room l.length l.length 8 then
                            (F70 c (l ++ l)).bind fun v17 =>
                            some (v17 == v4)
                          else none
                        else none
                      else
                        some false
                    else
                      some false
                  else
                    some false
                else
                  some false
            else
              bif !v7 then
                bif v5 == (IntKind.i64.wrap (v4 + v6)) then
                  (F70 c v8.all).bind fun v18 =>
                  (F72 c).bind fun v19 =>
                  bif v18 == v19 then
                    (F70 c ([] : List Int)).bind fun v20 =>
                    bif v20 == 0 then
                      bif room 0 l.length 8 then
                        bif room l.length l.length 8 then
                          (F70 c (l ++ l)).bind fun v21 =>
                          some (v21 == v4)
                        else none
                      else none
                    else
                      some false
                  else
                    some false
                else
                  some false
              else
                some false
          else
            some false
        else
          some false
      else none
    else none
set_option maxRecDepth 100000 in
theorem c25 {c : Cf} {l : List Int} {who : Int} {r_ : Bool} (hr : F25 c l who = some r_) : LPure Try.prog 25 [cfP c, .slice 1 (l.map i64P), .int .i64 who] [.bool r_] := by
  refine LPure.start Try.func25 rfl rfl rfl rfl ?_
  unfold F25 at hr
  refine LW.seq ?_
  refine LW.region ?_
  refine LOps.st rfl rfl rfl (LOp.box rfl rfl rfl rfl rfl) ?_
  refine LOps.st rfl rfl rfl (LOp.assign rfl rfl) ?_
  refine LOps.nil ?_
  refine thn_n ?_
  refine LW.seq ?_
  refine LW.region ?_
  obtain ⟨v1, h_v1, hr⟩ := bind_get hr
  refine LOps.st rfl rfl rfl (LOp.call rfl rfl rfl (by kernel_rfl) (LC.pure (c62 h_v1) .nil)) ?_
  refine LOps.st rfl rfl rfl (LOp.assign rfl rfl) ?_
  refine LOps.nil ?_
  refine thn_n ?_
  refine LW.seq ?_
  obtain ⟨v2, hb_v2, ho_v2⟩ := bind_get hr
  clear hr
  refine LW.cut (E := [(1, .p (.slice 1 (l.map i64P))), (2, .p (.int .i64 who)), (3, .ptr 0 0), (6, .p (.bool false)), (7, .p (.bool v1)), (32, .p (.bool v2))]) (O := [.box [.p (.slice 1 (c.W.map i64P)), .p (.int .u64 c.Seed), .p (.int .i64 c.Epoch), .p (.int .i64 c.Num), .p (.int .i64 c.Den)]]) ?_ ?_
  · have hr := hb_v2
    refine LW.region ?_
    refine LOps.st rfl rfl rfl (LOp.move rfl rfl) ?_
    refine LOps.st rfl rfl rfl (LOp.not rfl rfl) ?_
    refine LOps.st rfl rfl rfl (LOp.move rfl rfl) ?_
    refine LOps.cases 17 rfl (fun (g1 : (!v1) = true) => ?_) (fun (g1 : (!v1) = false) => ?_)
    · -- g1 is True
      have hr := ite_t g1 hr
      refine LOps.sk rfl rfl rfl (gd g1 rfl) rfl rfl ?_
      refine LOps.sk rfl rfl rfl (gd g1 rfl) rfl rfl ?_
      refine LOps.sk rfl rfl rfl (gd g1 rfl) rfl rfl ?_
      refine LOps.sk rfl rfl rfl (gd g1 rfl) rfl rfl ?_
      refine LOps.st rfl rfl rfl (LOp.pickT rfl (gdl g1 rfl) rfl) ?_
      refine LOps.st rfl rfl rfl (LOp.move rfl rfl) ?_
      refine LOps.sk rfl rfl rfl rfl rfl rfl ?_
      refine LOps.sk rfl rfl rfl rfl rfl rfl ?_
      refine LOps.sk rfl rfl rfl rfl rfl rfl ?_
      refine LOps.st rfl rfl rfl (LOp.pickT rfl rfl rfl) ?_
      refine LOps.st rfl rfl rfl (LOp.move rfl rfl) ?_
      refine LOps.sk rfl rfl rfl rfl rfl rfl ?_
      refine LOps.sk rfl rfl rfl rfl rfl rfl ?_
      refine LOps.sk rfl rfl rfl rfl rfl rfl ?_
      refine LOps.st rfl rfl rfl (LOp.pickT rfl rfl rfl) ?_
      refine LOps.nil ?_
      refine thn_n ?_
      obtain rfl := Option.some.inj hr
      exact Weak.of 1 ⟨rfl, rfl, rfl, rfl, rfl, rfl, trivial⟩ rfl rfl rfl rfl
    · -- g1 is False
      have hr := ite_f g1 hr
      refine LOps.gd rfl rfl rfl (gd g1 rfl) rfl (LOp.fieldAddr rfl rfl ft55_0) ?_
      refine LOps.gd rfl rfl rfl (gd g1 rfl) rfl (LOp.load rfl rfl rfl vt49 rfl rfl) ?_
      refine LOps.gd rfl rfl rfl (gd g1 rfl) rfl (LOp.lenM rfl rfl (by kernel_rfl)) ?_
      refine LOps.gd rfl rfl rfl (gd g1 rfl) rfl (LOp.bin rfl rfl rfl rfl) ?_
      refine LOps.st rfl rfl rfl (LOp.pickF rfl (gdl g1 rfl) rfl) ?_
      refine LOps.st rfl rfl rfl (LOp.move rfl rfl) ?_
      refine LOps.cases 23 rfl (fun (g2 : (decide ((c.W.length : Int) > 40)) = true) => ?_) (fun (g2 : (decide ((c.W.length : Int) > 40)) = false) => ?_)
      · -- g2 is True
        have hr := ite_t g2 hr
        refine LOps.sk rfl rfl rfl (gd g2 rfl) rfl rfl ?_
        refine LOps.sk rfl rfl rfl (gd g2 rfl) rfl rfl ?_
        refine LOps.sk rfl rfl rfl (gd g2 rfl) rfl rfl ?_
        refine LOps.st rfl rfl rfl (LOp.pickT rfl (gdl g2 rfl) rfl) ?_
        refine LOps.st rfl rfl rfl (LOp.move rfl rfl) ?_
        refine LOps.sk rfl rfl rfl rfl rfl rfl ?_
        refine LOps.sk rfl rfl rfl rfl rfl rfl ?_
        refine LOps.sk rfl rfl rfl rfl rfl rfl ?_
        refine LOps.st rfl rfl rfl (LOp.pickT rfl rfl rfl) ?_
        refine LOps.nil ?_
        refine thn_n ?_
        obtain rfl := Option.some.inj hr
        exact Weak.of 1 ⟨rfl, rfl, rfl, rfl, rfl, rfl, trivial⟩ rfl rfl rfl rfl
      · -- g2 is False
        have hr := ite_f g2 hr
        refine LOps.gd rfl rfl rfl (gd g2 rfl) rfl (LOp.move rfl rfl) ?_
        refine LOps.gd rfl rfl rfl (gd g2 rfl) rfl (LOp.lenM rfl rfl (by kernel_rfl)) ?_
        refine LOps.gd rfl rfl rfl (gd g2 rfl) rfl (LOp.bin rfl rfl rfl rfl) ?_
        refine LOps.st rfl rfl rfl (LOp.pickF rfl (gdl g2 rfl) rfl) ?_
        refine LOps.st rfl rfl rfl (LOp.move rfl rfl) ?_
        refine LOps.cases 28 rfl (fun (g3 : (decide ((l.length : Int) > 40)) = true) => ?_) (fun (g3 : (decide ((l.length : Int) > 40)) = false) => ?_)
        · -- g3 is True
          have hr := ite_t g3 hr
          refine LOps.sk rfl rfl rfl (gd g3 rfl) rfl rfl ?_
          refine LOps.sk rfl rfl rfl (gd g3 rfl) rfl rfl ?_
          refine LOps.sk rfl rfl rfl (gd g3 rfl) rfl rfl ?_
          refine LOps.st rfl rfl rfl (LOp.pickT rfl (gdl g3 rfl) rfl) ?_
          refine LOps.nil ?_
          refine thn_n ?_
          obtain rfl := Option.some.inj hr
          exact Weak.of 1 ⟨rfl, rfl, rfl, rfl, rfl, rfl, trivial⟩ rfl rfl rfl rfl
        · -- g3 is False
          have hr := ite_f g3 hr
          refine LOps.gd rfl rfl rfl (gd g3 rfl) rfl (LOp.load rfl rfl rfl vt55 rfl rfl) ?_
          obtain ⟨v3, h_v3, hr⟩ := bind_get hr
          refine LOps.gd rfl rfl rfl (gd g3 rfl) rfl (LOp.call rfl rfl rfl (by kernel_rfl) (LC.pure (c64 h_v3) (.cons Conv.p .nil))) ?_
          refine LOps.gd rfl rfl rfl (gd g3 rfl) rfl (LOp.not rfl rfl) ?_
          refine LOps.st rfl rfl rfl (LOp.pickF rfl (gdl g3 rfl) rfl) ?_
          refine LOps.nil ?_
          refine thn_n ?_
          obtain rfl := Option.some.inj hr
          exact Weak.of 1 ⟨rfl, rfl, rfl, rfl, rfl, rfl, trivial⟩ rfl rfl rfl rfl
  · have hr := ho_v2
    clear hb_v2
    refine LW.cond rfl (fun (g4 : v2 = true) => ?_) (fun (g4 : v2 = false) => ?_)
    · -- g4 is True
      have hr := ite_t g4 hr
      refine LW.seq ?_
      refine LW.region ?_
      refine LOps.st rfl rfl rfl (LOp.move rfl rfl) ?_
      refine LOps.st rfl rfl rfl (LOp.assign rfl rfl) ?_
      refine LOps.nil ?_
      refine thn_n ?_
      refine LW.ret ?_
      refine thn_r ?_
      obtain rfl := Option.some.inj hr
      refine finP_ret (.one (.tmp rfl)) ?_
      exact Conv.p
    · -- g4 is False
      have hr := ite_f g4 hr
      refine LW.skip ?_
      refine thn_n ?_
      refine LW.seq ?_
      refine LW.region ?_
      refine LOps.st rfl rfl rfl (LOp.load rfl rfl rfl vt55 rfl rfl) ?_
      refine LOps.st rfl rfl rfl (LOp.move rfl rfl) ?_
      obtain ⟨v4, h_v4, hr⟩ := bind_get hr
      refine LOps.st rfl rfl rfl (LOp.call rfl rfl rfl (by kernel_rfl) (LC.pure (c70 h_v4) (.cons Conv.p (.cons Conv.p .nil)))) ?_
      refine LOps.st rfl rfl rfl (LOp.assign rfl rfl) ?_
      refine LOps.nil ?_
      refine thn_n ?_
      refine LW.seq ?_
      refine LW.ent (Ent.slot rfl) ?_
      refine LW.drawW (by kernel_rfl) (by kernel_rfl) ?_
      refine LF.st rfl rfl rfl (LAt.load rfl rfl rfl vt55 rfl rfl) rfl ?_
      refine LF.st (F := []) (s := none) rfl rfl rfl (fun H _ => LOp.move rfl rfl) rfl ?_
      obtain ⟨q1, hr⟩ := grd_get hr
      refine LF.st rfl rfl rfl (LAt.appendZX i64P l rfl rfl (id := 1) rfl rfl rfl st49 q1) rfl ?_
      refine LF.st (F := []) (s := none) rfl rfl rfl (fun H _ => LOp.move rfl rfl) rfl ?_
      refine LF.st (F := []) (s := none) rfl rfl rfl (fun H _ => LOp.buildSlice rfl st49 rfl rfl rfl rfl rfl) rfl ?_
      obtain ⟨q2, hr⟩ := grd_get hr
      refine LF.st rfl rfl rfl (LAt.appendX i64P l [who] rfl rfl rfl rfl rfl st49 q2) rfl ?_
      obtain ⟨v5, h_v5, hr⟩ := bind_get hr
      refine LF.st (F := [1]) (s := none) rfl rfl rfl (fun H hA => LOp.call rfl rfl rfl (by kernel_rfl) (LC.lend (c70 h_v5) (.cons Conv.p (.cons (Conv.vecAll (by rw [← nth_eq]; exact hA.get (by simp) rfl) rfl rfl) .nil)) rfl)) rfl ?_
      refine LF.st (F := []) (s := none) rfl rfl rfl (fun H _ => LOp.assign rfl rfl) rfl ?_
      refine LF.nil ⟨by kernel_rfl, ?_⟩
      refine thn_n ?_
      refine LW.seq ?_
      refine LW.region ?_
      refine LOps.st rfl rfl rfl (LOp.load rfl rfl rfl vt55 rfl rfl) ?_
      refine LOps.st rfl rfl rfl (LOp.move rfl rfl) ?_
      refine LOps.st rfl rfl rfl (LOp.buildSlice rfl st49 rfl rfl rfl rfl rfl) ?_
      obtain ⟨v6, h_v6, hr⟩ := bind_get hr
      refine LOps.st rfl rfl rfl (LOp.call rfl rfl rfl (by kernel_rfl) (LC.pure (c70 h_v6) (.cons Conv.p (.cons Conv.p .nil)))) ?_
      refine LOps.st rfl rfl rfl (LOp.assign rfl rfl) ?_
      refine LOps.nil ?_
      refine thn_n ?_
      refine LW.seq ?_
      refine LW.region ?_
      refine LOps.st rfl rfl rfl (LOp.move rfl rfl) ?_
      refine LOps.st rfl rfl rfl (LOp.move rfl rfl) ?_
      obtain ⟨v7, h_v7, hr⟩ := bind_get hr
      refine LOps.st rfl rfl rfl (LOp.call rfl rfl rfl (by kernel_rfl) (LC.pure (c76 h_v7) (.cons Conv.p (.cons Conv.p .nil)))) ?_
      refine LOps.st rfl rfl rfl (LOp.assign rfl rfl) ?_
      refine LOps.nil ?_
      refine thn_n ?_
      refine LW.seq ?_
      refine LW.region ?_
      refine LOps.st rfl rfl rfl (LOp.assign rfl rfl) ?_
      refine LOps.nil ?_
      refine thn_n ?_
      refine LW.seq ?_
      refine LW.seq ?_
      refine LW.region ?_
      refine LOps.st rfl rfl rfl (LOp.assign rfl rfl) ?_
      refine LOps.nil ?_
      refine thn_n ?_
      refine LW.ent (Ent.lazy (t := 12) (m := 1) rfl rfl rfl) ?_
      obtain ⟨v8, hb_v8, ho_v8⟩ := bind_get hr
      clear hr
      refine LW.tail (E := [(1, .p (.slice 1 (l.map i64P))), (3, .ptr 0 0), (6, .p (.bool false)), (8, .p (.int .i64 v4)), (9, .p (.int .i64 v5)), (10, .p (.int .i64 v6)), (11, .p (.bool v7)), (12, .vec 1 2 (v8.all.map i64P).length 0 (v8.all.map i64P).length)]) (O := [.box [.p (.slice 1 (c.W.map i64P)), .p (.int .u64 c.Seed), .p (.int .i64 c.Epoch), .p (.int .i64 c.Num), .p (.int .i64 c.Den)], .vec 1 ((l ++ [who]).map i64P), .vec 1 (v8.all.map i64P)]) ?_ (fun env_v8 H_v8 hw_v8 => ?_)
      · refine LW.block ?_
        refine LW.iterB (E := fun x1 : F25_L1 => [(1, .p (.slice 1 (l.map i64P))), (3, .ptr 0 0), (6, .p (.bool false)), (8, .p (.int .i64 v4)), (9, .p (.int .i64 v5)), (10, .p (.int .i64 v6)), (11, .p (.bool v7)), (12, .vec 1 2 (x1.all.map i64P).length 0 (x1.all.map i64P).length), (13, .p (.int .i64 x1.i))]) (O := fun x1 => [.box [.p (.slice 1 (c.W.map i64P)), .p (.int .u64 c.Seed), .p (.int .i64 c.Epoch), .p (.int .i64 c.Num), .p (.int .i64 c.Den)], .vec 1 ((l ++ [who]).map i64P), .vec 1 (x1.all.map i64P)]) hb_v8 (Weak.of 3 ⟨rfl, rfl, rfl, rfl, rfl, rfl, rfl, rfl, rfl, trivial⟩ rfl rfl rfl rfl) (fun x1 z_x1 hr hb_x1 => ?_)
        unfold F25_s1 at hr
        refine LW.seq ?_
        refine LW.seq ?_
        refine LW.region ?_
        refine LOps.st rfl rfl rfl (LOp.move rfl rfl) ?_
        refine LOps.st rfl rfl rfl (LOp.fieldAddr rfl rfl ft55_0) ?_
        refine LOps.st rfl rfl rfl (LOp.load rfl rfl rfl vt49 rfl rfl) ?_
        refine LOps.st rfl rfl rfl (LOp.lenM rfl rfl (by kernel_rfl)) ?_
        refine LOps.st rfl rfl rfl (LOp.bin rfl rfl rfl rfl) ?_
        refine LOps.nil ?_
        refine thn_n ?_
        refine LW.cond rfl (fun (g5 : (decide (x1.i < (c.W.length : Int))) = true) => ?_) (fun (g5 : (decide (x1.i < (c.W.length : Int))) = false) => ?_)
        · -- g5 is True
          have hr := ite_t g5 hr
          refine LW.skip ?_
          refine thn_n ?_
          refine LW.seq ?_
          refine LW.block ?_
          refine LW.region ?_
          refine LOps.st rfl rfl rfl (LOp.move rfl rfl) ?_
          refine LOps.st rfl rfl rfl (LOp.move rfl rfl) ?_
          refine LOps.st rfl rfl rfl (LOp.buildSlice rfl st49 rfl rfl rfl rfl rfl) ?_
          obtain ⟨q3, hr⟩ := grd_get hr
          refine LOps.st rfl rfl rfl (LOp.appendX i64P x1.all [x1.i] rfl rfl rfl rfl Src.p rfl st49 q3 rfl) ?_
          refine LOps.st rfl rfl rfl (LOp.assign rfl rfl) ?_
          refine LOps.nil ?_
          refine inBlk_n ?_
          refine thn_n ?_
          refine LW.region ?_
          refine LOps.st rfl rfl rfl (LOp.move rfl rfl) ?_
          refine LOps.st rfl rfl rfl (LOp.bin rfl rfl rfl rfl) ?_
          refine LOps.st rfl rfl rfl (LOp.assign rfl rfl) ?_
          refine LOps.nil ?_
          refine thn_n ?_
          obtain rfl := Option.some.inj hr
          exact ⟨_, rfl, Weak.of 3 ⟨rfl, rfl, rfl, rfl, rfl, rfl, rfl, rfl, rfl, trivial⟩ rfl rfl rfl rfl⟩
        · -- g5 is False
          have hr := ite_f g5 hr
          refine LW.exit ?_
          refine thn_e ?_
          refine thn_e ?_
          refine inBlk_self ?_
          refine thn_n ?_
          obtain rfl := Option.some.inj hr
          have hr := congrArg some (hb_x1 _ rfl)
          obtain rfl := Option.some.inj hr
          exact Weak.of 3 ⟨rfl, rfl, rfl, rfl, rfl, rfl, rfl, rfl, trivial⟩ rfl rfl rfl rfl
      · have hr := ho_v8
        clear hb_v8
        refine thn_n ?_
        refine LW.weak hw_v8 ?_
        refine LW.seq ?_
        refine LW.ent (Ent.slot rfl) ?_
        refine LW.drawW (by kernel_rfl) (by kernel_rfl) ?_
        refine LF.st (F := []) (s := none) rfl rfl rfl (fun H _ => LOp.move rfl rfl) rfl ?_
        refine LF.st (F := []) (s := none) rfl rfl rfl (fun H _ => LOp.bin rfl rfl rfl rfl) rfl ?_
        refine LF.st (F := []) (s := none) rfl rfl rfl (fun H _ => LOp.move rfl rfl) rfl ?_
        refine LF.cases 64 rfl (fun (g6 : (decide (v4 ≥ 0)) = true) => ?_) (fun (g6 : (decide (v4 ≥ 0)) = false) => ?_)
        · -- g6 is True
          have hr := ite_t g6 hr
          refine LF.gd (F := []) (s := none) rfl rfl rfl (gd g6 rfl) rfl (fun H _ => LOp.move rfl rfl) rfl ?_
          refine LF.gd rfl rfl rfl (gd g6 rfl) rfl (LAt.load rfl rfl rfl vt55 rfl rfl) rfl ?_
          obtain ⟨v9, h_v9, hr⟩ := bind_get hr
          refine LF.gd (F := []) (s := none) rfl rfl rfl (gd g6 rfl) rfl (fun H _ => LOp.call rfl rfl rfl (by kernel_rfl) (LC.pure (c72 h_v9) (.cons Conv.p .nil))) rfl ?_
          refine LF.gd (F := []) (s := none) rfl rfl rfl (gd g6 rfl) rfl (fun H _ => LOp.bin rfl rfl rfl rfl) rfl ?_
          refine LF.st (F := []) (s := none) rfl rfl rfl (fun H _ => LOp.pickT rfl (gdl g6 rfl) rfl) rfl ?_
          refine LF.st (F := []) (s := none) rfl rfl rfl (fun H _ => LOp.move rfl rfl) rfl ?_
          refine LF.cases 70 rfl (fun (g7 : (decide (v4 ≤ v9)) = true) => ?_) (fun (g7 : (decide (v4 ≤ v9)) = false) => ?_)
          · -- g7 is True
            have hr := ite_t g7 hr
            refine LF.gd (F := []) (s := none) rfl rfl rfl (gd g7 rfl) rfl (fun H _ => LOp.move rfl rfl) rfl ?_
            refine LF.gd (F := []) (s := none) rfl rfl rfl (gd g7 rfl) rfl (fun H _ => LOp.move rfl rfl) rfl ?_
            refine LF.cases 72 rfl (fun (g8 : v7 = true) => ?_) (fun (g8 : v7 = false) => ?_)
            · -- g8 is True
              have hr := ite_t g8 hr
              refine LF.gd (F := []) (s := none) rfl rfl rfl (gd g8 rfl) rfl (fun H _ => LOp.move rfl rfl) rfl ?_
              refine LF.gd (F := []) (s := none) rfl rfl rfl (gd g8 rfl) rfl (fun H _ => LOp.move rfl rfl) rfl ?_
              refine LF.gd (F := []) (s := none) rfl rfl rfl (gd g8 rfl) rfl (fun H _ => LOp.bin rfl rfl rfl rfl) rfl ?_
              refine LF.gd (F := []) (s := none) rfl rfl rfl (gd g7 rfl) rfl (fun H _ => LOp.pickT rfl (gdl g8 rfl) rfl) rfl ?_
              refine LF.gd (F := []) (s := none) rfl rfl rfl (gd g7 rfl) rfl (fun H _ => LOp.move rfl rfl) rfl ?_
              refine LF.cases 77 rfl (fun (g9 : (v5 == v4) = true) => ?_) (fun (g9 : (v5 == v4) = false) => ?_)
              · -- g9 is True
                have hr := ite_t g9 hr
                refine LF.sk rfl rfl rfl (gd g9 rfl) rfl rfl ?_
                refine LF.sk rfl rfl rfl (gd g9 rfl) rfl rfl ?_
                refine LF.sk rfl rfl rfl (gd g9 rfl) rfl rfl ?_
                refine LF.sku rfl rfl rfl rfl rfl ?_
                refine LF.sku rfl rfl rfl rfl rfl ?_
                refine LF.sku rfl rfl rfl rfl rfl ?_
                refine LF.sku rfl rfl rfl rfl rfl ?_
                refine LF.sku rfl rfl rfl rfl rfl ?_
                refine LF.sk rfl rfl rfl (gd g9 rfl) rfl rfl ?_
                refine LF.gd (F := []) (s := none) rfl rfl rfl (gd g7 rfl) rfl (fun H _ => LOp.pickT rfl (gdl g9 rfl) rfl) rfl ?_
                refine LF.st (F := []) (s := none) rfl rfl rfl (fun H _ => LOp.pickT rfl (gdl g7 rfl) rfl) rfl ?_
                refine LF.st (F := []) (s := none) rfl rfl rfl (fun H _ => LOp.move rfl rfl) rfl ?_
                refine LF.gd rfl rfl rfl rfl rfl (LAt.load rfl rfl rfl vt55 rfl rfl) rfl ?_
                refine LF.gd (F := []) (s := none) rfl rfl rfl rfl rfl (fun H _ => LOp.move rfl rfl) rfl ?_
                obtain ⟨v10, h_v10, hr⟩ := bind_get hr
                refine LF.gd (F := [2]) (s := none) rfl rfl rfl rfl rfl (fun H hA => LOp.call rfl rfl rfl (by kernel_rfl) (LC.lend (c70 h_v10) (.cons Conv.p (.cons (Conv.vecAll (by rw [← nth_eq]; exact hA.get (by simp) rfl) rfl rfl) .nil)) rfl)) rfl ?_
                refine LF.gd rfl rfl rfl rfl rfl (LAt.load rfl rfl rfl vt55 rfl rfl) rfl ?_
                obtain ⟨v11, h_v11, hr⟩ := bind_get hr
                refine LF.gd (F := []) (s := none) rfl rfl rfl rfl rfl (fun H _ => LOp.call rfl rfl rfl (by kernel_rfl) (LC.pure (c72 h_v11) (.cons Conv.p .nil))) rfl ?_
                refine LF.gd (F := []) (s := none) rfl rfl rfl rfl rfl (fun H _ => LOp.bin rfl rfl rfl rfl) rfl ?_
                refine LF.st (F := []) (s := none) rfl rfl rfl (fun H _ => LOp.pickT rfl rfl rfl) rfl ?_
                refine LF.st (F := []) (s := none) rfl rfl rfl (fun H _ => LOp.move rfl rfl) rfl ?_
                refine LF.cases 97 rfl (fun (g10 : (v10 == v11) = true) => ?_) (fun (g10 : (v10 == v11) = false) => ?_)
                · -- g10 is True
                  have hr := ite_t g10 hr
                  refine LF.gd rfl rfl rfl (gd g10 rfl) rfl (LAt.load rfl rfl rfl vt55 rfl rfl) rfl ?_
                  obtain ⟨v12, h_v12, hr⟩ := bind_get hr
                  refine LF.gd (F := []) (s := none) rfl rfl rfl (gd g10 rfl) rfl (fun H _ => LOp.call rfl rfl rfl (by kernel_rfl) (LC.pure (c70 h_v12) (.cons Conv.p (.cons Conv.zs .nil)))) rfl ?_
                  refine LF.gd (F := []) (s := none) rfl rfl rfl (gd g10 rfl) rfl (fun H _ => LOp.bin rfl rfl rfl rfl) rfl ?_
                  refine LF.st (F := []) (s := none) rfl rfl rfl (fun H _ => LOp.pickT rfl (gdl g10 rfl) rfl) rfl ?_
                  refine LF.st (F := []) (s := none) rfl rfl rfl (fun H _ => LOp.move rfl rfl) rfl ?_
                  refine LF.cases 102 rfl (fun (g11 : (v12 == 0) = true) => ?_) (fun (g11 : (v12 == 0) = false) => ?_)
                  · -- g11 is True
                    have hr := ite_t g11 hr
                    refine LF.gd rfl rfl rfl (gd g11 rfl) rfl (LAt.load rfl rfl rfl vt55 rfl rfl) rfl ?_
                    refine LF.gd (F := []) (s := none) rfl rfl rfl (gd g11 rfl) rfl (fun H _ => LOp.move rfl rfl) rfl ?_
                    obtain ⟨q4, hr⟩ := grd_get hr
                    refine LF.gd rfl rfl rfl (gd g11 rfl) rfl (LAt.appendZX i64P l rfl rfl (id := 3) rfl rfl rfl st49 q4) rfl ?_
                    refine LF.gd (F := []) (s := none) rfl rfl rfl (gd g11 rfl) rfl (fun H _ => LOp.move rfl rfl) rfl ?_
                    obtain ⟨q5, hr⟩ := grd_get hr
                    refine LF.gd rfl rfl rfl (gd g11 rfl) rfl (LAt.appendX i64P l l rfl rfl rfl rfl rfl st49 q5) rfl ?_
                    obtain ⟨v13, h_v13, hr⟩ := bind_get hr
                    refine LF.gd (F := [3]) (s := none) rfl rfl rfl (gd g11 rfl) rfl (fun H hA => LOp.call rfl rfl rfl (by kernel_rfl) (LC.lend (c70 h_v13) (.cons Conv.p (.cons (Conv.vecAll (by rw [← nth_eq]; exact hA.get (by simp) rfl) rfl rfl) .nil)) rfl)) rfl ?_
                    refine LF.gd (F := []) (s := none) rfl rfl rfl (gd g11 rfl) rfl (fun H _ => LOp.move rfl rfl) rfl ?_
                    refine LF.gd (F := []) (s := none) rfl rfl rfl (gd g11 rfl) rfl (fun H _ => LOp.bin rfl rfl rfl rfl) rfl ?_
                    refine LF.st (F := []) (s := none) rfl rfl rfl (fun H _ => LOp.pickT rfl (gdl g11 rfl) rfl) rfl ?_
                    refine LF.st (F := []) (s := none) rfl rfl rfl (fun H _ => LOp.assign rfl rfl) rfl ?_
                    refine LF.nil ⟨by kernel_rfl, ?_⟩
                    refine thn_n ?_
                    refine LW.ret ?_
                    obtain rfl := Option.some.inj hr
                    refine finP_ret (.one (.tmp rfl)) ?_
                    exact Conv.p
                  · -- g11 is False
                    have hr := ite_f g11 hr
                    refine LF.sk rfl rfl rfl (gd g11 rfl) rfl rfl ?_
                    refine LF.sk rfl rfl rfl (gd g11 rfl) rfl rfl ?_
                    refine LF.sk rfl rfl rfl (gd g11 rfl) rfl rfl ?_
                    refine LF.sk rfl rfl rfl (gd g11 rfl) rfl rfl ?_
                    refine LF.sk rfl rfl rfl (gd g11 rfl) rfl rfl ?_
                    refine LF.sk rfl rfl rfl (gd g11 rfl) rfl rfl ?_
                    refine LF.sk rfl rfl rfl (gd g11 rfl) rfl rfl ?_
                    refine LF.sk rfl rfl rfl (gd g11 rfl) rfl rfl ?_
                    refine LF.st (F := []) (s := none) rfl rfl rfl (fun H _ => LOp.pickF rfl (gdl g11 rfl) rfl) rfl ?_
                    refine LF.st (F := []) (s := none) rfl rfl rfl (fun H _ => LOp.assign rfl rfl) rfl ?_
                    refine LF.nil ⟨by kernel_rfl, ?_⟩
                    refine thn_n ?_
                    refine LW.ret ?_
                    obtain rfl := Option.some.inj hr
                    refine finP_ret (.one (.tmp rfl)) ?_
                    exact Conv.p
                · -- g10 is False
                  have hr := ite_f g10 hr
                  refine LF.sk rfl rfl rfl (gd g10 rfl) rfl rfl ?_
                  refine LF.sk rfl rfl rfl (gd g10 rfl) rfl rfl ?_
                  refine LF.sk rfl rfl rfl (gd g10 rfl) rfl rfl ?_
                  refine LF.st (F := []) (s := none) rfl rfl rfl (fun H _ => LOp.pickF rfl (gdl g10 rfl) rfl) rfl ?_
                  refine LF.st (F := []) (s := none) rfl rfl rfl (fun H _ => LOp.move rfl rfl) rfl ?_
                  refine LF.sk rfl rfl rfl rfl rfl rfl ?_
                  refine LF.sk rfl rfl rfl rfl rfl rfl ?_
                  refine LF.sk rfl rfl rfl rfl rfl rfl ?_
                  refine LF.sk rfl rfl rfl rfl rfl rfl ?_
                  refine LF.sk rfl rfl rfl rfl rfl rfl ?_
                  refine LF.sk rfl rfl rfl rfl rfl rfl ?_
                  refine LF.sk rfl rfl rfl rfl rfl rfl ?_
                  refine LF.sk rfl rfl rfl rfl rfl rfl ?_
                  refine LF.st (F := []) (s := none) rfl rfl rfl (fun H _ => LOp.pickF rfl rfl rfl) rfl ?_
                  refine LF.st (F := []) (s := none) rfl rfl rfl (fun H _ => LOp.assign rfl rfl) rfl ?_
                  refine LF.nil ⟨by kernel_rfl, ?_⟩
                  refine thn_n ?_
                  refine LW.ret ?_
                  obtain rfl := Option.some.inj hr
                  refine finP_ret (.one (.tmp rfl)) ?_
                  exact Conv.p
              · -- g9 is False
                have hr := ite_f g9 hr
                refine LF.gd (F := []) (s := none) rfl rfl rfl (gd g9 rfl) rfl (fun H _ => LOp.move rfl rfl) rfl ?_
                refine LF.gd (F := []) (s := none) rfl rfl rfl (gd g9 rfl) rfl (fun H _ => LOp.not rfl rfl) rfl ?_
                refine LF.gd (F := []) (s := none) rfl rfl rfl (gd g9 rfl) rfl (fun H _ => LOp.move rfl rfl) rfl ?_
                refine LF.cases 80 rfl (fun (g12 : (!v7) = true) => ?_) (fun (g12 : (!v7) = false) => ?_)
                · -- g12 is True
                  have hr := ite_t g12 hr
                  refine LF.gd (F := []) (s := none) rfl rfl rfl (gd g12 rfl) rfl (fun H _ => LOp.move rfl rfl) rfl ?_
                  refine LF.gd (F := []) (s := none) rfl rfl rfl (gd g12 rfl) rfl (fun H _ => LOp.move rfl rfl) rfl ?_
                  refine LF.gd (F := []) (s := none) rfl rfl rfl (gd g12 rfl) rfl (fun H _ => LOp.move rfl rfl) rfl ?_
                  refine LF.gd (F := []) (s := none) rfl rfl rfl (gd g12 rfl) rfl (fun H _ => LOp.bin rfl rfl rfl rfl) rfl ?_
                  refine LF.gd (F := []) (s := none) rfl rfl rfl (gd g12 rfl) rfl (fun H _ => LOp.bin rfl rfl rfl rfl) rfl ?_
                  refine LF.gd (F := []) (s := none) rfl rfl rfl (gd g9 rfl) rfl (fun H _ => LOp.pickT rfl (gdl g12 rfl) rfl) rfl ?_
                  refine LF.gd (F := []) (s := none) rfl rfl rfl (gd g7 rfl) rfl (fun H _ => LOp.pickF rfl (gdl g9 rfl) rfl) rfl ?_
                  refine LF.st (F := []) (s := none) rfl rfl rfl (fun H _ => LOp.pickT rfl (gdl g7 rfl) rfl) rfl ?_
                  refine LF.st (F := []) (s := none) rfl rfl rfl (fun H _ => LOp.move rfl rfl) rfl ?_
                  refine LF.cases 89 rfl (fun (g13 : (v5 == (IntKind.i64.wrap (v4 + v6))) = true) => ?_) (fun (g13 : (v5 == (IntKind.i64.wrap (v4 + v6))) = false) => ?_)
                  · -- g13 is True
                    have hr := ite_t g13 hr
                    refine LF.gd rfl rfl rfl (gd g13 rfl) rfl (LAt.load rfl rfl rfl vt55 rfl rfl) rfl ?_
                    refine LF.gd (F := []) (s := none) rfl rfl rfl (gd g13 rfl) rfl (fun H _ => LOp.move rfl rfl) rfl ?_
                    obtain ⟨v14, h_v14, hr⟩ := bind_get hr
                    refine LF.gd (F := [2]) (s := none) rfl rfl rfl (gd g13 rfl) rfl (fun H hA => LOp.call rfl rfl rfl (by kernel_rfl) (LC.lend (c70 h_v14) (.cons Conv.p (.cons (Conv.vecAll (by rw [← nth_eq]; exact hA.get (by simp) rfl) rfl rfl) .nil)) rfl)) rfl ?_
                    refine LF.gd rfl rfl rfl (gd g13 rfl) rfl (LAt.load rfl rfl rfl vt55 rfl rfl) rfl ?_
                    obtain ⟨v15, h_v15, hr⟩ := bind_get hr
                    refine LF.gd (F := []) (s := none) rfl rfl rfl (gd g13 rfl) rfl (fun H _ => LOp.call rfl rfl rfl (by kernel_rfl) (LC.pure (c72 h_v15) (.cons Conv.p .nil))) rfl ?_
                    refine LF.gd (F := []) (s := none) rfl rfl rfl (gd g13 rfl) rfl (fun H _ => LOp.bin rfl rfl rfl rfl) rfl ?_
                    refine LF.st (F := []) (s := none) rfl rfl rfl (fun H _ => LOp.pickT rfl (gdl g13 rfl) rfl) rfl ?_
                    refine LF.st (F := []) (s := none) rfl rfl rfl (fun H _ => LOp.move rfl rfl) rfl ?_
                    refine LF.cases 97 rfl (fun (g14 : (v14 == v15) = true) => ?_) (fun (g14 : (v14 == v15) = false) => ?_)
                    · -- g14 is True
                      have hr := ite_t g14 hr
                      refine LF.gd rfl rfl rfl (gd g14 rfl) rfl (LAt.load rfl rfl rfl vt55 rfl rfl) rfl ?_
                      obtain ⟨v16, h_v16, hr⟩ := bind_get hr
                      refine LF.gd (F := []) (s := none) rfl rfl rfl (gd g14 rfl) rfl (fun H _ => LOp.call rfl rfl rfl (by kernel_rfl) (LC.pure (c70 h_v16) (.cons Conv.p (.cons Conv.zs .nil)))) rfl ?_
                      refine LF.gd (F := []) (s := none) rfl rfl rfl (gd g14 rfl) rfl (fun H _ => LOp.bin rfl rfl rfl rfl) rfl ?_
                      refine LF.st (F := []) (s := none) rfl rfl rfl (fun H _ => LOp.pickT rfl (gdl g14 rfl) rfl) rfl ?_
                      refine LF.st (F := []) (s := none) rfl rfl rfl (fun H _ => LOp.move rfl rfl) rfl ?_
                      refine LF.cases 102 rfl (fun (g15 : (v16 == 0) = true) => ?_) (fun (g15 : (v16 == 0) = false) => ?_)
                      · -- g15 is True
                        have hr := ite_t g15 hr
                        refine LF.gd rfl rfl rfl (gd g15 rfl) rfl (LAt.load rfl rfl rfl vt55 rfl rfl) rfl ?_
                        refine LF.gd (F := []) (s := none) rfl rfl rfl (gd g15 rfl) rfl (fun H _ => LOp.move rfl rfl) rfl ?_
                        obtain ⟨q6, hr⟩ := grd_get hr
                        refine LF.gd rfl rfl rfl (gd g15 rfl) rfl (LAt.appendZX i64P l rfl rfl (id := 3) rfl rfl rfl st49 q6) rfl ?_
                        refine LF.gd (F := []) (s := none) rfl rfl rfl (gd g15 rfl) rfl (fun H _ => LOp.move rfl rfl) rfl ?_
                        obtain ⟨q7, hr⟩ := grd_get hr
                        refine LF.gd rfl rfl rfl (gd g15 rfl) rfl (LAt.appendX i64P l l rfl rfl rfl rfl rfl st49 q7) rfl ?_
                        obtain ⟨v17, h_v17, hr⟩ := bind_get hr
                        refine LF.gd (F := [3]) (s := none) rfl rfl rfl (gd g15 rfl) rfl (fun H hA => LOp.call rfl rfl rfl (by kernel_rfl) (LC.lend (c70 h_v17) (.cons Conv.p (.cons (Conv.vecAll (by rw [← nth_eq]; exact hA.get (by simp) rfl) rfl rfl) .nil)) rfl)) rfl ?_
                        refine LF.gd (F := []) (s := none) rfl rfl rfl (gd g15 rfl) rfl (fun H _ => LOp.move rfl rfl) rfl ?_
                        refine LF.gd (F := []) (s := none) rfl rfl rfl (gd g15 rfl) rfl (fun H _ => LOp.bin rfl rfl rfl rfl) rfl ?_
                        refine LF.st (F := []) (s := none) rfl rfl rfl (fun H _ => LOp.pickT rfl (gdl g15 rfl) rfl) rfl ?_
                        refine LF.st (F := []) (s := none) rfl rfl rfl (fun H _ => LOp.assign rfl rfl) rfl ?_
                        refine LF.nil ⟨by kernel_rfl, ?_⟩
                        refine thn_n ?_
                        refine LW.ret ?_
                        obtain rfl := Option.some.inj hr
                        refine finP_ret (.one (.tmp rfl)) ?_
                        exact Conv.p
                      · -- g15 is False
                        have hr := ite_f g15 hr
                        refine LF.sk rfl rfl rfl (gd g15 rfl) rfl rfl ?_
                        refine LF.sk rfl rfl rfl (gd g15 rfl) rfl rfl ?_
                        refine LF.sk rfl rfl rfl (gd g15 rfl) rfl rfl ?_
                        refine LF.sk rfl rfl rfl (gd g15 rfl) rfl rfl ?_
                        refine LF.sk rfl rfl rfl (gd g15 rfl) rfl rfl ?_
                        refine LF.sk rfl rfl rfl (gd g15 rfl) rfl rfl ?_
                        refine LF.sk rfl rfl rfl (gd g15 rfl) rfl rfl ?_
                        refine LF.sk rfl rfl rfl (gd g15 rfl) rfl rfl ?_
                        refine LF.st (F := []) (s := none) rfl rfl rfl (fun H _ => LOp.pickF rfl (gdl g15 rfl) rfl) rfl ?_
                        refine LF.st (F := []) (s := none) rfl rfl rfl (fun H _ => LOp.assign rfl rfl) rfl ?_
                        refine LF.nil ⟨by kernel_rfl, ?_⟩
                        refine thn_n ?_
                        refine LW.ret ?_
                        obtain rfl := Option.some.inj hr
                        refine finP_ret (.one (.tmp rfl)) ?_
                        exact Conv.p
                    · -- g14 is False
                      have hr := ite_f g14 hr
                      refine LF.sk rfl rfl rfl (gd g14 rfl) rfl rfl ?_
                      refine LF.sk rfl rfl rfl (gd g14 rfl) rfl rfl ?_
                      refine LF.sk rfl rfl rfl (gd g14 rfl) rfl rfl ?_
                      refine LF.st (F := []) (s := none) rfl rfl rfl (fun H _ => LOp.pickF rfl (gdl g14 rfl) rfl) rfl ?_
                      refine LF.st (F := []) (s := none) rfl rfl rfl (fun H _ => LOp.move rfl rfl) rfl ?_
                      refine LF.sk rfl rfl rfl rfl rfl rfl ?_
                      refine LF.sk rfl rfl rfl rfl rfl rfl ?_
                      refine LF.sk rfl rfl rfl rfl rfl rfl ?_
                      refine LF.sk rfl rfl rfl rfl rfl rfl ?_
                      refine LF.sk rfl rfl rfl rfl rfl rfl ?_
                      refine LF.sk rfl rfl rfl rfl rfl rfl ?_
                      refine LF.sk rfl rfl rfl rfl rfl rfl ?_
                      refine LF.sk rfl rfl rfl rfl rfl rfl ?_
                      refine LF.st (F := []) (s := none) rfl rfl rfl (fun H _ => LOp.pickF rfl rfl rfl) rfl ?_
                      refine LF.st (F := []) (s := none) rfl rfl rfl (fun H _ => LOp.assign rfl rfl) rfl ?_
                      refine LF.nil ⟨by kernel_rfl, ?_⟩
                      refine thn_n ?_
                      refine LW.ret ?_
                      obtain rfl := Option.some.inj hr
                      refine finP_ret (.one (.tmp rfl)) ?_
                      exact Conv.p
                  · -- g13 is False
                    have hr := ite_f g13 hr
                    refine LF.sk rfl rfl rfl (gd g13 rfl) rfl rfl ?_
                    refine LF.sk rfl rfl rfl (gd g13 rfl) rfl rfl ?_
                    refine LF.sk rfl rfl rfl (gd g13 rfl) rfl rfl ?_
                    refine LF.sk rfl rfl rfl (gd g13 rfl) rfl rfl ?_
                    refine LF.sk rfl rfl rfl (gd g13 rfl) rfl rfl ?_
                    refine LF.sk rfl rfl rfl (gd g13 rfl) rfl rfl ?_
                    refine LF.st (F := []) (s := none) rfl rfl rfl (fun H _ => LOp.pickF rfl (gdl g13 rfl) rfl) rfl ?_
                    refine LF.st (F := []) (s := none) rfl rfl rfl (fun H _ => LOp.move rfl rfl) rfl ?_
                    refine LF.sk rfl rfl rfl rfl rfl rfl ?_
                    refine LF.sk rfl rfl rfl rfl rfl rfl ?_
                    refine LF.sk rfl rfl rfl rfl rfl rfl ?_
                    refine LF.st (F := []) (s := none) rfl rfl rfl (fun H _ => LOp.pickF rfl rfl rfl) rfl ?_
                    refine LF.st (F := []) (s := none) rfl rfl rfl (fun H _ => LOp.move rfl rfl) rfl ?_
                    refine LF.sk rfl rfl rfl rfl rfl rfl ?_
                    refine LF.sk rfl rfl rfl rfl rfl rfl ?_
                    refine LF.sk rfl rfl rfl rfl rfl rfl ?_
                    refine LF.sk rfl rfl rfl rfl rfl rfl ?_
                    refine LF.sk rfl rfl rfl rfl rfl rfl ?_
                    refine LF.sk rfl rfl rfl rfl rfl rfl ?_
                    refine LF.sk rfl rfl rfl rfl rfl rfl ?_
                    refine LF.sk rfl rfl rfl rfl rfl rfl ?_
                    refine LF.st (F := []) (s := none) rfl rfl rfl (fun H _ => LOp.pickF rfl rfl rfl) rfl ?_
                    refine LF.st (F := []) (s := none) rfl rfl rfl (fun H _ => LOp.assign rfl rfl) rfl ?_
                    refine LF.nil ⟨by kernel_rfl, ?_⟩
                    refine thn_n ?_
                    refine LW.ret ?_
                    obtain rfl := Option.some.inj hr
                    refine finP_ret (.one (.tmp rfl)) ?_
                    exact Conv.p
                · -- g12 is False
                  have hr := ite_f g12 hr
                  refine LF.sk rfl rfl rfl (gd g12 rfl) rfl rfl ?_
                  refine LF.sk rfl rfl rfl (gd g12 rfl) rfl rfl ?_
                  refine LF.sk rfl rfl rfl (gd g12 rfl) rfl rfl ?_
                  refine LF.sk rfl rfl rfl (gd g12 rfl) rfl rfl ?_
                  refine LF.sk rfl rfl rfl (gd g12 rfl) rfl rfl ?_
                  refine LF.gd (F := []) (s := none) rfl rfl rfl (gd g9 rfl) rfl (fun H _ => LOp.pickF rfl (gdl g12 rfl) rfl) rfl ?_
                  refine LF.gd (F := []) (s := none) rfl rfl rfl (gd g7 rfl) rfl (fun H _ => LOp.pickF rfl (gdl g9 rfl) rfl) rfl ?_
                  refine LF.st (F := []) (s := none) rfl rfl rfl (fun H _ => LOp.pickT rfl (gdl g7 rfl) rfl) rfl ?_
                  refine LF.st (F := []) (s := none) rfl rfl rfl (fun H _ => LOp.move rfl rfl) rfl ?_
                  refine LF.sk rfl rfl rfl rfl rfl rfl ?_
                  refine LF.sk rfl rfl rfl rfl rfl rfl ?_
                  refine LF.sk rfl rfl rfl rfl rfl rfl ?_
                  refine LF.sk rfl rfl rfl rfl rfl rfl ?_
                  refine LF.sk rfl rfl rfl rfl rfl rfl ?_
                  refine LF.sk rfl rfl rfl rfl rfl rfl ?_
                  refine LF.st (F := []) (s := none) rfl rfl rfl (fun H _ => LOp.pickF rfl rfl rfl) rfl ?_
                  refine LF.st (F := []) (s := none) rfl rfl rfl (fun H _ => LOp.move rfl rfl) rfl ?_
                  refine LF.sk rfl rfl rfl rfl rfl rfl ?_
                  refine LF.sk rfl rfl rfl rfl rfl rfl ?_
                  refine LF.sk rfl rfl rfl rfl rfl rfl ?_
                  refine LF.st (F := []) (s := none) rfl rfl rfl (fun H _ => LOp.pickF rfl rfl rfl) rfl ?_
                  refine LF.st (F := []) (s := none) rfl rfl rfl (fun H _ => LOp.move rfl rfl) rfl ?_
                  refine LF.sk rfl rfl rfl rfl rfl rfl ?_
                  refine LF.sk rfl rfl rfl rfl rfl rfl ?_
                  refine LF.sk rfl rfl rfl rfl rfl rfl ?_
                  refine LF.sk rfl rfl rfl rfl rfl rfl ?_
                  refine LF.sk rfl rfl rfl rfl rfl rfl ?_
                  refine LF.sk rfl rfl rfl rfl rfl rfl ?_
                  refine LF.sk rfl rfl rfl rfl rfl rfl ?_
                  refine LF.sk rfl rfl rfl rfl rfl rfl ?_
                  refine LF.st (F := []) (s := none) rfl rfl rfl (fun H _ => LOp.pickF rfl rfl rfl) rfl ?_
                  refine LF.st (F := []) (s := none) rfl rfl rfl (fun H _ => LOp.assign rfl rfl) rfl ?_
                  refine LF.nil ⟨by kernel_rfl, ?_⟩
                  refine thn_n ?_
                  refine LW.ret ?_
                  obtain rfl := Option.some.inj hr
                  refine finP_ret (.one (.tmp rfl)) ?_
                  exact Conv.p
            · -- g8 is False
              have hr := ite_f g8 hr
              refine LF.sk rfl rfl rfl (gd g8 rfl) rfl rfl ?_
              refine LF.sk rfl rfl rfl (gd g8 rfl) rfl rfl ?_
              refine LF.sk rfl rfl rfl (gd g8 rfl) rfl rfl ?_
              refine LF.gd (F := []) (s := none) rfl rfl rfl (gd g7 rfl) rfl (fun H _ => LOp.pickF rfl (gdl g8 rfl) rfl) rfl ?_
              refine LF.gd (F := []) (s := none) rfl rfl rfl (gd g7 rfl) rfl (fun H _ => LOp.move rfl rfl) rfl ?_
              refine LF.gd (F := []) (s := none) rfl rfl rfl rfl rfl (fun H _ => LOp.move rfl rfl) rfl ?_
              refine LF.gd (F := []) (s := none) rfl rfl rfl rfl rfl (fun H _ => LOp.not rfl rfl) rfl ?_
              refine LF.gd (F := []) (s := none) rfl rfl rfl rfl rfl (fun H _ => LOp.move rfl rfl) rfl ?_
              refine LF.cases 80 rfl (fun (g16 : (!v7) = true) => ?_) (fun (g16 : (!v7) = false) => ?_)
              · -- g16 is True
                have hr := ite_t g16 hr
                refine LF.gd (F := []) (s := none) rfl rfl rfl (gd g16 rfl) rfl (fun H _ => LOp.move rfl rfl) rfl ?_
                refine LF.gd (F := []) (s := none) rfl rfl rfl (gd g16 rfl) rfl (fun H _ => LOp.move rfl rfl) rfl ?_
                refine LF.gd (F := []) (s := none) rfl rfl rfl (gd g16 rfl) rfl (fun H _ => LOp.move rfl rfl) rfl ?_
                refine LF.gd (F := []) (s := none) rfl rfl rfl (gd g16 rfl) rfl (fun H _ => LOp.bin rfl rfl rfl rfl) rfl ?_
                refine LF.gd (F := []) (s := none) rfl rfl rfl (gd g16 rfl) rfl (fun H _ => LOp.bin rfl rfl rfl rfl) rfl ?_
                refine LF.gd (F := []) (s := none) rfl rfl rfl rfl rfl (fun H _ => LOp.pickT rfl (gdl g16 rfl) rfl) rfl ?_
                refine LF.gd (F := []) (s := none) rfl rfl rfl (gd g7 rfl) rfl (fun H _ => LOp.pickF rfl rfl rfl) rfl ?_
                refine LF.st (F := []) (s := none) rfl rfl rfl (fun H _ => LOp.pickT rfl (gdl g7 rfl) rfl) rfl ?_
                refine LF.st (F := []) (s := none) rfl rfl rfl (fun H _ => LOp.move rfl rfl) rfl ?_
                refine LF.cases 89 rfl (fun (g17 : (v5 == (IntKind.i64.wrap (v4 + v6))) = true) => ?_) (fun (g17 : (v5 == (IntKind.i64.wrap (v4 + v6))) = false) => ?_)
                · -- g17 is True
                  have hr := ite_t g17 hr
                  refine LF.gd rfl rfl rfl (gd g17 rfl) rfl (LAt.load rfl rfl rfl vt55 rfl rfl) rfl ?_
                  refine LF.gd (F := []) (s := none) rfl rfl rfl (gd g17 rfl) rfl (fun H _ => LOp.move rfl rfl) rfl ?_
                  obtain ⟨v18, h_v18, hr⟩ := bind_get hr
                  refine LF.gd (F := [2]) (s := none) rfl rfl rfl (gd g17 rfl) rfl (fun H hA => LOp.call rfl rfl rfl (by kernel_rfl) (LC.lend (c70 h_v18) (.cons Conv.p (.cons (Conv.vecAll (by rw [← nth_eq]; exact hA.get (by simp) rfl) rfl rfl) .nil)) rfl)) rfl ?_
                  refine LF.gd rfl rfl rfl (gd g17 rfl) rfl (LAt.load rfl rfl rfl vt55 rfl rfl) rfl ?_
                  obtain ⟨v19, h_v19, hr⟩ := bind_get hr
                  refine LF.gd (F := []) (s := none) rfl rfl rfl (gd g17 rfl) rfl (fun H _ => LOp.call rfl rfl rfl (by kernel_rfl) (LC.pure (c72 h_v19) (.cons Conv.p .nil))) rfl ?_
                  refine LF.gd (F := []) (s := none) rfl rfl rfl (gd g17 rfl) rfl (fun H _ => LOp.bin rfl rfl rfl rfl) rfl ?_
                  refine LF.st (F := []) (s := none) rfl rfl rfl (fun H _ => LOp.pickT rfl (gdl g17 rfl) rfl) rfl ?_
                  refine LF.st (F := []) (s := none) rfl rfl rfl (fun H _ => LOp.move rfl rfl) rfl ?_
                  refine LF.cases 97 rfl (fun (g18 : (v18 == v19) = true) => ?_) (fun (g18 : (v18 == v19) = false) => ?_)
                  · -- g18 is True
                    have hr := ite_t g18 hr
                    refine LF.gd rfl rfl rfl (gd g18 rfl) rfl (LAt.load rfl rfl rfl vt55 rfl rfl) rfl ?_
                    obtain ⟨v20, h_v20, hr⟩ := bind_get hr
                    refine LF.gd (F := []) (s := none) rfl rfl rfl (gd g18 rfl) rfl (fun H _ => LOp.call rfl rfl rfl (by kernel_rfl) (LC.pure (c70 h_v20) (.cons Conv.p (.cons Conv.zs .nil)))) rfl ?_
                    refine LF.gd (F := []) (s := none) rfl rfl rfl (gd g18 rfl) rfl (fun H _ => LOp.bin rfl rfl rfl rfl) rfl ?_
                    refine LF.st (F := []) (s := none) rfl rfl rfl (fun H _ => LOp.pickT rfl (gdl g18 rfl) rfl) rfl ?_
                    refine LF.st (F := []) (s := none) rfl rfl rfl (fun H _ => LOp.move rfl rfl) rfl ?_
                    refine LF.cases 102 rfl (fun (g19 : (v20 == 0) = true) => ?_) (fun (g19 : (v20 == 0) = false) => ?_)
                    · -- g19 is True
                      have hr := ite_t g19 hr
                      refine LF.gd rfl rfl rfl (gd g19 rfl) rfl (LAt.load rfl rfl rfl vt55 rfl rfl) rfl ?_
                      refine LF.gd (F := []) (s := none) rfl rfl rfl (gd g19 rfl) rfl (fun H _ => LOp.move rfl rfl) rfl ?_
                      obtain ⟨q8, hr⟩ := grd_get hr
                      refine LF.gd rfl rfl rfl (gd g19 rfl) rfl (LAt.appendZX i64P l rfl rfl (id := 3) rfl rfl rfl st49 q8) rfl ?_
                      refine LF.gd (F := []) (s := none) rfl rfl rfl (gd g19 rfl) rfl (fun H _ => LOp.move rfl rfl) rfl ?_
                      obtain ⟨q9, hr⟩ := grd_get hr
                      refine LF.gd rfl rfl rfl (gd g19 rfl) rfl (LAt.appendX i64P l l rfl rfl rfl rfl rfl st49 q9) rfl ?_
                      obtain ⟨v21, h_v21, hr⟩ := bind_get hr
                      refine LF.gd (F := [3]) (s := none) rfl rfl rfl (gd g19 rfl) rfl (fun H hA => LOp.call rfl rfl rfl (by kernel_rfl) (LC.lend (c70 h_v21) (.cons Conv.p (.cons (Conv.vecAll (by rw [← nth_eq]; exact hA.get (by simp) rfl) rfl rfl) .nil)) rfl)) rfl ?_
                      refine LF.gd (F := []) (s := none) rfl rfl rfl (gd g19 rfl) rfl (fun H _ => LOp.move rfl rfl) rfl ?_
                      refine LF.gd (F := []) (s := none) rfl rfl rfl (gd g19 rfl) rfl (fun H _ => LOp.bin rfl rfl rfl rfl) rfl ?_
                      refine LF.st (F := []) (s := none) rfl rfl rfl (fun H _ => LOp.pickT rfl (gdl g19 rfl) rfl) rfl ?_
                      refine LF.st (F := []) (s := none) rfl rfl rfl (fun H _ => LOp.assign rfl rfl) rfl ?_
                      refine LF.nil ⟨by kernel_rfl, ?_⟩
                      refine thn_n ?_
                      refine LW.ret ?_
                      obtain rfl := Option.some.inj hr
                      refine finP_ret (.one (.tmp rfl)) ?_
                      exact Conv.p
                    · -- g19 is False
                      have hr := ite_f g19 hr
                      refine LF.sk rfl rfl rfl (gd g19 rfl) rfl rfl ?_
                      refine LF.sk rfl rfl rfl (gd g19 rfl) rfl rfl ?_
                      refine LF.sk rfl rfl rfl (gd g19 rfl) rfl rfl ?_
                      refine LF.sk rfl rfl rfl (gd g19 rfl) rfl rfl ?_
                      refine LF.sk rfl rfl rfl (gd g19 rfl) rfl rfl ?_
                      refine LF.sk rfl rfl rfl (gd g19 rfl) rfl rfl ?_
                      refine LF.sk rfl rfl rfl (gd g19 rfl) rfl rfl ?_
                      refine LF.sk rfl rfl rfl (gd g19 rfl) rfl rfl ?_
                      refine LF.st (F := []) (s := none) rfl rfl rfl (fun H _ => LOp.pickF rfl (gdl g19 rfl) rfl) rfl ?_
                      refine LF.st (F := []) (s := none) rfl rfl rfl (fun H _ => LOp.assign rfl rfl) rfl ?_
                      refine LF.nil ⟨by kernel_rfl, ?_⟩
                      refine thn_n ?_
                      refine LW.ret ?_
                      obtain rfl := Option.some.inj hr
                      refine finP_ret (.one (.tmp rfl)) ?_
                      exact Conv.p
                  · -- g18 is False
                    have hr := ite_f g18 hr
                    refine LF.sk rfl rfl rfl (gd g18 rfl) rfl rfl ?_
                    refine LF.sk rfl rfl rfl (gd g18 rfl) rfl rfl ?_
                    refine LF.sk rfl rfl rfl (gd g18 rfl) rfl rfl ?_
                    refine LF.st (F := []) (s := none) rfl rfl rfl (fun H _ => LOp.pickF rfl (gdl g18 rfl) rfl) rfl ?_
                    refine LF.st (F := []) (s := none) rfl rfl rfl (fun H _ => LOp.move rfl rfl) rfl ?_
                    refine LF.sk rfl rfl rfl rfl rfl rfl ?_
                    refine LF.sk rfl rfl rfl rfl rfl rfl ?_
                    refine LF.sk rfl rfl rfl rfl rfl rfl ?_
                    refine LF.sk rfl rfl rfl rfl rfl rfl ?_
                    refine LF.sk rfl rfl rfl rfl rfl rfl ?_
                    refine LF.sk rfl rfl rfl rfl rfl rfl ?_
                    refine LF.sk rfl rfl rfl rfl rfl rfl ?_
                    refine LF.sk rfl rfl rfl rfl rfl rfl ?_
                    refine LF.st (F := []) (s := none) rfl rfl rfl (fun H _ => LOp.pickF rfl rfl rfl) rfl ?_
                    refine LF.st (F := []) (s := none) rfl rfl rfl (fun H _ => LOp.assign rfl rfl) rfl ?_
                    refine LF.nil ⟨by kernel_rfl, ?_⟩
                    refine thn_n ?_
                    refine LW.ret ?_
                    obtain rfl := Option.some.inj hr
                    refine finP_ret (.one (.tmp rfl)) ?_
                    exact Conv.p
                · -- g17 is False
                  have hr := ite_f g17 hr
                  refine LF.sk rfl rfl rfl (gd g17 rfl) rfl rfl ?_
                  refine LF.sk rfl rfl rfl (gd g17 rfl) rfl rfl ?_
                  refine LF.sk rfl rfl rfl (gd g17 rfl) rfl rfl ?_
                  refine LF.sk rfl rfl rfl (gd g17 rfl) rfl rfl ?_
                  refine LF.sk rfl rfl rfl (gd g17 rfl) rfl rfl ?_
                  refine LF.sk rfl rfl rfl (gd g17 rfl) rfl rfl ?_
                  refine LF.st (F := []) (s := none) rfl rfl rfl (fun H _ => LOp.pickF rfl (gdl g17 rfl) rfl) rfl ?_
                  refine LF.st (F := []) (s := none) rfl rfl rfl (fun H _ => LOp.move rfl rfl) rfl ?_
                  refine LF.sk rfl rfl rfl rfl rfl rfl ?_
                  refine LF.sk rfl rfl rfl rfl rfl rfl ?_
                  refine LF.sk rfl rfl rfl rfl rfl rfl ?_
                  refine LF.st (F := []) (s := none) rfl rfl rfl (fun H _ => LOp.pickF rfl rfl rfl) rfl ?_
                  refine LF.st (F := []) (s := none) rfl rfl rfl (fun H _ => LOp.move rfl rfl) rfl ?_
                  refine LF.sk rfl rfl rfl rfl rfl rfl ?_
                  refine LF.sk rfl rfl rfl rfl rfl rfl ?_
                  refine LF.sk rfl rfl rfl rfl rfl rfl ?_
                  refine LF.sk rfl rfl rfl rfl rfl rfl ?_
                  refine LF.sk rfl rfl rfl rfl rfl rfl ?_
                  refine LF.sk rfl rfl rfl rfl rfl rfl ?_
                  refine LF.sk rfl rfl rfl rfl rfl rfl ?_
                  refine LF.sk rfl rfl rfl rfl rfl rfl ?_
                  refine LF.st (F := []) (s := none) rfl rfl rfl (fun H _ => LOp.pickF rfl rfl rfl) rfl ?_
                  refine LF.st (F := []) (s := none) rfl rfl rfl (fun H _ => LOp.assign rfl rfl) rfl ?_
                  refine LF.nil ⟨by kernel_rfl, ?_⟩
                  refine thn_n ?_
                  refine LW.ret ?_
                  obtain rfl := Option.some.inj hr
                  refine finP_ret (.one (.tmp rfl)) ?_
                  exact Conv.p
              · -- g16 is False
                have hr := ite_f g16 hr
                refine LF.sk rfl rfl rfl (gd g16 rfl) rfl rfl ?_
                refine LF.sk rfl rfl rfl (gd g16 rfl) rfl rfl ?_
                refine LF.sk rfl rfl rfl (gd g16 rfl) rfl rfl ?_
                refine LF.sk rfl rfl rfl (gd g16 rfl) rfl rfl ?_
                refine LF.sk rfl rfl rfl (gd g16 rfl) rfl rfl ?_
                refine LF.gd (F := []) (s := none) rfl rfl rfl rfl rfl (fun H _ => LOp.pickF rfl (gdl g16 rfl) rfl) rfl ?_
                refine LF.gd (F := []) (s := none) rfl rfl rfl (gd g7 rfl) rfl (fun H _ => LOp.pickF rfl rfl rfl) rfl ?_
                refine LF.st (F := []) (s := none) rfl rfl rfl (fun H _ => LOp.pickT rfl (gdl g7 rfl) rfl) rfl ?_
                refine LF.st (F := []) (s := none) rfl rfl rfl (fun H _ => LOp.move rfl rfl) rfl ?_
                refine LF.sk rfl rfl rfl rfl rfl rfl ?_
                refine LF.sk rfl rfl rfl rfl rfl rfl ?_
                refine LF.sk rfl rfl rfl rfl rfl rfl ?_
                refine LF.sk rfl rfl rfl rfl rfl rfl ?_
                refine LF.sk rfl rfl rfl rfl rfl rfl ?_
                refine LF.sk rfl rfl rfl rfl rfl rfl ?_
                refine LF.st (F := []) (s := none) rfl rfl rfl (fun H _ => LOp.pickF rfl rfl rfl) rfl ?_
                refine LF.st (F := []) (s := none) rfl rfl rfl (fun H _ => LOp.move rfl rfl) rfl ?_
                refine LF.sk rfl rfl rfl rfl rfl rfl ?_
                refine LF.sk rfl rfl rfl rfl rfl rfl ?_
                refine LF.sk rfl rfl rfl rfl rfl rfl ?_
                refine LF.st (F := []) (s := none) rfl rfl rfl (fun H _ => LOp.pickF rfl rfl rfl) rfl ?_
                refine LF.st (F := []) (s := none) rfl rfl rfl (fun H _ => LOp.move rfl rfl) rfl ?_
                refine LF.sk rfl rfl rfl rfl rfl rfl ?_
                refine LF.sk rfl rfl rfl rfl rfl rfl ?_
                refine LF.sk rfl rfl rfl rfl rfl rfl ?_
                refine LF.sk rfl rfl rfl rfl rfl rfl ?_
                refine LF.sk rfl rfl rfl rfl rfl rfl ?_
                refine LF.sk rfl rfl rfl rfl rfl rfl ?_
                refine LF.sk rfl rfl rfl rfl rfl rfl ?_
                refine LF.sk rfl rfl rfl rfl rfl rfl ?_
                refine LF.st (F := []) (s := none) rfl rfl rfl (fun H _ => LOp.pickF rfl rfl rfl) rfl ?_
                refine LF.st (F := []) (s := none) rfl rfl rfl (fun H _ => LOp.assign rfl rfl) rfl ?_
                refine LF.nil ⟨by kernel_rfl, ?_⟩
                refine thn_n ?_
                refine LW.ret ?_
                obtain rfl := Option.some.inj hr
                refine finP_ret (.one (.tmp rfl)) ?_
                exact Conv.p
          · -- g7 is False
            have hr := ite_f g7 hr
            refine LF.sk rfl rfl rfl (gd g7 rfl) rfl rfl ?_
            refine LF.sk rfl rfl rfl (gd g7 rfl) rfl rfl ?_
            refine LF.sku rfl rfl rfl rfl rfl ?_
            refine LF.sku rfl rfl rfl rfl rfl ?_
            refine LF.sku rfl rfl rfl rfl rfl ?_
            refine LF.sk rfl rfl rfl (gd g7 rfl) rfl rfl ?_
            refine LF.sk rfl rfl rfl (gd g7 rfl) rfl rfl ?_
            refine LF.sku rfl rfl rfl rfl rfl ?_
            refine LF.sku rfl rfl rfl rfl rfl ?_
            refine LF.sku rfl rfl rfl rfl rfl ?_
            refine LF.sku rfl rfl rfl rfl rfl ?_
            refine LF.sku rfl rfl rfl rfl rfl ?_
            refine LF.sku rfl rfl rfl rfl rfl ?_
            refine LF.sku rfl rfl rfl rfl rfl ?_
            refine LF.sku rfl rfl rfl rfl rfl ?_
            refine LF.sku rfl rfl rfl rfl rfl ?_
            refine LF.sk rfl rfl rfl (gd g7 rfl) rfl rfl ?_
            refine LF.st (F := []) (s := none) rfl rfl rfl (fun H _ => LOp.pickF rfl (gdl g7 rfl) rfl) rfl ?_
            refine LF.st (F := []) (s := none) rfl rfl rfl (fun H _ => LOp.move rfl rfl) rfl ?_
            refine LF.sk rfl rfl rfl rfl rfl rfl ?_
            refine LF.sk rfl rfl rfl rfl rfl rfl ?_
            refine LF.sk rfl rfl rfl rfl rfl rfl ?_
            refine LF.sk rfl rfl rfl rfl rfl rfl ?_
            refine LF.sk rfl rfl rfl rfl rfl rfl ?_
            refine LF.sk rfl rfl rfl rfl rfl rfl ?_
            refine LF.st (F := []) (s := none) rfl rfl rfl (fun H _ => LOp.pickF rfl rfl rfl) rfl ?_
            refine LF.st (F := []) (s := none) rfl rfl rfl (fun H _ => LOp.move rfl rfl) rfl ?_
            refine LF.sk rfl rfl rfl rfl rfl rfl ?_
            refine LF.sk rfl rfl rfl rfl rfl rfl ?_
            refine LF.sk rfl rfl rfl rfl rfl rfl ?_
            refine LF.st (F := []) (s := none) rfl rfl rfl (fun H _ => LOp.pickF rfl rfl rfl) rfl ?_
            refine LF.st (F := []) (s := none) rfl rfl rfl (fun H _ => LOp.move rfl rfl) rfl ?_
            refine LF.sk rfl rfl rfl rfl rfl rfl ?_
            refine LF.sk rfl rfl rfl rfl rfl rfl ?_
            refine LF.sk rfl rfl rfl rfl rfl rfl ?_
            refine LF.sk rfl rfl rfl rfl rfl rfl ?_
            refine LF.sk rfl rfl rfl rfl rfl rfl ?_
            refine LF.sk rfl rfl rfl rfl rfl rfl ?_
            refine LF.sk rfl rfl rfl rfl rfl rfl ?_
            refine LF.sk rfl rfl rfl rfl rfl rfl ?_
            refine LF.st (F := []) (s := none) rfl rfl rfl (fun H _ => LOp.pickF rfl rfl rfl) rfl ?_
            refine LF.st (F := []) (s := none) rfl rfl rfl (fun H _ => LOp.assign rfl rfl) rfl ?_
            refine LF.nil ⟨by kernel_rfl, ?_⟩
            refine thn_n ?_
            refine LW.ret ?_
            obtain rfl := Option.some.inj hr
            refine finP_ret (.one (.tmp rfl)) ?_
            exact Conv.p
        · -- g6 is False
          have hr := ite_f g6 hr
          refine LF.sk rfl rfl rfl (gd g6 rfl) rfl rfl ?_
          refine LF.sk rfl rfl rfl (gd g6 rfl) rfl rfl ?_
          refine LF.sk rfl rfl rfl (gd g6 rfl) rfl rfl ?_
          refine LF.sk rfl rfl rfl (gd g6 rfl) rfl rfl ?_
          refine LF.st (F := []) (s := none) rfl rfl rfl (fun H _ => LOp.pickF rfl (gdl g6 rfl) rfl) rfl ?_
          refine LF.st (F := []) (s := none) rfl rfl rfl (fun H _ => LOp.move rfl rfl) rfl ?_
          refine LF.sk rfl rfl rfl rfl rfl rfl ?_
          refine LF.sk rfl rfl rfl rfl rfl rfl ?_
          refine LF.sku rfl rfl rfl rfl rfl ?_
          refine LF.sku rfl rfl rfl rfl rfl ?_
          refine LF.sku rfl rfl rfl rfl rfl ?_
          refine LF.sk rfl rfl rfl rfl rfl rfl ?_
          refine LF.sk rfl rfl rfl rfl rfl rfl ?_
          refine LF.sku rfl rfl rfl rfl rfl ?_
          refine LF.sku rfl rfl rfl rfl rfl ?_
          refine LF.sku rfl rfl rfl rfl rfl ?_
          refine LF.sku rfl rfl rfl rfl rfl ?_
          refine LF.sku rfl rfl rfl rfl rfl ?_
          refine LF.sku rfl rfl rfl rfl rfl ?_
          refine LF.sku rfl rfl rfl rfl rfl ?_
          refine LF.sku rfl rfl rfl rfl rfl ?_
          refine LF.sku rfl rfl rfl rfl rfl ?_
          refine LF.sk rfl rfl rfl rfl rfl rfl ?_
          refine LF.st (F := []) (s := none) rfl rfl rfl (fun H _ => LOp.pickF rfl rfl rfl) rfl ?_
          refine LF.st (F := []) (s := none) rfl rfl rfl (fun H _ => LOp.move rfl rfl) rfl ?_
          refine LF.sk rfl rfl rfl rfl rfl rfl ?_
          refine LF.sk rfl rfl rfl rfl rfl rfl ?_
          refine LF.sk rfl rfl rfl rfl rfl rfl ?_
          refine LF.sk rfl rfl rfl rfl rfl rfl ?_
          refine LF.sk rfl rfl rfl rfl rfl rfl ?_
          refine LF.sk rfl rfl rfl rfl rfl rfl ?_
          refine LF.st (F := []) (s := none) rfl rfl rfl (fun H _ => LOp.pickF rfl rfl rfl) rfl ?_
          refine LF.st (F := []) (s := none) rfl rfl rfl (fun H _ => LOp.move rfl rfl) rfl ?_
          refine LF.sk rfl rfl rfl rfl rfl rfl ?_
          refine LF.sk rfl rfl rfl rfl rfl rfl ?_
          refine LF.sk rfl rfl rfl rfl rfl rfl ?_
          refine LF.st (F := []) (s := none) rfl rfl rfl (fun H _ => LOp.pickF rfl rfl rfl) rfl ?_
          refine LF.st (F := []) (s := none) rfl rfl rfl (fun H _ => LOp.move rfl rfl) rfl ?_
          refine LF.sk rfl rfl rfl rfl rfl rfl ?_
          refine LF.sk rfl rfl rfl rfl rfl rfl ?_
          refine LF.sk rfl rfl rfl rfl rfl rfl ?_
          refine LF.sk rfl rfl rfl rfl rfl rfl ?_
          refine LF.sk rfl rfl rfl rfl rfl rfl ?_
          refine LF.sk rfl rfl rfl rfl rfl rfl ?_
          refine LF.sk rfl rfl rfl rfl rfl rfl ?_
          refine LF.sk rfl rfl rfl rfl rfl rfl ?_
          refine LF.st (F := []) (s := none) rfl rfl rfl (fun H _ => LOp.pickF rfl rfl rfl) rfl ?_
          refine LF.st (F := []) (s := none) rfl rfl rfl (fun H _ => LOp.assign rfl rfl) rfl ?_
          refine LF.nil ⟨by kernel_rfl, ?_⟩
          refine thn_n ?_
          refine LW.ret ?_
          obtain rfl := Option.some.inj hr
          refine finP_ret (.one (.tmp rfl)) ?_
          exact Conv.p
open Go.Proofs
structure F24_L1 where
  all : Int
  s : Int
  times : List Int
structure F24_L2 where
  i : Int
  times : List Int
structure F24_L3 where
  i : Int
def F24_s2 (c : Cf) (x1 : F24_L1) (v5 : (List Int)) (x2 : F24_L2) : Option (F24_L2 ⊕ (F24_L2 ⊕ (F24_L1 ⊕ (F24_L1 ⊕ Bool)))) :=
  bif decide (x2.i < (v5.length : Int)) then
    (
      (ix v5 x2.i).bind fun y1 =>
      bif decide (y1 < 0) then
        some (.inr (.inr (.inr (.inr (.inr false)))))
      else
        (ix v5 x2.i).bind fun y2 =>
        bif decide (y2 ≥ (c.W.length : Int)) then
          some (.inr (.inr (.inr (.inr (.inr false)))))
        else
          bif decide (x2.i > 0) then
            (ix v5 x2.i).bind fun y3 =>
            (ix v5 (IntKind.i64.wrap (x2.i - 1))).bind fun y4 =>
            bif decide (y3 ≤ y4) then
              some (.inr (.inr (.inr (.inr (.inr false)))))
            else
              (ix v5 x2.i).bind fun y5 =>
              (F74 c x1.s y5).bind fun v9 =>
              bif !v9 then
                some (.inr (.inr (.inr (.inr (.inr false)))))
              else
                some (.inl ())
          else
            (ix v5 x2.i).bind fun y6 =>
            (F74 c x1.s y6).bind fun v10 =>
            bif !v10 then
              some (.inr (.inr (.inr (.inr (.inr false)))))
            else
              some (.inl ())
    ).bind fun b_v8 => Sum.elim (fun _ =>
      (ix v5 x2.i).bind fun y7 =>
      (ix x2.times y7).bind fun y8 =>
      (ix x2.times y7).bind fun _ =>
      some (.inl (F24_L2.mk (IntKind.i64.wrap (x2.i + 1)) (x2.times.set y7.toNat (IntKind.i64.wrap (y8 + 1)))))) some b_v8
  else
    some (.inr (.inl (F24_L2.mk x2.i x2.times)))
def F24_s1 (c : Cf) (epoch : Int) (x1 : F24_L1) : Option (F24_L1 ⊕ (F24_L1 ⊕ Bool)) :=
  bif decide (x1.s < (IntKind.i64.wrap ((IntKind.i64.wrap (epoch * c.Epoch)) + c.Epoch))) then
    (F65 c x1.s).bind fun v5 =>
    (F70 c v5).bind fun v6 =>
    (iter (F24_s2 c x1 v5) big (F24_L2.mk 0 x1.times)).bind fun b_v7 => Sum.elim (fun v7 =>
      some (.inl (F24_L1.mk (IntKind.i64.wrap (x1.all + v6)) (IntKind.i64.wrap (x1.s + 1)) v7.times))) some b_v7
  else
    some (.inr (.inl (F24_L1.mk x1.all x1.s x1.times)))
def F24_s3 (v4 : F24_L1) (x3 : F24_L3) : Option (F24_L3 ⊕ (F24_L3 ⊕ Bool)) :=
  bif decide (x3.i < (v4.times.length : Int)) then
    (ix v4.times x3.i).bind fun y10 =>
    bif y10 != 1 then
      some (.inr (.inr false))
    else
      some (.inl (F24_L3.mk (IntKind.i64.wrap (x3.i + 1))))
  else
    some (.inr (.inl (F24_L3.mk x3.i)))
def F24 (c : Cf) (epoch : Int) : Option Bool :=
  (F62 ).bind fun v1 =>
  (
    bif !v1 then
      some true
    else
      bif decide ((c.W.length : Int) > 40) then
        some true
      else
        (F64 c).bind fun v3 =>
        bif !v3 then
          some true
        else
          bif decide (epoch < 1) then
            some true
          else
            some (decide (epoch > 100000))
  ).bind fun v2 =>
  bif v2 then
    some v1
  else
    bif mkOk (c.W.length : Int) 8 then
      (iter (F24_s1 c epoch) big (F24_L1.mk 0 (IntKind.i64.wrap (epoch * c.Epoch)) (List.replicate (c.W.length : Int).toNat (0 : Int)))).bind fun b_v4 => Sum.elim (fun v4 =>
        (iter (F24_s3 v4) big (F24_L3.mk 0)).bind fun b_v11 => Sum.elim (fun _ =>
          (F72 c).bind fun v12 =>
          some (v4.all == v12)) some b_v11) some b_v4
    else none
set_option maxRecDepth 100000 in
theorem c24 {c : Cf} {epoch : Int} {r_ : Bool} (hr : F24 c epoch = some r_) : LPure Try.prog 24 [cfP c, .int .i64 epoch] [.bool r_] := by
  refine LPure.start Try.func24 rfl rfl rfl rfl ?_
  unfold F24 at hr
  refine LW.seq ?_
  refine LW.region ?_
  refine LOps.st rfl rfl rfl (LOp.box rfl rfl rfl rfl rfl) ?_
  refine LOps.st rfl rfl rfl (LOp.assign rfl rfl) ?_
  refine LOps.nil ?_
  refine thn_n ?_
  refine LW.seq ?_
  refine LW.region ?_
  obtain ⟨v1, h_v1, hr⟩ := bind_get hr
  refine LOps.st rfl rfl rfl (LOp.call rfl rfl rfl (by kernel_rfl) (LC.pure (c62 h_v1) .nil)) ?_
  refine LOps.st rfl rfl rfl (LOp.assign rfl rfl) ?_
  refine LOps.nil ?_
  refine thn_n ?_
  refine LW.seq ?_
  obtain ⟨v2, hb_v2, ho_v2⟩ := bind_get hr
  clear hr
  refine LW.cut (E := [(1, .p (.int .i64 epoch)), (2, .ptr 0 0), (4, .p (.bool false)), (5, .p (.bool v1)), (33, .p (.bool v2))]) (O := [.box [.p (.slice 1 (c.W.map i64P)), .p (.int .u64 c.Seed), .p (.int .i64 c.Epoch), .p (.int .i64 c.Num), .p (.int .i64 c.Den)]]) ?_ ?_
  · have hr := hb_v2
    refine LW.region ?_
    refine LOps.st rfl rfl rfl (LOp.move rfl rfl) ?_
    refine LOps.st rfl rfl rfl (LOp.not rfl rfl) ?_
    refine LOps.st rfl rfl rfl (LOp.move rfl rfl) ?_
    refine LOps.cases 15 rfl (fun (g1 : (!v1) = true) => ?_) (fun (g1 : (!v1) = false) => ?_)
    · -- g1 is True
      have hr := ite_t g1 hr
      refine LOps.sk rfl rfl rfl (gd g1 rfl) rfl rfl ?_
      refine LOps.sk rfl rfl rfl (gd g1 rfl) rfl rfl ?_
      refine LOps.sk rfl rfl rfl (gd g1 rfl) rfl rfl ?_
      refine LOps.sk rfl rfl rfl (gd g1 rfl) rfl rfl ?_
      refine LOps.st rfl rfl rfl (LOp.pickT rfl (gdl g1 rfl) rfl) ?_
      refine LOps.st rfl rfl rfl (LOp.move rfl rfl) ?_
      refine LOps.sk rfl rfl rfl rfl rfl rfl ?_
      refine LOps.sk rfl rfl rfl rfl rfl rfl ?_
      refine LOps.sk rfl rfl rfl rfl rfl rfl ?_
      refine LOps.st rfl rfl rfl (LOp.pickT rfl rfl rfl) ?_
      refine LOps.st rfl rfl rfl (LOp.move rfl rfl) ?_
      refine LOps.sk rfl rfl rfl rfl rfl rfl ?_
      refine LOps.sk rfl rfl rfl rfl rfl rfl ?_
      refine LOps.st rfl rfl rfl (LOp.pickT rfl rfl rfl) ?_
      refine LOps.st rfl rfl rfl (LOp.move rfl rfl) ?_
      refine LOps.sk rfl rfl rfl rfl rfl rfl ?_
      refine LOps.sk rfl rfl rfl rfl rfl rfl ?_
      refine LOps.st rfl rfl rfl (LOp.pickT rfl rfl rfl) ?_
      refine LOps.nil ?_
      refine thn_n ?_
      obtain rfl := Option.some.inj hr
      exact Weak.of 1 ⟨rfl, rfl, rfl, rfl, rfl, trivial⟩ rfl rfl rfl rfl
    · -- g1 is False
      have hr := ite_f g1 hr
      refine LOps.gd rfl rfl rfl (gd g1 rfl) rfl (LOp.fieldAddr rfl rfl ft55_0) ?_
      refine LOps.gd rfl rfl rfl (gd g1 rfl) rfl (LOp.load rfl rfl rfl vt49 rfl rfl) ?_
      refine LOps.gd rfl rfl rfl (gd g1 rfl) rfl (LOp.lenM rfl rfl (by kernel_rfl)) ?_
      refine LOps.gd rfl rfl rfl (gd g1 rfl) rfl (LOp.bin rfl rfl rfl rfl) ?_
      refine LOps.st rfl rfl rfl (LOp.pickF rfl (gdl g1 rfl) rfl) ?_
      refine LOps.st rfl rfl rfl (LOp.move rfl rfl) ?_
      refine LOps.cases 21 rfl (fun (g2 : (decide ((c.W.length : Int) > 40)) = true) => ?_) (fun (g2 : (decide ((c.W.length : Int) > 40)) = false) => ?_)
      · -- g2 is True
        have hr := ite_t g2 hr
        refine LOps.sk rfl rfl rfl (gd g2 rfl) rfl rfl ?_
        refine LOps.sk rfl rfl rfl (gd g2 rfl) rfl rfl ?_
        refine LOps.sk rfl rfl rfl (gd g2 rfl) rfl rfl ?_
        refine LOps.st rfl rfl rfl (LOp.pickT rfl (gdl g2 rfl) rfl) ?_
        refine LOps.st rfl rfl rfl (LOp.move rfl rfl) ?_
        refine LOps.sk rfl rfl rfl rfl rfl rfl ?_
        refine LOps.sk rfl rfl rfl rfl rfl rfl ?_
        refine LOps.st rfl rfl rfl (LOp.pickT rfl rfl rfl) ?_
        refine LOps.st rfl rfl rfl (LOp.move rfl rfl) ?_
        refine LOps.sk rfl rfl rfl rfl rfl rfl ?_
        refine LOps.sk rfl rfl rfl rfl rfl rfl ?_
        refine LOps.st rfl rfl rfl (LOp.pickT rfl rfl rfl) ?_
        refine LOps.nil ?_
        refine thn_n ?_
        obtain rfl := Option.some.inj hr
        exact Weak.of 1 ⟨rfl, rfl, rfl, rfl, rfl, trivial⟩ rfl rfl rfl rfl
      · -- g2 is False
        have hr := ite_f g2 hr
        refine LOps.gd rfl rfl rfl (gd g2 rfl) rfl (LOp.load rfl rfl rfl vt55 rfl rfl) ?_
        obtain ⟨v3, h_v3, hr⟩ := bind_get hr
        refine LOps.gd rfl rfl rfl (gd g2 rfl) rfl (LOp.call rfl rfl rfl (by kernel_rfl) (LC.pure (c64 h_v3) (.cons Conv.p .nil))) ?_
        refine LOps.gd rfl rfl rfl (gd g2 rfl) rfl (LOp.not rfl rfl) ?_
        refine LOps.st rfl rfl rfl (LOp.pickF rfl (gdl g2 rfl) rfl) ?_
        refine LOps.st rfl rfl rfl (LOp.move rfl rfl) ?_
        refine LOps.cases 26 rfl (fun (g3 : (!v3) = true) => ?_) (fun (g3 : (!v3) = false) => ?_)
        · -- g3 is True
          have hr := ite_t g3 hr
          refine LOps.sk rfl rfl rfl (gd g3 rfl) rfl rfl ?_
          refine LOps.sk rfl rfl rfl (gd g3 rfl) rfl rfl ?_
          refine LOps.st rfl rfl rfl (LOp.pickT rfl (gdl g3 rfl) rfl) ?_
          refine LOps.st rfl rfl rfl (LOp.move rfl rfl) ?_
          refine LOps.sk rfl rfl rfl rfl rfl rfl ?_
          refine LOps.sk rfl rfl rfl rfl rfl rfl ?_
          refine LOps.st rfl rfl rfl (LOp.pickT rfl rfl rfl) ?_
          refine LOps.nil ?_
          refine thn_n ?_
          obtain rfl := Option.some.inj hr
          exact Weak.of 1 ⟨rfl, rfl, rfl, rfl, rfl, trivial⟩ rfl rfl rfl rfl
        · -- g3 is False
          have hr := ite_f g3 hr
          refine LOps.gd rfl rfl rfl (gd g3 rfl) rfl (LOp.move rfl rfl) ?_
          refine LOps.gd rfl rfl rfl (gd g3 rfl) rfl (LOp.bin rfl rfl rfl rfl) ?_
          refine LOps.st rfl rfl rfl (LOp.pickF rfl (gdl g3 rfl) rfl) ?_
          refine LOps.st rfl rfl rfl (LOp.move rfl rfl) ?_
          refine LOps.cases 30 rfl (fun (g4 : (decide (epoch < 1)) = true) => ?_) (fun (g4 : (decide (epoch < 1)) = false) => ?_)
          · -- g4 is True
            have hr := ite_t g4 hr
            refine LOps.sk rfl rfl rfl (gd g4 rfl) rfl rfl ?_
            refine LOps.sk rfl rfl rfl (gd g4 rfl) rfl rfl ?_
            refine LOps.st rfl rfl rfl (LOp.pickT rfl (gdl g4 rfl) rfl) ?_
            refine LOps.nil ?_
            refine thn_n ?_
            obtain rfl := Option.some.inj hr
            exact Weak.of 1 ⟨rfl, rfl, rfl, rfl, rfl, trivial⟩ rfl rfl rfl rfl
          · -- g4 is False
            have hr := ite_f g4 hr
            refine LOps.gd rfl rfl rfl (gd g4 rfl) rfl (LOp.move rfl rfl) ?_
            refine LOps.gd rfl rfl rfl (gd g4 rfl) rfl (LOp.bin rfl rfl rfl rfl) ?_
            refine LOps.st rfl rfl rfl (LOp.pickF rfl (gdl g4 rfl) rfl) ?_
            refine LOps.nil ?_
            refine thn_n ?_
            obtain rfl := Option.some.inj hr
            exact Weak.of 1 ⟨rfl, rfl, rfl, rfl, rfl, trivial⟩ rfl rfl rfl rfl
  · have hr := ho_v2
    clear hb_v2
    refine LW.cond rfl (fun (g5 : v2 = true) => ?_) (fun (g5 : v2 = false) => ?_)
    · -- g5 is True
      have hr := ite_t g5 hr
      refine LW.seq ?_
      refine LW.region ?_
      refine LOps.st rfl rfl rfl (LOp.move rfl rfl) ?_
      refine LOps.st rfl rfl rfl (LOp.assign rfl rfl) ?_
      refine LOps.nil ?_
      refine thn_n ?_
      refine LW.ret ?_
      refine thn_r ?_
      obtain rfl := Option.some.inj hr
      refine finP_ret (.one (.tmp rfl)) ?_
      exact Conv.p
    · -- g5 is False
      have hr := ite_f g5 hr
      refine LW.skip ?_
      refine thn_n ?_
      refine LW.seq ?_
      refine LW.region ?_
      refine LOps.st rfl rfl rfl (LOp.assign rfl rfl) ?_
      refine LOps.nil ?_
      refine thn_n ?_
      refine LW.seq ?_
      refine LW.region ?_
      refine LOps.st rfl rfl rfl (LOp.fieldAddr rfl rfl ft55_0) ?_
      refine LOps.st rfl rfl rfl (LOp.load rfl rfl rfl vt49 rfl rfl) ?_
      refine LOps.st rfl rfl rfl (LOp.lenM rfl rfl (by kernel_rfl)) ?_
      obtain ⟨q1, hr⟩ := grd_get hr
      refine LOps.st rfl rfl rfl (LOp.makeSliceX i64P 0 rfl rfl rfl st49 (z := .int .i64 0) (by kernel_rfl) rfl q1 rfl rfl) ?_
      refine LOps.st rfl rfl rfl (LOp.assign rfl rfl) ?_
      refine LOps.nil ?_
      refine thn_n ?_
      refine LW.seq ?_
      refine LW.seq ?_
      refine LW.region ?_
      refine LOps.st rfl rfl rfl (LOp.move rfl rfl) ?_
      refine LOps.st rfl rfl rfl (LOp.fieldAddr rfl rfl ft55_2) ?_
      refine LOps.st rfl rfl rfl (LOp.load rfl rfl rfl vt3 rfl rfl) ?_
      refine LOps.st rfl rfl rfl (LOp.bin rfl rfl rfl rfl) ?_
      refine LOps.st rfl rfl rfl (LOp.assign rfl rfl) ?_
      refine LOps.nil ?_
      refine thn_n ?_
      obtain ⟨b_v4, hb_v4, ho_v4⟩ := bind_get hr
      clear hr
      refine LW.tailB (b := b_v4) (E := fun v4 => [(2, .ptr 0 0), (4, .p (.bool false)), (6, .p (.int .i64 v4.all)), (7, .vec 1 1 (v4.times.map i64P).length 0 (v4.times.map i64P).length)]) (O := fun v4 => [.box [.p (.slice 1 (c.W.map i64P)), .p (.int .u64 c.Seed), .p (.int .i64 c.Epoch), .p (.int .i64 c.Num), .p (.int .i64 c.Den)], .vec 1 (v4.times.map i64P)]) ?_ (fun v4 e_v4 env_v4 H_v4 hw_v4 => ?_)
      · refine LW.block ?_
        refine LW.iterB (E := fun x1 : F24_L1 => [(1, .p (.int .i64 epoch)), (2, .ptr 0 0), (4, .p (.bool false)), (6, .p (.int .i64 x1.all)), (7, .vec 1 1 (x1.times.map i64P).length 0 (x1.times.map i64P).length), (8, .p (.int .i64 x1.s))]) (O := fun x1 => [.box [.p (.slice 1 (c.W.map i64P)), .p (.int .u64 c.Seed), .p (.int .i64 c.Epoch), .p (.int .i64 c.Num), .p (.int .i64 c.Den)], .vec 1 (x1.times.map i64P)]) hb_v4 (Weak.of 2 ⟨rfl, rfl, rfl, rfl, rfl, rfl, trivial⟩ rfl rfl rfl rfl) (fun x1 z_x1 hr hb_x1 => ?_)
        unfold F24_s1 at hr
        refine LW.seq ?_
        refine LW.seq ?_
        refine LW.region ?_
        refine LOps.st rfl rfl rfl (LOp.move rfl rfl) ?_
        refine LOps.st rfl rfl rfl (LOp.move rfl rfl) ?_
        refine LOps.st rfl rfl rfl (LOp.fieldAddr rfl rfl ft55_2) ?_
        refine LOps.st rfl rfl rfl (LOp.load rfl rfl rfl vt3 rfl rfl) ?_
        refine LOps.st rfl rfl rfl (LOp.bin rfl rfl rfl rfl) ?_
        refine LOps.st rfl rfl rfl (LOp.fieldAddr rfl rfl ft55_2) ?_
        refine LOps.st rfl rfl rfl (LOp.load rfl rfl rfl vt3 rfl rfl) ?_
        refine LOps.st rfl rfl rfl (LOp.bin rfl rfl rfl rfl) ?_
        refine LOps.st rfl rfl rfl (LOp.bin rfl rfl rfl rfl) ?_
        refine LOps.nil ?_
        refine thn_n ?_
        refine LW.cond rfl (fun (g6 : (decide (x1.s < (IntKind.i64.wrap ((IntKind.i64.wrap (epoch * c.Epoch)) + c.Epoch)))) = true) => ?_) (fun (g6 : (decide (x1.s < (IntKind.i64.wrap ((IntKind.i64.wrap (epoch * c.Epoch)) + c.Epoch)))) = false) => ?_)
        · -- g6 is True
          have hr := ite_t g6 hr
          refine LW.skip ?_
          refine thn_n ?_
          refine LW.seq ?_
          refine LW.block ?_
          refine LW.seq ?_
          refine LW.region ?_
          refine LOps.st rfl rfl rfl (LOp.load rfl rfl rfl vt55 rfl rfl) ?_
          refine LOps.st rfl rfl rfl (LOp.move rfl rfl) ?_
          obtain ⟨v5, h_v5, hr⟩ := bind_get hr
          refine LOps.st rfl rfl rfl (LOp.call rfl rfl rfl (by kernel_rfl) (LC.pure (c65 h_v5) (.cons Conv.p (.cons Conv.p .nil)))) ?_
          refine LOps.st rfl rfl rfl (LOp.assign rfl rfl) ?_
          refine LOps.nil ?_
          refine thn_n ?_
          refine LW.seq ?_
          refine LW.region ?_
          refine LOps.st rfl rfl rfl (LOp.move rfl rfl) ?_
          refine LOps.st rfl rfl rfl (LOp.load rfl rfl rfl vt55 rfl rfl) ?_
          refine LOps.st rfl rfl rfl (LOp.move rfl rfl) ?_
          obtain ⟨v6, h_v6, hr⟩ := bind_get hr
          refine LOps.st rfl rfl rfl (LOp.call rfl rfl rfl (by kernel_rfl) (LC.pure (c70 h_v6) (.cons Conv.p (.cons Conv.p .nil)))) ?_
          refine LOps.st rfl rfl rfl (LOp.bin rfl rfl rfl rfl) ?_
          refine LOps.st rfl rfl rfl (LOp.assign rfl rfl) ?_
          refine LOps.nil ?_
          refine thn_n ?_
          refine LW.seq ?_
          refine LW.region ?_
          refine LOps.st rfl rfl rfl (LOp.assign rfl rfl) ?_
          refine LOps.nil ?_
          refine thn_n ?_
          obtain ⟨b_v7, hb_v7, ho_v7⟩ := bind_get hr
          clear hr
          refine LW.tailB (b := b_v7) (E := fun v7 => [(1, .p (.int .i64 epoch)), (2, .ptr 0 0), (4, .p (.bool false)), (6, .p (.int .i64 (IntKind.i64.wrap (x1.all + v6)))), (7, .vec 1 1 (v7.times.map i64P).length 0 (v7.times.map i64P).length), (8, .p (.int .i64 x1.s))]) (O := fun v7 => [.box [.p (.slice 1 (c.W.map i64P)), .p (.int .u64 c.Seed), .p (.int .i64 c.Epoch), .p (.int .i64 c.Num), .p (.int .i64 c.Den)], .vec 1 (v7.times.map i64P)]) ?_ (fun v7 e_v7 env_v7 H_v7 hw_v7 => ?_)
          · refine LW.block ?_
            refine LW.iterB (E := fun x2 : F24_L2 => [(1, .p (.int .i64 epoch)), (2, .ptr 0 0), (4, .p (.bool false)), (6, .p (.int .i64 (IntKind.i64.wrap (x1.all + v6)))), (7, .vec 1 1 (x2.times.map i64P).length 0 (x2.times.map i64P).length), (8, .p (.int .i64 x1.s)), (9, .p (.slice 1 (v5.map i64P))), (10, .p (.int .i64 x2.i))]) (O := fun x2 => [.box [.p (.slice 1 (c.W.map i64P)), .p (.int .u64 c.Seed), .p (.int .i64 c.Epoch), .p (.int .i64 c.Num), .p (.int .i64 c.Den)], .vec 1 (x2.times.map i64P)]) hb_v7 (Weak.of 2 ⟨rfl, rfl, rfl, rfl, rfl, rfl, rfl, rfl, trivial⟩ rfl rfl rfl rfl) (fun x2 z_x2 hr hb_x2 => ?_)
            unfold F24_s2 at hr
            refine LW.seq ?_
            refine LW.seq ?_
            refine LW.region ?_
            refine LOps.st rfl rfl rfl (LOp.move rfl rfl) ?_
            refine LOps.st rfl rfl rfl (LOp.move rfl rfl) ?_
            refine LOps.st rfl rfl rfl (LOp.lenM rfl rfl (by kernel_rfl)) ?_
            refine LOps.st rfl rfl rfl (LOp.bin rfl rfl rfl rfl) ?_
            refine LOps.nil ?_
            refine thn_n ?_
            refine LW.cond rfl (fun (g7 : (decide (x2.i < (v5.length : Int))) = true) => ?_) (fun (g7 : (decide (x2.i < (v5.length : Int))) = false) => ?_)
            · -- g7 is True
              have hr := ite_t g7 hr
              refine LW.skip ?_
              refine thn_n ?_
              refine LW.seq ?_
              refine LW.block ?_
              obtain ⟨b_v8, hb_v8, ho_v8⟩ := bind_get hr
              clear hr
              refine LW.cutB (b := b_v8) (E := fun v8 => [(1, .p (.int .i64 epoch)), (2, .ptr 0 0), (4, .p (.bool false)), (6, .p (.int .i64 (IntKind.i64.wrap (x1.all + v6)))), (7, .vec 1 1 (x2.times.map i64P).length 0 (x2.times.map i64P).length), (8, .p (.int .i64 x1.s)), (9, .p (.slice 1 (v5.map i64P))), (10, .p (.int .i64 x2.i))]) (O := fun v8 => [.box [.p (.slice 1 (c.W.map i64P)), .p (.int .u64 c.Seed), .p (.int .i64 c.Epoch), .p (.int .i64 c.Num), .p (.int .i64 c.Den)], .vec 1 (x2.times.map i64P)]) ?_ (fun v8 e_v8 => ?_)
              · have hr := hb_v8
                refine LW.seq ?_
                refine LW.draw (by kernel_rfl) (by kernel_rfl) ?_
                refine LO.st rfl rfl rfl (LOp.move rfl rfl) ?_
                refine LO.st rfl rfl rfl (LOp.move rfl rfl) ?_
                obtain ⟨y1, h_y1, hr⟩ := bind_get hr
                refine LO.st rfl rfl rfl (LOp.indexAddrX rfl rfl rfl st49 h_y1 rfl) ?_
                refine LO.st rfl rfl rfl (LOp.loadC rfl rfl rfl vt3 rfl rfl) ?_
                refine LO.st rfl rfl rfl (LOp.bin rfl rfl rfl rfl) ?_
                refine LO.st rfl rfl rfl (LOp.move rfl rfl) ?_
                refine LO.cases 73 rfl (fun (g8 : (decide (y1 < 0)) = true) => ?_) (fun (g8 : (decide (y1 < 0)) = false) => ?_)
                · -- g8 is True
                  have hr := ite_t g8 hr
                  refine LO.sk rfl rfl rfl (gd g8 rfl) rfl rfl ?_
                  refine LO.sk rfl rfl rfl (gd g8 rfl) rfl rfl ?_
                  refine LO.sk rfl rfl rfl (gd g8 rfl) rfl rfl ?_
                  refine LO.sk rfl rfl rfl (gd g8 rfl) rfl rfl ?_
                  refine LO.sk rfl rfl rfl (gd g8 rfl) rfl rfl ?_
                  refine LO.sk rfl rfl rfl (gd g8 rfl) rfl rfl ?_
                  refine LO.sk rfl rfl rfl (gd g8 rfl) rfl rfl ?_
                  refine LO.sk rfl rfl rfl (gd g8 rfl) rfl rfl ?_
                  refine LO.st rfl rfl rfl (LOp.pickT rfl (gdl g8 rfl) rfl) ?_
                  refine LO.st rfl rfl rfl (LOp.move rfl rfl) ?_
                  refine LO.sk rfl rfl rfl rfl rfl rfl ?_
                  refine LO.sk rfl rfl rfl rfl rfl rfl ?_
                  refine LO.sk rfl rfl rfl rfl rfl rfl ?_
                  refine LO.sku rfl rfl rfl rfl rfl ?_
                  refine LO.sku rfl rfl rfl rfl rfl ?_
                  refine LO.sku rfl rfl rfl rfl rfl ?_
                  refine LO.sku rfl rfl rfl rfl rfl ?_
                  refine LO.sku rfl rfl rfl rfl rfl ?_
                  refine LO.sku rfl rfl rfl rfl rfl ?_
                  refine LO.sku rfl rfl rfl rfl rfl ?_
                  refine LO.sku rfl rfl rfl rfl rfl ?_
                  refine LO.sku rfl rfl rfl rfl rfl ?_
                  refine LO.sku rfl rfl rfl rfl rfl ?_
                  refine LO.sk rfl rfl rfl rfl rfl rfl ?_
                  refine LO.st rfl rfl rfl (LOp.pickT rfl rfl rfl) ?_
                  refine LO.st rfl rfl rfl (LOp.move rfl rfl) ?_
                  refine LO.sk rfl rfl rfl rfl rfl rfl ?_
                  refine LO.sk rfl rfl rfl rfl rfl rfl ?_
                  refine LO.sk rfl rfl rfl rfl rfl rfl ?_
                  refine LO.sk rfl rfl rfl rfl rfl rfl ?_
                  refine LO.sk rfl rfl rfl rfl rfl rfl ?_
                  refine LO.sk rfl rfl rfl rfl rfl rfl ?_
                  refine LO.sk rfl rfl rfl rfl rfl rfl ?_
                  refine LO.sk rfl rfl rfl rfl rfl rfl ?_
                  refine LO.st rfl rfl rfl (LOp.pickT rfl rfl rfl) ?_
                  refine LO.nil ?_
                  refine thn_n ?_
                  refine LW.condT rfl ?_
                  refine LW.seq ?_
                  refine LW.region ?_
                  refine LOps.st rfl rfl rfl (LOp.assign rfl rfl) ?_
                  refine LOps.nil ?_
                  refine thn_n ?_
                  refine LW.ret ?_
                  refine thn_r ?_
                  refine inBlk_r ?_
                  refine thn_r ?_
                  refine thn_r ?_
                  refine inBlk_r ?_
                  refine thn_r ?_
                  refine inBlk_r ?_
                  refine thn_r ?_
                  refine thn_r ?_
                  refine inBlk_r ?_
                  refine thn_r ?_
                  refine thn_r ?_
                  obtain rfl := Option.some.inj hr
                  have hr := sum_r ho_v8
                  obtain rfl := Option.some.inj hr
                  have hr := congrArg some (hb_x2 _ rfl)
                  obtain rfl := Option.some.inj hr
                  have hr := sum_r ho_v7
                  obtain rfl := Option.some.inj hr
                  have hr := congrArg some (hb_x1 _ rfl)
                  obtain rfl := Option.some.inj hr
                  have hr := sum_r ho_v4
                  obtain rfl := Option.some.inj hr
                  refine finP_ret (.one (.tmp rfl)) ?_
                  exact Conv.p
                · -- g8 is False
                  have hr := ite_f g8 hr
                  refine LO.gd rfl rfl rfl (gd g8 rfl) rfl (LOp.move rfl rfl) ?_
                  refine LO.gd rfl rfl rfl (gd g8 rfl) rfl (LOp.move rfl rfl) ?_
                  obtain ⟨y2, h_y2, hr⟩ := bind_get hr
                  refine LO.gd rfl rfl rfl (gd g8 rfl) rfl (LOp.indexAddrX rfl rfl rfl st49 h_y2 rfl) ?_
                  refine LO.gd rfl rfl rfl (gd g8 rfl) rfl (LOp.loadC rfl rfl rfl vt3 rfl rfl) ?_
                  refine LO.gd rfl rfl rfl (gd g8 rfl) rfl (LOp.fieldAddr rfl rfl ft55_0) ?_
                  refine LO.gd rfl rfl rfl (gd g8 rfl) rfl (LOp.load rfl rfl rfl vt49 rfl rfl) ?_
                  refine LO.gd rfl rfl rfl (gd g8 rfl) rfl (LOp.lenM rfl rfl (by kernel_rfl)) ?_
                  refine LO.gd rfl rfl rfl (gd g8 rfl) rfl (LOp.bin rfl rfl rfl rfl) ?_
                  refine LO.st rfl rfl rfl (LOp.pickF rfl (gdl g8 rfl) rfl) ?_
                  refine LO.st rfl rfl rfl (LOp.move rfl rfl) ?_
                  refine LO.cases 83 rfl (fun (g9 : (decide (y2 ≥ (c.W.length : Int))) = true) => ?_) (fun (g9 : (decide (y2 ≥ (c.W.length : Int))) = false) => ?_)
                  · -- g9 is True
                    have hr := ite_t g9 hr
                    refine LO.sk rfl rfl rfl (gd g9 rfl) rfl rfl ?_
                    refine LO.sk rfl rfl rfl (gd g9 rfl) rfl rfl ?_
                    refine LO.sk rfl rfl rfl (gd g9 rfl) rfl rfl ?_
                    refine LO.sku rfl rfl rfl rfl rfl ?_
                    refine LO.sku rfl rfl rfl rfl rfl ?_
                    refine LO.sku rfl rfl rfl rfl rfl ?_
                    refine LO.sku rfl rfl rfl rfl rfl ?_
                    refine LO.sku rfl rfl rfl rfl rfl ?_
                    refine LO.sku rfl rfl rfl rfl rfl ?_
                    refine LO.sku rfl rfl rfl rfl rfl ?_
                    refine LO.sku rfl rfl rfl rfl rfl ?_
                    refine LO.sku rfl rfl rfl rfl rfl ?_
                    refine LO.sku rfl rfl rfl rfl rfl ?_
                    refine LO.sk rfl rfl rfl (gd g9 rfl) rfl rfl ?_
                    refine LO.st rfl rfl rfl (LOp.pickT rfl (gdl g9 rfl) rfl) ?_
                    refine LO.st rfl rfl rfl (LOp.move rfl rfl) ?_
                    refine LO.sk rfl rfl rfl rfl rfl rfl ?_
                    refine LO.sk rfl rfl rfl rfl rfl rfl ?_
                    refine LO.sk rfl rfl rfl rfl rfl rfl ?_
                    refine LO.sk rfl rfl rfl rfl rfl rfl ?_
                    refine LO.sk rfl rfl rfl rfl rfl rfl ?_
                    refine LO.sk rfl rfl rfl rfl rfl rfl ?_
                    refine LO.sk rfl rfl rfl rfl rfl rfl ?_
                    refine LO.sk rfl rfl rfl rfl rfl rfl ?_
                    refine LO.st rfl rfl rfl (LOp.pickT rfl rfl rfl) ?_
                    refine LO.nil ?_
                    refine thn_n ?_
                    refine LW.condT rfl ?_
                    refine LW.seq ?_
                    refine LW.region ?_
                    refine LOps.st rfl rfl rfl (LOp.assign rfl rfl) ?_
                    refine LOps.nil ?_
                    refine thn_n ?_
                    refine LW.ret ?_
                    refine thn_r ?_
                    refine inBlk_r ?_
                    refine thn_r ?_
                    refine thn_r ?_
                    refine inBlk_r ?_
                    refine thn_r ?_
                    refine inBlk_r ?_
                    refine thn_r ?_
                    refine thn_r ?_
                    refine inBlk_r ?_
                    refine thn_r ?_
                    refine thn_r ?_
                    obtain rfl := Option.some.inj hr
                    have hr := sum_r ho_v8
                    obtain rfl := Option.some.inj hr
                    have hr := congrArg some (hb_x2 _ rfl)
                    obtain rfl := Option.some.inj hr
                    have hr := sum_r ho_v7
                    obtain rfl := Option.some.inj hr
                    have hr := congrArg some (hb_x1 _ rfl)
                    obtain rfl := Option.some.inj hr
                    have hr := sum_r ho_v4
                    obtain rfl := Option.some.inj hr
                    refine finP_ret (.one (.tmp rfl)) ?_
                    exact Conv.p
                  · -- g9 is False
                    have hr := ite_f g9 hr
                    refine LO.gd rfl rfl rfl (gd g9 rfl) rfl (LOp.move rfl rfl) ?_
                    refine LO.gd rfl rfl rfl (gd g9 rfl) rfl (LOp.bin rfl rfl rfl rfl) ?_
                    refine LO.gd rfl rfl rfl (gd g9 rfl) rfl (LOp.move rfl rfl) ?_
                    refine LO.cases 86 rfl (fun (g10 : (decide (x2.i > 0)) = true) => ?_) (fun (g10 : (decide (x2.i > 0)) = false) => ?_)
                    · -- g10 is True
                      have hr := ite_t g10 hr
                      refine LO.gd rfl rfl rfl (gd g10 rfl) rfl (LOp.move rfl rfl) ?_
                      refine LO.gd rfl rfl rfl (gd g10 rfl) rfl (LOp.move rfl rfl) ?_
                      obtain ⟨y3, h_y3, hr⟩ := bind_get hr
                      refine LO.gd rfl rfl rfl (gd g10 rfl) rfl (LOp.indexAddrX rfl rfl rfl st49 h_y3 rfl) ?_
                      refine LO.gd rfl rfl rfl (gd g10 rfl) rfl (LOp.loadC rfl rfl rfl vt3 rfl rfl) ?_
                      refine LO.gd rfl rfl rfl (gd g10 rfl) rfl (LOp.move rfl rfl) ?_
                      refine LO.gd rfl rfl rfl (gd g10 rfl) rfl (LOp.move rfl rfl) ?_
                      refine LO.gd rfl rfl rfl (gd g10 rfl) rfl (LOp.bin rfl rfl rfl rfl) ?_
                      obtain ⟨y4, h_y4, hr⟩ := bind_get hr
                      refine LO.gd rfl rfl rfl (gd g10 rfl) rfl (LOp.indexAddrX rfl rfl rfl st49 h_y4 rfl) ?_
                      refine LO.gd rfl rfl rfl (gd g10 rfl) rfl (LOp.loadC rfl rfl rfl vt3 rfl rfl) ?_
                      refine LO.gd rfl rfl rfl (gd g10 rfl) rfl (LOp.bin rfl rfl rfl rfl) ?_
                      refine LO.gd rfl rfl rfl (gd g9 rfl) rfl (LOp.pickT rfl (gdl g10 rfl) rfl) ?_
                      refine LO.st rfl rfl rfl (LOp.pickF rfl (gdl g9 rfl) rfl) ?_
                      refine LO.st rfl rfl rfl (LOp.move rfl rfl) ?_
                      refine LO.cases 99 rfl (fun (g11 : (decide (y3 ≤ y4)) = true) => ?_) (fun (g11 : (decide (y3 ≤ y4)) = false) => ?_)
                      · -- g11 is True
                        have hr := ite_t g11 hr
                        refine LO.sk rfl rfl rfl (gd g11 rfl) rfl rfl ?_
                        refine LO.sk rfl rfl rfl (gd g11 rfl) rfl rfl ?_
                        refine LO.sk rfl rfl rfl (gd g11 rfl) rfl rfl ?_
                        refine LO.sk rfl rfl rfl (gd g11 rfl) rfl rfl ?_
                        refine LO.sk rfl rfl rfl (gd g11 rfl) rfl rfl ?_
                        refine LO.sk rfl rfl rfl (gd g11 rfl) rfl rfl ?_
                        refine LO.sk rfl rfl rfl (gd g11 rfl) rfl rfl ?_
                        refine LO.sk rfl rfl rfl (gd g11 rfl) rfl rfl ?_
                        refine LO.st rfl rfl rfl (LOp.pickT rfl (gdl g11 rfl) rfl) ?_
                        refine LO.nil ?_
                        refine thn_n ?_
                        refine LW.condT rfl ?_
                        refine LW.seq ?_
                        refine LW.region ?_
                        refine LOps.st rfl rfl rfl (LOp.assign rfl rfl) ?_
                        refine LOps.nil ?_
                        refine thn_n ?_
                        refine LW.ret ?_
                        refine thn_r ?_
                        refine inBlk_r ?_
                        refine thn_r ?_
                        refine thn_r ?_
                        refine inBlk_r ?_
                        refine thn_r ?_
                        refine inBlk_r ?_
                        refine thn_r ?_
                        refine thn_r ?_
                        refine inBlk_r ?_
                        refine thn_r ?_
                        refine thn_r ?_
                        obtain rfl := Option.some.inj hr
                        have hr := sum_r ho_v8
                        obtain rfl := Option.some.inj hr
                        have hr := congrArg some (hb_x2 _ rfl)
                        obtain rfl := Option.some.inj hr
                        have hr := sum_r ho_v7
                        obtain rfl := Option.some.inj hr
                        have hr := congrArg some (hb_x1 _ rfl)
                        obtain rfl := Option.some.inj hr
                        have hr := sum_r ho_v4
                        obtain rfl := Option.some.inj hr
                        refine finP_ret (.one (.tmp rfl)) ?_
                        exact Conv.p
                      · -- g11 is False
                        have hr := ite_f g11 hr
                        refine LO.gd rfl rfl rfl (gd g11 rfl) rfl (LOp.load rfl rfl rfl vt55 rfl rfl) ?_
                        refine LO.gd rfl rfl rfl (gd g11 rfl) rfl (LOp.move rfl rfl) ?_
                        refine LO.gd rfl rfl rfl (gd g11 rfl) rfl (LOp.move rfl rfl) ?_
                        refine LO.gd rfl rfl rfl (gd g11 rfl) rfl (LOp.move rfl rfl) ?_
                        obtain ⟨y5, h_y5, hr⟩ := bind_get hr
                        refine LO.gd rfl rfl rfl (gd g11 rfl) rfl (LOp.indexAddrX rfl rfl rfl st49 h_y5 rfl) ?_
                        refine LO.gd rfl rfl rfl (gd g11 rfl) rfl (LOp.loadC rfl rfl rfl vt3 rfl rfl) ?_
                        obtain ⟨v9, h_v9, hr⟩ := bind_get hr
                        refine LO.gd rfl rfl rfl (gd g11 rfl) rfl (LOp.call rfl rfl rfl (by kernel_rfl) (LC.pure (c74 h_v9) (.cons Conv.p (.cons Conv.p (.cons Conv.p .nil))))) ?_
                        refine LO.gd rfl rfl rfl (gd g11 rfl) rfl (LOp.not rfl rfl) ?_
                        refine LO.st rfl rfl rfl (LOp.pickF rfl (gdl g11 rfl) rfl) ?_
                        refine LO.nil ?_
                        refine thn_n ?_
                        refine LW.cond rfl (fun (g12 : (!v9) = true) => ?_) (fun (g12 : (!v9) = false) => ?_)
                        · -- g12 is True
                          have hr := ite_t g12 hr
                          refine LW.seq ?_
                          refine LW.region ?_
                          refine LOps.st rfl rfl rfl (LOp.assign rfl rfl) ?_
                          refine LOps.nil ?_
                          refine thn_n ?_
                          refine LW.ret ?_
                          refine thn_r ?_
                          refine inBlk_r ?_
                          refine thn_r ?_
                          refine thn_r ?_
                          refine inBlk_r ?_
                          refine thn_r ?_
                          refine inBlk_r ?_
                          refine thn_r ?_
                          refine thn_r ?_
                          refine inBlk_r ?_
                          refine thn_r ?_
                          refine thn_r ?_
                          obtain rfl := Option.some.inj hr
                          have hr := sum_r ho_v8
                          obtain rfl := Option.some.inj hr
                          have hr := congrArg some (hb_x2 _ rfl)
                          obtain rfl := Option.some.inj hr
                          have hr := sum_r ho_v7
                          obtain rfl := Option.some.inj hr
                          have hr := congrArg some (hb_x1 _ rfl)
                          obtain rfl := Option.some.inj hr
                          have hr := sum_r ho_v4
                          obtain rfl := Option.some.inj hr
                          refine finP_ret (.one (.tmp rfl)) ?_
                          exact Conv.p
                        · -- g12 is False
                          have hr := ite_f g12 hr
                          refine LW.skip ?_
                          refine thn_n ?_
                          obtain rfl := Option.some.inj hr
                          exact ⟨_, rfl, Weak.of 2 ⟨rfl, rfl, rfl, rfl, rfl, rfl, rfl, rfl, trivial⟩ rfl rfl rfl rfl⟩
                    · -- g10 is False
                      have hr := ite_f g10 hr
                      refine LO.sk rfl rfl rfl (gd g10 rfl) rfl rfl ?_
                      refine LO.sk rfl rfl rfl (gd g10 rfl) rfl rfl ?_
                      refine LO.sk rfl rfl rfl (gd g10 rfl) rfl rfl ?_
                      refine LO.sk rfl rfl rfl (gd g10 rfl) rfl rfl ?_
                      refine LO.sk rfl rfl rfl (gd g10 rfl) rfl rfl ?_
                      refine LO.sk rfl rfl rfl (gd g10 rfl) rfl rfl ?_
                      refine LO.sk rfl rfl rfl (gd g10 rfl) rfl rfl ?_
                      refine LO.sk rfl rfl rfl (gd g10 rfl) rfl rfl ?_
                      refine LO.sk rfl rfl rfl (gd g10 rfl) rfl rfl ?_
                      refine LO.sk rfl rfl rfl (gd g10 rfl) rfl rfl ?_
                      refine LO.gd rfl rfl rfl (gd g9 rfl) rfl (LOp.pickF rfl (gdl g10 rfl) rfl) ?_
                      refine LO.st rfl rfl rfl (LOp.pickF rfl (gdl g9 rfl) rfl) ?_
                      refine LO.st rfl rfl rfl (LOp.move rfl rfl) ?_
                      refine LO.gd rfl rfl rfl rfl rfl (LOp.load rfl rfl rfl vt55 rfl rfl) ?_
                      refine LO.gd rfl rfl rfl rfl rfl (LOp.move rfl rfl) ?_
                      refine LO.gd rfl rfl rfl rfl rfl (LOp.move rfl rfl) ?_
                      refine LO.gd rfl rfl rfl rfl rfl (LOp.move rfl rfl) ?_
                      obtain ⟨y6, h_y6, hr⟩ := bind_get hr
                      refine LO.gd rfl rfl rfl rfl rfl (LOp.indexAddrX rfl rfl rfl st49 h_y6 rfl) ?_
                      refine LO.gd rfl rfl rfl rfl rfl (LOp.loadC rfl rfl rfl vt3 rfl rfl) ?_
                      obtain ⟨v10, h_v10, hr⟩ := bind_get hr
                      refine LO.gd rfl rfl rfl rfl rfl (LOp.call rfl rfl rfl (by kernel_rfl) (LC.pure (c74 h_v10) (.cons Conv.p (.cons Conv.p (.cons Conv.p .nil))))) ?_
                      refine LO.gd rfl rfl rfl rfl rfl (LOp.not rfl rfl) ?_
                      refine LO.st rfl rfl rfl (LOp.pickF rfl rfl rfl) ?_
                      refine LO.nil ?_
                      refine thn_n ?_
                      refine LW.cond rfl (fun (g13 : (!v10) = true) => ?_) (fun (g13 : (!v10) = false) => ?_)
                      · -- g13 is True
                        have hr := ite_t g13 hr
                        refine LW.seq ?_
                        refine LW.region ?_
                        refine LOps.st rfl rfl rfl (LOp.assign rfl rfl) ?_
                        refine LOps.nil ?_
                        refine thn_n ?_
                        refine LW.ret ?_
                        refine thn_r ?_
                        refine inBlk_r ?_
                        refine thn_r ?_
                        refine thn_r ?_
                        refine inBlk_r ?_
                        refine thn_r ?_
                        refine inBlk_r ?_
                        refine thn_r ?_
                        refine thn_r ?_
                        refine inBlk_r ?_
                        refine thn_r ?_
                        refine thn_r ?_
                        obtain rfl := Option.some.inj hr
                        have hr := sum_r ho_v8
                        obtain rfl := Option.some.inj hr
                        have hr := congrArg some (hb_x2 _ rfl)
                        obtain rfl := Option.some.inj hr
                        have hr := sum_r ho_v7
                        obtain rfl := Option.some.inj hr
                        have hr := congrArg some (hb_x1 _ rfl)
                        obtain rfl := Option.some.inj hr
                        have hr := sum_r ho_v4
                        obtain rfl := Option.some.inj hr
                        refine finP_ret (.one (.tmp rfl)) ?_
                        exact Conv.p
                      · -- g13 is False
                        have hr := ite_f g13 hr
                        refine LW.skip ?_
                        refine thn_n ?_
                        obtain rfl := Option.some.inj hr
                        exact ⟨_, rfl, Weak.of 2 ⟨rfl, rfl, rfl, rfl, rfl, rfl, rfl, rfl, trivial⟩ rfl rfl rfl rfl⟩
              · obtain rfl := e_v8
                have hr := sum_l ho_v8
                clear hb_v8
                refine LW.region ?_
                refine LOps.st rfl rfl rfl (LOp.move rfl rfl) ?_
                refine LOps.st rfl rfl rfl (LOp.move rfl rfl) ?_
                refine LOps.st rfl rfl rfl (LOp.move rfl rfl) ?_
                obtain ⟨y7, h_y7, hr⟩ := bind_get hr
                refine LOps.st rfl rfl rfl (LOp.indexAddrX rfl rfl rfl st49 h_y7 rfl) ?_
                refine LOps.st rfl rfl rfl (LOp.loadC rfl rfl rfl vt3 rfl rfl) ?_
                obtain ⟨y8, h_y8, hr⟩ := bind_get hr
                refine LOps.st rfl rfl rfl (LOp.indexAddrVX rfl rfl rfl rfl st49 h_y8) ?_
                refine LOps.st rfl rfl rfl (LOp.loadVX rfl rfl rfl vt3 h_y8 rfl rfl rfl rfl) ?_
                refine LOps.st rfl rfl rfl (LOp.bin rfl rfl rfl rfl) ?_
                obtain ⟨y9, h_y9, hr⟩ := bind_get hr
                refine LOps.st rfl rfl rfl (LOp.indexAddrVX rfl rfl rfl rfl st49 h_y9) ?_
                refine LOps.st rfl rfl rfl (LOp.storeVX (f := i64P) (l := x2.times) (IntKind.i64.wrap (y8 + 1)) rfl rfl rfl rfl vt3 (fun _ => rfl) h_y9 rfl) ?_
                refine LOps.nil ?_
                refine inBlk_n ?_
                refine thn_n ?_
                refine LW.region ?_
                refine LOps.st rfl rfl rfl (LOp.move rfl rfl) ?_
                refine LOps.st rfl rfl rfl (LOp.bin rfl rfl rfl rfl) ?_
                refine LOps.st rfl rfl rfl (LOp.assign rfl rfl) ?_
                refine LOps.nil ?_
                refine thn_n ?_
                obtain rfl := Option.some.inj hr
                exact ⟨_, rfl, Weak.of 2 ⟨rfl, rfl, rfl, rfl, (vset (rfl)), rfl, rfl, rfl, trivial⟩ rfl rfl rfl rfl⟩
            · -- g7 is False
              have hr := ite_f g7 hr
              refine LW.exit ?_
              refine thn_e ?_
              refine thn_e ?_
              refine inBlk_self ?_
              refine thn_n ?_
              obtain rfl := Option.some.inj hr
              have hr := congrArg some (hb_x2 _ rfl)
              obtain rfl := Option.some.inj hr
              exact ⟨_, rfl, Weak.of 2 ⟨rfl, rfl, rfl, rfl, rfl, rfl, trivial⟩ rfl rfl rfl rfl⟩
          · obtain rfl := e_v7
            have hr := sum_l ho_v7
            clear hb_v7
            refine inBlk_n ?_
            refine thn_n ?_
            refine LW.weak hw_v7 ?_
            refine LW.region ?_
            refine LOps.st rfl rfl rfl (LOp.move rfl rfl) ?_
            refine LOps.st rfl rfl rfl (LOp.bin rfl rfl rfl rfl) ?_
            refine LOps.st rfl rfl rfl (LOp.assign rfl rfl) ?_
            refine LOps.nil ?_
            refine thn_n ?_
            obtain rfl := Option.some.inj hr
            exact ⟨_, rfl, Weak.of 2 ⟨rfl, rfl, rfl, rfl, rfl, rfl, trivial⟩ rfl rfl rfl rfl⟩
        · -- g6 is False
          have hr := ite_f g6 hr
          refine LW.exit ?_
          refine thn_e ?_
          refine thn_e ?_
          refine inBlk_self ?_
          refine thn_n ?_
          obtain rfl := Option.some.inj hr
          have hr := congrArg some (hb_x1 _ rfl)
          obtain rfl := Option.some.inj hr
          exact ⟨_, rfl, Weak.of 2 ⟨rfl, rfl, rfl, rfl, trivial⟩ rfl rfl rfl rfl⟩
      · obtain rfl := e_v4
        have hr := sum_l ho_v4
        clear hb_v4
        refine thn_n ?_
        refine LW.weak hw_v4 ?_
        refine LW.seq ?_
        refine LW.seq ?_
        refine LW.region ?_
        refine LOps.st rfl rfl rfl (LOp.assign rfl rfl) ?_
        refine LOps.nil ?_
        refine thn_n ?_
        obtain ⟨b_v11, hb_v11, ho_v11⟩ := bind_get hr
        clear hr
        refine LW.tailB (b := b_v11) (E := fun v11 => [(2, .ptr 0 0), (4, .p (.bool false)), (6, .p (.int .i64 v4.all))]) (O := fun v11 => [.box [.p (.slice 1 (c.W.map i64P)), .p (.int .u64 c.Seed), .p (.int .i64 c.Epoch), .p (.int .i64 c.Num), .p (.int .i64 c.Den)], .vec 1 (v4.times.map i64P)]) ?_ (fun v11 e_v11 env_v11 H_v11 hw_v11 => ?_)
        · refine LW.block ?_
          refine LW.iterB (E := fun x3 : F24_L3 => [(2, .ptr 0 0), (4, .p (.bool false)), (6, .p (.int .i64 v4.all)), (7, .vec 1 1 (v4.times.map i64P).length 0 (v4.times.map i64P).length), (11, .p (.int .i64 x3.i))]) (O := fun x3 => [.box [.p (.slice 1 (c.W.map i64P)), .p (.int .u64 c.Seed), .p (.int .i64 c.Epoch), .p (.int .i64 c.Num), .p (.int .i64 c.Den)], .vec 1 (v4.times.map i64P)]) hb_v11 (Weak.of 2 ⟨rfl, rfl, rfl, rfl, rfl, trivial⟩ rfl rfl rfl rfl) (fun x3 z_x3 hr hb_x3 => ?_)
          unfold F24_s3 at hr
          refine LW.seq ?_
          refine LW.seq ?_
          refine LW.region ?_
          refine LOps.st rfl rfl rfl (LOp.move rfl rfl) ?_
          refine LOps.st rfl rfl rfl (LOp.move rfl rfl) ?_
          refine LOps.st rfl rfl rfl (LOp.lenVM rfl rfl rfl (by kernel_rfl)) ?_
          refine LOps.st rfl rfl rfl (LOp.bin rfl rfl rfl rfl) ?_
          refine LOps.nil ?_
          refine thn_n ?_
          refine LW.cond rfl (fun (g14 : (decide (x3.i < (v4.times.length : Int))) = true) => ?_) (fun (g14 : (decide (x3.i < (v4.times.length : Int))) = false) => ?_)
          · -- g14 is True
            have hr := ite_t g14 hr
            refine LW.skip ?_
            refine thn_n ?_
            refine LW.seq ?_
            refine LW.block ?_
            refine LW.seq ?_
            refine LW.region ?_
            refine LOps.st rfl rfl rfl (LOp.move rfl rfl) ?_
            refine LOps.st rfl rfl rfl (LOp.move rfl rfl) ?_
            obtain ⟨y10, h_y10, hr⟩ := bind_get hr
            refine LOps.st rfl rfl rfl (LOp.indexAddrVX rfl rfl rfl rfl st49 h_y10) ?_
            refine LOps.st rfl rfl rfl (LOp.loadVX rfl rfl rfl vt3 h_y10 rfl rfl rfl rfl) ?_
            refine LOps.st rfl rfl rfl (LOp.bin rfl rfl rfl rfl) ?_
            refine LOps.nil ?_
            refine thn_n ?_
            refine LW.cond rfl (fun (g15 : (y10 != 1) = true) => ?_) (fun (g15 : (y10 != 1) = false) => ?_)
            · -- g15 is True
              have hr := ite_t g15 hr
              refine LW.seq ?_
              refine LW.region ?_
              refine LOps.st rfl rfl rfl (LOp.assign rfl rfl) ?_
              refine LOps.nil ?_
              refine thn_n ?_
              refine LW.ret ?_
              refine inBlk_r ?_
              refine thn_r ?_
              refine thn_r ?_
              refine inBlk_r ?_
              refine thn_r ?_
              refine thn_r ?_
              obtain rfl := Option.some.inj hr
              have hr := congrArg some (hb_x3 _ rfl)
              obtain rfl := Option.some.inj hr
              have hr := sum_r ho_v11
              obtain rfl := Option.some.inj hr
              refine finP_ret (.one (.tmp rfl)) ?_
              exact Conv.p
            · -- g15 is False
              have hr := ite_f g15 hr
              refine LW.skip ?_
              refine inBlk_n ?_
              refine thn_n ?_
              refine LW.region ?_
              refine LOps.st rfl rfl rfl (LOp.move rfl rfl) ?_
              refine LOps.st rfl rfl rfl (LOp.bin rfl rfl rfl rfl) ?_
              refine LOps.st rfl rfl rfl (LOp.assign rfl rfl) ?_
              refine LOps.nil ?_
              refine thn_n ?_
              obtain rfl := Option.some.inj hr
              exact ⟨_, rfl, Weak.of 2 ⟨rfl, rfl, rfl, rfl, rfl, trivial⟩ rfl rfl rfl rfl⟩
          · -- g14 is False
            have hr := ite_f g14 hr
            refine LW.exit ?_
            refine thn_e ?_
            refine thn_e ?_
            refine inBlk_self ?_
            refine thn_n ?_
            obtain rfl := Option.some.inj hr
            have hr := congrArg some (hb_x3 _ rfl)
            obtain rfl := Option.some.inj hr
            exact ⟨_, rfl, Weak.of 2 ⟨rfl, rfl, rfl, trivial⟩ rfl rfl rfl rfl⟩
        · obtain rfl := e_v11
          have hr := sum_l ho_v11
          clear hb_v11
          refine thn_n ?_
          refine LW.weak hw_v11 ?_
          refine LW.seq ?_
          refine LW.region ?_
          refine LOps.st rfl rfl rfl (LOp.move rfl rfl) ?_
          refine LOps.st rfl rfl rfl (LOp.load rfl rfl rfl vt55 rfl rfl) ?_
          obtain ⟨v12, h_v12, hr⟩ := bind_get hr
          refine LOps.st rfl rfl rfl (LOp.call rfl rfl rfl (by kernel_rfl) (LC.pure (c72 h_v12) (.cons Conv.p .nil))) ?_
          refine LOps.st rfl rfl rfl (LOp.bin rfl rfl rfl rfl) ?_
          refine LOps.st rfl rfl rfl (LOp.assign rfl rfl) ?_
          refine LOps.nil ?_
          refine thn_n ?_
          refine LW.ret ?_
          obtain rfl := Option.some.inj hr
          refine finP_ret (.one (.tmp rfl)) ?_
          exact Conv.p
theorem pickL_all {p : Nat → Bool} (h : ∀ j, p j = true) : ∀ k, (pickL p k).length = k
  | 0 => rfl
  | k + 1 => by rw [pickL, h k, ct, List.length_append, pickL_all h k]; rfl
theorem duAll (c : Cf) (slot who : Int) : F26 c slot who = some true := by
  unfold F26
  rw [F62_eq, ob, Bool.not_true, cf, ob]
  by_cases h0 : (c.W.length : Int) > 40
  · rw [decide_eq_true h0, ct]
  · rw [decide_eq_false h0, cf, F64_eq, ob]
    by_cases h : MayC c
    · rw [decide_eq_true h, Bool.not_true, cf]
      have e : (bif decide (slot < 1) then some true else bif decide (slot > 1048576) then some true else some (c.Epoch != 1)) = some (decide (¬ (OkS c slot ∧ c.Epoch = 1))) := by
        by_cases h1 : slot < 1
        · rw [decide_eq_true h1, ct, decide_eq_true (show ¬ (OkS c slot ∧ c.Epoch = 1) from fun h2 => by have := h2.1.2.1; omega)]
        · rw [decide_eq_false h1, cf]
          by_cases h2 : slot > 1048576
          · rw [decide_eq_true h2, ct, decide_eq_true (show ¬ (OkS c slot ∧ c.Epoch = 1) from fun h3 => by have := h3.1.2.2; omega)]
          · rw [decide_eq_false h2, cf]
            have ho : OkS c slot := ⟨h, by omega, by omega⟩
            by_cases h3 : c.Epoch = 1
            · rw [decide_eq_false (not_not_intro ⟨ho, h3⟩), h3]; rfl
            · rw [decide_eq_true (show ¬ (OkS c slot ∧ c.Epoch = 1) from fun h4 => h3 h4.2), show (c.Epoch != 1) = true by rw [bne_iff_ne]; exact h3]
      rw [e, ob]
      by_cases h1 : OkS c slot ∧ c.Epoch = 1
      · obtain ⟨ho, he⟩ := h1
        have hin : ∀ j, inP c slot j = true := fun j => by
          unfold inP
          rw [he, Int.tmod_one, Int.tmod_one]; rfl
        have hc : cmP c slot = pickL (inP c slot) c.W.length := by unfold cmP; rw [if_pos ho]
        have hmem : who ∈ cmP c slot ↔ 0 ≤ who ∧ who < c.W.length := by
          rw [hc, pickL_mem]
          constructor
          · rintro ⟨j, h1, -, rfl⟩; exact ⟨by omega, by omega⟩
          · rintro ⟨h1, h2⟩; exact ⟨who.toNat, by omega, hin _, by omega⟩
        rw [decide_eq_false (not_not_intro ⟨ho, he⟩), cf, F65_eq, ob, F74_eq, ob, hc, pickL_all hin, beqt rfl, ct, ← hc]
        by_cases hw : who ≥ 0
        · rw [decide_eq_true hw, ct]
          congr 1
          rw [beq_iff_eq]
          exact decide_eq_decide.2 ⟨fun h1 => (hmem.1 h1).2, fun h1 => hmem.2 ⟨hw, h1⟩⟩
        · rw [decide_eq_false hw, cf, decide_eq_false (fun h1 => hw (hmem.1 h1).1)]; rfl
      · rw [decide_eq_true h1, ct]
    · have ho : ¬ OkS c slot := fun h1 => h h1.1
      have hc : cmP c slot = [] := by unfold cmP; rw [if_neg ho]
      have ht : totP c = 0 := by unfold totP; rw [if_neg h]
      have hw : wtP c [0, 1] = 0 := by unfold wtP; rw [if_neg h]
      rw [decide_eq_false h, Bool.not_false, ct, F65_eq, ob, hc, show ((([] : List Int).length : Int) == 0) = true from rfl, ct, F72_eq, ob, ht, beqt rfl, ct, F70_eq (by simp), ob, hw, beqt rfl, ct, F74_eq, ob, hc, ob]
      rfl
theorem wsum_zero {p : Nat → Bool} {W : List Int} : ∀ {k : Nat}, (∀ j, j < k → p j = false) → wsum p W k = 0
  | 0, _ => rfl
  | k + 1, h => by rw [wsum_f (h k (by omega)), wsum_zero fun j hj => h j (by omega)]
theorem wsum_or {p q r : Nat → Bool} {W : List Int} (hW : ∀ w ∈ W, 0 ≤ w ∧ w ≤ 1099511627776) (h : ∀ j, r j = (p j || q j)) : ∀ k, wsum r W k ≤ wsum p W k + wsum q W k ∧ ((∀ j, j < k → ¬ (p j = true ∧ q j = true)) → wsum r W k = wsum p W k + wsum q W k)
  | 0 => by simp [wsum]
  | k + 1 => by
    obtain ⟨h1, h2⟩ := wsum_or hW h k
    unfold wsum
    rw [h k]
    have hg : 0 ≤ (W[k]?).getD 0 := by
      cases hk : W[k]? with
      | none => simp
      | some w => have := hW w (List.mem_of_getElem? hk); simp; omega
    generalize (W[k]?).getD 0 = g at hg
    refine ⟨?_, fun hd => ?_⟩
    · cases p k <;> cases q k <;> simp <;> omega
    · have e := h2 fun j hj => hd j (by omega)
      have hk := hd k (by omega)
      cases hp : p k <;> cases hq : q k
      · simp; omega
      · simp; omega
      · simp; omega
      · exact absurd ⟨hp, hq⟩ hk
def hitA (a b : List Int) : Bool := a.any fun x => b.any fun y => x == y
theorem F27_in {a b : List Int} {bo : Bool} {i : Nat} {x : Int} (hx : a[i]? = some x) (hb : b.length ≤ 1000) : iter (F27_s2 a b (F27_L1.mk bo (i : Int))) big (F27_L2.mk bo 0) = some (F27_L2.mk (bo || b.any fun y => x == y) (b.length : Int)) := by
  have e := count_loop (step := F27_s2 a b (F27_L1.mk bo (i : Int))) (n := b.length) (fun k => F27_L2.mk (bo || (b.take k).any fun y => x == y) (k : Int)) (F27_L2.mk (bo || b.any fun y => x == y) (b.length : Int)) (fun k hk => by
    obtain ⟨y, hy, hm⟩ := get_of hk
    unfold F27_s2
    simp only
    rw [decide_eq_true (show (k : Int) < (b.length : Int) by omega), ct, take_succ_get hy, List.any_append, ix_nat hx, ix_nat hy, wrap_succ (n := k) (by omega)]
    cases hbo : (bo || (b.take k).any fun y => x == y) with
    | true => rw [ct, ← Bool.or_assoc, hbo]; simp
    | false => rw [cf, ob, ob, ← Bool.or_assoc, hbo]; simp) (by
    unfold F27_s2
    simp only
    rw [decide_eq_false (show ¬ (b.length : Int) < (b.length : Int) by omega), cf, List.take_length]) (by omega)
  have e0 : F27_L2.mk (bo || (b.take 0).any fun y => x == y) ((0 : Nat) : Int) = F27_L2.mk bo 0 := by simp
  rw [e0] at e
  exact e
theorem F27_out {a b : List Int} (ha : a.length ≤ 1000) (hb : b.length ≤ 1000) : iter (F27_s1 a b) big (F27_L1.mk false 0) = some (F27_L1.mk (hitA a b) (a.length : Int)) := by
  have e := count_loop (step := F27_s1 a b) (n := a.length) (fun k => F27_L1.mk (hitA (a.take k) b) (k : Int)) (F27_L1.mk (hitA a b) (a.length : Int)) (fun k hk => by
    obtain ⟨y, hy, hm⟩ := get_of hk
    unfold F27_s1
    simp only
    rw [decide_eq_true (show (k : Int) < (a.length : Int) by omega), ct, F27_in hy hb, ob, wrap_succ (n := k) (by omega), take_succ_get hy]
    simp [hitA]) (by
    unfold F27_s1
    simp only
    rw [decide_eq_false (show ¬ (a.length : Int) < (a.length : Int) by omega), cf, List.take_length]) (by omega)
  have e0 : F27_L1.mk (hitA (a.take 0) b) ((0 : Nat) : Int) = F27_L1.mk false 0 := by simp [hitA]
  rw [e0] at e
  exact e
theorem wt_in (c : Cf) (l : List Int) : 0 ≤ wtP c l ∧ wtP c l ≤ 13194139533312 := by
  unfold wtP
  split
  · next h =>
    have := wsum_in (p := fun j => decide ((j : Int) ∈ l)) h.okW.2 c.W.length
    have := h.2.1
    omega
  · omega
theorem hitA_false {a b : List Int} (h : hitA a b = false) {x : Int} (h1 : x ∈ a) (h2 : x ∈ b) : False := by
  have : hitA a b = true := List.any_eq_true.2 ⟨x, h1, List.any_eq_true.2 ⟨x, h2, by simp⟩⟩
  rw [h] at this; cases this
theorem wt_or (c : Cf) (a b : List Int) : wtP c (a ++ b) ≤ wtP c a + wtP c b ∧ (hitA a b = false → wtP c (a ++ b) = wtP c a + wtP c b) := by
  unfold wtP
  by_cases h : MayC c
  · rw [if_pos h, if_pos h, if_pos h]
    obtain ⟨h1, h2⟩ := wsum_or (p := fun j => decide ((j : Int) ∈ a)) (q := fun j => decide ((j : Int) ∈ b)) (r := fun j => decide ((j : Int) ∈ a ++ b)) h.okW.2 (fun j => by simp) c.W.length
    exact ⟨h1, fun hh => h2 fun j _ hj => hitA_false hh (of_decide_eq_true hj.1) (of_decide_eq_true hj.2)⟩
  · rw [if_neg h, if_neg h, if_neg h]; exact ⟨by omega, fun _ => by omega⟩
theorem wt_none (c : Cf) : wtP c [(-1), (c.W.length : Int), 1099511627776] = 0 := by
  unfold wtP
  split
  · next h =>
    have h12 := h.2.1
    refine wsum_zero fun j hj => decide_eq_false fun hm => ?_
    simp only [List.mem_cons, List.not_mem_nil, or_false] at hm
    omega
  · rfl
theorem duParts (c : Cf) (a b : List Int) : F27 c a b = some true := by
  unfold F27
  rw [F62_eq, ob, Bool.not_true, cf]
  by_cases h0 : (c.W.length : Int) > 40
  · rw [decide_eq_true h0, ct, ob, ct]
  · rw [decide_eq_false h0, cf]
    by_cases h1 : (a.length : Int) > 20
    · rw [decide_eq_true h1, ct, ob, ct]
    · rw [decide_eq_false h1, cf, ob]
      by_cases h2 : (b.length : Int) > 20
      · rw [decide_eq_true h2, ct]
      · have hw := wt_or c a b
        have i1 := wt_in c a
        have i2 := wt_in c b
        rw [decide_eq_false h2, cf, F27_out (by omega) (by omega), ob, room_ok (by omega) (by omega), ct, room_ok (by omega) (by omega), ct, F70_eq (by rw [List.length_append]; omega), ob, F70_eq (by omega), ob, F70_eq (by omega), ob,
          wrapI (n := wtP c a + wtP c b) (by omega) (by omega), decide_eq_true hw.1, ct]
        cases hh : hitA a b with
        | true => rw [ct, F70_eq (by simp), ob, wt_none, beqt rfl]
        | false => rw [cf, beqt (hw.2 hh), ct, F70_eq (by simp), ob, wt_none, beqt rfl]
theorem wsum_le {p q : Nat → Bool} {W : List Int} (hW : ∀ w ∈ W, 0 ≤ w ∧ w ≤ 1099511627776) (h : ∀ j, p j = true → q j = true) : ∀ k, wsum p W k ≤ wsum q W k
  | 0 => Int.le_refl _
  | k + 1 => by
    have ih := wsum_le hW h k
    unfold wsum
    have hg : 0 ≤ (W[k]?).getD 0 := by
      cases hk : W[k]? with
      | none => simp
      | some w => have := hW w (List.mem_of_getElem? hk); simp; omega
    generalize (W[k]?).getD 0 = g at hg
    cases hp : p k
    · cases q k <;> simp <;> omega
    · rw [h k hp]; simp; omega
theorem wsum_below {p q : Nat → Bool} {W : List Int} : ∀ {k : Nat}, (∀ j, j < k → p j = q j) → wsum p W k = wsum q W k
  | 0, _ => rfl
  | k + 1, h => by rw [wsum, wsum, wsum_below fun j hj => h j (by omega), h k (by omega)]
def upL (k : Nat) : List Int := (List.range k).map fun j : Nat => (j : Int)
theorem F25_all {c : Cf} (hW : c.W.length ≤ 1000) : iter (F25_s1 c) big (F25_L1.mk 0 []) = some (F25_L1.mk (c.W.length : Int) (upL c.W.length)) := by
  have e := count_loop (step := F25_s1 c) (n := c.W.length) (fun k => F25_L1.mk (k : Int) (upL k)) (F25_L1.mk (c.W.length : Int) (upL c.W.length)) (fun k hk => by
    unfold F25_s1
    simp only
    rw [decide_eq_true (show (k : Int) < (c.W.length : Int) by omega), ct, room_ok (by simp [upL]; omega) (by omega), ct, wrap_succ (n := k) (by omega)]
    simp [upL, List.range_succ]) (by
    unfold F25_s1
    simp only
    rw [decide_eq_false (show ¬ (c.W.length : Int) < (c.W.length : Int) by omega), cf]) (by omega)
  exact e
theorem wt_all {c : Cf} : wtP c (upL c.W.length) = totP c := by
  unfold wtP totP
  by_cases h : MayC c
  · rw [if_pos h, if_pos h]
    exact wsum_below fun j hj => decide_eq_true (List.mem_map.2 ⟨j, List.mem_range.2 hj, rfl⟩)
  · rw [if_neg h, if_neg h]
theorem wt_nil (c : Cf) : wtP c [] = 0 := by
  unfold wtP
  split
  · exact wsum_zero fun j _ => by simp
  · rfl
theorem wt_same {c : Cf} {a b : List Int} (h : ∀ x, x ∈ a ↔ x ∈ b) : wtP c a = wtP c b := by
  unfold wtP
  by_cases hm : MayC c
  · rw [if_pos hm, if_pos hm]
    exact wsum_congr (fun j => decide_eq_decide.2 (h _)) _
  · rw [if_neg hm, if_neg hm]
theorem wt_le (c : Cf) (l : List Int) : wtP c l ≤ totP c := by
  unfold wtP totP
  by_cases h : MayC c
  · rw [if_pos h, if_pos h]; exact wsum_le h.okW.2 (fun _ _ => rfl) _
  · rw [if_neg h, if_neg h]; omega
theorem duWeighs (c : Cf) (l : List Int) (who : Int) : F25 c l who = some true := by
  unfold F25
  rw [F62_eq, ob, Bool.not_true, cf]
  by_cases h0 : (c.W.length : Int) > 40
  · rw [decide_eq_true h0, ct, ob, ct]
  · rw [decide_eq_false h0, cf]
    by_cases h1 : (l.length : Int) > 40
    · rw [decide_eq_true h1, ct, ob, ct]
    · rw [decide_eq_false h1, cf, F64_eq, ob]
      by_cases h : MayC c
      · have e1 : wtP c (l ++ l) = wtP c l := wt_same fun x => by simp
        have hi := wt_in c l
        have hi2 := wt_in c [who]
        rw [decide_eq_true h, Bool.not_true, ob, cf, F70_eq (by omega), ob, room_ok (by omega) (by omega), ct, room_ok (by simp only [List.length_singleton]; omega) (by omega), ct, F70_eq (by rw [List.length_append]; simp only [List.length_singleton]; omega), ob, F70_eq (by simp), ob, F76_eq (by omega), ob, F25_all (by omega), ob,
          decide_eq_true hi.1, ct, F72_eq, ob, decide_eq_true (wt_le c l), ct]
        by_cases hw : who ∈ l
        · have e2 : wtP c (l ++ [who]) = wtP c l := wt_same fun x => by
            simp only [List.mem_append, List.mem_singleton]
            exact ⟨fun h => h.elim id fun e => e ▸ hw, .inl⟩
          rw [decide_eq_true hw, ct, beqt e2, ct, F70_eq (by simp [upL]; omega), ob, ob, wt_all, beqt rfl, ct, F70_eq (by simp), ob, wt_nil, beqt rfl, ct, ct, room_ok (by omega) (by omega), ct, F70_eq (by rw [List.length_append]; omega), ob, beqt e1]
        · have hh : hitA l [who] = false := by
            cases hx : hitA l [who] with
            | false => rfl
            | true =>
              obtain ⟨x, hx1, hx2⟩ := List.any_eq_true.1 hx
              simp at hx2
              exact absurd (hx2 ▸ hx1) hw
          rw [decide_eq_false hw, cf, Bool.not_false, ct, wrapI (by omega) (by omega), beqt ((wt_or c l [who]).2 hh), ct, F70_eq (by simp [upL]; omega), ob, ob, wt_all, beqt rfl, ct, F70_eq (by simp), ob, wt_nil, beqt rfl, ct, ct, room_ok (by omega) (by omega), ct, F70_eq (by rw [List.length_append]; omega), ob, beqt e1]
      · rw [decide_eq_false h, Bool.not_false, ob, ct]
theorem pickL_sorted (p : Nat → Bool) : ∀ k, (pickL p k).Pairwise (· < ·)
  | 0 => by simp [pickL]
  | k + 1 => by
    have ih := pickL_sorted p k
    unfold pickL
    cases p k with
    | false => exact ih
    | true =>
      rw [ct, List.pairwise_append]
      refine ⟨ih, by simp, fun a ha b hb => ?_⟩
      obtain ⟨j, h1, -, rfl⟩ := (pickL_mem p a k).1 ha
      obtain rfl := List.mem_singleton.1 hb
      omega
/-- What is counted for each of n. -/
def cntL (f : Nat → Int) (n : Nat) : List Int := (List.range n).map f
theorem cntL_get {f : Nat → Int} {n j : Nat} (h : j < n) : (cntL f n)[j]? = some (f j) := by simp [cntL, h]
theorem cntL_set {f : Nat → Int} {n j : Nat} {v : Int} (h : j < n) : (cntL f n).set j v = cntL (fun i => if i = j then v else f i) n := by
  apply List.ext_getElem?
  intro i
  rw [List.getElem?_set]
  unfold cntL
  rw [List.getElem?_map, List.getElem?_map]
  by_cases hi : i < n
  · rw [List.getElem?_range hi]
    by_cases e : j = i
    · subst e; simp [h]
    · simp [e, Ne.symm e]
  · rw [List.getElem?_eq_none (l := List.range n) (by simp; omega)]
    by_cases e : j = i
    · omega
    · simp [e]
theorem cntL_congr {f g : Nat → Int} {n : Nat} (h : ∀ j, j < n → f j = g j) : cntL f n = cntL g n := List.map_congr_left fun j hj => h j (List.mem_range.1 hj)
theorem cntL_len (f : Nat → Int) (n : Nat) : (cntL f n).length = n := by simp [cntL]
/-- The rest that says in which slot of an epoch one votes. -/
def rest (c : Cf) (epoch : Int) (j : Nat) : Int := (toA (step c.Seed (IntKind.u64.wrap epoch)) (c.W.length : Int) (j : Int)).tmod c.Epoch
theorem inP_rest {c : Cf} {epoch r : Int} (h : MayC c) (he : 1 ≤ epoch) (he2 : epoch ≤ 100000) (h0 : 0 ≤ r) (h1 : r < c.Epoch) (j : Nat) : inP c (epoch * c.Epoch + r) j = (rest c epoch j == r) := by
  have hE := h.2.2.2.1
  have hE2 := h.2.2.2.2.1
  have hnn : 0 ≤ epoch * c.Epoch := Int.mul_nonneg (by omega) (by omega)
  have hle : epoch * c.Epoch ≤ 800000 := by
    have := Int.mul_le_mul he2 hE2 (by omega) (by omega)
    omega
  have hd : (epoch * c.Epoch + r).tdiv c.Epoch = epoch := by
    rw [Int.tdiv_eq_ediv_of_nonneg (by omega), Int.add_comm, Int.add_mul_ediv_right _ _ (by omega), Int.ediv_eq_zero_of_lt h0 h1]; omega
  have hm : (epoch * c.Epoch + r).tmod c.Epoch = r := by
    rw [Int.tmod_eq_emod_of_nonneg (by omega), Int.add_comm, Int.add_mul_emod_self_right, Int.emod_eq_of_lt h0 h1]
  unfold inP seedOf rest
  rw [hd, hm, wrapI (n := epoch) (by omega) (by omega)]
theorem rest_in {c : Cf} {epoch : Int} (h : MayC c) {j : Nat} (hj : j < c.W.length) : 0 ≤ rest c epoch j ∧ rest c epoch j < c.Epoch := by
  have h1 := h.1
  have h2 := h.2.1
  have hE := h.2.2.2.1
  have := (to_in (seed := step c.Seed (IntKind.u64.wrap epoch)) (n := (c.W.length : Int)) (i := (j : Int)) ⟨by omega, by omega, by omega, by omega⟩).2.2.1
  unfold rest
  rw [Int.tmod_eq_emod_of_nonneg this]
  exact ⟨Int.emod_nonneg _ (by omega), Int.emod_lt_of_pos _ (by omega)⟩
theorem pickL_get {p : Nat → Bool} {k i : Nat} {y : Int} (h : (pickL p k)[i]? = some y) : ∃ q : Nat, q < k ∧ p q = true ∧ y = q := (pickL_mem p y k).1 (List.mem_of_getElem? h)
theorem pickL_lt {p : Nat → Bool} {k i j : Nat} {x y : Int} (hij : i < j) (hx : (pickL p k)[i]? = some x) (hy : (pickL p k)[j]? = some y) : x < y := by
  obtain ⟨h1, e1⟩ := List.getElem?_eq_some_iff.1 hx
  obtain ⟨h2, e2⟩ := List.getElem?_eq_some_iff.1 hy
  have := List.pairwise_iff_getElem.1 (pickL_sorted p k) i j h1 h2 hij
  rw [e1, e2] at this
  exact this
theorem slotI {epoch E r : Int} (h1 : 1 ≤ epoch) (h2 : epoch ≤ 100000) (h3 : 1 ≤ E) (h4 : E ≤ 8) (h5 : 0 ≤ r) (h6 : r ≤ E) : 1 ≤ epoch * E + r ∧ epoch * E + r ≤ 1000000 ∧ 1 ≤ epoch * E ∧ epoch * E ≤ 800000 := by
  have a := Int.mul_le_mul h1 h3 (by omega) (by omega)
  have b := Int.mul_le_mul h2 h4 (by omega) (by omega)
  omega
/-- How often each has been met: once in each slot that is gone, and once more among the first i. -/
def metN (c : Cf) (epoch r : Int) (l : List Int) (j : Nat) : Int := (if rest c epoch j < r then 1 else 0) + (if (j : Int) ∈ l then 1 else 0)
theorem once_in {c : Cf} {epoch r al : Int} (h : MayC c) (he : 1 ≤ epoch) (he2 : epoch ≤ 100000) (h0 : 0 ≤ r) (h1 : r < c.Epoch) {tm : List Int} :
    iter (F24_s2 c (F24_L1.mk al (epoch * c.Epoch + r) tm) (cmP c (epoch * c.Epoch + r))) big (F24_L2.mk 0 (cntL (metN c epoch r []) c.W.length)) =
      some (.inl (F24_L2.mk ((cmP c (epoch * c.Epoch + r)).length : Int) (cntL (metN c epoch r (cmP c (epoch * c.Epoch + r))) c.W.length))) := by
  have hl := cm_len c (epoch * c.Epoch + r)
  have hs := slotI he he2 h.2.2.2.1 h.2.2.2.2.1 h0 (by omega)
  have hp : cmP c (epoch * c.Epoch + r) = pickL (inP c (epoch * c.Epoch + r)) c.W.length := by unfold cmP; rw [if_pos ⟨h, by omega, by omega⟩]
  have e := count_loop (step := F24_s2 c (F24_L1.mk al (epoch * c.Epoch + r) tm) (cmP c (epoch * c.Epoch + r))) (n := (cmP c (epoch * c.Epoch + r)).length)
    (fun k => F24_L2.mk (k : Int) (cntL (metN c epoch r ((cmP c (epoch * c.Epoch + r)).take k)) c.W.length)) (.inl (F24_L2.mk ((cmP c (epoch * c.Epoch + r)).length : Int) (cntL (metN c epoch r (cmP c (epoch * c.Epoch + r))) c.W.length))) (fun k hk => by
    obtain ⟨y, hy, hm⟩ := get_of hk
    have hy' := hy
    rw [hp] at hy'
    obtain ⟨q, hq, hpq, rfl⟩ := pickL_get hy'
    have hq2 : (cntL (metN c epoch r ((cmP c (epoch * c.Epoch + r)).take k)) c.W.length)[q]? = some (metN c epoch r ((cmP c (epoch * c.Epoch + r)).take k) q) := cntL_get hq
    have hno : ¬ ((q : Nat) : Int) ∈ (cmP c (epoch * c.Epoch + r)).take k := fun hin => by
      obtain ⟨i, hi, ei⟩ := List.mem_iff_getElem.1 hin
      rw [List.length_take] at hi
      have : (pickL (inP c (epoch * c.Epoch + r)) c.W.length)[i]? = some (q : Int) := by
        rw [← hp, List.getElem?_eq_getElem (by omega)]
        rw [List.getElem_take] at ei
        rw [ei]
      have := pickL_lt (show i < k by omega) this hy'
      omega
    have hr : rest c epoch q = r := by
      rw [inP_rest h he he2 h0 h1] at hpq
      simpa using hpq
    have hv : metN c epoch r ((cmP c (epoch * c.Epoch + r)).take k) q = 0 := by unfold metN; rw [if_neg (by omega), if_neg hno]; rfl
    have hset : (cntL (metN c epoch r ((cmP c (epoch * c.Epoch + r)).take k)) c.W.length).set q 1 = cntL (metN c epoch r ((cmP c (epoch * c.Epoch + r)).take (k + 1))) c.W.length := by
      rw [cntL_set hq]
      refine cntL_congr fun j hj => ?_
      rw [take_succ_get hy]
      unfold metN
      by_cases hjq : j = q
      · subst hjq; rw [if_pos rfl, if_neg (by omega), if_pos (by simp)]; rfl
      · rw [if_neg hjq]
        congr 1
        have : ((j : Int) ∈ (cmP c (epoch * c.Epoch + r)).take k ++ [(q : Int)]) ↔ (j : Int) ∈ (cmP c (epoch * c.Epoch + r)).take k := by
          rw [List.mem_append, List.mem_singleton]
          exact ⟨fun h => h.elim id fun e => absurd (by omega) hjq, .inl⟩
        by_cases hh : (j : Int) ∈ (cmP c (epoch * c.Epoch + r)).take k
        · rw [if_pos hh, if_pos (this.2 hh)]
        · rw [if_neg hh, if_neg fun h2 => hh (this.1 h2)]
    have hw12 := h.2.1
    have hmid : (bif decide ((k : Int) > 0) then
            (ix (cmP c (epoch * c.Epoch + r)) (k : Int)).bind fun y3 =>
            (ix (cmP c (epoch * c.Epoch + r)) (IntKind.i64.wrap ((k : Int) - 1))).bind fun y4 =>
            bif decide (y3 ≤ y4) then
              some (.inr (.inr (.inr (.inr (.inr false)))))
            else
              (ix (cmP c (epoch * c.Epoch + r)) (k : Int)).bind fun y5 =>
              (F74 c (epoch * c.Epoch + r) y5).bind fun v9 =>
              bif !v9 then
                some (.inr (.inr (.inr (.inr (.inr false)))))
              else
                some (.inl ())
          else
            (ix (cmP c (epoch * c.Epoch + r)) (k : Int)).bind fun y6 =>
            (F74 c (epoch * c.Epoch + r) y6).bind fun v10 =>
            bif !v10 then
              some (.inr (.inr (.inr (.inr (.inr false)))))
            else
              some (.inl ())) = (some (.inl ()) : Option (Unit ⊕ (F24_L2 ⊕ (F24_L2 ⊕ (F24_L1 ⊕ (F24_L1 ⊕ Bool)))))) := by
      have h74 : F74 c (epoch * c.Epoch + r) (q : Int) = some true := by rw [F74_eq, decide_eq_true hm]
      by_cases hk0 : (k : Int) > 0
      · obtain ⟨x, hx, -⟩ := get_of (l := cmP c (epoch * c.Epoch + r)) (n := k - 1) (by omega)
        have hx' := hx
        rw [hp] at hx'
        have hlt := pickL_lt (show k - 1 < k by omega) hx' hy'
        have hxx : ix (cmP c (epoch * c.Epoch + r)) (IntKind.i64.wrap ((k : Int) - 1)) = some x := by
          rw [wrapI (by omega) (by omega), show (k : Int) - 1 = ((k - 1 : Nat) : Int) by omega]; exact ix_nat hx
        rw [decide_eq_true hk0, ct, ix_nat hy, ob, hxx, ob, decide_eq_false (show ¬ (q : Int) ≤ x by omega), cf, ob, h74, ob]; rfl
      · rw [decide_eq_false hk0, cf, ix_nat hy, ob, h74, ob]; rfl
    unfold F24_s2
    simp only
    rw [decide_eq_true (show (k : Int) < ((cmP c (epoch * c.Epoch + r)).length : Int) by omega), ct, ix_nat hy, ob, decide_eq_false (show ¬ (q : Int) < 0 by omega), cf, ob, decide_eq_false (show ¬ (q : Int) ≥ (c.W.length : Int) by omega), cf]
    rw [ix_nat hy] at hmid
    rw [hmid, ob, sl, ob, ix_nat hq2, ob, ob, hv, wrap_succ (n := k) (by omega), show IntKind.i64.wrap (0 + 1) = 1 from wrapI (by omega) (by omega), Int.toNat_natCast, hset]) (by
    unfold F24_s2
    simp only
    rw [decide_eq_false (show ¬ ((cmP c (epoch * c.Epoch + r)).length : Int) < ((cmP c (epoch * c.Epoch + r)).length : Int) by omega), cf, List.take_length]) (by omega)
  have e0 : F24_L2.mk ((0 : Nat) : Int) (cntL (metN c epoch r ((cmP c (epoch * c.Epoch + r)).take 0)) c.W.length) = F24_L2.mk 0 (cntL (metN c epoch r []) c.W.length) := by simp
  rw [e0] at e
  exact e
theorem wsum_step {f : Nat → Int} {W : List Int} (hW : ∀ w ∈ W, 0 ≤ w ∧ w ≤ 1099511627776) (k k' : Int) (hk : k' = k + 1) (n : Nat) :
    wsum (fun j => decide (f j < k)) W n + wsum (fun j => decide (f j = k)) W n = wsum (fun j => decide (f j < k')) W n := by
  refine ((wsum_or (p := fun j => decide (f j < k)) (q := fun j => decide (f j = k)) (r := fun j => decide (f j < k')) hW (fun j => ?_) n).2 fun j _ hj => ?_).symm
  · show decide (f j < k') = (decide (f j < k) || decide (f j = k))
    generalize f j = y
    rw [← Bool.decide_or]
    exact decide_eq_decide.2 (by omega)
  · have h1 := of_decide_eq_true hj.1
    have h2 := of_decide_eq_true hj.2
    omega
theorem met_step {c : Cf} {epoch : Int} {k : Int} {l : List Int} {n : Nat} (hmem : ∀ j : Nat, j < n → ((j : Int) ∈ l ↔ rest c epoch j = k)) : cntL (metN c epoch k l) n = cntL (metN c epoch (k + 1) []) n := by
  refine cntL_congr fun j hj => ?_
  have := hmem j hj
  unfold metN
  generalize rest c epoch j = y at *
  rw [if_neg (show ¬ (j : Int) ∈ ([] : List Int) by simp)]
  by_cases h1 : y = k
  · rw [if_neg (by omega), if_pos (this.2 h1), if_pos (by omega)]; rfl
  · rw [if_neg (show ¬ (j : Int) ∈ l from fun h2 => h1 (this.1 h2))]
    congr 1
    by_cases h2 : y < k
    · rw [if_pos h2, if_pos (by omega)]
    · rw [if_neg h2, if_neg (by omega)]
theorem once_out {c : Cf} {epoch : Int} (h : MayC c) (he : 1 ≤ epoch) (he2 : epoch ≤ 100000) :
    iter (F24_s1 c epoch) big (F24_L1.mk 0 (epoch * c.Epoch) (cntL (metN c epoch 0 []) c.W.length)) =
      some (.inl (F24_L1.mk (totP c) (epoch * c.Epoch + c.Epoch) (cntL (metN c epoch c.Epoch []) c.W.length))) := by
  have hE := h.2.2.2.1
  have hE2 := h.2.2.2.2.1
  have h12 := h.2.1
  have hs0 := slotI he he2 hE hE2 (r := 0) (by omega) (by omega)
  have hsE := slotI he he2 hE hE2 (r := c.Epoch) (by omega) (by omega)
  have hbound : IntKind.i64.wrap (IntKind.i64.wrap (epoch * c.Epoch) + c.Epoch) = epoch * c.Epoch + c.Epoch := by
    rw [wrapI (n := epoch * c.Epoch) (by omega) (by omega), wrapI (by omega) (by omega)]
  have e := count_loop (step := F24_s1 c epoch) (n := c.Epoch.toNat)
    (fun k => F24_L1.mk (wsum (fun j => decide (rest c epoch j < (k : Int))) c.W c.W.length) (epoch * c.Epoch + (k : Int)) (cntL (metN c epoch (k : Int) []) c.W.length))
    (.inl (F24_L1.mk (totP c) (epoch * c.Epoch + c.Epoch) (cntL (metN c epoch c.Epoch []) c.W.length))) (fun k hk => by
    have hk' : (k : Int) < c.Epoch := by omega
    have hs := slotI he he2 hE hE2 (r := (k : Int)) (by omega) (by omega)
    have hl := cm_len c (epoch * c.Epoch + (k : Int))
    have hp : cmP c (epoch * c.Epoch + (k : Int)) = pickL (inP c (epoch * c.Epoch + (k : Int))) c.W.length := by unfold cmP; rw [if_pos ⟨h, by omega, by omega⟩]
    have hmem : ∀ j : Nat, j < c.W.length → ((j : Int) ∈ cmP c (epoch * c.Epoch + (k : Int)) ↔ rest c epoch j = (k : Int)) := fun j hj => by
      rw [hp, pickL_mem]
      constructor
      · rintro ⟨q, -, h2, h3⟩
        obtain rfl : j = q := by omega
        rw [inP_rest h he he2 (by omega) hk'] at h2
        simpa using h2
      · intro h2
        exact ⟨j, hj, by rw [inP_rest h he he2 (by omega) hk']; simpa using h2, rfl⟩
    have i1 := wt_in c (cmP c (epoch * c.Epoch + (k : Int)))
    have i2 := wsum_in (p := fun j => decide (rest c epoch j < (k : Int))) h.okW.2 c.W.length
    have hsum : wsum (fun j => decide (rest c epoch j < (k : Int))) c.W c.W.length + wtP c (cmP c (epoch * c.Epoch + (k : Int))) = wsum (fun j => decide (rest c epoch j < ((k + 1 : Nat) : Int))) c.W c.W.length := by
      unfold wtP
      rw [if_pos h]
      rw [wsum_below (p := fun j => decide ((j : Int) ∈ cmP c (epoch * c.Epoch + (k : Int)))) (q := fun j => decide (rest c epoch j = (k : Int))) fun j hj => decide_eq_decide.2 (hmem j hj)]
      exact wsum_step h.okW.2 (k : Int) ((k + 1 : Nat) : Int) (by omega) c.W.length
    unfold F24_s1
    simp only
    rw [hbound, decide_eq_true (show epoch * c.Epoch + (k : Int) < epoch * c.Epoch + c.Epoch by omega), ct, F65_eq, ob, F70_eq (by omega), ob, once_in h he he2 (by omega) hk', ob, sl, wrapI (by omega) (by omega), hsum,
      wrapI (n := epoch * c.Epoch + (k : Int) + 1) (by omega) (by omega), show epoch * c.Epoch + (k : Int) + 1 = epoch * c.Epoch + ((k + 1 : Nat) : Int) by omega, met_step hmem, show ((k : Int) + 1) = ((k + 1 : Nat) : Int) by omega]) (by
    unfold F24_s1
    simp only
    rw [hbound, show ((c.Epoch.toNat : Nat) : Int) = c.Epoch by omega, decide_eq_false (show ¬ epoch * c.Epoch + c.Epoch < epoch * c.Epoch + c.Epoch by omega), cf]
    have : wsum (fun j => decide (rest c epoch j < c.Epoch)) c.W c.W.length = totP c := by
      unfold totP
      rw [if_pos h]
      exact wsum_below fun j hj => decide_eq_true (rest_in h hj).2
    rw [this]) (by omega)
  have hz : wsum (fun j => decide (rest c epoch j < ((0 : Nat) : Int))) c.W c.W.length = 0 := wsum_zero fun j hj => decide_eq_false (by have := (rest_in (epoch := epoch) h hj).1; omega)
  rw [hz, show epoch * c.Epoch + ((0 : Nat) : Int) = epoch * c.Epoch by omega] at e
  exact e
theorem cntL_repl {n : Nat} {f : Nat → Int} (h : ∀ j, j < n → f j = 0) : List.replicate n (0 : Int) = cntL f n := by
  apply List.ext_getElem?
  intro i
  unfold cntL
  rw [List.getElem?_map]
  by_cases hi : i < n
  · rw [List.getElem?_range hi, List.getElem?_replicate, if_pos hi]
    simp [h i hi]
  · rw [List.getElem?_eq_none (by simp; omega), List.getElem?_eq_none (l := List.range n) (by simp; omega)]; rfl
theorem once_end {n : Nat} {f : Nat → Int} {v4 : F24_L1} (hn : n ≤ 1000) (h : ∀ j, j < n → f j = 1) (ht : v4.times = cntL f n) : iter (F24_s3 v4) big (F24_L3.mk 0) = some (.inl (F24_L3.mk (n : Int))) := by
  have hlen : v4.times.length = n := by rw [ht, cntL_len]
  have e := count_loop (step := F24_s3 v4) (n := n) (fun k => F24_L3.mk (k : Int)) (.inl (F24_L3.mk (n : Int))) (fun k hk => by
    have hg : v4.times[k]? = some 1 := by rw [ht, cntL_get hk, h k hk]
    unfold F24_s3
    simp only
    rw [hlen, decide_eq_true (show (k : Int) < (n : Int) by omega), ct, ix_nat hg, ob, show ((1 : Int) != 1) = false from rfl, cf, wrap_succ (n := k) (by omega)]) (by
    unfold F24_s3
    simp only
    rw [hlen, decide_eq_false (show ¬ (n : Int) < (n : Int) by omega), cf]) (by omega)
  exact e
theorem duOnce (c : Cf) (epoch : Int) : F24 c epoch = some true := by
  unfold F24
  rw [F62_eq, ob, Bool.not_true, cf]
  by_cases h0 : (c.W.length : Int) > 40
  · rw [decide_eq_true h0, ct, ob, ct]
  · rw [decide_eq_false h0, cf, F64_eq, ob]
    by_cases h : MayC c
    · rw [decide_eq_true h, Bool.not_true, cf]
      by_cases h1 : epoch < 1
      · rw [decide_eq_true h1, ct, ob, ct]
      · rw [decide_eq_false h1, cf, ob]
        by_cases h2 : epoch > 100000
        · rw [decide_eq_true h2, ct]
        · have h12 := h.2.1
          have hs0 := slotI (epoch := epoch) (E := c.Epoch) (r := 0) (by omega) (by omega) h.2.2.2.1 h.2.2.2.2.1 (by omega) (by have := h.2.2.2.1; omega)
          have hmk : mkOk (c.W.length : Int) 8 = true := by unfold mkOk; exact decide_eq_true ⟨by have := h.1; omega, by omega, by omega⟩
          have hr : List.replicate (c.W.length : Int).toNat (0 : Int) = cntL (metN c epoch 0 []) c.W.length := by
            rw [Int.toNat_natCast]
            refine cntL_repl fun j hj => ?_
            unfold metN
            rw [if_neg (by have := (rest_in (epoch := epoch) h hj).1; omega), if_neg (by simp)]; rfl
          have hone : ∀ j, j < c.W.length → metN c epoch c.Epoch [] j = 1 := fun j hj => by
            unfold metN
            rw [if_pos (rest_in h hj).2, if_neg (by simp)]; rfl
          have he := once_end (v4 := F24_L1.mk (totP c) (epoch * c.Epoch + c.Epoch) (cntL (metN c epoch c.Epoch []) c.W.length)) (by omega) hone rfl
          rw [decide_eq_false h2, cf, hmk, ct, hr, wrapI (n := epoch * c.Epoch) (by omega) (by omega), once_out h (by omega) (by omega), ob, sl, he, ob, sl, F72_eq, ob, beqt rfl]
    · rw [decide_eq_false h, Bool.not_false, ct, ob, ct]
end Go.Mg
