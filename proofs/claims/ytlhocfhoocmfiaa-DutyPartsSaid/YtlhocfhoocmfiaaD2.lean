/- Laws of duties. Plain laws of duties: which confs may be, and sums of weights. Plain laws of duties: which confs may be; weights. Plain laws of duties: weights of lists; lists. Plain laws of duties: committees, proposers. Laws of duties. Conditions: none. -/
import Derived.Test.YtlhocfhoocmfiaaD1
import Derived.Test.YtlhocfhoocmfiaaS2
namespace Go.Mg
open Go.Proofs
def F21 (c : Cf) (slot : Int) : Option Bool :=
  (F62 ).bind fun v1 =>
  (
    bif !v1 then
      some true
    else
      some (decide ((c.W.length : Int) > 40))
  ).bind fun v2 =>
  bif v2 then
    some v1
  else
    (F63 c slot).bind fun v3 =>
    (
      (F64 c).bind fun v5 =>
      bif !v5 then
        some true
      else
        bif decide (slot < 1) then
          some true
        else
          some (decide (slot > 1048576))
    ).bind fun v4 =>
    bif v4 then
      (
        bif v3 == (-1) then
          (F65 c slot).bind fun v7 =>
          some ((v7.length : Int) == 0)
        else
          some false
      ).bind fun v6 =>
      some v6
    else
      bif decide (v3 ≥ 0) then
        some (decide (v3 < (c.W.length : Int)))
      else
        some false
set_option maxRecDepth 100000 in
theorem c21 {c : Cf} {slot : Int} {r_ : Bool} (hr : F21 c slot = some r_) : LPure Try.prog 21 [cfP c, .int .i64 slot] [.bool r_] := by
  refine LPure.start Try.func21 rfl rfl rfl rfl ?_
  unfold F21 at hr
  refine LW.seq ?_
  refine LW.region ?_
  refine LOps.st rfl rfl rfl (LOp.box rfl rfl rfl rfl rfl) ?_
  refine LOps.st rfl rfl rfl (LOp.assign rfl rfl) ?_
  refine LOps.nil ?_
  refine thn_n ?_
  refine LW.seq ?_
  refine LW.region ?_
  obtain ⟨v1, h_v1, hr⟩ := bind_get hr
  refine LOps.st rfl rfl rfl (LOp.call rfl rfl rfl (by kernel_rfl) (LC.pure (c62 h_v1) .nil)) ?_
  refine LOps.st rfl rfl rfl (LOp.assign rfl rfl) ?_
  refine LOps.nil ?_
  refine thn_n ?_
  refine LW.seq ?_
  obtain ⟨v2, hb_v2, ho_v2⟩ := bind_get hr
  clear hr
  refine LW.cut (E := [(1, .p (.int .i64 slot)), (2, .ptr 0 0), (4, .p (.bool false)), (5, .p (.bool v1)), (15, .p (.bool v2))]) (O := [.box [.p (.slice 1 (c.W.map i64P)), .p (.int .u64 c.Seed), .p (.int .i64 c.Epoch), .p (.int .i64 c.Num), .p (.int .i64 c.Den)]]) ?_ ?_
  · have hr := hb_v2
    refine LW.region ?_
    refine LOps.st rfl rfl rfl (LOp.move rfl rfl) ?_
    refine LOps.st rfl rfl rfl (LOp.not rfl rfl) ?_
    refine LOps.st rfl rfl rfl (LOp.move rfl rfl) ?_
    refine LOps.cases 10 rfl (fun (g1 : (!v1) = true) => ?_) (fun (g1 : (!v1) = false) => ?_)
    · -- g1 is True
      have hr := ite_t g1 hr
      refine LOps.sk rfl rfl rfl (gd g1 rfl) rfl rfl ?_
      refine LOps.sk rfl rfl rfl (gd g1 rfl) rfl rfl ?_
      refine LOps.sk rfl rfl rfl (gd g1 rfl) rfl rfl ?_
      refine LOps.sk rfl rfl rfl (gd g1 rfl) rfl rfl ?_
      refine LOps.st rfl rfl rfl (LOp.pickT rfl (gdl g1 rfl) rfl) ?_
      refine LOps.nil ?_
      refine thn_n ?_
      obtain rfl := Option.some.inj hr
      exact Weak.of 1 ⟨rfl, rfl, rfl, rfl, rfl, trivial⟩ rfl rfl rfl rfl
    · -- g1 is False
      have hr := ite_f g1 hr
      refine LOps.gd rfl rfl rfl (gd g1 rfl) rfl (LOp.fieldAddr rfl rfl ft55_0) ?_
      refine LOps.gd rfl rfl rfl (gd g1 rfl) rfl (LOp.load rfl rfl rfl vt49 rfl rfl) ?_
      refine LOps.gd rfl rfl rfl (gd g1 rfl) rfl (LOp.lenM rfl rfl (by kernel_rfl)) ?_
      refine LOps.gd rfl rfl rfl (gd g1 rfl) rfl (LOp.bin rfl rfl rfl rfl) ?_
      refine LOps.st rfl rfl rfl (LOp.pickF rfl (gdl g1 rfl) rfl) ?_
      refine LOps.nil ?_
      refine thn_n ?_
      obtain rfl := Option.some.inj hr
      exact Weak.of 1 ⟨rfl, rfl, rfl, rfl, rfl, trivial⟩ rfl rfl rfl rfl
  · have hr := ho_v2
    clear hb_v2
    refine LW.cond rfl (fun (g2 : v2 = true) => ?_) (fun (g2 : v2 = false) => ?_)
    · -- g2 is True
      have hr := ite_t g2 hr
      refine LW.seq ?_
      refine LW.region ?_
      refine LOps.st rfl rfl rfl (LOp.move rfl rfl) ?_
      refine LOps.st rfl rfl rfl (LOp.assign rfl rfl) ?_
      refine LOps.nil ?_
      refine thn_n ?_
      refine LW.ret ?_
      refine thn_r ?_
      obtain rfl := Option.some.inj hr
      refine finP_ret (.one (.tmp rfl)) ?_
      exact Conv.p
    · -- g2 is False
      have hr := ite_f g2 hr
      refine LW.skip ?_
      refine thn_n ?_
      refine LW.seq ?_
      refine LW.region ?_
      refine LOps.st rfl rfl rfl (LOp.load rfl rfl rfl vt55 rfl rfl) ?_
      refine LOps.st rfl rfl rfl (LOp.move rfl rfl) ?_
      obtain ⟨v3, h_v3, hr⟩ := bind_get hr
      refine LOps.st rfl rfl rfl (LOp.call rfl rfl rfl (by kernel_rfl) (LC.pure (c63 h_v3) (.cons Conv.p (.cons Conv.p .nil)))) ?_
      refine LOps.st rfl rfl rfl (LOp.assign rfl rfl) ?_
      refine LOps.nil ?_
      refine thn_n ?_
      refine LW.seq ?_
      obtain ⟨v4, hb_v4, ho_v4⟩ := bind_get hr
      clear hr
      refine LW.cut (E := [(1, .p (.int .i64 slot)), (2, .ptr 0 0), (4, .p (.bool false)), (6, .p (.int .i64 v3)), (30, .p (.bool v4))]) (O := [.box [.p (.slice 1 (c.W.map i64P)), .p (.int .u64 c.Seed), .p (.int .i64 c.Epoch), .p (.int .i64 c.Num), .p (.int .i64 c.Den)]]) ?_ ?_
      · have hr := hb_v4
        refine LW.region ?_
        refine LOps.st rfl rfl rfl (LOp.load rfl rfl rfl vt55 rfl rfl) ?_
        obtain ⟨v5, h_v5, hr⟩ := bind_get hr
        refine LOps.st rfl rfl rfl (LOp.call rfl rfl rfl (by kernel_rfl) (LC.pure (c64 h_v5) (.cons Conv.p .nil))) ?_
        refine LOps.st rfl rfl rfl (LOp.not rfl rfl) ?_
        refine LOps.st rfl rfl rfl (LOp.move rfl rfl) ?_
        refine LOps.cases 23 rfl (fun (g3 : (!v5) = true) => ?_) (fun (g3 : (!v5) = false) => ?_)
        · -- g3 is True
          have hr := ite_t g3 hr
          refine LOps.sk rfl rfl rfl (gd g3 rfl) rfl rfl ?_
          refine LOps.sk rfl rfl rfl (gd g3 rfl) rfl rfl ?_
          refine LOps.st rfl rfl rfl (LOp.pickT rfl (gdl g3 rfl) rfl) ?_
          refine LOps.st rfl rfl rfl (LOp.move rfl rfl) ?_
          refine LOps.sk rfl rfl rfl rfl rfl rfl ?_
          refine LOps.sk rfl rfl rfl rfl rfl rfl ?_
          refine LOps.st rfl rfl rfl (LOp.pickT rfl rfl rfl) ?_
          refine LOps.nil ?_
          refine thn_n ?_
          obtain rfl := Option.some.inj hr
          exact Weak.of 1 ⟨rfl, rfl, rfl, rfl, rfl, trivial⟩ rfl rfl rfl rfl
        · -- g3 is False
          have hr := ite_f g3 hr
          refine LOps.gd rfl rfl rfl (gd g3 rfl) rfl (LOp.move rfl rfl) ?_
          refine LOps.gd rfl rfl rfl (gd g3 rfl) rfl (LOp.bin rfl rfl rfl rfl) ?_
          refine LOps.st rfl rfl rfl (LOp.pickF rfl (gdl g3 rfl) rfl) ?_
          refine LOps.st rfl rfl rfl (LOp.move rfl rfl) ?_
          refine LOps.cases 27 rfl (fun (g4 : (decide (slot < 1)) = true) => ?_) (fun (g4 : (decide (slot < 1)) = false) => ?_)
          · -- g4 is True
            have hr := ite_t g4 hr
            refine LOps.sk rfl rfl rfl (gd g4 rfl) rfl rfl ?_
            refine LOps.sk rfl rfl rfl (gd g4 rfl) rfl rfl ?_
            refine LOps.st rfl rfl rfl (LOp.pickT rfl (gdl g4 rfl) rfl) ?_
            refine LOps.nil ?_
            refine thn_n ?_
            obtain rfl := Option.some.inj hr
            exact Weak.of 1 ⟨rfl, rfl, rfl, rfl, rfl, trivial⟩ rfl rfl rfl rfl
          · -- g4 is False
            have hr := ite_f g4 hr
            refine LOps.gd rfl rfl rfl (gd g4 rfl) rfl (LOp.move rfl rfl) ?_
            refine LOps.gd rfl rfl rfl (gd g4 rfl) rfl (LOp.bin rfl rfl rfl rfl) ?_
            refine LOps.st rfl rfl rfl (LOp.pickF rfl (gdl g4 rfl) rfl) ?_
            refine LOps.nil ?_
            refine thn_n ?_
            obtain rfl := Option.some.inj hr
            exact Weak.of 1 ⟨rfl, rfl, rfl, rfl, rfl, trivial⟩ rfl rfl rfl rfl
      · have hr := ho_v4
        clear hb_v4
        refine LW.cond rfl (fun (g5 : v4 = true) => ?_) (fun (g5 : v4 = false) => ?_)
        · -- g5 is True
          have hr := ite_t g5 hr
          obtain ⟨v6, hb_v6, ho_v6⟩ := bind_get hr
          clear hr
          refine LW.cut (E := [(2, .ptr 0 0), (4, .p (.bool v6)), (6, .p (.int .i64 v3))]) (O := [.box [.p (.slice 1 (c.W.map i64P)), .p (.int .u64 c.Seed), .p (.int .i64 c.Epoch), .p (.int .i64 c.Num), .p (.int .i64 c.Den)]]) ?_ ?_
          · have hr := hb_v6
            refine LW.region ?_
            refine LOps.st rfl rfl rfl (LOp.move rfl rfl) ?_
            refine LOps.st rfl rfl rfl (LOp.bin rfl rfl rfl rfl) ?_
            refine LOps.st rfl rfl rfl (LOp.move rfl rfl) ?_
            refine LOps.cases 33 rfl (fun (g6 : (v3 == (-1)) = true) => ?_) (fun (g6 : (v3 == (-1)) = false) => ?_)
            · -- g6 is True
              have hr := ite_t g6 hr
              refine LOps.gd rfl rfl rfl (gd g6 rfl) rfl (LOp.load rfl rfl rfl vt55 rfl rfl) ?_
              refine LOps.gd rfl rfl rfl (gd g6 rfl) rfl (LOp.move rfl rfl) ?_
              obtain ⟨v7, h_v7, hr⟩ := bind_get hr
              refine LOps.gd rfl rfl rfl (gd g6 rfl) rfl (LOp.call rfl rfl rfl (by kernel_rfl) (LC.pure (c65 h_v7) (.cons Conv.p (.cons Conv.p .nil)))) ?_
              refine LOps.gd rfl rfl rfl (gd g6 rfl) rfl (LOp.lenM rfl rfl (by kernel_rfl)) ?_
              refine LOps.gd rfl rfl rfl (gd g6 rfl) rfl (LOp.bin rfl rfl rfl rfl) ?_
              refine LOps.st rfl rfl rfl (LOp.pickT rfl (gdl g6 rfl) rfl) ?_
              refine LOps.st rfl rfl rfl (LOp.assign rfl rfl) ?_
              refine LOps.nil ?_
              refine thn_n ?_
              obtain rfl := Option.some.inj hr
              exact Weak.of 1 ⟨rfl, rfl, rfl, trivial⟩ rfl rfl rfl rfl
            · -- g6 is False
              have hr := ite_f g6 hr
              refine LOps.sk rfl rfl rfl (gd g6 rfl) rfl rfl ?_
              refine LOps.sk rfl rfl rfl (gd g6 rfl) rfl rfl ?_
              refine LOps.sk rfl rfl rfl (gd g6 rfl) rfl rfl ?_
              refine LOps.sk rfl rfl rfl (gd g6 rfl) rfl rfl ?_
              refine LOps.sk rfl rfl rfl (gd g6 rfl) rfl rfl ?_
              refine LOps.st rfl rfl rfl (LOp.pickF rfl (gdl g6 rfl) rfl) ?_
              refine LOps.st rfl rfl rfl (LOp.assign rfl rfl) ?_
              refine LOps.nil ?_
              refine thn_n ?_
              obtain rfl := Option.some.inj hr
              exact Weak.of 1 ⟨rfl, rfl, rfl, trivial⟩ rfl rfl rfl rfl
          · have hr := ho_v6
            clear hb_v6
            refine LW.ret ?_
            refine thn_r ?_
            obtain rfl := Option.some.inj hr
            refine finP_ret (.one (.tmp rfl)) ?_
            exact Conv.p
        · -- g5 is False
          have hr := ite_f g5 hr
          refine LW.skip ?_
          refine thn_n ?_
          refine LW.seq ?_
          refine LW.region ?_
          refine LOps.st rfl rfl rfl (LOp.move rfl rfl) ?_
          refine LOps.st rfl rfl rfl (LOp.bin rfl rfl rfl rfl) ?_
          refine LOps.st rfl rfl rfl (LOp.move rfl rfl) ?_
          refine LOps.cases 42 rfl (fun (g7 : (decide (v3 ≥ 0)) = true) => ?_) (fun (g7 : (decide (v3 ≥ 0)) = false) => ?_)
          · -- g7 is True
            have hr := ite_t g7 hr
            refine LOps.gd rfl rfl rfl (gd g7 rfl) rfl (LOp.move rfl rfl) ?_
            refine LOps.gd rfl rfl rfl (gd g7 rfl) rfl (LOp.fieldAddr rfl rfl ft55_0) ?_
            refine LOps.gd rfl rfl rfl (gd g7 rfl) rfl (LOp.load rfl rfl rfl vt49 rfl rfl) ?_
            refine LOps.gd rfl rfl rfl (gd g7 rfl) rfl (LOp.lenM rfl rfl (by kernel_rfl)) ?_
            refine LOps.gd rfl rfl rfl (gd g7 rfl) rfl (LOp.bin rfl rfl rfl rfl) ?_
            refine LOps.st rfl rfl rfl (LOp.pickT rfl (gdl g7 rfl) rfl) ?_
            refine LOps.st rfl rfl rfl (LOp.assign rfl rfl) ?_
            refine LOps.nil ?_
            refine thn_n ?_
            refine LW.ret ?_
            obtain rfl := Option.some.inj hr
            refine finP_ret (.one (.tmp rfl)) ?_
            exact Conv.p
          · -- g7 is False
            have hr := ite_f g7 hr
            refine LOps.sk rfl rfl rfl (gd g7 rfl) rfl rfl ?_
            refine LOps.sk rfl rfl rfl (gd g7 rfl) rfl rfl ?_
            refine LOps.sk rfl rfl rfl (gd g7 rfl) rfl rfl ?_
            refine LOps.sk rfl rfl rfl (gd g7 rfl) rfl rfl ?_
            refine LOps.sk rfl rfl rfl (gd g7 rfl) rfl rfl ?_
            refine LOps.st rfl rfl rfl (LOp.pickF rfl (gdl g7 rfl) rfl) ?_
            refine LOps.st rfl rfl rfl (LOp.assign rfl rfl) ?_
            refine LOps.nil ?_
            refine thn_n ?_
            refine LW.ret ?_
            obtain rfl := Option.some.inj hr
            refine finP_ret (.one (.tmp rfl)) ?_
            exact Conv.p
def F22 (c : Cf) (w : List Int) (slot : Int) : Option Bool :=
  (F62 ).bind fun v1 =>
  (
    bif !v1 then
      some true
    else
      bif (c.W.length : Int) != (w.length : Int) then
        some true
      else
        (F64 c).bind fun v3 =>
        bif !v3 then
          some true
        else
          (F64 (Cf.mk w c.Seed c.Epoch c.Num c.Den)).bind fun v4 =>
          some (!v4)
  ).bind fun v2 =>
  bif v2 then
    some v1
  else
    (F65 c slot).bind fun v5 =>
    (F65 (Cf.mk w c.Seed c.Epoch c.Num c.Den) slot).bind fun v6 =>
    (F66 v5 v6).bind fun v7 =>
    bif v7 then
      (F63 c slot).bind fun v8 =>
      (F63 (Cf.mk w c.Seed c.Epoch c.Num c.Den) slot).bind fun v9 =>
      some (v8 == v9)
    else
      some false
set_option maxRecDepth 100000 in
theorem c22 {c : Cf} {w : List Int} {slot : Int} {r_ : Bool} (hr : F22 c w slot = some r_) : LPure Try.prog 22 [cfP c, .slice 1 (w.map i64P), .int .i64 slot] [.bool r_] := by
  refine LPure.start Try.func22 rfl rfl rfl rfl ?_
  unfold F22 at hr
  refine LW.seq ?_
  refine LW.region ?_
  refine LOps.st rfl rfl rfl (LOp.box rfl rfl rfl rfl rfl) ?_
  refine LOps.st rfl rfl rfl (LOp.assign rfl rfl) ?_
  refine LOps.nil ?_
  refine thn_n ?_
  refine LW.seq ?_
  refine LW.region ?_
  obtain ⟨v1, h_v1, hr⟩ := bind_get hr
  refine LOps.st rfl rfl rfl (LOp.call rfl rfl rfl (by kernel_rfl) (LC.pure (c62 h_v1) .nil)) ?_
  refine LOps.st rfl rfl rfl (LOp.assign rfl rfl) ?_
  refine LOps.nil ?_
  refine thn_n ?_
  refine LW.seq ?_
  refine LW.region ?_
  refine LOps.st rfl rfl rfl (LOp.load rfl rfl rfl vt55 rfl rfl) ?_
  refine LOps.st rfl rfl rfl (LOp.alloc rfl zt55 rfl rfl) ?_
  refine LOps.st rfl rfl rfl (LOp.store rfl rfl rfl rfl vt55 rfl rfl rfl rfl) ?_
  refine LOps.nil ?_
  refine thn_n ?_
  refine LW.seq ?_
  refine LW.region ?_
  refine LOps.st rfl rfl rfl (LOp.move rfl rfl) ?_
  refine LOps.st rfl rfl rfl (LOp.fieldAddr rfl rfl ft55_0) ?_
  refine LOps.st rfl rfl rfl (LOp.store rfl rfl rfl rfl vt49 rfl rfl rfl rfl) ?_
  refine LOps.nil ?_
  refine thn_n ?_
  refine LW.seq ?_
  obtain ⟨v2, hb_v2, ho_v2⟩ := bind_get hr
  clear hr
  refine LW.cut (E := [(2, .p (.int .i64 slot)), (3, .ptr 0 0), (6, .p (.bool false)), (7, .p (.bool v1)), (8, .ptr 1 0), (33, .p (.bool v2))]) (O := [.box [.p (.slice 1 (c.W.map i64P)), .p (.int .u64 c.Seed), .p (.int .i64 c.Epoch), .p (.int .i64 c.Num), .p (.int .i64 c.Den)], .box [.p (.slice 1 (w.map i64P)), .p (.int .u64 c.Seed), .p (.int .i64 c.Epoch), .p (.int .i64 c.Num), .p (.int .i64 c.Den)]]) ?_ ?_
  · have hr := hb_v2
    refine LW.region ?_
    refine LOps.st rfl rfl rfl (LOp.move rfl rfl) ?_
    refine LOps.st rfl rfl rfl (LOp.not rfl rfl) ?_
    refine LOps.st rfl rfl rfl (LOp.move rfl rfl) ?_
    refine LOps.cases 16 rfl (fun (g1 : (!v1) = true) => ?_) (fun (g1 : (!v1) = false) => ?_)
    · -- g1 is True
      have hr := ite_t g1 hr
      refine LOps.sk rfl rfl rfl (gd g1 rfl) rfl rfl ?_
      refine LOps.sk rfl rfl rfl (gd g1 rfl) rfl rfl ?_
      refine LOps.sk rfl rfl rfl (gd g1 rfl) rfl rfl ?_
      refine LOps.sk rfl rfl rfl (gd g1 rfl) rfl rfl ?_
      refine LOps.sk rfl rfl rfl (gd g1 rfl) rfl rfl ?_
      refine LOps.sk rfl rfl rfl (gd g1 rfl) rfl rfl ?_
      refine LOps.st rfl rfl rfl (LOp.pickT rfl (gdl g1 rfl) rfl) ?_
      refine LOps.st rfl rfl rfl (LOp.move rfl rfl) ?_
      refine LOps.sk rfl rfl rfl rfl rfl rfl ?_
      refine LOps.sk rfl rfl rfl rfl rfl rfl ?_
      refine LOps.sk rfl rfl rfl rfl rfl rfl ?_
      refine LOps.st rfl rfl rfl (LOp.pickT rfl rfl rfl) ?_
      refine LOps.st rfl rfl rfl (LOp.move rfl rfl) ?_
      refine LOps.sk rfl rfl rfl rfl rfl rfl ?_
      refine LOps.sk rfl rfl rfl rfl rfl rfl ?_
      refine LOps.sk rfl rfl rfl rfl rfl rfl ?_
      refine LOps.st rfl rfl rfl (LOp.pickT rfl rfl rfl) ?_
      refine LOps.nil ?_
      refine thn_n ?_
      obtain rfl := Option.some.inj hr
      exact Weak.of 2 ⟨rfl, rfl, rfl, rfl, rfl, rfl, trivial⟩ rfl rfl rfl rfl
    · -- g1 is False
      have hr := ite_f g1 hr
      refine LOps.gd rfl rfl rfl (gd g1 rfl) rfl (LOp.fieldAddr rfl rfl ft55_0) ?_
      refine LOps.gd rfl rfl rfl (gd g1 rfl) rfl (LOp.load rfl rfl rfl vt49 rfl rfl) ?_
      refine LOps.gd rfl rfl rfl (gd g1 rfl) rfl (LOp.lenM rfl rfl (by kernel_rfl)) ?_
      refine LOps.gd rfl rfl rfl (gd g1 rfl) rfl (LOp.move rfl rfl) ?_
      refine LOps.gd rfl rfl rfl (gd g1 rfl) rfl (LOp.lenM rfl rfl (by kernel_rfl)) ?_
      refine LOps.gd rfl rfl rfl (gd g1 rfl) rfl (LOp.bin rfl rfl rfl rfl) ?_
      refine LOps.st rfl rfl rfl (LOp.pickF rfl (gdl g1 rfl) rfl) ?_
      refine LOps.st rfl rfl rfl (LOp.move rfl rfl) ?_
      refine LOps.cases 24 rfl (fun (g2 : ((c.W.length : Int) != (w.length : Int)) = true) => ?_) (fun (g2 : ((c.W.length : Int) != (w.length : Int)) = false) => ?_)
      · -- g2 is True
        have hr := ite_t g2 hr
        refine LOps.sk rfl rfl rfl (gd g2 rfl) rfl rfl ?_
        refine LOps.sk rfl rfl rfl (gd g2 rfl) rfl rfl ?_
        refine LOps.sk rfl rfl rfl (gd g2 rfl) rfl rfl ?_
        refine LOps.st rfl rfl rfl (LOp.pickT rfl (gdl g2 rfl) rfl) ?_
        refine LOps.st rfl rfl rfl (LOp.move rfl rfl) ?_
        refine LOps.sk rfl rfl rfl rfl rfl rfl ?_
        refine LOps.sk rfl rfl rfl rfl rfl rfl ?_
        refine LOps.sk rfl rfl rfl rfl rfl rfl ?_
        refine LOps.st rfl rfl rfl (LOp.pickT rfl rfl rfl) ?_
        refine LOps.nil ?_
        refine thn_n ?_
        obtain rfl := Option.some.inj hr
        exact Weak.of 2 ⟨rfl, rfl, rfl, rfl, rfl, rfl, trivial⟩ rfl rfl rfl rfl
      · -- g2 is False
        have hr := ite_f g2 hr
        refine LOps.gd rfl rfl rfl (gd g2 rfl) rfl (LOp.load rfl rfl rfl vt55 rfl rfl) ?_
        obtain ⟨v3, h_v3, hr⟩ := bind_get hr
        refine LOps.gd rfl rfl rfl (gd g2 rfl) rfl (LOp.call rfl rfl rfl (by kernel_rfl) (LC.pure (c64 h_v3) (.cons Conv.p .nil))) ?_
        refine LOps.gd rfl rfl rfl (gd g2 rfl) rfl (LOp.not rfl rfl) ?_
        refine LOps.st rfl rfl rfl (LOp.pickF rfl (gdl g2 rfl) rfl) ?_
        refine LOps.st rfl rfl rfl (LOp.move rfl rfl) ?_
        refine LOps.cases 29 rfl (fun (g3 : (!v3) = true) => ?_) (fun (g3 : (!v3) = false) => ?_)
        · -- g3 is True
          have hr := ite_t g3 hr
          refine LOps.sk rfl rfl rfl (gd g3 rfl) rfl rfl ?_
          refine LOps.sk rfl rfl rfl (gd g3 rfl) rfl rfl ?_
          refine LOps.sk rfl rfl rfl (gd g3 rfl) rfl rfl ?_
          refine LOps.st rfl rfl rfl (LOp.pickT rfl (gdl g3 rfl) rfl) ?_
          refine LOps.nil ?_
          refine thn_n ?_
          obtain rfl := Option.some.inj hr
          exact Weak.of 2 ⟨rfl, rfl, rfl, rfl, rfl, rfl, trivial⟩ rfl rfl rfl rfl
        · -- g3 is False
          have hr := ite_f g3 hr
          refine LOps.gd rfl rfl rfl (gd g3 rfl) rfl (LOp.load rfl rfl rfl vt55 rfl rfl) ?_
          obtain ⟨v4, h_v4, hr⟩ := bind_get hr
          refine LOps.gd rfl rfl rfl (gd g3 rfl) rfl (LOp.call rfl rfl rfl (by kernel_rfl) (LC.pure (c64 h_v4) (.cons Conv.p .nil))) ?_
          refine LOps.gd rfl rfl rfl (gd g3 rfl) rfl (LOp.not rfl rfl) ?_
          refine LOps.st rfl rfl rfl (LOp.pickF rfl (gdl g3 rfl) rfl) ?_
          refine LOps.nil ?_
          refine thn_n ?_
          obtain rfl := Option.some.inj hr
          exact Weak.of 2 ⟨rfl, rfl, rfl, rfl, rfl, rfl, trivial⟩ rfl rfl rfl rfl
  · have hr := ho_v2
    clear hb_v2
    refine LW.cond rfl (fun (g4 : v2 = true) => ?_) (fun (g4 : v2 = false) => ?_)
    · -- g4 is True
      have hr := ite_t g4 hr
      refine LW.seq ?_
      refine LW.region ?_
      refine LOps.st rfl rfl rfl (LOp.move rfl rfl) ?_
      refine LOps.st rfl rfl rfl (LOp.assign rfl rfl) ?_
      refine LOps.nil ?_
      refine thn_n ?_
      refine LW.ret ?_
      refine thn_r ?_
      obtain rfl := Option.some.inj hr
      refine finP_ret (.one (.tmp rfl)) ?_
      exact Conv.p
    · -- g4 is False
      have hr := ite_f g4 hr
      refine LW.skip ?_
      refine thn_n ?_
      refine LW.seq ?_
      refine LW.draw (by kernel_rfl) (by kernel_rfl) ?_
      refine LO.st rfl rfl rfl (LOp.load rfl rfl rfl vt55 rfl rfl) ?_
      refine LO.st rfl rfl rfl (LOp.move rfl rfl) ?_
      obtain ⟨v5, h_v5, hr⟩ := bind_get hr
      refine LO.st rfl rfl rfl (LOp.call rfl rfl rfl (by kernel_rfl) (LC.pure (c65 h_v5) (.cons Conv.p (.cons Conv.p .nil)))) ?_
      refine LO.st rfl rfl rfl (LOp.load rfl rfl rfl vt55 rfl rfl) ?_
      refine LO.st rfl rfl rfl (LOp.move rfl rfl) ?_
      obtain ⟨v6, h_v6, hr⟩ := bind_get hr
      refine LO.st rfl rfl rfl (LOp.call rfl rfl rfl (by kernel_rfl) (LC.pure (c65 h_v6) (.cons Conv.p (.cons Conv.p .nil)))) ?_
      obtain ⟨v7, h_v7, hr⟩ := bind_get hr
      refine LO.st rfl rfl rfl (LOp.call rfl rfl rfl (by kernel_rfl) (LC.pure (c66 h_v7) (.cons Conv.p (.cons Conv.p .nil)))) ?_
      refine LO.st rfl rfl rfl (LOp.assign rfl rfl) ?_
      refine LO.nil ?_
      refine thn_n ?_
      refine LW.seq ?_
      refine LW.draw (by kernel_rfl) (by kernel_rfl) ?_
      refine LO.st rfl rfl rfl (LOp.move rfl rfl) ?_
      refine LO.st rfl rfl rfl (LOp.move rfl rfl) ?_
      refine LO.cases 43 rfl (fun (g5 : v7 = true) => ?_) (fun (g5 : v7 = false) => ?_)
      · -- g5 is True
        have hr := ite_t g5 hr
        refine LO.gd rfl rfl rfl (gd g5 rfl) rfl (LOp.load rfl rfl rfl vt55 rfl rfl) ?_
        refine LO.gd rfl rfl rfl (gd g5 rfl) rfl (LOp.move rfl rfl) ?_
        obtain ⟨v8, h_v8, hr⟩ := bind_get hr
        refine LO.gd rfl rfl rfl (gd g5 rfl) rfl (LOp.call rfl rfl rfl (by kernel_rfl) (LC.pure (c63 h_v8) (.cons Conv.p (.cons Conv.p .nil)))) ?_
        refine LO.gd rfl rfl rfl (gd g5 rfl) rfl (LOp.load rfl rfl rfl vt55 rfl rfl) ?_
        refine LO.gd rfl rfl rfl (gd g5 rfl) rfl (LOp.move rfl rfl) ?_
        obtain ⟨v9, h_v9, hr⟩ := bind_get hr
        refine LO.gd rfl rfl rfl (gd g5 rfl) rfl (LOp.call rfl rfl rfl (by kernel_rfl) (LC.pure (c63 h_v9) (.cons Conv.p (.cons Conv.p .nil)))) ?_
        refine LO.gd rfl rfl rfl (gd g5 rfl) rfl (LOp.bin rfl rfl rfl rfl) ?_
        refine LO.st rfl rfl rfl (LOp.pickT rfl (gdl g5 rfl) rfl) ?_
        refine LO.st rfl rfl rfl (LOp.assign rfl rfl) ?_
        refine LO.nil ?_
        refine thn_n ?_
        refine LW.ret ?_
        obtain rfl := Option.some.inj hr
        refine finP_ret (.one (.tmp rfl)) ?_
        exact Conv.p
      · -- g5 is False
        have hr := ite_f g5 hr
        refine LO.sk rfl rfl rfl (gd g5 rfl) rfl rfl ?_
        refine LO.sk rfl rfl rfl (gd g5 rfl) rfl rfl ?_
        refine LO.sk rfl rfl rfl (gd g5 rfl) rfl rfl ?_
        refine LO.sk rfl rfl rfl (gd g5 rfl) rfl rfl ?_
        refine LO.sk rfl rfl rfl (gd g5 rfl) rfl rfl ?_
        refine LO.sk rfl rfl rfl (gd g5 rfl) rfl rfl ?_
        refine LO.sk rfl rfl rfl (gd g5 rfl) rfl rfl ?_
        refine LO.st rfl rfl rfl (LOp.pickF rfl (gdl g5 rfl) rfl) ?_
        refine LO.st rfl rfl rfl (LOp.assign rfl rfl) ?_
        refine LO.nil ?_
        refine thn_n ?_
        refine LW.ret ?_
        obtain rfl := Option.some.inj hr
        refine finP_ret (.one (.tmp rfl)) ?_
        exact Conv.p
def F23 (c : Cf) (l : List Int) (slot : Int) (who : Int) : Option Bool :=
  (F62 ).bind fun v1 =>
  (
    bif !v1 then
      some true
    else
      bif decide ((c.W.length : Int) > 40) then
        some true
      else
        some (decide ((l.length : Int) > 40))
  ).bind fun v2 =>
  bif v2 then
    some v1
  else
    (F67 c).bind fun v3 =>
    (F68 c slot who).bind fun v4 =>
    (F65 c slot).bind fun v5 =>
    (F69 c slot).bind fun v6 =>
    (F66 v5 v6).bind fun v7 =>
    (F64 c).bind fun v8 =>
    bif v8 == v3 then
      (F70 c l).bind fun v9 =>
      (F71 c l).bind fun v10 =>
      bif v9 == v10 then
        (F72 c).bind fun v11 =>
        (F73 c).bind fun v12 =>
        bif v11 == v12 then
          bif v7 then
            (F74 c slot who).bind fun v13 =>
            bif v13 == v4 then
              (F63 c slot).bind fun v14 =>
              (F75 c slot).bind fun v15 =>
              some (v14 == v15)
            else
              some false
          else
            some false
        else
          some false
      else
        some false
    else
      some false
set_option maxRecDepth 100000 in
theorem c23 {c : Cf} {l : List Int} {slot : Int} {who : Int} {r_ : Bool} (hr : F23 c l slot who = some r_) : LPure Try.prog 23 [cfP c, .slice 1 (l.map i64P), .int .i64 slot, .int .i64 who] [.bool r_] := by
  refine LPure.start Try.func23 rfl rfl rfl rfl ?_
  unfold F23 at hr
  refine LW.seq ?_
  refine LW.region ?_
  refine LOps.st rfl rfl rfl (LOp.box rfl rfl rfl rfl rfl) ?_
  refine LOps.st rfl rfl rfl (LOp.assign rfl rfl) ?_
  refine LOps.nil ?_
  refine thn_n ?_
  refine LW.seq ?_
  refine LW.region ?_
  obtain ⟨v1, h_v1, hr⟩ := bind_get hr
  refine LOps.st rfl rfl rfl (LOp.call rfl rfl rfl (by kernel_rfl) (LC.pure (c62 h_v1) .nil)) ?_
  refine LOps.st rfl rfl rfl (LOp.assign rfl rfl) ?_
  refine LOps.nil ?_
  refine thn_n ?_
  refine LW.seq ?_
  obtain ⟨v2, hb_v2, ho_v2⟩ := bind_get hr
  clear hr
  refine LW.cut (E := [(1, .p (.slice 1 (l.map i64P))), (2, .p (.int .i64 slot)), (3, .p (.int .i64 who)), (4, .ptr 0 0), (8, .p (.bool false)), (9, .p (.bool v1)), (26, .p (.bool v2))]) (O := [.box [.p (.slice 1 (c.W.map i64P)), .p (.int .u64 c.Seed), .p (.int .i64 c.Epoch), .p (.int .i64 c.Num), .p (.int .i64 c.Den)]]) ?_ ?_
  · have hr := hb_v2
    refine LW.region ?_
    refine LOps.st rfl rfl rfl (LOp.move rfl rfl) ?_
    refine LOps.st rfl rfl rfl (LOp.not rfl rfl) ?_
    refine LOps.st rfl rfl rfl (LOp.move rfl rfl) ?_
    refine LOps.cases 16 rfl (fun (g1 : (!v1) = true) => ?_) (fun (g1 : (!v1) = false) => ?_)
    · -- g1 is True
      have hr := ite_t g1 hr
      refine LOps.sk rfl rfl rfl (gd g1 rfl) rfl rfl ?_
      refine LOps.sk rfl rfl rfl (gd g1 rfl) rfl rfl ?_
      refine LOps.sk rfl rfl rfl (gd g1 rfl) rfl rfl ?_
      refine LOps.sk rfl rfl rfl (gd g1 rfl) rfl rfl ?_
      refine LOps.st rfl rfl rfl (LOp.pickT rfl (gdl g1 rfl) rfl) ?_
      refine LOps.st rfl rfl rfl (LOp.move rfl rfl) ?_
      refine LOps.sk rfl rfl rfl rfl rfl rfl ?_
      refine LOps.sk rfl rfl rfl rfl rfl rfl ?_
      refine LOps.sk rfl rfl rfl rfl rfl rfl ?_
      refine LOps.st rfl rfl rfl (LOp.pickT rfl rfl rfl) ?_
      refine LOps.nil ?_
      refine thn_n ?_
      obtain rfl := Option.some.inj hr
      exact Weak.of 1 ⟨rfl, rfl, rfl, rfl, rfl, rfl, rfl, trivial⟩ rfl rfl rfl rfl
    · -- g1 is False
      have hr := ite_f g1 hr
      refine LOps.gd rfl rfl rfl (gd g1 rfl) rfl (LOp.fieldAddr rfl rfl ft55_0) ?_
      refine LOps.gd rfl rfl rfl (gd g1 rfl) rfl (LOp.load rfl rfl rfl vt49 rfl rfl) ?_
      refine LOps.gd rfl rfl rfl (gd g1 rfl) rfl (LOp.lenM rfl rfl (by kernel_rfl)) ?_
      refine LOps.gd rfl rfl rfl (gd g1 rfl) rfl (LOp.bin rfl rfl rfl rfl) ?_
      refine LOps.st rfl rfl rfl (LOp.pickF rfl (gdl g1 rfl) rfl) ?_
      refine LOps.st rfl rfl rfl (LOp.move rfl rfl) ?_
      refine LOps.cases 22 rfl (fun (g2 : (decide ((c.W.length : Int) > 40)) = true) => ?_) (fun (g2 : (decide ((c.W.length : Int) > 40)) = false) => ?_)
      · -- g2 is True
        have hr := ite_t g2 hr
        refine LOps.sk rfl rfl rfl (gd g2 rfl) rfl rfl ?_
        refine LOps.sk rfl rfl rfl (gd g2 rfl) rfl rfl ?_
        refine LOps.sk rfl rfl rfl (gd g2 rfl) rfl rfl ?_
        refine LOps.st rfl rfl rfl (LOp.pickT rfl (gdl g2 rfl) rfl) ?_
        refine LOps.nil ?_
        refine thn_n ?_
        obtain rfl := Option.some.inj hr
        exact Weak.of 1 ⟨rfl, rfl, rfl, rfl, rfl, rfl, rfl, trivial⟩ rfl rfl rfl rfl
      · -- g2 is False
        have hr := ite_f g2 hr
        refine LOps.gd rfl rfl rfl (gd g2 rfl) rfl (LOp.move rfl rfl) ?_
        refine LOps.gd rfl rfl rfl (gd g2 rfl) rfl (LOp.lenM rfl rfl (by kernel_rfl)) ?_
        refine LOps.gd rfl rfl rfl (gd g2 rfl) rfl (LOp.bin rfl rfl rfl rfl) ?_
        refine LOps.st rfl rfl rfl (LOp.pickF rfl (gdl g2 rfl) rfl) ?_
        refine LOps.nil ?_
        refine thn_n ?_
        obtain rfl := Option.some.inj hr
        exact Weak.of 1 ⟨rfl, rfl, rfl, rfl, rfl, rfl, rfl, trivial⟩ rfl rfl rfl rfl
  · have hr := ho_v2
    clear hb_v2
    refine LW.cond rfl (fun (g3 : v2 = true) => ?_) (fun (g3 : v2 = false) => ?_)
    · -- g3 is True
      have hr := ite_t g3 hr
      refine LW.seq ?_
      refine LW.region ?_
      refine LOps.st rfl rfl rfl (LOp.move rfl rfl) ?_
      refine LOps.st rfl rfl rfl (LOp.assign rfl rfl) ?_
      refine LOps.nil ?_
      refine thn_n ?_
      refine LW.ret ?_
      refine thn_r ?_
      obtain rfl := Option.some.inj hr
      refine finP_ret (.one (.tmp rfl)) ?_
      exact Conv.p
    · -- g3 is False
      have hr := ite_f g3 hr
      refine LW.skip ?_
      refine thn_n ?_
      refine LW.seq ?_
      refine LW.region ?_
      refine LOps.st rfl rfl rfl (LOp.load rfl rfl rfl vt55 rfl rfl) ?_
      obtain ⟨v3, h_v3, hr⟩ := bind_get hr
      refine LOps.st rfl rfl rfl (LOp.call rfl rfl rfl (by kernel_rfl) (LC.pure (c67 h_v3) (.cons Conv.p .nil))) ?_
      refine LOps.st rfl rfl rfl (LOp.assign rfl rfl) ?_
      refine LOps.nil ?_
      refine thn_n ?_
      refine LW.seq ?_
      refine LW.region ?_
      refine LOps.st rfl rfl rfl (LOp.load rfl rfl rfl vt55 rfl rfl) ?_
      refine LOps.st rfl rfl rfl (LOp.move rfl rfl) ?_
      refine LOps.st rfl rfl rfl (LOp.move rfl rfl) ?_
      obtain ⟨v4, h_v4, hr⟩ := bind_get hr
      refine LOps.st rfl rfl rfl (LOp.call rfl rfl rfl (by kernel_rfl) (LC.pure (c68 h_v4) (.cons Conv.p (.cons Conv.p (.cons Conv.p .nil))))) ?_
      refine LOps.st rfl rfl rfl (LOp.assign rfl rfl) ?_
      refine LOps.nil ?_
      refine thn_n ?_
      refine LW.seq ?_
      refine LW.draw (by kernel_rfl) (by kernel_rfl) ?_
      refine LO.st rfl rfl rfl (LOp.load rfl rfl rfl vt55 rfl rfl) ?_
      refine LO.st rfl rfl rfl (LOp.move rfl rfl) ?_
      obtain ⟨v5, h_v5, hr⟩ := bind_get hr
      refine LO.st rfl rfl rfl (LOp.call rfl rfl rfl (by kernel_rfl) (LC.pure (c65 h_v5) (.cons Conv.p (.cons Conv.p .nil)))) ?_
      refine LO.st rfl rfl rfl (LOp.load rfl rfl rfl vt55 rfl rfl) ?_
      refine LO.st rfl rfl rfl (LOp.move rfl rfl) ?_
      obtain ⟨v6, h_v6, hr⟩ := bind_get hr
      refine LO.st rfl rfl rfl (LOp.call rfl rfl rfl (by kernel_rfl) (LC.pure (c69 h_v6) (.cons Conv.p (.cons Conv.p .nil)))) ?_
      obtain ⟨v7, h_v7, hr⟩ := bind_get hr
      refine LO.st rfl rfl rfl (LOp.call rfl rfl rfl (by kernel_rfl) (LC.pure (c66 h_v7) (.cons Conv.p (.cons Conv.p .nil)))) ?_
      refine LO.st rfl rfl rfl (LOp.assign rfl rfl) ?_
      refine LO.nil ?_
      refine thn_n ?_
      refine LW.seq ?_
      refine LW.draw (by kernel_rfl) (by kernel_rfl) ?_
      refine LO.st rfl rfl rfl (LOp.load rfl rfl rfl vt55 rfl rfl) ?_
      obtain ⟨v8, h_v8, hr⟩ := bind_get hr
      refine LO.st rfl rfl rfl (LOp.call rfl rfl rfl (by kernel_rfl) (LC.pure (c64 h_v8) (.cons Conv.p .nil))) ?_
      refine LO.st rfl rfl rfl (LOp.move rfl rfl) ?_
      refine LO.st rfl rfl rfl (LOp.eqlBool rfl rfl rfl Try.underlying4) ?_
      refine LO.st rfl rfl rfl (LOp.move rfl rfl) ?_
      refine LO.cases 45 rfl (fun (g4 : (v8 == v3) = true) => ?_) (fun (g4 : (v8 == v3) = false) => ?_)
      · -- g4 is True
        have hr := ite_t g4 hr
        refine LO.gd rfl rfl rfl (gd g4 rfl) rfl (LOp.load rfl rfl rfl vt55 rfl rfl) ?_
        refine LO.gd rfl rfl rfl (gd g4 rfl) rfl (LOp.move rfl rfl) ?_
        obtain ⟨v9, h_v9, hr⟩ := bind_get hr
        refine LO.gd rfl rfl rfl (gd g4 rfl) rfl (LOp.call rfl rfl rfl (by kernel_rfl) (LC.pure (c70 h_v9) (.cons Conv.p (.cons Conv.p .nil)))) ?_
        refine LO.gd rfl rfl rfl (gd g4 rfl) rfl (LOp.load rfl rfl rfl vt55 rfl rfl) ?_
        refine LO.gd rfl rfl rfl (gd g4 rfl) rfl (LOp.move rfl rfl) ?_
        obtain ⟨v10, h_v10, hr⟩ := bind_get hr
        refine LO.gd rfl rfl rfl (gd g4 rfl) rfl (LOp.call rfl rfl rfl (by kernel_rfl) (LC.pure (c71 h_v10) (.cons Conv.p (.cons Conv.p .nil)))) ?_
        refine LO.gd rfl rfl rfl (gd g4 rfl) rfl (LOp.bin rfl rfl rfl rfl) ?_
        refine LO.st rfl rfl rfl (LOp.pickT rfl (gdl g4 rfl) rfl) ?_
        refine LO.st rfl rfl rfl (LOp.move rfl rfl) ?_
        refine LO.cases 54 rfl (fun (g5 : (v9 == v10) = true) => ?_) (fun (g5 : (v9 == v10) = false) => ?_)
        · -- g5 is True
          have hr := ite_t g5 hr
          refine LO.gd rfl rfl rfl (gd g5 rfl) rfl (LOp.load rfl rfl rfl vt55 rfl rfl) ?_
          obtain ⟨v11, h_v11, hr⟩ := bind_get hr
          refine LO.gd rfl rfl rfl (gd g5 rfl) rfl (LOp.call rfl rfl rfl (by kernel_rfl) (LC.pure (c72 h_v11) (.cons Conv.p .nil))) ?_
          refine LO.gd rfl rfl rfl (gd g5 rfl) rfl (LOp.load rfl rfl rfl vt55 rfl rfl) ?_
          obtain ⟨v12, h_v12, hr⟩ := bind_get hr
          refine LO.gd rfl rfl rfl (gd g5 rfl) rfl (LOp.call rfl rfl rfl (by kernel_rfl) (LC.pure (c73 h_v12) (.cons Conv.p .nil))) ?_
          refine LO.gd rfl rfl rfl (gd g5 rfl) rfl (LOp.bin rfl rfl rfl rfl) ?_
          refine LO.st rfl rfl rfl (LOp.pickT rfl (gdl g5 rfl) rfl) ?_
          refine LO.st rfl rfl rfl (LOp.move rfl rfl) ?_
          refine LO.cases 61 rfl (fun (g6 : (v11 == v12) = true) => ?_) (fun (g6 : (v11 == v12) = false) => ?_)
          · -- g6 is True
            have hr := ite_t g6 hr
            refine LO.gd rfl rfl rfl (gd g6 rfl) rfl (LOp.move rfl rfl) ?_
            refine LO.st rfl rfl rfl (LOp.pickT rfl (gdl g6 rfl) rfl) ?_
            refine LO.st rfl rfl rfl (LOp.move rfl rfl) ?_
            refine LO.cases 64 rfl (fun (g7 : v7 = true) => ?_) (fun (g7 : v7 = false) => ?_)
            · -- g7 is True
              have hr := ite_t g7 hr
              refine LO.gd rfl rfl rfl (gd g7 rfl) rfl (LOp.load rfl rfl rfl vt55 rfl rfl) ?_
              refine LO.gd rfl rfl rfl (gd g7 rfl) rfl (LOp.move rfl rfl) ?_
              refine LO.gd rfl rfl rfl (gd g7 rfl) rfl (LOp.move rfl rfl) ?_
              obtain ⟨v13, h_v13, hr⟩ := bind_get hr
              refine LO.gd rfl rfl rfl (gd g7 rfl) rfl (LOp.call rfl rfl rfl (by kernel_rfl) (LC.pure (c74 h_v13) (.cons Conv.p (.cons Conv.p (.cons Conv.p .nil))))) ?_
              refine LO.gd rfl rfl rfl (gd g7 rfl) rfl (LOp.move rfl rfl) ?_
              refine LO.gd rfl rfl rfl (gd g7 rfl) rfl (LOp.eqlBool rfl rfl rfl Try.underlying4) ?_
              refine LO.st rfl rfl rfl (LOp.pickT rfl (gdl g7 rfl) rfl) ?_
              refine LO.st rfl rfl rfl (LOp.move rfl rfl) ?_
              refine LO.cases 72 rfl (fun (g8 : (v13 == v4) = true) => ?_) (fun (g8 : (v13 == v4) = false) => ?_)
              · -- g8 is True
                have hr := ite_t g8 hr
                refine LO.gd rfl rfl rfl (gd g8 rfl) rfl (LOp.load rfl rfl rfl vt55 rfl rfl) ?_
                refine LO.gd rfl rfl rfl (gd g8 rfl) rfl (LOp.move rfl rfl) ?_
                obtain ⟨v14, h_v14, hr⟩ := bind_get hr
                refine LO.gd rfl rfl rfl (gd g8 rfl) rfl (LOp.call rfl rfl rfl (by kernel_rfl) (LC.pure (c63 h_v14) (.cons Conv.p (.cons Conv.p .nil)))) ?_
                refine LO.gd rfl rfl rfl (gd g8 rfl) rfl (LOp.load rfl rfl rfl vt55 rfl rfl) ?_
                refine LO.gd rfl rfl rfl (gd g8 rfl) rfl (LOp.move rfl rfl) ?_
                obtain ⟨v15, h_v15, hr⟩ := bind_get hr
                refine LO.gd rfl rfl rfl (gd g8 rfl) rfl (LOp.call rfl rfl rfl (by kernel_rfl) (LC.pure (c75 h_v15) (.cons Conv.p (.cons Conv.p .nil)))) ?_
                refine LO.gd rfl rfl rfl (gd g8 rfl) rfl (LOp.bin rfl rfl rfl rfl) ?_
                refine LO.st rfl rfl rfl (LOp.pickT rfl (gdl g8 rfl) rfl) ?_
                refine LO.st rfl rfl rfl (LOp.assign rfl rfl) ?_
                refine LO.nil ?_
                refine thn_n ?_
                refine LW.ret ?_
                obtain rfl := Option.some.inj hr
                refine finP_ret (.one (.tmp rfl)) ?_
                exact Conv.p
              · -- g8 is False
                have hr := ite_f g8 hr
                refine LO.sk rfl rfl rfl (gd g8 rfl) rfl rfl ?_
                refine LO.sk rfl rfl rfl (gd g8 rfl) rfl rfl ?_
                refine LO.sk rfl rfl rfl (gd g8 rfl) rfl rfl ?_
                refine LO.sk rfl rfl rfl (gd g8 rfl) rfl rfl ?_
                refine LO.sk rfl rfl rfl (gd g8 rfl) rfl rfl ?_
                refine LO.sk rfl rfl rfl (gd g8 rfl) rfl rfl ?_
                refine LO.sk rfl rfl rfl (gd g8 rfl) rfl rfl ?_
                refine LO.st rfl rfl rfl (LOp.pickF rfl (gdl g8 rfl) rfl) ?_
                refine LO.st rfl rfl rfl (LOp.assign rfl rfl) ?_
                refine LO.nil ?_
                refine thn_n ?_
                refine LW.ret ?_
                obtain rfl := Option.some.inj hr
                refine finP_ret (.one (.tmp rfl)) ?_
                exact Conv.p
            · -- g7 is False
              have hr := ite_f g7 hr
              refine LO.sk rfl rfl rfl (gd g7 rfl) rfl rfl ?_
              refine LO.sk rfl rfl rfl (gd g7 rfl) rfl rfl ?_
              refine LO.sk rfl rfl rfl (gd g7 rfl) rfl rfl ?_
              refine LO.sk rfl rfl rfl (gd g7 rfl) rfl rfl ?_
              refine LO.sk rfl rfl rfl (gd g7 rfl) rfl rfl ?_
              refine LO.sk rfl rfl rfl (gd g7 rfl) rfl rfl ?_
              refine LO.st rfl rfl rfl (LOp.pickF rfl (gdl g7 rfl) rfl) ?_
              refine LO.st rfl rfl rfl (LOp.move rfl rfl) ?_
              refine LO.sk rfl rfl rfl rfl rfl rfl ?_
              refine LO.sk rfl rfl rfl rfl rfl rfl ?_
              refine LO.sk rfl rfl rfl rfl rfl rfl ?_
              refine LO.sk rfl rfl rfl rfl rfl rfl ?_
              refine LO.sk rfl rfl rfl rfl rfl rfl ?_
              refine LO.sk rfl rfl rfl rfl rfl rfl ?_
              refine LO.sk rfl rfl rfl rfl rfl rfl ?_
              refine LO.st rfl rfl rfl (LOp.pickF rfl rfl rfl) ?_
              refine LO.st rfl rfl rfl (LOp.assign rfl rfl) ?_
              refine LO.nil ?_
              refine thn_n ?_
              refine LW.ret ?_
              obtain rfl := Option.some.inj hr
              refine finP_ret (.one (.tmp rfl)) ?_
              exact Conv.p
          · -- g6 is False
            have hr := ite_f g6 hr
            refine LO.sk rfl rfl rfl (gd g6 rfl) rfl rfl ?_
            refine LO.st rfl rfl rfl (LOp.pickF rfl (gdl g6 rfl) rfl) ?_
            refine LO.st rfl rfl rfl (LOp.move rfl rfl) ?_
            refine LO.sk rfl rfl rfl rfl rfl rfl ?_
            refine LO.sk rfl rfl rfl rfl rfl rfl ?_
            refine LO.sk rfl rfl rfl rfl rfl rfl ?_
            refine LO.sk rfl rfl rfl rfl rfl rfl ?_
            refine LO.sk rfl rfl rfl rfl rfl rfl ?_
            refine LO.sk rfl rfl rfl rfl rfl rfl ?_
            refine LO.st rfl rfl rfl (LOp.pickF rfl rfl rfl) ?_
            refine LO.st rfl rfl rfl (LOp.move rfl rfl) ?_
            refine LO.sk rfl rfl rfl rfl rfl rfl ?_
            refine LO.sk rfl rfl rfl rfl rfl rfl ?_
            refine LO.sk rfl rfl rfl rfl rfl rfl ?_
            refine LO.sk rfl rfl rfl rfl rfl rfl ?_
            refine LO.sk rfl rfl rfl rfl rfl rfl ?_
            refine LO.sk rfl rfl rfl rfl rfl rfl ?_
            refine LO.sk rfl rfl rfl rfl rfl rfl ?_
            refine LO.st rfl rfl rfl (LOp.pickF rfl rfl rfl) ?_
            refine LO.st rfl rfl rfl (LOp.assign rfl rfl) ?_
            refine LO.nil ?_
            refine thn_n ?_
            refine LW.ret ?_
            obtain rfl := Option.some.inj hr
            refine finP_ret (.one (.tmp rfl)) ?_
            exact Conv.p
        · -- g5 is False
          have hr := ite_f g5 hr
          refine LO.sk rfl rfl rfl (gd g5 rfl) rfl rfl ?_
          refine LO.sk rfl rfl rfl (gd g5 rfl) rfl rfl ?_
          refine LO.sk rfl rfl rfl (gd g5 rfl) rfl rfl ?_
          refine LO.sk rfl rfl rfl (gd g5 rfl) rfl rfl ?_
          refine LO.sk rfl rfl rfl (gd g5 rfl) rfl rfl ?_
          refine LO.st rfl rfl rfl (LOp.pickF rfl (gdl g5 rfl) rfl) ?_
          refine LO.st rfl rfl rfl (LOp.move rfl rfl) ?_
          refine LO.sk rfl rfl rfl rfl rfl rfl ?_
          refine LO.st rfl rfl rfl (LOp.pickF rfl rfl rfl) ?_
          refine LO.st rfl rfl rfl (LOp.move rfl rfl) ?_
          refine LO.sk rfl rfl rfl rfl rfl rfl ?_
          refine LO.sk rfl rfl rfl rfl rfl rfl ?_
          refine LO.sk rfl rfl rfl rfl rfl rfl ?_
          refine LO.sk rfl rfl rfl rfl rfl rfl ?_
          refine LO.sk rfl rfl rfl rfl rfl rfl ?_
          refine LO.sk rfl rfl rfl rfl rfl rfl ?_
          refine LO.st rfl rfl rfl (LOp.pickF rfl rfl rfl) ?_
          refine LO.st rfl rfl rfl (LOp.move rfl rfl) ?_
          refine LO.sk rfl rfl rfl rfl rfl rfl ?_
          refine LO.sk rfl rfl rfl rfl rfl rfl ?_
          refine LO.sk rfl rfl rfl rfl rfl rfl ?_
          refine LO.sk rfl rfl rfl rfl rfl rfl ?_
          refine LO.sk rfl rfl rfl rfl rfl rfl ?_
          refine LO.sk rfl rfl rfl rfl rfl rfl ?_
          refine LO.sk rfl rfl rfl rfl rfl rfl ?_
          refine LO.st rfl rfl rfl (LOp.pickF rfl rfl rfl) ?_
          refine LO.st rfl rfl rfl (LOp.assign rfl rfl) ?_
          refine LO.nil ?_
          refine thn_n ?_
          refine LW.ret ?_
          obtain rfl := Option.some.inj hr
          refine finP_ret (.one (.tmp rfl)) ?_
          exact Conv.p
      · -- g4 is False
        have hr := ite_f g4 hr
        refine LO.sk rfl rfl rfl (gd g4 rfl) rfl rfl ?_
        refine LO.sk rfl rfl rfl (gd g4 rfl) rfl rfl ?_
        refine LO.sk rfl rfl rfl (gd g4 rfl) rfl rfl ?_
        refine LO.sk rfl rfl rfl (gd g4 rfl) rfl rfl ?_
        refine LO.sk rfl rfl rfl (gd g4 rfl) rfl rfl ?_
        refine LO.sk rfl rfl rfl (gd g4 rfl) rfl rfl ?_
        refine LO.sk rfl rfl rfl (gd g4 rfl) rfl rfl ?_
        refine LO.st rfl rfl rfl (LOp.pickF rfl (gdl g4 rfl) rfl) ?_
        refine LO.st rfl rfl rfl (LOp.move rfl rfl) ?_
        refine LO.sk rfl rfl rfl rfl rfl rfl ?_
        refine LO.sk rfl rfl rfl rfl rfl rfl ?_
        refine LO.sk rfl rfl rfl rfl rfl rfl ?_
        refine LO.sk rfl rfl rfl rfl rfl rfl ?_
        refine LO.sk rfl rfl rfl rfl rfl rfl ?_
        refine LO.st rfl rfl rfl (LOp.pickF rfl rfl rfl) ?_
        refine LO.st rfl rfl rfl (LOp.move rfl rfl) ?_
        refine LO.sk rfl rfl rfl rfl rfl rfl ?_
        refine LO.st rfl rfl rfl (LOp.pickF rfl rfl rfl) ?_
        refine LO.st rfl rfl rfl (LOp.move rfl rfl) ?_
        refine LO.sk rfl rfl rfl rfl rfl rfl ?_
        refine LO.sk rfl rfl rfl rfl rfl rfl ?_
        refine LO.sk rfl rfl rfl rfl rfl rfl ?_
        refine LO.sk rfl rfl rfl rfl rfl rfl ?_
        refine LO.sk rfl rfl rfl rfl rfl rfl ?_
        refine LO.sk rfl rfl rfl rfl rfl rfl ?_
        refine LO.st rfl rfl rfl (LOp.pickF rfl rfl rfl) ?_
        refine LO.st rfl rfl rfl (LOp.move rfl rfl) ?_
        refine LO.sk rfl rfl rfl rfl rfl rfl ?_
        refine LO.sk rfl rfl rfl rfl rfl rfl ?_
        refine LO.sk rfl rfl rfl rfl rfl rfl ?_
        refine LO.sk rfl rfl rfl rfl rfl rfl ?_
        refine LO.sk rfl rfl rfl rfl rfl rfl ?_
        refine LO.sk rfl rfl rfl rfl rfl rfl ?_
        refine LO.sk rfl rfl rfl rfl rfl rfl ?_
        refine LO.st rfl rfl rfl (LOp.pickF rfl rfl rfl) ?_
        refine LO.st rfl rfl rfl (LOp.assign rfl rfl) ?_
        refine LO.nil ?_
        refine thn_n ?_
        refine LW.ret ?_
        obtain rfl := Option.some.inj hr
        refine finP_ret (.one (.tmp rfl)) ?_
        exact Conv.p
/-- A loop that counts up, told by its states. -/
theorem count_loop {S R : Type} {step : S → Option (S ⊕ R)} {n : Nat} (g : Nat → S) (r : R) (hs : ∀ j, j < n → step (g j) = some (.inl (g (j + 1)))) (he : step (g n) = some (.inr r)) (hn : n < 4000000000000000000) :
    iter step big (g 0) = some r := by
  have key : ∀ (d k f : Nat), k + d = n → d < f → iter step f (g k) = some r := by
    intro d
    induction d with
    | zero =>
      intro k f hk hf
      obtain ⟨f, rfl⟩ : ∃ q, f = q + 1 := ⟨f - 1, by omega⟩
      obtain rfl : k = n := by omega
      unfold iter
      rw [he]
    | succ d ih =>
      intro k f hk hf
      obtain ⟨f, rfl⟩ : ∃ q, f = q + 1 := ⟨f - 1, by omega⟩
      unfold iter
      rw [hs k (by omega)]
      exact ih (k + 1) f (by omega) (by omega)
  exact key n 0 big (by omega) (big_gt hn)
/-- The least, and the greatest, of a list that begins by x. -/
def minL (x : Int) : List Int → Int
  | [] => x
  | y :: r => minL (if y < x then y else x) r
def maxL (x : Int) : List Int → Int
  | [] => x
  | y :: r => maxL (if y > x then y else x) r
theorem minL_app (x : Int) (a : List Int) (y : Int) : minL x (a ++ [y]) = if y < minL x a then y else minL x a := by
  induction a generalizing x with
  | nil => rfl
  | cons z r ih => exact ih _
theorem maxL_app (x : Int) (a : List Int) (y : Int) : maxL x (a ++ [y]) = if y > maxL x a then y else maxL x a := by
  induction a generalizing x with
  | nil => rfl
  | cons z r ih => exact ih _
theorem minL_lt {k x : Int} {l : List Int} : minL x l < k ↔ x < k ∨ ∃ y ∈ l, y < k := by
  induction l generalizing x with
  | nil => simp [minL]
  | cons z r ih =>
    simp only [minL, ih, List.mem_cons, exists_eq_or_imp]
    split
    · constructor
      · rintro (h | h)
        · exact .inr (.inl h)
        · exact .inr (.inr h)
      · rintro (h | h | h)
        · exact .inl (by omega)
        · exact .inl h
        · exact .inr h
    · constructor
      · rintro (h | h)
        · exact .inl h
        · exact .inr (.inr h)
      · rintro (h | h | h)
        · exact .inl h
        · exact .inl (by omega)
        · exact .inr h
theorem maxL_gt {k x : Int} {l : List Int} : maxL x l > k ↔ x > k ∨ ∃ y ∈ l, y > k := by
  induction l generalizing x with
  | nil => simp [maxL]
  | cons z r ih =>
    simp only [maxL, ih, List.mem_cons, exists_eq_or_imp]
    split
    · constructor
      · rintro (h | h)
        · exact .inr (.inl h)
        · exact .inr (.inr h)
      · rintro (h | h | h)
        · exact .inl (by omega)
        · exact .inl h
        · exact .inr h
    · constructor
      · rintro (h | h)
        · exact .inl h
        · exact .inr (.inr h)
      · rintro (h | h | h)
        · exact .inl h
        · exact .inl (by omega)
        · exact .inr h
theorem take_succ_get {l : List Int} {j : Nat} {y : Int} (h : l[j]? = some y) : l.take (j + 1) = l.take j ++ [y] := by rw [List.take_add_one, h]; rfl
theorem F109_eq {x : Int} {r : List Int} (h : r.length ≤ 1000) : F109 (x :: r) = some (minL x r) := by
  unfold F109
  rw [decide_eq_false (show ¬ (((x :: r).length : Nat) : Int) < 1 by simp; omega), cf, show ix (x :: r) 0 = some x from rfl, ob]
  have e := count_loop (step := F109_s1 (x :: r)) (n := r.length) (fun j => ⟨minL x (r.take j), ((j + 1 : Nat) : Int)⟩) ⟨minL x r, ((r.length + 1 : Nat) : Int)⟩ (fun j hj => by
    obtain ⟨y, hy, -⟩ := get_of hj
    have hy' : (x :: r)[j + 1]? = some y := by simpa using hy
    simp only [F109_s1]
    rw [decide_eq_true (show ((j + 1 : Nat) : Int) < (((x :: r).length : Nat) : Int) by simp; omega), ct, ix_nat hy', ob, wrap_succ (n := j + 1) (by omega), take_succ_get hy, minL_app]) (by
    simp only [F109_s1]
    rw [decide_eq_false (show ¬ ((r.length + 1 : Nat) : Int) < (((x :: r).length : Nat) : Int) by simp), cf, List.take_length]) (by omega)
  have e0 : (⟨minL x (r.take 0), ((0 + 1 : Nat) : Int)⟩ : F109_L1) = ⟨x, 1⟩ := rfl
  rw [e0] at e
  rw [e, ob]
theorem F110_eq {x : Int} {r : List Int} (h : r.length ≤ 1000) : F110 (x :: r) = some (maxL x r) := by
  unfold F110
  rw [decide_eq_false (show ¬ (((x :: r).length : Nat) : Int) < 1 by simp; omega), cf, show ix (x :: r) 0 = some x from rfl, ob]
  have e := count_loop (step := F110_s1 (x :: r)) (n := r.length) (fun j => ⟨maxL x (r.take j), ((j + 1 : Nat) : Int)⟩) ⟨maxL x r, ((r.length + 1 : Nat) : Int)⟩ (fun j hj => by
    obtain ⟨y, hy, -⟩ := get_of hj
    have hy' : (x :: r)[j + 1]? = some y := by simpa using hy
    simp only [F110_s1]
    rw [decide_eq_true (show ((j + 1 : Nat) : Int) < (((x :: r).length : Nat) : Int) by simp; omega), ct, ix_nat hy', ob, wrap_succ (n := j + 1) (by omega), take_succ_get hy, maxL_app]) (by
    simp only [F110_s1]
    rw [decide_eq_false (show ¬ ((r.length + 1 : Nat) : Int) < (((x :: r).length : Nat) : Int) by simp), cf, List.take_length]) (by omega)
  have e0 : (⟨maxL x (r.take 0), ((0 + 1 : Nat) : Int)⟩ : F110_L1) = ⟨x, 1⟩ := rfl
  rw [e0] at e
  rw [e, ob]
/-- May a conf be? -/
def MayC (c : Cf) : Prop := 1 ≤ c.W.length ∧ c.W.length ≤ 12 ∧ (∀ w ∈ c.W, 0 ≤ w ∧ w ≤ 1099511627776) ∧ 1 ≤ c.Epoch ∧ c.Epoch ≤ 8 ∧ 0 ≤ c.Num ∧ c.Num ≤ c.Den ∧ 1 ≤ c.Den ∧ c.Den ≤ 1000
instance (c : Cf) : Decidable (MayC c) := inferInstanceAs (Decidable (_ ∧ _))
/-- How much those of p weigh, among the first k. -/
def wsum (p : Nat → Bool) (W : List Int) : Nat → Int
  | 0 => 0
  | k + 1 => wsum p W k + (bif p k then (W[k]?).getD 0 else 0)
theorem wsum_in {p : Nat → Bool} {W : List Int} (h : ∀ w ∈ W, 0 ≤ w ∧ w ≤ 1099511627776) : ∀ k, 0 ≤ wsum p W k ∧ wsum p W k ≤ 1099511627776 * k
  | 0 => by simp [wsum]
  | k + 1 => by
    have ih := wsum_in (p := p) h k
    unfold wsum
    cases p k with
    | false => simp only [cond_false]; omega
    | true =>
      simp only [cond_true]
      cases hk : W[k]? with
      | none => simp only [Option.getD_none]; omega
      | some w =>
        have := h w (List.mem_of_getElem? hk)
        simp only [Option.getD_some]; omega
theorem wsum_t {p : Nat → Bool} {W : List Int} {k : Nat} {w : Int} (hp : p k = true) (hw : W[k]? = some w) : wsum p W (k + 1) = wsum p W k + w := by
  rw [wsum, hp, hw]; rfl
theorem wsum_f {p : Nat → Bool} {W : List Int} {k : Nat} (hp : p k = false) : wsum p W (k + 1) = wsum p W k := by
  rw [wsum, hp]; simp
/-- The end of the question which confs may be. -/
theorem may_tail (c : Cf) : (bif decide (c.Epoch > 0) then bif decide (c.Epoch ≤ 8) then bif decide (c.Num ≥ 0) then bif decide (c.Num ≤ c.Den) then bif decide (c.Den > 0) then some (decide (c.Den ≤ 1000)) else some false else some false else some false else some false else some false) =
    some (decide (1 ≤ c.Epoch ∧ c.Epoch ≤ 8 ∧ 0 ≤ c.Num ∧ c.Num ≤ c.Den ∧ 1 ≤ c.Den ∧ c.Den ≤ 1000)) := by
  by_cases h1 : c.Epoch > 0
  · rw [decide_eq_true h1, ct]
    by_cases h2 : c.Epoch ≤ 8
    · rw [decide_eq_true h2, ct]
      by_cases h3 : c.Num ≥ 0
      · rw [decide_eq_true h3, ct]
        by_cases h4 : c.Num ≤ c.Den
        · rw [decide_eq_true h4, ct]
          by_cases h5 : c.Den > 0
          · rw [decide_eq_true h5, ct]
            congr 1
            exact decide_eq_decide.2 ⟨fun h => ⟨h1, h2, h3, h4, h5, h⟩, fun h => h.2.2.2.2.2⟩
          · rw [decide_eq_false h5, cf, decide_eq_false (fun h => h5 h.2.2.2.2.1)]
        · rw [decide_eq_false h4, cf, decide_eq_false (fun h => h4 h.2.2.2.1)]
      · rw [decide_eq_false h3, cf, decide_eq_false (fun h => h3 h.2.2.1)]
    · rw [decide_eq_false h2, cf, decide_eq_false (fun h => h2 h.2.1)]
  · rw [decide_eq_false h1, cf, decide_eq_false (fun h => h1 h.1)]
theorem F64_eq (c : Cf) : F64 c = some (decide (MayC c)) := by
  unfold F64
  have hno : ∀ h : ¬ MayC c, decide (MayC c) = false := fun h => decide_eq_false h
  by_cases h0 : c.W.length = 0
  · rw [show ((c.W.length : Int) == 0) = true by simp [h0], ct, ob, ct, decide_eq_false (fun h : MayC c => by have := h.1; omega)]
  · rw [show ((c.W.length : Int) == 0) = false by simpa using h0, cf]
    by_cases h12 : c.W.length > 12
    · rw [decide_eq_true (show (c.W.length : Int) > 12 by omega), ct, ob, ct, decide_eq_false (fun h : MayC c => by have := h.2.1; omega)]
    · rw [decide_eq_false (show ¬ (c.W.length : Int) > 12 by omega), cf]
      obtain ⟨x, r, hW⟩ : ∃ x r, c.W = x :: r := by
        cases hc : c.W with
        | nil => rw [hc] at h0; simp at h0
        | cons x r => exact ⟨x, r, rfl⟩
      have hr : r.length ≤ 1000 := by rw [hW] at h12; simp at h12; omega
      have hall : (∀ w ∈ c.W, 0 ≤ w ∧ w ≤ 1099511627776) ↔ ¬ minL x r < 0 ∧ ¬ maxL x r > 1099511627776 := by
        rw [minL_lt, maxL_gt, hW]
        constructor
        · intro h
          refine ⟨?_, ?_⟩
          · rintro (h1 | ⟨y, hy, h1⟩)
            · have := (h x (.head _)).1; omega
            · have := (h y (.tail _ hy)).1; omega
          · rintro (h1 | ⟨y, hy, h1⟩)
            · have := (h x (.head _)).2; omega
            · have := (h y (.tail _ hy)).2; omega
        · rintro ⟨h1, h2⟩ w hw
          refine ⟨?_, ?_⟩
          · refine Classical.byContradiction fun hc => h1 ?_
            cases hw with
            | head => exact .inl (by omega)
            | tail _ hw => exact .inr ⟨w, hw, by omega⟩
          · refine Classical.byContradiction fun hc => h2 ?_
            cases hw with
            | head => exact .inl (by omega)
            | tail _ hw => exact .inr ⟨w, hw, by omega⟩
      have hlen : 1 ≤ c.W.length ∧ c.W.length ≤ 12 := ⟨by omega, by omega⟩
      have e9 := F109_eq (x := x) hr
      have e10 := F110_eq (x := x) hr
      rw [← hW] at e9 e10
      rw [e9, ob]
      by_cases hm : minL x r < 0
      · rw [decide_eq_true hm, ct, ob, ct, decide_eq_false (fun h : MayC c => (hall.1 h.2.2.1).1 hm)]
      · rw [decide_eq_false hm, cf, e10, ob, ob]
        by_cases hx : maxL x r > 1099511627776
        · rw [decide_eq_true hx, ct, decide_eq_false (fun h : MayC c => (hall.1 h.2.2.1).2 hx)]
        · rw [decide_eq_false hx, cf, may_tail]
          congr 1
          exact decide_eq_decide.2 ⟨fun h => ⟨hlen.1, hlen.2, hall.2 ⟨hm, hx⟩, h⟩, fun h => h.2.2.2⟩
theorem F67_eq {c : Cf} (hl : c.W.length ≤ 1000) : F67 c = some (decide (MayC c)) := by
  unfold F67
  have key := @iter_inv _ _ (F67_s1 c) (fun x => ∃ j : Nat, j ≤ c.W.length ∧ x.i = j ∧ ∀ w ∈ c.W.take j, 0 ≤ w ∧ w ≤ 1099511627776) (fun x => c.W.length + 1 - x.i.toNat)
    (fun b => (b = .inr false ∧ ¬ MayC c) ∨ ∃ x, b = .inl x ∧ ∀ w ∈ c.W, 0 ≤ w ∧ w ≤ 1099511627776) (by
      rintro ⟨t⟩ ⟨j, hj, rfl, hw⟩
      by_cases hlt : j < c.W.length
      · obtain ⟨y, hy, hm⟩ := get_of hlt
        by_cases h1 : y < 0
        · right
          refine ⟨.inr false, by
            simp only [F67_s1]
            rw [decide_eq_true (show (j : Int) < (c.W.length : Int) by omega), ct, ix_nat hy, ob, decide_eq_true h1, ct], .inl ⟨rfl, fun h => by have := (h.2.2.1 y hm).1; omega⟩⟩
        · by_cases h2 : y > 1099511627776
          · right
            refine ⟨.inr false, by
              simp only [F67_s1]
              rw [decide_eq_true (show (j : Int) < (c.W.length : Int) by omega), ct, ix_nat hy, ob, decide_eq_false h1, cf, ob, decide_eq_true h2, ct], .inl ⟨rfl, fun h => by have := (h.2.2.1 y hm).2; omega⟩⟩
          · left
            refine ⟨⟨IntKind.i64.wrap ((j : Int) + 1)⟩, by
              simp only [F67_s1]
              rw [decide_eq_true (show (j : Int) < (c.W.length : Int) by omega), ct, ix_nat hy, ob, decide_eq_false h1, cf, ob, decide_eq_false h2, cf], ⟨j + 1, by omega, wrap_succ (n := j) (by omega), ?_⟩, ?_⟩
            · intro w hw'
              rw [take_succ_get hy] at hw'
              rcases List.mem_append.1 hw' with hw' | hw'
              · exact hw w hw'
              · obtain rfl : w = y := by simpa using hw'
                exact ⟨by omega, by omega⟩
            · simp only [wrap_succ (show j < 4000000000 by omega)]; omega
      · right
        obtain rfl : j = c.W.length := by omega
        refine ⟨.inl ⟨((c.W.length : Nat) : Int)⟩, by
          simp only [F67_s1]
          rw [decide_eq_false (show ¬ ((c.W.length : Nat) : Int) < (c.W.length : Int) by omega), cf], .inr ⟨_, rfl, ?_⟩⟩
        rw [List.take_length] at hw
        exact hw)
  obtain ⟨b, hb, ⟨rfl, hno⟩ | ⟨x, rfl, hall⟩⟩ := key (n := big) (x := ⟨0⟩) ⟨0, by omega, rfl, by simp⟩ (big_gt (by show c.W.length + 1 - 0 < _; omega))
  · rw [hb, ob, sr, decide_eq_false hno]
  · rw [hb, ob, sl]
    by_cases h1 : 1 ≤ c.W.length
    · rw [decide_eq_true (show (c.W.length : Int) ≥ 1 by omega), ct]
      by_cases h2 : c.W.length ≤ 12
      · rw [decide_eq_true (show (c.W.length : Int) ≤ 12 by omega), ct]
        rw [show decide (c.Epoch ≥ 1) = decide (c.Epoch > 0) from decide_eq_decide.2 ⟨fun h => by omega, fun h => by omega⟩, show decide (c.Den ≥ 1) = decide (c.Den > 0) from decide_eq_decide.2 ⟨fun h => by omega, fun h => by omega⟩, may_tail]
        congr 1
        exact decide_eq_decide.2 ⟨fun h => ⟨h1, h2, hall, h⟩, fun h => h.2.2.2⟩
      · rw [decide_eq_false (show ¬ (c.W.length : Int) ≤ 12 by omega), cf, decide_eq_false (fun h : MayC c => h2 h.2.1)]
    · rw [decide_eq_false (show ¬ (c.W.length : Int) ≥ 1 by omega), cf, decide_eq_false (fun h : MayC c => h1 h.1)]
def okW (c : Cf) : Prop := c.W.length ≤ 12 ∧ ∀ w ∈ c.W, 0 ≤ w ∧ w ≤ 1099511627776
theorem MayC.okW {c : Cf} (h : MayC c) : okW c := ⟨h.2.1, h.2.2.1⟩
theorem wrap_sum {p : Nat → Bool} {W : List Int} (h : ∀ w ∈ W, 0 ≤ w ∧ w ≤ 1099511627776) {k : Nat} (hk : k ≤ 12) : IntKind.i64.wrap (wsum p W k) = wsum p W k := by
  have := wsum_in (p := p) h k
  exact wrapI (by omega) (by omega)
theorem F148T_eq {c : Cf} (h : okW c) : F148T c 0 = some (wsum (fun _ => true) c.W c.W.length) := by
  unfold F148T
  have e := count_loop (step := F148T_s1 c) (n := c.W.length) (fun j => ⟨(j : Int), wsum (fun _ => true) c.W j⟩) ⟨(c.W.length : Int), wsum (fun _ => true) c.W c.W.length⟩ (fun j hj => by
    obtain ⟨y, hy, hm⟩ := get_of hj
    have h12 := h.1
    simp only [F148T_s1, F118]
    rw [decide_eq_true (show (j : Int) < (c.W.length : Int) by omega), ct, ob, ct, ix_nat hy, ob, wrap_succ (n := j) (by omega), ← wsum_t (p := fun _ => true) rfl hy, wrap_sum h.2 (by omega)]) (by
    simp only [F148T_s1]
    rw [decide_eq_false (show ¬ (c.W.length : Int) < (c.W.length : Int) by omega), cf]) (by have := h.1; omega)
  exact (congrArg (fun z => Option.bind z fun v1 => some v1.o2_0) e).trans ob
theorem F148W_eq {c : Cf} {m : List (Int × Bool)} (h : okW c) : F148W c m 0 = some (wsum (fun j => (findE m (j : Int)).getD false) c.W c.W.length) := by
  unfold F148W
  have e := count_loop (step := F148W_s1 c m) (n := c.W.length) (fun j => ⟨(j : Int), wsum (fun j => (findE m (j : Int)).getD false) c.W j⟩) ⟨(c.W.length : Int), wsum (fun j => (findE m (j : Int)).getD false) c.W c.W.length⟩ (fun j hj => by
    obtain ⟨y, hy, hm⟩ := get_of hj
    have h12 := h.1
    simp only [F148W_s1, F117]
    rw [decide_eq_true (show (j : Int) < (c.W.length : Int) by omega), ct, ob]
    cases hb : (findE m (j : Int)).getD false with
    | true => rw [ct, ix_nat hy, ob, wrap_succ (n := j) (by omega), ← wsum_t (p := fun j => (findE m (j : Int)).getD false) hb hy, wrap_sum h.2 (by omega)]
    | false => rw [cf, wrap_succ (n := j) (by omega), wsum_f (p := fun j => (findE m (j : Int)).getD false) hb]) (by
    simp only [F148W_s1]
    rw [decide_eq_false (show ¬ (c.W.length : Int) < (c.W.length : Int) by omega), cf]) (by have := h.1; omega)
  exact (congrArg (fun z => Option.bind z fun v1 => some v1.o4_0) e).trans ob
/-- What all weigh. -/
def totP (c : Cf) : Int := if MayC c then wsum (fun _ => true) c.W c.W.length else 0
/-- What those of a list weigh. -/
def wtP (c : Cf) (l : List Int) : Int := if MayC c then wsum (fun j => decide ((j : Int) ∈ l)) c.W c.W.length else 0
theorem F72_eq (c : Cf) : F72 c = some (totP c) := by
  unfold F72 F116T totP
  rw [F64_eq, ob]
  by_cases h : MayC c
  · rw [decide_eq_true h, if_pos h, Bool.not_true, cf, F148T_eq h.okW]; rfl
  · rw [decide_eq_false h, if_neg h]; rfl
theorem wsum_congr {p q : Nat → Bool} {W : List Int} (h : ∀ j, p j = q j) : ∀ k, wsum p W k = wsum q W k
  | 0 => rfl
  | k + 1 => by rw [wsum, wsum, wsum_congr h k, h k]
theorem findE_setE {m : List (Int × Bool)} {k q : Int} {v : Bool} : findE (setE m k v) q = if k = q then some v else findE m q := by
  induction m with
  | nil => simp [setE, findE]
  | cons p r ih =>
    obtain ⟨a, b⟩ := p
    unfold setE
    by_cases h : a = k
    · rw [if_pos h]
      subst h
      by_cases h2 : a = q
      · simp [findE, h2]
      · simp [findE, h2]
    · rw [if_neg h]
      simp only [findE]
      rw [ih]
      by_cases h2 : a = q
      · rw [if_pos h2, if_pos h2, if_neg (fun e => h (by rw [h2, e]))]
      · rw [if_neg h2, if_neg h2]
/-- The keys of a list, set one after the other. -/
def keysM : List Int → List (Int × Bool) → List (Int × Bool)
  | [], m => m
  | x :: r, m => keysM r (setE m x true)
theorem keysM_app (a : List Int) (x : Int) : ∀ m, keysM (a ++ [x]) m = setE (keysM a m) x true := by
  induction a with
  | nil => intro m; rfl
  | cons y r ih => intro m; exact ih _
theorem keysM_find (q : Int) : ∀ (l : List Int) (m : List (Int × Bool)), findE (keysM l m) q = if q ∈ l then some true else findE m q
  | [], m => by simp [keysM]
  | x :: r, m => by
    unfold keysM
    rw [keysM_find q r, findE_setE]
    by_cases h : q ∈ r
    · simp [h]
    · by_cases h2 : x = q
      · simp [h2]
      · simp [h, h2, Ne.symm h2]
theorem F70_eq {c : Cf} {l : List Int} (hl : l.length ≤ 100000) : F70 c l = some (wtP c l) := by
  unfold F70
  have e := count_loop (step := F70_s1 l) (n := l.length) (fun j => F70_L1.mk (j : Int) (keysM (l.take j) [])) (F70_L1.mk (l.length : Int) (keysM l [])) (fun j hj => by
    obtain ⟨y, hy, hm⟩ := get_of hj
    have e1 : F70_s1 l (F70_L1.mk (j : Int) (keysM (l.take j) [])) = some (.inl (F70_L1.mk (IntKind.i64.wrap ((j : Int) + 1)) (setE (keysM (l.take j) []) y true))) := by
      unfold F70_s1
      rw [decide_eq_true (show (j : Int) < (l.length : Int) by omega), ct, ix_nat hy, ob]
    rw [e1, wrap_succ (n := j) (by omega), take_succ_get hy, keysM_app]) (by
    unfold F70_s1
    rw [decide_eq_false (show ¬ (l.length : Int) < (l.length : Int) by omega), cf, List.take_length]) (by omega)
  have e0 : F70_L1.mk (((0 : Nat) : Int)) (keysM (l.take 0) []) = F70_L1.mk 0 [] := rfl
  rw [e0] at e
  rw [e, ob]
  unfold F116W wtP
  rw [F64_eq, ob]
  by_cases h : MayC c
  · rw [decide_eq_true h, if_pos h, Bool.not_true, cf, F148W_eq h.okW, ob, ob]
    congr 1
    refine wsum_congr (fun j => ?_) _
    rw [keysM_find]
    by_cases hj : (j : Int) ∈ l <;> simp [hj, findE]
  · rw [decide_eq_false h, if_neg h]; rfl
theorem F76_eq {l : List Int} {n : Int} (hl : l.length ≤ 100000) : F76 l n = some (decide (n ∈ l)) := by
  unfold F76
  have key := @iter_inv _ _ (F76_s1 l n) (fun x => ∃ j : Nat, j ≤ l.length ∧ x.i = j ∧ n ∉ l.take j) (fun x => l.length + 1 - x.i.toNat)
    (fun b => (b = .inr true ∧ n ∈ l) ∨ ∃ x, b = .inl x ∧ n ∉ l) (by
      rintro ⟨t⟩ ⟨j, hj, rfl, hw⟩
      by_cases hlt : j < l.length
      · obtain ⟨y, hy, hm⟩ := get_of hlt
        by_cases h1 : y = n
        · right
          refine ⟨.inr true, by
            simp only [F76_s1]
            rw [decide_eq_true (show (j : Int) < (l.length : Int) by omega), ct, ix_nat hy, ob, beqt h1, ct], .inl ⟨rfl, h1 ▸ hm⟩⟩
        · left
          refine ⟨⟨IntKind.i64.wrap ((j : Int) + 1)⟩, by
            simp only [F76_s1]
            rw [decide_eq_true (show (j : Int) < (l.length : Int) by omega), ct, ix_nat hy, ob, show (y == n) = false by simpa using h1, cf], ⟨j + 1, by omega, wrap_succ (n := j) (by omega), ?_⟩, ?_⟩
          · rw [take_succ_get hy]
            intro h
            rcases List.mem_append.1 h with h | h
            · exact hw h
            · exact h1 (List.mem_singleton.1 h).symm
          · simp only [wrap_succ (show j < 4000000000 by omega)]; omega
      · right
        obtain rfl : j = l.length := by omega
        refine ⟨.inl ⟨((l.length : Nat) : Int)⟩, by
          simp only [F76_s1]
          rw [decide_eq_false (show ¬ ((l.length : Nat) : Int) < (l.length : Int) by omega), cf], .inr ⟨_, rfl, ?_⟩⟩
        rw [List.take_length] at hw
        exact hw)
  obtain ⟨b, hb, ⟨rfl, h⟩ | ⟨x, rfl, h⟩⟩ := key (n := big) (x := ⟨0⟩) ⟨0, by omega, rfl, by simp⟩ (big_gt (by show l.length + 1 - 0 < _; omega))
  · rw [hb, ob, sr, decide_eq_true h]
  · rw [hb, ob, sl, decide_eq_false h]
theorem F119_eq {l : List Int} {n : Int} (hl : l.length ≤ 100000) : F119 l n = some (decide (n ∈ l)) := by
  unfold F119 F150
  have key := @iter_inv _ _ (F150_s1 l n) (fun x => ∃ j : Nat, j ≤ l.length ∧ x.t8 = j ∧ n ∉ l.take j) (fun x => l.length + 1 - x.t8.toNat)
    (fun b => (∃ i : Nat, b = .inr (i : Int) ∧ n ∈ l) ∨ ∃ x, b = .inl x ∧ n ∉ l) (by
      rintro ⟨t⟩ ⟨j, hj, rfl, hw⟩
      by_cases hlt : j < l.length
      · obtain ⟨y, hy, hm⟩ := get_of hlt
        by_cases h1 : n = y
        · right
          refine ⟨.inr (j : Int), by
            simp only [F150_s1]
            rw [decide_eq_true (show (j : Int) < (l.length : Int) by omega), ct, ix_nat hy, ob, beqt h1, ct], .inl ⟨j, rfl, h1 ▸ hm⟩⟩
        · left
          refine ⟨⟨IntKind.i64.wrap ((j : Int) + 1)⟩, by
            simp only [F150_s1]
            rw [decide_eq_true (show (j : Int) < (l.length : Int) by omega), ct, ix_nat hy, ob, show (n == y) = false by simpa using h1, cf], ⟨j + 1, by omega, wrap_succ (n := j) (by omega), ?_⟩, ?_⟩
          · rw [take_succ_get hy]
            intro h
            rcases List.mem_append.1 h with h | h
            · exact hw h
            · exact h1 (List.mem_singleton.1 h)
          · simp only [wrap_succ (show j < 4000000000 by omega)]; omega
      · right
        obtain rfl : j = l.length := by omega
        refine ⟨.inl ⟨((l.length : Nat) : Int)⟩, by
          simp only [F150_s1]
          rw [decide_eq_false (show ¬ ((l.length : Nat) : Int) < (l.length : Int) by omega), cf], .inr ⟨_, rfl, ?_⟩⟩
        rw [List.take_length] at hw
        exact hw)
  obtain ⟨b, hb, ⟨i, rfl, h⟩ | ⟨x, rfl, h⟩⟩ := key (n := big) (x := ⟨0⟩) ⟨0, by omega, rfl, by simp⟩ (big_gt (by show l.length + 1 - 0 < _; omega))
  · rw [hb, ob, sr, ob, decide_eq_true h, decide_eq_true (show (i : Int) ≥ 0 by omega)]
  · rw [hb, ob, sl, ob, decide_eq_false h]; rfl
theorem F71_eq {c : Cf} {l : List Int} (hW : c.W.length ≤ 1000) (hl : l.length ≤ 100000) : F71 c l = some (wtP c l) := by
  unfold F71 wtP
  rw [F67_eq hW, ob]
  by_cases h : MayC c
  · rw [decide_eq_true h, if_pos h]
    have e := count_loop (step := F71_s1 c l true) (n := c.W.length) (fun j => ⟨wsum (fun j => decide ((j : Int) ∈ l)) c.W j, (j : Int)⟩) ⟨wsum (fun j => decide ((j : Int) ∈ l)) c.W c.W.length, (c.W.length : Int)⟩ (fun j hj => by
      obtain ⟨y, hy, hm⟩ := get_of hj
      have h12 := h.2.1
      simp only [F71_s1]
      rw [decide_eq_true (show (j : Int) < (c.W.length : Int) by omega), ct, ob, ct, F76_eq hl, ob]
      by_cases hb : (j : Int) ∈ l
      · rw [decide_eq_true hb, ct, ix_nat hy, ob, wrap_succ (n := j) (by omega), ← wsum_t (p := fun j => decide ((j : Int) ∈ l)) (decide_eq_true hb) hy, wrap_sum h.okW.2 (by omega)]
      · rw [decide_eq_false hb, cf, wrap_succ (n := j) (by omega), wsum_f (p := fun j => decide ((j : Int) ∈ l)) (decide_eq_false hb)]) (by
      simp only [F71_s1]
      rw [decide_eq_false (show ¬ (c.W.length : Int) < (c.W.length : Int) by omega), cf, ob, cf]) (by omega)
    exact (congrArg (fun z => Option.bind z fun v2 => some v2.n) e).trans ob
  · rw [decide_eq_false h, if_neg h]
    have e := count_loop (step := F71_s1 c l false) (n := 0) (fun _ => ⟨0, 0⟩) ⟨0, 0⟩ (fun j hj => by omega) (by
      simp only [F71_s1]
      rw [show (bif decide ((0 : Int) < (c.W.length : Int)) then some false else some false) = some false by cases decide ((0 : Int) < (c.W.length : Int)) <;> rfl, ob, cf]) (by omega)
    rw [e, ob]
theorem F73_eq {c : Cf} (hW : c.W.length ≤ 1000) : F73 c = some (totP c) := by
  unfold F73 totP
  rw [F67_eq hW, ob]
  by_cases h : MayC c
  · rw [decide_eq_true h, if_pos h]
    have e := count_loop (step := F73_s1 c true) (n := c.W.length) (fun j => ⟨wsum (fun _ => true) c.W j, (j : Int)⟩) ⟨wsum (fun _ => true) c.W c.W.length, (c.W.length : Int)⟩ (fun j hj => by
      obtain ⟨y, hy, hm⟩ := get_of hj
      have h12 := h.2.1
      simp only [F73_s1]
      rw [decide_eq_true (show (j : Int) < (c.W.length : Int) by omega), ct, ob, ct, ix_nat hy, ob, wrap_succ (n := j) (by omega), ← wsum_t (p := fun _ => true) rfl hy, wrap_sum h.okW.2 (by omega)]) (by
      simp only [F73_s1]
      rw [decide_eq_false (show ¬ (c.W.length : Int) < (c.W.length : Int) by omega), cf, ob, cf]) (by omega)
    exact (congrArg (fun z => Option.bind z fun v2 => some v2.n) e).trans ob
  · rw [decide_eq_false h, if_neg h]
    have e := count_loop (step := F73_s1 c false) (n := 0) (fun _ => ⟨0, 0⟩) ⟨0, 0⟩ (fun j hj => by omega) (by
      simp only [F73_s1]
      rw [show (bif decide ((0 : Int) < (c.W.length : Int)) then some false else some false) = some false by cases decide ((0 : Int) < (c.W.length : Int)) <;> rfl, ob, cf]) (by omega)
    rw [e, ob]
theorem F66_same {a : List Int} (h : a.length ≤ 100000) : F66 a a = some true := by
  unfold F66
  rw [beq_self', cf]
  have e := count_loop (step := F66_s1 a a) (n := a.length) (fun j => ⟨(j : Int)⟩) (.inl ⟨(a.length : Int)⟩) (fun j hj => by
    obtain ⟨y, hy, hm⟩ := get_of hj
    simp only [F66_s1]
    rw [decide_eq_true (show (j : Int) < (a.length : Int) by omega), ct, ix_nat hy, ob, ob, beq_self', cf, wrap_succ (n := j) (by omega)]) (by
    simp only [F66_s1]
    rw [decide_eq_false (show ¬ (a.length : Int) < (a.length : Int) by omega), cf]) (by omega)
  refine (congrArg (fun z => Option.bind z _) e).trans ?_
  rw [ob, sl]
/-- Those of the first k that p lets in. -/
def pickL (p : Nat → Bool) : Nat → List Int
  | 0 => []
  | k + 1 => bif p k then pickL p k ++ [(k : Int)] else pickL p k
theorem pickL_len (p : Nat → Bool) : ∀ k, (pickL p k).length ≤ k
  | 0 => by simp [pickL]
  | k + 1 => by
    have := pickL_len p k
    unfold pickL
    cases p k <;> simp <;> omega
theorem pickL_mem (p : Nat → Bool) (x : Int) : ∀ k, x ∈ pickL p k ↔ ∃ j : Nat, j < k ∧ p j = true ∧ x = j
  | 0 => by simp [pickL]
  | k + 1 => by
    have ih := pickL_mem p x k
    unfold pickL
    cases hp : p k with
    | false =>
      rw [cf, ih]
      constructor
      · rintro ⟨j, h1, h2, h3⟩; exact ⟨j, by omega, h2, h3⟩
      · rintro ⟨j, h1, h2, h3⟩
        refine ⟨j, ?_, h2, h3⟩
        refine Classical.byContradiction fun hc => ?_
        obtain rfl : j = k := by omega
        rw [hp] at h2; cases h2
    | true =>
      rw [ct, List.mem_append, ih, List.mem_singleton]
      constructor
      · rintro (⟨j, h1, h2, h3⟩ | rfl)
        · exact ⟨j, by omega, h2, h3⟩
        · exact ⟨k, by omega, hp, rfl⟩
      · rintro ⟨j, h1, h2, h3⟩
        by_cases hj : j = k
        · subst hj; exact .inr h3
        · exact .inl ⟨j, by omega, h2, h3⟩
/-- A slot of a conf that may be. -/
def OkS (c : Cf) (slot : Int) : Prop := MayC c ∧ 0 < slot ∧ slot ≤ 1048576
instance (c : Cf) (slot : Int) : Decidable (OkS c slot) := inferInstanceAs (Decidable (_ ∧ _))
theorem F107_eq (c : Cf) (slot : Int) : F107 c slot = some (decide (OkS c slot)) := by
  unfold F107
  rw [F64_eq, ob]
  by_cases h : MayC c
  · rw [decide_eq_true h, ct]
    by_cases h1 : slot > 0
    · rw [decide_eq_true h1, ct]
      congr 1
      exact decide_eq_decide.2 ⟨fun h2 => ⟨h, h1, h2⟩, fun h2 => h2.2.2⟩
    · rw [decide_eq_false h1, cf, decide_eq_false (fun h2 : OkS c slot => h1 h2.2.1)]
  · rw [decide_eq_false h, cf, decide_eq_false (fun h2 : OkS c slot => h h2.1)]
theorem F114_eq (slot : Int) : F114 slot = some (decide (0 < slot ∧ slot ≤ 1048576)) := by
  unfold F114
  by_cases h1 : slot ≥ 1
  · rw [decide_eq_true h1, ct]
    congr 1
    exact decide_eq_decide.2 ⟨fun h2 => ⟨by omega, h2⟩, fun h2 => h2.2⟩
  · rw [decide_eq_false h1, cf, decide_eq_false (fun h2 => h1 (by omega))]
def seedOf (c : Cf) (slot : Int) : Int := step c.Seed (IntKind.u64.wrap (IntKind.i64.wrap (slot.tdiv c.Epoch)))
def inP (c : Cf) (slot : Int) (j : Nat) : Bool := (toA (seedOf c slot) (c.W.length : Int) (j : Int)).tmod c.Epoch == slot.tmod c.Epoch
/-- Who votes in a slot. -/
def cmP (c : Cf) (slot : Int) : List Int := if OkS c slot then pickL (inP c slot) c.W.length else []
theorem cm_len (c : Cf) (slot : Int) : (cmP c slot).length ≤ 12 := by
  unfold cmP
  split
  · next h => have := pickL_len (inP c slot) c.W.length; have := h.1.2.1; omega
  · simp
theorem epoch_ne {c : Cf} (h : MayC c) : decide (c.Epoch ≠ 0) = true := decide_eq_true (by have := h.2.2.2.1; omega)
theorem F111C_eq {c : Cf} {slot : Int} (h : MayC c) : F111C c slot (permP (seedOf c slot) (c.W.length : Int)) = some (pickL (inP c slot) c.W.length) := by
  have h1 := h.1
  have h2 := h.2.1
  have e := count_loop (step := F148C_s1 c slot (permP (seedOf c slot) (c.W.length : Int))) (n := c.W.length) (fun j => F148C_L1.mk (j : Int) (pickL (inP c slot) j)) (F148C_L1.mk (c.W.length : Int) (pickL (inP c slot) c.W.length)) (fun j hj => by
    have hl := pickL_len (inP c slot) j
    unfold F148C_s1 F113
    simp only
    rw [decide_eq_true (show (j : Int) < (c.W.length : Int) by omega), ct, perm_get (by omega) (by omega) (by omega), ob, epoch_ne h, ct, ct, ob]
    cases hb : inP c slot j with
    | true =>
      rw [show ((toA (seedOf c slot) (c.W.length : Int) (j : Int)).tmod c.Epoch == slot.tmod c.Epoch) = true from hb, ct, room_ok (by simp only [List.length_singleton]; omega) (by omega), ct, wrap_succ (n := j) (by omega), pickL, hb, ct]
    | false =>
      rw [show ((toA (seedOf c slot) (c.W.length : Int) (j : Int)).tmod c.Epoch == slot.tmod c.Epoch) = false from hb, cf, wrap_succ (n := j) (by omega), pickL, hb, cf]) (by
    unfold F148C_s1
    rw [decide_eq_false (show ¬ (c.W.length : Int) < (c.W.length : Int) by omega), cf]) (by omega)
  have e0 : F148C_L1.mk (((0 : Nat) : Int)) (pickL (inP c slot) 0) = F148C_L1.mk 0 [] := rfl
  rw [e0] at e
  unfold F111C F147C F148C
  rw [e, ob, ob, ob]
theorem F65_eq (c : Cf) (slot : Int) : F65 c slot = some (cmP c slot) := by
  unfold F65 cmP
  rw [F107_eq, ob]
  by_cases h : OkS c slot
  · rw [decide_eq_true h, if_pos h, Bool.not_true, cf, epoch_ne h.1, ct, F60_eq, ob]
    have := F111C_eq (slot := slot) h.1
    unfold seedOf at this
    rw [this, ob]
  · rw [decide_eq_false h, if_neg h]; rfl
theorem F69_eq {c : Cf} {slot : Int} (hW : c.W.length ≤ 1000) : F69 c slot = some (cmP c slot) := by
  unfold F69 cmP
  rw [F67_eq hW, ob, F114_eq, ob]
  by_cases h : OkS c slot
  · have h1 := h.1.1
    have h2 := h.1.2.1
    rw [decide_eq_true h.1, decide_eq_true (show 0 < slot ∧ slot ≤ 1048576 from h.2), Bool.not_true, cf, ob, cf, if_pos h, epoch_ne h.1, ct, F115_eq, ob]
    have e := count_loop (step := F69_s1 c slot (seedOf c slot)) (n := c.W.length) (fun j => F69_L1.mk (j : Int) (pickL (inP c slot) j)) (F69_L1.mk (c.W.length : Int) (pickL (inP c slot) c.W.length)) (fun j hj => by
      have hl := pickL_len (inP c slot) j
      unfold F69_s1
      simp only
      rw [decide_eq_true (show (j : Int) < (c.W.length : Int) by omega), ct, F57_eq, ob, epoch_ne h.1, ct, ct, atP, if_pos (show Pl (c.W.length : Int) (j : Int) from ⟨by omega, by omega, by omega, by omega⟩)]
      cases hb : inP c slot j with
      | true =>
        rw [show ((toA (seedOf c slot) (c.W.length : Int) (j : Int)).tmod c.Epoch == slot.tmod c.Epoch) = true from hb, ct, room_ok (by simp only [List.length_singleton]; omega) (by omega), ct, wrap_succ (n := j) (by omega), pickL, hb, ct]
      | false =>
        rw [show ((toA (seedOf c slot) (c.W.length : Int) (j : Int)).tmod c.Epoch == slot.tmod c.Epoch) = false from hb, cf, wrap_succ (n := j) (by omega), pickL, hb, cf]) (by
      unfold F69_s1
      rw [decide_eq_false (show ¬ (c.W.length : Int) < (c.W.length : Int) by omega), cf]) (by omega)
    have e0 : F69_L1.mk (((0 : Nat) : Int)) (pickL (inP c slot) 0) = F69_L1.mk 0 [] := rfl
    rw [e0] at e
    unfold seedOf at e
    rw [e, ob]
  · rw [if_neg h]
    have e : (bif !decide (MayC c) then some true else some (!decide (0 < slot ∧ slot ≤ 1048576))) = some true := by
      by_cases h1 : MayC c
      · rw [decide_eq_true h1, decide_eq_false (fun h2 => h ⟨h1, h2⟩)]; rfl
      · rw [decide_eq_false h1]; rfl
    rw [e, ob, ct]
theorem F74_eq (c : Cf) (slot who : Int) : F74 c slot who = some (decide (who ∈ cmP c slot)) := by
  have := cm_len c slot
  unfold F74
  rw [F65_eq, ob, F119_eq (by omega), ob]
theorem F68_eq {c : Cf} {slot who : Int} (hW : c.W.length ≤ 1000) : F68 c slot who = some (decide (who ∈ cmP c slot)) := by
  have := cm_len c slot
  unfold F68
  rw [F69_eq hW, ob, F76_eq (by omega), ob]
/-- Who proposes. -/
def prP (c : Cf) (slot : Int) : Int := if OkS c slot then IntKind.i64.wrap ((step (step c.Seed 4294967296) (IntKind.u64.wrap slot)).tmod (IntKind.u64.wrap (c.W.length : Int))) else -1
theorem len_ne {c : Cf} (h : MayC c) : decide (IntKind.u64.wrap (c.W.length : Int) ≠ 0) = true := decide_eq_true (by have := h.1; have := h.2.1; rw [wrapU (by omega) (by omega)]; omega)
theorem F63_eq (c : Cf) (slot : Int) : F63 c slot = some (prP c slot) := by
  unfold F63 prP
  rw [F107_eq, ob]
  by_cases h : OkS c slot
  · rw [decide_eq_true h, if_pos h, Bool.not_true, cf, len_ne h.1, ct]
  · rw [decide_eq_false h, if_neg h]; rfl
theorem F75_eq {c : Cf} {slot : Int} (hW : c.W.length ≤ 1000) : F75 c slot = some (prP c slot) := by
  unfold F75 prP
  rw [F67_eq hW, ob, F114_eq, ob]
  by_cases h : OkS c slot
  · rw [decide_eq_true h.1, decide_eq_true (show 0 < slot ∧ slot ≤ 1048576 from h.2), Bool.not_true, cf, ob, cf, if_pos h, F115_eq, ob, F115_eq, ob, len_ne h.1, ct]
  · rw [if_neg h]
    have e : (bif !decide (MayC c) then some true else some (!decide (0 < slot ∧ slot ≤ 1048576))) = some true := by
      by_cases h1 : MayC c
      · rw [decide_eq_true h1, decide_eq_false (fun h2 => h ⟨h1, h2⟩)]; rfl
      · rw [decide_eq_false h1]; rfl
    rw [e, ob, ct]
theorem pr_in {c : Cf} {slot : Int} (h : OkS c slot) : 0 ≤ prP c slot ∧ prP c slot < c.W.length := by
  unfold prP
  rw [if_pos h]
  have h1 := h.1.1
  have h2 := h.1.2.1
  have hs : 0 ≤ step (step c.Seed 4294967296) (IntKind.u64.wrap slot) := (step_in _ _).1
  generalize step (step c.Seed 4294967296) (IntKind.u64.wrap slot) = s at hs
  rw [wrapU (n := (c.W.length : Int)) (by omega) (by omega), Int.tmod_eq_emod_of_nonneg hs]
  have a := Int.emod_nonneg s (show (c.W.length : Int) ≠ 0 by omega)
  have b := Int.emod_lt_of_pos s (show 0 < (c.W.length : Int) by omega)
  rw [wrapI (by omega) (by omega)]
  exact ⟨a, b⟩
def c0 : Cf := ⟨[5], 0, 1, 0, 4⟩
theorem may_c0 : MayC c0 := by decide
theorem F62_eq : F62 = some true := by
  show ((F64 c0).bind _) = _
  have hs : OkS c0 3 := ⟨may_c0, by omega, by omega⟩
  have ht : totP c0 = 5 := by unfold totP; rw [if_pos may_c0]; rfl
  have hp : prP c0 3 = 0 := by have := pr_in hs; have e : ((c0.W.length : Nat) : Int) = 1 := rfl; omega
  have hc : cmP c0 3 = [0] := by
    unfold cmP
    rw [if_pos hs]
    show pickL (inP c0 3) 1 = [0]
    have hb : inP c0 3 0 = true := by
      unfold inP
      show ((toA (seedOf c0 3) 1 0).tmod 1 == (3 : Int).tmod 1) = true
      rw [Int.tmod_one]; rfl
    simp only [pickL, hb, ct, List.nil_append]
    rfl
  rw [F64_eq, ob, decide_eq_true may_c0, ct]
  show ((F72 c0).bind _) = _
  rw [F72_eq, ob, ht, beqt rfl, ct]
  show ((F65 c0 3).bind _) = _
  rw [F65_eq, ob, hc, show ((([0] : List Int).length : Int) == 1) = true from rfl, ct]
  show ((F74 c0 3 0).bind _) = _
  rw [F74_eq, ob, hc, decide_eq_true (by simp), ct]
  show ((F63 c0 3).bind _) = _
  rw [F63_eq, ob, hp]; rfl
theorem duProposes (c : Cf) (slot : Int) : F21 c slot = some true := by
  unfold F21
  rw [F62_eq, ob, Bool.not_true, cf, ob]
  by_cases h0 : (c.W.length : Int) > 40
  · rw [decide_eq_true h0, ct]
  · rw [decide_eq_false h0, cf, F63_eq, ob, F64_eq, ob]
    by_cases h : OkS c slot
    · have hp := pr_in h
      rw [decide_eq_true h.1, Bool.not_true, cf, decide_eq_false (show ¬ slot < 1 by have := h.2.1; omega), cf, decide_eq_false (show ¬ slot > 1048576 by have := h.2.2; omega), ob, cf, decide_eq_true hp.1, ct, decide_eq_true hp.2]
    · have e : (bif !decide (MayC c) then some true else bif decide (slot < 1) then some true else some (decide (slot > 1048576))) = some true := by
        by_cases h1 : MayC c
        · rw [decide_eq_true h1, Bool.not_true, cf]
          by_cases h2 : slot < 1
          · rw [decide_eq_true h2, ct]
          · rw [decide_eq_false h2, cf, decide_eq_true]
            refine Classical.byContradiction fun h3 => h ⟨h1, by omega, by omega⟩
        · rw [decide_eq_false h1]; rfl
      have hp : prP c slot = -1 := by unfold prP; rw [if_neg h]
      have hc : cmP c slot = [] := by unfold cmP; rw [if_neg h]
      rw [e, ob, ct, hp, beqt rfl, ct, F65_eq, ob, hc, ob]; rfl
theorem inP_seed {c : Cf} {w : List Int} {slot : Int} (hl : c.W.length = w.length) (j : Nat) : inP (Cf.mk w c.Seed c.Epoch c.Num c.Den) slot j = inP c slot j := by
  have e : seedOf (Cf.mk w c.Seed c.Epoch c.Num c.Den) slot = seedOf c slot := rfl
  unfold inP
  rw [e]
  generalize seedOf c slot = sd
  show ((toA sd (w.length : Int) (j : Int)).tmod c.Epoch == slot.tmod c.Epoch) = _
  rw [← hl]
theorem pickL_congr {p q : Nat → Bool} (h : ∀ j, p j = q j) : ∀ k, pickL p k = pickL q k
  | 0 => rfl
  | k + 1 => by rw [pickL, pickL, pickL_congr h k, h k]
theorem may_seed {c : Cf} {w : List Int} {slot : Int} (h1 : MayC c) (h2 : MayC (Cf.mk w c.Seed c.Epoch c.Num c.Den)) (hl : c.W.length = w.length) :
    cmP (Cf.mk w c.Seed c.Epoch c.Num c.Den) slot = cmP c slot ∧ prP (Cf.mk w c.Seed c.Epoch c.Num c.Den) slot = prP c slot := by
  by_cases h : 0 < slot ∧ slot ≤ 1048576
  · have o1 : OkS c slot := ⟨h1, h⟩
    have o2 : OkS (Cf.mk w c.Seed c.Epoch c.Num c.Den) slot := ⟨h2, h⟩
    refine ⟨?_, ?_⟩
    · unfold cmP
      rw [if_pos o1, if_pos o2, pickL_congr (fun j => inP_seed (slot := slot) hl j)]
      show pickL _ w.length = _
      rw [← hl]
    · unfold prP
      rw [if_pos o1, if_pos o2]
      generalize step (step c.Seed 4294967296) (IntKind.u64.wrap slot) = s
      show IntKind.i64.wrap (s.tmod (IntKind.u64.wrap (w.length : Int))) = _
      rw [← hl]
  · have o1 : ¬ OkS c slot := fun h3 => h h3.2
    have o2 : ¬ OkS (Cf.mk w c.Seed c.Epoch c.Num c.Den) slot := fun h3 => h h3.2
    unfold cmP prP
    rw [if_neg o1, if_neg o2, if_neg o1, if_neg o2]
    exact ⟨rfl, rfl⟩
theorem duSeeds (c : Cf) (w : List Int) (slot : Int) : F22 c w slot = some true := by
  unfold F22
  rw [F62_eq, ob, Bool.not_true, cf]
  by_cases hl : c.W.length = w.length
  · rw [show ((c.W.length : Int) != (w.length : Int)) = false by simp [hl], cf, F64_eq, ob]
    by_cases h1 : MayC c
    · rw [decide_eq_true h1, Bool.not_true, cf, F64_eq, ob]
      by_cases h2 : MayC (Cf.mk w c.Seed c.Epoch c.Num c.Den)
      · obtain ⟨e1, e2⟩ := may_seed (slot := slot) h1 h2 hl
        have := cm_len c slot
        rw [decide_eq_true h2, Bool.not_true, ob, cf, F65_eq, ob, F65_eq, ob, e1, F66_same (by omega), ob, ct, F63_eq, ob, F63_eq, ob, e2, beqt rfl]
      · rw [decide_eq_false h2, Bool.not_false, ob, ct]
    · rw [decide_eq_false h1, Bool.not_false, ct, ob, ct]
  · rw [show ((c.W.length : Int) != (w.length : Int)) = true by rw [bne_iff_ne]; omega, ct, ob, ct]
theorem duTells (c : Cf) (l : List Int) (slot who : Int) : F23 c l slot who = some true := by
  unfold F23
  rw [F62_eq, ob, Bool.not_true, cf]
  by_cases h0 : (c.W.length : Int) > 40
  · rw [decide_eq_true h0, ct, ob, ct]
  · rw [decide_eq_false h0, cf, ob]
    by_cases h1 : (l.length : Int) > 40
    · rw [decide_eq_true h1, ct]
    · have hW : c.W.length ≤ 1000 := by omega
      have := cm_len c slot
      rw [decide_eq_false h1, cf, F67_eq hW, ob, F68_eq hW, ob, F65_eq, ob, F69_eq hW, ob, F66_same (by omega), ob, F64_eq, ob, beq_self_eq_true, ct, F70_eq (by omega), ob, F71_eq hW (by omega), ob, beqt rfl, ct, F72_eq, ob, F73_eq hW, ob, beqt rfl, ct, ct,
        F74_eq, ob, beq_self_eq_true, ct, F63_eq, ob, F75_eq hW, ob, beqt rfl]
end Go.Mg
