/- Duties: what stands alone. Duties: the reference, the proposer. duty.those: a closure. Sums of weights, and lists, over closures. Committees over closures. duty.Total, Weight, Committee, In. Conditions: none. -/
import Derived.Test.YtlhocfhoocmfiaaS1
import Derived.Test.YtlhocfhoocmfiaaR1
namespace Go.Mg
open Go.Proofs
structure F109_L1 where
  m : Int
  i : Int
def F109_s1 (x : List Int) (x1 : F109_L1) : Option (F109_L1 ⊕ F109_L1) :=
  bif decide (x1.i < (x.length : Int)) then
    (ix x x1.i).bind fun y2 =>
    some (.inl (F109_L1.mk (if y2 < x1.m then y2 else x1.m) (IntKind.i64.wrap (x1.i + 1))))
  else
    some (.inr (F109_L1.mk x1.m x1.i))
def F109 (x : List Int) : Option Int :=
  bif decide ((x.length : Int) < 1) then
    none
  else
    (ix x 0).bind fun y1 =>
    (iter (F109_s1 x) big (F109_L1.mk y1 1)).bind fun v1 =>
    some v1.m
set_option maxRecDepth 100000 in
theorem c109 {x : List Int} {r_ : Int} (hr : F109 x = some r_) : LPure Try.prog 109 [.slice 1 (x.map i64P)] [.int .i64 r_] := by
  refine LPure.start Try.func109 rfl rfl rfl rfl ?_
  unfold F109 at hr
  refine LW.seq ?_
  refine LW.region ?_
  refine LOps.st rfl rfl rfl (LOp.assign rfl rfl) ?_
  refine LOps.nil ?_
  refine thn_n ?_
  refine LW.seq ?_
  refine LW.seq ?_
  refine LW.region ?_
  refine LOps.st rfl rfl rfl (LOp.move rfl rfl) ?_
  refine LOps.st rfl rfl rfl (LOp.lenM rfl rfl (by kernel_rfl)) ?_
  refine LOps.st rfl rfl rfl (LOp.bin rfl rfl rfl rfl) ?_
  refine LOps.nil ?_
  refine thn_n ?_
  refine LW.cond rfl (fun (g1 : (decide ((x.length : Int) < 1)) = true) => ?_) (fun (g1 : (decide ((x.length : Int) < 1)) = false) => ?_)
  · -- g1 is True
    have hr := ite_t g1 hr
    cases hr
  · -- g1 is False
    have hr := ite_f g1 hr
    refine LW.skip ?_
    refine thn_n ?_
    refine LW.seq ?_
    refine LW.region ?_
    refine LOps.st rfl rfl rfl (LOp.move rfl rfl) ?_
    obtain ⟨y1, h_y1, hr⟩ := bind_get hr
    refine LOps.st rfl rfl rfl (LOp.indexAddrX rfl rfl rfl st49 h_y1 rfl) ?_
    refine LOps.st rfl rfl rfl (LOp.loadC rfl rfl rfl vt3 rfl rfl) ?_
    refine LOps.st rfl rfl rfl (LOp.assign rfl rfl) ?_
    refine LOps.nil ?_
    refine thn_n ?_
    refine LW.seq ?_
    refine LW.seq ?_
    refine LW.region ?_
    refine LOps.st rfl rfl rfl (LOp.assign rfl rfl) ?_
    refine LOps.nil ?_
    refine thn_n ?_
    obtain ⟨v1, hb_v1, ho_v1⟩ := bind_get hr
    clear hr
    refine LW.tail (E := [(2, .p (.int .i64 0)), (3, .p (.int .i64 v1.m))]) (O := []) ?_ (fun env_v1 H_v1 hw_v1 => ?_)
    · refine LW.block ?_
      refine LW.iterB (E := fun x1 : F109_L1 => [(0, .p (.slice 1 (x.map i64P))), (2, .p (.int .i64 0)), (3, .p (.int .i64 x1.m)), (4, .p (.int .i64 x1.i))]) (O := fun x1 => []) hb_v1 (Weak.of 0 ⟨rfl, rfl, rfl, rfl, trivial⟩ rfl rfl rfl rfl) (fun x1 z_x1 hr hb_x1 => ?_)
      unfold F109_s1 at hr
      refine LW.seq ?_
      refine LW.seq ?_
      refine LW.region ?_
      refine LOps.st rfl rfl rfl (LOp.move rfl rfl) ?_
      refine LOps.st rfl rfl rfl (LOp.move rfl rfl) ?_
      refine LOps.st rfl rfl rfl (LOp.lenM rfl rfl (by kernel_rfl)) ?_
      refine LOps.st rfl rfl rfl (LOp.bin rfl rfl rfl rfl) ?_
      refine LOps.nil ?_
      refine thn_n ?_
      refine LW.cond rfl (fun (g2 : (decide (x1.i < (x.length : Int))) = true) => ?_) (fun (g2 : (decide (x1.i < (x.length : Int))) = false) => ?_)
      · -- g2 is True
        have hr := ite_t g2 hr
        refine LW.skip ?_
        refine thn_n ?_
        refine LW.seq ?_
        refine LW.block ?_
        refine LW.region ?_
        refine LOps.st rfl rfl rfl (LOp.move rfl rfl) ?_
        refine LOps.st rfl rfl rfl (LOp.move rfl rfl) ?_
        refine LOps.st rfl rfl rfl (LOp.move rfl rfl) ?_
        obtain ⟨y2, h_y2, hr⟩ := bind_get hr
        refine LOps.st rfl rfl rfl (LOp.indexAddrX rfl rfl rfl st49 h_y2 rfl) ?_
        refine LOps.st rfl rfl rfl (LOp.loadC rfl rfl rfl vt3 rfl rfl) ?_
        refine LOps.st rfl rfl rfl (LOp.min rfl rfl rfl) ?_
        refine LOps.st rfl rfl rfl (LOp.assign rfl rfl) ?_
        refine LOps.nil ?_
        refine inBlk_n ?_
        refine thn_n ?_
        refine LW.region ?_
        refine LOps.st rfl rfl rfl (LOp.move rfl rfl) ?_
        refine LOps.st rfl rfl rfl (LOp.bin rfl rfl rfl rfl) ?_
        refine LOps.st rfl rfl rfl (LOp.assign rfl rfl) ?_
        refine LOps.nil ?_
        refine thn_n ?_
        obtain rfl := Option.some.inj hr
        exact ⟨_, rfl, Weak.of 0 ⟨rfl, rfl, rfl, rfl, trivial⟩ rfl rfl rfl rfl⟩
      · -- g2 is False
        have hr := ite_f g2 hr
        refine LW.exit ?_
        refine thn_e ?_
        refine thn_e ?_
        refine inBlk_self ?_
        refine thn_n ?_
        obtain rfl := Option.some.inj hr
        have hr := congrArg some (hb_x1 _ rfl)
        obtain rfl := Option.some.inj hr
        exact Weak.of 0 ⟨rfl, rfl, trivial⟩ rfl rfl rfl rfl
    · have hr := ho_v1
      clear hb_v1
      refine thn_n ?_
      refine LW.weak hw_v1 ?_
      refine LW.seq ?_
      refine LW.region ?_
      refine LOps.st rfl rfl rfl (LOp.move rfl rfl) ?_
      refine LOps.st rfl rfl rfl (LOp.assign rfl rfl) ?_
      refine LOps.nil ?_
      refine thn_n ?_
      refine LW.ret ?_
      obtain rfl := Option.some.inj hr
      refine finP_ret (.one (.tmp rfl)) ?_
      exact Conv.p
structure F110_L1 where
  m : Int
  i : Int
def F110_s1 (x : List Int) (x1 : F110_L1) : Option (F110_L1 ⊕ F110_L1) :=
  bif decide (x1.i < (x.length : Int)) then
    (ix x x1.i).bind fun y2 =>
    some (.inl (F110_L1.mk (if y2 > x1.m then y2 else x1.m) (IntKind.i64.wrap (x1.i + 1))))
  else
    some (.inr (F110_L1.mk x1.m x1.i))
def F110 (x : List Int) : Option Int :=
  bif decide ((x.length : Int) < 1) then
    none
  else
    (ix x 0).bind fun y1 =>
    (iter (F110_s1 x) big (F110_L1.mk y1 1)).bind fun v1 =>
    some v1.m
set_option maxRecDepth 100000 in
theorem c110 {x : List Int} {r_ : Int} (hr : F110 x = some r_) : LPure Try.prog 110 [.slice 1 (x.map i64P)] [.int .i64 r_] := by
  refine LPure.start Try.func110 rfl rfl rfl rfl ?_
  unfold F110 at hr
  refine LW.seq ?_
  refine LW.region ?_
  refine LOps.st rfl rfl rfl (LOp.assign rfl rfl) ?_
  refine LOps.nil ?_
  refine thn_n ?_
  refine LW.seq ?_
  refine LW.seq ?_
  refine LW.region ?_
  refine LOps.st rfl rfl rfl (LOp.move rfl rfl) ?_
  refine LOps.st rfl rfl rfl (LOp.lenM rfl rfl (by kernel_rfl)) ?_
  refine LOps.st rfl rfl rfl (LOp.bin rfl rfl rfl rfl) ?_
  refine LOps.nil ?_
  refine thn_n ?_
  refine LW.cond rfl (fun (g1 : (decide ((x.length : Int) < 1)) = true) => ?_) (fun (g1 : (decide ((x.length : Int) < 1)) = false) => ?_)
  · -- g1 is True
    have hr := ite_t g1 hr
    cases hr
  · -- g1 is False
    have hr := ite_f g1 hr
    refine LW.skip ?_
    refine thn_n ?_
    refine LW.seq ?_
    refine LW.region ?_
    refine LOps.st rfl rfl rfl (LOp.move rfl rfl) ?_
    obtain ⟨y1, h_y1, hr⟩ := bind_get hr
    refine LOps.st rfl rfl rfl (LOp.indexAddrX rfl rfl rfl st49 h_y1 rfl) ?_
    refine LOps.st rfl rfl rfl (LOp.loadC rfl rfl rfl vt3 rfl rfl) ?_
    refine LOps.st rfl rfl rfl (LOp.assign rfl rfl) ?_
    refine LOps.nil ?_
    refine thn_n ?_
    refine LW.seq ?_
    refine LW.seq ?_
    refine LW.region ?_
    refine LOps.st rfl rfl rfl (LOp.assign rfl rfl) ?_
    refine LOps.nil ?_
    refine thn_n ?_
    obtain ⟨v1, hb_v1, ho_v1⟩ := bind_get hr
    clear hr
    refine LW.tail (E := [(2, .p (.int .i64 0)), (3, .p (.int .i64 v1.m))]) (O := []) ?_ (fun env_v1 H_v1 hw_v1 => ?_)
    · refine LW.block ?_
      refine LW.iterB (E := fun x1 : F110_L1 => [(0, .p (.slice 1 (x.map i64P))), (2, .p (.int .i64 0)), (3, .p (.int .i64 x1.m)), (4, .p (.int .i64 x1.i))]) (O := fun x1 => []) hb_v1 (Weak.of 0 ⟨rfl, rfl, rfl, rfl, trivial⟩ rfl rfl rfl rfl) (fun x1 z_x1 hr hb_x1 => ?_)
      unfold F110_s1 at hr
      refine LW.seq ?_
      refine LW.seq ?_
      refine LW.region ?_
      refine LOps.st rfl rfl rfl (LOp.move rfl rfl) ?_
      refine LOps.st rfl rfl rfl (LOp.move rfl rfl) ?_
      refine LOps.st rfl rfl rfl (LOp.lenM rfl rfl (by kernel_rfl)) ?_
      refine LOps.st rfl rfl rfl (LOp.bin rfl rfl rfl rfl) ?_
      refine LOps.nil ?_
      refine thn_n ?_
      refine LW.cond rfl (fun (g2 : (decide (x1.i < (x.length : Int))) = true) => ?_) (fun (g2 : (decide (x1.i < (x.length : Int))) = false) => ?_)
      · -- g2 is True
        have hr := ite_t g2 hr
        refine LW.skip ?_
        refine thn_n ?_
        refine LW.seq ?_
        refine LW.block ?_
        refine LW.region ?_
        refine LOps.st rfl rfl rfl (LOp.move rfl rfl) ?_
        refine LOps.st rfl rfl rfl (LOp.move rfl rfl) ?_
        refine LOps.st rfl rfl rfl (LOp.move rfl rfl) ?_
        obtain ⟨y2, h_y2, hr⟩ := bind_get hr
        refine LOps.st rfl rfl rfl (LOp.indexAddrX rfl rfl rfl st49 h_y2 rfl) ?_
        refine LOps.st rfl rfl rfl (LOp.loadC rfl rfl rfl vt3 rfl rfl) ?_
        refine LOps.st rfl rfl rfl (LOp.max rfl rfl rfl) ?_
        refine LOps.st rfl rfl rfl (LOp.assign rfl rfl) ?_
        refine LOps.nil ?_
        refine inBlk_n ?_
        refine thn_n ?_
        refine LW.region ?_
        refine LOps.st rfl rfl rfl (LOp.move rfl rfl) ?_
        refine LOps.st rfl rfl rfl (LOp.bin rfl rfl rfl rfl) ?_
        refine LOps.st rfl rfl rfl (LOp.assign rfl rfl) ?_
        refine LOps.nil ?_
        refine thn_n ?_
        obtain rfl := Option.some.inj hr
        exact ⟨_, rfl, Weak.of 0 ⟨rfl, rfl, rfl, rfl, trivial⟩ rfl rfl rfl rfl⟩
      · -- g2 is False
        have hr := ite_f g2 hr
        refine LW.exit ?_
        refine thn_e ?_
        refine thn_e ?_
        refine inBlk_self ?_
        refine thn_n ?_
        obtain rfl := Option.some.inj hr
        have hr := congrArg some (hb_x1 _ rfl)
        obtain rfl := Option.some.inj hr
        exact Weak.of 0 ⟨rfl, rfl, trivial⟩ rfl rfl rfl rfl
    · have hr := ho_v1
      clear hb_v1
      refine thn_n ?_
      refine LW.weak hw_v1 ?_
      refine LW.seq ?_
      refine LW.region ?_
      refine LOps.st rfl rfl rfl (LOp.move rfl rfl) ?_
      refine LOps.st rfl rfl rfl (LOp.assign rfl rfl) ?_
      refine LOps.nil ?_
      refine thn_n ?_
      refine LW.ret ?_
      obtain rfl := Option.some.inj hr
      refine finP_ret (.one (.tmp rfl)) ?_
      exact Conv.p
def F64 (c : Cf) : Option Bool :=
  (
    bif (c.W.length : Int) == 0 then
      some true
    else
      bif decide ((c.W.length : Int) > 12) then
        some true
      else
        (F109 c.W).bind fun v2 =>
        bif decide (v2 < 0) then
          some true
        else
          (F110 c.W).bind fun v3 =>
          some (decide (v3 > 1099511627776))
  ).bind fun v1 =>
  bif v1 then
    some false
  else
    bif decide (c.Epoch > 0) then
      bif decide (c.Epoch ≤ 8) then
        bif decide (c.Num ≥ 0) then
          bif decide (c.Num ≤ c.Den) then
            bif decide (c.Den > 0) then
              some (decide (c.Den ≤ 1000))
            else
              some false
          else
            some false
        else
          some false
      else
        some false
    else
      some false
set_option maxRecDepth 100000 in
theorem c64 {c : Cf} {r_ : Bool} (hr : F64 c = some r_) : LPure Try.prog 64 [cfP c] [.bool r_] := by
  refine LPure.start Try.func64 rfl rfl rfl rfl ?_
  unfold F64 at hr
  refine LW.seq ?_
  refine LW.region ?_
  refine LOps.st rfl rfl rfl (LOp.box rfl rfl rfl rfl rfl) ?_
  refine LOps.st rfl rfl rfl (LOp.assign rfl rfl) ?_
  refine LOps.nil ?_
  refine thn_n ?_
  refine LW.seq ?_
  obtain ⟨v1, hb_v1, ho_v1⟩ := bind_get hr
  clear hr
  refine LW.cut (E := [(1, .ptr 0 0), (2, .p (.bool false)), (24, .p (.bool v1))]) (O := [.box [.p (.slice 1 (c.W.map i64P)), .p (.int .u64 c.Seed), .p (.int .i64 c.Epoch), .p (.int .i64 c.Num), .p (.int .i64 c.Den)]]) ?_ ?_
  · have hr := hb_v1
    refine LW.region ?_
    refine LOps.st rfl rfl rfl (LOp.fieldAddr rfl rfl ft55_0) ?_
    refine LOps.st rfl rfl rfl (LOp.load rfl rfl rfl vt49 rfl rfl) ?_
    refine LOps.st rfl rfl rfl (LOp.lenM rfl rfl (by kernel_rfl)) ?_
    refine LOps.st rfl rfl rfl (LOp.bin rfl rfl rfl rfl) ?_
    refine LOps.st rfl rfl rfl (LOp.move rfl rfl) ?_
    refine LOps.cases 7 rfl (fun (g1 : ((c.W.length : Int) == 0) = true) => ?_) (fun (g1 : ((c.W.length : Int) == 0) = false) => ?_)
    · -- g1 is True
      have hr := ite_t g1 hr
      refine LOps.sk rfl rfl rfl (gd g1 rfl) rfl rfl ?_
      refine LOps.sk rfl rfl rfl (gd g1 rfl) rfl rfl ?_
      refine LOps.sk rfl rfl rfl (gd g1 rfl) rfl rfl ?_
      refine LOps.sk rfl rfl rfl (gd g1 rfl) rfl rfl ?_
      refine LOps.st rfl rfl rfl (LOp.pickT rfl (gdl g1 rfl) rfl) ?_
      refine LOps.st rfl rfl rfl (LOp.move rfl rfl) ?_
      refine LOps.sk rfl rfl rfl rfl rfl rfl ?_
      refine LOps.sk rfl rfl rfl rfl rfl rfl ?_
      refine LOps.sk rfl rfl rfl rfl rfl rfl ?_
      refine LOps.sk rfl rfl rfl rfl rfl rfl ?_
      refine LOps.st rfl rfl rfl (LOp.pickT rfl rfl rfl) ?_
      refine LOps.st rfl rfl rfl (LOp.move rfl rfl) ?_
      refine LOps.sk rfl rfl rfl rfl rfl rfl ?_
      refine LOps.sk rfl rfl rfl rfl rfl rfl ?_
      refine LOps.sk rfl rfl rfl rfl rfl rfl ?_
      refine LOps.sk rfl rfl rfl rfl rfl rfl ?_
      refine LOps.st rfl rfl rfl (LOp.pickT rfl rfl rfl) ?_
      refine LOps.nil ?_
      refine thn_n ?_
      obtain rfl := Option.some.inj hr
      exact Weak.of 1 ⟨rfl, rfl, rfl, trivial⟩ rfl rfl rfl rfl
    · -- g1 is False
      have hr := ite_f g1 hr
      refine LOps.gd rfl rfl rfl (gd g1 rfl) rfl (LOp.fieldAddr rfl rfl ft55_0) ?_
      refine LOps.gd rfl rfl rfl (gd g1 rfl) rfl (LOp.load rfl rfl rfl vt49 rfl rfl) ?_
      refine LOps.gd rfl rfl rfl (gd g1 rfl) rfl (LOp.lenM rfl rfl (by kernel_rfl)) ?_
      refine LOps.gd rfl rfl rfl (gd g1 rfl) rfl (LOp.bin rfl rfl rfl rfl) ?_
      refine LOps.st rfl rfl rfl (LOp.pickF rfl (gdl g1 rfl) rfl) ?_
      refine LOps.st rfl rfl rfl (LOp.move rfl rfl) ?_
      refine LOps.cases 13 rfl (fun (g2 : (decide ((c.W.length : Int) > 12)) = true) => ?_) (fun (g2 : (decide ((c.W.length : Int) > 12)) = false) => ?_)
      · -- g2 is True
        have hr := ite_t g2 hr
        refine LOps.sk rfl rfl rfl (gd g2 rfl) rfl rfl ?_
        refine LOps.sk rfl rfl rfl (gd g2 rfl) rfl rfl ?_
        refine LOps.sk rfl rfl rfl (gd g2 rfl) rfl rfl ?_
        refine LOps.sk rfl rfl rfl (gd g2 rfl) rfl rfl ?_
        refine LOps.st rfl rfl rfl (LOp.pickT rfl (gdl g2 rfl) rfl) ?_
        refine LOps.st rfl rfl rfl (LOp.move rfl rfl) ?_
        refine LOps.sk rfl rfl rfl rfl rfl rfl ?_
        refine LOps.sk rfl rfl rfl rfl rfl rfl ?_
        refine LOps.sk rfl rfl rfl rfl rfl rfl ?_
        refine LOps.sk rfl rfl rfl rfl rfl rfl ?_
        refine LOps.st rfl rfl rfl (LOp.pickT rfl rfl rfl) ?_
        refine LOps.nil ?_
        refine thn_n ?_
        obtain rfl := Option.some.inj hr
        exact Weak.of 1 ⟨rfl, rfl, rfl, trivial⟩ rfl rfl rfl rfl
      · -- g2 is False
        have hr := ite_f g2 hr
        refine LOps.gd rfl rfl rfl (gd g2 rfl) rfl (LOp.fieldAddr rfl rfl ft55_0) ?_
        refine LOps.gd rfl rfl rfl (gd g2 rfl) rfl (LOp.load rfl rfl rfl vt49 rfl rfl) ?_
        obtain ⟨v2, h_v2, hr⟩ := bind_get hr
        refine LOps.gd rfl rfl rfl (gd g2 rfl) rfl (LOp.call rfl rfl rfl (by kernel_rfl) (LC.pure (c109 h_v2) (.cons Conv.p .nil))) ?_
        refine LOps.gd rfl rfl rfl (gd g2 rfl) rfl (LOp.bin rfl rfl rfl rfl) ?_
        refine LOps.st rfl rfl rfl (LOp.pickF rfl (gdl g2 rfl) rfl) ?_
        refine LOps.st rfl rfl rfl (LOp.move rfl rfl) ?_
        refine LOps.cases 19 rfl (fun (g3 : (decide (v2 < 0)) = true) => ?_) (fun (g3 : (decide (v2 < 0)) = false) => ?_)
        · -- g3 is True
          have hr := ite_t g3 hr
          refine LOps.sk rfl rfl rfl (gd g3 rfl) rfl rfl ?_
          refine LOps.sk rfl rfl rfl (gd g3 rfl) rfl rfl ?_
          refine LOps.sk rfl rfl rfl (gd g3 rfl) rfl rfl ?_
          refine LOps.sk rfl rfl rfl (gd g3 rfl) rfl rfl ?_
          refine LOps.st rfl rfl rfl (LOp.pickT rfl (gdl g3 rfl) rfl) ?_
          refine LOps.nil ?_
          refine thn_n ?_
          obtain rfl := Option.some.inj hr
          exact Weak.of 1 ⟨rfl, rfl, rfl, trivial⟩ rfl rfl rfl rfl
        · -- g3 is False
          have hr := ite_f g3 hr
          refine LOps.gd rfl rfl rfl (gd g3 rfl) rfl (LOp.fieldAddr rfl rfl ft55_0) ?_
          refine LOps.gd rfl rfl rfl (gd g3 rfl) rfl (LOp.load rfl rfl rfl vt49 rfl rfl) ?_
          obtain ⟨v3, h_v3, hr⟩ := bind_get hr
          refine LOps.gd rfl rfl rfl (gd g3 rfl) rfl (LOp.call rfl rfl rfl (by kernel_rfl) (LC.pure (c110 h_v3) (.cons Conv.p .nil))) ?_
          refine LOps.gd rfl rfl rfl (gd g3 rfl) rfl (LOp.bin rfl rfl rfl rfl) ?_
          refine LOps.st rfl rfl rfl (LOp.pickF rfl (gdl g3 rfl) rfl) ?_
          refine LOps.nil ?_
          refine thn_n ?_
          obtain rfl := Option.some.inj hr
          exact Weak.of 1 ⟨rfl, rfl, rfl, trivial⟩ rfl rfl rfl rfl
  · have hr := ho_v1
    clear hb_v1
    refine LW.cond rfl (fun (g4 : v1 = true) => ?_) (fun (g4 : v1 = false) => ?_)
    · -- g4 is True
      have hr := ite_t g4 hr
      refine LW.seq ?_
      refine LW.region ?_
      refine LOps.st rfl rfl rfl (LOp.assign rfl rfl) ?_
      refine LOps.nil ?_
      refine thn_n ?_
      refine LW.ret ?_
      refine thn_r ?_
      obtain rfl := Option.some.inj hr
      refine finP_ret (.one (.tmp rfl)) ?_
      exact Conv.p
    · -- g4 is False
      have hr := ite_f g4 hr
      refine LW.skip ?_
      refine thn_n ?_
      refine LW.seq ?_
      refine LW.region ?_
      refine LOps.st rfl rfl rfl (LOp.fieldAddr rfl rfl ft55_2) ?_
      refine LOps.st rfl rfl rfl (LOp.load rfl rfl rfl vt3 rfl rfl) ?_
      refine LOps.st rfl rfl rfl (LOp.bin rfl rfl rfl rfl) ?_
      refine LOps.st rfl rfl rfl (LOp.move rfl rfl) ?_
      refine LOps.cases 28 rfl (fun (g5 : (decide (c.Epoch > 0)) = true) => ?_) (fun (g5 : (decide (c.Epoch > 0)) = false) => ?_)
      · -- g5 is True
        have hr := ite_t g5 hr
        refine LOps.gd rfl rfl rfl (gd g5 rfl) rfl (LOp.fieldAddr rfl rfl ft55_2) ?_
        refine LOps.gd rfl rfl rfl (gd g5 rfl) rfl (LOp.load rfl rfl rfl vt3 rfl rfl) ?_
        refine LOps.gd rfl rfl rfl (gd g5 rfl) rfl (LOp.bin rfl rfl rfl rfl) ?_
        refine LOps.st rfl rfl rfl (LOp.pickT rfl (gdl g5 rfl) rfl) ?_
        refine LOps.st rfl rfl rfl (LOp.move rfl rfl) ?_
        refine LOps.cases 33 rfl (fun (g6 : (decide (c.Epoch ≤ 8)) = true) => ?_) (fun (g6 : (decide (c.Epoch ≤ 8)) = false) => ?_)
        · -- g6 is True
          have hr := ite_t g6 hr
          refine LOps.gd rfl rfl rfl (gd g6 rfl) rfl (LOp.fieldAddr rfl rfl ft55_3) ?_
          refine LOps.gd rfl rfl rfl (gd g6 rfl) rfl (LOp.load rfl rfl rfl vt3 rfl rfl) ?_
          refine LOps.gd rfl rfl rfl (gd g6 rfl) rfl (LOp.bin rfl rfl rfl rfl) ?_
          refine LOps.st rfl rfl rfl (LOp.pickT rfl (gdl g6 rfl) rfl) ?_
          refine LOps.st rfl rfl rfl (LOp.move rfl rfl) ?_
          refine LOps.cases 38 rfl (fun (g7 : (decide (c.Num ≥ 0)) = true) => ?_) (fun (g7 : (decide (c.Num ≥ 0)) = false) => ?_)
          · -- g7 is True
            have hr := ite_t g7 hr
            refine LOps.gd rfl rfl rfl (gd g7 rfl) rfl (LOp.fieldAddr rfl rfl ft55_3) ?_
            refine LOps.gd rfl rfl rfl (gd g7 rfl) rfl (LOp.load rfl rfl rfl vt3 rfl rfl) ?_
            refine LOps.gd rfl rfl rfl (gd g7 rfl) rfl (LOp.fieldAddr rfl rfl ft55_4) ?_
            refine LOps.gd rfl rfl rfl (gd g7 rfl) rfl (LOp.load rfl rfl rfl vt3 rfl rfl) ?_
            refine LOps.gd rfl rfl rfl (gd g7 rfl) rfl (LOp.bin rfl rfl rfl rfl) ?_
            refine LOps.st rfl rfl rfl (LOp.pickT rfl (gdl g7 rfl) rfl) ?_
            refine LOps.st rfl rfl rfl (LOp.move rfl rfl) ?_
            refine LOps.cases 45 rfl (fun (g8 : (decide (c.Num ≤ c.Den)) = true) => ?_) (fun (g8 : (decide (c.Num ≤ c.Den)) = false) => ?_)
            · -- g8 is True
              have hr := ite_t g8 hr
              refine LOps.gd rfl rfl rfl (gd g8 rfl) rfl (LOp.fieldAddr rfl rfl ft55_4) ?_
              refine LOps.gd rfl rfl rfl (gd g8 rfl) rfl (LOp.load rfl rfl rfl vt3 rfl rfl) ?_
              refine LOps.gd rfl rfl rfl (gd g8 rfl) rfl (LOp.bin rfl rfl rfl rfl) ?_
              refine LOps.st rfl rfl rfl (LOp.pickT rfl (gdl g8 rfl) rfl) ?_
              refine LOps.st rfl rfl rfl (LOp.move rfl rfl) ?_
              refine LOps.cases 50 rfl (fun (g9 : (decide (c.Den > 0)) = true) => ?_) (fun (g9 : (decide (c.Den > 0)) = false) => ?_)
              · -- g9 is True
                have hr := ite_t g9 hr
                refine LOps.gd rfl rfl rfl (gd g9 rfl) rfl (LOp.fieldAddr rfl rfl ft55_4) ?_
                refine LOps.gd rfl rfl rfl (gd g9 rfl) rfl (LOp.load rfl rfl rfl vt3 rfl rfl) ?_
                refine LOps.gd rfl rfl rfl (gd g9 rfl) rfl (LOp.bin rfl rfl rfl rfl) ?_
                refine LOps.st rfl rfl rfl (LOp.pickT rfl (gdl g9 rfl) rfl) ?_
                refine LOps.st rfl rfl rfl (LOp.assign rfl rfl) ?_
                refine LOps.nil ?_
                refine thn_n ?_
                refine LW.ret ?_
                obtain rfl := Option.some.inj hr
                refine finP_ret (.one (.tmp rfl)) ?_
                exact Conv.p
              · -- g9 is False
                have hr := ite_f g9 hr
                refine LOps.sk rfl rfl rfl (gd g9 rfl) rfl rfl ?_
                refine LOps.sk rfl rfl rfl (gd g9 rfl) rfl rfl ?_
                refine LOps.sk rfl rfl rfl (gd g9 rfl) rfl rfl ?_
                refine LOps.st rfl rfl rfl (LOp.pickF rfl (gdl g9 rfl) rfl) ?_
                refine LOps.st rfl rfl rfl (LOp.assign rfl rfl) ?_
                refine LOps.nil ?_
                refine thn_n ?_
                refine LW.ret ?_
                obtain rfl := Option.some.inj hr
                refine finP_ret (.one (.tmp rfl)) ?_
                exact Conv.p
            · -- g8 is False
              have hr := ite_f g8 hr
              refine LOps.sk rfl rfl rfl (gd g8 rfl) rfl rfl ?_
              refine LOps.sk rfl rfl rfl (gd g8 rfl) rfl rfl ?_
              refine LOps.sk rfl rfl rfl (gd g8 rfl) rfl rfl ?_
              refine LOps.st rfl rfl rfl (LOp.pickF rfl (gdl g8 rfl) rfl) ?_
              refine LOps.st rfl rfl rfl (LOp.move rfl rfl) ?_
              refine LOps.sk rfl rfl rfl rfl rfl rfl ?_
              refine LOps.sk rfl rfl rfl rfl rfl rfl ?_
              refine LOps.sk rfl rfl rfl rfl rfl rfl ?_
              refine LOps.st rfl rfl rfl (LOp.pickF rfl rfl rfl) ?_
              refine LOps.st rfl rfl rfl (LOp.assign rfl rfl) ?_
              refine LOps.nil ?_
              refine thn_n ?_
              refine LW.ret ?_
              obtain rfl := Option.some.inj hr
              refine finP_ret (.one (.tmp rfl)) ?_
              exact Conv.p
          · -- g7 is False
            have hr := ite_f g7 hr
            refine LOps.sk rfl rfl rfl (gd g7 rfl) rfl rfl ?_
            refine LOps.sk rfl rfl rfl (gd g7 rfl) rfl rfl ?_
            refine LOps.sk rfl rfl rfl (gd g7 rfl) rfl rfl ?_
            refine LOps.sk rfl rfl rfl (gd g7 rfl) rfl rfl ?_
            refine LOps.sk rfl rfl rfl (gd g7 rfl) rfl rfl ?_
            refine LOps.st rfl rfl rfl (LOp.pickF rfl (gdl g7 rfl) rfl) ?_
            refine LOps.st rfl rfl rfl (LOp.move rfl rfl) ?_
            refine LOps.sk rfl rfl rfl rfl rfl rfl ?_
            refine LOps.sk rfl rfl rfl rfl rfl rfl ?_
            refine LOps.sk rfl rfl rfl rfl rfl rfl ?_
            refine LOps.st rfl rfl rfl (LOp.pickF rfl rfl rfl) ?_
            refine LOps.st rfl rfl rfl (LOp.move rfl rfl) ?_
            refine LOps.sk rfl rfl rfl rfl rfl rfl ?_
            refine LOps.sk rfl rfl rfl rfl rfl rfl ?_
            refine LOps.sk rfl rfl rfl rfl rfl rfl ?_
            refine LOps.st rfl rfl rfl (LOp.pickF rfl rfl rfl) ?_
            refine LOps.st rfl rfl rfl (LOp.assign rfl rfl) ?_
            refine LOps.nil ?_
            refine thn_n ?_
            refine LW.ret ?_
            obtain rfl := Option.some.inj hr
            refine finP_ret (.one (.tmp rfl)) ?_
            exact Conv.p
        · -- g6 is False
          have hr := ite_f g6 hr
          refine LOps.sk rfl rfl rfl (gd g6 rfl) rfl rfl ?_
          refine LOps.sk rfl rfl rfl (gd g6 rfl) rfl rfl ?_
          refine LOps.sk rfl rfl rfl (gd g6 rfl) rfl rfl ?_
          refine LOps.st rfl rfl rfl (LOp.pickF rfl (gdl g6 rfl) rfl) ?_
          refine LOps.st rfl rfl rfl (LOp.move rfl rfl) ?_
          refine LOps.sk rfl rfl rfl rfl rfl rfl ?_
          refine LOps.sk rfl rfl rfl rfl rfl rfl ?_
          refine LOps.sk rfl rfl rfl rfl rfl rfl ?_
          refine LOps.sk rfl rfl rfl rfl rfl rfl ?_
          refine LOps.sk rfl rfl rfl rfl rfl rfl ?_
          refine LOps.st rfl rfl rfl (LOp.pickF rfl rfl rfl) ?_
          refine LOps.st rfl rfl rfl (LOp.move rfl rfl) ?_
          refine LOps.sk rfl rfl rfl rfl rfl rfl ?_
          refine LOps.sk rfl rfl rfl rfl rfl rfl ?_
          refine LOps.sk rfl rfl rfl rfl rfl rfl ?_
          refine LOps.st rfl rfl rfl (LOp.pickF rfl rfl rfl) ?_
          refine LOps.st rfl rfl rfl (LOp.move rfl rfl) ?_
          refine LOps.sk rfl rfl rfl rfl rfl rfl ?_
          refine LOps.sk rfl rfl rfl rfl rfl rfl ?_
          refine LOps.sk rfl rfl rfl rfl rfl rfl ?_
          refine LOps.st rfl rfl rfl (LOp.pickF rfl rfl rfl) ?_
          refine LOps.st rfl rfl rfl (LOp.assign rfl rfl) ?_
          refine LOps.nil ?_
          refine thn_n ?_
          refine LW.ret ?_
          obtain rfl := Option.some.inj hr
          refine finP_ret (.one (.tmp rfl)) ?_
          exact Conv.p
      · -- g5 is False
        have hr := ite_f g5 hr
        refine LOps.sk rfl rfl rfl (gd g5 rfl) rfl rfl ?_
        refine LOps.sk rfl rfl rfl (gd g5 rfl) rfl rfl ?_
        refine LOps.sk rfl rfl rfl (gd g5 rfl) rfl rfl ?_
        refine LOps.st rfl rfl rfl (LOp.pickF rfl (gdl g5 rfl) rfl) ?_
        refine LOps.st rfl rfl rfl (LOp.move rfl rfl) ?_
        refine LOps.sk rfl rfl rfl rfl rfl rfl ?_
        refine LOps.sk rfl rfl rfl rfl rfl rfl ?_
        refine LOps.sk rfl rfl rfl rfl rfl rfl ?_
        refine LOps.st rfl rfl rfl (LOp.pickF rfl rfl rfl) ?_
        refine LOps.st rfl rfl rfl (LOp.move rfl rfl) ?_
        refine LOps.sk rfl rfl rfl rfl rfl rfl ?_
        refine LOps.sk rfl rfl rfl rfl rfl rfl ?_
        refine LOps.sk rfl rfl rfl rfl rfl rfl ?_
        refine LOps.sk rfl rfl rfl rfl rfl rfl ?_
        refine LOps.sk rfl rfl rfl rfl rfl rfl ?_
        refine LOps.st rfl rfl rfl (LOp.pickF rfl rfl rfl) ?_
        refine LOps.st rfl rfl rfl (LOp.move rfl rfl) ?_
        refine LOps.sk rfl rfl rfl rfl rfl rfl ?_
        refine LOps.sk rfl rfl rfl rfl rfl rfl ?_
        refine LOps.sk rfl rfl rfl rfl rfl rfl ?_
        refine LOps.st rfl rfl rfl (LOp.pickF rfl rfl rfl) ?_
        refine LOps.st rfl rfl rfl (LOp.move rfl rfl) ?_
        refine LOps.sk rfl rfl rfl rfl rfl rfl ?_
        refine LOps.sk rfl rfl rfl rfl rfl rfl ?_
        refine LOps.sk rfl rfl rfl rfl rfl rfl ?_
        refine LOps.st rfl rfl rfl (LOp.pickF rfl rfl rfl) ?_
        refine LOps.st rfl rfl rfl (LOp.assign rfl rfl) ?_
        refine LOps.nil ?_
        refine thn_n ?_
        refine LW.ret ?_
        obtain rfl := Option.some.inj hr
        refine finP_ret (.one (.tmp rfl)) ?_
        exact Conv.p
structure F150_L1 where
  t8 : Int
structure F67_L1 where
  i : Int
def F67_s1 (c : Cf) (x1 : F67_L1) : Option (F67_L1 ⊕ (F67_L1 ⊕ Bool)) :=
  bif decide (x1.i < (c.W.length : Int)) then
    (ix c.W x1.i).bind fun y1 =>
    bif decide (y1 < 0) then
      some (.inr (.inr false))
    else
      (ix c.W x1.i).bind fun y2 =>
      bif decide (y2 > 1099511627776) then
        some (.inr (.inr false))
      else
        some (.inl (F67_L1.mk (IntKind.i64.wrap (x1.i + 1))))
  else
    some (.inr (.inl (F67_L1.mk x1.i)))
def F67 (c : Cf) : Option Bool :=
  (iter (F67_s1 c) big (F67_L1.mk 0)).bind fun b_v1 => Sum.elim (fun _ =>
    bif decide ((c.W.length : Int) ≥ 1) then
      bif decide ((c.W.length : Int) ≤ 12) then
        bif decide (c.Epoch ≥ 1) then
          bif decide (c.Epoch ≤ 8) then
            bif decide (c.Num ≥ 0) then
              bif decide (c.Num ≤ c.Den) then
                bif decide (c.Den ≥ 1) then
                  some (decide (c.Den ≤ 1000))
                else
                  some false
              else
                some false
            else
              some false
          else
            some false
        else
          some false
      else
        some false
    else
      some false) some b_v1
set_option maxRecDepth 100000 in
theorem c67 {c : Cf} {r_ : Bool} (hr : F67 c = some r_) : LPure Try.prog 67 [cfP c] [.bool r_] := by
  refine LPure.start Try.func67 rfl rfl rfl rfl ?_
  unfold F67 at hr
  refine LW.seq ?_
  refine LW.region ?_
  refine LOps.st rfl rfl rfl (LOp.box rfl rfl rfl rfl rfl) ?_
  refine LOps.st rfl rfl rfl (LOp.assign rfl rfl) ?_
  refine LOps.nil ?_
  refine thn_n ?_
  refine LW.seq ?_
  refine LW.region ?_
  refine LOps.st rfl rfl rfl (LOp.fieldAddr rfl rfl ft55_0) ?_
  refine LOps.st rfl rfl rfl (LOp.load rfl rfl rfl vt49 rfl rfl) ?_
  refine LOps.st rfl rfl rfl (LOp.lenM rfl rfl (by kernel_rfl)) ?_
  refine LOps.st rfl rfl rfl (LOp.assign rfl rfl) ?_
  refine LOps.nil ?_
  refine thn_n ?_
  refine LW.seq ?_
  refine LW.seq ?_
  refine LW.region ?_
  refine LOps.st rfl rfl rfl (LOp.assign rfl rfl) ?_
  refine LOps.nil ?_
  refine thn_n ?_
  obtain ⟨b_v1, hb_v1, ho_v1⟩ := bind_get hr
  clear hr
  refine LW.tailB (b := b_v1) (E := fun v1 => [(1, .ptr 0 0), (2, .p (.bool false)), (3, .p (.int .i64 (c.W.length : Int)))]) (O := fun v1 => [.box [.p (.slice 1 (c.W.map i64P)), .p (.int .u64 c.Seed), .p (.int .i64 c.Epoch), .p (.int .i64 c.Num), .p (.int .i64 c.Den)]]) ?_ (fun v1 e_v1 env_v1 H_v1 hw_v1 => ?_)
  · refine LW.block ?_
    refine LW.iterB (E := fun x1 : F67_L1 => [(1, .ptr 0 0), (2, .p (.bool false)), (3, .p (.int .i64 (c.W.length : Int))), (4, .p (.int .i64 x1.i))]) (O := fun x1 => [.box [.p (.slice 1 (c.W.map i64P)), .p (.int .u64 c.Seed), .p (.int .i64 c.Epoch), .p (.int .i64 c.Num), .p (.int .i64 c.Den)]]) hb_v1 (Weak.of 1 ⟨rfl, rfl, rfl, rfl, trivial⟩ rfl rfl rfl rfl) (fun x1 z_x1 hr hb_x1 => ?_)
    unfold F67_s1 at hr
    refine LW.seq ?_
    refine LW.seq ?_
    refine LW.region ?_
    refine LOps.st rfl rfl rfl (LOp.move rfl rfl) ?_
    refine LOps.st rfl rfl rfl (LOp.move rfl rfl) ?_
    refine LOps.st rfl rfl rfl (LOp.bin rfl rfl rfl rfl) ?_
    refine LOps.nil ?_
    refine thn_n ?_
    refine LW.cond rfl (fun (g1 : (decide (x1.i < (c.W.length : Int))) = true) => ?_) (fun (g1 : (decide (x1.i < (c.W.length : Int))) = false) => ?_)
    · -- g1 is True
      have hr := ite_t g1 hr
      refine LW.skip ?_
      refine thn_n ?_
      refine LW.seq ?_
      refine LW.block ?_
      refine LW.seq ?_
      refine LW.region ?_
      refine LOps.st rfl rfl rfl (LOp.fieldAddr rfl rfl ft55_0) ?_
      refine LOps.st rfl rfl rfl (LOp.load rfl rfl rfl vt49 rfl rfl) ?_
      refine LOps.st rfl rfl rfl (LOp.move rfl rfl) ?_
      obtain ⟨y1, h_y1, hr⟩ := bind_get hr
      refine LOps.st rfl rfl rfl (LOp.indexAddrX rfl rfl rfl st49 h_y1 rfl) ?_
      refine LOps.st rfl rfl rfl (LOp.loadC rfl rfl rfl vt3 rfl rfl) ?_
      refine LOps.st rfl rfl rfl (LOp.bin rfl rfl rfl rfl) ?_
      refine LOps.st rfl rfl rfl (LOp.move rfl rfl) ?_
      refine LOps.cases 19 rfl (fun (g2 : (decide (y1 < 0)) = true) => ?_) (fun (g2 : (decide (y1 < 0)) = false) => ?_)
      · -- g2 is True
        have hr := ite_t g2 hr
        refine LOps.sk rfl rfl rfl (gd g2 rfl) rfl rfl ?_
        refine LOps.sk rfl rfl rfl (gd g2 rfl) rfl rfl ?_
        refine LOps.sk rfl rfl rfl (gd g2 rfl) rfl rfl ?_
        refine LOps.sk rfl rfl rfl (gd g2 rfl) rfl rfl ?_
        refine LOps.sk rfl rfl rfl (gd g2 rfl) rfl rfl ?_
        refine LOps.sk rfl rfl rfl (gd g2 rfl) rfl rfl ?_
        refine LOps.st rfl rfl rfl (LOp.pickT rfl (gdl g2 rfl) rfl) ?_
        refine LOps.nil ?_
        refine thn_n ?_
        refine LW.condT rfl ?_
        refine LW.seq ?_
        refine LW.region ?_
        refine LOps.st rfl rfl rfl (LOp.assign rfl rfl) ?_
        refine LOps.nil ?_
        refine thn_n ?_
        refine LW.ret ?_
        refine inBlk_r ?_
        refine thn_r ?_
        refine thn_r ?_
        refine inBlk_r ?_
        refine thn_r ?_
        refine thn_r ?_
        obtain rfl := Option.some.inj hr
        have hr := congrArg some (hb_x1 _ rfl)
        obtain rfl := Option.some.inj hr
        have hr := sum_r ho_v1
        obtain rfl := Option.some.inj hr
        refine finP_ret (.one (.tmp rfl)) ?_
        exact Conv.p
      · -- g2 is False
        have hr := ite_f g2 hr
        refine LOps.gd rfl rfl rfl (gd g2 rfl) rfl (LOp.fieldAddr rfl rfl ft55_0) ?_
        refine LOps.gd rfl rfl rfl (gd g2 rfl) rfl (LOp.load rfl rfl rfl vt49 rfl rfl) ?_
        refine LOps.gd rfl rfl rfl (gd g2 rfl) rfl (LOp.move rfl rfl) ?_
        obtain ⟨y2, h_y2, hr⟩ := bind_get hr
        refine LOps.gd rfl rfl rfl (gd g2 rfl) rfl (LOp.indexAddrX rfl rfl rfl st49 h_y2 rfl) ?_
        refine LOps.gd rfl rfl rfl (gd g2 rfl) rfl (LOp.loadC rfl rfl rfl vt3 rfl rfl) ?_
        refine LOps.gd rfl rfl rfl (gd g2 rfl) rfl (LOp.bin rfl rfl rfl rfl) ?_
        refine LOps.st rfl rfl rfl (LOp.pickF rfl (gdl g2 rfl) rfl) ?_
        refine LOps.nil ?_
        refine thn_n ?_
        refine LW.cond rfl (fun (g3 : (decide (y2 > 1099511627776)) = true) => ?_) (fun (g3 : (decide (y2 > 1099511627776)) = false) => ?_)
        · -- g3 is True
          have hr := ite_t g3 hr
          refine LW.seq ?_
          refine LW.region ?_
          refine LOps.st rfl rfl rfl (LOp.assign rfl rfl) ?_
          refine LOps.nil ?_
          refine thn_n ?_
          refine LW.ret ?_
          refine inBlk_r ?_
          refine thn_r ?_
          refine thn_r ?_
          refine inBlk_r ?_
          refine thn_r ?_
          refine thn_r ?_
          obtain rfl := Option.some.inj hr
          have hr := congrArg some (hb_x1 _ rfl)
          obtain rfl := Option.some.inj hr
          have hr := sum_r ho_v1
          obtain rfl := Option.some.inj hr
          refine finP_ret (.one (.tmp rfl)) ?_
          exact Conv.p
        · -- g3 is False
          have hr := ite_f g3 hr
          refine LW.skip ?_
          refine inBlk_n ?_
          refine thn_n ?_
          refine LW.region ?_
          refine LOps.st rfl rfl rfl (LOp.move rfl rfl) ?_
          refine LOps.st rfl rfl rfl (LOp.bin rfl rfl rfl rfl) ?_
          refine LOps.st rfl rfl rfl (LOp.assign rfl rfl) ?_
          refine LOps.nil ?_
          refine thn_n ?_
          obtain rfl := Option.some.inj hr
          exact ⟨_, rfl, Weak.of 1 ⟨rfl, rfl, rfl, rfl, trivial⟩ rfl rfl rfl rfl⟩
    · -- g1 is False
      have hr := ite_f g1 hr
      refine LW.exit ?_
      refine thn_e ?_
      refine thn_e ?_
      refine inBlk_self ?_
      refine thn_n ?_
      obtain rfl := Option.some.inj hr
      have hr := congrArg some (hb_x1 _ rfl)
      obtain rfl := Option.some.inj hr
      exact ⟨_, rfl, Weak.of 1 ⟨rfl, rfl, rfl, trivial⟩ rfl rfl rfl rfl⟩
  · obtain rfl := e_v1
    have hr := sum_l ho_v1
    clear hb_v1
    refine thn_n ?_
    refine LW.weak hw_v1 ?_
    refine LW.seq ?_
    refine LW.region ?_
    refine LOps.st rfl rfl rfl (LOp.move rfl rfl) ?_
    refine LOps.st rfl rfl rfl (LOp.bin rfl rfl rfl rfl) ?_
    refine LOps.st rfl rfl rfl (LOp.move rfl rfl) ?_
    refine LOps.cases 29 rfl (fun (g4 : (decide ((c.W.length : Int) ≥ 1)) = true) => ?_) (fun (g4 : (decide ((c.W.length : Int) ≥ 1)) = false) => ?_)
    · -- g4 is True
      have hr := ite_t g4 hr
      refine LOps.gd rfl rfl rfl (gd g4 rfl) rfl (LOp.move rfl rfl) ?_
      refine LOps.gd rfl rfl rfl (gd g4 rfl) rfl (LOp.bin rfl rfl rfl rfl) ?_
      refine LOps.st rfl rfl rfl (LOp.pickT rfl (gdl g4 rfl) rfl) ?_
      refine LOps.st rfl rfl rfl (LOp.move rfl rfl) ?_
      refine LOps.cases 33 rfl (fun (g5 : (decide ((c.W.length : Int) ≤ 12)) = true) => ?_) (fun (g5 : (decide ((c.W.length : Int) ≤ 12)) = false) => ?_)
      · -- g5 is True
        have hr := ite_t g5 hr
        refine LOps.gd rfl rfl rfl (gd g5 rfl) rfl (LOp.fieldAddr rfl rfl ft55_2) ?_
        refine LOps.gd rfl rfl rfl (gd g5 rfl) rfl (LOp.load rfl rfl rfl vt3 rfl rfl) ?_
        refine LOps.gd rfl rfl rfl (gd g5 rfl) rfl (LOp.bin rfl rfl rfl rfl) ?_
        refine LOps.st rfl rfl rfl (LOp.pickT rfl (gdl g5 rfl) rfl) ?_
        refine LOps.st rfl rfl rfl (LOp.move rfl rfl) ?_
        refine LOps.cases 38 rfl (fun (g6 : (decide (c.Epoch ≥ 1)) = true) => ?_) (fun (g6 : (decide (c.Epoch ≥ 1)) = false) => ?_)
        · -- g6 is True
          have hr := ite_t g6 hr
          refine LOps.gd rfl rfl rfl (gd g6 rfl) rfl (LOp.fieldAddr rfl rfl ft55_2) ?_
          refine LOps.gd rfl rfl rfl (gd g6 rfl) rfl (LOp.load rfl rfl rfl vt3 rfl rfl) ?_
          refine LOps.gd rfl rfl rfl (gd g6 rfl) rfl (LOp.bin rfl rfl rfl rfl) ?_
          refine LOps.st rfl rfl rfl (LOp.pickT rfl (gdl g6 rfl) rfl) ?_
          refine LOps.st rfl rfl rfl (LOp.move rfl rfl) ?_
          refine LOps.cases 43 rfl (fun (g7 : (decide (c.Epoch ≤ 8)) = true) => ?_) (fun (g7 : (decide (c.Epoch ≤ 8)) = false) => ?_)
          · -- g7 is True
            have hr := ite_t g7 hr
            refine LOps.gd rfl rfl rfl (gd g7 rfl) rfl (LOp.fieldAddr rfl rfl ft55_3) ?_
            refine LOps.gd rfl rfl rfl (gd g7 rfl) rfl (LOp.load rfl rfl rfl vt3 rfl rfl) ?_
            refine LOps.gd rfl rfl rfl (gd g7 rfl) rfl (LOp.bin rfl rfl rfl rfl) ?_
            refine LOps.st rfl rfl rfl (LOp.pickT rfl (gdl g7 rfl) rfl) ?_
            refine LOps.st rfl rfl rfl (LOp.move rfl rfl) ?_
            refine LOps.cases 48 rfl (fun (g8 : (decide (c.Num ≥ 0)) = true) => ?_) (fun (g8 : (decide (c.Num ≥ 0)) = false) => ?_)
            · -- g8 is True
              have hr := ite_t g8 hr
              refine LOps.gd rfl rfl rfl (gd g8 rfl) rfl (LOp.fieldAddr rfl rfl ft55_3) ?_
              refine LOps.gd rfl rfl rfl (gd g8 rfl) rfl (LOp.load rfl rfl rfl vt3 rfl rfl) ?_
              refine LOps.gd rfl rfl rfl (gd g8 rfl) rfl (LOp.fieldAddr rfl rfl ft55_4) ?_
              refine LOps.gd rfl rfl rfl (gd g8 rfl) rfl (LOp.load rfl rfl rfl vt3 rfl rfl) ?_
              refine LOps.gd rfl rfl rfl (gd g8 rfl) rfl (LOp.bin rfl rfl rfl rfl) ?_
              refine LOps.st rfl rfl rfl (LOp.pickT rfl (gdl g8 rfl) rfl) ?_
              refine LOps.st rfl rfl rfl (LOp.move rfl rfl) ?_
              refine LOps.cases 55 rfl (fun (g9 : (decide (c.Num ≤ c.Den)) = true) => ?_) (fun (g9 : (decide (c.Num ≤ c.Den)) = false) => ?_)
              · -- g9 is True
                have hr := ite_t g9 hr
                refine LOps.gd rfl rfl rfl (gd g9 rfl) rfl (LOp.fieldAddr rfl rfl ft55_4) ?_
                refine LOps.gd rfl rfl rfl (gd g9 rfl) rfl (LOp.load rfl rfl rfl vt3 rfl rfl) ?_
                refine LOps.gd rfl rfl rfl (gd g9 rfl) rfl (LOp.bin rfl rfl rfl rfl) ?_
                refine LOps.st rfl rfl rfl (LOp.pickT rfl (gdl g9 rfl) rfl) ?_
                refine LOps.st rfl rfl rfl (LOp.move rfl rfl) ?_
                refine LOps.cases 60 rfl (fun (g10 : (decide (c.Den ≥ 1)) = true) => ?_) (fun (g10 : (decide (c.Den ≥ 1)) = false) => ?_)
                · -- g10 is True
                  have hr := ite_t g10 hr
                  refine LOps.gd rfl rfl rfl (gd g10 rfl) rfl (LOp.fieldAddr rfl rfl ft55_4) ?_
                  refine LOps.gd rfl rfl rfl (gd g10 rfl) rfl (LOp.load rfl rfl rfl vt3 rfl rfl) ?_
                  refine LOps.gd rfl rfl rfl (gd g10 rfl) rfl (LOp.bin rfl rfl rfl rfl) ?_
                  refine LOps.st rfl rfl rfl (LOp.pickT rfl (gdl g10 rfl) rfl) ?_
                  refine LOps.st rfl rfl rfl (LOp.assign rfl rfl) ?_
                  refine LOps.nil ?_
                  refine thn_n ?_
                  refine LW.ret ?_
                  obtain rfl := Option.some.inj hr
                  refine finP_ret (.one (.tmp rfl)) ?_
                  exact Conv.p
                · -- g10 is False
                  have hr := ite_f g10 hr
                  refine LOps.sk rfl rfl rfl (gd g10 rfl) rfl rfl ?_
                  refine LOps.sk rfl rfl rfl (gd g10 rfl) rfl rfl ?_
                  refine LOps.sk rfl rfl rfl (gd g10 rfl) rfl rfl ?_
                  refine LOps.st rfl rfl rfl (LOp.pickF rfl (gdl g10 rfl) rfl) ?_
                  refine LOps.st rfl rfl rfl (LOp.assign rfl rfl) ?_
                  refine LOps.nil ?_
                  refine thn_n ?_
                  refine LW.ret ?_
                  obtain rfl := Option.some.inj hr
                  refine finP_ret (.one (.tmp rfl)) ?_
                  exact Conv.p
              · -- g9 is False
                have hr := ite_f g9 hr
                refine LOps.sk rfl rfl rfl (gd g9 rfl) rfl rfl ?_
                refine LOps.sk rfl rfl rfl (gd g9 rfl) rfl rfl ?_
                refine LOps.sk rfl rfl rfl (gd g9 rfl) rfl rfl ?_
                refine LOps.st rfl rfl rfl (LOp.pickF rfl (gdl g9 rfl) rfl) ?_
                refine LOps.st rfl rfl rfl (LOp.move rfl rfl) ?_
                refine LOps.sk rfl rfl rfl rfl rfl rfl ?_
                refine LOps.sk rfl rfl rfl rfl rfl rfl ?_
                refine LOps.sk rfl rfl rfl rfl rfl rfl ?_
                refine LOps.st rfl rfl rfl (LOp.pickF rfl rfl rfl) ?_
                refine LOps.st rfl rfl rfl (LOp.assign rfl rfl) ?_
                refine LOps.nil ?_
                refine thn_n ?_
                refine LW.ret ?_
                obtain rfl := Option.some.inj hr
                refine finP_ret (.one (.tmp rfl)) ?_
                exact Conv.p
            · -- g8 is False
              have hr := ite_f g8 hr
              refine LOps.sk rfl rfl rfl (gd g8 rfl) rfl rfl ?_
              refine LOps.sk rfl rfl rfl (gd g8 rfl) rfl rfl ?_
              refine LOps.sk rfl rfl rfl (gd g8 rfl) rfl rfl ?_
              refine LOps.sk rfl rfl rfl (gd g8 rfl) rfl rfl ?_
              refine LOps.sk rfl rfl rfl (gd g8 rfl) rfl rfl ?_
              refine LOps.st rfl rfl rfl (LOp.pickF rfl (gdl g8 rfl) rfl) ?_
              refine LOps.st rfl rfl rfl (LOp.move rfl rfl) ?_
              refine LOps.sk rfl rfl rfl rfl rfl rfl ?_
              refine LOps.sk rfl rfl rfl rfl rfl rfl ?_
              refine LOps.sk rfl rfl rfl rfl rfl rfl ?_
              refine LOps.st rfl rfl rfl (LOp.pickF rfl rfl rfl) ?_
              refine LOps.st rfl rfl rfl (LOp.move rfl rfl) ?_
              refine LOps.sk rfl rfl rfl rfl rfl rfl ?_
              refine LOps.sk rfl rfl rfl rfl rfl rfl ?_
              refine LOps.sk rfl rfl rfl rfl rfl rfl ?_
              refine LOps.st rfl rfl rfl (LOp.pickF rfl rfl rfl) ?_
              refine LOps.st rfl rfl rfl (LOp.assign rfl rfl) ?_
              refine LOps.nil ?_
              refine thn_n ?_
              refine LW.ret ?_
              obtain rfl := Option.some.inj hr
              refine finP_ret (.one (.tmp rfl)) ?_
              exact Conv.p
          · -- g7 is False
            have hr := ite_f g7 hr
            refine LOps.sk rfl rfl rfl (gd g7 rfl) rfl rfl ?_
            refine LOps.sk rfl rfl rfl (gd g7 rfl) rfl rfl ?_
            refine LOps.sk rfl rfl rfl (gd g7 rfl) rfl rfl ?_
            refine LOps.st rfl rfl rfl (LOp.pickF rfl (gdl g7 rfl) rfl) ?_
            refine LOps.st rfl rfl rfl (LOp.move rfl rfl) ?_
            refine LOps.sk rfl rfl rfl rfl rfl rfl ?_
            refine LOps.sk rfl rfl rfl rfl rfl rfl ?_
            refine LOps.sk rfl rfl rfl rfl rfl rfl ?_
            refine LOps.sk rfl rfl rfl rfl rfl rfl ?_
            refine LOps.sk rfl rfl rfl rfl rfl rfl ?_
            refine LOps.st rfl rfl rfl (LOp.pickF rfl rfl rfl) ?_
            refine LOps.st rfl rfl rfl (LOp.move rfl rfl) ?_
            refine LOps.sk rfl rfl rfl rfl rfl rfl ?_
            refine LOps.sk rfl rfl rfl rfl rfl rfl ?_
            refine LOps.sk rfl rfl rfl rfl rfl rfl ?_
            refine LOps.st rfl rfl rfl (LOp.pickF rfl rfl rfl) ?_
            refine LOps.st rfl rfl rfl (LOp.move rfl rfl) ?_
            refine LOps.sk rfl rfl rfl rfl rfl rfl ?_
            refine LOps.sk rfl rfl rfl rfl rfl rfl ?_
            refine LOps.sk rfl rfl rfl rfl rfl rfl ?_
            refine LOps.st rfl rfl rfl (LOp.pickF rfl rfl rfl) ?_
            refine LOps.st rfl rfl rfl (LOp.assign rfl rfl) ?_
            refine LOps.nil ?_
            refine thn_n ?_
            refine LW.ret ?_
            obtain rfl := Option.some.inj hr
            refine finP_ret (.one (.tmp rfl)) ?_
            exact Conv.p
        · -- g6 is False
          have hr := ite_f g6 hr
          refine LOps.sk rfl rfl rfl (gd g6 rfl) rfl rfl ?_
          refine LOps.sk rfl rfl rfl (gd g6 rfl) rfl rfl ?_
          refine LOps.sk rfl rfl rfl (gd g6 rfl) rfl rfl ?_
          refine LOps.st rfl rfl rfl (LOp.pickF rfl (gdl g6 rfl) rfl) ?_
          refine LOps.st rfl rfl rfl (LOp.move rfl rfl) ?_
          refine LOps.sk rfl rfl rfl rfl rfl rfl ?_
          refine LOps.sk rfl rfl rfl rfl rfl rfl ?_
          refine LOps.sk rfl rfl rfl rfl rfl rfl ?_
          refine LOps.st rfl rfl rfl (LOp.pickF rfl rfl rfl) ?_
          refine LOps.st rfl rfl rfl (LOp.move rfl rfl) ?_
          refine LOps.sk rfl rfl rfl rfl rfl rfl ?_
          refine LOps.sk rfl rfl rfl rfl rfl rfl ?_
          refine LOps.sk rfl rfl rfl rfl rfl rfl ?_
          refine LOps.sk rfl rfl rfl rfl rfl rfl ?_
          refine LOps.sk rfl rfl rfl rfl rfl rfl ?_
          refine LOps.st rfl rfl rfl (LOp.pickF rfl rfl rfl) ?_
          refine LOps.st rfl rfl rfl (LOp.move rfl rfl) ?_
          refine LOps.sk rfl rfl rfl rfl rfl rfl ?_
          refine LOps.sk rfl rfl rfl rfl rfl rfl ?_
          refine LOps.sk rfl rfl rfl rfl rfl rfl ?_
          refine LOps.st rfl rfl rfl (LOp.pickF rfl rfl rfl) ?_
          refine LOps.st rfl rfl rfl (LOp.move rfl rfl) ?_
          refine LOps.sk rfl rfl rfl rfl rfl rfl ?_
          refine LOps.sk rfl rfl rfl rfl rfl rfl ?_
          refine LOps.sk rfl rfl rfl rfl rfl rfl ?_
          refine LOps.st rfl rfl rfl (LOp.pickF rfl rfl rfl) ?_
          refine LOps.st rfl rfl rfl (LOp.assign rfl rfl) ?_
          refine LOps.nil ?_
          refine thn_n ?_
          refine LW.ret ?_
          obtain rfl := Option.some.inj hr
          refine finP_ret (.one (.tmp rfl)) ?_
          exact Conv.p
      · -- g5 is False
        have hr := ite_f g5 hr
        refine LOps.sk rfl rfl rfl (gd g5 rfl) rfl rfl ?_
        refine LOps.sk rfl rfl rfl (gd g5 rfl) rfl rfl ?_
        refine LOps.sk rfl rfl rfl (gd g5 rfl) rfl rfl ?_
        refine LOps.st rfl rfl rfl (LOp.pickF rfl (gdl g5 rfl) rfl) ?_
        refine LOps.st rfl rfl rfl (LOp.move rfl rfl) ?_
        refine LOps.sk rfl rfl rfl rfl rfl rfl ?_
        refine LOps.sk rfl rfl rfl rfl rfl rfl ?_
        refine LOps.sk rfl rfl rfl rfl rfl rfl ?_
        refine LOps.st rfl rfl rfl (LOp.pickF rfl rfl rfl) ?_
        refine LOps.st rfl rfl rfl (LOp.move rfl rfl) ?_
        refine LOps.sk rfl rfl rfl rfl rfl rfl ?_
        refine LOps.sk rfl rfl rfl rfl rfl rfl ?_
        refine LOps.sk rfl rfl rfl rfl rfl rfl ?_
        refine LOps.st rfl rfl rfl (LOp.pickF rfl rfl rfl) ?_
        refine LOps.st rfl rfl rfl (LOp.move rfl rfl) ?_
        refine LOps.sk rfl rfl rfl rfl rfl rfl ?_
        refine LOps.sk rfl rfl rfl rfl rfl rfl ?_
        refine LOps.sk rfl rfl rfl rfl rfl rfl ?_
        refine LOps.sk rfl rfl rfl rfl rfl rfl ?_
        refine LOps.sk rfl rfl rfl rfl rfl rfl ?_
        refine LOps.st rfl rfl rfl (LOp.pickF rfl rfl rfl) ?_
        refine LOps.st rfl rfl rfl (LOp.move rfl rfl) ?_
        refine LOps.sk rfl rfl rfl rfl rfl rfl ?_
        refine LOps.sk rfl rfl rfl rfl rfl rfl ?_
        refine LOps.sk rfl rfl rfl rfl rfl rfl ?_
        refine LOps.st rfl rfl rfl (LOp.pickF rfl rfl rfl) ?_
        refine LOps.st rfl rfl rfl (LOp.move rfl rfl) ?_
        refine LOps.sk rfl rfl rfl rfl rfl rfl ?_
        refine LOps.sk rfl rfl rfl rfl rfl rfl ?_
        refine LOps.sk rfl rfl rfl rfl rfl rfl ?_
        refine LOps.st rfl rfl rfl (LOp.pickF rfl rfl rfl) ?_
        refine LOps.st rfl rfl rfl (LOp.assign rfl rfl) ?_
        refine LOps.nil ?_
        refine thn_n ?_
        refine LW.ret ?_
        obtain rfl := Option.some.inj hr
        refine finP_ret (.one (.tmp rfl)) ?_
        exact Conv.p
    · -- g4 is False
      have hr := ite_f g4 hr
      refine LOps.sk rfl rfl rfl (gd g4 rfl) rfl rfl ?_
      refine LOps.sk rfl rfl rfl (gd g4 rfl) rfl rfl ?_
      refine LOps.st rfl rfl rfl (LOp.pickF rfl (gdl g4 rfl) rfl) ?_
      refine LOps.st rfl rfl rfl (LOp.move rfl rfl) ?_
      refine LOps.sk rfl rfl rfl rfl rfl rfl ?_
      refine LOps.sk rfl rfl rfl rfl rfl rfl ?_
      refine LOps.sk rfl rfl rfl rfl rfl rfl ?_
      refine LOps.st rfl rfl rfl (LOp.pickF rfl rfl rfl) ?_
      refine LOps.st rfl rfl rfl (LOp.move rfl rfl) ?_
      refine LOps.sk rfl rfl rfl rfl rfl rfl ?_
      refine LOps.sk rfl rfl rfl rfl rfl rfl ?_
      refine LOps.sk rfl rfl rfl rfl rfl rfl ?_
      refine LOps.st rfl rfl rfl (LOp.pickF rfl rfl rfl) ?_
      refine LOps.st rfl rfl rfl (LOp.move rfl rfl) ?_
      refine LOps.sk rfl rfl rfl rfl rfl rfl ?_
      refine LOps.sk rfl rfl rfl rfl rfl rfl ?_
      refine LOps.sk rfl rfl rfl rfl rfl rfl ?_
      refine LOps.st rfl rfl rfl (LOp.pickF rfl rfl rfl) ?_
      refine LOps.st rfl rfl rfl (LOp.move rfl rfl) ?_
      refine LOps.sk rfl rfl rfl rfl rfl rfl ?_
      refine LOps.sk rfl rfl rfl rfl rfl rfl ?_
      refine LOps.sk rfl rfl rfl rfl rfl rfl ?_
      refine LOps.sk rfl rfl rfl rfl rfl rfl ?_
      refine LOps.sk rfl rfl rfl rfl rfl rfl ?_
      refine LOps.st rfl rfl rfl (LOp.pickF rfl rfl rfl) ?_
      refine LOps.st rfl rfl rfl (LOp.move rfl rfl) ?_
      refine LOps.sk rfl rfl rfl rfl rfl rfl ?_
      refine LOps.sk rfl rfl rfl rfl rfl rfl ?_
      refine LOps.sk rfl rfl rfl rfl rfl rfl ?_
      refine LOps.st rfl rfl rfl (LOp.pickF rfl rfl rfl) ?_
      refine LOps.st rfl rfl rfl (LOp.move rfl rfl) ?_
      refine LOps.sk rfl rfl rfl rfl rfl rfl ?_
      refine LOps.sk rfl rfl rfl rfl rfl rfl ?_
      refine LOps.sk rfl rfl rfl rfl rfl rfl ?_
      refine LOps.st rfl rfl rfl (LOp.pickF rfl rfl rfl) ?_
      refine LOps.st rfl rfl rfl (LOp.assign rfl rfl) ?_
      refine LOps.nil ?_
      refine thn_n ?_
      refine LW.ret ?_
      obtain rfl := Option.some.inj hr
      refine finP_ret (.one (.tmp rfl)) ?_
      exact Conv.p
structure F76_L1 where
  i : Int
def F76_s1 (l : List Int) (n : Int) (x1 : F76_L1) : Option (F76_L1 ⊕ (F76_L1 ⊕ Bool)) :=
  bif decide (x1.i < (l.length : Int)) then
    (ix l x1.i).bind fun y1 =>
    bif y1 == n then
      some (.inr (.inr true))
    else
      some (.inl (F76_L1.mk (IntKind.i64.wrap (x1.i + 1))))
  else
    some (.inr (.inl (F76_L1.mk x1.i)))
def F76 (l : List Int) (n : Int) : Option Bool :=
  (iter (F76_s1 l n) big (F76_L1.mk 0)).bind fun b_v1 => Sum.elim (fun _ =>
    some false) some b_v1
set_option maxRecDepth 100000 in
theorem c76 {l : List Int} {n : Int} {r_ : Bool} (hr : F76 l n = some r_) : LPure Try.prog 76 [.slice 1 (l.map i64P), .int .i64 n] [.bool r_] := by
  refine LPure.start Try.func76 rfl rfl rfl rfl ?_
  unfold F76 at hr
  refine LW.seq ?_
  refine LW.region ?_
  refine LOps.st rfl rfl rfl (LOp.assign rfl rfl) ?_
  refine LOps.nil ?_
  refine thn_n ?_
  refine LW.seq ?_
  refine LW.seq ?_
  refine LW.region ?_
  refine LOps.st rfl rfl rfl (LOp.assign rfl rfl) ?_
  refine LOps.nil ?_
  refine thn_n ?_
  obtain ⟨b_v1, hb_v1, ho_v1⟩ := bind_get hr
  clear hr
  refine LW.tailB (b := b_v1) (E := fun v1 => [(4, .p (.bool false))]) (O := fun v1 => []) ?_ (fun v1 e_v1 env_v1 H_v1 hw_v1 => ?_)
  · refine LW.block ?_
    refine LW.iterB (E := fun x1 : F76_L1 => [(0, .p (.slice 1 (l.map i64P))), (1, .p (.int .i64 n)), (4, .p (.bool false)), (5, .p (.int .i64 x1.i))]) (O := fun x1 => []) hb_v1 (Weak.of 0 ⟨rfl, rfl, rfl, rfl, trivial⟩ rfl rfl rfl rfl) (fun x1 z_x1 hr hb_x1 => ?_)
    unfold F76_s1 at hr
    refine LW.seq ?_
    refine LW.seq ?_
    refine LW.region ?_
    refine LOps.st rfl rfl rfl (LOp.move rfl rfl) ?_
    refine LOps.st rfl rfl rfl (LOp.move rfl rfl) ?_
    refine LOps.st rfl rfl rfl (LOp.lenM rfl rfl (by kernel_rfl)) ?_
    refine LOps.st rfl rfl rfl (LOp.bin rfl rfl rfl rfl) ?_
    refine LOps.nil ?_
    refine thn_n ?_
    refine LW.cond rfl (fun (g1 : (decide (x1.i < (l.length : Int))) = true) => ?_) (fun (g1 : (decide (x1.i < (l.length : Int))) = false) => ?_)
    · -- g1 is True
      have hr := ite_t g1 hr
      refine LW.skip ?_
      refine thn_n ?_
      refine LW.seq ?_
      refine LW.block ?_
      refine LW.seq ?_
      refine LW.region ?_
      refine LOps.st rfl rfl rfl (LOp.move rfl rfl) ?_
      refine LOps.st rfl rfl rfl (LOp.move rfl rfl) ?_
      obtain ⟨y1, h_y1, hr⟩ := bind_get hr
      refine LOps.st rfl rfl rfl (LOp.indexAddrX rfl rfl rfl st49 h_y1 rfl) ?_
      refine LOps.st rfl rfl rfl (LOp.loadC rfl rfl rfl vt3 rfl rfl) ?_
      refine LOps.st rfl rfl rfl (LOp.move rfl rfl) ?_
      refine LOps.st rfl rfl rfl (LOp.bin rfl rfl rfl rfl) ?_
      refine LOps.nil ?_
      refine thn_n ?_
      refine LW.cond rfl (fun (g2 : (y1 == n) = true) => ?_) (fun (g2 : (y1 == n) = false) => ?_)
      · -- g2 is True
        have hr := ite_t g2 hr
        refine LW.seq ?_
        refine LW.region ?_
        refine LOps.st rfl rfl rfl (LOp.assign rfl rfl) ?_
        refine LOps.nil ?_
        refine thn_n ?_
        refine LW.ret ?_
        refine inBlk_r ?_
        refine thn_r ?_
        refine thn_r ?_
        refine inBlk_r ?_
        refine thn_r ?_
        refine thn_r ?_
        obtain rfl := Option.some.inj hr
        have hr := congrArg some (hb_x1 _ rfl)
        obtain rfl := Option.some.inj hr
        have hr := sum_r ho_v1
        obtain rfl := Option.some.inj hr
        refine finP_ret (.one (.tmp rfl)) ?_
        exact Conv.p
      · -- g2 is False
        have hr := ite_f g2 hr
        refine LW.skip ?_
        refine inBlk_n ?_
        refine thn_n ?_
        refine LW.region ?_
        refine LOps.st rfl rfl rfl (LOp.move rfl rfl) ?_
        refine LOps.st rfl rfl rfl (LOp.bin rfl rfl rfl rfl) ?_
        refine LOps.st rfl rfl rfl (LOp.assign rfl rfl) ?_
        refine LOps.nil ?_
        refine thn_n ?_
        obtain rfl := Option.some.inj hr
        exact ⟨_, rfl, Weak.of 0 ⟨rfl, rfl, rfl, rfl, trivial⟩ rfl rfl rfl rfl⟩
    · -- g1 is False
      have hr := ite_f g1 hr
      refine LW.exit ?_
      refine thn_e ?_
      refine thn_e ?_
      refine inBlk_self ?_
      refine thn_n ?_
      obtain rfl := Option.some.inj hr
      have hr := congrArg some (hb_x1 _ rfl)
      obtain rfl := Option.some.inj hr
      exact ⟨_, rfl, Weak.of 0 ⟨rfl, trivial⟩ rfl rfl rfl rfl⟩
  · obtain rfl := e_v1
    have hr := sum_l ho_v1
    clear hb_v1
    refine thn_n ?_
    refine LW.weak hw_v1 ?_
    refine LW.seq ?_
    refine LW.region ?_
    refine LOps.st rfl rfl rfl (LOp.assign rfl rfl) ?_
    refine LOps.nil ?_
    refine thn_n ?_
    refine LW.ret ?_
    obtain rfl := Option.some.inj hr
    refine finP_ret (.one (.tmp rfl)) ?_
    exact Conv.p
structure F71_L1 where
  n : Int
  i : Int
def F71_s1 (c : Cf) (l : List Int) (v1 : Bool) (x1 : F71_L1) : Option (F71_L1 ⊕ F71_L1) :=
  (
    bif decide (x1.i < (c.W.length : Int)) then
      some v1
    else
      some false
  ).bind fun v3 =>
  bif v3 then
    (F76 l x1.i).bind fun v4 =>
    bif v4 then
      (ix c.W x1.i).bind fun y1 =>
      some (.inl (F71_L1.mk (IntKind.i64.wrap (x1.n + y1)) (IntKind.i64.wrap (x1.i + 1))))
    else
      some (.inl (F71_L1.mk x1.n (IntKind.i64.wrap (x1.i + 1))))
  else
    some (.inr (F71_L1.mk x1.n x1.i))
def F71 (c : Cf) (l : List Int) : Option Int :=
  (F67 c).bind fun v1 =>
  (iter (F71_s1 c l v1) big (F71_L1.mk 0 0)).bind fun v2 =>
  some v2.n
set_option maxRecDepth 100000 in
theorem c71 {c : Cf} {l : List Int} {r_ : Int} (hr : F71 c l = some r_) : LPure Try.prog 71 [cfP c, .slice 1 (l.map i64P)] [.int .i64 r_] := by
  refine LPure.start Try.func71 rfl rfl rfl rfl ?_
  unfold F71 at hr
  refine LW.seq ?_
  refine LW.region ?_
  refine LOps.st rfl rfl rfl (LOp.box rfl rfl rfl rfl rfl) ?_
  refine LOps.st rfl rfl rfl (LOp.assign rfl rfl) ?_
  refine LOps.nil ?_
  refine thn_n ?_
  refine LW.seq ?_
  refine LW.region ?_
  refine LOps.st rfl rfl rfl (LOp.assign rfl rfl) ?_
  refine LOps.nil ?_
  refine thn_n ?_
  refine LW.seq ?_
  refine LW.region ?_
  refine LOps.st rfl rfl rfl (LOp.load rfl rfl rfl vt55 rfl rfl) ?_
  obtain ⟨v1, h_v1, hr⟩ := bind_get hr
  refine LOps.st rfl rfl rfl (LOp.call rfl rfl rfl (by kernel_rfl) (LC.pure (c67 h_v1) (.cons Conv.p .nil))) ?_
  refine LOps.st rfl rfl rfl (LOp.assign rfl rfl) ?_
  refine LOps.nil ?_
  refine thn_n ?_
  refine LW.seq ?_
  refine LW.seq ?_
  refine LW.region ?_
  refine LOps.st rfl rfl rfl (LOp.assign rfl rfl) ?_
  refine LOps.nil ?_
  refine thn_n ?_
  obtain ⟨v2, hb_v2, ho_v2⟩ := bind_get hr
  clear hr
  refine LW.tail (E := [(4, .p (.int .i64 0)), (5, .p (.int .i64 v2.n))]) (O := [.box [.p (.slice 1 (c.W.map i64P)), .p (.int .u64 c.Seed), .p (.int .i64 c.Epoch), .p (.int .i64 c.Num), .p (.int .i64 c.Den)]]) ?_ (fun env_v2 H_v2 hw_v2 => ?_)
  · refine LW.block ?_
    refine LW.iterB (E := fun x1 : F71_L1 => [(1, .p (.slice 1 (l.map i64P))), (2, .ptr 0 0), (4, .p (.int .i64 0)), (5, .p (.int .i64 x1.n)), (6, .p (.bool v1)), (7, .p (.int .i64 x1.i))]) (O := fun x1 => [.box [.p (.slice 1 (c.W.map i64P)), .p (.int .u64 c.Seed), .p (.int .i64 c.Epoch), .p (.int .i64 c.Num), .p (.int .i64 c.Den)]]) hb_v2 (Weak.of 1 ⟨rfl, rfl, rfl, rfl, rfl, rfl, trivial⟩ rfl rfl rfl rfl) (fun x1 z_x1 hr hb_x1 => ?_)
    unfold F71_s1 at hr
    refine LW.seq ?_
    obtain ⟨v3, hb_v3, ho_v3⟩ := bind_get hr
    clear hr
    refine LW.cut (E := [(1, .p (.slice 1 (l.map i64P))), (2, .ptr 0 0), (4, .p (.int .i64 0)), (5, .p (.int .i64 x1.n)), (6, .p (.bool v1)), (7, .p (.int .i64 x1.i)), (18, .p (.bool v3))]) (O := [.box [.p (.slice 1 (c.W.map i64P)), .p (.int .u64 c.Seed), .p (.int .i64 c.Epoch), .p (.int .i64 c.Num), .p (.int .i64 c.Den)]]) ?_ ?_
    · have hr := hb_v3
      refine LW.region ?_
      refine LOps.st rfl rfl rfl (LOp.move rfl rfl) ?_
      refine LOps.st rfl rfl rfl (LOp.fieldAddr rfl rfl ft55_0) ?_
      refine LOps.st rfl rfl rfl (LOp.load rfl rfl rfl vt49 rfl rfl) ?_
      refine LOps.st rfl rfl rfl (LOp.lenM rfl rfl (by kernel_rfl)) ?_
      refine LOps.st rfl rfl rfl (LOp.bin rfl rfl rfl rfl) ?_
      refine LOps.st rfl rfl rfl (LOp.move rfl rfl) ?_
      refine LOps.cases 16 rfl (fun (g1 : (decide (x1.i < (c.W.length : Int))) = true) => ?_) (fun (g1 : (decide (x1.i < (c.W.length : Int))) = false) => ?_)
      · -- g1 is True
        have hr := ite_t g1 hr
        refine LOps.gd rfl rfl rfl (gd g1 rfl) rfl (LOp.move rfl rfl) ?_
        refine LOps.st rfl rfl rfl (LOp.pickT rfl (gdl g1 rfl) rfl) ?_
        refine LOps.nil ?_
        refine thn_n ?_
        obtain rfl := Option.some.inj hr
        exact Weak.of 1 ⟨rfl, rfl, rfl, rfl, rfl, rfl, rfl, trivial⟩ rfl rfl rfl rfl
      · -- g1 is False
        have hr := ite_f g1 hr
        refine LOps.sk rfl rfl rfl (gd g1 rfl) rfl rfl ?_
        refine LOps.st rfl rfl rfl (LOp.pickF rfl (gdl g1 rfl) rfl) ?_
        refine LOps.nil ?_
        refine thn_n ?_
        obtain rfl := Option.some.inj hr
        exact Weak.of 1 ⟨rfl, rfl, rfl, rfl, rfl, rfl, rfl, trivial⟩ rfl rfl rfl rfl
    · have hr := ho_v3
      clear hb_v3
      refine LW.cond rfl (fun (g2 : v3 = true) => ?_) (fun (g2 : v3 = false) => ?_)
      · -- g2 is True
        have hr := ite_t g2 hr
        refine LW.skip ?_
        refine thn_n ?_
        refine LW.seq ?_
        refine LW.block ?_
        refine LW.seq ?_
        refine LW.region ?_
        refine LOps.st rfl rfl rfl (LOp.move rfl rfl) ?_
        refine LOps.st rfl rfl rfl (LOp.move rfl rfl) ?_
        obtain ⟨v4, h_v4, hr⟩ := bind_get hr
        refine LOps.st rfl rfl rfl (LOp.call rfl rfl rfl (by kernel_rfl) (LC.pure (c76 h_v4) (.cons Conv.p (.cons Conv.p .nil)))) ?_
        refine LOps.st rfl rfl rfl (LOp.assign rfl rfl) ?_
        refine LOps.nil ?_
        refine thn_n ?_
        refine LW.seq ?_
        refine LW.region ?_
        refine LOps.st rfl rfl rfl (LOp.move rfl rfl) ?_
        refine LOps.nil ?_
        refine thn_n ?_
        refine LW.cond rfl (fun (g3 : v4 = true) => ?_) (fun (g3 : v4 = false) => ?_)
        · -- g3 is True
          have hr := ite_t g3 hr
          refine LW.region ?_
          refine LOps.st rfl rfl rfl (LOp.move rfl rfl) ?_
          refine LOps.st rfl rfl rfl (LOp.fieldAddr rfl rfl ft55_0) ?_
          refine LOps.st rfl rfl rfl (LOp.load rfl rfl rfl vt49 rfl rfl) ?_
          refine LOps.st rfl rfl rfl (LOp.move rfl rfl) ?_
          obtain ⟨y1, h_y1, hr⟩ := bind_get hr
          refine LOps.st rfl rfl rfl (LOp.indexAddrX rfl rfl rfl st49 h_y1 rfl) ?_
          refine LOps.st rfl rfl rfl (LOp.loadC rfl rfl rfl vt3 rfl rfl) ?_
          refine LOps.st rfl rfl rfl (LOp.bin rfl rfl rfl rfl) ?_
          refine LOps.st rfl rfl rfl (LOp.assign rfl rfl) ?_
          refine LOps.nil ?_
          refine inBlk_n ?_
          refine thn_n ?_
          refine LW.region ?_
          refine LOps.st rfl rfl rfl (LOp.move rfl rfl) ?_
          refine LOps.st rfl rfl rfl (LOp.bin rfl rfl rfl rfl) ?_
          refine LOps.st rfl rfl rfl (LOp.assign rfl rfl) ?_
          refine LOps.nil ?_
          refine thn_n ?_
          obtain rfl := Option.some.inj hr
          exact ⟨_, rfl, Weak.of 1 ⟨rfl, rfl, rfl, rfl, rfl, rfl, trivial⟩ rfl rfl rfl rfl⟩
        · -- g3 is False
          have hr := ite_f g3 hr
          refine LW.skip ?_
          refine inBlk_n ?_
          refine thn_n ?_
          refine LW.region ?_
          refine LOps.st rfl rfl rfl (LOp.move rfl rfl) ?_
          refine LOps.st rfl rfl rfl (LOp.bin rfl rfl rfl rfl) ?_
          refine LOps.st rfl rfl rfl (LOp.assign rfl rfl) ?_
          refine LOps.nil ?_
          refine thn_n ?_
          obtain rfl := Option.some.inj hr
          exact ⟨_, rfl, Weak.of 1 ⟨rfl, rfl, rfl, rfl, rfl, rfl, trivial⟩ rfl rfl rfl rfl⟩
      · -- g2 is False
        have hr := ite_f g2 hr
        refine LW.exit ?_
        refine thn_e ?_
        refine thn_e ?_
        refine inBlk_self ?_
        refine thn_n ?_
        obtain rfl := Option.some.inj hr
        have hr := congrArg some (hb_x1 _ rfl)
        obtain rfl := Option.some.inj hr
        exact Weak.of 1 ⟨rfl, rfl, trivial⟩ rfl rfl rfl rfl
  · have hr := ho_v2
    clear hb_v2
    refine thn_n ?_
    refine LW.weak hw_v2 ?_
    refine LW.seq ?_
    refine LW.region ?_
    refine LOps.st rfl rfl rfl (LOp.move rfl rfl) ?_
    refine LOps.st rfl rfl rfl (LOp.assign rfl rfl) ?_
    refine LOps.nil ?_
    refine thn_n ?_
    refine LW.ret ?_
    obtain rfl := Option.some.inj hr
    refine finP_ret (.one (.tmp rfl)) ?_
    exact Conv.p
structure F73_L1 where
  n : Int
  i : Int
open Go.Proofs
structure F69_L1 where
  i : Int
  out : List Int
structure F66_L1 where
  i : Int
open Go.Proofs
theorem lenC_len : ∀ H : List LObj, lenC H = some H.length
  | [] => rfl
  | _ :: r => by unfold lenC; rw [lenC_len r]; rfl
theorem appC_app : ∀ (H : List LObj) (o : LObj), appC H o = some (H ++ [o])
  | [], _ => rfl
  | _ :: r, o => by unfold appC; rw [appC_app r o]; rfl
set_option maxRecDepth 100000 in
theorem c112 {c : Cf} {g : FuncId} {first caps : List LV} {H : List LObj} : LC Try.prog 112 [.p (cfP c), .fn g first caps] H (Is (.fn 148 [] [.cptr [.slice 1 (c.W.map i64P), .int .u64 c.Seed, .int .i64 c.Epoch, .int .i64 c.Num, .int .i64 c.Den], .fptr (.fn g first caps)]) H) := by
  refine LC.those Try.func112 rfl rfl rfl ?_
  refine LW.seq ?_
  refine LW.region ?_
  refine LOps.st rfl rfl rfl (LOp.box rfl rfl rfl (lenC_len _) (appC_app _ _)) ?_
  refine LOps.st rfl rfl rfl (LOp.box rfl rfl rfl (lenC_len _) (appC_app _ _)) ?_
  refine LOps.st rfl rfl rfl (LOp.assign rfl rfl) ?_
  refine LOps.nil ?_
  refine thn_n ?_
  refine LW.seq ?_
  refine LW.region ?_
  refine LOps.st rfl rfl rfl (LOp.makeFunc rfl rfl rfl) ?_
  refine LOps.st rfl rfl rfl (LOp.assign rfl rfl) ?_
  refine LOps.nil ?_
  refine thn_n ?_
  refine LW.ret ?_
  refine ⟨.inr rfl, by simp, ?_⟩
  have h : ∀ n : Nat, n = H.length + 1 → ∀ {e : Env} {H2 : List LObj}, e.get 4 = some (.fn 148 [] [.ptr H.length 0, .ptr n 0]) → ResAll Try.prog e H2 Try.f112.results (.fn 148 [] [.ptr H.length 0, .ptr (H.length + 1) 0]) := by
    rintro n rfl e H2 he
    exact .one (.tmp he)
  exact h _ (by simp) rfl
open Go.Proofs
noncomputable def A116 : Code := rfA Try.f116.body
noncomputable def B116 : Code := rfB Try.f116.body
structure F148T_L1 where
  t8 : Int
  o2_0 : Int
def F117 (i : Int) (_ : Cf) (m : List (Int × Bool)) : Option Bool :=
  some ((findE m i).getD false)
set_option maxRecDepth 100000 in
theorem cF117 {i : Int} {c : Cf} {m : List (Int × Bool)} {r_ : Bool} (hr : F117 i c m = some r_) : LC Try.prog 117 [.p (.int .i64 i), .ptr 2 0] [.box [.p (.slice 1 (c.W.map i64P)), .p (.int .u64 c.Seed), .p (.int .i64 c.Epoch), .p (.int .i64 c.Num), .p (.int .i64 c.Den)], .map (entsOf i64P (fun v => .p (.bool v)) m), .box [.map 1]] (Is (.p (.bool r_)) [.box [.p (.slice 1 (c.W.map i64P)), .p (.int .u64 c.Seed), .p (.int .i64 c.Epoch), .p (.int .i64 c.Num), .p (.int .i64 c.Den)], .map (entsOf i64P (fun v => .p (.bool v)) m), .box [.map 1]]) := by
  refine LC.start Try.func117 rfl rfl rfl ?_
  unfold F117 at hr
  refine LW.seq ?_
  refine LW.region ?_
  refine LOps.st rfl rfl rfl (LOp.assign rfl rfl) ?_
  refine LOps.nil ?_
  refine thn_n ?_
  refine LW.seq ?_
  refine LW.region ?_
  refine LOps.st rfl rfl rfl (LOp.load rfl rfl rfl vt132 rfl rfl) ?_
  refine LOps.st rfl rfl rfl (LOp.move rfl rfl) ?_
  refine LOps.st rfl rfl rfl (LOp.getX (f := i64P) (g := (fun v => .p (.bool v))) i false i64Key rfl rfl rfl rfl mt132 zl4 rfl rfl) ?_
  refine LOps.st rfl rfl rfl (LOp.assign rfl rfl) ?_
  refine LOps.nil ?_
  refine thn_n ?_
  refine LW.ret ?_
  obtain rfl := Option.some.inj hr
  refine fin_ret (.one (.tmp rfl)) ?_
  exact ⟨rfl, rfl⟩
set_option maxRecDepth 100000 in
theorem y116W {c : Cf} {m : List (Int × Bool)} {n i y : Int} {o : Oper} {env : Env} {fo xo : Operand} {ats : Array TypeId} (ho : o.op = .call { callee := .value fo, args := #[xo], argTypes := ats }) (hf : lev env fo = some (.yld 6)) (hx : lev env xo = some (.p (.int .i64 i))) (h : ix c.W i = some y) :
    LOpI Try.prog o env [.box [.p (.slice 1 (c.W.map i64P)), .p (.int .u64 c.Seed), .p (.int .i64 c.Epoch), .p (.int .i64 c.Num), .p (.int .i64 c.Den)], .map (entsOf i64P (fun v => .p (.bool v)) m), .box [.map 1], .box [.p (.slice 1 (c.W.map i64P)), .p (.int .u64 c.Seed), .p (.int .i64 c.Epoch), .p (.int .i64 c.Num), .p (.int .i64 c.Den)], .box [.p (.int .i64 n)], .defd, .loop false 21 [(2, .ptr 3 0), (4, .p (.int .i64 0)), (5, .ptr 4 0), (11, .fn 148 [] [.cptr [.slice 1 (c.W.map i64P), .int .u64 c.Seed, .int .i64 c.Epoch, .int .i64 c.Num, .int .i64 c.Den], .fptr (.fn 117 [] [.ptr 2 0])])] #[12] A116 B116] (Is (.p (.bool true)) [.box [.p (.slice 1 (c.W.map i64P)), .p (.int .u64 c.Seed), .p (.int .i64 c.Epoch), .p (.int .i64 c.Num), .p (.int .i64 c.Den)], .map (entsOf i64P (fun v => .p (.bool v)) m), .box [.map 1], .box [.p (.slice 1 (c.W.map i64P)), .p (.int .u64 c.Seed), .p (.int .i64 c.Epoch), .p (.int .i64 c.Num), .p (.int .i64 c.Den)], .box [.p (.int .i64 (IntKind.i64.wrap (n + y)))], .defd, .loop false 21 [(2, .ptr 3 0), (4, .p (.int .i64 0)), (5, .ptr 4 0), (11, .fn 148 [] [.cptr [.slice 1 (c.W.map i64P), .int .u64 c.Seed, .int .i64 c.Epoch, .int .i64 c.Num, .int .i64 c.Den], .fptr (.fn 117 [] [.ptr 2 0])])] #[12] A116 B116]) := by
  refine LOpI.yield (env2 := (6, .p (.int .i64 i)) :: (12, .p (.int .i64 i)) :: [(2, .ptr 3 0), (4, .p (.int .i64 0)), (5, .ptr 4 0), (11, .fn 148 [] [.cptr [.slice 1 (c.W.map i64P), .int .u64 c.Seed, .int .i64 c.Epoch, .int .i64 c.Num, .int .i64 c.Den], .fptr (.fn 117 [] [.ptr 2 0])])]) (H2 := [.box [.p (.slice 1 (c.W.map i64P)), .p (.int .u64 c.Seed), .p (.int .i64 c.Epoch), .p (.int .i64 c.Num), .p (.int .i64 c.Den)], .map (entsOf i64P (fun v => .p (.bool v)) m), .box [.map 1], .box [.p (.slice 1 (c.W.map i64P)), .p (.int .u64 c.Seed), .p (.int .i64 c.Epoch), .p (.int .i64 c.Num), .p (.int .i64 c.Den)], .box [.p (.int .i64 (IntKind.i64.wrap (n + y)))], .defd, .loop true 21 [(2, .ptr 3 0), (4, .p (.int .i64 0)), (5, .ptr 4 0), (11, .fn 148 [] [.cptr [.slice 1 (c.W.map i64P), .int .u64 c.Seed, .int .i64 c.Epoch, .int .i64 c.Num, .int .i64 c.Den], .fptr (.fn 117 [] [.ptr 2 0])])] #[12] A116 B116]) ho hf hx rfl rfl (by kernel_rfl) (by kernel_rfl) rfl (LRg.plain ?_) ?_ rfl rfl
  · refine LOps.st rfl rfl rfl (LOp.assign rfl rfl) ?_
    exact LOps.nil ⟨rfl, rfl, rfl⟩
  · refine LRg.drawLast (m := 7) (by kernel_rfl) (by kernel_rfl) (by kernel_rfl) ?_
    refine LO.st rfl rfl rfl (LOp.load rfl rfl rfl vt3 rfl rfl) ?_
    refine LO.st rfl rfl rfl (LOp.fieldAddr rfl rfl ft55_0) ?_
    refine LO.st rfl rfl rfl (LOp.load rfl rfl rfl vt49 rfl rfl) ?_
    refine LO.st rfl rfl rfl (LOp.move rfl rfl) ?_
    refine LO.st rfl rfl rfl (LOp.indexAddrX rfl rfl rfl st49 h rfl) ?_
    refine LO.st rfl rfl rfl (LOp.loadC rfl rfl rfl vt3 rfl rfl) ?_
    refine LO.st rfl rfl rfl (LOp.bin rfl rfl rfl rfl) ?_
    refine LO.nil ?_
    refine LOps.st rfl rfl rfl (LOp.store rfl rfl rfl rfl vt3 rfl rfl rfl rfl) ?_
    refine LOps.nil ?_
    exact ⟨rfl, rfl⟩
structure F148W_L1 where
  t8 : Int
  o4_0 : Int
def F148W_s1 (c : Cf) (m : List (Int × Bool)) (x1 : F148W_L1) : Option (F148W_L1 ⊕ F148W_L1) :=
  bif decide (x1.t8 < (c.W.length : Int)) then
    (F117 x1.t8 c m).bind fun v2 =>
    bif v2 then
      (ix c.W x1.t8).bind fun y1 =>
      some (.inl (F148W_L1.mk (IntKind.i64.wrap (x1.t8 + 1)) (IntKind.i64.wrap (x1.o4_0 + y1))))
    else
      some (.inl (F148W_L1.mk (IntKind.i64.wrap (x1.t8 + 1)) x1.o4_0))
  else
    some (.inr (F148W_L1.mk x1.t8 x1.o4_0))
def F148W (c : Cf) (m : List (Int × Bool)) (n : Int) : Option Int :=
  (iter (F148W_s1 c m) big (F148W_L1.mk 0 n)).bind fun v1 =>
  some v1.o4_0
set_option maxRecDepth 100000 in
theorem cF148W {c : Cf} {m : List (Int × Bool)} {n : Int} {r_ : Int} (hr : F148W c m n = some r_) : LC Try.prog 148 [.yld 6, .cptr [.slice 1 (c.W.map i64P), .int .u64 c.Seed, .int .i64 c.Epoch, .int .i64 c.Num, .int .i64 c.Den], .fptr (.fn 117 [] [.ptr 2 0])] [.box [.p (.slice 1 (c.W.map i64P)), .p (.int .u64 c.Seed), .p (.int .i64 c.Epoch), .p (.int .i64 c.Num), .p (.int .i64 c.Den)], .map (entsOf i64P (fun v => .p (.bool v)) m), .box [.map 1], .box [.p (.slice 1 (c.W.map i64P)), .p (.int .u64 c.Seed), .p (.int .i64 c.Epoch), .p (.int .i64 c.Num), .p (.int .i64 c.Den)], .box [.p (.int .i64 n)], .defd, .loop false 21 [(2, .ptr 3 0), (4, .p (.int .i64 0)), (5, .ptr 4 0), (11, .fn 148 [] [.cptr [.slice 1 (c.W.map i64P), .int .u64 c.Seed, .int .i64 c.Epoch, .int .i64 c.Num, .int .i64 c.Den], .fptr (.fn 117 [] [.ptr 2 0])])] #[12] A116 B116] (Is (.tup []) [.box [.p (.slice 1 (c.W.map i64P)), .p (.int .u64 c.Seed), .p (.int .i64 c.Epoch), .p (.int .i64 c.Num), .p (.int .i64 c.Den)], .map (entsOf i64P (fun v => .p (.bool v)) m), .box [.map 1], .box [.p (.slice 1 (c.W.map i64P)), .p (.int .u64 c.Seed), .p (.int .i64 c.Epoch), .p (.int .i64 c.Num), .p (.int .i64 c.Den)], .box [.p (.int .i64 r_)], .defd, .loop false 21 [(2, .ptr 3 0), (4, .p (.int .i64 0)), (5, .ptr 4 0), (11, .fn 148 [] [.cptr [.slice 1 (c.W.map i64P), .int .u64 c.Seed, .int .i64 c.Epoch, .int .i64 c.Num, .int .i64 c.Den], .fptr (.fn 117 [] [.ptr 2 0])])] #[12] A116 B116]) := by
  refine LC.start Try.func148 rfl rfl rfl ?_
  unfold F148W at hr
  refine LW.seq ?_
  refine LW.region ?_
  refine LOps.st rfl rfl rfl (LOp.fieldAddrC rfl rfl ft55_0 rfl) ?_
  refine LOps.st rfl rfl rfl (LOp.loadC rfl rfl rfl vt49 rfl rfl) ?_
  refine LOps.st rfl rfl rfl (LOp.lenM rfl rfl (by kernel_rfl)) ?_
  refine LOps.st rfl rfl rfl (LOp.move rfl rfl) ?_
  refine LOps.nil ?_
  refine thn_n ?_
  obtain ⟨v1, hb_v1, ho_v1⟩ := bind_get hr
  clear hr
  refine LW.tail (E := []) (O := [.box [.p (.slice 1 (c.W.map i64P)), .p (.int .u64 c.Seed), .p (.int .i64 c.Epoch), .p (.int .i64 c.Num), .p (.int .i64 c.Den)], .map (entsOf i64P (fun v => .p (.bool v)) m), .box [.map 1], .box [.p (.slice 1 (c.W.map i64P)), .p (.int .u64 c.Seed), .p (.int .i64 c.Epoch), .p (.int .i64 c.Num), .p (.int .i64 c.Den)], .box [.p (.int .i64 v1.o4_0)], .defd, .loop false 21 [(2, .ptr 3 0), (4, .p (.int .i64 0)), (5, .ptr 4 0), (11, .fn 148 [] [.cptr [.slice 1 (c.W.map i64P), .int .u64 c.Seed, .int .i64 c.Epoch, .int .i64 c.Num, .int .i64 c.Den], .fptr (.fn 117 [] [.ptr 2 0])])] #[12] A116 B116]) ?_ (fun env_v1 H_v1 hw_v1 => ?_)
  · refine LW.block ?_
    refine LW.iterB (E := fun x1 : F148W_L1 => [(0, .yld 6), (2, .fptr (.fn 117 [] [.ptr 2 0])), (7, .p (.int .i64 (c.W.length : Int))), (8, .p (.int .i64 x1.t8))]) (O := fun x1 => [.box [.p (.slice 1 (c.W.map i64P)), .p (.int .u64 c.Seed), .p (.int .i64 c.Epoch), .p (.int .i64 c.Num), .p (.int .i64 c.Den)], .map (entsOf i64P (fun v => .p (.bool v)) m), .box [.map 1], .box [.p (.slice 1 (c.W.map i64P)), .p (.int .u64 c.Seed), .p (.int .i64 c.Epoch), .p (.int .i64 c.Num), .p (.int .i64 c.Den)], .box [.p (.int .i64 x1.o4_0)], .defd, .loop false 21 [(2, .ptr 3 0), (4, .p (.int .i64 0)), (5, .ptr 4 0), (11, .fn 148 [] [.cptr [.slice 1 (c.W.map i64P), .int .u64 c.Seed, .int .i64 c.Epoch, .int .i64 c.Num, .int .i64 c.Den], .fptr (.fn 117 [] [.ptr 2 0])])] #[12] A116 B116]) hb_v1 (Weak.of 7 ⟨rfl, rfl, rfl, rfl, trivial⟩ rfl rfl rfl (lowObjs_cons rfl (lowObjs_cons (entsLow (fun _ => rfl) _) (lowObjs_cons rfl (lowObjs_cons rfl (lowObjs_cons rfl (lowObjs_cons rfl (lowObjs_cons rfl rfl)))))))) (fun x1 z_x1 hr hb_x1 => ?_)
    unfold F148W_s1 at hr
    refine LW.seq ?_
    refine LW.region ?_
    refine LOps.st rfl rfl rfl (LOp.bin rfl rfl rfl rfl) ?_
    refine LOps.nil ?_
    refine thn_n ?_
    refine LW.seq ?_
    refine LW.cond rfl (fun (g1 : (decide (x1.t8 < (c.W.length : Int))) = true) => ?_) (fun (g1 : (decide (x1.t8 < (c.W.length : Int))) = false) => ?_)
    · -- g1 is True
      have hr := ite_t g1 hr
      refine LW.skip ?_
      refine thn_n ?_
      refine LW.seq ?_
      refine LW.block ?_
      refine LW.seq ?_
      refine LW.region ?_
      refine LOps.st rfl rfl rfl (LOp.move rfl rfl) ?_
      refine LOps.st rfl rfl rfl (LOp.assign rfl rfl) ?_
      refine LOps.nil ?_
      refine thn_n ?_
      refine LW.seq ?_
      refine LW.regionI ?_
      refine LOpsI.st rfl rfl rfl (LOpI.of (LOp.loadF rfl rfl vt131) rfl) ?_
      refine LOpsI.st rfl rfl rfl (LOpI.of (LOp.move rfl rfl) rfl) ?_
      obtain ⟨v2, h_v2, hr⟩ := bind_get hr
      refine LOpsI.st rfl rfl rfl (LOpI.of (LOp.call rfl rfl rfl (by kernel_rfl) (LC.pre (cF117 h_v2) rfl (lowObjs_cons rfl (lowObjs_cons (entsLow (fun _ => rfl) _) (lowObjs_cons rfl rfl))) rfl)) rfl) ?_
      refine LOpsI.st rfl rfl rfl (LOpI.of (LOp.move rfl rfl) rfl) ?_
      refine LOpsI.cases 14 rfl (fun (g2 : v2 = true) => ?_) (fun (g2 : v2 = false) => ?_)
      · -- g2 is True
        have hr := ite_t g2 hr
        refine LOpsI.gd rfl rfl rfl (gd g2 rfl) rfl (LOpI.of (LOp.move rfl rfl) rfl) ?_
        refine LOpsI.gd rfl rfl rfl (gd g2 rfl) rfl (LOpI.of (LOp.move rfl rfl) rfl) ?_
        obtain ⟨y1, h_y1, hr⟩ := bind_get hr
        refine LOpsI.gd rfl rfl rfl (gd g2 rfl) rfl (y116W rfl rfl rfl h_y1) ?_
        refine LOpsI.gd rfl rfl rfl (gd g2 rfl) rfl (LOpI.of (LOp.not rfl rfl) rfl) ?_
        refine LOpsI.st rfl rfl rfl (LOpI.of (LOp.pickT rfl (gdl g2 rfl) rfl) rfl) ?_
        refine LOpsI.nil ?_
        refine thn_n ?_
        refine LW.condF rfl ?_
        refine LW.skip ?_
        refine inBlk_n ?_
        refine thn_n ?_
        refine LW.region ?_
        refine LOps.st rfl rfl rfl (LOp.bin rfl rfl rfl rfl) ?_
        refine LOps.st rfl rfl rfl (LOp.move rfl rfl) ?_
        refine LOps.nil ?_
        refine thn_n ?_
        obtain rfl := Option.some.inj hr
        exact ⟨_, rfl, Weak.of 7 ⟨rfl, rfl, rfl, rfl, trivial⟩ rfl rfl rfl (lowObjs_cons rfl (lowObjs_cons (entsLow (fun _ => rfl) _) (lowObjs_cons rfl (lowObjs_cons rfl (lowObjs_cons rfl (lowObjs_cons rfl (lowObjs_cons rfl rfl)))))))⟩
      · -- g2 is False
        have hr := ite_f g2 hr
        refine LOpsI.sk rfl rfl rfl (gd g2 rfl) rfl rfl ?_
        refine LOpsI.sk rfl rfl rfl (gd g2 rfl) rfl rfl ?_
        refine LOpsI.sk rfl rfl rfl (gd g2 rfl) rfl rfl ?_
        refine LOpsI.sk rfl rfl rfl (gd g2 rfl) rfl rfl ?_
        refine LOpsI.st rfl rfl rfl (LOpI.of (LOp.pickF rfl (gdl g2 rfl) rfl) rfl) ?_
        refine LOpsI.nil ?_
        refine thn_n ?_
        refine LW.condF rfl ?_
        refine LW.skip ?_
        refine inBlk_n ?_
        refine thn_n ?_
        refine LW.region ?_
        refine LOps.st rfl rfl rfl (LOp.bin rfl rfl rfl rfl) ?_
        refine LOps.st rfl rfl rfl (LOp.move rfl rfl) ?_
        refine LOps.nil ?_
        refine thn_n ?_
        obtain rfl := Option.some.inj hr
        exact ⟨_, rfl, Weak.of 7 ⟨rfl, rfl, rfl, rfl, trivial⟩ rfl rfl rfl (lowObjs_cons rfl (lowObjs_cons (entsLow (fun _ => rfl) _) (lowObjs_cons rfl (lowObjs_cons rfl (lowObjs_cons rfl (lowObjs_cons rfl (lowObjs_cons rfl rfl)))))))⟩
    · -- g1 is False
      have hr := ite_f g1 hr
      refine LW.exit ?_
      refine thn_e ?_
      refine thn_e ?_
      refine inBlk_self ?_
      refine thn_n ?_
      obtain rfl := Option.some.inj hr
      have hr := congrArg some (hb_x1 _ rfl)
      obtain rfl := Option.some.inj hr
      exact Weak.of 7 trivial rfl rfl rfl (lowObjs_cons rfl (lowObjs_cons (entsLow (fun _ => rfl) _) (lowObjs_cons rfl (lowObjs_cons rfl (lowObjs_cons rfl (lowObjs_cons rfl (lowObjs_cons rfl rfl)))))))
  · have hr := ho_v1
    clear hb_v1
    obtain rfl := Option.some.inj hr
    exact fin_endW hw_v1 .none ⟨rfl, rfl⟩
def F116W (c : Cf) (m : List (Int × Bool)) : Option Int :=
  (F64 c).bind fun v1 =>
  bif !v1 then
    some 0
  else
    (F148W c m 0).bind fun v2 =>
    some v2
set_option maxRecDepth 100000 in
theorem cF116W {c : Cf} {m : List (Int × Bool)} {r_ : Int} (hr : F116W c m = some r_) : LC Try.prog 116 [.p (cfP c), .fn 148 [] [.cptr [.slice 1 (c.W.map i64P), .int .u64 c.Seed, .int .i64 c.Epoch, .int .i64 c.Num, .int .i64 c.Den], .fptr (.fn 117 [] [.ptr 2 0])]] [.box [.p (.slice 1 (c.W.map i64P)), .p (.int .u64 c.Seed), .p (.int .i64 c.Epoch), .p (.int .i64 c.Num), .p (.int .i64 c.Den)], .map (entsOf i64P (fun v => .p (.bool v)) m), .box [.map 1]] (Is (.p (.int .i64 r_)) [.box [.p (.slice 1 (c.W.map i64P)), .p (.int .u64 c.Seed), .p (.int .i64 c.Epoch), .p (.int .i64 c.Num), .p (.int .i64 c.Den)], .map (entsOf i64P (fun v => .p (.bool v)) m), .box [.map 1]]) := by
  refine LC.ofM Try.func116 rfl rfl rfl ?_
  unfold F116W at hr
  refine LWm.seqW ?_
  refine LW.region ?_
  refine LOps.st rfl rfl rfl (LOp.box rfl rfl rfl rfl rfl) ?_
  refine LOps.st rfl rfl rfl (LOp.assign rfl rfl) ?_
  refine LOps.nil ?_
  refine thn_n ?_
  refine LWm.seqW ?_
  refine LW.region ?_
  refine LOps.st rfl rfl rfl (LOp.alloc rfl zt3 rfl rfl) ?_
  refine LOps.st rfl rfl rfl (LOp.store rfl rfl rfl rfl vt3 rfl rfl rfl rfl) ?_
  refine LOps.nil ?_
  refine thn_n ?_
  refine LWm.seqW ?_
  refine LW.seq ?_
  refine LW.region ?_
  refine LOps.st rfl rfl rfl (LOp.load rfl rfl rfl vt55 rfl rfl) ?_
  obtain ⟨v1, h_v1, hr⟩ := bind_get hr
  refine LOps.st rfl rfl rfl (LOp.call rfl rfl rfl (by kernel_rfl) (LC.pure (c64 h_v1) (.cons Conv.p .nil))) ?_
  refine LOps.st rfl rfl rfl (LOp.not rfl rfl) ?_
  refine LOps.nil ?_
  refine thn_n ?_
  refine LW.cond rfl (fun (g1 : (!v1) = true) => ?_) (fun (g1 : (!v1) = false) => ?_)
  · -- g1 is True
    have hr := ite_t g1 hr
    refine LW.seq ?_
    refine LW.region ?_
    refine LOps.st rfl rfl rfl (LOp.load rfl rfl rfl vt3 rfl rfl) ?_
    refine LOps.st rfl rfl rfl (LOp.assign rfl rfl) ?_
    refine LOps.nil ?_
    refine thn_n ?_
    refine LW.ret ?_
    refine thn_r ?_
    obtain rfl := Option.some.inj hr
    refine fin_retW (env' := [(4, .p (.int .i64 0))]) (H' := [.box [.p (.slice 1 (c.W.map i64P)), .p (.int .u64 c.Seed), .p (.int .i64 c.Epoch), .p (.int .i64 c.Num), .p (.int .i64 c.Den)], .map (entsOf i64P (fun v => .p (.bool v)) m), .box [.map 1]]) (Weak.of 3 ⟨rfl, trivial⟩ rfl rfl rfl (lowObjs_cons rfl (lowObjs_cons (entsLow (fun _ => rfl) _) (lowObjs_cons rfl rfl)))) (.one (.tmp rfl)) ?_
    exact ⟨rfl, rfl⟩
  · -- g1 is False
    have hr := ite_f g1 hr
    refine LW.skip ?_
    refine thn_n ?_
    refine LWm.seq ?_
    refine LWm.seqW ?_
    refine LW.region ?_
    refine LOps.st rfl rfl rfl (LOp.move rfl rfl) ?_
    refine LOps.nil ?_
    refine thn_n ?_
    refine LWm.weak (env' := [(2, .ptr 3 0), (4, .p (.int .i64 0)), (5, .ptr 4 0), (11, .fn 148 [] [.cptr [.slice 1 (c.W.map i64P), .int .u64 c.Seed, .int .i64 c.Epoch, .int .i64 c.Num, .int .i64 c.Den], .fptr (.fn 117 [] [.ptr 2 0])])]) (H' := [.box [.p (.slice 1 (c.W.map i64P)), .p (.int .u64 c.Seed), .p (.int .i64 c.Epoch), .p (.int .i64 c.Num), .p (.int .i64 c.Den)], .map (entsOf i64P (fun v => .p (.bool v)) m), .box [.map 1], .box [.p (.slice 1 (c.W.map i64P)), .p (.int .u64 c.Seed), .p (.int .i64 c.Epoch), .p (.int .i64 c.Num), .p (.int .i64 c.Den)], .box [.p (.int .i64 0)]]) (Weak.of 5 ⟨rfl, rfl, rfl, rfl, trivial⟩ rfl rfl rfl (lowObjs_cons rfl (lowObjs_cons (entsLow (fun _ => rfl) _) (lowObjs_cons rfl (lowObjs_cons rfl (lowObjs_cons rfl rfl)))))) ?_
    refine LWm.block ?_
    obtain ⟨v2, h_v2, hr⟩ := bind_get hr
    refine LWm.rangeFunc rfl (by kernel_rfl) rfl (cF148W h_v2) rfl rfl rfl ?_
    refine ⟨rfl, ?_⟩
    refine thnM_n ?_
    refine LWm.seq ?_
    refine LWm.region ?_
    refine LOpsM.st rfl rfl rfl (LOp.load rfl rfl rfl vt3 rfl rfl) rfl ?_
    refine LOpsM.st rfl rfl rfl (LOp.assign rfl rfl) rfl ?_
    refine LOpsM.nil ?_
    refine thnM_n ?_
    refine LWm.ret ?_
    obtain rfl := Option.some.inj hr
    exact ⟨.inr rfl, _, [(4, .p (.int .i64 v2))], [.box [.p (.slice 1 (c.W.map i64P)), .p (.int .u64 c.Seed), .p (.int .i64 c.Epoch), .p (.int .i64 c.Num), .p (.int .i64 c.Den)], .map (entsOf i64P (fun v => .p (.bool v)) m), .box [.map 1]], _, rfl, Weak.of 3 ⟨rfl, trivial⟩ rfl rfl rfl (lowObjs_cons rfl (lowObjs_cons (entsLow (fun _ => rfl) _) (lowObjs_cons rfl rfl))), (.one (.tmp rfl)), ⟨rfl, rfl⟩⟩
open Go.Proofs
structure F148C_L1 where
  t8 : Int
  o4 : List Int
open Go.Proofs
structure F70_L1 where
  t11 : Int
  o1 : List (Int × Bool)
def F70_s1 (l : List Int) (x1 : F70_L1) : Option (F70_L1 ⊕ F70_L1) :=
  bif decide (x1.t11 < (l.length : Int)) then
    (ix l x1.t11).bind fun y1 =>
    some (.inl (F70_L1.mk (IntKind.i64.wrap (x1.t11 + 1)) (setE x1.o1 y1 true)))
  else
    some (.inr (F70_L1.mk x1.t11 x1.o1))
def F70 (c : Cf) (l : List Int) : Option Int :=
  (iter (F70_s1 l) big (F70_L1.mk 0 ([] : List (Int × Bool)))).bind fun v1 =>
  (F116W c v1.o1).bind fun v2 =>
  some v2
set_option maxRecDepth 100000 in
theorem c70 {c : Cf} {l : List Int} {r_ : Int} (hr : F70 c l = some r_) : LPure Try.prog 70 [cfP c, .slice 1 (l.map i64P)] [.int .i64 r_] := by
  refine LPure.start Try.func70 rfl rfl rfl rfl ?_
  unfold F70 at hr
  refine LW.seq ?_
  refine LW.region ?_
  refine LOps.st rfl rfl rfl (LOp.box rfl rfl rfl rfl rfl) ?_
  refine LOps.st rfl rfl rfl (LOp.assign rfl rfl) ?_
  refine LOps.nil ?_
  refine thn_n ?_
  refine LW.seq ?_
  refine LW.region ?_
  refine LOps.st rfl rfl rfl (LOp.makeMap rfl rfl rfl) ?_
  refine LOps.st rfl rfl rfl (LOp.alloc rfl zt132 rfl rfl) ?_
  refine LOps.st rfl rfl rfl (LOp.store rfl rfl rfl rfl vt132 rfl rfl rfl rfl) ?_
  refine LOps.nil ?_
  refine thn_n ?_
  refine LW.seq ?_
  refine LW.seq ?_
  refine LW.region ?_
  refine LOps.st rfl rfl rfl (LOp.move rfl rfl) ?_
  refine LOps.st rfl rfl rfl (LOp.lenM rfl rfl (by kernel_rfl)) ?_
  refine LOps.st rfl rfl rfl (LOp.move rfl rfl) ?_
  refine LOps.nil ?_
  refine thn_n ?_
  obtain ⟨v1, hb_v1, ho_v1⟩ := bind_get hr
  clear hr
  refine LW.tail (E := [(2, .ptr 0 0), (4, .p (.int .i64 0)), (5, .ptr 2 0)]) (O := [.box [.p (.slice 1 (c.W.map i64P)), .p (.int .u64 c.Seed), .p (.int .i64 c.Epoch), .p (.int .i64 c.Num), .p (.int .i64 c.Den)], .map (entsOf i64P (fun v => .p (.bool v)) v1.o1), .box [.map 1]]) ?_ (fun env_v1 H_v1 hw_v1 => ?_)
  · refine LW.block ?_
    refine LW.iterB (E := fun x1 : F70_L1 => [(2, .ptr 0 0), (4, .p (.int .i64 0)), (5, .ptr 2 0), (9, .p (.slice 1 (l.map i64P))), (10, .p (.int .i64 (l.length : Int))), (11, .p (.int .i64 x1.t11))]) (O := fun x1 => [.box [.p (.slice 1 (c.W.map i64P)), .p (.int .u64 c.Seed), .p (.int .i64 c.Epoch), .p (.int .i64 c.Num), .p (.int .i64 c.Den)], .map (entsOf i64P (fun v => .p (.bool v)) x1.o1), .box [.map 1]]) hb_v1 (Weak.of 3 ⟨rfl, rfl, rfl, rfl, rfl, rfl, trivial⟩ rfl rfl rfl (lowObjs_cons rfl (lowObjs_cons (entsLow (fun _ => rfl) _) (lowObjs_cons rfl rfl)))) (fun x1 z_x1 hr hb_x1 => ?_)
    unfold F70_s1 at hr
    refine LW.seq ?_
    refine LW.region ?_
    refine LOps.st rfl rfl rfl (LOp.bin rfl rfl rfl rfl) ?_
    refine LOps.nil ?_
    refine thn_n ?_
    refine LW.seq ?_
    refine LW.cond rfl (fun (g1 : (decide (x1.t11 < (l.length : Int))) = true) => ?_) (fun (g1 : (decide (x1.t11 < (l.length : Int))) = false) => ?_)
    · -- g1 is True
      have hr := ite_t g1 hr
      refine LW.skip ?_
      refine thn_n ?_
      refine LW.seq ?_
      refine LW.block ?_
      refine LW.seq ?_
      refine LW.region ?_
      obtain ⟨y1, h_y1, hr⟩ := bind_get hr
      refine LOps.st rfl rfl rfl (LOp.indexAddrX rfl rfl rfl st49 h_y1 rfl) ?_
      refine LOps.st rfl rfl rfl (LOp.loadC rfl rfl rfl vt3 rfl rfl) ?_
      refine LOps.st rfl rfl rfl (LOp.assign rfl rfl) ?_
      refine LOps.nil ?_
      refine thn_n ?_
      refine LW.region ?_
      refine LOps.st rfl rfl rfl (LOp.load rfl rfl rfl vt132 rfl rfl) ?_
      refine LOps.st rfl rfl rfl (LOp.move rfl rfl) ?_
      refine LOps.st rfl rfl rfl (LOp.setX (f := i64P) (g := (fun v => .p (.bool v))) y1 true i64Key (.inl rfl) rfl rfl rfl rfl rfl mt132 rfl) ?_
      refine LOps.nil ?_
      refine inBlk_n ?_
      refine thn_n ?_
      refine LW.region ?_
      refine LOps.st rfl rfl rfl (LOp.bin rfl rfl rfl rfl) ?_
      refine LOps.st rfl rfl rfl (LOp.move rfl rfl) ?_
      refine LOps.nil ?_
      refine thn_n ?_
      obtain rfl := Option.some.inj hr
      exact ⟨_, rfl, Weak.of 3 ⟨rfl, rfl, rfl, rfl, rfl, rfl, trivial⟩ rfl rfl rfl (lowObjs_cons rfl (lowObjs_cons (entsLow (fun _ => rfl) _) (lowObjs_cons rfl rfl)))⟩
    · -- g1 is False
      have hr := ite_f g1 hr
      refine LW.exit ?_
      refine thn_e ?_
      refine thn_e ?_
      refine inBlk_self ?_
      refine thn_n ?_
      obtain rfl := Option.some.inj hr
      have hr := congrArg some (hb_x1 _ rfl)
      obtain rfl := Option.some.inj hr
      exact Weak.of 3 ⟨rfl, rfl, rfl, trivial⟩ rfl rfl rfl (lowObjs_cons rfl (lowObjs_cons (entsLow (fun _ => rfl) _) (lowObjs_cons rfl rfl)))
  · have hr := ho_v1
    clear hb_v1
    refine thn_n ?_
    refine LW.weak hw_v1 ?_
    refine LW.seq ?_
    refine LW.draw (by kernel_rfl) (by kernel_rfl) ?_
    refine LO.st rfl rfl rfl (LOp.load rfl rfl rfl vt55 rfl rfl) ?_
    refine LO.st rfl rfl rfl (LOp.load rfl rfl rfl vt55 rfl rfl) ?_
    refine LO.st rfl rfl rfl (LOp.makeFunc rfl rfl rfl) ?_
    refine LO.st rfl rfl rfl (LOp.call rfl rfl rfl (by kernel_rfl) (c112 (c := c))) ?_
    obtain ⟨v2, h_v2, hr⟩ := bind_get hr
    refine LO.st rfl rfl rfl (LOp.call rfl rfl rfl (by kernel_rfl) (cF116W h_v2)) ?_
    refine LO.st rfl rfl rfl (LOp.assign rfl rfl) ?_
    refine LO.nil ?_
    refine thn_n ?_
    refine LW.ret ?_
    obtain rfl := Option.some.inj hr
    refine finP_ret (.one (.tmp rfl)) ?_
    exact Conv.p
end Go.Mg
