/- Duties: what stands alone. Duties: the reference, the proposer. duty.those: a closure. Sums of weights, and lists, over closures. Committees over closures. duty.Total, Weight, Committee, In. Conditions: none. -/
import Derived.Test.YtlhocfhoocmfiaaS1
import Derived.Test.YtlhocfhoocmfiaaR1
namespace Go.Mg
open Go.Proofs
structure F109_L1 where
  m : Int
  i : Int
def F109_s1 (x : List Int) (x1 : F109_L1) : Option (F109_L1 ⊕ F109_L1) :=
  bif decide (x1.i < (x.length : Int)) then
    (ix x x1.i).bind fun y2 =>
    some (.inl (F109_L1.mk (if y2 < x1.m then y2 else x1.m) (IntKind.i64.wrap (x1.i + 1))))
  else
    some (.inr (F109_L1.mk x1.m x1.i))
def F109 (x : List Int) : Option Int :=
  bif decide ((x.length : Int) < 1) then
    none
  else
    (ix x 0).bind fun y1 =>
    (iter (F109_s1 x) big (F109_L1.mk y1 1)).bind fun v1 =>
    some v1.m
set_option maxRecDepth 100000 in
theorem c109 {x : List Int} {r_ : Int} (hr : F109 x = some r_) : LPure Try.prog 109 [.slice 1 (x.map i64P)] [.int .i64 r_] := by
  refine LPure.start Try.func109 rfl rfl rfl rfl ?_
  unfold F109 at hr
  refine LW.seq ?_
  refine LW.region ?_
  refine LOps.st rfl rfl rfl (LOp.assign rfl rfl) ?_
  refine LOps.nil ?_
  refine thn_n ?_
  refine LW.seq ?_
  refine LW.seq ?_
  refine LW.region ?_
  refine LOps.st rfl rfl rfl (LOp.move rfl rfl) ?_
  refine LOps.st rfl rfl rfl (LOp.lenM rfl rfl (by kernel_rfl)) ?_
  refine LOps.st rfl rfl rfl (LOp.bin rfl rfl rfl rfl) ?_
  refine LOps.nil ?_
  refine thn_n ?_
  refine LW.cond rfl (fun (g1 : (decide ((x.length : Int) < 1)) = true) => ?_) (fun (g1 : (decide ((x.length : Int) < 1)) = false) => ?_)
  · -- g1 is True
    have hr := ite_t g1 hr
    cases hr
  · -- g1 is False
    have hr := ite_f g1 hr
    refine LW.skip ?_
    refine thn_n ?_
    refine LW.seq ?_
    refine LW.region ?_
    refine LOps.st rfl rfl rfl (LOp.move rfl rfl) ?_
    obtain ⟨y1, h_y1, hr⟩ := bind_get hr
    refine LOps.st rfl rfl rfl (LOp.indexAddrX rfl rfl rfl st49 h_y1 rfl) ?_
    refine LOps.st rfl rfl rfl (LOp.loadC rfl rfl rfl vt3 rfl rfl) ?_
    refine LOps.st rfl rfl rfl (LOp.assign rfl rfl) ?_
    refine LOps.nil ?_
    refine thn_n ?_
    refine LW.seq ?_
    refine LW.seq ?_
    refine LW.region ?_
    refine LOps.st rfl rfl rfl (LOp.assign rfl rfl) ?_
    refine LOps.nil ?_
    refine thn_n ?_
    obtain ⟨v1, hb_v1, ho_v1⟩ := bind_get hr
    clear hr
    refine LW.tail (E := [(2, .p (.int .i64 0)), (3, .p (.int .i64 v1.m))]) (O := []) ?_ (fun env_v1 H_v1 hw_v1 => ?_)
    · refine LW.block ?_
      refine LW.iterB (E := fun x1 : F109_L1 => [(0, .p (.slice 1 (x.map i64P))), (2, .p (.int .i64 0)), (3, .p (.int .i64 x1.m)), (4, .p (.int .i64 x1.i))]) (O := fun x1 => []) hb_v1 (Weak.of 0 ⟨rfl, rfl, rfl, rfl, trivial⟩ rfl rfl rfl rfl) (fun x1 z_x1 hr hb_x1 => ?_)
      unfold F109_s1 at hr
      refine LW.seq ?_
      refine LW.seq ?_
      refine LW.region ?_
      refine LOps.st rfl rfl rfl (LOp.move rfl rfl) ?_
      refine LOps.st rfl rfl rfl (LOp.move rfl rfl) ?_
      refine LOps.st rfl rfl rfl (LOp.lenM rfl rfl (by kernel_rfl)) ?_
      refine LOps.st rfl rfl rfl (LOp.bin rfl rfl rfl rfl) ?_
      refine LOps.nil ?_
      refine thn_n ?_
      refine LW.cond rfl (fun (g2 : (decide (x1.i < (x.length : Int))) = true) => ?_) (fun (g2 : (decide (x1.i < (x.length : Int))) = false) => ?_)
      · -- g2 is True
        have hr := ite_t g2 hr
        refine LW.skip ?_
        refine thn_n ?_
        refine LW.seq ?_
        refine LW.block ?_
        refine LW.region ?_
        refine LOps.st rfl rfl rfl (LOp.move rfl rfl) ?_
        refine LOps.st rfl rfl rfl (LOp.move rfl rfl) ?_
        refine LOps.st rfl rfl rfl (LOp.move rfl rfl) ?_
        obtain ⟨y2, h_y2, hr⟩ := bind_get hr
        refine LOps.st rfl rfl rfl (LOp.indexAddrX rfl rfl rfl st49 h_y2 rfl) ?_
        refine LOps.st rfl rfl rfl (LOp.loadC rfl rfl rfl vt3 rfl rfl) ?_
        refine LOps.st rfl rfl rfl (LOp.min rfl rfl rfl) ?_
        refine LOps.st rfl rfl rfl (LOp.assign rfl rfl) ?_
        refine LOps.nil ?_
        refine inBlk_n ?_
        refine thn_n ?_
        refine LW.region ?_
        refine LOps.st rfl rfl rfl (LOp.move rfl rfl) ?_
        refine LOps.st rfl rfl rfl (LOp.bin rfl rfl rfl rfl) ?_
        refine LOps.st rfl rfl rfl (LOp.assign rfl rfl) ?_
        refine LOps.nil ?_
        refine thn_n ?_
        obtain rfl := Option.some.inj hr
        exact ⟨_, rfl, Weak.of 0 ⟨rfl, rfl, rfl, rfl, trivial⟩ rfl rfl rfl rfl⟩
      · -- g2 is False
        have hr := ite_f g2 hr
        refine LW.exit ?_
        refine thn_e ?_
        refine thn_e ?_
        refine inBlk_self ?_
        refine thn_n ?_
        obtain rfl := Option.some.inj hr
        have hr := congrArg some (hb_x1 _ rfl)
        obtain rfl := Option.some.inj hr
        exact Weak.of 0 ⟨rfl, rfl, trivial⟩ rfl rfl rfl rfl
    · have hr := ho_v1
      clear hb_v1
      refine thn_n ?_
      refine LW.weak hw_v1 ?_
      refine LW.seq ?_
      refine LW.region ?_
      refine LOps.st rfl rfl rfl (LOp.move rfl rfl) ?_
      refine LOps.st rfl rfl rfl (LOp.assign rfl rfl) ?_
      refine LOps.nil ?_
      refine thn_n ?_
      refine LW.ret ?_
      obtain rfl := Option.some.inj hr
      refine finP_ret (.one (.tmp rfl)) ?_
      exact Conv.p
structure F110_L1 where
  m : Int
  i : Int
def F110_s1 (x : List Int) (x1 : F110_L1) : Option (F110_L1 ⊕ F110_L1) :=
  bif decide (x1.i < (x.length : Int)) then
    (ix x x1.i).bind fun y2 =>
    some (.inl (F110_L1.mk (if y2 > x1.m then y2 else x1.m) (IntKind.i64.wrap (x1.i + 1))))
  else
    some (.inr (F110_L1.mk x1.m x1.i))
def F110 (x : List Int) : Option Int :=
  bif decide ((x.length : Int) < 1) then
    none
  else
    (ix x 0).bind fun y1 =>
    (iter (F110_s1 x) big (F110_L1.mk y1 1)).bind fun v1 =>
    some v1.m
set_option maxRecDepth 100000 in
theorem c110 {x : List Int} {r_ : Int} (hr : F110 x = some r_) : LPure Try.prog 110 [.slice 1 (x.map i64P)] [.int .i64 r_] := by
  refine LPure.start Try.func110 rfl rfl rfl rfl ?_
  unfold F110 at hr
  refine LW.seq ?_
  refine LW.region ?_
  refine LOps.st rfl rfl rfl (LOp.assign rfl rfl) ?_
  refine LOps.nil ?_
  refine thn_n ?_
  refine LW.seq ?_
  refine LW.seq ?_
  refine LW.region ?_
  refine LOps.st rfl rfl rfl (LOp.move rfl rfl) ?_
  refine LOps.st rfl rfl rfl (LOp.lenM rfl rfl (by kernel_rfl)) ?_
  refine LOps.st rfl rfl rfl (LOp.bin rfl rfl rfl rfl) ?_
  refine LOps.nil ?_
  refine thn_n ?_
  refine LW.cond rfl (fun (g1 : (decide ((x.length : Int) < 1)) = true) => ?_) (fun (g1 : (decide ((x.length : Int) < 1)) = false) => ?_)
  · -- g1 is True
    have hr := ite_t g1 hr
    cases hr
  · -- g1 is False
    have hr := ite_f g1 hr
    refine LW.skip ?_
    refine thn_n ?_
    refine LW.seq ?_
    refine LW.region ?_
    refine LOps.st rfl rfl rfl (LOp.move rfl rfl) ?_
    obtain ⟨y1, h_y1, hr⟩ := bind_get hr
    refine LOps.st rfl rfl rfl (LOp.indexAddrX rfl rfl rfl st49 h_y1 rfl) ?_
    refine LOps.st rfl rfl rfl (LOp.loadC rfl rfl rfl vt3 rfl rfl) ?_
    refine LOps.st rfl rfl rfl (LOp.assign rfl rfl) ?_
    refine LOps.nil ?_
    refine thn_n ?_
    refine LW.seq ?_
    refine LW.seq ?_
    refine LW.region ?_
    refine LOps.st rfl rfl rfl (LOp.assign rfl rfl) ?_
    refine LOps.nil ?_
    refine thn_n ?_
    obtain ⟨v1, hb_v1, ho_v1⟩ := bind_get hr
    clear hr
    refine LW.tail (E := [(2, .p (.int .i64 0)), (3, .p (.int .i64 v1.m))]) (O := []) ?_ (fun env_v1 H_v1 hw_v1 => ?_)
    · refine LW.block ?_
      refine LW.iterB (E := fun x1 : F110_L1 => [(0, .p (.slice 1 (x.map i64P))), (2, .p (.int .i64 0)), (3, .p (.int .i64 x1.m)), (4, .p (.int .i64 x1.i))]) (O := fun x1 => []) hb_v1 (Weak.of 0 ⟨rfl, rfl, rfl, rfl, trivial⟩ rfl rfl rfl rfl) (fun x1 z_x1 hr hb_x1 => ?_)
      unfold F110_s1 at hr
      refine LW.seq ?_
      refine LW.seq ?_
      refine LW.region ?_
      refine LOps.st rfl rfl rfl (LOp.move rfl rfl) ?_
      refine LOps.st rfl rfl rfl (LOp.move rfl rfl) ?_
      refine LOps.st rfl rfl rfl (LOp.lenM rfl rfl (by kernel_rfl)) ?_
      refine LOps.st rfl rfl rfl (LOp.bin rfl rfl rfl rfl) ?_
      refine LOps.nil ?_
      refine thn_n ?_
      refine LW.cond rfl (fun (g2 : (decide (x1.i < (x.length : Int))) = true) => ?_) (fun (g2 : (decide (x1.i < (x.length : Int))) = false) => ?_)
      · -- g2 is True
        have hr := ite_t g2 hr
        refine LW.skip ?_
        refine thn_n ?_
        refine LW.seq ?_
        refine LW.block ?_
        refine LW.region ?_
        refine LOps.st rfl rfl rfl (LOp.move rfl rfl) ?_
        refine LOps.st rfl rfl rfl (LOp.move rfl rfl) ?_
        refine LOps.st rfl rfl rfl (LOp.move rfl rfl) ?_
        obtain ⟨y2, h_y2, hr⟩ := bind_get hr
        refine LOps.st rfl rfl rfl (LOp.indexAddrX rfl rfl rfl st49 h_y2 rfl) ?_
        refine LOps.st rfl rfl rfl (LOp.loadC rfl rfl rfl vt3 rfl rfl) ?_
        refine LOps.st rfl rfl rfl (LOp.max rfl rfl rfl) ?_
        refine LOps.st rfl rfl rfl (LOp.assign rfl rfl) ?_
        refine LOps.nil ?_
        refine inBlk_n ?_
        refine thn_n ?_
        refine LW.region ?_
        refine LOps.st rfl rfl rfl (LOp.move rfl rfl) ?_
        refine LOps.st rfl rfl rfl (LOp.bin rfl rfl rfl rfl) ?_
        refine LOps.st rfl rfl rfl (LOp.assign rfl rfl) ?_
        refine LOps.nil ?_
        refine thn_n ?_
        obtain rfl := Option.some.inj hr
        exact ⟨_, rfl, Weak.of 0 ⟨rfl, rfl, rfl, rfl, trivial⟩ rfl rfl rfl rfl⟩
      · -- g2 is False
        have hr := ite_f g2 hr
        refine LW.exit ?_
        refine thn_e ?_
        refine thn_e ?_
        refine inBlk_self ?_
        refine thn_n ?_
        obtain rfl := Option.some.inj hr
        have hr := congrArg some (hb_x1 _ rfl)
        obtain rfl := Option.some.inj hr
        exact Weak.of 0 ⟨rfl, rfl, trivial⟩ rfl rfl rfl rfl
    · have hr := ho_v1
      clear hb_v1
      refine thn_n ?_
      refine LW.weak hw_v1 ?_
      refine LW.seq ?_
      refine LW.region ?_
      refine LOps.st rfl rfl rfl (LOp.move rfl rfl) ?_
      refine LOps.st rfl rfl rfl (LOp.assign rfl rfl) ?_
      refine LOps.nil ?_
      refine thn_n ?_
      refine LW.ret ?_
      obtain rfl := Option.some.inj hr
      refine finP_ret (.one (.tmp rfl)) ?_
      exact Conv.p
def F64 (c : Cf) : Option Bool :=
  (
    bif (c.W.length : Int) == 0 then
      some true
    else
      bif decide ((c.W.length : Int) > 12) then
        some true
      else
        (F109 c.W).bind fun v2 =>
        bif decide (v2 < 0) then
          some true
        else
          (F110 c.W).bind fun v3 =>
          some (decide (v3 > 1099511627776))
  ).bind fun v1 =>
  bif v1 then
    some false
  else
    bif decide (c.Epoch > 0) then
      bif decide (c.Epoch ≤ 8) then
        bif decide (c.Num ≥ 0) then
          bif decide (c.Num ≤ c.Den) then
            bif decide (c.Den > 0) then
              some (decide (c.Den ≤ 1000))
            else
              some false
          else
            some false
        else
          some false
      else
        some false
    else
      some false
set_option maxRecDepth 100000 in
theorem c64 {c : Cf} {r_ : Bool} (hr : F64 c = some r_) : LPure Try.prog 64 [cfP c] [.bool r_] := by
  refine LPure.start Try.func64 rfl rfl rfl rfl ?_
  unfold F64 at hr
  refine LW.seq ?_
  refine LW.region ?_
  refine LOps.st rfl rfl rfl (LOp.box rfl rfl rfl rfl rfl) ?_
  refine LOps.st rfl rfl rfl (LOp.assign rfl rfl) ?_
  refine LOps.nil ?_
  refine thn_n ?_
  refine LW.seq ?_
  obtain ⟨v1, hb_v1, ho_v1⟩ := bind_get hr
  clear hr
  refine LW.cut (E := [(1, .ptr 0 0), (2, .p (.bool false)), (24, .p (.bool v1))]) (O := [.box [.p (.slice 1 (c.W.map i64P)), .p (.int .u64 c.Seed), .p (.int .i64 c.Epoch), .p (.int .i64 c.Num), .p (.int .i64 c.Den)]]) ?_ ?_
  · have hr := hb_v1
    refine LW.region ?_
    refine LOps.st rfl rfl rfl (LOp.fieldAddr rfl rfl ft55_0) ?_
    refine LOps.st rfl rfl rfl (LOp.load rfl rfl rfl vt49 rfl rfl) ?_
    refine LOps.st rfl rfl rfl (LOp.lenM rfl rfl (by kernel_rfl)) ?_
    refine LOps.st rfl rfl rfl (LOp.bin rfl rfl rfl rfl) ?_
    refine LOps.st rfl rfl rfl (LOp.move rfl rfl) ?_
    refine LOps.cases 7 rfl (fun (g1 : ((c.W.length : Int) == 0) = true) => ?_) (fun (g1 : ((c.W.length : Int) == 0) = false) => ?_)
    · -- g1 is True
      have hr := ite_t g1 hr
      refine LOps.sk rfl rfl rfl (gd g1 rfl) rfl rfl ?_
      refine LOps.sk rfl rfl rfl (gd g1 rfl) rfl rfl ?_
      refine LOps.sk rfl rfl rfl (gd g1 rfl) rfl rfl ?_
      refine LOps.sk rfl rfl rfl (gd g1 rfl) rfl rfl ?_
      refine LOps.st rfl rfl rfl (LOp.pickT rfl (gdl g1 rfl) rfl) ?_
      refine LOps.st rfl rfl rfl (LOp.move rfl rfl) ?_
      refine LOps.sk rfl rfl rfl rfl rfl rfl ?_
      refine LOps.sk rfl rfl rfl rfl rfl rfl ?_
      refine LOps.sk rfl rfl rfl rfl rfl rfl ?_
      refine LOps.sk rfl rfl rfl rfl rfl rfl ?_
      refine LOps.st rfl rfl rfl (LOp.pickT rfl rfl rfl) ?_
      refine LOps.st rfl rfl rfl (LOp.move rfl rfl) ?_
      refine LOps.sk rfl rfl rfl rfl rfl rfl ?_
      refine LOps.sk rfl rfl rfl rfl rfl rfl ?_
      refine LOps.sk rfl rfl rfl rfl rfl rfl ?_
      refine LOps.sk rfl rfl rfl rfl rfl rfl ?_
      refine LOps.st rfl rfl rfl (LOp.pickT rfl rfl rfl) ?_
      refine LOps.nil ?_
      refine thn_n ?_
      obtain rfl := Option.some.inj hr
      exact Weak.of 1 ⟨rfl, rfl, rfl, trivial⟩ rfl rfl rfl rfl
    · -- g1 is False
      have hr := ite_f g1 hr
      refine LOps.gd rfl rfl rfl (gd g1 rfl) rfl (LOp.fieldAddr rfl rfl ft55_0) ?_
      refine LOps.gd rfl rfl rfl (gd g1 rfl) rfl (LOp.load rfl rfl rfl vt49 rfl rfl) ?_
      refine LOps.gd rfl rfl rfl (gd g1 rfl) rfl (LOp.lenM rfl rfl (by kernel_rfl)) ?_
      refine LOps.gd rfl rfl rfl (gd g1 rfl) rfl (LOp.bin rfl rfl rfl rfl) ?_
      refine LOps.st rfl rfl rfl (LOp.pickF rfl (gdl g1 rfl) rfl) ?_
      refine LOps.st rfl rfl rfl (LOp.move rfl rfl) ?_
      refine LOps.cases 13 rfl (fun (g2 : (decide ((c.W.length : Int) > 12)) = true) => ?_) (fun (g2 : (decide ((c.W.length : Int) > 12)) = false) => ?_)
      · -- g2 is True
        have hr := ite_t g2 hr
        refine LOps.sk rfl rfl rfl (gd g2 rfl) rfl rfl ?_
        refine LOps.sk rfl rfl rfl (gd g2 rfl) rfl rfl ?_
        refine LOps.sk rfl rfl rfl (gd g2 rfl) rfl rfl ?_
        refine LOps.sk rfl rfl rfl (gd g2 rfl) rfl rfl ?_
        refine LOps.st rfl rfl rfl (LOp.pickT rfl (gdl g2 rfl) rfl) ?_
        refine LOps.st rfl rfl rfl (LOp.move rfl rfl) ?_
        refine LOps.sk rfl rfl rfl rfl rfl rfl ?_
        refine LOps.sk rfl rfl rfl rfl rfl rfl ?_
        refine LOps.sk rfl rfl rfl rfl rfl rfl ?_
        refine LOps.sk rfl rfl rfl rfl rfl rfl ?_
        refine LOps.st rfl rfl rfl (LOp.pickT rfl rfl rfl) ?_
        refine LOps.nil ?_
        refine thn_n ?_
        obtain rfl := Option.some.inj hr
        exact Weak.of 1 ⟨rfl, rfl, rfl, trivial⟩ rfl rfl rfl rfl
      · -- g2 is False
        have hr := ite_f g2 hr
        refine LOps.gd rfl rfl rfl (gd g2 rfl) rfl (LOp.fieldAddr rfl rfl ft55_0) ?_
        refine LOps.gd rfl rfl rfl (gd g2 rfl) rfl (LOp.load rfl rfl rfl vt49 rfl rfl) ?_
        obtain ⟨v2, h_v2, hr⟩ := bind_get hr
        refine LOps.gd rfl rfl rfl (gd g2 rfl) rfl (LOp.call rfl rfl rfl (by kernel_rfl) (LC.pure (c109 h_v2) (.cons Conv.p .nil))) ?_
        refine LOps.gd rfl rfl rfl (gd g2 rfl) rfl (LOp.bin rfl rfl rfl rfl) ?_
        refine LOps.st rfl rfl rfl (LOp.pickF rfl (gdl g2 rfl) rfl) ?_
        refine LOps.st rfl rfl rfl (LOp.move rfl rfl) ?_
        refine LOps.cases 19 rfl (fun (g3 : (decide (v2 < 0)) = true) => ?_) (fun (g3 : (decide (v2 < 0)) = false) => ?_)
        · -- g3 is True
          have hr := ite_t g3 hr
          refine LOps.sk rfl rfl rfl (gd g3 rfl) rfl rfl ?_
          refine LOps.sk rfl rfl rfl (gd g3 rfl) rfl rfl ?_
          refine LOps.sk rfl rfl rfl (gd g3 rfl) rfl rfl ?_
          refine LOps.sk rfl rfl rfl (gd g3 rfl) rfl rfl ?_
          refine LOps.st rfl rfl rfl (LOp.pickT rfl (gdl g3 rfl) rfl) ?_
          refine LOps.nil ?_
          refine thn_n ?_
          obtain rfl := Option.some.inj hr
          exact Weak.of 1 ⟨rfl, rfl, rfl, trivial⟩ rfl rfl rfl rfl
        · -- g3 is False
          have hr := ite_f g3 hr
          refine LOps.gd rfl rfl rfl (gd g3 rfl) rfl (LOp.fieldAddr rfl rfl ft55_0) ?_
          refine LOps.gd rfl rfl rfl (gd g3 rfl) rfl (LOp.load rfl rfl rfl vt49 rfl rfl) ?_
          obtain ⟨v3, h_v3, hr⟩ := bind_get hr
          refine LOps.gd rfl rfl rfl (gd g3 rfl) rfl (LOp.call rfl rfl rfl (by kernel_rfl) (LC.pure (c110 h_v3) (.cons Conv.p .nil))) ?_
          refine LOps.gd rfl rfl rfl (gd g3 rfl) rfl (LOp.bin rfl rfl rfl rfl) ?_
          refine LOps.st rfl rfl rfl (LOp.pickF rfl (gdl g3 rfl) rfl) ?_
          refine LOps.nil ?_
          refine thn_n ?_
          obtain rfl := Option.some.inj hr
          exact Weak.of 1 ⟨rfl, rfl, rfl, trivial⟩ rfl rfl rfl rfl
  · have hr := ho_v1
    clear hb_v1
    refine LW.cond rfl (fun (g4 : v1 = true) => ?_) (fun (g4 : v1 = false) => ?_)
    · -- g4 is True
      have hr := ite_t g4 hr
      refine LW.seq ?_
      refine LW.region ?_
      refine LOps.st rfl rfl rfl (LOp.assign rfl rfl) ?_
      refine LOps.nil ?_
      refine thn_n ?_
      refine LW.ret ?_
      refine thn_r ?_
      obtain rfl := Option.some.inj hr
      refine finP_ret (.one (.tmp rfl)) ?_
      exact Conv.p
    · -- g4 is False
      have hr := ite_f g4 hr
      refine LW.skip ?_
      refine thn_n ?_
      refine LW.seq ?_
      refine LW.region ?_
      refine LOps.st rfl rfl rfl (LOp.fieldAddr rfl rfl ft55_2) ?_
      refine LOps.st rfl rfl rfl (LOp.load rfl rfl rfl vt3 rfl rfl) ?_
      refine LOps.st rfl rfl rfl (LOp.bin rfl rfl rfl rfl) ?_
      refine LOps.st rfl rfl rfl (LOp.move rfl rfl) ?_
      refine LOps.cases 28 rfl (fun (g5 : (decide (c.Epoch > 0)) = true) => ?_) (fun (g5 : (decide (c.Epoch > 0)) = false) => ?_)
      · -- g5 is True
        have hr := ite_t g5 hr
        refine LOps.gd rfl rfl rfl (gd g5 rfl) rfl (LOp.fieldAddr rfl rfl ft55_2) ?_
        refine LOps.gd rfl rfl rfl (gd g5 rfl) rfl (LOp.load rfl rfl rfl vt3 rfl rfl) ?_
        refine LOps.gd rfl rfl rfl (gd g5 rfl) rfl (LOp.bin rfl rfl rfl rfl) ?_
        refine LOps.st rfl rfl rfl (LOp.pickT rfl (gdl g5 rfl) rfl) ?_
        refine LOps.st rfl rfl rfl (LOp.move rfl rfl) ?_
        refine LOps.cases 33 rfl (fun (g6 : (decide (c.Epoch ≤ 8)) = true) => ?_) (fun (g6 : (decide (c.Epoch ≤ 8)) = false) => ?_)
        · -- g6 is True
          have hr := ite_t g6 hr
          refine LOps.gd rfl rfl rfl (gd g6 rfl) rfl (LOp.fieldAddr rfl rfl ft55_3) ?_
          refine LOps.gd rfl rfl rfl (gd g6 rfl) rfl (LOp.load rfl rfl rfl vt3 rfl rfl) ?_
          refine LOps.gd rfl rfl rfl (gd g6 rfl) rfl (LOp.bin rfl rfl rfl rfl) ?_
          refine LOps.st rfl rfl rfl (LOp.pickT rfl (gdl g6 rfl) rfl) ?_
          refine LOps.st rfl rfl rfl (LOp.move rfl rfl) ?_
          refine LOps.cases 38 rfl (fun (g7 : (decide (c.Num ≥ 0)) = true) => ?_) (fun (g7 : (decide (c.Num ≥ 0)) = false) => ?_)
          · -- g7 is True
            have hr := ite_t g7 hr
            refine LOps.gd rfl rfl rfl (gd g7 rfl) rfl (LOp.fieldAddr rfl rfl ft55_3) ?_
            refine LOps.gd rfl rfl rfl (gd g7 rfl) rfl (LOp.load rfl rfl rfl vt3 rfl rfl) ?_
            refine LOps.gd rfl rfl rfl (gd g7 rfl) rfl (LOp.fieldAddr rfl rfl ft55_4) ?_
            refine LOps.gd rfl rfl rfl (gd g7 rfl) rfl (LOp.load rfl rfl rfl vt3 rfl rfl) ?_
            refine LOps.gd rfl rfl rfl (gd g7 rfl) rfl (LOp.bin rfl rfl rfl rfl) ?_
            refine LOps.st rfl rfl rfl (LOp.pickT rfl (gdl g7 rfl) rfl) ?_
            refine LOps.st rfl rfl rfl (LOp.move rfl rfl) ?_
            refine LOps.cases 45 rfl (fun (g8 : (decide (c.Num ≤ c.Den)) = true) => ?_) (fun (g8 : (decide (c.Num ≤ c.Den)) = false) => ?_)
            · -- g8 is True
              have hr := ite_t g8 hr
              refine LOps.gd rfl rfl rfl (gd g8 rfl) rfl (LOp.fieldAddr rfl rfl ft55_4) ?_
              refine LOps.gd rfl rfl rfl (gd g8 rfl) rfl (LOp.load rfl rfl rfl vt3 rfl rfl) ?_
              refine LOps.gd rfl rfl rfl (gd g8 rfl) rfl (LOp.bin rfl rfl rfl rfl) ?_
              refine LOps.st rfl rfl rfl (LOp.pickT rfl (gdl g8 rfl) rfl) ?_
              refine LOps.st rfl rfl rfl (LOp.move rfl rfl) ?_
              refine LOps.cases 50 rfl (fun (g9 : (decide (c.Den > 0)) = true) => ?_) (fun (g9 : (decide (c.Den > 0)) = false) => ?_)
              · -- g9 is True
                have hr := ite_t g9 hr
                refine LOps.gd rfl rfl rfl (gd g9 rfl) rfl (LOp.fieldAddr rfl rfl ft55_4) ?_
                refine LOps.gd rfl rfl rfl (gd g9 rfl) rfl (LOp.load rfl rfl rfl vt3 rfl rfl) ?_
                refine LOps.gd rfl rfl rfl (gd g9 rfl) rfl (LOp.bin rfl rfl rfl rfl) ?_
                refine LOps.st rfl rfl rfl (LOp.pickT rfl (gdl g9 rfl) rfl) ?_
                refine LOps.st rfl rfl rfl (LOp.assign rfl rfl) ?_
                refine LOps.nil ?_
                refine thn_n ?_
                refine LW.ret ?_
                obtain rfl := Option.some.inj hr
                refine finP_ret (.one (.tmp rfl)) ?_
                exact Conv.p
              · -- g9 is False
                have hr := ite_f g9 hr
                refine LOps.sk rfl rfl rfl (gd g9 rfl) rfl rfl ?_
                refine LOps.sk rfl rfl rfl (gd g9 rfl) rfl rfl ?_
                refine LOps.sk rfl rfl rfl (gd g9 rfl) rfl rfl ?_
                refine LOps.st rfl rfl rfl (LOp.pickF rfl (gdl g9 rfl) rfl) ?_
                refine LOps.st rfl rfl rfl (LOp.assign rfl rfl) ?_
                refine LOps.nil ?_
                refine thn_n ?_
                refine LW.ret ?_
                obtain rfl := Option.some.inj hr
                refine finP_ret (.one (.tmp rfl)) ?_
                exact Conv.p
            · -- g8 is False
              have hr := ite_f g8 hr
              refine LOps.sk rfl rfl rfl (gd g8 rfl) rfl rfl ?_
              refine LOps.sk rfl rfl rfl (gd g8 rfl) rfl rfl ?_
              refine LOps.sk rfl rfl rfl (gd g8 rfl) rfl rfl ?_
              refine LOps.st rfl rfl rfl (LOp.pickF rfl (gdl g8 rfl) rfl) ?_
              refine LOps.st rfl rfl rfl (LOp.move rfl rfl) ?_
              refine LOps.sk rfl rfl rfl rfl rfl rfl ?_
              refine LOps.sk rfl rfl rfl rfl rfl rfl ?_
              refine LOps.sk rfl rfl rfl rfl rfl rfl ?_
              refine LOps.st rfl rfl rfl (LOp.pickF rfl rfl rfl) ?_
              refine LOps.st rfl rfl rfl (LOp.assign rfl rfl) ?_
              refine LOps.nil ?_
              refine thn_n ?_
              refine LW.ret ?_
              obtain rfl := Option.some.inj hr
              refine finP_ret (.one (.tmp rfl)) ?_
              exact Conv.p
          · -- g7 is False
            have hr := ite_f g7 hr
            refine LOps.sk rfl rfl rfl (gd g7 rfl) rfl rfl ?_
            refine LOps.sk rfl rfl rfl (gd g7 rfl) rfl rfl ?_
            refine LOps.sk rfl rfl rfl (gd g7 rfl) rfl rfl ?_
            refine LOps.sk rfl rfl rfl (gd g7 rfl) rfl rfl ?_
            refine LOps.sk rfl rfl rfl (gd g7 rfl) rfl rfl ?_
            refine LOps.st rfl rfl rfl (LOp.pickF rfl (gdl g7 rfl) rfl) ?_
            refine LOps.st rfl rfl rfl (LOp.move rfl rfl) ?_
            refine LOps.sk rfl rfl rfl rfl rfl rfl ?_
            refine LOps.sk rfl rfl rfl rfl rfl rfl ?_
            refine LOps.sk rfl rfl rfl rfl rfl rfl ?_
            refine LOps.st rfl rfl rfl (LOp.pickF rfl rfl rfl) ?_
            refine LOps.st rfl rfl rfl (LOp.move rfl rfl) ?_
            refine LOps.sk rfl rfl rfl rfl rfl rfl ?_
            refine LOps.sk rfl rfl rfl rfl rfl rfl ?_
            refine LOps.sk rfl rfl rfl rfl rfl rfl ?_
            refine LOps.st rfl rfl rfl (LOp.pickF rfl rfl rfl) ?_
            refine LOps.st rfl rfl rfl (LOp.assign rfl rfl) ?_
            refine LOps.nil ?_
            refine thn_n ?_
            refine LW.ret ?_
            obtain rfl := Option.some.inj hr
            refine finP_ret (.one (.tmp rfl)) ?_
            exact Conv.p
        · -- g6 is False
          have hr := ite_f g6 hr
          refine LOps.sk rfl rfl rfl (gd g6 rfl) rfl rfl ?_
          refine LOps.sk rfl rfl rfl (gd g6 rfl) rfl rfl ?_
          refine LOps.sk rfl rfl rfl (gd g6 rfl) rfl rfl ?_
          refine LOps.st rfl rfl rfl (LOp.pickF rfl (gdl g6 rfl) rfl) ?_
          refine LOps.st rfl rfl rfl (LOp.move rfl rfl) ?_
          refine LOps.sk rfl rfl rfl rfl rfl rfl ?_
          refine LOps.sk rfl rfl rfl rfl rfl rfl ?_
          refine LOps.sk rfl rfl rfl rfl rfl rfl ?_
          refine LOps.sk rfl rfl rfl rfl rfl rfl ?_
          refine LOps.sk rfl rfl rfl rfl rfl rfl ?_
          refine LOps.st rfl rfl rfl (LOp.pickF rfl rfl rfl) ?_
          refine LOps.st rfl rfl rfl (LOp.move rfl rfl) ?_
          refine LOps.sk rfl rfl rfl rfl rfl rfl ?_
          refine LOps.sk rfl rfl rfl rfl rfl rfl ?_
          refine LOps.sk rfl rfl rfl rfl rfl rfl ?_
          refine LOps.st rfl rfl rfl (LOp.pickF rfl rfl rfl) ?_
          refine LOps.st rfl rfl rfl (LOp.move rfl rfl) ?_
          refine LOps.sk rfl rfl rfl rfl rfl rfl ?_
          refine LOps.sk rfl rfl rfl rfl rfl rfl ?_
          refine LOps.sk rfl rfl rfl rfl rfl rfl ?_
          refine LOps.st rfl rfl rfl (LOp.pickF rfl rfl rfl) ?_
          refine LOps.st rfl rfl rfl (LOp.assign rfl rfl) ?_
          refine LOps.nil ?_
          refine thn_n ?_
          refine LW.ret ?_
          obtain rfl := Option.some.inj hr
          refine finP_ret (.one (.tmp rfl)) ?_
          exact Conv.p
      · -- g5 is False
        have hr := ite_f g5 hr
        refine LOps.sk rfl rfl rfl (gd g5 rfl) rfl rfl ?_
        refine LOps.sk rfl rfl rfl (gd g5 rfl) rfl rfl ?_
        refine LOps.sk rfl rfl rfl (gd g5 rfl) rfl rfl ?_
        refine LOps.st rfl rfl rfl (LOp.pickF rfl (gdl g5 rfl) rfl) ?_
        refine LOps.st rfl rfl rfl (LOp.move rfl rfl) ?_
        refine LOps.sk rfl rfl rfl rfl rfl rfl ?_
        refine LOps.sk rfl rfl rfl rfl rfl rfl ?_
        refine LOps.sk rfl rfl rfl rfl rfl rfl ?_
        refine LOps.st rfl rfl rfl (LOp.pickF rfl rfl rfl) ?_
        refine LOps.st rfl rfl rfl (LOp.move rfl rfl) ?_
        refine LOps.sk rfl rfl rfl rfl rfl rfl ?_
        refine LOps.sk rfl rfl rfl rfl rfl rfl ?_
        refine LOps.sk rfl rfl rfl rfl rfl rfl ?_
        refine LOps.sk rfl rfl rfl rfl rfl rfl ?_
        refine LOps.sk rfl rfl rfl rfl rfl rfl ?_
        refine LOps.st rfl rfl rfl (LOp.pickF rfl rfl rfl) ?_
        refine LOps.st rfl rfl rfl (LOp.move rfl rfl) ?_
        refine LOps.sk rfl rfl rfl rfl rfl rfl ?_
        refine LOps.sk rfl rfl rfl rfl rfl rfl ?_
        refine LOps.sk rfl rfl rfl rfl rfl rfl ?_
        refine LOps.st rfl rfl rfl (LOp.pickF rfl rfl rfl) ?_
        refine LOps.st rfl rfl rfl (LOp.move rfl rfl) ?_
        refine LOps.sk rfl rfl rfl rfl rfl rfl ?_
        refine LOps.sk rfl rfl rfl rfl rfl rfl ?_
        refine LOps.sk rfl rfl rfl rfl rfl rfl ?_
        refine LOps.st rfl rfl rfl (LOp.pickF rfl rfl rfl) ?_
        refine LOps.st rfl rfl rfl (LOp.assign rfl rfl) ?_
        refine LOps.nil ?_
        refine thn_n ?_
        refine LW.ret ?_
        obtain rfl := Option.some.inj hr
        refine finP_ret (.one (.tmp rfl)) ?_
        exact Conv.p
def F107 (c : Cf) (slot : Int) : Option Bool :=
  (F64 c).bind fun v1 =>
  bif v1 then
    bif decide (slot > 0) then
      some (decide (slot ≤ 1048576))
    else
      some false
  else
    some false
set_option maxRecDepth 100000 in
theorem c107 {c : Cf} {slot : Int} {r_ : Bool} (hr : F107 c slot = some r_) : LPure Try.prog 107 [cfP c, .int .i64 slot] [.bool r_] := by
  refine LPure.start Try.func107 rfl rfl rfl rfl ?_
  unfold F107 at hr
  refine LW.seq ?_
  refine LW.region ?_
  refine LOps.st rfl rfl rfl (LOp.box rfl rfl rfl rfl rfl) ?_
  refine LOps.st rfl rfl rfl (LOp.assign rfl rfl) ?_
  refine LOps.nil ?_
  refine thn_n ?_
  refine LW.seq ?_
  refine LW.region ?_
  refine LOps.st rfl rfl rfl (LOp.load rfl rfl rfl vt55 rfl rfl) ?_
  obtain ⟨v1, h_v1, hr⟩ := bind_get hr
  refine LOps.st rfl rfl rfl (LOp.call rfl rfl rfl (by kernel_rfl) (LC.pure (c64 h_v1) (.cons Conv.p .nil))) ?_
  refine LOps.st rfl rfl rfl (LOp.move rfl rfl) ?_
  refine LOps.cases 7 rfl (fun (g1 : v1 = true) => ?_) (fun (g1 : v1 = false) => ?_)
  · -- g1 is True
    have hr := ite_t g1 hr
    refine LOps.gd rfl rfl rfl (gd g1 rfl) rfl (LOp.move rfl rfl) ?_
    refine LOps.gd rfl rfl rfl (gd g1 rfl) rfl (LOp.bin rfl rfl rfl rfl) ?_
    refine LOps.st rfl rfl rfl (LOp.pickT rfl (gdl g1 rfl) rfl) ?_
    refine LOps.st rfl rfl rfl (LOp.move rfl rfl) ?_
    refine LOps.cases 11 rfl (fun (g2 : (decide (slot > 0)) = true) => ?_) (fun (g2 : (decide (slot > 0)) = false) => ?_)
    · -- g2 is True
      have hr := ite_t g2 hr
      refine LOps.gd rfl rfl rfl (gd g2 rfl) rfl (LOp.move rfl rfl) ?_
      refine LOps.gd rfl rfl rfl (gd g2 rfl) rfl (LOp.bin rfl rfl rfl rfl) ?_
      refine LOps.st rfl rfl rfl (LOp.pickT rfl (gdl g2 rfl) rfl) ?_
      refine LOps.st rfl rfl rfl (LOp.assign rfl rfl) ?_
      refine LOps.nil ?_
      refine thn_n ?_
      refine LW.ret ?_
      obtain rfl := Option.some.inj hr
      refine finP_ret (.one (.tmp rfl)) ?_
      exact Conv.p
    · -- g2 is False
      have hr := ite_f g2 hr
      refine LOps.sk rfl rfl rfl (gd g2 rfl) rfl rfl ?_
      refine LOps.sk rfl rfl rfl (gd g2 rfl) rfl rfl ?_
      refine LOps.st rfl rfl rfl (LOp.pickF rfl (gdl g2 rfl) rfl) ?_
      refine LOps.st rfl rfl rfl (LOp.assign rfl rfl) ?_
      refine LOps.nil ?_
      refine thn_n ?_
      refine LW.ret ?_
      obtain rfl := Option.some.inj hr
      refine finP_ret (.one (.tmp rfl)) ?_
      exact Conv.p
  · -- g1 is False
    have hr := ite_f g1 hr
    refine LOps.sk rfl rfl rfl (gd g1 rfl) rfl rfl ?_
    refine LOps.sk rfl rfl rfl (gd g1 rfl) rfl rfl ?_
    refine LOps.st rfl rfl rfl (LOp.pickF rfl (gdl g1 rfl) rfl) ?_
    refine LOps.st rfl rfl rfl (LOp.move rfl rfl) ?_
    refine LOps.sk rfl rfl rfl rfl rfl rfl ?_
    refine LOps.sk rfl rfl rfl rfl rfl rfl ?_
    refine LOps.st rfl rfl rfl (LOp.pickF rfl rfl rfl) ?_
    refine LOps.st rfl rfl rfl (LOp.assign rfl rfl) ?_
    refine LOps.nil ?_
    refine thn_n ?_
    refine LW.ret ?_
    obtain rfl := Option.some.inj hr
    refine finP_ret (.one (.tmp rfl)) ?_
    exact Conv.p
structure F150_L1 where
  t8 : Int
def F150_s1 (s : List Int) (v : Int) (x1 : F150_L1) : Option (F150_L1 ⊕ (F150_L1 ⊕ Int)) :=
  bif decide (x1.t8 < (s.length : Int)) then
    (ix s x1.t8).bind fun y1 =>
    bif v == y1 then
      some (.inr (.inr x1.t8))
    else
      some (.inl (F150_L1.mk (IntKind.i64.wrap (x1.t8 + 1))))
  else
    some (.inr (.inl (F150_L1.mk x1.t8)))
def F150 (s : List Int) (v : Int) : Option Int :=
  (iter (F150_s1 s v) big (F150_L1.mk 0)).bind fun b_v1 => Sum.elim (fun _ =>
    some (-1)) some b_v1
set_option maxRecDepth 100000 in
theorem c150 {s : List Int} {v : Int} {r_ : Int} (hr : F150 s v = some r_) : LPure Try.prog 150 [.slice 1 (s.map i64P), .int .i64 v] [.int .i64 r_] := by
  refine LPure.start Try.func150 rfl rfl rfl rfl ?_
  unfold F150 at hr
  refine LW.seq ?_
  refine LW.region ?_
  refine LOps.st rfl rfl rfl (LOp.assign rfl rfl) ?_
  refine LOps.nil ?_
  refine thn_n ?_
  refine LW.seq ?_
  refine LW.seq ?_
  refine LW.region ?_
  refine LOps.st rfl rfl rfl (LOp.move rfl rfl) ?_
  refine LOps.st rfl rfl rfl (LOp.lenM rfl rfl (by kernel_rfl)) ?_
  refine LOps.st rfl rfl rfl (LOp.move rfl rfl) ?_
  refine LOps.nil ?_
  refine thn_n ?_
  obtain ⟨b_v1, hb_v1, ho_v1⟩ := bind_get hr
  clear hr
  refine LW.tailB (b := b_v1) (E := fun v1 => [(4, .p (.int .i64 0))]) (O := fun v1 => []) ?_ (fun v1 e_v1 env_v1 H_v1 hw_v1 => ?_)
  · refine LW.block ?_
    refine LW.iterB (E := fun x1 : F150_L1 => [(0, .p (.slice 1 (s.map i64P))), (1, .p (.int .i64 v)), (4, .p (.int .i64 0)), (7, .p (.int .i64 (s.length : Int))), (8, .p (.int .i64 x1.t8))]) (O := fun x1 => []) hb_v1 (Weak.of 0 ⟨rfl, rfl, rfl, rfl, rfl, trivial⟩ rfl rfl rfl rfl) (fun x1 z_x1 hr hb_x1 => ?_)
    unfold F150_s1 at hr
    refine LW.seq ?_
    refine LW.region ?_
    refine LOps.st rfl rfl rfl (LOp.bin rfl rfl rfl rfl) ?_
    refine LOps.nil ?_
    refine thn_n ?_
    refine LW.seq ?_
    refine LW.cond rfl (fun (g1 : (decide (x1.t8 < (s.length : Int))) = true) => ?_) (fun (g1 : (decide (x1.t8 < (s.length : Int))) = false) => ?_)
    · -- g1 is True
      have hr := ite_t g1 hr
      refine LW.skip ?_
      refine thn_n ?_
      refine LW.seq ?_
      refine LW.block ?_
      refine LW.seq ?_
      refine LW.region ?_
      refine LOps.st rfl rfl rfl (LOp.move rfl rfl) ?_
      refine LOps.st rfl rfl rfl (LOp.assign rfl rfl) ?_
      refine LOps.nil ?_
      refine thn_n ?_
      refine LW.seq ?_
      refine LW.region ?_
      refine LOps.st rfl rfl rfl (LOp.move rfl rfl) ?_
      refine LOps.st rfl rfl rfl (LOp.move rfl rfl) ?_
      refine LOps.st rfl rfl rfl (LOp.move rfl rfl) ?_
      obtain ⟨y1, h_y1, hr⟩ := bind_get hr
      refine LOps.st rfl rfl rfl (LOp.indexAddrX rfl rfl rfl st49 h_y1 rfl) ?_
      refine LOps.st rfl rfl rfl (LOp.loadC rfl rfl rfl vt3 rfl rfl) ?_
      refine LOps.st rfl rfl rfl (LOp.bin rfl rfl rfl rfl) ?_
      refine LOps.nil ?_
      refine thn_n ?_
      refine LW.cond rfl (fun (g2 : (v == y1) = true) => ?_) (fun (g2 : (v == y1) = false) => ?_)
      · -- g2 is True
        have hr := ite_t g2 hr
        refine LW.seq ?_
        refine LW.region ?_
        refine LOps.st rfl rfl rfl (LOp.move rfl rfl) ?_
        refine LOps.st rfl rfl rfl (LOp.assign rfl rfl) ?_
        refine LOps.nil ?_
        refine thn_n ?_
        refine LW.ret ?_
        refine inBlk_r ?_
        refine thn_r ?_
        refine thn_r ?_
        refine inBlk_r ?_
        refine thn_r ?_
        refine thn_r ?_
        obtain rfl := Option.some.inj hr
        have hr := congrArg some (hb_x1 _ rfl)
        obtain rfl := Option.some.inj hr
        have hr := sum_r ho_v1
        obtain rfl := Option.some.inj hr
        refine finP_ret (.one (.tmp rfl)) ?_
        exact Conv.p
      · -- g2 is False
        have hr := ite_f g2 hr
        refine LW.skip ?_
        refine inBlk_n ?_
        refine thn_n ?_
        refine LW.region ?_
        refine LOps.st rfl rfl rfl (LOp.bin rfl rfl rfl rfl) ?_
        refine LOps.st rfl rfl rfl (LOp.move rfl rfl) ?_
        refine LOps.nil ?_
        refine thn_n ?_
        obtain rfl := Option.some.inj hr
        exact ⟨_, rfl, Weak.of 0 ⟨rfl, rfl, rfl, rfl, rfl, trivial⟩ rfl rfl rfl rfl⟩
    · -- g1 is False
      have hr := ite_f g1 hr
      refine LW.exit ?_
      refine thn_e ?_
      refine thn_e ?_
      refine inBlk_self ?_
      refine thn_n ?_
      obtain rfl := Option.some.inj hr
      have hr := congrArg some (hb_x1 _ rfl)
      obtain rfl := Option.some.inj hr
      exact ⟨_, rfl, Weak.of 0 ⟨rfl, trivial⟩ rfl rfl rfl rfl⟩
  · obtain rfl := e_v1
    have hr := sum_l ho_v1
    clear hb_v1
    refine thn_n ?_
    refine LW.weak hw_v1 ?_
    refine LW.seq ?_
    refine LW.region ?_
    refine LOps.st rfl rfl rfl (LOp.assign rfl rfl) ?_
    refine LOps.nil ?_
    refine thn_n ?_
    refine LW.ret ?_
    obtain rfl := Option.some.inj hr
    refine finP_ret (.one (.tmp rfl)) ?_
    exact Conv.p
def F119 (s : List Int) (v : Int) : Option Bool :=
  (F150 s v).bind fun v1 =>
  some (decide (v1 ≥ 0))
set_option maxRecDepth 100000 in
theorem c119 {s : List Int} {v : Int} {r_ : Bool} (hr : F119 s v = some r_) : LPure Try.prog 119 [.slice 1 (s.map i64P), .int .i64 v] [.bool r_] := by
  refine LPure.start Try.func119 rfl rfl rfl rfl ?_
  unfold F119 at hr
  refine LW.seq ?_
  refine LW.region ?_
  refine LOps.st rfl rfl rfl (LOp.assign rfl rfl) ?_
  refine LOps.nil ?_
  refine thn_n ?_
  refine LW.seq ?_
  refine LW.region ?_
  refine LOps.st rfl rfl rfl (LOp.move rfl rfl) ?_
  refine LOps.st rfl rfl rfl (LOp.move rfl rfl) ?_
  obtain ⟨v1, h_v1, hr⟩ := bind_get hr
  refine LOps.st rfl rfl rfl (LOp.call rfl rfl rfl (by kernel_rfl) (LC.pure (c150 h_v1) (.cons Conv.p (.cons Conv.p .nil)))) ?_
  refine LOps.st rfl rfl rfl (LOp.bin rfl rfl rfl rfl) ?_
  refine LOps.st rfl rfl rfl (LOp.assign rfl rfl) ?_
  refine LOps.nil ?_
  refine thn_n ?_
  refine LW.ret ?_
  obtain rfl := Option.some.inj hr
  refine finP_ret (.one (.tmp rfl)) ?_
  exact Conv.p
structure F67_L1 where
  i : Int
structure F76_L1 where
  i : Int
structure F71_L1 where
  n : Int
  i : Int
structure F73_L1 where
  n : Int
  i : Int
open Go.Proofs
structure F69_L1 where
  i : Int
  out : List Int
structure F66_L1 where
  i : Int
open Go.Proofs
theorem lenC_len : ∀ H : List LObj, lenC H = some H.length
  | [] => rfl
  | _ :: r => by unfold lenC; rw [lenC_len r]; rfl
theorem appC_app : ∀ (H : List LObj) (o : LObj), appC H o = some (H ++ [o])
  | [], _ => rfl
  | _ :: r, o => by unfold appC; rw [appC_app r o]; rfl
set_option maxRecDepth 100000 in
theorem c112 {c : Cf} {g : FuncId} {first caps : List LV} {H : List LObj} : LC Try.prog 112 [.p (cfP c), .fn g first caps] H (Is (.fn 148 [] [.cptr [.slice 1 (c.W.map i64P), .int .u64 c.Seed, .int .i64 c.Epoch, .int .i64 c.Num, .int .i64 c.Den], .fptr (.fn g first caps)]) H) := by
  refine LC.those Try.func112 rfl rfl rfl ?_
  refine LW.seq ?_
  refine LW.region ?_
  refine LOps.st rfl rfl rfl (LOp.box rfl rfl rfl (lenC_len _) (appC_app _ _)) ?_
  refine LOps.st rfl rfl rfl (LOp.box rfl rfl rfl (lenC_len _) (appC_app _ _)) ?_
  refine LOps.st rfl rfl rfl (LOp.assign rfl rfl) ?_
  refine LOps.nil ?_
  refine thn_n ?_
  refine LW.seq ?_
  refine LW.region ?_
  refine LOps.st rfl rfl rfl (LOp.makeFunc rfl rfl rfl) ?_
  refine LOps.st rfl rfl rfl (LOp.assign rfl rfl) ?_
  refine LOps.nil ?_
  refine thn_n ?_
  refine LW.ret ?_
  refine ⟨.inr rfl, by simp, ?_⟩
  have h : ∀ n : Nat, n = H.length + 1 → ∀ {e : Env} {H2 : List LObj}, e.get 4 = some (.fn 148 [] [.ptr H.length 0, .ptr n 0]) → ResAll Try.prog e H2 Try.f112.results (.fn 148 [] [.ptr H.length 0, .ptr (H.length + 1) 0]) := by
    rintro n rfl e H2 he
    exact .one (.tmp he)
  exact h _ (by simp) rfl
open Go.Proofs
noncomputable def A147 : Code := rfA Try.f147.body
noncomputable def B147 : Code := rfB Try.f147.body
structure F148T_L1 where
  t8 : Int
  o2_0 : Int
structure F148W_L1 where
  t8 : Int
  o4_0 : Int
open Go.Proofs
def F113 (i : Int) (c : Cf) (slot : Int) (at_ : List Int) : Option Bool :=
  (ix at_ i).bind fun y1 =>
  bif decide (c.Epoch ≠ 0) then
    bif decide (c.Epoch ≠ 0) then
      some ((y1.tmod c.Epoch) == (slot.tmod c.Epoch))
    else none
  else none
set_option maxRecDepth 100000 in
theorem cF113 {i : Int} {c : Cf} {slot : Int} {at_ : List Int} {r_ : Bool} (hr : F113 i c slot at_ = some r_) : LC Try.prog 113 [.p (.int .i64 i), .ptr 2 0, .ptr 0 0, .ptr 1 0] [.box [.p (.slice 1 (c.W.map i64P)), .p (.int .u64 c.Seed), .p (.int .i64 c.Epoch), .p (.int .i64 c.Num), .p (.int .i64 c.Den)], .box [.p (.int .i64 slot)], .box [.p (.slice 1 (at_.map i64P))]] (Is (.p (.bool r_)) [.box [.p (.slice 1 (c.W.map i64P)), .p (.int .u64 c.Seed), .p (.int .i64 c.Epoch), .p (.int .i64 c.Num), .p (.int .i64 c.Den)], .box [.p (.int .i64 slot)], .box [.p (.slice 1 (at_.map i64P))]]) := by
  refine LC.start Try.func113 rfl rfl rfl ?_
  unfold F113 at hr
  refine LW.seq ?_
  refine LW.region ?_
  refine LOps.st rfl rfl rfl (LOp.assign rfl rfl) ?_
  refine LOps.nil ?_
  refine thn_n ?_
  refine LW.seq ?_
  refine LW.draw (by kernel_rfl) (by kernel_rfl) ?_
  refine LO.st rfl rfl rfl (LOp.load rfl rfl rfl vt49 rfl rfl) ?_
  refine LO.st rfl rfl rfl (LOp.move rfl rfl) ?_
  obtain ⟨y1, h_y1, hr⟩ := bind_get hr
  refine LO.st rfl rfl rfl (LOp.indexAddrX rfl rfl rfl st49 h_y1 rfl) ?_
  refine LO.st rfl rfl rfl (LOp.loadC rfl rfl rfl vt3 rfl rfl) ?_
  refine LO.st rfl rfl rfl (LOp.fieldAddr rfl rfl ft55_2) ?_
  refine LO.st rfl rfl rfl (LOp.load rfl rfl rfl vt3 rfl rfl) ?_
  obtain ⟨q1, hr⟩ := grd_get hr
  refine LO.st rfl rfl rfl (LOp.rem rfl rfl rfl (of_decide_eq_true q1)) ?_
  refine LO.st rfl rfl rfl (LOp.load rfl rfl rfl vt3 rfl rfl) ?_
  refine LO.st rfl rfl rfl (LOp.fieldAddr rfl rfl ft55_2) ?_
  refine LO.st rfl rfl rfl (LOp.load rfl rfl rfl vt3 rfl rfl) ?_
  obtain ⟨q2, hr⟩ := grd_get hr
  refine LO.st rfl rfl rfl (LOp.rem rfl rfl rfl (of_decide_eq_true q2)) ?_
  refine LO.st rfl rfl rfl (LOp.bin rfl rfl rfl rfl) ?_
  refine LO.st rfl rfl rfl (LOp.assign rfl rfl) ?_
  refine LO.nil ?_
  refine thn_n ?_
  refine LW.ret ?_
  obtain rfl := Option.some.inj hr
  refine fin_ret (.one (.tmp rfl)) ?_
  exact ⟨rfl, rfl⟩
set_option maxRecDepth 100000 in
theorem y147C {c : Cf} {slot : Int} {at_ : List Int} {l : List Int} {i : Int} {o : Oper} {env : Env} {fo xo : Operand} {ats : Array TypeId} (ho : o.op = .call { callee := .value fo, args := #[xo], argTypes := ats }) (hf : lev env fo = some (.yld 6)) (hx : lev env xo = some (.p (.int .i64 i))) (q : room l.length [i].length 8 = true) :
    LOpI Try.prog o env [.box [.p (.slice 1 (c.W.map i64P)), .p (.int .u64 c.Seed), .p (.int .i64 c.Epoch), .p (.int .i64 c.Num), .p (.int .i64 c.Den)], .box [.p (.int .i64 slot)], .box [.p (.slice 1 (at_.map i64P))], .box [.vec 1 4 (l.map i64P).length 0 (l.map i64P).length], .vec 1 (l.map i64P), .defd, .loop false 13 [(2, .ptr 3 0), (4, .zs), (6, .fn 148 [] [.cptr [.slice 1 (c.W.map i64P), .int .u64 c.Seed, .int .i64 c.Epoch, .int .i64 c.Num, .int .i64 c.Den], .fptr (.fn 113 [] [.ptr 2 0, .ptr 0 0, .ptr 1 0])])] #[7] A147 B147] (Is (.p (.bool true)) [.box [.p (.slice 1 (c.W.map i64P)), .p (.int .u64 c.Seed), .p (.int .i64 c.Epoch), .p (.int .i64 c.Num), .p (.int .i64 c.Den)], .box [.p (.int .i64 slot)], .box [.p (.slice 1 (at_.map i64P))], .box [.vec 1 4 ((l ++ [i]).map i64P).length 0 ((l ++ [i]).map i64P).length], .vec 1 ((l ++ [i]).map i64P), .defd, .loop false 13 [(2, .ptr 3 0), (4, .zs), (6, .fn 148 [] [.cptr [.slice 1 (c.W.map i64P), .int .u64 c.Seed, .int .i64 c.Epoch, .int .i64 c.Num, .int .i64 c.Den], .fptr (.fn 113 [] [.ptr 2 0, .ptr 0 0, .ptr 1 0])])] #[7] A147 B147]) := by
  refine LOpI.yield (env2 := (5, .p (.int .i64 i)) :: (7, .p (.int .i64 i)) :: [(2, .ptr 3 0), (4, .zs), (6, .fn 148 [] [.cptr [.slice 1 (c.W.map i64P), .int .u64 c.Seed, .int .i64 c.Epoch, .int .i64 c.Num, .int .i64 c.Den], .fptr (.fn 113 [] [.ptr 2 0, .ptr 0 0, .ptr 1 0])])]) (H2 := [.box [.p (.slice 1 (c.W.map i64P)), .p (.int .u64 c.Seed), .p (.int .i64 c.Epoch), .p (.int .i64 c.Num), .p (.int .i64 c.Den)], .box [.p (.int .i64 slot)], .box [.p (.slice 1 (at_.map i64P))], .box [.vec 1 4 ((l ++ [i]).map i64P).length 0 ((l ++ [i]).map i64P).length], .vec 1 ((l ++ [i]).map i64P), .defd, .loop true 13 [(2, .ptr 3 0), (4, .zs), (6, .fn 148 [] [.cptr [.slice 1 (c.W.map i64P), .int .u64 c.Seed, .int .i64 c.Epoch, .int .i64 c.Num, .int .i64 c.Den], .fptr (.fn 113 [] [.ptr 2 0, .ptr 0 0, .ptr 1 0])])] #[7] A147 B147]) ho hf hx rfl rfl (by kernel_rfl) (by kernel_rfl) rfl (LRg.plain ?_) (LRg.plain ?_) rfl rfl
  · refine LOps.st rfl rfl rfl (LOp.assign rfl rfl) ?_
    exact LOps.nil ⟨rfl, rfl, rfl⟩
  · refine LOps.st rfl rfl rfl (LOp.load rfl rfl rfl vt49 rfl rfl) ?_
    refine LOps.st rfl rfl rfl (LOp.move rfl rfl) ?_
    refine LOps.st rfl rfl rfl (LOp.buildSlice rfl st49 rfl rfl rfl rfl rfl) ?_
    refine LOps.st rfl rfl rfl (LOp.appendX i64P l [i] rfl rfl rfl rfl Src.p rfl st49 q rfl) ?_
    refine LOps.st rfl rfl rfl (LOp.store rfl rfl rfl rfl vt49 rfl rfl rfl rfl) ?_
    refine LOps.nil ?_
    exact ⟨rfl, rfl⟩
structure F148C_L1 where
  t8 : Int
  o4 : List Int
def F148C_s1 (c : Cf) (slot : Int) (at_ : List Int) (x1 : F148C_L1) : Option (F148C_L1 ⊕ F148C_L1) :=
  bif decide (x1.t8 < (c.W.length : Int)) then
    (F113 x1.t8 c slot at_).bind fun v2 =>
    bif v2 then
      bif room x1.o4.length [x1.t8].length 8 then
        some (.inl (F148C_L1.mk (IntKind.i64.wrap (x1.t8 + 1)) (x1.o4 ++ [x1.t8])))
      else none
    else
      some (.inl (F148C_L1.mk (IntKind.i64.wrap (x1.t8 + 1)) x1.o4))
  else
    some (.inr (F148C_L1.mk x1.t8 x1.o4))
def F148C (c : Cf) (slot : Int) (at_ : List Int) (l : List Int) : Option (List Int) :=
  (iter (F148C_s1 c slot at_) big (F148C_L1.mk 0 l)).bind fun v1 =>
  some v1.o4
set_option maxRecDepth 100000 in
theorem cF148C {c : Cf} {slot : Int} {at_ : List Int} {l : List Int} {r_ : List Int} (hr : F148C c slot at_ l = some r_) : LC Try.prog 148 [.yld 6, .cptr [.slice 1 (c.W.map i64P), .int .u64 c.Seed, .int .i64 c.Epoch, .int .i64 c.Num, .int .i64 c.Den], .fptr (.fn 113 [] [.ptr 2 0, .ptr 0 0, .ptr 1 0])] [.box [.p (.slice 1 (c.W.map i64P)), .p (.int .u64 c.Seed), .p (.int .i64 c.Epoch), .p (.int .i64 c.Num), .p (.int .i64 c.Den)], .box [.p (.int .i64 slot)], .box [.p (.slice 1 (at_.map i64P))], .box [.vec 1 4 (l.map i64P).length 0 (l.map i64P).length], .vec 1 (l.map i64P), .defd, .loop false 13 [(2, .ptr 3 0), (4, .zs), (6, .fn 148 [] [.cptr [.slice 1 (c.W.map i64P), .int .u64 c.Seed, .int .i64 c.Epoch, .int .i64 c.Num, .int .i64 c.Den], .fptr (.fn 113 [] [.ptr 2 0, .ptr 0 0, .ptr 1 0])])] #[7] A147 B147] (Is (.tup []) [.box [.p (.slice 1 (c.W.map i64P)), .p (.int .u64 c.Seed), .p (.int .i64 c.Epoch), .p (.int .i64 c.Num), .p (.int .i64 c.Den)], .box [.p (.int .i64 slot)], .box [.p (.slice 1 (at_.map i64P))], .box [.vec 1 4 (r_.map i64P).length 0 (r_.map i64P).length], .vec 1 (r_.map i64P), .defd, .loop false 13 [(2, .ptr 3 0), (4, .zs), (6, .fn 148 [] [.cptr [.slice 1 (c.W.map i64P), .int .u64 c.Seed, .int .i64 c.Epoch, .int .i64 c.Num, .int .i64 c.Den], .fptr (.fn 113 [] [.ptr 2 0, .ptr 0 0, .ptr 1 0])])] #[7] A147 B147]) := by
  refine LC.start Try.func148 rfl rfl rfl ?_
  unfold F148C at hr
  refine LW.seq ?_
  refine LW.region ?_
  refine LOps.st rfl rfl rfl (LOp.fieldAddrC rfl rfl ft55_0 rfl) ?_
  refine LOps.st rfl rfl rfl (LOp.loadC rfl rfl rfl vt49 rfl rfl) ?_
  refine LOps.st rfl rfl rfl (LOp.lenM rfl rfl (by kernel_rfl)) ?_
  refine LOps.st rfl rfl rfl (LOp.move rfl rfl) ?_
  refine LOps.nil ?_
  refine thn_n ?_
  obtain ⟨v1, hb_v1, ho_v1⟩ := bind_get hr
  clear hr
  refine LW.tail (E := []) (O := [.box [.p (.slice 1 (c.W.map i64P)), .p (.int .u64 c.Seed), .p (.int .i64 c.Epoch), .p (.int .i64 c.Num), .p (.int .i64 c.Den)], .box [.p (.int .i64 slot)], .box [.p (.slice 1 (at_.map i64P))], .box [.vec 1 4 (v1.o4.map i64P).length 0 (v1.o4.map i64P).length], .vec 1 (v1.o4.map i64P), .defd, .loop false 13 [(2, .ptr 3 0), (4, .zs), (6, .fn 148 [] [.cptr [.slice 1 (c.W.map i64P), .int .u64 c.Seed, .int .i64 c.Epoch, .int .i64 c.Num, .int .i64 c.Den], .fptr (.fn 113 [] [.ptr 2 0, .ptr 0 0, .ptr 1 0])])] #[7] A147 B147]) ?_ (fun env_v1 H_v1 hw_v1 => ?_)
  · refine LW.block ?_
    refine LW.iterB (E := fun x1 : F148C_L1 => [(0, .yld 6), (2, .fptr (.fn 113 [] [.ptr 2 0, .ptr 0 0, .ptr 1 0])), (7, .p (.int .i64 (c.W.length : Int))), (8, .p (.int .i64 x1.t8))]) (O := fun x1 => [.box [.p (.slice 1 (c.W.map i64P)), .p (.int .u64 c.Seed), .p (.int .i64 c.Epoch), .p (.int .i64 c.Num), .p (.int .i64 c.Den)], .box [.p (.int .i64 slot)], .box [.p (.slice 1 (at_.map i64P))], .box [.vec 1 4 (x1.o4.map i64P).length 0 (x1.o4.map i64P).length], .vec 1 (x1.o4.map i64P), .defd, .loop false 13 [(2, .ptr 3 0), (4, .zs), (6, .fn 148 [] [.cptr [.slice 1 (c.W.map i64P), .int .u64 c.Seed, .int .i64 c.Epoch, .int .i64 c.Num, .int .i64 c.Den], .fptr (.fn 113 [] [.ptr 2 0, .ptr 0 0, .ptr 1 0])])] #[7] A147 B147]) hb_v1 (Weak.of 7 ⟨rfl, rfl, rfl, rfl, trivial⟩ rfl rfl rfl rfl) (fun x1 z_x1 hr hb_x1 => ?_)
    unfold F148C_s1 at hr
    refine LW.seq ?_
    refine LW.region ?_
    refine LOps.st rfl rfl rfl (LOp.bin rfl rfl rfl rfl) ?_
    refine LOps.nil ?_
    refine thn_n ?_
    refine LW.seq ?_
    refine LW.cond rfl (fun (g1 : (decide (x1.t8 < (c.W.length : Int))) = true) => ?_) (fun (g1 : (decide (x1.t8 < (c.W.length : Int))) = false) => ?_)
    · -- g1 is True
      have hr := ite_t g1 hr
      refine LW.skip ?_
      refine thn_n ?_
      refine LW.seq ?_
      refine LW.block ?_
      refine LW.seq ?_
      refine LW.region ?_
      refine LOps.st rfl rfl rfl (LOp.move rfl rfl) ?_
      refine LOps.st rfl rfl rfl (LOp.assign rfl rfl) ?_
      refine LOps.nil ?_
      refine thn_n ?_
      refine LW.seq ?_
      refine LW.regionI ?_
      refine LOpsI.st rfl rfl rfl (LOpI.of (LOp.loadF rfl rfl vt131) rfl) ?_
      refine LOpsI.st rfl rfl rfl (LOpI.of (LOp.move rfl rfl) rfl) ?_
      obtain ⟨v2, h_v2, hr⟩ := bind_get hr
      refine LOpsI.st rfl rfl rfl (LOpI.of (LOp.call rfl rfl rfl (by kernel_rfl) (LC.pre (cF113 h_v2) rfl rfl rfl)) rfl) ?_
      refine LOpsI.st rfl rfl rfl (LOpI.of (LOp.move rfl rfl) rfl) ?_
      refine LOpsI.cases 14 rfl (fun (g2 : v2 = true) => ?_) (fun (g2 : v2 = false) => ?_)
      · -- g2 is True
        have hr := ite_t g2 hr
        refine LOpsI.gd rfl rfl rfl (gd g2 rfl) rfl (LOpI.of (LOp.move rfl rfl) rfl) ?_
        refine LOpsI.gd rfl rfl rfl (gd g2 rfl) rfl (LOpI.of (LOp.move rfl rfl) rfl) ?_
        obtain ⟨q1, hr⟩ := grd_get hr
        refine LOpsI.gd rfl rfl rfl (gd g2 rfl) rfl (y147C rfl rfl rfl q1) ?_
        refine LOpsI.gd rfl rfl rfl (gd g2 rfl) rfl (LOpI.of (LOp.not rfl rfl) rfl) ?_
        refine LOpsI.st rfl rfl rfl (LOpI.of (LOp.pickT rfl (gdl g2 rfl) rfl) rfl) ?_
        refine LOpsI.nil ?_
        refine thn_n ?_
        refine LW.condF rfl ?_
        refine LW.skip ?_
        refine inBlk_n ?_
        refine thn_n ?_
        refine LW.region ?_
        refine LOps.st rfl rfl rfl (LOp.bin rfl rfl rfl rfl) ?_
        refine LOps.st rfl rfl rfl (LOp.move rfl rfl) ?_
        refine LOps.nil ?_
        refine thn_n ?_
        obtain rfl := Option.some.inj hr
        exact ⟨_, rfl, Weak.of 7 ⟨rfl, rfl, rfl, rfl, trivial⟩ rfl rfl rfl rfl⟩
      · -- g2 is False
        have hr := ite_f g2 hr
        refine LOpsI.sk rfl rfl rfl (gd g2 rfl) rfl rfl ?_
        refine LOpsI.sk rfl rfl rfl (gd g2 rfl) rfl rfl ?_
        refine LOpsI.sk rfl rfl rfl (gd g2 rfl) rfl rfl ?_
        refine LOpsI.sk rfl rfl rfl (gd g2 rfl) rfl rfl ?_
        refine LOpsI.st rfl rfl rfl (LOpI.of (LOp.pickF rfl (gdl g2 rfl) rfl) rfl) ?_
        refine LOpsI.nil ?_
        refine thn_n ?_
        refine LW.condF rfl ?_
        refine LW.skip ?_
        refine inBlk_n ?_
        refine thn_n ?_
        refine LW.region ?_
        refine LOps.st rfl rfl rfl (LOp.bin rfl rfl rfl rfl) ?_
        refine LOps.st rfl rfl rfl (LOp.move rfl rfl) ?_
        refine LOps.nil ?_
        refine thn_n ?_
        obtain rfl := Option.some.inj hr
        exact ⟨_, rfl, Weak.of 7 ⟨rfl, rfl, rfl, rfl, trivial⟩ rfl rfl rfl rfl⟩
    · -- g1 is False
      have hr := ite_f g1 hr
      refine LW.exit ?_
      refine thn_e ?_
      refine thn_e ?_
      refine inBlk_self ?_
      refine thn_n ?_
      obtain rfl := Option.some.inj hr
      have hr := congrArg some (hb_x1 _ rfl)
      obtain rfl := Option.some.inj hr
      exact Weak.of 7 trivial rfl rfl rfl rfl
  · have hr := ho_v1
    clear hb_v1
    obtain rfl := Option.some.inj hr
    exact fin_endW hw_v1 .none ⟨rfl, rfl⟩
def F147C (c : Cf) (slot : Int) (at_ : List Int) : Option (List Int) :=
  (F148C c slot at_ []).bind fun v1 =>
  some v1
set_option maxRecDepth 100000 in
theorem cF147C {c : Cf} {slot : Int} {at_ : List Int} {r_ : List Int} (hr : F147C c slot at_ = some r_) : LC Try.prog 147 [.zs, .fn 148 [] [.cptr [.slice 1 (c.W.map i64P), .int .u64 c.Seed, .int .i64 c.Epoch, .int .i64 c.Num, .int .i64 c.Den], .fptr (.fn 113 [] [.ptr 2 0, .ptr 0 0, .ptr 1 0])]] [.box [.p (.slice 1 (c.W.map i64P)), .p (.int .u64 c.Seed), .p (.int .i64 c.Epoch), .p (.int .i64 c.Num), .p (.int .i64 c.Den)], .box [.p (.int .i64 slot)], .box [.p (.slice 1 (at_.map i64P))]] (Is (.vec 1 4 (r_.map i64P).length 0 (r_.map i64P).length) [.box [.p (.slice 1 (c.W.map i64P)), .p (.int .u64 c.Seed), .p (.int .i64 c.Epoch), .p (.int .i64 c.Num), .p (.int .i64 c.Den)], .box [.p (.int .i64 slot)], .box [.p (.slice 1 (at_.map i64P))], .box [.vec 1 4 (r_.map i64P).length 0 (r_.map i64P).length], .vec 1 (r_.map i64P), .dead, .dead]) := by
  refine LC.ofM Try.func147 rfl rfl rfl ?_
  unfold F147C at hr
  refine LWm.seqW ?_
  refine LW.region ?_
  refine LOps.st rfl rfl rfl (LOp.box rfl rfl rfl rfl rfl) ?_
  refine LOps.st rfl rfl rfl (LOp.assign rfl rfl) ?_
  refine LOps.nil ?_
  refine thn_n ?_
  refine LWm.seq ?_
  refine LWm.seqW ?_
  refine LW.region ?_
  refine LOps.st rfl rfl rfl (LOp.move rfl rfl) ?_
  refine LOps.nil ?_
  refine thn_n ?_
  refine LWm.ent (Ent.lazyCell (i := 3) (j := 0) (m := 1) rfl rfl rfl rfl rfl rfl) ?_
  refine LWm.weak (env' := [(2, .ptr 3 0), (4, .zs), (6, .fn 148 [] [.cptr [.slice 1 (c.W.map i64P), .int .u64 c.Seed, .int .i64 c.Epoch, .int .i64 c.Num, .int .i64 c.Den], .fptr (.fn 113 [] [.ptr 2 0, .ptr 0 0, .ptr 1 0])])]) (H' := [.box [.p (.slice 1 (c.W.map i64P)), .p (.int .u64 c.Seed), .p (.int .i64 c.Epoch), .p (.int .i64 c.Num), .p (.int .i64 c.Den)], .box [.p (.int .i64 slot)], .box [.p (.slice 1 (at_.map i64P))], .box [.vec 1 4 (([] : List Int).map i64P).length 0 (([] : List Int).map i64P).length], .vec 1 (([] : List Int).map i64P)]) (Weak.of 5 ⟨rfl, rfl, rfl, trivial⟩ rfl rfl rfl rfl) ?_
  refine LWm.block ?_
  obtain ⟨v1, h_v1, hr⟩ := bind_get hr
  refine LWm.rangeFunc rfl (by kernel_rfl) rfl (cF148C h_v1) rfl rfl rfl ?_
  refine ⟨rfl, ?_⟩
  refine thnM_n ?_
  refine LWm.seq ?_
  refine LWm.region ?_
  refine LOpsM.st rfl rfl rfl (LOp.load rfl rfl rfl vt49 rfl rfl) rfl ?_
  refine LOpsM.st rfl rfl rfl (LOp.assign rfl rfl) rfl ?_
  refine LOpsM.nil ?_
  refine thnM_n ?_
  refine LWm.ret ?_
  obtain rfl := Option.some.inj hr
  exact ⟨.inr rfl, _, [(4, .vec 1 4 (v1.map i64P).length 0 (v1.map i64P).length)], [.box [.p (.slice 1 (c.W.map i64P)), .p (.int .u64 c.Seed), .p (.int .i64 c.Epoch), .p (.int .i64 c.Num), .p (.int .i64 c.Den)], .box [.p (.int .i64 slot)], .box [.p (.slice 1 (at_.map i64P))], .box [.vec 1 4 (v1.map i64P).length 0 (v1.map i64P).length], .vec 1 (v1.map i64P), .dead, .dead], _, rfl, Weak.of 7 ⟨rfl, trivial⟩ rfl rfl rfl rfl, (.one (.tmp rfl)), ⟨rfl, rfl⟩⟩
def F111C (c : Cf) (slot : Int) (at_ : List Int) : Option (List Int) :=
  (F147C c slot at_).bind fun v1 =>
  some v1
set_option maxRecDepth 100000 in
theorem cF111C {c : Cf} {slot : Int} {at_ : List Int} {r_ : List Int} (hr : F111C c slot at_ = some r_) : LC Try.prog 111 [.fn 148 [] [.cptr [.slice 1 (c.W.map i64P), .int .u64 c.Seed, .int .i64 c.Epoch, .int .i64 c.Num, .int .i64 c.Den], .fptr (.fn 113 [] [.ptr 2 0, .ptr 0 0, .ptr 1 0])]] [.box [.p (.slice 1 (c.W.map i64P)), .p (.int .u64 c.Seed), .p (.int .i64 c.Epoch), .p (.int .i64 c.Num), .p (.int .i64 c.Den)], .box [.p (.int .i64 slot)], .box [.p (.slice 1 (at_.map i64P))]] (Is (.vec 1 4 (r_.map i64P).length 0 (r_.map i64P).length) [.box [.p (.slice 1 (c.W.map i64P)), .p (.int .u64 c.Seed), .p (.int .i64 c.Epoch), .p (.int .i64 c.Num), .p (.int .i64 c.Den)], .box [.p (.int .i64 slot)], .box [.p (.slice 1 (at_.map i64P))], .box [.vec 1 4 (r_.map i64P).length 0 (r_.map i64P).length], .vec 1 (r_.map i64P), .dead, .dead]) := by
  refine LC.start Try.func111 rfl rfl rfl ?_
  unfold F111C at hr
  refine LW.seq ?_
  refine LW.region ?_
  refine LOps.st rfl rfl rfl (LOp.assign rfl rfl) ?_
  refine LOps.nil ?_
  refine thn_n ?_
  refine LW.seq ?_
  refine LW.region ?_
  refine LOps.st rfl rfl rfl (LOp.move rfl rfl) ?_
  obtain ⟨v1, h_v1, hr⟩ := bind_get hr
  refine LOps.st rfl rfl rfl (LOp.call rfl rfl rfl (by kernel_rfl) (cF147C h_v1)) ?_
  refine LOps.st rfl rfl rfl (LOp.assign rfl rfl) ?_
  refine LOps.nil ?_
  refine thn_n ?_
  refine LW.ret ?_
  obtain rfl := Option.some.inj hr
  refine fin_ret (.one (.tmp rfl)) ?_
  exact ⟨rfl, rfl⟩
open Go.Proofs
structure F70_L1 where
  t11 : Int
  o1 : List (Int × Bool)
def F65 (c : Cf) (slot : Int) : Option (List Int) :=
  (F107 c slot).bind fun v1 =>
  bif !v1 then
    some []
  else
    bif decide (c.Epoch ≠ 0) then
      (F60 (step c.Seed (IntKind.u64.wrap (IntKind.i64.wrap (slot.tdiv c.Epoch)))) (c.W.length : Int)).bind fun v2 =>
      (F111C c slot v2).bind fun v3 =>
      some v3
    else none
set_option maxRecDepth 100000 in
theorem c65 {c : Cf} {slot : Int} {r_ : (List Int)} (hr : F65 c slot = some r_) : LPure Try.prog 65 [cfP c, .int .i64 slot] [.slice 1 (r_.map i64P)] := by
  refine LPure.start Try.func65 rfl rfl rfl rfl ?_
  unfold F65 at hr
  refine LW.seq ?_
  refine LW.region ?_
  refine LOps.st rfl rfl rfl (LOp.box rfl rfl rfl rfl rfl) ?_
  refine LOps.st rfl rfl rfl (LOp.box rfl rfl rfl rfl rfl) ?_
  refine LOps.st rfl rfl rfl (LOp.assign rfl rfl) ?_
  refine LOps.nil ?_
  refine thn_n ?_
  refine LW.seq ?_
  refine LW.seq ?_
  refine LW.region ?_
  refine LOps.st rfl rfl rfl (LOp.load rfl rfl rfl vt55 rfl rfl) ?_
  refine LOps.st rfl rfl rfl (LOp.load rfl rfl rfl vt3 rfl rfl) ?_
  obtain ⟨v1, h_v1, hr⟩ := bind_get hr
  refine LOps.st rfl rfl rfl (LOp.call rfl rfl rfl (by kernel_rfl) (LC.pure (c107 h_v1) (.cons Conv.p (.cons Conv.p .nil)))) ?_
  refine LOps.st rfl rfl rfl (LOp.not rfl rfl) ?_
  refine LOps.nil ?_
  refine thn_n ?_
  refine LW.cond rfl (fun (g1 : (!v1) = true) => ?_) (fun (g1 : (!v1) = false) => ?_)
  · -- g1 is True
    have hr := ite_t g1 hr
    refine LW.seq ?_
    refine LW.region ?_
    refine LOps.st rfl rfl rfl (LOp.assign rfl rfl) ?_
    refine LOps.nil ?_
    refine thn_n ?_
    refine LW.ret ?_
    refine thn_r ?_
    obtain rfl := Option.some.inj hr
    refine finP_ret (.one (.tmp rfl)) ?_
    exact Conv.zs
  · -- g1 is False
    have hr := ite_f g1 hr
    refine LW.skip ?_
    refine thn_n ?_
    refine LW.seq ?_
    refine LW.ent (Ent.slot rfl) ?_
    refine LW.drawW (by kernel_rfl) (by kernel_rfl) ?_
    refine LF.st (F := []) (s := none) rfl rfl rfl (fun H _ => LOp.fieldAddr rfl rfl ft55_1) rfl ?_
    refine LF.st rfl rfl rfl (LAt.load rfl rfl rfl vt22 rfl rfl) rfl ?_
    refine LF.st rfl rfl rfl (LAt.load rfl rfl rfl vt3 rfl rfl) rfl ?_
    refine LF.st (F := []) (s := none) rfl rfl rfl (fun H _ => LOp.fieldAddr rfl rfl ft55_2) rfl ?_
    refine LF.st rfl rfl rfl (LAt.load rfl rfl rfl vt3 rfl rfl) rfl ?_
    obtain ⟨q1, hr⟩ := grd_get hr
    refine LF.st (F := []) (s := none) rfl rfl rfl (fun H _ => LOp.quo rfl rfl rfl (of_decide_eq_true q1)) rfl ?_
    refine LF.st (F := []) (s := none) rfl rfl rfl (fun H _ => LOp.convert (k' := .u64) rfl rfl (by kernel_rfl)) rfl ?_
    refine LF.st (F := []) (s := none) rfl rfl rfl (fun H _ => LOp.call rfl rfl rfl (by kernel_rfl) (LC.pure (c108 (h := c.Seed) (x := (IntKind.u64.wrap (IntKind.i64.wrap (slot.tdiv c.Epoch))))) (.cons Conv.p (.cons Conv.p .nil)))) rfl ?_
    refine LF.st (F := []) (s := none) rfl rfl rfl (fun H _ => LOp.fieldAddr rfl rfl ft55_0) rfl ?_
    refine LF.st rfl rfl rfl (LAt.load rfl rfl rfl vt49 rfl rfl) rfl ?_
    refine LF.st (F := []) (s := none) rfl rfl rfl (fun H _ => LOp.lenM rfl rfl (by kernel_rfl)) rfl ?_
    obtain ⟨v2, h_v2, hr⟩ := bind_get hr
    refine LF.st (F := []) (s := none) rfl rfl rfl (fun H _ => LOp.call rfl rfl rfl (by kernel_rfl) (LC.pure (c60 h_v2) (.cons Conv.p (.cons Conv.p .nil)))) rfl ?_
    refine LF.st rfl rfl rfl (LAt.alloc rfl zt49 (id := 2) rfl) rfl ?_
    refine LF.st rfl rfl rfl (LAt.store rfl rfl rfl rfl vt49 rfl rfl rfl) rfl ?_
    refine LF.nil ⟨by kernel_rfl, ?_⟩
    refine thn_n ?_
    refine LW.seq ?_
    refine LW.region ?_
    refine LOps.st rfl rfl rfl (LOp.load rfl rfl rfl vt55 rfl rfl) ?_
    refine LOps.st rfl rfl rfl (LOp.makeFunc rfl rfl rfl) ?_
    refine LOps.st rfl rfl rfl (LOp.call rfl rfl rfl (by kernel_rfl) (c112 (c := c))) ?_
    obtain ⟨v3, h_v3, hr⟩ := bind_get hr
    refine LOps.st rfl rfl rfl (LOp.call rfl rfl rfl (by kernel_rfl) (cF111C h_v3)) ?_
    refine LOps.st rfl rfl rfl (LOp.assign rfl rfl) ?_
    refine LOps.nil ?_
    refine thn_n ?_
    refine LW.ret ?_
    obtain rfl := Option.some.inj hr
    refine finP_ret (.one (.tmp rfl)) ?_
    exact (Conv.vecAll rfl rfl rfl)
def F63 (c : Cf) (slot : Int) : Option Int :=
  (F107 c slot).bind fun v1 =>
  bif !v1 then
    some (-1)
  else
    bif decide ((IntKind.u64.wrap ((c.W.length : Int))) ≠ 0) then
      some (IntKind.i64.wrap ((step (step c.Seed 4294967296) (IntKind.u64.wrap (slot))).tmod (IntKind.u64.wrap ((c.W.length : Int)))))
    else none
set_option maxRecDepth 100000 in
theorem c63 {c : Cf} {slot : Int} {r_ : Int} (hr : F63 c slot = some r_) : LPure Try.prog 63 [cfP c, .int .i64 slot] [.int .i64 r_] := by
  refine LPure.start Try.func63 rfl rfl rfl rfl ?_
  unfold F63 at hr
  refine LW.seq ?_
  refine LW.region ?_
  refine LOps.st rfl rfl rfl (LOp.box rfl rfl rfl rfl rfl) ?_
  refine LOps.st rfl rfl rfl (LOp.assign rfl rfl) ?_
  refine LOps.nil ?_
  refine thn_n ?_
  refine LW.seq ?_
  refine LW.seq ?_
  refine LW.region ?_
  refine LOps.st rfl rfl rfl (LOp.load rfl rfl rfl vt55 rfl rfl) ?_
  refine LOps.st rfl rfl rfl (LOp.move rfl rfl) ?_
  obtain ⟨v1, h_v1, hr⟩ := bind_get hr
  refine LOps.st rfl rfl rfl (LOp.call rfl rfl rfl (by kernel_rfl) (LC.pure (c107 h_v1) (.cons Conv.p (.cons Conv.p .nil)))) ?_
  refine LOps.st rfl rfl rfl (LOp.not rfl rfl) ?_
  refine LOps.nil ?_
  refine thn_n ?_
  refine LW.cond rfl (fun (g1 : (!v1) = true) => ?_) (fun (g1 : (!v1) = false) => ?_)
  · -- g1 is True
    have hr := ite_t g1 hr
    refine LW.seq ?_
    refine LW.region ?_
    refine LOps.st rfl rfl rfl (LOp.assign rfl rfl) ?_
    refine LOps.nil ?_
    refine thn_n ?_
    refine LW.ret ?_
    refine thn_r ?_
    obtain rfl := Option.some.inj hr
    refine finP_ret (.one (.tmp rfl)) ?_
    exact Conv.p
  · -- g1 is False
    have hr := ite_f g1 hr
    refine LW.skip ?_
    refine thn_n ?_
    refine LW.seq ?_
    refine LW.draw (by kernel_rfl) (by kernel_rfl) ?_
    refine LO.st rfl rfl rfl (LOp.fieldAddr rfl rfl ft55_1) ?_
    refine LO.st rfl rfl rfl (LOp.load rfl rfl rfl vt22 rfl rfl) ?_
    refine LO.st rfl rfl rfl (LOp.call rfl rfl rfl (by kernel_rfl) (LC.pure (c108 (h := c.Seed) (x := 4294967296)) (.cons Conv.p (.cons Conv.p .nil)))) ?_
    refine LO.st rfl rfl rfl (LOp.move rfl rfl) ?_
    refine LO.st rfl rfl rfl (LOp.convert (k' := .u64) rfl rfl (by kernel_rfl)) ?_
    refine LO.st rfl rfl rfl (LOp.call rfl rfl rfl (by kernel_rfl) (LC.pure (c108 (h := (step c.Seed 4294967296)) (x := (IntKind.u64.wrap (slot)))) (.cons Conv.p (.cons Conv.p .nil)))) ?_
    refine LO.st rfl rfl rfl (LOp.fieldAddr rfl rfl ft55_0) ?_
    refine LO.st rfl rfl rfl (LOp.load rfl rfl rfl vt49 rfl rfl) ?_
    refine LO.st rfl rfl rfl (LOp.lenM rfl rfl (by kernel_rfl)) ?_
    refine LO.st rfl rfl rfl (LOp.convert (k' := .u64) rfl rfl (by kernel_rfl)) ?_
    obtain ⟨q1, hr⟩ := grd_get hr
    refine LO.st rfl rfl rfl (LOp.rem rfl rfl rfl (of_decide_eq_true q1)) ?_
    refine LO.st rfl rfl rfl (LOp.convert (k' := .i64) rfl rfl (by kernel_rfl)) ?_
    refine LO.st rfl rfl rfl (LOp.assign rfl rfl) ?_
    refine LO.nil ?_
    refine thn_n ?_
    refine LW.ret ?_
    obtain rfl := Option.some.inj hr
    refine finP_ret (.one (.tmp rfl)) ?_
    exact Conv.p
def F74 (c : Cf) (slot : Int) (who : Int) : Option Bool :=
  (F65 c slot).bind fun v1 =>
  (F119 v1 who).bind fun v2 =>
  some v2
set_option maxRecDepth 100000 in
theorem c74 {c : Cf} {slot : Int} {who : Int} {r_ : Bool} (hr : F74 c slot who = some r_) : LPure Try.prog 74 [cfP c, .int .i64 slot, .int .i64 who] [.bool r_] := by
  refine LPure.start Try.func74 rfl rfl rfl rfl ?_
  unfold F74 at hr
  refine LW.seq ?_
  refine LW.region ?_
  refine LOps.st rfl rfl rfl (LOp.box rfl rfl rfl rfl rfl) ?_
  refine LOps.st rfl rfl rfl (LOp.assign rfl rfl) ?_
  refine LOps.nil ?_
  refine thn_n ?_
  refine LW.seq ?_
  refine LW.region ?_
  refine LOps.st rfl rfl rfl (LOp.load rfl rfl rfl vt55 rfl rfl) ?_
  refine LOps.st rfl rfl rfl (LOp.move rfl rfl) ?_
  obtain ⟨v1, h_v1, hr⟩ := bind_get hr
  refine LOps.st rfl rfl rfl (LOp.call rfl rfl rfl (by kernel_rfl) (LC.pure (c65 h_v1) (.cons Conv.p (.cons Conv.p .nil)))) ?_
  refine LOps.st rfl rfl rfl (LOp.move rfl rfl) ?_
  obtain ⟨v2, h_v2, hr⟩ := bind_get hr
  refine LOps.st rfl rfl rfl (LOp.call rfl rfl rfl (by kernel_rfl) (LC.pure (c119 h_v2) (.cons Conv.p (.cons Conv.p .nil)))) ?_
  refine LOps.st rfl rfl rfl (LOp.assign rfl rfl) ?_
  refine LOps.nil ?_
  refine thn_n ?_
  refine LW.ret ?_
  obtain rfl := Option.some.inj hr
  refine finP_ret (.one (.tmp rfl)) ?_
  exact Conv.p
end Go.Mg
