/- Weights of blocks, heads: what stands alone, and the reference. Weights of blocks; the head. GhostTells. Plain laws of weights on blocks, and of the head: the program's side. Plain laws of weights on blocks, and of the head: the reference, and that both tell the same. Conditions: blocks' numbers are of their kinds; not too many of all. GhostTells: the plain law. Conditions: blocks' numbers are of their kinds. Conditions: none. -/
import Derived.Test.YtlhocfhoocmfiaaD1
import Derived.Test.YtlhocfhoocmfiaaS1
import Derived.Test.YtlhocfhoocmfiaaD2
import Derived.Test.YtlhocfhoocmfiaaL3
import Derived.Test.YtlhocfhoocmfiaaR1
namespace Go.Mg
open Go.Proofs
def F175 (x : Int) : Option Bool :=
  some (x != x)
set_option maxRecDepth 100000 in
theorem c175 {x : Int} {r_ : Bool} (hr : F175 x = some r_) : LPure Try.prog 175 [.int .u64 x] [.bool r_] := by
  refine LPure.start Try.func175 rfl rfl rfl rfl ?_
  unfold F175 at hr
  refine LW.seq ?_
  refine LW.region ?_
  refine LOps.st rfl rfl rfl (LOp.assign rfl rfl) ?_
  refine LOps.nil ?_
  refine thn_n ?_
  refine LW.seq ?_
  refine LW.region ?_
  refine LOps.st rfl rfl rfl (LOp.move rfl rfl) ?_
  refine LOps.st rfl rfl rfl (LOp.move rfl rfl) ?_
  refine LOps.st rfl rfl rfl (LOp.bin rfl rfl rfl rfl) ?_
  refine LOps.st rfl rfl rfl (LOp.assign rfl rfl) ?_
  refine LOps.nil ?_
  refine thn_n ?_
  refine LW.ret ?_
  obtain rfl := Option.some.inj hr
  refine finP_ret (.one (.tmp rfl)) ?_
  exact Conv.p
def F168 (x : Int) (y : Int) : Option Int :=
  (F175 x).bind fun v1 =>
  (F175 y).bind fun v2 =>
  bif v1 then
    bif v2 then
      some 0
    else
      some (-1)
  else
    bif v2 then
      some 1
    else
      bif decide (x < y) then
        some (-1)
      else
        bif decide (x > y) then
          some 1
        else
          some 0
set_option maxRecDepth 100000 in
theorem c168 {x : Int} {y : Int} {r_ : Int} (hr : F168 x y = some r_) : LPure Try.prog 168 [.int .u64 x, .int .u64 y] [.int .i64 r_] := by
  refine LPure.start Try.func168 rfl rfl rfl rfl ?_
  unfold F168 at hr
  refine LW.seq ?_
  refine LW.region ?_
  refine LOps.st rfl rfl rfl (LOp.assign rfl rfl) ?_
  refine LOps.nil ?_
  refine thn_n ?_
  refine LW.seq ?_
  refine LW.region ?_
  refine LOps.st rfl rfl rfl (LOp.move rfl rfl) ?_
  obtain ⟨v1, h_v1, hr⟩ := bind_get hr
  refine LOps.st rfl rfl rfl (LOp.call rfl rfl rfl (by kernel_rfl) (LC.pure (c175 h_v1) (.cons Conv.p .nil))) ?_
  refine LOps.st rfl rfl rfl (LOp.assign rfl rfl) ?_
  refine LOps.nil ?_
  refine thn_n ?_
  refine LW.seq ?_
  refine LW.region ?_
  refine LOps.st rfl rfl rfl (LOp.move rfl rfl) ?_
  obtain ⟨v2, h_v2, hr⟩ := bind_get hr
  refine LOps.st rfl rfl rfl (LOp.call rfl rfl rfl (by kernel_rfl) (LC.pure (c175 h_v2) (.cons Conv.p .nil))) ?_
  refine LOps.st rfl rfl rfl (LOp.assign rfl rfl) ?_
  refine LOps.nil ?_
  refine thn_n ?_
  refine LW.seq ?_
  refine LW.seq ?_
  refine LW.region ?_
  refine LOps.st rfl rfl rfl (LOp.move rfl rfl) ?_
  refine LOps.nil ?_
  refine thn_n ?_
  refine LW.cond rfl (fun (g1 : v1 = true) => ?_) (fun (g1 : v1 = false) => ?_)
  · -- g1 is True
    have hr := ite_t g1 hr
    refine LW.seq ?_
    refine LW.seq ?_
    refine LW.region ?_
    refine LOps.st rfl rfl rfl (LOp.move rfl rfl) ?_
    refine LOps.nil ?_
    refine thn_n ?_
    refine LW.cond rfl (fun (g2 : v2 = true) => ?_) (fun (g2 : v2 = false) => ?_)
    · -- g2 is True
      have hr := ite_t g2 hr
      refine LW.seq ?_
      refine LW.region ?_
      refine LOps.st rfl rfl rfl (LOp.assign rfl rfl) ?_
      refine LOps.nil ?_
      refine thn_n ?_
      refine LW.ret ?_
      refine thn_r ?_
      refine thn_r ?_
      obtain rfl := Option.some.inj hr
      refine finP_ret (.one (.tmp rfl)) ?_
      exact Conv.p
    · -- g2 is False
      have hr := ite_f g2 hr
      refine LW.skip ?_
      refine thn_n ?_
      refine LW.seq ?_
      refine LW.region ?_
      refine LOps.st rfl rfl rfl (LOp.assign rfl rfl) ?_
      refine LOps.nil ?_
      refine thn_n ?_
      refine LW.ret ?_
      refine thn_r ?_
      obtain rfl := Option.some.inj hr
      refine finP_ret (.one (.tmp rfl)) ?_
      exact Conv.p
  · -- g1 is False
    have hr := ite_f g1 hr
    refine LW.skip ?_
    refine thn_n ?_
    refine LW.seq ?_
    refine LW.seq ?_
    refine LW.region ?_
    refine LOps.st rfl rfl rfl (LOp.move rfl rfl) ?_
    refine LOps.nil ?_
    refine thn_n ?_
    refine LW.cond rfl (fun (g3 : v2 = true) => ?_) (fun (g3 : v2 = false) => ?_)
    · -- g3 is True
      have hr := ite_t g3 hr
      refine LW.seq ?_
      refine LW.region ?_
      refine LOps.st rfl rfl rfl (LOp.assign rfl rfl) ?_
      refine LOps.nil ?_
      refine thn_n ?_
      refine LW.ret ?_
      refine thn_r ?_
      obtain rfl := Option.some.inj hr
      refine finP_ret (.one (.tmp rfl)) ?_
      exact Conv.p
    · -- g3 is False
      have hr := ite_f g3 hr
      refine LW.skip ?_
      refine thn_n ?_
      refine LW.seq ?_
      refine LW.seq ?_
      refine LW.region ?_
      refine LOps.st rfl rfl rfl (LOp.move rfl rfl) ?_
      refine LOps.st rfl rfl rfl (LOp.move rfl rfl) ?_
      refine LOps.st rfl rfl rfl (LOp.bin rfl rfl rfl rfl) ?_
      refine LOps.nil ?_
      refine thn_n ?_
      refine LW.cond rfl (fun (g4 : (decide (x < y)) = true) => ?_) (fun (g4 : (decide (x < y)) = false) => ?_)
      · -- g4 is True
        have hr := ite_t g4 hr
        refine LW.seq ?_
        refine LW.region ?_
        refine LOps.st rfl rfl rfl (LOp.assign rfl rfl) ?_
        refine LOps.nil ?_
        refine thn_n ?_
        refine LW.ret ?_
        refine thn_r ?_
        obtain rfl := Option.some.inj hr
        refine finP_ret (.one (.tmp rfl)) ?_
        exact Conv.p
      · -- g4 is False
        have hr := ite_f g4 hr
        refine LW.skip ?_
        refine thn_n ?_
        refine LW.seq ?_
        refine LW.seq ?_
        refine LW.region ?_
        refine LOps.st rfl rfl rfl (LOp.move rfl rfl) ?_
        refine LOps.st rfl rfl rfl (LOp.move rfl rfl) ?_
        refine LOps.st rfl rfl rfl (LOp.bin rfl rfl rfl rfl) ?_
        refine LOps.nil ?_
        refine thn_n ?_
        refine LW.cond rfl (fun (g5 : (decide (x > y)) = true) => ?_) (fun (g5 : (decide (x > y)) = false) => ?_)
        · -- g5 is True
          have hr := ite_t g5 hr
          refine LW.seq ?_
          refine LW.region ?_
          refine LOps.st rfl rfl rfl (LOp.assign rfl rfl) ?_
          refine LOps.nil ?_
          refine thn_n ?_
          refine LW.ret ?_
          refine thn_r ?_
          obtain rfl := Option.some.inj hr
          refine finP_ret (.one (.tmp rfl)) ?_
          exact Conv.p
        · -- g5 is False
          have hr := ite_f g5 hr
          refine LW.skip ?_
          refine thn_n ?_
          refine LW.seq ?_
          refine LW.region ?_
          refine LOps.st rfl rfl rfl (LOp.assign rfl rfl) ?_
          refine LOps.nil ?_
          refine thn_n ?_
          refine LW.ret ?_
          obtain rfl := Option.some.inj hr
          refine finP_ret (.one (.tmp rfl)) ?_
          exact Conv.p
structure F151_L1 where
  t11 : Int
def F151_s1 (s1 : List Int) (s2 : List Int) (x1 : F151_L1) : Option (F151_L1 ⊕ (F151_L1 ⊕ Int)) :=
  bif decide (x1.t11 < (s1.length : Int)) then
    (ix s1 x1.t11).bind fun y1 =>
    bif decide (x1.t11 ≥ (s2.length : Int)) then
      some (.inr (.inr 1))
    else
      (ix s2 x1.t11).bind fun y2 =>
      (F168 y1 y2).bind fun v2 =>
      bif v2 != 0 then
        some (.inr (.inr v2))
      else
        some (.inl (F151_L1.mk (IntKind.i64.wrap (x1.t11 + 1))))
  else
    some (.inr (.inl (F151_L1.mk x1.t11)))
def F151 (s1 : List Int) (s2 : List Int) : Option Int :=
  (iter (F151_s1 s1 s2) big (F151_L1.mk 0)).bind fun b_v1 => Sum.elim (fun _ =>
    bif decide ((s1.length : Int) < (s2.length : Int)) then
      some (-1)
    else
      some 0) some b_v1
set_option maxRecDepth 100000 in
theorem c151 {s1 : List Int} {s2 : List Int} {r_ : Int} (hr : F151 s1 s2 = some r_) : LPure Try.prog 151 [.slice 1 (s1.map wordP), .slice 1 (s2.map wordP)] [.int .i64 r_] := by
  refine LPure.start Try.func151 rfl rfl rfl rfl ?_
  unfold F151 at hr
  refine LW.seq ?_
  refine LW.region ?_
  refine LOps.st rfl rfl rfl (LOp.assign rfl rfl) ?_
  refine LOps.nil ?_
  refine thn_n ?_
  refine LW.seq ?_
  refine LW.seq ?_
  refine LW.region ?_
  refine LOps.st rfl rfl rfl (LOp.move rfl rfl) ?_
  refine LOps.st rfl rfl rfl (LOp.lenM rfl rfl (by kernel_rfl)) ?_
  refine LOps.st rfl rfl rfl (LOp.move rfl rfl) ?_
  refine LOps.nil ?_
  refine thn_n ?_
  obtain ⟨b_v1, hb_v1, ho_v1⟩ := bind_get hr
  clear hr
  refine LW.tailB (b := b_v1) (E := fun v1 => [(0, .p (.slice 1 (s1.map wordP))), (1, .p (.slice 1 (s2.map wordP))), (4, .p (.int .i64 0))]) (O := fun v1 => []) ?_ (fun v1 e_v1 env_v1 H_v1 hw_v1 => ?_)
  · refine LW.block ?_
    refine LW.iterB (E := fun x1 : F151_L1 => [(0, .p (.slice 1 (s1.map wordP))), (1, .p (.slice 1 (s2.map wordP))), (4, .p (.int .i64 0)), (9, .p (.slice 1 (s1.map wordP))), (10, .p (.int .i64 (s1.length : Int))), (11, .p (.int .i64 x1.t11))]) (O := fun x1 => []) hb_v1 (Weak.of 0 ⟨rfl, rfl, rfl, rfl, rfl, rfl, trivial⟩ rfl rfl rfl rfl) (fun x1 z_x1 hr hb_x1 => ?_)
    unfold F151_s1 at hr
    refine LW.seq ?_
    refine LW.region ?_
    refine LOps.st rfl rfl rfl (LOp.bin rfl rfl rfl rfl) ?_
    refine LOps.nil ?_
    refine thn_n ?_
    refine LW.seq ?_
    refine LW.cond rfl (fun (g1 : (decide (x1.t11 < (s1.length : Int))) = true) => ?_) (fun (g1 : (decide (x1.t11 < (s1.length : Int))) = false) => ?_)
    · -- g1 is True
      have hr := ite_t g1 hr
      refine LW.skip ?_
      refine thn_n ?_
      refine LW.seq ?_
      refine LW.block ?_
      refine LW.seq ?_
      refine LW.region ?_
      refine LOps.st rfl rfl rfl (LOp.move rfl rfl) ?_
      obtain ⟨y1, h_y1, hr⟩ := bind_get hr
      refine LOps.st rfl rfl rfl (LOp.indexAddrX rfl rfl rfl st98 h_y1 rfl) ?_
      refine LOps.st rfl rfl rfl (LOp.loadC rfl rfl rfl vt22 rfl rfl) ?_
      refine LOps.st rfl rfl rfl (LOp.assign rfl rfl) ?_
      refine LOps.st rfl rfl rfl (LOp.assign rfl rfl) ?_
      refine LOps.nil ?_
      refine thn_n ?_
      refine LW.seq ?_
      refine LW.seq ?_
      refine LW.region ?_
      refine LOps.st rfl rfl rfl (LOp.move rfl rfl) ?_
      refine LOps.st rfl rfl rfl (LOp.move rfl rfl) ?_
      refine LOps.st rfl rfl rfl (LOp.lenM rfl rfl (by kernel_rfl)) ?_
      refine LOps.st rfl rfl rfl (LOp.bin rfl rfl rfl rfl) ?_
      refine LOps.nil ?_
      refine thn_n ?_
      refine LW.cond rfl (fun (g2 : (decide (x1.t11 ≥ (s2.length : Int))) = true) => ?_) (fun (g2 : (decide (x1.t11 ≥ (s2.length : Int))) = false) => ?_)
      · -- g2 is True
        have hr := ite_t g2 hr
        refine LW.seq ?_
        refine LW.region ?_
        refine LOps.st rfl rfl rfl (LOp.assign rfl rfl) ?_
        refine LOps.nil ?_
        refine thn_n ?_
        refine LW.ret ?_
        refine thn_r ?_
        refine inBlk_r ?_
        refine thn_r ?_
        refine thn_r ?_
        refine inBlk_r ?_
        refine thn_r ?_
        refine thn_r ?_
        obtain rfl := Option.some.inj hr
        have hr := congrArg some (hb_x1 _ rfl)
        obtain rfl := Option.some.inj hr
        have hr := sum_r ho_v1
        obtain rfl := Option.some.inj hr
        refine finP_ret (.one (.tmp rfl)) ?_
        exact Conv.p
      · -- g2 is False
        have hr := ite_f g2 hr
        refine LW.skip ?_
        refine thn_n ?_
        refine LW.seq ?_
        refine LW.region ?_
        refine LOps.st rfl rfl rfl (LOp.move rfl rfl) ?_
        refine LOps.st rfl rfl rfl (LOp.move rfl rfl) ?_
        obtain ⟨y2, h_y2, hr⟩ := bind_get hr
        refine LOps.st rfl rfl rfl (LOp.indexAddrX rfl rfl rfl st98 h_y2 rfl) ?_
        refine LOps.st rfl rfl rfl (LOp.loadC rfl rfl rfl vt22 rfl rfl) ?_
        refine LOps.st rfl rfl rfl (LOp.assign rfl rfl) ?_
        refine LOps.nil ?_
        refine thn_n ?_
        refine LW.seq ?_
        refine LW.region ?_
        refine LOps.st rfl rfl rfl (LOp.move rfl rfl) ?_
        refine LOps.st rfl rfl rfl (LOp.move rfl rfl) ?_
        obtain ⟨v2, h_v2, hr⟩ := bind_get hr
        refine LOps.st rfl rfl rfl (LOp.call rfl rfl rfl (by kernel_rfl) (LC.pure (c168 h_v2) (.cons Conv.p (.cons Conv.p .nil)))) ?_
        refine LOps.st rfl rfl rfl (LOp.assign rfl rfl) ?_
        refine LOps.nil ?_
        refine thn_n ?_
        refine LW.seq ?_
        refine LW.region ?_
        refine LOps.st rfl rfl rfl (LOp.move rfl rfl) ?_
        refine LOps.st rfl rfl rfl (LOp.bin rfl rfl rfl rfl) ?_
        refine LOps.nil ?_
        refine thn_n ?_
        refine LW.cond rfl (fun (g3 : (v2 != 0) = true) => ?_) (fun (g3 : (v2 != 0) = false) => ?_)
        · -- g3 is True
          have hr := ite_t g3 hr
          refine LW.seq ?_
          refine LW.region ?_
          refine LOps.st rfl rfl rfl (LOp.move rfl rfl) ?_
          refine LOps.st rfl rfl rfl (LOp.assign rfl rfl) ?_
          refine LOps.nil ?_
          refine thn_n ?_
          refine LW.ret ?_
          refine inBlk_r ?_
          refine thn_r ?_
          refine thn_r ?_
          refine inBlk_r ?_
          refine thn_r ?_
          refine thn_r ?_
          obtain rfl := Option.some.inj hr
          have hr := congrArg some (hb_x1 _ rfl)
          obtain rfl := Option.some.inj hr
          have hr := sum_r ho_v1
          obtain rfl := Option.some.inj hr
          refine finP_ret (.one (.tmp rfl)) ?_
          exact Conv.p
        · -- g3 is False
          have hr := ite_f g3 hr
          refine LW.skip ?_
          refine inBlk_n ?_
          refine thn_n ?_
          refine LW.region ?_
          refine LOps.st rfl rfl rfl (LOp.bin rfl rfl rfl rfl) ?_
          refine LOps.st rfl rfl rfl (LOp.move rfl rfl) ?_
          refine LOps.nil ?_
          refine thn_n ?_
          obtain rfl := Option.some.inj hr
          exact ⟨_, rfl, Weak.of 0 ⟨rfl, rfl, rfl, rfl, rfl, rfl, trivial⟩ rfl rfl rfl rfl⟩
    · -- g1 is False
      have hr := ite_f g1 hr
      refine LW.exit ?_
      refine thn_e ?_
      refine thn_e ?_
      refine inBlk_self ?_
      refine thn_n ?_
      obtain rfl := Option.some.inj hr
      have hr := congrArg some (hb_x1 _ rfl)
      obtain rfl := Option.some.inj hr
      exact ⟨_, rfl, Weak.of 0 ⟨rfl, rfl, rfl, trivial⟩ rfl rfl rfl rfl⟩
  · obtain rfl := e_v1
    have hr := sum_l ho_v1
    clear hb_v1
    refine thn_n ?_
    refine LW.weak hw_v1 ?_
    refine LW.seq ?_
    refine LW.seq ?_
    refine LW.region ?_
    refine LOps.st rfl rfl rfl (LOp.move rfl rfl) ?_
    refine LOps.st rfl rfl rfl (LOp.lenM rfl rfl (by kernel_rfl)) ?_
    refine LOps.st rfl rfl rfl (LOp.move rfl rfl) ?_
    refine LOps.st rfl rfl rfl (LOp.lenM rfl rfl (by kernel_rfl)) ?_
    refine LOps.st rfl rfl rfl (LOp.bin rfl rfl rfl rfl) ?_
    refine LOps.nil ?_
    refine thn_n ?_
    refine LW.cond rfl (fun (g4 : (decide ((s1.length : Int) < (s2.length : Int))) = true) => ?_) (fun (g4 : (decide ((s1.length : Int) < (s2.length : Int))) = false) => ?_)
    · -- g4 is True
      have hr := ite_t g4 hr
      refine LW.seq ?_
      refine LW.region ?_
      refine LOps.st rfl rfl rfl (LOp.assign rfl rfl) ?_
      refine LOps.nil ?_
      refine thn_n ?_
      refine LW.ret ?_
      refine thn_r ?_
      obtain rfl := Option.some.inj hr
      refine finP_ret (.one (.tmp rfl)) ?_
      exact Conv.p
    · -- g4 is False
      have hr := ite_f g4 hr
      refine LW.skip ?_
      refine thn_n ?_
      refine LW.seq ?_
      refine LW.region ?_
      refine LOps.st rfl rfl rfl (LOp.assign rfl rfl) ?_
      refine LOps.nil ?_
      refine thn_n ?_
      refine LW.ret ?_
      obtain rfl := Option.some.inj hr
      refine finP_ret (.one (.tmp rfl)) ?_
      exact Conv.p
def F120 (a : ID) (b : ID) : Option Bool :=
  (F151 [a.1, a.2] [b.1, b.2]).bind fun v1 =>
  some (decide (v1 < 0))
set_option maxRecDepth 100000 in
theorem c120 {a : ID} {b : ID} {r_ : Bool} (hr : F120 a b = some r_) : LPure Try.prog 120 [idP a, idP b] [.bool r_] := by
  refine LPure.start Try.func120 rfl rfl rfl rfl ?_
  unfold F120 at hr
  refine LW.seq ?_
  refine LW.region ?_
  refine LOps.st rfl rfl rfl (LOp.box rfl rfl rfl rfl rfl) ?_
  refine LOps.st rfl rfl rfl (LOp.box rfl rfl rfl rfl rfl) ?_
  refine LOps.st rfl rfl rfl (LOp.assign rfl rfl) ?_
  refine LOps.nil ?_
  refine thn_n ?_
  refine LW.seq ?_
  refine LW.draw (by kernel_rfl) (by kernel_rfl) ?_
  refine LO.st rfl rfl rfl (LOp.sliceBox rfl rfl at24 rfl rfl rfl) ?_
  refine LO.st rfl rfl rfl (LOp.sliceBox rfl rfl at24 rfl rfl rfl) ?_
  obtain ⟨v1, h_v1, hr⟩ := bind_get hr
  refine LO.st rfl rfl rfl (LOp.call rfl rfl rfl (by kernel_rfl) (LC.lend (c151 h_v1) (.cons (Conv.boxSlice rfl rfl rfl rfl) (.cons (Conv.boxSlice rfl rfl rfl rfl) .nil)) rfl)) ?_
  refine LO.st rfl rfl rfl (LOp.bin rfl rfl rfl rfl) ?_
  refine LO.st rfl rfl rfl (LOp.assign rfl rfl) ?_
  refine LO.nil ?_
  refine thn_n ?_
  refine LW.ret ?_
  obtain rfl := Option.some.inj hr
  refine finP_ret (.one (.tmp rfl)) ?_
  exact Conv.p
def F122 (a : Rk) (b : Rk) : Option Bool :=
  bif a.n != b.n then
    some (decide (a.n > b.n))
  else
    bif !((a.n == b.n) && ((a.id.1 == b.id.1) && ((a.id.2 == b.id.2) && true))) then
      (F120 b.id a.id).bind fun v1 =>
      some v1
    else
      some false
set_option maxRecDepth 100000 in
theorem c122 {a : Rk} {b : Rk} {r_ : Bool} (hr : F122 a b = some r_) : LPure Try.prog 122 [rkP a, rkP b] [.bool r_] := by
  refine LPure.start Try.func122 rfl rfl rfl rfl ?_
  unfold F122 at hr
  refine LW.seq ?_
  refine LW.region ?_
  refine LOps.st rfl rfl rfl (LOp.box rfl rfl rfl rfl rfl) ?_
  refine LOps.st rfl rfl rfl (LOp.box rfl rfl rfl rfl rfl) ?_
  refine LOps.st rfl rfl rfl (LOp.assign rfl rfl) ?_
  refine LOps.nil ?_
  refine thn_n ?_
  refine LW.seq ?_
  refine LW.seq ?_
  refine LW.region ?_
  refine LOps.st rfl rfl rfl (LOp.fieldAddr rfl rfl ft136_0) ?_
  refine LOps.st rfl rfl rfl (LOp.load rfl rfl rfl vt3 rfl rfl) ?_
  refine LOps.st rfl rfl rfl (LOp.fieldAddr rfl rfl ft136_0) ?_
  refine LOps.st rfl rfl rfl (LOp.load rfl rfl rfl vt3 rfl rfl) ?_
  refine LOps.st rfl rfl rfl (LOp.bin rfl rfl rfl rfl) ?_
  refine LOps.nil ?_
  refine thn_n ?_
  refine LW.cond rfl (fun (g1 : (a.n != b.n) = true) => ?_) (fun (g1 : (a.n != b.n) = false) => ?_)
  · -- g1 is True
    have hr := ite_t g1 hr
    refine LW.seq ?_
    refine LW.region ?_
    refine LOps.st rfl rfl rfl (LOp.fieldAddr rfl rfl ft136_0) ?_
    refine LOps.st rfl rfl rfl (LOp.load rfl rfl rfl vt3 rfl rfl) ?_
    refine LOps.st rfl rfl rfl (LOp.fieldAddr rfl rfl ft136_0) ?_
    refine LOps.st rfl rfl rfl (LOp.load rfl rfl rfl vt3 rfl rfl) ?_
    refine LOps.st rfl rfl rfl (LOp.bin rfl rfl rfl rfl) ?_
    refine LOps.st rfl rfl rfl (LOp.assign rfl rfl) ?_
    refine LOps.nil ?_
    refine thn_n ?_
    refine LW.ret ?_
    refine thn_r ?_
    obtain rfl := Option.some.inj hr
    refine finP_ret (.one (.tmp rfl)) ?_
    exact Conv.p
  · -- g1 is False
    have hr := ite_f g1 hr
    refine LW.skip ?_
    refine thn_n ?_
    refine LW.seq ?_
    refine LW.region ?_
    refine LOps.st rfl rfl rfl (LOp.load rfl rfl rfl vt136 rfl rfl) ?_
    refine LOps.st rfl rfl rfl (LOp.load rfl rfl rfl vt136 rfl rfl) ?_
    refine LOps.st rfl rfl rfl (LOp.neqAgg rfl rfl rfl rfl rfl eqt136) ?_
    refine LOps.st rfl rfl rfl (LOp.move rfl rfl) ?_
    refine LOps.cases 18 rfl (fun (g2 : (!((a.n == b.n) && ((a.id.1 == b.id.1) && ((a.id.2 == b.id.2) && true)))) = true) => ?_) (fun (g2 : (!((a.n == b.n) && ((a.id.1 == b.id.1) && ((a.id.2 == b.id.2) && true)))) = false) => ?_)
    · -- g2 is True
      have hr := ite_t g2 hr
      refine LOps.gd rfl rfl rfl (gd g2 rfl) rfl (LOp.fieldAddr rfl rfl ft136_1) ?_
      refine LOps.gd rfl rfl rfl (gd g2 rfl) rfl (LOp.load rfl rfl rfl vt24 rfl rfl) ?_
      refine LOps.gd rfl rfl rfl (gd g2 rfl) rfl (LOp.fieldAddr rfl rfl ft136_1) ?_
      refine LOps.gd rfl rfl rfl (gd g2 rfl) rfl (LOp.load rfl rfl rfl vt24 rfl rfl) ?_
      obtain ⟨v1, h_v1, hr⟩ := bind_get hr
      refine LOps.gd rfl rfl rfl (gd g2 rfl) rfl (LOp.call rfl rfl rfl (by kernel_rfl) (LC.pure (c120 h_v1) (.cons Conv.p (.cons Conv.p .nil)))) ?_
      refine LOps.st rfl rfl rfl (LOp.pickT rfl (gdl g2 rfl) rfl) ?_
      refine LOps.st rfl rfl rfl (LOp.assign rfl rfl) ?_
      refine LOps.nil ?_
      refine thn_n ?_
      refine LW.ret ?_
      obtain rfl := Option.some.inj hr
      refine finP_ret (.one (.tmp rfl)) ?_
      exact Conv.p
    · -- g2 is False
      have hr := ite_f g2 hr
      refine LOps.sk rfl rfl rfl (gd g2 rfl) rfl rfl ?_
      refine LOps.sk rfl rfl rfl (gd g2 rfl) rfl rfl ?_
      refine LOps.sk rfl rfl rfl (gd g2 rfl) rfl rfl ?_
      refine LOps.sk rfl rfl rfl (gd g2 rfl) rfl rfl ?_
      refine LOps.sk rfl rfl rfl (gd g2 rfl) rfl rfl ?_
      refine LOps.st rfl rfl rfl (LOp.pickF rfl (gdl g2 rfl) rfl) ?_
      refine LOps.st rfl rfl rfl (LOp.assign rfl rfl) ?_
      refine LOps.nil ?_
      refine thn_n ?_
      refine LW.ret ?_
      obtain rfl := Option.some.inj hr
      refine finP_ret (.one (.tmp rfl)) ?_
      exact Conv.p
def F154 (x : Vt) : Option Int :=
  some x.From
set_option maxRecDepth 100000 in
theorem c154 {x : Vt} {r_ : Int} (hr : F154 x = some r_) : LPure Try.prog 154 [vtP x] [.int .i64 r_] := by
  refine LPure.start Try.func154 rfl rfl rfl rfl ?_
  unfold F154 at hr
  refine LW.seq ?_
  refine LW.region ?_
  refine LOps.st rfl rfl rfl (LOp.box rfl rfl rfl rfl rfl) ?_
  refine LOps.st rfl rfl rfl (LOp.assign rfl rfl) ?_
  refine LOps.nil ?_
  refine thn_n ?_
  refine LW.seq ?_
  refine LW.region ?_
  refine LOps.st rfl rfl rfl (LOp.fieldAddr rfl rfl ft82_0) ?_
  refine LOps.st rfl rfl rfl (LOp.load rfl rfl rfl vt3 rfl rfl) ?_
  refine LOps.st rfl rfl rfl (LOp.assign rfl rfl) ?_
  refine LOps.nil ?_
  refine thn_n ?_
  refine LW.ret ?_
  obtain rfl := Option.some.inj hr
  refine finP_ret (.one (.tmp rfl)) ?_
  exact Conv.p
def F157 (a : ID) (b : ID) : Option Bool :=
  bif decide (a.1 < b.1) then
    some true
  else
    bif a.1 == b.1 then
      some (decide (a.2 < b.2))
    else
      some false
set_option maxRecDepth 100000 in
theorem c157 {a : ID} {b : ID} {r_ : Bool} (hr : F157 a b = some r_) : LPure Try.prog 157 [idP a, idP b] [.bool r_] := by
  refine LPure.start Try.func157 rfl rfl rfl rfl ?_
  unfold F157 at hr
  refine LW.seq ?_
  refine LW.region ?_
  refine LOps.st rfl rfl rfl (LOp.box rfl rfl rfl rfl rfl) ?_
  refine LOps.st rfl rfl rfl (LOp.box rfl rfl rfl rfl rfl) ?_
  refine LOps.st rfl rfl rfl (LOp.assign rfl rfl) ?_
  refine LOps.nil ?_
  refine thn_n ?_
  refine LW.seq ?_
  refine LW.region ?_
  refine LOps.st rfl rfl rfl (LOp.indexAddrA rfl rfl rfl at24 (by decide) (by decide)) ?_
  refine LOps.st rfl rfl rfl (LOp.load rfl rfl rfl vt22 rfl rfl) ?_
  refine LOps.st rfl rfl rfl (LOp.indexAddrA rfl rfl rfl at24 (by decide) (by decide)) ?_
  refine LOps.st rfl rfl rfl (LOp.load rfl rfl rfl vt22 rfl rfl) ?_
  refine LOps.st rfl rfl rfl (LOp.bin rfl rfl rfl rfl) ?_
  refine LOps.st rfl rfl rfl (LOp.move rfl rfl) ?_
  refine LOps.cases 10 rfl (fun (g1 : (decide (a.1 < b.1)) = true) => ?_) (fun (g1 : (decide (a.1 < b.1)) = false) => ?_)
  · -- g1 is True
    have hr := ite_t g1 hr
    refine LOps.sk rfl rfl rfl (gd g1 rfl) rfl rfl ?_
    refine LOps.sk rfl rfl rfl (gd g1 rfl) rfl rfl ?_
    refine LOps.sk rfl rfl rfl (gd g1 rfl) rfl rfl ?_
    refine LOps.sk rfl rfl rfl (gd g1 rfl) rfl rfl ?_
    refine LOps.sk rfl rfl rfl (gd g1 rfl) rfl rfl ?_
    refine LOps.sk rfl rfl rfl (gd g1 rfl) rfl rfl ?_
    refine LOps.sku rfl rfl rfl rfl rfl ?_
    refine LOps.sku rfl rfl rfl rfl rfl ?_
    refine LOps.sku rfl rfl rfl rfl rfl ?_
    refine LOps.sku rfl rfl rfl rfl rfl ?_
    refine LOps.sku rfl rfl rfl rfl rfl ?_
    refine LOps.sk rfl rfl rfl (gd g1 rfl) rfl rfl ?_
    refine LOps.st rfl rfl rfl (LOp.pickT rfl (gdl g1 rfl) rfl) ?_
    refine LOps.st rfl rfl rfl (LOp.assign rfl rfl) ?_
    refine LOps.nil ?_
    refine thn_n ?_
    refine LW.ret ?_
    obtain rfl := Option.some.inj hr
    refine finP_ret (.one (.tmp rfl)) ?_
    exact Conv.p
  · -- g1 is False
    have hr := ite_f g1 hr
    refine LOps.gd rfl rfl rfl (gd g1 rfl) rfl (LOp.indexAddrA rfl rfl rfl at24 (by decide) (by decide)) ?_
    refine LOps.gd rfl rfl rfl (gd g1 rfl) rfl (LOp.load rfl rfl rfl vt22 rfl rfl) ?_
    refine LOps.gd rfl rfl rfl (gd g1 rfl) rfl (LOp.indexAddrA rfl rfl rfl at24 (by decide) (by decide)) ?_
    refine LOps.gd rfl rfl rfl (gd g1 rfl) rfl (LOp.load rfl rfl rfl vt22 rfl rfl) ?_
    refine LOps.gd rfl rfl rfl (gd g1 rfl) rfl (LOp.bin rfl rfl rfl rfl) ?_
    refine LOps.gd rfl rfl rfl (gd g1 rfl) rfl (LOp.move rfl rfl) ?_
    refine LOps.cases 16 rfl (fun (g2 : (a.1 == b.1) = true) => ?_) (fun (g2 : (a.1 == b.1) = false) => ?_)
    · -- g2 is True
      have hr := ite_t g2 hr
      refine LOps.gd rfl rfl rfl (gd g2 rfl) rfl (LOp.indexAddrA rfl rfl rfl at24 (by decide) (by decide)) ?_
      refine LOps.gd rfl rfl rfl (gd g2 rfl) rfl (LOp.load rfl rfl rfl vt22 rfl rfl) ?_
      refine LOps.gd rfl rfl rfl (gd g2 rfl) rfl (LOp.indexAddrA rfl rfl rfl at24 (by decide) (by decide)) ?_
      refine LOps.gd rfl rfl rfl (gd g2 rfl) rfl (LOp.load rfl rfl rfl vt22 rfl rfl) ?_
      refine LOps.gd rfl rfl rfl (gd g2 rfl) rfl (LOp.bin rfl rfl rfl rfl) ?_
      refine LOps.gd rfl rfl rfl (gd g1 rfl) rfl (LOp.pickT rfl (gdl g2 rfl) rfl) ?_
      refine LOps.st rfl rfl rfl (LOp.pickF rfl (gdl g1 rfl) rfl) ?_
      refine LOps.st rfl rfl rfl (LOp.assign rfl rfl) ?_
      refine LOps.nil ?_
      refine thn_n ?_
      refine LW.ret ?_
      obtain rfl := Option.some.inj hr
      refine finP_ret (.one (.tmp rfl)) ?_
      exact Conv.p
    · -- g2 is False
      have hr := ite_f g2 hr
      refine LOps.sk rfl rfl rfl (gd g2 rfl) rfl rfl ?_
      refine LOps.sk rfl rfl rfl (gd g2 rfl) rfl rfl ?_
      refine LOps.sk rfl rfl rfl (gd g2 rfl) rfl rfl ?_
      refine LOps.sk rfl rfl rfl (gd g2 rfl) rfl rfl ?_
      refine LOps.sk rfl rfl rfl (gd g2 rfl) rfl rfl ?_
      refine LOps.gd rfl rfl rfl (gd g1 rfl) rfl (LOp.pickF rfl (gdl g2 rfl) rfl) ?_
      refine LOps.st rfl rfl rfl (LOp.pickF rfl (gdl g1 rfl) rfl) ?_
      refine LOps.st rfl rfl rfl (LOp.assign rfl rfl) ?_
      refine LOps.nil ?_
      refine thn_n ?_
      refine LW.ret ?_
      obtain rfl := Option.some.inj hr
      refine finP_ret (.one (.tmp rfl)) ?_
      exact Conv.p
structure F155_L1 where
  i : Int
  out : List ID
def F155_s1 (l : List Bk) (names : List ID) (id : ID) (x1 : F155_L1) : Option (F155_L1 ⊕ F155_L1) :=
  bif decide (x1.i < (l.length : Int)) then
    (ix l x1.i).bind fun y1 =>
    bif ((y1.Parent.1 == id.1) && ((y1.Parent.2 == id.2) && true)) then
      (ix names x1.i).bind fun y2 =>
      bif room x1.out.length [y2].length 16 then
        some (.inl (F155_L1.mk (IntKind.i64.wrap (x1.i + 1)) (x1.out ++ [y2])))
      else none
    else
      some (.inl (F155_L1.mk (IntKind.i64.wrap (x1.i + 1)) x1.out))
  else
    some (.inr (F155_L1.mk x1.i x1.out))
def F155 (l : List Bk) (names : List ID) (id : ID) : Option (List ID) :=
  (iter (F155_s1 l names id) big (F155_L1.mk 0 ([] : List ID))).bind fun v1 =>
  some v1.out
set_option maxRecDepth 100000 in
theorem c155 {l : List Bk} {names : List ID} {id : ID} {r_ : (List ID)} (hr : F155 l names id = some r_) : LPure Try.prog 155 [.slice 5 (l.map blkP), .slice 2 (names.map idP), idP id] [.slice 2 (r_.map idP)] := by
  refine LPure.start Try.func155 rfl rfl rfl rfl ?_
  unfold F155 at hr
  refine LW.seq ?_
  refine LW.region ?_
  refine LOps.st rfl rfl rfl (LOp.box rfl rfl rfl rfl rfl) ?_
  refine LOps.st rfl rfl rfl (LOp.assign rfl rfl) ?_
  refine LOps.nil ?_
  refine thn_n ?_
  refine LW.seq ?_
  refine LW.region ?_
  refine LOps.st rfl rfl rfl (LOp.assign rfl rfl) ?_
  refine LOps.nil ?_
  refine thn_n ?_
  refine LW.seq ?_
  refine LW.seq ?_
  refine LW.region ?_
  refine LOps.st rfl rfl rfl (LOp.assign rfl rfl) ?_
  refine LOps.nil ?_
  refine thn_n ?_
  refine LW.ent (Ent.lazy (t := 7) (m := 2) rfl rfl rfl) ?_
  obtain ⟨v1, hb_v1, ho_v1⟩ := bind_get hr
  clear hr
  refine LW.tail (E := [(6, .zs), (7, .vec 2 1 (v1.out.map idP).length 0 (v1.out.map idP).length)]) (O := [.box [.p (.int .u64 id.1), .p (.int .u64 id.2)], .vec 2 (v1.out.map idP)]) ?_ (fun env_v1 H_v1 hw_v1 => ?_)
  · refine LW.block ?_
    refine LW.iterB (E := fun x1 : F155_L1 => [(0, .p (.slice 5 (l.map blkP))), (1, .p (.slice 2 (names.map idP))), (5, .ptr 0 0), (6, .zs), (7, .vec 2 1 (x1.out.map idP).length 0 (x1.out.map idP).length), (8, .p (.int .i64 x1.i))]) (O := fun x1 => [.box [.p (.int .u64 id.1), .p (.int .u64 id.2)], .vec 2 (x1.out.map idP)]) hb_v1 (Weak.of 2 ⟨rfl, rfl, rfl, rfl, rfl, rfl, trivial⟩ rfl rfl rfl rfl) (fun x1 z_x1 hr hb_x1 => ?_)
    unfold F155_s1 at hr
    refine LW.seq ?_
    refine LW.seq ?_
    refine LW.region ?_
    refine LOps.st rfl rfl rfl (LOp.move rfl rfl) ?_
    refine LOps.st rfl rfl rfl (LOp.move rfl rfl) ?_
    refine LOps.st rfl rfl rfl (LOp.lenM rfl rfl (by kernel_rfl)) ?_
    refine LOps.st rfl rfl rfl (LOp.bin rfl rfl rfl rfl) ?_
    refine LOps.nil ?_
    refine thn_n ?_
    refine LW.cond rfl (fun (g1 : (decide (x1.i < (l.length : Int))) = true) => ?_) (fun (g1 : (decide (x1.i < (l.length : Int))) = false) => ?_)
    · -- g1 is True
      have hr := ite_t g1 hr
      refine LW.skip ?_
      refine thn_n ?_
      refine LW.seq ?_
      refine LW.block ?_
      refine LW.seq ?_
      refine LW.draw (by kernel_rfl) (by kernel_rfl) ?_
      refine LO.st rfl rfl rfl (LOp.move rfl rfl) ?_
      refine LO.st rfl rfl rfl (LOp.move rfl rfl) ?_
      obtain ⟨y1, h_y1, hr⟩ := bind_get hr
      refine LO.st rfl rfl rfl (LOp.indexAddrX rfl rfl rfl st27 h_y1 rfl) ?_
      refine LO.st rfl rfl rfl (LOp.fieldAddrC rfl rfl ft42_2 rfl) ?_
      refine LO.st rfl rfl rfl (LOp.loadC rfl rfl rfl vt24 rfl rfl) ?_
      refine LO.st rfl rfl rfl (LOp.load rfl rfl rfl vt24 rfl rfl) ?_
      refine LO.st rfl rfl rfl (LOp.eqlAgg rfl rfl rfl rfl rfl eqt24) ?_
      refine LO.nil ?_
      refine thn_n ?_
      refine LW.cond rfl (fun (g2 : ((y1.Parent.1 == id.1) && ((y1.Parent.2 == id.2) && true)) = true) => ?_) (fun (g2 : ((y1.Parent.1 == id.1) && ((y1.Parent.2 == id.2) && true)) = false) => ?_)
      · -- g2 is True
        have hr := ite_t g2 hr
        refine LW.region ?_
        refine LOps.st rfl rfl rfl (LOp.move rfl rfl) ?_
        refine LOps.st rfl rfl rfl (LOp.move rfl rfl) ?_
        refine LOps.st rfl rfl rfl (LOp.move rfl rfl) ?_
        obtain ⟨y2, h_y2, hr⟩ := bind_get hr
        refine LOps.st rfl rfl rfl (LOp.indexAddrX rfl rfl rfl st31 h_y2 rfl) ?_
        refine LOps.st rfl rfl rfl (LOp.loadC rfl rfl rfl vt24 rfl rfl) ?_
        refine LOps.st rfl rfl rfl (LOp.buildSlice rfl st31 rfl rfl rfl rfl rfl) ?_
        obtain ⟨q1, hr⟩ := grd_get hr
        refine LOps.st rfl rfl rfl (LOp.appendX idP x1.out [y2] rfl rfl rfl rfl Src.p rfl st31 q1 rfl) ?_
        refine LOps.st rfl rfl rfl (LOp.assign rfl rfl) ?_
        refine LOps.nil ?_
        refine inBlk_n ?_
        refine thn_n ?_
        refine LW.region ?_
        refine LOps.st rfl rfl rfl (LOp.move rfl rfl) ?_
        refine LOps.st rfl rfl rfl (LOp.bin rfl rfl rfl rfl) ?_
        refine LOps.st rfl rfl rfl (LOp.assign rfl rfl) ?_
        refine LOps.nil ?_
        refine thn_n ?_
        obtain rfl := Option.some.inj hr
        exact ⟨_, rfl, Weak.of 2 ⟨rfl, rfl, rfl, rfl, rfl, rfl, trivial⟩ rfl rfl rfl rfl⟩
      · -- g2 is False
        have hr := ite_f g2 hr
        refine LW.skip ?_
        refine inBlk_n ?_
        refine thn_n ?_
        refine LW.region ?_
        refine LOps.st rfl rfl rfl (LOp.move rfl rfl) ?_
        refine LOps.st rfl rfl rfl (LOp.bin rfl rfl rfl rfl) ?_
        refine LOps.st rfl rfl rfl (LOp.assign rfl rfl) ?_
        refine LOps.nil ?_
        refine thn_n ?_
        obtain rfl := Option.some.inj hr
        exact ⟨_, rfl, Weak.of 2 ⟨rfl, rfl, rfl, rfl, rfl, rfl, trivial⟩ rfl rfl rfl rfl⟩
    · -- g1 is False
      have hr := ite_f g1 hr
      refine LW.exit ?_
      refine thn_e ?_
      refine thn_e ?_
      refine inBlk_self ?_
      refine thn_n ?_
      obtain rfl := Option.some.inj hr
      have hr := congrArg some (hb_x1 _ rfl)
      obtain rfl := Option.some.inj hr
      exact Weak.of 2 ⟨rfl, rfl, trivial⟩ rfl rfl rfl rfl
  · have hr := ho_v1
    clear hb_v1
    refine thn_n ?_
    refine LW.weak hw_v1 ?_
    refine LW.seq ?_
    refine LW.region ?_
    refine LOps.st rfl rfl rfl (LOp.move rfl rfl) ?_
    refine LOps.st rfl rfl rfl (LOp.assign rfl rfl) ?_
    refine LOps.nil ?_
    refine thn_n ?_
    refine LW.ret ?_
    obtain rfl := Option.some.inj hr
    refine finP_ret (.one (.tmp rfl)) ?_
    exact (Conv.vecAll rfl rfl rfl)
structure F169_L1 where
  i : Int
  id : ID
def F169_s1 (l : List Bk) (names : List ID) (low : ID) (x1 : F169_L1) : Option (F169_L1 ⊕ F169_L1) :=
  (
    bif decide (x1.i ≥ 0) then
      some (!((x1.id.1 == low.1) && ((x1.id.2 == low.2) && true)))
    else
      some false
  ).bind fun v4 =>
  bif v4 then
    (ix l x1.i).bind fun y1 =>
    (F98 names y1.Parent).bind fun v5 =>
    some (.inl (F169_L1.mk v5 y1.Parent))
  else
    some (.inr (F169_L1.mk x1.i x1.id))
def F169 (l : List Bk) (names : List ID) (low : ID) (id : ID) : Option Bool :=
  (F98 names id).bind fun v1 =>
  (
    bif decide (v1 < 0) then
      bif !((id.1 == 0) && ((id.2 == 0) && true)) then
        some (.inr false)
      else
        some (.inl ())
    else
      some (.inl ())
  ).bind fun b_v2 => Sum.elim (fun _ =>
    (iter (F169_s1 l names low) big (F169_L1.mk v1 id)).bind fun v3 =>
    some ((v3.id.1 == low.1) && ((v3.id.2 == low.2) && true))) some b_v2
set_option maxRecDepth 100000 in
theorem c169 {l : List Bk} {names : List ID} {low : ID} {id : ID} {r_ : Bool} (hr : F169 l names low id = some r_) : LPure Try.prog 169 [.slice 5 (l.map blkP), .slice 2 (names.map idP), idP low, idP id] [.bool r_] := by
  refine LPure.start Try.func169 rfl rfl rfl rfl ?_
  unfold F169 at hr
  refine LW.seq ?_
  refine LW.region ?_
  refine LOps.st rfl rfl rfl (LOp.box rfl rfl rfl rfl rfl) ?_
  refine LOps.st rfl rfl rfl (LOp.box rfl rfl rfl rfl rfl) ?_
  refine LOps.st rfl rfl rfl (LOp.assign rfl rfl) ?_
  refine LOps.nil ?_
  refine thn_n ?_
  refine LW.seq ?_
  refine LW.region ?_
  refine LOps.st rfl rfl rfl (LOp.move rfl rfl) ?_
  refine LOps.st rfl rfl rfl (LOp.load rfl rfl rfl vt24 rfl rfl) ?_
  obtain ⟨v1, h_v1, hr⟩ := bind_get hr
  refine LOps.st rfl rfl rfl (LOp.call rfl rfl rfl (by kernel_rfl) (LC.pure (c98 h_v1) (.cons Conv.p (.cons Conv.p .nil)))) ?_
  refine LOps.st rfl rfl rfl (LOp.assign rfl rfl) ?_
  refine LOps.nil ?_
  refine thn_n ?_
  obtain ⟨b_v2, hb_v2, ho_v2⟩ := bind_get hr
  clear hr
  refine LW.cutB (b := b_v2) (E := fun v2 => [(0, .p (.slice 5 (l.map blkP))), (1, .p (.slice 2 (names.map idP))), (6, .ptr 0 0), (7, .ptr 1 0), (8, .p (.bool false)), (9, .p (.int .i64 v1))]) (O := fun v2 => [.box [.p (.int .u64 low.1), .p (.int .u64 low.2)], .box [.p (.int .u64 id.1), .p (.int .u64 id.2)]]) ?_ (fun v2 e_v2 => ?_)
  · have hr := hb_v2
    refine LW.seq ?_
    refine LW.region ?_
    refine LOps.st rfl rfl rfl (LOp.move rfl rfl) ?_
    refine LOps.st rfl rfl rfl (LOp.bin rfl rfl rfl rfl) ?_
    refine LOps.st rfl rfl rfl (LOp.move rfl rfl) ?_
    refine LOps.cases 15 rfl (fun (g1 : (decide (v1 < 0)) = true) => ?_) (fun (g1 : (decide (v1 < 0)) = false) => ?_)
    · -- g1 is True
      have hr := ite_t g1 hr
      refine LOps.gd rfl rfl rfl (gd g1 rfl) rfl (LOp.load rfl rfl rfl vt24 rfl rfl) ?_
      refine LOps.gd rfl rfl rfl (gd g1 rfl) rfl (LOp.build rfl bt24 rfl rfl rfl) ?_
      refine LOps.gd rfl rfl rfl (gd g1 rfl) rfl (LOp.neqAgg rfl rfl rfl rfl rfl eqt24) ?_
      refine LOps.st rfl rfl rfl (LOp.pickT rfl (gdl g1 rfl) rfl) ?_
      refine LOps.nil ?_
      refine thn_n ?_
      refine LW.cond rfl (fun (g2 : (!((id.1 == 0) && ((id.2 == 0) && true))) = true) => ?_) (fun (g2 : (!((id.1 == 0) && ((id.2 == 0) && true))) = false) => ?_)
      · -- g2 is True
        have hr := ite_t g2 hr
        refine LW.seq ?_
        refine LW.region ?_
        refine LOps.st rfl rfl rfl (LOp.assign rfl rfl) ?_
        refine LOps.nil ?_
        refine thn_n ?_
        refine LW.ret ?_
        refine thn_r ?_
        obtain rfl := Option.some.inj hr
        have hr := sum_r ho_v2
        obtain rfl := Option.some.inj hr
        refine finP_ret (.one (.tmp rfl)) ?_
        exact Conv.p
      · -- g2 is False
        have hr := ite_f g2 hr
        refine LW.skip ?_
        refine thn_n ?_
        obtain rfl := Option.some.inj hr
        exact ⟨_, rfl, Weak.of 2 ⟨rfl, rfl, rfl, rfl, rfl, rfl, trivial⟩ rfl rfl rfl rfl⟩
    · -- g1 is False
      have hr := ite_f g1 hr
      refine LOps.sk rfl rfl rfl (gd g1 rfl) rfl rfl ?_
      refine LOps.sk rfl rfl rfl (gd g1 rfl) rfl rfl ?_
      refine LOps.sk rfl rfl rfl (gd g1 rfl) rfl rfl ?_
      refine LOps.st rfl rfl rfl (LOp.pickF rfl (gdl g1 rfl) rfl) ?_
      refine LOps.nil ?_
      refine thn_n ?_
      refine LW.condF rfl ?_
      refine LW.skip ?_
      refine thn_n ?_
      obtain rfl := Option.some.inj hr
      exact ⟨_, rfl, Weak.of 2 ⟨rfl, rfl, rfl, rfl, rfl, rfl, trivial⟩ rfl rfl rfl rfl⟩
  · obtain rfl := e_v2
    have hr := sum_l ho_v2
    clear hb_v2
    obtain ⟨v3, hb_v3, ho_v3⟩ := bind_get hr
    clear hr
    refine LW.cut (E := [(6, .ptr 0 0), (7, .ptr 1 0), (8, .p (.bool false))]) (O := [.box [.p (.int .u64 low.1), .p (.int .u64 low.2)], .box [.p (.int .u64 v3.id.1), .p (.int .u64 v3.id.2)]]) ?_ ?_
    · refine LW.block ?_
      refine LW.iterB (E := fun x1 : F169_L1 => [(0, .p (.slice 5 (l.map blkP))), (1, .p (.slice 2 (names.map idP))), (6, .ptr 0 0), (7, .ptr 1 0), (8, .p (.bool false)), (9, .p (.int .i64 x1.i))]) (O := fun x1 => [.box [.p (.int .u64 low.1), .p (.int .u64 low.2)], .box [.p (.int .u64 x1.id.1), .p (.int .u64 x1.id.2)]]) hb_v3 (Weak.of 2 ⟨rfl, rfl, rfl, rfl, rfl, rfl, trivial⟩ rfl rfl rfl rfl) (fun x1 z_x1 hr hb_x1 => ?_)
      unfold F169_s1 at hr
      refine LW.seq ?_
      obtain ⟨v4, hb_v4, ho_v4⟩ := bind_get hr
      clear hr
      refine LW.cut (E := [(0, .p (.slice 5 (l.map blkP))), (1, .p (.slice 2 (names.map idP))), (6, .ptr 0 0), (7, .ptr 1 0), (8, .p (.bool false)), (9, .p (.int .i64 x1.i)), (26, .p (.bool v4))]) (O := [.box [.p (.int .u64 low.1), .p (.int .u64 low.2)], .box [.p (.int .u64 x1.id.1), .p (.int .u64 x1.id.2)]]) ?_ ?_
      · have hr := hb_v4
        refine LW.region ?_
        refine LOps.st rfl rfl rfl (LOp.move rfl rfl) ?_
        refine LOps.st rfl rfl rfl (LOp.bin rfl rfl rfl rfl) ?_
        refine LOps.st rfl rfl rfl (LOp.move rfl rfl) ?_
        refine LOps.cases 22 rfl (fun (g3 : (decide (x1.i ≥ 0)) = true) => ?_) (fun (g3 : (decide (x1.i ≥ 0)) = false) => ?_)
        · -- g3 is True
          have hr := ite_t g3 hr
          refine LOps.gd rfl rfl rfl (gd g3 rfl) rfl (LOp.load rfl rfl rfl vt24 rfl rfl) ?_
          refine LOps.gd rfl rfl rfl (gd g3 rfl) rfl (LOp.load rfl rfl rfl vt24 rfl rfl) ?_
          refine LOps.gd rfl rfl rfl (gd g3 rfl) rfl (LOp.neqAgg rfl rfl rfl rfl rfl eqt24) ?_
          refine LOps.st rfl rfl rfl (LOp.pickT rfl (gdl g3 rfl) rfl) ?_
          refine LOps.nil ?_
          refine thn_n ?_
          obtain rfl := Option.some.inj hr
          exact Weak.of 2 ⟨rfl, rfl, rfl, rfl, rfl, rfl, rfl, trivial⟩ rfl rfl rfl rfl
        · -- g3 is False
          have hr := ite_f g3 hr
          refine LOps.sk rfl rfl rfl (gd g3 rfl) rfl rfl ?_
          refine LOps.sk rfl rfl rfl (gd g3 rfl) rfl rfl ?_
          refine LOps.sk rfl rfl rfl (gd g3 rfl) rfl rfl ?_
          refine LOps.st rfl rfl rfl (LOp.pickF rfl (gdl g3 rfl) rfl) ?_
          refine LOps.nil ?_
          refine thn_n ?_
          obtain rfl := Option.some.inj hr
          exact Weak.of 2 ⟨rfl, rfl, rfl, rfl, rfl, rfl, rfl, trivial⟩ rfl rfl rfl rfl
      · have hr := ho_v4
        clear hb_v4
        refine LW.cond rfl (fun (g4 : v4 = true) => ?_) (fun (g4 : v4 = false) => ?_)
        · -- g4 is True
          have hr := ite_t g4 hr
          refine LW.skip ?_
          refine thn_n ?_
          refine LW.block ?_
          refine LW.seq ?_
          refine LW.region ?_
          refine LOps.st rfl rfl rfl (LOp.move rfl rfl) ?_
          refine LOps.st rfl rfl rfl (LOp.move rfl rfl) ?_
          obtain ⟨y1, h_y1, hr⟩ := bind_get hr
          refine LOps.st rfl rfl rfl (LOp.indexAddrX rfl rfl rfl st27 h_y1 rfl) ?_
          refine LOps.st rfl rfl rfl (LOp.fieldAddrC rfl rfl ft42_2 rfl) ?_
          refine LOps.st rfl rfl rfl (LOp.loadC rfl rfl rfl vt24 rfl rfl) ?_
          refine LOps.st rfl rfl rfl (LOp.store rfl rfl rfl rfl vt24 rfl rfl rfl rfl) ?_
          refine LOps.nil ?_
          refine thn_n ?_
          refine LW.region ?_
          refine LOps.st rfl rfl rfl (LOp.move rfl rfl) ?_
          refine LOps.st rfl rfl rfl (LOp.load rfl rfl rfl vt24 rfl rfl) ?_
          obtain ⟨v5, h_v5, hr⟩ := bind_get hr
          refine LOps.st rfl rfl rfl (LOp.call rfl rfl rfl (by kernel_rfl) (LC.pure (c98 h_v5) (.cons Conv.p (.cons Conv.p .nil)))) ?_
          refine LOps.st rfl rfl rfl (LOp.assign rfl rfl) ?_
          refine LOps.nil ?_
          refine inBlk_n ?_
          refine thn_n ?_
          obtain rfl := Option.some.inj hr
          exact ⟨_, rfl, Weak.of 2 ⟨rfl, rfl, rfl, rfl, rfl, rfl, trivial⟩ rfl rfl rfl rfl⟩
        · -- g4 is False
          have hr := ite_f g4 hr
          refine LW.exit ?_
          refine thn_e ?_
          refine thn_e ?_
          refine inBlk_self ?_
          refine thn_n ?_
          obtain rfl := Option.some.inj hr
          have hr := congrArg some (hb_x1 _ rfl)
          obtain rfl := Option.some.inj hr
          exact Weak.of 2 ⟨rfl, rfl, rfl, trivial⟩ rfl rfl rfl rfl
    · have hr := ho_v3
      clear hb_v3
      refine LW.seq ?_
      refine LW.region ?_
      refine LOps.st rfl rfl rfl (LOp.load rfl rfl rfl vt24 rfl rfl) ?_
      refine LOps.st rfl rfl rfl (LOp.load rfl rfl rfl vt24 rfl rfl) ?_
      refine LOps.st rfl rfl rfl (LOp.eqlAgg rfl rfl rfl rfl rfl eqt24) ?_
      refine LOps.st rfl rfl rfl (LOp.assign rfl rfl) ?_
      refine LOps.nil ?_
      refine thn_n ?_
      refine LW.ret ?_
      obtain rfl := Option.some.inj hr
      refine finP_ret (.one (.tmp rfl)) ?_
      exact Conv.p
structure F156_L1 where
  i : Int
  who : List Int
def F156_s1 (l : List Bk) (names : List ID) (v : List Vt) (id : ID) (x1 : F156_L1) : Option (F156_L1 ⊕ F156_L1) :=
  bif decide (x1.i < (v.length : Int)) then
    (ix v x1.i).bind fun y1 =>
    (F169 l names id y1.Head).bind fun v2 =>
    bif v2 then
      (ix v x1.i).bind fun y2 =>
      bif room x1.who.length [y2.From].length 8 then
        some (.inl (F156_L1.mk (IntKind.i64.wrap (x1.i + 1)) (x1.who ++ [y2.From])))
      else none
    else
      some (.inl (F156_L1.mk (IntKind.i64.wrap (x1.i + 1)) x1.who))
  else
    some (.inr (F156_L1.mk x1.i x1.who))
def F156 (c : Cf) (l : List Bk) (names : List ID) (v : List Vt) (id : ID) : Option Int :=
  (iter (F156_s1 l names v id) big (F156_L1.mk 0 ([] : List Int))).bind fun v1 =>
  (F71 c v1.who).bind fun v3 =>
  some v3
set_option maxRecDepth 100000 in
theorem c156 {c : Cf} {l : List Bk} {names : List ID} {v : List Vt} {id : ID} {r_ : Int} (hr : F156 c l names v id = some r_) : LPure Try.prog 156 [cfP c, .slice 5 (l.map blkP), .slice 2 (names.map idP), .slice 4 (v.map vtP), idP id] [.int .i64 r_] := by
  refine LPure.start Try.func156 rfl rfl rfl rfl ?_
  unfold F156 at hr
  refine LW.seq ?_
  refine LW.region ?_
  refine LOps.st rfl rfl rfl (LOp.box rfl rfl rfl rfl rfl) ?_
  refine LOps.st rfl rfl rfl (LOp.box rfl rfl rfl rfl rfl) ?_
  refine LOps.st rfl rfl rfl (LOp.assign rfl rfl) ?_
  refine LOps.nil ?_
  refine thn_n ?_
  refine LW.seq ?_
  refine LW.region ?_
  refine LOps.st rfl rfl rfl (LOp.assign rfl rfl) ?_
  refine LOps.nil ?_
  refine thn_n ?_
  refine LW.seq ?_
  refine LW.seq ?_
  refine LW.region ?_
  refine LOps.st rfl rfl rfl (LOp.assign rfl rfl) ?_
  refine LOps.nil ?_
  refine thn_n ?_
  refine LW.ent (Ent.lazy (t := 11) (m := 1) rfl rfl rfl) ?_
  obtain ⟨v1, hb_v1, ho_v1⟩ := bind_get hr
  clear hr
  refine LW.tail (E := [(5, .ptr 0 0), (10, .p (.int .i64 0)), (11, .vec 1 2 (v1.who.map i64P).length 0 (v1.who.map i64P).length)]) (O := [.box [.p (.slice 1 (c.W.map i64P)), .p (.int .u64 c.Seed), .p (.int .i64 c.Epoch), .p (.int .i64 c.Num), .p (.int .i64 c.Den)], .box [.p (.int .u64 id.1), .p (.int .u64 id.2)], .vec 1 (v1.who.map i64P)]) ?_ (fun env_v1 H_v1 hw_v1 => ?_)
  · refine LW.block ?_
    refine LW.iterB (E := fun x1 : F156_L1 => [(1, .p (.slice 5 (l.map blkP))), (2, .p (.slice 2 (names.map idP))), (3, .p (.slice 4 (v.map vtP))), (5, .ptr 0 0), (9, .ptr 1 0), (10, .p (.int .i64 0)), (11, .vec 1 2 (x1.who.map i64P).length 0 (x1.who.map i64P).length), (12, .p (.int .i64 x1.i))]) (O := fun x1 => [.box [.p (.slice 1 (c.W.map i64P)), .p (.int .u64 c.Seed), .p (.int .i64 c.Epoch), .p (.int .i64 c.Num), .p (.int .i64 c.Den)], .box [.p (.int .u64 id.1), .p (.int .u64 id.2)], .vec 1 (x1.who.map i64P)]) hb_v1 (Weak.of 3 ⟨rfl, rfl, rfl, rfl, rfl, rfl, rfl, rfl, trivial⟩ rfl rfl rfl rfl) (fun x1 z_x1 hr hb_x1 => ?_)
    unfold F156_s1 at hr
    refine LW.seq ?_
    refine LW.seq ?_
    refine LW.region ?_
    refine LOps.st rfl rfl rfl (LOp.move rfl rfl) ?_
    refine LOps.st rfl rfl rfl (LOp.move rfl rfl) ?_
    refine LOps.st rfl rfl rfl (LOp.lenM rfl rfl (by kernel_rfl)) ?_
    refine LOps.st rfl rfl rfl (LOp.bin rfl rfl rfl rfl) ?_
    refine LOps.nil ?_
    refine thn_n ?_
    refine LW.cond rfl (fun (g1 : (decide (x1.i < (v.length : Int))) = true) => ?_) (fun (g1 : (decide (x1.i < (v.length : Int))) = false) => ?_)
    · -- g1 is True
      have hr := ite_t g1 hr
      refine LW.skip ?_
      refine thn_n ?_
      refine LW.seq ?_
      refine LW.block ?_
      refine LW.seq ?_
      refine LW.draw (by kernel_rfl) (by kernel_rfl) ?_
      refine LO.st rfl rfl rfl (LOp.move rfl rfl) ?_
      refine LO.st rfl rfl rfl (LOp.move rfl rfl) ?_
      refine LO.st rfl rfl rfl (LOp.load rfl rfl rfl vt24 rfl rfl) ?_
      refine LO.st rfl rfl rfl (LOp.move rfl rfl) ?_
      refine LO.st rfl rfl rfl (LOp.move rfl rfl) ?_
      obtain ⟨y1, h_y1, hr⟩ := bind_get hr
      refine LO.st rfl rfl rfl (LOp.indexAddrX rfl rfl rfl st68 h_y1 rfl) ?_
      refine LO.st rfl rfl rfl (LOp.fieldAddrC rfl rfl ft82_2 rfl) ?_
      refine LO.st rfl rfl rfl (LOp.loadC rfl rfl rfl vt24 rfl rfl) ?_
      obtain ⟨v2, h_v2, hr⟩ := bind_get hr
      refine LO.st rfl rfl rfl (LOp.call rfl rfl rfl (by kernel_rfl) (LC.pure (c169 h_v2) (.cons Conv.p (.cons Conv.p (.cons Conv.p (.cons Conv.p .nil)))))) ?_
      refine LO.st rfl rfl rfl (LOp.assign rfl rfl) ?_
      refine LO.nil ?_
      refine thn_n ?_
      refine LW.seq ?_
      refine LW.region ?_
      refine LOps.st rfl rfl rfl (LOp.move rfl rfl) ?_
      refine LOps.nil ?_
      refine thn_n ?_
      refine LW.cond rfl (fun (g2 : v2 = true) => ?_) (fun (g2 : v2 = false) => ?_)
      · -- g2 is True
        have hr := ite_t g2 hr
        refine LW.region ?_
        refine LOps.st rfl rfl rfl (LOp.move rfl rfl) ?_
        refine LOps.st rfl rfl rfl (LOp.move rfl rfl) ?_
        refine LOps.st rfl rfl rfl (LOp.move rfl rfl) ?_
        obtain ⟨y2, h_y2, hr⟩ := bind_get hr
        refine LOps.st rfl rfl rfl (LOp.indexAddrX rfl rfl rfl st68 h_y2 rfl) ?_
        refine LOps.st rfl rfl rfl (LOp.fieldAddrC rfl rfl ft82_0 rfl) ?_
        refine LOps.st rfl rfl rfl (LOp.loadC rfl rfl rfl vt3 rfl rfl) ?_
        refine LOps.st rfl rfl rfl (LOp.buildSlice rfl st49 rfl rfl rfl rfl rfl) ?_
        obtain ⟨q1, hr⟩ := grd_get hr
        refine LOps.st rfl rfl rfl (LOp.appendX i64P x1.who [y2.From] rfl rfl rfl rfl Src.p rfl st49 q1 rfl) ?_
        refine LOps.st rfl rfl rfl (LOp.assign rfl rfl) ?_
        refine LOps.nil ?_
        refine inBlk_n ?_
        refine thn_n ?_
        refine LW.region ?_
        refine LOps.st rfl rfl rfl (LOp.move rfl rfl) ?_
        refine LOps.st rfl rfl rfl (LOp.bin rfl rfl rfl rfl) ?_
        refine LOps.st rfl rfl rfl (LOp.assign rfl rfl) ?_
        refine LOps.nil ?_
        refine thn_n ?_
        obtain rfl := Option.some.inj hr
        exact ⟨_, rfl, Weak.of 3 ⟨rfl, rfl, rfl, rfl, rfl, rfl, rfl, rfl, trivial⟩ rfl rfl rfl rfl⟩
      · -- g2 is False
        have hr := ite_f g2 hr
        refine LW.skip ?_
        refine inBlk_n ?_
        refine thn_n ?_
        refine LW.region ?_
        refine LOps.st rfl rfl rfl (LOp.move rfl rfl) ?_
        refine LOps.st rfl rfl rfl (LOp.bin rfl rfl rfl rfl) ?_
        refine LOps.st rfl rfl rfl (LOp.assign rfl rfl) ?_
        refine LOps.nil ?_
        refine thn_n ?_
        obtain rfl := Option.some.inj hr
        exact ⟨_, rfl, Weak.of 3 ⟨rfl, rfl, rfl, rfl, rfl, rfl, rfl, rfl, trivial⟩ rfl rfl rfl rfl⟩
    · -- g1 is False
      have hr := ite_f g1 hr
      refine LW.exit ?_
      refine thn_e ?_
      refine thn_e ?_
      refine inBlk_self ?_
      refine thn_n ?_
      obtain rfl := Option.some.inj hr
      have hr := congrArg some (hb_x1 _ rfl)
      obtain rfl := Option.some.inj hr
      exact Weak.of 3 ⟨rfl, rfl, rfl, trivial⟩ rfl rfl rfl rfl
  · have hr := ho_v1
    clear hb_v1
    refine thn_n ?_
    refine LW.weak hw_v1 ?_
    refine LW.seq ?_
    refine LW.region ?_
    refine LOps.st rfl rfl rfl (LOp.load rfl rfl rfl vt55 rfl rfl) ?_
    refine LOps.st rfl rfl rfl (LOp.move rfl rfl) ?_
    obtain ⟨v3, h_v3, hr⟩ := bind_get hr
    refine LOps.st rfl rfl rfl (LOp.call rfl rfl rfl (by kernel_rfl) (LC.lend (c71 h_v3) (.cons Conv.p (.cons (Conv.vecAll rfl rfl rfl) .nil)) rfl)) ?_
    refine LOps.st rfl rfl rfl (LOp.assign rfl rfl) ?_
    refine LOps.nil ?_
    refine thn_n ?_
    refine LW.ret ?_
    obtain rfl := Option.some.inj hr
    refine finP_ret (.one (.tmp rfl)) ?_
    exact Conv.p
structure F124_L1 where
  most : Int
  i : Int
  best : ID
def F124_s1 (c : Cf) (l : List Bk) (names : List ID) (v : List Vt) (v1 : (List ID)) (x1 : F124_L1) : Option (F124_L1 ⊕ F124_L1) :=
  bif decide (x1.i < (v1.length : Int)) then
    (ix v1 x1.i).bind fun y1 =>
    (F156 c l names v y1).bind fun v3 =>
    (ix v1 x1.i).bind fun y2 =>
    (F157 x1.best y2).bind fun v4 =>
    (
      bif x1.i == 0 then
        some true
      else
        bif decide (v3 > x1.most) then
          some true
        else
          bif v3 == x1.most then
            some v4
          else
            some false
    ).bind fun v5 =>
    bif v5 then
      (ix v1 x1.i).bind fun y3 =>
      some (.inl (F124_L1.mk v3 (IntKind.i64.wrap (x1.i + 1)) y3))
    else
      some (.inl (F124_L1.mk x1.most (IntKind.i64.wrap (x1.i + 1)) x1.best))
  else
    some (.inr (F124_L1.mk x1.most x1.i x1.best))
def F124 (c : Cf) (l : List Bk) (names : List ID) (v : List Vt) (id : ID) : Option (ID × Bool) :=
  (F155 l names id).bind fun v1 =>
  (iter (F124_s1 c l names v v1) big (F124_L1.mk 0 0 (0, 0))).bind fun v2 =>
  some (v2.best, decide ((v1.length : Int) > 0))
set_option maxRecDepth 100000 in
theorem c124 {c : Cf} {l : List Bk} {names : List ID} {v : List Vt} {id : ID} {r_ : ID × Bool} (hr : F124 c l names v id = some r_) : LPure Try.prog 124 [cfP c, .slice 5 (l.map blkP), .slice 2 (names.map idP), .slice 4 (v.map vtP), idP id] [idP r_.1, .bool r_.2] := by
  refine LPure.start Try.func124 rfl rfl rfl rfl ?_
  unfold F124 at hr
  refine LW.seq ?_
  refine LW.region ?_
  refine LOps.st rfl rfl rfl (LOp.box rfl rfl rfl rfl rfl) ?_
  refine LOps.st rfl rfl rfl (LOp.box rfl rfl rfl rfl rfl) ?_
  refine LOps.st rfl rfl rfl (LOp.alloc rfl zt24 rfl rfl) ?_
  refine LOps.st rfl rfl rfl (LOp.assign rfl rfl) ?_
  refine LOps.nil ?_
  refine thn_n ?_
  refine LW.seq ?_
  refine LW.region ?_
  refine LOps.st rfl rfl rfl (LOp.move rfl rfl) ?_
  refine LOps.st rfl rfl rfl (LOp.move rfl rfl) ?_
  refine LOps.st rfl rfl rfl (LOp.load rfl rfl rfl vt24 rfl rfl) ?_
  obtain ⟨v1, h_v1, hr⟩ := bind_get hr
  refine LOps.st rfl rfl rfl (LOp.call rfl rfl rfl (by kernel_rfl) (LC.pure (c155 h_v1) (.cons Conv.p (.cons Conv.p (.cons Conv.p .nil))))) ?_
  refine LOps.st rfl rfl rfl (LOp.assign rfl rfl) ?_
  refine LOps.nil ?_
  refine thn_n ?_
  refine LW.seq ?_
  refine LW.region ?_
  refine LOps.st rfl rfl rfl (LOp.build rfl bt24 rfl rfl rfl) ?_
  refine LOps.st rfl rfl rfl (LOp.alloc rfl zt24 rfl rfl) ?_
  refine LOps.st rfl rfl rfl (LOp.store rfl rfl rfl rfl vt24 rfl rfl rfl rfl) ?_
  refine LOps.nil ?_
  refine thn_n ?_
  refine LW.seq ?_
  refine LW.region ?_
  refine LOps.st rfl rfl rfl (LOp.assign rfl rfl) ?_
  refine LOps.nil ?_
  refine thn_n ?_
  refine LW.seq ?_
  refine LW.seq ?_
  refine LW.region ?_
  refine LOps.st rfl rfl rfl (LOp.assign rfl rfl) ?_
  refine LOps.nil ?_
  refine thn_n ?_
  obtain ⟨v2, hb_v2, ho_v2⟩ := bind_get hr
  clear hr
  refine LW.tail (E := [(10, .ptr 2 0), (11, .p (.bool false)), (12, .p (.slice 2 (v1.map idP))), (13, .ptr 3 0)]) (O := [.box [.p (.slice 1 (c.W.map i64P)), .p (.int .u64 c.Seed), .p (.int .i64 c.Epoch), .p (.int .i64 c.Num), .p (.int .i64 c.Den)], .box [.p (.int .u64 id.1), .p (.int .u64 id.2)], .box [.p (.int .u64 0), .p (.int .u64 0)], .box [.p (.int .u64 v2.best.1), .p (.int .u64 v2.best.2)]]) ?_ (fun env_v2 H_v2 hw_v2 => ?_)
  · refine LW.block ?_
    refine LW.iterB (E := fun x1 : F124_L1 => [(1, .p (.slice 5 (l.map blkP))), (2, .p (.slice 2 (names.map idP))), (3, .p (.slice 4 (v.map vtP))), (5, .ptr 0 0), (10, .ptr 2 0), (11, .p (.bool false)), (12, .p (.slice 2 (v1.map idP))), (13, .ptr 3 0), (14, .p (.int .i64 x1.most)), (15, .p (.int .i64 x1.i))]) (O := fun x1 => [.box [.p (.slice 1 (c.W.map i64P)), .p (.int .u64 c.Seed), .p (.int .i64 c.Epoch), .p (.int .i64 c.Num), .p (.int .i64 c.Den)], .box [.p (.int .u64 id.1), .p (.int .u64 id.2)], .box [.p (.int .u64 0), .p (.int .u64 0)], .box [.p (.int .u64 x1.best.1), .p (.int .u64 x1.best.2)]]) hb_v2 (Weak.of 4 ⟨rfl, rfl, rfl, rfl, rfl, rfl, rfl, rfl, rfl, rfl, trivial⟩ rfl rfl rfl rfl) (fun x1 z_x1 hr hb_x1 => ?_)
    unfold F124_s1 at hr
    refine LW.seq ?_
    refine LW.seq ?_
    refine LW.region ?_
    refine LOps.st rfl rfl rfl (LOp.move rfl rfl) ?_
    refine LOps.st rfl rfl rfl (LOp.move rfl rfl) ?_
    refine LOps.st rfl rfl rfl (LOp.lenM rfl rfl (by kernel_rfl)) ?_
    refine LOps.st rfl rfl rfl (LOp.bin rfl rfl rfl rfl) ?_
    refine LOps.nil ?_
    refine thn_n ?_
    refine LW.cond rfl (fun (g1 : (decide (x1.i < (v1.length : Int))) = true) => ?_) (fun (g1 : (decide (x1.i < (v1.length : Int))) = false) => ?_)
    · -- g1 is True
      have hr := ite_t g1 hr
      refine LW.skip ?_
      refine thn_n ?_
      refine LW.seq ?_
      refine LW.block ?_
      refine LW.seq ?_
      refine LW.draw (by kernel_rfl) (by kernel_rfl) ?_
      refine LO.st rfl rfl rfl (LOp.load rfl rfl rfl vt55 rfl rfl) ?_
      refine LO.st rfl rfl rfl (LOp.move rfl rfl) ?_
      refine LO.st rfl rfl rfl (LOp.move rfl rfl) ?_
      refine LO.st rfl rfl rfl (LOp.move rfl rfl) ?_
      refine LO.st rfl rfl rfl (LOp.move rfl rfl) ?_
      refine LO.st rfl rfl rfl (LOp.move rfl rfl) ?_
      obtain ⟨y1, h_y1, hr⟩ := bind_get hr
      refine LO.st rfl rfl rfl (LOp.indexAddrX rfl rfl rfl st31 h_y1 rfl) ?_
      refine LO.st rfl rfl rfl (LOp.loadC rfl rfl rfl vt24 rfl rfl) ?_
      obtain ⟨v3, h_v3, hr⟩ := bind_get hr
      refine LO.st rfl rfl rfl (LOp.call rfl rfl rfl (by kernel_rfl) (LC.pure (c156 h_v3) (.cons Conv.p (.cons Conv.p (.cons Conv.p (.cons Conv.p (.cons Conv.p .nil))))))) ?_
      refine LO.st rfl rfl rfl (LOp.assign rfl rfl) ?_
      refine LO.nil ?_
      refine thn_n ?_
      refine LW.seq ?_
      refine LW.draw (by kernel_rfl) (by kernel_rfl) ?_
      refine LO.st rfl rfl rfl (LOp.load rfl rfl rfl vt24 rfl rfl) ?_
      refine LO.st rfl rfl rfl (LOp.move rfl rfl) ?_
      refine LO.st rfl rfl rfl (LOp.move rfl rfl) ?_
      obtain ⟨y2, h_y2, hr⟩ := bind_get hr
      refine LO.st rfl rfl rfl (LOp.indexAddrX rfl rfl rfl st31 h_y2 rfl) ?_
      refine LO.st rfl rfl rfl (LOp.loadC rfl rfl rfl vt24 rfl rfl) ?_
      obtain ⟨v4, h_v4, hr⟩ := bind_get hr
      refine LO.st rfl rfl rfl (LOp.call rfl rfl rfl (by kernel_rfl) (LC.pure (c157 h_v4) (.cons Conv.p (.cons Conv.p .nil)))) ?_
      refine LO.st rfl rfl rfl (LOp.assign rfl rfl) ?_
      refine LO.nil ?_
      refine thn_n ?_
      obtain ⟨v5, hb_v5, ho_v5⟩ := bind_get hr
      clear hr
      refine LW.cut (E := [(1, .p (.slice 5 (l.map blkP))), (2, .p (.slice 2 (names.map idP))), (3, .p (.slice 4 (v.map vtP))), (5, .ptr 0 0), (10, .ptr 2 0), (11, .p (.bool false)), (12, .p (.slice 2 (v1.map idP))), (13, .ptr 3 0), (14, .p (.int .i64 x1.most)), (15, .p (.int .i64 x1.i)), (16, .p (.int .i64 v3)), (58, .p (.bool v5))]) (O := [.box [.p (.slice 1 (c.W.map i64P)), .p (.int .u64 c.Seed), .p (.int .i64 c.Epoch), .p (.int .i64 c.Num), .p (.int .i64 c.Den)], .box [.p (.int .u64 id.1), .p (.int .u64 id.2)], .box [.p (.int .u64 0), .p (.int .u64 0)], .box [.p (.int .u64 x1.best.1), .p (.int .u64 x1.best.2)]]) ?_ ?_
      · have hr := hb_v5
        refine LW.region ?_
        refine LOps.st rfl rfl rfl (LOp.move rfl rfl) ?_
        refine LOps.st rfl rfl rfl (LOp.bin rfl rfl rfl rfl) ?_
        refine LOps.st rfl rfl rfl (LOp.move rfl rfl) ?_
        refine LOps.cases 46 rfl (fun (g2 : (x1.i == 0) = true) => ?_) (fun (g2 : (x1.i == 0) = false) => ?_)
        · -- g2 is True
          have hr := ite_t g2 hr
          refine LOps.sk rfl rfl rfl (gd g2 rfl) rfl rfl ?_
          refine LOps.sk rfl rfl rfl (gd g2 rfl) rfl rfl ?_
          refine LOps.sk rfl rfl rfl (gd g2 rfl) rfl rfl ?_
          refine LOps.st rfl rfl rfl (LOp.pickT rfl (gdl g2 rfl) rfl) ?_
          refine LOps.st rfl rfl rfl (LOp.move rfl rfl) ?_
          refine LOps.sk rfl rfl rfl rfl rfl rfl ?_
          refine LOps.sk rfl rfl rfl rfl rfl rfl ?_
          refine LOps.sk rfl rfl rfl rfl rfl rfl ?_
          refine LOps.sk rfl rfl rfl rfl rfl rfl ?_
          refine LOps.sku rfl rfl rfl rfl rfl ?_
          refine LOps.sk rfl rfl rfl rfl rfl rfl ?_
          refine LOps.st rfl rfl rfl (LOp.pickT rfl rfl rfl) ?_
          refine LOps.nil ?_
          refine thn_n ?_
          obtain rfl := Option.some.inj hr
          exact Weak.of 4 ⟨rfl, rfl, rfl, rfl, rfl, rfl, rfl, rfl, rfl, rfl, rfl, rfl, trivial⟩ rfl rfl rfl rfl
        · -- g2 is False
          have hr := ite_f g2 hr
          refine LOps.gd rfl rfl rfl (gd g2 rfl) rfl (LOp.move rfl rfl) ?_
          refine LOps.gd rfl rfl rfl (gd g2 rfl) rfl (LOp.move rfl rfl) ?_
          refine LOps.gd rfl rfl rfl (gd g2 rfl) rfl (LOp.bin rfl rfl rfl rfl) ?_
          refine LOps.st rfl rfl rfl (LOp.pickF rfl (gdl g2 rfl) rfl) ?_
          refine LOps.st rfl rfl rfl (LOp.move rfl rfl) ?_
          refine LOps.cases 51 rfl (fun (g3 : (decide (v3 > x1.most)) = true) => ?_) (fun (g3 : (decide (v3 > x1.most)) = false) => ?_)
          · -- g3 is True
            have hr := ite_t g3 hr
            refine LOps.sk rfl rfl rfl (gd g3 rfl) rfl rfl ?_
            refine LOps.sk rfl rfl rfl (gd g3 rfl) rfl rfl ?_
            refine LOps.sk rfl rfl rfl (gd g3 rfl) rfl rfl ?_
            refine LOps.sk rfl rfl rfl (gd g3 rfl) rfl rfl ?_
            refine LOps.sku rfl rfl rfl rfl rfl ?_
            refine LOps.sk rfl rfl rfl (gd g3 rfl) rfl rfl ?_
            refine LOps.st rfl rfl rfl (LOp.pickT rfl (gdl g3 rfl) rfl) ?_
            refine LOps.nil ?_
            refine thn_n ?_
            obtain rfl := Option.some.inj hr
            exact Weak.of 4 ⟨rfl, rfl, rfl, rfl, rfl, rfl, rfl, rfl, rfl, rfl, rfl, rfl, trivial⟩ rfl rfl rfl rfl
          · -- g3 is False
            have hr := ite_f g3 hr
            refine LOps.gd rfl rfl rfl (gd g3 rfl) rfl (LOp.move rfl rfl) ?_
            refine LOps.gd rfl rfl rfl (gd g3 rfl) rfl (LOp.move rfl rfl) ?_
            refine LOps.gd rfl rfl rfl (gd g3 rfl) rfl (LOp.bin rfl rfl rfl rfl) ?_
            refine LOps.gd rfl rfl rfl (gd g3 rfl) rfl (LOp.move rfl rfl) ?_
            refine LOps.cases 55 rfl (fun (g4 : (v3 == x1.most) = true) => ?_) (fun (g4 : (v3 == x1.most) = false) => ?_)
            · -- g4 is True
              have hr := ite_t g4 hr
              refine LOps.gd rfl rfl rfl (gd g4 rfl) rfl (LOp.move rfl rfl) ?_
              refine LOps.gd rfl rfl rfl (gd g3 rfl) rfl (LOp.pickT rfl (gdl g4 rfl) rfl) ?_
              refine LOps.st rfl rfl rfl (LOp.pickF rfl (gdl g3 rfl) rfl) ?_
              refine LOps.nil ?_
              refine thn_n ?_
              obtain rfl := Option.some.inj hr
              exact Weak.of 4 ⟨rfl, rfl, rfl, rfl, rfl, rfl, rfl, rfl, rfl, rfl, rfl, rfl, trivial⟩ rfl rfl rfl rfl
            · -- g4 is False
              have hr := ite_f g4 hr
              refine LOps.sk rfl rfl rfl (gd g4 rfl) rfl rfl ?_
              refine LOps.gd rfl rfl rfl (gd g3 rfl) rfl (LOp.pickF rfl (gdl g4 rfl) rfl) ?_
              refine LOps.st rfl rfl rfl (LOp.pickF rfl (gdl g3 rfl) rfl) ?_
              refine LOps.nil ?_
              refine thn_n ?_
              obtain rfl := Option.some.inj hr
              exact Weak.of 4 ⟨rfl, rfl, rfl, rfl, rfl, rfl, rfl, rfl, rfl, rfl, rfl, rfl, trivial⟩ rfl rfl rfl rfl
      · have hr := ho_v5
        clear hb_v5
        refine LW.cond rfl (fun (g5 : v5 = true) => ?_) (fun (g5 : v5 = false) => ?_)
        · -- g5 is True
          have hr := ite_t g5 hr
          refine LW.seq ?_
          refine LW.region ?_
          refine LOps.st rfl rfl rfl (LOp.move rfl rfl) ?_
          refine LOps.st rfl rfl rfl (LOp.move rfl rfl) ?_
          obtain ⟨y3, h_y3, hr⟩ := bind_get hr
          refine LOps.st rfl rfl rfl (LOp.indexAddrX rfl rfl rfl st31 h_y3 rfl) ?_
          refine LOps.st rfl rfl rfl (LOp.loadC rfl rfl rfl vt24 rfl rfl) ?_
          refine LOps.st rfl rfl rfl (LOp.store rfl rfl rfl rfl vt24 rfl rfl rfl rfl) ?_
          refine LOps.nil ?_
          refine thn_n ?_
          refine LW.region ?_
          refine LOps.st rfl rfl rfl (LOp.move rfl rfl) ?_
          refine LOps.st rfl rfl rfl (LOp.assign rfl rfl) ?_
          refine LOps.nil ?_
          refine inBlk_n ?_
          refine thn_n ?_
          refine LW.region ?_
          refine LOps.st rfl rfl rfl (LOp.move rfl rfl) ?_
          refine LOps.st rfl rfl rfl (LOp.bin rfl rfl rfl rfl) ?_
          refine LOps.st rfl rfl rfl (LOp.assign rfl rfl) ?_
          refine LOps.nil ?_
          refine thn_n ?_
          obtain rfl := Option.some.inj hr
          exact ⟨_, rfl, Weak.of 4 ⟨rfl, rfl, rfl, rfl, rfl, rfl, rfl, rfl, rfl, rfl, trivial⟩ rfl rfl rfl rfl⟩
        · -- g5 is False
          have hr := ite_f g5 hr
          refine LW.skip ?_
          refine inBlk_n ?_
          refine thn_n ?_
          refine LW.region ?_
          refine LOps.st rfl rfl rfl (LOp.move rfl rfl) ?_
          refine LOps.st rfl rfl rfl (LOp.bin rfl rfl rfl rfl) ?_
          refine LOps.st rfl rfl rfl (LOp.assign rfl rfl) ?_
          refine LOps.nil ?_
          refine thn_n ?_
          obtain rfl := Option.some.inj hr
          exact ⟨_, rfl, Weak.of 4 ⟨rfl, rfl, rfl, rfl, rfl, rfl, rfl, rfl, rfl, rfl, trivial⟩ rfl rfl rfl rfl⟩
    · -- g1 is False
      have hr := ite_f g1 hr
      refine LW.exit ?_
      refine thn_e ?_
      refine thn_e ?_
      refine inBlk_self ?_
      refine thn_n ?_
      obtain rfl := Option.some.inj hr
      have hr := congrArg some (hb_x1 _ rfl)
      obtain rfl := Option.some.inj hr
      exact Weak.of 4 ⟨rfl, rfl, rfl, rfl, trivial⟩ rfl rfl rfl rfl
  · have hr := ho_v2
    clear hb_v2
    refine thn_n ?_
    refine LW.weak hw_v2 ?_
    refine LW.seq ?_
    refine LW.region ?_
    refine LOps.st rfl rfl rfl (LOp.load rfl rfl rfl vt24 rfl rfl) ?_
    refine LOps.st rfl rfl rfl (LOp.move rfl rfl) ?_
    refine LOps.st rfl rfl rfl (LOp.lenM rfl rfl (by kernel_rfl)) ?_
    refine LOps.st rfl rfl rfl (LOp.bin rfl rfl rfl rfl) ?_
    refine LOps.st rfl rfl rfl (LOp.store rfl rfl rfl rfl vt24 rfl rfl rfl rfl) ?_
    refine LOps.st rfl rfl rfl (LOp.assign rfl rfl) ?_
    refine LOps.nil ?_
    refine thn_n ?_
    refine LW.ret ?_
    obtain rfl := Option.some.inj hr
    refine finP_ret (.two (.cellAgg rfl rfl (by kernel_rfl) rfl) (.tmp rfl)) ?_
    exact ⟨_, rfl, (.cons Conv.p (.cons Conv.p .nil))⟩
def F123 (l : List Bk) (names : List ID) : Option Bool :=
  (F96 l names).bind fun v1 =>
  some v1
set_option maxRecDepth 100000 in
theorem c123 {l : List Bk} {names : List ID} {r_ : Bool} (hr : F123 l names = some r_) : LPure Try.prog 123 [.slice 5 (l.map blkP), .slice 2 (names.map idP)] [.bool r_] := by
  refine LPure.start Try.func123 rfl rfl rfl rfl ?_
  unfold F123 at hr
  refine LW.seq ?_
  refine LW.region ?_
  refine LOps.st rfl rfl rfl (LOp.assign rfl rfl) ?_
  refine LOps.nil ?_
  refine thn_n ?_
  refine LW.seq ?_
  refine LW.region ?_
  refine LOps.st rfl rfl rfl (LOp.move rfl rfl) ?_
  refine LOps.st rfl rfl rfl (LOp.move rfl rfl) ?_
  obtain ⟨v1, h_v1, hr⟩ := bind_get hr
  refine LOps.st rfl rfl rfl (LOp.call rfl rfl rfl (by kernel_rfl) (LC.pure (c96 h_v1) (.cons Conv.p (.cons Conv.p .nil)))) ?_
  refine LOps.st rfl rfl rfl (LOp.assign rfl rfl) ?_
  refine LOps.nil ?_
  refine thn_n ?_
  refine LW.seq ?_
  refine LW.region ?_
  refine LOps.st rfl rfl rfl (LOp.move rfl rfl) ?_
  refine LOps.st rfl rfl rfl (LOp.assign rfl rfl) ?_
  refine LOps.nil ?_
  refine thn_n ?_
  refine LW.ret ?_
  obtain rfl := Option.some.inj hr
  refine finP_ret (.one (.tmp rfl)) ?_
  exact Conv.p
def F80 (c : Cf) (l : List Bk) (v : List Vt) (id : ID) : Option (ID × Bool) :=
  (F97 l).bind fun v1 =>
  (F123 l v1).bind fun v2 =>
  bif !v2 then
    some ((0, 0), false)
  else
    (F124 c l v1 v id).bind fun v3 =>
    some (v3.1, v3.2)
set_option maxRecDepth 100000 in
theorem c80 {c : Cf} {l : List Bk} {v : List Vt} {id : ID} {r_ : ID × Bool} (hr : F80 c l v id = some r_) : LPure Try.prog 80 [cfP c, .slice 5 (l.map blkP), .slice 4 (v.map vtP), idP id] [idP r_.1, .bool r_.2] := by
  refine LPure.start Try.func80 rfl rfl rfl rfl ?_
  unfold F80 at hr
  refine LW.seq ?_
  refine LW.region ?_
  refine LOps.st rfl rfl rfl (LOp.box rfl rfl rfl rfl rfl) ?_
  refine LOps.st rfl rfl rfl (LOp.box rfl rfl rfl rfl rfl) ?_
  refine LOps.st rfl rfl rfl (LOp.alloc rfl zt24 rfl rfl) ?_
  refine LOps.st rfl rfl rfl (LOp.assign rfl rfl) ?_
  refine LOps.nil ?_
  refine thn_n ?_
  refine LW.seq ?_
  refine LW.region ?_
  refine LOps.st rfl rfl rfl (LOp.move rfl rfl) ?_
  obtain ⟨v1, h_v1, hr⟩ := bind_get hr
  refine LOps.st rfl rfl rfl (LOp.call rfl rfl rfl (by kernel_rfl) (LC.pure (c97 h_v1) (.cons Conv.p .nil))) ?_
  refine LOps.st rfl rfl rfl (LOp.assign rfl rfl) ?_
  refine LOps.nil ?_
  refine thn_n ?_
  refine LW.seq ?_
  refine LW.region ?_
  refine LOps.st rfl rfl rfl (LOp.move rfl rfl) ?_
  refine LOps.st rfl rfl rfl (LOp.move rfl rfl) ?_
  obtain ⟨v2, h_v2, hr⟩ := bind_get hr
  refine LOps.st rfl rfl rfl (LOp.call rfl rfl rfl (by kernel_rfl) (LC.pure (c123 h_v2) (.cons Conv.p (.cons Conv.p .nil)))) ?_
  refine LOps.st rfl rfl rfl (LOp.assign rfl rfl) ?_
  refine LOps.nil ?_
  refine thn_n ?_
  refine LW.seq ?_
  refine LW.seq ?_
  refine LW.region ?_
  refine LOps.st rfl rfl rfl (LOp.move rfl rfl) ?_
  refine LOps.st rfl rfl rfl (LOp.not rfl rfl) ?_
  refine LOps.nil ?_
  refine thn_n ?_
  refine LW.cond rfl (fun (g1 : (!v2) = true) => ?_) (fun (g1 : (!v2) = false) => ?_)
  · -- g1 is True
    have hr := ite_t g1 hr
    refine LW.seq ?_
    refine LW.region ?_
    refine LOps.st rfl rfl rfl (LOp.build rfl bt24 rfl rfl rfl) ?_
    refine LOps.st rfl rfl rfl (LOp.store rfl rfl rfl rfl vt24 rfl rfl rfl rfl) ?_
    refine LOps.st rfl rfl rfl (LOp.assign rfl rfl) ?_
    refine LOps.nil ?_
    refine thn_n ?_
    refine LW.ret ?_
    refine thn_r ?_
    obtain rfl := Option.some.inj hr
    refine finP_ret (.two (.cellAgg rfl rfl (by kernel_rfl) rfl) (.tmp rfl)) ?_
    exact ⟨_, rfl, (.cons Conv.p (.cons Conv.p .nil))⟩
  · -- g1 is False
    have hr := ite_f g1 hr
    refine LW.skip ?_
    refine thn_n ?_
    refine LW.seq ?_
    refine LW.region ?_
    refine LOps.st rfl rfl rfl (LOp.load rfl rfl rfl vt55 rfl rfl) ?_
    refine LOps.st rfl rfl rfl (LOp.move rfl rfl) ?_
    refine LOps.st rfl rfl rfl (LOp.move rfl rfl) ?_
    refine LOps.st rfl rfl rfl (LOp.move rfl rfl) ?_
    refine LOps.st rfl rfl rfl (LOp.load rfl rfl rfl vt24 rfl rfl) ?_
    obtain ⟨v3, h_v3, hr⟩ := bind_get hr
    refine LOps.st rfl rfl rfl (LOp.call rfl rfl rfl (by kernel_rfl) (LC.pure (c124 h_v3) (.cons Conv.p (.cons Conv.p (.cons Conv.p (.cons Conv.p (.cons Conv.p .nil))))))) ?_
    refine LOps.st rfl rfl rfl (LOp.move rfl rfl) ?_
    refine LOps.st rfl rfl rfl (LOp.extract rfl rfl rfl) ?_
    refine LOps.st rfl rfl rfl (LOp.extract rfl rfl rfl) ?_
    refine LOps.st rfl rfl rfl (LOp.alloc rfl zt24 rfl rfl) ?_
    refine LOps.st rfl rfl rfl (LOp.store rfl rfl rfl rfl vt24 rfl rfl rfl rfl) ?_
    refine LOps.st rfl rfl rfl (LOp.assign rfl rfl) ?_
    refine LOps.nil ?_
    refine thn_n ?_
    refine LW.seq ?_
    refine LW.region ?_
    refine LOps.st rfl rfl rfl (LOp.load rfl rfl rfl vt24 rfl rfl) ?_
    refine LOps.st rfl rfl rfl (LOp.move rfl rfl) ?_
    refine LOps.st rfl rfl rfl (LOp.store rfl rfl rfl rfl vt24 rfl rfl rfl rfl) ?_
    refine LOps.st rfl rfl rfl (LOp.assign rfl rfl) ?_
    refine LOps.nil ?_
    refine thn_n ?_
    refine LW.ret ?_
    obtain rfl := Option.some.inj hr
    refine finP_ret (.two (.cellAgg rfl rfl (by kernel_rfl) rfl) (.tmp rfl)) ?_
    exact ⟨_, rfl, (.cons Conv.p (.cons Conv.p .nil))⟩
structure F82_L1 where
  i : Int
  id : ID
def F82_s1 (c : Cf) (l : List Bk) (v : List Vt) (v1 : (List ID)) (v2 : Bool) (x1 : F82_L1) : Option (F82_L1 ⊕ F82_L1) :=
  (
    bif decide (x1.i ≤ (l.length : Int)) then
      some v2
    else
      some false
  ).bind fun v4 =>
  bif v4 then
    (F124 c l v1 v x1.id).bind fun v5 =>
    bif !v5.2 then
      some (.inr (F82_L1.mk x1.i x1.id))
    else
      some (.inl (F82_L1.mk (IntKind.i64.wrap (x1.i + 1)) v5.1))
  else
    some (.inr (F82_L1.mk x1.i x1.id))
def F82 (c : Cf) (l : List Bk) (v : List Vt) : Option ID :=
  (F97 l).bind fun v1 =>
  (F123 l v1).bind fun v2 =>
  (iter (F82_s1 c l v v1 v2) big (F82_L1.mk 0 (0, 0))).bind fun v3 =>
  some v3.id
set_option maxRecDepth 100000 in
theorem c82 {c : Cf} {l : List Bk} {v : List Vt} {r_ : ID} (hr : F82 c l v = some r_) : LPure Try.prog 82 [cfP c, .slice 5 (l.map blkP), .slice 4 (v.map vtP)] [idP r_] := by
  refine LPure.start Try.func82 rfl rfl rfl rfl ?_
  unfold F82 at hr
  refine LW.seq ?_
  refine LW.region ?_
  refine LOps.st rfl rfl rfl (LOp.box rfl rfl rfl rfl rfl) ?_
  refine LOps.st rfl rfl rfl (LOp.alloc rfl zt24 rfl rfl) ?_
  refine LOps.nil ?_
  refine thn_n ?_
  refine LW.seq ?_
  refine LW.region ?_
  refine LOps.st rfl rfl rfl (LOp.build rfl bt24 rfl rfl rfl) ?_
  refine LOps.st rfl rfl rfl (LOp.alloc rfl zt24 rfl rfl) ?_
  refine LOps.st rfl rfl rfl (LOp.store rfl rfl rfl rfl vt24 rfl rfl rfl rfl) ?_
  refine LOps.nil ?_
  refine thn_n ?_
  refine LW.seq ?_
  refine LW.region ?_
  refine LOps.st rfl rfl rfl (LOp.move rfl rfl) ?_
  obtain ⟨v1, h_v1, hr⟩ := bind_get hr
  refine LOps.st rfl rfl rfl (LOp.call rfl rfl rfl (by kernel_rfl) (LC.pure (c97 h_v1) (.cons Conv.p .nil))) ?_
  refine LOps.st rfl rfl rfl (LOp.assign rfl rfl) ?_
  refine LOps.nil ?_
  refine thn_n ?_
  refine LW.seq ?_
  refine LW.region ?_
  refine LOps.st rfl rfl rfl (LOp.move rfl rfl) ?_
  refine LOps.st rfl rfl rfl (LOp.move rfl rfl) ?_
  obtain ⟨v2, h_v2, hr⟩ := bind_get hr
  refine LOps.st rfl rfl rfl (LOp.call rfl rfl rfl (by kernel_rfl) (LC.pure (c123 h_v2) (.cons Conv.p (.cons Conv.p .nil)))) ?_
  refine LOps.st rfl rfl rfl (LOp.assign rfl rfl) ?_
  refine LOps.nil ?_
  refine thn_n ?_
  refine LW.seq ?_
  refine LW.seq ?_
  refine LW.region ?_
  refine LOps.st rfl rfl rfl (LOp.assign rfl rfl) ?_
  refine LOps.nil ?_
  refine thn_n ?_
  obtain ⟨v3, hb_v3, ho_v3⟩ := bind_get hr
  clear hr
  refine LW.tail (E := [(6, .ptr 1 0), (7, .ptr 2 0)]) (O := [.box [.p (.slice 1 (c.W.map i64P)), .p (.int .u64 c.Seed), .p (.int .i64 c.Epoch), .p (.int .i64 c.Num), .p (.int .i64 c.Den)], .box [.p (.int .u64 0), .p (.int .u64 0)], .box [.p (.int .u64 v3.id.1), .p (.int .u64 v3.id.2)]]) ?_ (fun env_v3 H_v3 hw_v3 => ?_)
  · refine LW.block ?_
    refine LW.iterB (E := fun x1 : F82_L1 => [(1, .p (.slice 5 (l.map blkP))), (2, .p (.slice 4 (v.map vtP))), (3, .ptr 0 0), (6, .ptr 1 0), (7, .ptr 2 0), (8, .p (.slice 2 (v1.map idP))), (9, .p (.bool v2)), (10, .p (.int .i64 x1.i))]) (O := fun x1 => [.box [.p (.slice 1 (c.W.map i64P)), .p (.int .u64 c.Seed), .p (.int .i64 c.Epoch), .p (.int .i64 c.Num), .p (.int .i64 c.Den)], .box [.p (.int .u64 0), .p (.int .u64 0)], .box [.p (.int .u64 x1.id.1), .p (.int .u64 x1.id.2)]]) hb_v3 (Weak.of 3 ⟨rfl, rfl, rfl, rfl, rfl, rfl, rfl, rfl, trivial⟩ rfl rfl rfl rfl) (fun x1 z_x1 hr hb_x1 => ?_)
    unfold F82_s1 at hr
    refine LW.seq ?_
    obtain ⟨v4, hb_v4, ho_v4⟩ := bind_get hr
    clear hr
    refine LW.cut (E := [(1, .p (.slice 5 (l.map blkP))), (2, .p (.slice 4 (v.map vtP))), (3, .ptr 0 0), (6, .ptr 1 0), (7, .ptr 2 0), (8, .p (.slice 2 (v1.map idP))), (9, .p (.bool v2)), (10, .p (.int .i64 x1.i)), (25, .p (.bool v4))]) (O := [.box [.p (.slice 1 (c.W.map i64P)), .p (.int .u64 c.Seed), .p (.int .i64 c.Epoch), .p (.int .i64 c.Num), .p (.int .i64 c.Den)], .box [.p (.int .u64 0), .p (.int .u64 0)], .box [.p (.int .u64 x1.id.1), .p (.int .u64 x1.id.2)]]) ?_ ?_
    · have hr := hb_v4
      refine LW.region ?_
      refine LOps.st rfl rfl rfl (LOp.move rfl rfl) ?_
      refine LOps.st rfl rfl rfl (LOp.move rfl rfl) ?_
      refine LOps.st rfl rfl rfl (LOp.lenM rfl rfl (by kernel_rfl)) ?_
      refine LOps.st rfl rfl rfl (LOp.bin rfl rfl rfl rfl) ?_
      refine LOps.st rfl rfl rfl (LOp.move rfl rfl) ?_
      refine LOps.cases 23 rfl (fun (g1 : (decide (x1.i ≤ (l.length : Int))) = true) => ?_) (fun (g1 : (decide (x1.i ≤ (l.length : Int))) = false) => ?_)
      · -- g1 is True
        have hr := ite_t g1 hr
        refine LOps.gd rfl rfl rfl (gd g1 rfl) rfl (LOp.move rfl rfl) ?_
        refine LOps.st rfl rfl rfl (LOp.pickT rfl (gdl g1 rfl) rfl) ?_
        refine LOps.nil ?_
        refine thn_n ?_
        obtain rfl := Option.some.inj hr
        exact Weak.of 3 ⟨rfl, rfl, rfl, rfl, rfl, rfl, rfl, rfl, rfl, trivial⟩ rfl rfl rfl rfl
      · -- g1 is False
        have hr := ite_f g1 hr
        refine LOps.sk rfl rfl rfl (gd g1 rfl) rfl rfl ?_
        refine LOps.st rfl rfl rfl (LOp.pickF rfl (gdl g1 rfl) rfl) ?_
        refine LOps.nil ?_
        refine thn_n ?_
        obtain rfl := Option.some.inj hr
        exact Weak.of 3 ⟨rfl, rfl, rfl, rfl, rfl, rfl, rfl, rfl, rfl, trivial⟩ rfl rfl rfl rfl
    · have hr := ho_v4
      clear hb_v4
      refine LW.cond rfl (fun (g2 : v4 = true) => ?_) (fun (g2 : v4 = false) => ?_)
      · -- g2 is True
        have hr := ite_t g2 hr
        refine LW.skip ?_
        refine thn_n ?_
        refine LW.seq ?_
        refine LW.block ?_
        refine LW.seq ?_
        refine LW.region ?_
        refine LOps.st rfl rfl rfl (LOp.load rfl rfl rfl vt55 rfl rfl) ?_
        refine LOps.st rfl rfl rfl (LOp.move rfl rfl) ?_
        refine LOps.st rfl rfl rfl (LOp.move rfl rfl) ?_
        refine LOps.st rfl rfl rfl (LOp.move rfl rfl) ?_
        refine LOps.st rfl rfl rfl (LOp.load rfl rfl rfl vt24 rfl rfl) ?_
        obtain ⟨v5, h_v5, hr⟩ := bind_get hr
        refine LOps.st rfl rfl rfl (LOp.call rfl rfl rfl (by kernel_rfl) (LC.pure (c124 h_v5) (.cons Conv.p (.cons Conv.p (.cons Conv.p (.cons Conv.p (.cons Conv.p .nil))))))) ?_
        refine LOps.st rfl rfl rfl (LOp.move rfl rfl) ?_
        refine LOps.st rfl rfl rfl (LOp.extract rfl rfl rfl) ?_
        refine LOps.st rfl rfl rfl (LOp.extract rfl rfl rfl) ?_
        refine LOps.st rfl rfl rfl (LOp.alloc rfl zt24 rfl rfl) ?_
        refine LOps.st rfl rfl rfl (LOp.store rfl rfl rfl rfl vt24 rfl rfl rfl rfl) ?_
        refine LOps.st rfl rfl rfl (LOp.assign rfl rfl) ?_
        refine LOps.nil ?_
        refine thn_n ?_
        refine LW.seq ?_
        refine LW.seq ?_
        refine LW.region ?_
        refine LOps.st rfl rfl rfl (LOp.move rfl rfl) ?_
        refine LOps.st rfl rfl rfl (LOp.not rfl rfl) ?_
        refine LOps.nil ?_
        refine thn_n ?_
        refine LW.cond rfl (fun (g3 : (!v5.2) = true) => ?_) (fun (g3 : (!v5.2) = false) => ?_)
        · -- g3 is True
          have hr := ite_t g3 hr
          refine LW.exit ?_
          refine thn_e ?_
          refine inBlk_other (by decide) ?_
          refine thn_e ?_
          refine thn_e ?_
          refine inBlk_self ?_
          refine thn_n ?_
          obtain rfl := Option.some.inj hr
          have hr := congrArg some (hb_x1 _ rfl)
          obtain rfl := Option.some.inj hr
          exact Weak.of 3 ⟨rfl, rfl, trivial⟩ rfl rfl rfl rfl
        · -- g3 is False
          have hr := ite_f g3 hr
          refine LW.skip ?_
          refine thn_n ?_
          refine LW.region ?_
          refine LOps.st rfl rfl rfl (LOp.load rfl rfl rfl vt24 rfl rfl) ?_
          refine LOps.st rfl rfl rfl (LOp.store rfl rfl rfl rfl vt24 rfl rfl rfl rfl) ?_
          refine LOps.nil ?_
          refine inBlk_n ?_
          refine thn_n ?_
          refine LW.region ?_
          refine LOps.st rfl rfl rfl (LOp.move rfl rfl) ?_
          refine LOps.st rfl rfl rfl (LOp.bin rfl rfl rfl rfl) ?_
          refine LOps.st rfl rfl rfl (LOp.assign rfl rfl) ?_
          refine LOps.nil ?_
          refine thn_n ?_
          obtain rfl := Option.some.inj hr
          exact ⟨_, rfl, Weak.of 3 ⟨rfl, rfl, rfl, rfl, rfl, rfl, rfl, rfl, trivial⟩ rfl rfl rfl rfl⟩
      · -- g2 is False
        have hr := ite_f g2 hr
        refine LW.exit ?_
        refine thn_e ?_
        refine thn_e ?_
        refine inBlk_self ?_
        refine thn_n ?_
        obtain rfl := Option.some.inj hr
        have hr := congrArg some (hb_x1 _ rfl)
        obtain rfl := Option.some.inj hr
        exact Weak.of 3 ⟨rfl, rfl, trivial⟩ rfl rfl rfl rfl
  · have hr := ho_v3
    clear hb_v3
    refine thn_n ?_
    refine LW.weak hw_v3 ?_
    refine LW.seq ?_
    refine LW.region ?_
    refine LOps.st rfl rfl rfl (LOp.load rfl rfl rfl vt24 rfl rfl) ?_
    refine LOps.st rfl rfl rfl (LOp.store rfl rfl rfl rfl vt24 rfl rfl rfl rfl) ?_
    refine LOps.nil ?_
    refine thn_n ?_
    refine LW.ret ?_
    obtain rfl := Option.some.inj hr
    refine finP_ret (.one (.cellAgg rfl rfl (by kernel_rfl) rfl)) ?_
    exact Conv.p
open Go.Proofs
def F152 (x : Vt) (_ : Cf) (l : List Bk) (id : ID) (m : List (ID × Bool)) : Option (Bool × (List (ID × Bool))) :=
  bif !((findE m x.Head).isSome) then
    bif few l then
      some (decide (indexOf (chainOf l x.Head) id ≥ 0), setE m x.Head (decide (indexOf (chainOf l x.Head) id ≥ 0)))
    else none
  else
    some ((findE m x.Head).getD false, m)
set_option maxRecDepth 100000 in
theorem cF152 {x : Vt} {c : Cf} {l : List Bk} {id : ID} {m : List (ID × Bool)} {r_ : Bool × (List (ID × Bool))} (hr : F152 x c l id m = some r_) : LC Try.prog 152 [.p (vtP x), .ptr 4 0, .ptr 1 0, .ptr 2 0] [.box [.p (.slice 1 (c.W.map i64P)), .p (.int .u64 c.Seed), .p (.int .i64 c.Epoch), .p (.int .i64 c.Num), .p (.int .i64 c.Den)], .box [.p (.slice 5 (l.map blkP))], .box [.p (.int .u64 id.1), .p (.int .u64 id.2)], .map (entsOf idP (fun v => .p (.bool v)) m), .box [.map 3]] (Is (.p (.bool r_.1)) [.box [.p (.slice 1 (c.W.map i64P)), .p (.int .u64 c.Seed), .p (.int .i64 c.Epoch), .p (.int .i64 c.Num), .p (.int .i64 c.Den)], .box [.p (.slice 5 (l.map blkP))], .box [.p (.int .u64 id.1), .p (.int .u64 id.2)], .map (entsOf idP (fun v => .p (.bool v)) r_.2), .box [.map 3]]) := by
  refine LC.start Try.func152 rfl rfl rfl ?_
  unfold F152 at hr
  refine LW.seq ?_
  refine LW.region ?_
  refine LOps.st rfl rfl rfl (LOp.box rfl rfl rfl rfl rfl) ?_
  refine LOps.st rfl rfl rfl (LOp.assign rfl rfl) ?_
  refine LOps.nil ?_
  refine thn_n ?_
  refine LW.seq ?_
  refine LW.region ?_
  refine LOps.st rfl rfl rfl (LOp.load rfl rfl rfl vt169 rfl rfl) ?_
  refine LOps.st rfl rfl rfl (LOp.fieldAddr rfl rfl ft82_2) ?_
  refine LOps.st rfl rfl rfl (LOp.load rfl rfl rfl vt24 rfl rfl) ?_
  refine LOps.st rfl rfl rfl (LOp.getX (f := idP) (g := (fun v => .p (.bool v))) x.Head false idKey rfl rfl rfl rfl mt169 zl4 rfl rfl) ?_
  refine LOps.st rfl rfl rfl (LOp.move rfl rfl) ?_
  refine LOps.st rfl rfl rfl (LOp.extract rfl rfl rfl) ?_
  refine LOps.st rfl rfl rfl (LOp.extract rfl rfl rfl) ?_
  refine LOps.st rfl rfl rfl (LOp.assign rfl rfl) ?_
  refine LOps.st rfl rfl rfl (LOp.assign rfl rfl) ?_
  refine LOps.nil ?_
  refine thn_n ?_
  refine LW.seq ?_
  refine LW.seq ?_
  refine LW.region ?_
  refine LOps.st rfl rfl rfl (LOp.move rfl rfl) ?_
  refine LOps.st rfl rfl rfl (LOp.not rfl rfl) ?_
  refine LOps.nil ?_
  refine thn_n ?_
  refine LW.cond rfl (fun (g1 : (!((findE m x.Head).isSome)) = true) => ?_) (fun (g1 : (!((findE m x.Head).isSome)) = false) => ?_)
  · -- g1 is True
    have hr := ite_t g1 hr
    refine LW.seq ?_
    refine LW.draw (by kernel_rfl) (by kernel_rfl) ?_
    refine LO.st rfl rfl rfl (LOp.load rfl rfl rfl vt27 rfl rfl) ?_
    refine LO.st rfl rfl rfl (LOp.fieldAddr rfl rfl ft82_2) ?_
    refine LO.st rfl rfl rfl (LOp.load rfl rfl rfl vt24 rfl rfl) ?_
    obtain ⟨q1, hr⟩ := grd_get hr
    refine LO.st rfl rfl rfl (LOp.call rfl rfl rfl (by kernel_rfl) (LC.pure (c39 (l := l) (id := x.Head) (few_le q1)) (.cons Conv.p (.cons Conv.p .nil)))) ?_
    refine LO.st rfl rfl rfl (LOp.load rfl rfl rfl vt24 rfl rfl) ?_
    refine LO.st rfl rfl rfl (LOp.call rfl rfl rfl (by kernel_rfl) (LC.pure (c95 (l := (chainOf l x.Head)) (v := id)) (.cons Conv.p (.cons Conv.p .nil)))) ?_
    refine LO.st rfl rfl rfl (LOp.assign rfl rfl) ?_
    refine LO.nil ?_
    refine thn_n ?_
    refine LW.region ?_
    refine LOps.st rfl rfl rfl (LOp.load rfl rfl rfl vt169 rfl rfl) ?_
    refine LOps.st rfl rfl rfl (LOp.fieldAddr rfl rfl ft82_2) ?_
    refine LOps.st rfl rfl rfl (LOp.load rfl rfl rfl vt24 rfl rfl) ?_
    refine LOps.st rfl rfl rfl (LOp.move rfl rfl) ?_
    refine LOps.st rfl rfl rfl (LOp.setX (f := idP) (g := (fun v => .p (.bool v))) x.Head (decide (indexOf (chainOf l x.Head) id ≥ 0)) idKey (.inl rfl) rfl rfl rfl rfl rfl mt169 rfl) ?_
    refine LOps.nil ?_
    refine thn_n ?_
    refine LW.seq ?_
    refine LW.region ?_
    refine LOps.st rfl rfl rfl (LOp.move rfl rfl) ?_
    refine LOps.st rfl rfl rfl (LOp.assign rfl rfl) ?_
    refine LOps.nil ?_
    refine thn_n ?_
    refine LW.ret ?_
    obtain rfl := Option.some.inj hr
    refine fin_retW (env' := [(5, .p (.bool (decide (indexOf (chainOf l x.Head) id ≥ 0))))]) (H' := [.box [.p (.slice 1 (c.W.map i64P)), .p (.int .u64 c.Seed), .p (.int .i64 c.Epoch), .p (.int .i64 c.Num), .p (.int .i64 c.Den)], .box [.p (.slice 5 (l.map blkP))], .box [.p (.int .u64 id.1), .p (.int .u64 id.2)], .map (entsOf idP (fun v => .p (.bool v)) (setE m x.Head (decide (indexOf (chainOf l x.Head) id ≥ 0)))), .box [.map 3]]) (Weak.of 5 ⟨rfl, trivial⟩ rfl rfl rfl (lowObjs_cons rfl (lowObjs_cons rfl (lowObjs_cons rfl (lowObjs_cons (entsLow (fun _ => rfl) _) (lowObjs_cons rfl rfl)))))) (.one (.tmp rfl)) ?_
    exact ⟨rfl, rfl⟩
  · -- g1 is False
    have hr := ite_f g1 hr
    refine LW.skip ?_
    refine thn_n ?_
    refine LW.seq ?_
    refine LW.region ?_
    refine LOps.st rfl rfl rfl (LOp.move rfl rfl) ?_
    refine LOps.st rfl rfl rfl (LOp.assign rfl rfl) ?_
    refine LOps.nil ?_
    refine thn_n ?_
    refine LW.ret ?_
    obtain rfl := Option.some.inj hr
    refine fin_retW (env' := [(5, .p (.bool ((findE m x.Head).getD false)))]) (H' := [.box [.p (.slice 1 (c.W.map i64P)), .p (.int .u64 c.Seed), .p (.int .i64 c.Epoch), .p (.int .i64 c.Num), .p (.int .i64 c.Den)], .box [.p (.slice 5 (l.map blkP))], .box [.p (.int .u64 id.1), .p (.int .u64 id.2)], .map (entsOf idP (fun v => .p (.bool v)) m), .box [.map 3]]) (Weak.of 5 ⟨rfl, trivial⟩ rfl rfl rfl (lowObjs_cons rfl (lowObjs_cons rfl (lowObjs_cons rfl (lowObjs_cons (entsLow (fun _ => rfl) _) (lowObjs_cons rfl rfl)))))) (.one (.tmp rfl)) ?_
    exact ⟨rfl, rfl⟩
structure F153_L1 where
  t12 : Int
  o3 : List (ID × Bool)
  out : List Int
def F153_s1 (v : List Vt) (c : Cf) (l : List Bk) (id : ID) (x1 : F153_L1) : Option (F153_L1 ⊕ F153_L1) :=
  bif decide (x1.t12 < (v.length : Int)) then
    (ix v x1.t12).bind fun y1 =>
    (F152 y1 c l id x1.o3).bind fun v2 =>
    bif v2.1 then
      (F154 y1).bind fun v3 =>
      bif room x1.out.length [v3].length 8 then
        some (.inl (F153_L1.mk (IntKind.i64.wrap (x1.t12 + 1)) v2.2 (x1.out ++ [v3])))
      else none
    else
      some (.inl (F153_L1.mk (IntKind.i64.wrap (x1.t12 + 1)) v2.2 x1.out))
  else
    some (.inr (F153_L1.mk x1.t12 x1.o3 x1.out))
def F153 (v : List Vt) (c : Cf) (l : List Bk) (id : ID) (m : List (ID × Bool)) : Option (List Int × List (ID × Bool)) :=
  (iter (F153_s1 v c l id) big (F153_L1.mk 0 m ([] : List Int))).bind fun v1 =>
  some (v1.out, v1.o3)
set_option maxRecDepth 100000 in
theorem cF153 {v : List Vt} {c : Cf} {l : List Bk} {id : ID} {m : List (ID × Bool)} {r_ : List Int × List (ID × Bool)} (hr : F153 v c l id m = some r_) : LC Try.prog 153 [.p (.slice 4 (v.map vtP)), .fn 152 [] [.ptr 4 0, .ptr 1 0, .ptr 2 0], .fn 154 [] []] [.box [.p (.slice 1 (c.W.map i64P)), .p (.int .u64 c.Seed), .p (.int .i64 c.Epoch), .p (.int .i64 c.Num), .p (.int .i64 c.Den)], .box [.p (.slice 5 (l.map blkP))], .box [.p (.int .u64 id.1), .p (.int .u64 id.2)], .map (entsOf idP (fun v => .p (.bool v)) m), .box [.map 3]] (Is (.p (.slice 1 (r_.1.map i64P))) [.box [.p (.slice 1 (c.W.map i64P)), .p (.int .u64 c.Seed), .p (.int .i64 c.Epoch), .p (.int .i64 c.Num), .p (.int .i64 c.Den)], .box [.p (.slice 5 (l.map blkP))], .box [.p (.int .u64 id.1), .p (.int .u64 id.2)], .map (entsOf idP (fun v => .p (.bool v)) r_.2), .box [.map 3]]) := by
  refine LC.start Try.func153 rfl rfl rfl ?_
  unfold F153 at hr
  refine LW.seq ?_
  refine LW.region ?_
  refine LOps.st rfl rfl rfl (LOp.assign rfl rfl) ?_
  refine LOps.nil ?_
  refine thn_n ?_
  refine LW.seq ?_
  refine LW.region ?_
  refine LOps.st rfl rfl rfl (LOp.assign rfl rfl) ?_
  refine LOps.nil ?_
  refine thn_n ?_
  refine LW.seq ?_
  refine LW.seq ?_
  refine LW.region ?_
  refine LOps.st rfl rfl rfl (LOp.move rfl rfl) ?_
  refine LOps.st rfl rfl rfl (LOp.lenM rfl rfl (by kernel_rfl)) ?_
  refine LOps.st rfl rfl rfl (LOp.move rfl rfl) ?_
  refine LOps.nil ?_
  refine thn_n ?_
  refine LW.ent (Ent.lazy (t := 7) (m := 1) rfl rfl rfl) ?_
  obtain ⟨v1, hb_v1, ho_v1⟩ := bind_get hr
  clear hr
  refine LW.tail (E := [(6, .zs), (7, .vec 1 5 (v1.out.map i64P).length 0 (v1.out.map i64P).length)]) (O := [.box [.p (.slice 1 (c.W.map i64P)), .p (.int .u64 c.Seed), .p (.int .i64 c.Epoch), .p (.int .i64 c.Num), .p (.int .i64 c.Den)], .box [.p (.slice 5 (l.map blkP))], .box [.p (.int .u64 id.1), .p (.int .u64 id.2)], .map (entsOf idP (fun v => .p (.bool v)) v1.o3), .box [.map 3], .vec 1 (v1.out.map i64P)]) ?_ (fun env_v1 H_v1 hw_v1 => ?_)
  · refine LW.block ?_
    refine LW.iterB (E := fun x1 : F153_L1 => [(1, .fn 152 [] [.ptr 4 0, .ptr 1 0, .ptr 2 0]), (2, .fn 154 [] []), (6, .zs), (7, .vec 1 5 (x1.out.map i64P).length 0 (x1.out.map i64P).length), (10, .p (.slice 4 (v.map vtP))), (11, .p (.int .i64 (v.length : Int))), (12, .p (.int .i64 x1.t12))]) (O := fun x1 => [.box [.p (.slice 1 (c.W.map i64P)), .p (.int .u64 c.Seed), .p (.int .i64 c.Epoch), .p (.int .i64 c.Num), .p (.int .i64 c.Den)], .box [.p (.slice 5 (l.map blkP))], .box [.p (.int .u64 id.1), .p (.int .u64 id.2)], .map (entsOf idP (fun v => .p (.bool v)) x1.o3), .box [.map 3], .vec 1 (x1.out.map i64P)]) hb_v1 (Weak.of 6 ⟨rfl, rfl, rfl, rfl, rfl, rfl, rfl, trivial⟩ rfl rfl rfl (lowObjs_cons rfl (lowObjs_cons rfl (lowObjs_cons rfl (lowObjs_cons (entsLow (fun _ => rfl) _) (lowObjs_cons rfl (lowObjs_cons rfl rfl))))))) (fun x1 z_x1 hr hb_x1 => ?_)
    unfold F153_s1 at hr
    refine LW.seq ?_
    refine LW.region ?_
    refine LOps.st rfl rfl rfl (LOp.bin rfl rfl rfl rfl) ?_
    refine LOps.nil ?_
    refine thn_n ?_
    refine LW.seq ?_
    refine LW.cond rfl (fun (g1 : (decide (x1.t12 < (v.length : Int))) = true) => ?_) (fun (g1 : (decide (x1.t12 < (v.length : Int))) = false) => ?_)
    · -- g1 is True
      have hr := ite_t g1 hr
      refine LW.skip ?_
      refine thn_n ?_
      refine LW.seq ?_
      refine LW.block ?_
      refine LW.seq ?_
      refine LW.region ?_
      obtain ⟨y1, h_y1, hr⟩ := bind_get hr
      refine LOps.st rfl rfl rfl (LOp.indexAddrX rfl rfl rfl st68 h_y1 rfl) ?_
      refine LOps.st rfl rfl rfl (LOp.loadC rfl rfl rfl vt82 rfl rfl) ?_
      refine LOps.st rfl rfl rfl (LOp.alloc rfl zt82 rfl rfl) ?_
      refine LOps.st rfl rfl rfl (LOp.store rfl rfl rfl rfl vt82 rfl rfl rfl rfl) ?_
      refine LOps.nil ?_
      refine thn_n ?_
      refine LW.seq ?_
      refine LW.region ?_
      refine LOps.st rfl rfl rfl (LOp.move rfl rfl) ?_
      refine LOps.st rfl rfl rfl (LOp.load rfl rfl rfl vt82 rfl rfl) ?_
      obtain ⟨v2, h_v2, hr⟩ := bind_get hr
      refine LOps.st rfl rfl rfl (LOp.call rfl rfl rfl (by kernel_rfl) (LC.pre (cF152 h_v2) rfl (lowObjs_cons rfl (lowObjs_cons rfl (lowObjs_cons rfl (lowObjs_cons (entsLow (fun _ => rfl) _) (lowObjs_cons rfl rfl))))) rfl)) ?_
      refine LOps.nil ?_
      refine thn_n ?_
      refine LW.cond rfl (fun (g2 : v2.1 = true) => ?_) (fun (g2 : v2.1 = false) => ?_)
      · -- g2 is True
        have hr := ite_t g2 hr
        refine LW.region ?_
        refine LOps.st rfl rfl rfl (LOp.move rfl rfl) ?_
        refine LOps.st rfl rfl rfl (LOp.move rfl rfl) ?_
        refine LOps.st rfl rfl rfl (LOp.load rfl rfl rfl vt82 rfl rfl) ?_
        obtain ⟨v3, h_v3, hr⟩ := bind_get hr
        refine LOps.st rfl rfl rfl (LOp.call rfl rfl rfl (by kernel_rfl) (LC.pure (c154 h_v3) (.cons Conv.p .nil))) ?_
        refine LOps.st rfl rfl rfl (LOp.buildSlice rfl st49 rfl rfl rfl rfl rfl) ?_
        obtain ⟨q1, hr⟩ := grd_get hr
        refine LOps.st rfl rfl rfl (LOp.appendX i64P x1.out [v3] rfl rfl rfl rfl Src.p rfl st49 q1 rfl) ?_
        refine LOps.st rfl rfl rfl (LOp.assign rfl rfl) ?_
        refine LOps.nil ?_
        refine inBlk_n ?_
        refine thn_n ?_
        refine LW.region ?_
        refine LOps.st rfl rfl rfl (LOp.bin rfl rfl rfl rfl) ?_
        refine LOps.st rfl rfl rfl (LOp.move rfl rfl) ?_
        refine LOps.nil ?_
        refine thn_n ?_
        obtain rfl := Option.some.inj hr
        exact ⟨_, rfl, Weak.of 6 ⟨rfl, rfl, rfl, rfl, rfl, rfl, rfl, trivial⟩ rfl rfl rfl (lowObjs_cons rfl (lowObjs_cons rfl (lowObjs_cons rfl (lowObjs_cons (entsLow (fun _ => rfl) _) (lowObjs_cons rfl (lowObjs_cons rfl rfl))))))⟩
      · -- g2 is False
        have hr := ite_f g2 hr
        refine LW.skip ?_
        refine inBlk_n ?_
        refine thn_n ?_
        refine LW.region ?_
        refine LOps.st rfl rfl rfl (LOp.bin rfl rfl rfl rfl) ?_
        refine LOps.st rfl rfl rfl (LOp.move rfl rfl) ?_
        refine LOps.nil ?_
        refine thn_n ?_
        obtain rfl := Option.some.inj hr
        exact ⟨_, rfl, Weak.of 6 ⟨rfl, rfl, rfl, rfl, rfl, rfl, rfl, trivial⟩ rfl rfl rfl (lowObjs_cons rfl (lowObjs_cons rfl (lowObjs_cons rfl (lowObjs_cons (entsLow (fun _ => rfl) _) (lowObjs_cons rfl (lowObjs_cons rfl rfl))))))⟩
    · -- g1 is False
      have hr := ite_f g1 hr
      refine LW.exit ?_
      refine thn_e ?_
      refine thn_e ?_
      refine inBlk_self ?_
      refine thn_n ?_
      obtain rfl := Option.some.inj hr
      have hr := congrArg some (hb_x1 _ rfl)
      obtain rfl := Option.some.inj hr
      exact Weak.of 6 ⟨rfl, rfl, trivial⟩ rfl rfl rfl (lowObjs_cons rfl (lowObjs_cons rfl (lowObjs_cons rfl (lowObjs_cons (entsLow (fun _ => rfl) _) (lowObjs_cons rfl (lowObjs_cons rfl rfl))))))
  · have hr := ho_v1
    clear hb_v1
    refine thn_n ?_
    refine LW.weak hw_v1 ?_
    refine LW.seq ?_
    refine LW.region ?_
    refine LOps.st rfl rfl rfl (LOp.move rfl rfl) ?_
    refine LOps.st rfl rfl rfl (LOp.assign rfl rfl) ?_
    refine LOps.nil ?_
    refine thn_n ?_
    refine LW.weak (env' := [(6, .vec 1 5 (v1.out.map i64P).length 0 (v1.out.map i64P).length)]) (H' := [.box [.p (.slice 1 (c.W.map i64P)), .p (.int .u64 c.Seed), .p (.int .i64 c.Epoch), .p (.int .i64 c.Num), .p (.int .i64 c.Den)], .box [.p (.slice 5 (l.map blkP))], .box [.p (.int .u64 id.1), .p (.int .u64 id.2)], .map (entsOf idP (fun v => .p (.bool v)) v1.o3), .box [.map 3], .vec 1 (v1.out.map i64P)]) (Weak.of 6 ⟨rfl, trivial⟩ rfl rfl rfl (lowObjs_cons rfl (lowObjs_cons rfl (lowObjs_cons rfl (lowObjs_cons (entsLow (fun _ => rfl) _) (lowObjs_cons rfl (lowObjs_cons rfl rfl))))))) ?_
    refine LW.ent (Ent.frz (t := 6) (env' := []) (H0 := [.box [.p (.slice 1 (c.W.map i64P)), .p (.int .u64 c.Seed), .p (.int .i64 c.Epoch), .p (.int .i64 c.Num), .p (.int .i64 c.Den)], .box [.p (.slice 5 (l.map blkP))], .box [.p (.int .u64 id.1), .p (.int .u64 id.2)], .map (entsOf idP (fun v => .p (.bool v)) v1.o3), .box [.map 3]]) rfl rfl rfl rfl rfl trivial rfl (lowObjs_cons rfl (lowObjs_cons rfl (lowObjs_cons rfl (lowObjs_cons (entsLow (fun _ => rfl) _) (lowObjs_cons rfl rfl)))))) ?_
    refine LW.ret ?_
    obtain rfl := Option.some.inj hr
    refine fin_ret (.one (.tmp rfl)) ?_
    exact ⟨rfl, rfl⟩
def F121 (c : Cf) (l : List Bk) (v : List Vt) (id : ID) : Option Int :=
  (F153 v c l id []).bind fun v1 =>
  (F70 c v1.1).bind fun v2 =>
  some v2
set_option maxRecDepth 100000 in
theorem c121 {c : Cf} {l : List Bk} {v : List Vt} {id : ID} {r_ : Int} (hr : F121 c l v id = some r_) : LPure Try.prog 121 [cfP c, .slice 5 (l.map blkP), .slice 4 (v.map vtP), idP id] [.int .i64 r_] := by
  refine LPure.start Try.func121 rfl rfl rfl rfl ?_
  unfold F121 at hr
  refine LW.seq ?_
  refine LW.region ?_
  refine LOps.st rfl rfl rfl (LOp.box rfl rfl rfl rfl rfl) ?_
  refine LOps.st rfl rfl rfl (LOp.box rfl rfl rfl rfl rfl) ?_
  refine LOps.st rfl rfl rfl (LOp.box rfl rfl rfl rfl rfl) ?_
  refine LOps.st rfl rfl rfl (LOp.assign rfl rfl) ?_
  refine LOps.nil ?_
  refine thn_n ?_
  refine LW.seq ?_
  refine LW.region ?_
  refine LOps.st rfl rfl rfl (LOp.makeMap rfl rfl rfl) ?_
  refine LOps.st rfl rfl rfl (LOp.alloc rfl zt169 rfl rfl) ?_
  refine LOps.st rfl rfl rfl (LOp.store rfl rfl rfl rfl vt169 rfl rfl rfl rfl) ?_
  refine LOps.nil ?_
  refine thn_n ?_
  refine LW.seq ?_
  refine LW.region ?_
  refine LOps.st rfl rfl rfl (LOp.makeFunc rfl rfl rfl) ?_
  refine LOps.st rfl rfl rfl (LOp.assign rfl rfl) ?_
  refine LOps.nil ?_
  refine thn_n ?_
  refine LW.seq ?_
  refine LW.drawW (by kernel_rfl) (by kernel_rfl) ?_
  refine LF.st rfl rfl rfl (LAt.load rfl rfl rfl vt55 rfl rfl) rfl ?_
  refine LF.st (F := []) (s := none) rfl rfl rfl (fun H _ => LOp.move rfl rfl) rfl ?_
  refine LF.st (F := []) (s := none) rfl rfl rfl (fun H _ => LOp.move rfl rfl) rfl ?_
  obtain ⟨v1, h_v1, hr⟩ := bind_get hr
  refine LF.st rfl rfl rfl (LAt.all (s := some (3, .map (entsOf idP (fun v => .p (.bool v)) v1.2))) (LOp.call rfl rfl rfl (by kernel_rfl) (cF153 h_v1)) rfl rfl rfl) rfl ?_
  obtain ⟨v2, h_v2, hr⟩ := bind_get hr
  refine LF.st (F := []) (s := none) rfl rfl rfl (fun H _ => LOp.call rfl rfl rfl (by kernel_rfl) (LC.pure (c70 h_v2) (.cons Conv.p (.cons Conv.p .nil)))) rfl ?_
  refine LF.st (F := []) (s := none) rfl rfl rfl (fun H _ => LOp.assign rfl rfl) rfl ?_
  refine LF.nil ⟨by kernel_rfl, ?_⟩
  refine thn_n ?_
  refine LW.ret ?_
  obtain rfl := Option.some.inj hr
  refine finP_ret (.one (.tmp rfl)) ?_
  exact Conv.p
structure F79_L1 where
  t19 : Int
  best : Rk
def F79_s1 (c : Cf) (l : List Bk) (v : List Vt) (v1 : (List ID)) (x1 : F79_L1) : Option (F79_L1 ⊕ F79_L1) :=
  bif decide (x1.t19 < (v1.length : Int)) then
    (ix v1 x1.t19).bind fun y1 =>
    (F121 c l v y1).bind fun v3 =>
    (F122 (Rk.mk v3 y1) x1.best).bind fun v4 =>
    bif v4 then
      some (.inl (F79_L1.mk (IntKind.i64.wrap (x1.t19 + 1)) (Rk.mk v3 y1)))
    else
      some (.inl (F79_L1.mk (IntKind.i64.wrap (x1.t19 + 1)) x1.best))
  else
    some (.inr (F79_L1.mk x1.t19 x1.best))
def F79 (c : Cf) (l : List Bk) (v : List Vt) (id : ID) : Option (ID × Bool) :=
  (F46 l id).bind fun v1 =>
  (iter (F79_s1 c l v v1) big (F79_L1.mk 0 (Rk.mk (-1) (0, 0)))).bind fun v2 =>
  some (v2.best.id, decide (v2.best.n ≥ 0))
set_option maxRecDepth 100000 in
theorem c79 {c : Cf} {l : List Bk} {v : List Vt} {id : ID} {r_ : ID × Bool} (hr : F79 c l v id = some r_) : LPure Try.prog 79 [cfP c, .slice 5 (l.map blkP), .slice 4 (v.map vtP), idP id] [idP r_.1, .bool r_.2] := by
  refine LPure.start Try.func79 rfl rfl rfl rfl ?_
  unfold F79 at hr
  refine LW.seq ?_
  refine LW.region ?_
  refine LOps.st rfl rfl rfl (LOp.box rfl rfl rfl rfl rfl) ?_
  refine LOps.st rfl rfl rfl (LOp.box rfl rfl rfl rfl rfl) ?_
  refine LOps.st rfl rfl rfl (LOp.alloc rfl zt24 rfl rfl) ?_
  refine LOps.st rfl rfl rfl (LOp.assign rfl rfl) ?_
  refine LOps.nil ?_
  refine thn_n ?_
  refine LW.seq ?_
  refine LW.region ?_
  refine LOps.st rfl rfl rfl (LOp.build rfl bt136 rfl rfl rfl) ?_
  refine LOps.st rfl rfl rfl (LOp.alloc rfl zt136 rfl rfl) ?_
  refine LOps.st rfl rfl rfl (LOp.store rfl rfl rfl rfl vt136 rfl rfl rfl rfl) ?_
  refine LOps.nil ?_
  refine thn_n ?_
  refine LW.seq ?_
  refine LW.seq ?_
  refine LW.region ?_
  refine LOps.st rfl rfl rfl (LOp.move rfl rfl) ?_
  refine LOps.st rfl rfl rfl (LOp.load rfl rfl rfl vt24 rfl rfl) ?_
  obtain ⟨v1, h_v1, hr⟩ := bind_get hr
  refine LOps.st rfl rfl rfl (LOp.call rfl rfl rfl (by kernel_rfl) (LC.pure (c46 h_v1) (.cons Conv.p (.cons Conv.p .nil)))) ?_
  refine LOps.st rfl rfl rfl (LOp.lenM rfl rfl (by kernel_rfl)) ?_
  refine LOps.st rfl rfl rfl (LOp.move rfl rfl) ?_
  refine LOps.nil ?_
  refine thn_n ?_
  obtain ⟨v2, hb_v2, ho_v2⟩ := bind_get hr
  clear hr
  refine LW.tail (E := [(8, .ptr 2 0), (9, .p (.bool false)), (10, .ptr 3 0)]) (O := [.box [.p (.slice 1 (c.W.map i64P)), .p (.int .u64 c.Seed), .p (.int .i64 c.Epoch), .p (.int .i64 c.Num), .p (.int .i64 c.Den)], .box [.p (.int .u64 id.1), .p (.int .u64 id.2)], .box [.p (.int .u64 0), .p (.int .u64 0)], .box [.p (.int .i64 v2.best.n), .p (.int .u64 v2.best.id.1), .p (.int .u64 v2.best.id.2)]]) ?_ (fun env_v2 H_v2 hw_v2 => ?_)
  · refine LW.block ?_
    refine LW.iterB (E := fun x1 : F79_L1 => [(1, .p (.slice 5 (l.map blkP))), (2, .p (.slice 4 (v.map vtP))), (4, .ptr 0 0), (8, .ptr 2 0), (9, .p (.bool false)), (10, .ptr 3 0), (17, .p (.slice 2 (v1.map idP))), (18, .p (.int .i64 (v1.length : Int))), (19, .p (.int .i64 x1.t19))]) (O := fun x1 => [.box [.p (.slice 1 (c.W.map i64P)), .p (.int .u64 c.Seed), .p (.int .i64 c.Epoch), .p (.int .i64 c.Num), .p (.int .i64 c.Den)], .box [.p (.int .u64 id.1), .p (.int .u64 id.2)], .box [.p (.int .u64 0), .p (.int .u64 0)], .box [.p (.int .i64 x1.best.n), .p (.int .u64 x1.best.id.1), .p (.int .u64 x1.best.id.2)]]) hb_v2 (Weak.of 4 ⟨rfl, rfl, rfl, rfl, rfl, rfl, rfl, rfl, rfl, trivial⟩ rfl rfl rfl rfl) (fun x1 z_x1 hr hb_x1 => ?_)
    unfold F79_s1 at hr
    refine LW.seq ?_
    refine LW.region ?_
    refine LOps.st rfl rfl rfl (LOp.bin rfl rfl rfl rfl) ?_
    refine LOps.nil ?_
    refine thn_n ?_
    refine LW.seq ?_
    refine LW.cond rfl (fun (g1 : (decide (x1.t19 < (v1.length : Int))) = true) => ?_) (fun (g1 : (decide (x1.t19 < (v1.length : Int))) = false) => ?_)
    · -- g1 is True
      have hr := ite_t g1 hr
      refine LW.skip ?_
      refine thn_n ?_
      refine LW.seq ?_
      refine LW.block ?_
      refine LW.seq ?_
      refine LW.region ?_
      obtain ⟨y1, h_y1, hr⟩ := bind_get hr
      refine LOps.st rfl rfl rfl (LOp.indexAddrX rfl rfl rfl st31 h_y1 rfl) ?_
      refine LOps.st rfl rfl rfl (LOp.loadC rfl rfl rfl vt24 rfl rfl) ?_
      refine LOps.st rfl rfl rfl (LOp.alloc rfl zt24 rfl rfl) ?_
      refine LOps.st rfl rfl rfl (LOp.store rfl rfl rfl rfl vt24 rfl rfl rfl rfl) ?_
      refine LOps.nil ?_
      refine thn_n ?_
      refine LW.seq ?_
      refine LW.ent (Ent.slot rfl) ?_
      refine LW.drawW (by kernel_rfl) (by kernel_rfl) ?_
      refine LF.st rfl rfl rfl (LAt.load rfl rfl rfl vt55 rfl rfl) rfl ?_
      refine LF.st (F := []) (s := none) rfl rfl rfl (fun H _ => LOp.move rfl rfl) rfl ?_
      refine LF.st (F := []) (s := none) rfl rfl rfl (fun H _ => LOp.move rfl rfl) rfl ?_
      refine LF.st rfl rfl rfl (LAt.load rfl rfl rfl vt24 rfl rfl) rfl ?_
      obtain ⟨v3, h_v3, hr⟩ := bind_get hr
      refine LF.st (F := []) (s := none) rfl rfl rfl (fun H _ => LOp.call rfl rfl rfl (by kernel_rfl) (LC.pure (c121 h_v3) (.cons Conv.p (.cons Conv.p (.cons Conv.p (.cons Conv.p .nil)))))) rfl ?_
      refine LF.st rfl rfl rfl (LAt.load rfl rfl rfl vt24 rfl rfl) rfl ?_
      refine LF.st (F := []) (s := none) rfl rfl rfl (fun H _ => LOp.build rfl bt136 rfl rfl rfl) rfl ?_
      refine LF.st rfl rfl rfl (LAt.alloc rfl zt136 (id := 5) rfl) rfl ?_
      refine LF.st rfl rfl rfl (LAt.store rfl rfl rfl rfl vt136 rfl rfl rfl) rfl ?_
      refine LF.nil ⟨by kernel_rfl, ?_⟩
      refine thn_n ?_
      refine LW.seq ?_
      refine LW.region ?_
      refine LOps.st rfl rfl rfl (LOp.load rfl rfl rfl vt136 rfl rfl) ?_
      refine LOps.st rfl rfl rfl (LOp.load rfl rfl rfl vt136 rfl rfl) ?_
      obtain ⟨v4, h_v4, hr⟩ := bind_get hr
      refine LOps.st rfl rfl rfl (LOp.call rfl rfl rfl (by kernel_rfl) (LC.pure (c122 h_v4) (.cons Conv.p (.cons Conv.p .nil)))) ?_
      refine LOps.nil ?_
      refine thn_n ?_
      refine LW.cond rfl (fun (g2 : v4 = true) => ?_) (fun (g2 : v4 = false) => ?_)
      · -- g2 is True
        have hr := ite_t g2 hr
        refine LW.region ?_
        refine LOps.st rfl rfl rfl (LOp.load rfl rfl rfl vt136 rfl rfl) ?_
        refine LOps.st rfl rfl rfl (LOp.store rfl rfl rfl rfl vt136 rfl rfl rfl rfl) ?_
        refine LOps.nil ?_
        refine inBlk_n ?_
        refine thn_n ?_
        refine LW.region ?_
        refine LOps.st rfl rfl rfl (LOp.bin rfl rfl rfl rfl) ?_
        refine LOps.st rfl rfl rfl (LOp.move rfl rfl) ?_
        refine LOps.nil ?_
        refine thn_n ?_
        obtain rfl := Option.some.inj hr
        exact ⟨_, rfl, Weak.of 4 ⟨rfl, rfl, rfl, rfl, rfl, rfl, rfl, rfl, rfl, trivial⟩ rfl rfl rfl rfl⟩
      · -- g2 is False
        have hr := ite_f g2 hr
        refine LW.skip ?_
        refine inBlk_n ?_
        refine thn_n ?_
        refine LW.region ?_
        refine LOps.st rfl rfl rfl (LOp.bin rfl rfl rfl rfl) ?_
        refine LOps.st rfl rfl rfl (LOp.move rfl rfl) ?_
        refine LOps.nil ?_
        refine thn_n ?_
        obtain rfl := Option.some.inj hr
        exact ⟨_, rfl, Weak.of 4 ⟨rfl, rfl, rfl, rfl, rfl, rfl, rfl, rfl, rfl, trivial⟩ rfl rfl rfl rfl⟩
    · -- g1 is False
      have hr := ite_f g1 hr
      refine LW.exit ?_
      refine thn_e ?_
      refine thn_e ?_
      refine inBlk_self ?_
      refine thn_n ?_
      obtain rfl := Option.some.inj hr
      have hr := congrArg some (hb_x1 _ rfl)
      obtain rfl := Option.some.inj hr
      exact Weak.of 4 ⟨rfl, rfl, rfl, trivial⟩ rfl rfl rfl rfl
  · have hr := ho_v2
    clear hb_v2
    refine thn_n ?_
    refine LW.weak hw_v2 ?_
    refine LW.seq ?_
    refine LW.drawW (by kernel_rfl) (by kernel_rfl) ?_
    refine LF.st (F := []) (s := none) rfl rfl rfl (fun H _ => LOp.fieldAddr rfl rfl ft136_1) rfl ?_
    refine LF.st rfl rfl rfl (LAt.load rfl rfl rfl vt24 rfl rfl) rfl ?_
    refine LF.st (F := []) (s := none) rfl rfl rfl (fun H _ => LOp.fieldAddr rfl rfl ft136_0) rfl ?_
    refine LF.st rfl rfl rfl (LAt.load rfl rfl rfl vt3 rfl rfl) rfl ?_
    refine LF.st (F := []) (s := none) rfl rfl rfl (fun H _ => LOp.bin rfl rfl rfl rfl) rfl ?_
    refine LF.st rfl rfl rfl (LAt.store rfl rfl rfl rfl vt24 rfl rfl rfl) rfl ?_
    refine LF.st (F := []) (s := none) rfl rfl rfl (fun H _ => LOp.assign rfl rfl) rfl ?_
    refine LF.nil ⟨by kernel_rfl, ?_⟩
    refine thn_n ?_
    refine LW.ret ?_
    obtain rfl := Option.some.inj hr
    refine finP_ret (.two (.cellAgg rfl rfl (by kernel_rfl) rfl) (.tmp rfl)) ?_
    exact ⟨_, rfl, (.cons Conv.p (.cons Conv.p .nil))⟩
structure F81_L1 where
  id : ID
def F81_s1 (c : Cf) (l : List Bk) (v : List Vt) (x1 : F81_L1) : Option (F81_L1 ⊕ F81_L1) :=
  (F79 c l v x1.id).bind fun v2 =>
  bif !v2.2 then
    some (.inr (F81_L1.mk x1.id))
  else
    some (.inl (F81_L1.mk v2.1))
def F81 (c : Cf) (l : List Bk) (v : List Vt) : Option ID :=
  (iter (F81_s1 c l v) big (F81_L1.mk (0, 0))).bind fun v1 =>
  some v1.id
set_option maxRecDepth 100000 in
theorem c81 {c : Cf} {l : List Bk} {v : List Vt} {r_ : ID} (hr : F81 c l v = some r_) : LPure Try.prog 81 [cfP c, .slice 5 (l.map blkP), .slice 4 (v.map vtP)] [idP r_] := by
  refine LPure.start Try.func81 rfl rfl rfl rfl ?_
  unfold F81 at hr
  refine LW.seq ?_
  refine LW.region ?_
  refine LOps.st rfl rfl rfl (LOp.box rfl rfl rfl rfl rfl) ?_
  refine LOps.st rfl rfl rfl (LOp.alloc rfl zt24 rfl rfl) ?_
  refine LOps.nil ?_
  refine thn_n ?_
  refine LW.scope ?_
  refine LW.seq ?_
  refine LW.label ?_
  refine thn_n ?_
  obtain ⟨v1, hb_v1, ho_v1⟩ := bind_get hr
  clear hr
  refine LW.cut (E := [(6, .ptr 1 0)]) (O := [.box [.p (.slice 1 (c.W.map i64P)), .p (.int .u64 c.Seed), .p (.int .i64 c.Epoch), .p (.int .i64 c.Num), .p (.int .i64 c.Den)], .box [.p (.int .u64 v1.id.1), .p (.int .u64 v1.id.2)]]) ?_ ?_
  · refine LW.block ?_
    refine LW.iterB (E := fun x1 : F81_L1 => [(1, .p (.slice 5 (l.map blkP))), (2, .p (.slice 4 (v.map vtP))), (3, .ptr 0 0), (6, .ptr 1 0)]) (O := fun x1 => [.box [.p (.slice 1 (c.W.map i64P)), .p (.int .u64 c.Seed), .p (.int .i64 c.Epoch), .p (.int .i64 c.Num), .p (.int .i64 c.Den)], .box [.p (.int .u64 x1.id.1), .p (.int .u64 x1.id.2)]]) hb_v1 (Weak.of 2 ⟨rfl, rfl, rfl, rfl, trivial⟩ rfl rfl rfl rfl) (fun x1 z_x1 hr hb_x1 => ?_)
    unfold F81_s1 at hr
    refine LW.block ?_
    refine LW.seq ?_
    refine LW.region ?_
    refine LOps.st rfl rfl rfl (LOp.load rfl rfl rfl vt55 rfl rfl) ?_
    refine LOps.st rfl rfl rfl (LOp.move rfl rfl) ?_
    refine LOps.st rfl rfl rfl (LOp.move rfl rfl) ?_
    refine LOps.st rfl rfl rfl (LOp.load rfl rfl rfl vt24 rfl rfl) ?_
    obtain ⟨v2, h_v2, hr⟩ := bind_get hr
    refine LOps.st rfl rfl rfl (LOp.call rfl rfl rfl (by kernel_rfl) (LC.pure (c79 h_v2) (.cons Conv.p (.cons Conv.p (.cons Conv.p (.cons Conv.p .nil)))))) ?_
    refine LOps.st rfl rfl rfl (LOp.move rfl rfl) ?_
    refine LOps.st rfl rfl rfl (LOp.extract rfl rfl rfl) ?_
    refine LOps.st rfl rfl rfl (LOp.extract rfl rfl rfl) ?_
    refine LOps.st rfl rfl rfl (LOp.alloc rfl zt24 rfl rfl) ?_
    refine LOps.st rfl rfl rfl (LOp.store rfl rfl rfl rfl vt24 rfl rfl rfl rfl) ?_
    refine LOps.st rfl rfl rfl (LOp.assign rfl rfl) ?_
    refine LOps.nil ?_
    refine thn_n ?_
    refine LW.seq ?_
    refine LW.seq ?_
    refine LW.region ?_
    refine LOps.st rfl rfl rfl (LOp.move rfl rfl) ?_
    refine LOps.st rfl rfl rfl (LOp.not rfl rfl) ?_
    refine LOps.nil ?_
    refine thn_n ?_
    refine LW.cond rfl (fun (g1 : (!v2.2) = true) => ?_) (fun (g1 : (!v2.2) = false) => ?_)
    · -- g1 is True
      have hr := ite_t g1 hr
      refine LW.exit ?_
      refine thn_e ?_
      refine inBlk_other (by decide) ?_
      refine thn_e ?_
      refine inBlk_self ?_
      refine thn_n ?_
      obtain rfl := Option.some.inj hr
      have hr := congrArg some (hb_x1 _ rfl)
      obtain rfl := Option.some.inj hr
      exact Weak.of 2 ⟨rfl, trivial⟩ rfl rfl rfl rfl
    · -- g1 is False
      have hr := ite_f g1 hr
      refine LW.skip ?_
      refine thn_n ?_
      refine LW.region ?_
      refine LOps.st rfl rfl rfl (LOp.load rfl rfl rfl vt24 rfl rfl) ?_
      refine LOps.st rfl rfl rfl (LOp.store rfl rfl rfl rfl vt24 rfl rfl rfl rfl) ?_
      refine LOps.nil ?_
      refine inBlk_n ?_
      refine thn_n ?_
      obtain rfl := Option.some.inj hr
      exact ⟨_, rfl, Weak.of 2 ⟨rfl, rfl, rfl, rfl, trivial⟩ rfl rfl rfl rfl⟩
  · have hr := ho_v1
    clear hb_v1
    refine LW.seq ?_
    refine LW.region ?_
    refine LOps.st rfl rfl rfl (LOp.load rfl rfl rfl vt24 rfl rfl) ?_
    refine LOps.st rfl rfl rfl (LOp.store rfl rfl rfl rfl vt24 rfl rfl rfl rfl) ?_
    refine LOps.nil ?_
    refine thn_n ?_
    refine LW.ret ?_
    refine noGo_r ?_
    obtain rfl := Option.some.inj hr
    refine finP_ret (.one (.cellAgg rfl rfl (by kernel_rfl) rfl)) ?_
    exact Conv.p
open Go.Proofs
def F78 (c : Cf) (l : List Bk) (v : List Vt) : Option Bool :=
  bif decide ((c.W.length : Int) ≤ 40) then
    bif decide ((l.length : Int) ≤ 20) then
      some (decide ((v.length : Int) ≤ 30))
    else
      some false
  else
    some false
set_option maxRecDepth 100000 in
theorem c78 {c : Cf} {l : List Bk} {v : List Vt} {r_ : Bool} (hr : F78 c l v = some r_) : LPure Try.prog 78 [cfP c, .slice 5 (l.map blkP), .slice 4 (v.map vtP)] [.bool r_] := by
  refine LPure.start Try.func78 rfl rfl rfl rfl ?_
  unfold F78 at hr
  refine LW.seq ?_
  refine LW.region ?_
  refine LOps.st rfl rfl rfl (LOp.box rfl rfl rfl rfl rfl) ?_
  refine LOps.st rfl rfl rfl (LOp.assign rfl rfl) ?_
  refine LOps.nil ?_
  refine thn_n ?_
  refine LW.seq ?_
  refine LW.region ?_
  refine LOps.st rfl rfl rfl (LOp.fieldAddr rfl rfl ft55_0) ?_
  refine LOps.st rfl rfl rfl (LOp.load rfl rfl rfl vt49 rfl rfl) ?_
  refine LOps.st rfl rfl rfl (LOp.lenM rfl rfl (by kernel_rfl)) ?_
  refine LOps.st rfl rfl rfl (LOp.bin rfl rfl rfl rfl) ?_
  refine LOps.st rfl rfl rfl (LOp.move rfl rfl) ?_
  refine LOps.cases 11 rfl (fun (g1 : (decide ((c.W.length : Int) ≤ 40)) = true) => ?_) (fun (g1 : (decide ((c.W.length : Int) ≤ 40)) = false) => ?_)
  · -- g1 is True
    have hr := ite_t g1 hr
    refine LOps.gd rfl rfl rfl (gd g1 rfl) rfl (LOp.move rfl rfl) ?_
    refine LOps.gd rfl rfl rfl (gd g1 rfl) rfl (LOp.lenM rfl rfl (by kernel_rfl)) ?_
    refine LOps.gd rfl rfl rfl (gd g1 rfl) rfl (LOp.bin rfl rfl rfl rfl) ?_
    refine LOps.st rfl rfl rfl (LOp.pickT rfl (gdl g1 rfl) rfl) ?_
    refine LOps.st rfl rfl rfl (LOp.move rfl rfl) ?_
    refine LOps.cases 16 rfl (fun (g2 : (decide ((l.length : Int) ≤ 20)) = true) => ?_) (fun (g2 : (decide ((l.length : Int) ≤ 20)) = false) => ?_)
    · -- g2 is True
      have hr := ite_t g2 hr
      refine LOps.gd rfl rfl rfl (gd g2 rfl) rfl (LOp.move rfl rfl) ?_
      refine LOps.gd rfl rfl rfl (gd g2 rfl) rfl (LOp.lenM rfl rfl (by kernel_rfl)) ?_
      refine LOps.gd rfl rfl rfl (gd g2 rfl) rfl (LOp.bin rfl rfl rfl rfl) ?_
      refine LOps.st rfl rfl rfl (LOp.pickT rfl (gdl g2 rfl) rfl) ?_
      refine LOps.st rfl rfl rfl (LOp.assign rfl rfl) ?_
      refine LOps.nil ?_
      refine thn_n ?_
      refine LW.ret ?_
      obtain rfl := Option.some.inj hr
      refine finP_ret (.one (.tmp rfl)) ?_
      exact Conv.p
    · -- g2 is False
      have hr := ite_f g2 hr
      refine LOps.sk rfl rfl rfl (gd g2 rfl) rfl rfl ?_
      refine LOps.sk rfl rfl rfl (gd g2 rfl) rfl rfl ?_
      refine LOps.sk rfl rfl rfl (gd g2 rfl) rfl rfl ?_
      refine LOps.st rfl rfl rfl (LOp.pickF rfl (gdl g2 rfl) rfl) ?_
      refine LOps.st rfl rfl rfl (LOp.assign rfl rfl) ?_
      refine LOps.nil ?_
      refine thn_n ?_
      refine LW.ret ?_
      obtain rfl := Option.some.inj hr
      refine finP_ret (.one (.tmp rfl)) ?_
      exact Conv.p
  · -- g1 is False
    have hr := ite_f g1 hr
    refine LOps.sk rfl rfl rfl (gd g1 rfl) rfl rfl ?_
    refine LOps.sk rfl rfl rfl (gd g1 rfl) rfl rfl ?_
    refine LOps.sk rfl rfl rfl (gd g1 rfl) rfl rfl ?_
    refine LOps.st rfl rfl rfl (LOp.pickF rfl (gdl g1 rfl) rfl) ?_
    refine LOps.st rfl rfl rfl (LOp.move rfl rfl) ?_
    refine LOps.sk rfl rfl rfl rfl rfl rfl ?_
    refine LOps.sk rfl rfl rfl rfl rfl rfl ?_
    refine LOps.sk rfl rfl rfl rfl rfl rfl ?_
    refine LOps.st rfl rfl rfl (LOp.pickF rfl rfl rfl) ?_
    refine LOps.st rfl rfl rfl (LOp.assign rfl rfl) ?_
    refine LOps.nil ?_
    refine thn_n ?_
    refine LW.ret ?_
    obtain rfl := Option.some.inj hr
    refine finP_ret (.one (.tmp rfl)) ?_
    exact Conv.p
def F77 : Option Bool :=
  (
    (F120 (nm (Bk.mk 1 0 (0, 0) 1)) (nm (Bk.mk 1 0 (0, 0) 0))).bind fun v2 =>
    bif v2 then
      some (nm (Bk.mk 1 0 (0, 0) 1), nm (Bk.mk 1 0 (0, 0) 0))
    else
      some (nm (Bk.mk 1 0 (0, 0) 0), nm (Bk.mk 1 0 (0, 0) 1))
  ).bind fun v1 =>
  bif !((v1.1.1 == v1.2.1) && ((v1.1.2 == v1.2.2) && true)) then
    (F81 (Cf.mk [1] 0 1 0 4) [Bk.mk 1 0 (0, 0) 0, Bk.mk 1 0 (0, 0) 1] ([] : List Vt)).bind fun v3 =>
    bif ((v3.1 == v1.2.1) && ((v3.2 == v1.2.2) && true)) then
      (F81 (Cf.mk [1] 0 1 0 4) [Bk.mk 1 0 (0, 0) 0, Bk.mk 1 0 (0, 0) 1] [Vt.mk 0 1 v1.1]).bind fun v4 =>
      bif ((v4.1 == v1.1.1) && ((v4.2 == v1.1.2) && true)) then
        (F81 (Cf.mk [1] 0 1 0 4) ([] : List Bk) ([] : List Vt)).bind fun v5 =>
        some ((v5.1 == 0) && ((v5.2 == 0) && true))
      else
        some false
    else
      some false
  else
    some false
set_option maxRecDepth 100000 in
theorem c77 {r_ : Bool} (hr : F77 = some r_) : LPure Try.prog 77 [] [.bool r_] := by
  refine LPure.start Try.func77 rfl rfl rfl rfl ?_
  unfold F77 at hr
  refine LW.seq ?_
  refine LW.region ?_
  refine LOps.st rfl rfl rfl (LOp.assign rfl rfl) ?_
  refine LOps.nil ?_
  refine thn_n ?_
  refine LW.seq ?_
  refine LW.region ?_
  refine LOps.st rfl rfl rfl (LOp.buildSlice rfl st49 rfl rfl rfl rfl rfl) ?_
  refine LOps.st rfl rfl rfl (LOp.build rfl bt55 rfl rfl rfl) ?_
  refine LOps.st rfl rfl rfl (LOp.alloc rfl zt55 rfl rfl) ?_
  refine LOps.st rfl rfl rfl (LOp.store rfl rfl rfl rfl vt55 rfl rfl rfl rfl) ?_
  refine LOps.nil ?_
  refine thn_n ?_
  refine LW.seq ?_
  refine LW.region ?_
  refine LOps.st rfl rfl rfl (LOp.build rfl bt42 rfl rfl rfl) ?_
  refine LOps.st rfl rfl rfl (LOp.alloc rfl zt42 rfl rfl) ?_
  refine LOps.st rfl rfl rfl (LOp.store rfl rfl rfl rfl vt42 rfl rfl rfl rfl) ?_
  refine LOps.nil ?_
  refine thn_n ?_
  refine LW.seq ?_
  refine LW.region ?_
  refine LOps.st rfl rfl rfl (LOp.build rfl bt42 rfl rfl rfl) ?_
  refine LOps.st rfl rfl rfl (LOp.alloc rfl zt42 rfl rfl) ?_
  refine LOps.st rfl rfl rfl (LOp.store rfl rfl rfl rfl vt42 rfl rfl rfl rfl) ?_
  refine LOps.nil ?_
  refine thn_n ?_
  refine LW.seq ?_
  refine LW.region ?_
  refine LOps.st rfl rfl rfl (LOp.load rfl rfl rfl vt42 rfl rfl) ?_
  refine LOps.st rfl rfl rfl (LOp.load rfl rfl rfl vt42 rfl rfl) ?_
  refine LOps.st rfl rfl rfl (LOp.buildSlice rfl st27 rfl rfl rfl rfl rfl) ?_
  refine LOps.st rfl rfl rfl (LOp.assign rfl rfl) ?_
  refine LOps.nil ?_
  refine thn_n ?_
  refine LW.seq ?_
  refine LW.region ?_
  refine LOps.st rfl rfl rfl (LOp.load rfl rfl rfl vt42 rfl rfl) ?_
  refine LOps.st rfl rfl rfl (LOp.call rfl rfl rfl (by kernel_rfl) (LC.pure (c50 (b := (Bk.mk 1 0 (0, 0) 0))) (.cons Conv.p .nil))) ?_
  refine LOps.st rfl rfl rfl (LOp.alloc rfl zt24 rfl rfl) ?_
  refine LOps.st rfl rfl rfl (LOp.store rfl rfl rfl rfl vt24 rfl rfl rfl rfl) ?_
  refine LOps.nil ?_
  refine thn_n ?_
  refine LW.seq ?_
  refine LW.region ?_
  refine LOps.st rfl rfl rfl (LOp.load rfl rfl rfl vt42 rfl rfl) ?_
  refine LOps.st rfl rfl rfl (LOp.call rfl rfl rfl (by kernel_rfl) (LC.pure (c50 (b := (Bk.mk 1 0 (0, 0) 1))) (.cons Conv.p .nil))) ?_
  refine LOps.st rfl rfl rfl (LOp.alloc rfl zt24 rfl rfl) ?_
  refine LOps.st rfl rfl rfl (LOp.store rfl rfl rfl rfl vt24 rfl rfl rfl rfl) ?_
  refine LOps.nil ?_
  refine thn_n ?_
  obtain ⟨v1, hb_v1, ho_v1⟩ := bind_get hr
  clear hr
  refine LW.cut (E := [(0, .p (.bool false)), (1, .ptr 0 0), (4, .p (.slice 5 ([Bk.mk 1 0 (0, 0) 0, Bk.mk 1 0 (0, 0) 1].map blkP))), (5, .ptr 3 0), (6, .ptr 4 0)]) (O := [.box [.p (.slice 1 ([1].map i64P)), .p (.int .u64 0), .p (.int .i64 1), .p (.int .i64 0), .p (.int .i64 4)], .box [.p (.int .i64 1), .p (.int .i64 0), .p (.int .u64 0), .p (.int .u64 0), .p (.int .u64 0)], .box [.p (.int .i64 1), .p (.int .i64 0), .p (.int .u64 0), .p (.int .u64 0), .p (.int .u64 1)], .box [.p (.int .u64 v1.1.1), .p (.int .u64 v1.1.2)], .box [.p (.int .u64 v1.2.1), .p (.int .u64 v1.2.2)]]) ?_ ?_
  · have hr := hb_v1
    refine LW.seq ?_
    refine LW.region ?_
    refine LOps.st rfl rfl rfl (LOp.load rfl rfl rfl vt24 rfl rfl) ?_
    refine LOps.st rfl rfl rfl (LOp.load rfl rfl rfl vt24 rfl rfl) ?_
    obtain ⟨v2, h_v2, hr⟩ := bind_get hr
    refine LOps.st rfl rfl rfl (LOp.call rfl rfl rfl (by kernel_rfl) (LC.pure (c120 h_v2) (.cons Conv.p (.cons Conv.p .nil)))) ?_
    refine LOps.nil ?_
    refine thn_n ?_
    refine LW.cond rfl (fun (g1 : v2 = true) => ?_) (fun (g1 : v2 = false) => ?_)
    · -- g1 is True
      have hr := ite_t g1 hr
      refine LW.region ?_
      refine LOps.st rfl rfl rfl (LOp.load rfl rfl rfl vt24 rfl rfl) ?_
      refine LOps.st rfl rfl rfl (LOp.load rfl rfl rfl vt24 rfl rfl) ?_
      refine LOps.st rfl rfl rfl (LOp.store rfl rfl rfl rfl vt24 rfl rfl rfl rfl) ?_
      refine LOps.st rfl rfl rfl (LOp.store rfl rfl rfl rfl vt24 rfl rfl rfl rfl) ?_
      refine LOps.nil ?_
      refine thn_n ?_
      obtain rfl := Option.some.inj hr
      exact Weak.of 5 ⟨rfl, rfl, rfl, rfl, rfl, trivial⟩ rfl rfl rfl rfl
    · -- g1 is False
      have hr := ite_f g1 hr
      refine LW.skip ?_
      refine thn_n ?_
      obtain rfl := Option.some.inj hr
      exact Weak.of 5 ⟨rfl, rfl, rfl, rfl, rfl, trivial⟩ rfl rfl rfl rfl
  · have hr := ho_v1
    clear hb_v1
    refine LW.seq ?_
    refine LW.draw (by kernel_rfl) (by kernel_rfl) ?_
    refine LO.st rfl rfl rfl (LOp.load rfl rfl rfl vt24 rfl rfl) ?_
    refine LO.st rfl rfl rfl (LOp.load rfl rfl rfl vt24 rfl rfl) ?_
    refine LO.st rfl rfl rfl (LOp.neqAgg rfl rfl rfl rfl rfl eqt24) ?_
    refine LO.st rfl rfl rfl (LOp.move rfl rfl) ?_
    refine LO.cases 26 rfl (fun (g2 : (!((v1.1.1 == v1.2.1) && ((v1.1.2 == v1.2.2) && true))) = true) => ?_) (fun (g2 : (!((v1.1.1 == v1.2.1) && ((v1.1.2 == v1.2.2) && true))) = false) => ?_)
    · -- g2 is True
      have hr := ite_t g2 hr
      refine LO.gd rfl rfl rfl (gd g2 rfl) rfl (LOp.load rfl rfl rfl vt55 rfl rfl) ?_
      refine LO.gd rfl rfl rfl (gd g2 rfl) rfl (LOp.move rfl rfl) ?_
      obtain ⟨v3, h_v3, hr⟩ := bind_get hr
      refine LO.gd rfl rfl rfl (gd g2 rfl) rfl (LOp.call rfl rfl rfl (by kernel_rfl) (LC.pure (c81 h_v3) (.cons Conv.p (.cons Conv.p (.cons Conv.zs .nil))))) ?_
      refine LO.gd rfl rfl rfl (gd g2 rfl) rfl (LOp.load rfl rfl rfl vt24 rfl rfl) ?_
      refine LO.gd rfl rfl rfl (gd g2 rfl) rfl (LOp.eqlAgg rfl rfl rfl rfl rfl eqt24) ?_
      refine LO.st rfl rfl rfl (LOp.pickT rfl (gdl g2 rfl) rfl) ?_
      refine LO.st rfl rfl rfl (LOp.move rfl rfl) ?_
      refine LO.cases 33 rfl (fun (g3 : ((v3.1 == v1.2.1) && ((v3.2 == v1.2.2) && true)) = true) => ?_) (fun (g3 : ((v3.1 == v1.2.1) && ((v3.2 == v1.2.2) && true)) = false) => ?_)
      · -- g3 is True
        have hr := ite_t g3 hr
        refine LO.gd rfl rfl rfl (gd g3 rfl) rfl (LOp.load rfl rfl rfl vt55 rfl rfl) ?_
        refine LO.gd rfl rfl rfl (gd g3 rfl) rfl (LOp.move rfl rfl) ?_
        refine LO.gd rfl rfl rfl (gd g3 rfl) rfl (LOp.load rfl rfl rfl vt24 rfl rfl) ?_
        refine LO.gd rfl rfl rfl (gd g3 rfl) rfl (LOp.build rfl bt82 rfl rfl rfl) ?_
        refine LO.gd rfl rfl rfl (gd g3 rfl) rfl (LOp.buildSlice rfl st68 rfl rfl rfl rfl rfl) ?_
        obtain ⟨v4, h_v4, hr⟩ := bind_get hr
        refine LO.gd rfl rfl rfl (gd g3 rfl) rfl (LOp.call rfl rfl rfl (by kernel_rfl) (LC.pure (c81 h_v4) (.cons Conv.p (.cons Conv.p (.cons Conv.p .nil))))) ?_
        refine LO.gd rfl rfl rfl (gd g3 rfl) rfl (LOp.load rfl rfl rfl vt24 rfl rfl) ?_
        refine LO.gd rfl rfl rfl (gd g3 rfl) rfl (LOp.eqlAgg rfl rfl rfl rfl rfl eqt24) ?_
        refine LO.st rfl rfl rfl (LOp.pickT rfl (gdl g3 rfl) rfl) ?_
        refine LO.st rfl rfl rfl (LOp.move rfl rfl) ?_
        refine LO.cases 43 rfl (fun (g4 : ((v4.1 == v1.1.1) && ((v4.2 == v1.1.2) && true)) = true) => ?_) (fun (g4 : ((v4.1 == v1.1.1) && ((v4.2 == v1.1.2) && true)) = false) => ?_)
        · -- g4 is True
          have hr := ite_t g4 hr
          refine LO.gd rfl rfl rfl (gd g4 rfl) rfl (LOp.load rfl rfl rfl vt55 rfl rfl) ?_
          obtain ⟨v5, h_v5, hr⟩ := bind_get hr
          refine LO.gd rfl rfl rfl (gd g4 rfl) rfl (LOp.call rfl rfl rfl (by kernel_rfl) (LC.pure (c81 h_v5) (.cons Conv.p (.cons Conv.zs (.cons Conv.zs .nil))))) ?_
          refine LO.gd rfl rfl rfl (gd g4 rfl) rfl (LOp.build rfl bt24 rfl rfl rfl) ?_
          refine LO.gd rfl rfl rfl (gd g4 rfl) rfl (LOp.eqlAgg rfl rfl rfl rfl rfl eqt24) ?_
          refine LO.st rfl rfl rfl (LOp.pickT rfl (gdl g4 rfl) rfl) ?_
          refine LO.st rfl rfl rfl (LOp.assign rfl rfl) ?_
          refine LO.nil ?_
          refine thn_n ?_
          refine LW.ret ?_
          obtain rfl := Option.some.inj hr
          refine finP_ret (.one (.tmp rfl)) ?_
          exact Conv.p
        · -- g4 is False
          have hr := ite_f g4 hr
          refine LO.sk rfl rfl rfl (gd g4 rfl) rfl rfl ?_
          refine LO.sk rfl rfl rfl (gd g4 rfl) rfl rfl ?_
          refine LO.sk rfl rfl rfl (gd g4 rfl) rfl rfl ?_
          refine LO.sk rfl rfl rfl (gd g4 rfl) rfl rfl ?_
          refine LO.st rfl rfl rfl (LOp.pickF rfl (gdl g4 rfl) rfl) ?_
          refine LO.st rfl rfl rfl (LOp.assign rfl rfl) ?_
          refine LO.nil ?_
          refine thn_n ?_
          refine LW.ret ?_
          obtain rfl := Option.some.inj hr
          refine finP_ret (.one (.tmp rfl)) ?_
          exact Conv.p
      · -- g3 is False
        have hr := ite_f g3 hr
        refine LO.sk rfl rfl rfl (gd g3 rfl) rfl rfl ?_
        refine LO.sk rfl rfl rfl (gd g3 rfl) rfl rfl ?_
        refine LO.sk rfl rfl rfl (gd g3 rfl) rfl rfl ?_
        refine LO.sk rfl rfl rfl (gd g3 rfl) rfl rfl ?_
        refine LO.sk rfl rfl rfl (gd g3 rfl) rfl rfl ?_
        refine LO.sk rfl rfl rfl (gd g3 rfl) rfl rfl ?_
        refine LO.sk rfl rfl rfl (gd g3 rfl) rfl rfl ?_
        refine LO.sk rfl rfl rfl (gd g3 rfl) rfl rfl ?_
        refine LO.st rfl rfl rfl (LOp.pickF rfl (gdl g3 rfl) rfl) ?_
        refine LO.st rfl rfl rfl (LOp.move rfl rfl) ?_
        refine LO.sk rfl rfl rfl rfl rfl rfl ?_
        refine LO.sk rfl rfl rfl rfl rfl rfl ?_
        refine LO.sk rfl rfl rfl rfl rfl rfl ?_
        refine LO.sk rfl rfl rfl rfl rfl rfl ?_
        refine LO.st rfl rfl rfl (LOp.pickF rfl rfl rfl) ?_
        refine LO.st rfl rfl rfl (LOp.assign rfl rfl) ?_
        refine LO.nil ?_
        refine thn_n ?_
        refine LW.ret ?_
        obtain rfl := Option.some.inj hr
        refine finP_ret (.one (.tmp rfl)) ?_
        exact Conv.p
    · -- g2 is False
      have hr := ite_f g2 hr
      refine LO.sk rfl rfl rfl (gd g2 rfl) rfl rfl ?_
      refine LO.sk rfl rfl rfl (gd g2 rfl) rfl rfl ?_
      refine LO.sk rfl rfl rfl (gd g2 rfl) rfl rfl ?_
      refine LO.sk rfl rfl rfl (gd g2 rfl) rfl rfl ?_
      refine LO.sk rfl rfl rfl (gd g2 rfl) rfl rfl ?_
      refine LO.st rfl rfl rfl (LOp.pickF rfl (gdl g2 rfl) rfl) ?_
      refine LO.st rfl rfl rfl (LOp.move rfl rfl) ?_
      refine LO.sk rfl rfl rfl rfl rfl rfl ?_
      refine LO.sk rfl rfl rfl rfl rfl rfl ?_
      refine LO.sk rfl rfl rfl rfl rfl rfl ?_
      refine LO.sk rfl rfl rfl rfl rfl rfl ?_
      refine LO.sk rfl rfl rfl rfl rfl rfl ?_
      refine LO.sk rfl rfl rfl rfl rfl rfl ?_
      refine LO.sk rfl rfl rfl rfl rfl rfl ?_
      refine LO.sk rfl rfl rfl rfl rfl rfl ?_
      refine LO.st rfl rfl rfl (LOp.pickF rfl rfl rfl) ?_
      refine LO.st rfl rfl rfl (LOp.move rfl rfl) ?_
      refine LO.sk rfl rfl rfl rfl rfl rfl ?_
      refine LO.sk rfl rfl rfl rfl rfl rfl ?_
      refine LO.sk rfl rfl rfl rfl rfl rfl ?_
      refine LO.sk rfl rfl rfl rfl rfl rfl ?_
      refine LO.st rfl rfl rfl (LOp.pickF rfl rfl rfl) ?_
      refine LO.st rfl rfl rfl (LOp.assign rfl rfl) ?_
      refine LO.nil ?_
      refine thn_n ?_
      refine LW.ret ?_
      obtain rfl := Option.some.inj hr
      refine finP_ret (.one (.tmp rfl)) ?_
      exact Conv.p
def F28 (c : Cf) (l : List Bk) (v : List Vt) (id : ID) : Option Bool :=
  (F77 ).bind fun v1 =>
  (F78 c l v).bind fun v2 =>
  (
    bif !v1 then
      some true
    else
      some (!v2)
  ).bind fun v3 =>
  bif v3 then
    some v1
  else
    (F79 c l v id).bind fun v4 =>
    (F80 c l v id).bind fun v5 =>
    bif ((v4.1.1 == v5.1.1) && ((v4.1.2 == v5.1.2) && true)) then
      bif v4.2 == v5.2 then
        (F81 c l v).bind fun v6 =>
        (F82 c l v).bind fun v7 =>
        some ((v6.1 == v7.1) && ((v6.2 == v7.2) && true))
      else
        some false
    else
      some false
set_option maxRecDepth 100000 in
theorem c28 {c : Cf} {l : List Bk} {v : List Vt} {id : ID} {r_ : Bool} (hr : F28 c l v id = some r_) : LPure Try.prog 28 [cfP c, .slice 5 (l.map blkP), .slice 4 (v.map vtP), idP id] [.bool r_] := by
  refine LPure.start Try.func28 rfl rfl rfl rfl ?_
  unfold F28 at hr
  refine LW.seq ?_
  refine LW.region ?_
  refine LOps.st rfl rfl rfl (LOp.box rfl rfl rfl rfl rfl) ?_
  refine LOps.st rfl rfl rfl (LOp.box rfl rfl rfl rfl rfl) ?_
  refine LOps.st rfl rfl rfl (LOp.assign rfl rfl) ?_
  refine LOps.nil ?_
  refine thn_n ?_
  refine LW.seq ?_
  refine LW.region ?_
  obtain ⟨v1, h_v1, hr⟩ := bind_get hr
  refine LOps.st rfl rfl rfl (LOp.call rfl rfl rfl (by kernel_rfl) (LC.pure (c77 h_v1) .nil)) ?_
  refine LOps.st rfl rfl rfl (LOp.assign rfl rfl) ?_
  refine LOps.nil ?_
  refine thn_n ?_
  refine LW.seq ?_
  refine LW.region ?_
  refine LOps.st rfl rfl rfl (LOp.load rfl rfl rfl vt55 rfl rfl) ?_
  refine LOps.st rfl rfl rfl (LOp.move rfl rfl) ?_
  refine LOps.st rfl rfl rfl (LOp.move rfl rfl) ?_
  obtain ⟨v2, h_v2, hr⟩ := bind_get hr
  refine LOps.st rfl rfl rfl (LOp.call rfl rfl rfl (by kernel_rfl) (LC.pure (c78 h_v2) (.cons Conv.p (.cons Conv.p (.cons Conv.p .nil))))) ?_
  refine LOps.st rfl rfl rfl (LOp.assign rfl rfl) ?_
  refine LOps.nil ?_
  refine thn_n ?_
  refine LW.seq ?_
  obtain ⟨v3, hb_v3, ho_v3⟩ := bind_get hr
  clear hr
  refine LW.cut (E := [(1, .p (.slice 5 (l.map blkP))), (2, .p (.slice 4 (v.map vtP))), (4, .ptr 0 0), (7, .ptr 1 0), (8, .p (.bool false)), (9, .p (.bool v1)), (25, .p (.bool v3))]) (O := [.box [.p (.slice 1 (c.W.map i64P)), .p (.int .u64 c.Seed), .p (.int .i64 c.Epoch), .p (.int .i64 c.Num), .p (.int .i64 c.Den)], .box [.p (.int .u64 id.1), .p (.int .u64 id.2)]]) ?_ ?_
  · have hr := hb_v3
    refine LW.region ?_
    refine LOps.st rfl rfl rfl (LOp.move rfl rfl) ?_
    refine LOps.st rfl rfl rfl (LOp.not rfl rfl) ?_
    refine LOps.st rfl rfl rfl (LOp.move rfl rfl) ?_
    refine LOps.cases 22 rfl (fun (g1 : (!v1) = true) => ?_) (fun (g1 : (!v1) = false) => ?_)
    · -- g1 is True
      have hr := ite_t g1 hr
      refine LOps.sk rfl rfl rfl (gd g1 rfl) rfl rfl ?_
      refine LOps.sk rfl rfl rfl (gd g1 rfl) rfl rfl ?_
      refine LOps.st rfl rfl rfl (LOp.pickT rfl (gdl g1 rfl) rfl) ?_
      refine LOps.nil ?_
      refine thn_n ?_
      obtain rfl := Option.some.inj hr
      exact Weak.of 2 ⟨rfl, rfl, rfl, rfl, rfl, rfl, rfl, trivial⟩ rfl rfl rfl rfl
    · -- g1 is False
      have hr := ite_f g1 hr
      refine LOps.gd rfl rfl rfl (gd g1 rfl) rfl (LOp.move rfl rfl) ?_
      refine LOps.gd rfl rfl rfl (gd g1 rfl) rfl (LOp.not rfl rfl) ?_
      refine LOps.st rfl rfl rfl (LOp.pickF rfl (gdl g1 rfl) rfl) ?_
      refine LOps.nil ?_
      refine thn_n ?_
      obtain rfl := Option.some.inj hr
      exact Weak.of 2 ⟨rfl, rfl, rfl, rfl, rfl, rfl, rfl, trivial⟩ rfl rfl rfl rfl
  · have hr := ho_v3
    clear hb_v3
    refine LW.cond rfl (fun (g2 : v3 = true) => ?_) (fun (g2 : v3 = false) => ?_)
    · -- g2 is True
      have hr := ite_t g2 hr
      refine LW.seq ?_
      refine LW.region ?_
      refine LOps.st rfl rfl rfl (LOp.move rfl rfl) ?_
      refine LOps.st rfl rfl rfl (LOp.assign rfl rfl) ?_
      refine LOps.nil ?_
      refine thn_n ?_
      refine LW.ret ?_
      refine thn_r ?_
      obtain rfl := Option.some.inj hr
      refine finP_ret (.one (.tmp rfl)) ?_
      exact Conv.p
    · -- g2 is False
      have hr := ite_f g2 hr
      refine LW.skip ?_
      refine thn_n ?_
      refine LW.seq ?_
      refine LW.region ?_
      refine LOps.st rfl rfl rfl (LOp.load rfl rfl rfl vt55 rfl rfl) ?_
      refine LOps.st rfl rfl rfl (LOp.move rfl rfl) ?_
      refine LOps.st rfl rfl rfl (LOp.move rfl rfl) ?_
      refine LOps.st rfl rfl rfl (LOp.load rfl rfl rfl vt24 rfl rfl) ?_
      obtain ⟨v4, h_v4, hr⟩ := bind_get hr
      refine LOps.st rfl rfl rfl (LOp.call rfl rfl rfl (by kernel_rfl) (LC.pure (c79 h_v4) (.cons Conv.p (.cons Conv.p (.cons Conv.p (.cons Conv.p .nil)))))) ?_
      refine LOps.st rfl rfl rfl (LOp.move rfl rfl) ?_
      refine LOps.st rfl rfl rfl (LOp.extract rfl rfl rfl) ?_
      refine LOps.st rfl rfl rfl (LOp.extract rfl rfl rfl) ?_
      refine LOps.st rfl rfl rfl (LOp.alloc rfl zt24 rfl rfl) ?_
      refine LOps.st rfl rfl rfl (LOp.store rfl rfl rfl rfl vt24 rfl rfl rfl rfl) ?_
      refine LOps.st rfl rfl rfl (LOp.assign rfl rfl) ?_
      refine LOps.nil ?_
      refine thn_n ?_
      refine LW.seq ?_
      refine LW.region ?_
      refine LOps.st rfl rfl rfl (LOp.load rfl rfl rfl vt55 rfl rfl) ?_
      refine LOps.st rfl rfl rfl (LOp.move rfl rfl) ?_
      refine LOps.st rfl rfl rfl (LOp.move rfl rfl) ?_
      refine LOps.st rfl rfl rfl (LOp.load rfl rfl rfl vt24 rfl rfl) ?_
      obtain ⟨v5, h_v5, hr⟩ := bind_get hr
      refine LOps.st rfl rfl rfl (LOp.call rfl rfl rfl (by kernel_rfl) (LC.pure (c80 h_v5) (.cons Conv.p (.cons Conv.p (.cons Conv.p (.cons Conv.p .nil)))))) ?_
      refine LOps.st rfl rfl rfl (LOp.move rfl rfl) ?_
      refine LOps.st rfl rfl rfl (LOp.extract rfl rfl rfl) ?_
      refine LOps.st rfl rfl rfl (LOp.extract rfl rfl rfl) ?_
      refine LOps.st rfl rfl rfl (LOp.alloc rfl zt24 rfl rfl) ?_
      refine LOps.st rfl rfl rfl (LOp.store rfl rfl rfl rfl vt24 rfl rfl rfl rfl) ?_
      refine LOps.st rfl rfl rfl (LOp.assign rfl rfl) ?_
      refine LOps.nil ?_
      refine thn_n ?_
      refine LW.seq ?_
      refine LW.draw (by kernel_rfl) (by kernel_rfl) ?_
      refine LO.st rfl rfl rfl (LOp.load rfl rfl rfl vt24 rfl rfl) ?_
      refine LO.st rfl rfl rfl (LOp.load rfl rfl rfl vt24 rfl rfl) ?_
      refine LO.st rfl rfl rfl (LOp.eqlAgg rfl rfl rfl rfl rfl eqt24) ?_
      refine LO.st rfl rfl rfl (LOp.move rfl rfl) ?_
      refine LO.cases 46 rfl (fun (g3 : ((v4.1.1 == v5.1.1) && ((v4.1.2 == v5.1.2) && true)) = true) => ?_) (fun (g3 : ((v4.1.1 == v5.1.1) && ((v4.1.2 == v5.1.2) && true)) = false) => ?_)
      · -- g3 is True
        have hr := ite_t g3 hr
        refine LO.gd rfl rfl rfl (gd g3 rfl) rfl (LOp.move rfl rfl) ?_
        refine LO.gd rfl rfl rfl (gd g3 rfl) rfl (LOp.move rfl rfl) ?_
        refine LO.gd rfl rfl rfl (gd g3 rfl) rfl (LOp.eqlBool rfl rfl rfl Try.underlying4) ?_
        refine LO.st rfl rfl rfl (LOp.pickT rfl (gdl g3 rfl) rfl) ?_
        refine LO.st rfl rfl rfl (LOp.move rfl rfl) ?_
        refine LO.cases 51 rfl (fun (g4 : (v4.2 == v5.2) = true) => ?_) (fun (g4 : (v4.2 == v5.2) = false) => ?_)
        · -- g4 is True
          have hr := ite_t g4 hr
          refine LO.gd rfl rfl rfl (gd g4 rfl) rfl (LOp.load rfl rfl rfl vt55 rfl rfl) ?_
          refine LO.gd rfl rfl rfl (gd g4 rfl) rfl (LOp.move rfl rfl) ?_
          refine LO.gd rfl rfl rfl (gd g4 rfl) rfl (LOp.move rfl rfl) ?_
          obtain ⟨v6, h_v6, hr⟩ := bind_get hr
          refine LO.gd rfl rfl rfl (gd g4 rfl) rfl (LOp.call rfl rfl rfl (by kernel_rfl) (LC.pure (c81 h_v6) (.cons Conv.p (.cons Conv.p (.cons Conv.p .nil))))) ?_
          refine LO.gd rfl rfl rfl (gd g4 rfl) rfl (LOp.load rfl rfl rfl vt55 rfl rfl) ?_
          refine LO.gd rfl rfl rfl (gd g4 rfl) rfl (LOp.move rfl rfl) ?_
          refine LO.gd rfl rfl rfl (gd g4 rfl) rfl (LOp.move rfl rfl) ?_
          obtain ⟨v7, h_v7, hr⟩ := bind_get hr
          refine LO.gd rfl rfl rfl (gd g4 rfl) rfl (LOp.call rfl rfl rfl (by kernel_rfl) (LC.pure (c82 h_v7) (.cons Conv.p (.cons Conv.p (.cons Conv.p .nil))))) ?_
          refine LO.gd rfl rfl rfl (gd g4 rfl) rfl (LOp.eqlAgg rfl rfl rfl rfl rfl eqt24) ?_
          refine LO.st rfl rfl rfl (LOp.pickT rfl (gdl g4 rfl) rfl) ?_
          refine LO.st rfl rfl rfl (LOp.assign rfl rfl) ?_
          refine LO.nil ?_
          refine thn_n ?_
          refine LW.ret ?_
          obtain rfl := Option.some.inj hr
          refine finP_ret (.one (.tmp rfl)) ?_
          exact Conv.p
        · -- g4 is False
          have hr := ite_f g4 hr
          refine LO.sk rfl rfl rfl (gd g4 rfl) rfl rfl ?_
          refine LO.sk rfl rfl rfl (gd g4 rfl) rfl rfl ?_
          refine LO.sk rfl rfl rfl (gd g4 rfl) rfl rfl ?_
          refine LO.sk rfl rfl rfl (gd g4 rfl) rfl rfl ?_
          refine LO.sk rfl rfl rfl (gd g4 rfl) rfl rfl ?_
          refine LO.sk rfl rfl rfl (gd g4 rfl) rfl rfl ?_
          refine LO.sk rfl rfl rfl (gd g4 rfl) rfl rfl ?_
          refine LO.sk rfl rfl rfl (gd g4 rfl) rfl rfl ?_
          refine LO.sk rfl rfl rfl (gd g4 rfl) rfl rfl ?_
          refine LO.st rfl rfl rfl (LOp.pickF rfl (gdl g4 rfl) rfl) ?_
          refine LO.st rfl rfl rfl (LOp.assign rfl rfl) ?_
          refine LO.nil ?_
          refine thn_n ?_
          refine LW.ret ?_
          obtain rfl := Option.some.inj hr
          refine finP_ret (.one (.tmp rfl)) ?_
          exact Conv.p
      · -- g3 is False
        have hr := ite_f g3 hr
        refine LO.sk rfl rfl rfl (gd g3 rfl) rfl rfl ?_
        refine LO.sk rfl rfl rfl (gd g3 rfl) rfl rfl ?_
        refine LO.sk rfl rfl rfl (gd g3 rfl) rfl rfl ?_
        refine LO.st rfl rfl rfl (LOp.pickF rfl (gdl g3 rfl) rfl) ?_
        refine LO.st rfl rfl rfl (LOp.move rfl rfl) ?_
        refine LO.sk rfl rfl rfl rfl rfl rfl ?_
        refine LO.sk rfl rfl rfl rfl rfl rfl ?_
        refine LO.sk rfl rfl rfl rfl rfl rfl ?_
        refine LO.sk rfl rfl rfl rfl rfl rfl ?_
        refine LO.sk rfl rfl rfl rfl rfl rfl ?_
        refine LO.sk rfl rfl rfl rfl rfl rfl ?_
        refine LO.sk rfl rfl rfl rfl rfl rfl ?_
        refine LO.sk rfl rfl rfl rfl rfl rfl ?_
        refine LO.sk rfl rfl rfl rfl rfl rfl ?_
        refine LO.st rfl rfl rfl (LOp.pickF rfl rfl rfl) ?_
        refine LO.st rfl rfl rfl (LOp.assign rfl rfl) ?_
        refine LO.nil ?_
        refine thn_n ?_
        refine LW.ret ?_
        obtain rfl := Option.some.inj hr
        refine finP_ret (.one (.tmp rfl)) ?_
        exact Conv.p
theorem iter_go {α β : Type} {step : α → Option (α ⊕ β)} {n : Nat} {x y : α} (h : step x = some (.inl y)) : iter step (n + 1) x = iter step n y := by
  rw [iter, h]
theorem iter_end {α β : Type} {step : α → Option (α ⊕ β)} {n : Nat} {x : α} {b : β} (h : step x = some (.inr b)) : iter step (n + 1) x = some b := by
  rw [iter, h]
theorem big3 : big = 4611686018427387901 + 1 + 1 + 1 := rfl
/-- Is an ID ahead of another one? -/
def lessP (a b : ID) : Bool := decide (a.1 < b.1 ∨ a.1 = b.1 ∧ a.2 < b.2)
def cmpI (x y : Int) : Int := if x < y then -1 else if x > y then 1 else 0
theorem F168_eq (x y : Int) : F168 x y = some (cmpI x y) := by
  have h : ∀ z : Int, F175 z = some false := fun z => by unfold F175; rw [show (z != z) = false by simp]
  unfold F168 cmpI
  rw [h x, ob, h y, ob, cf, cf]
  by_cases h1 : x < y
  · rw [decide_eq_true h1, ct, if_pos h1]
  · rw [decide_eq_false h1, cf, if_neg h1]
    by_cases h2 : x > y
    · rw [decide_eq_true h2, ct, if_pos h2]
    · rw [decide_eq_false h2, cf, if_neg h2]
theorem F151_two (a1 a2 b1 b2 : Int) : F151 [a1, a2] [b1, b2] = some (if cmpI a1 b1 ≠ 0 then cmpI a1 b1 else cmpI a2 b2) := by
  unfold F151
  have h0 : ∀ i : Int, i = 0 → F151_s1 [a1, a2] [b1, b2] (F151_L1.mk i) = if cmpI a1 b1 ≠ 0 then some (.inr (.inr (cmpI a1 b1))) else some (.inl (F151_L1.mk 1)) := by
    rintro i rfl
    unfold F151_s1
    simp only
    rw [show decide ((0 : Int) < (([a1, a2] : List Int).length : Int)) = true from rfl, ct, show ix [a1, a2] 0 = some a1 from rfl, ob, show decide ((0 : Int) ≥ (([b1, b2] : List Int).length : Int)) = false from rfl, cf, show ix [b1, b2] 0 = some b1 from rfl, ob, F168_eq, ob, show IntKind.i64.wrap (0 + 1) = 1 from wrapI (by omega) (by omega)]
    by_cases h : cmpI a1 b1 = 0
    · rw [show (cmpI a1 b1 != 0) = false by simp [h], cf, if_neg (not_not_intro h)]
    · rw [show (cmpI a1 b1 != 0) = true by simp [h], ct, if_pos h]
  have h1 : F151_s1 [a1, a2] [b1, b2] (F151_L1.mk 1) = if cmpI a2 b2 ≠ 0 then some (.inr (.inr (cmpI a2 b2))) else some (.inl (F151_L1.mk 2)) := by
    unfold F151_s1
    simp only
    rw [show decide ((1 : Int) < (([a1, a2] : List Int).length : Int)) = true from rfl, ct, show ix [a1, a2] 1 = some a2 from rfl, ob, show decide ((1 : Int) ≥ (([b1, b2] : List Int).length : Int)) = false from rfl, cf, show ix [b1, b2] 1 = some b2 from rfl, ob, F168_eq, ob, show IntKind.i64.wrap (1 + 1) = 2 from wrapI (by omega) (by omega)]
    by_cases h : cmpI a2 b2 = 0
    · rw [show (cmpI a2 b2 != 0) = false by simp [h], cf, if_neg (not_not_intro h)]
    · rw [show (cmpI a2 b2 != 0) = true by simp [h], ct, if_pos h]
  have h2 : F151_s1 [a1, a2] [b1, b2] (F151_L1.mk 2) = some (.inr (.inl (F151_L1.mk 2))) := by
    unfold F151_s1
    simp only
    rw [show decide ((2 : Int) < (([a1, a2] : List Int).length : Int)) = false from rfl, cf]
  rw [big3]
  by_cases c1 : cmpI a1 b1 = 0
  · have e1 := h0 0 rfl
    rw [if_neg (not_not_intro c1)] at e1
    rw [iter_go e1, if_neg (not_not_intro c1)]
    by_cases c2 : cmpI a2 b2 = 0
    · rw [if_neg (not_not_intro c2)] at h1
      rw [iter_go h1, iter_end h2, ob, sl, show decide ((([a1, a2] : List Int).length : Int) < (([b1, b2] : List Int).length : Int)) = false from rfl, cf, c2]
    · rw [if_pos c2] at h1
      rw [iter_end h1, ob, sr]
  · have e1 := h0 0 rfl
    rw [if_pos c1] at e1
    rw [iter_end e1, if_pos c1, ob, sr]
theorem F120_eq (a b : ID) : F120 a b = some (lessP a b) := by
  unfold F120 lessP
  rw [F151_two, ob]
  congr 1
  refine decide_eq_decide.2 ?_
  unfold cmpI
  by_cases h1 : a.1 < b.1
  · simp [h1]
  · by_cases h2 : a.1 > b.1
    · have : a.1 ≠ b.1 := by omega
      simp [h1, h2, this]
    · have : a.1 = b.1 := by omega
      by_cases h3 : a.2 < b.2
      · simp [this, h3]
      · by_cases h4 : a.2 > b.2 <;> simp [this, h3, h4]
theorem lessP_irr (a : ID) : lessP a a = false := by unfold lessP; exact decide_eq_false (by omega)
/-- Is a rank better than another one? -/
def aboveP (a b : Rk) : Bool := if a.n = b.n then lessP b.id a.id else decide (a.n > b.n)
theorem F122_eq (a b : Rk) : F122 a b = some (aboveP a b) := by
  unfold F122 aboveP
  by_cases h : a.n = b.n
  · rw [show (a.n != b.n) = false by simp [h], cf, if_pos h, show (a.n == b.n) = true by simp [h], Bool.true_and, eqID]
    by_cases h2 : a.id = b.id
    · rw [decide_eq_true h2, Bool.not_true, cf, h2, lessP_irr]
    · rw [decide_eq_false h2, Bool.not_false, ct, F120_eq, ob]
  · rw [show (a.n != b.n) = true by simp [h], ct, if_neg h]
/-- Is it under a vote's block? -/
def underB (l : List Bk) (id h : ID) : Bool := decide (id ∈ chainOf l h)
/-- Whose votes are for a block, or for what stands on it. -/
def forL (l : List Bk) (v : List Vt) (id : ID) : List Int := (v.filter fun x => underB l id x.Head).map Vt.From
/-- How much is on a block. -/
def onP (c : Cf) (l : List Bk) (v : List Vt) (id : ID) : Int := wtP c (forL l v id)
theorem findE_setEg {α β : Type} [DecidableEq α] {m : List (α × β)} {k q : α} {v : β} : findE (setE m k v) q = if k = q then some v else findE m q := by
  induction m with
  | nil => simp [setE, findE]
  | cons p r ih =>
    obtain ⟨a, b⟩ := p
    unfold setE
    by_cases h : a = k
    · rw [if_pos h]
      subst h
      by_cases h2 : a = q
      · simp [findE, h2]
      · simp [findE, h2]
    · rw [if_neg h]
      simp only [findE]
      rw [ih]
      by_cases h2 : a = q
      · rw [if_pos h2, if_pos h2, if_neg (fun e => h (by rw [h2, e]))]
      · rw [if_neg h2, if_neg h2]
/-- What was told of chains is true. -/
def MemoOk (l : List Bk) (id : ID) (m : List (ID × Bool)) : Prop := ∀ h b, findE m h = some b → b = underB l id h
theorem F152_eq {l : List Bk} (hl : l.length ≤ 1000) {x : Vt} {c : Cf} {id : ID} {m : List (ID × Bool)} (hm : MemoOk l id m) : ∃ m', F152 x c l id m = some (underB l id x.Head, m') ∧ MemoOk l id m' := by
  unfold F152
  have hu : decide (indexOf (chainOf l x.Head) id ≥ 0) = underB l id x.Head := by
    unfold underB; exact decide_eq_decide.2 ⟨fun h => indexOf_mem.1 h, fun h => indexOf_mem.2 h⟩
  cases hf : findE m x.Head with
  | none =>
    refine ⟨setE m x.Head (underB l id x.Head), ?_, ?_⟩
    · rw [Option.isSome_none, Bool.not_false, ct, few_of hl, ct, hu]
    · intro h b hb
      rw [findE_setEg] at hb
      by_cases e : x.Head = h
      · rw [if_pos e] at hb; cases hb; rw [e]
      · rw [if_neg e] at hb; exact hm h b hb
  | some b =>
    refine ⟨m, ?_, hm⟩
    rw [Option.isSome_some, Bool.not_true, cf, Option.getD_some, hm _ _ hf]
theorem take_succ_getG {α : Type} {l : List α} {j : Nat} {y : α} (h : l[j]? = some y) : l.take (j + 1) = l.take j ++ [y] := by rw [List.take_add_one, h]; rfl
theorem forL_snoc {l : List Bk} {v : List Vt} {id : ID} {n : Nat} {y : Vt} (hy : v[n]? = some y) : forL l (v.take (n + 1)) id = forL l (v.take n) id ++ bif underB l id y.Head then [y.From] else [] := by
  unfold forL
  rw [take_succ_getG hy, List.filter_append, List.map_append]
  cases h : underB l id y.Head <;> simp [h]
theorem forL_len (l : List Bk) (v : List Vt) (id : ID) : (forL l v id).length ≤ v.length := by
  unfold forL; rw [List.length_map]; exact List.length_filter_le _ _
theorem F153_eq {l : List Bk} (hl : l.length ≤ 1000) {v : List Vt} (hv : v.length ≤ 1000) {c : Cf} {id : ID} : ∃ m', F153 v c l id [] = some (forL l v id, m') := by
  unfold F153
  have key := iter_inv (step := F153_s1 v c l id) (fun x => ∃ n : Nat, n ≤ v.length ∧ x.t12 = n ∧ MemoOk l id x.o3 ∧ x.out = forL l (v.take n) id) (fun x => v.length - x.t12.toNat) (fun b => b.out = forL l v id) (by
    rintro ⟨t, m, out⟩ ⟨n, hn, h1, hm, ho⟩
    simp only at h1 ho hm
    subst h1 ho
    by_cases hlt : n < v.length
    · left
      obtain ⟨y, hy, -⟩ := get_of hlt
      obtain ⟨m', e, hm'⟩ := F152_eq hl (x := y) (c := c) hm
      have hlen := forL_len l (v.take n) id
      rw [List.length_take] at hlen
      refine ⟨⟨((n + 1 : Nat) : Int), m', forL l (v.take (n + 1)) id⟩, ?_, ⟨n + 1, hlt, rfl, hm', rfl⟩, by simp only; omega⟩
      unfold F153_s1
      simp only
      rw [decide_eq_true (show (n : Int) < (v.length : Int) by omega), ct, ix_nat hy, ob, e, ob, forL_snoc hy, wrap_succ (n := n) (by omega)]
      cases hu : underB l id y.Head with
      | true => rw [ct, show F154 y = some y.From from rfl, ob, room_ok (by simp only [List.length_singleton]; omega) (by omega), ct, ct]
      | false => rw [cf, cf, List.append_nil]
    · right
      obtain rfl : n = v.length := by omega
      refine ⟨⟨(v.length : Int), m, forL l (v.take v.length) id⟩, ?_, by simp only [List.take_length]⟩
      unfold F153_s1
      simp only
      rw [decide_eq_false (show ¬ (v.length : Int) < (v.length : Int) by omega), cf]) (n := big) (x := ⟨0, [], []⟩) ⟨0, by omega, rfl, (fun h b hb => by cases hb), by simp [forL]⟩ (big_gt (by simp only; omega))
  obtain ⟨b, e, hp⟩ := key
  exact ⟨b.o3, by rw [e, ob, hp]⟩
theorem F121_eq {l : List Bk} (hl : l.length ≤ 1000) {v : List Vt} (hv : v.length ≤ 1000) (c : Cf) (id : ID) : F121 c l v id = some (onP c l v id) := by
  unfold F121
  obtain ⟨m', e⟩ := F153_eq hl hv (c := c) (id := id)
  have := forL_len l v id
  rw [e, ob, F70_eq (by simp only; omega), ob]; rfl
theorem on_in (c : Cf) (l : List Bk) (v : List Vt) (id : ID) : 0 ≤ onP c l v id := by
  unfold onP wtP
  split
  · next h => exact (wsum_in h.okW.2 _).1
  · omega
/-- The best of some. -/
def bestK (f : ID → Int) : List ID → Rk → Rk
  | [], b => b
  | k :: r, b => bestK f r (bif aboveP ⟨f k, k⟩ b then ⟨f k, k⟩ else b)
theorem bestK_snoc (f : ID → Int) (k : ID) : ∀ (a : List ID) (b : Rk), bestK f (a ++ [k]) b = bif aboveP ⟨f k, k⟩ (bestK f a b) then ⟨f k, k⟩ else bestK f a b
  | [], _ => rfl
  | _ :: r, _ => bestK_snoc f k r _
def bestP (c : Cf) (l : List Bk) (v : List Vt) (id : ID) : Rk := bestK (onP c l v) (kidsOf l id) ⟨-1, (0, 0)⟩
theorem kids_len (l : List Bk) (id : ID) : (kidsOf l id).length ≤ l.length := by
  unfold kidsOf
  split
  · simp
  · rw [List.length_map]; exact List.length_filter_le _ _
theorem F79_eq {l : List Bk} (hl : l.length ≤ 1000) {v : List Vt} (hv : v.length ≤ 1000) (c : Cf) (id : ID) : F79 c l v id = some ((bestP c l v id).id, decide ((bestP c l v id).n ≥ 0)) := by
  unfold F79
  have hk := kids_len l id
  rw [F46_eq hl, ob]
  have e := count_loop (step := F79_s1 c l v (kidsOf l id)) (n := (kidsOf l id).length) (fun n => F79_L1.mk (n : Int) (bestK (onP c l v) ((kidsOf l id).take n) ⟨-1, (0, 0)⟩)) (F79_L1.mk ((kidsOf l id).length : Int) (bestP c l v id)) (fun n hn => by
    obtain ⟨y, hy, -⟩ := get_of hn
    unfold F79_s1
    simp only
    rw [decide_eq_true (show (n : Int) < ((kidsOf l id).length : Int) by omega), ct, ix_nat hy, ob, F121_eq hl hv, ob, F122_eq, ob, wrap_succ (n := n) (by omega), take_succ_getG hy, bestK_snoc]
    cases aboveP ⟨onP c l v y, y⟩ (bestK (onP c l v) ((kidsOf l id).take n) ⟨-1, (0, 0)⟩) with
    | true => rw [ct, ct]
    | false => rw [cf, cf]) (by
    unfold F79_s1
    simp only
    rw [decide_eq_false (show ¬ ((kidsOf l id).length : Int) < ((kidsOf l id).length : Int) by omega), cf, List.take_length]; rfl) (by omega)
  have e0 : F79_L1.mk ((0 : Nat) : Int) (bestK (onP c l v) ((kidsOf l id).take 0) ⟨-1, (0, 0)⟩) = F79_L1.mk 0 (Rk.mk (-1) (0, 0)) := rfl
  rw [e0] at e
  rw [e, ob]
/-- The best of some is one of them, if there is one. -/
theorem bestK_mem {f : ID → Int} (hf : ∀ k, 0 ≤ f k) : ∀ (a : List ID) (b : Rk), (a = [] ∧ bestK f a b = b) ∨ (bestK f a b = b ∧ 0 ≤ b.n) ∨ (∃ k ∈ a, bestK f a b = ⟨f k, k⟩) ∨ (b.n < -1)
  | [], b => .inl ⟨rfl, rfl⟩
  | k :: r, b => by
    by_cases hb : b.n < -1
    · exact .inr (.inr (.inr hb))
    · unfold bestK
      cases h : aboveP ⟨f k, k⟩ b with
      | true =>
        rw [ct]
        rcases bestK_mem hf r ⟨f k, k⟩ with ⟨rfl, e⟩ | ⟨e, -⟩ | ⟨k', hk', e⟩ | h4
        · exact .inr (.inr (.inl ⟨k, .head _, e⟩))
        · exact .inr (.inr (.inl ⟨k, .head _, e⟩))
        · exact .inr (.inr (.inl ⟨k', .tail _ hk', e⟩))
        · have := hf k; simp only at h4; omega
      | false =>
        rw [cf]
        have hb0 : 0 ≤ b.n := by
          unfold aboveP at h
          simp only at h
          have := hf k
          by_cases e : f k = b.n
          · omega
          · rw [if_neg e] at h
            have := of_decide_eq_false h
            omega
        rcases bestK_mem hf r b with ⟨rfl, e⟩ | h2 | ⟨k', hk', e⟩ | h4
        · exact .inr (.inl ⟨e, hb0⟩)
        · exact .inr (.inl h2)
        · exact .inr (.inr (.inl ⟨k', .tail _ hk', e⟩))
        · omega
theorem bestP_cases (c : Cf) (l : List Bk) (v : List Vt) (id : ID) : (kidsOf l id = [] ∧ bestP c l v id = ⟨-1, (0, 0)⟩) ∨ ∃ k ∈ kidsOf l id, bestP c l v id = ⟨onP c l v k, k⟩ := by
  unfold bestP
  rcases bestK_mem (on_in c l v) (kidsOf l id) ⟨-1, (0, 0)⟩ with h | ⟨e, h2⟩ | h3 | h4
  · exact .inl h
  · simp only at h2; omega
  · exact .inr h3
  · simp only at h4; omega
/-- The head, by so many steps. -/
def headF (c : Cf) (l : List Bk) (v : List Vt) : Nat → ID → ID
  | 0, id => id
  | n + 1, id => if (bestP c l v id).n ≥ 0 then headF c l v n (bestP c l v id).id else id
def headP (c : Cf) (l : List Bk) (v : List Vt) : ID := headF c l v (l.length + 1) (0, 0)
theorem kid_ix {l : List Bk} {m : List (ID × Int)} (hp : places l = some m) {id k : ID} {i : Int} (hi : findE m id = some i) (hk : k ∈ kidsOf l id) : ∃ j, findE m k = some j ∧ i < j ∧ j < l.length := by
  unfold kidsOf at hk
  rw [hp] at hk
  obtain ⟨b, hb, rfl⟩ := List.mem_map.1 hk
  rw [List.mem_filter] at hb
  obtain ⟨n, hn⟩ := List.getElem?_of_mem hb.1
  have hI := places_inv hp
  have hnl := (List.getElem?_eq_some_iff.1 hn).1
  have h1 := hI.names n b hnl hn
  refine ⟨n, h1, ?_, by omega⟩
  rcases hI.known _ _ h1 with ⟨h2, -⟩ | ⟨b', p, h2, h3, h4, h5, h6, h7, h8, h9⟩
  · omega
  · rw [Int.toNat_natCast, hn] at h4
    cases h4
    have hpar : b.Parent = id := of_decide_eq_true hb.2
    rw [hpar, hi] at h6
    cases h6
    exact h7
theorem head_iter {l : List Bk} (hl : l.length ≤ 1000) {v : List Vt} (hv : v.length ≤ 1000) (c : Cf) {m : List (ID × Int)} (hp : places l = some m) : ∀ (n f : Nat) (id : ID) (i : Int), findE m id = some i → (l.length : Int) - i ≤ n → n < f →
    iter (F81_s1 c l v) f ⟨id⟩ = some ⟨headF c l v n id⟩
  | 0, f, id, i, hi, hn, _ => by
    rcases (places_inv hp).known _ _ hi with ⟨h, -⟩ | ⟨b, p, h0, h1, -⟩ <;> omega
  | n + 1, f, id, i, hi, hn, hf => by
    obtain ⟨f, rfl⟩ : ∃ g, f = g + 1 := ⟨f - 1, by omega⟩
    have hs : F81_s1 c l v ⟨id⟩ = if (bestP c l v id).n ≥ 0 then some (.inl ⟨(bestP c l v id).id⟩) else some (.inr ⟨id⟩) := by
      unfold F81_s1
      simp only
      rw [F79_eq hl hv, ob]
      by_cases h : (bestP c l v id).n ≥ 0
      · rw [decide_eq_true h, Bool.not_true, cf, if_pos h]
      · rw [decide_eq_false h, Bool.not_false, ct, if_neg h]
    unfold headF
    rcases bestP_cases c l v id with ⟨-, e⟩ | ⟨k, hk, e⟩
    · have : ¬ (bestP c l v id).n ≥ 0 := by rw [e]; simp
      rw [if_neg this] at hs ⊢
      exact iter_end hs
    · have hpos : (bestP c l v id).n ≥ 0 := by rw [e]; exact on_in c l v k
      rw [if_pos hpos] at hs ⊢
      rw [iter_go hs, e]
      obtain ⟨j, hj, h1, h2⟩ := kid_ix hp hi hk
      exact head_iter hl hv c hp n f k j hj (by omega) (by omega)
theorem F81_eq {l : List Bk} (hl : l.length ≤ 1000) {v : List Vt} (hv : v.length ≤ 1000) (c : Cf) : F81 c l v = some (headP c l v) := by
  unfold F81 headP
  cases hp : places l with
  | some m =>
    rw [head_iter hl hv c hp (l.length + 1) big (0, 0) (-1) (places_inv hp).zero (by omega) (big_gt (by omega)), ob]
  | none =>
    have hk : kidsOf l (0, 0) = [] := by unfold kidsOf; rw [hp]
    have hb : bestP c l v (0, 0) = ⟨-1, (0, 0)⟩ := by unfold bestP; rw [hk]; rfl
    have hs : F81_s1 c l v ⟨(0, 0)⟩ = some (.inr ⟨(0, 0)⟩) := by
      unfold F81_s1
      simp only
      rw [F79_eq hl hv, ob, hb]
      rfl
    rw [big3, iter_end hs, ob]
    unfold headF
    rw [hb, if_neg (by simp)]
theorem F157_eq (a b : ID) : F157 a b = some (lessP a b) := by
  unfold F157 lessP
  by_cases h1 : a.1 < b.1
  · rw [decide_eq_true h1, ct, decide_eq_true (.inl h1)]
  · rw [decide_eq_false h1, cf]
    by_cases h2 : a.1 = b.1
    · rw [show (a.1 == b.1) = true by simp [h2], ct]
      congr 1
      exact decide_eq_decide.2 ⟨fun h => .inr ⟨h2, h⟩, fun h => h.elim (fun h => absurd h h1) (·.2)⟩
    · rw [show (a.1 == b.1) = false by simp [h2], cf, decide_eq_false (fun h => h.elim h1 fun h => h2 h.1)]
theorem F155_eq {l : List Bk} (hl : l.length ≤ 1000) {m : List (ID × Int)} (hp : places l = some m) (id : ID) : F155 l (l.map nm) id = some (kidsOf l id) := by
  unfold F155
  have hk : ∀ n, (((l.take n).filter fun b => decide (b.Parent = id)).map nm).length ≤ n := fun n => by
    rw [List.length_map]
    exact Nat.le_trans (List.length_filter_le _ _) (by rw [List.length_take]; omega)
  have e := count_loop (step := F155_s1 l (l.map nm) id) (n := l.length) (fun n => F155_L1.mk (n : Int) (((l.take n).filter fun b => decide (b.Parent = id)).map nm)) (F155_L1.mk (l.length : Int) ((l.filter fun b => decide (b.Parent = id)).map nm)) (fun n hn => by
    obtain ⟨y, hy, -⟩ := get_of hn
    have hy2 : (l.map nm)[n]? = some (nm y) := by rw [List.getElem?_map, hy]; rfl
    have := hk n
    unfold F155_s1
    simp only
    rw [decide_eq_true (show (n : Int) < (l.length : Int) by omega), ct, ix_nat hy, ob, eqID, wrap_succ (n := n) (by omega), filter_snoc hy]
    by_cases h : y.Parent = id
    · rw [decide_eq_true h, ct, ix_nat hy2, ob, room_ok (by simp only [List.length_singleton]; omega) (by omega), ct, if_pos h]
    · rw [decide_eq_false h, cf, if_neg h, List.append_nil]) (by
    unfold F155_s1
    simp only
    rw [decide_eq_false (show ¬ (l.length : Int) < (l.length : Int) by omega), cf, List.take_length]) (by omega)
  have e0 : F155_L1.mk ((0 : Nat) : Int) (((l.take 0).filter fun b => decide (b.Parent = id)).map nm) = F155_L1.mk 0 [] := by simp
  rw [e0] at e
  rw [e, ob]
  unfold kidsOf
  rw [hp]
theorem names_len (l : List Bk) : (l.map nm).length = l.length := List.length_map _
/-- Down from a block, by the list of names. -/
theorem F169_down {l : List Bk} (hl : l.length ≤ 1000) {m : List (ID × Int)} (hp : places l = some m) (low : ID) : ∀ (n : Nat) (f : Nat) (id : ID) (i : Int), findE m id = some i → i < n → n < f →
    ∃ b, iter (F169_s1 l (l.map nm) low) f ⟨i, id⟩ = some b ∧ (b.id = low ↔ low ∈ chainF l (i + 1).toNat id i) := by
  intro n
  have stop : ∀ (f : Nat) (id : ID) (i : Int), 0 < f → (i < 0 ∨ id = low) → iter (F169_s1 l (l.map nm) low) f ⟨i, id⟩ = some ⟨i, id⟩ := by
    intro f id i hf h
    obtain ⟨f, rfl⟩ : ∃ g, f = g + 1 := ⟨f - 1, by omega⟩
    refine iter_end ?_
    unfold F169_s1
    simp only
    by_cases h0 : i ≥ 0
    · have hid : id = low := h.resolve_left (by omega)
      rw [decide_eq_true h0, ct, ob, eqID, decide_eq_true hid, Bool.not_true, cf]
    · rw [decide_eq_false h0, cf, ob, cf]
  induction n with
  | zero =>
    intro f id i hi hn hf
    refine ⟨⟨i, id⟩, stop f id i hf (.inl (by omega)), ?_⟩
    rcases (places_inv hp).known _ _ hi with ⟨h, -⟩ | ⟨b, p, h0, -⟩
    · subst h
      rw [chainF_end hp hi]
      simp only [List.mem_singleton]
      exact ⟨Eq.symm, Eq.symm⟩
    · omega
  | succ n ih =>
    intro f id i hi hn hf
    by_cases hid : id = low
    · refine ⟨⟨i, id⟩, stop f id i (by omega) (.inr hid), ?_⟩
      have : chainOf l id = chainF l (i + 1).toNat id i := by unfold chainOf; rw [hp]; simp only [hi]
      rw [← this]
      have h0 := chain_head (l := l) (id := id) (by
        rw [this]
        intro e
        have := chainF_zero hp (i + 1).toNat id i (by omega) hi
        rw [e] at this; simp at this)
      exact ⟨fun _ => hid ▸ List.mem_of_getElem? h0, fun _ => hid⟩
    · rcases (places_inv hp).known _ _ hi with ⟨h, h'⟩ | ⟨b, p, h0, h1, h2, h3, h4, h5, h6, h7⟩
      · subst h
        refine ⟨⟨-1, id⟩, stop f id (-1) (by omega) (.inl (by omega)), ?_⟩
        rw [chainF_end hp hi]
        simp only [List.mem_singleton]
        exact ⟨Eq.symm, Eq.symm⟩
      · obtain ⟨f, rfl⟩ : ∃ g, f = g + 1 := ⟨f - 1, by omega⟩
        have hix : indexOf (l.map nm) b.Parent = p := by
          have := find_names hp b.Parent
          rw [h4] at this
          split at this
          · rename_i e
            cases this
            rw [e]; exact zero_names hp
          · split at this
            · cases this; rfl
            · cases this
        have hs : F169_s1 l (l.map nm) low ⟨i, id⟩ = some (.inl ⟨p, b.Parent⟩) := by
          unfold F169_s1
          simp only
          rw [decide_eq_true h0, ct, ob, eqID, decide_eq_false hid, Bool.not_false, ct, ix_of h0 h2, ob, F98_eq (by rw [names_len]; omega), ob, hix]
        obtain ⟨b', e, hb⟩ := ih f b.Parent p h4 (by omega) (by omega)
        refine ⟨b', by rw [iter_go hs, e], ?_⟩
        rw [chainF_step (id := id) hp (by omega) h0 h2 h4 h5 h6, List.mem_cons]
        exact ⟨fun h => .inr (hb.1 h), fun h => h.elim (fun e => absurd e.symm hid) hb.2⟩
theorem F169_eq {l : List Bk} (hl : l.length ≤ 1000) {m : List (ID × Int)} (hp : places l = some m) (low id : ID) : F169 l (l.map nm) low id = some (underB l low id) := by
  unfold F169 underB
  have hfn := find_names hp id
  rw [F98_eq (by rw [names_len]; omega), ob]
  by_cases h0 : id = (0, 0)
  · rw [if_pos h0] at hfn
    have hz := zero_names hp
    obtain ⟨b, e, hb⟩ := F169_down hl hp low 1 big id (-1) hfn (by omega) (big_gt (by omega))
    rw [h0, hz, show decide ((-1 : Int) < 0) = true from rfl, ct, eqID0, decide_eq_true rfl, Bool.not_true, cf, ob, sl, ← h0, e, ob, eqID]
    congr 1
    refine decide_eq_decide.2 ?_
    rw [hb]
    unfold chainOf
    rw [hp]
    simp only [hfn]
  · rw [if_neg h0] at hfn
    by_cases h1 : 0 ≤ indexOf (l.map nm) id
    · rw [if_pos h1] at hfn
      have hlt : indexOf (l.map nm) id < l.length := by have := indexOf_le (l := l.map nm) (v := id); rwa [names_len] at this
      obtain ⟨b, e, hb⟩ := F169_down hl hp low (l.length + 1) big id _ hfn (by omega) (big_gt (by omega))
      rw [decide_eq_false (show ¬ indexOf (l.map nm) id < 0 by omega), cf, ob, sl, e, ob, eqID]
      congr 1
      refine decide_eq_decide.2 ?_
      rw [hb]
      unfold chainOf
      rw [hp]
      simp only [hfn]
    · rw [if_neg h1] at hfn
      rw [decide_eq_true (show indexOf (l.map nm) id < 0 by omega), ct, eqID0, decide_eq_false h0, Bool.not_false, ct, ob, sr]
      congr 1
      refine (decide_eq_false ?_).symm
      unfold chainOf
      rw [hp]
      simp only [hfn]
      simp
theorem F156_eq {c : Cf} {l : List Bk} (hW : c.W.length ≤ 1000) (hl : l.length ≤ 1000) {m : List (ID × Int)} (hp : places l = some m) {v : List Vt} (hv : v.length ≤ 1000) (id : ID) : F156 c l (l.map nm) v id = some (onP c l v id) := by
  unfold F156
  have e := count_loop (step := F156_s1 l (l.map nm) v id) (n := v.length) (fun n => F156_L1.mk (n : Int) (forL l (v.take n) id)) (F156_L1.mk (v.length : Int) (forL l v id)) (fun n hn => by
    obtain ⟨y, hy, -⟩ := get_of hn
    have hlen := forL_len l (v.take n) id
    rw [List.length_take] at hlen
    unfold F156_s1
    simp only
    rw [decide_eq_true (show (n : Int) < (v.length : Int) by omega), ct, ix_nat hy, ob, F169_eq hl hp, ob, forL_snoc hy, wrap_succ (n := n) (by omega)]
    cases hu : underB l id y.Head with
    | true => rw [ct, ob, room_ok (by simp only [List.length_singleton]; omega) (by omega), ct, ct]
    | false => rw [cf, cf, List.append_nil]) (by
    unfold F156_s1
    simp only
    rw [decide_eq_false (show ¬ (v.length : Int) < (v.length : Int) by omega), cf, List.take_length]) (by omega)
  have e0 : F156_L1.mk ((0 : Nat) : Int) (forL l (v.take 0) id) = F156_L1.mk 0 [] := by simp [forL]
  rw [e0] at e
  have hlen := forL_len l v id
  rw [e, ob, F71_eq hW (by simp only; omega), ob]
  rfl
theorem above_more {f : ID → Int} {x k : ID} {y : Int} (h : f k = f k) : aboveP ⟨f k, k⟩ ⟨y, x⟩ = (decide (f k > y) || (decide (f k = y) && lessP x k)) := by
  unfold aboveP
  simp only
  by_cases e : f k = y
  · rw [if_pos e, decide_eq_false (show ¬ f k > y by omega), decide_eq_true e]; rfl
  · rw [if_neg e, decide_eq_false e]
    cases decide (f k > y) <;> rfl
/-- The reference's state: at the beginning nothing is told. -/
def refSt (f : ID → Int) (a : List ID) (n : Nat) : Int × ID := if n = 0 then (0, (0, 0)) else ((bestK f (a.take n) ⟨-1, (0, 0)⟩).n, (bestK f (a.take n) ⟨-1, (0, 0)⟩).id)
theorem F124_eq {c : Cf} {l : List Bk} (hW : c.W.length ≤ 1000) (hl : l.length ≤ 1000) {m : List (ID × Int)} (hp : places l = some m) {v : List Vt} (hv : v.length ≤ 1000) (id : ID) :
    F124 c l (l.map nm) v id = some ((bestP c l v id).id, decide ((bestP c l v id).n ≥ 0)) := by
  unfold F124
  have hk := kids_len l id
  rw [F155_eq hl hp, ob]
  have e := count_loop (step := F124_s1 c l (l.map nm) v (kidsOf l id)) (n := (kidsOf l id).length) (fun n => F124_L1.mk (refSt (onP c l v) (kidsOf l id) n).1 (n : Int) (refSt (onP c l v) (kidsOf l id) n).2)
    (F124_L1.mk (refSt (onP c l v) (kidsOf l id) (kidsOf l id).length).1 ((kidsOf l id).length : Int) (refSt (onP c l v) (kidsOf l id) (kidsOf l id).length).2) (fun n hn => by
    obtain ⟨y, hy, -⟩ := get_of hn
    unfold F124_s1
    simp only
    rw [decide_eq_true (show (n : Int) < ((kidsOf l id).length : Int) by omega), ct, ix_nat hy, ob, F156_eq hW hl hp hv, ob, ob, F157_eq, ob, wrap_succ (n := n) (by omega)]
    have hon := on_in c l v y
    by_cases h0 : n = 0
    · subst h0
      rw [show ((((0 : Nat) : Int)) == 0) = true from rfl, ct, ob, ct, ob]
      have hk0 : (kidsOf l id).take 1 = [y] := by rw [take_succ_getG hy]; rfl
      have : refSt (onP c l v) (kidsOf l id) (0 + 1) = (onP c l v y, y) := by
        unfold refSt
        rw [if_neg (by omega), hk0]
        unfold bestK bestK aboveP
        simp only
        rw [if_neg (by omega), decide_eq_true (show onP c l v y > -1 by omega), ct]
      rw [this]
    · rw [show (((n : Nat) : Int) == 0) = false by rw [beq_eq_false_iff_ne]; omega, cf]
      have hst : refSt (onP c l v) (kidsOf l id) n = ((bestK (onP c l v) ((kidsOf l id).take n) ⟨-1, (0, 0)⟩).n, (bestK (onP c l v) ((kidsOf l id).take n) ⟨-1, (0, 0)⟩).id) := by unfold refSt; rw [if_neg h0]
      have hst' : refSt (onP c l v) (kidsOf l id) (n + 1) = ((bestK (onP c l v) ((kidsOf l id).take (n + 1)) ⟨-1, (0, 0)⟩).n, (bestK (onP c l v) ((kidsOf l id).take (n + 1)) ⟨-1, (0, 0)⟩).id) := by unfold refSt; rw [if_neg (by omega)]
      rw [hst, hst', take_succ_getG hy, bestK_snoc]
      generalize bestK (onP c l v) ((kidsOf l id).take n) ⟨-1, (0, 0)⟩ = B
      obtain ⟨bn, bi⟩ := B
      rw [above_more rfl]
      simp only
      by_cases h1 : onP c l v y > bn
      · rw [decide_eq_true h1, ct, ob, ct, ob, Bool.true_or, ct]
      · rw [decide_eq_false h1, cf, Bool.false_or]
        by_cases h2 : onP c l v y = bn
        · rw [show (onP c l v y == bn) = true by simp [h2], ct, ob, decide_eq_true h2, Bool.true_and]
          cases lessP bi y with
          | true => rw [ct, ob, ct]
          | false => rw [cf, cf]
        · rw [show (onP c l v y == bn) = false by simp [h2], cf, ob, decide_eq_false h2, Bool.false_and, cf, cf]) (by
    unfold F124_s1
    simp only
    rw [decide_eq_false (show ¬ ((kidsOf l id).length : Int) < ((kidsOf l id).length : Int) by omega), cf]) (by omega)
  have e0 : F124_L1.mk (refSt (onP c l v) (kidsOf l id) 0).1 ((0 : Nat) : Int) (refSt (onP c l v) (kidsOf l id) 0).2 = F124_L1.mk 0 0 (0, 0) := rfl
  rw [e0] at e
  rw [e, ob]
  simp only
  rcases bestP_cases c l v id with ⟨h1, h2⟩ | ⟨k, h1, h2⟩
  · rw [h2, h1]; rfl
  · have hne : (kidsOf l id).length ≠ 0 := by
      intro h; rw [List.length_eq_zero_iff] at h; rw [h] at h1; simp at h1
    have hst : refSt (onP c l v) (kidsOf l id) (kidsOf l id).length = ((bestP c l v id).n, (bestP c l v id).id) := by
      unfold refSt
      rw [if_neg hne, List.take_length]; rfl
    rw [hst, decide_eq_true (show ((kidsOf l id).length : Int) > 0 by omega), decide_eq_true (show (bestP c l v id).n ≥ 0 by rw [h2]; exact on_in c l v k)]
theorem bestP_bad {c : Cf} {l : List Bk} {v : List Vt} {id : ID} (hp : places l = none) : bestP c l v id = ⟨-1, (0, 0)⟩ := by
  have hk : kidsOf l id = [] := by unfold kidsOf; rw [hp]
  unfold bestP; rw [hk]; rfl
theorem F80_eq {c : Cf} {l : List Bk} (hb : BksOk l) (hW : c.W.length ≤ 1000) (hl : l.length ≤ 1000) {v : List Vt} (hv : v.length ≤ 1000) (id : ID) : F80 c l v id = some ((bestP c l v id).id, decide ((bestP c l v id).n ≥ 0)) := by
  unfold F80
  rw [F97_eq hb hl, ob]
  unfold F123
  rw [F96_eq hl, ob, ob]
  cases hp : places l with
  | none => rw [Option.isSome_none, Bool.not_false, ct, bestP_bad hp]; rfl
  | some m => rw [Option.isSome_some, Bool.not_true, cf, F124_eq hW hl hp hv, ob]
theorem F82_eq {c : Cf} {l : List Bk} (hb : BksOk l) (hW : c.W.length ≤ 1000) (hl : l.length ≤ 1000) {v : List Vt} (hv : v.length ≤ 1000) : F82 c l v = some (headP c l v) := by
  unfold F82
  rw [F97_eq hb hl, ob]
  unfold F123
  rw [F96_eq hl, ob, ob]
  cases hp : places l with
  | none =>
    have hs : F82_s1 c l v (l.map nm) (none : Option (List (ID × Int))).isSome ⟨0, (0, 0)⟩ = some (.inr ⟨0, (0, 0)⟩) := by
      unfold F82_s1
      simp only
      rw [decide_eq_true (show (0 : Int) ≤ (l.length : Int) by omega), ct, Option.isSome_none, ob, cf]
    rw [big3, iter_end hs, ob]
    unfold headP headF
    rw [bestP_bad hp, if_neg (by simp)]
  | some m =>
    have key : ∀ (n f : Nat) (i : Int) (id : ID), i + n = (l.length : Int) + 1 → 0 ≤ i → n < f → ∃ b, iter (F82_s1 c l v (l.map nm) (some m).isSome) f ⟨i, id⟩ = some b ∧ b.id = headF c l v n id := by
      intro n
      induction n with
      | zero =>
        intro f i id hi h0 hf
        obtain ⟨f, rfl⟩ : ∃ g, f = g + 1 := ⟨f - 1, by omega⟩
        refine ⟨⟨i, id⟩, iter_end ?_, rfl⟩
        unfold F82_s1
        simp only
        rw [decide_eq_false (show ¬ i ≤ (l.length : Int) by omega), cf, ob, cf]
      | succ n ih =>
        intro f i id hi h0 hf
        obtain ⟨f, rfl⟩ : ∃ g, f = g + 1 := ⟨f - 1, by omega⟩
        have hs : F82_s1 c l v (l.map nm) (some m).isSome ⟨i, id⟩ = if (bestP c l v id).n ≥ 0 then some (.inl ⟨i + 1, (bestP c l v id).id⟩) else some (.inr ⟨i, id⟩) := by
          unfold F82_s1
          simp only
          rw [decide_eq_true (show i ≤ (l.length : Int) by omega), ct, Option.isSome_some, ob, ct, F124_eq hW hl hp hv, ob]
          by_cases h : (bestP c l v id).n ≥ 0
          · rw [decide_eq_true h, Bool.not_true, cf, if_pos h, wrapI (by omega) (by omega)]
          · rw [decide_eq_false h, Bool.not_false, ct, if_neg h]
        unfold headF
        by_cases h : (bestP c l v id).n ≥ 0
        · rw [if_pos h] at hs ⊢
          rw [iter_go hs]
          exact ih f (i + 1) _ (by omega) (by omega) (by omega)
        · rw [if_neg h] at hs ⊢
          exact ⟨_, iter_end hs, rfl⟩
    obtain ⟨b, e, hb⟩ := key (l.length + 1) big 0 (0, 0) (by omega) (by omega) (big_gt (by omega))
    rw [e, ob, hb]; rfl
theorem F77_eq : F77 = some true := by kernel_rfl
theorem ghTells {c : Cf} {l : List Bk} {v : List Vt} {id : ID} (hb : BksOk l) : F28 c l v id = some true := by
  unfold F28
  rw [F77_eq, ob]
  have hf : F78 c l v = some (decide (c.W.length ≤ 40 ∧ l.length ≤ 20 ∧ v.length ≤ 30)) := by
    unfold F78
    by_cases h1 : c.W.length ≤ 40
    · rw [decide_eq_true (show (c.W.length : Int) ≤ 40 by omega), ct]
      by_cases h2 : l.length ≤ 20
      · rw [decide_eq_true (show (l.length : Int) ≤ 20 by omega), ct]
        congr 1
        exact decide_eq_decide.2 ⟨fun h => ⟨h1, h2, by omega⟩, fun h => by have := h.2.2; omega⟩
      · rw [decide_eq_false (show ¬ (l.length : Int) ≤ 20 by omega), cf, decide_eq_false (fun h => h2 h.2.1)]
    · rw [decide_eq_false (show ¬ (c.W.length : Int) ≤ 40 by omega), cf, decide_eq_false (fun h => h1 h.1)]
  rw [hf, ob, Bool.not_true, cf, ob]
  by_cases h : c.W.length ≤ 40 ∧ l.length ≤ 20 ∧ v.length ≤ 30
  · obtain ⟨h1, h2, h3⟩ := h
    rw [decide_eq_true ⟨h1, h2, h3⟩, Bool.not_true, cf, F79_eq (by omega) (by omega), ob, F80_eq hb (by omega) (by omega) (by omega), ob, eqID, decide_eq_true rfl, ct, beq_self_eq_true, ct, F81_eq (by omega) (by omega), ob, F82_eq hb (by omega) (by omega) (by omega), ob, eqID, decide_eq_true rfl]
  · rw [decide_eq_false h, Bool.not_false, ct]
end Go.Mg
