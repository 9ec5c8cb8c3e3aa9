/- Laws of the shuffle. Plain laws of the shuffle. Plain laws of the shuffle: all places together, and the laws. Conditions: none. -/
import Derived.Test.YtlhocfhoocmfiaaS1
import Derived.Test.YtlhocfhoocmfiaaR1
namespace Go.Mg
open Go.Proofs


/-! marigold/marigoldlaw04.ShuffleTells -/
structure F16_L1 where
  k : Int

def F16_s1 (v8 : (List Int)) (v9 : (List Int)) (x1 : F16_L1) : Option (F16_L1 ⊕ (F16_L1 ⊕ Bool)) :=
  bif decide (x1.k < (v8.length : Int)) then
    (ix v8 x1.k).bind fun y1 =>
    (ix v9 x1.k).bind fun y2 =>
    bif y1 != y2 then
      some (.inr (.inr false))
    else
      some (.inl (F16_L1.mk (IntKind.i64.wrap (x1.k + 1))))
  else
    some (.inr (.inl (F16_L1.mk x1.k)))
def F16 (seed : Int) (n : Int) (i : Int) : Option Bool :=
  (F55 ).bind fun v1 =>
  (
    bif !v1 then
      some true
    else
      (F56 seed n i).bind fun v3 =>
      (F57 seed n i).bind fun v4 =>
      bif v3 != v4 then
        some true
      else
        (F58 seed n i).bind fun v5 =>
        (F59 seed n i).bind fun v6 =>
        some (v5 != v6)
  ).bind fun v2 =>
  bif v2 then
    some false
  else
    (
      bif decide (n > 60) then
        bif decide (n ≤ 1000) then
          some (.inr true)
        else
          some (.inl ())
      else
        some (.inl ())
    ).bind fun b_v7 => Sum.elim (fun _ =>
      (F60 seed n).bind fun v8 =>
      (F61 seed n).bind fun v9 =>
      bif (v8.length : Int) != (v9.length : Int) then
        some false
      else
        (iter (F16_s1 v8 v9) big (F16_L1.mk 0)).bind fun b_v10 => Sum.elim (fun _ =>
          some true) some b_v10) some b_v7

set_option maxRecDepth 100000 in
theorem c16 {seed : Int} {n : Int} {i : Int} {r_ : Bool} (hr : F16 seed n i = some r_) : LPure Try.prog 16 [.int .u64 seed, .int .i64 n, .int .i64 i] [.bool r_] := by
  refine LPure.start Try.func16 rfl rfl rfl rfl ?_
  unfold F16 at hr
  refine LW.seq ?_
  refine LW.region ?_
  refine LOps.st rfl rfl rfl (LOp.assign rfl rfl) ?_
  refine LOps.nil ?_
  refine thn_n ?_
  refine LW.seq ?_
  refine LW.region ?_
  obtain ⟨v1, h_v1, hr⟩ := bind_get hr
  refine LOps.st rfl rfl rfl (LOp.call rfl rfl rfl (by kernel_rfl) (LC.pure (c55 h_v1) .nil)) ?_
  refine LOps.st rfl rfl rfl (LOp.assign rfl rfl) ?_
  refine LOps.nil ?_
  refine thn_n ?_
  refine LW.seq ?_
  obtain ⟨v2, hb_v2, ho_v2⟩ := bind_get hr
  clear hr
  refine LW.cut (E := [(0, .p (.int .u64 seed)), (1, .p (.int .i64 n)), (6, .p (.bool false)), (35, .p (.bool v2))]) (O := []) ?_ ?_
  · have hr := hb_v2
    refine LW.region ?_
    refine LOps.st rfl rfl rfl (LOp.move rfl rfl) ?_
    refine LOps.st rfl rfl rfl (LOp.not rfl rfl) ?_
    refine LOps.st rfl rfl rfl (LOp.move rfl rfl) ?_
    refine LOps.cases 14 rfl (fun (g1 : (!v1) = true) => ?_) (fun (g1 : (!v1) = false) => ?_)
    · -- g1 is True
      have hr := ite_t g1 hr
      refine LOps.sk rfl rfl rfl (gd g1 rfl) rfl rfl ?_
      refine LOps.sk rfl rfl rfl (gd g1 rfl) rfl rfl ?_
      refine LOps.sk rfl rfl rfl (gd g1 rfl) rfl rfl ?_
      refine LOps.sk rfl rfl rfl (gd g1 rfl) rfl rfl ?_
      refine LOps.sk rfl rfl rfl (gd g1 rfl) rfl rfl ?_
      refine LOps.sk rfl rfl rfl (gd g1 rfl) rfl rfl ?_
      refine LOps.sk rfl rfl rfl (gd g1 rfl) rfl rfl ?_
      refine LOps.sk rfl rfl rfl (gd g1 rfl) rfl rfl ?_
      refine LOps.sk rfl rfl rfl (gd g1 rfl) rfl rfl ?_
      refine LOps.st rfl rfl rfl (LOp.pickT rfl (gdl g1 rfl) rfl) ?_
      refine LOps.st rfl rfl rfl (LOp.move rfl rfl) ?_
      refine LOps.sk rfl rfl rfl rfl rfl rfl ?_
      refine LOps.sk rfl rfl rfl rfl rfl rfl ?_
      refine LOps.sk rfl rfl rfl rfl rfl rfl ?_
      refine LOps.sk rfl rfl rfl rfl rfl rfl ?_
      refine LOps.sk rfl rfl rfl rfl rfl rfl ?_
      refine LOps.sk rfl rfl rfl rfl rfl rfl ?_
      refine LOps.sk rfl rfl rfl rfl rfl rfl ?_
      refine LOps.sk rfl rfl rfl rfl rfl rfl ?_
      refine LOps.sk rfl rfl rfl rfl rfl rfl ?_
      refine LOps.st rfl rfl rfl (LOp.pickT rfl rfl rfl) ?_
      refine LOps.nil ?_
      refine thn_n ?_
      obtain rfl := Option.some.inj hr
      exact Weak.of 0 ⟨rfl, rfl, rfl, rfl, trivial⟩ rfl rfl rfl rfl
    · -- g1 is False
      have hr := ite_f g1 hr
      refine LOps.gd rfl rfl rfl (gd g1 rfl) rfl (LOp.move rfl rfl) ?_
      refine LOps.gd rfl rfl rfl (gd g1 rfl) rfl (LOp.move rfl rfl) ?_
      refine LOps.gd rfl rfl rfl (gd g1 rfl) rfl (LOp.move rfl rfl) ?_
      obtain ⟨v3, h_v3, hr⟩ := bind_get hr
      refine LOps.gd rfl rfl rfl (gd g1 rfl) rfl (LOp.call rfl rfl rfl (by kernel_rfl) (LC.pure (c56 h_v3) (.cons Conv.p (.cons Conv.p (.cons Conv.p .nil))))) ?_
      refine LOps.gd rfl rfl rfl (gd g1 rfl) rfl (LOp.move rfl rfl) ?_
      refine LOps.gd rfl rfl rfl (gd g1 rfl) rfl (LOp.move rfl rfl) ?_
      refine LOps.gd rfl rfl rfl (gd g1 rfl) rfl (LOp.move rfl rfl) ?_
      obtain ⟨v4, h_v4, hr⟩ := bind_get hr
      refine LOps.gd rfl rfl rfl (gd g1 rfl) rfl (LOp.call rfl rfl rfl (by kernel_rfl) (LC.pure (c57 h_v4) (.cons Conv.p (.cons Conv.p (.cons Conv.p .nil))))) ?_
      refine LOps.gd rfl rfl rfl (gd g1 rfl) rfl (LOp.bin rfl rfl rfl rfl) ?_
      refine LOps.st rfl rfl rfl (LOp.pickF rfl (gdl g1 rfl) rfl) ?_
      refine LOps.st rfl rfl rfl (LOp.move rfl rfl) ?_
      refine LOps.cases 25 rfl (fun (g2 : (v3 != v4) = true) => ?_) (fun (g2 : (v3 != v4) = false) => ?_)
      · -- g2 is True
        have hr := ite_t g2 hr
        refine LOps.sk rfl rfl rfl (gd g2 rfl) rfl rfl ?_
        refine LOps.sk rfl rfl rfl (gd g2 rfl) rfl rfl ?_
        refine LOps.sk rfl rfl rfl (gd g2 rfl) rfl rfl ?_
        refine LOps.sk rfl rfl rfl (gd g2 rfl) rfl rfl ?_
        refine LOps.sk rfl rfl rfl (gd g2 rfl) rfl rfl ?_
        refine LOps.sk rfl rfl rfl (gd g2 rfl) rfl rfl ?_
        refine LOps.sk rfl rfl rfl (gd g2 rfl) rfl rfl ?_
        refine LOps.sk rfl rfl rfl (gd g2 rfl) rfl rfl ?_
        refine LOps.sk rfl rfl rfl (gd g2 rfl) rfl rfl ?_
        refine LOps.st rfl rfl rfl (LOp.pickT rfl (gdl g2 rfl) rfl) ?_
        refine LOps.nil ?_
        refine thn_n ?_
        obtain rfl := Option.some.inj hr
        exact Weak.of 0 ⟨rfl, rfl, rfl, rfl, trivial⟩ rfl rfl rfl rfl
      · -- g2 is False
        have hr := ite_f g2 hr
        refine LOps.gd rfl rfl rfl (gd g2 rfl) rfl (LOp.move rfl rfl) ?_
        refine LOps.gd rfl rfl rfl (gd g2 rfl) rfl (LOp.move rfl rfl) ?_
        refine LOps.gd rfl rfl rfl (gd g2 rfl) rfl (LOp.move rfl rfl) ?_
        obtain ⟨v5, h_v5, hr⟩ := bind_get hr
        refine LOps.gd rfl rfl rfl (gd g2 rfl) rfl (LOp.call rfl rfl rfl (by kernel_rfl) (LC.pure (c58 h_v5) (.cons Conv.p (.cons Conv.p (.cons Conv.p .nil))))) ?_
        refine LOps.gd rfl rfl rfl (gd g2 rfl) rfl (LOp.move rfl rfl) ?_
        refine LOps.gd rfl rfl rfl (gd g2 rfl) rfl (LOp.move rfl rfl) ?_
        refine LOps.gd rfl rfl rfl (gd g2 rfl) rfl (LOp.move rfl rfl) ?_
        obtain ⟨v6, h_v6, hr⟩ := bind_get hr
        refine LOps.gd rfl rfl rfl (gd g2 rfl) rfl (LOp.call rfl rfl rfl (by kernel_rfl) (LC.pure (c59 h_v6) (.cons Conv.p (.cons Conv.p (.cons Conv.p .nil))))) ?_
        refine LOps.gd rfl rfl rfl (gd g2 rfl) rfl (LOp.bin rfl rfl rfl rfl) ?_
        refine LOps.st rfl rfl rfl (LOp.pickF rfl (gdl g2 rfl) rfl) ?_
        refine LOps.nil ?_
        refine thn_n ?_
        obtain rfl := Option.some.inj hr
        exact Weak.of 0 ⟨rfl, rfl, rfl, rfl, trivial⟩ rfl rfl rfl rfl
  · have hr := ho_v2
    clear hb_v2
    refine LW.cond rfl (fun (g3 : v2 = true) => ?_) (fun (g3 : v2 = false) => ?_)
    · -- g3 is True
      have hr := ite_t g3 hr
      refine LW.seq ?_
      refine LW.region ?_
      refine LOps.st rfl rfl rfl (LOp.assign rfl rfl) ?_
      refine LOps.nil ?_
      refine thn_n ?_
      refine LW.ret ?_
      refine thn_r ?_
      obtain rfl := Option.some.inj hr
      refine finP_ret (.one (.tmp rfl)) ?_
      exact Conv.p
    · -- g3 is False
      have hr := ite_f g3 hr
      refine LW.skip ?_
      refine thn_n ?_
      obtain ⟨b_v7, hb_v7, ho_v7⟩ := bind_get hr
      clear hr
      refine LW.cutB (b := b_v7) (E := fun v7 => [(0, .p (.int .u64 seed)), (1, .p (.int .i64 n)), (6, .p (.bool false))]) (O := fun v7 => []) ?_ (fun v7 e_v7 => ?_)
      · have hr := hb_v7
        refine LW.seq ?_
        refine LW.region ?_
        refine LOps.st rfl rfl rfl (LOp.move rfl rfl) ?_
        refine LOps.st rfl rfl rfl (LOp.bin rfl rfl rfl rfl) ?_
        refine LOps.st rfl rfl rfl (LOp.move rfl rfl) ?_
        refine LOps.cases 38 rfl (fun (g4 : (decide (n > 60)) = true) => ?_) (fun (g4 : (decide (n > 60)) = false) => ?_)
        · -- g4 is True
          have hr := ite_t g4 hr
          refine LOps.gd rfl rfl rfl (gd g4 rfl) rfl (LOp.move rfl rfl) ?_
          refine LOps.gd rfl rfl rfl (gd g4 rfl) rfl (LOp.bin rfl rfl rfl rfl) ?_
          refine LOps.st rfl rfl rfl (LOp.pickT rfl (gdl g4 rfl) rfl) ?_
          refine LOps.nil ?_
          refine thn_n ?_
          refine LW.cond rfl (fun (g5 : (decide (n ≤ 1000)) = true) => ?_) (fun (g5 : (decide (n ≤ 1000)) = false) => ?_)
          · -- g5 is True
            have hr := ite_t g5 hr
            refine LW.seq ?_
            refine LW.region ?_
            refine LOps.st rfl rfl rfl (LOp.assign rfl rfl) ?_
            refine LOps.nil ?_
            refine thn_n ?_
            refine LW.ret ?_
            refine thn_r ?_
            obtain rfl := Option.some.inj hr
            have hr := sum_r ho_v7
            obtain rfl := Option.some.inj hr
            refine finP_ret (.one (.tmp rfl)) ?_
            exact Conv.p
          · -- g5 is False
            have hr := ite_f g5 hr
            refine LW.skip ?_
            refine thn_n ?_
            obtain rfl := Option.some.inj hr
            exact ⟨_, rfl, Weak.of 0 ⟨rfl, rfl, rfl, trivial⟩ rfl rfl rfl rfl⟩
        · -- g4 is False
          have hr := ite_f g4 hr
          refine LOps.sk rfl rfl rfl (gd g4 rfl) rfl rfl ?_
          refine LOps.sk rfl rfl rfl (gd g4 rfl) rfl rfl ?_
          refine LOps.st rfl rfl rfl (LOp.pickF rfl (gdl g4 rfl) rfl) ?_
          refine LOps.nil ?_
          refine thn_n ?_
          refine LW.condF rfl ?_
          refine LW.skip ?_
          refine thn_n ?_
          obtain rfl := Option.some.inj hr
          exact ⟨_, rfl, Weak.of 0 ⟨rfl, rfl, rfl, trivial⟩ rfl rfl rfl rfl⟩
      · obtain rfl := e_v7
        have hr := sum_l ho_v7
        clear hb_v7
        refine LW.seq ?_
        refine LW.region ?_
        refine LOps.st rfl rfl rfl (LOp.move rfl rfl) ?_
        refine LOps.st rfl rfl rfl (LOp.move rfl rfl) ?_
        obtain ⟨v8, h_v8, hr⟩ := bind_get hr
        refine LOps.st rfl rfl rfl (LOp.call rfl rfl rfl (by kernel_rfl) (LC.pure (c60 h_v8) (.cons Conv.p (.cons Conv.p .nil)))) ?_
        refine LOps.st rfl rfl rfl (LOp.assign rfl rfl) ?_
        refine LOps.nil ?_
        refine thn_n ?_
        refine LW.seq ?_
        refine LW.region ?_
        refine LOps.st rfl rfl rfl (LOp.move rfl rfl) ?_
        refine LOps.st rfl rfl rfl (LOp.move rfl rfl) ?_
        obtain ⟨v9, h_v9, hr⟩ := bind_get hr
        refine LOps.st rfl rfl rfl (LOp.call rfl rfl rfl (by kernel_rfl) (LC.pure (c61 h_v9) (.cons Conv.p (.cons Conv.p .nil)))) ?_
        refine LOps.st rfl rfl rfl (LOp.assign rfl rfl) ?_
        refine LOps.nil ?_
        refine thn_n ?_
        refine LW.seq ?_
        refine LW.seq ?_
        refine LW.region ?_
        refine LOps.st rfl rfl rfl (LOp.move rfl rfl) ?_
        refine LOps.st rfl rfl rfl (LOp.lenM rfl rfl (by kernel_rfl)) ?_
        refine LOps.st rfl rfl rfl (LOp.move rfl rfl) ?_
        refine LOps.st rfl rfl rfl (LOp.lenM rfl rfl (by kernel_rfl)) ?_
        refine LOps.st rfl rfl rfl (LOp.bin rfl rfl rfl rfl) ?_
        refine LOps.nil ?_
        refine thn_n ?_
        refine LW.cond rfl (fun (g6 : ((v8.length : Int) != (v9.length : Int)) = true) => ?_) (fun (g6 : ((v8.length : Int) != (v9.length : Int)) = false) => ?_)
        · -- g6 is True
          have hr := ite_t g6 hr
          refine LW.seq ?_
          refine LW.region ?_
          refine LOps.st rfl rfl rfl (LOp.assign rfl rfl) ?_
          refine LOps.nil ?_
          refine thn_n ?_
          refine LW.ret ?_
          refine thn_r ?_
          obtain rfl := Option.some.inj hr
          refine finP_ret (.one (.tmp rfl)) ?_
          exact Conv.p
        · -- g6 is False
          have hr := ite_f g6 hr
          refine LW.skip ?_
          refine thn_n ?_
          refine LW.seq ?_
          refine LW.seq ?_
          refine LW.region ?_
          refine LOps.st rfl rfl rfl (LOp.assign rfl rfl) ?_
          refine LOps.nil ?_
          refine thn_n ?_
          obtain ⟨b_v10, hb_v10, ho_v10⟩ := bind_get hr
          clear hr
          refine LW.tailB (b := b_v10) (E := fun v10 => [(6, .p (.bool false))]) (O := fun v10 => []) ?_ (fun v10 e_v10 env_v10 H_v10 hw_v10 => ?_)
          · refine LW.block ?_
            refine LW.iterB (E := fun x1 : F16_L1 => [(6, .p (.bool false)), (8, .p (.slice 1 (v8.map i64P))), (9, .p (.slice 1 (v9.map i64P))), (10, .p (.int .i64 x1.k))]) (O := fun x1 => []) hb_v10 (Weak.of 0 ⟨rfl, rfl, rfl, rfl, trivial⟩ rfl rfl rfl rfl) (fun x1 z_x1 hr hb_x1 => ?_)
            unfold F16_s1 at hr
            refine LW.seq ?_
            refine LW.seq ?_
            refine LW.region ?_
            refine LOps.st rfl rfl rfl (LOp.move rfl rfl) ?_
            refine LOps.st rfl rfl rfl (LOp.move rfl rfl) ?_
            refine LOps.st rfl rfl rfl (LOp.lenM rfl rfl (by kernel_rfl)) ?_
            refine LOps.st rfl rfl rfl (LOp.bin rfl rfl rfl rfl) ?_
            refine LOps.nil ?_
            refine thn_n ?_
            refine LW.cond rfl (fun (g7 : (decide (x1.k < (v8.length : Int))) = true) => ?_) (fun (g7 : (decide (x1.k < (v8.length : Int))) = false) => ?_)
            · -- g7 is True
              have hr := ite_t g7 hr
              refine LW.skip ?_
              refine thn_n ?_
              refine LW.seq ?_
              refine LW.block ?_
              refine LW.seq ?_
              refine LW.draw (by kernel_rfl) (by kernel_rfl) ?_
              refine LO.st rfl rfl rfl (LOp.move rfl rfl) ?_
              refine LO.st rfl rfl rfl (LOp.move rfl rfl) ?_
              obtain ⟨y1, h_y1, hr⟩ := bind_get hr
              refine LO.st rfl rfl rfl (LOp.indexAddrX rfl rfl rfl st49 h_y1 rfl) ?_
              refine LO.st rfl rfl rfl (LOp.loadC rfl rfl rfl vt3 rfl rfl) ?_
              refine LO.st rfl rfl rfl (LOp.move rfl rfl) ?_
              refine LO.st rfl rfl rfl (LOp.move rfl rfl) ?_
              obtain ⟨y2, h_y2, hr⟩ := bind_get hr
              refine LO.st rfl rfl rfl (LOp.indexAddrX rfl rfl rfl st49 h_y2 rfl) ?_
              refine LO.st rfl rfl rfl (LOp.loadC rfl rfl rfl vt3 rfl rfl) ?_
              refine LO.st rfl rfl rfl (LOp.bin rfl rfl rfl rfl) ?_
              refine LO.nil ?_
              refine thn_n ?_
              refine LW.cond rfl (fun (g8 : (y1 != y2) = true) => ?_) (fun (g8 : (y1 != y2) = false) => ?_)
              · -- g8 is True
                have hr := ite_t g8 hr
                refine LW.seq ?_
                refine LW.region ?_
                refine LOps.st rfl rfl rfl (LOp.assign rfl rfl) ?_
                refine LOps.nil ?_
                refine thn_n ?_
                refine LW.ret ?_
                refine inBlk_r ?_
                refine thn_r ?_
                refine thn_r ?_
                refine inBlk_r ?_
                refine thn_r ?_
                refine thn_r ?_
                obtain rfl := Option.some.inj hr
                have hr := congrArg some (hb_x1 _ rfl)
                obtain rfl := Option.some.inj hr
                have hr := sum_r ho_v10
                obtain rfl := Option.some.inj hr
                refine finP_ret (.one (.tmp rfl)) ?_
                exact Conv.p
              · -- g8 is False
                have hr := ite_f g8 hr
                refine LW.skip ?_
                refine inBlk_n ?_
                refine thn_n ?_
                refine LW.region ?_
                refine LOps.st rfl rfl rfl (LOp.move rfl rfl) ?_
                refine LOps.st rfl rfl rfl (LOp.bin rfl rfl rfl rfl) ?_
                refine LOps.st rfl rfl rfl (LOp.assign rfl rfl) ?_
                refine LOps.nil ?_
                refine thn_n ?_
                obtain rfl := Option.some.inj hr
                exact ⟨_, rfl, Weak.of 0 ⟨rfl, rfl, rfl, rfl, trivial⟩ rfl rfl rfl rfl⟩
            · -- g7 is False
              have hr := ite_f g7 hr
              refine LW.exit ?_
              refine thn_e ?_
              refine thn_e ?_
              refine inBlk_self ?_
              refine thn_n ?_
              obtain rfl := Option.some.inj hr
              have hr := congrArg some (hb_x1 _ rfl)
              obtain rfl := Option.some.inj hr
              exact ⟨_, rfl, Weak.of 0 ⟨rfl, trivial⟩ rfl rfl rfl rfl⟩
          · obtain rfl := e_v10
            have hr := sum_l ho_v10
            clear hb_v10
            refine thn_n ?_
            refine LW.weak hw_v10 ?_
            refine LW.seq ?_
            refine LW.region ?_
            refine LOps.st rfl rfl rfl (LOp.assign rfl rfl) ?_
            refine LOps.nil ?_
            refine thn_n ?_
            refine LW.ret ?_
            obtain rfl := Option.some.inj hr
            refine finP_ret (.one (.tmp rfl)) ?_
            exact Conv.p

/-! marigold/marigoldlaw04.ShuffleBack -/

def F17 (seed : Int) (n : Int) (i : Int) : Option Bool :=
  (F55 ).bind fun v1 =>
  (F56 seed n i).bind fun v2 =>
  (F58 seed n i).bind fun v3 =>
  (
    bif decide (n < 1) then
      some true
    else
      bif decide (n > 1000) then
        some true
      else
        bif decide (i < 0) then
          some true
        else
          some (decide (i ≥ n))
  ).bind fun v4 =>
  bif v4 then
    (
      bif v1 then
        bif v2 == (-1) then
          some (v3 == (-1))
        else
          some false
      else
        some false
    ).bind fun v5 =>
    some v5
  else
    bif v1 then
      bif decide (v2 ≥ 0) then
        bif decide (v2 < n) then
          bif decide (v3 ≥ 0) then
            bif decide (v3 < n) then
              (F58 seed n v2).bind fun v6 =>
              bif v6 == i then
                (F56 seed n v3).bind fun v7 =>
                some (v7 == i)
              else
                some false
            else
              some false
          else
            some false
        else
          some false
      else
        some false
    else
      some false

set_option maxRecDepth 100000 in
theorem c17 {seed : Int} {n : Int} {i : Int} {r_ : Bool} (hr : F17 seed n i = some r_) : LPure Try.prog 17 [.int .u64 seed, .int .i64 n, .int .i64 i] [.bool r_] := by
  refine LPure.start Try.func17 rfl rfl rfl rfl ?_
  unfold F17 at hr
  refine LW.seq ?_
  refine LW.region ?_
  refine LOps.st rfl rfl rfl (LOp.assign rfl rfl) ?_
  refine LOps.nil ?_
  refine thn_n ?_
  refine LW.seq ?_
  refine LW.region ?_
  obtain ⟨v1, h_v1, hr⟩ := bind_get hr
  refine LOps.st rfl rfl rfl (LOp.call rfl rfl rfl (by kernel_rfl) (LC.pure (c55 h_v1) .nil)) ?_
  refine LOps.st rfl rfl rfl (LOp.assign rfl rfl) ?_
  refine LOps.nil ?_
  refine thn_n ?_
  refine LW.seq ?_
  refine LW.region ?_
  refine LOps.st rfl rfl rfl (LOp.move rfl rfl) ?_
  refine LOps.st rfl rfl rfl (LOp.move rfl rfl) ?_
  refine LOps.st rfl rfl rfl (LOp.move rfl rfl) ?_
  obtain ⟨v2, h_v2, hr⟩ := bind_get hr
  refine LOps.st rfl rfl rfl (LOp.call rfl rfl rfl (by kernel_rfl) (LC.pure (c56 h_v2) (.cons Conv.p (.cons Conv.p (.cons Conv.p .nil))))) ?_
  refine LOps.st rfl rfl rfl (LOp.assign rfl rfl) ?_
  refine LOps.nil ?_
  refine thn_n ?_
  refine LW.seq ?_
  refine LW.region ?_
  refine LOps.st rfl rfl rfl (LOp.move rfl rfl) ?_
  refine LOps.st rfl rfl rfl (LOp.move rfl rfl) ?_
  refine LOps.st rfl rfl rfl (LOp.move rfl rfl) ?_
  obtain ⟨v3, h_v3, hr⟩ := bind_get hr
  refine LOps.st rfl rfl rfl (LOp.call rfl rfl rfl (by kernel_rfl) (LC.pure (c58 h_v3) (.cons Conv.p (.cons Conv.p (.cons Conv.p .nil))))) ?_
  refine LOps.st rfl rfl rfl (LOp.assign rfl rfl) ?_
  refine LOps.nil ?_
  refine thn_n ?_
  refine LW.seq ?_
  obtain ⟨v4, hb_v4, ho_v4⟩ := bind_get hr
  clear hr
  refine LW.cut (E := [(0, .p (.int .u64 seed)), (1, .p (.int .i64 n)), (2, .p (.int .i64 i)), (6, .p (.bool false)), (7, .p (.bool v1)), (8, .p (.int .i64 v2)), (9, .p (.int .i64 v3)), (33, .p (.bool v4))]) (O := []) ?_ ?_
  · have hr := hb_v4
    refine LW.region ?_
    refine LOps.st rfl rfl rfl (LOp.move rfl rfl) ?_
    refine LOps.st rfl rfl rfl (LOp.bin rfl rfl rfl rfl) ?_
    refine LOps.st rfl rfl rfl (LOp.move rfl rfl) ?_
    refine LOps.cases 21 rfl (fun (g1 : (decide (n < 1)) = true) => ?_) (fun (g1 : (decide (n < 1)) = false) => ?_)
    · -- g1 is True
      have hr := ite_t g1 hr
      refine LOps.sk rfl rfl rfl (gd g1 rfl) rfl rfl ?_
      refine LOps.sk rfl rfl rfl (gd g1 rfl) rfl rfl ?_
      refine LOps.st rfl rfl rfl (LOp.pickT rfl (gdl g1 rfl) rfl) ?_
      refine LOps.st rfl rfl rfl (LOp.move rfl rfl) ?_
      refine LOps.sk rfl rfl rfl rfl rfl rfl ?_
      refine LOps.sk rfl rfl rfl rfl rfl rfl ?_
      refine LOps.st rfl rfl rfl (LOp.pickT rfl rfl rfl) ?_
      refine LOps.st rfl rfl rfl (LOp.move rfl rfl) ?_
      refine LOps.sk rfl rfl rfl rfl rfl rfl ?_
      refine LOps.sk rfl rfl rfl rfl rfl rfl ?_
      refine LOps.sk rfl rfl rfl rfl rfl rfl ?_
      refine LOps.st rfl rfl rfl (LOp.pickT rfl rfl rfl) ?_
      refine LOps.nil ?_
      refine thn_n ?_
      obtain rfl := Option.some.inj hr
      exact Weak.of 0 ⟨rfl, rfl, rfl, rfl, rfl, rfl, rfl, rfl, trivial⟩ rfl rfl rfl rfl
    · -- g1 is False
      have hr := ite_f g1 hr
      refine LOps.gd rfl rfl rfl (gd g1 rfl) rfl (LOp.move rfl rfl) ?_
      refine LOps.gd rfl rfl rfl (gd g1 rfl) rfl (LOp.bin rfl rfl rfl rfl) ?_
      refine LOps.st rfl rfl rfl (LOp.pickF rfl (gdl g1 rfl) rfl) ?_
      refine LOps.st rfl rfl rfl (LOp.move rfl rfl) ?_
      refine LOps.cases 25 rfl (fun (g2 : (decide (n > 1000)) = true) => ?_) (fun (g2 : (decide (n > 1000)) = false) => ?_)
      · -- g2 is True
        have hr := ite_t g2 hr
        refine LOps.sk rfl rfl rfl (gd g2 rfl) rfl rfl ?_
        refine LOps.sk rfl rfl rfl (gd g2 rfl) rfl rfl ?_
        refine LOps.st rfl rfl rfl (LOp.pickT rfl (gdl g2 rfl) rfl) ?_
        refine LOps.st rfl rfl rfl (LOp.move rfl rfl) ?_
        refine LOps.sk rfl rfl rfl rfl rfl rfl ?_
        refine LOps.sk rfl rfl rfl rfl rfl rfl ?_
        refine LOps.sk rfl rfl rfl rfl rfl rfl ?_
        refine LOps.st rfl rfl rfl (LOp.pickT rfl rfl rfl) ?_
        refine LOps.nil ?_
        refine thn_n ?_
        obtain rfl := Option.some.inj hr
        exact Weak.of 0 ⟨rfl, rfl, rfl, rfl, rfl, rfl, rfl, rfl, trivial⟩ rfl rfl rfl rfl
      · -- g2 is False
        have hr := ite_f g2 hr
        refine LOps.gd rfl rfl rfl (gd g2 rfl) rfl (LOp.move rfl rfl) ?_
        refine LOps.gd rfl rfl rfl (gd g2 rfl) rfl (LOp.bin rfl rfl rfl rfl) ?_
        refine LOps.st rfl rfl rfl (LOp.pickF rfl (gdl g2 rfl) rfl) ?_
        refine LOps.st rfl rfl rfl (LOp.move rfl rfl) ?_
        refine LOps.cases 29 rfl (fun (g3 : (decide (i < 0)) = true) => ?_) (fun (g3 : (decide (i < 0)) = false) => ?_)
        · -- g3 is True
          have hr := ite_t g3 hr
          refine LOps.sk rfl rfl rfl (gd g3 rfl) rfl rfl ?_
          refine LOps.sk rfl rfl rfl (gd g3 rfl) rfl rfl ?_
          refine LOps.sk rfl rfl rfl (gd g3 rfl) rfl rfl ?_
          refine LOps.st rfl rfl rfl (LOp.pickT rfl (gdl g3 rfl) rfl) ?_
          refine LOps.nil ?_
          refine thn_n ?_
          obtain rfl := Option.some.inj hr
          exact Weak.of 0 ⟨rfl, rfl, rfl, rfl, rfl, rfl, rfl, rfl, trivial⟩ rfl rfl rfl rfl
        · -- g3 is False
          have hr := ite_f g3 hr
          refine LOps.gd rfl rfl rfl (gd g3 rfl) rfl (LOp.move rfl rfl) ?_
          refine LOps.gd rfl rfl rfl (gd g3 rfl) rfl (LOp.move rfl rfl) ?_
          refine LOps.gd rfl rfl rfl (gd g3 rfl) rfl (LOp.bin rfl rfl rfl rfl) ?_
          refine LOps.st rfl rfl rfl (LOp.pickF rfl (gdl g3 rfl) rfl) ?_
          refine LOps.nil ?_
          refine thn_n ?_
          obtain rfl := Option.some.inj hr
          exact Weak.of 0 ⟨rfl, rfl, rfl, rfl, rfl, rfl, rfl, rfl, trivial⟩ rfl rfl rfl rfl
  · have hr := ho_v4
    clear hb_v4
    refine LW.cond rfl (fun (g4 : v4 = true) => ?_) (fun (g4 : v4 = false) => ?_)
    · -- g4 is True
      have hr := ite_t g4 hr
      obtain ⟨v5, hb_v5, ho_v5⟩ := bind_get hr
      clear hr
      refine LW.cut (E := [(0, .p (.int .u64 seed)), (1, .p (.int .i64 n)), (2, .p (.int .i64 i)), (6, .p (.bool v5)), (7, .p (.bool v1)), (8, .p (.int .i64 v2)), (9, .p (.int .i64 v3))]) (O := []) ?_ ?_
      · have hr := hb_v5
        refine LW.region ?_
        refine LOps.st rfl rfl rfl (LOp.move rfl rfl) ?_
        refine LOps.st rfl rfl rfl (LOp.move rfl rfl) ?_
        refine LOps.cases 35 rfl (fun (g5 : v1 = true) => ?_) (fun (g5 : v1 = false) => ?_)
        · -- g5 is True
          have hr := ite_t g5 hr
          refine LOps.gd rfl rfl rfl (gd g5 rfl) rfl (LOp.move rfl rfl) ?_
          refine LOps.gd rfl rfl rfl (gd g5 rfl) rfl (LOp.bin rfl rfl rfl rfl) ?_
          refine LOps.st rfl rfl rfl (LOp.pickT rfl (gdl g5 rfl) rfl) ?_
          refine LOps.st rfl rfl rfl (LOp.move rfl rfl) ?_
          refine LOps.cases 39 rfl (fun (g6 : (v2 == (-1)) = true) => ?_) (fun (g6 : (v2 == (-1)) = false) => ?_)
          · -- g6 is True
            have hr := ite_t g6 hr
            refine LOps.gd rfl rfl rfl (gd g6 rfl) rfl (LOp.move rfl rfl) ?_
            refine LOps.gd rfl rfl rfl (gd g6 rfl) rfl (LOp.bin rfl rfl rfl rfl) ?_
            refine LOps.st rfl rfl rfl (LOp.pickT rfl (gdl g6 rfl) rfl) ?_
            refine LOps.st rfl rfl rfl (LOp.assign rfl rfl) ?_
            refine LOps.nil ?_
            refine thn_n ?_
            obtain rfl := Option.some.inj hr
            exact Weak.of 0 ⟨rfl, rfl, rfl, rfl, rfl, rfl, rfl, trivial⟩ rfl rfl rfl rfl
          · -- g6 is False
            have hr := ite_f g6 hr
            refine LOps.sk rfl rfl rfl (gd g6 rfl) rfl rfl ?_
            refine LOps.sk rfl rfl rfl (gd g6 rfl) rfl rfl ?_
            refine LOps.st rfl rfl rfl (LOp.pickF rfl (gdl g6 rfl) rfl) ?_
            refine LOps.st rfl rfl rfl (LOp.assign rfl rfl) ?_
            refine LOps.nil ?_
            refine thn_n ?_
            obtain rfl := Option.some.inj hr
            exact Weak.of 0 ⟨rfl, rfl, rfl, rfl, rfl, rfl, rfl, trivial⟩ rfl rfl rfl rfl
        · -- g5 is False
          have hr := ite_f g5 hr
          refine LOps.sk rfl rfl rfl (gd g5 rfl) rfl rfl ?_
          refine LOps.sk rfl rfl rfl (gd g5 rfl) rfl rfl ?_
          refine LOps.st rfl rfl rfl (LOp.pickF rfl (gdl g5 rfl) rfl) ?_
          refine LOps.st rfl rfl rfl (LOp.move rfl rfl) ?_
          refine LOps.sk rfl rfl rfl rfl rfl rfl ?_
          refine LOps.sk rfl rfl rfl rfl rfl rfl ?_
          refine LOps.st rfl rfl rfl (LOp.pickF rfl rfl rfl) ?_
          refine LOps.st rfl rfl rfl (LOp.assign rfl rfl) ?_
          refine LOps.nil ?_
          refine thn_n ?_
          obtain rfl := Option.some.inj hr
          exact Weak.of 0 ⟨rfl, rfl, rfl, rfl, rfl, rfl, rfl, trivial⟩ rfl rfl rfl rfl
      · have hr := ho_v5
        clear hb_v5
        refine LW.ret ?_
        refine thn_r ?_
        obtain rfl := Option.some.inj hr
        refine finP_ret (.one (.tmp rfl)) ?_
        exact Conv.p
    · -- g4 is False
      have hr := ite_f g4 hr
      refine LW.skip ?_
      refine thn_n ?_
      refine LW.seq ?_
      refine LW.region ?_
      refine LOps.st rfl rfl rfl (LOp.move rfl rfl) ?_
      refine LOps.st rfl rfl rfl (LOp.move rfl rfl) ?_
      refine LOps.cases 44 rfl (fun (g7 : v1 = true) => ?_) (fun (g7 : v1 = false) => ?_)
      · -- g7 is True
        have hr := ite_t g7 hr
        refine LOps.gd rfl rfl rfl (gd g7 rfl) rfl (LOp.move rfl rfl) ?_
        refine LOps.gd rfl rfl rfl (gd g7 rfl) rfl (LOp.bin rfl rfl rfl rfl) ?_
        refine LOps.st rfl rfl rfl (LOp.pickT rfl (gdl g7 rfl) rfl) ?_
        refine LOps.st rfl rfl rfl (LOp.move rfl rfl) ?_
        refine LOps.cases 48 rfl (fun (g8 : (decide (v2 ≥ 0)) = true) => ?_) (fun (g8 : (decide (v2 ≥ 0)) = false) => ?_)
        · -- g8 is True
          have hr := ite_t g8 hr
          refine LOps.gd rfl rfl rfl (gd g8 rfl) rfl (LOp.move rfl rfl) ?_
          refine LOps.gd rfl rfl rfl (gd g8 rfl) rfl (LOp.move rfl rfl) ?_
          refine LOps.gd rfl rfl rfl (gd g8 rfl) rfl (LOp.bin rfl rfl rfl rfl) ?_
          refine LOps.st rfl rfl rfl (LOp.pickT rfl (gdl g8 rfl) rfl) ?_
          refine LOps.st rfl rfl rfl (LOp.move rfl rfl) ?_
          refine LOps.cases 53 rfl (fun (g9 : (decide (v2 < n)) = true) => ?_) (fun (g9 : (decide (v2 < n)) = false) => ?_)
          · -- g9 is True
            have hr := ite_t g9 hr
            refine LOps.gd rfl rfl rfl (gd g9 rfl) rfl (LOp.move rfl rfl) ?_
            refine LOps.gd rfl rfl rfl (gd g9 rfl) rfl (LOp.bin rfl rfl rfl rfl) ?_
            refine LOps.st rfl rfl rfl (LOp.pickT rfl (gdl g9 rfl) rfl) ?_
            refine LOps.st rfl rfl rfl (LOp.move rfl rfl) ?_
            refine LOps.cases 57 rfl (fun (g10 : (decide (v3 ≥ 0)) = true) => ?_) (fun (g10 : (decide (v3 ≥ 0)) = false) => ?_)
            · -- g10 is True
              have hr := ite_t g10 hr
              refine LOps.gd rfl rfl rfl (gd g10 rfl) rfl (LOp.move rfl rfl) ?_
              refine LOps.gd rfl rfl rfl (gd g10 rfl) rfl (LOp.move rfl rfl) ?_
              refine LOps.gd rfl rfl rfl (gd g10 rfl) rfl (LOp.bin rfl rfl rfl rfl) ?_
              refine LOps.st rfl rfl rfl (LOp.pickT rfl (gdl g10 rfl) rfl) ?_
              refine LOps.st rfl rfl rfl (LOp.move rfl rfl) ?_
              refine LOps.cases 62 rfl (fun (g11 : (decide (v3 < n)) = true) => ?_) (fun (g11 : (decide (v3 < n)) = false) => ?_)
              · -- g11 is True
                have hr := ite_t g11 hr
                refine LOps.gd rfl rfl rfl (gd g11 rfl) rfl (LOp.move rfl rfl) ?_
                refine LOps.gd rfl rfl rfl (gd g11 rfl) rfl (LOp.move rfl rfl) ?_
                refine LOps.gd rfl rfl rfl (gd g11 rfl) rfl (LOp.move rfl rfl) ?_
                obtain ⟨v6, h_v6, hr⟩ := bind_get hr
                refine LOps.gd rfl rfl rfl (gd g11 rfl) rfl (LOp.call rfl rfl rfl (by kernel_rfl) (LC.pure (c58 h_v6) (.cons Conv.p (.cons Conv.p (.cons Conv.p .nil))))) ?_
                refine LOps.gd rfl rfl rfl (gd g11 rfl) rfl (LOp.move rfl rfl) ?_
                refine LOps.gd rfl rfl rfl (gd g11 rfl) rfl (LOp.bin rfl rfl rfl rfl) ?_
                refine LOps.st rfl rfl rfl (LOp.pickT rfl (gdl g11 rfl) rfl) ?_
                refine LOps.st rfl rfl rfl (LOp.move rfl rfl) ?_
                refine LOps.cases 70 rfl (fun (g12 : (v6 == i) = true) => ?_) (fun (g12 : (v6 == i) = false) => ?_)
                · -- g12 is True
                  have hr := ite_t g12 hr
                  refine LOps.gd rfl rfl rfl (gd g12 rfl) rfl (LOp.move rfl rfl) ?_
                  refine LOps.gd rfl rfl rfl (gd g12 rfl) rfl (LOp.move rfl rfl) ?_
                  refine LOps.gd rfl rfl rfl (gd g12 rfl) rfl (LOp.move rfl rfl) ?_
                  obtain ⟨v7, h_v7, hr⟩ := bind_get hr
                  refine LOps.gd rfl rfl rfl (gd g12 rfl) rfl (LOp.call rfl rfl rfl (by kernel_rfl) (LC.pure (c56 h_v7) (.cons Conv.p (.cons Conv.p (.cons Conv.p .nil))))) ?_
                  refine LOps.gd rfl rfl rfl (gd g12 rfl) rfl (LOp.move rfl rfl) ?_
                  refine LOps.gd rfl rfl rfl (gd g12 rfl) rfl (LOp.bin rfl rfl rfl rfl) ?_
                  refine LOps.st rfl rfl rfl (LOp.pickT rfl (gdl g12 rfl) rfl) ?_
                  refine LOps.st rfl rfl rfl (LOp.assign rfl rfl) ?_
                  refine LOps.nil ?_
                  refine thn_n ?_
                  refine LW.ret ?_
                  obtain rfl := Option.some.inj hr
                  refine finP_ret (.one (.tmp rfl)) ?_
                  exact Conv.p
                · -- g12 is False
                  have hr := ite_f g12 hr
                  refine LOps.sk rfl rfl rfl (gd g12 rfl) rfl rfl ?_
                  refine LOps.sk rfl rfl rfl (gd g12 rfl) rfl rfl ?_
                  refine LOps.sk rfl rfl rfl (gd g12 rfl) rfl rfl ?_
                  refine LOps.sk rfl rfl rfl (gd g12 rfl) rfl rfl ?_
                  refine LOps.sk rfl rfl rfl (gd g12 rfl) rfl rfl ?_
                  refine LOps.sk rfl rfl rfl (gd g12 rfl) rfl rfl ?_
                  refine LOps.st rfl rfl rfl (LOp.pickF rfl (gdl g12 rfl) rfl) ?_
                  refine LOps.st rfl rfl rfl (LOp.assign rfl rfl) ?_
                  refine LOps.nil ?_
                  refine thn_n ?_
                  refine LW.ret ?_
                  obtain rfl := Option.some.inj hr
                  refine finP_ret (.one (.tmp rfl)) ?_
                  exact Conv.p
              · -- g11 is False
                have hr := ite_f g11 hr
                refine LOps.sk rfl rfl rfl (gd g11 rfl) rfl rfl ?_
                refine LOps.sk rfl rfl rfl (gd g11 rfl) rfl rfl ?_
                refine LOps.sk rfl rfl rfl (gd g11 rfl) rfl rfl ?_
                refine LOps.sk rfl rfl rfl (gd g11 rfl) rfl rfl ?_
                refine LOps.sk rfl rfl rfl (gd g11 rfl) rfl rfl ?_
                refine LOps.sk rfl rfl rfl (gd g11 rfl) rfl rfl ?_
                refine LOps.st rfl rfl rfl (LOp.pickF rfl (gdl g11 rfl) rfl) ?_
                refine LOps.st rfl rfl rfl (LOp.move rfl rfl) ?_
                refine LOps.sk rfl rfl rfl rfl rfl rfl ?_
                refine LOps.sk rfl rfl rfl rfl rfl rfl ?_
                refine LOps.sk rfl rfl rfl rfl rfl rfl ?_
                refine LOps.sk rfl rfl rfl rfl rfl rfl ?_
                refine LOps.sk rfl rfl rfl rfl rfl rfl ?_
                refine LOps.sk rfl rfl rfl rfl rfl rfl ?_
                refine LOps.st rfl rfl rfl (LOp.pickF rfl rfl rfl) ?_
                refine LOps.st rfl rfl rfl (LOp.assign rfl rfl) ?_
                refine LOps.nil ?_
                refine thn_n ?_
                refine LW.ret ?_
                obtain rfl := Option.some.inj hr
                refine finP_ret (.one (.tmp rfl)) ?_
                exact Conv.p
            · -- g10 is False
              have hr := ite_f g10 hr
              refine LOps.sk rfl rfl rfl (gd g10 rfl) rfl rfl ?_
              refine LOps.sk rfl rfl rfl (gd g10 rfl) rfl rfl ?_
              refine LOps.sk rfl rfl rfl (gd g10 rfl) rfl rfl ?_
              refine LOps.st rfl rfl rfl (LOp.pickF rfl (gdl g10 rfl) rfl) ?_
              refine LOps.st rfl rfl rfl (LOp.move rfl rfl) ?_
              refine LOps.sk rfl rfl rfl rfl rfl rfl ?_
              refine LOps.sk rfl rfl rfl rfl rfl rfl ?_
              refine LOps.sk rfl rfl rfl rfl rfl rfl ?_
              refine LOps.sk rfl rfl rfl rfl rfl rfl ?_
              refine LOps.sk rfl rfl rfl rfl rfl rfl ?_
              refine LOps.sk rfl rfl rfl rfl rfl rfl ?_
              refine LOps.st rfl rfl rfl (LOp.pickF rfl rfl rfl) ?_
              refine LOps.st rfl rfl rfl (LOp.move rfl rfl) ?_
              refine LOps.sk rfl rfl rfl rfl rfl rfl ?_
              refine LOps.sk rfl rfl rfl rfl rfl rfl ?_
              refine LOps.sk rfl rfl rfl rfl rfl rfl ?_
              refine LOps.sk rfl rfl rfl rfl rfl rfl ?_
              refine LOps.sk rfl rfl rfl rfl rfl rfl ?_
              refine LOps.sk rfl rfl rfl rfl rfl rfl ?_
              refine LOps.st rfl rfl rfl (LOp.pickF rfl rfl rfl) ?_
              refine LOps.st rfl rfl rfl (LOp.assign rfl rfl) ?_
              refine LOps.nil ?_
              refine thn_n ?_
              refine LW.ret ?_
              obtain rfl := Option.some.inj hr
              refine finP_ret (.one (.tmp rfl)) ?_
              exact Conv.p
          · -- g9 is False
            have hr := ite_f g9 hr
            refine LOps.sk rfl rfl rfl (gd g9 rfl) rfl rfl ?_
            refine LOps.sk rfl rfl rfl (gd g9 rfl) rfl rfl ?_
            refine LOps.st rfl rfl rfl (LOp.pickF rfl (gdl g9 rfl) rfl) ?_
            refine LOps.st rfl rfl rfl (LOp.move rfl rfl) ?_
            refine LOps.sk rfl rfl rfl rfl rfl rfl ?_
            refine LOps.sk rfl rfl rfl rfl rfl rfl ?_
            refine LOps.sk rfl rfl rfl rfl rfl rfl ?_
            refine LOps.st rfl rfl rfl (LOp.pickF rfl rfl rfl) ?_
            refine LOps.st rfl rfl rfl (LOp.move rfl rfl) ?_
            refine LOps.sk rfl rfl rfl rfl rfl rfl ?_
            refine LOps.sk rfl rfl rfl rfl rfl rfl ?_
            refine LOps.sk rfl rfl rfl rfl rfl rfl ?_
            refine LOps.sk rfl rfl rfl rfl rfl rfl ?_
            refine LOps.sk rfl rfl rfl rfl rfl rfl ?_
            refine LOps.sk rfl rfl rfl rfl rfl rfl ?_
            refine LOps.st rfl rfl rfl (LOp.pickF rfl rfl rfl) ?_
            refine LOps.st rfl rfl rfl (LOp.move rfl rfl) ?_
            refine LOps.sk rfl rfl rfl rfl rfl rfl ?_
            refine LOps.sk rfl rfl rfl rfl rfl rfl ?_
            refine LOps.sk rfl rfl rfl rfl rfl rfl ?_
            refine LOps.sk rfl rfl rfl rfl rfl rfl ?_
            refine LOps.sk rfl rfl rfl rfl rfl rfl ?_
            refine LOps.sk rfl rfl rfl rfl rfl rfl ?_
            refine LOps.st rfl rfl rfl (LOp.pickF rfl rfl rfl) ?_
            refine LOps.st rfl rfl rfl (LOp.assign rfl rfl) ?_
            refine LOps.nil ?_
            refine thn_n ?_
            refine LW.ret ?_
            obtain rfl := Option.some.inj hr
            refine finP_ret (.one (.tmp rfl)) ?_
            exact Conv.p
        · -- g8 is False
          have hr := ite_f g8 hr
          refine LOps.sk rfl rfl rfl (gd g8 rfl) rfl rfl ?_
          refine LOps.sk rfl rfl rfl (gd g8 rfl) rfl rfl ?_
          refine LOps.sk rfl rfl rfl (gd g8 rfl) rfl rfl ?_
          refine LOps.st rfl rfl rfl (LOp.pickF rfl (gdl g8 rfl) rfl) ?_
          refine LOps.st rfl rfl rfl (LOp.move rfl rfl) ?_
          refine LOps.sk rfl rfl rfl rfl rfl rfl ?_
          refine LOps.sk rfl rfl rfl rfl rfl rfl ?_
          refine LOps.st rfl rfl rfl (LOp.pickF rfl rfl rfl) ?_
          refine LOps.st rfl rfl rfl (LOp.move rfl rfl) ?_
          refine LOps.sk rfl rfl rfl rfl rfl rfl ?_
          refine LOps.sk rfl rfl rfl rfl rfl rfl ?_
          refine LOps.sk rfl rfl rfl rfl rfl rfl ?_
          refine LOps.st rfl rfl rfl (LOp.pickF rfl rfl rfl) ?_
          refine LOps.st rfl rfl rfl (LOp.move rfl rfl) ?_
          refine LOps.sk rfl rfl rfl rfl rfl rfl ?_
          refine LOps.sk rfl rfl rfl rfl rfl rfl ?_
          refine LOps.sk rfl rfl rfl rfl rfl rfl ?_
          refine LOps.sk rfl rfl rfl rfl rfl rfl ?_
          refine LOps.sk rfl rfl rfl rfl rfl rfl ?_
          refine LOps.sk rfl rfl rfl rfl rfl rfl ?_
          refine LOps.st rfl rfl rfl (LOp.pickF rfl rfl rfl) ?_
          refine LOps.st rfl rfl rfl (LOp.move rfl rfl) ?_
          refine LOps.sk rfl rfl rfl rfl rfl rfl ?_
          refine LOps.sk rfl rfl rfl rfl rfl rfl ?_
          refine LOps.sk rfl rfl rfl rfl rfl rfl ?_
          refine LOps.sk rfl rfl rfl rfl rfl rfl ?_
          refine LOps.sk rfl rfl rfl rfl rfl rfl ?_
          refine LOps.sk rfl rfl rfl rfl rfl rfl ?_
          refine LOps.st rfl rfl rfl (LOp.pickF rfl rfl rfl) ?_
          refine LOps.st rfl rfl rfl (LOp.assign rfl rfl) ?_
          refine LOps.nil ?_
          refine thn_n ?_
          refine LW.ret ?_
          obtain rfl := Option.some.inj hr
          refine finP_ret (.one (.tmp rfl)) ?_
          exact Conv.p
      · -- g7 is False
        have hr := ite_f g7 hr
        refine LOps.sk rfl rfl rfl (gd g7 rfl) rfl rfl ?_
        refine LOps.sk rfl rfl rfl (gd g7 rfl) rfl rfl ?_
        refine LOps.st rfl rfl rfl (LOp.pickF rfl (gdl g7 rfl) rfl) ?_
        refine LOps.st rfl rfl rfl (LOp.move rfl rfl) ?_
        refine LOps.sk rfl rfl rfl rfl rfl rfl ?_
        refine LOps.sk rfl rfl rfl rfl rfl rfl ?_
        refine LOps.sk rfl rfl rfl rfl rfl rfl ?_
        refine LOps.st rfl rfl rfl (LOp.pickF rfl rfl rfl) ?_
        refine LOps.st rfl rfl rfl (LOp.move rfl rfl) ?_
        refine LOps.sk rfl rfl rfl rfl rfl rfl ?_
        refine LOps.sk rfl rfl rfl rfl rfl rfl ?_
        refine LOps.st rfl rfl rfl (LOp.pickF rfl rfl rfl) ?_
        refine LOps.st rfl rfl rfl (LOp.move rfl rfl) ?_
        refine LOps.sk rfl rfl rfl rfl rfl rfl ?_
        refine LOps.sk rfl rfl rfl rfl rfl rfl ?_
        refine LOps.sk rfl rfl rfl rfl rfl rfl ?_
        refine LOps.st rfl rfl rfl (LOp.pickF rfl rfl rfl) ?_
        refine LOps.st rfl rfl rfl (LOp.move rfl rfl) ?_
        refine LOps.sk rfl rfl rfl rfl rfl rfl ?_
        refine LOps.sk rfl rfl rfl rfl rfl rfl ?_
        refine LOps.sk rfl rfl rfl rfl rfl rfl ?_
        refine LOps.sk rfl rfl rfl rfl rfl rfl ?_
        refine LOps.sk rfl rfl rfl rfl rfl rfl ?_
        refine LOps.sk rfl rfl rfl rfl rfl rfl ?_
        refine LOps.st rfl rfl rfl (LOp.pickF rfl rfl rfl) ?_
        refine LOps.st rfl rfl rfl (LOp.move rfl rfl) ?_
        refine LOps.sk rfl rfl rfl rfl rfl rfl ?_
        refine LOps.sk rfl rfl rfl rfl rfl rfl ?_
        refine LOps.sk rfl rfl rfl rfl rfl rfl ?_
        refine LOps.sk rfl rfl rfl rfl rfl rfl ?_
        refine LOps.sk rfl rfl rfl rfl rfl rfl ?_
        refine LOps.sk rfl rfl rfl rfl rfl rfl ?_
        refine LOps.st rfl rfl rfl (LOp.pickF rfl rfl rfl) ?_
        refine LOps.st rfl rfl rfl (LOp.assign rfl rfl) ?_
        refine LOps.nil ?_
        refine thn_n ?_
        refine LW.ret ?_
        obtain rfl := Option.some.inj hr
        refine finP_ret (.one (.tmp rfl)) ?_
        exact Conv.p

/-! marigold/marigoldlaw04.ShuffleOnly -/
structure F18_L1 where
  i : Int
  seen : List Bool

def F18_s1 (n : Int) (v3 : (List Int)) (x1 : F18_L1) : Option (F18_L1 ⊕ (F18_L1 ⊕ Bool)) :=
  bif decide (x1.i < n) then
    (
      (ix v3 x1.i).bind fun y1 =>
      bif decide (y1 < 0) then
        some true
      else
        (ix v3 x1.i).bind fun y2 =>
        bif decide (y2 ≥ n) then
          some true
        else
          (ix v3 x1.i).bind fun y3 =>
          (ix x1.seen y3).bind fun y4 =>
          some y4
    ).bind fun v5 =>
    bif v5 then
      some (.inr (.inr false))
    else
      (ix v3 x1.i).bind fun y5 =>
      (ix x1.seen y5).bind fun _ =>
      some (.inl (F18_L1.mk (IntKind.i64.wrap (x1.i + 1)) (x1.seen.set y5.toNat true)))
  else
    some (.inr (.inl (F18_L1.mk x1.i x1.seen)))
def F18 (seed : Int) (n : Int) : Option Bool :=
  (F55 ).bind fun v1 =>
  (
    bif !v1 then
      some true
    else
      bif decide (n < 1) then
        some true
      else
        some (decide (n > 60))
  ).bind fun v2 =>
  bif v2 then
    some v1
  else
    (F60 seed n).bind fun v3 =>
    bif (v3.length : Int) != n then
      some false
    else
      bif mkOk n 1 then
        (iter (F18_s1 n v3) big (F18_L1.mk 0 (List.replicate n.toNat (false : Bool)))).bind fun b_v4 => Sum.elim (fun _ =>
          some true) some b_v4
      else none

set_option maxRecDepth 100000 in
theorem c18 {seed : Int} {n : Int} {r_ : Bool} (hr : F18 seed n = some r_) : LPure Try.prog 18 [.int .u64 seed, .int .i64 n] [.bool r_] := by
  refine LPure.start Try.func18 rfl rfl rfl rfl ?_
  unfold F18 at hr
  refine LW.seq ?_
  refine LW.region ?_
  refine LOps.st rfl rfl rfl (LOp.assign rfl rfl) ?_
  refine LOps.nil ?_
  refine thn_n ?_
  refine LW.seq ?_
  refine LW.region ?_
  obtain ⟨v1, h_v1, hr⟩ := bind_get hr
  refine LOps.st rfl rfl rfl (LOp.call rfl rfl rfl (by kernel_rfl) (LC.pure (c55 h_v1) .nil)) ?_
  refine LOps.st rfl rfl rfl (LOp.assign rfl rfl) ?_
  refine LOps.nil ?_
  refine thn_n ?_
  refine LW.seq ?_
  obtain ⟨v2, hb_v2, ho_v2⟩ := bind_get hr
  clear hr
  refine LW.cut (E := [(0, .p (.int .u64 seed)), (1, .p (.int .i64 n)), (4, .p (.bool false)), (5, .p (.bool v1)), (19, .p (.bool v2))]) (O := []) ?_ ?_
  · have hr := hb_v2
    refine LW.region ?_
    refine LOps.st rfl rfl rfl (LOp.move rfl rfl) ?_
    refine LOps.st rfl rfl rfl (LOp.not rfl rfl) ?_
    refine LOps.st rfl rfl rfl (LOp.move rfl rfl) ?_
    refine LOps.cases 12 rfl (fun (g1 : (!v1) = true) => ?_) (fun (g1 : (!v1) = false) => ?_)
    · -- g1 is True
      have hr := ite_t g1 hr
      refine LOps.sk rfl rfl rfl (gd g1 rfl) rfl rfl ?_
      refine LOps.sk rfl rfl rfl (gd g1 rfl) rfl rfl ?_
      refine LOps.st rfl rfl rfl (LOp.pickT rfl (gdl g1 rfl) rfl) ?_
      refine LOps.st rfl rfl rfl (LOp.move rfl rfl) ?_
      refine LOps.sk rfl rfl rfl rfl rfl rfl ?_
      refine LOps.sk rfl rfl rfl rfl rfl rfl ?_
      refine LOps.st rfl rfl rfl (LOp.pickT rfl rfl rfl) ?_
      refine LOps.nil ?_
      refine thn_n ?_
      obtain rfl := Option.some.inj hr
      exact Weak.of 0 ⟨rfl, rfl, rfl, rfl, rfl, trivial⟩ rfl rfl rfl rfl
    · -- g1 is False
      have hr := ite_f g1 hr
      refine LOps.gd rfl rfl rfl (gd g1 rfl) rfl (LOp.move rfl rfl) ?_
      refine LOps.gd rfl rfl rfl (gd g1 rfl) rfl (LOp.bin rfl rfl rfl rfl) ?_
      refine LOps.st rfl rfl rfl (LOp.pickF rfl (gdl g1 rfl) rfl) ?_
      refine LOps.st rfl rfl rfl (LOp.move rfl rfl) ?_
      refine LOps.cases 16 rfl (fun (g2 : (decide (n < 1)) = true) => ?_) (fun (g2 : (decide (n < 1)) = false) => ?_)
      · -- g2 is True
        have hr := ite_t g2 hr
        refine LOps.sk rfl rfl rfl (gd g2 rfl) rfl rfl ?_
        refine LOps.sk rfl rfl rfl (gd g2 rfl) rfl rfl ?_
        refine LOps.st rfl rfl rfl (LOp.pickT rfl (gdl g2 rfl) rfl) ?_
        refine LOps.nil ?_
        refine thn_n ?_
        obtain rfl := Option.some.inj hr
        exact Weak.of 0 ⟨rfl, rfl, rfl, rfl, rfl, trivial⟩ rfl rfl rfl rfl
      · -- g2 is False
        have hr := ite_f g2 hr
        refine LOps.gd rfl rfl rfl (gd g2 rfl) rfl (LOp.move rfl rfl) ?_
        refine LOps.gd rfl rfl rfl (gd g2 rfl) rfl (LOp.bin rfl rfl rfl rfl) ?_
        refine LOps.st rfl rfl rfl (LOp.pickF rfl (gdl g2 rfl) rfl) ?_
        refine LOps.nil ?_
        refine thn_n ?_
        obtain rfl := Option.some.inj hr
        exact Weak.of 0 ⟨rfl, rfl, rfl, rfl, rfl, trivial⟩ rfl rfl rfl rfl
  · have hr := ho_v2
    clear hb_v2
    refine LW.cond rfl (fun (g3 : v2 = true) => ?_) (fun (g3 : v2 = false) => ?_)
    · -- g3 is True
      have hr := ite_t g3 hr
      refine LW.seq ?_
      refine LW.region ?_
      refine LOps.st rfl rfl rfl (LOp.move rfl rfl) ?_
      refine LOps.st rfl rfl rfl (LOp.assign rfl rfl) ?_
      refine LOps.nil ?_
      refine thn_n ?_
      refine LW.ret ?_
      refine thn_r ?_
      obtain rfl := Option.some.inj hr
      refine finP_ret (.one (.tmp rfl)) ?_
      exact Conv.p
    · -- g3 is False
      have hr := ite_f g3 hr
      refine LW.skip ?_
      refine thn_n ?_
      refine LW.seq ?_
      refine LW.region ?_
      refine LOps.st rfl rfl rfl (LOp.move rfl rfl) ?_
      refine LOps.st rfl rfl rfl (LOp.move rfl rfl) ?_
      obtain ⟨v3, h_v3, hr⟩ := bind_get hr
      refine LOps.st rfl rfl rfl (LOp.call rfl rfl rfl (by kernel_rfl) (LC.pure (c60 h_v3) (.cons Conv.p (.cons Conv.p .nil)))) ?_
      refine LOps.st rfl rfl rfl (LOp.assign rfl rfl) ?_
      refine LOps.nil ?_
      refine thn_n ?_
      refine LW.seq ?_
      refine LW.seq ?_
      refine LW.region ?_
      refine LOps.st rfl rfl rfl (LOp.move rfl rfl) ?_
      refine LOps.st rfl rfl rfl (LOp.lenM rfl rfl (by kernel_rfl)) ?_
      refine LOps.st rfl rfl rfl (LOp.move rfl rfl) ?_
      refine LOps.st rfl rfl rfl (LOp.bin rfl rfl rfl rfl) ?_
      refine LOps.nil ?_
      refine thn_n ?_
      refine LW.cond rfl (fun (g4 : ((v3.length : Int) != n) = true) => ?_) (fun (g4 : ((v3.length : Int) != n) = false) => ?_)
      · -- g4 is True
        have hr := ite_t g4 hr
        refine LW.seq ?_
        refine LW.region ?_
        refine LOps.st rfl rfl rfl (LOp.assign rfl rfl) ?_
        refine LOps.nil ?_
        refine thn_n ?_
        refine LW.ret ?_
        refine thn_r ?_
        obtain rfl := Option.some.inj hr
        refine finP_ret (.one (.tmp rfl)) ?_
        exact Conv.p
      · -- g4 is False
        have hr := ite_f g4 hr
        refine LW.skip ?_
        refine thn_n ?_
        refine LW.seq ?_
        refine LW.region ?_
        refine LOps.st rfl rfl rfl (LOp.move rfl rfl) ?_
        obtain ⟨q1, hr⟩ := grd_get hr
        refine LOps.st rfl rfl rfl (LOp.makeSliceX PV.bool false rfl rfl rfl st52 (z := .bool false) (by kernel_rfl) rfl q1 rfl rfl) ?_
        refine LOps.st rfl rfl rfl (LOp.assign rfl rfl) ?_
        refine LOps.nil ?_
        refine thn_n ?_
        refine LW.seq ?_
        refine LW.seq ?_
        refine LW.region ?_
        refine LOps.st rfl rfl rfl (LOp.assign rfl rfl) ?_
        refine LOps.nil ?_
        refine thn_n ?_
        obtain ⟨b_v4, hb_v4, ho_v4⟩ := bind_get hr
        clear hr
        refine LW.tailB (b := b_v4) (E := fun v4 => [(4, .p (.bool false))]) (O := fun v4 => [.vec 1 (v4.seen.map PV.bool)]) ?_ (fun v4 e_v4 env_v4 H_v4 hw_v4 => ?_)
        · refine LW.block ?_
          refine LW.iterB (E := fun x1 : F18_L1 => [(1, .p (.int .i64 n)), (4, .p (.bool false)), (6, .p (.slice 1 (v3.map i64P))), (7, .vec 1 0 (x1.seen.map PV.bool).length 0 (x1.seen.map PV.bool).length), (8, .p (.int .i64 x1.i))]) (O := fun x1 => [.vec 1 (x1.seen.map PV.bool)]) hb_v4 (Weak.of 1 ⟨rfl, rfl, rfl, rfl, rfl, trivial⟩ rfl rfl rfl rfl) (fun x1 z_x1 hr hb_x1 => ?_)
          unfold F18_s1 at hr
          refine LW.seq ?_
          refine LW.seq ?_
          refine LW.region ?_
          refine LOps.st rfl rfl rfl (LOp.move rfl rfl) ?_
          refine LOps.st rfl rfl rfl (LOp.move rfl rfl) ?_
          refine LOps.st rfl rfl rfl (LOp.bin rfl rfl rfl rfl) ?_
          refine LOps.nil ?_
          refine thn_n ?_
          refine LW.cond rfl (fun (g5 : (decide (x1.i < n)) = true) => ?_) (fun (g5 : (decide (x1.i < n)) = false) => ?_)
          · -- g5 is True
            have hr := ite_t g5 hr
            refine LW.skip ?_
            refine thn_n ?_
            refine LW.seq ?_
            refine LW.block ?_
            refine LW.seq ?_
            obtain ⟨v5, hb_v5, ho_v5⟩ := bind_get hr
            clear hr
            refine LW.cut (E := [(1, .p (.int .i64 n)), (4, .p (.bool false)), (6, .p (.slice 1 (v3.map i64P))), (7, .vec 1 0 (x1.seen.map PV.bool).length 0 (x1.seen.map PV.bool).length), (8, .p (.int .i64 x1.i)), (56, .p (.bool v5))]) (O := [.vec 1 (x1.seen.map PV.bool)]) ?_ ?_
            · have hr := hb_v5
              refine LW.region ?_
              refine LOps.st rfl rfl rfl (LOp.move rfl rfl) ?_
              refine LOps.st rfl rfl rfl (LOp.move rfl rfl) ?_
              obtain ⟨y1, h_y1, hr⟩ := bind_get hr
              refine LOps.st rfl rfl rfl (LOp.indexAddrX rfl rfl rfl st49 h_y1 rfl) ?_
              refine LOps.st rfl rfl rfl (LOp.loadC rfl rfl rfl vt3 rfl rfl) ?_
              refine LOps.st rfl rfl rfl (LOp.bin rfl rfl rfl rfl) ?_
              refine LOps.st rfl rfl rfl (LOp.move rfl rfl) ?_
              refine LOps.cases 40 rfl (fun (g6 : (decide (y1 < 0)) = true) => ?_) (fun (g6 : (decide (y1 < 0)) = false) => ?_)
              · -- g6 is True
                have hr := ite_t g6 hr
                refine LOps.sk rfl rfl rfl (gd g6 rfl) rfl rfl ?_
                refine LOps.sk rfl rfl rfl (gd g6 rfl) rfl rfl ?_
                refine LOps.sk rfl rfl rfl (gd g6 rfl) rfl rfl ?_
                refine LOps.sk rfl rfl rfl (gd g6 rfl) rfl rfl ?_
                refine LOps.sk rfl rfl rfl (gd g6 rfl) rfl rfl ?_
                refine LOps.sk rfl rfl rfl (gd g6 rfl) rfl rfl ?_
                refine LOps.st rfl rfl rfl (LOp.pickT rfl (gdl g6 rfl) rfl) ?_
                refine LOps.st rfl rfl rfl (LOp.move rfl rfl) ?_
                refine LOps.sk rfl rfl rfl rfl rfl rfl ?_
                refine LOps.sk rfl rfl rfl rfl rfl rfl ?_
                refine LOps.sk rfl rfl rfl rfl rfl rfl ?_
                refine LOps.sk rfl rfl rfl rfl rfl rfl ?_
                refine LOps.sk rfl rfl rfl rfl rfl rfl ?_
                refine LOps.sk rfl rfl rfl rfl rfl rfl ?_
                refine LOps.sk rfl rfl rfl rfl rfl rfl ?_
                refine LOps.st rfl rfl rfl (LOp.pickT rfl rfl rfl) ?_
                refine LOps.nil ?_
                refine thn_n ?_
                obtain rfl := Option.some.inj hr
                exact Weak.of 1 ⟨rfl, rfl, rfl, rfl, rfl, rfl, trivial⟩ rfl rfl rfl rfl
              · -- g6 is False
                have hr := ite_f g6 hr
                refine LOps.gd rfl rfl rfl (gd g6 rfl) rfl (LOp.move rfl rfl) ?_
                refine LOps.gd rfl rfl rfl (gd g6 rfl) rfl (LOp.move rfl rfl) ?_
                obtain ⟨y2, h_y2, hr⟩ := bind_get hr
                refine LOps.gd rfl rfl rfl (gd g6 rfl) rfl (LOp.indexAddrX rfl rfl rfl st49 h_y2 rfl) ?_
                refine LOps.gd rfl rfl rfl (gd g6 rfl) rfl (LOp.loadC rfl rfl rfl vt3 rfl rfl) ?_
                refine LOps.gd rfl rfl rfl (gd g6 rfl) rfl (LOp.move rfl rfl) ?_
                refine LOps.gd rfl rfl rfl (gd g6 rfl) rfl (LOp.bin rfl rfl rfl rfl) ?_
                refine LOps.st rfl rfl rfl (LOp.pickF rfl (gdl g6 rfl) rfl) ?_
                refine LOps.st rfl rfl rfl (LOp.move rfl rfl) ?_
                refine LOps.cases 48 rfl (fun (g7 : (decide (y2 ≥ n)) = true) => ?_) (fun (g7 : (decide (y2 ≥ n)) = false) => ?_)
                · -- g7 is True
                  have hr := ite_t g7 hr
                  refine LOps.sk rfl rfl rfl (gd g7 rfl) rfl rfl ?_
                  refine LOps.sk rfl rfl rfl (gd g7 rfl) rfl rfl ?_
                  refine LOps.sk rfl rfl rfl (gd g7 rfl) rfl rfl ?_
                  refine LOps.sk rfl rfl rfl (gd g7 rfl) rfl rfl ?_
                  refine LOps.sk rfl rfl rfl (gd g7 rfl) rfl rfl ?_
                  refine LOps.sk rfl rfl rfl (gd g7 rfl) rfl rfl ?_
                  refine LOps.sk rfl rfl rfl (gd g7 rfl) rfl rfl ?_
                  refine LOps.st rfl rfl rfl (LOp.pickT rfl (gdl g7 rfl) rfl) ?_
                  refine LOps.nil ?_
                  refine thn_n ?_
                  obtain rfl := Option.some.inj hr
                  exact Weak.of 1 ⟨rfl, rfl, rfl, rfl, rfl, rfl, trivial⟩ rfl rfl rfl rfl
                · -- g7 is False
                  have hr := ite_f g7 hr
                  refine LOps.gd rfl rfl rfl (gd g7 rfl) rfl (LOp.move rfl rfl) ?_
                  refine LOps.gd rfl rfl rfl (gd g7 rfl) rfl (LOp.move rfl rfl) ?_
                  refine LOps.gd rfl rfl rfl (gd g7 rfl) rfl (LOp.move rfl rfl) ?_
                  obtain ⟨y3, h_y3, hr⟩ := bind_get hr
                  refine LOps.gd rfl rfl rfl (gd g7 rfl) rfl (LOp.indexAddrX rfl rfl rfl st49 h_y3 rfl) ?_
                  refine LOps.gd rfl rfl rfl (gd g7 rfl) rfl (LOp.loadC rfl rfl rfl vt3 rfl rfl) ?_
                  obtain ⟨y4, h_y4, hr⟩ := bind_get hr
                  refine LOps.gd rfl rfl rfl (gd g7 rfl) rfl (LOp.indexAddrVX rfl rfl rfl rfl st52 h_y4) ?_
                  refine LOps.gd rfl rfl rfl (gd g7 rfl) rfl (LOp.loadVX rfl rfl rfl vt4 h_y4 rfl rfl rfl rfl) ?_
                  refine LOps.st rfl rfl rfl (LOp.pickF rfl (gdl g7 rfl) rfl) ?_
                  refine LOps.nil ?_
                  refine thn_n ?_
                  obtain rfl := Option.some.inj hr
                  exact Weak.of 1 ⟨rfl, rfl, rfl, rfl, rfl, rfl, trivial⟩ rfl rfl rfl rfl
            · have hr := ho_v5
              clear hb_v5
              refine LW.cond rfl (fun (g8 : v5 = true) => ?_) (fun (g8 : v5 = false) => ?_)
              · -- g8 is True
                have hr := ite_t g8 hr
                refine LW.seq ?_
                refine LW.region ?_
                refine LOps.st rfl rfl rfl (LOp.assign rfl rfl) ?_
                refine LOps.nil ?_
                refine thn_n ?_
                refine LW.ret ?_
                refine thn_r ?_
                refine inBlk_r ?_
                refine thn_r ?_
                refine thn_r ?_
                refine inBlk_r ?_
                refine thn_r ?_
                refine thn_r ?_
                obtain rfl := Option.some.inj hr
                have hr := congrArg some (hb_x1 _ rfl)
                obtain rfl := Option.some.inj hr
                have hr := sum_r ho_v4
                obtain rfl := Option.some.inj hr
                refine finP_ret (.one (.tmp rfl)) ?_
                exact Conv.p
              · -- g8 is False
                have hr := ite_f g8 hr
                refine LW.skip ?_
                refine thn_n ?_
                refine LW.region ?_
                refine LOps.st rfl rfl rfl (LOp.move rfl rfl) ?_
                refine LOps.st rfl rfl rfl (LOp.move rfl rfl) ?_
                refine LOps.st rfl rfl rfl (LOp.move rfl rfl) ?_
                obtain ⟨y5, h_y5, hr⟩ := bind_get hr
                refine LOps.st rfl rfl rfl (LOp.indexAddrX rfl rfl rfl st49 h_y5 rfl) ?_
                refine LOps.st rfl rfl rfl (LOp.loadC rfl rfl rfl vt3 rfl rfl) ?_
                obtain ⟨y6, h_y6, hr⟩ := bind_get hr
                refine LOps.st rfl rfl rfl (LOp.indexAddrVX rfl rfl rfl rfl st52 h_y6) ?_
                refine LOps.st rfl rfl rfl (LOp.storeVX (f := PV.bool) (l := x1.seen) true rfl rfl rfl rfl vt4 (fun _ => rfl) h_y6 rfl) ?_
                refine LOps.nil ?_
                refine inBlk_n ?_
                refine thn_n ?_
                refine LW.region ?_
                refine LOps.st rfl rfl rfl (LOp.move rfl rfl) ?_
                refine LOps.st rfl rfl rfl (LOp.bin rfl rfl rfl rfl) ?_
                refine LOps.st rfl rfl rfl (LOp.assign rfl rfl) ?_
                refine LOps.nil ?_
                refine thn_n ?_
                obtain rfl := Option.some.inj hr
                exact ⟨_, rfl, Weak.of 1 ⟨rfl, rfl, rfl, (vset (rfl)), rfl, trivial⟩ rfl rfl rfl rfl⟩
          · -- g5 is False
            have hr := ite_f g5 hr
            refine LW.exit ?_
            refine thn_e ?_
            refine thn_e ?_
            refine inBlk_self ?_
            refine thn_n ?_
            obtain rfl := Option.some.inj hr
            have hr := congrArg some (hb_x1 _ rfl)
            obtain rfl := Option.some.inj hr
            exact ⟨_, rfl, Weak.of 1 ⟨rfl, trivial⟩ rfl rfl rfl rfl⟩
        · obtain rfl := e_v4
          have hr := sum_l ho_v4
          clear hb_v4
          refine thn_n ?_
          refine LW.weak hw_v4 ?_
          refine LW.seq ?_
          refine LW.region ?_
          refine LOps.st rfl rfl rfl (LOp.assign rfl rfl) ?_
          refine LOps.nil ?_
          refine thn_n ?_
          refine LW.ret ?_
          obtain rfl := Option.some.inj hr
          refine finP_ret (.one (.tmp rfl)) ?_
          exact Conv.p

/-! marigold/marigoldlaw04.ShuffleSums -/
structure F19_L1 where
  sum : Int
  i : Int

def F19_s1 (v3 : (List Int)) (x1 : F19_L1) : Option (F19_L1 ⊕ F19_L1) :=
  bif decide (x1.i < (v3.length : Int)) then
    (ix v3 x1.i).bind fun y1 =>
    some (.inl (F19_L1.mk (IntKind.i64.wrap (x1.sum + y1)) (IntKind.i64.wrap (x1.i + 1))))
  else
    some (.inr (F19_L1.mk x1.sum x1.i))
def F19 (seed : Int) (n : Int) : Option Bool :=
  (F55 ).bind fun v1 =>
  (
    bif !v1 then
      some true
    else
      some (decide (n > 60))
  ).bind fun v2 =>
  bif v2 then
    some v1
  else
    (F60 seed n).bind fun v3 =>
    (iter (F19_s1 v3) big (F19_L1.mk 0 0)).bind fun v4 =>
    bif decide (n < 1) then
      some ((v3.length : Int) == 0)
    else
      bif (IntKind.i64.wrap (2 * v4.sum)) == (IntKind.i64.wrap (n * (IntKind.i64.wrap (n - 1)))) then
        (F56 seed 2 0).bind fun v5 =>
        (F56 seed 2 1).bind fun v6 =>
        some ((IntKind.i64.wrap (v5 + v6)) == 1)
      else
        some false

set_option maxRecDepth 100000 in
theorem c19 {seed : Int} {n : Int} {r_ : Bool} (hr : F19 seed n = some r_) : LPure Try.prog 19 [.int .u64 seed, .int .i64 n] [.bool r_] := by
  refine LPure.start Try.func19 rfl rfl rfl rfl ?_
  unfold F19 at hr
  refine LW.seq ?_
  refine LW.region ?_
  refine LOps.st rfl rfl rfl (LOp.assign rfl rfl) ?_
  refine LOps.nil ?_
  refine thn_n ?_
  refine LW.seq ?_
  refine LW.region ?_
  obtain ⟨v1, h_v1, hr⟩ := bind_get hr
  refine LOps.st rfl rfl rfl (LOp.call rfl rfl rfl (by kernel_rfl) (LC.pure (c55 h_v1) .nil)) ?_
  refine LOps.st rfl rfl rfl (LOp.assign rfl rfl) ?_
  refine LOps.nil ?_
  refine thn_n ?_
  refine LW.seq ?_
  obtain ⟨v2, hb_v2, ho_v2⟩ := bind_get hr
  clear hr
  refine LW.cut (E := [(0, .p (.int .u64 seed)), (1, .p (.int .i64 n)), (4, .p (.bool false)), (5, .p (.bool v1)), (15, .p (.bool v2))]) (O := []) ?_ ?_
  · have hr := hb_v2
    refine LW.region ?_
    refine LOps.st rfl rfl rfl (LOp.move rfl rfl) ?_
    refine LOps.st rfl rfl rfl (LOp.not rfl rfl) ?_
    refine LOps.st rfl rfl rfl (LOp.move rfl rfl) ?_
    refine LOps.cases 12 rfl (fun (g1 : (!v1) = true) => ?_) (fun (g1 : (!v1) = false) => ?_)
    · -- g1 is True
      have hr := ite_t g1 hr
      refine LOps.sk rfl rfl rfl (gd g1 rfl) rfl rfl ?_
      refine LOps.sk rfl rfl rfl (gd g1 rfl) rfl rfl ?_
      refine LOps.st rfl rfl rfl (LOp.pickT rfl (gdl g1 rfl) rfl) ?_
      refine LOps.nil ?_
      refine thn_n ?_
      obtain rfl := Option.some.inj hr
      exact Weak.of 0 ⟨rfl, rfl, rfl, rfl, rfl, trivial⟩ rfl rfl rfl rfl
    · -- g1 is False
      have hr := ite_f g1 hr
      refine LOps.gd rfl rfl rfl (gd g1 rfl) rfl (LOp.move rfl rfl) ?_
      refine LOps.gd rfl rfl rfl (gd g1 rfl) rfl (LOp.bin rfl rfl rfl rfl) ?_
      refine LOps.st rfl rfl rfl (LOp.pickF rfl (gdl g1 rfl) rfl) ?_
      refine LOps.nil ?_
      refine thn_n ?_
      obtain rfl := Option.some.inj hr
      exact Weak.of 0 ⟨rfl, rfl, rfl, rfl, rfl, trivial⟩ rfl rfl rfl rfl
  · have hr := ho_v2
    clear hb_v2
    refine LW.cond rfl (fun (g2 : v2 = true) => ?_) (fun (g2 : v2 = false) => ?_)
    · -- g2 is True
      have hr := ite_t g2 hr
      refine LW.seq ?_
      refine LW.region ?_
      refine LOps.st rfl rfl rfl (LOp.move rfl rfl) ?_
      refine LOps.st rfl rfl rfl (LOp.assign rfl rfl) ?_
      refine LOps.nil ?_
      refine thn_n ?_
      refine LW.ret ?_
      refine thn_r ?_
      obtain rfl := Option.some.inj hr
      refine finP_ret (.one (.tmp rfl)) ?_
      exact Conv.p
    · -- g2 is False
      have hr := ite_f g2 hr
      refine LW.skip ?_
      refine thn_n ?_
      refine LW.seq ?_
      refine LW.region ?_
      refine LOps.st rfl rfl rfl (LOp.move rfl rfl) ?_
      refine LOps.st rfl rfl rfl (LOp.move rfl rfl) ?_
      obtain ⟨v3, h_v3, hr⟩ := bind_get hr
      refine LOps.st rfl rfl rfl (LOp.call rfl rfl rfl (by kernel_rfl) (LC.pure (c60 h_v3) (.cons Conv.p (.cons Conv.p .nil)))) ?_
      refine LOps.st rfl rfl rfl (LOp.assign rfl rfl) ?_
      refine LOps.nil ?_
      refine thn_n ?_
      refine LW.seq ?_
      refine LW.region ?_
      refine LOps.st rfl rfl rfl (LOp.assign rfl rfl) ?_
      refine LOps.nil ?_
      refine thn_n ?_
      refine LW.seq ?_
      refine LW.seq ?_
      refine LW.region ?_
      refine LOps.st rfl rfl rfl (LOp.assign rfl rfl) ?_
      refine LOps.nil ?_
      refine thn_n ?_
      obtain ⟨v4, hb_v4, ho_v4⟩ := bind_get hr
      clear hr
      refine LW.tail (E := [(0, .p (.int .u64 seed)), (1, .p (.int .i64 n)), (4, .p (.bool false)), (6, .p (.slice 1 (v3.map i64P))), (7, .p (.int .i64 v4.sum))]) (O := []) ?_ (fun env_v4 H_v4 hw_v4 => ?_)
      · refine LW.block ?_
        refine LW.iterB (E := fun x1 : F19_L1 => [(0, .p (.int .u64 seed)), (1, .p (.int .i64 n)), (4, .p (.bool false)), (6, .p (.slice 1 (v3.map i64P))), (7, .p (.int .i64 x1.sum)), (8, .p (.int .i64 x1.i))]) (O := fun x1 => []) hb_v4 (Weak.of 0 ⟨rfl, rfl, rfl, rfl, rfl, rfl, trivial⟩ rfl rfl rfl rfl) (fun x1 z_x1 hr hb_x1 => ?_)
        unfold F19_s1 at hr
        refine LW.seq ?_
        refine LW.seq ?_
        refine LW.region ?_
        refine LOps.st rfl rfl rfl (LOp.move rfl rfl) ?_
        refine LOps.st rfl rfl rfl (LOp.move rfl rfl) ?_
        refine LOps.st rfl rfl rfl (LOp.lenM rfl rfl (by kernel_rfl)) ?_
        refine LOps.st rfl rfl rfl (LOp.bin rfl rfl rfl rfl) ?_
        refine LOps.nil ?_
        refine thn_n ?_
        refine LW.cond rfl (fun (g3 : (decide (x1.i < (v3.length : Int))) = true) => ?_) (fun (g3 : (decide (x1.i < (v3.length : Int))) = false) => ?_)
        · -- g3 is True
          have hr := ite_t g3 hr
          refine LW.skip ?_
          refine thn_n ?_
          refine LW.seq ?_
          refine LW.block ?_
          refine LW.region ?_
          refine LOps.st rfl rfl rfl (LOp.move rfl rfl) ?_
          refine LOps.st rfl rfl rfl (LOp.move rfl rfl) ?_
          refine LOps.st rfl rfl rfl (LOp.move rfl rfl) ?_
          obtain ⟨y1, h_y1, hr⟩ := bind_get hr
          refine LOps.st rfl rfl rfl (LOp.indexAddrX rfl rfl rfl st49 h_y1 rfl) ?_
          refine LOps.st rfl rfl rfl (LOp.loadC rfl rfl rfl vt3 rfl rfl) ?_
          refine LOps.st rfl rfl rfl (LOp.bin rfl rfl rfl rfl) ?_
          refine LOps.st rfl rfl rfl (LOp.assign rfl rfl) ?_
          refine LOps.nil ?_
          refine inBlk_n ?_
          refine thn_n ?_
          refine LW.region ?_
          refine LOps.st rfl rfl rfl (LOp.move rfl rfl) ?_
          refine LOps.st rfl rfl rfl (LOp.bin rfl rfl rfl rfl) ?_
          refine LOps.st rfl rfl rfl (LOp.assign rfl rfl) ?_
          refine LOps.nil ?_
          refine thn_n ?_
          obtain rfl := Option.some.inj hr
          exact ⟨_, rfl, Weak.of 0 ⟨rfl, rfl, rfl, rfl, rfl, rfl, trivial⟩ rfl rfl rfl rfl⟩
        · -- g3 is False
          have hr := ite_f g3 hr
          refine LW.exit ?_
          refine thn_e ?_
          refine thn_e ?_
          refine inBlk_self ?_
          refine thn_n ?_
          obtain rfl := Option.some.inj hr
          have hr := congrArg some (hb_x1 _ rfl)
          obtain rfl := Option.some.inj hr
          exact Weak.of 0 ⟨rfl, rfl, rfl, rfl, rfl, trivial⟩ rfl rfl rfl rfl
      · have hr := ho_v4
        clear hb_v4
        refine thn_n ?_
        refine LW.weak hw_v4 ?_
        refine LW.seq ?_
        refine LW.seq ?_
        refine LW.region ?_
        refine LOps.st rfl rfl rfl (LOp.move rfl rfl) ?_
        refine LOps.st rfl rfl rfl (LOp.bin rfl rfl rfl rfl) ?_
        refine LOps.nil ?_
        refine thn_n ?_
        refine LW.cond rfl (fun (g4 : (decide (n < 1)) = true) => ?_) (fun (g4 : (decide (n < 1)) = false) => ?_)
        · -- g4 is True
          have hr := ite_t g4 hr
          refine LW.seq ?_
          refine LW.region ?_
          refine LOps.st rfl rfl rfl (LOp.move rfl rfl) ?_
          refine LOps.st rfl rfl rfl (LOp.lenM rfl rfl (by kernel_rfl)) ?_
          refine LOps.st rfl rfl rfl (LOp.bin rfl rfl rfl rfl) ?_
          refine LOps.st rfl rfl rfl (LOp.assign rfl rfl) ?_
          refine LOps.nil ?_
          refine thn_n ?_
          refine LW.ret ?_
          refine thn_r ?_
          obtain rfl := Option.some.inj hr
          refine finP_ret (.one (.tmp rfl)) ?_
          exact Conv.p
        · -- g4 is False
          have hr := ite_f g4 hr
          refine LW.skip ?_
          refine thn_n ?_
          refine LW.seq ?_
          refine LW.region ?_
          refine LOps.st rfl rfl rfl (LOp.move rfl rfl) ?_
          refine LOps.st rfl rfl rfl (LOp.bin rfl rfl rfl rfl) ?_
          refine LOps.st rfl rfl rfl (LOp.move rfl rfl) ?_
          refine LOps.st rfl rfl rfl (LOp.move rfl rfl) ?_
          refine LOps.st rfl rfl rfl (LOp.bin rfl rfl rfl rfl) ?_
          refine LOps.st rfl rfl rfl (LOp.bin rfl rfl rfl rfl) ?_
          refine LOps.st rfl rfl rfl (LOp.bin rfl rfl rfl rfl) ?_
          refine LOps.st rfl rfl rfl (LOp.move rfl rfl) ?_
          refine LOps.cases 44 rfl (fun (g5 : ((IntKind.i64.wrap (2 * v4.sum)) == (IntKind.i64.wrap (n * (IntKind.i64.wrap (n - 1))))) = true) => ?_) (fun (g5 : ((IntKind.i64.wrap (2 * v4.sum)) == (IntKind.i64.wrap (n * (IntKind.i64.wrap (n - 1))))) = false) => ?_)
          · -- g5 is True
            have hr := ite_t g5 hr
            refine LOps.gd rfl rfl rfl (gd g5 rfl) rfl (LOp.move rfl rfl) ?_
            obtain ⟨v5, h_v5, hr⟩ := bind_get hr
            refine LOps.gd rfl rfl rfl (gd g5 rfl) rfl (LOp.call rfl rfl rfl (by kernel_rfl) (LC.pure (c56 h_v5) (.cons Conv.p (.cons Conv.p (.cons Conv.p .nil))))) ?_
            refine LOps.gd rfl rfl rfl (gd g5 rfl) rfl (LOp.move rfl rfl) ?_
            obtain ⟨v6, h_v6, hr⟩ := bind_get hr
            refine LOps.gd rfl rfl rfl (gd g5 rfl) rfl (LOp.call rfl rfl rfl (by kernel_rfl) (LC.pure (c56 h_v6) (.cons Conv.p (.cons Conv.p (.cons Conv.p .nil))))) ?_
            refine LOps.gd rfl rfl rfl (gd g5 rfl) rfl (LOp.bin rfl rfl rfl rfl) ?_
            refine LOps.gd rfl rfl rfl (gd g5 rfl) rfl (LOp.bin rfl rfl rfl rfl) ?_
            refine LOps.st rfl rfl rfl (LOp.pickT rfl (gdl g5 rfl) rfl) ?_
            refine LOps.st rfl rfl rfl (LOp.assign rfl rfl) ?_
            refine LOps.nil ?_
            refine thn_n ?_
            refine LW.ret ?_
            obtain rfl := Option.some.inj hr
            refine finP_ret (.one (.tmp rfl)) ?_
            exact Conv.p
          · -- g5 is False
            have hr := ite_f g5 hr
            refine LOps.sk rfl rfl rfl (gd g5 rfl) rfl rfl ?_
            refine LOps.sk rfl rfl rfl (gd g5 rfl) rfl rfl ?_
            refine LOps.sk rfl rfl rfl (gd g5 rfl) rfl rfl ?_
            refine LOps.sk rfl rfl rfl (gd g5 rfl) rfl rfl ?_
            refine LOps.sk rfl rfl rfl (gd g5 rfl) rfl rfl ?_
            refine LOps.sk rfl rfl rfl (gd g5 rfl) rfl rfl ?_
            refine LOps.st rfl rfl rfl (LOp.pickF rfl (gdl g5 rfl) rfl) ?_
            refine LOps.st rfl rfl rfl (LOp.assign rfl rfl) ?_
            refine LOps.nil ?_
            refine thn_n ?_
            refine LW.ret ?_
            obtain rfl := Option.some.inj hr
            refine finP_ret (.one (.tmp rfl)) ?_
            exact Conv.p

/-! marigold/marigoldlaw04.ShuffleAll -/

def F20 (seed : Int) (n : Int) (i : Int) : Option Bool :=
  (F55 ).bind fun v1 =>
  (
    bif !v1 then
      some true
    else
      bif decide (n < 1) then
        some true
      else
        bif decide (n > 60) then
          some true
        else
          bif decide (i < 0) then
            some true
          else
            some (decide (i ≥ n))
  ).bind fun v2 =>
  bif v2 then
    some v1
  else
    (F60 seed n).bind fun v3 =>
    bif (v3.length : Int) == n then
      (ix v3 i).bind fun y1 =>
      (F56 seed n i).bind fun v4 =>
      bif y1 == v4 then
        (ix v3 i).bind fun y2 =>
        (F58 seed n y2).bind fun v5 =>
        some (v5 == i)
      else
        some false
    else
      some false

set_option maxRecDepth 100000 in
theorem c20 {seed : Int} {n : Int} {i : Int} {r_ : Bool} (hr : F20 seed n i = some r_) : LPure Try.prog 20 [.int .u64 seed, .int .i64 n, .int .i64 i] [.bool r_] := by
  refine LPure.start Try.func20 rfl rfl rfl rfl ?_
  unfold F20 at hr
  refine LW.seq ?_
  refine LW.region ?_
  refine LOps.st rfl rfl rfl (LOp.assign rfl rfl) ?_
  refine LOps.nil ?_
  refine thn_n ?_
  refine LW.seq ?_
  refine LW.region ?_
  obtain ⟨v1, h_v1, hr⟩ := bind_get hr
  refine LOps.st rfl rfl rfl (LOp.call rfl rfl rfl (by kernel_rfl) (LC.pure (c55 h_v1) .nil)) ?_
  refine LOps.st rfl rfl rfl (LOp.assign rfl rfl) ?_
  refine LOps.nil ?_
  refine thn_n ?_
  refine LW.seq ?_
  obtain ⟨v2, hb_v2, ho_v2⟩ := bind_get hr
  clear hr
  refine LW.cut (E := [(0, .p (.int .u64 seed)), (1, .p (.int .i64 n)), (2, .p (.int .i64 i)), (6, .p (.bool false)), (7, .p (.bool v1)), (28, .p (.bool v2))]) (O := []) ?_ ?_
  · have hr := hb_v2
    refine LW.region ?_
    refine LOps.st rfl rfl rfl (LOp.move rfl rfl) ?_
    refine LOps.st rfl rfl rfl (LOp.not rfl rfl) ?_
    refine LOps.st rfl rfl rfl (LOp.move rfl rfl) ?_
    refine LOps.cases 12 rfl (fun (g1 : (!v1) = true) => ?_) (fun (g1 : (!v1) = false) => ?_)
    · -- g1 is True
      have hr := ite_t g1 hr
      refine LOps.sk rfl rfl rfl (gd g1 rfl) rfl rfl ?_
      refine LOps.sk rfl rfl rfl (gd g1 rfl) rfl rfl ?_
      refine LOps.st rfl rfl rfl (LOp.pickT rfl (gdl g1 rfl) rfl) ?_
      refine LOps.st rfl rfl rfl (LOp.move rfl rfl) ?_
      refine LOps.sk rfl rfl rfl rfl rfl rfl ?_
      refine LOps.sk rfl rfl rfl rfl rfl rfl ?_
      refine LOps.st rfl rfl rfl (LOp.pickT rfl rfl rfl) ?_
      refine LOps.st rfl rfl rfl (LOp.move rfl rfl) ?_
      refine LOps.sk rfl rfl rfl rfl rfl rfl ?_
      refine LOps.sk rfl rfl rfl rfl rfl rfl ?_
      refine LOps.st rfl rfl rfl (LOp.pickT rfl rfl rfl) ?_
      refine LOps.st rfl rfl rfl (LOp.move rfl rfl) ?_
      refine LOps.sk rfl rfl rfl rfl rfl rfl ?_
      refine LOps.sk rfl rfl rfl rfl rfl rfl ?_
      refine LOps.sk rfl rfl rfl rfl rfl rfl ?_
      refine LOps.st rfl rfl rfl (LOp.pickT rfl rfl rfl) ?_
      refine LOps.nil ?_
      refine thn_n ?_
      obtain rfl := Option.some.inj hr
      exact Weak.of 0 ⟨rfl, rfl, rfl, rfl, rfl, rfl, trivial⟩ rfl rfl rfl rfl
    · -- g1 is False
      have hr := ite_f g1 hr
      refine LOps.gd rfl rfl rfl (gd g1 rfl) rfl (LOp.move rfl rfl) ?_
      refine LOps.gd rfl rfl rfl (gd g1 rfl) rfl (LOp.bin rfl rfl rfl rfl) ?_
      refine LOps.st rfl rfl rfl (LOp.pickF rfl (gdl g1 rfl) rfl) ?_
      refine LOps.st rfl rfl rfl (LOp.move rfl rfl) ?_
      refine LOps.cases 16 rfl (fun (g2 : (decide (n < 1)) = true) => ?_) (fun (g2 : (decide (n < 1)) = false) => ?_)
      · -- g2 is True
        have hr := ite_t g2 hr
        refine LOps.sk rfl rfl rfl (gd g2 rfl) rfl rfl ?_
        refine LOps.sk rfl rfl rfl (gd g2 rfl) rfl rfl ?_
        refine LOps.st rfl rfl rfl (LOp.pickT rfl (gdl g2 rfl) rfl) ?_
        refine LOps.st rfl rfl rfl (LOp.move rfl rfl) ?_
        refine LOps.sk rfl rfl rfl rfl rfl rfl ?_
        refine LOps.sk rfl rfl rfl rfl rfl rfl ?_
        refine LOps.st rfl rfl rfl (LOp.pickT rfl rfl rfl) ?_
        refine LOps.st rfl rfl rfl (LOp.move rfl rfl) ?_
        refine LOps.sk rfl rfl rfl rfl rfl rfl ?_
        refine LOps.sk rfl rfl rfl rfl rfl rfl ?_
        refine LOps.sk rfl rfl rfl rfl rfl rfl ?_
        refine LOps.st rfl rfl rfl (LOp.pickT rfl rfl rfl) ?_
        refine LOps.nil ?_
        refine thn_n ?_
        obtain rfl := Option.some.inj hr
        exact Weak.of 0 ⟨rfl, rfl, rfl, rfl, rfl, rfl, trivial⟩ rfl rfl rfl rfl
      · -- g2 is False
        have hr := ite_f g2 hr
        refine LOps.gd rfl rfl rfl (gd g2 rfl) rfl (LOp.move rfl rfl) ?_
        refine LOps.gd rfl rfl rfl (gd g2 rfl) rfl (LOp.bin rfl rfl rfl rfl) ?_
        refine LOps.st rfl rfl rfl (LOp.pickF rfl (gdl g2 rfl) rfl) ?_
        refine LOps.st rfl rfl rfl (LOp.move rfl rfl) ?_
        refine LOps.cases 20 rfl (fun (g3 : (decide (n > 60)) = true) => ?_) (fun (g3 : (decide (n > 60)) = false) => ?_)
        · -- g3 is True
          have hr := ite_t g3 hr
          refine LOps.sk rfl rfl rfl (gd g3 rfl) rfl rfl ?_
          refine LOps.sk rfl rfl rfl (gd g3 rfl) rfl rfl ?_
          refine LOps.st rfl rfl rfl (LOp.pickT rfl (gdl g3 rfl) rfl) ?_
          refine LOps.st rfl rfl rfl (LOp.move rfl rfl) ?_
          refine LOps.sk rfl rfl rfl rfl rfl rfl ?_
          refine LOps.sk rfl rfl rfl rfl rfl rfl ?_
          refine LOps.sk rfl rfl rfl rfl rfl rfl ?_
          refine LOps.st rfl rfl rfl (LOp.pickT rfl rfl rfl) ?_
          refine LOps.nil ?_
          refine thn_n ?_
          obtain rfl := Option.some.inj hr
          exact Weak.of 0 ⟨rfl, rfl, rfl, rfl, rfl, rfl, trivial⟩ rfl rfl rfl rfl
        · -- g3 is False
          have hr := ite_f g3 hr
          refine LOps.gd rfl rfl rfl (gd g3 rfl) rfl (LOp.move rfl rfl) ?_
          refine LOps.gd rfl rfl rfl (gd g3 rfl) rfl (LOp.bin rfl rfl rfl rfl) ?_
          refine LOps.st rfl rfl rfl (LOp.pickF rfl (gdl g3 rfl) rfl) ?_
          refine LOps.st rfl rfl rfl (LOp.move rfl rfl) ?_
          refine LOps.cases 24 rfl (fun (g4 : (decide (i < 0)) = true) => ?_) (fun (g4 : (decide (i < 0)) = false) => ?_)
          · -- g4 is True
            have hr := ite_t g4 hr
            refine LOps.sk rfl rfl rfl (gd g4 rfl) rfl rfl ?_
            refine LOps.sk rfl rfl rfl (gd g4 rfl) rfl rfl ?_
            refine LOps.sk rfl rfl rfl (gd g4 rfl) rfl rfl ?_
            refine LOps.st rfl rfl rfl (LOp.pickT rfl (gdl g4 rfl) rfl) ?_
            refine LOps.nil ?_
            refine thn_n ?_
            obtain rfl := Option.some.inj hr
            exact Weak.of 0 ⟨rfl, rfl, rfl, rfl, rfl, rfl, trivial⟩ rfl rfl rfl rfl
          · -- g4 is False
            have hr := ite_f g4 hr
            refine LOps.gd rfl rfl rfl (gd g4 rfl) rfl (LOp.move rfl rfl) ?_
            refine LOps.gd rfl rfl rfl (gd g4 rfl) rfl (LOp.move rfl rfl) ?_
            refine LOps.gd rfl rfl rfl (gd g4 rfl) rfl (LOp.bin rfl rfl rfl rfl) ?_
            refine LOps.st rfl rfl rfl (LOp.pickF rfl (gdl g4 rfl) rfl) ?_
            refine LOps.nil ?_
            refine thn_n ?_
            obtain rfl := Option.some.inj hr
            exact Weak.of 0 ⟨rfl, rfl, rfl, rfl, rfl, rfl, trivial⟩ rfl rfl rfl rfl
  · have hr := ho_v2
    clear hb_v2
    refine LW.cond rfl (fun (g5 : v2 = true) => ?_) (fun (g5 : v2 = false) => ?_)
    · -- g5 is True
      have hr := ite_t g5 hr
      refine LW.seq ?_
      refine LW.region ?_
      refine LOps.st rfl rfl rfl (LOp.move rfl rfl) ?_
      refine LOps.st rfl rfl rfl (LOp.assign rfl rfl) ?_
      refine LOps.nil ?_
      refine thn_n ?_
      refine LW.ret ?_
      refine thn_r ?_
      obtain rfl := Option.some.inj hr
      refine finP_ret (.one (.tmp rfl)) ?_
      exact Conv.p
    · -- g5 is False
      have hr := ite_f g5 hr
      refine LW.skip ?_
      refine thn_n ?_
      refine LW.seq ?_
      refine LW.region ?_
      refine LOps.st rfl rfl rfl (LOp.move rfl rfl) ?_
      refine LOps.st rfl rfl rfl (LOp.move rfl rfl) ?_
      obtain ⟨v3, h_v3, hr⟩ := bind_get hr
      refine LOps.st rfl rfl rfl (LOp.call rfl rfl rfl (by kernel_rfl) (LC.pure (c60 h_v3) (.cons Conv.p (.cons Conv.p .nil)))) ?_
      refine LOps.st rfl rfl rfl (LOp.assign rfl rfl) ?_
      refine LOps.nil ?_
      refine thn_n ?_
      refine LW.seq ?_
      refine LW.draw (by kernel_rfl) (by kernel_rfl) ?_
      refine LO.st rfl rfl rfl (LOp.move rfl rfl) ?_
      refine LO.st rfl rfl rfl (LOp.lenM rfl rfl (by kernel_rfl)) ?_
      refine LO.st rfl rfl rfl (LOp.move rfl rfl) ?_
      refine LO.st rfl rfl rfl (LOp.bin rfl rfl rfl rfl) ?_
      refine LO.st rfl rfl rfl (LOp.move rfl rfl) ?_
      refine LO.cases 37 rfl (fun (g6 : ((v3.length : Int) == n) = true) => ?_) (fun (g6 : ((v3.length : Int) == n) = false) => ?_)
      · -- g6 is True
        have hr := ite_t g6 hr
        refine LO.gd rfl rfl rfl (gd g6 rfl) rfl (LOp.move rfl rfl) ?_
        refine LO.gd rfl rfl rfl (gd g6 rfl) rfl (LOp.move rfl rfl) ?_
        obtain ⟨y1, h_y1, hr⟩ := bind_get hr
        refine LO.gd rfl rfl rfl (gd g6 rfl) rfl (LOp.indexAddrX rfl rfl rfl st49 h_y1 rfl) ?_
        refine LO.gd rfl rfl rfl (gd g6 rfl) rfl (LOp.loadC rfl rfl rfl vt3 rfl rfl) ?_
        refine LO.gd rfl rfl rfl (gd g6 rfl) rfl (LOp.move rfl rfl) ?_
        refine LO.gd rfl rfl rfl (gd g6 rfl) rfl (LOp.move rfl rfl) ?_
        refine LO.gd rfl rfl rfl (gd g6 rfl) rfl (LOp.move rfl rfl) ?_
        obtain ⟨v4, h_v4, hr⟩ := bind_get hr
        refine LO.gd rfl rfl rfl (gd g6 rfl) rfl (LOp.call rfl rfl rfl (by kernel_rfl) (LC.pure (c56 h_v4) (.cons Conv.p (.cons Conv.p (.cons Conv.p .nil))))) ?_
        refine LO.gd rfl rfl rfl (gd g6 rfl) rfl (LOp.bin rfl rfl rfl rfl) ?_
        refine LO.st rfl rfl rfl (LOp.pickT rfl (gdl g6 rfl) rfl) ?_
        refine LO.st rfl rfl rfl (LOp.move rfl rfl) ?_
        refine LO.cases 48 rfl (fun (g7 : (y1 == v4) = true) => ?_) (fun (g7 : (y1 == v4) = false) => ?_)
        · -- g7 is True
          have hr := ite_t g7 hr
          refine LO.gd rfl rfl rfl (gd g7 rfl) rfl (LOp.move rfl rfl) ?_
          refine LO.gd rfl rfl rfl (gd g7 rfl) rfl (LOp.move rfl rfl) ?_
          refine LO.gd rfl rfl rfl (gd g7 rfl) rfl (LOp.move rfl rfl) ?_
          refine LO.gd rfl rfl rfl (gd g7 rfl) rfl (LOp.move rfl rfl) ?_
          obtain ⟨y2, h_y2, hr⟩ := bind_get hr
          refine LO.gd rfl rfl rfl (gd g7 rfl) rfl (LOp.indexAddrX rfl rfl rfl st49 h_y2 rfl) ?_
          refine LO.gd rfl rfl rfl (gd g7 rfl) rfl (LOp.loadC rfl rfl rfl vt3 rfl rfl) ?_
          obtain ⟨v5, h_v5, hr⟩ := bind_get hr
          refine LO.gd rfl rfl rfl (gd g7 rfl) rfl (LOp.call rfl rfl rfl (by kernel_rfl) (LC.pure (c58 h_v5) (.cons Conv.p (.cons Conv.p (.cons Conv.p .nil))))) ?_
          refine LO.gd rfl rfl rfl (gd g7 rfl) rfl (LOp.move rfl rfl) ?_
          refine LO.gd rfl rfl rfl (gd g7 rfl) rfl (LOp.bin rfl rfl rfl rfl) ?_
          refine LO.st rfl rfl rfl (LOp.pickT rfl (gdl g7 rfl) rfl) ?_
          refine LO.st rfl rfl rfl (LOp.assign rfl rfl) ?_
          refine LO.nil ?_
          refine thn_n ?_
          refine LW.ret ?_
          obtain rfl := Option.some.inj hr
          refine finP_ret (.one (.tmp rfl)) ?_
          exact Conv.p
        · -- g7 is False
          have hr := ite_f g7 hr
          refine LO.sk rfl rfl rfl (gd g7 rfl) rfl rfl ?_
          refine LO.sk rfl rfl rfl (gd g7 rfl) rfl rfl ?_
          refine LO.sk rfl rfl rfl (gd g7 rfl) rfl rfl ?_
          refine LO.sk rfl rfl rfl (gd g7 rfl) rfl rfl ?_
          refine LO.sk rfl rfl rfl (gd g7 rfl) rfl rfl ?_
          refine LO.sk rfl rfl rfl (gd g7 rfl) rfl rfl ?_
          refine LO.sk rfl rfl rfl (gd g7 rfl) rfl rfl ?_
          refine LO.sk rfl rfl rfl (gd g7 rfl) rfl rfl ?_
          refine LO.sk rfl rfl rfl (gd g7 rfl) rfl rfl ?_
          refine LO.st rfl rfl rfl (LOp.pickF rfl (gdl g7 rfl) rfl) ?_
          refine LO.st rfl rfl rfl (LOp.assign rfl rfl) ?_
          refine LO.nil ?_
          refine thn_n ?_
          refine LW.ret ?_
          obtain rfl := Option.some.inj hr
          refine finP_ret (.one (.tmp rfl)) ?_
          exact Conv.p
      · -- g6 is False
        have hr := ite_f g6 hr
        refine LO.sk rfl rfl rfl (gd g6 rfl) rfl rfl ?_
        refine LO.sk rfl rfl rfl (gd g6 rfl) rfl rfl ?_
        refine LO.sk rfl rfl rfl (gd g6 rfl) rfl rfl ?_
        refine LO.sk rfl rfl rfl (gd g6 rfl) rfl rfl ?_
        refine LO.sk rfl rfl rfl (gd g6 rfl) rfl rfl ?_
        refine LO.sk rfl rfl rfl (gd g6 rfl) rfl rfl ?_
        refine LO.sk rfl rfl rfl (gd g6 rfl) rfl rfl ?_
        refine LO.sk rfl rfl rfl (gd g6 rfl) rfl rfl ?_
        refine LO.sk rfl rfl rfl (gd g6 rfl) rfl rfl ?_
        refine LO.st rfl rfl rfl (LOp.pickF rfl (gdl g6 rfl) rfl) ?_
        refine LO.st rfl rfl rfl (LOp.move rfl rfl) ?_
        refine LO.sk rfl rfl rfl rfl rfl rfl ?_
        refine LO.sk rfl rfl rfl rfl rfl rfl ?_
        refine LO.sk rfl rfl rfl rfl rfl rfl ?_
        refine LO.sk rfl rfl rfl rfl rfl rfl ?_
        refine LO.sk rfl rfl rfl rfl rfl rfl ?_
        refine LO.sk rfl rfl rfl rfl rfl rfl ?_
        refine LO.sk rfl rfl rfl rfl rfl rfl ?_
        refine LO.sk rfl rfl rfl rfl rfl rfl ?_
        refine LO.sk rfl rfl rfl rfl rfl rfl ?_
        refine LO.st rfl rfl rfl (LOp.pickF rfl rfl rfl) ?_
        refine LO.st rfl rfl rfl (LOp.assign rfl rfl) ?_
        refine LO.nil ?_
        refine thn_n ?_
        refine LW.ret ?_
        obtain rfl := Option.some.inj hr
        refine finP_ret (.one (.tmp rfl)) ?_
        exact Conv.p

end Go.Mg

namespace Go.Mg

theorem and_one {x : Int} (h0 : 0 ≤ x) (h1 : x ≤ 18446744073709551615) : bits .and .u64 x 1 = x.tmod 2 := by
  obtain ⟨n, rfl⟩ : ∃ n : Nat, x = n := ⟨x.toNat, by omega⟩
  have e : bits .and .u64 (n : Int) 1 = IntKind.u64.wrap ((BitVec.ofInt 64 (n : Int) &&& BitVec.ofInt 64 1).toNat : Int) := rfl
  have e2 : (BitVec.ofInt 64 1).toNat = 1 := by decide
  have e3 : (BitVec.ofInt 64 (n : Int)).toNat = n := by
    rw [BitVec.toNat_ofInt]; omega
  rw [e, BitVec.toNat_and, e2, e3, Nat.and_one_is_mod, wrapU (by omega) (by omega)]
  rfl

theorem emod_hi {x n : Int} (h : n ≤ x) (h2 : x < n + n) : x % n = x - n := by
  have e : x = (x - n) + n := by omega
  rw [e, Int.add_emod_right, Int.emod_eq_of_lt (by omega) (by omega)]
  omega

/-- A place of a shuffle. -/
def Pl (n i : Int) : Prop := 1 ≤ n ∧ n ≤ 1000 ∧ 0 ≤ i ∧ i < n
instance (n i : Int) : Decidable (Pl n i) := inferInstanceAs (Decidable (_ ∧ _))

theorem pivot_in {seed n r : Int} (h1 : 1 ≤ n) (h2 : n ≤ 1000) : 0 ≤ pivotOf seed n r ∧ pivotOf seed n r < n ∧ pivotOf seed n r = IntKind.i64.wrap ((step seed (IntKind.u64.wrap r)).tmod (IntKind.u64.wrap n)) := by
  have hs := (step_in seed (IntKind.u64.wrap r)).1
  have hs' : 0 ≤ step seed (IntKind.u64.wrap r) := hs
  unfold pivotOf
  rw [wrapU (n := n) (by omega) (by omega), Int.tmod_eq_emod_of_nonneg hs']
  have a := Int.emod_nonneg (step seed (IntKind.u64.wrap r)) (show n ≠ 0 by omega)
  have b := Int.emod_lt_of_pos (step seed (IntKind.u64.wrap r)) (show 0 < n by omega)
  rw [wrapI (by omega) (by omega)]
  exact ⟨a, b, rfl⟩

theorem mate_eq {seed n r i : Int} (h : Pl n i) : mateOf seed n r i = (pivotOf seed n r + n - i) % n := by
  obtain ⟨h1, h2, h3, h4⟩ := h
  have hp := pivot_in (seed := seed) (r := r) h1 h2
  unfold mateOf
  rw [wrapI (n := pivotOf seed n r + n) (by omega) (by omega), wrapI (by omega) (by omega), Int.tmod_eq_emod_of_nonneg (by omega)]

theorem mate_in {seed n r i : Int} (h : Pl n i) : Pl n (mateOf seed n r i) := by
  rw [mate_eq h]
  obtain ⟨h1, h2, h3, h4⟩ := h
  exact ⟨h1, h2, Int.emod_nonneg _ (by omega), Int.emod_lt_of_pos _ (by omega)⟩

theorem mate_mate {seed n r i : Int} (h : Pl n i) : mateOf seed n r (mateOf seed n r i) = i := by
  rw [mate_eq (mate_in h), mate_eq h]
  obtain ⟨h1, h2, h3, h4⟩ := h
  have hp := pivot_in (seed := seed) (r := r) h1 h2
  generalize pivotOf seed n r = p at hp
  by_cases hc : i ≤ p
  · rw [emod_hi (x := p + n - i) (by omega) (by omega), emod_hi (by omega) (by omega)]; omega
  · rw [Int.emod_eq_of_lt (a := p + n - i) (by omega) (by omega), Int.emod_eq_of_lt (by omega) (by omega)]; omega

theorem turnB_mate {seed n r i : Int} (h : Pl n i) : turnB seed n r (mateOf seed n r i) = turnB seed n r i := by
  unfold turnB
  rw [mate_mate h]
  have e : (if i > mateOf seed n r i then i else mateOf seed n r i) = if mateOf seed n r i > i then mateOf seed n r i else i := by split <;> split <;> omega
  rw [e]

theorem turn_in {seed n r i : Int} (h : Pl n i) : Pl n (turnOf seed n r i) := by
  unfold turnOf
  cases turnB seed n r i
  · exact h
  · exact mate_in h

theorem turn_turn {seed n r i : Int} (h : Pl n i) : turnOf seed n r (turnOf seed n r i) = i := by
  cases hb : turnB seed n r i with
  | false =>
    have e : turnOf seed n r i = i := by unfold turnOf; rw [hb]; rfl
    rw [e, e]
  | true =>
    have e : turnOf seed n r i = mateOf seed n r i := by unfold turnOf; rw [hb]; rfl
    rw [e]
    unfold turnOf
    rw [turnB_mate h, hb, mate_mate h]; rfl

/-- The first k rounds. -/
def rt (seed n i : Int) : Nat → Int
  | 0 => i
  | k + 1 => turnOf seed n k (rt seed n i k)
/-- The last k rounds, backwards. -/
def bk (seed n i : Int) : Nat → Int
  | 0 => i
  | k + 1 => turnOf seed n (9 - (k : Int)) (bk seed n i k)

theorem rt_in {seed n i : Int} (h : Pl n i) : ∀ k, Pl n (rt seed n i k)
  | 0 => h
  | k + 1 => turn_in (rt_in h k)
theorem bk_in {seed n i : Int} (h : Pl n i) : ∀ k, Pl n (bk seed n i k)
  | 0 => h
  | k + 1 => turn_in (bk_in h k)

theorem bk_rt {seed n i : Int} (h : Pl n i) : ∀ k, k ≤ 10 → bk seed n (rt seed n i 10) k = rt seed n i (10 - k)
  | 0, _ => rfl
  | k + 1, hk => by
    show turnOf seed n (9 - (k : Int)) (bk seed n (rt seed n i 10) k) = _
    rw [bk_rt h k (by omega)]
    have e : 10 - k = (9 - k) + 1 := by omega
    have e2 : 10 - (k + 1) = 9 - k := by omega
    rw [e, e2]
    show turnOf seed n (9 - (k : Int)) (turnOf seed n ((9 - k : Nat) : Int) (rt seed n i (9 - k))) = _
    have e3 : ((9 - k : Nat) : Int) = 9 - (k : Int) := by omega
    rw [e3, turn_turn (rt_in h _)]

theorem rt_bk {seed n i : Int} (h : Pl n i) : ∀ k, k ≤ 10 → rt seed n (bk seed n i 10) k = bk seed n i (10 - k)
  | 0, _ => rfl
  | k + 1, hk => by
    show turnOf seed n (k : Int) (rt seed n (bk seed n i 10) k) = _
    rw [rt_bk h k (by omega)]
    have e : 10 - k = (9 - k) + 1 := by omega
    have e2 : 10 - (k + 1) = 9 - k := by omega
    rw [e, e2]
    show turnOf seed n (k : Int) (turnOf seed n (9 - ((9 - k : Nat) : Int)) (bk seed n i (9 - k))) = _
    have e3 : 9 - ((9 - k : Nat) : Int) = (k : Int) := by omega
    rw [e3, turn_turn (bk_in h _)]

/-- Where a place goes. -/
def toA (seed n i : Int) : Int := rt seed n i 10
/-- Where it comes from. -/
def fromA (seed n i : Int) : Int := bk seed n i 10
theorem from_to {seed n i : Int} (h : Pl n i) : fromA seed n (toA seed n i) = i := bk_rt h 10 (by omega)
theorem to_from {seed n i : Int} (h : Pl n i) : toA seed n (fromA seed n i) = i := rt_bk h 10 (by omega)
theorem to_in {seed n i : Int} (h : Pl n i) : Pl n (toA seed n i) := rt_in h 10
theorem from_in {seed n i : Int} (h : Pl n i) : Pl n (fromA seed n i) := bk_in h 10

theorem F101_eq (n i : Int) : F101 n i = some (decide (Pl n i)) := by
  unfold F101
  by_cases h1 : n > 0
  · rw [decide_eq_true h1, ct]
    by_cases h2 : n ≤ 1000
    · rw [decide_eq_true h2, ct]
      by_cases h3 : i ≥ 0
      · rw [decide_eq_true h3, ct]
        congr 1
        exact decide_eq_decide.2 ⟨fun h => ⟨by omega, h2, h3, h⟩, fun h => h.2.2.2⟩
      · rw [decide_eq_false h3, cf, decide_eq_false (fun h => h3 h.2.2.1)]
    · rw [decide_eq_false h2, cf, decide_eq_false (fun h => h2 h.2.1)]
  · rw [decide_eq_false h1, cf, decide_eq_false (fun h => h1 (by have := h.1; omega))]
theorem F103_eq (n i : Int) : F103 n i = some (decide (Pl n i)) := by
  rw [← F101_eq]
  unfold F101 F103
  by_cases h1 : n > 0
  · rw [decide_eq_true h1, decide_eq_true (show n ≥ 1 by omega)]
  · rw [decide_eq_false h1, decide_eq_false (show ¬ n ≥ 1 by omega)]

theorem turnOk_of {n i r : Int} (h : Pl n i) (h0 : 0 ≤ r) (h1 : r < 10) : turnOk n r = true :=
  decide_eq_true ⟨by have := h.1; omega, by have := h.1; have := h.2.1; rw [wrapU (by omega) (by omega)]; omega, h0, h1⟩

theorem F102_eq {seed n i : Int} {d : Dk} (h : Pl n i) (hk0 : 0 ≤ d.k) (hk1 : d.k ≤ 100000) : ∃ d', F102 seed n i d = some (toA seed n i, d') ∧ d'.k = d.k + 10 := by
  have key := @iter_inv _ _ (F102_s1 seed n) (fun x => ∃ j : Nat, j ≤ 10 ∧ x.t6 = j ∧ x.i = rt seed n i j ∧ x.d.k = d.k + j) (fun x => 11 - x.t6.toNat) (fun b => b.i = toA seed n i ∧ b.d.k = d.k + 10) (by
    rintro ⟨a, t, dd⟩ ⟨j, hj, rfl, ha, hd⟩
    simp only at ha hd
    subst ha
    by_cases hlt : j < 10
    · left
      refine ⟨_, by
        simp only [F102_s1]
        rw [decide_eq_true (show (j : Int) < 10 by omega), ct, turnOk_of h (by omega) (by omega), ct], ⟨j + 1, by omega, wrap_succ (n := j) (by omega), rfl, ?_⟩, ?_⟩
      · show IntKind.i64.wrap (dd.k + 1) = _
        rw [hd, wrapI (by omega) (by omega)]; omega
      · simp only [wrap_succ (show j < 4000000000 by omega)]; omega
    · right
      obtain rfl : j = 10 := by omega
      exact ⟨_, rfl, rfl, hd⟩)
  obtain ⟨b, hb, h1, h2⟩ := key (n := big) (x := ⟨i, 0, d⟩) ⟨0, by omega, rfl, rfl, by simp⟩ (big_gt (by omega))
  refine ⟨b.d, ?_, h2⟩
  unfold F102
  rw [hb, ob, h1]

def atP (seed n i : Int) : Int := if Pl n i then toA seed n i else -1
def backP (seed n i : Int) : Int := if Pl n i then fromA seed n i else -1

theorem F56_eq (seed n i : Int) : F56 seed n i = some (atP seed n i) := by
  unfold F56 atP
  rw [F101_eq, ob]
  by_cases h : Pl n i
  · obtain ⟨d', e, -⟩ := F102_eq (seed := seed) (d := dk0) h (by decide) (by decide)
    rw [decide_eq_true h, if_pos h, e]; rfl
  · rw [decide_eq_false h, if_neg h]; rfl

theorem F58_eq (seed n i : Int) : F58 seed n i = some (backP seed n i) := by
  unfold F58 backP
  rw [F101_eq, ob]
  by_cases h : Pl n i
  · rw [decide_eq_true h, if_pos h]
    have key := @iter_inv _ _ (F58_s1 seed n) (fun x => ∃ j : Nat, j ≤ 10 ∧ x.t17 = j ∧ x.i = bk seed n i j) (fun x => 11 - x.t17.toNat) (fun b => b.i = fromA seed n i) (by
      rintro ⟨a, t, dd⟩ ⟨j, hj, rfl, ha⟩
      simp only at ha
      subst ha
      by_cases hlt : j < 10
      · left
        have e9 : IntKind.i64.wrap (9 - (j : Int)) = 9 - (j : Int) := wrapI (by omega) (by omega)
        refine ⟨_, by
          simp only [F58_s1]
          rw [decide_eq_true (show (j : Int) < 10 by omega), ct, e9, turnOk_of h (by omega) (by omega), ct], ⟨j + 1, by omega, wrap_succ (n := j) (by omega), rfl⟩, ?_⟩
        simp only [wrap_succ (show j < 4000000000 by omega)]; omega
      · right
        obtain rfl : j = 10 := by omega
        exact ⟨_, rfl, rfl⟩)
    obtain ⟨b, hb, h1⟩ := key (n := big) (x := ⟨i, 0, dk0⟩) ⟨0, by omega, rfl, rfl⟩ (big_gt (by omega))
    rw [Bool.not_true, cf, hb, ob, h1]
  · rw [decide_eq_false h, if_neg h]; rfl

theorem F104_eq {seed n r i : Int} (h : Pl n i) (_ : 0 ≤ r) (_ : r < 10) : F104 seed n r i = some (turnOf seed n r i) := by
  unfold F104
  have hn := h.1
  have hn2 := h.2.1
  have hz : decide (IntKind.u64.wrap n ≠ 0) = true := decide_eq_true (by rw [wrapU (by omega) (by omega)]; omega)
  have hz2 : decide (n ≠ 0) = true := decide_eq_true (by omega)
  have hm : IntKind.i64.wrap ((step seed (IntKind.u64.wrap r)).tmod (IntKind.u64.wrap n)) = pivotOf seed n r := rfl
  rw [F115_eq, ob, hz, ct, hz2, ct, hm]
  have hm2 : (IntKind.i64.wrap (IntKind.i64.wrap (pivotOf seed n r + n) - i)).tmod n = mateOf seed n r i := rfl
  rw [hm2]
  have e : (bif decide (mateOf seed n r i > i) then some (mateOf seed n r i) else some i) = some (if mateOf seed n r i > i then mateOf seed n r i else i) := by
    rw [bifd]; split <;> rfl
  rw [e, ob, F115_eq, ob, F115_eq, ob]
  have hs := step_in (step seed (IntKind.u64.wrap (IntKind.i64.wrap (1000 + r)))) (IntKind.u64.wrap (if mateOf seed n r i > i then mateOf seed n r i else i))
  rw [← and_one hs.1 hs.2]
  show (bif turnB seed n r i then some (mateOf seed n r i) else some i) = some (bif turnB seed n r i then mateOf seed n r i else i)
  cases turnB seed n r i <;> rfl

theorem F57_eq (seed n i : Int) : F57 seed n i = some (atP seed n i) := by
  unfold F57 atP
  rw [F103_eq, ob]
  by_cases h : Pl n i
  · rw [decide_eq_true h, if_pos h]
    have key := @iter_inv _ _ (F57_s1 seed n) (fun x => ∃ j : Nat, j ≤ 10 ∧ x.r = j ∧ x.i = rt seed n i j) (fun x => 11 - x.r.toNat) (fun b => b.i = toA seed n i) (by
      rintro ⟨a, t⟩ ⟨j, hj, rfl, ha⟩
      simp only at ha
      subst ha
      by_cases hlt : j < 10
      · left
        refine ⟨_, by
          simp only [F57_s1]
          rw [decide_eq_true (show (j : Int) < 10 by omega), ct, F104_eq (rt_in h j) (by omega) (by omega), ob], ⟨j + 1, by omega, wrap_succ (n := j) (by omega), rfl⟩, ?_⟩
        simp only [wrap_succ (show j < 4000000000 by omega)]; omega
      · right
        obtain rfl : j = 10 := by omega
        exact ⟨_, rfl, rfl⟩)
    obtain ⟨b, hb, h1⟩ := key (n := big) (x := ⟨i, 0⟩) ⟨0, by omega, rfl, rfl⟩ (big_gt (by omega))
    rw [Bool.not_true, cf, hb, ob, h1]
  · rw [decide_eq_false h, if_neg h]; rfl

theorem F59_eq (seed n i : Int) : F59 seed n i = some (backP seed n i) := by
  unfold F59 backP
  rw [F103_eq, ob]
  by_cases h : Pl n i
  · rw [decide_eq_true h, if_pos h]
    have key := @iter_inv _ _ (F59_s1 seed n) (fun x => ∃ j : Nat, j ≤ 10 ∧ x.r = 9 - (j : Int) ∧ x.i = bk seed n i j) (fun x => (x.r + 2).toNat) (fun b => b.i = fromA seed n i) (by
      rintro ⟨a, t⟩ ⟨j, hj, rfl, ha⟩
      simp only at ha
      subst ha
      by_cases hlt : j < 10
      · left
        have e9 : IntKind.i64.wrap (9 - (j : Int) - 1) = 9 - ((j + 1 : Nat) : Int) := by rw [wrapI (by omega) (by omega)]; omega
        refine ⟨_, by
          simp only [F59_s1]
          rw [decide_eq_true (show 9 - (j : Int) ≥ 0 by omega), ct, F104_eq (bk_in h j) (by omega) (by omega), ob], ⟨j + 1, by omega, e9, rfl⟩, ?_⟩
        simp only [e9]; omega
      · right
        obtain rfl : j = 10 := by omega
        exact ⟨_, rfl, rfl⟩)
    obtain ⟨b, hb, h1⟩ := key (n := big) (x := ⟨i, 9⟩) ⟨0, by omega, rfl, rfl⟩ (big_gt (by show (11 : Nat) < _; omega))
    rw [Bool.not_true, cf, hb, ob, h1]
  · rw [decide_eq_false h, if_neg h]; rfl
end Go.Mg

namespace Go.Mg

def permL (seed n : Int) (k : Nat) : List Int := (List.range k).map fun j : Nat => toA seed n j
def permP (seed n : Int) : List Int := if 1 ≤ n ∧ n ≤ 1000 then permL seed n n.toNat else []

theorem permL_len (seed n : Int) (k : Nat) : (permL seed n k).length = k := by simp [permL]
theorem permL_succ (seed n : Int) (k : Nat) : permL seed n (k + 1) = permL seed n k ++ [toA seed n k] := by simp [permL, List.range_succ]
theorem permL_get {seed n : Int} {k j : Nat} (h : j < k) : (permL seed n k)[j]? = some (toA seed n j) := by simp [permL, h]

theorem set_mid {A : List Int} {m : Nat} {v z : Int} : (A ++ List.replicate (m + 1) z).set A.length v = (A ++ [v]) ++ List.replicate m z := by
  rw [List.set_append_right _ _ (Nat.le_refl _), Nat.sub_self, List.replicate_succ]
  simp

theorem F60_eq (seed n : Int) : F60 seed n = some (permP seed n) := by
  unfold F60 permP
  rw [F101_eq, ob]
  by_cases h : 1 ≤ n ∧ n ≤ 1000
  · obtain ⟨h1, h2⟩ := h
    have hp : Pl n 0 := ⟨h1, h2, by omega, by omega⟩
    rw [decide_eq_true hp, if_pos ⟨h1, h2⟩, Bool.not_true, cf, show mkOk n 8 = true from decide_eq_true ⟨by omega, by omega, by omega⟩, ct]
    have key := @iter_inv _ _ (F60_s1 seed n) (fun x => ∃ j : Nat, j ≤ n.toNat ∧ x.t19 = j ∧ x.d.k = 10 * (j : Int) ∧ x.l = permL seed n j ++ List.replicate (n.toNat - j) 0) (fun x => n.toNat + 1 - x.t19.toNat) (fun b => b.l = permL seed n n.toNat ∧ b.d.k = 10 * n) (by
      rintro ⟨t, d, l⟩ ⟨j, hj, rfl, hd, hl⟩
      simp only at hd hl
      subst hl
      by_cases hlt : j < n.toNat
      · left
        have hpl : Pl n (j : Int) := ⟨h1, h2, by omega, by omega⟩
        obtain ⟨d', e, hk⟩ := F102_eq (seed := seed) (d := d) hpl (by omega) (by omega)
        have hix : ix (permL seed n j ++ List.replicate (n.toNat - j) 0) (j : Int) = some 0 := ix_nat (by
          rw [List.getElem?_append_right (by rw [permL_len]; omega), permL_len, Nat.sub_self, show n.toNat - j = (n.toNat - j - 1) + 1 by omega, List.replicate_succ]; rfl)
        refine ⟨_, by
          simp only [F60_s1]
          rw [decide_eq_true (show (j : Int) < ((List.replicate n.toNat (0 : Int)).length : Int) by rw [List.length_replicate]; omega), ct, e, ob, hix, ob],
          ⟨j + 1, by omega, wrap_succ (n := j) (by omega), by show d'.k = _; omega, ?_⟩, ?_⟩
        · show List.set (permL seed n j ++ List.replicate (n.toNat - j) 0) (j : Int).toNat (toA seed n j) = _
          rw [show n.toNat - j = (n.toNat - (j + 1)) + 1 by omega, permL_succ]
          have := set_mid (A := permL seed n j) (m := n.toNat - (j + 1)) (v := toA seed n j) (z := 0)
          rw [permL_len] at this
          exact this
        · simp only [wrap_succ (show j < 4000000000 by omega)]; omega
      · right
        obtain rfl : j = n.toNat := by omega
        refine ⟨_, by
          simp only [F60_s1]
          rw [decide_eq_false (show ¬ ((n.toNat : Nat) : Int) < ((List.replicate n.toNat (0 : Int)).length : Int) by rw [List.length_replicate]; omega), cf], ?_, ?_⟩
        · simp
        · simp only; omega)
    obtain ⟨b, hb, h3, h4⟩ := key (n := big) (x := ⟨0, dk0, List.replicate n.toNat 0⟩) ⟨0, by omega, rfl, rfl, by simp [permL]⟩ (big_gt (by omega))
    rw [hb, ob, h3, decide_eq_false (show ¬ b.d.k < n by omega), cf]
  · rw [decide_eq_false (fun hp : Pl n 0 => h ⟨hp.1, hp.2.1⟩), if_neg h]; rfl

theorem F61_eq (seed n : Int) : F61 seed n = some (permP seed n) := by
  unfold F61 permP
  by_cases h : 1 ≤ n ∧ n ≤ 1000
  · obtain ⟨h1, h2⟩ := h
    rw [if_pos ⟨h1, h2⟩]
    have key := @iter_inv _ _ (F61_s1 seed n) (fun x => ∃ j : Nat, j ≤ n.toNat ∧ x.i = j ∧ x.out = permL seed n j) (fun x => n.toNat + 1 - x.i.toNat) (fun b => b.out = permL seed n n.toNat) (by
      rintro ⟨t, l⟩ ⟨j, hj, rfl, hl⟩
      simp only at hl
      subst hl
      by_cases hlt : j < n.toNat
      · left
        have hpl : Pl n (j : Int) := ⟨h1, h2, by omega, by omega⟩
        refine ⟨_, by
          simp only [F61_s1]
          rw [decide_eq_true (show (j : Int) < n by omega), ct, decide_eq_true h2, ob, ct, F57_eq, ob, room_ok (by rw [permL_len]; simp only [List.length_singleton]; omega) (by omega), ct],
          ⟨j + 1, by omega, wrap_succ (n := j) (by omega), ?_⟩, ?_⟩
        · show permL seed n j ++ [atP seed n j] = _
          rw [permL_succ, atP, if_pos hpl]
        · simp only [wrap_succ (show j < 4000000000 by omega)]; omega
      · right
        obtain rfl : j = n.toNat := by omega
        refine ⟨_, by
          simp only [F61_s1]
          rw [decide_eq_false (show ¬ ((n.toNat : Nat) : Int) < n by omega), cf, ob, cf], rfl⟩)
    obtain ⟨b, hb, h3⟩ := key (n := big) (x := ⟨0, []⟩) ⟨0, by omega, rfl, by simp [permL]⟩ (big_gt (by omega))
    rw [hb, ob, h3]
  · rw [if_neg h]
    have e : F61_s1 seed n ⟨0, []⟩ = some (.inr ⟨0, []⟩) := by
      simp only [F61_s1]
      by_cases h0 : (0 : Int) < n
      · rw [decide_eq_true h0, ct, decide_eq_false (show ¬ n ≤ 1000 by omega), ob, cf]
      · rw [decide_eq_false h0, cf, ob, cf]
    have e2 : iter (F61_s1 seed n) big ⟨0, []⟩ = some ⟨0, []⟩ := by
      rw [show big = 4611686018427387903 + 1 from rfl]
      unfold iter
      rw [e]
    rw [e2, ob]

theorem F55_eq : F55 = some true := by
  unfold F55
  have h : Pl 1 0 := by decide
  have ht := to_in (seed := 7) h
  have hf := from_in (seed := 7) h
  have e1 : toA 7 1 0 = 0 := by have := ht.2.2.1; have := ht.2.2.2; omega
  have e2 : fromA 7 1 0 = 0 := by have := hf.2.2.1; have := hf.2.2.2; omega
  have p : permP 7 1 = [0] := by
    unfold permP
    rw [if_pos (by decide)]
    show [toA 7 1 ((0 : Nat) : Int)] = [0]
    rw [show ((0 : Nat) : Int) = 0 from rfl, e1]
  rw [F60_eq, ob, F56_eq, ob, F58_eq, ob, p, atP, if_pos h, e1, backP, if_pos h, e2, F56_eq, atP, if_neg (by decide)]
  rfl

/-! The laws. -/

theorem beq_self' (a : Int) : (a != a) = false := by simp

theorem shTells (seed n i : Int) : F16 seed n i = some true := by
  unfold F16
  rw [F55_eq, ob, Bool.not_true, cf, F56_eq, ob, F57_eq, ob, beq_self', cf, F58_eq, ob, F59_eq, ob, beq_self', ob, cf]
  have hloop : ∃ x, iter (F16_s1 (permP seed n) (permP seed n)) big ⟨0⟩ = some (.inl x) := by
    have key := @iter_inv _ _ (F16_s1 (permP seed n) (permP seed n)) (fun x => ∃ j : Nat, j ≤ (permP seed n).length ∧ x.k = j) (fun x => (permP seed n).length + 1 - x.k.toNat) (fun b => ∃ x, b = .inl x) (by
      rintro ⟨t⟩ ⟨j, hj, rfl⟩
      have hle : (permP seed n).length ≤ 1000 := by
        unfold permP; split
        · rw [permL_len]; omega
        · simp
      by_cases hlt : j < (permP seed n).length
      · left
        obtain ⟨y, hy, -⟩ := get_of hlt
        refine ⟨⟨IntKind.i64.wrap ((j : Int) + 1)⟩, by
          simp only [F16_s1]
          rw [decide_eq_true (show (j : Int) < ((permP seed n).length : Int) by omega), ct, ix_nat hy, ob, ob, beq_self', cf], ⟨j + 1, by omega, wrap_succ (n := j) (by omega)⟩, ?_⟩
        simp only [wrap_succ (show j < 4000000000 by omega)]; omega
      · right
        refine ⟨_, by
          simp only [F16_s1]
          rw [decide_eq_false (show ¬ (j : Int) < ((permP seed n).length : Int) by omega), cf], _, rfl⟩)
    have hle : (permP seed n).length ≤ 1000 := by
      unfold permP; split
      · rw [permL_len]; omega
      · simp
    obtain ⟨b, hb, x, rfl⟩ := key (n := big) (x := ⟨0⟩) ⟨0, by omega, rfl⟩ (big_gt (by omega))
    exact ⟨x, hb⟩
  obtain ⟨x, hx⟩ := hloop
  have hrest : ((F60 seed n).bind fun v8 => (F61 seed n).bind fun v9 => bif (v8.length : Int) != (v9.length : Int) then some false else (iter (F16_s1 v8 v9) big (F16_L1.mk 0)).bind fun b_v10 => Sum.elim (fun _ => some true) some b_v10) = some true := by
    rw [F60_eq, ob, F61_eq, ob, beq_self', cf, hx, ob, sl]
  by_cases h1 : n > 60
  · rw [decide_eq_true h1, ct]
    by_cases h2 : n ≤ 1000
    · rw [decide_eq_true h2, ct, ob, sr]
    · rw [decide_eq_false h2, cf, ob, sl]; exact hrest
  · rw [decide_eq_false h1, cf, ob, sl]; exact hrest

theorem four (n i : Int) : (bif decide (n < 1) then some true else bif decide (n > 1000) then some true else bif decide (i < 0) then some true else some (decide (i ≥ n))) = some (decide (¬ Pl n i)) := by
  simp only [bifd]
  split
  · rw [decide_eq_true]; intro h; have := h.1; omega
  · split
    · rw [decide_eq_true]; intro h; have := h.2.1; omega
    · split
      · rw [decide_eq_true]; intro h; have := h.2.2.1; omega
      · congr 1
        exact decide_eq_decide.2 ⟨fun h hp => by have := hp.2.2.2; omega, fun h => by
          refine Classical.byContradiction fun hc => h ⟨by omega, by omega, by omega, by omega⟩⟩

theorem beqt {a b : Int} (h : a = b) : (a == b) = true := by simp [h]

theorem shBack (seed n i : Int) : F17 seed n i = some true := by
  unfold F17
  rw [F55_eq, ob, F56_eq, ob, F58_eq, ob, four, ob]
  by_cases h : Pl n i
  · have ht := to_in (seed := seed) h
    have hf := from_in (seed := seed) h
    rw [decide_eq_false (not_not_intro h), cf, ct, atP, if_pos h, backP, if_pos h, decide_eq_true ht.2.2.1, ct, decide_eq_true ht.2.2.2, ct, decide_eq_true hf.2.2.1, ct, decide_eq_true hf.2.2.2, ct,
      F58_eq, ob, backP, if_pos ht, from_to h, beqt rfl, ct, F56_eq, ob, atP, if_pos hf, to_from h, beqt rfl]
  · rw [decide_eq_true h, ct, ct, atP, if_neg h, backP, if_neg h]
    rfl

theorem perm_get {seed n : Int} (h1 : 1 ≤ n) (h2 : n ≤ 1000) {j : Nat} (hj : (j : Int) < n) : ix (permP seed n) (j : Int) = some (toA seed n j) := by
  unfold permP
  rw [if_pos ⟨h1, h2⟩]
  exact ix_nat (permL_get (by omega))

theorem perm_len {seed n : Int} (h1 : 1 ≤ n) (h2 : n ≤ 1000) : ((permP seed n).length : Int) = n := by
  unfold permP
  rw [if_pos ⟨h1, h2⟩, permL_len]; omega

theorem three (n : Int) : (bif !true then some true else bif decide (n < 1) then some true else some (decide (n > 60))) = some (decide (¬ (1 ≤ n ∧ n ≤ 60))) := by
  rw [Bool.not_true, cf, bifd]
  split
  · rw [decide_eq_true]; omega
  · congr 1
    exact decide_eq_decide.2 ⟨fun h => by omega, fun h => by omega⟩

theorem shOnly (seed n : Int) : F18 seed n = some true := by
  unfold F18
  rw [F55_eq, ob, three, ob]
  by_cases h : 1 ≤ n ∧ n ≤ 60
  · obtain ⟨h1, h2⟩ := h
    rw [decide_eq_false (not_not_intro ⟨h1, h2⟩), cf, F60_eq, ob, perm_len h1 (by omega), beq_self', cf, show mkOk n 1 = true from decide_eq_true ⟨by omega, by omega, by omega⟩, ct]
    have key := @iter_inv _ _ (F18_s1 n (permP seed n)) (fun x => ∃ j : Nat, j ≤ n.toNat ∧ x.i = j ∧ x.seen.length = n.toNat ∧ ∀ k : Nat, x.seen[k]? = some true → ∃ q : Nat, q < j ∧ (k : Int) = toA seed n q) (fun x => n.toNat + 1 - x.i.toNat) (fun b => ∃ x, b = .inl x) (by
      rintro ⟨t, sn⟩ ⟨j, hj, rfl, hl, hs⟩
      simp only at hl hs
      by_cases hlt : j < n.toNat
      · left
        have hpl : Pl n (j : Int) := ⟨h1, by omega, by omega, by omega⟩
        have ht := to_in (seed := seed) hpl
        have hlt' : (toA seed n j).toNat < sn.length := by have := ht.2.2.1; have := ht.2.2.2; omega
        obtain ⟨b, hb, -⟩ := get_of hlt'
        have hbf : b = false := by
          cases b with
          | false => rfl
          | true =>
            obtain ⟨q, hq, e⟩ := hs _ hb
            have e2 : toA seed n j = toA seed n q := by have := ht.2.2.1; omega
            have := congrArg (fromA seed n) e2
            rw [from_to hpl, from_to (i := (q : Int)) ⟨h1, by omega, by omega, by omega⟩] at this
            omega
        subst hbf
        have hix : ix sn (toA seed n j) = some false := ix_of ht.2.2.1 hb
        refine ⟨_, by
          simp only [F18_s1]
          rw [decide_eq_true (show (j : Int) < n by omega), ct, perm_get h1 (by omega) (by omega), ob, decide_eq_false (show ¬ toA seed n j < 0 by have := ht.2.2.1; omega), cf, ob,
            decide_eq_false (show ¬ toA seed n j ≥ n by have := ht.2.2.2; omega), cf, ob, hix, ob, ob, cf, ob, hix, ob], ⟨j + 1, by omega, wrap_succ (n := j) (by omega), by simpa using hl, ?_⟩, ?_⟩
        · intro k hk
          rw [List.getElem?_set] at hk
          split at hk
          · next e => exact ⟨j, by omega, by have := ht.2.2.1; omega⟩
          · obtain ⟨q, hq, e⟩ := hs k hk
            exact ⟨q, by omega, e⟩
        · simp only [wrap_succ (show j < 4000000000 by omega)]; omega
      · right
        refine ⟨_, by
          simp only [F18_s1]
          rw [decide_eq_false (show ¬ (j : Int) < n by omega), cf], _, rfl⟩)
    obtain ⟨b, hb, x, rfl⟩ := key (n := big) (x := ⟨0, List.replicate n.toNat false⟩) ⟨0, by omega, rfl, by simp, fun k hk => by
      rw [List.getElem?_replicate] at hk
      split at hk <;> cases hk⟩ (big_gt (by show n.toNat + 1 - 0 < _; omega))
    rw [hb, ob, sl]
  · rw [decide_eq_true h, ct]

def sumL : List Int → Int
  | [] => 0
  | x :: r => x + sumL r
theorem sumL_app (a : List Int) (x : Int) : sumL (a ++ [x]) = sumL a + x := by
  induction a with
  | nil => simp [sumL]
  | cons y r ih => simp [sumL, ih]; omega
theorem sumL_perm {a b : List Int} (h : a.Perm b) : sumL a = sumL b := by
  induction h with
  | nil => rfl
  | cons x _ ih => simp [sumL, ih]
  | swap x y l => simp [sumL]; omega
  | trans _ _ h1 h2 => exact h1.trans h2

theorem sub_perm : ∀ {a r : List Int}, a.Nodup → (∀ x ∈ a, x ∈ r) → ∃ rest, (a ++ rest).Perm r
  | [], r, _, _ => ⟨r, .refl _⟩
  | x :: t, r, hn, h => by
    have hx : x ∈ r := h x (.head _)
    obtain ⟨hx2, hn2⟩ := List.nodup_cons.1 hn
    obtain ⟨rest, hp⟩ := sub_perm (a := t) (r := r.erase x) hn2 fun y hy => by
      have hne : y ≠ x := fun e => hx2 (e ▸ hy)
      exact (List.mem_erase_of_ne hne).2 (h y (.tail _ hy))
    exact ⟨rest, (List.Perm.cons x hp).trans (List.perm_cons_erase hx).symm⟩

def idL (k : Nat) : List Int := (List.range k).map fun j : Nat => (j : Int)
theorem sum_idL : ∀ k : Nat, 2 * sumL (idL k) = (k : Int) * ((k : Int) - 1)
  | 0 => rfl
  | k + 1 => by
    have ih := sum_idL k
    have e : idL (k + 1) = idL k ++ [(k : Int)] := by simp [idL, List.range_succ]
    rw [e, sumL_app]
    have e2 : ((k + 1 : Nat) : Int) * (((k + 1 : Nat) : Int) - 1) = (k : Int) * ((k : Int) - 1) + 2 * k := by
      have e3 : ((k + 1 : Nat) : Int) - 1 = k := by omega
      rw [e3, Int.natCast_add, Int.add_mul, Int.mul_sub]
      simp only [Int.mul_one]
      have : ((1 : Nat) : Int) * (k : Int) = k := by simp
      omega
    rw [e2, ← ih]; omega

theorem nodup_map {f : Nat → Int} : ∀ {l : List Nat}, l.Nodup → (∀ a ∈ l, ∀ b ∈ l, f a = f b → a = b) → (l.map f).Nodup
  | [], _, _ => by simp
  | x :: t, hn, h => by
    obtain ⟨hx, hn2⟩ := List.nodup_cons.1 hn
    rw [List.map_cons, List.nodup_cons]
    refine ⟨fun hm => ?_, nodup_map hn2 fun a ha b hb => h a (.tail _ ha) b (.tail _ hb)⟩
    obtain ⟨y, hy, e⟩ := List.mem_map.1 hm
    exact hx (h y (.tail _ hy) x (.head _) e ▸ hy)

theorem perm_sum {seed n : Int} (h1 : 1 ≤ n) (h2 : n ≤ 1000) : (permL seed n n.toNat).Perm (idL n.toNat) := by
  have hn : (permL seed n n.toNat).Nodup := nodup_map List.nodup_range fun a ha b hb e => by
    have ha := List.mem_range.1 ha
    have hb := List.mem_range.1 hb
    have := congrArg (fromA seed n) e
    rw [from_to (i := (a : Int)) ⟨h1, h2, by omega, by omega⟩, from_to (i := (b : Int)) ⟨h1, h2, by omega, by omega⟩] at this
    omega
  obtain ⟨rest, hp⟩ := sub_perm (r := idL n.toNat) hn fun x hx => by
    obtain ⟨j, hj, rfl⟩ := List.mem_map.1 hx
    have hj := List.mem_range.1 hj
    have ht := to_in (seed := seed) (n := n) (i := (j : Int)) ⟨h1, h2, by omega, by omega⟩
    refine List.mem_map.2 ⟨(toA seed n j).toNat, List.mem_range.2 ?_, ?_⟩
    · have := ht.2.2.1; have := ht.2.2.2; omega
    · have := ht.2.2.1; omega
  have hl := hp.length_eq
  rw [List.length_append, permL_len] at hl
  have hl2 : (idL n.toNat).length = n.toNat := by simp [idL]
  rw [hl2] at hl
  have hr : rest = [] := List.length_eq_zero_iff.1 (by omega)
  rw [hr, List.append_nil] at hp
  exact hp

theorem F19_loop (l : List Int) (hl : l.length ≤ 1000) (hb : ∀ x ∈ l, 0 ≤ x ∧ x ≤ 1000) : ∃ b, iter (F19_s1 l) big ⟨0, 0⟩ = some b ∧ b.sum = sumL l := by
  have hbnd : ∀ k : Nat, k ≤ l.length → 0 ≤ sumL (l.take k) ∧ sumL (l.take k) ≤ 1000 * k := by
    intro k
    induction k with
    | zero => intro _; simp [sumL]
    | succ k ih =>
      intro hk
      obtain ⟨y, hy, hm⟩ := get_of (show k < l.length by omega)
      have := ih (by omega)
      have := hb y hm
      rw [List.take_add_one, hy, Option.toList_some, sumL_app]
      omega
  have key := @iter_inv _ _ (F19_s1 l) (fun x => ∃ j : Nat, j ≤ l.length ∧ x.i = j ∧ x.sum = sumL (l.take j)) (fun x => l.length + 1 - x.i.toNat) (fun b => b.sum = sumL l) (by
    rintro ⟨s, t⟩ ⟨j, hj, rfl, hs⟩
    simp only at hs
    subst hs
    by_cases hlt : j < l.length
    · left
      obtain ⟨y, hy, hm⟩ := get_of hlt
      have b1 := hbnd j (by omega)
      have b2 := hb y hm
      refine ⟨_, by
        simp only [F19_s1]
        rw [decide_eq_true (show (j : Int) < (l.length : Int) by omega), ct, ix_nat hy, ob], ⟨j + 1, by omega, wrap_succ (n := j) (by omega), ?_⟩, ?_⟩
      · show IntKind.i64.wrap (sumL (l.take j) + y) = _
        rw [wrapI (by omega) (by omega), List.take_add_one, hy, Option.toList_some, sumL_app]
      · simp only [wrap_succ (show j < 4000000000 by omega)]; omega
    · right
      obtain rfl : j = l.length := by omega
      refine ⟨_, by
        simp only [F19_s1]
        rw [decide_eq_false (show ¬ ((l.length : Nat) : Int) < (l.length : Int) by omega), cf], ?_⟩
      rw [List.take_length])
  exact key (n := big) (x := ⟨0, 0⟩) ⟨0, by omega, rfl, rfl⟩ (big_gt (by show l.length + 1 - 0 < _; omega))

theorem shSums (seed n : Int) : F19 seed n = some true := by
  unfold F19
  rw [F55_eq, ob, Bool.not_true, cf, ob]
  by_cases h : n > 60
  · rw [decide_eq_true h, ct]
  · rw [decide_eq_false h, cf, F60_eq, ob]
    obtain ⟨b, hb, hs⟩ := F19_loop (permP seed n) (by unfold permP; split; · rw [permL_len]; omega
                                                      · simp) (fun x hx => by
      unfold permP at hx
      split at hx
      · next hn =>
        obtain ⟨j, hj, rfl⟩ := List.mem_map.1 hx
        have hj := List.mem_range.1 hj
        have ht := to_in (seed := seed) (n := n) (i := (j : Int)) ⟨hn.1, hn.2, by omega, by omega⟩
        have := ht.2.2.1; have := ht.2.2.2
        exact ⟨by omega, by omega⟩
      · cases hx)
    rw [hb, ob]
    by_cases h1 : n < 1
    · rw [decide_eq_true h1, ct]
      unfold permP
      rw [if_neg (by omega)]; rfl
    · rw [decide_eq_false h1, cf]
      have e1 : permP seed n = permL seed n n.toNat := by unfold permP; rw [if_pos ⟨by omega, by omega⟩]
      rw [e1, sumL_perm (perm_sum (seed := seed) (n := n) (by omega) (by omega))] at hs
      have h2 := sum_idL n.toNat
      have e2 : ((n.toNat : Nat) : Int) = n := by omega
      rw [e2] at h2
      have hb0 : 0 ≤ n * (n - 1) ∧ n * (n - 1) ≤ 60 * 60 := ⟨Int.mul_nonneg (by omega) (by omega), Int.mul_le_mul (by omega) (by omega) (by omega) (by omega)⟩
      rw [hs, h2, wrapI (n := n - 1) (by omega) (by omega), beqt rfl, ct, F56_eq, ob, F56_eq, ob]
      have p0 : Pl 2 0 := by decide
      have p1 : Pl 2 1 := by decide
      have t0 := to_in (seed := seed) p0
      have t1 := to_in (seed := seed) p1
      have hne : toA seed 2 0 ≠ toA seed 2 1 := fun e => by
        have := congrArg (fromA seed 2) e
        rw [from_to p0, from_to p1] at this
        omega
      rw [atP, if_pos p0, atP, if_pos p1]
      have := t0.2.2.1; have := t0.2.2.2; have := t1.2.2.1; have := t1.2.2.2
      rw [show toA seed 2 0 + toA seed 2 1 = 1 by omega]
      rfl

theorem five (n i : Int) : (bif !true then some true else bif decide (n < 1) then some true else bif decide (n > 60) then some true else bif decide (i < 0) then some true else some (decide (i ≥ n))) = some (decide (¬ (Pl n i ∧ n ≤ 60))) := by
  rw [Bool.not_true, cf]
  simp only [bifd]
  split
  · rw [decide_eq_true]; rintro ⟨h, -⟩; have := h.1; omega
  · split
    · rw [decide_eq_true]; rintro ⟨h, h2⟩; omega
    · split
      · rw [decide_eq_true]; rintro ⟨h, -⟩; have := h.2.2.1; omega
      · congr 1
        exact decide_eq_decide.2 ⟨fun h hp => by have := hp.1.2.2.2; omega, fun h => by
          refine Classical.byContradiction fun hc => h ⟨⟨by omega, by omega, by omega, by omega⟩, by omega⟩⟩

theorem shAll (seed n i : Int) : F20 seed n i = some true := by
  unfold F20
  rw [F55_eq, ob, five, ob]
  by_cases h : Pl n i ∧ n ≤ 60
  · obtain ⟨h, h6⟩ := h
    have hg : ix (permP seed n) i = some (toA seed n i) := by
      have := perm_get (seed := seed) h.1 h.2.1 (j := i.toNat) (by have := h.2.2.1; have := h.2.2.2; omega)
      rwa [show ((i.toNat : Nat) : Int) = i by have := h.2.2.1; omega] at this
    rw [decide_eq_false (not_not_intro ⟨h, h6⟩), cf, F60_eq, ob, perm_len h.1 h.2.1, beqt rfl, ct, hg, ob, F56_eq, ob, atP, if_pos h, beqt rfl, ct, ob, F58_eq, ob, backP, if_pos (to_in h), from_to h, beqt rfl]
  · rw [decide_eq_true h, ct]
end Go.Mg
