/- Weights of blocks, heads: what stands alone, and the reference. Weights of blocks; the head. Views: clones, and what stands alone. Views: what may be at all; a view that grows, begun. Conditions: none. -/
import Derived.Test.YtabjakfgaodocaaGreatX5
import Derived.Test.YtabjakfgaodocaaGreatX3
namespace Go.Mg
open Go.Proofs
def F175 (x : Int) : Option Bool :=
  some (x != x)
set_option maxRecDepth 100000 in
theorem c175 {x : Int} {r_ : Bool} (hr : F175 x = some r_) : LPure Tryz.prog 222 [.int .u64 x] [.bool r_] := by
  refine LPure.start Tryz.func222 rfl rfl rfl rfl ?_
  unfold F175 at hr
  refine LW.seq (LW.region (LOps.st rfl rfl rfl (LOp.assign rfl rfl) (LOps.nil (thn_n (LW.seq (LW.region (LOps.st rfl rfl rfl (LOp.move rfl rfl) (LOps.st rfl rfl rfl (LOp.move rfl rfl) (LOps.st rfl rfl rfl (LOp.bin rfl rfl rfl rfl) (LOps.st rfl rfl rfl (LOp.assign rfl rfl) (LOps.nil ?_)))))))))))
  refine thn_n (LW.ret ?_)
  obtain rfl := Option.some.inj hr
  refine finP_ret (.one (.tmp rfl)) ?_
  exact Conv.p
def F168 (x : Int) (y : Int) : Option Int :=
  (F175 x).bind fun v1 =>
  (F175 y).bind fun v2 =>
  bif v1 then
    bif v2 then
      some 0
    else
      some (-1)
  else
    bif v2 then
      some 1
    else
      bif decide (x < y) then
        some (-1)
      else
        bif decide (x > y) then
          some 1
        else
          some 0
set_option maxRecDepth 100000 in
theorem c168 {x : Int} {y : Int} {r_ : Int} (hr : F168 x y = some r_) : LPure Tryz.prog 214 [.int .u64 x, .int .u64 y] [.int .i64 r_] := by
  refine LPure.start Tryz.func214 rfl rfl rfl rfl ?_
  unfold F168 at hr
  refine LW.seq (LW.region (LOps.st rfl rfl rfl (LOp.assign rfl rfl) (LOps.nil (thn_n (LW.seq (LW.region (LOps.st rfl rfl rfl (LOp.move rfl rfl) ?_)))))))
  obtain ⟨v1, h_v1, hr⟩ := bind_get hr
  refine LOps.st rfl rfl rfl (LOp.call rfl rfl rfl (by kernel_rfl) (LC.pure (c175 h_v1) (.cons Conv.p .nil))) (LOps.st rfl rfl rfl (LOp.assign rfl rfl) (LOps.nil (thn_n (LW.seq (LW.region (LOps.st rfl rfl rfl (LOp.move rfl rfl) ?_))))))
  obtain ⟨v2, h_v2, hr⟩ := bind_get hr
  refine LOps.st rfl rfl rfl (LOp.call rfl rfl rfl (by kernel_rfl) (LC.pure (c175 h_v2) (.cons Conv.p .nil))) (LOps.st rfl rfl rfl (LOp.assign rfl rfl) (LOps.nil (thn_n (LW.seq (LW.seq (LW.region (LOps.st rfl rfl rfl (LOp.move rfl rfl) (LOps.nil (thn_n ?_)))))))))
  refine LW.cond rfl (fun (g1 : v1 = true) => ?_) (fun (g1 : v1 = false) => ?_)
  ·
    have hr := ite_t g1 hr
    refine LW.seq (LW.seq (LW.region (LOps.st rfl rfl rfl (LOp.move rfl rfl) (LOps.nil (thn_n ?_)))))
    refine LW.cond rfl (fun (g2 : v2 = true) => ?_) (fun (g2 : v2 = false) => ?_)
    ·
      have hr := ite_t g2 hr
      refine LW.seq (LW.region (LOps.st rfl rfl rfl (LOp.assign rfl rfl) (LOps.nil (thn_n (LW.ret (thn_r (thn_r ?_)))))))
      obtain rfl := Option.some.inj hr
      refine finP_ret (.one (.tmp rfl)) ?_
      exact Conv.p
    ·
      have hr := ite_f g2 hr
      refine LW.skip (thn_n (LW.seq (LW.region (LOps.st rfl rfl rfl (LOp.assign rfl rfl) (LOps.nil (thn_n (LW.ret (thn_r ?_))))))))
      obtain rfl := Option.some.inj hr
      refine finP_ret (.one (.tmp rfl)) ?_
      exact Conv.p
  ·
    have hr := ite_f g1 hr
    refine LW.skip (thn_n (LW.seq (LW.seq (LW.region (LOps.st rfl rfl rfl (LOp.move rfl rfl) (LOps.nil (thn_n ?_)))))))
    refine LW.cond rfl (fun (g3 : v2 = true) => ?_) (fun (g3 : v2 = false) => ?_)
    ·
      have hr := ite_t g3 hr
      refine LW.seq (LW.region (LOps.st rfl rfl rfl (LOp.assign rfl rfl) (LOps.nil (thn_n (LW.ret (thn_r ?_))))))
      obtain rfl := Option.some.inj hr
      refine finP_ret (.one (.tmp rfl)) ?_
      exact Conv.p
    ·
      have hr := ite_f g3 hr
      refine LW.skip (thn_n (LW.seq (LW.seq (LW.region (LOps.st rfl rfl rfl (LOp.move rfl rfl) (LOps.st rfl rfl rfl (LOp.move rfl rfl) (LOps.st rfl rfl rfl (LOp.bin rfl rfl rfl rfl) (LOps.nil (thn_n ?_)))))))))
      refine LW.cond rfl (fun (g4 : (decide (x < y)) = true) => ?_) (fun (g4 : (decide (x < y)) = false) => ?_)
      ·
        have hr := ite_t g4 hr
        refine LW.seq (LW.region (LOps.st rfl rfl rfl (LOp.assign rfl rfl) (LOps.nil (thn_n (LW.ret (thn_r ?_))))))
        obtain rfl := Option.some.inj hr
        refine finP_ret (.one (.tmp rfl)) ?_
        exact Conv.p
      ·
        have hr := ite_f g4 hr
        refine LW.skip (thn_n (LW.seq (LW.seq (LW.region (LOps.st rfl rfl rfl (LOp.move rfl rfl) (LOps.st rfl rfl rfl (LOp.move rfl rfl) (LOps.st rfl rfl rfl (LOp.bin rfl rfl rfl rfl) (LOps.nil (thn_n ?_)))))))))
        refine LW.cond rfl (fun (g5 : (decide (x > y)) = true) => ?_) (fun (g5 : (decide (x > y)) = false) => ?_)
        ·
          have hr := ite_t g5 hr
          refine LW.seq (LW.region (LOps.st rfl rfl rfl (LOp.assign rfl rfl) (LOps.nil (thn_n (LW.ret (thn_r ?_))))))
          obtain rfl := Option.some.inj hr
          refine finP_ret (.one (.tmp rfl)) ?_
          exact Conv.p
        ·
          have hr := ite_f g5 hr
          refine LW.skip (thn_n (LW.seq (LW.region (LOps.st rfl rfl rfl (LOp.assign rfl rfl) (LOps.nil (thn_n (LW.ret ?_)))))))
          obtain rfl := Option.some.inj hr
          refine finP_ret (.one (.tmp rfl)) ?_
          exact Conv.p
structure F151_L1 where
  t11 : Int
def F151_s1 (s1 : List Int) (s2 : List Int) (x1 : F151_L1) : Option (F151_L1 ⊕ (F151_L1 ⊕ Int)) :=
  bif decide (x1.t11 < (s1.length : Int)) then
    (ix s1 x1.t11).bind fun y1 =>
    bif decide (x1.t11 ≥ (s2.length : Int)) then
      some (.inr (.inr 1))
    else
      (ix s2 x1.t11).bind fun y2 =>
      (F168 y1 y2).bind fun v2 =>
      bif v2 != 0 then
        some (.inr (.inr v2))
      else
        some (.inl (F151_L1.mk (IntKind.i64.wrap (x1.t11 + 1))))
  else
    some (.inr (.inl (F151_L1.mk x1.t11)))
def F151 (s1 : List Int) (s2 : List Int) : Option Int :=
  (iter (F151_s1 s1 s2) big (F151_L1.mk 0)).bind fun b_v1 => Sum.elim (fun _ =>
    bif decide ((s1.length : Int) < (s2.length : Int)) then
      some (-1)
    else
      some 0) some b_v1
set_option maxRecDepth 100000 in
theorem c151 {s1 : List Int} {s2 : List Int} {r_ : Int} (hr : F151 s1 s2 = some r_) : LPure Tryz.prog 193 [.slice 1 (s1.map wordP), .slice 1 (s2.map wordP)] [.int .i64 r_] := by
  refine LPure.start Tryz.func193 rfl rfl rfl rfl ?_
  unfold F151 at hr
  refine LW.seq (LW.region (LOps.st rfl rfl rfl (LOp.assign rfl rfl) (LOps.nil (thn_n (LW.seq (LW.seq (LW.region (LOps.st rfl rfl rfl (LOp.move rfl rfl) (LOps.st rfl rfl rfl (LOp.lenM rfl rfl (by kernel_rfl)) (LOps.st rfl rfl rfl (LOp.move rfl rfl) (LOps.nil ?_)))))))))))
  refine thn_n ?_
  obtain ⟨b_v1, hb_v1, ho_v1⟩ := bind_get hr
  clear hr
  refine LW.tailB (b := b_v1) (E := fun v1 => [(0, .p (.slice 1 (s1.map wordP))), (1, .p (.slice 1 (s2.map wordP))), (4, .p (.int .i64 0))]) (O := fun v1 => []) ?_ (fun v1 e_v1 env_v1 H_v1 hw_v1 => ?_)
  · refine LW.block ?_
    refine LW.iterB (E := fun x1 : F151_L1 => [(0, .p (.slice 1 (s1.map wordP))), (1, .p (.slice 1 (s2.map wordP))), (4, .p (.int .i64 0)), (9, .p (.slice 1 (s1.map wordP))), (10, .p (.int .i64 (s1.length : Int))), (11, .p (.int .i64 x1.t11))]) (O := fun x1 => []) hb_v1 (Weak.of 0 ⟨rfl, rfl, rfl, rfl, rfl, rfl, trivial⟩ rfl rfl rfl rfl) (fun x1 z_x1 hr hb_x1 => ?_)
    unfold F151_s1 at hr
    refine LW.seq (LW.region (LOps.st rfl rfl rfl (LOp.bin rfl rfl rfl rfl) (LOps.nil (thn_n (LW.seq ?_)))))
    refine LW.cond rfl (fun (g1 : (decide (x1.t11 < (s1.length : Int))) = true) => ?_) (fun (g1 : (decide (x1.t11 < (s1.length : Int))) = false) => ?_)
    ·
      have hr := ite_t g1 hr
      refine LW.skip (thn_n (LW.seq (LW.block (LW.seq (LW.region (LOps.st rfl rfl rfl (LOp.move rfl rfl) ?_))))))
      obtain ⟨y1, h_y1, hr⟩ := bind_get hr
      refine LOps.st rfl rfl rfl (LOp.indexAddrX rfl rfl rfl st98 h_y1 rfl) (LOps.st rfl rfl rfl (LOp.loadC rfl rfl rfl vt22 rfl rfl) (LOps.st rfl rfl rfl (LOp.assign rfl rfl) (LOps.st rfl rfl rfl (LOp.assign rfl rfl) (LOps.nil (thn_n (LW.seq (LW.seq (LW.region (LOps.st rfl rfl rfl (LOp.move rfl rfl) (LOps.st rfl rfl rfl (LOp.move rfl rfl) (LOps.st rfl rfl rfl (LOp.lenM rfl rfl (by kernel_rfl)) ?_)))))))))))
      refine LOps.st rfl rfl rfl (LOp.bin rfl rfl rfl rfl) (LOps.nil (thn_n ?_))
      refine LW.cond rfl (fun (g2 : (decide (x1.t11 ≥ (s2.length : Int))) = true) => ?_) (fun (g2 : (decide (x1.t11 ≥ (s2.length : Int))) = false) => ?_)
      ·
        have hr := ite_t g2 hr
        refine LW.seq (LW.region (LOps.st rfl rfl rfl (LOp.assign rfl rfl) (LOps.nil (thn_n (LW.ret (thn_r (inBlk_r (thn_r (thn_r (inBlk_r (thn_r ?_)))))))))))
        refine thn_r ?_
        obtain rfl := Option.some.inj hr
        have hr := congrArg some (hb_x1 _ rfl)
        obtain rfl := Option.some.inj hr
        have hr := sum_r ho_v1
        obtain rfl := Option.some.inj hr
        refine finP_ret (.one (.tmp rfl)) ?_
        exact Conv.p
      ·
        have hr := ite_f g2 hr
        refine LW.skip (thn_n (LW.seq (LW.region (LOps.st rfl rfl rfl (LOp.move rfl rfl) (LOps.st rfl rfl rfl (LOp.move rfl rfl) ?_)))))
        obtain ⟨y2, h_y2, hr⟩ := bind_get hr
        refine LOps.st rfl rfl rfl (LOp.indexAddrX rfl rfl rfl st98 h_y2 rfl) (LOps.st rfl rfl rfl (LOp.loadC rfl rfl rfl vt22 rfl rfl) (LOps.st rfl rfl rfl (LOp.assign rfl rfl) (LOps.nil (thn_n (LW.seq (LW.region (LOps.st rfl rfl rfl (LOp.move rfl rfl) (LOps.st rfl rfl rfl (LOp.move rfl rfl) ?_))))))))
        obtain ⟨v2, h_v2, hr⟩ := bind_get hr
        refine LOps.st rfl rfl rfl (LOp.call rfl rfl rfl (by kernel_rfl) (LC.pure (c168 h_v2) (.cons Conv.p (.cons Conv.p .nil)))) (LOps.st rfl rfl rfl (LOp.assign rfl rfl) (LOps.nil (thn_n (LW.seq (LW.region (LOps.st rfl rfl rfl (LOp.move rfl rfl) (LOps.st rfl rfl rfl (LOp.bin rfl rfl rfl rfl) (LOps.nil (thn_n ?_)))))))))
        refine LW.cond rfl (fun (g3 : (v2 != 0) = true) => ?_) (fun (g3 : (v2 != 0) = false) => ?_)
        ·
          have hr := ite_t g3 hr
          refine LW.seq (LW.region (LOps.st rfl rfl rfl (LOp.move rfl rfl) (LOps.st rfl rfl rfl (LOp.assign rfl rfl) (LOps.nil (thn_n (LW.ret (inBlk_r (thn_r (thn_r (inBlk_r (thn_r ?_)))))))))))
          refine thn_r ?_
          obtain rfl := Option.some.inj hr
          have hr := congrArg some (hb_x1 _ rfl)
          obtain rfl := Option.some.inj hr
          have hr := sum_r ho_v1
          obtain rfl := Option.some.inj hr
          refine finP_ret (.one (.tmp rfl)) ?_
          exact Conv.p
        ·
          have hr := ite_f g3 hr
          refine LW.skip (inBlk_n (thn_n (LW.region (LOps.st rfl rfl rfl (LOp.bin rfl rfl rfl rfl) (LOps.st rfl rfl rfl (LOp.move rfl rfl) (LOps.nil (thn_n ?_)))))))
          obtain rfl := Option.some.inj hr
          exact ⟨_, rfl, Weak.of 0 ⟨rfl, rfl, rfl, rfl, rfl, rfl, trivial⟩ rfl rfl rfl rfl⟩
    ·
      have hr := ite_f g1 hr
      refine LW.exit (thn_e (thn_e (inBlk_self (thn_n ?_))))
      obtain rfl := Option.some.inj hr
      have hr := congrArg some (hb_x1 _ rfl)
      obtain rfl := Option.some.inj hr
      exact ⟨_, rfl, Weak.of 0 ⟨rfl, rfl, rfl, trivial⟩ rfl rfl rfl rfl⟩
  · obtain rfl := e_v1
    have hr := sum_l ho_v1
    clear hb_v1
    refine thn_n (LW.weak hw_v1 (LW.seq (LW.seq (LW.region (LOps.st rfl rfl rfl (LOp.move rfl rfl) (LOps.st rfl rfl rfl (LOp.lenM rfl rfl (by kernel_rfl)) (LOps.st rfl rfl rfl (LOp.move rfl rfl) (LOps.st rfl rfl rfl (LOp.lenM rfl rfl (by kernel_rfl)) (LOps.st rfl rfl rfl (LOp.bin rfl rfl rfl rfl) (LOps.nil (thn_n ?_)))))))))))
    refine LW.cond rfl (fun (g4 : (decide ((s1.length : Int) < (s2.length : Int))) = true) => ?_) (fun (g4 : (decide ((s1.length : Int) < (s2.length : Int))) = false) => ?_)
    ·
      have hr := ite_t g4 hr
      refine LW.seq (LW.region (LOps.st rfl rfl rfl (LOp.assign rfl rfl) (LOps.nil (thn_n (LW.ret (thn_r ?_))))))
      obtain rfl := Option.some.inj hr
      refine finP_ret (.one (.tmp rfl)) ?_
      exact Conv.p
    ·
      have hr := ite_f g4 hr
      refine LW.skip (thn_n (LW.seq (LW.region (LOps.st rfl rfl rfl (LOp.assign rfl rfl) (LOps.nil (thn_n (LW.ret ?_)))))))
      obtain rfl := Option.some.inj hr
      refine finP_ret (.one (.tmp rfl)) ?_
      exact Conv.p
def F120 (a : ID) (b : ID) : Option Bool :=
  (F151 [a.1, a.2] [b.1, b.2]).bind fun v1 =>
  some (decide (v1 < 0))
set_option maxRecDepth 100000 in
theorem c120 {a : ID} {b : ID} {r_ : Bool} (hr : F120 a b = some r_) : LPure Tryz.prog 195 [idP a, idP b] [.bool r_] := by
  refine LPure.start Tryz.func195 rfl rfl rfl rfl ?_
  unfold F120 at hr
  refine LW.seq (LW.region (LOps.st rfl rfl rfl (LOp.box rfl rfl rfl rfl rfl) (LOps.st rfl rfl rfl (LOp.box rfl rfl rfl rfl rfl) (LOps.st rfl rfl rfl (LOp.assign rfl rfl) (LOps.nil (thn_n (LW.seq (LW.draw (by kernel_rfl) (by kernel_rfl) (LO.st rfl rfl rfl (LOp.sliceBox rfl rfl at24 rfl rfl rfl) (LO.st rfl rfl rfl (LOp.sliceBox rfl rfl at24 rfl rfl rfl) ?_))))))))))
  obtain ⟨v1, h_v1, hr⟩ := bind_get hr
  refine LO.st rfl rfl rfl (LOp.call rfl rfl rfl (by kernel_rfl) (LC.lend (c151 h_v1) (.cons (Conv.boxSlice rfl rfl rfl rfl) (.cons (Conv.boxSlice rfl rfl rfl rfl) .nil)) rfl)) (LO.st rfl rfl rfl (LOp.bin rfl rfl rfl rfl) (LO.st rfl rfl rfl (LOp.assign rfl rfl) (LO.nil (thn_n (LW.ret ?_)))))
  obtain rfl := Option.some.inj hr
  refine finP_ret (.one (.tmp rfl)) ?_
  exact Conv.p
def F122 (a : Rk) (b : Rk) : Option Bool :=
  bif a.n != b.n then
    some (decide (a.n > b.n))
  else
    bif !((a.n == b.n) && ((a.id.1 == b.id.1) && ((a.id.2 == b.id.2) && true))) then
      (F120 b.id a.id).bind fun v1 =>
      some v1
    else
      some false
set_option maxRecDepth 100000 in
theorem c122 {a : Rk} {b : Rk} {r_ : Bool} (hr : F122 a b = some r_) : LPure Tryz.prog 163 [rkP a, rkP b] [.bool r_] := by
  refine LPure.start Tryz.func163 rfl rfl rfl rfl ?_
  unfold F122 at hr
  refine LW.seq (LW.region (LOps.st rfl rfl rfl (LOp.box rfl rfl rfl rfl rfl) (LOps.st rfl rfl rfl (LOp.box rfl rfl rfl rfl rfl) (LOps.st rfl rfl rfl (LOp.assign rfl rfl) (LOps.nil (thn_n (LW.seq (LW.seq (LW.region (LOps.st rfl rfl rfl (LOp.fieldAddr rfl rfl ft136_0) (LOps.st rfl rfl rfl (LOp.load rfl rfl rfl vt3 rfl rfl) ?_)))))))))))
  refine LOps.st rfl rfl rfl (LOp.fieldAddr rfl rfl ft136_0) (LOps.st rfl rfl rfl (LOp.load rfl rfl rfl vt3 rfl rfl) (LOps.st rfl rfl rfl (LOp.bin rfl rfl rfl rfl) (LOps.nil (thn_n ?_))))
  refine LW.cond rfl (fun (g1 : (a.n != b.n) = true) => ?_) (fun (g1 : (a.n != b.n) = false) => ?_)
  ·
    have hr := ite_t g1 hr
    refine LW.seq (LW.region (LOps.st rfl rfl rfl (LOp.fieldAddr rfl rfl ft136_0) (LOps.st rfl rfl rfl (LOp.load rfl rfl rfl vt3 rfl rfl) (LOps.st rfl rfl rfl (LOp.fieldAddr rfl rfl ft136_0) (LOps.st rfl rfl rfl (LOp.load rfl rfl rfl vt3 rfl rfl) (LOps.st rfl rfl rfl (LOp.bin rfl rfl rfl rfl) (LOps.st rfl rfl rfl (LOp.assign rfl rfl) (LOps.nil (thn_n (LW.ret (thn_r ?_)))))))))))
    obtain rfl := Option.some.inj hr
    refine finP_ret (.one (.tmp rfl)) ?_
    exact Conv.p
  ·
    have hr := ite_f g1 hr
    refine LW.skip (thn_n (LW.seq (LW.region (LOps.st rfl rfl rfl (LOp.load rfl rfl rfl vt136 rfl rfl) (LOps.st rfl rfl rfl (LOp.load rfl rfl rfl vt136 rfl rfl) (LOps.st rfl rfl rfl (LOp.neqAgg rfl rfl rfl rfl rfl eqt136) (LOps.st rfl rfl rfl (LOp.move rfl rfl) ?_)))))))
    refine LOps.cases 18 rfl (fun (g2 : (!((a.n == b.n) && ((a.id.1 == b.id.1) && ((a.id.2 == b.id.2) && true)))) = true) => ?_) (fun (g2 : (!((a.n == b.n) && ((a.id.1 == b.id.1) && ((a.id.2 == b.id.2) && true)))) = false) => ?_)
    ·
      have hr := ite_t g2 hr
      refine LOps.gd rfl rfl rfl (gd g2 rfl) rfl (LOp.fieldAddr rfl rfl ft136_1) (LOps.gd rfl rfl rfl (gd g2 rfl) rfl (LOp.load rfl rfl rfl vt24 rfl rfl) (LOps.gd rfl rfl rfl (gd g2 rfl) rfl (LOp.fieldAddr rfl rfl ft136_1) (LOps.gd rfl rfl rfl (gd g2 rfl) rfl (LOp.load rfl rfl rfl vt24 rfl rfl) ?_)))
      obtain ⟨v1, h_v1, hr⟩ := bind_get hr
      refine LOps.gd rfl rfl rfl (gd g2 rfl) rfl (LOp.call rfl rfl rfl (by kernel_rfl) (LC.pure (c120 h_v1) (.cons Conv.p (.cons Conv.p .nil)))) (LOps.st rfl rfl rfl (LOp.pickT rfl (gdl g2 rfl) rfl) (LOps.st rfl rfl rfl (LOp.assign rfl rfl) (LOps.nil (thn_n (LW.ret ?_)))))
      obtain rfl := Option.some.inj hr
      refine finP_ret (.one (.tmp rfl)) ?_
      exact Conv.p
    ·
      have hr := ite_f g2 hr
      refine LOps.sk rfl rfl rfl (gd g2 rfl) rfl rfl (LOps.sk rfl rfl rfl (gd g2 rfl) rfl rfl (LOps.sk rfl rfl rfl (gd g2 rfl) rfl rfl (LOps.sk rfl rfl rfl (gd g2 rfl) rfl rfl (LOps.sk rfl rfl rfl (gd g2 rfl) rfl rfl (LOps.st rfl rfl rfl (LOp.pickF rfl (gdl g2 rfl) rfl) (LOps.st rfl rfl rfl (LOp.assign rfl rfl) (LOps.nil (thn_n (LW.ret ?_)))))))))
      obtain rfl := Option.some.inj hr
      refine finP_ret (.one (.tmp rfl)) ?_
      exact Conv.p
def F154 (x : Vt) : Option Int :=
  some x.From
set_option maxRecDepth 100000 in
theorem c154 {x : Vt} {r_ : Int} (hr : F154 x = some r_) : LPure Tryz.prog 190 [vtP x] [.int .i64 r_] := by
  refine LPure.start Tryz.func190 rfl rfl rfl rfl ?_
  unfold F154 at hr
  refine LW.seq (LW.region (LOps.st rfl rfl rfl (LOp.box rfl rfl rfl rfl rfl) (LOps.st rfl rfl rfl (LOp.assign rfl rfl) (LOps.nil (thn_n (LW.seq (LW.region (LOps.st rfl rfl rfl (LOp.fieldAddr rfl rfl ft82_0) (LOps.st rfl rfl rfl (LOp.load rfl rfl rfl vt3 rfl rfl) (LOps.st rfl rfl rfl (LOp.assign rfl rfl) (LOps.nil ?_)))))))))))
  refine thn_n (LW.ret ?_)
  obtain rfl := Option.some.inj hr
  refine finP_ret (.one (.tmp rfl)) ?_
  exact Conv.p
structure F155_L1 where
  i : Int
  out : List ID
structure F169_L1 where
  i : Int
  id : ID
structure F156_L1 where
  i : Int
  who : List Int
structure F124_L1 where
  most : Int
  i : Int
  best : ID
structure F82_L1 where
  i : Int
  id : ID
open Go.Proofs
def F152 (x : Vt) (_ : Cf) (l : List Bk) (id : ID) (m : List (ID × Bool)) : Option (Bool × (List (ID × Bool))) :=
  bif !((findE m x.Head).isSome) then
    bif few l then
      some (decide (indexOf (chainOf l x.Head) id ≥ 0), setE m x.Head (decide (indexOf (chainOf l x.Head) id ≥ 0)))
    else none
  else
    some ((findE m x.Head).getD false, m)
set_option maxRecDepth 100000 in
theorem cF152 {x : Vt} {c : Cf} {l : List Bk} {id : ID} {m : List (ID × Bool)} {r_ : Bool × (List (ID × Bool))} (hr : F152 x c l id m = some r_) : LC Tryz.prog 187 [.p (vtP x), .ptr 4 0, .ptr 1 0, .ptr 2 0] [.box [.p (.slice 1 (c.W.map i64P)), .p (.int .u64 c.Seed), .p (.int .i64 c.Epoch), .p (.int .i64 c.Num), .p (.int .i64 c.Den)], .box [.p (.slice 5 (l.map blkP))], .box [.p (.int .u64 id.1), .p (.int .u64 id.2)], .map (entsOf idP (fun v => .p (.bool v)) m), .box [.map 3]] (Is (.p (.bool r_.1)) [.box [.p (.slice 1 (c.W.map i64P)), .p (.int .u64 c.Seed), .p (.int .i64 c.Epoch), .p (.int .i64 c.Num), .p (.int .i64 c.Den)], .box [.p (.slice 5 (l.map blkP))], .box [.p (.int .u64 id.1), .p (.int .u64 id.2)], .map (entsOf idP (fun v => .p (.bool v)) r_.2), .box [.map 3]]) := by
  refine LC.start Tryz.func187 rfl rfl rfl ?_
  unfold F152 at hr
  refine LW.seq (LW.region (LOps.st rfl rfl rfl (LOp.box rfl rfl rfl rfl rfl) (LOps.st rfl rfl rfl (LOp.assign rfl rfl) (LOps.nil (thn_n (LW.seq (LW.region (LOps.st rfl rfl rfl (LOp.load rfl rfl rfl vt169 rfl rfl) (LOps.st rfl rfl rfl (LOp.fieldAddr rfl rfl ft82_2) (LOps.st rfl rfl rfl (LOp.load rfl rfl rfl vt24 rfl rfl) ?_))))))))))
  refine LOps.st rfl rfl rfl (LOp.getX (f := idP) (g := (fun v => .p (.bool v))) x.Head false idKey rfl rfl rfl rfl mt169 zl4 rfl rfl) ?_
  refine LOps.st rfl rfl rfl (LOp.move rfl rfl) (LOps.st rfl rfl rfl (LOp.extract rfl rfl rfl) (LOps.st rfl rfl rfl (LOp.extract rfl rfl rfl) (LOps.st rfl rfl rfl (LOp.assign rfl rfl) (LOps.st rfl rfl rfl (LOp.assign rfl rfl) (LOps.nil (thn_n (LW.seq (LW.seq (LW.region (LOps.st rfl rfl rfl (LOp.move rfl rfl) (LOps.st rfl rfl rfl (LOp.not rfl rfl) ?_)))))))))))
  refine LOps.nil (thn_n ?_)
  refine LW.cond rfl (fun (g1 : (!((findE m x.Head).isSome)) = true) => ?_) (fun (g1 : (!((findE m x.Head).isSome)) = false) => ?_)
  ·
    have hr := ite_t g1 hr
    refine LW.seq (LW.draw (by kernel_rfl) (by kernel_rfl) (LO.st rfl rfl rfl (LOp.load rfl rfl rfl vt27 rfl rfl) (LO.st rfl rfl rfl (LOp.fieldAddr rfl rfl ft82_2) (LO.st rfl rfl rfl (LOp.load rfl rfl rfl vt24 rfl rfl) ?_))))
    obtain ⟨q1, hr⟩ := grd_get hr
    refine LO.st rfl rfl rfl (LOp.call rfl rfl rfl (by kernel_rfl) (LC.pure (c39 (l := l) (id := x.Head) (few_le q1)) (.cons Conv.p (.cons Conv.p .nil)))) (LO.st rfl rfl rfl (LOp.load rfl rfl rfl vt24 rfl rfl) (LO.st rfl rfl rfl (LOp.call rfl rfl rfl (by kernel_rfl) (LC.pure (c95 (l := (chainOf l x.Head)) (v := id)) (.cons Conv.p (.cons Conv.p .nil)))) (LO.st rfl rfl rfl (LOp.assign rfl rfl) (LO.nil (thn_n (LW.region (LOps.st rfl rfl rfl (LOp.load rfl rfl rfl vt169 rfl rfl) (LOps.st rfl rfl rfl (LOp.fieldAddr rfl rfl ft82_2) (LOps.st rfl rfl rfl (LOp.load rfl rfl rfl vt24 rfl rfl) (LOps.st rfl rfl rfl (LOp.move rfl rfl) ?_))))))))))
    refine LOps.st rfl rfl rfl (LOp.setX (f := idP) (g := (fun v => .p (.bool v))) x.Head (decide (indexOf (chainOf l x.Head) id ≥ 0)) idKey (.inl rfl) rfl rfl rfl rfl rfl mt169 rfl) ?_
    refine LOps.nil (thn_n (LW.seq (LW.region (LOps.st rfl rfl rfl (LOp.move rfl rfl) (LOps.st rfl rfl rfl (LOp.assign rfl rfl) (LOps.nil (thn_n (LW.ret ?_))))))))
    obtain rfl := Option.some.inj hr
    refine fin_retW (env' := [(5, .p (.bool (decide (indexOf (chainOf l x.Head) id ≥ 0))))]) (H' := [.box [.p (.slice 1 (c.W.map i64P)), .p (.int .u64 c.Seed), .p (.int .i64 c.Epoch), .p (.int .i64 c.Num), .p (.int .i64 c.Den)], .box [.p (.slice 5 (l.map blkP))], .box [.p (.int .u64 id.1), .p (.int .u64 id.2)], .map (entsOf idP (fun v => .p (.bool v)) (setE m x.Head (decide (indexOf (chainOf l x.Head) id ≥ 0)))), .box [.map 3]]) (Weak.of 5 ⟨rfl, trivial⟩ rfl rfl rfl (lowObjs_cons rfl (lowObjs_cons rfl (lowObjs_cons rfl (lowObjs_cons (entsLow (fun _ => rfl) _) (lowObjs_cons rfl rfl)))))) (.one (.tmp rfl)) ?_
    exact ⟨rfl, rfl⟩
  ·
    have hr := ite_f g1 hr
    refine LW.skip (thn_n (LW.seq (LW.region (LOps.st rfl rfl rfl (LOp.move rfl rfl) (LOps.st rfl rfl rfl (LOp.assign rfl rfl) (LOps.nil (thn_n (LW.ret ?_))))))))
    obtain rfl := Option.some.inj hr
    refine fin_retW (env' := [(5, .p (.bool ((findE m x.Head).getD false)))]) (H' := [.box [.p (.slice 1 (c.W.map i64P)), .p (.int .u64 c.Seed), .p (.int .i64 c.Epoch), .p (.int .i64 c.Num), .p (.int .i64 c.Den)], .box [.p (.slice 5 (l.map blkP))], .box [.p (.int .u64 id.1), .p (.int .u64 id.2)], .map (entsOf idP (fun v => .p (.bool v)) m), .box [.map 3]]) (Weak.of 5 ⟨rfl, trivial⟩ rfl rfl rfl (lowObjs_cons rfl (lowObjs_cons rfl (lowObjs_cons rfl (lowObjs_cons (entsLow (fun _ => rfl) _) (lowObjs_cons rfl rfl)))))) (.one (.tmp rfl)) ?_
    exact ⟨rfl, rfl⟩
structure F153_L1 where
  t12 : Int
  o3 : List (ID × Bool)
  out : List Int
def F153_s1 (v : List Vt) (c : Cf) (l : List Bk) (id : ID) (x1 : F153_L1) : Option (F153_L1 ⊕ F153_L1) :=
  bif decide (x1.t12 < (v.length : Int)) then
    (ix v x1.t12).bind fun y1 =>
    (F152 y1 c l id x1.o3).bind fun v2 =>
    bif v2.1 then
      (F154 y1).bind fun v3 =>
      bif room x1.out.length [v3].length 8 then
        some (.inl (F153_L1.mk (IntKind.i64.wrap (x1.t12 + 1)) v2.2 (x1.out ++ [v3])))
      else none
    else
      some (.inl (F153_L1.mk (IntKind.i64.wrap (x1.t12 + 1)) v2.2 x1.out))
  else
    some (.inr (F153_L1.mk x1.t12 x1.o3 x1.out))
def F153 (v : List Vt) (c : Cf) (l : List Bk) (id : ID) (m : List (ID × Bool)) : Option (List Int × List (ID × Bool)) :=
  (iter (F153_s1 v c l id) big (F153_L1.mk 0 m ([] : List Int))).bind fun v1 =>
  some (v1.out, v1.o3)
set_option maxRecDepth 100000 in
theorem cF153 {v : List Vt} {c : Cf} {l : List Bk} {id : ID} {m : List (ID × Bool)} {r_ : List Int × List (ID × Bool)} (hr : F153 v c l id m = some r_) : LC Tryz.prog 189 [.p (.slice 4 (v.map vtP)), .fn 187 [] [.ptr 4 0, .ptr 1 0, .ptr 2 0], .fn 190 [] []] [.box [.p (.slice 1 (c.W.map i64P)), .p (.int .u64 c.Seed), .p (.int .i64 c.Epoch), .p (.int .i64 c.Num), .p (.int .i64 c.Den)], .box [.p (.slice 5 (l.map blkP))], .box [.p (.int .u64 id.1), .p (.int .u64 id.2)], .map (entsOf idP (fun v => .p (.bool v)) m), .box [.map 3]] (Is (.p (.slice 1 (r_.1.map i64P))) [.box [.p (.slice 1 (c.W.map i64P)), .p (.int .u64 c.Seed), .p (.int .i64 c.Epoch), .p (.int .i64 c.Num), .p (.int .i64 c.Den)], .box [.p (.slice 5 (l.map blkP))], .box [.p (.int .u64 id.1), .p (.int .u64 id.2)], .map (entsOf idP (fun v => .p (.bool v)) r_.2), .box [.map 3]]) := by
  refine LC.start Tryz.func189 rfl rfl rfl ?_
  unfold F153 at hr
  refine LW.seq (LW.region (LOps.st rfl rfl rfl (LOp.assign rfl rfl) (LOps.nil (thn_n (LW.seq (LW.region (LOps.st rfl rfl rfl (LOp.assign rfl rfl) (LOps.nil (thn_n (LW.seq (LW.seq ?_)))))))))))
  refine LW.region (LOps.st rfl rfl rfl (LOp.move rfl rfl) (LOps.st rfl rfl rfl (LOp.lenM rfl rfl (by kernel_rfl)) (LOps.st rfl rfl rfl (LOp.move rfl rfl) (LOps.nil (thn_n (LW.ent (Ent.lazy (t := 7) (m := 1) rfl rfl rfl) ?_))))))
  obtain ⟨v1, hb_v1, ho_v1⟩ := bind_get hr
  clear hr
  refine LW.tail (E := [(6, .zs), (7, .vec 1 5 (v1.out.map i64P).length 0 (v1.out.map i64P).length)]) (O := [.box [.p (.slice 1 (c.W.map i64P)), .p (.int .u64 c.Seed), .p (.int .i64 c.Epoch), .p (.int .i64 c.Num), .p (.int .i64 c.Den)], .box [.p (.slice 5 (l.map blkP))], .box [.p (.int .u64 id.1), .p (.int .u64 id.2)], .map (entsOf idP (fun v => .p (.bool v)) v1.o3), .box [.map 3], .vec 1 (v1.out.map i64P)]) ?_ (fun env_v1 H_v1 hw_v1 => ?_)
  · refine LW.block ?_
    refine LW.iterB (E := fun x1 : F153_L1 => [(1, .fn 187 [] [.ptr 4 0, .ptr 1 0, .ptr 2 0]), (2, .fn 190 [] []), (6, .zs), (7, .vec 1 5 (x1.out.map i64P).length 0 (x1.out.map i64P).length), (10, .p (.slice 4 (v.map vtP))), (11, .p (.int .i64 (v.length : Int))), (12, .p (.int .i64 x1.t12))]) (O := fun x1 => [.box [.p (.slice 1 (c.W.map i64P)), .p (.int .u64 c.Seed), .p (.int .i64 c.Epoch), .p (.int .i64 c.Num), .p (.int .i64 c.Den)], .box [.p (.slice 5 (l.map blkP))], .box [.p (.int .u64 id.1), .p (.int .u64 id.2)], .map (entsOf idP (fun v => .p (.bool v)) x1.o3), .box [.map 3], .vec 1 (x1.out.map i64P)]) hb_v1 (Weak.of 6 ⟨rfl, rfl, rfl, rfl, rfl, rfl, rfl, trivial⟩ rfl rfl rfl (lowObjs_cons rfl (lowObjs_cons rfl (lowObjs_cons rfl (lowObjs_cons (entsLow (fun _ => rfl) _) (lowObjs_cons rfl (lowObjs_cons rfl rfl))))))) (fun x1 z_x1 hr hb_x1 => ?_)
    unfold F153_s1 at hr
    refine LW.seq (LW.region (LOps.st rfl rfl rfl (LOp.bin rfl rfl rfl rfl) (LOps.nil (thn_n (LW.seq ?_)))))
    refine LW.cond rfl (fun (g1 : (decide (x1.t12 < (v.length : Int))) = true) => ?_) (fun (g1 : (decide (x1.t12 < (v.length : Int))) = false) => ?_)
    ·
      have hr := ite_t g1 hr
      refine LW.skip (thn_n (LW.seq (LW.block (LW.seq (LW.region ?_)))))
      obtain ⟨y1, h_y1, hr⟩ := bind_get hr
      refine LOps.st rfl rfl rfl (LOp.indexAddrX rfl rfl rfl st68 h_y1 rfl) (LOps.st rfl rfl rfl (LOp.loadC rfl rfl rfl vt82 rfl rfl) (LOps.st rfl rfl rfl (LOp.alloc rfl zt82 rfl rfl) (LOps.st rfl rfl rfl (LOp.store rfl rfl rfl rfl vt82 rfl rfl rfl rfl) (LOps.nil (thn_n (LW.seq (LW.region (LOps.st rfl rfl rfl (LOp.move rfl rfl) (LOps.st rfl rfl rfl (LOp.load rfl rfl rfl vt82 rfl rfl) ?_)))))))))
      obtain ⟨v2, h_v2, hr⟩ := bind_get hr
      refine LOps.st rfl rfl rfl (LOp.call rfl rfl rfl (by kernel_rfl) (LC.pre (cF152 h_v2) rfl (lowObjs_cons rfl (lowObjs_cons rfl (lowObjs_cons rfl (lowObjs_cons (entsLow (fun _ => rfl) _) (lowObjs_cons rfl rfl))))) rfl)) ?_
      refine LOps.nil (thn_n ?_)
      refine LW.cond rfl (fun (g2 : v2.1 = true) => ?_) (fun (g2 : v2.1 = false) => ?_)
      ·
        have hr := ite_t g2 hr
        refine LW.region (LOps.st rfl rfl rfl (LOp.move rfl rfl) (LOps.st rfl rfl rfl (LOp.move rfl rfl) (LOps.st rfl rfl rfl (LOp.load rfl rfl rfl vt82 rfl rfl) ?_)))
        obtain ⟨v3, h_v3, hr⟩ := bind_get hr
        refine LOps.st rfl rfl rfl (LOp.call rfl rfl rfl (by kernel_rfl) (LC.pure (c154 h_v3) (.cons Conv.p .nil))) (LOps.st rfl rfl rfl (LOp.buildSlice rfl st49 rfl rfl rfl rfl rfl) ?_)
        obtain ⟨q1, hr⟩ := grd_get hr
        refine LOps.st rfl rfl rfl (LOp.appendX i64P x1.out [v3] rfl rfl rfl rfl Src.p rfl st49 q1 rfl) (LOps.st rfl rfl rfl (LOp.assign rfl rfl) (LOps.nil (inBlk_n (thn_n (LW.region (LOps.st rfl rfl rfl (LOp.bin rfl rfl rfl rfl) (LOps.st rfl rfl rfl (LOp.move rfl rfl) (LOps.nil (thn_n ?_)))))))))
        obtain rfl := Option.some.inj hr
        exact ⟨_, rfl, Weak.of 6 ⟨rfl, rfl, rfl, rfl, rfl, rfl, rfl, trivial⟩ rfl rfl rfl (lowObjs_cons rfl (lowObjs_cons rfl (lowObjs_cons rfl (lowObjs_cons (entsLow (fun _ => rfl) _) (lowObjs_cons rfl (lowObjs_cons rfl rfl))))))⟩
      ·
        have hr := ite_f g2 hr
        refine LW.skip (inBlk_n (thn_n (LW.region (LOps.st rfl rfl rfl (LOp.bin rfl rfl rfl rfl) (LOps.st rfl rfl rfl (LOp.move rfl rfl) (LOps.nil (thn_n ?_)))))))
        obtain rfl := Option.some.inj hr
        exact ⟨_, rfl, Weak.of 6 ⟨rfl, rfl, rfl, rfl, rfl, rfl, rfl, trivial⟩ rfl rfl rfl (lowObjs_cons rfl (lowObjs_cons rfl (lowObjs_cons rfl (lowObjs_cons (entsLow (fun _ => rfl) _) (lowObjs_cons rfl (lowObjs_cons rfl rfl))))))⟩
    ·
      have hr := ite_f g1 hr
      refine LW.exit (thn_e (thn_e (inBlk_self (thn_n ?_))))
      obtain rfl := Option.some.inj hr
      have hr := congrArg some (hb_x1 _ rfl)
      obtain rfl := Option.some.inj hr
      exact Weak.of 6 ⟨rfl, rfl, trivial⟩ rfl rfl rfl (lowObjs_cons rfl (lowObjs_cons rfl (lowObjs_cons rfl (lowObjs_cons (entsLow (fun _ => rfl) _) (lowObjs_cons rfl (lowObjs_cons rfl rfl))))))
  · have hr := ho_v1
    clear hb_v1
    refine thn_n (LW.weak hw_v1 (LW.seq (LW.region (LOps.st rfl rfl rfl (LOp.move rfl rfl) (LOps.st rfl rfl rfl (LOp.assign rfl rfl) (LOps.nil (thn_n ?_)))))))
    refine LW.weak (env' := [(6, .vec 1 5 (v1.out.map i64P).length 0 (v1.out.map i64P).length)]) (H' := [.box [.p (.slice 1 (c.W.map i64P)), .p (.int .u64 c.Seed), .p (.int .i64 c.Epoch), .p (.int .i64 c.Num), .p (.int .i64 c.Den)], .box [.p (.slice 5 (l.map blkP))], .box [.p (.int .u64 id.1), .p (.int .u64 id.2)], .map (entsOf idP (fun v => .p (.bool v)) v1.o3), .box [.map 3], .vec 1 (v1.out.map i64P)]) (Weak.of 6 ⟨rfl, trivial⟩ rfl rfl rfl (lowObjs_cons rfl (lowObjs_cons rfl (lowObjs_cons rfl (lowObjs_cons (entsLow (fun _ => rfl) _) (lowObjs_cons rfl (lowObjs_cons rfl rfl))))))) ?_
    refine LW.ent (Ent.frz (t := 6) (env' := []) (H0 := [.box [.p (.slice 1 (c.W.map i64P)), .p (.int .u64 c.Seed), .p (.int .i64 c.Epoch), .p (.int .i64 c.Num), .p (.int .i64 c.Den)], .box [.p (.slice 5 (l.map blkP))], .box [.p (.int .u64 id.1), .p (.int .u64 id.2)], .map (entsOf idP (fun v => .p (.bool v)) v1.o3), .box [.map 3]]) rfl rfl rfl rfl rfl trivial rfl (lowObjs_cons rfl (lowObjs_cons rfl (lowObjs_cons rfl (lowObjs_cons (entsLow (fun _ => rfl) _) (lowObjs_cons rfl rfl)))))) ?_
    refine LW.ret ?_
    obtain rfl := Option.some.inj hr
    refine fin_ret (.one (.tmp rfl)) ?_
    exact ⟨rfl, rfl⟩
def F121 (c : Cf) (l : List Bk) (v : List Vt) (id : ID) : Option Int :=
  (F153 v c l id []).bind fun v1 =>
  (F70 c v1.1).bind fun v2 =>
  some v2
set_option maxRecDepth 100000 in
theorem c121 {c : Cf} {l : List Bk} {v : List Vt} {id : ID} {r_ : Int} (hr : F121 c l v id = some r_) : LPure Tryz.prog 158 [cfP c, .slice 5 (l.map blkP), .slice 4 (v.map vtP), idP id] [.int .i64 r_] := by
  refine LPure.start Tryz.func158 rfl rfl rfl rfl ?_
  unfold F121 at hr
  refine LW.seq (LW.region (LOps.st rfl rfl rfl (LOp.box rfl rfl rfl rfl rfl) (LOps.st rfl rfl rfl (LOp.box rfl rfl rfl rfl rfl) (LOps.st rfl rfl rfl (LOp.box rfl rfl rfl rfl rfl) (LOps.st rfl rfl rfl (LOp.assign rfl rfl) (LOps.nil (thn_n (LW.seq (LW.region (LOps.st rfl rfl rfl (LOp.makeMap rfl rfl rfl) (LOps.st rfl rfl rfl (LOp.alloc rfl zt169 rfl rfl) ?_)))))))))))
  refine LOps.st rfl rfl rfl (LOp.store rfl rfl rfl rfl vt169 rfl rfl rfl rfl) (LOps.nil (thn_n (LW.seq (LW.region (LOps.st rfl rfl rfl (LOp.makeFunc rfl rfl rfl) (LOps.st rfl rfl rfl (LOp.assign rfl rfl) (LOps.nil (thn_n (LW.seq (LW.drawW (by kernel_rfl) (by kernel_rfl) (LF.st rfl rfl rfl (LAt.load rfl rfl rfl vt55 rfl rfl) rfl ?_)))))))))))
  refine LF.st (F := []) (s := none) rfl rfl rfl (fun H _ => LOp.move rfl rfl) rfl ?_
  refine LF.st (F := []) (s := none) rfl rfl rfl (fun H _ => LOp.move rfl rfl) rfl ?_
  obtain ⟨v1, h_v1, hr⟩ := bind_get hr
  refine LF.st rfl rfl rfl (LAt.all (s := some (3, .map (entsOf idP (fun v => .p (.bool v)) v1.2))) (LOp.call rfl rfl rfl (by kernel_rfl) (cF153 h_v1)) rfl rfl rfl) rfl ?_
  obtain ⟨v2, h_v2, hr⟩ := bind_get hr
  refine LF.st (F := []) (s := none) rfl rfl rfl (fun H _ => LOp.call rfl rfl rfl (by kernel_rfl) (LC.pure (c70 h_v2) (.cons Conv.p (.cons Conv.p .nil)))) rfl ?_
  refine LF.st (F := []) (s := none) rfl rfl rfl (fun H _ => LOp.assign rfl rfl) rfl ?_
  refine LF.nil ⟨by kernel_rfl, ?_⟩
  refine thn_n (LW.ret ?_)
  obtain rfl := Option.some.inj hr
  refine finP_ret (.one (.tmp rfl)) ?_
  exact Conv.p
structure F79_L1 where
  t19 : Int
  best : Rk
def F79_s1 (c : Cf) (l : List Bk) (v : List Vt) (v1 : (List ID)) (x1 : F79_L1) : Option (F79_L1 ⊕ F79_L1) :=
  bif decide (x1.t19 < (v1.length : Int)) then
    (ix v1 x1.t19).bind fun y1 =>
    (F121 c l v y1).bind fun v3 =>
    (F122 (Rk.mk v3 y1) x1.best).bind fun v4 =>
    bif v4 then
      some (.inl (F79_L1.mk (IntKind.i64.wrap (x1.t19 + 1)) (Rk.mk v3 y1)))
    else
      some (.inl (F79_L1.mk (IntKind.i64.wrap (x1.t19 + 1)) x1.best))
  else
    some (.inr (F79_L1.mk x1.t19 x1.best))
def F79 (c : Cf) (l : List Bk) (v : List Vt) (id : ID) : Option (ID × Bool) :=
  (F46 l id).bind fun v1 =>
  (iter (F79_s1 c l v v1) big (F79_L1.mk 0 (Rk.mk (-1) (0, 0)))).bind fun v2 =>
  some (v2.best.id, decide (v2.best.n ≥ 0))
set_option maxRecDepth 100000 in
theorem c79 {c : Cf} {l : List Bk} {v : List Vt} {id : ID} {r_ : ID × Bool} (hr : F79 c l v id = some r_) : LPure Tryz.prog 134 [cfP c, .slice 5 (l.map blkP), .slice 4 (v.map vtP), idP id] [idP r_.1, .bool r_.2] := by
  refine LPure.start Tryz.func134 rfl rfl rfl rfl ?_
  unfold F79 at hr
  refine LW.seq (LW.region (LOps.st rfl rfl rfl (LOp.box rfl rfl rfl rfl rfl) (LOps.st rfl rfl rfl (LOp.box rfl rfl rfl rfl rfl) (LOps.st rfl rfl rfl (LOp.alloc rfl zt24 rfl rfl) (LOps.st rfl rfl rfl (LOp.assign rfl rfl) (LOps.nil (thn_n (LW.seq (LW.region (LOps.st rfl rfl rfl (LOp.build rfl bt136 rfl rfl rfl) (LOps.st rfl rfl rfl (LOp.alloc rfl zt136 rfl rfl) ?_)))))))))))
  refine LOps.st rfl rfl rfl (LOp.store rfl rfl rfl rfl vt136 rfl rfl rfl rfl) (LOps.nil (thn_n (LW.seq (LW.seq (LW.region (LOps.st rfl rfl rfl (LOp.move rfl rfl) (LOps.st rfl rfl rfl (LOp.load rfl rfl rfl vt24 rfl rfl) ?_)))))))
  obtain ⟨v1, h_v1, hr⟩ := bind_get hr
  refine LOps.st rfl rfl rfl (LOp.call rfl rfl rfl (by kernel_rfl) (LC.pure (c46 h_v1) (.cons Conv.p (.cons Conv.p .nil)))) (LOps.st rfl rfl rfl (LOp.lenM rfl rfl (by kernel_rfl)) (LOps.st rfl rfl rfl (LOp.move rfl rfl) (LOps.nil (thn_n ?_))))
  obtain ⟨v2, hb_v2, ho_v2⟩ := bind_get hr
  clear hr
  refine LW.tail (E := [(8, .ptr 2 0), (9, .p (.bool false)), (10, .ptr 3 0)]) (O := [.box [.p (.slice 1 (c.W.map i64P)), .p (.int .u64 c.Seed), .p (.int .i64 c.Epoch), .p (.int .i64 c.Num), .p (.int .i64 c.Den)], .box [.p (.int .u64 id.1), .p (.int .u64 id.2)], .box [.p (.int .u64 0), .p (.int .u64 0)], .box [.p (.int .i64 v2.best.n), .p (.int .u64 v2.best.id.1), .p (.int .u64 v2.best.id.2)]]) ?_ (fun env_v2 H_v2 hw_v2 => ?_)
  · refine LW.block ?_
    refine LW.iterB (E := fun x1 : F79_L1 => [(1, .p (.slice 5 (l.map blkP))), (2, .p (.slice 4 (v.map vtP))), (4, .ptr 0 0), (8, .ptr 2 0), (9, .p (.bool false)), (10, .ptr 3 0), (17, .p (.slice 2 (v1.map idP))), (18, .p (.int .i64 (v1.length : Int))), (19, .p (.int .i64 x1.t19))]) (O := fun x1 => [.box [.p (.slice 1 (c.W.map i64P)), .p (.int .u64 c.Seed), .p (.int .i64 c.Epoch), .p (.int .i64 c.Num), .p (.int .i64 c.Den)], .box [.p (.int .u64 id.1), .p (.int .u64 id.2)], .box [.p (.int .u64 0), .p (.int .u64 0)], .box [.p (.int .i64 x1.best.n), .p (.int .u64 x1.best.id.1), .p (.int .u64 x1.best.id.2)]]) hb_v2 (Weak.of 4 ⟨rfl, rfl, rfl, rfl, rfl, rfl, rfl, rfl, rfl, trivial⟩ rfl rfl rfl rfl) (fun x1 z_x1 hr hb_x1 => ?_)
    unfold F79_s1 at hr
    refine LW.seq (LW.region (LOps.st rfl rfl rfl (LOp.bin rfl rfl rfl rfl) (LOps.nil (thn_n (LW.seq ?_)))))
    refine LW.cond rfl (fun (g1 : (decide (x1.t19 < (v1.length : Int))) = true) => ?_) (fun (g1 : (decide (x1.t19 < (v1.length : Int))) = false) => ?_)
    ·
      have hr := ite_t g1 hr
      refine LW.skip (thn_n (LW.seq (LW.block (LW.seq (LW.region ?_)))))
      obtain ⟨y1, h_y1, hr⟩ := bind_get hr
      refine LOps.st rfl rfl rfl (LOp.indexAddrX rfl rfl rfl st31 h_y1 rfl) (LOps.st rfl rfl rfl (LOp.loadC rfl rfl rfl vt24 rfl rfl) (LOps.st rfl rfl rfl (LOp.alloc rfl zt24 rfl rfl) (LOps.st rfl rfl rfl (LOp.store rfl rfl rfl rfl vt24 rfl rfl rfl rfl) (LOps.nil (thn_n (LW.seq (LW.ent (Ent.slot rfl) (LW.drawW (by kernel_rfl) (by kernel_rfl) (LF.st rfl rfl rfl (LAt.load rfl rfl rfl vt55 rfl rfl) rfl ?_)))))))))
      refine LF.st (F := []) (s := none) rfl rfl rfl (fun H _ => LOp.move rfl rfl) rfl ?_
      refine LF.st (F := []) (s := none) rfl rfl rfl (fun H _ => LOp.move rfl rfl) rfl ?_
      refine LF.st rfl rfl rfl (LAt.load rfl rfl rfl vt24 rfl rfl) rfl ?_
      obtain ⟨v3, h_v3, hr⟩ := bind_get hr
      refine LF.st (F := []) (s := none) rfl rfl rfl (fun H _ => LOp.call rfl rfl rfl (by kernel_rfl) (LC.pure (c121 h_v3) (.cons Conv.p (.cons Conv.p (.cons Conv.p (.cons Conv.p .nil)))))) rfl ?_
      refine LF.st rfl rfl rfl (LAt.load rfl rfl rfl vt24 rfl rfl) rfl ?_
      refine LF.st (F := []) (s := none) rfl rfl rfl (fun H _ => LOp.build rfl bt136 rfl rfl rfl) rfl ?_
      refine LF.st rfl rfl rfl (LAt.alloc rfl zt136 (id := 5) rfl) rfl (LF.st rfl rfl rfl (LAt.store rfl rfl rfl rfl vt136 rfl rfl rfl) rfl ?_)
      refine LF.nil ⟨by kernel_rfl, ?_⟩
      refine thn_n (LW.seq (LW.region (LOps.st rfl rfl rfl (LOp.load rfl rfl rfl vt136 rfl rfl) (LOps.st rfl rfl rfl (LOp.load rfl rfl rfl vt136 rfl rfl) ?_))))
      obtain ⟨v4, h_v4, hr⟩ := bind_get hr
      refine LOps.st rfl rfl rfl (LOp.call rfl rfl rfl (by kernel_rfl) (LC.pure (c122 h_v4) (.cons Conv.p (.cons Conv.p .nil)))) (LOps.nil (thn_n ?_))
      refine LW.cond rfl (fun (g2 : v4 = true) => ?_) (fun (g2 : v4 = false) => ?_)
      ·
        have hr := ite_t g2 hr
        refine LW.region (LOps.st rfl rfl rfl (LOp.load rfl rfl rfl vt136 rfl rfl) (LOps.st rfl rfl rfl (LOp.store rfl rfl rfl rfl vt136 rfl rfl rfl rfl) (LOps.nil (inBlk_n (thn_n (LW.region (LOps.st rfl rfl rfl (LOp.bin rfl rfl rfl rfl) (LOps.st rfl rfl rfl (LOp.move rfl rfl) (LOps.nil (thn_n ?_))))))))))
        obtain rfl := Option.some.inj hr
        exact ⟨_, rfl, Weak.of 4 ⟨rfl, rfl, rfl, rfl, rfl, rfl, rfl, rfl, rfl, trivial⟩ rfl rfl rfl rfl⟩
      ·
        have hr := ite_f g2 hr
        refine LW.skip (inBlk_n (thn_n (LW.region (LOps.st rfl rfl rfl (LOp.bin rfl rfl rfl rfl) (LOps.st rfl rfl rfl (LOp.move rfl rfl) (LOps.nil (thn_n ?_)))))))
        obtain rfl := Option.some.inj hr
        exact ⟨_, rfl, Weak.of 4 ⟨rfl, rfl, rfl, rfl, rfl, rfl, rfl, rfl, rfl, trivial⟩ rfl rfl rfl rfl⟩
    ·
      have hr := ite_f g1 hr
      refine LW.exit (thn_e (thn_e (inBlk_self (thn_n ?_))))
      obtain rfl := Option.some.inj hr
      have hr := congrArg some (hb_x1 _ rfl)
      obtain rfl := Option.some.inj hr
      exact Weak.of 4 ⟨rfl, rfl, rfl, trivial⟩ rfl rfl rfl rfl
  · have hr := ho_v2
    clear hb_v2
    refine thn_n (LW.weak hw_v2 (LW.seq (LW.drawW (by kernel_rfl) (by kernel_rfl) ?_)))
    refine LF.st (F := []) (s := none) rfl rfl rfl (fun H _ => LOp.fieldAddr rfl rfl ft136_1) rfl ?_
    refine LF.st rfl rfl rfl (LAt.load rfl rfl rfl vt24 rfl rfl) rfl ?_
    refine LF.st (F := []) (s := none) rfl rfl rfl (fun H _ => LOp.fieldAddr rfl rfl ft136_0) rfl ?_
    refine LF.st rfl rfl rfl (LAt.load rfl rfl rfl vt3 rfl rfl) rfl ?_
    refine LF.st (F := []) (s := none) rfl rfl rfl (fun H _ => LOp.bin rfl rfl rfl rfl) rfl ?_
    refine LF.st rfl rfl rfl (LAt.store rfl rfl rfl rfl vt24 rfl rfl rfl) rfl ?_
    refine LF.st (F := []) (s := none) rfl rfl rfl (fun H _ => LOp.assign rfl rfl) rfl ?_
    refine LF.nil ⟨by kernel_rfl, ?_⟩
    refine thn_n (LW.ret ?_)
    obtain rfl := Option.some.inj hr
    refine finP_ret (.two (.cellAgg rfl rfl (by kernel_rfl) rfl) (.tmp rfl)) ?_
    exact ⟨_, rfl, (.cons Conv.p (.cons Conv.p .nil))⟩
structure F81_L1 where
  id : ID
def F81_s1 (c : Cf) (l : List Bk) (v : List Vt) (x1 : F81_L1) : Option (F81_L1 ⊕ F81_L1) :=
  (F79 c l v x1.id).bind fun v2 =>
  bif !v2.2 then
    some (.inr (F81_L1.mk x1.id))
  else
    some (.inl (F81_L1.mk v2.1))
def F81 (c : Cf) (l : List Bk) (v : List Vt) : Option ID :=
  (iter (F81_s1 c l v) big (F81_L1.mk (0, 0))).bind fun v1 =>
  some v1.id
set_option maxRecDepth 100000 in
theorem c81 {c : Cf} {l : List Bk} {v : List Vt} {r_ : ID} (hr : F81 c l v = some r_) : LPure Tryz.prog 108 [cfP c, .slice 5 (l.map blkP), .slice 4 (v.map vtP)] [idP r_] := by
  refine LPure.start Tryz.func108 rfl rfl rfl rfl ?_
  unfold F81 at hr
  refine LW.seq (LW.region (LOps.st rfl rfl rfl (LOp.box rfl rfl rfl rfl rfl) (LOps.st rfl rfl rfl (LOp.alloc rfl zt24 rfl rfl) (LOps.nil (thn_n (LW.scope (LW.seq (LW.label (thn_n ?_)))))))))
  obtain ⟨v1, hb_v1, ho_v1⟩ := bind_get hr
  clear hr
  refine LW.cut (E := [(6, .ptr 1 0)]) (O := [.box [.p (.slice 1 (c.W.map i64P)), .p (.int .u64 c.Seed), .p (.int .i64 c.Epoch), .p (.int .i64 c.Num), .p (.int .i64 c.Den)], .box [.p (.int .u64 v1.id.1), .p (.int .u64 v1.id.2)]]) ?_ ?_
  · refine LW.block ?_
    refine LW.iterB (E := fun x1 : F81_L1 => [(1, .p (.slice 5 (l.map blkP))), (2, .p (.slice 4 (v.map vtP))), (3, .ptr 0 0), (6, .ptr 1 0)]) (O := fun x1 => [.box [.p (.slice 1 (c.W.map i64P)), .p (.int .u64 c.Seed), .p (.int .i64 c.Epoch), .p (.int .i64 c.Num), .p (.int .i64 c.Den)], .box [.p (.int .u64 x1.id.1), .p (.int .u64 x1.id.2)]]) hb_v1 (Weak.of 2 ⟨rfl, rfl, rfl, rfl, trivial⟩ rfl rfl rfl rfl) (fun x1 z_x1 hr hb_x1 => ?_)
    unfold F81_s1 at hr
    refine LW.block (LW.seq (LW.region (LOps.st rfl rfl rfl (LOp.load rfl rfl rfl vt55 rfl rfl) (LOps.st rfl rfl rfl (LOp.move rfl rfl) (LOps.st rfl rfl rfl (LOp.move rfl rfl) (LOps.st rfl rfl rfl (LOp.load rfl rfl rfl vt24 rfl rfl) ?_))))))
    obtain ⟨v2, h_v2, hr⟩ := bind_get hr
    refine LOps.st rfl rfl rfl (LOp.call rfl rfl rfl (by kernel_rfl) (LC.pure (c79 h_v2) (.cons Conv.p (.cons Conv.p (.cons Conv.p (.cons Conv.p .nil)))))) (LOps.st rfl rfl rfl (LOp.move rfl rfl) (LOps.st rfl rfl rfl (LOp.extract rfl rfl rfl) (LOps.st rfl rfl rfl (LOp.extract rfl rfl rfl) (LOps.st rfl rfl rfl (LOp.alloc rfl zt24 rfl rfl) (LOps.st rfl rfl rfl (LOp.store rfl rfl rfl rfl vt24 rfl rfl rfl rfl) (LOps.st rfl rfl rfl (LOp.assign rfl rfl) (LOps.nil (thn_n (LW.seq (LW.seq (LW.region ?_)))))))))))
    refine LOps.st rfl rfl rfl (LOp.move rfl rfl) (LOps.st rfl rfl rfl (LOp.not rfl rfl) (LOps.nil (thn_n ?_)))
    refine LW.cond rfl (fun (g1 : (!v2.2) = true) => ?_) (fun (g1 : (!v2.2) = false) => ?_)
    ·
      have hr := ite_t g1 hr
      refine LW.exit (thn_e (inBlk_other (by decide) (thn_e (inBlk_self (thn_n ?_)))))
      obtain rfl := Option.some.inj hr
      have hr := congrArg some (hb_x1 _ rfl)
      obtain rfl := Option.some.inj hr
      exact Weak.of 2 ⟨rfl, trivial⟩ rfl rfl rfl rfl
    ·
      have hr := ite_f g1 hr
      refine LW.skip (thn_n (LW.region (LOps.st rfl rfl rfl (LOp.load rfl rfl rfl vt24 rfl rfl) (LOps.st rfl rfl rfl (LOp.store rfl rfl rfl rfl vt24 rfl rfl rfl rfl) (LOps.nil (inBlk_n (thn_n ?_)))))))
      obtain rfl := Option.some.inj hr
      exact ⟨_, rfl, Weak.of 2 ⟨rfl, rfl, rfl, rfl, trivial⟩ rfl rfl rfl rfl⟩
  · have hr := ho_v1
    clear hb_v1
    refine LW.seq (LW.region (LOps.st rfl rfl rfl (LOp.load rfl rfl rfl vt24 rfl rfl) (LOps.st rfl rfl rfl (LOp.store rfl rfl rfl rfl vt24 rfl rfl rfl rfl) (LOps.nil (thn_n (LW.ret (noGo_r ?_)))))))
    obtain rfl := Option.some.inj hr
    refine finP_ret (.one (.cellAgg rfl rfl (by kernel_rfl) rfl)) ?_
    exact Conv.p
open Go.Proofs
set_option maxRecDepth 100000 in
theorem c133V {α : Type} {f : α → PV} {l : List α} (hb : room 0 l.length 40 = true) : LC Tryz.prog 90 [.p (.slice 5 (l.map f))] [] (Is (.vec 5 0 (l.map f).length 0 (l.map f).length) [.vec 5 (l.map f)]) := by
  refine LC.start Tryz.func90 rfl rfl rfl ?_
  refine LW.seq (LW.region (LOps.st rfl rfl rfl (LOp.assign rfl rfl) (LOps.nil (thn_n (LW.seq (LW.seq (LW.region (LOps.st rfl rfl rfl (LOp.move rfl rfl) (LOps.cons rfl rfl rfl (LOp.eqNil rfl rfl rfl st27) ?_)))))))))
  rintro _ _ ⟨rfl, b, rfl, hn⟩
  refine LOps.nil (thn_n ?_)
  refine LW.cond rfl (fun g => ?_) (fun g => ?_)
  · have hl : l = [] := List.map_eq_nil_iff.1 (hn g)
    subst hl
    refine LW.seq (LW.region (LOps.st rfl rfl rfl (LOp.assign rfl rfl) (LOps.nil (thn_n (LW.ent (Ent.lazy (t := 2) (m := 5) rfl rfl rfl) (LW.ret (thn_r ?_)))))))
    exact fin_ret (.one (.tmp rfl)) ⟨rfl, rfl⟩
  · refine LW.skip ?_
    refine thn_n (LW.seq (LW.region (LOps.st rfl rfl rfl (LOp.buildSlice0 rfl st27) (LOps.st rfl rfl rfl (LOp.move rfl rfl) (LOps.st rfl rfl rfl (LOp.appendZX f l rfl rfl rfl rfl Src.p rfl st27 hb rfl) (LOps.st rfl rfl rfl (LOp.assign rfl rfl) (LOps.nil (thn_n (LW.ret ?_)))))))))
    exact fin_ret (.one (.tmp rfl)) ⟨rfl, rfl⟩
set_option maxRecDepth 100000 in
theorem c134V {α : Type} {f : α → PV} {l : List α} (hb : room 0 l.length 32 = true) : LC Tryz.prog 91 [.p (.slice 4 (l.map f))] [] (Is (.vec 4 0 (l.map f).length 0 (l.map f).length) [.vec 4 (l.map f)]) := by
  refine LC.start Tryz.func91 rfl rfl rfl ?_
  refine LW.seq (LW.region (LOps.st rfl rfl rfl (LOp.assign rfl rfl) (LOps.nil (thn_n (LW.seq (LW.seq (LW.region (LOps.st rfl rfl rfl (LOp.move rfl rfl) (LOps.cons rfl rfl rfl (LOp.eqNil rfl rfl rfl st68) ?_)))))))))
  rintro _ _ ⟨rfl, b, rfl, hn⟩
  refine LOps.nil (thn_n ?_)
  refine LW.cond rfl (fun g => ?_) (fun g => ?_)
  · have hl : l = [] := List.map_eq_nil_iff.1 (hn g)
    subst hl
    refine LW.seq (LW.region (LOps.st rfl rfl rfl (LOp.assign rfl rfl) (LOps.nil (thn_n (LW.ent (Ent.lazy (t := 2) (m := 4) rfl rfl rfl) (LW.ret (thn_r ?_)))))))
    exact fin_ret (.one (.tmp rfl)) ⟨rfl, rfl⟩
  · refine LW.skip ?_
    refine thn_n (LW.seq (LW.region (LOps.st rfl rfl rfl (LOp.buildSlice0 rfl st68) (LOps.st rfl rfl rfl (LOp.move rfl rfl) (LOps.st rfl rfl rfl (LOp.appendZX f l rfl rfl rfl rfl Src.p rfl st68 hb rfl) (LOps.st rfl rfl rfl (LOp.assign rfl rfl) (LOps.nil (thn_n (LW.ret ?_)))))))))
    exact fin_ret (.one (.tmp rfl)) ⟨rfl, rfl⟩
def F87 (c : Cf) (b : Bk) : Option Bool :=
  (F63 c b.Slot).bind fun v1 =>
  bif decide (v1 ≥ 0) then
    bif v1 == b.From then
      some (!((((nm b).1) == 0) && ((((nm b).2) == 0) && true)))
    else
      some false
  else
    some false
set_option maxRecDepth 100000 in
theorem c87 {c : Cf} {b : Bk} {r_ : Bool} (hr : F87 c b = some r_) : LPure Tryz.prog 70 [cfP c, blkP b] [.bool r_] := by
  refine LPure.start Tryz.func70 rfl rfl rfl rfl ?_
  unfold F87 at hr
  refine LW.seq (LW.region (LOps.st rfl rfl rfl (LOp.box rfl rfl rfl rfl rfl) (LOps.st rfl rfl rfl (LOp.box rfl rfl rfl rfl rfl) (LOps.st rfl rfl rfl (LOp.assign rfl rfl) (LOps.nil (thn_n (LW.seq (LW.region (LOps.st rfl rfl rfl (LOp.load rfl rfl rfl vt55 rfl rfl) (LOps.st rfl rfl rfl (LOp.fieldAddr rfl rfl ft42_0) (LOps.st rfl rfl rfl (LOp.load rfl rfl rfl vt3 rfl rfl) ?_)))))))))))
  obtain ⟨v1, h_v1, hr⟩ := bind_get hr
  refine LOps.st rfl rfl rfl (LOp.call rfl rfl rfl (by kernel_rfl) (LC.pure (c63 h_v1) (.cons Conv.p (.cons Conv.p .nil)))) (LOps.st rfl rfl rfl (LOp.assign rfl rfl) (LOps.nil (thn_n (LW.seq (LW.region (LOps.st rfl rfl rfl (LOp.move rfl rfl) (LOps.st rfl rfl rfl (LOp.bin rfl rfl rfl rfl) (LOps.st rfl rfl rfl (LOp.move rfl rfl) ?_))))))))
  refine LOps.cases 12 rfl (fun (g1 : (decide (v1 ≥ 0)) = true) => ?_) (fun (g1 : (decide (v1 ≥ 0)) = false) => ?_)
  ·
    have hr := ite_t g1 hr
    refine LOps.gd rfl rfl rfl (gd g1 rfl) rfl (LOp.move rfl rfl) (LOps.gd rfl rfl rfl (gd g1 rfl) rfl (LOp.fieldAddr rfl rfl ft42_1) (LOps.gd rfl rfl rfl (gd g1 rfl) rfl (LOp.load rfl rfl rfl vt3 rfl rfl) (LOps.gd rfl rfl rfl (gd g1 rfl) rfl (LOp.bin rfl rfl rfl rfl) (LOps.st rfl rfl rfl (LOp.pickT rfl (gdl g1 rfl) rfl) (LOps.st rfl rfl rfl (LOp.move rfl rfl) ?_)))))
    refine LOps.cases 18 rfl (fun (g2 : (v1 == b.From) = true) => ?_) (fun (g2 : (v1 == b.From) = false) => ?_)
    ·
      have hr := ite_t g2 hr
      refine LOps.gd rfl rfl rfl (gd g2 rfl) rfl (LOp.load rfl rfl rfl vt42 rfl rfl) (LOps.gd rfl rfl rfl (gd g2 rfl) rfl (LOp.call rfl rfl rfl (by kernel_rfl) (LC.pure (c50 (b := b)) (.cons Conv.p .nil))) (LOps.gd rfl rfl rfl (gd g2 rfl) rfl (LOp.build rfl bt24 rfl rfl rfl) (LOps.gd rfl rfl rfl (gd g2 rfl) rfl (LOp.neqAgg rfl rfl rfl rfl rfl eqt24) (LOps.st rfl rfl rfl (LOp.pickT rfl (gdl g2 rfl) rfl) (LOps.st rfl rfl rfl (LOp.assign rfl rfl) (LOps.nil (thn_n (LW.ret ?_))))))))
      obtain rfl := Option.some.inj hr
      refine finP_ret (.one (.tmp rfl)) ?_
      exact Conv.p
    ·
      have hr := ite_f g2 hr
      refine LOps.sk rfl rfl rfl (gd g2 rfl) rfl rfl (LOps.sk rfl rfl rfl (gd g2 rfl) rfl rfl (LOps.sk rfl rfl rfl (gd g2 rfl) rfl rfl (LOps.sk rfl rfl rfl (gd g2 rfl) rfl rfl (LOps.st rfl rfl rfl (LOp.pickF rfl (gdl g2 rfl) rfl) (LOps.st rfl rfl rfl (LOp.assign rfl rfl) (LOps.nil (thn_n (LW.ret ?_))))))))
      obtain rfl := Option.some.inj hr
      refine finP_ret (.one (.tmp rfl)) ?_
      exact Conv.p
  ·
    have hr := ite_f g1 hr
    refine LOps.sk rfl rfl rfl (gd g1 rfl) rfl rfl (LOps.sk rfl rfl rfl (gd g1 rfl) rfl rfl (LOps.sk rfl rfl rfl (gd g1 rfl) rfl rfl (LOps.sk rfl rfl rfl (gd g1 rfl) rfl rfl (LOps.st rfl rfl rfl (LOp.pickF rfl (gdl g1 rfl) rfl) (LOps.st rfl rfl rfl (LOp.move rfl rfl) (LOps.sk rfl rfl rfl rfl rfl rfl (LOps.sk rfl rfl rfl rfl rfl rfl (LOps.sk rfl rfl rfl rfl rfl rfl (LOps.sk rfl rfl rfl rfl rfl rfl (LOps.st rfl rfl rfl (LOp.pickF rfl rfl rfl) (LOps.st rfl rfl rfl (LOp.assign rfl rfl) ?_)))))))))))
    refine LOps.nil (thn_n (LW.ret ?_))
    obtain rfl := Option.some.inj hr
    refine finP_ret (.one (.tmp rfl)) ?_
    exact Conv.p
def F88 (c : Cf) (v : Vt) : Option Bool :=
  (F74 c v.Slot v.From).bind fun v1 =>
  some v1
set_option maxRecDepth 100000 in
theorem c88 {c : Cf} {v : Vt} {r_ : Bool} (hr : F88 c v = some r_) : LPure Tryz.prog 72 [cfP c, vtP v] [.bool r_] := by
  refine LPure.start Tryz.func72 rfl rfl rfl rfl ?_
  unfold F88 at hr
  refine LW.seq (LW.region (LOps.st rfl rfl rfl (LOp.box rfl rfl rfl rfl rfl) (LOps.st rfl rfl rfl (LOp.box rfl rfl rfl rfl rfl) (LOps.st rfl rfl rfl (LOp.assign rfl rfl) (LOps.nil (thn_n (LW.seq (LW.region (LOps.st rfl rfl rfl (LOp.load rfl rfl rfl vt55 rfl rfl) (LOps.st rfl rfl rfl (LOp.fieldAddr rfl rfl ft82_1) (LOps.st rfl rfl rfl (LOp.load rfl rfl rfl vt3 rfl rfl) ?_)))))))))))
  refine LOps.st rfl rfl rfl (LOp.fieldAddr rfl rfl ft82_0) (LOps.st rfl rfl rfl (LOp.load rfl rfl rfl vt3 rfl rfl) ?_)
  obtain ⟨v1, h_v1, hr⟩ := bind_get hr
  refine LOps.st rfl rfl rfl (LOp.call rfl rfl rfl (by kernel_rfl) (LC.pure (c74 h_v1) (.cons Conv.p (.cons Conv.p (.cons Conv.p .nil))))) (LOps.st rfl rfl rfl (LOp.assign rfl rfl) (LOps.nil (thn_n (LW.ret ?_))))
  obtain rfl := Option.some.inj hr
  refine finP_ret (.one (.tmp rfl)) ?_
  exact Conv.p
structure F170_L1 where
  t8 : Int
def F170_s1 (s : List Bk) (v : Bk) (x1 : F170_L1) : Option (F170_L1 ⊕ (F170_L1 ⊕ Int)) :=
  bif decide (x1.t8 < (s.length : Int)) then
    (ix s x1.t8).bind fun y1 =>
    bif ((v.Slot == y1.Slot) && ((v.From == y1.From) && ((v.Parent.1 == y1.Parent.1) && ((v.Parent.2 == y1.Parent.2) && ((v.Salt == y1.Salt) && true))))) then
      some (.inr (.inr x1.t8))
    else
      some (.inl (F170_L1.mk (IntKind.i64.wrap (x1.t8 + 1))))
  else
    some (.inr (.inl (F170_L1.mk x1.t8)))
def F170 (s : List Bk) (v : Bk) : Option Int :=
  (iter (F170_s1 s v) big (F170_L1.mk 0)).bind fun b_v1 => Sum.elim (fun _ =>
    some (-1)) some b_v1
set_option maxRecDepth 100000 in
theorem c170 {s : List Bk} {v : Bk} {r_ : Int} (hr : F170 s v = some r_) : LPure Tryz.prog 151 [.slice 5 (s.map blkP), blkP v] [.int .i64 r_] := by
  refine LPure.start Tryz.func151 rfl rfl rfl rfl ?_
  unfold F170 at hr
  refine LW.seq (LW.region (LOps.st rfl rfl rfl (LOp.box rfl rfl rfl rfl rfl) (LOps.st rfl rfl rfl (LOp.assign rfl rfl) (LOps.nil (thn_n (LW.seq (LW.seq (LW.region (LOps.st rfl rfl rfl (LOp.move rfl rfl) (LOps.st rfl rfl rfl (LOp.lenM rfl rfl (by kernel_rfl)) (LOps.st rfl rfl rfl (LOp.move rfl rfl) ?_)))))))))))
  refine LOps.nil (thn_n ?_)
  obtain ⟨b_v1, hb_v1, ho_v1⟩ := bind_get hr
  clear hr
  refine LW.tailB (b := b_v1) (E := fun v1 => [(4, .p (.int .i64 0))]) (O := fun v1 => [.box [.p (.int .i64 v.Slot), .p (.int .i64 v.From), .p (.int .u64 v.Parent.1), .p (.int .u64 v.Parent.2), .p (.int .u64 v.Salt)]]) ?_ (fun v1 e_v1 env_v1 H_v1 hw_v1 => ?_)
  · refine LW.block ?_
    refine LW.iterB (E := fun x1 : F170_L1 => [(0, .p (.slice 5 (s.map blkP))), (3, .ptr 0 0), (4, .p (.int .i64 0)), (7, .p (.int .i64 (s.length : Int))), (8, .p (.int .i64 x1.t8))]) (O := fun x1 => [.box [.p (.int .i64 v.Slot), .p (.int .i64 v.From), .p (.int .u64 v.Parent.1), .p (.int .u64 v.Parent.2), .p (.int .u64 v.Salt)]]) hb_v1 (Weak.of 1 ⟨rfl, rfl, rfl, rfl, rfl, trivial⟩ rfl rfl rfl rfl) (fun x1 z_x1 hr hb_x1 => ?_)
    unfold F170_s1 at hr
    refine LW.seq (LW.region (LOps.st rfl rfl rfl (LOp.bin rfl rfl rfl rfl) (LOps.nil (thn_n (LW.seq ?_)))))
    refine LW.cond rfl (fun (g1 : (decide (x1.t8 < (s.length : Int))) = true) => ?_) (fun (g1 : (decide (x1.t8 < (s.length : Int))) = false) => ?_)
    ·
      have hr := ite_t g1 hr
      refine LW.skip (thn_n (LW.seq (LW.block (LW.seq (LW.region (LOps.st rfl rfl rfl (LOp.move rfl rfl) (LOps.st rfl rfl rfl (LOp.assign rfl rfl) (LOps.nil (thn_n (LW.seq (LW.draw (by kernel_rfl) (by kernel_rfl) ?_)))))))))))
      refine LO.st rfl rfl rfl (LOp.load rfl rfl rfl vt42 rfl rfl) (LO.st rfl rfl rfl (LOp.move rfl rfl) (LO.st rfl rfl rfl (LOp.move rfl rfl) ?_))
      obtain ⟨y1, h_y1, hr⟩ := bind_get hr
      refine LO.st rfl rfl rfl (LOp.indexAddrX rfl rfl rfl st27 h_y1 rfl) (LO.st rfl rfl rfl (LOp.loadC rfl rfl rfl vt42 rfl rfl) (LO.st rfl rfl rfl (LOp.eqlAgg rfl rfl rfl rfl rfl eqt42) (LO.nil (thn_n ?_))))
      refine LW.cond rfl (fun (g2 : ((v.Slot == y1.Slot) && ((v.From == y1.From) && ((v.Parent.1 == y1.Parent.1) && ((v.Parent.2 == y1.Parent.2) && ((v.Salt == y1.Salt) && true))))) = true) => ?_) (fun (g2 : ((v.Slot == y1.Slot) && ((v.From == y1.From) && ((v.Parent.1 == y1.Parent.1) && ((v.Parent.2 == y1.Parent.2) && ((v.Salt == y1.Salt) && true))))) = false) => ?_)
      ·
        have hr := ite_t g2 hr
        refine LW.seq (LW.region (LOps.st rfl rfl rfl (LOp.move rfl rfl) (LOps.st rfl rfl rfl (LOp.assign rfl rfl) (LOps.nil (thn_n (LW.ret (inBlk_r (thn_r (thn_r (inBlk_r (thn_r ?_)))))))))))
        refine thn_r ?_
        obtain rfl := Option.some.inj hr
        have hr := congrArg some (hb_x1 _ rfl)
        obtain rfl := Option.some.inj hr
        have hr := sum_r ho_v1
        obtain rfl := Option.some.inj hr
        refine finP_ret (.one (.tmp rfl)) ?_
        exact Conv.p
      ·
        have hr := ite_f g2 hr
        refine LW.skip (inBlk_n (thn_n (LW.region (LOps.st rfl rfl rfl (LOp.bin rfl rfl rfl rfl) (LOps.st rfl rfl rfl (LOp.move rfl rfl) (LOps.nil (thn_n ?_)))))))
        obtain rfl := Option.some.inj hr
        exact ⟨_, rfl, Weak.of 1 ⟨rfl, rfl, rfl, rfl, rfl, trivial⟩ rfl rfl rfl rfl⟩
    ·
      have hr := ite_f g1 hr
      refine LW.exit (thn_e (thn_e (inBlk_self (thn_n ?_))))
      obtain rfl := Option.some.inj hr
      have hr := congrArg some (hb_x1 _ rfl)
      obtain rfl := Option.some.inj hr
      exact ⟨_, rfl, Weak.of 1 ⟨rfl, trivial⟩ rfl rfl rfl rfl⟩
  · obtain rfl := e_v1
    have hr := sum_l ho_v1
    clear hb_v1
    refine thn_n (LW.weak hw_v1 (LW.seq (LW.region (LOps.st rfl rfl rfl (LOp.assign rfl rfl) (LOps.nil (thn_n (LW.ret ?_)))))))
    obtain rfl := Option.some.inj hr
    refine finP_ret (.one (.tmp rfl)) ?_
    exact Conv.p
structure F171_L1 where
  t8 : Int
def F171_s1 (s : List Vt) (v : Vt) (x1 : F171_L1) : Option (F171_L1 ⊕ (F171_L1 ⊕ Int)) :=
  bif decide (x1.t8 < (s.length : Int)) then
    (ix s x1.t8).bind fun y1 =>
    bif ((v.From == y1.From) && ((v.Slot == y1.Slot) && ((v.Head.1 == y1.Head.1) && ((v.Head.2 == y1.Head.2) && true)))) then
      some (.inr (.inr x1.t8))
    else
      some (.inl (F171_L1.mk (IntKind.i64.wrap (x1.t8 + 1))))
  else
    some (.inr (.inl (F171_L1.mk x1.t8)))
def F171 (s : List Vt) (v : Vt) : Option Int :=
  (iter (F171_s1 s v) big (F171_L1.mk 0)).bind fun b_v1 => Sum.elim (fun _ =>
    some (-1)) some b_v1
set_option maxRecDepth 100000 in
theorem c171 {s : List Vt} {v : Vt} {r_ : Int} (hr : F171 s v = some r_) : LPure Tryz.prog 152 [.slice 4 (s.map vtP), vtP v] [.int .i64 r_] := by
  refine LPure.start Tryz.func152 rfl rfl rfl rfl ?_
  unfold F171 at hr
  refine LW.seq (LW.region (LOps.st rfl rfl rfl (LOp.box rfl rfl rfl rfl rfl) (LOps.st rfl rfl rfl (LOp.assign rfl rfl) (LOps.nil (thn_n (LW.seq (LW.seq (LW.region (LOps.st rfl rfl rfl (LOp.move rfl rfl) (LOps.st rfl rfl rfl (LOp.lenM rfl rfl (by kernel_rfl)) (LOps.st rfl rfl rfl (LOp.move rfl rfl) ?_)))))))))))
  refine LOps.nil (thn_n ?_)
  obtain ⟨b_v1, hb_v1, ho_v1⟩ := bind_get hr
  clear hr
  refine LW.tailB (b := b_v1) (E := fun v1 => [(4, .p (.int .i64 0))]) (O := fun v1 => [.box [.p (.int .i64 v.From), .p (.int .i64 v.Slot), .p (.int .u64 v.Head.1), .p (.int .u64 v.Head.2)]]) ?_ (fun v1 e_v1 env_v1 H_v1 hw_v1 => ?_)
  · refine LW.block ?_
    refine LW.iterB (E := fun x1 : F171_L1 => [(0, .p (.slice 4 (s.map vtP))), (3, .ptr 0 0), (4, .p (.int .i64 0)), (7, .p (.int .i64 (s.length : Int))), (8, .p (.int .i64 x1.t8))]) (O := fun x1 => [.box [.p (.int .i64 v.From), .p (.int .i64 v.Slot), .p (.int .u64 v.Head.1), .p (.int .u64 v.Head.2)]]) hb_v1 (Weak.of 1 ⟨rfl, rfl, rfl, rfl, rfl, trivial⟩ rfl rfl rfl rfl) (fun x1 z_x1 hr hb_x1 => ?_)
    unfold F171_s1 at hr
    refine LW.seq (LW.region (LOps.st rfl rfl rfl (LOp.bin rfl rfl rfl rfl) (LOps.nil (thn_n (LW.seq ?_)))))
    refine LW.cond rfl (fun (g1 : (decide (x1.t8 < (s.length : Int))) = true) => ?_) (fun (g1 : (decide (x1.t8 < (s.length : Int))) = false) => ?_)
    ·
      have hr := ite_t g1 hr
      refine LW.skip (thn_n (LW.seq (LW.block (LW.seq (LW.region (LOps.st rfl rfl rfl (LOp.move rfl rfl) (LOps.st rfl rfl rfl (LOp.assign rfl rfl) (LOps.nil (thn_n (LW.seq (LW.draw (by kernel_rfl) (by kernel_rfl) ?_)))))))))))
      refine LO.st rfl rfl rfl (LOp.load rfl rfl rfl vt82 rfl rfl) (LO.st rfl rfl rfl (LOp.move rfl rfl) (LO.st rfl rfl rfl (LOp.move rfl rfl) ?_))
      obtain ⟨y1, h_y1, hr⟩ := bind_get hr
      refine LO.st rfl rfl rfl (LOp.indexAddrX rfl rfl rfl st68 h_y1 rfl) (LO.st rfl rfl rfl (LOp.loadC rfl rfl rfl vt82 rfl rfl) (LO.st rfl rfl rfl (LOp.eqlAgg rfl rfl rfl rfl rfl eqt82) (LO.nil (thn_n ?_))))
      refine LW.cond rfl (fun (g2 : ((v.From == y1.From) && ((v.Slot == y1.Slot) && ((v.Head.1 == y1.Head.1) && ((v.Head.2 == y1.Head.2) && true)))) = true) => ?_) (fun (g2 : ((v.From == y1.From) && ((v.Slot == y1.Slot) && ((v.Head.1 == y1.Head.1) && ((v.Head.2 == y1.Head.2) && true)))) = false) => ?_)
      ·
        have hr := ite_t g2 hr
        refine LW.seq (LW.region (LOps.st rfl rfl rfl (LOp.move rfl rfl) (LOps.st rfl rfl rfl (LOp.assign rfl rfl) (LOps.nil (thn_n (LW.ret (inBlk_r (thn_r (thn_r (inBlk_r (thn_r ?_)))))))))))
        refine thn_r ?_
        obtain rfl := Option.some.inj hr
        have hr := congrArg some (hb_x1 _ rfl)
        obtain rfl := Option.some.inj hr
        have hr := sum_r ho_v1
        obtain rfl := Option.some.inj hr
        refine finP_ret (.one (.tmp rfl)) ?_
        exact Conv.p
      ·
        have hr := ite_f g2 hr
        refine LW.skip (inBlk_n (thn_n (LW.region (LOps.st rfl rfl rfl (LOp.bin rfl rfl rfl rfl) (LOps.st rfl rfl rfl (LOp.move rfl rfl) (LOps.nil (thn_n ?_)))))))
        obtain rfl := Option.some.inj hr
        exact ⟨_, rfl, Weak.of 1 ⟨rfl, rfl, rfl, rfl, rfl, trivial⟩ rfl rfl rfl rfl⟩
    ·
      have hr := ite_f g1 hr
      refine LW.exit (thn_e (thn_e (inBlk_self (thn_n ?_))))
      obtain rfl := Option.some.inj hr
      have hr := congrArg some (hb_x1 _ rfl)
      obtain rfl := Option.some.inj hr
      exact ⟨_, rfl, Weak.of 1 ⟨rfl, trivial⟩ rfl rfl rfl rfl⟩
  · obtain rfl := e_v1
    have hr := sum_l ho_v1
    clear hb_v1
    refine thn_n (LW.weak hw_v1 (LW.seq (LW.region (LOps.st rfl rfl rfl (LOp.assign rfl rfl) (LOps.nil (thn_n (LW.ret ?_)))))))
    obtain rfl := Option.some.inj hr
    refine finP_ret (.one (.tmp rfl)) ?_
    exact Conv.p
def F161 (s : List Bk) (v : Bk) : Option Bool :=
  (F170 s v).bind fun v1 =>
  some (decide (v1 ≥ 0))
set_option maxRecDepth 100000 in
theorem c161 {s : List Bk} {v : Bk} {r_ : Bool} (hr : F161 s v = some r_) : LPure Tryz.prog 123 [.slice 5 (s.map blkP), blkP v] [.bool r_] := by
  refine LPure.start Tryz.func123 rfl rfl rfl rfl ?_
  unfold F161 at hr
  refine LW.seq (LW.region (LOps.st rfl rfl rfl (LOp.box rfl rfl rfl rfl rfl) (LOps.st rfl rfl rfl (LOp.assign rfl rfl) (LOps.nil (thn_n (LW.seq (LW.region (LOps.st rfl rfl rfl (LOp.move rfl rfl) (LOps.st rfl rfl rfl (LOp.load rfl rfl rfl vt42 rfl rfl) ?_)))))))))
  obtain ⟨v1, h_v1, hr⟩ := bind_get hr
  refine LOps.st rfl rfl rfl (LOp.call rfl rfl rfl (by kernel_rfl) (LC.pure (c170 h_v1) (.cons Conv.p (.cons Conv.p .nil)))) (LOps.st rfl rfl rfl (LOp.bin rfl rfl rfl rfl) (LOps.st rfl rfl rfl (LOp.assign rfl rfl) (LOps.nil (thn_n (LW.ret ?_)))))
  obtain rfl := Option.some.inj hr
  refine finP_ret (.one (.tmp rfl)) ?_
  exact Conv.p
def F162 (s : List Vt) (v : Vt) : Option Bool :=
  (F171 s v).bind fun v1 =>
  some (decide (v1 ≥ 0))
set_option maxRecDepth 100000 in
theorem c162 {s : List Vt} {v : Vt} {r_ : Bool} (hr : F162 s v = some r_) : LPure Tryz.prog 124 [.slice 4 (s.map vtP), vtP v] [.bool r_] := by
  refine LPure.start Tryz.func124 rfl rfl rfl rfl ?_
  unfold F162 at hr
  refine LW.seq (LW.region (LOps.st rfl rfl rfl (LOp.box rfl rfl rfl rfl rfl) (LOps.st rfl rfl rfl (LOp.assign rfl rfl) (LOps.nil (thn_n (LW.seq (LW.region (LOps.st rfl rfl rfl (LOp.move rfl rfl) (LOps.st rfl rfl rfl (LOp.load rfl rfl rfl vt82 rfl rfl) ?_)))))))))
  obtain ⟨v1, h_v1, hr⟩ := bind_get hr
  refine LOps.st rfl rfl rfl (LOp.call rfl rfl rfl (by kernel_rfl) (LC.pure (c171 h_v1) (.cons Conv.p (.cons Conv.p .nil)))) (LOps.st rfl rfl rfl (LOp.bin rfl rfl rfl rfl) (LOps.st rfl rfl rfl (LOp.assign rfl rfl) (LOps.nil (thn_n (LW.ret ?_)))))
  obtain rfl := Option.some.inj hr
  refine finP_ret (.one (.tmp rfl)) ?_
  exact Conv.p
structure F139_L1 where
  t12 : Int
  out : List Bk
def F139_s1 (b : List Bk) (x1 : F139_L1) : Option (F139_L1 ⊕ F139_L1) :=
  bif decide (x1.t12 < (b.length : Int)) then
    (ix b x1.t12).bind fun y1 =>
    (F161 x1.out y1).bind fun v2 =>
    bif !v2 then
      bif room x1.out.length [y1].length 40 then
        some (.inl (F139_L1.mk (IntKind.i64.wrap (x1.t12 + 1)) (x1.out ++ [y1])))
      else none
    else
      some (.inl (F139_L1.mk (IntKind.i64.wrap (x1.t12 + 1)) x1.out))
  else
    some (.inr (F139_L1.mk x1.t12 x1.out))
def F139 (a : List Bk) (b : List Bk) : Option (List Bk) :=
  bif room 0 a.length 40 then
    (iter (F139_s1 b) big (F139_L1.mk 0 a)).bind fun v1 =>
    some v1.out
  else none
set_option maxRecDepth 100000 in
theorem c139 {a : List Bk} {b : List Bk} {r_ : (List Bk)} (hr : F139 a b = some r_) : LPure Tryz.prog 93 [.slice 5 (a.map blkP), .slice 5 (b.map blkP)] [.slice 5 (r_.map blkP)] := by
  refine LPure.start Tryz.func93 rfl rfl rfl rfl ?_
  unfold F139 at hr
  refine LW.seq (LW.region (LOps.st rfl rfl rfl (LOp.assign rfl rfl) (LOps.nil (thn_n (LW.seq (LW.region (LOps.st rfl rfl rfl (LOp.move rfl rfl) ?_)))))))
  obtain ⟨q1, hr⟩ := grd_get hr
  refine LOps.st rfl rfl rfl (LOp.callV (qs := [.p (.slice 5 (a.map blkP))]) rfl rfl rfl (by kernel_rfl) (c133V q1) (.consC Conv.p .nil) rfl rfl) (LOps.st rfl rfl rfl (LOp.assign rfl rfl) (LOps.nil (thn_n (LW.seq (LW.seq (LW.region (LOps.st rfl rfl rfl (LOp.move rfl rfl) (LOps.st rfl rfl rfl (LOp.lenM rfl rfl (by kernel_rfl)) (LOps.st rfl rfl rfl (LOp.move rfl rfl) (LOps.nil (thn_n ?_)))))))))))
  obtain ⟨v1, hb_v1, ho_v1⟩ := bind_get hr
  clear hr
  refine LW.tail (E := [(4, .zs), (5, .vec 5 0 (v1.out.map blkP).length 0 (v1.out.map blkP).length)]) (O := [.vec 5 (v1.out.map blkP)]) ?_ (fun env_v1 H_v1 hw_v1 => ?_)
  · refine LW.block ?_
    refine LW.iterB (E := fun x1 : F139_L1 => [(4, .zs), (5, .vec 5 0 (x1.out.map blkP).length 0 (x1.out.map blkP).length), (10, .p (.slice 5 (b.map blkP))), (11, .p (.int .i64 (b.length : Int))), (12, .p (.int .i64 x1.t12))]) (O := fun x1 => [.vec 5 (x1.out.map blkP)]) hb_v1 (Weak.of 1 ⟨rfl, rfl, rfl, rfl, rfl, trivial⟩ rfl rfl rfl rfl) (fun x1 z_x1 hr hb_x1 => ?_)
    unfold F139_s1 at hr
    refine LW.seq (LW.region (LOps.st rfl rfl rfl (LOp.bin rfl rfl rfl rfl) (LOps.nil (thn_n (LW.seq ?_)))))
    refine LW.cond rfl (fun (g1 : (decide (x1.t12 < (b.length : Int))) = true) => ?_) (fun (g1 : (decide (x1.t12 < (b.length : Int))) = false) => ?_)
    ·
      have hr := ite_t g1 hr
      refine LW.skip (thn_n (LW.seq (LW.block (LW.seq (LW.region ?_)))))
      obtain ⟨y1, h_y1, hr⟩ := bind_get hr
      refine LOps.st rfl rfl rfl (LOp.indexAddrX rfl rfl rfl st27 h_y1 rfl) (LOps.st rfl rfl rfl (LOp.loadC rfl rfl rfl vt42 rfl rfl) (LOps.st rfl rfl rfl (LOp.alloc rfl zt42 rfl rfl) (LOps.st rfl rfl rfl (LOp.store rfl rfl rfl rfl vt42 rfl rfl rfl rfl) (LOps.nil (thn_n (LW.seq (LW.region (LOps.st rfl rfl rfl (LOp.move rfl rfl) (LOps.st rfl rfl rfl (LOp.load rfl rfl rfl vt42 rfl rfl) ?_)))))))))
      obtain ⟨v2, h_v2, hr⟩ := bind_get hr
      refine LOps.st rfl rfl rfl (LOp.call rfl rfl rfl (by kernel_rfl) (LC.lend (c161 h_v2) (.cons (Conv.vecAll rfl rfl rfl) (.cons Conv.p .nil)) rfl)) (LOps.st rfl rfl rfl (LOp.not rfl rfl) (LOps.nil (thn_n ?_)))
      refine LW.cond rfl (fun (g2 : (!v2) = true) => ?_) (fun (g2 : (!v2) = false) => ?_)
      ·
        have hr := ite_t g2 hr
        refine LW.region (LOps.st rfl rfl rfl (LOp.move rfl rfl) (LOps.st rfl rfl rfl (LOp.load rfl rfl rfl vt42 rfl rfl) (LOps.st rfl rfl rfl (LOp.buildSlice rfl st27 rfl rfl rfl rfl rfl) ?_)))
        obtain ⟨q2, hr⟩ := grd_get hr
        refine LOps.st rfl rfl rfl (LOp.appendX blkP x1.out [y1] rfl rfl rfl rfl Src.p rfl st27 q2 rfl) (LOps.st rfl rfl rfl (LOp.assign rfl rfl) (LOps.nil (inBlk_n (thn_n (LW.region (LOps.st rfl rfl rfl (LOp.bin rfl rfl rfl rfl) (LOps.st rfl rfl rfl (LOp.move rfl rfl) (LOps.nil (thn_n ?_)))))))))
        obtain rfl := Option.some.inj hr
        exact ⟨_, rfl, Weak.of 1 ⟨rfl, rfl, rfl, rfl, rfl, trivial⟩ rfl rfl rfl rfl⟩
      ·
        have hr := ite_f g2 hr
        refine LW.skip (inBlk_n (thn_n (LW.region (LOps.st rfl rfl rfl (LOp.bin rfl rfl rfl rfl) (LOps.st rfl rfl rfl (LOp.move rfl rfl) (LOps.nil (thn_n ?_)))))))
        obtain rfl := Option.some.inj hr
        exact ⟨_, rfl, Weak.of 1 ⟨rfl, rfl, rfl, rfl, rfl, trivial⟩ rfl rfl rfl rfl⟩
    ·
      have hr := ite_f g1 hr
      refine LW.exit (thn_e (thn_e (inBlk_self (thn_n ?_))))
      obtain rfl := Option.some.inj hr
      have hr := congrArg some (hb_x1 _ rfl)
      obtain rfl := Option.some.inj hr
      exact Weak.of 1 ⟨rfl, rfl, trivial⟩ rfl rfl rfl rfl
  · have hr := ho_v1
    clear hb_v1
    refine thn_n (LW.weak hw_v1 (LW.seq (LW.region (LOps.st rfl rfl rfl (LOp.move rfl rfl) (LOps.st rfl rfl rfl (LOp.assign rfl rfl) (LOps.nil (thn_n (LW.ret ?_))))))))
    obtain rfl := Option.some.inj hr
    refine finP_ret (.one (.tmp rfl)) ?_
    exact (Conv.vecAll rfl rfl rfl)
structure F140_L1 where
  t12 : Int
  out : List Vt
def F140_s1 (b : List Vt) (x1 : F140_L1) : Option (F140_L1 ⊕ F140_L1) :=
  bif decide (x1.t12 < (b.length : Int)) then
    (ix b x1.t12).bind fun y1 =>
    (F162 x1.out y1).bind fun v2 =>
    bif !v2 then
      bif room x1.out.length [y1].length 32 then
        some (.inl (F140_L1.mk (IntKind.i64.wrap (x1.t12 + 1)) (x1.out ++ [y1])))
      else none
    else
      some (.inl (F140_L1.mk (IntKind.i64.wrap (x1.t12 + 1)) x1.out))
  else
    some (.inr (F140_L1.mk x1.t12 x1.out))
def F140 (a : List Vt) (b : List Vt) : Option (List Vt) :=
  bif room 0 a.length 32 then
    (iter (F140_s1 b) big (F140_L1.mk 0 a)).bind fun v1 =>
    some v1.out
  else none
set_option maxRecDepth 100000 in
theorem c140 {a : List Vt} {b : List Vt} {r_ : (List Vt)} (hr : F140 a b = some r_) : LPure Tryz.prog 94 [.slice 4 (a.map vtP), .slice 4 (b.map vtP)] [.slice 4 (r_.map vtP)] := by
  refine LPure.start Tryz.func94 rfl rfl rfl rfl ?_
  unfold F140 at hr
  refine LW.seq (LW.region (LOps.st rfl rfl rfl (LOp.assign rfl rfl) (LOps.nil (thn_n (LW.seq (LW.region (LOps.st rfl rfl rfl (LOp.move rfl rfl) ?_)))))))
  obtain ⟨q1, hr⟩ := grd_get hr
  refine LOps.st rfl rfl rfl (LOp.callV (qs := [.p (.slice 4 (a.map vtP))]) rfl rfl rfl (by kernel_rfl) (c134V q1) (.consC Conv.p .nil) rfl rfl) (LOps.st rfl rfl rfl (LOp.assign rfl rfl) (LOps.nil (thn_n (LW.seq (LW.seq (LW.region (LOps.st rfl rfl rfl (LOp.move rfl rfl) (LOps.st rfl rfl rfl (LOp.lenM rfl rfl (by kernel_rfl)) (LOps.st rfl rfl rfl (LOp.move rfl rfl) (LOps.nil (thn_n ?_)))))))))))
  obtain ⟨v1, hb_v1, ho_v1⟩ := bind_get hr
  clear hr
  refine LW.tail (E := [(4, .zs), (5, .vec 4 0 (v1.out.map vtP).length 0 (v1.out.map vtP).length)]) (O := [.vec 4 (v1.out.map vtP)]) ?_ (fun env_v1 H_v1 hw_v1 => ?_)
  · refine LW.block ?_
    refine LW.iterB (E := fun x1 : F140_L1 => [(4, .zs), (5, .vec 4 0 (x1.out.map vtP).length 0 (x1.out.map vtP).length), (10, .p (.slice 4 (b.map vtP))), (11, .p (.int .i64 (b.length : Int))), (12, .p (.int .i64 x1.t12))]) (O := fun x1 => [.vec 4 (x1.out.map vtP)]) hb_v1 (Weak.of 1 ⟨rfl, rfl, rfl, rfl, rfl, trivial⟩ rfl rfl rfl rfl) (fun x1 z_x1 hr hb_x1 => ?_)
    unfold F140_s1 at hr
    refine LW.seq (LW.region (LOps.st rfl rfl rfl (LOp.bin rfl rfl rfl rfl) (LOps.nil (thn_n (LW.seq ?_)))))
    refine LW.cond rfl (fun (g1 : (decide (x1.t12 < (b.length : Int))) = true) => ?_) (fun (g1 : (decide (x1.t12 < (b.length : Int))) = false) => ?_)
    ·
      have hr := ite_t g1 hr
      refine LW.skip (thn_n (LW.seq (LW.block (LW.seq (LW.region ?_)))))
      obtain ⟨y1, h_y1, hr⟩ := bind_get hr
      refine LOps.st rfl rfl rfl (LOp.indexAddrX rfl rfl rfl st68 h_y1 rfl) (LOps.st rfl rfl rfl (LOp.loadC rfl rfl rfl vt82 rfl rfl) (LOps.st rfl rfl rfl (LOp.alloc rfl zt82 rfl rfl) (LOps.st rfl rfl rfl (LOp.store rfl rfl rfl rfl vt82 rfl rfl rfl rfl) (LOps.nil (thn_n (LW.seq (LW.region (LOps.st rfl rfl rfl (LOp.move rfl rfl) (LOps.st rfl rfl rfl (LOp.load rfl rfl rfl vt82 rfl rfl) ?_)))))))))
      obtain ⟨v2, h_v2, hr⟩ := bind_get hr
      refine LOps.st rfl rfl rfl (LOp.call rfl rfl rfl (by kernel_rfl) (LC.lend (c162 h_v2) (.cons (Conv.vecAll rfl rfl rfl) (.cons Conv.p .nil)) rfl)) (LOps.st rfl rfl rfl (LOp.not rfl rfl) (LOps.nil (thn_n ?_)))
      refine LW.cond rfl (fun (g2 : (!v2) = true) => ?_) (fun (g2 : (!v2) = false) => ?_)
      ·
        have hr := ite_t g2 hr
        refine LW.region (LOps.st rfl rfl rfl (LOp.move rfl rfl) (LOps.st rfl rfl rfl (LOp.load rfl rfl rfl vt82 rfl rfl) (LOps.st rfl rfl rfl (LOp.buildSlice rfl st68 rfl rfl rfl rfl rfl) ?_)))
        obtain ⟨q2, hr⟩ := grd_get hr
        refine LOps.st rfl rfl rfl (LOp.appendX vtP x1.out [y1] rfl rfl rfl rfl Src.p rfl st68 q2 rfl) (LOps.st rfl rfl rfl (LOp.assign rfl rfl) (LOps.nil (inBlk_n (thn_n (LW.region (LOps.st rfl rfl rfl (LOp.bin rfl rfl rfl rfl) (LOps.st rfl rfl rfl (LOp.move rfl rfl) (LOps.nil (thn_n ?_)))))))))
        obtain rfl := Option.some.inj hr
        exact ⟨_, rfl, Weak.of 1 ⟨rfl, rfl, rfl, rfl, rfl, trivial⟩ rfl rfl rfl rfl⟩
      ·
        have hr := ite_f g2 hr
        refine LW.skip (inBlk_n (thn_n (LW.region (LOps.st rfl rfl rfl (LOp.bin rfl rfl rfl rfl) (LOps.st rfl rfl rfl (LOp.move rfl rfl) (LOps.nil (thn_n ?_)))))))
        obtain rfl := Option.some.inj hr
        exact ⟨_, rfl, Weak.of 1 ⟨rfl, rfl, rfl, rfl, rfl, trivial⟩ rfl rfl rfl rfl⟩
    ·
      have hr := ite_f g1 hr
      refine LW.exit (thn_e (thn_e (inBlk_self (thn_n ?_))))
      obtain rfl := Option.some.inj hr
      have hr := congrArg some (hb_x1 _ rfl)
      obtain rfl := Option.some.inj hr
      exact Weak.of 1 ⟨rfl, rfl, trivial⟩ rfl rfl rfl rfl
  · have hr := ho_v1
    clear hb_v1
    refine thn_n (LW.weak hw_v1 (LW.seq (LW.region (LOps.st rfl rfl rfl (LOp.move rfl rfl) (LOps.st rfl rfl rfl (LOp.assign rfl rfl) (LOps.nil (thn_n (LW.ret ?_))))))))
    obtain rfl := Option.some.inj hr
    refine finP_ret (.one (.tmp rfl)) ?_
    exact (Conv.vecAll rfl rfl rfl)
def F91 (a : Vw) (b : Vw) : Option Vw :=
  (F139 a.B b.B).bind fun v1 =>
  (F140 a.V b.V).bind fun v2 =>
  some (Vw.mk v1 v2)
set_option maxRecDepth 100000 in
theorem c91 {a : Vw} {b : Vw} {r_ : Vw} (hr : F91 a b = some r_) : LPure Tryz.prog 53 [vwP a, vwP b] [vwP r_] := by
  refine LPure.start Tryz.func53 rfl rfl rfl rfl ?_
  unfold F91 at hr
  refine LW.seq (LW.region (LOps.st rfl rfl rfl (LOp.box rfl rfl rfl rfl rfl) (LOps.st rfl rfl rfl (LOp.box rfl rfl rfl rfl rfl) (LOps.st rfl rfl rfl (LOp.alloc rfl zt75 rfl rfl) (LOps.nil (thn_n (LW.seq (LW.drawLast (m := 11) (by kernel_rfl) (by kernel_rfl) (by kernel_rfl) (LO.st rfl rfl rfl (LOp.fieldAddr rfl rfl ft75_0) (LO.st rfl rfl rfl (LOp.load rfl rfl rfl vt27 rfl rfl) (LO.st rfl rfl rfl (LOp.fieldAddr rfl rfl ft75_0) ?_)))))))))))
  refine LO.st rfl rfl rfl (LOp.load rfl rfl rfl vt27 rfl rfl) ?_
  obtain ⟨v1, h_v1, hr⟩ := bind_get hr
  refine LO.st rfl rfl rfl (LOp.call rfl rfl rfl (by kernel_rfl) (LC.pure (c139 h_v1) (.cons Conv.p (.cons Conv.p .nil)))) (LO.st rfl rfl rfl (LOp.fieldAddr rfl rfl ft75_1) (LO.st rfl rfl rfl (LOp.load rfl rfl rfl vt68 rfl rfl) (LO.st rfl rfl rfl (LOp.fieldAddr rfl rfl ft75_1) (LO.st rfl rfl rfl (LOp.load rfl rfl rfl vt68 rfl rfl) ?_))))
  obtain ⟨v2, h_v2, hr⟩ := bind_get hr
  refine LO.st rfl rfl rfl (LOp.call rfl rfl rfl (by kernel_rfl) (LC.pure (c140 h_v2) (.cons Conv.p (.cons Conv.p .nil)))) (LO.st rfl rfl rfl (LOp.build rfl bt75 rfl rfl rfl) (LO.nil (LOps.st rfl rfl rfl (LOp.store rfl rfl rfl rfl vt75 rfl rfl rfl rfl) (LOps.nil (thn_n (LW.ret ?_))))))
  obtain rfl := Option.some.inj hr
  refine finP_ret (.one (.cellAgg rfl rfl (by kernel_rfl) rfl)) ?_
  exact Conv.p
structure F163_L1 where
  n : Int
  i : Int
structure F129_L1 where
  i : Int
structure F128_L1 where
  i : Int
structure F141_L1 where
  i : Int
  o3 : List Bk
structure F141_L2 where
  there : Bool
  k : Int
structure F141_L3 where
  i : Int
  o4 : List Vt
def F125 : Option Cf :=
  some (Cf.mk [1] 0 1 1 4)
set_option maxRecDepth 100000 in
theorem c125 {r_ : Cf} (hr : F125 = some r_) : LPure Tryz.prog 46 [] [cfP r_] := by
  refine LPure.start Tryz.func46 rfl rfl rfl rfl ?_
  unfold F125 at hr
  refine LW.seq (LW.region (LOps.st rfl rfl rfl (LOp.alloc rfl zt55 rfl rfl) (LOps.nil (thn_n (LW.seq (LW.region (LOps.st rfl rfl rfl (LOp.buildSlice rfl st49 rfl rfl rfl rfl rfl) (LOps.st rfl rfl rfl (LOp.build rfl bt55 rfl rfl rfl) (LOps.st rfl rfl rfl (LOp.store rfl rfl rfl rfl vt55 rfl rfl rfl rfl) (LOps.nil (thn_n ?_)))))))))))
  refine LW.ret ?_
  obtain rfl := Option.some.inj hr
  refine finP_ret (.one (.cellAgg rfl rfl (by kernel_rfl) rfl)) ?_
  exact Conv.p
open Go.Proofs
structure F126_L1 where
  t12 : Int
  out : List Bk
def F126_s1 (c : Cf) (l : List Bk) (x1 : F126_L1) : Option (F126_L1 ⊕ F126_L1) :=
  bif decide (x1.t12 < (l.length : Int)) then
    (ix l x1.t12).bind fun y1 =>
    (F87 c y1).bind fun v2 =>
    bif v2 then
      bif room x1.out.length [y1].length 40 then
        some (.inl (F126_L1.mk (IntKind.i64.wrap (x1.t12 + 1)) (x1.out ++ [y1])))
      else none
    else
      some (.inl (F126_L1.mk (IntKind.i64.wrap (x1.t12 + 1)) x1.out))
  else
    some (.inr (F126_L1.mk x1.t12 x1.out))
def F126 (c : Cf) (l : List Bk) : Option (List Bk) :=
  (iter (F126_s1 c l) big (F126_L1.mk 0 ([] : List Bk))).bind fun v1 =>
  some v1.out
set_option maxRecDepth 100000 in
theorem cF126 {c : Cf} {l : List Bk} {r_ : List Bk} (hr : F126 c l = some r_) : LC Tryz.prog 69 [.p (cfP c), .p (.slice 5 (l.map blkP)), .fn 70 [] []] [] (Is (.vec 5 0 (r_.map blkP).length 0 (r_.map blkP).length) [.vec 5 (r_.map blkP)]) := by
  refine LC.start Tryz.func69 rfl rfl rfl ?_
  unfold F126 at hr
  refine LW.seq (LW.region (LOps.st rfl rfl rfl (LOp.box rfl rfl rfl rfl rfl) (LOps.st rfl rfl rfl (LOp.assign rfl rfl) (LOps.nil (thn_n (LW.seq (LW.region (LOps.st rfl rfl rfl (LOp.assign rfl rfl) (LOps.nil (thn_n (LW.seq ?_)))))))))))
  refine LW.seq (LW.region (LOps.st rfl rfl rfl (LOp.move rfl rfl) (LOps.st rfl rfl rfl (LOp.lenM rfl rfl (by kernel_rfl)) (LOps.st rfl rfl rfl (LOp.move rfl rfl) (LOps.nil (thn_n (LW.ent (Ent.lazy (t := 7) (m := 5) rfl rfl rfl) ?_)))))))
  obtain ⟨v1, hb_v1, ho_v1⟩ := bind_get hr
  clear hr
  refine LW.tail (E := [(6, .zs), (7, .vec 5 1 (v1.out.map blkP).length 0 (v1.out.map blkP).length)]) (O := [.box [.p (.slice 1 (c.W.map i64P)), .p (.int .u64 c.Seed), .p (.int .i64 c.Epoch), .p (.int .i64 c.Num), .p (.int .i64 c.Den)], .vec 5 (v1.out.map blkP)]) ?_ (fun env_v1 H_v1 hw_v1 => ?_)
  · refine LW.block ?_
    refine LW.iterB (E := fun x1 : F126_L1 => [(2, .fn 70 [] []), (3, .ptr 0 0), (6, .zs), (7, .vec 5 1 (x1.out.map blkP).length 0 (x1.out.map blkP).length), (10, .p (.slice 5 (l.map blkP))), (11, .p (.int .i64 (l.length : Int))), (12, .p (.int .i64 x1.t12))]) (O := fun x1 => [.box [.p (.slice 1 (c.W.map i64P)), .p (.int .u64 c.Seed), .p (.int .i64 c.Epoch), .p (.int .i64 c.Num), .p (.int .i64 c.Den)], .vec 5 (x1.out.map blkP)]) hb_v1 (Weak.of 2 ⟨rfl, rfl, rfl, rfl, rfl, rfl, rfl, trivial⟩ rfl rfl rfl rfl) (fun x1 z_x1 hr hb_x1 => ?_)
    unfold F126_s1 at hr
    refine LW.seq (LW.region (LOps.st rfl rfl rfl (LOp.bin rfl rfl rfl rfl) (LOps.nil (thn_n (LW.seq ?_)))))
    refine LW.cond rfl (fun (g1 : (decide (x1.t12 < (l.length : Int))) = true) => ?_) (fun (g1 : (decide (x1.t12 < (l.length : Int))) = false) => ?_)
    ·
      have hr := ite_t g1 hr
      refine LW.skip (thn_n (LW.seq (LW.block (LW.seq (LW.region ?_)))))
      obtain ⟨y1, h_y1, hr⟩ := bind_get hr
      refine LOps.st rfl rfl rfl (LOp.indexAddrX rfl rfl rfl st27 h_y1 rfl) (LOps.st rfl rfl rfl (LOp.loadC rfl rfl rfl vt42 rfl rfl) (LOps.st rfl rfl rfl (LOp.alloc rfl zt42 rfl rfl) (LOps.st rfl rfl rfl (LOp.store rfl rfl rfl rfl vt42 rfl rfl rfl rfl) (LOps.nil (thn_n (LW.seq (LW.region (LOps.st rfl rfl rfl (LOp.move rfl rfl) (LOps.st rfl rfl rfl (LOp.load rfl rfl rfl vt55 rfl rfl) (LOps.st rfl rfl rfl (LOp.load rfl rfl rfl vt42 rfl rfl) ?_))))))))))
      obtain ⟨v2, h_v2, hr⟩ := bind_get hr
      refine LOps.st rfl rfl rfl (LOp.call rfl rfl rfl (by kernel_rfl) (LC.pure (c87 h_v2) (.cons Conv.p (.cons Conv.p .nil)))) (LOps.nil (thn_n ?_))
      refine LW.cond rfl (fun (g2 : v2 = true) => ?_) (fun (g2 : v2 = false) => ?_)
      ·
        have hr := ite_t g2 hr
        refine LW.region (LOps.st rfl rfl rfl (LOp.move rfl rfl) (LOps.st rfl rfl rfl (LOp.load rfl rfl rfl vt42 rfl rfl) (LOps.st rfl rfl rfl (LOp.buildSlice rfl st27 rfl rfl rfl rfl rfl) ?_)))
        obtain ⟨q1, hr⟩ := grd_get hr
        refine LOps.st rfl rfl rfl (LOp.appendX blkP x1.out [y1] rfl rfl rfl rfl Src.p rfl st27 q1 rfl) (LOps.st rfl rfl rfl (LOp.assign rfl rfl) (LOps.nil (inBlk_n (thn_n (LW.region (LOps.st rfl rfl rfl (LOp.bin rfl rfl rfl rfl) (LOps.st rfl rfl rfl (LOp.move rfl rfl) (LOps.nil (thn_n ?_)))))))))
        obtain rfl := Option.some.inj hr
        exact ⟨_, rfl, Weak.of 2 ⟨rfl, rfl, rfl, rfl, rfl, rfl, rfl, trivial⟩ rfl rfl rfl rfl⟩
      ·
        have hr := ite_f g2 hr
        refine LW.skip (inBlk_n (thn_n (LW.region (LOps.st rfl rfl rfl (LOp.bin rfl rfl rfl rfl) (LOps.st rfl rfl rfl (LOp.move rfl rfl) (LOps.nil (thn_n ?_)))))))
        obtain rfl := Option.some.inj hr
        exact ⟨_, rfl, Weak.of 2 ⟨rfl, rfl, rfl, rfl, rfl, rfl, rfl, trivial⟩ rfl rfl rfl rfl⟩
    ·
      have hr := ite_f g1 hr
      refine LW.exit (thn_e (thn_e (inBlk_self (thn_n ?_))))
      obtain rfl := Option.some.inj hr
      have hr := congrArg some (hb_x1 _ rfl)
      obtain rfl := Option.some.inj hr
      exact Weak.of 2 ⟨rfl, rfl, trivial⟩ rfl rfl rfl rfl
  · have hr := ho_v1
    clear hb_v1
    refine thn_n (LW.weak hw_v1 (LW.seq (LW.ent (Ent.last (t := 7) (j := 0) (Hj := []) rfl rfl rfl rfl rfl rfl rfl) (LW.region (LOps.st rfl rfl rfl (LOp.move rfl rfl) (LOps.st rfl rfl rfl (LOp.assign rfl rfl) (LOps.nil (thn_n (LW.ret ?_)))))))))
    obtain rfl := Option.some.inj hr
    refine fin_ret (.one (.tmp rfl)) ?_
    exact ⟨rfl, rfl⟩
structure F127_L1 where
  t12 : Int
  out : List Vt
def F127_s1 (c : Cf) (l : List Vt) (x1 : F127_L1) : Option (F127_L1 ⊕ F127_L1) :=
  bif decide (x1.t12 < (l.length : Int)) then
    (ix l x1.t12).bind fun y1 =>
    (F88 c y1).bind fun v2 =>
    bif v2 then
      bif room x1.out.length [y1].length 32 then
        some (.inl (F127_L1.mk (IntKind.i64.wrap (x1.t12 + 1)) (x1.out ++ [y1])))
      else none
    else
      some (.inl (F127_L1.mk (IntKind.i64.wrap (x1.t12 + 1)) x1.out))
  else
    some (.inr (F127_L1.mk x1.t12 x1.out))
def F127 (c : Cf) (l : List Vt) : Option (List Vt) :=
  (iter (F127_s1 c l) big (F127_L1.mk 0 ([] : List Vt))).bind fun v1 =>
  some v1.out
set_option maxRecDepth 100000 in
theorem cF127 {c : Cf} {l : List Vt} {r_ : List Vt} (hr : F127 c l = some r_) : LC Tryz.prog 71 [.p (cfP c), .p (.slice 4 (l.map vtP)), .fn 72 [] []] [] (Is (.vec 4 0 (r_.map vtP).length 0 (r_.map vtP).length) [.vec 4 (r_.map vtP)]) := by
  refine LC.start Tryz.func71 rfl rfl rfl ?_
  unfold F127 at hr
  refine LW.seq (LW.region (LOps.st rfl rfl rfl (LOp.box rfl rfl rfl rfl rfl) (LOps.st rfl rfl rfl (LOp.assign rfl rfl) (LOps.nil (thn_n (LW.seq (LW.region (LOps.st rfl rfl rfl (LOp.assign rfl rfl) (LOps.nil (thn_n (LW.seq ?_)))))))))))
  refine LW.seq (LW.region (LOps.st rfl rfl rfl (LOp.move rfl rfl) (LOps.st rfl rfl rfl (LOp.lenM rfl rfl (by kernel_rfl)) (LOps.st rfl rfl rfl (LOp.move rfl rfl) (LOps.nil (thn_n (LW.ent (Ent.lazy (t := 7) (m := 4) rfl rfl rfl) ?_)))))))
  obtain ⟨v1, hb_v1, ho_v1⟩ := bind_get hr
  clear hr
  refine LW.tail (E := [(6, .zs), (7, .vec 4 1 (v1.out.map vtP).length 0 (v1.out.map vtP).length)]) (O := [.box [.p (.slice 1 (c.W.map i64P)), .p (.int .u64 c.Seed), .p (.int .i64 c.Epoch), .p (.int .i64 c.Num), .p (.int .i64 c.Den)], .vec 4 (v1.out.map vtP)]) ?_ (fun env_v1 H_v1 hw_v1 => ?_)
  · refine LW.block ?_
    refine LW.iterB (E := fun x1 : F127_L1 => [(2, .fn 72 [] []), (3, .ptr 0 0), (6, .zs), (7, .vec 4 1 (x1.out.map vtP).length 0 (x1.out.map vtP).length), (10, .p (.slice 4 (l.map vtP))), (11, .p (.int .i64 (l.length : Int))), (12, .p (.int .i64 x1.t12))]) (O := fun x1 => [.box [.p (.slice 1 (c.W.map i64P)), .p (.int .u64 c.Seed), .p (.int .i64 c.Epoch), .p (.int .i64 c.Num), .p (.int .i64 c.Den)], .vec 4 (x1.out.map vtP)]) hb_v1 (Weak.of 2 ⟨rfl, rfl, rfl, rfl, rfl, rfl, rfl, trivial⟩ rfl rfl rfl rfl) (fun x1 z_x1 hr hb_x1 => ?_)
    unfold F127_s1 at hr
    refine LW.seq (LW.region (LOps.st rfl rfl rfl (LOp.bin rfl rfl rfl rfl) (LOps.nil (thn_n (LW.seq ?_)))))
    refine LW.cond rfl (fun (g1 : (decide (x1.t12 < (l.length : Int))) = true) => ?_) (fun (g1 : (decide (x1.t12 < (l.length : Int))) = false) => ?_)
    ·
      have hr := ite_t g1 hr
      refine LW.skip (thn_n (LW.seq (LW.block (LW.seq (LW.region ?_)))))
      obtain ⟨y1, h_y1, hr⟩ := bind_get hr
      refine LOps.st rfl rfl rfl (LOp.indexAddrX rfl rfl rfl st68 h_y1 rfl) (LOps.st rfl rfl rfl (LOp.loadC rfl rfl rfl vt82 rfl rfl) (LOps.st rfl rfl rfl (LOp.alloc rfl zt82 rfl rfl) (LOps.st rfl rfl rfl (LOp.store rfl rfl rfl rfl vt82 rfl rfl rfl rfl) (LOps.nil (thn_n (LW.seq (LW.region (LOps.st rfl rfl rfl (LOp.move rfl rfl) (LOps.st rfl rfl rfl (LOp.load rfl rfl rfl vt55 rfl rfl) (LOps.st rfl rfl rfl (LOp.load rfl rfl rfl vt82 rfl rfl) ?_))))))))))
      obtain ⟨v2, h_v2, hr⟩ := bind_get hr
      refine LOps.st rfl rfl rfl (LOp.call rfl rfl rfl (by kernel_rfl) (LC.pure (c88 h_v2) (.cons Conv.p (.cons Conv.p .nil)))) (LOps.nil (thn_n ?_))
      refine LW.cond rfl (fun (g2 : v2 = true) => ?_) (fun (g2 : v2 = false) => ?_)
      ·
        have hr := ite_t g2 hr
        refine LW.region (LOps.st rfl rfl rfl (LOp.move rfl rfl) (LOps.st rfl rfl rfl (LOp.load rfl rfl rfl vt82 rfl rfl) (LOps.st rfl rfl rfl (LOp.buildSlice rfl st68 rfl rfl rfl rfl rfl) ?_)))
        obtain ⟨q1, hr⟩ := grd_get hr
        refine LOps.st rfl rfl rfl (LOp.appendX vtP x1.out [y1] rfl rfl rfl rfl Src.p rfl st68 q1 rfl) (LOps.st rfl rfl rfl (LOp.assign rfl rfl) (LOps.nil (inBlk_n (thn_n (LW.region (LOps.st rfl rfl rfl (LOp.bin rfl rfl rfl rfl) (LOps.st rfl rfl rfl (LOp.move rfl rfl) (LOps.nil (thn_n ?_)))))))))
        obtain rfl := Option.some.inj hr
        exact ⟨_, rfl, Weak.of 2 ⟨rfl, rfl, rfl, rfl, rfl, rfl, rfl, trivial⟩ rfl rfl rfl rfl⟩
      ·
        have hr := ite_f g2 hr
        refine LW.skip (inBlk_n (thn_n (LW.region (LOps.st rfl rfl rfl (LOp.bin rfl rfl rfl rfl) (LOps.st rfl rfl rfl (LOp.move rfl rfl) (LOps.nil (thn_n ?_)))))))
        obtain rfl := Option.some.inj hr
        exact ⟨_, rfl, Weak.of 2 ⟨rfl, rfl, rfl, rfl, rfl, rfl, rfl, trivial⟩ rfl rfl rfl rfl⟩
    ·
      have hr := ite_f g1 hr
      refine LW.exit (thn_e (thn_e (inBlk_self (thn_n ?_))))
      obtain rfl := Option.some.inj hr
      have hr := congrArg some (hb_x1 _ rfl)
      obtain rfl := Option.some.inj hr
      exact Weak.of 2 ⟨rfl, rfl, trivial⟩ rfl rfl rfl rfl
  · have hr := ho_v1
    clear hb_v1
    refine thn_n (LW.weak hw_v1 (LW.seq (LW.ent (Ent.last (t := 7) (j := 0) (Hj := []) rfl rfl rfl rfl rfl rfl rfl) (LW.region (LOps.st rfl rfl rfl (LOp.move rfl rfl) (LOps.st rfl rfl rfl (LOp.assign rfl rfl) (LOps.nil (thn_n (LW.ret ?_)))))))))
    obtain rfl := Option.some.inj hr
    refine fin_ret (.one (.tmp rfl)) ?_
    exact ⟨rfl, rfl⟩
def F85 (c : Cf) (v_in : Vw) : Option Vw :=
  (F126 c v_in.B).bind fun v1 =>
  (F127 c v_in.V).bind fun v2 =>
  some (Vw.mk v1 v2)
set_option maxRecDepth 100000 in
theorem c85 {c : Cf} {v_in : Vw} {r_ : Vw} (hr : F85 c v_in = some r_) : LPure Tryz.prog 28 [cfP c, vwP v_in] [vwP r_] := by
  refine LPure.start Tryz.func28 rfl rfl rfl rfl ?_
  unfold F85 at hr
  refine LW.seq (LW.region (LOps.st rfl rfl rfl (LOp.box rfl rfl rfl rfl rfl) (LOps.st rfl rfl rfl (LOp.box rfl rfl rfl rfl rfl) (LOps.st rfl rfl rfl (LOp.alloc rfl zt75 rfl rfl) (LOps.nil (thn_n (LW.seq (LW.ent (Ent.slot rfl) (LW.ent (Ent.slot rfl) (LW.drawW (by kernel_rfl) (by kernel_rfl) (LF.st rfl rfl rfl (LAt.load rfl rfl rfl vt55 rfl rfl) rfl ?_)))))))))))
  refine LF.st (F := []) (s := none) rfl rfl rfl (fun H _ => LOp.fieldAddr rfl rfl ft75_0) rfl ?_
  refine LF.st rfl rfl rfl (LAt.load rfl rfl rfl vt27 rfl rfl) rfl ?_
  obtain ⟨v1, h_v1, hr⟩ := bind_get hr
  refine LF.st rfl rfl rfl (LAt.callV (id := 3) (qs := [.p (cfP c), .p (.slice 5 (v_in.B.map blkP)), .fn 70 [] []]) rfl rfl rfl (by kernel_rfl) (cF126 h_v1) (fun H => (.consC Conv.p (.consC Conv.p (.consF .nil)))) rfl) rfl ?_
  refine LF.st rfl rfl rfl (LAt.load rfl rfl rfl vt55 rfl rfl) rfl ?_
  refine LF.st (F := []) (s := none) rfl rfl rfl (fun H _ => LOp.fieldAddr rfl rfl ft75_1) rfl ?_
  refine LF.st rfl rfl rfl (LAt.load rfl rfl rfl vt68 rfl rfl) rfl ?_
  obtain ⟨v2, h_v2, hr⟩ := bind_get hr
  refine LF.st rfl rfl rfl (LAt.callV (id := 4) (qs := [.p (cfP c), .p (.slice 4 (v_in.V.map vtP)), .fn 72 [] []]) rfl rfl rfl (by kernel_rfl) (cF127 h_v2) (fun H => (.consC Conv.p (.consC Conv.p (.consF .nil)))) rfl) rfl ?_
  refine LF.st (F := []) (s := none) rfl rfl rfl (fun H _ => LOp.build rfl bt75 rfl rfl rfl) rfl ?_
  refine LF.st rfl rfl rfl (LAt.store rfl rfl rfl rfl vt75 rfl rfl rfl) rfl ?_
  refine LF.nil ⟨by kernel_rfl, ?_⟩
  refine thn_n (LW.ret ?_)
  obtain rfl := Option.some.inj hr
  refine finP_ret (.one (.cellAgg rfl rfl (by kernel_rfl) rfl)) ?_
  exact (Conv.agg (.cons (Conv.vecAll rfl rfl rfl) (.cons (Conv.vecAll rfl rfl rfl) .nil)))
def F85V (c : Cf) (inp : Vw) : Option (List Bk × List Vt) :=
  (F126 c inp.B).bind fun v1 =>
  (F127 c inp.V).bind fun v2 =>
  some (v1, v2)
set_option maxRecDepth 100000 in
theorem cF85V {c : Cf} {inp : Vw} {r_ : List Bk × List Vt} (hr : F85V c inp = some r_) : LC Tryz.prog 28 [.p (cfP c), .p (vwP inp)] [] (Is (.agg [.vec 5 3 (r_.1.map blkP).length 0 (r_.1.map blkP).length, .vec 4 4 (r_.2.map vtP).length 0 (r_.2.map vtP).length]) [.box [.p (.slice 1 (c.W.map i64P)), .p (.int .u64 c.Seed), .p (.int .i64 c.Epoch), .p (.int .i64 c.Num), .p (.int .i64 c.Den)], .box [.p (.slice 5 (inp.B.map blkP)), .p (.slice 4 (inp.V.map vtP))], .box [.vec 5 3 (r_.1.map blkP).length 0 (r_.1.map blkP).length, .vec 4 4 (r_.2.map vtP).length 0 (r_.2.map vtP).length], .vec 5 (r_.1.map blkP), .vec 4 (r_.2.map vtP)]) := by
  refine LC.start Tryz.func28 rfl rfl rfl ?_
  unfold F85V at hr
  refine LW.seq (LW.region (LOps.st rfl rfl rfl (LOp.box rfl rfl rfl rfl rfl) (LOps.st rfl rfl rfl (LOp.box rfl rfl rfl rfl rfl) (LOps.st rfl rfl rfl (LOp.alloc rfl zt75 rfl rfl) (LOps.nil (thn_n (LW.seq (LW.ent (Ent.slot rfl) (LW.ent (Ent.slot rfl) (LW.drawW (by kernel_rfl) (by kernel_rfl) (LF.st rfl rfl rfl (LAt.load rfl rfl rfl vt55 rfl rfl) rfl ?_)))))))))))
  refine LF.st (F := []) (s := none) rfl rfl rfl (fun H _ => LOp.fieldAddr rfl rfl ft75_0) rfl ?_
  refine LF.st rfl rfl rfl (LAt.load rfl rfl rfl vt27 rfl rfl) rfl ?_
  obtain ⟨v1, h_v1, hr⟩ := bind_get hr
  refine LF.st rfl rfl rfl (LAt.callV (id := 3) (qs := [.p (cfP c), .p (.slice 5 (inp.B.map blkP)), .fn 70 [] []]) rfl rfl rfl (by kernel_rfl) (cF126 h_v1) (fun H => (.consC Conv.p (.consC Conv.p (.consF .nil)))) rfl) rfl ?_
  refine LF.st rfl rfl rfl (LAt.load rfl rfl rfl vt55 rfl rfl) rfl ?_
  refine LF.st (F := []) (s := none) rfl rfl rfl (fun H _ => LOp.fieldAddr rfl rfl ft75_1) rfl ?_
  refine LF.st rfl rfl rfl (LAt.load rfl rfl rfl vt68 rfl rfl) rfl ?_
  obtain ⟨v2, h_v2, hr⟩ := bind_get hr
  refine LF.st rfl rfl rfl (LAt.callV (id := 4) (qs := [.p (cfP c), .p (.slice 4 (inp.V.map vtP)), .fn 72 [] []]) rfl rfl rfl (by kernel_rfl) (cF127 h_v2) (fun H => (.consC Conv.p (.consC Conv.p (.consF .nil)))) rfl) rfl ?_
  refine LF.st (F := []) (s := none) rfl rfl rfl (fun H _ => LOp.build rfl bt75 rfl rfl rfl) rfl ?_
  refine LF.st rfl rfl rfl (LAt.store rfl rfl rfl rfl vt75 rfl rfl rfl) rfl ?_
  refine LF.nil ⟨by kernel_rfl, ?_⟩
  refine thn_n (LW.ret ?_)
  obtain rfl := Option.some.inj hr
  refine fin_ret (.one (.cellAgg rfl rfl (by kernel_rfl) rfl)) ?_
  exact ⟨rfl, rfl⟩
structure F130_L1 where
  t27 : Int
  o3 : List (ID × Int)
structure F130_L2 where
  t43 : Int
  o4 : List (Vt × Bool)
def F130_s1 (w : Vw) (x1 : F130_L1) : Option (F130_L1 ⊕ F130_L1) :=
  bif decide (x1.t27 < (w.B.length : Int)) then
    (ix w.B x1.t27).bind fun y1 =>
    some (.inl (F130_L1.mk (IntKind.i64.wrap (x1.t27 + 1)) (setE x1.o3 (nm y1) y1.Slot)))
  else
    some (.inr (F130_L1.mk x1.t27 x1.o3))
def F130_s2 (w : Vw) (x2 : F130_L2) : Option (F130_L2 ⊕ F130_L2) :=
  bif decide (x2.t43 < (w.V.length : Int)) then
    (ix w.V x2.t43).bind fun y2 =>
    some (.inl (F130_L2.mk (IntKind.i64.wrap (x2.t43 + 1)) (setE x2.o4 y2 true)))
  else
    some (.inr (F130_L2.mk x2.t43 x2.o4))
def F130 (w : Vw) (_ : Int) : Option (List (ID × Int) × List (Vt × Bool)) :=
  bif room 0 w.B.length 40 then
    bif room 0 w.V.length 32 then
      (iter (F130_s1 w) big (F130_L1.mk 0 (setE [] (0, 0) 0))).bind fun v1 =>
      (iter (F130_s2 w) big (F130_L2.mk 0 ([] : List (Vt × Bool)))).bind fun v2 =>
      some (v1.o3, v2.o4)
    else none
  else none
set_option maxRecDepth 100000 in
theorem cF130 {w : Vw} {upto : Int} {r_ : List (ID × Int) × List (Vt × Bool)} (hr : F130 w upto = some r_) : LC Tryz.prog 48 [.p (vwP w), .p (.int .i64 upto)] [] (Is (.ptr 5 0) [.box [.p (.slice 5 (w.B.map blkP)), .p (.slice 4 (w.V.map vtP))], .vec 5 (w.B.map blkP), .vec 4 (w.V.map vtP), .map (entsOf idP (fun v => .p (.int .i64 v)) r_.1), .map (entsOf vtP (fun v => .p (.bool v)) r_.2), .box [.vec 5 1 (w.B.map blkP).length 0 (w.B.map blkP).length, .vec 4 2 (w.V.map vtP).length 0 (w.V.map vtP).length, .map 3, .map 4, .p (.int .i64 upto), .p (.bool false)]]) := by
  refine LC.start Tryz.func48 rfl rfl rfl ?_
  unfold F130 at hr
  refine LW.seq (LW.region (LOps.st rfl rfl rfl (LOp.box rfl rfl rfl rfl rfl) (LOps.st rfl rfl rfl (LOp.assign rfl rfl) (LOps.nil (thn_n (LW.seq (LW.ent (Ent.slot rfl) (LW.ent (Ent.slot rfl) (LW.ent (Ent.slot rfl) (LW.ent (Ent.slot rfl) (LW.ent (Ent.slot rfl) ?_)))))))))))
  refine LW.drawW (by kernel_rfl) (by kernel_rfl) ?_
  refine LF.st (F := []) (s := none) rfl rfl rfl (fun H _ => LOp.fieldAddr rfl rfl ft75_0) rfl ?_
  refine LF.st rfl rfl rfl (LAt.load rfl rfl rfl vt27 rfl rfl) rfl ?_
  obtain ⟨q1, hr⟩ := grd_get hr
  refine LF.st rfl rfl rfl (LAt.callV (id := 1) (qs := [.p (.slice 5 (w.B.map blkP))]) rfl rfl rfl (by kernel_rfl) (c133V q1) (fun H => (.consC Conv.p .nil)) rfl) rfl ?_
  refine LF.st (F := []) (s := none) rfl rfl rfl (fun H _ => LOp.fieldAddr rfl rfl ft75_1) rfl ?_
  refine LF.st rfl rfl rfl (LAt.load rfl rfl rfl vt68 rfl rfl) rfl ?_
  obtain ⟨q2, hr⟩ := grd_get hr
  refine LF.st rfl rfl rfl (LAt.callV (id := 2) (qs := [.p (.slice 4 (w.V.map vtP))]) rfl rfl rfl (by kernel_rfl) (c134V q2) (fun H => (.consC Conv.p .nil)) rfl) rfl ?_
  refine LF.st (F := []) (s := none) rfl rfl rfl (fun H _ => LOp.build rfl bt75 rfl rfl rfl) rfl ?_
  refine LF.st rfl rfl rfl (LAt.makeMap rfl (id := 3) rfl) rfl ?_
  refine LF.st (F := []) (s := none) rfl rfl rfl (fun H _ => LOp.build rfl bt24 rfl rfl rfl) rfl ?_
  refine LF.st rfl rfl rfl (LAt.setX (f := idP) (g := (fun v => .p (.int .i64 v))) (m := ([] : List (ID × Int))) (0, 0) 0 idKey (.inr rfl) rfl rfl rfl rfl rfl mt91) rfl ?_
  refine LF.st (F := []) (s := none) rfl rfl rfl (fun H _ => LOp.move rfl rfl) rfl ?_
  refine LF.st rfl rfl rfl (LAt.makeMap rfl (id := 4) rfl) rfl ?_
  refine LF.st (F := []) (s := none) rfl rfl rfl (fun H _ => LOp.move rfl rfl) rfl ?_
  refine LF.st (F := []) (s := none) rfl rfl rfl (fun H _ => LOp.build rfl bt149 rfl rfl rfl) rfl ?_
  refine LF.st rfl rfl rfl (LAt.box rfl rfl rfl (id := 5) rfl) rfl ?_
  refine LF.st (F := []) (s := none) rfl rfl rfl (fun H _ => LOp.assign rfl rfl) rfl ?_
  refine LF.nil ⟨by kernel_rfl, ?_⟩
  refine thn_n (LW.seq (LW.seq (LW.region (LOps.st rfl rfl rfl (LOp.fieldAddr rfl rfl ft75_0) (LOps.st rfl rfl rfl (LOp.load rfl rfl rfl vt27 rfl rfl) (LOps.st rfl rfl rfl (LOp.lenM rfl rfl (by kernel_rfl)) (LOps.st rfl rfl rfl (LOp.move rfl rfl) (LOps.nil (thn_n ?_)))))))))
  obtain ⟨v1, hb_v1, ho_v1⟩ := bind_get hr
  clear hr
  refine LW.tail (E := [(2, .ptr 0 0), (5, .ptr 5 0)]) (O := [.box [.p (.slice 5 (w.B.map blkP)), .p (.slice 4 (w.V.map vtP))], .vec 5 (w.B.map blkP), .vec 4 (w.V.map vtP), .map (entsOf idP (fun v => .p (.int .i64 v)) v1.o3), .map (entsOf vtP (fun v => .p (.bool v)) []), .box [.vec 5 1 (w.B.map blkP).length 0 (w.B.map blkP).length, .vec 4 2 (w.V.map vtP).length 0 (w.V.map vtP).length, .map 3, .map 4, .p (.int .i64 upto), .p (.bool false)]]) ?_ (fun env_v1 H_v1 hw_v1 => ?_)
  · refine LW.block ?_
    refine LW.iterB (E := fun x1 : F130_L1 => [(2, .ptr 0 0), (5, .ptr 5 0), (25, .p (.slice 5 (w.B.map blkP))), (26, .p (.int .i64 (w.B.length : Int))), (27, .p (.int .i64 x1.t27))]) (O := fun x1 => [.box [.p (.slice 5 (w.B.map blkP)), .p (.slice 4 (w.V.map vtP))], .vec 5 (w.B.map blkP), .vec 4 (w.V.map vtP), .map (entsOf idP (fun v => .p (.int .i64 v)) x1.o3), .map (entsOf vtP (fun v => .p (.bool v)) []), .box [.vec 5 1 (w.B.map blkP).length 0 (w.B.map blkP).length, .vec 4 2 (w.V.map vtP).length 0 (w.V.map vtP).length, .map 3, .map 4, .p (.int .i64 upto), .p (.bool false)]]) hb_v1 (Weak.of 6 ⟨rfl, rfl, rfl, rfl, rfl, trivial⟩ rfl rfl rfl (lowObjs_cons rfl (lowObjs_cons rfl (lowObjs_cons rfl (lowObjs_cons (entsLow (fun _ => rfl) _) (lowObjs_cons (entsLow (fun _ => rfl) _) (lowObjs_cons rfl rfl))))))) (fun x1 z_x1 hr hb_x1 => ?_)
    unfold F130_s1 at hr
    refine LW.seq (LW.region (LOps.st rfl rfl rfl (LOp.bin rfl rfl rfl rfl) (LOps.nil (thn_n (LW.seq ?_)))))
    refine LW.cond rfl (fun (g1 : (decide (x1.t27 < (w.B.length : Int))) = true) => ?_) (fun (g1 : (decide (x1.t27 < (w.B.length : Int))) = false) => ?_)
    ·
      have hr := ite_t g1 hr
      refine LW.skip (thn_n (LW.seq (LW.block (LW.seq (LW.region ?_)))))
      obtain ⟨y1, h_y1, hr⟩ := bind_get hr
      refine LOps.st rfl rfl rfl (LOp.indexAddrX rfl rfl rfl st27 h_y1 rfl) (LOps.st rfl rfl rfl (LOp.loadC rfl rfl rfl vt42 rfl rfl) (LOps.st rfl rfl rfl (LOp.alloc rfl zt42 rfl rfl) (LOps.st rfl rfl rfl (LOp.store rfl rfl rfl rfl vt42 rfl rfl rfl rfl) (LOps.nil (thn_n (LW.drawLast (m := 8) (by kernel_rfl) (by kernel_rfl) (by kernel_rfl) (LO.st rfl rfl rfl (LOp.move rfl rfl) (LO.st rfl rfl rfl (LOp.nilCheck rfl rfl) (LO.st rfl rfl rfl (LOp.fieldAddr rfl rfl ft149_1) (LO.st rfl rfl rfl (LOp.load rfl rfl rfl vt91 rfl rfl) (LO.st rfl rfl rfl (LOp.load rfl rfl rfl vt42 rfl rfl) ?_)))))))))))
      refine LO.st rfl rfl rfl (LOp.call rfl rfl rfl (by kernel_rfl) (LC.pure (c50 (b := y1)) (.cons Conv.p .nil))) (LO.st rfl rfl rfl (LOp.fieldAddr rfl rfl ft42_0) (LO.st rfl rfl rfl (LOp.load rfl rfl rfl vt3 rfl rfl) (LO.nil ?_)))
      refine LOps.st rfl rfl rfl (LOp.setX (f := idP) (g := (fun v => .p (.int .i64 v))) (nm y1) y1.Slot idKey (.inl rfl) rfl rfl rfl rfl rfl mt91 rfl) ?_
      refine LOps.nil (inBlk_n (thn_n (LW.region (LOps.st rfl rfl rfl (LOp.bin rfl rfl rfl rfl) (LOps.st rfl rfl rfl (LOp.move rfl rfl) (LOps.nil (thn_n ?_)))))))
      obtain rfl := Option.some.inj hr
      exact ⟨_, rfl, Weak.of 6 ⟨rfl, rfl, rfl, rfl, rfl, trivial⟩ rfl rfl rfl (lowObjs_cons rfl (lowObjs_cons rfl (lowObjs_cons rfl (lowObjs_cons (entsLow (fun _ => rfl) _) (lowObjs_cons (entsLow (fun _ => rfl) _) (lowObjs_cons rfl rfl))))))⟩
    ·
      have hr := ite_f g1 hr
      refine LW.exit (thn_e (thn_e (inBlk_self (thn_n ?_))))
      obtain rfl := Option.some.inj hr
      have hr := congrArg some (hb_x1 _ rfl)
      obtain rfl := Option.some.inj hr
      exact Weak.of 6 ⟨rfl, rfl, trivial⟩ rfl rfl rfl (lowObjs_cons rfl (lowObjs_cons rfl (lowObjs_cons rfl (lowObjs_cons (entsLow (fun _ => rfl) _) (lowObjs_cons (entsLow (fun _ => rfl) _) (lowObjs_cons rfl rfl))))))
  · have hr := ho_v1
    clear hb_v1
    refine thn_n (LW.weak hw_v1 (LW.seq (LW.seq (LW.region (LOps.st rfl rfl rfl (LOp.fieldAddr rfl rfl ft75_1) (LOps.st rfl rfl rfl (LOp.load rfl rfl rfl vt68 rfl rfl) (LOps.st rfl rfl rfl (LOp.lenM rfl rfl (by kernel_rfl)) (LOps.st rfl rfl rfl (LOp.move rfl rfl) (LOps.nil (thn_n ?_))))))))))
    obtain ⟨v2, hb_v2, ho_v2⟩ := bind_get hr
    clear hr
    refine LW.tail (E := [(5, .ptr 5 0)]) (O := [.box [.p (.slice 5 (w.B.map blkP)), .p (.slice 4 (w.V.map vtP))], .vec 5 (w.B.map blkP), .vec 4 (w.V.map vtP), .map (entsOf idP (fun v => .p (.int .i64 v)) v1.o3), .map (entsOf vtP (fun v => .p (.bool v)) v2.o4), .box [.vec 5 1 (w.B.map blkP).length 0 (w.B.map blkP).length, .vec 4 2 (w.V.map vtP).length 0 (w.V.map vtP).length, .map 3, .map 4, .p (.int .i64 upto), .p (.bool false)]]) ?_ (fun env_v2 H_v2 hw_v2 => ?_)
    · refine LW.block ?_
      refine LW.iterB (E := fun x2 : F130_L2 => [(5, .ptr 5 0), (41, .p (.slice 4 (w.V.map vtP))), (42, .p (.int .i64 (w.V.length : Int))), (43, .p (.int .i64 x2.t43))]) (O := fun x2 => [.box [.p (.slice 5 (w.B.map blkP)), .p (.slice 4 (w.V.map vtP))], .vec 5 (w.B.map blkP), .vec 4 (w.V.map vtP), .map (entsOf idP (fun v => .p (.int .i64 v)) v1.o3), .map (entsOf vtP (fun v => .p (.bool v)) x2.o4), .box [.vec 5 1 (w.B.map blkP).length 0 (w.B.map blkP).length, .vec 4 2 (w.V.map vtP).length 0 (w.V.map vtP).length, .map 3, .map 4, .p (.int .i64 upto), .p (.bool false)]]) hb_v2 (Weak.of 6 ⟨rfl, rfl, rfl, rfl, trivial⟩ rfl rfl rfl (lowObjs_cons rfl (lowObjs_cons rfl (lowObjs_cons rfl (lowObjs_cons (entsLow (fun _ => rfl) _) (lowObjs_cons (entsLow (fun _ => rfl) _) (lowObjs_cons rfl rfl))))))) (fun x2 z_x2 hr hb_x2 => ?_)
      unfold F130_s2 at hr
      refine LW.seq (LW.region (LOps.st rfl rfl rfl (LOp.bin rfl rfl rfl rfl) (LOps.nil (thn_n (LW.seq ?_)))))
      refine LW.cond rfl (fun (g2 : (decide (x2.t43 < (w.V.length : Int))) = true) => ?_) (fun (g2 : (decide (x2.t43 < (w.V.length : Int))) = false) => ?_)
      ·
        have hr := ite_t g2 hr
        refine LW.skip (thn_n (LW.seq (LW.block (LW.seq (LW.region ?_)))))
        obtain ⟨y2, h_y2, hr⟩ := bind_get hr
        refine LOps.st rfl rfl rfl (LOp.indexAddrX rfl rfl rfl st68 h_y2 rfl) (LOps.st rfl rfl rfl (LOp.loadC rfl rfl rfl vt82 rfl rfl) (LOps.st rfl rfl rfl (LOp.alloc rfl zt82 rfl rfl) (LOps.st rfl rfl rfl (LOp.store rfl rfl rfl rfl vt82 rfl rfl rfl rfl) (LOps.nil (thn_n (LW.drawLast (m := 5) (by kernel_rfl) (by kernel_rfl) (by kernel_rfl) (LO.st rfl rfl rfl (LOp.move rfl rfl) (LO.st rfl rfl rfl (LOp.nilCheck rfl rfl) (LO.st rfl rfl rfl (LOp.fieldAddr rfl rfl ft149_2) (LO.st rfl rfl rfl (LOp.load rfl rfl rfl vt147 rfl rfl) (LO.st rfl rfl rfl (LOp.load rfl rfl rfl vt82 rfl rfl) ?_)))))))))))
        refine LO.nil ?_
        refine LOps.st rfl rfl rfl (LOp.setX (f := vtP) (g := (fun v => .p (.bool v))) y2 true vtKey (.inl rfl) rfl rfl rfl rfl rfl mt147 rfl) ?_
        refine LOps.nil (inBlk_n (thn_n (LW.region (LOps.st rfl rfl rfl (LOp.bin rfl rfl rfl rfl) (LOps.st rfl rfl rfl (LOp.move rfl rfl) (LOps.nil (thn_n ?_)))))))
        obtain rfl := Option.some.inj hr
        exact ⟨_, rfl, Weak.of 6 ⟨rfl, rfl, rfl, rfl, trivial⟩ rfl rfl rfl (lowObjs_cons rfl (lowObjs_cons rfl (lowObjs_cons rfl (lowObjs_cons (entsLow (fun _ => rfl) _) (lowObjs_cons (entsLow (fun _ => rfl) _) (lowObjs_cons rfl rfl))))))⟩
      ·
        have hr := ite_f g2 hr
        refine LW.exit (thn_e (thn_e (inBlk_self (thn_n ?_))))
        obtain rfl := Option.some.inj hr
        have hr := congrArg some (hb_x2 _ rfl)
        obtain rfl := Option.some.inj hr
        exact Weak.of 6 ⟨rfl, trivial⟩ rfl rfl rfl (lowObjs_cons rfl (lowObjs_cons rfl (lowObjs_cons rfl (lowObjs_cons (entsLow (fun _ => rfl) _) (lowObjs_cons (entsLow (fun _ => rfl) _) (lowObjs_cons rfl rfl))))))
    · have hr := ho_v2
      clear hb_v2
      refine thn_n (LW.weak hw_v2 (LW.seq (LW.region (LOps.st rfl rfl rfl (LOp.move rfl rfl) (LOps.st rfl rfl rfl (LOp.assign rfl rfl) (LOps.nil (thn_n (LW.ret ?_))))))))
      obtain rfl := Option.some.inj hr
      refine fin_ret (.one (.tmp rfl)) ?_
      exact ⟨rfl, rfl⟩
theorem entsShI {α : Type} {f : α → PV} {d : Nat} (m : List (α × Int)) : ((entsOf f (fun v => .p (.int .i64 v)) m).map fun e => (e.1, LV.shift d e.2)) = entsOf f (fun v => .p (.int .i64 v)) m := entsSh (fun _ => rfl) m
theorem entsShB {α : Type} {f : α → PV} {d : Nat} (m : List (α × Bool)) : ((entsOf f (fun v => .p (.bool v)) m).map fun e => (e.1, LV.shift d e.2)) = entsOf f (fun v => .p (.bool v)) m := entsSh (fun _ => rfl) m
end Go.Mg
