/- The votes of a committee; the head by them. A node at a tick, as plain data. Nodes: what stands alone. Nets. Offers, one behind another. Products of numbers. What is confirmed. view.May. view.Take. Conditions: none. -/
import Derived.Test.YtabjakfgaodocaaGreatX6
import Derived.Test.YtabjakfgaodocaaGreatX7
import Derived.Test.YtabjakfgaodocaaGreatX3
import Derived.Test.YtabjakfgaodocaaGreatX4
namespace Go.Mg
open Go.Proofs
structure F1103_L1 where
  t8 : Int
def F1103_s1 (s : List Int) (v : Int) (x1 : F1103_L1) : Option (F1103_L1 ⊕ (F1103_L1 ⊕ Int)) :=
  bif decide (x1.t8 < (s.length : Int)) then
    (ix s x1.t8).bind fun y1 =>
    bif v == y1 then
      some (.inr (.inr x1.t8))
    else
      some (.inl (F1103_L1.mk (IntKind.i64.wrap (x1.t8 + 1))))
  else
    some (.inr (.inl (F1103_L1.mk x1.t8)))
def F1103 (s : List Int) (v : Int) : Option Int :=
  (iter (F1103_s1 s v) big (F1103_L1.mk 0)).bind fun b_v1 => Sum.elim (fun _ =>
    some (-1)) some b_v1
set_option maxRecDepth 100000 in
theorem c1103 {s : List Int} {v : Int} {r_ : Int} (hr : F1103 s v = some r_) : LPure Tryz.prog 199 [.slice 1 (s.map i64P), .int .i64 v] [.int .i64 r_] := by
  refine LPure.start Tryz.func199 rfl rfl rfl rfl ?_
  unfold F1103 at hr
  refine LW.seq (LW.region (LOps.st rfl rfl rfl (LOp.assign rfl rfl) (LOps.nil (thn_n (LW.seq (LW.seq (LW.region (LOps.st rfl rfl rfl (LOp.move rfl rfl) (LOps.st rfl rfl rfl (LOp.lenM rfl rfl (by kernel_rfl)) (LOps.st rfl rfl rfl (LOp.move rfl rfl) (LOps.nil ?_)))))))))))
  refine thn_n ?_
  obtain ⟨b_v1, hb_v1, ho_v1⟩ := bind_get hr
  clear hr
  refine LW.tailB (b := b_v1) (E := fun v1 => [(4, .p (.int .i64 0))]) (O := fun v1 => []) ?_ (fun v1 e_v1 env_v1 H_v1 hw_v1 => ?_)
  · refine LW.block ?_
    refine LW.iterB (E := fun x1 : F1103_L1 => [(0, .p (.slice 1 (s.map i64P))), (1, .p (.int .i64 v)), (4, .p (.int .i64 0)), (7, .p (.int .i64 (s.length : Int))), (8, .p (.int .i64 x1.t8))]) (O := fun x1 => []) hb_v1 (Weak.of 0 ⟨rfl, rfl, rfl, rfl, rfl, trivial⟩ rfl rfl rfl rfl) (fun x1 z_x1 hr hb_x1 => ?_)
    unfold F1103_s1 at hr
    refine LW.seq (LW.region (LOps.st rfl rfl rfl (LOp.bin rfl rfl rfl rfl) (LOps.nil (thn_n (LW.seq ?_)))))
    refine LW.cond rfl (fun (g1 : (decide (x1.t8 < (s.length : Int))) = true) => ?_) (fun (g1 : (decide (x1.t8 < (s.length : Int))) = false) => ?_)
    ·
      have hr := ite_t g1 hr
      refine LW.skip (thn_n (LW.seq (LW.block (LW.seq (LW.region (LOps.st rfl rfl rfl (LOp.move rfl rfl) (LOps.st rfl rfl rfl (LOp.assign rfl rfl) (LOps.nil (thn_n (LW.seq (LW.region ?_)))))))))))
      refine LOps.st rfl rfl rfl (LOp.move rfl rfl) (LOps.st rfl rfl rfl (LOp.move rfl rfl) (LOps.st rfl rfl rfl (LOp.move rfl rfl) ?_))
      obtain ⟨y1, h_y1, hr⟩ := bind_get hr
      refine LOps.st rfl rfl rfl (LOp.indexAddrX rfl rfl rfl st1153 h_y1 rfl) (LOps.st rfl rfl rfl (LOp.loadC rfl rfl rfl vt3 rfl rfl) (LOps.st rfl rfl rfl (LOp.bin rfl rfl rfl rfl) (LOps.nil (thn_n ?_))))
      refine LW.cond rfl (fun (g2 : (v == y1) = true) => ?_) (fun (g2 : (v == y1) = false) => ?_)
      ·
        have hr := ite_t g2 hr
        refine LW.seq (LW.region (LOps.st rfl rfl rfl (LOp.move rfl rfl) (LOps.st rfl rfl rfl (LOp.assign rfl rfl) (LOps.nil (thn_n (LW.ret (inBlk_r (thn_r (thn_r (inBlk_r (thn_r ?_)))))))))))
        refine thn_r ?_
        obtain rfl := Option.some.inj hr
        have hr := congrArg some (hb_x1 _ rfl)
        obtain rfl := Option.some.inj hr
        have hr := sum_r ho_v1
        obtain rfl := Option.some.inj hr
        refine finP_ret (.one (.tmp rfl)) ?_
        exact Conv.p
      ·
        have hr := ite_f g2 hr
        refine LW.skip (inBlk_n (thn_n (LW.region (LOps.st rfl rfl rfl (LOp.bin rfl rfl rfl rfl) (LOps.st rfl rfl rfl (LOp.move rfl rfl) (LOps.nil (thn_n ?_)))))))
        obtain rfl := Option.some.inj hr
        exact ⟨_, rfl, Weak.of 0 ⟨rfl, rfl, rfl, rfl, rfl, trivial⟩ rfl rfl rfl rfl⟩
    ·
      have hr := ite_f g1 hr
      refine LW.exit (thn_e (thn_e (inBlk_self (thn_n ?_))))
      obtain rfl := Option.some.inj hr
      have hr := congrArg some (hb_x1 _ rfl)
      obtain rfl := Option.some.inj hr
      exact ⟨_, rfl, Weak.of 0 ⟨rfl, trivial⟩ rfl rfl rfl rfl⟩
  · obtain rfl := e_v1
    have hr := sum_l ho_v1
    clear hb_v1
    refine thn_n (LW.weak hw_v1 (LW.seq (LW.region (LOps.st rfl rfl rfl (LOp.assign rfl rfl) (LOps.nil (thn_n (LW.ret ?_)))))))
    obtain rfl := Option.some.inj hr
    refine finP_ret (.one (.tmp rfl)) ?_
    exact Conv.p
def F1089 (s : List Int) (v : Int) : Option Bool :=
  (F1103 s v).bind fun v1 =>
  some (decide (v1 ≥ 0))
set_option maxRecDepth 100000 in
theorem c1089 {s : List Int} {v : Int} {r_ : Bool} (hr : F1089 s v = some r_) : LPure Tryz.prog 166 [.slice 1 (s.map i64P), .int .i64 v] [.bool r_] := by
  refine LPure.start Tryz.func166 rfl rfl rfl rfl ?_
  unfold F1089 at hr
  refine LW.seq (LW.region (LOps.st rfl rfl rfl (LOp.assign rfl rfl) (LOps.nil (thn_n (LW.seq (LW.region (LOps.st rfl rfl rfl (LOp.move rfl rfl) (LOps.st rfl rfl rfl (LOp.move rfl rfl) ?_))))))))
  obtain ⟨v1, h_v1, hr⟩ := bind_get hr
  refine LOps.st rfl rfl rfl (LOp.call rfl rfl rfl (by kernel_rfl) (LC.pure (c1103 h_v1) (.cons Conv.p (.cons Conv.p .nil)))) (LOps.st rfl rfl rfl (LOp.bin rfl rfl rfl rfl) (LOps.st rfl rfl rfl (LOp.assign rfl rfl) (LOps.nil (thn_n (LW.ret ?_)))))
  obtain rfl := Option.some.inj hr
  refine finP_ret (.one (.tmp rfl)) ?_
  exact Conv.p
def F1076 (b : List Int) (v : Vt) : Option Bool :=
  (F1089 b v.From).bind fun v1 =>
  some (!v1)
set_option maxRecDepth 100000 in
theorem c1076 {b : List Int} {v : Vt} {r_ : Bool} (hr : F1076 b v = some r_) : LPure Tryz.prog 136 [.slice 1 (b.map i64P), vtP v] [.bool r_] := by
  refine LPure.start Tryz.func136 rfl rfl rfl rfl ?_
  unfold F1076 at hr
  refine LW.seq (LW.region (LOps.st rfl rfl rfl (LOp.box rfl rfl rfl rfl rfl) (LOps.st rfl rfl rfl (LOp.assign rfl rfl) (LOps.nil (thn_n (LW.seq (LW.region (LOps.st rfl rfl rfl (LOp.move rfl rfl) (LOps.st rfl rfl rfl (LOp.fieldAddr rfl rfl ft82_0) (LOps.st rfl rfl rfl (LOp.load rfl rfl rfl vt3 rfl rfl) ?_))))))))))
  obtain ⟨v1, h_v1, hr⟩ := bind_get hr
  refine LOps.st rfl rfl rfl (LOp.call rfl rfl rfl (by kernel_rfl) (LC.pure (c1089 h_v1) (.cons Conv.p (.cons Conv.p .nil)))) (LOps.st rfl rfl rfl (LOp.not rfl rfl) (LOps.st rfl rfl rfl (LOp.assign rfl rfl) (LOps.nil (thn_n (LW.ret ?_)))))
  obtain rfl := Option.some.inj hr
  refine finP_ret (.one (.tmp rfl)) ?_
  exact Conv.p
structure F158G_L1 where
  t8 : Int
def F158G_s1 (lV : List Vt) (kk : Nat) (cm : List Int) (x1 : F158G_L1) : Option (F158G_L1 ⊕ (F158G_L1 ⊕ Int)) :=
  bif decide (x1.t8 < (kk : Int)) then
    (ix (lV.take kk) x1.t8).bind fun y1 =>
    (F1076 cm y1).bind fun v2 =>
    bif v2 then
      some (.inr (.inr x1.t8))
    else
      some (.inl (F158G_L1.mk (IntKind.i64.wrap (x1.t8 + 1))))
  else
    some (.inr (.inl (F158G_L1.mk x1.t8)))
def F158G (lV : List Vt) (kk : Nat) (cm : List Int) : Option Int :=
  (iter (F158G_s1 lV kk cm) big (F158G_L1.mk 0)).bind fun b_v1 => Sum.elim (fun _ =>
    some (-1)) some b_v1
set_option maxRecDepth 100000 in
theorem cF158G {c : Cf} {lV : List Vt} {kk : Nat} {cm : List Int} {r_ : Int} (hr : F158G lV kk cm = some r_) : LC Tryz.prog 92 [.vec 4 1 (lV.map vtP).length 0 kk, .fn 136 [.p (.slice 1 (cm.map i64P))] []] [.box [.p (.slice 1 (c.W.map i64P)), .p (.int .u64 c.Seed), .p (.int .i64 c.Epoch), .p (.int .i64 c.Num), .p (.int .i64 c.Den)], .vec 4 (lV.map vtP)] (Is (.p (.int .i64 r_)) [.box [.p (.slice 1 (c.W.map i64P)), .p (.int .u64 c.Seed), .p (.int .i64 c.Epoch), .p (.int .i64 c.Num), .p (.int .i64 c.Den)], .vec 4 (lV.map vtP)]) := by
  refine LC.start Tryz.func92 rfl rfl rfl ?_
  unfold F158G at hr
  refine LW.seq (LW.region (LOps.st rfl rfl rfl (LOp.assign rfl rfl) (LOps.nil (thn_n (LW.seq (LW.seq (LW.region (LOps.st rfl rfl rfl (LOp.move rfl rfl) (LOps.st rfl rfl rfl (LOp.lenVP rfl rfl rfl (by kernel_rfl)) (LOps.st rfl rfl rfl (LOp.move rfl rfl) (LOps.nil ?_)))))))))))
  refine thn_n ?_
  obtain ⟨b_v1, hb_v1, ho_v1⟩ := bind_get hr
  clear hr
  refine LW.tailB (b := b_v1) (E := fun v1 => [(4, .p (.int .i64 0))]) (O := fun v1 => [.box [.p (.slice 1 (c.W.map i64P)), .p (.int .u64 c.Seed), .p (.int .i64 c.Epoch), .p (.int .i64 c.Num), .p (.int .i64 c.Den)], .vec 4 (lV.map vtP)]) ?_ (fun v1 e_v1 env_v1 H_v1 hw_v1 => ?_)
  · refine LW.block ?_
    refine LW.iterB (E := fun x1 : F158G_L1 => [(0, .vec 4 1 (lV.map vtP).length 0 kk), (1, .fn 136 [.p (.slice 1 (cm.map i64P))] []), (4, .p (.int .i64 0)), (7, .p (.int .i64 (kk : Int))), (8, .p (.int .i64 x1.t8))]) (O := fun x1 => [.box [.p (.slice 1 (c.W.map i64P)), .p (.int .u64 c.Seed), .p (.int .i64 c.Epoch), .p (.int .i64 c.Num), .p (.int .i64 c.Den)], .vec 4 (lV.map vtP)]) hb_v1 (Weak.of 2 ⟨rfl, rfl, rfl, rfl, rfl, trivial⟩ rfl rfl rfl rfl) (fun x1 z_x1 hr hb_x1 => ?_)
    unfold F158G_s1 at hr
    refine LW.seq (LW.region (LOps.st rfl rfl rfl (LOp.bin rfl rfl rfl rfl) (LOps.nil (thn_n (LW.seq ?_)))))
    refine LW.cond rfl (fun (g1 : (decide (x1.t8 < (kk : Int))) = true) => ?_) (fun (g1 : (decide (x1.t8 < (kk : Int))) = false) => ?_)
    ·
      have hr := ite_t g1 hr
      refine LW.skip (thn_n (LW.seq (LW.block (LW.seq (LW.region (LOps.st rfl rfl rfl (LOp.move rfl rfl) (LOps.st rfl rfl rfl (LOp.assign rfl rfl) (LOps.nil (thn_n (LW.seq (LW.region ?_)))))))))))
      refine LOps.st rfl rfl rfl (LOp.move rfl rfl) (LOps.st rfl rfl rfl (LOp.move rfl rfl) (LOps.st rfl rfl rfl (LOp.move rfl rfl) ?_))
      obtain ⟨y1, h_y1, hr⟩ := bind_get hr
      refine LOps.st rfl rfl rfl (LOp.indexAddrVP rfl rfl rfl rfl st68 h_y1) (LOps.st rfl rfl rfl (LOp.loadVX rfl rfl rfl vt82 (ix_take h_y1).1 rfl rfl rfl rfl) ?_)
      obtain ⟨v2, h_v2, hr⟩ := bind_get hr
      refine LOps.st rfl rfl rfl (LOp.call rfl rfl rfl (by kernel_rfl) (LC.pure (c1076 h_v2) (.cons Conv.p (.cons Conv.p .nil)))) (LOps.nil (thn_n ?_))
      refine LW.cond rfl (fun (g2 : v2 = true) => ?_) (fun (g2 : v2 = false) => ?_)
      ·
        have hr := ite_t g2 hr
        refine LW.seq (LW.region (LOps.st rfl rfl rfl (LOp.move rfl rfl) (LOps.st rfl rfl rfl (LOp.assign rfl rfl) (LOps.nil (thn_n (LW.ret (inBlk_r (thn_r (thn_r (inBlk_r (thn_r ?_)))))))))))
        refine thn_r ?_
        obtain rfl := Option.some.inj hr
        have hr := congrArg some (hb_x1 _ rfl)
        obtain rfl := Option.some.inj hr
        have hr := sum_r ho_v1
        obtain rfl := Option.some.inj hr
        refine fin_ret (.one (.tmp rfl)) ?_
        exact ⟨rfl, rfl⟩
      ·
        have hr := ite_f g2 hr
        refine LW.skip (inBlk_n (thn_n (LW.region (LOps.st rfl rfl rfl (LOp.bin rfl rfl rfl rfl) (LOps.st rfl rfl rfl (LOp.move rfl rfl) (LOps.nil (thn_n ?_)))))))
        obtain rfl := Option.some.inj hr
        exact ⟨_, rfl, Weak.of 2 ⟨rfl, rfl, rfl, rfl, rfl, trivial⟩ rfl rfl rfl rfl⟩
    ·
      have hr := ite_f g1 hr
      refine LW.exit (thn_e (thn_e (inBlk_self (thn_n ?_))))
      obtain rfl := Option.some.inj hr
      have hr := congrArg some (hb_x1 _ rfl)
      obtain rfl := Option.some.inj hr
      exact ⟨_, rfl, Weak.of 2 ⟨rfl, trivial⟩ rfl rfl rfl rfl⟩
  · obtain rfl := e_v1
    have hr := sum_l ho_v1
    clear hb_v1
    refine thn_n (LW.weak hw_v1 (LW.seq (LW.region (LOps.st rfl rfl rfl (LOp.assign rfl rfl) (LOps.nil (thn_n (LW.ret ?_)))))))
    obtain rfl := Option.some.inj hr
    refine fin_ret (.one (.tmp rfl)) ?_
    exact ⟨rfl, rfl⟩
structure F138G_L1 where
  i : Int
  j : Int
  o1 : List Vt
def F138G_s1 (kk : Nat) (cm : List Int) (x1 : F138G_L1) : Option (F138G_L1 ⊕ F138G_L1) :=
  bif decide (x1.j < (kk : Int)) then
    (ix (x1.o1.take kk) x1.j).bind fun y1 =>
    (F1076 cm y1).bind fun v3 =>
    bif !v3 then
      (ix (x1.o1.take kk) x1.i).bind fun _ =>
      some (.inl (F138G_L1.mk (IntKind.i64.wrap (x1.i + 1)) (IntKind.i64.wrap (x1.j + 1)) (x1.o1.set x1.i.toNat y1)))
    else
      some (.inl (F138G_L1.mk x1.i (IntKind.i64.wrap (x1.j + 1)) x1.o1))
  else
    some (.inr (F138G_L1.mk x1.i x1.j x1.o1))
def F138G (lV : List Vt) (kk : Nat) (cm : List Int) : Option (Nat × List Vt) :=
  (F158G lV kk cm).bind fun v1 =>
  bif v1 == (-1) then
    some (kk, lV)
  else
    (iter (F138G_s1 kk cm) big (F138G_L1.mk v1 (IntKind.i64.wrap (v1 + 1)) lV)).bind fun v2 =>
    bif decide (0 ≤ v2.i ∧ v2.i ≤ (kk : Int)) then
      bif decide (v2.i.toNat + (kk - v2.i.toNat) ≤ v2.o1.length) then
        bif decide (0 ≤ v2.i ∧ v2.i ≤ (kk : Int)) then
          some (v2.i.toNat, clrL v2.o1 v2.i.toNat (kk - v2.i.toNat) (Vt.mk 0 0 (0, 0)))
        else none
      else none
    else none
set_option maxRecDepth 100000 in
theorem cF138G {c : Cf} {lV : List Vt} {kk : Nat} {cm : List Int} {r_ : Nat × List Vt} (hr : F138G lV kk cm = some r_) : LC Tryz.prog 137 [.vec 4 1 (lV.map vtP).length 0 kk, .fn 136 [.p (.slice 1 (cm.map i64P))] []] [.box [.p (.slice 1 (c.W.map i64P)), .p (.int .u64 c.Seed), .p (.int .i64 c.Epoch), .p (.int .i64 c.Num), .p (.int .i64 c.Den)], .vec 4 (lV.map vtP)] (Is (.vec 4 1 (r_.2.map vtP).length 0 r_.1) [.box [.p (.slice 1 (c.W.map i64P)), .p (.int .u64 c.Seed), .p (.int .i64 c.Epoch), .p (.int .i64 c.Num), .p (.int .i64 c.Den)], .vec 4 (r_.2.map vtP)]) := by
  refine LC.start Tryz.func137 rfl rfl rfl ?_
  unfold F138G at hr
  refine LW.seq (LW.region (LOps.st rfl rfl rfl (LOp.assign rfl rfl) (LOps.nil (thn_n (LW.seq (LW.region (LOps.st rfl rfl rfl (LOp.move rfl rfl) (LOps.st rfl rfl rfl (LOp.move rfl rfl) ?_))))))))
  obtain ⟨v1, h_v1, hr⟩ := bind_get hr
  refine LOps.st rfl rfl rfl (LOp.call rfl rfl rfl (by kernel_rfl) (cF158G h_v1)) (LOps.st rfl rfl rfl (LOp.assign rfl rfl) (LOps.nil (thn_n (LW.seq (LW.seq (LW.region (LOps.st rfl rfl rfl (LOp.move rfl rfl) (LOps.st rfl rfl rfl (LOp.bin rfl rfl rfl rfl) (LOps.nil (thn_n ?_))))))))))
  refine LW.cond rfl (fun (g1 : (v1 == (-1)) = true) => ?_) (fun (g1 : (v1 == (-1)) = false) => ?_)
  ·
    have hr := ite_t g1 hr
    refine LW.seq (LW.region (LOps.st rfl rfl rfl (LOp.move rfl rfl) (LOps.st rfl rfl rfl (LOp.assign rfl rfl) (LOps.nil (thn_n (LW.ret (thn_r ?_)))))))
    obtain rfl := Option.some.inj hr
    refine fin_ret (.one (.tmp rfl)) ?_
    exact ⟨rfl, rfl⟩
  ·
    have hr := ite_f g1 hr
    refine LW.skip (thn_n (LW.seq (LW.seq (LW.region (LOps.st rfl rfl rfl (LOp.move rfl rfl) (LOps.st rfl rfl rfl (LOp.bin rfl rfl rfl rfl) (LOps.st rfl rfl rfl (LOp.assign rfl rfl) (LOps.nil (thn_n ?_)))))))))
    obtain ⟨v2, hb_v2, ho_v2⟩ := bind_get hr
    clear hr
    refine LW.tail (E := [(0, .vec 4 1 (v2.o1.map vtP).length 0 kk), (4, .zs), (5, .p (.int .i64 v2.i))]) (O := [.box [.p (.slice 1 (c.W.map i64P)), .p (.int .u64 c.Seed), .p (.int .i64 c.Epoch), .p (.int .i64 c.Num), .p (.int .i64 c.Den)], .vec 4 (v2.o1.map vtP)]) ?_ (fun env_v2 H_v2 hw_v2 => ?_)
    · refine LW.block ?_
      refine LW.iterB (E := fun x1 : F138G_L1 => [(0, .vec 4 1 (x1.o1.map vtP).length 0 kk), (1, .fn 136 [.p (.slice 1 (cm.map i64P))] []), (4, .zs), (5, .p (.int .i64 x1.i)), (6, .p (.int .i64 x1.j))]) (O := fun x1 => [.box [.p (.slice 1 (c.W.map i64P)), .p (.int .u64 c.Seed), .p (.int .i64 c.Epoch), .p (.int .i64 c.Num), .p (.int .i64 c.Den)], .vec 4 (x1.o1.map vtP)]) hb_v2 (Weak.of 2 ⟨rfl, rfl, rfl, rfl, rfl, trivial⟩ rfl rfl rfl rfl) (fun x1 z_x1 hr hb_x1 => ?_)
      unfold F138G_s1 at hr
      refine LW.seq (LW.seq (LW.region (LOps.st rfl rfl rfl (LOp.move rfl rfl) (LOps.st rfl rfl rfl (LOp.move rfl rfl) (LOps.st rfl rfl rfl (LOp.lenVP rfl rfl rfl (by kernel_rfl)) (LOps.st rfl rfl rfl (LOp.bin rfl rfl rfl rfl) (LOps.nil (thn_n ?_))))))))
      refine LW.cond rfl (fun (g2 : (decide (x1.j < (kk : Int))) = true) => ?_) (fun (g2 : (decide (x1.j < (kk : Int))) = false) => ?_)
      ·
        have hr := ite_t g2 hr
        refine LW.skip (thn_n (LW.seq (LW.block (LW.seq (LW.region (LOps.st rfl rfl rfl (LOp.move rfl rfl) (LOps.st rfl rfl rfl (LOp.move rfl rfl) ?_)))))))
        obtain ⟨y1, h_y1, hr⟩ := bind_get hr
        refine LOps.st rfl rfl rfl (LOp.indexAddrVP rfl rfl rfl rfl st68 h_y1) (LOps.st rfl rfl rfl (LOp.loadVX rfl rfl rfl vt82 (ix_take h_y1).1 rfl rfl rfl rfl) (LOps.st rfl rfl rfl (LOp.alloc rfl zt82 rfl rfl) (LOps.st rfl rfl rfl (LOp.store rfl rfl rfl rfl vt82 rfl rfl rfl rfl) (LOps.nil (thn_n (LW.seq (LW.region (LOps.st rfl rfl rfl (LOp.move rfl rfl) (LOps.st rfl rfl rfl (LOp.load rfl rfl rfl vt82 rfl rfl) ?_)))))))))
        obtain ⟨v3, h_v3, hr⟩ := bind_get hr
        refine LOps.st rfl rfl rfl (LOp.call rfl rfl rfl (by kernel_rfl) (LC.pure (c1076 h_v3) (.cons Conv.p (.cons Conv.p .nil)))) (LOps.st rfl rfl rfl (LOp.not rfl rfl) (LOps.nil (thn_n ?_)))
        refine LW.cond rfl (fun (g3 : (!v3) = true) => ?_) (fun (g3 : (!v3) = false) => ?_)
        ·
          have hr := ite_t g3 hr
          refine LW.seq (LW.region (LOps.st rfl rfl rfl (LOp.move rfl rfl) (LOps.st rfl rfl rfl (LOp.move rfl rfl) (LOps.st rfl rfl rfl (LOp.load rfl rfl rfl vt82 rfl rfl) ?_))))
          obtain ⟨y2, h_y2, hr⟩ := bind_get hr
          refine LOps.st rfl rfl rfl (LOp.indexAddrVP rfl rfl rfl rfl st68 h_y2) ?_
          refine LOps.st rfl rfl rfl (LOp.storeVP (f := vtP) (l := x1.o1) y1 rfl rfl rfl rfl vt82 (fun _ => rfl) (ix_take h_y2).1 rfl rfl rfl rfl rfl rfl rfl) ?_
          refine LOps.nil (thn_n (LW.region (LOps.st rfl rfl rfl (LOp.move rfl rfl) (LOps.st rfl rfl rfl (LOp.bin rfl rfl rfl rfl) (LOps.st rfl rfl rfl (LOp.assign rfl rfl) (LOps.nil (inBlk_n (thn_n (LW.region (LOps.st rfl rfl rfl (LOp.move rfl rfl) (LOps.st rfl rfl rfl (LOp.bin rfl rfl rfl rfl) ?_)))))))))))
          refine LOps.st rfl rfl rfl (LOp.assign rfl rfl) (LOps.nil (thn_n ?_))
          obtain rfl := Option.some.inj hr
          exact ⟨_, rfl, Weak.of 2 ⟨(pset (rfl)), rfl, rfl, rfl, rfl, trivial⟩ rfl rfl rfl rfl⟩
        ·
          have hr := ite_f g3 hr
          refine LW.skip (inBlk_n (thn_n (LW.region (LOps.st rfl rfl rfl (LOp.move rfl rfl) (LOps.st rfl rfl rfl (LOp.bin rfl rfl rfl rfl) (LOps.st rfl rfl rfl (LOp.assign rfl rfl) (LOps.nil (thn_n ?_))))))))
          obtain rfl := Option.some.inj hr
          exact ⟨_, rfl, Weak.of 2 ⟨rfl, rfl, rfl, rfl, rfl, trivial⟩ rfl rfl rfl rfl⟩
      ·
        have hr := ite_f g2 hr
        refine LW.exit (thn_e (thn_e (inBlk_self (thn_n ?_))))
        obtain rfl := Option.some.inj hr
        have hr := congrArg some (hb_x1 _ rfl)
        obtain rfl := Option.some.inj hr
        exact Weak.of 2 ⟨rfl, rfl, rfl, trivial⟩ rfl rfl rfl rfl
    · have hr := ho_v2
      clear hb_v2
      refine thn_n (LW.weak hw_v2 (LW.seq (LW.region (LOps.st rfl rfl rfl (LOp.move rfl rfl) (LOps.st rfl rfl rfl (LOp.move rfl rfl) ?_)))))
      obtain ⟨q1, hr⟩ := grd_get hr
      refine LOps.st rfl rfl rfl (LOp.sliceVLo rfl rfl rfl rfl st68 q1) ?_
      obtain ⟨q2, hr⟩ := grd_get hr
      refine LOps.st rfl rfl rfl (LOp.clearVP (f := vtP) (zs := [.int .i64 0, .int .i64 0, .int .u64 0, .int .u64 0]) (Vt.mk 0 0 (0, 0)) rfl rfl rfl st68 (fun _ => rfl) (by kernel_rfl) rfl q2 rfl) ?_
      refine LOps.nil (thn_n (LW.seq (LW.ent (Ent.vlen (t := 0) (n' := ((clrL v2.o1 v2.i.toNat (kk - v2.i.toNat) (Vt.mk 0 0 (0, 0))).map vtP).length) rfl (clr_len q2)) (LW.region (LOps.st rfl rfl rfl (LOp.move rfl rfl) (LOps.st rfl rfl rfl (LOp.move rfl rfl) ?_))))))
      obtain ⟨q3, hr⟩ := grd_get hr
      refine LOps.st rfl rfl rfl (LOp.sliceVHi rfl rfl rfl rfl st68 q3) (LOps.st rfl rfl rfl (LOp.assign rfl rfl) (LOps.nil (thn_n (LW.ret ?_))))
      obtain rfl := Option.some.inj hr
      refine fin_ret (.one (.tmp rfl)) ?_
      exact ⟨rfl, rfl⟩
def F1064 (c : Cf) (v : List Vt) (slot : Int) : Option (List Vt) :=
  (FOfV v slot).bind fun v1 =>
  (F65 c slot).bind fun v2 =>
  (F138G v1 ((v1.map vtP).length) v2).bind fun v3 =>
  bif Nat.ble v3.1 v3.2.length then
    some (v3.2.take v3.1)
  else none
set_option maxRecDepth 100000 in
theorem c1064 {c : Cf} {v : List Vt} {slot : Int} {r_ : (List Vt)} (hr : F1064 c v slot = some r_) : LPure Tryz.prog 109 [cfP c, .slice 4 (v.map vtP), .int .i64 slot] [.slice 4 (r_.map vtP)] := by
  refine LPure.start Tryz.func109 rfl rfl rfl rfl ?_
  unfold F1064 at hr
  refine LW.seq (LW.region (LOps.st rfl rfl rfl (LOp.box rfl rfl rfl rfl rfl) (LOps.st rfl rfl rfl (LOp.assign rfl rfl) (LOps.nil (thn_n (LW.seq (LW.region (LOps.st rfl rfl rfl (LOp.move rfl rfl) (LOps.st rfl rfl rfl (LOp.move rfl rfl) ?_)))))))))
  obtain ⟨v1, h_v1, hr⟩ := bind_get hr
  refine LOps.st rfl rfl rfl (LOp.callV (qs := [.p (.slice 4 (v.map vtP)), .p (.int .i64 slot)]) rfl rfl rfl (by kernel_rfl) (cFOfV h_v1) (.consC Conv.p (.consC Conv.p .nil)) rfl rfl) (LOps.st rfl rfl rfl (LOp.assign rfl rfl) (LOps.nil (thn_n (LW.seq (LW.region (LOps.st rfl rfl rfl (LOp.load rfl rfl rfl vt55 rfl rfl) (LOps.st rfl rfl rfl (LOp.move rfl rfl) ?_)))))))
  obtain ⟨v2, h_v2, hr⟩ := bind_get hr
  refine LOps.st rfl rfl rfl (LOp.call rfl rfl rfl (by kernel_rfl) (LC.pure (c65 h_v2) (.cons Conv.p (.cons Conv.p .nil)))) (LOps.st rfl rfl rfl (LOp.makeFunc rfl rfl rfl) (LOps.st rfl rfl rfl (LOp.assign rfl rfl) (LOps.nil (thn_n (LW.seq (LW.region (LOps.st rfl rfl rfl (LOp.move rfl rfl) (LOps.st rfl rfl rfl (LOp.move rfl rfl) (LOps.st rfl rfl rfl (LOp.lenVM rfl rfl rfl (by kernel_rfl)) (LOps.st rfl rfl rfl (LOp.move rfl rfl) (LOps.st rfl rfl rfl (LOp.lenVM rfl rfl rfl (by kernel_rfl)) ?_)))))))))))
  refine LOps.st rfl rfl rfl (LOp.sliceV3 rfl rfl rfl rfl rfl st68) (LOps.st rfl rfl rfl (LOp.move rfl rfl) ?_)
  obtain ⟨v3, h_v3, hr⟩ := bind_get hr
  obtain ⟨q1, hr⟩ := grd_get hr
  refine LOps.st rfl rfl rfl (LOp.call rfl rfl rfl (by kernel_rfl) (cF138G h_v3)) (LOps.st rfl rfl rfl (LOp.assign rfl rfl) (LOps.nil (thn_n (LW.seq (LW.region (LOps.st rfl rfl rfl (LOp.move rfl rfl) (LOps.st rfl rfl rfl (LOp.assign rfl rfl) (LOps.nil (thn_n (LW.ret ?_))))))))))
  obtain rfl := Option.some.inj hr
  refine finP_ret (.one (.tmp rfl)) ?_
  exact (Conv.vecTake rfl q1)
def F1048 (c : Cf) (w : Vw) (slot : Int) : Option ID :=
  (F1064 c w.V slot).bind fun v1 =>
  (F81 c w.B v1).bind fun v2 =>
  some v2
set_option maxRecDepth 100000 in
theorem c1048 {c : Cf} {w : Vw} {slot : Int} {r_ : ID} (hr : F1048 c w slot = some r_) : LPure Tryz.prog 67 [cfP c, vwP w, .int .i64 slot] [idP r_] := by
  refine LPure.start Tryz.func67 rfl rfl rfl rfl ?_
  unfold F1048 at hr
  refine LW.seq (LW.region (LOps.st rfl rfl rfl (LOp.box rfl rfl rfl rfl rfl) (LOps.st rfl rfl rfl (LOp.box rfl rfl rfl rfl rfl) (LOps.st rfl rfl rfl (LOp.alloc rfl zt24 rfl rfl) (LOps.nil (thn_n (LW.seq (LW.drawLast (m := 9) (by kernel_rfl) (by kernel_rfl) (by kernel_rfl) (LO.st rfl rfl rfl (LOp.load rfl rfl rfl vt55 rfl rfl) (LO.st rfl rfl rfl (LOp.fieldAddr rfl rfl ft75_0) (LO.st rfl rfl rfl (LOp.load rfl rfl rfl vt27 rfl rfl) ?_)))))))))))
  refine LO.st rfl rfl rfl (LOp.load rfl rfl rfl vt55 rfl rfl) (LO.st rfl rfl rfl (LOp.fieldAddr rfl rfl ft75_1) (LO.st rfl rfl rfl (LOp.load rfl rfl rfl vt68 rfl rfl) (LO.st rfl rfl rfl (LOp.move rfl rfl) ?_)))
  obtain ⟨v1, h_v1, hr⟩ := bind_get hr
  refine LO.st rfl rfl rfl (LOp.call rfl rfl rfl (by kernel_rfl) (LC.pure (c1064 h_v1) (.cons Conv.p (.cons Conv.p (.cons Conv.p .nil))))) ?_
  obtain ⟨v2, h_v2, hr⟩ := bind_get hr
  refine LO.st rfl rfl rfl (LOp.call rfl rfl rfl (by kernel_rfl) (LC.pure (c81 h_v2) (.cons Conv.p (.cons Conv.p (.cons Conv.p .nil))))) (LO.nil (LOps.st rfl rfl rfl (LOp.store rfl rfl rfl rfl vt24 rfl rfl rfl rfl) (LOps.nil (thn_n (LW.ret ?_)))))
  obtain rfl := Option.some.inj hr
  refine finP_ret (.one (.cellAgg rfl rfl (by kernel_rfl) rfl)) ?_
  exact Conv.p
structure Wk where
  Node : Nd
  c : Cf
  slot : Int
  told : List Of
open Go.Proofs
def F1051 (n : Nd) : Option Vw :=
  (F91 n.V n.In).bind fun v1 =>
  some v1
set_option maxRecDepth 100000 in
theorem c1051 {n : Nd} {r_ : Vw} (hr : F1051 n = some r_) : LPure Tryz.prog 26 [ndP n] [vwP r_] := by
  refine LPure.start Tryz.func26 rfl rfl rfl rfl ?_
  unfold F1051 at hr
  refine LW.seq (LW.region (LOps.st rfl rfl rfl (LOp.box rfl rfl rfl rfl rfl) (LOps.st rfl rfl rfl (LOp.alloc rfl zt75 rfl rfl) (LOps.nil (thn_n (LW.seq (LW.region (LOps.st rfl rfl rfl (LOp.fieldAddr rfl rfl ft1071_2) (LOps.st rfl rfl rfl (LOp.load rfl rfl rfl vt75 rfl rfl) (LOps.st rfl rfl rfl (LOp.fieldAddr rfl rfl ft1071_3) (LOps.st rfl rfl rfl (LOp.load rfl rfl rfl vt75 rfl rfl) ?_)))))))))))
  obtain ⟨v1, h_v1, hr⟩ := bind_get hr
  refine LOps.st rfl rfl rfl (LOp.call rfl rfl rfl (by kernel_rfl) (LC.pure (c91 h_v1) (.cons Conv.p (.cons Conv.p .nil)))) (LOps.st rfl rfl rfl (LOp.store rfl rfl rfl rfl vt75 rfl rfl rfl rfl) (LOps.nil (thn_n (LW.ret ?_))))
  obtain rfl := Option.some.inj hr
  refine finP_ret (.one (.cellAgg rfl rfl (by kernel_rfl) rfl)) ?_
  exact Conv.p
def F3043 (no : Int) : Option Nd :=
  some (Nd.mk no 3 (Vw.mk [] []) (Vw.mk [] []) [] (Cu.mk (0, 0) 0 0) false)
set_option maxRecDepth 100000 in
theorem c3043 {no : Int} {r_ : Nd} (hr : F3043 no = some r_) : LPure Tryz.prog 43 [.int .i64 no] [ndP r_] := by
  refine LPure.start Tryz.func43 rfl rfl rfl rfl ?_
  unfold F3043 at hr
  refine LW.seq (LW.region (LOps.st rfl rfl rfl (LOp.alloc rfl zt1071 rfl rfl) (LOps.nil (thn_n (LW.seq (LW.region (LOps.st rfl rfl rfl (LOp.move rfl rfl) (LOps.st rfl rfl rfl (LOp.build rfl bt1071 rfl rfl rfl) (LOps.st rfl rfl rfl (LOp.store rfl rfl rfl rfl vt1071 rfl rfl rfl rfl) (LOps.nil (thn_n ?_)))))))))))
  refine LW.ret ?_
  obtain rfl := Option.some.inj hr
  refine finP_ret (.one (.cellAgg rfl rfl (by kernel_rfl) rfl)) ?_
  exact (Conv.agg (.cons Conv.p (.cons Conv.p (.cons Conv.zs (.cons Conv.zs (.cons Conv.zs (.cons Conv.zs (.cons Conv.zs (.cons Conv.p (.cons Conv.p (.cons Conv.p (.cons Conv.p (.cons Conv.p .nil)))))))))))))
def F1030 (c : Cf) (n : Nd) : Option ID :=
  bif ((IntKind.i64.wrap (n.Tick - 1)).tmod 3) != 2 then
    (F1048 c n.V (IntKind.i64.wrap ((IntKind.i64.wrap ((IntKind.i64.wrap (n.Tick - 1)).tdiv 3)) - 1))).bind fun v1 =>
    some v1
  else
    (F1048 c n.V (IntKind.i64.wrap ((IntKind.i64.wrap (n.Tick - 1)).tdiv 3))).bind fun v2 =>
    some v2
set_option maxRecDepth 100000 in
theorem c1030 {c : Cf} {n : Nd} {r_ : ID} (hr : F1030 c n = some r_) : LPure Tryz.prog 25 [cfP c, ndP n] [idP r_] := by
  refine LPure.start Tryz.func25 rfl rfl rfl rfl ?_
  unfold F1030 at hr
  refine LW.seq (LW.region (LOps.st rfl rfl rfl (LOp.box rfl rfl rfl rfl rfl) (LOps.st rfl rfl rfl (LOp.box rfl rfl rfl rfl rfl) (LOps.st rfl rfl rfl (LOp.alloc rfl zt24 rfl rfl) (LOps.nil (thn_n (LW.seq (LW.region (LOps.st rfl rfl rfl (LOp.fieldAddr rfl rfl ft1071_1) (LOps.st rfl rfl rfl (LOp.load rfl rfl rfl vt3 rfl rfl) (LOps.st rfl rfl rfl (LOp.bin rfl rfl rfl rfl) ?_)))))))))))
  refine LOps.st rfl rfl rfl (LOp.assign rfl rfl) (LOps.nil (thn_n (LW.seq (LW.region (LOps.st rfl rfl rfl (LOp.move rfl rfl) (LOps.st rfl rfl rfl (LOp.quo rfl rfl rfl (by decide)) (LOps.st rfl rfl rfl (LOp.assign rfl rfl) (LOps.nil (thn_n (LW.seq (LW.seq ?_)))))))))))
  refine LW.region (LOps.st rfl rfl rfl (LOp.move rfl rfl) (LOps.st rfl rfl rfl (LOp.rem rfl rfl rfl (by decide)) (LOps.st rfl rfl rfl (LOp.bin rfl rfl rfl rfl) (LOps.nil (thn_n ?_)))))
  refine LW.cond rfl (fun (g1 : (((IntKind.i64.wrap (n.Tick - 1)).tmod 3) != 2) = true) => ?_) (fun (g1 : (((IntKind.i64.wrap (n.Tick - 1)).tmod 3) != 2) = false) => ?_)
  ·
    have hr := ite_t g1 hr
    refine LW.region (LOps.st rfl rfl rfl (LOp.move rfl rfl) (LOps.st rfl rfl rfl (LOp.bin rfl rfl rfl rfl) (LOps.st rfl rfl rfl (LOp.assign rfl rfl) (LOps.nil (thn_n (LW.seq (LW.region (LOps.st rfl rfl rfl (LOp.load rfl rfl rfl vt55 rfl rfl) (LOps.st rfl rfl rfl (LOp.fieldAddr rfl rfl ft1071_2) (LOps.st rfl rfl rfl (LOp.load rfl rfl rfl vt75 rfl rfl) (LOps.st rfl rfl rfl (LOp.move rfl rfl) ?_)))))))))))
    obtain ⟨v1, h_v1, hr⟩ := bind_get hr
    refine LOps.st rfl rfl rfl (LOp.call rfl rfl rfl (by kernel_rfl) (LC.pure (c1048 h_v1) (.cons Conv.p (.cons Conv.p (.cons Conv.p .nil))))) (LOps.st rfl rfl rfl (LOp.store rfl rfl rfl rfl vt24 rfl rfl rfl rfl) (LOps.nil (thn_n (LW.ret ?_))))
    obtain rfl := Option.some.inj hr
    refine finP_ret (.one (.cellAgg rfl rfl (by kernel_rfl) rfl)) ?_
    exact Conv.p
  ·
    have hr := ite_f g1 hr
    refine LW.skip (thn_n (LW.seq (LW.region (LOps.st rfl rfl rfl (LOp.load rfl rfl rfl vt55 rfl rfl) (LOps.st rfl rfl rfl (LOp.fieldAddr rfl rfl ft1071_2) (LOps.st rfl rfl rfl (LOp.load rfl rfl rfl vt75 rfl rfl) (LOps.st rfl rfl rfl (LOp.move rfl rfl) ?_)))))))
    obtain ⟨v2, h_v2, hr⟩ := bind_get hr
    refine LOps.st rfl rfl rfl (LOp.call rfl rfl rfl (by kernel_rfl) (LC.pure (c1048 h_v2) (.cons Conv.p (.cons Conv.p (.cons Conv.p .nil))))) (LOps.st rfl rfl rfl (LOp.store rfl rfl rfl rfl vt24 rfl rfl rfl rfl) (LOps.nil (thn_n (LW.ret ?_))))
    obtain rfl := Option.some.inj hr
    refine finP_ret (.one (.cellAgg rfl rfl (by kernel_rfl) rfl)) ?_
    exact Conv.p
def F3051 (v : Vw) : Option Vw :=
  bif room 0 v.B.length 40 then
    bif room 0 v.V.length 32 then
      some v
    else none
  else none
set_option maxRecDepth 100000 in
theorem c3051 {v : Vw} {r_ : Vw} (hr : F3051 v = some r_) : LPure Tryz.prog 51 [vwP v] [vwP r_] := by
  refine LPure.start Tryz.func51 rfl rfl rfl rfl ?_
  unfold F3051 at hr
  refine LW.seq (LW.region (LOps.st rfl rfl rfl (LOp.box rfl rfl rfl rfl rfl) (LOps.st rfl rfl rfl (LOp.alloc rfl zt75 rfl rfl) (LOps.nil (thn_n (LW.seq (LW.ent (Ent.slot rfl) (LW.ent (Ent.slot rfl) (LW.drawW (by kernel_rfl) (by kernel_rfl) ?_)))))))))
  refine LF.st (F := []) (s := none) rfl rfl rfl (fun H _ => LOp.fieldAddr rfl rfl ft75_0) rfl ?_
  refine LF.st rfl rfl rfl (LAt.load rfl rfl rfl vt27 rfl rfl) rfl ?_
  obtain ⟨q1, hr⟩ := grd_get hr
  refine LF.st rfl rfl rfl (LAt.callV (id := 2) (qs := [.p (.slice 5 (v.B.map blkP))]) rfl rfl rfl (by kernel_rfl) (c133V q1) (fun H => (.consC Conv.p .nil)) rfl) rfl ?_
  refine LF.st (F := []) (s := none) rfl rfl rfl (fun H _ => LOp.fieldAddr rfl rfl ft75_1) rfl ?_
  refine LF.st rfl rfl rfl (LAt.load rfl rfl rfl vt68 rfl rfl) rfl ?_
  obtain ⟨q2, hr⟩ := grd_get hr
  refine LF.st rfl rfl rfl (LAt.callV (id := 3) (qs := [.p (.slice 4 (v.V.map vtP))]) rfl rfl rfl (by kernel_rfl) (c134V q2) (fun H => (.consC Conv.p .nil)) rfl) rfl ?_
  refine LF.st (F := []) (s := none) rfl rfl rfl (fun H _ => LOp.build rfl bt75 rfl rfl rfl) rfl ?_
  refine LF.st rfl rfl rfl (LAt.store rfl rfl rfl rfl vt75 rfl rfl rfl) rfl ?_
  refine LF.nil ⟨by kernel_rfl, ?_⟩
  refine thn_n (LW.ret ?_)
  obtain rfl := Option.some.inj hr
  refine finP_ret (.one (.cellAgg rfl rfl (by kernel_rfl) rfl)) ?_
  exact (Conv.agg (.cons (Conv.vecAll rfl rfl rfl) (.cons (Conv.vecAll rfl rfl rfl) .nil)))
def F3052 (o : Of) : Option Of :=
  (F3051 o.V).bind fun v1 =>
  some (Of.mk o.Slot o.From o.B v1)
set_option maxRecDepth 100000 in
theorem c3052 {o : Of} {r_ : Of} (hr : F3052 o = some r_) : LPure Tryz.prog 52 [ofP o] [ofP r_] := by
  refine LPure.start Tryz.func52 rfl rfl rfl rfl ?_
  unfold F3052 at hr
  refine LW.seq (LW.region (LOps.st rfl rfl rfl (LOp.box rfl rfl rfl rfl rfl) (LOps.st rfl rfl rfl (LOp.alloc rfl zt1077 rfl rfl) (LOps.nil (thn_n (LW.seq (LW.region (LOps.st rfl rfl rfl (LOp.fieldAddr rfl rfl ft1077_3) (LOps.st rfl rfl rfl (LOp.load rfl rfl rfl vt75 rfl rfl) ?_)))))))))
  obtain ⟨v1, h_v1, hr⟩ := bind_get hr
  refine LOps.st rfl rfl rfl (LOp.call rfl rfl rfl (by kernel_rfl) (LC.pure (c3051 h_v1) (.cons Conv.p .nil))) (LOps.st rfl rfl rfl (LOp.fieldAddr rfl rfl ft1077_3) (LOps.st rfl rfl rfl (LOp.store rfl rfl rfl rfl vt75 rfl rfl rfl rfl) (LOps.nil (thn_n (LW.seq (LW.region (LOps.st rfl rfl rfl (LOp.load rfl rfl rfl vt1077 rfl rfl) (LOps.st rfl rfl rfl (LOp.store rfl rfl rfl rfl vt1077 rfl rfl rfl rfl) (LOps.nil (thn_n (LW.ret ?_)))))))))))
  obtain rfl := Option.some.inj hr
  refine finP_ret (.one (.cellAgg rfl rfl (by kernel_rfl) rfl)) ?_
  exact Conv.p
def F3098 (b : Bk) : Option Vw :=
  some (Vw.mk [b] [])
set_option maxRecDepth 100000 in
theorem c3098 {b : Bk} {r_ : Vw} (hr : F3098 b = some r_) : LPure Tryz.prog 98 [blkP b] [vwP r_] := by
  refine LPure.start Tryz.func98 rfl rfl rfl rfl ?_
  unfold F3098 at hr
  refine LW.seq (LW.region (LOps.st rfl rfl rfl (LOp.box rfl rfl rfl rfl rfl) (LOps.st rfl rfl rfl (LOp.alloc rfl zt75 rfl rfl) (LOps.nil (thn_n (LW.seq (LW.region (LOps.st rfl rfl rfl (LOp.load rfl rfl rfl vt42 rfl rfl) (LOps.st rfl rfl rfl (LOp.buildSlice rfl st27 rfl rfl rfl rfl rfl) (LOps.st rfl rfl rfl (LOp.build rfl bt75 rfl rfl rfl) (LOps.st rfl rfl rfl (LOp.store rfl rfl rfl rfl vt75 rfl rfl rfl rfl) ?_)))))))))))
  refine LOps.nil (thn_n (LW.ret ?_))
  obtain rfl := Option.some.inj hr
  refine finP_ret (.one (.cellAgg rfl rfl (by kernel_rfl) rfl)) ?_
  exact (Conv.agg (.cons Conv.p (.cons Conv.zs .nil)))
def F3076 (n : Nd) : Option Bool :=
  some n.Full
set_option maxRecDepth 100000 in
theorem c3076 {n : Nd} {r_ : Bool} (hr : F3076 n = some r_) : LPure Tryz.prog 76 [ndP n] [.bool r_] := by
  refine LPure.start Tryz.func76 rfl rfl rfl rfl ?_
  unfold F3076 at hr
  refine LW.seq (LW.region (LOps.st rfl rfl rfl (LOp.box rfl rfl rfl rfl rfl) (LOps.st rfl rfl rfl (LOp.assign rfl rfl) (LOps.nil (thn_n (LW.seq (LW.region (LOps.st rfl rfl rfl (LOp.fieldAddr rfl rfl ft1071_6) (LOps.st rfl rfl rfl (LOp.load rfl rfl rfl vt4 rfl rfl) (LOps.st rfl rfl rfl (LOp.assign rfl rfl) (LOps.nil ?_)))))))))))
  refine thn_n (LW.ret ?_)
  obtain rfl := Option.some.inj hr
  refine finP_ret (.one (.tmp rfl)) ?_
  exact Conv.p
open Go.Proofs
def FAll1 (n : Nd) (w : Vw) : Option Vw :=
  (F1051 n).bind fun v1 =>
  (F91 w v1).bind fun v2 =>
  some v2
set_option maxRecDepth 100000 in
theorem cFAll1 {n : Nd} {w : Vw} {r_ : Vw} (hr : FAll1 n w = some r_) : LC Tryz.prog 74 [.p (ndP n), .ptr 0 0] [.box [.p (.slice 5 (w.B.map blkP)), .p (.slice 4 (w.V.map vtP))]] (Is (.tup []) [.box [.p (.slice 5 (r_.B.map blkP)), .p (.slice 4 (r_.V.map vtP))]]) := by
  refine LC.start Tryz.func74 rfl rfl rfl ?_
  unfold FAll1 at hr
  refine LW.seq (LW.region (LOps.st rfl rfl rfl (LOp.box rfl rfl rfl rfl rfl) (LOps.nil (thn_n (LW.drawLast (m := 4) (by kernel_rfl) (by kernel_rfl) (by kernel_rfl) (LO.st rfl rfl rfl (LOp.load rfl rfl rfl vt75 rfl rfl) (LO.st rfl rfl rfl (LOp.load rfl rfl rfl vt1071 rfl rfl) ?_)))))))
  obtain ⟨v1, h_v1, hr⟩ := bind_get hr
  refine LO.st rfl rfl rfl (LOp.call rfl rfl rfl (by kernel_rfl) (LC.pure (c1051 h_v1) (.cons Conv.p .nil))) ?_
  obtain ⟨v2, h_v2, hr⟩ := bind_get hr
  refine LO.st rfl rfl rfl (LOp.call rfl rfl rfl (by kernel_rfl) (LC.pure (c91 h_v2) (.cons Conv.p (.cons Conv.p .nil)))) (LO.nil (LOps.st rfl rfl rfl (LOp.store rfl rfl rfl rfl vt75 rfl rfl rfl rfl) (LOps.nil ?_)))
  obtain rfl := Option.some.inj hr
  refine fin_endW (env' := []) (H' := [.box [.p (.slice 5 (v2.B.map blkP)), .p (.slice 4 (v2.V.map vtP))]]) (Weak.of 1 trivial rfl rfl rfl rfl) .none ?_
  exact ⟨rfl, rfl⟩
structure FEachA_L1 where
  t8 : Int
  o0 : Vw
def FEachA_s1 (l : List Nd) (x1 : FEachA_L1) : Option (FEachA_L1 ⊕ FEachA_L1) :=
  bif decide (x1.t8 < (l.length : Int)) then
    (ix l x1.t8).bind fun y1 =>
    (FAll1 y1 x1.o0).bind fun v2 =>
    some (.inl (FEachA_L1.mk (IntKind.i64.wrap (x1.t8 + 1)) v2))
  else
    some (.inr (FEachA_L1.mk x1.t8 x1.o0))
def FEachA (l : List Nd) (w : Vw) : Option Vw :=
  (iter (FEachA_s1 l) big (FEachA_L1.mk 0 w)).bind fun v1 =>
  some v1.o0
set_option maxRecDepth 100000 in
theorem cFEachA {l : List Nd} {w : Vw} {r_ : Vw} (hr : FEachA l w = some r_) : LC Tryz.prog 73 [.p (.slice 12 (l.map ndP)), .fn 74 [] [.ptr 0 0]] [.box [.p (.slice 5 (w.B.map blkP)), .p (.slice 4 (w.V.map vtP))]] (Is (.tup []) [.box [.p (.slice 5 (r_.B.map blkP)), .p (.slice 4 (r_.V.map vtP))]]) := by
  refine LC.start Tryz.func73 rfl rfl rfl ?_
  unfold FEachA at hr
  refine LW.seq (LW.region (LOps.st rfl rfl rfl (LOp.move rfl rfl) (LOps.st rfl rfl rfl (LOp.lenM rfl rfl (by kernel_rfl)) (LOps.st rfl rfl rfl (LOp.move rfl rfl) (LOps.nil (thn_n ?_))))))
  obtain ⟨v1, hb_v1, ho_v1⟩ := bind_get hr
  clear hr
  refine LW.tail (E := []) (O := [.box [.p (.slice 5 (v1.o0.B.map blkP)), .p (.slice 4 (v1.o0.V.map vtP))]]) ?_ (fun env_v1 H_v1 hw_v1 => ?_)
  · refine LW.block ?_
    refine LW.iterB (E := fun x1 : FEachA_L1 => [(1, .fn 74 [] [.ptr 0 0]), (6, .p (.slice 12 (l.map ndP))), (7, .p (.int .i64 (l.length : Int))), (8, .p (.int .i64 x1.t8))]) (O := fun x1 => [.box [.p (.slice 5 (x1.o0.B.map blkP)), .p (.slice 4 (x1.o0.V.map vtP))]]) hb_v1 (Weak.of 1 ⟨rfl, rfl, rfl, rfl, trivial⟩ rfl rfl rfl rfl) (fun x1 z_x1 hr hb_x1 => ?_)
    unfold FEachA_s1 at hr
    refine LW.seq (LW.region (LOps.st rfl rfl rfl (LOp.bin rfl rfl rfl rfl) (LOps.nil (thn_n (LW.seq ?_)))))
    refine LW.cond rfl (fun (g1 : (decide (x1.t8 < (l.length : Int))) = true) => ?_) (fun (g1 : (decide (x1.t8 < (l.length : Int))) = false) => ?_)
    ·
      have hr := ite_t g1 hr
      refine LW.skip (thn_n (LW.seq (LW.block (LW.seq (LW.region ?_)))))
      obtain ⟨y1, h_y1, hr⟩ := bind_get hr
      refine LOps.st rfl rfl rfl (LOp.indexAddrX rfl rfl rfl st1035 h_y1 rfl) (LOps.st rfl rfl rfl (LOp.loadC rfl rfl rfl vt1071 rfl rfl) (LOps.st rfl rfl rfl (LOp.alloc rfl zt1071 rfl rfl) (LOps.st rfl rfl rfl (LOp.store rfl rfl rfl rfl vt1071 rfl rfl rfl rfl) (LOps.nil (thn_n (LW.region (LOps.st rfl rfl rfl (LOp.move rfl rfl) (LOps.st rfl rfl rfl (LOp.load rfl rfl rfl vt1071 rfl rfl) ?_))))))))
      obtain ⟨v2, h_v2, hr⟩ := bind_get hr
      refine LOps.st rfl rfl rfl (LOp.call rfl rfl rfl (by kernel_rfl) (LC.pre (cFAll1 h_v2) rfl rfl rfl)) (LOps.nil (inBlk_n (thn_n (LW.region (LOps.st rfl rfl rfl (LOp.bin rfl rfl rfl rfl) (LOps.st rfl rfl rfl (LOp.move rfl rfl) (LOps.nil (thn_n ?_))))))))
      obtain rfl := Option.some.inj hr
      exact ⟨_, rfl, Weak.of 1 ⟨rfl, rfl, rfl, rfl, trivial⟩ rfl rfl rfl rfl⟩
    ·
      have hr := ite_f g1 hr
      refine LW.exit (thn_e (thn_e (inBlk_self (thn_n ?_))))
      obtain rfl := Option.some.inj hr
      have hr := congrArg some (hb_x1 _ rfl)
      obtain rfl := Option.some.inj hr
      exact Weak.of 1 trivial rfl rfl rfl rfl
  · have hr := ho_v1
    clear hb_v1
    obtain rfl := Option.some.inj hr
    exact fin_endW hw_v1 .none ⟨rfl, rfl⟩
def F1031 (l : List Nd) : Option Vw :=
  (FEachA l (Vw.mk [] [])).bind fun v1 =>
  some v1
set_option maxRecDepth 100000 in
theorem c1031 {l : List Nd} {r_ : Vw} (hr : F1031 l = some r_) : LPure Tryz.prog 31 [.slice 12 (l.map ndP)] [vwP r_] := by
  refine LPure.start Tryz.func31 rfl rfl rfl rfl ?_
  unfold F1031 at hr
  refine LW.seq (LW.region (LOps.st rfl rfl rfl (LOp.alloc rfl zt75 rfl rfl) (LOps.nil (thn_n (LW.seq (LW.ent (Ent.zsCell (i := 0) (j := 0) (m := 5) rfl rfl rfl rfl) (LW.ent (Ent.zsCell (i := 0) (j := 1) (m := 4) rfl rfl rfl rfl) (LW.region (LOps.st rfl rfl rfl (LOp.move rfl rfl) (LOps.st rfl rfl rfl (LOp.makeFunc rfl rfl rfl) ?_))))))))))
  obtain ⟨v1, h_v1, hr⟩ := bind_get hr
  refine LOps.st rfl rfl rfl (LOp.call rfl rfl rfl (by kernel_rfl) (cFEachA h_v1)) (LOps.nil (thn_n (LW.seq (LW.region (LOps.st rfl rfl rfl (LOp.load rfl rfl rfl vt75 rfl rfl) (LOps.st rfl rfl rfl (LOp.store rfl rfl rfl rfl vt75 rfl rfl rfl rfl) (LOps.nil (thn_n (LW.ret ?_)))))))))
  obtain rfl := Option.some.inj hr
  refine finP_ret (.one (.cellAgg rfl rfl (by kernel_rfl) rfl)) ?_
  exact Conv.p
def FHeads1 (n : Nd) (c : Cf) (hs : List ID) : Option (List ID) :=
  (F1030 c n).bind fun v1 =>
  bif room hs.length [v1].length 16 then
    some (hs ++ [v1])
  else none
set_option maxRecDepth 100000 in
theorem cFHeads1 {n : Nd} {c : Cf} {hs : List ID} {r_ : List ID} (hr : FHeads1 n c hs = some r_) : LC Tryz.prog 77 [.p (ndP n), .ptr 1 0, .ptr 0 0] [.box [.p (.slice 1 (c.W.map i64P)), .p (.int .u64 c.Seed), .p (.int .i64 c.Epoch), .p (.int .i64 c.Num), .p (.int .i64 c.Den)], .box [.vec 2 2 (hs.map idP).length 0 (hs.map idP).length], .vec 2 (hs.map idP)] (Is (.tup []) [.box [.p (.slice 1 (c.W.map i64P)), .p (.int .u64 c.Seed), .p (.int .i64 c.Epoch), .p (.int .i64 c.Num), .p (.int .i64 c.Den)], .box [.vec 2 2 (r_.map idP).length 0 (r_.map idP).length], .vec 2 (r_.map idP)]) := by
  refine LC.start Tryz.func77 rfl rfl rfl ?_
  unfold FHeads1 at hr
  refine LW.seq (LW.region (LOps.st rfl rfl rfl (LOp.box rfl rfl rfl rfl rfl) (LOps.nil (thn_n (LW.drawW (by kernel_rfl) (by kernel_rfl) (LF.st rfl rfl rfl (LAt.load rfl rfl rfl vt31 rfl rfl) rfl (LF.st rfl rfl rfl (LAt.load rfl rfl rfl vt55 rfl rfl) rfl (LF.st rfl rfl rfl (LAt.load rfl rfl rfl vt1071 rfl rfl) rfl ?_))))))))
  obtain ⟨v1, h_v1, hr⟩ := bind_get hr
  refine LF.st (F := []) (s := none) rfl rfl rfl (fun H _ => LOp.call rfl rfl rfl (by kernel_rfl) (LC.pure (c1030 h_v1) (.cons Conv.p (.cons Conv.p .nil)))) rfl ?_
  refine LF.st (F := []) (s := none) rfl rfl rfl (fun H _ => LOp.buildSlice rfl st31 rfl rfl rfl rfl rfl) rfl ?_
  obtain ⟨q1, hr⟩ := grd_get hr
  refine LF.st rfl rfl rfl (LAt.appendX idP hs [v1] rfl rfl rfl rfl rfl st31 q1) rfl (LF.st rfl rfl rfl (LAt.store rfl rfl rfl rfl vt31 rfl rfl rfl) rfl ?_)
  refine LF.nil ⟨by kernel_rfl, ?_⟩
  obtain rfl := Option.some.inj hr
  refine fin_endW (env' := []) (H' := [.box [.p (.slice 1 (c.W.map i64P)), .p (.int .u64 c.Seed), .p (.int .i64 c.Epoch), .p (.int .i64 c.Num), .p (.int .i64 c.Den)], .box [.vec 2 2 ((hs ++ [v1]).map idP).length 0 ((hs ++ [v1]).map idP).length], .vec 2 ((hs ++ [v1]).map idP)]) (Weak.of 3 trivial rfl rfl rfl rfl) .none ?_
  exact ⟨rfl, rfl⟩
structure FEachH_L1 where
  t8 : Int
  o2 : List ID
def FEachH_s1 (l : List Nd) (c : Cf) (x1 : FEachH_L1) : Option (FEachH_L1 ⊕ FEachH_L1) :=
  bif decide (x1.t8 < (l.length : Int)) then
    (ix l x1.t8).bind fun y1 =>
    (FHeads1 y1 c x1.o2).bind fun v2 =>
    some (.inl (FEachH_L1.mk (IntKind.i64.wrap (x1.t8 + 1)) v2))
  else
    some (.inr (FEachH_L1.mk x1.t8 x1.o2))
def FEachH (l : List Nd) (c : Cf) (hs : List ID) : Option (List ID) :=
  (iter (FEachH_s1 l c) big (FEachH_L1.mk 0 hs)).bind fun v1 =>
  some v1.o2
set_option maxRecDepth 100000 in
theorem cFEachH {l : List Nd} {c : Cf} {hs : List ID} {r_ : List ID} (hr : FEachH l c hs = some r_) : LC Tryz.prog 73 [.p (.slice 12 (l.map ndP)), .fn 77 [] [.ptr 1 0, .ptr 0 0]] [.box [.p (.slice 1 (c.W.map i64P)), .p (.int .u64 c.Seed), .p (.int .i64 c.Epoch), .p (.int .i64 c.Num), .p (.int .i64 c.Den)], .box [.vec 2 2 (hs.map idP).length 0 (hs.map idP).length], .vec 2 (hs.map idP)] (Is (.tup []) [.box [.p (.slice 1 (c.W.map i64P)), .p (.int .u64 c.Seed), .p (.int .i64 c.Epoch), .p (.int .i64 c.Num), .p (.int .i64 c.Den)], .box [.vec 2 2 (r_.map idP).length 0 (r_.map idP).length], .vec 2 (r_.map idP)]) := by
  refine LC.start Tryz.func73 rfl rfl rfl ?_
  unfold FEachH at hr
  refine LW.seq (LW.region (LOps.st rfl rfl rfl (LOp.move rfl rfl) (LOps.st rfl rfl rfl (LOp.lenM rfl rfl (by kernel_rfl)) (LOps.st rfl rfl rfl (LOp.move rfl rfl) (LOps.nil (thn_n ?_))))))
  obtain ⟨v1, hb_v1, ho_v1⟩ := bind_get hr
  clear hr
  refine LW.tail (E := []) (O := [.box [.p (.slice 1 (c.W.map i64P)), .p (.int .u64 c.Seed), .p (.int .i64 c.Epoch), .p (.int .i64 c.Num), .p (.int .i64 c.Den)], .box [.vec 2 2 (v1.o2.map idP).length 0 (v1.o2.map idP).length], .vec 2 (v1.o2.map idP)]) ?_ (fun env_v1 H_v1 hw_v1 => ?_)
  · refine LW.block ?_
    refine LW.iterB (E := fun x1 : FEachH_L1 => [(1, .fn 77 [] [.ptr 1 0, .ptr 0 0]), (6, .p (.slice 12 (l.map ndP))), (7, .p (.int .i64 (l.length : Int))), (8, .p (.int .i64 x1.t8))]) (O := fun x1 => [.box [.p (.slice 1 (c.W.map i64P)), .p (.int .u64 c.Seed), .p (.int .i64 c.Epoch), .p (.int .i64 c.Num), .p (.int .i64 c.Den)], .box [.vec 2 2 (x1.o2.map idP).length 0 (x1.o2.map idP).length], .vec 2 (x1.o2.map idP)]) hb_v1 (Weak.of 3 ⟨rfl, rfl, rfl, rfl, trivial⟩ rfl rfl rfl rfl) (fun x1 z_x1 hr hb_x1 => ?_)
    unfold FEachH_s1 at hr
    refine LW.seq (LW.region (LOps.st rfl rfl rfl (LOp.bin rfl rfl rfl rfl) (LOps.nil (thn_n (LW.seq ?_)))))
    refine LW.cond rfl (fun (g1 : (decide (x1.t8 < (l.length : Int))) = true) => ?_) (fun (g1 : (decide (x1.t8 < (l.length : Int))) = false) => ?_)
    ·
      have hr := ite_t g1 hr
      refine LW.skip (thn_n (LW.seq (LW.block (LW.seq (LW.region ?_)))))
      obtain ⟨y1, h_y1, hr⟩ := bind_get hr
      refine LOps.st rfl rfl rfl (LOp.indexAddrX rfl rfl rfl st1035 h_y1 rfl) (LOps.st rfl rfl rfl (LOp.loadC rfl rfl rfl vt1071 rfl rfl) (LOps.st rfl rfl rfl (LOp.alloc rfl zt1071 rfl rfl) (LOps.st rfl rfl rfl (LOp.store rfl rfl rfl rfl vt1071 rfl rfl rfl rfl) (LOps.nil (thn_n (LW.region (LOps.st rfl rfl rfl (LOp.move rfl rfl) (LOps.st rfl rfl rfl (LOp.load rfl rfl rfl vt1071 rfl rfl) ?_))))))))
      obtain ⟨v2, h_v2, hr⟩ := bind_get hr
      refine LOps.st rfl rfl rfl (LOp.call rfl rfl rfl (by kernel_rfl) (LC.pre (cFHeads1 h_v2) rfl rfl rfl)) (LOps.nil (inBlk_n (thn_n (LW.region (LOps.st rfl rfl rfl (LOp.bin rfl rfl rfl rfl) (LOps.st rfl rfl rfl (LOp.move rfl rfl) (LOps.nil (thn_n ?_))))))))
      obtain rfl := Option.some.inj hr
      exact ⟨_, rfl, Weak.of 3 ⟨rfl, rfl, rfl, rfl, trivial⟩ rfl rfl rfl rfl⟩
    ·
      have hr := ite_f g1 hr
      refine LW.exit (thn_e (thn_e (inBlk_self (thn_n ?_))))
      obtain rfl := Option.some.inj hr
      have hr := congrArg some (hb_x1 _ rfl)
      obtain rfl := Option.some.inj hr
      exact Weak.of 3 trivial rfl rfl rfl rfl
  · have hr := ho_v1
    clear hb_v1
    obtain rfl := Option.some.inj hr
    exact fin_endW hw_v1 .none ⟨rfl, rfl⟩
def F3036 (c : Cf) (l : List Nd) : Option (List ID) :=
  (FEachH l c ([] : List ID)).bind fun v1 =>
  some v1
set_option maxRecDepth 100000 in
theorem c3036 {c : Cf} {l : List Nd} {r_ : (List ID)} (hr : F3036 c l = some r_) : LPure Tryz.prog 36 [cfP c, .slice 12 (l.map ndP)] [.slice 2 (r_.map idP)] := by
  refine LPure.start Tryz.func36 rfl rfl rfl rfl ?_
  unfold F3036 at hr
  refine LW.seq (LW.region (LOps.st rfl rfl rfl (LOp.box rfl rfl rfl rfl rfl) (LOps.st rfl rfl rfl (LOp.alloc rfl zt31 rfl rfl) (LOps.nil (thn_n (LW.seq (LW.ent (Ent.lazyCell (i := 1) (j := 0) (m := 2) rfl rfl rfl rfl rfl rfl) (LW.region (LOps.st rfl rfl rfl (LOp.move rfl rfl) (LOps.st rfl rfl rfl (LOp.makeFunc rfl rfl rfl) ?_))))))))))
  obtain ⟨v1, h_v1, hr⟩ := bind_get hr
  refine LOps.st rfl rfl rfl (LOp.call rfl rfl rfl (by kernel_rfl) (cFEachH h_v1)) (LOps.nil (thn_n (LW.seq (LW.region (LOps.st rfl rfl rfl (LOp.load rfl rfl rfl vt31 rfl rfl) (LOps.st rfl rfl rfl (LOp.store rfl rfl rfl rfl vt31 rfl rfl rfl rfl) (LOps.nil (thn_n (LW.ret ?_)))))))))
  obtain rfl := Option.some.inj hr
  refine finP_ret (.one (.cellOne rfl rfl (by kernel_rfl))) ?_
  exact (Conv.vecAll rfl rfl rfl)
structure F3034_L1 where
  t12 : Int
  names : List (ID × Bool)
def F3034_s1 (w : Vw) (x1 : F3034_L1) : Option (F3034_L1 ⊕ F3034_L1) :=
  bif decide (x1.t12 < (w.B.length : Int)) then
    (ix w.B x1.t12).bind fun y1 =>
    some (.inl (F3034_L1.mk (IntKind.i64.wrap (x1.t12 + 1)) (setE x1.names (nm y1) true)))
  else
    some (.inr (F3034_L1.mk x1.t12 x1.names))
def F3034 (w : Vw) : Option Bool :=
  (iter (F3034_s1 w) big (F3034_L1.mk 0 (setE [] (0, 0) true))).bind fun v1 =>
  bif fewE v1.names then
    some ((v1.names.length : Int) != (IntKind.i64.wrap ((w.B.length : Int) + 1)))
  else none
set_option maxRecDepth 100000 in
theorem c3034 {w : Vw} {r_ : Bool} (hr : F3034 w = some r_) : LPure Tryz.prog 34 [vwP w] [.bool r_] := by
  refine LPure.start Tryz.func34 rfl rfl rfl rfl ?_
  unfold F3034 at hr
  refine LW.seq (LW.region (LOps.st rfl rfl rfl (LOp.box rfl rfl rfl rfl rfl) (LOps.st rfl rfl rfl (LOp.assign rfl rfl) (LOps.nil (thn_n (LW.seq (LW.region (LOps.st rfl rfl rfl (LOp.makeMap rfl rfl rfl) (LOps.st rfl rfl rfl (LOp.build rfl bt24 rfl rfl rfl) ?_)))))))))
  refine LOps.st rfl rfl rfl (LOp.setX (f := idP) (g := (fun v => .p (.bool v))) (m := ([] : List (ID × Bool))) (0, 0) true idKey (.inr rfl) rfl rfl rfl rfl rfl mt169 rfl) ?_
  refine LOps.st rfl rfl rfl (LOp.move rfl rfl) (LOps.st rfl rfl rfl (LOp.assign rfl rfl) (LOps.nil (thn_n (LW.seq (LW.seq (LW.region (LOps.st rfl rfl rfl (LOp.fieldAddr rfl rfl ft75_0) (LOps.st rfl rfl rfl (LOp.load rfl rfl rfl vt27 rfl rfl) (LOps.st rfl rfl rfl (LOp.lenM rfl rfl (by kernel_rfl)) (LOps.st rfl rfl rfl (LOp.move rfl rfl) (LOps.nil ?_)))))))))))
  refine thn_n ?_
  obtain ⟨v1, hb_v1, ho_v1⟩ := bind_get hr
  clear hr
  refine LW.tail (E := [(1, .ptr 0 0), (2, .p (.bool false)), (3, .map 1)]) (O := [.box [.p (.slice 5 (w.B.map blkP)), .p (.slice 4 (w.V.map vtP))], .map (entsOf idP (fun v => .p (.bool v)) v1.names)]) ?_ (fun env_v1 H_v1 hw_v1 => ?_)
  · refine LW.block ?_
    refine LW.iterB (E := fun x1 : F3034_L1 => [(1, .ptr 0 0), (2, .p (.bool false)), (3, .map 1), (10, .p (.slice 5 (w.B.map blkP))), (11, .p (.int .i64 (w.B.length : Int))), (12, .p (.int .i64 x1.t12))]) (O := fun x1 => [.box [.p (.slice 5 (w.B.map blkP)), .p (.slice 4 (w.V.map vtP))], .map (entsOf idP (fun v => .p (.bool v)) x1.names)]) hb_v1 (Weak.of 2 ⟨rfl, rfl, rfl, rfl, rfl, rfl, trivial⟩ rfl rfl rfl (lowObjs_cons rfl (lowObjs_cons (entsLow (fun _ => rfl) _) rfl))) (fun x1 z_x1 hr hb_x1 => ?_)
    unfold F3034_s1 at hr
    refine LW.seq (LW.region (LOps.st rfl rfl rfl (LOp.bin rfl rfl rfl rfl) (LOps.nil (thn_n (LW.seq ?_)))))
    refine LW.cond rfl (fun (g1 : (decide (x1.t12 < (w.B.length : Int))) = true) => ?_) (fun (g1 : (decide (x1.t12 < (w.B.length : Int))) = false) => ?_)
    ·
      have hr := ite_t g1 hr
      refine LW.skip (thn_n (LW.seq (LW.block (LW.seq (LW.region ?_)))))
      obtain ⟨y1, h_y1, hr⟩ := bind_get hr
      refine LOps.st rfl rfl rfl (LOp.indexAddrX rfl rfl rfl st27 h_y1 rfl) (LOps.st rfl rfl rfl (LOp.loadC rfl rfl rfl vt42 rfl rfl) (LOps.st rfl rfl rfl (LOp.alloc rfl zt42 rfl rfl) (LOps.st rfl rfl rfl (LOp.store rfl rfl rfl rfl vt42 rfl rfl rfl rfl) (LOps.nil (thn_n (LW.region (LOps.st rfl rfl rfl (LOp.move rfl rfl) (LOps.st rfl rfl rfl (LOp.load rfl rfl rfl vt42 rfl rfl) (LOps.st rfl rfl rfl (LOp.call rfl rfl rfl (by kernel_rfl) (LC.pure (c50 (b := y1)) (.cons Conv.p .nil))) ?_)))))))))
      refine LOps.st rfl rfl rfl (LOp.setX (f := idP) (g := (fun v => .p (.bool v))) (nm y1) true idKey (.inl rfl) rfl rfl rfl rfl rfl mt169 rfl) ?_
      refine LOps.nil (inBlk_n (thn_n (LW.region (LOps.st rfl rfl rfl (LOp.bin rfl rfl rfl rfl) (LOps.st rfl rfl rfl (LOp.move rfl rfl) (LOps.nil (thn_n ?_)))))))
      obtain rfl := Option.some.inj hr
      exact ⟨_, rfl, Weak.of 2 ⟨rfl, rfl, rfl, rfl, rfl, rfl, trivial⟩ rfl rfl rfl (lowObjs_cons rfl (lowObjs_cons (entsLow (fun _ => rfl) _) rfl))⟩
    ·
      have hr := ite_f g1 hr
      refine LW.exit (thn_e (thn_e (inBlk_self (thn_n ?_))))
      obtain rfl := Option.some.inj hr
      have hr := congrArg some (hb_x1 _ rfl)
      obtain rfl := Option.some.inj hr
      exact Weak.of 2 ⟨rfl, rfl, rfl, trivial⟩ rfl rfl rfl (lowObjs_cons rfl (lowObjs_cons (entsLow (fun _ => rfl) _) rfl))
  · have hr := ho_v1
    clear hb_v1
    refine thn_n (LW.weak hw_v1 (LW.seq (LW.region (LOps.st rfl rfl rfl (LOp.move rfl rfl) ?_))))
    obtain ⟨q1, hr⟩ := grd_get hr
    refine LOps.st rfl rfl rfl (LOp.lenMapX rfl rfl rfl (by kernel_rfl) q1) (LOps.st rfl rfl rfl (LOp.fieldAddr rfl rfl ft75_0) (LOps.st rfl rfl rfl (LOp.load rfl rfl rfl vt27 rfl rfl) (LOps.st rfl rfl rfl (LOp.lenM rfl rfl (by kernel_rfl)) (LOps.st rfl rfl rfl (LOp.bin rfl rfl rfl rfl) (LOps.st rfl rfl rfl (LOp.bin rfl rfl rfl rfl) (LOps.st rfl rfl rfl (LOp.assign rfl rfl) (LOps.nil (thn_n (LW.ret ?_)))))))))
    obtain rfl := Option.some.inj hr
    refine finP_ret (.one (.tmp rfl)) ?_
    exact Conv.p
structure FIxn_L1 where
  t8 : Int
def FIxn_s1 (l : List Nd) (x1 : FIxn_L1) : Option (FIxn_L1 ⊕ (FIxn_L1 ⊕ Int)) :=
  bif decide (x1.t8 < (l.length : Int)) then
    (ix l x1.t8).bind fun y1 =>
    (F3076 y1).bind fun v2 =>
    bif v2 then
      some (.inr (.inr x1.t8))
    else
      some (.inl (FIxn_L1.mk (IntKind.i64.wrap (x1.t8 + 1))))
  else
    some (.inr (.inl (FIxn_L1.mk x1.t8)))
def FIxn (l : List Nd) : Option Int :=
  (iter (FIxn_s1 l) big (FIxn_L1.mk 0)).bind fun b_v1 => Sum.elim (fun _ =>
    some (-1)) some b_v1
set_option maxRecDepth 100000 in
theorem cFIxn {l : List Nd} {r_ : Int} (hr : FIxn l = some r_) : LC Tryz.prog 110 [.p (.slice 12 (l.map ndP)), .fn 76 [] []] [] (Is (.p (.int .i64 r_)) []) := by
  refine LC.start Tryz.func110 rfl rfl rfl ?_
  unfold FIxn at hr
  refine LW.seq (LW.region (LOps.st rfl rfl rfl (LOp.assign rfl rfl) (LOps.nil (thn_n (LW.seq (LW.seq (LW.region (LOps.st rfl rfl rfl (LOp.move rfl rfl) (LOps.st rfl rfl rfl (LOp.lenM rfl rfl (by kernel_rfl)) (LOps.st rfl rfl rfl (LOp.move rfl rfl) (LOps.nil ?_)))))))))))
  refine thn_n ?_
  obtain ⟨b_v1, hb_v1, ho_v1⟩ := bind_get hr
  clear hr
  refine LW.tailB (b := b_v1) (E := fun v1 => [(4, .p (.int .i64 0))]) (O := fun v1 => []) ?_ (fun v1 e_v1 env_v1 H_v1 hw_v1 => ?_)
  · refine LW.block ?_
    refine LW.iterB (E := fun x1 : FIxn_L1 => [(0, .p (.slice 12 (l.map ndP))), (1, .fn 76 [] []), (4, .p (.int .i64 0)), (7, .p (.int .i64 (l.length : Int))), (8, .p (.int .i64 x1.t8))]) (O := fun x1 => []) hb_v1 (Weak.of 0 ⟨rfl, rfl, rfl, rfl, rfl, trivial⟩ rfl rfl rfl rfl) (fun x1 z_x1 hr hb_x1 => ?_)
    unfold FIxn_s1 at hr
    refine LW.seq (LW.region (LOps.st rfl rfl rfl (LOp.bin rfl rfl rfl rfl) (LOps.nil (thn_n (LW.seq ?_)))))
    refine LW.cond rfl (fun (g1 : (decide (x1.t8 < (l.length : Int))) = true) => ?_) (fun (g1 : (decide (x1.t8 < (l.length : Int))) = false) => ?_)
    ·
      have hr := ite_t g1 hr
      refine LW.skip (thn_n (LW.seq (LW.block (LW.seq (LW.region (LOps.st rfl rfl rfl (LOp.move rfl rfl) (LOps.st rfl rfl rfl (LOp.assign rfl rfl) (LOps.nil (thn_n (LW.seq (LW.region ?_)))))))))))
      refine LOps.st rfl rfl rfl (LOp.move rfl rfl) (LOps.st rfl rfl rfl (LOp.move rfl rfl) (LOps.st rfl rfl rfl (LOp.move rfl rfl) ?_))
      obtain ⟨y1, h_y1, hr⟩ := bind_get hr
      refine LOps.st rfl rfl rfl (LOp.indexAddrX rfl rfl rfl st1035 h_y1 rfl) (LOps.st rfl rfl rfl (LOp.loadC rfl rfl rfl vt1071 rfl rfl) ?_)
      obtain ⟨v2, h_v2, hr⟩ := bind_get hr
      refine LOps.st rfl rfl rfl (LOp.call rfl rfl rfl (by kernel_rfl) (LC.pure (c3076 h_v2) (.cons Conv.p .nil))) (LOps.nil (thn_n ?_))
      refine LW.cond rfl (fun (g2 : v2 = true) => ?_) (fun (g2 : v2 = false) => ?_)
      ·
        have hr := ite_t g2 hr
        refine LW.seq (LW.region (LOps.st rfl rfl rfl (LOp.move rfl rfl) (LOps.st rfl rfl rfl (LOp.assign rfl rfl) (LOps.nil (thn_n (LW.ret (inBlk_r (thn_r (thn_r (inBlk_r (thn_r ?_)))))))))))
        refine thn_r ?_
        obtain rfl := Option.some.inj hr
        have hr := congrArg some (hb_x1 _ rfl)
        obtain rfl := Option.some.inj hr
        have hr := sum_r ho_v1
        obtain rfl := Option.some.inj hr
        refine fin_ret (.one (.tmp rfl)) ?_
        exact ⟨rfl, rfl⟩
      ·
        have hr := ite_f g2 hr
        refine LW.skip (inBlk_n (thn_n (LW.region (LOps.st rfl rfl rfl (LOp.bin rfl rfl rfl rfl) (LOps.st rfl rfl rfl (LOp.move rfl rfl) (LOps.nil (thn_n ?_)))))))
        obtain rfl := Option.some.inj hr
        exact ⟨_, rfl, Weak.of 0 ⟨rfl, rfl, rfl, rfl, rfl, trivial⟩ rfl rfl rfl rfl⟩
    ·
      have hr := ite_f g1 hr
      refine LW.exit (thn_e (thn_e (inBlk_self (thn_n ?_))))
      obtain rfl := Option.some.inj hr
      have hr := congrArg some (hb_x1 _ rfl)
      obtain rfl := Option.some.inj hr
      exact ⟨_, rfl, Weak.of 0 ⟨rfl, trivial⟩ rfl rfl rfl rfl⟩
  · obtain rfl := e_v1
    have hr := sum_l ho_v1
    clear hb_v1
    refine thn_n (LW.weak hw_v1 (LW.seq (LW.region (LOps.st rfl rfl rfl (LOp.assign rfl rfl) (LOps.nil (thn_n (LW.ret ?_)))))))
    obtain rfl := Option.some.inj hr
    refine fin_ret (.one (.tmp rfl)) ?_
    exact ⟨rfl, rfl⟩
def FCfn (l : List Nd) : Option Bool :=
  (FIxn l).bind fun v1 =>
  some (decide (v1 ≥ 0))
set_option maxRecDepth 100000 in
theorem cFCfn {l : List Nd} {r_ : Bool} (hr : FCfn l = some r_) : LC Tryz.prog 75 [.p (.slice 12 (l.map ndP)), .fn 76 [] []] [] (Is (.p (.bool r_)) []) := by
  refine LC.start Tryz.func75 rfl rfl rfl ?_
  unfold FCfn at hr
  refine LW.seq (LW.region (LOps.st rfl rfl rfl (LOp.assign rfl rfl) (LOps.nil (thn_n (LW.seq (LW.region (LOps.st rfl rfl rfl (LOp.move rfl rfl) (LOps.st rfl rfl rfl (LOp.move rfl rfl) ?_))))))))
  obtain ⟨v1, h_v1, hr⟩ := bind_get hr
  refine LOps.st rfl rfl rfl (LOp.call rfl rfl rfl (by kernel_rfl) (cFIxn h_v1)) (LOps.st rfl rfl rfl (LOp.bin rfl rfl rfl rfl) (LOps.st rfl rfl rfl (LOp.assign rfl rfl) (LOps.nil (thn_n (LW.ret ?_)))))
  obtain rfl := Option.some.inj hr
  refine fin_ret (.one (.tmp rfl)) ?_
  exact ⟨rfl, rfl⟩
def F3033 (l : List Nd) : Option Bool :=
  (FCfn l).bind fun v1 =>
  some v1
set_option maxRecDepth 100000 in
theorem c3033 {l : List Nd} {r_ : Bool} (hr : F3033 l = some r_) : LPure Tryz.prog 33 [.slice 12 (l.map ndP)] [.bool r_] := by
  refine LPure.start Tryz.func33 rfl rfl rfl rfl ?_
  unfold F3033 at hr
  refine LW.seq (LW.region (LOps.st rfl rfl rfl (LOp.assign rfl rfl) (LOps.nil (thn_n (LW.seq (LW.region (LOps.st rfl rfl rfl (LOp.move rfl rfl) ?_)))))))
  obtain ⟨v1, h_v1, hr⟩ := bind_get hr
  refine LOps.st rfl rfl rfl (LOp.call rfl rfl rfl (by kernel_rfl) (cFCfn h_v1)) (LOps.st rfl rfl rfl (LOp.assign rfl rfl) (LOps.nil (thn_n (LW.ret ?_))))
  obtain rfl := Option.some.inj hr
  refine finP_ret (.one (.tmp rfl)) ?_
  exact Conv.p
structure F3016_L1 where
  i : Int
structure F3030_L1 where
  i : Int
open Go.Proofs
def FGrow (n : Int) : Option (List Of) :=
  bif decide (n < 0) then
    none
  else
    bif decide ((IntKind.i64.wrap (n - (IntKind.i64.wrap (0 - 0)))) > 0) then
      bif mkOk (IntKind.i64.wrap (n - (IntKind.i64.wrap (0 - 0)))) 104 then
        bif decide (0 ≤ 0 ∧ 0 ≤ (((List.replicate (IntKind.i64.wrap (n - (IntKind.i64.wrap (0 - 0)))).toNat (Of.mk 0 0 (Bk.mk 0 0 (0, 0) 0) (Vw.mk [] []) : Of)).map ofP).length : Int)) then
          some (List.replicate (IntKind.i64.wrap (n - (IntKind.i64.wrap (0 - 0)))).toNat (Of.mk 0 0 (Bk.mk 0 0 (0, 0) 0) (Vw.mk [] []) : Of))
        else none
      else none
    else
      some []
set_option maxRecDepth 100000 in
theorem cFGrow {n : Int} {r_ : List Of} (hr : FGrow n = some r_) : LC Tryz.prog 125 [.zs, .p (.int .i64 n)] [] (Is (.vec 9 0 (r_.map ofP).length 0 0) [.vec 9 (r_.map ofP)]) := by
  refine LC.start Tryz.func125 rfl rfl rfl ?_
  unfold FGrow at hr
  refine LW.seq (LW.region (LOps.st rfl rfl rfl (LOp.assign rfl rfl) (LOps.nil (thn_n (LW.seq (LW.seq (LW.region (LOps.st rfl rfl rfl (LOp.move rfl rfl) (LOps.st rfl rfl rfl (LOp.bin rfl rfl rfl rfl) (LOps.nil (thn_n ?_)))))))))))
  refine LW.cond rfl (fun (g1 : (decide (n < 0)) = true) => ?_) (fun (g1 : (decide (n < 0)) = false) => ?_)
  ·
    have hr := ite_t g1 hr
    cases hr
  ·
    have hr := ite_f g1 hr
    refine LW.skip (thn_n (LW.seq (LW.seq (LW.region (LOps.st rfl rfl rfl (LOp.move rfl rfl) (LOps.st rfl rfl rfl (LOp.move rfl rfl) (LOps.st rfl rfl rfl (LOp.capZ rfl rfl st1036) (LOps.st rfl rfl rfl (LOp.move rfl rfl) (LOps.st rfl rfl rfl (LOp.lenZ rfl rfl (by kernel_rfl)) (LOps.st rfl rfl rfl (LOp.bin rfl rfl rfl rfl) (LOps.st rfl rfl rfl (LOp.bin rfl rfl rfl rfl) ?_)))))))))))
    refine LOps.st rfl rfl rfl (LOp.assign rfl rfl) (LOps.nil (thn_n (LW.seq (LW.region (LOps.st rfl rfl rfl (LOp.move rfl rfl) (LOps.st rfl rfl rfl (LOp.bin rfl rfl rfl rfl) (LOps.nil (thn_n ?_))))))))
    refine LW.cond rfl (fun (g2 : (decide ((IntKind.i64.wrap (n - (IntKind.i64.wrap (0 - 0)))) > 0)) = true) => ?_) (fun (g2 : (decide ((IntKind.i64.wrap (n - (IntKind.i64.wrap (0 - 0)))) > 0)) = false) => ?_)
    ·
      have hr := ite_t g2 hr
      refine LW.region (LOps.st rfl rfl rfl (LOp.move rfl rfl) (LOps.st rfl rfl rfl (LOp.move rfl rfl) (LOps.st rfl rfl rfl (LOp.capZ rfl rfl st1036) (LOps.st rfl rfl rfl (LOp.sliceZ0 rfl rfl rfl st1036) (LOps.st rfl rfl rfl (LOp.move rfl rfl) ?_)))))
      obtain ⟨q1, hr⟩ := grd_get hr
      refine LOps.st rfl rfl rfl (LOp.appendMake (cs := [.p (.int .i64 0), .p (.int .i64 0), .p (.int .i64 0), .p (.int .i64 0), .p (.int .u64 0), .p (.int .u64 0), .p (.int .u64 0), .zs, .zs]) (zs := [.int .i64 0, .int .i64 0, .int .i64 0, .int .i64 0, .int .u64 0, .int .u64 0, .int .u64 0, .slice 5 [], .slice 4 []]) ofP (Of.mk 0 0 (Bk.mk 0 0 (0, 0) 0) (Vw.mk [] [])) rfl rfl rfl st1036 Tryz.underlying3 (fun _ => rfl) (by kernel_rfl) rfl ⟨rfl, rfl, rfl, rfl, rfl, rfl, rfl, ⟨_, rfl⟩, ⟨_, rfl⟩, trivial⟩ q1 rfl rfl) ?_
      refine LOps.st rfl rfl rfl (LOp.move rfl rfl) (LOps.st rfl rfl rfl (LOp.lenZ rfl rfl (by kernel_rfl)) ?_)
      obtain ⟨q2, hr⟩ := grd_get hr
      refine LOps.st rfl rfl rfl (LOp.sliceVHi rfl rfl rfl rfl st1036 q2) (LOps.st rfl rfl rfl (LOp.assign rfl rfl) (LOps.nil (thn_n (LW.seq (LW.region (LOps.st rfl rfl rfl (LOp.move rfl rfl) (LOps.st rfl rfl rfl (LOp.assign rfl rfl) (LOps.nil (thn_n (LW.ret ?_))))))))))
      obtain rfl := Option.some.inj hr
      refine fin_ret (.one (.tmp rfl)) ?_
      exact ⟨rfl, rfl⟩
    ·
      have hr := ite_f g2 hr
      refine LW.skip (thn_n (LW.seq (LW.ent (Ent.lazy (t := 0) (m := 9) rfl rfl rfl) (LW.region (LOps.st rfl rfl rfl (LOp.move rfl rfl) (LOps.st rfl rfl rfl (LOp.assign rfl rfl) (LOps.nil (thn_n (LW.ret ?_)))))))))
      obtain rfl := Option.some.inj hr
      refine fin_ret (.one (.tmp rfl)) ?_
      exact ⟨rfl, rfl⟩
structure F3095_L1 where
  size : Int
  t11 : Int
structure F3095_L2 where
  newslice : Nat
  t27 : Int
  o0 : List Of
def F3095_s1 (slices : List (List Of)) (x1 : F3095_L1) : Option (F3095_L1 ⊕ F3095_L1) :=
  bif decide (x1.t11 < (slices.length : Int)) then
    (ix slices x1.t11).bind fun y1 =>
    bif decide ((IntKind.i64.wrap (x1.size + (y1.length : Int))) < 0) then
      none
    else
      some (.inl (F3095_L1.mk (IntKind.i64.wrap (x1.size + (y1.length : Int))) (IntKind.i64.wrap (x1.t11 + 1))))
  else
    some (.inr (F3095_L1.mk x1.size x1.t11))
def F3095_s2 (slices : List (List Of)) (x2 : F3095_L2) : Option (F3095_L2 ⊕ F3095_L2) :=
  bif decide (x2.t27 < (slices.length : Int)) then
    (ix slices x2.t27).bind fun y2 =>
    bif decide (x2.newslice + y2.length ≤ x2.o0.length) then
      some (.inl (F3095_L2.mk (x2.newslice + y2.length) (IntKind.i64.wrap (x2.t27 + 1)) (putL x2.o0 x2.newslice y2)))
    else none
  else
    some (.inr (F3095_L2.mk x2.newslice x2.t27 x2.o0))
def F3095 (slices : List (List Of)) : Option (List Of) :=
  (iter (F3095_s1 slices) big (F3095_L1.mk 0 0)).bind fun v1 =>
  (FGrow v1.size).bind fun v2 =>
  (iter (F3095_s2 slices) big (F3095_L2.mk 0 0 v2)).bind fun v3 =>
  bif Nat.ble v3.newslice v3.o0.length then
    some (v3.o0.take v3.newslice)
  else none
set_option maxRecDepth 100000 in
theorem c3095 {slices : List (List Of)} {r_ : (List Of)} (hr : F3095 slices = some r_) : LPure Tryz.prog 95 [.slice 1 (slices.map (slP 9 ofP))] [.slice 9 (r_.map ofP)] := by
  refine LPure.start Tryz.func95 rfl rfl rfl rfl ?_
  unfold F3095 at hr
  refine LW.seq (LW.region (LOps.st rfl rfl rfl (LOp.assign rfl rfl) (LOps.nil (thn_n (LW.seq (LW.region (LOps.st rfl rfl rfl (LOp.assign rfl rfl) (LOps.nil (thn_n (LW.seq (LW.seq ?_)))))))))))
  refine LW.region (LOps.st rfl rfl rfl (LOp.move rfl rfl) (LOps.st rfl rfl rfl (LOp.lenM rfl rfl (by kernel_rfl)) (LOps.st rfl rfl rfl (LOp.move rfl rfl) (LOps.nil (thn_n ?_)))))
  obtain ⟨v1, hb_v1, ho_v1⟩ := bind_get hr
  clear hr
  refine LW.tail (E := [(0, .p (.slice 1 (slices.map (slP 9 ofP)))), (2, .zs), (3, .p (.int .i64 v1.size))]) (O := []) ?_ (fun env_v1 H_v1 hw_v1 => ?_)
  · refine LW.block ?_
    refine LW.iterB (E := fun x1 : F3095_L1 => [(0, .p (.slice 1 (slices.map (slP 9 ofP)))), (2, .zs), (3, .p (.int .i64 x1.size)), (9, .p (.slice 1 (slices.map (slP 9 ofP)))), (10, .p (.int .i64 (slices.length : Int))), (11, .p (.int .i64 x1.t11))]) (O := fun x1 => []) hb_v1 (Weak.of 0 ⟨rfl, rfl, rfl, rfl, rfl, rfl, trivial⟩ rfl rfl rfl rfl) (fun x1 z_x1 hr hb_x1 => ?_)
    unfold F3095_s1 at hr
    refine LW.seq (LW.region (LOps.st rfl rfl rfl (LOp.bin rfl rfl rfl rfl) (LOps.nil (thn_n (LW.seq ?_)))))
    refine LW.cond rfl (fun (g1 : (decide (x1.t11 < (slices.length : Int))) = true) => ?_) (fun (g1 : (decide (x1.t11 < (slices.length : Int))) = false) => ?_)
    ·
      have hr := ite_t g1 hr
      refine LW.skip (thn_n (LW.seq (LW.block (LW.seq (LW.region ?_)))))
      obtain ⟨y1, h_y1, hr⟩ := bind_get hr
      refine LOps.st rfl rfl rfl (LOp.indexAddrX rfl rfl rfl st3151 h_y1 rfl) (LOps.st rfl rfl rfl (LOp.loadC rfl rfl rfl vt1036 rfl rfl) (LOps.st rfl rfl rfl (LOp.assign rfl rfl) (LOps.nil (thn_n (LW.seq (LW.region (LOps.st rfl rfl rfl (LOp.move rfl rfl) (LOps.st rfl rfl rfl (LOp.move rfl rfl) (LOps.st rfl rfl rfl (LOp.lenM rfl rfl (by kernel_rfl)) (LOps.st rfl rfl rfl (LOp.bin rfl rfl rfl rfl) (LOps.st rfl rfl rfl (LOp.assign rfl rfl) ?_)))))))))))
      refine LOps.nil (thn_n (LW.seq (LW.region (LOps.st rfl rfl rfl (LOp.move rfl rfl) (LOps.st rfl rfl rfl (LOp.bin rfl rfl rfl rfl) (LOps.nil (thn_n ?_)))))))
      refine LW.cond rfl (fun (g2 : (decide ((IntKind.i64.wrap (x1.size + (y1.length : Int))) < 0)) = true) => ?_) (fun (g2 : (decide ((IntKind.i64.wrap (x1.size + (y1.length : Int))) < 0)) = false) => ?_)
      ·
        have hr := ite_t g2 hr
        cases hr
      ·
        have hr := ite_f g2 hr
        refine LW.skip (inBlk_n (thn_n (LW.region (LOps.st rfl rfl rfl (LOp.bin rfl rfl rfl rfl) (LOps.st rfl rfl rfl (LOp.move rfl rfl) (LOps.nil (thn_n ?_)))))))
        obtain rfl := Option.some.inj hr
        exact ⟨_, rfl, Weak.of 0 ⟨rfl, rfl, rfl, rfl, rfl, rfl, trivial⟩ rfl rfl rfl rfl⟩
    ·
      have hr := ite_f g1 hr
      refine LW.exit (thn_e (thn_e (inBlk_self (thn_n ?_))))
      obtain rfl := Option.some.inj hr
      have hr := congrArg some (hb_x1 _ rfl)
      obtain rfl := Option.some.inj hr
      exact Weak.of 0 ⟨rfl, rfl, rfl, trivial⟩ rfl rfl rfl rfl
  · have hr := ho_v1
    clear hb_v1
    refine thn_n (LW.weak hw_v1 (LW.seq (LW.region (LOps.st rfl rfl rfl (LOp.move rfl rfl) ?_))))
    obtain ⟨v2, h_v2, hr⟩ := bind_get hr
    refine LOps.st rfl rfl rfl (LOp.call rfl rfl rfl (by kernel_rfl) (LC.frameX (x' := .vec 9 0 (v2.map ofP).length 0 0) (H' := [.vec 9 (v2.map ofP)]) (cFGrow h_v2) (.consZ (.consC Conv.p .nil)) rfl rfl rfl)) (LOps.st rfl rfl rfl (LOp.assign rfl rfl) (LOps.nil (thn_n (LW.seq (LW.seq (LW.region (LOps.st rfl rfl rfl (LOp.move rfl rfl) (LOps.st rfl rfl rfl (LOp.lenM rfl rfl (by kernel_rfl)) (LOps.st rfl rfl rfl (LOp.move rfl rfl) (LOps.nil (thn_n ?_)))))))))))
    obtain ⟨v3, hb_v3, ho_v3⟩ := bind_get hr
    clear hr
    refine LW.tail (E := [(2, .zs), (6, .vec 9 0 (v3.o0.map ofP).length 0 v3.newslice)]) (O := [.vec 9 (v3.o0.map ofP)]) ?_ (fun env_v3 H_v3 hw_v3 => ?_)
    · refine LW.block ?_
      refine LW.iterB (E := fun x2 : F3095_L2 => [(2, .zs), (6, .vec 9 0 (x2.o0.map ofP).length 0 x2.newslice), (25, .p (.slice 1 (slices.map (slP 9 ofP)))), (26, .p (.int .i64 (slices.length : Int))), (27, .p (.int .i64 x2.t27))]) (O := fun x2 => [.vec 9 (x2.o0.map ofP)]) hb_v3 (Weak.of 1 ⟨rfl, rfl, rfl, rfl, rfl, trivial⟩ rfl rfl rfl rfl) (fun x2 z_x2 hr hb_x2 => ?_)
      unfold F3095_s2 at hr
      refine LW.seq (LW.region (LOps.st rfl rfl rfl (LOp.bin rfl rfl rfl rfl) (LOps.nil (thn_n (LW.seq ?_)))))
      refine LW.cond rfl (fun (g3 : (decide (x2.t27 < (slices.length : Int))) = true) => ?_) (fun (g3 : (decide (x2.t27 < (slices.length : Int))) = false) => ?_)
      ·
        have hr := ite_t g3 hr
        refine LW.skip (thn_n (LW.seq (LW.block (LW.seq (LW.region ?_)))))
        obtain ⟨y2, h_y2, hr⟩ := bind_get hr
        refine LOps.st rfl rfl rfl (LOp.indexAddrX rfl rfl rfl st3151 h_y2 rfl) (LOps.st rfl rfl rfl (LOp.loadC rfl rfl rfl vt1036 rfl rfl) (LOps.st rfl rfl rfl (LOp.assign rfl rfl) (LOps.nil (thn_n (LW.region (LOps.st rfl rfl rfl (LOp.move rfl rfl) (LOps.st rfl rfl rfl (LOp.move rfl rfl) ?_)))))))
        obtain ⟨q1, hr⟩ := grd_get hr
        refine LOps.st rfl rfl rfl (LOp.appendP (f := ofP) rfl rfl rfl (fun _ => rfl) rfl Src.p rfl st1036 q1 rfl) ?_
        refine LOps.st rfl rfl rfl (LOp.assign rfl rfl) (LOps.nil (inBlk_n (thn_n (LW.region (LOps.st rfl rfl rfl (LOp.bin rfl rfl rfl rfl) (LOps.st rfl rfl rfl (LOp.move rfl rfl) (LOps.nil (thn_n ?_))))))))
        obtain rfl := Option.some.inj hr
        exact ⟨_, rfl, Weak.of 1 ⟨rfl, rfl, rfl, rfl, rfl, trivial⟩ rfl rfl rfl rfl⟩
      ·
        have hr := ite_f g3 hr
        refine LW.exit (thn_e (thn_e (inBlk_self (thn_n ?_))))
        obtain rfl := Option.some.inj hr
        have hr := congrArg some (hb_x2 _ rfl)
        obtain rfl := Option.some.inj hr
        exact Weak.of 1 ⟨rfl, rfl, trivial⟩ rfl rfl rfl rfl
    · have hr := ho_v3
      clear hb_v3
      refine thn_n (LW.weak hw_v3 (LW.seq (LW.region ?_)))
      obtain ⟨q2, hr⟩ := grd_get hr
      refine LOps.st rfl rfl rfl (LOp.move rfl rfl) (LOps.st rfl rfl rfl (LOp.assign rfl rfl) (LOps.nil (thn_n (LW.ret ?_))))
      obtain rfl := Option.some.inj hr
      refine finP_ret (.one (.tmp rfl)) ?_
      exact (Conv.vecTake rfl q2)
open Go.Proofs
def F1059 (x : Int) (y : Int) : Option (Int × Int) :=
  some (IntKind.u64.wrap ((IntKind.u64.wrap ((IntKind.u64.wrap ((x.fdiv (2 ^ (min (Int.toNat 32) IntKind.u64.bits))) * (y.fdiv (2 ^ (min (Int.toNat 32) IntKind.u64.bits))))) + ((IntKind.u64.wrap ((IntKind.u64.wrap ((x.fdiv (2 ^ (min (Int.toNat 32) IntKind.u64.bits))) * (bits .and .u64 y 4294967295))) + ((IntKind.u64.wrap ((bits .and .u64 x 4294967295) * (bits .and .u64 y 4294967295))).fdiv (2 ^ (min (Int.toNat 32) IntKind.u64.bits))))).fdiv (2 ^ (min (Int.toNat 32) IntKind.u64.bits))))) + ((IntKind.u64.wrap ((bits .and .u64 (IntKind.u64.wrap ((IntKind.u64.wrap ((x.fdiv (2 ^ (min (Int.toNat 32) IntKind.u64.bits))) * (bits .and .u64 y 4294967295))) + ((IntKind.u64.wrap ((bits .and .u64 x 4294967295) * (bits .and .u64 y 4294967295))).fdiv (2 ^ (min (Int.toNat 32) IntKind.u64.bits))))) 4294967295) + (IntKind.u64.wrap ((bits .and .u64 x 4294967295) * (y.fdiv (2 ^ (min (Int.toNat 32) IntKind.u64.bits))))))).fdiv (2 ^ (min (Int.toNat 32) IntKind.u64.bits)))), IntKind.u64.wrap (x * y))
set_option maxRecDepth 100000 in
theorem c1059 {x : Int} {y : Int} {r_ : Int × Int} (hr : F1059 x y = some r_) : LPure Tryz.prog 213 [.int .u64 x, .int .u64 y] [.int .u64 r_.1, .int .u64 r_.2] := by
  refine LPure.start Tryz.func213 rfl rfl rfl rfl ?_
  unfold F1059 at hr
  refine LW.seq (LW.region (LOps.st rfl rfl rfl (LOp.assign rfl rfl) (LOps.st rfl rfl rfl (LOp.assign rfl rfl) (LOps.nil (thn_n (LW.seq (LW.region (LOps.st rfl rfl rfl (LOp.move rfl rfl) (LOps.st rfl rfl rfl (LOp.bin rfl rfl rfl rfl) (LOps.st rfl rfl rfl (LOp.assign rfl rfl) (LOps.nil ?_)))))))))))
  refine thn_n (LW.seq (LW.region (LOps.st rfl rfl rfl (LOp.move rfl rfl) (LOps.st rfl rfl rfl (LOp.shr rfl rfl rfl (by decide)) (LOps.st rfl rfl rfl (LOp.assign rfl rfl) (LOps.nil (thn_n (LW.seq (LW.region (LOps.st rfl rfl rfl (LOp.move rfl rfl) (LOps.st rfl rfl rfl (LOp.bin rfl rfl rfl rfl) ?_)))))))))))
  refine LOps.st rfl rfl rfl (LOp.assign rfl rfl) (LOps.nil (thn_n (LW.seq (LW.region (LOps.st rfl rfl rfl (LOp.move rfl rfl) (LOps.st rfl rfl rfl (LOp.shr rfl rfl rfl (by decide)) (LOps.st rfl rfl rfl (LOp.assign rfl rfl) (LOps.nil (thn_n (LW.seq (LW.region ?_)))))))))))
  refine LOps.st rfl rfl rfl (LOp.move rfl rfl) (LOps.st rfl rfl rfl (LOp.move rfl rfl) (LOps.st rfl rfl rfl (LOp.bin rfl rfl rfl rfl) (LOps.st rfl rfl rfl (LOp.assign rfl rfl) (LOps.nil (thn_n (LW.seq (LW.region (LOps.st rfl rfl rfl (LOp.move rfl rfl) (LOps.st rfl rfl rfl (LOp.move rfl rfl) (LOps.st rfl rfl rfl (LOp.bin rfl rfl rfl rfl) (LOps.st rfl rfl rfl (LOp.move rfl rfl) ?_)))))))))))
  refine LOps.st rfl rfl rfl (LOp.shr rfl rfl rfl (by decide)) (LOps.st rfl rfl rfl (LOp.bin rfl rfl rfl rfl) (LOps.st rfl rfl rfl (LOp.assign rfl rfl) (LOps.nil (thn_n (LW.seq (LW.region (LOps.st rfl rfl rfl (LOp.move rfl rfl) (LOps.st rfl rfl rfl (LOp.bin rfl rfl rfl rfl) (LOps.st rfl rfl rfl (LOp.assign rfl rfl) (LOps.nil (thn_n ?_)))))))))))
  refine LW.seq (LW.region (LOps.st rfl rfl rfl (LOp.move rfl rfl) (LOps.st rfl rfl rfl (LOp.shr rfl rfl rfl (by decide)) (LOps.st rfl rfl rfl (LOp.assign rfl rfl) (LOps.nil (thn_n (LW.seq (LW.region (LOps.st rfl rfl rfl (LOp.move rfl rfl) (LOps.st rfl rfl rfl (LOp.move rfl rfl) (LOps.st rfl rfl rfl (LOp.move rfl rfl) ?_)))))))))))
  refine LOps.st rfl rfl rfl (LOp.bin rfl rfl rfl rfl) (LOps.st rfl rfl rfl (LOp.bin rfl rfl rfl rfl) (LOps.st rfl rfl rfl (LOp.assign rfl rfl) (LOps.nil (thn_n (LW.seq (LW.region (LOps.st rfl rfl rfl (LOp.move rfl rfl) (LOps.st rfl rfl rfl (LOp.move rfl rfl) (LOps.st rfl rfl rfl (LOp.bin rfl rfl rfl rfl) (LOps.st rfl rfl rfl (LOp.move rfl rfl) (LOps.st rfl rfl rfl (LOp.bin rfl rfl rfl rfl) ?_)))))))))))
  refine LOps.st rfl rfl rfl (LOp.move rfl rfl) (LOps.st rfl rfl rfl (LOp.shr rfl rfl rfl (by decide)) (LOps.st rfl rfl rfl (LOp.bin rfl rfl rfl rfl) (LOps.st rfl rfl rfl (LOp.assign rfl rfl) (LOps.nil (thn_n (LW.seq (LW.region (LOps.st rfl rfl rfl (LOp.move rfl rfl) (LOps.st rfl rfl rfl (LOp.move rfl rfl) (LOps.st rfl rfl rfl (LOp.bin rfl rfl rfl rfl) (LOps.st rfl rfl rfl (LOp.assign rfl rfl) ?_)))))))))))
  refine LOps.nil (thn_n (LW.ret ?_))
  obtain rfl := Option.some.inj hr
  refine finP_ret (.two (.tmp rfl) (.tmp rfl)) ?_
  exact ⟨_, rfl, (.cons Conv.p (.cons Conv.p .nil))⟩
def F1043 (a : Int) (b : Int) : Option ID :=
  (F1059 (IntKind.u64.wrap (a)) (IntKind.u64.wrap (b))).bind fun v1 =>
  some v1
set_option maxRecDepth 100000 in
theorem c1043 {a : Int} {b : Int} {r_ : ID} (hr : F1043 a b = some r_) : LPure Tryz.prog 192 [.int .i64 a, .int .i64 b] [idP r_] := by
  refine LPure.start Tryz.func192 rfl rfl rfl rfl ?_
  unfold F1043 at hr
  refine LW.seq (LW.region (LOps.st rfl rfl rfl (LOp.alloc rfl zt1108 rfl rfl) (LOps.nil (thn_n (LW.seq (LW.region (LOps.st rfl rfl rfl (LOp.move rfl rfl) (LOps.st rfl rfl rfl (LOp.convert (k' := .u64) rfl rfl (by kernel_rfl)) (LOps.st rfl rfl rfl (LOp.move rfl rfl) (LOps.st rfl rfl rfl (LOp.convert (k' := .u64) rfl rfl (by kernel_rfl)) ?_))))))))))
  obtain ⟨v1, h_v1, hr⟩ := bind_get hr
  refine LOps.st rfl rfl rfl (LOp.call rfl rfl rfl (by kernel_rfl) (LC.pure (c1059 h_v1) (.cons Conv.p (.cons Conv.p .nil)))) (LOps.st rfl rfl rfl (LOp.move rfl rfl) (LOps.st rfl rfl rfl (LOp.extract rfl rfl rfl) (LOps.st rfl rfl rfl (LOp.extract rfl rfl rfl) (LOps.st rfl rfl rfl (LOp.assign rfl rfl) (LOps.st rfl rfl rfl (LOp.assign rfl rfl) (LOps.nil (thn_n (LW.seq (LW.region (LOps.st rfl rfl rfl (LOp.move rfl rfl) (LOps.st rfl rfl rfl (LOp.move rfl rfl) ?_)))))))))))
  refine LOps.st rfl rfl rfl (LOp.build rfl bt1108 rfl rfl rfl) (LOps.st rfl rfl rfl (LOp.store rfl rfl rfl rfl vt1108 rfl rfl rfl rfl) (LOps.nil (thn_n (LW.ret ?_))))
  obtain rfl := Option.some.inj hr
  refine finP_ret (.one (.cellAgg rfl rfl (by kernel_rfl) rfl)) ?_
  exact Conv.p
def F1058 (n : Int) : Option Bool :=
  bif decide (n ≥ 0) then
    some (decide (n ≤ 4611686018427387904))
  else
    some false
set_option maxRecDepth 100000 in
theorem c1058 {n : Int} {r_ : Bool} (hr : F1058 n = some r_) : LPure Tryz.prog 212 [.int .i64 n] [.bool r_] := by
  refine LPure.start Tryz.func212 rfl rfl rfl rfl ?_
  unfold F1058 at hr
  refine LW.seq (LW.region (LOps.st rfl rfl rfl (LOp.assign rfl rfl) (LOps.nil (thn_n (LW.seq (LW.region (LOps.st rfl rfl rfl (LOp.move rfl rfl) (LOps.st rfl rfl rfl (LOp.bin rfl rfl rfl rfl) (LOps.st rfl rfl rfl (LOp.move rfl rfl) ?_)))))))))
  refine LOps.cases 5 rfl (fun (g1 : (decide (n ≥ 0)) = true) => ?_) (fun (g1 : (decide (n ≥ 0)) = false) => ?_)
  ·
    have hr := ite_t g1 hr
    refine LOps.gd rfl rfl rfl (gd g1 rfl) rfl (LOp.move rfl rfl) (LOps.gd rfl rfl rfl (gd g1 rfl) rfl (LOp.bin rfl rfl rfl rfl) (LOps.st rfl rfl rfl (LOp.pickT rfl (gdl g1 rfl) rfl) (LOps.st rfl rfl rfl (LOp.assign rfl rfl) (LOps.nil (thn_n (LW.ret ?_))))))
    obtain rfl := Option.some.inj hr
    refine finP_ret (.one (.tmp rfl)) ?_
    exact Conv.p
  ·
    have hr := ite_f g1 hr
    refine LOps.sk rfl rfl rfl (gd g1 rfl) rfl rfl (LOps.sk rfl rfl rfl (gd g1 rfl) rfl rfl (LOps.st rfl rfl rfl (LOp.pickF rfl (gdl g1 rfl) rfl) (LOps.st rfl rfl rfl (LOp.assign rfl rfl) (LOps.nil (thn_n (LW.ret ?_))))))
    obtain rfl := Option.some.inj hr
    refine finP_ret (.one (.tmp rfl)) ?_
    exact Conv.p
def F1057 (n : Int) : Option Bool :=
  (F1058 n).bind fun v1 =>
  some (!v1)
set_option maxRecDepth 100000 in
theorem c1057 {n : Int} {r_ : Bool} (hr : F1057 n = some r_) : LPure Tryz.prog 211 [.int .i64 n] [.bool r_] := by
  refine LPure.start Tryz.func211 rfl rfl rfl rfl ?_
  unfold F1057 at hr
  refine LW.seq (LW.region (LOps.st rfl rfl rfl (LOp.assign rfl rfl) (LOps.nil (thn_n (LW.seq (LW.region (LOps.st rfl rfl rfl (LOp.move rfl rfl) ?_)))))))
  obtain ⟨v1, h_v1, hr⟩ := bind_get hr
  refine LOps.st rfl rfl rfl (LOp.call rfl rfl rfl (by kernel_rfl) (LC.pure (c1058 h_v1) (.cons Conv.p .nil))) (LOps.st rfl rfl rfl (LOp.not rfl rfl) (LOps.st rfl rfl rfl (LOp.assign rfl rfl) (LOps.nil (thn_n (LW.ret ?_)))))
  obtain rfl := Option.some.inj hr
  refine finP_ret (.one (.tmp rfl)) ?_
  exact Conv.p
structure FIxf_L1 where
  t8 : Int
def FIxf_s1 (s : List Int) (x1 : FIxf_L1) : Option (FIxf_L1 ⊕ (FIxf_L1 ⊕ Int)) :=
  bif decide (x1.t8 < (s.length : Int)) then
    (ix s x1.t8).bind fun y1 =>
    (F1057 y1).bind fun v2 =>
    bif v2 then
      some (.inr (.inr x1.t8))
    else
      some (.inl (FIxf_L1.mk (IntKind.i64.wrap (x1.t8 + 1))))
  else
    some (.inr (.inl (FIxf_L1.mk x1.t8)))
def FIxf (s : List Int) : Option Int :=
  (iter (FIxf_s1 s) big (FIxf_L1.mk 0)).bind fun b_v1 => Sum.elim (fun _ =>
    some (-1)) some b_v1
set_option maxRecDepth 100000 in
theorem cFIxf {s : List Int} {r_ : Int} (hr : FIxf s = some r_) : LC Tryz.prog 221 [.p (.slice 1 (s.map i64P)), .fn 211 [] []] [] (Is (.p (.int .i64 r_)) []) := by
  refine LC.start Tryz.func221 rfl rfl rfl ?_
  unfold FIxf at hr
  refine LW.seq (LW.region (LOps.st rfl rfl rfl (LOp.assign rfl rfl) (LOps.nil (thn_n (LW.seq (LW.seq (LW.region (LOps.st rfl rfl rfl (LOp.move rfl rfl) (LOps.st rfl rfl rfl (LOp.lenM rfl rfl (by kernel_rfl)) (LOps.st rfl rfl rfl (LOp.move rfl rfl) (LOps.nil ?_)))))))))))
  refine thn_n ?_
  obtain ⟨b_v1, hb_v1, ho_v1⟩ := bind_get hr
  clear hr
  refine LW.tailB (b := b_v1) (E := fun v1 => [(4, .p (.int .i64 0))]) (O := fun v1 => []) ?_ (fun v1 e_v1 env_v1 H_v1 hw_v1 => ?_)
  · refine LW.block ?_
    refine LW.iterB (E := fun x1 : FIxf_L1 => [(0, .p (.slice 1 (s.map i64P))), (1, .fn 211 [] []), (4, .p (.int .i64 0)), (7, .p (.int .i64 (s.length : Int))), (8, .p (.int .i64 x1.t8))]) (O := fun x1 => []) hb_v1 (Weak.of 0 ⟨rfl, rfl, rfl, rfl, rfl, trivial⟩ rfl rfl rfl rfl) (fun x1 z_x1 hr hb_x1 => ?_)
    unfold FIxf_s1 at hr
    refine LW.seq (LW.region (LOps.st rfl rfl rfl (LOp.bin rfl rfl rfl rfl) (LOps.nil (thn_n (LW.seq ?_)))))
    refine LW.cond rfl (fun (g1 : (decide (x1.t8 < (s.length : Int))) = true) => ?_) (fun (g1 : (decide (x1.t8 < (s.length : Int))) = false) => ?_)
    ·
      have hr := ite_t g1 hr
      refine LW.skip (thn_n (LW.seq (LW.block (LW.seq (LW.region (LOps.st rfl rfl rfl (LOp.move rfl rfl) (LOps.st rfl rfl rfl (LOp.assign rfl rfl) (LOps.nil (thn_n (LW.seq (LW.region ?_)))))))))))
      refine LOps.st rfl rfl rfl (LOp.move rfl rfl) (LOps.st rfl rfl rfl (LOp.move rfl rfl) (LOps.st rfl rfl rfl (LOp.move rfl rfl) ?_))
      obtain ⟨y1, h_y1, hr⟩ := bind_get hr
      refine LOps.st rfl rfl rfl (LOp.indexAddrX rfl rfl rfl st49 h_y1 rfl) (LOps.st rfl rfl rfl (LOp.loadC rfl rfl rfl vt3 rfl rfl) ?_)
      obtain ⟨v2, h_v2, hr⟩ := bind_get hr
      refine LOps.st rfl rfl rfl (LOp.call rfl rfl rfl (by kernel_rfl) (LC.pure (c1057 h_v2) (.cons Conv.p .nil))) (LOps.nil (thn_n ?_))
      refine LW.cond rfl (fun (g2 : v2 = true) => ?_) (fun (g2 : v2 = false) => ?_)
      ·
        have hr := ite_t g2 hr
        refine LW.seq (LW.region (LOps.st rfl rfl rfl (LOp.move rfl rfl) (LOps.st rfl rfl rfl (LOp.assign rfl rfl) (LOps.nil (thn_n (LW.ret (inBlk_r (thn_r (thn_r (inBlk_r (thn_r ?_)))))))))))
        refine thn_r ?_
        obtain rfl := Option.some.inj hr
        have hr := congrArg some (hb_x1 _ rfl)
        obtain rfl := Option.some.inj hr
        have hr := sum_r ho_v1
        obtain rfl := Option.some.inj hr
        refine fin_ret (.one (.tmp rfl)) ?_
        exact ⟨rfl, rfl⟩
      ·
        have hr := ite_f g2 hr
        refine LW.skip (inBlk_n (thn_n (LW.region (LOps.st rfl rfl rfl (LOp.bin rfl rfl rfl rfl) (LOps.st rfl rfl rfl (LOp.move rfl rfl) (LOps.nil (thn_n ?_)))))))
        obtain rfl := Option.some.inj hr
        exact ⟨_, rfl, Weak.of 0 ⟨rfl, rfl, rfl, rfl, rfl, trivial⟩ rfl rfl rfl rfl⟩
    ·
      have hr := ite_f g1 hr
      refine LW.exit (thn_e (thn_e (inBlk_self (thn_n ?_))))
      obtain rfl := Option.some.inj hr
      have hr := congrArg some (hb_x1 _ rfl)
      obtain rfl := Option.some.inj hr
      exact ⟨_, rfl, Weak.of 0 ⟨rfl, trivial⟩ rfl rfl rfl rfl⟩
  · obtain rfl := e_v1
    have hr := sum_l ho_v1
    clear hb_v1
    refine thn_n (LW.weak hw_v1 (LW.seq (LW.region (LOps.st rfl rfl rfl (LOp.assign rfl rfl) (LOps.nil (thn_n (LW.ret ?_)))))))
    obtain rfl := Option.some.inj hr
    refine fin_ret (.one (.tmp rfl)) ?_
    exact ⟨rfl, rfl⟩
def FCf (s : List Int) : Option Bool :=
  (FIxf s).bind fun v1 =>
  some (decide (v1 ≥ 0))
set_option maxRecDepth 100000 in
theorem cFCf {s : List Int} {r_ : Bool} (hr : FCf s = some r_) : LC Tryz.prog 210 [.p (.slice 1 (s.map i64P)), .fn 211 [] []] [] (Is (.p (.bool r_)) []) := by
  refine LC.start Tryz.func210 rfl rfl rfl ?_
  unfold FCf at hr
  refine LW.seq (LW.region (LOps.st rfl rfl rfl (LOp.assign rfl rfl) (LOps.nil (thn_n (LW.seq (LW.region (LOps.st rfl rfl rfl (LOp.move rfl rfl) (LOps.st rfl rfl rfl (LOp.move rfl rfl) ?_))))))))
  obtain ⟨v1, h_v1, hr⟩ := bind_get hr
  refine LOps.st rfl rfl rfl (LOp.call rfl rfl rfl (by kernel_rfl) (cFIxf h_v1)) (LOps.st rfl rfl rfl (LOp.bin rfl rfl rfl rfl) (LOps.st rfl rfl rfl (LOp.assign rfl rfl) (LOps.nil (thn_n (LW.ret ?_)))))
  obtain rfl := Option.some.inj hr
  refine fin_ret (.one (.tmp rfl)) ?_
  exact ⟨rfl, rfl⟩
def F1042 (l : List Int) : Option Bool :=
  (FCf l).bind fun v1 =>
  some (!v1)
set_option maxRecDepth 100000 in
theorem c1042 {l : List Int} {r_ : Bool} (hr : F1042 l = some r_) : LPure Tryz.prog 191 [.slice 1 (l.map i64P)] [.bool r_] := by
  refine LPure.start Tryz.func191 rfl rfl rfl rfl ?_
  unfold F1042 at hr
  refine LW.seq (LW.region (LOps.st rfl rfl rfl (LOp.assign rfl rfl) (LOps.nil (thn_n (LW.seq (LW.region (LOps.st rfl rfl rfl (LOp.move rfl rfl) ?_)))))))
  obtain ⟨v1, h_v1, hr⟩ := bind_get hr
  refine LOps.st rfl rfl rfl (LOp.call rfl rfl rfl (by kernel_rfl) (cFCf h_v1)) (LOps.st rfl rfl rfl (LOp.not rfl rfl) (LOps.st rfl rfl rfl (LOp.assign rfl rfl) (LOps.nil (thn_n (LW.ret ?_)))))
  obtain rfl := Option.some.inj hr
  refine finP_ret (.one (.tmp rfl)) ?_
  exact Conv.p
def F1026 (a : Int) (b : Int) (c : Int) (d : Int) : Option Bool :=
  (F1042 [a, b, c, d]).bind fun v1 =>
  bif !v1 then
    some false
  else
    (F1043 a b).bind fun v2 =>
    (F1043 c d).bind fun v3 =>
    bif !((v2.1 == v3.1) && ((v2.2 == v3.2) && true)) then
      (F151 [v2.1, v2.2] [v3.1, v3.2]).bind fun v4 =>
      some (decide (v4 > 0))
    else
      some false
set_option maxRecDepth 100000 in
theorem c1026 {a : Int} {b : Int} {c : Int} {d : Int} {r_ : Bool} (hr : F1026 a b c d = some r_) : LPure Tryz.prog 160 [.int .i64 a, .int .i64 b, .int .i64 c, .int .i64 d] [.bool r_] := by
  refine LPure.start Tryz.func160 rfl rfl rfl rfl ?_
  unfold F1026 at hr
  refine LW.seq (LW.region (LOps.st rfl rfl rfl (LOp.assign rfl rfl) (LOps.nil (thn_n (LW.seq (LW.seq (LW.region (LOps.st rfl rfl rfl (LOp.move rfl rfl) (LOps.st rfl rfl rfl (LOp.move rfl rfl) (LOps.st rfl rfl rfl (LOp.move rfl rfl) (LOps.st rfl rfl rfl (LOp.move rfl rfl) ?_)))))))))))
  refine LOps.st rfl rfl rfl (LOp.buildSlice rfl st49 rfl rfl rfl rfl rfl) ?_
  obtain ⟨v1, h_v1, hr⟩ := bind_get hr
  refine LOps.st rfl rfl rfl (LOp.call rfl rfl rfl (by kernel_rfl) (LC.pure (c1042 h_v1) (.cons Conv.p .nil))) (LOps.st rfl rfl rfl (LOp.not rfl rfl) (LOps.nil (thn_n ?_)))
  refine LW.cond rfl (fun (g1 : (!v1) = true) => ?_) (fun (g1 : (!v1) = false) => ?_)
  ·
    have hr := ite_t g1 hr
    refine LW.seq (LW.region (LOps.st rfl rfl rfl (LOp.assign rfl rfl) (LOps.nil (thn_n (LW.ret (thn_r ?_))))))
    obtain rfl := Option.some.inj hr
    refine finP_ret (.one (.tmp rfl)) ?_
    exact Conv.p
  ·
    have hr := ite_f g1 hr
    refine LW.skip (thn_n (LW.seq (LW.region (LOps.st rfl rfl rfl (LOp.move rfl rfl) (LOps.st rfl rfl rfl (LOp.move rfl rfl) ?_)))))
    obtain ⟨v2, h_v2, hr⟩ := bind_get hr
    refine LOps.st rfl rfl rfl (LOp.call rfl rfl rfl (by kernel_rfl) (LC.pure (c1043 h_v2) (.cons Conv.p (.cons Conv.p .nil)))) (LOps.st rfl rfl rfl (LOp.move rfl rfl) (LOps.st rfl rfl rfl (LOp.move rfl rfl) ?_))
    obtain ⟨v3, h_v3, hr⟩ := bind_get hr
    refine LOps.st rfl rfl rfl (LOp.call rfl rfl rfl (by kernel_rfl) (LC.pure (c1043 h_v3) (.cons Conv.p (.cons Conv.p .nil)))) (LOps.st rfl rfl rfl (LOp.alloc rfl zt1108 rfl rfl) (LOps.st rfl rfl rfl (LOp.alloc rfl zt1108 rfl rfl) (LOps.st rfl rfl rfl (LOp.store rfl rfl rfl rfl vt1108 rfl rfl rfl rfl) (LOps.st rfl rfl rfl (LOp.store rfl rfl rfl rfl vt1108 rfl rfl rfl rfl) (LOps.nil (thn_n (LW.seq (LW.draw (by kernel_rfl) (by kernel_rfl) (LO.st rfl rfl rfl (LOp.load rfl rfl rfl vt1108 rfl rfl) (LO.st rfl rfl rfl (LOp.load rfl rfl rfl vt1108 rfl rfl) (LO.st rfl rfl rfl (LOp.neqAgg rfl rfl rfl rfl rfl eqt1108) ?_)))))))))))
    refine LO.st rfl rfl rfl (LOp.move rfl rfl) ?_
    refine LO.cases 27 rfl (fun (g2 : (!((v2.1 == v3.1) && ((v2.2 == v3.2) && true))) = true) => ?_) (fun (g2 : (!((v2.1 == v3.1) && ((v2.2 == v3.2) && true))) = false) => ?_)
    ·
      have hr := ite_t g2 hr
      refine LO.gd rfl rfl rfl (gd g2 rfl) rfl (LOp.sliceBox rfl rfl at1108 rfl rfl rfl) (LO.gd rfl rfl rfl (gd g2 rfl) rfl (LOp.sliceBox rfl rfl at1108 rfl rfl rfl) ?_)
      obtain ⟨v4, h_v4, hr⟩ := bind_get hr
      refine LO.gd rfl rfl rfl (gd g2 rfl) rfl (LOp.call rfl rfl rfl (by kernel_rfl) (LC.lend (c151 h_v4) (.cons (Conv.boxSlice rfl rfl rfl rfl) (.cons (Conv.boxSlice rfl rfl rfl rfl) .nil)) rfl)) (LO.gd rfl rfl rfl (gd g2 rfl) rfl (LOp.bin rfl rfl rfl rfl) (LO.st rfl rfl rfl (LOp.pickT rfl (gdl g2 rfl) rfl) (LO.st rfl rfl rfl (LOp.assign rfl rfl) (LO.nil (thn_n (LW.ret ?_))))))
      obtain rfl := Option.some.inj hr
      refine finP_ret (.one (.tmp rfl)) ?_
      exact Conv.p
    ·
      have hr := ite_f g2 hr
      refine LO.sk rfl rfl rfl (gd g2 rfl) rfl rfl (LO.sk rfl rfl rfl (gd g2 rfl) rfl rfl (LO.sk rfl rfl rfl (gd g2 rfl) rfl rfl (LO.sk rfl rfl rfl (gd g2 rfl) rfl rfl (LO.st rfl rfl rfl (LOp.pickF rfl (gdl g2 rfl) rfl) (LO.st rfl rfl rfl (LOp.assign rfl rfl) (LO.nil (thn_n (LW.ret ?_))))))))
      obtain rfl := Option.some.inj hr
      refine finP_ret (.one (.tmp rfl)) ?_
      exact Conv.p
open Go.Proofs
def FQof (c : Cf) (w : Vw) (slot : Int) : Option (List Vt × Int) :=
  (F1064 c w.V slot).bind fun v1 =>
  (F65 c slot).bind fun v2 =>
  (F70 c v2).bind fun v3 =>
  some (v1, v3)
set_option maxRecDepth 100000 in
theorem cFQof {c : Cf} {w : Vw} {slot : Int} {r_ : List Vt × Int} (hr : FQof c w slot = some r_) : LC Tryz.prog 127 [.p (cfP c), .p (vwP w), .p (.int .i64 slot)] [] (Is (.agg [.fn 157 [] [.ptr 0 0, .ptr 1 0, .ptr 3 0], .fn 159 [] [.ptr 0 0, .ptr 4 0]]) [.box [.p (.slice 1 (c.W.map i64P)), .p (.int .u64 c.Seed), .p (.int .i64 c.Epoch), .p (.int .i64 c.Num), .p (.int .i64 c.Den)], .box [.p (.slice 5 (w.B.map blkP)), .p (.slice 4 (w.V.map vtP))], .box [.fn 157 [] [.ptr 0 0, .ptr 1 0, .ptr 3 0], .fn 159 [] [.ptr 0 0, .ptr 4 0]], .box [.p (.slice 4 (r_.1.map vtP))], .box [.p (.int .i64 r_.2)]]) := by
  refine LC.start Tryz.func127 rfl rfl rfl ?_
  unfold FQof at hr
  refine LW.seq (LW.region (LOps.st rfl rfl rfl (LOp.box rfl rfl rfl rfl rfl) (LOps.st rfl rfl rfl (LOp.box rfl rfl rfl rfl rfl) (LOps.st rfl rfl rfl (LOp.alloc rfl zt3157 rfl rfl) (LOps.nil (thn_n (LW.seq (LW.ent (Ent.slot rfl) (LW.ent (Ent.slot rfl) (LW.drawW (by kernel_rfl) (by kernel_rfl) (LF.st rfl rfl rfl (LAt.load rfl rfl rfl vt55 rfl rfl) rfl ?_)))))))))))
  refine LF.st (F := []) (s := none) rfl rfl rfl (fun H _ => LOp.fieldAddr rfl rfl ft75_1) rfl ?_
  refine LF.st rfl rfl rfl (LAt.load rfl rfl rfl vt68 rfl rfl) rfl ?_
  refine LF.st (F := []) (s := none) rfl rfl rfl (fun H _ => LOp.move rfl rfl) rfl ?_
  obtain ⟨v1, h_v1, hr⟩ := bind_get hr
  refine LF.st (F := []) (s := none) rfl rfl rfl (fun H _ => LOp.call rfl rfl rfl (by kernel_rfl) (LC.pure (c1064 h_v1) (.cons Conv.p (.cons Conv.p (.cons Conv.p .nil))))) rfl ?_
  refine LF.st rfl rfl rfl (LAt.load rfl rfl rfl vt55 rfl rfl) rfl (LF.st rfl rfl rfl (LAt.load rfl rfl rfl vt55 rfl rfl) rfl ?_)
  refine LF.st (F := []) (s := none) rfl rfl rfl (fun H _ => LOp.move rfl rfl) rfl ?_
  obtain ⟨v2, h_v2, hr⟩ := bind_get hr
  refine LF.st (F := []) (s := none) rfl rfl rfl (fun H _ => LOp.call rfl rfl rfl (by kernel_rfl) (LC.pure (c65 h_v2) (.cons Conv.p (.cons Conv.p .nil)))) rfl ?_
  obtain ⟨v3, h_v3, hr⟩ := bind_get hr
  refine LF.st (F := []) (s := none) rfl rfl rfl (fun H _ => LOp.call rfl rfl rfl (by kernel_rfl) (LC.pure (c70 h_v3) (.cons Conv.p (.cons Conv.p .nil)))) rfl ?_
  refine LF.st rfl rfl rfl (LAt.alloc rfl zt68 (id := 3) rfl) rfl (LF.st rfl rfl rfl (LAt.alloc rfl zt3 (id := 4) rfl) rfl (LF.st rfl rfl rfl (LAt.store rfl rfl rfl rfl vt68 rfl rfl rfl) rfl (LF.st rfl rfl rfl (LAt.store rfl rfl rfl rfl vt3 rfl rfl rfl) rfl ?_)))
  refine LF.nil ⟨by kernel_rfl, ?_⟩
  refine thn_n (LW.seq (LW.region (LOps.st rfl rfl rfl (LOp.makeFunc rfl rfl rfl) (LOps.st rfl rfl rfl (LOp.makeFunc rfl rfl rfl) (LOps.st rfl rfl rfl (LOp.build rfl bt3157 rfl rfl rfl) (LOps.st rfl rfl rfl (LOp.store rfl rfl rfl rfl vt3157 rfl rfl rfl rfl) (LOps.nil (thn_n (LW.ret ?_)))))))))
  obtain rfl := Option.some.inj hr
  refine fin_ret (.one (.cellAgg rfl rfl (by kernel_rfl) rfl)) ?_
  exact ⟨rfl, rfl⟩
theorem fFQof {c : Cf} {w : Vw} {slot : Int} {r_ : List Vt × Int} (hr : FQof c w slot = some r_) : LFree Tryz.prog 127 [cfP c, vwP w, .int .i64 slot] (.agg [.fn 157 [] [.cptr [.slice 1 (c.W.map i64P), .int .u64 c.Seed, .int .i64 c.Epoch, .int .i64 c.Num, .int .i64 c.Den], .cptr [.slice 5 (w.B.map blkP), .slice 4 (w.V.map vtP)], .cptr [.slice 4 (r_.1.map vtP)]], .fn 159 [] [.cptr [.slice 1 (c.W.map i64P), .int .u64 c.Seed, .int .i64 c.Epoch, .int .i64 c.Num, .int .i64 c.Den], .cptr [.int .i64 r_.2]]]) :=
  LFree.ofLC rfl (cFQof hr) (FreeTo.agg ⟨FreeTo.fn trivial ⟨FreeTo.ptr rfl rfl rfl, FreeTo.ptr rfl rfl rfl, FreeTo.ptr rfl rfl rfl, trivial⟩, FreeTo.fn trivial ⟨FreeTo.ptr rfl rfl rfl, FreeTo.ptr rfl rfl rfl, trivial⟩, trivial⟩)
def FQon (id : ID) (c : Cf) (w : Vw) (v : List Vt) : Option Int :=
  (F121 c w.B v id).bind fun v1 =>
  some v1
set_option maxRecDepth 100000 in
theorem cFQon {id : ID} {c : Cf} {w : Vw} {v : List Vt} {r_ : Int} (hr : FQon id c w v = some r_) : LC Tryz.prog 157 [.p (idP id), .cptr [.slice 1 (c.W.map i64P), .int .u64 c.Seed, .int .i64 c.Epoch, .int .i64 c.Num, .int .i64 c.Den], .cptr [.slice 5 (w.B.map blkP), .slice 4 (w.V.map vtP)], .cptr [.slice 4 (v.map vtP)]] [] (Is (.p (.int .i64 r_)) []) := by
  refine LC.start Tryz.func157 rfl rfl rfl ?_
  unfold FQon at hr
  refine LW.seq (LW.region (LOps.st rfl rfl rfl (LOp.box rfl rfl rfl rfl rfl) (LOps.st rfl rfl rfl (LOp.assign rfl rfl) (LOps.nil (thn_n (LW.seq (LW.region (LOps.st rfl rfl rfl (LOp.loadC rfl rfl rfl vt55 rfl rfl) (LOps.st rfl rfl rfl (LOp.fieldAddrC rfl rfl ft75_0 rfl) (LOps.st rfl rfl rfl (LOp.loadC rfl rfl rfl vt27 rfl rfl) (LOps.st rfl rfl rfl (LOp.loadC rfl rfl rfl vt68 rfl rfl) ?_)))))))))))
  refine LOps.st rfl rfl rfl (LOp.load rfl rfl rfl vt24 rfl rfl) ?_
  obtain ⟨v1, h_v1, hr⟩ := bind_get hr
  refine LOps.st rfl rfl rfl (LOp.call rfl rfl rfl (by kernel_rfl) (LC.pure (c121 h_v1) (.cons Conv.p (.cons Conv.p (.cons Conv.p (.cons Conv.p .nil)))))) (LOps.st rfl rfl rfl (LOp.assign rfl rfl) (LOps.nil (thn_n (LW.ret ?_))))
  obtain rfl := Option.some.inj hr
  refine fin_retW (env' := [(5, .p (.int .i64 v1))]) (H' := []) (Weak.of 0 ⟨rfl, trivial⟩ rfl rfl rfl rfl) (.one (.tmp rfl)) ?_
  exact ⟨rfl, rfl⟩
def FQsure (n : Int) (c : Cf) (al : Int) : Option Bool :=
  (F1026 (IntKind.i64.wrap (2 * n)) c.Den al (IntKind.i64.wrap (c.Den + (IntKind.i64.wrap (2 * c.Num))))).bind fun v1 =>
  some v1
set_option maxRecDepth 100000 in
theorem cFQsure {n : Int} {c : Cf} {al : Int} {r_ : Bool} (hr : FQsure n c al = some r_) : LC Tryz.prog 159 [.p (.int .i64 n), .cptr [.slice 1 (c.W.map i64P), .int .u64 c.Seed, .int .i64 c.Epoch, .int .i64 c.Num, .int .i64 c.Den], .cptr [.int .i64 al]] [] (Is (.p (.bool r_)) []) := by
  refine LC.start Tryz.func159 rfl rfl rfl ?_
  unfold FQsure at hr
  refine LW.seq (LW.region (LOps.st rfl rfl rfl (LOp.assign rfl rfl) (LOps.nil (thn_n (LW.seq (LW.region (LOps.st rfl rfl rfl (LOp.move rfl rfl) (LOps.st rfl rfl rfl (LOp.bin rfl rfl rfl rfl) (LOps.st rfl rfl rfl (LOp.fieldAddrC rfl rfl ft55_4 rfl) (LOps.st rfl rfl rfl (LOp.loadC rfl rfl rfl vt3 rfl rfl) (LOps.st rfl rfl rfl (LOp.loadC rfl rfl rfl vt3 rfl rfl) ?_)))))))))))
  refine LOps.st rfl rfl rfl (LOp.fieldAddrC rfl rfl ft55_4 rfl) (LOps.st rfl rfl rfl (LOp.loadC rfl rfl rfl vt3 rfl rfl) (LOps.st rfl rfl rfl (LOp.fieldAddrC rfl rfl ft55_3 rfl) (LOps.st rfl rfl rfl (LOp.loadC rfl rfl rfl vt3 rfl rfl) (LOps.st rfl rfl rfl (LOp.bin rfl rfl rfl rfl) (LOps.st rfl rfl rfl (LOp.bin rfl rfl rfl rfl) ?_)))))
  obtain ⟨v1, h_v1, hr⟩ := bind_get hr
  refine LOps.st rfl rfl rfl (LOp.call rfl rfl rfl (by kernel_rfl) (LC.pure (c1026 h_v1) (.cons Conv.p (.cons Conv.p (.cons Conv.p (.cons Conv.p .nil)))))) (LOps.st rfl rfl rfl (LOp.assign rfl rfl) (LOps.nil (thn_n (LW.ret ?_))))
  obtain rfl := Option.some.inj hr
  refine fin_ret (.one (.tmp rfl)) ?_
  exact ⟨rfl, rfl⟩
structure FTop_L1 where
  l : List ID
  v : List Vt
  al : Int
def FTop_s1 (c : Cf) (w : Vw) (x1 : FTop_L1) : Option (FTop_L1 ⊕ (ID × Bool)) :=
  bif decide ((x1.l.length : Int) < 2) then
    some (.inr ((0, 0), false))
  else
    (ix x1.l 0).bind fun y1 =>
    (FQon y1 c w x1.v).bind fun v2 =>
    (FQsure v2 c x1.al).bind fun v3 =>
    bif v3 then
      (ix x1.l 0).bind fun y2 =>
      some (.inr (y2, true))
    else
      bif inL x1.l 1 x1.l.length then
        some (.inl (FTop_L1.mk (x1.l.drop (1 : Int).toNat) x1.v x1.al))
      else none
def F3099 (c : Cf) (w : Vw) (slot : Int) (head : ID) : Option (ID × Bool) :=
  (FQof c w slot).bind fun v1 =>
  bif few w.B then
    iter (FTop_s1 c w) big (FTop_L1.mk (chainOf w.B head) v1.1 v1.2)
  else none
set_option maxRecDepth 100000 in
theorem c3099 {c : Cf} {w : Vw} {slot : Int} {head : ID} {r_ : ID × Bool} (hr : F3099 c w slot head = some r_) : LPure Tryz.prog 99 [cfP c, vwP w, .int .i64 slot, idP head] [idP r_.1, .bool r_.2] := by
  refine LPure.start Tryz.func99 rfl rfl rfl rfl ?_
  unfold F3099 at hr
  refine LW.seq (LW.region (LOps.st rfl rfl rfl (LOp.box rfl rfl rfl rfl rfl) (LOps.st rfl rfl rfl (LOp.box rfl rfl rfl rfl rfl) (LOps.st rfl rfl rfl (LOp.box rfl rfl rfl rfl rfl) (LOps.st rfl rfl rfl (LOp.alloc rfl zt24 rfl rfl) (LOps.st rfl rfl rfl (LOp.assign rfl rfl) (LOps.nil (thn_n ?_))))))))
  refine LW.iterG (step := FTop_s1 c w) (N := big) (b := r_) (E := fun x1 : FTop_L1 => [(8, .ptr 3 0), (9, .p (.bool false)), (10, .ptr 4 0), (11, .p (.slice 2 (x1.l.map idP)))]) (O := fun x1 => [.box [.p (.slice 1 (c.W.map i64P)), .p (.int .u64 c.Seed), .p (.int .i64 c.Epoch), .p (.int .i64 c.Num), .p (.int .i64 c.Den)], .box [.p (.slice 5 (w.B.map blkP)), .p (.slice 4 (w.V.map vtP))], .box [.p (.int .u64 head.1), .p (.int .u64 head.2)], .box [.p (.int .u64 0), .p (.int .u64 0)], .box [.fn 157 [] [.cptr [.slice 1 (c.W.map i64P), .int .u64 c.Seed, .int .i64 c.Epoch, .int .i64 c.Num, .int .i64 c.Den], .cptr [.slice 5 (w.B.map blkP), .slice 4 (w.V.map vtP)], .cptr [.slice 4 (x1.v.map vtP)]], .fn 159 [] [.cptr [.slice 1 (c.W.map i64P), .int .u64 c.Seed, .int .i64 c.Epoch, .int .i64 c.Num, .int .i64 c.Den], .cptr [.int .i64 x1.al]]]]) rfl ?_ (fun x1 z_x1 hr hb_x1 => ?_)
  ·
    refine LW.ent (Ent.slot rfl) (LW.drawW (by kernel_rfl) (by kernel_rfl) (LF.st rfl rfl rfl (LAt.load rfl rfl rfl vt55 rfl rfl) rfl (LF.st rfl rfl rfl (LAt.load rfl rfl rfl vt75 rfl rfl) rfl ?_)))
    refine LF.st (F := []) (s := none) rfl rfl rfl (fun H _ => LOp.move rfl rfl) rfl ?_
    obtain ⟨v1, h_v1, hr⟩ := bind_get hr
    refine LF.st (F := []) (s := none) rfl rfl rfl (fun H _ => LOp.call rfl rfl rfl (by kernel_rfl) (LC.free (fFQof h_v1) (.cons Conv.p (.cons Conv.p (.cons Conv.p .nil))))) rfl ?_
    refine LF.st (F := []) (s := none) rfl rfl rfl (fun H _ => LOp.fieldAddr rfl rfl ft75_0) rfl ?_
    refine LF.st rfl rfl rfl (LAt.load rfl rfl rfl vt27 rfl rfl) rfl (LF.st rfl rfl rfl (LAt.load rfl rfl rfl vt24 rfl rfl) rfl ?_)
    obtain ⟨q1, hr⟩ := grd_get hr
    refine LF.st (F := []) (s := none) rfl rfl rfl (fun H _ => LOp.call rfl rfl rfl (by kernel_rfl) (LC.pure (c39 (l := w.B) (id := head) (few_le q1)) (.cons Conv.p (.cons Conv.p .nil)))) rfl ?_
    refine LF.st rfl rfl rfl (LAt.alloc rfl zt3157 (id := 4) rfl) rfl (LF.st rfl rfl rfl (LAt.store rfl rfl rfl rfl vt3157 rfl rfl rfl) rfl ?_)
    refine LF.st (F := []) (s := none) rfl rfl rfl (fun H _ => LOp.assign rfl rfl) rfl ?_
    refine LF.nil ⟨by kernel_rfl, ?_⟩
    refine thn_n ?_
    exact ⟨_, hr, Weak.of 5 ⟨rfl, rfl, rfl, rfl, trivial⟩ rfl rfl rfl rfl⟩
  ·
    unfold FTop_s1 at hr
    refine LW.seq (LW.seq (LW.region (LOps.st rfl rfl rfl (LOp.move rfl rfl) (LOps.st rfl rfl rfl (LOp.lenM rfl rfl (by kernel_rfl)) (LOps.st rfl rfl rfl (LOp.bin rfl rfl rfl rfl) (LOps.nil (thn_n ?_)))))))
    refine LW.cond rfl (fun (g1 : (decide ((x1.l.length : Int) < 2)) = true) => ?_) (fun (g1 : (decide ((x1.l.length : Int) < 2)) = false) => ?_)
    ·
      have hr := ite_t g1 hr
      refine LW.seq (LW.region (LOps.st rfl rfl rfl (LOp.build rfl bt24 rfl rfl rfl) (LOps.st rfl rfl rfl (LOp.store rfl rfl rfl rfl vt24 rfl rfl rfl rfl) (LOps.st rfl rfl rfl (LOp.assign rfl rfl) (LOps.nil (thn_n (LW.ret (thn_r (jmp_r ?_)))))))))
      obtain rfl := Option.some.inj hr
      have hr := congrArg some (hb_x1 _ rfl)
      obtain rfl := Option.some.inj hr
      refine finP_ret (.two (.cellAgg rfl rfl (by kernel_rfl) rfl) (.tmp rfl)) ?_
      exact ⟨_, rfl, (.cons Conv.p (.cons Conv.p .nil))⟩
    ·
      have hr := ite_f g1 hr
      refine LW.skip (thn_n (LW.seq (LW.seq (LW.draw (by kernel_rfl) (by kernel_rfl) (LO.st rfl rfl rfl (LOp.fieldAddr rfl rfl ft3157_1) (LO.st rfl rfl rfl (LOp.load rfl rfl rfl vt131 rfl rfl) (LO.st rfl rfl rfl (LOp.fieldAddr rfl rfl ft3157_0) (LO.st rfl rfl rfl (LOp.load rfl rfl rfl vt3155 rfl rfl) (LO.st rfl rfl rfl (LOp.move rfl rfl) ?_)))))))))
      obtain ⟨y1, h_y1, hr⟩ := bind_get hr
      refine LO.st rfl rfl rfl (LOp.indexAddrX rfl rfl rfl st31 h_y1 rfl) (LO.st rfl rfl rfl (LOp.loadC rfl rfl rfl vt24 rfl rfl) ?_)
      obtain ⟨v2, h_v2, hr⟩ := bind_get hr
      refine LO.st rfl rfl rfl (LOp.call rfl rfl rfl (by kernel_rfl) (LC.pre (cFQon h_v2) rfl rfl rfl)) ?_
      obtain ⟨v3, h_v3, hr⟩ := bind_get hr
      refine LO.st rfl rfl rfl (LOp.call rfl rfl rfl (by kernel_rfl) (LC.pre (cFQsure h_v3) rfl rfl rfl)) (LO.nil (thn_n ?_))
      refine LW.cond rfl (fun (g2 : v3 = true) => ?_) (fun (g2 : v3 = false) => ?_)
      ·
        have hr := ite_t g2 hr
        refine LW.seq (LW.region (LOps.st rfl rfl rfl (LOp.move rfl rfl) ?_))
        obtain ⟨y2, h_y2, hr⟩ := bind_get hr
        refine LOps.st rfl rfl rfl (LOp.indexAddrX rfl rfl rfl st31 h_y2 rfl) (LOps.st rfl rfl rfl (LOp.loadC rfl rfl rfl vt24 rfl rfl) (LOps.st rfl rfl rfl (LOp.store rfl rfl rfl rfl vt24 rfl rfl rfl rfl) (LOps.st rfl rfl rfl (LOp.assign rfl rfl) (LOps.nil (thn_n (LW.ret (thn_r (jmp_r ?_))))))))
        obtain rfl := Option.some.inj hr
        have hr := congrArg some (hb_x1 _ rfl)
        obtain rfl := Option.some.inj hr
        refine finP_ret (.two (.cellAgg rfl rfl (by kernel_rfl) rfl) (.tmp rfl)) ?_
        exact ⟨_, rfl, (.cons Conv.p (.cons Conv.p .nil))⟩
      ·
        have hr := ite_f g2 hr
        refine LW.skip (thn_n (LW.seq (LW.region (LOps.st rfl rfl rfl (LOp.move rfl rfl) ?_))))
        obtain ⟨q2, hr⟩ := grd_get hr
        refine LOps.st rfl rfl rfl (LOp.sliceLo rfl rfl rfl st31 q2) (LOps.st rfl rfl rfl (LOp.assign rfl rfl) (LOps.nil (thn_n (LW.goto (jmp_g ?_)))))
        obtain rfl := Option.some.inj hr
        exact ⟨_, rfl, Weak.of 5 ⟨rfl, rfl, rfl, rfl, trivial⟩ rfl rfl rfl rfl⟩
open Go.Proofs
def F131 (v : Vt) (sm : List (ID × Int)) : Option Bool :=
  bif !((findE sm v.Head).isSome) then
    some true
  else
    some (decide (((findE sm v.Head).getD 0) > v.Slot))
set_option maxRecDepth 100000 in
theorem cF131 {v : Vt} {w : Vw} {sm : List (ID × Int)} {hm : List (Vt × Bool)} {r_ : Bool} (hr : F131 v sm = some r_) : LC Tryz.prog 49 [.p (vtP v), .ptr 9 0] [.dead, .box [.p (.slice 5 (w.B.map blkP)), .p (.slice 4 (w.V.map vtP))], .dead, .dead, .dead, .dead, .map (entsOf idP (fun v => .p (.int .i64 v)) sm), .map (entsOf vtP (fun v => .p (.bool v)) hm), .box [.vec 5 4 (w.B.map blkP).length 0 (w.B.map blkP).length, .vec 4 5 (w.V.map vtP).length 0 (w.V.map vtP).length, .map 6, .map 7, .p (.int .i64 0), .p (.bool false)], .box [.ptr 8 0]] (Is (.p (.bool r_)) [.dead, .box [.p (.slice 5 (w.B.map blkP)), .p (.slice 4 (w.V.map vtP))], .dead, .dead, .dead, .dead, .map (entsOf idP (fun v => .p (.int .i64 v)) sm), .map (entsOf vtP (fun v => .p (.bool v)) hm), .box [.vec 5 4 (w.B.map blkP).length 0 (w.B.map blkP).length, .vec 4 5 (w.V.map vtP).length 0 (w.V.map vtP).length, .map 6, .map 7, .p (.int .i64 0), .p (.bool false)], .box [.ptr 8 0]]) := by
  refine LC.start Tryz.func49 rfl rfl rfl ?_
  unfold F131 at hr
  refine LW.seq (LW.region (LOps.st rfl rfl rfl (LOp.box rfl rfl rfl rfl rfl) (LOps.st rfl rfl rfl (LOp.assign rfl rfl) (LOps.nil (thn_n (LW.seq (LW.draw (by kernel_rfl) (by kernel_rfl) (LO.st rfl rfl rfl (LOp.load rfl rfl rfl vt145 rfl rfl) (LO.st rfl rfl rfl (LOp.nilCheck rfl rfl) (LO.st rfl rfl rfl (LOp.fieldAddr rfl rfl ft149_1) (LO.st rfl rfl rfl (LOp.load rfl rfl rfl vt91 rfl rfl) ?_)))))))))))
  refine LO.st rfl rfl rfl (LOp.fieldAddr rfl rfl ft82_2) (LO.st rfl rfl rfl (LOp.load rfl rfl rfl vt24 rfl rfl) ?_)
  refine LO.st rfl rfl rfl (LOp.getX (f := idP) (g := (fun v => .p (.int .i64 v))) v.Head 0 idKey rfl rfl rfl rfl mt91 zl3 rfl rfl) ?_
  refine LO.st rfl rfl rfl (LOp.move rfl rfl) (LO.st rfl rfl rfl (LOp.extract rfl rfl rfl) (LO.st rfl rfl rfl (LOp.extract rfl rfl rfl) (LO.st rfl rfl rfl (LOp.assign rfl rfl) (LO.st rfl rfl rfl (LOp.assign rfl rfl) (LO.nil (thn_n (LW.seq (LW.region (LOps.st rfl rfl rfl (LOp.move rfl rfl) (LOps.st rfl rfl rfl (LOp.not rfl rfl) (LOps.st rfl rfl rfl (LOp.move rfl rfl) ?_)))))))))))
  refine LOps.cases 18 rfl (fun (g1 : (!((findE sm v.Head).isSome)) = true) => ?_) (fun (g1 : (!((findE sm v.Head).isSome)) = false) => ?_)
  ·
    have hr := ite_t g1 hr
    refine LOps.sk rfl rfl rfl (gd g1 rfl) rfl rfl (LOps.sk rfl rfl rfl (gd g1 rfl) rfl rfl (LOps.sk rfl rfl rfl (gd g1 rfl) rfl rfl (LOps.sk rfl rfl rfl (gd g1 rfl) rfl rfl (LOps.st rfl rfl rfl (LOp.pickT rfl (gdl g1 rfl) rfl) (LOps.st rfl rfl rfl (LOp.assign rfl rfl) (LOps.nil (thn_n (LW.ret ?_))))))))
    obtain rfl := Option.some.inj hr
    refine fin_retW (env' := [(3, .p (.bool true))]) (H' := [.dead, .box [.p (.slice 5 (w.B.map blkP)), .p (.slice 4 (w.V.map vtP))], .dead, .dead, .dead, .dead, .map (entsOf idP (fun v => .p (.int .i64 v)) sm), .map (entsOf vtP (fun v => .p (.bool v)) hm), .box [.vec 5 4 (w.B.map blkP).length 0 (w.B.map blkP).length, .vec 4 5 (w.V.map vtP).length 0 (w.V.map vtP).length, .map 6, .map 7, .p (.int .i64 0), .p (.bool false)], .box [.ptr 8 0]]) (Weak.of 10 ⟨rfl, trivial⟩ rfl rfl rfl (lowObjs_cons rfl (lowObjs_cons rfl (lowObjs_cons rfl (lowObjs_cons rfl (lowObjs_cons rfl (lowObjs_cons rfl (lowObjs_cons (entsLow (fun _ => rfl) _) (lowObjs_cons (entsLow (fun _ => rfl) _) (lowObjs_cons rfl (lowObjs_cons rfl rfl))))))))))) (.one (.tmp rfl)) ?_
    exact ⟨rfl, rfl⟩
  ·
    have hr := ite_f g1 hr
    refine LOps.gd rfl rfl rfl (gd g1 rfl) rfl (LOp.move rfl rfl) (LOps.gd rfl rfl rfl (gd g1 rfl) rfl (LOp.fieldAddr rfl rfl ft82_1) (LOps.gd rfl rfl rfl (gd g1 rfl) rfl (LOp.load rfl rfl rfl vt3 rfl rfl) (LOps.gd rfl rfl rfl (gd g1 rfl) rfl (LOp.bin rfl rfl rfl rfl) (LOps.st rfl rfl rfl (LOp.pickF rfl (gdl g1 rfl) rfl) (LOps.st rfl rfl rfl (LOp.assign rfl rfl) (LOps.nil (thn_n (LW.ret ?_))))))))
    obtain rfl := Option.some.inj hr
    refine fin_retW (env' := [(3, .p (.bool (decide (((findE sm v.Head).getD 0) > v.Slot))))]) (H' := [.dead, .box [.p (.slice 5 (w.B.map blkP)), .p (.slice 4 (w.V.map vtP))], .dead, .dead, .dead, .dead, .map (entsOf idP (fun v => .p (.int .i64 v)) sm), .map (entsOf vtP (fun v => .p (.bool v)) hm), .box [.vec 5 4 (w.B.map blkP).length 0 (w.B.map blkP).length, .vec 4 5 (w.V.map vtP).length 0 (w.V.map vtP).length, .map 6, .map 7, .p (.int .i64 0), .p (.bool false)], .box [.ptr 8 0]]) (Weak.of 10 ⟨rfl, trivial⟩ rfl rfl rfl (lowObjs_cons rfl (lowObjs_cons rfl (lowObjs_cons rfl (lowObjs_cons rfl (lowObjs_cons rfl (lowObjs_cons rfl (lowObjs_cons (entsLow (fun _ => rfl) _) (lowObjs_cons (entsLow (fun _ => rfl) _) (lowObjs_cons rfl (lowObjs_cons rfl rfl))))))))))) (.one (.tmp rfl)) ?_
    exact ⟨rfl, rfl⟩
structure F158M_L1 where
  t8 : Int
def F158M_s1 (l : List Vt) (sm : List (ID × Int)) (x1 : F158M_L1) : Option (F158M_L1 ⊕ (F158M_L1 ⊕ Int)) :=
  bif decide (x1.t8 < (l.length : Int)) then
    (ix l x1.t8).bind fun y1 =>
    (F131 y1 sm).bind fun v2 =>
    bif v2 then
      some (.inr (.inr x1.t8))
    else
      some (.inl (F158M_L1.mk (IntKind.i64.wrap (x1.t8 + 1))))
  else
    some (.inr (.inl (F158M_L1.mk x1.t8)))
def F158M (l : List Vt) (sm : List (ID × Int)) : Option Int :=
  (iter (F158M_s1 l sm) big (F158M_L1.mk 0)).bind fun b_v1 => Sum.elim (fun _ =>
    some (-1)) some b_v1
set_option maxRecDepth 100000 in
theorem cF158M {l : List Vt} {w : Vw} {sm : List (ID × Int)} {hm : List (Vt × Bool)} {r_ : Int} (hr : F158M l sm = some r_) : LC Tryz.prog 92 [.p (.slice 4 (l.map vtP)), .fn 49 [] [.ptr 9 0]] [.dead, .box [.p (.slice 5 (w.B.map blkP)), .p (.slice 4 (w.V.map vtP))], .dead, .dead, .dead, .dead, .map (entsOf idP (fun v => .p (.int .i64 v)) sm), .map (entsOf vtP (fun v => .p (.bool v)) hm), .box [.vec 5 4 (w.B.map blkP).length 0 (w.B.map blkP).length, .vec 4 5 (w.V.map vtP).length 0 (w.V.map vtP).length, .map 6, .map 7, .p (.int .i64 0), .p (.bool false)], .box [.ptr 8 0]] (Is (.p (.int .i64 r_)) [.dead, .box [.p (.slice 5 (w.B.map blkP)), .p (.slice 4 (w.V.map vtP))], .dead, .dead, .dead, .dead, .map (entsOf idP (fun v => .p (.int .i64 v)) sm), .map (entsOf vtP (fun v => .p (.bool v)) hm), .box [.vec 5 4 (w.B.map blkP).length 0 (w.B.map blkP).length, .vec 4 5 (w.V.map vtP).length 0 (w.V.map vtP).length, .map 6, .map 7, .p (.int .i64 0), .p (.bool false)], .box [.ptr 8 0]]) := by
  refine LC.start Tryz.func92 rfl rfl rfl ?_
  unfold F158M at hr
  refine LW.seq (LW.region (LOps.st rfl rfl rfl (LOp.assign rfl rfl) (LOps.nil (thn_n (LW.seq (LW.seq (LW.region (LOps.st rfl rfl rfl (LOp.move rfl rfl) (LOps.st rfl rfl rfl (LOp.lenM rfl rfl (by kernel_rfl)) (LOps.st rfl rfl rfl (LOp.move rfl rfl) (LOps.nil ?_)))))))))))
  refine thn_n ?_
  obtain ⟨b_v1, hb_v1, ho_v1⟩ := bind_get hr
  clear hr
  refine LW.tailB (b := b_v1) (E := fun v1 => [(4, .p (.int .i64 0))]) (O := fun v1 => [.dead, .box [.p (.slice 5 (w.B.map blkP)), .p (.slice 4 (w.V.map vtP))], .dead, .dead, .dead, .dead, .map (entsOf idP (fun v => .p (.int .i64 v)) sm), .map (entsOf vtP (fun v => .p (.bool v)) hm), .box [.vec 5 4 (w.B.map blkP).length 0 (w.B.map blkP).length, .vec 4 5 (w.V.map vtP).length 0 (w.V.map vtP).length, .map 6, .map 7, .p (.int .i64 0), .p (.bool false)], .box [.ptr 8 0]]) ?_ (fun v1 e_v1 env_v1 H_v1 hw_v1 => ?_)
  · refine LW.block ?_
    refine LW.iterB (E := fun x1 : F158M_L1 => [(0, .p (.slice 4 (l.map vtP))), (1, .fn 49 [] [.ptr 9 0]), (4, .p (.int .i64 0)), (7, .p (.int .i64 (l.length : Int))), (8, .p (.int .i64 x1.t8))]) (O := fun x1 => [.dead, .box [.p (.slice 5 (w.B.map blkP)), .p (.slice 4 (w.V.map vtP))], .dead, .dead, .dead, .dead, .map (entsOf idP (fun v => .p (.int .i64 v)) sm), .map (entsOf vtP (fun v => .p (.bool v)) hm), .box [.vec 5 4 (w.B.map blkP).length 0 (w.B.map blkP).length, .vec 4 5 (w.V.map vtP).length 0 (w.V.map vtP).length, .map 6, .map 7, .p (.int .i64 0), .p (.bool false)], .box [.ptr 8 0]]) hb_v1 (Weak.of 10 ⟨rfl, rfl, rfl, rfl, rfl, trivial⟩ rfl rfl rfl (lowObjs_cons rfl (lowObjs_cons rfl (lowObjs_cons rfl (lowObjs_cons rfl (lowObjs_cons rfl (lowObjs_cons rfl (lowObjs_cons (entsLow (fun _ => rfl) _) (lowObjs_cons (entsLow (fun _ => rfl) _) (lowObjs_cons rfl (lowObjs_cons rfl rfl))))))))))) (fun x1 z_x1 hr hb_x1 => ?_)
    unfold F158M_s1 at hr
    refine LW.seq (LW.region (LOps.st rfl rfl rfl (LOp.bin rfl rfl rfl rfl) (LOps.nil (thn_n (LW.seq ?_)))))
    refine LW.cond rfl (fun (g1 : (decide (x1.t8 < (l.length : Int))) = true) => ?_) (fun (g1 : (decide (x1.t8 < (l.length : Int))) = false) => ?_)
    ·
      have hr := ite_t g1 hr
      refine LW.skip (thn_n (LW.seq (LW.block (LW.seq (LW.region (LOps.st rfl rfl rfl (LOp.move rfl rfl) (LOps.st rfl rfl rfl (LOp.assign rfl rfl) (LOps.nil (thn_n (LW.seq (LW.region ?_)))))))))))
      refine LOps.st rfl rfl rfl (LOp.move rfl rfl) (LOps.st rfl rfl rfl (LOp.move rfl rfl) (LOps.st rfl rfl rfl (LOp.move rfl rfl) ?_))
      obtain ⟨y1, h_y1, hr⟩ := bind_get hr
      refine LOps.st rfl rfl rfl (LOp.indexAddrX rfl rfl rfl st68 h_y1 rfl) (LOps.st rfl rfl rfl (LOp.loadC rfl rfl rfl vt82 rfl rfl) ?_)
      obtain ⟨v2, h_v2, hr⟩ := bind_get hr
      refine LOps.st rfl rfl rfl (LOp.call rfl rfl rfl (by kernel_rfl) (cF131 h_v2)) (LOps.nil (thn_n ?_))
      refine LW.cond rfl (fun (g2 : v2 = true) => ?_) (fun (g2 : v2 = false) => ?_)
      ·
        have hr := ite_t g2 hr
        refine LW.seq (LW.region (LOps.st rfl rfl rfl (LOp.move rfl rfl) (LOps.st rfl rfl rfl (LOp.assign rfl rfl) (LOps.nil (thn_n (LW.ret (inBlk_r (thn_r (thn_r (inBlk_r (thn_r ?_)))))))))))
        refine thn_r ?_
        obtain rfl := Option.some.inj hr
        have hr := congrArg some (hb_x1 _ rfl)
        obtain rfl := Option.some.inj hr
        have hr := sum_r ho_v1
        obtain rfl := Option.some.inj hr
        refine fin_ret (.one (.tmp rfl)) ?_
        exact ⟨rfl, rfl⟩
      ·
        have hr := ite_f g2 hr
        refine LW.skip (inBlk_n (thn_n (LW.region (LOps.st rfl rfl rfl (LOp.bin rfl rfl rfl rfl) (LOps.st rfl rfl rfl (LOp.move rfl rfl) (LOps.nil (thn_n ?_)))))))
        obtain rfl := Option.some.inj hr
        exact ⟨_, rfl, Weak.of 10 ⟨rfl, rfl, rfl, rfl, rfl, trivial⟩ rfl rfl rfl (lowObjs_cons rfl (lowObjs_cons rfl (lowObjs_cons rfl (lowObjs_cons rfl (lowObjs_cons rfl (lowObjs_cons rfl (lowObjs_cons (entsLow (fun _ => rfl) _) (lowObjs_cons (entsLow (fun _ => rfl) _) (lowObjs_cons rfl (lowObjs_cons rfl rfl))))))))))⟩
    ·
      have hr := ite_f g1 hr
      refine LW.exit (thn_e (thn_e (inBlk_self (thn_n ?_))))
      obtain rfl := Option.some.inj hr
      have hr := congrArg some (hb_x1 _ rfl)
      obtain rfl := Option.some.inj hr
      exact ⟨_, rfl, Weak.of 10 ⟨rfl, trivial⟩ rfl rfl rfl (lowObjs_cons rfl (lowObjs_cons rfl (lowObjs_cons rfl (lowObjs_cons rfl (lowObjs_cons rfl (lowObjs_cons rfl (lowObjs_cons (entsLow (fun _ => rfl) _) (lowObjs_cons (entsLow (fun _ => rfl) _) (lowObjs_cons rfl (lowObjs_cons rfl rfl))))))))))⟩
  · obtain rfl := e_v1
    have hr := sum_l ho_v1
    clear hb_v1
    refine thn_n (LW.weak hw_v1 (LW.seq (LW.region (LOps.st rfl rfl rfl (LOp.assign rfl rfl) (LOps.nil (thn_n (LW.ret ?_)))))))
    obtain rfl := Option.some.inj hr
    refine fin_ret (.one (.tmp rfl)) ?_
    exact ⟨rfl, rfl⟩
def F132 (l : List Vt) (sm : List (ID × Int)) : Option Bool :=
  (F158M l sm).bind fun v1 =>
  some (decide (v1 ≥ 0))
set_option maxRecDepth 100000 in
theorem cF132 {l : List Vt} {w : Vw} {sm : List (ID × Int)} {hm : List (Vt × Bool)} {r_ : Bool} (hr : F132 l sm = some r_) : LC Tryz.prog 50 [.p (.slice 4 (l.map vtP)), .fn 49 [] [.ptr 9 0]] [.dead, .box [.p (.slice 5 (w.B.map blkP)), .p (.slice 4 (w.V.map vtP))], .dead, .dead, .dead, .dead, .map (entsOf idP (fun v => .p (.int .i64 v)) sm), .map (entsOf vtP (fun v => .p (.bool v)) hm), .box [.vec 5 4 (w.B.map blkP).length 0 (w.B.map blkP).length, .vec 4 5 (w.V.map vtP).length 0 (w.V.map vtP).length, .map 6, .map 7, .p (.int .i64 0), .p (.bool false)], .box [.ptr 8 0]] (Is (.p (.bool r_)) [.dead, .box [.p (.slice 5 (w.B.map blkP)), .p (.slice 4 (w.V.map vtP))], .dead, .dead, .dead, .dead, .map (entsOf idP (fun v => .p (.int .i64 v)) sm), .map (entsOf vtP (fun v => .p (.bool v)) hm), .box [.vec 5 4 (w.B.map blkP).length 0 (w.B.map blkP).length, .vec 4 5 (w.V.map vtP).length 0 (w.V.map vtP).length, .map 6, .map 7, .p (.int .i64 0), .p (.bool false)], .box [.ptr 8 0]]) := by
  refine LC.start Tryz.func50 rfl rfl rfl ?_
  unfold F132 at hr
  refine LW.seq (LW.region (LOps.st rfl rfl rfl (LOp.assign rfl rfl) (LOps.nil (thn_n (LW.seq (LW.region (LOps.st rfl rfl rfl (LOp.move rfl rfl) (LOps.st rfl rfl rfl (LOp.move rfl rfl) ?_))))))))
  obtain ⟨v1, h_v1, hr⟩ := bind_get hr
  refine LOps.st rfl rfl rfl (LOp.call rfl rfl rfl (by kernel_rfl) (cF158M h_v1)) (LOps.st rfl rfl rfl (LOp.bin rfl rfl rfl rfl) (LOps.st rfl rfl rfl (LOp.assign rfl rfl) (LOps.nil (thn_n (LW.ret ?_)))))
  obtain rfl := Option.some.inj hr
  refine fin_ret (.one (.tmp rfl)) ?_
  exact ⟨rfl, rfl⟩
def F89 (c : Cf) (w : Vw) : Option Bool :=
  (
    (F64 c).bind fun v2 =>
    bif !v2 then
      some true
    else
      (F52 w.B).bind fun v3 =>
      bif !v3 then
        some true
      else
        bif decide ((w.B.length : Int) > 60) then
          some true
        else
          some (decide ((w.V.length : Int) > 240))
  ).bind fun v1 =>
  bif v1 then
    some false
  else
    (F85 c w).bind fun v4 =>
    (
      bif (v4.B.length : Int) != (w.B.length : Int) then
        some true
      else
        some ((v4.V.length : Int) != (w.V.length : Int))
    ).bind fun v5 =>
    bif v5 then
      some false
    else
      (F130 w 0).bind fun v6 =>
      bif fewE v6.2 then
        bif (v6.2.length : Int) == (w.V.length : Int) then
          (F132 w.V v6.1).bind fun v7 =>
          some (!v7)
        else
          some false
      else none
set_option maxRecDepth 100000 in
theorem c89 {c : Cf} {w : Vw} {r_ : Bool} (hr : F89 c w = some r_) : LPure Tryz.prog 17 [cfP c, vwP w] [.bool r_] := by
  refine LPure.start Tryz.func17 rfl rfl rfl rfl ?_
  unfold F89 at hr
  refine LW.seq (LW.region (LOps.st rfl rfl rfl (LOp.box rfl rfl rfl rfl rfl) (LOps.st rfl rfl rfl (LOp.box rfl rfl rfl rfl rfl) (LOps.st rfl rfl rfl (LOp.assign rfl rfl) (LOps.nil (thn_n (LW.seq ?_)))))))
  obtain ⟨v1, hb_v1, ho_v1⟩ := bind_get hr
  clear hr
  refine LW.cut (E := [(2, .ptr 0 0), (3, .ptr 1 0), (4, .p (.bool false)), (28, .p (.bool v1))]) (O := [.box [.p (.slice 1 (c.W.map i64P)), .p (.int .u64 c.Seed), .p (.int .i64 c.Epoch), .p (.int .i64 c.Num), .p (.int .i64 c.Den)], .box [.p (.slice 5 (w.B.map blkP)), .p (.slice 4 (w.V.map vtP))]]) ?_ ?_
  · have hr := hb_v1
    refine LW.region (LOps.st rfl rfl rfl (LOp.load rfl rfl rfl vt55 rfl rfl) ?_)
    obtain ⟨v2, h_v2, hr⟩ := bind_get hr
    refine LOps.st rfl rfl rfl (LOp.call rfl rfl rfl (by kernel_rfl) (LC.pure (c64 h_v2) (.cons Conv.p .nil))) (LOps.st rfl rfl rfl (LOp.not rfl rfl) (LOps.st rfl rfl rfl (LOp.move rfl rfl) ?_))
    refine LOps.cases 11 rfl (fun (g1 : (!v2) = true) => ?_) (fun (g1 : (!v2) = false) => ?_)
    ·
      have hr := ite_t g1 hr
      refine LOps.sk rfl rfl rfl (gd g1 rfl) rfl rfl (LOps.sk rfl rfl rfl (gd g1 rfl) rfl rfl (LOps.sk rfl rfl rfl (gd g1 rfl) rfl rfl (LOps.sk rfl rfl rfl (gd g1 rfl) rfl rfl (LOps.st rfl rfl rfl (LOp.pickT rfl (gdl g1 rfl) rfl) (LOps.st rfl rfl rfl (LOp.move rfl rfl) (LOps.sk rfl rfl rfl rfl rfl rfl (LOps.sk rfl rfl rfl rfl rfl rfl (LOps.sk rfl rfl rfl rfl rfl rfl (LOps.sk rfl rfl rfl rfl rfl rfl (LOps.st rfl rfl rfl (LOp.pickT rfl rfl rfl) (LOps.st rfl rfl rfl (LOp.move rfl rfl) ?_)))))))))))
      refine LOps.sk rfl rfl rfl rfl rfl rfl (LOps.sk rfl rfl rfl rfl rfl rfl (LOps.sk rfl rfl rfl rfl rfl rfl (LOps.sk rfl rfl rfl rfl rfl rfl (LOps.st rfl rfl rfl (LOp.pickT rfl rfl rfl) (LOps.nil (thn_n ?_))))))
      obtain rfl := Option.some.inj hr
      exact Weak.of 2 ⟨rfl, rfl, rfl, rfl, trivial⟩ rfl rfl rfl rfl
    ·
      have hr := ite_f g1 hr
      refine LOps.gd rfl rfl rfl (gd g1 rfl) rfl (LOp.fieldAddr rfl rfl ft75_0) (LOps.gd rfl rfl rfl (gd g1 rfl) rfl (LOp.load rfl rfl rfl vt27 rfl rfl) ?_)
      obtain ⟨v3, h_v3, hr⟩ := bind_get hr
      refine LOps.gd rfl rfl rfl (gd g1 rfl) rfl (LOp.call rfl rfl rfl (by kernel_rfl) (LC.pure (c52 h_v3) (.cons Conv.p .nil))) (LOps.gd rfl rfl rfl (gd g1 rfl) rfl (LOp.not rfl rfl) (LOps.st rfl rfl rfl (LOp.pickF rfl (gdl g1 rfl) rfl) (LOps.st rfl rfl rfl (LOp.move rfl rfl) ?_)))
      refine LOps.cases 17 rfl (fun (g2 : (!v3) = true) => ?_) (fun (g2 : (!v3) = false) => ?_)
      ·
        have hr := ite_t g2 hr
        refine LOps.sk rfl rfl rfl (gd g2 rfl) rfl rfl (LOps.sk rfl rfl rfl (gd g2 rfl) rfl rfl (LOps.sk rfl rfl rfl (gd g2 rfl) rfl rfl (LOps.sk rfl rfl rfl (gd g2 rfl) rfl rfl (LOps.st rfl rfl rfl (LOp.pickT rfl (gdl g2 rfl) rfl) (LOps.st rfl rfl rfl (LOp.move rfl rfl) (LOps.sk rfl rfl rfl rfl rfl rfl (LOps.sk rfl rfl rfl rfl rfl rfl (LOps.sk rfl rfl rfl rfl rfl rfl (LOps.sk rfl rfl rfl rfl rfl rfl (LOps.st rfl rfl rfl (LOp.pickT rfl rfl rfl) (LOps.nil ?_)))))))))))
        refine thn_n ?_
        obtain rfl := Option.some.inj hr
        exact Weak.of 2 ⟨rfl, rfl, rfl, rfl, trivial⟩ rfl rfl rfl rfl
      ·
        have hr := ite_f g2 hr
        refine LOps.gd rfl rfl rfl (gd g2 rfl) rfl (LOp.fieldAddr rfl rfl ft75_0) (LOps.gd rfl rfl rfl (gd g2 rfl) rfl (LOp.load rfl rfl rfl vt27 rfl rfl) (LOps.gd rfl rfl rfl (gd g2 rfl) rfl (LOp.lenM rfl rfl (by kernel_rfl)) (LOps.gd rfl rfl rfl (gd g2 rfl) rfl (LOp.bin rfl rfl rfl rfl) (LOps.st rfl rfl rfl (LOp.pickF rfl (gdl g2 rfl) rfl) (LOps.st rfl rfl rfl (LOp.move rfl rfl) ?_)))))
        refine LOps.cases 23 rfl (fun (g3 : (decide ((w.B.length : Int) > 60)) = true) => ?_) (fun (g3 : (decide ((w.B.length : Int) > 60)) = false) => ?_)
        ·
          have hr := ite_t g3 hr
          refine LOps.sk rfl rfl rfl (gd g3 rfl) rfl rfl (LOps.sk rfl rfl rfl (gd g3 rfl) rfl rfl (LOps.sk rfl rfl rfl (gd g3 rfl) rfl rfl (LOps.sk rfl rfl rfl (gd g3 rfl) rfl rfl (LOps.st rfl rfl rfl (LOp.pickT rfl (gdl g3 rfl) rfl) (LOps.nil (thn_n ?_))))))
          obtain rfl := Option.some.inj hr
          exact Weak.of 2 ⟨rfl, rfl, rfl, rfl, trivial⟩ rfl rfl rfl rfl
        ·
          have hr := ite_f g3 hr
          refine LOps.gd rfl rfl rfl (gd g3 rfl) rfl (LOp.fieldAddr rfl rfl ft75_1) (LOps.gd rfl rfl rfl (gd g3 rfl) rfl (LOp.load rfl rfl rfl vt68 rfl rfl) (LOps.gd rfl rfl rfl (gd g3 rfl) rfl (LOp.lenM rfl rfl (by kernel_rfl)) (LOps.gd rfl rfl rfl (gd g3 rfl) rfl (LOp.bin rfl rfl rfl rfl) (LOps.st rfl rfl rfl (LOp.pickF rfl (gdl g3 rfl) rfl) (LOps.nil (thn_n ?_))))))
          obtain rfl := Option.some.inj hr
          exact Weak.of 2 ⟨rfl, rfl, rfl, rfl, trivial⟩ rfl rfl rfl rfl
  · have hr := ho_v1
    clear hb_v1
    refine LW.cond rfl (fun (g4 : v1 = true) => ?_) (fun (g4 : v1 = false) => ?_)
    ·
      have hr := ite_t g4 hr
      refine LW.seq (LW.region (LOps.st rfl rfl rfl (LOp.assign rfl rfl) (LOps.nil (thn_n (LW.ret (thn_r ?_))))))
      obtain rfl := Option.some.inj hr
      refine finP_ret (.one (.tmp rfl)) ?_
      exact Conv.p
    ·
      have hr := ite_f g4 hr
      refine LW.skip (thn_n (LW.seq (LW.region (LOps.st rfl rfl rfl (LOp.load rfl rfl rfl vt55 rfl rfl) (LOps.st rfl rfl rfl (LOp.load rfl rfl rfl vt75 rfl rfl) ?_)))))
      obtain ⟨v4, h_v4, hr⟩ := bind_get hr
      refine LOps.st rfl rfl rfl (LOp.call rfl rfl rfl (by kernel_rfl) (LC.pure (c85 h_v4) (.cons Conv.p (.cons Conv.p .nil)))) (LOps.st rfl rfl rfl (LOp.alloc rfl zt75 rfl rfl) (LOps.st rfl rfl rfl (LOp.store rfl rfl rfl rfl vt75 rfl rfl rfl rfl) (LOps.nil (thn_n (LW.seq ?_)))))
      obtain ⟨v5, hb_v5, ho_v5⟩ := bind_get hr
      clear hr
      refine LW.cut (E := [(3, .ptr 1 0), (4, .p (.bool false)), (47, .p (.bool v5))]) (O := [.box [.p (.slice 1 (c.W.map i64P)), .p (.int .u64 c.Seed), .p (.int .i64 c.Epoch), .p (.int .i64 c.Num), .p (.int .i64 c.Den)], .box [.p (.slice 5 (w.B.map blkP)), .p (.slice 4 (w.V.map vtP))], .box [.p (.slice 5 (v4.B.map blkP)), .p (.slice 4 (v4.V.map vtP))]]) ?_ ?_
      · have hr := hb_v5
        refine LW.region (LOps.st rfl rfl rfl (LOp.fieldAddr rfl rfl ft75_0) (LOps.st rfl rfl rfl (LOp.load rfl rfl rfl vt27 rfl rfl) (LOps.st rfl rfl rfl (LOp.lenM rfl rfl (by kernel_rfl)) (LOps.st rfl rfl rfl (LOp.fieldAddr rfl rfl ft75_0) (LOps.st rfl rfl rfl (LOp.load rfl rfl rfl vt27 rfl rfl) (LOps.st rfl rfl rfl (LOp.lenM rfl rfl (by kernel_rfl)) (LOps.st rfl rfl rfl (LOp.bin rfl rfl rfl rfl) (LOps.st rfl rfl rfl (LOp.move rfl rfl) ?_))))))))
        refine LOps.cases 39 rfl (fun (g5 : ((v4.B.length : Int) != (w.B.length : Int)) = true) => ?_) (fun (g5 : ((v4.B.length : Int) != (w.B.length : Int)) = false) => ?_)
        ·
          have hr := ite_t g5 hr
          refine LOps.sk rfl rfl rfl (gd g5 rfl) rfl rfl (LOps.sk rfl rfl rfl (gd g5 rfl) rfl rfl (LOps.sk rfl rfl rfl (gd g5 rfl) rfl rfl (LOps.sk rfl rfl rfl (gd g5 rfl) rfl rfl (LOps.sk rfl rfl rfl (gd g5 rfl) rfl rfl (LOps.sk rfl rfl rfl (gd g5 rfl) rfl rfl (LOps.sk rfl rfl rfl (gd g5 rfl) rfl rfl (LOps.st rfl rfl rfl (LOp.pickT rfl (gdl g5 rfl) rfl) (LOps.nil (thn_n ?_)))))))))
          obtain rfl := Option.some.inj hr
          exact Weak.of 3 ⟨rfl, rfl, rfl, trivial⟩ rfl rfl rfl rfl
        ·
          have hr := ite_f g5 hr
          refine LOps.gd rfl rfl rfl (gd g5 rfl) rfl (LOp.fieldAddr rfl rfl ft75_1) (LOps.gd rfl rfl rfl (gd g5 rfl) rfl (LOp.load rfl rfl rfl vt68 rfl rfl) (LOps.gd rfl rfl rfl (gd g5 rfl) rfl (LOp.lenM rfl rfl (by kernel_rfl)) (LOps.gd rfl rfl rfl (gd g5 rfl) rfl (LOp.fieldAddr rfl rfl ft75_1) (LOps.gd rfl rfl rfl (gd g5 rfl) rfl (LOp.load rfl rfl rfl vt68 rfl rfl) (LOps.gd rfl rfl rfl (gd g5 rfl) rfl (LOp.lenM rfl rfl (by kernel_rfl)) (LOps.gd rfl rfl rfl (gd g5 rfl) rfl (LOp.bin rfl rfl rfl rfl) (LOps.st rfl rfl rfl (LOp.pickF rfl (gdl g5 rfl) rfl) (LOps.nil (thn_n ?_)))))))))
          obtain rfl := Option.some.inj hr
          exact Weak.of 3 ⟨rfl, rfl, rfl, trivial⟩ rfl rfl rfl rfl
      · have hr := ho_v5
        clear hb_v5
        refine LW.cond rfl (fun (g6 : v5 = true) => ?_) (fun (g6 : v5 = false) => ?_)
        ·
          have hr := ite_t g6 hr
          refine LW.seq (LW.region (LOps.st rfl rfl rfl (LOp.assign rfl rfl) (LOps.nil (thn_n (LW.ret (thn_r ?_))))))
          obtain rfl := Option.some.inj hr
          refine finP_ret (.one (.tmp rfl)) ?_
          exact Conv.p
        ·
          have hr := ite_f g6 hr
          refine LW.skip (thn_n (LW.seq (LW.region (LOps.st rfl rfl rfl (LOp.load rfl rfl rfl vt75 rfl rfl) ?_))))
          obtain ⟨v6, h_v6, hr⟩ := bind_get hr
          refine LOps.st rfl rfl rfl (LOp.call rfl rfl rfl (by kernel_rfl) (LC.frameX (x' := .ptr 8 0) (H' := [.box [.p (.slice 1 (c.W.map i64P)), .p (.int .u64 c.Seed), .p (.int .i64 c.Epoch), .p (.int .i64 c.Num), .p (.int .i64 c.Den)], .box [.p (.slice 5 (w.B.map blkP)), .p (.slice 4 (w.V.map vtP))], .box [.p (.slice 5 (v4.B.map blkP)), .p (.slice 4 (v4.V.map vtP))], .box [.p (.slice 5 (w.B.map blkP)), .p (.slice 4 (w.V.map vtP))], .vec 5 (w.B.map blkP), .vec 4 (w.V.map vtP), .map (entsOf idP (fun v => .p (.int .i64 v)) v6.1), .map (entsOf vtP (fun v => .p (.bool v)) v6.2), .box [.vec 5 4 (w.B.map blkP).length 0 (w.B.map blkP).length, .vec 4 5 (w.V.map vtP).length 0 (w.V.map vtP).length, .map 6, .map 7, .p (.int .i64 0), .p (.bool false)]]) (cF130 h_v6) (.consC Conv.p (.consC Conv.p .nil)) rfl rfl (by simp only [List.map_cons, List.map_nil, List.cons_append, List.nil_append, LObj.shift, LV.shifts, LV.shift, entsShI, entsShB] <;> rfl))) ?_
          refine LOps.st rfl rfl rfl (LOp.alloc rfl zt145 rfl rfl) (LOps.st rfl rfl rfl (LOp.store rfl rfl rfl rfl vt145 rfl rfl rfl rfl) (LOps.nil (thn_n (LW.seq (LW.ent (Ent.kill (i := 0) rfl) (LW.ent (Ent.kill (i := 2) rfl) (LW.ent (Ent.kill (i := 3) rfl) (LW.ent (Ent.kill (i := 4) rfl) (LW.ent (Ent.kill (i := 5) rfl) (LW.region (LOps.st rfl rfl rfl (LOp.makeFunc rfl rfl rfl) ?_)))))))))))
          refine LOps.st rfl rfl rfl (LOp.assign rfl rfl) (LOps.nil (thn_n (LW.seq (LW.draw (by kernel_rfl) (by kernel_rfl) (LO.st rfl rfl rfl (LOp.load rfl rfl rfl vt145 rfl rfl) (LO.st rfl rfl rfl (LOp.nilCheck rfl rfl) (LO.st rfl rfl rfl (LOp.fieldAddr rfl rfl ft149_2) (LO.st rfl rfl rfl (LOp.load rfl rfl rfl vt147 rfl rfl) ?_))))))))
          obtain ⟨q1, hr⟩ := grd_get hr
          refine LO.st rfl rfl rfl (LOp.lenMapX rfl rfl rfl (by kernel_rfl) q1) (LO.st rfl rfl rfl (LOp.fieldAddr rfl rfl ft75_1) (LO.st rfl rfl rfl (LOp.load rfl rfl rfl vt68 rfl rfl) (LO.st rfl rfl rfl (LOp.lenM rfl rfl (by kernel_rfl)) (LO.st rfl rfl rfl (LOp.bin rfl rfl rfl rfl) (LO.st rfl rfl rfl (LOp.move rfl rfl) ?_)))))
          refine LO.cases 60 rfl (fun (g7 : ((v6.2.length : Int) == (w.V.length : Int)) = true) => ?_) (fun (g7 : ((v6.2.length : Int) == (w.V.length : Int)) = false) => ?_)
          ·
            have hr := ite_t g7 hr
            refine LO.gd rfl rfl rfl (gd g7 rfl) rfl (LOp.fieldAddr rfl rfl ft75_1) (LO.gd rfl rfl rfl (gd g7 rfl) rfl (LOp.load rfl rfl rfl vt68 rfl rfl) (LO.gd rfl rfl rfl (gd g7 rfl) rfl (LOp.move rfl rfl) ?_))
            obtain ⟨v7, h_v7, hr⟩ := bind_get hr
            refine LO.gd rfl rfl rfl (gd g7 rfl) rfl (LOp.call rfl rfl rfl (by kernel_rfl) (cF132 h_v7)) (LO.gd rfl rfl rfl (gd g7 rfl) rfl (LOp.not rfl rfl) (LO.st rfl rfl rfl (LOp.pickT rfl (gdl g7 rfl) rfl) (LO.st rfl rfl rfl (LOp.assign rfl rfl) (LO.nil (thn_n (LW.ret ?_))))))
            obtain rfl := Option.some.inj hr
            refine finP_ret (.one (.tmp rfl)) ?_
            exact Conv.p
          ·
            have hr := ite_f g7 hr
            refine LO.sk rfl rfl rfl (gd g7 rfl) rfl rfl (LO.sk rfl rfl rfl (gd g7 rfl) rfl rfl (LO.sk rfl rfl rfl (gd g7 rfl) rfl rfl (LO.sk rfl rfl rfl (gd g7 rfl) rfl rfl (LO.sk rfl rfl rfl (gd g7 rfl) rfl rfl (LO.st rfl rfl rfl (LOp.pickF rfl (gdl g7 rfl) rfl) (LO.st rfl rfl rfl (LOp.assign rfl rfl) (LO.nil (thn_n (LW.ret ?_)))))))))
            obtain rfl := Option.some.inj hr
            refine finP_ret (.one (.tmp rfl)) ?_
            exact Conv.p
open Go.Proofs
structure F90_L1 where
  n : Int
  o6 : List Bk
  o7 : List Vt
  o8 : List (ID × Int)
  o9 : List (Vt × Bool)
  x_5 : Bool
  o14 : List Bk
  o15 : List Vt
  left_0 : Nat
  left_1 : Nat
def F90_s1 (slot : Int) (x1 : F90_L1) : Option (F90_L1 ⊕ F90_L1) :=
  bif x1.n != (IntKind.i64.wrap ((x1.o6.length : Int) + (x1.o7.length : Int))) then
    (F137 x1.o14 x1.left_0 x1.o6 x1.o8 slot x1.x_5).bind fun v5 =>
    (F138 x1.o15 x1.left_1 x1.o7 v5.2.2.2.1 x1.o9 slot v5.2.2.2.2).bind fun v6 =>
    some (.inl (F90_L1.mk (IntKind.i64.wrap ((x1.o6.length : Int) + (x1.o7.length : Int))) v5.2.2.1 v6.2.2.1 v5.2.2.2.1 v6.2.2.2.1 v6.2.2.2.2 v5.2.1 v6.2.1 v5.1 v6.1))
  else
    some (.inr (F90_L1.mk x1.n x1.o6 x1.o7 x1.o8 x1.o9 x1.x_5 x1.o14 x1.o15 x1.left_0 x1.left_1))
def F90 (c : Cf) (w : Vw) (v_in : Vw) (slot : Int) : Option (Vw × Vw × Bool) :=
  (F130 w slot).bind fun v1 =>
  (F89 c w).bind fun v2 =>
  bif !v2 then
    bif room 0 v_in.B.length 40 then
      bif room 0 v_in.V.length 32 then
        some (w, v_in, false)
      else none
    else none
  else
    (F85V c v_in).bind fun v3 =>
    (iter (F90_s1 slot) big (F90_L1.mk (-1) w.B w.V v1.1 v1.2 false v3.1 v3.2 ((v3.1.map blkP).length) ((v3.2.map vtP).length))).bind fun v4 =>
    bif Nat.ble v4.left_0 v4.o14.length then
      bif Nat.ble v4.left_1 v4.o15.length then
        some (Vw.mk v4.o6 v4.o7, Vw.mk (v4.o14.take v4.left_0) (v4.o15.take v4.left_1), v4.x_5)
      else none
    else none
set_option maxRecDepth 100000 in
theorem c90 {c : Cf} {w : Vw} {v_in : Vw} {slot : Int} {r_ : Vw × Vw × Bool} (hr : F90 c w v_in slot = some r_) : LPure Tryz.prog 126 [cfP c, vwP w, vwP v_in, .int .i64 slot] [vwP r_.1, vwP r_.2.1, .bool r_.2.2] := by
  refine LPure.start Tryz.func126 rfl rfl rfl rfl ?_
  unfold F90 at hr
  refine LW.seq (LW.region (LOps.st rfl rfl rfl (LOp.box rfl rfl rfl rfl rfl) (LOps.st rfl rfl rfl (LOp.box rfl rfl rfl rfl rfl) (LOps.st rfl rfl rfl (LOp.box rfl rfl rfl rfl rfl) (LOps.st rfl rfl rfl (LOp.alloc rfl zt75 rfl rfl) (LOps.st rfl rfl rfl (LOp.alloc rfl zt75 rfl rfl) (LOps.st rfl rfl rfl (LOp.assign rfl rfl) (LOps.nil (thn_n (LW.seq (LW.region ?_)))))))))))
  refine LOps.st rfl rfl rfl (LOp.load rfl rfl rfl vt75 rfl rfl) (LOps.st rfl rfl rfl (LOp.move rfl rfl) ?_)
  obtain ⟨v1, h_v1, hr⟩ := bind_get hr
  refine LOps.st rfl rfl rfl (LOp.call rfl rfl rfl (by kernel_rfl) (LC.frameX (x' := .ptr 10 0) (H' := [.box [.p (.slice 1 (c.W.map i64P)), .p (.int .u64 c.Seed), .p (.int .i64 c.Epoch), .p (.int .i64 c.Num), .p (.int .i64 c.Den)], .box [.p (.slice 5 (w.B.map blkP)), .p (.slice 4 (w.V.map vtP))], .box [.p (.slice 5 (v_in.B.map blkP)), .p (.slice 4 (v_in.V.map vtP))], .box [.zs, .zs], .box [.zs, .zs], .box [.p (.slice 5 (w.B.map blkP)), .p (.slice 4 (w.V.map vtP))], .vec 5 (w.B.map blkP), .vec 4 (w.V.map vtP), .map (entsOf idP (fun v => .p (.int .i64 v)) v1.1), .map (entsOf vtP (fun v => .p (.bool v)) v1.2), .box [.vec 5 6 (w.B.map blkP).length 0 (w.B.map blkP).length, .vec 4 7 (w.V.map vtP).length 0 (w.V.map vtP).length, .map 8, .map 9, .p (.int .i64 slot), .p (.bool false)]]) (cF130 h_v1) (.consC Conv.p (.consC Conv.p .nil)) rfl rfl (by simp only [List.map_cons, List.map_nil, List.cons_append, List.nil_append, LObj.shift, LV.shifts, LV.shift, entsShI, entsShB] <;> rfl))) ?_
  refine LOps.st rfl rfl rfl (LOp.assign rfl rfl) (LOps.nil (thn_n (LW.seq (LW.seq (LW.region (LOps.st rfl rfl rfl (LOp.load rfl rfl rfl vt55 rfl rfl) (LOps.st rfl rfl rfl (LOp.load rfl rfl rfl vt75 rfl rfl) ?_)))))))
  obtain ⟨v2, h_v2, hr⟩ := bind_get hr
  refine LOps.st rfl rfl rfl (LOp.call rfl rfl rfl (by kernel_rfl) (LC.pure (c89 h_v2) (.cons Conv.p (.cons Conv.p .nil)))) (LOps.st rfl rfl rfl (LOp.not rfl rfl) (LOps.nil (thn_n ?_)))
  refine LW.cond rfl (fun (g1 : (!v2) = true) => ?_) (fun (g1 : (!v2) = false) => ?_)
  ·
    have hr := ite_t g1 hr
    refine LW.seq (LW.ent (Ent.slot rfl) (LW.ent (Ent.slot rfl) (LW.drawW (by kernel_rfl) (by kernel_rfl) ?_)))
    refine LF.st (F := []) (s := none) rfl rfl rfl (fun H _ => LOp.move rfl rfl) rfl ?_
    refine LF.st (F := []) (s := none) rfl rfl rfl (fun H _ => LOp.nilCheck rfl rfl) rfl ?_
    refine LF.st (F := []) (s := none) rfl rfl rfl (fun H _ => LOp.fieldAddr rfl rfl ft149_0) rfl ?_
    refine LF.st rfl rfl rfl (LAt.load rfl rfl rfl vt75 rfl rfl) rfl ?_
    refine LF.st (F := []) (s := none) rfl rfl rfl (fun H _ => LOp.fieldAddr rfl rfl ft75_0) rfl ?_
    refine LF.st rfl rfl rfl (LAt.load rfl rfl rfl vt27 rfl rfl) rfl ?_
    obtain ⟨q1, hr⟩ := grd_get hr
    refine LF.st rfl rfl rfl (LAt.callV (id := 11) (qs := [.p (.slice 5 (v_in.B.map blkP))]) rfl rfl rfl (by kernel_rfl) (c133V q1) (fun H => (.consC Conv.p .nil)) rfl) rfl ?_
    refine LF.st (F := []) (s := none) rfl rfl rfl (fun H _ => LOp.fieldAddr rfl rfl ft75_1) rfl ?_
    refine LF.st rfl rfl rfl (LAt.load rfl rfl rfl vt68 rfl rfl) rfl ?_
    obtain ⟨q2, hr⟩ := grd_get hr
    refine LF.st rfl rfl rfl (LAt.callV (id := 12) (qs := [.p (.slice 4 (v_in.V.map vtP))]) rfl rfl rfl (by kernel_rfl) (c134V q2) (fun H => (.consC Conv.p .nil)) rfl) rfl ?_
    refine LF.st (F := []) (s := none) rfl rfl rfl (fun H _ => LOp.build rfl bt75 rfl rfl rfl) rfl ?_
    refine LF.st rfl rfl rfl (LAt.store rfl rfl rfl rfl vt75 rfl rfl rfl) rfl (LF.st rfl rfl rfl (LAt.store rfl rfl rfl rfl vt75 rfl rfl rfl) rfl ?_)
    refine LF.st (F := []) (s := none) rfl rfl rfl (fun H _ => LOp.assign rfl rfl) rfl ?_
    refine LF.nil ⟨by kernel_rfl, ?_⟩
    refine thn_n (LW.ret (thn_r ?_))
    obtain rfl := Option.some.inj hr
    refine finP_ret (.three (.cellAgg rfl rfl (by kernel_rfl) rfl) (.cellAgg rfl rfl (by kernel_rfl) rfl) (.tmp rfl)) ?_
    exact ⟨_, rfl, (.cons (Conv.agg (.cons (Conv.vecAll rfl rfl rfl) (.cons (Conv.vecAll rfl rfl rfl) .nil))) (.cons (Conv.agg (.cons (Conv.vecAll rfl rfl rfl) (.cons (Conv.vecAll rfl rfl rfl) .nil))) (.cons Conv.p .nil)))⟩
  ·
    have hr := ite_f g1 hr
    refine LW.skip (thn_n (LW.seq (LW.region (LOps.st rfl rfl rfl (LOp.move rfl rfl) (LOps.st rfl rfl rfl (LOp.makeFunc rfl rfl rfl) (LOps.st rfl rfl rfl (LOp.move rfl rfl) (LOps.st rfl rfl rfl (LOp.makeFunc rfl rfl rfl) (LOps.st rfl rfl rfl (LOp.assign rfl rfl) (LOps.st rfl rfl rfl (LOp.assign rfl rfl) (LOps.nil (thn_n ?_)))))))))))
    refine LW.seq (LW.region (LOps.st rfl rfl rfl (LOp.load rfl rfl rfl vt55 rfl rfl) (LOps.st rfl rfl rfl (LOp.load rfl rfl rfl vt75 rfl rfl) ?_)))
    obtain ⟨v3, h_v3, hr⟩ := bind_get hr
    refine LOps.st rfl rfl rfl (LOp.call rfl rfl rfl (by kernel_rfl) (LC.frameX (x' := .agg [.vec 5 14 (v3.1.map blkP).length 0 (v3.1.map blkP).length, .vec 4 15 (v3.2.map vtP).length 0 (v3.2.map vtP).length]) (H' := [.box [.p (.slice 1 (c.W.map i64P)), .p (.int .u64 c.Seed), .p (.int .i64 c.Epoch), .p (.int .i64 c.Num), .p (.int .i64 c.Den)], .box [.p (.slice 5 (w.B.map blkP)), .p (.slice 4 (w.V.map vtP))], .box [.p (.slice 5 (v_in.B.map blkP)), .p (.slice 4 (v_in.V.map vtP))], .box [.zs, .zs], .box [.zs, .zs], .box [.p (.slice 5 (w.B.map blkP)), .p (.slice 4 (w.V.map vtP))], .vec 5 (w.B.map blkP), .vec 4 (w.V.map vtP), .map (entsOf idP (fun v => .p (.int .i64 v)) v1.1), .map (entsOf vtP (fun v => .p (.bool v)) v1.2), .box [.vec 5 6 (w.B.map blkP).length 0 (w.B.map blkP).length, .vec 4 7 (w.V.map vtP).length 0 (w.V.map vtP).length, .map 8, .map 9, .p (.int .i64 slot), .p (.bool false)], .box [.p (.slice 1 (c.W.map i64P)), .p (.int .u64 c.Seed), .p (.int .i64 c.Epoch), .p (.int .i64 c.Num), .p (.int .i64 c.Den)], .box [.p (.slice 5 (v_in.B.map blkP)), .p (.slice 4 (v_in.V.map vtP))], .box [.vec 5 14 (v3.1.map blkP).length 0 (v3.1.map blkP).length, .vec 4 15 (v3.2.map vtP).length 0 (v3.2.map vtP).length], .vec 5 (v3.1.map blkP), .vec 4 (v3.2.map vtP)]) (cF85V h_v3) (.consC Conv.p (.consC Conv.p .nil)) rfl rfl (by simp only [List.map_cons, List.map_nil, List.cons_append, List.nil_append, LObj.shift, LV.shifts, LV.shift] <;> rfl))) ?_
    refine LOps.st rfl rfl rfl (LOp.alloc rfl zt75 rfl rfl) (LOps.st rfl rfl rfl (LOp.store rfl rfl rfl rfl vt75 rfl rfl rfl rfl) (LOps.nil (thn_n (LW.seq (LW.seq (LW.ent (Ent.kill (i := 0) rfl) (LW.ent (Ent.kill (i := 1) rfl) (LW.ent (Ent.kill (i := 2) rfl) (LW.ent (Ent.kill (i := 5) rfl) (LW.ent (Ent.kill (i := 11) rfl) (LW.ent (Ent.kill (i := 12) rfl) ?_)))))))))))
    refine LW.ent (Ent.kill (i := 13) rfl) (LW.region (LOps.st rfl rfl rfl (LOp.assign rfl rfl) (LOps.nil (thn_n ?_))))
    obtain ⟨v4, hb_v4, ho_v4⟩ := bind_get hr
    clear hr
    refine LW.tail (E := [(8, .ptr 3 0), (9, .ptr 4 0), (10, .p (.bool false)), (11, .ptr 10 0), (14, .ptr 16 0)]) (O := [.dead, .dead, .dead, .box [.zs, .zs], .box [.zs, .zs], .dead, .vec 5 (v4.o6.map blkP), .vec 4 (v4.o7.map vtP), .map (entsOf idP (fun v => .p (.int .i64 v)) v4.o8), .map (entsOf vtP (fun v => .p (.bool v)) v4.o9), .box [.vec 5 6 (v4.o6.map blkP).length 0 (v4.o6.map blkP).length, .vec 4 7 (v4.o7.map vtP).length 0 (v4.o7.map vtP).length, .map 8, .map 9, .p (.int .i64 slot), .p (.bool v4.x_5)], .dead, .dead, .dead, .vec 5 (v4.o14.map blkP), .vec 4 (v4.o15.map vtP), .box [.vec 5 14 (v4.o14.map blkP).length 0 v4.left_0, .vec 4 15 (v4.o15.map vtP).length 0 v4.left_1]]) ?_ (fun env_v4 H_v4 hw_v4 => ?_)
    · refine LW.block ?_
      refine LW.iterB (E := fun x1 : F90_L1 => [(8, .ptr 3 0), (9, .ptr 4 0), (10, .p (.bool false)), (11, .ptr 10 0), (12, .fn 153 [.ptr 10 0] []), (13, .fn 154 [.ptr 10 0] []), (14, .ptr 16 0), (15, .p (.int .i64 x1.n))]) (O := fun x1 => [.dead, .dead, .dead, .box [.zs, .zs], .box [.zs, .zs], .dead, .vec 5 (x1.o6.map blkP), .vec 4 (x1.o7.map vtP), .map (entsOf idP (fun v => .p (.int .i64 v)) x1.o8), .map (entsOf vtP (fun v => .p (.bool v)) x1.o9), .box [.vec 5 6 (x1.o6.map blkP).length 0 (x1.o6.map blkP).length, .vec 4 7 (x1.o7.map vtP).length 0 (x1.o7.map vtP).length, .map 8, .map 9, .p (.int .i64 slot), .p (.bool x1.x_5)], .dead, .dead, .dead, .vec 5 (x1.o14.map blkP), .vec 4 (x1.o15.map vtP), .box [.vec 5 14 (x1.o14.map blkP).length 0 x1.left_0, .vec 4 15 (x1.o15.map vtP).length 0 x1.left_1]]) hb_v4 (Weak.of 17 ⟨rfl, rfl, rfl, rfl, rfl, rfl, rfl, rfl, trivial⟩ rfl rfl rfl (lowObjs_cons rfl (lowObjs_cons rfl (lowObjs_cons rfl (lowObjs_cons rfl (lowObjs_cons rfl (lowObjs_cons rfl (lowObjs_cons rfl (lowObjs_cons rfl (lowObjs_cons (entsLow (fun _ => rfl) _) (lowObjs_cons (entsLow (fun _ => rfl) _) (lowObjs_cons rfl (lowObjs_cons rfl (lowObjs_cons rfl (lowObjs_cons rfl (lowObjs_cons rfl (lowObjs_cons rfl (lowObjs_cons rfl rfl)))))))))))))))))) (fun x1 z_x1 hr hb_x1 => ?_)
      unfold F90_s1 at hr
      refine LW.seq (LW.seq (LW.draw (by kernel_rfl) (by kernel_rfl) (LO.st rfl rfl rfl (LOp.move rfl rfl) (LO.st rfl rfl rfl (LOp.move rfl rfl) (LO.st rfl rfl rfl (LOp.nilCheck rfl rfl) (LO.st rfl rfl rfl (LOp.fieldAddr rfl rfl ft149_0) (LO.st rfl rfl rfl (LOp.fieldAddr rfl rfl ft75_0) (LO.st rfl rfl rfl (LOp.load rfl rfl rfl vt27 rfl rfl) (LO.st rfl rfl rfl (LOp.lenVM rfl rfl rfl (by kernel_rfl)) (LO.st rfl rfl rfl (LOp.move rfl rfl) (LO.st rfl rfl rfl (LOp.nilCheck rfl rfl) ?_)))))))))))
      refine LO.st rfl rfl rfl (LOp.fieldAddr rfl rfl ft149_0) (LO.st rfl rfl rfl (LOp.fieldAddr rfl rfl ft75_1) (LO.st rfl rfl rfl (LOp.load rfl rfl rfl vt68 rfl rfl) (LO.st rfl rfl rfl (LOp.lenVM rfl rfl rfl (by kernel_rfl)) (LO.st rfl rfl rfl (LOp.bin rfl rfl rfl rfl) (LO.st rfl rfl rfl (LOp.bin rfl rfl rfl rfl) (LO.nil (thn_n ?_)))))))
      refine LW.cond rfl (fun (g2 : (x1.n != (IntKind.i64.wrap ((x1.o6.length : Int) + (x1.o7.length : Int)))) = true) => ?_) (fun (g2 : (x1.n != (IntKind.i64.wrap ((x1.o6.length : Int) + (x1.o7.length : Int)))) = false) => ?_)
      ·
        have hr := ite_t g2 hr
        refine LW.skip (thn_n (LW.block (LW.seq (LW.draw (by kernel_rfl) (by kernel_rfl) (LO.st rfl rfl rfl (LOp.move rfl rfl) (LO.st rfl rfl rfl (LOp.nilCheck rfl rfl) (LO.st rfl rfl rfl (LOp.fieldAddr rfl rfl ft149_0) (LO.st rfl rfl rfl (LOp.fieldAddr rfl rfl ft75_0) (LO.st rfl rfl rfl (LOp.load rfl rfl rfl vt27 rfl rfl) (LO.st rfl rfl rfl (LOp.lenVM rfl rfl rfl (by kernel_rfl)) (LO.st rfl rfl rfl (LOp.move rfl rfl) ?_)))))))))))
        refine LO.st rfl rfl rfl (LOp.nilCheck rfl rfl) (LO.st rfl rfl rfl (LOp.fieldAddr rfl rfl ft149_0) (LO.st rfl rfl rfl (LOp.fieldAddr rfl rfl ft75_1) (LO.st rfl rfl rfl (LOp.load rfl rfl rfl vt68 rfl rfl) (LO.st rfl rfl rfl (LOp.lenVM rfl rfl rfl (by kernel_rfl)) (LO.st rfl rfl rfl (LOp.bin rfl rfl rfl rfl) (LO.st rfl rfl rfl (LOp.assign rfl rfl) (LO.nil (thn_n (LW.seq (LW.region (LOps.st rfl rfl rfl (LOp.fieldAddr rfl rfl ft75_0) ?_)))))))))))
        refine LOps.st rfl rfl rfl (LOp.load rfl rfl rfl vt27 rfl rfl) (LOps.st rfl rfl rfl (LOp.move rfl rfl) ?_)
        obtain ⟨v5, h_v5, hr⟩ := bind_get hr
        refine LOps.st rfl rfl rfl (LOp.call rfl rfl rfl (by kernel_rfl) (cF137 h_v5)) (LOps.st rfl rfl rfl (LOp.fieldAddr rfl rfl ft75_0) (LOps.st rfl rfl rfl (LOp.store rfl rfl rfl rfl vt27 rfl rfl rfl rfl) (LOps.nil (thn_n (LW.region (LOps.st rfl rfl rfl (LOp.fieldAddr rfl rfl ft75_1) (LOps.st rfl rfl rfl (LOp.load rfl rfl rfl vt68 rfl rfl) (LOps.st rfl rfl rfl (LOp.move rfl rfl) ?_))))))))
        obtain ⟨v6, h_v6, hr⟩ := bind_get hr
        refine LOps.st rfl rfl rfl (LOp.call rfl rfl rfl (by kernel_rfl) (cF138 h_v6)) (LOps.st rfl rfl rfl (LOp.fieldAddr rfl rfl ft75_1) (LOps.st rfl rfl rfl (LOp.store rfl rfl rfl rfl vt68 rfl rfl rfl rfl) (LOps.nil (inBlk_n (thn_n ?_)))))
        obtain rfl := Option.some.inj hr
        exact ⟨_, rfl, Weak.of 17 ⟨rfl, rfl, rfl, rfl, rfl, rfl, rfl, rfl, trivial⟩ rfl rfl rfl (lowObjs_cons rfl (lowObjs_cons rfl (lowObjs_cons rfl (lowObjs_cons rfl (lowObjs_cons rfl (lowObjs_cons rfl (lowObjs_cons rfl (lowObjs_cons rfl (lowObjs_cons (entsLow (fun _ => rfl) _) (lowObjs_cons (entsLow (fun _ => rfl) _) (lowObjs_cons rfl (lowObjs_cons rfl (lowObjs_cons rfl (lowObjs_cons rfl (lowObjs_cons rfl (lowObjs_cons rfl (lowObjs_cons rfl rfl)))))))))))))))))⟩
      ·
        have hr := ite_f g2 hr
        refine LW.exit (thn_e (thn_e (inBlk_self (thn_n ?_))))
        obtain rfl := Option.some.inj hr
        have hr := congrArg some (hb_x1 _ rfl)
        obtain rfl := Option.some.inj hr
        exact Weak.of 17 ⟨rfl, rfl, rfl, rfl, rfl, trivial⟩ rfl rfl rfl (lowObjs_cons rfl (lowObjs_cons rfl (lowObjs_cons rfl (lowObjs_cons rfl (lowObjs_cons rfl (lowObjs_cons rfl (lowObjs_cons rfl (lowObjs_cons rfl (lowObjs_cons (entsLow (fun _ => rfl) _) (lowObjs_cons (entsLow (fun _ => rfl) _) (lowObjs_cons rfl (lowObjs_cons rfl (lowObjs_cons rfl (lowObjs_cons rfl (lowObjs_cons rfl (lowObjs_cons rfl (lowObjs_cons rfl rfl)))))))))))))))))
    · have hr := ho_v4
      clear hb_v4
      refine thn_n (LW.weak hw_v4 (LW.seq (LW.drawW (by kernel_rfl) (by kernel_rfl) ?_)))
      refine LF.st (F := []) (s := none) rfl rfl rfl (fun H _ => LOp.move rfl rfl) rfl ?_
      refine LF.st (F := []) (s := none) rfl rfl rfl (fun H _ => LOp.nilCheck rfl rfl) rfl ?_
      refine LF.st (F := []) (s := none) rfl rfl rfl (fun H _ => LOp.fieldAddr rfl rfl ft149_0) rfl ?_
      refine LF.st rfl rfl rfl (LAt.load rfl rfl rfl vt75 rfl rfl) rfl ?_
      obtain ⟨q3, hr⟩ := grd_get hr
      obtain ⟨q4, hr⟩ := grd_get hr
      refine LF.st rfl rfl rfl (LAt.load rfl rfl rfl vt75 rfl rfl) rfl ?_
      refine LF.st (F := []) (s := none) rfl rfl rfl (fun H _ => LOp.move rfl rfl) rfl ?_
      refine LF.st (F := []) (s := none) rfl rfl rfl (fun H _ => LOp.nilCheck rfl rfl) rfl ?_
      refine LF.st (F := []) (s := none) rfl rfl rfl (fun H _ => LOp.fieldAddr rfl rfl ft149_4) rfl ?_
      refine LF.st rfl rfl rfl (LAt.load rfl rfl rfl vt4 rfl rfl) rfl (LF.st rfl rfl rfl (LAt.store rfl rfl rfl rfl vt75 rfl rfl rfl) rfl (LF.st rfl rfl rfl (LAt.store rfl rfl rfl rfl vt75 rfl rfl rfl) rfl ?_))
      refine LF.st (F := []) (s := none) rfl rfl rfl (fun H _ => LOp.assign rfl rfl) rfl ?_
      refine LF.nil ⟨by kernel_rfl, ?_⟩
      refine thn_n (LW.ret ?_)
      obtain rfl := Option.some.inj hr
      refine finP_ret (.three (.cellAgg rfl rfl (by kernel_rfl) rfl) (.cellAgg rfl rfl (by kernel_rfl) rfl) (.tmp rfl)) ?_
      exact ⟨_, rfl, (.cons (Conv.agg (.cons (Conv.vecAll rfl rfl rfl) (.cons (Conv.vecAll rfl rfl rfl) .nil))) (.cons (Conv.agg (.cons (Conv.vecTake rfl q3) (.cons (Conv.vecTake rfl q4) .nil))) (.cons Conv.p .nil)))⟩
end Go.Mg
