/- Laws of trees. Conditions: none. -/
import Derived.Test.YtlhocfhoocmfiaaL3
namespace Go.Mg
open Go.Proofs


/-! marigold/marigoldlaw06.TreeChains -/
structure F10_L1 where
  i : Int
structure F10_L2 where
  v_is : Bool
  j : Int

def F10_s2 (l : List Bk) (id : ID) (x1 : F10_L1) (v12 : (List ID)) (x2 : F10_L2) : Option (F10_L2 ⊕ F10_L2) :=
  bif decide (x2.j < (v12.length : Int)) then
    bif x2.v_is then
      some (.inl (F10_L2.mk true (IntKind.i64.wrap (x2.j + 1))))
    else
      (ix v12 x2.j).bind fun y10 =>
      (ix (chainOf l id) x1.i).bind fun y11 =>
      some (.inl (F10_L2.mk ((y10.1 == y11.1) && ((y10.2 == y11.2) && true)) (IntKind.i64.wrap (x2.j + 1))))
  else
    some (.inr (F10_L2.mk x2.v_is x2.j))
def F10_s1 (l : List Bk) (id : ID) (x1 : F10_L1) : Option (F10_L1 ⊕ (F10_L1 ⊕ Bool)) :=
  bif decide ((IntKind.i64.wrap (x1.i + 1)) < ((chainOf l id).length : Int)) then
    (ix (chainOf l id) x1.i).bind fun y3 =>
    (F43 l y3).bind fun v8 =>
    (ix (chainOf l id) (IntKind.i64.wrap (x1.i + 1))).bind fun y4 =>
    (F43 l y4).bind fun v9 =>
    (ix (chainOf l id) x1.i).bind fun y5 =>
    (F53 l y5).bind fun v10 =>
    (
      bif decide (v8.1 ≤ v9.1) then
        some true
      else
        bif decide (v10 < 0) then
          some true
        else
          (ix l v10).bind fun y6 =>
          (ix (chainOf l id) (IntKind.i64.wrap (x1.i + 1))).bind fun y7 =>
          bif !((y6.Parent.1 == y7.1) && ((y6.Parent.2 == y7.2) && true)) then
            some true
          else
            (ix (chainOf l id) (IntKind.i64.wrap (x1.i + 1))).bind fun y8 =>
            bif few l then
              some (!(decide (indexOf (chainOf l id) y8 ≥ 0)))
            else none
    ).bind fun v11 =>
    bif v11 then
      some (.inr (.inr false))
    else
      (ix (chainOf l id) (IntKind.i64.wrap (x1.i + 1))).bind fun y9 =>
      (F46 l y9).bind fun v12 =>
      (iter (F10_s2 l id x1 v12) big (F10_L2.mk false 0)).bind fun v13 =>
      bif !v13.v_is then
        some (.inr (.inr false))
      else
        some (.inl (F10_L1.mk (IntKind.i64.wrap (x1.i + 1))))
  else
    some (.inr (.inl (F10_L1.mk x1.i)))
def F10 (l : List Bk) (id : ID) : Option Bool :=
  (F41 ).bind fun v1 =>
  (
    bif !v1 then
      some true
    else
      some (decide ((l.length : Int) > 40))
  ).bind fun v2 =>
  bif v2 then
    some v1
  else
    bif few l then
      bif ((chainOf l id).length : Int) == 0 then
        (
          (F52 l).bind fun v4 =>
          bif !v4 then
            some true
          else
            (F53 l id).bind fun v5 =>
            bif decide (v5 < 0) then
              some (!((id.1 == 0) && ((id.2 == 0) && true)))
            else
              some false
        ).bind fun v3 =>
        some v3
      else
        (
          (ix (chainOf l id) 0).bind fun y1 =>
          bif !((y1.1 == id.1) && ((y1.2 == id.2) && true)) then
            some true
          else
            (ix (chainOf l id) (IntKind.i64.wrap (((chainOf l id).length : Int) - 1))).bind fun y2 =>
            bif !((y2.1 == 0) && ((y2.2 == 0) && true)) then
              some true
            else
              some (decide (((chainOf l id).length : Int) > (IntKind.i64.wrap ((l.length : Int) + 1))))
        ).bind fun v6 =>
        bif v6 then
          some false
        else
          (iter (F10_s1 l id) big (F10_L1.mk 0)).bind fun b_v7 => Sum.elim (fun _ =>
            some true) some b_v7
    else none

set_option maxRecDepth 100000 in
theorem c10 {l : List Bk} {id : ID} {r_ : Bool} (hr : F10 l id = some r_) : LPure Try.prog 10 [.slice 5 (l.map blkP), idP id] [.bool r_] := by
  refine LPure.start Try.func10 rfl rfl rfl rfl ?_
  unfold F10 at hr
  refine LW.seq ?_
  refine LW.region ?_
  refine LOps.st rfl rfl rfl (LOp.box rfl rfl rfl rfl rfl) ?_
  refine LOps.st rfl rfl rfl (LOp.assign rfl rfl) ?_
  refine LOps.nil ?_
  refine thn_n ?_
  refine LW.seq ?_
  refine LW.region ?_
  obtain ⟨v1, h_v1, hr⟩ := bind_get hr
  refine LOps.st rfl rfl rfl (LOp.call rfl rfl rfl (by kernel_rfl) (LC.pure (c41 h_v1) .nil)) ?_
  refine LOps.st rfl rfl rfl (LOp.assign rfl rfl) ?_
  refine LOps.nil ?_
  refine thn_n ?_
  refine LW.seq ?_
  obtain ⟨v2, hb_v2, ho_v2⟩ := bind_get hr
  clear hr
  refine LW.cut (E := [(0, .p (.slice 5 (l.map blkP))), (3, .ptr 0 0), (4, .p (.bool false)), (5, .p (.bool v1)), (23, .p (.bool v2))]) (O := [.box [.p (.int .u64 id.1), .p (.int .u64 id.2)]]) ?_ ?_
  · have hr := hb_v2
    refine LW.region ?_
    refine LOps.st rfl rfl rfl (LOp.move rfl rfl) ?_
    refine LOps.st rfl rfl rfl (LOp.not rfl rfl) ?_
    refine LOps.st rfl rfl rfl (LOp.move rfl rfl) ?_
    refine LOps.cases 19 rfl (fun (g1 : (!v1) = true) => ?_) (fun (g1 : (!v1) = false) => ?_)
    · -- g1 is True
      have hr := ite_t g1 hr
      refine LOps.sk rfl rfl rfl (gd g1 rfl) rfl rfl ?_
      refine LOps.sk rfl rfl rfl (gd g1 rfl) rfl rfl ?_
      refine LOps.sk rfl rfl rfl (gd g1 rfl) rfl rfl ?_
      refine LOps.st rfl rfl rfl (LOp.pickT rfl (gdl g1 rfl) rfl) ?_
      refine LOps.nil ?_
      refine thn_n ?_
      obtain rfl := Option.some.inj hr
      exact Weak.of 1 ⟨rfl, rfl, rfl, rfl, rfl, trivial⟩ rfl rfl rfl rfl
    · -- g1 is False
      have hr := ite_f g1 hr
      refine LOps.gd rfl rfl rfl (gd g1 rfl) rfl (LOp.move rfl rfl) ?_
      refine LOps.gd rfl rfl rfl (gd g1 rfl) rfl (LOp.lenM rfl rfl (by kernel_rfl)) ?_
      refine LOps.gd rfl rfl rfl (gd g1 rfl) rfl (LOp.bin rfl rfl rfl rfl) ?_
      refine LOps.st rfl rfl rfl (LOp.pickF rfl (gdl g1 rfl) rfl) ?_
      refine LOps.nil ?_
      refine thn_n ?_
      obtain rfl := Option.some.inj hr
      exact Weak.of 1 ⟨rfl, rfl, rfl, rfl, rfl, trivial⟩ rfl rfl rfl rfl
  · have hr := ho_v2
    clear hb_v2
    refine LW.cond rfl (fun (g2 : v2 = true) => ?_) (fun (g2 : v2 = false) => ?_)
    · -- g2 is True
      have hr := ite_t g2 hr
      refine LW.seq ?_
      refine LW.region ?_
      refine LOps.st rfl rfl rfl (LOp.move rfl rfl) ?_
      refine LOps.st rfl rfl rfl (LOp.assign rfl rfl) ?_
      refine LOps.nil ?_
      refine thn_n ?_
      refine LW.ret ?_
      refine thn_r ?_
      obtain rfl := Option.some.inj hr
      refine finP_ret (.one (.tmp rfl)) ?_
      exact Conv.p
    · -- g2 is False
      have hr := ite_f g2 hr
      refine LW.skip ?_
      refine thn_n ?_
      refine LW.seq ?_
      refine LW.region ?_
      refine LOps.st rfl rfl rfl (LOp.move rfl rfl) ?_
      refine LOps.st rfl rfl rfl (LOp.load rfl rfl rfl vt24 rfl rfl) ?_
      obtain ⟨q1, hr⟩ := grd_get hr
      refine LOps.st rfl rfl rfl (LOp.call rfl rfl rfl (by kernel_rfl) (LC.pure (c39 (l := l) (id := id) (few_le q1)) (.cons Conv.p (.cons Conv.p .nil)))) ?_
      refine LOps.st rfl rfl rfl (LOp.assign rfl rfl) ?_
      refine LOps.nil ?_
      refine thn_n ?_
      refine LW.seq ?_
      refine LW.seq ?_
      refine LW.region ?_
      refine LOps.st rfl rfl rfl (LOp.move rfl rfl) ?_
      refine LOps.st rfl rfl rfl (LOp.lenM rfl rfl (by kernel_rfl)) ?_
      refine LOps.st rfl rfl rfl (LOp.bin rfl rfl rfl rfl) ?_
      refine LOps.nil ?_
      refine thn_n ?_
      refine LW.cond rfl (fun (g3 : (((chainOf l id).length : Int) == 0) = true) => ?_) (fun (g3 : (((chainOf l id).length : Int) == 0) = false) => ?_)
      · -- g3 is True
        have hr := ite_t g3 hr
        obtain ⟨v3, hb_v3, ho_v3⟩ := bind_get hr
        clear hr
        refine LW.cut (E := [(0, .p (.slice 5 (l.map blkP))), (3, .ptr 0 0), (4, .p (.bool v3)), (6, .p (.slice 2 ((chainOf l id).map idP)))]) (O := [.box [.p (.int .u64 id.1), .p (.int .u64 id.2)]]) ?_ ?_
        · have hr := hb_v3
          refine LW.region ?_
          refine LOps.st rfl rfl rfl (LOp.move rfl rfl) ?_
          obtain ⟨v4, h_v4, hr⟩ := bind_get hr
          refine LOps.st rfl rfl rfl (LOp.call rfl rfl rfl (by kernel_rfl) (LC.pure (c52 h_v4) (.cons Conv.p .nil))) ?_
          refine LOps.st rfl rfl rfl (LOp.not rfl rfl) ?_
          refine LOps.st rfl rfl rfl (LOp.move rfl rfl) ?_
          refine LOps.cases 34 rfl (fun (g4 : (!v4) = true) => ?_) (fun (g4 : (!v4) = false) => ?_)
          · -- g4 is True
            have hr := ite_t g4 hr
            refine LOps.sk rfl rfl rfl (gd g4 rfl) rfl rfl ?_
            refine LOps.sk rfl rfl rfl (gd g4 rfl) rfl rfl ?_
            refine LOps.sk rfl rfl rfl (gd g4 rfl) rfl rfl ?_
            refine LOps.sk rfl rfl rfl (gd g4 rfl) rfl rfl ?_
            refine LOps.sk rfl rfl rfl (gd g4 rfl) rfl rfl ?_
            refine LOps.sku rfl rfl rfl rfl rfl ?_
            refine LOps.sku rfl rfl rfl rfl rfl ?_
            refine LOps.sku rfl rfl rfl rfl rfl ?_
            refine LOps.sk rfl rfl rfl (gd g4 rfl) rfl rfl ?_
            refine LOps.st rfl rfl rfl (LOp.pickT rfl (gdl g4 rfl) rfl) ?_
            refine LOps.st rfl rfl rfl (LOp.assign rfl rfl) ?_
            refine LOps.nil ?_
            refine thn_n ?_
            obtain rfl := Option.some.inj hr
            exact Weak.of 1 ⟨rfl, rfl, rfl, rfl, trivial⟩ rfl rfl rfl rfl
          · -- g4 is False
            have hr := ite_f g4 hr
            refine LOps.gd rfl rfl rfl (gd g4 rfl) rfl (LOp.move rfl rfl) ?_
            refine LOps.gd rfl rfl rfl (gd g4 rfl) rfl (LOp.load rfl rfl rfl vt24 rfl rfl) ?_
            obtain ⟨v5, h_v5, hr⟩ := bind_get hr
            refine LOps.gd rfl rfl rfl (gd g4 rfl) rfl (LOp.call rfl rfl rfl (by kernel_rfl) (LC.pure (c53 h_v5) (.cons Conv.p (.cons Conv.p .nil)))) ?_
            refine LOps.gd rfl rfl rfl (gd g4 rfl) rfl (LOp.bin rfl rfl rfl rfl) ?_
            refine LOps.gd rfl rfl rfl (gd g4 rfl) rfl (LOp.move rfl rfl) ?_
            refine LOps.cases 39 rfl (fun (g5 : (decide (v5 < 0)) = true) => ?_) (fun (g5 : (decide (v5 < 0)) = false) => ?_)
            · -- g5 is True
              have hr := ite_t g5 hr
              refine LOps.gd rfl rfl rfl (gd g5 rfl) rfl (LOp.load rfl rfl rfl vt24 rfl rfl) ?_
              refine LOps.gd rfl rfl rfl (gd g5 rfl) rfl (LOp.build rfl bt24 rfl rfl rfl) ?_
              refine LOps.gd rfl rfl rfl (gd g5 rfl) rfl (LOp.neqAgg rfl rfl rfl rfl rfl eqt24) ?_
              refine LOps.gd rfl rfl rfl (gd g4 rfl) rfl (LOp.pickT rfl (gdl g5 rfl) rfl) ?_
              refine LOps.st rfl rfl rfl (LOp.pickF rfl (gdl g4 rfl) rfl) ?_
              refine LOps.st rfl rfl rfl (LOp.assign rfl rfl) ?_
              refine LOps.nil ?_
              refine thn_n ?_
              obtain rfl := Option.some.inj hr
              exact Weak.of 1 ⟨rfl, rfl, rfl, rfl, trivial⟩ rfl rfl rfl rfl
            · -- g5 is False
              have hr := ite_f g5 hr
              refine LOps.sk rfl rfl rfl (gd g5 rfl) rfl rfl ?_
              refine LOps.sk rfl rfl rfl (gd g5 rfl) rfl rfl ?_
              refine LOps.sk rfl rfl rfl (gd g5 rfl) rfl rfl ?_
              refine LOps.gd rfl rfl rfl (gd g4 rfl) rfl (LOp.pickF rfl (gdl g5 rfl) rfl) ?_
              refine LOps.st rfl rfl rfl (LOp.pickF rfl (gdl g4 rfl) rfl) ?_
              refine LOps.st rfl rfl rfl (LOp.assign rfl rfl) ?_
              refine LOps.nil ?_
              refine thn_n ?_
              obtain rfl := Option.some.inj hr
              exact Weak.of 1 ⟨rfl, rfl, rfl, rfl, trivial⟩ rfl rfl rfl rfl
        · have hr := ho_v3
          clear hb_v3
          refine LW.ret ?_
          refine thn_r ?_
          obtain rfl := Option.some.inj hr
          refine finP_ret (.one (.tmp rfl)) ?_
          exact Conv.p
      · -- g3 is False
        have hr := ite_f g3 hr
        refine LW.skip ?_
        refine thn_n ?_
        refine LW.seq ?_
        obtain ⟨v6, hb_v6, ho_v6⟩ := bind_get hr
        clear hr
        refine LW.cut (E := [(0, .p (.slice 5 (l.map blkP))), (3, .ptr 0 0), (4, .p (.bool false)), (6, .p (.slice 2 ((chainOf l id).map idP))), (67, .p (.bool v6))]) (O := [.box [.p (.int .u64 id.1), .p (.int .u64 id.2)]]) ?_ ?_
        · have hr := hb_v6
          refine LW.draw (by kernel_rfl) (by kernel_rfl) ?_
          refine LO.st rfl rfl rfl (LOp.move rfl rfl) ?_
          obtain ⟨y1, h_y1, hr⟩ := bind_get hr
          refine LO.st rfl rfl rfl (LOp.indexAddrX rfl rfl rfl st31 h_y1 rfl) ?_
          refine LO.st rfl rfl rfl (LOp.loadC rfl rfl rfl vt24 rfl rfl) ?_
          refine LO.st rfl rfl rfl (LOp.load rfl rfl rfl vt24 rfl rfl) ?_
          refine LO.st rfl rfl rfl (LOp.neqAgg rfl rfl rfl rfl rfl eqt24) ?_
          refine LO.st rfl rfl rfl (LOp.move rfl rfl) ?_
          refine LO.cases 50 rfl (fun (g6 : (!((y1.1 == id.1) && ((y1.2 == id.2) && true))) = true) => ?_) (fun (g6 : (!((y1.1 == id.1) && ((y1.2 == id.2) && true))) = false) => ?_)
          · -- g6 is True
            have hr := ite_t g6 hr
            refine LO.sk rfl rfl rfl (gd g6 rfl) rfl rfl ?_
            refine LO.sk rfl rfl rfl (gd g6 rfl) rfl rfl ?_
            refine LO.sk rfl rfl rfl (gd g6 rfl) rfl rfl ?_
            refine LO.sk rfl rfl rfl (gd g6 rfl) rfl rfl ?_
            refine LO.sk rfl rfl rfl (gd g6 rfl) rfl rfl ?_
            refine LO.sk rfl rfl rfl (gd g6 rfl) rfl rfl ?_
            refine LO.sk rfl rfl rfl (gd g6 rfl) rfl rfl ?_
            refine LO.sk rfl rfl rfl (gd g6 rfl) rfl rfl ?_
            refine LO.st rfl rfl rfl (LOp.pickT rfl (gdl g6 rfl) rfl) ?_
            refine LO.st rfl rfl rfl (LOp.move rfl rfl) ?_
            refine LO.sk rfl rfl rfl rfl rfl rfl ?_
            refine LO.sk rfl rfl rfl rfl rfl rfl ?_
            refine LO.sk rfl rfl rfl rfl rfl rfl ?_
            refine LO.sk rfl rfl rfl rfl rfl rfl ?_
            refine LO.sk rfl rfl rfl rfl rfl rfl ?_
            refine LO.sk rfl rfl rfl rfl rfl rfl ?_
            refine LO.st rfl rfl rfl (LOp.pickT rfl rfl rfl) ?_
            refine LO.nil ?_
            refine thn_n ?_
            obtain rfl := Option.some.inj hr
            exact Weak.of 1 ⟨rfl, rfl, rfl, rfl, rfl, trivial⟩ rfl rfl rfl rfl
          · -- g6 is False
            have hr := ite_f g6 hr
            refine LO.gd rfl rfl rfl (gd g6 rfl) rfl (LOp.move rfl rfl) ?_
            refine LO.gd rfl rfl rfl (gd g6 rfl) rfl (LOp.move rfl rfl) ?_
            refine LO.gd rfl rfl rfl (gd g6 rfl) rfl (LOp.lenM rfl rfl (by kernel_rfl)) ?_
            refine LO.gd rfl rfl rfl (gd g6 rfl) rfl (LOp.bin rfl rfl rfl rfl) ?_
            obtain ⟨y2, h_y2, hr⟩ := bind_get hr
            refine LO.gd rfl rfl rfl (gd g6 rfl) rfl (LOp.indexAddrX rfl rfl rfl st31 h_y2 rfl) ?_
            refine LO.gd rfl rfl rfl (gd g6 rfl) rfl (LOp.loadC rfl rfl rfl vt24 rfl rfl) ?_
            refine LO.gd rfl rfl rfl (gd g6 rfl) rfl (LOp.build rfl bt24 rfl rfl rfl) ?_
            refine LO.gd rfl rfl rfl (gd g6 rfl) rfl (LOp.neqAgg rfl rfl rfl rfl rfl eqt24) ?_
            refine LO.st rfl rfl rfl (LOp.pickF rfl (gdl g6 rfl) rfl) ?_
            refine LO.st rfl rfl rfl (LOp.move rfl rfl) ?_
            refine LO.cases 60 rfl (fun (g7 : (!((y2.1 == 0) && ((y2.2 == 0) && true))) = true) => ?_) (fun (g7 : (!((y2.1 == 0) && ((y2.2 == 0) && true))) = false) => ?_)
            · -- g7 is True
              have hr := ite_t g7 hr
              refine LO.sk rfl rfl rfl (gd g7 rfl) rfl rfl ?_
              refine LO.sk rfl rfl rfl (gd g7 rfl) rfl rfl ?_
              refine LO.sk rfl rfl rfl (gd g7 rfl) rfl rfl ?_
              refine LO.sk rfl rfl rfl (gd g7 rfl) rfl rfl ?_
              refine LO.sk rfl rfl rfl (gd g7 rfl) rfl rfl ?_
              refine LO.sk rfl rfl rfl (gd g7 rfl) rfl rfl ?_
              refine LO.st rfl rfl rfl (LOp.pickT rfl (gdl g7 rfl) rfl) ?_
              refine LO.nil ?_
              refine thn_n ?_
              obtain rfl := Option.some.inj hr
              exact Weak.of 1 ⟨rfl, rfl, rfl, rfl, rfl, trivial⟩ rfl rfl rfl rfl
            · -- g7 is False
              have hr := ite_f g7 hr
              refine LO.gd rfl rfl rfl (gd g7 rfl) rfl (LOp.move rfl rfl) ?_
              refine LO.gd rfl rfl rfl (gd g7 rfl) rfl (LOp.lenM rfl rfl (by kernel_rfl)) ?_
              refine LO.gd rfl rfl rfl (gd g7 rfl) rfl (LOp.move rfl rfl) ?_
              refine LO.gd rfl rfl rfl (gd g7 rfl) rfl (LOp.lenM rfl rfl (by kernel_rfl)) ?_
              refine LO.gd rfl rfl rfl (gd g7 rfl) rfl (LOp.bin rfl rfl rfl rfl) ?_
              refine LO.gd rfl rfl rfl (gd g7 rfl) rfl (LOp.bin rfl rfl rfl rfl) ?_
              refine LO.st rfl rfl rfl (LOp.pickF rfl (gdl g7 rfl) rfl) ?_
              refine LO.nil ?_
              refine thn_n ?_
              obtain rfl := Option.some.inj hr
              exact Weak.of 1 ⟨rfl, rfl, rfl, rfl, rfl, trivial⟩ rfl rfl rfl rfl
        · have hr := ho_v6
          clear hb_v6
          refine LW.cond rfl (fun (g8 : v6 = true) => ?_) (fun (g8 : v6 = false) => ?_)
          · -- g8 is True
            have hr := ite_t g8 hr
            refine LW.seq ?_
            refine LW.region ?_
            refine LOps.st rfl rfl rfl (LOp.assign rfl rfl) ?_
            refine LOps.nil ?_
            refine thn_n ?_
            refine LW.ret ?_
            refine thn_r ?_
            obtain rfl := Option.some.inj hr
            refine finP_ret (.one (.tmp rfl)) ?_
            exact Conv.p
          · -- g8 is False
            have hr := ite_f g8 hr
            refine LW.skip ?_
            refine thn_n ?_
            refine LW.seq ?_
            refine LW.seq ?_
            refine LW.region ?_
            refine LOps.st rfl rfl rfl (LOp.assign rfl rfl) ?_
            refine LOps.nil ?_
            refine thn_n ?_
            obtain ⟨b_v7, hb_v7, ho_v7⟩ := bind_get hr
            clear hr
            refine LW.tailB (b := b_v7) (E := fun v7 => [(4, .p (.bool false))]) (O := fun v7 => [.box [.p (.int .u64 id.1), .p (.int .u64 id.2)]]) ?_ (fun v7 e_v7 env_v7 H_v7 hw_v7 => ?_)
            · refine LW.block ?_
              refine LW.iterB (E := fun x1 : F10_L1 => [(0, .p (.slice 5 (l.map blkP))), (3, .ptr 0 0), (4, .p (.bool false)), (6, .p (.slice 2 ((chainOf l id).map idP))), (7, .p (.int .i64 x1.i))]) (O := fun x1 => [.box [.p (.int .u64 id.1), .p (.int .u64 id.2)]]) hb_v7 (Weak.of 1 ⟨rfl, rfl, rfl, rfl, rfl, trivial⟩ rfl rfl rfl rfl) (fun x1 z_x1 hr hb_x1 => ?_)
              unfold F10_s1 at hr
              refine LW.seq ?_
              refine LW.seq ?_
              refine LW.region ?_
              refine LOps.st rfl rfl rfl (LOp.move rfl rfl) ?_
              refine LOps.st rfl rfl rfl (LOp.bin rfl rfl rfl rfl) ?_
              refine LOps.st rfl rfl rfl (LOp.move rfl rfl) ?_
              refine LOps.st rfl rfl rfl (LOp.lenM rfl rfl (by kernel_rfl)) ?_
              refine LOps.st rfl rfl rfl (LOp.bin rfl rfl rfl rfl) ?_
              refine LOps.nil ?_
              refine thn_n ?_
              refine LW.cond rfl (fun (g9 : (decide ((IntKind.i64.wrap (x1.i + 1)) < ((chainOf l id).length : Int))) = true) => ?_) (fun (g9 : (decide ((IntKind.i64.wrap (x1.i + 1)) < ((chainOf l id).length : Int))) = false) => ?_)
              · -- g9 is True
                have hr := ite_t g9 hr
                refine LW.skip ?_
                refine thn_n ?_
                refine LW.seq ?_
                refine LW.block ?_
                refine LW.seq ?_
                refine LW.region ?_
                refine LOps.st rfl rfl rfl (LOp.move rfl rfl) ?_
                refine LOps.st rfl rfl rfl (LOp.move rfl rfl) ?_
                refine LOps.st rfl rfl rfl (LOp.move rfl rfl) ?_
                obtain ⟨y3, h_y3, hr⟩ := bind_get hr
                refine LOps.st rfl rfl rfl (LOp.indexAddrX rfl rfl rfl st31 h_y3 rfl) ?_
                refine LOps.st rfl rfl rfl (LOp.loadC rfl rfl rfl vt24 rfl rfl) ?_
                obtain ⟨v8, h_v8, hr⟩ := bind_get hr
                refine LOps.st rfl rfl rfl (LOp.call rfl rfl rfl (by kernel_rfl) (LC.pure (c43 h_v8) (.cons Conv.p (.cons Conv.p .nil)))) ?_
                refine LOps.st rfl rfl rfl (LOp.move rfl rfl) ?_
                refine LOps.st rfl rfl rfl (LOp.extract rfl rfl rfl) ?_
                refine LOps.st rfl rfl rfl (LOp.extract rfl rfl rfl) ?_
                refine LOps.st rfl rfl rfl (LOp.assign rfl rfl) ?_
                refine LOps.st rfl rfl rfl (LOp.assign rfl rfl) ?_
                refine LOps.nil ?_
                refine thn_n ?_
                refine LW.seq ?_
                refine LW.region ?_
                refine LOps.st rfl rfl rfl (LOp.move rfl rfl) ?_
                refine LOps.st rfl rfl rfl (LOp.move rfl rfl) ?_
                refine LOps.st rfl rfl rfl (LOp.move rfl rfl) ?_
                refine LOps.st rfl rfl rfl (LOp.bin rfl rfl rfl rfl) ?_
                obtain ⟨y4, h_y4, hr⟩ := bind_get hr
                refine LOps.st rfl rfl rfl (LOp.indexAddrX rfl rfl rfl st31 h_y4 rfl) ?_
                refine LOps.st rfl rfl rfl (LOp.loadC rfl rfl rfl vt24 rfl rfl) ?_
                obtain ⟨v9, h_v9, hr⟩ := bind_get hr
                refine LOps.st rfl rfl rfl (LOp.call rfl rfl rfl (by kernel_rfl) (LC.pure (c43 h_v9) (.cons Conv.p (.cons Conv.p .nil)))) ?_
                refine LOps.st rfl rfl rfl (LOp.move rfl rfl) ?_
                refine LOps.st rfl rfl rfl (LOp.extract rfl rfl rfl) ?_
                refine LOps.st rfl rfl rfl (LOp.extract rfl rfl rfl) ?_
                refine LOps.st rfl rfl rfl (LOp.assign rfl rfl) ?_
                refine LOps.st rfl rfl rfl (LOp.assign rfl rfl) ?_
                refine LOps.nil ?_
                refine thn_n ?_
                refine LW.seq ?_
                refine LW.region ?_
                refine LOps.st rfl rfl rfl (LOp.move rfl rfl) ?_
                refine LOps.st rfl rfl rfl (LOp.move rfl rfl) ?_
                refine LOps.st rfl rfl rfl (LOp.move rfl rfl) ?_
                obtain ⟨y5, h_y5, hr⟩ := bind_get hr
                refine LOps.st rfl rfl rfl (LOp.indexAddrX rfl rfl rfl st31 h_y5 rfl) ?_
                refine LOps.st rfl rfl rfl (LOp.loadC rfl rfl rfl vt24 rfl rfl) ?_
                obtain ⟨v10, h_v10, hr⟩ := bind_get hr
                refine LOps.st rfl rfl rfl (LOp.call rfl rfl rfl (by kernel_rfl) (LC.pure (c53 h_v10) (.cons Conv.p (.cons Conv.p .nil)))) ?_
                refine LOps.st rfl rfl rfl (LOp.assign rfl rfl) ?_
                refine LOps.nil ?_
                refine thn_n ?_
                refine LW.seq ?_
                obtain ⟨v11, hb_v11, ho_v11⟩ := bind_get hr
                clear hr
                refine LW.cut (E := [(0, .p (.slice 5 (l.map blkP))), (3, .ptr 0 0), (4, .p (.bool false)), (6, .p (.slice 2 ((chainOf l id).map idP))), (7, .p (.int .i64 x1.i)), (130, .p (.bool v11))]) (O := [.box [.p (.int .u64 id.1), .p (.int .u64 id.2)]]) ?_ ?_
                · have hr := hb_v11
                  refine LW.draw (by kernel_rfl) (by kernel_rfl) ?_
                  refine LO.st rfl rfl rfl (LOp.move rfl rfl) ?_
                  refine LO.st rfl rfl rfl (LOp.move rfl rfl) ?_
                  refine LO.st rfl rfl rfl (LOp.bin rfl rfl rfl rfl) ?_
                  refine LO.st rfl rfl rfl (LOp.move rfl rfl) ?_
                  refine LO.cases 103 rfl (fun (g10 : (decide (v8.1 ≤ v9.1)) = true) => ?_) (fun (g10 : (decide (v8.1 ≤ v9.1)) = false) => ?_)
                  · -- g10 is True
                    have hr := ite_t g10 hr
                    refine LO.sk rfl rfl rfl (gd g10 rfl) rfl rfl ?_
                    refine LO.sk rfl rfl rfl (gd g10 rfl) rfl rfl ?_
                    refine LO.st rfl rfl rfl (LOp.pickT rfl (gdl g10 rfl) rfl) ?_
                    refine LO.st rfl rfl rfl (LOp.move rfl rfl) ?_
                    refine LO.sk rfl rfl rfl rfl rfl rfl ?_
                    refine LO.sk rfl rfl rfl rfl rfl rfl ?_
                    refine LO.sk rfl rfl rfl rfl rfl rfl ?_
                    refine LO.sk rfl rfl rfl rfl rfl rfl ?_
                    refine LO.sk rfl rfl rfl rfl rfl rfl ?_
                    refine LO.sk rfl rfl rfl rfl rfl rfl ?_
                    refine LO.sk rfl rfl rfl rfl rfl rfl ?_
                    refine LO.sk rfl rfl rfl rfl rfl rfl ?_
                    refine LO.sk rfl rfl rfl rfl rfl rfl ?_
                    refine LO.sk rfl rfl rfl rfl rfl rfl ?_
                    refine LO.sk rfl rfl rfl rfl rfl rfl ?_
                    refine LO.st rfl rfl rfl (LOp.pickT rfl rfl rfl) ?_
                    refine LO.st rfl rfl rfl (LOp.move rfl rfl) ?_
                    refine LO.sk rfl rfl rfl rfl rfl rfl ?_
                    refine LO.sk rfl rfl rfl rfl rfl rfl ?_
                    refine LO.sk rfl rfl rfl rfl rfl rfl ?_
                    refine LO.sk rfl rfl rfl rfl rfl rfl ?_
                    refine LO.sk rfl rfl rfl rfl rfl rfl ?_
                    refine LO.sk rfl rfl rfl rfl rfl rfl ?_
                    refine LO.sk rfl rfl rfl rfl rfl rfl ?_
                    refine LO.sk rfl rfl rfl rfl rfl rfl ?_
                    refine LO.sk rfl rfl rfl rfl rfl rfl ?_
                    refine LO.st rfl rfl rfl (LOp.pickT rfl rfl rfl) ?_
                    refine LO.nil ?_
                    refine thn_n ?_
                    obtain rfl := Option.some.inj hr
                    exact Weak.of 1 ⟨rfl, rfl, rfl, rfl, rfl, rfl, trivial⟩ rfl rfl rfl rfl
                  · -- g10 is False
                    have hr := ite_f g10 hr
                    refine LO.gd rfl rfl rfl (gd g10 rfl) rfl (LOp.move rfl rfl) ?_
                    refine LO.gd rfl rfl rfl (gd g10 rfl) rfl (LOp.bin rfl rfl rfl rfl) ?_
                    refine LO.st rfl rfl rfl (LOp.pickF rfl (gdl g10 rfl) rfl) ?_
                    refine LO.st rfl rfl rfl (LOp.move rfl rfl) ?_
                    refine LO.cases 107 rfl (fun (g11 : (decide (v10 < 0)) = true) => ?_) (fun (g11 : (decide (v10 < 0)) = false) => ?_)
                    · -- g11 is True
                      have hr := ite_t g11 hr
                      refine LO.sk rfl rfl rfl (gd g11 rfl) rfl rfl ?_
                      refine LO.sk rfl rfl rfl (gd g11 rfl) rfl rfl ?_
                      refine LO.sk rfl rfl rfl (gd g11 rfl) rfl rfl ?_
                      refine LO.sk rfl rfl rfl (gd g11 rfl) rfl rfl ?_
                      refine LO.sk rfl rfl rfl (gd g11 rfl) rfl rfl ?_
                      refine LO.sk rfl rfl rfl (gd g11 rfl) rfl rfl ?_
                      refine LO.sk rfl rfl rfl (gd g11 rfl) rfl rfl ?_
                      refine LO.sk rfl rfl rfl (gd g11 rfl) rfl rfl ?_
                      refine LO.sk rfl rfl rfl (gd g11 rfl) rfl rfl ?_
                      refine LO.sk rfl rfl rfl (gd g11 rfl) rfl rfl ?_
                      refine LO.sk rfl rfl rfl (gd g11 rfl) rfl rfl ?_
                      refine LO.st rfl rfl rfl (LOp.pickT rfl (gdl g11 rfl) rfl) ?_
                      refine LO.st rfl rfl rfl (LOp.move rfl rfl) ?_
                      refine LO.sk rfl rfl rfl rfl rfl rfl ?_
                      refine LO.sk rfl rfl rfl rfl rfl rfl ?_
                      refine LO.sk rfl rfl rfl rfl rfl rfl ?_
                      refine LO.sk rfl rfl rfl rfl rfl rfl ?_
                      refine LO.sk rfl rfl rfl rfl rfl rfl ?_
                      refine LO.sk rfl rfl rfl rfl rfl rfl ?_
                      refine LO.sk rfl rfl rfl rfl rfl rfl ?_
                      refine LO.sk rfl rfl rfl rfl rfl rfl ?_
                      refine LO.sk rfl rfl rfl rfl rfl rfl ?_
                      refine LO.st rfl rfl rfl (LOp.pickT rfl rfl rfl) ?_
                      refine LO.nil ?_
                      refine thn_n ?_
                      obtain rfl := Option.some.inj hr
                      exact Weak.of 1 ⟨rfl, rfl, rfl, rfl, rfl, rfl, trivial⟩ rfl rfl rfl rfl
                    · -- g11 is False
                      have hr := ite_f g11 hr
                      refine LO.gd rfl rfl rfl (gd g11 rfl) rfl (LOp.move rfl rfl) ?_
                      refine LO.gd rfl rfl rfl (gd g11 rfl) rfl (LOp.move rfl rfl) ?_
                      obtain ⟨y6, h_y6, hr⟩ := bind_get hr
                      refine LO.gd rfl rfl rfl (gd g11 rfl) rfl (LOp.indexAddrX rfl rfl rfl st27 h_y6 rfl) ?_
                      refine LO.gd rfl rfl rfl (gd g11 rfl) rfl (LOp.fieldAddrC rfl rfl ft42_2 rfl) ?_
                      refine LO.gd rfl rfl rfl (gd g11 rfl) rfl (LOp.loadC rfl rfl rfl vt24 rfl rfl) ?_
                      refine LO.gd rfl rfl rfl (gd g11 rfl) rfl (LOp.move rfl rfl) ?_
                      refine LO.gd rfl rfl rfl (gd g11 rfl) rfl (LOp.move rfl rfl) ?_
                      refine LO.gd rfl rfl rfl (gd g11 rfl) rfl (LOp.bin rfl rfl rfl rfl) ?_
                      obtain ⟨y7, h_y7, hr⟩ := bind_get hr
                      refine LO.gd rfl rfl rfl (gd g11 rfl) rfl (LOp.indexAddrX rfl rfl rfl st31 h_y7 rfl) ?_
                      refine LO.gd rfl rfl rfl (gd g11 rfl) rfl (LOp.loadC rfl rfl rfl vt24 rfl rfl) ?_
                      refine LO.gd rfl rfl rfl (gd g11 rfl) rfl (LOp.neqAgg rfl rfl rfl rfl rfl eqt24) ?_
                      refine LO.st rfl rfl rfl (LOp.pickF rfl (gdl g11 rfl) rfl) ?_
                      refine LO.st rfl rfl rfl (LOp.move rfl rfl) ?_
                      refine LO.cases 120 rfl (fun (g12 : (!((y6.Parent.1 == y7.1) && ((y6.Parent.2 == y7.2) && true))) = true) => ?_) (fun (g12 : (!((y6.Parent.1 == y7.1) && ((y6.Parent.2 == y7.2) && true))) = false) => ?_)
                      · -- g12 is True
                        have hr := ite_t g12 hr
                        refine LO.sk rfl rfl rfl (gd g12 rfl) rfl rfl ?_
                        refine LO.sk rfl rfl rfl (gd g12 rfl) rfl rfl ?_
                        refine LO.sk rfl rfl rfl (gd g12 rfl) rfl rfl ?_
                        refine LO.sk rfl rfl rfl (gd g12 rfl) rfl rfl ?_
                        refine LO.sk rfl rfl rfl (gd g12 rfl) rfl rfl ?_
                        refine LO.sk rfl rfl rfl (gd g12 rfl) rfl rfl ?_
                        refine LO.sk rfl rfl rfl (gd g12 rfl) rfl rfl ?_
                        refine LO.sk rfl rfl rfl (gd g12 rfl) rfl rfl ?_
                        refine LO.sk rfl rfl rfl (gd g12 rfl) rfl rfl ?_
                        refine LO.st rfl rfl rfl (LOp.pickT rfl (gdl g12 rfl) rfl) ?_
                        refine LO.nil ?_
                        refine thn_n ?_
                        obtain rfl := Option.some.inj hr
                        exact Weak.of 1 ⟨rfl, rfl, rfl, rfl, rfl, rfl, trivial⟩ rfl rfl rfl rfl
                      · -- g12 is False
                        have hr := ite_f g12 hr
                        refine LO.gd rfl rfl rfl (gd g12 rfl) rfl (LOp.move rfl rfl) ?_
                        refine LO.gd rfl rfl rfl (gd g12 rfl) rfl (LOp.move rfl rfl) ?_
                        refine LO.gd rfl rfl rfl (gd g12 rfl) rfl (LOp.move rfl rfl) ?_
                        refine LO.gd rfl rfl rfl (gd g12 rfl) rfl (LOp.bin rfl rfl rfl rfl) ?_
                        obtain ⟨y8, h_y8, hr⟩ := bind_get hr
                        refine LO.gd rfl rfl rfl (gd g12 rfl) rfl (LOp.indexAddrX rfl rfl rfl st31 h_y8 rfl) ?_
                        refine LO.gd rfl rfl rfl (gd g12 rfl) rfl (LOp.loadC rfl rfl rfl vt24 rfl rfl) ?_
                        refine LO.gd rfl rfl rfl (gd g12 rfl) rfl (LOp.load rfl rfl rfl vt24 rfl rfl) ?_
                        obtain ⟨q2, hr⟩ := grd_get hr
                        refine LO.gd rfl rfl rfl (gd g12 rfl) rfl (LOp.call rfl rfl rfl (by kernel_rfl) (LC.pure (c40 (l := l) (a := y8) (b := id) (few_le q2)) (.cons Conv.p (.cons Conv.p (.cons Conv.p .nil))))) ?_
                        refine LO.gd rfl rfl rfl (gd g12 rfl) rfl (LOp.not rfl rfl) ?_
                        refine LO.st rfl rfl rfl (LOp.pickF rfl (gdl g12 rfl) rfl) ?_
                        refine LO.nil ?_
                        refine thn_n ?_
                        obtain rfl := Option.some.inj hr
                        exact Weak.of 1 ⟨rfl, rfl, rfl, rfl, rfl, rfl, trivial⟩ rfl rfl rfl rfl
                · have hr := ho_v11
                  clear hb_v11
                  refine LW.cond rfl (fun (g13 : v11 = true) => ?_) (fun (g13 : v11 = false) => ?_)
                  · -- g13 is True
                    have hr := ite_t g13 hr
                    refine LW.seq ?_
                    refine LW.region ?_
                    refine LOps.st rfl rfl rfl (LOp.assign rfl rfl) ?_
                    refine LOps.nil ?_
                    refine thn_n ?_
                    refine LW.ret ?_
                    refine thn_r ?_
                    refine inBlk_r ?_
                    refine thn_r ?_
                    refine thn_r ?_
                    refine inBlk_r ?_
                    refine thn_r ?_
                    refine thn_r ?_
                    obtain rfl := Option.some.inj hr
                    have hr := congrArg some (hb_x1 _ rfl)
                    obtain rfl := Option.some.inj hr
                    have hr := sum_r ho_v7
                    obtain rfl := Option.some.inj hr
                    refine finP_ret (.one (.tmp rfl)) ?_
                    exact Conv.p
                  · -- g13 is False
                    have hr := ite_f g13 hr
                    refine LW.skip ?_
                    refine thn_n ?_
                    refine LW.seq ?_
                    refine LW.region ?_
                    refine LOps.st rfl rfl rfl (LOp.assign rfl rfl) ?_
                    refine LOps.nil ?_
                    refine thn_n ?_
                    refine LW.seq ?_
                    refine LW.region ?_
                    refine LOps.st rfl rfl rfl (LOp.move rfl rfl) ?_
                    refine LOps.st rfl rfl rfl (LOp.move rfl rfl) ?_
                    refine LOps.st rfl rfl rfl (LOp.move rfl rfl) ?_
                    refine LOps.st rfl rfl rfl (LOp.bin rfl rfl rfl rfl) ?_
                    obtain ⟨y9, h_y9, hr⟩ := bind_get hr
                    refine LOps.st rfl rfl rfl (LOp.indexAddrX rfl rfl rfl st31 h_y9 rfl) ?_
                    refine LOps.st rfl rfl rfl (LOp.loadC rfl rfl rfl vt24 rfl rfl) ?_
                    obtain ⟨v12, h_v12, hr⟩ := bind_get hr
                    refine LOps.st rfl rfl rfl (LOp.call rfl rfl rfl (by kernel_rfl) (LC.pure (c46 h_v12) (.cons Conv.p (.cons Conv.p .nil)))) ?_
                    refine LOps.st rfl rfl rfl (LOp.assign rfl rfl) ?_
                    refine LOps.nil ?_
                    refine thn_n ?_
                    refine LW.seq ?_
                    refine LW.seq ?_
                    refine LW.region ?_
                    refine LOps.st rfl rfl rfl (LOp.assign rfl rfl) ?_
                    refine LOps.nil ?_
                    refine thn_n ?_
                    obtain ⟨v13, hb_v13, ho_v13⟩ := bind_get hr
                    clear hr
                    refine LW.tail (E := [(0, .p (.slice 5 (l.map blkP))), (3, .ptr 0 0), (4, .p (.bool false)), (6, .p (.slice 2 ((chainOf l id).map idP))), (7, .p (.int .i64 x1.i)), (13, .p (.bool v13.v_is))]) (O := [.box [.p (.int .u64 id.1), .p (.int .u64 id.2)]]) ?_ (fun env_v13 H_v13 hw_v13 => ?_)
                    · refine LW.block ?_
                      refine LW.iterB (E := fun x2 : F10_L2 => [(0, .p (.slice 5 (l.map blkP))), (3, .ptr 0 0), (4, .p (.bool false)), (6, .p (.slice 2 ((chainOf l id).map idP))), (7, .p (.int .i64 x1.i)), (13, .p (.bool x2.v_is)), (14, .p (.slice 2 (v12.map idP))), (15, .p (.int .i64 x2.j))]) (O := fun x2 => [.box [.p (.int .u64 id.1), .p (.int .u64 id.2)]]) hb_v13 (Weak.of 1 ⟨rfl, rfl, rfl, rfl, rfl, rfl, rfl, rfl, trivial⟩ rfl rfl rfl rfl) (fun x2 z_x2 hr hb_x2 => ?_)
                      unfold F10_s2 at hr
                      refine LW.seq ?_
                      refine LW.seq ?_
                      refine LW.region ?_
                      refine LOps.st rfl rfl rfl (LOp.move rfl rfl) ?_
                      refine LOps.st rfl rfl rfl (LOp.move rfl rfl) ?_
                      refine LOps.st rfl rfl rfl (LOp.lenM rfl rfl (by kernel_rfl)) ?_
                      refine LOps.st rfl rfl rfl (LOp.bin rfl rfl rfl rfl) ?_
                      refine LOps.nil ?_
                      refine thn_n ?_
                      refine LW.cond rfl (fun (g14 : (decide (x2.j < (v12.length : Int))) = true) => ?_) (fun (g14 : (decide (x2.j < (v12.length : Int))) = false) => ?_)
                      · -- g14 is True
                        have hr := ite_t g14 hr
                        refine LW.skip ?_
                        refine thn_n ?_
                        refine LW.seq ?_
                        refine LW.block ?_
                        refine LW.draw (by kernel_rfl) (by kernel_rfl) ?_
                        refine LO.st rfl rfl rfl (LOp.move rfl rfl) ?_
                        refine LO.st rfl rfl rfl (LOp.move rfl rfl) ?_
                        refine LO.cases 145 rfl (fun (g15 : x2.v_is = true) => ?_) (fun (g15 : x2.v_is = false) => ?_)
                        · -- g15 is True
                          have hr := ite_t g15 hr
                          refine LO.sk rfl rfl rfl (gd g15 rfl) rfl rfl ?_
                          refine LO.sk rfl rfl rfl (gd g15 rfl) rfl rfl ?_
                          refine LO.sk rfl rfl rfl (gd g15 rfl) rfl rfl ?_
                          refine LO.sk rfl rfl rfl (gd g15 rfl) rfl rfl ?_
                          refine LO.sk rfl rfl rfl (gd g15 rfl) rfl rfl ?_
                          refine LO.sk rfl rfl rfl (gd g15 rfl) rfl rfl ?_
                          refine LO.sk rfl rfl rfl (gd g15 rfl) rfl rfl ?_
                          refine LO.sk rfl rfl rfl (gd g15 rfl) rfl rfl ?_
                          refine LO.sk rfl rfl rfl (gd g15 rfl) rfl rfl ?_
                          refine LO.st rfl rfl rfl (LOp.pickT rfl (gdl g15 rfl) rfl) ?_
                          refine LO.st rfl rfl rfl (LOp.assign rfl rfl) ?_
                          refine LO.nil ?_
                          refine inBlk_n ?_
                          refine thn_n ?_
                          refine LW.region ?_
                          refine LOps.st rfl rfl rfl (LOp.move rfl rfl) ?_
                          refine LOps.st rfl rfl rfl (LOp.bin rfl rfl rfl rfl) ?_
                          refine LOps.st rfl rfl rfl (LOp.assign rfl rfl) ?_
                          refine LOps.nil ?_
                          refine thn_n ?_
                          obtain rfl := Option.some.inj hr
                          exact ⟨_, rfl, Weak.of 1 ⟨rfl, rfl, rfl, rfl, rfl, rfl, rfl, rfl, trivial⟩ rfl rfl rfl rfl⟩
                        · -- g15 is False
                          have hr := ite_f g15 hr
                          refine LO.gd rfl rfl rfl (gd g15 rfl) rfl (LOp.move rfl rfl) ?_
                          refine LO.gd rfl rfl rfl (gd g15 rfl) rfl (LOp.move rfl rfl) ?_
                          obtain ⟨y10, h_y10, hr⟩ := bind_get hr
                          refine LO.gd rfl rfl rfl (gd g15 rfl) rfl (LOp.indexAddrX rfl rfl rfl st31 h_y10 rfl) ?_
                          refine LO.gd rfl rfl rfl (gd g15 rfl) rfl (LOp.loadC rfl rfl rfl vt24 rfl rfl) ?_
                          refine LO.gd rfl rfl rfl (gd g15 rfl) rfl (LOp.move rfl rfl) ?_
                          refine LO.gd rfl rfl rfl (gd g15 rfl) rfl (LOp.move rfl rfl) ?_
                          obtain ⟨y11, h_y11, hr⟩ := bind_get hr
                          refine LO.gd rfl rfl rfl (gd g15 rfl) rfl (LOp.indexAddrX rfl rfl rfl st31 h_y11 rfl) ?_
                          refine LO.gd rfl rfl rfl (gd g15 rfl) rfl (LOp.loadC rfl rfl rfl vt24 rfl rfl) ?_
                          refine LO.gd rfl rfl rfl (gd g15 rfl) rfl (LOp.eqlAgg rfl rfl rfl rfl rfl eqt24) ?_
                          refine LO.st rfl rfl rfl (LOp.pickF rfl (gdl g15 rfl) rfl) ?_
                          refine LO.st rfl rfl rfl (LOp.assign rfl rfl) ?_
                          refine LO.nil ?_
                          refine inBlk_n ?_
                          refine thn_n ?_
                          refine LW.region ?_
                          refine LOps.st rfl rfl rfl (LOp.move rfl rfl) ?_
                          refine LOps.st rfl rfl rfl (LOp.bin rfl rfl rfl rfl) ?_
                          refine LOps.st rfl rfl rfl (LOp.assign rfl rfl) ?_
                          refine LOps.nil ?_
                          refine thn_n ?_
                          obtain rfl := Option.some.inj hr
                          exact ⟨_, rfl, Weak.of 1 ⟨rfl, rfl, rfl, rfl, rfl, rfl, rfl, rfl, trivial⟩ rfl rfl rfl rfl⟩
                      · -- g14 is False
                        have hr := ite_f g14 hr
                        refine LW.exit ?_
                        refine thn_e ?_
                        refine thn_e ?_
                        refine inBlk_self ?_
                        refine thn_n ?_
                        obtain rfl := Option.some.inj hr
                        have hr := congrArg some (hb_x2 _ rfl)
                        obtain rfl := Option.some.inj hr
                        exact Weak.of 1 ⟨rfl, rfl, rfl, rfl, rfl, rfl, trivial⟩ rfl rfl rfl rfl
                    · have hr := ho_v13
                      clear hb_v13
                      refine thn_n ?_
                      refine LW.weak hw_v13 ?_
                      refine LW.seq ?_
                      refine LW.region ?_
                      refine LOps.st rfl rfl rfl (LOp.move rfl rfl) ?_
                      refine LOps.st rfl rfl rfl (LOp.not rfl rfl) ?_
                      refine LOps.nil ?_
                      refine thn_n ?_
                      refine LW.cond rfl (fun (g16 : (!v13.v_is) = true) => ?_) (fun (g16 : (!v13.v_is) = false) => ?_)
                      · -- g16 is True
                        have hr := ite_t g16 hr
                        refine LW.seq ?_
                        refine LW.region ?_
                        refine LOps.st rfl rfl rfl (LOp.assign rfl rfl) ?_
                        refine LOps.nil ?_
                        refine thn_n ?_
                        refine LW.ret ?_
                        refine inBlk_r ?_
                        refine thn_r ?_
                        refine thn_r ?_
                        refine inBlk_r ?_
                        refine thn_r ?_
                        refine thn_r ?_
                        obtain rfl := Option.some.inj hr
                        have hr := congrArg some (hb_x1 _ rfl)
                        obtain rfl := Option.some.inj hr
                        have hr := sum_r ho_v7
                        obtain rfl := Option.some.inj hr
                        refine finP_ret (.one (.tmp rfl)) ?_
                        exact Conv.p
                      · -- g16 is False
                        have hr := ite_f g16 hr
                        refine LW.skip ?_
                        refine inBlk_n ?_
                        refine thn_n ?_
                        refine LW.region ?_
                        refine LOps.st rfl rfl rfl (LOp.move rfl rfl) ?_
                        refine LOps.st rfl rfl rfl (LOp.bin rfl rfl rfl rfl) ?_
                        refine LOps.st rfl rfl rfl (LOp.assign rfl rfl) ?_
                        refine LOps.nil ?_
                        refine thn_n ?_
                        obtain rfl := Option.some.inj hr
                        exact ⟨_, rfl, Weak.of 1 ⟨rfl, rfl, rfl, rfl, rfl, trivial⟩ rfl rfl rfl rfl⟩
              · -- g9 is False
                have hr := ite_f g9 hr
                refine LW.exit ?_
                refine thn_e ?_
                refine thn_e ?_
                refine inBlk_self ?_
                refine thn_n ?_
                obtain rfl := Option.some.inj hr
                have hr := congrArg some (hb_x1 _ rfl)
                obtain rfl := Option.some.inj hr
                exact ⟨_, rfl, Weak.of 1 ⟨rfl, trivial⟩ rfl rfl rfl rfl⟩
            · obtain rfl := e_v7
              have hr := sum_l ho_v7
              clear hb_v7
              refine thn_n ?_
              refine LW.weak hw_v7 ?_
              refine LW.seq ?_
              refine LW.region ?_
              refine LOps.st rfl rfl rfl (LOp.assign rfl rfl) ?_
              refine LOps.nil ?_
              refine thn_n ?_
              refine LW.ret ?_
              obtain rfl := Option.some.inj hr
              refine finP_ret (.one (.tmp rfl)) ?_
              exact Conv.p

/-! marigold/marigoldlaw06.TreeUnder -/

def F11 (l : List Bk) (a : ID) (b : ID) (c : ID) : Option Bool :=
  (F41 ).bind fun v1 =>
  (
    bif !v1 then
      some true
    else
      some (decide ((l.length : Int) > 40))
  ).bind fun v2 =>
  bif v2 then
    some v1
  else
    bif few l then
      bif ((chainOf l a).length : Int) == 0 then
        (
          bif few l then
            bif !(decide (indexOf (chainOf l a) a ≥ 0)) then
              bif few l then
                some (!(decide (indexOf (chainOf l a) b ≥ 0)))
              else none
            else
              some false
          else none
        ).bind fun v3 =>
        some v3
      else
        (
          bif few l then
            bif !(decide (indexOf (chainOf l a) a ≥ 0)) then
              some (.inr false)
            else
              bif few l then
                bif !(decide (indexOf (chainOf l a) (0, 0) ≥ 0)) then
                  some (.inr false)
                else
                  bif few l then
                    bif decide (indexOf (chainOf l b) a ≥ 0) then
                      bif few l then
                        bif decide (indexOf (chainOf l c) b ≥ 0) then
                          bif few l then
                            bif !(decide (indexOf (chainOf l c) a ≥ 0)) then
                              some (.inr false)
                            else
                              some (.inl ())
                          else none
                        else
                          some (.inl ())
                      else none
                    else
                      some (.inl ())
                  else none
              else none
          else none
        ).bind fun b_v4 => Sum.elim (fun _ =>
          (
            bif few l then
              bif decide (indexOf (chainOf l c) a ≥ 0) then
                bif few l then
                  bif decide (indexOf (chainOf l c) b ≥ 0) then
                    bif few l then
                      bif !(decide (indexOf (chainOf l b) a ≥ 0)) then
                        bif few l then
                          bif !(decide (indexOf (chainOf l a) b ≥ 0)) then
                            some (.inr false)
                          else
                            some (.inl ())
                        else none
                      else
                        some (.inl ())
                    else none
                  else
                    some (.inl ())
                else none
              else
                some (.inl ())
            else none
          ).bind fun b_v5 => Sum.elim (fun _ =>
            bif few l then
              bif !(decide (indexOf (chainOf l b) a ≥ 0)) then
                some true
              else
                bif few l then
                  bif !(decide (indexOf (chainOf l a) b ≥ 0)) then
                    some true
                  else
                    some ((a.1 == b.1) && ((a.2 == b.2) && true))
                else none
            else none) some b_v5) some b_v4
    else none

set_option maxRecDepth 100000 in
theorem c11 {l : List Bk} {a : ID} {b : ID} {c : ID} {r_ : Bool} (hr : F11 l a b c = some r_) : LPure Try.prog 11 [.slice 5 (l.map blkP), idP a, idP b, idP c] [.bool r_] := by
  refine LPure.start Try.func11 rfl rfl rfl rfl ?_
  unfold F11 at hr
  refine LW.seq ?_
  refine LW.region ?_
  refine LOps.st rfl rfl rfl (LOp.box rfl rfl rfl rfl rfl) ?_
  refine LOps.st rfl rfl rfl (LOp.box rfl rfl rfl rfl rfl) ?_
  refine LOps.st rfl rfl rfl (LOp.box rfl rfl rfl rfl rfl) ?_
  refine LOps.st rfl rfl rfl (LOp.assign rfl rfl) ?_
  refine LOps.nil ?_
  refine thn_n ?_
  refine LW.seq ?_
  refine LW.region ?_
  obtain ⟨v1, h_v1, hr⟩ := bind_get hr
  refine LOps.st rfl rfl rfl (LOp.call rfl rfl rfl (by kernel_rfl) (LC.pure (c41 h_v1) .nil)) ?_
  refine LOps.st rfl rfl rfl (LOp.assign rfl rfl) ?_
  refine LOps.nil ?_
  refine thn_n ?_
  refine LW.seq ?_
  obtain ⟨v2, hb_v2, ho_v2⟩ := bind_get hr
  clear hr
  refine LW.cut (E := [(0, .p (.slice 5 (l.map blkP))), (5, .ptr 0 0), (6, .ptr 1 0), (7, .ptr 2 0), (8, .p (.bool false)), (9, .p (.bool v1)), (17, .p (.bool v2))]) (O := [.box [.p (.int .u64 a.1), .p (.int .u64 a.2)], .box [.p (.int .u64 b.1), .p (.int .u64 b.2)], .box [.p (.int .u64 c.1), .p (.int .u64 c.2)]]) ?_ ?_
  · have hr := hb_v2
    refine LW.region ?_
    refine LOps.st rfl rfl rfl (LOp.move rfl rfl) ?_
    refine LOps.st rfl rfl rfl (LOp.not rfl rfl) ?_
    refine LOps.st rfl rfl rfl (LOp.move rfl rfl) ?_
    refine LOps.cases 13 rfl (fun (g1 : (!v1) = true) => ?_) (fun (g1 : (!v1) = false) => ?_)
    · -- g1 is True
      have hr := ite_t g1 hr
      refine LOps.sk rfl rfl rfl (gd g1 rfl) rfl rfl ?_
      refine LOps.sk rfl rfl rfl (gd g1 rfl) rfl rfl ?_
      refine LOps.sk rfl rfl rfl (gd g1 rfl) rfl rfl ?_
      refine LOps.st rfl rfl rfl (LOp.pickT rfl (gdl g1 rfl) rfl) ?_
      refine LOps.nil ?_
      refine thn_n ?_
      obtain rfl := Option.some.inj hr
      exact Weak.of 3 ⟨rfl, rfl, rfl, rfl, rfl, rfl, rfl, trivial⟩ rfl rfl rfl rfl
    · -- g1 is False
      have hr := ite_f g1 hr
      refine LOps.gd rfl rfl rfl (gd g1 rfl) rfl (LOp.move rfl rfl) ?_
      refine LOps.gd rfl rfl rfl (gd g1 rfl) rfl (LOp.lenM rfl rfl (by kernel_rfl)) ?_
      refine LOps.gd rfl rfl rfl (gd g1 rfl) rfl (LOp.bin rfl rfl rfl rfl) ?_
      refine LOps.st rfl rfl rfl (LOp.pickF rfl (gdl g1 rfl) rfl) ?_
      refine LOps.nil ?_
      refine thn_n ?_
      obtain rfl := Option.some.inj hr
      exact Weak.of 3 ⟨rfl, rfl, rfl, rfl, rfl, rfl, rfl, trivial⟩ rfl rfl rfl rfl
  · have hr := ho_v2
    clear hb_v2
    refine LW.cond rfl (fun (g2 : v2 = true) => ?_) (fun (g2 : v2 = false) => ?_)
    · -- g2 is True
      have hr := ite_t g2 hr
      refine LW.seq ?_
      refine LW.region ?_
      refine LOps.st rfl rfl rfl (LOp.move rfl rfl) ?_
      refine LOps.st rfl rfl rfl (LOp.assign rfl rfl) ?_
      refine LOps.nil ?_
      refine thn_n ?_
      refine LW.ret ?_
      refine thn_r ?_
      obtain rfl := Option.some.inj hr
      refine finP_ret (.one (.tmp rfl)) ?_
      exact Conv.p
    · -- g2 is False
      have hr := ite_f g2 hr
      refine LW.skip ?_
      refine thn_n ?_
      refine LW.seq ?_
      refine LW.seq ?_
      refine LW.region ?_
      refine LOps.st rfl rfl rfl (LOp.move rfl rfl) ?_
      refine LOps.st rfl rfl rfl (LOp.load rfl rfl rfl vt24 rfl rfl) ?_
      obtain ⟨q1, hr⟩ := grd_get hr
      refine LOps.st rfl rfl rfl (LOp.call rfl rfl rfl (by kernel_rfl) (LC.pure (c39 (l := l) (id := a) (few_le q1)) (.cons Conv.p (.cons Conv.p .nil)))) ?_
      refine LOps.st rfl rfl rfl (LOp.lenM rfl rfl (by kernel_rfl)) ?_
      refine LOps.st rfl rfl rfl (LOp.bin rfl rfl rfl rfl) ?_
      refine LOps.nil ?_
      refine thn_n ?_
      refine LW.cond rfl (fun (g3 : (((chainOf l a).length : Int) == 0) = true) => ?_) (fun (g3 : (((chainOf l a).length : Int) == 0) = false) => ?_)
      · -- g3 is True
        have hr := ite_t g3 hr
        obtain ⟨v3, hb_v3, ho_v3⟩ := bind_get hr
        clear hr
        refine LW.cut (E := [(0, .p (.slice 5 (l.map blkP))), (5, .ptr 0 0), (6, .ptr 1 0), (7, .ptr 2 0), (8, .p (.bool v3))]) (O := [.box [.p (.int .u64 a.1), .p (.int .u64 a.2)], .box [.p (.int .u64 b.1), .p (.int .u64 b.2)], .box [.p (.int .u64 c.1), .p (.int .u64 c.2)]]) ?_ ?_
        · have hr := hb_v3
          refine LW.region ?_
          refine LOps.st rfl rfl rfl (LOp.move rfl rfl) ?_
          refine LOps.st rfl rfl rfl (LOp.load rfl rfl rfl vt24 rfl rfl) ?_
          refine LOps.st rfl rfl rfl (LOp.load rfl rfl rfl vt24 rfl rfl) ?_
          obtain ⟨q2, hr⟩ := grd_get hr
          refine LOps.st rfl rfl rfl (LOp.call rfl rfl rfl (by kernel_rfl) (LC.pure (c40 (l := l) (a := a) (b := a) (few_le q2)) (.cons Conv.p (.cons Conv.p (.cons Conv.p .nil))))) ?_
          refine LOps.st rfl rfl rfl (LOp.not rfl rfl) ?_
          refine LOps.st rfl rfl rfl (LOp.move rfl rfl) ?_
          refine LOps.cases 29 rfl (fun (g4 : (!(decide (indexOf (chainOf l a) a ≥ 0))) = true) => ?_) (fun (g4 : (!(decide (indexOf (chainOf l a) a ≥ 0))) = false) => ?_)
          · -- g4 is True
            have hr := ite_t g4 hr
            refine LOps.gd rfl rfl rfl (gd g4 rfl) rfl (LOp.move rfl rfl) ?_
            refine LOps.gd rfl rfl rfl (gd g4 rfl) rfl (LOp.load rfl rfl rfl vt24 rfl rfl) ?_
            refine LOps.gd rfl rfl rfl (gd g4 rfl) rfl (LOp.load rfl rfl rfl vt24 rfl rfl) ?_
            obtain ⟨q3, hr⟩ := grd_get hr
            refine LOps.gd rfl rfl rfl (gd g4 rfl) rfl (LOp.call rfl rfl rfl (by kernel_rfl) (LC.pure (c40 (l := l) (a := b) (b := a) (few_le q3)) (.cons Conv.p (.cons Conv.p (.cons Conv.p .nil))))) ?_
            refine LOps.gd rfl rfl rfl (gd g4 rfl) rfl (LOp.not rfl rfl) ?_
            refine LOps.st rfl rfl rfl (LOp.pickT rfl (gdl g4 rfl) rfl) ?_
            refine LOps.st rfl rfl rfl (LOp.assign rfl rfl) ?_
            refine LOps.nil ?_
            refine thn_n ?_
            obtain rfl := Option.some.inj hr
            exact Weak.of 3 ⟨rfl, rfl, rfl, rfl, rfl, trivial⟩ rfl rfl rfl rfl
          · -- g4 is False
            have hr := ite_f g4 hr
            refine LOps.sk rfl rfl rfl (gd g4 rfl) rfl rfl ?_
            refine LOps.sk rfl rfl rfl (gd g4 rfl) rfl rfl ?_
            refine LOps.sk rfl rfl rfl (gd g4 rfl) rfl rfl ?_
            refine LOps.sk rfl rfl rfl (gd g4 rfl) rfl rfl ?_
            refine LOps.sk rfl rfl rfl (gd g4 rfl) rfl rfl ?_
            refine LOps.st rfl rfl rfl (LOp.pickF rfl (gdl g4 rfl) rfl) ?_
            refine LOps.st rfl rfl rfl (LOp.assign rfl rfl) ?_
            refine LOps.nil ?_
            refine thn_n ?_
            obtain rfl := Option.some.inj hr
            exact Weak.of 3 ⟨rfl, rfl, rfl, rfl, rfl, trivial⟩ rfl rfl rfl rfl
        · have hr := ho_v3
          clear hb_v3
          refine LW.ret ?_
          refine thn_r ?_
          obtain rfl := Option.some.inj hr
          refine finP_ret (.one (.tmp rfl)) ?_
          exact Conv.p
      · -- g3 is False
        have hr := ite_f g3 hr
        refine LW.skip ?_
        refine thn_n ?_
        obtain ⟨b_v4, hb_v4, ho_v4⟩ := bind_get hr
        clear hr
        refine LW.cutB (b := b_v4) (E := fun v4 => [(0, .p (.slice 5 (l.map blkP))), (5, .ptr 0 0), (6, .ptr 1 0), (7, .ptr 2 0), (8, .p (.bool false))]) (O := fun v4 => [.box [.p (.int .u64 a.1), .p (.int .u64 a.2)], .box [.p (.int .u64 b.1), .p (.int .u64 b.2)], .box [.p (.int .u64 c.1), .p (.int .u64 c.2)]]) ?_ (fun v4 e_v4 => ?_)
        · have hr := hb_v4
          refine LW.seq ?_
          refine LW.region ?_
          refine LOps.st rfl rfl rfl (LOp.move rfl rfl) ?_
          refine LOps.st rfl rfl rfl (LOp.load rfl rfl rfl vt24 rfl rfl) ?_
          refine LOps.st rfl rfl rfl (LOp.load rfl rfl rfl vt24 rfl rfl) ?_
          obtain ⟨q4, hr⟩ := grd_get hr
          refine LOps.st rfl rfl rfl (LOp.call rfl rfl rfl (by kernel_rfl) (LC.pure (c40 (l := l) (a := a) (b := a) (few_le q4)) (.cons Conv.p (.cons Conv.p (.cons Conv.p .nil))))) ?_
          refine LOps.st rfl rfl rfl (LOp.not rfl rfl) ?_
          refine LOps.st rfl rfl rfl (LOp.move rfl rfl) ?_
          refine LOps.cases 41 rfl (fun (g5 : (!(decide (indexOf (chainOf l a) a ≥ 0))) = true) => ?_) (fun (g5 : (!(decide (indexOf (chainOf l a) a ≥ 0))) = false) => ?_)
          · -- g5 is True
            have hr := ite_t g5 hr
            refine LOps.sk rfl rfl rfl (gd g5 rfl) rfl rfl ?_
            refine LOps.sk rfl rfl rfl (gd g5 rfl) rfl rfl ?_
            refine LOps.sk rfl rfl rfl (gd g5 rfl) rfl rfl ?_
            refine LOps.sk rfl rfl rfl (gd g5 rfl) rfl rfl ?_
            refine LOps.sk rfl rfl rfl (gd g5 rfl) rfl rfl ?_
            refine LOps.st rfl rfl rfl (LOp.pickT rfl (gdl g5 rfl) rfl) ?_
            refine LOps.st rfl rfl rfl (LOp.move rfl rfl) ?_
            refine LOps.sk rfl rfl rfl rfl rfl rfl ?_
            refine LOps.sk rfl rfl rfl rfl rfl rfl ?_
            refine LOps.sk rfl rfl rfl rfl rfl rfl ?_
            refine LOps.sk rfl rfl rfl rfl rfl rfl ?_
            refine LOps.sk rfl rfl rfl rfl rfl rfl ?_
            refine LOps.sku rfl rfl rfl rfl rfl ?_
            refine LOps.sku rfl rfl rfl rfl rfl ?_
            refine LOps.sku rfl rfl rfl rfl rfl ?_
            refine LOps.sku rfl rfl rfl rfl rfl ?_
            refine LOps.sk rfl rfl rfl rfl rfl rfl ?_
            refine LOps.sk rfl rfl rfl rfl rfl rfl ?_
            refine LOps.sku rfl rfl rfl rfl rfl ?_
            refine LOps.sku rfl rfl rfl rfl rfl ?_
            refine LOps.sku rfl rfl rfl rfl rfl ?_
            refine LOps.sku rfl rfl rfl rfl rfl ?_
            refine LOps.sku rfl rfl rfl rfl rfl ?_
            refine LOps.sk rfl rfl rfl rfl rfl rfl ?_
            refine LOps.st rfl rfl rfl (LOp.pickT rfl rfl rfl) ?_
            refine LOps.nil ?_
            refine thn_n ?_
            refine LW.condT rfl ?_
            refine LW.seq ?_
            refine LW.region ?_
            refine LOps.st rfl rfl rfl (LOp.assign rfl rfl) ?_
            refine LOps.nil ?_
            refine thn_n ?_
            refine LW.ret ?_
            refine thn_r ?_
            obtain rfl := Option.some.inj hr
            have hr := sum_r ho_v4
            obtain rfl := Option.some.inj hr
            refine finP_ret (.one (.tmp rfl)) ?_
            exact Conv.p
          · -- g5 is False
            have hr := ite_f g5 hr
            refine LOps.gd rfl rfl rfl (gd g5 rfl) rfl (LOp.move rfl rfl) ?_
            refine LOps.gd rfl rfl rfl (gd g5 rfl) rfl (LOp.build rfl bt24 rfl rfl rfl) ?_
            refine LOps.gd rfl rfl rfl (gd g5 rfl) rfl (LOp.load rfl rfl rfl vt24 rfl rfl) ?_
            obtain ⟨q5, hr⟩ := grd_get hr
            refine LOps.gd rfl rfl rfl (gd g5 rfl) rfl (LOp.call rfl rfl rfl (by kernel_rfl) (LC.pure (c40 (l := l) (a := (0, 0)) (b := a) (few_le q5)) (.cons Conv.p (.cons Conv.p (.cons Conv.p .nil))))) ?_
            refine LOps.gd rfl rfl rfl (gd g5 rfl) rfl (LOp.not rfl rfl) ?_
            refine LOps.st rfl rfl rfl (LOp.pickF rfl (gdl g5 rfl) rfl) ?_
            refine LOps.st rfl rfl rfl (LOp.move rfl rfl) ?_
            refine LOps.cases 48 rfl (fun (g6 : (!(decide (indexOf (chainOf l a) (0, 0) ≥ 0))) = true) => ?_) (fun (g6 : (!(decide (indexOf (chainOf l a) (0, 0) ≥ 0))) = false) => ?_)
            · -- g6 is True
              have hr := ite_t g6 hr
              refine LOps.sk rfl rfl rfl (gd g6 rfl) rfl rfl ?_
              refine LOps.sk rfl rfl rfl (gd g6 rfl) rfl rfl ?_
              refine LOps.sk rfl rfl rfl (gd g6 rfl) rfl rfl ?_
              refine LOps.sk rfl rfl rfl (gd g6 rfl) rfl rfl ?_
              refine LOps.sk rfl rfl rfl (gd g6 rfl) rfl rfl ?_
              refine LOps.sku rfl rfl rfl rfl rfl ?_
              refine LOps.sku rfl rfl rfl rfl rfl ?_
              refine LOps.sku rfl rfl rfl rfl rfl ?_
              refine LOps.sku rfl rfl rfl rfl rfl ?_
              refine LOps.sk rfl rfl rfl (gd g6 rfl) rfl rfl ?_
              refine LOps.sk rfl rfl rfl (gd g6 rfl) rfl rfl ?_
              refine LOps.sku rfl rfl rfl rfl rfl ?_
              refine LOps.sku rfl rfl rfl rfl rfl ?_
              refine LOps.sku rfl rfl rfl rfl rfl ?_
              refine LOps.sku rfl rfl rfl rfl rfl ?_
              refine LOps.sku rfl rfl rfl rfl rfl ?_
              refine LOps.sk rfl rfl rfl (gd g6 rfl) rfl rfl ?_
              refine LOps.st rfl rfl rfl (LOp.pickT rfl (gdl g6 rfl) rfl) ?_
              refine LOps.nil ?_
              refine thn_n ?_
              refine LW.condT rfl ?_
              refine LW.seq ?_
              refine LW.region ?_
              refine LOps.st rfl rfl rfl (LOp.assign rfl rfl) ?_
              refine LOps.nil ?_
              refine thn_n ?_
              refine LW.ret ?_
              refine thn_r ?_
              obtain rfl := Option.some.inj hr
              have hr := sum_r ho_v4
              obtain rfl := Option.some.inj hr
              refine finP_ret (.one (.tmp rfl)) ?_
              exact Conv.p
            · -- g6 is False
              have hr := ite_f g6 hr
              refine LOps.gd rfl rfl rfl (gd g6 rfl) rfl (LOp.move rfl rfl) ?_
              refine LOps.gd rfl rfl rfl (gd g6 rfl) rfl (LOp.load rfl rfl rfl vt24 rfl rfl) ?_
              refine LOps.gd rfl rfl rfl (gd g6 rfl) rfl (LOp.load rfl rfl rfl vt24 rfl rfl) ?_
              obtain ⟨q6, hr⟩ := grd_get hr
              refine LOps.gd rfl rfl rfl (gd g6 rfl) rfl (LOp.call rfl rfl rfl (by kernel_rfl) (LC.pure (c40 (l := l) (a := a) (b := b) (few_le q6)) (.cons Conv.p (.cons Conv.p (.cons Conv.p .nil))))) ?_
              refine LOps.gd rfl rfl rfl (gd g6 rfl) rfl (LOp.move rfl rfl) ?_
              refine LOps.cases 53 rfl (fun (g7 : (decide (indexOf (chainOf l b) a ≥ 0)) = true) => ?_) (fun (g7 : (decide (indexOf (chainOf l b) a ≥ 0)) = false) => ?_)
              · -- g7 is True
                have hr := ite_t g7 hr
                refine LOps.gd rfl rfl rfl (gd g7 rfl) rfl (LOp.move rfl rfl) ?_
                refine LOps.gd rfl rfl rfl (gd g7 rfl) rfl (LOp.load rfl rfl rfl vt24 rfl rfl) ?_
                refine LOps.gd rfl rfl rfl (gd g7 rfl) rfl (LOp.load rfl rfl rfl vt24 rfl rfl) ?_
                obtain ⟨q7, hr⟩ := grd_get hr
                refine LOps.gd rfl rfl rfl (gd g7 rfl) rfl (LOp.call rfl rfl rfl (by kernel_rfl) (LC.pure (c40 (l := l) (a := b) (b := c) (few_le q7)) (.cons Conv.p (.cons Conv.p (.cons Conv.p .nil))))) ?_
                refine LOps.gd rfl rfl rfl (gd g6 rfl) rfl (LOp.pickT rfl (gdl g7 rfl) rfl) ?_
                refine LOps.gd rfl rfl rfl (gd g6 rfl) rfl (LOp.move rfl rfl) ?_
                refine LOps.cases 59 rfl (fun (g8 : (decide (indexOf (chainOf l c) b ≥ 0)) = true) => ?_) (fun (g8 : (decide (indexOf (chainOf l c) b ≥ 0)) = false) => ?_)
                · -- g8 is True
                  have hr := ite_t g8 hr
                  refine LOps.gd rfl rfl rfl (gd g8 rfl) rfl (LOp.move rfl rfl) ?_
                  refine LOps.gd rfl rfl rfl (gd g8 rfl) rfl (LOp.load rfl rfl rfl vt24 rfl rfl) ?_
                  refine LOps.gd rfl rfl rfl (gd g8 rfl) rfl (LOp.load rfl rfl rfl vt24 rfl rfl) ?_
                  obtain ⟨q8, hr⟩ := grd_get hr
                  refine LOps.gd rfl rfl rfl (gd g8 rfl) rfl (LOp.call rfl rfl rfl (by kernel_rfl) (LC.pure (c40 (l := l) (a := a) (b := c) (few_le q8)) (.cons Conv.p (.cons Conv.p (.cons Conv.p .nil))))) ?_
                  refine LOps.gd rfl rfl rfl (gd g8 rfl) rfl (LOp.not rfl rfl) ?_
                  refine LOps.gd rfl rfl rfl (gd g6 rfl) rfl (LOp.pickT rfl (gdl g8 rfl) rfl) ?_
                  refine LOps.st rfl rfl rfl (LOp.pickF rfl (gdl g6 rfl) rfl) ?_
                  refine LOps.nil ?_
                  refine thn_n ?_
                  refine LW.cond rfl (fun (g9 : (!(decide (indexOf (chainOf l c) a ≥ 0))) = true) => ?_) (fun (g9 : (!(decide (indexOf (chainOf l c) a ≥ 0))) = false) => ?_)
                  · -- g9 is True
                    have hr := ite_t g9 hr
                    refine LW.seq ?_
                    refine LW.region ?_
                    refine LOps.st rfl rfl rfl (LOp.assign rfl rfl) ?_
                    refine LOps.nil ?_
                    refine thn_n ?_
                    refine LW.ret ?_
                    refine thn_r ?_
                    obtain rfl := Option.some.inj hr
                    have hr := sum_r ho_v4
                    obtain rfl := Option.some.inj hr
                    refine finP_ret (.one (.tmp rfl)) ?_
                    exact Conv.p
                  · -- g9 is False
                    have hr := ite_f g9 hr
                    refine LW.skip ?_
                    refine thn_n ?_
                    obtain rfl := Option.some.inj hr
                    exact ⟨_, rfl, Weak.of 3 ⟨rfl, rfl, rfl, rfl, rfl, trivial⟩ rfl rfl rfl rfl⟩
                · -- g8 is False
                  have hr := ite_f g8 hr
                  refine LOps.sk rfl rfl rfl (gd g8 rfl) rfl rfl ?_
                  refine LOps.sk rfl rfl rfl (gd g8 rfl) rfl rfl ?_
                  refine LOps.sk rfl rfl rfl (gd g8 rfl) rfl rfl ?_
                  refine LOps.sk rfl rfl rfl (gd g8 rfl) rfl rfl ?_
                  refine LOps.sk rfl rfl rfl (gd g8 rfl) rfl rfl ?_
                  refine LOps.gd rfl rfl rfl (gd g6 rfl) rfl (LOp.pickF rfl (gdl g8 rfl) rfl) ?_
                  refine LOps.st rfl rfl rfl (LOp.pickF rfl (gdl g6 rfl) rfl) ?_
                  refine LOps.nil ?_
                  refine thn_n ?_
                  refine LW.condF rfl ?_
                  refine LW.skip ?_
                  refine thn_n ?_
                  obtain rfl := Option.some.inj hr
                  exact ⟨_, rfl, Weak.of 3 ⟨rfl, rfl, rfl, rfl, rfl, trivial⟩ rfl rfl rfl rfl⟩
              · -- g7 is False
                have hr := ite_f g7 hr
                refine LOps.sk rfl rfl rfl (gd g7 rfl) rfl rfl ?_
                refine LOps.sk rfl rfl rfl (gd g7 rfl) rfl rfl ?_
                refine LOps.sk rfl rfl rfl (gd g7 rfl) rfl rfl ?_
                refine LOps.sk rfl rfl rfl (gd g7 rfl) rfl rfl ?_
                refine LOps.gd rfl rfl rfl (gd g6 rfl) rfl (LOp.pickF rfl (gdl g7 rfl) rfl) ?_
                refine LOps.gd rfl rfl rfl (gd g6 rfl) rfl (LOp.move rfl rfl) ?_
                refine LOps.sk rfl rfl rfl rfl rfl rfl ?_
                refine LOps.sk rfl rfl rfl rfl rfl rfl ?_
                refine LOps.sk rfl rfl rfl rfl rfl rfl ?_
                refine LOps.sk rfl rfl rfl rfl rfl rfl ?_
                refine LOps.sk rfl rfl rfl rfl rfl rfl ?_
                refine LOps.gd rfl rfl rfl (gd g6 rfl) rfl (LOp.pickF rfl rfl rfl) ?_
                refine LOps.st rfl rfl rfl (LOp.pickF rfl (gdl g6 rfl) rfl) ?_
                refine LOps.nil ?_
                refine thn_n ?_
                refine LW.condF rfl ?_
                refine LW.skip ?_
                refine thn_n ?_
                obtain rfl := Option.some.inj hr
                exact ⟨_, rfl, Weak.of 3 ⟨rfl, rfl, rfl, rfl, rfl, trivial⟩ rfl rfl rfl rfl⟩
        · obtain rfl := e_v4
          have hr := sum_l ho_v4
          clear hb_v4
          obtain ⟨b_v5, hb_v5, ho_v5⟩ := bind_get hr
          clear hr
          refine LW.cutB (b := b_v5) (E := fun v5 => [(0, .p (.slice 5 (l.map blkP))), (5, .ptr 0 0), (6, .ptr 1 0), (8, .p (.bool false))]) (O := fun v5 => [.box [.p (.int .u64 a.1), .p (.int .u64 a.2)], .box [.p (.int .u64 b.1), .p (.int .u64 b.2)], .box [.p (.int .u64 c.1), .p (.int .u64 c.2)]]) ?_ (fun v5 e_v5 => ?_)
          · have hr := hb_v5
            refine LW.seq ?_
            refine LW.region ?_
            refine LOps.st rfl rfl rfl (LOp.move rfl rfl) ?_
            refine LOps.st rfl rfl rfl (LOp.load rfl rfl rfl vt24 rfl rfl) ?_
            refine LOps.st rfl rfl rfl (LOp.load rfl rfl rfl vt24 rfl rfl) ?_
            obtain ⟨q9, hr⟩ := grd_get hr
            refine LOps.st rfl rfl rfl (LOp.call rfl rfl rfl (by kernel_rfl) (LC.pure (c40 (l := l) (a := a) (b := c) (few_le q9)) (.cons Conv.p (.cons Conv.p (.cons Conv.p .nil))))) ?_
            refine LOps.st rfl rfl rfl (LOp.move rfl rfl) ?_
            refine LOps.cases 71 rfl (fun (g10 : (decide (indexOf (chainOf l c) a ≥ 0)) = true) => ?_) (fun (g10 : (decide (indexOf (chainOf l c) a ≥ 0)) = false) => ?_)
            · -- g10 is True
              have hr := ite_t g10 hr
              refine LOps.gd rfl rfl rfl (gd g10 rfl) rfl (LOp.move rfl rfl) ?_
              refine LOps.gd rfl rfl rfl (gd g10 rfl) rfl (LOp.load rfl rfl rfl vt24 rfl rfl) ?_
              refine LOps.gd rfl rfl rfl (gd g10 rfl) rfl (LOp.load rfl rfl rfl vt24 rfl rfl) ?_
              obtain ⟨q10, hr⟩ := grd_get hr
              refine LOps.gd rfl rfl rfl (gd g10 rfl) rfl (LOp.call rfl rfl rfl (by kernel_rfl) (LC.pure (c40 (l := l) (a := b) (b := c) (few_le q10)) (.cons Conv.p (.cons Conv.p (.cons Conv.p .nil))))) ?_
              refine LOps.st rfl rfl rfl (LOp.pickT rfl (gdl g10 rfl) rfl) ?_
              refine LOps.st rfl rfl rfl (LOp.move rfl rfl) ?_
              refine LOps.cases 77 rfl (fun (g11 : (decide (indexOf (chainOf l c) b ≥ 0)) = true) => ?_) (fun (g11 : (decide (indexOf (chainOf l c) b ≥ 0)) = false) => ?_)
              · -- g11 is True
                have hr := ite_t g11 hr
                refine LOps.gd rfl rfl rfl (gd g11 rfl) rfl (LOp.move rfl rfl) ?_
                refine LOps.gd rfl rfl rfl (gd g11 rfl) rfl (LOp.load rfl rfl rfl vt24 rfl rfl) ?_
                refine LOps.gd rfl rfl rfl (gd g11 rfl) rfl (LOp.load rfl rfl rfl vt24 rfl rfl) ?_
                obtain ⟨q11, hr⟩ := grd_get hr
                refine LOps.gd rfl rfl rfl (gd g11 rfl) rfl (LOp.call rfl rfl rfl (by kernel_rfl) (LC.pure (c40 (l := l) (a := a) (b := b) (few_le q11)) (.cons Conv.p (.cons Conv.p (.cons Conv.p .nil))))) ?_
                refine LOps.gd rfl rfl rfl (gd g11 rfl) rfl (LOp.not rfl rfl) ?_
                refine LOps.st rfl rfl rfl (LOp.pickT rfl (gdl g11 rfl) rfl) ?_
                refine LOps.st rfl rfl rfl (LOp.move rfl rfl) ?_
                refine LOps.cases 84 rfl (fun (g12 : (!(decide (indexOf (chainOf l b) a ≥ 0))) = true) => ?_) (fun (g12 : (!(decide (indexOf (chainOf l b) a ≥ 0))) = false) => ?_)
                · -- g12 is True
                  have hr := ite_t g12 hr
                  refine LOps.gd rfl rfl rfl (gd g12 rfl) rfl (LOp.move rfl rfl) ?_
                  refine LOps.gd rfl rfl rfl (gd g12 rfl) rfl (LOp.load rfl rfl rfl vt24 rfl rfl) ?_
                  refine LOps.gd rfl rfl rfl (gd g12 rfl) rfl (LOp.load rfl rfl rfl vt24 rfl rfl) ?_
                  obtain ⟨q12, hr⟩ := grd_get hr
                  refine LOps.gd rfl rfl rfl (gd g12 rfl) rfl (LOp.call rfl rfl rfl (by kernel_rfl) (LC.pure (c40 (l := l) (a := b) (b := a) (few_le q12)) (.cons Conv.p (.cons Conv.p (.cons Conv.p .nil))))) ?_
                  refine LOps.gd rfl rfl rfl (gd g12 rfl) rfl (LOp.not rfl rfl) ?_
                  refine LOps.st rfl rfl rfl (LOp.pickT rfl (gdl g12 rfl) rfl) ?_
                  refine LOps.nil ?_
                  refine thn_n ?_
                  refine LW.cond rfl (fun (g13 : (!(decide (indexOf (chainOf l a) b ≥ 0))) = true) => ?_) (fun (g13 : (!(decide (indexOf (chainOf l a) b ≥ 0))) = false) => ?_)
                  · -- g13 is True
                    have hr := ite_t g13 hr
                    refine LW.seq ?_
                    refine LW.region ?_
                    refine LOps.st rfl rfl rfl (LOp.assign rfl rfl) ?_
                    refine LOps.nil ?_
                    refine thn_n ?_
                    refine LW.ret ?_
                    refine thn_r ?_
                    obtain rfl := Option.some.inj hr
                    have hr := sum_r ho_v5
                    obtain rfl := Option.some.inj hr
                    refine finP_ret (.one (.tmp rfl)) ?_
                    exact Conv.p
                  · -- g13 is False
                    have hr := ite_f g13 hr
                    refine LW.skip ?_
                    refine thn_n ?_
                    obtain rfl := Option.some.inj hr
                    exact ⟨_, rfl, Weak.of 3 ⟨rfl, rfl, rfl, rfl, trivial⟩ rfl rfl rfl rfl⟩
                · -- g12 is False
                  have hr := ite_f g12 hr
                  refine LOps.sk rfl rfl rfl (gd g12 rfl) rfl rfl ?_
                  refine LOps.sk rfl rfl rfl (gd g12 rfl) rfl rfl ?_
                  refine LOps.sk rfl rfl rfl (gd g12 rfl) rfl rfl ?_
                  refine LOps.sk rfl rfl rfl (gd g12 rfl) rfl rfl ?_
                  refine LOps.sk rfl rfl rfl (gd g12 rfl) rfl rfl ?_
                  refine LOps.st rfl rfl rfl (LOp.pickF rfl (gdl g12 rfl) rfl) ?_
                  refine LOps.nil ?_
                  refine thn_n ?_
                  refine LW.condF rfl ?_
                  refine LW.skip ?_
                  refine thn_n ?_
                  obtain rfl := Option.some.inj hr
                  exact ⟨_, rfl, Weak.of 3 ⟨rfl, rfl, rfl, rfl, trivial⟩ rfl rfl rfl rfl⟩
              · -- g11 is False
                have hr := ite_f g11 hr
                refine LOps.sk rfl rfl rfl (gd g11 rfl) rfl rfl ?_
                refine LOps.sk rfl rfl rfl (gd g11 rfl) rfl rfl ?_
                refine LOps.sk rfl rfl rfl (gd g11 rfl) rfl rfl ?_
                refine LOps.sk rfl rfl rfl (gd g11 rfl) rfl rfl ?_
                refine LOps.sk rfl rfl rfl (gd g11 rfl) rfl rfl ?_
                refine LOps.st rfl rfl rfl (LOp.pickF rfl (gdl g11 rfl) rfl) ?_
                refine LOps.st rfl rfl rfl (LOp.move rfl rfl) ?_
                refine LOps.sk rfl rfl rfl rfl rfl rfl ?_
                refine LOps.sk rfl rfl rfl rfl rfl rfl ?_
                refine LOps.sk rfl rfl rfl rfl rfl rfl ?_
                refine LOps.sk rfl rfl rfl rfl rfl rfl ?_
                refine LOps.sk rfl rfl rfl rfl rfl rfl ?_
                refine LOps.st rfl rfl rfl (LOp.pickF rfl rfl rfl) ?_
                refine LOps.nil ?_
                refine thn_n ?_
                refine LW.condF rfl ?_
                refine LW.skip ?_
                refine thn_n ?_
                obtain rfl := Option.some.inj hr
                exact ⟨_, rfl, Weak.of 3 ⟨rfl, rfl, rfl, rfl, trivial⟩ rfl rfl rfl rfl⟩
            · -- g10 is False
              have hr := ite_f g10 hr
              refine LOps.sk rfl rfl rfl (gd g10 rfl) rfl rfl ?_
              refine LOps.sk rfl rfl rfl (gd g10 rfl) rfl rfl ?_
              refine LOps.sk rfl rfl rfl (gd g10 rfl) rfl rfl ?_
              refine LOps.sk rfl rfl rfl (gd g10 rfl) rfl rfl ?_
              refine LOps.st rfl rfl rfl (LOp.pickF rfl (gdl g10 rfl) rfl) ?_
              refine LOps.st rfl rfl rfl (LOp.move rfl rfl) ?_
              refine LOps.sk rfl rfl rfl rfl rfl rfl ?_
              refine LOps.sk rfl rfl rfl rfl rfl rfl ?_
              refine LOps.sk rfl rfl rfl rfl rfl rfl ?_
              refine LOps.sk rfl rfl rfl rfl rfl rfl ?_
              refine LOps.sk rfl rfl rfl rfl rfl rfl ?_
              refine LOps.st rfl rfl rfl (LOp.pickF rfl rfl rfl) ?_
              refine LOps.st rfl rfl rfl (LOp.move rfl rfl) ?_
              refine LOps.sk rfl rfl rfl rfl rfl rfl ?_
              refine LOps.sk rfl rfl rfl rfl rfl rfl ?_
              refine LOps.sk rfl rfl rfl rfl rfl rfl ?_
              refine LOps.sk rfl rfl rfl rfl rfl rfl ?_
              refine LOps.sk rfl rfl rfl rfl rfl rfl ?_
              refine LOps.st rfl rfl rfl (LOp.pickF rfl rfl rfl) ?_
              refine LOps.nil ?_
              refine thn_n ?_
              refine LW.condF rfl ?_
              refine LW.skip ?_
              refine thn_n ?_
              obtain rfl := Option.some.inj hr
              exact ⟨_, rfl, Weak.of 3 ⟨rfl, rfl, rfl, rfl, trivial⟩ rfl rfl rfl rfl⟩
          · obtain rfl := e_v5
            have hr := sum_l ho_v5
            clear hb_v5
            refine LW.seq ?_
            refine LW.region ?_
            refine LOps.st rfl rfl rfl (LOp.move rfl rfl) ?_
            refine LOps.st rfl rfl rfl (LOp.load rfl rfl rfl vt24 rfl rfl) ?_
            refine LOps.st rfl rfl rfl (LOp.load rfl rfl rfl vt24 rfl rfl) ?_
            obtain ⟨q13, hr⟩ := grd_get hr
            refine LOps.st rfl rfl rfl (LOp.call rfl rfl rfl (by kernel_rfl) (LC.pure (c40 (l := l) (a := a) (b := b) (few_le q13)) (.cons Conv.p (.cons Conv.p (.cons Conv.p .nil))))) ?_
            refine LOps.st rfl rfl rfl (LOp.not rfl rfl) ?_
            refine LOps.st rfl rfl rfl (LOp.move rfl rfl) ?_
            refine LOps.cases 96 rfl (fun (g14 : (!(decide (indexOf (chainOf l b) a ≥ 0))) = true) => ?_) (fun (g14 : (!(decide (indexOf (chainOf l b) a ≥ 0))) = false) => ?_)
            · -- g14 is True
              have hr := ite_t g14 hr
              refine LOps.sk rfl rfl rfl (gd g14 rfl) rfl rfl ?_
              refine LOps.sk rfl rfl rfl (gd g14 rfl) rfl rfl ?_
              refine LOps.sk rfl rfl rfl (gd g14 rfl) rfl rfl ?_
              refine LOps.sk rfl rfl rfl (gd g14 rfl) rfl rfl ?_
              refine LOps.sk rfl rfl rfl (gd g14 rfl) rfl rfl ?_
              refine LOps.st rfl rfl rfl (LOp.pickT rfl (gdl g14 rfl) rfl) ?_
              refine LOps.st rfl rfl rfl (LOp.move rfl rfl) ?_
              refine LOps.sk rfl rfl rfl rfl rfl rfl ?_
              refine LOps.sk rfl rfl rfl rfl rfl rfl ?_
              refine LOps.sk rfl rfl rfl rfl rfl rfl ?_
              refine LOps.st rfl rfl rfl (LOp.pickT rfl rfl rfl) ?_
              refine LOps.st rfl rfl rfl (LOp.assign rfl rfl) ?_
              refine LOps.nil ?_
              refine thn_n ?_
              refine LW.ret ?_
              obtain rfl := Option.some.inj hr
              refine finP_ret (.one (.tmp rfl)) ?_
              exact Conv.p
            · -- g14 is False
              have hr := ite_f g14 hr
              refine LOps.gd rfl rfl rfl (gd g14 rfl) rfl (LOp.move rfl rfl) ?_
              refine LOps.gd rfl rfl rfl (gd g14 rfl) rfl (LOp.load rfl rfl rfl vt24 rfl rfl) ?_
              refine LOps.gd rfl rfl rfl (gd g14 rfl) rfl (LOp.load rfl rfl rfl vt24 rfl rfl) ?_
              obtain ⟨q14, hr⟩ := grd_get hr
              refine LOps.gd rfl rfl rfl (gd g14 rfl) rfl (LOp.call rfl rfl rfl (by kernel_rfl) (LC.pure (c40 (l := l) (a := b) (b := a) (few_le q14)) (.cons Conv.p (.cons Conv.p (.cons Conv.p .nil))))) ?_
              refine LOps.gd rfl rfl rfl (gd g14 rfl) rfl (LOp.not rfl rfl) ?_
              refine LOps.st rfl rfl rfl (LOp.pickF rfl (gdl g14 rfl) rfl) ?_
              refine LOps.st rfl rfl rfl (LOp.move rfl rfl) ?_
              refine LOps.cases 103 rfl (fun (g15 : (!(decide (indexOf (chainOf l a) b ≥ 0))) = true) => ?_) (fun (g15 : (!(decide (indexOf (chainOf l a) b ≥ 0))) = false) => ?_)
              · -- g15 is True
                have hr := ite_t g15 hr
                refine LOps.sk rfl rfl rfl (gd g15 rfl) rfl rfl ?_
                refine LOps.sk rfl rfl rfl (gd g15 rfl) rfl rfl ?_
                refine LOps.sk rfl rfl rfl (gd g15 rfl) rfl rfl ?_
                refine LOps.st rfl rfl rfl (LOp.pickT rfl (gdl g15 rfl) rfl) ?_
                refine LOps.st rfl rfl rfl (LOp.assign rfl rfl) ?_
                refine LOps.nil ?_
                refine thn_n ?_
                refine LW.ret ?_
                obtain rfl := Option.some.inj hr
                refine finP_ret (.one (.tmp rfl)) ?_
                exact Conv.p
              · -- g15 is False
                have hr := ite_f g15 hr
                refine LOps.gd rfl rfl rfl (gd g15 rfl) rfl (LOp.load rfl rfl rfl vt24 rfl rfl) ?_
                refine LOps.gd rfl rfl rfl (gd g15 rfl) rfl (LOp.load rfl rfl rfl vt24 rfl rfl) ?_
                refine LOps.gd rfl rfl rfl (gd g15 rfl) rfl (LOp.eqlAgg rfl rfl rfl rfl rfl eqt24) ?_
                refine LOps.st rfl rfl rfl (LOp.pickF rfl (gdl g15 rfl) rfl) ?_
                refine LOps.st rfl rfl rfl (LOp.assign rfl rfl) ?_
                refine LOps.nil ?_
                refine thn_n ?_
                refine LW.ret ?_
                obtain rfl := Option.some.inj hr
                refine finP_ret (.one (.tmp rfl)) ?_
                exact Conv.p

/-! marigold/marigoldlaw06.TreeMore -/

def F12 (l : List Bk) (b : Bk) (v_at : Int) (low : ID) (id : ID) : Option Bool :=
  (F41 ).bind fun v1 =>
  (
    bif !v1 then
      some true
    else
      bif decide ((l.length : Int) > 40) then
        some true
      else
        (F52 l).bind fun v3 =>
        bif !v3 then
          some true
        else
          bif decide (v_at < 0) then
            some true
          else
            some (decide (v_at > (l.length : Int)))
  ).bind fun v2 =>
  bif v2 then
    some v1
  else
    bif room 0 l.length 40 then
      bif room l.length [b].length 40 then
        (F43 l b.Parent).bind fun v4 =>
        (
          bif v4.2 then
            bif decide (b.Slot > v4.1) then
              bif !((((nm b).1) == 0) && ((((nm b).2) == 0) && true)) then
                (F53 l (nm b)).bind fun v6 =>
                some (decide (v6 < 0))
              else
                some false
            else
              some false
          else
            some false
        ).bind fun v5 =>
        (
          bif inL l 0 v_at then
            (F52 (l.take v_at.toNat)).bind fun v8 =>
            bif !v8 then
              some true
            else
              (F52 (l ++ [b])).bind fun v9 =>
              some (!(v9 == v5))
          else none
        ).bind fun v7 =>
        bif v7 then
          some false
        else
          bif !v5 then
            some true
          else
            bif few l then
              bif ((chainOf l id).length : Int) == 0 then
                some true
              else
                bif few (l ++ [b]) then
                  bif few l then
                    some ((decide (indexOf (chainOf (l ++ [b]) id) low ≥ 0)) == (decide (indexOf (chainOf l id) low ≥ 0)))
                  else none
                else none
            else none
      else none
    else none

set_option maxRecDepth 100000 in
theorem c12 {l : List Bk} {b : Bk} {v_at : Int} {low : ID} {id : ID} {r_ : Bool} (hr : F12 l b v_at low id = some r_) : LPure Try.prog 12 [.slice 5 (l.map blkP), blkP b, .int .i64 v_at, idP low, idP id] [.bool r_] := by
  refine LPure.start Try.func12 rfl rfl rfl rfl ?_
  unfold F12 at hr
  refine LW.seq ?_
  refine LW.region ?_
  refine LOps.st rfl rfl rfl (LOp.box rfl rfl rfl rfl rfl) ?_
  refine LOps.st rfl rfl rfl (LOp.box rfl rfl rfl rfl rfl) ?_
  refine LOps.st rfl rfl rfl (LOp.box rfl rfl rfl rfl rfl) ?_
  refine LOps.st rfl rfl rfl (LOp.assign rfl rfl) ?_
  refine LOps.nil ?_
  refine thn_n ?_
  refine LW.seq ?_
  refine LW.region ?_
  obtain ⟨v1, h_v1, hr⟩ := bind_get hr
  refine LOps.st rfl rfl rfl (LOp.call rfl rfl rfl (by kernel_rfl) (LC.pure (c41 h_v1) .nil)) ?_
  refine LOps.st rfl rfl rfl (LOp.assign rfl rfl) ?_
  refine LOps.nil ?_
  refine thn_n ?_
  refine LW.seq ?_
  obtain ⟨v2, hb_v2, ho_v2⟩ := bind_get hr
  clear hr
  refine LW.cut (E := [(0, .p (.slice 5 (l.map blkP))), (2, .p (.int .i64 v_at)), (6, .ptr 0 0), (8, .ptr 1 0), (9, .ptr 2 0), (10, .p (.bool false)), (11, .p (.bool v1)), (39, .p (.bool v2))]) (O := [.box [.p (.int .i64 b.Slot), .p (.int .i64 b.From), .p (.int .u64 b.Parent.1), .p (.int .u64 b.Parent.2), .p (.int .u64 b.Salt)], .box [.p (.int .u64 low.1), .p (.int .u64 low.2)], .box [.p (.int .u64 id.1), .p (.int .u64 id.2)]]) ?_ ?_
  · have hr := hb_v2
    refine LW.region ?_
    refine LOps.st rfl rfl rfl (LOp.move rfl rfl) ?_
    refine LOps.st rfl rfl rfl (LOp.not rfl rfl) ?_
    refine LOps.st rfl rfl rfl (LOp.move rfl rfl) ?_
    refine LOps.cases 20 rfl (fun (g1 : (!v1) = true) => ?_) (fun (g1 : (!v1) = false) => ?_)
    · -- g1 is True
      have hr := ite_t g1 hr
      refine LOps.sk rfl rfl rfl (gd g1 rfl) rfl rfl ?_
      refine LOps.sk rfl rfl rfl (gd g1 rfl) rfl rfl ?_
      refine LOps.sk rfl rfl rfl (gd g1 rfl) rfl rfl ?_
      refine LOps.st rfl rfl rfl (LOp.pickT rfl (gdl g1 rfl) rfl) ?_
      refine LOps.st rfl rfl rfl (LOp.move rfl rfl) ?_
      refine LOps.sk rfl rfl rfl rfl rfl rfl ?_
      refine LOps.sk rfl rfl rfl rfl rfl rfl ?_
      refine LOps.sk rfl rfl rfl rfl rfl rfl ?_
      refine LOps.st rfl rfl rfl (LOp.pickT rfl rfl rfl) ?_
      refine LOps.st rfl rfl rfl (LOp.move rfl rfl) ?_
      refine LOps.sk rfl rfl rfl rfl rfl rfl ?_
      refine LOps.sk rfl rfl rfl rfl rfl rfl ?_
      refine LOps.st rfl rfl rfl (LOp.pickT rfl rfl rfl) ?_
      refine LOps.st rfl rfl rfl (LOp.move rfl rfl) ?_
      refine LOps.sk rfl rfl rfl rfl rfl rfl ?_
      refine LOps.sk rfl rfl rfl rfl rfl rfl ?_
      refine LOps.sk rfl rfl rfl rfl rfl rfl ?_
      refine LOps.sk rfl rfl rfl rfl rfl rfl ?_
      refine LOps.st rfl rfl rfl (LOp.pickT rfl rfl rfl) ?_
      refine LOps.nil ?_
      refine thn_n ?_
      obtain rfl := Option.some.inj hr
      exact Weak.of 3 ⟨rfl, rfl, rfl, rfl, rfl, rfl, rfl, rfl, trivial⟩ rfl rfl rfl rfl
    · -- g1 is False
      have hr := ite_f g1 hr
      refine LOps.gd rfl rfl rfl (gd g1 rfl) rfl (LOp.move rfl rfl) ?_
      refine LOps.gd rfl rfl rfl (gd g1 rfl) rfl (LOp.lenM rfl rfl (by kernel_rfl)) ?_
      refine LOps.gd rfl rfl rfl (gd g1 rfl) rfl (LOp.bin rfl rfl rfl rfl) ?_
      refine LOps.st rfl rfl rfl (LOp.pickF rfl (gdl g1 rfl) rfl) ?_
      refine LOps.st rfl rfl rfl (LOp.move rfl rfl) ?_
      refine LOps.cases 25 rfl (fun (g2 : (decide ((l.length : Int) > 40)) = true) => ?_) (fun (g2 : (decide ((l.length : Int) > 40)) = false) => ?_)
      · -- g2 is True
        have hr := ite_t g2 hr
        refine LOps.sk rfl rfl rfl (gd g2 rfl) rfl rfl ?_
        refine LOps.sk rfl rfl rfl (gd g2 rfl) rfl rfl ?_
        refine LOps.sk rfl rfl rfl (gd g2 rfl) rfl rfl ?_
        refine LOps.st rfl rfl rfl (LOp.pickT rfl (gdl g2 rfl) rfl) ?_
        refine LOps.st rfl rfl rfl (LOp.move rfl rfl) ?_
        refine LOps.sk rfl rfl rfl rfl rfl rfl ?_
        refine LOps.sk rfl rfl rfl rfl rfl rfl ?_
        refine LOps.st rfl rfl rfl (LOp.pickT rfl rfl rfl) ?_
        refine LOps.st rfl rfl rfl (LOp.move rfl rfl) ?_
        refine LOps.sk rfl rfl rfl rfl rfl rfl ?_
        refine LOps.sk rfl rfl rfl rfl rfl rfl ?_
        refine LOps.sk rfl rfl rfl rfl rfl rfl ?_
        refine LOps.sk rfl rfl rfl rfl rfl rfl ?_
        refine LOps.st rfl rfl rfl (LOp.pickT rfl rfl rfl) ?_
        refine LOps.nil ?_
        refine thn_n ?_
        obtain rfl := Option.some.inj hr
        exact Weak.of 3 ⟨rfl, rfl, rfl, rfl, rfl, rfl, rfl, rfl, trivial⟩ rfl rfl rfl rfl
      · -- g2 is False
        have hr := ite_f g2 hr
        refine LOps.gd rfl rfl rfl (gd g2 rfl) rfl (LOp.move rfl rfl) ?_
        obtain ⟨v3, h_v3, hr⟩ := bind_get hr
        refine LOps.gd rfl rfl rfl (gd g2 rfl) rfl (LOp.call rfl rfl rfl (by kernel_rfl) (LC.pure (c52 h_v3) (.cons Conv.p .nil))) ?_
        refine LOps.gd rfl rfl rfl (gd g2 rfl) rfl (LOp.not rfl rfl) ?_
        refine LOps.st rfl rfl rfl (LOp.pickF rfl (gdl g2 rfl) rfl) ?_
        refine LOps.st rfl rfl rfl (LOp.move rfl rfl) ?_
        refine LOps.cases 30 rfl (fun (g3 : (!v3) = true) => ?_) (fun (g3 : (!v3) = false) => ?_)
        · -- g3 is True
          have hr := ite_t g3 hr
          refine LOps.sk rfl rfl rfl (gd g3 rfl) rfl rfl ?_
          refine LOps.sk rfl rfl rfl (gd g3 rfl) rfl rfl ?_
          refine LOps.st rfl rfl rfl (LOp.pickT rfl (gdl g3 rfl) rfl) ?_
          refine LOps.st rfl rfl rfl (LOp.move rfl rfl) ?_
          refine LOps.sk rfl rfl rfl rfl rfl rfl ?_
          refine LOps.sk rfl rfl rfl rfl rfl rfl ?_
          refine LOps.sk rfl rfl rfl rfl rfl rfl ?_
          refine LOps.sk rfl rfl rfl rfl rfl rfl ?_
          refine LOps.st rfl rfl rfl (LOp.pickT rfl rfl rfl) ?_
          refine LOps.nil ?_
          refine thn_n ?_
          obtain rfl := Option.some.inj hr
          exact Weak.of 3 ⟨rfl, rfl, rfl, rfl, rfl, rfl, rfl, rfl, trivial⟩ rfl rfl rfl rfl
        · -- g3 is False
          have hr := ite_f g3 hr
          refine LOps.gd rfl rfl rfl (gd g3 rfl) rfl (LOp.move rfl rfl) ?_
          refine LOps.gd rfl rfl rfl (gd g3 rfl) rfl (LOp.bin rfl rfl rfl rfl) ?_
          refine LOps.st rfl rfl rfl (LOp.pickF rfl (gdl g3 rfl) rfl) ?_
          refine LOps.st rfl rfl rfl (LOp.move rfl rfl) ?_
          refine LOps.cases 34 rfl (fun (g4 : (decide (v_at < 0)) = true) => ?_) (fun (g4 : (decide (v_at < 0)) = false) => ?_)
          · -- g4 is True
            have hr := ite_t g4 hr
            refine LOps.sk rfl rfl rfl (gd g4 rfl) rfl rfl ?_
            refine LOps.sk rfl rfl rfl (gd g4 rfl) rfl rfl ?_
            refine LOps.sk rfl rfl rfl (gd g4 rfl) rfl rfl ?_
            refine LOps.sk rfl rfl rfl (gd g4 rfl) rfl rfl ?_
            refine LOps.st rfl rfl rfl (LOp.pickT rfl (gdl g4 rfl) rfl) ?_
            refine LOps.nil ?_
            refine thn_n ?_
            obtain rfl := Option.some.inj hr
            exact Weak.of 3 ⟨rfl, rfl, rfl, rfl, rfl, rfl, rfl, rfl, trivial⟩ rfl rfl rfl rfl
          · -- g4 is False
            have hr := ite_f g4 hr
            refine LOps.gd rfl rfl rfl (gd g4 rfl) rfl (LOp.move rfl rfl) ?_
            refine LOps.gd rfl rfl rfl (gd g4 rfl) rfl (LOp.move rfl rfl) ?_
            refine LOps.gd rfl rfl rfl (gd g4 rfl) rfl (LOp.lenM rfl rfl (by kernel_rfl)) ?_
            refine LOps.gd rfl rfl rfl (gd g4 rfl) rfl (LOp.bin rfl rfl rfl rfl) ?_
            refine LOps.st rfl rfl rfl (LOp.pickF rfl (gdl g4 rfl) rfl) ?_
            refine LOps.nil ?_
            refine thn_n ?_
            obtain rfl := Option.some.inj hr
            exact Weak.of 3 ⟨rfl, rfl, rfl, rfl, rfl, rfl, rfl, rfl, trivial⟩ rfl rfl rfl rfl
  · have hr := ho_v2
    clear hb_v2
    refine LW.cond rfl (fun (g5 : v2 = true) => ?_) (fun (g5 : v2 = false) => ?_)
    · -- g5 is True
      have hr := ite_t g5 hr
      refine LW.seq ?_
      refine LW.region ?_
      refine LOps.st rfl rfl rfl (LOp.move rfl rfl) ?_
      refine LOps.st rfl rfl rfl (LOp.assign rfl rfl) ?_
      refine LOps.nil ?_
      refine thn_n ?_
      refine LW.ret ?_
      refine thn_r ?_
      obtain rfl := Option.some.inj hr
      refine finP_ret (.one (.tmp rfl)) ?_
      exact Conv.p
    · -- g5 is False
      have hr := ite_f g5 hr
      refine LW.skip ?_
      refine thn_n ?_
      refine LW.seq ?_
      refine LW.ent (Ent.slot rfl) ?_
      refine LW.drawW (by kernel_rfl) (by kernel_rfl) ?_
      refine LF.st (F := []) (s := none) rfl rfl rfl (fun H _ => LOp.move rfl rfl) rfl ?_
      obtain ⟨q1, hr⟩ := grd_get hr
      refine LF.st rfl rfl rfl (LAt.appendZX blkP l rfl rfl (id := 3) rfl rfl rfl st27 q1) rfl ?_
      refine LF.st rfl rfl rfl (LAt.load rfl rfl rfl vt42 rfl rfl) rfl ?_
      refine LF.st (F := []) (s := none) rfl rfl rfl (fun H _ => LOp.buildSlice rfl st27 rfl rfl rfl rfl rfl) rfl ?_
      obtain ⟨q2, hr⟩ := grd_get hr
      refine LF.st rfl rfl rfl (LAt.appendX blkP l [b] rfl rfl rfl rfl rfl st27 q2) rfl ?_
      refine LF.st (F := []) (s := none) rfl rfl rfl (fun H _ => LOp.assign rfl rfl) rfl ?_
      refine LF.nil ⟨by kernel_rfl, ?_⟩
      refine thn_n ?_
      refine LW.seq ?_
      refine LW.region ?_
      refine LOps.st rfl rfl rfl (LOp.move rfl rfl) ?_
      refine LOps.st rfl rfl rfl (LOp.fieldAddr rfl rfl ft42_2) ?_
      refine LOps.st rfl rfl rfl (LOp.load rfl rfl rfl vt24 rfl rfl) ?_
      obtain ⟨v4, h_v4, hr⟩ := bind_get hr
      refine LOps.st rfl rfl rfl (LOp.call rfl rfl rfl (by kernel_rfl) (LC.pure (c43 h_v4) (.cons Conv.p (.cons Conv.p .nil)))) ?_
      refine LOps.st rfl rfl rfl (LOp.move rfl rfl) ?_
      refine LOps.st rfl rfl rfl (LOp.extract rfl rfl rfl) ?_
      refine LOps.st rfl rfl rfl (LOp.extract rfl rfl rfl) ?_
      refine LOps.st rfl rfl rfl (LOp.assign rfl rfl) ?_
      refine LOps.st rfl rfl rfl (LOp.assign rfl rfl) ?_
      refine LOps.nil ?_
      refine thn_n ?_
      refine LW.seq ?_
      refine LW.region ?_
      refine LOps.st rfl rfl rfl (LOp.load rfl rfl rfl vt42 rfl rfl) ?_
      refine LOps.st rfl rfl rfl (LOp.call rfl rfl rfl (by kernel_rfl) (LC.pure (c50 (b := b)) (.cons Conv.p .nil))) ?_
      refine LOps.st rfl rfl rfl (LOp.alloc rfl zt24 rfl rfl) ?_
      refine LOps.st rfl rfl rfl (LOp.store rfl rfl rfl rfl vt24 rfl rfl rfl rfl) ?_
      refine LOps.nil ?_
      refine thn_n ?_
      obtain ⟨v5, hb_v5, ho_v5⟩ := bind_get hr
      clear hr
      refine LW.cut (E := [(0, .p (.slice 5 (l.map blkP))), (2, .p (.int .i64 v_at)), (8, .ptr 1 0), (9, .ptr 2 0), (10, .p (.bool false)), (12, .vec 5 3 ((l ++ [b]).map blkP).length 0 ((l ++ [b]).map blkP).length), (16, .p (.bool v5))]) (O := [.box [.p (.int .i64 b.Slot), .p (.int .i64 b.From), .p (.int .u64 b.Parent.1), .p (.int .u64 b.Parent.2), .p (.int .u64 b.Salt)], .box [.p (.int .u64 low.1), .p (.int .u64 low.2)], .box [.p (.int .u64 id.1), .p (.int .u64 id.2)], .vec 5 ((l ++ [b]).map blkP), .box [.p (.int .u64 ((nm b).1)), .p (.int .u64 ((nm b).2))]]) ?_ ?_
      · have hr := hb_v5
        refine LW.region ?_
        refine LOps.st rfl rfl rfl (LOp.move rfl rfl) ?_
        refine LOps.st rfl rfl rfl (LOp.move rfl rfl) ?_
        refine LOps.cases 56 rfl (fun (g6 : v4.2 = true) => ?_) (fun (g6 : v4.2 = false) => ?_)
        · -- g6 is True
          have hr := ite_t g6 hr
          refine LOps.gd rfl rfl rfl (gd g6 rfl) rfl (LOp.fieldAddr rfl rfl ft42_0) ?_
          refine LOps.gd rfl rfl rfl (gd g6 rfl) rfl (LOp.load rfl rfl rfl vt3 rfl rfl) ?_
          refine LOps.gd rfl rfl rfl (gd g6 rfl) rfl (LOp.move rfl rfl) ?_
          refine LOps.gd rfl rfl rfl (gd g6 rfl) rfl (LOp.bin rfl rfl rfl rfl) ?_
          refine LOps.st rfl rfl rfl (LOp.pickT rfl (gdl g6 rfl) rfl) ?_
          refine LOps.st rfl rfl rfl (LOp.move rfl rfl) ?_
          refine LOps.cases 62 rfl (fun (g7 : (decide (b.Slot > v4.1)) = true) => ?_) (fun (g7 : (decide (b.Slot > v4.1)) = false) => ?_)
          · -- g7 is True
            have hr := ite_t g7 hr
            refine LOps.gd rfl rfl rfl (gd g7 rfl) rfl (LOp.load rfl rfl rfl vt24 rfl rfl) ?_
            refine LOps.gd rfl rfl rfl (gd g7 rfl) rfl (LOp.build rfl bt24 rfl rfl rfl) ?_
            refine LOps.gd rfl rfl rfl (gd g7 rfl) rfl (LOp.neqAgg rfl rfl rfl rfl rfl eqt24) ?_
            refine LOps.st rfl rfl rfl (LOp.pickT rfl (gdl g7 rfl) rfl) ?_
            refine LOps.st rfl rfl rfl (LOp.move rfl rfl) ?_
            refine LOps.cases 67 rfl (fun (g8 : (!((((nm b).1) == 0) && ((((nm b).2) == 0) && true))) = true) => ?_) (fun (g8 : (!((((nm b).1) == 0) && ((((nm b).2) == 0) && true))) = false) => ?_)
            · -- g8 is True
              have hr := ite_t g8 hr
              refine LOps.gd rfl rfl rfl (gd g8 rfl) rfl (LOp.move rfl rfl) ?_
              refine LOps.gd rfl rfl rfl (gd g8 rfl) rfl (LOp.load rfl rfl rfl vt24 rfl rfl) ?_
              obtain ⟨v6, h_v6, hr⟩ := bind_get hr
              refine LOps.gd rfl rfl rfl (gd g8 rfl) rfl (LOp.call rfl rfl rfl (by kernel_rfl) (LC.pure (c53 h_v6) (.cons Conv.p (.cons Conv.p .nil)))) ?_
              refine LOps.gd rfl rfl rfl (gd g8 rfl) rfl (LOp.bin rfl rfl rfl rfl) ?_
              refine LOps.st rfl rfl rfl (LOp.pickT rfl (gdl g8 rfl) rfl) ?_
              refine LOps.st rfl rfl rfl (LOp.assign rfl rfl) ?_
              refine LOps.nil ?_
              refine thn_n ?_
              obtain rfl := Option.some.inj hr
              exact Weak.of 5 ⟨rfl, rfl, rfl, rfl, rfl, rfl, rfl, trivial⟩ rfl rfl rfl rfl
            · -- g8 is False
              have hr := ite_f g8 hr
              refine LOps.sk rfl rfl rfl (gd g8 rfl) rfl rfl ?_
              refine LOps.sk rfl rfl rfl (gd g8 rfl) rfl rfl ?_
              refine LOps.sk rfl rfl rfl (gd g8 rfl) rfl rfl ?_
              refine LOps.sk rfl rfl rfl (gd g8 rfl) rfl rfl ?_
              refine LOps.st rfl rfl rfl (LOp.pickF rfl (gdl g8 rfl) rfl) ?_
              refine LOps.st rfl rfl rfl (LOp.assign rfl rfl) ?_
              refine LOps.nil ?_
              refine thn_n ?_
              obtain rfl := Option.some.inj hr
              exact Weak.of 5 ⟨rfl, rfl, rfl, rfl, rfl, rfl, rfl, trivial⟩ rfl rfl rfl rfl
          · -- g7 is False
            have hr := ite_f g7 hr
            refine LOps.sk rfl rfl rfl (gd g7 rfl) rfl rfl ?_
            refine LOps.sk rfl rfl rfl (gd g7 rfl) rfl rfl ?_
            refine LOps.sk rfl rfl rfl (gd g7 rfl) rfl rfl ?_
            refine LOps.st rfl rfl rfl (LOp.pickF rfl (gdl g7 rfl) rfl) ?_
            refine LOps.st rfl rfl rfl (LOp.move rfl rfl) ?_
            refine LOps.sk rfl rfl rfl rfl rfl rfl ?_
            refine LOps.sk rfl rfl rfl rfl rfl rfl ?_
            refine LOps.sk rfl rfl rfl rfl rfl rfl ?_
            refine LOps.sk rfl rfl rfl rfl rfl rfl ?_
            refine LOps.st rfl rfl rfl (LOp.pickF rfl rfl rfl) ?_
            refine LOps.st rfl rfl rfl (LOp.assign rfl rfl) ?_
            refine LOps.nil ?_
            refine thn_n ?_
            obtain rfl := Option.some.inj hr
            exact Weak.of 5 ⟨rfl, rfl, rfl, rfl, rfl, rfl, rfl, trivial⟩ rfl rfl rfl rfl
        · -- g6 is False
          have hr := ite_f g6 hr
          refine LOps.sk rfl rfl rfl (gd g6 rfl) rfl rfl ?_
          refine LOps.sk rfl rfl rfl (gd g6 rfl) rfl rfl ?_
          refine LOps.sk rfl rfl rfl (gd g6 rfl) rfl rfl ?_
          refine LOps.sk rfl rfl rfl (gd g6 rfl) rfl rfl ?_
          refine LOps.st rfl rfl rfl (LOp.pickF rfl (gdl g6 rfl) rfl) ?_
          refine LOps.st rfl rfl rfl (LOp.move rfl rfl) ?_
          refine LOps.sk rfl rfl rfl rfl rfl rfl ?_
          refine LOps.sk rfl rfl rfl rfl rfl rfl ?_
          refine LOps.sk rfl rfl rfl rfl rfl rfl ?_
          refine LOps.st rfl rfl rfl (LOp.pickF rfl rfl rfl) ?_
          refine LOps.st rfl rfl rfl (LOp.move rfl rfl) ?_
          refine LOps.sk rfl rfl rfl rfl rfl rfl ?_
          refine LOps.sk rfl rfl rfl rfl rfl rfl ?_
          refine LOps.sk rfl rfl rfl rfl rfl rfl ?_
          refine LOps.sk rfl rfl rfl rfl rfl rfl ?_
          refine LOps.st rfl rfl rfl (LOp.pickF rfl rfl rfl) ?_
          refine LOps.st rfl rfl rfl (LOp.assign rfl rfl) ?_
          refine LOps.nil ?_
          refine thn_n ?_
          obtain rfl := Option.some.inj hr
          exact Weak.of 5 ⟨rfl, rfl, rfl, rfl, rfl, rfl, rfl, trivial⟩ rfl rfl rfl rfl
      · have hr := ho_v5
        clear hb_v5
        refine LW.seq ?_
        obtain ⟨v7, hb_v7, ho_v7⟩ := bind_get hr
        clear hr
        refine LW.cut (E := [(0, .p (.slice 5 (l.map blkP))), (8, .ptr 1 0), (9, .ptr 2 0), (10, .p (.bool false)), (12, .vec 5 3 ((l ++ [b]).map blkP).length 0 ((l ++ [b]).map blkP).length), (16, .p (.bool v5)), (83, .p (.bool v7))]) (O := [.box [.p (.int .i64 b.Slot), .p (.int .i64 b.From), .p (.int .u64 b.Parent.1), .p (.int .u64 b.Parent.2), .p (.int .u64 b.Salt)], .box [.p (.int .u64 low.1), .p (.int .u64 low.2)], .box [.p (.int .u64 id.1), .p (.int .u64 id.2)], .vec 5 ((l ++ [b]).map blkP), .box [.p (.int .u64 ((nm b).1)), .p (.int .u64 ((nm b).2))]]) ?_ ?_
        · have hr := hb_v7
          refine LW.region ?_
          refine LOps.st rfl rfl rfl (LOp.move rfl rfl) ?_
          refine LOps.st rfl rfl rfl (LOp.move rfl rfl) ?_
          obtain ⟨q3, hr⟩ := grd_get hr
          refine LOps.st rfl rfl rfl (LOp.sliceHi rfl rfl rfl st27 q3) ?_
          obtain ⟨v8, h_v8, hr⟩ := bind_get hr
          refine LOps.st rfl rfl rfl (LOp.call rfl rfl rfl (by kernel_rfl) (LC.pure (c52 h_v8) (.cons Conv.p .nil))) ?_
          refine LOps.st rfl rfl rfl (LOp.not rfl rfl) ?_
          refine LOps.st rfl rfl rfl (LOp.move rfl rfl) ?_
          refine LOps.cases 78 rfl (fun (g9 : (!v8) = true) => ?_) (fun (g9 : (!v8) = false) => ?_)
          · -- g9 is True
            have hr := ite_t g9 hr
            refine LOps.sk rfl rfl rfl (gd g9 rfl) rfl rfl ?_
            refine LOps.sk rfl rfl rfl (gd g9 rfl) rfl rfl ?_
            refine LOps.sk rfl rfl rfl (gd g9 rfl) rfl rfl ?_
            refine LOps.sk rfl rfl rfl (gd g9 rfl) rfl rfl ?_
            refine LOps.st rfl rfl rfl (LOp.pickT rfl (gdl g9 rfl) rfl) ?_
            refine LOps.nil ?_
            refine thn_n ?_
            obtain rfl := Option.some.inj hr
            exact Weak.of 5 ⟨rfl, rfl, rfl, rfl, rfl, rfl, rfl, trivial⟩ rfl rfl rfl rfl
          · -- g9 is False
            have hr := ite_f g9 hr
            refine LOps.gd rfl rfl rfl (gd g9 rfl) rfl (LOp.move rfl rfl) ?_
            obtain ⟨v9, h_v9, hr⟩ := bind_get hr
            refine LOps.gd rfl rfl rfl (gd g9 rfl) rfl (LOp.call rfl rfl rfl (by kernel_rfl) (LC.lend (c52 h_v9) (.cons (Conv.vecAll rfl rfl rfl) .nil) rfl)) ?_
            refine LOps.gd rfl rfl rfl (gd g9 rfl) rfl (LOp.move rfl rfl) ?_
            refine LOps.gd rfl rfl rfl (gd g9 rfl) rfl (LOp.neqBool rfl rfl rfl Try.underlying4) ?_
            refine LOps.st rfl rfl rfl (LOp.pickF rfl (gdl g9 rfl) rfl) ?_
            refine LOps.nil ?_
            refine thn_n ?_
            obtain rfl := Option.some.inj hr
            exact Weak.of 5 ⟨rfl, rfl, rfl, rfl, rfl, rfl, rfl, trivial⟩ rfl rfl rfl rfl
        · have hr := ho_v7
          clear hb_v7
          refine LW.cond rfl (fun (g10 : v7 = true) => ?_) (fun (g10 : v7 = false) => ?_)
          · -- g10 is True
            have hr := ite_t g10 hr
            refine LW.seq ?_
            refine LW.region ?_
            refine LOps.st rfl rfl rfl (LOp.assign rfl rfl) ?_
            refine LOps.nil ?_
            refine thn_n ?_
            refine LW.ret ?_
            refine thn_r ?_
            obtain rfl := Option.some.inj hr
            refine finP_ret (.one (.tmp rfl)) ?_
            exact Conv.p
          · -- g10 is False
            have hr := ite_f g10 hr
            refine LW.skip ?_
            refine thn_n ?_
            refine LW.seq ?_
            refine LW.draw (by kernel_rfl) (by kernel_rfl) ?_
            refine LO.st rfl rfl rfl (LOp.move rfl rfl) ?_
            refine LO.st rfl rfl rfl (LOp.not rfl rfl) ?_
            refine LO.st rfl rfl rfl (LOp.move rfl rfl) ?_
            refine LO.cases 86 rfl (fun (g11 : (!v5) = true) => ?_) (fun (g11 : (!v5) = false) => ?_)
            · -- g11 is True
              have hr := ite_t g11 hr
              refine LO.sk rfl rfl rfl (gd g11 rfl) rfl rfl ?_
              refine LO.sk rfl rfl rfl (gd g11 rfl) rfl rfl ?_
              refine LO.sk rfl rfl rfl (gd g11 rfl) rfl rfl ?_
              refine LO.sk rfl rfl rfl (gd g11 rfl) rfl rfl ?_
              refine LO.sk rfl rfl rfl (gd g11 rfl) rfl rfl ?_
              refine LO.st rfl rfl rfl (LOp.pickT rfl (gdl g11 rfl) rfl) ?_
              refine LO.st rfl rfl rfl (LOp.move rfl rfl) ?_
              refine LO.sk rfl rfl rfl rfl rfl rfl ?_
              refine LO.sk rfl rfl rfl rfl rfl rfl ?_
              refine LO.sk rfl rfl rfl rfl rfl rfl ?_
              refine LO.sk rfl rfl rfl rfl rfl rfl ?_
              refine LO.sk rfl rfl rfl rfl rfl rfl ?_
              refine LO.sk rfl rfl rfl rfl rfl rfl ?_
              refine LO.sk rfl rfl rfl rfl rfl rfl ?_
              refine LO.sk rfl rfl rfl rfl rfl rfl ?_
              refine LO.sk rfl rfl rfl rfl rfl rfl ?_
              refine LO.st rfl rfl rfl (LOp.pickT rfl rfl rfl) ?_
              refine LO.st rfl rfl rfl (LOp.assign rfl rfl) ?_
              refine LO.nil ?_
              refine thn_n ?_
              refine LW.ret ?_
              obtain rfl := Option.some.inj hr
              refine finP_ret (.one (.tmp rfl)) ?_
              exact Conv.p
            · -- g11 is False
              have hr := ite_f g11 hr
              refine LO.gd rfl rfl rfl (gd g11 rfl) rfl (LOp.move rfl rfl) ?_
              refine LO.gd rfl rfl rfl (gd g11 rfl) rfl (LOp.load rfl rfl rfl vt24 rfl rfl) ?_
              obtain ⟨q4, hr⟩ := grd_get hr
              refine LO.gd rfl rfl rfl (gd g11 rfl) rfl (LOp.call rfl rfl rfl (by kernel_rfl) (LC.pure (c39 (l := l) (id := id) (few_le q4)) (.cons Conv.p (.cons Conv.p .nil)))) ?_
              refine LO.gd rfl rfl rfl (gd g11 rfl) rfl (LOp.lenM rfl rfl (by kernel_rfl)) ?_
              refine LO.gd rfl rfl rfl (gd g11 rfl) rfl (LOp.bin rfl rfl rfl rfl) ?_
              refine LO.st rfl rfl rfl (LOp.pickF rfl (gdl g11 rfl) rfl) ?_
              refine LO.st rfl rfl rfl (LOp.move rfl rfl) ?_
              refine LO.cases 93 rfl (fun (g12 : (((chainOf l id).length : Int) == 0) = true) => ?_) (fun (g12 : (((chainOf l id).length : Int) == 0) = false) => ?_)
              · -- g12 is True
                have hr := ite_t g12 hr
                refine LO.sk rfl rfl rfl (gd g12 rfl) rfl rfl ?_
                refine LO.sk rfl rfl rfl (gd g12 rfl) rfl rfl ?_
                refine LO.sk rfl rfl rfl (gd g12 rfl) rfl rfl ?_
                refine LO.sk rfl rfl rfl (gd g12 rfl) rfl rfl ?_
                refine LO.sk rfl rfl rfl (gd g12 rfl) rfl rfl ?_
                refine LO.sk rfl rfl rfl (gd g12 rfl) rfl rfl ?_
                refine LO.sk rfl rfl rfl (gd g12 rfl) rfl rfl ?_
                refine LO.sk rfl rfl rfl (gd g12 rfl) rfl rfl ?_
                refine LO.sk rfl rfl rfl (gd g12 rfl) rfl rfl ?_
                refine LO.st rfl rfl rfl (LOp.pickT rfl (gdl g12 rfl) rfl) ?_
                refine LO.st rfl rfl rfl (LOp.assign rfl rfl) ?_
                refine LO.nil ?_
                refine thn_n ?_
                refine LW.ret ?_
                obtain rfl := Option.some.inj hr
                refine finP_ret (.one (.tmp rfl)) ?_
                exact Conv.p
              · -- g12 is False
                have hr := ite_f g12 hr
                refine LO.gd rfl rfl rfl (gd g12 rfl) rfl (LOp.move rfl rfl) ?_
                refine LO.gd rfl rfl rfl (gd g12 rfl) rfl (LOp.load rfl rfl rfl vt24 rfl rfl) ?_
                refine LO.gd rfl rfl rfl (gd g12 rfl) rfl (LOp.load rfl rfl rfl vt24 rfl rfl) ?_
                obtain ⟨q5, hr⟩ := grd_get hr
                refine LO.gd rfl rfl rfl (gd g12 rfl) rfl (LOp.call rfl rfl rfl (by kernel_rfl) (LC.lend (c40 (l := (l ++ [b])) (a := low) (b := id) (few_le q5)) (.cons (Conv.vecAll rfl rfl rfl) (.cons Conv.p (.cons Conv.p .nil))) rfl)) ?_
                refine LO.gd rfl rfl rfl (gd g12 rfl) rfl (LOp.move rfl rfl) ?_
                refine LO.gd rfl rfl rfl (gd g12 rfl) rfl (LOp.load rfl rfl rfl vt24 rfl rfl) ?_
                refine LO.gd rfl rfl rfl (gd g12 rfl) rfl (LOp.load rfl rfl rfl vt24 rfl rfl) ?_
                obtain ⟨q6, hr⟩ := grd_get hr
                refine LO.gd rfl rfl rfl (gd g12 rfl) rfl (LOp.call rfl rfl rfl (by kernel_rfl) (LC.pure (c40 (l := l) (a := low) (b := id) (few_le q6)) (.cons Conv.p (.cons Conv.p (.cons Conv.p .nil))))) ?_
                refine LO.gd rfl rfl rfl (gd g12 rfl) rfl (LOp.eqlBool rfl rfl rfl Try.underlying4) ?_
                refine LO.st rfl rfl rfl (LOp.pickF rfl (gdl g12 rfl) rfl) ?_
                refine LO.st rfl rfl rfl (LOp.assign rfl rfl) ?_
                refine LO.nil ?_
                refine thn_n ?_
                refine LW.ret ?_
                obtain rfl := Option.some.inj hr
                refine finP_ret (.one (.tmp rfl)) ?_
                exact Conv.p

/-! marigold/marigoldlaw06.TreeKids -/
structure F13_L1 where
  n : Int
  i : Int

def F13_s1 (l : List Bk) (x1 : F13_L1) : Option (F13_L1 ⊕ (F13_L1 ⊕ Bool)) :=
  bif decide (x1.i < (l.length : Int)) then
    (ix l x1.i).bind fun y1 =>
    (F46 l (nm y1)).bind fun v8 =>
    (F43 l (nm y1)).bind fun v9 =>
    (F53 l (nm y1)).bind fun v10 =>
    bif v10 != x1.i then
      some (.inr (.inr false))
    else
      bif !v9.2 then
        some (.inr (.inr false))
      else
        (ix l x1.i).bind fun y2 =>
        bif v9.1 != y2.Slot then
          some (.inr (.inr false))
        else
          (ix l x1.i).bind fun y3 =>
          bif few l then
            bif !(decide (indexOf (chainOf l (nm y1)) y3.Parent ≥ 0)) then
              some (.inr (.inr false))
            else
              some (.inl (F13_L1.mk (IntKind.i64.wrap (x1.n + (v8.length : Int))) (IntKind.i64.wrap (x1.i + 1))))
          else none
  else
    some (.inr (.inl (F13_L1.mk x1.n x1.i)))
def F13 (l : List Bk) : Option Bool :=
  (F41 ).bind fun v1 =>
  (
    bif !v1 then
      some true
    else
      some (decide ((l.length : Int) > 40))
  ).bind fun v2 =>
  bif v2 then
    some v1
  else
    (F46 l (0, 0)).bind fun v3 =>
    (F52 l).bind fun v4 =>
    bif !v4 then
      (
        bif (v3.length : Int) == 0 then
          (F53 l (0, 0)).bind fun v6 =>
          some (v6 == (-1))
        else
          some false
      ).bind fun v5 =>
      some v5
    else
      (iter (F13_s1 l) big (F13_L1.mk (v3.length : Int) 0)).bind fun b_v7 => Sum.elim (fun v7 =>
        some (v7.n == (l.length : Int))) some b_v7

set_option maxRecDepth 100000 in
theorem c13 {l : List Bk} {r_ : Bool} (hr : F13 l = some r_) : LPure Try.prog 13 [.slice 5 (l.map blkP)] [.bool r_] := by
  refine LPure.start Try.func13 rfl rfl rfl rfl ?_
  unfold F13 at hr
  refine LW.seq ?_
  refine LW.region ?_
  refine LOps.st rfl rfl rfl (LOp.assign rfl rfl) ?_
  refine LOps.nil ?_
  refine thn_n ?_
  refine LW.seq ?_
  refine LW.region ?_
  obtain ⟨v1, h_v1, hr⟩ := bind_get hr
  refine LOps.st rfl rfl rfl (LOp.call rfl rfl rfl (by kernel_rfl) (LC.pure (c41 h_v1) .nil)) ?_
  refine LOps.st rfl rfl rfl (LOp.assign rfl rfl) ?_
  refine LOps.nil ?_
  refine thn_n ?_
  refine LW.seq ?_
  obtain ⟨v2, hb_v2, ho_v2⟩ := bind_get hr
  clear hr
  refine LW.cut (E := [(0, .p (.slice 5 (l.map blkP))), (2, .p (.bool false)), (3, .p (.bool v1)), (16, .p (.bool v2))]) (O := []) ?_ ?_
  · have hr := hb_v2
    refine LW.region ?_
    refine LOps.st rfl rfl rfl (LOp.move rfl rfl) ?_
    refine LOps.st rfl rfl rfl (LOp.not rfl rfl) ?_
    refine LOps.st rfl rfl rfl (LOp.move rfl rfl) ?_
    refine LOps.cases 12 rfl (fun (g1 : (!v1) = true) => ?_) (fun (g1 : (!v1) = false) => ?_)
    · -- g1 is True
      have hr := ite_t g1 hr
      refine LOps.sk rfl rfl rfl (gd g1 rfl) rfl rfl ?_
      refine LOps.sk rfl rfl rfl (gd g1 rfl) rfl rfl ?_
      refine LOps.sk rfl rfl rfl (gd g1 rfl) rfl rfl ?_
      refine LOps.st rfl rfl rfl (LOp.pickT rfl (gdl g1 rfl) rfl) ?_
      refine LOps.nil ?_
      refine thn_n ?_
      obtain rfl := Option.some.inj hr
      exact Weak.of 0 ⟨rfl, rfl, rfl, rfl, trivial⟩ rfl rfl rfl rfl
    · -- g1 is False
      have hr := ite_f g1 hr
      refine LOps.gd rfl rfl rfl (gd g1 rfl) rfl (LOp.move rfl rfl) ?_
      refine LOps.gd rfl rfl rfl (gd g1 rfl) rfl (LOp.lenM rfl rfl (by kernel_rfl)) ?_
      refine LOps.gd rfl rfl rfl (gd g1 rfl) rfl (LOp.bin rfl rfl rfl rfl) ?_
      refine LOps.st rfl rfl rfl (LOp.pickF rfl (gdl g1 rfl) rfl) ?_
      refine LOps.nil ?_
      refine thn_n ?_
      obtain rfl := Option.some.inj hr
      exact Weak.of 0 ⟨rfl, rfl, rfl, rfl, trivial⟩ rfl rfl rfl rfl
  · have hr := ho_v2
    clear hb_v2
    refine LW.cond rfl (fun (g2 : v2 = true) => ?_) (fun (g2 : v2 = false) => ?_)
    · -- g2 is True
      have hr := ite_t g2 hr
      refine LW.seq ?_
      refine LW.region ?_
      refine LOps.st rfl rfl rfl (LOp.move rfl rfl) ?_
      refine LOps.st rfl rfl rfl (LOp.assign rfl rfl) ?_
      refine LOps.nil ?_
      refine thn_n ?_
      refine LW.ret ?_
      refine thn_r ?_
      obtain rfl := Option.some.inj hr
      refine finP_ret (.one (.tmp rfl)) ?_
      exact Conv.p
    · -- g2 is False
      have hr := ite_f g2 hr
      refine LW.skip ?_
      refine thn_n ?_
      refine LW.seq ?_
      refine LW.region ?_
      refine LOps.st rfl rfl rfl (LOp.move rfl rfl) ?_
      refine LOps.st rfl rfl rfl (LOp.build rfl bt24 rfl rfl rfl) ?_
      obtain ⟨v3, h_v3, hr⟩ := bind_get hr
      refine LOps.st rfl rfl rfl (LOp.call rfl rfl rfl (by kernel_rfl) (LC.pure (c46 h_v3) (.cons Conv.p (.cons Conv.p .nil)))) ?_
      refine LOps.st rfl rfl rfl (LOp.lenM rfl rfl (by kernel_rfl)) ?_
      refine LOps.st rfl rfl rfl (LOp.assign rfl rfl) ?_
      refine LOps.nil ?_
      refine thn_n ?_
      refine LW.seq ?_
      refine LW.seq ?_
      refine LW.region ?_
      refine LOps.st rfl rfl rfl (LOp.move rfl rfl) ?_
      obtain ⟨v4, h_v4, hr⟩ := bind_get hr
      refine LOps.st rfl rfl rfl (LOp.call rfl rfl rfl (by kernel_rfl) (LC.pure (c52 h_v4) (.cons Conv.p .nil))) ?_
      refine LOps.st rfl rfl rfl (LOp.not rfl rfl) ?_
      refine LOps.nil ?_
      refine thn_n ?_
      refine LW.cond rfl (fun (g3 : (!v4) = true) => ?_) (fun (g3 : (!v4) = false) => ?_)
      · -- g3 is True
        have hr := ite_t g3 hr
        obtain ⟨v5, hb_v5, ho_v5⟩ := bind_get hr
        clear hr
        refine LW.cut (E := [(0, .p (.slice 5 (l.map blkP))), (2, .p (.bool v5)), (4, .p (.int .i64 (v3.length : Int)))]) (O := []) ?_ ?_
        · have hr := hb_v5
          refine LW.region ?_
          refine LOps.st rfl rfl rfl (LOp.move rfl rfl) ?_
          refine LOps.st rfl rfl rfl (LOp.bin rfl rfl rfl rfl) ?_
          refine LOps.st rfl rfl rfl (LOp.move rfl rfl) ?_
          refine LOps.cases 27 rfl (fun (g4 : ((v3.length : Int) == 0) = true) => ?_) (fun (g4 : ((v3.length : Int) == 0) = false) => ?_)
          · -- g4 is True
            have hr := ite_t g4 hr
            refine LOps.gd rfl rfl rfl (gd g4 rfl) rfl (LOp.move rfl rfl) ?_
            refine LOps.gd rfl rfl rfl (gd g4 rfl) rfl (LOp.build rfl bt24 rfl rfl rfl) ?_
            obtain ⟨v6, h_v6, hr⟩ := bind_get hr
            refine LOps.gd rfl rfl rfl (gd g4 rfl) rfl (LOp.call rfl rfl rfl (by kernel_rfl) (LC.pure (c53 h_v6) (.cons Conv.p (.cons Conv.p .nil)))) ?_
            refine LOps.gd rfl rfl rfl (gd g4 rfl) rfl (LOp.bin rfl rfl rfl rfl) ?_
            refine LOps.st rfl rfl rfl (LOp.pickT rfl (gdl g4 rfl) rfl) ?_
            refine LOps.st rfl rfl rfl (LOp.assign rfl rfl) ?_
            refine LOps.nil ?_
            refine thn_n ?_
            obtain rfl := Option.some.inj hr
            exact Weak.of 0 ⟨rfl, rfl, rfl, trivial⟩ rfl rfl rfl rfl
          · -- g4 is False
            have hr := ite_f g4 hr
            refine LOps.sk rfl rfl rfl (gd g4 rfl) rfl rfl ?_
            refine LOps.sk rfl rfl rfl (gd g4 rfl) rfl rfl ?_
            refine LOps.sk rfl rfl rfl (gd g4 rfl) rfl rfl ?_
            refine LOps.sk rfl rfl rfl (gd g4 rfl) rfl rfl ?_
            refine LOps.st rfl rfl rfl (LOp.pickF rfl (gdl g4 rfl) rfl) ?_
            refine LOps.st rfl rfl rfl (LOp.assign rfl rfl) ?_
            refine LOps.nil ?_
            refine thn_n ?_
            obtain rfl := Option.some.inj hr
            exact Weak.of 0 ⟨rfl, rfl, rfl, trivial⟩ rfl rfl rfl rfl
        · have hr := ho_v5
          clear hb_v5
          refine LW.ret ?_
          refine thn_r ?_
          obtain rfl := Option.some.inj hr
          refine finP_ret (.one (.tmp rfl)) ?_
          exact Conv.p
      · -- g3 is False
        have hr := ite_f g3 hr
        refine LW.skip ?_
        refine thn_n ?_
        refine LW.seq ?_
        refine LW.seq ?_
        refine LW.region ?_
        refine LOps.st rfl rfl rfl (LOp.assign rfl rfl) ?_
        refine LOps.nil ?_
        refine thn_n ?_
        obtain ⟨b_v7, hb_v7, ho_v7⟩ := bind_get hr
        clear hr
        refine LW.tailB (b := b_v7) (E := fun v7 => [(0, .p (.slice 5 (l.map blkP))), (2, .p (.bool false)), (4, .p (.int .i64 v7.n))]) (O := fun v7 => []) ?_ (fun v7 e_v7 env_v7 H_v7 hw_v7 => ?_)
        · refine LW.block ?_
          refine LW.iterB (E := fun x1 : F13_L1 => [(0, .p (.slice 5 (l.map blkP))), (2, .p (.bool false)), (4, .p (.int .i64 x1.n)), (5, .p (.int .i64 x1.i))]) (O := fun x1 => []) hb_v7 (Weak.of 0 ⟨rfl, rfl, rfl, rfl, trivial⟩ rfl rfl rfl rfl) (fun x1 z_x1 hr hb_x1 => ?_)
          unfold F13_s1 at hr
          refine LW.seq ?_
          refine LW.seq ?_
          refine LW.region ?_
          refine LOps.st rfl rfl rfl (LOp.move rfl rfl) ?_
          refine LOps.st rfl rfl rfl (LOp.move rfl rfl) ?_
          refine LOps.st rfl rfl rfl (LOp.lenM rfl rfl (by kernel_rfl)) ?_
          refine LOps.st rfl rfl rfl (LOp.bin rfl rfl rfl rfl) ?_
          refine LOps.nil ?_
          refine thn_n ?_
          refine LW.cond rfl (fun (g5 : (decide (x1.i < (l.length : Int))) = true) => ?_) (fun (g5 : (decide (x1.i < (l.length : Int))) = false) => ?_)
          · -- g5 is True
            have hr := ite_t g5 hr
            refine LW.skip ?_
            refine thn_n ?_
            refine LW.seq ?_
            refine LW.block ?_
            refine LW.seq ?_
            refine LW.region ?_
            refine LOps.st rfl rfl rfl (LOp.move rfl rfl) ?_
            refine LOps.st rfl rfl rfl (LOp.move rfl rfl) ?_
            obtain ⟨y1, h_y1, hr⟩ := bind_get hr
            refine LOps.st rfl rfl rfl (LOp.indexAddrX rfl rfl rfl st27 h_y1 rfl) ?_
            refine LOps.st rfl rfl rfl (LOp.loadC rfl rfl rfl vt42 rfl rfl) ?_
            refine LOps.st rfl rfl rfl (LOp.call rfl rfl rfl (by kernel_rfl) (LC.pure (c50 (b := y1)) (.cons Conv.p .nil))) ?_
            refine LOps.st rfl rfl rfl (LOp.alloc rfl zt24 rfl rfl) ?_
            refine LOps.st rfl rfl rfl (LOp.store rfl rfl rfl rfl vt24 rfl rfl rfl rfl) ?_
            refine LOps.nil ?_
            refine thn_n ?_
            refine LW.seq ?_
            refine LW.region ?_
            refine LOps.st rfl rfl rfl (LOp.move rfl rfl) ?_
            refine LOps.st rfl rfl rfl (LOp.move rfl rfl) ?_
            refine LOps.st rfl rfl rfl (LOp.load rfl rfl rfl vt24 rfl rfl) ?_
            obtain ⟨v8, h_v8, hr⟩ := bind_get hr
            refine LOps.st rfl rfl rfl (LOp.call rfl rfl rfl (by kernel_rfl) (LC.pure (c46 h_v8) (.cons Conv.p (.cons Conv.p .nil)))) ?_
            refine LOps.st rfl rfl rfl (LOp.lenM rfl rfl (by kernel_rfl)) ?_
            refine LOps.st rfl rfl rfl (LOp.bin rfl rfl rfl rfl) ?_
            refine LOps.st rfl rfl rfl (LOp.assign rfl rfl) ?_
            refine LOps.nil ?_
            refine thn_n ?_
            refine LW.seq ?_
            refine LW.region ?_
            refine LOps.st rfl rfl rfl (LOp.move rfl rfl) ?_
            refine LOps.st rfl rfl rfl (LOp.load rfl rfl rfl vt24 rfl rfl) ?_
            obtain ⟨v9, h_v9, hr⟩ := bind_get hr
            refine LOps.st rfl rfl rfl (LOp.call rfl rfl rfl (by kernel_rfl) (LC.pure (c43 h_v9) (.cons Conv.p (.cons Conv.p .nil)))) ?_
            refine LOps.st rfl rfl rfl (LOp.move rfl rfl) ?_
            refine LOps.st rfl rfl rfl (LOp.extract rfl rfl rfl) ?_
            refine LOps.st rfl rfl rfl (LOp.extract rfl rfl rfl) ?_
            refine LOps.st rfl rfl rfl (LOp.assign rfl rfl) ?_
            refine LOps.st rfl rfl rfl (LOp.assign rfl rfl) ?_
            refine LOps.nil ?_
            refine thn_n ?_
            refine LW.seq ?_
            refine LW.draw (by kernel_rfl) (by kernel_rfl) ?_
            refine LO.st rfl rfl rfl (LOp.move rfl rfl) ?_
            refine LO.st rfl rfl rfl (LOp.load rfl rfl rfl vt24 rfl rfl) ?_
            obtain ⟨v10, h_v10, hr⟩ := bind_get hr
            refine LO.st rfl rfl rfl (LOp.call rfl rfl rfl (by kernel_rfl) (LC.pure (c53 h_v10) (.cons Conv.p (.cons Conv.p .nil)))) ?_
            refine LO.st rfl rfl rfl (LOp.move rfl rfl) ?_
            refine LO.st rfl rfl rfl (LOp.bin rfl rfl rfl rfl) ?_
            refine LO.st rfl rfl rfl (LOp.move rfl rfl) ?_
            refine LO.cases 61 rfl (fun (g6 : (v10 != x1.i) = true) => ?_) (fun (g6 : (v10 != x1.i) = false) => ?_)
            · -- g6 is True
              have hr := ite_t g6 hr
              refine LO.sk rfl rfl rfl (gd g6 rfl) rfl rfl ?_
              refine LO.sk rfl rfl rfl (gd g6 rfl) rfl rfl ?_
              refine LO.st rfl rfl rfl (LOp.pickT rfl (gdl g6 rfl) rfl) ?_
              refine LO.st rfl rfl rfl (LOp.move rfl rfl) ?_
              refine LO.sk rfl rfl rfl rfl rfl rfl ?_
              refine LO.sk rfl rfl rfl rfl rfl rfl ?_
              refine LO.sk rfl rfl rfl rfl rfl rfl ?_
              refine LO.sk rfl rfl rfl rfl rfl rfl ?_
              refine LO.sk rfl rfl rfl rfl rfl rfl ?_
              refine LO.sk rfl rfl rfl rfl rfl rfl ?_
              refine LO.sk rfl rfl rfl rfl rfl rfl ?_
              refine LO.st rfl rfl rfl (LOp.pickT rfl rfl rfl) ?_
              refine LO.st rfl rfl rfl (LOp.move rfl rfl) ?_
              refine LO.sk rfl rfl rfl rfl rfl rfl ?_
              refine LO.sk rfl rfl rfl rfl rfl rfl ?_
              refine LO.sk rfl rfl rfl rfl rfl rfl ?_
              refine LO.sk rfl rfl rfl rfl rfl rfl ?_
              refine LO.sk rfl rfl rfl rfl rfl rfl ?_
              refine LO.sk rfl rfl rfl rfl rfl rfl ?_
              refine LO.sk rfl rfl rfl rfl rfl rfl ?_
              refine LO.sk rfl rfl rfl rfl rfl rfl ?_
              refine LO.sk rfl rfl rfl rfl rfl rfl ?_
              refine LO.st rfl rfl rfl (LOp.pickT rfl rfl rfl) ?_
              refine LO.nil ?_
              refine thn_n ?_
              refine LW.condT rfl ?_
              refine LW.seq ?_
              refine LW.region ?_
              refine LOps.st rfl rfl rfl (LOp.assign rfl rfl) ?_
              refine LOps.nil ?_
              refine thn_n ?_
              refine LW.ret ?_
              refine inBlk_r ?_
              refine thn_r ?_
              refine thn_r ?_
              refine inBlk_r ?_
              refine thn_r ?_
              refine thn_r ?_
              obtain rfl := Option.some.inj hr
              have hr := congrArg some (hb_x1 _ rfl)
              obtain rfl := Option.some.inj hr
              have hr := sum_r ho_v7
              obtain rfl := Option.some.inj hr
              refine finP_ret (.one (.tmp rfl)) ?_
              exact Conv.p
            · -- g6 is False
              have hr := ite_f g6 hr
              refine LO.gd rfl rfl rfl (gd g6 rfl) rfl (LOp.move rfl rfl) ?_
              refine LO.gd rfl rfl rfl (gd g6 rfl) rfl (LOp.not rfl rfl) ?_
              refine LO.st rfl rfl rfl (LOp.pickF rfl (gdl g6 rfl) rfl) ?_
              refine LO.st rfl rfl rfl (LOp.move rfl rfl) ?_
              refine LO.cases 65 rfl (fun (g7 : (!v9.2) = true) => ?_) (fun (g7 : (!v9.2) = false) => ?_)
              · -- g7 is True
                have hr := ite_t g7 hr
                refine LO.sk rfl rfl rfl (gd g7 rfl) rfl rfl ?_
                refine LO.sk rfl rfl rfl (gd g7 rfl) rfl rfl ?_
                refine LO.sk rfl rfl rfl (gd g7 rfl) rfl rfl ?_
                refine LO.sk rfl rfl rfl (gd g7 rfl) rfl rfl ?_
                refine LO.sk rfl rfl rfl (gd g7 rfl) rfl rfl ?_
                refine LO.sk rfl rfl rfl (gd g7 rfl) rfl rfl ?_
                refine LO.sk rfl rfl rfl (gd g7 rfl) rfl rfl ?_
                refine LO.st rfl rfl rfl (LOp.pickT rfl (gdl g7 rfl) rfl) ?_
                refine LO.st rfl rfl rfl (LOp.move rfl rfl) ?_
                refine LO.sk rfl rfl rfl rfl rfl rfl ?_
                refine LO.sk rfl rfl rfl rfl rfl rfl ?_
                refine LO.sk rfl rfl rfl rfl rfl rfl ?_
                refine LO.sk rfl rfl rfl rfl rfl rfl ?_
                refine LO.sk rfl rfl rfl rfl rfl rfl ?_
                refine LO.sk rfl rfl rfl rfl rfl rfl ?_
                refine LO.sk rfl rfl rfl rfl rfl rfl ?_
                refine LO.sk rfl rfl rfl rfl rfl rfl ?_
                refine LO.sk rfl rfl rfl rfl rfl rfl ?_
                refine LO.st rfl rfl rfl (LOp.pickT rfl rfl rfl) ?_
                refine LO.nil ?_
                refine thn_n ?_
                refine LW.condT rfl ?_
                refine LW.seq ?_
                refine LW.region ?_
                refine LOps.st rfl rfl rfl (LOp.assign rfl rfl) ?_
                refine LOps.nil ?_
                refine thn_n ?_
                refine LW.ret ?_
                refine inBlk_r ?_
                refine thn_r ?_
                refine thn_r ?_
                refine inBlk_r ?_
                refine thn_r ?_
                refine thn_r ?_
                obtain rfl := Option.some.inj hr
                have hr := congrArg some (hb_x1 _ rfl)
                obtain rfl := Option.some.inj hr
                have hr := sum_r ho_v7
                obtain rfl := Option.some.inj hr
                refine finP_ret (.one (.tmp rfl)) ?_
                exact Conv.p
              · -- g7 is False
                have hr := ite_f g7 hr
                refine LO.gd rfl rfl rfl (gd g7 rfl) rfl (LOp.move rfl rfl) ?_
                refine LO.gd rfl rfl rfl (gd g7 rfl) rfl (LOp.move rfl rfl) ?_
                refine LO.gd rfl rfl rfl (gd g7 rfl) rfl (LOp.move rfl rfl) ?_
                obtain ⟨y2, h_y2, hr⟩ := bind_get hr
                refine LO.gd rfl rfl rfl (gd g7 rfl) rfl (LOp.indexAddrX rfl rfl rfl st27 h_y2 rfl) ?_
                refine LO.gd rfl rfl rfl (gd g7 rfl) rfl (LOp.fieldAddrC rfl rfl ft42_0 rfl) ?_
                refine LO.gd rfl rfl rfl (gd g7 rfl) rfl (LOp.loadC rfl rfl rfl vt3 rfl rfl) ?_
                refine LO.gd rfl rfl rfl (gd g7 rfl) rfl (LOp.bin rfl rfl rfl rfl) ?_
                refine LO.st rfl rfl rfl (LOp.pickF rfl (gdl g7 rfl) rfl) ?_
                refine LO.st rfl rfl rfl (LOp.move rfl rfl) ?_
                refine LO.cases 74 rfl (fun (g8 : (v9.1 != y2.Slot) = true) => ?_) (fun (g8 : (v9.1 != y2.Slot) = false) => ?_)
                · -- g8 is True
                  have hr := ite_t g8 hr
                  refine LO.sk rfl rfl rfl (gd g8 rfl) rfl rfl ?_
                  refine LO.sk rfl rfl rfl (gd g8 rfl) rfl rfl ?_
                  refine LO.sk rfl rfl rfl (gd g8 rfl) rfl rfl ?_
                  refine LO.sk rfl rfl rfl (gd g8 rfl) rfl rfl ?_
                  refine LO.sk rfl rfl rfl (gd g8 rfl) rfl rfl ?_
                  refine LO.sk rfl rfl rfl (gd g8 rfl) rfl rfl ?_
                  refine LO.sk rfl rfl rfl (gd g8 rfl) rfl rfl ?_
                  refine LO.sk rfl rfl rfl (gd g8 rfl) rfl rfl ?_
                  refine LO.sk rfl rfl rfl (gd g8 rfl) rfl rfl ?_
                  refine LO.st rfl rfl rfl (LOp.pickT rfl (gdl g8 rfl) rfl) ?_
                  refine LO.nil ?_
                  refine thn_n ?_
                  refine LW.condT rfl ?_
                  refine LW.seq ?_
                  refine LW.region ?_
                  refine LOps.st rfl rfl rfl (LOp.assign rfl rfl) ?_
                  refine LOps.nil ?_
                  refine thn_n ?_
                  refine LW.ret ?_
                  refine inBlk_r ?_
                  refine thn_r ?_
                  refine thn_r ?_
                  refine inBlk_r ?_
                  refine thn_r ?_
                  refine thn_r ?_
                  obtain rfl := Option.some.inj hr
                  have hr := congrArg some (hb_x1 _ rfl)
                  obtain rfl := Option.some.inj hr
                  have hr := sum_r ho_v7
                  obtain rfl := Option.some.inj hr
                  refine finP_ret (.one (.tmp rfl)) ?_
                  exact Conv.p
                · -- g8 is False
                  have hr := ite_f g8 hr
                  refine LO.gd rfl rfl rfl (gd g8 rfl) rfl (LOp.move rfl rfl) ?_
                  refine LO.gd rfl rfl rfl (gd g8 rfl) rfl (LOp.move rfl rfl) ?_
                  refine LO.gd rfl rfl rfl (gd g8 rfl) rfl (LOp.move rfl rfl) ?_
                  obtain ⟨y3, h_y3, hr⟩ := bind_get hr
                  refine LO.gd rfl rfl rfl (gd g8 rfl) rfl (LOp.indexAddrX rfl rfl rfl st27 h_y3 rfl) ?_
                  refine LO.gd rfl rfl rfl (gd g8 rfl) rfl (LOp.fieldAddrC rfl rfl ft42_2 rfl) ?_
                  refine LO.gd rfl rfl rfl (gd g8 rfl) rfl (LOp.loadC rfl rfl rfl vt24 rfl rfl) ?_
                  refine LO.gd rfl rfl rfl (gd g8 rfl) rfl (LOp.load rfl rfl rfl vt24 rfl rfl) ?_
                  obtain ⟨q1, hr⟩ := grd_get hr
                  refine LO.gd rfl rfl rfl (gd g8 rfl) rfl (LOp.call rfl rfl rfl (by kernel_rfl) (LC.pure (c40 (l := l) (a := y3.Parent) (b := (nm y1)) (few_le q1)) (.cons Conv.p (.cons Conv.p (.cons Conv.p .nil))))) ?_
                  refine LO.gd rfl rfl rfl (gd g8 rfl) rfl (LOp.not rfl rfl) ?_
                  refine LO.st rfl rfl rfl (LOp.pickF rfl (gdl g8 rfl) rfl) ?_
                  refine LO.nil ?_
                  refine thn_n ?_
                  refine LW.cond rfl (fun (g9 : (!(decide (indexOf (chainOf l (nm y1)) y3.Parent ≥ 0))) = true) => ?_) (fun (g9 : (!(decide (indexOf (chainOf l (nm y1)) y3.Parent ≥ 0))) = false) => ?_)
                  · -- g9 is True
                    have hr := ite_t g9 hr
                    refine LW.seq ?_
                    refine LW.region ?_
                    refine LOps.st rfl rfl rfl (LOp.assign rfl rfl) ?_
                    refine LOps.nil ?_
                    refine thn_n ?_
                    refine LW.ret ?_
                    refine inBlk_r ?_
                    refine thn_r ?_
                    refine thn_r ?_
                    refine inBlk_r ?_
                    refine thn_r ?_
                    refine thn_r ?_
                    obtain rfl := Option.some.inj hr
                    have hr := congrArg some (hb_x1 _ rfl)
                    obtain rfl := Option.some.inj hr
                    have hr := sum_r ho_v7
                    obtain rfl := Option.some.inj hr
                    refine finP_ret (.one (.tmp rfl)) ?_
                    exact Conv.p
                  · -- g9 is False
                    have hr := ite_f g9 hr
                    refine LW.skip ?_
                    refine inBlk_n ?_
                    refine thn_n ?_
                    refine LW.region ?_
                    refine LOps.st rfl rfl rfl (LOp.move rfl rfl) ?_
                    refine LOps.st rfl rfl rfl (LOp.bin rfl rfl rfl rfl) ?_
                    refine LOps.st rfl rfl rfl (LOp.assign rfl rfl) ?_
                    refine LOps.nil ?_
                    refine thn_n ?_
                    obtain rfl := Option.some.inj hr
                    exact ⟨_, rfl, Weak.of 0 ⟨rfl, rfl, rfl, rfl, trivial⟩ rfl rfl rfl rfl⟩
          · -- g5 is False
            have hr := ite_f g5 hr
            refine LW.exit ?_
            refine thn_e ?_
            refine thn_e ?_
            refine inBlk_self ?_
            refine thn_n ?_
            obtain rfl := Option.some.inj hr
            have hr := congrArg some (hb_x1 _ rfl)
            obtain rfl := Option.some.inj hr
            exact ⟨_, rfl, Weak.of 0 ⟨rfl, rfl, rfl, trivial⟩ rfl rfl rfl rfl⟩
        · obtain rfl := e_v7
          have hr := sum_l ho_v7
          clear hb_v7
          refine thn_n ?_
          refine LW.weak hw_v7 ?_
          refine LW.seq ?_
          refine LW.region ?_
          refine LOps.st rfl rfl rfl (LOp.move rfl rfl) ?_
          refine LOps.st rfl rfl rfl (LOp.move rfl rfl) ?_
          refine LOps.st rfl rfl rfl (LOp.lenM rfl rfl (by kernel_rfl)) ?_
          refine LOps.st rfl rfl rfl (LOp.bin rfl rfl rfl rfl) ?_
          refine LOps.st rfl rfl rfl (LOp.assign rfl rfl) ?_
          refine LOps.nil ?_
          refine thn_n ?_
          refine LW.ret ?_
          obtain rfl := Option.some.inj hr
          refine finP_ret (.one (.tmp rfl)) ?_
          exact Conv.p

/-! marigold/marigoldlaw06.TreeNames -/

def F14 (b : Bk) (salt : Int) (slot : Int) : Option Bool :=
  (F41 ).bind fun v1 =>
  bif v1 then
    bif ((((nm b).1) == ((nm (Bk.mk b.Slot b.From b.Parent salt)).1)) && ((((nm b).2) == ((nm (Bk.mk b.Slot b.From b.Parent salt)).2)) && true)) == (b.Salt == salt) then
      bif b.Slot != slot then
        some true
      else
        some ((((nm (Bk.mk slot b.From b.Parent b.Salt)).1) == ((nm b).1)) && ((((nm (Bk.mk slot b.From b.Parent b.Salt)).2) == ((nm b).2)) && true))
    else
      some false
  else
    some false

set_option maxRecDepth 100000 in
theorem c14 {b : Bk} {salt : Int} {slot : Int} {r_ : Bool} (hr : F14 b salt slot = some r_) : LPure Try.prog 14 [blkP b, .int .u64 salt, .int .i64 slot] [.bool r_] := by
  refine LPure.start Try.func14 rfl rfl rfl rfl ?_
  unfold F14 at hr
  refine LW.seq ?_
  refine LW.region ?_
  refine LOps.st rfl rfl rfl (LOp.box rfl rfl rfl rfl rfl) ?_
  refine LOps.st rfl rfl rfl (LOp.assign rfl rfl) ?_
  refine LOps.nil ?_
  refine thn_n ?_
  refine LW.seq ?_
  refine LW.region ?_
  obtain ⟨v1, h_v1, hr⟩ := bind_get hr
  refine LOps.st rfl rfl rfl (LOp.call rfl rfl rfl (by kernel_rfl) (LC.pure (c41 h_v1) .nil)) ?_
  refine LOps.st rfl rfl rfl (LOp.assign rfl rfl) ?_
  refine LOps.nil ?_
  refine thn_n ?_
  refine LW.seq ?_
  refine LW.region ?_
  refine LOps.st rfl rfl rfl (LOp.load rfl rfl rfl vt42 rfl rfl) ?_
  refine LOps.st rfl rfl rfl (LOp.alloc rfl zt42 rfl rfl) ?_
  refine LOps.st rfl rfl rfl (LOp.store rfl rfl rfl rfl vt42 rfl rfl rfl rfl) ?_
  refine LOps.nil ?_
  refine thn_n ?_
  refine LW.seq ?_
  refine LW.region ?_
  refine LOps.st rfl rfl rfl (LOp.move rfl rfl) ?_
  refine LOps.st rfl rfl rfl (LOp.fieldAddr rfl rfl ft42_3) ?_
  refine LOps.st rfl rfl rfl (LOp.store rfl rfl rfl rfl vt22 rfl rfl rfl rfl) ?_
  refine LOps.nil ?_
  refine thn_n ?_
  refine LW.seq ?_
  refine LW.region ?_
  refine LOps.st rfl rfl rfl (LOp.load rfl rfl rfl vt42 rfl rfl) ?_
  refine LOps.st rfl rfl rfl (LOp.alloc rfl zt42 rfl rfl) ?_
  refine LOps.st rfl rfl rfl (LOp.store rfl rfl rfl rfl vt42 rfl rfl rfl rfl) ?_
  refine LOps.nil ?_
  refine thn_n ?_
  refine LW.seq ?_
  refine LW.region ?_
  refine LOps.st rfl rfl rfl (LOp.move rfl rfl) ?_
  refine LOps.st rfl rfl rfl (LOp.fieldAddr rfl rfl ft42_0) ?_
  refine LOps.st rfl rfl rfl (LOp.store rfl rfl rfl rfl vt3 rfl rfl rfl rfl) ?_
  refine LOps.nil ?_
  refine thn_n ?_
  refine LW.seq ?_
  refine LW.region ?_
  refine LOps.st rfl rfl rfl (LOp.load rfl rfl rfl vt42 rfl rfl) ?_
  refine LOps.st rfl rfl rfl (LOp.call rfl rfl rfl (by kernel_rfl) (LC.pure (c50 (b := b)) (.cons Conv.p .nil))) ?_
  refine LOps.st rfl rfl rfl (LOp.alloc rfl zt24 rfl rfl) ?_
  refine LOps.st rfl rfl rfl (LOp.store rfl rfl rfl rfl vt24 rfl rfl rfl rfl) ?_
  refine LOps.nil ?_
  refine thn_n ?_
  refine LW.seq ?_
  refine LW.region ?_
  refine LOps.st rfl rfl rfl (LOp.load rfl rfl rfl vt42 rfl rfl) ?_
  refine LOps.st rfl rfl rfl (LOp.call rfl rfl rfl (by kernel_rfl) (LC.pure (c50 (b := (Bk.mk b.Slot b.From b.Parent salt))) (.cons Conv.p .nil))) ?_
  refine LOps.st rfl rfl rfl (LOp.alloc rfl zt24 rfl rfl) ?_
  refine LOps.st rfl rfl rfl (LOp.store rfl rfl rfl rfl vt24 rfl rfl rfl rfl) ?_
  refine LOps.nil ?_
  refine thn_n ?_
  refine LW.seq ?_
  refine LW.draw (by kernel_rfl) (by kernel_rfl) ?_
  refine LO.st rfl rfl rfl (LOp.move rfl rfl) ?_
  refine LO.st rfl rfl rfl (LOp.move rfl rfl) ?_
  refine LO.cases 24 rfl (fun (g1 : v1 = true) => ?_) (fun (g1 : v1 = false) => ?_)
  · -- g1 is True
    have hr := ite_t g1 hr
    refine LO.gd rfl rfl rfl (gd g1 rfl) rfl (LOp.load rfl rfl rfl vt24 rfl rfl) ?_
    refine LO.gd rfl rfl rfl (gd g1 rfl) rfl (LOp.load rfl rfl rfl vt24 rfl rfl) ?_
    refine LO.gd rfl rfl rfl (gd g1 rfl) rfl (LOp.eqlAgg rfl rfl rfl rfl rfl eqt24) ?_
    refine LO.gd rfl rfl rfl (gd g1 rfl) rfl (LOp.fieldAddr rfl rfl ft42_3) ?_
    refine LO.gd rfl rfl rfl (gd g1 rfl) rfl (LOp.load rfl rfl rfl vt22 rfl rfl) ?_
    refine LO.gd rfl rfl rfl (gd g1 rfl) rfl (LOp.move rfl rfl) ?_
    refine LO.gd rfl rfl rfl (gd g1 rfl) rfl (LOp.bin rfl rfl rfl rfl) ?_
    refine LO.gd rfl rfl rfl (gd g1 rfl) rfl (LOp.eqlBool rfl rfl rfl Try.underlying4) ?_
    refine LO.st rfl rfl rfl (LOp.pickT rfl (gdl g1 rfl) rfl) ?_
    refine LO.st rfl rfl rfl (LOp.move rfl rfl) ?_
    refine LO.cases 34 rfl (fun (g2 : (((((nm b).1) == ((nm (Bk.mk b.Slot b.From b.Parent salt)).1)) && ((((nm b).2) == ((nm (Bk.mk b.Slot b.From b.Parent salt)).2)) && true)) == (b.Salt == salt)) = true) => ?_) (fun (g2 : (((((nm b).1) == ((nm (Bk.mk b.Slot b.From b.Parent salt)).1)) && ((((nm b).2) == ((nm (Bk.mk b.Slot b.From b.Parent salt)).2)) && true)) == (b.Salt == salt)) = false) => ?_)
    · -- g2 is True
      have hr := ite_t g2 hr
      refine LO.gd rfl rfl rfl (gd g2 rfl) rfl (LOp.fieldAddr rfl rfl ft42_0) ?_
      refine LO.gd rfl rfl rfl (gd g2 rfl) rfl (LOp.load rfl rfl rfl vt3 rfl rfl) ?_
      refine LO.gd rfl rfl rfl (gd g2 rfl) rfl (LOp.move rfl rfl) ?_
      refine LO.gd rfl rfl rfl (gd g2 rfl) rfl (LOp.bin rfl rfl rfl rfl) ?_
      refine LO.gd rfl rfl rfl (gd g2 rfl) rfl (LOp.move rfl rfl) ?_
      refine LO.cases 39 rfl (fun (g3 : (b.Slot != slot) = true) => ?_) (fun (g3 : (b.Slot != slot) = false) => ?_)
      · -- g3 is True
        have hr := ite_t g3 hr
        refine LO.sk rfl rfl rfl (gd g3 rfl) rfl rfl ?_
        refine LO.sk rfl rfl rfl (gd g3 rfl) rfl rfl ?_
        refine LO.sk rfl rfl rfl (gd g3 rfl) rfl rfl ?_
        refine LO.sk rfl rfl rfl (gd g3 rfl) rfl rfl ?_
        refine LO.gd rfl rfl rfl (gd g2 rfl) rfl (LOp.pickT rfl (gdl g3 rfl) rfl) ?_
        refine LO.st rfl rfl rfl (LOp.pickT rfl (gdl g2 rfl) rfl) ?_
        refine LO.st rfl rfl rfl (LOp.assign rfl rfl) ?_
        refine LO.nil ?_
        refine thn_n ?_
        refine LW.ret ?_
        obtain rfl := Option.some.inj hr
        refine finP_ret (.one (.tmp rfl)) ?_
        exact Conv.p
      · -- g3 is False
        have hr := ite_f g3 hr
        refine LO.gd rfl rfl rfl (gd g3 rfl) rfl (LOp.load rfl rfl rfl vt42 rfl rfl) ?_
        refine LO.gd rfl rfl rfl (gd g3 rfl) rfl (LOp.call rfl rfl rfl (by kernel_rfl) (LC.pure (c50 (b := (Bk.mk slot b.From b.Parent b.Salt))) (.cons Conv.p .nil))) ?_
        refine LO.gd rfl rfl rfl (gd g3 rfl) rfl (LOp.load rfl rfl rfl vt24 rfl rfl) ?_
        refine LO.gd rfl rfl rfl (gd g3 rfl) rfl (LOp.eqlAgg rfl rfl rfl rfl rfl eqt24) ?_
        refine LO.gd rfl rfl rfl (gd g2 rfl) rfl (LOp.pickF rfl (gdl g3 rfl) rfl) ?_
        refine LO.st rfl rfl rfl (LOp.pickT rfl (gdl g2 rfl) rfl) ?_
        refine LO.st rfl rfl rfl (LOp.assign rfl rfl) ?_
        refine LO.nil ?_
        refine thn_n ?_
        refine LW.ret ?_
        obtain rfl := Option.some.inj hr
        refine finP_ret (.one (.tmp rfl)) ?_
        exact Conv.p
    · -- g2 is False
      have hr := ite_f g2 hr
      refine LO.sk rfl rfl rfl (gd g2 rfl) rfl rfl ?_
      refine LO.sk rfl rfl rfl (gd g2 rfl) rfl rfl ?_
      refine LO.sk rfl rfl rfl (gd g2 rfl) rfl rfl ?_
      refine LO.sk rfl rfl rfl (gd g2 rfl) rfl rfl ?_
      refine LO.sk rfl rfl rfl (gd g2 rfl) rfl rfl ?_
      refine LO.sku rfl rfl rfl rfl rfl ?_
      refine LO.sku rfl rfl rfl rfl rfl ?_
      refine LO.sku rfl rfl rfl rfl rfl ?_
      refine LO.sku rfl rfl rfl rfl rfl ?_
      refine LO.sk rfl rfl rfl (gd g2 rfl) rfl rfl ?_
      refine LO.st rfl rfl rfl (LOp.pickF rfl (gdl g2 rfl) rfl) ?_
      refine LO.st rfl rfl rfl (LOp.assign rfl rfl) ?_
      refine LO.nil ?_
      refine thn_n ?_
      refine LW.ret ?_
      obtain rfl := Option.some.inj hr
      refine finP_ret (.one (.tmp rfl)) ?_
      exact Conv.p
  · -- g1 is False
    have hr := ite_f g1 hr
    refine LO.sk rfl rfl rfl (gd g1 rfl) rfl rfl ?_
    refine LO.sk rfl rfl rfl (gd g1 rfl) rfl rfl ?_
    refine LO.sk rfl rfl rfl (gd g1 rfl) rfl rfl ?_
    refine LO.sk rfl rfl rfl (gd g1 rfl) rfl rfl ?_
    refine LO.sk rfl rfl rfl (gd g1 rfl) rfl rfl ?_
    refine LO.sk rfl rfl rfl (gd g1 rfl) rfl rfl ?_
    refine LO.sk rfl rfl rfl (gd g1 rfl) rfl rfl ?_
    refine LO.sk rfl rfl rfl (gd g1 rfl) rfl rfl ?_
    refine LO.st rfl rfl rfl (LOp.pickF rfl (gdl g1 rfl) rfl) ?_
    refine LO.st rfl rfl rfl (LOp.move rfl rfl) ?_
    refine LO.sk rfl rfl rfl rfl rfl rfl ?_
    refine LO.sk rfl rfl rfl rfl rfl rfl ?_
    refine LO.sk rfl rfl rfl rfl rfl rfl ?_
    refine LO.sk rfl rfl rfl rfl rfl rfl ?_
    refine LO.sk rfl rfl rfl rfl rfl rfl ?_
    refine LO.sku rfl rfl rfl rfl rfl ?_
    refine LO.sku rfl rfl rfl rfl rfl ?_
    refine LO.sku rfl rfl rfl rfl rfl ?_
    refine LO.sku rfl rfl rfl rfl rfl ?_
    refine LO.sk rfl rfl rfl rfl rfl rfl ?_
    refine LO.st rfl rfl rfl (LOp.pickF rfl rfl rfl) ?_
    refine LO.st rfl rfl rfl (LOp.assign rfl rfl) ?_
    refine LO.nil ?_
    refine thn_n ?_
    refine LW.ret ?_
    obtain rfl := Option.some.inj hr
    refine finP_ret (.one (.tmp rfl)) ?_
    exact Conv.p

/-! marigold/marigoldlaw06.TreeNone -/

def F15 (l : List Bk) (id : ID) (low : ID) : Option Bool :=
  (F41 ).bind fun v1 =>
  (
    bif !v1 then
      some (.inr v1)
    else
      bif decide ((l.length : Int) > 40) then
        some (.inr v1)
      else
        (F52 l).bind fun v3 =>
        bif v3 then
          (F53 l id).bind fun v4 =>
          bif decide (v4 ≥ 0) then
            some (.inr v1)
          else
            bif ((id.1 == 0) && ((id.2 == 0) && true)) then
              some (.inr v1)
            else
              some (.inl ())
        else
          some (.inl ())
  ).bind fun b_v2 => Sum.elim (fun _ =>
    (F43 l id).bind fun v5 =>
    (F53 l id).bind fun v6 =>
    bif v6 == (-1) then
      bif v5.1 == 0 then
        bif !v5.2 then
          bif few l then
            bif ((chainOf l id).length : Int) == 0 then
              bif few l then
                some (!(decide (indexOf (chainOf l id) low ≥ 0)))
              else none
            else
              some false
          else none
        else
          some false
      else
        some false
    else
      some false) some b_v2

set_option maxRecDepth 100000 in
theorem c15 {l : List Bk} {id : ID} {low : ID} {r_ : Bool} (hr : F15 l id low = some r_) : LPure Try.prog 15 [.slice 5 (l.map blkP), idP id, idP low] [.bool r_] := by
  refine LPure.start Try.func15 rfl rfl rfl rfl ?_
  unfold F15 at hr
  refine LW.seq ?_
  refine LW.region ?_
  refine LOps.st rfl rfl rfl (LOp.box rfl rfl rfl rfl rfl) ?_
  refine LOps.st rfl rfl rfl (LOp.box rfl rfl rfl rfl rfl) ?_
  refine LOps.st rfl rfl rfl (LOp.assign rfl rfl) ?_
  refine LOps.nil ?_
  refine thn_n ?_
  refine LW.seq ?_
  refine LW.region ?_
  obtain ⟨v1, h_v1, hr⟩ := bind_get hr
  refine LOps.st rfl rfl rfl (LOp.call rfl rfl rfl (by kernel_rfl) (LC.pure (c41 h_v1) .nil)) ?_
  refine LOps.st rfl rfl rfl (LOp.assign rfl rfl) ?_
  refine LOps.nil ?_
  refine thn_n ?_
  obtain ⟨b_v2, hb_v2, ho_v2⟩ := bind_get hr
  clear hr
  refine LW.cutB (b := b_v2) (E := fun v2 => [(0, .p (.slice 5 (l.map blkP))), (4, .ptr 0 0), (5, .ptr 1 0), (6, .p (.bool false))]) (O := fun v2 => [.box [.p (.int .u64 id.1), .p (.int .u64 id.2)], .box [.p (.int .u64 low.1), .p (.int .u64 low.2)]]) ?_ (fun v2 e_v2 => ?_)
  · have hr := hb_v2
    refine LW.seq ?_
    refine LW.region ?_
    refine LOps.st rfl rfl rfl (LOp.move rfl rfl) ?_
    refine LOps.st rfl rfl rfl (LOp.not rfl rfl) ?_
    refine LOps.st rfl rfl rfl (LOp.move rfl rfl) ?_
    refine LOps.cases 13 rfl (fun (g1 : (!v1) = true) => ?_) (fun (g1 : (!v1) = false) => ?_)
    · -- g1 is True
      have hr := ite_t g1 hr
      refine LOps.sk rfl rfl rfl (gd g1 rfl) rfl rfl ?_
      refine LOps.sk rfl rfl rfl (gd g1 rfl) rfl rfl ?_
      refine LOps.sk rfl rfl rfl (gd g1 rfl) rfl rfl ?_
      refine LOps.st rfl rfl rfl (LOp.pickT rfl (gdl g1 rfl) rfl) ?_
      refine LOps.st rfl rfl rfl (LOp.move rfl rfl) ?_
      refine LOps.sk rfl rfl rfl rfl rfl rfl ?_
      refine LOps.sk rfl rfl rfl rfl rfl rfl ?_
      refine LOps.sk rfl rfl rfl rfl rfl rfl ?_
      refine LOps.sku rfl rfl rfl rfl rfl ?_
      refine LOps.sku rfl rfl rfl rfl rfl ?_
      refine LOps.sku rfl rfl rfl rfl rfl ?_
      refine LOps.sku rfl rfl rfl rfl rfl ?_
      refine LOps.sku rfl rfl rfl rfl rfl ?_
      refine LOps.sku rfl rfl rfl rfl rfl ?_
      refine LOps.sku rfl rfl rfl rfl rfl ?_
      refine LOps.sku rfl rfl rfl rfl rfl ?_
      refine LOps.sku rfl rfl rfl rfl rfl ?_
      refine LOps.sk rfl rfl rfl rfl rfl rfl ?_
      refine LOps.st rfl rfl rfl (LOp.pickT rfl rfl rfl) ?_
      refine LOps.nil ?_
      refine thn_n ?_
      refine LW.condT rfl ?_
      refine LW.seq ?_
      refine LW.region ?_
      refine LOps.st rfl rfl rfl (LOp.move rfl rfl) ?_
      refine LOps.st rfl rfl rfl (LOp.assign rfl rfl) ?_
      refine LOps.nil ?_
      refine thn_n ?_
      refine LW.ret ?_
      refine thn_r ?_
      obtain rfl := Option.some.inj hr
      have hr := sum_r ho_v2
      obtain rfl := Option.some.inj hr
      refine finP_ret (.one (.tmp rfl)) ?_
      exact Conv.p
    · -- g1 is False
      have hr := ite_f g1 hr
      refine LOps.gd rfl rfl rfl (gd g1 rfl) rfl (LOp.move rfl rfl) ?_
      refine LOps.gd rfl rfl rfl (gd g1 rfl) rfl (LOp.lenM rfl rfl (by kernel_rfl)) ?_
      refine LOps.gd rfl rfl rfl (gd g1 rfl) rfl (LOp.bin rfl rfl rfl rfl) ?_
      refine LOps.st rfl rfl rfl (LOp.pickF rfl (gdl g1 rfl) rfl) ?_
      refine LOps.st rfl rfl rfl (LOp.move rfl rfl) ?_
      refine LOps.cases 18 rfl (fun (g2 : (decide ((l.length : Int) > 40)) = true) => ?_) (fun (g2 : (decide ((l.length : Int) > 40)) = false) => ?_)
      · -- g2 is True
        have hr := ite_t g2 hr
        refine LOps.sk rfl rfl rfl (gd g2 rfl) rfl rfl ?_
        refine LOps.sk rfl rfl rfl (gd g2 rfl) rfl rfl ?_
        refine LOps.sk rfl rfl rfl (gd g2 rfl) rfl rfl ?_
        refine LOps.sku rfl rfl rfl rfl rfl ?_
        refine LOps.sku rfl rfl rfl rfl rfl ?_
        refine LOps.sku rfl rfl rfl rfl rfl ?_
        refine LOps.sku rfl rfl rfl rfl rfl ?_
        refine LOps.sku rfl rfl rfl rfl rfl ?_
        refine LOps.sku rfl rfl rfl rfl rfl ?_
        refine LOps.sku rfl rfl rfl rfl rfl ?_
        refine LOps.sku rfl rfl rfl rfl rfl ?_
        refine LOps.sku rfl rfl rfl rfl rfl ?_
        refine LOps.sk rfl rfl rfl (gd g2 rfl) rfl rfl ?_
        refine LOps.st rfl rfl rfl (LOp.pickT rfl (gdl g2 rfl) rfl) ?_
        refine LOps.nil ?_
        refine thn_n ?_
        refine LW.condT rfl ?_
        refine LW.seq ?_
        refine LW.region ?_
        refine LOps.st rfl rfl rfl (LOp.move rfl rfl) ?_
        refine LOps.st rfl rfl rfl (LOp.assign rfl rfl) ?_
        refine LOps.nil ?_
        refine thn_n ?_
        refine LW.ret ?_
        refine thn_r ?_
        obtain rfl := Option.some.inj hr
        have hr := sum_r ho_v2
        obtain rfl := Option.some.inj hr
        refine finP_ret (.one (.tmp rfl)) ?_
        exact Conv.p
      · -- g2 is False
        have hr := ite_f g2 hr
        refine LOps.gd rfl rfl rfl (gd g2 rfl) rfl (LOp.move rfl rfl) ?_
        obtain ⟨v3, h_v3, hr⟩ := bind_get hr
        refine LOps.gd rfl rfl rfl (gd g2 rfl) rfl (LOp.call rfl rfl rfl (by kernel_rfl) (LC.pure (c52 h_v3) (.cons Conv.p .nil))) ?_
        refine LOps.gd rfl rfl rfl (gd g2 rfl) rfl (LOp.move rfl rfl) ?_
        refine LOps.cases 21 rfl (fun (g3 : v3 = true) => ?_) (fun (g3 : v3 = false) => ?_)
        · -- g3 is True
          have hr := ite_t g3 hr
          refine LOps.gd rfl rfl rfl (gd g3 rfl) rfl (LOp.move rfl rfl) ?_
          refine LOps.gd rfl rfl rfl (gd g3 rfl) rfl (LOp.load rfl rfl rfl vt24 rfl rfl) ?_
          obtain ⟨v4, h_v4, hr⟩ := bind_get hr
          refine LOps.gd rfl rfl rfl (gd g3 rfl) rfl (LOp.call rfl rfl rfl (by kernel_rfl) (LC.pure (c53 h_v4) (.cons Conv.p (.cons Conv.p .nil)))) ?_
          refine LOps.gd rfl rfl rfl (gd g3 rfl) rfl (LOp.bin rfl rfl rfl rfl) ?_
          refine LOps.gd rfl rfl rfl (gd g3 rfl) rfl (LOp.move rfl rfl) ?_
          refine LOps.cases 26 rfl (fun (g4 : (decide (v4 ≥ 0)) = true) => ?_) (fun (g4 : (decide (v4 ≥ 0)) = false) => ?_)
          · -- g4 is True
            have hr := ite_t g4 hr
            refine LOps.sk rfl rfl rfl (gd g4 rfl) rfl rfl ?_
            refine LOps.sk rfl rfl rfl (gd g4 rfl) rfl rfl ?_
            refine LOps.sk rfl rfl rfl (gd g4 rfl) rfl rfl ?_
            refine LOps.gd rfl rfl rfl (gd g3 rfl) rfl (LOp.pickT rfl (gdl g4 rfl) rfl) ?_
            refine LOps.gd rfl rfl rfl (gd g2 rfl) rfl (LOp.pickT rfl (gdl g3 rfl) rfl) ?_
            refine LOps.st rfl rfl rfl (LOp.pickF rfl (gdl g2 rfl) rfl) ?_
            refine LOps.nil ?_
            refine thn_n ?_
            refine LW.condT rfl ?_
            refine LW.seq ?_
            refine LW.region ?_
            refine LOps.st rfl rfl rfl (LOp.move rfl rfl) ?_
            refine LOps.st rfl rfl rfl (LOp.assign rfl rfl) ?_
            refine LOps.nil ?_
            refine thn_n ?_
            refine LW.ret ?_
            refine thn_r ?_
            obtain rfl := Option.some.inj hr
            have hr := sum_r ho_v2
            obtain rfl := Option.some.inj hr
            refine finP_ret (.one (.tmp rfl)) ?_
            exact Conv.p
          · -- g4 is False
            have hr := ite_f g4 hr
            refine LOps.gd rfl rfl rfl (gd g4 rfl) rfl (LOp.load rfl rfl rfl vt24 rfl rfl) ?_
            refine LOps.gd rfl rfl rfl (gd g4 rfl) rfl (LOp.build rfl bt24 rfl rfl rfl) ?_
            refine LOps.gd rfl rfl rfl (gd g4 rfl) rfl (LOp.eqlAgg rfl rfl rfl rfl rfl eqt24) ?_
            refine LOps.gd rfl rfl rfl (gd g3 rfl) rfl (LOp.pickF rfl (gdl g4 rfl) rfl) ?_
            refine LOps.gd rfl rfl rfl (gd g2 rfl) rfl (LOp.pickT rfl (gdl g3 rfl) rfl) ?_
            refine LOps.st rfl rfl rfl (LOp.pickF rfl (gdl g2 rfl) rfl) ?_
            refine LOps.nil ?_
            refine thn_n ?_
            refine LW.cond rfl (fun (g5 : ((id.1 == 0) && ((id.2 == 0) && true)) = true) => ?_) (fun (g5 : ((id.1 == 0) && ((id.2 == 0) && true)) = false) => ?_)
            · -- g5 is True
              have hr := ite_t g5 hr
              refine LW.seq ?_
              refine LW.region ?_
              refine LOps.st rfl rfl rfl (LOp.move rfl rfl) ?_
              refine LOps.st rfl rfl rfl (LOp.assign rfl rfl) ?_
              refine LOps.nil ?_
              refine thn_n ?_
              refine LW.ret ?_
              refine thn_r ?_
              obtain rfl := Option.some.inj hr
              have hr := sum_r ho_v2
              obtain rfl := Option.some.inj hr
              refine finP_ret (.one (.tmp rfl)) ?_
              exact Conv.p
            · -- g5 is False
              have hr := ite_f g5 hr
              refine LW.skip ?_
              refine thn_n ?_
              obtain rfl := Option.some.inj hr
              exact ⟨_, rfl, Weak.of 2 ⟨rfl, rfl, rfl, rfl, trivial⟩ rfl rfl rfl rfl⟩
        · -- g3 is False
          have hr := ite_f g3 hr
          refine LOps.sk rfl rfl rfl (gd g3 rfl) rfl rfl ?_
          refine LOps.sk rfl rfl rfl (gd g3 rfl) rfl rfl ?_
          refine LOps.sk rfl rfl rfl (gd g3 rfl) rfl rfl ?_
          refine LOps.sk rfl rfl rfl (gd g3 rfl) rfl rfl ?_
          refine LOps.sk rfl rfl rfl (gd g3 rfl) rfl rfl ?_
          refine LOps.sku rfl rfl rfl rfl rfl ?_
          refine LOps.sku rfl rfl rfl rfl rfl ?_
          refine LOps.sku rfl rfl rfl rfl rfl ?_
          refine LOps.sk rfl rfl rfl (gd g3 rfl) rfl rfl ?_
          refine LOps.gd rfl rfl rfl (gd g2 rfl) rfl (LOp.pickF rfl (gdl g3 rfl) rfl) ?_
          refine LOps.st rfl rfl rfl (LOp.pickF rfl (gdl g2 rfl) rfl) ?_
          refine LOps.nil ?_
          refine thn_n ?_
          refine LW.condF rfl ?_
          refine LW.skip ?_
          refine thn_n ?_
          obtain rfl := Option.some.inj hr
          exact ⟨_, rfl, Weak.of 2 ⟨rfl, rfl, rfl, rfl, trivial⟩ rfl rfl rfl rfl⟩
  · obtain rfl := e_v2
    have hr := sum_l ho_v2
    clear hb_v2
    refine LW.seq ?_
    refine LW.region ?_
    refine LOps.st rfl rfl rfl (LOp.move rfl rfl) ?_
    refine LOps.st rfl rfl rfl (LOp.load rfl rfl rfl vt24 rfl rfl) ?_
    obtain ⟨v5, h_v5, hr⟩ := bind_get hr
    refine LOps.st rfl rfl rfl (LOp.call rfl rfl rfl (by kernel_rfl) (LC.pure (c43 h_v5) (.cons Conv.p (.cons Conv.p .nil)))) ?_
    refine LOps.st rfl rfl rfl (LOp.move rfl rfl) ?_
    refine LOps.st rfl rfl rfl (LOp.extract rfl rfl rfl) ?_
    refine LOps.st rfl rfl rfl (LOp.extract rfl rfl rfl) ?_
    refine LOps.st rfl rfl rfl (LOp.assign rfl rfl) ?_
    refine LOps.st rfl rfl rfl (LOp.assign rfl rfl) ?_
    refine LOps.nil ?_
    refine thn_n ?_
    refine LW.seq ?_
    refine LW.region ?_
    refine LOps.st rfl rfl rfl (LOp.move rfl rfl) ?_
    refine LOps.st rfl rfl rfl (LOp.load rfl rfl rfl vt24 rfl rfl) ?_
    obtain ⟨v6, h_v6, hr⟩ := bind_get hr
    refine LOps.st rfl rfl rfl (LOp.call rfl rfl rfl (by kernel_rfl) (LC.pure (c53 h_v6) (.cons Conv.p (.cons Conv.p .nil)))) ?_
    refine LOps.st rfl rfl rfl (LOp.bin rfl rfl rfl rfl) ?_
    refine LOps.st rfl rfl rfl (LOp.move rfl rfl) ?_
    refine LOps.cases 44 rfl (fun (g6 : (v6 == (-1)) = true) => ?_) (fun (g6 : (v6 == (-1)) = false) => ?_)
    · -- g6 is True
      have hr := ite_t g6 hr
      refine LOps.gd rfl rfl rfl (gd g6 rfl) rfl (LOp.move rfl rfl) ?_
      refine LOps.gd rfl rfl rfl (gd g6 rfl) rfl (LOp.bin rfl rfl rfl rfl) ?_
      refine LOps.st rfl rfl rfl (LOp.pickT rfl (gdl g6 rfl) rfl) ?_
      refine LOps.st rfl rfl rfl (LOp.move rfl rfl) ?_
      refine LOps.cases 48 rfl (fun (g7 : (v5.1 == 0) = true) => ?_) (fun (g7 : (v5.1 == 0) = false) => ?_)
      · -- g7 is True
        have hr := ite_t g7 hr
        refine LOps.gd rfl rfl rfl (gd g7 rfl) rfl (LOp.move rfl rfl) ?_
        refine LOps.gd rfl rfl rfl (gd g7 rfl) rfl (LOp.not rfl rfl) ?_
        refine LOps.st rfl rfl rfl (LOp.pickT rfl (gdl g7 rfl) rfl) ?_
        refine LOps.st rfl rfl rfl (LOp.move rfl rfl) ?_
        refine LOps.cases 52 rfl (fun (g8 : (!v5.2) = true) => ?_) (fun (g8 : (!v5.2) = false) => ?_)
        · -- g8 is True
          have hr := ite_t g8 hr
          refine LOps.gd rfl rfl rfl (gd g8 rfl) rfl (LOp.move rfl rfl) ?_
          refine LOps.gd rfl rfl rfl (gd g8 rfl) rfl (LOp.load rfl rfl rfl vt24 rfl rfl) ?_
          obtain ⟨q1, hr⟩ := grd_get hr
          refine LOps.gd rfl rfl rfl (gd g8 rfl) rfl (LOp.call rfl rfl rfl (by kernel_rfl) (LC.pure (c39 (l := l) (id := id) (few_le q1)) (.cons Conv.p (.cons Conv.p .nil)))) ?_
          refine LOps.gd rfl rfl rfl (gd g8 rfl) rfl (LOp.lenM rfl rfl (by kernel_rfl)) ?_
          refine LOps.gd rfl rfl rfl (gd g8 rfl) rfl (LOp.bin rfl rfl rfl rfl) ?_
          refine LOps.st rfl rfl rfl (LOp.pickT rfl (gdl g8 rfl) rfl) ?_
          refine LOps.st rfl rfl rfl (LOp.move rfl rfl) ?_
          refine LOps.cases 59 rfl (fun (g9 : (((chainOf l id).length : Int) == 0) = true) => ?_) (fun (g9 : (((chainOf l id).length : Int) == 0) = false) => ?_)
          · -- g9 is True
            have hr := ite_t g9 hr
            refine LOps.gd rfl rfl rfl (gd g9 rfl) rfl (LOp.move rfl rfl) ?_
            refine LOps.gd rfl rfl rfl (gd g9 rfl) rfl (LOp.load rfl rfl rfl vt24 rfl rfl) ?_
            refine LOps.gd rfl rfl rfl (gd g9 rfl) rfl (LOp.load rfl rfl rfl vt24 rfl rfl) ?_
            obtain ⟨q2, hr⟩ := grd_get hr
            refine LOps.gd rfl rfl rfl (gd g9 rfl) rfl (LOp.call rfl rfl rfl (by kernel_rfl) (LC.pure (c40 (l := l) (a := low) (b := id) (few_le q2)) (.cons Conv.p (.cons Conv.p (.cons Conv.p .nil))))) ?_
            refine LOps.gd rfl rfl rfl (gd g9 rfl) rfl (LOp.not rfl rfl) ?_
            refine LOps.st rfl rfl rfl (LOp.pickT rfl (gdl g9 rfl) rfl) ?_
            refine LOps.st rfl rfl rfl (LOp.assign rfl rfl) ?_
            refine LOps.nil ?_
            refine thn_n ?_
            refine LW.ret ?_
            obtain rfl := Option.some.inj hr
            refine finP_ret (.one (.tmp rfl)) ?_
            exact Conv.p
          · -- g9 is False
            have hr := ite_f g9 hr
            refine LOps.sk rfl rfl rfl (gd g9 rfl) rfl rfl ?_
            refine LOps.sk rfl rfl rfl (gd g9 rfl) rfl rfl ?_
            refine LOps.sk rfl rfl rfl (gd g9 rfl) rfl rfl ?_
            refine LOps.sk rfl rfl rfl (gd g9 rfl) rfl rfl ?_
            refine LOps.sk rfl rfl rfl (gd g9 rfl) rfl rfl ?_
            refine LOps.st rfl rfl rfl (LOp.pickF rfl (gdl g9 rfl) rfl) ?_
            refine LOps.st rfl rfl rfl (LOp.assign rfl rfl) ?_
            refine LOps.nil ?_
            refine thn_n ?_
            refine LW.ret ?_
            obtain rfl := Option.some.inj hr
            refine finP_ret (.one (.tmp rfl)) ?_
            exact Conv.p
        · -- g8 is False
          have hr := ite_f g8 hr
          refine LOps.sk rfl rfl rfl (gd g8 rfl) rfl rfl ?_
          refine LOps.sk rfl rfl rfl (gd g8 rfl) rfl rfl ?_
          refine LOps.sk rfl rfl rfl (gd g8 rfl) rfl rfl ?_
          refine LOps.sk rfl rfl rfl (gd g8 rfl) rfl rfl ?_
          refine LOps.sk rfl rfl rfl (gd g8 rfl) rfl rfl ?_
          refine LOps.st rfl rfl rfl (LOp.pickF rfl (gdl g8 rfl) rfl) ?_
          refine LOps.st rfl rfl rfl (LOp.move rfl rfl) ?_
          refine LOps.sk rfl rfl rfl rfl rfl rfl ?_
          refine LOps.sk rfl rfl rfl rfl rfl rfl ?_
          refine LOps.sk rfl rfl rfl rfl rfl rfl ?_
          refine LOps.sk rfl rfl rfl rfl rfl rfl ?_
          refine LOps.sk rfl rfl rfl rfl rfl rfl ?_
          refine LOps.st rfl rfl rfl (LOp.pickF rfl rfl rfl) ?_
          refine LOps.st rfl rfl rfl (LOp.assign rfl rfl) ?_
          refine LOps.nil ?_
          refine thn_n ?_
          refine LW.ret ?_
          obtain rfl := Option.some.inj hr
          refine finP_ret (.one (.tmp rfl)) ?_
          exact Conv.p
      · -- g7 is False
        have hr := ite_f g7 hr
        refine LOps.sk rfl rfl rfl (gd g7 rfl) rfl rfl ?_
        refine LOps.sk rfl rfl rfl (gd g7 rfl) rfl rfl ?_
        refine LOps.st rfl rfl rfl (LOp.pickF rfl (gdl g7 rfl) rfl) ?_
        refine LOps.st rfl rfl rfl (LOp.move rfl rfl) ?_
        refine LOps.sk rfl rfl rfl rfl rfl rfl ?_
        refine LOps.sk rfl rfl rfl rfl rfl rfl ?_
        refine LOps.sk rfl rfl rfl rfl rfl rfl ?_
        refine LOps.sk rfl rfl rfl rfl rfl rfl ?_
        refine LOps.sk rfl rfl rfl rfl rfl rfl ?_
        refine LOps.st rfl rfl rfl (LOp.pickF rfl rfl rfl) ?_
        refine LOps.st rfl rfl rfl (LOp.move rfl rfl) ?_
        refine LOps.sk rfl rfl rfl rfl rfl rfl ?_
        refine LOps.sk rfl rfl rfl rfl rfl rfl ?_
        refine LOps.sk rfl rfl rfl rfl rfl rfl ?_
        refine LOps.sk rfl rfl rfl rfl rfl rfl ?_
        refine LOps.sk rfl rfl rfl rfl rfl rfl ?_
        refine LOps.st rfl rfl rfl (LOp.pickF rfl rfl rfl) ?_
        refine LOps.st rfl rfl rfl (LOp.assign rfl rfl) ?_
        refine LOps.nil ?_
        refine thn_n ?_
        refine LW.ret ?_
        obtain rfl := Option.some.inj hr
        refine finP_ret (.one (.tmp rfl)) ?_
        exact Conv.p
    · -- g6 is False
      have hr := ite_f g6 hr
      refine LOps.sk rfl rfl rfl (gd g6 rfl) rfl rfl ?_
      refine LOps.sk rfl rfl rfl (gd g6 rfl) rfl rfl ?_
      refine LOps.st rfl rfl rfl (LOp.pickF rfl (gdl g6 rfl) rfl) ?_
      refine LOps.st rfl rfl rfl (LOp.move rfl rfl) ?_
      refine LOps.sk rfl rfl rfl rfl rfl rfl ?_
      refine LOps.sk rfl rfl rfl rfl rfl rfl ?_
      refine LOps.st rfl rfl rfl (LOp.pickF rfl rfl rfl) ?_
      refine LOps.st rfl rfl rfl (LOp.move rfl rfl) ?_
      refine LOps.sk rfl rfl rfl rfl rfl rfl ?_
      refine LOps.sk rfl rfl rfl rfl rfl rfl ?_
      refine LOps.sk rfl rfl rfl rfl rfl rfl ?_
      refine LOps.sk rfl rfl rfl rfl rfl rfl ?_
      refine LOps.sk rfl rfl rfl rfl rfl rfl ?_
      refine LOps.st rfl rfl rfl (LOp.pickF rfl rfl rfl) ?_
      refine LOps.st rfl rfl rfl (LOp.move rfl rfl) ?_
      refine LOps.sk rfl rfl rfl rfl rfl rfl ?_
      refine LOps.sk rfl rfl rfl rfl rfl rfl ?_
      refine LOps.sk rfl rfl rfl rfl rfl rfl ?_
      refine LOps.sk rfl rfl rfl rfl rfl rfl ?_
      refine LOps.sk rfl rfl rfl rfl rfl rfl ?_
      refine LOps.st rfl rfl rfl (LOp.pickF rfl rfl rfl) ?_
      refine LOps.st rfl rfl rfl (LOp.assign rfl rfl) ?_
      refine LOps.nil ?_
      refine thn_n ?_
      refine LW.ret ?_
      obtain rfl := Option.some.inj hr
      refine finP_ret (.one (.tmp rfl)) ?_
      exact Conv.p

end Go.Mg
