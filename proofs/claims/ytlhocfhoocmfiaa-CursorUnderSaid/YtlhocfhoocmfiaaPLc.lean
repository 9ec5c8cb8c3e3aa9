/- Laws of cursors. Conditions: none. -/
import Derived.Test.YtlhocfhoocmfiaaL3
namespace Go.Mg
open Go.Proofs


/-! marigold/marigoldlaw17.CursorUnder -/

def F6 (c : Cu) (l : List Bk) (head : ID) (found : ID) (v_is : Bool) (slot : Int) : Option Bool :=
  (F36 ).bind fun v1 =>
  (
    bif !v1 then
      some true
    else
      bif decide ((l.length : Int) > 40) then
        some true
      else
        bif few l then
          bif ((chainOf l head).length : Int) == 0 then
            some true
          else
            bif decide (c.Revoked < 0) then
              some true
            else
              some (decide (c.Revoked > 1152921504606846976))
        else none
  ).bind fun v2 =>
  bif v2 then
    some v1
  else
    bif few l then
      bif few l then
        (
          bif few l then
            bif !(decide (indexOf (chainOf l head) ((moveOf c l head found v_is slot).ID) ≥ 0)) then
              some (.inr false)
            else
              bif !((decide (indexOf (chainOf l head) c.ID ≥ 0)) == (((moveOf c l head found v_is slot).Revoked) == c.Revoked)) then
                some (.inr false)
              else
                bif !(decide (indexOf (chainOf l head) c.ID ≥ 0)) then
                  bif ((moveOf c l head found v_is slot).Revoked) != (IntKind.i64.wrap (c.Revoked + 1)) then
                    some (.inr false)
                  else
                    some (.inl ())
                else
                  some (.inl ())
          else none
        ).bind fun b_v3 => Sum.elim (fun v3 =>
          bif !(decide (indexOf (chainOf l head) c.ID ≥ 0)) then
            some true
          else
            bif few l then
              bif decide (indexOf (chainOf l ((moveOf c l head found v_is slot).ID)) c.ID ≥ 0) then
                bif !(((((moveOf c l head found v_is slot).ID).1) == c.ID.1) && (((((moveOf c l head found v_is slot).ID).2) == c.ID.2) && true)) then
                  some true
                else
                  some (((((moveOf c l head found v_is slot).ID).1) == c.ID.1) && (((((moveOf c l head found v_is slot).ID).2) == c.ID.2) && ((((moveOf c l head found v_is slot).Slot) == c.Slot) && ((((moveOf c l head found v_is slot).Revoked) == c.Revoked) && true))))
              else
                some false
            else none) some b_v3
      else none
    else none

set_option maxRecDepth 100000 in
theorem c6 {c : Cu} {l : List Bk} {head : ID} {found : ID} {v_is : Bool} {slot : Int} {r_ : Bool} (hr : F6 c l head found v_is slot = some r_) : LPure Try.prog 6 [curP c, .slice 5 (l.map blkP), idP head, idP found, .bool v_is, .int .i64 slot] [.bool r_] := by
  refine LPure.start Try.func6 rfl rfl rfl rfl ?_
  unfold F6 at hr
  refine LW.seq ?_
  refine LW.region ?_
  refine LOps.st rfl rfl rfl (LOp.box rfl rfl rfl rfl rfl) ?_
  refine LOps.st rfl rfl rfl (LOp.box rfl rfl rfl rfl rfl) ?_
  refine LOps.st rfl rfl rfl (LOp.box rfl rfl rfl rfl rfl) ?_
  refine LOps.st rfl rfl rfl (LOp.assign rfl rfl) ?_
  refine LOps.nil ?_
  refine thn_n ?_
  refine LW.seq ?_
  refine LW.region ?_
  obtain ⟨v1, h_v1, hr⟩ := bind_get hr
  refine LOps.st rfl rfl rfl (LOp.call rfl rfl rfl (by kernel_rfl) (LC.pure (c36 h_v1) .nil)) ?_
  refine LOps.st rfl rfl rfl (LOp.assign rfl rfl) ?_
  refine LOps.nil ?_
  refine thn_n ?_
  refine LW.seq ?_
  obtain ⟨v2, hb_v2, ho_v2⟩ := bind_get hr
  clear hr
  refine LW.cut (E := [(1, .p (.slice 5 (l.map blkP))), (4, .p (.bool v_is)), (5, .p (.int .i64 slot)), (6, .ptr 0 0), (8, .ptr 1 0), (9, .ptr 2 0), (12, .p (.bool false)), (13, .p (.bool v1)), (40, .p (.bool v2))]) (O := [.box [.p (.int .u64 c.ID.1), .p (.int .u64 c.ID.2), .p (.int .i64 c.Slot), .p (.int .i64 c.Revoked)], .box [.p (.int .u64 head.1), .p (.int .u64 head.2)], .box [.p (.int .u64 found.1), .p (.int .u64 found.2)]]) ?_ ?_
  · have hr := hb_v2
    refine LW.region ?_
    refine LOps.st rfl rfl rfl (LOp.move rfl rfl) ?_
    refine LOps.st rfl rfl rfl (LOp.not rfl rfl) ?_
    refine LOps.st rfl rfl rfl (LOp.move rfl rfl) ?_
    refine LOps.cases 19 rfl (fun (g1 : (!v1) = true) => ?_) (fun (g1 : (!v1) = false) => ?_)
    · -- g1 is True
      have hr := ite_t g1 hr
      refine LOps.sk rfl rfl rfl (gd g1 rfl) rfl rfl ?_
      refine LOps.sk rfl rfl rfl (gd g1 rfl) rfl rfl ?_
      refine LOps.sk rfl rfl rfl (gd g1 rfl) rfl rfl ?_
      refine LOps.st rfl rfl rfl (LOp.pickT rfl (gdl g1 rfl) rfl) ?_
      refine LOps.st rfl rfl rfl (LOp.move rfl rfl) ?_
      refine LOps.sk rfl rfl rfl rfl rfl rfl ?_
      refine LOps.sk rfl rfl rfl rfl rfl rfl ?_
      refine LOps.sk rfl rfl rfl rfl rfl rfl ?_
      refine LOps.sk rfl rfl rfl rfl rfl rfl ?_
      refine LOps.sk rfl rfl rfl rfl rfl rfl ?_
      refine LOps.st rfl rfl rfl (LOp.pickT rfl rfl rfl) ?_
      refine LOps.st rfl rfl rfl (LOp.move rfl rfl) ?_
      refine LOps.sk rfl rfl rfl rfl rfl rfl ?_
      refine LOps.sk rfl rfl rfl rfl rfl rfl ?_
      refine LOps.sk rfl rfl rfl rfl rfl rfl ?_
      refine LOps.st rfl rfl rfl (LOp.pickT rfl rfl rfl) ?_
      refine LOps.st rfl rfl rfl (LOp.move rfl rfl) ?_
      refine LOps.sk rfl rfl rfl rfl rfl rfl ?_
      refine LOps.sk rfl rfl rfl rfl rfl rfl ?_
      refine LOps.sk rfl rfl rfl rfl rfl rfl ?_
      refine LOps.st rfl rfl rfl (LOp.pickT rfl rfl rfl) ?_
      refine LOps.nil ?_
      refine thn_n ?_
      obtain rfl := Option.some.inj hr
      exact Weak.of 3 ⟨rfl, rfl, rfl, rfl, rfl, rfl, rfl, rfl, rfl, trivial⟩ rfl rfl rfl rfl
    · -- g1 is False
      have hr := ite_f g1 hr
      refine LOps.gd rfl rfl rfl (gd g1 rfl) rfl (LOp.move rfl rfl) ?_
      refine LOps.gd rfl rfl rfl (gd g1 rfl) rfl (LOp.lenM rfl rfl (by kernel_rfl)) ?_
      refine LOps.gd rfl rfl rfl (gd g1 rfl) rfl (LOp.bin rfl rfl rfl rfl) ?_
      refine LOps.st rfl rfl rfl (LOp.pickF rfl (gdl g1 rfl) rfl) ?_
      refine LOps.st rfl rfl rfl (LOp.move rfl rfl) ?_
      refine LOps.cases 24 rfl (fun (g2 : (decide ((l.length : Int) > 40)) = true) => ?_) (fun (g2 : (decide ((l.length : Int) > 40)) = false) => ?_)
      · -- g2 is True
        have hr := ite_t g2 hr
        refine LOps.sk rfl rfl rfl (gd g2 rfl) rfl rfl ?_
        refine LOps.sk rfl rfl rfl (gd g2 rfl) rfl rfl ?_
        refine LOps.sk rfl rfl rfl (gd g2 rfl) rfl rfl ?_
        refine LOps.sk rfl rfl rfl (gd g2 rfl) rfl rfl ?_
        refine LOps.sk rfl rfl rfl (gd g2 rfl) rfl rfl ?_
        refine LOps.st rfl rfl rfl (LOp.pickT rfl (gdl g2 rfl) rfl) ?_
        refine LOps.st rfl rfl rfl (LOp.move rfl rfl) ?_
        refine LOps.sk rfl rfl rfl rfl rfl rfl ?_
        refine LOps.sk rfl rfl rfl rfl rfl rfl ?_
        refine LOps.sk rfl rfl rfl rfl rfl rfl ?_
        refine LOps.st rfl rfl rfl (LOp.pickT rfl rfl rfl) ?_
        refine LOps.st rfl rfl rfl (LOp.move rfl rfl) ?_
        refine LOps.sk rfl rfl rfl rfl rfl rfl ?_
        refine LOps.sk rfl rfl rfl rfl rfl rfl ?_
        refine LOps.sk rfl rfl rfl rfl rfl rfl ?_
        refine LOps.st rfl rfl rfl (LOp.pickT rfl rfl rfl) ?_
        refine LOps.nil ?_
        refine thn_n ?_
        obtain rfl := Option.some.inj hr
        exact Weak.of 3 ⟨rfl, rfl, rfl, rfl, rfl, rfl, rfl, rfl, rfl, trivial⟩ rfl rfl rfl rfl
      · -- g2 is False
        have hr := ite_f g2 hr
        refine LOps.gd rfl rfl rfl (gd g2 rfl) rfl (LOp.move rfl rfl) ?_
        refine LOps.gd rfl rfl rfl (gd g2 rfl) rfl (LOp.load rfl rfl rfl vt24 rfl rfl) ?_
        obtain ⟨q1, hr⟩ := grd_get hr
        refine LOps.gd rfl rfl rfl (gd g2 rfl) rfl (LOp.call rfl rfl rfl (by kernel_rfl) (LC.pure (c39 (l := l) (id := head) (few_le q1)) (.cons Conv.p (.cons Conv.p .nil)))) ?_
        refine LOps.gd rfl rfl rfl (gd g2 rfl) rfl (LOp.lenM rfl rfl (by kernel_rfl)) ?_
        refine LOps.gd rfl rfl rfl (gd g2 rfl) rfl (LOp.bin rfl rfl rfl rfl) ?_
        refine LOps.st rfl rfl rfl (LOp.pickF rfl (gdl g2 rfl) rfl) ?_
        refine LOps.st rfl rfl rfl (LOp.move rfl rfl) ?_
        refine LOps.cases 31 rfl (fun (g3 : (((chainOf l head).length : Int) == 0) = true) => ?_) (fun (g3 : (((chainOf l head).length : Int) == 0) = false) => ?_)
        · -- g3 is True
          have hr := ite_t g3 hr
          refine LOps.sk rfl rfl rfl (gd g3 rfl) rfl rfl ?_
          refine LOps.sk rfl rfl rfl (gd g3 rfl) rfl rfl ?_
          refine LOps.sk rfl rfl rfl (gd g3 rfl) rfl rfl ?_
          refine LOps.st rfl rfl rfl (LOp.pickT rfl (gdl g3 rfl) rfl) ?_
          refine LOps.st rfl rfl rfl (LOp.move rfl rfl) ?_
          refine LOps.sk rfl rfl rfl rfl rfl rfl ?_
          refine LOps.sk rfl rfl rfl rfl rfl rfl ?_
          refine LOps.sk rfl rfl rfl rfl rfl rfl ?_
          refine LOps.st rfl rfl rfl (LOp.pickT rfl rfl rfl) ?_
          refine LOps.nil ?_
          refine thn_n ?_
          obtain rfl := Option.some.inj hr
          exact Weak.of 3 ⟨rfl, rfl, rfl, rfl, rfl, rfl, rfl, rfl, rfl, trivial⟩ rfl rfl rfl rfl
        · -- g3 is False
          have hr := ite_f g3 hr
          refine LOps.gd rfl rfl rfl (gd g3 rfl) rfl (LOp.fieldAddr rfl rfl ft26_2) ?_
          refine LOps.gd rfl rfl rfl (gd g3 rfl) rfl (LOp.load rfl rfl rfl vt3 rfl rfl) ?_
          refine LOps.gd rfl rfl rfl (gd g3 rfl) rfl (LOp.bin rfl rfl rfl rfl) ?_
          refine LOps.st rfl rfl rfl (LOp.pickF rfl (gdl g3 rfl) rfl) ?_
          refine LOps.st rfl rfl rfl (LOp.move rfl rfl) ?_
          refine LOps.cases 36 rfl (fun (g4 : (decide (c.Revoked < 0)) = true) => ?_) (fun (g4 : (decide (c.Revoked < 0)) = false) => ?_)
          · -- g4 is True
            have hr := ite_t g4 hr
            refine LOps.sk rfl rfl rfl (gd g4 rfl) rfl rfl ?_
            refine LOps.sk rfl rfl rfl (gd g4 rfl) rfl rfl ?_
            refine LOps.sk rfl rfl rfl (gd g4 rfl) rfl rfl ?_
            refine LOps.st rfl rfl rfl (LOp.pickT rfl (gdl g4 rfl) rfl) ?_
            refine LOps.nil ?_
            refine thn_n ?_
            obtain rfl := Option.some.inj hr
            exact Weak.of 3 ⟨rfl, rfl, rfl, rfl, rfl, rfl, rfl, rfl, rfl, trivial⟩ rfl rfl rfl rfl
          · -- g4 is False
            have hr := ite_f g4 hr
            refine LOps.gd rfl rfl rfl (gd g4 rfl) rfl (LOp.fieldAddr rfl rfl ft26_2) ?_
            refine LOps.gd rfl rfl rfl (gd g4 rfl) rfl (LOp.load rfl rfl rfl vt3 rfl rfl) ?_
            refine LOps.gd rfl rfl rfl (gd g4 rfl) rfl (LOp.bin rfl rfl rfl rfl) ?_
            refine LOps.st rfl rfl rfl (LOp.pickF rfl (gdl g4 rfl) rfl) ?_
            refine LOps.nil ?_
            refine thn_n ?_
            obtain rfl := Option.some.inj hr
            exact Weak.of 3 ⟨rfl, rfl, rfl, rfl, rfl, rfl, rfl, rfl, rfl, trivial⟩ rfl rfl rfl rfl
  · have hr := ho_v2
    clear hb_v2
    refine LW.cond rfl (fun (g5 : v2 = true) => ?_) (fun (g5 : v2 = false) => ?_)
    · -- g5 is True
      have hr := ite_t g5 hr
      refine LW.seq ?_
      refine LW.region ?_
      refine LOps.st rfl rfl rfl (LOp.move rfl rfl) ?_
      refine LOps.st rfl rfl rfl (LOp.assign rfl rfl) ?_
      refine LOps.nil ?_
      refine thn_n ?_
      refine LW.ret ?_
      refine thn_r ?_
      obtain rfl := Option.some.inj hr
      refine finP_ret (.one (.tmp rfl)) ?_
      exact Conv.p
    · -- g5 is False
      have hr := ite_f g5 hr
      refine LW.skip ?_
      refine thn_n ?_
      refine LW.seq ?_
      refine LW.region ?_
      refine LOps.st rfl rfl rfl (LOp.load rfl rfl rfl vt26 rfl rfl) ?_
      refine LOps.st rfl rfl rfl (LOp.move rfl rfl) ?_
      refine LOps.st rfl rfl rfl (LOp.load rfl rfl rfl vt24 rfl rfl) ?_
      refine LOps.st rfl rfl rfl (LOp.load rfl rfl rfl vt24 rfl rfl) ?_
      refine LOps.st rfl rfl rfl (LOp.move rfl rfl) ?_
      refine LOps.st rfl rfl rfl (LOp.move rfl rfl) ?_
      obtain ⟨q2, hr⟩ := grd_get hr
      refine LOps.st rfl rfl rfl (LOp.call rfl rfl rfl (by kernel_rfl) (LC.pure (c37 (c := c) (l := l) (head := head) (found := found) (is := v_is) (slot := slot) (few_le q2)) (.cons Conv.p (.cons Conv.p (.cons Conv.p (.cons Conv.p (.cons Conv.p (.cons Conv.p .nil)))))))) ?_
      refine LOps.st rfl rfl rfl (LOp.alloc rfl zt26 rfl rfl) ?_
      refine LOps.st rfl rfl rfl (LOp.store rfl rfl rfl rfl vt26 rfl rfl rfl rfl) ?_
      refine LOps.nil ?_
      refine thn_n ?_
      refine LW.seq ?_
      refine LW.region ?_
      refine LOps.st rfl rfl rfl (LOp.move rfl rfl) ?_
      refine LOps.st rfl rfl rfl (LOp.fieldAddr rfl rfl ft26_0) ?_
      refine LOps.st rfl rfl rfl (LOp.load rfl rfl rfl vt24 rfl rfl) ?_
      refine LOps.st rfl rfl rfl (LOp.load rfl rfl rfl vt24 rfl rfl) ?_
      obtain ⟨q3, hr⟩ := grd_get hr
      refine LOps.st rfl rfl rfl (LOp.call rfl rfl rfl (by kernel_rfl) (LC.pure (c40 (l := l) (a := c.ID) (b := head) (few_le q3)) (.cons Conv.p (.cons Conv.p (.cons Conv.p .nil))))) ?_
      refine LOps.st rfl rfl rfl (LOp.assign rfl rfl) ?_
      refine LOps.nil ?_
      refine thn_n ?_
      obtain ⟨b_v3, hb_v3, ho_v3⟩ := bind_get hr
      clear hr
      refine LW.cutB (b := b_v3) (E := fun v3 => [(1, .p (.slice 5 (l.map blkP))), (6, .ptr 0 0), (12, .p (.bool false)), (14, .ptr 3 0), (15, .p (.bool (decide (indexOf (chainOf l head) c.ID ≥ 0))))]) (O := fun v3 => [.box [.p (.int .u64 c.ID.1), .p (.int .u64 c.ID.2), .p (.int .i64 c.Slot), .p (.int .i64 c.Revoked)], .box [.p (.int .u64 head.1), .p (.int .u64 head.2)], .box [.p (.int .u64 found.1), .p (.int .u64 found.2)], .box [.p (.int .u64 (((moveOf c l head found v_is slot).ID).1)), .p (.int .u64 (((moveOf c l head found v_is slot).ID).2)), .p (.int .i64 ((moveOf c l head found v_is slot).Slot)), .p (.int .i64 ((moveOf c l head found v_is slot).Revoked))]]) ?_ (fun v3 e_v3 => ?_)
      · have hr := hb_v3
        refine LW.seq ?_
        refine LW.region ?_
        refine LOps.st rfl rfl rfl (LOp.move rfl rfl) ?_
        refine LOps.st rfl rfl rfl (LOp.fieldAddr rfl rfl ft26_0) ?_
        refine LOps.st rfl rfl rfl (LOp.load rfl rfl rfl vt24 rfl rfl) ?_
        refine LOps.st rfl rfl rfl (LOp.load rfl rfl rfl vt24 rfl rfl) ?_
        obtain ⟨q4, hr⟩ := grd_get hr
        refine LOps.st rfl rfl rfl (LOp.call rfl rfl rfl (by kernel_rfl) (LC.pure (c40 (l := l) (a := ((moveOf c l head found v_is slot).ID)) (b := head) (few_le q4)) (.cons Conv.p (.cons Conv.p (.cons Conv.p .nil))))) ?_
        refine LOps.st rfl rfl rfl (LOp.not rfl rfl) ?_
        refine LOps.st rfl rfl rfl (LOp.move rfl rfl) ?_
        refine LOps.cases 60 rfl (fun (g6 : (!(decide (indexOf (chainOf l head) ((moveOf c l head found v_is slot).ID) ≥ 0))) = true) => ?_) (fun (g6 : (!(decide (indexOf (chainOf l head) ((moveOf c l head found v_is slot).ID) ≥ 0))) = false) => ?_)
        · -- g6 is True
          have hr := ite_t g6 hr
          refine LOps.sk rfl rfl rfl (gd g6 rfl) rfl rfl ?_
          refine LOps.sk rfl rfl rfl (gd g6 rfl) rfl rfl ?_
          refine LOps.sk rfl rfl rfl (gd g6 rfl) rfl rfl ?_
          refine LOps.sk rfl rfl rfl (gd g6 rfl) rfl rfl ?_
          refine LOps.sk rfl rfl rfl (gd g6 rfl) rfl rfl ?_
          refine LOps.sk rfl rfl rfl (gd g6 rfl) rfl rfl ?_
          refine LOps.sk rfl rfl rfl (gd g6 rfl) rfl rfl ?_
          refine LOps.st rfl rfl rfl (LOp.pickT rfl (gdl g6 rfl) rfl) ?_
          refine LOps.st rfl rfl rfl (LOp.move rfl rfl) ?_
          refine LOps.sk rfl rfl rfl rfl rfl rfl ?_
          refine LOps.sk rfl rfl rfl rfl rfl rfl ?_
          refine LOps.sk rfl rfl rfl rfl rfl rfl ?_
          refine LOps.sku rfl rfl rfl rfl rfl ?_
          refine LOps.sku rfl rfl rfl rfl rfl ?_
          refine LOps.sku rfl rfl rfl rfl rfl ?_
          refine LOps.sku rfl rfl rfl rfl rfl ?_
          refine LOps.sku rfl rfl rfl rfl rfl ?_
          refine LOps.sku rfl rfl rfl rfl rfl ?_
          refine LOps.sk rfl rfl rfl rfl rfl rfl ?_
          refine LOps.st rfl rfl rfl (LOp.pickT rfl rfl rfl) ?_
          refine LOps.nil ?_
          refine thn_n ?_
          refine LW.condT rfl ?_
          refine LW.seq ?_
          refine LW.region ?_
          refine LOps.st rfl rfl rfl (LOp.assign rfl rfl) ?_
          refine LOps.nil ?_
          refine thn_n ?_
          refine LW.ret ?_
          refine thn_r ?_
          obtain rfl := Option.some.inj hr
          have hr := sum_r ho_v3
          obtain rfl := Option.some.inj hr
          refine finP_ret (.one (.tmp rfl)) ?_
          exact Conv.p
        · -- g6 is False
          have hr := ite_f g6 hr
          refine LOps.gd rfl rfl rfl (gd g6 rfl) rfl (LOp.move rfl rfl) ?_
          refine LOps.gd rfl rfl rfl (gd g6 rfl) rfl (LOp.fieldAddr rfl rfl ft26_2) ?_
          refine LOps.gd rfl rfl rfl (gd g6 rfl) rfl (LOp.load rfl rfl rfl vt3 rfl rfl) ?_
          refine LOps.gd rfl rfl rfl (gd g6 rfl) rfl (LOp.fieldAddr rfl rfl ft26_2) ?_
          refine LOps.gd rfl rfl rfl (gd g6 rfl) rfl (LOp.load rfl rfl rfl vt3 rfl rfl) ?_
          refine LOps.gd rfl rfl rfl (gd g6 rfl) rfl (LOp.bin rfl rfl rfl rfl) ?_
          refine LOps.gd rfl rfl rfl (gd g6 rfl) rfl (LOp.neqBool rfl rfl rfl Try.underlying4) ?_
          refine LOps.st rfl rfl rfl (LOp.pickF rfl (gdl g6 rfl) rfl) ?_
          refine LOps.st rfl rfl rfl (LOp.move rfl rfl) ?_
          refine LOps.cases 69 rfl (fun (g7 : (!((decide (indexOf (chainOf l head) c.ID ≥ 0)) == (((moveOf c l head found v_is slot).Revoked) == c.Revoked))) = true) => ?_) (fun (g7 : (!((decide (indexOf (chainOf l head) c.ID ≥ 0)) == (((moveOf c l head found v_is slot).Revoked) == c.Revoked))) = false) => ?_)
          · -- g7 is True
            have hr := ite_t g7 hr
            refine LOps.sk rfl rfl rfl (gd g7 rfl) rfl rfl ?_
            refine LOps.sk rfl rfl rfl (gd g7 rfl) rfl rfl ?_
            refine LOps.sk rfl rfl rfl (gd g7 rfl) rfl rfl ?_
            refine LOps.sku rfl rfl rfl rfl rfl ?_
            refine LOps.sku rfl rfl rfl rfl rfl ?_
            refine LOps.sku rfl rfl rfl rfl rfl ?_
            refine LOps.sku rfl rfl rfl rfl rfl ?_
            refine LOps.sku rfl rfl rfl rfl rfl ?_
            refine LOps.sku rfl rfl rfl rfl rfl ?_
            refine LOps.sk rfl rfl rfl (gd g7 rfl) rfl rfl ?_
            refine LOps.st rfl rfl rfl (LOp.pickT rfl (gdl g7 rfl) rfl) ?_
            refine LOps.nil ?_
            refine thn_n ?_
            refine LW.condT rfl ?_
            refine LW.seq ?_
            refine LW.region ?_
            refine LOps.st rfl rfl rfl (LOp.assign rfl rfl) ?_
            refine LOps.nil ?_
            refine thn_n ?_
            refine LW.ret ?_
            refine thn_r ?_
            obtain rfl := Option.some.inj hr
            have hr := sum_r ho_v3
            obtain rfl := Option.some.inj hr
            refine finP_ret (.one (.tmp rfl)) ?_
            exact Conv.p
          · -- g7 is False
            have hr := ite_f g7 hr
            refine LOps.gd rfl rfl rfl (gd g7 rfl) rfl (LOp.move rfl rfl) ?_
            refine LOps.gd rfl rfl rfl (gd g7 rfl) rfl (LOp.not rfl rfl) ?_
            refine LOps.gd rfl rfl rfl (gd g7 rfl) rfl (LOp.move rfl rfl) ?_
            refine LOps.cases 72 rfl (fun (g8 : (!(decide (indexOf (chainOf l head) c.ID ≥ 0))) = true) => ?_) (fun (g8 : (!(decide (indexOf (chainOf l head) c.ID ≥ 0))) = false) => ?_)
            · -- g8 is True
              have hr := ite_t g8 hr
              refine LOps.gd rfl rfl rfl (gd g8 rfl) rfl (LOp.fieldAddr rfl rfl ft26_2) ?_
              refine LOps.gd rfl rfl rfl (gd g8 rfl) rfl (LOp.load rfl rfl rfl vt3 rfl rfl) ?_
              refine LOps.gd rfl rfl rfl (gd g8 rfl) rfl (LOp.fieldAddr rfl rfl ft26_2) ?_
              refine LOps.gd rfl rfl rfl (gd g8 rfl) rfl (LOp.load rfl rfl rfl vt3 rfl rfl) ?_
              refine LOps.gd rfl rfl rfl (gd g8 rfl) rfl (LOp.bin rfl rfl rfl rfl) ?_
              refine LOps.gd rfl rfl rfl (gd g8 rfl) rfl (LOp.bin rfl rfl rfl rfl) ?_
              refine LOps.gd rfl rfl rfl (gd g7 rfl) rfl (LOp.pickT rfl (gdl g8 rfl) rfl) ?_
              refine LOps.st rfl rfl rfl (LOp.pickF rfl (gdl g7 rfl) rfl) ?_
              refine LOps.nil ?_
              refine thn_n ?_
              refine LW.cond rfl (fun (g9 : (((moveOf c l head found v_is slot).Revoked) != (IntKind.i64.wrap (c.Revoked + 1))) = true) => ?_) (fun (g9 : (((moveOf c l head found v_is slot).Revoked) != (IntKind.i64.wrap (c.Revoked + 1))) = false) => ?_)
              · -- g9 is True
                have hr := ite_t g9 hr
                refine LW.seq ?_
                refine LW.region ?_
                refine LOps.st rfl rfl rfl (LOp.assign rfl rfl) ?_
                refine LOps.nil ?_
                refine thn_n ?_
                refine LW.ret ?_
                refine thn_r ?_
                obtain rfl := Option.some.inj hr
                have hr := sum_r ho_v3
                obtain rfl := Option.some.inj hr
                refine finP_ret (.one (.tmp rfl)) ?_
                exact Conv.p
              · -- g9 is False
                have hr := ite_f g9 hr
                refine LW.skip ?_
                refine thn_n ?_
                obtain rfl := Option.some.inj hr
                exact ⟨_, rfl, Weak.of 4 ⟨rfl, rfl, rfl, rfl, rfl, trivial⟩ rfl rfl rfl rfl⟩
            · -- g8 is False
              have hr := ite_f g8 hr
              refine LOps.sk rfl rfl rfl (gd g8 rfl) rfl rfl ?_
              refine LOps.sk rfl rfl rfl (gd g8 rfl) rfl rfl ?_
              refine LOps.sk rfl rfl rfl (gd g8 rfl) rfl rfl ?_
              refine LOps.sk rfl rfl rfl (gd g8 rfl) rfl rfl ?_
              refine LOps.sk rfl rfl rfl (gd g8 rfl) rfl rfl ?_
              refine LOps.sk rfl rfl rfl (gd g8 rfl) rfl rfl ?_
              refine LOps.gd rfl rfl rfl (gd g7 rfl) rfl (LOp.pickF rfl (gdl g8 rfl) rfl) ?_
              refine LOps.st rfl rfl rfl (LOp.pickF rfl (gdl g7 rfl) rfl) ?_
              refine LOps.nil ?_
              refine thn_n ?_
              refine LW.condF rfl ?_
              refine LW.skip ?_
              refine thn_n ?_
              obtain rfl := Option.some.inj hr
              exact ⟨_, rfl, Weak.of 4 ⟨rfl, rfl, rfl, rfl, rfl, trivial⟩ rfl rfl rfl rfl⟩
      · obtain rfl := e_v3
        have hr := sum_l ho_v3
        clear hb_v3
        refine LW.seq ?_
        refine LW.region ?_
        refine LOps.st rfl rfl rfl (LOp.move rfl rfl) ?_
        refine LOps.st rfl rfl rfl (LOp.not rfl rfl) ?_
        refine LOps.st rfl rfl rfl (LOp.move rfl rfl) ?_
        refine LOps.cases 83 rfl (fun (g10 : (!(decide (indexOf (chainOf l head) c.ID ≥ 0))) = true) => ?_) (fun (g10 : (!(decide (indexOf (chainOf l head) c.ID ≥ 0))) = false) => ?_)
        · -- g10 is True
          have hr := ite_t g10 hr
          refine LOps.sk rfl rfl rfl (gd g10 rfl) rfl rfl ?_
          refine LOps.sk rfl rfl rfl (gd g10 rfl) rfl rfl ?_
          refine LOps.sk rfl rfl rfl (gd g10 rfl) rfl rfl ?_
          refine LOps.sk rfl rfl rfl (gd g10 rfl) rfl rfl ?_
          refine LOps.sk rfl rfl rfl (gd g10 rfl) rfl rfl ?_
          refine LOps.sk rfl rfl rfl (gd g10 rfl) rfl rfl ?_
          refine LOps.sk rfl rfl rfl (gd g10 rfl) rfl rfl ?_
          refine LOps.sku rfl rfl rfl rfl rfl ?_
          refine LOps.sku rfl rfl rfl rfl rfl ?_
          refine LOps.sku rfl rfl rfl rfl rfl ?_
          refine LOps.sku rfl rfl rfl rfl rfl ?_
          refine LOps.sku rfl rfl rfl rfl rfl ?_
          refine LOps.sku rfl rfl rfl rfl rfl ?_
          refine LOps.sku rfl rfl rfl rfl rfl ?_
          refine LOps.sku rfl rfl rfl rfl rfl ?_
          refine LOps.sku rfl rfl rfl rfl rfl ?_
          refine LOps.sku rfl rfl rfl rfl rfl ?_
          refine LOps.sk rfl rfl rfl (gd g10 rfl) rfl rfl ?_
          refine LOps.st rfl rfl rfl (LOp.pickT rfl (gdl g10 rfl) rfl) ?_
          refine LOps.st rfl rfl rfl (LOp.assign rfl rfl) ?_
          refine LOps.nil ?_
          refine thn_n ?_
          refine LW.ret ?_
          obtain rfl := Option.some.inj hr
          refine finP_ret (.one (.tmp rfl)) ?_
          exact Conv.p
        · -- g10 is False
          have hr := ite_f g10 hr
          refine LOps.gd rfl rfl rfl (gd g10 rfl) rfl (LOp.move rfl rfl) ?_
          refine LOps.gd rfl rfl rfl (gd g10 rfl) rfl (LOp.fieldAddr rfl rfl ft26_0) ?_
          refine LOps.gd rfl rfl rfl (gd g10 rfl) rfl (LOp.load rfl rfl rfl vt24 rfl rfl) ?_
          refine LOps.gd rfl rfl rfl (gd g10 rfl) rfl (LOp.fieldAddr rfl rfl ft26_0) ?_
          refine LOps.gd rfl rfl rfl (gd g10 rfl) rfl (LOp.load rfl rfl rfl vt24 rfl rfl) ?_
          obtain ⟨q5, hr⟩ := grd_get hr
          refine LOps.gd rfl rfl rfl (gd g10 rfl) rfl (LOp.call rfl rfl rfl (by kernel_rfl) (LC.pure (c40 (l := l) (a := c.ID) (b := ((moveOf c l head found v_is slot).ID)) (few_le q5)) (.cons Conv.p (.cons Conv.p (.cons Conv.p .nil))))) ?_
          refine LOps.gd rfl rfl rfl (gd g10 rfl) rfl (LOp.move rfl rfl) ?_
          refine LOps.cases 90 rfl (fun (g11 : (decide (indexOf (chainOf l ((moveOf c l head found v_is slot).ID)) c.ID ≥ 0)) = true) => ?_) (fun (g11 : (decide (indexOf (chainOf l ((moveOf c l head found v_is slot).ID)) c.ID ≥ 0)) = false) => ?_)
          · -- g11 is True
            have hr := ite_t g11 hr
            refine LOps.gd rfl rfl rfl (gd g11 rfl) rfl (LOp.fieldAddr rfl rfl ft26_0) ?_
            refine LOps.gd rfl rfl rfl (gd g11 rfl) rfl (LOp.load rfl rfl rfl vt24 rfl rfl) ?_
            refine LOps.gd rfl rfl rfl (gd g11 rfl) rfl (LOp.fieldAddr rfl rfl ft26_0) ?_
            refine LOps.gd rfl rfl rfl (gd g11 rfl) rfl (LOp.load rfl rfl rfl vt24 rfl rfl) ?_
            refine LOps.gd rfl rfl rfl (gd g11 rfl) rfl (LOp.neqAgg rfl rfl rfl rfl rfl eqt24) ?_
            refine LOps.gd rfl rfl rfl (gd g11 rfl) rfl (LOp.move rfl rfl) ?_
            refine LOps.cases 96 rfl (fun (g12 : (!(((((moveOf c l head found v_is slot).ID).1) == c.ID.1) && (((((moveOf c l head found v_is slot).ID).2) == c.ID.2) && true))) = true) => ?_) (fun (g12 : (!(((((moveOf c l head found v_is slot).ID).1) == c.ID.1) && (((((moveOf c l head found v_is slot).ID).2) == c.ID.2) && true))) = false) => ?_)
            · -- g12 is True
              have hr := ite_t g12 hr
              refine LOps.sk rfl rfl rfl (gd g12 rfl) rfl rfl ?_
              refine LOps.sk rfl rfl rfl (gd g12 rfl) rfl rfl ?_
              refine LOps.sk rfl rfl rfl (gd g12 rfl) rfl rfl ?_
              refine LOps.gd rfl rfl rfl (gd g11 rfl) rfl (LOp.pickT rfl (gdl g12 rfl) rfl) ?_
              refine LOps.gd rfl rfl rfl (gd g10 rfl) rfl (LOp.pickT rfl (gdl g11 rfl) rfl) ?_
              refine LOps.st rfl rfl rfl (LOp.pickF rfl (gdl g10 rfl) rfl) ?_
              refine LOps.st rfl rfl rfl (LOp.assign rfl rfl) ?_
              refine LOps.nil ?_
              refine thn_n ?_
              refine LW.ret ?_
              obtain rfl := Option.some.inj hr
              refine finP_ret (.one (.tmp rfl)) ?_
              exact Conv.p
            · -- g12 is False
              have hr := ite_f g12 hr
              refine LOps.gd rfl rfl rfl (gd g12 rfl) rfl (LOp.load rfl rfl rfl vt26 rfl rfl) ?_
              refine LOps.gd rfl rfl rfl (gd g12 rfl) rfl (LOp.load rfl rfl rfl vt26 rfl rfl) ?_
              refine LOps.gd rfl rfl rfl (gd g12 rfl) rfl (LOp.eqlAgg rfl rfl rfl rfl rfl eqt26) ?_
              refine LOps.gd rfl rfl rfl (gd g11 rfl) rfl (LOp.pickF rfl (gdl g12 rfl) rfl) ?_
              refine LOps.gd rfl rfl rfl (gd g10 rfl) rfl (LOp.pickT rfl (gdl g11 rfl) rfl) ?_
              refine LOps.st rfl rfl rfl (LOp.pickF rfl (gdl g10 rfl) rfl) ?_
              refine LOps.st rfl rfl rfl (LOp.assign rfl rfl) ?_
              refine LOps.nil ?_
              refine thn_n ?_
              refine LW.ret ?_
              obtain rfl := Option.some.inj hr
              refine finP_ret (.one (.tmp rfl)) ?_
              exact Conv.p
          · -- g11 is False
            have hr := ite_f g11 hr
            refine LOps.sk rfl rfl rfl (gd g11 rfl) rfl rfl ?_
            refine LOps.sk rfl rfl rfl (gd g11 rfl) rfl rfl ?_
            refine LOps.sk rfl rfl rfl (gd g11 rfl) rfl rfl ?_
            refine LOps.sk rfl rfl rfl (gd g11 rfl) rfl rfl ?_
            refine LOps.sk rfl rfl rfl (gd g11 rfl) rfl rfl ?_
            refine LOps.sk rfl rfl rfl (gd g11 rfl) rfl rfl ?_
            refine LOps.sku rfl rfl rfl rfl rfl ?_
            refine LOps.sku rfl rfl rfl rfl rfl ?_
            refine LOps.sku rfl rfl rfl rfl rfl ?_
            refine LOps.sk rfl rfl rfl (gd g11 rfl) rfl rfl ?_
            refine LOps.gd rfl rfl rfl (gd g10 rfl) rfl (LOp.pickF rfl (gdl g11 rfl) rfl) ?_
            refine LOps.st rfl rfl rfl (LOp.pickF rfl (gdl g10 rfl) rfl) ?_
            refine LOps.st rfl rfl rfl (LOp.assign rfl rfl) ?_
            refine LOps.nil ?_
            refine thn_n ?_
            refine LW.ret ?_
            obtain rfl := Option.some.inj hr
            refine finP_ret (.one (.tmp rfl)) ?_
            exact Conv.p

/-! marigold/marigoldlaw17.CursorStays -/

def F7 (c : Cu) (l : List Bk) (head : ID) (found : ID) (slot : Int) : Option Bool :=
  (F36 ).bind fun v1 =>
  (
    bif !v1 then
      some true
    else
      bif decide ((l.length : Int) > 40) then
        some true
      else
        bif few l then
          some (!(decide (indexOf (chainOf l head) c.ID ≥ 0)))
        else none
  ).bind fun v2 =>
  bif v2 then
    some v1
  else
    bif few l then
      bif !(((((moveOf c l head found false slot).ID).1) == c.ID.1) && (((((moveOf c l head found false slot).ID).2) == c.ID.2) && ((((moveOf c l head found false slot).Slot) == c.Slot) && ((((moveOf c l head found false slot).Revoked) == c.Revoked) && true)))) then
        some false
      else
        bif few l then
          (
            bif few l then
              bif !(decide (indexOf (chainOf l head) found ≥ 0)) then
                some true
              else
                bif few l then
                  some (decide (indexOf (chainOf l c.ID) found ≥ 0))
                else none
            else none
          ).bind fun v3 =>
          bif v3 then
            some (((((moveOf c l head found true slot).ID).1) == c.ID.1) && (((((moveOf c l head found true slot).ID).2) == c.ID.2) && ((((moveOf c l head found true slot).Slot) == c.Slot) && ((((moveOf c l head found true slot).Revoked) == c.Revoked) && true))))
          else
            bif (((((moveOf c l head found true slot).ID).1) == found.1) && (((((moveOf c l head found true slot).ID).2) == found.2) && true)) then
              bif ((moveOf c l head found true slot).Slot) == slot then
                some (((moveOf c l head found true slot).Revoked) == c.Revoked)
              else
                some false
            else
              some false
        else none
    else none

set_option maxRecDepth 100000 in
theorem c7 {c : Cu} {l : List Bk} {head : ID} {found : ID} {slot : Int} {r_ : Bool} (hr : F7 c l head found slot = some r_) : LPure Try.prog 7 [curP c, .slice 5 (l.map blkP), idP head, idP found, .int .i64 slot] [.bool r_] := by
  refine LPure.start Try.func7 rfl rfl rfl rfl ?_
  unfold F7 at hr
  refine LW.seq ?_
  refine LW.region ?_
  refine LOps.st rfl rfl rfl (LOp.box rfl rfl rfl rfl rfl) ?_
  refine LOps.st rfl rfl rfl (LOp.box rfl rfl rfl rfl rfl) ?_
  refine LOps.st rfl rfl rfl (LOp.box rfl rfl rfl rfl rfl) ?_
  refine LOps.st rfl rfl rfl (LOp.assign rfl rfl) ?_
  refine LOps.nil ?_
  refine thn_n ?_
  refine LW.seq ?_
  refine LW.region ?_
  obtain ⟨v1, h_v1, hr⟩ := bind_get hr
  refine LOps.st rfl rfl rfl (LOp.call rfl rfl rfl (by kernel_rfl) (LC.pure (c36 h_v1) .nil)) ?_
  refine LOps.st rfl rfl rfl (LOp.assign rfl rfl) ?_
  refine LOps.nil ?_
  refine thn_n ?_
  refine LW.seq ?_
  obtain ⟨v2, hb_v2, ho_v2⟩ := bind_get hr
  clear hr
  refine LW.cut (E := [(1, .p (.slice 5 (l.map blkP))), (4, .p (.int .i64 slot)), (5, .ptr 0 0), (7, .ptr 1 0), (8, .ptr 2 0), (10, .p (.bool false)), (11, .p (.bool v1)), (28, .p (.bool v2))]) (O := [.box [.p (.int .u64 c.ID.1), .p (.int .u64 c.ID.2), .p (.int .i64 c.Slot), .p (.int .i64 c.Revoked)], .box [.p (.int .u64 head.1), .p (.int .u64 head.2)], .box [.p (.int .u64 found.1), .p (.int .u64 found.2)]]) ?_ ?_
  · have hr := hb_v2
    refine LW.region ?_
    refine LOps.st rfl rfl rfl (LOp.move rfl rfl) ?_
    refine LOps.st rfl rfl rfl (LOp.not rfl rfl) ?_
    refine LOps.st rfl rfl rfl (LOp.move rfl rfl) ?_
    refine LOps.cases 16 rfl (fun (g1 : (!v1) = true) => ?_) (fun (g1 : (!v1) = false) => ?_)
    · -- g1 is True
      have hr := ite_t g1 hr
      refine LOps.sk rfl rfl rfl (gd g1 rfl) rfl rfl ?_
      refine LOps.sk rfl rfl rfl (gd g1 rfl) rfl rfl ?_
      refine LOps.sk rfl rfl rfl (gd g1 rfl) rfl rfl ?_
      refine LOps.st rfl rfl rfl (LOp.pickT rfl (gdl g1 rfl) rfl) ?_
      refine LOps.st rfl rfl rfl (LOp.move rfl rfl) ?_
      refine LOps.sk rfl rfl rfl rfl rfl rfl ?_
      refine LOps.sk rfl rfl rfl rfl rfl rfl ?_
      refine LOps.sk rfl rfl rfl rfl rfl rfl ?_
      refine LOps.sk rfl rfl rfl rfl rfl rfl ?_
      refine LOps.sk rfl rfl rfl rfl rfl rfl ?_
      refine LOps.sk rfl rfl rfl rfl rfl rfl ?_
      refine LOps.st rfl rfl rfl (LOp.pickT rfl rfl rfl) ?_
      refine LOps.nil ?_
      refine thn_n ?_
      obtain rfl := Option.some.inj hr
      exact Weak.of 3 ⟨rfl, rfl, rfl, rfl, rfl, rfl, rfl, rfl, trivial⟩ rfl rfl rfl rfl
    · -- g1 is False
      have hr := ite_f g1 hr
      refine LOps.gd rfl rfl rfl (gd g1 rfl) rfl (LOp.move rfl rfl) ?_
      refine LOps.gd rfl rfl rfl (gd g1 rfl) rfl (LOp.lenM rfl rfl (by kernel_rfl)) ?_
      refine LOps.gd rfl rfl rfl (gd g1 rfl) rfl (LOp.bin rfl rfl rfl rfl) ?_
      refine LOps.st rfl rfl rfl (LOp.pickF rfl (gdl g1 rfl) rfl) ?_
      refine LOps.st rfl rfl rfl (LOp.move rfl rfl) ?_
      refine LOps.cases 21 rfl (fun (g2 : (decide ((l.length : Int) > 40)) = true) => ?_) (fun (g2 : (decide ((l.length : Int) > 40)) = false) => ?_)
      · -- g2 is True
        have hr := ite_t g2 hr
        refine LOps.sk rfl rfl rfl (gd g2 rfl) rfl rfl ?_
        refine LOps.sk rfl rfl rfl (gd g2 rfl) rfl rfl ?_
        refine LOps.sk rfl rfl rfl (gd g2 rfl) rfl rfl ?_
        refine LOps.sk rfl rfl rfl (gd g2 rfl) rfl rfl ?_
        refine LOps.sk rfl rfl rfl (gd g2 rfl) rfl rfl ?_
        refine LOps.sk rfl rfl rfl (gd g2 rfl) rfl rfl ?_
        refine LOps.st rfl rfl rfl (LOp.pickT rfl (gdl g2 rfl) rfl) ?_
        refine LOps.nil ?_
        refine thn_n ?_
        obtain rfl := Option.some.inj hr
        exact Weak.of 3 ⟨rfl, rfl, rfl, rfl, rfl, rfl, rfl, rfl, trivial⟩ rfl rfl rfl rfl
      · -- g2 is False
        have hr := ite_f g2 hr
        refine LOps.gd rfl rfl rfl (gd g2 rfl) rfl (LOp.move rfl rfl) ?_
        refine LOps.gd rfl rfl rfl (gd g2 rfl) rfl (LOp.fieldAddr rfl rfl ft26_0) ?_
        refine LOps.gd rfl rfl rfl (gd g2 rfl) rfl (LOp.load rfl rfl rfl vt24 rfl rfl) ?_
        refine LOps.gd rfl rfl rfl (gd g2 rfl) rfl (LOp.load rfl rfl rfl vt24 rfl rfl) ?_
        obtain ⟨q1, hr⟩ := grd_get hr
        refine LOps.gd rfl rfl rfl (gd g2 rfl) rfl (LOp.call rfl rfl rfl (by kernel_rfl) (LC.pure (c40 (l := l) (a := c.ID) (b := head) (few_le q1)) (.cons Conv.p (.cons Conv.p (.cons Conv.p .nil))))) ?_
        refine LOps.gd rfl rfl rfl (gd g2 rfl) rfl (LOp.not rfl rfl) ?_
        refine LOps.st rfl rfl rfl (LOp.pickF rfl (gdl g2 rfl) rfl) ?_
        refine LOps.nil ?_
        refine thn_n ?_
        obtain rfl := Option.some.inj hr
        exact Weak.of 3 ⟨rfl, rfl, rfl, rfl, rfl, rfl, rfl, rfl, trivial⟩ rfl rfl rfl rfl
  · have hr := ho_v2
    clear hb_v2
    refine LW.cond rfl (fun (g3 : v2 = true) => ?_) (fun (g3 : v2 = false) => ?_)
    · -- g3 is True
      have hr := ite_t g3 hr
      refine LW.seq ?_
      refine LW.region ?_
      refine LOps.st rfl rfl rfl (LOp.move rfl rfl) ?_
      refine LOps.st rfl rfl rfl (LOp.assign rfl rfl) ?_
      refine LOps.nil ?_
      refine thn_n ?_
      refine LW.ret ?_
      refine thn_r ?_
      obtain rfl := Option.some.inj hr
      refine finP_ret (.one (.tmp rfl)) ?_
      exact Conv.p
    · -- g3 is False
      have hr := ite_f g3 hr
      refine LW.skip ?_
      refine thn_n ?_
      refine LW.seq ?_
      refine LW.seq ?_
      refine LW.draw (by kernel_rfl) (by kernel_rfl) ?_
      refine LO.st rfl rfl rfl (LOp.load rfl rfl rfl vt26 rfl rfl) ?_
      refine LO.st rfl rfl rfl (LOp.move rfl rfl) ?_
      refine LO.st rfl rfl rfl (LOp.load rfl rfl rfl vt24 rfl rfl) ?_
      refine LO.st rfl rfl rfl (LOp.load rfl rfl rfl vt24 rfl rfl) ?_
      refine LO.st rfl rfl rfl (LOp.move rfl rfl) ?_
      obtain ⟨q2, hr⟩ := grd_get hr
      refine LO.st rfl rfl rfl (LOp.call rfl rfl rfl (by kernel_rfl) (LC.pure (c37 (c := c) (l := l) (head := head) (found := found) (is := false) (slot := slot) (few_le q2)) (.cons Conv.p (.cons Conv.p (.cons Conv.p (.cons Conv.p (.cons Conv.p (.cons Conv.p .nil)))))))) ?_
      refine LO.st rfl rfl rfl (LOp.load rfl rfl rfl vt26 rfl rfl) ?_
      refine LO.st rfl rfl rfl (LOp.neqAgg rfl rfl rfl rfl rfl eqt26) ?_
      refine LO.nil ?_
      refine thn_n ?_
      refine LW.cond rfl (fun (g4 : (!(((((moveOf c l head found false slot).ID).1) == c.ID.1) && (((((moveOf c l head found false slot).ID).2) == c.ID.2) && ((((moveOf c l head found false slot).Slot) == c.Slot) && ((((moveOf c l head found false slot).Revoked) == c.Revoked) && true))))) = true) => ?_) (fun (g4 : (!(((((moveOf c l head found false slot).ID).1) == c.ID.1) && (((((moveOf c l head found false slot).ID).2) == c.ID.2) && ((((moveOf c l head found false slot).Slot) == c.Slot) && ((((moveOf c l head found false slot).Revoked) == c.Revoked) && true))))) = false) => ?_)
      · -- g4 is True
        have hr := ite_t g4 hr
        refine LW.seq ?_
        refine LW.region ?_
        refine LOps.st rfl rfl rfl (LOp.assign rfl rfl) ?_
        refine LOps.nil ?_
        refine thn_n ?_
        refine LW.ret ?_
        refine thn_r ?_
        obtain rfl := Option.some.inj hr
        refine finP_ret (.one (.tmp rfl)) ?_
        exact Conv.p
      · -- g4 is False
        have hr := ite_f g4 hr
        refine LW.skip ?_
        refine thn_n ?_
        refine LW.seq ?_
        refine LW.region ?_
        refine LOps.st rfl rfl rfl (LOp.load rfl rfl rfl vt26 rfl rfl) ?_
        refine LOps.st rfl rfl rfl (LOp.move rfl rfl) ?_
        refine LOps.st rfl rfl rfl (LOp.load rfl rfl rfl vt24 rfl rfl) ?_
        refine LOps.st rfl rfl rfl (LOp.load rfl rfl rfl vt24 rfl rfl) ?_
        refine LOps.st rfl rfl rfl (LOp.move rfl rfl) ?_
        obtain ⟨q3, hr⟩ := grd_get hr
        refine LOps.st rfl rfl rfl (LOp.call rfl rfl rfl (by kernel_rfl) (LC.pure (c37 (c := c) (l := l) (head := head) (found := found) (is := true) (slot := slot) (few_le q3)) (.cons Conv.p (.cons Conv.p (.cons Conv.p (.cons Conv.p (.cons Conv.p (.cons Conv.p .nil)))))))) ?_
        refine LOps.st rfl rfl rfl (LOp.alloc rfl zt26 rfl rfl) ?_
        refine LOps.st rfl rfl rfl (LOp.store rfl rfl rfl rfl vt26 rfl rfl rfl rfl) ?_
        refine LOps.nil ?_
        refine thn_n ?_
        refine LW.seq ?_
        obtain ⟨v3, hb_v3, ho_v3⟩ := bind_get hr
        clear hr
        refine LW.cut (E := [(4, .p (.int .i64 slot)), (5, .ptr 0 0), (8, .ptr 2 0), (10, .p (.bool false)), (12, .ptr 3 0), (55, .p (.bool v3))]) (O := [.box [.p (.int .u64 c.ID.1), .p (.int .u64 c.ID.2), .p (.int .i64 c.Slot), .p (.int .i64 c.Revoked)], .box [.p (.int .u64 head.1), .p (.int .u64 head.2)], .box [.p (.int .u64 found.1), .p (.int .u64 found.2)], .box [.p (.int .u64 (((moveOf c l head found true slot).ID).1)), .p (.int .u64 (((moveOf c l head found true slot).ID).2)), .p (.int .i64 ((moveOf c l head found true slot).Slot)), .p (.int .i64 ((moveOf c l head found true slot).Revoked))]]) ?_ ?_
        · have hr := hb_v3
          refine LW.region ?_
          refine LOps.st rfl rfl rfl (LOp.move rfl rfl) ?_
          refine LOps.st rfl rfl rfl (LOp.load rfl rfl rfl vt24 rfl rfl) ?_
          refine LOps.st rfl rfl rfl (LOp.load rfl rfl rfl vt24 rfl rfl) ?_
          obtain ⟨q4, hr⟩ := grd_get hr
          refine LOps.st rfl rfl rfl (LOp.call rfl rfl rfl (by kernel_rfl) (LC.pure (c40 (l := l) (a := found) (b := head) (few_le q4)) (.cons Conv.p (.cons Conv.p (.cons Conv.p .nil))))) ?_
          refine LOps.st rfl rfl rfl (LOp.not rfl rfl) ?_
          refine LOps.st rfl rfl rfl (LOp.move rfl rfl) ?_
          refine LOps.cases 49 rfl (fun (g5 : (!(decide (indexOf (chainOf l head) found ≥ 0))) = true) => ?_) (fun (g5 : (!(decide (indexOf (chainOf l head) found ≥ 0))) = false) => ?_)
          · -- g5 is True
            have hr := ite_t g5 hr
            refine LOps.sk rfl rfl rfl (gd g5 rfl) rfl rfl ?_
            refine LOps.sk rfl rfl rfl (gd g5 rfl) rfl rfl ?_
            refine LOps.sk rfl rfl rfl (gd g5 rfl) rfl rfl ?_
            refine LOps.sk rfl rfl rfl (gd g5 rfl) rfl rfl ?_
            refine LOps.sk rfl rfl rfl (gd g5 rfl) rfl rfl ?_
            refine LOps.st rfl rfl rfl (LOp.pickT rfl (gdl g5 rfl) rfl) ?_
            refine LOps.nil ?_
            refine thn_n ?_
            obtain rfl := Option.some.inj hr
            exact Weak.of 4 ⟨rfl, rfl, rfl, rfl, rfl, rfl, trivial⟩ rfl rfl rfl rfl
          · -- g5 is False
            have hr := ite_f g5 hr
            refine LOps.gd rfl rfl rfl (gd g5 rfl) rfl (LOp.move rfl rfl) ?_
            refine LOps.gd rfl rfl rfl (gd g5 rfl) rfl (LOp.load rfl rfl rfl vt24 rfl rfl) ?_
            refine LOps.gd rfl rfl rfl (gd g5 rfl) rfl (LOp.fieldAddr rfl rfl ft26_0) ?_
            refine LOps.gd rfl rfl rfl (gd g5 rfl) rfl (LOp.load rfl rfl rfl vt24 rfl rfl) ?_
            obtain ⟨q5, hr⟩ := grd_get hr
            refine LOps.gd rfl rfl rfl (gd g5 rfl) rfl (LOp.call rfl rfl rfl (by kernel_rfl) (LC.pure (c40 (l := l) (a := found) (b := c.ID) (few_le q5)) (.cons Conv.p (.cons Conv.p (.cons Conv.p .nil))))) ?_
            refine LOps.st rfl rfl rfl (LOp.pickF rfl (gdl g5 rfl) rfl) ?_
            refine LOps.nil ?_
            refine thn_n ?_
            obtain rfl := Option.some.inj hr
            exact Weak.of 4 ⟨rfl, rfl, rfl, rfl, rfl, rfl, trivial⟩ rfl rfl rfl rfl
        · have hr := ho_v3
          clear hb_v3
          refine LW.cond rfl (fun (g6 : v3 = true) => ?_) (fun (g6 : v3 = false) => ?_)
          · -- g6 is True
            have hr := ite_t g6 hr
            refine LW.seq ?_
            refine LW.region ?_
            refine LOps.st rfl rfl rfl (LOp.load rfl rfl rfl vt26 rfl rfl) ?_
            refine LOps.st rfl rfl rfl (LOp.load rfl rfl rfl vt26 rfl rfl) ?_
            refine LOps.st rfl rfl rfl (LOp.eqlAgg rfl rfl rfl rfl rfl eqt26) ?_
            refine LOps.st rfl rfl rfl (LOp.assign rfl rfl) ?_
            refine LOps.nil ?_
            refine thn_n ?_
            refine LW.ret ?_
            refine thn_r ?_
            obtain rfl := Option.some.inj hr
            refine finP_ret (.one (.tmp rfl)) ?_
            exact Conv.p
          · -- g6 is False
            have hr := ite_f g6 hr
            refine LW.skip ?_
            refine thn_n ?_
            refine LW.seq ?_
            refine LW.region ?_
            refine LOps.st rfl rfl rfl (LOp.fieldAddr rfl rfl ft26_0) ?_
            refine LOps.st rfl rfl rfl (LOp.load rfl rfl rfl vt24 rfl rfl) ?_
            refine LOps.st rfl rfl rfl (LOp.load rfl rfl rfl vt24 rfl rfl) ?_
            refine LOps.st rfl rfl rfl (LOp.eqlAgg rfl rfl rfl rfl rfl eqt24) ?_
            refine LOps.st rfl rfl rfl (LOp.move rfl rfl) ?_
            refine LOps.cases 63 rfl (fun (g7 : (((((moveOf c l head found true slot).ID).1) == found.1) && (((((moveOf c l head found true slot).ID).2) == found.2) && true)) = true) => ?_) (fun (g7 : (((((moveOf c l head found true slot).ID).1) == found.1) && (((((moveOf c l head found true slot).ID).2) == found.2) && true)) = false) => ?_)
            · -- g7 is True
              have hr := ite_t g7 hr
              refine LOps.gd rfl rfl rfl (gd g7 rfl) rfl (LOp.fieldAddr rfl rfl ft26_1) ?_
              refine LOps.gd rfl rfl rfl (gd g7 rfl) rfl (LOp.load rfl rfl rfl vt3 rfl rfl) ?_
              refine LOps.gd rfl rfl rfl (gd g7 rfl) rfl (LOp.move rfl rfl) ?_
              refine LOps.gd rfl rfl rfl (gd g7 rfl) rfl (LOp.bin rfl rfl rfl rfl) ?_
              refine LOps.st rfl rfl rfl (LOp.pickT rfl (gdl g7 rfl) rfl) ?_
              refine LOps.st rfl rfl rfl (LOp.move rfl rfl) ?_
              refine LOps.cases 69 rfl (fun (g8 : (((moveOf c l head found true slot).Slot) == slot) = true) => ?_) (fun (g8 : (((moveOf c l head found true slot).Slot) == slot) = false) => ?_)
              · -- g8 is True
                have hr := ite_t g8 hr
                refine LOps.gd rfl rfl rfl (gd g8 rfl) rfl (LOp.fieldAddr rfl rfl ft26_2) ?_
                refine LOps.gd rfl rfl rfl (gd g8 rfl) rfl (LOp.load rfl rfl rfl vt3 rfl rfl) ?_
                refine LOps.gd rfl rfl rfl (gd g8 rfl) rfl (LOp.fieldAddr rfl rfl ft26_2) ?_
                refine LOps.gd rfl rfl rfl (gd g8 rfl) rfl (LOp.load rfl rfl rfl vt3 rfl rfl) ?_
                refine LOps.gd rfl rfl rfl (gd g8 rfl) rfl (LOp.bin rfl rfl rfl rfl) ?_
                refine LOps.st rfl rfl rfl (LOp.pickT rfl (gdl g8 rfl) rfl) ?_
                refine LOps.st rfl rfl rfl (LOp.assign rfl rfl) ?_
                refine LOps.nil ?_
                refine thn_n ?_
                refine LW.ret ?_
                obtain rfl := Option.some.inj hr
                refine finP_ret (.one (.tmp rfl)) ?_
                exact Conv.p
              · -- g8 is False
                have hr := ite_f g8 hr
                refine LOps.sk rfl rfl rfl (gd g8 rfl) rfl rfl ?_
                refine LOps.sk rfl rfl rfl (gd g8 rfl) rfl rfl ?_
                refine LOps.sk rfl rfl rfl (gd g8 rfl) rfl rfl ?_
                refine LOps.sk rfl rfl rfl (gd g8 rfl) rfl rfl ?_
                refine LOps.sk rfl rfl rfl (gd g8 rfl) rfl rfl ?_
                refine LOps.st rfl rfl rfl (LOp.pickF rfl (gdl g8 rfl) rfl) ?_
                refine LOps.st rfl rfl rfl (LOp.assign rfl rfl) ?_
                refine LOps.nil ?_
                refine thn_n ?_
                refine LW.ret ?_
                obtain rfl := Option.some.inj hr
                refine finP_ret (.one (.tmp rfl)) ?_
                exact Conv.p
            · -- g7 is False
              have hr := ite_f g7 hr
              refine LOps.sk rfl rfl rfl (gd g7 rfl) rfl rfl ?_
              refine LOps.sk rfl rfl rfl (gd g7 rfl) rfl rfl ?_
              refine LOps.sk rfl rfl rfl (gd g7 rfl) rfl rfl ?_
              refine LOps.sk rfl rfl rfl (gd g7 rfl) rfl rfl ?_
              refine LOps.st rfl rfl rfl (LOp.pickF rfl (gdl g7 rfl) rfl) ?_
              refine LOps.st rfl rfl rfl (LOp.move rfl rfl) ?_
              refine LOps.sk rfl rfl rfl rfl rfl rfl ?_
              refine LOps.sk rfl rfl rfl rfl rfl rfl ?_
              refine LOps.sk rfl rfl rfl rfl rfl rfl ?_
              refine LOps.sk rfl rfl rfl rfl rfl rfl ?_
              refine LOps.sk rfl rfl rfl rfl rfl rfl ?_
              refine LOps.st rfl rfl rfl (LOp.pickF rfl rfl rfl) ?_
              refine LOps.st rfl rfl rfl (LOp.assign rfl rfl) ?_
              refine LOps.nil ?_
              refine thn_n ?_
              refine LW.ret ?_
              obtain rfl := Option.some.inj hr
              refine finP_ret (.one (.tmp rfl)) ?_
              exact Conv.p

/-! marigold/marigoldlaw17.CursorLine -/
structure F8_L1 where
  i : Int
  c : Cu

def F8_s1 (c : Cu) (l : List Bk) (heads : List ID) (found : List ID) (x1 : F8_L1) : Option (F8_L1 ⊕ (F8_L1 ⊕ Bool)) :=
  bif decide (x1.i < (heads.length : Int)) then
    (
      bif decide (x1.i > 0) then
        (ix heads (IntKind.i64.wrap (x1.i - 1))).bind fun y2 =>
        (ix heads x1.i).bind fun y3 =>
        bif few l then
          bif !(decide (indexOf (chainOf l y3) y2 ≥ 0)) then
            some (.inr (.inr (.inr true)))
          else
            some (.inl ())
        else none
      else
        some (.inl ())
    ).bind fun b_v4 => Sum.elim (fun v4 =>
      (
        bif decide (x1.i < (found.length : Int)) then
          (ix found x1.i).bind fun y4 =>
          some y4
        else
          some (0, 0)
      ).bind fun v5 =>
      (ix heads x1.i).bind fun y5 =>
      bif few l then
        bif ((moveOf x1.c l y5 v5 (decide (x1.i < (found.length : Int))) x1.i).Revoked) != c.Revoked then
          some (.inr (.inr false))
        else
          (ix heads x1.i).bind fun y6 =>
          bif few l then
            bif !(decide (indexOf (chainOf l y6) ((moveOf x1.c l y5 v5 (decide (x1.i < (found.length : Int))) x1.i).ID) ≥ 0)) then
              some (.inr (.inr false))
            else
              some (.inl (F8_L1.mk (IntKind.i64.wrap (x1.i + 1)) (moveOf x1.c l y5 v5 (decide (x1.i < (found.length : Int))) x1.i)))
          else none
      else none) some b_v4
  else
    some (.inr (.inl (F8_L1.mk x1.i x1.c)))
def F8 (c : Cu) (l : List Bk) (heads : List ID) (found : List ID) : Option Bool :=
  (F36 ).bind fun v1 =>
  (
    bif !v1 then
      some true
    else
      bif decide ((l.length : Int) > 40) then
        some true
      else
        bif decide ((heads.length : Int) > 20) then
          some true
        else
          bif (heads.length : Int) == 0 then
            some true
          else
            (ix heads 0).bind fun y1 =>
            bif few l then
              some (!(decide (indexOf (chainOf l y1) c.ID ≥ 0)))
            else none
  ).bind fun v2 =>
  bif v2 then
    some v1
  else
    (iter (F8_s1 c l heads found) big (F8_L1.mk 0 c)).bind fun b_v3 => Sum.elim (fun v3 =>
      some true) some b_v3

set_option maxRecDepth 100000 in
theorem c8 {c : Cu} {l : List Bk} {heads : List ID} {found : List ID} {r_ : Bool} (hr : F8 c l heads found = some r_) : LPure Try.prog 8 [curP c, .slice 5 (l.map blkP), .slice 2 (heads.map idP), .slice 2 (found.map idP)] [.bool r_] := by
  refine LPure.start Try.func8 rfl rfl rfl rfl ?_
  unfold F8 at hr
  refine LW.seq ?_
  refine LW.region ?_
  refine LOps.st rfl rfl rfl (LOp.box rfl rfl rfl rfl rfl) ?_
  refine LOps.st rfl rfl rfl (LOp.assign rfl rfl) ?_
  refine LOps.nil ?_
  refine thn_n ?_
  refine LW.seq ?_
  refine LW.region ?_
  obtain ⟨v1, h_v1, hr⟩ := bind_get hr
  refine LOps.st rfl rfl rfl (LOp.call rfl rfl rfl (by kernel_rfl) (LC.pure (c36 h_v1) .nil)) ?_
  refine LOps.st rfl rfl rfl (LOp.assign rfl rfl) ?_
  refine LOps.nil ?_
  refine thn_n ?_
  refine LW.seq ?_
  obtain ⟨v2, hb_v2, ho_v2⟩ := bind_get hr
  clear hr
  refine LW.cut (E := [(1, .p (.slice 5 (l.map blkP))), (2, .p (.slice 2 (heads.map idP))), (3, .p (.slice 2 (found.map idP))), (4, .ptr 0 0), (8, .p (.bool false)), (9, .p (.bool v1)), (40, .p (.bool v2))]) (O := [.box [.p (.int .u64 c.ID.1), .p (.int .u64 c.ID.2), .p (.int .i64 c.Slot), .p (.int .i64 c.Revoked)]]) ?_ ?_
  · have hr := hb_v2
    refine LW.draw (by kernel_rfl) (by kernel_rfl) ?_
    refine LO.st rfl rfl rfl (LOp.move rfl rfl) ?_
    refine LO.st rfl rfl rfl (LOp.not rfl rfl) ?_
    refine LO.st rfl rfl rfl (LOp.move rfl rfl) ?_
    refine LO.cases 16 rfl (fun (g1 : (!v1) = true) => ?_) (fun (g1 : (!v1) = false) => ?_)
    · -- g1 is True
      have hr := ite_t g1 hr
      refine LO.sk rfl rfl rfl (gd g1 rfl) rfl rfl ?_
      refine LO.sk rfl rfl rfl (gd g1 rfl) rfl rfl ?_
      refine LO.sk rfl rfl rfl (gd g1 rfl) rfl rfl ?_
      refine LO.st rfl rfl rfl (LOp.pickT rfl (gdl g1 rfl) rfl) ?_
      refine LO.st rfl rfl rfl (LOp.move rfl rfl) ?_
      refine LO.sk rfl rfl rfl rfl rfl rfl ?_
      refine LO.sk rfl rfl rfl rfl rfl rfl ?_
      refine LO.sk rfl rfl rfl rfl rfl rfl ?_
      refine LO.st rfl rfl rfl (LOp.pickT rfl rfl rfl) ?_
      refine LO.st rfl rfl rfl (LOp.move rfl rfl) ?_
      refine LO.sk rfl rfl rfl rfl rfl rfl ?_
      refine LO.sk rfl rfl rfl rfl rfl rfl ?_
      refine LO.sk rfl rfl rfl rfl rfl rfl ?_
      refine LO.st rfl rfl rfl (LOp.pickT rfl rfl rfl) ?_
      refine LO.st rfl rfl rfl (LOp.move rfl rfl) ?_
      refine LO.sk rfl rfl rfl rfl rfl rfl ?_
      refine LO.sk rfl rfl rfl rfl rfl rfl ?_
      refine LO.sk rfl rfl rfl rfl rfl rfl ?_
      refine LO.sk rfl rfl rfl rfl rfl rfl ?_
      refine LO.sk rfl rfl rfl rfl rfl rfl ?_
      refine LO.sk rfl rfl rfl rfl rfl rfl ?_
      refine LO.sk rfl rfl rfl rfl rfl rfl ?_
      refine LO.sk rfl rfl rfl rfl rfl rfl ?_
      refine LO.st rfl rfl rfl (LOp.pickT rfl rfl rfl) ?_
      refine LO.nil ?_
      refine thn_n ?_
      obtain rfl := Option.some.inj hr
      exact Weak.of 1 ⟨rfl, rfl, rfl, rfl, rfl, rfl, rfl, trivial⟩ rfl rfl rfl rfl
    · -- g1 is False
      have hr := ite_f g1 hr
      refine LO.gd rfl rfl rfl (gd g1 rfl) rfl (LOp.move rfl rfl) ?_
      refine LO.gd rfl rfl rfl (gd g1 rfl) rfl (LOp.lenM rfl rfl (by kernel_rfl)) ?_
      refine LO.gd rfl rfl rfl (gd g1 rfl) rfl (LOp.bin rfl rfl rfl rfl) ?_
      refine LO.st rfl rfl rfl (LOp.pickF rfl (gdl g1 rfl) rfl) ?_
      refine LO.st rfl rfl rfl (LOp.move rfl rfl) ?_
      refine LO.cases 21 rfl (fun (g2 : (decide ((l.length : Int) > 40)) = true) => ?_) (fun (g2 : (decide ((l.length : Int) > 40)) = false) => ?_)
      · -- g2 is True
        have hr := ite_t g2 hr
        refine LO.sk rfl rfl rfl (gd g2 rfl) rfl rfl ?_
        refine LO.sk rfl rfl rfl (gd g2 rfl) rfl rfl ?_
        refine LO.sk rfl rfl rfl (gd g2 rfl) rfl rfl ?_
        refine LO.st rfl rfl rfl (LOp.pickT rfl (gdl g2 rfl) rfl) ?_
        refine LO.st rfl rfl rfl (LOp.move rfl rfl) ?_
        refine LO.sk rfl rfl rfl rfl rfl rfl ?_
        refine LO.sk rfl rfl rfl rfl rfl rfl ?_
        refine LO.sk rfl rfl rfl rfl rfl rfl ?_
        refine LO.st rfl rfl rfl (LOp.pickT rfl rfl rfl) ?_
        refine LO.st rfl rfl rfl (LOp.move rfl rfl) ?_
        refine LO.sk rfl rfl rfl rfl rfl rfl ?_
        refine LO.sk rfl rfl rfl rfl rfl rfl ?_
        refine LO.sk rfl rfl rfl rfl rfl rfl ?_
        refine LO.sk rfl rfl rfl rfl rfl rfl ?_
        refine LO.sk rfl rfl rfl rfl rfl rfl ?_
        refine LO.sk rfl rfl rfl rfl rfl rfl ?_
        refine LO.sk rfl rfl rfl rfl rfl rfl ?_
        refine LO.sk rfl rfl rfl rfl rfl rfl ?_
        refine LO.st rfl rfl rfl (LOp.pickT rfl rfl rfl) ?_
        refine LO.nil ?_
        refine thn_n ?_
        obtain rfl := Option.some.inj hr
        exact Weak.of 1 ⟨rfl, rfl, rfl, rfl, rfl, rfl, rfl, trivial⟩ rfl rfl rfl rfl
      · -- g2 is False
        have hr := ite_f g2 hr
        refine LO.gd rfl rfl rfl (gd g2 rfl) rfl (LOp.move rfl rfl) ?_
        refine LO.gd rfl rfl rfl (gd g2 rfl) rfl (LOp.lenM rfl rfl (by kernel_rfl)) ?_
        refine LO.gd rfl rfl rfl (gd g2 rfl) rfl (LOp.bin rfl rfl rfl rfl) ?_
        refine LO.st rfl rfl rfl (LOp.pickF rfl (gdl g2 rfl) rfl) ?_
        refine LO.st rfl rfl rfl (LOp.move rfl rfl) ?_
        refine LO.cases 26 rfl (fun (g3 : (decide ((heads.length : Int) > 20)) = true) => ?_) (fun (g3 : (decide ((heads.length : Int) > 20)) = false) => ?_)
        · -- g3 is True
          have hr := ite_t g3 hr
          refine LO.sk rfl rfl rfl (gd g3 rfl) rfl rfl ?_
          refine LO.sk rfl rfl rfl (gd g3 rfl) rfl rfl ?_
          refine LO.sk rfl rfl rfl (gd g3 rfl) rfl rfl ?_
          refine LO.st rfl rfl rfl (LOp.pickT rfl (gdl g3 rfl) rfl) ?_
          refine LO.st rfl rfl rfl (LOp.move rfl rfl) ?_
          refine LO.sk rfl rfl rfl rfl rfl rfl ?_
          refine LO.sk rfl rfl rfl rfl rfl rfl ?_
          refine LO.sk rfl rfl rfl rfl rfl rfl ?_
          refine LO.sk rfl rfl rfl rfl rfl rfl ?_
          refine LO.sk rfl rfl rfl rfl rfl rfl ?_
          refine LO.sk rfl rfl rfl rfl rfl rfl ?_
          refine LO.sk rfl rfl rfl rfl rfl rfl ?_
          refine LO.sk rfl rfl rfl rfl rfl rfl ?_
          refine LO.st rfl rfl rfl (LOp.pickT rfl rfl rfl) ?_
          refine LO.nil ?_
          refine thn_n ?_
          obtain rfl := Option.some.inj hr
          exact Weak.of 1 ⟨rfl, rfl, rfl, rfl, rfl, rfl, rfl, trivial⟩ rfl rfl rfl rfl
        · -- g3 is False
          have hr := ite_f g3 hr
          refine LO.gd rfl rfl rfl (gd g3 rfl) rfl (LOp.move rfl rfl) ?_
          refine LO.gd rfl rfl rfl (gd g3 rfl) rfl (LOp.lenM rfl rfl (by kernel_rfl)) ?_
          refine LO.gd rfl rfl rfl (gd g3 rfl) rfl (LOp.bin rfl rfl rfl rfl) ?_
          refine LO.st rfl rfl rfl (LOp.pickF rfl (gdl g3 rfl) rfl) ?_
          refine LO.st rfl rfl rfl (LOp.move rfl rfl) ?_
          refine LO.cases 31 rfl (fun (g4 : ((heads.length : Int) == 0) = true) => ?_) (fun (g4 : ((heads.length : Int) == 0) = false) => ?_)
          · -- g4 is True
            have hr := ite_t g4 hr
            refine LO.sk rfl rfl rfl (gd g4 rfl) rfl rfl ?_
            refine LO.sk rfl rfl rfl (gd g4 rfl) rfl rfl ?_
            refine LO.sk rfl rfl rfl (gd g4 rfl) rfl rfl ?_
            refine LO.sk rfl rfl rfl (gd g4 rfl) rfl rfl ?_
            refine LO.sk rfl rfl rfl (gd g4 rfl) rfl rfl ?_
            refine LO.sk rfl rfl rfl (gd g4 rfl) rfl rfl ?_
            refine LO.sk rfl rfl rfl (gd g4 rfl) rfl rfl ?_
            refine LO.sk rfl rfl rfl (gd g4 rfl) rfl rfl ?_
            refine LO.st rfl rfl rfl (LOp.pickT rfl (gdl g4 rfl) rfl) ?_
            refine LO.nil ?_
            refine thn_n ?_
            obtain rfl := Option.some.inj hr
            exact Weak.of 1 ⟨rfl, rfl, rfl, rfl, rfl, rfl, rfl, trivial⟩ rfl rfl rfl rfl
          · -- g4 is False
            have hr := ite_f g4 hr
            refine LO.gd rfl rfl rfl (gd g4 rfl) rfl (LOp.move rfl rfl) ?_
            refine LO.gd rfl rfl rfl (gd g4 rfl) rfl (LOp.fieldAddr rfl rfl ft26_0) ?_
            refine LO.gd rfl rfl rfl (gd g4 rfl) rfl (LOp.load rfl rfl rfl vt24 rfl rfl) ?_
            refine LO.gd rfl rfl rfl (gd g4 rfl) rfl (LOp.move rfl rfl) ?_
            obtain ⟨y1, h_y1, hr⟩ := bind_get hr
            refine LO.gd rfl rfl rfl (gd g4 rfl) rfl (LOp.indexAddrX rfl rfl rfl st31 h_y1 rfl) ?_
            refine LO.gd rfl rfl rfl (gd g4 rfl) rfl (LOp.loadC rfl rfl rfl vt24 rfl rfl) ?_
            obtain ⟨q1, hr⟩ := grd_get hr
            refine LO.gd rfl rfl rfl (gd g4 rfl) rfl (LOp.call rfl rfl rfl (by kernel_rfl) (LC.pure (c40 (l := l) (a := c.ID) (b := y1) (few_le q1)) (.cons Conv.p (.cons Conv.p (.cons Conv.p .nil))))) ?_
            refine LO.gd rfl rfl rfl (gd g4 rfl) rfl (LOp.not rfl rfl) ?_
            refine LO.st rfl rfl rfl (LOp.pickF rfl (gdl g4 rfl) rfl) ?_
            refine LO.nil ?_
            refine thn_n ?_
            obtain rfl := Option.some.inj hr
            exact Weak.of 1 ⟨rfl, rfl, rfl, rfl, rfl, rfl, rfl, trivial⟩ rfl rfl rfl rfl
  · have hr := ho_v2
    clear hb_v2
    refine LW.cond rfl (fun (g5 : v2 = true) => ?_) (fun (g5 : v2 = false) => ?_)
    · -- g5 is True
      have hr := ite_t g5 hr
      refine LW.seq ?_
      refine LW.region ?_
      refine LOps.st rfl rfl rfl (LOp.move rfl rfl) ?_
      refine LOps.st rfl rfl rfl (LOp.assign rfl rfl) ?_
      refine LOps.nil ?_
      refine thn_n ?_
      refine LW.ret ?_
      refine thn_r ?_
      obtain rfl := Option.some.inj hr
      refine finP_ret (.one (.tmp rfl)) ?_
      exact Conv.p
    · -- g5 is False
      have hr := ite_f g5 hr
      refine LW.skip ?_
      refine thn_n ?_
      refine LW.seq ?_
      refine LW.region ?_
      refine LOps.st rfl rfl rfl (LOp.fieldAddr rfl rfl ft26_2) ?_
      refine LOps.st rfl rfl rfl (LOp.load rfl rfl rfl vt3 rfl rfl) ?_
      refine LOps.st rfl rfl rfl (LOp.assign rfl rfl) ?_
      refine LOps.nil ?_
      refine thn_n ?_
      refine LW.seq ?_
      refine LW.seq ?_
      refine LW.region ?_
      refine LOps.st rfl rfl rfl (LOp.assign rfl rfl) ?_
      refine LOps.nil ?_
      refine thn_n ?_
      obtain ⟨b_v3, hb_v3, ho_v3⟩ := bind_get hr
      clear hr
      refine LW.tailB (b := b_v3) (E := fun v3 => [(8, .p (.bool false))]) (O := fun v3 => [.box [.p (.int .u64 v3.c.ID.1), .p (.int .u64 v3.c.ID.2), .p (.int .i64 v3.c.Slot), .p (.int .i64 v3.c.Revoked)]]) ?_ (fun v3 e_v3 env_v3 H_v3 hw_v3 => ?_)
      · refine LW.block ?_
        refine LW.iterB (E := fun x1 : F8_L1 => [(1, .p (.slice 5 (l.map blkP))), (2, .p (.slice 2 (heads.map idP))), (3, .p (.slice 2 (found.map idP))), (4, .ptr 0 0), (8, .p (.bool false)), (10, .p (.int .i64 c.Revoked)), (11, .p (.int .i64 x1.i))]) (O := fun x1 => [.box [.p (.int .u64 x1.c.ID.1), .p (.int .u64 x1.c.ID.2), .p (.int .i64 x1.c.Slot), .p (.int .i64 x1.c.Revoked)]]) hb_v3 (Weak.of 1 ⟨rfl, rfl, rfl, rfl, rfl, rfl, rfl, trivial⟩ rfl rfl rfl rfl) (fun x1 z_x1 hr hb_x1 => ?_)
        unfold F8_s1 at hr
        refine LW.seq ?_
        refine LW.seq ?_
        refine LW.region ?_
        refine LOps.st rfl rfl rfl (LOp.move rfl rfl) ?_
        refine LOps.st rfl rfl rfl (LOp.move rfl rfl) ?_
        refine LOps.st rfl rfl rfl (LOp.lenM rfl rfl (by kernel_rfl)) ?_
        refine LOps.st rfl rfl rfl (LOp.bin rfl rfl rfl rfl) ?_
        refine LOps.nil ?_
        refine thn_n ?_
        refine LW.cond rfl (fun (g6 : (decide (x1.i < (heads.length : Int))) = true) => ?_) (fun (g6 : (decide (x1.i < (heads.length : Int))) = false) => ?_)
        · -- g6 is True
          have hr := ite_t g6 hr
          refine LW.skip ?_
          refine thn_n ?_
          refine LW.seq ?_
          refine LW.block ?_
          obtain ⟨b_v4, hb_v4, ho_v4⟩ := bind_get hr
          clear hr
          refine LW.cutB (b := b_v4) (E := fun v4 => [(1, .p (.slice 5 (l.map blkP))), (2, .p (.slice 2 (heads.map idP))), (3, .p (.slice 2 (found.map idP))), (4, .ptr 0 0), (8, .p (.bool false)), (10, .p (.int .i64 c.Revoked)), (11, .p (.int .i64 x1.i))]) (O := fun v4 => [.box [.p (.int .u64 x1.c.ID.1), .p (.int .u64 x1.c.ID.2), .p (.int .i64 x1.c.Slot), .p (.int .i64 x1.c.Revoked)]]) ?_ (fun v4 e_v4 => ?_)
          · have hr := hb_v4
            refine LW.seq ?_
            refine LW.draw (by kernel_rfl) (by kernel_rfl) ?_
            refine LO.st rfl rfl rfl (LOp.move rfl rfl) ?_
            refine LO.st rfl rfl rfl (LOp.bin rfl rfl rfl rfl) ?_
            refine LO.st rfl rfl rfl (LOp.move rfl rfl) ?_
            refine LO.cases 52 rfl (fun (g7 : (decide (x1.i > 0)) = true) => ?_) (fun (g7 : (decide (x1.i > 0)) = false) => ?_)
            · -- g7 is True
              have hr := ite_t g7 hr
              refine LO.gd rfl rfl rfl (gd g7 rfl) rfl (LOp.move rfl rfl) ?_
              refine LO.gd rfl rfl rfl (gd g7 rfl) rfl (LOp.move rfl rfl) ?_
              refine LO.gd rfl rfl rfl (gd g7 rfl) rfl (LOp.move rfl rfl) ?_
              refine LO.gd rfl rfl rfl (gd g7 rfl) rfl (LOp.bin rfl rfl rfl rfl) ?_
              obtain ⟨y2, h_y2, hr⟩ := bind_get hr
              refine LO.gd rfl rfl rfl (gd g7 rfl) rfl (LOp.indexAddrX rfl rfl rfl st31 h_y2 rfl) ?_
              refine LO.gd rfl rfl rfl (gd g7 rfl) rfl (LOp.loadC rfl rfl rfl vt24 rfl rfl) ?_
              refine LO.gd rfl rfl rfl (gd g7 rfl) rfl (LOp.move rfl rfl) ?_
              refine LO.gd rfl rfl rfl (gd g7 rfl) rfl (LOp.move rfl rfl) ?_
              obtain ⟨y3, h_y3, hr⟩ := bind_get hr
              refine LO.gd rfl rfl rfl (gd g7 rfl) rfl (LOp.indexAddrX rfl rfl rfl st31 h_y3 rfl) ?_
              refine LO.gd rfl rfl rfl (gd g7 rfl) rfl (LOp.loadC rfl rfl rfl vt24 rfl rfl) ?_
              obtain ⟨q2, hr⟩ := grd_get hr
              refine LO.gd rfl rfl rfl (gd g7 rfl) rfl (LOp.call rfl rfl rfl (by kernel_rfl) (LC.pure (c40 (l := l) (a := y2) (b := y3) (few_le q2)) (.cons Conv.p (.cons Conv.p (.cons Conv.p .nil))))) ?_
              refine LO.gd rfl rfl rfl (gd g7 rfl) rfl (LOp.not rfl rfl) ?_
              refine LO.st rfl rfl rfl (LOp.pickT rfl (gdl g7 rfl) rfl) ?_
              refine LO.nil ?_
              refine thn_n ?_
              refine LW.cond rfl (fun (g8 : (!(decide (indexOf (chainOf l y3) y2 ≥ 0))) = true) => ?_) (fun (g8 : (!(decide (indexOf (chainOf l y3) y2 ≥ 0))) = false) => ?_)
              · -- g8 is True
                have hr := ite_t g8 hr
                refine LW.seq ?_
                refine LW.region ?_
                refine LOps.st rfl rfl rfl (LOp.assign rfl rfl) ?_
                refine LOps.nil ?_
                refine thn_n ?_
                refine LW.ret ?_
                refine thn_r ?_
                refine inBlk_r ?_
                refine thn_r ?_
                refine thn_r ?_
                refine inBlk_r ?_
                refine thn_r ?_
                refine thn_r ?_
                obtain rfl := Option.some.inj hr
                have hr := sum_r ho_v4
                obtain rfl := Option.some.inj hr
                have hr := congrArg some (hb_x1 _ rfl)
                obtain rfl := Option.some.inj hr
                have hr := sum_r ho_v3
                obtain rfl := Option.some.inj hr
                refine finP_ret (.one (.tmp rfl)) ?_
                exact Conv.p
              · -- g8 is False
                have hr := ite_f g8 hr
                refine LW.skip ?_
                refine thn_n ?_
                obtain rfl := Option.some.inj hr
                exact ⟨_, rfl, Weak.of 1 ⟨rfl, rfl, rfl, rfl, rfl, rfl, rfl, trivial⟩ rfl rfl rfl rfl⟩
            · -- g7 is False
              have hr := ite_f g7 hr
              refine LO.sk rfl rfl rfl (gd g7 rfl) rfl rfl ?_
              refine LO.sk rfl rfl rfl (gd g7 rfl) rfl rfl ?_
              refine LO.sk rfl rfl rfl (gd g7 rfl) rfl rfl ?_
              refine LO.sk rfl rfl rfl (gd g7 rfl) rfl rfl ?_
              refine LO.sk rfl rfl rfl (gd g7 rfl) rfl rfl ?_
              refine LO.sk rfl rfl rfl (gd g7 rfl) rfl rfl ?_
              refine LO.sk rfl rfl rfl (gd g7 rfl) rfl rfl ?_
              refine LO.sk rfl rfl rfl (gd g7 rfl) rfl rfl ?_
              refine LO.sk rfl rfl rfl (gd g7 rfl) rfl rfl ?_
              refine LO.sk rfl rfl rfl (gd g7 rfl) rfl rfl ?_
              refine LO.sk rfl rfl rfl (gd g7 rfl) rfl rfl ?_
              refine LO.sk rfl rfl rfl (gd g7 rfl) rfl rfl ?_
              refine LO.st rfl rfl rfl (LOp.pickF rfl (gdl g7 rfl) rfl) ?_
              refine LO.nil ?_
              refine thn_n ?_
              refine LW.condF rfl ?_
              refine LW.skip ?_
              refine thn_n ?_
              obtain rfl := Option.some.inj hr
              exact ⟨_, rfl, Weak.of 1 ⟨rfl, rfl, rfl, rfl, rfl, rfl, rfl, trivial⟩ rfl rfl rfl rfl⟩
          · obtain rfl := e_v4
            have hr := sum_l ho_v4
            clear hb_v4
            refine LW.seq ?_
            refine LW.region ?_
            refine LOps.st rfl rfl rfl (LOp.build rfl bt24 rfl rfl rfl) ?_
            refine LOps.st rfl rfl rfl (LOp.alloc rfl zt24 rfl rfl) ?_
            refine LOps.st rfl rfl rfl (LOp.store rfl rfl rfl rfl vt24 rfl rfl rfl rfl) ?_
            refine LOps.nil ?_
            refine thn_n ?_
            obtain ⟨v5, hb_v5, ho_v5⟩ := bind_get hr
            clear hr
            refine LW.cut (E := [(1, .p (.slice 5 (l.map blkP))), (2, .p (.slice 2 (heads.map idP))), (3, .p (.slice 2 (found.map idP))), (4, .ptr 0 0), (8, .p (.bool false)), (10, .p (.int .i64 c.Revoked)), (11, .p (.int .i64 x1.i)), (12, .ptr 1 0)]) (O := [.box [.p (.int .u64 x1.c.ID.1), .p (.int .u64 x1.c.ID.2), .p (.int .i64 x1.c.Slot), .p (.int .i64 x1.c.Revoked)], .box [.p (.int .u64 v5.1), .p (.int .u64 v5.2)]]) ?_ ?_
            · have hr := hb_v5
              refine LW.seq ?_
              refine LW.region ?_
              refine LOps.st rfl rfl rfl (LOp.move rfl rfl) ?_
              refine LOps.st rfl rfl rfl (LOp.move rfl rfl) ?_
              refine LOps.st rfl rfl rfl (LOp.lenM rfl rfl (by kernel_rfl)) ?_
              refine LOps.st rfl rfl rfl (LOp.bin rfl rfl rfl rfl) ?_
              refine LOps.nil ?_
              refine thn_n ?_
              refine LW.cond rfl (fun (g9 : (decide (x1.i < (found.length : Int))) = true) => ?_) (fun (g9 : (decide (x1.i < (found.length : Int))) = false) => ?_)
              · -- g9 is True
                have hr := ite_t g9 hr
                refine LW.region ?_
                refine LOps.st rfl rfl rfl (LOp.move rfl rfl) ?_
                refine LOps.st rfl rfl rfl (LOp.move rfl rfl) ?_
                obtain ⟨y4, h_y4, hr⟩ := bind_get hr
                refine LOps.st rfl rfl rfl (LOp.indexAddrX rfl rfl rfl st31 h_y4 rfl) ?_
                refine LOps.st rfl rfl rfl (LOp.loadC rfl rfl rfl vt24 rfl rfl) ?_
                refine LOps.st rfl rfl rfl (LOp.store rfl rfl rfl rfl vt24 rfl rfl rfl rfl) ?_
                refine LOps.nil ?_
                refine thn_n ?_
                obtain rfl := Option.some.inj hr
                exact Weak.of 2 ⟨rfl, rfl, rfl, rfl, rfl, rfl, rfl, rfl, trivial⟩ rfl rfl rfl rfl
              · -- g9 is False
                have hr := ite_f g9 hr
                refine LW.skip ?_
                refine thn_n ?_
                obtain rfl := Option.some.inj hr
                exact Weak.of 2 ⟨rfl, rfl, rfl, rfl, rfl, rfl, rfl, rfl, trivial⟩ rfl rfl rfl rfl
            · have hr := ho_v5
              clear hb_v5
              refine LW.seq ?_
              refine LW.drawLast (m := 13) (by kernel_rfl) (by kernel_rfl) (by kernel_rfl) ?_
              refine LO.st rfl rfl rfl (LOp.load rfl rfl rfl vt26 rfl rfl) ?_
              refine LO.st rfl rfl rfl (LOp.move rfl rfl) ?_
              refine LO.st rfl rfl rfl (LOp.move rfl rfl) ?_
              refine LO.st rfl rfl rfl (LOp.move rfl rfl) ?_
              obtain ⟨y5, h_y5, hr⟩ := bind_get hr
              refine LO.st rfl rfl rfl (LOp.indexAddrX rfl rfl rfl st31 h_y5 rfl) ?_
              refine LO.st rfl rfl rfl (LOp.loadC rfl rfl rfl vt24 rfl rfl) ?_
              refine LO.st rfl rfl rfl (LOp.load rfl rfl rfl vt24 rfl rfl) ?_
              refine LO.st rfl rfl rfl (LOp.move rfl rfl) ?_
              refine LO.st rfl rfl rfl (LOp.move rfl rfl) ?_
              refine LO.st rfl rfl rfl (LOp.lenM rfl rfl (by kernel_rfl)) ?_
              refine LO.st rfl rfl rfl (LOp.bin rfl rfl rfl rfl) ?_
              refine LO.st rfl rfl rfl (LOp.move rfl rfl) ?_
              obtain ⟨q3, hr⟩ := grd_get hr
              refine LO.st rfl rfl rfl (LOp.call rfl rfl rfl (by kernel_rfl) (LC.pure (c37 (c := x1.c) (l := l) (head := y5) (found := v5) (is := (decide (x1.i < (found.length : Int)))) (slot := x1.i) (few_le q3)) (.cons Conv.p (.cons Conv.p (.cons Conv.p (.cons Conv.p (.cons Conv.p (.cons Conv.p .nil)))))))) ?_
              refine LO.nil ?_
              refine LOps.st rfl rfl rfl (LOp.store rfl rfl rfl rfl vt26 rfl rfl rfl rfl) ?_
              refine LOps.nil ?_
              refine thn_n ?_
              refine LW.seq ?_
              refine LW.draw (by kernel_rfl) (by kernel_rfl) ?_
              refine LO.st rfl rfl rfl (LOp.fieldAddr rfl rfl ft26_2) ?_
              refine LO.st rfl rfl rfl (LOp.load rfl rfl rfl vt3 rfl rfl) ?_
              refine LO.st rfl rfl rfl (LOp.move rfl rfl) ?_
              refine LO.st rfl rfl rfl (LOp.bin rfl rfl rfl rfl) ?_
              refine LO.st rfl rfl rfl (LOp.move rfl rfl) ?_
              refine LO.cases 92 rfl (fun (g10 : (((moveOf x1.c l y5 v5 (decide (x1.i < (found.length : Int))) x1.i).Revoked) != c.Revoked) = true) => ?_) (fun (g10 : (((moveOf x1.c l y5 v5 (decide (x1.i < (found.length : Int))) x1.i).Revoked) != c.Revoked) = false) => ?_)
              · -- g10 is True
                have hr := ite_t g10 hr
                refine LO.sk rfl rfl rfl (gd g10 rfl) rfl rfl ?_
                refine LO.sk rfl rfl rfl (gd g10 rfl) rfl rfl ?_
                refine LO.sk rfl rfl rfl (gd g10 rfl) rfl rfl ?_
                refine LO.sk rfl rfl rfl (gd g10 rfl) rfl rfl ?_
                refine LO.sk rfl rfl rfl (gd g10 rfl) rfl rfl ?_
                refine LO.sk rfl rfl rfl (gd g10 rfl) rfl rfl ?_
                refine LO.sk rfl rfl rfl (gd g10 rfl) rfl rfl ?_
                refine LO.sk rfl rfl rfl (gd g10 rfl) rfl rfl ?_
                refine LO.sk rfl rfl rfl (gd g10 rfl) rfl rfl ?_
                refine LO.st rfl rfl rfl (LOp.pickT rfl (gdl g10 rfl) rfl) ?_
                refine LO.nil ?_
                refine thn_n ?_
                refine LW.condT rfl ?_
                refine LW.seq ?_
                refine LW.region ?_
                refine LOps.st rfl rfl rfl (LOp.assign rfl rfl) ?_
                refine LOps.nil ?_
                refine thn_n ?_
                refine LW.ret ?_
                refine inBlk_r ?_
                refine thn_r ?_
                refine thn_r ?_
                refine inBlk_r ?_
                refine thn_r ?_
                refine thn_r ?_
                obtain rfl := Option.some.inj hr
                have hr := congrArg some (hb_x1 _ rfl)
                obtain rfl := Option.some.inj hr
                have hr := sum_r ho_v3
                obtain rfl := Option.some.inj hr
                refine finP_ret (.one (.tmp rfl)) ?_
                exact Conv.p
              · -- g10 is False
                have hr := ite_f g10 hr
                refine LO.gd rfl rfl rfl (gd g10 rfl) rfl (LOp.move rfl rfl) ?_
                refine LO.gd rfl rfl rfl (gd g10 rfl) rfl (LOp.fieldAddr rfl rfl ft26_0) ?_
                refine LO.gd rfl rfl rfl (gd g10 rfl) rfl (LOp.load rfl rfl rfl vt24 rfl rfl) ?_
                refine LO.gd rfl rfl rfl (gd g10 rfl) rfl (LOp.move rfl rfl) ?_
                refine LO.gd rfl rfl rfl (gd g10 rfl) rfl (LOp.move rfl rfl) ?_
                obtain ⟨y6, h_y6, hr⟩ := bind_get hr
                refine LO.gd rfl rfl rfl (gd g10 rfl) rfl (LOp.indexAddrX rfl rfl rfl st31 h_y6 rfl) ?_
                refine LO.gd rfl rfl rfl (gd g10 rfl) rfl (LOp.loadC rfl rfl rfl vt24 rfl rfl) ?_
                obtain ⟨q4, hr⟩ := grd_get hr
                refine LO.gd rfl rfl rfl (gd g10 rfl) rfl (LOp.call rfl rfl rfl (by kernel_rfl) (LC.pure (c40 (l := l) (a := ((moveOf x1.c l y5 v5 (decide (x1.i < (found.length : Int))) x1.i).ID)) (b := y6) (few_le q4)) (.cons Conv.p (.cons Conv.p (.cons Conv.p .nil))))) ?_
                refine LO.gd rfl rfl rfl (gd g10 rfl) rfl (LOp.not rfl rfl) ?_
                refine LO.st rfl rfl rfl (LOp.pickF rfl (gdl g10 rfl) rfl) ?_
                refine LO.nil ?_
                refine thn_n ?_
                refine LW.cond rfl (fun (g11 : (!(decide (indexOf (chainOf l y6) ((moveOf x1.c l y5 v5 (decide (x1.i < (found.length : Int))) x1.i).ID) ≥ 0))) = true) => ?_) (fun (g11 : (!(decide (indexOf (chainOf l y6) ((moveOf x1.c l y5 v5 (decide (x1.i < (found.length : Int))) x1.i).ID) ≥ 0))) = false) => ?_)
                · -- g11 is True
                  have hr := ite_t g11 hr
                  refine LW.seq ?_
                  refine LW.region ?_
                  refine LOps.st rfl rfl rfl (LOp.assign rfl rfl) ?_
                  refine LOps.nil ?_
                  refine thn_n ?_
                  refine LW.ret ?_
                  refine inBlk_r ?_
                  refine thn_r ?_
                  refine thn_r ?_
                  refine inBlk_r ?_
                  refine thn_r ?_
                  refine thn_r ?_
                  obtain rfl := Option.some.inj hr
                  have hr := congrArg some (hb_x1 _ rfl)
                  obtain rfl := Option.some.inj hr
                  have hr := sum_r ho_v3
                  obtain rfl := Option.some.inj hr
                  refine finP_ret (.one (.tmp rfl)) ?_
                  exact Conv.p
                · -- g11 is False
                  have hr := ite_f g11 hr
                  refine LW.skip ?_
                  refine inBlk_n ?_
                  refine thn_n ?_
                  refine LW.region ?_
                  refine LOps.st rfl rfl rfl (LOp.move rfl rfl) ?_
                  refine LOps.st rfl rfl rfl (LOp.bin rfl rfl rfl rfl) ?_
                  refine LOps.st rfl rfl rfl (LOp.assign rfl rfl) ?_
                  refine LOps.nil ?_
                  refine thn_n ?_
                  obtain rfl := Option.some.inj hr
                  exact ⟨_, rfl, Weak.of 1 ⟨rfl, rfl, rfl, rfl, rfl, rfl, rfl, trivial⟩ rfl rfl rfl rfl⟩
        · -- g6 is False
          have hr := ite_f g6 hr
          refine LW.exit ?_
          refine thn_e ?_
          refine thn_e ?_
          refine inBlk_self ?_
          refine thn_n ?_
          obtain rfl := Option.some.inj hr
          have hr := congrArg some (hb_x1 _ rfl)
          obtain rfl := Option.some.inj hr
          exact ⟨_, rfl, Weak.of 1 ⟨rfl, trivial⟩ rfl rfl rfl rfl⟩
      · obtain rfl := e_v3
        have hr := sum_l ho_v3
        clear hb_v3
        refine thn_n ?_
        refine LW.weak hw_v3 ?_
        refine LW.seq ?_
        refine LW.region ?_
        refine LOps.st rfl rfl rfl (LOp.assign rfl rfl) ?_
        refine LOps.nil ?_
        refine thn_n ?_
        refine LW.ret ?_
        obtain rfl := Option.some.inj hr
        refine finP_ret (.one (.tmp rfl)) ?_
        exact Conv.p

end Go.Mg
