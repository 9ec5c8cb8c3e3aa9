/- Views: clones, and what stands alone. Views: what may be at all; a view that grows, begun. view.May. Conditions: none. -/
import Derived.Test.YtlhocfhoocmfiaaGH
import Derived.Test.YtlhocfhoocmfiaaV0
namespace Go.Mg
open Go.Proofs
set_option maxRecDepth 100000 in
theorem c133V {α : Type} {f : α → PV} {l : List α} (hb : room 0 l.length 40 = true) : LC Try.prog 133 [.p (.slice 5 (l.map f))] [] (Is (.vec 5 0 (l.map f).length 0 (l.map f).length) [.vec 5 (l.map f)]) := by
  refine LC.start Try.func133 rfl rfl rfl ?_
  refine LW.seq ?_
  refine LW.region ?_
  refine LOps.st rfl rfl rfl (LOp.assign rfl rfl) ?_
  refine LOps.nil ?_
  refine thn_n ?_
  refine LW.seq ?_
  refine LW.seq ?_
  refine LW.region ?_
  refine LOps.st rfl rfl rfl (LOp.move rfl rfl) ?_
  refine LOps.cons rfl rfl rfl (LOp.eqNil rfl rfl rfl st27) ?_
  rintro _ _ ⟨rfl, b, rfl, hn⟩
  refine LOps.nil ?_
  refine thn_n ?_
  refine LW.cond rfl (fun g => ?_) (fun g => ?_)
  · have hl : l = [] := List.map_eq_nil_iff.1 (hn g)
    subst hl
    refine LW.seq ?_
    refine LW.region ?_
    refine LOps.st rfl rfl rfl (LOp.assign rfl rfl) ?_
    refine LOps.nil ?_
    refine thn_n ?_
    refine LW.ent (Ent.lazy (t := 2) (m := 5) rfl rfl rfl) ?_
    refine LW.ret ?_
    refine thn_r ?_
    exact fin_ret (.one (.tmp rfl)) ⟨rfl, rfl⟩
  · refine LW.skip ?_
    refine thn_n ?_
    refine LW.seq ?_
    refine LW.region ?_
    refine LOps.st rfl rfl rfl (LOp.buildSlice0 rfl st27) ?_
    refine LOps.st rfl rfl rfl (LOp.move rfl rfl) ?_
    refine LOps.st rfl rfl rfl (LOp.appendZX f l rfl rfl rfl rfl Src.p rfl st27 hb rfl) ?_
    refine LOps.st rfl rfl rfl (LOp.assign rfl rfl) ?_
    refine LOps.nil ?_
    refine thn_n ?_
    refine LW.ret ?_
    exact fin_ret (.one (.tmp rfl)) ⟨rfl, rfl⟩
set_option maxRecDepth 100000 in
theorem c134V {α : Type} {f : α → PV} {l : List α} (hb : room 0 l.length 32 = true) : LC Try.prog 134 [.p (.slice 4 (l.map f))] [] (Is (.vec 4 0 (l.map f).length 0 (l.map f).length) [.vec 4 (l.map f)]) := by
  refine LC.start Try.func134 rfl rfl rfl ?_
  refine LW.seq ?_
  refine LW.region ?_
  refine LOps.st rfl rfl rfl (LOp.assign rfl rfl) ?_
  refine LOps.nil ?_
  refine thn_n ?_
  refine LW.seq ?_
  refine LW.seq ?_
  refine LW.region ?_
  refine LOps.st rfl rfl rfl (LOp.move rfl rfl) ?_
  refine LOps.cons rfl rfl rfl (LOp.eqNil rfl rfl rfl st68) ?_
  rintro _ _ ⟨rfl, b, rfl, hn⟩
  refine LOps.nil ?_
  refine thn_n ?_
  refine LW.cond rfl (fun g => ?_) (fun g => ?_)
  · have hl : l = [] := List.map_eq_nil_iff.1 (hn g)
    subst hl
    refine LW.seq ?_
    refine LW.region ?_
    refine LOps.st rfl rfl rfl (LOp.assign rfl rfl) ?_
    refine LOps.nil ?_
    refine thn_n ?_
    refine LW.ent (Ent.lazy (t := 2) (m := 4) rfl rfl rfl) ?_
    refine LW.ret ?_
    refine thn_r ?_
    exact fin_ret (.one (.tmp rfl)) ⟨rfl, rfl⟩
  · refine LW.skip ?_
    refine thn_n ?_
    refine LW.seq ?_
    refine LW.region ?_
    refine LOps.st rfl rfl rfl (LOp.buildSlice0 rfl st68) ?_
    refine LOps.st rfl rfl rfl (LOp.move rfl rfl) ?_
    refine LOps.st rfl rfl rfl (LOp.appendZX f l rfl rfl rfl rfl Src.p rfl st68 hb rfl) ?_
    refine LOps.st rfl rfl rfl (LOp.assign rfl rfl) ?_
    refine LOps.nil ?_
    refine thn_n ?_
    refine LW.ret ?_
    exact fin_ret (.one (.tmp rfl)) ⟨rfl, rfl⟩
def F87 (c : Cf) (b : Bk) : Option Bool :=
  (F63 c b.Slot).bind fun v1 =>
  bif decide (v1 ≥ 0) then
    bif v1 == b.From then
      some (!((((nm b).1) == 0) && ((((nm b).2) == 0) && true)))
    else
      some false
  else
    some false
set_option maxRecDepth 100000 in
theorem c87 {c : Cf} {b : Bk} {r_ : Bool} (hr : F87 c b = some r_) : LPure Try.prog 87 [cfP c, blkP b] [.bool r_] := by
  refine LPure.start Try.func87 rfl rfl rfl rfl ?_
  unfold F87 at hr
  refine LW.seq ?_
  refine LW.region ?_
  refine LOps.st rfl rfl rfl (LOp.box rfl rfl rfl rfl rfl) ?_
  refine LOps.st rfl rfl rfl (LOp.box rfl rfl rfl rfl rfl) ?_
  refine LOps.st rfl rfl rfl (LOp.assign rfl rfl) ?_
  refine LOps.nil ?_
  refine thn_n ?_
  refine LW.seq ?_
  refine LW.region ?_
  refine LOps.st rfl rfl rfl (LOp.load rfl rfl rfl vt55 rfl rfl) ?_
  refine LOps.st rfl rfl rfl (LOp.fieldAddr rfl rfl ft42_0) ?_
  refine LOps.st rfl rfl rfl (LOp.load rfl rfl rfl vt3 rfl rfl) ?_
  obtain ⟨v1, h_v1, hr⟩ := bind_get hr
  refine LOps.st rfl rfl rfl (LOp.call rfl rfl rfl (by kernel_rfl) (LC.pure (c63 h_v1) (.cons Conv.p (.cons Conv.p .nil)))) ?_
  refine LOps.st rfl rfl rfl (LOp.assign rfl rfl) ?_
  refine LOps.nil ?_
  refine thn_n ?_
  refine LW.seq ?_
  refine LW.region ?_
  refine LOps.st rfl rfl rfl (LOp.move rfl rfl) ?_
  refine LOps.st rfl rfl rfl (LOp.bin rfl rfl rfl rfl) ?_
  refine LOps.st rfl rfl rfl (LOp.move rfl rfl) ?_
  refine LOps.cases 12 rfl (fun (g1 : (decide (v1 ≥ 0)) = true) => ?_) (fun (g1 : (decide (v1 ≥ 0)) = false) => ?_)
  · -- g1 is True
    have hr := ite_t g1 hr
    refine LOps.gd rfl rfl rfl (gd g1 rfl) rfl (LOp.move rfl rfl) ?_
    refine LOps.gd rfl rfl rfl (gd g1 rfl) rfl (LOp.fieldAddr rfl rfl ft42_1) ?_
    refine LOps.gd rfl rfl rfl (gd g1 rfl) rfl (LOp.load rfl rfl rfl vt3 rfl rfl) ?_
    refine LOps.gd rfl rfl rfl (gd g1 rfl) rfl (LOp.bin rfl rfl rfl rfl) ?_
    refine LOps.st rfl rfl rfl (LOp.pickT rfl (gdl g1 rfl) rfl) ?_
    refine LOps.st rfl rfl rfl (LOp.move rfl rfl) ?_
    refine LOps.cases 18 rfl (fun (g2 : (v1 == b.From) = true) => ?_) (fun (g2 : (v1 == b.From) = false) => ?_)
    · -- g2 is True
      have hr := ite_t g2 hr
      refine LOps.gd rfl rfl rfl (gd g2 rfl) rfl (LOp.load rfl rfl rfl vt42 rfl rfl) ?_
      refine LOps.gd rfl rfl rfl (gd g2 rfl) rfl (LOp.call rfl rfl rfl (by kernel_rfl) (LC.pure (c50 (b := b)) (.cons Conv.p .nil))) ?_
      refine LOps.gd rfl rfl rfl (gd g2 rfl) rfl (LOp.build rfl bt24 rfl rfl rfl) ?_
      refine LOps.gd rfl rfl rfl (gd g2 rfl) rfl (LOp.neqAgg rfl rfl rfl rfl rfl eqt24) ?_
      refine LOps.st rfl rfl rfl (LOp.pickT rfl (gdl g2 rfl) rfl) ?_
      refine LOps.st rfl rfl rfl (LOp.assign rfl rfl) ?_
      refine LOps.nil ?_
      refine thn_n ?_
      refine LW.ret ?_
      obtain rfl := Option.some.inj hr
      refine finP_ret (.one (.tmp rfl)) ?_
      exact Conv.p
    · -- g2 is False
      have hr := ite_f g2 hr
      refine LOps.sk rfl rfl rfl (gd g2 rfl) rfl rfl ?_
      refine LOps.sk rfl rfl rfl (gd g2 rfl) rfl rfl ?_
      refine LOps.sk rfl rfl rfl (gd g2 rfl) rfl rfl ?_
      refine LOps.sk rfl rfl rfl (gd g2 rfl) rfl rfl ?_
      refine LOps.st rfl rfl rfl (LOp.pickF rfl (gdl g2 rfl) rfl) ?_
      refine LOps.st rfl rfl rfl (LOp.assign rfl rfl) ?_
      refine LOps.nil ?_
      refine thn_n ?_
      refine LW.ret ?_
      obtain rfl := Option.some.inj hr
      refine finP_ret (.one (.tmp rfl)) ?_
      exact Conv.p
  · -- g1 is False
    have hr := ite_f g1 hr
    refine LOps.sk rfl rfl rfl (gd g1 rfl) rfl rfl ?_
    refine LOps.sk rfl rfl rfl (gd g1 rfl) rfl rfl ?_
    refine LOps.sk rfl rfl rfl (gd g1 rfl) rfl rfl ?_
    refine LOps.sk rfl rfl rfl (gd g1 rfl) rfl rfl ?_
    refine LOps.st rfl rfl rfl (LOp.pickF rfl (gdl g1 rfl) rfl) ?_
    refine LOps.st rfl rfl rfl (LOp.move rfl rfl) ?_
    refine LOps.sk rfl rfl rfl rfl rfl rfl ?_
    refine LOps.sk rfl rfl rfl rfl rfl rfl ?_
    refine LOps.sk rfl rfl rfl rfl rfl rfl ?_
    refine LOps.sk rfl rfl rfl rfl rfl rfl ?_
    refine LOps.st rfl rfl rfl (LOp.pickF rfl rfl rfl) ?_
    refine LOps.st rfl rfl rfl (LOp.assign rfl rfl) ?_
    refine LOps.nil ?_
    refine thn_n ?_
    refine LW.ret ?_
    obtain rfl := Option.some.inj hr
    refine finP_ret (.one (.tmp rfl)) ?_
    exact Conv.p
def F88 (c : Cf) (v : Vt) : Option Bool :=
  (F74 c v.Slot v.From).bind fun v1 =>
  some v1
set_option maxRecDepth 100000 in
theorem c88 {c : Cf} {v : Vt} {r_ : Bool} (hr : F88 c v = some r_) : LPure Try.prog 88 [cfP c, vtP v] [.bool r_] := by
  refine LPure.start Try.func88 rfl rfl rfl rfl ?_
  unfold F88 at hr
  refine LW.seq ?_
  refine LW.region ?_
  refine LOps.st rfl rfl rfl (LOp.box rfl rfl rfl rfl rfl) ?_
  refine LOps.st rfl rfl rfl (LOp.box rfl rfl rfl rfl rfl) ?_
  refine LOps.st rfl rfl rfl (LOp.assign rfl rfl) ?_
  refine LOps.nil ?_
  refine thn_n ?_
  refine LW.seq ?_
  refine LW.region ?_
  refine LOps.st rfl rfl rfl (LOp.load rfl rfl rfl vt55 rfl rfl) ?_
  refine LOps.st rfl rfl rfl (LOp.fieldAddr rfl rfl ft82_1) ?_
  refine LOps.st rfl rfl rfl (LOp.load rfl rfl rfl vt3 rfl rfl) ?_
  refine LOps.st rfl rfl rfl (LOp.fieldAddr rfl rfl ft82_0) ?_
  refine LOps.st rfl rfl rfl (LOp.load rfl rfl rfl vt3 rfl rfl) ?_
  obtain ⟨v1, h_v1, hr⟩ := bind_get hr
  refine LOps.st rfl rfl rfl (LOp.call rfl rfl rfl (by kernel_rfl) (LC.pure (c74 h_v1) (.cons Conv.p (.cons Conv.p (.cons Conv.p .nil))))) ?_
  refine LOps.st rfl rfl rfl (LOp.assign rfl rfl) ?_
  refine LOps.nil ?_
  refine thn_n ?_
  refine LW.ret ?_
  obtain rfl := Option.some.inj hr
  refine finP_ret (.one (.tmp rfl)) ?_
  exact Conv.p
structure F170_L1 where
  t8 : Int
structure F171_L1 where
  t8 : Int
structure F139_L1 where
  t12 : Int
  out : List Bk
structure F140_L1 where
  t12 : Int
  out : List Vt
structure F163_L1 where
  n : Int
  i : Int
structure F129_L1 where
  i : Int
structure F128_L1 where
  i : Int
structure F141_L1 where
  i : Int
  o3 : List Bk
structure F141_L2 where
  there : Bool
  k : Int
structure F141_L3 where
  i : Int
  o4 : List Vt
def F84 (w : Vw) (most : Int) : Option Bool :=
  bif decide ((w.B.length : Int) ≤ most) then
    some (decide ((w.V.length : Int) ≤ most))
  else
    some false
set_option maxRecDepth 100000 in
theorem c84 {w : Vw} {most : Int} {r_ : Bool} (hr : F84 w most = some r_) : LPure Try.prog 84 [vwP w, .int .i64 most] [.bool r_] := by
  refine LPure.start Try.func84 rfl rfl rfl rfl ?_
  unfold F84 at hr
  refine LW.seq ?_
  refine LW.region ?_
  refine LOps.st rfl rfl rfl (LOp.box rfl rfl rfl rfl rfl) ?_
  refine LOps.st rfl rfl rfl (LOp.assign rfl rfl) ?_
  refine LOps.nil ?_
  refine thn_n ?_
  refine LW.seq ?_
  refine LW.region ?_
  refine LOps.st rfl rfl rfl (LOp.fieldAddr rfl rfl ft75_0) ?_
  refine LOps.st rfl rfl rfl (LOp.load rfl rfl rfl vt27 rfl rfl) ?_
  refine LOps.st rfl rfl rfl (LOp.lenM rfl rfl (by kernel_rfl)) ?_
  refine LOps.st rfl rfl rfl (LOp.move rfl rfl) ?_
  refine LOps.st rfl rfl rfl (LOp.bin rfl rfl rfl rfl) ?_
  refine LOps.st rfl rfl rfl (LOp.move rfl rfl) ?_
  refine LOps.cases 10 rfl (fun (g1 : (decide ((w.B.length : Int) ≤ most)) = true) => ?_) (fun (g1 : (decide ((w.B.length : Int) ≤ most)) = false) => ?_)
  · -- g1 is True
    have hr := ite_t g1 hr
    refine LOps.gd rfl rfl rfl (gd g1 rfl) rfl (LOp.fieldAddr rfl rfl ft75_1) ?_
    refine LOps.gd rfl rfl rfl (gd g1 rfl) rfl (LOp.load rfl rfl rfl vt68 rfl rfl) ?_
    refine LOps.gd rfl rfl rfl (gd g1 rfl) rfl (LOp.lenM rfl rfl (by kernel_rfl)) ?_
    refine LOps.gd rfl rfl rfl (gd g1 rfl) rfl (LOp.move rfl rfl) ?_
    refine LOps.gd rfl rfl rfl (gd g1 rfl) rfl (LOp.bin rfl rfl rfl rfl) ?_
    refine LOps.st rfl rfl rfl (LOp.pickT rfl (gdl g1 rfl) rfl) ?_
    refine LOps.st rfl rfl rfl (LOp.assign rfl rfl) ?_
    refine LOps.nil ?_
    refine thn_n ?_
    refine LW.ret ?_
    obtain rfl := Option.some.inj hr
    refine finP_ret (.one (.tmp rfl)) ?_
    exact Conv.p
  · -- g1 is False
    have hr := ite_f g1 hr
    refine LOps.sk rfl rfl rfl (gd g1 rfl) rfl rfl ?_
    refine LOps.sk rfl rfl rfl (gd g1 rfl) rfl rfl ?_
    refine LOps.sk rfl rfl rfl (gd g1 rfl) rfl rfl ?_
    refine LOps.sk rfl rfl rfl (gd g1 rfl) rfl rfl ?_
    refine LOps.sk rfl rfl rfl (gd g1 rfl) rfl rfl ?_
    refine LOps.st rfl rfl rfl (LOp.pickF rfl (gdl g1 rfl) rfl) ?_
    refine LOps.st rfl rfl rfl (LOp.assign rfl rfl) ?_
    refine LOps.nil ?_
    refine thn_n ?_
    refine LW.ret ?_
    obtain rfl := Option.some.inj hr
    refine finP_ret (.one (.tmp rfl)) ?_
    exact Conv.p
def F125 : Option Cf :=
  some (Cf.mk [1] 0 1 1 4)
set_option maxRecDepth 100000 in
theorem c125 {r_ : Cf} (hr : F125 = some r_) : LPure Try.prog 125 [] [cfP r_] := by
  refine LPure.start Try.func125 rfl rfl rfl rfl ?_
  unfold F125 at hr
  refine LW.seq ?_
  refine LW.region ?_
  refine LOps.st rfl rfl rfl (LOp.alloc rfl zt55 rfl rfl) ?_
  refine LOps.nil ?_
  refine thn_n ?_
  refine LW.seq ?_
  refine LW.region ?_
  refine LOps.st rfl rfl rfl (LOp.buildSlice rfl st49 rfl rfl rfl rfl rfl) ?_
  refine LOps.st rfl rfl rfl (LOp.build rfl bt55 rfl rfl rfl) ?_
  refine LOps.st rfl rfl rfl (LOp.store rfl rfl rfl rfl vt55 rfl rfl rfl rfl) ?_
  refine LOps.nil ?_
  refine thn_n ?_
  refine LW.ret ?_
  obtain rfl := Option.some.inj hr
  refine finP_ret (.one (.cellAgg rfl rfl (by kernel_rfl) rfl)) ?_
  exact Conv.p
open Go.Proofs
structure F126_L1 where
  t12 : Int
  out : List Bk
def F126_s1 (c : Cf) (l : List Bk) (x1 : F126_L1) : Option (F126_L1 ⊕ F126_L1) :=
  bif decide (x1.t12 < (l.length : Int)) then
    (ix l x1.t12).bind fun y1 =>
    (F87 c y1).bind fun v2 =>
    bif v2 then
      bif room x1.out.length [y1].length 40 then
        some (.inl (F126_L1.mk (IntKind.i64.wrap (x1.t12 + 1)) (x1.out ++ [y1])))
      else none
    else
      some (.inl (F126_L1.mk (IntKind.i64.wrap (x1.t12 + 1)) x1.out))
  else
    some (.inr (F126_L1.mk x1.t12 x1.out))
def F126 (c : Cf) (l : List Bk) : Option (List Bk) :=
  (iter (F126_s1 c l) big (F126_L1.mk 0 ([] : List Bk))).bind fun v1 =>
  some v1.out
set_option maxRecDepth 100000 in
theorem cF126 {c : Cf} {l : List Bk} {r_ : List Bk} (hr : F126 c l = some r_) : LC Try.prog 126 [.p (cfP c), .p (.slice 5 (l.map blkP)), .fn 87 [] []] [] (Is (.vec 5 0 (r_.map blkP).length 0 (r_.map blkP).length) [.vec 5 (r_.map blkP)]) := by
  refine LC.start Try.func126 rfl rfl rfl ?_
  unfold F126 at hr
  refine LW.seq ?_
  refine LW.region ?_
  refine LOps.st rfl rfl rfl (LOp.box rfl rfl rfl rfl rfl) ?_
  refine LOps.st rfl rfl rfl (LOp.assign rfl rfl) ?_
  refine LOps.nil ?_
  refine thn_n ?_
  refine LW.seq ?_
  refine LW.region ?_
  refine LOps.st rfl rfl rfl (LOp.assign rfl rfl) ?_
  refine LOps.nil ?_
  refine thn_n ?_
  refine LW.seq ?_
  refine LW.seq ?_
  refine LW.region ?_
  refine LOps.st rfl rfl rfl (LOp.move rfl rfl) ?_
  refine LOps.st rfl rfl rfl (LOp.lenM rfl rfl (by kernel_rfl)) ?_
  refine LOps.st rfl rfl rfl (LOp.move rfl rfl) ?_
  refine LOps.nil ?_
  refine thn_n ?_
  refine LW.ent (Ent.lazy (t := 7) (m := 5) rfl rfl rfl) ?_
  obtain ⟨v1, hb_v1, ho_v1⟩ := bind_get hr
  clear hr
  refine LW.tail (E := [(6, .zs), (7, .vec 5 1 (v1.out.map blkP).length 0 (v1.out.map blkP).length)]) (O := [.box [.p (.slice 1 (c.W.map i64P)), .p (.int .u64 c.Seed), .p (.int .i64 c.Epoch), .p (.int .i64 c.Num), .p (.int .i64 c.Den)], .vec 5 (v1.out.map blkP)]) ?_ (fun env_v1 H_v1 hw_v1 => ?_)
  · refine LW.block ?_
    refine LW.iterB (E := fun x1 : F126_L1 => [(2, .fn 87 [] []), (3, .ptr 0 0), (6, .zs), (7, .vec 5 1 (x1.out.map blkP).length 0 (x1.out.map blkP).length), (10, .p (.slice 5 (l.map blkP))), (11, .p (.int .i64 (l.length : Int))), (12, .p (.int .i64 x1.t12))]) (O := fun x1 => [.box [.p (.slice 1 (c.W.map i64P)), .p (.int .u64 c.Seed), .p (.int .i64 c.Epoch), .p (.int .i64 c.Num), .p (.int .i64 c.Den)], .vec 5 (x1.out.map blkP)]) hb_v1 (Weak.of 2 ⟨rfl, rfl, rfl, rfl, rfl, rfl, rfl, trivial⟩ rfl rfl rfl rfl) (fun x1 z_x1 hr hb_x1 => ?_)
    unfold F126_s1 at hr
    refine LW.seq ?_
    refine LW.region ?_
    refine LOps.st rfl rfl rfl (LOp.bin rfl rfl rfl rfl) ?_
    refine LOps.nil ?_
    refine thn_n ?_
    refine LW.seq ?_
    refine LW.cond rfl (fun (g1 : (decide (x1.t12 < (l.length : Int))) = true) => ?_) (fun (g1 : (decide (x1.t12 < (l.length : Int))) = false) => ?_)
    · -- g1 is True
      have hr := ite_t g1 hr
      refine LW.skip ?_
      refine thn_n ?_
      refine LW.seq ?_
      refine LW.block ?_
      refine LW.seq ?_
      refine LW.region ?_
      obtain ⟨y1, h_y1, hr⟩ := bind_get hr
      refine LOps.st rfl rfl rfl (LOp.indexAddrX rfl rfl rfl st27 h_y1 rfl) ?_
      refine LOps.st rfl rfl rfl (LOp.loadC rfl rfl rfl vt42 rfl rfl) ?_
      refine LOps.st rfl rfl rfl (LOp.alloc rfl zt42 rfl rfl) ?_
      refine LOps.st rfl rfl rfl (LOp.store rfl rfl rfl rfl vt42 rfl rfl rfl rfl) ?_
      refine LOps.nil ?_
      refine thn_n ?_
      refine LW.seq ?_
      refine LW.region ?_
      refine LOps.st rfl rfl rfl (LOp.move rfl rfl) ?_
      refine LOps.st rfl rfl rfl (LOp.load rfl rfl rfl vt55 rfl rfl) ?_
      refine LOps.st rfl rfl rfl (LOp.load rfl rfl rfl vt42 rfl rfl) ?_
      obtain ⟨v2, h_v2, hr⟩ := bind_get hr
      refine LOps.st rfl rfl rfl (LOp.call rfl rfl rfl (by kernel_rfl) (LC.pure (c87 h_v2) (.cons Conv.p (.cons Conv.p .nil)))) ?_
      refine LOps.nil ?_
      refine thn_n ?_
      refine LW.cond rfl (fun (g2 : v2 = true) => ?_) (fun (g2 : v2 = false) => ?_)
      · -- g2 is True
        have hr := ite_t g2 hr
        refine LW.region ?_
        refine LOps.st rfl rfl rfl (LOp.move rfl rfl) ?_
        refine LOps.st rfl rfl rfl (LOp.load rfl rfl rfl vt42 rfl rfl) ?_
        refine LOps.st rfl rfl rfl (LOp.buildSlice rfl st27 rfl rfl rfl rfl rfl) ?_
        obtain ⟨q1, hr⟩ := grd_get hr
        refine LOps.st rfl rfl rfl (LOp.appendX blkP x1.out [y1] rfl rfl rfl rfl Src.p rfl st27 q1 rfl) ?_
        refine LOps.st rfl rfl rfl (LOp.assign rfl rfl) ?_
        refine LOps.nil ?_
        refine inBlk_n ?_
        refine thn_n ?_
        refine LW.region ?_
        refine LOps.st rfl rfl rfl (LOp.bin rfl rfl rfl rfl) ?_
        refine LOps.st rfl rfl rfl (LOp.move rfl rfl) ?_
        refine LOps.nil ?_
        refine thn_n ?_
        obtain rfl := Option.some.inj hr
        exact ⟨_, rfl, Weak.of 2 ⟨rfl, rfl, rfl, rfl, rfl, rfl, rfl, trivial⟩ rfl rfl rfl rfl⟩
      · -- g2 is False
        have hr := ite_f g2 hr
        refine LW.skip ?_
        refine inBlk_n ?_
        refine thn_n ?_
        refine LW.region ?_
        refine LOps.st rfl rfl rfl (LOp.bin rfl rfl rfl rfl) ?_
        refine LOps.st rfl rfl rfl (LOp.move rfl rfl) ?_
        refine LOps.nil ?_
        refine thn_n ?_
        obtain rfl := Option.some.inj hr
        exact ⟨_, rfl, Weak.of 2 ⟨rfl, rfl, rfl, rfl, rfl, rfl, rfl, trivial⟩ rfl rfl rfl rfl⟩
    · -- g1 is False
      have hr := ite_f g1 hr
      refine LW.exit ?_
      refine thn_e ?_
      refine thn_e ?_
      refine inBlk_self ?_
      refine thn_n ?_
      obtain rfl := Option.some.inj hr
      have hr := congrArg some (hb_x1 _ rfl)
      obtain rfl := Option.some.inj hr
      exact Weak.of 2 ⟨rfl, rfl, trivial⟩ rfl rfl rfl rfl
  · have hr := ho_v1
    clear hb_v1
    refine thn_n ?_
    refine LW.weak hw_v1 ?_
    refine LW.seq ?_
    refine LW.ent (Ent.last (t := 7) (j := 0) (Hj := []) rfl rfl rfl rfl rfl rfl rfl) ?_
    refine LW.region ?_
    refine LOps.st rfl rfl rfl (LOp.move rfl rfl) ?_
    refine LOps.st rfl rfl rfl (LOp.assign rfl rfl) ?_
    refine LOps.nil ?_
    refine thn_n ?_
    refine LW.ret ?_
    obtain rfl := Option.some.inj hr
    refine fin_ret (.one (.tmp rfl)) ?_
    exact ⟨rfl, rfl⟩
structure F127_L1 where
  t12 : Int
  out : List Vt
def F127_s1 (c : Cf) (l : List Vt) (x1 : F127_L1) : Option (F127_L1 ⊕ F127_L1) :=
  bif decide (x1.t12 < (l.length : Int)) then
    (ix l x1.t12).bind fun y1 =>
    (F88 c y1).bind fun v2 =>
    bif v2 then
      bif room x1.out.length [y1].length 32 then
        some (.inl (F127_L1.mk (IntKind.i64.wrap (x1.t12 + 1)) (x1.out ++ [y1])))
      else none
    else
      some (.inl (F127_L1.mk (IntKind.i64.wrap (x1.t12 + 1)) x1.out))
  else
    some (.inr (F127_L1.mk x1.t12 x1.out))
def F127 (c : Cf) (l : List Vt) : Option (List Vt) :=
  (iter (F127_s1 c l) big (F127_L1.mk 0 ([] : List Vt))).bind fun v1 =>
  some v1.out
set_option maxRecDepth 100000 in
theorem cF127 {c : Cf} {l : List Vt} {r_ : List Vt} (hr : F127 c l = some r_) : LC Try.prog 127 [.p (cfP c), .p (.slice 4 (l.map vtP)), .fn 88 [] []] [] (Is (.vec 4 0 (r_.map vtP).length 0 (r_.map vtP).length) [.vec 4 (r_.map vtP)]) := by
  refine LC.start Try.func127 rfl rfl rfl ?_
  unfold F127 at hr
  refine LW.seq ?_
  refine LW.region ?_
  refine LOps.st rfl rfl rfl (LOp.box rfl rfl rfl rfl rfl) ?_
  refine LOps.st rfl rfl rfl (LOp.assign rfl rfl) ?_
  refine LOps.nil ?_
  refine thn_n ?_
  refine LW.seq ?_
  refine LW.region ?_
  refine LOps.st rfl rfl rfl (LOp.assign rfl rfl) ?_
  refine LOps.nil ?_
  refine thn_n ?_
  refine LW.seq ?_
  refine LW.seq ?_
  refine LW.region ?_
  refine LOps.st rfl rfl rfl (LOp.move rfl rfl) ?_
  refine LOps.st rfl rfl rfl (LOp.lenM rfl rfl (by kernel_rfl)) ?_
  refine LOps.st rfl rfl rfl (LOp.move rfl rfl) ?_
  refine LOps.nil ?_
  refine thn_n ?_
  refine LW.ent (Ent.lazy (t := 7) (m := 4) rfl rfl rfl) ?_
  obtain ⟨v1, hb_v1, ho_v1⟩ := bind_get hr
  clear hr
  refine LW.tail (E := [(6, .zs), (7, .vec 4 1 (v1.out.map vtP).length 0 (v1.out.map vtP).length)]) (O := [.box [.p (.slice 1 (c.W.map i64P)), .p (.int .u64 c.Seed), .p (.int .i64 c.Epoch), .p (.int .i64 c.Num), .p (.int .i64 c.Den)], .vec 4 (v1.out.map vtP)]) ?_ (fun env_v1 H_v1 hw_v1 => ?_)
  · refine LW.block ?_
    refine LW.iterB (E := fun x1 : F127_L1 => [(2, .fn 88 [] []), (3, .ptr 0 0), (6, .zs), (7, .vec 4 1 (x1.out.map vtP).length 0 (x1.out.map vtP).length), (10, .p (.slice 4 (l.map vtP))), (11, .p (.int .i64 (l.length : Int))), (12, .p (.int .i64 x1.t12))]) (O := fun x1 => [.box [.p (.slice 1 (c.W.map i64P)), .p (.int .u64 c.Seed), .p (.int .i64 c.Epoch), .p (.int .i64 c.Num), .p (.int .i64 c.Den)], .vec 4 (x1.out.map vtP)]) hb_v1 (Weak.of 2 ⟨rfl, rfl, rfl, rfl, rfl, rfl, rfl, trivial⟩ rfl rfl rfl rfl) (fun x1 z_x1 hr hb_x1 => ?_)
    unfold F127_s1 at hr
    refine LW.seq ?_
    refine LW.region ?_
    refine LOps.st rfl rfl rfl (LOp.bin rfl rfl rfl rfl) ?_
    refine LOps.nil ?_
    refine thn_n ?_
    refine LW.seq ?_
    refine LW.cond rfl (fun (g1 : (decide (x1.t12 < (l.length : Int))) = true) => ?_) (fun (g1 : (decide (x1.t12 < (l.length : Int))) = false) => ?_)
    · -- g1 is True
      have hr := ite_t g1 hr
      refine LW.skip ?_
      refine thn_n ?_
      refine LW.seq ?_
      refine LW.block ?_
      refine LW.seq ?_
      refine LW.region ?_
      obtain ⟨y1, h_y1, hr⟩ := bind_get hr
      refine LOps.st rfl rfl rfl (LOp.indexAddrX rfl rfl rfl st68 h_y1 rfl) ?_
      refine LOps.st rfl rfl rfl (LOp.loadC rfl rfl rfl vt82 rfl rfl) ?_
      refine LOps.st rfl rfl rfl (LOp.alloc rfl zt82 rfl rfl) ?_
      refine LOps.st rfl rfl rfl (LOp.store rfl rfl rfl rfl vt82 rfl rfl rfl rfl) ?_
      refine LOps.nil ?_
      refine thn_n ?_
      refine LW.seq ?_
      refine LW.region ?_
      refine LOps.st rfl rfl rfl (LOp.move rfl rfl) ?_
      refine LOps.st rfl rfl rfl (LOp.load rfl rfl rfl vt55 rfl rfl) ?_
      refine LOps.st rfl rfl rfl (LOp.load rfl rfl rfl vt82 rfl rfl) ?_
      obtain ⟨v2, h_v2, hr⟩ := bind_get hr
      refine LOps.st rfl rfl rfl (LOp.call rfl rfl rfl (by kernel_rfl) (LC.pure (c88 h_v2) (.cons Conv.p (.cons Conv.p .nil)))) ?_
      refine LOps.nil ?_
      refine thn_n ?_
      refine LW.cond rfl (fun (g2 : v2 = true) => ?_) (fun (g2 : v2 = false) => ?_)
      · -- g2 is True
        have hr := ite_t g2 hr
        refine LW.region ?_
        refine LOps.st rfl rfl rfl (LOp.move rfl rfl) ?_
        refine LOps.st rfl rfl rfl (LOp.load rfl rfl rfl vt82 rfl rfl) ?_
        refine LOps.st rfl rfl rfl (LOp.buildSlice rfl st68 rfl rfl rfl rfl rfl) ?_
        obtain ⟨q1, hr⟩ := grd_get hr
        refine LOps.st rfl rfl rfl (LOp.appendX vtP x1.out [y1] rfl rfl rfl rfl Src.p rfl st68 q1 rfl) ?_
        refine LOps.st rfl rfl rfl (LOp.assign rfl rfl) ?_
        refine LOps.nil ?_
        refine inBlk_n ?_
        refine thn_n ?_
        refine LW.region ?_
        refine LOps.st rfl rfl rfl (LOp.bin rfl rfl rfl rfl) ?_
        refine LOps.st rfl rfl rfl (LOp.move rfl rfl) ?_
        refine LOps.nil ?_
        refine thn_n ?_
        obtain rfl := Option.some.inj hr
        exact ⟨_, rfl, Weak.of 2 ⟨rfl, rfl, rfl, rfl, rfl, rfl, rfl, trivial⟩ rfl rfl rfl rfl⟩
      · -- g2 is False
        have hr := ite_f g2 hr
        refine LW.skip ?_
        refine inBlk_n ?_
        refine thn_n ?_
        refine LW.region ?_
        refine LOps.st rfl rfl rfl (LOp.bin rfl rfl rfl rfl) ?_
        refine LOps.st rfl rfl rfl (LOp.move rfl rfl) ?_
        refine LOps.nil ?_
        refine thn_n ?_
        obtain rfl := Option.some.inj hr
        exact ⟨_, rfl, Weak.of 2 ⟨rfl, rfl, rfl, rfl, rfl, rfl, rfl, trivial⟩ rfl rfl rfl rfl⟩
    · -- g1 is False
      have hr := ite_f g1 hr
      refine LW.exit ?_
      refine thn_e ?_
      refine thn_e ?_
      refine inBlk_self ?_
      refine thn_n ?_
      obtain rfl := Option.some.inj hr
      have hr := congrArg some (hb_x1 _ rfl)
      obtain rfl := Option.some.inj hr
      exact Weak.of 2 ⟨rfl, rfl, trivial⟩ rfl rfl rfl rfl
  · have hr := ho_v1
    clear hb_v1
    refine thn_n ?_
    refine LW.weak hw_v1 ?_
    refine LW.seq ?_
    refine LW.ent (Ent.last (t := 7) (j := 0) (Hj := []) rfl rfl rfl rfl rfl rfl rfl) ?_
    refine LW.region ?_
    refine LOps.st rfl rfl rfl (LOp.move rfl rfl) ?_
    refine LOps.st rfl rfl rfl (LOp.assign rfl rfl) ?_
    refine LOps.nil ?_
    refine thn_n ?_
    refine LW.ret ?_
    obtain rfl := Option.some.inj hr
    refine fin_ret (.one (.tmp rfl)) ?_
    exact ⟨rfl, rfl⟩
def F85 (c : Cf) (v_in : Vw) : Option Vw :=
  (F126 c v_in.B).bind fun v1 =>
  (F127 c v_in.V).bind fun v2 =>
  some (Vw.mk v1 v2)
set_option maxRecDepth 100000 in
theorem c85 {c : Cf} {v_in : Vw} {r_ : Vw} (hr : F85 c v_in = some r_) : LPure Try.prog 85 [cfP c, vwP v_in] [vwP r_] := by
  refine LPure.start Try.func85 rfl rfl rfl rfl ?_
  unfold F85 at hr
  refine LW.seq ?_
  refine LW.region ?_
  refine LOps.st rfl rfl rfl (LOp.box rfl rfl rfl rfl rfl) ?_
  refine LOps.st rfl rfl rfl (LOp.box rfl rfl rfl rfl rfl) ?_
  refine LOps.st rfl rfl rfl (LOp.alloc rfl zt75 rfl rfl) ?_
  refine LOps.nil ?_
  refine thn_n ?_
  refine LW.seq ?_
  refine LW.ent (Ent.slot rfl) ?_
  refine LW.ent (Ent.slot rfl) ?_
  refine LW.drawW (by kernel_rfl) (by kernel_rfl) ?_
  refine LF.st rfl rfl rfl (LAt.load rfl rfl rfl vt55 rfl rfl) rfl ?_
  refine LF.st (F := []) (s := none) rfl rfl rfl (fun H _ => LOp.fieldAddr rfl rfl ft75_0) rfl ?_
  refine LF.st rfl rfl rfl (LAt.load rfl rfl rfl vt27 rfl rfl) rfl ?_
  obtain ⟨v1, h_v1, hr⟩ := bind_get hr
  refine LF.st rfl rfl rfl (LAt.callV (id := 3) (qs := [.p (cfP c), .p (.slice 5 (v_in.B.map blkP)), .fn 87 [] []]) rfl rfl rfl (by kernel_rfl) (cF126 h_v1) (fun H => (.consC Conv.p (.consC Conv.p (.consF .nil)))) rfl) rfl ?_
  refine LF.st rfl rfl rfl (LAt.load rfl rfl rfl vt55 rfl rfl) rfl ?_
  refine LF.st (F := []) (s := none) rfl rfl rfl (fun H _ => LOp.fieldAddr rfl rfl ft75_1) rfl ?_
  refine LF.st rfl rfl rfl (LAt.load rfl rfl rfl vt68 rfl rfl) rfl ?_
  obtain ⟨v2, h_v2, hr⟩ := bind_get hr
  refine LF.st rfl rfl rfl (LAt.callV (id := 4) (qs := [.p (cfP c), .p (.slice 4 (v_in.V.map vtP)), .fn 88 [] []]) rfl rfl rfl (by kernel_rfl) (cF127 h_v2) (fun H => (.consC Conv.p (.consC Conv.p (.consF .nil)))) rfl) rfl ?_
  refine LF.st (F := []) (s := none) rfl rfl rfl (fun H _ => LOp.build rfl bt75 rfl rfl rfl) rfl ?_
  refine LF.st rfl rfl rfl (LAt.store rfl rfl rfl rfl vt75 rfl rfl rfl) rfl ?_
  refine LF.nil ⟨by kernel_rfl, ?_⟩
  refine thn_n ?_
  refine LW.ret ?_
  obtain rfl := Option.some.inj hr
  refine finP_ret (.one (.cellAgg rfl rfl (by kernel_rfl) rfl)) ?_
  exact (Conv.agg (.cons (Conv.vecAll rfl rfl rfl) (.cons (Conv.vecAll rfl rfl rfl) .nil)))
def F85V (c : Cf) (inp : Vw) : Option (List Bk × List Vt) :=
  (F126 c inp.B).bind fun v1 =>
  (F127 c inp.V).bind fun v2 =>
  some (v1, v2)
set_option maxRecDepth 100000 in
theorem cF85V {c : Cf} {inp : Vw} {r_ : List Bk × List Vt} (hr : F85V c inp = some r_) : LC Try.prog 85 [.p (cfP c), .p (vwP inp)] [] (Is (.agg [.vec 5 3 (r_.1.map blkP).length 0 (r_.1.map blkP).length, .vec 4 4 (r_.2.map vtP).length 0 (r_.2.map vtP).length]) [.box [.p (.slice 1 (c.W.map i64P)), .p (.int .u64 c.Seed), .p (.int .i64 c.Epoch), .p (.int .i64 c.Num), .p (.int .i64 c.Den)], .box [.p (.slice 5 (inp.B.map blkP)), .p (.slice 4 (inp.V.map vtP))], .box [.vec 5 3 (r_.1.map blkP).length 0 (r_.1.map blkP).length, .vec 4 4 (r_.2.map vtP).length 0 (r_.2.map vtP).length], .vec 5 (r_.1.map blkP), .vec 4 (r_.2.map vtP)]) := by
  refine LC.start Try.func85 rfl rfl rfl ?_
  unfold F85V at hr
  refine LW.seq ?_
  refine LW.region ?_
  refine LOps.st rfl rfl rfl (LOp.box rfl rfl rfl rfl rfl) ?_
  refine LOps.st rfl rfl rfl (LOp.box rfl rfl rfl rfl rfl) ?_
  refine LOps.st rfl rfl rfl (LOp.alloc rfl zt75 rfl rfl) ?_
  refine LOps.nil ?_
  refine thn_n ?_
  refine LW.seq ?_
  refine LW.ent (Ent.slot rfl) ?_
  refine LW.ent (Ent.slot rfl) ?_
  refine LW.drawW (by kernel_rfl) (by kernel_rfl) ?_
  refine LF.st rfl rfl rfl (LAt.load rfl rfl rfl vt55 rfl rfl) rfl ?_
  refine LF.st (F := []) (s := none) rfl rfl rfl (fun H _ => LOp.fieldAddr rfl rfl ft75_0) rfl ?_
  refine LF.st rfl rfl rfl (LAt.load rfl rfl rfl vt27 rfl rfl) rfl ?_
  obtain ⟨v1, h_v1, hr⟩ := bind_get hr
  refine LF.st rfl rfl rfl (LAt.callV (id := 3) (qs := [.p (cfP c), .p (.slice 5 (inp.B.map blkP)), .fn 87 [] []]) rfl rfl rfl (by kernel_rfl) (cF126 h_v1) (fun H => (.consC Conv.p (.consC Conv.p (.consF .nil)))) rfl) rfl ?_
  refine LF.st rfl rfl rfl (LAt.load rfl rfl rfl vt55 rfl rfl) rfl ?_
  refine LF.st (F := []) (s := none) rfl rfl rfl (fun H _ => LOp.fieldAddr rfl rfl ft75_1) rfl ?_
  refine LF.st rfl rfl rfl (LAt.load rfl rfl rfl vt68 rfl rfl) rfl ?_
  obtain ⟨v2, h_v2, hr⟩ := bind_get hr
  refine LF.st rfl rfl rfl (LAt.callV (id := 4) (qs := [.p (cfP c), .p (.slice 4 (inp.V.map vtP)), .fn 88 [] []]) rfl rfl rfl (by kernel_rfl) (cF127 h_v2) (fun H => (.consC Conv.p (.consC Conv.p (.consF .nil)))) rfl) rfl ?_
  refine LF.st (F := []) (s := none) rfl rfl rfl (fun H _ => LOp.build rfl bt75 rfl rfl rfl) rfl ?_
  refine LF.st rfl rfl rfl (LAt.store rfl rfl rfl rfl vt75 rfl rfl rfl) rfl ?_
  refine LF.nil ⟨by kernel_rfl, ?_⟩
  refine thn_n ?_
  refine LW.ret ?_
  obtain rfl := Option.some.inj hr
  refine fin_ret (.one (.cellAgg rfl rfl (by kernel_rfl) rfl)) ?_
  exact ⟨rfl, rfl⟩
structure F130_L1 where
  t27 : Int
  o3 : List (ID × Int)
structure F130_L2 where
  t43 : Int
  o4 : List (Vt × Bool)
def F130_s1 (w : Vw) (x1 : F130_L1) : Option (F130_L1 ⊕ F130_L1) :=
  bif decide (x1.t27 < (w.B.length : Int)) then
    (ix w.B x1.t27).bind fun y1 =>
    some (.inl (F130_L1.mk (IntKind.i64.wrap (x1.t27 + 1)) (setE x1.o3 (nm y1) y1.Slot)))
  else
    some (.inr (F130_L1.mk x1.t27 x1.o3))
def F130_s2 (w : Vw) (x2 : F130_L2) : Option (F130_L2 ⊕ F130_L2) :=
  bif decide (x2.t43 < (w.V.length : Int)) then
    (ix w.V x2.t43).bind fun y2 =>
    some (.inl (F130_L2.mk (IntKind.i64.wrap (x2.t43 + 1)) (setE x2.o4 y2 true)))
  else
    some (.inr (F130_L2.mk x2.t43 x2.o4))
def F130 (w : Vw) (_ : Int) : Option (List (ID × Int) × List (Vt × Bool)) :=
  bif room 0 w.B.length 40 then
    bif room 0 w.V.length 32 then
      (iter (F130_s1 w) big (F130_L1.mk 0 (setE [] (0, 0) 0))).bind fun v1 =>
      (iter (F130_s2 w) big (F130_L2.mk 0 ([] : List (Vt × Bool)))).bind fun v2 =>
      some (v1.o3, v2.o4)
    else none
  else none
set_option maxRecDepth 100000 in
theorem cF130 {w : Vw} {upto : Int} {r_ : List (ID × Int) × List (Vt × Bool)} (hr : F130 w upto = some r_) : LC Try.prog 130 [.p (vwP w), .p (.int .i64 upto)] [] (Is (.ptr 5 0) [.box [.p (.slice 5 (w.B.map blkP)), .p (.slice 4 (w.V.map vtP))], .vec 5 (w.B.map blkP), .vec 4 (w.V.map vtP), .map (entsOf idP (fun v => .p (.int .i64 v)) r_.1), .map (entsOf vtP (fun v => .p (.bool v)) r_.2), .box [.vec 5 1 (w.B.map blkP).length 0 (w.B.map blkP).length, .vec 4 2 (w.V.map vtP).length 0 (w.V.map vtP).length, .map 3, .map 4, .p (.int .i64 upto), .p (.bool false)]]) := by
  refine LC.start Try.func130 rfl rfl rfl ?_
  unfold F130 at hr
  refine LW.seq ?_
  refine LW.region ?_
  refine LOps.st rfl rfl rfl (LOp.box rfl rfl rfl rfl rfl) ?_
  refine LOps.st rfl rfl rfl (LOp.assign rfl rfl) ?_
  refine LOps.nil ?_
  refine thn_n ?_
  refine LW.seq ?_
  refine LW.ent (Ent.slot rfl) ?_
  refine LW.ent (Ent.slot rfl) ?_
  refine LW.ent (Ent.slot rfl) ?_
  refine LW.ent (Ent.slot rfl) ?_
  refine LW.ent (Ent.slot rfl) ?_
  refine LW.drawW (by kernel_rfl) (by kernel_rfl) ?_
  refine LF.st (F := []) (s := none) rfl rfl rfl (fun H _ => LOp.fieldAddr rfl rfl ft75_0) rfl ?_
  refine LF.st rfl rfl rfl (LAt.load rfl rfl rfl vt27 rfl rfl) rfl ?_
  obtain ⟨q1, hr⟩ := grd_get hr
  refine LF.st rfl rfl rfl (LAt.callV (id := 1) (qs := [.p (.slice 5 (w.B.map blkP))]) rfl rfl rfl (by kernel_rfl) (c133V q1) (fun H => (.consC Conv.p .nil)) rfl) rfl ?_
  refine LF.st (F := []) (s := none) rfl rfl rfl (fun H _ => LOp.fieldAddr rfl rfl ft75_1) rfl ?_
  refine LF.st rfl rfl rfl (LAt.load rfl rfl rfl vt68 rfl rfl) rfl ?_
  obtain ⟨q2, hr⟩ := grd_get hr
  refine LF.st rfl rfl rfl (LAt.callV (id := 2) (qs := [.p (.slice 4 (w.V.map vtP))]) rfl rfl rfl (by kernel_rfl) (c134V q2) (fun H => (.consC Conv.p .nil)) rfl) rfl ?_
  refine LF.st (F := []) (s := none) rfl rfl rfl (fun H _ => LOp.build rfl bt75 rfl rfl rfl) rfl ?_
  refine LF.st rfl rfl rfl (LAt.makeMap rfl (id := 3) rfl) rfl ?_
  refine LF.st (F := []) (s := none) rfl rfl rfl (fun H _ => LOp.build rfl bt24 rfl rfl rfl) rfl ?_
  refine LF.st rfl rfl rfl (LAt.setX (f := idP) (g := (fun v => .p (.int .i64 v))) (m := ([] : List (ID × Int))) (0, 0) 0 idKey (.inr rfl) rfl rfl rfl rfl rfl mt91) rfl ?_
  refine LF.st (F := []) (s := none) rfl rfl rfl (fun H _ => LOp.move rfl rfl) rfl ?_
  refine LF.st rfl rfl rfl (LAt.makeMap rfl (id := 4) rfl) rfl ?_
  refine LF.st (F := []) (s := none) rfl rfl rfl (fun H _ => LOp.move rfl rfl) rfl ?_
  refine LF.st (F := []) (s := none) rfl rfl rfl (fun H _ => LOp.build rfl bt149 rfl rfl rfl) rfl ?_
  refine LF.st rfl rfl rfl (LAt.box rfl rfl rfl (id := 5) rfl) rfl ?_
  refine LF.st (F := []) (s := none) rfl rfl rfl (fun H _ => LOp.assign rfl rfl) rfl ?_
  refine LF.nil ⟨by kernel_rfl, ?_⟩
  refine thn_n ?_
  refine LW.seq ?_
  refine LW.seq ?_
  refine LW.region ?_
  refine LOps.st rfl rfl rfl (LOp.fieldAddr rfl rfl ft75_0) ?_
  refine LOps.st rfl rfl rfl (LOp.load rfl rfl rfl vt27 rfl rfl) ?_
  refine LOps.st rfl rfl rfl (LOp.lenM rfl rfl (by kernel_rfl)) ?_
  refine LOps.st rfl rfl rfl (LOp.move rfl rfl) ?_
  refine LOps.nil ?_
  refine thn_n ?_
  obtain ⟨v1, hb_v1, ho_v1⟩ := bind_get hr
  clear hr
  refine LW.tail (E := [(2, .ptr 0 0), (5, .ptr 5 0)]) (O := [.box [.p (.slice 5 (w.B.map blkP)), .p (.slice 4 (w.V.map vtP))], .vec 5 (w.B.map blkP), .vec 4 (w.V.map vtP), .map (entsOf idP (fun v => .p (.int .i64 v)) v1.o3), .map (entsOf vtP (fun v => .p (.bool v)) []), .box [.vec 5 1 (w.B.map blkP).length 0 (w.B.map blkP).length, .vec 4 2 (w.V.map vtP).length 0 (w.V.map vtP).length, .map 3, .map 4, .p (.int .i64 upto), .p (.bool false)]]) ?_ (fun env_v1 H_v1 hw_v1 => ?_)
  · refine LW.block ?_
    refine LW.iterB (E := fun x1 : F130_L1 => [(2, .ptr 0 0), (5, .ptr 5 0), (25, .p (.slice 5 (w.B.map blkP))), (26, .p (.int .i64 (w.B.length : Int))), (27, .p (.int .i64 x1.t27))]) (O := fun x1 => [.box [.p (.slice 5 (w.B.map blkP)), .p (.slice 4 (w.V.map vtP))], .vec 5 (w.B.map blkP), .vec 4 (w.V.map vtP), .map (entsOf idP (fun v => .p (.int .i64 v)) x1.o3), .map (entsOf vtP (fun v => .p (.bool v)) []), .box [.vec 5 1 (w.B.map blkP).length 0 (w.B.map blkP).length, .vec 4 2 (w.V.map vtP).length 0 (w.V.map vtP).length, .map 3, .map 4, .p (.int .i64 upto), .p (.bool false)]]) hb_v1 (Weak.of 6 ⟨rfl, rfl, rfl, rfl, rfl, trivial⟩ rfl rfl rfl (lowObjs_cons rfl (lowObjs_cons rfl (lowObjs_cons rfl (lowObjs_cons (entsLow (fun _ => rfl) _) (lowObjs_cons (entsLow (fun _ => rfl) _) (lowObjs_cons rfl rfl))))))) (fun x1 z_x1 hr hb_x1 => ?_)
    unfold F130_s1 at hr
    refine LW.seq ?_
    refine LW.region ?_
    refine LOps.st rfl rfl rfl (LOp.bin rfl rfl rfl rfl) ?_
    refine LOps.nil ?_
    refine thn_n ?_
    refine LW.seq ?_
    refine LW.cond rfl (fun (g1 : (decide (x1.t27 < (w.B.length : Int))) = true) => ?_) (fun (g1 : (decide (x1.t27 < (w.B.length : Int))) = false) => ?_)
    · -- g1 is True
      have hr := ite_t g1 hr
      refine LW.skip ?_
      refine thn_n ?_
      refine LW.seq ?_
      refine LW.block ?_
      refine LW.seq ?_
      refine LW.region ?_
      obtain ⟨y1, h_y1, hr⟩ := bind_get hr
      refine LOps.st rfl rfl rfl (LOp.indexAddrX rfl rfl rfl st27 h_y1 rfl) ?_
      refine LOps.st rfl rfl rfl (LOp.loadC rfl rfl rfl vt42 rfl rfl) ?_
      refine LOps.st rfl rfl rfl (LOp.alloc rfl zt42 rfl rfl) ?_
      refine LOps.st rfl rfl rfl (LOp.store rfl rfl rfl rfl vt42 rfl rfl rfl rfl) ?_
      refine LOps.nil ?_
      refine thn_n ?_
      refine LW.drawLast (m := 8) (by kernel_rfl) (by kernel_rfl) (by kernel_rfl) ?_
      refine LO.st rfl rfl rfl (LOp.move rfl rfl) ?_
      refine LO.st rfl rfl rfl (LOp.nilCheck rfl rfl) ?_
      refine LO.st rfl rfl rfl (LOp.fieldAddr rfl rfl ft149_1) ?_
      refine LO.st rfl rfl rfl (LOp.load rfl rfl rfl vt91 rfl rfl) ?_
      refine LO.st rfl rfl rfl (LOp.load rfl rfl rfl vt42 rfl rfl) ?_
      refine LO.st rfl rfl rfl (LOp.call rfl rfl rfl (by kernel_rfl) (LC.pure (c50 (b := y1)) (.cons Conv.p .nil))) ?_
      refine LO.st rfl rfl rfl (LOp.fieldAddr rfl rfl ft42_0) ?_
      refine LO.st rfl rfl rfl (LOp.load rfl rfl rfl vt3 rfl rfl) ?_
      refine LO.nil ?_
      refine LOps.st rfl rfl rfl (LOp.setX (f := idP) (g := (fun v => .p (.int .i64 v))) (nm y1) y1.Slot idKey (.inl rfl) rfl rfl rfl rfl rfl mt91 rfl) ?_
      refine LOps.nil ?_
      refine inBlk_n ?_
      refine thn_n ?_
      refine LW.region ?_
      refine LOps.st rfl rfl rfl (LOp.bin rfl rfl rfl rfl) ?_
      refine LOps.st rfl rfl rfl (LOp.move rfl rfl) ?_
      refine LOps.nil ?_
      refine thn_n ?_
      obtain rfl := Option.some.inj hr
      exact ⟨_, rfl, Weak.of 6 ⟨rfl, rfl, rfl, rfl, rfl, trivial⟩ rfl rfl rfl (lowObjs_cons rfl (lowObjs_cons rfl (lowObjs_cons rfl (lowObjs_cons (entsLow (fun _ => rfl) _) (lowObjs_cons (entsLow (fun _ => rfl) _) (lowObjs_cons rfl rfl))))))⟩
    · -- g1 is False
      have hr := ite_f g1 hr
      refine LW.exit ?_
      refine thn_e ?_
      refine thn_e ?_
      refine inBlk_self ?_
      refine thn_n ?_
      obtain rfl := Option.some.inj hr
      have hr := congrArg some (hb_x1 _ rfl)
      obtain rfl := Option.some.inj hr
      exact Weak.of 6 ⟨rfl, rfl, trivial⟩ rfl rfl rfl (lowObjs_cons rfl (lowObjs_cons rfl (lowObjs_cons rfl (lowObjs_cons (entsLow (fun _ => rfl) _) (lowObjs_cons (entsLow (fun _ => rfl) _) (lowObjs_cons rfl rfl))))))
  · have hr := ho_v1
    clear hb_v1
    refine thn_n ?_
    refine LW.weak hw_v1 ?_
    refine LW.seq ?_
    refine LW.seq ?_
    refine LW.region ?_
    refine LOps.st rfl rfl rfl (LOp.fieldAddr rfl rfl ft75_1) ?_
    refine LOps.st rfl rfl rfl (LOp.load rfl rfl rfl vt68 rfl rfl) ?_
    refine LOps.st rfl rfl rfl (LOp.lenM rfl rfl (by kernel_rfl)) ?_
    refine LOps.st rfl rfl rfl (LOp.move rfl rfl) ?_
    refine LOps.nil ?_
    refine thn_n ?_
    obtain ⟨v2, hb_v2, ho_v2⟩ := bind_get hr
    clear hr
    refine LW.tail (E := [(5, .ptr 5 0)]) (O := [.box [.p (.slice 5 (w.B.map blkP)), .p (.slice 4 (w.V.map vtP))], .vec 5 (w.B.map blkP), .vec 4 (w.V.map vtP), .map (entsOf idP (fun v => .p (.int .i64 v)) v1.o3), .map (entsOf vtP (fun v => .p (.bool v)) v2.o4), .box [.vec 5 1 (w.B.map blkP).length 0 (w.B.map blkP).length, .vec 4 2 (w.V.map vtP).length 0 (w.V.map vtP).length, .map 3, .map 4, .p (.int .i64 upto), .p (.bool false)]]) ?_ (fun env_v2 H_v2 hw_v2 => ?_)
    · refine LW.block ?_
      refine LW.iterB (E := fun x2 : F130_L2 => [(5, .ptr 5 0), (41, .p (.slice 4 (w.V.map vtP))), (42, .p (.int .i64 (w.V.length : Int))), (43, .p (.int .i64 x2.t43))]) (O := fun x2 => [.box [.p (.slice 5 (w.B.map blkP)), .p (.slice 4 (w.V.map vtP))], .vec 5 (w.B.map blkP), .vec 4 (w.V.map vtP), .map (entsOf idP (fun v => .p (.int .i64 v)) v1.o3), .map (entsOf vtP (fun v => .p (.bool v)) x2.o4), .box [.vec 5 1 (w.B.map blkP).length 0 (w.B.map blkP).length, .vec 4 2 (w.V.map vtP).length 0 (w.V.map vtP).length, .map 3, .map 4, .p (.int .i64 upto), .p (.bool false)]]) hb_v2 (Weak.of 6 ⟨rfl, rfl, rfl, rfl, trivial⟩ rfl rfl rfl (lowObjs_cons rfl (lowObjs_cons rfl (lowObjs_cons rfl (lowObjs_cons (entsLow (fun _ => rfl) _) (lowObjs_cons (entsLow (fun _ => rfl) _) (lowObjs_cons rfl rfl))))))) (fun x2 z_x2 hr hb_x2 => ?_)
      unfold F130_s2 at hr
      refine LW.seq ?_
      refine LW.region ?_
      refine LOps.st rfl rfl rfl (LOp.bin rfl rfl rfl rfl) ?_
      refine LOps.nil ?_
      refine thn_n ?_
      refine LW.seq ?_
      refine LW.cond rfl (fun (g2 : (decide (x2.t43 < (w.V.length : Int))) = true) => ?_) (fun (g2 : (decide (x2.t43 < (w.V.length : Int))) = false) => ?_)
      · -- g2 is True
        have hr := ite_t g2 hr
        refine LW.skip ?_
        refine thn_n ?_
        refine LW.seq ?_
        refine LW.block ?_
        refine LW.seq ?_
        refine LW.region ?_
        obtain ⟨y2, h_y2, hr⟩ := bind_get hr
        refine LOps.st rfl rfl rfl (LOp.indexAddrX rfl rfl rfl st68 h_y2 rfl) ?_
        refine LOps.st rfl rfl rfl (LOp.loadC rfl rfl rfl vt82 rfl rfl) ?_
        refine LOps.st rfl rfl rfl (LOp.alloc rfl zt82 rfl rfl) ?_
        refine LOps.st rfl rfl rfl (LOp.store rfl rfl rfl rfl vt82 rfl rfl rfl rfl) ?_
        refine LOps.nil ?_
        refine thn_n ?_
        refine LW.drawLast (m := 5) (by kernel_rfl) (by kernel_rfl) (by kernel_rfl) ?_
        refine LO.st rfl rfl rfl (LOp.move rfl rfl) ?_
        refine LO.st rfl rfl rfl (LOp.nilCheck rfl rfl) ?_
        refine LO.st rfl rfl rfl (LOp.fieldAddr rfl rfl ft149_2) ?_
        refine LO.st rfl rfl rfl (LOp.load rfl rfl rfl vt147 rfl rfl) ?_
        refine LO.st rfl rfl rfl (LOp.load rfl rfl rfl vt82 rfl rfl) ?_
        refine LO.nil ?_
        refine LOps.st rfl rfl rfl (LOp.setX (f := vtP) (g := (fun v => .p (.bool v))) y2 true vtKey (.inl rfl) rfl rfl rfl rfl rfl mt147 rfl) ?_
        refine LOps.nil ?_
        refine inBlk_n ?_
        refine thn_n ?_
        refine LW.region ?_
        refine LOps.st rfl rfl rfl (LOp.bin rfl rfl rfl rfl) ?_
        refine LOps.st rfl rfl rfl (LOp.move rfl rfl) ?_
        refine LOps.nil ?_
        refine thn_n ?_
        obtain rfl := Option.some.inj hr
        exact ⟨_, rfl, Weak.of 6 ⟨rfl, rfl, rfl, rfl, trivial⟩ rfl rfl rfl (lowObjs_cons rfl (lowObjs_cons rfl (lowObjs_cons rfl (lowObjs_cons (entsLow (fun _ => rfl) _) (lowObjs_cons (entsLow (fun _ => rfl) _) (lowObjs_cons rfl rfl))))))⟩
      · -- g2 is False
        have hr := ite_f g2 hr
        refine LW.exit ?_
        refine thn_e ?_
        refine thn_e ?_
        refine inBlk_self ?_
        refine thn_n ?_
        obtain rfl := Option.some.inj hr
        have hr := congrArg some (hb_x2 _ rfl)
        obtain rfl := Option.some.inj hr
        exact Weak.of 6 ⟨rfl, trivial⟩ rfl rfl rfl (lowObjs_cons rfl (lowObjs_cons rfl (lowObjs_cons rfl (lowObjs_cons (entsLow (fun _ => rfl) _) (lowObjs_cons (entsLow (fun _ => rfl) _) (lowObjs_cons rfl rfl))))))
    · have hr := ho_v2
      clear hb_v2
      refine thn_n ?_
      refine LW.weak hw_v2 ?_
      refine LW.seq ?_
      refine LW.region ?_
      refine LOps.st rfl rfl rfl (LOp.move rfl rfl) ?_
      refine LOps.st rfl rfl rfl (LOp.assign rfl rfl) ?_
      refine LOps.nil ?_
      refine thn_n ?_
      refine LW.ret ?_
      obtain rfl := Option.some.inj hr
      refine fin_ret (.one (.tmp rfl)) ?_
      exact ⟨rfl, rfl⟩
theorem entsShI {α : Type} {f : α → PV} {d : Nat} (m : List (α × Int)) : ((entsOf f (fun v => .p (.int .i64 v)) m).map fun e => (e.1, LV.shift d e.2)) = entsOf f (fun v => .p (.int .i64 v)) m := entsSh (fun _ => rfl) m
theorem entsShB {α : Type} {f : α → PV} {d : Nat} (m : List (α × Bool)) : ((entsOf f (fun v => .p (.bool v)) m).map fun e => (e.1, LV.shift d e.2)) = entsOf f (fun v => .p (.bool v)) m := entsSh (fun _ => rfl) m
open Go.Proofs
def F131 (v : Vt) (sm : List (ID × Int)) : Option Bool :=
  bif !((findE sm v.Head).isSome) then
    some true
  else
    some (decide (((findE sm v.Head).getD 0) > v.Slot))
set_option maxRecDepth 100000 in
theorem cF131 {v : Vt} {w : Vw} {sm : List (ID × Int)} {hm : List (Vt × Bool)} {r_ : Bool} (hr : F131 v sm = some r_) : LC Try.prog 131 [.p (vtP v), .ptr 9 0] [.dead, .box [.p (.slice 5 (w.B.map blkP)), .p (.slice 4 (w.V.map vtP))], .dead, .dead, .dead, .dead, .map (entsOf idP (fun v => .p (.int .i64 v)) sm), .map (entsOf vtP (fun v => .p (.bool v)) hm), .box [.vec 5 4 (w.B.map blkP).length 0 (w.B.map blkP).length, .vec 4 5 (w.V.map vtP).length 0 (w.V.map vtP).length, .map 6, .map 7, .p (.int .i64 0), .p (.bool false)], .box [.ptr 8 0]] (Is (.p (.bool r_)) [.dead, .box [.p (.slice 5 (w.B.map blkP)), .p (.slice 4 (w.V.map vtP))], .dead, .dead, .dead, .dead, .map (entsOf idP (fun v => .p (.int .i64 v)) sm), .map (entsOf vtP (fun v => .p (.bool v)) hm), .box [.vec 5 4 (w.B.map blkP).length 0 (w.B.map blkP).length, .vec 4 5 (w.V.map vtP).length 0 (w.V.map vtP).length, .map 6, .map 7, .p (.int .i64 0), .p (.bool false)], .box [.ptr 8 0]]) := by
  refine LC.start Try.func131 rfl rfl rfl ?_
  unfold F131 at hr
  refine LW.seq ?_
  refine LW.region ?_
  refine LOps.st rfl rfl rfl (LOp.box rfl rfl rfl rfl rfl) ?_
  refine LOps.st rfl rfl rfl (LOp.assign rfl rfl) ?_
  refine LOps.nil ?_
  refine thn_n ?_
  refine LW.seq ?_
  refine LW.draw (by kernel_rfl) (by kernel_rfl) ?_
  refine LO.st rfl rfl rfl (LOp.load rfl rfl rfl vt145 rfl rfl) ?_
  refine LO.st rfl rfl rfl (LOp.nilCheck rfl rfl) ?_
  refine LO.st rfl rfl rfl (LOp.fieldAddr rfl rfl ft149_1) ?_
  refine LO.st rfl rfl rfl (LOp.load rfl rfl rfl vt91 rfl rfl) ?_
  refine LO.st rfl rfl rfl (LOp.fieldAddr rfl rfl ft82_2) ?_
  refine LO.st rfl rfl rfl (LOp.load rfl rfl rfl vt24 rfl rfl) ?_
  refine LO.st rfl rfl rfl (LOp.getX (f := idP) (g := (fun v => .p (.int .i64 v))) v.Head 0 idKey rfl rfl rfl rfl mt91 zl3 rfl rfl) ?_
  refine LO.st rfl rfl rfl (LOp.move rfl rfl) ?_
  refine LO.st rfl rfl rfl (LOp.extract rfl rfl rfl) ?_
  refine LO.st rfl rfl rfl (LOp.extract rfl rfl rfl) ?_
  refine LO.st rfl rfl rfl (LOp.assign rfl rfl) ?_
  refine LO.st rfl rfl rfl (LOp.assign rfl rfl) ?_
  refine LO.nil ?_
  refine thn_n ?_
  refine LW.seq ?_
  refine LW.region ?_
  refine LOps.st rfl rfl rfl (LOp.move rfl rfl) ?_
  refine LOps.st rfl rfl rfl (LOp.not rfl rfl) ?_
  refine LOps.st rfl rfl rfl (LOp.move rfl rfl) ?_
  refine LOps.cases 18 rfl (fun (g1 : (!((findE sm v.Head).isSome)) = true) => ?_) (fun (g1 : (!((findE sm v.Head).isSome)) = false) => ?_)
  · -- g1 is True
    have hr := ite_t g1 hr
    refine LOps.sk rfl rfl rfl (gd g1 rfl) rfl rfl ?_
    refine LOps.sk rfl rfl rfl (gd g1 rfl) rfl rfl ?_
    refine LOps.sk rfl rfl rfl (gd g1 rfl) rfl rfl ?_
    refine LOps.sk rfl rfl rfl (gd g1 rfl) rfl rfl ?_
    refine LOps.st rfl rfl rfl (LOp.pickT rfl (gdl g1 rfl) rfl) ?_
    refine LOps.st rfl rfl rfl (LOp.assign rfl rfl) ?_
    refine LOps.nil ?_
    refine thn_n ?_
    refine LW.ret ?_
    obtain rfl := Option.some.inj hr
    refine fin_retW (env' := [(3, .p (.bool true))]) (H' := [.dead, .box [.p (.slice 5 (w.B.map blkP)), .p (.slice 4 (w.V.map vtP))], .dead, .dead, .dead, .dead, .map (entsOf idP (fun v => .p (.int .i64 v)) sm), .map (entsOf vtP (fun v => .p (.bool v)) hm), .box [.vec 5 4 (w.B.map blkP).length 0 (w.B.map blkP).length, .vec 4 5 (w.V.map vtP).length 0 (w.V.map vtP).length, .map 6, .map 7, .p (.int .i64 0), .p (.bool false)], .box [.ptr 8 0]]) (Weak.of 10 ⟨rfl, trivial⟩ rfl rfl rfl (lowObjs_cons rfl (lowObjs_cons rfl (lowObjs_cons rfl (lowObjs_cons rfl (lowObjs_cons rfl (lowObjs_cons rfl (lowObjs_cons (entsLow (fun _ => rfl) _) (lowObjs_cons (entsLow (fun _ => rfl) _) (lowObjs_cons rfl (lowObjs_cons rfl rfl))))))))))) (.one (.tmp rfl)) ?_
    exact ⟨rfl, rfl⟩
  · -- g1 is False
    have hr := ite_f g1 hr
    refine LOps.gd rfl rfl rfl (gd g1 rfl) rfl (LOp.move rfl rfl) ?_
    refine LOps.gd rfl rfl rfl (gd g1 rfl) rfl (LOp.fieldAddr rfl rfl ft82_1) ?_
    refine LOps.gd rfl rfl rfl (gd g1 rfl) rfl (LOp.load rfl rfl rfl vt3 rfl rfl) ?_
    refine LOps.gd rfl rfl rfl (gd g1 rfl) rfl (LOp.bin rfl rfl rfl rfl) ?_
    refine LOps.st rfl rfl rfl (LOp.pickF rfl (gdl g1 rfl) rfl) ?_
    refine LOps.st rfl rfl rfl (LOp.assign rfl rfl) ?_
    refine LOps.nil ?_
    refine thn_n ?_
    refine LW.ret ?_
    obtain rfl := Option.some.inj hr
    refine fin_retW (env' := [(3, .p (.bool (decide (((findE sm v.Head).getD 0) > v.Slot))))]) (H' := [.dead, .box [.p (.slice 5 (w.B.map blkP)), .p (.slice 4 (w.V.map vtP))], .dead, .dead, .dead, .dead, .map (entsOf idP (fun v => .p (.int .i64 v)) sm), .map (entsOf vtP (fun v => .p (.bool v)) hm), .box [.vec 5 4 (w.B.map blkP).length 0 (w.B.map blkP).length, .vec 4 5 (w.V.map vtP).length 0 (w.V.map vtP).length, .map 6, .map 7, .p (.int .i64 0), .p (.bool false)], .box [.ptr 8 0]]) (Weak.of 10 ⟨rfl, trivial⟩ rfl rfl rfl (lowObjs_cons rfl (lowObjs_cons rfl (lowObjs_cons rfl (lowObjs_cons rfl (lowObjs_cons rfl (lowObjs_cons rfl (lowObjs_cons (entsLow (fun _ => rfl) _) (lowObjs_cons (entsLow (fun _ => rfl) _) (lowObjs_cons rfl (lowObjs_cons rfl rfl))))))))))) (.one (.tmp rfl)) ?_
    exact ⟨rfl, rfl⟩
structure F158M_L1 where
  t8 : Int
def F158M_s1 (l : List Vt) (sm : List (ID × Int)) (x1 : F158M_L1) : Option (F158M_L1 ⊕ (F158M_L1 ⊕ Int)) :=
  bif decide (x1.t8 < (l.length : Int)) then
    (ix l x1.t8).bind fun y1 =>
    (F131 y1 sm).bind fun v2 =>
    bif v2 then
      some (.inr (.inr x1.t8))
    else
      some (.inl (F158M_L1.mk (IntKind.i64.wrap (x1.t8 + 1))))
  else
    some (.inr (.inl (F158M_L1.mk x1.t8)))
def F158M (l : List Vt) (sm : List (ID × Int)) : Option Int :=
  (iter (F158M_s1 l sm) big (F158M_L1.mk 0)).bind fun b_v1 => Sum.elim (fun _ =>
    some (-1)) some b_v1
set_option maxRecDepth 100000 in
theorem cF158M {l : List Vt} {w : Vw} {sm : List (ID × Int)} {hm : List (Vt × Bool)} {r_ : Int} (hr : F158M l sm = some r_) : LC Try.prog 158 [.p (.slice 4 (l.map vtP)), .fn 131 [] [.ptr 9 0]] [.dead, .box [.p (.slice 5 (w.B.map blkP)), .p (.slice 4 (w.V.map vtP))], .dead, .dead, .dead, .dead, .map (entsOf idP (fun v => .p (.int .i64 v)) sm), .map (entsOf vtP (fun v => .p (.bool v)) hm), .box [.vec 5 4 (w.B.map blkP).length 0 (w.B.map blkP).length, .vec 4 5 (w.V.map vtP).length 0 (w.V.map vtP).length, .map 6, .map 7, .p (.int .i64 0), .p (.bool false)], .box [.ptr 8 0]] (Is (.p (.int .i64 r_)) [.dead, .box [.p (.slice 5 (w.B.map blkP)), .p (.slice 4 (w.V.map vtP))], .dead, .dead, .dead, .dead, .map (entsOf idP (fun v => .p (.int .i64 v)) sm), .map (entsOf vtP (fun v => .p (.bool v)) hm), .box [.vec 5 4 (w.B.map blkP).length 0 (w.B.map blkP).length, .vec 4 5 (w.V.map vtP).length 0 (w.V.map vtP).length, .map 6, .map 7, .p (.int .i64 0), .p (.bool false)], .box [.ptr 8 0]]) := by
  refine LC.start Try.func158 rfl rfl rfl ?_
  unfold F158M at hr
  refine LW.seq ?_
  refine LW.region ?_
  refine LOps.st rfl rfl rfl (LOp.assign rfl rfl) ?_
  refine LOps.nil ?_
  refine thn_n ?_
  refine LW.seq ?_
  refine LW.seq ?_
  refine LW.region ?_
  refine LOps.st rfl rfl rfl (LOp.move rfl rfl) ?_
  refine LOps.st rfl rfl rfl (LOp.lenM rfl rfl (by kernel_rfl)) ?_
  refine LOps.st rfl rfl rfl (LOp.move rfl rfl) ?_
  refine LOps.nil ?_
  refine thn_n ?_
  obtain ⟨b_v1, hb_v1, ho_v1⟩ := bind_get hr
  clear hr
  refine LW.tailB (b := b_v1) (E := fun v1 => [(4, .p (.int .i64 0))]) (O := fun v1 => [.dead, .box [.p (.slice 5 (w.B.map blkP)), .p (.slice 4 (w.V.map vtP))], .dead, .dead, .dead, .dead, .map (entsOf idP (fun v => .p (.int .i64 v)) sm), .map (entsOf vtP (fun v => .p (.bool v)) hm), .box [.vec 5 4 (w.B.map blkP).length 0 (w.B.map blkP).length, .vec 4 5 (w.V.map vtP).length 0 (w.V.map vtP).length, .map 6, .map 7, .p (.int .i64 0), .p (.bool false)], .box [.ptr 8 0]]) ?_ (fun v1 e_v1 env_v1 H_v1 hw_v1 => ?_)
  · refine LW.block ?_
    refine LW.iterB (E := fun x1 : F158M_L1 => [(0, .p (.slice 4 (l.map vtP))), (1, .fn 131 [] [.ptr 9 0]), (4, .p (.int .i64 0)), (7, .p (.int .i64 (l.length : Int))), (8, .p (.int .i64 x1.t8))]) (O := fun x1 => [.dead, .box [.p (.slice 5 (w.B.map blkP)), .p (.slice 4 (w.V.map vtP))], .dead, .dead, .dead, .dead, .map (entsOf idP (fun v => .p (.int .i64 v)) sm), .map (entsOf vtP (fun v => .p (.bool v)) hm), .box [.vec 5 4 (w.B.map blkP).length 0 (w.B.map blkP).length, .vec 4 5 (w.V.map vtP).length 0 (w.V.map vtP).length, .map 6, .map 7, .p (.int .i64 0), .p (.bool false)], .box [.ptr 8 0]]) hb_v1 (Weak.of 10 ⟨rfl, rfl, rfl, rfl, rfl, trivial⟩ rfl rfl rfl (lowObjs_cons rfl (lowObjs_cons rfl (lowObjs_cons rfl (lowObjs_cons rfl (lowObjs_cons rfl (lowObjs_cons rfl (lowObjs_cons (entsLow (fun _ => rfl) _) (lowObjs_cons (entsLow (fun _ => rfl) _) (lowObjs_cons rfl (lowObjs_cons rfl rfl))))))))))) (fun x1 z_x1 hr hb_x1 => ?_)
    unfold F158M_s1 at hr
    refine LW.seq ?_
    refine LW.region ?_
    refine LOps.st rfl rfl rfl (LOp.bin rfl rfl rfl rfl) ?_
    refine LOps.nil ?_
    refine thn_n ?_
    refine LW.seq ?_
    refine LW.cond rfl (fun (g1 : (decide (x1.t8 < (l.length : Int))) = true) => ?_) (fun (g1 : (decide (x1.t8 < (l.length : Int))) = false) => ?_)
    · -- g1 is True
      have hr := ite_t g1 hr
      refine LW.skip ?_
      refine thn_n ?_
      refine LW.seq ?_
      refine LW.block ?_
      refine LW.seq ?_
      refine LW.region ?_
      refine LOps.st rfl rfl rfl (LOp.move rfl rfl) ?_
      refine LOps.st rfl rfl rfl (LOp.assign rfl rfl) ?_
      refine LOps.nil ?_
      refine thn_n ?_
      refine LW.seq ?_
      refine LW.region ?_
      refine LOps.st rfl rfl rfl (LOp.move rfl rfl) ?_
      refine LOps.st rfl rfl rfl (LOp.move rfl rfl) ?_
      refine LOps.st rfl rfl rfl (LOp.move rfl rfl) ?_
      obtain ⟨y1, h_y1, hr⟩ := bind_get hr
      refine LOps.st rfl rfl rfl (LOp.indexAddrX rfl rfl rfl st68 h_y1 rfl) ?_
      refine LOps.st rfl rfl rfl (LOp.loadC rfl rfl rfl vt82 rfl rfl) ?_
      obtain ⟨v2, h_v2, hr⟩ := bind_get hr
      refine LOps.st rfl rfl rfl (LOp.call rfl rfl rfl (by kernel_rfl) (cF131 h_v2)) ?_
      refine LOps.nil ?_
      refine thn_n ?_
      refine LW.cond rfl (fun (g2 : v2 = true) => ?_) (fun (g2 : v2 = false) => ?_)
      · -- g2 is True
        have hr := ite_t g2 hr
        refine LW.seq ?_
        refine LW.region ?_
        refine LOps.st rfl rfl rfl (LOp.move rfl rfl) ?_
        refine LOps.st rfl rfl rfl (LOp.assign rfl rfl) ?_
        refine LOps.nil ?_
        refine thn_n ?_
        refine LW.ret ?_
        refine inBlk_r ?_
        refine thn_r ?_
        refine thn_r ?_
        refine inBlk_r ?_
        refine thn_r ?_
        refine thn_r ?_
        obtain rfl := Option.some.inj hr
        have hr := congrArg some (hb_x1 _ rfl)
        obtain rfl := Option.some.inj hr
        have hr := sum_r ho_v1
        obtain rfl := Option.some.inj hr
        refine fin_ret (.one (.tmp rfl)) ?_
        exact ⟨rfl, rfl⟩
      · -- g2 is False
        have hr := ite_f g2 hr
        refine LW.skip ?_
        refine inBlk_n ?_
        refine thn_n ?_
        refine LW.region ?_
        refine LOps.st rfl rfl rfl (LOp.bin rfl rfl rfl rfl) ?_
        refine LOps.st rfl rfl rfl (LOp.move rfl rfl) ?_
        refine LOps.nil ?_
        refine thn_n ?_
        obtain rfl := Option.some.inj hr
        exact ⟨_, rfl, Weak.of 10 ⟨rfl, rfl, rfl, rfl, rfl, trivial⟩ rfl rfl rfl (lowObjs_cons rfl (lowObjs_cons rfl (lowObjs_cons rfl (lowObjs_cons rfl (lowObjs_cons rfl (lowObjs_cons rfl (lowObjs_cons (entsLow (fun _ => rfl) _) (lowObjs_cons (entsLow (fun _ => rfl) _) (lowObjs_cons rfl (lowObjs_cons rfl rfl))))))))))⟩
    · -- g1 is False
      have hr := ite_f g1 hr
      refine LW.exit ?_
      refine thn_e ?_
      refine thn_e ?_
      refine inBlk_self ?_
      refine thn_n ?_
      obtain rfl := Option.some.inj hr
      have hr := congrArg some (hb_x1 _ rfl)
      obtain rfl := Option.some.inj hr
      exact ⟨_, rfl, Weak.of 10 ⟨rfl, trivial⟩ rfl rfl rfl (lowObjs_cons rfl (lowObjs_cons rfl (lowObjs_cons rfl (lowObjs_cons rfl (lowObjs_cons rfl (lowObjs_cons rfl (lowObjs_cons (entsLow (fun _ => rfl) _) (lowObjs_cons (entsLow (fun _ => rfl) _) (lowObjs_cons rfl (lowObjs_cons rfl rfl))))))))))⟩
  · obtain rfl := e_v1
    have hr := sum_l ho_v1
    clear hb_v1
    refine thn_n ?_
    refine LW.weak hw_v1 ?_
    refine LW.seq ?_
    refine LW.region ?_
    refine LOps.st rfl rfl rfl (LOp.assign rfl rfl) ?_
    refine LOps.nil ?_
    refine thn_n ?_
    refine LW.ret ?_
    obtain rfl := Option.some.inj hr
    refine fin_ret (.one (.tmp rfl)) ?_
    exact ⟨rfl, rfl⟩
def F132 (l : List Vt) (sm : List (ID × Int)) : Option Bool :=
  (F158M l sm).bind fun v1 =>
  some (decide (v1 ≥ 0))
set_option maxRecDepth 100000 in
theorem cF132 {l : List Vt} {w : Vw} {sm : List (ID × Int)} {hm : List (Vt × Bool)} {r_ : Bool} (hr : F132 l sm = some r_) : LC Try.prog 132 [.p (.slice 4 (l.map vtP)), .fn 131 [] [.ptr 9 0]] [.dead, .box [.p (.slice 5 (w.B.map blkP)), .p (.slice 4 (w.V.map vtP))], .dead, .dead, .dead, .dead, .map (entsOf idP (fun v => .p (.int .i64 v)) sm), .map (entsOf vtP (fun v => .p (.bool v)) hm), .box [.vec 5 4 (w.B.map blkP).length 0 (w.B.map blkP).length, .vec 4 5 (w.V.map vtP).length 0 (w.V.map vtP).length, .map 6, .map 7, .p (.int .i64 0), .p (.bool false)], .box [.ptr 8 0]] (Is (.p (.bool r_)) [.dead, .box [.p (.slice 5 (w.B.map blkP)), .p (.slice 4 (w.V.map vtP))], .dead, .dead, .dead, .dead, .map (entsOf idP (fun v => .p (.int .i64 v)) sm), .map (entsOf vtP (fun v => .p (.bool v)) hm), .box [.vec 5 4 (w.B.map blkP).length 0 (w.B.map blkP).length, .vec 4 5 (w.V.map vtP).length 0 (w.V.map vtP).length, .map 6, .map 7, .p (.int .i64 0), .p (.bool false)], .box [.ptr 8 0]]) := by
  refine LC.start Try.func132 rfl rfl rfl ?_
  unfold F132 at hr
  refine LW.seq ?_
  refine LW.region ?_
  refine LOps.st rfl rfl rfl (LOp.assign rfl rfl) ?_
  refine LOps.nil ?_
  refine thn_n ?_
  refine LW.seq ?_
  refine LW.region ?_
  refine LOps.st rfl rfl rfl (LOp.move rfl rfl) ?_
  refine LOps.st rfl rfl rfl (LOp.move rfl rfl) ?_
  obtain ⟨v1, h_v1, hr⟩ := bind_get hr
  refine LOps.st rfl rfl rfl (LOp.call rfl rfl rfl (by kernel_rfl) (cF158M h_v1)) ?_
  refine LOps.st rfl rfl rfl (LOp.bin rfl rfl rfl rfl) ?_
  refine LOps.st rfl rfl rfl (LOp.assign rfl rfl) ?_
  refine LOps.nil ?_
  refine thn_n ?_
  refine LW.ret ?_
  obtain rfl := Option.some.inj hr
  refine fin_ret (.one (.tmp rfl)) ?_
  exact ⟨rfl, rfl⟩
def F89 (c : Cf) (w : Vw) : Option Bool :=
  (
    (F64 c).bind fun v2 =>
    bif !v2 then
      some true
    else
      (F52 w.B).bind fun v3 =>
      bif !v3 then
        some true
      else
        bif decide ((w.B.length : Int) > 60) then
          some true
        else
          some (decide ((w.V.length : Int) > 240))
  ).bind fun v1 =>
  bif v1 then
    some false
  else
    (F85 c w).bind fun v4 =>
    (
      bif (v4.B.length : Int) != (w.B.length : Int) then
        some true
      else
        some ((v4.V.length : Int) != (w.V.length : Int))
    ).bind fun v5 =>
    bif v5 then
      some false
    else
      (F130 w 0).bind fun v6 =>
      bif fewE v6.2 then
        bif (v6.2.length : Int) == (w.V.length : Int) then
          (F132 w.V v6.1).bind fun v7 =>
          some (!v7)
        else
          some false
      else none
set_option maxRecDepth 100000 in
theorem c89 {c : Cf} {w : Vw} {r_ : Bool} (hr : F89 c w = some r_) : LPure Try.prog 89 [cfP c, vwP w] [.bool r_] := by
  refine LPure.start Try.func89 rfl rfl rfl rfl ?_
  unfold F89 at hr
  refine LW.seq ?_
  refine LW.region ?_
  refine LOps.st rfl rfl rfl (LOp.box rfl rfl rfl rfl rfl) ?_
  refine LOps.st rfl rfl rfl (LOp.box rfl rfl rfl rfl rfl) ?_
  refine LOps.st rfl rfl rfl (LOp.assign rfl rfl) ?_
  refine LOps.nil ?_
  refine thn_n ?_
  refine LW.seq ?_
  obtain ⟨v1, hb_v1, ho_v1⟩ := bind_get hr
  clear hr
  refine LW.cut (E := [(2, .ptr 0 0), (3, .ptr 1 0), (4, .p (.bool false)), (28, .p (.bool v1))]) (O := [.box [.p (.slice 1 (c.W.map i64P)), .p (.int .u64 c.Seed), .p (.int .i64 c.Epoch), .p (.int .i64 c.Num), .p (.int .i64 c.Den)], .box [.p (.slice 5 (w.B.map blkP)), .p (.slice 4 (w.V.map vtP))]]) ?_ ?_
  · have hr := hb_v1
    refine LW.region ?_
    refine LOps.st rfl rfl rfl (LOp.load rfl rfl rfl vt55 rfl rfl) ?_
    obtain ⟨v2, h_v2, hr⟩ := bind_get hr
    refine LOps.st rfl rfl rfl (LOp.call rfl rfl rfl (by kernel_rfl) (LC.pure (c64 h_v2) (.cons Conv.p .nil))) ?_
    refine LOps.st rfl rfl rfl (LOp.not rfl rfl) ?_
    refine LOps.st rfl rfl rfl (LOp.move rfl rfl) ?_
    refine LOps.cases 11 rfl (fun (g1 : (!v2) = true) => ?_) (fun (g1 : (!v2) = false) => ?_)
    · -- g1 is True
      have hr := ite_t g1 hr
      refine LOps.sk rfl rfl rfl (gd g1 rfl) rfl rfl ?_
      refine LOps.sk rfl rfl rfl (gd g1 rfl) rfl rfl ?_
      refine LOps.sk rfl rfl rfl (gd g1 rfl) rfl rfl ?_
      refine LOps.sk rfl rfl rfl (gd g1 rfl) rfl rfl ?_
      refine LOps.st rfl rfl rfl (LOp.pickT rfl (gdl g1 rfl) rfl) ?_
      refine LOps.st rfl rfl rfl (LOp.move rfl rfl) ?_
      refine LOps.sk rfl rfl rfl rfl rfl rfl ?_
      refine LOps.sk rfl rfl rfl rfl rfl rfl ?_
      refine LOps.sk rfl rfl rfl rfl rfl rfl ?_
      refine LOps.sk rfl rfl rfl rfl rfl rfl ?_
      refine LOps.st rfl rfl rfl (LOp.pickT rfl rfl rfl) ?_
      refine LOps.st rfl rfl rfl (LOp.move rfl rfl) ?_
      refine LOps.sk rfl rfl rfl rfl rfl rfl ?_
      refine LOps.sk rfl rfl rfl rfl rfl rfl ?_
      refine LOps.sk rfl rfl rfl rfl rfl rfl ?_
      refine LOps.sk rfl rfl rfl rfl rfl rfl ?_
      refine LOps.st rfl rfl rfl (LOp.pickT rfl rfl rfl) ?_
      refine LOps.nil ?_
      refine thn_n ?_
      obtain rfl := Option.some.inj hr
      exact Weak.of 2 ⟨rfl, rfl, rfl, rfl, trivial⟩ rfl rfl rfl rfl
    · -- g1 is False
      have hr := ite_f g1 hr
      refine LOps.gd rfl rfl rfl (gd g1 rfl) rfl (LOp.fieldAddr rfl rfl ft75_0) ?_
      refine LOps.gd rfl rfl rfl (gd g1 rfl) rfl (LOp.load rfl rfl rfl vt27 rfl rfl) ?_
      obtain ⟨v3, h_v3, hr⟩ := bind_get hr
      refine LOps.gd rfl rfl rfl (gd g1 rfl) rfl (LOp.call rfl rfl rfl (by kernel_rfl) (LC.pure (c52 h_v3) (.cons Conv.p .nil))) ?_
      refine LOps.gd rfl rfl rfl (gd g1 rfl) rfl (LOp.not rfl rfl) ?_
      refine LOps.st rfl rfl rfl (LOp.pickF rfl (gdl g1 rfl) rfl) ?_
      refine LOps.st rfl rfl rfl (LOp.move rfl rfl) ?_
      refine LOps.cases 17 rfl (fun (g2 : (!v3) = true) => ?_) (fun (g2 : (!v3) = false) => ?_)
      · -- g2 is True
        have hr := ite_t g2 hr
        refine LOps.sk rfl rfl rfl (gd g2 rfl) rfl rfl ?_
        refine LOps.sk rfl rfl rfl (gd g2 rfl) rfl rfl ?_
        refine LOps.sk rfl rfl rfl (gd g2 rfl) rfl rfl ?_
        refine LOps.sk rfl rfl rfl (gd g2 rfl) rfl rfl ?_
        refine LOps.st rfl rfl rfl (LOp.pickT rfl (gdl g2 rfl) rfl) ?_
        refine LOps.st rfl rfl rfl (LOp.move rfl rfl) ?_
        refine LOps.sk rfl rfl rfl rfl rfl rfl ?_
        refine LOps.sk rfl rfl rfl rfl rfl rfl ?_
        refine LOps.sk rfl rfl rfl rfl rfl rfl ?_
        refine LOps.sk rfl rfl rfl rfl rfl rfl ?_
        refine LOps.st rfl rfl rfl (LOp.pickT rfl rfl rfl) ?_
        refine LOps.nil ?_
        refine thn_n ?_
        obtain rfl := Option.some.inj hr
        exact Weak.of 2 ⟨rfl, rfl, rfl, rfl, trivial⟩ rfl rfl rfl rfl
      · -- g2 is False
        have hr := ite_f g2 hr
        refine LOps.gd rfl rfl rfl (gd g2 rfl) rfl (LOp.fieldAddr rfl rfl ft75_0) ?_
        refine LOps.gd rfl rfl rfl (gd g2 rfl) rfl (LOp.load rfl rfl rfl vt27 rfl rfl) ?_
        refine LOps.gd rfl rfl rfl (gd g2 rfl) rfl (LOp.lenM rfl rfl (by kernel_rfl)) ?_
        refine LOps.gd rfl rfl rfl (gd g2 rfl) rfl (LOp.bin rfl rfl rfl rfl) ?_
        refine LOps.st rfl rfl rfl (LOp.pickF rfl (gdl g2 rfl) rfl) ?_
        refine LOps.st rfl rfl rfl (LOp.move rfl rfl) ?_
        refine LOps.cases 23 rfl (fun (g3 : (decide ((w.B.length : Int) > 60)) = true) => ?_) (fun (g3 : (decide ((w.B.length : Int) > 60)) = false) => ?_)
        · -- g3 is True
          have hr := ite_t g3 hr
          refine LOps.sk rfl rfl rfl (gd g3 rfl) rfl rfl ?_
          refine LOps.sk rfl rfl rfl (gd g3 rfl) rfl rfl ?_
          refine LOps.sk rfl rfl rfl (gd g3 rfl) rfl rfl ?_
          refine LOps.sk rfl rfl rfl (gd g3 rfl) rfl rfl ?_
          refine LOps.st rfl rfl rfl (LOp.pickT rfl (gdl g3 rfl) rfl) ?_
          refine LOps.nil ?_
          refine thn_n ?_
          obtain rfl := Option.some.inj hr
          exact Weak.of 2 ⟨rfl, rfl, rfl, rfl, trivial⟩ rfl rfl rfl rfl
        · -- g3 is False
          have hr := ite_f g3 hr
          refine LOps.gd rfl rfl rfl (gd g3 rfl) rfl (LOp.fieldAddr rfl rfl ft75_1) ?_
          refine LOps.gd rfl rfl rfl (gd g3 rfl) rfl (LOp.load rfl rfl rfl vt68 rfl rfl) ?_
          refine LOps.gd rfl rfl rfl (gd g3 rfl) rfl (LOp.lenM rfl rfl (by kernel_rfl)) ?_
          refine LOps.gd rfl rfl rfl (gd g3 rfl) rfl (LOp.bin rfl rfl rfl rfl) ?_
          refine LOps.st rfl rfl rfl (LOp.pickF rfl (gdl g3 rfl) rfl) ?_
          refine LOps.nil ?_
          refine thn_n ?_
          obtain rfl := Option.some.inj hr
          exact Weak.of 2 ⟨rfl, rfl, rfl, rfl, trivial⟩ rfl rfl rfl rfl
  · have hr := ho_v1
    clear hb_v1
    refine LW.cond rfl (fun (g4 : v1 = true) => ?_) (fun (g4 : v1 = false) => ?_)
    · -- g4 is True
      have hr := ite_t g4 hr
      refine LW.seq ?_
      refine LW.region ?_
      refine LOps.st rfl rfl rfl (LOp.assign rfl rfl) ?_
      refine LOps.nil ?_
      refine thn_n ?_
      refine LW.ret ?_
      refine thn_r ?_
      obtain rfl := Option.some.inj hr
      refine finP_ret (.one (.tmp rfl)) ?_
      exact Conv.p
    · -- g4 is False
      have hr := ite_f g4 hr
      refine LW.skip ?_
      refine thn_n ?_
      refine LW.seq ?_
      refine LW.region ?_
      refine LOps.st rfl rfl rfl (LOp.load rfl rfl rfl vt55 rfl rfl) ?_
      refine LOps.st rfl rfl rfl (LOp.load rfl rfl rfl vt75 rfl rfl) ?_
      obtain ⟨v4, h_v4, hr⟩ := bind_get hr
      refine LOps.st rfl rfl rfl (LOp.call rfl rfl rfl (by kernel_rfl) (LC.pure (c85 h_v4) (.cons Conv.p (.cons Conv.p .nil)))) ?_
      refine LOps.st rfl rfl rfl (LOp.alloc rfl zt75 rfl rfl) ?_
      refine LOps.st rfl rfl rfl (LOp.store rfl rfl rfl rfl vt75 rfl rfl rfl rfl) ?_
      refine LOps.nil ?_
      refine thn_n ?_
      refine LW.seq ?_
      obtain ⟨v5, hb_v5, ho_v5⟩ := bind_get hr
      clear hr
      refine LW.cut (E := [(3, .ptr 1 0), (4, .p (.bool false)), (47, .p (.bool v5))]) (O := [.box [.p (.slice 1 (c.W.map i64P)), .p (.int .u64 c.Seed), .p (.int .i64 c.Epoch), .p (.int .i64 c.Num), .p (.int .i64 c.Den)], .box [.p (.slice 5 (w.B.map blkP)), .p (.slice 4 (w.V.map vtP))], .box [.p (.slice 5 (v4.B.map blkP)), .p (.slice 4 (v4.V.map vtP))]]) ?_ ?_
      · have hr := hb_v5
        refine LW.region ?_
        refine LOps.st rfl rfl rfl (LOp.fieldAddr rfl rfl ft75_0) ?_
        refine LOps.st rfl rfl rfl (LOp.load rfl rfl rfl vt27 rfl rfl) ?_
        refine LOps.st rfl rfl rfl (LOp.lenM rfl rfl (by kernel_rfl)) ?_
        refine LOps.st rfl rfl rfl (LOp.fieldAddr rfl rfl ft75_0) ?_
        refine LOps.st rfl rfl rfl (LOp.load rfl rfl rfl vt27 rfl rfl) ?_
        refine LOps.st rfl rfl rfl (LOp.lenM rfl rfl (by kernel_rfl)) ?_
        refine LOps.st rfl rfl rfl (LOp.bin rfl rfl rfl rfl) ?_
        refine LOps.st rfl rfl rfl (LOp.move rfl rfl) ?_
        refine LOps.cases 39 rfl (fun (g5 : ((v4.B.length : Int) != (w.B.length : Int)) = true) => ?_) (fun (g5 : ((v4.B.length : Int) != (w.B.length : Int)) = false) => ?_)
        · -- g5 is True
          have hr := ite_t g5 hr
          refine LOps.sk rfl rfl rfl (gd g5 rfl) rfl rfl ?_
          refine LOps.sk rfl rfl rfl (gd g5 rfl) rfl rfl ?_
          refine LOps.sk rfl rfl rfl (gd g5 rfl) rfl rfl ?_
          refine LOps.sk rfl rfl rfl (gd g5 rfl) rfl rfl ?_
          refine LOps.sk rfl rfl rfl (gd g5 rfl) rfl rfl ?_
          refine LOps.sk rfl rfl rfl (gd g5 rfl) rfl rfl ?_
          refine LOps.sk rfl rfl rfl (gd g5 rfl) rfl rfl ?_
          refine LOps.st rfl rfl rfl (LOp.pickT rfl (gdl g5 rfl) rfl) ?_
          refine LOps.nil ?_
          refine thn_n ?_
          obtain rfl := Option.some.inj hr
          exact Weak.of 3 ⟨rfl, rfl, rfl, trivial⟩ rfl rfl rfl rfl
        · -- g5 is False
          have hr := ite_f g5 hr
          refine LOps.gd rfl rfl rfl (gd g5 rfl) rfl (LOp.fieldAddr rfl rfl ft75_1) ?_
          refine LOps.gd rfl rfl rfl (gd g5 rfl) rfl (LOp.load rfl rfl rfl vt68 rfl rfl) ?_
          refine LOps.gd rfl rfl rfl (gd g5 rfl) rfl (LOp.lenM rfl rfl (by kernel_rfl)) ?_
          refine LOps.gd rfl rfl rfl (gd g5 rfl) rfl (LOp.fieldAddr rfl rfl ft75_1) ?_
          refine LOps.gd rfl rfl rfl (gd g5 rfl) rfl (LOp.load rfl rfl rfl vt68 rfl rfl) ?_
          refine LOps.gd rfl rfl rfl (gd g5 rfl) rfl (LOp.lenM rfl rfl (by kernel_rfl)) ?_
          refine LOps.gd rfl rfl rfl (gd g5 rfl) rfl (LOp.bin rfl rfl rfl rfl) ?_
          refine LOps.st rfl rfl rfl (LOp.pickF rfl (gdl g5 rfl) rfl) ?_
          refine LOps.nil ?_
          refine thn_n ?_
          obtain rfl := Option.some.inj hr
          exact Weak.of 3 ⟨rfl, rfl, rfl, trivial⟩ rfl rfl rfl rfl
      · have hr := ho_v5
        clear hb_v5
        refine LW.cond rfl (fun (g6 : v5 = true) => ?_) (fun (g6 : v5 = false) => ?_)
        · -- g6 is True
          have hr := ite_t g6 hr
          refine LW.seq ?_
          refine LW.region ?_
          refine LOps.st rfl rfl rfl (LOp.assign rfl rfl) ?_
          refine LOps.nil ?_
          refine thn_n ?_
          refine LW.ret ?_
          refine thn_r ?_
          obtain rfl := Option.some.inj hr
          refine finP_ret (.one (.tmp rfl)) ?_
          exact Conv.p
        · -- g6 is False
          have hr := ite_f g6 hr
          refine LW.skip ?_
          refine thn_n ?_
          refine LW.seq ?_
          refine LW.region ?_
          refine LOps.st rfl rfl rfl (LOp.load rfl rfl rfl vt75 rfl rfl) ?_
          obtain ⟨v6, h_v6, hr⟩ := bind_get hr
          refine LOps.st rfl rfl rfl (LOp.call rfl rfl rfl (by kernel_rfl) (LC.frameX (x' := .ptr 8 0) (H' := [.box [.p (.slice 1 (c.W.map i64P)), .p (.int .u64 c.Seed), .p (.int .i64 c.Epoch), .p (.int .i64 c.Num), .p (.int .i64 c.Den)], .box [.p (.slice 5 (w.B.map blkP)), .p (.slice 4 (w.V.map vtP))], .box [.p (.slice 5 (v4.B.map blkP)), .p (.slice 4 (v4.V.map vtP))], .box [.p (.slice 5 (w.B.map blkP)), .p (.slice 4 (w.V.map vtP))], .vec 5 (w.B.map blkP), .vec 4 (w.V.map vtP), .map (entsOf idP (fun v => .p (.int .i64 v)) v6.1), .map (entsOf vtP (fun v => .p (.bool v)) v6.2), .box [.vec 5 4 (w.B.map blkP).length 0 (w.B.map blkP).length, .vec 4 5 (w.V.map vtP).length 0 (w.V.map vtP).length, .map 6, .map 7, .p (.int .i64 0), .p (.bool false)]]) (cF130 h_v6) (.consC Conv.p (.consC Conv.p .nil)) rfl rfl (by simp only [List.map_cons, List.map_nil, List.cons_append, List.nil_append, LObj.shift, LV.shifts, LV.shift, entsShI, entsShB] <;> rfl))) ?_
          refine LOps.st rfl rfl rfl (LOp.alloc rfl zt145 rfl rfl) ?_
          refine LOps.st rfl rfl rfl (LOp.store rfl rfl rfl rfl vt145 rfl rfl rfl rfl) ?_
          refine LOps.nil ?_
          refine thn_n ?_
          refine LW.seq ?_
          refine LW.ent (Ent.kill (i := 0) rfl) ?_
          refine LW.ent (Ent.kill (i := 2) rfl) ?_
          refine LW.ent (Ent.kill (i := 3) rfl) ?_
          refine LW.ent (Ent.kill (i := 4) rfl) ?_
          refine LW.ent (Ent.kill (i := 5) rfl) ?_
          refine LW.region ?_
          refine LOps.st rfl rfl rfl (LOp.makeFunc rfl rfl rfl) ?_
          refine LOps.st rfl rfl rfl (LOp.assign rfl rfl) ?_
          refine LOps.nil ?_
          refine thn_n ?_
          refine LW.seq ?_
          refine LW.draw (by kernel_rfl) (by kernel_rfl) ?_
          refine LO.st rfl rfl rfl (LOp.load rfl rfl rfl vt145 rfl rfl) ?_
          refine LO.st rfl rfl rfl (LOp.nilCheck rfl rfl) ?_
          refine LO.st rfl rfl rfl (LOp.fieldAddr rfl rfl ft149_2) ?_
          refine LO.st rfl rfl rfl (LOp.load rfl rfl rfl vt147 rfl rfl) ?_
          obtain ⟨q1, hr⟩ := grd_get hr
          refine LO.st rfl rfl rfl (LOp.lenMapX rfl rfl rfl (by kernel_rfl) q1) ?_
          refine LO.st rfl rfl rfl (LOp.fieldAddr rfl rfl ft75_1) ?_
          refine LO.st rfl rfl rfl (LOp.load rfl rfl rfl vt68 rfl rfl) ?_
          refine LO.st rfl rfl rfl (LOp.lenM rfl rfl (by kernel_rfl)) ?_
          refine LO.st rfl rfl rfl (LOp.bin rfl rfl rfl rfl) ?_
          refine LO.st rfl rfl rfl (LOp.move rfl rfl) ?_
          refine LO.cases 60 rfl (fun (g7 : ((v6.2.length : Int) == (w.V.length : Int)) = true) => ?_) (fun (g7 : ((v6.2.length : Int) == (w.V.length : Int)) = false) => ?_)
          · -- g7 is True
            have hr := ite_t g7 hr
            refine LO.gd rfl rfl rfl (gd g7 rfl) rfl (LOp.fieldAddr rfl rfl ft75_1) ?_
            refine LO.gd rfl rfl rfl (gd g7 rfl) rfl (LOp.load rfl rfl rfl vt68 rfl rfl) ?_
            refine LO.gd rfl rfl rfl (gd g7 rfl) rfl (LOp.move rfl rfl) ?_
            obtain ⟨v7, h_v7, hr⟩ := bind_get hr
            refine LO.gd rfl rfl rfl (gd g7 rfl) rfl (LOp.call rfl rfl rfl (by kernel_rfl) (cF132 h_v7)) ?_
            refine LO.gd rfl rfl rfl (gd g7 rfl) rfl (LOp.not rfl rfl) ?_
            refine LO.st rfl rfl rfl (LOp.pickT rfl (gdl g7 rfl) rfl) ?_
            refine LO.st rfl rfl rfl (LOp.assign rfl rfl) ?_
            refine LO.nil ?_
            refine thn_n ?_
            refine LW.ret ?_
            obtain rfl := Option.some.inj hr
            refine finP_ret (.one (.tmp rfl)) ?_
            exact Conv.p
          · -- g7 is False
            have hr := ite_f g7 hr
            refine LO.sk rfl rfl rfl (gd g7 rfl) rfl rfl ?_
            refine LO.sk rfl rfl rfl (gd g7 rfl) rfl rfl ?_
            refine LO.sk rfl rfl rfl (gd g7 rfl) rfl rfl ?_
            refine LO.sk rfl rfl rfl (gd g7 rfl) rfl rfl ?_
            refine LO.sk rfl rfl rfl (gd g7 rfl) rfl rfl ?_
            refine LO.st rfl rfl rfl (LOp.pickF rfl (gdl g7 rfl) rfl) ?_
            refine LO.st rfl rfl rfl (LOp.assign rfl rfl) ?_
            refine LO.nil ?_
            refine thn_n ?_
            refine LW.ret ?_
            obtain rfl := Option.some.inj hr
            refine finP_ret (.one (.tmp rfl)) ?_
            exact Conv.p
end Go.Mg
