/- References of trees and cursors. The references of layer 6 tell what the program's trees tell: plain laws. Conditions: blocks' numbers are of their kinds; not too many blocks. Conditions: none. -/
import Derived.Test.YtlhocfhoocmfiaaL3
namespace Go.Mg
open Go.Proofs
structure F98_L1 where
  i : Int
def F98_s1 (names : List ID) (id : ID) (x1 : F98_L1) : Option (F98_L1 ⊕ (F98_L1 ⊕ Int)) :=
  bif decide (x1.i < (names.length : Int)) then
    (ix names x1.i).bind fun y1 =>
    bif ((y1.1 == id.1) && ((y1.2 == id.2) && true)) then
      some (.inr (.inr x1.i))
    else
      some (.inl (F98_L1.mk (IntKind.i64.wrap (x1.i + 1))))
  else
    some (.inr (.inl (F98_L1.mk x1.i)))
def F98 (names : List ID) (id : ID) : Option Int :=
  (iter (F98_s1 names id) big (F98_L1.mk 0)).bind fun b_v1 => Sum.elim (fun _ =>
    some (-1)) some b_v1
set_option maxRecDepth 100000 in
theorem c98 {names : List ID} {id : ID} {r_ : Int} (hr : F98 names id = some r_) : LPure Try.prog 98 [.slice 2 (names.map idP), idP id] [.int .i64 r_] := by
  refine LPure.start Try.func98 rfl rfl rfl rfl ?_
  unfold F98 at hr
  refine LW.seq ?_
  refine LW.region ?_
  refine LOps.st rfl rfl rfl (LOp.box rfl rfl rfl rfl rfl) ?_
  refine LOps.st rfl rfl rfl (LOp.assign rfl rfl) ?_
  refine LOps.nil ?_
  refine thn_n ?_
  refine LW.seq ?_
  refine LW.seq ?_
  refine LW.region ?_
  refine LOps.st rfl rfl rfl (LOp.assign rfl rfl) ?_
  refine LOps.nil ?_
  refine thn_n ?_
  obtain ⟨b_v1, hb_v1, ho_v1⟩ := bind_get hr
  clear hr
  refine LW.tailB (b := b_v1) (E := fun v1 => [(4, .p (.int .i64 0))]) (O := fun v1 => [.box [.p (.int .u64 id.1), .p (.int .u64 id.2)]]) ?_ (fun v1 e_v1 env_v1 H_v1 hw_v1 => ?_)
  · refine LW.block ?_
    refine LW.iterB (E := fun x1 : F98_L1 => [(0, .p (.slice 2 (names.map idP))), (3, .ptr 0 0), (4, .p (.int .i64 0)), (5, .p (.int .i64 x1.i))]) (O := fun x1 => [.box [.p (.int .u64 id.1), .p (.int .u64 id.2)]]) hb_v1 (Weak.of 1 ⟨rfl, rfl, rfl, rfl, trivial⟩ rfl rfl rfl rfl) (fun x1 z_x1 hr hb_x1 => ?_)
    unfold F98_s1 at hr
    refine LW.seq ?_
    refine LW.seq ?_
    refine LW.region ?_
    refine LOps.st rfl rfl rfl (LOp.move rfl rfl) ?_
    refine LOps.st rfl rfl rfl (LOp.move rfl rfl) ?_
    refine LOps.st rfl rfl rfl (LOp.lenM rfl rfl (by kernel_rfl)) ?_
    refine LOps.st rfl rfl rfl (LOp.bin rfl rfl rfl rfl) ?_
    refine LOps.nil ?_
    refine thn_n ?_
    refine LW.cond rfl (fun (g1 : (decide (x1.i < (names.length : Int))) = true) => ?_) (fun (g1 : (decide (x1.i < (names.length : Int))) = false) => ?_)
    · -- g1 is True
      have hr := ite_t g1 hr
      refine LW.skip ?_
      refine thn_n ?_
      refine LW.seq ?_
      refine LW.block ?_
      refine LW.seq ?_
      refine LW.draw (by kernel_rfl) (by kernel_rfl) ?_
      refine LO.st rfl rfl rfl (LOp.move rfl rfl) ?_
      refine LO.st rfl rfl rfl (LOp.move rfl rfl) ?_
      obtain ⟨y1, h_y1, hr⟩ := bind_get hr
      refine LO.st rfl rfl rfl (LOp.indexAddrX rfl rfl rfl st31 h_y1 rfl) ?_
      refine LO.st rfl rfl rfl (LOp.loadC rfl rfl rfl vt24 rfl rfl) ?_
      refine LO.st rfl rfl rfl (LOp.load rfl rfl rfl vt24 rfl rfl) ?_
      refine LO.st rfl rfl rfl (LOp.eqlAgg rfl rfl rfl rfl rfl eqt24) ?_
      refine LO.nil ?_
      refine thn_n ?_
      refine LW.cond rfl (fun (g2 : ((y1.1 == id.1) && ((y1.2 == id.2) && true)) = true) => ?_) (fun (g2 : ((y1.1 == id.1) && ((y1.2 == id.2) && true)) = false) => ?_)
      · -- g2 is True
        have hr := ite_t g2 hr
        refine LW.seq ?_
        refine LW.region ?_
        refine LOps.st rfl rfl rfl (LOp.move rfl rfl) ?_
        refine LOps.st rfl rfl rfl (LOp.assign rfl rfl) ?_
        refine LOps.nil ?_
        refine thn_n ?_
        refine LW.ret ?_
        refine inBlk_r ?_
        refine thn_r ?_
        refine thn_r ?_
        refine inBlk_r ?_
        refine thn_r ?_
        refine thn_r ?_
        obtain rfl := Option.some.inj hr
        have hr := congrArg some (hb_x1 _ rfl)
        obtain rfl := Option.some.inj hr
        have hr := sum_r ho_v1
        obtain rfl := Option.some.inj hr
        refine finP_ret (.one (.tmp rfl)) ?_
        exact Conv.p
      · -- g2 is False
        have hr := ite_f g2 hr
        refine LW.skip ?_
        refine inBlk_n ?_
        refine thn_n ?_
        refine LW.region ?_
        refine LOps.st rfl rfl rfl (LOp.move rfl rfl) ?_
        refine LOps.st rfl rfl rfl (LOp.bin rfl rfl rfl rfl) ?_
        refine LOps.st rfl rfl rfl (LOp.assign rfl rfl) ?_
        refine LOps.nil ?_
        refine thn_n ?_
        obtain rfl := Option.some.inj hr
        exact ⟨_, rfl, Weak.of 1 ⟨rfl, rfl, rfl, rfl, trivial⟩ rfl rfl rfl rfl⟩
    · -- g1 is False
      have hr := ite_f g1 hr
      refine LW.exit ?_
      refine thn_e ?_
      refine thn_e ?_
      refine inBlk_self ?_
      refine thn_n ?_
      obtain rfl := Option.some.inj hr
      have hr := congrArg some (hb_x1 _ rfl)
      obtain rfl := Option.some.inj hr
      exact ⟨_, rfl, Weak.of 1 ⟨rfl, trivial⟩ rfl rfl rfl rfl⟩
  · obtain rfl := e_v1
    have hr := sum_l ho_v1
    clear hb_v1
    refine thn_n ?_
    refine LW.weak hw_v1 ?_
    refine LW.seq ?_
    refine LW.region ?_
    refine LOps.st rfl rfl rfl (LOp.assign rfl rfl) ?_
    refine LOps.nil ?_
    refine thn_n ?_
    refine LW.ret ?_
    obtain rfl := Option.some.inj hr
    refine finP_ret (.one (.tmp rfl)) ?_
    exact Conv.p
structure F45_L1 where
  i : Int
def F167 (x : Int) (n : Int) : Option Int :=
  bif decide (0 ≤ n) then
    some (bits .xor .u64 x (x.fdiv (2 ^ (min (Int.toNat n) IntKind.u64.bits))))
  else none
set_option maxRecDepth 100000 in
theorem c167 {x : Int} {n : Int} {r_ : Int} (hr : F167 x n = some r_) : LPure Try.prog 167 [.int .u64 x, .int .u64 n] [.int .u64 r_] := by
  refine LPure.start Try.func167 rfl rfl rfl rfl ?_
  unfold F167 at hr
  refine LW.seq ?_
  refine LW.region ?_
  refine LOps.st rfl rfl rfl (LOp.assign rfl rfl) ?_
  refine LOps.nil ?_
  refine thn_n ?_
  refine LW.seq ?_
  refine LW.region ?_
  refine LOps.st rfl rfl rfl (LOp.move rfl rfl) ?_
  refine LOps.st rfl rfl rfl (LOp.move rfl rfl) ?_
  refine LOps.st rfl rfl rfl (LOp.move rfl rfl) ?_
  obtain ⟨q1, hr⟩ := grd_get hr
  refine LOps.st rfl rfl rfl (LOp.shr rfl rfl rfl (of_decide_eq_true q1)) ?_
  refine LOps.st rfl rfl rfl (LOp.bin rfl rfl rfl rfl) ?_
  refine LOps.st rfl rfl rfl (LOp.assign rfl rfl) ?_
  refine LOps.nil ?_
  refine thn_n ?_
  refine LW.ret ?_
  obtain rfl := Option.some.inj hr
  refine finP_ret (.one (.tmp rfl)) ?_
  exact Conv.p
def F149 (x : Int) : Option Int :=
  (F167 x 30).bind fun v1 =>
  (F167 (IntKind.u64.wrap (v1 * 13787848793156543929)) 27).bind fun v2 =>
  (F167 (IntKind.u64.wrap (v2 * 10723151780598845931)) 31).bind fun v3 =>
  some v3
set_option maxRecDepth 100000 in
theorem c149 {x : Int} {r_ : Int} (hr : F149 x = some r_) : LPure Try.prog 149 [.int .u64 x] [.int .u64 r_] := by
  refine LPure.start Try.func149 rfl rfl rfl rfl ?_
  unfold F149 at hr
  refine LW.seq ?_
  refine LW.region ?_
  refine LOps.st rfl rfl rfl (LOp.assign rfl rfl) ?_
  refine LOps.nil ?_
  refine thn_n ?_
  refine LW.seq ?_
  refine LW.region ?_
  refine LOps.st rfl rfl rfl (LOp.move rfl rfl) ?_
  obtain ⟨v1, h_v1, hr⟩ := bind_get hr
  refine LOps.st rfl rfl rfl (LOp.call rfl rfl rfl (by kernel_rfl) (LC.pure (c167 h_v1) (.cons Conv.p (.cons Conv.p .nil)))) ?_
  refine LOps.st rfl rfl rfl (LOp.bin rfl rfl rfl rfl) ?_
  refine LOps.st rfl rfl rfl (LOp.assign rfl rfl) ?_
  refine LOps.nil ?_
  refine thn_n ?_
  refine LW.seq ?_
  refine LW.region ?_
  refine LOps.st rfl rfl rfl (LOp.move rfl rfl) ?_
  obtain ⟨v2, h_v2, hr⟩ := bind_get hr
  refine LOps.st rfl rfl rfl (LOp.call rfl rfl rfl (by kernel_rfl) (LC.pure (c167 h_v2) (.cons Conv.p (.cons Conv.p .nil)))) ?_
  refine LOps.st rfl rfl rfl (LOp.bin rfl rfl rfl rfl) ?_
  refine LOps.st rfl rfl rfl (LOp.assign rfl rfl) ?_
  refine LOps.nil ?_
  refine thn_n ?_
  refine LW.seq ?_
  refine LW.region ?_
  refine LOps.st rfl rfl rfl (LOp.move rfl rfl) ?_
  obtain ⟨v3, h_v3, hr⟩ := bind_get hr
  refine LOps.st rfl rfl rfl (LOp.call rfl rfl rfl (by kernel_rfl) (LC.pure (c167 h_v3) (.cons Conv.p (.cons Conv.p .nil)))) ?_
  refine LOps.st rfl rfl rfl (LOp.assign rfl rfl) ?_
  refine LOps.nil ?_
  refine thn_n ?_
  refine LW.ret ?_
  obtain rfl := Option.some.inj hr
  refine finP_ret (.one (.tmp rfl)) ?_
  exact Conv.p
def F115 (h : Int) (x : Int) : Option Int :=
  (F149 (IntKind.u64.wrap ((bits .xor .u64 h x) + 11400714819323198485))).bind fun v1 =>
  some v1
set_option maxRecDepth 100000 in
theorem c115 {h : Int} {x : Int} {r_ : Int} (hr : F115 h x = some r_) : LPure Try.prog 115 [.int .u64 h, .int .u64 x] [.int .u64 r_] := by
  refine LPure.start Try.func115 rfl rfl rfl rfl ?_
  unfold F115 at hr
  refine LW.seq ?_
  refine LW.region ?_
  refine LOps.st rfl rfl rfl (LOp.assign rfl rfl) ?_
  refine LOps.nil ?_
  refine thn_n ?_
  refine LW.seq ?_
  refine LW.region ?_
  refine LOps.st rfl rfl rfl (LOp.move rfl rfl) ?_
  refine LOps.st rfl rfl rfl (LOp.move rfl rfl) ?_
  refine LOps.st rfl rfl rfl (LOp.bin rfl rfl rfl rfl) ?_
  refine LOps.st rfl rfl rfl (LOp.bin rfl rfl rfl rfl) ?_
  obtain ⟨v1, h_v1, hr⟩ := bind_get hr
  refine LOps.st rfl rfl rfl (LOp.call rfl rfl rfl (by kernel_rfl) (LC.pure (c149 h_v1) (.cons Conv.p .nil))) ?_
  refine LOps.st rfl rfl rfl (LOp.assign rfl rfl) ?_
  refine LOps.nil ?_
  refine thn_n ?_
  refine LW.ret ?_
  obtain rfl := Option.some.inj hr
  refine finP_ret (.one (.tmp rfl)) ?_
  exact Conv.p
structure F100_L1 where
  a : Int
  b : Int
  i : Int
def F100_s1 (l : List Int) (x1 : F100_L1) : Option (F100_L1 ⊕ F100_L1) :=
  bif decide (x1.i ≤ (l.length : Int)) then
    (
      bif decide (x1.i < (l.length : Int)) then
        (ix l x1.i).bind fun y1 =>
        some y1
      else
        some (IntKind.u64.wrap ((l.length : Int)))
    ).bind fun v2 =>
    (F115 x1.a v2).bind fun v3 =>
    (F115 x1.b (IntKind.u64.wrap (18446744073709551615 - v2))).bind fun v4 =>
    some (.inl (F100_L1.mk v3 v4 (IntKind.i64.wrap (x1.i + 1))))
  else
    some (.inr (F100_L1.mk x1.a x1.b x1.i))
def F100 (l : List Int) : Option ID :=
  (iter (F100_s1 l) big (F100_L1.mk 1 2 0)).bind fun v1 =>
  some (v1.a, v1.b)
set_option maxRecDepth 100000 in
theorem c100 {l : List Int} {r_ : ID} (hr : F100 l = some r_) : LPure Try.prog 100 [.slice 1 (l.map wordP)] [idP r_] := by
  refine LPure.start Try.func100 rfl rfl rfl rfl ?_
  unfold F100 at hr
  refine LW.seq ?_
  refine LW.region ?_
  refine LOps.st rfl rfl rfl (LOp.alloc rfl zt24 rfl rfl) ?_
  refine LOps.nil ?_
  refine thn_n ?_
  refine LW.seq ?_
  refine LW.region ?_
  refine LOps.st rfl rfl rfl (LOp.assign rfl rfl) ?_
  refine LOps.nil ?_
  refine thn_n ?_
  refine LW.seq ?_
  refine LW.region ?_
  refine LOps.st rfl rfl rfl (LOp.assign rfl rfl) ?_
  refine LOps.nil ?_
  refine thn_n ?_
  refine LW.seq ?_
  refine LW.seq ?_
  refine LW.region ?_
  refine LOps.st rfl rfl rfl (LOp.assign rfl rfl) ?_
  refine LOps.nil ?_
  refine thn_n ?_
  obtain ⟨v1, hb_v1, ho_v1⟩ := bind_get hr
  clear hr
  refine LW.tail (E := [(2, .ptr 0 0), (3, .p (.int .u64 v1.a)), (4, .p (.int .u64 v1.b))]) (O := [.box [.p (.int .u64 0), .p (.int .u64 0)]]) ?_ (fun env_v1 H_v1 hw_v1 => ?_)
  · refine LW.block ?_
    refine LW.iterB (E := fun x1 : F100_L1 => [(0, .p (.slice 1 (l.map wordP))), (2, .ptr 0 0), (3, .p (.int .u64 x1.a)), (4, .p (.int .u64 x1.b)), (5, .p (.int .i64 x1.i))]) (O := fun x1 => [.box [.p (.int .u64 0), .p (.int .u64 0)]]) hb_v1 (Weak.of 1 ⟨rfl, rfl, rfl, rfl, rfl, trivial⟩ rfl rfl rfl rfl) (fun x1 z_x1 hr hb_x1 => ?_)
    unfold F100_s1 at hr
    refine LW.seq ?_
    refine LW.seq ?_
    refine LW.region ?_
    refine LOps.st rfl rfl rfl (LOp.move rfl rfl) ?_
    refine LOps.st rfl rfl rfl (LOp.move rfl rfl) ?_
    refine LOps.st rfl rfl rfl (LOp.lenM rfl rfl (by kernel_rfl)) ?_
    refine LOps.st rfl rfl rfl (LOp.bin rfl rfl rfl rfl) ?_
    refine LOps.nil ?_
    refine thn_n ?_
    refine LW.cond rfl (fun (g1 : (decide (x1.i ≤ (l.length : Int))) = true) => ?_) (fun (g1 : (decide (x1.i ≤ (l.length : Int))) = false) => ?_)
    · -- g1 is True
      have hr := ite_t g1 hr
      refine LW.skip ?_
      refine thn_n ?_
      refine LW.seq ?_
      refine LW.block ?_
      refine LW.seq ?_
      refine LW.region ?_
      refine LOps.st rfl rfl rfl (LOp.move rfl rfl) ?_
      refine LOps.st rfl rfl rfl (LOp.lenM rfl rfl (by kernel_rfl)) ?_
      refine LOps.st rfl rfl rfl (LOp.convert (k' := .u64) rfl rfl (by kernel_rfl)) ?_
      refine LOps.st rfl rfl rfl (LOp.assign rfl rfl) ?_
      refine LOps.nil ?_
      refine thn_n ?_
      obtain ⟨v2, hb_v2, ho_v2⟩ := bind_get hr
      clear hr
      refine LW.cut (E := [(0, .p (.slice 1 (l.map wordP))), (2, .ptr 0 0), (3, .p (.int .u64 x1.a)), (4, .p (.int .u64 x1.b)), (5, .p (.int .i64 x1.i)), (6, .p (.int .u64 v2))]) (O := [.box [.p (.int .u64 0), .p (.int .u64 0)]]) ?_ ?_
      · have hr := hb_v2
        refine LW.seq ?_
        refine LW.region ?_
        refine LOps.st rfl rfl rfl (LOp.move rfl rfl) ?_
        refine LOps.st rfl rfl rfl (LOp.move rfl rfl) ?_
        refine LOps.st rfl rfl rfl (LOp.lenM rfl rfl (by kernel_rfl)) ?_
        refine LOps.st rfl rfl rfl (LOp.bin rfl rfl rfl rfl) ?_
        refine LOps.nil ?_
        refine thn_n ?_
        refine LW.cond rfl (fun (g2 : (decide (x1.i < (l.length : Int))) = true) => ?_) (fun (g2 : (decide (x1.i < (l.length : Int))) = false) => ?_)
        · -- g2 is True
          have hr := ite_t g2 hr
          refine LW.region ?_
          refine LOps.st rfl rfl rfl (LOp.move rfl rfl) ?_
          refine LOps.st rfl rfl rfl (LOp.move rfl rfl) ?_
          obtain ⟨y1, h_y1, hr⟩ := bind_get hr
          refine LOps.st rfl rfl rfl (LOp.indexAddrX rfl rfl rfl st98 h_y1 rfl) ?_
          refine LOps.st rfl rfl rfl (LOp.loadC rfl rfl rfl vt22 rfl rfl) ?_
          refine LOps.st rfl rfl rfl (LOp.assign rfl rfl) ?_
          refine LOps.nil ?_
          refine thn_n ?_
          obtain rfl := Option.some.inj hr
          exact Weak.of 1 ⟨rfl, rfl, rfl, rfl, rfl, rfl, trivial⟩ rfl rfl rfl rfl
        · -- g2 is False
          have hr := ite_f g2 hr
          refine LW.skip ?_
          refine thn_n ?_
          obtain rfl := Option.some.inj hr
          exact Weak.of 1 ⟨rfl, rfl, rfl, rfl, rfl, rfl, trivial⟩ rfl rfl rfl rfl
      · have hr := ho_v2
        clear hb_v2
        refine LW.seq ?_
        refine LW.region ?_
        refine LOps.st rfl rfl rfl (LOp.move rfl rfl) ?_
        refine LOps.st rfl rfl rfl (LOp.move rfl rfl) ?_
        obtain ⟨v3, h_v3, hr⟩ := bind_get hr
        refine LOps.st rfl rfl rfl (LOp.call rfl rfl rfl (by kernel_rfl) (LC.pure (c115 h_v3) (.cons Conv.p (.cons Conv.p .nil)))) ?_
        refine LOps.st rfl rfl rfl (LOp.assign rfl rfl) ?_
        refine LOps.nil ?_
        refine thn_n ?_
        refine LW.region ?_
        refine LOps.st rfl rfl rfl (LOp.move rfl rfl) ?_
        refine LOps.st rfl rfl rfl (LOp.move rfl rfl) ?_
        refine LOps.st rfl rfl rfl (LOp.bin rfl rfl rfl rfl) ?_
        obtain ⟨v4, h_v4, hr⟩ := bind_get hr
        refine LOps.st rfl rfl rfl (LOp.call rfl rfl rfl (by kernel_rfl) (LC.pure (c115 h_v4) (.cons Conv.p (.cons Conv.p .nil)))) ?_
        refine LOps.st rfl rfl rfl (LOp.assign rfl rfl) ?_
        refine LOps.nil ?_
        refine inBlk_n ?_
        refine thn_n ?_
        refine LW.region ?_
        refine LOps.st rfl rfl rfl (LOp.move rfl rfl) ?_
        refine LOps.st rfl rfl rfl (LOp.bin rfl rfl rfl rfl) ?_
        refine LOps.st rfl rfl rfl (LOp.assign rfl rfl) ?_
        refine LOps.nil ?_
        refine thn_n ?_
        obtain rfl := Option.some.inj hr
        exact ⟨_, rfl, Weak.of 1 ⟨rfl, rfl, rfl, rfl, rfl, trivial⟩ rfl rfl rfl rfl⟩
    · -- g1 is False
      have hr := ite_f g1 hr
      refine LW.exit ?_
      refine thn_e ?_
      refine thn_e ?_
      refine inBlk_self ?_
      refine thn_n ?_
      obtain rfl := Option.some.inj hr
      have hr := congrArg some (hb_x1 _ rfl)
      obtain rfl := Option.some.inj hr
      exact Weak.of 1 ⟨rfl, rfl, rfl, trivial⟩ rfl rfl rfl rfl
  · have hr := ho_v1
    clear hb_v1
    refine thn_n ?_
    refine LW.weak hw_v1 ?_
    refine LW.seq ?_
    refine LW.region ?_
    refine LOps.st rfl rfl rfl (LOp.move rfl rfl) ?_
    refine LOps.st rfl rfl rfl (LOp.move rfl rfl) ?_
    refine LOps.st rfl rfl rfl (LOp.build rfl bt24 rfl rfl rfl) ?_
    refine LOps.st rfl rfl rfl (LOp.store rfl rfl rfl rfl vt24 rfl rfl rfl rfl) ?_
    refine LOps.nil ?_
    refine thn_n ?_
    refine LW.ret ?_
    obtain rfl := Option.some.inj hr
    refine finP_ret (.one (.cellAgg rfl rfl (by kernel_rfl) rfl)) ?_
    exact Conv.p
def F51 (b : Bk) : Option ID :=
  (F100 [1, IntKind.u64.wrap (b.Slot), IntKind.u64.wrap (b.From), b.Parent.1, b.Parent.2, b.Salt]).bind fun v1 =>
  some v1
set_option maxRecDepth 100000 in
theorem c51 {b : Bk} {r_ : ID} (hr : F51 b = some r_) : LPure Try.prog 51 [blkP b] [idP r_] := by
  refine LPure.start Try.func51 rfl rfl rfl rfl ?_
  unfold F51 at hr
  refine LW.seq ?_
  refine LW.region ?_
  refine LOps.st rfl rfl rfl (LOp.box rfl rfl rfl rfl rfl) ?_
  refine LOps.st rfl rfl rfl (LOp.alloc rfl zt24 rfl rfl) ?_
  refine LOps.nil ?_
  refine thn_n ?_
  refine LW.seq ?_
  refine LW.region ?_
  refine LOps.st rfl rfl rfl (LOp.fieldAddr rfl rfl ft42_0) ?_
  refine LOps.st rfl rfl rfl (LOp.load rfl rfl rfl vt3 rfl rfl) ?_
  refine LOps.st rfl rfl rfl (LOp.convert (k' := .u64) rfl rfl (by kernel_rfl)) ?_
  refine LOps.st rfl rfl rfl (LOp.fieldAddr rfl rfl ft42_1) ?_
  refine LOps.st rfl rfl rfl (LOp.load rfl rfl rfl vt3 rfl rfl) ?_
  refine LOps.st rfl rfl rfl (LOp.convert (k' := .u64) rfl rfl (by kernel_rfl)) ?_
  refine LOps.st rfl rfl rfl (LOp.fieldAddr rfl rfl ft42_2) ?_
  refine LOps.st rfl rfl rfl (LOp.indexAddrA rfl rfl rfl at24 (by decide) (by decide)) ?_
  refine LOps.st rfl rfl rfl (LOp.load rfl rfl rfl vt22 rfl rfl) ?_
  refine LOps.st rfl rfl rfl (LOp.fieldAddr rfl rfl ft42_2) ?_
  refine LOps.st rfl rfl rfl (LOp.indexAddrA rfl rfl rfl at24 (by decide) (by decide)) ?_
  refine LOps.st rfl rfl rfl (LOp.load rfl rfl rfl vt22 rfl rfl) ?_
  refine LOps.st rfl rfl rfl (LOp.fieldAddr rfl rfl ft42_3) ?_
  refine LOps.st rfl rfl rfl (LOp.load rfl rfl rfl vt22 rfl rfl) ?_
  refine LOps.st rfl rfl rfl (LOp.buildSlice rfl st98 rfl rfl rfl rfl rfl) ?_
  obtain ⟨v1, h_v1, hr⟩ := bind_get hr
  refine LOps.st rfl rfl rfl (LOp.call rfl rfl rfl (by kernel_rfl) (LC.pure (c100 h_v1) (.cons Conv.p .nil))) ?_
  refine LOps.st rfl rfl rfl (LOp.store rfl rfl rfl rfl vt24 rfl rfl rfl rfl) ?_
  refine LOps.nil ?_
  refine thn_n ?_
  refine LW.ret ?_
  obtain rfl := Option.some.inj hr
  refine finP_ret (.one (.cellAgg rfl rfl (by kernel_rfl) rfl)) ?_
  exact Conv.p
structure F97_L1 where
  i : Int
  out : List ID
def F97_s1 (l : List Bk) (x1 : F97_L1) : Option (F97_L1 ⊕ F97_L1) :=
  bif decide (x1.i < (l.length : Int)) then
    (ix l x1.i).bind fun y1 =>
    (F51 y1).bind fun v2 =>
    bif room x1.out.length [v2].length 16 then
      some (.inl (F97_L1.mk (IntKind.i64.wrap (x1.i + 1)) (x1.out ++ [v2])))
    else none
  else
    some (.inr (F97_L1.mk x1.i x1.out))
def F97 (l : List Bk) : Option (List ID) :=
  (iter (F97_s1 l) big (F97_L1.mk 0 ([] : List ID))).bind fun v1 =>
  some v1.out
set_option maxRecDepth 100000 in
theorem c97 {l : List Bk} {r_ : (List ID)} (hr : F97 l = some r_) : LPure Try.prog 97 [.slice 5 (l.map blkP)] [.slice 2 (r_.map idP)] := by
  refine LPure.start Try.func97 rfl rfl rfl rfl ?_
  unfold F97 at hr
  refine LW.seq ?_
  refine LW.region ?_
  refine LOps.st rfl rfl rfl (LOp.assign rfl rfl) ?_
  refine LOps.nil ?_
  refine thn_n ?_
  refine LW.seq ?_
  refine LW.region ?_
  refine LOps.st rfl rfl rfl (LOp.assign rfl rfl) ?_
  refine LOps.nil ?_
  refine thn_n ?_
  refine LW.seq ?_
  refine LW.seq ?_
  refine LW.region ?_
  refine LOps.st rfl rfl rfl (LOp.assign rfl rfl) ?_
  refine LOps.nil ?_
  refine thn_n ?_
  refine LW.ent (Ent.lazy (t := 3) (m := 2) rfl rfl rfl) ?_
  obtain ⟨v1, hb_v1, ho_v1⟩ := bind_get hr
  clear hr
  refine LW.tail (E := [(2, .zs), (3, .vec 2 0 (v1.out.map idP).length 0 (v1.out.map idP).length)]) (O := [.vec 2 (v1.out.map idP)]) ?_ (fun env_v1 H_v1 hw_v1 => ?_)
  · refine LW.block ?_
    refine LW.iterB (E := fun x1 : F97_L1 => [(0, .p (.slice 5 (l.map blkP))), (2, .zs), (3, .vec 2 0 (x1.out.map idP).length 0 (x1.out.map idP).length), (4, .p (.int .i64 x1.i))]) (O := fun x1 => [.vec 2 (x1.out.map idP)]) hb_v1 (Weak.of 1 ⟨rfl, rfl, rfl, rfl, trivial⟩ rfl rfl rfl rfl) (fun x1 z_x1 hr hb_x1 => ?_)
    unfold F97_s1 at hr
    refine LW.seq ?_
    refine LW.seq ?_
    refine LW.region ?_
    refine LOps.st rfl rfl rfl (LOp.move rfl rfl) ?_
    refine LOps.st rfl rfl rfl (LOp.move rfl rfl) ?_
    refine LOps.st rfl rfl rfl (LOp.lenM rfl rfl (by kernel_rfl)) ?_
    refine LOps.st rfl rfl rfl (LOp.bin rfl rfl rfl rfl) ?_
    refine LOps.nil ?_
    refine thn_n ?_
    refine LW.cond rfl (fun (g1 : (decide (x1.i < (l.length : Int))) = true) => ?_) (fun (g1 : (decide (x1.i < (l.length : Int))) = false) => ?_)
    · -- g1 is True
      have hr := ite_t g1 hr
      refine LW.skip ?_
      refine thn_n ?_
      refine LW.seq ?_
      refine LW.block ?_
      refine LW.region ?_
      refine LOps.st rfl rfl rfl (LOp.move rfl rfl) ?_
      refine LOps.st rfl rfl rfl (LOp.move rfl rfl) ?_
      refine LOps.st rfl rfl rfl (LOp.move rfl rfl) ?_
      obtain ⟨y1, h_y1, hr⟩ := bind_get hr
      refine LOps.st rfl rfl rfl (LOp.indexAddrX rfl rfl rfl st27 h_y1 rfl) ?_
      refine LOps.st rfl rfl rfl (LOp.loadC rfl rfl rfl vt42 rfl rfl) ?_
      obtain ⟨v2, h_v2, hr⟩ := bind_get hr
      refine LOps.st rfl rfl rfl (LOp.call rfl rfl rfl (by kernel_rfl) (LC.pure (c51 h_v2) (.cons Conv.p .nil))) ?_
      refine LOps.st rfl rfl rfl (LOp.buildSlice rfl st31 rfl rfl rfl rfl rfl) ?_
      obtain ⟨q1, hr⟩ := grd_get hr
      refine LOps.st rfl rfl rfl (LOp.appendX idP x1.out [v2] rfl rfl rfl rfl Src.p rfl st31 q1 rfl) ?_
      refine LOps.st rfl rfl rfl (LOp.assign rfl rfl) ?_
      refine LOps.nil ?_
      refine inBlk_n ?_
      refine thn_n ?_
      refine LW.region ?_
      refine LOps.st rfl rfl rfl (LOp.move rfl rfl) ?_
      refine LOps.st rfl rfl rfl (LOp.bin rfl rfl rfl rfl) ?_
      refine LOps.st rfl rfl rfl (LOp.assign rfl rfl) ?_
      refine LOps.nil ?_
      refine thn_n ?_
      obtain rfl := Option.some.inj hr
      exact ⟨_, rfl, Weak.of 1 ⟨rfl, rfl, rfl, rfl, trivial⟩ rfl rfl rfl rfl⟩
    · -- g1 is False
      have hr := ite_f g1 hr
      refine LW.exit ?_
      refine thn_e ?_
      refine thn_e ?_
      refine inBlk_self ?_
      refine thn_n ?_
      obtain rfl := Option.some.inj hr
      have hr := congrArg some (hb_x1 _ rfl)
      obtain rfl := Option.some.inj hr
      exact Weak.of 1 ⟨rfl, rfl, trivial⟩ rfl rfl rfl rfl
  · have hr := ho_v1
    clear hb_v1
    refine thn_n ?_
    refine LW.weak hw_v1 ?_
    refine LW.seq ?_
    refine LW.region ?_
    refine LOps.st rfl rfl rfl (LOp.move rfl rfl) ?_
    refine LOps.st rfl rfl rfl (LOp.assign rfl rfl) ?_
    refine LOps.nil ?_
    refine thn_n ?_
    refine LW.ret ?_
    obtain rfl := Option.some.inj hr
    refine finP_ret (.one (.tmp rfl)) ?_
    exact (Conv.vecAll rfl rfl rfl)
structure F96_L1 where
  i : Int
def F96_s1 (l : List Bk) (names : List ID) (x1 : F96_L1) : Option (F96_L1 ⊕ (F96_L1 ⊕ Bool)) :=
  bif decide (x1.i < (l.length : Int)) then
    (ix l x1.i).bind fun y1 =>
    (
      (ix names x1.i).bind fun y2 =>
      bif ((y2.1 == 0) && ((y2.2 == 0) && true)) then
        some true
      else
        bif inL names 0 x1.i then
          (ix names x1.i).bind fun y3 =>
          (F98 (names.take x1.i.toNat) y3).bind fun v3 =>
          bif decide (v3 ≥ 0) then
            some true
          else
            some (decide (y1.Slot < 1))
        else none
    ).bind fun v2 =>
    bif v2 then
      some (.inr (.inr false))
    else
      bif ((y1.Parent.1 == 0) && ((y1.Parent.2 == 0) && true)) then
        some (.inl (F96_L1.mk (IntKind.i64.wrap (x1.i + 1))))
      else
        bif inL names 0 x1.i then
          (F98 (names.take x1.i.toNat) y1.Parent).bind fun v4 =>
          bif decide (v4 < 0) then
            some (.inr (.inr false))
          else
            (ix l v4).bind fun y4 =>
            bif decide (y4.Slot ≥ y1.Slot) then
              some (.inr (.inr false))
            else
              some (.inl (F96_L1.mk (IntKind.i64.wrap (x1.i + 1))))
        else none
  else
    some (.inr (.inl (F96_L1.mk x1.i)))
def F96 (l : List Bk) (names : List ID) : Option Bool :=
  (iter (F96_s1 l names) big (F96_L1.mk 0)).bind fun b_v1 => Sum.elim (fun _ =>
    some true) some b_v1
set_option maxRecDepth 100000 in
theorem c96 {l : List Bk} {names : List ID} {r_ : Bool} (hr : F96 l names = some r_) : LPure Try.prog 96 [.slice 5 (l.map blkP), .slice 2 (names.map idP)] [.bool r_] := by
  refine LPure.start Try.func96 rfl rfl rfl rfl ?_
  unfold F96 at hr
  refine LW.seq ?_
  refine LW.region ?_
  refine LOps.st rfl rfl rfl (LOp.assign rfl rfl) ?_
  refine LOps.nil ?_
  refine thn_n ?_
  refine LW.seq ?_
  refine LW.seq ?_
  refine LW.region ?_
  refine LOps.st rfl rfl rfl (LOp.assign rfl rfl) ?_
  refine LOps.nil ?_
  refine thn_n ?_
  obtain ⟨b_v1, hb_v1, ho_v1⟩ := bind_get hr
  clear hr
  refine LW.tailB (b := b_v1) (E := fun v1 => [(4, .p (.bool false))]) (O := fun v1 => []) ?_ (fun v1 e_v1 env_v1 H_v1 hw_v1 => ?_)
  · refine LW.block ?_
    refine LW.iterB (E := fun x1 : F96_L1 => [(0, .p (.slice 5 (l.map blkP))), (1, .p (.slice 2 (names.map idP))), (4, .p (.bool false)), (5, .p (.int .i64 x1.i))]) (O := fun x1 => []) hb_v1 (Weak.of 0 ⟨rfl, rfl, rfl, rfl, trivial⟩ rfl rfl rfl rfl) (fun x1 z_x1 hr hb_x1 => ?_)
    unfold F96_s1 at hr
    refine LW.seq ?_
    refine LW.seq ?_
    refine LW.region ?_
    refine LOps.st rfl rfl rfl (LOp.move rfl rfl) ?_
    refine LOps.st rfl rfl rfl (LOp.move rfl rfl) ?_
    refine LOps.st rfl rfl rfl (LOp.lenM rfl rfl (by kernel_rfl)) ?_
    refine LOps.st rfl rfl rfl (LOp.bin rfl rfl rfl rfl) ?_
    refine LOps.nil ?_
    refine thn_n ?_
    refine LW.cond rfl (fun (g1 : (decide (x1.i < (l.length : Int))) = true) => ?_) (fun (g1 : (decide (x1.i < (l.length : Int))) = false) => ?_)
    · -- g1 is True
      have hr := ite_t g1 hr
      refine LW.skip ?_
      refine thn_n ?_
      refine LW.seq ?_
      refine LW.block ?_
      refine LW.seq ?_
      refine LW.region ?_
      refine LOps.st rfl rfl rfl (LOp.move rfl rfl) ?_
      refine LOps.st rfl rfl rfl (LOp.move rfl rfl) ?_
      obtain ⟨y1, h_y1, hr⟩ := bind_get hr
      refine LOps.st rfl rfl rfl (LOp.indexAddrX rfl rfl rfl st27 h_y1 rfl) ?_
      refine LOps.st rfl rfl rfl (LOp.loadC rfl rfl rfl vt42 rfl rfl) ?_
      refine LOps.st rfl rfl rfl (LOp.alloc rfl zt42 rfl rfl) ?_
      refine LOps.st rfl rfl rfl (LOp.store rfl rfl rfl rfl vt42 rfl rfl rfl rfl) ?_
      refine LOps.nil ?_
      refine thn_n ?_
      refine LW.seq ?_
      obtain ⟨v2, hb_v2, ho_v2⟩ := bind_get hr
      clear hr
      refine LW.cut (E := [(0, .p (.slice 5 (l.map blkP))), (1, .p (.slice 2 (names.map idP))), (4, .p (.bool false)), (5, .p (.int .i64 x1.i)), (6, .ptr 0 0), (39, .p (.bool v2))]) (O := [.box [.p (.int .i64 y1.Slot), .p (.int .i64 y1.From), .p (.int .u64 y1.Parent.1), .p (.int .u64 y1.Parent.2), .p (.int .u64 y1.Salt)]]) ?_ ?_
      · have hr := hb_v2
        refine LW.draw (by kernel_rfl) (by kernel_rfl) ?_
        refine LO.st rfl rfl rfl (LOp.move rfl rfl) ?_
        refine LO.st rfl rfl rfl (LOp.move rfl rfl) ?_
        obtain ⟨y2, h_y2, hr⟩ := bind_get hr
        refine LO.st rfl rfl rfl (LOp.indexAddrX rfl rfl rfl st31 h_y2 rfl) ?_
        refine LO.st rfl rfl rfl (LOp.loadC rfl rfl rfl vt24 rfl rfl) ?_
        refine LO.st rfl rfl rfl (LOp.build rfl bt24 rfl rfl rfl) ?_
        refine LO.st rfl rfl rfl (LOp.eqlAgg rfl rfl rfl rfl rfl eqt24) ?_
        refine LO.st rfl rfl rfl (LOp.move rfl rfl) ?_
        refine LO.cases 24 rfl (fun (g2 : ((y2.1 == 0) && ((y2.2 == 0) && true)) = true) => ?_) (fun (g2 : ((y2.1 == 0) && ((y2.2 == 0) && true)) = false) => ?_)
        · -- g2 is True
          have hr := ite_t g2 hr
          refine LO.sk rfl rfl rfl (gd g2 rfl) rfl rfl ?_
          refine LO.sk rfl rfl rfl (gd g2 rfl) rfl rfl ?_
          refine LO.sk rfl rfl rfl (gd g2 rfl) rfl rfl ?_
          refine LO.sk rfl rfl rfl (gd g2 rfl) rfl rfl ?_
          refine LO.sk rfl rfl rfl (gd g2 rfl) rfl rfl ?_
          refine LO.sk rfl rfl rfl (gd g2 rfl) rfl rfl ?_
          refine LO.sk rfl rfl rfl (gd g2 rfl) rfl rfl ?_
          refine LO.sk rfl rfl rfl (gd g2 rfl) rfl rfl ?_
          refine LO.sk rfl rfl rfl (gd g2 rfl) rfl rfl ?_
          refine LO.st rfl rfl rfl (LOp.pickT rfl (gdl g2 rfl) rfl) ?_
          refine LO.st rfl rfl rfl (LOp.move rfl rfl) ?_
          refine LO.sk rfl rfl rfl rfl rfl rfl ?_
          refine LO.sk rfl rfl rfl rfl rfl rfl ?_
          refine LO.sk rfl rfl rfl rfl rfl rfl ?_
          refine LO.st rfl rfl rfl (LOp.pickT rfl rfl rfl) ?_
          refine LO.nil ?_
          refine thn_n ?_
          obtain rfl := Option.some.inj hr
          exact Weak.of 1 ⟨rfl, rfl, rfl, rfl, rfl, rfl, trivial⟩ rfl rfl rfl rfl
        · -- g2 is False
          have hr := ite_f g2 hr
          refine LO.gd rfl rfl rfl (gd g2 rfl) rfl (LOp.move rfl rfl) ?_
          refine LO.gd rfl rfl rfl (gd g2 rfl) rfl (LOp.move rfl rfl) ?_
          obtain ⟨q1, hr⟩ := grd_get hr
          refine LO.gd rfl rfl rfl (gd g2 rfl) rfl (LOp.sliceHi rfl rfl rfl st31 q1) ?_
          refine LO.gd rfl rfl rfl (gd g2 rfl) rfl (LOp.move rfl rfl) ?_
          refine LO.gd rfl rfl rfl (gd g2 rfl) rfl (LOp.move rfl rfl) ?_
          obtain ⟨y3, h_y3, hr⟩ := bind_get hr
          refine LO.gd rfl rfl rfl (gd g2 rfl) rfl (LOp.indexAddrX rfl rfl rfl st31 h_y3 rfl) ?_
          refine LO.gd rfl rfl rfl (gd g2 rfl) rfl (LOp.loadC rfl rfl rfl vt24 rfl rfl) ?_
          obtain ⟨v3, h_v3, hr⟩ := bind_get hr
          refine LO.gd rfl rfl rfl (gd g2 rfl) rfl (LOp.call rfl rfl rfl (by kernel_rfl) (LC.pure (c98 h_v3) (.cons Conv.p (.cons Conv.p .nil)))) ?_
          refine LO.gd rfl rfl rfl (gd g2 rfl) rfl (LOp.bin rfl rfl rfl rfl) ?_
          refine LO.st rfl rfl rfl (LOp.pickF rfl (gdl g2 rfl) rfl) ?_
          refine LO.st rfl rfl rfl (LOp.move rfl rfl) ?_
          refine LO.cases 35 rfl (fun (g3 : (decide (v3 ≥ 0)) = true) => ?_) (fun (g3 : (decide (v3 ≥ 0)) = false) => ?_)
          · -- g3 is True
            have hr := ite_t g3 hr
            refine LO.sk rfl rfl rfl (gd g3 rfl) rfl rfl ?_
            refine LO.sk rfl rfl rfl (gd g3 rfl) rfl rfl ?_
            refine LO.sk rfl rfl rfl (gd g3 rfl) rfl rfl ?_
            refine LO.st rfl rfl rfl (LOp.pickT rfl (gdl g3 rfl) rfl) ?_
            refine LO.nil ?_
            refine thn_n ?_
            obtain rfl := Option.some.inj hr
            exact Weak.of 1 ⟨rfl, rfl, rfl, rfl, rfl, rfl, trivial⟩ rfl rfl rfl rfl
          · -- g3 is False
            have hr := ite_f g3 hr
            refine LO.gd rfl rfl rfl (gd g3 rfl) rfl (LOp.fieldAddr rfl rfl ft42_0) ?_
            refine LO.gd rfl rfl rfl (gd g3 rfl) rfl (LOp.load rfl rfl rfl vt3 rfl rfl) ?_
            refine LO.gd rfl rfl rfl (gd g3 rfl) rfl (LOp.bin rfl rfl rfl rfl) ?_
            refine LO.st rfl rfl rfl (LOp.pickF rfl (gdl g3 rfl) rfl) ?_
            refine LO.nil ?_
            refine thn_n ?_
            obtain rfl := Option.some.inj hr
            exact Weak.of 1 ⟨rfl, rfl, rfl, rfl, rfl, rfl, trivial⟩ rfl rfl rfl rfl
      · have hr := ho_v2
        clear hb_v2
        refine LW.cond rfl (fun (g4 : v2 = true) => ?_) (fun (g4 : v2 = false) => ?_)
        · -- g4 is True
          have hr := ite_t g4 hr
          refine LW.seq ?_
          refine LW.region ?_
          refine LOps.st rfl rfl rfl (LOp.assign rfl rfl) ?_
          refine LOps.nil ?_
          refine thn_n ?_
          refine LW.ret ?_
          refine thn_r ?_
          refine inBlk_r ?_
          refine thn_r ?_
          refine thn_r ?_
          refine inBlk_r ?_
          refine thn_r ?_
          refine thn_r ?_
          obtain rfl := Option.some.inj hr
          have hr := congrArg some (hb_x1 _ rfl)
          obtain rfl := Option.some.inj hr
          have hr := sum_r ho_v1
          obtain rfl := Option.some.inj hr
          refine finP_ret (.one (.tmp rfl)) ?_
          exact Conv.p
        · -- g4 is False
          have hr := ite_f g4 hr
          refine LW.skip ?_
          refine thn_n ?_
          refine LW.seq ?_
          refine LW.seq ?_
          refine LW.region ?_
          refine LOps.st rfl rfl rfl (LOp.fieldAddr rfl rfl ft42_2) ?_
          refine LOps.st rfl rfl rfl (LOp.load rfl rfl rfl vt24 rfl rfl) ?_
          refine LOps.st rfl rfl rfl (LOp.build rfl bt24 rfl rfl rfl) ?_
          refine LOps.st rfl rfl rfl (LOp.eqlAgg rfl rfl rfl rfl rfl eqt24) ?_
          refine LOps.nil ?_
          refine thn_n ?_
          refine LW.cond rfl (fun (g5 : ((y1.Parent.1 == 0) && ((y1.Parent.2 == 0) && true)) = true) => ?_) (fun (g5 : ((y1.Parent.1 == 0) && ((y1.Parent.2 == 0) && true)) = false) => ?_)
          · -- g5 is True
            have hr := ite_t g5 hr
            refine LW.exit ?_
            refine thn_e ?_
            refine inBlk_self ?_
            refine thn_n ?_
            refine LW.region ?_
            refine LOps.st rfl rfl rfl (LOp.move rfl rfl) ?_
            refine LOps.st rfl rfl rfl (LOp.bin rfl rfl rfl rfl) ?_
            refine LOps.st rfl rfl rfl (LOp.assign rfl rfl) ?_
            refine LOps.nil ?_
            refine thn_n ?_
            obtain rfl := Option.some.inj hr
            exact ⟨_, rfl, Weak.of 0 ⟨rfl, rfl, rfl, rfl, trivial⟩ rfl rfl rfl rfl⟩
          · -- g5 is False
            have hr := ite_f g5 hr
            refine LW.skip ?_
            refine thn_n ?_
            refine LW.seq ?_
            refine LW.draw (by kernel_rfl) (by kernel_rfl) ?_
            refine LO.st rfl rfl rfl (LOp.move rfl rfl) ?_
            refine LO.st rfl rfl rfl (LOp.move rfl rfl) ?_
            obtain ⟨q2, hr⟩ := grd_get hr
            refine LO.st rfl rfl rfl (LOp.sliceHi rfl rfl rfl st31 q2) ?_
            refine LO.st rfl rfl rfl (LOp.fieldAddr rfl rfl ft42_2) ?_
            refine LO.st rfl rfl rfl (LOp.load rfl rfl rfl vt24 rfl rfl) ?_
            obtain ⟨v4, h_v4, hr⟩ := bind_get hr
            refine LO.st rfl rfl rfl (LOp.call rfl rfl rfl (by kernel_rfl) (LC.pure (c98 h_v4) (.cons Conv.p (.cons Conv.p .nil)))) ?_
            refine LO.st rfl rfl rfl (LOp.assign rfl rfl) ?_
            refine LO.nil ?_
            refine thn_n ?_
            refine LW.seq ?_
            refine LW.draw (by kernel_rfl) (by kernel_rfl) ?_
            refine LO.st rfl rfl rfl (LOp.move rfl rfl) ?_
            refine LO.st rfl rfl rfl (LOp.bin rfl rfl rfl rfl) ?_
            refine LO.st rfl rfl rfl (LOp.move rfl rfl) ?_
            refine LO.cases 52 rfl (fun (g6 : (decide (v4 < 0)) = true) => ?_) (fun (g6 : (decide (v4 < 0)) = false) => ?_)
            · -- g6 is True
              have hr := ite_t g6 hr
              refine LO.sk rfl rfl rfl (gd g6 rfl) rfl rfl ?_
              refine LO.sk rfl rfl rfl (gd g6 rfl) rfl rfl ?_
              refine LO.sk rfl rfl rfl (gd g6 rfl) rfl rfl ?_
              refine LO.sk rfl rfl rfl (gd g6 rfl) rfl rfl ?_
              refine LO.sk rfl rfl rfl (gd g6 rfl) rfl rfl ?_
              refine LO.sk rfl rfl rfl (gd g6 rfl) rfl rfl ?_
              refine LO.sk rfl rfl rfl (gd g6 rfl) rfl rfl ?_
              refine LO.sk rfl rfl rfl (gd g6 rfl) rfl rfl ?_
              refine LO.st rfl rfl rfl (LOp.pickT rfl (gdl g6 rfl) rfl) ?_
              refine LO.nil ?_
              refine thn_n ?_
              refine LW.condT rfl ?_
              refine LW.seq ?_
              refine LW.region ?_
              refine LOps.st rfl rfl rfl (LOp.assign rfl rfl) ?_
              refine LOps.nil ?_
              refine thn_n ?_
              refine LW.ret ?_
              refine inBlk_r ?_
              refine thn_r ?_
              refine thn_r ?_
              refine inBlk_r ?_
              refine thn_r ?_
              refine thn_r ?_
              obtain rfl := Option.some.inj hr
              have hr := congrArg some (hb_x1 _ rfl)
              obtain rfl := Option.some.inj hr
              have hr := sum_r ho_v1
              obtain rfl := Option.some.inj hr
              refine finP_ret (.one (.tmp rfl)) ?_
              exact Conv.p
            · -- g6 is False
              have hr := ite_f g6 hr
              refine LO.gd rfl rfl rfl (gd g6 rfl) rfl (LOp.move rfl rfl) ?_
              refine LO.gd rfl rfl rfl (gd g6 rfl) rfl (LOp.move rfl rfl) ?_
              obtain ⟨y4, h_y4, hr⟩ := bind_get hr
              refine LO.gd rfl rfl rfl (gd g6 rfl) rfl (LOp.indexAddrX rfl rfl rfl st27 h_y4 rfl) ?_
              refine LO.gd rfl rfl rfl (gd g6 rfl) rfl (LOp.fieldAddrC rfl rfl ft42_0 rfl) ?_
              refine LO.gd rfl rfl rfl (gd g6 rfl) rfl (LOp.loadC rfl rfl rfl vt3 rfl rfl) ?_
              refine LO.gd rfl rfl rfl (gd g6 rfl) rfl (LOp.fieldAddr rfl rfl ft42_0) ?_
              refine LO.gd rfl rfl rfl (gd g6 rfl) rfl (LOp.load rfl rfl rfl vt3 rfl rfl) ?_
              refine LO.gd rfl rfl rfl (gd g6 rfl) rfl (LOp.bin rfl rfl rfl rfl) ?_
              refine LO.st rfl rfl rfl (LOp.pickF rfl (gdl g6 rfl) rfl) ?_
              refine LO.nil ?_
              refine thn_n ?_
              refine LW.cond rfl (fun (g7 : (decide (y4.Slot ≥ y1.Slot)) = true) => ?_) (fun (g7 : (decide (y4.Slot ≥ y1.Slot)) = false) => ?_)
              · -- g7 is True
                have hr := ite_t g7 hr
                refine LW.seq ?_
                refine LW.region ?_
                refine LOps.st rfl rfl rfl (LOp.assign rfl rfl) ?_
                refine LOps.nil ?_
                refine thn_n ?_
                refine LW.ret ?_
                refine inBlk_r ?_
                refine thn_r ?_
                refine thn_r ?_
                refine inBlk_r ?_
                refine thn_r ?_
                refine thn_r ?_
                obtain rfl := Option.some.inj hr
                have hr := congrArg some (hb_x1 _ rfl)
                obtain rfl := Option.some.inj hr
                have hr := sum_r ho_v1
                obtain rfl := Option.some.inj hr
                refine finP_ret (.one (.tmp rfl)) ?_
                exact Conv.p
              · -- g7 is False
                have hr := ite_f g7 hr
                refine LW.skip ?_
                refine inBlk_n ?_
                refine thn_n ?_
                refine LW.region ?_
                refine LOps.st rfl rfl rfl (LOp.move rfl rfl) ?_
                refine LOps.st rfl rfl rfl (LOp.bin rfl rfl rfl rfl) ?_
                refine LOps.st rfl rfl rfl (LOp.assign rfl rfl) ?_
                refine LOps.nil ?_
                refine thn_n ?_
                obtain rfl := Option.some.inj hr
                exact ⟨_, rfl, Weak.of 0 ⟨rfl, rfl, rfl, rfl, trivial⟩ rfl rfl rfl rfl⟩
    · -- g1 is False
      have hr := ite_f g1 hr
      refine LW.exit ?_
      refine thn_e ?_
      refine thn_e ?_
      refine inBlk_self ?_
      refine thn_n ?_
      obtain rfl := Option.some.inj hr
      have hr := congrArg some (hb_x1 _ rfl)
      obtain rfl := Option.some.inj hr
      exact ⟨_, rfl, Weak.of 0 ⟨rfl, trivial⟩ rfl rfl rfl rfl⟩
  · obtain rfl := e_v1
    have hr := sum_l ho_v1
    clear hb_v1
    refine thn_n ?_
    refine LW.weak hw_v1 ?_
    refine LW.seq ?_
    refine LW.region ?_
    refine LOps.st rfl rfl rfl (LOp.assign rfl rfl) ?_
    refine LOps.nil ?_
    refine thn_n ?_
    refine LW.ret ?_
    obtain rfl := Option.some.inj hr
    refine finP_ret (.one (.tmp rfl)) ?_
    exact Conv.p
structure F47_L1 where
  i : Int
  out : List ID
structure F48_L1 where
  i : Int
  id : ID
  out : List ID
theorem inv_eq {x : Int} (h0 : 0 ≤ x) (h1 : x ≤ 18446744073709551615) : inv x = 18446744073709551615 - x := by
  obtain ⟨n, rfl⟩ : ∃ n : Nat, x = n := ⟨x.toNat, by omega⟩
  have e : inv (n : Int) = IntKind.u64.wrap ((BitVec.ofInt 64 18446744073709551615 ^^^ BitVec.ofInt 64 (n : Int)).toNat : Int) := rfl
  have e2 : BitVec.ofInt 64 18446744073709551615 = BitVec.allOnes 64 := by decide
  rw [e, e2, BitVec.allOnes_xor, BitVec.toNat_not]
  have e3 : (BitVec.ofInt 64 (n : Int)).toNat = n := by
    rw [BitVec.toNat_ofInt]
    omega
  rw [e3, wrapU (by omega) (by omega)]
  omega
theorem F115_eq (h x : Int) : F115 h x = some (step h x) := rfl
theorem wrapU_in (x : Int) : 0 ≤ IntKind.u64.wrap x ∧ IntKind.u64.wrap x ≤ 18446744073709551615 := inKind_wrap .u64 x
theorem F100_eq {l : List Int} (h : ∀ x ∈ l, InKind .u64 x) (hl : l.length ≤ 1000) : F100 l = some (mixOf l) := by
  have key := iter_inv (step := F100_s1 l)
    (fun x => ∃ n : Nat, x.i = n ∧ n ≤ l.length + 1 ∧ (x.a, x.b) = if n ≤ l.length then (l.take n).foldl mixStep (1, 2) else mixOf l)
    (fun x => l.length + 1 - x.i.toNat) (fun b => (b.a, b.b) = mixOf l) (by
      rintro ⟨a, b, i⟩ ⟨n, rfl, hn, hab⟩
      simp only at hab ⊢
      have put : ∀ v : Int, 0 ≤ v → v ≤ 18446744073709551615 → n ≤ l.length → (∀ f : Int → Option (F100_L1 ⊕ F100_L1), (bif decide ((n : Int) < (l.length : Int)) then (ix l (n : Int)).bind fun y1 => some y1 else some (IntKind.u64.wrap ((l.length : Int)))).bind f = f v) →
          mixStep (a, b) v = (if n + 1 ≤ l.length then (l.take (n + 1)).foldl mixStep (1, 2) else mixOf l) →
          ∃ y, F100_s1 l ⟨a, b, n⟩ = some (.inl y) ∧ (∃ n' : Nat, y.i = n' ∧ n' ≤ l.length + 1 ∧ (y.a, y.b) = if n' ≤ l.length then (l.take n').foldl mixStep (1, 2) else mixOf l) ∧ l.length + 1 - y.i.toNat < l.length + 1 - n := by
        intro v h0 h1 hle hv hm
        refine ⟨⟨step a v, step b (inv v), IntKind.i64.wrap (n + 1)⟩, ?_, ⟨n + 1, wrap_succ (n := n) (by omega), by omega, hm⟩, ?_⟩
        · simp only [F100_s1]
          rw [decide_eq_true (show (n : Int) ≤ (l.length : Int) by omega), ct, hv]
          simp only [F115_eq, ob]
          rw [inv_eq h0 h1, wrapU (by omega) (by omega)]
        · simp only [wrap_succ (show n < 4000000000 by omega)]; omega
      rcases Nat.lt_trichotomy n l.length with hlt | heq | hgt
      · left
        obtain ⟨y, hy, hmem⟩ := get_of hlt
        have := h y hmem
        refine put y this.1 this.2 (by omega) (fun f => by rw [decide_eq_true (show (n : Int) < (l.length : Int) by omega), ix_nat hy]; rfl) ?_
        rw [hab, if_pos (by omega), if_pos (by omega), List.take_add_one, hy, List.foldl_append]; rfl
      · left
        refine put (IntKind.u64.wrap (l.length : Int)) (wrapU_in _).1 (wrapU_in _).2 (by omega) (fun f => by rw [decide_eq_false (show ¬ (n : Int) < (l.length : Int) by omega)]; rfl) ?_
        rw [hab, if_pos (by omega), if_neg (by omega), heq, List.take_length]; rfl
      · right
        refine ⟨⟨a, b, n⟩, ?_, ?_⟩
        · simp only [F100_s1]
          rw [decide_eq_false (show ¬ (n : Int) ≤ (l.length : Int) by omega)]; rfl
        · rw [hab, if_neg (by omega)]) (x := ⟨1, 2, 0⟩) ⟨0, rfl, Nat.zero_le _, by simp⟩ (n := big) (big_gt (by simp only; omega))
  obtain ⟨b, hb, hpost⟩ := key
  simp only [F100, hb, ob, hpost]
theorem F51_eq {b : Bk} (h : BkOk b) : F51 b = some (nm b) := by
  simp only [F51]
  rw [show [1, IntKind.u64.wrap b.Slot, IntKind.u64.wrap b.From, b.Parent.1, b.Parent.2, b.Salt] = nameWords b from rfl, F100_eq ?_ (by simp [nameWords])]
  · rfl
  · intro x hx
    simp only [nameWords, List.mem_cons, List.not_mem_nil, or_false] at hx
    rcases hx with rfl | rfl | rfl | rfl | rfl | rfl
    · exact ⟨by decide, by decide⟩
    · exact wrapU_in _
    · exact wrapU_in _
    · exact h.2.2.1
    · exact h.2.2.2.1
    · exact h.2.2.2.2
theorem F98_eq {names : List ID} {id : ID} (hl : names.length ≤ 4000) : F98 names id = some (indexOf names id) := by
  have key := iter_inv (step := F98_s1 names id) (fun x => ∃ n : Nat, x.i = n ∧ n ≤ names.length ∧ ∀ j, j < n → names[j]? ≠ some id)
    (fun x => names.length - x.i.toNat) (fun b => (∃ v, b = .inl v ∧ indexOf names id = -1) ∨ ∃ r, b = .inr r ∧ indexOf names id = r) (by
      rintro ⟨i⟩ ⟨n, rfl, hn, hno⟩
      simp only
      by_cases hlt : n < names.length
      case neg =>
        right
        refine ⟨.inl ⟨n⟩, ?_, .inl ⟨_, rfl, indexOf_none fun j hj => hno j (by omega)⟩⟩
        simp only [F98_s1]; rw [decide_eq_false (by omega)]; rfl
      obtain ⟨y, hy, -⟩ := get_of hlt
      by_cases he : y = id
      · right
        refine ⟨.inr n, ?_, .inr ⟨_, rfl, indexOf_at (he ▸ hy) hno⟩⟩
        simp only [F98_s1]; rw [decide_eq_true (show (n : Int) < (names.length : Int) by omega), ix_nat hy]
        simp [eqID', he]
      · left
        refine ⟨⟨IntKind.i64.wrap (n + 1)⟩, ?_, ⟨n + 1, wrap_succ (n := n) (by omega), by omega, fun j hj => ?_⟩, ?_⟩
        · simp only [F98_s1]; rw [decide_eq_true (show (n : Int) < (names.length : Int) by omega), ix_nat hy]
          simp [eqID', he]
        · rcases Nat.lt_succ_iff_lt_or_eq.1 hj with h | h
          · exact hno j h
          · subst h; rw [hy]; simpa using he
        · simp only [wrap_succ (show n < 4000000000 by omega)]; omega) (x := ⟨0⟩) ⟨0, rfl, Nat.zero_le _, fun j hj => by omega⟩ (n := big) (big_gt (by simp only; omega))
  obtain ⟨b, hb, hpost⟩ := key
  simp only [F98, hb, ob]
  rcases hpost with ⟨v, rfl, h⟩ | ⟨r, rfl, h⟩
  · simp [h]
  · simp [h]
def BksOk (l : List Bk) : Prop := ∀ b ∈ l, BkOk b
theorem F97_eq {l : List Bk} (h : BksOk l) (hl : l.length ≤ 1000) : F97 l = some (l.map nm) := by
  have key := iter_inv (step := F97_s1 l) (fun x => ∃ n : Nat, x.i = n ∧ n ≤ l.length ∧ x.out = (l.take n).map nm)
    (fun x => l.length - x.i.toNat) (fun b => b.out = l.map nm) (by
      rintro ⟨i, out⟩ ⟨n, rfl, hn, ho⟩
      simp only at ho ⊢
      by_cases hlt : n < l.length
      case neg =>
        right
        refine ⟨⟨n, out⟩, ?_, ?_⟩
        · simp only [F97_s1]; rw [decide_eq_false (by omega)]; rfl
        · rw [ho, List.take_of_length_le (by omega)]
      obtain ⟨y, hy, hmem⟩ := get_of hlt
      left
      refine ⟨⟨IntKind.i64.wrap (n + 1), out ++ [nm y]⟩, ?_, ⟨n + 1, wrap_succ (n := n) (by omega), by omega, ?_⟩, ?_⟩
      · simp only [F97_s1]; rw [decide_eq_true (show (n : Int) < (l.length : Int) by omega), ix_nat hy]
        simp only [ct, ob, F51_eq (h y hmem)]
        rw [room_ok (by rw [ho]; simp; omega) (by omega)]; rfl
      · rw [ho, List.take_add_one, hy]; simp
      · simp only [wrap_succ (show n < 4000000000 by omega)]; omega) (x := ⟨0, []⟩) ⟨0, rfl, Nat.zero_le _, by simp⟩ (n := big) (big_gt (by simp only; omega))
  obtain ⟨b, hb, hpost⟩ := key
  simp only [F97, hb, ob, hpost]
theorem placesGo_none {l : List Bk} {n : Nat} {y : Bk} (hy : l[n]? = some y) (h : placesGo l (l.drop n) n (mAt l n) = places l)
    (hbad : findE (mAt l n) y.Parent = none ∨ (∃ p, findE (mAt l n) y.Parent = some p ∧ y.Slot ≤ slotIx l p) ∨ ∃ p, findE (mAt l n) y.Parent = some p ∧ ∃ q, findE (mAt l n) (nm y) = some q) : places l = none := by
  rw [← h, placesGo_at hy]
  rcases hbad with h1 | ⟨p, h1, h2⟩ | ⟨p, h1, q, h2⟩
  · rw [h1]
  · rw [h1]; simp [h2]
  · rw [h1, h2]; simp
theorem placesGo_go {l : List Bk} {n : Nat} {y : Bk} {p : Int} (hy : l[n]? = some y) (h : placesGo l (l.drop n) n (mAt l n) = places l)
    (h1 : findE (mAt l n) y.Parent = some p) (h2 : ¬ y.Slot ≤ slotIx l p) (h3 : findE (mAt l n) (nm y) = none) : placesGo l (l.drop (n + 1)) (n + 1) (mAt l (n + 1)) = places l := by
  rw [← h, placesGo_at hy, h1, h3]
  simp [h2, mAt, hy]
theorem F96_step {l : List Bk} {names : List ID} {n : Nat} {y : Bk} {v : ID} (hn : n < l.length) (hlen : names.length ≤ 4000) (hy : l[n]? = some y) (hv : names[n]? = some v) : F96_s1 l names ⟨n⟩ =
    if v = (0, 0) ∨ indexOf (names.take n) v ≥ 0 ∨ y.Slot < 1 then some (.inr (.inr false))
    else if y.Parent = (0, 0) then some (.inl ⟨IntKind.i64.wrap ((n : Int) + 1)⟩)
    else if indexOf (names.take n) y.Parent < 0 then some (.inr (.inr false))
    else (ix l (indexOf (names.take n) y.Parent)).bind fun y4 => if y4.Slot ≥ y.Slot then some (.inr (.inr false)) else some (.inl ⟨IntKind.i64.wrap ((n : Int) + 1)⟩) := by
  have hnl := (List.getElem?_eq_some_iff.1 hv).1
  have e98 : ∀ id, F98 (names.take n) id = some (indexOf (names.take n) id) := fun id => F98_eq (by simp; omega)
  simp only [F96_s1]
  rw [decide_eq_true (show (n : Int) < (l.length : Int) by omega), ix_nat hy, inL_hi (show (0 : Int) ≤ (n : Int) by omega) (by omega), Int.toNat_natCast]
  simp only [ct, ob, ix_nat hv, e98]
  simp only [eqID0]
  have tail : (bif decide (y.Parent = (0, 0)) then (some (.inl (F96_L1.mk (IntKind.i64.wrap ((n : Int) + 1)))) : Option (F96_L1 ⊕ (F96_L1 ⊕ Bool)))
      else bif decide (indexOf (names.take n) y.Parent < 0) then some (.inr (.inr false))
      else (ix l (indexOf (names.take n) y.Parent)).bind fun y4 => bif decide (y4.Slot ≥ y.Slot) then some (.inr (.inr false)) else some (.inl (F96_L1.mk (IntKind.i64.wrap ((n : Int) + 1))))) =
      if y.Parent = (0, 0) then some (.inl ⟨IntKind.i64.wrap ((n : Int) + 1)⟩)
      else if indexOf (names.take n) y.Parent < 0 then some (.inr (.inr false))
      else (ix l (indexOf (names.take n) y.Parent)).bind fun y4 => if y4.Slot ≥ y.Slot then some (.inr (.inr false)) else some (.inl ⟨IntKind.i64.wrap ((n : Int) + 1)⟩) := by
    simp only [bifd]
  rw [tail]
  by_cases h1 : v = (0, 0)
  · rw [decide_eq_true h1, if_pos (show v = (0, 0) ∨ indexOf (names.take n) v ≥ 0 ∨ y.Slot < 1 from .inl h1)]; rfl
  · rw [decide_eq_false h1]
    by_cases h2 : indexOf (names.take n) v ≥ 0
    · rw [decide_eq_true h2, if_pos (show v = (0, 0) ∨ indexOf (names.take n) v ≥ 0 ∨ y.Slot < 1 from .inr (.inl h2))]; rfl
    · rw [decide_eq_false h2]
      by_cases h3 : y.Slot < 1
      · rw [decide_eq_true h3, if_pos (show v = (0, 0) ∨ indexOf (names.take n) v ≥ 0 ∨ y.Slot < 1 from .inr (.inr h3))]; rfl
      · rw [decide_eq_false h3, if_neg (show ¬ (v = (0, 0) ∨ indexOf (names.take n) v ≥ 0 ∨ y.Slot < 1) by rintro (h | h | h) <;> contradiction)]; rfl
theorem F96_eq {l : List Bk} (hl : l.length ≤ 1000) : F96 l (l.map nm) = some (places l).isSome := by
  have key := iter_inv (step := F96_s1 l (l.map nm))
    (fun x => ∃ n : Nat, x.i = n ∧ n ≤ l.length ∧ placesGo l (l.drop n) n (mAt l n) = places l ∧ ∀ j b, j < n → l[j]? = some b → 1 ≤ b.Slot)
    (fun x => l.length - x.i.toNat) (fun b => (∃ v, b = .inl v ∧ (places l).isSome = true) ∨ (b = .inr false ∧ places l = none)) (by
      rintro ⟨i⟩ ⟨n, rfl, hn, hgo, hslots⟩
      simp only
      by_cases hlt : n < l.length
      case neg =>
        right
        refine ⟨.inl ⟨n⟩, ?_, .inl ⟨_, rfl, ?_⟩⟩
        · simp only [F96_s1]; rw [decide_eq_false (by omega)]; rfl
        · rw [← hgo, List.drop_eq_nil_of_le (by omega)]; rfl
      obtain ⟨y, hy, -⟩ := get_of hlt
      have hyn : (l.map nm)[n]? = some (nm y) := by rw [List.getElem?_map, hy]; rfl
      have hstep := F96_step hlt (by simp; omega) hy hyn
      rw [← List.map_take] at hstep
      generalize hv : nm y = v at hstep
      generalize hN : (l.take n).map nm = N at hstep
      have hname := mAt_find (l := l) v n (by omega)
      have hpar := mAt_find (l := l) y.Parent n (by omega)
      have hms : ∀ {id : ID}, 0 ≤ indexOf N id → ∃ (j : Nat) (b : Bk), indexOf N id = j ∧ j < n ∧ l[j]? = some b := fun h => by
        subst hN
        obtain ⟨j, b, h1, h2, h3, -⟩ := mAt_slot h
        exact ⟨j, b, h1, h2, h3⟩
      rw [hN] at hname hpar
      -- is its name bad, or its slot?
      by_cases hbad : v = (0, 0) ∨ indexOf N v ≥ 0 ∨ y.Slot < 1
      · right
        refine ⟨.inr false, ?_, .inr ⟨rfl, ?_⟩⟩
        · rw [hstep, if_pos hbad]
        · -- so it may not be
          cases hp : findE (mAt l n) y.Parent with
          | none => exact placesGo_none hy hgo (.inl hp)
          | some p =>
            by_cases h1 : v = (0, 0)
            · exact placesGo_none hy hgo (.inr (.inr ⟨p, hp, -1, by rw [hv, hname, if_pos h1]⟩))
            by_cases h2 : 0 ≤ indexOf N (v)
            · exact placesGo_none hy hgo (.inr (.inr ⟨p, hp, _, by rw [hv, hname, if_neg h1, if_pos h2]⟩))
            have h3 : y.Slot < 1 := by rcases hbad with h | h | h <;> first | exact absurd h h1 | exact absurd h h2 | exact h
            refine placesGo_none hy hgo (.inr (.inl ⟨p, hp, ?_⟩))
            rw [hpar] at hp
            split at hp
            · cases hp; simp [slotIx]; omega
            · split at hp
              · rename_i h4
                obtain ⟨j, b, h5, h6, h7⟩ := hms h4
                cases hp
                rw [h5]
                have := hslots j b h6 h7
                simp [slotIx, h7, show ¬ ((j : Int) = -1) by omega]; omega
              · cases hp
      have hnot := not_or.1 hbad
      have h1 := hnot.1
      have h2 := (not_or.1 hnot.2).1
      have h3 := (not_or.1 hnot.2).2
      rw [if_neg hbad] at hstep
      rw [hstep]
      have hno : findE (mAt l n) (v) = none := by rw [hname, if_neg h1, if_neg h2]
      have goOn : ∀ p, findE (mAt l n) y.Parent = some p → ¬ y.Slot ≤ slotIx l p → ∃ n' : Nat, (F96_L1.mk (IntKind.i64.wrap ((n : Int) + 1))).i = n' ∧ n' ≤ l.length ∧ placesGo l (l.drop n') n' (mAt l n') = places l ∧ ∀ j b, j < n' → l[j]? = some b → 1 ≤ b.Slot := by
        intro p hp hs
        refine ⟨n + 1, wrap_succ (n := n) (by omega), by omega, placesGo_go hy hgo hp hs (by rw [hv]; exact hno), fun j b hj hb => ?_⟩
        rcases Nat.lt_succ_iff_lt_or_eq.1 hj with h | h
        · exact hslots j b h hb
        · subst h; rw [hy] at hb; cases hb; omega
      have hmeas : l.length - (F96_L1.mk (IntKind.i64.wrap ((n : Int) + 1))).i.toNat < l.length - ((n : Int)).toNat := by
        simp only [wrap_succ (show n < 4000000000 by omega)]; omega
      by_cases hz : y.Parent = (0, 0)
      · left
        rw [hpar, if_pos hz] at goOn
        refine ⟨_, by rw [if_pos hz], goOn (-1) rfl (by simp [slotIx]; omega), hmeas⟩
      rw [if_neg hz]
      by_cases hk : 0 ≤ indexOf N y.Parent
      case neg =>
        right
        refine ⟨.inr false, by rw [if_pos (by omega)], .inr ⟨rfl, placesGo_none hy hgo (.inl ?_)⟩⟩
        rw [hpar, if_neg hz, if_neg hk]
      obtain ⟨j, b, h5, h6, h7⟩ := hms hk
      have hp : findE (mAt l n) y.Parent = some (j : Int) := by rw [hpar, if_neg hz, if_pos hk, h5]
      have hsl : slotIx l (j : Int) = b.Slot := by simp [slotIx, h7, show ¬ ((j : Int) = -1) by omega]
      rw [if_neg (by omega), h5, ix_nat h7]
      simp only [ob]
      by_cases hs : b.Slot ≥ y.Slot
      · right
        refine ⟨.inr false, by rw [if_pos hs], .inr ⟨rfl, placesGo_none hy hgo (.inr (.inl ⟨_, hp, by rw [hsl]; exact hs⟩))⟩⟩
      · left
        exact ⟨_, by rw [if_neg hs], goOn _ hp (by rw [hsl]; exact hs), hmeas⟩) (x := ⟨0⟩) ⟨0, rfl, Nat.zero_le _, rfl, fun j b hj => by omega⟩ (n := big) (big_gt (by simp only; omega))
  obtain ⟨b, hb, hpost⟩ := key
  simp only [F96, hb, ob]
  rcases hpost with ⟨v, rfl, h⟩ | ⟨rfl, h⟩
  · simp [h]
  · simp [h]
end Go.Mg
