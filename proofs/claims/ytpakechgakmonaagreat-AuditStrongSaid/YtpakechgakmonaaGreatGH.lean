/- Weights of blocks, heads: what stands alone, and the reference. Weights of blocks; the head. Plain laws of weights on blocks, and of the head: the program's side. Conditions: none. -/
import Derived.Test.YtpakechgakmonaaGreatD1
import Derived.Test.YtpakechgakmonaaGreatS1
import Derived.Test.YtpakechgakmonaaGreatD2
import Derived.Test.YtpakechgakmonaaGreatL3
namespace Go.Mg
open Go.Proofs
def F175 (x : Int) : Option Bool :=
  some (x != x)
set_option maxRecDepth 100000 in
theorem c175 {x : Int} {r_ : Bool} (hr : F175 x = some r_) : LPure Tryz.prog 71 [.int .u64 x] [.bool r_] := by
  refine LPure.start Tryz.func71 rfl rfl rfl rfl ?_
  unfold F175 at hr
  refine LW.seq ?_
  refine LW.region ?_
  refine LOps.st rfl rfl rfl (LOp.assign rfl rfl) ?_
  refine LOps.nil ?_
  refine thn_n ?_
  refine LW.seq ?_
  refine LW.region ?_
  refine LOps.st rfl rfl rfl (LOp.move rfl rfl) ?_
  refine LOps.st rfl rfl rfl (LOp.move rfl rfl) ?_
  refine LOps.st rfl rfl rfl (LOp.bin rfl rfl rfl rfl) ?_
  refine LOps.st rfl rfl rfl (LOp.assign rfl rfl) ?_
  refine LOps.nil ?_
  refine thn_n ?_
  refine LW.ret ?_
  obtain rfl := Option.some.inj hr
  refine finP_ret (.one (.tmp rfl)) ?_
  exact Conv.p
def F168 (x : Int) (y : Int) : Option Int :=
  (F175 x).bind fun v1 =>
  (F175 y).bind fun v2 =>
  bif v1 then
    bif v2 then
      some 0
    else
      some (-1)
  else
    bif v2 then
      some 1
    else
      bif decide (x < y) then
        some (-1)
      else
        bif decide (x > y) then
          some 1
        else
          some 0
set_option maxRecDepth 100000 in
theorem c168 {x : Int} {y : Int} {r_ : Int} (hr : F168 x y = some r_) : LPure Tryz.prog 60 [.int .u64 x, .int .u64 y] [.int .i64 r_] := by
  refine LPure.start Tryz.func60 rfl rfl rfl rfl ?_
  unfold F168 at hr
  refine LW.seq ?_
  refine LW.region ?_
  refine LOps.st rfl rfl rfl (LOp.assign rfl rfl) ?_
  refine LOps.nil ?_
  refine thn_n ?_
  refine LW.seq ?_
  refine LW.region ?_
  refine LOps.st rfl rfl rfl (LOp.move rfl rfl) ?_
  obtain ⟨v1, h_v1, hr⟩ := bind_get hr
  refine LOps.st rfl rfl rfl (LOp.call rfl rfl rfl (by kernel_rfl) (LC.pure (c175 h_v1) (.cons Conv.p .nil))) ?_
  refine LOps.st rfl rfl rfl (LOp.assign rfl rfl) ?_
  refine LOps.nil ?_
  refine thn_n ?_
  refine LW.seq ?_
  refine LW.region ?_
  refine LOps.st rfl rfl rfl (LOp.move rfl rfl) ?_
  obtain ⟨v2, h_v2, hr⟩ := bind_get hr
  refine LOps.st rfl rfl rfl (LOp.call rfl rfl rfl (by kernel_rfl) (LC.pure (c175 h_v2) (.cons Conv.p .nil))) ?_
  refine LOps.st rfl rfl rfl (LOp.assign rfl rfl) ?_
  refine LOps.nil ?_
  refine thn_n ?_
  refine LW.seq ?_
  refine LW.seq ?_
  refine LW.region ?_
  refine LOps.st rfl rfl rfl (LOp.move rfl rfl) ?_
  refine LOps.nil ?_
  refine thn_n ?_
  refine LW.cond rfl (fun (g1 : v1 = true) => ?_) (fun (g1 : v1 = false) => ?_)
  · -- g1 is True
    have hr := ite_t g1 hr
    refine LW.seq ?_
    refine LW.seq ?_
    refine LW.region ?_
    refine LOps.st rfl rfl rfl (LOp.move rfl rfl) ?_
    refine LOps.nil ?_
    refine thn_n ?_
    refine LW.cond rfl (fun (g2 : v2 = true) => ?_) (fun (g2 : v2 = false) => ?_)
    · -- g2 is True
      have hr := ite_t g2 hr
      refine LW.seq ?_
      refine LW.region ?_
      refine LOps.st rfl rfl rfl (LOp.assign rfl rfl) ?_
      refine LOps.nil ?_
      refine thn_n ?_
      refine LW.ret ?_
      refine thn_r ?_
      refine thn_r ?_
      obtain rfl := Option.some.inj hr
      refine finP_ret (.one (.tmp rfl)) ?_
      exact Conv.p
    · -- g2 is False
      have hr := ite_f g2 hr
      refine LW.skip ?_
      refine thn_n ?_
      refine LW.seq ?_
      refine LW.region ?_
      refine LOps.st rfl rfl rfl (LOp.assign rfl rfl) ?_
      refine LOps.nil ?_
      refine thn_n ?_
      refine LW.ret ?_
      refine thn_r ?_
      obtain rfl := Option.some.inj hr
      refine finP_ret (.one (.tmp rfl)) ?_
      exact Conv.p
  · -- g1 is False
    have hr := ite_f g1 hr
    refine LW.skip ?_
    refine thn_n ?_
    refine LW.seq ?_
    refine LW.seq ?_
    refine LW.region ?_
    refine LOps.st rfl rfl rfl (LOp.move rfl rfl) ?_
    refine LOps.nil ?_
    refine thn_n ?_
    refine LW.cond rfl (fun (g3 : v2 = true) => ?_) (fun (g3 : v2 = false) => ?_)
    · -- g3 is True
      have hr := ite_t g3 hr
      refine LW.seq ?_
      refine LW.region ?_
      refine LOps.st rfl rfl rfl (LOp.assign rfl rfl) ?_
      refine LOps.nil ?_
      refine thn_n ?_
      refine LW.ret ?_
      refine thn_r ?_
      obtain rfl := Option.some.inj hr
      refine finP_ret (.one (.tmp rfl)) ?_
      exact Conv.p
    · -- g3 is False
      have hr := ite_f g3 hr
      refine LW.skip ?_
      refine thn_n ?_
      refine LW.seq ?_
      refine LW.seq ?_
      refine LW.region ?_
      refine LOps.st rfl rfl rfl (LOp.move rfl rfl) ?_
      refine LOps.st rfl rfl rfl (LOp.move rfl rfl) ?_
      refine LOps.st rfl rfl rfl (LOp.bin rfl rfl rfl rfl) ?_
      refine LOps.nil ?_
      refine thn_n ?_
      refine LW.cond rfl (fun (g4 : (decide (x < y)) = true) => ?_) (fun (g4 : (decide (x < y)) = false) => ?_)
      · -- g4 is True
        have hr := ite_t g4 hr
        refine LW.seq ?_
        refine LW.region ?_
        refine LOps.st rfl rfl rfl (LOp.assign rfl rfl) ?_
        refine LOps.nil ?_
        refine thn_n ?_
        refine LW.ret ?_
        refine thn_r ?_
        obtain rfl := Option.some.inj hr
        refine finP_ret (.one (.tmp rfl)) ?_
        exact Conv.p
      · -- g4 is False
        have hr := ite_f g4 hr
        refine LW.skip ?_
        refine thn_n ?_
        refine LW.seq ?_
        refine LW.seq ?_
        refine LW.region ?_
        refine LOps.st rfl rfl rfl (LOp.move rfl rfl) ?_
        refine LOps.st rfl rfl rfl (LOp.move rfl rfl) ?_
        refine LOps.st rfl rfl rfl (LOp.bin rfl rfl rfl rfl) ?_
        refine LOps.nil ?_
        refine thn_n ?_
        refine LW.cond rfl (fun (g5 : (decide (x > y)) = true) => ?_) (fun (g5 : (decide (x > y)) = false) => ?_)
        · -- g5 is True
          have hr := ite_t g5 hr
          refine LW.seq ?_
          refine LW.region ?_
          refine LOps.st rfl rfl rfl (LOp.assign rfl rfl) ?_
          refine LOps.nil ?_
          refine thn_n ?_
          refine LW.ret ?_
          refine thn_r ?_
          obtain rfl := Option.some.inj hr
          refine finP_ret (.one (.tmp rfl)) ?_
          exact Conv.p
        · -- g5 is False
          have hr := ite_f g5 hr
          refine LW.skip ?_
          refine thn_n ?_
          refine LW.seq ?_
          refine LW.region ?_
          refine LOps.st rfl rfl rfl (LOp.assign rfl rfl) ?_
          refine LOps.nil ?_
          refine thn_n ?_
          refine LW.ret ?_
          obtain rfl := Option.some.inj hr
          refine finP_ret (.one (.tmp rfl)) ?_
          exact Conv.p
structure F151_L1 where
  t11 : Int
def F151_s1 (s1 : List Int) (s2 : List Int) (x1 : F151_L1) : Option (F151_L1 ⊕ (F151_L1 ⊕ Int)) :=
  bif decide (x1.t11 < (s1.length : Int)) then
    (ix s1 x1.t11).bind fun y1 =>
    bif decide (x1.t11 ≥ (s2.length : Int)) then
      some (.inr (.inr 1))
    else
      (ix s2 x1.t11).bind fun y2 =>
      (F168 y1 y2).bind fun v2 =>
      bif v2 != 0 then
        some (.inr (.inr v2))
      else
        some (.inl (F151_L1.mk (IntKind.i64.wrap (x1.t11 + 1))))
  else
    some (.inr (.inl (F151_L1.mk x1.t11)))
def F151 (s1 : List Int) (s2 : List Int) : Option Int :=
  (iter (F151_s1 s1 s2) big (F151_L1.mk 0)).bind fun b_v1 => Sum.elim (fun _ =>
    bif decide ((s1.length : Int) < (s2.length : Int)) then
      some (-1)
    else
      some 0) some b_v1
set_option maxRecDepth 100000 in
theorem c151 {s1 : List Int} {s2 : List Int} {r_ : Int} (hr : F151 s1 s2 = some r_) : LPure Tryz.prog 44 [.slice 1 (s1.map wordP), .slice 1 (s2.map wordP)] [.int .i64 r_] := by
  refine LPure.start Tryz.func44 rfl rfl rfl rfl ?_
  unfold F151 at hr
  refine LW.seq ?_
  refine LW.region ?_
  refine LOps.st rfl rfl rfl (LOp.assign rfl rfl) ?_
  refine LOps.nil ?_
  refine thn_n ?_
  refine LW.seq ?_
  refine LW.seq ?_
  refine LW.region ?_
  refine LOps.st rfl rfl rfl (LOp.move rfl rfl) ?_
  refine LOps.st rfl rfl rfl (LOp.lenM rfl rfl (by kernel_rfl)) ?_
  refine LOps.st rfl rfl rfl (LOp.move rfl rfl) ?_
  refine LOps.nil ?_
  refine thn_n ?_
  obtain ⟨b_v1, hb_v1, ho_v1⟩ := bind_get hr
  clear hr
  refine LW.tailB (b := b_v1) (E := fun v1 => [(0, .p (.slice 1 (s1.map wordP))), (1, .p (.slice 1 (s2.map wordP))), (4, .p (.int .i64 0))]) (O := fun v1 => []) ?_ (fun v1 e_v1 env_v1 H_v1 hw_v1 => ?_)
  · refine LW.block ?_
    refine LW.iterB (E := fun x1 : F151_L1 => [(0, .p (.slice 1 (s1.map wordP))), (1, .p (.slice 1 (s2.map wordP))), (4, .p (.int .i64 0)), (9, .p (.slice 1 (s1.map wordP))), (10, .p (.int .i64 (s1.length : Int))), (11, .p (.int .i64 x1.t11))]) (O := fun x1 => []) hb_v1 (Weak.of 0 ⟨rfl, rfl, rfl, rfl, rfl, rfl, trivial⟩ rfl rfl rfl rfl) (fun x1 z_x1 hr hb_x1 => ?_)
    unfold F151_s1 at hr
    refine LW.seq ?_
    refine LW.region ?_
    refine LOps.st rfl rfl rfl (LOp.bin rfl rfl rfl rfl) ?_
    refine LOps.nil ?_
    refine thn_n ?_
    refine LW.seq ?_
    refine LW.cond rfl (fun (g1 : (decide (x1.t11 < (s1.length : Int))) = true) => ?_) (fun (g1 : (decide (x1.t11 < (s1.length : Int))) = false) => ?_)
    · -- g1 is True
      have hr := ite_t g1 hr
      refine LW.skip ?_
      refine thn_n ?_
      refine LW.seq ?_
      refine LW.block ?_
      refine LW.seq ?_
      refine LW.region ?_
      refine LOps.st rfl rfl rfl (LOp.move rfl rfl) ?_
      obtain ⟨y1, h_y1, hr⟩ := bind_get hr
      refine LOps.st rfl rfl rfl (LOp.indexAddrX rfl rfl rfl st98 h_y1 rfl) ?_
      refine LOps.st rfl rfl rfl (LOp.loadC rfl rfl rfl vt22 rfl rfl) ?_
      refine LOps.st rfl rfl rfl (LOp.assign rfl rfl) ?_
      refine LOps.st rfl rfl rfl (LOp.assign rfl rfl) ?_
      refine LOps.nil ?_
      refine thn_n ?_
      refine LW.seq ?_
      refine LW.seq ?_
      refine LW.region ?_
      refine LOps.st rfl rfl rfl (LOp.move rfl rfl) ?_
      refine LOps.st rfl rfl rfl (LOp.move rfl rfl) ?_
      refine LOps.st rfl rfl rfl (LOp.lenM rfl rfl (by kernel_rfl)) ?_
      refine LOps.st rfl rfl rfl (LOp.bin rfl rfl rfl rfl) ?_
      refine LOps.nil ?_
      refine thn_n ?_
      refine LW.cond rfl (fun (g2 : (decide (x1.t11 ≥ (s2.length : Int))) = true) => ?_) (fun (g2 : (decide (x1.t11 ≥ (s2.length : Int))) = false) => ?_)
      · -- g2 is True
        have hr := ite_t g2 hr
        refine LW.seq ?_
        refine LW.region ?_
        refine LOps.st rfl rfl rfl (LOp.assign rfl rfl) ?_
        refine LOps.nil ?_
        refine thn_n ?_
        refine LW.ret ?_
        refine thn_r ?_
        refine inBlk_r ?_
        refine thn_r ?_
        refine thn_r ?_
        refine inBlk_r ?_
        refine thn_r ?_
        refine thn_r ?_
        obtain rfl := Option.some.inj hr
        have hr := congrArg some (hb_x1 _ rfl)
        obtain rfl := Option.some.inj hr
        have hr := sum_r ho_v1
        obtain rfl := Option.some.inj hr
        refine finP_ret (.one (.tmp rfl)) ?_
        exact Conv.p
      · -- g2 is False
        have hr := ite_f g2 hr
        refine LW.skip ?_
        refine thn_n ?_
        refine LW.seq ?_
        refine LW.region ?_
        refine LOps.st rfl rfl rfl (LOp.move rfl rfl) ?_
        refine LOps.st rfl rfl rfl (LOp.move rfl rfl) ?_
        obtain ⟨y2, h_y2, hr⟩ := bind_get hr
        refine LOps.st rfl rfl rfl (LOp.indexAddrX rfl rfl rfl st98 h_y2 rfl) ?_
        refine LOps.st rfl rfl rfl (LOp.loadC rfl rfl rfl vt22 rfl rfl) ?_
        refine LOps.st rfl rfl rfl (LOp.assign rfl rfl) ?_
        refine LOps.nil ?_
        refine thn_n ?_
        refine LW.seq ?_
        refine LW.region ?_
        refine LOps.st rfl rfl rfl (LOp.move rfl rfl) ?_
        refine LOps.st rfl rfl rfl (LOp.move rfl rfl) ?_
        obtain ⟨v2, h_v2, hr⟩ := bind_get hr
        refine LOps.st rfl rfl rfl (LOp.call rfl rfl rfl (by kernel_rfl) (LC.pure (c168 h_v2) (.cons Conv.p (.cons Conv.p .nil)))) ?_
        refine LOps.st rfl rfl rfl (LOp.assign rfl rfl) ?_
        refine LOps.nil ?_
        refine thn_n ?_
        refine LW.seq ?_
        refine LW.region ?_
        refine LOps.st rfl rfl rfl (LOp.move rfl rfl) ?_
        refine LOps.st rfl rfl rfl (LOp.bin rfl rfl rfl rfl) ?_
        refine LOps.nil ?_
        refine thn_n ?_
        refine LW.cond rfl (fun (g3 : (v2 != 0) = true) => ?_) (fun (g3 : (v2 != 0) = false) => ?_)
        · -- g3 is True
          have hr := ite_t g3 hr
          refine LW.seq ?_
          refine LW.region ?_
          refine LOps.st rfl rfl rfl (LOp.move rfl rfl) ?_
          refine LOps.st rfl rfl rfl (LOp.assign rfl rfl) ?_
          refine LOps.nil ?_
          refine thn_n ?_
          refine LW.ret ?_
          refine inBlk_r ?_
          refine thn_r ?_
          refine thn_r ?_
          refine inBlk_r ?_
          refine thn_r ?_
          refine thn_r ?_
          obtain rfl := Option.some.inj hr
          have hr := congrArg some (hb_x1 _ rfl)
          obtain rfl := Option.some.inj hr
          have hr := sum_r ho_v1
          obtain rfl := Option.some.inj hr
          refine finP_ret (.one (.tmp rfl)) ?_
          exact Conv.p
        · -- g3 is False
          have hr := ite_f g3 hr
          refine LW.skip ?_
          refine inBlk_n ?_
          refine thn_n ?_
          refine LW.region ?_
          refine LOps.st rfl rfl rfl (LOp.bin rfl rfl rfl rfl) ?_
          refine LOps.st rfl rfl rfl (LOp.move rfl rfl) ?_
          refine LOps.nil ?_
          refine thn_n ?_
          obtain rfl := Option.some.inj hr
          exact ⟨_, rfl, Weak.of 0 ⟨rfl, rfl, rfl, rfl, rfl, rfl, trivial⟩ rfl rfl rfl rfl⟩
    · -- g1 is False
      have hr := ite_f g1 hr
      refine LW.exit ?_
      refine thn_e ?_
      refine thn_e ?_
      refine inBlk_self ?_
      refine thn_n ?_
      obtain rfl := Option.some.inj hr
      have hr := congrArg some (hb_x1 _ rfl)
      obtain rfl := Option.some.inj hr
      exact ⟨_, rfl, Weak.of 0 ⟨rfl, rfl, rfl, trivial⟩ rfl rfl rfl rfl⟩
  · obtain rfl := e_v1
    have hr := sum_l ho_v1
    clear hb_v1
    refine thn_n ?_
    refine LW.weak hw_v1 ?_
    refine LW.seq ?_
    refine LW.seq ?_
    refine LW.region ?_
    refine LOps.st rfl rfl rfl (LOp.move rfl rfl) ?_
    refine LOps.st rfl rfl rfl (LOp.lenM rfl rfl (by kernel_rfl)) ?_
    refine LOps.st rfl rfl rfl (LOp.move rfl rfl) ?_
    refine LOps.st rfl rfl rfl (LOp.lenM rfl rfl (by kernel_rfl)) ?_
    refine LOps.st rfl rfl rfl (LOp.bin rfl rfl rfl rfl) ?_
    refine LOps.nil ?_
    refine thn_n ?_
    refine LW.cond rfl (fun (g4 : (decide ((s1.length : Int) < (s2.length : Int))) = true) => ?_) (fun (g4 : (decide ((s1.length : Int) < (s2.length : Int))) = false) => ?_)
    · -- g4 is True
      have hr := ite_t g4 hr
      refine LW.seq ?_
      refine LW.region ?_
      refine LOps.st rfl rfl rfl (LOp.assign rfl rfl) ?_
      refine LOps.nil ?_
      refine thn_n ?_
      refine LW.ret ?_
      refine thn_r ?_
      obtain rfl := Option.some.inj hr
      refine finP_ret (.one (.tmp rfl)) ?_
      exact Conv.p
    · -- g4 is False
      have hr := ite_f g4 hr
      refine LW.skip ?_
      refine thn_n ?_
      refine LW.seq ?_
      refine LW.region ?_
      refine LOps.st rfl rfl rfl (LOp.assign rfl rfl) ?_
      refine LOps.nil ?_
      refine thn_n ?_
      refine LW.ret ?_
      obtain rfl := Option.some.inj hr
      refine finP_ret (.one (.tmp rfl)) ?_
      exact Conv.p
open Go.Proofs
structure F153_L1 where
  t12 : Int
  o3 : List (ID × Bool)
  out : List Int
structure F79_L1 where
  t19 : Int
  best : Rk
structure F81_L1 where
  id : ID
theorem iter_go {α β : Type} {step : α → Option (α ⊕ β)} {n : Nat} {x y : α} (h : step x = some (.inl y)) : iter step (n + 1) x = iter step n y := by
  rw [iter, h]
theorem iter_end {α β : Type} {step : α → Option (α ⊕ β)} {n : Nat} {x : α} {b : β} (h : step x = some (.inr b)) : iter step (n + 1) x = some b := by
  rw [iter, h]
theorem big3 : big = 4611686018427387901 + 1 + 1 + 1 := rfl
def cmpI (x y : Int) : Int := if x < y then -1 else if x > y then 1 else 0
theorem F168_eq (x y : Int) : F168 x y = some (cmpI x y) := by
  have h : ∀ z : Int, F175 z = some false := fun z => by unfold F175; rw [show (z != z) = false by simp]
  unfold F168 cmpI
  rw [h x, ob, h y, ob, cf, cf]
  by_cases h1 : x < y
  · rw [decide_eq_true h1, ct, if_pos h1]
  · rw [decide_eq_false h1, cf, if_neg h1]
    by_cases h2 : x > y
    · rw [decide_eq_true h2, ct, if_pos h2]
    · rw [decide_eq_false h2, cf, if_neg h2]
theorem F151_two (a1 a2 b1 b2 : Int) : F151 [a1, a2] [b1, b2] = some (if cmpI a1 b1 ≠ 0 then cmpI a1 b1 else cmpI a2 b2) := by
  unfold F151
  have h0 : ∀ i : Int, i = 0 → F151_s1 [a1, a2] [b1, b2] (F151_L1.mk i) = if cmpI a1 b1 ≠ 0 then some (.inr (.inr (cmpI a1 b1))) else some (.inl (F151_L1.mk 1)) := by
    rintro i rfl
    unfold F151_s1
    simp only
    rw [show decide ((0 : Int) < (([a1, a2] : List Int).length : Int)) = true from rfl, ct, show ix [a1, a2] 0 = some a1 from rfl, ob, show decide ((0 : Int) ≥ (([b1, b2] : List Int).length : Int)) = false from rfl, cf, show ix [b1, b2] 0 = some b1 from rfl, ob, F168_eq, ob, show IntKind.i64.wrap (0 + 1) = 1 from wrapI (by omega) (by omega)]
    by_cases h : cmpI a1 b1 = 0
    · rw [show (cmpI a1 b1 != 0) = false by simp [h], cf, if_neg (not_not_intro h)]
    · rw [show (cmpI a1 b1 != 0) = true by simp [h], ct, if_pos h]
  have h1 : F151_s1 [a1, a2] [b1, b2] (F151_L1.mk 1) = if cmpI a2 b2 ≠ 0 then some (.inr (.inr (cmpI a2 b2))) else some (.inl (F151_L1.mk 2)) := by
    unfold F151_s1
    simp only
    rw [show decide ((1 : Int) < (([a1, a2] : List Int).length : Int)) = true from rfl, ct, show ix [a1, a2] 1 = some a2 from rfl, ob, show decide ((1 : Int) ≥ (([b1, b2] : List Int).length : Int)) = false from rfl, cf, show ix [b1, b2] 1 = some b2 from rfl, ob, F168_eq, ob, show IntKind.i64.wrap (1 + 1) = 2 from wrapI (by omega) (by omega)]
    by_cases h : cmpI a2 b2 = 0
    · rw [show (cmpI a2 b2 != 0) = false by simp [h], cf, if_neg (not_not_intro h)]
    · rw [show (cmpI a2 b2 != 0) = true by simp [h], ct, if_pos h]
  have h2 : F151_s1 [a1, a2] [b1, b2] (F151_L1.mk 2) = some (.inr (.inl (F151_L1.mk 2))) := by
    unfold F151_s1
    simp only
    rw [show decide ((2 : Int) < (([a1, a2] : List Int).length : Int)) = false from rfl, cf]
  rw [big3]
  by_cases c1 : cmpI a1 b1 = 0
  · have e1 := h0 0 rfl
    rw [if_neg (not_not_intro c1)] at e1
    rw [iter_go e1, if_neg (not_not_intro c1)]
    by_cases c2 : cmpI a2 b2 = 0
    · rw [if_neg (not_not_intro c2)] at h1
      rw [iter_go h1, iter_end h2, ob, sl, show decide ((([a1, a2] : List Int).length : Int) < (([b1, b2] : List Int).length : Int)) = false from rfl, cf, c2]
    · rw [if_pos c2] at h1
      rw [iter_end h1, ob, sr]
  · have e1 := h0 0 rfl
    rw [if_pos c1] at e1
    rw [iter_end e1, if_pos c1, ob, sr]
end Go.Mg
