/- More of the program's structs as plain data: acts, offers, nodes, worlds. Views: clones, and what stands alone. Products of numbers. Parts of a committee. Nothing is held by all; nothing is seen. The example. Laws of committees in parts. Plain laws of committees in parts. The example of the laws of committees in parts. Laws of committees in parts: AuditWeighs, AuditStrong, AuditParts. Conditions: none. -/
import Derived.Test.YtpakechgakmonaaGreatL3
import Derived.Test.YtpakechgakmonaaGreatGH
import Derived.Test.YtpakechgakmonaaGreatV0
import Derived.Test.YtpakechgakmonaaGreatD1
import Derived.Test.YtpakechgakmonaaGreatD2
namespace Go.Mg
/-- What is sent. -/
structure Ac where
  Tick : Int
  To : Int
  Offer : Bool
  B : List Bk
  V : List Vt
def acP (a : Ac) : PV := .agg [.int .i64 a.Tick, .int .i64 a.To, .bool a.Offer, .slice 5 (a.B.map blkP), .slice 4 (a.V.map vtP)]
/-- What a proposer offers. -/
structure Of where
  Slot : Int
  From : Int
  B : Bk
  V : Vw
/-- A node. -/
structure Nd where
  No : Int
  Tick : Int
  V : Vw
  In : Vw
  O : List Of
  C : Cu
  Full : Bool
/-- A world. -/
structure Wd where
  C : Cf
  Bad : List Int
  Tick : Int
  N : List Nd
  O : List Of
/-- Who votes, and in which slot. -/
structure Du where
  frm : Int
  slot : Int
  deriving DecidableEq
open Go.Proofs
set_option maxRecDepth 100000 in
theorem c133V {α : Type} {f : α → PV} {l : List α} (hb : room 0 l.length 40 = true) : LC Tryz.prog 65 [.p (.slice 5 (l.map f))] [] (Is (.vec 5 0 (l.map f).length 0 (l.map f).length) [.vec 5 (l.map f)]) := by
  refine LC.start Tryz.func65 rfl rfl rfl ?_
  refine LW.seq ?_
  refine LW.region ?_
  refine LOps.st rfl rfl rfl (LOp.assign rfl rfl) ?_
  refine LOps.nil ?_
  refine thn_n ?_
  refine LW.seq ?_
  refine LW.seq ?_
  refine LW.region ?_
  refine LOps.st rfl rfl rfl (LOp.move rfl rfl) ?_
  refine LOps.cons rfl rfl rfl (LOp.eqNil rfl rfl rfl st27) ?_
  rintro _ _ ⟨rfl, b, rfl, hn⟩
  refine LOps.nil ?_
  refine thn_n ?_
  refine LW.cond rfl (fun g => ?_) (fun g => ?_)
  · have hl : l = [] := List.map_eq_nil_iff.1 (hn g)
    subst hl
    refine LW.seq ?_
    refine LW.region ?_
    refine LOps.st rfl rfl rfl (LOp.assign rfl rfl) ?_
    refine LOps.nil ?_
    refine thn_n ?_
    refine LW.ent (Ent.lazy (t := 2) (m := 5) rfl rfl rfl) ?_
    refine LW.ret ?_
    refine thn_r ?_
    exact fin_ret (.one (.tmp rfl)) ⟨rfl, rfl⟩
  · refine LW.skip ?_
    refine thn_n ?_
    refine LW.seq ?_
    refine LW.region ?_
    refine LOps.st rfl rfl rfl (LOp.buildSlice0 rfl st27) ?_
    refine LOps.st rfl rfl rfl (LOp.move rfl rfl) ?_
    refine LOps.st rfl rfl rfl (LOp.appendZX f l rfl rfl rfl rfl Src.p rfl st27 hb rfl) ?_
    refine LOps.st rfl rfl rfl (LOp.assign rfl rfl) ?_
    refine LOps.nil ?_
    refine thn_n ?_
    refine LW.ret ?_
    exact fin_ret (.one (.tmp rfl)) ⟨rfl, rfl⟩
set_option maxRecDepth 100000 in
theorem c134V {α : Type} {f : α → PV} {l : List α} (hb : room 0 l.length 32 = true) : LC Tryz.prog 67 [.p (.slice 4 (l.map f))] [] (Is (.vec 4 0 (l.map f).length 0 (l.map f).length) [.vec 4 (l.map f)]) := by
  refine LC.start Tryz.func67 rfl rfl rfl ?_
  refine LW.seq ?_
  refine LW.region ?_
  refine LOps.st rfl rfl rfl (LOp.assign rfl rfl) ?_
  refine LOps.nil ?_
  refine thn_n ?_
  refine LW.seq ?_
  refine LW.seq ?_
  refine LW.region ?_
  refine LOps.st rfl rfl rfl (LOp.move rfl rfl) ?_
  refine LOps.cons rfl rfl rfl (LOp.eqNil rfl rfl rfl st68) ?_
  rintro _ _ ⟨rfl, b, rfl, hn⟩
  refine LOps.nil ?_
  refine thn_n ?_
  refine LW.cond rfl (fun g => ?_) (fun g => ?_)
  · have hl : l = [] := List.map_eq_nil_iff.1 (hn g)
    subst hl
    refine LW.seq ?_
    refine LW.region ?_
    refine LOps.st rfl rfl rfl (LOp.assign rfl rfl) ?_
    refine LOps.nil ?_
    refine thn_n ?_
    refine LW.ent (Ent.lazy (t := 2) (m := 4) rfl rfl rfl) ?_
    refine LW.ret ?_
    refine thn_r ?_
    exact fin_ret (.one (.tmp rfl)) ⟨rfl, rfl⟩
  · refine LW.skip ?_
    refine thn_n ?_
    refine LW.seq ?_
    refine LW.region ?_
    refine LOps.st rfl rfl rfl (LOp.buildSlice0 rfl st68) ?_
    refine LOps.st rfl rfl rfl (LOp.move rfl rfl) ?_
    refine LOps.st rfl rfl rfl (LOp.appendZX f l rfl rfl rfl rfl Src.p rfl st68 hb rfl) ?_
    refine LOps.st rfl rfl rfl (LOp.assign rfl rfl) ?_
    refine LOps.nil ?_
    refine thn_n ?_
    refine LW.ret ?_
    exact fin_ret (.one (.tmp rfl)) ⟨rfl, rfl⟩
structure F170_L1 where
  t8 : Int
def F170_s1 (s : List Bk) (v : Bk) (x1 : F170_L1) : Option (F170_L1 ⊕ (F170_L1 ⊕ Int)) :=
  bif decide (x1.t8 < (s.length : Int)) then
    (ix s x1.t8).bind fun y1 =>
    bif ((v.Slot == y1.Slot) && ((v.From == y1.From) && ((v.Parent.1 == y1.Parent.1) && ((v.Parent.2 == y1.Parent.2) && ((v.Salt == y1.Salt) && true))))) then
      some (.inr (.inr x1.t8))
    else
      some (.inl (F170_L1.mk (IntKind.i64.wrap (x1.t8 + 1))))
  else
    some (.inr (.inl (F170_L1.mk x1.t8)))
def F170 (s : List Bk) (v : Bk) : Option Int :=
  (iter (F170_s1 s v) big (F170_L1.mk 0)).bind fun b_v1 => Sum.elim (fun _ =>
    some (-1)) some b_v1
set_option maxRecDepth 100000 in
theorem c170 {s : List Bk} {v : Bk} {r_ : Int} (hr : F170 s v = some r_) : LPure Tryz.prog 78 [.slice 5 (s.map blkP), blkP v] [.int .i64 r_] := by
  refine LPure.start Tryz.func78 rfl rfl rfl rfl ?_
  unfold F170 at hr
  refine LW.seq ?_
  refine LW.region ?_
  refine LOps.st rfl rfl rfl (LOp.box rfl rfl rfl rfl rfl) ?_
  refine LOps.st rfl rfl rfl (LOp.assign rfl rfl) ?_
  refine LOps.nil ?_
  refine thn_n ?_
  refine LW.seq ?_
  refine LW.seq ?_
  refine LW.region ?_
  refine LOps.st rfl rfl rfl (LOp.move rfl rfl) ?_
  refine LOps.st rfl rfl rfl (LOp.lenM rfl rfl (by kernel_rfl)) ?_
  refine LOps.st rfl rfl rfl (LOp.move rfl rfl) ?_
  refine LOps.nil ?_
  refine thn_n ?_
  obtain ⟨b_v1, hb_v1, ho_v1⟩ := bind_get hr
  clear hr
  refine LW.tailB (b := b_v1) (E := fun v1 => [(4, .p (.int .i64 0))]) (O := fun v1 => [.box [.p (.int .i64 v.Slot), .p (.int .i64 v.From), .p (.int .u64 v.Parent.1), .p (.int .u64 v.Parent.2), .p (.int .u64 v.Salt)]]) ?_ (fun v1 e_v1 env_v1 H_v1 hw_v1 => ?_)
  · refine LW.block ?_
    refine LW.iterB (E := fun x1 : F170_L1 => [(0, .p (.slice 5 (s.map blkP))), (3, .ptr 0 0), (4, .p (.int .i64 0)), (7, .p (.int .i64 (s.length : Int))), (8, .p (.int .i64 x1.t8))]) (O := fun x1 => [.box [.p (.int .i64 v.Slot), .p (.int .i64 v.From), .p (.int .u64 v.Parent.1), .p (.int .u64 v.Parent.2), .p (.int .u64 v.Salt)]]) hb_v1 (Weak.of 1 ⟨rfl, rfl, rfl, rfl, rfl, trivial⟩ rfl rfl rfl rfl) (fun x1 z_x1 hr hb_x1 => ?_)
    unfold F170_s1 at hr
    refine LW.seq ?_
    refine LW.region ?_
    refine LOps.st rfl rfl rfl (LOp.bin rfl rfl rfl rfl) ?_
    refine LOps.nil ?_
    refine thn_n ?_
    refine LW.seq ?_
    refine LW.cond rfl (fun (g1 : (decide (x1.t8 < (s.length : Int))) = true) => ?_) (fun (g1 : (decide (x1.t8 < (s.length : Int))) = false) => ?_)
    · -- g1 is True
      have hr := ite_t g1 hr
      refine LW.skip ?_
      refine thn_n ?_
      refine LW.seq ?_
      refine LW.block ?_
      refine LW.seq ?_
      refine LW.region ?_
      refine LOps.st rfl rfl rfl (LOp.move rfl rfl) ?_
      refine LOps.st rfl rfl rfl (LOp.assign rfl rfl) ?_
      refine LOps.nil ?_
      refine thn_n ?_
      refine LW.seq ?_
      refine LW.draw (by kernel_rfl) (by kernel_rfl) ?_
      refine LO.st rfl rfl rfl (LOp.load rfl rfl rfl vt42 rfl rfl) ?_
      refine LO.st rfl rfl rfl (LOp.move rfl rfl) ?_
      refine LO.st rfl rfl rfl (LOp.move rfl rfl) ?_
      obtain ⟨y1, h_y1, hr⟩ := bind_get hr
      refine LO.st rfl rfl rfl (LOp.indexAddrX rfl rfl rfl st27 h_y1 rfl) ?_
      refine LO.st rfl rfl rfl (LOp.loadC rfl rfl rfl vt42 rfl rfl) ?_
      refine LO.st rfl rfl rfl (LOp.eqlAgg rfl rfl rfl rfl rfl eqt42) ?_
      refine LO.nil ?_
      refine thn_n ?_
      refine LW.cond rfl (fun (g2 : ((v.Slot == y1.Slot) && ((v.From == y1.From) && ((v.Parent.1 == y1.Parent.1) && ((v.Parent.2 == y1.Parent.2) && ((v.Salt == y1.Salt) && true))))) = true) => ?_) (fun (g2 : ((v.Slot == y1.Slot) && ((v.From == y1.From) && ((v.Parent.1 == y1.Parent.1) && ((v.Parent.2 == y1.Parent.2) && ((v.Salt == y1.Salt) && true))))) = false) => ?_)
      · -- g2 is True
        have hr := ite_t g2 hr
        refine LW.seq ?_
        refine LW.region ?_
        refine LOps.st rfl rfl rfl (LOp.move rfl rfl) ?_
        refine LOps.st rfl rfl rfl (LOp.assign rfl rfl) ?_
        refine LOps.nil ?_
        refine thn_n ?_
        refine LW.ret ?_
        refine inBlk_r ?_
        refine thn_r ?_
        refine thn_r ?_
        refine inBlk_r ?_
        refine thn_r ?_
        refine thn_r ?_
        obtain rfl := Option.some.inj hr
        have hr := congrArg some (hb_x1 _ rfl)
        obtain rfl := Option.some.inj hr
        have hr := sum_r ho_v1
        obtain rfl := Option.some.inj hr
        refine finP_ret (.one (.tmp rfl)) ?_
        exact Conv.p
      · -- g2 is False
        have hr := ite_f g2 hr
        refine LW.skip ?_
        refine inBlk_n ?_
        refine thn_n ?_
        refine LW.region ?_
        refine LOps.st rfl rfl rfl (LOp.bin rfl rfl rfl rfl) ?_
        refine LOps.st rfl rfl rfl (LOp.move rfl rfl) ?_
        refine LOps.nil ?_
        refine thn_n ?_
        obtain rfl := Option.some.inj hr
        exact ⟨_, rfl, Weak.of 1 ⟨rfl, rfl, rfl, rfl, rfl, trivial⟩ rfl rfl rfl rfl⟩
    · -- g1 is False
      have hr := ite_f g1 hr
      refine LW.exit ?_
      refine thn_e ?_
      refine thn_e ?_
      refine inBlk_self ?_
      refine thn_n ?_
      obtain rfl := Option.some.inj hr
      have hr := congrArg some (hb_x1 _ rfl)
      obtain rfl := Option.some.inj hr
      exact ⟨_, rfl, Weak.of 1 ⟨rfl, trivial⟩ rfl rfl rfl rfl⟩
  · obtain rfl := e_v1
    have hr := sum_l ho_v1
    clear hb_v1
    refine thn_n ?_
    refine LW.weak hw_v1 ?_
    refine LW.seq ?_
    refine LW.region ?_
    refine LOps.st rfl rfl rfl (LOp.assign rfl rfl) ?_
    refine LOps.nil ?_
    refine thn_n ?_
    refine LW.ret ?_
    obtain rfl := Option.some.inj hr
    refine finP_ret (.one (.tmp rfl)) ?_
    exact Conv.p
structure F171_L1 where
  t8 : Int
def F171_s1 (s : List Vt) (v : Vt) (x1 : F171_L1) : Option (F171_L1 ⊕ (F171_L1 ⊕ Int)) :=
  bif decide (x1.t8 < (s.length : Int)) then
    (ix s x1.t8).bind fun y1 =>
    bif ((v.From == y1.From) && ((v.Slot == y1.Slot) && ((v.Head.1 == y1.Head.1) && ((v.Head.2 == y1.Head.2) && true)))) then
      some (.inr (.inr x1.t8))
    else
      some (.inl (F171_L1.mk (IntKind.i64.wrap (x1.t8 + 1))))
  else
    some (.inr (.inl (F171_L1.mk x1.t8)))
def F171 (s : List Vt) (v : Vt) : Option Int :=
  (iter (F171_s1 s v) big (F171_L1.mk 0)).bind fun b_v1 => Sum.elim (fun _ =>
    some (-1)) some b_v1
set_option maxRecDepth 100000 in
theorem c171 {s : List Vt} {v : Vt} {r_ : Int} (hr : F171 s v = some r_) : LPure Tryz.prog 79 [.slice 4 (s.map vtP), vtP v] [.int .i64 r_] := by
  refine LPure.start Tryz.func79 rfl rfl rfl rfl ?_
  unfold F171 at hr
  refine LW.seq ?_
  refine LW.region ?_
  refine LOps.st rfl rfl rfl (LOp.box rfl rfl rfl rfl rfl) ?_
  refine LOps.st rfl rfl rfl (LOp.assign rfl rfl) ?_
  refine LOps.nil ?_
  refine thn_n ?_
  refine LW.seq ?_
  refine LW.seq ?_
  refine LW.region ?_
  refine LOps.st rfl rfl rfl (LOp.move rfl rfl) ?_
  refine LOps.st rfl rfl rfl (LOp.lenM rfl rfl (by kernel_rfl)) ?_
  refine LOps.st rfl rfl rfl (LOp.move rfl rfl) ?_
  refine LOps.nil ?_
  refine thn_n ?_
  obtain ⟨b_v1, hb_v1, ho_v1⟩ := bind_get hr
  clear hr
  refine LW.tailB (b := b_v1) (E := fun v1 => [(4, .p (.int .i64 0))]) (O := fun v1 => [.box [.p (.int .i64 v.From), .p (.int .i64 v.Slot), .p (.int .u64 v.Head.1), .p (.int .u64 v.Head.2)]]) ?_ (fun v1 e_v1 env_v1 H_v1 hw_v1 => ?_)
  · refine LW.block ?_
    refine LW.iterB (E := fun x1 : F171_L1 => [(0, .p (.slice 4 (s.map vtP))), (3, .ptr 0 0), (4, .p (.int .i64 0)), (7, .p (.int .i64 (s.length : Int))), (8, .p (.int .i64 x1.t8))]) (O := fun x1 => [.box [.p (.int .i64 v.From), .p (.int .i64 v.Slot), .p (.int .u64 v.Head.1), .p (.int .u64 v.Head.2)]]) hb_v1 (Weak.of 1 ⟨rfl, rfl, rfl, rfl, rfl, trivial⟩ rfl rfl rfl rfl) (fun x1 z_x1 hr hb_x1 => ?_)
    unfold F171_s1 at hr
    refine LW.seq ?_
    refine LW.region ?_
    refine LOps.st rfl rfl rfl (LOp.bin rfl rfl rfl rfl) ?_
    refine LOps.nil ?_
    refine thn_n ?_
    refine LW.seq ?_
    refine LW.cond rfl (fun (g1 : (decide (x1.t8 < (s.length : Int))) = true) => ?_) (fun (g1 : (decide (x1.t8 < (s.length : Int))) = false) => ?_)
    · -- g1 is True
      have hr := ite_t g1 hr
      refine LW.skip ?_
      refine thn_n ?_
      refine LW.seq ?_
      refine LW.block ?_
      refine LW.seq ?_
      refine LW.region ?_
      refine LOps.st rfl rfl rfl (LOp.move rfl rfl) ?_
      refine LOps.st rfl rfl rfl (LOp.assign rfl rfl) ?_
      refine LOps.nil ?_
      refine thn_n ?_
      refine LW.seq ?_
      refine LW.draw (by kernel_rfl) (by kernel_rfl) ?_
      refine LO.st rfl rfl rfl (LOp.load rfl rfl rfl vt82 rfl rfl) ?_
      refine LO.st rfl rfl rfl (LOp.move rfl rfl) ?_
      refine LO.st rfl rfl rfl (LOp.move rfl rfl) ?_
      obtain ⟨y1, h_y1, hr⟩ := bind_get hr
      refine LO.st rfl rfl rfl (LOp.indexAddrX rfl rfl rfl st68 h_y1 rfl) ?_
      refine LO.st rfl rfl rfl (LOp.loadC rfl rfl rfl vt82 rfl rfl) ?_
      refine LO.st rfl rfl rfl (LOp.eqlAgg rfl rfl rfl rfl rfl eqt82) ?_
      refine LO.nil ?_
      refine thn_n ?_
      refine LW.cond rfl (fun (g2 : ((v.From == y1.From) && ((v.Slot == y1.Slot) && ((v.Head.1 == y1.Head.1) && ((v.Head.2 == y1.Head.2) && true)))) = true) => ?_) (fun (g2 : ((v.From == y1.From) && ((v.Slot == y1.Slot) && ((v.Head.1 == y1.Head.1) && ((v.Head.2 == y1.Head.2) && true)))) = false) => ?_)
      · -- g2 is True
        have hr := ite_t g2 hr
        refine LW.seq ?_
        refine LW.region ?_
        refine LOps.st rfl rfl rfl (LOp.move rfl rfl) ?_
        refine LOps.st rfl rfl rfl (LOp.assign rfl rfl) ?_
        refine LOps.nil ?_
        refine thn_n ?_
        refine LW.ret ?_
        refine inBlk_r ?_
        refine thn_r ?_
        refine thn_r ?_
        refine inBlk_r ?_
        refine thn_r ?_
        refine thn_r ?_
        obtain rfl := Option.some.inj hr
        have hr := congrArg some (hb_x1 _ rfl)
        obtain rfl := Option.some.inj hr
        have hr := sum_r ho_v1
        obtain rfl := Option.some.inj hr
        refine finP_ret (.one (.tmp rfl)) ?_
        exact Conv.p
      · -- g2 is False
        have hr := ite_f g2 hr
        refine LW.skip ?_
        refine inBlk_n ?_
        refine thn_n ?_
        refine LW.region ?_
        refine LOps.st rfl rfl rfl (LOp.bin rfl rfl rfl rfl) ?_
        refine LOps.st rfl rfl rfl (LOp.move rfl rfl) ?_
        refine LOps.nil ?_
        refine thn_n ?_
        obtain rfl := Option.some.inj hr
        exact ⟨_, rfl, Weak.of 1 ⟨rfl, rfl, rfl, rfl, rfl, trivial⟩ rfl rfl rfl rfl⟩
    · -- g1 is False
      have hr := ite_f g1 hr
      refine LW.exit ?_
      refine thn_e ?_
      refine thn_e ?_
      refine inBlk_self ?_
      refine thn_n ?_
      obtain rfl := Option.some.inj hr
      have hr := congrArg some (hb_x1 _ rfl)
      obtain rfl := Option.some.inj hr
      exact ⟨_, rfl, Weak.of 1 ⟨rfl, trivial⟩ rfl rfl rfl rfl⟩
  · obtain rfl := e_v1
    have hr := sum_l ho_v1
    clear hb_v1
    refine thn_n ?_
    refine LW.weak hw_v1 ?_
    refine LW.seq ?_
    refine LW.region ?_
    refine LOps.st rfl rfl rfl (LOp.assign rfl rfl) ?_
    refine LOps.nil ?_
    refine thn_n ?_
    refine LW.ret ?_
    obtain rfl := Option.some.inj hr
    refine finP_ret (.one (.tmp rfl)) ?_
    exact Conv.p
def F161 (s : List Bk) (v : Bk) : Option Bool :=
  (F170 s v).bind fun v1 =>
  some (decide (v1 ≥ 0))
set_option maxRecDepth 100000 in
theorem c161 {s : List Bk} {v : Bk} {r_ : Bool} (hr : F161 s v = some r_) : LPure Tryz.prog 66 [.slice 5 (s.map blkP), blkP v] [.bool r_] := by
  refine LPure.start Tryz.func66 rfl rfl rfl rfl ?_
  unfold F161 at hr
  refine LW.seq ?_
  refine LW.region ?_
  refine LOps.st rfl rfl rfl (LOp.box rfl rfl rfl rfl rfl) ?_
  refine LOps.st rfl rfl rfl (LOp.assign rfl rfl) ?_
  refine LOps.nil ?_
  refine thn_n ?_
  refine LW.seq ?_
  refine LW.region ?_
  refine LOps.st rfl rfl rfl (LOp.move rfl rfl) ?_
  refine LOps.st rfl rfl rfl (LOp.load rfl rfl rfl vt42 rfl rfl) ?_
  obtain ⟨v1, h_v1, hr⟩ := bind_get hr
  refine LOps.st rfl rfl rfl (LOp.call rfl rfl rfl (by kernel_rfl) (LC.pure (c170 h_v1) (.cons Conv.p (.cons Conv.p .nil)))) ?_
  refine LOps.st rfl rfl rfl (LOp.bin rfl rfl rfl rfl) ?_
  refine LOps.st rfl rfl rfl (LOp.assign rfl rfl) ?_
  refine LOps.nil ?_
  refine thn_n ?_
  refine LW.ret ?_
  obtain rfl := Option.some.inj hr
  refine finP_ret (.one (.tmp rfl)) ?_
  exact Conv.p
def F162 (s : List Vt) (v : Vt) : Option Bool :=
  (F171 s v).bind fun v1 =>
  some (decide (v1 ≥ 0))
set_option maxRecDepth 100000 in
theorem c162 {s : List Vt} {v : Vt} {r_ : Bool} (hr : F162 s v = some r_) : LPure Tryz.prog 68 [.slice 4 (s.map vtP), vtP v] [.bool r_] := by
  refine LPure.start Tryz.func68 rfl rfl rfl rfl ?_
  unfold F162 at hr
  refine LW.seq ?_
  refine LW.region ?_
  refine LOps.st rfl rfl rfl (LOp.box rfl rfl rfl rfl rfl) ?_
  refine LOps.st rfl rfl rfl (LOp.assign rfl rfl) ?_
  refine LOps.nil ?_
  refine thn_n ?_
  refine LW.seq ?_
  refine LW.region ?_
  refine LOps.st rfl rfl rfl (LOp.move rfl rfl) ?_
  refine LOps.st rfl rfl rfl (LOp.load rfl rfl rfl vt82 rfl rfl) ?_
  obtain ⟨v1, h_v1, hr⟩ := bind_get hr
  refine LOps.st rfl rfl rfl (LOp.call rfl rfl rfl (by kernel_rfl) (LC.pure (c171 h_v1) (.cons Conv.p (.cons Conv.p .nil)))) ?_
  refine LOps.st rfl rfl rfl (LOp.bin rfl rfl rfl rfl) ?_
  refine LOps.st rfl rfl rfl (LOp.assign rfl rfl) ?_
  refine LOps.nil ?_
  refine thn_n ?_
  refine LW.ret ?_
  obtain rfl := Option.some.inj hr
  refine finP_ret (.one (.tmp rfl)) ?_
  exact Conv.p
structure F139_L1 where
  t12 : Int
  out : List Bk
def F139_s1 (b : List Bk) (x1 : F139_L1) : Option (F139_L1 ⊕ F139_L1) :=
  bif decide (x1.t12 < (b.length : Int)) then
    (ix b x1.t12).bind fun y1 =>
    (F161 x1.out y1).bind fun v2 =>
    bif !v2 then
      bif room x1.out.length [y1].length 40 then
        some (.inl (F139_L1.mk (IntKind.i64.wrap (x1.t12 + 1)) (x1.out ++ [y1])))
      else none
    else
      some (.inl (F139_L1.mk (IntKind.i64.wrap (x1.t12 + 1)) x1.out))
  else
    some (.inr (F139_L1.mk x1.t12 x1.out))
def F139 (a : List Bk) (b : List Bk) : Option (List Bk) :=
  bif room 0 a.length 40 then
    (iter (F139_s1 b) big (F139_L1.mk 0 a)).bind fun v1 =>
    some v1.out
  else none
set_option maxRecDepth 100000 in
theorem c139 {a : List Bk} {b : List Bk} {r_ : (List Bk)} (hr : F139 a b = some r_) : LPure Tryz.prog 52 [.slice 5 (a.map blkP), .slice 5 (b.map blkP)] [.slice 5 (r_.map blkP)] := by
  refine LPure.start Tryz.func52 rfl rfl rfl rfl ?_
  unfold F139 at hr
  refine LW.seq ?_
  refine LW.region ?_
  refine LOps.st rfl rfl rfl (LOp.assign rfl rfl) ?_
  refine LOps.nil ?_
  refine thn_n ?_
  refine LW.seq ?_
  refine LW.region ?_
  refine LOps.st rfl rfl rfl (LOp.move rfl rfl) ?_
  obtain ⟨q1, hr⟩ := grd_get hr
  refine LOps.st rfl rfl rfl (LOp.callV (qs := [.p (.slice 5 (a.map blkP))]) rfl rfl rfl (by kernel_rfl) (c133V q1) (.consC Conv.p .nil) rfl rfl) ?_
  refine LOps.st rfl rfl rfl (LOp.assign rfl rfl) ?_
  refine LOps.nil ?_
  refine thn_n ?_
  refine LW.seq ?_
  refine LW.seq ?_
  refine LW.region ?_
  refine LOps.st rfl rfl rfl (LOp.move rfl rfl) ?_
  refine LOps.st rfl rfl rfl (LOp.lenM rfl rfl (by kernel_rfl)) ?_
  refine LOps.st rfl rfl rfl (LOp.move rfl rfl) ?_
  refine LOps.nil ?_
  refine thn_n ?_
  obtain ⟨v1, hb_v1, ho_v1⟩ := bind_get hr
  clear hr
  refine LW.tail (E := [(4, .zs), (5, .vec 5 0 (v1.out.map blkP).length 0 (v1.out.map blkP).length)]) (O := [.vec 5 (v1.out.map blkP)]) ?_ (fun env_v1 H_v1 hw_v1 => ?_)
  · refine LW.block ?_
    refine LW.iterB (E := fun x1 : F139_L1 => [(4, .zs), (5, .vec 5 0 (x1.out.map blkP).length 0 (x1.out.map blkP).length), (10, .p (.slice 5 (b.map blkP))), (11, .p (.int .i64 (b.length : Int))), (12, .p (.int .i64 x1.t12))]) (O := fun x1 => [.vec 5 (x1.out.map blkP)]) hb_v1 (Weak.of 1 ⟨rfl, rfl, rfl, rfl, rfl, trivial⟩ rfl rfl rfl rfl) (fun x1 z_x1 hr hb_x1 => ?_)
    unfold F139_s1 at hr
    refine LW.seq ?_
    refine LW.region ?_
    refine LOps.st rfl rfl rfl (LOp.bin rfl rfl rfl rfl) ?_
    refine LOps.nil ?_
    refine thn_n ?_
    refine LW.seq ?_
    refine LW.cond rfl (fun (g1 : (decide (x1.t12 < (b.length : Int))) = true) => ?_) (fun (g1 : (decide (x1.t12 < (b.length : Int))) = false) => ?_)
    · -- g1 is True
      have hr := ite_t g1 hr
      refine LW.skip ?_
      refine thn_n ?_
      refine LW.seq ?_
      refine LW.block ?_
      refine LW.seq ?_
      refine LW.region ?_
      obtain ⟨y1, h_y1, hr⟩ := bind_get hr
      refine LOps.st rfl rfl rfl (LOp.indexAddrX rfl rfl rfl st27 h_y1 rfl) ?_
      refine LOps.st rfl rfl rfl (LOp.loadC rfl rfl rfl vt42 rfl rfl) ?_
      refine LOps.st rfl rfl rfl (LOp.alloc rfl zt42 rfl rfl) ?_
      refine LOps.st rfl rfl rfl (LOp.store rfl rfl rfl rfl vt42 rfl rfl rfl rfl) ?_
      refine LOps.nil ?_
      refine thn_n ?_
      refine LW.seq ?_
      refine LW.region ?_
      refine LOps.st rfl rfl rfl (LOp.move rfl rfl) ?_
      refine LOps.st rfl rfl rfl (LOp.load rfl rfl rfl vt42 rfl rfl) ?_
      obtain ⟨v2, h_v2, hr⟩ := bind_get hr
      refine LOps.st rfl rfl rfl (LOp.call rfl rfl rfl (by kernel_rfl) (LC.lend (c161 h_v2) (.cons (Conv.vecAll rfl rfl rfl) (.cons Conv.p .nil)) rfl)) ?_
      refine LOps.st rfl rfl rfl (LOp.not rfl rfl) ?_
      refine LOps.nil ?_
      refine thn_n ?_
      refine LW.cond rfl (fun (g2 : (!v2) = true) => ?_) (fun (g2 : (!v2) = false) => ?_)
      · -- g2 is True
        have hr := ite_t g2 hr
        refine LW.region ?_
        refine LOps.st rfl rfl rfl (LOp.move rfl rfl) ?_
        refine LOps.st rfl rfl rfl (LOp.load rfl rfl rfl vt42 rfl rfl) ?_
        refine LOps.st rfl rfl rfl (LOp.buildSlice rfl st27 rfl rfl rfl rfl rfl) ?_
        obtain ⟨q2, hr⟩ := grd_get hr
        refine LOps.st rfl rfl rfl (LOp.appendX blkP x1.out [y1] rfl rfl rfl rfl Src.p rfl st27 q2 rfl) ?_
        refine LOps.st rfl rfl rfl (LOp.assign rfl rfl) ?_
        refine LOps.nil ?_
        refine inBlk_n ?_
        refine thn_n ?_
        refine LW.region ?_
        refine LOps.st rfl rfl rfl (LOp.bin rfl rfl rfl rfl) ?_
        refine LOps.st rfl rfl rfl (LOp.move rfl rfl) ?_
        refine LOps.nil ?_
        refine thn_n ?_
        obtain rfl := Option.some.inj hr
        exact ⟨_, rfl, Weak.of 1 ⟨rfl, rfl, rfl, rfl, rfl, trivial⟩ rfl rfl rfl rfl⟩
      · -- g2 is False
        have hr := ite_f g2 hr
        refine LW.skip ?_
        refine inBlk_n ?_
        refine thn_n ?_
        refine LW.region ?_
        refine LOps.st rfl rfl rfl (LOp.bin rfl rfl rfl rfl) ?_
        refine LOps.st rfl rfl rfl (LOp.move rfl rfl) ?_
        refine LOps.nil ?_
        refine thn_n ?_
        obtain rfl := Option.some.inj hr
        exact ⟨_, rfl, Weak.of 1 ⟨rfl, rfl, rfl, rfl, rfl, trivial⟩ rfl rfl rfl rfl⟩
    · -- g1 is False
      have hr := ite_f g1 hr
      refine LW.exit ?_
      refine thn_e ?_
      refine thn_e ?_
      refine inBlk_self ?_
      refine thn_n ?_
      obtain rfl := Option.some.inj hr
      have hr := congrArg some (hb_x1 _ rfl)
      obtain rfl := Option.some.inj hr
      exact Weak.of 1 ⟨rfl, rfl, trivial⟩ rfl rfl rfl rfl
  · have hr := ho_v1
    clear hb_v1
    refine thn_n ?_
    refine LW.weak hw_v1 ?_
    refine LW.seq ?_
    refine LW.region ?_
    refine LOps.st rfl rfl rfl (LOp.move rfl rfl) ?_
    refine LOps.st rfl rfl rfl (LOp.assign rfl rfl) ?_
    refine LOps.nil ?_
    refine thn_n ?_
    refine LW.ret ?_
    obtain rfl := Option.some.inj hr
    refine finP_ret (.one (.tmp rfl)) ?_
    exact (Conv.vecAll rfl rfl rfl)
structure F140_L1 where
  t12 : Int
  out : List Vt
def F140_s1 (b : List Vt) (x1 : F140_L1) : Option (F140_L1 ⊕ F140_L1) :=
  bif decide (x1.t12 < (b.length : Int)) then
    (ix b x1.t12).bind fun y1 =>
    (F162 x1.out y1).bind fun v2 =>
    bif !v2 then
      bif room x1.out.length [y1].length 32 then
        some (.inl (F140_L1.mk (IntKind.i64.wrap (x1.t12 + 1)) (x1.out ++ [y1])))
      else none
    else
      some (.inl (F140_L1.mk (IntKind.i64.wrap (x1.t12 + 1)) x1.out))
  else
    some (.inr (F140_L1.mk x1.t12 x1.out))
def F140 (a : List Vt) (b : List Vt) : Option (List Vt) :=
  bif room 0 a.length 32 then
    (iter (F140_s1 b) big (F140_L1.mk 0 a)).bind fun v1 =>
    some v1.out
  else none
set_option maxRecDepth 100000 in
theorem c140 {a : List Vt} {b : List Vt} {r_ : (List Vt)} (hr : F140 a b = some r_) : LPure Tryz.prog 53 [.slice 4 (a.map vtP), .slice 4 (b.map vtP)] [.slice 4 (r_.map vtP)] := by
  refine LPure.start Tryz.func53 rfl rfl rfl rfl ?_
  unfold F140 at hr
  refine LW.seq ?_
  refine LW.region ?_
  refine LOps.st rfl rfl rfl (LOp.assign rfl rfl) ?_
  refine LOps.nil ?_
  refine thn_n ?_
  refine LW.seq ?_
  refine LW.region ?_
  refine LOps.st rfl rfl rfl (LOp.move rfl rfl) ?_
  obtain ⟨q1, hr⟩ := grd_get hr
  refine LOps.st rfl rfl rfl (LOp.callV (qs := [.p (.slice 4 (a.map vtP))]) rfl rfl rfl (by kernel_rfl) (c134V q1) (.consC Conv.p .nil) rfl rfl) ?_
  refine LOps.st rfl rfl rfl (LOp.assign rfl rfl) ?_
  refine LOps.nil ?_
  refine thn_n ?_
  refine LW.seq ?_
  refine LW.seq ?_
  refine LW.region ?_
  refine LOps.st rfl rfl rfl (LOp.move rfl rfl) ?_
  refine LOps.st rfl rfl rfl (LOp.lenM rfl rfl (by kernel_rfl)) ?_
  refine LOps.st rfl rfl rfl (LOp.move rfl rfl) ?_
  refine LOps.nil ?_
  refine thn_n ?_
  obtain ⟨v1, hb_v1, ho_v1⟩ := bind_get hr
  clear hr
  refine LW.tail (E := [(4, .zs), (5, .vec 4 0 (v1.out.map vtP).length 0 (v1.out.map vtP).length)]) (O := [.vec 4 (v1.out.map vtP)]) ?_ (fun env_v1 H_v1 hw_v1 => ?_)
  · refine LW.block ?_
    refine LW.iterB (E := fun x1 : F140_L1 => [(4, .zs), (5, .vec 4 0 (x1.out.map vtP).length 0 (x1.out.map vtP).length), (10, .p (.slice 4 (b.map vtP))), (11, .p (.int .i64 (b.length : Int))), (12, .p (.int .i64 x1.t12))]) (O := fun x1 => [.vec 4 (x1.out.map vtP)]) hb_v1 (Weak.of 1 ⟨rfl, rfl, rfl, rfl, rfl, trivial⟩ rfl rfl rfl rfl) (fun x1 z_x1 hr hb_x1 => ?_)
    unfold F140_s1 at hr
    refine LW.seq ?_
    refine LW.region ?_
    refine LOps.st rfl rfl rfl (LOp.bin rfl rfl rfl rfl) ?_
    refine LOps.nil ?_
    refine thn_n ?_
    refine LW.seq ?_
    refine LW.cond rfl (fun (g1 : (decide (x1.t12 < (b.length : Int))) = true) => ?_) (fun (g1 : (decide (x1.t12 < (b.length : Int))) = false) => ?_)
    · -- g1 is True
      have hr := ite_t g1 hr
      refine LW.skip ?_
      refine thn_n ?_
      refine LW.seq ?_
      refine LW.block ?_
      refine LW.seq ?_
      refine LW.region ?_
      obtain ⟨y1, h_y1, hr⟩ := bind_get hr
      refine LOps.st rfl rfl rfl (LOp.indexAddrX rfl rfl rfl st68 h_y1 rfl) ?_
      refine LOps.st rfl rfl rfl (LOp.loadC rfl rfl rfl vt82 rfl rfl) ?_
      refine LOps.st rfl rfl rfl (LOp.alloc rfl zt82 rfl rfl) ?_
      refine LOps.st rfl rfl rfl (LOp.store rfl rfl rfl rfl vt82 rfl rfl rfl rfl) ?_
      refine LOps.nil ?_
      refine thn_n ?_
      refine LW.seq ?_
      refine LW.region ?_
      refine LOps.st rfl rfl rfl (LOp.move rfl rfl) ?_
      refine LOps.st rfl rfl rfl (LOp.load rfl rfl rfl vt82 rfl rfl) ?_
      obtain ⟨v2, h_v2, hr⟩ := bind_get hr
      refine LOps.st rfl rfl rfl (LOp.call rfl rfl rfl (by kernel_rfl) (LC.lend (c162 h_v2) (.cons (Conv.vecAll rfl rfl rfl) (.cons Conv.p .nil)) rfl)) ?_
      refine LOps.st rfl rfl rfl (LOp.not rfl rfl) ?_
      refine LOps.nil ?_
      refine thn_n ?_
      refine LW.cond rfl (fun (g2 : (!v2) = true) => ?_) (fun (g2 : (!v2) = false) => ?_)
      · -- g2 is True
        have hr := ite_t g2 hr
        refine LW.region ?_
        refine LOps.st rfl rfl rfl (LOp.move rfl rfl) ?_
        refine LOps.st rfl rfl rfl (LOp.load rfl rfl rfl vt82 rfl rfl) ?_
        refine LOps.st rfl rfl rfl (LOp.buildSlice rfl st68 rfl rfl rfl rfl rfl) ?_
        obtain ⟨q2, hr⟩ := grd_get hr
        refine LOps.st rfl rfl rfl (LOp.appendX vtP x1.out [y1] rfl rfl rfl rfl Src.p rfl st68 q2 rfl) ?_
        refine LOps.st rfl rfl rfl (LOp.assign rfl rfl) ?_
        refine LOps.nil ?_
        refine inBlk_n ?_
        refine thn_n ?_
        refine LW.region ?_
        refine LOps.st rfl rfl rfl (LOp.bin rfl rfl rfl rfl) ?_
        refine LOps.st rfl rfl rfl (LOp.move rfl rfl) ?_
        refine LOps.nil ?_
        refine thn_n ?_
        obtain rfl := Option.some.inj hr
        exact ⟨_, rfl, Weak.of 1 ⟨rfl, rfl, rfl, rfl, rfl, trivial⟩ rfl rfl rfl rfl⟩
      · -- g2 is False
        have hr := ite_f g2 hr
        refine LW.skip ?_
        refine inBlk_n ?_
        refine thn_n ?_
        refine LW.region ?_
        refine LOps.st rfl rfl rfl (LOp.bin rfl rfl rfl rfl) ?_
        refine LOps.st rfl rfl rfl (LOp.move rfl rfl) ?_
        refine LOps.nil ?_
        refine thn_n ?_
        obtain rfl := Option.some.inj hr
        exact ⟨_, rfl, Weak.of 1 ⟨rfl, rfl, rfl, rfl, rfl, trivial⟩ rfl rfl rfl rfl⟩
    · -- g1 is False
      have hr := ite_f g1 hr
      refine LW.exit ?_
      refine thn_e ?_
      refine thn_e ?_
      refine inBlk_self ?_
      refine thn_n ?_
      obtain rfl := Option.some.inj hr
      have hr := congrArg some (hb_x1 _ rfl)
      obtain rfl := Option.some.inj hr
      exact Weak.of 1 ⟨rfl, rfl, trivial⟩ rfl rfl rfl rfl
  · have hr := ho_v1
    clear hb_v1
    refine thn_n ?_
    refine LW.weak hw_v1 ?_
    refine LW.seq ?_
    refine LW.region ?_
    refine LOps.st rfl rfl rfl (LOp.move rfl rfl) ?_
    refine LOps.st rfl rfl rfl (LOp.assign rfl rfl) ?_
    refine LOps.nil ?_
    refine thn_n ?_
    refine LW.ret ?_
    obtain rfl := Option.some.inj hr
    refine finP_ret (.one (.tmp rfl)) ?_
    exact (Conv.vecAll rfl rfl rfl)
def F91 (a : Vw) (b : Vw) : Option Vw :=
  (F139 a.B b.B).bind fun v1 =>
  (F140 a.V b.V).bind fun v2 =>
  some (Vw.mk v1 v2)
set_option maxRecDepth 100000 in
theorem c91 {a : Vw} {b : Vw} {r_ : Vw} (hr : F91 a b = some r_) : LPure Tryz.prog 32 [vwP a, vwP b] [vwP r_] := by
  refine LPure.start Tryz.func32 rfl rfl rfl rfl ?_
  unfold F91 at hr
  refine LW.seq ?_
  refine LW.region ?_
  refine LOps.st rfl rfl rfl (LOp.box rfl rfl rfl rfl rfl) ?_
  refine LOps.st rfl rfl rfl (LOp.box rfl rfl rfl rfl rfl) ?_
  refine LOps.st rfl rfl rfl (LOp.alloc rfl zt75 rfl rfl) ?_
  refine LOps.nil ?_
  refine thn_n ?_
  refine LW.seq ?_
  refine LW.drawLast (m := 11) (by kernel_rfl) (by kernel_rfl) (by kernel_rfl) ?_
  refine LO.st rfl rfl rfl (LOp.fieldAddr rfl rfl ft75_0) ?_
  refine LO.st rfl rfl rfl (LOp.load rfl rfl rfl vt27 rfl rfl) ?_
  refine LO.st rfl rfl rfl (LOp.fieldAddr rfl rfl ft75_0) ?_
  refine LO.st rfl rfl rfl (LOp.load rfl rfl rfl vt27 rfl rfl) ?_
  obtain ⟨v1, h_v1, hr⟩ := bind_get hr
  refine LO.st rfl rfl rfl (LOp.call rfl rfl rfl (by kernel_rfl) (LC.pure (c139 h_v1) (.cons Conv.p (.cons Conv.p .nil)))) ?_
  refine LO.st rfl rfl rfl (LOp.fieldAddr rfl rfl ft75_1) ?_
  refine LO.st rfl rfl rfl (LOp.load rfl rfl rfl vt68 rfl rfl) ?_
  refine LO.st rfl rfl rfl (LOp.fieldAddr rfl rfl ft75_1) ?_
  refine LO.st rfl rfl rfl (LOp.load rfl rfl rfl vt68 rfl rfl) ?_
  obtain ⟨v2, h_v2, hr⟩ := bind_get hr
  refine LO.st rfl rfl rfl (LOp.call rfl rfl rfl (by kernel_rfl) (LC.pure (c140 h_v2) (.cons Conv.p (.cons Conv.p .nil)))) ?_
  refine LO.st rfl rfl rfl (LOp.build rfl bt75 rfl rfl rfl) ?_
  refine LO.nil ?_
  refine LOps.st rfl rfl rfl (LOp.store rfl rfl rfl rfl vt75 rfl rfl rfl rfl) ?_
  refine LOps.nil ?_
  refine thn_n ?_
  refine LW.ret ?_
  obtain rfl := Option.some.inj hr
  refine finP_ret (.one (.cellAgg rfl rfl (by kernel_rfl) rfl)) ?_
  exact Conv.p
open Go.Proofs
def F1059 (x : Int) (y : Int) : Option (Int × Int) :=
  some (IntKind.u64.wrap ((IntKind.u64.wrap ((IntKind.u64.wrap ((x.fdiv (2 ^ (min (Int.toNat 32) IntKind.u64.bits))) * (y.fdiv (2 ^ (min (Int.toNat 32) IntKind.u64.bits))))) + ((IntKind.u64.wrap ((IntKind.u64.wrap ((x.fdiv (2 ^ (min (Int.toNat 32) IntKind.u64.bits))) * (bits .and .u64 y 4294967295))) + ((IntKind.u64.wrap ((bits .and .u64 x 4294967295) * (bits .and .u64 y 4294967295))).fdiv (2 ^ (min (Int.toNat 32) IntKind.u64.bits))))).fdiv (2 ^ (min (Int.toNat 32) IntKind.u64.bits))))) + ((IntKind.u64.wrap ((bits .and .u64 (IntKind.u64.wrap ((IntKind.u64.wrap ((x.fdiv (2 ^ (min (Int.toNat 32) IntKind.u64.bits))) * (bits .and .u64 y 4294967295))) + ((IntKind.u64.wrap ((bits .and .u64 x 4294967295) * (bits .and .u64 y 4294967295))).fdiv (2 ^ (min (Int.toNat 32) IntKind.u64.bits))))) 4294967295) + (IntKind.u64.wrap ((bits .and .u64 x 4294967295) * (y.fdiv (2 ^ (min (Int.toNat 32) IntKind.u64.bits))))))).fdiv (2 ^ (min (Int.toNat 32) IntKind.u64.bits)))), IntKind.u64.wrap (x * y))
set_option maxRecDepth 100000 in
theorem c1059 {x : Int} {y : Int} {r_ : Int × Int} (hr : F1059 x y = some r_) : LPure Tryz.prog 59 [.int .u64 x, .int .u64 y] [.int .u64 r_.1, .int .u64 r_.2] := by
  refine LPure.start Tryz.func59 rfl rfl rfl rfl ?_
  unfold F1059 at hr
  refine LW.seq ?_
  refine LW.region ?_
  refine LOps.st rfl rfl rfl (LOp.assign rfl rfl) ?_
  refine LOps.st rfl rfl rfl (LOp.assign rfl rfl) ?_
  refine LOps.nil ?_
  refine thn_n ?_
  refine LW.seq ?_
  refine LW.region ?_
  refine LOps.st rfl rfl rfl (LOp.move rfl rfl) ?_
  refine LOps.st rfl rfl rfl (LOp.bin rfl rfl rfl rfl) ?_
  refine LOps.st rfl rfl rfl (LOp.assign rfl rfl) ?_
  refine LOps.nil ?_
  refine thn_n ?_
  refine LW.seq ?_
  refine LW.region ?_
  refine LOps.st rfl rfl rfl (LOp.move rfl rfl) ?_
  refine LOps.st rfl rfl rfl (LOp.shr rfl rfl rfl (by decide)) ?_
  refine LOps.st rfl rfl rfl (LOp.assign rfl rfl) ?_
  refine LOps.nil ?_
  refine thn_n ?_
  refine LW.seq ?_
  refine LW.region ?_
  refine LOps.st rfl rfl rfl (LOp.move rfl rfl) ?_
  refine LOps.st rfl rfl rfl (LOp.bin rfl rfl rfl rfl) ?_
  refine LOps.st rfl rfl rfl (LOp.assign rfl rfl) ?_
  refine LOps.nil ?_
  refine thn_n ?_
  refine LW.seq ?_
  refine LW.region ?_
  refine LOps.st rfl rfl rfl (LOp.move rfl rfl) ?_
  refine LOps.st rfl rfl rfl (LOp.shr rfl rfl rfl (by decide)) ?_
  refine LOps.st rfl rfl rfl (LOp.assign rfl rfl) ?_
  refine LOps.nil ?_
  refine thn_n ?_
  refine LW.seq ?_
  refine LW.region ?_
  refine LOps.st rfl rfl rfl (LOp.move rfl rfl) ?_
  refine LOps.st rfl rfl rfl (LOp.move rfl rfl) ?_
  refine LOps.st rfl rfl rfl (LOp.bin rfl rfl rfl rfl) ?_
  refine LOps.st rfl rfl rfl (LOp.assign rfl rfl) ?_
  refine LOps.nil ?_
  refine thn_n ?_
  refine LW.seq ?_
  refine LW.region ?_
  refine LOps.st rfl rfl rfl (LOp.move rfl rfl) ?_
  refine LOps.st rfl rfl rfl (LOp.move rfl rfl) ?_
  refine LOps.st rfl rfl rfl (LOp.bin rfl rfl rfl rfl) ?_
  refine LOps.st rfl rfl rfl (LOp.move rfl rfl) ?_
  refine LOps.st rfl rfl rfl (LOp.shr rfl rfl rfl (by decide)) ?_
  refine LOps.st rfl rfl rfl (LOp.bin rfl rfl rfl rfl) ?_
  refine LOps.st rfl rfl rfl (LOp.assign rfl rfl) ?_
  refine LOps.nil ?_
  refine thn_n ?_
  refine LW.seq ?_
  refine LW.region ?_
  refine LOps.st rfl rfl rfl (LOp.move rfl rfl) ?_
  refine LOps.st rfl rfl rfl (LOp.bin rfl rfl rfl rfl) ?_
  refine LOps.st rfl rfl rfl (LOp.assign rfl rfl) ?_
  refine LOps.nil ?_
  refine thn_n ?_
  refine LW.seq ?_
  refine LW.region ?_
  refine LOps.st rfl rfl rfl (LOp.move rfl rfl) ?_
  refine LOps.st rfl rfl rfl (LOp.shr rfl rfl rfl (by decide)) ?_
  refine LOps.st rfl rfl rfl (LOp.assign rfl rfl) ?_
  refine LOps.nil ?_
  refine thn_n ?_
  refine LW.seq ?_
  refine LW.region ?_
  refine LOps.st rfl rfl rfl (LOp.move rfl rfl) ?_
  refine LOps.st rfl rfl rfl (LOp.move rfl rfl) ?_
  refine LOps.st rfl rfl rfl (LOp.move rfl rfl) ?_
  refine LOps.st rfl rfl rfl (LOp.bin rfl rfl rfl rfl) ?_
  refine LOps.st rfl rfl rfl (LOp.bin rfl rfl rfl rfl) ?_
  refine LOps.st rfl rfl rfl (LOp.assign rfl rfl) ?_
  refine LOps.nil ?_
  refine thn_n ?_
  refine LW.seq ?_
  refine LW.region ?_
  refine LOps.st rfl rfl rfl (LOp.move rfl rfl) ?_
  refine LOps.st rfl rfl rfl (LOp.move rfl rfl) ?_
  refine LOps.st rfl rfl rfl (LOp.bin rfl rfl rfl rfl) ?_
  refine LOps.st rfl rfl rfl (LOp.move rfl rfl) ?_
  refine LOps.st rfl rfl rfl (LOp.bin rfl rfl rfl rfl) ?_
  refine LOps.st rfl rfl rfl (LOp.move rfl rfl) ?_
  refine LOps.st rfl rfl rfl (LOp.shr rfl rfl rfl (by decide)) ?_
  refine LOps.st rfl rfl rfl (LOp.bin rfl rfl rfl rfl) ?_
  refine LOps.st rfl rfl rfl (LOp.assign rfl rfl) ?_
  refine LOps.nil ?_
  refine thn_n ?_
  refine LW.seq ?_
  refine LW.region ?_
  refine LOps.st rfl rfl rfl (LOp.move rfl rfl) ?_
  refine LOps.st rfl rfl rfl (LOp.move rfl rfl) ?_
  refine LOps.st rfl rfl rfl (LOp.bin rfl rfl rfl rfl) ?_
  refine LOps.st rfl rfl rfl (LOp.assign rfl rfl) ?_
  refine LOps.nil ?_
  refine thn_n ?_
  refine LW.ret ?_
  obtain rfl := Option.some.inj hr
  refine finP_ret (.two (.tmp rfl) (.tmp rfl)) ?_
  exact ⟨_, rfl, (.cons Conv.p (.cons Conv.p .nil))⟩
def F1043 (a : Int) (b : Int) : Option ID :=
  (F1059 (IntKind.u64.wrap (a)) (IntKind.u64.wrap (b))).bind fun v1 =>
  some v1
set_option maxRecDepth 100000 in
theorem c1043 {a : Int} {b : Int} {r_ : ID} (hr : F1043 a b = some r_) : LPure Tryz.prog 43 [.int .i64 a, .int .i64 b] [idP r_] := by
  refine LPure.start Tryz.func43 rfl rfl rfl rfl ?_
  unfold F1043 at hr
  refine LW.seq ?_
  refine LW.region ?_
  refine LOps.st rfl rfl rfl (LOp.alloc rfl zt1108 rfl rfl) ?_
  refine LOps.nil ?_
  refine thn_n ?_
  refine LW.seq ?_
  refine LW.region ?_
  refine LOps.st rfl rfl rfl (LOp.move rfl rfl) ?_
  refine LOps.st rfl rfl rfl (LOp.convert (k' := .u64) rfl rfl (by kernel_rfl)) ?_
  refine LOps.st rfl rfl rfl (LOp.move rfl rfl) ?_
  refine LOps.st rfl rfl rfl (LOp.convert (k' := .u64) rfl rfl (by kernel_rfl)) ?_
  obtain ⟨v1, h_v1, hr⟩ := bind_get hr
  refine LOps.st rfl rfl rfl (LOp.call rfl rfl rfl (by kernel_rfl) (LC.pure (c1059 h_v1) (.cons Conv.p (.cons Conv.p .nil)))) ?_
  refine LOps.st rfl rfl rfl (LOp.move rfl rfl) ?_
  refine LOps.st rfl rfl rfl (LOp.extract rfl rfl rfl) ?_
  refine LOps.st rfl rfl rfl (LOp.extract rfl rfl rfl) ?_
  refine LOps.st rfl rfl rfl (LOp.assign rfl rfl) ?_
  refine LOps.st rfl rfl rfl (LOp.assign rfl rfl) ?_
  refine LOps.nil ?_
  refine thn_n ?_
  refine LW.seq ?_
  refine LW.region ?_
  refine LOps.st rfl rfl rfl (LOp.move rfl rfl) ?_
  refine LOps.st rfl rfl rfl (LOp.move rfl rfl) ?_
  refine LOps.st rfl rfl rfl (LOp.build rfl bt1108 rfl rfl rfl) ?_
  refine LOps.st rfl rfl rfl (LOp.store rfl rfl rfl rfl vt1108 rfl rfl rfl rfl) ?_
  refine LOps.nil ?_
  refine thn_n ?_
  refine LW.ret ?_
  obtain rfl := Option.some.inj hr
  refine finP_ret (.one (.cellAgg rfl rfl (by kernel_rfl) rfl)) ?_
  exact Conv.p
def F1058 (n : Int) : Option Bool :=
  bif decide (n ≥ 0) then
    some (decide (n ≤ 4611686018427387904))
  else
    some false
set_option maxRecDepth 100000 in
theorem c1058 {n : Int} {r_ : Bool} (hr : F1058 n = some r_) : LPure Tryz.prog 58 [.int .i64 n] [.bool r_] := by
  refine LPure.start Tryz.func58 rfl rfl rfl rfl ?_
  unfold F1058 at hr
  refine LW.seq ?_
  refine LW.region ?_
  refine LOps.st rfl rfl rfl (LOp.assign rfl rfl) ?_
  refine LOps.nil ?_
  refine thn_n ?_
  refine LW.seq ?_
  refine LW.region ?_
  refine LOps.st rfl rfl rfl (LOp.move rfl rfl) ?_
  refine LOps.st rfl rfl rfl (LOp.bin rfl rfl rfl rfl) ?_
  refine LOps.st rfl rfl rfl (LOp.move rfl rfl) ?_
  refine LOps.cases 5 rfl (fun (g1 : (decide (n ≥ 0)) = true) => ?_) (fun (g1 : (decide (n ≥ 0)) = false) => ?_)
  · -- g1 is True
    have hr := ite_t g1 hr
    refine LOps.gd rfl rfl rfl (gd g1 rfl) rfl (LOp.move rfl rfl) ?_
    refine LOps.gd rfl rfl rfl (gd g1 rfl) rfl (LOp.bin rfl rfl rfl rfl) ?_
    refine LOps.st rfl rfl rfl (LOp.pickT rfl (gdl g1 rfl) rfl) ?_
    refine LOps.st rfl rfl rfl (LOp.assign rfl rfl) ?_
    refine LOps.nil ?_
    refine thn_n ?_
    refine LW.ret ?_
    obtain rfl := Option.some.inj hr
    refine finP_ret (.one (.tmp rfl)) ?_
    exact Conv.p
  · -- g1 is False
    have hr := ite_f g1 hr
    refine LOps.sk rfl rfl rfl (gd g1 rfl) rfl rfl ?_
    refine LOps.sk rfl rfl rfl (gd g1 rfl) rfl rfl ?_
    refine LOps.st rfl rfl rfl (LOp.pickF rfl (gdl g1 rfl) rfl) ?_
    refine LOps.st rfl rfl rfl (LOp.assign rfl rfl) ?_
    refine LOps.nil ?_
    refine thn_n ?_
    refine LW.ret ?_
    obtain rfl := Option.some.inj hr
    refine finP_ret (.one (.tmp rfl)) ?_
    exact Conv.p
def F1057 (n : Int) : Option Bool :=
  (F1058 n).bind fun v1 =>
  some (!v1)
set_option maxRecDepth 100000 in
theorem c1057 {n : Int} {r_ : Bool} (hr : F1057 n = some r_) : LPure Tryz.prog 57 [.int .i64 n] [.bool r_] := by
  refine LPure.start Tryz.func57 rfl rfl rfl rfl ?_
  unfold F1057 at hr
  refine LW.seq ?_
  refine LW.region ?_
  refine LOps.st rfl rfl rfl (LOp.assign rfl rfl) ?_
  refine LOps.nil ?_
  refine thn_n ?_
  refine LW.seq ?_
  refine LW.region ?_
  refine LOps.st rfl rfl rfl (LOp.move rfl rfl) ?_
  obtain ⟨v1, h_v1, hr⟩ := bind_get hr
  refine LOps.st rfl rfl rfl (LOp.call rfl rfl rfl (by kernel_rfl) (LC.pure (c1058 h_v1) (.cons Conv.p .nil))) ?_
  refine LOps.st rfl rfl rfl (LOp.not rfl rfl) ?_
  refine LOps.st rfl rfl rfl (LOp.assign rfl rfl) ?_
  refine LOps.nil ?_
  refine thn_n ?_
  refine LW.ret ?_
  obtain rfl := Option.some.inj hr
  refine finP_ret (.one (.tmp rfl)) ?_
  exact Conv.p
structure FIxf_L1 where
  t8 : Int
def FIxf_s1 (s : List Int) (x1 : FIxf_L1) : Option (FIxf_L1 ⊕ (FIxf_L1 ⊕ Int)) :=
  bif decide (x1.t8 < (s.length : Int)) then
    (ix s x1.t8).bind fun y1 =>
    (F1057 y1).bind fun v2 =>
    bif v2 then
      some (.inr (.inr x1.t8))
    else
      some (.inl (FIxf_L1.mk (IntKind.i64.wrap (x1.t8 + 1))))
  else
    some (.inr (.inl (FIxf_L1.mk x1.t8)))
def FIxf (s : List Int) : Option Int :=
  (iter (FIxf_s1 s) big (FIxf_L1.mk 0)).bind fun b_v1 => Sum.elim (fun _ =>
    some (-1)) some b_v1
set_option maxRecDepth 100000 in
theorem cFIxf {s : List Int} {r_ : Int} (hr : FIxf s = some r_) : LC Tryz.prog 70 [.p (.slice 1 (s.map i64P)), .fn 57 [] []] [] (Is (.p (.int .i64 r_)) []) := by
  refine LC.start Tryz.func70 rfl rfl rfl ?_
  unfold FIxf at hr
  refine LW.seq ?_
  refine LW.region ?_
  refine LOps.st rfl rfl rfl (LOp.assign rfl rfl) ?_
  refine LOps.nil ?_
  refine thn_n ?_
  refine LW.seq ?_
  refine LW.seq ?_
  refine LW.region ?_
  refine LOps.st rfl rfl rfl (LOp.move rfl rfl) ?_
  refine LOps.st rfl rfl rfl (LOp.lenM rfl rfl (by kernel_rfl)) ?_
  refine LOps.st rfl rfl rfl (LOp.move rfl rfl) ?_
  refine LOps.nil ?_
  refine thn_n ?_
  obtain ⟨b_v1, hb_v1, ho_v1⟩ := bind_get hr
  clear hr
  refine LW.tailB (b := b_v1) (E := fun v1 => [(4, .p (.int .i64 0))]) (O := fun v1 => []) ?_ (fun v1 e_v1 env_v1 H_v1 hw_v1 => ?_)
  · refine LW.block ?_
    refine LW.iterB (E := fun x1 : FIxf_L1 => [(0, .p (.slice 1 (s.map i64P))), (1, .fn 57 [] []), (4, .p (.int .i64 0)), (7, .p (.int .i64 (s.length : Int))), (8, .p (.int .i64 x1.t8))]) (O := fun x1 => []) hb_v1 (Weak.of 0 ⟨rfl, rfl, rfl, rfl, rfl, trivial⟩ rfl rfl rfl rfl) (fun x1 z_x1 hr hb_x1 => ?_)
    unfold FIxf_s1 at hr
    refine LW.seq ?_
    refine LW.region ?_
    refine LOps.st rfl rfl rfl (LOp.bin rfl rfl rfl rfl) ?_
    refine LOps.nil ?_
    refine thn_n ?_
    refine LW.seq ?_
    refine LW.cond rfl (fun (g1 : (decide (x1.t8 < (s.length : Int))) = true) => ?_) (fun (g1 : (decide (x1.t8 < (s.length : Int))) = false) => ?_)
    · -- g1 is True
      have hr := ite_t g1 hr
      refine LW.skip ?_
      refine thn_n ?_
      refine LW.seq ?_
      refine LW.block ?_
      refine LW.seq ?_
      refine LW.region ?_
      refine LOps.st rfl rfl rfl (LOp.move rfl rfl) ?_
      refine LOps.st rfl rfl rfl (LOp.assign rfl rfl) ?_
      refine LOps.nil ?_
      refine thn_n ?_
      refine LW.seq ?_
      refine LW.region ?_
      refine LOps.st rfl rfl rfl (LOp.move rfl rfl) ?_
      refine LOps.st rfl rfl rfl (LOp.move rfl rfl) ?_
      refine LOps.st rfl rfl rfl (LOp.move rfl rfl) ?_
      obtain ⟨y1, h_y1, hr⟩ := bind_get hr
      refine LOps.st rfl rfl rfl (LOp.indexAddrX rfl rfl rfl st49 h_y1 rfl) ?_
      refine LOps.st rfl rfl rfl (LOp.loadC rfl rfl rfl vt3 rfl rfl) ?_
      obtain ⟨v2, h_v2, hr⟩ := bind_get hr
      refine LOps.st rfl rfl rfl (LOp.call rfl rfl rfl (by kernel_rfl) (LC.pure (c1057 h_v2) (.cons Conv.p .nil))) ?_
      refine LOps.nil ?_
      refine thn_n ?_
      refine LW.cond rfl (fun (g2 : v2 = true) => ?_) (fun (g2 : v2 = false) => ?_)
      · -- g2 is True
        have hr := ite_t g2 hr
        refine LW.seq ?_
        refine LW.region ?_
        refine LOps.st rfl rfl rfl (LOp.move rfl rfl) ?_
        refine LOps.st rfl rfl rfl (LOp.assign rfl rfl) ?_
        refine LOps.nil ?_
        refine thn_n ?_
        refine LW.ret ?_
        refine inBlk_r ?_
        refine thn_r ?_
        refine thn_r ?_
        refine inBlk_r ?_
        refine thn_r ?_
        refine thn_r ?_
        obtain rfl := Option.some.inj hr
        have hr := congrArg some (hb_x1 _ rfl)
        obtain rfl := Option.some.inj hr
        have hr := sum_r ho_v1
        obtain rfl := Option.some.inj hr
        refine fin_ret (.one (.tmp rfl)) ?_
        exact ⟨rfl, rfl⟩
      · -- g2 is False
        have hr := ite_f g2 hr
        refine LW.skip ?_
        refine inBlk_n ?_
        refine thn_n ?_
        refine LW.region ?_
        refine LOps.st rfl rfl rfl (LOp.bin rfl rfl rfl rfl) ?_
        refine LOps.st rfl rfl rfl (LOp.move rfl rfl) ?_
        refine LOps.nil ?_
        refine thn_n ?_
        obtain rfl := Option.some.inj hr
        exact ⟨_, rfl, Weak.of 0 ⟨rfl, rfl, rfl, rfl, rfl, trivial⟩ rfl rfl rfl rfl⟩
    · -- g1 is False
      have hr := ite_f g1 hr
      refine LW.exit ?_
      refine thn_e ?_
      refine thn_e ?_
      refine inBlk_self ?_
      refine thn_n ?_
      obtain rfl := Option.some.inj hr
      have hr := congrArg some (hb_x1 _ rfl)
      obtain rfl := Option.some.inj hr
      exact ⟨_, rfl, Weak.of 0 ⟨rfl, trivial⟩ rfl rfl rfl rfl⟩
  · obtain rfl := e_v1
    have hr := sum_l ho_v1
    clear hb_v1
    refine thn_n ?_
    refine LW.weak hw_v1 ?_
    refine LW.seq ?_
    refine LW.region ?_
    refine LOps.st rfl rfl rfl (LOp.assign rfl rfl) ?_
    refine LOps.nil ?_
    refine thn_n ?_
    refine LW.ret ?_
    obtain rfl := Option.some.inj hr
    refine fin_ret (.one (.tmp rfl)) ?_
    exact ⟨rfl, rfl⟩
def FCf (s : List Int) : Option Bool :=
  (FIxf s).bind fun v1 =>
  some (decide (v1 ≥ 0))
set_option maxRecDepth 100000 in
theorem cFCf {s : List Int} {r_ : Bool} (hr : FCf s = some r_) : LC Tryz.prog 56 [.p (.slice 1 (s.map i64P)), .fn 57 [] []] [] (Is (.p (.bool r_)) []) := by
  refine LC.start Tryz.func56 rfl rfl rfl ?_
  unfold FCf at hr
  refine LW.seq ?_
  refine LW.region ?_
  refine LOps.st rfl rfl rfl (LOp.assign rfl rfl) ?_
  refine LOps.nil ?_
  refine thn_n ?_
  refine LW.seq ?_
  refine LW.region ?_
  refine LOps.st rfl rfl rfl (LOp.move rfl rfl) ?_
  refine LOps.st rfl rfl rfl (LOp.move rfl rfl) ?_
  obtain ⟨v1, h_v1, hr⟩ := bind_get hr
  refine LOps.st rfl rfl rfl (LOp.call rfl rfl rfl (by kernel_rfl) (cFIxf h_v1)) ?_
  refine LOps.st rfl rfl rfl (LOp.bin rfl rfl rfl rfl) ?_
  refine LOps.st rfl rfl rfl (LOp.assign rfl rfl) ?_
  refine LOps.nil ?_
  refine thn_n ?_
  refine LW.ret ?_
  obtain rfl := Option.some.inj hr
  refine fin_ret (.one (.tmp rfl)) ?_
  exact ⟨rfl, rfl⟩
def F1042 (l : List Int) : Option Bool :=
  (FCf l).bind fun v1 =>
  some (!v1)
set_option maxRecDepth 100000 in
theorem c1042 {l : List Int} {r_ : Bool} (hr : F1042 l = some r_) : LPure Tryz.prog 42 [.slice 1 (l.map i64P)] [.bool r_] := by
  refine LPure.start Tryz.func42 rfl rfl rfl rfl ?_
  unfold F1042 at hr
  refine LW.seq ?_
  refine LW.region ?_
  refine LOps.st rfl rfl rfl (LOp.assign rfl rfl) ?_
  refine LOps.nil ?_
  refine thn_n ?_
  refine LW.seq ?_
  refine LW.region ?_
  refine LOps.st rfl rfl rfl (LOp.move rfl rfl) ?_
  obtain ⟨v1, h_v1, hr⟩ := bind_get hr
  refine LOps.st rfl rfl rfl (LOp.call rfl rfl rfl (by kernel_rfl) (cFCf h_v1)) ?_
  refine LOps.st rfl rfl rfl (LOp.not rfl rfl) ?_
  refine LOps.st rfl rfl rfl (LOp.assign rfl rfl) ?_
  refine LOps.nil ?_
  refine thn_n ?_
  refine LW.ret ?_
  obtain rfl := Option.some.inj hr
  refine finP_ret (.one (.tmp rfl)) ?_
  exact Conv.p
def F1026 (a : Int) (b : Int) (c : Int) (d : Int) : Option Bool :=
  (F1042 [a, b, c, d]).bind fun v1 =>
  bif !v1 then
    some false
  else
    (F1043 a b).bind fun v2 =>
    (F1043 c d).bind fun v3 =>
    bif !((v2.1 == v3.1) && ((v2.2 == v3.2) && true)) then
      (F151 [v2.1, v2.2] [v3.1, v3.2]).bind fun v4 =>
      some (decide (v4 > 0))
    else
      some false
set_option maxRecDepth 100000 in
theorem c1026 {a : Int} {b : Int} {c : Int} {d : Int} {r_ : Bool} (hr : F1026 a b c d = some r_) : LPure Tryz.prog 26 [.int .i64 a, .int .i64 b, .int .i64 c, .int .i64 d] [.bool r_] := by
  refine LPure.start Tryz.func26 rfl rfl rfl rfl ?_
  unfold F1026 at hr
  refine LW.seq ?_
  refine LW.region ?_
  refine LOps.st rfl rfl rfl (LOp.assign rfl rfl) ?_
  refine LOps.nil ?_
  refine thn_n ?_
  refine LW.seq ?_
  refine LW.seq ?_
  refine LW.region ?_
  refine LOps.st rfl rfl rfl (LOp.move rfl rfl) ?_
  refine LOps.st rfl rfl rfl (LOp.move rfl rfl) ?_
  refine LOps.st rfl rfl rfl (LOp.move rfl rfl) ?_
  refine LOps.st rfl rfl rfl (LOp.move rfl rfl) ?_
  refine LOps.st rfl rfl rfl (LOp.buildSlice rfl st49 rfl rfl rfl rfl rfl) ?_
  obtain ⟨v1, h_v1, hr⟩ := bind_get hr
  refine LOps.st rfl rfl rfl (LOp.call rfl rfl rfl (by kernel_rfl) (LC.pure (c1042 h_v1) (.cons Conv.p .nil))) ?_
  refine LOps.st rfl rfl rfl (LOp.not rfl rfl) ?_
  refine LOps.nil ?_
  refine thn_n ?_
  refine LW.cond rfl (fun (g1 : (!v1) = true) => ?_) (fun (g1 : (!v1) = false) => ?_)
  · -- g1 is True
    have hr := ite_t g1 hr
    refine LW.seq ?_
    refine LW.region ?_
    refine LOps.st rfl rfl rfl (LOp.assign rfl rfl) ?_
    refine LOps.nil ?_
    refine thn_n ?_
    refine LW.ret ?_
    refine thn_r ?_
    obtain rfl := Option.some.inj hr
    refine finP_ret (.one (.tmp rfl)) ?_
    exact Conv.p
  · -- g1 is False
    have hr := ite_f g1 hr
    refine LW.skip ?_
    refine thn_n ?_
    refine LW.seq ?_
    refine LW.region ?_
    refine LOps.st rfl rfl rfl (LOp.move rfl rfl) ?_
    refine LOps.st rfl rfl rfl (LOp.move rfl rfl) ?_
    obtain ⟨v2, h_v2, hr⟩ := bind_get hr
    refine LOps.st rfl rfl rfl (LOp.call rfl rfl rfl (by kernel_rfl) (LC.pure (c1043 h_v2) (.cons Conv.p (.cons Conv.p .nil)))) ?_
    refine LOps.st rfl rfl rfl (LOp.move rfl rfl) ?_
    refine LOps.st rfl rfl rfl (LOp.move rfl rfl) ?_
    obtain ⟨v3, h_v3, hr⟩ := bind_get hr
    refine LOps.st rfl rfl rfl (LOp.call rfl rfl rfl (by kernel_rfl) (LC.pure (c1043 h_v3) (.cons Conv.p (.cons Conv.p .nil)))) ?_
    refine LOps.st rfl rfl rfl (LOp.alloc rfl zt1108 rfl rfl) ?_
    refine LOps.st rfl rfl rfl (LOp.alloc rfl zt1108 rfl rfl) ?_
    refine LOps.st rfl rfl rfl (LOp.store rfl rfl rfl rfl vt1108 rfl rfl rfl rfl) ?_
    refine LOps.st rfl rfl rfl (LOp.store rfl rfl rfl rfl vt1108 rfl rfl rfl rfl) ?_
    refine LOps.nil ?_
    refine thn_n ?_
    refine LW.seq ?_
    refine LW.draw (by kernel_rfl) (by kernel_rfl) ?_
    refine LO.st rfl rfl rfl (LOp.load rfl rfl rfl vt1108 rfl rfl) ?_
    refine LO.st rfl rfl rfl (LOp.load rfl rfl rfl vt1108 rfl rfl) ?_
    refine LO.st rfl rfl rfl (LOp.neqAgg rfl rfl rfl rfl rfl eqt1108) ?_
    refine LO.st rfl rfl rfl (LOp.move rfl rfl) ?_
    refine LO.cases 27 rfl (fun (g2 : (!((v2.1 == v3.1) && ((v2.2 == v3.2) && true))) = true) => ?_) (fun (g2 : (!((v2.1 == v3.1) && ((v2.2 == v3.2) && true))) = false) => ?_)
    · -- g2 is True
      have hr := ite_t g2 hr
      refine LO.gd rfl rfl rfl (gd g2 rfl) rfl (LOp.sliceBox rfl rfl at1108 rfl rfl rfl) ?_
      refine LO.gd rfl rfl rfl (gd g2 rfl) rfl (LOp.sliceBox rfl rfl at1108 rfl rfl rfl) ?_
      obtain ⟨v4, h_v4, hr⟩ := bind_get hr
      refine LO.gd rfl rfl rfl (gd g2 rfl) rfl (LOp.call rfl rfl rfl (by kernel_rfl) (LC.lend (c151 h_v4) (.cons (Conv.boxSlice rfl rfl rfl rfl) (.cons (Conv.boxSlice rfl rfl rfl rfl) .nil)) rfl)) ?_
      refine LO.gd rfl rfl rfl (gd g2 rfl) rfl (LOp.bin rfl rfl rfl rfl) ?_
      refine LO.st rfl rfl rfl (LOp.pickT rfl (gdl g2 rfl) rfl) ?_
      refine LO.st rfl rfl rfl (LOp.assign rfl rfl) ?_
      refine LO.nil ?_
      refine thn_n ?_
      refine LW.ret ?_
      obtain rfl := Option.some.inj hr
      refine finP_ret (.one (.tmp rfl)) ?_
      exact Conv.p
    · -- g2 is False
      have hr := ite_f g2 hr
      refine LO.sk rfl rfl rfl (gd g2 rfl) rfl rfl ?_
      refine LO.sk rfl rfl rfl (gd g2 rfl) rfl rfl ?_
      refine LO.sk rfl rfl rfl (gd g2 rfl) rfl rfl ?_
      refine LO.sk rfl rfl rfl (gd g2 rfl) rfl rfl ?_
      refine LO.st rfl rfl rfl (LOp.pickF rfl (gdl g2 rfl) rfl) ?_
      refine LO.st rfl rfl rfl (LOp.assign rfl rfl) ?_
      refine LO.nil ?_
      refine thn_n ?_
      refine LW.ret ?_
      obtain rfl := Option.some.inj hr
      refine finP_ret (.one (.tmp rfl)) ?_
      exact Conv.p
open Go.Proofs
def FWeigh1 (who : Int) (bad : List Int) : Option Bool :=
  (F119 bad who).bind fun v1 =>
  some v1
set_option maxRecDepth 100000 in
theorem cFWeigh1 {who : Int} {c : Cf} {bad : List Int} {r_ : Bool} (hr : FWeigh1 who bad = some r_) : LC Tryz.prog 15 [.p (.int .i64 who), .ptr 1 0] [.box [.p (.slice 1 (c.W.map i64P)), .p (.int .u64 c.Seed), .p (.int .i64 c.Epoch), .p (.int .i64 c.Num), .p (.int .i64 c.Den)], .box [.p (.slice 1 (bad.map i64P))]] (Is (.p (.bool r_)) [.box [.p (.slice 1 (c.W.map i64P)), .p (.int .u64 c.Seed), .p (.int .i64 c.Epoch), .p (.int .i64 c.Num), .p (.int .i64 c.Den)], .box [.p (.slice 1 (bad.map i64P))]]) := by
  refine LC.start Tryz.func15 rfl rfl rfl ?_
  unfold FWeigh1 at hr
  refine LW.seq ?_
  refine LW.region ?_
  refine LOps.st rfl rfl rfl (LOp.assign rfl rfl) ?_
  refine LOps.nil ?_
  refine thn_n ?_
  refine LW.seq ?_
  refine LW.region ?_
  refine LOps.st rfl rfl rfl (LOp.load rfl rfl rfl vt49 rfl rfl) ?_
  refine LOps.st rfl rfl rfl (LOp.move rfl rfl) ?_
  obtain ⟨v1, h_v1, hr⟩ := bind_get hr
  refine LOps.st rfl rfl rfl (LOp.call rfl rfl rfl (by kernel_rfl) (LC.pure (c119 h_v1) (.cons Conv.p (.cons Conv.p .nil)))) ?_
  refine LOps.st rfl rfl rfl (LOp.assign rfl rfl) ?_
  refine LOps.nil ?_
  refine thn_n ?_
  refine LW.ret ?_
  obtain rfl := Option.some.inj hr
  refine fin_ret (.one (.tmp rfl)) ?_
  exact ⟨rfl, rfl⟩
structure FParted_L1 where
  t10 : Int
  o4 : List Int
  o5 : List Int
def FParted_s1 (l : List Int) (bad : List Int) (x1 : FParted_L1) : Option (FParted_L1 ⊕ FParted_L1) :=
  bif decide (x1.t10 < (l.length : Int)) then
    (ix l x1.t10).bind fun y1 =>
    (FWeigh1 y1 bad).bind fun v2 =>
    bif v2 then
      bif room x1.o5.length [y1].length 8 then
        some (.inl (FParted_L1.mk (IntKind.i64.wrap (x1.t10 + 1)) x1.o4 (x1.o5 ++ [y1])))
      else none
    else
      bif room x1.o4.length [y1].length 8 then
        some (.inl (FParted_L1.mk (IntKind.i64.wrap (x1.t10 + 1)) (x1.o4 ++ [y1]) x1.o5))
      else none
  else
    some (.inr (FParted_L1.mk x1.t10 x1.o4 x1.o5))
def FParted (l : List Int) (bad : List Int) : Option (List Int × List Int) :=
  (iter (FParted_s1 l bad) big (FParted_L1.mk 0 ([] : List Int) ([] : List Int))).bind fun v1 =>
  some (v1.o4, v1.o5)
set_option maxRecDepth 100000 in
theorem cFParted {l : List Int} {c : Cf} {bad : List Int} {r_ : List Int × List Int} (hr : FParted l bad = some r_) : LC Tryz.prog 14 [.p (.slice 1 (l.map i64P)), .fn 15 [] [.ptr 1 0]] [.box [.p (.slice 1 (c.W.map i64P)), .p (.int .u64 c.Seed), .p (.int .i64 c.Epoch), .p (.int .i64 c.Num), .p (.int .i64 c.Den)], .box [.p (.slice 1 (bad.map i64P))]] (Is (.agg [.vec 1 4 (r_.1.map i64P).length 0 (r_.1.map i64P).length, .vec 1 5 (r_.2.map i64P).length 0 (r_.2.map i64P).length]) [.box [.p (.slice 1 (c.W.map i64P)), .p (.int .u64 c.Seed), .p (.int .i64 c.Epoch), .p (.int .i64 c.Num), .p (.int .i64 c.Den)], .box [.p (.slice 1 (bad.map i64P))], .box [.vec 1 4 (r_.1.map i64P).length 0 (r_.1.map i64P).length, .vec 1 5 (r_.2.map i64P).length 0 (r_.2.map i64P).length], .box [.vec 1 4 (r_.1.map i64P).length 0 (r_.1.map i64P).length, .vec 1 5 (r_.2.map i64P).length 0 (r_.2.map i64P).length], .vec 1 (r_.1.map i64P), .vec 1 (r_.2.map i64P)]) := by
  refine LC.start Tryz.func14 rfl rfl rfl ?_
  unfold FParted at hr
  refine LW.seq ?_
  refine LW.region ?_
  refine LOps.st rfl rfl rfl (LOp.alloc rfl zt1052 rfl rfl) ?_
  refine LOps.nil ?_
  refine thn_n ?_
  refine LW.seq ?_
  refine LW.region ?_
  refine LOps.st rfl rfl rfl (LOp.alloc rfl zt1052 rfl rfl) ?_
  refine LOps.nil ?_
  refine thn_n ?_
  refine LW.seq ?_
  refine LW.seq ?_
  refine LW.ent (Ent.lazyCell (i := 3) (j := 0) (m := 1) rfl rfl rfl rfl rfl rfl) ?_
  refine LW.ent (Ent.lazyCell (i := 3) (j := 1) (m := 1) rfl rfl rfl rfl rfl rfl) ?_
  refine LW.region ?_
  refine LOps.st rfl rfl rfl (LOp.move rfl rfl) ?_
  refine LOps.st rfl rfl rfl (LOp.lenM rfl rfl (by kernel_rfl)) ?_
  refine LOps.st rfl rfl rfl (LOp.move rfl rfl) ?_
  refine LOps.nil ?_
  refine thn_n ?_
  obtain ⟨v1, hb_v1, ho_v1⟩ := bind_get hr
  clear hr
  refine LW.tail (E := [(4, .ptr 2 0), (5, .ptr 3 0)]) (O := [.box [.p (.slice 1 (c.W.map i64P)), .p (.int .u64 c.Seed), .p (.int .i64 c.Epoch), .p (.int .i64 c.Num), .p (.int .i64 c.Den)], .box [.p (.slice 1 (bad.map i64P))], .box [.zs, .zs], .box [.vec 1 4 (v1.o4.map i64P).length 0 (v1.o4.map i64P).length, .vec 1 5 (v1.o5.map i64P).length 0 (v1.o5.map i64P).length], .vec 1 (v1.o4.map i64P), .vec 1 (v1.o5.map i64P)]) ?_ (fun env_v1 H_v1 hw_v1 => ?_)
  · refine LW.block ?_
    refine LW.iterB (E := fun x1 : FParted_L1 => [(1, .fn 15 [] [.ptr 1 0]), (4, .ptr 2 0), (5, .ptr 3 0), (8, .p (.slice 1 (l.map i64P))), (9, .p (.int .i64 (l.length : Int))), (10, .p (.int .i64 x1.t10))]) (O := fun x1 => [.box [.p (.slice 1 (c.W.map i64P)), .p (.int .u64 c.Seed), .p (.int .i64 c.Epoch), .p (.int .i64 c.Num), .p (.int .i64 c.Den)], .box [.p (.slice 1 (bad.map i64P))], .box [.zs, .zs], .box [.vec 1 4 (x1.o4.map i64P).length 0 (x1.o4.map i64P).length, .vec 1 5 (x1.o5.map i64P).length 0 (x1.o5.map i64P).length], .vec 1 (x1.o4.map i64P), .vec 1 (x1.o5.map i64P)]) hb_v1 (Weak.of 6 ⟨rfl, rfl, rfl, rfl, rfl, rfl, trivial⟩ rfl rfl rfl rfl) (fun x1 z_x1 hr hb_x1 => ?_)
    unfold FParted_s1 at hr
    refine LW.seq ?_
    refine LW.region ?_
    refine LOps.st rfl rfl rfl (LOp.bin rfl rfl rfl rfl) ?_
    refine LOps.nil ?_
    refine thn_n ?_
    refine LW.seq ?_
    refine LW.cond rfl (fun (g1 : (decide (x1.t10 < (l.length : Int))) = true) => ?_) (fun (g1 : (decide (x1.t10 < (l.length : Int))) = false) => ?_)
    · -- g1 is True
      have hr := ite_t g1 hr
      refine LW.skip ?_
      refine thn_n ?_
      refine LW.seq ?_
      refine LW.block ?_
      refine LW.seq ?_
      refine LW.region ?_
      obtain ⟨y1, h_y1, hr⟩ := bind_get hr
      refine LOps.st rfl rfl rfl (LOp.indexAddrX rfl rfl rfl st49 h_y1 rfl) ?_
      refine LOps.st rfl rfl rfl (LOp.loadC rfl rfl rfl vt3 rfl rfl) ?_
      refine LOps.st rfl rfl rfl (LOp.assign rfl rfl) ?_
      refine LOps.nil ?_
      refine thn_n ?_
      refine LW.seq ?_
      refine LW.region ?_
      refine LOps.st rfl rfl rfl (LOp.move rfl rfl) ?_
      refine LOps.st rfl rfl rfl (LOp.move rfl rfl) ?_
      obtain ⟨v2, h_v2, hr⟩ := bind_get hr
      refine LOps.st rfl rfl rfl (LOp.call rfl rfl rfl (by kernel_rfl) (LC.pre (cFWeigh1 h_v2) rfl rfl rfl)) ?_
      refine LOps.nil ?_
      refine thn_n ?_
      refine LW.cond rfl (fun (g2 : v2 = true) => ?_) (fun (g2 : v2 = false) => ?_)
      · -- g2 is True
        have hr := ite_t g2 hr
        refine LW.region ?_
        refine LOps.st rfl rfl rfl (LOp.fieldAddr rfl rfl ft1052_1) ?_
        refine LOps.st rfl rfl rfl (LOp.load rfl rfl rfl vt49 rfl rfl) ?_
        refine LOps.st rfl rfl rfl (LOp.move rfl rfl) ?_
        refine LOps.st rfl rfl rfl (LOp.buildSlice rfl st49 rfl rfl rfl rfl rfl) ?_
        obtain ⟨q1, hr⟩ := grd_get hr
        refine LOps.st rfl rfl rfl (LOp.appendX i64P x1.o5 [y1] rfl rfl rfl rfl Src.p rfl st49 q1 rfl) ?_
        refine LOps.st rfl rfl rfl (LOp.fieldAddr rfl rfl ft1052_1) ?_
        refine LOps.st rfl rfl rfl (LOp.store rfl rfl rfl rfl vt49 rfl rfl rfl rfl) ?_
        refine LOps.nil ?_
        refine inBlk_n ?_
        refine thn_n ?_
        refine LW.region ?_
        refine LOps.st rfl rfl rfl (LOp.bin rfl rfl rfl rfl) ?_
        refine LOps.st rfl rfl rfl (LOp.move rfl rfl) ?_
        refine LOps.nil ?_
        refine thn_n ?_
        obtain rfl := Option.some.inj hr
        exact ⟨_, rfl, Weak.of 6 ⟨rfl, rfl, rfl, rfl, rfl, rfl, trivial⟩ rfl rfl rfl rfl⟩
      · -- g2 is False
        have hr := ite_f g2 hr
        refine LW.region ?_
        refine LOps.st rfl rfl rfl (LOp.fieldAddr rfl rfl ft1052_0) ?_
        refine LOps.st rfl rfl rfl (LOp.load rfl rfl rfl vt49 rfl rfl) ?_
        refine LOps.st rfl rfl rfl (LOp.move rfl rfl) ?_
        refine LOps.st rfl rfl rfl (LOp.buildSlice rfl st49 rfl rfl rfl rfl rfl) ?_
        obtain ⟨q2, hr⟩ := grd_get hr
        refine LOps.st rfl rfl rfl (LOp.appendX i64P x1.o4 [y1] rfl rfl rfl rfl Src.p rfl st49 q2 rfl) ?_
        refine LOps.st rfl rfl rfl (LOp.fieldAddr rfl rfl ft1052_0) ?_
        refine LOps.st rfl rfl rfl (LOp.store rfl rfl rfl rfl vt49 rfl rfl rfl rfl) ?_
        refine LOps.nil ?_
        refine inBlk_n ?_
        refine thn_n ?_
        refine LW.region ?_
        refine LOps.st rfl rfl rfl (LOp.bin rfl rfl rfl rfl) ?_
        refine LOps.st rfl rfl rfl (LOp.move rfl rfl) ?_
        refine LOps.nil ?_
        refine thn_n ?_
        obtain rfl := Option.some.inj hr
        exact ⟨_, rfl, Weak.of 6 ⟨rfl, rfl, rfl, rfl, rfl, rfl, trivial⟩ rfl rfl rfl rfl⟩
    · -- g1 is False
      have hr := ite_f g1 hr
      refine LW.exit ?_
      refine thn_e ?_
      refine thn_e ?_
      refine inBlk_self ?_
      refine thn_n ?_
      obtain rfl := Option.some.inj hr
      have hr := congrArg some (hb_x1 _ rfl)
      obtain rfl := Option.some.inj hr
      exact Weak.of 6 ⟨rfl, rfl, trivial⟩ rfl rfl rfl rfl
  · have hr := ho_v1
    clear hb_v1
    refine thn_n ?_
    refine LW.weak hw_v1 ?_
    refine LW.seq ?_
    refine LW.region ?_
    refine LOps.st rfl rfl rfl (LOp.load rfl rfl rfl vt1052 rfl rfl) ?_
    refine LOps.st rfl rfl rfl (LOp.store rfl rfl rfl rfl vt1052 rfl rfl rfl rfl) ?_
    refine LOps.nil ?_
    refine thn_n ?_
    refine LW.ret ?_
    obtain rfl := Option.some.inj hr
    refine fin_ret (.one (.cellAgg rfl rfl (by kernel_rfl) rfl)) ?_
    exact ⟨rfl, rfl⟩
def F1007 (c : Cf) (bad : List Int) (slot : Int) : Option (Int × Int) :=
  (F65 c slot).bind fun v1 =>
  (FParted v1 bad).bind fun v2 =>
  (F70 c v2.1).bind fun v3 =>
  (F70 c v2.2).bind fun v4 =>
  some (v3, v4)
set_option maxRecDepth 100000 in
theorem c1007 {c : Cf} {bad : List Int} {slot : Int} {r_ : Int × Int} (hr : F1007 c bad slot = some r_) : LPure Tryz.prog 7 [cfP c, .slice 1 (bad.map i64P), .int .i64 slot] [.int .i64 r_.1, .int .i64 r_.2] := by
  refine LPure.start Tryz.func7 rfl rfl rfl rfl ?_
  unfold F1007 at hr
  refine LW.seq ?_
  refine LW.region ?_
  refine LOps.st rfl rfl rfl (LOp.box rfl rfl rfl rfl rfl) ?_
  refine LOps.st rfl rfl rfl (LOp.box rfl rfl rfl rfl rfl) ?_
  refine LOps.st rfl rfl rfl (LOp.assign rfl rfl) ?_
  refine LOps.st rfl rfl rfl (LOp.assign rfl rfl) ?_
  refine LOps.nil ?_
  refine thn_n ?_
  refine LW.seq ?_
  refine LW.region ?_
  refine LOps.st rfl rfl rfl (LOp.load rfl rfl rfl vt55 rfl rfl) ?_
  refine LOps.st rfl rfl rfl (LOp.move rfl rfl) ?_
  obtain ⟨v1, h_v1, hr⟩ := bind_get hr
  refine LOps.st rfl rfl rfl (LOp.call rfl rfl rfl (by kernel_rfl) (LC.pure (c65 h_v1) (.cons Conv.p (.cons Conv.p .nil)))) ?_
  refine LOps.st rfl rfl rfl (LOp.makeFunc rfl rfl rfl) ?_
  obtain ⟨v2, h_v2, hr⟩ := bind_get hr
  refine LOps.st rfl rfl rfl (LOp.call rfl rfl rfl (by kernel_rfl) (cFParted h_v2)) ?_
  refine LOps.st rfl rfl rfl (LOp.alloc rfl zt1052 rfl rfl) ?_
  refine LOps.st rfl rfl rfl (LOp.store rfl rfl rfl rfl vt1052 rfl rfl rfl rfl) ?_
  refine LOps.nil ?_
  refine thn_n ?_
  refine LW.seq ?_
  refine LW.draw (by kernel_rfl) (by kernel_rfl) ?_
  refine LO.st rfl rfl rfl (LOp.load rfl rfl rfl vt55 rfl rfl) ?_
  refine LO.st rfl rfl rfl (LOp.fieldAddr rfl rfl ft1052_0) ?_
  refine LO.st rfl rfl rfl (LOp.load rfl rfl rfl vt49 rfl rfl) ?_
  obtain ⟨v3, h_v3, hr⟩ := bind_get hr
  refine LO.st rfl rfl rfl (LOp.call rfl rfl rfl (by kernel_rfl) (LC.lend (c70 h_v3) (.cons Conv.p (.cons (Conv.vecAll rfl rfl rfl) .nil)) rfl)) ?_
  refine LO.st rfl rfl rfl (LOp.load rfl rfl rfl vt55 rfl rfl) ?_
  refine LO.st rfl rfl rfl (LOp.fieldAddr rfl rfl ft1052_1) ?_
  refine LO.st rfl rfl rfl (LOp.load rfl rfl rfl vt49 rfl rfl) ?_
  obtain ⟨v4, h_v4, hr⟩ := bind_get hr
  refine LO.st rfl rfl rfl (LOp.call rfl rfl rfl (by kernel_rfl) (LC.lend (c70 h_v4) (.cons Conv.p (.cons (Conv.vecAll rfl rfl rfl) .nil)) rfl)) ?_
  refine LO.st rfl rfl rfl (LOp.assign rfl rfl) ?_
  refine LO.st rfl rfl rfl (LOp.assign rfl rfl) ?_
  refine LO.nil ?_
  refine thn_n ?_
  refine LW.ret ?_
  obtain rfl := Option.some.inj hr
  refine finP_ret (.two (.tmp rfl) (.tmp rfl)) ?_
  exact ⟨_, rfl, (.cons Conv.p (.cons Conv.p .nil))⟩
structure F1010_L1 where
  s : Int
  strong : Bool
  t27 : Int
def F1010_s1 (c : Cf) (bad : List Int) (v_from : Int) (upto : Int) (x1 : F1010_L1) : Option (F1010_L1 ⊕ F1010_L1) :=
  bif decide (x1.t27 < (IntKind.u64.wrap ((IntKind.u64.wrap ((IntKind.u64.wrap (upto)) - (IntKind.u64.wrap (v_from)))) + 1))) then
    (F1007 c bad x1.s).bind fun v2 =>
    bif decide (v2.1 ≤ v2.2) then
      some (.inr (F1010_L1.mk x1.s false x1.t27))
    else
      some (.inl (F1010_L1.mk (IntKind.i64.wrap (x1.s + 1)) x1.strong (IntKind.u64.wrap (x1.t27 + 1))))
  else
    some (.inr (F1010_L1.mk x1.s x1.strong x1.t27))
def F1010 (c : Cf) (bad : List Int) (v_from : Int) (upto : Int) : Option Bool :=
  bif decide (v_from > upto) then
    some true
  else
    bif decide ((IntKind.u64.wrap ((IntKind.u64.wrap (upto)) - (IntKind.u64.wrap (v_from)))) ≥ 1000) then
      some false
    else
      (iter (F1010_s1 c bad v_from upto) big (F1010_L1.mk v_from true 0)).bind fun v1 =>
      some v1.strong
set_option maxRecDepth 100000 in
theorem c1010 {c : Cf} {bad : List Int} {v_from : Int} {upto : Int} {r_ : Bool} (hr : F1010 c bad v_from upto = some r_) : LPure Tryz.prog 10 [cfP c, .slice 1 (bad.map i64P), .int .i64 v_from, .int .i64 upto] [.bool r_] := by
  refine LPure.start Tryz.func10 rfl rfl rfl rfl ?_
  unfold F1010 at hr
  refine LW.seq ?_
  refine LW.region ?_
  refine LOps.st rfl rfl rfl (LOp.box rfl rfl rfl rfl rfl) ?_
  refine LOps.st rfl rfl rfl (LOp.assign rfl rfl) ?_
  refine LOps.nil ?_
  refine thn_n ?_
  refine LW.scope ?_
  refine LW.seq ?_
  refine LW.seq ?_
  refine LW.region ?_
  refine LOps.st rfl rfl rfl (LOp.move rfl rfl) ?_
  refine LOps.st rfl rfl rfl (LOp.move rfl rfl) ?_
  refine LOps.st rfl rfl rfl (LOp.bin rfl rfl rfl rfl) ?_
  refine LOps.nil ?_
  refine thn_n ?_
  refine LW.cond rfl (fun (g1 : (decide (v_from > upto)) = true) => ?_) (fun (g1 : (decide (v_from > upto)) = false) => ?_)
  · -- g1 is True
    have hr := ite_t g1 hr
    refine LW.seq ?_
    refine LW.region ?_
    refine LOps.st rfl rfl rfl (LOp.assign rfl rfl) ?_
    refine LOps.nil ?_
    refine thn_n ?_
    refine LW.ret ?_
    refine thn_r ?_
    refine noGo_r ?_
    obtain rfl := Option.some.inj hr
    refine finP_ret (.one (.tmp rfl)) ?_
    exact Conv.p
  · -- g1 is False
    have hr := ite_f g1 hr
    refine LW.skip ?_
    refine thn_n ?_
    refine LW.seq ?_
    refine LW.region ?_
    refine LOps.st rfl rfl rfl (LOp.move rfl rfl) ?_
    refine LOps.st rfl rfl rfl (LOp.convert (k' := .u64) rfl rfl (by kernel_rfl)) ?_
    refine LOps.st rfl rfl rfl (LOp.move rfl rfl) ?_
    refine LOps.st rfl rfl rfl (LOp.convert (k' := .u64) rfl rfl (by kernel_rfl)) ?_
    refine LOps.st rfl rfl rfl (LOp.bin rfl rfl rfl rfl) ?_
    refine LOps.st rfl rfl rfl (LOp.move rfl rfl) ?_
    refine LOps.st rfl rfl rfl (LOp.assign rfl rfl) ?_
    refine LOps.st rfl rfl rfl (LOp.assign rfl rfl) ?_
    refine LOps.st rfl rfl rfl (LOp.assign rfl rfl) ?_
    refine LOps.nil ?_
    refine thn_n ?_
    refine LW.seq ?_
    refine LW.seq ?_
    refine LW.region ?_
    refine LOps.st rfl rfl rfl (LOp.move rfl rfl) ?_
    refine LOps.st rfl rfl rfl (LOp.bin rfl rfl rfl rfl) ?_
    refine LOps.nil ?_
    refine thn_n ?_
    refine LW.cond rfl (fun (g2 : (decide ((IntKind.u64.wrap ((IntKind.u64.wrap (upto)) - (IntKind.u64.wrap (v_from)))) ≥ 1000)) = true) => ?_) (fun (g2 : (decide ((IntKind.u64.wrap ((IntKind.u64.wrap (upto)) - (IntKind.u64.wrap (v_from)))) ≥ 1000)) = false) => ?_)
    · -- g2 is True
      have hr := ite_t g2 hr
      refine LW.seq ?_
      refine LW.region ?_
      refine LOps.st rfl rfl rfl (LOp.assign rfl rfl) ?_
      refine LOps.nil ?_
      refine thn_n ?_
      refine LW.ret ?_
      refine thn_r ?_
      refine noGo_r ?_
      obtain rfl := Option.some.inj hr
      refine finP_ret (.one (.tmp rfl)) ?_
      exact Conv.p
    · -- g2 is False
      have hr := ite_f g2 hr
      refine LW.skip ?_
      refine thn_n ?_
      refine LW.seq ?_
      refine LW.label ?_
      refine thn_n ?_
      refine LW.seq ?_
      refine LW.seq ?_
      refine LW.region ?_
      refine LOps.st rfl rfl rfl (LOp.move rfl rfl) ?_
      refine LOps.st rfl rfl rfl (LOp.bin rfl rfl rfl rfl) ?_
      refine LOps.st rfl rfl rfl (LOp.move rfl rfl) ?_
      refine LOps.nil ?_
      refine thn_n ?_
      obtain ⟨v1, hb_v1, ho_v1⟩ := bind_get hr
      clear hr
      refine LW.tail (E := [(8, .p (.bool false)), (11, .p (.bool v1.strong))]) (O := [.box [.p (.slice 1 (c.W.map i64P)), .p (.int .u64 c.Seed), .p (.int .i64 c.Epoch), .p (.int .i64 c.Num), .p (.int .i64 c.Den)]]) ?_ (fun env_v1 H_v1 hw_v1 => ?_)
      · refine LW.block ?_
        refine LW.iterB (E := fun x1 : F1010_L1 => [(1, .p (.slice 1 (bad.map i64P))), (4, .ptr 0 0), (8, .p (.bool false)), (10, .p (.int .i64 x1.s)), (11, .p (.bool x1.strong)), (26, .p (.int .u64 (IntKind.u64.wrap ((IntKind.u64.wrap ((IntKind.u64.wrap (upto)) - (IntKind.u64.wrap (v_from)))) + 1)))), (27, .p (.int .u64 x1.t27))]) (O := fun x1 => [.box [.p (.slice 1 (c.W.map i64P)), .p (.int .u64 c.Seed), .p (.int .i64 c.Epoch), .p (.int .i64 c.Num), .p (.int .i64 c.Den)]]) hb_v1 (Weak.of 1 ⟨rfl, rfl, rfl, rfl, rfl, rfl, rfl, trivial⟩ rfl rfl rfl rfl) (fun x1 z_x1 hr hb_x1 => ?_)
        unfold F1010_s1 at hr
        refine LW.seq ?_
        refine LW.region ?_
        refine LOps.st rfl rfl rfl (LOp.bin rfl rfl rfl rfl) ?_
        refine LOps.nil ?_
        refine thn_n ?_
        refine LW.seq ?_
        refine LW.cond rfl (fun (g3 : (decide (x1.t27 < (IntKind.u64.wrap ((IntKind.u64.wrap ((IntKind.u64.wrap (upto)) - (IntKind.u64.wrap (v_from)))) + 1)))) = true) => ?_) (fun (g3 : (decide (x1.t27 < (IntKind.u64.wrap ((IntKind.u64.wrap ((IntKind.u64.wrap (upto)) - (IntKind.u64.wrap (v_from)))) + 1)))) = false) => ?_)
        · -- g3 is True
          have hr := ite_t g3 hr
          refine LW.skip ?_
          refine thn_n ?_
          refine LW.seq ?_
          refine LW.block ?_
          refine LW.seq ?_
          refine LW.seq ?_
          refine LW.region ?_
          refine LOps.st rfl rfl rfl (LOp.load rfl rfl rfl vt55 rfl rfl) ?_
          refine LOps.st rfl rfl rfl (LOp.move rfl rfl) ?_
          refine LOps.st rfl rfl rfl (LOp.move rfl rfl) ?_
          obtain ⟨v2, h_v2, hr⟩ := bind_get hr
          refine LOps.st rfl rfl rfl (LOp.call rfl rfl rfl (by kernel_rfl) (LC.pure (c1007 h_v2) (.cons Conv.p (.cons Conv.p (.cons Conv.p .nil))))) ?_
          refine LOps.st rfl rfl rfl (LOp.move rfl rfl) ?_
          refine LOps.st rfl rfl rfl (LOp.extract rfl rfl rfl) ?_
          refine LOps.st rfl rfl rfl (LOp.extract rfl rfl rfl) ?_
          refine LOps.st rfl rfl rfl (LOp.assign rfl rfl) ?_
          refine LOps.st rfl rfl rfl (LOp.assign rfl rfl) ?_
          refine LOps.nil ?_
          refine thn_n ?_
          refine LW.seq ?_
          refine LW.region ?_
          refine LOps.st rfl rfl rfl (LOp.move rfl rfl) ?_
          refine LOps.st rfl rfl rfl (LOp.move rfl rfl) ?_
          refine LOps.st rfl rfl rfl (LOp.bin rfl rfl rfl rfl) ?_
          refine LOps.nil ?_
          refine thn_n ?_
          refine LW.cond rfl (fun (g4 : (decide (v2.1 ≤ v2.2)) = true) => ?_) (fun (g4 : (decide (v2.1 ≤ v2.2)) = false) => ?_)
          · -- g4 is True
            have hr := ite_t g4 hr
            refine LW.seq ?_
            refine LW.region ?_
            refine LOps.st rfl rfl rfl (LOp.assign rfl rfl) ?_
            refine LOps.nil ?_
            refine thn_n ?_
            refine LW.exit ?_
            refine thn_e ?_
            refine inBlk_other (by decide) ?_
            refine thn_e ?_
            refine thn_e ?_
            refine inBlk_self ?_
            refine thn_n ?_
            obtain rfl := Option.some.inj hr
            have hr := congrArg some (hb_x1 _ rfl)
            obtain rfl := Option.some.inj hr
            exact Weak.of 1 ⟨rfl, rfl, trivial⟩ rfl rfl rfl rfl
          · -- g4 is False
            have hr := ite_f g4 hr
            refine LW.skip ?_
            refine thn_n ?_
            refine LW.region ?_
            refine LOps.st rfl rfl rfl (LOp.move rfl rfl) ?_
            refine LOps.st rfl rfl rfl (LOp.bin rfl rfl rfl rfl) ?_
            refine LOps.st rfl rfl rfl (LOp.assign rfl rfl) ?_
            refine LOps.nil ?_
            refine inBlk_n ?_
            refine thn_n ?_
            refine LW.region ?_
            refine LOps.st rfl rfl rfl (LOp.bin rfl rfl rfl rfl) ?_
            refine LOps.st rfl rfl rfl (LOp.move rfl rfl) ?_
            refine LOps.nil ?_
            refine thn_n ?_
            obtain rfl := Option.some.inj hr
            exact ⟨_, rfl, Weak.of 1 ⟨rfl, rfl, rfl, rfl, rfl, rfl, rfl, trivial⟩ rfl rfl rfl rfl⟩
        · -- g3 is False
          have hr := ite_f g3 hr
          refine LW.exit ?_
          refine thn_e ?_
          refine thn_e ?_
          refine inBlk_self ?_
          refine thn_n ?_
          obtain rfl := Option.some.inj hr
          have hr := congrArg some (hb_x1 _ rfl)
          obtain rfl := Option.some.inj hr
          exact Weak.of 1 ⟨rfl, rfl, trivial⟩ rfl rfl rfl rfl
      · have hr := ho_v1
        clear hb_v1
        refine thn_n ?_
        refine LW.weak hw_v1 ?_
        refine LW.seq ?_
        refine LW.region ?_
        refine LOps.st rfl rfl rfl (LOp.move rfl rfl) ?_
        refine LOps.st rfl rfl rfl (LOp.assign rfl rfl) ?_
        refine LOps.nil ?_
        refine thn_n ?_
        refine LW.ret ?_
        refine noGo_r ?_
        obtain rfl := Option.some.inj hr
        refine finP_ret (.one (.tmp rfl)) ?_
        exact Conv.p
def F1011 (c : Cf) (bad : List Int) (slot : Int) : Option Bool :=
  (F1007 c bad slot).bind fun v1 =>
  (F64 c).bind fun v2 =>
  bif v2 then
    bif decide ((IntKind.i64.wrap (v1.1 + v1.2)) > 0) then
      (F1026 v1.2 c.Den (IntKind.i64.wrap (v1.1 + v1.2)) c.Num).bind fun v3 =>
      some (!v3)
    else
      some false
  else
    some false
set_option maxRecDepth 100000 in
theorem c1011 {c : Cf} {bad : List Int} {slot : Int} {r_ : Bool} (hr : F1011 c bad slot = some r_) : LPure Tryz.prog 11 [cfP c, .slice 1 (bad.map i64P), .int .i64 slot] [.bool r_] := by
  refine LPure.start Tryz.func11 rfl rfl rfl rfl ?_
  unfold F1011 at hr
  refine LW.seq ?_
  refine LW.region ?_
  refine LOps.st rfl rfl rfl (LOp.box rfl rfl rfl rfl rfl) ?_
  refine LOps.st rfl rfl rfl (LOp.assign rfl rfl) ?_
  refine LOps.nil ?_
  refine thn_n ?_
  refine LW.seq ?_
  refine LW.region ?_
  refine LOps.st rfl rfl rfl (LOp.load rfl rfl rfl vt55 rfl rfl) ?_
  refine LOps.st rfl rfl rfl (LOp.move rfl rfl) ?_
  refine LOps.st rfl rfl rfl (LOp.move rfl rfl) ?_
  obtain ⟨v1, h_v1, hr⟩ := bind_get hr
  refine LOps.st rfl rfl rfl (LOp.call rfl rfl rfl (by kernel_rfl) (LC.pure (c1007 h_v1) (.cons Conv.p (.cons Conv.p (.cons Conv.p .nil))))) ?_
  refine LOps.st rfl rfl rfl (LOp.move rfl rfl) ?_
  refine LOps.st rfl rfl rfl (LOp.extract rfl rfl rfl) ?_
  refine LOps.st rfl rfl rfl (LOp.extract rfl rfl rfl) ?_
  refine LOps.st rfl rfl rfl (LOp.assign rfl rfl) ?_
  refine LOps.st rfl rfl rfl (LOp.assign rfl rfl) ?_
  refine LOps.nil ?_
  refine thn_n ?_
  refine LW.seq ?_
  refine LW.region ?_
  refine LOps.st rfl rfl rfl (LOp.load rfl rfl rfl vt55 rfl rfl) ?_
  obtain ⟨v2, h_v2, hr⟩ := bind_get hr
  refine LOps.st rfl rfl rfl (LOp.call rfl rfl rfl (by kernel_rfl) (LC.pure (c64 h_v2) (.cons Conv.p .nil))) ?_
  refine LOps.st rfl rfl rfl (LOp.move rfl rfl) ?_
  refine LOps.cases 18 rfl (fun (g1 : v2 = true) => ?_) (fun (g1 : v2 = false) => ?_)
  · -- g1 is True
    have hr := ite_t g1 hr
    refine LOps.gd rfl rfl rfl (gd g1 rfl) rfl (LOp.move rfl rfl) ?_
    refine LOps.gd rfl rfl rfl (gd g1 rfl) rfl (LOp.move rfl rfl) ?_
    refine LOps.gd rfl rfl rfl (gd g1 rfl) rfl (LOp.bin rfl rfl rfl rfl) ?_
    refine LOps.gd rfl rfl rfl (gd g1 rfl) rfl (LOp.bin rfl rfl rfl rfl) ?_
    refine LOps.st rfl rfl rfl (LOp.pickT rfl (gdl g1 rfl) rfl) ?_
    refine LOps.st rfl rfl rfl (LOp.move rfl rfl) ?_
    refine LOps.cases 24 rfl (fun (g2 : (decide ((IntKind.i64.wrap (v1.1 + v1.2)) > 0)) = true) => ?_) (fun (g2 : (decide ((IntKind.i64.wrap (v1.1 + v1.2)) > 0)) = false) => ?_)
    · -- g2 is True
      have hr := ite_t g2 hr
      refine LOps.gd rfl rfl rfl (gd g2 rfl) rfl (LOp.move rfl rfl) ?_
      refine LOps.gd rfl rfl rfl (gd g2 rfl) rfl (LOp.fieldAddr rfl rfl ft55_4) ?_
      refine LOps.gd rfl rfl rfl (gd g2 rfl) rfl (LOp.load rfl rfl rfl vt3 rfl rfl) ?_
      refine LOps.gd rfl rfl rfl (gd g2 rfl) rfl (LOp.move rfl rfl) ?_
      refine LOps.gd rfl rfl rfl (gd g2 rfl) rfl (LOp.move rfl rfl) ?_
      refine LOps.gd rfl rfl rfl (gd g2 rfl) rfl (LOp.bin rfl rfl rfl rfl) ?_
      refine LOps.gd rfl rfl rfl (gd g2 rfl) rfl (LOp.fieldAddr rfl rfl ft55_3) ?_
      refine LOps.gd rfl rfl rfl (gd g2 rfl) rfl (LOp.load rfl rfl rfl vt3 rfl rfl) ?_
      obtain ⟨v3, h_v3, hr⟩ := bind_get hr
      refine LOps.gd rfl rfl rfl (gd g2 rfl) rfl (LOp.call rfl rfl rfl (by kernel_rfl) (LC.pure (c1026 h_v3) (.cons Conv.p (.cons Conv.p (.cons Conv.p (.cons Conv.p .nil)))))) ?_
      refine LOps.gd rfl rfl rfl (gd g2 rfl) rfl (LOp.not rfl rfl) ?_
      refine LOps.st rfl rfl rfl (LOp.pickT rfl (gdl g2 rfl) rfl) ?_
      refine LOps.st rfl rfl rfl (LOp.assign rfl rfl) ?_
      refine LOps.nil ?_
      refine thn_n ?_
      refine LW.ret ?_
      obtain rfl := Option.some.inj hr
      refine finP_ret (.one (.tmp rfl)) ?_
      exact Conv.p
    · -- g2 is False
      have hr := ite_f g2 hr
      refine LOps.sk rfl rfl rfl (gd g2 rfl) rfl rfl ?_
      refine LOps.sk rfl rfl rfl (gd g2 rfl) rfl rfl ?_
      refine LOps.sk rfl rfl rfl (gd g2 rfl) rfl rfl ?_
      refine LOps.sk rfl rfl rfl (gd g2 rfl) rfl rfl ?_
      refine LOps.sk rfl rfl rfl (gd g2 rfl) rfl rfl ?_
      refine LOps.sk rfl rfl rfl (gd g2 rfl) rfl rfl ?_
      refine LOps.sk rfl rfl rfl (gd g2 rfl) rfl rfl ?_
      refine LOps.sk rfl rfl rfl (gd g2 rfl) rfl rfl ?_
      refine LOps.sk rfl rfl rfl (gd g2 rfl) rfl rfl ?_
      refine LOps.sk rfl rfl rfl (gd g2 rfl) rfl rfl ?_
      refine LOps.st rfl rfl rfl (LOp.pickF rfl (gdl g2 rfl) rfl) ?_
      refine LOps.st rfl rfl rfl (LOp.assign rfl rfl) ?_
      refine LOps.nil ?_
      refine thn_n ?_
      refine LW.ret ?_
      obtain rfl := Option.some.inj hr
      refine finP_ret (.one (.tmp rfl)) ?_
      exact Conv.p
  · -- g1 is False
    have hr := ite_f g1 hr
    refine LOps.sk rfl rfl rfl (gd g1 rfl) rfl rfl ?_
    refine LOps.sk rfl rfl rfl (gd g1 rfl) rfl rfl ?_
    refine LOps.sk rfl rfl rfl (gd g1 rfl) rfl rfl ?_
    refine LOps.sk rfl rfl rfl (gd g1 rfl) rfl rfl ?_
    refine LOps.st rfl rfl rfl (LOp.pickF rfl (gdl g1 rfl) rfl) ?_
    refine LOps.st rfl rfl rfl (LOp.move rfl rfl) ?_
    refine LOps.sk rfl rfl rfl rfl rfl rfl ?_
    refine LOps.sk rfl rfl rfl rfl rfl rfl ?_
    refine LOps.sk rfl rfl rfl rfl rfl rfl ?_
    refine LOps.sk rfl rfl rfl rfl rfl rfl ?_
    refine LOps.sk rfl rfl rfl rfl rfl rfl ?_
    refine LOps.sk rfl rfl rfl rfl rfl rfl ?_
    refine LOps.sk rfl rfl rfl rfl rfl rfl ?_
    refine LOps.sk rfl rfl rfl rfl rfl rfl ?_
    refine LOps.sk rfl rfl rfl rfl rfl rfl ?_
    refine LOps.sk rfl rfl rfl rfl rfl rfl ?_
    refine LOps.st rfl rfl rfl (LOp.pickF rfl rfl rfl) ?_
    refine LOps.st rfl rfl rfl (LOp.assign rfl rfl) ?_
    refine LOps.nil ?_
    refine thn_n ?_
    refine LW.ret ?_
    obtain rfl := Option.some.inj hr
    refine finP_ret (.one (.tmp rfl)) ?_
    exact Conv.p
open Go.Proofs
structure FIxN_L1 where
  t4 : Int
def FIxN_s1 (x1 : FIxN_L1) : Option (FIxN_L1 ⊕ FIxN_L1) :=
  bif decide (0 < 0) then
    none
  else
    some (.inr (FIxN_L1.mk x1.t4))
def FIxN : Option Int :=
  (iter FIxN_s1 big (FIxN_L1.mk 0)).bind fun _ =>
  some (-1)
set_option maxRecDepth 100000 in
theorem cFIxN {r_ : Int} (hr : FIxN = some r_) : LC Tryz.prog 45 [.zs, .fn 28 [] [.ptr 1 0, .ptr 0 0]] [.box [.zs, .p (.int .u64 0), .p (.int .i64 0), .p (.int .i64 0), .p (.int .i64 0), .zs, .p (.int .i64 0), .zs, .zs], .box [.p (.int .u64 0), .p (.int .u64 0)]] (Is (.p (.int .i64 r_)) [.box [.zs, .p (.int .u64 0), .p (.int .i64 0), .p (.int .i64 0), .p (.int .i64 0), .zs, .p (.int .i64 0), .zs, .zs], .box [.p (.int .u64 0), .p (.int .u64 0)]]) := by
  refine LC.start Tryz.func45 rfl rfl rfl ?_
  unfold FIxN at hr
  refine LW.seq ?_
  refine LW.region ?_
  refine LOps.st rfl rfl rfl (LOp.assign rfl rfl) ?_
  refine LOps.nil ?_
  refine thn_n ?_
  refine LW.seq ?_
  refine LW.seq ?_
  refine LW.region ?_
  refine LOps.st rfl rfl rfl (LOp.move rfl rfl) ?_
  refine LOps.st rfl rfl rfl (LOp.lenZ rfl rfl (by kernel_rfl)) ?_
  refine LOps.st rfl rfl rfl (LOp.move rfl rfl) ?_
  refine LOps.nil ?_
  refine thn_n ?_
  obtain ⟨v1, hb_v1, ho_v1⟩ := bind_get hr
  clear hr
  refine LW.tail (E := [(4, .p (.int .i64 v1.t4))]) (O := [.box [.zs, .p (.int .u64 0), .p (.int .i64 0), .p (.int .i64 0), .p (.int .i64 0), .zs, .p (.int .i64 0), .zs, .zs], .box [.p (.int .u64 0), .p (.int .u64 0)]]) ?_ (fun env_v1 H_v1 hw_v1 => ?_)
  · refine LW.block ?_
    refine LW.iterB (E := fun x1 : FIxN_L1 => [(0, .zs), (1, .fn 28 [] [.ptr 1 0, .ptr 0 0]), (4, .p (.int .i64 x1.t4)), (7, .p (.int .i64 0)), (8, .p (.int .i64 0))]) (O := fun x1 => [.box [.zs, .p (.int .u64 0), .p (.int .i64 0), .p (.int .i64 0), .p (.int .i64 0), .zs, .p (.int .i64 0), .zs, .zs], .box [.p (.int .u64 0), .p (.int .u64 0)]]) hb_v1 (Weak.of 2 ⟨rfl, rfl, rfl, rfl, rfl, trivial⟩ rfl rfl rfl rfl) (fun x1 z_x1 hr hb_x1 => ?_)
    unfold FIxN_s1 at hr
    refine LW.seq ?_
    refine LW.region ?_
    refine LOps.st rfl rfl rfl (LOp.bin rfl rfl rfl rfl) ?_
    refine LOps.nil ?_
    refine thn_n ?_
    refine LW.seq ?_
    refine LW.cond rfl (fun (g1 : (decide (0 < 0)) = true) => ?_) (fun (g1 : (decide (0 < 0)) = false) => ?_)
    · -- g1 is True
      have hr := ite_t g1 hr
      refine LW.skip ?_
      refine thn_n ?_
      refine LW.seq ?_
      refine LW.block ?_
      refine LW.seq ?_
      cases hr
    · -- g1 is False
      have hr := ite_f g1 hr
      refine LW.exit ?_
      refine thn_e ?_
      refine thn_e ?_
      refine inBlk_self ?_
      refine thn_n ?_
      obtain rfl := Option.some.inj hr
      have hr := congrArg some (hb_x1 _ rfl)
      obtain rfl := Option.some.inj hr
      exact Weak.of 2 ⟨rfl, trivial⟩ rfl rfl rfl rfl
  · have hr := ho_v1
    clear hb_v1
    refine thn_n ?_
    refine LW.weak hw_v1 ?_
    refine LW.seq ?_
    refine LW.region ?_
    refine LOps.st rfl rfl rfl (LOp.assign rfl rfl) ?_
    refine LOps.nil ?_
    refine thn_n ?_
    refine LW.ret ?_
    obtain rfl := Option.some.inj hr
    refine fin_ret (.one (.tmp rfl)) ?_
    exact ⟨rfl, rfl⟩
def FCfN : Option Bool :=
  (FIxN).bind fun v1 =>
  some (decide (v1 ≥ 0))
set_option maxRecDepth 100000 in
theorem cFCfN {r_ : Bool} (hr : FCfN = some r_) : LC Tryz.prog 27 [.zs, .fn 28 [] [.ptr 1 0, .ptr 0 0]] [.box [.zs, .p (.int .u64 0), .p (.int .i64 0), .p (.int .i64 0), .p (.int .i64 0), .zs, .p (.int .i64 0), .zs, .zs], .box [.p (.int .u64 0), .p (.int .u64 0)]] (Is (.p (.bool r_)) [.box [.zs, .p (.int .u64 0), .p (.int .i64 0), .p (.int .i64 0), .p (.int .i64 0), .zs, .p (.int .i64 0), .zs, .zs], .box [.p (.int .u64 0), .p (.int .u64 0)]]) := by
  refine LC.start Tryz.func27 rfl rfl rfl ?_
  unfold FCfN at hr
  refine LW.seq ?_
  refine LW.region ?_
  refine LOps.st rfl rfl rfl (LOp.assign rfl rfl) ?_
  refine LOps.nil ?_
  refine thn_n ?_
  refine LW.seq ?_
  refine LW.region ?_
  refine LOps.st rfl rfl rfl (LOp.move rfl rfl) ?_
  refine LOps.st rfl rfl rfl (LOp.move rfl rfl) ?_
  obtain ⟨v1, h_v1, hr⟩ := bind_get hr
  refine LOps.st rfl rfl rfl (LOp.call rfl rfl rfl (by kernel_rfl) (cFIxN h_v1)) ?_
  refine LOps.st rfl rfl rfl (LOp.bin rfl rfl rfl rfl) ?_
  refine LOps.st rfl rfl rfl (LOp.assign rfl rfl) ?_
  refine LOps.nil ?_
  refine thn_n ?_
  refine LW.ret ?_
  obtain rfl := Option.some.inj hr
  refine fin_ret (.one (.tmp rfl)) ?_
  exact ⟨rfl, rfl⟩
def FHoldsN : Option Bool :=
  (FCfN).bind fun v1 =>
  some (!v1)
set_option maxRecDepth 100000 in
theorem cFHoldsN {r_ : Bool} (hr : FHoldsN = some r_) : LC Tryz.prog 12 [.agg [.zs, .p (.int .u64 0), .p (.int .i64 0), .p (.int .i64 0), .p (.int .i64 0), .zs, .p (.int .i64 0), .zs, .zs], .p (.agg [.int .u64 0, .int .u64 0])] [] (Is (.p (.bool r_)) []) := by
  refine LC.start Tryz.func12 rfl rfl rfl ?_
  unfold FHoldsN at hr
  refine LW.seq ?_
  refine LW.region ?_
  refine LOps.st rfl rfl rfl (LOp.box rfl rfl rfl rfl rfl) ?_
  refine LOps.st rfl rfl rfl (LOp.box rfl rfl rfl rfl rfl) ?_
  refine LOps.st rfl rfl rfl (LOp.assign rfl rfl) ?_
  refine LOps.nil ?_
  refine thn_n ?_
  refine LW.seq ?_
  refine LW.region ?_
  refine LOps.st rfl rfl rfl (LOp.fieldAddr rfl rfl ft1038_3) ?_
  refine LOps.st rfl rfl rfl (LOp.load rfl rfl rfl vt1035 rfl rfl) ?_
  refine LOps.st rfl rfl rfl (LOp.makeFunc rfl rfl rfl) ?_
  obtain ⟨v1, h_v1, hr⟩ := bind_get hr
  refine LOps.st rfl rfl rfl (LOp.call rfl rfl rfl (by kernel_rfl) (cFCfN h_v1)) ?_
  refine LOps.st rfl rfl rfl (LOp.not rfl rfl) ?_
  refine LOps.st rfl rfl rfl (LOp.assign rfl rfl) ?_
  refine LOps.nil ?_
  refine thn_n ?_
  refine LW.ret ?_
  obtain rfl := Option.some.inj hr
  refine fin_retW (env' := [(4, .p (.bool (!v1)))]) (H' := []) (Weak.of 0 ⟨rfl, trivial⟩ rfl rfl rfl rfl) (.one (.tmp rfl)) ?_
  exact ⟨rfl, rfl⟩
structure FEachN_L1 where
  t7 : Int
def FEachN_s1 (x1 : FEachN_L1) : Option (FEachN_L1 ⊕ FEachN_L1) :=
  bif decide (0 < x1.t7) then
    none
  else
    some (.inr (FEachN_L1.mk x1.t7))
def FEachN : Option Unit :=
  (iter FEachN_s1 big (FEachN_L1.mk 0)).bind fun _ =>
  some ()
set_option maxRecDepth 100000 in
theorem cFEachN {r_ : Unit} (hr : FEachN = some r_) : LC Tryz.prog 49 [.zs, .fn 50 [] [.ptr 0 0]] [.box [.zs, .zs]] (Is (.tup []) [.box [.zs, .zs]]) := by
  refine LC.start Tryz.func49 rfl rfl rfl ?_
  unfold FEachN at hr
  refine LW.seq ?_
  refine LW.region ?_
  refine LOps.st rfl rfl rfl (LOp.move rfl rfl) ?_
  refine LOps.st rfl rfl rfl (LOp.lenZ rfl rfl (by kernel_rfl)) ?_
  refine LOps.st rfl rfl rfl (LOp.move rfl rfl) ?_
  refine LOps.nil ?_
  refine thn_n ?_
  obtain ⟨v1, hb_v1, ho_v1⟩ := bind_get hr
  clear hr
  refine LW.tail (E := []) (O := [.box [.zs, .zs]]) ?_ (fun env_v1 H_v1 hw_v1 => ?_)
  · refine LW.block ?_
    refine LW.iterB (E := fun x1 : FEachN_L1 => [(1, .fn 50 [] [.ptr 0 0]), (6, .zs), (7, .p (.int .i64 x1.t7)), (8, .p (.int .i64 0))]) (O := fun x1 => [.box [.zs, .zs]]) hb_v1 (Weak.of 1 ⟨rfl, rfl, rfl, rfl, trivial⟩ rfl rfl rfl rfl) (fun x1 z_x1 hr hb_x1 => ?_)
    unfold FEachN_s1 at hr
    refine LW.seq ?_
    refine LW.region ?_
    refine LOps.st rfl rfl rfl (LOp.bin rfl rfl rfl rfl) ?_
    refine LOps.nil ?_
    refine thn_n ?_
    refine LW.seq ?_
    refine LW.cond rfl (fun (g1 : (decide (0 < x1.t7)) = true) => ?_) (fun (g1 : (decide (0 < x1.t7)) = false) => ?_)
    · -- g1 is True
      have hr := ite_t g1 hr
      refine LW.skip ?_
      refine thn_n ?_
      refine LW.seq ?_
      refine LW.block ?_
      refine LW.seq ?_
      cases hr
    · -- g1 is False
      have hr := ite_f g1 hr
      refine LW.exit ?_
      refine thn_e ?_
      refine thn_e ?_
      refine inBlk_self ?_
      refine thn_n ?_
      obtain rfl := Option.some.inj hr
      have hr := congrArg some (hb_x1 _ rfl)
      obtain rfl := Option.some.inj hr
      exact Weak.of 1 trivial rfl rfl rfl rfl
  · have hr := ho_v1
    clear hb_v1
    obtain rfl := Option.some.inj hr
    exact fin_endW hw_v1 .none ⟨rfl, rfl⟩
def FAllN : Option Unit :=
  (FEachN).bind fun _ =>
  some ()
set_option maxRecDepth 100000 in
theorem cFAllN {r_ : Unit} (hr : FAllN = some r_) : LC Tryz.prog 31 [.zs] [] (Is (.agg [.zs, .zs]) [.box [.zs, .zs]]) := by
  refine LC.start Tryz.func31 rfl rfl rfl ?_
  unfold FAllN at hr
  refine LW.seq ?_
  refine LW.region ?_
  refine LOps.st rfl rfl rfl (LOp.alloc rfl zt75 rfl rfl) ?_
  refine LOps.nil ?_
  refine thn_n ?_
  refine LW.seq ?_
  refine LW.region ?_
  refine LOps.st rfl rfl rfl (LOp.move rfl rfl) ?_
  refine LOps.st rfl rfl rfl (LOp.makeFunc rfl rfl rfl) ?_
  obtain ⟨v1, h_v1, hr⟩ := bind_get hr
  refine LOps.st rfl rfl rfl (LOp.call rfl rfl rfl (by kernel_rfl) (cFEachN h_v1)) ?_
  refine LOps.nil ?_
  refine thn_n ?_
  refine LW.seq ?_
  refine LW.region ?_
  refine LOps.st rfl rfl rfl (LOp.load rfl rfl rfl vt75 rfl rfl) ?_
  refine LOps.st rfl rfl rfl (LOp.store rfl rfl rfl rfl vt75 rfl rfl rfl rfl) ?_
  refine LOps.nil ?_
  refine thn_n ?_
  refine LW.ret ?_
  obtain rfl := Option.some.inj hr
  refine fin_ret (.one (.cellAgg rfl rfl (by kernel_rfl) rfl)) ?_
  exact ⟨rfl, rfl⟩
structure FSeenN_L1 where
  t15 : Int
structure FSeenN_L2 where
  t32 : Int
  out : Vw
def FSeenN_s1 (x1 : FSeenN_L1) : Option (FSeenN_L1 ⊕ FSeenN_L1) :=
  bif decide (0 < x1.t15) then
    none
  else
    some (.inr (FSeenN_L1.mk x1.t15))
def FSeenN_s2 (l : List Ac) (x2 : FSeenN_L2) : Option (FSeenN_L2 ⊕ FSeenN_L2) :=
  bif decide (x2.t32 < (l.length : Int)) then
    (ix l x2.t32).bind fun y1 =>
    (F91 x2.out (Vw.mk y1.B y1.V)).bind fun v4 =>
    some (.inl (FSeenN_L2.mk (IntKind.i64.wrap (x2.t32 + 1)) v4))
  else
    some (.inr (FSeenN_L2.mk x2.t32 x2.out))
def FSeenN (l : List Ac) : Option Vw :=
  (FAllN).bind fun _ =>
  (iter FSeenN_s1 big (FSeenN_L1.mk 0)).bind fun _ =>
  (iter (FSeenN_s2 l) big (FSeenN_L2.mk 0 (Vw.mk [] []))).bind fun v3 =>
  some v3.out
set_option maxRecDepth 100000 in
theorem cFSeenN {l : List Ac} {r_ : Vw} (hr : FSeenN l = some r_) : LC Tryz.prog 13 [.agg [.zs, .p (.int .u64 0), .p (.int .i64 0), .p (.int .i64 0), .p (.int .i64 0), .zs, .p (.int .i64 0), .zs, .zs], .p (.slice 5 (l.map acP))] [] (Is (.p (vwP r_)) [.box [.zs, .p (.int .u64 0), .p (.int .i64 0), .p (.int .i64 0), .p (.int .i64 0), .zs, .p (.int .i64 0), .zs, .zs], .box [.p (.slice 5 (r_.B.map blkP)), .p (.slice 4 (r_.V.map vtP))], .box [.zs, .zs], .box [.p (.slice 5 (r_.B.map blkP)), .p (.slice 4 (r_.V.map vtP))]]) := by
  refine LC.start Tryz.func13 rfl rfl rfl ?_
  unfold FSeenN at hr
  refine LW.seq ?_
  refine LW.region ?_
  refine LOps.st rfl rfl rfl (LOp.box rfl rfl rfl rfl rfl) ?_
  refine LOps.st rfl rfl rfl (LOp.alloc rfl zt75 rfl rfl) ?_
  refine LOps.nil ?_
  refine thn_n ?_
  refine LW.seq ?_
  refine LW.region ?_
  refine LOps.st rfl rfl rfl (LOp.fieldAddr rfl rfl ft1038_3) ?_
  refine LOps.st rfl rfl rfl (LOp.load rfl rfl rfl vt1035 rfl rfl) ?_
  obtain ⟨v1, h_v1, hr⟩ := bind_get hr
  refine LOps.st rfl rfl rfl (LOp.call rfl rfl rfl (by kernel_rfl) (LC.frameX (x' := .agg [.zs, .zs]) (H' := [.box [.zs, .p (.int .u64 0), .p (.int .i64 0), .p (.int .i64 0), .p (.int .i64 0), .zs, .p (.int .i64 0), .zs, .zs], .box [.zs, .zs], .box [.zs, .zs]]) (cFAllN h_v1) (.consZ .nil) rfl rfl (by simp only [List.map_cons, List.map_nil, List.cons_append, List.nil_append, LObj.shift, LV.shifts, LV.shift] <;> rfl))) ?_
  refine LOps.st rfl rfl rfl (LOp.alloc rfl zt75 rfl rfl) ?_
  refine LOps.st rfl rfl rfl (LOp.store rfl rfl rfl rfl vt75 rfl rfl rfl rfl) ?_
  refine LOps.nil ?_
  refine thn_n ?_
  refine LW.seq ?_
  refine LW.seq ?_
  refine LW.region ?_
  refine LOps.st rfl rfl rfl (LOp.fieldAddr rfl rfl ft1038_4) ?_
  refine LOps.st rfl rfl rfl (LOp.load rfl rfl rfl vt1036 rfl rfl) ?_
  refine LOps.st rfl rfl rfl (LOp.lenZ rfl rfl (by kernel_rfl)) ?_
  refine LOps.st rfl rfl rfl (LOp.move rfl rfl) ?_
  refine LOps.nil ?_
  refine thn_n ?_
  obtain ⟨v2, hb_v2, ho_v2⟩ := bind_get hr
  clear hr
  refine LW.tail (E := [(1, .p (.slice 5 (l.map acP))), (4, .ptr 1 0), (5, .ptr 3 0)]) (O := [.box [.zs, .p (.int .u64 0), .p (.int .i64 0), .p (.int .i64 0), .p (.int .i64 0), .zs, .p (.int .i64 0), .zs, .zs], .box [.zs, .zs], .box [.zs, .zs], .box [.zs, .zs]]) ?_ (fun env_v2 H_v2 hw_v2 => ?_)
  · refine LW.block ?_
    refine LW.iterB (E := fun x1 : FSeenN_L1 => [(1, .p (.slice 5 (l.map acP))), (4, .ptr 1 0), (5, .ptr 3 0), (14, .zs), (15, .p (.int .i64 x1.t15)), (16, .p (.int .i64 0))]) (O := fun x1 => [.box [.zs, .p (.int .u64 0), .p (.int .i64 0), .p (.int .i64 0), .p (.int .i64 0), .zs, .p (.int .i64 0), .zs, .zs], .box [.zs, .zs], .box [.zs, .zs], .box [.zs, .zs]]) hb_v2 (Weak.of 4 ⟨rfl, rfl, rfl, rfl, rfl, rfl, trivial⟩ rfl rfl rfl rfl) (fun x1 z_x1 hr hb_x1 => ?_)
    unfold FSeenN_s1 at hr
    refine LW.seq ?_
    refine LW.region ?_
    refine LOps.st rfl rfl rfl (LOp.bin rfl rfl rfl rfl) ?_
    refine LOps.nil ?_
    refine thn_n ?_
    refine LW.seq ?_
    refine LW.cond rfl (fun (g1 : (decide (0 < x1.t15)) = true) => ?_) (fun (g1 : (decide (0 < x1.t15)) = false) => ?_)
    · -- g1 is True
      have hr := ite_t g1 hr
      refine LW.skip ?_
      refine thn_n ?_
      refine LW.seq ?_
      refine LW.block ?_
      refine LW.seq ?_
      cases hr
    · -- g1 is False
      have hr := ite_f g1 hr
      refine LW.exit ?_
      refine thn_e ?_
      refine thn_e ?_
      refine inBlk_self ?_
      refine thn_n ?_
      obtain rfl := Option.some.inj hr
      have hr := congrArg some (hb_x1 _ rfl)
      obtain rfl := Option.some.inj hr
      exact Weak.of 4 ⟨rfl, rfl, rfl, trivial⟩ rfl rfl rfl rfl
  · have hr := ho_v2
    clear hb_v2
    refine thn_n ?_
    refine LW.weak hw_v2 ?_
    refine LW.seq ?_
    refine LW.seq ?_
    refine LW.ent (Ent.zsCell (i := 3) (j := 0) (m := 5) rfl rfl rfl rfl) ?_
    refine LW.ent (Ent.zsCell (i := 3) (j := 1) (m := 4) rfl rfl rfl rfl) ?_
    refine LW.region ?_
    refine LOps.st rfl rfl rfl (LOp.move rfl rfl) ?_
    refine LOps.st rfl rfl rfl (LOp.lenM rfl rfl (by kernel_rfl)) ?_
    refine LOps.st rfl rfl rfl (LOp.move rfl rfl) ?_
    refine LOps.nil ?_
    refine thn_n ?_
    obtain ⟨v3, hb_v3, ho_v3⟩ := bind_get hr
    clear hr
    refine LW.tail (E := [(4, .ptr 1 0), (5, .ptr 3 0)]) (O := [.box [.zs, .p (.int .u64 0), .p (.int .i64 0), .p (.int .i64 0), .p (.int .i64 0), .zs, .p (.int .i64 0), .zs, .zs], .box [.zs, .zs], .box [.zs, .zs], .box [.p (.slice 5 (v3.out.B.map blkP)), .p (.slice 4 (v3.out.V.map vtP))]]) ?_ (fun env_v3 H_v3 hw_v3 => ?_)
    · refine LW.block ?_
      refine LW.iterB (E := fun x2 : FSeenN_L2 => [(4, .ptr 1 0), (5, .ptr 3 0), (30, .p (.slice 5 (l.map acP))), (31, .p (.int .i64 (l.length : Int))), (32, .p (.int .i64 x2.t32))]) (O := fun x2 => [.box [.zs, .p (.int .u64 0), .p (.int .i64 0), .p (.int .i64 0), .p (.int .i64 0), .zs, .p (.int .i64 0), .zs, .zs], .box [.zs, .zs], .box [.zs, .zs], .box [.p (.slice 5 (x2.out.B.map blkP)), .p (.slice 4 (x2.out.V.map vtP))]]) hb_v3 (Weak.of 4 ⟨rfl, rfl, rfl, rfl, rfl, trivial⟩ rfl rfl rfl rfl) (fun x2 z_x2 hr hb_x2 => ?_)
      unfold FSeenN_s2 at hr
      refine LW.seq ?_
      refine LW.region ?_
      refine LOps.st rfl rfl rfl (LOp.bin rfl rfl rfl rfl) ?_
      refine LOps.nil ?_
      refine thn_n ?_
      refine LW.seq ?_
      refine LW.cond rfl (fun (g2 : (decide (x2.t32 < (l.length : Int))) = true) => ?_) (fun (g2 : (decide (x2.t32 < (l.length : Int))) = false) => ?_)
      · -- g2 is True
        have hr := ite_t g2 hr
        refine LW.skip ?_
        refine thn_n ?_
        refine LW.seq ?_
        refine LW.block ?_
        refine LW.seq ?_
        refine LW.region ?_
        obtain ⟨y1, h_y1, hr⟩ := bind_get hr
        refine LOps.st rfl rfl rfl (LOp.indexAddrX rfl rfl rfl st1050 h_y1 rfl) ?_
        refine LOps.st rfl rfl rfl (LOp.loadC rfl rfl rfl vt1049 rfl rfl) ?_
        refine LOps.st rfl rfl rfl (LOp.alloc rfl zt1049 rfl rfl) ?_
        refine LOps.st rfl rfl rfl (LOp.store rfl rfl rfl rfl vt1049 rfl rfl rfl rfl) ?_
        refine LOps.nil ?_
        refine thn_n ?_
        refine LW.region ?_
        refine LOps.st rfl rfl rfl (LOp.load rfl rfl rfl vt75 rfl rfl) ?_
        refine LOps.st rfl rfl rfl (LOp.fieldAddr rfl rfl ft1049_3) ?_
        refine LOps.st rfl rfl rfl (LOp.load rfl rfl rfl vt27 rfl rfl) ?_
        refine LOps.st rfl rfl rfl (LOp.fieldAddr rfl rfl ft1049_4) ?_
        refine LOps.st rfl rfl rfl (LOp.load rfl rfl rfl vt68 rfl rfl) ?_
        refine LOps.st rfl rfl rfl (LOp.build rfl bt75 rfl rfl rfl) ?_
        obtain ⟨v4, h_v4, hr⟩ := bind_get hr
        refine LOps.st rfl rfl rfl (LOp.call rfl rfl rfl (by kernel_rfl) (LC.pure (c91 h_v4) (.cons Conv.p (.cons Conv.p .nil)))) ?_
        refine LOps.st rfl rfl rfl (LOp.store rfl rfl rfl rfl vt75 rfl rfl rfl rfl) ?_
        refine LOps.nil ?_
        refine inBlk_n ?_
        refine thn_n ?_
        refine LW.region ?_
        refine LOps.st rfl rfl rfl (LOp.bin rfl rfl rfl rfl) ?_
        refine LOps.st rfl rfl rfl (LOp.move rfl rfl) ?_
        refine LOps.nil ?_
        refine thn_n ?_
        obtain rfl := Option.some.inj hr
        exact ⟨_, rfl, Weak.of 4 ⟨rfl, rfl, rfl, rfl, rfl, trivial⟩ rfl rfl rfl rfl⟩
      · -- g2 is False
        have hr := ite_f g2 hr
        refine LW.exit ?_
        refine thn_e ?_
        refine thn_e ?_
        refine inBlk_self ?_
        refine thn_n ?_
        obtain rfl := Option.some.inj hr
        have hr := congrArg some (hb_x2 _ rfl)
        obtain rfl := Option.some.inj hr
        exact Weak.of 4 ⟨rfl, rfl, trivial⟩ rfl rfl rfl rfl
    · have hr := ho_v3
      clear hb_v3
      refine thn_n ?_
      refine LW.weak hw_v3 ?_
      refine LW.seq ?_
      refine LW.region ?_
      refine LOps.st rfl rfl rfl (LOp.load rfl rfl rfl vt75 rfl rfl) ?_
      refine LOps.st rfl rfl rfl (LOp.store rfl rfl rfl rfl vt75 rfl rfl rfl rfl) ?_
      refine LOps.nil ?_
      refine thn_n ?_
      refine LW.ret ?_
      obtain rfl := Option.some.inj hr
      refine fin_ret (.one (.cellAgg rfl rfl (by kernel_rfl) rfl)) ?_
      exact ⟨rfl, rfl⟩
open Go.Proofs
def F1006 : Option Bool :=
  (F1007 (Cf.mk [1, 1, 1] 0 1 1 4) [1] 5).bind fun v1 =>
  bif v1.1 == 2 then
    bif v1.2 == 1 then
      (F1010 (Cf.mk [1, 1, 1] 0 1 1 4) [1] 1 9).bind fun v2 =>
      bif v2 then
        (F1011 (Cf.mk [1, 1, 1] 0 1 1 4) [1] 5).bind fun v3 =>
        bif !v3 then
          (F1011 (Cf.mk [1, 1, 1] 0 1 1 4) ([] : List Int) 5).bind fun v4 =>
          bif v4 then
            (FHoldsN).bind fun v5 =>
            bif v5 then
              (FSeenN [Ac.mk 0 0 false [Bk.mk 1 0 (0, 0) 0] []]).bind fun v6 =>
              some ((v6.B.length : Int) == 1)
            else
              some false
          else
            some false
        else
          some false
      else
        some false
    else
      some false
  else
    some false
set_option maxRecDepth 100000 in
theorem c1006 {r_ : Bool} (hr : F1006 = some r_) : LPure Tryz.prog 6 [] [.bool r_] := by
  refine LPure.start Tryz.func6 rfl rfl rfl rfl ?_
  unfold F1006 at hr
  refine LW.seq ?_
  refine LW.region ?_
  refine LOps.st rfl rfl rfl (LOp.assign rfl rfl) ?_
  refine LOps.nil ?_
  refine thn_n ?_
  refine LW.seq ?_
  refine LW.region ?_
  refine LOps.st rfl rfl rfl (LOp.buildSlice rfl st49 rfl rfl rfl rfl rfl) ?_
  refine LOps.st rfl rfl rfl (LOp.build rfl bt55 rfl rfl rfl) ?_
  refine LOps.st rfl rfl rfl (LOp.alloc rfl zt55 rfl rfl) ?_
  refine LOps.st rfl rfl rfl (LOp.store rfl rfl rfl rfl vt55 rfl rfl rfl rfl) ?_
  refine LOps.nil ?_
  refine thn_n ?_
  refine LW.seq ?_
  refine LW.region ?_
  refine LOps.st rfl rfl rfl (LOp.load rfl rfl rfl vt55 rfl rfl) ?_
  refine LOps.st rfl rfl rfl (LOp.buildSlice rfl st49 rfl rfl rfl rfl rfl) ?_
  obtain ⟨v1, h_v1, hr⟩ := bind_get hr
  refine LOps.st rfl rfl rfl (LOp.call rfl rfl rfl (by kernel_rfl) (LC.pure (c1007 h_v1) (.cons Conv.p (.cons Conv.p (.cons Conv.p .nil))))) ?_
  refine LOps.st rfl rfl rfl (LOp.move rfl rfl) ?_
  refine LOps.st rfl rfl rfl (LOp.extract rfl rfl rfl) ?_
  refine LOps.st rfl rfl rfl (LOp.extract rfl rfl rfl) ?_
  refine LOps.st rfl rfl rfl (LOp.assign rfl rfl) ?_
  refine LOps.st rfl rfl rfl (LOp.assign rfl rfl) ?_
  refine LOps.nil ?_
  refine thn_n ?_
  refine LW.seq ?_
  refine LW.region ?_
  refine LOps.st rfl rfl rfl (LOp.move rfl rfl) ?_
  refine LOps.st rfl rfl rfl (LOp.bin rfl rfl rfl rfl) ?_
  refine LOps.st rfl rfl rfl (LOp.move rfl rfl) ?_
  refine LOps.cases 14 rfl (fun (g1 : (v1.1 == 2) = true) => ?_) (fun (g1 : (v1.1 == 2) = false) => ?_)
  · -- g1 is True
    have hr := ite_t g1 hr
    refine LOps.gd rfl rfl rfl (gd g1 rfl) rfl (LOp.move rfl rfl) ?_
    refine LOps.gd rfl rfl rfl (gd g1 rfl) rfl (LOp.bin rfl rfl rfl rfl) ?_
    refine LOps.st rfl rfl rfl (LOp.pickT rfl (gdl g1 rfl) rfl) ?_
    refine LOps.st rfl rfl rfl (LOp.move rfl rfl) ?_
    refine LOps.cases 18 rfl (fun (g2 : (v1.2 == 1) = true) => ?_) (fun (g2 : (v1.2 == 1) = false) => ?_)
    · -- g2 is True
      have hr := ite_t g2 hr
      refine LOps.gd rfl rfl rfl (gd g2 rfl) rfl (LOp.load rfl rfl rfl vt55 rfl rfl) ?_
      refine LOps.gd rfl rfl rfl (gd g2 rfl) rfl (LOp.buildSlice rfl st49 rfl rfl rfl rfl rfl) ?_
      obtain ⟨v2, h_v2, hr⟩ := bind_get hr
      refine LOps.gd rfl rfl rfl (gd g2 rfl) rfl (LOp.call rfl rfl rfl (by kernel_rfl) (LC.pure (c1010 h_v2) (.cons Conv.p (.cons Conv.p (.cons Conv.p (.cons Conv.p .nil)))))) ?_
      refine LOps.st rfl rfl rfl (LOp.pickT rfl (gdl g2 rfl) rfl) ?_
      refine LOps.st rfl rfl rfl (LOp.move rfl rfl) ?_
      refine LOps.cases 23 rfl (fun (g3 : v2 = true) => ?_) (fun (g3 : v2 = false) => ?_)
      · -- g3 is True
        have hr := ite_t g3 hr
        refine LOps.gd rfl rfl rfl (gd g3 rfl) rfl (LOp.load rfl rfl rfl vt55 rfl rfl) ?_
        refine LOps.gd rfl rfl rfl (gd g3 rfl) rfl (LOp.buildSlice rfl st49 rfl rfl rfl rfl rfl) ?_
        obtain ⟨v3, h_v3, hr⟩ := bind_get hr
        refine LOps.gd rfl rfl rfl (gd g3 rfl) rfl (LOp.call rfl rfl rfl (by kernel_rfl) (LC.pure (c1011 h_v3) (.cons Conv.p (.cons Conv.p (.cons Conv.p .nil))))) ?_
        refine LOps.gd rfl rfl rfl (gd g3 rfl) rfl (LOp.not rfl rfl) ?_
        refine LOps.st rfl rfl rfl (LOp.pickT rfl (gdl g3 rfl) rfl) ?_
        refine LOps.st rfl rfl rfl (LOp.move rfl rfl) ?_
        refine LOps.cases 29 rfl (fun (g4 : (!v3) = true) => ?_) (fun (g4 : (!v3) = false) => ?_)
        · -- g4 is True
          have hr := ite_t g4 hr
          refine LOps.gd rfl rfl rfl (gd g4 rfl) rfl (LOp.load rfl rfl rfl vt55 rfl rfl) ?_
          obtain ⟨v4, h_v4, hr⟩ := bind_get hr
          refine LOps.gd rfl rfl rfl (gd g4 rfl) rfl (LOp.call rfl rfl rfl (by kernel_rfl) (LC.pure (c1011 h_v4) (.cons Conv.p (.cons Conv.zs (.cons Conv.p .nil))))) ?_
          refine LOps.st rfl rfl rfl (LOp.pickT rfl (gdl g4 rfl) rfl) ?_
          refine LOps.st rfl rfl rfl (LOp.move rfl rfl) ?_
          refine LOps.cases 33 rfl (fun (g5 : v4 = true) => ?_) (fun (g5 : v4 = false) => ?_)
          · -- g5 is True
            have hr := ite_t g5 hr
            refine LOps.gd rfl rfl rfl (gd g5 rfl) rfl (LOp.build rfl bt1038 rfl rfl rfl) ?_
            refine LOps.gd rfl rfl rfl (gd g5 rfl) rfl (LOp.build rfl bt24 rfl rfl rfl) ?_
            obtain ⟨v5, h_v5, hr⟩ := bind_get hr
            refine LOps.gd rfl rfl rfl (gd g5 rfl) rfl (LOp.call rfl rfl rfl (by kernel_rfl) (LC.pre (cFHoldsN h_v5) rfl rfl rfl)) ?_
            refine LOps.st rfl rfl rfl (LOp.pickT rfl (gdl g5 rfl) rfl) ?_
            refine LOps.st rfl rfl rfl (LOp.move rfl rfl) ?_
            refine LOps.cases 38 rfl (fun (g6 : v5 = true) => ?_) (fun (g6 : v5 = false) => ?_)
            · -- g6 is True
              have hr := ite_t g6 hr
              refine LOps.gd rfl rfl rfl (gd g6 rfl) rfl (LOp.build rfl bt1038 rfl rfl rfl) ?_
              refine LOps.gd rfl rfl rfl (gd g6 rfl) rfl (LOp.build rfl bt42 rfl rfl rfl) ?_
              refine LOps.gd rfl rfl rfl (gd g6 rfl) rfl (LOp.buildSlice rfl st27 rfl rfl rfl rfl rfl) ?_
              refine LOps.gd rfl rfl rfl (gd g6 rfl) rfl (LOp.toP (p := .agg [.int .i64 0, .int .i64 0, .bool false, .slice 5 ([Bk.mk 1 0 (0, 0) 0].map blkP), .slice 4 (([] : List Vt).map vtP)]) (LOp.build rfl bt1049 rfl rfl rfl) (Conv.agg (.cons Conv.p (.cons Conv.p (.cons Conv.p (.cons Conv.p (.cons Conv.zs .nil))))))) ?_
              refine LOps.gd rfl rfl rfl (gd g6 rfl) rfl (LOp.buildSlice rfl st1050 rfl rfl rfl rfl rfl) ?_
              obtain ⟨v6, h_v6, hr⟩ := bind_get hr
              refine LOps.gd rfl rfl rfl (gd g6 rfl) rfl (LOp.call rfl rfl rfl (by kernel_rfl) (LC.frameX (x' := .p (vwP v6)) (H' := [.box [.p (.slice 1 ([1, 1, 1].map i64P)), .p (.int .u64 0), .p (.int .i64 1), .p (.int .i64 1), .p (.int .i64 4)], .box [.zs, .p (.int .u64 0), .p (.int .i64 0), .p (.int .i64 0), .p (.int .i64 0), .zs, .p (.int .i64 0), .zs, .zs], .box [.p (.slice 5 (v6.B.map blkP)), .p (.slice 4 (v6.V.map vtP))], .box [.zs, .zs], .box [.p (.slice 5 (v6.B.map blkP)), .p (.slice 4 (v6.V.map vtP))]]) (cFSeenN h_v6) (.consA rfl (.consC Conv.p .nil)) rfl rfl (by simp only [List.map_cons, List.map_nil, List.cons_append, List.nil_append, LObj.shift, LV.shifts, LV.shift] <;> rfl))) ?_
              refine LOps.gd rfl rfl rfl (gd g6 rfl) rfl (LOp.field rfl rfl rfl ft75_0 rfl rfl) ?_
              refine LOps.gd rfl rfl rfl (gd g6 rfl) rfl (LOp.lenM rfl rfl (by kernel_rfl)) ?_
              refine LOps.gd rfl rfl rfl (gd g6 rfl) rfl (LOp.bin rfl rfl rfl rfl) ?_
              refine LOps.st rfl rfl rfl (LOp.pickT rfl (gdl g6 rfl) rfl) ?_
              refine LOps.st rfl rfl rfl (LOp.assign rfl rfl) ?_
              refine LOps.nil ?_
              refine thn_n ?_
              refine LW.ret ?_
              obtain rfl := Option.some.inj hr
              refine finP_ret (.one (.tmp rfl)) ?_
              exact Conv.p
            · -- g6 is False
              have hr := ite_f g6 hr
              refine LOps.sk rfl rfl rfl (gd g6 rfl) rfl rfl ?_
              refine LOps.sk rfl rfl rfl (gd g6 rfl) rfl rfl ?_
              refine LOps.sk rfl rfl rfl (gd g6 rfl) rfl rfl ?_
              refine LOps.sk rfl rfl rfl (gd g6 rfl) rfl rfl ?_
              refine LOps.sk rfl rfl rfl (gd g6 rfl) rfl rfl ?_
              refine LOps.sk rfl rfl rfl (gd g6 rfl) rfl rfl ?_
              refine LOps.sk rfl rfl rfl (gd g6 rfl) rfl rfl ?_
              refine LOps.sk rfl rfl rfl (gd g6 rfl) rfl rfl ?_
              refine LOps.sk rfl rfl rfl (gd g6 rfl) rfl rfl ?_
              refine LOps.st rfl rfl rfl (LOp.pickF rfl (gdl g6 rfl) rfl) ?_
              refine LOps.st rfl rfl rfl (LOp.assign rfl rfl) ?_
              refine LOps.nil ?_
              refine thn_n ?_
              refine LW.ret ?_
              obtain rfl := Option.some.inj hr
              refine finP_ret (.one (.tmp rfl)) ?_
              exact Conv.p
          · -- g5 is False
            have hr := ite_f g5 hr
            refine LOps.sk rfl rfl rfl (gd g5 rfl) rfl rfl ?_
            refine LOps.sk rfl rfl rfl (gd g5 rfl) rfl rfl ?_
            refine LOps.sk rfl rfl rfl (gd g5 rfl) rfl rfl ?_
            refine LOps.st rfl rfl rfl (LOp.pickF rfl (gdl g5 rfl) rfl) ?_
            refine LOps.st rfl rfl rfl (LOp.move rfl rfl) ?_
            refine LOps.sk rfl rfl rfl rfl rfl rfl ?_
            refine LOps.sk rfl rfl rfl rfl rfl rfl ?_
            refine LOps.sk rfl rfl rfl rfl rfl rfl ?_
            refine LOps.sk rfl rfl rfl rfl rfl rfl ?_
            refine LOps.sk rfl rfl rfl rfl rfl rfl ?_
            refine LOps.sk rfl rfl rfl rfl rfl rfl ?_
            refine LOps.sk rfl rfl rfl rfl rfl rfl ?_
            refine LOps.sk rfl rfl rfl rfl rfl rfl ?_
            refine LOps.sk rfl rfl rfl rfl rfl rfl ?_
            refine LOps.st rfl rfl rfl (LOp.pickF rfl rfl rfl) ?_
            refine LOps.st rfl rfl rfl (LOp.assign rfl rfl) ?_
            refine LOps.nil ?_
            refine thn_n ?_
            refine LW.ret ?_
            obtain rfl := Option.some.inj hr
            refine finP_ret (.one (.tmp rfl)) ?_
            exact Conv.p
        · -- g4 is False
          have hr := ite_f g4 hr
          refine LOps.sk rfl rfl rfl (gd g4 rfl) rfl rfl ?_
          refine LOps.sk rfl rfl rfl (gd g4 rfl) rfl rfl ?_
          refine LOps.st rfl rfl rfl (LOp.pickF rfl (gdl g4 rfl) rfl) ?_
          refine LOps.st rfl rfl rfl (LOp.move rfl rfl) ?_
          refine LOps.sk rfl rfl rfl rfl rfl rfl ?_
          refine LOps.sk rfl rfl rfl rfl rfl rfl ?_
          refine LOps.sk rfl rfl rfl rfl rfl rfl ?_
          refine LOps.st rfl rfl rfl (LOp.pickF rfl rfl rfl) ?_
          refine LOps.st rfl rfl rfl (LOp.move rfl rfl) ?_
          refine LOps.sk rfl rfl rfl rfl rfl rfl ?_
          refine LOps.sk rfl rfl rfl rfl rfl rfl ?_
          refine LOps.sk rfl rfl rfl rfl rfl rfl ?_
          refine LOps.sk rfl rfl rfl rfl rfl rfl ?_
          refine LOps.sk rfl rfl rfl rfl rfl rfl ?_
          refine LOps.sk rfl rfl rfl rfl rfl rfl ?_
          refine LOps.sk rfl rfl rfl rfl rfl rfl ?_
          refine LOps.sk rfl rfl rfl rfl rfl rfl ?_
          refine LOps.sk rfl rfl rfl rfl rfl rfl ?_
          refine LOps.st rfl rfl rfl (LOp.pickF rfl rfl rfl) ?_
          refine LOps.st rfl rfl rfl (LOp.assign rfl rfl) ?_
          refine LOps.nil ?_
          refine thn_n ?_
          refine LW.ret ?_
          obtain rfl := Option.some.inj hr
          refine finP_ret (.one (.tmp rfl)) ?_
          exact Conv.p
      · -- g3 is False
        have hr := ite_f g3 hr
        refine LOps.sk rfl rfl rfl (gd g3 rfl) rfl rfl ?_
        refine LOps.sk rfl rfl rfl (gd g3 rfl) rfl rfl ?_
        refine LOps.sk rfl rfl rfl (gd g3 rfl) rfl rfl ?_
        refine LOps.sk rfl rfl rfl (gd g3 rfl) rfl rfl ?_
        refine LOps.st rfl rfl rfl (LOp.pickF rfl (gdl g3 rfl) rfl) ?_
        refine LOps.st rfl rfl rfl (LOp.move rfl rfl) ?_
        refine LOps.sk rfl rfl rfl rfl rfl rfl ?_
        refine LOps.sk rfl rfl rfl rfl rfl rfl ?_
        refine LOps.st rfl rfl rfl (LOp.pickF rfl rfl rfl) ?_
        refine LOps.st rfl rfl rfl (LOp.move rfl rfl) ?_
        refine LOps.sk rfl rfl rfl rfl rfl rfl ?_
        refine LOps.sk rfl rfl rfl rfl rfl rfl ?_
        refine LOps.sk rfl rfl rfl rfl rfl rfl ?_
        refine LOps.st rfl rfl rfl (LOp.pickF rfl rfl rfl) ?_
        refine LOps.st rfl rfl rfl (LOp.move rfl rfl) ?_
        refine LOps.sk rfl rfl rfl rfl rfl rfl ?_
        refine LOps.sk rfl rfl rfl rfl rfl rfl ?_
        refine LOps.sk rfl rfl rfl rfl rfl rfl ?_
        refine LOps.sk rfl rfl rfl rfl rfl rfl ?_
        refine LOps.sk rfl rfl rfl rfl rfl rfl ?_
        refine LOps.sk rfl rfl rfl rfl rfl rfl ?_
        refine LOps.sk rfl rfl rfl rfl rfl rfl ?_
        refine LOps.sk rfl rfl rfl rfl rfl rfl ?_
        refine LOps.sk rfl rfl rfl rfl rfl rfl ?_
        refine LOps.st rfl rfl rfl (LOp.pickF rfl rfl rfl) ?_
        refine LOps.st rfl rfl rfl (LOp.assign rfl rfl) ?_
        refine LOps.nil ?_
        refine thn_n ?_
        refine LW.ret ?_
        obtain rfl := Option.some.inj hr
        refine finP_ret (.one (.tmp rfl)) ?_
        exact Conv.p
    · -- g2 is False
      have hr := ite_f g2 hr
      refine LOps.sk rfl rfl rfl (gd g2 rfl) rfl rfl ?_
      refine LOps.sk rfl rfl rfl (gd g2 rfl) rfl rfl ?_
      refine LOps.sk rfl rfl rfl (gd g2 rfl) rfl rfl ?_
      refine LOps.st rfl rfl rfl (LOp.pickF rfl (gdl g2 rfl) rfl) ?_
      refine LOps.st rfl rfl rfl (LOp.move rfl rfl) ?_
      refine LOps.sk rfl rfl rfl rfl rfl rfl ?_
      refine LOps.sk rfl rfl rfl rfl rfl rfl ?_
      refine LOps.sk rfl rfl rfl rfl rfl rfl ?_
      refine LOps.sk rfl rfl rfl rfl rfl rfl ?_
      refine LOps.st rfl rfl rfl (LOp.pickF rfl rfl rfl) ?_
      refine LOps.st rfl rfl rfl (LOp.move rfl rfl) ?_
      refine LOps.sk rfl rfl rfl rfl rfl rfl ?_
      refine LOps.sk rfl rfl rfl rfl rfl rfl ?_
      refine LOps.st rfl rfl rfl (LOp.pickF rfl rfl rfl) ?_
      refine LOps.st rfl rfl rfl (LOp.move rfl rfl) ?_
      refine LOps.sk rfl rfl rfl rfl rfl rfl ?_
      refine LOps.sk rfl rfl rfl rfl rfl rfl ?_
      refine LOps.sk rfl rfl rfl rfl rfl rfl ?_
      refine LOps.st rfl rfl rfl (LOp.pickF rfl rfl rfl) ?_
      refine LOps.st rfl rfl rfl (LOp.move rfl rfl) ?_
      refine LOps.sk rfl rfl rfl rfl rfl rfl ?_
      refine LOps.sk rfl rfl rfl rfl rfl rfl ?_
      refine LOps.sk rfl rfl rfl rfl rfl rfl ?_
      refine LOps.sk rfl rfl rfl rfl rfl rfl ?_
      refine LOps.sk rfl rfl rfl rfl rfl rfl ?_
      refine LOps.sk rfl rfl rfl rfl rfl rfl ?_
      refine LOps.sk rfl rfl rfl rfl rfl rfl ?_
      refine LOps.sk rfl rfl rfl rfl rfl rfl ?_
      refine LOps.sk rfl rfl rfl rfl rfl rfl ?_
      refine LOps.st rfl rfl rfl (LOp.pickF rfl rfl rfl) ?_
      refine LOps.st rfl rfl rfl (LOp.assign rfl rfl) ?_
      refine LOps.nil ?_
      refine thn_n ?_
      refine LW.ret ?_
      obtain rfl := Option.some.inj hr
      refine finP_ret (.one (.tmp rfl)) ?_
      exact Conv.p
  · -- g1 is False
    have hr := ite_f g1 hr
    refine LOps.sk rfl rfl rfl (gd g1 rfl) rfl rfl ?_
    refine LOps.sk rfl rfl rfl (gd g1 rfl) rfl rfl ?_
    refine LOps.st rfl rfl rfl (LOp.pickF rfl (gdl g1 rfl) rfl) ?_
    refine LOps.st rfl rfl rfl (LOp.move rfl rfl) ?_
    refine LOps.sk rfl rfl rfl rfl rfl rfl ?_
    refine LOps.sk rfl rfl rfl rfl rfl rfl ?_
    refine LOps.sk rfl rfl rfl rfl rfl rfl ?_
    refine LOps.st rfl rfl rfl (LOp.pickF rfl rfl rfl) ?_
    refine LOps.st rfl rfl rfl (LOp.move rfl rfl) ?_
    refine LOps.sk rfl rfl rfl rfl rfl rfl ?_
    refine LOps.sk rfl rfl rfl rfl rfl rfl ?_
    refine LOps.sk rfl rfl rfl rfl rfl rfl ?_
    refine LOps.sk rfl rfl rfl rfl rfl rfl ?_
    refine LOps.st rfl rfl rfl (LOp.pickF rfl rfl rfl) ?_
    refine LOps.st rfl rfl rfl (LOp.move rfl rfl) ?_
    refine LOps.sk rfl rfl rfl rfl rfl rfl ?_
    refine LOps.sk rfl rfl rfl rfl rfl rfl ?_
    refine LOps.st rfl rfl rfl (LOp.pickF rfl rfl rfl) ?_
    refine LOps.st rfl rfl rfl (LOp.move rfl rfl) ?_
    refine LOps.sk rfl rfl rfl rfl rfl rfl ?_
    refine LOps.sk rfl rfl rfl rfl rfl rfl ?_
    refine LOps.sk rfl rfl rfl rfl rfl rfl ?_
    refine LOps.st rfl rfl rfl (LOp.pickF rfl rfl rfl) ?_
    refine LOps.st rfl rfl rfl (LOp.move rfl rfl) ?_
    refine LOps.sk rfl rfl rfl rfl rfl rfl ?_
    refine LOps.sk rfl rfl rfl rfl rfl rfl ?_
    refine LOps.sk rfl rfl rfl rfl rfl rfl ?_
    refine LOps.sk rfl rfl rfl rfl rfl rfl ?_
    refine LOps.sk rfl rfl rfl rfl rfl rfl ?_
    refine LOps.sk rfl rfl rfl rfl rfl rfl ?_
    refine LOps.sk rfl rfl rfl rfl rfl rfl ?_
    refine LOps.sk rfl rfl rfl rfl rfl rfl ?_
    refine LOps.sk rfl rfl rfl rfl rfl rfl ?_
    refine LOps.st rfl rfl rfl (LOp.pickF rfl rfl rfl) ?_
    refine LOps.st rfl rfl rfl (LOp.assign rfl rfl) ?_
    refine LOps.nil ?_
    refine thn_n ?_
    refine LW.ret ?_
    obtain rfl := Option.some.inj hr
    refine finP_ret (.one (.tmp rfl)) ?_
    exact Conv.p
open Go.Proofs
def F1004 (c : Cf) (bad : List Int) (v_from : Int) (upto : Int) (v_at : Int) : Option Bool :=
  (F1006 ).bind fun v1 =>
  (
    bif !v1 then
      some true
    else
      bif decide ((c.W.length : Int) > 40) then
        some true
      else
        bif decide ((bad.length : Int) > 10) then
          some true
        else
          bif decide (v_from < (-5)) then
            some true
          else
            bif decide (v_from > 2000000) then
              some true
            else
              bif decide (upto < v_from) then
                some true
              else
                bif decide (upto > (IntKind.i64.wrap (v_from + 20))) then
                  some true
                else
                  bif decide (v_at < v_from) then
                    some true
                  else
                    some (decide (v_at ≥ upto))
  ).bind fun v2 =>
  bif v2 then
    some v1
  else
    (F1010 c bad v_from upto).bind fun v3 =>
    (F1010 c bad v_from v_at).bind fun v4 =>
    (F1010 c bad (IntKind.i64.wrap (v_at + 1)) upto).bind fun v5 =>
    (
      bif v4 then
        bif !(v3 == v5) then
          some (.inr false)
        else
          some (.inl ())
      else
        bif !(v3 == false) then
          some (.inr false)
        else
          some (.inl ())
    ).bind fun b_v6 => Sum.elim (fun _ =>
      (F1011 c bad v_from).bind fun v7 =>
      bif !v7 then
        some true
      else
        bif decide ((IntKind.i64.wrap (2 * c.Num)) ≥ c.Den) then
          some true
        else
          (F1010 c bad v_from v_from).bind fun v8 =>
          some v8) some b_v6
set_option maxRecDepth 100000 in
theorem c1004 {c : Cf} {bad : List Int} {v_from : Int} {upto : Int} {v_at : Int} {r_ : Bool} (hr : F1004 c bad v_from upto v_at = some r_) : LPure Tryz.prog 4 [cfP c, .slice 1 (bad.map i64P), .int .i64 v_from, .int .i64 upto, .int .i64 v_at] [.bool r_] := by
  refine LPure.start Tryz.func4 rfl rfl rfl rfl ?_
  unfold F1004 at hr
  refine LW.seq ?_
  refine LW.region ?_
  refine LOps.st rfl rfl rfl (LOp.box rfl rfl rfl rfl rfl) ?_
  refine LOps.st rfl rfl rfl (LOp.assign rfl rfl) ?_
  refine LOps.nil ?_
  refine thn_n ?_
  refine LW.seq ?_
  refine LW.region ?_
  obtain ⟨v1, h_v1, hr⟩ := bind_get hr
  refine LOps.st rfl rfl rfl (LOp.call rfl rfl rfl (by kernel_rfl) (LC.pure (c1006 h_v1) .nil)) ?_
  refine LOps.st rfl rfl rfl (LOp.assign rfl rfl) ?_
  refine LOps.nil ?_
  refine thn_n ?_
  refine LW.seq ?_
  obtain ⟨v2, hb_v2, ho_v2⟩ := bind_get hr
  clear hr
  refine LW.cut (E := [(1, .p (.slice 1 (bad.map i64P))), (2, .p (.int .i64 v_from)), (3, .p (.int .i64 upto)), (4, .p (.int .i64 v_at)), (5, .ptr 0 0), (10, .p (.bool false)), (11, .p (.bool v1)), (57, .p (.bool v2))]) (O := [.box [.p (.slice 1 (c.W.map i64P)), .p (.int .u64 c.Seed), .p (.int .i64 c.Epoch), .p (.int .i64 c.Num), .p (.int .i64 c.Den)]]) ?_ ?_
  · have hr := hb_v2
    refine LW.region ?_
    refine LOps.st rfl rfl rfl (LOp.move rfl rfl) ?_
    refine LOps.st rfl rfl rfl (LOp.not rfl rfl) ?_
    refine LOps.st rfl rfl rfl (LOp.move rfl rfl) ?_
    refine LOps.cases 18 rfl (fun (g1 : (!v1) = true) => ?_) (fun (g1 : (!v1) = false) => ?_)
    · -- g1 is True
      have hr := ite_t g1 hr
      refine LOps.sk rfl rfl rfl (gd g1 rfl) rfl rfl ?_
      refine LOps.sk rfl rfl rfl (gd g1 rfl) rfl rfl ?_
      refine LOps.sk rfl rfl rfl (gd g1 rfl) rfl rfl ?_
      refine LOps.sk rfl rfl rfl (gd g1 rfl) rfl rfl ?_
      refine LOps.st rfl rfl rfl (LOp.pickT rfl (gdl g1 rfl) rfl) ?_
      refine LOps.st rfl rfl rfl (LOp.move rfl rfl) ?_
      refine LOps.sk rfl rfl rfl rfl rfl rfl ?_
      refine LOps.sk rfl rfl rfl rfl rfl rfl ?_
      refine LOps.sk rfl rfl rfl rfl rfl rfl ?_
      refine LOps.st rfl rfl rfl (LOp.pickT rfl rfl rfl) ?_
      refine LOps.st rfl rfl rfl (LOp.move rfl rfl) ?_
      refine LOps.sk rfl rfl rfl rfl rfl rfl ?_
      refine LOps.sk rfl rfl rfl rfl rfl rfl ?_
      refine LOps.st rfl rfl rfl (LOp.pickT rfl rfl rfl) ?_
      refine LOps.st rfl rfl rfl (LOp.move rfl rfl) ?_
      refine LOps.sk rfl rfl rfl rfl rfl rfl ?_
      refine LOps.sk rfl rfl rfl rfl rfl rfl ?_
      refine LOps.st rfl rfl rfl (LOp.pickT rfl rfl rfl) ?_
      refine LOps.st rfl rfl rfl (LOp.move rfl rfl) ?_
      refine LOps.sk rfl rfl rfl rfl rfl rfl ?_
      refine LOps.sk rfl rfl rfl rfl rfl rfl ?_
      refine LOps.sk rfl rfl rfl rfl rfl rfl ?_
      refine LOps.st rfl rfl rfl (LOp.pickT rfl rfl rfl) ?_
      refine LOps.st rfl rfl rfl (LOp.move rfl rfl) ?_
      refine LOps.sk rfl rfl rfl rfl rfl rfl ?_
      refine LOps.sk rfl rfl rfl rfl rfl rfl ?_
      refine LOps.sk rfl rfl rfl rfl rfl rfl ?_
      refine LOps.sk rfl rfl rfl rfl rfl rfl ?_
      refine LOps.st rfl rfl rfl (LOp.pickT rfl rfl rfl) ?_
      refine LOps.st rfl rfl rfl (LOp.move rfl rfl) ?_
      refine LOps.sk rfl rfl rfl rfl rfl rfl ?_
      refine LOps.sk rfl rfl rfl rfl rfl rfl ?_
      refine LOps.sk rfl rfl rfl rfl rfl rfl ?_
      refine LOps.st rfl rfl rfl (LOp.pickT rfl rfl rfl) ?_
      refine LOps.st rfl rfl rfl (LOp.move rfl rfl) ?_
      refine LOps.sk rfl rfl rfl rfl rfl rfl ?_
      refine LOps.sk rfl rfl rfl rfl rfl rfl ?_
      refine LOps.sk rfl rfl rfl rfl rfl rfl ?_
      refine LOps.st rfl rfl rfl (LOp.pickT rfl rfl rfl) ?_
      refine LOps.nil ?_
      refine thn_n ?_
      obtain rfl := Option.some.inj hr
      exact Weak.of 1 ⟨rfl, rfl, rfl, rfl, rfl, rfl, rfl, rfl, trivial⟩ rfl rfl rfl rfl
    · -- g1 is False
      have hr := ite_f g1 hr
      refine LOps.gd rfl rfl rfl (gd g1 rfl) rfl (LOp.fieldAddr rfl rfl ft55_0) ?_
      refine LOps.gd rfl rfl rfl (gd g1 rfl) rfl (LOp.load rfl rfl rfl vt49 rfl rfl) ?_
      refine LOps.gd rfl rfl rfl (gd g1 rfl) rfl (LOp.lenM rfl rfl (by kernel_rfl)) ?_
      refine LOps.gd rfl rfl rfl (gd g1 rfl) rfl (LOp.bin rfl rfl rfl rfl) ?_
      refine LOps.st rfl rfl rfl (LOp.pickF rfl (gdl g1 rfl) rfl) ?_
      refine LOps.st rfl rfl rfl (LOp.move rfl rfl) ?_
      refine LOps.cases 24 rfl (fun (g2 : (decide ((c.W.length : Int) > 40)) = true) => ?_) (fun (g2 : (decide ((c.W.length : Int) > 40)) = false) => ?_)
      · -- g2 is True
        have hr := ite_t g2 hr
        refine LOps.sk rfl rfl rfl (gd g2 rfl) rfl rfl ?_
        refine LOps.sk rfl rfl rfl (gd g2 rfl) rfl rfl ?_
        refine LOps.sk rfl rfl rfl (gd g2 rfl) rfl rfl ?_
        refine LOps.st rfl rfl rfl (LOp.pickT rfl (gdl g2 rfl) rfl) ?_
        refine LOps.st rfl rfl rfl (LOp.move rfl rfl) ?_
        refine LOps.sk rfl rfl rfl rfl rfl rfl ?_
        refine LOps.sk rfl rfl rfl rfl rfl rfl ?_
        refine LOps.st rfl rfl rfl (LOp.pickT rfl rfl rfl) ?_
        refine LOps.st rfl rfl rfl (LOp.move rfl rfl) ?_
        refine LOps.sk rfl rfl rfl rfl rfl rfl ?_
        refine LOps.sk rfl rfl rfl rfl rfl rfl ?_
        refine LOps.st rfl rfl rfl (LOp.pickT rfl rfl rfl) ?_
        refine LOps.st rfl rfl rfl (LOp.move rfl rfl) ?_
        refine LOps.sk rfl rfl rfl rfl rfl rfl ?_
        refine LOps.sk rfl rfl rfl rfl rfl rfl ?_
        refine LOps.sk rfl rfl rfl rfl rfl rfl ?_
        refine LOps.st rfl rfl rfl (LOp.pickT rfl rfl rfl) ?_
        refine LOps.st rfl rfl rfl (LOp.move rfl rfl) ?_
        refine LOps.sk rfl rfl rfl rfl rfl rfl ?_
        refine LOps.sk rfl rfl rfl rfl rfl rfl ?_
        refine LOps.sk rfl rfl rfl rfl rfl rfl ?_
        refine LOps.sk rfl rfl rfl rfl rfl rfl ?_
        refine LOps.st rfl rfl rfl (LOp.pickT rfl rfl rfl) ?_
        refine LOps.st rfl rfl rfl (LOp.move rfl rfl) ?_
        refine LOps.sk rfl rfl rfl rfl rfl rfl ?_
        refine LOps.sk rfl rfl rfl rfl rfl rfl ?_
        refine LOps.sk rfl rfl rfl rfl rfl rfl ?_
        refine LOps.st rfl rfl rfl (LOp.pickT rfl rfl rfl) ?_
        refine LOps.st rfl rfl rfl (LOp.move rfl rfl) ?_
        refine LOps.sk rfl rfl rfl rfl rfl rfl ?_
        refine LOps.sk rfl rfl rfl rfl rfl rfl ?_
        refine LOps.sk rfl rfl rfl rfl rfl rfl ?_
        refine LOps.st rfl rfl rfl (LOp.pickT rfl rfl rfl) ?_
        refine LOps.nil ?_
        refine thn_n ?_
        obtain rfl := Option.some.inj hr
        exact Weak.of 1 ⟨rfl, rfl, rfl, rfl, rfl, rfl, rfl, rfl, trivial⟩ rfl rfl rfl rfl
      · -- g2 is False
        have hr := ite_f g2 hr
        refine LOps.gd rfl rfl rfl (gd g2 rfl) rfl (LOp.move rfl rfl) ?_
        refine LOps.gd rfl rfl rfl (gd g2 rfl) rfl (LOp.lenM rfl rfl (by kernel_rfl)) ?_
        refine LOps.gd rfl rfl rfl (gd g2 rfl) rfl (LOp.bin rfl rfl rfl rfl) ?_
        refine LOps.st rfl rfl rfl (LOp.pickF rfl (gdl g2 rfl) rfl) ?_
        refine LOps.st rfl rfl rfl (LOp.move rfl rfl) ?_
        refine LOps.cases 29 rfl (fun (g3 : (decide ((bad.length : Int) > 10)) = true) => ?_) (fun (g3 : (decide ((bad.length : Int) > 10)) = false) => ?_)
        · -- g3 is True
          have hr := ite_t g3 hr
          refine LOps.sk rfl rfl rfl (gd g3 rfl) rfl rfl ?_
          refine LOps.sk rfl rfl rfl (gd g3 rfl) rfl rfl ?_
          refine LOps.st rfl rfl rfl (LOp.pickT rfl (gdl g3 rfl) rfl) ?_
          refine LOps.st rfl rfl rfl (LOp.move rfl rfl) ?_
          refine LOps.sk rfl rfl rfl rfl rfl rfl ?_
          refine LOps.sk rfl rfl rfl rfl rfl rfl ?_
          refine LOps.st rfl rfl rfl (LOp.pickT rfl rfl rfl) ?_
          refine LOps.st rfl rfl rfl (LOp.move rfl rfl) ?_
          refine LOps.sk rfl rfl rfl rfl rfl rfl ?_
          refine LOps.sk rfl rfl rfl rfl rfl rfl ?_
          refine LOps.sk rfl rfl rfl rfl rfl rfl ?_
          refine LOps.st rfl rfl rfl (LOp.pickT rfl rfl rfl) ?_
          refine LOps.st rfl rfl rfl (LOp.move rfl rfl) ?_
          refine LOps.sk rfl rfl rfl rfl rfl rfl ?_
          refine LOps.sk rfl rfl rfl rfl rfl rfl ?_
          refine LOps.sk rfl rfl rfl rfl rfl rfl ?_
          refine LOps.sk rfl rfl rfl rfl rfl rfl ?_
          refine LOps.st rfl rfl rfl (LOp.pickT rfl rfl rfl) ?_
          refine LOps.st rfl rfl rfl (LOp.move rfl rfl) ?_
          refine LOps.sk rfl rfl rfl rfl rfl rfl ?_
          refine LOps.sk rfl rfl rfl rfl rfl rfl ?_
          refine LOps.sk rfl rfl rfl rfl rfl rfl ?_
          refine LOps.st rfl rfl rfl (LOp.pickT rfl rfl rfl) ?_
          refine LOps.st rfl rfl rfl (LOp.move rfl rfl) ?_
          refine LOps.sk rfl rfl rfl rfl rfl rfl ?_
          refine LOps.sk rfl rfl rfl rfl rfl rfl ?_
          refine LOps.sk rfl rfl rfl rfl rfl rfl ?_
          refine LOps.st rfl rfl rfl (LOp.pickT rfl rfl rfl) ?_
          refine LOps.nil ?_
          refine thn_n ?_
          obtain rfl := Option.some.inj hr
          exact Weak.of 1 ⟨rfl, rfl, rfl, rfl, rfl, rfl, rfl, rfl, trivial⟩ rfl rfl rfl rfl
        · -- g3 is False
          have hr := ite_f g3 hr
          refine LOps.gd rfl rfl rfl (gd g3 rfl) rfl (LOp.move rfl rfl) ?_
          refine LOps.gd rfl rfl rfl (gd g3 rfl) rfl (LOp.bin rfl rfl rfl rfl) ?_
          refine LOps.st rfl rfl rfl (LOp.pickF rfl (gdl g3 rfl) rfl) ?_
          refine LOps.st rfl rfl rfl (LOp.move rfl rfl) ?_
          refine LOps.cases 33 rfl (fun (g4 : (decide (v_from < (-5))) = true) => ?_) (fun (g4 : (decide (v_from < (-5))) = false) => ?_)
          · -- g4 is True
            have hr := ite_t g4 hr
            refine LOps.sk rfl rfl rfl (gd g4 rfl) rfl rfl ?_
            refine LOps.sk rfl rfl rfl (gd g4 rfl) rfl rfl ?_
            refine LOps.st rfl rfl rfl (LOp.pickT rfl (gdl g4 rfl) rfl) ?_
            refine LOps.st rfl rfl rfl (LOp.move rfl rfl) ?_
            refine LOps.sk rfl rfl rfl rfl rfl rfl ?_
            refine LOps.sk rfl rfl rfl rfl rfl rfl ?_
            refine LOps.sk rfl rfl rfl rfl rfl rfl ?_
            refine LOps.st rfl rfl rfl (LOp.pickT rfl rfl rfl) ?_
            refine LOps.st rfl rfl rfl (LOp.move rfl rfl) ?_
            refine LOps.sk rfl rfl rfl rfl rfl rfl ?_
            refine LOps.sk rfl rfl rfl rfl rfl rfl ?_
            refine LOps.sk rfl rfl rfl rfl rfl rfl ?_
            refine LOps.sk rfl rfl rfl rfl rfl rfl ?_
            refine LOps.st rfl rfl rfl (LOp.pickT rfl rfl rfl) ?_
            refine LOps.st rfl rfl rfl (LOp.move rfl rfl) ?_
            refine LOps.sk rfl rfl rfl rfl rfl rfl ?_
            refine LOps.sk rfl rfl rfl rfl rfl rfl ?_
            refine LOps.sk rfl rfl rfl rfl rfl rfl ?_
            refine LOps.st rfl rfl rfl (LOp.pickT rfl rfl rfl) ?_
            refine LOps.st rfl rfl rfl (LOp.move rfl rfl) ?_
            refine LOps.sk rfl rfl rfl rfl rfl rfl ?_
            refine LOps.sk rfl rfl rfl rfl rfl rfl ?_
            refine LOps.sk rfl rfl rfl rfl rfl rfl ?_
            refine LOps.st rfl rfl rfl (LOp.pickT rfl rfl rfl) ?_
            refine LOps.nil ?_
            refine thn_n ?_
            obtain rfl := Option.some.inj hr
            exact Weak.of 1 ⟨rfl, rfl, rfl, rfl, rfl, rfl, rfl, rfl, trivial⟩ rfl rfl rfl rfl
          · -- g4 is False
            have hr := ite_f g4 hr
            refine LOps.gd rfl rfl rfl (gd g4 rfl) rfl (LOp.move rfl rfl) ?_
            refine LOps.gd rfl rfl rfl (gd g4 rfl) rfl (LOp.bin rfl rfl rfl rfl) ?_
            refine LOps.st rfl rfl rfl (LOp.pickF rfl (gdl g4 rfl) rfl) ?_
            refine LOps.st rfl rfl rfl (LOp.move rfl rfl) ?_
            refine LOps.cases 37 rfl (fun (g5 : (decide (v_from > 2000000)) = true) => ?_) (fun (g5 : (decide (v_from > 2000000)) = false) => ?_)
            · -- g5 is True
              have hr := ite_t g5 hr
              refine LOps.sk rfl rfl rfl (gd g5 rfl) rfl rfl ?_
              refine LOps.sk rfl rfl rfl (gd g5 rfl) rfl rfl ?_
              refine LOps.sk rfl rfl rfl (gd g5 rfl) rfl rfl ?_
              refine LOps.st rfl rfl rfl (LOp.pickT rfl (gdl g5 rfl) rfl) ?_
              refine LOps.st rfl rfl rfl (LOp.move rfl rfl) ?_
              refine LOps.sk rfl rfl rfl rfl rfl rfl ?_
              refine LOps.sk rfl rfl rfl rfl rfl rfl ?_
              refine LOps.sk rfl rfl rfl rfl rfl rfl ?_
              refine LOps.sk rfl rfl rfl rfl rfl rfl ?_
              refine LOps.st rfl rfl rfl (LOp.pickT rfl rfl rfl) ?_
              refine LOps.st rfl rfl rfl (LOp.move rfl rfl) ?_
              refine LOps.sk rfl rfl rfl rfl rfl rfl ?_
              refine LOps.sk rfl rfl rfl rfl rfl rfl ?_
              refine LOps.sk rfl rfl rfl rfl rfl rfl ?_
              refine LOps.st rfl rfl rfl (LOp.pickT rfl rfl rfl) ?_
              refine LOps.st rfl rfl rfl (LOp.move rfl rfl) ?_
              refine LOps.sk rfl rfl rfl rfl rfl rfl ?_
              refine LOps.sk rfl rfl rfl rfl rfl rfl ?_
              refine LOps.sk rfl rfl rfl rfl rfl rfl ?_
              refine LOps.st rfl rfl rfl (LOp.pickT rfl rfl rfl) ?_
              refine LOps.nil ?_
              refine thn_n ?_
              obtain rfl := Option.some.inj hr
              exact Weak.of 1 ⟨rfl, rfl, rfl, rfl, rfl, rfl, rfl, rfl, trivial⟩ rfl rfl rfl rfl
            · -- g5 is False
              have hr := ite_f g5 hr
              refine LOps.gd rfl rfl rfl (gd g5 rfl) rfl (LOp.move rfl rfl) ?_
              refine LOps.gd rfl rfl rfl (gd g5 rfl) rfl (LOp.move rfl rfl) ?_
              refine LOps.gd rfl rfl rfl (gd g5 rfl) rfl (LOp.bin rfl rfl rfl rfl) ?_
              refine LOps.st rfl rfl rfl (LOp.pickF rfl (gdl g5 rfl) rfl) ?_
              refine LOps.st rfl rfl rfl (LOp.move rfl rfl) ?_
              refine LOps.cases 42 rfl (fun (g6 : (decide (upto < v_from)) = true) => ?_) (fun (g6 : (decide (upto < v_from)) = false) => ?_)
              · -- g6 is True
                have hr := ite_t g6 hr
                refine LOps.sk rfl rfl rfl (gd g6 rfl) rfl rfl ?_
                refine LOps.sk rfl rfl rfl (gd g6 rfl) rfl rfl ?_
                refine LOps.sk rfl rfl rfl (gd g6 rfl) rfl rfl ?_
                refine LOps.sk rfl rfl rfl (gd g6 rfl) rfl rfl ?_
                refine LOps.st rfl rfl rfl (LOp.pickT rfl (gdl g6 rfl) rfl) ?_
                refine LOps.st rfl rfl rfl (LOp.move rfl rfl) ?_
                refine LOps.sk rfl rfl rfl rfl rfl rfl ?_
                refine LOps.sk rfl rfl rfl rfl rfl rfl ?_
                refine LOps.sk rfl rfl rfl rfl rfl rfl ?_
                refine LOps.st rfl rfl rfl (LOp.pickT rfl rfl rfl) ?_
                refine LOps.st rfl rfl rfl (LOp.move rfl rfl) ?_
                refine LOps.sk rfl rfl rfl rfl rfl rfl ?_
                refine LOps.sk rfl rfl rfl rfl rfl rfl ?_
                refine LOps.sk rfl rfl rfl rfl rfl rfl ?_
                refine LOps.st rfl rfl rfl (LOp.pickT rfl rfl rfl) ?_
                refine LOps.nil ?_
                refine thn_n ?_
                obtain rfl := Option.some.inj hr
                exact Weak.of 1 ⟨rfl, rfl, rfl, rfl, rfl, rfl, rfl, rfl, trivial⟩ rfl rfl rfl rfl
              · -- g6 is False
                have hr := ite_f g6 hr
                refine LOps.gd rfl rfl rfl (gd g6 rfl) rfl (LOp.move rfl rfl) ?_
                refine LOps.gd rfl rfl rfl (gd g6 rfl) rfl (LOp.move rfl rfl) ?_
                refine LOps.gd rfl rfl rfl (gd g6 rfl) rfl (LOp.bin rfl rfl rfl rfl) ?_
                refine LOps.gd rfl rfl rfl (gd g6 rfl) rfl (LOp.bin rfl rfl rfl rfl) ?_
                refine LOps.st rfl rfl rfl (LOp.pickF rfl (gdl g6 rfl) rfl) ?_
                refine LOps.st rfl rfl rfl (LOp.move rfl rfl) ?_
                refine LOps.cases 48 rfl (fun (g7 : (decide (upto > (IntKind.i64.wrap (v_from + 20)))) = true) => ?_) (fun (g7 : (decide (upto > (IntKind.i64.wrap (v_from + 20)))) = false) => ?_)
                · -- g7 is True
                  have hr := ite_t g7 hr
                  refine LOps.sk rfl rfl rfl (gd g7 rfl) rfl rfl ?_
                  refine LOps.sk rfl rfl rfl (gd g7 rfl) rfl rfl ?_
                  refine LOps.sk rfl rfl rfl (gd g7 rfl) rfl rfl ?_
                  refine LOps.st rfl rfl rfl (LOp.pickT rfl (gdl g7 rfl) rfl) ?_
                  refine LOps.st rfl rfl rfl (LOp.move rfl rfl) ?_
                  refine LOps.sk rfl rfl rfl rfl rfl rfl ?_
                  refine LOps.sk rfl rfl rfl rfl rfl rfl ?_
                  refine LOps.sk rfl rfl rfl rfl rfl rfl ?_
                  refine LOps.st rfl rfl rfl (LOp.pickT rfl rfl rfl) ?_
                  refine LOps.nil ?_
                  refine thn_n ?_
                  obtain rfl := Option.some.inj hr
                  exact Weak.of 1 ⟨rfl, rfl, rfl, rfl, rfl, rfl, rfl, rfl, trivial⟩ rfl rfl rfl rfl
                · -- g7 is False
                  have hr := ite_f g7 hr
                  refine LOps.gd rfl rfl rfl (gd g7 rfl) rfl (LOp.move rfl rfl) ?_
                  refine LOps.gd rfl rfl rfl (gd g7 rfl) rfl (LOp.move rfl rfl) ?_
                  refine LOps.gd rfl rfl rfl (gd g7 rfl) rfl (LOp.bin rfl rfl rfl rfl) ?_
                  refine LOps.st rfl rfl rfl (LOp.pickF rfl (gdl g7 rfl) rfl) ?_
                  refine LOps.st rfl rfl rfl (LOp.move rfl rfl) ?_
                  refine LOps.cases 53 rfl (fun (g8 : (decide (v_at < v_from)) = true) => ?_) (fun (g8 : (decide (v_at < v_from)) = false) => ?_)
                  · -- g8 is True
                    have hr := ite_t g8 hr
                    refine LOps.sk rfl rfl rfl (gd g8 rfl) rfl rfl ?_
                    refine LOps.sk rfl rfl rfl (gd g8 rfl) rfl rfl ?_
                    refine LOps.sk rfl rfl rfl (gd g8 rfl) rfl rfl ?_
                    refine LOps.st rfl rfl rfl (LOp.pickT rfl (gdl g8 rfl) rfl) ?_
                    refine LOps.nil ?_
                    refine thn_n ?_
                    obtain rfl := Option.some.inj hr
                    exact Weak.of 1 ⟨rfl, rfl, rfl, rfl, rfl, rfl, rfl, rfl, trivial⟩ rfl rfl rfl rfl
                  · -- g8 is False
                    have hr := ite_f g8 hr
                    refine LOps.gd rfl rfl rfl (gd g8 rfl) rfl (LOp.move rfl rfl) ?_
                    refine LOps.gd rfl rfl rfl (gd g8 rfl) rfl (LOp.move rfl rfl) ?_
                    refine LOps.gd rfl rfl rfl (gd g8 rfl) rfl (LOp.bin rfl rfl rfl rfl) ?_
                    refine LOps.st rfl rfl rfl (LOp.pickF rfl (gdl g8 rfl) rfl) ?_
                    refine LOps.nil ?_
                    refine thn_n ?_
                    obtain rfl := Option.some.inj hr
                    exact Weak.of 1 ⟨rfl, rfl, rfl, rfl, rfl, rfl, rfl, rfl, trivial⟩ rfl rfl rfl rfl
  · have hr := ho_v2
    clear hb_v2
    refine LW.cond rfl (fun (g9 : v2 = true) => ?_) (fun (g9 : v2 = false) => ?_)
    · -- g9 is True
      have hr := ite_t g9 hr
      refine LW.seq ?_
      refine LW.region ?_
      refine LOps.st rfl rfl rfl (LOp.move rfl rfl) ?_
      refine LOps.st rfl rfl rfl (LOp.assign rfl rfl) ?_
      refine LOps.nil ?_
      refine thn_n ?_
      refine LW.ret ?_
      refine thn_r ?_
      obtain rfl := Option.some.inj hr
      refine finP_ret (.one (.tmp rfl)) ?_
      exact Conv.p
    · -- g9 is False
      have hr := ite_f g9 hr
      refine LW.skip ?_
      refine thn_n ?_
      refine LW.seq ?_
      refine LW.region ?_
      refine LOps.st rfl rfl rfl (LOp.load rfl rfl rfl vt55 rfl rfl) ?_
      refine LOps.st rfl rfl rfl (LOp.move rfl rfl) ?_
      refine LOps.st rfl rfl rfl (LOp.move rfl rfl) ?_
      refine LOps.st rfl rfl rfl (LOp.move rfl rfl) ?_
      obtain ⟨v3, h_v3, hr⟩ := bind_get hr
      refine LOps.st rfl rfl rfl (LOp.call rfl rfl rfl (by kernel_rfl) (LC.pure (c1010 h_v3) (.cons Conv.p (.cons Conv.p (.cons Conv.p (.cons Conv.p .nil)))))) ?_
      refine LOps.st rfl rfl rfl (LOp.assign rfl rfl) ?_
      refine LOps.nil ?_
      refine thn_n ?_
      refine LW.seq ?_
      refine LW.region ?_
      refine LOps.st rfl rfl rfl (LOp.load rfl rfl rfl vt55 rfl rfl) ?_
      refine LOps.st rfl rfl rfl (LOp.move rfl rfl) ?_
      refine LOps.st rfl rfl rfl (LOp.move rfl rfl) ?_
      refine LOps.st rfl rfl rfl (LOp.move rfl rfl) ?_
      obtain ⟨v4, h_v4, hr⟩ := bind_get hr
      refine LOps.st rfl rfl rfl (LOp.call rfl rfl rfl (by kernel_rfl) (LC.pure (c1010 h_v4) (.cons Conv.p (.cons Conv.p (.cons Conv.p (.cons Conv.p .nil)))))) ?_
      refine LOps.st rfl rfl rfl (LOp.assign rfl rfl) ?_
      refine LOps.nil ?_
      refine thn_n ?_
      refine LW.seq ?_
      refine LW.region ?_
      refine LOps.st rfl rfl rfl (LOp.load rfl rfl rfl vt55 rfl rfl) ?_
      refine LOps.st rfl rfl rfl (LOp.move rfl rfl) ?_
      refine LOps.st rfl rfl rfl (LOp.move rfl rfl) ?_
      refine LOps.st rfl rfl rfl (LOp.bin rfl rfl rfl rfl) ?_
      refine LOps.st rfl rfl rfl (LOp.move rfl rfl) ?_
      obtain ⟨v5, h_v5, hr⟩ := bind_get hr
      refine LOps.st rfl rfl rfl (LOp.call rfl rfl rfl (by kernel_rfl) (LC.pure (c1010 h_v5) (.cons Conv.p (.cons Conv.p (.cons Conv.p (.cons Conv.p .nil)))))) ?_
      refine LOps.st rfl rfl rfl (LOp.assign rfl rfl) ?_
      refine LOps.nil ?_
      refine thn_n ?_
      obtain ⟨b_v6, hb_v6, ho_v6⟩ := bind_get hr
      clear hr
      refine LW.cutB (b := b_v6) (E := fun v6 => [(1, .p (.slice 1 (bad.map i64P))), (2, .p (.int .i64 v_from)), (5, .ptr 0 0), (10, .p (.bool false))]) (O := fun v6 => [.box [.p (.slice 1 (c.W.map i64P)), .p (.int .u64 c.Seed), .p (.int .i64 c.Epoch), .p (.int .i64 c.Num), .p (.int .i64 c.Den)]]) ?_ (fun v6 e_v6 => ?_)
      · have hr := hb_v6
        refine LW.seq ?_
        refine LW.region ?_
        refine LOps.st rfl rfl rfl (LOp.move rfl rfl) ?_
        refine LOps.st rfl rfl rfl (LOp.move rfl rfl) ?_
        refine LOps.st rfl rfl rfl (LOp.move rfl rfl) ?_
        refine LOps.cases 77 rfl (fun (g10 : v4 = true) => ?_) (fun (g10 : v4 = false) => ?_)
        · -- g10 is True
          have hr := ite_t g10 hr
          refine LOps.gd rfl rfl rfl (gd g10 rfl) rfl (LOp.move rfl rfl) ?_
          refine LOps.st rfl rfl rfl (LOp.pickT rfl (gdl g10 rfl) rfl) ?_
          refine LOps.st rfl rfl rfl (LOp.neqBool rfl rfl rfl Tryz.underlying4) ?_
          refine LOps.nil ?_
          refine thn_n ?_
          refine LW.cond rfl (fun (g11 : (!(v3 == v5)) = true) => ?_) (fun (g11 : (!(v3 == v5)) = false) => ?_)
          · -- g11 is True
            have hr := ite_t g11 hr
            refine LW.seq ?_
            refine LW.region ?_
            refine LOps.st rfl rfl rfl (LOp.assign rfl rfl) ?_
            refine LOps.nil ?_
            refine thn_n ?_
            refine LW.ret ?_
            refine thn_r ?_
            obtain rfl := Option.some.inj hr
            have hr := sum_r ho_v6
            obtain rfl := Option.some.inj hr
            refine finP_ret (.one (.tmp rfl)) ?_
            exact Conv.p
          · -- g11 is False
            have hr := ite_f g11 hr
            refine LW.skip ?_
            refine thn_n ?_
            obtain rfl := Option.some.inj hr
            exact ⟨_, rfl, Weak.of 1 ⟨rfl, rfl, rfl, rfl, trivial⟩ rfl rfl rfl rfl⟩
        · -- g10 is False
          have hr := ite_f g10 hr
          refine LOps.sk rfl rfl rfl (gd g10 rfl) rfl rfl ?_
          refine LOps.st rfl rfl rfl (LOp.pickF rfl (gdl g10 rfl) rfl) ?_
          refine LOps.st rfl rfl rfl (LOp.neqBool rfl rfl rfl Tryz.underlying4) ?_
          refine LOps.nil ?_
          refine thn_n ?_
          refine LW.cond rfl (fun (g12 : (!(v3 == false)) = true) => ?_) (fun (g12 : (!(v3 == false)) = false) => ?_)
          · -- g12 is True
            have hr := ite_t g12 hr
            refine LW.seq ?_
            refine LW.region ?_
            refine LOps.st rfl rfl rfl (LOp.assign rfl rfl) ?_
            refine LOps.nil ?_
            refine thn_n ?_
            refine LW.ret ?_
            refine thn_r ?_
            obtain rfl := Option.some.inj hr
            have hr := sum_r ho_v6
            obtain rfl := Option.some.inj hr
            refine finP_ret (.one (.tmp rfl)) ?_
            exact Conv.p
          · -- g12 is False
            have hr := ite_f g12 hr
            refine LW.skip ?_
            refine thn_n ?_
            obtain rfl := Option.some.inj hr
            exact ⟨_, rfl, Weak.of 1 ⟨rfl, rfl, rfl, rfl, trivial⟩ rfl rfl rfl rfl⟩
      · obtain rfl := e_v6
        have hr := sum_l ho_v6
        clear hb_v6
        refine LW.seq ?_
        refine LW.region ?_
        refine LOps.st rfl rfl rfl (LOp.load rfl rfl rfl vt55 rfl rfl) ?_
        refine LOps.st rfl rfl rfl (LOp.move rfl rfl) ?_
        refine LOps.st rfl rfl rfl (LOp.move rfl rfl) ?_
        obtain ⟨v7, h_v7, hr⟩ := bind_get hr
        refine LOps.st rfl rfl rfl (LOp.call rfl rfl rfl (by kernel_rfl) (LC.pure (c1011 h_v7) (.cons Conv.p (.cons Conv.p (.cons Conv.p .nil))))) ?_
        refine LOps.st rfl rfl rfl (LOp.not rfl rfl) ?_
        refine LOps.st rfl rfl rfl (LOp.move rfl rfl) ?_
        refine LOps.cases 86 rfl (fun (g13 : (!v7) = true) => ?_) (fun (g13 : (!v7) = false) => ?_)
        · -- g13 is True
          have hr := ite_t g13 hr
          refine LOps.sk rfl rfl rfl (gd g13 rfl) rfl rfl ?_
          refine LOps.sk rfl rfl rfl (gd g13 rfl) rfl rfl ?_
          refine LOps.sk rfl rfl rfl (gd g13 rfl) rfl rfl ?_
          refine LOps.sk rfl rfl rfl (gd g13 rfl) rfl rfl ?_
          refine LOps.sk rfl rfl rfl (gd g13 rfl) rfl rfl ?_
          refine LOps.sk rfl rfl rfl (gd g13 rfl) rfl rfl ?_
          refine LOps.st rfl rfl rfl (LOp.pickT rfl (gdl g13 rfl) rfl) ?_
          refine LOps.st rfl rfl rfl (LOp.move rfl rfl) ?_
          refine LOps.sk rfl rfl rfl rfl rfl rfl ?_
          refine LOps.sk rfl rfl rfl rfl rfl rfl ?_
          refine LOps.sk rfl rfl rfl rfl rfl rfl ?_
          refine LOps.sk rfl rfl rfl rfl rfl rfl ?_
          refine LOps.sk rfl rfl rfl rfl rfl rfl ?_
          refine LOps.st rfl rfl rfl (LOp.pickT rfl rfl rfl) ?_
          refine LOps.st rfl rfl rfl (LOp.assign rfl rfl) ?_
          refine LOps.nil ?_
          refine thn_n ?_
          refine LW.ret ?_
          obtain rfl := Option.some.inj hr
          refine finP_ret (.one (.tmp rfl)) ?_
          exact Conv.p
        · -- g13 is False
          have hr := ite_f g13 hr
          refine LOps.gd rfl rfl rfl (gd g13 rfl) rfl (LOp.fieldAddr rfl rfl ft55_3) ?_
          refine LOps.gd rfl rfl rfl (gd g13 rfl) rfl (LOp.load rfl rfl rfl vt3 rfl rfl) ?_
          refine LOps.gd rfl rfl rfl (gd g13 rfl) rfl (LOp.bin rfl rfl rfl rfl) ?_
          refine LOps.gd rfl rfl rfl (gd g13 rfl) rfl (LOp.fieldAddr rfl rfl ft55_4) ?_
          refine LOps.gd rfl rfl rfl (gd g13 rfl) rfl (LOp.load rfl rfl rfl vt3 rfl rfl) ?_
          refine LOps.gd rfl rfl rfl (gd g13 rfl) rfl (LOp.bin rfl rfl rfl rfl) ?_
          refine LOps.st rfl rfl rfl (LOp.pickF rfl (gdl g13 rfl) rfl) ?_
          refine LOps.st rfl rfl rfl (LOp.move rfl rfl) ?_
          refine LOps.cases 94 rfl (fun (g14 : (decide ((IntKind.i64.wrap (2 * c.Num)) ≥ c.Den)) = true) => ?_) (fun (g14 : (decide ((IntKind.i64.wrap (2 * c.Num)) ≥ c.Den)) = false) => ?_)
          · -- g14 is True
            have hr := ite_t g14 hr
            refine LOps.sk rfl rfl rfl (gd g14 rfl) rfl rfl ?_
            refine LOps.sk rfl rfl rfl (gd g14 rfl) rfl rfl ?_
            refine LOps.sk rfl rfl rfl (gd g14 rfl) rfl rfl ?_
            refine LOps.sk rfl rfl rfl (gd g14 rfl) rfl rfl ?_
            refine LOps.sk rfl rfl rfl (gd g14 rfl) rfl rfl ?_
            refine LOps.st rfl rfl rfl (LOp.pickT rfl (gdl g14 rfl) rfl) ?_
            refine LOps.st rfl rfl rfl (LOp.assign rfl rfl) ?_
            refine LOps.nil ?_
            refine thn_n ?_
            refine LW.ret ?_
            obtain rfl := Option.some.inj hr
            refine finP_ret (.one (.tmp rfl)) ?_
            exact Conv.p
          · -- g14 is False
            have hr := ite_f g14 hr
            refine LOps.gd rfl rfl rfl (gd g14 rfl) rfl (LOp.load rfl rfl rfl vt55 rfl rfl) ?_
            refine LOps.gd rfl rfl rfl (gd g14 rfl) rfl (LOp.move rfl rfl) ?_
            refine LOps.gd rfl rfl rfl (gd g14 rfl) rfl (LOp.move rfl rfl) ?_
            refine LOps.gd rfl rfl rfl (gd g14 rfl) rfl (LOp.move rfl rfl) ?_
            obtain ⟨v8, h_v8, hr⟩ := bind_get hr
            refine LOps.gd rfl rfl rfl (gd g14 rfl) rfl (LOp.call rfl rfl rfl (by kernel_rfl) (LC.pure (c1010 h_v8) (.cons Conv.p (.cons Conv.p (.cons Conv.p (.cons Conv.p .nil)))))) ?_
            refine LOps.st rfl rfl rfl (LOp.pickF rfl (gdl g14 rfl) rfl) ?_
            refine LOps.st rfl rfl rfl (LOp.assign rfl rfl) ?_
            refine LOps.nil ?_
            refine thn_n ?_
            refine LW.ret ?_
            obtain rfl := Option.some.inj hr
            refine finP_ret (.one (.tmp rfl)) ?_
            exact Conv.p
theorem snoc_filter {α : Type} {p : α → Bool} {l : List α} {n : Nat} {y : α} (hy : l[n]? = some y) : (l.take (n + 1)).filter p = (l.take n).filter p ++ bif p y then [y] else [] := by
  have e : l.take (n + 1) = l.take n ++ [y] := by rw [List.take_add_one, hy]; rfl
  rw [e, List.filter_append]
  cases h : p y <;> simp [h]
theorem take_filter_len {α : Type} {p : α → Bool} {l : List α} (n : Nat) : ((l.take n).filter p).length ≤ n :=
  Nat.le_trans (List.length_filter_le _ _) (by rw [List.length_take]; omega)
def inB (bad : List Int) (x : Int) : Bool := decide (x ∈ bad)
theorem FParted_eq {l bad : List Int} (hl : l.length ≤ 1000) (hb : bad.length ≤ 1000) : FParted l bad = some (l.filter (fun x => !inB bad x), l.filter (inB bad)) := by
  have e := count_loop (step := FParted_s1 l bad) (n := l.length) (fun k => FParted_L1.mk (k : Int) ((l.take k).filter fun x => !inB bad x) ((l.take k).filter (inB bad))) (FParted_L1.mk (l.length : Int) (l.filter fun x => !inB bad x) (l.filter (inB bad))) (fun k hk => by
    obtain ⟨y, hy, -⟩ := get_of hk
    have h1 := take_filter_len (p := fun x => !inB bad x) (l := l) k
    have h2 := take_filter_len (p := inB bad) (l := l) k
    unfold FParted_s1 FWeigh1
    simp only
    rw [decide_eq_true (show (k : Int) < (l.length : Int) by omega), ct, ix_nat hy, ob, F119_eq (by omega), ob, ob, snoc_filter hy, snoc_filter hy, wrap_succ (n := k) (by omega)]
    unfold inB at h1 h2 ⊢
    by_cases h : y ∈ bad
    · simp only [decide_eq_true h, ct, Bool.not_true, cf, List.append_nil]
      rw [room_ok (by simp only [List.length_singleton]; omega) (by omega), ct]
    · simp only [decide_eq_false h, ct, Bool.not_false, cf, List.append_nil]
      rw [room_ok (by simp only [List.length_singleton]; omega) (by omega), ct]) (by
    unfold FParted_s1
    simp only
    rw [decide_eq_false (show ¬ (l.length : Int) < (l.length : Int) by omega), cf, List.take_length]) (by omega)
  have e' : iter (FParted_s1 l bad) big (FParted_L1.mk 0 [] []) = _ := e
  unfold FParted
  rw [e', ob]
/-- How much of a slot's committee is good, and bad. -/
def goodW (c : Cf) (bad : List Int) (slot : Int) : Int := wtP c ((cmP c slot).filter fun x => !inB bad x)
def badW (c : Cf) (bad : List Int) (slot : Int) : Int := wtP c ((cmP c slot).filter (inB bad))
theorem F1007_eq {c : Cf} {bad : List Int} (hb : bad.length ≤ 1000) (slot : Int) : F1007 c bad slot = some (goodW c bad slot, badW c bad slot) := by
  have h := cm_len c slot
  have h1 := List.length_filter_le (fun x => !inB bad x) (cmP c slot)
  have h2 := List.length_filter_le (inB bad) (cmP c slot)
  unfold F1007
  rw [F65_eq, ob, FParted_eq (by omega) hb, ob, F70_eq (by simp only; omega), ob, F70_eq (by simp only; omega), ob]
  rfl
theorem inB_iff {bad : List Int} {x : Int} : inB bad x = true ↔ x ∈ bad := ⟨of_decide_eq_true, fun h => decide_eq_true h⟩
theorem inB_not {bad : List Int} {x : Int} : (!inB bad x) = true ↔ x ∉ bad := by
  rw [Bool.not_eq_true', ← Bool.not_eq_true, inB_iff]
theorem weigh_sum (c : Cf) (bad : List Int) (slot : Int) : goodW c bad slot + badW c bad slot = wtP c (cmP c slot) := by
  unfold goodW badW
  rw [← (wt_or c _ _).2, wt_same]
  · intro x
    rw [List.mem_append, List.mem_filter, List.mem_filter, inB_iff, inB_not]
    by_cases h : x ∈ bad <;> simp [h]
  · cases h : hitA ((cmP c slot).filter fun x => !inB bad x) ((cmP c slot).filter (inB bad)) with
    | false => rfl
    | true =>
      obtain ⟨x, hx, h2⟩ := List.any_eq_true.1 h
      obtain ⟨y, hy, h3⟩ := List.any_eq_true.1 h2
      have e : x = y := by simpa using h3
      subst e
      exact absurd (inB_iff.1 (List.mem_filter.1 hy).2) (inB_not.1 (List.mem_filter.1 hx).2)
theorem weigh_in (c : Cf) (bad : List Int) (slot : Int) : (0 ≤ goodW c bad slot ∧ goodW c bad slot ≤ 13194139533312) ∧ 0 ≤ badW c bad slot ∧ badW c bad slot ≤ 13194139533312 := ⟨wt_in _ _, wt_in _ _⟩
theorem exit_loop {S : Type} {step : S → Option (S ⊕ S)} {n : Nat} (mk : Nat → S) (bad : Nat → Bool) (out : S → Bool) (hs : ∀ j, j < n → bad j = false → step (mk j) = some (.inl (mk (j + 1))))
    (hb : ∀ j, j < n → bad j = true → ∃ z, step (mk j) = some (.inr z) ∧ out z = false) (he : ∃ z, step (mk n) = some (.inr z) ∧ out z = true) (hn : n < 4000000000000000000) :
    ∃ z, iter step big (mk 0) = some z ∧ (out z = true ↔ ∀ j, j < n → bad j = false) := by
  have key : ∀ (d k q : Nat), k + d = n → d < q → ∃ z, iter step q (mk k) = some z ∧ (out z = true ↔ ∀ j, k ≤ j → j < n → bad j = false) := by
    intro d
    induction d with
    | zero =>
      intro k q hk hq
      obtain ⟨q, rfl⟩ : ∃ p, q = p + 1 := ⟨q - 1, by omega⟩
      obtain rfl : k = n := by omega
      obtain ⟨z, h1, h2⟩ := he
      exact ⟨z, iter_end h1, ⟨fun _ j h3 h4 => by omega, fun _ => h2⟩⟩
    | succ d ih =>
      intro k q hk hq
      obtain ⟨q, rfl⟩ : ∃ p, q = p + 1 := ⟨q - 1, by omega⟩
      cases hf : bad k with
      | true =>
        obtain ⟨z, h1, h2⟩ := hb k (by omega) hf
        refine ⟨z, iter_end h1, ⟨fun h3 => (by rw [h2] at h3; cases h3), fun h3 => ?_⟩⟩
        have := h3 k (Nat.le_refl _) (by omega)
        rw [hf] at this; cases this
      | false =>
        rw [iter_go (hs k (by omega) hf)]
        obtain ⟨z, h1, h2⟩ := ih (k + 1) q (by omega) (by omega)
        refine ⟨z, h1, h2.trans ⟨fun h3 j h4 h5 => ?_, fun h3 j h4 h5 => h3 j (by omega) h5⟩⟩
        by_cases e : j = k
        · subst e; exact hf
        · exact h3 j (by omega) h5
  obtain ⟨z, h1, h2⟩ := key n 0 big (by omega) (big_gt hn)
  exact ⟨z, h1, h2.trans ⟨fun h j hj => h j (Nat.zero_le _) hj, fun h j _ hj => h j hj⟩⟩
def strongS (c : Cf) (bad : List Int) (s : Int) : Bool := decide (badW c bad s < goodW c bad s)
def StrongP (c : Cf) (bad : List Int) (a b : Int) : Prop := ∀ s, a ≤ s → s ≤ b → strongS c bad s = true
open Classical in
theorem F1010_eq {c : Cf} {bad : List Int} (hb : bad.length ≤ 1000) {a b : Int} (h0 : -1000000000 ≤ a) (h1 : b ≤ 1000000000) (h2 : b - a < 1000) : F1010 c bad a b = some (decide (StrongP c bad a b)) := by
  unfold F1010
  by_cases hab : a > b
  · rw [decide_eq_true hab, ct, decide_eq_true]
    intro s h3 h4; omega
  · rw [decide_eq_false hab, cf]
    have e : ∀ z, IntKind.u64.wrap z = z % 18446744073709551616 := fun z => rfl
    have hw : IntKind.u64.wrap (IntKind.u64.wrap b - IntKind.u64.wrap a) = b - a := by rw [e, e, e]; omega
    have hw1 : IntKind.u64.wrap (b - a + 1) = b - a + 1 := by rw [e]; omega
    rw [hw, decide_eq_false (show ¬ b - a ≥ 1000 by omega), cf]
    obtain ⟨N, hN⟩ : ∃ N : Nat, (N : Int) = b - a + 1 := ⟨(b - a + 1).toNat, by omega⟩
    obtain ⟨z, e1, e2⟩ := exit_loop (step := F1010_s1 c bad a b) (n := N) (fun k => F1010_L1.mk (a + (k : Int)) true (k : Int)) (fun k => !strongS c bad (a + (k : Int))) F1010_L1.strong (fun j hj hf => by
      unfold F1010_s1
      simp only
      rw [hw, hw1, decide_eq_true (show (j : Int) < b - a + 1 by omega), ct, F1007_eq hb, ob]
      simp only
      have h5 : strongS c bad (a + (j : Int)) = true := by simpa using hf
      have h6 := of_decide_eq_true h5
      rw [decide_eq_false (by omega), cf, show IntKind.i64.wrap (a + (j : Int) + 1) = a + ((j + 1 : Nat) : Int) by rw [wrapI (by omega) (by omega)]; omega, show IntKind.u64.wrap ((j : Int) + 1) = ((j + 1 : Nat) : Int) by rw [e]; omega]) (fun j hj hf => by
      refine ⟨F1010_L1.mk (a + (j : Int)) false (j : Int), ?_, rfl⟩
      unfold F1010_s1
      simp only
      rw [hw, hw1, decide_eq_true (show (j : Int) < b - a + 1 by omega), ct, F1007_eq hb, ob]
      simp only
      have h5 : strongS c bad (a + (j : Int)) = false := by simpa using hf
      have h6 := of_decide_eq_false h5
      rw [decide_eq_true (by omega), ct]) (by
      refine ⟨F1010_L1.mk (a + (N : Int)) true (N : Int), ?_, rfl⟩
      unfold F1010_s1
      simp only
      rw [hw, hw1, decide_eq_false (show ¬ (N : Int) < b - a + 1 by omega), cf]) (by omega)
    have e1' : iter (F1010_s1 c bad a b) big (F1010_L1.mk a true 0) = some z := by
      have h : (F1010_L1.mk (a + ((0 : Nat) : Int)) true ((0 : Nat) : Int)) = F1010_L1.mk a true 0 := by simp
      rw [← h]; exact e1
    rw [e1', ob]
    congr 1
    have hiff : z.strong = true ↔ StrongP c bad a b := e2.trans ⟨fun h s h3 h4 => by
      have := h (s - a).toNat (by omega)
      rw [show a + ((s - a).toNat : Int) = s by omega] at this
      simpa using this, fun h j hj => by
      have := h (a + (j : Int)) (by omega) (by omega)
      simp [this]⟩
    cases hz : z.strong with
    | true => exact (decide_eq_true (hiff.1 hz)).symm
    | false => exact (decide_eq_false fun h => by rw [hiff.2 h] at hz; cases hz).symm
theorem strong_cut {c : Cf} {bad : List Int} {a m b : Int} (h1 : a ≤ m + 1) (h2 : m ≤ b) : StrongP c bad a b ↔ StrongP c bad a m ∧ StrongP c bad (m + 1) b :=
  ⟨fun h => ⟨fun s h3 h4 => h s h3 (by omega), fun s h3 h4 => h s (by omega) h4⟩, fun ⟨h, h'⟩ s h3 h4 => by
    by_cases h5 : s ≤ m
    · exact h s h3 h5
    · exact h' s (by omega) h4⟩
theorem F1058_eq (n : Int) : F1058 n = some (decide (0 ≤ n ∧ n ≤ 4611686018427387904)) := by
  unfold F1058
  by_cases h : 0 ≤ n
  · rw [decide_eq_true (show n ≥ 0 from h), ct]; congr 1; exact decide_eq_decide.2 ⟨fun h2 => ⟨h, h2⟩, fun h2 => h2.2⟩
  · rw [decide_eq_false (show ¬ n ≥ 0 from h), cf, decide_eq_false fun h2 => h h2.1]
theorem FIxf_ok {l : List Int} (hl : l.length ≤ 1000) (h : ∀ x ∈ l, 0 ≤ x ∧ x ≤ 4611686018427387904) : F1042 l = some true := by
  have e := count_loop (step := FIxf_s1 l) (n := l.length) (fun k => FIxf_L1.mk (k : Int)) (.inl (FIxf_L1.mk (l.length : Int))) (fun k hk => by
    obtain ⟨y, hy, hm⟩ := get_of hk
    unfold FIxf_s1 F1057
    simp only
    rw [decide_eq_true (show (k : Int) < (l.length : Int) by omega), ct, ix_nat hy, ob, F1058_eq, ob, ob, decide_eq_true (h y hm), Bool.not_true, cf, wrap_succ (n := k) (by omega)]) (by
    unfold FIxf_s1
    simp only
    rw [decide_eq_false (show ¬ (l.length : Int) < (l.length : Int) by omega), cf]) (by omega)
  have e' : iter (FIxf_s1 l) big (FIxf_L1.mk 0) = _ := e
  unfold F1042 FCf FIxf
  rw [e', ob, sl, ob, ob]
  rfl
theorem band_mask {x : Int} (h0 : 0 ≤ x) (h1 : x ≤ 18446744073709551615) : bits .and .u64 x 4294967295 = x % 4294967296 := by
  obtain ⟨n, rfl⟩ : ∃ n : Nat, x = n := ⟨x.toNat, by omega⟩
  have e : bits .and .u64 (n : Int) 4294967295 = IntKind.u64.wrap ((BitVec.ofInt 64 (n : Int) &&& BitVec.ofInt 64 4294967295).toNat : Int) := rfl
  have e2 : (BitVec.ofInt 64 4294967295).toNat = 2 ^ 32 - 1 := by decide
  have e3 : (BitVec.ofInt 64 (n : Int)).toNat = n := by
    rw [BitVec.toNat_ofInt]; omega
  rw [e, BitVec.toNat_and, e2, e3, Nat.and_two_pow_sub_one_eq_mod, wrapU (by omega) (by omega)]
  omega
theorem F1059_small {x y : Int} (hx : 0 ≤ x) (hx1 : x ≤ 13194139533312) (hy : 0 ≤ y) (hy1 : y ≤ 1000) : F1059 x y = some (0, x * y) := by
  have e : ∀ z, IntKind.u64.wrap z = z % 18446744073709551616 := fun z => rfl
  have hp : ((2 : Int) ^ (min (Int.toNat 32) IntKind.u64.bits)) = 4294967296 := by decide
  have hd : ∀ z : Int, z.fdiv 4294967296 = z / 4294967296 := fun z => Int.fdiv_eq_ediv_of_nonneg z (by omega)
  have h0 : y / 4294967296 = 0 := by omega
  have h1 : y % 4294967296 = y := by omega
  unfold F1059
  rw [hp, hd, hd, hd, hd, hd, band_mask (x := y) hy (by omega), band_mask (x := x) hx (by omega), h0, h1]
  have a1 : 0 ≤ x / 4294967296 * y := Int.mul_nonneg (by omega) hy
  have a2 : x / 4294967296 * y ≤ 3072 * 1000 := Int.mul_le_mul (by omega) hy1 hy (by omega)
  have a3 : 0 ≤ x % 4294967296 * y := Int.mul_nonneg (by omega) hy
  have a4 : x % 4294967296 * y ≤ 4294967295 * 1000 := Int.mul_le_mul (by omega) hy1 hy (by omega)
  have a5 : 0 ≤ x * y := Int.mul_nonneg hx hy
  have a6 : x * y ≤ 13194139533312 * 1000 := Int.mul_le_mul hx1 hy1 hy (by omega)
  rw [Int.mul_zero, Int.mul_zero]
  generalize x / 4294967296 * y = q at a1 a2 ⊢
  generalize x % 4294967296 * y = p at a3 a4 ⊢
  generalize x * y = r at a5 a6 ⊢
  have ht : IntKind.u64.wrap (IntKind.u64.wrap q + IntKind.u64.wrap p / 4294967296) = q + p / 4294967296 := by simp only [e]; omega
  rw [ht, band_mask (by omega) (by omega)]
  refine congrArg some (Prod.ext ?_ ?_)
  · simp only [e]; omega
  · simp only [e]; omega
theorem F1026_eq {a b c d : Int} (ha : 0 ≤ a ∧ a ≤ 13194139533312) (hb : 0 ≤ b ∧ b ≤ 1000) (hc : 0 ≤ c ∧ c ≤ 13194139533312) (hd : 0 ≤ d ∧ d ≤ 1000) : F1026 a b c d = some (decide (a * b > c * d)) := by
  unfold F1026
  rw [FIxf_ok (by simp) (by simp; omega), ob, Bool.not_true, cf]
  unfold F1043
  rw [wrapU ha.1 (by omega), wrapU hb.1 (by omega), wrapU hc.1 (by omega), wrapU hd.1 (by omega), F1059_small ha.1 ha.2 hb.1 hb.2, ob, ob, F1059_small hc.1 hc.2 hd.1 hd.2, ob, ob]
  simp only
  rw [F151_two, ob]
  generalize a * b = x
  generalize c * d = y
  unfold cmpI
  by_cases h : x = y
  · subst h; simp
  · have hb : (x == y) = false := beq_eq_false_iff_ne.2 h
    by_cases h2 : x > y
    · simp [hb, h2, show ¬ x < y by omega]
    · simp [hb, h2, show x < y by omega]
theorem F1011_eq {c : Cf} {bad : List Int} (hb : bad.length ≤ 1000) (slot : Int) : F1011 c bad slot = some (decide (MayC c ∧ 0 < goodW c bad slot + badW c bad slot ∧ ¬ badW c bad slot * c.Den > (goodW c bad slot + badW c bad slot) * c.Num)) := by
  have hw := weigh_in c bad slot
  have hs := weigh_sum c bad slot
  have ht := wt_in c (cmP c slot)
  unfold F1011
  rw [F1007_eq hb, ob, F64_eq, ob]
  by_cases hm : MayC c
  · rw [decide_eq_true hm, ct]
    simp only
    rw [wrapI (by omega) (by omega)]
    by_cases h0 : 0 < goodW c bad slot + badW c bad slot
    · have hm' := hm
      obtain ⟨-, -, -, -, -, m1, m2, m3, m4⟩ := hm'
      rw [decide_eq_true (show goodW c bad slot + badW c bad slot > 0 from h0), ct, F1026_eq ⟨by omega, by omega⟩ ⟨by omega, by omega⟩ ⟨by omega, by omega⟩ ⟨by omega, by omega⟩, ob]
      by_cases h2 : badW c bad slot * c.Den > (goodW c bad slot + badW c bad slot) * c.Num
      · rw [decide_eq_true h2, decide_eq_false fun h => h.2.2 h2]; rfl
      · rw [decide_eq_false h2, decide_eq_true ⟨hm, h0, h2⟩]; rfl
    · rw [decide_eq_false (show ¬ goodW c bad slot + badW c bad slot > 0 from h0), cf, decide_eq_false fun h => h0 h.2.1]
  · rw [decide_eq_false hm, cf, decide_eq_false fun h => hm h.1]
theorem calm_strong {c : Cf} {bad : List Int} {slot : Int} (h : MayC c ∧ 0 < goodW c bad slot + badW c bad slot ∧ ¬ badW c bad slot * c.Den > (goodW c bad slot + badW c bad slot) * c.Num) (h2 : 2 * c.Num < c.Den) : strongS c bad slot = true := by
  obtain ⟨hm, h0, h1⟩ := h
  have hw := weigh_in c bad slot
  refine decide_eq_true ?_
  generalize goodW c bad slot = g at *
  generalize badW c bad slot = b at *
  refine Classical.byContradiction fun hn => ?_
  -- g ≤ b: then (g + b) * Num < b * Den
  obtain ⟨-, -, -, -, -, m1, m2, m3, m4⟩ := hm
  have k1 : (g + b) * c.Num ≤ 2 * b * c.Num := Int.mul_le_mul_of_nonneg_right (by omega) m1
  have k2 : b * (2 * c.Num) < b * c.Den := Int.mul_lt_mul_of_pos_left h2 (by omega)
  have k3 : 2 * b * c.Num = b * (2 * c.Num) := by rw [Int.mul_comm 2 b, Int.mul_assoc]
  omega
theorem F1006_eq : F1006 = some true := by kernel_rfl
open Classical in
theorem auStrong (c : Cf) (bad : List Int) (a b m : Int) : F1004 c bad a b m = some true := by
  unfold F1004
  rw [F1006_eq, ob, Bool.not_true, cf]
  by_cases h0 : (c.W.length : Int) > 40
  · rw [decide_eq_true h0, ct, ob, ct]
  · rw [decide_eq_false h0, cf]
    by_cases h1 : (bad.length : Int) > 10
    · rw [decide_eq_true h1, ct, ob, ct]
    · rw [decide_eq_false h1, cf]
      by_cases h2 : a < -5
      · rw [decide_eq_true h2, ct, ob, ct]
      · rw [decide_eq_false h2, cf]
        by_cases h3 : a > 2000000
        · rw [decide_eq_true h3, ct, ob, ct]
        · rw [decide_eq_false h3, cf]
          by_cases h4 : b < a
          · rw [decide_eq_true h4, ct, ob, ct]
          · rw [decide_eq_false h4, cf, show IntKind.i64.wrap (a + 20) = a + 20 from wrapI (by omega) (by omega)]
            by_cases h5 : b > a + 20
            · rw [decide_eq_true h5, ct, ob, ct]
            · rw [decide_eq_false h5, cf]
              by_cases h6 : m < a
              · rw [decide_eq_true h6, ct, ob, ct]
              · rw [decide_eq_false h6, cf, ob]
                by_cases h7 : m ≥ b
                · rw [decide_eq_true h7, ct]
                · have hc := strong_cut (c := c) (bad := bad) (a := a) (m := m) (b := b) (by omega) (by omega)
                  rw [decide_eq_false h7, cf, F1010_eq (by omega) (by omega) (by omega) (by omega), ob, F1010_eq (by omega) (by omega) (by omega) (by omega), ob, show IntKind.i64.wrap (m + 1) = m + 1 from wrapI (by omega) (by omega), F1010_eq (by omega) (by omega) (by omega) (by omega), ob]
                  have hd : decide (StrongP c bad a b) = (decide (StrongP c bad a m) && decide (StrongP c bad (m + 1) b)) := by
                    by_cases k1 : StrongP c bad a m <;> by_cases k2 : StrongP c bad (m + 1) b <;> simp [hc, k1, k2]
                  have hrest : ((F1011 c bad a).bind fun v7 => bif !v7 then some true else bif decide ((IntKind.i64.wrap (2 * c.Num)) ≥ c.Den) then some true else (F1010 c bad a a).bind fun v8 => some v8) = some true := by
                    rw [F1011_eq (by omega), ob]
                    by_cases h8 : MayC c ∧ 0 < goodW c bad a + badW c bad a ∧ ¬ badW c bad a * c.Den > (goodW c bad a + badW c bad a) * c.Num
                    · rw [decide_eq_true h8, Bool.not_true, cf]
                      have hm := h8.1
                      obtain ⟨-, -, -, -, -, m1, m2, m3, m4⟩ := hm
                      rw [wrapI (n := 2 * c.Num) (by omega) (by omega)]
                      by_cases h9 : 2 * c.Num ≥ c.Den
                      · rw [decide_eq_true h9, ct]
                      · rw [decide_eq_false h9, cf, F1010_eq (by omega) (by omega) (by omega) (by omega), ob, decide_eq_true]
                        intro s k1 k2
                        obtain rfl : s = a := by omega
                        exact calm_strong h8 (by omega)
                    · rw [decide_eq_false h8, Bool.not_false, ct]
                  rw [hd]
                  cases decide (StrongP c bad a m) with
                  | true =>
                    rw [ct, Bool.true_and, beq_self_eq_true, Bool.not_true, cf, ob, sl]
                    exact hrest
                  | false =>
                    rw [cf, Bool.false_and, beq_self_eq_true, Bool.not_true, cf, ob, sl]
                    exact hrest
end Go.Mg
