/- More of the program's structs as plain data: acts, offers, nodes, worlds. Views: clones, and what stands alone. Products of numbers. Parts of a committee. Nothing is held by all; nothing is seen. The example. Laws of committees in parts. Plain laws of committees in parts. The example of the laws of committees in parts. Laws of committees in parts: AuditWeighs, AuditStrong, AuditParts. Conditions: none. -/
import Derived.Test.YtpakechgakmonaaGreatL3
import Derived.Test.YtpakechgakmonaaGreatGH
import Derived.Test.YtpakechgakmonaaGreatV0
import Derived.Test.YtpakechgakmonaaGreatD1
import Derived.Test.YtpakechgakmonaaGreatD2
namespace Go.Mg
/-- What is sent. -/
structure Ac where
  Tick : Int
  To : Int
  Offer : Bool
  B : List Bk
  V : List Vt
def acP (a : Ac) : PV := .agg [.int .i64 a.Tick, .int .i64 a.To, .bool a.Offer, .slice 5 (a.B.map blkP), .slice 4 (a.V.map vtP)]
/-- What a proposer offers. -/
structure Of where
  Slot : Int
  From : Int
  B : Bk
  V : Vw
/-- A node. -/
structure Nd where
  No : Int
  Tick : Int
  V : Vw
  In : Vw
  O : List Of
  C : Cu
  Full : Bool
/-- A world. -/
structure Wd where
  C : Cf
  Bad : List Int
  Tick : Int
  N : List Nd
  O : List Of
/-- Who votes, and in which slot. -/
structure Du where
  frm : Int
  slot : Int
  deriving DecidableEq
open Go.Proofs
set_option maxRecDepth 100000 in
theorem c133V {α : Type} {f : α → PV} {l : List α} (hb : room 0 l.length 40 = true) : LC Tryz.prog 65 [.p (.slice 5 (l.map f))] [] (Is (.vec 5 0 (l.map f).length 0 (l.map f).length) [.vec 5 (l.map f)]) := by
  refine LC.start Tryz.func65 rfl rfl rfl ?_
  refine LW.seq ?_
  refine LW.region ?_
  refine LOps.st rfl rfl rfl (LOp.assign rfl rfl) ?_
  refine LOps.nil ?_
  refine thn_n ?_
  refine LW.seq ?_
  refine LW.seq ?_
  refine LW.region ?_
  refine LOps.st rfl rfl rfl (LOp.move rfl rfl) ?_
  refine LOps.cons rfl rfl rfl (LOp.eqNil rfl rfl rfl st27) ?_
  rintro _ _ ⟨rfl, b, rfl, hn⟩
  refine LOps.nil ?_
  refine thn_n ?_
  refine LW.cond rfl (fun g => ?_) (fun g => ?_)
  · have hl : l = [] := List.map_eq_nil_iff.1 (hn g)
    subst hl
    refine LW.seq ?_
    refine LW.region ?_
    refine LOps.st rfl rfl rfl (LOp.assign rfl rfl) ?_
    refine LOps.nil ?_
    refine thn_n ?_
    refine LW.ent (Ent.lazy (t := 2) (m := 5) rfl rfl rfl) ?_
    refine LW.ret ?_
    refine thn_r ?_
    exact fin_ret (.one (.tmp rfl)) ⟨rfl, rfl⟩
  · refine LW.skip ?_
    refine thn_n ?_
    refine LW.seq ?_
    refine LW.region ?_
    refine LOps.st rfl rfl rfl (LOp.buildSlice0 rfl st27) ?_
    refine LOps.st rfl rfl rfl (LOp.move rfl rfl) ?_
    refine LOps.st rfl rfl rfl (LOp.appendZX f l rfl rfl rfl rfl Src.p rfl st27 hb rfl) ?_
    refine LOps.st rfl rfl rfl (LOp.assign rfl rfl) ?_
    refine LOps.nil ?_
    refine thn_n ?_
    refine LW.ret ?_
    exact fin_ret (.one (.tmp rfl)) ⟨rfl, rfl⟩
set_option maxRecDepth 100000 in
theorem c134V {α : Type} {f : α → PV} {l : List α} (hb : room 0 l.length 32 = true) : LC Tryz.prog 67 [.p (.slice 4 (l.map f))] [] (Is (.vec 4 0 (l.map f).length 0 (l.map f).length) [.vec 4 (l.map f)]) := by
  refine LC.start Tryz.func67 rfl rfl rfl ?_
  refine LW.seq ?_
  refine LW.region ?_
  refine LOps.st rfl rfl rfl (LOp.assign rfl rfl) ?_
  refine LOps.nil ?_
  refine thn_n ?_
  refine LW.seq ?_
  refine LW.seq ?_
  refine LW.region ?_
  refine LOps.st rfl rfl rfl (LOp.move rfl rfl) ?_
  refine LOps.cons rfl rfl rfl (LOp.eqNil rfl rfl rfl st68) ?_
  rintro _ _ ⟨rfl, b, rfl, hn⟩
  refine LOps.nil ?_
  refine thn_n ?_
  refine LW.cond rfl (fun g => ?_) (fun g => ?_)
  · have hl : l = [] := List.map_eq_nil_iff.1 (hn g)
    subst hl
    refine LW.seq ?_
    refine LW.region ?_
    refine LOps.st rfl rfl rfl (LOp.assign rfl rfl) ?_
    refine LOps.nil ?_
    refine thn_n ?_
    refine LW.ent (Ent.lazy (t := 2) (m := 4) rfl rfl rfl) ?_
    refine LW.ret ?_
    refine thn_r ?_
    exact fin_ret (.one (.tmp rfl)) ⟨rfl, rfl⟩
  · refine LW.skip ?_
    refine thn_n ?_
    refine LW.seq ?_
    refine LW.region ?_
    refine LOps.st rfl rfl rfl (LOp.buildSlice0 rfl st68) ?_
    refine LOps.st rfl rfl rfl (LOp.move rfl rfl) ?_
    refine LOps.st rfl rfl rfl (LOp.appendZX f l rfl rfl rfl rfl Src.p rfl st68 hb rfl) ?_
    refine LOps.st rfl rfl rfl (LOp.assign rfl rfl) ?_
    refine LOps.nil ?_
    refine thn_n ?_
    refine LW.ret ?_
    exact fin_ret (.one (.tmp rfl)) ⟨rfl, rfl⟩
structure F170_L1 where
  t8 : Int
def F170_s1 (s : List Bk) (v : Bk) (x1 : F170_L1) : Option (F170_L1 ⊕ (F170_L1 ⊕ Int)) :=
  bif decide (x1.t8 < (s.length : Int)) then
    (ix s x1.t8).bind fun y1 =>
    bif ((v.Slot == y1.Slot) && ((v.From == y1.From) && ((v.Parent.1 == y1.Parent.1) && ((v.Parent.2 == y1.Parent.2) && ((v.Salt == y1.Salt) && true))))) then
      some (.inr (.inr x1.t8))
    else
      some (.inl (F170_L1.mk (IntKind.i64.wrap (x1.t8 + 1))))
  else
    some (.inr (.inl (F170_L1.mk x1.t8)))
def F170 (s : List Bk) (v : Bk) : Option Int :=
  (iter (F170_s1 s v) big (F170_L1.mk 0)).bind fun b_v1 => Sum.elim (fun _ =>
    some (-1)) some b_v1
set_option maxRecDepth 100000 in
theorem c170 {s : List Bk} {v : Bk} {r_ : Int} (hr : F170 s v = some r_) : LPure Tryz.prog 78 [.slice 5 (s.map blkP), blkP v] [.int .i64 r_] := by
  refine LPure.start Tryz.func78 rfl rfl rfl rfl ?_
  unfold F170 at hr
  refine LW.seq ?_
  refine LW.region ?_
  refine LOps.st rfl rfl rfl (LOp.box rfl rfl rfl rfl rfl) ?_
  refine LOps.st rfl rfl rfl (LOp.assign rfl rfl) ?_
  refine LOps.nil ?_
  refine thn_n ?_
  refine LW.seq ?_
  refine LW.seq ?_
  refine LW.region ?_
  refine LOps.st rfl rfl rfl (LOp.move rfl rfl) ?_
  refine LOps.st rfl rfl rfl (LOp.lenM rfl rfl (by kernel_rfl)) ?_
  refine LOps.st rfl rfl rfl (LOp.move rfl rfl) ?_
  refine LOps.nil ?_
  refine thn_n ?_
  obtain ⟨b_v1, hb_v1, ho_v1⟩ := bind_get hr
  clear hr
  refine LW.tailB (b := b_v1) (E := fun v1 => [(4, .p (.int .i64 0))]) (O := fun v1 => [.box [.p (.int .i64 v.Slot), .p (.int .i64 v.From), .p (.int .u64 v.Parent.1), .p (.int .u64 v.Parent.2), .p (.int .u64 v.Salt)]]) ?_ (fun v1 e_v1 env_v1 H_v1 hw_v1 => ?_)
  · refine LW.block ?_
    refine LW.iterB (E := fun x1 : F170_L1 => [(0, .p (.slice 5 (s.map blkP))), (3, .ptr 0 0), (4, .p (.int .i64 0)), (7, .p (.int .i64 (s.length : Int))), (8, .p (.int .i64 x1.t8))]) (O := fun x1 => [.box [.p (.int .i64 v.Slot), .p (.int .i64 v.From), .p (.int .u64 v.Parent.1), .p (.int .u64 v.Parent.2), .p (.int .u64 v.Salt)]]) hb_v1 (Weak.of 1 ⟨rfl, rfl, rfl, rfl, rfl, trivial⟩ rfl rfl rfl rfl) (fun x1 z_x1 hr hb_x1 => ?_)
    unfold F170_s1 at hr
    refine LW.seq ?_
    refine LW.region ?_
    refine LOps.st rfl rfl rfl (LOp.bin rfl rfl rfl rfl) ?_
    refine LOps.nil ?_
    refine thn_n ?_
    refine LW.seq ?_
    refine LW.cond rfl (fun (g1 : (decide (x1.t8 < (s.length : Int))) = true) => ?_) (fun (g1 : (decide (x1.t8 < (s.length : Int))) = false) => ?_)
    · -- g1 is True
      have hr := ite_t g1 hr
      refine LW.skip ?_
      refine thn_n ?_
      refine LW.seq ?_
      refine LW.block ?_
      refine LW.seq ?_
      refine LW.region ?_
      refine LOps.st rfl rfl rfl (LOp.move rfl rfl) ?_
      refine LOps.st rfl rfl rfl (LOp.assign rfl rfl) ?_
      refine LOps.nil ?_
      refine thn_n ?_
      refine LW.seq ?_
      refine LW.draw (by kernel_rfl) (by kernel_rfl) ?_
      refine LO.st rfl rfl rfl (LOp.load rfl rfl rfl vt42 rfl rfl) ?_
      refine LO.st rfl rfl rfl (LOp.move rfl rfl) ?_
      refine LO.st rfl rfl rfl (LOp.move rfl rfl) ?_
      obtain ⟨y1, h_y1, hr⟩ := bind_get hr
      refine LO.st rfl rfl rfl (LOp.indexAddrX rfl rfl rfl st27 h_y1 rfl) ?_
      refine LO.st rfl rfl rfl (LOp.loadC rfl rfl rfl vt42 rfl rfl) ?_
      refine LO.st rfl rfl rfl (LOp.eqlAgg rfl rfl rfl rfl rfl eqt42) ?_
      refine LO.nil ?_
      refine thn_n ?_
      refine LW.cond rfl (fun (g2 : ((v.Slot == y1.Slot) && ((v.From == y1.From) && ((v.Parent.1 == y1.Parent.1) && ((v.Parent.2 == y1.Parent.2) && ((v.Salt == y1.Salt) && true))))) = true) => ?_) (fun (g2 : ((v.Slot == y1.Slot) && ((v.From == y1.From) && ((v.Parent.1 == y1.Parent.1) && ((v.Parent.2 == y1.Parent.2) && ((v.Salt == y1.Salt) && true))))) = false) => ?_)
      · -- g2 is True
        have hr := ite_t g2 hr
        refine LW.seq ?_
        refine LW.region ?_
        refine LOps.st rfl rfl rfl (LOp.move rfl rfl) ?_
        refine LOps.st rfl rfl rfl (LOp.assign rfl rfl) ?_
        refine LOps.nil ?_
        refine thn_n ?_
        refine LW.ret ?_
        refine inBlk_r ?_
        refine thn_r ?_
        refine thn_r ?_
        refine inBlk_r ?_
        refine thn_r ?_
        refine thn_r ?_
        obtain rfl := Option.some.inj hr
        have hr := congrArg some (hb_x1 _ rfl)
        obtain rfl := Option.some.inj hr
        have hr := sum_r ho_v1
        obtain rfl := Option.some.inj hr
        refine finP_ret (.one (.tmp rfl)) ?_
        exact Conv.p
      · -- g2 is False
        have hr := ite_f g2 hr
        refine LW.skip ?_
        refine inBlk_n ?_
        refine thn_n ?_
        refine LW.region ?_
        refine LOps.st rfl rfl rfl (LOp.bin rfl rfl rfl rfl) ?_
        refine LOps.st rfl rfl rfl (LOp.move rfl rfl) ?_
        refine LOps.nil ?_
        refine thn_n ?_
        obtain rfl := Option.some.inj hr
        exact ⟨_, rfl, Weak.of 1 ⟨rfl, rfl, rfl, rfl, rfl, trivial⟩ rfl rfl rfl rfl⟩
    · -- g1 is False
      have hr := ite_f g1 hr
      refine LW.exit ?_
      refine thn_e ?_
      refine thn_e ?_
      refine inBlk_self ?_
      refine thn_n ?_
      obtain rfl := Option.some.inj hr
      have hr := congrArg some (hb_x1 _ rfl)
      obtain rfl := Option.some.inj hr
      exact ⟨_, rfl, Weak.of 1 ⟨rfl, trivial⟩ rfl rfl rfl rfl⟩
  · obtain rfl := e_v1
    have hr := sum_l ho_v1
    clear hb_v1
    refine thn_n ?_
    refine LW.weak hw_v1 ?_
    refine LW.seq ?_
    refine LW.region ?_
    refine LOps.st rfl rfl rfl (LOp.assign rfl rfl) ?_
    refine LOps.nil ?_
    refine thn_n ?_
    refine LW.ret ?_
    obtain rfl := Option.some.inj hr
    refine finP_ret (.one (.tmp rfl)) ?_
    exact Conv.p
structure F171_L1 where
  t8 : Int
def F171_s1 (s : List Vt) (v : Vt) (x1 : F171_L1) : Option (F171_L1 ⊕ (F171_L1 ⊕ Int)) :=
  bif decide (x1.t8 < (s.length : Int)) then
    (ix s x1.t8).bind fun y1 =>
    bif ((v.From == y1.From) && ((v.Slot == y1.Slot) && ((v.Head.1 == y1.Head.1) && ((v.Head.2 == y1.Head.2) && true)))) then
      some (.inr (.inr x1.t8))
    else
      some (.inl (F171_L1.mk (IntKind.i64.wrap (x1.t8 + 1))))
  else
    some (.inr (.inl (F171_L1.mk x1.t8)))
def F171 (s : List Vt) (v : Vt) : Option Int :=
  (iter (F171_s1 s v) big (F171_L1.mk 0)).bind fun b_v1 => Sum.elim (fun _ =>
    some (-1)) some b_v1
set_option maxRecDepth 100000 in
theorem c171 {s : List Vt} {v : Vt} {r_ : Int} (hr : F171 s v = some r_) : LPure Tryz.prog 79 [.slice 4 (s.map vtP), vtP v] [.int .i64 r_] := by
  refine LPure.start Tryz.func79 rfl rfl rfl rfl ?_
  unfold F171 at hr
  refine LW.seq ?_
  refine LW.region ?_
  refine LOps.st rfl rfl rfl (LOp.box rfl rfl rfl rfl rfl) ?_
  refine LOps.st rfl rfl rfl (LOp.assign rfl rfl) ?_
  refine LOps.nil ?_
  refine thn_n ?_
  refine LW.seq ?_
  refine LW.seq ?_
  refine LW.region ?_
  refine LOps.st rfl rfl rfl (LOp.move rfl rfl) ?_
  refine LOps.st rfl rfl rfl (LOp.lenM rfl rfl (by kernel_rfl)) ?_
  refine LOps.st rfl rfl rfl (LOp.move rfl rfl) ?_
  refine LOps.nil ?_
  refine thn_n ?_
  obtain ⟨b_v1, hb_v1, ho_v1⟩ := bind_get hr
  clear hr
  refine LW.tailB (b := b_v1) (E := fun v1 => [(4, .p (.int .i64 0))]) (O := fun v1 => [.box [.p (.int .i64 v.From), .p (.int .i64 v.Slot), .p (.int .u64 v.Head.1), .p (.int .u64 v.Head.2)]]) ?_ (fun v1 e_v1 env_v1 H_v1 hw_v1 => ?_)
  · refine LW.block ?_
    refine LW.iterB (E := fun x1 : F171_L1 => [(0, .p (.slice 4 (s.map vtP))), (3, .ptr 0 0), (4, .p (.int .i64 0)), (7, .p (.int .i64 (s.length : Int))), (8, .p (.int .i64 x1.t8))]) (O := fun x1 => [.box [.p (.int .i64 v.From), .p (.int .i64 v.Slot), .p (.int .u64 v.Head.1), .p (.int .u64 v.Head.2)]]) hb_v1 (Weak.of 1 ⟨rfl, rfl, rfl, rfl, rfl, trivial⟩ rfl rfl rfl rfl) (fun x1 z_x1 hr hb_x1 => ?_)
    unfold F171_s1 at hr
    refine LW.seq ?_
    refine LW.region ?_
    refine LOps.st rfl rfl rfl (LOp.bin rfl rfl rfl rfl) ?_
    refine LOps.nil ?_
    refine thn_n ?_
    refine LW.seq ?_
    refine LW.cond rfl (fun (g1 : (decide (x1.t8 < (s.length : Int))) = true) => ?_) (fun (g1 : (decide (x1.t8 < (s.length : Int))) = false) => ?_)
    · -- g1 is True
      have hr := ite_t g1 hr
      refine LW.skip ?_
      refine thn_n ?_
      refine LW.seq ?_
      refine LW.block ?_
      refine LW.seq ?_
      refine LW.region ?_
      refine LOps.st rfl rfl rfl (LOp.move rfl rfl) ?_
      refine LOps.st rfl rfl rfl (LOp.assign rfl rfl) ?_
      refine LOps.nil ?_
      refine thn_n ?_
      refine LW.seq ?_
      refine LW.draw (by kernel_rfl) (by kernel_rfl) ?_
      refine LO.st rfl rfl rfl (LOp.load rfl rfl rfl vt82 rfl rfl) ?_
      refine LO.st rfl rfl rfl (LOp.move rfl rfl) ?_
      refine LO.st rfl rfl rfl (LOp.move rfl rfl) ?_
      obtain ⟨y1, h_y1, hr⟩ := bind_get hr
      refine LO.st rfl rfl rfl (LOp.indexAddrX rfl rfl rfl st68 h_y1 rfl) ?_
      refine LO.st rfl rfl rfl (LOp.loadC rfl rfl rfl vt82 rfl rfl) ?_
      refine LO.st rfl rfl rfl (LOp.eqlAgg rfl rfl rfl rfl rfl eqt82) ?_
      refine LO.nil ?_
      refine thn_n ?_
      refine LW.cond rfl (fun (g2 : ((v.From == y1.From) && ((v.Slot == y1.Slot) && ((v.Head.1 == y1.Head.1) && ((v.Head.2 == y1.Head.2) && true)))) = true) => ?_) (fun (g2 : ((v.From == y1.From) && ((v.Slot == y1.Slot) && ((v.Head.1 == y1.Head.1) && ((v.Head.2 == y1.Head.2) && true)))) = false) => ?_)
      · -- g2 is True
        have hr := ite_t g2 hr
        refine LW.seq ?_
        refine LW.region ?_
        refine LOps.st rfl rfl rfl (LOp.move rfl rfl) ?_
        refine LOps.st rfl rfl rfl (LOp.assign rfl rfl) ?_
        refine LOps.nil ?_
        refine thn_n ?_
        refine LW.ret ?_
        refine inBlk_r ?_
        refine thn_r ?_
        refine thn_r ?_
        refine inBlk_r ?_
        refine thn_r ?_
        refine thn_r ?_
        obtain rfl := Option.some.inj hr
        have hr := congrArg some (hb_x1 _ rfl)
        obtain rfl := Option.some.inj hr
        have hr := sum_r ho_v1
        obtain rfl := Option.some.inj hr
        refine finP_ret (.one (.tmp rfl)) ?_
        exact Conv.p
      · -- g2 is False
        have hr := ite_f g2 hr
        refine LW.skip ?_
        refine inBlk_n ?_
        refine thn_n ?_
        refine LW.region ?_
        refine LOps.st rfl rfl rfl (LOp.bin rfl rfl rfl rfl) ?_
        refine LOps.st rfl rfl rfl (LOp.move rfl rfl) ?_
        refine LOps.nil ?_
        refine thn_n ?_
        obtain rfl := Option.some.inj hr
        exact ⟨_, rfl, Weak.of 1 ⟨rfl, rfl, rfl, rfl, rfl, trivial⟩ rfl rfl rfl rfl⟩
    · -- g1 is False
      have hr := ite_f g1 hr
      refine LW.exit ?_
      refine thn_e ?_
      refine thn_e ?_
      refine inBlk_self ?_
      refine thn_n ?_
      obtain rfl := Option.some.inj hr
      have hr := congrArg some (hb_x1 _ rfl)
      obtain rfl := Option.some.inj hr
      exact ⟨_, rfl, Weak.of 1 ⟨rfl, trivial⟩ rfl rfl rfl rfl⟩
  · obtain rfl := e_v1
    have hr := sum_l ho_v1
    clear hb_v1
    refine thn_n ?_
    refine LW.weak hw_v1 ?_
    refine LW.seq ?_
    refine LW.region ?_
    refine LOps.st rfl rfl rfl (LOp.assign rfl rfl) ?_
    refine LOps.nil ?_
    refine thn_n ?_
    refine LW.ret ?_
    obtain rfl := Option.some.inj hr
    refine finP_ret (.one (.tmp rfl)) ?_
    exact Conv.p
def F161 (s : List Bk) (v : Bk) : Option Bool :=
  (F170 s v).bind fun v1 =>
  some (decide (v1 ≥ 0))
set_option maxRecDepth 100000 in
theorem c161 {s : List Bk} {v : Bk} {r_ : Bool} (hr : F161 s v = some r_) : LPure Tryz.prog 66 [.slice 5 (s.map blkP), blkP v] [.bool r_] := by
  refine LPure.start Tryz.func66 rfl rfl rfl rfl ?_
  unfold F161 at hr
  refine LW.seq ?_
  refine LW.region ?_
  refine LOps.st rfl rfl rfl (LOp.box rfl rfl rfl rfl rfl) ?_
  refine LOps.st rfl rfl rfl (LOp.assign rfl rfl) ?_
  refine LOps.nil ?_
  refine thn_n ?_
  refine LW.seq ?_
  refine LW.region ?_
  refine LOps.st rfl rfl rfl (LOp.move rfl rfl) ?_
  refine LOps.st rfl rfl rfl (LOp.load rfl rfl rfl vt42 rfl rfl) ?_
  obtain ⟨v1, h_v1, hr⟩ := bind_get hr
  refine LOps.st rfl rfl rfl (LOp.call rfl rfl rfl (by kernel_rfl) (LC.pure (c170 h_v1) (.cons Conv.p (.cons Conv.p .nil)))) ?_
  refine LOps.st rfl rfl rfl (LOp.bin rfl rfl rfl rfl) ?_
  refine LOps.st rfl rfl rfl (LOp.assign rfl rfl) ?_
  refine LOps.nil ?_
  refine thn_n ?_
  refine LW.ret ?_
  obtain rfl := Option.some.inj hr
  refine finP_ret (.one (.tmp rfl)) ?_
  exact Conv.p
def F162 (s : List Vt) (v : Vt) : Option Bool :=
  (F171 s v).bind fun v1 =>
  some (decide (v1 ≥ 0))
set_option maxRecDepth 100000 in
theorem c162 {s : List Vt} {v : Vt} {r_ : Bool} (hr : F162 s v = some r_) : LPure Tryz.prog 68 [.slice 4 (s.map vtP), vtP v] [.bool r_] := by
  refine LPure.start Tryz.func68 rfl rfl rfl rfl ?_
  unfold F162 at hr
  refine LW.seq ?_
  refine LW.region ?_
  refine LOps.st rfl rfl rfl (LOp.box rfl rfl rfl rfl rfl) ?_
  refine LOps.st rfl rfl rfl (LOp.assign rfl rfl) ?_
  refine LOps.nil ?_
  refine thn_n ?_
  refine LW.seq ?_
  refine LW.region ?_
  refine LOps.st rfl rfl rfl (LOp.move rfl rfl) ?_
  refine LOps.st rfl rfl rfl (LOp.load rfl rfl rfl vt82 rfl rfl) ?_
  obtain ⟨v1, h_v1, hr⟩ := bind_get hr
  refine LOps.st rfl rfl rfl (LOp.call rfl rfl rfl (by kernel_rfl) (LC.pure (c171 h_v1) (.cons Conv.p (.cons Conv.p .nil)))) ?_
  refine LOps.st rfl rfl rfl (LOp.bin rfl rfl rfl rfl) ?_
  refine LOps.st rfl rfl rfl (LOp.assign rfl rfl) ?_
  refine LOps.nil ?_
  refine thn_n ?_
  refine LW.ret ?_
  obtain rfl := Option.some.inj hr
  refine finP_ret (.one (.tmp rfl)) ?_
  exact Conv.p
structure F139_L1 where
  t12 : Int
  out : List Bk
def F139_s1 (b : List Bk) (x1 : F139_L1) : Option (F139_L1 ⊕ F139_L1) :=
  bif decide (x1.t12 < (b.length : Int)) then
    (ix b x1.t12).bind fun y1 =>
    (F161 x1.out y1).bind fun v2 =>
    bif !v2 then
      bif room x1.out.length [y1].length 40 then
        some (.inl (F139_L1.mk (IntKind.i64.wrap (x1.t12 + 1)) (x1.out ++ [y1])))
      else none
    else
      some (.inl (F139_L1.mk (IntKind.i64.wrap (x1.t12 + 1)) x1.out))
  else
    some (.inr (F139_L1.mk x1.t12 x1.out))
def F139 (a : List Bk) (b : List Bk) : Option (List Bk) :=
  bif room 0 a.length 40 then
    (iter (F139_s1 b) big (F139_L1.mk 0 a)).bind fun v1 =>
    some v1.out
  else none
set_option maxRecDepth 100000 in
theorem c139 {a : List Bk} {b : List Bk} {r_ : (List Bk)} (hr : F139 a b = some r_) : LPure Tryz.prog 52 [.slice 5 (a.map blkP), .slice 5 (b.map blkP)] [.slice 5 (r_.map blkP)] := by
  refine LPure.start Tryz.func52 rfl rfl rfl rfl ?_
  unfold F139 at hr
  refine LW.seq ?_
  refine LW.region ?_
  refine LOps.st rfl rfl rfl (LOp.assign rfl rfl) ?_
  refine LOps.nil ?_
  refine thn_n ?_
  refine LW.seq ?_
  refine LW.region ?_
  refine LOps.st rfl rfl rfl (LOp.move rfl rfl) ?_
  obtain ⟨q1, hr⟩ := grd_get hr
  refine LOps.st rfl rfl rfl (LOp.callV (qs := [.p (.slice 5 (a.map blkP))]) rfl rfl rfl (by kernel_rfl) (c133V q1) (.consC Conv.p .nil) rfl rfl) ?_
  refine LOps.st rfl rfl rfl (LOp.assign rfl rfl) ?_
  refine LOps.nil ?_
  refine thn_n ?_
  refine LW.seq ?_
  refine LW.seq ?_
  refine LW.region ?_
  refine LOps.st rfl rfl rfl (LOp.move rfl rfl) ?_
  refine LOps.st rfl rfl rfl (LOp.lenM rfl rfl (by kernel_rfl)) ?_
  refine LOps.st rfl rfl rfl (LOp.move rfl rfl) ?_
  refine LOps.nil ?_
  refine thn_n ?_
  obtain ⟨v1, hb_v1, ho_v1⟩ := bind_get hr
  clear hr
  refine LW.tail (E := [(4, .zs), (5, .vec 5 0 (v1.out.map blkP).length 0 (v1.out.map blkP).length)]) (O := [.vec 5 (v1.out.map blkP)]) ?_ (fun env_v1 H_v1 hw_v1 => ?_)
  · refine LW.block ?_
    refine LW.iterB (E := fun x1 : F139_L1 => [(4, .zs), (5, .vec 5 0 (x1.out.map blkP).length 0 (x1.out.map blkP).length), (10, .p (.slice 5 (b.map blkP))), (11, .p (.int .i64 (b.length : Int))), (12, .p (.int .i64 x1.t12))]) (O := fun x1 => [.vec 5 (x1.out.map blkP)]) hb_v1 (Weak.of 1 ⟨rfl, rfl, rfl, rfl, rfl, trivial⟩ rfl rfl rfl rfl) (fun x1 z_x1 hr hb_x1 => ?_)
    unfold F139_s1 at hr
    refine LW.seq ?_
    refine LW.region ?_
    refine LOps.st rfl rfl rfl (LOp.bin rfl rfl rfl rfl) ?_
    refine LOps.nil ?_
    refine thn_n ?_
    refine LW.seq ?_
    refine LW.cond rfl (fun (g1 : (decide (x1.t12 < (b.length : Int))) = true) => ?_) (fun (g1 : (decide (x1.t12 < (b.length : Int))) = false) => ?_)
    · -- g1 is True
      have hr := ite_t g1 hr
      refine LW.skip ?_
      refine thn_n ?_
      refine LW.seq ?_
      refine LW.block ?_
      refine LW.seq ?_
      refine LW.region ?_
      obtain ⟨y1, h_y1, hr⟩ := bind_get hr
      refine LOps.st rfl rfl rfl (LOp.indexAddrX rfl rfl rfl st27 h_y1 rfl) ?_
      refine LOps.st rfl rfl rfl (LOp.loadC rfl rfl rfl vt42 rfl rfl) ?_
      refine LOps.st rfl rfl rfl (LOp.alloc rfl zt42 rfl rfl) ?_
      refine LOps.st rfl rfl rfl (LOp.store rfl rfl rfl rfl vt42 rfl rfl rfl rfl) ?_
      refine LOps.nil ?_
      refine thn_n ?_
      refine LW.seq ?_
      refine LW.region ?_
      refine LOps.st rfl rfl rfl (LOp.move rfl rfl) ?_
      refine LOps.st rfl rfl rfl (LOp.load rfl rfl rfl vt42 rfl rfl) ?_
      obtain ⟨v2, h_v2, hr⟩ := bind_get hr
      refine LOps.st rfl rfl rfl (LOp.call rfl rfl rfl (by kernel_rfl) (LC.lend (c161 h_v2) (.cons (Conv.vecAll rfl rfl rfl) (.cons Conv.p .nil)) rfl)) ?_
      refine LOps.st rfl rfl rfl (LOp.not rfl rfl) ?_
      refine LOps.nil ?_
      refine thn_n ?_
      refine LW.cond rfl (fun (g2 : (!v2) = true) => ?_) (fun (g2 : (!v2) = false) => ?_)
      · -- g2 is True
        have hr := ite_t g2 hr
        refine LW.region ?_
        refine LOps.st rfl rfl rfl (LOp.move rfl rfl) ?_
        refine LOps.st rfl rfl rfl (LOp.load rfl rfl rfl vt42 rfl rfl) ?_
        refine LOps.st rfl rfl rfl (LOp.buildSlice rfl st27 rfl rfl rfl rfl rfl) ?_
        obtain ⟨q2, hr⟩ := grd_get hr
        refine LOps.st rfl rfl rfl (LOp.appendX blkP x1.out [y1] rfl rfl rfl rfl Src.p rfl st27 q2 rfl) ?_
        refine LOps.st rfl rfl rfl (LOp.assign rfl rfl) ?_
        refine LOps.nil ?_
        refine inBlk_n ?_
        refine thn_n ?_
        refine LW.region ?_
        refine LOps.st rfl rfl rfl (LOp.bin rfl rfl rfl rfl) ?_
        refine LOps.st rfl rfl rfl (LOp.move rfl rfl) ?_
        refine LOps.nil ?_
        refine thn_n ?_
        obtain rfl := Option.some.inj hr
        exact ⟨_, rfl, Weak.of 1 ⟨rfl, rfl, rfl, rfl, rfl, trivial⟩ rfl rfl rfl rfl⟩
      · -- g2 is False
        have hr := ite_f g2 hr
        refine LW.skip ?_
        refine inBlk_n ?_
        refine thn_n ?_
        refine LW.region ?_
        refine LOps.st rfl rfl rfl (LOp.bin rfl rfl rfl rfl) ?_
        refine LOps.st rfl rfl rfl (LOp.move rfl rfl) ?_
        refine LOps.nil ?_
        refine thn_n ?_
        obtain rfl := Option.some.inj hr
        exact ⟨_, rfl, Weak.of 1 ⟨rfl, rfl, rfl, rfl, rfl, trivial⟩ rfl rfl rfl rfl⟩
    · -- g1 is False
      have hr := ite_f g1 hr
      refine LW.exit ?_
      refine thn_e ?_
      refine thn_e ?_
      refine inBlk_self ?_
      refine thn_n ?_
      obtain rfl := Option.some.inj hr
      have hr := congrArg some (hb_x1 _ rfl)
      obtain rfl := Option.some.inj hr
      exact Weak.of 1 ⟨rfl, rfl, trivial⟩ rfl rfl rfl rfl
  · have hr := ho_v1
    clear hb_v1
    refine thn_n ?_
    refine LW.weak hw_v1 ?_
    refine LW.seq ?_
    refine LW.region ?_
    refine LOps.st rfl rfl rfl (LOp.move rfl rfl) ?_
    refine LOps.st rfl rfl rfl (LOp.assign rfl rfl) ?_
    refine LOps.nil ?_
    refine thn_n ?_
    refine LW.ret ?_
    obtain rfl := Option.some.inj hr
    refine finP_ret (.one (.tmp rfl)) ?_
    exact (Conv.vecAll rfl rfl rfl)
structure F140_L1 where
  t12 : Int
  out : List Vt
def F140_s1 (b : List Vt) (x1 : F140_L1) : Option (F140_L1 ⊕ F140_L1) :=
  bif decide (x1.t12 < (b.length : Int)) then
    (ix b x1.t12).bind fun y1 =>
    (F162 x1.out y1).bind fun v2 =>
    bif !v2 then
      bif room x1.out.length [y1].length 32 then
        some (.inl (F140_L1.mk (IntKind.i64.wrap (x1.t12 + 1)) (x1.out ++ [y1])))
      else none
    else
      some (.inl (F140_L1.mk (IntKind.i64.wrap (x1.t12 + 1)) x1.out))
  else
    some (.inr (F140_L1.mk x1.t12 x1.out))
def F140 (a : List Vt) (b : List Vt) : Option (List Vt) :=
  bif room 0 a.length 32 then
    (iter (F140_s1 b) big (F140_L1.mk 0 a)).bind fun v1 =>
    some v1.out
  else none
set_option maxRecDepth 100000 in
theorem c140 {a : List Vt} {b : List Vt} {r_ : (List Vt)} (hr : F140 a b = some r_) : LPure Tryz.prog 53 [.slice 4 (a.map vtP), .slice 4 (b.map vtP)] [.slice 4 (r_.map vtP)] := by
  refine LPure.start Tryz.func53 rfl rfl rfl rfl ?_
  unfold F140 at hr
  refine LW.seq ?_
  refine LW.region ?_
  refine LOps.st rfl rfl rfl (LOp.assign rfl rfl) ?_
  refine LOps.nil ?_
  refine thn_n ?_
  refine LW.seq ?_
  refine LW.region ?_
  refine LOps.st rfl rfl rfl (LOp.move rfl rfl) ?_
  obtain ⟨q1, hr⟩ := grd_get hr
  refine LOps.st rfl rfl rfl (LOp.callV (qs := [.p (.slice 4 (a.map vtP))]) rfl rfl rfl (by kernel_rfl) (c134V q1) (.consC Conv.p .nil) rfl rfl) ?_
  refine LOps.st rfl rfl rfl (LOp.assign rfl rfl) ?_
  refine LOps.nil ?_
  refine thn_n ?_
  refine LW.seq ?_
  refine LW.seq ?_
  refine LW.region ?_
  refine LOps.st rfl rfl rfl (LOp.move rfl rfl) ?_
  refine LOps.st rfl rfl rfl (LOp.lenM rfl rfl (by kernel_rfl)) ?_
  refine LOps.st rfl rfl rfl (LOp.move rfl rfl) ?_
  refine LOps.nil ?_
  refine thn_n ?_
  obtain ⟨v1, hb_v1, ho_v1⟩ := bind_get hr
  clear hr
  refine LW.tail (E := [(4, .zs), (5, .vec 4 0 (v1.out.map vtP).length 0 (v1.out.map vtP).length)]) (O := [.vec 4 (v1.out.map vtP)]) ?_ (fun env_v1 H_v1 hw_v1 => ?_)
  · refine LW.block ?_
    refine LW.iterB (E := fun x1 : F140_L1 => [(4, .zs), (5, .vec 4 0 (x1.out.map vtP).length 0 (x1.out.map vtP).length), (10, .p (.slice 4 (b.map vtP))), (11, .p (.int .i64 (b.length : Int))), (12, .p (.int .i64 x1.t12))]) (O := fun x1 => [.vec 4 (x1.out.map vtP)]) hb_v1 (Weak.of 1 ⟨rfl, rfl, rfl, rfl, rfl, trivial⟩ rfl rfl rfl rfl) (fun x1 z_x1 hr hb_x1 => ?_)
    unfold F140_s1 at hr
    refine LW.seq ?_
    refine LW.region ?_
    refine LOps.st rfl rfl rfl (LOp.bin rfl rfl rfl rfl) ?_
    refine LOps.nil ?_
    refine thn_n ?_
    refine LW.seq ?_
    refine LW.cond rfl (fun (g1 : (decide (x1.t12 < (b.length : Int))) = true) => ?_) (fun (g1 : (decide (x1.t12 < (b.length : Int))) = false) => ?_)
    · -- g1 is True
      have hr := ite_t g1 hr
      refine LW.skip ?_
      refine thn_n ?_
      refine LW.seq ?_
      refine LW.block ?_
      refine LW.seq ?_
      refine LW.region ?_
      obtain ⟨y1, h_y1, hr⟩ := bind_get hr
      refine LOps.st rfl rfl rfl (LOp.indexAddrX rfl rfl rfl st68 h_y1 rfl) ?_
      refine LOps.st rfl rfl rfl (LOp.loadC rfl rfl rfl vt82 rfl rfl) ?_
      refine LOps.st rfl rfl rfl (LOp.alloc rfl zt82 rfl rfl) ?_
      refine LOps.st rfl rfl rfl (LOp.store rfl rfl rfl rfl vt82 rfl rfl rfl rfl) ?_
      refine LOps.nil ?_
      refine thn_n ?_
      refine LW.seq ?_
      refine LW.region ?_
      refine LOps.st rfl rfl rfl (LOp.move rfl rfl) ?_
      refine LOps.st rfl rfl rfl (LOp.load rfl rfl rfl vt82 rfl rfl) ?_
      obtain ⟨v2, h_v2, hr⟩ := bind_get hr
      refine LOps.st rfl rfl rfl (LOp.call rfl rfl rfl (by kernel_rfl) (LC.lend (c162 h_v2) (.cons (Conv.vecAll rfl rfl rfl) (.cons Conv.p .nil)) rfl)) ?_
      refine LOps.st rfl rfl rfl (LOp.not rfl rfl) ?_
      refine LOps.nil ?_
      refine thn_n ?_
      refine LW.cond rfl (fun (g2 : (!v2) = true) => ?_) (fun (g2 : (!v2) = false) => ?_)
      · -- g2 is True
        have hr := ite_t g2 hr
        refine LW.region ?_
        refine LOps.st rfl rfl rfl (LOp.move rfl rfl) ?_
        refine LOps.st rfl rfl rfl (LOp.load rfl rfl rfl vt82 rfl rfl) ?_
        refine LOps.st rfl rfl rfl (LOp.buildSlice rfl st68 rfl rfl rfl rfl rfl) ?_
        obtain ⟨q2, hr⟩ := grd_get hr
        refine LOps.st rfl rfl rfl (LOp.appendX vtP x1.out [y1] rfl rfl rfl rfl Src.p rfl st68 q2 rfl) ?_
        refine LOps.st rfl rfl rfl (LOp.assign rfl rfl) ?_
        refine LOps.nil ?_
        refine inBlk_n ?_
        refine thn_n ?_
        refine LW.region ?_
        refine LOps.st rfl rfl rfl (LOp.bin rfl rfl rfl rfl) ?_
        refine LOps.st rfl rfl rfl (LOp.move rfl rfl) ?_
        refine LOps.nil ?_
        refine thn_n ?_
        obtain rfl := Option.some.inj hr
        exact ⟨_, rfl, Weak.of 1 ⟨rfl, rfl, rfl, rfl, rfl, trivial⟩ rfl rfl rfl rfl⟩
      · -- g2 is False
        have hr := ite_f g2 hr
        refine LW.skip ?_
        refine inBlk_n ?_
        refine thn_n ?_
        refine LW.region ?_
        refine LOps.st rfl rfl rfl (LOp.bin rfl rfl rfl rfl) ?_
        refine LOps.st rfl rfl rfl (LOp.move rfl rfl) ?_
        refine LOps.nil ?_
        refine thn_n ?_
        obtain rfl := Option.some.inj hr
        exact ⟨_, rfl, Weak.of 1 ⟨rfl, rfl, rfl, rfl, rfl, trivial⟩ rfl rfl rfl rfl⟩
    · -- g1 is False
      have hr := ite_f g1 hr
      refine LW.exit ?_
      refine thn_e ?_
      refine thn_e ?_
      refine inBlk_self ?_
      refine thn_n ?_
      obtain rfl := Option.some.inj hr
      have hr := congrArg some (hb_x1 _ rfl)
      obtain rfl := Option.some.inj hr
      exact Weak.of 1 ⟨rfl, rfl, trivial⟩ rfl rfl rfl rfl
  · have hr := ho_v1
    clear hb_v1
    refine thn_n ?_
    refine LW.weak hw_v1 ?_
    refine LW.seq ?_
    refine LW.region ?_
    refine LOps.st rfl rfl rfl (LOp.move rfl rfl) ?_
    refine LOps.st rfl rfl rfl (LOp.assign rfl rfl) ?_
    refine LOps.nil ?_
    refine thn_n ?_
    refine LW.ret ?_
    obtain rfl := Option.some.inj hr
    refine finP_ret (.one (.tmp rfl)) ?_
    exact (Conv.vecAll rfl rfl rfl)
def F91 (a : Vw) (b : Vw) : Option Vw :=
  (F139 a.B b.B).bind fun v1 =>
  (F140 a.V b.V).bind fun v2 =>
  some (Vw.mk v1 v2)
set_option maxRecDepth 100000 in
theorem c91 {a : Vw} {b : Vw} {r_ : Vw} (hr : F91 a b = some r_) : LPure Tryz.prog 32 [vwP a, vwP b] [vwP r_] := by
  refine LPure.start Tryz.func32 rfl rfl rfl rfl ?_
  unfold F91 at hr
  refine LW.seq ?_
  refine LW.region ?_
  refine LOps.st rfl rfl rfl (LOp.box rfl rfl rfl rfl rfl) ?_
  refine LOps.st rfl rfl rfl (LOp.box rfl rfl rfl rfl rfl) ?_
  refine LOps.st rfl rfl rfl (LOp.alloc rfl zt75 rfl rfl) ?_
  refine LOps.nil ?_
  refine thn_n ?_
  refine LW.seq ?_
  refine LW.drawLast (m := 11) (by kernel_rfl) (by kernel_rfl) (by kernel_rfl) ?_
  refine LO.st rfl rfl rfl (LOp.fieldAddr rfl rfl ft75_0) ?_
  refine LO.st rfl rfl rfl (LOp.load rfl rfl rfl vt27 rfl rfl) ?_
  refine LO.st rfl rfl rfl (LOp.fieldAddr rfl rfl ft75_0) ?_
  refine LO.st rfl rfl rfl (LOp.load rfl rfl rfl vt27 rfl rfl) ?_
  obtain ⟨v1, h_v1, hr⟩ := bind_get hr
  refine LO.st rfl rfl rfl (LOp.call rfl rfl rfl (by kernel_rfl) (LC.pure (c139 h_v1) (.cons Conv.p (.cons Conv.p .nil)))) ?_
  refine LO.st rfl rfl rfl (LOp.fieldAddr rfl rfl ft75_1) ?_
  refine LO.st rfl rfl rfl (LOp.load rfl rfl rfl vt68 rfl rfl) ?_
  refine LO.st rfl rfl rfl (LOp.fieldAddr rfl rfl ft75_1) ?_
  refine LO.st rfl rfl rfl (LOp.load rfl rfl rfl vt68 rfl rfl) ?_
  obtain ⟨v2, h_v2, hr⟩ := bind_get hr
  refine LO.st rfl rfl rfl (LOp.call rfl rfl rfl (by kernel_rfl) (LC.pure (c140 h_v2) (.cons Conv.p (.cons Conv.p .nil)))) ?_
  refine LO.st rfl rfl rfl (LOp.build rfl bt75 rfl rfl rfl) ?_
  refine LO.nil ?_
  refine LOps.st rfl rfl rfl (LOp.store rfl rfl rfl rfl vt75 rfl rfl rfl rfl) ?_
  refine LOps.nil ?_
  refine thn_n ?_
  refine LW.ret ?_
  obtain rfl := Option.some.inj hr
  refine finP_ret (.one (.cellAgg rfl rfl (by kernel_rfl) rfl)) ?_
  exact Conv.p
open Go.Proofs
def F1059 (x : Int) (y : Int) : Option (Int × Int) :=
  some (IntKind.u64.wrap ((IntKind.u64.wrap ((IntKind.u64.wrap ((x.fdiv (2 ^ (min (Int.toNat 32) IntKind.u64.bits))) * (y.fdiv (2 ^ (min (Int.toNat 32) IntKind.u64.bits))))) + ((IntKind.u64.wrap ((IntKind.u64.wrap ((x.fdiv (2 ^ (min (Int.toNat 32) IntKind.u64.bits))) * (bits .and .u64 y 4294967295))) + ((IntKind.u64.wrap ((bits .and .u64 x 4294967295) * (bits .and .u64 y 4294967295))).fdiv (2 ^ (min (Int.toNat 32) IntKind.u64.bits))))).fdiv (2 ^ (min (Int.toNat 32) IntKind.u64.bits))))) + ((IntKind.u64.wrap ((bits .and .u64 (IntKind.u64.wrap ((IntKind.u64.wrap ((x.fdiv (2 ^ (min (Int.toNat 32) IntKind.u64.bits))) * (bits .and .u64 y 4294967295))) + ((IntKind.u64.wrap ((bits .and .u64 x 4294967295) * (bits .and .u64 y 4294967295))).fdiv (2 ^ (min (Int.toNat 32) IntKind.u64.bits))))) 4294967295) + (IntKind.u64.wrap ((bits .and .u64 x 4294967295) * (y.fdiv (2 ^ (min (Int.toNat 32) IntKind.u64.bits))))))).fdiv (2 ^ (min (Int.toNat 32) IntKind.u64.bits)))), IntKind.u64.wrap (x * y))
set_option maxRecDepth 100000 in
theorem c1059 {x : Int} {y : Int} {r_ : Int × Int} (hr : F1059 x y = some r_) : LPure Tryz.prog 59 [.int .u64 x, .int .u64 y] [.int .u64 r_.1, .int .u64 r_.2] := by
  refine LPure.start Tryz.func59 rfl rfl rfl rfl ?_
  unfold F1059 at hr
  refine LW.seq ?_
  refine LW.region ?_
  refine LOps.st rfl rfl rfl (LOp.assign rfl rfl) ?_
  refine LOps.st rfl rfl rfl (LOp.assign rfl rfl) ?_
  refine LOps.nil ?_
  refine thn_n ?_
  refine LW.seq ?_
  refine LW.region ?_
  refine LOps.st rfl rfl rfl (LOp.move rfl rfl) ?_
  refine LOps.st rfl rfl rfl (LOp.bin rfl rfl rfl rfl) ?_
  refine LOps.st rfl rfl rfl (LOp.assign rfl rfl) ?_
  refine LOps.nil ?_
  refine thn_n ?_
  refine LW.seq ?_
  refine LW.region ?_
  refine LOps.st rfl rfl rfl (LOp.move rfl rfl) ?_
  refine LOps.st rfl rfl rfl (LOp.shr rfl rfl rfl (by decide)) ?_
  refine LOps.st rfl rfl rfl (LOp.assign rfl rfl) ?_
  refine LOps.nil ?_
  refine thn_n ?_
  refine LW.seq ?_
  refine LW.region ?_
  refine LOps.st rfl rfl rfl (LOp.move rfl rfl) ?_
  refine LOps.st rfl rfl rfl (LOp.bin rfl rfl rfl rfl) ?_
  refine LOps.st rfl rfl rfl (LOp.assign rfl rfl) ?_
  refine LOps.nil ?_
  refine thn_n ?_
  refine LW.seq ?_
  refine LW.region ?_
  refine LOps.st rfl rfl rfl (LOp.move rfl rfl) ?_
  refine LOps.st rfl rfl rfl (LOp.shr rfl rfl rfl (by decide)) ?_
  refine LOps.st rfl rfl rfl (LOp.assign rfl rfl) ?_
  refine LOps.nil ?_
  refine thn_n ?_
  refine LW.seq ?_
  refine LW.region ?_
  refine LOps.st rfl rfl rfl (LOp.move rfl rfl) ?_
  refine LOps.st rfl rfl rfl (LOp.move rfl rfl) ?_
  refine LOps.st rfl rfl rfl (LOp.bin rfl rfl rfl rfl) ?_
  refine LOps.st rfl rfl rfl (LOp.assign rfl rfl) ?_
  refine LOps.nil ?_
  refine thn_n ?_
  refine LW.seq ?_
  refine LW.region ?_
  refine LOps.st rfl rfl rfl (LOp.move rfl rfl) ?_
  refine LOps.st rfl rfl rfl (LOp.move rfl rfl) ?_
  refine LOps.st rfl rfl rfl (LOp.bin rfl rfl rfl rfl) ?_
  refine LOps.st rfl rfl rfl (LOp.move rfl rfl) ?_
  refine LOps.st rfl rfl rfl (LOp.shr rfl rfl rfl (by decide)) ?_
  refine LOps.st rfl rfl rfl (LOp.bin rfl rfl rfl rfl) ?_
  refine LOps.st rfl rfl rfl (LOp.assign rfl rfl) ?_
  refine LOps.nil ?_
  refine thn_n ?_
  refine LW.seq ?_
  refine LW.region ?_
  refine LOps.st rfl rfl rfl (LOp.move rfl rfl) ?_
  refine LOps.st rfl rfl rfl (LOp.bin rfl rfl rfl rfl) ?_
  refine LOps.st rfl rfl rfl (LOp.assign rfl rfl) ?_
  refine LOps.nil ?_
  refine thn_n ?_
  refine LW.seq ?_
  refine LW.region ?_
  refine LOps.st rfl rfl rfl (LOp.move rfl rfl) ?_
  refine LOps.st rfl rfl rfl (LOp.shr rfl rfl rfl (by decide)) ?_
  refine LOps.st rfl rfl rfl (LOp.assign rfl rfl) ?_
  refine LOps.nil ?_
  refine thn_n ?_
  refine LW.seq ?_
  refine LW.region ?_
  refine LOps.st rfl rfl rfl (LOp.move rfl rfl) ?_
  refine LOps.st rfl rfl rfl (LOp.move rfl rfl) ?_
  refine LOps.st rfl rfl rfl (LOp.move rfl rfl) ?_
  refine LOps.st rfl rfl rfl (LOp.bin rfl rfl rfl rfl) ?_
  refine LOps.st rfl rfl rfl (LOp.bin rfl rfl rfl rfl) ?_
  refine LOps.st rfl rfl rfl (LOp.assign rfl rfl) ?_
  refine LOps.nil ?_
  refine thn_n ?_
  refine LW.seq ?_
  refine LW.region ?_
  refine LOps.st rfl rfl rfl (LOp.move rfl rfl) ?_
  refine LOps.st rfl rfl rfl (LOp.move rfl rfl) ?_
  refine LOps.st rfl rfl rfl (LOp.bin rfl rfl rfl rfl) ?_
  refine LOps.st rfl rfl rfl (LOp.move rfl rfl) ?_
  refine LOps.st rfl rfl rfl (LOp.bin rfl rfl rfl rfl) ?_
  refine LOps.st rfl rfl rfl (LOp.move rfl rfl) ?_
  refine LOps.st rfl rfl rfl (LOp.shr rfl rfl rfl (by decide)) ?_
  refine LOps.st rfl rfl rfl (LOp.bin rfl rfl rfl rfl) ?_
  refine LOps.st rfl rfl rfl (LOp.assign rfl rfl) ?_
  refine LOps.nil ?_
  refine thn_n ?_
  refine LW.seq ?_
  refine LW.region ?_
  refine LOps.st rfl rfl rfl (LOp.move rfl rfl) ?_
  refine LOps.st rfl rfl rfl (LOp.move rfl rfl) ?_
  refine LOps.st rfl rfl rfl (LOp.bin rfl rfl rfl rfl) ?_
  refine LOps.st rfl rfl rfl (LOp.assign rfl rfl) ?_
  refine LOps.nil ?_
  refine thn_n ?_
  refine LW.ret ?_
  obtain rfl := Option.some.inj hr
  refine finP_ret (.two (.tmp rfl) (.tmp rfl)) ?_
  exact ⟨_, rfl, (.cons Conv.p (.cons Conv.p .nil))⟩
def F1043 (a : Int) (b : Int) : Option ID :=
  (F1059 (IntKind.u64.wrap (a)) (IntKind.u64.wrap (b))).bind fun v1 =>
  some v1
set_option maxRecDepth 100000 in
theorem c1043 {a : Int} {b : Int} {r_ : ID} (hr : F1043 a b = some r_) : LPure Tryz.prog 43 [.int .i64 a, .int .i64 b] [idP r_] := by
  refine LPure.start Tryz.func43 rfl rfl rfl rfl ?_
  unfold F1043 at hr
  refine LW.seq ?_
  refine LW.region ?_
  refine LOps.st rfl rfl rfl (LOp.alloc rfl zt1108 rfl rfl) ?_
  refine LOps.nil ?_
  refine thn_n ?_
  refine LW.seq ?_
  refine LW.region ?_
  refine LOps.st rfl rfl rfl (LOp.move rfl rfl) ?_
  refine LOps.st rfl rfl rfl (LOp.convert (k' := .u64) rfl rfl (by kernel_rfl)) ?_
  refine LOps.st rfl rfl rfl (LOp.move rfl rfl) ?_
  refine LOps.st rfl rfl rfl (LOp.convert (k' := .u64) rfl rfl (by kernel_rfl)) ?_
  obtain ⟨v1, h_v1, hr⟩ := bind_get hr
  refine LOps.st rfl rfl rfl (LOp.call rfl rfl rfl (by kernel_rfl) (LC.pure (c1059 h_v1) (.cons Conv.p (.cons Conv.p .nil)))) ?_
  refine LOps.st rfl rfl rfl (LOp.move rfl rfl) ?_
  refine LOps.st rfl rfl rfl (LOp.extract rfl rfl rfl) ?_
  refine LOps.st rfl rfl rfl (LOp.extract rfl rfl rfl) ?_
  refine LOps.st rfl rfl rfl (LOp.assign rfl rfl) ?_
  refine LOps.st rfl rfl rfl (LOp.assign rfl rfl) ?_
  refine LOps.nil ?_
  refine thn_n ?_
  refine LW.seq ?_
  refine LW.region ?_
  refine LOps.st rfl rfl rfl (LOp.move rfl rfl) ?_
  refine LOps.st rfl rfl rfl (LOp.move rfl rfl) ?_
  refine LOps.st rfl rfl rfl (LOp.build rfl bt1108 rfl rfl rfl) ?_
  refine LOps.st rfl rfl rfl (LOp.store rfl rfl rfl rfl vt1108 rfl rfl rfl rfl) ?_
  refine LOps.nil ?_
  refine thn_n ?_
  refine LW.ret ?_
  obtain rfl := Option.some.inj hr
  refine finP_ret (.one (.cellAgg rfl rfl (by kernel_rfl) rfl)) ?_
  exact Conv.p
def F1058 (n : Int) : Option Bool :=
  bif decide (n ≥ 0) then
    some (decide (n ≤ 4611686018427387904))
  else
    some false
set_option maxRecDepth 100000 in
theorem c1058 {n : Int} {r_ : Bool} (hr : F1058 n = some r_) : LPure Tryz.prog 58 [.int .i64 n] [.bool r_] := by
  refine LPure.start Tryz.func58 rfl rfl rfl rfl ?_
  unfold F1058 at hr
  refine LW.seq ?_
  refine LW.region ?_
  refine LOps.st rfl rfl rfl (LOp.assign rfl rfl) ?_
  refine LOps.nil ?_
  refine thn_n ?_
  refine LW.seq ?_
  refine LW.region ?_
  refine LOps.st rfl rfl rfl (LOp.move rfl rfl) ?_
  refine LOps.st rfl rfl rfl (LOp.bin rfl rfl rfl rfl) ?_
  refine LOps.st rfl rfl rfl (LOp.move rfl rfl) ?_
  refine LOps.cases 5 rfl (fun (g1 : (decide (n ≥ 0)) = true) => ?_) (fun (g1 : (decide (n ≥ 0)) = false) => ?_)
  · -- g1 is True
    have hr := ite_t g1 hr
    refine LOps.gd rfl rfl rfl (gd g1 rfl) rfl (LOp.move rfl rfl) ?_
    refine LOps.gd rfl rfl rfl (gd g1 rfl) rfl (LOp.bin rfl rfl rfl rfl) ?_
    refine LOps.st rfl rfl rfl (LOp.pickT rfl (gdl g1 rfl) rfl) ?_
    refine LOps.st rfl rfl rfl (LOp.assign rfl rfl) ?_
    refine LOps.nil ?_
    refine thn_n ?_
    refine LW.ret ?_
    obtain rfl := Option.some.inj hr
    refine finP_ret (.one (.tmp rfl)) ?_
    exact Conv.p
  · -- g1 is False
    have hr := ite_f g1 hr
    refine LOps.sk rfl rfl rfl (gd g1 rfl) rfl rfl ?_
    refine LOps.sk rfl rfl rfl (gd g1 rfl) rfl rfl ?_
    refine LOps.st rfl rfl rfl (LOp.pickF rfl (gdl g1 rfl) rfl) ?_
    refine LOps.st rfl rfl rfl (LOp.assign rfl rfl) ?_
    refine LOps.nil ?_
    refine thn_n ?_
    refine LW.ret ?_
    obtain rfl := Option.some.inj hr
    refine finP_ret (.one (.tmp rfl)) ?_
    exact Conv.p
def F1057 (n : Int) : Option Bool :=
  (F1058 n).bind fun v1 =>
  some (!v1)
set_option maxRecDepth 100000 in
theorem c1057 {n : Int} {r_ : Bool} (hr : F1057 n = some r_) : LPure Tryz.prog 57 [.int .i64 n] [.bool r_] := by
  refine LPure.start Tryz.func57 rfl rfl rfl rfl ?_
  unfold F1057 at hr
  refine LW.seq ?_
  refine LW.region ?_
  refine LOps.st rfl rfl rfl (LOp.assign rfl rfl) ?_
  refine LOps.nil ?_
  refine thn_n ?_
  refine LW.seq ?_
  refine LW.region ?_
  refine LOps.st rfl rfl rfl (LOp.move rfl rfl) ?_
  obtain ⟨v1, h_v1, hr⟩ := bind_get hr
  refine LOps.st rfl rfl rfl (LOp.call rfl rfl rfl (by kernel_rfl) (LC.pure (c1058 h_v1) (.cons Conv.p .nil))) ?_
  refine LOps.st rfl rfl rfl (LOp.not rfl rfl) ?_
  refine LOps.st rfl rfl rfl (LOp.assign rfl rfl) ?_
  refine LOps.nil ?_
  refine thn_n ?_
  refine LW.ret ?_
  obtain rfl := Option.some.inj hr
  refine finP_ret (.one (.tmp rfl)) ?_
  exact Conv.p
structure FIxf_L1 where
  t8 : Int
def FIxf_s1 (s : List Int) (x1 : FIxf_L1) : Option (FIxf_L1 ⊕ (FIxf_L1 ⊕ Int)) :=
  bif decide (x1.t8 < (s.length : Int)) then
    (ix s x1.t8).bind fun y1 =>
    (F1057 y1).bind fun v2 =>
    bif v2 then
      some (.inr (.inr x1.t8))
    else
      some (.inl (FIxf_L1.mk (IntKind.i64.wrap (x1.t8 + 1))))
  else
    some (.inr (.inl (FIxf_L1.mk x1.t8)))
def FIxf (s : List Int) : Option Int :=
  (iter (FIxf_s1 s) big (FIxf_L1.mk 0)).bind fun b_v1 => Sum.elim (fun _ =>
    some (-1)) some b_v1
set_option maxRecDepth 100000 in
theorem cFIxf {s : List Int} {r_ : Int} (hr : FIxf s = some r_) : LC Tryz.prog 70 [.p (.slice 1 (s.map i64P)), .fn 57 [] []] [] (Is (.p (.int .i64 r_)) []) := by
  refine LC.start Tryz.func70 rfl rfl rfl ?_
  unfold FIxf at hr
  refine LW.seq ?_
  refine LW.region ?_
  refine LOps.st rfl rfl rfl (LOp.assign rfl rfl) ?_
  refine LOps.nil ?_
  refine thn_n ?_
  refine LW.seq ?_
  refine LW.seq ?_
  refine LW.region ?_
  refine LOps.st rfl rfl rfl (LOp.move rfl rfl) ?_
  refine LOps.st rfl rfl rfl (LOp.lenM rfl rfl (by kernel_rfl)) ?_
  refine LOps.st rfl rfl rfl (LOp.move rfl rfl) ?_
  refine LOps.nil ?_
  refine thn_n ?_
  obtain ⟨b_v1, hb_v1, ho_v1⟩ := bind_get hr
  clear hr
  refine LW.tailB (b := b_v1) (E := fun v1 => [(4, .p (.int .i64 0))]) (O := fun v1 => []) ?_ (fun v1 e_v1 env_v1 H_v1 hw_v1 => ?_)
  · refine LW.block ?_
    refine LW.iterB (E := fun x1 : FIxf_L1 => [(0, .p (.slice 1 (s.map i64P))), (1, .fn 57 [] []), (4, .p (.int .i64 0)), (7, .p (.int .i64 (s.length : Int))), (8, .p (.int .i64 x1.t8))]) (O := fun x1 => []) hb_v1 (Weak.of 0 ⟨rfl, rfl, rfl, rfl, rfl, trivial⟩ rfl rfl rfl rfl) (fun x1 z_x1 hr hb_x1 => ?_)
    unfold FIxf_s1 at hr
    refine LW.seq ?_
    refine LW.region ?_
    refine LOps.st rfl rfl rfl (LOp.bin rfl rfl rfl rfl) ?_
    refine LOps.nil ?_
    refine thn_n ?_
    refine LW.seq ?_
    refine LW.cond rfl (fun (g1 : (decide (x1.t8 < (s.length : Int))) = true) => ?_) (fun (g1 : (decide (x1.t8 < (s.length : Int))) = false) => ?_)
    · -- g1 is True
      have hr := ite_t g1 hr
      refine LW.skip ?_
      refine thn_n ?_
      refine LW.seq ?_
      refine LW.block ?_
      refine LW.seq ?_
      refine LW.region ?_
      refine LOps.st rfl rfl rfl (LOp.move rfl rfl) ?_
      refine LOps.st rfl rfl rfl (LOp.assign rfl rfl) ?_
      refine LOps.nil ?_
      refine thn_n ?_
      refine LW.seq ?_
      refine LW.region ?_
      refine LOps.st rfl rfl rfl (LOp.move rfl rfl) ?_
      refine LOps.st rfl rfl rfl (LOp.move rfl rfl) ?_
      refine LOps.st rfl rfl rfl (LOp.move rfl rfl) ?_
      obtain ⟨y1, h_y1, hr⟩ := bind_get hr
      refine LOps.st rfl rfl rfl (LOp.indexAddrX rfl rfl rfl st49 h_y1 rfl) ?_
      refine LOps.st rfl rfl rfl (LOp.loadC rfl rfl rfl vt3 rfl rfl) ?_
      obtain ⟨v2, h_v2, hr⟩ := bind_get hr
      refine LOps.st rfl rfl rfl (LOp.call rfl rfl rfl (by kernel_rfl) (LC.pure (c1057 h_v2) (.cons Conv.p .nil))) ?_
      refine LOps.nil ?_
      refine thn_n ?_
      refine LW.cond rfl (fun (g2 : v2 = true) => ?_) (fun (g2 : v2 = false) => ?_)
      · -- g2 is True
        have hr := ite_t g2 hr
        refine LW.seq ?_
        refine LW.region ?_
        refine LOps.st rfl rfl rfl (LOp.move rfl rfl) ?_
        refine LOps.st rfl rfl rfl (LOp.assign rfl rfl) ?_
        refine LOps.nil ?_
        refine thn_n ?_
        refine LW.ret ?_
        refine inBlk_r ?_
        refine thn_r ?_
        refine thn_r ?_
        refine inBlk_r ?_
        refine thn_r ?_
        refine thn_r ?_
        obtain rfl := Option.some.inj hr
        have hr := congrArg some (hb_x1 _ rfl)
        obtain rfl := Option.some.inj hr
        have hr := sum_r ho_v1
        obtain rfl := Option.some.inj hr
        refine fin_ret (.one (.tmp rfl)) ?_
        exact ⟨rfl, rfl⟩
      · -- g2 is False
        have hr := ite_f g2 hr
        refine LW.skip ?_
        refine inBlk_n ?_
        refine thn_n ?_
        refine LW.region ?_
        refine LOps.st rfl rfl rfl (LOp.bin rfl rfl rfl rfl) ?_
        refine LOps.st rfl rfl rfl (LOp.move rfl rfl) ?_
        refine LOps.nil ?_
        refine thn_n ?_
        obtain rfl := Option.some.inj hr
        exact ⟨_, rfl, Weak.of 0 ⟨rfl, rfl, rfl, rfl, rfl, trivial⟩ rfl rfl rfl rfl⟩
    · -- g1 is False
      have hr := ite_f g1 hr
      refine LW.exit ?_
      refine thn_e ?_
      refine thn_e ?_
      refine inBlk_self ?_
      refine thn_n ?_
      obtain rfl := Option.some.inj hr
      have hr := congrArg some (hb_x1 _ rfl)
      obtain rfl := Option.some.inj hr
      exact ⟨_, rfl, Weak.of 0 ⟨rfl, trivial⟩ rfl rfl rfl rfl⟩
  · obtain rfl := e_v1
    have hr := sum_l ho_v1
    clear hb_v1
    refine thn_n ?_
    refine LW.weak hw_v1 ?_
    refine LW.seq ?_
    refine LW.region ?_
    refine LOps.st rfl rfl rfl (LOp.assign rfl rfl) ?_
    refine LOps.nil ?_
    refine thn_n ?_
    refine LW.ret ?_
    obtain rfl := Option.some.inj hr
    refine fin_ret (.one (.tmp rfl)) ?_
    exact ⟨rfl, rfl⟩
def FCf (s : List Int) : Option Bool :=
  (FIxf s).bind fun v1 =>
  some (decide (v1 ≥ 0))
set_option maxRecDepth 100000 in
theorem cFCf {s : List Int} {r_ : Bool} (hr : FCf s = some r_) : LC Tryz.prog 56 [.p (.slice 1 (s.map i64P)), .fn 57 [] []] [] (Is (.p (.bool r_)) []) := by
  refine LC.start Tryz.func56 rfl rfl rfl ?_
  unfold FCf at hr
  refine LW.seq ?_
  refine LW.region ?_
  refine LOps.st rfl rfl rfl (LOp.assign rfl rfl) ?_
  refine LOps.nil ?_
  refine thn_n ?_
  refine LW.seq ?_
  refine LW.region ?_
  refine LOps.st rfl rfl rfl (LOp.move rfl rfl) ?_
  refine LOps.st rfl rfl rfl (LOp.move rfl rfl) ?_
  obtain ⟨v1, h_v1, hr⟩ := bind_get hr
  refine LOps.st rfl rfl rfl (LOp.call rfl rfl rfl (by kernel_rfl) (cFIxf h_v1)) ?_
  refine LOps.st rfl rfl rfl (LOp.bin rfl rfl rfl rfl) ?_
  refine LOps.st rfl rfl rfl (LOp.assign rfl rfl) ?_
  refine LOps.nil ?_
  refine thn_n ?_
  refine LW.ret ?_
  obtain rfl := Option.some.inj hr
  refine fin_ret (.one (.tmp rfl)) ?_
  exact ⟨rfl, rfl⟩
def F1042 (l : List Int) : Option Bool :=
  (FCf l).bind fun v1 =>
  some (!v1)
set_option maxRecDepth 100000 in
theorem c1042 {l : List Int} {r_ : Bool} (hr : F1042 l = some r_) : LPure Tryz.prog 42 [.slice 1 (l.map i64P)] [.bool r_] := by
  refine LPure.start Tryz.func42 rfl rfl rfl rfl ?_
  unfold F1042 at hr
  refine LW.seq ?_
  refine LW.region ?_
  refine LOps.st rfl rfl rfl (LOp.assign rfl rfl) ?_
  refine LOps.nil ?_
  refine thn_n ?_
  refine LW.seq ?_
  refine LW.region ?_
  refine LOps.st rfl rfl rfl (LOp.move rfl rfl) ?_
  obtain ⟨v1, h_v1, hr⟩ := bind_get hr
  refine LOps.st rfl rfl rfl (LOp.call rfl rfl rfl (by kernel_rfl) (cFCf h_v1)) ?_
  refine LOps.st rfl rfl rfl (LOp.not rfl rfl) ?_
  refine LOps.st rfl rfl rfl (LOp.assign rfl rfl) ?_
  refine LOps.nil ?_
  refine thn_n ?_
  refine LW.ret ?_
  obtain rfl := Option.some.inj hr
  refine finP_ret (.one (.tmp rfl)) ?_
  exact Conv.p
def F1026 (a : Int) (b : Int) (c : Int) (d : Int) : Option Bool :=
  (F1042 [a, b, c, d]).bind fun v1 =>
  bif !v1 then
    some false
  else
    (F1043 a b).bind fun v2 =>
    (F1043 c d).bind fun v3 =>
    bif !((v2.1 == v3.1) && ((v2.2 == v3.2) && true)) then
      (F151 [v2.1, v2.2] [v3.1, v3.2]).bind fun v4 =>
      some (decide (v4 > 0))
    else
      some false
set_option maxRecDepth 100000 in
theorem c1026 {a : Int} {b : Int} {c : Int} {d : Int} {r_ : Bool} (hr : F1026 a b c d = some r_) : LPure Tryz.prog 26 [.int .i64 a, .int .i64 b, .int .i64 c, .int .i64 d] [.bool r_] := by
  refine LPure.start Tryz.func26 rfl rfl rfl rfl ?_
  unfold F1026 at hr
  refine LW.seq ?_
  refine LW.region ?_
  refine LOps.st rfl rfl rfl (LOp.assign rfl rfl) ?_
  refine LOps.nil ?_
  refine thn_n ?_
  refine LW.seq ?_
  refine LW.seq ?_
  refine LW.region ?_
  refine LOps.st rfl rfl rfl (LOp.move rfl rfl) ?_
  refine LOps.st rfl rfl rfl (LOp.move rfl rfl) ?_
  refine LOps.st rfl rfl rfl (LOp.move rfl rfl) ?_
  refine LOps.st rfl rfl rfl (LOp.move rfl rfl) ?_
  refine LOps.st rfl rfl rfl (LOp.buildSlice rfl st49 rfl rfl rfl rfl rfl) ?_
  obtain ⟨v1, h_v1, hr⟩ := bind_get hr
  refine LOps.st rfl rfl rfl (LOp.call rfl rfl rfl (by kernel_rfl) (LC.pure (c1042 h_v1) (.cons Conv.p .nil))) ?_
  refine LOps.st rfl rfl rfl (LOp.not rfl rfl) ?_
  refine LOps.nil ?_
  refine thn_n ?_
  refine LW.cond rfl (fun (g1 : (!v1) = true) => ?_) (fun (g1 : (!v1) = false) => ?_)
  · -- g1 is True
    have hr := ite_t g1 hr
    refine LW.seq ?_
    refine LW.region ?_
    refine LOps.st rfl rfl rfl (LOp.assign rfl rfl) ?_
    refine LOps.nil ?_
    refine thn_n ?_
    refine LW.ret ?_
    refine thn_r ?_
    obtain rfl := Option.some.inj hr
    refine finP_ret (.one (.tmp rfl)) ?_
    exact Conv.p
  · -- g1 is False
    have hr := ite_f g1 hr
    refine LW.skip ?_
    refine thn_n ?_
    refine LW.seq ?_
    refine LW.region ?_
    refine LOps.st rfl rfl rfl (LOp.move rfl rfl) ?_
    refine LOps.st rfl rfl rfl (LOp.move rfl rfl) ?_
    obtain ⟨v2, h_v2, hr⟩ := bind_get hr
    refine LOps.st rfl rfl rfl (LOp.call rfl rfl rfl (by kernel_rfl) (LC.pure (c1043 h_v2) (.cons Conv.p (.cons Conv.p .nil)))) ?_
    refine LOps.st rfl rfl rfl (LOp.move rfl rfl) ?_
    refine LOps.st rfl rfl rfl (LOp.move rfl rfl) ?_
    obtain ⟨v3, h_v3, hr⟩ := bind_get hr
    refine LOps.st rfl rfl rfl (LOp.call rfl rfl rfl (by kernel_rfl) (LC.pure (c1043 h_v3) (.cons Conv.p (.cons Conv.p .nil)))) ?_
    refine LOps.st rfl rfl rfl (LOp.alloc rfl zt1108 rfl rfl) ?_
    refine LOps.st rfl rfl rfl (LOp.alloc rfl zt1108 rfl rfl) ?_
    refine LOps.st rfl rfl rfl (LOp.store rfl rfl rfl rfl vt1108 rfl rfl rfl rfl) ?_
    refine LOps.st rfl rfl rfl (LOp.store rfl rfl rfl rfl vt1108 rfl rfl rfl rfl) ?_
    refine LOps.nil ?_
    refine thn_n ?_
    refine LW.seq ?_
    refine LW.draw (by kernel_rfl) (by kernel_rfl) ?_
    refine LO.st rfl rfl rfl (LOp.load rfl rfl rfl vt1108 rfl rfl) ?_
    refine LO.st rfl rfl rfl (LOp.load rfl rfl rfl vt1108 rfl rfl) ?_
    refine LO.st rfl rfl rfl (LOp.neqAgg rfl rfl rfl rfl rfl eqt1108) ?_
    refine LO.st rfl rfl rfl (LOp.move rfl rfl) ?_
    refine LO.cases 27 rfl (fun (g2 : (!((v2.1 == v3.1) && ((v2.2 == v3.2) && true))) = true) => ?_) (fun (g2 : (!((v2.1 == v3.1) && ((v2.2 == v3.2) && true))) = false) => ?_)
    · -- g2 is True
      have hr := ite_t g2 hr
      refine LO.gd rfl rfl rfl (gd g2 rfl) rfl (LOp.sliceBox rfl rfl at1108 rfl rfl rfl) ?_
      refine LO.gd rfl rfl rfl (gd g2 rfl) rfl (LOp.sliceBox rfl rfl at1108 rfl rfl rfl) ?_
      obtain ⟨v4, h_v4, hr⟩ := bind_get hr
      refine LO.gd rfl rfl rfl (gd g2 rfl) rfl (LOp.call rfl rfl rfl (by kernel_rfl) (LC.lend (c151 h_v4) (.cons (Conv.boxSlice rfl rfl rfl rfl) (.cons (Conv.boxSlice rfl rfl rfl rfl) .nil)) rfl)) ?_
      refine LO.gd rfl rfl rfl (gd g2 rfl) rfl (LOp.bin rfl rfl rfl rfl) ?_
      refine LO.st rfl rfl rfl (LOp.pickT rfl (gdl g2 rfl) rfl) ?_
      refine LO.st rfl rfl rfl (LOp.assign rfl rfl) ?_
      refine LO.nil ?_
      refine thn_n ?_
      refine LW.ret ?_
      obtain rfl := Option.some.inj hr
      refine finP_ret (.one (.tmp rfl)) ?_
      exact Conv.p
    · -- g2 is False
      have hr := ite_f g2 hr
      refine LO.sk rfl rfl rfl (gd g2 rfl) rfl rfl ?_
      refine LO.sk rfl rfl rfl (gd g2 rfl) rfl rfl ?_
      refine LO.sk rfl rfl rfl (gd g2 rfl) rfl rfl ?_
      refine LO.sk rfl rfl rfl (gd g2 rfl) rfl rfl ?_
      refine LO.st rfl rfl rfl (LOp.pickF rfl (gdl g2 rfl) rfl) ?_
      refine LO.st rfl rfl rfl (LOp.assign rfl rfl) ?_
      refine LO.nil ?_
      refine thn_n ?_
      refine LW.ret ?_
      obtain rfl := Option.some.inj hr
      refine finP_ret (.one (.tmp rfl)) ?_
      exact Conv.p
open Go.Proofs
def FWeigh1 (who : Int) (bad : List Int) : Option Bool :=
  (F119 bad who).bind fun v1 =>
  some v1
set_option maxRecDepth 100000 in
theorem cFWeigh1 {who : Int} {c : Cf} {bad : List Int} {r_ : Bool} (hr : FWeigh1 who bad = some r_) : LC Tryz.prog 15 [.p (.int .i64 who), .ptr 1 0] [.box [.p (.slice 1 (c.W.map i64P)), .p (.int .u64 c.Seed), .p (.int .i64 c.Epoch), .p (.int .i64 c.Num), .p (.int .i64 c.Den)], .box [.p (.slice 1 (bad.map i64P))]] (Is (.p (.bool r_)) [.box [.p (.slice 1 (c.W.map i64P)), .p (.int .u64 c.Seed), .p (.int .i64 c.Epoch), .p (.int .i64 c.Num), .p (.int .i64 c.Den)], .box [.p (.slice 1 (bad.map i64P))]]) := by
  refine LC.start Tryz.func15 rfl rfl rfl ?_
  unfold FWeigh1 at hr
  refine LW.seq ?_
  refine LW.region ?_
  refine LOps.st rfl rfl rfl (LOp.assign rfl rfl) ?_
  refine LOps.nil ?_
  refine thn_n ?_
  refine LW.seq ?_
  refine LW.region ?_
  refine LOps.st rfl rfl rfl (LOp.load rfl rfl rfl vt49 rfl rfl) ?_
  refine LOps.st rfl rfl rfl (LOp.move rfl rfl) ?_
  obtain ⟨v1, h_v1, hr⟩ := bind_get hr
  refine LOps.st rfl rfl rfl (LOp.call rfl rfl rfl (by kernel_rfl) (LC.pure (c119 h_v1) (.cons Conv.p (.cons Conv.p .nil)))) ?_
  refine LOps.st rfl rfl rfl (LOp.assign rfl rfl) ?_
  refine LOps.nil ?_
  refine thn_n ?_
  refine LW.ret ?_
  obtain rfl := Option.some.inj hr
  refine fin_ret (.one (.tmp rfl)) ?_
  exact ⟨rfl, rfl⟩
structure FParted_L1 where
  t10 : Int
  o4 : List Int
  o5 : List Int
def FParted_s1 (l : List Int) (bad : List Int) (x1 : FParted_L1) : Option (FParted_L1 ⊕ FParted_L1) :=
  bif decide (x1.t10 < (l.length : Int)) then
    (ix l x1.t10).bind fun y1 =>
    (FWeigh1 y1 bad).bind fun v2 =>
    bif v2 then
      bif room x1.o5.length [y1].length 8 then
        some (.inl (FParted_L1.mk (IntKind.i64.wrap (x1.t10 + 1)) x1.o4 (x1.o5 ++ [y1])))
      else none
    else
      bif room x1.o4.length [y1].length 8 then
        some (.inl (FParted_L1.mk (IntKind.i64.wrap (x1.t10 + 1)) (x1.o4 ++ [y1]) x1.o5))
      else none
  else
    some (.inr (FParted_L1.mk x1.t10 x1.o4 x1.o5))
def FParted (l : List Int) (bad : List Int) : Option (List Int × List Int) :=
  (iter (FParted_s1 l bad) big (FParted_L1.mk 0 ([] : List Int) ([] : List Int))).bind fun v1 =>
  some (v1.o4, v1.o5)
set_option maxRecDepth 100000 in
theorem cFParted {l : List Int} {c : Cf} {bad : List Int} {r_ : List Int × List Int} (hr : FParted l bad = some r_) : LC Tryz.prog 14 [.p (.slice 1 (l.map i64P)), .fn 15 [] [.ptr 1 0]] [.box [.p (.slice 1 (c.W.map i64P)), .p (.int .u64 c.Seed), .p (.int .i64 c.Epoch), .p (.int .i64 c.Num), .p (.int .i64 c.Den)], .box [.p (.slice 1 (bad.map i64P))]] (Is (.agg [.vec 1 4 (r_.1.map i64P).length 0 (r_.1.map i64P).length, .vec 1 5 (r_.2.map i64P).length 0 (r_.2.map i64P).length]) [.box [.p (.slice 1 (c.W.map i64P)), .p (.int .u64 c.Seed), .p (.int .i64 c.Epoch), .p (.int .i64 c.Num), .p (.int .i64 c.Den)], .box [.p (.slice 1 (bad.map i64P))], .box [.vec 1 4 (r_.1.map i64P).length 0 (r_.1.map i64P).length, .vec 1 5 (r_.2.map i64P).length 0 (r_.2.map i64P).length], .box [.vec 1 4 (r_.1.map i64P).length 0 (r_.1.map i64P).length, .vec 1 5 (r_.2.map i64P).length 0 (r_.2.map i64P).length], .vec 1 (r_.1.map i64P), .vec 1 (r_.2.map i64P)]) := by
  refine LC.start Tryz.func14 rfl rfl rfl ?_
  unfold FParted at hr
  refine LW.seq ?_
  refine LW.region ?_
  refine LOps.st rfl rfl rfl (LOp.alloc rfl zt1052 rfl rfl) ?_
  refine LOps.nil ?_
  refine thn_n ?_
  refine LW.seq ?_
  refine LW.region ?_
  refine LOps.st rfl rfl rfl (LOp.alloc rfl zt1052 rfl rfl) ?_
  refine LOps.nil ?_
  refine thn_n ?_
  refine LW.seq ?_
  refine LW.seq ?_
  refine LW.ent (Ent.lazyCell (i := 3) (j := 0) (m := 1) rfl rfl rfl rfl rfl rfl) ?_
  refine LW.ent (Ent.lazyCell (i := 3) (j := 1) (m := 1) rfl rfl rfl rfl rfl rfl) ?_
  refine LW.region ?_
  refine LOps.st rfl rfl rfl (LOp.move rfl rfl) ?_
  refine LOps.st rfl rfl rfl (LOp.lenM rfl rfl (by kernel_rfl)) ?_
  refine LOps.st rfl rfl rfl (LOp.move rfl rfl) ?_
  refine LOps.nil ?_
  refine thn_n ?_
  obtain ⟨v1, hb_v1, ho_v1⟩ := bind_get hr
  clear hr
  refine LW.tail (E := [(4, .ptr 2 0), (5, .ptr 3 0)]) (O := [.box [.p (.slice 1 (c.W.map i64P)), .p (.int .u64 c.Seed), .p (.int .i64 c.Epoch), .p (.int .i64 c.Num), .p (.int .i64 c.Den)], .box [.p (.slice 1 (bad.map i64P))], .box [.zs, .zs], .box [.vec 1 4 (v1.o4.map i64P).length 0 (v1.o4.map i64P).length, .vec 1 5 (v1.o5.map i64P).length 0 (v1.o5.map i64P).length], .vec 1 (v1.o4.map i64P), .vec 1 (v1.o5.map i64P)]) ?_ (fun env_v1 H_v1 hw_v1 => ?_)
  · refine LW.block ?_
    refine LW.iterB (E := fun x1 : FParted_L1 => [(1, .fn 15 [] [.ptr 1 0]), (4, .ptr 2 0), (5, .ptr 3 0), (8, .p (.slice 1 (l.map i64P))), (9, .p (.int .i64 (l.length : Int))), (10, .p (.int .i64 x1.t10))]) (O := fun x1 => [.box [.p (.slice 1 (c.W.map i64P)), .p (.int .u64 c.Seed), .p (.int .i64 c.Epoch), .p (.int .i64 c.Num), .p (.int .i64 c.Den)], .box [.p (.slice 1 (bad.map i64P))], .box [.zs, .zs], .box [.vec 1 4 (x1.o4.map i64P).length 0 (x1.o4.map i64P).length, .vec 1 5 (x1.o5.map i64P).length 0 (x1.o5.map i64P).length], .vec 1 (x1.o4.map i64P), .vec 1 (x1.o5.map i64P)]) hb_v1 (Weak.of 6 ⟨rfl, rfl, rfl, rfl, rfl, rfl, trivial⟩ rfl rfl rfl rfl) (fun x1 z_x1 hr hb_x1 => ?_)
    unfold FParted_s1 at hr
    refine LW.seq ?_
    refine LW.region ?_
    refine LOps.st rfl rfl rfl (LOp.bin rfl rfl rfl rfl) ?_
    refine LOps.nil ?_
    refine thn_n ?_
    refine LW.seq ?_
    refine LW.cond rfl (fun (g1 : (decide (x1.t10 < (l.length : Int))) = true) => ?_) (fun (g1 : (decide (x1.t10 < (l.length : Int))) = false) => ?_)
    · -- g1 is True
      have hr := ite_t g1 hr
      refine LW.skip ?_
      refine thn_n ?_
      refine LW.seq ?_
      refine LW.block ?_
      refine LW.seq ?_
      refine LW.region ?_
      obtain ⟨y1, h_y1, hr⟩ := bind_get hr
      refine LOps.st rfl rfl rfl (LOp.indexAddrX rfl rfl rfl st49 h_y1 rfl) ?_
      refine LOps.st rfl rfl rfl (LOp.loadC rfl rfl rfl vt3 rfl rfl) ?_
      refine LOps.st rfl rfl rfl (LOp.assign rfl rfl) ?_
      refine LOps.nil ?_
      refine thn_n ?_
      refine LW.seq ?_
      refine LW.region ?_
      refine LOps.st rfl rfl rfl (LOp.move rfl rfl) ?_
      refine LOps.st rfl rfl rfl (LOp.move rfl rfl) ?_
      obtain ⟨v2, h_v2, hr⟩ := bind_get hr
      refine LOps.st rfl rfl rfl (LOp.call rfl rfl rfl (by kernel_rfl) (LC.pre (cFWeigh1 h_v2) rfl rfl rfl)) ?_
      refine LOps.nil ?_
      refine thn_n ?_
      refine LW.cond rfl (fun (g2 : v2 = true) => ?_) (fun (g2 : v2 = false) => ?_)
      · -- g2 is True
        have hr := ite_t g2 hr
        refine LW.region ?_
        refine LOps.st rfl rfl rfl (LOp.fieldAddr rfl rfl ft1052_1) ?_
        refine LOps.st rfl rfl rfl (LOp.load rfl rfl rfl vt49 rfl rfl) ?_
        refine LOps.st rfl rfl rfl (LOp.move rfl rfl) ?_
        refine LOps.st rfl rfl rfl (LOp.buildSlice rfl st49 rfl rfl rfl rfl rfl) ?_
        obtain ⟨q1, hr⟩ := grd_get hr
        refine LOps.st rfl rfl rfl (LOp.appendX i64P x1.o5 [y1] rfl rfl rfl rfl Src.p rfl st49 q1 rfl) ?_
        refine LOps.st rfl rfl rfl (LOp.fieldAddr rfl rfl ft1052_1) ?_
        refine LOps.st rfl rfl rfl (LOp.store rfl rfl rfl rfl vt49 rfl rfl rfl rfl) ?_
        refine LOps.nil ?_
        refine inBlk_n ?_
        refine thn_n ?_
        refine LW.region ?_
        refine LOps.st rfl rfl rfl (LOp.bin rfl rfl rfl rfl) ?_
        refine LOps.st rfl rfl rfl (LOp.move rfl rfl) ?_
        refine LOps.nil ?_
        refine thn_n ?_
        obtain rfl := Option.some.inj hr
        exact ⟨_, rfl, Weak.of 6 ⟨rfl, rfl, rfl, rfl, rfl, rfl, trivial⟩ rfl rfl rfl rfl⟩
      · -- g2 is False
        have hr := ite_f g2 hr
        refine LW.region ?_
        refine LOps.st rfl rfl rfl (LOp.fieldAddr rfl rfl ft1052_0) ?_
        refine LOps.st rfl rfl rfl (LOp.load rfl rfl rfl vt49 rfl rfl) ?_
        refine LOps.st rfl rfl rfl (LOp.move rfl rfl) ?_
        refine LOps.st rfl rfl rfl (LOp.buildSlice rfl st49 rfl rfl rfl rfl rfl) ?_
        obtain ⟨q2, hr⟩ := grd_get hr
        refine LOps.st rfl rfl rfl (LOp.appendX i64P x1.o4 [y1] rfl rfl rfl rfl Src.p rfl st49 q2 rfl) ?_
        refine LOps.st rfl rfl rfl (LOp.fieldAddr rfl rfl ft1052_0) ?_
        refine LOps.st rfl rfl rfl (LOp.store rfl rfl rfl rfl vt49 rfl rfl rfl rfl) ?_
        refine LOps.nil ?_
        refine inBlk_n ?_
        refine thn_n ?_
        refine LW.region ?_
        refine LOps.st rfl rfl rfl (LOp.bin rfl rfl rfl rfl) ?_
        refine LOps.st rfl rfl rfl (LOp.move rfl rfl) ?_
        refine LOps.nil ?_
        refine thn_n ?_
        obtain rfl := Option.some.inj hr
        exact ⟨_, rfl, Weak.of 6 ⟨rfl, rfl, rfl, rfl, rfl, rfl, trivial⟩ rfl rfl rfl rfl⟩
    · -- g1 is False
      have hr := ite_f g1 hr
      refine LW.exit ?_
      refine thn_e ?_
      refine thn_e ?_
      refine inBlk_self ?_
      refine thn_n ?_
      obtain rfl := Option.some.inj hr
      have hr := congrArg some (hb_x1 _ rfl)
      obtain rfl := Option.some.inj hr
      exact Weak.of 6 ⟨rfl, rfl, trivial⟩ rfl rfl rfl rfl
  · have hr := ho_v1
    clear hb_v1
    refine thn_n ?_
    refine LW.weak hw_v1 ?_
    refine LW.seq ?_
    refine LW.region ?_
    refine LOps.st rfl rfl rfl (LOp.load rfl rfl rfl vt1052 rfl rfl) ?_
    refine LOps.st rfl rfl rfl (LOp.store rfl rfl rfl rfl vt1052 rfl rfl rfl rfl) ?_
    refine LOps.nil ?_
    refine thn_n ?_
    refine LW.ret ?_
    obtain rfl := Option.some.inj hr
    refine fin_ret (.one (.cellAgg rfl rfl (by kernel_rfl) rfl)) ?_
    exact ⟨rfl, rfl⟩
def F1007 (c : Cf) (bad : List Int) (slot : Int) : Option (Int × Int) :=
  (F65 c slot).bind fun v1 =>
  (FParted v1 bad).bind fun v2 =>
  (F70 c v2.1).bind fun v3 =>
  (F70 c v2.2).bind fun v4 =>
  some (v3, v4)
set_option maxRecDepth 100000 in
theorem c1007 {c : Cf} {bad : List Int} {slot : Int} {r_ : Int × Int} (hr : F1007 c bad slot = some r_) : LPure Tryz.prog 7 [cfP c, .slice 1 (bad.map i64P), .int .i64 slot] [.int .i64 r_.1, .int .i64 r_.2] := by
  refine LPure.start Tryz.func7 rfl rfl rfl rfl ?_
  unfold F1007 at hr
  refine LW.seq ?_
  refine LW.region ?_
  refine LOps.st rfl rfl rfl (LOp.box rfl rfl rfl rfl rfl) ?_
  refine LOps.st rfl rfl rfl (LOp.box rfl rfl rfl rfl rfl) ?_
  refine LOps.st rfl rfl rfl (LOp.assign rfl rfl) ?_
  refine LOps.st rfl rfl rfl (LOp.assign rfl rfl) ?_
  refine LOps.nil ?_
  refine thn_n ?_
  refine LW.seq ?_
  refine LW.region ?_
  refine LOps.st rfl rfl rfl (LOp.load rfl rfl rfl vt55 rfl rfl) ?_
  refine LOps.st rfl rfl rfl (LOp.move rfl rfl) ?_
  obtain ⟨v1, h_v1, hr⟩ := bind_get hr
  refine LOps.st rfl rfl rfl (LOp.call rfl rfl rfl (by kernel_rfl) (LC.pure (c65 h_v1) (.cons Conv.p (.cons Conv.p .nil)))) ?_
  refine LOps.st rfl rfl rfl (LOp.makeFunc rfl rfl rfl) ?_
  obtain ⟨v2, h_v2, hr⟩ := bind_get hr
  refine LOps.st rfl rfl rfl (LOp.call rfl rfl rfl (by kernel_rfl) (cFParted h_v2)) ?_
  refine LOps.st rfl rfl rfl (LOp.alloc rfl zt1052 rfl rfl) ?_
  refine LOps.st rfl rfl rfl (LOp.store rfl rfl rfl rfl vt1052 rfl rfl rfl rfl) ?_
  refine LOps.nil ?_
  refine thn_n ?_
  refine LW.seq ?_
  refine LW.draw (by kernel_rfl) (by kernel_rfl) ?_
  refine LO.st rfl rfl rfl (LOp.load rfl rfl rfl vt55 rfl rfl) ?_
  refine LO.st rfl rfl rfl (LOp.fieldAddr rfl rfl ft1052_0) ?_
  refine LO.st rfl rfl rfl (LOp.load rfl rfl rfl vt49 rfl rfl) ?_
  obtain ⟨v3, h_v3, hr⟩ := bind_get hr
  refine LO.st rfl rfl rfl (LOp.call rfl rfl rfl (by kernel_rfl) (LC.lend (c70 h_v3) (.cons Conv.p (.cons (Conv.vecAll rfl rfl rfl) .nil)) rfl)) ?_
  refine LO.st rfl rfl rfl (LOp.load rfl rfl rfl vt55 rfl rfl) ?_
  refine LO.st rfl rfl rfl (LOp.fieldAddr rfl rfl ft1052_1) ?_
  refine LO.st rfl rfl rfl (LOp.load rfl rfl rfl vt49 rfl rfl) ?_
  obtain ⟨v4, h_v4, hr⟩ := bind_get hr
  refine LO.st rfl rfl rfl (LOp.call rfl rfl rfl (by kernel_rfl) (LC.lend (c70 h_v4) (.cons Conv.p (.cons (Conv.vecAll rfl rfl rfl) .nil)) rfl)) ?_
  refine LO.st rfl rfl rfl (LOp.assign rfl rfl) ?_
  refine LO.st rfl rfl rfl (LOp.assign rfl rfl) ?_
  refine LO.nil ?_
  refine thn_n ?_
  refine LW.ret ?_
  obtain rfl := Option.some.inj hr
  refine finP_ret (.two (.tmp rfl) (.tmp rfl)) ?_
  exact ⟨_, rfl, (.cons Conv.p (.cons Conv.p .nil))⟩
structure F1010_L1 where
  s : Int
  strong : Bool
  t27 : Int
def F1010_s1 (c : Cf) (bad : List Int) (v_from : Int) (upto : Int) (x1 : F1010_L1) : Option (F1010_L1 ⊕ F1010_L1) :=
  bif decide (x1.t27 < (IntKind.u64.wrap ((IntKind.u64.wrap ((IntKind.u64.wrap (upto)) - (IntKind.u64.wrap (v_from)))) + 1))) then
    (F1007 c bad x1.s).bind fun v2 =>
    bif decide (v2.1 ≤ v2.2) then
      some (.inr (F1010_L1.mk x1.s false x1.t27))
    else
      some (.inl (F1010_L1.mk (IntKind.i64.wrap (x1.s + 1)) x1.strong (IntKind.u64.wrap (x1.t27 + 1))))
  else
    some (.inr (F1010_L1.mk x1.s x1.strong x1.t27))
def F1010 (c : Cf) (bad : List Int) (v_from : Int) (upto : Int) : Option Bool :=
  bif decide (v_from > upto) then
    some true
  else
    bif decide ((IntKind.u64.wrap ((IntKind.u64.wrap (upto)) - (IntKind.u64.wrap (v_from)))) ≥ 1000) then
      some false
    else
      (iter (F1010_s1 c bad v_from upto) big (F1010_L1.mk v_from true 0)).bind fun v1 =>
      some v1.strong
set_option maxRecDepth 100000 in
theorem c1010 {c : Cf} {bad : List Int} {v_from : Int} {upto : Int} {r_ : Bool} (hr : F1010 c bad v_from upto = some r_) : LPure Tryz.prog 10 [cfP c, .slice 1 (bad.map i64P), .int .i64 v_from, .int .i64 upto] [.bool r_] := by
  refine LPure.start Tryz.func10 rfl rfl rfl rfl ?_
  unfold F1010 at hr
  refine LW.seq ?_
  refine LW.region ?_
  refine LOps.st rfl rfl rfl (LOp.box rfl rfl rfl rfl rfl) ?_
  refine LOps.st rfl rfl rfl (LOp.assign rfl rfl) ?_
  refine LOps.nil ?_
  refine thn_n ?_
  refine LW.scope ?_
  refine LW.seq ?_
  refine LW.seq ?_
  refine LW.region ?_
  refine LOps.st rfl rfl rfl (LOp.move rfl rfl) ?_
  refine LOps.st rfl rfl rfl (LOp.move rfl rfl) ?_
  refine LOps.st rfl rfl rfl (LOp.bin rfl rfl rfl rfl) ?_
  refine LOps.nil ?_
  refine thn_n ?_
  refine LW.cond rfl (fun (g1 : (decide (v_from > upto)) = true) => ?_) (fun (g1 : (decide (v_from > upto)) = false) => ?_)
  · -- g1 is True
    have hr := ite_t g1 hr
    refine LW.seq ?_
    refine LW.region ?_
    refine LOps.st rfl rfl rfl (LOp.assign rfl rfl) ?_
    refine LOps.nil ?_
    refine thn_n ?_
    refine LW.ret ?_
    refine thn_r ?_
    refine noGo_r ?_
    obtain rfl := Option.some.inj hr
    refine finP_ret (.one (.tmp rfl)) ?_
    exact Conv.p
  · -- g1 is False
    have hr := ite_f g1 hr
    refine LW.skip ?_
    refine thn_n ?_
    refine LW.seq ?_
    refine LW.region ?_
    refine LOps.st rfl rfl rfl (LOp.move rfl rfl) ?_
    refine LOps.st rfl rfl rfl (LOp.convert (k' := .u64) rfl rfl (by kernel_rfl)) ?_
    refine LOps.st rfl rfl rfl (LOp.move rfl rfl) ?_
    refine LOps.st rfl rfl rfl (LOp.convert (k' := .u64) rfl rfl (by kernel_rfl)) ?_
    refine LOps.st rfl rfl rfl (LOp.bin rfl rfl rfl rfl) ?_
    refine LOps.st rfl rfl rfl (LOp.move rfl rfl) ?_
    refine LOps.st rfl rfl rfl (LOp.assign rfl rfl) ?_
    refine LOps.st rfl rfl rfl (LOp.assign rfl rfl) ?_
    refine LOps.st rfl rfl rfl (LOp.assign rfl rfl) ?_
    refine LOps.nil ?_
    refine thn_n ?_
    refine LW.seq ?_
    refine LW.seq ?_
    refine LW.region ?_
    refine LOps.st rfl rfl rfl (LOp.move rfl rfl) ?_
    refine LOps.st rfl rfl rfl (LOp.bin rfl rfl rfl rfl) ?_
    refine LOps.nil ?_
    refine thn_n ?_
    refine LW.cond rfl (fun (g2 : (decide ((IntKind.u64.wrap ((IntKind.u64.wrap (upto)) - (IntKind.u64.wrap (v_from)))) ≥ 1000)) = true) => ?_) (fun (g2 : (decide ((IntKind.u64.wrap ((IntKind.u64.wrap (upto)) - (IntKind.u64.wrap (v_from)))) ≥ 1000)) = false) => ?_)
    · -- g2 is True
      have hr := ite_t g2 hr
      refine LW.seq ?_
      refine LW.region ?_
      refine LOps.st rfl rfl rfl (LOp.assign rfl rfl) ?_
      refine LOps.nil ?_
      refine thn_n ?_
      refine LW.ret ?_
      refine thn_r ?_
      refine noGo_r ?_
      obtain rfl := Option.some.inj hr
      refine finP_ret (.one (.tmp rfl)) ?_
      exact Conv.p
    · -- g2 is False
      have hr := ite_f g2 hr
      refine LW.skip ?_
      refine thn_n ?_
      refine LW.seq ?_
      refine LW.label ?_
      refine thn_n ?_
      refine LW.seq ?_
      refine LW.seq ?_
      refine LW.region ?_
      refine LOps.st rfl rfl rfl (LOp.move rfl rfl) ?_
      refine LOps.st rfl rfl rfl (LOp.bin rfl rfl rfl rfl) ?_
      refine LOps.st rfl rfl rfl (LOp.move rfl rfl) ?_
      refine LOps.nil ?_
      refine thn_n ?_
      obtain ⟨v1, hb_v1, ho_v1⟩ := bind_get hr
      clear hr
      refine LW.tail (E := [(8, .p (.bool false)), (11, .p (.bool v1.strong))]) (O := [.box [.p (.slice 1 (c.W.map i64P)), .p (.int .u64 c.Seed), .p (.int .i64 c.Epoch), .p (.int .i64 c.Num), .p (.int .i64 c.Den)]]) ?_ (fun env_v1 H_v1 hw_v1 => ?_)
      · refine LW.block ?_
        refine LW.iterB (E := fun x1 : F1010_L1 => [(1, .p (.slice 1 (bad.map i64P))), (4, .ptr 0 0), (8, .p (.bool false)), (10, .p (.int .i64 x1.s)), (11, .p (.bool x1.strong)), (26, .p (.int .u64 (IntKind.u64.wrap ((IntKind.u64.wrap ((IntKind.u64.wrap (upto)) - (IntKind.u64.wrap (v_from)))) + 1)))), (27, .p (.int .u64 x1.t27))]) (O := fun x1 => [.box [.p (.slice 1 (c.W.map i64P)), .p (.int .u64 c.Seed), .p (.int .i64 c.Epoch), .p (.int .i64 c.Num), .p (.int .i64 c.Den)]]) hb_v1 (Weak.of 1 ⟨rfl, rfl, rfl, rfl, rfl, rfl, rfl, trivial⟩ rfl rfl rfl rfl) (fun x1 z_x1 hr hb_x1 => ?_)
        unfold F1010_s1 at hr
        refine LW.seq ?_
        refine LW.region ?_
        refine LOps.st rfl rfl rfl (LOp.bin rfl rfl rfl rfl) ?_
        refine LOps.nil ?_
        refine thn_n ?_
        refine LW.seq ?_
        refine LW.cond rfl (fun (g3 : (decide (x1.t27 < (IntKind.u64.wrap ((IntKind.u64.wrap ((IntKind.u64.wrap (upto)) - (IntKind.u64.wrap (v_from)))) + 1)))) = true) => ?_) (fun (g3 : (decide (x1.t27 < (IntKind.u64.wrap ((IntKind.u64.wrap ((IntKind.u64.wrap (upto)) - (IntKind.u64.wrap (v_from)))) + 1)))) = false) => ?_)
        · -- g3 is True
          have hr := ite_t g3 hr
          refine LW.skip ?_
          refine thn_n ?_
          refine LW.seq ?_
          refine LW.block ?_
          refine LW.seq ?_
          refine LW.seq ?_
          refine LW.region ?_
          refine LOps.st rfl rfl rfl (LOp.load rfl rfl rfl vt55 rfl rfl) ?_
          refine LOps.st rfl rfl rfl (LOp.move rfl rfl) ?_
          refine LOps.st rfl rfl rfl (LOp.move rfl rfl) ?_
          obtain ⟨v2, h_v2, hr⟩ := bind_get hr
          refine LOps.st rfl rfl rfl (LOp.call rfl rfl rfl (by kernel_rfl) (LC.pure (c1007 h_v2) (.cons Conv.p (.cons Conv.p (.cons Conv.p .nil))))) ?_
          refine LOps.st rfl rfl rfl (LOp.move rfl rfl) ?_
          refine LOps.st rfl rfl rfl (LOp.extract rfl rfl rfl) ?_
          refine LOps.st rfl rfl rfl (LOp.extract rfl rfl rfl) ?_
          refine LOps.st rfl rfl rfl (LOp.assign rfl rfl) ?_
          refine LOps.st rfl rfl rfl (LOp.assign rfl rfl) ?_
          refine LOps.nil ?_
          refine thn_n ?_
          refine LW.seq ?_
          refine LW.region ?_
          refine LOps.st rfl rfl rfl (LOp.move rfl rfl) ?_
          refine LOps.st rfl rfl rfl (LOp.move rfl rfl) ?_
          refine LOps.st rfl rfl rfl (LOp.bin rfl rfl rfl rfl) ?_
          refine LOps.nil ?_
          refine thn_n ?_
          refine LW.cond rfl (fun (g4 : (decide (v2.1 ≤ v2.2)) = true) => ?_) (fun (g4 : (decide (v2.1 ≤ v2.2)) = false) => ?_)
          · -- g4 is True
            have hr := ite_t g4 hr
            refine LW.seq ?_
            refine LW.region ?_
            refine LOps.st rfl rfl rfl (LOp.assign rfl rfl) ?_
            refine LOps.nil ?_
            refine thn_n ?_
            refine LW.exit ?_
            refine thn_e ?_
            refine inBlk_other (by decide) ?_
            refine thn_e ?_
            refine thn_e ?_
            refine inBlk_self ?_
            refine thn_n ?_
            obtain rfl := Option.some.inj hr
            have hr := congrArg some (hb_x1 _ rfl)
            obtain rfl := Option.some.inj hr
            exact Weak.of 1 ⟨rfl, rfl, trivial⟩ rfl rfl rfl rfl
          · -- g4 is False
            have hr := ite_f g4 hr
            refine LW.skip ?_
            refine thn_n ?_
            refine LW.region ?_
            refine LOps.st rfl rfl rfl (LOp.move rfl rfl) ?_
            refine LOps.st rfl rfl rfl (LOp.bin rfl rfl rfl rfl) ?_
            refine LOps.st rfl rfl rfl (LOp.assign rfl rfl) ?_
            refine LOps.nil ?_
            refine inBlk_n ?_
            refine thn_n ?_
            refine LW.region ?_
            refine LOps.st rfl rfl rfl (LOp.bin rfl rfl rfl rfl) ?_
            refine LOps.st rfl rfl rfl (LOp.move rfl rfl) ?_
            refine LOps.nil ?_
            refine thn_n ?_
            obtain rfl := Option.some.inj hr
            exact ⟨_, rfl, Weak.of 1 ⟨rfl, rfl, rfl, rfl, rfl, rfl, rfl, trivial⟩ rfl rfl rfl rfl⟩
        · -- g3 is False
          have hr := ite_f g3 hr
          refine LW.exit ?_
          refine thn_e ?_
          refine thn_e ?_
          refine inBlk_self ?_
          refine thn_n ?_
          obtain rfl := Option.some.inj hr
          have hr := congrArg some (hb_x1 _ rfl)
          obtain rfl := Option.some.inj hr
          exact Weak.of 1 ⟨rfl, rfl, trivial⟩ rfl rfl rfl rfl
      · have hr := ho_v1
        clear hb_v1
        refine thn_n ?_
        refine LW.weak hw_v1 ?_
        refine LW.seq ?_
        refine LW.region ?_
        refine LOps.st rfl rfl rfl (LOp.move rfl rfl) ?_
        refine LOps.st rfl rfl rfl (LOp.assign rfl rfl) ?_
        refine LOps.nil ?_
        refine thn_n ?_
        refine LW.ret ?_
        refine noGo_r ?_
        obtain rfl := Option.some.inj hr
        refine finP_ret (.one (.tmp rfl)) ?_
        exact Conv.p
def F1011 (c : Cf) (bad : List Int) (slot : Int) : Option Bool :=
  (F1007 c bad slot).bind fun v1 =>
  (F64 c).bind fun v2 =>
  bif v2 then
    bif decide ((IntKind.i64.wrap (v1.1 + v1.2)) > 0) then
      (F1026 v1.2 c.Den (IntKind.i64.wrap (v1.1 + v1.2)) c.Num).bind fun v3 =>
      some (!v3)
    else
      some false
  else
    some false
set_option maxRecDepth 100000 in
theorem c1011 {c : Cf} {bad : List Int} {slot : Int} {r_ : Bool} (hr : F1011 c bad slot = some r_) : LPure Tryz.prog 11 [cfP c, .slice 1 (bad.map i64P), .int .i64 slot] [.bool r_] := by
  refine LPure.start Tryz.func11 rfl rfl rfl rfl ?_
  unfold F1011 at hr
  refine LW.seq ?_
  refine LW.region ?_
  refine LOps.st rfl rfl rfl (LOp.box rfl rfl rfl rfl rfl) ?_
  refine LOps.st rfl rfl rfl (LOp.assign rfl rfl) ?_
  refine LOps.nil ?_
  refine thn_n ?_
  refine LW.seq ?_
  refine LW.region ?_
  refine LOps.st rfl rfl rfl (LOp.load rfl rfl rfl vt55 rfl rfl) ?_
  refine LOps.st rfl rfl rfl (LOp.move rfl rfl) ?_
  refine LOps.st rfl rfl rfl (LOp.move rfl rfl) ?_
  obtain ⟨v1, h_v1, hr⟩ := bind_get hr
  refine LOps.st rfl rfl rfl (LOp.call rfl rfl rfl (by kernel_rfl) (LC.pure (c1007 h_v1) (.cons Conv.p (.cons Conv.p (.cons Conv.p .nil))))) ?_
  refine LOps.st rfl rfl rfl (LOp.move rfl rfl) ?_
  refine LOps.st rfl rfl rfl (LOp.extract rfl rfl rfl) ?_
  refine LOps.st rfl rfl rfl (LOp.extract rfl rfl rfl) ?_
  refine LOps.st rfl rfl rfl (LOp.assign rfl rfl) ?_
  refine LOps.st rfl rfl rfl (LOp.assign rfl rfl) ?_
  refine LOps.nil ?_
  refine thn_n ?_
  refine LW.seq ?_
  refine LW.region ?_
  refine LOps.st rfl rfl rfl (LOp.load rfl rfl rfl vt55 rfl rfl) ?_
  obtain ⟨v2, h_v2, hr⟩ := bind_get hr
  refine LOps.st rfl rfl rfl (LOp.call rfl rfl rfl (by kernel_rfl) (LC.pure (c64 h_v2) (.cons Conv.p .nil))) ?_
  refine LOps.st rfl rfl rfl (LOp.move rfl rfl) ?_
  refine LOps.cases 18 rfl (fun (g1 : v2 = true) => ?_) (fun (g1 : v2 = false) => ?_)
  · -- g1 is True
    have hr := ite_t g1 hr
    refine LOps.gd rfl rfl rfl (gd g1 rfl) rfl (LOp.move rfl rfl) ?_
    refine LOps.gd rfl rfl rfl (gd g1 rfl) rfl (LOp.move rfl rfl) ?_
    refine LOps.gd rfl rfl rfl (gd g1 rfl) rfl (LOp.bin rfl rfl rfl rfl) ?_
    refine LOps.gd rfl rfl rfl (gd g1 rfl) rfl (LOp.bin rfl rfl rfl rfl) ?_
    refine LOps.st rfl rfl rfl (LOp.pickT rfl (gdl g1 rfl) rfl) ?_
    refine LOps.st rfl rfl rfl (LOp.move rfl rfl) ?_
    refine LOps.cases 24 rfl (fun (g2 : (decide ((IntKind.i64.wrap (v1.1 + v1.2)) > 0)) = true) => ?_) (fun (g2 : (decide ((IntKind.i64.wrap (v1.1 + v1.2)) > 0)) = false) => ?_)
    · -- g2 is True
      have hr := ite_t g2 hr
      refine LOps.gd rfl rfl rfl (gd g2 rfl) rfl (LOp.move rfl rfl) ?_
      refine LOps.gd rfl rfl rfl (gd g2 rfl) rfl (LOp.fieldAddr rfl rfl ft55_4) ?_
      refine LOps.gd rfl rfl rfl (gd g2 rfl) rfl (LOp.load rfl rfl rfl vt3 rfl rfl) ?_
      refine LOps.gd rfl rfl rfl (gd g2 rfl) rfl (LOp.move rfl rfl) ?_
      refine LOps.gd rfl rfl rfl (gd g2 rfl) rfl (LOp.move rfl rfl) ?_
      refine LOps.gd rfl rfl rfl (gd g2 rfl) rfl (LOp.bin rfl rfl rfl rfl) ?_
      refine LOps.gd rfl rfl rfl (gd g2 rfl) rfl (LOp.fieldAddr rfl rfl ft55_3) ?_
      refine LOps.gd rfl rfl rfl (gd g2 rfl) rfl (LOp.load rfl rfl rfl vt3 rfl rfl) ?_
      obtain ⟨v3, h_v3, hr⟩ := bind_get hr
      refine LOps.gd rfl rfl rfl (gd g2 rfl) rfl (LOp.call rfl rfl rfl (by kernel_rfl) (LC.pure (c1026 h_v3) (.cons Conv.p (.cons Conv.p (.cons Conv.p (.cons Conv.p .nil)))))) ?_
      refine LOps.gd rfl rfl rfl (gd g2 rfl) rfl (LOp.not rfl rfl) ?_
      refine LOps.st rfl rfl rfl (LOp.pickT rfl (gdl g2 rfl) rfl) ?_
      refine LOps.st rfl rfl rfl (LOp.assign rfl rfl) ?_
      refine LOps.nil ?_
      refine thn_n ?_
      refine LW.ret ?_
      obtain rfl := Option.some.inj hr
      refine finP_ret (.one (.tmp rfl)) ?_
      exact Conv.p
    · -- g2 is False
      have hr := ite_f g2 hr
      refine LOps.sk rfl rfl rfl (gd g2 rfl) rfl rfl ?_
      refine LOps.sk rfl rfl rfl (gd g2 rfl) rfl rfl ?_
      refine LOps.sk rfl rfl rfl (gd g2 rfl) rfl rfl ?_
      refine LOps.sk rfl rfl rfl (gd g2 rfl) rfl rfl ?_
      refine LOps.sk rfl rfl rfl (gd g2 rfl) rfl rfl ?_
      refine LOps.sk rfl rfl rfl (gd g2 rfl) rfl rfl ?_
      refine LOps.sk rfl rfl rfl (gd g2 rfl) rfl rfl ?_
      refine LOps.sk rfl rfl rfl (gd g2 rfl) rfl rfl ?_
      refine LOps.sk rfl rfl rfl (gd g2 rfl) rfl rfl ?_
      refine LOps.sk rfl rfl rfl (gd g2 rfl) rfl rfl ?_
      refine LOps.st rfl rfl rfl (LOp.pickF rfl (gdl g2 rfl) rfl) ?_
      refine LOps.st rfl rfl rfl (LOp.assign rfl rfl) ?_
      refine LOps.nil ?_
      refine thn_n ?_
      refine LW.ret ?_
      obtain rfl := Option.some.inj hr
      refine finP_ret (.one (.tmp rfl)) ?_
      exact Conv.p
  · -- g1 is False
    have hr := ite_f g1 hr
    refine LOps.sk rfl rfl rfl (gd g1 rfl) rfl rfl ?_
    refine LOps.sk rfl rfl rfl (gd g1 rfl) rfl rfl ?_
    refine LOps.sk rfl rfl rfl (gd g1 rfl) rfl rfl ?_
    refine LOps.sk rfl rfl rfl (gd g1 rfl) rfl rfl ?_
    refine LOps.st rfl rfl rfl (LOp.pickF rfl (gdl g1 rfl) rfl) ?_
    refine LOps.st rfl rfl rfl (LOp.move rfl rfl) ?_
    refine LOps.sk rfl rfl rfl rfl rfl rfl ?_
    refine LOps.sk rfl rfl rfl rfl rfl rfl ?_
    refine LOps.sk rfl rfl rfl rfl rfl rfl ?_
    refine LOps.sk rfl rfl rfl rfl rfl rfl ?_
    refine LOps.sk rfl rfl rfl rfl rfl rfl ?_
    refine LOps.sk rfl rfl rfl rfl rfl rfl ?_
    refine LOps.sk rfl rfl rfl rfl rfl rfl ?_
    refine LOps.sk rfl rfl rfl rfl rfl rfl ?_
    refine LOps.sk rfl rfl rfl rfl rfl rfl ?_
    refine LOps.sk rfl rfl rfl rfl rfl rfl ?_
    refine LOps.st rfl rfl rfl (LOp.pickF rfl rfl rfl) ?_
    refine LOps.st rfl rfl rfl (LOp.assign rfl rfl) ?_
    refine LOps.nil ?_
    refine thn_n ?_
    refine LW.ret ?_
    obtain rfl := Option.some.inj hr
    refine finP_ret (.one (.tmp rfl)) ?_
    exact Conv.p
open Go.Proofs
structure FIxN_L1 where
  t4 : Int
def FIxN_s1 (x1 : FIxN_L1) : Option (FIxN_L1 ⊕ FIxN_L1) :=
  bif decide (0 < 0) then
    none
  else
    some (.inr (FIxN_L1.mk x1.t4))
def FIxN : Option Int :=
  (iter FIxN_s1 big (FIxN_L1.mk 0)).bind fun _ =>
  some (-1)
set_option maxRecDepth 100000 in
theorem cFIxN {r_ : Int} (hr : FIxN = some r_) : LC Tryz.prog 45 [.zs, .fn 28 [] [.ptr 1 0, .ptr 0 0]] [.box [.zs, .p (.int .u64 0), .p (.int .i64 0), .p (.int .i64 0), .p (.int .i64 0), .zs, .p (.int .i64 0), .zs, .zs], .box [.p (.int .u64 0), .p (.int .u64 0)]] (Is (.p (.int .i64 r_)) [.box [.zs, .p (.int .u64 0), .p (.int .i64 0), .p (.int .i64 0), .p (.int .i64 0), .zs, .p (.int .i64 0), .zs, .zs], .box [.p (.int .u64 0), .p (.int .u64 0)]]) := by
  refine LC.start Tryz.func45 rfl rfl rfl ?_
  unfold FIxN at hr
  refine LW.seq ?_
  refine LW.region ?_
  refine LOps.st rfl rfl rfl (LOp.assign rfl rfl) ?_
  refine LOps.nil ?_
  refine thn_n ?_
  refine LW.seq ?_
  refine LW.seq ?_
  refine LW.region ?_
  refine LOps.st rfl rfl rfl (LOp.move rfl rfl) ?_
  refine LOps.st rfl rfl rfl (LOp.lenZ rfl rfl (by kernel_rfl)) ?_
  refine LOps.st rfl rfl rfl (LOp.move rfl rfl) ?_
  refine LOps.nil ?_
  refine thn_n ?_
  obtain ⟨v1, hb_v1, ho_v1⟩ := bind_get hr
  clear hr
  refine LW.tail (E := [(4, .p (.int .i64 v1.t4))]) (O := [.box [.zs, .p (.int .u64 0), .p (.int .i64 0), .p (.int .i64 0), .p (.int .i64 0), .zs, .p (.int .i64 0), .zs, .zs], .box [.p (.int .u64 0), .p (.int .u64 0)]]) ?_ (fun env_v1 H_v1 hw_v1 => ?_)
  · refine LW.block ?_
    refine LW.iterB (E := fun x1 : FIxN_L1 => [(0, .zs), (1, .fn 28 [] [.ptr 1 0, .ptr 0 0]), (4, .p (.int .i64 x1.t4)), (7, .p (.int .i64 0)), (8, .p (.int .i64 0))]) (O := fun x1 => [.box [.zs, .p (.int .u64 0), .p (.int .i64 0), .p (.int .i64 0), .p (.int .i64 0), .zs, .p (.int .i64 0), .zs, .zs], .box [.p (.int .u64 0), .p (.int .u64 0)]]) hb_v1 (Weak.of 2 ⟨rfl, rfl, rfl, rfl, rfl, trivial⟩ rfl rfl rfl rfl) (fun x1 z_x1 hr hb_x1 => ?_)
    unfold FIxN_s1 at hr
    refine LW.seq ?_
    refine LW.region ?_
    refine LOps.st rfl rfl rfl (LOp.bin rfl rfl rfl rfl) ?_
    refine LOps.nil ?_
    refine thn_n ?_
    refine LW.seq ?_
    refine LW.cond rfl (fun (g1 : (decide (0 < 0)) = true) => ?_) (fun (g1 : (decide (0 < 0)) = false) => ?_)
    · -- g1 is True
      have hr := ite_t g1 hr
      refine LW.skip ?_
      refine thn_n ?_
      refine LW.seq ?_
      refine LW.block ?_
      refine LW.seq ?_
      cases hr
    · -- g1 is False
      have hr := ite_f g1 hr
      refine LW.exit ?_
      refine thn_e ?_
      refine thn_e ?_
      refine inBlk_self ?_
      refine thn_n ?_
      obtain rfl := Option.some.inj hr
      have hr := congrArg some (hb_x1 _ rfl)
      obtain rfl := Option.some.inj hr
      exact Weak.of 2 ⟨rfl, trivial⟩ rfl rfl rfl rfl
  · have hr := ho_v1
    clear hb_v1
    refine thn_n ?_
    refine LW.weak hw_v1 ?_
    refine LW.seq ?_
    refine LW.region ?_
    refine LOps.st rfl rfl rfl (LOp.assign rfl rfl) ?_
    refine LOps.nil ?_
    refine thn_n ?_
    refine LW.ret ?_
    obtain rfl := Option.some.inj hr
    refine fin_ret (.one (.tmp rfl)) ?_
    exact ⟨rfl, rfl⟩
def FCfN : Option Bool :=
  (FIxN).bind fun v1 =>
  some (decide (v1 ≥ 0))
set_option maxRecDepth 100000 in
theorem cFCfN {r_ : Bool} (hr : FCfN = some r_) : LC Tryz.prog 27 [.zs, .fn 28 [] [.ptr 1 0, .ptr 0 0]] [.box [.zs, .p (.int .u64 0), .p (.int .i64 0), .p (.int .i64 0), .p (.int .i64 0), .zs, .p (.int .i64 0), .zs, .zs], .box [.p (.int .u64 0), .p (.int .u64 0)]] (Is (.p (.bool r_)) [.box [.zs, .p (.int .u64 0), .p (.int .i64 0), .p (.int .i64 0), .p (.int .i64 0), .zs, .p (.int .i64 0), .zs, .zs], .box [.p (.int .u64 0), .p (.int .u64 0)]]) := by
  refine LC.start Tryz.func27 rfl rfl rfl ?_
  unfold FCfN at hr
  refine LW.seq ?_
  refine LW.region ?_
  refine LOps.st rfl rfl rfl (LOp.assign rfl rfl) ?_
  refine LOps.nil ?_
  refine thn_n ?_
  refine LW.seq ?_
  refine LW.region ?_
  refine LOps.st rfl rfl rfl (LOp.move rfl rfl) ?_
  refine LOps.st rfl rfl rfl (LOp.move rfl rfl) ?_
  obtain ⟨v1, h_v1, hr⟩ := bind_get hr
  refine LOps.st rfl rfl rfl (LOp.call rfl rfl rfl (by kernel_rfl) (cFIxN h_v1)) ?_
  refine LOps.st rfl rfl rfl (LOp.bin rfl rfl rfl rfl) ?_
  refine LOps.st rfl rfl rfl (LOp.assign rfl rfl) ?_
  refine LOps.nil ?_
  refine thn_n ?_
  refine LW.ret ?_
  obtain rfl := Option.some.inj hr
  refine fin_ret (.one (.tmp rfl)) ?_
  exact ⟨rfl, rfl⟩
def FHoldsN : Option Bool :=
  (FCfN).bind fun v1 =>
  some (!v1)
set_option maxRecDepth 100000 in
theorem cFHoldsN {r_ : Bool} (hr : FHoldsN = some r_) : LC Tryz.prog 12 [.agg [.zs, .p (.int .u64 0), .p (.int .i64 0), .p (.int .i64 0), .p (.int .i64 0), .zs, .p (.int .i64 0), .zs, .zs], .p (.agg [.int .u64 0, .int .u64 0])] [] (Is (.p (.bool r_)) []) := by
  refine LC.start Tryz.func12 rfl rfl rfl ?_
  unfold FHoldsN at hr
  refine LW.seq ?_
  refine LW.region ?_
  refine LOps.st rfl rfl rfl (LOp.box rfl rfl rfl rfl rfl) ?_
  refine LOps.st rfl rfl rfl (LOp.box rfl rfl rfl rfl rfl) ?_
  refine LOps.st rfl rfl rfl (LOp.assign rfl rfl) ?_
  refine LOps.nil ?_
  refine thn_n ?_
  refine LW.seq ?_
  refine LW.region ?_
  refine LOps.st rfl rfl rfl (LOp.fieldAddr rfl rfl ft1038_3) ?_
  refine LOps.st rfl rfl rfl (LOp.load rfl rfl rfl vt1035 rfl rfl) ?_
  refine LOps.st rfl rfl rfl (LOp.makeFunc rfl rfl rfl) ?_
  obtain ⟨v1, h_v1, hr⟩ := bind_get hr
  refine LOps.st rfl rfl rfl (LOp.call rfl rfl rfl (by kernel_rfl) (cFCfN h_v1)) ?_
  refine LOps.st rfl rfl rfl (LOp.not rfl rfl) ?_
  refine LOps.st rfl rfl rfl (LOp.assign rfl rfl) ?_
  refine LOps.nil ?_
  refine thn_n ?_
  refine LW.ret ?_
  obtain rfl := Option.some.inj hr
  refine fin_retW (env' := [(4, .p (.bool (!v1)))]) (H' := []) (Weak.of 0 ⟨rfl, trivial⟩ rfl rfl rfl rfl) (.one (.tmp rfl)) ?_
  exact ⟨rfl, rfl⟩
structure FEachN_L1 where
  t7 : Int
def FEachN_s1 (x1 : FEachN_L1) : Option (FEachN_L1 ⊕ FEachN_L1) :=
  bif decide (0 < x1.t7) then
    none
  else
    some (.inr (FEachN_L1.mk x1.t7))
def FEachN : Option Unit :=
  (iter FEachN_s1 big (FEachN_L1.mk 0)).bind fun _ =>
  some ()
set_option maxRecDepth 100000 in
theorem cFEachN {r_ : Unit} (hr : FEachN = some r_) : LC Tryz.prog 49 [.zs, .fn 50 [] [.ptr 0 0]] [.box [.zs, .zs]] (Is (.tup []) [.box [.zs, .zs]]) := by
  refine LC.start Tryz.func49 rfl rfl rfl ?_
  unfold FEachN at hr
  refine LW.seq ?_
  refine LW.region ?_
  refine LOps.st rfl rfl rfl (LOp.move rfl rfl) ?_
  refine LOps.st rfl rfl rfl (LOp.lenZ rfl rfl (by kernel_rfl)) ?_
  refine LOps.st rfl rfl rfl (LOp.move rfl rfl) ?_
  refine LOps.nil ?_
  refine thn_n ?_
  obtain ⟨v1, hb_v1, ho_v1⟩ := bind_get hr
  clear hr
  refine LW.tail (E := []) (O := [.box [.zs, .zs]]) ?_ (fun env_v1 H_v1 hw_v1 => ?_)
  · refine LW.block ?_
    refine LW.iterB (E := fun x1 : FEachN_L1 => [(1, .fn 50 [] [.ptr 0 0]), (6, .zs), (7, .p (.int .i64 x1.t7)), (8, .p (.int .i64 0))]) (O := fun x1 => [.box [.zs, .zs]]) hb_v1 (Weak.of 1 ⟨rfl, rfl, rfl, rfl, trivial⟩ rfl rfl rfl rfl) (fun x1 z_x1 hr hb_x1 => ?_)
    unfold FEachN_s1 at hr
    refine LW.seq ?_
    refine LW.region ?_
    refine LOps.st rfl rfl rfl (LOp.bin rfl rfl rfl rfl) ?_
    refine LOps.nil ?_
    refine thn_n ?_
    refine LW.seq ?_
    refine LW.cond rfl (fun (g1 : (decide (0 < x1.t7)) = true) => ?_) (fun (g1 : (decide (0 < x1.t7)) = false) => ?_)
    · -- g1 is True
      have hr := ite_t g1 hr
      refine LW.skip ?_
      refine thn_n ?_
      refine LW.seq ?_
      refine LW.block ?_
      refine LW.seq ?_
      cases hr
    · -- g1 is False
      have hr := ite_f g1 hr
      refine LW.exit ?_
      refine thn_e ?_
      refine thn_e ?_
      refine inBlk_self ?_
      refine thn_n ?_
      obtain rfl := Option.some.inj hr
      have hr := congrArg some (hb_x1 _ rfl)
      obtain rfl := Option.some.inj hr
      exact Weak.of 1 trivial rfl rfl rfl rfl
  · have hr := ho_v1
    clear hb_v1
    obtain rfl := Option.some.inj hr
    exact fin_endW hw_v1 .none ⟨rfl, rfl⟩
def FAllN : Option Unit :=
  (FEachN).bind fun _ =>
  some ()
set_option maxRecDepth 100000 in
theorem cFAllN {r_ : Unit} (hr : FAllN = some r_) : LC Tryz.prog 31 [.zs] [] (Is (.agg [.zs, .zs]) [.box [.zs, .zs]]) := by
  refine LC.start Tryz.func31 rfl rfl rfl ?_
  unfold FAllN at hr
  refine LW.seq ?_
  refine LW.region ?_
  refine LOps.st rfl rfl rfl (LOp.alloc rfl zt75 rfl rfl) ?_
  refine LOps.nil ?_
  refine thn_n ?_
  refine LW.seq ?_
  refine LW.region ?_
  refine LOps.st rfl rfl rfl (LOp.move rfl rfl) ?_
  refine LOps.st rfl rfl rfl (LOp.makeFunc rfl rfl rfl) ?_
  obtain ⟨v1, h_v1, hr⟩ := bind_get hr
  refine LOps.st rfl rfl rfl (LOp.call rfl rfl rfl (by kernel_rfl) (cFEachN h_v1)) ?_
  refine LOps.nil ?_
  refine thn_n ?_
  refine LW.seq ?_
  refine LW.region ?_
  refine LOps.st rfl rfl rfl (LOp.load rfl rfl rfl vt75 rfl rfl) ?_
  refine LOps.st rfl rfl rfl (LOp.store rfl rfl rfl rfl vt75 rfl rfl rfl rfl) ?_
  refine LOps.nil ?_
  refine thn_n ?_
  refine LW.ret ?_
  obtain rfl := Option.some.inj hr
  refine fin_ret (.one (.cellAgg rfl rfl (by kernel_rfl) rfl)) ?_
  exact ⟨rfl, rfl⟩
structure FSeenN_L1 where
  t15 : Int
structure FSeenN_L2 where
  t32 : Int
  out : Vw
def FSeenN_s1 (x1 : FSeenN_L1) : Option (FSeenN_L1 ⊕ FSeenN_L1) :=
  bif decide (0 < x1.t15) then
    none
  else
    some (.inr (FSeenN_L1.mk x1.t15))
def FSeenN_s2 (l : List Ac) (x2 : FSeenN_L2) : Option (FSeenN_L2 ⊕ FSeenN_L2) :=
  bif decide (x2.t32 < (l.length : Int)) then
    (ix l x2.t32).bind fun y1 =>
    (F91 x2.out (Vw.mk y1.B y1.V)).bind fun v4 =>
    some (.inl (FSeenN_L2.mk (IntKind.i64.wrap (x2.t32 + 1)) v4))
  else
    some (.inr (FSeenN_L2.mk x2.t32 x2.out))
def FSeenN (l : List Ac) : Option Vw :=
  (FAllN).bind fun _ =>
  (iter FSeenN_s1 big (FSeenN_L1.mk 0)).bind fun _ =>
  (iter (FSeenN_s2 l) big (FSeenN_L2.mk 0 (Vw.mk [] []))).bind fun v3 =>
  some v3.out
set_option maxRecDepth 100000 in
theorem cFSeenN {l : List Ac} {r_ : Vw} (hr : FSeenN l = some r_) : LC Tryz.prog 13 [.agg [.zs, .p (.int .u64 0), .p (.int .i64 0), .p (.int .i64 0), .p (.int .i64 0), .zs, .p (.int .i64 0), .zs, .zs], .p (.slice 5 (l.map acP))] [] (Is (.p (vwP r_)) [.box [.zs, .p (.int .u64 0), .p (.int .i64 0), .p (.int .i64 0), .p (.int .i64 0), .zs, .p (.int .i64 0), .zs, .zs], .box [.p (.slice 5 (r_.B.map blkP)), .p (.slice 4 (r_.V.map vtP))], .box [.zs, .zs], .box [.p (.slice 5 (r_.B.map blkP)), .p (.slice 4 (r_.V.map vtP))]]) := by
  refine LC.start Tryz.func13 rfl rfl rfl ?_
  unfold FSeenN at hr
  refine LW.seq ?_
  refine LW.region ?_
  refine LOps.st rfl rfl rfl (LOp.box rfl rfl rfl rfl rfl) ?_
  refine LOps.st rfl rfl rfl (LOp.alloc rfl zt75 rfl rfl) ?_
  refine LOps.nil ?_
  refine thn_n ?_
  refine LW.seq ?_
  refine LW.region ?_
  refine LOps.st rfl rfl rfl (LOp.fieldAddr rfl rfl ft1038_3) ?_
  refine LOps.st rfl rfl rfl (LOp.load rfl rfl rfl vt1035 rfl rfl) ?_
  obtain ⟨v1, h_v1, hr⟩ := bind_get hr
  refine LOps.st rfl rfl rfl (LOp.call rfl rfl rfl (by kernel_rfl) (LC.frameX (x' := .agg [.zs, .zs]) (H' := [.box [.zs, .p (.int .u64 0), .p (.int .i64 0), .p (.int .i64 0), .p (.int .i64 0), .zs, .p (.int .i64 0), .zs, .zs], .box [.zs, .zs], .box [.zs, .zs]]) (cFAllN h_v1) (.consZ .nil) rfl rfl (by simp only [List.map_cons, List.map_nil, List.cons_append, List.nil_append, LObj.shift, LV.shifts, LV.shift] <;> rfl))) ?_
  refine LOps.st rfl rfl rfl (LOp.alloc rfl zt75 rfl rfl) ?_
  refine LOps.st rfl rfl rfl (LOp.store rfl rfl rfl rfl vt75 rfl rfl rfl rfl) ?_
  refine LOps.nil ?_
  refine thn_n ?_
  refine LW.seq ?_
  refine LW.seq ?_
  refine LW.region ?_
  refine LOps.st rfl rfl rfl (LOp.fieldAddr rfl rfl ft1038_4) ?_
  refine LOps.st rfl rfl rfl (LOp.load rfl rfl rfl vt1036 rfl rfl) ?_
  refine LOps.st rfl rfl rfl (LOp.lenZ rfl rfl (by kernel_rfl)) ?_
  refine LOps.st rfl rfl rfl (LOp.move rfl rfl) ?_
  refine LOps.nil ?_
  refine thn_n ?_
  obtain ⟨v2, hb_v2, ho_v2⟩ := bind_get hr
  clear hr
  refine LW.tail (E := [(1, .p (.slice 5 (l.map acP))), (4, .ptr 1 0), (5, .ptr 3 0)]) (O := [.box [.zs, .p (.int .u64 0), .p (.int .i64 0), .p (.int .i64 0), .p (.int .i64 0), .zs, .p (.int .i64 0), .zs, .zs], .box [.zs, .zs], .box [.zs, .zs], .box [.zs, .zs]]) ?_ (fun env_v2 H_v2 hw_v2 => ?_)
  · refine LW.block ?_
    refine LW.iterB (E := fun x1 : FSeenN_L1 => [(1, .p (.slice 5 (l.map acP))), (4, .ptr 1 0), (5, .ptr 3 0), (14, .zs), (15, .p (.int .i64 x1.t15)), (16, .p (.int .i64 0))]) (O := fun x1 => [.box [.zs, .p (.int .u64 0), .p (.int .i64 0), .p (.int .i64 0), .p (.int .i64 0), .zs, .p (.int .i64 0), .zs, .zs], .box [.zs, .zs], .box [.zs, .zs], .box [.zs, .zs]]) hb_v2 (Weak.of 4 ⟨rfl, rfl, rfl, rfl, rfl, rfl, trivial⟩ rfl rfl rfl rfl) (fun x1 z_x1 hr hb_x1 => ?_)
    unfold FSeenN_s1 at hr
    refine LW.seq ?_
    refine LW.region ?_
    refine LOps.st rfl rfl rfl (LOp.bin rfl rfl rfl rfl) ?_
    refine LOps.nil ?_
    refine thn_n ?_
    refine LW.seq ?_
    refine LW.cond rfl (fun (g1 : (decide (0 < x1.t15)) = true) => ?_) (fun (g1 : (decide (0 < x1.t15)) = false) => ?_)
    · -- g1 is True
      have hr := ite_t g1 hr
      refine LW.skip ?_
      refine thn_n ?_
      refine LW.seq ?_
      refine LW.block ?_
      refine LW.seq ?_
      cases hr
    · -- g1 is False
      have hr := ite_f g1 hr
      refine LW.exit ?_
      refine thn_e ?_
      refine thn_e ?_
      refine inBlk_self ?_
      refine thn_n ?_
      obtain rfl := Option.some.inj hr
      have hr := congrArg some (hb_x1 _ rfl)
      obtain rfl := Option.some.inj hr
      exact Weak.of 4 ⟨rfl, rfl, rfl, trivial⟩ rfl rfl rfl rfl
  · have hr := ho_v2
    clear hb_v2
    refine thn_n ?_
    refine LW.weak hw_v2 ?_
    refine LW.seq ?_
    refine LW.seq ?_
    refine LW.ent (Ent.zsCell (i := 3) (j := 0) (m := 5) rfl rfl rfl rfl) ?_
    refine LW.ent (Ent.zsCell (i := 3) (j := 1) (m := 4) rfl rfl rfl rfl) ?_
    refine LW.region ?_
    refine LOps.st rfl rfl rfl (LOp.move rfl rfl) ?_
    refine LOps.st rfl rfl rfl (LOp.lenM rfl rfl (by kernel_rfl)) ?_
    refine LOps.st rfl rfl rfl (LOp.move rfl rfl) ?_
    refine LOps.nil ?_
    refine thn_n ?_
    obtain ⟨v3, hb_v3, ho_v3⟩ := bind_get hr
    clear hr
    refine LW.tail (E := [(4, .ptr 1 0), (5, .ptr 3 0)]) (O := [.box [.zs, .p (.int .u64 0), .p (.int .i64 0), .p (.int .i64 0), .p (.int .i64 0), .zs, .p (.int .i64 0), .zs, .zs], .box [.zs, .zs], .box [.zs, .zs], .box [.p (.slice 5 (v3.out.B.map blkP)), .p (.slice 4 (v3.out.V.map vtP))]]) ?_ (fun env_v3 H_v3 hw_v3 => ?_)
    · refine LW.block ?_
      refine LW.iterB (E := fun x2 : FSeenN_L2 => [(4, .ptr 1 0), (5, .ptr 3 0), (30, .p (.slice 5 (l.map acP))), (31, .p (.int .i64 (l.length : Int))), (32, .p (.int .i64 x2.t32))]) (O := fun x2 => [.box [.zs, .p (.int .u64 0), .p (.int .i64 0), .p (.int .i64 0), .p (.int .i64 0), .zs, .p (.int .i64 0), .zs, .zs], .box [.zs, .zs], .box [.zs, .zs], .box [.p (.slice 5 (x2.out.B.map blkP)), .p (.slice 4 (x2.out.V.map vtP))]]) hb_v3 (Weak.of 4 ⟨rfl, rfl, rfl, rfl, rfl, trivial⟩ rfl rfl rfl rfl) (fun x2 z_x2 hr hb_x2 => ?_)
      unfold FSeenN_s2 at hr
      refine LW.seq ?_
      refine LW.region ?_
      refine LOps.st rfl rfl rfl (LOp.bin rfl rfl rfl rfl) ?_
      refine LOps.nil ?_
      refine thn_n ?_
      refine LW.seq ?_
      refine LW.cond rfl (fun (g2 : (decide (x2.t32 < (l.length : Int))) = true) => ?_) (fun (g2 : (decide (x2.t32 < (l.length : Int))) = false) => ?_)
      · -- g2 is True
        have hr := ite_t g2 hr
        refine LW.skip ?_
        refine thn_n ?_
        refine LW.seq ?_
        refine LW.block ?_
        refine LW.seq ?_
        refine LW.region ?_
        obtain ⟨y1, h_y1, hr⟩ := bind_get hr
        refine LOps.st rfl rfl rfl (LOp.indexAddrX rfl rfl rfl st1050 h_y1 rfl) ?_
        refine LOps.st rfl rfl rfl (LOp.loadC rfl rfl rfl vt1049 rfl rfl) ?_
        refine LOps.st rfl rfl rfl (LOp.alloc rfl zt1049 rfl rfl) ?_
        refine LOps.st rfl rfl rfl (LOp.store rfl rfl rfl rfl vt1049 rfl rfl rfl rfl) ?_
        refine LOps.nil ?_
        refine thn_n ?_
        refine LW.region ?_
        refine LOps.st rfl rfl rfl (LOp.load rfl rfl rfl vt75 rfl rfl) ?_
        refine LOps.st rfl rfl rfl (LOp.fieldAddr rfl rfl ft1049_3) ?_
        refine LOps.st rfl rfl rfl (LOp.load rfl rfl rfl vt27 rfl rfl) ?_
        refine LOps.st rfl rfl rfl (LOp.fieldAddr rfl rfl ft1049_4) ?_
        refine LOps.st rfl rfl rfl (LOp.load rfl rfl rfl vt68 rfl rfl) ?_
        refine LOps.st rfl rfl rfl (LOp.build rfl bt75 rfl rfl rfl) ?_
        obtain ⟨v4, h_v4, hr⟩ := bind_get hr
        refine LOps.st rfl rfl rfl (LOp.call rfl rfl rfl (by kernel_rfl) (LC.pure (c91 h_v4) (.cons Conv.p (.cons Conv.p .nil)))) ?_
        refine LOps.st rfl rfl rfl (LOp.store rfl rfl rfl rfl vt75 rfl rfl rfl rfl) ?_
        refine LOps.nil ?_
        refine inBlk_n ?_
        refine thn_n ?_
        refine LW.region ?_
        refine LOps.st rfl rfl rfl (LOp.bin rfl rfl rfl rfl) ?_
        refine LOps.st rfl rfl rfl (LOp.move rfl rfl) ?_
        refine LOps.nil ?_
        refine thn_n ?_
        obtain rfl := Option.some.inj hr
        exact ⟨_, rfl, Weak.of 4 ⟨rfl, rfl, rfl, rfl, rfl, trivial⟩ rfl rfl rfl rfl⟩
      · -- g2 is False
        have hr := ite_f g2 hr
        refine LW.exit ?_
        refine thn_e ?_
        refine thn_e ?_
        refine inBlk_self ?_
        refine thn_n ?_
        obtain rfl := Option.some.inj hr
        have hr := congrArg some (hb_x2 _ rfl)
        obtain rfl := Option.some.inj hr
        exact Weak.of 4 ⟨rfl, rfl, trivial⟩ rfl rfl rfl rfl
    · have hr := ho_v3
      clear hb_v3
      refine thn_n ?_
      refine LW.weak hw_v3 ?_
      refine LW.seq ?_
      refine LW.region ?_
      refine LOps.st rfl rfl rfl (LOp.load rfl rfl rfl vt75 rfl rfl) ?_
      refine LOps.st rfl rfl rfl (LOp.store rfl rfl rfl rfl vt75 rfl rfl rfl rfl) ?_
      refine LOps.nil ?_
      refine thn_n ?_
      refine LW.ret ?_
      obtain rfl := Option.some.inj hr
      refine fin_ret (.one (.cellAgg rfl rfl (by kernel_rfl) rfl)) ?_
      exact ⟨rfl, rfl⟩
open Go.Proofs
def F1006 : Option Bool :=
  (F1007 (Cf.mk [1, 1, 1] 0 1 1 4) [1] 5).bind fun v1 =>
  bif v1.1 == 2 then
    bif v1.2 == 1 then
      (F1010 (Cf.mk [1, 1, 1] 0 1 1 4) [1] 1 9).bind fun v2 =>
      bif v2 then
        (F1011 (Cf.mk [1, 1, 1] 0 1 1 4) [1] 5).bind fun v3 =>
        bif !v3 then
          (F1011 (Cf.mk [1, 1, 1] 0 1 1 4) ([] : List Int) 5).bind fun v4 =>
          bif v4 then
            (FHoldsN).bind fun v5 =>
            bif v5 then
              (FSeenN [Ac.mk 0 0 false [Bk.mk 1 0 (0, 0) 0] []]).bind fun v6 =>
              some ((v6.B.length : Int) == 1)
            else
              some false
          else
            some false
        else
          some false
      else
        some false
    else
      some false
  else
    some false
set_option maxRecDepth 100000 in
theorem c1006 {r_ : Bool} (hr : F1006 = some r_) : LPure Tryz.prog 6 [] [.bool r_] := by
  refine LPure.start Tryz.func6 rfl rfl rfl rfl ?_
  unfold F1006 at hr
  refine LW.seq ?_
  refine LW.region ?_
  refine LOps.st rfl rfl rfl (LOp.assign rfl rfl) ?_
  refine LOps.nil ?_
  refine thn_n ?_
  refine LW.seq ?_
  refine LW.region ?_
  refine LOps.st rfl rfl rfl (LOp.buildSlice rfl st49 rfl rfl rfl rfl rfl) ?_
  refine LOps.st rfl rfl rfl (LOp.build rfl bt55 rfl rfl rfl) ?_
  refine LOps.st rfl rfl rfl (LOp.alloc rfl zt55 rfl rfl) ?_
  refine LOps.st rfl rfl rfl (LOp.store rfl rfl rfl rfl vt55 rfl rfl rfl rfl) ?_
  refine LOps.nil ?_
  refine thn_n ?_
  refine LW.seq ?_
  refine LW.region ?_
  refine LOps.st rfl rfl rfl (LOp.load rfl rfl rfl vt55 rfl rfl) ?_
  refine LOps.st rfl rfl rfl (LOp.buildSlice rfl st49 rfl rfl rfl rfl rfl) ?_
  obtain ⟨v1, h_v1, hr⟩ := bind_get hr
  refine LOps.st rfl rfl rfl (LOp.call rfl rfl rfl (by kernel_rfl) (LC.pure (c1007 h_v1) (.cons Conv.p (.cons Conv.p (.cons Conv.p .nil))))) ?_
  refine LOps.st rfl rfl rfl (LOp.move rfl rfl) ?_
  refine LOps.st rfl rfl rfl (LOp.extract rfl rfl rfl) ?_
  refine LOps.st rfl rfl rfl (LOp.extract rfl rfl rfl) ?_
  refine LOps.st rfl rfl rfl (LOp.assign rfl rfl) ?_
  refine LOps.st rfl rfl rfl (LOp.assign rfl rfl) ?_
  refine LOps.nil ?_
  refine thn_n ?_
  refine LW.seq ?_
  refine LW.region ?_
  refine LOps.st rfl rfl rfl (LOp.move rfl rfl) ?_
  refine LOps.st rfl rfl rfl (LOp.bin rfl rfl rfl rfl) ?_
  refine LOps.st rfl rfl rfl (LOp.move rfl rfl) ?_
  refine LOps.cases 14 rfl (fun (g1 : (v1.1 == 2) = true) => ?_) (fun (g1 : (v1.1 == 2) = false) => ?_)
  · -- g1 is True
    have hr := ite_t g1 hr
    refine LOps.gd rfl rfl rfl (gd g1 rfl) rfl (LOp.move rfl rfl) ?_
    refine LOps.gd rfl rfl rfl (gd g1 rfl) rfl (LOp.bin rfl rfl rfl rfl) ?_
    refine LOps.st rfl rfl rfl (LOp.pickT rfl (gdl g1 rfl) rfl) ?_
    refine LOps.st rfl rfl rfl (LOp.move rfl rfl) ?_
    refine LOps.cases 18 rfl (fun (g2 : (v1.2 == 1) = true) => ?_) (fun (g2 : (v1.2 == 1) = false) => ?_)
    · -- g2 is True
      have hr := ite_t g2 hr
      refine LOps.gd rfl rfl rfl (gd g2 rfl) rfl (LOp.load rfl rfl rfl vt55 rfl rfl) ?_
      refine LOps.gd rfl rfl rfl (gd g2 rfl) rfl (LOp.buildSlice rfl st49 rfl rfl rfl rfl rfl) ?_
      obtain ⟨v2, h_v2, hr⟩ := bind_get hr
      refine LOps.gd rfl rfl rfl (gd g2 rfl) rfl (LOp.call rfl rfl rfl (by kernel_rfl) (LC.pure (c1010 h_v2) (.cons Conv.p (.cons Conv.p (.cons Conv.p (.cons Conv.p .nil)))))) ?_
      refine LOps.st rfl rfl rfl (LOp.pickT rfl (gdl g2 rfl) rfl) ?_
      refine LOps.st rfl rfl rfl (LOp.move rfl rfl) ?_
      refine LOps.cases 23 rfl (fun (g3 : v2 = true) => ?_) (fun (g3 : v2 = false) => ?_)
      · -- g3 is True
        have hr := ite_t g3 hr
        refine LOps.gd rfl rfl rfl (gd g3 rfl) rfl (LOp.load rfl rfl rfl vt55 rfl rfl) ?_
        refine LOps.gd rfl rfl rfl (gd g3 rfl) rfl (LOp.buildSlice rfl st49 rfl rfl rfl rfl rfl) ?_
        obtain ⟨v3, h_v3, hr⟩ := bind_get hr
        refine LOps.gd rfl rfl rfl (gd g3 rfl) rfl (LOp.call rfl rfl rfl (by kernel_rfl) (LC.pure (c1011 h_v3) (.cons Conv.p (.cons Conv.p (.cons Conv.p .nil))))) ?_
        refine LOps.gd rfl rfl rfl (gd g3 rfl) rfl (LOp.not rfl rfl) ?_
        refine LOps.st rfl rfl rfl (LOp.pickT rfl (gdl g3 rfl) rfl) ?_
        refine LOps.st rfl rfl rfl (LOp.move rfl rfl) ?_
        refine LOps.cases 29 rfl (fun (g4 : (!v3) = true) => ?_) (fun (g4 : (!v3) = false) => ?_)
        · -- g4 is True
          have hr := ite_t g4 hr
          refine LOps.gd rfl rfl rfl (gd g4 rfl) rfl (LOp.load rfl rfl rfl vt55 rfl rfl) ?_
          obtain ⟨v4, h_v4, hr⟩ := bind_get hr
          refine LOps.gd rfl rfl rfl (gd g4 rfl) rfl (LOp.call rfl rfl rfl (by kernel_rfl) (LC.pure (c1011 h_v4) (.cons Conv.p (.cons Conv.zs (.cons Conv.p .nil))))) ?_
          refine LOps.st rfl rfl rfl (LOp.pickT rfl (gdl g4 rfl) rfl) ?_
          refine LOps.st rfl rfl rfl (LOp.move rfl rfl) ?_
          refine LOps.cases 33 rfl (fun (g5 : v4 = true) => ?_) (fun (g5 : v4 = false) => ?_)
          · -- g5 is True
            have hr := ite_t g5 hr
            refine LOps.gd rfl rfl rfl (gd g5 rfl) rfl (LOp.build rfl bt1038 rfl rfl rfl) ?_
            refine LOps.gd rfl rfl rfl (gd g5 rfl) rfl (LOp.build rfl bt24 rfl rfl rfl) ?_
            obtain ⟨v5, h_v5, hr⟩ := bind_get hr
            refine LOps.gd rfl rfl rfl (gd g5 rfl) rfl (LOp.call rfl rfl rfl (by kernel_rfl) (LC.pre (cFHoldsN h_v5) rfl rfl rfl)) ?_
            refine LOps.st rfl rfl rfl (LOp.pickT rfl (gdl g5 rfl) rfl) ?_
            refine LOps.st rfl rfl rfl (LOp.move rfl rfl) ?_
            refine LOps.cases 38 rfl (fun (g6 : v5 = true) => ?_) (fun (g6 : v5 = false) => ?_)
            · -- g6 is True
              have hr := ite_t g6 hr
              refine LOps.gd rfl rfl rfl (gd g6 rfl) rfl (LOp.build rfl bt1038 rfl rfl rfl) ?_
              refine LOps.gd rfl rfl rfl (gd g6 rfl) rfl (LOp.build rfl bt42 rfl rfl rfl) ?_
              refine LOps.gd rfl rfl rfl (gd g6 rfl) rfl (LOp.buildSlice rfl st27 rfl rfl rfl rfl rfl) ?_
              refine LOps.gd rfl rfl rfl (gd g6 rfl) rfl (LOp.toP (p := .agg [.int .i64 0, .int .i64 0, .bool false, .slice 5 ([Bk.mk 1 0 (0, 0) 0].map blkP), .slice 4 (([] : List Vt).map vtP)]) (LOp.build rfl bt1049 rfl rfl rfl) (Conv.agg (.cons Conv.p (.cons Conv.p (.cons Conv.p (.cons Conv.p (.cons Conv.zs .nil))))))) ?_
              refine LOps.gd rfl rfl rfl (gd g6 rfl) rfl (LOp.buildSlice rfl st1050 rfl rfl rfl rfl rfl) ?_
              obtain ⟨v6, h_v6, hr⟩ := bind_get hr
              refine LOps.gd rfl rfl rfl (gd g6 rfl) rfl (LOp.call rfl rfl rfl (by kernel_rfl) (LC.frameX (x' := .p (vwP v6)) (H' := [.box [.p (.slice 1 ([1, 1, 1].map i64P)), .p (.int .u64 0), .p (.int .i64 1), .p (.int .i64 1), .p (.int .i64 4)], .box [.zs, .p (.int .u64 0), .p (.int .i64 0), .p (.int .i64 0), .p (.int .i64 0), .zs, .p (.int .i64 0), .zs, .zs], .box [.p (.slice 5 (v6.B.map blkP)), .p (.slice 4 (v6.V.map vtP))], .box [.zs, .zs], .box [.p (.slice 5 (v6.B.map blkP)), .p (.slice 4 (v6.V.map vtP))]]) (cFSeenN h_v6) (.consA rfl (.consC Conv.p .nil)) rfl rfl (by simp only [List.map_cons, List.map_nil, List.cons_append, List.nil_append, LObj.shift, LV.shifts, LV.shift] <;> rfl))) ?_
              refine LOps.gd rfl rfl rfl (gd g6 rfl) rfl (LOp.field rfl rfl rfl ft75_0 rfl rfl) ?_
              refine LOps.gd rfl rfl rfl (gd g6 rfl) rfl (LOp.lenM rfl rfl (by kernel_rfl)) ?_
              refine LOps.gd rfl rfl rfl (gd g6 rfl) rfl (LOp.bin rfl rfl rfl rfl) ?_
              refine LOps.st rfl rfl rfl (LOp.pickT rfl (gdl g6 rfl) rfl) ?_
              refine LOps.st rfl rfl rfl (LOp.assign rfl rfl) ?_
              refine LOps.nil ?_
              refine thn_n ?_
              refine LW.ret ?_
              obtain rfl := Option.some.inj hr
              refine finP_ret (.one (.tmp rfl)) ?_
              exact Conv.p
            · -- g6 is False
              have hr := ite_f g6 hr
              refine LOps.sk rfl rfl rfl (gd g6 rfl) rfl rfl ?_
              refine LOps.sk rfl rfl rfl (gd g6 rfl) rfl rfl ?_
              refine LOps.sk rfl rfl rfl (gd g6 rfl) rfl rfl ?_
              refine LOps.sk rfl rfl rfl (gd g6 rfl) rfl rfl ?_
              refine LOps.sk rfl rfl rfl (gd g6 rfl) rfl rfl ?_
              refine LOps.sk rfl rfl rfl (gd g6 rfl) rfl rfl ?_
              refine LOps.sk rfl rfl rfl (gd g6 rfl) rfl rfl ?_
              refine LOps.sk rfl rfl rfl (gd g6 rfl) rfl rfl ?_
              refine LOps.sk rfl rfl rfl (gd g6 rfl) rfl rfl ?_
              refine LOps.st rfl rfl rfl (LOp.pickF rfl (gdl g6 rfl) rfl) ?_
              refine LOps.st rfl rfl rfl (LOp.assign rfl rfl) ?_
              refine LOps.nil ?_
              refine thn_n ?_
              refine LW.ret ?_
              obtain rfl := Option.some.inj hr
              refine finP_ret (.one (.tmp rfl)) ?_
              exact Conv.p
          · -- g5 is False
            have hr := ite_f g5 hr
            refine LOps.sk rfl rfl rfl (gd g5 rfl) rfl rfl ?_
            refine LOps.sk rfl rfl rfl (gd g5 rfl) rfl rfl ?_
            refine LOps.sk rfl rfl rfl (gd g5 rfl) rfl rfl ?_
            refine LOps.st rfl rfl rfl (LOp.pickF rfl (gdl g5 rfl) rfl) ?_
            refine LOps.st rfl rfl rfl (LOp.move rfl rfl) ?_
            refine LOps.sk rfl rfl rfl rfl rfl rfl ?_
            refine LOps.sk rfl rfl rfl rfl rfl rfl ?_
            refine LOps.sk rfl rfl rfl rfl rfl rfl ?_
            refine LOps.sk rfl rfl rfl rfl rfl rfl ?_
            refine LOps.sk rfl rfl rfl rfl rfl rfl ?_
            refine LOps.sk rfl rfl rfl rfl rfl rfl ?_
            refine LOps.sk rfl rfl rfl rfl rfl rfl ?_
            refine LOps.sk rfl rfl rfl rfl rfl rfl ?_
            refine LOps.sk rfl rfl rfl rfl rfl rfl ?_
            refine LOps.st rfl rfl rfl (LOp.pickF rfl rfl rfl) ?_
            refine LOps.st rfl rfl rfl (LOp.assign rfl rfl) ?_
            refine LOps.nil ?_
            refine thn_n ?_
            refine LW.ret ?_
            obtain rfl := Option.some.inj hr
            refine finP_ret (.one (.tmp rfl)) ?_
            exact Conv.p
        · -- g4 is False
          have hr := ite_f g4 hr
          refine LOps.sk rfl rfl rfl (gd g4 rfl) rfl rfl ?_
          refine LOps.sk rfl rfl rfl (gd g4 rfl) rfl rfl ?_
          refine LOps.st rfl rfl rfl (LOp.pickF rfl (gdl g4 rfl) rfl) ?_
          refine LOps.st rfl rfl rfl (LOp.move rfl rfl) ?_
          refine LOps.sk rfl rfl rfl rfl rfl rfl ?_
          refine LOps.sk rfl rfl rfl rfl rfl rfl ?_
          refine LOps.sk rfl rfl rfl rfl rfl rfl ?_
          refine LOps.st rfl rfl rfl (LOp.pickF rfl rfl rfl) ?_
          refine LOps.st rfl rfl rfl (LOp.move rfl rfl) ?_
          refine LOps.sk rfl rfl rfl rfl rfl rfl ?_
          refine LOps.sk rfl rfl rfl rfl rfl rfl ?_
          refine LOps.sk rfl rfl rfl rfl rfl rfl ?_
          refine LOps.sk rfl rfl rfl rfl rfl rfl ?_
          refine LOps.sk rfl rfl rfl rfl rfl rfl ?_
          refine LOps.sk rfl rfl rfl rfl rfl rfl ?_
          refine LOps.sk rfl rfl rfl rfl rfl rfl ?_
          refine LOps.sk rfl rfl rfl rfl rfl rfl ?_
          refine LOps.sk rfl rfl rfl rfl rfl rfl ?_
          refine LOps.st rfl rfl rfl (LOp.pickF rfl rfl rfl) ?_
          refine LOps.st rfl rfl rfl (LOp.assign rfl rfl) ?_
          refine LOps.nil ?_
          refine thn_n ?_
          refine LW.ret ?_
          obtain rfl := Option.some.inj hr
          refine finP_ret (.one (.tmp rfl)) ?_
          exact Conv.p
      · -- g3 is False
        have hr := ite_f g3 hr
        refine LOps.sk rfl rfl rfl (gd g3 rfl) rfl rfl ?_
        refine LOps.sk rfl rfl rfl (gd g3 rfl) rfl rfl ?_
        refine LOps.sk rfl rfl rfl (gd g3 rfl) rfl rfl ?_
        refine LOps.sk rfl rfl rfl (gd g3 rfl) rfl rfl ?_
        refine LOps.st rfl rfl rfl (LOp.pickF rfl (gdl g3 rfl) rfl) ?_
        refine LOps.st rfl rfl rfl (LOp.move rfl rfl) ?_
        refine LOps.sk rfl rfl rfl rfl rfl rfl ?_
        refine LOps.sk rfl rfl rfl rfl rfl rfl ?_
        refine LOps.st rfl rfl rfl (LOp.pickF rfl rfl rfl) ?_
        refine LOps.st rfl rfl rfl (LOp.move rfl rfl) ?_
        refine LOps.sk rfl rfl rfl rfl rfl rfl ?_
        refine LOps.sk rfl rfl rfl rfl rfl rfl ?_
        refine LOps.sk rfl rfl rfl rfl rfl rfl ?_
        refine LOps.st rfl rfl rfl (LOp.pickF rfl rfl rfl) ?_
        refine LOps.st rfl rfl rfl (LOp.move rfl rfl) ?_
        refine LOps.sk rfl rfl rfl rfl rfl rfl ?_
        refine LOps.sk rfl rfl rfl rfl rfl rfl ?_
        refine LOps.sk rfl rfl rfl rfl rfl rfl ?_
        refine LOps.sk rfl rfl rfl rfl rfl rfl ?_
        refine LOps.sk rfl rfl rfl rfl rfl rfl ?_
        refine LOps.sk rfl rfl rfl rfl rfl rfl ?_
        refine LOps.sk rfl rfl rfl rfl rfl rfl ?_
        refine LOps.sk rfl rfl rfl rfl rfl rfl ?_
        refine LOps.sk rfl rfl rfl rfl rfl rfl ?_
        refine LOps.st rfl rfl rfl (LOp.pickF rfl rfl rfl) ?_
        refine LOps.st rfl rfl rfl (LOp.assign rfl rfl) ?_
        refine LOps.nil ?_
        refine thn_n ?_
        refine LW.ret ?_
        obtain rfl := Option.some.inj hr
        refine finP_ret (.one (.tmp rfl)) ?_
        exact Conv.p
    · -- g2 is False
      have hr := ite_f g2 hr
      refine LOps.sk rfl rfl rfl (gd g2 rfl) rfl rfl ?_
      refine LOps.sk rfl rfl rfl (gd g2 rfl) rfl rfl ?_
      refine LOps.sk rfl rfl rfl (gd g2 rfl) rfl rfl ?_
      refine LOps.st rfl rfl rfl (LOp.pickF rfl (gdl g2 rfl) rfl) ?_
      refine LOps.st rfl rfl rfl (LOp.move rfl rfl) ?_
      refine LOps.sk rfl rfl rfl rfl rfl rfl ?_
      refine LOps.sk rfl rfl rfl rfl rfl rfl ?_
      refine LOps.sk rfl rfl rfl rfl rfl rfl ?_
      refine LOps.sk rfl rfl rfl rfl rfl rfl ?_
      refine LOps.st rfl rfl rfl (LOp.pickF rfl rfl rfl) ?_
      refine LOps.st rfl rfl rfl (LOp.move rfl rfl) ?_
      refine LOps.sk rfl rfl rfl rfl rfl rfl ?_
      refine LOps.sk rfl rfl rfl rfl rfl rfl ?_
      refine LOps.st rfl rfl rfl (LOp.pickF rfl rfl rfl) ?_
      refine LOps.st rfl rfl rfl (LOp.move rfl rfl) ?_
      refine LOps.sk rfl rfl rfl rfl rfl rfl ?_
      refine LOps.sk rfl rfl rfl rfl rfl rfl ?_
      refine LOps.sk rfl rfl rfl rfl rfl rfl ?_
      refine LOps.st rfl rfl rfl (LOp.pickF rfl rfl rfl) ?_
      refine LOps.st rfl rfl rfl (LOp.move rfl rfl) ?_
      refine LOps.sk rfl rfl rfl rfl rfl rfl ?_
      refine LOps.sk rfl rfl rfl rfl rfl rfl ?_
      refine LOps.sk rfl rfl rfl rfl rfl rfl ?_
      refine LOps.sk rfl rfl rfl rfl rfl rfl ?_
      refine LOps.sk rfl rfl rfl rfl rfl rfl ?_
      refine LOps.sk rfl rfl rfl rfl rfl rfl ?_
      refine LOps.sk rfl rfl rfl rfl rfl rfl ?_
      refine LOps.sk rfl rfl rfl rfl rfl rfl ?_
      refine LOps.sk rfl rfl rfl rfl rfl rfl ?_
      refine LOps.st rfl rfl rfl (LOp.pickF rfl rfl rfl) ?_
      refine LOps.st rfl rfl rfl (LOp.assign rfl rfl) ?_
      refine LOps.nil ?_
      refine thn_n ?_
      refine LW.ret ?_
      obtain rfl := Option.some.inj hr
      refine finP_ret (.one (.tmp rfl)) ?_
      exact Conv.p
  · -- g1 is False
    have hr := ite_f g1 hr
    refine LOps.sk rfl rfl rfl (gd g1 rfl) rfl rfl ?_
    refine LOps.sk rfl rfl rfl (gd g1 rfl) rfl rfl ?_
    refine LOps.st rfl rfl rfl (LOp.pickF rfl (gdl g1 rfl) rfl) ?_
    refine LOps.st rfl rfl rfl (LOp.move rfl rfl) ?_
    refine LOps.sk rfl rfl rfl rfl rfl rfl ?_
    refine LOps.sk rfl rfl rfl rfl rfl rfl ?_
    refine LOps.sk rfl rfl rfl rfl rfl rfl ?_
    refine LOps.st rfl rfl rfl (LOp.pickF rfl rfl rfl) ?_
    refine LOps.st rfl rfl rfl (LOp.move rfl rfl) ?_
    refine LOps.sk rfl rfl rfl rfl rfl rfl ?_
    refine LOps.sk rfl rfl rfl rfl rfl rfl ?_
    refine LOps.sk rfl rfl rfl rfl rfl rfl ?_
    refine LOps.sk rfl rfl rfl rfl rfl rfl ?_
    refine LOps.st rfl rfl rfl (LOp.pickF rfl rfl rfl) ?_
    refine LOps.st rfl rfl rfl (LOp.move rfl rfl) ?_
    refine LOps.sk rfl rfl rfl rfl rfl rfl ?_
    refine LOps.sk rfl rfl rfl rfl rfl rfl ?_
    refine LOps.st rfl rfl rfl (LOp.pickF rfl rfl rfl) ?_
    refine LOps.st rfl rfl rfl (LOp.move rfl rfl) ?_
    refine LOps.sk rfl rfl rfl rfl rfl rfl ?_
    refine LOps.sk rfl rfl rfl rfl rfl rfl ?_
    refine LOps.sk rfl rfl rfl rfl rfl rfl ?_
    refine LOps.st rfl rfl rfl (LOp.pickF rfl rfl rfl) ?_
    refine LOps.st rfl rfl rfl (LOp.move rfl rfl) ?_
    refine LOps.sk rfl rfl rfl rfl rfl rfl ?_
    refine LOps.sk rfl rfl rfl rfl rfl rfl ?_
    refine LOps.sk rfl rfl rfl rfl rfl rfl ?_
    refine LOps.sk rfl rfl rfl rfl rfl rfl ?_
    refine LOps.sk rfl rfl rfl rfl rfl rfl ?_
    refine LOps.sk rfl rfl rfl rfl rfl rfl ?_
    refine LOps.sk rfl rfl rfl rfl rfl rfl ?_
    refine LOps.sk rfl rfl rfl rfl rfl rfl ?_
    refine LOps.sk rfl rfl rfl rfl rfl rfl ?_
    refine LOps.st rfl rfl rfl (LOp.pickF rfl rfl rfl) ?_
    refine LOps.st rfl rfl rfl (LOp.assign rfl rfl) ?_
    refine LOps.nil ?_
    refine thn_n ?_
    refine LW.ret ?_
    obtain rfl := Option.some.inj hr
    refine finP_ret (.one (.tmp rfl)) ?_
    exact Conv.p
open Go.Proofs
def F1003 (c : Cf) (bad : List Int) (who : Int) (slot : Int) : Option Bool :=
  (F1006 ).bind fun v1 =>
  (
    bif !v1 then
      some true
    else
      bif decide ((c.W.length : Int) > 40) then
        some true
      else
        some (decide ((bad.length : Int) > 10))
  ).bind fun v2 =>
  bif v2 then
    some v1
  else
    (F1007 c bad slot).bind fun v3 =>
    bif room 0 bad.length 8 then
      bif room bad.length [who].length 8 then
        (F1007 c (bad ++ [who]) slot).bind fun v4 =>
        (F1007 c ([] : List Int) slot).bind fun v5 =>
        (F65 c slot).bind fun v6 =>
        (F70 c v6).bind fun v7 =>
        bif (IntKind.i64.wrap (v3.1 + v3.2)) == v7 then
          bif (IntKind.i64.wrap (v4.1 + v4.2)) == v7 then
            bif decide (v4.1 ≤ v3.1) then
              bif decide (v4.2 ≥ v3.2) then
                bif v5.1 == v7 then
                  some (v5.2 == 0)
                else
                  some false
              else
                some false
            else
              some false
          else
            some false
        else
          some false
      else none
    else none
set_option maxRecDepth 100000 in
theorem c1003 {c : Cf} {bad : List Int} {who : Int} {slot : Int} {r_ : Bool} (hr : F1003 c bad who slot = some r_) : LPure Tryz.prog 3 [cfP c, .slice 1 (bad.map i64P), .int .i64 who, .int .i64 slot] [.bool r_] := by
  refine LPure.start Tryz.func3 rfl rfl rfl rfl ?_
  unfold F1003 at hr
  refine LW.seq ?_
  refine LW.region ?_
  refine LOps.st rfl rfl rfl (LOp.box rfl rfl rfl rfl rfl) ?_
  refine LOps.st rfl rfl rfl (LOp.assign rfl rfl) ?_
  refine LOps.nil ?_
  refine thn_n ?_
  refine LW.seq ?_
  refine LW.region ?_
  obtain ⟨v1, h_v1, hr⟩ := bind_get hr
  refine LOps.st rfl rfl rfl (LOp.call rfl rfl rfl (by kernel_rfl) (LC.pure (c1006 h_v1) .nil)) ?_
  refine LOps.st rfl rfl rfl (LOp.assign rfl rfl) ?_
  refine LOps.nil ?_
  refine thn_n ?_
  refine LW.seq ?_
  obtain ⟨v2, hb_v2, ho_v2⟩ := bind_get hr
  clear hr
  refine LW.cut (E := [(1, .p (.slice 1 (bad.map i64P))), (2, .p (.int .i64 who)), (3, .p (.int .i64 slot)), (4, .ptr 0 0), (8, .p (.bool false)), (9, .p (.bool v1)), (30, .p (.bool v2))]) (O := [.box [.p (.slice 1 (c.W.map i64P)), .p (.int .u64 c.Seed), .p (.int .i64 c.Epoch), .p (.int .i64 c.Num), .p (.int .i64 c.Den)]]) ?_ ?_
  · have hr := hb_v2
    refine LW.region ?_
    refine LOps.st rfl rfl rfl (LOp.move rfl rfl) ?_
    refine LOps.st rfl rfl rfl (LOp.not rfl rfl) ?_
    refine LOps.st rfl rfl rfl (LOp.move rfl rfl) ?_
    refine LOps.cases 20 rfl (fun (g1 : (!v1) = true) => ?_) (fun (g1 : (!v1) = false) => ?_)
    · -- g1 is True
      have hr := ite_t g1 hr
      refine LOps.sk rfl rfl rfl (gd g1 rfl) rfl rfl ?_
      refine LOps.sk rfl rfl rfl (gd g1 rfl) rfl rfl ?_
      refine LOps.sk rfl rfl rfl (gd g1 rfl) rfl rfl ?_
      refine LOps.sk rfl rfl rfl (gd g1 rfl) rfl rfl ?_
      refine LOps.st rfl rfl rfl (LOp.pickT rfl (gdl g1 rfl) rfl) ?_
      refine LOps.st rfl rfl rfl (LOp.move rfl rfl) ?_
      refine LOps.sk rfl rfl rfl rfl rfl rfl ?_
      refine LOps.sk rfl rfl rfl rfl rfl rfl ?_
      refine LOps.sk rfl rfl rfl rfl rfl rfl ?_
      refine LOps.st rfl rfl rfl (LOp.pickT rfl rfl rfl) ?_
      refine LOps.nil ?_
      refine thn_n ?_
      obtain rfl := Option.some.inj hr
      exact Weak.of 1 ⟨rfl, rfl, rfl, rfl, rfl, rfl, rfl, trivial⟩ rfl rfl rfl rfl
    · -- g1 is False
      have hr := ite_f g1 hr
      refine LOps.gd rfl rfl rfl (gd g1 rfl) rfl (LOp.fieldAddr rfl rfl ft55_0) ?_
      refine LOps.gd rfl rfl rfl (gd g1 rfl) rfl (LOp.load rfl rfl rfl vt49 rfl rfl) ?_
      refine LOps.gd rfl rfl rfl (gd g1 rfl) rfl (LOp.lenM rfl rfl (by kernel_rfl)) ?_
      refine LOps.gd rfl rfl rfl (gd g1 rfl) rfl (LOp.bin rfl rfl rfl rfl) ?_
      refine LOps.st rfl rfl rfl (LOp.pickF rfl (gdl g1 rfl) rfl) ?_
      refine LOps.st rfl rfl rfl (LOp.move rfl rfl) ?_
      refine LOps.cases 26 rfl (fun (g2 : (decide ((c.W.length : Int) > 40)) = true) => ?_) (fun (g2 : (decide ((c.W.length : Int) > 40)) = false) => ?_)
      · -- g2 is True
        have hr := ite_t g2 hr
        refine LOps.sk rfl rfl rfl (gd g2 rfl) rfl rfl ?_
        refine LOps.sk rfl rfl rfl (gd g2 rfl) rfl rfl ?_
        refine LOps.sk rfl rfl rfl (gd g2 rfl) rfl rfl ?_
        refine LOps.st rfl rfl rfl (LOp.pickT rfl (gdl g2 rfl) rfl) ?_
        refine LOps.nil ?_
        refine thn_n ?_
        obtain rfl := Option.some.inj hr
        exact Weak.of 1 ⟨rfl, rfl, rfl, rfl, rfl, rfl, rfl, trivial⟩ rfl rfl rfl rfl
      · -- g2 is False
        have hr := ite_f g2 hr
        refine LOps.gd rfl rfl rfl (gd g2 rfl) rfl (LOp.move rfl rfl) ?_
        refine LOps.gd rfl rfl rfl (gd g2 rfl) rfl (LOp.lenM rfl rfl (by kernel_rfl)) ?_
        refine LOps.gd rfl rfl rfl (gd g2 rfl) rfl (LOp.bin rfl rfl rfl rfl) ?_
        refine LOps.st rfl rfl rfl (LOp.pickF rfl (gdl g2 rfl) rfl) ?_
        refine LOps.nil ?_
        refine thn_n ?_
        obtain rfl := Option.some.inj hr
        exact Weak.of 1 ⟨rfl, rfl, rfl, rfl, rfl, rfl, rfl, trivial⟩ rfl rfl rfl rfl
  · have hr := ho_v2
    clear hb_v2
    refine LW.cond rfl (fun (g3 : v2 = true) => ?_) (fun (g3 : v2 = false) => ?_)
    · -- g3 is True
      have hr := ite_t g3 hr
      refine LW.seq ?_
      refine LW.region ?_
      refine LOps.st rfl rfl rfl (LOp.move rfl rfl) ?_
      refine LOps.st rfl rfl rfl (LOp.assign rfl rfl) ?_
      refine LOps.nil ?_
      refine thn_n ?_
      refine LW.ret ?_
      refine thn_r ?_
      obtain rfl := Option.some.inj hr
      refine finP_ret (.one (.tmp rfl)) ?_
      exact Conv.p
    · -- g3 is False
      have hr := ite_f g3 hr
      refine LW.skip ?_
      refine thn_n ?_
      refine LW.seq ?_
      refine LW.region ?_
      refine LOps.st rfl rfl rfl (LOp.load rfl rfl rfl vt55 rfl rfl) ?_
      refine LOps.st rfl rfl rfl (LOp.move rfl rfl) ?_
      refine LOps.st rfl rfl rfl (LOp.move rfl rfl) ?_
      obtain ⟨v3, h_v3, hr⟩ := bind_get hr
      refine LOps.st rfl rfl rfl (LOp.call rfl rfl rfl (by kernel_rfl) (LC.pure (c1007 h_v3) (.cons Conv.p (.cons Conv.p (.cons Conv.p .nil))))) ?_
      refine LOps.st rfl rfl rfl (LOp.move rfl rfl) ?_
      refine LOps.st rfl rfl rfl (LOp.extract rfl rfl rfl) ?_
      refine LOps.st rfl rfl rfl (LOp.extract rfl rfl rfl) ?_
      refine LOps.st rfl rfl rfl (LOp.assign rfl rfl) ?_
      refine LOps.st rfl rfl rfl (LOp.assign rfl rfl) ?_
      refine LOps.nil ?_
      refine thn_n ?_
      refine LW.seq ?_
      refine LW.ent (Ent.slot rfl) ?_
      refine LW.drawW (by kernel_rfl) (by kernel_rfl) ?_
      refine LF.st rfl rfl rfl (LAt.load rfl rfl rfl vt55 rfl rfl) rfl ?_
      refine LF.st (F := []) (s := none) rfl rfl rfl (fun H _ => LOp.move rfl rfl) rfl ?_
      obtain ⟨q1, hr⟩ := grd_get hr
      refine LF.st rfl rfl rfl (LAt.appendZX i64P bad rfl rfl (id := 1) rfl rfl rfl st49 q1) rfl ?_
      refine LF.st (F := []) (s := none) rfl rfl rfl (fun H _ => LOp.move rfl rfl) rfl ?_
      refine LF.st (F := []) (s := none) rfl rfl rfl (fun H _ => LOp.buildSlice rfl st49 rfl rfl rfl rfl rfl) rfl ?_
      obtain ⟨q2, hr⟩ := grd_get hr
      refine LF.st rfl rfl rfl (LAt.appendX i64P bad [who] rfl rfl rfl rfl rfl st49 q2) rfl ?_
      refine LF.st (F := []) (s := none) rfl rfl rfl (fun H _ => LOp.move rfl rfl) rfl ?_
      obtain ⟨v4, h_v4, hr⟩ := bind_get hr
      refine LF.st (F := [1]) (s := none) rfl rfl rfl (fun H hA => LOp.call rfl rfl rfl (by kernel_rfl) (LC.lend (c1007 h_v4) (.cons Conv.p (.cons (Conv.vecAll (by rw [← nth_eq]; exact hA.get (by simp) rfl) rfl rfl) (.cons Conv.p .nil))) rfl)) rfl ?_
      refine LF.st (F := []) (s := none) rfl rfl rfl (fun H _ => LOp.move rfl rfl) rfl ?_
      refine LF.st (F := []) (s := none) rfl rfl rfl (fun H _ => LOp.extract rfl rfl rfl) rfl ?_
      refine LF.st (F := []) (s := none) rfl rfl rfl (fun H _ => LOp.extract rfl rfl rfl) rfl ?_
      refine LF.st (F := []) (s := none) rfl rfl rfl (fun H _ => LOp.assign rfl rfl) rfl ?_
      refine LF.st (F := []) (s := none) rfl rfl rfl (fun H _ => LOp.assign rfl rfl) rfl ?_
      refine LF.nil ⟨by kernel_rfl, ?_⟩
      refine thn_n ?_
      refine LW.seq ?_
      refine LW.region ?_
      refine LOps.st rfl rfl rfl (LOp.load rfl rfl rfl vt55 rfl rfl) ?_
      refine LOps.st rfl rfl rfl (LOp.move rfl rfl) ?_
      obtain ⟨v5, h_v5, hr⟩ := bind_get hr
      refine LOps.st rfl rfl rfl (LOp.call rfl rfl rfl (by kernel_rfl) (LC.pure (c1007 h_v5) (.cons Conv.p (.cons Conv.zs (.cons Conv.p .nil))))) ?_
      refine LOps.st rfl rfl rfl (LOp.move rfl rfl) ?_
      refine LOps.st rfl rfl rfl (LOp.extract rfl rfl rfl) ?_
      refine LOps.st rfl rfl rfl (LOp.extract rfl rfl rfl) ?_
      refine LOps.st rfl rfl rfl (LOp.assign rfl rfl) ?_
      refine LOps.st rfl rfl rfl (LOp.assign rfl rfl) ?_
      refine LOps.nil ?_
      refine thn_n ?_
      refine LW.seq ?_
      refine LW.draw (by kernel_rfl) (by kernel_rfl) ?_
      refine LO.st rfl rfl rfl (LOp.load rfl rfl rfl vt55 rfl rfl) ?_
      refine LO.st rfl rfl rfl (LOp.load rfl rfl rfl vt55 rfl rfl) ?_
      refine LO.st rfl rfl rfl (LOp.move rfl rfl) ?_
      obtain ⟨v6, h_v6, hr⟩ := bind_get hr
      refine LO.st rfl rfl rfl (LOp.call rfl rfl rfl (by kernel_rfl) (LC.pure (c65 h_v6) (.cons Conv.p (.cons Conv.p .nil)))) ?_
      obtain ⟨v7, h_v7, hr⟩ := bind_get hr
      refine LO.st rfl rfl rfl (LOp.call rfl rfl rfl (by kernel_rfl) (LC.pure (c70 h_v7) (.cons Conv.p (.cons Conv.p .nil)))) ?_
      refine LO.st rfl rfl rfl (LOp.assign rfl rfl) ?_
      refine LO.nil ?_
      refine thn_n ?_
      refine LW.seq ?_
      refine LW.region ?_
      refine LOps.st rfl rfl rfl (LOp.move rfl rfl) ?_
      refine LOps.st rfl rfl rfl (LOp.move rfl rfl) ?_
      refine LOps.st rfl rfl rfl (LOp.bin rfl rfl rfl rfl) ?_
      refine LOps.st rfl rfl rfl (LOp.move rfl rfl) ?_
      refine LOps.st rfl rfl rfl (LOp.bin rfl rfl rfl rfl) ?_
      refine LOps.st rfl rfl rfl (LOp.move rfl rfl) ?_
      refine LOps.cases 66 rfl (fun (g4 : ((IntKind.i64.wrap (v3.1 + v3.2)) == v7) = true) => ?_) (fun (g4 : ((IntKind.i64.wrap (v3.1 + v3.2)) == v7) = false) => ?_)
      · -- g4 is True
        have hr := ite_t g4 hr
        refine LOps.gd rfl rfl rfl (gd g4 rfl) rfl (LOp.move rfl rfl) ?_
        refine LOps.gd rfl rfl rfl (gd g4 rfl) rfl (LOp.move rfl rfl) ?_
        refine LOps.gd rfl rfl rfl (gd g4 rfl) rfl (LOp.bin rfl rfl rfl rfl) ?_
        refine LOps.gd rfl rfl rfl (gd g4 rfl) rfl (LOp.move rfl rfl) ?_
        refine LOps.gd rfl rfl rfl (gd g4 rfl) rfl (LOp.bin rfl rfl rfl rfl) ?_
        refine LOps.st rfl rfl rfl (LOp.pickT rfl (gdl g4 rfl) rfl) ?_
        refine LOps.st rfl rfl rfl (LOp.move rfl rfl) ?_
        refine LOps.cases 73 rfl (fun (g5 : ((IntKind.i64.wrap (v4.1 + v4.2)) == v7) = true) => ?_) (fun (g5 : ((IntKind.i64.wrap (v4.1 + v4.2)) == v7) = false) => ?_)
        · -- g5 is True
          have hr := ite_t g5 hr
          refine LOps.gd rfl rfl rfl (gd g5 rfl) rfl (LOp.move rfl rfl) ?_
          refine LOps.gd rfl rfl rfl (gd g5 rfl) rfl (LOp.move rfl rfl) ?_
          refine LOps.gd rfl rfl rfl (gd g5 rfl) rfl (LOp.bin rfl rfl rfl rfl) ?_
          refine LOps.st rfl rfl rfl (LOp.pickT rfl (gdl g5 rfl) rfl) ?_
          refine LOps.st rfl rfl rfl (LOp.move rfl rfl) ?_
          refine LOps.cases 78 rfl (fun (g6 : (decide (v4.1 ≤ v3.1)) = true) => ?_) (fun (g6 : (decide (v4.1 ≤ v3.1)) = false) => ?_)
          · -- g6 is True
            have hr := ite_t g6 hr
            refine LOps.gd rfl rfl rfl (gd g6 rfl) rfl (LOp.move rfl rfl) ?_
            refine LOps.gd rfl rfl rfl (gd g6 rfl) rfl (LOp.move rfl rfl) ?_
            refine LOps.gd rfl rfl rfl (gd g6 rfl) rfl (LOp.bin rfl rfl rfl rfl) ?_
            refine LOps.st rfl rfl rfl (LOp.pickT rfl (gdl g6 rfl) rfl) ?_
            refine LOps.st rfl rfl rfl (LOp.move rfl rfl) ?_
            refine LOps.cases 83 rfl (fun (g7 : (decide (v4.2 ≥ v3.2)) = true) => ?_) (fun (g7 : (decide (v4.2 ≥ v3.2)) = false) => ?_)
            · -- g7 is True
              have hr := ite_t g7 hr
              refine LOps.gd rfl rfl rfl (gd g7 rfl) rfl (LOp.move rfl rfl) ?_
              refine LOps.gd rfl rfl rfl (gd g7 rfl) rfl (LOp.move rfl rfl) ?_
              refine LOps.gd rfl rfl rfl (gd g7 rfl) rfl (LOp.bin rfl rfl rfl rfl) ?_
              refine LOps.st rfl rfl rfl (LOp.pickT rfl (gdl g7 rfl) rfl) ?_
              refine LOps.st rfl rfl rfl (LOp.move rfl rfl) ?_
              refine LOps.cases 88 rfl (fun (g8 : (v5.1 == v7) = true) => ?_) (fun (g8 : (v5.1 == v7) = false) => ?_)
              · -- g8 is True
                have hr := ite_t g8 hr
                refine LOps.gd rfl rfl rfl (gd g8 rfl) rfl (LOp.move rfl rfl) ?_
                refine LOps.gd rfl rfl rfl (gd g8 rfl) rfl (LOp.bin rfl rfl rfl rfl) ?_
                refine LOps.st rfl rfl rfl (LOp.pickT rfl (gdl g8 rfl) rfl) ?_
                refine LOps.st rfl rfl rfl (LOp.assign rfl rfl) ?_
                refine LOps.nil ?_
                refine thn_n ?_
                refine LW.ret ?_
                obtain rfl := Option.some.inj hr
                refine finP_ret (.one (.tmp rfl)) ?_
                exact Conv.p
              · -- g8 is False
                have hr := ite_f g8 hr
                refine LOps.sk rfl rfl rfl (gd g8 rfl) rfl rfl ?_
                refine LOps.sk rfl rfl rfl (gd g8 rfl) rfl rfl ?_
                refine LOps.st rfl rfl rfl (LOp.pickF rfl (gdl g8 rfl) rfl) ?_
                refine LOps.st rfl rfl rfl (LOp.assign rfl rfl) ?_
                refine LOps.nil ?_
                refine thn_n ?_
                refine LW.ret ?_
                obtain rfl := Option.some.inj hr
                refine finP_ret (.one (.tmp rfl)) ?_
                exact Conv.p
            · -- g7 is False
              have hr := ite_f g7 hr
              refine LOps.sk rfl rfl rfl (gd g7 rfl) rfl rfl ?_
              refine LOps.sk rfl rfl rfl (gd g7 rfl) rfl rfl ?_
              refine LOps.sk rfl rfl rfl (gd g7 rfl) rfl rfl ?_
              refine LOps.st rfl rfl rfl (LOp.pickF rfl (gdl g7 rfl) rfl) ?_
              refine LOps.st rfl rfl rfl (LOp.move rfl rfl) ?_
              refine LOps.sk rfl rfl rfl rfl rfl rfl ?_
              refine LOps.sk rfl rfl rfl rfl rfl rfl ?_
              refine LOps.st rfl rfl rfl (LOp.pickF rfl rfl rfl) ?_
              refine LOps.st rfl rfl rfl (LOp.assign rfl rfl) ?_
              refine LOps.nil ?_
              refine thn_n ?_
              refine LW.ret ?_
              obtain rfl := Option.some.inj hr
              refine finP_ret (.one (.tmp rfl)) ?_
              exact Conv.p
          · -- g6 is False
            have hr := ite_f g6 hr
            refine LOps.sk rfl rfl rfl (gd g6 rfl) rfl rfl ?_
            refine LOps.sk rfl rfl rfl (gd g6 rfl) rfl rfl ?_
            refine LOps.sk rfl rfl rfl (gd g6 rfl) rfl rfl ?_
            refine LOps.st rfl rfl rfl (LOp.pickF rfl (gdl g6 rfl) rfl) ?_
            refine LOps.st rfl rfl rfl (LOp.move rfl rfl) ?_
            refine LOps.sk rfl rfl rfl rfl rfl rfl ?_
            refine LOps.sk rfl rfl rfl rfl rfl rfl ?_
            refine LOps.sk rfl rfl rfl rfl rfl rfl ?_
            refine LOps.st rfl rfl rfl (LOp.pickF rfl rfl rfl) ?_
            refine LOps.st rfl rfl rfl (LOp.move rfl rfl) ?_
            refine LOps.sk rfl rfl rfl rfl rfl rfl ?_
            refine LOps.sk rfl rfl rfl rfl rfl rfl ?_
            refine LOps.st rfl rfl rfl (LOp.pickF rfl rfl rfl) ?_
            refine LOps.st rfl rfl rfl (LOp.assign rfl rfl) ?_
            refine LOps.nil ?_
            refine thn_n ?_
            refine LW.ret ?_
            obtain rfl := Option.some.inj hr
            refine finP_ret (.one (.tmp rfl)) ?_
            exact Conv.p
        · -- g5 is False
          have hr := ite_f g5 hr
          refine LOps.sk rfl rfl rfl (gd g5 rfl) rfl rfl ?_
          refine LOps.sk rfl rfl rfl (gd g5 rfl) rfl rfl ?_
          refine LOps.sk rfl rfl rfl (gd g5 rfl) rfl rfl ?_
          refine LOps.st rfl rfl rfl (LOp.pickF rfl (gdl g5 rfl) rfl) ?_
          refine LOps.st rfl rfl rfl (LOp.move rfl rfl) ?_
          refine LOps.sk rfl rfl rfl rfl rfl rfl ?_
          refine LOps.sk rfl rfl rfl rfl rfl rfl ?_
          refine LOps.sk rfl rfl rfl rfl rfl rfl ?_
          refine LOps.st rfl rfl rfl (LOp.pickF rfl rfl rfl) ?_
          refine LOps.st rfl rfl rfl (LOp.move rfl rfl) ?_
          refine LOps.sk rfl rfl rfl rfl rfl rfl ?_
          refine LOps.sk rfl rfl rfl rfl rfl rfl ?_
          refine LOps.sk rfl rfl rfl rfl rfl rfl ?_
          refine LOps.st rfl rfl rfl (LOp.pickF rfl rfl rfl) ?_
          refine LOps.st rfl rfl rfl (LOp.move rfl rfl) ?_
          refine LOps.sk rfl rfl rfl rfl rfl rfl ?_
          refine LOps.sk rfl rfl rfl rfl rfl rfl ?_
          refine LOps.st rfl rfl rfl (LOp.pickF rfl rfl rfl) ?_
          refine LOps.st rfl rfl rfl (LOp.assign rfl rfl) ?_
          refine LOps.nil ?_
          refine thn_n ?_
          refine LW.ret ?_
          obtain rfl := Option.some.inj hr
          refine finP_ret (.one (.tmp rfl)) ?_
          exact Conv.p
      · -- g4 is False
        have hr := ite_f g4 hr
        refine LOps.sk rfl rfl rfl (gd g4 rfl) rfl rfl ?_
        refine LOps.sk rfl rfl rfl (gd g4 rfl) rfl rfl ?_
        refine LOps.sk rfl rfl rfl (gd g4 rfl) rfl rfl ?_
        refine LOps.sk rfl rfl rfl (gd g4 rfl) rfl rfl ?_
        refine LOps.sk rfl rfl rfl (gd g4 rfl) rfl rfl ?_
        refine LOps.st rfl rfl rfl (LOp.pickF rfl (gdl g4 rfl) rfl) ?_
        refine LOps.st rfl rfl rfl (LOp.move rfl rfl) ?_
        refine LOps.sk rfl rfl rfl rfl rfl rfl ?_
        refine LOps.sk rfl rfl rfl rfl rfl rfl ?_
        refine LOps.sk rfl rfl rfl rfl rfl rfl ?_
        refine LOps.st rfl rfl rfl (LOp.pickF rfl rfl rfl) ?_
        refine LOps.st rfl rfl rfl (LOp.move rfl rfl) ?_
        refine LOps.sk rfl rfl rfl rfl rfl rfl ?_
        refine LOps.sk rfl rfl rfl rfl rfl rfl ?_
        refine LOps.sk rfl rfl rfl rfl rfl rfl ?_
        refine LOps.st rfl rfl rfl (LOp.pickF rfl rfl rfl) ?_
        refine LOps.st rfl rfl rfl (LOp.move rfl rfl) ?_
        refine LOps.sk rfl rfl rfl rfl rfl rfl ?_
        refine LOps.sk rfl rfl rfl rfl rfl rfl ?_
        refine LOps.sk rfl rfl rfl rfl rfl rfl ?_
        refine LOps.st rfl rfl rfl (LOp.pickF rfl rfl rfl) ?_
        refine LOps.st rfl rfl rfl (LOp.move rfl rfl) ?_
        refine LOps.sk rfl rfl rfl rfl rfl rfl ?_
        refine LOps.sk rfl rfl rfl rfl rfl rfl ?_
        refine LOps.st rfl rfl rfl (LOp.pickF rfl rfl rfl) ?_
        refine LOps.st rfl rfl rfl (LOp.assign rfl rfl) ?_
        refine LOps.nil ?_
        refine thn_n ?_
        refine LW.ret ?_
        obtain rfl := Option.some.inj hr
        refine finP_ret (.one (.tmp rfl)) ?_
        exact Conv.p
theorem snoc_filter {α : Type} {p : α → Bool} {l : List α} {n : Nat} {y : α} (hy : l[n]? = some y) : (l.take (n + 1)).filter p = (l.take n).filter p ++ bif p y then [y] else [] := by
  have e : l.take (n + 1) = l.take n ++ [y] := by rw [List.take_add_one, hy]; rfl
  rw [e, List.filter_append]
  cases h : p y <;> simp [h]
theorem take_filter_len {α : Type} {p : α → Bool} {l : List α} (n : Nat) : ((l.take n).filter p).length ≤ n :=
  Nat.le_trans (List.length_filter_le _ _) (by rw [List.length_take]; omega)
def inB (bad : List Int) (x : Int) : Bool := decide (x ∈ bad)
theorem FParted_eq {l bad : List Int} (hl : l.length ≤ 1000) (hb : bad.length ≤ 1000) : FParted l bad = some (l.filter (fun x => !inB bad x), l.filter (inB bad)) := by
  have e := count_loop (step := FParted_s1 l bad) (n := l.length) (fun k => FParted_L1.mk (k : Int) ((l.take k).filter fun x => !inB bad x) ((l.take k).filter (inB bad))) (FParted_L1.mk (l.length : Int) (l.filter fun x => !inB bad x) (l.filter (inB bad))) (fun k hk => by
    obtain ⟨y, hy, -⟩ := get_of hk
    have h1 := take_filter_len (p := fun x => !inB bad x) (l := l) k
    have h2 := take_filter_len (p := inB bad) (l := l) k
    unfold FParted_s1 FWeigh1
    simp only
    rw [decide_eq_true (show (k : Int) < (l.length : Int) by omega), ct, ix_nat hy, ob, F119_eq (by omega), ob, ob, snoc_filter hy, snoc_filter hy, wrap_succ (n := k) (by omega)]
    unfold inB at h1 h2 ⊢
    by_cases h : y ∈ bad
    · simp only [decide_eq_true h, ct, Bool.not_true, cf, List.append_nil]
      rw [room_ok (by simp only [List.length_singleton]; omega) (by omega), ct]
    · simp only [decide_eq_false h, ct, Bool.not_false, cf, List.append_nil]
      rw [room_ok (by simp only [List.length_singleton]; omega) (by omega), ct]) (by
    unfold FParted_s1
    simp only
    rw [decide_eq_false (show ¬ (l.length : Int) < (l.length : Int) by omega), cf, List.take_length]) (by omega)
  have e' : iter (FParted_s1 l bad) big (FParted_L1.mk 0 [] []) = _ := e
  unfold FParted
  rw [e', ob]
/-- How much of a slot's committee is good, and bad. -/
def goodW (c : Cf) (bad : List Int) (slot : Int) : Int := wtP c ((cmP c slot).filter fun x => !inB bad x)
def badW (c : Cf) (bad : List Int) (slot : Int) : Int := wtP c ((cmP c slot).filter (inB bad))
theorem F1007_eq {c : Cf} {bad : List Int} (hb : bad.length ≤ 1000) (slot : Int) : F1007 c bad slot = some (goodW c bad slot, badW c bad slot) := by
  have h := cm_len c slot
  have h1 := List.length_filter_le (fun x => !inB bad x) (cmP c slot)
  have h2 := List.length_filter_le (inB bad) (cmP c slot)
  unfold F1007
  rw [F65_eq, ob, FParted_eq (by omega) hb, ob, F70_eq (by simp only; omega), ob, F70_eq (by simp only; omega), ob]
  rfl
theorem wt_sub {c : Cf} {a b : List Int} (h : ∀ x ∈ a, x ∈ b) : wtP c a ≤ wtP c b := by
  unfold wtP
  by_cases hm : MayC c
  · rw [if_pos hm, if_pos hm]
    exact wsum_le hm.okW.2 (fun j hj => decide_eq_true (h _ (of_decide_eq_true hj))) _
  · rw [if_neg hm, if_neg hm]; exact Int.le_refl _
theorem inB_iff {bad : List Int} {x : Int} : inB bad x = true ↔ x ∈ bad := ⟨of_decide_eq_true, fun h => decide_eq_true h⟩
theorem inB_not {bad : List Int} {x : Int} : (!inB bad x) = true ↔ x ∉ bad := by
  rw [Bool.not_eq_true', ← Bool.not_eq_true, inB_iff]
theorem weigh_sum (c : Cf) (bad : List Int) (slot : Int) : goodW c bad slot + badW c bad slot = wtP c (cmP c slot) := by
  unfold goodW badW
  rw [← (wt_or c _ _).2, wt_same]
  · intro x
    rw [List.mem_append, List.mem_filter, List.mem_filter, inB_iff, inB_not]
    by_cases h : x ∈ bad <;> simp [h]
  · cases h : hitA ((cmP c slot).filter fun x => !inB bad x) ((cmP c slot).filter (inB bad)) with
    | false => rfl
    | true =>
      obtain ⟨x, hx, h2⟩ := List.any_eq_true.1 h
      obtain ⟨y, hy, h3⟩ := List.any_eq_true.1 h2
      have e : x = y := by simpa using h3
      subst e
      exact absurd (inB_iff.1 (List.mem_filter.1 hy).2) (inB_not.1 (List.mem_filter.1 hx).2)
theorem weigh_in (c : Cf) (bad : List Int) (slot : Int) : (0 ≤ goodW c bad slot ∧ goodW c bad slot ≤ 13194139533312) ∧ 0 ≤ badW c bad slot ∧ badW c bad slot ≤ 13194139533312 := ⟨wt_in _ _, wt_in _ _⟩
theorem weigh_more {c : Cf} {bad bad' : List Int} {slot : Int} (h : ∀ x ∈ bad, x ∈ bad') : goodW c bad' slot ≤ goodW c bad slot ∧ badW c bad slot ≤ badW c bad' slot := by
  constructor
  · refine wt_sub fun x hx => ?_
    rw [List.mem_filter, inB_not] at hx ⊢
    exact ⟨hx.1, fun h2 => hx.2 (h x h2)⟩
  · refine wt_sub fun x hx => ?_
    rw [List.mem_filter, inB_iff] at hx ⊢
    exact ⟨hx.1, h x hx.2⟩
theorem weigh_none (c : Cf) (slot : Int) : goodW c [] slot = wtP c (cmP c slot) ∧ badW c [] slot = 0 := by
  have h : badW c [] slot = 0 := by
    unfold badW
    rw [List.filter_eq_nil_iff.2 fun x _ => by simp [inB], wt_nil]
  have := weigh_sum c [] slot
  exact ⟨by omega, h⟩
theorem F1006_eq : F1006 = some true := by kernel_rfl
theorem auWeighs (c : Cf) (bad : List Int) (who slot : Int) : F1003 c bad who slot = some true := by
  unfold F1003
  rw [F1006_eq, ob, Bool.not_true, cf]
  by_cases h0 : (c.W.length : Int) > 40
  · rw [decide_eq_true h0, ct, ob, ct]
  · rw [decide_eq_false h0, cf, ob]
    by_cases h1 : (bad.length : Int) > 10
    · rw [decide_eq_true h1, ct]
    · have s1 := weigh_sum c bad slot
      have s2 := weigh_sum c (bad ++ [who]) slot
      obtain ⟨s3, s4⟩ := weigh_none c slot
      obtain ⟨m1, m2⟩ := weigh_more (c := c) (bad := bad) (bad' := bad ++ [who]) (slot := slot) fun x hx => List.mem_append_left _ hx
      have r1 := weigh_in c bad slot
      have r2 := weigh_in c (bad ++ [who]) slot
      have hl := cm_len c slot
      rw [decide_eq_false h1, cf, F1007_eq (by omega), ob, room_ok (by omega) (by omega), ct, room_ok (by simp only [List.length_singleton]; omega) (by omega), ct, F1007_eq (by simp only [List.length_append, List.length_singleton]; omega), ob, F1007_eq (by simp), ob, F65_eq, ob, F70_eq (by omega), ob]
      simp only
      rw [show IntKind.i64.wrap (goodW c bad slot + badW c bad slot) = wtP c (cmP c slot) by rw [wrapI (by omega) (by omega)]; exact s1, beq_self_eq_true, ct, show IntKind.i64.wrap (goodW c (bad ++ [who]) slot + badW c (bad ++ [who]) slot) = wtP c (cmP c slot) by rw [wrapI (by omega) (by omega)]; exact s2, beq_self_eq_true, ct,
        decide_eq_true m1, ct, decide_eq_true (show badW c (bad ++ [who]) slot ≥ badW c bad slot from m2), ct, s3, beq_self_eq_true, ct, s4]
      rfl
end Go.Mg
