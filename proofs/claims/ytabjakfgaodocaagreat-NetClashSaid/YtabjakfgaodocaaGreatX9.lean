/- A node at a tick: what it hears, counts, and stands by. A node behind a tick. Laws of nets. The example of nets. Plain laws of weights on blocks, and of the head: the program's side. Plain laws of views: lists of blocks and votes, and what may be at all. Laws of trees. TreeKids, TreeMore: plain. Conditions: none. -/
import Derived.Test.YtabjakfgaodocaaGreatX8
import Derived.Test.YtabjakfgaodocaaGreatX3
import Derived.Test.YtabjakfgaodocaaGreatX7
import Derived.Test.YtabjakfgaodocaaGreatX6
namespace Go.Mg
open Go.Proofs
structure FHear_L1 where
  t21 : Int
  w_11 : Bool
  o5 : List Of
def FHear_s1 (x : Nd) (c : Cf) (slot : Int) (v1 : (List Of)) (x1 : FHear_L1) : Option (FHear_L1 ⊕ FHear_L1) :=
  bif decide (x1.t21 < (v1.length : Int)) then
    (ix v1 x1.t21).bind fun y1 =>
    (
      bif (x.Tick.tmod 3) == 2 then
        some ((x.Tick.tmod 3) == 2)
      else
        bif y1.Slot != slot then
          some (y1.Slot != slot)
        else
          (F63 c slot).bind fun v4 =>
          some (y1.From != v4)
    ).bind fun v3 =>
    bif v3 then
      some (.inl (FHear_L1.mk (IntKind.i64.wrap (x1.t21 + 1)) x1.w_11 x1.o5))
    else
      bif (x1.o5.length : Int) == 8 then
        some (.inl (FHear_L1.mk (IntKind.i64.wrap (x1.t21 + 1)) true x1.o5))
      else
        (F3052 y1).bind fun v5 =>
        bif room x1.o5.length [v5].length 104 then
          some (.inl (FHear_L1.mk (IntKind.i64.wrap (x1.t21 + 1)) x1.w_11 (x1.o5 ++ [v5])))
        else none
  else
    some (.inr (FHear_L1.mk x1.t21 x1.w_11 x1.o5))
def FHear (l : List Of) (x : Nd) (c : Cf) (slot : Int) : Option (List Of × Bool) :=
  (F3095 [x.O, l]).bind fun v1 =>
  (iter (FHear_s1 x c slot v1) big (FHear_L1.mk 0 x.Full ([] : List Of))).bind fun v2 =>
  some (v2.o5, v2.w_11)
set_option maxRecDepth 100000 in
theorem cFHear {l : List Of} {x : Nd} {c : Cf} {slot : Int} {tl : List Of} {c0 : Cf} {n0 : Nd} {in0 : Vw} {r_ : List Of × Bool} (hr : FHear l x c slot = some r_) : LC Tryz.prog 54 [.ptr 4 0, .p (.slice 9 (l.map ofP))] [.box [.p (.slice 1 (c0.W.map i64P)), .p (.int .u64 c0.Seed), .p (.int .i64 c0.Epoch), .p (.int .i64 c0.Num), .p (.int .i64 c0.Den)], .box [.p (.int .i64 n0.No), .p (.int .i64 n0.Tick), .p (.slice 5 (n0.V.B.map blkP)), .p (.slice 4 (n0.V.V.map vtP)), .p (.slice 5 (n0.In.B.map blkP)), .p (.slice 4 (n0.In.V.map vtP)), .p (.slice 9 (n0.O.map ofP)), .p (.int .u64 n0.C.ID.1), .p (.int .u64 n0.C.ID.2), .p (.int .i64 n0.C.Slot), .p (.int .i64 n0.C.Revoked), .p (.bool n0.Full)], .box [.p (.slice 5 (in0.B.map blkP)), .p (.slice 4 (in0.V.map vtP))], .box [.p (.int .i64 0), .p (.int .i64 0), .zs, .zs, .zs, .zs, .zs, .p (.int .u64 0), .p (.int .u64 0), .p (.int .i64 0), .p (.int .i64 0), .p (.bool false)], .box [.p (.int .i64 x.No), .p (.int .i64 x.Tick), .p (.slice 5 (x.V.B.map blkP)), .p (.slice 4 (x.V.V.map vtP)), .p (.slice 5 (x.In.B.map blkP)), .p (.slice 4 (x.In.V.map vtP)), .p (.slice 9 (x.O.map ofP)), .p (.int .u64 x.C.ID.1), .p (.int .u64 x.C.ID.2), .p (.int .i64 x.C.Slot), .p (.int .i64 x.C.Revoked), .p (.bool x.Full), .p (.slice 1 (c.W.map i64P)), .p (.int .u64 c.Seed), .p (.int .i64 c.Epoch), .p (.int .i64 c.Num), .p (.int .i64 c.Den), .p (.int .i64 slot), .p (.slice 9 (tl.map ofP))]] (Is (.tup []) [.box [.p (.slice 1 (c0.W.map i64P)), .p (.int .u64 c0.Seed), .p (.int .i64 c0.Epoch), .p (.int .i64 c0.Num), .p (.int .i64 c0.Den)], .box [.p (.int .i64 n0.No), .p (.int .i64 n0.Tick), .p (.slice 5 (n0.V.B.map blkP)), .p (.slice 4 (n0.V.V.map vtP)), .p (.slice 5 (n0.In.B.map blkP)), .p (.slice 4 (n0.In.V.map vtP)), .p (.slice 9 (n0.O.map ofP)), .p (.int .u64 n0.C.ID.1), .p (.int .u64 n0.C.ID.2), .p (.int .i64 n0.C.Slot), .p (.int .i64 n0.C.Revoked), .p (.bool n0.Full)], .box [.p (.slice 5 (in0.B.map blkP)), .p (.slice 4 (in0.V.map vtP))], .box [.p (.int .i64 0), .p (.int .i64 0), .zs, .zs, .zs, .zs, .zs, .p (.int .u64 0), .p (.int .u64 0), .p (.int .i64 0), .p (.int .i64 0), .p (.bool false)], .box [.p (.int .i64 x.No), .p (.int .i64 x.Tick), .p (.slice 5 (x.V.B.map blkP)), .p (.slice 4 (x.V.V.map vtP)), .p (.slice 5 (x.In.B.map blkP)), .p (.slice 4 (x.In.V.map vtP)), .vec 9 5 (r_.1.map ofP).length 0 (r_.1.map ofP).length, .p (.int .u64 x.C.ID.1), .p (.int .u64 x.C.ID.2), .p (.int .i64 x.C.Slot), .p (.int .i64 x.C.Revoked), .p (.bool r_.2), .p (.slice 1 (c.W.map i64P)), .p (.int .u64 c.Seed), .p (.int .i64 c.Epoch), .p (.int .i64 c.Num), .p (.int .i64 c.Den), .p (.int .i64 slot), .p (.slice 9 (tl.map ofP))], .vec 9 (r_.1.map ofP)]) := by
  refine LC.start Tryz.func54 rfl rfl rfl ?_
  unfold FHear at hr
  refine LW.seq (LW.region (LOps.st rfl rfl rfl (LOp.move rfl rfl) (LOps.st rfl rfl rfl (LOp.nilCheck rfl rfl) (LOps.st rfl rfl rfl (LOp.fieldAddr rfl rfl ft3090_0) (LOps.st rfl rfl rfl (LOp.fieldAddr rfl rfl ft1071_4) (LOps.st rfl rfl rfl (LOp.load rfl rfl rfl vt1036 rfl rfl) (LOps.st rfl rfl rfl (LOp.move rfl rfl) (LOps.st rfl rfl rfl (LOp.buildSlice rfl st3151 rfl rfl rfl rfl rfl) ?_))))))))
  obtain ⟨v1, h_v1, hr⟩ := bind_get hr
  refine LOps.st rfl rfl rfl (LOp.call rfl rfl rfl (by kernel_rfl) (LC.pure (c3095 h_v1) (.cons Conv.p .nil))) (LOps.st rfl rfl rfl (LOp.assign rfl rfl) (LOps.nil (thn_n (LW.seq (LW.region (LOps.st rfl rfl rfl (LOp.move rfl rfl) (LOps.st rfl rfl rfl (LOp.nilCheck rfl rfl) (LOps.st rfl rfl rfl (LOp.fieldAddr rfl rfl ft3090_0) (LOps.st rfl rfl rfl (LOp.fieldAddr rfl rfl ft1071_4) (LOps.st rfl rfl rfl (LOp.store rfl rfl rfl rfl vt1036 rfl rfl rfl rfl) (LOps.nil ?_)))))))))))
  refine thn_n (LW.seq (LW.ent (Ent.lazyCell (i := 4) (j := 6) (m := 9) rfl rfl rfl rfl rfl rfl) (LW.region (LOps.st rfl rfl rfl (LOp.move rfl rfl) (LOps.st rfl rfl rfl (LOp.lenM rfl rfl (by kernel_rfl)) (LOps.st rfl rfl rfl (LOp.move rfl rfl) (LOps.nil (thn_n ?_))))))))
  obtain ⟨v2, hb_v2, ho_v2⟩ := bind_get hr
  clear hr
  refine LW.tail (E := []) (O := [.box [.p (.slice 1 (c0.W.map i64P)), .p (.int .u64 c0.Seed), .p (.int .i64 c0.Epoch), .p (.int .i64 c0.Num), .p (.int .i64 c0.Den)], .box [.p (.int .i64 n0.No), .p (.int .i64 n0.Tick), .p (.slice 5 (n0.V.B.map blkP)), .p (.slice 4 (n0.V.V.map vtP)), .p (.slice 5 (n0.In.B.map blkP)), .p (.slice 4 (n0.In.V.map vtP)), .p (.slice 9 (n0.O.map ofP)), .p (.int .u64 n0.C.ID.1), .p (.int .u64 n0.C.ID.2), .p (.int .i64 n0.C.Slot), .p (.int .i64 n0.C.Revoked), .p (.bool n0.Full)], .box [.p (.slice 5 (in0.B.map blkP)), .p (.slice 4 (in0.V.map vtP))], .box [.p (.int .i64 0), .p (.int .i64 0), .zs, .zs, .zs, .zs, .zs, .p (.int .u64 0), .p (.int .u64 0), .p (.int .i64 0), .p (.int .i64 0), .p (.bool false)], .box [.p (.int .i64 x.No), .p (.int .i64 x.Tick), .p (.slice 5 (x.V.B.map blkP)), .p (.slice 4 (x.V.V.map vtP)), .p (.slice 5 (x.In.B.map blkP)), .p (.slice 4 (x.In.V.map vtP)), .vec 9 5 (v2.o5.map ofP).length 0 (v2.o5.map ofP).length, .p (.int .u64 x.C.ID.1), .p (.int .u64 x.C.ID.2), .p (.int .i64 x.C.Slot), .p (.int .i64 x.C.Revoked), .p (.bool v2.w_11), .p (.slice 1 (c.W.map i64P)), .p (.int .u64 c.Seed), .p (.int .i64 c.Epoch), .p (.int .i64 c.Num), .p (.int .i64 c.Den), .p (.int .i64 slot), .p (.slice 9 (tl.map ofP))], .vec 9 (v2.o5.map ofP)]) ?_ (fun env_v2 H_v2 hw_v2 => ?_)
  · refine LW.block ?_
    refine LW.iterB (E := fun x1 : FHear_L1 => [(0, .ptr 4 0), (19, .p (.slice 9 (v1.map ofP))), (20, .p (.int .i64 (v1.length : Int))), (21, .p (.int .i64 x1.t21))]) (O := fun x1 => [.box [.p (.slice 1 (c0.W.map i64P)), .p (.int .u64 c0.Seed), .p (.int .i64 c0.Epoch), .p (.int .i64 c0.Num), .p (.int .i64 c0.Den)], .box [.p (.int .i64 n0.No), .p (.int .i64 n0.Tick), .p (.slice 5 (n0.V.B.map blkP)), .p (.slice 4 (n0.V.V.map vtP)), .p (.slice 5 (n0.In.B.map blkP)), .p (.slice 4 (n0.In.V.map vtP)), .p (.slice 9 (n0.O.map ofP)), .p (.int .u64 n0.C.ID.1), .p (.int .u64 n0.C.ID.2), .p (.int .i64 n0.C.Slot), .p (.int .i64 n0.C.Revoked), .p (.bool n0.Full)], .box [.p (.slice 5 (in0.B.map blkP)), .p (.slice 4 (in0.V.map vtP))], .box [.p (.int .i64 0), .p (.int .i64 0), .zs, .zs, .zs, .zs, .zs, .p (.int .u64 0), .p (.int .u64 0), .p (.int .i64 0), .p (.int .i64 0), .p (.bool false)], .box [.p (.int .i64 x.No), .p (.int .i64 x.Tick), .p (.slice 5 (x.V.B.map blkP)), .p (.slice 4 (x.V.V.map vtP)), .p (.slice 5 (x.In.B.map blkP)), .p (.slice 4 (x.In.V.map vtP)), .vec 9 5 (x1.o5.map ofP).length 0 (x1.o5.map ofP).length, .p (.int .u64 x.C.ID.1), .p (.int .u64 x.C.ID.2), .p (.int .i64 x.C.Slot), .p (.int .i64 x.C.Revoked), .p (.bool x1.w_11), .p (.slice 1 (c.W.map i64P)), .p (.int .u64 c.Seed), .p (.int .i64 c.Epoch), .p (.int .i64 c.Num), .p (.int .i64 c.Den), .p (.int .i64 slot), .p (.slice 9 (tl.map ofP))], .vec 9 (x1.o5.map ofP)]) hb_v2 (Weak.of 6 ⟨rfl, rfl, rfl, rfl, trivial⟩ rfl rfl rfl rfl) (fun x1 z_x1 hr hb_x1 => ?_)
    unfold FHear_s1 at hr
    refine LW.seq (LW.region (LOps.st rfl rfl rfl (LOp.bin rfl rfl rfl rfl) (LOps.nil (thn_n (LW.seq ?_)))))
    refine LW.cond rfl (fun (g1 : (decide (x1.t21 < (v1.length : Int))) = true) => ?_) (fun (g1 : (decide (x1.t21 < (v1.length : Int))) = false) => ?_)
    ·
      have hr := ite_t g1 hr
      refine LW.skip (thn_n (LW.seq (LW.block (LW.seq (LW.region ?_)))))
      obtain ⟨y1, h_y1, hr⟩ := bind_get hr
      refine LOps.st rfl rfl rfl (LOp.indexAddrX rfl rfl rfl st1036 h_y1 rfl) (LOps.st rfl rfl rfl (LOp.loadC rfl rfl rfl vt1077 rfl rfl) (LOps.st rfl rfl rfl (LOp.alloc rfl zt1077 rfl rfl) (LOps.st rfl rfl rfl (LOp.store rfl rfl rfl rfl vt1077 rfl rfl rfl rfl) (LOps.nil (thn_n (LW.block ?_))))))
      obtain ⟨v3, hb_v3, ho_v3⟩ := bind_get hr
      clear hr
      refine LW.cut (E := [(0, .ptr 4 0), (6, .ptr 6 0), (19, .p (.slice 9 (v1.map ofP))), (20, .p (.int .i64 (v1.length : Int))), (21, .p (.int .i64 x1.t21)), (38, .p (.bool v3))]) (O := [.box [.p (.slice 1 (c0.W.map i64P)), .p (.int .u64 c0.Seed), .p (.int .i64 c0.Epoch), .p (.int .i64 c0.Num), .p (.int .i64 c0.Den)], .box [.p (.int .i64 n0.No), .p (.int .i64 n0.Tick), .p (.slice 5 (n0.V.B.map blkP)), .p (.slice 4 (n0.V.V.map vtP)), .p (.slice 5 (n0.In.B.map blkP)), .p (.slice 4 (n0.In.V.map vtP)), .p (.slice 9 (n0.O.map ofP)), .p (.int .u64 n0.C.ID.1), .p (.int .u64 n0.C.ID.2), .p (.int .i64 n0.C.Slot), .p (.int .i64 n0.C.Revoked), .p (.bool n0.Full)], .box [.p (.slice 5 (in0.B.map blkP)), .p (.slice 4 (in0.V.map vtP))], .box [.p (.int .i64 0), .p (.int .i64 0), .zs, .zs, .zs, .zs, .zs, .p (.int .u64 0), .p (.int .u64 0), .p (.int .i64 0), .p (.int .i64 0), .p (.bool false)], .box [.p (.int .i64 x.No), .p (.int .i64 x.Tick), .p (.slice 5 (x.V.B.map blkP)), .p (.slice 4 (x.V.V.map vtP)), .p (.slice 5 (x.In.B.map blkP)), .p (.slice 4 (x.In.V.map vtP)), .vec 9 5 (x1.o5.map ofP).length 0 (x1.o5.map ofP).length, .p (.int .u64 x.C.ID.1), .p (.int .u64 x.C.ID.2), .p (.int .i64 x.C.Slot), .p (.int .i64 x.C.Revoked), .p (.bool x1.w_11), .p (.slice 1 (c.W.map i64P)), .p (.int .u64 c.Seed), .p (.int .i64 c.Epoch), .p (.int .i64 c.Num), .p (.int .i64 c.Den), .p (.int .i64 slot), .p (.slice 9 (tl.map ofP))], .vec 9 (x1.o5.map ofP), .box [.p (.int .i64 y1.Slot), .p (.int .i64 y1.From), .p (.int .i64 y1.B.Slot), .p (.int .i64 y1.B.From), .p (.int .u64 y1.B.Parent.1), .p (.int .u64 y1.B.Parent.2), .p (.int .u64 y1.B.Salt), .p (.slice 5 (y1.V.B.map blkP)), .p (.slice 4 (y1.V.V.map vtP))]]) ?_ ?_
      · have hr := hb_v3
        refine LW.seq (LW.region (LOps.st rfl rfl rfl (LOp.move rfl rfl) (LOps.st rfl rfl rfl (LOp.nilCheck rfl rfl) (LOps.st rfl rfl rfl (LOp.fieldAddr rfl rfl ft3090_0) (LOps.st rfl rfl rfl (LOp.fieldAddr rfl rfl ft1071_1) (LOps.st rfl rfl rfl (LOp.load rfl rfl rfl vt3 rfl rfl) (LOps.st rfl rfl rfl (LOp.rem rfl rfl rfl (by decide)) (LOps.st rfl rfl rfl (LOp.bin rfl rfl rfl rfl) (LOps.st rfl rfl rfl (LOp.assign rfl rfl) (LOps.nil (thn_n ?_)))))))))))
        refine LW.cond rfl (fun (g2 : ((x.Tick.tmod 3) == 2) = true) => ?_) (fun (g2 : ((x.Tick.tmod 3) == 2) = false) => ?_)
        ·
          have hr := ite_t g2 hr
          refine LW.skip (thn_n ?_)
          obtain rfl := Option.some.inj hr
          exact Weak.of 7 ⟨rfl, rfl, rfl, rfl, rfl, rfl, trivial⟩ rfl rfl rfl rfl
        ·
          have hr := ite_f g2 hr
          refine LW.seq (LW.draw (by kernel_rfl) (by kernel_rfl) (LO.st rfl rfl rfl (LOp.fieldAddr rfl rfl ft1077_0) (LO.st rfl rfl rfl (LOp.load rfl rfl rfl vt3 rfl rfl) (LO.st rfl rfl rfl (LOp.move rfl rfl) (LO.st rfl rfl rfl (LOp.nilCheck rfl rfl) (LO.st rfl rfl rfl (LOp.fieldAddr rfl rfl ft3090_2) (LO.st rfl rfl rfl (LOp.load rfl rfl rfl vt3 rfl rfl) (LO.st rfl rfl rfl (LOp.bin rfl rfl rfl rfl) (LO.st rfl rfl rfl (LOp.assign rfl rfl) (LO.nil (thn_n ?_)))))))))))
          refine LW.cond rfl (fun (g3 : (y1.Slot != slot) = true) => ?_) (fun (g3 : (y1.Slot != slot) = false) => ?_)
          ·
            have hr := ite_t g3 hr
            refine LW.skip (thn_n ?_)
            obtain rfl := Option.some.inj hr
            exact Weak.of 7 ⟨rfl, rfl, rfl, rfl, rfl, rfl, trivial⟩ rfl rfl rfl rfl
          ·
            have hr := ite_f g3 hr
            refine LW.draw (by kernel_rfl) (by kernel_rfl) (LO.st rfl rfl rfl (LOp.fieldAddr rfl rfl ft1077_1) (LO.st rfl rfl rfl (LOp.load rfl rfl rfl vt3 rfl rfl) (LO.st rfl rfl rfl (LOp.move rfl rfl) (LO.st rfl rfl rfl (LOp.nilCheck rfl rfl) (LO.st rfl rfl rfl (LOp.fieldAddr rfl rfl ft3090_1) (LO.st rfl rfl rfl (LOp.load rfl rfl rfl vt55 rfl rfl) (LO.st rfl rfl rfl (LOp.move rfl rfl) (LO.st rfl rfl rfl (LOp.nilCheck rfl rfl) (LO.st rfl rfl rfl (LOp.fieldAddr rfl rfl ft3090_2) (LO.st rfl rfl rfl (LOp.load rfl rfl rfl vt3 rfl rfl) ?_))))))))))
            obtain ⟨v4, h_v4, hr⟩ := bind_get hr
            refine LO.st rfl rfl rfl (LOp.call rfl rfl rfl (by kernel_rfl) (LC.pure (c63 h_v4) (.cons Conv.p (.cons Conv.p .nil)))) (LO.st rfl rfl rfl (LOp.bin rfl rfl rfl rfl) (LO.st rfl rfl rfl (LOp.assign rfl rfl) (LO.nil (thn_n ?_))))
            obtain rfl := Option.some.inj hr
            exact Weak.of 7 ⟨rfl, rfl, rfl, rfl, rfl, rfl, trivial⟩ rfl rfl rfl rfl
      · have hr := ho_v3
        clear hb_v3
        refine LW.cond rfl (fun (g4 : v3 = true) => ?_) (fun (g4 : v3 = false) => ?_)
        ·
          have hr := ite_t g4 hr
          refine LW.skip (inBlk_n (inBlk_n (thn_n (LW.region (LOps.st rfl rfl rfl (LOp.bin rfl rfl rfl rfl) (LOps.st rfl rfl rfl (LOp.move rfl rfl) (LOps.nil (thn_n ?_))))))))
          obtain rfl := Option.some.inj hr
          exact ⟨_, rfl, Weak.of 6 ⟨rfl, rfl, rfl, rfl, trivial⟩ rfl rfl rfl rfl⟩
        ·
          have hr := ite_f g4 hr
          refine LW.seq (LW.region (LOps.st rfl rfl rfl (LOp.move rfl rfl) (LOps.st rfl rfl rfl (LOp.nilCheck rfl rfl) (LOps.st rfl rfl rfl (LOp.fieldAddr rfl rfl ft3090_0) (LOps.st rfl rfl rfl (LOp.fieldAddr rfl rfl ft1071_4) (LOps.st rfl rfl rfl (LOp.load rfl rfl rfl vt1036 rfl rfl) (LOps.st rfl rfl rfl (LOp.lenVM rfl rfl rfl (by kernel_rfl)) (LOps.st rfl rfl rfl (LOp.bin rfl rfl rfl rfl) (LOps.st rfl rfl rfl (LOp.assign rfl rfl) (LOps.nil (thn_n ?_)))))))))))
          refine LW.cond rfl (fun (g5 : ((x1.o5.length : Int) == 8) = true) => ?_) (fun (g5 : ((x1.o5.length : Int) == 8) = false) => ?_)
          ·
            have hr := ite_t g5 hr
            refine LW.region (LOps.st rfl rfl rfl (LOp.move rfl rfl) (LOps.st rfl rfl rfl (LOp.nilCheck rfl rfl) (LOps.st rfl rfl rfl (LOp.fieldAddr rfl rfl ft3090_0) (LOps.st rfl rfl rfl (LOp.fieldAddr rfl rfl ft1071_6) (LOps.st rfl rfl rfl (LOp.store rfl rfl rfl rfl vt4 rfl rfl rfl rfl) (LOps.nil (inBlk_n (inBlk_n (thn_n (LW.region (LOps.st rfl rfl rfl (LOp.bin rfl rfl rfl rfl) ?_)))))))))))
            refine LOps.st rfl rfl rfl (LOp.move rfl rfl) (LOps.nil (thn_n ?_))
            obtain rfl := Option.some.inj hr
            exact ⟨_, rfl, Weak.of 6 ⟨rfl, rfl, rfl, rfl, trivial⟩ rfl rfl rfl rfl⟩
          ·
            have hr := ite_f g5 hr
            refine LW.drawW (by kernel_rfl) (by kernel_rfl) ?_
            refine LF.st (F := []) (s := none) rfl rfl rfl (fun H _ => LOp.move rfl rfl) rfl ?_
            refine LF.st (F := []) (s := none) rfl rfl rfl (fun H _ => LOp.move rfl rfl) rfl ?_
            refine LF.st (F := []) (s := none) rfl rfl rfl (fun H _ => LOp.nilCheck rfl rfl) rfl ?_
            refine LF.st (F := []) (s := none) rfl rfl rfl (fun H _ => LOp.fieldAddr rfl rfl ft3090_0) rfl ?_
            refine LF.st (F := []) (s := none) rfl rfl rfl (fun H _ => LOp.fieldAddr rfl rfl ft1071_4) rfl ?_
            refine LF.st rfl rfl rfl (LAt.load rfl rfl rfl vt1036 rfl rfl) rfl (LF.st rfl rfl rfl (LAt.load rfl rfl rfl vt1077 rfl rfl) rfl ?_)
            obtain ⟨v5, h_v5, hr⟩ := bind_get hr
            refine LF.st (F := []) (s := none) rfl rfl rfl (fun H _ => LOp.call rfl rfl rfl (by kernel_rfl) (LC.pure (c3052 h_v5) (.cons Conv.p .nil))) rfl ?_
            refine LF.st (F := []) (s := none) rfl rfl rfl (fun H _ => LOp.buildSlice rfl st1036 rfl rfl rfl rfl rfl) rfl ?_
            obtain ⟨q1, hr⟩ := grd_get hr
            refine LF.st rfl rfl rfl (LAt.appendX ofP x1.o5 [v5] rfl rfl rfl rfl rfl st1036 q1) rfl ?_
            refine LF.st (F := []) (s := none) rfl rfl rfl (fun H _ => LOp.nilCheck rfl rfl) rfl ?_
            refine LF.st (F := []) (s := none) rfl rfl rfl (fun H _ => LOp.fieldAddr rfl rfl ft3090_0) rfl ?_
            refine LF.st (F := []) (s := none) rfl rfl rfl (fun H _ => LOp.fieldAddr rfl rfl ft1071_4) rfl ?_
            refine LF.st rfl rfl rfl (LAt.store rfl rfl rfl rfl vt1036 rfl rfl rfl) rfl ?_
            refine LF.nil ⟨by kernel_rfl, ?_⟩
            refine inBlk_n (inBlk_n (thn_n (LW.region (LOps.st rfl rfl rfl (LOp.bin rfl rfl rfl rfl) (LOps.st rfl rfl rfl (LOp.move rfl rfl) (LOps.nil (thn_n ?_)))))))
            obtain rfl := Option.some.inj hr
            exact ⟨_, rfl, Weak.of 6 ⟨rfl, rfl, rfl, rfl, trivial⟩ rfl rfl rfl rfl⟩
    ·
      have hr := ite_f g1 hr
      refine LW.exit (thn_e (thn_e (inBlk_self (thn_n ?_))))
      obtain rfl := Option.some.inj hr
      have hr := congrArg some (hb_x1 _ rfl)
      obtain rfl := Option.some.inj hr
      exact Weak.of 6 trivial rfl rfl rfl rfl
  · have hr := ho_v2
    clear hb_v2
    obtain rfl := Option.some.inj hr
    exact fin_endW hw_v2 .none ⟨rfl, rfl⟩
def FCount (inp : Vw) (c : Cf) (slot : Int) (v : Vw) (full : Bool) : Option (Vw × Vw × Bool) :=
  (F90 c v inp slot).bind fun v1 =>
  bif full then
    some (v1.2.1, v1.1, true)
  else
    some (v1.2.1, v1.1, v1.2.2)
set_option maxRecDepth 100000 in
theorem cFCount {inp : Vw} {c : Cf} {slot : Int} {v : Vw} {full : Bool} {x : Nd} {o : List Of} {tl : List Of} {c0 : Cf} {n0 : Nd} {in0 : Vw} {r_ : Vw × Vw × Bool} (hr : FCount inp c slot v full = some r_) : LC Tryz.prog 96 [.ptr 4 0, .p (vwP inp)] [.box [.p (.slice 1 (c0.W.map i64P)), .p (.int .u64 c0.Seed), .p (.int .i64 c0.Epoch), .p (.int .i64 c0.Num), .p (.int .i64 c0.Den)], .box [.p (.int .i64 n0.No), .p (.int .i64 n0.Tick), .p (.slice 5 (n0.V.B.map blkP)), .p (.slice 4 (n0.V.V.map vtP)), .p (.slice 5 (n0.In.B.map blkP)), .p (.slice 4 (n0.In.V.map vtP)), .p (.slice 9 (n0.O.map ofP)), .p (.int .u64 n0.C.ID.1), .p (.int .u64 n0.C.ID.2), .p (.int .i64 n0.C.Slot), .p (.int .i64 n0.C.Revoked), .p (.bool n0.Full)], .box [.p (.slice 5 (in0.B.map blkP)), .p (.slice 4 (in0.V.map vtP))], .box [.p (.int .i64 0), .p (.int .i64 0), .zs, .zs, .zs, .zs, .zs, .p (.int .u64 0), .p (.int .u64 0), .p (.int .i64 0), .p (.int .i64 0), .p (.bool false)], .box [.p (.int .i64 x.No), .p (.int .i64 x.Tick), .p (.slice 5 (v.B.map blkP)), .p (.slice 4 (v.V.map vtP)), .p (.slice 5 (x.In.B.map blkP)), .p (.slice 4 (x.In.V.map vtP)), .vec 9 5 (o.map ofP).length 0 (o.map ofP).length, .p (.int .u64 x.C.ID.1), .p (.int .u64 x.C.ID.2), .p (.int .i64 x.C.Slot), .p (.int .i64 x.C.Revoked), .p (.bool full), .p (.slice 1 (c.W.map i64P)), .p (.int .u64 c.Seed), .p (.int .i64 c.Epoch), .p (.int .i64 c.Num), .p (.int .i64 c.Den), .p (.int .i64 slot), .p (.slice 9 (tl.map ofP))], .vec 9 (o.map ofP)] (Is (.p (vwP r_.1)) [.box [.p (.slice 1 (c0.W.map i64P)), .p (.int .u64 c0.Seed), .p (.int .i64 c0.Epoch), .p (.int .i64 c0.Num), .p (.int .i64 c0.Den)], .box [.p (.int .i64 n0.No), .p (.int .i64 n0.Tick), .p (.slice 5 (n0.V.B.map blkP)), .p (.slice 4 (n0.V.V.map vtP)), .p (.slice 5 (n0.In.B.map blkP)), .p (.slice 4 (n0.In.V.map vtP)), .p (.slice 9 (n0.O.map ofP)), .p (.int .u64 n0.C.ID.1), .p (.int .u64 n0.C.ID.2), .p (.int .i64 n0.C.Slot), .p (.int .i64 n0.C.Revoked), .p (.bool n0.Full)], .box [.p (.slice 5 (in0.B.map blkP)), .p (.slice 4 (in0.V.map vtP))], .box [.p (.int .i64 0), .p (.int .i64 0), .zs, .zs, .zs, .zs, .zs, .p (.int .u64 0), .p (.int .u64 0), .p (.int .i64 0), .p (.int .i64 0), .p (.bool false)], .box [.p (.int .i64 x.No), .p (.int .i64 x.Tick), .p (.slice 5 (r_.2.1.B.map blkP)), .p (.slice 4 (r_.2.1.V.map vtP)), .p (.slice 5 (x.In.B.map blkP)), .p (.slice 4 (x.In.V.map vtP)), .vec 9 5 (o.map ofP).length 0 (o.map ofP).length, .p (.int .u64 x.C.ID.1), .p (.int .u64 x.C.ID.2), .p (.int .i64 x.C.Slot), .p (.int .i64 x.C.Revoked), .p (.bool r_.2.2), .p (.slice 1 (c.W.map i64P)), .p (.int .u64 c.Seed), .p (.int .i64 c.Epoch), .p (.int .i64 c.Num), .p (.int .i64 c.Den), .p (.int .i64 slot), .p (.slice 9 (tl.map ofP))], .vec 9 (o.map ofP)]) := by
  refine LC.start Tryz.func96 rfl rfl rfl ?_
  unfold FCount at hr
  refine LW.seq (LW.region (LOps.st rfl rfl rfl (LOp.box rfl rfl rfl rfl rfl) (LOps.st rfl rfl rfl (LOp.alloc rfl zt75 rfl rfl) (LOps.nil (thn_n (LW.seq (LW.ent (Ent.slot rfl) (LW.ent (Ent.slot rfl) (LW.drawW (by kernel_rfl) (by kernel_rfl) ?_)))))))))
  refine LF.st (F := []) (s := none) rfl rfl rfl (fun H _ => LOp.move rfl rfl) rfl ?_
  refine LF.st (F := []) (s := none) rfl rfl rfl (fun H _ => LOp.nilCheck rfl rfl) rfl ?_
  refine LF.st (F := []) (s := none) rfl rfl rfl (fun H _ => LOp.fieldAddr rfl rfl ft3090_1) rfl ?_
  refine LF.st rfl rfl rfl (LAt.load rfl rfl rfl vt55 rfl rfl) rfl ?_
  refine LF.st (F := []) (s := none) rfl rfl rfl (fun H _ => LOp.move rfl rfl) rfl ?_
  refine LF.st (F := []) (s := none) rfl rfl rfl (fun H _ => LOp.nilCheck rfl rfl) rfl ?_
  refine LF.st (F := []) (s := none) rfl rfl rfl (fun H _ => LOp.fieldAddr rfl rfl ft3090_0) rfl ?_
  refine LF.st (F := []) (s := none) rfl rfl rfl (fun H _ => LOp.fieldAddr rfl rfl ft1071_2) rfl ?_
  refine LF.st rfl rfl rfl (LAt.load rfl rfl rfl vt75 rfl rfl) rfl (LF.st rfl rfl rfl (LAt.load rfl rfl rfl vt75 rfl rfl) rfl ?_)
  refine LF.st (F := []) (s := none) rfl rfl rfl (fun H _ => LOp.move rfl rfl) rfl ?_
  refine LF.st (F := []) (s := none) rfl rfl rfl (fun H _ => LOp.nilCheck rfl rfl) rfl ?_
  refine LF.st (F := []) (s := none) rfl rfl rfl (fun H _ => LOp.fieldAddr rfl rfl ft3090_2) rfl ?_
  refine LF.st rfl rfl rfl (LAt.load rfl rfl rfl vt3 rfl rfl) rfl ?_
  obtain ⟨v1, h_v1, hr⟩ := bind_get hr
  refine LF.st (F := []) (s := none) rfl rfl rfl (fun H _ => LOp.call rfl rfl rfl (by kernel_rfl) (LC.pure (c90 h_v1) (.cons Conv.p (.cons Conv.p (.cons Conv.p (.cons Conv.p .nil)))))) rfl ?_
  refine LF.st (F := []) (s := none) rfl rfl rfl (fun H _ => LOp.move rfl rfl) rfl ?_
  refine LF.st (F := []) (s := none) rfl rfl rfl (fun H _ => LOp.extract rfl rfl rfl) rfl ?_
  refine LF.st (F := []) (s := none) rfl rfl rfl (fun H _ => LOp.extract rfl rfl rfl) rfl ?_
  refine LF.st (F := []) (s := none) rfl rfl rfl (fun H _ => LOp.extract rfl rfl rfl) rfl ?_
  refine LF.st rfl rfl rfl (LAt.alloc rfl zt75 (id := 8) rfl) rfl (LF.st rfl rfl rfl (LAt.alloc rfl zt75 (id := 9) rfl) rfl (LF.st rfl rfl rfl (LAt.store rfl rfl rfl rfl vt75 rfl rfl rfl) rfl (LF.st rfl rfl rfl (LAt.store rfl rfl rfl rfl vt75 rfl rfl rfl) rfl ?_)))
  refine LF.st (F := []) (s := none) rfl rfl rfl (fun H _ => LOp.assign rfl rfl) rfl ?_
  refine LF.nil ⟨by kernel_rfl, ?_⟩
  refine thn_n (LW.seq (LW.drawW (by kernel_rfl) (by kernel_rfl) ?_))
  refine LF.st (F := []) (s := none) rfl rfl rfl (fun H _ => LOp.move rfl rfl) rfl ?_
  refine LF.st (F := []) (s := none) rfl rfl rfl (fun H _ => LOp.move rfl rfl) rfl ?_
  refine LF.st rfl rfl rfl (LAt.load rfl rfl rfl vt75 rfl rfl) rfl ?_
  refine LF.st (F := []) (s := none) rfl rfl rfl (fun H _ => LOp.move rfl rfl) rfl ?_
  refine LF.st (F := []) (s := none) rfl rfl rfl (fun H _ => LOp.nilCheck rfl rfl) rfl ?_
  refine LF.st (F := []) (s := none) rfl rfl rfl (fun H _ => LOp.fieldAddr rfl rfl ft3090_0) rfl ?_
  refine LF.st (F := []) (s := none) rfl rfl rfl (fun H _ => LOp.fieldAddr rfl rfl ft1071_6) rfl ?_
  refine LF.st rfl rfl rfl (LAt.load rfl rfl rfl vt4 rfl rfl) rfl ?_
  refine LF.st (F := []) (s := none) rfl rfl rfl (fun H _ => LOp.move rfl rfl) rfl ?_
  refine LF.cases 35 rfl (fun (g1 : full = true) => ?_) (fun (g1 : full = false) => ?_)
  ·
    have hr := ite_t g1 hr
    refine LF.sk rfl rfl rfl (gd g1 rfl) rfl rfl ?_
    refine LF.st (F := []) (s := none) rfl rfl rfl (fun H _ => LOp.pickT rfl (gdl g1 rfl) rfl) rfl ?_
    refine LF.st (F := []) (s := none) rfl rfl rfl (fun H _ => LOp.nilCheck rfl rfl) rfl ?_
    refine LF.st (F := []) (s := none) rfl rfl rfl (fun H _ => LOp.fieldAddr rfl rfl ft3090_0) rfl ?_
    refine LF.st (F := []) (s := none) rfl rfl rfl (fun H _ => LOp.fieldAddr rfl rfl ft1071_2) rfl ?_
    refine LF.st rfl rfl rfl (LAt.store rfl rfl rfl rfl vt75 rfl rfl rfl) rfl ?_
    refine LF.st (F := []) (s := none) rfl rfl rfl (fun H _ => LOp.nilCheck rfl rfl) rfl ?_
    refine LF.st (F := []) (s := none) rfl rfl rfl (fun H _ => LOp.fieldAddr rfl rfl ft3090_0) rfl ?_
    refine LF.st (F := []) (s := none) rfl rfl rfl (fun H _ => LOp.fieldAddr rfl rfl ft1071_6) rfl ?_
    refine LF.st rfl rfl rfl (LAt.store rfl rfl rfl rfl vt4 rfl rfl rfl) rfl ?_
    refine LF.nil ⟨by kernel_rfl, ?_⟩
    refine thn_n (LW.seq (LW.region (LOps.st rfl rfl rfl (LOp.load rfl rfl rfl vt75 rfl rfl) (LOps.st rfl rfl rfl (LOp.store rfl rfl rfl rfl vt75 rfl rfl rfl rfl) (LOps.nil (thn_n (LW.ret ?_)))))))
    obtain rfl := Option.some.inj hr
    refine fin_retV (env' := []) (H' := [.box [.p (.slice 1 (c0.W.map i64P)), .p (.int .u64 c0.Seed), .p (.int .i64 c0.Epoch), .p (.int .i64 c0.Num), .p (.int .i64 c0.Den)], .box [.p (.int .i64 n0.No), .p (.int .i64 n0.Tick), .p (.slice 5 (n0.V.B.map blkP)), .p (.slice 4 (n0.V.V.map vtP)), .p (.slice 5 (n0.In.B.map blkP)), .p (.slice 4 (n0.In.V.map vtP)), .p (.slice 9 (n0.O.map ofP)), .p (.int .u64 n0.C.ID.1), .p (.int .u64 n0.C.ID.2), .p (.int .i64 n0.C.Slot), .p (.int .i64 n0.C.Revoked), .p (.bool n0.Full)], .box [.p (.slice 5 (in0.B.map blkP)), .p (.slice 4 (in0.V.map vtP))], .box [.p (.int .i64 0), .p (.int .i64 0), .zs, .zs, .zs, .zs, .zs, .p (.int .u64 0), .p (.int .u64 0), .p (.int .i64 0), .p (.int .i64 0), .p (.bool false)], .box [.p (.int .i64 x.No), .p (.int .i64 x.Tick), .p (.slice 5 (v1.1.B.map blkP)), .p (.slice 4 (v1.1.V.map vtP)), .p (.slice 5 (x.In.B.map blkP)), .p (.slice 4 (x.In.V.map vtP)), .vec 9 5 (o.map ofP).length 0 (o.map ofP).length, .p (.int .u64 x.C.ID.1), .p (.int .u64 x.C.ID.2), .p (.int .i64 x.C.Slot), .p (.int .i64 x.C.Revoked), .p (.bool true), .p (.slice 1 (c.W.map i64P)), .p (.int .u64 c.Seed), .p (.int .i64 c.Epoch), .p (.int .i64 c.Num), .p (.int .i64 c.Den), .p (.int .i64 slot), .p (.slice 9 (tl.map ofP))], .vec 9 (o.map ofP)]) (Weak.of 6 trivial rfl rfl rfl rfl) (.one (.cellAgg rfl rfl (by kernel_rfl) rfl)) rfl ?_
    exact ⟨rfl, rfl⟩
  ·
    have hr := ite_f g1 hr
    refine LF.gd (F := []) (s := none) rfl rfl rfl (gd g1 rfl) rfl (fun H _ => LOp.move rfl rfl) rfl ?_
    refine LF.st (F := []) (s := none) rfl rfl rfl (fun H _ => LOp.pickF rfl (gdl g1 rfl) rfl) rfl ?_
    refine LF.st (F := []) (s := none) rfl rfl rfl (fun H _ => LOp.nilCheck rfl rfl) rfl ?_
    refine LF.st (F := []) (s := none) rfl rfl rfl (fun H _ => LOp.fieldAddr rfl rfl ft3090_0) rfl ?_
    refine LF.st (F := []) (s := none) rfl rfl rfl (fun H _ => LOp.fieldAddr rfl rfl ft1071_2) rfl ?_
    refine LF.st rfl rfl rfl (LAt.store rfl rfl rfl rfl vt75 rfl rfl rfl) rfl ?_
    refine LF.st (F := []) (s := none) rfl rfl rfl (fun H _ => LOp.nilCheck rfl rfl) rfl ?_
    refine LF.st (F := []) (s := none) rfl rfl rfl (fun H _ => LOp.fieldAddr rfl rfl ft3090_0) rfl ?_
    refine LF.st (F := []) (s := none) rfl rfl rfl (fun H _ => LOp.fieldAddr rfl rfl ft1071_6) rfl ?_
    refine LF.st rfl rfl rfl (LAt.store rfl rfl rfl rfl vt4 rfl rfl rfl) rfl ?_
    refine LF.nil ⟨by kernel_rfl, ?_⟩
    refine thn_n (LW.seq (LW.region (LOps.st rfl rfl rfl (LOp.load rfl rfl rfl vt75 rfl rfl) (LOps.st rfl rfl rfl (LOp.store rfl rfl rfl rfl vt75 rfl rfl rfl rfl) (LOps.nil (thn_n (LW.ret ?_)))))))
    obtain rfl := Option.some.inj hr
    refine fin_retV (env' := []) (H' := [.box [.p (.slice 1 (c0.W.map i64P)), .p (.int .u64 c0.Seed), .p (.int .i64 c0.Epoch), .p (.int .i64 c0.Num), .p (.int .i64 c0.Den)], .box [.p (.int .i64 n0.No), .p (.int .i64 n0.Tick), .p (.slice 5 (n0.V.B.map blkP)), .p (.slice 4 (n0.V.V.map vtP)), .p (.slice 5 (n0.In.B.map blkP)), .p (.slice 4 (n0.In.V.map vtP)), .p (.slice 9 (n0.O.map ofP)), .p (.int .u64 n0.C.ID.1), .p (.int .u64 n0.C.ID.2), .p (.int .i64 n0.C.Slot), .p (.int .i64 n0.C.Revoked), .p (.bool n0.Full)], .box [.p (.slice 5 (in0.B.map blkP)), .p (.slice 4 (in0.V.map vtP))], .box [.p (.int .i64 0), .p (.int .i64 0), .zs, .zs, .zs, .zs, .zs, .p (.int .u64 0), .p (.int .u64 0), .p (.int .i64 0), .p (.int .i64 0), .p (.bool false)], .box [.p (.int .i64 x.No), .p (.int .i64 x.Tick), .p (.slice 5 (v1.1.B.map blkP)), .p (.slice 4 (v1.1.V.map vtP)), .p (.slice 5 (x.In.B.map blkP)), .p (.slice 4 (x.In.V.map vtP)), .vec 9 5 (o.map ofP).length 0 (o.map ofP).length, .p (.int .u64 x.C.ID.1), .p (.int .u64 x.C.ID.2), .p (.int .i64 x.C.Slot), .p (.int .i64 x.C.Revoked), .p (.bool v1.2.2), .p (.slice 1 (c.W.map i64P)), .p (.int .u64 c.Seed), .p (.int .i64 c.Epoch), .p (.int .i64 c.Num), .p (.int .i64 c.Den), .p (.int .i64 slot), .p (.slice 9 (tl.map ofP))], .vec 9 (o.map ofP)]) (Weak.of 6 trivial rfl rfl rfl rfl) (.one (.cellAgg rfl rfl (by kernel_rfl) rfl)) rfl ?_
    exact ⟨rfl, rfl⟩
def FWhead (c : Cf) (v : Vw) (s : Int) : Option ID :=
  (F1048 c v s).bind fun v1 =>
  some v1
set_option maxRecDepth 100000 in
theorem cFWhead {c : Cf} {v : Vw} {s : Int} {x : Nd} {slot : Int} {o : List Of} {tl : List Of} {c0 : Cf} {n0 : Nd} {in0 : Vw} {r_ : ID} (hr : FWhead c v s = some r_) : LC Tryz.prog 97 [.ptr 4 0, .p (.int .i64 s)] [.box [.p (.slice 1 (c0.W.map i64P)), .p (.int .u64 c0.Seed), .p (.int .i64 c0.Epoch), .p (.int .i64 c0.Num), .p (.int .i64 c0.Den)], .box [.p (.int .i64 n0.No), .p (.int .i64 n0.Tick), .p (.slice 5 (n0.V.B.map blkP)), .p (.slice 4 (n0.V.V.map vtP)), .p (.slice 5 (n0.In.B.map blkP)), .p (.slice 4 (n0.In.V.map vtP)), .p (.slice 9 (n0.O.map ofP)), .p (.int .u64 n0.C.ID.1), .p (.int .u64 n0.C.ID.2), .p (.int .i64 n0.C.Slot), .p (.int .i64 n0.C.Revoked), .p (.bool n0.Full)], .box [.p (.slice 5 (in0.B.map blkP)), .p (.slice 4 (in0.V.map vtP))], .box [.p (.int .i64 0), .p (.int .i64 0), .zs, .zs, .zs, .zs, .zs, .p (.int .u64 0), .p (.int .u64 0), .p (.int .i64 0), .p (.int .i64 0), .p (.bool false)], .box [.p (.int .i64 x.No), .p (.int .i64 x.Tick), .p (.slice 5 (v.B.map blkP)), .p (.slice 4 (v.V.map vtP)), .p (.slice 5 (x.In.B.map blkP)), .p (.slice 4 (x.In.V.map vtP)), .vec 9 5 (o.map ofP).length 0 (o.map ofP).length, .p (.int .u64 x.C.ID.1), .p (.int .u64 x.C.ID.2), .p (.int .i64 x.C.Slot), .p (.int .i64 x.C.Revoked), .p (.bool x.Full), .p (.slice 1 (c.W.map i64P)), .p (.int .u64 c.Seed), .p (.int .i64 c.Epoch), .p (.int .i64 c.Num), .p (.int .i64 c.Den), .p (.int .i64 slot), .p (.slice 9 (tl.map ofP))], .vec 9 (o.map ofP)] (Is (.p (idP r_)) [.box [.p (.slice 1 (c0.W.map i64P)), .p (.int .u64 c0.Seed), .p (.int .i64 c0.Epoch), .p (.int .i64 c0.Num), .p (.int .i64 c0.Den)], .box [.p (.int .i64 n0.No), .p (.int .i64 n0.Tick), .p (.slice 5 (n0.V.B.map blkP)), .p (.slice 4 (n0.V.V.map vtP)), .p (.slice 5 (n0.In.B.map blkP)), .p (.slice 4 (n0.In.V.map vtP)), .p (.slice 9 (n0.O.map ofP)), .p (.int .u64 n0.C.ID.1), .p (.int .u64 n0.C.ID.2), .p (.int .i64 n0.C.Slot), .p (.int .i64 n0.C.Revoked), .p (.bool n0.Full)], .box [.p (.slice 5 (in0.B.map blkP)), .p (.slice 4 (in0.V.map vtP))], .box [.p (.int .i64 0), .p (.int .i64 0), .zs, .zs, .zs, .zs, .zs, .p (.int .u64 0), .p (.int .u64 0), .p (.int .i64 0), .p (.int .i64 0), .p (.bool false)], .box [.p (.int .i64 x.No), .p (.int .i64 x.Tick), .p (.slice 5 (v.B.map blkP)), .p (.slice 4 (v.V.map vtP)), .p (.slice 5 (x.In.B.map blkP)), .p (.slice 4 (x.In.V.map vtP)), .vec 9 5 (o.map ofP).length 0 (o.map ofP).length, .p (.int .u64 x.C.ID.1), .p (.int .u64 x.C.ID.2), .p (.int .i64 x.C.Slot), .p (.int .i64 x.C.Revoked), .p (.bool x.Full), .p (.slice 1 (c.W.map i64P)), .p (.int .u64 c.Seed), .p (.int .i64 c.Epoch), .p (.int .i64 c.Num), .p (.int .i64 c.Den), .p (.int .i64 slot), .p (.slice 9 (tl.map ofP))], .vec 9 (o.map ofP)]) := by
  refine LC.start Tryz.func97 rfl rfl rfl ?_
  unfold FWhead at hr
  refine LW.seq (LW.region (LOps.st rfl rfl rfl (LOp.alloc rfl zt24 rfl rfl) (LOps.nil (thn_n (LW.seq (LW.drawLast (m := 11) (by kernel_rfl) (by kernel_rfl) (by kernel_rfl) (LO.st rfl rfl rfl (LOp.move rfl rfl) (LO.st rfl rfl rfl (LOp.nilCheck rfl rfl) (LO.st rfl rfl rfl (LOp.fieldAddr rfl rfl ft3090_1) (LO.st rfl rfl rfl (LOp.load rfl rfl rfl vt55 rfl rfl) (LO.st rfl rfl rfl (LOp.move rfl rfl) ?_)))))))))))
  refine LO.st rfl rfl rfl (LOp.nilCheck rfl rfl) (LO.st rfl rfl rfl (LOp.fieldAddr rfl rfl ft3090_0) (LO.st rfl rfl rfl (LOp.fieldAddr rfl rfl ft1071_2) (LO.st rfl rfl rfl (LOp.load rfl rfl rfl vt75 rfl rfl) (LO.st rfl rfl rfl (LOp.move rfl rfl) ?_))))
  obtain ⟨v1, h_v1, hr⟩ := bind_get hr
  refine LO.st rfl rfl rfl (LOp.call rfl rfl rfl (by kernel_rfl) (LC.pure (c1048 h_v1) (.cons Conv.p (.cons Conv.p (.cons Conv.p .nil))))) (LO.nil (LOps.st rfl rfl rfl (LOp.store rfl rfl rfl rfl vt24 rfl rfl rfl rfl) (LOps.nil (thn_n (LW.ret ?_)))))
  obtain rfl := Option.some.inj hr
  refine fin_retV (env' := []) (H' := [.box [.p (.slice 1 (c0.W.map i64P)), .p (.int .u64 c0.Seed), .p (.int .i64 c0.Epoch), .p (.int .i64 c0.Num), .p (.int .i64 c0.Den)], .box [.p (.int .i64 n0.No), .p (.int .i64 n0.Tick), .p (.slice 5 (n0.V.B.map blkP)), .p (.slice 4 (n0.V.V.map vtP)), .p (.slice 5 (n0.In.B.map blkP)), .p (.slice 4 (n0.In.V.map vtP)), .p (.slice 9 (n0.O.map ofP)), .p (.int .u64 n0.C.ID.1), .p (.int .u64 n0.C.ID.2), .p (.int .i64 n0.C.Slot), .p (.int .i64 n0.C.Revoked), .p (.bool n0.Full)], .box [.p (.slice 5 (in0.B.map blkP)), .p (.slice 4 (in0.V.map vtP))], .box [.p (.int .i64 0), .p (.int .i64 0), .zs, .zs, .zs, .zs, .zs, .p (.int .u64 0), .p (.int .u64 0), .p (.int .i64 0), .p (.int .i64 0), .p (.bool false)], .box [.p (.int .i64 x.No), .p (.int .i64 x.Tick), .p (.slice 5 (v.B.map blkP)), .p (.slice 4 (v.V.map vtP)), .p (.slice 5 (x.In.B.map blkP)), .p (.slice 4 (x.In.V.map vtP)), .vec 9 5 (o.map ofP).length 0 (o.map ofP).length, .p (.int .u64 x.C.ID.1), .p (.int .u64 x.C.ID.2), .p (.int .i64 x.C.Slot), .p (.int .i64 x.C.Revoked), .p (.bool x.Full), .p (.slice 1 (c.W.map i64P)), .p (.int .u64 c.Seed), .p (.int .i64 c.Epoch), .p (.int .i64 c.Num), .p (.int .i64 c.Den), .p (.int .i64 slot), .p (.slice 9 (tl.map ofP))], .vec 9 (o.map ofP)]) (Weak.of 6 trivial rfl rfl rfl rfl) (.one (.cellAgg rfl rfl (by kernel_rfl) rfl)) rfl ?_
  exact ⟨rfl, rfl⟩
theorem whead_of {c : Cf} {v : Vw} {s : Int} {r_ : ID} (h : F1048 c v s = some r_) : FWhead c v s = some r_ := by unfold FWhead; rw [h]; rfl
def FWheadN (c : Cf) (v : Vw) (s : Int) : Option ID :=
  (F1048 c v s).bind fun v1 =>
  some v1
set_option maxRecDepth 100000 in
theorem cFWheadN {c : Cf} {v : Vw} {s : Int} {x : Nd} {slot : Int} {o : List Of} {tl : List Of} {c0 : Cf} {n0 : Nd} {in0 : Vw} {r_ : ID} (hr : FWheadN c v s = some r_) : LC Tryz.prog 97 [.ptr 4 0, .p (.int .i64 s)] [.box [.p (.slice 1 (c0.W.map i64P)), .p (.int .u64 c0.Seed), .p (.int .i64 c0.Epoch), .p (.int .i64 c0.Num), .p (.int .i64 c0.Den)], .box [.p (.int .i64 n0.No), .p (.int .i64 n0.Tick), .p (.slice 5 (n0.V.B.map blkP)), .p (.slice 4 (n0.V.V.map vtP)), .p (.slice 5 (n0.In.B.map blkP)), .p (.slice 4 (n0.In.V.map vtP)), .p (.slice 9 (n0.O.map ofP)), .p (.int .u64 n0.C.ID.1), .p (.int .u64 n0.C.ID.2), .p (.int .i64 n0.C.Slot), .p (.int .i64 n0.C.Revoked), .p (.bool n0.Full)], .box [.p (.slice 5 (in0.B.map blkP)), .p (.slice 4 (in0.V.map vtP))], .box [.p (.int .i64 0), .p (.int .i64 0), .zs, .zs, .zs, .zs, .zs, .p (.int .u64 0), .p (.int .u64 0), .p (.int .i64 0), .p (.int .i64 0), .p (.bool false)], .box [.p (.int .i64 x.No), .p (.int .i64 x.Tick), .p (.slice 5 (v.B.map blkP)), .p (.slice 4 (v.V.map vtP)), .p (.slice 5 (x.In.B.map blkP)), .p (.slice 4 (x.In.V.map vtP)), .p (.slice 9 (x.O.map ofP)), .p (.int .u64 x.C.ID.1), .p (.int .u64 x.C.ID.2), .p (.int .i64 x.C.Slot), .p (.int .i64 x.C.Revoked), .p (.bool x.Full), .p (.slice 1 (c.W.map i64P)), .p (.int .u64 c.Seed), .p (.int .i64 c.Epoch), .p (.int .i64 c.Num), .p (.int .i64 c.Den), .p (.int .i64 slot), .p (.slice 9 (tl.map ofP))], .vec 9 (o.map ofP)] (Is (.p (idP r_)) [.box [.p (.slice 1 (c0.W.map i64P)), .p (.int .u64 c0.Seed), .p (.int .i64 c0.Epoch), .p (.int .i64 c0.Num), .p (.int .i64 c0.Den)], .box [.p (.int .i64 n0.No), .p (.int .i64 n0.Tick), .p (.slice 5 (n0.V.B.map blkP)), .p (.slice 4 (n0.V.V.map vtP)), .p (.slice 5 (n0.In.B.map blkP)), .p (.slice 4 (n0.In.V.map vtP)), .p (.slice 9 (n0.O.map ofP)), .p (.int .u64 n0.C.ID.1), .p (.int .u64 n0.C.ID.2), .p (.int .i64 n0.C.Slot), .p (.int .i64 n0.C.Revoked), .p (.bool n0.Full)], .box [.p (.slice 5 (in0.B.map blkP)), .p (.slice 4 (in0.V.map vtP))], .box [.p (.int .i64 0), .p (.int .i64 0), .zs, .zs, .zs, .zs, .zs, .p (.int .u64 0), .p (.int .u64 0), .p (.int .i64 0), .p (.int .i64 0), .p (.bool false)], .box [.p (.int .i64 x.No), .p (.int .i64 x.Tick), .p (.slice 5 (v.B.map blkP)), .p (.slice 4 (v.V.map vtP)), .p (.slice 5 (x.In.B.map blkP)), .p (.slice 4 (x.In.V.map vtP)), .p (.slice 9 (x.O.map ofP)), .p (.int .u64 x.C.ID.1), .p (.int .u64 x.C.ID.2), .p (.int .i64 x.C.Slot), .p (.int .i64 x.C.Revoked), .p (.bool x.Full), .p (.slice 1 (c.W.map i64P)), .p (.int .u64 c.Seed), .p (.int .i64 c.Epoch), .p (.int .i64 c.Num), .p (.int .i64 c.Den), .p (.int .i64 slot), .p (.slice 9 (tl.map ofP))], .vec 9 (o.map ofP)]) := by
  refine LC.start Tryz.func97 rfl rfl rfl ?_
  unfold FWheadN at hr
  refine LW.seq (LW.region (LOps.st rfl rfl rfl (LOp.alloc rfl zt24 rfl rfl) (LOps.nil (thn_n (LW.seq (LW.drawLast (m := 11) (by kernel_rfl) (by kernel_rfl) (by kernel_rfl) (LO.st rfl rfl rfl (LOp.move rfl rfl) (LO.st rfl rfl rfl (LOp.nilCheck rfl rfl) (LO.st rfl rfl rfl (LOp.fieldAddr rfl rfl ft3090_1) (LO.st rfl rfl rfl (LOp.load rfl rfl rfl vt55 rfl rfl) (LO.st rfl rfl rfl (LOp.move rfl rfl) ?_)))))))))))
  refine LO.st rfl rfl rfl (LOp.nilCheck rfl rfl) (LO.st rfl rfl rfl (LOp.fieldAddr rfl rfl ft3090_0) (LO.st rfl rfl rfl (LOp.fieldAddr rfl rfl ft1071_2) (LO.st rfl rfl rfl (LOp.load rfl rfl rfl vt75 rfl rfl) (LO.st rfl rfl rfl (LOp.move rfl rfl) ?_))))
  obtain ⟨v1, h_v1, hr⟩ := bind_get hr
  refine LO.st rfl rfl rfl (LOp.call rfl rfl rfl (by kernel_rfl) (LC.pure (c1048 h_v1) (.cons Conv.p (.cons Conv.p (.cons Conv.p .nil))))) (LO.nil (LOps.st rfl rfl rfl (LOp.store rfl rfl rfl rfl vt24 rfl rfl rfl rfl) (LOps.nil (thn_n (LW.ret ?_)))))
  obtain rfl := Option.some.inj hr
  refine fin_retV (env' := []) (H' := [.box [.p (.slice 1 (c0.W.map i64P)), .p (.int .u64 c0.Seed), .p (.int .i64 c0.Epoch), .p (.int .i64 c0.Num), .p (.int .i64 c0.Den)], .box [.p (.int .i64 n0.No), .p (.int .i64 n0.Tick), .p (.slice 5 (n0.V.B.map blkP)), .p (.slice 4 (n0.V.V.map vtP)), .p (.slice 5 (n0.In.B.map blkP)), .p (.slice 4 (n0.In.V.map vtP)), .p (.slice 9 (n0.O.map ofP)), .p (.int .u64 n0.C.ID.1), .p (.int .u64 n0.C.ID.2), .p (.int .i64 n0.C.Slot), .p (.int .i64 n0.C.Revoked), .p (.bool n0.Full)], .box [.p (.slice 5 (in0.B.map blkP)), .p (.slice 4 (in0.V.map vtP))], .box [.p (.int .i64 0), .p (.int .i64 0), .zs, .zs, .zs, .zs, .zs, .p (.int .u64 0), .p (.int .u64 0), .p (.int .i64 0), .p (.int .i64 0), .p (.bool false)], .box [.p (.int .i64 x.No), .p (.int .i64 x.Tick), .p (.slice 5 (v.B.map blkP)), .p (.slice 4 (v.V.map vtP)), .p (.slice 5 (x.In.B.map blkP)), .p (.slice 4 (x.In.V.map vtP)), .p (.slice 9 (x.O.map ofP)), .p (.int .u64 x.C.ID.1), .p (.int .u64 x.C.ID.2), .p (.int .i64 x.C.Slot), .p (.int .i64 x.C.Revoked), .p (.bool x.Full), .p (.slice 1 (c.W.map i64P)), .p (.int .u64 c.Seed), .p (.int .i64 c.Epoch), .p (.int .i64 c.Num), .p (.int .i64 c.Den), .p (.int .i64 slot), .p (.slice 9 (tl.map ofP))], .vec 9 (o.map ofP)]) (Weak.of 6 trivial rfl rfl rfl rfl) (.one (.cellAgg rfl rfl (by kernel_rfl) rfl)) rfl ?_
  exact ⟨rfl, rfl⟩
theorem wheadN_of {c : Cf} {v : Vw} {s : Int} {r_ : ID} (h : F1048 c v s = some r_) : FWheadN c v s = some r_ := by unfold FWheadN; rw [h]; rfl
def FFirst (x : Nd) (c : Cf) (slot : Int) (tl : List Of) : Option (Vw × Vw × Bool × List Of) :=
  (F63 c slot).bind fun v1 =>
  bif x.No != v1 then
    some (x.V, x.In, x.Full, tl)
  else
    (FCount x.In c slot x.V x.Full).bind fun v2 =>
    (F1048 c v2.2.1 (IntKind.i64.wrap (slot - 1))).bind fun v3 =>
    (F3052 (Of.mk slot x.No (Bk.mk slot x.No v3 0) v2.2.1)).bind fun v4 =>
    (F3098 (Bk.mk slot x.No v3 0)).bind fun v5 =>
    (FCount v5 c slot v2.2.1 v2.2.2).bind fun v6 =>
    some (v6.2.1, v2.1, v6.2.2, [v4])
set_option maxRecDepth 100000 in
theorem cFFirst {x : Nd} {o : List Of} {c : Cf} {slot : Int} {tl : List Of} {c0 : Cf} {n0 : Nd} {in0 : Vw} {r_ : Vw × Vw × Bool × List Of} (hr : FFirst x c slot tl = some r_) : LC Tryz.prog 55 [.ptr 4 0] [.box [.p (.slice 1 (c0.W.map i64P)), .p (.int .u64 c0.Seed), .p (.int .i64 c0.Epoch), .p (.int .i64 c0.Num), .p (.int .i64 c0.Den)], .box [.p (.int .i64 n0.No), .p (.int .i64 n0.Tick), .p (.slice 5 (n0.V.B.map blkP)), .p (.slice 4 (n0.V.V.map vtP)), .p (.slice 5 (n0.In.B.map blkP)), .p (.slice 4 (n0.In.V.map vtP)), .p (.slice 9 (n0.O.map ofP)), .p (.int .u64 n0.C.ID.1), .p (.int .u64 n0.C.ID.2), .p (.int .i64 n0.C.Slot), .p (.int .i64 n0.C.Revoked), .p (.bool n0.Full)], .box [.p (.slice 5 (in0.B.map blkP)), .p (.slice 4 (in0.V.map vtP))], .box [.p (.int .i64 0), .p (.int .i64 0), .zs, .zs, .zs, .zs, .zs, .p (.int .u64 0), .p (.int .u64 0), .p (.int .i64 0), .p (.int .i64 0), .p (.bool false)], .box [.p (.int .i64 x.No), .p (.int .i64 x.Tick), .p (.slice 5 (x.V.B.map blkP)), .p (.slice 4 (x.V.V.map vtP)), .p (.slice 5 (x.In.B.map blkP)), .p (.slice 4 (x.In.V.map vtP)), .vec 9 5 (o.map ofP).length 0 (o.map ofP).length, .p (.int .u64 x.C.ID.1), .p (.int .u64 x.C.ID.2), .p (.int .i64 x.C.Slot), .p (.int .i64 x.C.Revoked), .p (.bool x.Full), .p (.slice 1 (c.W.map i64P)), .p (.int .u64 c.Seed), .p (.int .i64 c.Epoch), .p (.int .i64 c.Num), .p (.int .i64 c.Den), .p (.int .i64 slot), .p (.slice 9 (tl.map ofP))], .vec 9 (o.map ofP)] (Is (.tup []) [.box [.p (.slice 1 (c0.W.map i64P)), .p (.int .u64 c0.Seed), .p (.int .i64 c0.Epoch), .p (.int .i64 c0.Num), .p (.int .i64 c0.Den)], .box [.p (.int .i64 n0.No), .p (.int .i64 n0.Tick), .p (.slice 5 (n0.V.B.map blkP)), .p (.slice 4 (n0.V.V.map vtP)), .p (.slice 5 (n0.In.B.map blkP)), .p (.slice 4 (n0.In.V.map vtP)), .p (.slice 9 (n0.O.map ofP)), .p (.int .u64 n0.C.ID.1), .p (.int .u64 n0.C.ID.2), .p (.int .i64 n0.C.Slot), .p (.int .i64 n0.C.Revoked), .p (.bool n0.Full)], .box [.p (.slice 5 (in0.B.map blkP)), .p (.slice 4 (in0.V.map vtP))], .box [.p (.int .i64 0), .p (.int .i64 0), .zs, .zs, .zs, .zs, .zs, .p (.int .u64 0), .p (.int .u64 0), .p (.int .i64 0), .p (.int .i64 0), .p (.bool false)], .box [.p (.int .i64 x.No), .p (.int .i64 x.Tick), .p (.slice 5 (r_.1.B.map blkP)), .p (.slice 4 (r_.1.V.map vtP)), .p (.slice 5 (r_.2.1.B.map blkP)), .p (.slice 4 (r_.2.1.V.map vtP)), .vec 9 5 (o.map ofP).length 0 (o.map ofP).length, .p (.int .u64 x.C.ID.1), .p (.int .u64 x.C.ID.2), .p (.int .i64 x.C.Slot), .p (.int .i64 x.C.Revoked), .p (.bool r_.2.2.1), .p (.slice 1 (c.W.map i64P)), .p (.int .u64 c.Seed), .p (.int .i64 c.Epoch), .p (.int .i64 c.Num), .p (.int .i64 c.Den), .p (.int .i64 slot), .p (.slice 9 (r_.2.2.2.map ofP))], .vec 9 (o.map ofP)]) := by
  refine LC.start Tryz.func55 rfl rfl rfl ?_
  unfold FFirst at hr
  refine LW.seq (LW.seq (LW.draw (by kernel_rfl) (by kernel_rfl) (LO.st rfl rfl rfl (LOp.move rfl rfl) (LO.st rfl rfl rfl (LOp.nilCheck rfl rfl) (LO.st rfl rfl rfl (LOp.fieldAddr rfl rfl ft3090_0) (LO.st rfl rfl rfl (LOp.fieldAddr rfl rfl ft1071_0) (LO.st rfl rfl rfl (LOp.load rfl rfl rfl vt3 rfl rfl) (LO.st rfl rfl rfl (LOp.move rfl rfl) (LO.st rfl rfl rfl (LOp.nilCheck rfl rfl) (LO.st rfl rfl rfl (LOp.fieldAddr rfl rfl ft3090_1) (LO.st rfl rfl rfl (LOp.load rfl rfl rfl vt55 rfl rfl) ?_)))))))))))
  refine LO.st rfl rfl rfl (LOp.move rfl rfl) (LO.st rfl rfl rfl (LOp.nilCheck rfl rfl) (LO.st rfl rfl rfl (LOp.fieldAddr rfl rfl ft3090_2) (LO.st rfl rfl rfl (LOp.load rfl rfl rfl vt3 rfl rfl) ?_)))
  obtain ⟨v1, h_v1, hr⟩ := bind_get hr
  refine LO.st rfl rfl rfl (LOp.call rfl rfl rfl (by kernel_rfl) (LC.pure (c63 h_v1) (.cons Conv.p (.cons Conv.p .nil)))) (LO.st rfl rfl rfl (LOp.bin rfl rfl rfl rfl) (LO.nil (thn_n ?_)))
  refine LW.cond rfl (fun (g1 : (x.No != v1) = true) => ?_) (fun (g1 : (x.No != v1) = false) => ?_)
  ·
    have hr := ite_t g1 hr
    refine LW.ret (thn_r ?_)
    obtain rfl := Option.some.inj hr
    refine fin_ret .none ?_
    exact ⟨rfl, rfl⟩
  ·
    have hr := ite_f g1 hr
    refine LW.skip (thn_n (LW.seq (LW.region (LOps.st rfl rfl rfl (LOp.move rfl rfl) (LOps.st rfl rfl rfl (LOp.move rfl rfl) (LOps.st rfl rfl rfl (LOp.move rfl rfl) (LOps.st rfl rfl rfl (LOp.nilCheck rfl rfl) (LOps.st rfl rfl rfl (LOp.fieldAddr rfl rfl ft3090_0) (LOps.st rfl rfl rfl (LOp.fieldAddr rfl rfl ft1071_3) (LOps.st rfl rfl rfl (LOp.load rfl rfl rfl vt75 rfl rfl) ?_))))))))))
    obtain ⟨v2, h_v2, hr⟩ := bind_get hr
    refine LOps.st rfl rfl rfl (LOp.call rfl rfl rfl (by kernel_rfl) (cFCount (x := Nd.mk x.No x.Tick x.V x.In [] x.C x.Full) (o := o) (tl := tl) h_v2)) (LOps.st rfl rfl rfl (LOp.nilCheck rfl rfl) (LOps.st rfl rfl rfl (LOp.fieldAddr rfl rfl ft3090_0) (LOps.st rfl rfl rfl (LOp.fieldAddr rfl rfl ft1071_3) (LOps.st rfl rfl rfl (LOp.store rfl rfl rfl rfl vt75 rfl rfl rfl rfl) (LOps.nil (thn_n (LW.seq (LW.ent (Ent.slot rfl) (LW.drawW (by kernel_rfl) (by kernel_rfl) ?_)))))))))
    refine LF.st (F := []) (s := none) rfl rfl rfl (fun H _ => LOp.move rfl rfl) rfl ?_
    refine LF.st (F := []) (s := none) rfl rfl rfl (fun H _ => LOp.nilCheck rfl rfl) rfl ?_
    refine LF.st (F := []) (s := none) rfl rfl rfl (fun H _ => LOp.fieldAddr rfl rfl ft3090_2) rfl ?_
    refine LF.st rfl rfl rfl (LAt.load rfl rfl rfl vt3 rfl rfl) rfl ?_
    refine LF.st (F := []) (s := none) rfl rfl rfl (fun H _ => LOp.move rfl rfl) rfl ?_
    refine LF.st (F := []) (s := none) rfl rfl rfl (fun H _ => LOp.nilCheck rfl rfl) rfl ?_
    refine LF.st (F := []) (s := none) rfl rfl rfl (fun H _ => LOp.fieldAddr rfl rfl ft3090_0) rfl ?_
    refine LF.st (F := []) (s := none) rfl rfl rfl (fun H _ => LOp.fieldAddr rfl rfl ft1071_0) rfl ?_
    refine LF.st rfl rfl rfl (LAt.load rfl rfl rfl vt3 rfl rfl) rfl ?_
    refine LF.st (F := []) (s := none) rfl rfl rfl (fun H _ => LOp.move rfl rfl) rfl ?_
    refine LF.st (F := []) (s := none) rfl rfl rfl (fun H _ => LOp.move rfl rfl) rfl ?_
    refine LF.st (F := []) (s := none) rfl rfl rfl (fun H _ => LOp.nilCheck rfl rfl) rfl ?_
    refine LF.st (F := []) (s := none) rfl rfl rfl (fun H _ => LOp.fieldAddr rfl rfl ft3090_2) rfl ?_
    refine LF.st rfl rfl rfl (LAt.load rfl rfl rfl vt3 rfl rfl) rfl ?_
    refine LF.st (F := []) (s := none) rfl rfl rfl (fun H _ => LOp.bin rfl rfl rfl rfl) rfl ?_
    obtain ⟨v3, h_v3, hr⟩ := bind_get hr
    refine LF.st rfl rfl rfl (LAt.preH (s := none) (fun _ => LOp.call rfl rfl rfl (by kernel_rfl) (LC.pre (cFWhead (x := Nd.mk x.No x.Tick v2.2.1 v2.1 [] x.C v2.2.2) (o := o) (tl := tl) (whead_of h_v3)) rfl rfl rfl)) rfl rfl rfl rfl) rfl ?_
    refine LF.st (F := []) (s := none) rfl rfl rfl (fun H _ => LOp.build rfl bt42 rfl rfl rfl) rfl ?_
    refine LF.st rfl rfl rfl (LAt.alloc rfl zt42 (id := 6) rfl) rfl (LF.st rfl rfl rfl (LAt.store rfl rfl rfl rfl vt42 rfl rfl rfl) rfl ?_)
    refine LF.nil ⟨by kernel_rfl, ?_⟩
    refine thn_n (LW.seq (LW.drawW (by kernel_rfl) (by kernel_rfl) ?_))
    refine LF.st (F := []) (s := none) rfl rfl rfl (fun H _ => LOp.move rfl rfl) rfl ?_
    refine LF.st (F := []) (s := none) rfl rfl rfl (fun H _ => LOp.move rfl rfl) rfl ?_
    refine LF.st (F := []) (s := none) rfl rfl rfl (fun H _ => LOp.nilCheck rfl rfl) rfl ?_
    refine LF.st (F := []) (s := none) rfl rfl rfl (fun H _ => LOp.fieldAddr rfl rfl ft3090_2) rfl ?_
    refine LF.st rfl rfl rfl (LAt.load rfl rfl rfl vt3 rfl rfl) rfl ?_
    refine LF.st (F := []) (s := none) rfl rfl rfl (fun H _ => LOp.move rfl rfl) rfl ?_
    refine LF.st (F := []) (s := none) rfl rfl rfl (fun H _ => LOp.nilCheck rfl rfl) rfl ?_
    refine LF.st (F := []) (s := none) rfl rfl rfl (fun H _ => LOp.fieldAddr rfl rfl ft3090_0) rfl ?_
    refine LF.st (F := []) (s := none) rfl rfl rfl (fun H _ => LOp.fieldAddr rfl rfl ft1071_0) rfl ?_
    refine LF.st rfl rfl rfl (LAt.load rfl rfl rfl vt3 rfl rfl) rfl (LF.st rfl rfl rfl (LAt.load rfl rfl rfl vt42 rfl rfl) rfl ?_)
    refine LF.st (F := []) (s := none) rfl rfl rfl (fun H _ => LOp.move rfl rfl) rfl ?_
    refine LF.st (F := []) (s := none) rfl rfl rfl (fun H _ => LOp.nilCheck rfl rfl) rfl ?_
    refine LF.st (F := []) (s := none) rfl rfl rfl (fun H _ => LOp.fieldAddr rfl rfl ft3090_0) rfl ?_
    refine LF.st (F := []) (s := none) rfl rfl rfl (fun H _ => LOp.fieldAddr rfl rfl ft1071_2) rfl ?_
    refine LF.st rfl rfl rfl (LAt.load rfl rfl rfl vt75 rfl rfl) rfl ?_
    refine LF.st (F := []) (s := none) rfl rfl rfl (fun H _ => LOp.build rfl bt1077 rfl rfl rfl) rfl ?_
    obtain ⟨v4, h_v4, hr⟩ := bind_get hr
    refine LF.st (F := []) (s := none) rfl rfl rfl (fun H _ => LOp.call rfl rfl rfl (by kernel_rfl) (LC.pure (c3052 h_v4) (.cons Conv.p .nil))) rfl ?_
    refine LF.st (F := []) (s := none) rfl rfl rfl (fun H _ => LOp.buildSlice rfl st1036 rfl rfl rfl rfl rfl) rfl ?_
    refine LF.st (F := []) (s := none) rfl rfl rfl (fun H _ => LOp.nilCheck rfl rfl) rfl ?_
    refine LF.st (F := []) (s := none) rfl rfl rfl (fun H _ => LOp.fieldAddr rfl rfl ft3090_3) rfl ?_
    refine LF.st rfl rfl rfl (LAt.store rfl rfl rfl rfl vt1036 rfl rfl rfl) rfl ?_
    refine LF.nil ⟨by kernel_rfl, ?_⟩
    refine thn_n (LW.region (LOps.st rfl rfl rfl (LOp.move rfl rfl) (LOps.st rfl rfl rfl (LOp.load rfl rfl rfl vt42 rfl rfl) ?_)))
    obtain ⟨v5, h_v5, hr⟩ := bind_get hr
    refine LOps.st rfl rfl rfl (LOp.call rfl rfl rfl (by kernel_rfl) (LC.pure (c3098 h_v5) (.cons Conv.p .nil))) ?_
    obtain ⟨v6, h_v6, hr⟩ := bind_get hr
    refine LOps.st rfl rfl rfl (LOp.call rfl rfl rfl (by kernel_rfl) (LC.pre (cFCount (x := Nd.mk x.No x.Tick v2.2.1 v2.1 [] x.C v2.2.2) (o := o) (tl := [v4]) h_v6) rfl rfl rfl)) (LOps.nil ?_)
    obtain rfl := Option.some.inj hr
    refine fin_endW (env' := []) (H' := [.box [.p (.slice 1 (c0.W.map i64P)), .p (.int .u64 c0.Seed), .p (.int .i64 c0.Epoch), .p (.int .i64 c0.Num), .p (.int .i64 c0.Den)], .box [.p (.int .i64 n0.No), .p (.int .i64 n0.Tick), .p (.slice 5 (n0.V.B.map blkP)), .p (.slice 4 (n0.V.V.map vtP)), .p (.slice 5 (n0.In.B.map blkP)), .p (.slice 4 (n0.In.V.map vtP)), .p (.slice 9 (n0.O.map ofP)), .p (.int .u64 n0.C.ID.1), .p (.int .u64 n0.C.ID.2), .p (.int .i64 n0.C.Slot), .p (.int .i64 n0.C.Revoked), .p (.bool n0.Full)], .box [.p (.slice 5 (in0.B.map blkP)), .p (.slice 4 (in0.V.map vtP))], .box [.p (.int .i64 0), .p (.int .i64 0), .zs, .zs, .zs, .zs, .zs, .p (.int .u64 0), .p (.int .u64 0), .p (.int .i64 0), .p (.int .i64 0), .p (.bool false)], .box [.p (.int .i64 x.No), .p (.int .i64 x.Tick), .p (.slice 5 (v6.2.1.B.map blkP)), .p (.slice 4 (v6.2.1.V.map vtP)), .p (.slice 5 (v2.1.B.map blkP)), .p (.slice 4 (v2.1.V.map vtP)), .vec 9 5 (o.map ofP).length 0 (o.map ofP).length, .p (.int .u64 x.C.ID.1), .p (.int .u64 x.C.ID.2), .p (.int .i64 x.C.Slot), .p (.int .i64 x.C.Revoked), .p (.bool v6.2.2), .p (.slice 1 (c.W.map i64P)), .p (.int .u64 c.Seed), .p (.int .i64 c.Epoch), .p (.int .i64 c.Num), .p (.int .i64 c.Den), .p (.int .i64 slot), .p (.slice 9 ([v4].map ofP))], .vec 9 (o.map ofP)]) (Weak.of 6 trivial rfl rfl rfl rfl) .none ?_
    exact ⟨rfl, rfl⟩
structure FSecond_L1 where
  t11 : Int
  w_2 : List Bk
  w_3 : List Vt
  w_4 : List Bk
  w_5 : List Vt
  w_11 : Bool
def FSecond_s1 (o : List Of) (c : Cf) (slot : Int) (x1 : FSecond_L1) : Option (FSecond_L1 ⊕ FSecond_L1) :=
  bif decide (x1.t11 < (o.length : Int)) then
    (ix o x1.t11).bind fun y1 =>
    (F3098 y1.B).bind fun v2 =>
    (F91 y1.V v2).bind fun v3 =>
    (FCount v3 c slot (Vw.mk x1.w_2 x1.w_3) x1.w_11).bind fun v4 =>
    (F91 (Vw.mk x1.w_4 x1.w_5) v4.1).bind fun v5 =>
    some (.inl (FSecond_L1.mk (IntKind.i64.wrap (x1.t11 + 1)) v4.2.1.B v4.2.1.V v5.B v5.V v4.2.2))
  else
    some (.inr (FSecond_L1.mk x1.t11 x1.w_2 x1.w_3 x1.w_4 x1.w_5 x1.w_11))
def FSecond (x : Nd) (o : List Of) (c : Cf) (slot : Int) : Option (Vw × Vw × Bool) :=
  (iter (FSecond_s1 o c slot) big (FSecond_L1.mk 0 x.V.B x.V.V x.In.B x.In.V x.Full)).bind fun v1 =>
  (F74 c slot x.No).bind fun v6 =>
  bif v6 then
    (F1048 c (Vw.mk v1.w_2 v1.w_3) (IntKind.i64.wrap (slot - 1))).bind fun v7 =>
    (F91 (Vw.mk v1.w_4 v1.w_5) (Vw.mk [] [Vt.mk x.No slot v7])).bind fun v8 =>
    some (Vw.mk v1.w_2 v1.w_3, v8, v1.w_11)
  else
    some (Vw.mk v1.w_2 v1.w_3, Vw.mk v1.w_4 v1.w_5, v1.w_11)
set_option maxRecDepth 100000 in
theorem cFSecond {x : Nd} {o : List Of} {c : Cf} {slot : Int} {tl : List Of} {c0 : Cf} {n0 : Nd} {in0 : Vw} {r_ : Vw × Vw × Bool} (hr : FSecond x o c slot = some r_) : LC Tryz.prog 56 [.ptr 4 0] [.box [.p (.slice 1 (c0.W.map i64P)), .p (.int .u64 c0.Seed), .p (.int .i64 c0.Epoch), .p (.int .i64 c0.Num), .p (.int .i64 c0.Den)], .box [.p (.int .i64 n0.No), .p (.int .i64 n0.Tick), .p (.slice 5 (n0.V.B.map blkP)), .p (.slice 4 (n0.V.V.map vtP)), .p (.slice 5 (n0.In.B.map blkP)), .p (.slice 4 (n0.In.V.map vtP)), .p (.slice 9 (n0.O.map ofP)), .p (.int .u64 n0.C.ID.1), .p (.int .u64 n0.C.ID.2), .p (.int .i64 n0.C.Slot), .p (.int .i64 n0.C.Revoked), .p (.bool n0.Full)], .box [.p (.slice 5 (in0.B.map blkP)), .p (.slice 4 (in0.V.map vtP))], .box [.p (.int .i64 0), .p (.int .i64 0), .zs, .zs, .zs, .zs, .zs, .p (.int .u64 0), .p (.int .u64 0), .p (.int .i64 0), .p (.int .i64 0), .p (.bool false)], .box [.p (.int .i64 x.No), .p (.int .i64 x.Tick), .p (.slice 5 (x.V.B.map blkP)), .p (.slice 4 (x.V.V.map vtP)), .p (.slice 5 (x.In.B.map blkP)), .p (.slice 4 (x.In.V.map vtP)), .vec 9 5 (o.map ofP).length 0 (o.map ofP).length, .p (.int .u64 x.C.ID.1), .p (.int .u64 x.C.ID.2), .p (.int .i64 x.C.Slot), .p (.int .i64 x.C.Revoked), .p (.bool x.Full), .p (.slice 1 (c.W.map i64P)), .p (.int .u64 c.Seed), .p (.int .i64 c.Epoch), .p (.int .i64 c.Num), .p (.int .i64 c.Den), .p (.int .i64 slot), .p (.slice 9 (tl.map ofP))], .vec 9 (o.map ofP)] (Is (.tup []) [.box [.p (.slice 1 (c0.W.map i64P)), .p (.int .u64 c0.Seed), .p (.int .i64 c0.Epoch), .p (.int .i64 c0.Num), .p (.int .i64 c0.Den)], .box [.p (.int .i64 n0.No), .p (.int .i64 n0.Tick), .p (.slice 5 (n0.V.B.map blkP)), .p (.slice 4 (n0.V.V.map vtP)), .p (.slice 5 (n0.In.B.map blkP)), .p (.slice 4 (n0.In.V.map vtP)), .p (.slice 9 (n0.O.map ofP)), .p (.int .u64 n0.C.ID.1), .p (.int .u64 n0.C.ID.2), .p (.int .i64 n0.C.Slot), .p (.int .i64 n0.C.Revoked), .p (.bool n0.Full)], .box [.p (.slice 5 (in0.B.map blkP)), .p (.slice 4 (in0.V.map vtP))], .box [.p (.int .i64 0), .p (.int .i64 0), .zs, .zs, .zs, .zs, .zs, .p (.int .u64 0), .p (.int .u64 0), .p (.int .i64 0), .p (.int .i64 0), .p (.bool false)], .box [.p (.int .i64 x.No), .p (.int .i64 x.Tick), .p (.slice 5 (r_.1.B.map blkP)), .p (.slice 4 (r_.1.V.map vtP)), .p (.slice 5 (r_.2.1.B.map blkP)), .p (.slice 4 (r_.2.1.V.map vtP)), .p (.slice 9 (([] : List Of).map ofP)), .p (.int .u64 x.C.ID.1), .p (.int .u64 x.C.ID.2), .p (.int .i64 x.C.Slot), .p (.int .i64 x.C.Revoked), .p (.bool r_.2.2), .p (.slice 1 (c.W.map i64P)), .p (.int .u64 c.Seed), .p (.int .i64 c.Epoch), .p (.int .i64 c.Num), .p (.int .i64 c.Den), .p (.int .i64 slot), .p (.slice 9 (tl.map ofP))], .vec 9 (o.map ofP)]) := by
  refine LC.start Tryz.func56 rfl rfl rfl ?_
  unfold FSecond at hr
  refine LW.seq (LW.seq (LW.region (LOps.st rfl rfl rfl (LOp.move rfl rfl) (LOps.st rfl rfl rfl (LOp.nilCheck rfl rfl) (LOps.st rfl rfl rfl (LOp.fieldAddr rfl rfl ft3090_0) (LOps.st rfl rfl rfl (LOp.fieldAddr rfl rfl ft1071_4) (LOps.st rfl rfl rfl (LOp.load rfl rfl rfl vt1036 rfl rfl) (LOps.st rfl rfl rfl (LOp.lenVM rfl rfl rfl (by kernel_rfl)) (LOps.st rfl rfl rfl (LOp.move rfl rfl) (LOps.nil (thn_n ?_)))))))))))
  obtain ⟨v1, hb_v1, ho_v1⟩ := bind_get hr
  clear hr
  refine LW.tail (E := [(0, .ptr 4 0)]) (O := [.box [.p (.slice 1 (c0.W.map i64P)), .p (.int .u64 c0.Seed), .p (.int .i64 c0.Epoch), .p (.int .i64 c0.Num), .p (.int .i64 c0.Den)], .box [.p (.int .i64 n0.No), .p (.int .i64 n0.Tick), .p (.slice 5 (n0.V.B.map blkP)), .p (.slice 4 (n0.V.V.map vtP)), .p (.slice 5 (n0.In.B.map blkP)), .p (.slice 4 (n0.In.V.map vtP)), .p (.slice 9 (n0.O.map ofP)), .p (.int .u64 n0.C.ID.1), .p (.int .u64 n0.C.ID.2), .p (.int .i64 n0.C.Slot), .p (.int .i64 n0.C.Revoked), .p (.bool n0.Full)], .box [.p (.slice 5 (in0.B.map blkP)), .p (.slice 4 (in0.V.map vtP))], .box [.p (.int .i64 0), .p (.int .i64 0), .zs, .zs, .zs, .zs, .zs, .p (.int .u64 0), .p (.int .u64 0), .p (.int .i64 0), .p (.int .i64 0), .p (.bool false)], .box [.p (.int .i64 x.No), .p (.int .i64 x.Tick), .p (.slice 5 (v1.w_2.map blkP)), .p (.slice 4 (v1.w_3.map vtP)), .p (.slice 5 (v1.w_4.map blkP)), .p (.slice 4 (v1.w_5.map vtP)), .vec 9 5 (o.map ofP).length 0 (o.map ofP).length, .p (.int .u64 x.C.ID.1), .p (.int .u64 x.C.ID.2), .p (.int .i64 x.C.Slot), .p (.int .i64 x.C.Revoked), .p (.bool v1.w_11), .p (.slice 1 (c.W.map i64P)), .p (.int .u64 c.Seed), .p (.int .i64 c.Epoch), .p (.int .i64 c.Num), .p (.int .i64 c.Den), .p (.int .i64 slot), .p (.slice 9 (tl.map ofP))], .vec 9 (o.map ofP)]) ?_ (fun env_v1 H_v1 hw_v1 => ?_)
  · refine LW.block ?_
    refine LW.iterB (E := fun x1 : FSecond_L1 => [(0, .ptr 4 0), (9, .vec 9 5 (o.map ofP).length 0 (o.map ofP).length), (10, .p (.int .i64 (o.length : Int))), (11, .p (.int .i64 x1.t11))]) (O := fun x1 => [.box [.p (.slice 1 (c0.W.map i64P)), .p (.int .u64 c0.Seed), .p (.int .i64 c0.Epoch), .p (.int .i64 c0.Num), .p (.int .i64 c0.Den)], .box [.p (.int .i64 n0.No), .p (.int .i64 n0.Tick), .p (.slice 5 (n0.V.B.map blkP)), .p (.slice 4 (n0.V.V.map vtP)), .p (.slice 5 (n0.In.B.map blkP)), .p (.slice 4 (n0.In.V.map vtP)), .p (.slice 9 (n0.O.map ofP)), .p (.int .u64 n0.C.ID.1), .p (.int .u64 n0.C.ID.2), .p (.int .i64 n0.C.Slot), .p (.int .i64 n0.C.Revoked), .p (.bool n0.Full)], .box [.p (.slice 5 (in0.B.map blkP)), .p (.slice 4 (in0.V.map vtP))], .box [.p (.int .i64 0), .p (.int .i64 0), .zs, .zs, .zs, .zs, .zs, .p (.int .u64 0), .p (.int .u64 0), .p (.int .i64 0), .p (.int .i64 0), .p (.bool false)], .box [.p (.int .i64 x.No), .p (.int .i64 x.Tick), .p (.slice 5 (x1.w_2.map blkP)), .p (.slice 4 (x1.w_3.map vtP)), .p (.slice 5 (x1.w_4.map blkP)), .p (.slice 4 (x1.w_5.map vtP)), .vec 9 5 (o.map ofP).length 0 (o.map ofP).length, .p (.int .u64 x.C.ID.1), .p (.int .u64 x.C.ID.2), .p (.int .i64 x.C.Slot), .p (.int .i64 x.C.Revoked), .p (.bool x1.w_11), .p (.slice 1 (c.W.map i64P)), .p (.int .u64 c.Seed), .p (.int .i64 c.Epoch), .p (.int .i64 c.Num), .p (.int .i64 c.Den), .p (.int .i64 slot), .p (.slice 9 (tl.map ofP))], .vec 9 (o.map ofP)]) hb_v1 (Weak.of 6 ⟨rfl, rfl, rfl, rfl, trivial⟩ rfl rfl rfl rfl) (fun x1 z_x1 hr hb_x1 => ?_)
    unfold FSecond_s1 at hr
    refine LW.seq (LW.region (LOps.st rfl rfl rfl (LOp.bin rfl rfl rfl rfl) (LOps.nil (thn_n (LW.seq ?_)))))
    refine LW.cond rfl (fun (g1 : (decide (x1.t11 < (o.length : Int))) = true) => ?_) (fun (g1 : (decide (x1.t11 < (o.length : Int))) = false) => ?_)
    ·
      have hr := ite_t g1 hr
      refine LW.skip (thn_n (LW.seq (LW.block (LW.seq (LW.region ?_)))))
      obtain ⟨y1, h_y1, hr⟩ := bind_get hr
      refine LOps.st rfl rfl rfl (LOp.indexAddrVX rfl rfl rfl rfl st1036 h_y1) (LOps.st rfl rfl rfl (LOp.loadVX rfl rfl rfl vt1077 h_y1 rfl rfl rfl rfl) (LOps.st rfl rfl rfl (LOp.alloc rfl zt1077 rfl rfl) (LOps.st rfl rfl rfl (LOp.store rfl rfl rfl rfl vt1077 rfl rfl rfl rfl) (LOps.nil (thn_n ?_)))))
      refine LW.drawWJ (z := 4) (e := 18) (J := (fun o_ => ∃ a_ b_ c_ : LV, o_ = .box [.p (.int .i64 x.No), .p (.int .i64 x.Tick), a_, b_, .p (.slice 5 (x1.w_4.map blkP)), .p (.slice 4 (x1.w_5.map vtP)), .vec 9 5 (o.map ofP).length 0 (o.map ofP).length, .p (.int .u64 x.C.ID.1), .p (.int .u64 x.C.ID.2), .p (.int .i64 x.C.Slot), .p (.int .i64 x.C.Revoked), c_, .p (.slice 1 (c.W.map i64P)), .p (.int .u64 c.Seed), .p (.int .i64 c.Epoch), .p (.int .i64 c.Num), .p (.int .i64 c.Den), .p (.int .i64 slot), .p (.slice 9 (tl.map ofP))])) (by kernel_rfl) (by kernel_rfl) (fun o_ h_ => ⟨_, _, _, (Option.some.inj h_).symm⟩) ?_
      refine LFJ.st (F := []) (s := none) rfl rfl rfl (fun H _ => LOp.move rfl rfl) (fun _ => trivial) rfl ?_
      refine LFJ.st (F := []) (s := none) rfl rfl rfl (fun H _ => LOp.move rfl rfl) (fun _ => trivial) rfl ?_
      refine LFJ.st (F := []) (s := none) rfl rfl rfl (fun H _ => LOp.nilCheck rfl rfl) (fun _ => trivial) rfl ?_
      refine LFJ.st (F := []) (s := none) rfl rfl rfl (fun H _ => LOp.fieldAddr rfl rfl ft3090_0) (fun _ => trivial) rfl ?_
      refine LFJ.st (F := []) (s := none) rfl rfl rfl (fun H _ => LOp.fieldAddr rfl rfl ft1071_3) (fun _ => trivial) rfl ?_
      refine LFJ.look rfl rfl rfl (by kernel_rfl) rfl (fun H_ y_ hy_ hj_ => by obtain ⟨a_, b_, c_, rfl⟩ := hj_; exact LOp.load rfl rfl hy_ vt75 rfl rfl) ?_
      refine LFJ.st (F := []) (s := none) rfl rfl rfl (fun H _ => LOp.move rfl rfl) (fun _ => trivial) rfl ?_
      refine LFJ.st (F := []) (s := none) rfl rfl rfl (fun H _ => LOp.fieldAddr rfl rfl ft1077_3) (fun _ => trivial) rfl ?_
      refine LFJ.st rfl rfl rfl (LAt.load rfl rfl rfl vt75 rfl rfl) (fun _ => trivial) rfl ?_
      refine LFJ.st (F := []) (s := none) rfl rfl rfl (fun H _ => LOp.fieldAddr rfl rfl ft1077_2) (fun _ => trivial) rfl ?_
      refine LFJ.st rfl rfl rfl (LAt.load rfl rfl rfl vt42 rfl rfl) (fun _ => trivial) rfl ?_
      obtain ⟨v2, h_v2, hr⟩ := bind_get hr
      refine LFJ.st (F := []) (s := none) rfl rfl rfl (fun H _ => LOp.call rfl rfl rfl (by kernel_rfl) (LC.pure (c3098 h_v2) (.cons Conv.p .nil))) (fun _ => trivial) rfl ?_
      obtain ⟨v3, h_v3, hr⟩ := bind_get hr
      refine LFJ.st (F := []) (s := none) rfl rfl rfl (fun H _ => LOp.call rfl rfl rfl (by kernel_rfl) (LC.pure (c91 h_v3) (.cons Conv.p (.cons Conv.p .nil)))) (fun _ => trivial) rfl ?_
      obtain ⟨v4, h_v4, hr⟩ := bind_get hr
      refine LFJ.st rfl rfl rfl (LAt.preH (s := some (4, .box [.p (.int .i64 x.No), .p (.int .i64 x.Tick), .p (.slice 5 (v4.2.1.B.map blkP)), .p (.slice 4 (v4.2.1.V.map vtP)), .p (.slice 5 (x1.w_4.map blkP)), .p (.slice 4 (x1.w_5.map vtP)), .vec 9 5 (o.map ofP).length 0 (o.map ofP).length, .p (.int .u64 x.C.ID.1), .p (.int .u64 x.C.ID.2), .p (.int .i64 x.C.Slot), .p (.int .i64 x.C.Revoked), .p (.bool v4.2.2), .p (.slice 1 (c.W.map i64P)), .p (.int .u64 c.Seed), .p (.int .i64 c.Epoch), .p (.int .i64 c.Num), .p (.int .i64 c.Den), .p (.int .i64 slot), .p (.slice 9 (tl.map ofP))])) (fun _ => LOp.call rfl rfl rfl (by kernel_rfl) (LC.pre (cFCount (x := Nd.mk x.No x.Tick (Vw.mk x1.w_2 x1.w_3) (Vw.mk x1.w_4 x1.w_5) [] x.C x1.w_11) (o := o) (tl := tl) h_v4) rfl rfl rfl)) rfl rfl rfl rfl) (fun _ _ => ⟨_, _, _, rfl⟩) rfl ?_
      obtain ⟨v5, h_v5, hr⟩ := bind_get hr
      refine LFJ.st (F := []) (s := none) rfl rfl rfl (fun H _ => LOp.call rfl rfl rfl (by kernel_rfl) (LC.pure (c91 h_v5) (.cons Conv.p (.cons Conv.p .nil)))) (fun _ => trivial) rfl ?_
      refine LFJ.st (F := []) (s := none) rfl rfl rfl (fun H _ => LOp.nilCheck rfl rfl) (fun _ => trivial) rfl ?_
      refine LFJ.st (F := []) (s := none) rfl rfl rfl (fun H _ => LOp.fieldAddr rfl rfl ft3090_0) (fun _ => trivial) rfl ?_
      refine LFJ.st (F := []) (s := none) rfl rfl rfl (fun H _ => LOp.fieldAddr rfl rfl ft1071_3) (fun _ => trivial) rfl ?_
      refine LFJ.st rfl rfl rfl (LAt.store rfl rfl rfl rfl vt75 rfl rfl rfl) (fun h => absurd h (by decide)) rfl ?_
      refine LFJ.nil ⟨by kernel_rfl, ?_⟩
      refine inBlk_n (thn_n (LW.region (LOps.st rfl rfl rfl (LOp.bin rfl rfl rfl rfl) (LOps.st rfl rfl rfl (LOp.move rfl rfl) (LOps.nil (thn_n ?_))))))
      obtain rfl := Option.some.inj hr
      exact ⟨_, rfl, Weak.of 6 ⟨rfl, rfl, rfl, rfl, trivial⟩ rfl rfl rfl rfl⟩
    ·
      have hr := ite_f g1 hr
      refine LW.exit (thn_e (thn_e (inBlk_self (thn_n ?_))))
      obtain rfl := Option.some.inj hr
      have hr := congrArg some (hb_x1 _ rfl)
      obtain rfl := Option.some.inj hr
      exact Weak.of 6 ⟨rfl, trivial⟩ rfl rfl rfl rfl
  · have hr := ho_v1
    clear hb_v1
    refine thn_n (LW.weak hw_v1 (LW.seq (LW.region (LOps.st rfl rfl rfl (LOp.move rfl rfl) (LOps.st rfl rfl rfl (LOp.nilCheck rfl rfl) (LOps.st rfl rfl rfl (LOp.fieldAddr rfl rfl ft3090_0) (LOps.st rfl rfl rfl (LOp.fieldAddr rfl rfl ft1071_4) (LOps.st rfl rfl rfl (LOp.store rfl rfl rfl rfl vt1036 rfl rfl rfl rfl) (LOps.nil (thn_n (LW.seq ?_)))))))))))
    refine LW.ent (Ent.zsCell (i := 4) (j := 6) (m := 9) rfl rfl rfl rfl) (LW.draw (by kernel_rfl) (by kernel_rfl) (LO.st rfl rfl rfl (LOp.move rfl rfl) (LO.st rfl rfl rfl (LOp.nilCheck rfl rfl) (LO.st rfl rfl rfl (LOp.fieldAddr rfl rfl ft3090_1) (LO.st rfl rfl rfl (LOp.load rfl rfl rfl vt55 rfl rfl) (LO.st rfl rfl rfl (LOp.move rfl rfl) (LO.st rfl rfl rfl (LOp.nilCheck rfl rfl) (LO.st rfl rfl rfl (LOp.fieldAddr rfl rfl ft3090_2) (LO.st rfl rfl rfl (LOp.load rfl rfl rfl vt3 rfl rfl) (LO.st rfl rfl rfl (LOp.move rfl rfl) (LO.st rfl rfl rfl (LOp.nilCheck rfl rfl) ?_)))))))))))
    refine LO.st rfl rfl rfl (LOp.fieldAddr rfl rfl ft3090_0) (LO.st rfl rfl rfl (LOp.fieldAddr rfl rfl ft1071_0) (LO.st rfl rfl rfl (LOp.load rfl rfl rfl vt3 rfl rfl) ?_))
    obtain ⟨v6, h_v6, hr⟩ := bind_get hr
    refine LO.st rfl rfl rfl (LOp.call rfl rfl rfl (by kernel_rfl) (LC.pure (c74 h_v6) (.cons Conv.p (.cons Conv.p (.cons Conv.p .nil))))) (LO.nil (thn_n ?_))
    refine LW.cond rfl (fun (g2 : v6 = true) => ?_) (fun (g2 : v6 = false) => ?_)
    ·
      have hr := ite_t g2 hr
      refine LW.seq (LW.ent (Ent.slot rfl) (LW.drawW (by kernel_rfl) (by kernel_rfl) ?_))
      refine LF.st (F := []) (s := none) rfl rfl rfl (fun H _ => LOp.move rfl rfl) rfl ?_
      refine LF.st (F := []) (s := none) rfl rfl rfl (fun H _ => LOp.nilCheck rfl rfl) rfl ?_
      refine LF.st (F := []) (s := none) rfl rfl rfl (fun H _ => LOp.fieldAddr rfl rfl ft3090_0) rfl ?_
      refine LF.st (F := []) (s := none) rfl rfl rfl (fun H _ => LOp.fieldAddr rfl rfl ft1071_0) rfl ?_
      refine LF.st rfl rfl rfl (LAt.load rfl rfl rfl vt3 rfl rfl) rfl ?_
      refine LF.st (F := []) (s := none) rfl rfl rfl (fun H _ => LOp.move rfl rfl) rfl ?_
      refine LF.st (F := []) (s := none) rfl rfl rfl (fun H _ => LOp.nilCheck rfl rfl) rfl ?_
      refine LF.st (F := []) (s := none) rfl rfl rfl (fun H _ => LOp.fieldAddr rfl rfl ft3090_2) rfl ?_
      refine LF.st rfl rfl rfl (LAt.load rfl rfl rfl vt3 rfl rfl) rfl ?_
      refine LF.st (F := []) (s := none) rfl rfl rfl (fun H _ => LOp.move rfl rfl) rfl ?_
      refine LF.st (F := []) (s := none) rfl rfl rfl (fun H _ => LOp.move rfl rfl) rfl ?_
      refine LF.st (F := []) (s := none) rfl rfl rfl (fun H _ => LOp.nilCheck rfl rfl) rfl ?_
      refine LF.st (F := []) (s := none) rfl rfl rfl (fun H _ => LOp.fieldAddr rfl rfl ft3090_2) rfl ?_
      refine LF.st rfl rfl rfl (LAt.load rfl rfl rfl vt3 rfl rfl) rfl ?_
      refine LF.st (F := []) (s := none) rfl rfl rfl (fun H _ => LOp.bin rfl rfl rfl rfl) rfl ?_
      obtain ⟨v7, h_v7, hr⟩ := bind_get hr
      refine LF.st rfl rfl rfl (LAt.preH (s := none) (fun _ => LOp.call rfl rfl rfl (by kernel_rfl) (LC.pre (cFWheadN (x := Nd.mk x.No x.Tick (Vw.mk v1.w_2 v1.w_3) (Vw.mk v1.w_4 v1.w_5) [] x.C v1.w_11) (o := o) (tl := tl) (wheadN_of h_v7)) rfl rfl rfl)) rfl rfl rfl rfl) rfl ?_
      refine LF.st (F := []) (s := none) rfl rfl rfl (fun H _ => LOp.build rfl bt82 rfl rfl rfl) rfl ?_
      refine LF.st rfl rfl rfl (LAt.alloc rfl zt82 (id := 6) rfl) rfl (LF.st rfl rfl rfl (LAt.store rfl rfl rfl rfl vt82 rfl rfl rfl) rfl ?_)
      refine LF.nil ⟨by kernel_rfl, ?_⟩
      refine thn_n (LW.drawW (by kernel_rfl) (by kernel_rfl) ?_)
      refine LF.st (F := []) (s := none) rfl rfl rfl (fun H _ => LOp.move rfl rfl) rfl ?_
      refine LF.st (F := []) (s := none) rfl rfl rfl (fun H _ => LOp.move rfl rfl) rfl ?_
      refine LF.st (F := []) (s := none) rfl rfl rfl (fun H _ => LOp.nilCheck rfl rfl) rfl ?_
      refine LF.st (F := []) (s := none) rfl rfl rfl (fun H _ => LOp.fieldAddr rfl rfl ft3090_0) rfl ?_
      refine LF.st (F := []) (s := none) rfl rfl rfl (fun H _ => LOp.fieldAddr rfl rfl ft1071_3) rfl ?_
      refine LF.st rfl rfl rfl (LAt.load rfl rfl rfl vt75 rfl rfl) rfl (LF.st rfl rfl rfl (LAt.load rfl rfl rfl vt82 rfl rfl) rfl ?_)
      refine LF.st (F := []) (s := none) rfl rfl rfl (fun H _ => LOp.buildSlice rfl st68 rfl rfl rfl rfl rfl) rfl ?_
      refine LF.st (F := []) (s := none) rfl rfl rfl (fun H _ => LOp.build rfl bt75 rfl rfl rfl) rfl ?_
      obtain ⟨v8, h_v8, hr⟩ := bind_get hr
      refine LF.st (F := []) (s := none) rfl rfl rfl (fun H _ => LOp.call rfl rfl rfl (by kernel_rfl) (LC.pure (c91 h_v8) (.cons Conv.p (.cons (Conv.agg (.cons Conv.zs (.cons Conv.p .nil))) .nil)))) rfl ?_
      refine LF.st (F := []) (s := none) rfl rfl rfl (fun H _ => LOp.nilCheck rfl rfl) rfl ?_
      refine LF.st (F := []) (s := none) rfl rfl rfl (fun H _ => LOp.fieldAddr rfl rfl ft3090_0) rfl ?_
      refine LF.st (F := []) (s := none) rfl rfl rfl (fun H _ => LOp.fieldAddr rfl rfl ft1071_3) rfl ?_
      refine LF.st rfl rfl rfl (LAt.store rfl rfl rfl rfl vt75 rfl rfl rfl) rfl ?_
      refine LF.nil ⟨by kernel_rfl, ?_⟩
      obtain rfl := Option.some.inj hr
      refine fin_endW (env' := []) (H' := [.box [.p (.slice 1 (c0.W.map i64P)), .p (.int .u64 c0.Seed), .p (.int .i64 c0.Epoch), .p (.int .i64 c0.Num), .p (.int .i64 c0.Den)], .box [.p (.int .i64 n0.No), .p (.int .i64 n0.Tick), .p (.slice 5 (n0.V.B.map blkP)), .p (.slice 4 (n0.V.V.map vtP)), .p (.slice 5 (n0.In.B.map blkP)), .p (.slice 4 (n0.In.V.map vtP)), .p (.slice 9 (n0.O.map ofP)), .p (.int .u64 n0.C.ID.1), .p (.int .u64 n0.C.ID.2), .p (.int .i64 n0.C.Slot), .p (.int .i64 n0.C.Revoked), .p (.bool n0.Full)], .box [.p (.slice 5 (in0.B.map blkP)), .p (.slice 4 (in0.V.map vtP))], .box [.p (.int .i64 0), .p (.int .i64 0), .zs, .zs, .zs, .zs, .zs, .p (.int .u64 0), .p (.int .u64 0), .p (.int .i64 0), .p (.int .i64 0), .p (.bool false)], .box [.p (.int .i64 x.No), .p (.int .i64 x.Tick), .p (.slice 5 (v1.w_2.map blkP)), .p (.slice 4 (v1.w_3.map vtP)), .p (.slice 5 (v8.B.map blkP)), .p (.slice 4 (v8.V.map vtP)), .p (.slice 9 (([] : List Of).map ofP)), .p (.int .u64 x.C.ID.1), .p (.int .u64 x.C.ID.2), .p (.int .i64 x.C.Slot), .p (.int .i64 x.C.Revoked), .p (.bool v1.w_11), .p (.slice 1 (c.W.map i64P)), .p (.int .u64 c.Seed), .p (.int .i64 c.Epoch), .p (.int .i64 c.Num), .p (.int .i64 c.Den), .p (.int .i64 slot), .p (.slice 9 (tl.map ofP))], .vec 9 (o.map ofP)]) (Weak.of 6 trivial rfl rfl rfl rfl) .none ?_
      exact ⟨rfl, rfl⟩
    ·
      have hr := ite_f g2 hr
      refine LW.skip ?_
      obtain rfl := Option.some.inj hr
      refine fin_end .none ?_
      exact ⟨rfl, rfl⟩
def FThird (x : Nd) (c : Cf) (slot : Int) : Option (Vw × Vw × Cu × Bool) :=
  (FCount x.In c slot x.V x.Full).bind fun v1 =>
  (F1048 c v1.2.1 slot).bind fun v2 =>
  (F3099 c v1.2.1 slot v2).bind fun v3 =>
  bif few v1.2.1.B then
    some (v1.2.1, v1.1, moveOf x.C v1.2.1.B v2 v3.1 v3.2 slot, v1.2.2)
  else none
set_option maxRecDepth 100000 in
theorem cFThird {x : Nd} {o : List Of} {c : Cf} {slot : Int} {tl : List Of} {c0 : Cf} {n0 : Nd} {in0 : Vw} {r_ : Vw × Vw × Cu × Bool} (hr : FThird x c slot = some r_) : LC Tryz.prog 57 [.ptr 4 0] [.box [.p (.slice 1 (c0.W.map i64P)), .p (.int .u64 c0.Seed), .p (.int .i64 c0.Epoch), .p (.int .i64 c0.Num), .p (.int .i64 c0.Den)], .box [.p (.int .i64 n0.No), .p (.int .i64 n0.Tick), .p (.slice 5 (n0.V.B.map blkP)), .p (.slice 4 (n0.V.V.map vtP)), .p (.slice 5 (n0.In.B.map blkP)), .p (.slice 4 (n0.In.V.map vtP)), .p (.slice 9 (n0.O.map ofP)), .p (.int .u64 n0.C.ID.1), .p (.int .u64 n0.C.ID.2), .p (.int .i64 n0.C.Slot), .p (.int .i64 n0.C.Revoked), .p (.bool n0.Full)], .box [.p (.slice 5 (in0.B.map blkP)), .p (.slice 4 (in0.V.map vtP))], .box [.p (.int .i64 0), .p (.int .i64 0), .zs, .zs, .zs, .zs, .zs, .p (.int .u64 0), .p (.int .u64 0), .p (.int .i64 0), .p (.int .i64 0), .p (.bool false)], .box [.p (.int .i64 x.No), .p (.int .i64 x.Tick), .p (.slice 5 (x.V.B.map blkP)), .p (.slice 4 (x.V.V.map vtP)), .p (.slice 5 (x.In.B.map blkP)), .p (.slice 4 (x.In.V.map vtP)), .vec 9 5 (o.map ofP).length 0 (o.map ofP).length, .p (.int .u64 x.C.ID.1), .p (.int .u64 x.C.ID.2), .p (.int .i64 x.C.Slot), .p (.int .i64 x.C.Revoked), .p (.bool x.Full), .p (.slice 1 (c.W.map i64P)), .p (.int .u64 c.Seed), .p (.int .i64 c.Epoch), .p (.int .i64 c.Num), .p (.int .i64 c.Den), .p (.int .i64 slot), .p (.slice 9 (tl.map ofP))], .vec 9 (o.map ofP)] (Is (.tup []) [.box [.p (.slice 1 (c0.W.map i64P)), .p (.int .u64 c0.Seed), .p (.int .i64 c0.Epoch), .p (.int .i64 c0.Num), .p (.int .i64 c0.Den)], .box [.p (.int .i64 n0.No), .p (.int .i64 n0.Tick), .p (.slice 5 (n0.V.B.map blkP)), .p (.slice 4 (n0.V.V.map vtP)), .p (.slice 5 (n0.In.B.map blkP)), .p (.slice 4 (n0.In.V.map vtP)), .p (.slice 9 (n0.O.map ofP)), .p (.int .u64 n0.C.ID.1), .p (.int .u64 n0.C.ID.2), .p (.int .i64 n0.C.Slot), .p (.int .i64 n0.C.Revoked), .p (.bool n0.Full)], .box [.p (.slice 5 (in0.B.map blkP)), .p (.slice 4 (in0.V.map vtP))], .box [.p (.int .i64 0), .p (.int .i64 0), .zs, .zs, .zs, .zs, .zs, .p (.int .u64 0), .p (.int .u64 0), .p (.int .i64 0), .p (.int .i64 0), .p (.bool false)], .box [.p (.int .i64 x.No), .p (.int .i64 x.Tick), .p (.slice 5 (r_.1.B.map blkP)), .p (.slice 4 (r_.1.V.map vtP)), .p (.slice 5 (r_.2.1.B.map blkP)), .p (.slice 4 (r_.2.1.V.map vtP)), .p (.slice 9 (([] : List Of).map ofP)), .p (.int .u64 r_.2.2.1.ID.1), .p (.int .u64 r_.2.2.1.ID.2), .p (.int .i64 r_.2.2.1.Slot), .p (.int .i64 r_.2.2.1.Revoked), .p (.bool r_.2.2.2), .p (.slice 1 (c.W.map i64P)), .p (.int .u64 c.Seed), .p (.int .i64 c.Epoch), .p (.int .i64 c.Num), .p (.int .i64 c.Den), .p (.int .i64 slot), .p (.slice 9 (tl.map ofP))], .vec 9 (o.map ofP)]) := by
  refine LC.start Tryz.func57 rfl rfl rfl ?_
  unfold FThird at hr
  refine LW.seq (LW.region (LOps.st rfl rfl rfl (LOp.move rfl rfl) (LOps.st rfl rfl rfl (LOp.move rfl rfl) (LOps.st rfl rfl rfl (LOp.move rfl rfl) (LOps.st rfl rfl rfl (LOp.nilCheck rfl rfl) (LOps.st rfl rfl rfl (LOp.fieldAddr rfl rfl ft3090_0) (LOps.st rfl rfl rfl (LOp.fieldAddr rfl rfl ft1071_3) (LOps.st rfl rfl rfl (LOp.load rfl rfl rfl vt75 rfl rfl) ?_))))))))
  obtain ⟨v1, h_v1, hr⟩ := bind_get hr
  refine LOps.st rfl rfl rfl (LOp.call rfl rfl rfl (by kernel_rfl) (cFCount (x := Nd.mk x.No x.Tick x.V x.In [] x.C x.Full) (o := o) (tl := tl) h_v1)) (LOps.st rfl rfl rfl (LOp.nilCheck rfl rfl) (LOps.st rfl rfl rfl (LOp.fieldAddr rfl rfl ft3090_0) (LOps.st rfl rfl rfl (LOp.fieldAddr rfl rfl ft1071_3) (LOps.st rfl rfl rfl (LOp.store rfl rfl rfl rfl vt75 rfl rfl rfl rfl) (LOps.nil (thn_n (LW.seq (LW.region (LOps.st rfl rfl rfl (LOp.move rfl rfl) (LOps.st rfl rfl rfl (LOp.nilCheck rfl rfl) (LOps.st rfl rfl rfl (LOp.fieldAddr rfl rfl ft3090_0) ?_)))))))))))
  refine LOps.st rfl rfl rfl (LOp.fieldAddr rfl rfl ft1071_4) (LOps.st rfl rfl rfl (LOp.store rfl rfl rfl rfl vt1036 rfl rfl rfl rfl) (LOps.nil (thn_n (LW.seq (LW.ent (Ent.zsCell (i := 4) (j := 6) (m := 9) rfl rfl rfl rfl) (LW.region (LOps.st rfl rfl rfl (LOp.move rfl rfl) (LOps.st rfl rfl rfl (LOp.move rfl rfl) (LOps.st rfl rfl rfl (LOp.nilCheck rfl rfl) (LOps.st rfl rfl rfl (LOp.fieldAddr rfl rfl ft3090_2) (LOps.st rfl rfl rfl (LOp.load rfl rfl rfl vt3 rfl rfl) ?_)))))))))))
  obtain ⟨v2, h_v2, hr⟩ := bind_get hr
  refine LOps.st rfl rfl rfl (LOp.call rfl rfl rfl (by kernel_rfl) (cFWheadN (x := Nd.mk x.No x.Tick v1.2.1 v1.1 [] x.C v1.2.2) (o := o) (tl := tl) (wheadN_of h_v2))) (LOps.st rfl rfl rfl (LOp.alloc rfl zt24 rfl rfl) (LOps.st rfl rfl rfl (LOp.store rfl rfl rfl rfl vt24 rfl rfl rfl rfl) (LOps.nil (thn_n (LW.seq (LW.ent (Ent.slot rfl) (LW.drawW (by kernel_rfl) (by kernel_rfl) ?_)))))))
  refine LF.st (F := []) (s := none) rfl rfl rfl (fun H _ => LOp.move rfl rfl) rfl ?_
  refine LF.st (F := []) (s := none) rfl rfl rfl (fun H _ => LOp.nilCheck rfl rfl) rfl ?_
  refine LF.st (F := []) (s := none) rfl rfl rfl (fun H _ => LOp.fieldAddr rfl rfl ft3090_1) rfl ?_
  refine LF.st rfl rfl rfl (LAt.load rfl rfl rfl vt55 rfl rfl) rfl ?_
  refine LF.st (F := []) (s := none) rfl rfl rfl (fun H _ => LOp.move rfl rfl) rfl ?_
  refine LF.st (F := []) (s := none) rfl rfl rfl (fun H _ => LOp.nilCheck rfl rfl) rfl ?_
  refine LF.st (F := []) (s := none) rfl rfl rfl (fun H _ => LOp.fieldAddr rfl rfl ft3090_0) rfl ?_
  refine LF.st (F := []) (s := none) rfl rfl rfl (fun H _ => LOp.fieldAddr rfl rfl ft1071_2) rfl ?_
  refine LF.st rfl rfl rfl (LAt.load rfl rfl rfl vt75 rfl rfl) rfl ?_
  refine LF.st (F := []) (s := none) rfl rfl rfl (fun H _ => LOp.move rfl rfl) rfl ?_
  refine LF.st (F := []) (s := none) rfl rfl rfl (fun H _ => LOp.nilCheck rfl rfl) rfl ?_
  refine LF.st (F := []) (s := none) rfl rfl rfl (fun H _ => LOp.fieldAddr rfl rfl ft3090_2) rfl ?_
  refine LF.st rfl rfl rfl (LAt.load rfl rfl rfl vt3 rfl rfl) rfl (LF.st rfl rfl rfl (LAt.load rfl rfl rfl vt24 rfl rfl) rfl ?_)
  obtain ⟨v3, h_v3, hr⟩ := bind_get hr
  refine LF.st (F := []) (s := none) rfl rfl rfl (fun H _ => LOp.call rfl rfl rfl (by kernel_rfl) (LC.pure (c3099 h_v3) (.cons Conv.p (.cons Conv.p (.cons Conv.p (.cons Conv.p .nil)))))) rfl ?_
  refine LF.st (F := []) (s := none) rfl rfl rfl (fun H _ => LOp.move rfl rfl) rfl ?_
  refine LF.st (F := []) (s := none) rfl rfl rfl (fun H _ => LOp.extract rfl rfl rfl) rfl ?_
  refine LF.st (F := []) (s := none) rfl rfl rfl (fun H _ => LOp.extract rfl rfl rfl) rfl ?_
  refine LF.st rfl rfl rfl (LAt.alloc rfl zt24 (id := 7) rfl) rfl (LF.st rfl rfl rfl (LAt.store rfl rfl rfl rfl vt24 rfl rfl rfl) rfl ?_)
  refine LF.st (F := []) (s := none) rfl rfl rfl (fun H _ => LOp.assign rfl rfl) rfl ?_
  refine LF.nil ⟨by kernel_rfl, ?_⟩
  refine thn_n (LW.drawW (by kernel_rfl) (by kernel_rfl) ?_)
  refine LF.st (F := []) (s := none) rfl rfl rfl (fun H _ => LOp.move rfl rfl) rfl ?_
  refine LF.st (F := []) (s := none) rfl rfl rfl (fun H _ => LOp.move rfl rfl) rfl ?_
  refine LF.st (F := []) (s := none) rfl rfl rfl (fun H _ => LOp.nilCheck rfl rfl) rfl ?_
  refine LF.st (F := []) (s := none) rfl rfl rfl (fun H _ => LOp.fieldAddr rfl rfl ft3090_0) rfl ?_
  refine LF.st (F := []) (s := none) rfl rfl rfl (fun H _ => LOp.fieldAddr rfl rfl ft1071_5) rfl ?_
  refine LF.st rfl rfl rfl (LAt.load rfl rfl rfl vt26 rfl rfl) rfl ?_
  refine LF.st (F := []) (s := none) rfl rfl rfl (fun H _ => LOp.move rfl rfl) rfl ?_
  refine LF.st (F := []) (s := none) rfl rfl rfl (fun H _ => LOp.nilCheck rfl rfl) rfl ?_
  refine LF.st (F := []) (s := none) rfl rfl rfl (fun H _ => LOp.fieldAddr rfl rfl ft3090_0) rfl ?_
  refine LF.st (F := []) (s := none) rfl rfl rfl (fun H _ => LOp.fieldAddr rfl rfl ft1071_2) rfl ?_
  refine LF.st (F := []) (s := none) rfl rfl rfl (fun H _ => LOp.fieldAddr rfl rfl ft75_0) rfl ?_
  refine LF.st rfl rfl rfl (LAt.load rfl rfl rfl vt27 rfl rfl) rfl (LF.st rfl rfl rfl (LAt.load rfl rfl rfl vt24 rfl rfl) rfl (LF.st rfl rfl rfl (LAt.load rfl rfl rfl vt24 rfl rfl) rfl ?_))
  refine LF.st (F := []) (s := none) rfl rfl rfl (fun H _ => LOp.move rfl rfl) rfl ?_
  refine LF.st (F := []) (s := none) rfl rfl rfl (fun H _ => LOp.move rfl rfl) rfl ?_
  refine LF.st (F := []) (s := none) rfl rfl rfl (fun H _ => LOp.nilCheck rfl rfl) rfl ?_
  refine LF.st (F := []) (s := none) rfl rfl rfl (fun H _ => LOp.fieldAddr rfl rfl ft3090_2) rfl ?_
  refine LF.st rfl rfl rfl (LAt.load rfl rfl rfl vt3 rfl rfl) rfl ?_
  obtain ⟨q1, hr⟩ := grd_get hr
  refine LF.st (F := []) (s := none) rfl rfl rfl (fun H _ => LOp.call rfl rfl rfl (by kernel_rfl) (LC.pure (c37 (c := x.C) (l := v1.2.1.B) (head := v2) (found := v3.1) (is := v3.2) (slot := slot) (few_le q1)) (.cons Conv.p (.cons Conv.p (.cons Conv.p (.cons Conv.p (.cons Conv.p (.cons Conv.p .nil)))))))) rfl ?_
  refine LF.st (F := []) (s := none) rfl rfl rfl (fun H _ => LOp.nilCheck rfl rfl) rfl ?_
  refine LF.st (F := []) (s := none) rfl rfl rfl (fun H _ => LOp.fieldAddr rfl rfl ft3090_0) rfl ?_
  refine LF.st (F := []) (s := none) rfl rfl rfl (fun H _ => LOp.fieldAddr rfl rfl ft1071_5) rfl ?_
  refine LF.st rfl rfl rfl (LAt.store rfl rfl rfl rfl vt26 rfl rfl rfl) rfl ?_
  refine LF.nil ⟨by kernel_rfl, ?_⟩
  obtain rfl := Option.some.inj hr
  refine fin_endW (env' := []) (H' := [.box [.p (.slice 1 (c0.W.map i64P)), .p (.int .u64 c0.Seed), .p (.int .i64 c0.Epoch), .p (.int .i64 c0.Num), .p (.int .i64 c0.Den)], .box [.p (.int .i64 n0.No), .p (.int .i64 n0.Tick), .p (.slice 5 (n0.V.B.map blkP)), .p (.slice 4 (n0.V.V.map vtP)), .p (.slice 5 (n0.In.B.map blkP)), .p (.slice 4 (n0.In.V.map vtP)), .p (.slice 9 (n0.O.map ofP)), .p (.int .u64 n0.C.ID.1), .p (.int .u64 n0.C.ID.2), .p (.int .i64 n0.C.Slot), .p (.int .i64 n0.C.Revoked), .p (.bool n0.Full)], .box [.p (.slice 5 (in0.B.map blkP)), .p (.slice 4 (in0.V.map vtP))], .box [.p (.int .i64 0), .p (.int .i64 0), .zs, .zs, .zs, .zs, .zs, .p (.int .u64 0), .p (.int .u64 0), .p (.int .i64 0), .p (.int .i64 0), .p (.bool false)], .box [.p (.int .i64 x.No), .p (.int .i64 x.Tick), .p (.slice 5 (v1.2.1.B.map blkP)), .p (.slice 4 (v1.2.1.V.map vtP)), .p (.slice 5 (v1.1.B.map blkP)), .p (.slice 4 (v1.1.V.map vtP)), .p (.slice 9 (([] : List Of).map ofP)), .p (.int .u64 (((moveOf x.C v1.2.1.B v2 v3.1 v3.2 slot).ID).1)), .p (.int .u64 (((moveOf x.C v1.2.1.B v2 v3.1 v3.2 slot).ID).2)), .p (.int .i64 ((moveOf x.C v1.2.1.B v2 v3.1 v3.2 slot).Slot)), .p (.int .i64 ((moveOf x.C v1.2.1.B v2 v3.1 v3.2 slot).Revoked)), .p (.bool v1.2.2), .p (.slice 1 (c.W.map i64P)), .p (.int .u64 c.Seed), .p (.int .i64 c.Epoch), .p (.int .i64 c.Num), .p (.int .i64 c.Den), .p (.int .i64 slot), .p (.slice 9 (tl.map ofP))], .vec 9 (o.map ofP)]) (Weak.of 6 trivial rfl rfl rfl rfl) .none ?_
  exact ⟨rfl, rfl⟩
open Go.Proofs
theorem by_bool {b : Bool} {p : Prop} (h1 : b = true → p) (h2 : b = false → p) : p := by cases b <;> simp_all
theorem tick_is {a b : Int} (h : (a == b) = true) : LV.p (.int .i64 a) = .p (.int .i64 b) := by rw [eq_of_beq h]
structure F3018_L1 where
  t57 : Int
  o5 : List Of
def F3018_s1 (n : Nd) (x1 : F3018_L1) : Option (F3018_L1 ⊕ F3018_L1) :=
  bif decide (x1.t57 < (n.O.length : Int)) then
    (ix n.O x1.t57).bind fun y1 =>
    (F3052 y1).bind fun v6 =>
    bif room x1.o5.length [v6].length 104 then
      some (.inl (F3018_L1.mk (IntKind.i64.wrap (x1.t57 + 1)) (x1.o5 ++ [v6])))
    else none
  else
    some (.inr (F3018_L1.mk x1.t57 x1.o5))
def F3018 (c : Cf) (n : Nd) (v_in : Vw) (o : List Of) : Option (Nd × (List Of)) :=
  (
    (F64 c).bind fun v2 =>
    bif !v2 then
      some true
    else
      bif decide (n.Tick < 3) then
        some true
      else
        some (decide ((IntKind.i64.wrap (n.Tick.tdiv 3)) > 1048576))
  ).bind fun v1 =>
  bif v1 then
    (F3051 n.V).bind fun v3 =>
    (F3051 n.In).bind fun v4 =>
    (iter (F3018_s1 n) big (F3018_L1.mk 0 ([] : List Of))).bind fun v5 =>
    some (Nd.mk n.No n.Tick v3 v4 v5.o5 n.C n.Full, [])
  else
    (F85 c v_in).bind fun v7 =>
    (F91 n.In v7).bind fun v8 =>
    (FHear o (Nd.mk n.No n.Tick n.V v8 n.O n.C n.Full) c (IntKind.i64.wrap (n.Tick.tdiv 3))).bind fun v9 =>
    bif (n.Tick.tmod 3) == 0 then
      (FFirst (Nd.mk n.No n.Tick n.V v8 [] n.C v9.2) c (IntKind.i64.wrap (n.Tick.tdiv 3)) ([] : List Of)).bind fun v10 =>
      some (Nd.mk n.No (IntKind.i64.wrap (n.Tick + 1)) v10.1 v10.2.1 v9.1 n.C v10.2.2.1, v10.2.2.2)
    else
      bif (n.Tick.tmod 3) == 1 then
        (FSecond (Nd.mk n.No n.Tick n.V v8 [] n.C v9.2) v9.1 c (IntKind.i64.wrap (n.Tick.tdiv 3))).bind fun v11 =>
        some (Nd.mk n.No (IntKind.i64.wrap (n.Tick + 1)) v11.1 v11.2.1 [] n.C v11.2.2, [])
      else
        bif (n.Tick.tmod 3) == 2 then
          (FThird (Nd.mk n.No n.Tick n.V v8 [] n.C v9.2) c (IntKind.i64.wrap (n.Tick.tdiv 3))).bind fun v12 =>
          some (Nd.mk n.No (IntKind.i64.wrap (n.Tick + 1)) v12.1 v12.2.1 [] v12.2.2.1 v12.2.2.2, [])
        else none
set_option maxRecDepth 100000 in
theorem c3018 {c : Cf} {n : Nd} {v_in : Vw} {o : List Of} {r_ : Nd × (List Of)} (hr : F3018 c n v_in o = some r_) : LPure Tryz.prog 18 [cfP c, ndP n, vwP v_in, .slice 9 (o.map ofP)] [ndP r_.1, .slice 9 (r_.2.map ofP)] := by
  refine LPure.start Tryz.func18 rfl rfl rfl rfl ?_
  unfold F3018 at hr
  refine LW.seq (LW.region (LOps.st rfl rfl rfl (LOp.box rfl rfl rfl rfl rfl) (LOps.st rfl rfl rfl (LOp.box rfl rfl rfl rfl rfl) (LOps.st rfl rfl rfl (LOp.box rfl rfl rfl rfl rfl) (LOps.st rfl rfl rfl (LOp.alloc rfl zt1071 rfl rfl) (LOps.st rfl rfl rfl (LOp.assign rfl rfl) (LOps.nil (thn_n (LW.seq (LW.region (LOps.st rfl rfl rfl (LOp.load rfl rfl rfl vt1071 rfl rfl) ?_)))))))))))
  refine LOps.st rfl rfl rfl (LOp.load rfl rfl rfl vt55 rfl rfl) (LOps.st rfl rfl rfl (LOp.fieldAddr rfl rfl ft1071_1) (LOps.st rfl rfl rfl (LOp.load rfl rfl rfl vt3 rfl rfl) (LOps.st rfl rfl rfl (LOp.quo rfl rfl rfl (by decide)) (LOps.st rfl rfl rfl (LOp.build rfl bt3090 rfl rfl rfl) (LOps.st rfl rfl rfl (LOp.box rfl rfl rfl rfl rfl) (LOps.st rfl rfl rfl (LOp.assign rfl rfl) (LOps.nil (thn_n (LW.seq ?_)))))))))
  obtain ⟨v1, hb_v1, ho_v1⟩ := bind_get hr
  clear hr
  refine LW.cut (E := [(3, .p (.slice 9 (o.map ofP))), (4, .ptr 0 0), (5, .ptr 1 0), (6, .ptr 2 0), (8, .ptr 3 0), (9, .zs), (10, .ptr 4 0), (35, .p (.bool v1))]) (O := [.box [.p (.slice 1 (c.W.map i64P)), .p (.int .u64 c.Seed), .p (.int .i64 c.Epoch), .p (.int .i64 c.Num), .p (.int .i64 c.Den)], .box [.p (.int .i64 n.No), .p (.int .i64 n.Tick), .p (.slice 5 (n.V.B.map blkP)), .p (.slice 4 (n.V.V.map vtP)), .p (.slice 5 (n.In.B.map blkP)), .p (.slice 4 (n.In.V.map vtP)), .p (.slice 9 (n.O.map ofP)), .p (.int .u64 n.C.ID.1), .p (.int .u64 n.C.ID.2), .p (.int .i64 n.C.Slot), .p (.int .i64 n.C.Revoked), .p (.bool n.Full)], .box [.p (.slice 5 (v_in.B.map blkP)), .p (.slice 4 (v_in.V.map vtP))], .box [.p (.int .i64 0), .p (.int .i64 0), .zs, .zs, .zs, .zs, .zs, .p (.int .u64 0), .p (.int .u64 0), .p (.int .i64 0), .p (.int .i64 0), .p (.bool false)], .box [.p (.int .i64 n.No), .p (.int .i64 n.Tick), .p (.slice 5 (n.V.B.map blkP)), .p (.slice 4 (n.V.V.map vtP)), .p (.slice 5 (n.In.B.map blkP)), .p (.slice 4 (n.In.V.map vtP)), .p (.slice 9 (n.O.map ofP)), .p (.int .u64 n.C.ID.1), .p (.int .u64 n.C.ID.2), .p (.int .i64 n.C.Slot), .p (.int .i64 n.C.Revoked), .p (.bool n.Full), .p (.slice 1 (c.W.map i64P)), .p (.int .u64 c.Seed), .p (.int .i64 c.Epoch), .p (.int .i64 c.Num), .p (.int .i64 c.Den), .p (.int .i64 (IntKind.i64.wrap (n.Tick.tdiv 3))), .zs]]) ?_ ?_
  · have hr := hb_v1
    refine LW.region (LOps.st rfl rfl rfl (LOp.load rfl rfl rfl vt55 rfl rfl) ?_)
    obtain ⟨v2, h_v2, hr⟩ := bind_get hr
    refine LOps.st rfl rfl rfl (LOp.call rfl rfl rfl (by kernel_rfl) (LC.pure (c64 h_v2) (.cons Conv.p .nil))) (LOps.st rfl rfl rfl (LOp.not rfl rfl) (LOps.st rfl rfl rfl (LOp.move rfl rfl) ?_))
    refine LOps.cases 24 rfl (fun (g1 : (!v2) = true) => ?_) (fun (g1 : (!v2) = false) => ?_)
    ·
      have hr := ite_t g1 hr
      refine LOps.sk rfl rfl rfl (gd g1 rfl) rfl rfl (LOps.sk rfl rfl rfl (gd g1 rfl) rfl rfl (LOps.sk rfl rfl rfl (gd g1 rfl) rfl rfl (LOps.st rfl rfl rfl (LOp.pickT rfl (gdl g1 rfl) rfl) (LOps.st rfl rfl rfl (LOp.move rfl rfl) (LOps.sk rfl rfl rfl rfl rfl rfl (LOps.sk rfl rfl rfl rfl rfl rfl (LOps.sk rfl rfl rfl rfl rfl rfl (LOps.sk rfl rfl rfl rfl rfl rfl (LOps.sk rfl rfl rfl rfl rfl rfl (LOps.st rfl rfl rfl (LOp.pickT rfl rfl rfl) (LOps.nil ?_)))))))))))
      refine thn_n ?_
      obtain rfl := Option.some.inj hr
      exact Weak.of 5 ⟨rfl, rfl, rfl, rfl, rfl, rfl, rfl, rfl, trivial⟩ rfl rfl rfl rfl
    ·
      have hr := ite_f g1 hr
      refine LOps.gd rfl rfl rfl (gd g1 rfl) rfl (LOp.fieldAddr rfl rfl ft1071_1) (LOps.gd rfl rfl rfl (gd g1 rfl) rfl (LOp.load rfl rfl rfl vt3 rfl rfl) (LOps.gd rfl rfl rfl (gd g1 rfl) rfl (LOp.bin rfl rfl rfl rfl) (LOps.st rfl rfl rfl (LOp.pickF rfl (gdl g1 rfl) rfl) (LOps.st rfl rfl rfl (LOp.move rfl rfl) ?_))))
      refine LOps.cases 29 rfl (fun (g2 : (decide (n.Tick < 3)) = true) => ?_) (fun (g2 : (decide (n.Tick < 3)) = false) => ?_)
      ·
        have hr := ite_t g2 hr
        refine LOps.sk rfl rfl rfl (gd g2 rfl) rfl rfl (LOps.sk rfl rfl rfl (gd g2 rfl) rfl rfl (LOps.sk rfl rfl rfl (gd g2 rfl) rfl rfl (LOps.sk rfl rfl rfl (gd g2 rfl) rfl rfl (LOps.sk rfl rfl rfl (gd g2 rfl) rfl rfl (LOps.st rfl rfl rfl (LOp.pickT rfl (gdl g2 rfl) rfl) (LOps.nil (thn_n ?_)))))))
        obtain rfl := Option.some.inj hr
        exact Weak.of 5 ⟨rfl, rfl, rfl, rfl, rfl, rfl, rfl, rfl, trivial⟩ rfl rfl rfl rfl
      ·
        have hr := ite_f g2 hr
        refine LOps.gd rfl rfl rfl (gd g2 rfl) rfl (LOp.move rfl rfl) (LOps.gd rfl rfl rfl (gd g2 rfl) rfl (LOp.nilCheck rfl rfl) (LOps.gd rfl rfl rfl (gd g2 rfl) rfl (LOp.fieldAddr rfl rfl ft3090_2) (LOps.gd rfl rfl rfl (gd g2 rfl) rfl (LOp.load rfl rfl rfl vt3 rfl rfl) (LOps.gd rfl rfl rfl (gd g2 rfl) rfl (LOp.bin rfl rfl rfl rfl) (LOps.st rfl rfl rfl (LOp.pickF rfl (gdl g2 rfl) rfl) (LOps.nil (thn_n ?_)))))))
        obtain rfl := Option.some.inj hr
        exact Weak.of 5 ⟨rfl, rfl, rfl, rfl, rfl, rfl, rfl, rfl, trivial⟩ rfl rfl rfl rfl
  · have hr := ho_v1
    clear hb_v1
    refine LW.cond rfl (fun (g3 : v1 = true) => ?_) (fun (g3 : v1 = false) => ?_)
    ·
      have hr := ite_t g3 hr
      refine LW.seq (LW.drawW (by kernel_rfl) (by kernel_rfl) ?_)
      refine LF.st (F := []) (s := none) rfl rfl rfl (fun H _ => LOp.move rfl rfl) rfl ?_
      refine LF.st (F := []) (s := none) rfl rfl rfl (fun H _ => LOp.move rfl rfl) rfl ?_
      refine LF.st (F := []) (s := none) rfl rfl rfl (fun H _ => LOp.fieldAddr rfl rfl ft1071_2) rfl ?_
      refine LF.st rfl rfl rfl (LAt.load rfl rfl rfl vt75 rfl rfl) rfl ?_
      obtain ⟨v3, h_v3, hr⟩ := bind_get hr
      refine LF.st (F := []) (s := none) rfl rfl rfl (fun H _ => LOp.call rfl rfl rfl (by kernel_rfl) (LC.pure (c3051 h_v3) (.cons Conv.p .nil))) rfl ?_
      refine LF.st (F := []) (s := none) rfl rfl rfl (fun H _ => LOp.fieldAddr rfl rfl ft1071_3) rfl ?_
      refine LF.st rfl rfl rfl (LAt.load rfl rfl rfl vt75 rfl rfl) rfl ?_
      obtain ⟨v4, h_v4, hr⟩ := bind_get hr
      refine LF.st (F := []) (s := none) rfl rfl rfl (fun H _ => LOp.call rfl rfl rfl (by kernel_rfl) (LC.pure (c3051 h_v4) (.cons Conv.p .nil))) rfl ?_
      refine LF.st (F := []) (s := none) rfl rfl rfl (fun H _ => LOp.nilCheck rfl rfl) rfl ?_
      refine LF.st (F := []) (s := none) rfl rfl rfl (fun H _ => LOp.fieldAddr rfl rfl ft3090_0) rfl ?_
      refine LF.st (F := []) (s := none) rfl rfl rfl (fun H _ => LOp.fieldAddr rfl rfl ft1071_2) rfl ?_
      refine LF.st rfl rfl rfl (LAt.store rfl rfl rfl rfl vt75 rfl rfl rfl) rfl ?_
      refine LF.st (F := []) (s := none) rfl rfl rfl (fun H _ => LOp.nilCheck rfl rfl) rfl ?_
      refine LF.st (F := []) (s := none) rfl rfl rfl (fun H _ => LOp.fieldAddr rfl rfl ft3090_0) rfl ?_
      refine LF.st (F := []) (s := none) rfl rfl rfl (fun H _ => LOp.fieldAddr rfl rfl ft1071_3) rfl ?_
      refine LF.st rfl rfl rfl (LAt.store rfl rfl rfl rfl vt75 rfl rfl rfl) rfl ?_
      refine LF.nil ⟨by kernel_rfl, ?_⟩
      refine thn_n (LW.seq (LW.region (LOps.st rfl rfl rfl (LOp.move rfl rfl) (LOps.st rfl rfl rfl (LOp.nilCheck rfl rfl) (LOps.st rfl rfl rfl (LOp.fieldAddr rfl rfl ft3090_0) (LOps.st rfl rfl rfl (LOp.fieldAddr rfl rfl ft1071_4) (LOps.st rfl rfl rfl (LOp.store rfl rfl rfl rfl vt1036 rfl rfl rfl rfl) (LOps.nil (thn_n (LW.seq (LW.seq ?_)))))))))))
      refine LW.ent (Ent.lazyCell (i := 4) (j := 6) (m := 9) rfl rfl rfl rfl rfl rfl) (LW.region (LOps.st rfl rfl rfl (LOp.fieldAddr rfl rfl ft1071_4) (LOps.st rfl rfl rfl (LOp.load rfl rfl rfl vt1036 rfl rfl) (LOps.st rfl rfl rfl (LOp.lenM rfl rfl (by kernel_rfl)) (LOps.st rfl rfl rfl (LOp.move rfl rfl) (LOps.nil (thn_n ?_)))))))
      obtain ⟨v5, hb_v5, ho_v5⟩ := bind_get hr
      clear hr
      refine LW.tail (E := [(3, .p (.slice 9 (o.map ofP))), (4, .ptr 0 0), (5, .ptr 1 0), (6, .ptr 2 0), (8, .ptr 3 0), (9, .zs), (10, .ptr 4 0)]) (O := [.box [.p (.slice 1 (c.W.map i64P)), .p (.int .u64 c.Seed), .p (.int .i64 c.Epoch), .p (.int .i64 c.Num), .p (.int .i64 c.Den)], .box [.p (.int .i64 n.No), .p (.int .i64 n.Tick), .p (.slice 5 (n.V.B.map blkP)), .p (.slice 4 (n.V.V.map vtP)), .p (.slice 5 (n.In.B.map blkP)), .p (.slice 4 (n.In.V.map vtP)), .p (.slice 9 (n.O.map ofP)), .p (.int .u64 n.C.ID.1), .p (.int .u64 n.C.ID.2), .p (.int .i64 n.C.Slot), .p (.int .i64 n.C.Revoked), .p (.bool n.Full)], .box [.p (.slice 5 (v_in.B.map blkP)), .p (.slice 4 (v_in.V.map vtP))], .box [.p (.int .i64 0), .p (.int .i64 0), .zs, .zs, .zs, .zs, .zs, .p (.int .u64 0), .p (.int .u64 0), .p (.int .i64 0), .p (.int .i64 0), .p (.bool false)], .box [.p (.int .i64 n.No), .p (.int .i64 n.Tick), .p (.slice 5 (v3.B.map blkP)), .p (.slice 4 (v3.V.map vtP)), .p (.slice 5 (v4.B.map blkP)), .p (.slice 4 (v4.V.map vtP)), .vec 9 5 (v5.o5.map ofP).length 0 (v5.o5.map ofP).length, .p (.int .u64 n.C.ID.1), .p (.int .u64 n.C.ID.2), .p (.int .i64 n.C.Slot), .p (.int .i64 n.C.Revoked), .p (.bool n.Full), .p (.slice 1 (c.W.map i64P)), .p (.int .u64 c.Seed), .p (.int .i64 c.Epoch), .p (.int .i64 c.Num), .p (.int .i64 c.Den), .p (.int .i64 (IntKind.i64.wrap (n.Tick.tdiv 3))), .zs], .vec 9 (v5.o5.map ofP)]) ?_ (fun env_v5 H_v5 hw_v5 => ?_)
      · refine LW.block ?_
        refine LW.iterB (E := fun x1 : F3018_L1 => [(3, .p (.slice 9 (o.map ofP))), (4, .ptr 0 0), (5, .ptr 1 0), (6, .ptr 2 0), (8, .ptr 3 0), (9, .zs), (10, .ptr 4 0), (55, .p (.slice 9 (n.O.map ofP))), (56, .p (.int .i64 (n.O.length : Int))), (57, .p (.int .i64 x1.t57))]) (O := fun x1 => [.box [.p (.slice 1 (c.W.map i64P)), .p (.int .u64 c.Seed), .p (.int .i64 c.Epoch), .p (.int .i64 c.Num), .p (.int .i64 c.Den)], .box [.p (.int .i64 n.No), .p (.int .i64 n.Tick), .p (.slice 5 (n.V.B.map blkP)), .p (.slice 4 (n.V.V.map vtP)), .p (.slice 5 (n.In.B.map blkP)), .p (.slice 4 (n.In.V.map vtP)), .p (.slice 9 (n.O.map ofP)), .p (.int .u64 n.C.ID.1), .p (.int .u64 n.C.ID.2), .p (.int .i64 n.C.Slot), .p (.int .i64 n.C.Revoked), .p (.bool n.Full)], .box [.p (.slice 5 (v_in.B.map blkP)), .p (.slice 4 (v_in.V.map vtP))], .box [.p (.int .i64 0), .p (.int .i64 0), .zs, .zs, .zs, .zs, .zs, .p (.int .u64 0), .p (.int .u64 0), .p (.int .i64 0), .p (.int .i64 0), .p (.bool false)], .box [.p (.int .i64 n.No), .p (.int .i64 n.Tick), .p (.slice 5 (v3.B.map blkP)), .p (.slice 4 (v3.V.map vtP)), .p (.slice 5 (v4.B.map blkP)), .p (.slice 4 (v4.V.map vtP)), .vec 9 5 (x1.o5.map ofP).length 0 (x1.o5.map ofP).length, .p (.int .u64 n.C.ID.1), .p (.int .u64 n.C.ID.2), .p (.int .i64 n.C.Slot), .p (.int .i64 n.C.Revoked), .p (.bool n.Full), .p (.slice 1 (c.W.map i64P)), .p (.int .u64 c.Seed), .p (.int .i64 c.Epoch), .p (.int .i64 c.Num), .p (.int .i64 c.Den), .p (.int .i64 (IntKind.i64.wrap (n.Tick.tdiv 3))), .zs], .vec 9 (x1.o5.map ofP)]) hb_v5 (Weak.of 6 ⟨rfl, rfl, rfl, rfl, rfl, rfl, rfl, rfl, rfl, rfl, trivial⟩ rfl rfl rfl rfl) (fun x1 z_x1 hr hb_x1 => ?_)
        unfold F3018_s1 at hr
        refine LW.seq (LW.region (LOps.st rfl rfl rfl (LOp.bin rfl rfl rfl rfl) (LOps.nil (thn_n (LW.seq ?_)))))
        refine LW.cond rfl (fun (g4 : (decide (x1.t57 < (n.O.length : Int))) = true) => ?_) (fun (g4 : (decide (x1.t57 < (n.O.length : Int))) = false) => ?_)
        ·
          have hr := ite_t g4 hr
          refine LW.skip (thn_n (LW.seq (LW.block (LW.seq (LW.region ?_)))))
          obtain ⟨y1, h_y1, hr⟩ := bind_get hr
          refine LOps.st rfl rfl rfl (LOp.indexAddrX rfl rfl rfl st1036 h_y1 rfl) (LOps.st rfl rfl rfl (LOp.loadC rfl rfl rfl vt1077 rfl rfl) (LOps.st rfl rfl rfl (LOp.alloc rfl zt1077 rfl rfl) (LOps.st rfl rfl rfl (LOp.store rfl rfl rfl rfl vt1077 rfl rfl rfl rfl) (LOps.nil (thn_n (LW.drawW (by kernel_rfl) (by kernel_rfl) ?_))))))
          refine LF.st (F := []) (s := none) rfl rfl rfl (fun H _ => LOp.move rfl rfl) rfl ?_
          refine LF.st (F := []) (s := none) rfl rfl rfl (fun H _ => LOp.move rfl rfl) rfl ?_
          refine LF.st (F := []) (s := none) rfl rfl rfl (fun H _ => LOp.nilCheck rfl rfl) rfl ?_
          refine LF.st (F := []) (s := none) rfl rfl rfl (fun H _ => LOp.fieldAddr rfl rfl ft3090_0) rfl ?_
          refine LF.st (F := []) (s := none) rfl rfl rfl (fun H _ => LOp.fieldAddr rfl rfl ft1071_4) rfl ?_
          refine LF.st rfl rfl rfl (LAt.load rfl rfl rfl vt1036 rfl rfl) rfl (LF.st rfl rfl rfl (LAt.load rfl rfl rfl vt1077 rfl rfl) rfl ?_)
          obtain ⟨v6, h_v6, hr⟩ := bind_get hr
          refine LF.st (F := []) (s := none) rfl rfl rfl (fun H _ => LOp.call rfl rfl rfl (by kernel_rfl) (LC.pure (c3052 h_v6) (.cons Conv.p .nil))) rfl ?_
          refine LF.st (F := []) (s := none) rfl rfl rfl (fun H _ => LOp.buildSlice rfl st1036 rfl rfl rfl rfl rfl) rfl ?_
          obtain ⟨q1, hr⟩ := grd_get hr
          refine LF.st rfl rfl rfl (LAt.appendX ofP x1.o5 [v6] rfl rfl rfl rfl rfl st1036 q1) rfl ?_
          refine LF.st (F := []) (s := none) rfl rfl rfl (fun H _ => LOp.nilCheck rfl rfl) rfl ?_
          refine LF.st (F := []) (s := none) rfl rfl rfl (fun H _ => LOp.fieldAddr rfl rfl ft3090_0) rfl ?_
          refine LF.st (F := []) (s := none) rfl rfl rfl (fun H _ => LOp.fieldAddr rfl rfl ft1071_4) rfl ?_
          refine LF.st rfl rfl rfl (LAt.store rfl rfl rfl rfl vt1036 rfl rfl rfl) rfl ?_
          refine LF.nil ⟨by kernel_rfl, ?_⟩
          refine inBlk_n (thn_n (LW.region (LOps.st rfl rfl rfl (LOp.bin rfl rfl rfl rfl) (LOps.st rfl rfl rfl (LOp.move rfl rfl) (LOps.nil (thn_n ?_))))))
          obtain rfl := Option.some.inj hr
          exact ⟨_, rfl, Weak.of 6 ⟨rfl, rfl, rfl, rfl, rfl, rfl, rfl, rfl, rfl, rfl, trivial⟩ rfl rfl rfl rfl⟩
        ·
          have hr := ite_f g4 hr
          refine LW.exit (thn_e (thn_e (inBlk_self (thn_n ?_))))
          obtain rfl := Option.some.inj hr
          have hr := congrArg some (hb_x1 _ rfl)
          obtain rfl := Option.some.inj hr
          exact Weak.of 6 ⟨rfl, rfl, rfl, rfl, rfl, rfl, rfl, trivial⟩ rfl rfl rfl rfl
      · have hr := ho_v5
        clear hb_v5
        refine thn_n (LW.weak hw_v5 (LW.seq (LW.region (LOps.st rfl rfl rfl (LOp.move rfl rfl) (LOps.st rfl rfl rfl (LOp.nilCheck rfl rfl) (LOps.st rfl rfl rfl (LOp.fieldAddr rfl rfl ft3090_0) (LOps.st rfl rfl rfl (LOp.load rfl rfl rfl vt1071 rfl rfl) (LOps.st rfl rfl rfl (LOp.store rfl rfl rfl rfl vt1071 rfl rfl rfl rfl) (LOps.st rfl rfl rfl (LOp.assign rfl rfl) (LOps.nil (thn_n ?_)))))))))))
        refine LW.ret (thn_r ?_)
        obtain rfl := Option.some.inj hr
        refine finP_ret (.two (.cellAgg rfl rfl (by kernel_rfl) rfl) (.tmp rfl)) ?_
        exact ⟨_, rfl, (.cons (Conv.agg (.cons Conv.p (.cons Conv.p (.cons Conv.p (.cons Conv.p (.cons Conv.p (.cons Conv.p (.cons (Conv.vecAll rfl rfl rfl) (.cons Conv.p (.cons Conv.p (.cons Conv.p (.cons Conv.p (.cons Conv.p .nil))))))))))))) (.cons Conv.zs .nil))⟩
    ·
      have hr := ite_f g3 hr
      refine LW.skip (thn_n (LW.seq (LW.drawW (by kernel_rfl) (by kernel_rfl) ?_)))
      refine LF.st (F := []) (s := none) rfl rfl rfl (fun H _ => LOp.move rfl rfl) rfl ?_
      refine LF.st (F := []) (s := none) rfl rfl rfl (fun H _ => LOp.fieldAddr rfl rfl ft1071_3) rfl ?_
      refine LF.st rfl rfl rfl (LAt.load rfl rfl rfl vt75 rfl rfl) rfl (LF.st rfl rfl rfl (LAt.load rfl rfl rfl vt55 rfl rfl) rfl (LF.st rfl rfl rfl (LAt.load rfl rfl rfl vt75 rfl rfl) rfl ?_))
      obtain ⟨v7, h_v7, hr⟩ := bind_get hr
      refine LF.st (F := []) (s := none) rfl rfl rfl (fun H _ => LOp.call rfl rfl rfl (by kernel_rfl) (LC.pure (c85 h_v7) (.cons Conv.p (.cons Conv.p .nil)))) rfl ?_
      obtain ⟨v8, h_v8, hr⟩ := bind_get hr
      refine LF.st (F := []) (s := none) rfl rfl rfl (fun H _ => LOp.call rfl rfl rfl (by kernel_rfl) (LC.pure (c91 h_v8) (.cons Conv.p (.cons Conv.p .nil)))) rfl ?_
      refine LF.st (F := []) (s := none) rfl rfl rfl (fun H _ => LOp.nilCheck rfl rfl) rfl ?_
      refine LF.st (F := []) (s := none) rfl rfl rfl (fun H _ => LOp.fieldAddr rfl rfl ft3090_0) rfl ?_
      refine LF.st (F := []) (s := none) rfl rfl rfl (fun H _ => LOp.fieldAddr rfl rfl ft1071_3) rfl ?_
      refine LF.st rfl rfl rfl (LAt.store rfl rfl rfl rfl vt75 rfl rfl rfl) rfl ?_
      refine LF.nil ⟨by kernel_rfl, ?_⟩
      refine thn_n (LW.seq (LW.ent (Ent.zsCell (i := 4) (j := 18) (m := 9) rfl rfl rfl rfl) (LW.region (LOps.st rfl rfl rfl (LOp.move rfl rfl) (LOps.st rfl rfl rfl (LOp.move rfl rfl) ?_)))))
      obtain ⟨v9, h_v9, hr⟩ := bind_get hr
      refine LOps.st rfl rfl rfl (LOp.call rfl rfl rfl (by kernel_rfl) (cFHear (x := Nd.mk n.No n.Tick n.V v8 n.O n.C n.Full) (tl := ([] : List Of)) h_v9)) (LOps.nil (thn_n (LW.seq (LW.region (LOps.st rfl rfl rfl (LOp.build rfl bt3095 rfl rfl rfl) (LOps.st rfl rfl rfl (LOp.alloc rfl zt3095 rfl rfl) (LOps.st rfl rfl rfl (LOp.store rfl rfl rfl rfl vt3095 rfl rfl rfl rfl) (LOps.nil (thn_n (LW.seq ?_))))))))))
      refine by_bool (b := (n.Tick.tmod 3) == 0) (fun (g5 : ((n.Tick.tmod 3) == 0) = true) => ?_) (fun (g5 : ((n.Tick.tmod 3) == 0) = false) => ?_)
      ·
        have hr := ite_t g5 hr
        refine LW.region (LOps.st rfl rfl rfl (LOp.fieldAddr rfl rfl ft1071_1) (LOps.st rfl rfl rfl (LOp.load rfl rfl rfl vt3 rfl rfl) (LOps.st rfl rfl rfl (LOp.isEq (y := .p (.int .i64 0)) (LOp.rem rfl rfl rfl (by decide)) (tick_is g5)) (LOps.st rfl rfl rfl (LOp.indexAddrA rfl rfl rfl at3095 (by decide) (by decide)) (LOps.st rfl rfl rfl (LOp.load rfl rfl rfl vt3094 rfl rfl) (LOps.st rfl rfl rfl (LOp.move rfl rfl) ?_))))))
        obtain ⟨v10, h_v10, hr⟩ := bind_get hr
        refine LOps.st rfl rfl rfl (LOp.call rfl rfl rfl (by kernel_rfl) (LC.pre (cFFirst (x := Nd.mk n.No n.Tick n.V v8 [] n.C v9.2) (o := v9.1) (tl := ([] : List Of)) h_v10) rfl rfl rfl)) (LOps.nil (thn_n (LW.seq (LW.region (LOps.st rfl rfl rfl (LOp.move rfl rfl) (LOps.st rfl rfl rfl (LOp.nilCheck rfl rfl) (LOps.st rfl rfl rfl (LOp.fieldAddr rfl rfl ft3090_0) (LOps.st rfl rfl rfl (LOp.fieldAddr rfl rfl ft1071_1) (LOps.st rfl rfl rfl (LOp.load rfl rfl rfl vt3 rfl rfl) (LOps.st rfl rfl rfl (LOp.bin rfl rfl rfl rfl) (LOps.st rfl rfl rfl (LOp.nilCheck rfl rfl) ?_)))))))))))
        refine LOps.st rfl rfl rfl (LOp.fieldAddr rfl rfl ft3090_0) (LOps.st rfl rfl rfl (LOp.fieldAddr rfl rfl ft1071_1) (LOps.st rfl rfl rfl (LOp.store rfl rfl rfl rfl vt3 rfl rfl rfl rfl) (LOps.nil (thn_n (LW.seq (LW.drawW (by kernel_rfl) (by kernel_rfl) ?_))))))
        refine LF.st (F := []) (s := none) rfl rfl rfl (fun H _ => LOp.move rfl rfl) rfl ?_
        refine LF.st (F := []) (s := none) rfl rfl rfl (fun H _ => LOp.nilCheck rfl rfl) rfl ?_
        refine LF.st (F := []) (s := none) rfl rfl rfl (fun H _ => LOp.fieldAddr rfl rfl ft3090_0) rfl ?_
        refine LF.st rfl rfl rfl (LAt.load rfl rfl rfl vt1071 rfl rfl) rfl ?_
        refine LF.st (F := []) (s := none) rfl rfl rfl (fun H _ => LOp.move rfl rfl) rfl ?_
        refine LF.st (F := []) (s := none) rfl rfl rfl (fun H _ => LOp.nilCheck rfl rfl) rfl ?_
        refine LF.st (F := []) (s := none) rfl rfl rfl (fun H _ => LOp.fieldAddr rfl rfl ft3090_3) rfl ?_
        refine LF.st rfl rfl rfl (LAt.load rfl rfl rfl vt1036 rfl rfl) rfl (LF.st rfl rfl rfl (LAt.store rfl rfl rfl rfl vt1071 rfl rfl rfl) rfl ?_)
        refine LF.st (F := []) (s := none) rfl rfl rfl (fun H _ => LOp.assign rfl rfl) rfl ?_
        refine LF.nil ⟨by kernel_rfl, ?_⟩
        refine thn_n (LW.ret ?_)
        obtain rfl := Option.some.inj hr
        refine finP_ret (.two (.cellAgg rfl rfl (by kernel_rfl) rfl) (.tmp rfl)) ?_
        exact ⟨_, rfl, (.cons (Conv.agg (.cons Conv.p (.cons Conv.p (.cons Conv.p (.cons Conv.p (.cons Conv.p (.cons Conv.p (.cons (Conv.vecAll rfl rfl rfl) (.cons Conv.p (.cons Conv.p (.cons Conv.p (.cons Conv.p (.cons Conv.p .nil))))))))))))) (.cons Conv.p .nil))⟩
      ·
        have hr := ite_f g5 hr
        refine by_bool (b := (n.Tick.tmod 3) == 1) (fun (g6 : ((n.Tick.tmod 3) == 1) = true) => ?_) (fun (g6 : ((n.Tick.tmod 3) == 1) = false) => ?_)
        ·
          have hr := ite_t g6 hr
          refine LW.region (LOps.st rfl rfl rfl (LOp.fieldAddr rfl rfl ft1071_1) (LOps.st rfl rfl rfl (LOp.load rfl rfl rfl vt3 rfl rfl) (LOps.st rfl rfl rfl (LOp.isEq (y := .p (.int .i64 1)) (LOp.rem rfl rfl rfl (by decide)) (tick_is g6)) (LOps.st rfl rfl rfl (LOp.indexAddrA rfl rfl rfl at3095 (by decide) (by decide)) (LOps.st rfl rfl rfl (LOp.load rfl rfl rfl vt3094 rfl rfl) (LOps.st rfl rfl rfl (LOp.move rfl rfl) ?_))))))
          obtain ⟨v11, h_v11, hr⟩ := bind_get hr
          refine LOps.st rfl rfl rfl (LOp.call rfl rfl rfl (by kernel_rfl) (LC.pre (cFSecond (x := Nd.mk n.No n.Tick n.V v8 [] n.C v9.2) (o := v9.1) (tl := ([] : List Of)) h_v11) rfl rfl rfl)) (LOps.nil (thn_n (LW.seq (LW.region (LOps.st rfl rfl rfl (LOp.move rfl rfl) (LOps.st rfl rfl rfl (LOp.nilCheck rfl rfl) (LOps.st rfl rfl rfl (LOp.fieldAddr rfl rfl ft3090_0) (LOps.st rfl rfl rfl (LOp.fieldAddr rfl rfl ft1071_1) (LOps.st rfl rfl rfl (LOp.load rfl rfl rfl vt3 rfl rfl) (LOps.st rfl rfl rfl (LOp.bin rfl rfl rfl rfl) (LOps.st rfl rfl rfl (LOp.nilCheck rfl rfl) ?_)))))))))))
          refine LOps.st rfl rfl rfl (LOp.fieldAddr rfl rfl ft3090_0) (LOps.st rfl rfl rfl (LOp.fieldAddr rfl rfl ft1071_1) (LOps.st rfl rfl rfl (LOp.store rfl rfl rfl rfl vt3 rfl rfl rfl rfl) (LOps.nil (thn_n (LW.seq (LW.drawW (by kernel_rfl) (by kernel_rfl) ?_))))))
          refine LF.st (F := []) (s := none) rfl rfl rfl (fun H _ => LOp.move rfl rfl) rfl ?_
          refine LF.st (F := []) (s := none) rfl rfl rfl (fun H _ => LOp.nilCheck rfl rfl) rfl ?_
          refine LF.st (F := []) (s := none) rfl rfl rfl (fun H _ => LOp.fieldAddr rfl rfl ft3090_0) rfl ?_
          refine LF.st rfl rfl rfl (LAt.load rfl rfl rfl vt1071 rfl rfl) rfl ?_
          refine LF.st (F := []) (s := none) rfl rfl rfl (fun H _ => LOp.move rfl rfl) rfl ?_
          refine LF.st (F := []) (s := none) rfl rfl rfl (fun H _ => LOp.nilCheck rfl rfl) rfl ?_
          refine LF.st (F := []) (s := none) rfl rfl rfl (fun H _ => LOp.fieldAddr rfl rfl ft3090_3) rfl ?_
          refine LF.st rfl rfl rfl (LAt.load rfl rfl rfl vt1036 rfl rfl) rfl (LF.st rfl rfl rfl (LAt.store rfl rfl rfl rfl vt1071 rfl rfl rfl) rfl ?_)
          refine LF.st (F := []) (s := none) rfl rfl rfl (fun H _ => LOp.assign rfl rfl) rfl ?_
          refine LF.nil ⟨by kernel_rfl, ?_⟩
          refine thn_n (LW.ret ?_)
          obtain rfl := Option.some.inj hr
          refine finP_ret (.two (.cellAgg rfl rfl (by kernel_rfl) rfl) (.tmp rfl)) ?_
          exact ⟨_, rfl, (.cons Conv.p (.cons Conv.p .nil))⟩
        ·
          have hr := ite_f g6 hr
          obtain ⟨q2, hr⟩ := grd_get hr
          refine LW.region (LOps.st rfl rfl rfl (LOp.fieldAddr rfl rfl ft1071_1) (LOps.st rfl rfl rfl (LOp.load rfl rfl rfl vt3 rfl rfl) (LOps.st rfl rfl rfl (LOp.isEq (y := .p (.int .i64 2)) (LOp.rem rfl rfl rfl (by decide)) (tick_is q2)) (LOps.st rfl rfl rfl (LOp.indexAddrA rfl rfl rfl at3095 (by decide) (by decide)) (LOps.st rfl rfl rfl (LOp.load rfl rfl rfl vt3094 rfl rfl) (LOps.st rfl rfl rfl (LOp.move rfl rfl) ?_))))))
          obtain ⟨v12, h_v12, hr⟩ := bind_get hr
          refine LOps.st rfl rfl rfl (LOp.call rfl rfl rfl (by kernel_rfl) (LC.pre (cFThird (x := Nd.mk n.No n.Tick n.V v8 [] n.C v9.2) (o := v9.1) (tl := ([] : List Of)) h_v12) rfl rfl rfl)) (LOps.nil (thn_n (LW.seq (LW.region (LOps.st rfl rfl rfl (LOp.move rfl rfl) (LOps.st rfl rfl rfl (LOp.nilCheck rfl rfl) (LOps.st rfl rfl rfl (LOp.fieldAddr rfl rfl ft3090_0) (LOps.st rfl rfl rfl (LOp.fieldAddr rfl rfl ft1071_1) (LOps.st rfl rfl rfl (LOp.load rfl rfl rfl vt3 rfl rfl) (LOps.st rfl rfl rfl (LOp.bin rfl rfl rfl rfl) (LOps.st rfl rfl rfl (LOp.nilCheck rfl rfl) ?_)))))))))))
          refine LOps.st rfl rfl rfl (LOp.fieldAddr rfl rfl ft3090_0) (LOps.st rfl rfl rfl (LOp.fieldAddr rfl rfl ft1071_1) (LOps.st rfl rfl rfl (LOp.store rfl rfl rfl rfl vt3 rfl rfl rfl rfl) (LOps.nil (thn_n (LW.seq (LW.drawW (by kernel_rfl) (by kernel_rfl) ?_))))))
          refine LF.st (F := []) (s := none) rfl rfl rfl (fun H _ => LOp.move rfl rfl) rfl ?_
          refine LF.st (F := []) (s := none) rfl rfl rfl (fun H _ => LOp.nilCheck rfl rfl) rfl ?_
          refine LF.st (F := []) (s := none) rfl rfl rfl (fun H _ => LOp.fieldAddr rfl rfl ft3090_0) rfl ?_
          refine LF.st rfl rfl rfl (LAt.load rfl rfl rfl vt1071 rfl rfl) rfl ?_
          refine LF.st (F := []) (s := none) rfl rfl rfl (fun H _ => LOp.move rfl rfl) rfl ?_
          refine LF.st (F := []) (s := none) rfl rfl rfl (fun H _ => LOp.nilCheck rfl rfl) rfl ?_
          refine LF.st (F := []) (s := none) rfl rfl rfl (fun H _ => LOp.fieldAddr rfl rfl ft3090_3) rfl ?_
          refine LF.st rfl rfl rfl (LAt.load rfl rfl rfl vt1036 rfl rfl) rfl (LF.st rfl rfl rfl (LAt.store rfl rfl rfl rfl vt1071 rfl rfl rfl) rfl ?_)
          refine LF.st (F := []) (s := none) rfl rfl rfl (fun H _ => LOp.assign rfl rfl) rfl ?_
          refine LF.nil ⟨by kernel_rfl, ?_⟩
          refine thn_n (LW.ret ?_)
          obtain rfl := Option.some.inj hr
          refine finP_ret (.two (.cellAgg rfl rfl (by kernel_rfl) rfl) (.tmp rfl)) ?_
          exact ⟨_, rfl, (.cons Conv.p (.cons Conv.p .nil))⟩
open Go.Proofs
def F3029 : Option Bool :=
  (F125 ).bind fun v1 =>
  (F3043 0).bind fun v2 =>
  (F3018 v1 v2 (Vw.mk [] []) ([] : List Of)).bind fun v3 =>
  (F3043 1).bind fun v4 =>
  (F1031 [v3.1, v4]).bind fun v5 =>
  (F3036 v1 [v3.1]).bind fun v6 =>
  (F1031 ([] : List Nd)).bind fun v7 =>
  bif (v7.B.length : Int) == 0 then
    bif (v5.B.length : Int) == 1 then
      (F3034 v5).bind fun v8 =>
      bif !v8 then
        (ix v5.B 0).bind fun y1 =>
        (ix v5.B 0).bind fun y2 =>
        (F3034 (Vw.mk [y1, y2] [])).bind fun v9 =>
        bif v9 then
          bif (v6.length : Int) == 1 then
            (F3033 [v3.1]).bind fun v10 =>
            some (!v10)
          else
            some false
        else
          some false
      else
        some false
    else
      some false
  else
    some false
set_option maxRecDepth 100000 in
theorem c3029 {r_ : Bool} (hr : F3029 = some r_) : LPure Tryz.prog 29 [] [.bool r_] := by
  refine LPure.start Tryz.func29 rfl rfl rfl rfl ?_
  unfold F3029 at hr
  refine LW.seq (LW.region (LOps.st rfl rfl rfl (LOp.assign rfl rfl) (LOps.nil (thn_n (LW.seq (LW.region ?_))))))
  obtain ⟨v1, h_v1, hr⟩ := bind_get hr
  refine LOps.st rfl rfl rfl (LOp.call rfl rfl rfl (by kernel_rfl) (LC.pure (c125 h_v1) .nil)) (LOps.st rfl rfl rfl (LOp.alloc rfl zt55 rfl rfl) (LOps.st rfl rfl rfl (LOp.store rfl rfl rfl rfl vt55 rfl rfl rfl rfl) (LOps.nil (thn_n (LW.seq (LW.ent (Ent.slot rfl) (LW.drawW (by kernel_rfl) (by kernel_rfl) (LF.st rfl rfl rfl (LAt.load rfl rfl rfl vt55 rfl rfl) rfl ?_))))))))
  obtain ⟨v2, h_v2, hr⟩ := bind_get hr
  refine LF.st (F := []) (s := none) rfl rfl rfl (fun H _ => LOp.call rfl rfl rfl (by kernel_rfl) (LC.pure (c3043 h_v2) (.cons Conv.p .nil))) rfl ?_
  refine LF.st (F := []) (s := none) rfl rfl rfl (fun H _ => LOp.build rfl bt75 rfl rfl rfl) rfl ?_
  obtain ⟨v3, h_v3, hr⟩ := bind_get hr
  refine LF.st (F := []) (s := none) rfl rfl rfl (fun H _ => LOp.call rfl rfl rfl (by kernel_rfl) (LC.pure (c3018 h_v3) (.cons Conv.p (.cons Conv.p (.cons (Conv.agg (.cons Conv.zs (.cons Conv.zs .nil))) (.cons Conv.zs .nil)))))) rfl ?_
  refine LF.st (F := []) (s := none) rfl rfl rfl (fun H _ => LOp.move rfl rfl) rfl ?_
  refine LF.st (F := []) (s := none) rfl rfl rfl (fun H _ => LOp.extract rfl rfl rfl) rfl ?_
  refine LF.st (F := []) (s := none) rfl rfl rfl (fun H _ => LOp.extract rfl rfl rfl) rfl ?_
  refine LF.st rfl rfl rfl (LAt.alloc rfl zt1071 (id := 1) rfl) rfl (LF.st rfl rfl rfl (LAt.store rfl rfl rfl rfl vt1071 rfl rfl rfl) rfl ?_)
  refine LF.st (F := []) (s := none) rfl rfl rfl (fun H _ => LOp.assign rfl rfl) rfl ?_
  refine LF.nil ⟨by kernel_rfl, ?_⟩
  refine thn_n (LW.seq (LW.ent (Ent.slot rfl) (LW.drawW (by kernel_rfl) (by kernel_rfl) (LF.st rfl rfl rfl (LAt.load rfl rfl rfl vt1071 rfl rfl) rfl ?_))))
  obtain ⟨v4, h_v4, hr⟩ := bind_get hr
  refine LF.st (F := []) (s := none) rfl rfl rfl (fun H _ => LOp.call rfl rfl rfl (by kernel_rfl) (LC.pure (c3043 h_v4) (.cons Conv.p .nil))) rfl ?_
  refine LF.st (F := []) (s := none) rfl rfl rfl (fun H _ => LOp.buildSlice rfl st1035 rfl rfl rfl rfl rfl) rfl ?_
  obtain ⟨v5, h_v5, hr⟩ := bind_get hr
  refine LF.st (F := []) (s := none) rfl rfl rfl (fun H _ => LOp.call rfl rfl rfl (by kernel_rfl) (LC.pure (c1031 h_v5) (.cons Conv.p .nil))) rfl ?_
  refine LF.st rfl rfl rfl (LAt.alloc rfl zt75 (id := 2) rfl) rfl (LF.st rfl rfl rfl (LAt.store rfl rfl rfl rfl vt75 rfl rfl rfl) rfl ?_)
  refine LF.nil ⟨by kernel_rfl, ?_⟩
  refine thn_n (LW.seq (LW.region (LOps.st rfl rfl rfl (LOp.load rfl rfl rfl vt55 rfl rfl) (LOps.st rfl rfl rfl (LOp.load rfl rfl rfl vt1071 rfl rfl) (LOps.st rfl rfl rfl (LOp.buildSlice rfl st1035 rfl rfl rfl rfl rfl) ?_)))))
  obtain ⟨v6, h_v6, hr⟩ := bind_get hr
  refine LOps.st rfl rfl rfl (LOp.call rfl rfl rfl (by kernel_rfl) (LC.pure (c3036 h_v6) (.cons Conv.p (.cons Conv.p .nil)))) (LOps.st rfl rfl rfl (LOp.assign rfl rfl) (LOps.nil (thn_n (LW.seq (LW.draw (by kernel_rfl) (by kernel_rfl) ?_)))))
  obtain ⟨v7, h_v7, hr⟩ := bind_get hr
  refine LO.st rfl rfl rfl (LOp.call rfl rfl rfl (by kernel_rfl) (LC.pure (c1031 h_v7) (.cons Conv.zs .nil))) (LO.st rfl rfl rfl (LOp.field rfl rfl rfl ft75_0 rfl rfl) (LO.st rfl rfl rfl (LOp.lenM rfl rfl (by kernel_rfl)) (LO.st rfl rfl rfl (LOp.bin rfl rfl rfl rfl) (LO.st rfl rfl rfl (LOp.move rfl rfl) ?_))))
  refine LO.cases 26 rfl (fun (g1 : ((v7.B.length : Int) == 0) = true) => ?_) (fun (g1 : ((v7.B.length : Int) == 0) = false) => ?_)
  ·
    have hr := ite_t g1 hr
    refine LO.gd rfl rfl rfl (gd g1 rfl) rfl (LOp.fieldAddr rfl rfl ft75_0) (LO.gd rfl rfl rfl (gd g1 rfl) rfl (LOp.load rfl rfl rfl vt27 rfl rfl) (LO.gd rfl rfl rfl (gd g1 rfl) rfl (LOp.lenM rfl rfl (by kernel_rfl)) (LO.gd rfl rfl rfl (gd g1 rfl) rfl (LOp.bin rfl rfl rfl rfl) (LO.st rfl rfl rfl (LOp.pickT rfl (gdl g1 rfl) rfl) (LO.st rfl rfl rfl (LOp.move rfl rfl) ?_)))))
    refine LO.cases 32 rfl (fun (g2 : ((v5.B.length : Int) == 1) = true) => ?_) (fun (g2 : ((v5.B.length : Int) == 1) = false) => ?_)
    ·
      have hr := ite_t g2 hr
      refine LO.gd rfl rfl rfl (gd g2 rfl) rfl (LOp.load rfl rfl rfl vt75 rfl rfl) ?_
      obtain ⟨v8, h_v8, hr⟩ := bind_get hr
      refine LO.gd rfl rfl rfl (gd g2 rfl) rfl (LOp.call rfl rfl rfl (by kernel_rfl) (LC.pure (c3034 h_v8) (.cons Conv.p .nil))) (LO.gd rfl rfl rfl (gd g2 rfl) rfl (LOp.not rfl rfl) (LO.st rfl rfl rfl (LOp.pickT rfl (gdl g2 rfl) rfl) (LO.st rfl rfl rfl (LOp.move rfl rfl) ?_)))
      refine LO.cases 37 rfl (fun (g3 : (!v8) = true) => ?_) (fun (g3 : (!v8) = false) => ?_)
      ·
        have hr := ite_t g3 hr
        refine LO.gd rfl rfl rfl (gd g3 rfl) rfl (LOp.fieldAddr rfl rfl ft75_0) (LO.gd rfl rfl rfl (gd g3 rfl) rfl (LOp.load rfl rfl rfl vt27 rfl rfl) ?_)
        obtain ⟨y1, h_y1, hr⟩ := bind_get hr
        refine LO.gd rfl rfl rfl (gd g3 rfl) rfl (LOp.indexAddrX rfl rfl rfl st27 h_y1 rfl) (LO.gd rfl rfl rfl (gd g3 rfl) rfl (LOp.loadC rfl rfl rfl vt42 rfl rfl) (LO.gd rfl rfl rfl (gd g3 rfl) rfl (LOp.fieldAddr rfl rfl ft75_0) (LO.gd rfl rfl rfl (gd g3 rfl) rfl (LOp.load rfl rfl rfl vt27 rfl rfl) ?_)))
        obtain ⟨y2, h_y2, hr⟩ := bind_get hr
        refine LO.gd rfl rfl rfl (gd g3 rfl) rfl (LOp.indexAddrX rfl rfl rfl st27 h_y2 rfl) (LO.gd rfl rfl rfl (gd g3 rfl) rfl (LOp.loadC rfl rfl rfl vt42 rfl rfl) (LO.gd rfl rfl rfl (gd g3 rfl) rfl (LOp.buildSlice rfl st27 rfl rfl rfl rfl rfl) (LO.gd rfl rfl rfl (gd g3 rfl) rfl (LOp.build rfl bt75 rfl rfl rfl) ?_)))
        obtain ⟨v9, h_v9, hr⟩ := bind_get hr
        refine LO.gd rfl rfl rfl (gd g3 rfl) rfl (LOp.call rfl rfl rfl (by kernel_rfl) (LC.pure (c3034 h_v9) (.cons (Conv.agg (.cons Conv.p (.cons Conv.zs .nil))) .nil))) (LO.st rfl rfl rfl (LOp.pickT rfl (gdl g3 rfl) rfl) (LO.st rfl rfl rfl (LOp.move rfl rfl) ?_))
        refine LO.cases 50 rfl (fun (g4 : v9 = true) => ?_) (fun (g4 : v9 = false) => ?_)
        ·
          have hr := ite_t g4 hr
          refine LO.gd rfl rfl rfl (gd g4 rfl) rfl (LOp.move rfl rfl) (LO.gd rfl rfl rfl (gd g4 rfl) rfl (LOp.lenM rfl rfl (by kernel_rfl)) (LO.gd rfl rfl rfl (gd g4 rfl) rfl (LOp.bin rfl rfl rfl rfl) (LO.st rfl rfl rfl (LOp.pickT rfl (gdl g4 rfl) rfl) (LO.st rfl rfl rfl (LOp.move rfl rfl) ?_))))
          refine LO.cases 55 rfl (fun (g5 : ((v6.length : Int) == 1) = true) => ?_) (fun (g5 : ((v6.length : Int) == 1) = false) => ?_)
          ·
            have hr := ite_t g5 hr
            refine LO.gd rfl rfl rfl (gd g5 rfl) rfl (LOp.load rfl rfl rfl vt1071 rfl rfl) (LO.gd rfl rfl rfl (gd g5 rfl) rfl (LOp.buildSlice rfl st1035 rfl rfl rfl rfl rfl) ?_)
            obtain ⟨v10, h_v10, hr⟩ := bind_get hr
            refine LO.gd rfl rfl rfl (gd g5 rfl) rfl (LOp.call rfl rfl rfl (by kernel_rfl) (LC.pure (c3033 h_v10) (.cons Conv.p .nil))) (LO.gd rfl rfl rfl (gd g5 rfl) rfl (LOp.not rfl rfl) (LO.st rfl rfl rfl (LOp.pickT rfl (gdl g5 rfl) rfl) (LO.st rfl rfl rfl (LOp.assign rfl rfl) (LO.nil (thn_n (LW.ret ?_))))))
            obtain rfl := Option.some.inj hr
            refine finP_ret (.one (.tmp rfl)) ?_
            exact Conv.p
          ·
            have hr := ite_f g5 hr
            refine LO.sk rfl rfl rfl (gd g5 rfl) rfl rfl (LO.sk rfl rfl rfl (gd g5 rfl) rfl rfl (LO.sk rfl rfl rfl (gd g5 rfl) rfl rfl (LO.sk rfl rfl rfl (gd g5 rfl) rfl rfl (LO.st rfl rfl rfl (LOp.pickF rfl (gdl g5 rfl) rfl) (LO.st rfl rfl rfl (LOp.assign rfl rfl) (LO.nil (thn_n (LW.ret ?_))))))))
            obtain rfl := Option.some.inj hr
            refine finP_ret (.one (.tmp rfl)) ?_
            exact Conv.p
        ·
          have hr := ite_f g4 hr
          refine LO.sk rfl rfl rfl (gd g4 rfl) rfl rfl (LO.sk rfl rfl rfl (gd g4 rfl) rfl rfl (LO.sk rfl rfl rfl (gd g4 rfl) rfl rfl (LO.st rfl rfl rfl (LOp.pickF rfl (gdl g4 rfl) rfl) (LO.st rfl rfl rfl (LOp.move rfl rfl) (LO.sk rfl rfl rfl rfl rfl rfl (LO.sk rfl rfl rfl rfl rfl rfl (LO.sk rfl rfl rfl rfl rfl rfl (LO.sk rfl rfl rfl rfl rfl rfl (LO.st rfl rfl rfl (LOp.pickF rfl rfl rfl) (LO.st rfl rfl rfl (LOp.assign rfl rfl) (LO.nil ?_)))))))))))
          refine thn_n (LW.ret ?_)
          obtain rfl := Option.some.inj hr
          refine finP_ret (.one (.tmp rfl)) ?_
          exact Conv.p
      ·
        have hr := ite_f g3 hr
        refine LO.sk rfl rfl rfl (gd g3 rfl) rfl rfl (LO.sk rfl rfl rfl (gd g3 rfl) rfl rfl (LO.sk rfl rfl rfl (gd g3 rfl) rfl rfl (LO.sk rfl rfl rfl (gd g3 rfl) rfl rfl (LO.sk rfl rfl rfl (gd g3 rfl) rfl rfl (LO.sk rfl rfl rfl (gd g3 rfl) rfl rfl (LO.sk rfl rfl rfl (gd g3 rfl) rfl rfl (LO.sk rfl rfl rfl (gd g3 rfl) rfl rfl (LO.sk rfl rfl rfl (gd g3 rfl) rfl rfl (LO.sk rfl rfl rfl (gd g3 rfl) rfl rfl (LO.sk rfl rfl rfl (gd g3 rfl) rfl rfl (LO.st rfl rfl rfl (LOp.pickF rfl (gdl g3 rfl) rfl) ?_)))))))))))
        refine LO.st rfl rfl rfl (LOp.move rfl rfl) (LO.sk rfl rfl rfl rfl rfl rfl (LO.sk rfl rfl rfl rfl rfl rfl (LO.sk rfl rfl rfl rfl rfl rfl (LO.st rfl rfl rfl (LOp.pickF rfl rfl rfl) (LO.st rfl rfl rfl (LOp.move rfl rfl) (LO.sk rfl rfl rfl rfl rfl rfl (LO.sk rfl rfl rfl rfl rfl rfl (LO.sk rfl rfl rfl rfl rfl rfl (LO.sk rfl rfl rfl rfl rfl rfl (LO.st rfl rfl rfl (LOp.pickF rfl rfl rfl) (LO.st rfl rfl rfl (LOp.assign rfl rfl) ?_)))))))))))
        refine LO.nil (thn_n (LW.ret ?_))
        obtain rfl := Option.some.inj hr
        refine finP_ret (.one (.tmp rfl)) ?_
        exact Conv.p
    ·
      have hr := ite_f g2 hr
      refine LO.sk rfl rfl rfl (gd g2 rfl) rfl rfl (LO.sk rfl rfl rfl (gd g2 rfl) rfl rfl (LO.sk rfl rfl rfl (gd g2 rfl) rfl rfl (LO.st rfl rfl rfl (LOp.pickF rfl (gdl g2 rfl) rfl) (LO.st rfl rfl rfl (LOp.move rfl rfl) (LO.sk rfl rfl rfl rfl rfl rfl (LO.sk rfl rfl rfl rfl rfl rfl (LO.sk rfl rfl rfl rfl rfl rfl (LO.sk rfl rfl rfl rfl rfl rfl (LO.sk rfl rfl rfl rfl rfl rfl (LO.sk rfl rfl rfl rfl rfl rfl (LO.sk rfl rfl rfl rfl rfl rfl ?_)))))))))))
      refine LO.sk rfl rfl rfl rfl rfl rfl (LO.sk rfl rfl rfl rfl rfl rfl (LO.sk rfl rfl rfl rfl rfl rfl (LO.sk rfl rfl rfl rfl rfl rfl (LO.st rfl rfl rfl (LOp.pickF rfl rfl rfl) (LO.st rfl rfl rfl (LOp.move rfl rfl) (LO.sk rfl rfl rfl rfl rfl rfl (LO.sk rfl rfl rfl rfl rfl rfl (LO.sk rfl rfl rfl rfl rfl rfl (LO.st rfl rfl rfl (LOp.pickF rfl rfl rfl) (LO.st rfl rfl rfl (LOp.move rfl rfl) (LO.sk rfl rfl rfl rfl rfl rfl ?_)))))))))))
      refine LO.sk rfl rfl rfl rfl rfl rfl (LO.sk rfl rfl rfl rfl rfl rfl (LO.sk rfl rfl rfl rfl rfl rfl (LO.st rfl rfl rfl (LOp.pickF rfl rfl rfl) (LO.st rfl rfl rfl (LOp.assign rfl rfl) (LO.nil (thn_n (LW.ret ?_)))))))
      obtain rfl := Option.some.inj hr
      refine finP_ret (.one (.tmp rfl)) ?_
      exact Conv.p
  ·
    have hr := ite_f g1 hr
    refine LO.sk rfl rfl rfl (gd g1 rfl) rfl rfl (LO.sk rfl rfl rfl (gd g1 rfl) rfl rfl (LO.sk rfl rfl rfl (gd g1 rfl) rfl rfl (LO.sk rfl rfl rfl (gd g1 rfl) rfl rfl (LO.st rfl rfl rfl (LOp.pickF rfl (gdl g1 rfl) rfl) (LO.st rfl rfl rfl (LOp.move rfl rfl) (LO.sk rfl rfl rfl rfl rfl rfl (LO.sk rfl rfl rfl rfl rfl rfl (LO.sk rfl rfl rfl rfl rfl rfl (LO.st rfl rfl rfl (LOp.pickF rfl rfl rfl) (LO.st rfl rfl rfl (LOp.move rfl rfl) (LO.sk rfl rfl rfl rfl rfl rfl ?_)))))))))))
    refine LO.sk rfl rfl rfl rfl rfl rfl (LO.sk rfl rfl rfl rfl rfl rfl (LO.sk rfl rfl rfl rfl rfl rfl (LO.sk rfl rfl rfl rfl rfl rfl (LO.sk rfl rfl rfl rfl rfl rfl (LO.sk rfl rfl rfl rfl rfl rfl (LO.sk rfl rfl rfl rfl rfl rfl (LO.sk rfl rfl rfl rfl rfl rfl (LO.sk rfl rfl rfl rfl rfl rfl (LO.sk rfl rfl rfl rfl rfl rfl (LO.st rfl rfl rfl (LOp.pickF rfl rfl rfl) (LO.st rfl rfl rfl (LOp.move rfl rfl) ?_)))))))))))
    refine LO.sk rfl rfl rfl rfl rfl rfl (LO.sk rfl rfl rfl rfl rfl rfl (LO.sk rfl rfl rfl rfl rfl rfl (LO.st rfl rfl rfl (LOp.pickF rfl rfl rfl) (LO.st rfl rfl rfl (LOp.move rfl rfl) (LO.sk rfl rfl rfl rfl rfl rfl (LO.sk rfl rfl rfl rfl rfl rfl (LO.sk rfl rfl rfl rfl rfl rfl (LO.sk rfl rfl rfl rfl rfl rfl (LO.st rfl rfl rfl (LOp.pickF rfl rfl rfl) (LO.st rfl rfl rfl (LOp.assign rfl rfl) (LO.nil ?_)))))))))))
    refine thn_n (LW.ret ?_)
    obtain rfl := Option.some.inj hr
    refine finP_ret (.one (.tmp rfl)) ?_
    exact Conv.p
def F3009 (l : List Bk) (v_at : Int) : Option Bool :=
  (F3029 ).bind fun v1 =>
  (
    bif !v1 then
      some true
    else
      bif decide ((l.length : Int) > 40) then
        some true
      else
        bif decide (v_at < 0) then
          some true
        else
          some (decide (v_at > (l.length : Int)))
  ).bind fun v2 =>
  bif v2 then
    some v1
  else
    (F3034 (Vw.mk l [])).bind fun v3 =>
    bif inL l 0 v_at then
      (F3034 (Vw.mk (l.take v_at.toNat) [])).bind fun v4 =>
      bif v3 then
        (F52 l).bind fun v5 =>
        bif v5 then
          some (!v3)
        else
          some true
      else
        bif !v4 then
          (F52 l).bind fun v6 =>
          bif v6 then
            some (!v3)
          else
            some true
        else
          some false
    else none
set_option maxRecDepth 100000 in
theorem c3009 {l : List Bk} {v_at : Int} {r_ : Bool} (hr : F3009 l v_at = some r_) : LPure Tryz.prog 9 [.slice 5 (l.map blkP), .int .i64 v_at] [.bool r_] := by
  refine LPure.start Tryz.func9 rfl rfl rfl rfl ?_
  unfold F3009 at hr
  refine LW.seq (LW.region (LOps.st rfl rfl rfl (LOp.assign rfl rfl) (LOps.nil (thn_n (LW.seq (LW.region ?_))))))
  obtain ⟨v1, h_v1, hr⟩ := bind_get hr
  refine LOps.st rfl rfl rfl (LOp.call rfl rfl rfl (by kernel_rfl) (LC.pure (c3029 h_v1) .nil)) (LOps.st rfl rfl rfl (LOp.assign rfl rfl) (LOps.nil (thn_n (LW.seq ?_))))
  obtain ⟨v2, hb_v2, ho_v2⟩ := bind_get hr
  clear hr
  refine LW.cut (E := [(0, .p (.slice 5 (l.map blkP))), (1, .p (.int .i64 v_at)), (4, .p (.bool false)), (5, .p (.bool v1)), (25, .p (.bool v2))]) (O := []) ?_ ?_
  · have hr := hb_v2
    refine LW.region (LOps.st rfl rfl rfl (LOp.move rfl rfl) (LOps.st rfl rfl rfl (LOp.not rfl rfl) (LOps.st rfl rfl rfl (LOp.move rfl rfl) ?_)))
    refine LOps.cases 11 rfl (fun (g1 : (!v1) = true) => ?_) (fun (g1 : (!v1) = false) => ?_)
    ·
      have hr := ite_t g1 hr
      refine LOps.sk rfl rfl rfl (gd g1 rfl) rfl rfl (LOps.sk rfl rfl rfl (gd g1 rfl) rfl rfl (LOps.sk rfl rfl rfl (gd g1 rfl) rfl rfl (LOps.st rfl rfl rfl (LOp.pickT rfl (gdl g1 rfl) rfl) (LOps.st rfl rfl rfl (LOp.move rfl rfl) (LOps.sk rfl rfl rfl rfl rfl rfl (LOps.sk rfl rfl rfl rfl rfl rfl (LOps.st rfl rfl rfl (LOp.pickT rfl rfl rfl) (LOps.st rfl rfl rfl (LOp.move rfl rfl) (LOps.sk rfl rfl rfl rfl rfl rfl (LOps.sk rfl rfl rfl rfl rfl rfl (LOps.sk rfl rfl rfl rfl rfl rfl ?_)))))))))))
      refine LOps.sk rfl rfl rfl rfl rfl rfl (LOps.st rfl rfl rfl (LOp.pickT rfl rfl rfl) (LOps.nil (thn_n ?_)))
      obtain rfl := Option.some.inj hr
      exact Weak.of 0 ⟨rfl, rfl, rfl, rfl, rfl, trivial⟩ rfl rfl rfl rfl
    ·
      have hr := ite_f g1 hr
      refine LOps.gd rfl rfl rfl (gd g1 rfl) rfl (LOp.move rfl rfl) (LOps.gd rfl rfl rfl (gd g1 rfl) rfl (LOp.lenM rfl rfl (by kernel_rfl)) (LOps.gd rfl rfl rfl (gd g1 rfl) rfl (LOp.bin rfl rfl rfl rfl) (LOps.st rfl rfl rfl (LOp.pickF rfl (gdl g1 rfl) rfl) (LOps.st rfl rfl rfl (LOp.move rfl rfl) ?_))))
      refine LOps.cases 16 rfl (fun (g2 : (decide ((l.length : Int) > 40)) = true) => ?_) (fun (g2 : (decide ((l.length : Int) > 40)) = false) => ?_)
      ·
        have hr := ite_t g2 hr
        refine LOps.sk rfl rfl rfl (gd g2 rfl) rfl rfl (LOps.sk rfl rfl rfl (gd g2 rfl) rfl rfl (LOps.st rfl rfl rfl (LOp.pickT rfl (gdl g2 rfl) rfl) (LOps.st rfl rfl rfl (LOp.move rfl rfl) (LOps.sk rfl rfl rfl rfl rfl rfl (LOps.sk rfl rfl rfl rfl rfl rfl (LOps.sk rfl rfl rfl rfl rfl rfl (LOps.sk rfl rfl rfl rfl rfl rfl (LOps.st rfl rfl rfl (LOp.pickT rfl rfl rfl) (LOps.nil (thn_n ?_))))))))))
        obtain rfl := Option.some.inj hr
        exact Weak.of 0 ⟨rfl, rfl, rfl, rfl, rfl, trivial⟩ rfl rfl rfl rfl
      ·
        have hr := ite_f g2 hr
        refine LOps.gd rfl rfl rfl (gd g2 rfl) rfl (LOp.move rfl rfl) (LOps.gd rfl rfl rfl (gd g2 rfl) rfl (LOp.bin rfl rfl rfl rfl) (LOps.st rfl rfl rfl (LOp.pickF rfl (gdl g2 rfl) rfl) (LOps.st rfl rfl rfl (LOp.move rfl rfl) ?_)))
        refine LOps.cases 20 rfl (fun (g3 : (decide (v_at < 0)) = true) => ?_) (fun (g3 : (decide (v_at < 0)) = false) => ?_)
        ·
          have hr := ite_t g3 hr
          refine LOps.sk rfl rfl rfl (gd g3 rfl) rfl rfl (LOps.sk rfl rfl rfl (gd g3 rfl) rfl rfl (LOps.sk rfl rfl rfl (gd g3 rfl) rfl rfl (LOps.sk rfl rfl rfl (gd g3 rfl) rfl rfl (LOps.st rfl rfl rfl (LOp.pickT rfl (gdl g3 rfl) rfl) (LOps.nil (thn_n ?_))))))
          obtain rfl := Option.some.inj hr
          exact Weak.of 0 ⟨rfl, rfl, rfl, rfl, rfl, trivial⟩ rfl rfl rfl rfl
        ·
          have hr := ite_f g3 hr
          refine LOps.gd rfl rfl rfl (gd g3 rfl) rfl (LOp.move rfl rfl) (LOps.gd rfl rfl rfl (gd g3 rfl) rfl (LOp.move rfl rfl) (LOps.gd rfl rfl rfl (gd g3 rfl) rfl (LOp.lenM rfl rfl (by kernel_rfl)) (LOps.gd rfl rfl rfl (gd g3 rfl) rfl (LOp.bin rfl rfl rfl rfl) (LOps.st rfl rfl rfl (LOp.pickF rfl (gdl g3 rfl) rfl) (LOps.nil (thn_n ?_))))))
          obtain rfl := Option.some.inj hr
          exact Weak.of 0 ⟨rfl, rfl, rfl, rfl, rfl, trivial⟩ rfl rfl rfl rfl
  · have hr := ho_v2
    clear hb_v2
    refine LW.cond rfl (fun (g4 : v2 = true) => ?_) (fun (g4 : v2 = false) => ?_)
    ·
      have hr := ite_t g4 hr
      refine LW.seq (LW.region (LOps.st rfl rfl rfl (LOp.move rfl rfl) (LOps.st rfl rfl rfl (LOp.assign rfl rfl) (LOps.nil (thn_n (LW.ret (thn_r ?_)))))))
      obtain rfl := Option.some.inj hr
      refine finP_ret (.one (.tmp rfl)) ?_
      exact Conv.p
    ·
      have hr := ite_f g4 hr
      refine LW.skip (thn_n (LW.seq (LW.region (LOps.st rfl rfl rfl (LOp.move rfl rfl) (LOps.st rfl rfl rfl (LOp.build rfl bt75 rfl rfl rfl) ?_)))))
      obtain ⟨v3, h_v3, hr⟩ := bind_get hr
      refine LOps.st rfl rfl rfl (LOp.call rfl rfl rfl (by kernel_rfl) (LC.pure (c3034 h_v3) (.cons (Conv.agg (.cons Conv.p (.cons Conv.zs .nil))) .nil))) (LOps.st rfl rfl rfl (LOp.assign rfl rfl) (LOps.nil (thn_n (LW.seq (LW.region (LOps.st rfl rfl rfl (LOp.move rfl rfl) (LOps.st rfl rfl rfl (LOp.move rfl rfl) ?_)))))))
      obtain ⟨q1, hr⟩ := grd_get hr
      refine LOps.st rfl rfl rfl (LOp.sliceHi rfl rfl rfl st27 q1) (LOps.st rfl rfl rfl (LOp.build rfl bt75 rfl rfl rfl) ?_)
      obtain ⟨v4, h_v4, hr⟩ := bind_get hr
      refine LOps.st rfl rfl rfl (LOp.call rfl rfl rfl (by kernel_rfl) (LC.pure (c3034 h_v4) (.cons (Conv.agg (.cons Conv.p (.cons Conv.zs .nil))) .nil))) (LOps.st rfl rfl rfl (LOp.assign rfl rfl) (LOps.nil (thn_n (LW.seq (LW.region (LOps.st rfl rfl rfl (LOp.move rfl rfl) (LOps.st rfl rfl rfl (LOp.move rfl rfl) ?_)))))))
      refine LOps.cases 36 rfl (fun (g5 : v3 = true) => ?_) (fun (g5 : v3 = false) => ?_)
      ·
        have hr := ite_t g5 hr
        refine LOps.sk rfl rfl rfl (gd g5 rfl) rfl rfl (LOps.sk rfl rfl rfl (gd g5 rfl) rfl rfl (LOps.st rfl rfl rfl (LOp.pickT rfl (gdl g5 rfl) rfl) (LOps.st rfl rfl rfl (LOp.move rfl rfl) (LOps.gd rfl rfl rfl rfl rfl (LOp.move rfl rfl) ?_))))
        obtain ⟨v5, h_v5, hr⟩ := bind_get hr
        refine LOps.gd rfl rfl rfl rfl rfl (LOp.call rfl rfl rfl (by kernel_rfl) (LC.pure (c52 h_v5) (.cons Conv.p .nil))) (LOps.gd rfl rfl rfl rfl rfl (LOp.move rfl rfl) ?_)
        refine LOps.cases 43 rfl (fun (g6 : v5 = true) => ?_) (fun (g6 : v5 = false) => ?_)
        ·
          have hr := ite_t g6 hr
          refine LOps.gd rfl rfl rfl (gd g6 rfl) rfl (LOp.move rfl rfl) (LOps.gd rfl rfl rfl rfl rfl (LOp.pickT rfl (gdl g6 rfl) rfl) (LOps.gd rfl rfl rfl rfl rfl (LOp.not rfl rfl) (LOps.st rfl rfl rfl (LOp.pickT rfl rfl rfl) (LOps.st rfl rfl rfl (LOp.assign rfl rfl) (LOps.nil (thn_n (LW.ret ?_)))))))
          obtain rfl := Option.some.inj hr
          refine finP_ret (.one (.tmp rfl)) ?_
          exact Conv.p
        ·
          have hr := ite_f g6 hr
          refine LOps.sk rfl rfl rfl (gd g6 rfl) rfl rfl (LOps.gd rfl rfl rfl rfl rfl (LOp.pickF rfl (gdl g6 rfl) rfl) (LOps.gd rfl rfl rfl rfl rfl (LOp.not rfl rfl) (LOps.st rfl rfl rfl (LOp.pickT rfl rfl rfl) (LOps.st rfl rfl rfl (LOp.assign rfl rfl) (LOps.nil (thn_n (LW.ret ?_)))))))
          obtain rfl := Option.some.inj hr
          refine finP_ret (.one (.tmp rfl)) ?_
          exact Conv.p
      ·
        have hr := ite_f g5 hr
        refine LOps.gd rfl rfl rfl (gd g5 rfl) rfl (LOp.move rfl rfl) (LOps.gd rfl rfl rfl (gd g5 rfl) rfl (LOp.not rfl rfl) (LOps.st rfl rfl rfl (LOp.pickF rfl (gdl g5 rfl) rfl) (LOps.st rfl rfl rfl (LOp.move rfl rfl) ?_)))
        refine LOps.cases 40 rfl (fun (g7 : (!v4) = true) => ?_) (fun (g7 : (!v4) = false) => ?_)
        ·
          have hr := ite_t g7 hr
          refine LOps.gd rfl rfl rfl (gd g7 rfl) rfl (LOp.move rfl rfl) ?_
          obtain ⟨v6, h_v6, hr⟩ := bind_get hr
          refine LOps.gd rfl rfl rfl (gd g7 rfl) rfl (LOp.call rfl rfl rfl (by kernel_rfl) (LC.pure (c52 h_v6) (.cons Conv.p .nil))) (LOps.gd rfl rfl rfl (gd g7 rfl) rfl (LOp.move rfl rfl) ?_)
          refine LOps.cases 43 rfl (fun (g8 : v6 = true) => ?_) (fun (g8 : v6 = false) => ?_)
          ·
            have hr := ite_t g8 hr
            refine LOps.gd rfl rfl rfl (gd g8 rfl) rfl (LOp.move rfl rfl) (LOps.gd rfl rfl rfl (gd g7 rfl) rfl (LOp.pickT rfl (gdl g8 rfl) rfl) (LOps.gd rfl rfl rfl (gd g7 rfl) rfl (LOp.not rfl rfl) (LOps.st rfl rfl rfl (LOp.pickT rfl (gdl g7 rfl) rfl) (LOps.st rfl rfl rfl (LOp.assign rfl rfl) (LOps.nil (thn_n (LW.ret ?_)))))))
            obtain rfl := Option.some.inj hr
            refine finP_ret (.one (.tmp rfl)) ?_
            exact Conv.p
          ·
            have hr := ite_f g8 hr
            refine LOps.sk rfl rfl rfl (gd g8 rfl) rfl rfl (LOps.gd rfl rfl rfl (gd g7 rfl) rfl (LOp.pickF rfl (gdl g8 rfl) rfl) (LOps.gd rfl rfl rfl (gd g7 rfl) rfl (LOp.not rfl rfl) (LOps.st rfl rfl rfl (LOp.pickT rfl (gdl g7 rfl) rfl) (LOps.st rfl rfl rfl (LOp.assign rfl rfl) (LOps.nil (thn_n (LW.ret ?_)))))))
            obtain rfl := Option.some.inj hr
            refine finP_ret (.one (.tmp rfl)) ?_
            exact Conv.p
        ·
          have hr := ite_f g7 hr
          refine LOps.sk rfl rfl rfl (gd g7 rfl) rfl rfl (LOps.sk rfl rfl rfl (gd g7 rfl) rfl rfl (LOps.sk rfl rfl rfl (gd g7 rfl) rfl rfl (LOps.sku rfl rfl rfl rfl rfl (LOps.sk rfl rfl rfl (gd g7 rfl) rfl rfl (LOps.sk rfl rfl rfl (gd g7 rfl) rfl rfl (LOps.st rfl rfl rfl (LOp.pickF rfl (gdl g7 rfl) rfl) (LOps.st rfl rfl rfl (LOp.assign rfl rfl) (LOps.nil (thn_n (LW.ret ?_))))))))))
          obtain rfl := Option.some.inj hr
          refine finP_ret (.one (.tmp rfl)) ?_
          exact Conv.p
structure F3010_L1 where
  i : Int
theorem F3029_eq : F3029 = some true := by kernel_rfl
def mayB (c : Cf) (b : Bk) : Bool := decide (0 ≤ prP c b.Slot ∧ prP c b.Slot = b.From ∧ nm b ≠ (0, 0))
def mayV (c : Cf) (v : Vt) : Bool := decide (v.From ∈ cmP c v.Slot)
def onlyP (c : Cf) (w : Vw) : Vw := ⟨w.B.filter (mayB c), w.V.filter (mayV c)⟩
open Go.Proofs
theorem names_nodup {l : List Bk} {m : List (ID × Int)} (h : places l = some m) : ((0, 0) :: l.map nm).Nodup := by
  rw [List.nodup_cons]
  refine ⟨fun hm => ?_, ?_⟩
  · obtain ⟨b, hb, e⟩ := List.mem_map.1 hm
    obtain ⟨i, hi⟩ := List.getElem?_of_mem hb
    have h1 := (places_inv h).names i b (List.getElem?_eq_some_iff.1 hi).1 hi
    rw [e, (places_inv h).zero] at h1
    cases h1
  · rw [List.Nodup, List.pairwise_iff_getElem]
    intro i j hi hj hij e
    simp only [List.length_map] at hi hj
    have h1 := (places_inv h).names i l[i] hi (List.getElem?_eq_getElem hi)
    have h2 := (places_inv h).names j l[j] hj (List.getElem?_eq_getElem hj)
    rw [List.getElem_map, List.getElem_map] at e
    rw [e, h2] at h1
    cases h1
    omega
end Go.Mg
