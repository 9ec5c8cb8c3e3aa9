/- A node at a tick: what it hears, counts, and stands by. A node behind a tick. Laws of nets. The example of nets. Plain laws of weights on blocks, and of the head: the program's side. Plain laws of views: lists of blocks and votes, and what may be at all. Laws of trees. TreeKids, TreeMore: plain. Plain laws of views: which views may be. Plain laws of views: what is taken. Conditions: none. -/
import Derived.Test.YtabjakfgaodocaaGreatX3
import Derived.Test.YtabjakfgaodocaaGreatX7
import Derived.Test.YtabjakfgaodocaaGreatX6
namespace Go.Mg
open Go.Proofs
structure FHear_L1 where
  t21 : Int
  w_11 : Bool
  o5 : List Of
def FHear_s1 (x : Nd) (c : Cf) (slot : Int) (v1 : (List Of)) (x1 : FHear_L1) : Option (FHear_L1 ⊕ FHear_L1) :=
  bif decide (x1.t21 < (v1.length : Int)) then
    (ix v1 x1.t21).bind fun y1 =>
    (
      bif (x.Tick.tmod 3) == 2 then
        some ((x.Tick.tmod 3) == 2)
      else
        bif y1.Slot != slot then
          some (y1.Slot != slot)
        else
          (F63 c slot).bind fun v4 =>
          some (y1.From != v4)
    ).bind fun v3 =>
    bif v3 then
      some (.inl (FHear_L1.mk (IntKind.i64.wrap (x1.t21 + 1)) x1.w_11 x1.o5))
    else
      bif (x1.o5.length : Int) == 8 then
        some (.inl (FHear_L1.mk (IntKind.i64.wrap (x1.t21 + 1)) true x1.o5))
      else
        (F3052 y1).bind fun v5 =>
        bif room x1.o5.length [v5].length 104 then
          some (.inl (FHear_L1.mk (IntKind.i64.wrap (x1.t21 + 1)) x1.w_11 (x1.o5 ++ [v5])))
        else none
  else
    some (.inr (FHear_L1.mk x1.t21 x1.w_11 x1.o5))
def FHear (l : List Of) (x : Nd) (c : Cf) (slot : Int) : Option (List Of × Bool) :=
  (F3095 [x.O, l]).bind fun v1 =>
  (iter (FHear_s1 x c slot v1) big (FHear_L1.mk 0 x.Full ([] : List Of))).bind fun v2 =>
  some (v2.o5, v2.w_11)
set_option maxRecDepth 100000 in
theorem cFHear {l : List Of} {x : Nd} {c : Cf} {slot : Int} {tl : List Of} {c0 : Cf} {n0 : Nd} {in0 : Vw} {r_ : List Of × Bool} (hr : FHear l x c slot = some r_) : LC Tryz.prog 54 [.ptr 4 0, .p (.slice 9 (l.map ofP))] [.box [.p (.slice 1 (c0.W.map i64P)), .p (.int .u64 c0.Seed), .p (.int .i64 c0.Epoch), .p (.int .i64 c0.Num), .p (.int .i64 c0.Den)], .box [.p (.int .i64 n0.No), .p (.int .i64 n0.Tick), .p (.slice 5 (n0.V.B.map blkP)), .p (.slice 4 (n0.V.V.map vtP)), .p (.slice 5 (n0.In.B.map blkP)), .p (.slice 4 (n0.In.V.map vtP)), .p (.slice 9 (n0.O.map ofP)), .p (.int .u64 n0.C.ID.1), .p (.int .u64 n0.C.ID.2), .p (.int .i64 n0.C.Slot), .p (.int .i64 n0.C.Revoked), .p (.bool n0.Full)], .box [.p (.slice 5 (in0.B.map blkP)), .p (.slice 4 (in0.V.map vtP))], .box [.p (.int .i64 0), .p (.int .i64 0), .zs, .zs, .zs, .zs, .zs, .p (.int .u64 0), .p (.int .u64 0), .p (.int .i64 0), .p (.int .i64 0), .p (.bool false)], .box [.p (.int .i64 x.No), .p (.int .i64 x.Tick), .p (.slice 5 (x.V.B.map blkP)), .p (.slice 4 (x.V.V.map vtP)), .p (.slice 5 (x.In.B.map blkP)), .p (.slice 4 (x.In.V.map vtP)), .p (.slice 9 (x.O.map ofP)), .p (.int .u64 x.C.ID.1), .p (.int .u64 x.C.ID.2), .p (.int .i64 x.C.Slot), .p (.int .i64 x.C.Revoked), .p (.bool x.Full), .p (.slice 1 (c.W.map i64P)), .p (.int .u64 c.Seed), .p (.int .i64 c.Epoch), .p (.int .i64 c.Num), .p (.int .i64 c.Den), .p (.int .i64 slot), .p (.slice 9 (tl.map ofP))]] (Is (.tup []) [.box [.p (.slice 1 (c0.W.map i64P)), .p (.int .u64 c0.Seed), .p (.int .i64 c0.Epoch), .p (.int .i64 c0.Num), .p (.int .i64 c0.Den)], .box [.p (.int .i64 n0.No), .p (.int .i64 n0.Tick), .p (.slice 5 (n0.V.B.map blkP)), .p (.slice 4 (n0.V.V.map vtP)), .p (.slice 5 (n0.In.B.map blkP)), .p (.slice 4 (n0.In.V.map vtP)), .p (.slice 9 (n0.O.map ofP)), .p (.int .u64 n0.C.ID.1), .p (.int .u64 n0.C.ID.2), .p (.int .i64 n0.C.Slot), .p (.int .i64 n0.C.Revoked), .p (.bool n0.Full)], .box [.p (.slice 5 (in0.B.map blkP)), .p (.slice 4 (in0.V.map vtP))], .box [.p (.int .i64 0), .p (.int .i64 0), .zs, .zs, .zs, .zs, .zs, .p (.int .u64 0), .p (.int .u64 0), .p (.int .i64 0), .p (.int .i64 0), .p (.bool false)], .box [.p (.int .i64 x.No), .p (.int .i64 x.Tick), .p (.slice 5 (x.V.B.map blkP)), .p (.slice 4 (x.V.V.map vtP)), .p (.slice 5 (x.In.B.map blkP)), .p (.slice 4 (x.In.V.map vtP)), .vec 9 5 (r_.1.map ofP).length 0 (r_.1.map ofP).length, .p (.int .u64 x.C.ID.1), .p (.int .u64 x.C.ID.2), .p (.int .i64 x.C.Slot), .p (.int .i64 x.C.Revoked), .p (.bool r_.2), .p (.slice 1 (c.W.map i64P)), .p (.int .u64 c.Seed), .p (.int .i64 c.Epoch), .p (.int .i64 c.Num), .p (.int .i64 c.Den), .p (.int .i64 slot), .p (.slice 9 (tl.map ofP))], .vec 9 (r_.1.map ofP)]) := by
  refine LC.start Tryz.func54 rfl rfl rfl ?_
  unfold FHear at hr
  refine zQ (zR (zM rfl (zS rfl rfl rfl (LOp.nilCheck rfl rfl) (zS rfl rfl rfl (zA rfl rfl ft3090_0) (zS rfl rfl rfl (zA rfl rfl ft1071_4) (zS rfl rfl rfl (zD rfl rfl rfl vt1036 rfl rfl) (zM rfl (zS rfl rfl rfl (LOp.buildSlice rfl st3151 rfl rfl rfl rfl rfl) ?_))))))))
  obtain ⟨v1, h_v1, hr⟩ := zB hr
  refine zS rfl rfl rfl (zC rfl rfl rfl (by kernel_rfl) (LC.pure (c3095 h_v1) (.cons Conv.p .nil))) (zM rfl (zN (zT (zQ (zR (zM rfl (zS rfl rfl rfl (LOp.nilCheck rfl rfl) (zS rfl rfl rfl (zA rfl rfl ft3090_0) (zS rfl rfl rfl (zA rfl rfl ft1071_4) (zS rfl rfl rfl (LOp.store rfl rfl rfl rfl vt1036 rfl rfl rfl rfl) (zN ?_)))))))))))
  refine zT (zQ (LW.ent (Ent.lazyCell (i := 4) (j := 6) (m := 9) rfl rfl rfl rfl rfl rfl) (zR (zM rfl (zS rfl rfl rfl (LOp.lenM rfl rfl (by kernel_rfl)) (zM rfl (zN (zT ?_))))))))
  obtain ⟨v2, hb_v2, ho_v2⟩ := zB hr
  clear hr
  refine LW.tail (E := []) (O := [.box [.p (.slice 1 (c0.W.map i64P)), .p (.int .u64 c0.Seed), .p (.int .i64 c0.Epoch), .p (.int .i64 c0.Num), .p (.int .i64 c0.Den)], .box [.p (.int .i64 n0.No), .p (.int .i64 n0.Tick), .p (.slice 5 (n0.V.B.map blkP)), .p (.slice 4 (n0.V.V.map vtP)), .p (.slice 5 (n0.In.B.map blkP)), .p (.slice 4 (n0.In.V.map vtP)), .p (.slice 9 (n0.O.map ofP)), .p (.int .u64 n0.C.ID.1), .p (.int .u64 n0.C.ID.2), .p (.int .i64 n0.C.Slot), .p (.int .i64 n0.C.Revoked), .p (.bool n0.Full)], .box [.p (.slice 5 (in0.B.map blkP)), .p (.slice 4 (in0.V.map vtP))], .box [.p (.int .i64 0), .p (.int .i64 0), .zs, .zs, .zs, .zs, .zs, .p (.int .u64 0), .p (.int .u64 0), .p (.int .i64 0), .p (.int .i64 0), .p (.bool false)], .box [.p (.int .i64 x.No), .p (.int .i64 x.Tick), .p (.slice 5 (x.V.B.map blkP)), .p (.slice 4 (x.V.V.map vtP)), .p (.slice 5 (x.In.B.map blkP)), .p (.slice 4 (x.In.V.map vtP)), .vec 9 5 (v2.o5.map ofP).length 0 (v2.o5.map ofP).length, .p (.int .u64 x.C.ID.1), .p (.int .u64 x.C.ID.2), .p (.int .i64 x.C.Slot), .p (.int .i64 x.C.Revoked), .p (.bool v2.w_11), .p (.slice 1 (c.W.map i64P)), .p (.int .u64 c.Seed), .p (.int .i64 c.Epoch), .p (.int .i64 c.Num), .p (.int .i64 c.Den), .p (.int .i64 slot), .p (.slice 9 (tl.map ofP))], .vec 9 (v2.o5.map ofP)]) ?_ (fun env_v2 H_v2 hw_v2 => ?_)
  · refine LW.block ?_
    refine LW.iterB (E := fun x1 : FHear_L1 => [(0, .ptr 4 0), (19, .p (.slice 9 (v1.map ofP))), (20, .p (.int .i64 (v1.length : Int))), (21, .p (.int .i64 x1.t21))]) (O := fun x1 => [.box [.p (.slice 1 (c0.W.map i64P)), .p (.int .u64 c0.Seed), .p (.int .i64 c0.Epoch), .p (.int .i64 c0.Num), .p (.int .i64 c0.Den)], .box [.p (.int .i64 n0.No), .p (.int .i64 n0.Tick), .p (.slice 5 (n0.V.B.map blkP)), .p (.slice 4 (n0.V.V.map vtP)), .p (.slice 5 (n0.In.B.map blkP)), .p (.slice 4 (n0.In.V.map vtP)), .p (.slice 9 (n0.O.map ofP)), .p (.int .u64 n0.C.ID.1), .p (.int .u64 n0.C.ID.2), .p (.int .i64 n0.C.Slot), .p (.int .i64 n0.C.Revoked), .p (.bool n0.Full)], .box [.p (.slice 5 (in0.B.map blkP)), .p (.slice 4 (in0.V.map vtP))], .box [.p (.int .i64 0), .p (.int .i64 0), .zs, .zs, .zs, .zs, .zs, .p (.int .u64 0), .p (.int .u64 0), .p (.int .i64 0), .p (.int .i64 0), .p (.bool false)], .box [.p (.int .i64 x.No), .p (.int .i64 x.Tick), .p (.slice 5 (x.V.B.map blkP)), .p (.slice 4 (x.V.V.map vtP)), .p (.slice 5 (x.In.B.map blkP)), .p (.slice 4 (x.In.V.map vtP)), .vec 9 5 (x1.o5.map ofP).length 0 (x1.o5.map ofP).length, .p (.int .u64 x.C.ID.1), .p (.int .u64 x.C.ID.2), .p (.int .i64 x.C.Slot), .p (.int .i64 x.C.Revoked), .p (.bool x1.w_11), .p (.slice 1 (c.W.map i64P)), .p (.int .u64 c.Seed), .p (.int .i64 c.Epoch), .p (.int .i64 c.Num), .p (.int .i64 c.Den), .p (.int .i64 slot), .p (.slice 9 (tl.map ofP))], .vec 9 (x1.o5.map ofP)]) hb_v2 (zW 6 ⟨rfl, rfl, rfl, rfl, trivial⟩ rfl rfl rfl rfl) (fun x1 z_x1 hr hb_x1 => ?_)
    unfold FHear_s1 at hr
    refine zQ (zR (zS rfl rfl rfl (LOp.bin rfl rfl rfl rfl) (zN (zT (zQ ?_)))))
    refine zX rfl (fun (g1 : (decide (x1.t21 < (v1.length : Int))) = true) => ?_) (fun (g1 : (decide (x1.t21 < (v1.length : Int))) = false) => ?_)
    ·
      have hr := zI g1 hr
      refine LW.skip (zT (zQ (LW.block (zQ (zR ?_)))))
      obtain ⟨y1, h_y1, hr⟩ := zB hr
      refine zS rfl rfl rfl (LOp.indexAddrX rfl rfl rfl st1036 h_y1 rfl) (zS rfl rfl rfl (LOp.loadC rfl rfl rfl vt1077 rfl rfl) (zS rfl rfl rfl (LOp.alloc rfl zt1077 rfl rfl) (zS rfl rfl rfl (LOp.store rfl rfl rfl rfl vt1077 rfl rfl rfl rfl) (zN (zT (LW.block ?_))))))
      obtain ⟨v3, hb_v3, ho_v3⟩ := zB hr
      clear hr
      refine LW.cut (E := [(0, .ptr 4 0), (6, .ptr 6 0), (19, .p (.slice 9 (v1.map ofP))), (20, .p (.int .i64 (v1.length : Int))), (21, .p (.int .i64 x1.t21)), (38, .p (.bool v3))]) (O := [.box [.p (.slice 1 (c0.W.map i64P)), .p (.int .u64 c0.Seed), .p (.int .i64 c0.Epoch), .p (.int .i64 c0.Num), .p (.int .i64 c0.Den)], .box [.p (.int .i64 n0.No), .p (.int .i64 n0.Tick), .p (.slice 5 (n0.V.B.map blkP)), .p (.slice 4 (n0.V.V.map vtP)), .p (.slice 5 (n0.In.B.map blkP)), .p (.slice 4 (n0.In.V.map vtP)), .p (.slice 9 (n0.O.map ofP)), .p (.int .u64 n0.C.ID.1), .p (.int .u64 n0.C.ID.2), .p (.int .i64 n0.C.Slot), .p (.int .i64 n0.C.Revoked), .p (.bool n0.Full)], .box [.p (.slice 5 (in0.B.map blkP)), .p (.slice 4 (in0.V.map vtP))], .box [.p (.int .i64 0), .p (.int .i64 0), .zs, .zs, .zs, .zs, .zs, .p (.int .u64 0), .p (.int .u64 0), .p (.int .i64 0), .p (.int .i64 0), .p (.bool false)], .box [.p (.int .i64 x.No), .p (.int .i64 x.Tick), .p (.slice 5 (x.V.B.map blkP)), .p (.slice 4 (x.V.V.map vtP)), .p (.slice 5 (x.In.B.map blkP)), .p (.slice 4 (x.In.V.map vtP)), .vec 9 5 (x1.o5.map ofP).length 0 (x1.o5.map ofP).length, .p (.int .u64 x.C.ID.1), .p (.int .u64 x.C.ID.2), .p (.int .i64 x.C.Slot), .p (.int .i64 x.C.Revoked), .p (.bool x1.w_11), .p (.slice 1 (c.W.map i64P)), .p (.int .u64 c.Seed), .p (.int .i64 c.Epoch), .p (.int .i64 c.Num), .p (.int .i64 c.Den), .p (.int .i64 slot), .p (.slice 9 (tl.map ofP))], .vec 9 (x1.o5.map ofP), .box [.p (.int .i64 y1.Slot), .p (.int .i64 y1.From), .p (.int .i64 y1.B.Slot), .p (.int .i64 y1.B.From), .p (.int .u64 y1.B.Parent.1), .p (.int .u64 y1.B.Parent.2), .p (.int .u64 y1.B.Salt), .p (.slice 5 (y1.V.B.map blkP)), .p (.slice 4 (y1.V.V.map vtP))]]) ?_ ?_
      · have hr := hb_v3
        refine zQ (zR (zM rfl (zS rfl rfl rfl (LOp.nilCheck rfl rfl) (zS rfl rfl rfl (zA rfl rfl ft3090_0) (zS rfl rfl rfl (zA rfl rfl ft1071_1) (zS rfl rfl rfl (zD rfl rfl rfl vt3 rfl rfl) (zS rfl rfl rfl (LOp.rem rfl rfl rfl (by decide)) (zS rfl rfl rfl (LOp.bin rfl rfl rfl rfl) (zM rfl (zN (zT ?_)))))))))))
        refine zX rfl (fun (g2 : ((x.Tick.tmod 3) == 2) = true) => ?_) (fun (g2 : ((x.Tick.tmod 3) == 2) = false) => ?_)
        ·
          have hr := zI g2 hr
          refine LW.skip (zT ?_)
          obtain rfl := zJ hr
          exact zW 7 ⟨rfl, rfl, rfl, rfl, rfl, rfl, trivial⟩ rfl rfl rfl rfl
        ·
          have hr := zO g2 hr
          refine zQ (LW.draw (by kernel_rfl) (by kernel_rfl) (zE rfl rfl rfl (zA rfl rfl ft1077_0) (zE rfl rfl rfl (zD rfl rfl rfl vt3 rfl rfl) (zH rfl (zE rfl rfl rfl (LOp.nilCheck rfl rfl) (zE rfl rfl rfl (zA rfl rfl ft3090_2) (zE rfl rfl rfl (zD rfl rfl rfl vt3 rfl rfl) (zE rfl rfl rfl (LOp.bin rfl rfl rfl rfl) (zH rfl (LO.nil (zT ?_)))))))))))
          refine zX rfl (fun (g3 : (y1.Slot != slot) = true) => ?_) (fun (g3 : (y1.Slot != slot) = false) => ?_)
          ·
            have hr := zI g3 hr
            refine LW.skip (zT ?_)
            obtain rfl := zJ hr
            exact zW 7 ⟨rfl, rfl, rfl, rfl, rfl, rfl, trivial⟩ rfl rfl rfl rfl
          ·
            have hr := zO g3 hr
            refine LW.draw (by kernel_rfl) (by kernel_rfl) (zE rfl rfl rfl (zA rfl rfl ft1077_1) (zE rfl rfl rfl (zD rfl rfl rfl vt3 rfl rfl) (zH rfl (zE rfl rfl rfl (LOp.nilCheck rfl rfl) (zE rfl rfl rfl (zA rfl rfl ft3090_1) (zE rfl rfl rfl (zD rfl rfl rfl vt55 rfl rfl) (zH rfl (zE rfl rfl rfl (LOp.nilCheck rfl rfl) (zE rfl rfl rfl (zA rfl rfl ft3090_2) (zE rfl rfl rfl (zD rfl rfl rfl vt3 rfl rfl) ?_))))))))))
            obtain ⟨v4, h_v4, hr⟩ := zB hr
            refine zE rfl rfl rfl (zC rfl rfl rfl (by kernel_rfl) (LC.pure (c63 h_v4) (.cons Conv.p (.cons Conv.p .nil)))) (zE rfl rfl rfl (LOp.bin rfl rfl rfl rfl) (zH rfl (LO.nil (zT ?_))))
            obtain rfl := zJ hr
            exact zW 7 ⟨rfl, rfl, rfl, rfl, rfl, rfl, trivial⟩ rfl rfl rfl rfl
      · have hr := ho_v3
        clear hb_v3
        refine zX rfl (fun (g4 : v3 = true) => ?_) (fun (g4 : v3 = false) => ?_)
        ·
          have hr := zI g4 hr
          refine LW.skip (inBlk_n (inBlk_n (zT (zR (zS rfl rfl rfl (LOp.bin rfl rfl rfl rfl) (zM rfl (zN (zT ?_))))))))
          obtain rfl := zJ hr
          exact ⟨_, rfl, zW 6 ⟨rfl, rfl, rfl, rfl, trivial⟩ rfl rfl rfl rfl⟩
        ·
          have hr := zO g4 hr
          refine zQ (zR (zM rfl (zS rfl rfl rfl (LOp.nilCheck rfl rfl) (zS rfl rfl rfl (zA rfl rfl ft3090_0) (zS rfl rfl rfl (zA rfl rfl ft1071_4) (zS rfl rfl rfl (zD rfl rfl rfl vt1036 rfl rfl) (zS rfl rfl rfl (LOp.lenVM rfl rfl rfl (by kernel_rfl)) (zS rfl rfl rfl (LOp.bin rfl rfl rfl rfl) (zM rfl (zN (zT ?_)))))))))))
          refine zX rfl (fun (g5 : ((x1.o5.length : Int) == 8) = true) => ?_) (fun (g5 : ((x1.o5.length : Int) == 8) = false) => ?_)
          ·
            have hr := zI g5 hr
            refine zR (zM rfl (zS rfl rfl rfl (LOp.nilCheck rfl rfl) (zS rfl rfl rfl (zA rfl rfl ft3090_0) (zS rfl rfl rfl (zA rfl rfl ft1071_6) (zS rfl rfl rfl (LOp.store rfl rfl rfl rfl vt4 rfl rfl rfl rfl) (zN (inBlk_n (inBlk_n (zT (zR (zS rfl rfl rfl (LOp.bin rfl rfl rfl rfl) ?_)))))))))))
            refine zM rfl (zN (zT ?_))
            obtain rfl := zJ hr
            exact ⟨_, rfl, zW 6 ⟨rfl, rfl, rfl, rfl, trivial⟩ rfl rfl rfl rfl⟩
          ·
            have hr := zO g5 hr
            refine LW.drawW (by kernel_rfl) (by kernel_rfl) (zK rfl (zK rfl ?_))
            refine zF (F := []) (s := none) rfl rfl rfl (fun H _ => LOp.nilCheck rfl rfl) rfl ?_
            refine zF (F := []) (s := none) rfl rfl rfl (fun H _ => zA rfl rfl ft3090_0) rfl ?_
            refine zF (F := []) (s := none) rfl rfl rfl (fun H _ => zA rfl rfl ft1071_4) rfl ?_
            refine zF rfl rfl rfl (LAt.load rfl rfl rfl vt1036 rfl rfl) rfl (zF rfl rfl rfl (LAt.load rfl rfl rfl vt1077 rfl rfl) rfl ?_)
            obtain ⟨v5, h_v5, hr⟩ := zB hr
            refine zF (F := []) (s := none) rfl rfl rfl (fun H _ => zC rfl rfl rfl (by kernel_rfl) (LC.pure (c3052 h_v5) (.cons Conv.p .nil))) rfl ?_
            refine zF (F := []) (s := none) rfl rfl rfl (fun H _ => LOp.buildSlice rfl st1036 rfl rfl rfl rfl rfl) rfl ?_
            obtain ⟨q1, hr⟩ := zG hr
            refine zF rfl rfl rfl (LAt.appendX ofP x1.o5 [v5] rfl rfl rfl rfl rfl st1036 q1) rfl ?_
            refine zF (F := []) (s := none) rfl rfl rfl (fun H _ => LOp.nilCheck rfl rfl) rfl ?_
            refine zF (F := []) (s := none) rfl rfl rfl (fun H _ => zA rfl rfl ft3090_0) rfl ?_
            refine zF (F := []) (s := none) rfl rfl rfl (fun H _ => zA rfl rfl ft1071_4) rfl ?_
            refine zF rfl rfl rfl (LAt.store rfl rfl rfl rfl vt1036 rfl rfl rfl) rfl ?_
            refine LF.nil ⟨by kernel_rfl, ?_⟩
            refine inBlk_n (inBlk_n (zT (zR (zS rfl rfl rfl (LOp.bin rfl rfl rfl rfl) (zM rfl (zN (zT ?_)))))))
            obtain rfl := zJ hr
            exact ⟨_, rfl, zW 6 ⟨rfl, rfl, rfl, rfl, trivial⟩ rfl rfl rfl rfl⟩
    ·
      have hr := zO g1 hr
      refine LW.exit (thn_e (thn_e (inBlk_self (zT ?_))))
      obtain rfl := zJ hr
      have hr := congrArg some (hb_x1 _ rfl)
      obtain rfl := zJ hr
      exact zW 6 trivial rfl rfl rfl rfl
  · have hr := ho_v2
    clear hb_v2
    obtain rfl := zJ hr
    exact fin_endW hw_v2 .none ⟨rfl, rfl⟩
def FCount (inp : Vw) (c : Cf) (slot : Int) (v : Vw) (full : Bool) : Option (Vw × Vw × Bool) :=
  (F90 c v inp slot).bind fun v1 =>
  bif full then
    some (v1.2.1, v1.1, true)
  else
    some (v1.2.1, v1.1, v1.2.2)
set_option maxRecDepth 100000 in
theorem cFCount {inp : Vw} {c : Cf} {slot : Int} {v : Vw} {full : Bool} {x : Nd} {o : List Of} {tl : List Of} {c0 : Cf} {n0 : Nd} {in0 : Vw} {r_ : Vw × Vw × Bool} (hr : FCount inp c slot v full = some r_) : LC Tryz.prog 96 [.ptr 4 0, .p (vwP inp)] [.box [.p (.slice 1 (c0.W.map i64P)), .p (.int .u64 c0.Seed), .p (.int .i64 c0.Epoch), .p (.int .i64 c0.Num), .p (.int .i64 c0.Den)], .box [.p (.int .i64 n0.No), .p (.int .i64 n0.Tick), .p (.slice 5 (n0.V.B.map blkP)), .p (.slice 4 (n0.V.V.map vtP)), .p (.slice 5 (n0.In.B.map blkP)), .p (.slice 4 (n0.In.V.map vtP)), .p (.slice 9 (n0.O.map ofP)), .p (.int .u64 n0.C.ID.1), .p (.int .u64 n0.C.ID.2), .p (.int .i64 n0.C.Slot), .p (.int .i64 n0.C.Revoked), .p (.bool n0.Full)], .box [.p (.slice 5 (in0.B.map blkP)), .p (.slice 4 (in0.V.map vtP))], .box [.p (.int .i64 0), .p (.int .i64 0), .zs, .zs, .zs, .zs, .zs, .p (.int .u64 0), .p (.int .u64 0), .p (.int .i64 0), .p (.int .i64 0), .p (.bool false)], .box [.p (.int .i64 x.No), .p (.int .i64 x.Tick), .p (.slice 5 (v.B.map blkP)), .p (.slice 4 (v.V.map vtP)), .p (.slice 5 (x.In.B.map blkP)), .p (.slice 4 (x.In.V.map vtP)), .vec 9 5 (o.map ofP).length 0 (o.map ofP).length, .p (.int .u64 x.C.ID.1), .p (.int .u64 x.C.ID.2), .p (.int .i64 x.C.Slot), .p (.int .i64 x.C.Revoked), .p (.bool full), .p (.slice 1 (c.W.map i64P)), .p (.int .u64 c.Seed), .p (.int .i64 c.Epoch), .p (.int .i64 c.Num), .p (.int .i64 c.Den), .p (.int .i64 slot), .p (.slice 9 (tl.map ofP))], .vec 9 (o.map ofP)] (Is (.p (vwP r_.1)) [.box [.p (.slice 1 (c0.W.map i64P)), .p (.int .u64 c0.Seed), .p (.int .i64 c0.Epoch), .p (.int .i64 c0.Num), .p (.int .i64 c0.Den)], .box [.p (.int .i64 n0.No), .p (.int .i64 n0.Tick), .p (.slice 5 (n0.V.B.map blkP)), .p (.slice 4 (n0.V.V.map vtP)), .p (.slice 5 (n0.In.B.map blkP)), .p (.slice 4 (n0.In.V.map vtP)), .p (.slice 9 (n0.O.map ofP)), .p (.int .u64 n0.C.ID.1), .p (.int .u64 n0.C.ID.2), .p (.int .i64 n0.C.Slot), .p (.int .i64 n0.C.Revoked), .p (.bool n0.Full)], .box [.p (.slice 5 (in0.B.map blkP)), .p (.slice 4 (in0.V.map vtP))], .box [.p (.int .i64 0), .p (.int .i64 0), .zs, .zs, .zs, .zs, .zs, .p (.int .u64 0), .p (.int .u64 0), .p (.int .i64 0), .p (.int .i64 0), .p (.bool false)], .box [.p (.int .i64 x.No), .p (.int .i64 x.Tick), .p (.slice 5 (r_.2.1.B.map blkP)), .p (.slice 4 (r_.2.1.V.map vtP)), .p (.slice 5 (x.In.B.map blkP)), .p (.slice 4 (x.In.V.map vtP)), .vec 9 5 (o.map ofP).length 0 (o.map ofP).length, .p (.int .u64 x.C.ID.1), .p (.int .u64 x.C.ID.2), .p (.int .i64 x.C.Slot), .p (.int .i64 x.C.Revoked), .p (.bool r_.2.2), .p (.slice 1 (c.W.map i64P)), .p (.int .u64 c.Seed), .p (.int .i64 c.Epoch), .p (.int .i64 c.Num), .p (.int .i64 c.Den), .p (.int .i64 slot), .p (.slice 9 (tl.map ofP))], .vec 9 (o.map ofP)]) := by
  refine LC.start Tryz.func96 rfl rfl rfl ?_
  unfold FCount at hr
  refine zQ (zR (zS rfl rfl rfl (LOp.box rfl rfl rfl rfl rfl) (zS rfl rfl rfl (LOp.alloc rfl zt75 rfl rfl) (zN (zT (zQ (LW.ent (Ent.slot rfl) (LW.ent (Ent.slot rfl) (LW.drawW (by kernel_rfl) (by kernel_rfl) (zK rfl ?_))))))))))
  refine zF (F := []) (s := none) rfl rfl rfl (fun H _ => LOp.nilCheck rfl rfl) rfl ?_
  refine zF (F := []) (s := none) rfl rfl rfl (fun H _ => zA rfl rfl ft3090_1) rfl ?_
  refine zF rfl rfl rfl (LAt.load rfl rfl rfl vt55 rfl rfl) rfl (zK rfl ?_)
  refine zF (F := []) (s := none) rfl rfl rfl (fun H _ => LOp.nilCheck rfl rfl) rfl ?_
  refine zF (F := []) (s := none) rfl rfl rfl (fun H _ => zA rfl rfl ft3090_0) rfl ?_
  refine zF (F := []) (s := none) rfl rfl rfl (fun H _ => zA rfl rfl ft1071_2) rfl ?_
  refine zF rfl rfl rfl (LAt.load rfl rfl rfl vt75 rfl rfl) rfl (zF rfl rfl rfl (LAt.load rfl rfl rfl vt75 rfl rfl) rfl (zK rfl ?_))
  refine zF (F := []) (s := none) rfl rfl rfl (fun H _ => LOp.nilCheck rfl rfl) rfl ?_
  refine zF (F := []) (s := none) rfl rfl rfl (fun H _ => zA rfl rfl ft3090_2) rfl ?_
  refine zF rfl rfl rfl (LAt.load rfl rfl rfl vt3 rfl rfl) rfl ?_
  obtain ⟨v1, h_v1, hr⟩ := zB hr
  refine zF (F := []) (s := none) rfl rfl rfl (fun H _ => zC rfl rfl rfl (by kernel_rfl) (LC.pure (c90 h_v1) (.cons Conv.p (.cons Conv.p (.cons Conv.p (.cons Conv.p .nil)))))) rfl ?_
  refine zK rfl ?_
  refine zF (F := []) (s := none) rfl rfl rfl (fun H _ => LOp.extract rfl rfl rfl) rfl ?_
  refine zF (F := []) (s := none) rfl rfl rfl (fun H _ => LOp.extract rfl rfl rfl) rfl ?_
  refine zF (F := []) (s := none) rfl rfl rfl (fun H _ => LOp.extract rfl rfl rfl) rfl ?_
  refine zF rfl rfl rfl (LAt.alloc rfl zt75 (id := 8) rfl) rfl (zF rfl rfl rfl (LAt.alloc rfl zt75 (id := 9) rfl) rfl (zF rfl rfl rfl (LAt.store rfl rfl rfl rfl vt75 rfl rfl rfl) rfl (zF rfl rfl rfl (LAt.store rfl rfl rfl rfl vt75 rfl rfl rfl) rfl (zK rfl ?_))))
  refine LF.nil ⟨by kernel_rfl, ?_⟩
  refine zT (zQ (LW.drawW (by kernel_rfl) (by kernel_rfl) (zK rfl (zK rfl (zF rfl rfl rfl (LAt.load rfl rfl rfl vt75 rfl rfl) rfl (zK rfl ?_))))))
  refine zF (F := []) (s := none) rfl rfl rfl (fun H _ => LOp.nilCheck rfl rfl) rfl ?_
  refine zF (F := []) (s := none) rfl rfl rfl (fun H _ => zA rfl rfl ft3090_0) rfl ?_
  refine zF (F := []) (s := none) rfl rfl rfl (fun H _ => zA rfl rfl ft1071_6) rfl ?_
  refine zF rfl rfl rfl (LAt.load rfl rfl rfl vt4 rfl rfl) rfl (zK rfl ?_)
  refine LF.cases 35 rfl (fun (g1 : full = true) => ?_) (fun (g1 : full = false) => ?_)
  ·
    have hr := zI g1 hr
    refine LF.sk rfl rfl rfl (gd g1 rfl) rfl rfl ?_
    refine zF (F := []) (s := none) rfl rfl rfl (fun H _ => LOp.pickT rfl (gdl g1 rfl) rfl) rfl ?_
    refine zF (F := []) (s := none) rfl rfl rfl (fun H _ => LOp.nilCheck rfl rfl) rfl ?_
    refine zF (F := []) (s := none) rfl rfl rfl (fun H _ => zA rfl rfl ft3090_0) rfl ?_
    refine zF (F := []) (s := none) rfl rfl rfl (fun H _ => zA rfl rfl ft1071_2) rfl ?_
    refine zF rfl rfl rfl (LAt.store rfl rfl rfl rfl vt75 rfl rfl rfl) rfl ?_
    refine zF (F := []) (s := none) rfl rfl rfl (fun H _ => LOp.nilCheck rfl rfl) rfl ?_
    refine zF (F := []) (s := none) rfl rfl rfl (fun H _ => zA rfl rfl ft3090_0) rfl ?_
    refine zF (F := []) (s := none) rfl rfl rfl (fun H _ => zA rfl rfl ft1071_6) rfl ?_
    refine zF rfl rfl rfl (LAt.store rfl rfl rfl rfl vt4 rfl rfl rfl) rfl ?_
    refine LF.nil ⟨by kernel_rfl, ?_⟩
    refine zT (zQ (zR (zS rfl rfl rfl (zD rfl rfl rfl vt75 rfl rfl) (zS rfl rfl rfl (LOp.store rfl rfl rfl rfl vt75 rfl rfl rfl rfl) (zN (zT (LW.ret ?_)))))))
    obtain rfl := zJ hr
    refine fin_retV (env' := []) (H' := [.box [.p (.slice 1 (c0.W.map i64P)), .p (.int .u64 c0.Seed), .p (.int .i64 c0.Epoch), .p (.int .i64 c0.Num), .p (.int .i64 c0.Den)], .box [.p (.int .i64 n0.No), .p (.int .i64 n0.Tick), .p (.slice 5 (n0.V.B.map blkP)), .p (.slice 4 (n0.V.V.map vtP)), .p (.slice 5 (n0.In.B.map blkP)), .p (.slice 4 (n0.In.V.map vtP)), .p (.slice 9 (n0.O.map ofP)), .p (.int .u64 n0.C.ID.1), .p (.int .u64 n0.C.ID.2), .p (.int .i64 n0.C.Slot), .p (.int .i64 n0.C.Revoked), .p (.bool n0.Full)], .box [.p (.slice 5 (in0.B.map blkP)), .p (.slice 4 (in0.V.map vtP))], .box [.p (.int .i64 0), .p (.int .i64 0), .zs, .zs, .zs, .zs, .zs, .p (.int .u64 0), .p (.int .u64 0), .p (.int .i64 0), .p (.int .i64 0), .p (.bool false)], .box [.p (.int .i64 x.No), .p (.int .i64 x.Tick), .p (.slice 5 (v1.1.B.map blkP)), .p (.slice 4 (v1.1.V.map vtP)), .p (.slice 5 (x.In.B.map blkP)), .p (.slice 4 (x.In.V.map vtP)), .vec 9 5 (o.map ofP).length 0 (o.map ofP).length, .p (.int .u64 x.C.ID.1), .p (.int .u64 x.C.ID.2), .p (.int .i64 x.C.Slot), .p (.int .i64 x.C.Revoked), .p (.bool true), .p (.slice 1 (c.W.map i64P)), .p (.int .u64 c.Seed), .p (.int .i64 c.Epoch), .p (.int .i64 c.Num), .p (.int .i64 c.Den), .p (.int .i64 slot), .p (.slice 9 (tl.map ofP))], .vec 9 (o.map ofP)]) (zW 6 trivial rfl rfl rfl rfl) (.one (.cellAgg rfl rfl (by kernel_rfl) rfl)) rfl ?_
    exact ⟨rfl, rfl⟩
  ·
    have hr := zO g1 hr
    refine LF.gd (F := []) (s := none) rfl rfl rfl (gd g1 rfl) rfl (fun H _ => LOp.move rfl rfl) rfl ?_
    refine zF (F := []) (s := none) rfl rfl rfl (fun H _ => LOp.pickF rfl (gdl g1 rfl) rfl) rfl ?_
    refine zF (F := []) (s := none) rfl rfl rfl (fun H _ => LOp.nilCheck rfl rfl) rfl ?_
    refine zF (F := []) (s := none) rfl rfl rfl (fun H _ => zA rfl rfl ft3090_0) rfl ?_
    refine zF (F := []) (s := none) rfl rfl rfl (fun H _ => zA rfl rfl ft1071_2) rfl ?_
    refine zF rfl rfl rfl (LAt.store rfl rfl rfl rfl vt75 rfl rfl rfl) rfl ?_
    refine zF (F := []) (s := none) rfl rfl rfl (fun H _ => LOp.nilCheck rfl rfl) rfl ?_
    refine zF (F := []) (s := none) rfl rfl rfl (fun H _ => zA rfl rfl ft3090_0) rfl ?_
    refine zF (F := []) (s := none) rfl rfl rfl (fun H _ => zA rfl rfl ft1071_6) rfl ?_
    refine zF rfl rfl rfl (LAt.store rfl rfl rfl rfl vt4 rfl rfl rfl) rfl ?_
    refine LF.nil ⟨by kernel_rfl, ?_⟩
    refine zT (zQ (zR (zS rfl rfl rfl (zD rfl rfl rfl vt75 rfl rfl) (zS rfl rfl rfl (LOp.store rfl rfl rfl rfl vt75 rfl rfl rfl rfl) (zN (zT (LW.ret ?_)))))))
    obtain rfl := zJ hr
    refine fin_retV (env' := []) (H' := [.box [.p (.slice 1 (c0.W.map i64P)), .p (.int .u64 c0.Seed), .p (.int .i64 c0.Epoch), .p (.int .i64 c0.Num), .p (.int .i64 c0.Den)], .box [.p (.int .i64 n0.No), .p (.int .i64 n0.Tick), .p (.slice 5 (n0.V.B.map blkP)), .p (.slice 4 (n0.V.V.map vtP)), .p (.slice 5 (n0.In.B.map blkP)), .p (.slice 4 (n0.In.V.map vtP)), .p (.slice 9 (n0.O.map ofP)), .p (.int .u64 n0.C.ID.1), .p (.int .u64 n0.C.ID.2), .p (.int .i64 n0.C.Slot), .p (.int .i64 n0.C.Revoked), .p (.bool n0.Full)], .box [.p (.slice 5 (in0.B.map blkP)), .p (.slice 4 (in0.V.map vtP))], .box [.p (.int .i64 0), .p (.int .i64 0), .zs, .zs, .zs, .zs, .zs, .p (.int .u64 0), .p (.int .u64 0), .p (.int .i64 0), .p (.int .i64 0), .p (.bool false)], .box [.p (.int .i64 x.No), .p (.int .i64 x.Tick), .p (.slice 5 (v1.1.B.map blkP)), .p (.slice 4 (v1.1.V.map vtP)), .p (.slice 5 (x.In.B.map blkP)), .p (.slice 4 (x.In.V.map vtP)), .vec 9 5 (o.map ofP).length 0 (o.map ofP).length, .p (.int .u64 x.C.ID.1), .p (.int .u64 x.C.ID.2), .p (.int .i64 x.C.Slot), .p (.int .i64 x.C.Revoked), .p (.bool v1.2.2), .p (.slice 1 (c.W.map i64P)), .p (.int .u64 c.Seed), .p (.int .i64 c.Epoch), .p (.int .i64 c.Num), .p (.int .i64 c.Den), .p (.int .i64 slot), .p (.slice 9 (tl.map ofP))], .vec 9 (o.map ofP)]) (zW 6 trivial rfl rfl rfl rfl) (.one (.cellAgg rfl rfl (by kernel_rfl) rfl)) rfl ?_
    exact ⟨rfl, rfl⟩
def FWhead (c : Cf) (v : Vw) (s : Int) : Option ID :=
  (F1048 c v s).bind fun v1 =>
  some v1
set_option maxRecDepth 100000 in
theorem cFWhead {c : Cf} {v : Vw} {s : Int} {x : Nd} {slot : Int} {o : List Of} {tl : List Of} {c0 : Cf} {n0 : Nd} {in0 : Vw} {r_ : ID} (hr : FWhead c v s = some r_) : LC Tryz.prog 97 [.ptr 4 0, .p (.int .i64 s)] [.box [.p (.slice 1 (c0.W.map i64P)), .p (.int .u64 c0.Seed), .p (.int .i64 c0.Epoch), .p (.int .i64 c0.Num), .p (.int .i64 c0.Den)], .box [.p (.int .i64 n0.No), .p (.int .i64 n0.Tick), .p (.slice 5 (n0.V.B.map blkP)), .p (.slice 4 (n0.V.V.map vtP)), .p (.slice 5 (n0.In.B.map blkP)), .p (.slice 4 (n0.In.V.map vtP)), .p (.slice 9 (n0.O.map ofP)), .p (.int .u64 n0.C.ID.1), .p (.int .u64 n0.C.ID.2), .p (.int .i64 n0.C.Slot), .p (.int .i64 n0.C.Revoked), .p (.bool n0.Full)], .box [.p (.slice 5 (in0.B.map blkP)), .p (.slice 4 (in0.V.map vtP))], .box [.p (.int .i64 0), .p (.int .i64 0), .zs, .zs, .zs, .zs, .zs, .p (.int .u64 0), .p (.int .u64 0), .p (.int .i64 0), .p (.int .i64 0), .p (.bool false)], .box [.p (.int .i64 x.No), .p (.int .i64 x.Tick), .p (.slice 5 (v.B.map blkP)), .p (.slice 4 (v.V.map vtP)), .p (.slice 5 (x.In.B.map blkP)), .p (.slice 4 (x.In.V.map vtP)), .vec 9 5 (o.map ofP).length 0 (o.map ofP).length, .p (.int .u64 x.C.ID.1), .p (.int .u64 x.C.ID.2), .p (.int .i64 x.C.Slot), .p (.int .i64 x.C.Revoked), .p (.bool x.Full), .p (.slice 1 (c.W.map i64P)), .p (.int .u64 c.Seed), .p (.int .i64 c.Epoch), .p (.int .i64 c.Num), .p (.int .i64 c.Den), .p (.int .i64 slot), .p (.slice 9 (tl.map ofP))], .vec 9 (o.map ofP)] (Is (.p (idP r_)) [.box [.p (.slice 1 (c0.W.map i64P)), .p (.int .u64 c0.Seed), .p (.int .i64 c0.Epoch), .p (.int .i64 c0.Num), .p (.int .i64 c0.Den)], .box [.p (.int .i64 n0.No), .p (.int .i64 n0.Tick), .p (.slice 5 (n0.V.B.map blkP)), .p (.slice 4 (n0.V.V.map vtP)), .p (.slice 5 (n0.In.B.map blkP)), .p (.slice 4 (n0.In.V.map vtP)), .p (.slice 9 (n0.O.map ofP)), .p (.int .u64 n0.C.ID.1), .p (.int .u64 n0.C.ID.2), .p (.int .i64 n0.C.Slot), .p (.int .i64 n0.C.Revoked), .p (.bool n0.Full)], .box [.p (.slice 5 (in0.B.map blkP)), .p (.slice 4 (in0.V.map vtP))], .box [.p (.int .i64 0), .p (.int .i64 0), .zs, .zs, .zs, .zs, .zs, .p (.int .u64 0), .p (.int .u64 0), .p (.int .i64 0), .p (.int .i64 0), .p (.bool false)], .box [.p (.int .i64 x.No), .p (.int .i64 x.Tick), .p (.slice 5 (v.B.map blkP)), .p (.slice 4 (v.V.map vtP)), .p (.slice 5 (x.In.B.map blkP)), .p (.slice 4 (x.In.V.map vtP)), .vec 9 5 (o.map ofP).length 0 (o.map ofP).length, .p (.int .u64 x.C.ID.1), .p (.int .u64 x.C.ID.2), .p (.int .i64 x.C.Slot), .p (.int .i64 x.C.Revoked), .p (.bool x.Full), .p (.slice 1 (c.W.map i64P)), .p (.int .u64 c.Seed), .p (.int .i64 c.Epoch), .p (.int .i64 c.Num), .p (.int .i64 c.Den), .p (.int .i64 slot), .p (.slice 9 (tl.map ofP))], .vec 9 (o.map ofP)]) := by
  refine LC.start Tryz.func97 rfl rfl rfl ?_
  unfold FWhead at hr
  refine zQ (zR (zS rfl rfl rfl (LOp.alloc rfl zt24 rfl rfl) (zN (zT (zQ (LW.drawLast (m := 11) (by kernel_rfl) (by kernel_rfl) (by kernel_rfl) (zH rfl (zE rfl rfl rfl (LOp.nilCheck rfl rfl) (zE rfl rfl rfl (zA rfl rfl ft3090_1) (zE rfl rfl rfl (zD rfl rfl rfl vt55 rfl rfl) (zH rfl ?_)))))))))))
  refine zE rfl rfl rfl (LOp.nilCheck rfl rfl) (zE rfl rfl rfl (zA rfl rfl ft3090_0) (zE rfl rfl rfl (zA rfl rfl ft1071_2) (zE rfl rfl rfl (zD rfl rfl rfl vt75 rfl rfl) (zH rfl ?_))))
  obtain ⟨v1, h_v1, hr⟩ := zB hr
  refine zE rfl rfl rfl (zC rfl rfl rfl (by kernel_rfl) (LC.pure (c1048 h_v1) (.cons Conv.p (.cons Conv.p (.cons Conv.p .nil))))) (LO.nil (zS rfl rfl rfl (LOp.store rfl rfl rfl rfl vt24 rfl rfl rfl rfl) (zN (zT (LW.ret ?_)))))
  obtain rfl := zJ hr
  refine fin_retV (env' := []) (H' := [.box [.p (.slice 1 (c0.W.map i64P)), .p (.int .u64 c0.Seed), .p (.int .i64 c0.Epoch), .p (.int .i64 c0.Num), .p (.int .i64 c0.Den)], .box [.p (.int .i64 n0.No), .p (.int .i64 n0.Tick), .p (.slice 5 (n0.V.B.map blkP)), .p (.slice 4 (n0.V.V.map vtP)), .p (.slice 5 (n0.In.B.map blkP)), .p (.slice 4 (n0.In.V.map vtP)), .p (.slice 9 (n0.O.map ofP)), .p (.int .u64 n0.C.ID.1), .p (.int .u64 n0.C.ID.2), .p (.int .i64 n0.C.Slot), .p (.int .i64 n0.C.Revoked), .p (.bool n0.Full)], .box [.p (.slice 5 (in0.B.map blkP)), .p (.slice 4 (in0.V.map vtP))], .box [.p (.int .i64 0), .p (.int .i64 0), .zs, .zs, .zs, .zs, .zs, .p (.int .u64 0), .p (.int .u64 0), .p (.int .i64 0), .p (.int .i64 0), .p (.bool false)], .box [.p (.int .i64 x.No), .p (.int .i64 x.Tick), .p (.slice 5 (v.B.map blkP)), .p (.slice 4 (v.V.map vtP)), .p (.slice 5 (x.In.B.map blkP)), .p (.slice 4 (x.In.V.map vtP)), .vec 9 5 (o.map ofP).length 0 (o.map ofP).length, .p (.int .u64 x.C.ID.1), .p (.int .u64 x.C.ID.2), .p (.int .i64 x.C.Slot), .p (.int .i64 x.C.Revoked), .p (.bool x.Full), .p (.slice 1 (c.W.map i64P)), .p (.int .u64 c.Seed), .p (.int .i64 c.Epoch), .p (.int .i64 c.Num), .p (.int .i64 c.Den), .p (.int .i64 slot), .p (.slice 9 (tl.map ofP))], .vec 9 (o.map ofP)]) (zW 6 trivial rfl rfl rfl rfl) (.one (.cellAgg rfl rfl (by kernel_rfl) rfl)) rfl ?_
  exact ⟨rfl, rfl⟩
theorem whead_of {c : Cf} {v : Vw} {s : Int} {r_ : ID} (h : F1048 c v s = some r_) : FWhead c v s = some r_ := by unfold FWhead; rw [h]; rfl
def FWheadN (c : Cf) (v : Vw) (s : Int) : Option ID :=
  (F1048 c v s).bind fun v1 =>
  some v1
set_option maxRecDepth 100000 in
theorem cFWheadN {c : Cf} {v : Vw} {s : Int} {x : Nd} {slot : Int} {o : List Of} {tl : List Of} {c0 : Cf} {n0 : Nd} {in0 : Vw} {r_ : ID} (hr : FWheadN c v s = some r_) : LC Tryz.prog 97 [.ptr 4 0, .p (.int .i64 s)] [.box [.p (.slice 1 (c0.W.map i64P)), .p (.int .u64 c0.Seed), .p (.int .i64 c0.Epoch), .p (.int .i64 c0.Num), .p (.int .i64 c0.Den)], .box [.p (.int .i64 n0.No), .p (.int .i64 n0.Tick), .p (.slice 5 (n0.V.B.map blkP)), .p (.slice 4 (n0.V.V.map vtP)), .p (.slice 5 (n0.In.B.map blkP)), .p (.slice 4 (n0.In.V.map vtP)), .p (.slice 9 (n0.O.map ofP)), .p (.int .u64 n0.C.ID.1), .p (.int .u64 n0.C.ID.2), .p (.int .i64 n0.C.Slot), .p (.int .i64 n0.C.Revoked), .p (.bool n0.Full)], .box [.p (.slice 5 (in0.B.map blkP)), .p (.slice 4 (in0.V.map vtP))], .box [.p (.int .i64 0), .p (.int .i64 0), .zs, .zs, .zs, .zs, .zs, .p (.int .u64 0), .p (.int .u64 0), .p (.int .i64 0), .p (.int .i64 0), .p (.bool false)], .box [.p (.int .i64 x.No), .p (.int .i64 x.Tick), .p (.slice 5 (v.B.map blkP)), .p (.slice 4 (v.V.map vtP)), .p (.slice 5 (x.In.B.map blkP)), .p (.slice 4 (x.In.V.map vtP)), .p (.slice 9 (x.O.map ofP)), .p (.int .u64 x.C.ID.1), .p (.int .u64 x.C.ID.2), .p (.int .i64 x.C.Slot), .p (.int .i64 x.C.Revoked), .p (.bool x.Full), .p (.slice 1 (c.W.map i64P)), .p (.int .u64 c.Seed), .p (.int .i64 c.Epoch), .p (.int .i64 c.Num), .p (.int .i64 c.Den), .p (.int .i64 slot), .p (.slice 9 (tl.map ofP))], .vec 9 (o.map ofP)] (Is (.p (idP r_)) [.box [.p (.slice 1 (c0.W.map i64P)), .p (.int .u64 c0.Seed), .p (.int .i64 c0.Epoch), .p (.int .i64 c0.Num), .p (.int .i64 c0.Den)], .box [.p (.int .i64 n0.No), .p (.int .i64 n0.Tick), .p (.slice 5 (n0.V.B.map blkP)), .p (.slice 4 (n0.V.V.map vtP)), .p (.slice 5 (n0.In.B.map blkP)), .p (.slice 4 (n0.In.V.map vtP)), .p (.slice 9 (n0.O.map ofP)), .p (.int .u64 n0.C.ID.1), .p (.int .u64 n0.C.ID.2), .p (.int .i64 n0.C.Slot), .p (.int .i64 n0.C.Revoked), .p (.bool n0.Full)], .box [.p (.slice 5 (in0.B.map blkP)), .p (.slice 4 (in0.V.map vtP))], .box [.p (.int .i64 0), .p (.int .i64 0), .zs, .zs, .zs, .zs, .zs, .p (.int .u64 0), .p (.int .u64 0), .p (.int .i64 0), .p (.int .i64 0), .p (.bool false)], .box [.p (.int .i64 x.No), .p (.int .i64 x.Tick), .p (.slice 5 (v.B.map blkP)), .p (.slice 4 (v.V.map vtP)), .p (.slice 5 (x.In.B.map blkP)), .p (.slice 4 (x.In.V.map vtP)), .p (.slice 9 (x.O.map ofP)), .p (.int .u64 x.C.ID.1), .p (.int .u64 x.C.ID.2), .p (.int .i64 x.C.Slot), .p (.int .i64 x.C.Revoked), .p (.bool x.Full), .p (.slice 1 (c.W.map i64P)), .p (.int .u64 c.Seed), .p (.int .i64 c.Epoch), .p (.int .i64 c.Num), .p (.int .i64 c.Den), .p (.int .i64 slot), .p (.slice 9 (tl.map ofP))], .vec 9 (o.map ofP)]) := by
  refine LC.start Tryz.func97 rfl rfl rfl ?_
  unfold FWheadN at hr
  refine zQ (zR (zS rfl rfl rfl (LOp.alloc rfl zt24 rfl rfl) (zN (zT (zQ (LW.drawLast (m := 11) (by kernel_rfl) (by kernel_rfl) (by kernel_rfl) (zH rfl (zE rfl rfl rfl (LOp.nilCheck rfl rfl) (zE rfl rfl rfl (zA rfl rfl ft3090_1) (zE rfl rfl rfl (zD rfl rfl rfl vt55 rfl rfl) (zH rfl ?_)))))))))))
  refine zE rfl rfl rfl (LOp.nilCheck rfl rfl) (zE rfl rfl rfl (zA rfl rfl ft3090_0) (zE rfl rfl rfl (zA rfl rfl ft1071_2) (zE rfl rfl rfl (zD rfl rfl rfl vt75 rfl rfl) (zH rfl ?_))))
  obtain ⟨v1, h_v1, hr⟩ := zB hr
  refine zE rfl rfl rfl (zC rfl rfl rfl (by kernel_rfl) (LC.pure (c1048 h_v1) (.cons Conv.p (.cons Conv.p (.cons Conv.p .nil))))) (LO.nil (zS rfl rfl rfl (LOp.store rfl rfl rfl rfl vt24 rfl rfl rfl rfl) (zN (zT (LW.ret ?_)))))
  obtain rfl := zJ hr
  refine fin_retV (env' := []) (H' := [.box [.p (.slice 1 (c0.W.map i64P)), .p (.int .u64 c0.Seed), .p (.int .i64 c0.Epoch), .p (.int .i64 c0.Num), .p (.int .i64 c0.Den)], .box [.p (.int .i64 n0.No), .p (.int .i64 n0.Tick), .p (.slice 5 (n0.V.B.map blkP)), .p (.slice 4 (n0.V.V.map vtP)), .p (.slice 5 (n0.In.B.map blkP)), .p (.slice 4 (n0.In.V.map vtP)), .p (.slice 9 (n0.O.map ofP)), .p (.int .u64 n0.C.ID.1), .p (.int .u64 n0.C.ID.2), .p (.int .i64 n0.C.Slot), .p (.int .i64 n0.C.Revoked), .p (.bool n0.Full)], .box [.p (.slice 5 (in0.B.map blkP)), .p (.slice 4 (in0.V.map vtP))], .box [.p (.int .i64 0), .p (.int .i64 0), .zs, .zs, .zs, .zs, .zs, .p (.int .u64 0), .p (.int .u64 0), .p (.int .i64 0), .p (.int .i64 0), .p (.bool false)], .box [.p (.int .i64 x.No), .p (.int .i64 x.Tick), .p (.slice 5 (v.B.map blkP)), .p (.slice 4 (v.V.map vtP)), .p (.slice 5 (x.In.B.map blkP)), .p (.slice 4 (x.In.V.map vtP)), .p (.slice 9 (x.O.map ofP)), .p (.int .u64 x.C.ID.1), .p (.int .u64 x.C.ID.2), .p (.int .i64 x.C.Slot), .p (.int .i64 x.C.Revoked), .p (.bool x.Full), .p (.slice 1 (c.W.map i64P)), .p (.int .u64 c.Seed), .p (.int .i64 c.Epoch), .p (.int .i64 c.Num), .p (.int .i64 c.Den), .p (.int .i64 slot), .p (.slice 9 (tl.map ofP))], .vec 9 (o.map ofP)]) (zW 6 trivial rfl rfl rfl rfl) (.one (.cellAgg rfl rfl (by kernel_rfl) rfl)) rfl ?_
  exact ⟨rfl, rfl⟩
theorem wheadN_of {c : Cf} {v : Vw} {s : Int} {r_ : ID} (h : F1048 c v s = some r_) : FWheadN c v s = some r_ := by unfold FWheadN; rw [h]; rfl
def FFirst (x : Nd) (c : Cf) (slot : Int) (tl : List Of) : Option (Vw × Vw × Bool × List Of) :=
  (F63 c slot).bind fun v1 =>
  bif x.No != v1 then
    some (x.V, x.In, x.Full, tl)
  else
    (FCount x.In c slot x.V x.Full).bind fun v2 =>
    (F1048 c v2.2.1 (IntKind.i64.wrap (slot - 1))).bind fun v3 =>
    (F3052 (Of.mk slot x.No (Bk.mk slot x.No v3 0) v2.2.1)).bind fun v4 =>
    (F3098 (Bk.mk slot x.No v3 0)).bind fun v5 =>
    (FCount v5 c slot v2.2.1 v2.2.2).bind fun v6 =>
    some (v6.2.1, v2.1, v6.2.2, [v4])
set_option maxRecDepth 100000 in
theorem cFFirst {x : Nd} {o : List Of} {c : Cf} {slot : Int} {tl : List Of} {c0 : Cf} {n0 : Nd} {in0 : Vw} {r_ : Vw × Vw × Bool × List Of} (hr : FFirst x c slot tl = some r_) : LC Tryz.prog 55 [.ptr 4 0] [.box [.p (.slice 1 (c0.W.map i64P)), .p (.int .u64 c0.Seed), .p (.int .i64 c0.Epoch), .p (.int .i64 c0.Num), .p (.int .i64 c0.Den)], .box [.p (.int .i64 n0.No), .p (.int .i64 n0.Tick), .p (.slice 5 (n0.V.B.map blkP)), .p (.slice 4 (n0.V.V.map vtP)), .p (.slice 5 (n0.In.B.map blkP)), .p (.slice 4 (n0.In.V.map vtP)), .p (.slice 9 (n0.O.map ofP)), .p (.int .u64 n0.C.ID.1), .p (.int .u64 n0.C.ID.2), .p (.int .i64 n0.C.Slot), .p (.int .i64 n0.C.Revoked), .p (.bool n0.Full)], .box [.p (.slice 5 (in0.B.map blkP)), .p (.slice 4 (in0.V.map vtP))], .box [.p (.int .i64 0), .p (.int .i64 0), .zs, .zs, .zs, .zs, .zs, .p (.int .u64 0), .p (.int .u64 0), .p (.int .i64 0), .p (.int .i64 0), .p (.bool false)], .box [.p (.int .i64 x.No), .p (.int .i64 x.Tick), .p (.slice 5 (x.V.B.map blkP)), .p (.slice 4 (x.V.V.map vtP)), .p (.slice 5 (x.In.B.map blkP)), .p (.slice 4 (x.In.V.map vtP)), .vec 9 5 (o.map ofP).length 0 (o.map ofP).length, .p (.int .u64 x.C.ID.1), .p (.int .u64 x.C.ID.2), .p (.int .i64 x.C.Slot), .p (.int .i64 x.C.Revoked), .p (.bool x.Full), .p (.slice 1 (c.W.map i64P)), .p (.int .u64 c.Seed), .p (.int .i64 c.Epoch), .p (.int .i64 c.Num), .p (.int .i64 c.Den), .p (.int .i64 slot), .p (.slice 9 (tl.map ofP))], .vec 9 (o.map ofP)] (Is (.tup []) [.box [.p (.slice 1 (c0.W.map i64P)), .p (.int .u64 c0.Seed), .p (.int .i64 c0.Epoch), .p (.int .i64 c0.Num), .p (.int .i64 c0.Den)], .box [.p (.int .i64 n0.No), .p (.int .i64 n0.Tick), .p (.slice 5 (n0.V.B.map blkP)), .p (.slice 4 (n0.V.V.map vtP)), .p (.slice 5 (n0.In.B.map blkP)), .p (.slice 4 (n0.In.V.map vtP)), .p (.slice 9 (n0.O.map ofP)), .p (.int .u64 n0.C.ID.1), .p (.int .u64 n0.C.ID.2), .p (.int .i64 n0.C.Slot), .p (.int .i64 n0.C.Revoked), .p (.bool n0.Full)], .box [.p (.slice 5 (in0.B.map blkP)), .p (.slice 4 (in0.V.map vtP))], .box [.p (.int .i64 0), .p (.int .i64 0), .zs, .zs, .zs, .zs, .zs, .p (.int .u64 0), .p (.int .u64 0), .p (.int .i64 0), .p (.int .i64 0), .p (.bool false)], .box [.p (.int .i64 x.No), .p (.int .i64 x.Tick), .p (.slice 5 (r_.1.B.map blkP)), .p (.slice 4 (r_.1.V.map vtP)), .p (.slice 5 (r_.2.1.B.map blkP)), .p (.slice 4 (r_.2.1.V.map vtP)), .vec 9 5 (o.map ofP).length 0 (o.map ofP).length, .p (.int .u64 x.C.ID.1), .p (.int .u64 x.C.ID.2), .p (.int .i64 x.C.Slot), .p (.int .i64 x.C.Revoked), .p (.bool r_.2.2.1), .p (.slice 1 (c.W.map i64P)), .p (.int .u64 c.Seed), .p (.int .i64 c.Epoch), .p (.int .i64 c.Num), .p (.int .i64 c.Den), .p (.int .i64 slot), .p (.slice 9 (r_.2.2.2.map ofP))], .vec 9 (o.map ofP)]) := by
  refine LC.start Tryz.func55 rfl rfl rfl ?_
  unfold FFirst at hr
  refine zQ (zQ (LW.draw (by kernel_rfl) (by kernel_rfl) (zH rfl (zE rfl rfl rfl (LOp.nilCheck rfl rfl) (zE rfl rfl rfl (zA rfl rfl ft3090_0) (zE rfl rfl rfl (zA rfl rfl ft1071_0) (zE rfl rfl rfl (zD rfl rfl rfl vt3 rfl rfl) (zH rfl (zE rfl rfl rfl (LOp.nilCheck rfl rfl) (zE rfl rfl rfl (zA rfl rfl ft3090_1) (zE rfl rfl rfl (zD rfl rfl rfl vt55 rfl rfl) ?_)))))))))))
  refine zH rfl (zE rfl rfl rfl (LOp.nilCheck rfl rfl) (zE rfl rfl rfl (zA rfl rfl ft3090_2) (zE rfl rfl rfl (zD rfl rfl rfl vt3 rfl rfl) ?_)))
  obtain ⟨v1, h_v1, hr⟩ := zB hr
  refine zE rfl rfl rfl (zC rfl rfl rfl (by kernel_rfl) (LC.pure (c63 h_v1) (.cons Conv.p (.cons Conv.p .nil)))) (zE rfl rfl rfl (LOp.bin rfl rfl rfl rfl) (LO.nil (zT ?_)))
  refine zX rfl (fun (g1 : (x.No != v1) = true) => ?_) (fun (g1 : (x.No != v1) = false) => ?_)
  ·
    have hr := zI g1 hr
    refine LW.ret (thn_r ?_)
    obtain rfl := zJ hr
    refine fin_ret .none ?_
    exact ⟨rfl, rfl⟩
  ·
    have hr := zO g1 hr
    refine LW.skip (zT (zQ (zR (zM rfl (zM rfl (zM rfl (zS rfl rfl rfl (LOp.nilCheck rfl rfl) (zS rfl rfl rfl (zA rfl rfl ft3090_0) (zS rfl rfl rfl (zA rfl rfl ft1071_3) (zS rfl rfl rfl (zD rfl rfl rfl vt75 rfl rfl) ?_))))))))))
    obtain ⟨v2, h_v2, hr⟩ := zB hr
    refine zS rfl rfl rfl (zC rfl rfl rfl (by kernel_rfl) (cFCount (x := Nd.mk x.No x.Tick x.V x.In [] x.C x.Full) (o := o) (tl := tl) h_v2)) (zS rfl rfl rfl (LOp.nilCheck rfl rfl) (zS rfl rfl rfl (zA rfl rfl ft3090_0) (zS rfl rfl rfl (zA rfl rfl ft1071_3) (zS rfl rfl rfl (LOp.store rfl rfl rfl rfl vt75 rfl rfl rfl rfl) (zN (zT (zQ (LW.ent (Ent.slot rfl) (LW.drawW (by kernel_rfl) (by kernel_rfl) (zK rfl ?_))))))))))
    refine zF (F := []) (s := none) rfl rfl rfl (fun H _ => LOp.nilCheck rfl rfl) rfl ?_
    refine zF (F := []) (s := none) rfl rfl rfl (fun H _ => zA rfl rfl ft3090_2) rfl ?_
    refine zF rfl rfl rfl (LAt.load rfl rfl rfl vt3 rfl rfl) rfl (zK rfl ?_)
    refine zF (F := []) (s := none) rfl rfl rfl (fun H _ => LOp.nilCheck rfl rfl) rfl ?_
    refine zF (F := []) (s := none) rfl rfl rfl (fun H _ => zA rfl rfl ft3090_0) rfl ?_
    refine zF (F := []) (s := none) rfl rfl rfl (fun H _ => zA rfl rfl ft1071_0) rfl ?_
    refine zF rfl rfl rfl (LAt.load rfl rfl rfl vt3 rfl rfl) rfl (zK rfl (zK rfl ?_))
    refine zF (F := []) (s := none) rfl rfl rfl (fun H _ => LOp.nilCheck rfl rfl) rfl ?_
    refine zF (F := []) (s := none) rfl rfl rfl (fun H _ => zA rfl rfl ft3090_2) rfl ?_
    refine zF rfl rfl rfl (LAt.load rfl rfl rfl vt3 rfl rfl) rfl ?_
    refine zF (F := []) (s := none) rfl rfl rfl (fun H _ => LOp.bin rfl rfl rfl rfl) rfl ?_
    obtain ⟨v3, h_v3, hr⟩ := zB hr
    refine zF rfl rfl rfl (LAt.preH (s := none) (fun _ => zC rfl rfl rfl (by kernel_rfl) (LC.pre (cFWhead (x := Nd.mk x.No x.Tick v2.2.1 v2.1 [] x.C v2.2.2) (o := o) (tl := tl) (whead_of h_v3)) rfl rfl rfl)) rfl rfl rfl rfl) rfl ?_
    refine zF (F := []) (s := none) rfl rfl rfl (fun H _ => LOp.build rfl bt42 rfl rfl rfl) rfl ?_
    refine zF rfl rfl rfl (LAt.alloc rfl zt42 (id := 6) rfl) rfl (zF rfl rfl rfl (LAt.store rfl rfl rfl rfl vt42 rfl rfl rfl) rfl ?_)
    refine LF.nil ⟨by kernel_rfl, ?_⟩
    refine zT (zQ (LW.drawW (by kernel_rfl) (by kernel_rfl) (zK rfl (zK rfl ?_))))
    refine zF (F := []) (s := none) rfl rfl rfl (fun H _ => LOp.nilCheck rfl rfl) rfl ?_
    refine zF (F := []) (s := none) rfl rfl rfl (fun H _ => zA rfl rfl ft3090_2) rfl ?_
    refine zF rfl rfl rfl (LAt.load rfl rfl rfl vt3 rfl rfl) rfl (zK rfl ?_)
    refine zF (F := []) (s := none) rfl rfl rfl (fun H _ => LOp.nilCheck rfl rfl) rfl ?_
    refine zF (F := []) (s := none) rfl rfl rfl (fun H _ => zA rfl rfl ft3090_0) rfl ?_
    refine zF (F := []) (s := none) rfl rfl rfl (fun H _ => zA rfl rfl ft1071_0) rfl ?_
    refine zF rfl rfl rfl (LAt.load rfl rfl rfl vt3 rfl rfl) rfl (zF rfl rfl rfl (LAt.load rfl rfl rfl vt42 rfl rfl) rfl (zK rfl ?_))
    refine zF (F := []) (s := none) rfl rfl rfl (fun H _ => LOp.nilCheck rfl rfl) rfl ?_
    refine zF (F := []) (s := none) rfl rfl rfl (fun H _ => zA rfl rfl ft3090_0) rfl ?_
    refine zF (F := []) (s := none) rfl rfl rfl (fun H _ => zA rfl rfl ft1071_2) rfl ?_
    refine zF rfl rfl rfl (LAt.load rfl rfl rfl vt75 rfl rfl) rfl ?_
    refine zF (F := []) (s := none) rfl rfl rfl (fun H _ => LOp.build rfl bt1077 rfl rfl rfl) rfl ?_
    obtain ⟨v4, h_v4, hr⟩ := zB hr
    refine zF (F := []) (s := none) rfl rfl rfl (fun H _ => zC rfl rfl rfl (by kernel_rfl) (LC.pure (c3052 h_v4) (.cons Conv.p .nil))) rfl ?_
    refine zF (F := []) (s := none) rfl rfl rfl (fun H _ => LOp.buildSlice rfl st1036 rfl rfl rfl rfl rfl) rfl ?_
    refine zF (F := []) (s := none) rfl rfl rfl (fun H _ => LOp.nilCheck rfl rfl) rfl ?_
    refine zF (F := []) (s := none) rfl rfl rfl (fun H _ => zA rfl rfl ft3090_3) rfl ?_
    refine zF rfl rfl rfl (LAt.store rfl rfl rfl rfl vt1036 rfl rfl rfl) rfl ?_
    refine LF.nil ⟨by kernel_rfl, ?_⟩
    refine zT (zR (zM rfl (zS rfl rfl rfl (zD rfl rfl rfl vt42 rfl rfl) ?_)))
    obtain ⟨v5, h_v5, hr⟩ := zB hr
    refine zS rfl rfl rfl (zC rfl rfl rfl (by kernel_rfl) (LC.pure (c3098 h_v5) (.cons Conv.p .nil))) ?_
    obtain ⟨v6, h_v6, hr⟩ := zB hr
    refine zS rfl rfl rfl (zC rfl rfl rfl (by kernel_rfl) (LC.pre (cFCount (x := Nd.mk x.No x.Tick v2.2.1 v2.1 [] x.C v2.2.2) (o := o) (tl := [v4]) h_v6) rfl rfl rfl)) (zN ?_)
    obtain rfl := zJ hr
    refine fin_endW (env' := []) (H' := [.box [.p (.slice 1 (c0.W.map i64P)), .p (.int .u64 c0.Seed), .p (.int .i64 c0.Epoch), .p (.int .i64 c0.Num), .p (.int .i64 c0.Den)], .box [.p (.int .i64 n0.No), .p (.int .i64 n0.Tick), .p (.slice 5 (n0.V.B.map blkP)), .p (.slice 4 (n0.V.V.map vtP)), .p (.slice 5 (n0.In.B.map blkP)), .p (.slice 4 (n0.In.V.map vtP)), .p (.slice 9 (n0.O.map ofP)), .p (.int .u64 n0.C.ID.1), .p (.int .u64 n0.C.ID.2), .p (.int .i64 n0.C.Slot), .p (.int .i64 n0.C.Revoked), .p (.bool n0.Full)], .box [.p (.slice 5 (in0.B.map blkP)), .p (.slice 4 (in0.V.map vtP))], .box [.p (.int .i64 0), .p (.int .i64 0), .zs, .zs, .zs, .zs, .zs, .p (.int .u64 0), .p (.int .u64 0), .p (.int .i64 0), .p (.int .i64 0), .p (.bool false)], .box [.p (.int .i64 x.No), .p (.int .i64 x.Tick), .p (.slice 5 (v6.2.1.B.map blkP)), .p (.slice 4 (v6.2.1.V.map vtP)), .p (.slice 5 (v2.1.B.map blkP)), .p (.slice 4 (v2.1.V.map vtP)), .vec 9 5 (o.map ofP).length 0 (o.map ofP).length, .p (.int .u64 x.C.ID.1), .p (.int .u64 x.C.ID.2), .p (.int .i64 x.C.Slot), .p (.int .i64 x.C.Revoked), .p (.bool v6.2.2), .p (.slice 1 (c.W.map i64P)), .p (.int .u64 c.Seed), .p (.int .i64 c.Epoch), .p (.int .i64 c.Num), .p (.int .i64 c.Den), .p (.int .i64 slot), .p (.slice 9 ([v4].map ofP))], .vec 9 (o.map ofP)]) (zW 6 trivial rfl rfl rfl rfl) .none ?_
    exact ⟨rfl, rfl⟩
structure FSecond_L1 where
  t11 : Int
  w_2 : List Bk
  w_3 : List Vt
  w_4 : List Bk
  w_5 : List Vt
  w_11 : Bool
def FSecond_s1 (o : List Of) (c : Cf) (slot : Int) (x1 : FSecond_L1) : Option (FSecond_L1 ⊕ FSecond_L1) :=
  bif decide (x1.t11 < (o.length : Int)) then
    (ix o x1.t11).bind fun y1 =>
    (F3098 y1.B).bind fun v2 =>
    (F91 y1.V v2).bind fun v3 =>
    (FCount v3 c slot (Vw.mk x1.w_2 x1.w_3) x1.w_11).bind fun v4 =>
    (F91 (Vw.mk x1.w_4 x1.w_5) v4.1).bind fun v5 =>
    some (.inl (FSecond_L1.mk (IntKind.i64.wrap (x1.t11 + 1)) v4.2.1.B v4.2.1.V v5.B v5.V v4.2.2))
  else
    some (.inr (FSecond_L1.mk x1.t11 x1.w_2 x1.w_3 x1.w_4 x1.w_5 x1.w_11))
def FSecond (x : Nd) (o : List Of) (c : Cf) (slot : Int) : Option (Vw × Vw × Bool) :=
  (iter (FSecond_s1 o c slot) big (FSecond_L1.mk 0 x.V.B x.V.V x.In.B x.In.V x.Full)).bind fun v1 =>
  (F74 c slot x.No).bind fun v6 =>
  bif v6 then
    (F1048 c (Vw.mk v1.w_2 v1.w_3) (IntKind.i64.wrap (slot - 1))).bind fun v7 =>
    (F91 (Vw.mk v1.w_4 v1.w_5) (Vw.mk [] [Vt.mk x.No slot v7])).bind fun v8 =>
    some (Vw.mk v1.w_2 v1.w_3, v8, v1.w_11)
  else
    some (Vw.mk v1.w_2 v1.w_3, Vw.mk v1.w_4 v1.w_5, v1.w_11)
set_option maxRecDepth 100000 in
theorem cFSecond {x : Nd} {o : List Of} {c : Cf} {slot : Int} {tl : List Of} {c0 : Cf} {n0 : Nd} {in0 : Vw} {r_ : Vw × Vw × Bool} (hr : FSecond x o c slot = some r_) : LC Tryz.prog 56 [.ptr 4 0] [.box [.p (.slice 1 (c0.W.map i64P)), .p (.int .u64 c0.Seed), .p (.int .i64 c0.Epoch), .p (.int .i64 c0.Num), .p (.int .i64 c0.Den)], .box [.p (.int .i64 n0.No), .p (.int .i64 n0.Tick), .p (.slice 5 (n0.V.B.map blkP)), .p (.slice 4 (n0.V.V.map vtP)), .p (.slice 5 (n0.In.B.map blkP)), .p (.slice 4 (n0.In.V.map vtP)), .p (.slice 9 (n0.O.map ofP)), .p (.int .u64 n0.C.ID.1), .p (.int .u64 n0.C.ID.2), .p (.int .i64 n0.C.Slot), .p (.int .i64 n0.C.Revoked), .p (.bool n0.Full)], .box [.p (.slice 5 (in0.B.map blkP)), .p (.slice 4 (in0.V.map vtP))], .box [.p (.int .i64 0), .p (.int .i64 0), .zs, .zs, .zs, .zs, .zs, .p (.int .u64 0), .p (.int .u64 0), .p (.int .i64 0), .p (.int .i64 0), .p (.bool false)], .box [.p (.int .i64 x.No), .p (.int .i64 x.Tick), .p (.slice 5 (x.V.B.map blkP)), .p (.slice 4 (x.V.V.map vtP)), .p (.slice 5 (x.In.B.map blkP)), .p (.slice 4 (x.In.V.map vtP)), .vec 9 5 (o.map ofP).length 0 (o.map ofP).length, .p (.int .u64 x.C.ID.1), .p (.int .u64 x.C.ID.2), .p (.int .i64 x.C.Slot), .p (.int .i64 x.C.Revoked), .p (.bool x.Full), .p (.slice 1 (c.W.map i64P)), .p (.int .u64 c.Seed), .p (.int .i64 c.Epoch), .p (.int .i64 c.Num), .p (.int .i64 c.Den), .p (.int .i64 slot), .p (.slice 9 (tl.map ofP))], .vec 9 (o.map ofP)] (Is (.tup []) [.box [.p (.slice 1 (c0.W.map i64P)), .p (.int .u64 c0.Seed), .p (.int .i64 c0.Epoch), .p (.int .i64 c0.Num), .p (.int .i64 c0.Den)], .box [.p (.int .i64 n0.No), .p (.int .i64 n0.Tick), .p (.slice 5 (n0.V.B.map blkP)), .p (.slice 4 (n0.V.V.map vtP)), .p (.slice 5 (n0.In.B.map blkP)), .p (.slice 4 (n0.In.V.map vtP)), .p (.slice 9 (n0.O.map ofP)), .p (.int .u64 n0.C.ID.1), .p (.int .u64 n0.C.ID.2), .p (.int .i64 n0.C.Slot), .p (.int .i64 n0.C.Revoked), .p (.bool n0.Full)], .box [.p (.slice 5 (in0.B.map blkP)), .p (.slice 4 (in0.V.map vtP))], .box [.p (.int .i64 0), .p (.int .i64 0), .zs, .zs, .zs, .zs, .zs, .p (.int .u64 0), .p (.int .u64 0), .p (.int .i64 0), .p (.int .i64 0), .p (.bool false)], .box [.p (.int .i64 x.No), .p (.int .i64 x.Tick), .p (.slice 5 (r_.1.B.map blkP)), .p (.slice 4 (r_.1.V.map vtP)), .p (.slice 5 (r_.2.1.B.map blkP)), .p (.slice 4 (r_.2.1.V.map vtP)), .p (.slice 9 (([] : List Of).map ofP)), .p (.int .u64 x.C.ID.1), .p (.int .u64 x.C.ID.2), .p (.int .i64 x.C.Slot), .p (.int .i64 x.C.Revoked), .p (.bool r_.2.2), .p (.slice 1 (c.W.map i64P)), .p (.int .u64 c.Seed), .p (.int .i64 c.Epoch), .p (.int .i64 c.Num), .p (.int .i64 c.Den), .p (.int .i64 slot), .p (.slice 9 (tl.map ofP))], .vec 9 (o.map ofP)]) := by
  refine LC.start Tryz.func56 rfl rfl rfl ?_
  unfold FSecond at hr
  refine zQ (zQ (zR (zM rfl (zS rfl rfl rfl (LOp.nilCheck rfl rfl) (zS rfl rfl rfl (zA rfl rfl ft3090_0) (zS rfl rfl rfl (zA rfl rfl ft1071_4) (zS rfl rfl rfl (zD rfl rfl rfl vt1036 rfl rfl) (zS rfl rfl rfl (LOp.lenVM rfl rfl rfl (by kernel_rfl)) (zM rfl (zN (zT ?_)))))))))))
  obtain ⟨v1, hb_v1, ho_v1⟩ := zB hr
  clear hr
  refine LW.tail (E := [(0, .ptr 4 0)]) (O := [.box [.p (.slice 1 (c0.W.map i64P)), .p (.int .u64 c0.Seed), .p (.int .i64 c0.Epoch), .p (.int .i64 c0.Num), .p (.int .i64 c0.Den)], .box [.p (.int .i64 n0.No), .p (.int .i64 n0.Tick), .p (.slice 5 (n0.V.B.map blkP)), .p (.slice 4 (n0.V.V.map vtP)), .p (.slice 5 (n0.In.B.map blkP)), .p (.slice 4 (n0.In.V.map vtP)), .p (.slice 9 (n0.O.map ofP)), .p (.int .u64 n0.C.ID.1), .p (.int .u64 n0.C.ID.2), .p (.int .i64 n0.C.Slot), .p (.int .i64 n0.C.Revoked), .p (.bool n0.Full)], .box [.p (.slice 5 (in0.B.map blkP)), .p (.slice 4 (in0.V.map vtP))], .box [.p (.int .i64 0), .p (.int .i64 0), .zs, .zs, .zs, .zs, .zs, .p (.int .u64 0), .p (.int .u64 0), .p (.int .i64 0), .p (.int .i64 0), .p (.bool false)], .box [.p (.int .i64 x.No), .p (.int .i64 x.Tick), .p (.slice 5 (v1.w_2.map blkP)), .p (.slice 4 (v1.w_3.map vtP)), .p (.slice 5 (v1.w_4.map blkP)), .p (.slice 4 (v1.w_5.map vtP)), .vec 9 5 (o.map ofP).length 0 (o.map ofP).length, .p (.int .u64 x.C.ID.1), .p (.int .u64 x.C.ID.2), .p (.int .i64 x.C.Slot), .p (.int .i64 x.C.Revoked), .p (.bool v1.w_11), .p (.slice 1 (c.W.map i64P)), .p (.int .u64 c.Seed), .p (.int .i64 c.Epoch), .p (.int .i64 c.Num), .p (.int .i64 c.Den), .p (.int .i64 slot), .p (.slice 9 (tl.map ofP))], .vec 9 (o.map ofP)]) ?_ (fun env_v1 H_v1 hw_v1 => ?_)
  · refine LW.block ?_
    refine LW.iterB (E := fun x1 : FSecond_L1 => [(0, .ptr 4 0), (9, .vec 9 5 (o.map ofP).length 0 (o.map ofP).length), (10, .p (.int .i64 (o.length : Int))), (11, .p (.int .i64 x1.t11))]) (O := fun x1 => [.box [.p (.slice 1 (c0.W.map i64P)), .p (.int .u64 c0.Seed), .p (.int .i64 c0.Epoch), .p (.int .i64 c0.Num), .p (.int .i64 c0.Den)], .box [.p (.int .i64 n0.No), .p (.int .i64 n0.Tick), .p (.slice 5 (n0.V.B.map blkP)), .p (.slice 4 (n0.V.V.map vtP)), .p (.slice 5 (n0.In.B.map blkP)), .p (.slice 4 (n0.In.V.map vtP)), .p (.slice 9 (n0.O.map ofP)), .p (.int .u64 n0.C.ID.1), .p (.int .u64 n0.C.ID.2), .p (.int .i64 n0.C.Slot), .p (.int .i64 n0.C.Revoked), .p (.bool n0.Full)], .box [.p (.slice 5 (in0.B.map blkP)), .p (.slice 4 (in0.V.map vtP))], .box [.p (.int .i64 0), .p (.int .i64 0), .zs, .zs, .zs, .zs, .zs, .p (.int .u64 0), .p (.int .u64 0), .p (.int .i64 0), .p (.int .i64 0), .p (.bool false)], .box [.p (.int .i64 x.No), .p (.int .i64 x.Tick), .p (.slice 5 (x1.w_2.map blkP)), .p (.slice 4 (x1.w_3.map vtP)), .p (.slice 5 (x1.w_4.map blkP)), .p (.slice 4 (x1.w_5.map vtP)), .vec 9 5 (o.map ofP).length 0 (o.map ofP).length, .p (.int .u64 x.C.ID.1), .p (.int .u64 x.C.ID.2), .p (.int .i64 x.C.Slot), .p (.int .i64 x.C.Revoked), .p (.bool x1.w_11), .p (.slice 1 (c.W.map i64P)), .p (.int .u64 c.Seed), .p (.int .i64 c.Epoch), .p (.int .i64 c.Num), .p (.int .i64 c.Den), .p (.int .i64 slot), .p (.slice 9 (tl.map ofP))], .vec 9 (o.map ofP)]) hb_v1 (zW 6 ⟨rfl, rfl, rfl, rfl, trivial⟩ rfl rfl rfl rfl) (fun x1 z_x1 hr hb_x1 => ?_)
    unfold FSecond_s1 at hr
    refine zQ (zR (zS rfl rfl rfl (LOp.bin rfl rfl rfl rfl) (zN (zT (zQ ?_)))))
    refine zX rfl (fun (g1 : (decide (x1.t11 < (o.length : Int))) = true) => ?_) (fun (g1 : (decide (x1.t11 < (o.length : Int))) = false) => ?_)
    ·
      have hr := zI g1 hr
      refine LW.skip (zT (zQ (LW.block (zQ (zR ?_)))))
      obtain ⟨y1, h_y1, hr⟩ := zB hr
      refine zS rfl rfl rfl (LOp.indexAddrVX rfl rfl rfl rfl st1036 h_y1) (zS rfl rfl rfl (LOp.loadVX rfl rfl rfl vt1077 h_y1 rfl rfl rfl rfl) (zS rfl rfl rfl (LOp.alloc rfl zt1077 rfl rfl) (zS rfl rfl rfl (LOp.store rfl rfl rfl rfl vt1077 rfl rfl rfl rfl) (zN (zT ?_)))))
      refine LW.drawWJ (z := 4) (e := 18) (J := (fun o_ => ∃ a_ b_ c_ : LV, o_ = .box [.p (.int .i64 x.No), .p (.int .i64 x.Tick), a_, b_, .p (.slice 5 (x1.w_4.map blkP)), .p (.slice 4 (x1.w_5.map vtP)), .vec 9 5 (o.map ofP).length 0 (o.map ofP).length, .p (.int .u64 x.C.ID.1), .p (.int .u64 x.C.ID.2), .p (.int .i64 x.C.Slot), .p (.int .i64 x.C.Revoked), c_, .p (.slice 1 (c.W.map i64P)), .p (.int .u64 c.Seed), .p (.int .i64 c.Epoch), .p (.int .i64 c.Num), .p (.int .i64 c.Den), .p (.int .i64 slot), .p (.slice 9 (tl.map ofP))])) (by kernel_rfl) (by kernel_rfl) (fun o_ h_ => ⟨_, _, _, (zJ h_).symm⟩) ?_
      refine LFJ.mv rfl (LFJ.mv rfl ?_)
      refine LFJ.st (F := []) (s := none) rfl rfl rfl (fun H _ => LOp.nilCheck rfl rfl) (fun _ => trivial) rfl ?_
      refine LFJ.st (F := []) (s := none) rfl rfl rfl (fun H _ => zA rfl rfl ft3090_0) (fun _ => trivial) rfl ?_
      refine LFJ.st (F := []) (s := none) rfl rfl rfl (fun H _ => zA rfl rfl ft1071_3) (fun _ => trivial) rfl ?_
      refine LFJ.look rfl rfl rfl (by kernel_rfl) rfl (fun H_ y_ hy_ hj_ => by obtain ⟨a_, b_, c_, rfl⟩ := hj_; exact zD rfl rfl hy_ vt75 rfl rfl) ?_
      refine LFJ.mv rfl ?_
      refine LFJ.st (F := []) (s := none) rfl rfl rfl (fun H _ => zA rfl rfl ft1077_3) (fun _ => trivial) rfl ?_
      refine LFJ.st rfl rfl rfl (LAt.load rfl rfl rfl vt75 rfl rfl) (fun _ => trivial) rfl ?_
      refine LFJ.st (F := []) (s := none) rfl rfl rfl (fun H _ => zA rfl rfl ft1077_2) (fun _ => trivial) rfl ?_
      refine LFJ.st rfl rfl rfl (LAt.load rfl rfl rfl vt42 rfl rfl) (fun _ => trivial) rfl ?_
      obtain ⟨v2, h_v2, hr⟩ := zB hr
      refine LFJ.st (F := []) (s := none) rfl rfl rfl (fun H _ => zC rfl rfl rfl (by kernel_rfl) (LC.pure (c3098 h_v2) (.cons Conv.p .nil))) (fun _ => trivial) rfl ?_
      obtain ⟨v3, h_v3, hr⟩ := zB hr
      refine LFJ.st (F := []) (s := none) rfl rfl rfl (fun H _ => zC rfl rfl rfl (by kernel_rfl) (LC.pure (c91 h_v3) (.cons Conv.p (.cons Conv.p .nil)))) (fun _ => trivial) rfl ?_
      obtain ⟨v4, h_v4, hr⟩ := zB hr
      refine LFJ.st rfl rfl rfl (LAt.preH (s := some (4, .box [.p (.int .i64 x.No), .p (.int .i64 x.Tick), .p (.slice 5 (v4.2.1.B.map blkP)), .p (.slice 4 (v4.2.1.V.map vtP)), .p (.slice 5 (x1.w_4.map blkP)), .p (.slice 4 (x1.w_5.map vtP)), .vec 9 5 (o.map ofP).length 0 (o.map ofP).length, .p (.int .u64 x.C.ID.1), .p (.int .u64 x.C.ID.2), .p (.int .i64 x.C.Slot), .p (.int .i64 x.C.Revoked), .p (.bool v4.2.2), .p (.slice 1 (c.W.map i64P)), .p (.int .u64 c.Seed), .p (.int .i64 c.Epoch), .p (.int .i64 c.Num), .p (.int .i64 c.Den), .p (.int .i64 slot), .p (.slice 9 (tl.map ofP))])) (fun _ => zC rfl rfl rfl (by kernel_rfl) (LC.pre (cFCount (x := Nd.mk x.No x.Tick (Vw.mk x1.w_2 x1.w_3) (Vw.mk x1.w_4 x1.w_5) [] x.C x1.w_11) (o := o) (tl := tl) h_v4) rfl rfl rfl)) rfl rfl rfl rfl) (fun _ _ => ⟨_, _, _, rfl⟩) rfl ?_
      obtain ⟨v5, h_v5, hr⟩ := zB hr
      refine LFJ.st (F := []) (s := none) rfl rfl rfl (fun H _ => zC rfl rfl rfl (by kernel_rfl) (LC.pure (c91 h_v5) (.cons Conv.p (.cons Conv.p .nil)))) (fun _ => trivial) rfl ?_
      refine LFJ.st (F := []) (s := none) rfl rfl rfl (fun H _ => LOp.nilCheck rfl rfl) (fun _ => trivial) rfl ?_
      refine LFJ.st (F := []) (s := none) rfl rfl rfl (fun H _ => zA rfl rfl ft3090_0) (fun _ => trivial) rfl ?_
      refine LFJ.st (F := []) (s := none) rfl rfl rfl (fun H _ => zA rfl rfl ft1071_3) (fun _ => trivial) rfl ?_
      refine LFJ.st rfl rfl rfl (LAt.store rfl rfl rfl rfl vt75 rfl rfl rfl) (fun h => absurd h (by decide)) rfl ?_
      refine LFJ.nil ⟨by kernel_rfl, ?_⟩
      refine inBlk_n (zT (zR (zS rfl rfl rfl (LOp.bin rfl rfl rfl rfl) (zM rfl (zN (zT ?_))))))
      obtain rfl := zJ hr
      exact ⟨_, rfl, zW 6 ⟨rfl, rfl, rfl, rfl, trivial⟩ rfl rfl rfl rfl⟩
    ·
      have hr := zO g1 hr
      refine LW.exit (thn_e (thn_e (inBlk_self (zT ?_))))
      obtain rfl := zJ hr
      have hr := congrArg some (hb_x1 _ rfl)
      obtain rfl := zJ hr
      exact zW 6 ⟨rfl, trivial⟩ rfl rfl rfl rfl
  · have hr := ho_v1
    clear hb_v1
    refine zT (LW.weak hw_v1 (zQ (zR (zM rfl (zS rfl rfl rfl (LOp.nilCheck rfl rfl) (zS rfl rfl rfl (zA rfl rfl ft3090_0) (zS rfl rfl rfl (zA rfl rfl ft1071_4) (zS rfl rfl rfl (LOp.store rfl rfl rfl rfl vt1036 rfl rfl rfl rfl) (zN (zT (zQ ?_)))))))))))
    refine LW.ent (Ent.zsCell (i := 4) (j := 6) (m := 9) rfl rfl rfl rfl) (LW.draw (by kernel_rfl) (by kernel_rfl) (zH rfl (zE rfl rfl rfl (LOp.nilCheck rfl rfl) (zE rfl rfl rfl (zA rfl rfl ft3090_1) (zE rfl rfl rfl (zD rfl rfl rfl vt55 rfl rfl) (zH rfl (zE rfl rfl rfl (LOp.nilCheck rfl rfl) (zE rfl rfl rfl (zA rfl rfl ft3090_2) (zE rfl rfl rfl (zD rfl rfl rfl vt3 rfl rfl) (zH rfl (zE rfl rfl rfl (LOp.nilCheck rfl rfl) ?_)))))))))))
    refine zE rfl rfl rfl (zA rfl rfl ft3090_0) (zE rfl rfl rfl (zA rfl rfl ft1071_0) (zE rfl rfl rfl (zD rfl rfl rfl vt3 rfl rfl) ?_))
    obtain ⟨v6, h_v6, hr⟩ := zB hr
    refine zE rfl rfl rfl (zC rfl rfl rfl (by kernel_rfl) (LC.pure (c74 h_v6) (.cons Conv.p (.cons Conv.p (.cons Conv.p .nil))))) (LO.nil (zT ?_))
    refine zX rfl (fun (g2 : v6 = true) => ?_) (fun (g2 : v6 = false) => ?_)
    ·
      have hr := zI g2 hr
      refine zQ (LW.ent (Ent.slot rfl) (LW.drawW (by kernel_rfl) (by kernel_rfl) (zK rfl ?_)))
      refine zF (F := []) (s := none) rfl rfl rfl (fun H _ => LOp.nilCheck rfl rfl) rfl ?_
      refine zF (F := []) (s := none) rfl rfl rfl (fun H _ => zA rfl rfl ft3090_0) rfl ?_
      refine zF (F := []) (s := none) rfl rfl rfl (fun H _ => zA rfl rfl ft1071_0) rfl ?_
      refine zF rfl rfl rfl (LAt.load rfl rfl rfl vt3 rfl rfl) rfl (zK rfl ?_)
      refine zF (F := []) (s := none) rfl rfl rfl (fun H _ => LOp.nilCheck rfl rfl) rfl ?_
      refine zF (F := []) (s := none) rfl rfl rfl (fun H _ => zA rfl rfl ft3090_2) rfl ?_
      refine zF rfl rfl rfl (LAt.load rfl rfl rfl vt3 rfl rfl) rfl (zK rfl (zK rfl ?_))
      refine zF (F := []) (s := none) rfl rfl rfl (fun H _ => LOp.nilCheck rfl rfl) rfl ?_
      refine zF (F := []) (s := none) rfl rfl rfl (fun H _ => zA rfl rfl ft3090_2) rfl ?_
      refine zF rfl rfl rfl (LAt.load rfl rfl rfl vt3 rfl rfl) rfl ?_
      refine zF (F := []) (s := none) rfl rfl rfl (fun H _ => LOp.bin rfl rfl rfl rfl) rfl ?_
      obtain ⟨v7, h_v7, hr⟩ := zB hr
      refine zF rfl rfl rfl (LAt.preH (s := none) (fun _ => zC rfl rfl rfl (by kernel_rfl) (LC.pre (cFWheadN (x := Nd.mk x.No x.Tick (Vw.mk v1.w_2 v1.w_3) (Vw.mk v1.w_4 v1.w_5) [] x.C v1.w_11) (o := o) (tl := tl) (wheadN_of h_v7)) rfl rfl rfl)) rfl rfl rfl rfl) rfl ?_
      refine zF (F := []) (s := none) rfl rfl rfl (fun H _ => LOp.build rfl bt82 rfl rfl rfl) rfl ?_
      refine zF rfl rfl rfl (LAt.alloc rfl zt82 (id := 6) rfl) rfl (zF rfl rfl rfl (LAt.store rfl rfl rfl rfl vt82 rfl rfl rfl) rfl ?_)
      refine LF.nil ⟨by kernel_rfl, ?_⟩
      refine zT (LW.drawW (by kernel_rfl) (by kernel_rfl) (zK rfl (zK rfl ?_)))
      refine zF (F := []) (s := none) rfl rfl rfl (fun H _ => LOp.nilCheck rfl rfl) rfl ?_
      refine zF (F := []) (s := none) rfl rfl rfl (fun H _ => zA rfl rfl ft3090_0) rfl ?_
      refine zF (F := []) (s := none) rfl rfl rfl (fun H _ => zA rfl rfl ft1071_3) rfl ?_
      refine zF rfl rfl rfl (LAt.load rfl rfl rfl vt75 rfl rfl) rfl (zF rfl rfl rfl (LAt.load rfl rfl rfl vt82 rfl rfl) rfl ?_)
      refine zF (F := []) (s := none) rfl rfl rfl (fun H _ => LOp.buildSlice rfl st68 rfl rfl rfl rfl rfl) rfl ?_
      refine zF (F := []) (s := none) rfl rfl rfl (fun H _ => LOp.build rfl bt75 rfl rfl rfl) rfl ?_
      obtain ⟨v8, h_v8, hr⟩ := zB hr
      refine zF (F := []) (s := none) rfl rfl rfl (fun H _ => zC rfl rfl rfl (by kernel_rfl) (LC.pure (c91 h_v8) (.cons Conv.p (.cons (Conv.agg (.cons Conv.zs (.cons Conv.p .nil))) .nil)))) rfl ?_
      refine zF (F := []) (s := none) rfl rfl rfl (fun H _ => LOp.nilCheck rfl rfl) rfl ?_
      refine zF (F := []) (s := none) rfl rfl rfl (fun H _ => zA rfl rfl ft3090_0) rfl ?_
      refine zF (F := []) (s := none) rfl rfl rfl (fun H _ => zA rfl rfl ft1071_3) rfl ?_
      refine zF rfl rfl rfl (LAt.store rfl rfl rfl rfl vt75 rfl rfl rfl) rfl ?_
      refine LF.nil ⟨by kernel_rfl, ?_⟩
      obtain rfl := zJ hr
      refine fin_endW (env' := []) (H' := [.box [.p (.slice 1 (c0.W.map i64P)), .p (.int .u64 c0.Seed), .p (.int .i64 c0.Epoch), .p (.int .i64 c0.Num), .p (.int .i64 c0.Den)], .box [.p (.int .i64 n0.No), .p (.int .i64 n0.Tick), .p (.slice 5 (n0.V.B.map blkP)), .p (.slice 4 (n0.V.V.map vtP)), .p (.slice 5 (n0.In.B.map blkP)), .p (.slice 4 (n0.In.V.map vtP)), .p (.slice 9 (n0.O.map ofP)), .p (.int .u64 n0.C.ID.1), .p (.int .u64 n0.C.ID.2), .p (.int .i64 n0.C.Slot), .p (.int .i64 n0.C.Revoked), .p (.bool n0.Full)], .box [.p (.slice 5 (in0.B.map blkP)), .p (.slice 4 (in0.V.map vtP))], .box [.p (.int .i64 0), .p (.int .i64 0), .zs, .zs, .zs, .zs, .zs, .p (.int .u64 0), .p (.int .u64 0), .p (.int .i64 0), .p (.int .i64 0), .p (.bool false)], .box [.p (.int .i64 x.No), .p (.int .i64 x.Tick), .p (.slice 5 (v1.w_2.map blkP)), .p (.slice 4 (v1.w_3.map vtP)), .p (.slice 5 (v8.B.map blkP)), .p (.slice 4 (v8.V.map vtP)), .p (.slice 9 (([] : List Of).map ofP)), .p (.int .u64 x.C.ID.1), .p (.int .u64 x.C.ID.2), .p (.int .i64 x.C.Slot), .p (.int .i64 x.C.Revoked), .p (.bool v1.w_11), .p (.slice 1 (c.W.map i64P)), .p (.int .u64 c.Seed), .p (.int .i64 c.Epoch), .p (.int .i64 c.Num), .p (.int .i64 c.Den), .p (.int .i64 slot), .p (.slice 9 (tl.map ofP))], .vec 9 (o.map ofP)]) (zW 6 trivial rfl rfl rfl rfl) .none ?_
      exact ⟨rfl, rfl⟩
    ·
      have hr := zO g2 hr
      refine LW.skip ?_
      obtain rfl := zJ hr
      refine fin_end .none ?_
      exact ⟨rfl, rfl⟩
def FThird (x : Nd) (c : Cf) (slot : Int) : Option (Vw × Vw × Cu × Bool) :=
  (FCount x.In c slot x.V x.Full).bind fun v1 =>
  (F1048 c v1.2.1 slot).bind fun v2 =>
  (F3099 c v1.2.1 slot v2).bind fun v3 =>
  bif few v1.2.1.B then
    some (v1.2.1, v1.1, moveOf x.C v1.2.1.B v2 v3.1 v3.2 slot, v1.2.2)
  else none
set_option maxRecDepth 100000 in
theorem cFThird {x : Nd} {o : List Of} {c : Cf} {slot : Int} {tl : List Of} {c0 : Cf} {n0 : Nd} {in0 : Vw} {r_ : Vw × Vw × Cu × Bool} (hr : FThird x c slot = some r_) : LC Tryz.prog 57 [.ptr 4 0] [.box [.p (.slice 1 (c0.W.map i64P)), .p (.int .u64 c0.Seed), .p (.int .i64 c0.Epoch), .p (.int .i64 c0.Num), .p (.int .i64 c0.Den)], .box [.p (.int .i64 n0.No), .p (.int .i64 n0.Tick), .p (.slice 5 (n0.V.B.map blkP)), .p (.slice 4 (n0.V.V.map vtP)), .p (.slice 5 (n0.In.B.map blkP)), .p (.slice 4 (n0.In.V.map vtP)), .p (.slice 9 (n0.O.map ofP)), .p (.int .u64 n0.C.ID.1), .p (.int .u64 n0.C.ID.2), .p (.int .i64 n0.C.Slot), .p (.int .i64 n0.C.Revoked), .p (.bool n0.Full)], .box [.p (.slice 5 (in0.B.map blkP)), .p (.slice 4 (in0.V.map vtP))], .box [.p (.int .i64 0), .p (.int .i64 0), .zs, .zs, .zs, .zs, .zs, .p (.int .u64 0), .p (.int .u64 0), .p (.int .i64 0), .p (.int .i64 0), .p (.bool false)], .box [.p (.int .i64 x.No), .p (.int .i64 x.Tick), .p (.slice 5 (x.V.B.map blkP)), .p (.slice 4 (x.V.V.map vtP)), .p (.slice 5 (x.In.B.map blkP)), .p (.slice 4 (x.In.V.map vtP)), .vec 9 5 (o.map ofP).length 0 (o.map ofP).length, .p (.int .u64 x.C.ID.1), .p (.int .u64 x.C.ID.2), .p (.int .i64 x.C.Slot), .p (.int .i64 x.C.Revoked), .p (.bool x.Full), .p (.slice 1 (c.W.map i64P)), .p (.int .u64 c.Seed), .p (.int .i64 c.Epoch), .p (.int .i64 c.Num), .p (.int .i64 c.Den), .p (.int .i64 slot), .p (.slice 9 (tl.map ofP))], .vec 9 (o.map ofP)] (Is (.tup []) [.box [.p (.slice 1 (c0.W.map i64P)), .p (.int .u64 c0.Seed), .p (.int .i64 c0.Epoch), .p (.int .i64 c0.Num), .p (.int .i64 c0.Den)], .box [.p (.int .i64 n0.No), .p (.int .i64 n0.Tick), .p (.slice 5 (n0.V.B.map blkP)), .p (.slice 4 (n0.V.V.map vtP)), .p (.slice 5 (n0.In.B.map blkP)), .p (.slice 4 (n0.In.V.map vtP)), .p (.slice 9 (n0.O.map ofP)), .p (.int .u64 n0.C.ID.1), .p (.int .u64 n0.C.ID.2), .p (.int .i64 n0.C.Slot), .p (.int .i64 n0.C.Revoked), .p (.bool n0.Full)], .box [.p (.slice 5 (in0.B.map blkP)), .p (.slice 4 (in0.V.map vtP))], .box [.p (.int .i64 0), .p (.int .i64 0), .zs, .zs, .zs, .zs, .zs, .p (.int .u64 0), .p (.int .u64 0), .p (.int .i64 0), .p (.int .i64 0), .p (.bool false)], .box [.p (.int .i64 x.No), .p (.int .i64 x.Tick), .p (.slice 5 (r_.1.B.map blkP)), .p (.slice 4 (r_.1.V.map vtP)), .p (.slice 5 (r_.2.1.B.map blkP)), .p (.slice 4 (r_.2.1.V.map vtP)), .p (.slice 9 (([] : List Of).map ofP)), .p (.int .u64 r_.2.2.1.ID.1), .p (.int .u64 r_.2.2.1.ID.2), .p (.int .i64 r_.2.2.1.Slot), .p (.int .i64 r_.2.2.1.Revoked), .p (.bool r_.2.2.2), .p (.slice 1 (c.W.map i64P)), .p (.int .u64 c.Seed), .p (.int .i64 c.Epoch), .p (.int .i64 c.Num), .p (.int .i64 c.Den), .p (.int .i64 slot), .p (.slice 9 (tl.map ofP))], .vec 9 (o.map ofP)]) := by
  refine LC.start Tryz.func57 rfl rfl rfl ?_
  unfold FThird at hr
  refine zQ (zR (zM rfl (zM rfl (zM rfl (zS rfl rfl rfl (LOp.nilCheck rfl rfl) (zS rfl rfl rfl (zA rfl rfl ft3090_0) (zS rfl rfl rfl (zA rfl rfl ft1071_3) (zS rfl rfl rfl (zD rfl rfl rfl vt75 rfl rfl) ?_))))))))
  obtain ⟨v1, h_v1, hr⟩ := zB hr
  refine zS rfl rfl rfl (zC rfl rfl rfl (by kernel_rfl) (cFCount (x := Nd.mk x.No x.Tick x.V x.In [] x.C x.Full) (o := o) (tl := tl) h_v1)) (zS rfl rfl rfl (LOp.nilCheck rfl rfl) (zS rfl rfl rfl (zA rfl rfl ft3090_0) (zS rfl rfl rfl (zA rfl rfl ft1071_3) (zS rfl rfl rfl (LOp.store rfl rfl rfl rfl vt75 rfl rfl rfl rfl) (zN (zT (zQ (zR (zM rfl (zS rfl rfl rfl (LOp.nilCheck rfl rfl) (zS rfl rfl rfl (zA rfl rfl ft3090_0) ?_)))))))))))
  refine zS rfl rfl rfl (zA rfl rfl ft1071_4) (zS rfl rfl rfl (LOp.store rfl rfl rfl rfl vt1036 rfl rfl rfl rfl) (zN (zT (zQ (LW.ent (Ent.zsCell (i := 4) (j := 6) (m := 9) rfl rfl rfl rfl) (zR (zM rfl (zM rfl (zS rfl rfl rfl (LOp.nilCheck rfl rfl) (zS rfl rfl rfl (zA rfl rfl ft3090_2) (zS rfl rfl rfl (zD rfl rfl rfl vt3 rfl rfl) ?_)))))))))))
  obtain ⟨v2, h_v2, hr⟩ := zB hr
  refine zS rfl rfl rfl (zC rfl rfl rfl (by kernel_rfl) (cFWheadN (x := Nd.mk x.No x.Tick v1.2.1 v1.1 [] x.C v1.2.2) (o := o) (tl := tl) (wheadN_of h_v2))) (zS rfl rfl rfl (LOp.alloc rfl zt24 rfl rfl) (zS rfl rfl rfl (LOp.store rfl rfl rfl rfl vt24 rfl rfl rfl rfl) (zN (zT (zQ (LW.ent (Ent.slot rfl) (LW.drawW (by kernel_rfl) (by kernel_rfl) (zK rfl ?_))))))))
  refine zF (F := []) (s := none) rfl rfl rfl (fun H _ => LOp.nilCheck rfl rfl) rfl ?_
  refine zF (F := []) (s := none) rfl rfl rfl (fun H _ => zA rfl rfl ft3090_1) rfl ?_
  refine zF rfl rfl rfl (LAt.load rfl rfl rfl vt55 rfl rfl) rfl (zK rfl ?_)
  refine zF (F := []) (s := none) rfl rfl rfl (fun H _ => LOp.nilCheck rfl rfl) rfl ?_
  refine zF (F := []) (s := none) rfl rfl rfl (fun H _ => zA rfl rfl ft3090_0) rfl ?_
  refine zF (F := []) (s := none) rfl rfl rfl (fun H _ => zA rfl rfl ft1071_2) rfl ?_
  refine zF rfl rfl rfl (LAt.load rfl rfl rfl vt75 rfl rfl) rfl (zK rfl ?_)
  refine zF (F := []) (s := none) rfl rfl rfl (fun H _ => LOp.nilCheck rfl rfl) rfl ?_
  refine zF (F := []) (s := none) rfl rfl rfl (fun H _ => zA rfl rfl ft3090_2) rfl ?_
  refine zF rfl rfl rfl (LAt.load rfl rfl rfl vt3 rfl rfl) rfl (zF rfl rfl rfl (LAt.load rfl rfl rfl vt24 rfl rfl) rfl ?_)
  obtain ⟨v3, h_v3, hr⟩ := zB hr
  refine zF (F := []) (s := none) rfl rfl rfl (fun H _ => zC rfl rfl rfl (by kernel_rfl) (LC.pure (c3099 h_v3) (.cons Conv.p (.cons Conv.p (.cons Conv.p (.cons Conv.p .nil)))))) rfl ?_
  refine zK rfl ?_
  refine zF (F := []) (s := none) rfl rfl rfl (fun H _ => LOp.extract rfl rfl rfl) rfl ?_
  refine zF (F := []) (s := none) rfl rfl rfl (fun H _ => LOp.extract rfl rfl rfl) rfl ?_
  refine zF rfl rfl rfl (LAt.alloc rfl zt24 (id := 7) rfl) rfl (zF rfl rfl rfl (LAt.store rfl rfl rfl rfl vt24 rfl rfl rfl) rfl (zK rfl ?_))
  refine LF.nil ⟨by kernel_rfl, ?_⟩
  refine zT (LW.drawW (by kernel_rfl) (by kernel_rfl) (zK rfl (zK rfl ?_)))
  refine zF (F := []) (s := none) rfl rfl rfl (fun H _ => LOp.nilCheck rfl rfl) rfl ?_
  refine zF (F := []) (s := none) rfl rfl rfl (fun H _ => zA rfl rfl ft3090_0) rfl ?_
  refine zF (F := []) (s := none) rfl rfl rfl (fun H _ => zA rfl rfl ft1071_5) rfl ?_
  refine zF rfl rfl rfl (LAt.load rfl rfl rfl vt26 rfl rfl) rfl (zK rfl ?_)
  refine zF (F := []) (s := none) rfl rfl rfl (fun H _ => LOp.nilCheck rfl rfl) rfl ?_
  refine zF (F := []) (s := none) rfl rfl rfl (fun H _ => zA rfl rfl ft3090_0) rfl ?_
  refine zF (F := []) (s := none) rfl rfl rfl (fun H _ => zA rfl rfl ft1071_2) rfl ?_
  refine zF (F := []) (s := none) rfl rfl rfl (fun H _ => zA rfl rfl ft75_0) rfl ?_
  refine zF rfl rfl rfl (LAt.load rfl rfl rfl vt27 rfl rfl) rfl (zF rfl rfl rfl (LAt.load rfl rfl rfl vt24 rfl rfl) rfl (zF rfl rfl rfl (LAt.load rfl rfl rfl vt24 rfl rfl) rfl (zK rfl (zK rfl ?_))))
  refine zF (F := []) (s := none) rfl rfl rfl (fun H _ => LOp.nilCheck rfl rfl) rfl ?_
  refine zF (F := []) (s := none) rfl rfl rfl (fun H _ => zA rfl rfl ft3090_2) rfl ?_
  refine zF rfl rfl rfl (LAt.load rfl rfl rfl vt3 rfl rfl) rfl ?_
  obtain ⟨q1, hr⟩ := zG hr
  refine zF (F := []) (s := none) rfl rfl rfl (fun H _ => zC rfl rfl rfl (by kernel_rfl) (LC.pure (c37 (c := x.C) (l := v1.2.1.B) (head := v2) (found := v3.1) (is := v3.2) (slot := slot) (few_le q1)) (.cons Conv.p (.cons Conv.p (.cons Conv.p (.cons Conv.p (.cons Conv.p (.cons Conv.p .nil)))))))) rfl ?_
  refine zF (F := []) (s := none) rfl rfl rfl (fun H _ => LOp.nilCheck rfl rfl) rfl ?_
  refine zF (F := []) (s := none) rfl rfl rfl (fun H _ => zA rfl rfl ft3090_0) rfl ?_
  refine zF (F := []) (s := none) rfl rfl rfl (fun H _ => zA rfl rfl ft1071_5) rfl ?_
  refine zF rfl rfl rfl (LAt.store rfl rfl rfl rfl vt26 rfl rfl rfl) rfl ?_
  refine LF.nil ⟨by kernel_rfl, ?_⟩
  obtain rfl := zJ hr
  refine fin_endW (env' := []) (H' := [.box [.p (.slice 1 (c0.W.map i64P)), .p (.int .u64 c0.Seed), .p (.int .i64 c0.Epoch), .p (.int .i64 c0.Num), .p (.int .i64 c0.Den)], .box [.p (.int .i64 n0.No), .p (.int .i64 n0.Tick), .p (.slice 5 (n0.V.B.map blkP)), .p (.slice 4 (n0.V.V.map vtP)), .p (.slice 5 (n0.In.B.map blkP)), .p (.slice 4 (n0.In.V.map vtP)), .p (.slice 9 (n0.O.map ofP)), .p (.int .u64 n0.C.ID.1), .p (.int .u64 n0.C.ID.2), .p (.int .i64 n0.C.Slot), .p (.int .i64 n0.C.Revoked), .p (.bool n0.Full)], .box [.p (.slice 5 (in0.B.map blkP)), .p (.slice 4 (in0.V.map vtP))], .box [.p (.int .i64 0), .p (.int .i64 0), .zs, .zs, .zs, .zs, .zs, .p (.int .u64 0), .p (.int .u64 0), .p (.int .i64 0), .p (.int .i64 0), .p (.bool false)], .box [.p (.int .i64 x.No), .p (.int .i64 x.Tick), .p (.slice 5 (v1.2.1.B.map blkP)), .p (.slice 4 (v1.2.1.V.map vtP)), .p (.slice 5 (v1.1.B.map blkP)), .p (.slice 4 (v1.1.V.map vtP)), .p (.slice 9 (([] : List Of).map ofP)), .p (.int .u64 (((moveOf x.C v1.2.1.B v2 v3.1 v3.2 slot).ID).1)), .p (.int .u64 (((moveOf x.C v1.2.1.B v2 v3.1 v3.2 slot).ID).2)), .p (.int .i64 ((moveOf x.C v1.2.1.B v2 v3.1 v3.2 slot).Slot)), .p (.int .i64 ((moveOf x.C v1.2.1.B v2 v3.1 v3.2 slot).Revoked)), .p (.bool v1.2.2), .p (.slice 1 (c.W.map i64P)), .p (.int .u64 c.Seed), .p (.int .i64 c.Epoch), .p (.int .i64 c.Num), .p (.int .i64 c.Den), .p (.int .i64 slot), .p (.slice 9 (tl.map ofP))], .vec 9 (o.map ofP)]) (zW 6 trivial rfl rfl rfl rfl) .none ?_
  exact ⟨rfl, rfl⟩
open Go.Proofs
theorem by_bool {b : Bool} {p : Prop} (h1 : b = true → p) (h2 : b = false → p) : p := by cases b <;> simp_all
theorem tick_is {a b : Int} (h : (a == b) = true) : LV.p (.int .i64 a) = .p (.int .i64 b) := by rw [eq_of_beq h]
structure F3018_L1 where
  t57 : Int
  o5 : List Of
def F3018_s1 (n : Nd) (x1 : F3018_L1) : Option (F3018_L1 ⊕ F3018_L1) :=
  bif decide (x1.t57 < (n.O.length : Int)) then
    (ix n.O x1.t57).bind fun y1 =>
    (F3052 y1).bind fun v6 =>
    bif room x1.o5.length [v6].length 104 then
      some (.inl (F3018_L1.mk (IntKind.i64.wrap (x1.t57 + 1)) (x1.o5 ++ [v6])))
    else none
  else
    some (.inr (F3018_L1.mk x1.t57 x1.o5))
def F3018 (c : Cf) (n : Nd) (v_in : Vw) (o : List Of) : Option (Nd × (List Of)) :=
  (
    (F64 c).bind fun v2 =>
    bif !v2 then
      some true
    else
      bif decide (n.Tick < 3) then
        some true
      else
        some (decide ((IntKind.i64.wrap (n.Tick.tdiv 3)) > 1048576))
  ).bind fun v1 =>
  bif v1 then
    (F3051 n.V).bind fun v3 =>
    (F3051 n.In).bind fun v4 =>
    (iter (F3018_s1 n) big (F3018_L1.mk 0 ([] : List Of))).bind fun v5 =>
    some (Nd.mk n.No n.Tick v3 v4 v5.o5 n.C n.Full, [])
  else
    (F85 c v_in).bind fun v7 =>
    (F91 n.In v7).bind fun v8 =>
    (FHear o (Nd.mk n.No n.Tick n.V v8 n.O n.C n.Full) c (IntKind.i64.wrap (n.Tick.tdiv 3))).bind fun v9 =>
    bif (n.Tick.tmod 3) == 0 then
      (FFirst (Nd.mk n.No n.Tick n.V v8 [] n.C v9.2) c (IntKind.i64.wrap (n.Tick.tdiv 3)) ([] : List Of)).bind fun v10 =>
      some (Nd.mk n.No (IntKind.i64.wrap (n.Tick + 1)) v10.1 v10.2.1 v9.1 n.C v10.2.2.1, v10.2.2.2)
    else
      bif (n.Tick.tmod 3) == 1 then
        (FSecond (Nd.mk n.No n.Tick n.V v8 [] n.C v9.2) v9.1 c (IntKind.i64.wrap (n.Tick.tdiv 3))).bind fun v11 =>
        some (Nd.mk n.No (IntKind.i64.wrap (n.Tick + 1)) v11.1 v11.2.1 [] n.C v11.2.2, [])
      else
        bif (n.Tick.tmod 3) == 2 then
          (FThird (Nd.mk n.No n.Tick n.V v8 [] n.C v9.2) c (IntKind.i64.wrap (n.Tick.tdiv 3))).bind fun v12 =>
          some (Nd.mk n.No (IntKind.i64.wrap (n.Tick + 1)) v12.1 v12.2.1 [] v12.2.2.1 v12.2.2.2, [])
        else none
set_option maxRecDepth 100000 in
theorem c3018 {c : Cf} {n : Nd} {v_in : Vw} {o : List Of} {r_ : Nd × (List Of)} (hr : F3018 c n v_in o = some r_) : LPure Tryz.prog 18 [cfP c, ndP n, vwP v_in, .slice 9 (o.map ofP)] [ndP r_.1, .slice 9 (r_.2.map ofP)] := by
  refine LPure.start Tryz.func18 rfl rfl rfl rfl ?_
  unfold F3018 at hr
  refine zQ (zR (zS rfl rfl rfl (LOp.box rfl rfl rfl rfl rfl) (zS rfl rfl rfl (LOp.box rfl rfl rfl rfl rfl) (zS rfl rfl rfl (LOp.box rfl rfl rfl rfl rfl) (zS rfl rfl rfl (LOp.alloc rfl zt1071 rfl rfl) (zM rfl (zN (zT (zQ (zR (zS rfl rfl rfl (zD rfl rfl rfl vt1071 rfl rfl) ?_)))))))))))
  refine zS rfl rfl rfl (zD rfl rfl rfl vt55 rfl rfl) (zS rfl rfl rfl (zA rfl rfl ft1071_1) (zS rfl rfl rfl (zD rfl rfl rfl vt3 rfl rfl) (zS rfl rfl rfl (LOp.quo rfl rfl rfl (by decide)) (zS rfl rfl rfl (LOp.build rfl bt3090 rfl rfl rfl) (zS rfl rfl rfl (LOp.box rfl rfl rfl rfl rfl) (zM rfl (zN (zT (zQ ?_)))))))))
  obtain ⟨v1, hb_v1, ho_v1⟩ := zB hr
  clear hr
  refine LW.cut (E := [(3, .p (.slice 9 (o.map ofP))), (4, .ptr 0 0), (5, .ptr 1 0), (6, .ptr 2 0), (8, .ptr 3 0), (9, .zs), (10, .ptr 4 0), (35, .p (.bool v1))]) (O := [.box [.p (.slice 1 (c.W.map i64P)), .p (.int .u64 c.Seed), .p (.int .i64 c.Epoch), .p (.int .i64 c.Num), .p (.int .i64 c.Den)], .box [.p (.int .i64 n.No), .p (.int .i64 n.Tick), .p (.slice 5 (n.V.B.map blkP)), .p (.slice 4 (n.V.V.map vtP)), .p (.slice 5 (n.In.B.map blkP)), .p (.slice 4 (n.In.V.map vtP)), .p (.slice 9 (n.O.map ofP)), .p (.int .u64 n.C.ID.1), .p (.int .u64 n.C.ID.2), .p (.int .i64 n.C.Slot), .p (.int .i64 n.C.Revoked), .p (.bool n.Full)], .box [.p (.slice 5 (v_in.B.map blkP)), .p (.slice 4 (v_in.V.map vtP))], .box [.p (.int .i64 0), .p (.int .i64 0), .zs, .zs, .zs, .zs, .zs, .p (.int .u64 0), .p (.int .u64 0), .p (.int .i64 0), .p (.int .i64 0), .p (.bool false)], .box [.p (.int .i64 n.No), .p (.int .i64 n.Tick), .p (.slice 5 (n.V.B.map blkP)), .p (.slice 4 (n.V.V.map vtP)), .p (.slice 5 (n.In.B.map blkP)), .p (.slice 4 (n.In.V.map vtP)), .p (.slice 9 (n.O.map ofP)), .p (.int .u64 n.C.ID.1), .p (.int .u64 n.C.ID.2), .p (.int .i64 n.C.Slot), .p (.int .i64 n.C.Revoked), .p (.bool n.Full), .p (.slice 1 (c.W.map i64P)), .p (.int .u64 c.Seed), .p (.int .i64 c.Epoch), .p (.int .i64 c.Num), .p (.int .i64 c.Den), .p (.int .i64 (IntKind.i64.wrap (n.Tick.tdiv 3))), .zs]]) ?_ ?_
  · have hr := hb_v1
    refine zR (zS rfl rfl rfl (zD rfl rfl rfl vt55 rfl rfl) ?_)
    obtain ⟨v2, h_v2, hr⟩ := zB hr
    refine zS rfl rfl rfl (zC rfl rfl rfl (by kernel_rfl) (LC.pure (c64 h_v2) (.cons Conv.p .nil))) (zS rfl rfl rfl (LOp.not rfl rfl) (zM rfl ?_))
    refine LOps.cases 24 rfl (fun (g1 : (!v2) = true) => ?_) (fun (g1 : (!v2) = false) => ?_)
    ·
      have hr := zI g1 hr
      refine zU rfl rfl rfl (gd g1 rfl) rfl rfl (zU rfl rfl rfl (gd g1 rfl) rfl rfl (zU rfl rfl rfl (gd g1 rfl) rfl rfl (zS rfl rfl rfl (LOp.pickT rfl (gdl g1 rfl) rfl) (zM rfl (zU rfl rfl rfl rfl rfl rfl (zU rfl rfl rfl rfl rfl rfl (zU rfl rfl rfl rfl rfl rfl (zU rfl rfl rfl rfl rfl rfl (zU rfl rfl rfl rfl rfl rfl (zS rfl rfl rfl (LOp.pickT rfl rfl rfl) (zN ?_)))))))))))
      refine zT ?_
      obtain rfl := zJ hr
      exact zW 5 ⟨rfl, rfl, rfl, rfl, rfl, rfl, rfl, rfl, trivial⟩ rfl rfl rfl rfl
    ·
      have hr := zO g1 hr
      refine zV rfl rfl rfl (gd g1 rfl) rfl (zA rfl rfl ft1071_1) (zV rfl rfl rfl (gd g1 rfl) rfl (zD rfl rfl rfl vt3 rfl rfl) (zV rfl rfl rfl (gd g1 rfl) rfl (LOp.bin rfl rfl rfl rfl) (zS rfl rfl rfl (LOp.pickF rfl (gdl g1 rfl) rfl) (zM rfl ?_))))
      refine LOps.cases 29 rfl (fun (g2 : (decide (n.Tick < 3)) = true) => ?_) (fun (g2 : (decide (n.Tick < 3)) = false) => ?_)
      ·
        have hr := zI g2 hr
        refine zU rfl rfl rfl (gd g2 rfl) rfl rfl (zU rfl rfl rfl (gd g2 rfl) rfl rfl (zU rfl rfl rfl (gd g2 rfl) rfl rfl (zU rfl rfl rfl (gd g2 rfl) rfl rfl (zU rfl rfl rfl (gd g2 rfl) rfl rfl (zS rfl rfl rfl (LOp.pickT rfl (gdl g2 rfl) rfl) (zN (zT ?_)))))))
        obtain rfl := zJ hr
        exact zW 5 ⟨rfl, rfl, rfl, rfl, rfl, rfl, rfl, rfl, trivial⟩ rfl rfl rfl rfl
      ·
        have hr := zO g2 hr
        refine zV rfl rfl rfl (gd g2 rfl) rfl (LOp.move rfl rfl) (zV rfl rfl rfl (gd g2 rfl) rfl (LOp.nilCheck rfl rfl) (zV rfl rfl rfl (gd g2 rfl) rfl (zA rfl rfl ft3090_2) (zV rfl rfl rfl (gd g2 rfl) rfl (zD rfl rfl rfl vt3 rfl rfl) (zV rfl rfl rfl (gd g2 rfl) rfl (LOp.bin rfl rfl rfl rfl) (zS rfl rfl rfl (LOp.pickF rfl (gdl g2 rfl) rfl) (zN (zT ?_)))))))
        obtain rfl := zJ hr
        exact zW 5 ⟨rfl, rfl, rfl, rfl, rfl, rfl, rfl, rfl, trivial⟩ rfl rfl rfl rfl
  · have hr := ho_v1
    clear hb_v1
    refine zX rfl (fun (g3 : v1 = true) => ?_) (fun (g3 : v1 = false) => ?_)
    ·
      have hr := zI g3 hr
      refine zQ (LW.drawW (by kernel_rfl) (by kernel_rfl) (zK rfl (zK rfl ?_)))
      refine zF (F := []) (s := none) rfl rfl rfl (fun H _ => zA rfl rfl ft1071_2) rfl ?_
      refine zF rfl rfl rfl (LAt.load rfl rfl rfl vt75 rfl rfl) rfl ?_
      obtain ⟨v3, h_v3, hr⟩ := zB hr
      refine zF (F := []) (s := none) rfl rfl rfl (fun H _ => zC rfl rfl rfl (by kernel_rfl) (LC.pure (c3051 h_v3) (.cons Conv.p .nil))) rfl ?_
      refine zF (F := []) (s := none) rfl rfl rfl (fun H _ => zA rfl rfl ft1071_3) rfl ?_
      refine zF rfl rfl rfl (LAt.load rfl rfl rfl vt75 rfl rfl) rfl ?_
      obtain ⟨v4, h_v4, hr⟩ := zB hr
      refine zF (F := []) (s := none) rfl rfl rfl (fun H _ => zC rfl rfl rfl (by kernel_rfl) (LC.pure (c3051 h_v4) (.cons Conv.p .nil))) rfl ?_
      refine zF (F := []) (s := none) rfl rfl rfl (fun H _ => LOp.nilCheck rfl rfl) rfl ?_
      refine zF (F := []) (s := none) rfl rfl rfl (fun H _ => zA rfl rfl ft3090_0) rfl ?_
      refine zF (F := []) (s := none) rfl rfl rfl (fun H _ => zA rfl rfl ft1071_2) rfl ?_
      refine zF rfl rfl rfl (LAt.store rfl rfl rfl rfl vt75 rfl rfl rfl) rfl ?_
      refine zF (F := []) (s := none) rfl rfl rfl (fun H _ => LOp.nilCheck rfl rfl) rfl ?_
      refine zF (F := []) (s := none) rfl rfl rfl (fun H _ => zA rfl rfl ft3090_0) rfl ?_
      refine zF (F := []) (s := none) rfl rfl rfl (fun H _ => zA rfl rfl ft1071_3) rfl ?_
      refine zF rfl rfl rfl (LAt.store rfl rfl rfl rfl vt75 rfl rfl rfl) rfl ?_
      refine LF.nil ⟨by kernel_rfl, ?_⟩
      refine zT (zQ (zR (zM rfl (zS rfl rfl rfl (LOp.nilCheck rfl rfl) (zS rfl rfl rfl (zA rfl rfl ft3090_0) (zS rfl rfl rfl (zA rfl rfl ft1071_4) (zS rfl rfl rfl (LOp.store rfl rfl rfl rfl vt1036 rfl rfl rfl rfl) (zN (zT (zQ (zQ ?_)))))))))))
      refine LW.ent (Ent.lazyCell (i := 4) (j := 6) (m := 9) rfl rfl rfl rfl rfl rfl) (zR (zS rfl rfl rfl (zA rfl rfl ft1071_4) (zS rfl rfl rfl (zD rfl rfl rfl vt1036 rfl rfl) (zS rfl rfl rfl (LOp.lenM rfl rfl (by kernel_rfl)) (zM rfl (zN (zT ?_)))))))
      obtain ⟨v5, hb_v5, ho_v5⟩ := zB hr
      clear hr
      refine LW.tail (E := [(3, .p (.slice 9 (o.map ofP))), (4, .ptr 0 0), (5, .ptr 1 0), (6, .ptr 2 0), (8, .ptr 3 0), (9, .zs), (10, .ptr 4 0)]) (O := [.box [.p (.slice 1 (c.W.map i64P)), .p (.int .u64 c.Seed), .p (.int .i64 c.Epoch), .p (.int .i64 c.Num), .p (.int .i64 c.Den)], .box [.p (.int .i64 n.No), .p (.int .i64 n.Tick), .p (.slice 5 (n.V.B.map blkP)), .p (.slice 4 (n.V.V.map vtP)), .p (.slice 5 (n.In.B.map blkP)), .p (.slice 4 (n.In.V.map vtP)), .p (.slice 9 (n.O.map ofP)), .p (.int .u64 n.C.ID.1), .p (.int .u64 n.C.ID.2), .p (.int .i64 n.C.Slot), .p (.int .i64 n.C.Revoked), .p (.bool n.Full)], .box [.p (.slice 5 (v_in.B.map blkP)), .p (.slice 4 (v_in.V.map vtP))], .box [.p (.int .i64 0), .p (.int .i64 0), .zs, .zs, .zs, .zs, .zs, .p (.int .u64 0), .p (.int .u64 0), .p (.int .i64 0), .p (.int .i64 0), .p (.bool false)], .box [.p (.int .i64 n.No), .p (.int .i64 n.Tick), .p (.slice 5 (v3.B.map blkP)), .p (.slice 4 (v3.V.map vtP)), .p (.slice 5 (v4.B.map blkP)), .p (.slice 4 (v4.V.map vtP)), .vec 9 5 (v5.o5.map ofP).length 0 (v5.o5.map ofP).length, .p (.int .u64 n.C.ID.1), .p (.int .u64 n.C.ID.2), .p (.int .i64 n.C.Slot), .p (.int .i64 n.C.Revoked), .p (.bool n.Full), .p (.slice 1 (c.W.map i64P)), .p (.int .u64 c.Seed), .p (.int .i64 c.Epoch), .p (.int .i64 c.Num), .p (.int .i64 c.Den), .p (.int .i64 (IntKind.i64.wrap (n.Tick.tdiv 3))), .zs], .vec 9 (v5.o5.map ofP)]) ?_ (fun env_v5 H_v5 hw_v5 => ?_)
      · refine LW.block ?_
        refine LW.iterB (E := fun x1 : F3018_L1 => [(3, .p (.slice 9 (o.map ofP))), (4, .ptr 0 0), (5, .ptr 1 0), (6, .ptr 2 0), (8, .ptr 3 0), (9, .zs), (10, .ptr 4 0), (55, .p (.slice 9 (n.O.map ofP))), (56, .p (.int .i64 (n.O.length : Int))), (57, .p (.int .i64 x1.t57))]) (O := fun x1 => [.box [.p (.slice 1 (c.W.map i64P)), .p (.int .u64 c.Seed), .p (.int .i64 c.Epoch), .p (.int .i64 c.Num), .p (.int .i64 c.Den)], .box [.p (.int .i64 n.No), .p (.int .i64 n.Tick), .p (.slice 5 (n.V.B.map blkP)), .p (.slice 4 (n.V.V.map vtP)), .p (.slice 5 (n.In.B.map blkP)), .p (.slice 4 (n.In.V.map vtP)), .p (.slice 9 (n.O.map ofP)), .p (.int .u64 n.C.ID.1), .p (.int .u64 n.C.ID.2), .p (.int .i64 n.C.Slot), .p (.int .i64 n.C.Revoked), .p (.bool n.Full)], .box [.p (.slice 5 (v_in.B.map blkP)), .p (.slice 4 (v_in.V.map vtP))], .box [.p (.int .i64 0), .p (.int .i64 0), .zs, .zs, .zs, .zs, .zs, .p (.int .u64 0), .p (.int .u64 0), .p (.int .i64 0), .p (.int .i64 0), .p (.bool false)], .box [.p (.int .i64 n.No), .p (.int .i64 n.Tick), .p (.slice 5 (v3.B.map blkP)), .p (.slice 4 (v3.V.map vtP)), .p (.slice 5 (v4.B.map blkP)), .p (.slice 4 (v4.V.map vtP)), .vec 9 5 (x1.o5.map ofP).length 0 (x1.o5.map ofP).length, .p (.int .u64 n.C.ID.1), .p (.int .u64 n.C.ID.2), .p (.int .i64 n.C.Slot), .p (.int .i64 n.C.Revoked), .p (.bool n.Full), .p (.slice 1 (c.W.map i64P)), .p (.int .u64 c.Seed), .p (.int .i64 c.Epoch), .p (.int .i64 c.Num), .p (.int .i64 c.Den), .p (.int .i64 (IntKind.i64.wrap (n.Tick.tdiv 3))), .zs], .vec 9 (x1.o5.map ofP)]) hb_v5 (zW 6 ⟨rfl, rfl, rfl, rfl, rfl, rfl, rfl, rfl, rfl, rfl, trivial⟩ rfl rfl rfl rfl) (fun x1 z_x1 hr hb_x1 => ?_)
        unfold F3018_s1 at hr
        refine zQ (zR (zS rfl rfl rfl (LOp.bin rfl rfl rfl rfl) (zN (zT (zQ ?_)))))
        refine zX rfl (fun (g4 : (decide (x1.t57 < (n.O.length : Int))) = true) => ?_) (fun (g4 : (decide (x1.t57 < (n.O.length : Int))) = false) => ?_)
        ·
          have hr := zI g4 hr
          refine LW.skip (zT (zQ (LW.block (zQ (zR ?_)))))
          obtain ⟨y1, h_y1, hr⟩ := zB hr
          refine zS rfl rfl rfl (LOp.indexAddrX rfl rfl rfl st1036 h_y1 rfl) (zS rfl rfl rfl (LOp.loadC rfl rfl rfl vt1077 rfl rfl) (zS rfl rfl rfl (LOp.alloc rfl zt1077 rfl rfl) (zS rfl rfl rfl (LOp.store rfl rfl rfl rfl vt1077 rfl rfl rfl rfl) (zN (zT (LW.drawW (by kernel_rfl) (by kernel_rfl) (zK rfl (zK rfl ?_))))))))
          refine zF (F := []) (s := none) rfl rfl rfl (fun H _ => LOp.nilCheck rfl rfl) rfl ?_
          refine zF (F := []) (s := none) rfl rfl rfl (fun H _ => zA rfl rfl ft3090_0) rfl ?_
          refine zF (F := []) (s := none) rfl rfl rfl (fun H _ => zA rfl rfl ft1071_4) rfl ?_
          refine zF rfl rfl rfl (LAt.load rfl rfl rfl vt1036 rfl rfl) rfl (zF rfl rfl rfl (LAt.load rfl rfl rfl vt1077 rfl rfl) rfl ?_)
          obtain ⟨v6, h_v6, hr⟩ := zB hr
          refine zF (F := []) (s := none) rfl rfl rfl (fun H _ => zC rfl rfl rfl (by kernel_rfl) (LC.pure (c3052 h_v6) (.cons Conv.p .nil))) rfl ?_
          refine zF (F := []) (s := none) rfl rfl rfl (fun H _ => LOp.buildSlice rfl st1036 rfl rfl rfl rfl rfl) rfl ?_
          obtain ⟨q1, hr⟩ := zG hr
          refine zF rfl rfl rfl (LAt.appendX ofP x1.o5 [v6] rfl rfl rfl rfl rfl st1036 q1) rfl ?_
          refine zF (F := []) (s := none) rfl rfl rfl (fun H _ => LOp.nilCheck rfl rfl) rfl ?_
          refine zF (F := []) (s := none) rfl rfl rfl (fun H _ => zA rfl rfl ft3090_0) rfl ?_
          refine zF (F := []) (s := none) rfl rfl rfl (fun H _ => zA rfl rfl ft1071_4) rfl ?_
          refine zF rfl rfl rfl (LAt.store rfl rfl rfl rfl vt1036 rfl rfl rfl) rfl ?_
          refine LF.nil ⟨by kernel_rfl, ?_⟩
          refine inBlk_n (zT (zR (zS rfl rfl rfl (LOp.bin rfl rfl rfl rfl) (zM rfl (zN (zT ?_))))))
          obtain rfl := zJ hr
          exact ⟨_, rfl, zW 6 ⟨rfl, rfl, rfl, rfl, rfl, rfl, rfl, rfl, rfl, rfl, trivial⟩ rfl rfl rfl rfl⟩
        ·
          have hr := zO g4 hr
          refine LW.exit (thn_e (thn_e (inBlk_self (zT ?_))))
          obtain rfl := zJ hr
          have hr := congrArg some (hb_x1 _ rfl)
          obtain rfl := zJ hr
          exact zW 6 ⟨rfl, rfl, rfl, rfl, rfl, rfl, rfl, trivial⟩ rfl rfl rfl rfl
      · have hr := ho_v5
        clear hb_v5
        refine zT (LW.weak hw_v5 (zQ (zR (zM rfl (zS rfl rfl rfl (LOp.nilCheck rfl rfl) (zS rfl rfl rfl (zA rfl rfl ft3090_0) (zS rfl rfl rfl (zD rfl rfl rfl vt1071 rfl rfl) (zS rfl rfl rfl (LOp.store rfl rfl rfl rfl vt1071 rfl rfl rfl rfl) (zM rfl (zN (zT ?_)))))))))))
        refine LW.ret (thn_r ?_)
        obtain rfl := zJ hr
        refine finP_ret (.two (.cellAgg rfl rfl (by kernel_rfl) rfl) (.tmp rfl)) ?_
        exact ⟨_, rfl, (.cons (Conv.agg (.cons Conv.p (.cons Conv.p (.cons Conv.p (.cons Conv.p (.cons Conv.p (.cons Conv.p (.cons (Conv.vecAll rfl rfl rfl) (.cons Conv.p (.cons Conv.p (.cons Conv.p (.cons Conv.p (.cons Conv.p .nil))))))))))))) (.cons Conv.zs .nil))⟩
    ·
      have hr := zO g3 hr
      refine LW.skip (zT (zQ (LW.drawW (by kernel_rfl) (by kernel_rfl) (zK rfl ?_))))
      refine zF (F := []) (s := none) rfl rfl rfl (fun H _ => zA rfl rfl ft1071_3) rfl ?_
      refine zF rfl rfl rfl (LAt.load rfl rfl rfl vt75 rfl rfl) rfl (zF rfl rfl rfl (LAt.load rfl rfl rfl vt55 rfl rfl) rfl (zF rfl rfl rfl (LAt.load rfl rfl rfl vt75 rfl rfl) rfl ?_))
      obtain ⟨v7, h_v7, hr⟩ := zB hr
      refine zF (F := []) (s := none) rfl rfl rfl (fun H _ => zC rfl rfl rfl (by kernel_rfl) (LC.pure (c85 h_v7) (.cons Conv.p (.cons Conv.p .nil)))) rfl ?_
      obtain ⟨v8, h_v8, hr⟩ := zB hr
      refine zF (F := []) (s := none) rfl rfl rfl (fun H _ => zC rfl rfl rfl (by kernel_rfl) (LC.pure (c91 h_v8) (.cons Conv.p (.cons Conv.p .nil)))) rfl ?_
      refine zF (F := []) (s := none) rfl rfl rfl (fun H _ => LOp.nilCheck rfl rfl) rfl ?_
      refine zF (F := []) (s := none) rfl rfl rfl (fun H _ => zA rfl rfl ft3090_0) rfl ?_
      refine zF (F := []) (s := none) rfl rfl rfl (fun H _ => zA rfl rfl ft1071_3) rfl ?_
      refine zF rfl rfl rfl (LAt.store rfl rfl rfl rfl vt75 rfl rfl rfl) rfl ?_
      refine LF.nil ⟨by kernel_rfl, ?_⟩
      refine zT (zQ (LW.ent (Ent.zsCell (i := 4) (j := 18) (m := 9) rfl rfl rfl rfl) (zR (zM rfl (zM rfl ?_)))))
      obtain ⟨v9, h_v9, hr⟩ := zB hr
      refine zS rfl rfl rfl (zC rfl rfl rfl (by kernel_rfl) (cFHear (x := Nd.mk n.No n.Tick n.V v8 n.O n.C n.Full) (tl := ([] : List Of)) h_v9)) (zN (zT (zQ (zR (zS rfl rfl rfl (LOp.build rfl bt3095 rfl rfl rfl) (zS rfl rfl rfl (LOp.alloc rfl zt3095 rfl rfl) (zS rfl rfl rfl (LOp.store rfl rfl rfl rfl vt3095 rfl rfl rfl rfl) (zN (zT (zQ ?_))))))))))
      refine by_bool (b := (n.Tick.tmod 3) == 0) (fun (g5 : ((n.Tick.tmod 3) == 0) = true) => ?_) (fun (g5 : ((n.Tick.tmod 3) == 0) = false) => ?_)
      ·
        have hr := zI g5 hr
        refine zR (zS rfl rfl rfl (zA rfl rfl ft1071_1) (zS rfl rfl rfl (zD rfl rfl rfl vt3 rfl rfl) (zS rfl rfl rfl (LOp.isEq (y := .p (.int .i64 0)) (LOp.rem rfl rfl rfl (by decide)) (tick_is g5)) (zS rfl rfl rfl (LOp.indexAddrA rfl rfl rfl at3095 (by decide) (by decide)) (zS rfl rfl rfl (zD rfl rfl rfl vt3094 rfl rfl) (zM rfl ?_))))))
        obtain ⟨v10, h_v10, hr⟩ := zB hr
        refine zS rfl rfl rfl (zC rfl rfl rfl (by kernel_rfl) (LC.pre (cFFirst (x := Nd.mk n.No n.Tick n.V v8 [] n.C v9.2) (o := v9.1) (tl := ([] : List Of)) h_v10) rfl rfl rfl)) (zN (zT (zQ (zR (zM rfl (zS rfl rfl rfl (LOp.nilCheck rfl rfl) (zS rfl rfl rfl (zA rfl rfl ft3090_0) (zS rfl rfl rfl (zA rfl rfl ft1071_1) (zS rfl rfl rfl (zD rfl rfl rfl vt3 rfl rfl) (zS rfl rfl rfl (LOp.bin rfl rfl rfl rfl) (zS rfl rfl rfl (LOp.nilCheck rfl rfl) ?_)))))))))))
        refine zS rfl rfl rfl (zA rfl rfl ft3090_0) (zS rfl rfl rfl (zA rfl rfl ft1071_1) (zS rfl rfl rfl (LOp.store rfl rfl rfl rfl vt3 rfl rfl rfl rfl) (zN (zT (zQ (LW.drawW (by kernel_rfl) (by kernel_rfl) (zK rfl ?_)))))))
        refine zF (F := []) (s := none) rfl rfl rfl (fun H _ => LOp.nilCheck rfl rfl) rfl ?_
        refine zF (F := []) (s := none) rfl rfl rfl (fun H _ => zA rfl rfl ft3090_0) rfl ?_
        refine zF rfl rfl rfl (LAt.load rfl rfl rfl vt1071 rfl rfl) rfl (zK rfl ?_)
        refine zF (F := []) (s := none) rfl rfl rfl (fun H _ => LOp.nilCheck rfl rfl) rfl ?_
        refine zF (F := []) (s := none) rfl rfl rfl (fun H _ => zA rfl rfl ft3090_3) rfl ?_
        refine zF rfl rfl rfl (LAt.load rfl rfl rfl vt1036 rfl rfl) rfl (zF rfl rfl rfl (LAt.store rfl rfl rfl rfl vt1071 rfl rfl rfl) rfl (zK rfl ?_))
        refine LF.nil ⟨by kernel_rfl, ?_⟩
        refine zT (LW.ret ?_)
        obtain rfl := zJ hr
        refine finP_ret (.two (.cellAgg rfl rfl (by kernel_rfl) rfl) (.tmp rfl)) ?_
        exact ⟨_, rfl, (.cons (Conv.agg (.cons Conv.p (.cons Conv.p (.cons Conv.p (.cons Conv.p (.cons Conv.p (.cons Conv.p (.cons (Conv.vecAll rfl rfl rfl) (.cons Conv.p (.cons Conv.p (.cons Conv.p (.cons Conv.p (.cons Conv.p .nil))))))))))))) (.cons Conv.p .nil))⟩
      ·
        have hr := zO g5 hr
        refine by_bool (b := (n.Tick.tmod 3) == 1) (fun (g6 : ((n.Tick.tmod 3) == 1) = true) => ?_) (fun (g6 : ((n.Tick.tmod 3) == 1) = false) => ?_)
        ·
          have hr := zI g6 hr
          refine zR (zS rfl rfl rfl (zA rfl rfl ft1071_1) (zS rfl rfl rfl (zD rfl rfl rfl vt3 rfl rfl) (zS rfl rfl rfl (LOp.isEq (y := .p (.int .i64 1)) (LOp.rem rfl rfl rfl (by decide)) (tick_is g6)) (zS rfl rfl rfl (LOp.indexAddrA rfl rfl rfl at3095 (by decide) (by decide)) (zS rfl rfl rfl (zD rfl rfl rfl vt3094 rfl rfl) (zM rfl ?_))))))
          obtain ⟨v11, h_v11, hr⟩ := zB hr
          refine zS rfl rfl rfl (zC rfl rfl rfl (by kernel_rfl) (LC.pre (cFSecond (x := Nd.mk n.No n.Tick n.V v8 [] n.C v9.2) (o := v9.1) (tl := ([] : List Of)) h_v11) rfl rfl rfl)) (zN (zT (zQ (zR (zM rfl (zS rfl rfl rfl (LOp.nilCheck rfl rfl) (zS rfl rfl rfl (zA rfl rfl ft3090_0) (zS rfl rfl rfl (zA rfl rfl ft1071_1) (zS rfl rfl rfl (zD rfl rfl rfl vt3 rfl rfl) (zS rfl rfl rfl (LOp.bin rfl rfl rfl rfl) (zS rfl rfl rfl (LOp.nilCheck rfl rfl) ?_)))))))))))
          refine zS rfl rfl rfl (zA rfl rfl ft3090_0) (zS rfl rfl rfl (zA rfl rfl ft1071_1) (zS rfl rfl rfl (LOp.store rfl rfl rfl rfl vt3 rfl rfl rfl rfl) (zN (zT (zQ (LW.drawW (by kernel_rfl) (by kernel_rfl) (zK rfl ?_)))))))
          refine zF (F := []) (s := none) rfl rfl rfl (fun H _ => LOp.nilCheck rfl rfl) rfl ?_
          refine zF (F := []) (s := none) rfl rfl rfl (fun H _ => zA rfl rfl ft3090_0) rfl ?_
          refine zF rfl rfl rfl (LAt.load rfl rfl rfl vt1071 rfl rfl) rfl (zK rfl ?_)
          refine zF (F := []) (s := none) rfl rfl rfl (fun H _ => LOp.nilCheck rfl rfl) rfl ?_
          refine zF (F := []) (s := none) rfl rfl rfl (fun H _ => zA rfl rfl ft3090_3) rfl ?_
          refine zF rfl rfl rfl (LAt.load rfl rfl rfl vt1036 rfl rfl) rfl (zF rfl rfl rfl (LAt.store rfl rfl rfl rfl vt1071 rfl rfl rfl) rfl (zK rfl ?_))
          refine LF.nil ⟨by kernel_rfl, ?_⟩
          refine zT (LW.ret ?_)
          obtain rfl := zJ hr
          refine finP_ret (.two (.cellAgg rfl rfl (by kernel_rfl) rfl) (.tmp rfl)) ?_
          exact ⟨_, rfl, (.cons Conv.p (.cons Conv.p .nil))⟩
        ·
          have hr := zO g6 hr
          obtain ⟨q2, hr⟩ := zG hr
          refine zR (zS rfl rfl rfl (zA rfl rfl ft1071_1) (zS rfl rfl rfl (zD rfl rfl rfl vt3 rfl rfl) (zS rfl rfl rfl (LOp.isEq (y := .p (.int .i64 2)) (LOp.rem rfl rfl rfl (by decide)) (tick_is q2)) (zS rfl rfl rfl (LOp.indexAddrA rfl rfl rfl at3095 (by decide) (by decide)) (zS rfl rfl rfl (zD rfl rfl rfl vt3094 rfl rfl) (zM rfl ?_))))))
          obtain ⟨v12, h_v12, hr⟩ := zB hr
          refine zS rfl rfl rfl (zC rfl rfl rfl (by kernel_rfl) (LC.pre (cFThird (x := Nd.mk n.No n.Tick n.V v8 [] n.C v9.2) (o := v9.1) (tl := ([] : List Of)) h_v12) rfl rfl rfl)) (zN (zT (zQ (zR (zM rfl (zS rfl rfl rfl (LOp.nilCheck rfl rfl) (zS rfl rfl rfl (zA rfl rfl ft3090_0) (zS rfl rfl rfl (zA rfl rfl ft1071_1) (zS rfl rfl rfl (zD rfl rfl rfl vt3 rfl rfl) (zS rfl rfl rfl (LOp.bin rfl rfl rfl rfl) (zS rfl rfl rfl (LOp.nilCheck rfl rfl) ?_)))))))))))
          refine zS rfl rfl rfl (zA rfl rfl ft3090_0) (zS rfl rfl rfl (zA rfl rfl ft1071_1) (zS rfl rfl rfl (LOp.store rfl rfl rfl rfl vt3 rfl rfl rfl rfl) (zN (zT (zQ (LW.drawW (by kernel_rfl) (by kernel_rfl) (zK rfl ?_)))))))
          refine zF (F := []) (s := none) rfl rfl rfl (fun H _ => LOp.nilCheck rfl rfl) rfl ?_
          refine zF (F := []) (s := none) rfl rfl rfl (fun H _ => zA rfl rfl ft3090_0) rfl ?_
          refine zF rfl rfl rfl (LAt.load rfl rfl rfl vt1071 rfl rfl) rfl (zK rfl ?_)
          refine zF (F := []) (s := none) rfl rfl rfl (fun H _ => LOp.nilCheck rfl rfl) rfl ?_
          refine zF (F := []) (s := none) rfl rfl rfl (fun H _ => zA rfl rfl ft3090_3) rfl ?_
          refine zF rfl rfl rfl (LAt.load rfl rfl rfl vt1036 rfl rfl) rfl (zF rfl rfl rfl (LAt.store rfl rfl rfl rfl vt1071 rfl rfl rfl) rfl (zK rfl ?_))
          refine LF.nil ⟨by kernel_rfl, ?_⟩
          refine zT (LW.ret ?_)
          obtain rfl := zJ hr
          refine finP_ret (.two (.cellAgg rfl rfl (by kernel_rfl) rfl) (.tmp rfl)) ?_
          exact ⟨_, rfl, (.cons Conv.p (.cons Conv.p .nil))⟩
open Go.Proofs
def F3029 : Option Bool :=
  (F125 ).bind fun v1 =>
  (F3043 0).bind fun v2 =>
  (F3018 v1 v2 (Vw.mk [] []) ([] : List Of)).bind fun v3 =>
  (F3043 1).bind fun v4 =>
  (F1031 [v3.1, v4]).bind fun v5 =>
  (F3036 v1 [v3.1]).bind fun v6 =>
  (F1031 ([] : List Nd)).bind fun v7 =>
  bif (v7.B.length : Int) == 0 then
    bif (v5.B.length : Int) == 1 then
      (F3034 v5).bind fun v8 =>
      bif !v8 then
        (ix v5.B 0).bind fun y1 =>
        (ix v5.B 0).bind fun y2 =>
        (F3034 (Vw.mk [y1, y2] [])).bind fun v9 =>
        bif v9 then
          bif (v6.length : Int) == 1 then
            (F3033 [v3.1]).bind fun v10 =>
            some (!v10)
          else
            some false
        else
          some false
      else
        some false
    else
      some false
  else
    some false
set_option maxRecDepth 100000 in
theorem c3029 {r_ : Bool} (hr : F3029 = some r_) : LPure Tryz.prog 29 [] [.bool r_] := by
  refine LPure.start Tryz.func29 rfl rfl rfl rfl ?_
  unfold F3029 at hr
  refine zQ (zR (zM rfl (zN (zT (zQ (zR ?_))))))
  obtain ⟨v1, h_v1, hr⟩ := zB hr
  refine zS rfl rfl rfl (zC rfl rfl rfl (by kernel_rfl) (LC.pure (c125 h_v1) .nil)) (zS rfl rfl rfl (LOp.alloc rfl zt55 rfl rfl) (zS rfl rfl rfl (LOp.store rfl rfl rfl rfl vt55 rfl rfl rfl rfl) (zN (zT (zQ (LW.ent (Ent.slot rfl) (LW.drawW (by kernel_rfl) (by kernel_rfl) (zF rfl rfl rfl (LAt.load rfl rfl rfl vt55 rfl rfl) rfl ?_))))))))
  obtain ⟨v2, h_v2, hr⟩ := zB hr
  refine zF (F := []) (s := none) rfl rfl rfl (fun H _ => zC rfl rfl rfl (by kernel_rfl) (LC.pure (c3043 h_v2) (.cons Conv.p .nil))) rfl ?_
  refine zF (F := []) (s := none) rfl rfl rfl (fun H _ => LOp.build rfl bt75 rfl rfl rfl) rfl ?_
  obtain ⟨v3, h_v3, hr⟩ := zB hr
  refine zF (F := []) (s := none) rfl rfl rfl (fun H _ => zC rfl rfl rfl (by kernel_rfl) (LC.pure (c3018 h_v3) (.cons Conv.p (.cons Conv.p (.cons (Conv.agg (.cons Conv.zs (.cons Conv.zs .nil))) (.cons Conv.zs .nil)))))) rfl ?_
  refine zK rfl ?_
  refine zF (F := []) (s := none) rfl rfl rfl (fun H _ => LOp.extract rfl rfl rfl) rfl ?_
  refine zF (F := []) (s := none) rfl rfl rfl (fun H _ => LOp.extract rfl rfl rfl) rfl ?_
  refine zF rfl rfl rfl (LAt.alloc rfl zt1071 (id := 1) rfl) rfl (zF rfl rfl rfl (LAt.store rfl rfl rfl rfl vt1071 rfl rfl rfl) rfl (zK rfl ?_))
  refine LF.nil ⟨by kernel_rfl, ?_⟩
  refine zT (zQ (LW.ent (Ent.slot rfl) (LW.drawW (by kernel_rfl) (by kernel_rfl) (zF rfl rfl rfl (LAt.load rfl rfl rfl vt1071 rfl rfl) rfl ?_))))
  obtain ⟨v4, h_v4, hr⟩ := zB hr
  refine zF (F := []) (s := none) rfl rfl rfl (fun H _ => zC rfl rfl rfl (by kernel_rfl) (LC.pure (c3043 h_v4) (.cons Conv.p .nil))) rfl ?_
  refine zF (F := []) (s := none) rfl rfl rfl (fun H _ => LOp.buildSlice rfl st1035 rfl rfl rfl rfl rfl) rfl ?_
  obtain ⟨v5, h_v5, hr⟩ := zB hr
  refine zF (F := []) (s := none) rfl rfl rfl (fun H _ => zC rfl rfl rfl (by kernel_rfl) (LC.pure (c1031 h_v5) (.cons Conv.p .nil))) rfl ?_
  refine zF rfl rfl rfl (LAt.alloc rfl zt75 (id := 2) rfl) rfl (zF rfl rfl rfl (LAt.store rfl rfl rfl rfl vt75 rfl rfl rfl) rfl ?_)
  refine LF.nil ⟨by kernel_rfl, ?_⟩
  refine zT (zQ (zR (zS rfl rfl rfl (zD rfl rfl rfl vt55 rfl rfl) (zS rfl rfl rfl (zD rfl rfl rfl vt1071 rfl rfl) (zS rfl rfl rfl (LOp.buildSlice rfl st1035 rfl rfl rfl rfl rfl) ?_)))))
  obtain ⟨v6, h_v6, hr⟩ := zB hr
  refine zS rfl rfl rfl (zC rfl rfl rfl (by kernel_rfl) (LC.pure (c3036 h_v6) (.cons Conv.p (.cons Conv.p .nil)))) (zM rfl (zN (zT (zQ (LW.draw (by kernel_rfl) (by kernel_rfl) ?_)))))
  obtain ⟨v7, h_v7, hr⟩ := zB hr
  refine zE rfl rfl rfl (zC rfl rfl rfl (by kernel_rfl) (LC.pure (c1031 h_v7) (.cons Conv.zs .nil))) (zE rfl rfl rfl (LOp.field rfl rfl rfl ft75_0 rfl rfl) (zE rfl rfl rfl (LOp.lenM rfl rfl (by kernel_rfl)) (zE rfl rfl rfl (LOp.bin rfl rfl rfl rfl) (zH rfl ?_))))
  refine LO.cases 26 rfl (fun (g1 : ((v7.B.length : Int) == 0) = true) => ?_) (fun (g1 : ((v7.B.length : Int) == 0) = false) => ?_)
  ·
    have hr := zI g1 hr
    refine LO.gd rfl rfl rfl (gd g1 rfl) rfl (zA rfl rfl ft75_0) (LO.gd rfl rfl rfl (gd g1 rfl) rfl (zD rfl rfl rfl vt27 rfl rfl) (LO.gd rfl rfl rfl (gd g1 rfl) rfl (LOp.lenM rfl rfl (by kernel_rfl)) (LO.gd rfl rfl rfl (gd g1 rfl) rfl (LOp.bin rfl rfl rfl rfl) (zE rfl rfl rfl (LOp.pickT rfl (gdl g1 rfl) rfl) (zH rfl ?_)))))
    refine LO.cases 32 rfl (fun (g2 : ((v5.B.length : Int) == 1) = true) => ?_) (fun (g2 : ((v5.B.length : Int) == 1) = false) => ?_)
    ·
      have hr := zI g2 hr
      refine LO.gd rfl rfl rfl (gd g2 rfl) rfl (zD rfl rfl rfl vt75 rfl rfl) ?_
      obtain ⟨v8, h_v8, hr⟩ := zB hr
      refine LO.gd rfl rfl rfl (gd g2 rfl) rfl (zC rfl rfl rfl (by kernel_rfl) (LC.pure (c3034 h_v8) (.cons Conv.p .nil))) (LO.gd rfl rfl rfl (gd g2 rfl) rfl (LOp.not rfl rfl) (zE rfl rfl rfl (LOp.pickT rfl (gdl g2 rfl) rfl) (zH rfl ?_)))
      refine LO.cases 37 rfl (fun (g3 : (!v8) = true) => ?_) (fun (g3 : (!v8) = false) => ?_)
      ·
        have hr := zI g3 hr
        refine LO.gd rfl rfl rfl (gd g3 rfl) rfl (zA rfl rfl ft75_0) (LO.gd rfl rfl rfl (gd g3 rfl) rfl (zD rfl rfl rfl vt27 rfl rfl) ?_)
        obtain ⟨y1, h_y1, hr⟩ := zB hr
        refine LO.gd rfl rfl rfl (gd g3 rfl) rfl (LOp.indexAddrX rfl rfl rfl st27 h_y1 rfl) (LO.gd rfl rfl rfl (gd g3 rfl) rfl (LOp.loadC rfl rfl rfl vt42 rfl rfl) (LO.gd rfl rfl rfl (gd g3 rfl) rfl (zA rfl rfl ft75_0) (LO.gd rfl rfl rfl (gd g3 rfl) rfl (zD rfl rfl rfl vt27 rfl rfl) ?_)))
        obtain ⟨y2, h_y2, hr⟩ := zB hr
        refine LO.gd rfl rfl rfl (gd g3 rfl) rfl (LOp.indexAddrX rfl rfl rfl st27 h_y2 rfl) (LO.gd rfl rfl rfl (gd g3 rfl) rfl (LOp.loadC rfl rfl rfl vt42 rfl rfl) (LO.gd rfl rfl rfl (gd g3 rfl) rfl (LOp.buildSlice rfl st27 rfl rfl rfl rfl rfl) (LO.gd rfl rfl rfl (gd g3 rfl) rfl (LOp.build rfl bt75 rfl rfl rfl) ?_)))
        obtain ⟨v9, h_v9, hr⟩ := zB hr
        refine LO.gd rfl rfl rfl (gd g3 rfl) rfl (zC rfl rfl rfl (by kernel_rfl) (LC.pure (c3034 h_v9) (.cons (Conv.agg (.cons Conv.p (.cons Conv.zs .nil))) .nil))) (zE rfl rfl rfl (LOp.pickT rfl (gdl g3 rfl) rfl) (zH rfl ?_))
        refine LO.cases 50 rfl (fun (g4 : v9 = true) => ?_) (fun (g4 : v9 = false) => ?_)
        ·
          have hr := zI g4 hr
          refine LO.gd rfl rfl rfl (gd g4 rfl) rfl (LOp.move rfl rfl) (LO.gd rfl rfl rfl (gd g4 rfl) rfl (LOp.lenM rfl rfl (by kernel_rfl)) (LO.gd rfl rfl rfl (gd g4 rfl) rfl (LOp.bin rfl rfl rfl rfl) (zE rfl rfl rfl (LOp.pickT rfl (gdl g4 rfl) rfl) (zH rfl ?_))))
          refine LO.cases 55 rfl (fun (g5 : ((v6.length : Int) == 1) = true) => ?_) (fun (g5 : ((v6.length : Int) == 1) = false) => ?_)
          ·
            have hr := zI g5 hr
            refine LO.gd rfl rfl rfl (gd g5 rfl) rfl (zD rfl rfl rfl vt1071 rfl rfl) (LO.gd rfl rfl rfl (gd g5 rfl) rfl (LOp.buildSlice rfl st1035 rfl rfl rfl rfl rfl) ?_)
            obtain ⟨v10, h_v10, hr⟩ := zB hr
            refine LO.gd rfl rfl rfl (gd g5 rfl) rfl (zC rfl rfl rfl (by kernel_rfl) (LC.pure (c3033 h_v10) (.cons Conv.p .nil))) (LO.gd rfl rfl rfl (gd g5 rfl) rfl (LOp.not rfl rfl) (zE rfl rfl rfl (LOp.pickT rfl (gdl g5 rfl) rfl) (zH rfl (LO.nil (zT (LW.ret ?_))))))
            obtain rfl := zJ hr
            refine finP_ret (.one (.tmp rfl)) ?_
            exact Conv.p
          ·
            have hr := zO g5 hr
            refine LO.sk rfl rfl rfl (gd g5 rfl) rfl rfl (LO.sk rfl rfl rfl (gd g5 rfl) rfl rfl (LO.sk rfl rfl rfl (gd g5 rfl) rfl rfl (LO.sk rfl rfl rfl (gd g5 rfl) rfl rfl (zE rfl rfl rfl (LOp.pickF rfl (gdl g5 rfl) rfl) (zH rfl (LO.nil (zT (LW.ret ?_))))))))
            obtain rfl := zJ hr
            refine finP_ret (.one (.tmp rfl)) ?_
            exact Conv.p
        ·
          have hr := zO g4 hr
          refine LO.sk rfl rfl rfl (gd g4 rfl) rfl rfl (LO.sk rfl rfl rfl (gd g4 rfl) rfl rfl (LO.sk rfl rfl rfl (gd g4 rfl) rfl rfl (zE rfl rfl rfl (LOp.pickF rfl (gdl g4 rfl) rfl) (zH rfl (LO.sk rfl rfl rfl rfl rfl rfl (LO.sk rfl rfl rfl rfl rfl rfl (LO.sk rfl rfl rfl rfl rfl rfl (LO.sk rfl rfl rfl rfl rfl rfl (zE rfl rfl rfl (LOp.pickF rfl rfl rfl) (zH rfl (LO.nil ?_)))))))))))
          refine zT (LW.ret ?_)
          obtain rfl := zJ hr
          refine finP_ret (.one (.tmp rfl)) ?_
          exact Conv.p
      ·
        have hr := zO g3 hr
        refine LO.sk rfl rfl rfl (gd g3 rfl) rfl rfl (LO.sk rfl rfl rfl (gd g3 rfl) rfl rfl (LO.sk rfl rfl rfl (gd g3 rfl) rfl rfl (LO.sk rfl rfl rfl (gd g3 rfl) rfl rfl (LO.sk rfl rfl rfl (gd g3 rfl) rfl rfl (LO.sk rfl rfl rfl (gd g3 rfl) rfl rfl (LO.sk rfl rfl rfl (gd g3 rfl) rfl rfl (LO.sk rfl rfl rfl (gd g3 rfl) rfl rfl (LO.sk rfl rfl rfl (gd g3 rfl) rfl rfl (LO.sk rfl rfl rfl (gd g3 rfl) rfl rfl (LO.sk rfl rfl rfl (gd g3 rfl) rfl rfl (zE rfl rfl rfl (LOp.pickF rfl (gdl g3 rfl) rfl) ?_)))))))))))
        refine zH rfl (LO.sk rfl rfl rfl rfl rfl rfl (LO.sk rfl rfl rfl rfl rfl rfl (LO.sk rfl rfl rfl rfl rfl rfl (zE rfl rfl rfl (LOp.pickF rfl rfl rfl) (zH rfl (LO.sk rfl rfl rfl rfl rfl rfl (LO.sk rfl rfl rfl rfl rfl rfl (LO.sk rfl rfl rfl rfl rfl rfl (LO.sk rfl rfl rfl rfl rfl rfl (zE rfl rfl rfl (LOp.pickF rfl rfl rfl) (zH rfl ?_)))))))))))
        refine LO.nil (zT (LW.ret ?_))
        obtain rfl := zJ hr
        refine finP_ret (.one (.tmp rfl)) ?_
        exact Conv.p
    ·
      have hr := zO g2 hr
      refine LO.sk rfl rfl rfl (gd g2 rfl) rfl rfl (LO.sk rfl rfl rfl (gd g2 rfl) rfl rfl (LO.sk rfl rfl rfl (gd g2 rfl) rfl rfl (zE rfl rfl rfl (LOp.pickF rfl (gdl g2 rfl) rfl) (zH rfl (LO.sk rfl rfl rfl rfl rfl rfl (LO.sk rfl rfl rfl rfl rfl rfl (LO.sk rfl rfl rfl rfl rfl rfl (LO.sk rfl rfl rfl rfl rfl rfl (LO.sk rfl rfl rfl rfl rfl rfl (LO.sk rfl rfl rfl rfl rfl rfl (LO.sk rfl rfl rfl rfl rfl rfl ?_)))))))))))
      refine LO.sk rfl rfl rfl rfl rfl rfl (LO.sk rfl rfl rfl rfl rfl rfl (LO.sk rfl rfl rfl rfl rfl rfl (LO.sk rfl rfl rfl rfl rfl rfl (zE rfl rfl rfl (LOp.pickF rfl rfl rfl) (zH rfl (LO.sk rfl rfl rfl rfl rfl rfl (LO.sk rfl rfl rfl rfl rfl rfl (LO.sk rfl rfl rfl rfl rfl rfl (zE rfl rfl rfl (LOp.pickF rfl rfl rfl) (zH rfl (LO.sk rfl rfl rfl rfl rfl rfl ?_)))))))))))
      refine LO.sk rfl rfl rfl rfl rfl rfl (LO.sk rfl rfl rfl rfl rfl rfl (LO.sk rfl rfl rfl rfl rfl rfl (zE rfl rfl rfl (LOp.pickF rfl rfl rfl) (zH rfl (LO.nil (zT (LW.ret ?_)))))))
      obtain rfl := zJ hr
      refine finP_ret (.one (.tmp rfl)) ?_
      exact Conv.p
  ·
    have hr := zO g1 hr
    refine LO.sk rfl rfl rfl (gd g1 rfl) rfl rfl (LO.sk rfl rfl rfl (gd g1 rfl) rfl rfl (LO.sk rfl rfl rfl (gd g1 rfl) rfl rfl (LO.sk rfl rfl rfl (gd g1 rfl) rfl rfl (zE rfl rfl rfl (LOp.pickF rfl (gdl g1 rfl) rfl) (zH rfl (LO.sk rfl rfl rfl rfl rfl rfl (LO.sk rfl rfl rfl rfl rfl rfl (LO.sk rfl rfl rfl rfl rfl rfl (zE rfl rfl rfl (LOp.pickF rfl rfl rfl) (zH rfl (LO.sk rfl rfl rfl rfl rfl rfl ?_)))))))))))
    refine LO.sk rfl rfl rfl rfl rfl rfl (LO.sk rfl rfl rfl rfl rfl rfl (LO.sk rfl rfl rfl rfl rfl rfl (LO.sk rfl rfl rfl rfl rfl rfl (LO.sk rfl rfl rfl rfl rfl rfl (LO.sk rfl rfl rfl rfl rfl rfl (LO.sk rfl rfl rfl rfl rfl rfl (LO.sk rfl rfl rfl rfl rfl rfl (LO.sk rfl rfl rfl rfl rfl rfl (LO.sk rfl rfl rfl rfl rfl rfl (zE rfl rfl rfl (LOp.pickF rfl rfl rfl) (zH rfl ?_)))))))))))
    refine LO.sk rfl rfl rfl rfl rfl rfl (LO.sk rfl rfl rfl rfl rfl rfl (LO.sk rfl rfl rfl rfl rfl rfl (zE rfl rfl rfl (LOp.pickF rfl rfl rfl) (zH rfl (LO.sk rfl rfl rfl rfl rfl rfl (LO.sk rfl rfl rfl rfl rfl rfl (LO.sk rfl rfl rfl rfl rfl rfl (LO.sk rfl rfl rfl rfl rfl rfl (zE rfl rfl rfl (LOp.pickF rfl rfl rfl) (zH rfl (LO.nil ?_)))))))))))
    refine zT (LW.ret ?_)
    obtain rfl := zJ hr
    refine finP_ret (.one (.tmp rfl)) ?_
    exact Conv.p
structure F3010_L1 where
  i : Int
def F3010_s1 (c : Cf) (l : List Nd) (v4 : (List ID)) (x1 : F3010_L1) : Option (F3010_L1 ⊕ (F3010_L1 ⊕ Bool)) :=
  bif decide (x1.i < (l.length : Int)) then
    (ix l x1.i).bind fun y1 =>
    (F89 c y1.V).bind fun v6 =>
    bif v6 then
      (ix l x1.i).bind fun y2 =>
      (ix v4 x1.i).bind fun y3 =>
      bif few y2.V.B then
        bif ((chainOf y2.V.B y3).length : Int) == 0 then
          some (.inr (.inr false))
        else
          (ix l x1.i).bind fun y4 =>
          (ix v4 x1.i).bind fun y5 =>
          (F46 y4.V.B y5).bind fun v7 =>
          bif decide ((v7.length : Int) > 0) then
            some (.inr (.inr false))
          else
            some (.inl (F3010_L1.mk (IntKind.i64.wrap (x1.i + 1))))
      else none
    else
      some (.inl (F3010_L1.mk (IntKind.i64.wrap (x1.i + 1))))
  else
    some (.inr (.inl (F3010_L1.mk x1.i)))
def F3010 (c : Cf) (l : List Nd) : Option Bool :=
  (F3029 ).bind fun v1 =>
  (F3030 l 6 20).bind fun v2 =>
  (
    bif !v1 then
      some true
    else
      bif !v2 then
        some true
      else
        some (decide ((c.W.length : Int) > 40))
  ).bind fun v3 =>
  bif v3 then
    some v1
  else
    (F3036 c l).bind fun v4 =>
    bif (v4.length : Int) != (l.length : Int) then
      some false
    else
      (iter (F3010_s1 c l v4) big (F3010_L1.mk 0)).bind fun b_v5 => Sum.elim (fun _ =>
        some true) some b_v5
set_option maxRecDepth 100000 in
theorem c3010 {c : Cf} {l : List Nd} {r_ : Bool} (hr : F3010 c l = some r_) : LPure Tryz.prog 10 [cfP c, .slice 12 (l.map ndP)] [.bool r_] := by
  refine LPure.start Tryz.func10 rfl rfl rfl rfl ?_
  unfold F3010 at hr
  refine zQ (zR (zS rfl rfl rfl (LOp.box rfl rfl rfl rfl rfl) (zM rfl (zN (zT (zQ (zR ?_)))))))
  obtain ⟨v1, h_v1, hr⟩ := zB hr
  refine zS rfl rfl rfl (zC rfl rfl rfl (by kernel_rfl) (LC.pure (c3029 h_v1) .nil)) (zM rfl (zN (zT (zQ (zR (zM rfl ?_))))))
  obtain ⟨v2, h_v2, hr⟩ := zB hr
  refine zS rfl rfl rfl (zC rfl rfl rfl (by kernel_rfl) (LC.pure (c3030 h_v2) (.cons Conv.p (.cons Conv.p (.cons Conv.p .nil))))) (zM rfl (zN (zT (zQ ?_))))
  obtain ⟨v3, hb_v3, ho_v3⟩ := zB hr
  clear hr
  refine LW.cut (E := [(1, .p (.slice 12 (l.map ndP))), (2, .ptr 0 0), (4, .p (.bool false)), (5, .p (.bool v1)), (23, .p (.bool v3))]) (O := [.box [.p (.slice 1 (c.W.map i64P)), .p (.int .u64 c.Seed), .p (.int .i64 c.Epoch), .p (.int .i64 c.Num), .p (.int .i64 c.Den)]]) ?_ ?_
  · have hr := hb_v3
    refine zR (zM rfl (zS rfl rfl rfl (LOp.not rfl rfl) (zM rfl ?_)))
    refine LOps.cases 14 rfl (fun (g1 : (!v1) = true) => ?_) (fun (g1 : (!v1) = false) => ?_)
    ·
      have hr := zI g1 hr
      refine zU rfl rfl rfl (gd g1 rfl) rfl rfl (zU rfl rfl rfl (gd g1 rfl) rfl rfl (zS rfl rfl rfl (LOp.pickT rfl (gdl g1 rfl) rfl) (zM rfl (zU rfl rfl rfl rfl rfl rfl (zU rfl rfl rfl rfl rfl rfl (zU rfl rfl rfl rfl rfl rfl (zU rfl rfl rfl rfl rfl rfl (zS rfl rfl rfl (LOp.pickT rfl rfl rfl) (zN (zT ?_))))))))))
      obtain rfl := zJ hr
      exact zW 1 ⟨rfl, rfl, rfl, rfl, rfl, trivial⟩ rfl rfl rfl rfl
    ·
      have hr := zO g1 hr
      refine zV rfl rfl rfl (gd g1 rfl) rfl (LOp.move rfl rfl) (zV rfl rfl rfl (gd g1 rfl) rfl (LOp.not rfl rfl) (zS rfl rfl rfl (LOp.pickF rfl (gdl g1 rfl) rfl) (zM rfl ?_)))
      refine LOps.cases 18 rfl (fun (g2 : (!v2) = true) => ?_) (fun (g2 : (!v2) = false) => ?_)
      ·
        have hr := zI g2 hr
        refine zU rfl rfl rfl (gd g2 rfl) rfl rfl (zU rfl rfl rfl (gd g2 rfl) rfl rfl (zU rfl rfl rfl (gd g2 rfl) rfl rfl (zU rfl rfl rfl (gd g2 rfl) rfl rfl (zS rfl rfl rfl (LOp.pickT rfl (gdl g2 rfl) rfl) (zN (zT ?_))))))
        obtain rfl := zJ hr
        exact zW 1 ⟨rfl, rfl, rfl, rfl, rfl, trivial⟩ rfl rfl rfl rfl
      ·
        have hr := zO g2 hr
        refine zV rfl rfl rfl (gd g2 rfl) rfl (zA rfl rfl ft55_0) (zV rfl rfl rfl (gd g2 rfl) rfl (zD rfl rfl rfl vt49 rfl rfl) (zV rfl rfl rfl (gd g2 rfl) rfl (LOp.lenM rfl rfl (by kernel_rfl)) (zV rfl rfl rfl (gd g2 rfl) rfl (LOp.bin rfl rfl rfl rfl) (zS rfl rfl rfl (LOp.pickF rfl (gdl g2 rfl) rfl) (zN (zT ?_))))))
        obtain rfl := zJ hr
        exact zW 1 ⟨rfl, rfl, rfl, rfl, rfl, trivial⟩ rfl rfl rfl rfl
  · have hr := ho_v3
    clear hb_v3
    refine zX rfl (fun (g3 : v3 = true) => ?_) (fun (g3 : v3 = false) => ?_)
    ·
      have hr := zI g3 hr
      refine zQ (zR (zM rfl (zM rfl (zN (zT (LW.ret (thn_r ?_)))))))
      obtain rfl := zJ hr
      refine finP_ret (.one (.tmp rfl)) ?_
      exact Conv.p
    ·
      have hr := zO g3 hr
      refine LW.skip (zT (zQ (zR (zS rfl rfl rfl (zD rfl rfl rfl vt55 rfl rfl) (zM rfl ?_)))))
      obtain ⟨v4, h_v4, hr⟩ := zB hr
      refine zS rfl rfl rfl (zC rfl rfl rfl (by kernel_rfl) (LC.pure (c3036 h_v4) (.cons Conv.p (.cons Conv.p .nil)))) (zM rfl (zN (zT (zQ (zQ (zR (zM rfl (zS rfl rfl rfl (LOp.lenM rfl rfl (by kernel_rfl)) (zM rfl (zS rfl rfl rfl (LOp.lenM rfl rfl (by kernel_rfl)) (zS rfl rfl rfl (LOp.bin rfl rfl rfl rfl) ?_)))))))))))
      refine zN (zT ?_)
      refine zX rfl (fun (g4 : ((v4.length : Int) != (l.length : Int)) = true) => ?_) (fun (g4 : ((v4.length : Int) != (l.length : Int)) = false) => ?_)
      ·
        have hr := zI g4 hr
        refine zQ (zR (zM rfl (zN (zT (LW.ret (thn_r ?_))))))
        obtain rfl := zJ hr
        refine finP_ret (.one (.tmp rfl)) ?_
        exact Conv.p
      ·
        have hr := zO g4 hr
        refine LW.skip (zT (zQ (zQ (zR (zM rfl (zN (zT ?_)))))))
        obtain ⟨b_v5, hb_v5, ho_v5⟩ := zB hr
        clear hr
        refine LW.tailB (b := b_v5) (E := fun v5 => [(4, .p (.bool false))]) (O := fun v5 => [.box [.p (.slice 1 (c.W.map i64P)), .p (.int .u64 c.Seed), .p (.int .i64 c.Epoch), .p (.int .i64 c.Num), .p (.int .i64 c.Den)]]) ?_ (fun v5 e_v5 env_v5 H_v5 hw_v5 => ?_)
        · refine LW.block ?_
          refine LW.iterB (E := fun x1 : F3010_L1 => [(1, .p (.slice 12 (l.map ndP))), (2, .ptr 0 0), (4, .p (.bool false)), (7, .p (.slice 2 (v4.map idP))), (8, .p (.int .i64 x1.i))]) (O := fun x1 => [.box [.p (.slice 1 (c.W.map i64P)), .p (.int .u64 c.Seed), .p (.int .i64 c.Epoch), .p (.int .i64 c.Num), .p (.int .i64 c.Den)]]) hb_v5 (zW 1 ⟨rfl, rfl, rfl, rfl, rfl, trivial⟩ rfl rfl rfl rfl) (fun x1 z_x1 hr hb_x1 => ?_)
          unfold F3010_s1 at hr
          refine zQ (zQ (zR (zM rfl (zM rfl (zS rfl rfl rfl (LOp.lenM rfl rfl (by kernel_rfl)) (zS rfl rfl rfl (LOp.bin rfl rfl rfl rfl) (zN (zT ?_))))))))
          refine zX rfl (fun (g5 : (decide (x1.i < (l.length : Int))) = true) => ?_) (fun (g5 : (decide (x1.i < (l.length : Int))) = false) => ?_)
          ·
            have hr := zI g5 hr
            refine LW.skip (zT (zQ (LW.block (zQ (LW.draw (by kernel_rfl) (by kernel_rfl) (zE rfl rfl rfl (zD rfl rfl rfl vt55 rfl rfl) (zH rfl (zH rfl ?_))))))))
            obtain ⟨y1, h_y1, hr⟩ := zB hr
            refine zE rfl rfl rfl (LOp.indexAddrX rfl rfl rfl st1035 h_y1 rfl) (zE rfl rfl rfl (LOp.fieldAddrC rfl rfl ft1071_2 rfl) (zE rfl rfl rfl (LOp.loadC rfl rfl rfl vt75 rfl rfl) ?_))
            obtain ⟨v6, h_v6, hr⟩ := zB hr
            refine zE rfl rfl rfl (zC rfl rfl rfl (by kernel_rfl) (LC.pure (c89 h_v6) (.cons Conv.p (.cons Conv.p .nil)))) (zH rfl ?_)
            refine LO.cases 46 rfl (fun (g6 : v6 = true) => ?_) (fun (g6 : v6 = false) => ?_)
            ·
              have hr := zI g6 hr
              refine LO.gd rfl rfl rfl (gd g6 rfl) rfl (LOp.move rfl rfl) (LO.gd rfl rfl rfl (gd g6 rfl) rfl (LOp.move rfl rfl) ?_)
              obtain ⟨y2, h_y2, hr⟩ := zB hr
              refine LO.gd rfl rfl rfl (gd g6 rfl) rfl (LOp.indexAddrX rfl rfl rfl st1035 h_y2 rfl) (LO.gd rfl rfl rfl (gd g6 rfl) rfl (LOp.fieldAddrC rfl rfl ft1071_2 rfl) (LO.gd rfl rfl rfl (gd g6 rfl) rfl (LOp.fieldAddrC rfl rfl ft75_0 rfl) (LO.gd rfl rfl rfl (gd g6 rfl) rfl (LOp.loadC rfl rfl rfl vt27 rfl rfl) (LO.gd rfl rfl rfl (gd g6 rfl) rfl (LOp.move rfl rfl) (LO.gd rfl rfl rfl (gd g6 rfl) rfl (LOp.move rfl rfl) ?_)))))
              obtain ⟨y3, h_y3, hr⟩ := zB hr
              refine LO.gd rfl rfl rfl (gd g6 rfl) rfl (LOp.indexAddrX rfl rfl rfl st31 h_y3 rfl) (LO.gd rfl rfl rfl (gd g6 rfl) rfl (LOp.loadC rfl rfl rfl vt24 rfl rfl) ?_)
              obtain ⟨q1, hr⟩ := zG hr
              refine LO.gd rfl rfl rfl (gd g6 rfl) rfl (zC rfl rfl rfl (by kernel_rfl) (LC.pure (c39 (l := y2.V.B) (id := y3) (few_le q1)) (.cons Conv.p (.cons Conv.p .nil)))) (LO.gd rfl rfl rfl (gd g6 rfl) rfl (LOp.lenM rfl rfl (by kernel_rfl)) (LO.gd rfl rfl rfl (gd g6 rfl) rfl (LOp.bin rfl rfl rfl rfl) (LO.gd rfl rfl rfl (gd g6 rfl) rfl (LOp.move rfl rfl) ?_)))
              refine LO.cases 60 rfl (fun (g7 : (((chainOf y2.V.B y3).length : Int) == 0) = true) => ?_) (fun (g7 : (((chainOf y2.V.B y3).length : Int) == 0) = false) => ?_)
              ·
                have hr := zI g7 hr
                refine LO.sk rfl rfl rfl (gd g7 rfl) rfl rfl (LO.sk rfl rfl rfl (gd g7 rfl) rfl rfl (LO.sk rfl rfl rfl (gd g7 rfl) rfl rfl (LO.sk rfl rfl rfl (gd g7 rfl) rfl rfl (LO.sk rfl rfl rfl (gd g7 rfl) rfl rfl (LO.sk rfl rfl rfl (gd g7 rfl) rfl rfl (LO.sk rfl rfl rfl (gd g7 rfl) rfl rfl (LO.sk rfl rfl rfl (gd g7 rfl) rfl rfl (LO.sk rfl rfl rfl (gd g7 rfl) rfl rfl (LO.sk rfl rfl rfl (gd g7 rfl) rfl rfl (LO.sk rfl rfl rfl (gd g7 rfl) rfl rfl (LO.sk rfl rfl rfl (gd g7 rfl) rfl rfl ?_)))))))))))
                refine LO.sk rfl rfl rfl (gd g7 rfl) rfl rfl (LO.gd rfl rfl rfl (gd g6 rfl) rfl (LOp.pickT rfl (gdl g7 rfl) rfl) (zE rfl rfl rfl (LOp.pickT rfl (gdl g6 rfl) rfl) (LO.nil (zT (LW.condT rfl (zQ (zR (zM rfl (zN (zT (LW.ret ?_)))))))))))
                refine inBlk_r (thn_r (thn_r (inBlk_r (thn_r (thn_r ?_)))))
                obtain rfl := zJ hr
                have hr := congrArg some (hb_x1 _ rfl)
                obtain rfl := zJ hr
                have hr := sum_r ho_v5
                obtain rfl := zJ hr
                refine finP_ret (.one (.tmp rfl)) ?_
                exact Conv.p
              ·
                have hr := zO g7 hr
                refine LO.gd rfl rfl rfl (gd g7 rfl) rfl (LOp.move rfl rfl) (LO.gd rfl rfl rfl (gd g7 rfl) rfl (LOp.move rfl rfl) ?_)
                obtain ⟨y4, h_y4, hr⟩ := zB hr
                refine LO.gd rfl rfl rfl (gd g7 rfl) rfl (LOp.indexAddrX rfl rfl rfl st1035 h_y4 rfl) (LO.gd rfl rfl rfl (gd g7 rfl) rfl (LOp.fieldAddrC rfl rfl ft1071_2 rfl) (LO.gd rfl rfl rfl (gd g7 rfl) rfl (LOp.fieldAddrC rfl rfl ft75_0 rfl) (LO.gd rfl rfl rfl (gd g7 rfl) rfl (LOp.loadC rfl rfl rfl vt27 rfl rfl) (LO.gd rfl rfl rfl (gd g7 rfl) rfl (LOp.move rfl rfl) (LO.gd rfl rfl rfl (gd g7 rfl) rfl (LOp.move rfl rfl) ?_)))))
                obtain ⟨y5, h_y5, hr⟩ := zB hr
                refine LO.gd rfl rfl rfl (gd g7 rfl) rfl (LOp.indexAddrX rfl rfl rfl st31 h_y5 rfl) (LO.gd rfl rfl rfl (gd g7 rfl) rfl (LOp.loadC rfl rfl rfl vt24 rfl rfl) ?_)
                obtain ⟨v7, h_v7, hr⟩ := zB hr
                refine LO.gd rfl rfl rfl (gd g7 rfl) rfl (zC rfl rfl rfl (by kernel_rfl) (LC.pure (c46 h_v7) (.cons Conv.p (.cons Conv.p .nil)))) (LO.gd rfl rfl rfl (gd g7 rfl) rfl (LOp.lenM rfl rfl (by kernel_rfl)) (LO.gd rfl rfl rfl (gd g7 rfl) rfl (LOp.bin rfl rfl rfl rfl) (LO.gd rfl rfl rfl (gd g6 rfl) rfl (LOp.pickF rfl (gdl g7 rfl) rfl) (zE rfl rfl rfl (LOp.pickT rfl (gdl g6 rfl) rfl) (LO.nil (zT ?_))))))
                refine zX rfl (fun (g8 : (decide ((v7.length : Int) > 0)) = true) => ?_) (fun (g8 : (decide ((v7.length : Int) > 0)) = false) => ?_)
                ·
                  have hr := zI g8 hr
                  refine zQ (zR (zM rfl (zN (zT (LW.ret (inBlk_r (thn_r (thn_r (inBlk_r (thn_r (thn_r ?_)))))))))))
                  obtain rfl := zJ hr
                  have hr := congrArg some (hb_x1 _ rfl)
                  obtain rfl := zJ hr
                  have hr := sum_r ho_v5
                  obtain rfl := zJ hr
                  refine finP_ret (.one (.tmp rfl)) ?_
                  exact Conv.p
                ·
                  have hr := zO g8 hr
                  refine LW.skip (inBlk_n (zT (zR (zM rfl (zS rfl rfl rfl (LOp.bin rfl rfl rfl rfl) (zM rfl (zN (zT ?_))))))))
                  obtain rfl := zJ hr
                  exact ⟨_, rfl, zW 1 ⟨rfl, rfl, rfl, rfl, rfl, trivial⟩ rfl rfl rfl rfl⟩
            ·
              have hr := zO g6 hr
              refine LO.sk rfl rfl rfl (gd g6 rfl) rfl rfl (LO.sk rfl rfl rfl (gd g6 rfl) rfl rfl (LO.sk rfl rfl rfl (gd g6 rfl) rfl rfl (LO.sk rfl rfl rfl (gd g6 rfl) rfl rfl (LO.sk rfl rfl rfl (gd g6 rfl) rfl rfl (LO.sk rfl rfl rfl (gd g6 rfl) rfl rfl (LO.sk rfl rfl rfl (gd g6 rfl) rfl rfl (LO.sk rfl rfl rfl (gd g6 rfl) rfl rfl (LO.sk rfl rfl rfl (gd g6 rfl) rfl rfl (LO.sk rfl rfl rfl (gd g6 rfl) rfl rfl (LO.sk rfl rfl rfl (gd g6 rfl) rfl rfl (LO.sk rfl rfl rfl (gd g6 rfl) rfl rfl ?_)))))))))))
              refine LO.sk rfl rfl rfl (gd g6 rfl) rfl rfl (LO.sk rfl rfl rfl (gd g6 rfl) rfl rfl (LO.sku rfl rfl rfl rfl rfl (LO.sku rfl rfl rfl rfl rfl (LO.sku rfl rfl rfl rfl rfl (LO.sku rfl rfl rfl rfl rfl (LO.sku rfl rfl rfl rfl rfl (LO.sku rfl rfl rfl rfl rfl (LO.sku rfl rfl rfl rfl rfl (LO.sku rfl rfl rfl rfl rfl (LO.sku rfl rfl rfl rfl rfl (LO.sku rfl rfl rfl rfl rfl ?_)))))))))))
              refine LO.sku rfl rfl rfl rfl rfl (LO.sku rfl rfl rfl rfl rfl (LO.sku rfl rfl rfl rfl rfl (LO.sk rfl rfl rfl (gd g6 rfl) rfl rfl (zE rfl rfl rfl (LOp.pickF rfl (gdl g6 rfl) rfl) (LO.nil (zT (LW.condF rfl (LW.skip (inBlk_n (zT (zR ?_)))))))))))
              refine zM rfl (zS rfl rfl rfl (LOp.bin rfl rfl rfl rfl) (zM rfl (zN (zT ?_))))
              obtain rfl := zJ hr
              exact ⟨_, rfl, zW 1 ⟨rfl, rfl, rfl, rfl, rfl, trivial⟩ rfl rfl rfl rfl⟩
          ·
            have hr := zO g5 hr
            refine LW.exit (thn_e (thn_e (inBlk_self (zT ?_))))
            obtain rfl := zJ hr
            have hr := congrArg some (hb_x1 _ rfl)
            obtain rfl := zJ hr
            exact ⟨_, rfl, zW 1 ⟨rfl, trivial⟩ rfl rfl rfl rfl⟩
        · obtain rfl := e_v5
          have hr := sum_l ho_v5
          clear hb_v5
          refine zT (LW.weak hw_v5 (zQ (zR (zM rfl (zN (zT (LW.ret ?_)))))))
          obtain rfl := zJ hr
          refine finP_ret (.one (.tmp rfl)) ?_
          exact Conv.p
theorem F3029_eq : F3029 = some true := by kernel_rfl
theorem iter_go {α β : Type} {step : α → Option (α ⊕ β)} {n : Nat} {x y : α} (h : step x = some (.inl y)) : iter step (n + 1) x = iter step n y := by
  rw [iter, h]
theorem iter_end {α β : Type} {step : α → Option (α ⊕ β)} {n : Nat} {x : α} {b : β} (h : step x = some (.inr b)) : iter step (n + 1) x = some b := by
  rw [iter, h]
theorem big3 : big = 4611686018427387901 + 1 + 1 + 1 := rfl
def lessP (a b : ID) : Bool := decide (a.1 < b.1 ∨ a.1 = b.1 ∧ a.2 < b.2)
def cmpI (x y : Int) : Int := if x < y then -1 else if x > y then 1 else 0
theorem F168_eq (x y : Int) : F168 x y = some (cmpI x y) := by
  have h : ∀ z : Int, F175 z = some false := fun z => by unfold F175; rw [show (z != z) = false by simp]
  unfold F168 cmpI
  rw [h x, ob, h y, ob, cf, cf]
  by_cases h1 : x < y
  · rw [decide_eq_true h1, ct, if_pos h1]
  · rw [decide_eq_false h1, cf, if_neg h1]
    by_cases h2 : x > y
    · rw [decide_eq_true h2, ct, if_pos h2]
    · rw [decide_eq_false h2, cf, if_neg h2]
theorem F151_two (a1 a2 b1 b2 : Int) : F151 [a1, a2] [b1, b2] = some (if cmpI a1 b1 ≠ 0 then cmpI a1 b1 else cmpI a2 b2) := by
  unfold F151
  have h0 : ∀ i : Int, i = 0 → F151_s1 [a1, a2] [b1, b2] (F151_L1.mk i) = if cmpI a1 b1 ≠ 0 then some (.inr (.inr (cmpI a1 b1))) else some (.inl (F151_L1.mk 1)) := by
    rintro i rfl
    unfold F151_s1
    simp only
    rw [show decide ((0 : Int) < (([a1, a2] : List Int).length : Int)) = true from rfl, ct, show ix [a1, a2] 0 = some a1 from rfl, ob, show decide ((0 : Int) ≥ (([b1, b2] : List Int).length : Int)) = false from rfl, cf, show ix [b1, b2] 0 = some b1 from rfl, ob, F168_eq, ob, show IntKind.i64.wrap (0 + 1) = 1 from wrapI (by omega) (by omega)]
    by_cases h : cmpI a1 b1 = 0
    · rw [show (cmpI a1 b1 != 0) = false by simp [h], cf, if_neg (not_not_intro h)]
    · rw [show (cmpI a1 b1 != 0) = true by simp [h], ct, if_pos h]
  have h1 : F151_s1 [a1, a2] [b1, b2] (F151_L1.mk 1) = if cmpI a2 b2 ≠ 0 then some (.inr (.inr (cmpI a2 b2))) else some (.inl (F151_L1.mk 2)) := by
    unfold F151_s1
    simp only
    rw [show decide ((1 : Int) < (([a1, a2] : List Int).length : Int)) = true from rfl, ct, show ix [a1, a2] 1 = some a2 from rfl, ob, show decide ((1 : Int) ≥ (([b1, b2] : List Int).length : Int)) = false from rfl, cf, show ix [b1, b2] 1 = some b2 from rfl, ob, F168_eq, ob, show IntKind.i64.wrap (1 + 1) = 2 from wrapI (by omega) (by omega)]
    by_cases h : cmpI a2 b2 = 0
    · rw [show (cmpI a2 b2 != 0) = false by simp [h], cf, if_neg (not_not_intro h)]
    · rw [show (cmpI a2 b2 != 0) = true by simp [h], ct, if_pos h]
  have h2 : F151_s1 [a1, a2] [b1, b2] (F151_L1.mk 2) = some (.inr (.inl (F151_L1.mk 2))) := by
    unfold F151_s1
    simp only
    rw [show decide ((2 : Int) < (([a1, a2] : List Int).length : Int)) = false from rfl, cf]
  rw [big3]
  by_cases c1 : cmpI a1 b1 = 0
  · have e1 := h0 0 rfl
    rw [if_neg (not_not_intro c1)] at e1
    rw [iter_go e1, if_neg (not_not_intro c1)]
    by_cases c2 : cmpI a2 b2 = 0
    · rw [if_neg (not_not_intro c2)] at h1
      rw [iter_go h1, iter_end h2, ob, sl, show decide ((([a1, a2] : List Int).length : Int) < (([b1, b2] : List Int).length : Int)) = false from rfl, cf, c2]
    · rw [if_pos c2] at h1
      rw [iter_end h1, ob, sr]
  · have e1 := h0 0 rfl
    rw [if_pos c1] at e1
    rw [iter_end e1, if_pos c1, ob, sr]
theorem F120_eq (a b : ID) : F120 a b = some (lessP a b) := by
  unfold F120 lessP
  rw [F151_two, ob]
  congr 1
  refine decide_eq_decide.2 ?_
  unfold cmpI
  by_cases h1 : a.1 < b.1
  · simp [h1]
  · by_cases h2 : a.1 > b.1
    · have : a.1 ≠ b.1 := by omega
      simp [h1, h2, this]
    · have : a.1 = b.1 := by omega
      by_cases h3 : a.2 < b.2
      · simp [this, h3]
      · by_cases h4 : a.2 > b.2 <;> simp [this, h3, h4]
theorem lessP_irr (a : ID) : lessP a a = false := by unfold lessP; exact decide_eq_false (by omega)
def aboveP (a b : Rk) : Bool := if a.n = b.n then lessP b.id a.id else decide (a.n > b.n)
theorem F122_eq (a b : Rk) : F122 a b = some (aboveP a b) := by
  unfold F122 aboveP
  by_cases h : a.n = b.n
  · rw [show (a.n != b.n) = false by simp [h], cf, if_pos h, show (a.n == b.n) = true by simp [h], Bool.true_and, eqID]
    by_cases h2 : a.id = b.id
    · rw [decide_eq_true h2, Bool.not_true, cf, h2, lessP_irr]
    · rw [decide_eq_false h2, Bool.not_false, ct, F120_eq, ob]
  · rw [show (a.n != b.n) = true by simp [h], ct, if_neg h]
def underB (l : List Bk) (id h : ID) : Bool := decide (id ∈ chainOf l h)
def forL (l : List Bk) (v : List Vt) (id : ID) : List Int := (v.filter fun x => underB l id x.Head).map Vt.From
def onP (c : Cf) (l : List Bk) (v : List Vt) (id : ID) : Int := wtP c (forL l v id)
theorem findE_setEg {α β : Type} [DecidableEq α] {m : List (α × β)} {k q : α} {v : β} : findE (setE m k v) q = if k = q then some v else findE m q := by
  induction m with
  | nil => simp [setE, findE]
  | cons p r ih =>
    obtain ⟨a, b⟩ := p
    unfold setE
    by_cases h : a = k
    · rw [if_pos h]
      subst h
      by_cases h2 : a = q
      · simp [findE, h2]
      · simp [findE, h2]
    · rw [if_neg h]
      simp only [findE]
      rw [ih]
      by_cases h2 : a = q
      · rw [if_pos h2, if_pos h2, if_neg (fun e => h (by rw [h2, e]))]
      · rw [if_neg h2, if_neg h2]
def MemoOk (l : List Bk) (id : ID) (m : List (ID × Bool)) : Prop := ∀ h b, findE m h = some b → b = underB l id h
theorem F152_eq {l : List Bk} (hl : l.length ≤ 1000) {x : Vt} {c : Cf} {id : ID} {m : List (ID × Bool)} (hm : MemoOk l id m) : ∃ m', F152 x c l id m = some (underB l id x.Head, m') ∧ MemoOk l id m' := by
  unfold F152
  have hu : decide (indexOf (chainOf l x.Head) id ≥ 0) = underB l id x.Head := by
    unfold underB; exact decide_eq_decide.2 ⟨fun h => indexOf_mem.1 h, fun h => indexOf_mem.2 h⟩
  cases hf : findE m x.Head with
  | none =>
    refine ⟨setE m x.Head (underB l id x.Head), ?_, ?_⟩
    · rw [Option.isSome_none, Bool.not_false, ct, few_of hl, ct, hu]
    · intro h b hb
      rw [findE_setEg] at hb
      by_cases e : x.Head = h
      · rw [if_pos e] at hb; cases hb; rw [e]
      · rw [if_neg e] at hb; exact hm h b hb
  | some b =>
    refine ⟨m, ?_, hm⟩
    rw [Option.isSome_some, Bool.not_true, cf, Option.getD_some, hm _ _ hf]
theorem take_succ_getG {α : Type} {l : List α} {j : Nat} {y : α} (h : l[j]? = some y) : l.take (j + 1) = l.take j ++ [y] := by rw [List.take_add_one, h]; rfl
theorem forL_snoc {l : List Bk} {v : List Vt} {id : ID} {n : Nat} {y : Vt} (hy : v[n]? = some y) : forL l (v.take (n + 1)) id = forL l (v.take n) id ++ bif underB l id y.Head then [y.From] else [] := by
  unfold forL
  rw [take_succ_getG hy, List.filter_append, List.map_append]
  cases h : underB l id y.Head <;> simp [h]
theorem forL_len (l : List Bk) (v : List Vt) (id : ID) : (forL l v id).length ≤ v.length := by
  unfold forL; rw [List.length_map]; exact List.length_filter_le _ _
theorem F153_eq {l : List Bk} (hl : l.length ≤ 1000) {v : List Vt} (hv : v.length ≤ 1000) {c : Cf} {id : ID} : ∃ m', F153 v c l id [] = some (forL l v id, m') := by
  unfold F153
  have key := iter_inv (step := F153_s1 v c l id) (fun x => ∃ n : Nat, n ≤ v.length ∧ x.t12 = n ∧ MemoOk l id x.o3 ∧ x.out = forL l (v.take n) id) (fun x => v.length - x.t12.toNat) (fun b => b.out = forL l v id) (by
    rintro ⟨t, m, out⟩ ⟨n, hn, h1, hm, ho⟩
    simp only at h1 ho hm
    subst h1 ho
    by_cases hlt : n < v.length
    · left
      obtain ⟨y, hy, -⟩ := get_of hlt
      obtain ⟨m', e, hm'⟩ := F152_eq hl (x := y) (c := c) hm
      have hlen := forL_len l (v.take n) id
      rw [List.length_take] at hlen
      refine ⟨⟨((n + 1 : Nat) : Int), m', forL l (v.take (n + 1)) id⟩, ?_, ⟨n + 1, hlt, rfl, hm', rfl⟩, by simp only; omega⟩
      unfold F153_s1
      simp only
      rw [decide_eq_true (show (n : Int) < (v.length : Int) by omega), ct, ix_nat hy, ob, e, ob, forL_snoc hy, wrap_succ (n := n) (by omega)]
      cases hu : underB l id y.Head with
      | true => rw [ct, show F154 y = some y.From from rfl, ob, room_ok (by simp only [List.length_singleton]; omega) (by omega), ct, ct]
      | false => rw [cf, cf, List.append_nil]
    · right
      obtain rfl : n = v.length := by omega
      refine ⟨⟨(v.length : Int), m, forL l (v.take v.length) id⟩, ?_, by simp only [List.take_length]⟩
      unfold F153_s1
      simp only
      rw [decide_eq_false (show ¬ (v.length : Int) < (v.length : Int) by omega), cf]) (n := big) (x := ⟨0, [], []⟩) ⟨0, by omega, rfl, (fun h b hb => by cases hb), by simp [forL]⟩ (big_gt (by simp only; omega))
  obtain ⟨b, e, hp⟩ := key
  exact ⟨b.o3, by rw [e, ob, hp]⟩
theorem F121_eq {l : List Bk} (hl : l.length ≤ 1000) {v : List Vt} (hv : v.length ≤ 1000) (c : Cf) (id : ID) : F121 c l v id = some (onP c l v id) := by
  unfold F121
  obtain ⟨m', e⟩ := F153_eq hl hv (c := c) (id := id)
  have := forL_len l v id
  rw [e, ob, F70_eq (by simp only; omega), ob]; rfl
theorem on_in (c : Cf) (l : List Bk) (v : List Vt) (id : ID) : 0 ≤ onP c l v id := by
  unfold onP wtP
  split
  · next h => exact (wsum_in h.okW.2 _).1
  · omega
def bestK (f : ID → Int) : List ID → Rk → Rk
  | [], b => b
  | k :: r, b => bestK f r (bif aboveP ⟨f k, k⟩ b then ⟨f k, k⟩ else b)
theorem bestK_snoc (f : ID → Int) (k : ID) : ∀ (a : List ID) (b : Rk), bestK f (a ++ [k]) b = bif aboveP ⟨f k, k⟩ (bestK f a b) then ⟨f k, k⟩ else bestK f a b
  | [], _ => rfl
  | _ :: r, _ => bestK_snoc f k r _
def bestP (c : Cf) (l : List Bk) (v : List Vt) (id : ID) : Rk := bestK (onP c l v) (kidsOf l id) ⟨-1, (0, 0)⟩
theorem kids_len (l : List Bk) (id : ID) : (kidsOf l id).length ≤ l.length := by
  unfold kidsOf
  split
  · simp
  · rw [List.length_map]; exact List.length_filter_le _ _
theorem F79_eq {l : List Bk} (hl : l.length ≤ 1000) {v : List Vt} (hv : v.length ≤ 1000) (c : Cf) (id : ID) : F79 c l v id = some ((bestP c l v id).id, decide ((bestP c l v id).n ≥ 0)) := by
  unfold F79
  have hk := kids_len l id
  rw [F46_eq hl, ob]
  have e := count_loop (step := F79_s1 c l v (kidsOf l id)) (n := (kidsOf l id).length) (fun n => F79_L1.mk (n : Int) (bestK (onP c l v) ((kidsOf l id).take n) ⟨-1, (0, 0)⟩)) (F79_L1.mk ((kidsOf l id).length : Int) (bestP c l v id)) (fun n hn => by
    obtain ⟨y, hy, -⟩ := get_of hn
    unfold F79_s1
    simp only
    rw [decide_eq_true (show (n : Int) < ((kidsOf l id).length : Int) by omega), ct, ix_nat hy, ob, F121_eq hl hv, ob, F122_eq, ob, wrap_succ (n := n) (by omega), take_succ_getG hy, bestK_snoc]
    cases aboveP ⟨onP c l v y, y⟩ (bestK (onP c l v) ((kidsOf l id).take n) ⟨-1, (0, 0)⟩) with
    | true => rw [ct, ct]
    | false => rw [cf, cf]) (by
    unfold F79_s1
    simp only
    rw [decide_eq_false (show ¬ ((kidsOf l id).length : Int) < ((kidsOf l id).length : Int) by omega), cf, List.take_length]; rfl) (by omega)
  have e0 : F79_L1.mk ((0 : Nat) : Int) (bestK (onP c l v) ((kidsOf l id).take 0) ⟨-1, (0, 0)⟩) = F79_L1.mk 0 (Rk.mk (-1) (0, 0)) := rfl
  rw [e0] at e
  rw [e, ob]
theorem bestK_mem {f : ID → Int} (hf : ∀ k, 0 ≤ f k) : ∀ (a : List ID) (b : Rk), (a = [] ∧ bestK f a b = b) ∨ (bestK f a b = b ∧ 0 ≤ b.n) ∨ (∃ k ∈ a, bestK f a b = ⟨f k, k⟩) ∨ (b.n < -1)
  | [], b => .inl ⟨rfl, rfl⟩
  | k :: r, b => by
    by_cases hb : b.n < -1
    · exact .inr (.inr (.inr hb))
    · unfold bestK
      cases h : aboveP ⟨f k, k⟩ b with
      | true =>
        rw [ct]
        rcases bestK_mem hf r ⟨f k, k⟩ with ⟨rfl, e⟩ | ⟨e, -⟩ | ⟨k', hk', e⟩ | h4
        · exact .inr (.inr (.inl ⟨k, .head _, e⟩))
        · exact .inr (.inr (.inl ⟨k, .head _, e⟩))
        · exact .inr (.inr (.inl ⟨k', .tail _ hk', e⟩))
        · have := hf k; simp only at h4; omega
      | false =>
        rw [cf]
        have hb0 : 0 ≤ b.n := by
          unfold aboveP at h
          simp only at h
          have := hf k
          by_cases e : f k = b.n
          · omega
          · rw [if_neg e] at h
            have := of_decide_eq_false h
            omega
        rcases bestK_mem hf r b with ⟨rfl, e⟩ | h2 | ⟨k', hk', e⟩ | h4
        · exact .inr (.inl ⟨e, hb0⟩)
        · exact .inr (.inl h2)
        · exact .inr (.inr (.inl ⟨k', .tail _ hk', e⟩))
        · omega
theorem bestP_cases (c : Cf) (l : List Bk) (v : List Vt) (id : ID) : (kidsOf l id = [] ∧ bestP c l v id = ⟨-1, (0, 0)⟩) ∨ ∃ k ∈ kidsOf l id, bestP c l v id = ⟨onP c l v k, k⟩ := by
  unfold bestP
  rcases bestK_mem (on_in c l v) (kidsOf l id) ⟨-1, (0, 0)⟩ with h | ⟨e, h2⟩ | h3 | h4
  · exact .inl h
  · simp only at h2; omega
  · exact .inr h3
  · simp only at h4; omega
def headF (c : Cf) (l : List Bk) (v : List Vt) : Nat → ID → ID
  | 0, id => id
  | n + 1, id => if (bestP c l v id).n ≥ 0 then headF c l v n (bestP c l v id).id else id
def headP (c : Cf) (l : List Bk) (v : List Vt) : ID := headF c l v (l.length + 1) (0, 0)
theorem kid_ix {l : List Bk} {m : List (ID × Int)} (hp : places l = some m) {id k : ID} {i : Int} (hi : findE m id = some i) (hk : k ∈ kidsOf l id) : ∃ j, findE m k = some j ∧ i < j ∧ j < l.length := by
  unfold kidsOf at hk
  rw [hp] at hk
  obtain ⟨b, hb, rfl⟩ := List.mem_map.1 hk
  rw [List.mem_filter] at hb
  obtain ⟨n, hn⟩ := List.getElem?_of_mem hb.1
  have hI := places_inv hp
  have hnl := (List.getElem?_eq_some_iff.1 hn).1
  have h1 := hI.names n b hnl hn
  refine ⟨n, h1, ?_, by omega⟩
  rcases hI.known _ _ h1 with ⟨h2, -⟩ | ⟨b', p, h2, h3, h4, h5, h6, h7, h8, h9⟩
  · omega
  · rw [Int.toNat_natCast, hn] at h4
    cases h4
    have hpar : b.Parent = id := of_decide_eq_true hb.2
    rw [hpar, hi] at h6
    cases h6
    exact h7
theorem head_iter {l : List Bk} (hl : l.length ≤ 1000) {v : List Vt} (hv : v.length ≤ 1000) (c : Cf) {m : List (ID × Int)} (hp : places l = some m) : ∀ (n f : Nat) (id : ID) (i : Int), findE m id = some i → (l.length : Int) - i ≤ n → n < f →
    iter (F81_s1 c l v) f ⟨id⟩ = some ⟨headF c l v n id⟩
  | 0, f, id, i, hi, hn, _ => by
    rcases (places_inv hp).known _ _ hi with ⟨h, -⟩ | ⟨b, p, h0, h1, -⟩ <;> omega
  | n + 1, f, id, i, hi, hn, hf => by
    obtain ⟨f, rfl⟩ : ∃ g, f = g + 1 := ⟨f - 1, by omega⟩
    have hs : F81_s1 c l v ⟨id⟩ = if (bestP c l v id).n ≥ 0 then some (.inl ⟨(bestP c l v id).id⟩) else some (.inr ⟨id⟩) := by
      unfold F81_s1
      simp only
      rw [F79_eq hl hv, ob]
      by_cases h : (bestP c l v id).n ≥ 0
      · rw [decide_eq_true h, Bool.not_true, cf, if_pos h]
      · rw [decide_eq_false h, Bool.not_false, ct, if_neg h]
    unfold headF
    rcases bestP_cases c l v id with ⟨-, e⟩ | ⟨k, hk, e⟩
    · have : ¬ (bestP c l v id).n ≥ 0 := by rw [e]; simp
      rw [if_neg this] at hs ⊢
      exact iter_end hs
    · have hpos : (bestP c l v id).n ≥ 0 := by rw [e]; exact on_in c l v k
      rw [if_pos hpos] at hs ⊢
      rw [iter_go hs, e]
      obtain ⟨j, hj, h1, h2⟩ := kid_ix hp hi hk
      exact head_iter hl hv c hp n f k j hj (by omega) (by omega)
theorem F81_eq {l : List Bk} (hl : l.length ≤ 1000) {v : List Vt} (hv : v.length ≤ 1000) (c : Cf) : F81 c l v = some (headP c l v) := by
  unfold F81 headP
  cases hp : places l with
  | some m =>
    rw [head_iter hl hv c hp (l.length + 1) big (0, 0) (-1) (places_inv hp).zero (by omega) (big_gt (by omega)), ob]
  | none =>
    have hk : kidsOf l (0, 0) = [] := by unfold kidsOf; rw [hp]
    have hb : bestP c l v (0, 0) = ⟨-1, (0, 0)⟩ := by unfold bestP; rw [hk]; rfl
    have hs : F81_s1 c l v ⟨(0, 0)⟩ = some (.inr ⟨(0, 0)⟩) := by
      unfold F81_s1
      simp only
      rw [F79_eq hl hv, ob, hb]
      rfl
    rw [big3, iter_end hs, ob]
    unfold headF
    rw [hb, if_neg (by simp)]
def firstF {R : Type} (f : Nat → Option R) : Nat → Nat → Option R
  | _, 0 => none
  | k, d + 1 => match f k with
    | some r => some r
    | none => firstF f (k + 1) d
theorem firstF_none {R : Type} {f : Nat → Option R} : ∀ {d k : Nat}, firstF f k d = none ↔ ∀ j, k ≤ j → j < k + d → f j = none
  | 0, k => ⟨fun _ j h1 h2 => by omega, fun _ => rfl⟩
  | d + 1, k => by
    unfold firstF
    cases h : f k with
    | some r => exact ⟨fun h => (by cases h), fun h2 => (by rw [h2 k (Nat.le_refl _) (by omega)] at h; cases h)⟩
    | none =>
      rw [firstF_none (k := k + 1)]
      refine ⟨fun h2 j h3 h4 => ?_, fun h2 j h3 h4 => h2 j (by omega) (by omega)⟩
      by_cases e : j = k
      · subst e; exact h
      · exact h2 j (by omega) (by omega)
theorem firstF_some {R : Type} {f : Nat → Option R} {r : R} : ∀ {d k : Nat}, firstF f k d = some r → ∃ j, k ≤ j ∧ j < k + d ∧ f j = some r ∧ ∀ i, k ≤ i → i < j → f i = none
  | 0, k, h => by cases h
  | d + 1, k, h => by
    unfold firstF at h
    cases hk : f k with
    | some q =>
      rw [hk] at h
      cases h
      exact ⟨k, Nat.le_refl _, by omega, hk, fun i h1 h2 => by omega⟩
    | none =>
      rw [hk] at h
      obtain ⟨j, h1, h2, h3, h4⟩ := firstF_some h
      refine ⟨j, by omega, by omega, h3, fun i h5 h6 => ?_⟩
      by_cases e : i = k
      · subst e; exact hk
      · exact h4 i (by omega) h6
def outF {S R : Type} (s : S) : Option R → S ⊕ R
  | some r => .inr r
  | none => .inl s
theorem search_loop {S R : Type} {step : S → Option (S ⊕ (S ⊕ R))} {n : Nat} (mk : Nat → S) (f : Nat → Option R) (hs : ∀ j, j < n → step (mk j) = match f j with | some r => some (.inr (.inr r)) | none => some (.inl (mk (j + 1))))
    (he : step (mk n) = some (.inr (.inl (mk n)))) (hn : n < 4000000000000000000) : iter step big (mk 0) = some (outF (mk n) (firstF f 0 n)) := by
  have key : ∀ (d k q : Nat), k + d = n → d < q → iter step q (mk k) = some (outF (mk n) (firstF f k d)) := by
    intro d
    induction d with
    | zero =>
      intro k q hk hq
      obtain ⟨q, rfl⟩ : ∃ p, q = p + 1 := ⟨q - 1, by omega⟩
      obtain rfl : k = n := by omega
      exact iter_end he
    | succ d ih =>
      intro k q hk hq
      obtain ⟨q, rfl⟩ : ∃ p, q = p + 1 := ⟨q - 1, by omega⟩
      have h1 := hs k (by omega)
      unfold firstF
      cases hf : f k with
      | some r =>
        rw [hf] at h1
        exact iter_end h1
      | none =>
        rw [hf] at h1
        rw [iter_go h1]
        exact ih (k + 1) q (by omega) (by omega)
  exact key n 0 big (by omega) (big_gt hn)
def hasAt {α : Type} [DecidableEq α] (l : List α) (v : α) (j : Nat) : Option Int := if l[j]? = some v then some (j : Int) else none
theorem hasAt_first {α : Type} [DecidableEq α] {l : List α} {v : α} : (firstF (hasAt l v) 0 l.length).isSome = decide (v ∈ l) := by
  cases h : firstF (hasAt l v) 0 l.length with
  | none =>
    rw [firstF_none] at h
    refine (decide_eq_false fun hm => ?_).symm
    obtain ⟨j, hj⟩ := List.getElem?_of_mem hm
    have := h j (Nat.zero_le _) (by have := (List.getElem?_eq_some_iff.1 hj).1; omega)
    unfold hasAt at this
    rw [if_pos hj] at this
    cases this
  | some r =>
    obtain ⟨j, -, -, h3, -⟩ := firstF_some h
    refine (decide_eq_true ?_).symm
    unfold hasAt at h3
    split at h3
    · rename_i e; exact List.mem_of_getElem? e
    · cases h3
theorem hasAt_nn {α : Type} [DecidableEq α] {l : List α} {v : α} {n : Nat} {r : Int} (h : firstF (hasAt l v) 0 n = some r) : 0 ≤ r := by
  obtain ⟨j, -, -, h3, -⟩ := firstF_some h
  unfold hasAt at h3
  split at h3
  · cases h3; omega
  · cases h3
theorem F84_eq (w : Vw) (n : Int) : F84 w n = some (decide ((w.B.length : Int) ≤ n ∧ (w.V.length : Int) ≤ n)) := by
  unfold F84
  by_cases h : (w.B.length : Int) ≤ n
  · rw [decide_eq_true h, ct]; congr 1; exact decide_eq_decide.2 ⟨fun h2 => ⟨h, h2⟩, fun h2 => h2.2⟩
  · rw [decide_eq_false h, cf, decide_eq_false fun h2 => h h2.1]
def mayB (c : Cf) (b : Bk) : Bool := decide (0 ≤ prP c b.Slot ∧ prP c b.Slot = b.From ∧ nm b ≠ (0, 0))
def mayV (c : Cf) (v : Vt) : Bool := decide (v.From ∈ cmP c v.Slot)
theorem F87_eq (c : Cf) (b : Bk) : F87 c b = some (mayB c b) := by
  unfold F87 mayB
  rw [F63_eq, ob]
  by_cases h1 : prP c b.Slot ≥ 0
  · rw [decide_eq_true h1, ct]
    by_cases h2 : prP c b.Slot = b.From
    · rw [show (prP c b.Slot == b.From) = true by simp [h2], ct, eqID0]
      by_cases h3 : nm b = (0, 0)
      · rw [decide_eq_true h3, Bool.not_true, decide_eq_false fun h => h.2.2 h3]
      · rw [decide_eq_false h3, Bool.not_false, decide_eq_true ⟨h1, h2, h3⟩]
    · rw [show (prP c b.Slot == b.From) = false by simp [h2], cf, decide_eq_false fun h => h2 h.2.1]
  · rw [decide_eq_false h1, cf, decide_eq_false fun h => h1 h.1]
theorem F88_eq (c : Cf) (v : Vt) : F88 c v = some (mayV c v) := by
  unfold F88 mayV
  rw [F74_eq, ob]
theorem filter_take_snoc {α : Type} {p : α → Bool} {l : List α} {n : Nat} {y : α} (hy : l[n]? = some y) : (l.take (n + 1)).filter p = (l.take n).filter p ++ bif p y then [y] else [] := by
  rw [take_succ_getG hy, List.filter_append]
  cases h : p y <;> simp [h]
theorem filter_take_len {α : Type} {p : α → Bool} {l : List α} (n : Nat) : ((l.take n).filter p).length ≤ n :=
  Nat.le_trans (List.length_filter_le _ _) (by rw [List.length_take]; omega)
theorem F126_eq {c : Cf} {l : List Bk} (hl : l.length ≤ 100000) : F126 c l = some (l.filter (mayB c)) := by
  unfold F126
  have e := count_loop (step := F126_s1 c l) (n := l.length) (fun k => F126_L1.mk (k : Int) ((l.take k).filter (mayB c))) (F126_L1.mk (l.length : Int) (l.filter (mayB c))) (fun k hk => by
    obtain ⟨y, hy, -⟩ := get_of hk
    have hlen := filter_take_len (p := mayB c) (l := l) k
    unfold F126_s1
    simp only
    rw [decide_eq_true (show (k : Int) < (l.length : Int) by omega), ct, ix_nat hy, ob, F87_eq, ob, filter_take_snoc hy, wrap_succ (n := k) (by omega)]
    cases mayB c y with
    | true => rw [ct, room_ok (by simp only [List.length_singleton]; omega) (by omega), ct, ct]
    | false => rw [cf, cf, List.append_nil]) (by
    unfold F126_s1
    simp only
    rw [decide_eq_false (show ¬ (l.length : Int) < (l.length : Int) by omega), cf, List.take_length]) (by omega)
  have e' : iter (F126_s1 c l) big (F126_L1.mk 0 []) = some (F126_L1.mk (l.length : Int) (l.filter (mayB c))) := e
  rw [e', ob]
theorem F127_eq {c : Cf} {l : List Vt} (hl : l.length ≤ 100000) : F127 c l = some (l.filter (mayV c)) := by
  unfold F127
  have e := count_loop (step := F127_s1 c l) (n := l.length) (fun k => F127_L1.mk (k : Int) ((l.take k).filter (mayV c))) (F127_L1.mk (l.length : Int) (l.filter (mayV c))) (fun k hk => by
    obtain ⟨y, hy, -⟩ := get_of hk
    have hlen := filter_take_len (p := mayV c) (l := l) k
    unfold F127_s1
    simp only
    rw [decide_eq_true (show (k : Int) < (l.length : Int) by omega), ct, ix_nat hy, ob, F88_eq, ob, filter_take_snoc hy, wrap_succ (n := k) (by omega)]
    cases mayV c y with
    | true => rw [ct, room_ok (by simp only [List.length_singleton]; omega) (by omega), ct, ct]
    | false => rw [cf, cf, List.append_nil]) (by
    unfold F127_s1
    simp only
    rw [decide_eq_false (show ¬ (l.length : Int) < (l.length : Int) by omega), cf, List.take_length]) (by omega)
  have e' : iter (F127_s1 c l) big (F127_L1.mk 0 []) = some (F127_L1.mk (l.length : Int) (l.filter (mayV c))) := e
  rw [e', ob]
def onlyP (c : Cf) (w : Vw) : Vw := ⟨w.B.filter (mayB c), w.V.filter (mayV c)⟩
theorem F85_eq {c : Cf} {w : Vw} (h1 : w.B.length ≤ 100000) (h2 : w.V.length ≤ 100000) : F85 c w = some (onlyP c w) := by
  unfold F85
  rw [F126_eq h1, ob, F127_eq h2, ob]; rfl
open Go.Proofs
def okAt (l : List Bk) (n : Nat) : Prop := ∃ y p, l[n]? = some y ∧ findE (mAt l n) y.Parent = some p ∧ ¬ y.Slot ≤ slotIx l p ∧ findE (mAt l n) (nm y) = none
theorem go_iff {l : List Bk} : ∀ (r n : Nat), l.length - n = r → n ≤ l.length → ((placesGo l (l.drop n) n (mAt l n)).isSome = true ↔ ∀ i, n ≤ i → i < l.length → okAt l i)
  | 0, n, hr, hn => by
    have : n = l.length := by omega
    subst this
    rw [List.drop_length]
    exact ⟨fun _ i h1 h2 => by omega, fun _ => rfl⟩
  | r + 1, n, hr, hn => by
    obtain ⟨y, hy, -⟩ := get_of (l := l) (n := n) (by omega)
    have ih := go_iff (l := l) r (n + 1) (by omega) (by omega)
    have e : mAt l (n + 1) = mAt l n ++ [(nm y, (n : Int))] := by simp only [mAt, hy]
    rw [e] at ih
    rw [placesGo_at hy]
    constructor
    · intro h i h1 h2
      cases hp : findE (mAt l n) y.Parent with
      | none => rw [hp] at h; cases h
      | some p =>
        rw [hp] at h
        simp only at h
        by_cases hs : y.Slot ≤ slotIx l p
        · rw [if_pos hs] at h; cases h
        · rw [if_neg hs] at h
          cases hq : findE (mAt l n) (nm y) with
          | some q => rw [hq] at h; cases h
          | none =>
            rw [hq] at h
            by_cases hin : i = n
            · subst hin; exact ⟨y, p, hy, hp, hs, hq⟩
            · exact ih.1 h i (by omega) h2
    · intro h
      obtain ⟨y', p, hy', hp, hs, hq⟩ := h n (Nat.le_refl _) (by omega)
      rw [hy] at hy'; cases hy'
      rw [hp]; simp only
      rw [if_neg hs, hq]
      exact ih.2 fun i h1 h2 => h i (by omega) h2
theorem may_iff {l : List Bk} : (places l).isSome = true ↔ ∀ i, i < l.length → okAt l i := by
  have := go_iff (l := l) l.length 0 (by omega) (Nat.zero_le _)
  rw [show (places l) = placesGo l (l.drop 0) 0 (mAt l 0) from rfl, this]
  exact ⟨fun h i hi => h i (Nat.zero_le _) hi, fun h i _ hi => h i hi⟩
theorem mAt_prefix {l m : List Bk} : ∀ n, (∀ i, i < n → l[i]? = m[i]?) → mAt l n = mAt m n
  | 0, _ => rfl
  | n + 1, h => by
    simp only [mAt, h n (by omega), mAt_prefix n fun i hi => h i (by omega)]
theorem okAt_prefix {l m : List Bk} {n : Nat} (h : ∀ i, i ≤ n → l[i]? = m[i]?) (ho : okAt l n) (hn : n < l.length) : okAt m n := by
  obtain ⟨y, p, h1, h2, h3, h4⟩ := ho
  have e := mAt_prefix n fun i hi => h i (by omega)
  refine ⟨y, p, by rw [← h n (Nat.le_refl _)]; exact h1, by rw [← e]; exact h2, ?_, by rw [← e]; exact h4⟩
  have hp : p = -1 ∨ 0 ≤ p ∧ p < n := by
    rw [mAt_find _ n (by omega)] at h2
    split at h2
    · cases h2; exact .inl rfl
    · split at h2
      · rename_i hi
        obtain ⟨j, b, g1, g2, -⟩ := mAt_slot hi
        cases h2
        exact .inr ⟨by omega, by omega⟩
      · cases h2
  rcases hp with rfl | ⟨h5, h6⟩
  · simpa [slotIx] using h3
  · have : slotIx m p = slotIx l p := by
      simp only [slotIx, h p.toNat (by omega)]
    rw [this]; exact h3
theorem may_take {l : List Bk} {k : Nat} (h : (places l).isSome = true) (hk : k ≤ l.length) : (places (l.take k)).isSome = true := by
  rw [may_iff] at h ⊢
  intro i hi
  simp only [List.length_take] at hi
  refine okAt_prefix (fun j hj => ?_) (h i (by omega)) (by omega)
  rw [List.getElem?_take_of_lt (by omega)]
def fineB (l : List Bk) (b : Bk) : Bool := (slotOfB l b.Parent).2 && decide (b.Slot > (slotOfB l b.Parent).1) && !decide (nm b = (0, 0)) && decide (findOf l (nm b) < 0)
theorem may_more {l : List Bk} {m : List (ID × Int)} {b : Bk} (h : places l = some m) : (places (l ++ [b])).isSome = fineB l b := by
  have hl : ∀ i, i < l.length → okAt l i := may_iff.1 (by rw [h]; rfl)
  have hpre : ∀ i, i < l.length → l[i]? = (l ++ [b])[i]? := fun i hi => by rw [List.getElem?_append_left hi]
  have hm : mAt (l ++ [b]) l.length = m := by rw [← mAt_prefix l.length hpre, ← places_is h]
  have hb : (l ++ [b])[l.length]? = some b := by simp
  have hslot : ∀ p i, findE m p = some i → slotIx (l ++ [b]) i = slotIx l i := by
    intro p i hf
    rcases known_ix h hf with ⟨rfl, -⟩ | ⟨c, h0, h1, h2, -⟩
    · rfl
    · have : ¬ i = -1 := by omega
      simp only [slotIx, if_neg this, ← hpre i.toNat (by omega)]
  have key : (places (l ++ [b])).isSome = true ↔ okAt (l ++ [b]) l.length := by
    rw [may_iff]
    constructor
    · intro h1; exact h1 l.length (by simp)
    · intro h1 i hi
      simp only [List.length_append, List.length_singleton] at hi
      by_cases e : i = l.length
      · subst e; exact h1
      · exact okAt_prefix (fun j hj => hpre j (by omega)) (hl i (by omega)) (by omega)
  rw [Bool.eq_iff_iff, key]
  constructor
  · rintro ⟨y, p, h1, h2, h3, h4⟩
    rw [hb] at h1; cases h1
    rw [hm] at h2 h4
    rw [hslot _ _ h2] at h3
    have hz : ¬ nm b = (0, 0) := fun e => by rw [e, (places_inv h).zero] at h4; cases h4
    have g1 : slotOfB l b.Parent = (slotIx l p, true) := by simp only [slotOfB, h, h2]
    have g2 : findOf l (nm b) = -1 := by simp only [findOf, h, h4]; rfl
    unfold fineB
    rw [g1, g2, decide_eq_true (show b.Slot > slotIx l p by omega), decide_eq_false hz]; rfl
  · intro hf
    unfold fineB at hf
    simp only [Bool.and_eq_true, Bool.not_eq_true', decide_eq_true_eq, decide_eq_false_iff_not] at hf
    obtain ⟨⟨⟨h1, h2⟩, h3⟩, h4⟩ := hf
    cases hp : findE m b.Parent with
    | none => simp only [slotOfB, h, hp] at h1; cases h1
    | some p =>
      simp only [slotOfB, h, hp] at h2
      refine ⟨b, p, hb, by rw [hm]; exact hp, by rw [hslot _ _ hp]; omega, ?_⟩
      rw [hm]
      rcases Option.eq_none_or_eq_some (findE m (nm b)) with h5 | ⟨i, h5⟩
      · exact h5
      · exfalso
        simp only [findOf, h, h5, Option.getD_some] at h4
        rcases known_ix h h5 with ⟨-, e⟩ | ⟨c, h0, -⟩
        · exact h3 e
        · omega
def slotQ (B : List Bk) (id : ID) : Option Int := if id = (0, 0) then some 0 else (B.find? fun b => decide (nm b = id)).map Bk.Slot
theorem slotQ_snoc (B : List Bk) (b : Bk) (id : ID) : slotQ (B ++ [b]) id = (slotQ B id).or (if nm b = id then some b.Slot else none) := by
  unfold slotQ
  by_cases h : id = (0, 0)
  · rw [if_pos h, if_pos h]; rfl
  · rw [if_neg h, if_neg h, List.find?_append]
    cases B.find? fun b => decide (nm b = id) with
    | some x => rfl
    | none =>
      by_cases h2 : nm b = id
      · simp [h2]
      · simp [h2]
def ValidB (B : List Bk) : Prop := (places B).isSome = true
theorem slotQ_places {l : List Bk} {m : List (ID × Int)} (h : places l = some m) (id : ID) : slotQ l id = (findE m id).map (slotIx l) := by
  have hI := places_inv h
  unfold slotQ
  by_cases h0 : id = (0, 0)
  · rw [if_pos h0, h0, hI.zero]; simp [slotIx]
  · rw [if_neg h0]
    cases hf : findE m id with
    | none =>
      cases hq : l.find? fun b => decide (nm b = id) with
      | none => rfl
      | some b =>
        exfalso
        have hb := List.mem_of_find?_eq_some hq
        have hn : nm b = id := by simpa using List.find?_some hq
        obtain ⟨i, hi⟩ := List.getElem?_of_mem hb
        have := hI.names i b (List.getElem?_eq_some_iff.1 hi).1 hi
        rw [hn, hf] at this; cases this
    | some i =>
      rcases hI.known _ _ hf with ⟨-, h1⟩ | ⟨b, p, h1, h2, h3, h4, -⟩
      · exact absurd h1 h0
      · cases hq : l.find? fun b => decide (nm b = id) with
        | none =>
          rw [List.find?_eq_none] at hq
          have := hq b (List.mem_of_getElem? h3)
          simp [h4] at this
        | some b' =>
          have hb := List.mem_of_find?_eq_some hq
          have hn : nm b' = id := by simpa using List.find?_some hq
          obtain ⟨j, hj⟩ := List.getElem?_of_mem hb
          have := hI.names j b' (List.getElem?_eq_some_iff.1 hj).1 hj
          rw [hn, hf] at this
          cases this
          simp [slotIx, hj, show ¬ (j : Int) = -1 by omega]
theorem slotOfB_q {l : List Bk} {m : List (ID × Int)} (h : places l = some m) (id : ID) : slotOfB l id = match slotQ l id with | some s => (s, true) | none => (0, false) := by
  rw [slotQ_places h]
  unfold slotOfB
  rw [h]
  simp only
  cases findE m id <;> rfl
theorem findOf_q {l : List Bk} {m : List (ID × Int)} (h : places l = some m) (id : ID) : (¬ id = (0, 0) ∧ findOf l id < 0) ↔ slotQ l id = none := by
  rw [slotQ_places h]
  unfold findOf
  rw [h]
  simp only
  cases hf : findE m id with
  | none =>
    refine ⟨fun _ => rfl, fun _ => ⟨fun e => ?_, by simp⟩⟩
    rw [e, (places_inv h).zero] at hf; cases hf
  | some i =>
    refine ⟨fun h1 => ?_, fun h1 => by cases h1⟩
    rcases (places_inv h).known _ _ hf with ⟨-, h2⟩ | ⟨_, _, h2, -⟩
    · exact absurd h2 h1.1
    · have := h1.2; simp at this; omega
theorem valid_snoc {B : List Bk} {b : Bk} : ValidB (B ++ [b]) ↔ ValidB B ∧ (∃ s, slotQ B b.Parent = some s ∧ s < b.Slot) ∧ slotQ B (nm b) = none := by
  have key : ∀ {m}, places B = some m → (ValidB (B ++ [b]) ↔ (∃ s, slotQ B b.Parent = some s ∧ s < b.Slot) ∧ slotQ B (nm b) = none) := by
    intro m hm
    unfold ValidB
    rw [may_more hm, ← findOf_q hm]
    unfold fineB
    rw [slotOfB_q hm]
    cases slotQ B b.Parent with
    | none => simp
    | some s => simp [and_assoc]
  cases hm : places B with
  | some m =>
    rw [key hm]
    exact ⟨fun h => ⟨by unfold ValidB; rw [hm]; rfl, h⟩, fun h => h.2⟩
  | none =>
    have hno : ¬ ValidB B := by unfold ValidB; rw [hm]; simp
    refine ⟨fun h => absurd ?_ hno, fun h => absurd h.1 hno⟩
    have := may_take (k := B.length) h (by simp)
    rwa [List.take_left' rfl] at this
theorem valid_take {B : List Bk} (h : ValidB B) (k : Nat) : ValidB (B.take k) := by
  by_cases hk : k ≤ B.length
  · exact may_take h hk
  · rw [List.take_of_length_le (by omega)]; exact h
def smGo : List Bk → List (ID × Int) → List (ID × Int)
  | [], m => m
  | b :: r, m => smGo r (setE m (nm b) b.Slot)
def smOf (B : List Bk) : List (ID × Int) := smGo B [((0, 0), 0)]
def hmGo : List Vt → List (Vt × Bool) → List (Vt × Bool)
  | [], m => m
  | v :: r, m => hmGo r (setE m v true)
def hmOf (V : List Vt) : List (Vt × Bool) := hmGo V []
theorem smGo_snoc (b : Bk) : ∀ (B : List Bk) (m), smGo (B ++ [b]) m = setE (smGo B m) (nm b) b.Slot
  | [], _ => rfl
  | _ :: r, _ => smGo_snoc b r _
theorem hmGo_snoc (v : Vt) : ∀ (V : List Vt) (m), hmGo (V ++ [v]) m = setE (hmGo V m) v true
  | [], _ => rfl
  | _ :: r, _ => hmGo_snoc v r _
theorem smOf_snoc (B : List Bk) (b : Bk) : smOf (B ++ [b]) = setE (smOf B) (nm b) b.Slot := smGo_snoc b B _
theorem hmOf_snoc (V : List Vt) (v : Vt) : hmOf (V ++ [v]) = setE (hmOf V) v true := hmGo_snoc v V _
theorem setE_len {α β : Type} [DecidableEq α] (m : List (α × β)) (k : α) (v : β) : (setE m k v).length = if (findE m k).isSome then m.length else m.length + 1 := by
  induction m with
  | nil => simp [setE, findE]
  | cons p r ih =>
    obtain ⟨a, b⟩ := p
    by_cases h : a = k
    · simp [setE, findE, h]
    · cases hf : findE r k <;> simp [setE, findE, h, hf] at ih ⊢ <;> exact ih
theorem smOf_find {B : List Bk} (h : ValidB B) : ∀ id, findE (smOf B) id = slotQ B id := by
  have key : ∀ k, k ≤ B.length → ∀ id, findE (smOf (B.take k)) id = slotQ (B.take k) id := by
    intro k
    induction k with
    | zero =>
      intro _ id
      simp only [List.take_zero]
      unfold smOf smGo slotQ findE findE
      by_cases e : id = (0, 0)
      · simp [e]
      · simp [e, Ne.symm e]
    | succ k ih =>
      intro hk id
      obtain ⟨b, hb, -⟩ := get_of (l := B) (n := k) (by omega)
      have hv := valid_take h (k + 1)
      rw [take_succ_getG hb] at hv ⊢
      rw [valid_snoc] at hv
      rw [smOf_snoc, findE_setEg, slotQ_snoc, ih (by omega)]
      by_cases e : nm b = id
      · rw [if_pos e, if_pos e, ← e, hv.2.2]; rfl
      · rw [if_neg e, if_neg e]; cases slotQ (B.take k) id <;> rfl
  have := key B.length (Nat.le_refl _)
  rwa [List.take_length] at this
theorem hmOf_find (V : List Vt) (v : Vt) : findE (hmOf V) v = if v ∈ V then some true else none := by
  have : ∀ (V : List Vt) (m : List (Vt × Bool)), findE (hmGo V m) v = if v ∈ V then some true else findE m v := by
    intro V
    induction V with
    | nil => intro m; simp [hmGo]
    | cons x r ih =>
      intro m
      unfold hmGo
      rw [ih, findE_setEg]
      by_cases h : v ∈ r
      · simp [h]
      · by_cases h2 : x = v
        · simp [h2]
        · simp [h, h2, Ne.symm h2]
  rw [hmOf, this]; rfl
theorem hmOf_len (V : List Vt) : (hmOf V).length ≤ V.length ∧ ((hmOf V).length = V.length ↔ V.Nodup) := by
  have key : ∀ k, k ≤ V.length → (hmOf (V.take k)).length ≤ k ∧ ((hmOf (V.take k)).length = k ↔ (V.take k).Nodup) := by
    intro k
    induction k with
    | zero => intro _; simp [hmOf, hmGo]
    | succ k ih =>
      intro hk
      obtain ⟨v, hv, -⟩ := get_of (l := V) (n := k) (by omega)
      obtain ⟨h1, h2⟩ := ih (by omega)
      rw [take_succ_getG hv, hmOf_snoc, setE_len, hmOf_find, List.nodup_append]
      by_cases hm : v ∈ V.take k
      · rw [if_pos hm]
        refine ⟨by simp; omega, ⟨fun e => by simp at e; omega, fun h => absurd rfl (h.2.2 v hm v (by simp))⟩⟩
      · rw [if_neg hm]
        refine ⟨by simp; omega, ⟨fun e => ⟨h2.1 (by simp at e; omega), by simp, fun a ha b hb => by rw [List.mem_singleton] at hb; subst hb; exact fun q => hm (q ▸ ha)⟩, fun h => ?_⟩⟩
        have := h2.2 h.1
        simp; omega
  have := key V.length (Nat.le_refl _)
  rwa [List.take_length] at this
theorem F130_eq {w : Vw} {u : Int} (h1 : w.B.length ≤ 90000) (h2 : w.V.length ≤ 90000) : F130 w u = some (smOf w.B, hmOf w.V) := by
  unfold F130
  rw [room_ok (by omega) (by omega), ct, room_ok (by omega) (by omega), ct]
  have e1 := count_loop (step := F130_s1 w) (n := w.B.length) (fun k => F130_L1.mk (k : Int) (smOf (w.B.take k))) (F130_L1.mk (w.B.length : Int) (smOf w.B)) (fun k hk => by
    obtain ⟨y, hy, -⟩ := get_of hk
    unfold F130_s1
    simp only
    rw [decide_eq_true (show (k : Int) < (w.B.length : Int) by omega), ct, ix_nat hy, ob, take_succ_getG hy, smOf_snoc, wrap_succ (n := k) (by omega)]) (by
    unfold F130_s1
    simp only
    rw [decide_eq_false (show ¬ (w.B.length : Int) < (w.B.length : Int) by omega), cf, List.take_length]) (by omega)
  have e1' : iter (F130_s1 w) big (F130_L1.mk 0 (setE [] (0, 0) 0)) = some (F130_L1.mk (w.B.length : Int) (smOf w.B)) := e1
  have e2 := count_loop (step := F130_s2 w) (n := w.V.length) (fun k => F130_L2.mk (k : Int) (hmOf (w.V.take k))) (F130_L2.mk (w.V.length : Int) (hmOf w.V)) (fun k hk => by
    obtain ⟨y, hy, -⟩ := get_of hk
    unfold F130_s2
    simp only
    rw [decide_eq_true (show (k : Int) < (w.V.length : Int) by omega), ct, ix_nat hy, ob, take_succ_getG hy, hmOf_snoc, wrap_succ (n := k) (by omega)]) (by
    unfold F130_s2
    simp only
    rw [decide_eq_false (show ¬ (w.V.length : Int) < (w.V.length : Int) by omega), cf, List.take_length]) (by omega)
  have e2' : iter (F130_s2 w) big (F130_L2.mk 0 []) = some (F130_L2.mk (w.V.length : Int) (hmOf w.V)) := e2
  rw [e1', ob, e2', ob]
def forB (B : List Bk) (v : Vt) : Prop := ∃ s, slotQ B v.Head = some s ∧ s ≤ v.Slot
def badM (sm : List (ID × Int)) (v : Vt) : Bool := match findE sm v.Head with
  | none => true
  | some s => decide (s > v.Slot)
theorem F131_eq (v : Vt) (sm : List (ID × Int)) : F131 v sm = some (badM sm v) := by
  unfold F131 badM
  cases findE sm v.Head with
  | none => rfl
  | some s => rfl
def badAt (sm : List (ID × Int)) (l : List Vt) (j : Nat) : Option Int := match l[j]? with
  | some v => if badM sm v = true then some (j : Int) else none
  | none => none
theorem F132_eq {l : List Vt} (hl : l.length ≤ 90000) (sm : List (ID × Int)) : F132 l sm = some (l.any (badM sm)) := by
  have e := search_loop (step := F158M_s1 l sm) (n := l.length) (fun k => F158M_L1.mk (k : Int)) (badAt sm l) (fun j hj => by
    obtain ⟨y, hy, -⟩ := get_of hj
    unfold F158M_s1 badAt
    simp only
    rw [decide_eq_true (show (j : Int) < (l.length : Int) by omega), ct, ix_nat hy, ob, F131_eq, ob, wrap_succ (n := j) (by omega), hy]
    simp only
    cases badM sm y with
    | true => rw [ct, if_pos rfl]
    | false => rw [cf, if_neg (by simp)]) (by
    unfold F158M_s1
    simp only
    rw [decide_eq_false (show ¬ (l.length : Int) < (l.length : Int) by omega), cf]) (by omega)
  unfold F132 F158M
  have e' : iter (F158M_s1 l sm) big (F158M_L1.mk 0) = some (outF (F158M_L1.mk (l.length : Int)) (firstF (badAt sm l) 0 l.length)) := e
  rw [e', ob]
  cases h : firstF (badAt sm l) 0 l.length with
  | none =>
    rw [outF, sl, ob]
    rw [firstF_none] at h
    congr 1
    rw [show decide ((-1 : Int) ≥ 0) = false from rfl]
    symm
    rw [List.any_eq_false]
    intro v hv
    obtain ⟨j, hj⟩ := List.getElem?_of_mem hv
    have := h j (Nat.zero_le _) (by have := (List.getElem?_eq_some_iff.1 hj).1; omega)
    unfold badAt at this
    rw [hj] at this
    simp only at this
    intro hb
    rw [if_pos hb] at this; cases this
  | some r =>
    obtain ⟨j, -, -, h3, -⟩ := firstF_some h
    unfold badAt at h3
    split at h3
    · rename_i v hv
      split at h3
      · rename_i hb
        cases h3
        rw [outF, sr, ob, decide_eq_true (show (j : Int) ≥ 0 by omega)]
        congr 1
        symm
        rw [List.any_eq_true]
        exact ⟨v, List.mem_of_getElem? hv, hb⟩
      · cases h3
    · cases h3
structure MayW (c : Cf) (w : Vw) : Prop where
  conf : MayC c
  valid : ValidB w.B
  lenB : w.B.length ≤ 60
  lenV : w.V.length ≤ 240
  mayB : ∀ b ∈ w.B, mayB c b = true
  mayV : ∀ v ∈ w.V, mayV c v = true
  nodup : w.V.Nodup
  forB : ∀ v ∈ w.V, forB w.B v
open Classical in
theorem F89_eq {c : Cf} {w : Vw} (h1 : w.B.length ≤ 1000) (h2 : w.V.length ≤ 1000) : F89 c w = some (decide (MayW c w)) := by
  have hno : ∀ h : ¬ MayW c w, decide (MayW c w) = false := fun h => decide_eq_false h
  unfold F89
  rw [F64_eq, ob]
  by_cases c1 : MayC c
  · rw [decide_eq_true c1, Bool.not_true, cf, F52_eq, ob]
    by_cases c2 : ValidB w.B
    · rw [show (places w.B).isSome = true from c2, Bool.not_true, cf]
      by_cases c3 : w.B.length ≤ 60
      · rw [decide_eq_false (show ¬ (w.B.length : Int) > 60 by omega), cf, ob]
        by_cases c4 : w.V.length ≤ 240
        · rw [decide_eq_false (show ¬ (w.V.length : Int) > 240 by omega), cf, F85_eq (by omega) (by omega), ob]
          have hfB : (onlyP c w).B.length = w.B.length ↔ ∀ b ∈ w.B, mayB c b = true := by unfold onlyP; exact List.length_filter_eq_length_iff
          have hfV : (onlyP c w).V.length = w.V.length ↔ ∀ v ∈ w.V, mayV c v = true := by unfold onlyP; exact List.length_filter_eq_length_iff
          by_cases c5 : ∀ b ∈ w.B, mayB c b = true
          · rw [show (((onlyP c w).B.length : Int) != (w.B.length : Int)) = false by rw [hfB.2 c5]; simp, cf, ob]
            by_cases c6 : ∀ v ∈ w.V, mayV c v = true
            · have hm := hmOf_len w.V
              rw [show (((onlyP c w).V.length : Int) != (w.V.length : Int)) = false by rw [hfV.2 c6]; simp, cf, F130_eq (by omega) (by omega), ob, show fewE (hmOf w.V) = true from decide_eq_true (by omega), ct]
              by_cases c7 : w.V.Nodup
              · rw [show (((hmOf w.V).length : Int) == (w.V.length : Int)) = true by rw [hm.2.2 c7]; simp, ct, F132_eq (by omega), ob]
                congr 1
                have hbad : ∀ v, badM (smOf w.B) v = false ↔ Go.Mg.forB w.B v := by
                  intro v
                  unfold badM Go.Mg.forB
                  rw [smOf_find c2]
                  cases slotQ w.B v.Head with
                  | none => simp
                  | some s => simp
                cases ha : w.V.any (badM (smOf w.B)) with
                | true =>
                  obtain ⟨v, hv, hb⟩ := List.any_eq_true.1 ha
                  symm
                  refine hno fun h => ?_
                  have := (hbad v).2 (h.forB v hv)
                  rw [hb] at this; cases this
                | false =>
                  rw [List.any_eq_false] at ha
                  symm
                  exact decide_eq_true ⟨c1, c2, c3, c4, c5, c6, c7, fun v hv => (hbad v).1 (by have := ha v hv; simpa using this)⟩
              · rw [show (((hmOf w.V).length : Int) == (w.V.length : Int)) = false by
                  rw [beq_eq_false_iff_ne]; intro e; exact c7 (hm.2.1 (by omega)), cf, hno fun h => c7 h.nodup]
            · rw [show (((onlyP c w).V.length : Int) != (w.V.length : Int)) = true by
                rw [bne_iff_ne]; intro e; exact c6 (hfV.1 (by omega)), ct, hno fun h => c6 h.mayV]
          · rw [show (((onlyP c w).B.length : Int) != (w.B.length : Int)) = true by
              rw [bne_iff_ne]; intro e; exact c5 (hfB.1 (by omega)), ct, ob, ct, hno fun h => c5 h.mayB]
        · rw [decide_eq_true (show (w.V.length : Int) > 240 by omega), ct, hno fun h => c4 h.lenV]
      · rw [decide_eq_true (show (w.B.length : Int) > 60 by omega), ct, ob, ct, hno fun h => c3 h.lenB]
    · rw [show (places w.B).isSome = false from by unfold ValidB at c2; simpa using c2, Bool.not_false, ct, ob, ct, hno fun h => c2 h.valid]
  · rw [decide_eq_false c1, Bool.not_false, ct, ob, ct, hno fun h => c1 h.conf]
def goneB (B : List Bk) (b : Bk) : Bool := (slotQ B (nm b)).isSome || (match slotQ B b.Parent with | some s => decide (s ≥ b.Slot) | none => false)
def waitB (B : List Bk) (upto : Int) (b : Bk) : Bool := match slotQ B b.Parent with | some _ => decide (b.Slot > upto) | none => true
def goneV (B : List Bk) (V : List Vt) (v : Vt) : Bool := decide (v ∈ V) || (match slotQ B v.Head with | some s => decide (s > v.Slot) | none => false)
def waitV (B : List Bk) (upto : Int) (v : Vt) : Bool := match slotQ B v.Head with | some _ => decide (v.Slot > upto) | none => true
def SmOk (B : List Bk) (sm : List (ID × Int)) : Prop := ∀ id, findE sm id = slotQ B id
def HmOk (V : List Vt) (hm : List (Vt × Bool)) : Prop := ∀ v, findE hm v = if v ∈ V then some true else none
end Go.Mg
