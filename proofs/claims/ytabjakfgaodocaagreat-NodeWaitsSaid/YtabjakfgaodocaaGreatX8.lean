/- A node at a tick: what it hears, counts, and stands by. A node behind a tick. Are two nodes the same? Conditions: none. -/
import Derived.Test.YtabjakfgaodocaaGreatX3
import Derived.Test.YtabjakfgaodocaaGreatX7
import Derived.Test.YtabjakfgaodocaaGreatX6
namespace Go.Mg
open Go.Proofs
structure FHear_L1 where
 t21 : Int
 w_11 : Bool
 o5 : List Of
def FHear_s1 (x : Nd) (c : Cf) (slot : Int) (v1 : (List Of)) (x1 : FHear_L1) : Option (FHear_L1 ⊕ FHear_L1) :=
 bif decide (x1.t21 < (v1.length : Int)) then
  (ix v1 x1.t21).bind fun y1 =>
  (
   bif (x.Tick.tmod 3) == 2 then
    some ((x.Tick.tmod 3) == 2)
   else
    bif y1.Slot != slot then
     some (y1.Slot != slot)
    else
     (F63 c slot).bind fun v4 =>
     some (y1.From != v4)
  ).bind fun v3 =>
  bif v3 then
   some (.inl (FHear_L1.mk (IntKind.i64.wrap (x1.t21 + 1)) x1.w_11 x1.o5))
  else
   bif (x1.o5.length : Int) == 8 then
    some (.inl (FHear_L1.mk (IntKind.i64.wrap (x1.t21 + 1)) true x1.o5))
   else
    (F3052 y1).bind fun v5 =>
    bif room x1.o5.length [v5].length 104 then
     some (.inl (FHear_L1.mk (IntKind.i64.wrap (x1.t21 + 1)) x1.w_11 (x1.o5 ++ [v5])))
    else none
 else
  some (.inr (FHear_L1.mk x1.t21 x1.w_11 x1.o5))
def FHear (l : List Of) (x : Nd) (c : Cf) (slot : Int) : Option (List Of × Bool) :=
 (F3095 [x.O, l]).bind fun v1 =>
 (iter (FHear_s1 x c slot v1) big (FHear_L1.mk 0 x.Full ([] : List Of))).bind fun v2 =>
 some (v2.o5, v2.w_11)
set_option maxRecDepth 100000 in
theorem cFHear {l : List Of} {x : Nd} {c : Cf} {slot : Int} {tl : List Of} {c0 : Cf} {n0 : Nd} {in0 : Vw} {r_ : List Of × Bool} (hr : FHear l x c slot = some r_) : LC Tryz.prog 54 [.ptr 4 0, .p (.slice 9 (l.map ofP))] [.box [.p (.slice 1 (c0.W.map i64P)), .p (.int .u64 c0.Seed), .p (.int .i64 c0.Epoch), .p (.int .i64 c0.Num), .p (.int .i64 c0.Den)], .box [.p (.int .i64 n0.No), .p (.int .i64 n0.Tick), .p (.slice 5 (n0.V.B.map blkP)), .p (.slice 4 (n0.V.V.map vtP)), .p (.slice 5 (n0.In.B.map blkP)), .p (.slice 4 (n0.In.V.map vtP)), .p (.slice 9 (n0.O.map ofP)), .p (.int .u64 n0.C.ID.1), .p (.int .u64 n0.C.ID.2), .p (.int .i64 n0.C.Slot), .p (.int .i64 n0.C.Revoked), .p (.bool n0.Full)], .box [.p (.slice 5 (in0.B.map blkP)), .p (.slice 4 (in0.V.map vtP))], .box [.p (.int .i64 0), .p (.int .i64 0), .zs, .zs, .zs, .zs, .zs, .p (.int .u64 0), .p (.int .u64 0), .p (.int .i64 0), .p (.int .i64 0), .p (.bool false)], .box [.p (.int .i64 x.No), .p (.int .i64 x.Tick), .p (.slice 5 (x.V.B.map blkP)), .p (.slice 4 (x.V.V.map vtP)), .p (.slice 5 (x.In.B.map blkP)), .p (.slice 4 (x.In.V.map vtP)), .p (.slice 9 (x.O.map ofP)), .p (.int .u64 x.C.ID.1), .p (.int .u64 x.C.ID.2), .p (.int .i64 x.C.Slot), .p (.int .i64 x.C.Revoked), .p (.bool x.Full), .p (.slice 1 (c.W.map i64P)), .p (.int .u64 c.Seed), .p (.int .i64 c.Epoch), .p (.int .i64 c.Num), .p (.int .i64 c.Den), .p (.int .i64 slot), .p (.slice 9 (tl.map ofP))]] (Is (.tup []) [.box [.p (.slice 1 (c0.W.map i64P)), .p (.int .u64 c0.Seed), .p (.int .i64 c0.Epoch), .p (.int .i64 c0.Num), .p (.int .i64 c0.Den)], .box [.p (.int .i64 n0.No), .p (.int .i64 n0.Tick), .p (.slice 5 (n0.V.B.map blkP)), .p (.slice 4 (n0.V.V.map vtP)), .p (.slice 5 (n0.In.B.map blkP)), .p (.slice 4 (n0.In.V.map vtP)), .p (.slice 9 (n0.O.map ofP)), .p (.int .u64 n0.C.ID.1), .p (.int .u64 n0.C.ID.2), .p (.int .i64 n0.C.Slot), .p (.int .i64 n0.C.Revoked), .p (.bool n0.Full)], .box [.p (.slice 5 (in0.B.map blkP)), .p (.slice 4 (in0.V.map vtP))], .box [.p (.int .i64 0), .p (.int .i64 0), .zs, .zs, .zs, .zs, .zs, .p (.int .u64 0), .p (.int .u64 0), .p (.int .i64 0), .p (.int .i64 0), .p (.bool false)], .box [.p (.int .i64 x.No), .p (.int .i64 x.Tick), .p (.slice 5 (x.V.B.map blkP)), .p (.slice 4 (x.V.V.map vtP)), .p (.slice 5 (x.In.B.map blkP)), .p (.slice 4 (x.In.V.map vtP)), .vec 9 5 (r_.1.map ofP).length 0 (r_.1.map ofP).length, .p (.int .u64 x.C.ID.1), .p (.int .u64 x.C.ID.2), .p (.int .i64 x.C.Slot), .p (.int .i64 x.C.Revoked), .p (.bool r_.2), .p (.slice 1 (c.W.map i64P)), .p (.int .u64 c.Seed), .p (.int .i64 c.Epoch), .p (.int .i64 c.Num), .p (.int .i64 c.Den), .p (.int .i64 slot), .p (.slice 9 (tl.map ofP))], .vec 9 (r_.1.map ofP)]) := by
 refine LC.start Tryz.func54 Z Z Z ?_
 unfold FHear at hr
 refine zQ (zR (zM Z (zS Z Z Z (LOp.nilCheck Z Z) (zS Z Z Z (zA Z Z ft3090_0) (zS Z Z Z (zA Z Z ft1071_4) (zS Z Z Z (zD Z Z Z vt1036 Z Z) (zM Z (zS Z Z Z (LOp.buildSlice Z st3151 Z Z Z Z Z) (zb hr fun v1 h_v1 hr => zS Z Z Z (zC Z Z Z (by kernel_rfl) (LC.pure (c3095 h_v1) (.cons Conv.p .nil))) (zM Z (zN (zT (zQ (zR (zM Z (zS Z Z Z (LOp.nilCheck Z Z) (zS Z Z Z (zA Z Z ft3090_0) (zS Z Z Z (zA Z Z ft1071_4) (zS Z Z Z (LOp.store Z Z Z Z vt1036 Z Z Z Z) (zN (zT (zQ ?_))))))))))))))))))))))
 refine LW.ent (Ent.lazyCell (i := 4) (j := 6) (m := 9) Z Z Z Z Z Z) (zR (zM Z (zS Z Z Z (LOp.lenM Z Z (by kernel_rfl)) (zM Z (zN (zT ?_))))))
 obtain ⟨v2, hb_v2, ho_v2⟩ := zB hr
 clear hr
 refine LW.tail (E := []) (O := [.box [.p (.slice 1 (c0.W.map i64P)), .p (.int .u64 c0.Seed), .p (.int .i64 c0.Epoch), .p (.int .i64 c0.Num), .p (.int .i64 c0.Den)], .box [.p (.int .i64 n0.No), .p (.int .i64 n0.Tick), .p (.slice 5 (n0.V.B.map blkP)), .p (.slice 4 (n0.V.V.map vtP)), .p (.slice 5 (n0.In.B.map blkP)), .p (.slice 4 (n0.In.V.map vtP)), .p (.slice 9 (n0.O.map ofP)), .p (.int .u64 n0.C.ID.1), .p (.int .u64 n0.C.ID.2), .p (.int .i64 n0.C.Slot), .p (.int .i64 n0.C.Revoked), .p (.bool n0.Full)], .box [.p (.slice 5 (in0.B.map blkP)), .p (.slice 4 (in0.V.map vtP))], .box [.p (.int .i64 0), .p (.int .i64 0), .zs, .zs, .zs, .zs, .zs, .p (.int .u64 0), .p (.int .u64 0), .p (.int .i64 0), .p (.int .i64 0), .p (.bool false)], .box [.p (.int .i64 x.No), .p (.int .i64 x.Tick), .p (.slice 5 (x.V.B.map blkP)), .p (.slice 4 (x.V.V.map vtP)), .p (.slice 5 (x.In.B.map blkP)), .p (.slice 4 (x.In.V.map vtP)), .vec 9 5 (v2.o5.map ofP).length 0 (v2.o5.map ofP).length, .p (.int .u64 x.C.ID.1), .p (.int .u64 x.C.ID.2), .p (.int .i64 x.C.Slot), .p (.int .i64 x.C.Revoked), .p (.bool v2.w_11), .p (.slice 1 (c.W.map i64P)), .p (.int .u64 c.Seed), .p (.int .i64 c.Epoch), .p (.int .i64 c.Num), .p (.int .i64 c.Den), .p (.int .i64 slot), .p (.slice 9 (tl.map ofP))], .vec 9 (v2.o5.map ofP)]) ?_ (fun env_v2 H_v2 hw_v2 => ?_)
 ·refine LW.block ?_
  refine LW.iterB (E := fun x1 : FHear_L1 => [(0, .ptr 4 0), (19, .p (.slice 9 (v1.map ofP))), (20, .p (.int .i64 (v1.length : Int))), (21, .p (.int .i64 x1.t21))]) (O := fun x1 => [.box [.p (.slice 1 (c0.W.map i64P)), .p (.int .u64 c0.Seed), .p (.int .i64 c0.Epoch), .p (.int .i64 c0.Num), .p (.int .i64 c0.Den)], .box [.p (.int .i64 n0.No), .p (.int .i64 n0.Tick), .p (.slice 5 (n0.V.B.map blkP)), .p (.slice 4 (n0.V.V.map vtP)), .p (.slice 5 (n0.In.B.map blkP)), .p (.slice 4 (n0.In.V.map vtP)), .p (.slice 9 (n0.O.map ofP)), .p (.int .u64 n0.C.ID.1), .p (.int .u64 n0.C.ID.2), .p (.int .i64 n0.C.Slot), .p (.int .i64 n0.C.Revoked), .p (.bool n0.Full)], .box [.p (.slice 5 (in0.B.map blkP)), .p (.slice 4 (in0.V.map vtP))], .box [.p (.int .i64 0), .p (.int .i64 0), .zs, .zs, .zs, .zs, .zs, .p (.int .u64 0), .p (.int .u64 0), .p (.int .i64 0), .p (.int .i64 0), .p (.bool false)], .box [.p (.int .i64 x.No), .p (.int .i64 x.Tick), .p (.slice 5 (x.V.B.map blkP)), .p (.slice 4 (x.V.V.map vtP)), .p (.slice 5 (x.In.B.map blkP)), .p (.slice 4 (x.In.V.map vtP)), .vec 9 5 (x1.o5.map ofP).length 0 (x1.o5.map ofP).length, .p (.int .u64 x.C.ID.1), .p (.int .u64 x.C.ID.2), .p (.int .i64 x.C.Slot), .p (.int .i64 x.C.Revoked), .p (.bool x1.w_11), .p (.slice 1 (c.W.map i64P)), .p (.int .u64 c.Seed), .p (.int .i64 c.Epoch), .p (.int .i64 c.Num), .p (.int .i64 c.Den), .p (.int .i64 slot), .p (.slice 9 (tl.map ofP))], .vec 9 (x1.o5.map ofP)]) hb_v2 (zW 6 ⟨rfl, rfl, rfl, rfl, trivial⟩ Z Z Z Z) (fun x1 z_x1 hr hb_x1 => ?_)
  unfold FHear_s1 at hr
  refine zQ (zR (zS Z Z Z (LOp.bin Z Z Z Z) (zN (zT (zQ ?_)))))
  refine zX Z (fun g1 => ?_) (fun g1 => ?_)
  ·
   refine zi g1 hr fun hr => LW.skip (zT (zQ (LW.block (zQ (zR (zb hr fun y1 h_y1 hr => zS Z Z Z (LOp.indexAddrX Z Z Z st1036 h_y1 Z) (zS Z Z Z (LOp.loadC Z Z Z vt1077 Z Z) (zS Z Z Z (LOp.alloc Z zt1077 Z Z) (zS Z Z Z (LOp.store Z Z Z Z vt1077 Z Z Z Z) (zN (zT (LW.block ?_))))))))))))
   obtain ⟨v3, hb_v3, ho_v3⟩ := zB hr
   clear hr
   refine LW.cut (E := [(0, .ptr 4 0), (6, .ptr 6 0), (19, .p (.slice 9 (v1.map ofP))), (20, .p (.int .i64 (v1.length : Int))), (21, .p (.int .i64 x1.t21)), (38, .p (.bool v3))]) (O := [.box [.p (.slice 1 (c0.W.map i64P)), .p (.int .u64 c0.Seed), .p (.int .i64 c0.Epoch), .p (.int .i64 c0.Num), .p (.int .i64 c0.Den)], .box [.p (.int .i64 n0.No), .p (.int .i64 n0.Tick), .p (.slice 5 (n0.V.B.map blkP)), .p (.slice 4 (n0.V.V.map vtP)), .p (.slice 5 (n0.In.B.map blkP)), .p (.slice 4 (n0.In.V.map vtP)), .p (.slice 9 (n0.O.map ofP)), .p (.int .u64 n0.C.ID.1), .p (.int .u64 n0.C.ID.2), .p (.int .i64 n0.C.Slot), .p (.int .i64 n0.C.Revoked), .p (.bool n0.Full)], .box [.p (.slice 5 (in0.B.map blkP)), .p (.slice 4 (in0.V.map vtP))], .box [.p (.int .i64 0), .p (.int .i64 0), .zs, .zs, .zs, .zs, .zs, .p (.int .u64 0), .p (.int .u64 0), .p (.int .i64 0), .p (.int .i64 0), .p (.bool false)], .box [.p (.int .i64 x.No), .p (.int .i64 x.Tick), .p (.slice 5 (x.V.B.map blkP)), .p (.slice 4 (x.V.V.map vtP)), .p (.slice 5 (x.In.B.map blkP)), .p (.slice 4 (x.In.V.map vtP)), .vec 9 5 (x1.o5.map ofP).length 0 (x1.o5.map ofP).length, .p (.int .u64 x.C.ID.1), .p (.int .u64 x.C.ID.2), .p (.int .i64 x.C.Slot), .p (.int .i64 x.C.Revoked), .p (.bool x1.w_11), .p (.slice 1 (c.W.map i64P)), .p (.int .u64 c.Seed), .p (.int .i64 c.Epoch), .p (.int .i64 c.Num), .p (.int .i64 c.Den), .p (.int .i64 slot), .p (.slice 9 (tl.map ofP))], .vec 9 (x1.o5.map ofP), .box [.p (.int .i64 y1.Slot), .p (.int .i64 y1.From), .p (.int .i64 y1.B.Slot), .p (.int .i64 y1.B.From), .p (.int .u64 y1.B.Parent.1), .p (.int .u64 y1.B.Parent.2), .p (.int .u64 y1.B.Salt), .p (.slice 5 (y1.V.B.map blkP)), .p (.slice 4 (y1.V.V.map vtP))]]) ?_ ?_
   ·have hr := hb_v3
    refine zQ (zR (zM Z (zS Z Z Z (LOp.nilCheck Z Z) (zS Z Z Z (zA Z Z ft3090_0) (zS Z Z Z (zA Z Z ft1071_1) (zS Z Z Z (zD Z Z Z vt3 Z Z) (zS Z Z Z (LOp.rem Z Z Z (by decide)) (zS Z Z Z (LOp.bin Z Z Z Z) (zM Z (zN (zT ?_)))))))))))
    refine zX Z (fun g2 => ?_) (fun g2 => ?_)
    ·
     refine zi g2 hr fun hr => LW.skip (zT ?_)
     obtain rfl := zJ hr
     exact zW 7 ⟨Z, Z, Z, Z, Z, Z, trivial⟩ Z Z Z Z
    ·
     refine zo g2 hr fun hr => zQ (LW.draw (by kernel_rfl) (by kernel_rfl) (zE Z Z Z (zA Z Z ft1077_0) (zE Z Z Z (zD Z Z Z vt3 Z Z) (zH Z (zE Z Z Z (LOp.nilCheck Z Z) (zE Z Z Z (zA Z Z ft3090_2) (zE Z Z Z (zD Z Z Z vt3 Z Z) (zE Z Z Z (LOp.bin Z Z Z Z) (zH Z (LO.nil (zT ?_)))))))))))
     refine zX Z (fun g3 => ?_) (fun g3 => ?_)
     ·
      refine zi g3 hr fun hr => LW.skip (zT ?_)
      obtain rfl := zJ hr
      exact zW 7 ⟨Z, Z, Z, Z, Z, Z, trivial⟩ Z Z Z Z
     ·
      refine zo g3 hr fun hr => LW.draw (by kernel_rfl) (by kernel_rfl) (zE Z Z Z (zA Z Z ft1077_1) (zE Z Z Z (zD Z Z Z vt3 Z Z) (zH Z (zE Z Z Z (LOp.nilCheck Z Z) (zE Z Z Z (zA Z Z ft3090_1) (zE Z Z Z (zD Z Z Z vt55 Z Z) (zH Z (zE Z Z Z (LOp.nilCheck Z Z) (zE Z Z Z (zA Z Z ft3090_2) (zE Z Z Z (zD Z Z Z vt3 Z Z) (zb hr fun v4 h_v4 hr => zE Z Z Z (zC Z Z Z (by kernel_rfl) (LC.pure (c63 h_v4) (.cons Conv.p (.cons Conv.p .nil)))) (zE Z Z Z (LOp.bin Z Z Z Z) (zH Z (LO.nil (zT ?_)))))))))))))))
      obtain rfl := zJ hr
      exact zW 7 ⟨Z, Z, Z, Z, Z, Z, trivial⟩ Z Z Z Z
   ·have hr := ho_v3
    clear hb_v3
    refine zX Z (fun g4 => ?_) (fun g4 => ?_)
    ·
     refine zi g4 hr fun hr => LW.skip (inBlk_n (inBlk_n (zT (zR (zS Z Z Z (LOp.bin Z Z Z Z) (zM Z (zN (zT ?_))))))))
     obtain rfl := zJ hr
     exact ⟨_, rfl, zW 6 ⟨rfl, rfl, rfl, rfl, trivial⟩ Z Z Z rfl⟩
    ·
     refine zo g4 hr fun hr => zQ (zR (zM Z (zS Z Z Z (LOp.nilCheck Z Z) (zS Z Z Z (zA Z Z ft3090_0) (zS Z Z Z (zA Z Z ft1071_4) (zS Z Z Z (zD Z Z Z vt1036 Z Z) (zS Z Z Z (LOp.lenVM Z Z Z (by kernel_rfl)) (zS Z Z Z (LOp.bin Z Z Z Z) (zM Z (zN (zT ?_)))))))))))
     refine zX Z (fun g5 => ?_) (fun g5 => ?_)
     ·
      refine zi g5 hr fun hr => zR (zM Z (zS Z Z Z (LOp.nilCheck Z Z) (zS Z Z Z (zA Z Z ft3090_0) (zS Z Z Z (zA Z Z ft1071_6) (zS Z Z Z (LOp.store Z Z Z Z vt4 Z Z Z Z) (zN (inBlk_n (inBlk_n (zT (zR (zS Z Z Z (LOp.bin Z Z Z Z) (zM Z (zN (zT ?_))))))))))))))
      obtain rfl := zJ hr
      exact ⟨_, rfl, zW 6 ⟨rfl, rfl, rfl, rfl, trivial⟩ Z Z Z rfl⟩
     ·
      refine zo g5 hr fun hr => LW.drawW (by kernel_rfl) (by kernel_rfl) (zK Z (zK Z ?_))
      refine zF (F := []) (s := none) Z Z Z (fun H _ => LOp.nilCheck Z Z) Z ?_
      refine zF (F := []) (s := none) Z Z Z (fun H _ => zA Z Z ft3090_0) Z ?_
      refine zF (F := []) (s := none) Z Z Z (fun H _ => zA Z Z ft1071_4) Z ?_
      refine zF Z Z Z (LAt.load Z Z Z vt1036 Z Z) Z (zF Z Z Z (LAt.load Z Z Z vt1077 Z Z) Z (zb hr fun v5 h_v5 hr => ?_))
      refine zF (F := []) (s := none) Z Z Z (fun H _ => zC Z Z Z (by kernel_rfl) (LC.pure (c3052 h_v5) (.cons Conv.p .nil))) Z ?_
      refine zF (F := []) (s := none) Z Z Z (fun H _ => LOp.buildSlice Z st1036 Z Z Z Z Z) Z ?_
      refine zg hr fun q1 hr => zF Z Z Z (LAt.appendX ofP x1.o5 [v5] rfl Z Z Z Z st1036 q1) Z ?_
      refine zF (F := []) (s := none) Z Z Z (fun H _ => LOp.nilCheck Z Z) Z ?_
      refine zF (F := []) (s := none) Z Z Z (fun H _ => zA Z Z ft3090_0) Z ?_
      refine zF (F := []) (s := none) Z Z Z (fun H _ => zA Z Z ft1071_4) Z ?_
      refine zF Z Z Z (LAt.store Z Z Z Z vt1036 Z Z Z) Z ?_
      refine LF.nil ⟨by kernel_rfl, ?_⟩
      refine inBlk_n (inBlk_n (zT (zR (zS Z Z Z (LOp.bin Z Z Z Z) (zM Z (zN (zT ?_)))))))
      obtain rfl := zJ hr
      exact ⟨_, rfl, zW 6 ⟨rfl, rfl, rfl, rfl, trivial⟩ Z Z Z rfl⟩
  ·
   refine zo g1 hr fun hr => LW.exit (thn_e (thn_e (inBlk_self (zT ?_))))
   obtain rfl := zJ hr
   have hr := congrArg some (hb_x1 _ rfl)
   obtain rfl := zJ hr
   exact zW 6 trivial Z Z Z Z
 ·have hr := ho_v2
  clear hb_v2
  obtain rfl := zJ hr
  exact fin_endW hw_v2 .none ⟨rfl, rfl⟩
def FCount (inp : Vw) (c : Cf) (slot : Int) (v : Vw) (full : Bool) : Option (Vw × Vw × Bool) :=
 (F90 c v inp slot).bind fun v1 =>
 bif full then
  some (v1.2.1, v1.1, true)
 else
  some (v1.2.1, v1.1, v1.2.2)
set_option maxRecDepth 100000 in
theorem cFCount {inp : Vw} {c : Cf} {slot : Int} {v : Vw} {full : Bool} {x : Nd} {o : List Of} {tl : List Of} {c0 : Cf} {n0 : Nd} {in0 : Vw} {r_ : Vw × Vw × Bool} (hr : FCount inp c slot v full = some r_) : LC Tryz.prog 96 [.ptr 4 0, .p (vwP inp)] [.box [.p (.slice 1 (c0.W.map i64P)), .p (.int .u64 c0.Seed), .p (.int .i64 c0.Epoch), .p (.int .i64 c0.Num), .p (.int .i64 c0.Den)], .box [.p (.int .i64 n0.No), .p (.int .i64 n0.Tick), .p (.slice 5 (n0.V.B.map blkP)), .p (.slice 4 (n0.V.V.map vtP)), .p (.slice 5 (n0.In.B.map blkP)), .p (.slice 4 (n0.In.V.map vtP)), .p (.slice 9 (n0.O.map ofP)), .p (.int .u64 n0.C.ID.1), .p (.int .u64 n0.C.ID.2), .p (.int .i64 n0.C.Slot), .p (.int .i64 n0.C.Revoked), .p (.bool n0.Full)], .box [.p (.slice 5 (in0.B.map blkP)), .p (.slice 4 (in0.V.map vtP))], .box [.p (.int .i64 0), .p (.int .i64 0), .zs, .zs, .zs, .zs, .zs, .p (.int .u64 0), .p (.int .u64 0), .p (.int .i64 0), .p (.int .i64 0), .p (.bool false)], .box [.p (.int .i64 x.No), .p (.int .i64 x.Tick), .p (.slice 5 (v.B.map blkP)), .p (.slice 4 (v.V.map vtP)), .p (.slice 5 (x.In.B.map blkP)), .p (.slice 4 (x.In.V.map vtP)), .vec 9 5 (o.map ofP).length 0 (o.map ofP).length, .p (.int .u64 x.C.ID.1), .p (.int .u64 x.C.ID.2), .p (.int .i64 x.C.Slot), .p (.int .i64 x.C.Revoked), .p (.bool full), .p (.slice 1 (c.W.map i64P)), .p (.int .u64 c.Seed), .p (.int .i64 c.Epoch), .p (.int .i64 c.Num), .p (.int .i64 c.Den), .p (.int .i64 slot), .p (.slice 9 (tl.map ofP))], .vec 9 (o.map ofP)] (Is (.p (vwP r_.1)) [.box [.p (.slice 1 (c0.W.map i64P)), .p (.int .u64 c0.Seed), .p (.int .i64 c0.Epoch), .p (.int .i64 c0.Num), .p (.int .i64 c0.Den)], .box [.p (.int .i64 n0.No), .p (.int .i64 n0.Tick), .p (.slice 5 (n0.V.B.map blkP)), .p (.slice 4 (n0.V.V.map vtP)), .p (.slice 5 (n0.In.B.map blkP)), .p (.slice 4 (n0.In.V.map vtP)), .p (.slice 9 (n0.O.map ofP)), .p (.int .u64 n0.C.ID.1), .p (.int .u64 n0.C.ID.2), .p (.int .i64 n0.C.Slot), .p (.int .i64 n0.C.Revoked), .p (.bool n0.Full)], .box [.p (.slice 5 (in0.B.map blkP)), .p (.slice 4 (in0.V.map vtP))], .box [.p (.int .i64 0), .p (.int .i64 0), .zs, .zs, .zs, .zs, .zs, .p (.int .u64 0), .p (.int .u64 0), .p (.int .i64 0), .p (.int .i64 0), .p (.bool false)], .box [.p (.int .i64 x.No), .p (.int .i64 x.Tick), .p (.slice 5 (r_.2.1.B.map blkP)), .p (.slice 4 (r_.2.1.V.map vtP)), .p (.slice 5 (x.In.B.map blkP)), .p (.slice 4 (x.In.V.map vtP)), .vec 9 5 (o.map ofP).length 0 (o.map ofP).length, .p (.int .u64 x.C.ID.1), .p (.int .u64 x.C.ID.2), .p (.int .i64 x.C.Slot), .p (.int .i64 x.C.Revoked), .p (.bool r_.2.2), .p (.slice 1 (c.W.map i64P)), .p (.int .u64 c.Seed), .p (.int .i64 c.Epoch), .p (.int .i64 c.Num), .p (.int .i64 c.Den), .p (.int .i64 slot), .p (.slice 9 (tl.map ofP))], .vec 9 (o.map ofP)]) := by
 refine LC.start Tryz.func96 Z Z Z ?_
 unfold FCount at hr
 refine zQ (zR (zS Z Z Z (LOp.box Z Z Z Z Z) (zS Z Z Z (LOp.alloc Z zt75 Z Z) (zN (zT (zQ (LW.ent (Ent.slot Z) (LW.ent (Ent.slot Z) (LW.drawW (by kernel_rfl) (by kernel_rfl) (zK Z ?_))))))))))
 refine zF (F := []) (s := none) Z Z Z (fun H _ => LOp.nilCheck Z Z) Z ?_
 refine zF (F := []) (s := none) Z Z Z (fun H _ => zA Z Z ft3090_1) Z ?_
 refine zF Z Z Z (LAt.load Z Z Z vt55 Z Z) Z (zK Z ?_)
 refine zF (F := []) (s := none) Z Z Z (fun H _ => LOp.nilCheck Z Z) Z ?_
 refine zF (F := []) (s := none) Z Z Z (fun H _ => zA Z Z ft3090_0) Z ?_
 refine zF (F := []) (s := none) Z Z Z (fun H _ => zA Z Z ft1071_2) Z ?_
 refine zF Z Z Z (LAt.load Z Z Z vt75 Z Z) Z (zF Z Z Z (LAt.load Z Z Z vt75 Z Z) Z (zK Z ?_))
 refine zF (F := []) (s := none) Z Z Z (fun H _ => LOp.nilCheck Z Z) Z ?_
 refine zF (F := []) (s := none) Z Z Z (fun H _ => zA Z Z ft3090_2) Z ?_
 refine zF Z Z Z (LAt.load Z Z Z vt3 Z Z) Z (zb hr fun v1 h_v1 hr => ?_)
 refine zF (F := []) (s := none) Z Z Z (fun H _ => zC Z Z Z (by kernel_rfl) (LC.pure (c90 h_v1) (.cons Conv.p (.cons Conv.p (.cons Conv.p (.cons Conv.p .nil)))))) Z ?_
 refine zK Z ?_
 refine zF (F := []) (s := none) Z Z Z (fun H _ => LOp.extract Z Z Z) Z ?_
 refine zF (F := []) (s := none) Z Z Z (fun H _ => LOp.extract Z Z Z) Z ?_
 refine zF (F := []) (s := none) Z Z Z (fun H _ => LOp.extract Z Z Z) Z ?_
 refine zF Z Z Z (LAt.alloc Z zt75 (id := 8) Z) Z (zF Z Z Z (LAt.alloc Z zt75 (id := 9) Z) Z (zF Z Z Z (LAt.store Z Z Z Z vt75 Z Z Z) Z (zF Z Z Z (LAt.store Z Z Z Z vt75 Z Z Z) Z (zK Z ?_))))
 refine LF.nil ⟨by kernel_rfl, ?_⟩
 refine zT (zQ (LW.drawW (by kernel_rfl) (by kernel_rfl) (zK Z (zK Z (zF Z Z Z (LAt.load Z Z Z vt75 Z Z) Z (zK Z ?_))))))
 refine zF (F := []) (s := none) Z Z Z (fun H _ => LOp.nilCheck Z Z) Z ?_
 refine zF (F := []) (s := none) Z Z Z (fun H _ => zA Z Z ft3090_0) Z ?_
 refine zF (F := []) (s := none) Z Z Z (fun H _ => zA Z Z ft1071_6) Z ?_
 refine zF Z Z Z (LAt.load Z Z Z vt4 Z Z) Z (zK Z ?_)
 refine LF.cases 35 Z (fun (g1 : full = true) => ?_) (fun (g1 : full = false) => ?_)
 ·
  refine zi g1 hr fun hr => LF.sk Z Z Z (gd g1 Z) Z Z ?_
  refine zF (F := []) (s := none) Z Z Z (fun H _ => LOp.pickT Z (gdl g1 Z) Z) Z ?_
  refine zF (F := []) (s := none) Z Z Z (fun H _ => LOp.nilCheck Z Z) Z ?_
  refine zF (F := []) (s := none) Z Z Z (fun H _ => zA Z Z ft3090_0) Z ?_
  refine zF (F := []) (s := none) Z Z Z (fun H _ => zA Z Z ft1071_2) Z ?_
  refine zF Z Z Z (LAt.store Z Z Z Z vt75 Z Z Z) Z ?_
  refine zF (F := []) (s := none) Z Z Z (fun H _ => LOp.nilCheck Z Z) Z ?_
  refine zF (F := []) (s := none) Z Z Z (fun H _ => zA Z Z ft3090_0) Z ?_
  refine zF (F := []) (s := none) Z Z Z (fun H _ => zA Z Z ft1071_6) Z ?_
  refine zF Z Z Z (LAt.store Z Z Z Z vt4 Z Z Z) Z ?_
  refine LF.nil ⟨by kernel_rfl, ?_⟩
  refine zT (zQ (zR (zS Z Z Z (zD Z Z Z vt75 Z Z) (zS Z Z Z (LOp.store Z Z Z Z vt75 Z Z Z Z) (zN (zT (LW.ret ?_)))))))
  obtain rfl := zJ hr
  refine fin_retV (env' := []) (H' := [.box [.p (.slice 1 (c0.W.map i64P)), .p (.int .u64 c0.Seed), .p (.int .i64 c0.Epoch), .p (.int .i64 c0.Num), .p (.int .i64 c0.Den)], .box [.p (.int .i64 n0.No), .p (.int .i64 n0.Tick), .p (.slice 5 (n0.V.B.map blkP)), .p (.slice 4 (n0.V.V.map vtP)), .p (.slice 5 (n0.In.B.map blkP)), .p (.slice 4 (n0.In.V.map vtP)), .p (.slice 9 (n0.O.map ofP)), .p (.int .u64 n0.C.ID.1), .p (.int .u64 n0.C.ID.2), .p (.int .i64 n0.C.Slot), .p (.int .i64 n0.C.Revoked), .p (.bool n0.Full)], .box [.p (.slice 5 (in0.B.map blkP)), .p (.slice 4 (in0.V.map vtP))], .box [.p (.int .i64 0), .p (.int .i64 0), .zs, .zs, .zs, .zs, .zs, .p (.int .u64 0), .p (.int .u64 0), .p (.int .i64 0), .p (.int .i64 0), .p (.bool false)], .box [.p (.int .i64 x.No), .p (.int .i64 x.Tick), .p (.slice 5 (v1.1.B.map blkP)), .p (.slice 4 (v1.1.V.map vtP)), .p (.slice 5 (x.In.B.map blkP)), .p (.slice 4 (x.In.V.map vtP)), .vec 9 5 (o.map ofP).length 0 (o.map ofP).length, .p (.int .u64 x.C.ID.1), .p (.int .u64 x.C.ID.2), .p (.int .i64 x.C.Slot), .p (.int .i64 x.C.Revoked), .p (.bool true), .p (.slice 1 (c.W.map i64P)), .p (.int .u64 c.Seed), .p (.int .i64 c.Epoch), .p (.int .i64 c.Num), .p (.int .i64 c.Den), .p (.int .i64 slot), .p (.slice 9 (tl.map ofP))], .vec 9 (o.map ofP)]) (zW 6 trivial Z Z Z Z) (.one (.cellAgg Z Z (by kernel_rfl) Z)) Z ?_
  exact ⟨rfl, rfl⟩
 ·
  have hr := zO g1 hr
  refine LF.gd (F := []) (s := none) Z Z Z (gd g1 Z) Z (fun H _ => LOp.move Z Z) Z ?_
  refine zF (F := []) (s := none) Z Z Z (fun H _ => LOp.pickF Z (gdl g1 Z) Z) Z ?_
  refine zF (F := []) (s := none) Z Z Z (fun H _ => LOp.nilCheck Z Z) Z ?_
  refine zF (F := []) (s := none) Z Z Z (fun H _ => zA Z Z ft3090_0) Z ?_
  refine zF (F := []) (s := none) Z Z Z (fun H _ => zA Z Z ft1071_2) Z ?_
  refine zF Z Z Z (LAt.store Z Z Z Z vt75 Z Z Z) Z ?_
  refine zF (F := []) (s := none) Z Z Z (fun H _ => LOp.nilCheck Z Z) Z ?_
  refine zF (F := []) (s := none) Z Z Z (fun H _ => zA Z Z ft3090_0) Z ?_
  refine zF (F := []) (s := none) Z Z Z (fun H _ => zA Z Z ft1071_6) Z ?_
  refine zF Z Z Z (LAt.store Z Z Z Z vt4 Z Z Z) Z ?_
  refine LF.nil ⟨by kernel_rfl, ?_⟩
  refine zT (zQ (zR (zS Z Z Z (zD Z Z Z vt75 Z Z) (zS Z Z Z (LOp.store Z Z Z Z vt75 Z Z Z Z) (zN (zT (LW.ret ?_)))))))
  obtain rfl := zJ hr
  refine fin_retV (env' := []) (H' := [.box [.p (.slice 1 (c0.W.map i64P)), .p (.int .u64 c0.Seed), .p (.int .i64 c0.Epoch), .p (.int .i64 c0.Num), .p (.int .i64 c0.Den)], .box [.p (.int .i64 n0.No), .p (.int .i64 n0.Tick), .p (.slice 5 (n0.V.B.map blkP)), .p (.slice 4 (n0.V.V.map vtP)), .p (.slice 5 (n0.In.B.map blkP)), .p (.slice 4 (n0.In.V.map vtP)), .p (.slice 9 (n0.O.map ofP)), .p (.int .u64 n0.C.ID.1), .p (.int .u64 n0.C.ID.2), .p (.int .i64 n0.C.Slot), .p (.int .i64 n0.C.Revoked), .p (.bool n0.Full)], .box [.p (.slice 5 (in0.B.map blkP)), .p (.slice 4 (in0.V.map vtP))], .box [.p (.int .i64 0), .p (.int .i64 0), .zs, .zs, .zs, .zs, .zs, .p (.int .u64 0), .p (.int .u64 0), .p (.int .i64 0), .p (.int .i64 0), .p (.bool false)], .box [.p (.int .i64 x.No), .p (.int .i64 x.Tick), .p (.slice 5 (v1.1.B.map blkP)), .p (.slice 4 (v1.1.V.map vtP)), .p (.slice 5 (x.In.B.map blkP)), .p (.slice 4 (x.In.V.map vtP)), .vec 9 5 (o.map ofP).length 0 (o.map ofP).length, .p (.int .u64 x.C.ID.1), .p (.int .u64 x.C.ID.2), .p (.int .i64 x.C.Slot), .p (.int .i64 x.C.Revoked), .p (.bool v1.2.2), .p (.slice 1 (c.W.map i64P)), .p (.int .u64 c.Seed), .p (.int .i64 c.Epoch), .p (.int .i64 c.Num), .p (.int .i64 c.Den), .p (.int .i64 slot), .p (.slice 9 (tl.map ofP))], .vec 9 (o.map ofP)]) (zW 6 trivial Z Z Z Z) (.one (.cellAgg Z Z (by kernel_rfl) Z)) Z ?_
  exact ⟨rfl, rfl⟩
def FWhead (c : Cf) (v : Vw) (s : Int) : Option ID :=
 (F1048 c v s).bind fun v1 =>
 some v1
set_option maxRecDepth 100000 in
theorem cFWhead {c : Cf} {v : Vw} {s : Int} {x : Nd} {slot : Int} {o : List Of} {tl : List Of} {c0 : Cf} {n0 : Nd} {in0 : Vw} {r_ : ID} (hr : FWhead c v s = some r_) : LC Tryz.prog 97 [.ptr 4 0, .p (.int .i64 s)] [.box [.p (.slice 1 (c0.W.map i64P)), .p (.int .u64 c0.Seed), .p (.int .i64 c0.Epoch), .p (.int .i64 c0.Num), .p (.int .i64 c0.Den)], .box [.p (.int .i64 n0.No), .p (.int .i64 n0.Tick), .p (.slice 5 (n0.V.B.map blkP)), .p (.slice 4 (n0.V.V.map vtP)), .p (.slice 5 (n0.In.B.map blkP)), .p (.slice 4 (n0.In.V.map vtP)), .p (.slice 9 (n0.O.map ofP)), .p (.int .u64 n0.C.ID.1), .p (.int .u64 n0.C.ID.2), .p (.int .i64 n0.C.Slot), .p (.int .i64 n0.C.Revoked), .p (.bool n0.Full)], .box [.p (.slice 5 (in0.B.map blkP)), .p (.slice 4 (in0.V.map vtP))], .box [.p (.int .i64 0), .p (.int .i64 0), .zs, .zs, .zs, .zs, .zs, .p (.int .u64 0), .p (.int .u64 0), .p (.int .i64 0), .p (.int .i64 0), .p (.bool false)], .box [.p (.int .i64 x.No), .p (.int .i64 x.Tick), .p (.slice 5 (v.B.map blkP)), .p (.slice 4 (v.V.map vtP)), .p (.slice 5 (x.In.B.map blkP)), .p (.slice 4 (x.In.V.map vtP)), .vec 9 5 (o.map ofP).length 0 (o.map ofP).length, .p (.int .u64 x.C.ID.1), .p (.int .u64 x.C.ID.2), .p (.int .i64 x.C.Slot), .p (.int .i64 x.C.Revoked), .p (.bool x.Full), .p (.slice 1 (c.W.map i64P)), .p (.int .u64 c.Seed), .p (.int .i64 c.Epoch), .p (.int .i64 c.Num), .p (.int .i64 c.Den), .p (.int .i64 slot), .p (.slice 9 (tl.map ofP))], .vec 9 (o.map ofP)] (Is (.p (idP r_)) [.box [.p (.slice 1 (c0.W.map i64P)), .p (.int .u64 c0.Seed), .p (.int .i64 c0.Epoch), .p (.int .i64 c0.Num), .p (.int .i64 c0.Den)], .box [.p (.int .i64 n0.No), .p (.int .i64 n0.Tick), .p (.slice 5 (n0.V.B.map blkP)), .p (.slice 4 (n0.V.V.map vtP)), .p (.slice 5 (n0.In.B.map blkP)), .p (.slice 4 (n0.In.V.map vtP)), .p (.slice 9 (n0.O.map ofP)), .p (.int .u64 n0.C.ID.1), .p (.int .u64 n0.C.ID.2), .p (.int .i64 n0.C.Slot), .p (.int .i64 n0.C.Revoked), .p (.bool n0.Full)], .box [.p (.slice 5 (in0.B.map blkP)), .p (.slice 4 (in0.V.map vtP))], .box [.p (.int .i64 0), .p (.int .i64 0), .zs, .zs, .zs, .zs, .zs, .p (.int .u64 0), .p (.int .u64 0), .p (.int .i64 0), .p (.int .i64 0), .p (.bool false)], .box [.p (.int .i64 x.No), .p (.int .i64 x.Tick), .p (.slice 5 (v.B.map blkP)), .p (.slice 4 (v.V.map vtP)), .p (.slice 5 (x.In.B.map blkP)), .p (.slice 4 (x.In.V.map vtP)), .vec 9 5 (o.map ofP).length 0 (o.map ofP).length, .p (.int .u64 x.C.ID.1), .p (.int .u64 x.C.ID.2), .p (.int .i64 x.C.Slot), .p (.int .i64 x.C.Revoked), .p (.bool x.Full), .p (.slice 1 (c.W.map i64P)), .p (.int .u64 c.Seed), .p (.int .i64 c.Epoch), .p (.int .i64 c.Num), .p (.int .i64 c.Den), .p (.int .i64 slot), .p (.slice 9 (tl.map ofP))], .vec 9 (o.map ofP)]) := by
 refine LC.start Tryz.func97 Z Z Z ?_
 unfold FWhead at hr
 refine zQ (zR (zS Z Z Z (LOp.alloc Z zt24 Z Z) (zN (zT (zQ (LW.drawLast (m := 11) (by kernel_rfl) (by kernel_rfl) (by kernel_rfl) (zH Z (zE Z Z Z (LOp.nilCheck Z Z) (zE Z Z Z (zA Z Z ft3090_1) (zE Z Z Z (zD Z Z Z vt55 Z Z) (zH Z (zE Z Z Z (LOp.nilCheck Z Z) (zE Z Z Z (zA Z Z ft3090_0) (zE Z Z Z (zA Z Z ft1071_2) (zE Z Z Z (zD Z Z Z vt75 Z Z) (zH Z (zb hr fun v1 h_v1 hr => zE Z Z Z (zC Z Z Z (by kernel_rfl) (LC.pure (c1048 h_v1) (.cons Conv.p (.cons Conv.p (.cons Conv.p .nil))))) (LO.nil (zS Z Z Z (LOp.store Z Z Z Z vt24 Z Z Z Z) (zN (zT (LW.ret ?_))))))))))))))))))))))
 obtain rfl := zJ hr
 refine fin_retV (env' := []) (H' := [.box [.p (.slice 1 (c0.W.map i64P)), .p (.int .u64 c0.Seed), .p (.int .i64 c0.Epoch), .p (.int .i64 c0.Num), .p (.int .i64 c0.Den)], .box [.p (.int .i64 n0.No), .p (.int .i64 n0.Tick), .p (.slice 5 (n0.V.B.map blkP)), .p (.slice 4 (n0.V.V.map vtP)), .p (.slice 5 (n0.In.B.map blkP)), .p (.slice 4 (n0.In.V.map vtP)), .p (.slice 9 (n0.O.map ofP)), .p (.int .u64 n0.C.ID.1), .p (.int .u64 n0.C.ID.2), .p (.int .i64 n0.C.Slot), .p (.int .i64 n0.C.Revoked), .p (.bool n0.Full)], .box [.p (.slice 5 (in0.B.map blkP)), .p (.slice 4 (in0.V.map vtP))], .box [.p (.int .i64 0), .p (.int .i64 0), .zs, .zs, .zs, .zs, .zs, .p (.int .u64 0), .p (.int .u64 0), .p (.int .i64 0), .p (.int .i64 0), .p (.bool false)], .box [.p (.int .i64 x.No), .p (.int .i64 x.Tick), .p (.slice 5 (v.B.map blkP)), .p (.slice 4 (v.V.map vtP)), .p (.slice 5 (x.In.B.map blkP)), .p (.slice 4 (x.In.V.map vtP)), .vec 9 5 (o.map ofP).length 0 (o.map ofP).length, .p (.int .u64 x.C.ID.1), .p (.int .u64 x.C.ID.2), .p (.int .i64 x.C.Slot), .p (.int .i64 x.C.Revoked), .p (.bool x.Full), .p (.slice 1 (c.W.map i64P)), .p (.int .u64 c.Seed), .p (.int .i64 c.Epoch), .p (.int .i64 c.Num), .p (.int .i64 c.Den), .p (.int .i64 slot), .p (.slice 9 (tl.map ofP))], .vec 9 (o.map ofP)]) (zW 6 trivial Z Z Z Z) (.one (.cellAgg Z Z (by kernel_rfl) Z)) Z ?_
 exact ⟨rfl, rfl⟩
theorem whead_of {c : Cf} {v : Vw} {s : Int} {r_ : ID} (h : F1048 c v s = some r_) : FWhead c v s = some r_ := by unfold FWhead; rw [h]; rfl
def FWheadN (c : Cf) (v : Vw) (s : Int) : Option ID :=
 (F1048 c v s).bind fun v1 =>
 some v1
set_option maxRecDepth 100000 in
theorem cFWheadN {c : Cf} {v : Vw} {s : Int} {x : Nd} {slot : Int} {o : List Of} {tl : List Of} {c0 : Cf} {n0 : Nd} {in0 : Vw} {r_ : ID} (hr : FWheadN c v s = some r_) : LC Tryz.prog 97 [.ptr 4 0, .p (.int .i64 s)] [.box [.p (.slice 1 (c0.W.map i64P)), .p (.int .u64 c0.Seed), .p (.int .i64 c0.Epoch), .p (.int .i64 c0.Num), .p (.int .i64 c0.Den)], .box [.p (.int .i64 n0.No), .p (.int .i64 n0.Tick), .p (.slice 5 (n0.V.B.map blkP)), .p (.slice 4 (n0.V.V.map vtP)), .p (.slice 5 (n0.In.B.map blkP)), .p (.slice 4 (n0.In.V.map vtP)), .p (.slice 9 (n0.O.map ofP)), .p (.int .u64 n0.C.ID.1), .p (.int .u64 n0.C.ID.2), .p (.int .i64 n0.C.Slot), .p (.int .i64 n0.C.Revoked), .p (.bool n0.Full)], .box [.p (.slice 5 (in0.B.map blkP)), .p (.slice 4 (in0.V.map vtP))], .box [.p (.int .i64 0), .p (.int .i64 0), .zs, .zs, .zs, .zs, .zs, .p (.int .u64 0), .p (.int .u64 0), .p (.int .i64 0), .p (.int .i64 0), .p (.bool false)], .box [.p (.int .i64 x.No), .p (.int .i64 x.Tick), .p (.slice 5 (v.B.map blkP)), .p (.slice 4 (v.V.map vtP)), .p (.slice 5 (x.In.B.map blkP)), .p (.slice 4 (x.In.V.map vtP)), .p (.slice 9 (x.O.map ofP)), .p (.int .u64 x.C.ID.1), .p (.int .u64 x.C.ID.2), .p (.int .i64 x.C.Slot), .p (.int .i64 x.C.Revoked), .p (.bool x.Full), .p (.slice 1 (c.W.map i64P)), .p (.int .u64 c.Seed), .p (.int .i64 c.Epoch), .p (.int .i64 c.Num), .p (.int .i64 c.Den), .p (.int .i64 slot), .p (.slice 9 (tl.map ofP))], .vec 9 (o.map ofP)] (Is (.p (idP r_)) [.box [.p (.slice 1 (c0.W.map i64P)), .p (.int .u64 c0.Seed), .p (.int .i64 c0.Epoch), .p (.int .i64 c0.Num), .p (.int .i64 c0.Den)], .box [.p (.int .i64 n0.No), .p (.int .i64 n0.Tick), .p (.slice 5 (n0.V.B.map blkP)), .p (.slice 4 (n0.V.V.map vtP)), .p (.slice 5 (n0.In.B.map blkP)), .p (.slice 4 (n0.In.V.map vtP)), .p (.slice 9 (n0.O.map ofP)), .p (.int .u64 n0.C.ID.1), .p (.int .u64 n0.C.ID.2), .p (.int .i64 n0.C.Slot), .p (.int .i64 n0.C.Revoked), .p (.bool n0.Full)], .box [.p (.slice 5 (in0.B.map blkP)), .p (.slice 4 (in0.V.map vtP))], .box [.p (.int .i64 0), .p (.int .i64 0), .zs, .zs, .zs, .zs, .zs, .p (.int .u64 0), .p (.int .u64 0), .p (.int .i64 0), .p (.int .i64 0), .p (.bool false)], .box [.p (.int .i64 x.No), .p (.int .i64 x.Tick), .p (.slice 5 (v.B.map blkP)), .p (.slice 4 (v.V.map vtP)), .p (.slice 5 (x.In.B.map blkP)), .p (.slice 4 (x.In.V.map vtP)), .p (.slice 9 (x.O.map ofP)), .p (.int .u64 x.C.ID.1), .p (.int .u64 x.C.ID.2), .p (.int .i64 x.C.Slot), .p (.int .i64 x.C.Revoked), .p (.bool x.Full), .p (.slice 1 (c.W.map i64P)), .p (.int .u64 c.Seed), .p (.int .i64 c.Epoch), .p (.int .i64 c.Num), .p (.int .i64 c.Den), .p (.int .i64 slot), .p (.slice 9 (tl.map ofP))], .vec 9 (o.map ofP)]) := by
 refine LC.start Tryz.func97 Z Z Z ?_
 unfold FWheadN at hr
 refine zQ (zR (zS Z Z Z (LOp.alloc Z zt24 Z Z) (zN (zT (zQ (LW.drawLast (m := 11) (by kernel_rfl) (by kernel_rfl) (by kernel_rfl) (zH Z (zE Z Z Z (LOp.nilCheck Z Z) (zE Z Z Z (zA Z Z ft3090_1) (zE Z Z Z (zD Z Z Z vt55 Z Z) (zH Z (zE Z Z Z (LOp.nilCheck Z Z) (zE Z Z Z (zA Z Z ft3090_0) (zE Z Z Z (zA Z Z ft1071_2) (zE Z Z Z (zD Z Z Z vt75 Z Z) (zH Z (zb hr fun v1 h_v1 hr => zE Z Z Z (zC Z Z Z (by kernel_rfl) (LC.pure (c1048 h_v1) (.cons Conv.p (.cons Conv.p (.cons Conv.p .nil))))) (LO.nil (zS Z Z Z (LOp.store Z Z Z Z vt24 Z Z Z Z) (zN (zT (LW.ret ?_))))))))))))))))))))))
 obtain rfl := zJ hr
 refine fin_retV (env' := []) (H' := [.box [.p (.slice 1 (c0.W.map i64P)), .p (.int .u64 c0.Seed), .p (.int .i64 c0.Epoch), .p (.int .i64 c0.Num), .p (.int .i64 c0.Den)], .box [.p (.int .i64 n0.No), .p (.int .i64 n0.Tick), .p (.slice 5 (n0.V.B.map blkP)), .p (.slice 4 (n0.V.V.map vtP)), .p (.slice 5 (n0.In.B.map blkP)), .p (.slice 4 (n0.In.V.map vtP)), .p (.slice 9 (n0.O.map ofP)), .p (.int .u64 n0.C.ID.1), .p (.int .u64 n0.C.ID.2), .p (.int .i64 n0.C.Slot), .p (.int .i64 n0.C.Revoked), .p (.bool n0.Full)], .box [.p (.slice 5 (in0.B.map blkP)), .p (.slice 4 (in0.V.map vtP))], .box [.p (.int .i64 0), .p (.int .i64 0), .zs, .zs, .zs, .zs, .zs, .p (.int .u64 0), .p (.int .u64 0), .p (.int .i64 0), .p (.int .i64 0), .p (.bool false)], .box [.p (.int .i64 x.No), .p (.int .i64 x.Tick), .p (.slice 5 (v.B.map blkP)), .p (.slice 4 (v.V.map vtP)), .p (.slice 5 (x.In.B.map blkP)), .p (.slice 4 (x.In.V.map vtP)), .p (.slice 9 (x.O.map ofP)), .p (.int .u64 x.C.ID.1), .p (.int .u64 x.C.ID.2), .p (.int .i64 x.C.Slot), .p (.int .i64 x.C.Revoked), .p (.bool x.Full), .p (.slice 1 (c.W.map i64P)), .p (.int .u64 c.Seed), .p (.int .i64 c.Epoch), .p (.int .i64 c.Num), .p (.int .i64 c.Den), .p (.int .i64 slot), .p (.slice 9 (tl.map ofP))], .vec 9 (o.map ofP)]) (zW 6 trivial Z Z Z Z) (.one (.cellAgg Z Z (by kernel_rfl) Z)) Z ?_
 exact ⟨rfl, rfl⟩
theorem wheadN_of {c : Cf} {v : Vw} {s : Int} {r_ : ID} (h : F1048 c v s = some r_) : FWheadN c v s = some r_ := by unfold FWheadN; rw [h]; rfl
def FFirst (x : Nd) (c : Cf) (slot : Int) (tl : List Of) : Option (Vw × Vw × Bool × List Of) :=
 (F63 c slot).bind fun v1 =>
 bif x.No != v1 then
  some (x.V, x.In, x.Full, tl)
 else
  (FCount x.In c slot x.V x.Full).bind fun v2 =>
  (F1048 c v2.2.1 (IntKind.i64.wrap (slot - 1))).bind fun v3 =>
  (F3052 (Of.mk slot x.No (Bk.mk slot x.No v3 0) v2.2.1)).bind fun v4 =>
  (F3098 (Bk.mk slot x.No v3 0)).bind fun v5 =>
  (FCount v5 c slot v2.2.1 v2.2.2).bind fun v6 =>
  some (v6.2.1, v2.1, v6.2.2, [v4])
set_option maxRecDepth 100000 in
theorem cFFirst {x : Nd} {o : List Of} {c : Cf} {slot : Int} {tl : List Of} {c0 : Cf} {n0 : Nd} {in0 : Vw} {r_ : Vw × Vw × Bool × List Of} (hr : FFirst x c slot tl = some r_) : LC Tryz.prog 55 [.ptr 4 0] [.box [.p (.slice 1 (c0.W.map i64P)), .p (.int .u64 c0.Seed), .p (.int .i64 c0.Epoch), .p (.int .i64 c0.Num), .p (.int .i64 c0.Den)], .box [.p (.int .i64 n0.No), .p (.int .i64 n0.Tick), .p (.slice 5 (n0.V.B.map blkP)), .p (.slice 4 (n0.V.V.map vtP)), .p (.slice 5 (n0.In.B.map blkP)), .p (.slice 4 (n0.In.V.map vtP)), .p (.slice 9 (n0.O.map ofP)), .p (.int .u64 n0.C.ID.1), .p (.int .u64 n0.C.ID.2), .p (.int .i64 n0.C.Slot), .p (.int .i64 n0.C.Revoked), .p (.bool n0.Full)], .box [.p (.slice 5 (in0.B.map blkP)), .p (.slice 4 (in0.V.map vtP))], .box [.p (.int .i64 0), .p (.int .i64 0), .zs, .zs, .zs, .zs, .zs, .p (.int .u64 0), .p (.int .u64 0), .p (.int .i64 0), .p (.int .i64 0), .p (.bool false)], .box [.p (.int .i64 x.No), .p (.int .i64 x.Tick), .p (.slice 5 (x.V.B.map blkP)), .p (.slice 4 (x.V.V.map vtP)), .p (.slice 5 (x.In.B.map blkP)), .p (.slice 4 (x.In.V.map vtP)), .vec 9 5 (o.map ofP).length 0 (o.map ofP).length, .p (.int .u64 x.C.ID.1), .p (.int .u64 x.C.ID.2), .p (.int .i64 x.C.Slot), .p (.int .i64 x.C.Revoked), .p (.bool x.Full), .p (.slice 1 (c.W.map i64P)), .p (.int .u64 c.Seed), .p (.int .i64 c.Epoch), .p (.int .i64 c.Num), .p (.int .i64 c.Den), .p (.int .i64 slot), .p (.slice 9 (tl.map ofP))], .vec 9 (o.map ofP)] (Is (.tup []) [.box [.p (.slice 1 (c0.W.map i64P)), .p (.int .u64 c0.Seed), .p (.int .i64 c0.Epoch), .p (.int .i64 c0.Num), .p (.int .i64 c0.Den)], .box [.p (.int .i64 n0.No), .p (.int .i64 n0.Tick), .p (.slice 5 (n0.V.B.map blkP)), .p (.slice 4 (n0.V.V.map vtP)), .p (.slice 5 (n0.In.B.map blkP)), .p (.slice 4 (n0.In.V.map vtP)), .p (.slice 9 (n0.O.map ofP)), .p (.int .u64 n0.C.ID.1), .p (.int .u64 n0.C.ID.2), .p (.int .i64 n0.C.Slot), .p (.int .i64 n0.C.Revoked), .p (.bool n0.Full)], .box [.p (.slice 5 (in0.B.map blkP)), .p (.slice 4 (in0.V.map vtP))], .box [.p (.int .i64 0), .p (.int .i64 0), .zs, .zs, .zs, .zs, .zs, .p (.int .u64 0), .p (.int .u64 0), .p (.int .i64 0), .p (.int .i64 0), .p (.bool false)], .box [.p (.int .i64 x.No), .p (.int .i64 x.Tick), .p (.slice 5 (r_.1.B.map blkP)), .p (.slice 4 (r_.1.V.map vtP)), .p (.slice 5 (r_.2.1.B.map blkP)), .p (.slice 4 (r_.2.1.V.map vtP)), .vec 9 5 (o.map ofP).length 0 (o.map ofP).length, .p (.int .u64 x.C.ID.1), .p (.int .u64 x.C.ID.2), .p (.int .i64 x.C.Slot), .p (.int .i64 x.C.Revoked), .p (.bool r_.2.2.1), .p (.slice 1 (c.W.map i64P)), .p (.int .u64 c.Seed), .p (.int .i64 c.Epoch), .p (.int .i64 c.Num), .p (.int .i64 c.Den), .p (.int .i64 slot), .p (.slice 9 (r_.2.2.2.map ofP))], .vec 9 (o.map ofP)]) := by
 refine LC.start Tryz.func55 Z Z Z ?_
 unfold FFirst at hr
 refine zQ (zQ (LW.draw (by kernel_rfl) (by kernel_rfl) (zH Z (zE Z Z Z (LOp.nilCheck Z Z) (zE Z Z Z (zA Z Z ft3090_0) (zE Z Z Z (zA Z Z ft1071_0) (zE Z Z Z (zD Z Z Z vt3 Z Z) (zH Z (zE Z Z Z (LOp.nilCheck Z Z) (zE Z Z Z (zA Z Z ft3090_1) (zE Z Z Z (zD Z Z Z vt55 Z Z) (zH Z (zE Z Z Z (LOp.nilCheck Z Z) (zE Z Z Z (zA Z Z ft3090_2) (zE Z Z Z (zD Z Z Z vt3 Z Z) (zb hr fun v1 h_v1 hr => zE Z Z Z (zC Z Z Z (by kernel_rfl) (LC.pure (c63 h_v1) (.cons Conv.p (.cons Conv.p .nil)))) (zE Z Z Z (LOp.bin Z Z Z Z) (LO.nil (zT ?_)))))))))))))))))))
 refine zX Z (fun g1 => ?_) (fun g1 => ?_)
 ·
  refine zi g1 hr fun hr => LW.ret (thn_r ?_)
  obtain rfl := zJ hr
  refine fin_ret .none ?_
  exact ⟨rfl, rfl⟩
 ·
  refine zo g1 hr fun hr => LW.skip (zT (zQ (zR (zM Z (zM Z (zM Z (zS Z Z Z (LOp.nilCheck Z Z) (zS Z Z Z (zA Z Z ft3090_0) (zS Z Z Z (zA Z Z ft1071_3) (zS Z Z Z (zD Z Z Z vt75 Z Z) (zb hr fun v2 h_v2 hr => zS Z Z Z (zC Z Z Z (by kernel_rfl) (cFCount (x := Nd.mk x.No x.Tick x.V x.In [] x.C x.Full) (o := o) (tl := tl) h_v2)) (zS Z Z Z (LOp.nilCheck Z Z) (zS Z Z Z (zA Z Z ft3090_0) (zS Z Z Z (zA Z Z ft1071_3) (zS Z Z Z (LOp.store Z Z Z Z vt75 Z Z Z Z) (zN (zT (zQ (LW.ent (Ent.slot Z) (LW.drawW (by kernel_rfl) (by kernel_rfl) (zK Z ?_)))))))))))))))))))))
  refine zF (F := []) (s := none) Z Z Z (fun H _ => LOp.nilCheck Z Z) Z ?_
  refine zF (F := []) (s := none) Z Z Z (fun H _ => zA Z Z ft3090_2) Z ?_
  refine zF Z Z Z (LAt.load Z Z Z vt3 Z Z) Z (zK Z ?_)
  refine zF (F := []) (s := none) Z Z Z (fun H _ => LOp.nilCheck Z Z) Z ?_
  refine zF (F := []) (s := none) Z Z Z (fun H _ => zA Z Z ft3090_0) Z ?_
  refine zF (F := []) (s := none) Z Z Z (fun H _ => zA Z Z ft1071_0) Z ?_
  refine zF Z Z Z (LAt.load Z Z Z vt3 Z Z) Z (zK Z (zK Z ?_))
  refine zF (F := []) (s := none) Z Z Z (fun H _ => LOp.nilCheck Z Z) Z ?_
  refine zF (F := []) (s := none) Z Z Z (fun H _ => zA Z Z ft3090_2) Z ?_
  refine zF Z Z Z (LAt.load Z Z Z vt3 Z Z) Z ?_
  refine zF (F := []) (s := none) Z Z Z (fun H _ => LOp.bin Z Z Z Z) Z ?_
  obtain ⟨v3, h_v3, hr⟩ := zB hr
  refine zF Z Z Z (LAt.preH (s := none) (fun _ => zC Z Z Z (by kernel_rfl) (LC.pre (cFWhead (x := Nd.mk x.No x.Tick v2.2.1 v2.1 [] x.C v2.2.2) (o := o) (tl := tl) (whead_of h_v3)) Z Z Z)) Z Z Z Z) Z ?_
  refine zF (F := []) (s := none) Z Z Z (fun H _ => LOp.build Z bt42 Z Z Z) Z ?_
  refine zF Z Z Z (LAt.alloc Z zt42 (id := 6) Z) Z (zF Z Z Z (LAt.store Z Z Z Z vt42 Z Z Z) Z ?_)
  refine LF.nil ⟨by kernel_rfl, ?_⟩
  refine zT (zQ (LW.drawW (by kernel_rfl) (by kernel_rfl) (zK Z (zK Z ?_))))
  refine zF (F := []) (s := none) Z Z Z (fun H _ => LOp.nilCheck Z Z) Z ?_
  refine zF (F := []) (s := none) Z Z Z (fun H _ => zA Z Z ft3090_2) Z ?_
  refine zF Z Z Z (LAt.load Z Z Z vt3 Z Z) Z (zK Z ?_)
  refine zF (F := []) (s := none) Z Z Z (fun H _ => LOp.nilCheck Z Z) Z ?_
  refine zF (F := []) (s := none) Z Z Z (fun H _ => zA Z Z ft3090_0) Z ?_
  refine zF (F := []) (s := none) Z Z Z (fun H _ => zA Z Z ft1071_0) Z ?_
  refine zF Z Z Z (LAt.load Z Z Z vt3 Z Z) Z (zF Z Z Z (LAt.load Z Z Z vt42 Z Z) Z (zK Z ?_))
  refine zF (F := []) (s := none) Z Z Z (fun H _ => LOp.nilCheck Z Z) Z ?_
  refine zF (F := []) (s := none) Z Z Z (fun H _ => zA Z Z ft3090_0) Z ?_
  refine zF (F := []) (s := none) Z Z Z (fun H _ => zA Z Z ft1071_2) Z ?_
  refine zF Z Z Z (LAt.load Z Z Z vt75 Z Z) Z ?_
  refine zF (F := []) (s := none) Z Z Z (fun H _ => LOp.build Z bt1077 Z Z Z) Z ?_
  obtain ⟨v4, h_v4, hr⟩ := zB hr
  refine zF (F := []) (s := none) Z Z Z (fun H _ => zC Z Z Z (by kernel_rfl) (LC.pure (c3052 h_v4) (.cons Conv.p .nil))) Z ?_
  refine zF (F := []) (s := none) Z Z Z (fun H _ => LOp.buildSlice Z st1036 Z Z Z Z Z) Z ?_
  refine zF (F := []) (s := none) Z Z Z (fun H _ => LOp.nilCheck Z Z) Z ?_
  refine zF (F := []) (s := none) Z Z Z (fun H _ => zA Z Z ft3090_3) Z ?_
  refine zF Z Z Z (LAt.store Z Z Z Z vt1036 Z Z Z) Z ?_
  refine LF.nil ⟨by kernel_rfl, ?_⟩
  refine zT (zR (zM Z (zS Z Z Z (zD Z Z Z vt42 Z Z) (zb hr fun v5 h_v5 hr => zS Z Z Z (zC Z Z Z (by kernel_rfl) (LC.pure (c3098 h_v5) (.cons Conv.p .nil))) (zb hr fun v6 h_v6 hr => zS Z Z Z (zC Z Z Z (by kernel_rfl) (LC.pre (cFCount (x := Nd.mk x.No x.Tick v2.2.1 v2.1 [] x.C v2.2.2) (o := o) (tl := [v4]) h_v6) Z Z Z)) (zN ?_))))))
  obtain rfl := zJ hr
  refine fin_endW (env' := []) (H' := [.box [.p (.slice 1 (c0.W.map i64P)), .p (.int .u64 c0.Seed), .p (.int .i64 c0.Epoch), .p (.int .i64 c0.Num), .p (.int .i64 c0.Den)], .box [.p (.int .i64 n0.No), .p (.int .i64 n0.Tick), .p (.slice 5 (n0.V.B.map blkP)), .p (.slice 4 (n0.V.V.map vtP)), .p (.slice 5 (n0.In.B.map blkP)), .p (.slice 4 (n0.In.V.map vtP)), .p (.slice 9 (n0.O.map ofP)), .p (.int .u64 n0.C.ID.1), .p (.int .u64 n0.C.ID.2), .p (.int .i64 n0.C.Slot), .p (.int .i64 n0.C.Revoked), .p (.bool n0.Full)], .box [.p (.slice 5 (in0.B.map blkP)), .p (.slice 4 (in0.V.map vtP))], .box [.p (.int .i64 0), .p (.int .i64 0), .zs, .zs, .zs, .zs, .zs, .p (.int .u64 0), .p (.int .u64 0), .p (.int .i64 0), .p (.int .i64 0), .p (.bool false)], .box [.p (.int .i64 x.No), .p (.int .i64 x.Tick), .p (.slice 5 (v6.2.1.B.map blkP)), .p (.slice 4 (v6.2.1.V.map vtP)), .p (.slice 5 (v2.1.B.map blkP)), .p (.slice 4 (v2.1.V.map vtP)), .vec 9 5 (o.map ofP).length 0 (o.map ofP).length, .p (.int .u64 x.C.ID.1), .p (.int .u64 x.C.ID.2), .p (.int .i64 x.C.Slot), .p (.int .i64 x.C.Revoked), .p (.bool v6.2.2), .p (.slice 1 (c.W.map i64P)), .p (.int .u64 c.Seed), .p (.int .i64 c.Epoch), .p (.int .i64 c.Num), .p (.int .i64 c.Den), .p (.int .i64 slot), .p (.slice 9 ([v4].map ofP))], .vec 9 (o.map ofP)]) (zW 6 trivial Z Z Z Z) .none ?_
  exact ⟨rfl, rfl⟩
structure FSecond_L1 where
 t11 : Int
 w_2 : List Bk
 w_3 : List Vt
 w_4 : List Bk
 w_5 : List Vt
 w_11 : Bool
def FSecond_s1 (o : List Of) (c : Cf) (slot : Int) (x1 : FSecond_L1) : Option (FSecond_L1 ⊕ FSecond_L1) :=
 bif decide (x1.t11 < (o.length : Int)) then
  (ix o x1.t11).bind fun y1 =>
  (F3098 y1.B).bind fun v2 =>
  (F91 y1.V v2).bind fun v3 =>
  (FCount v3 c slot (Vw.mk x1.w_2 x1.w_3) x1.w_11).bind fun v4 =>
  (F91 (Vw.mk x1.w_4 x1.w_5) v4.1).bind fun v5 =>
  some (.inl (FSecond_L1.mk (IntKind.i64.wrap (x1.t11 + 1)) v4.2.1.B v4.2.1.V v5.B v5.V v4.2.2))
 else
  some (.inr (FSecond_L1.mk x1.t11 x1.w_2 x1.w_3 x1.w_4 x1.w_5 x1.w_11))
def FSecond (x : Nd) (o : List Of) (c : Cf) (slot : Int) : Option (Vw × Vw × Bool) :=
 (iter (FSecond_s1 o c slot) big (FSecond_L1.mk 0 x.V.B x.V.V x.In.B x.In.V x.Full)).bind fun v1 =>
 (F74 c slot x.No).bind fun v6 =>
 bif v6 then
  (F1048 c (Vw.mk v1.w_2 v1.w_3) (IntKind.i64.wrap (slot - 1))).bind fun v7 =>
  (F91 (Vw.mk v1.w_4 v1.w_5) (Vw.mk [] [Vt.mk x.No slot v7])).bind fun v8 =>
  some (Vw.mk v1.w_2 v1.w_3, v8, v1.w_11)
 else
  some (Vw.mk v1.w_2 v1.w_3, Vw.mk v1.w_4 v1.w_5, v1.w_11)
set_option maxRecDepth 100000 in
theorem cFSecond {x : Nd} {o : List Of} {c : Cf} {slot : Int} {tl : List Of} {c0 : Cf} {n0 : Nd} {in0 : Vw} {r_ : Vw × Vw × Bool} (hr : FSecond x o c slot = some r_) : LC Tryz.prog 56 [.ptr 4 0] [.box [.p (.slice 1 (c0.W.map i64P)), .p (.int .u64 c0.Seed), .p (.int .i64 c0.Epoch), .p (.int .i64 c0.Num), .p (.int .i64 c0.Den)], .box [.p (.int .i64 n0.No), .p (.int .i64 n0.Tick), .p (.slice 5 (n0.V.B.map blkP)), .p (.slice 4 (n0.V.V.map vtP)), .p (.slice 5 (n0.In.B.map blkP)), .p (.slice 4 (n0.In.V.map vtP)), .p (.slice 9 (n0.O.map ofP)), .p (.int .u64 n0.C.ID.1), .p (.int .u64 n0.C.ID.2), .p (.int .i64 n0.C.Slot), .p (.int .i64 n0.C.Revoked), .p (.bool n0.Full)], .box [.p (.slice 5 (in0.B.map blkP)), .p (.slice 4 (in0.V.map vtP))], .box [.p (.int .i64 0), .p (.int .i64 0), .zs, .zs, .zs, .zs, .zs, .p (.int .u64 0), .p (.int .u64 0), .p (.int .i64 0), .p (.int .i64 0), .p (.bool false)], .box [.p (.int .i64 x.No), .p (.int .i64 x.Tick), .p (.slice 5 (x.V.B.map blkP)), .p (.slice 4 (x.V.V.map vtP)), .p (.slice 5 (x.In.B.map blkP)), .p (.slice 4 (x.In.V.map vtP)), .vec 9 5 (o.map ofP).length 0 (o.map ofP).length, .p (.int .u64 x.C.ID.1), .p (.int .u64 x.C.ID.2), .p (.int .i64 x.C.Slot), .p (.int .i64 x.C.Revoked), .p (.bool x.Full), .p (.slice 1 (c.W.map i64P)), .p (.int .u64 c.Seed), .p (.int .i64 c.Epoch), .p (.int .i64 c.Num), .p (.int .i64 c.Den), .p (.int .i64 slot), .p (.slice 9 (tl.map ofP))], .vec 9 (o.map ofP)] (Is (.tup []) [.box [.p (.slice 1 (c0.W.map i64P)), .p (.int .u64 c0.Seed), .p (.int .i64 c0.Epoch), .p (.int .i64 c0.Num), .p (.int .i64 c0.Den)], .box [.p (.int .i64 n0.No), .p (.int .i64 n0.Tick), .p (.slice 5 (n0.V.B.map blkP)), .p (.slice 4 (n0.V.V.map vtP)), .p (.slice 5 (n0.In.B.map blkP)), .p (.slice 4 (n0.In.V.map vtP)), .p (.slice 9 (n0.O.map ofP)), .p (.int .u64 n0.C.ID.1), .p (.int .u64 n0.C.ID.2), .p (.int .i64 n0.C.Slot), .p (.int .i64 n0.C.Revoked), .p (.bool n0.Full)], .box [.p (.slice 5 (in0.B.map blkP)), .p (.slice 4 (in0.V.map vtP))], .box [.p (.int .i64 0), .p (.int .i64 0), .zs, .zs, .zs, .zs, .zs, .p (.int .u64 0), .p (.int .u64 0), .p (.int .i64 0), .p (.int .i64 0), .p (.bool false)], .box [.p (.int .i64 x.No), .p (.int .i64 x.Tick), .p (.slice 5 (r_.1.B.map blkP)), .p (.slice 4 (r_.1.V.map vtP)), .p (.slice 5 (r_.2.1.B.map blkP)), .p (.slice 4 (r_.2.1.V.map vtP)), .p (.slice 9 (([] : List Of).map ofP)), .p (.int .u64 x.C.ID.1), .p (.int .u64 x.C.ID.2), .p (.int .i64 x.C.Slot), .p (.int .i64 x.C.Revoked), .p (.bool r_.2.2), .p (.slice 1 (c.W.map i64P)), .p (.int .u64 c.Seed), .p (.int .i64 c.Epoch), .p (.int .i64 c.Num), .p (.int .i64 c.Den), .p (.int .i64 slot), .p (.slice 9 (tl.map ofP))], .vec 9 (o.map ofP)]) := by
 refine LC.start Tryz.func56 Z Z Z ?_
 unfold FSecond at hr
 refine zQ (zQ (zR (zM Z (zS Z Z Z (LOp.nilCheck Z Z) (zS Z Z Z (zA Z Z ft3090_0) (zS Z Z Z (zA Z Z ft1071_4) (zS Z Z Z (zD Z Z Z vt1036 Z Z) (zS Z Z Z (LOp.lenVM Z Z Z (by kernel_rfl)) (zM Z (zN (zT ?_)))))))))))
 obtain ⟨v1, hb_v1, ho_v1⟩ := zB hr
 clear hr
 refine LW.tail (E := [(0, .ptr 4 0)]) (O := [.box [.p (.slice 1 (c0.W.map i64P)), .p (.int .u64 c0.Seed), .p (.int .i64 c0.Epoch), .p (.int .i64 c0.Num), .p (.int .i64 c0.Den)], .box [.p (.int .i64 n0.No), .p (.int .i64 n0.Tick), .p (.slice 5 (n0.V.B.map blkP)), .p (.slice 4 (n0.V.V.map vtP)), .p (.slice 5 (n0.In.B.map blkP)), .p (.slice 4 (n0.In.V.map vtP)), .p (.slice 9 (n0.O.map ofP)), .p (.int .u64 n0.C.ID.1), .p (.int .u64 n0.C.ID.2), .p (.int .i64 n0.C.Slot), .p (.int .i64 n0.C.Revoked), .p (.bool n0.Full)], .box [.p (.slice 5 (in0.B.map blkP)), .p (.slice 4 (in0.V.map vtP))], .box [.p (.int .i64 0), .p (.int .i64 0), .zs, .zs, .zs, .zs, .zs, .p (.int .u64 0), .p (.int .u64 0), .p (.int .i64 0), .p (.int .i64 0), .p (.bool false)], .box [.p (.int .i64 x.No), .p (.int .i64 x.Tick), .p (.slice 5 (v1.w_2.map blkP)), .p (.slice 4 (v1.w_3.map vtP)), .p (.slice 5 (v1.w_4.map blkP)), .p (.slice 4 (v1.w_5.map vtP)), .vec 9 5 (o.map ofP).length 0 (o.map ofP).length, .p (.int .u64 x.C.ID.1), .p (.int .u64 x.C.ID.2), .p (.int .i64 x.C.Slot), .p (.int .i64 x.C.Revoked), .p (.bool v1.w_11), .p (.slice 1 (c.W.map i64P)), .p (.int .u64 c.Seed), .p (.int .i64 c.Epoch), .p (.int .i64 c.Num), .p (.int .i64 c.Den), .p (.int .i64 slot), .p (.slice 9 (tl.map ofP))], .vec 9 (o.map ofP)]) ?_ (fun env_v1 H_v1 hw_v1 => ?_)
 ·refine LW.block ?_
  refine LW.iterB (E := fun x1 : FSecond_L1 => [(0, .ptr 4 0), (9, .vec 9 5 (o.map ofP).length 0 (o.map ofP).length), (10, .p (.int .i64 (o.length : Int))), (11, .p (.int .i64 x1.t11))]) (O := fun x1 => [.box [.p (.slice 1 (c0.W.map i64P)), .p (.int .u64 c0.Seed), .p (.int .i64 c0.Epoch), .p (.int .i64 c0.Num), .p (.int .i64 c0.Den)], .box [.p (.int .i64 n0.No), .p (.int .i64 n0.Tick), .p (.slice 5 (n0.V.B.map blkP)), .p (.slice 4 (n0.V.V.map vtP)), .p (.slice 5 (n0.In.B.map blkP)), .p (.slice 4 (n0.In.V.map vtP)), .p (.slice 9 (n0.O.map ofP)), .p (.int .u64 n0.C.ID.1), .p (.int .u64 n0.C.ID.2), .p (.int .i64 n0.C.Slot), .p (.int .i64 n0.C.Revoked), .p (.bool n0.Full)], .box [.p (.slice 5 (in0.B.map blkP)), .p (.slice 4 (in0.V.map vtP))], .box [.p (.int .i64 0), .p (.int .i64 0), .zs, .zs, .zs, .zs, .zs, .p (.int .u64 0), .p (.int .u64 0), .p (.int .i64 0), .p (.int .i64 0), .p (.bool false)], .box [.p (.int .i64 x.No), .p (.int .i64 x.Tick), .p (.slice 5 (x1.w_2.map blkP)), .p (.slice 4 (x1.w_3.map vtP)), .p (.slice 5 (x1.w_4.map blkP)), .p (.slice 4 (x1.w_5.map vtP)), .vec 9 5 (o.map ofP).length 0 (o.map ofP).length, .p (.int .u64 x.C.ID.1), .p (.int .u64 x.C.ID.2), .p (.int .i64 x.C.Slot), .p (.int .i64 x.C.Revoked), .p (.bool x1.w_11), .p (.slice 1 (c.W.map i64P)), .p (.int .u64 c.Seed), .p (.int .i64 c.Epoch), .p (.int .i64 c.Num), .p (.int .i64 c.Den), .p (.int .i64 slot), .p (.slice 9 (tl.map ofP))], .vec 9 (o.map ofP)]) hb_v1 (zW 6 ⟨rfl, rfl, rfl, rfl, trivial⟩ Z Z Z Z) (fun x1 z_x1 hr hb_x1 => ?_)
  unfold FSecond_s1 at hr
  refine zQ (zR (zS Z Z Z (LOp.bin Z Z Z Z) (zN (zT (zQ ?_)))))
  refine zX Z (fun g1 => ?_) (fun g1 => ?_)
  ·
   refine zi g1 hr fun hr => LW.skip (zT (zQ (LW.block (zQ (zR (zb hr fun y1 h_y1 hr => zS Z Z Z (LOp.indexAddrVX Z Z Z Z st1036 h_y1) (zS Z Z Z (LOp.loadVX Z Z Z vt1077 h_y1 Z Z Z Z) (zS Z Z Z (LOp.alloc Z zt1077 Z Z) (zS Z Z Z (LOp.store Z Z Z Z vt1077 Z Z Z Z) (zN (zT ?_)))))))))))
   refine LW.drawWJ (z := 4) (e := 18) (J := (fun o_ => ∃ a_ b_ c_ : LV, o_ = .box [.p (.int .i64 x.No), .p (.int .i64 x.Tick), a_, b_, .p (.slice 5 (x1.w_4.map blkP)), .p (.slice 4 (x1.w_5.map vtP)), .vec 9 5 (o.map ofP).length 0 (o.map ofP).length, .p (.int .u64 x.C.ID.1), .p (.int .u64 x.C.ID.2), .p (.int .i64 x.C.Slot), .p (.int .i64 x.C.Revoked), c_, .p (.slice 1 (c.W.map i64P)), .p (.int .u64 c.Seed), .p (.int .i64 c.Epoch), .p (.int .i64 c.Num), .p (.int .i64 c.Den), .p (.int .i64 slot), .p (.slice 9 (tl.map ofP))])) (by kernel_rfl) (by kernel_rfl) (fun o_ h_ => ⟨_, _, _, (zJ h_).symm⟩) ?_
   refine LFJ.mv Z (LFJ.mv Z ?_)
   refine LFJ.st (F := []) (s := none) Z Z Z (fun H _ => LOp.nilCheck Z Z) (fun _ => trivial) Z ?_
   refine LFJ.st (F := []) (s := none) Z Z Z (fun H _ => zA Z Z ft3090_0) (fun _ => trivial) Z ?_
   refine LFJ.st (F := []) (s := none) Z Z Z (fun H _ => zA Z Z ft1071_3) (fun _ => trivial) Z ?_
   refine LFJ.look Z Z Z (by kernel_rfl) Z (fun H_ y_ hy_ hj_ => by obtain ⟨a_, b_, c_, rfl⟩ := hj_; exact zD Z Z hy_ vt75 Z Z) ?_
   refine LFJ.mv Z ?_
   refine LFJ.st (F := []) (s := none) Z Z Z (fun H _ => zA Z Z ft1077_3) (fun _ => trivial) Z ?_
   refine LFJ.st Z Z Z (LAt.load Z Z Z vt75 Z Z) (fun _ => trivial) Z ?_
   refine LFJ.st (F := []) (s := none) Z Z Z (fun H _ => zA Z Z ft1077_2) (fun _ => trivial) Z ?_
   refine LFJ.st Z Z Z (LAt.load Z Z Z vt42 Z Z) (fun _ => trivial) Z ?_
   obtain ⟨v2, h_v2, hr⟩ := zB hr
   refine LFJ.st (F := []) (s := none) Z Z Z (fun H _ => zC Z Z Z (by kernel_rfl) (LC.pure (c3098 h_v2) (.cons Conv.p .nil))) (fun _ => trivial) Z ?_
   obtain ⟨v3, h_v3, hr⟩ := zB hr
   refine LFJ.st (F := []) (s := none) Z Z Z (fun H _ => zC Z Z Z (by kernel_rfl) (LC.pure (c91 h_v3) (.cons Conv.p (.cons Conv.p .nil)))) (fun _ => trivial) Z ?_
   obtain ⟨v4, h_v4, hr⟩ := zB hr
   refine LFJ.st Z Z Z (LAt.preH (s := some (4, .box [.p (.int .i64 x.No), .p (.int .i64 x.Tick), .p (.slice 5 (v4.2.1.B.map blkP)), .p (.slice 4 (v4.2.1.V.map vtP)), .p (.slice 5 (x1.w_4.map blkP)), .p (.slice 4 (x1.w_5.map vtP)), .vec 9 5 (o.map ofP).length 0 (o.map ofP).length, .p (.int .u64 x.C.ID.1), .p (.int .u64 x.C.ID.2), .p (.int .i64 x.C.Slot), .p (.int .i64 x.C.Revoked), .p (.bool v4.2.2), .p (.slice 1 (c.W.map i64P)), .p (.int .u64 c.Seed), .p (.int .i64 c.Epoch), .p (.int .i64 c.Num), .p (.int .i64 c.Den), .p (.int .i64 slot), .p (.slice 9 (tl.map ofP))])) (fun _ => zC Z Z Z (by kernel_rfl) (LC.pre (cFCount (x := Nd.mk x.No x.Tick (Vw.mk x1.w_2 x1.w_3) (Vw.mk x1.w_4 x1.w_5) [] x.C x1.w_11) (o := o) (tl := tl) h_v4) Z Z Z)) Z Z Z Z) (fun _ _ => ⟨_, _, _, rfl⟩) Z ?_
   obtain ⟨v5, h_v5, hr⟩ := zB hr
   refine LFJ.st (F := []) (s := none) Z Z Z (fun H _ => zC Z Z Z (by kernel_rfl) (LC.pure (c91 h_v5) (.cons Conv.p (.cons Conv.p .nil)))) (fun _ => trivial) Z ?_
   refine LFJ.st (F := []) (s := none) Z Z Z (fun H _ => LOp.nilCheck Z Z) (fun _ => trivial) Z ?_
   refine LFJ.st (F := []) (s := none) Z Z Z (fun H _ => zA Z Z ft3090_0) (fun _ => trivial) Z ?_
   refine LFJ.st (F := []) (s := none) Z Z Z (fun H _ => zA Z Z ft1071_3) (fun _ => trivial) Z ?_
   refine LFJ.st Z Z Z (LAt.store Z Z Z Z vt75 Z Z Z) (fun h => absurd h (by decide)) Z ?_
   refine LFJ.nil ⟨by kernel_rfl, ?_⟩
   refine inBlk_n (zT (zR (zS Z Z Z (LOp.bin Z Z Z Z) (zM Z (zN (zT ?_))))))
   obtain rfl := zJ hr
   exact ⟨_, rfl, zW 6 ⟨rfl, rfl, rfl, rfl, trivial⟩ Z Z Z rfl⟩
  ·
   refine zo g1 hr fun hr => LW.exit (thn_e (thn_e (inBlk_self (zT ?_))))
   obtain rfl := zJ hr
   have hr := congrArg some (hb_x1 _ rfl)
   obtain rfl := zJ hr
   exact zW 6 ⟨Z, trivial⟩ Z Z Z Z
 ·have hr := ho_v1
  clear hb_v1
  refine zT (LW.weak hw_v1 (zQ (zR (zM Z (zS Z Z Z (LOp.nilCheck Z Z) (zS Z Z Z (zA Z Z ft3090_0) (zS Z Z Z (zA Z Z ft1071_4) (zS Z Z Z (LOp.store Z Z Z Z vt1036 Z Z Z Z) (zN (zT (zQ (LW.ent (Ent.zsCell (i := 4) (j := 6) (m := 9) Z Z Z Z) (LW.draw (by kernel_rfl) (by kernel_rfl) (zH Z (zE Z Z Z (LOp.nilCheck Z Z) (zE Z Z Z (zA Z Z ft3090_1) (zE Z Z Z (zD Z Z Z vt55 Z Z) (zH Z (zE Z Z Z (LOp.nilCheck Z Z) (zE Z Z Z (zA Z Z ft3090_2) (zE Z Z Z (zD Z Z Z vt3 Z Z) (zH Z (zE Z Z Z (LOp.nilCheck Z Z) ?_)))))))))))))))))))))))
  refine zE Z Z Z (zA Z Z ft3090_0) (zE Z Z Z (zA Z Z ft1071_0) (zE Z Z Z (zD Z Z Z vt3 Z Z) (zb hr fun v6 h_v6 hr => zE Z Z Z (zC Z Z Z (by kernel_rfl) (LC.pure (c74 h_v6) (.cons Conv.p (.cons Conv.p (.cons Conv.p .nil))))) (LO.nil (zT ?_)))))
  refine zX Z (fun g2 => ?_) (fun g2 => ?_)
  ·
   refine zi g2 hr fun hr => zQ (LW.ent (Ent.slot Z) (LW.drawW (by kernel_rfl) (by kernel_rfl) (zK Z ?_)))
   refine zF (F := []) (s := none) Z Z Z (fun H _ => LOp.nilCheck Z Z) Z ?_
   refine zF (F := []) (s := none) Z Z Z (fun H _ => zA Z Z ft3090_0) Z ?_
   refine zF (F := []) (s := none) Z Z Z (fun H _ => zA Z Z ft1071_0) Z ?_
   refine zF Z Z Z (LAt.load Z Z Z vt3 Z Z) Z (zK Z ?_)
   refine zF (F := []) (s := none) Z Z Z (fun H _ => LOp.nilCheck Z Z) Z ?_
   refine zF (F := []) (s := none) Z Z Z (fun H _ => zA Z Z ft3090_2) Z ?_
   refine zF Z Z Z (LAt.load Z Z Z vt3 Z Z) Z (zK Z (zK Z ?_))
   refine zF (F := []) (s := none) Z Z Z (fun H _ => LOp.nilCheck Z Z) Z ?_
   refine zF (F := []) (s := none) Z Z Z (fun H _ => zA Z Z ft3090_2) Z ?_
   refine zF Z Z Z (LAt.load Z Z Z vt3 Z Z) Z ?_
   refine zF (F := []) (s := none) Z Z Z (fun H _ => LOp.bin Z Z Z Z) Z ?_
   obtain ⟨v7, h_v7, hr⟩ := zB hr
   refine zF Z Z Z (LAt.preH (s := none) (fun _ => zC Z Z Z (by kernel_rfl) (LC.pre (cFWheadN (x := Nd.mk x.No x.Tick (Vw.mk v1.w_2 v1.w_3) (Vw.mk v1.w_4 v1.w_5) [] x.C v1.w_11) (o := o) (tl := tl) (wheadN_of h_v7)) Z Z Z)) Z Z Z Z) Z ?_
   refine zF (F := []) (s := none) Z Z Z (fun H _ => LOp.build Z bt82 Z Z Z) Z ?_
   refine zF Z Z Z (LAt.alloc Z zt82 (id := 6) Z) Z (zF Z Z Z (LAt.store Z Z Z Z vt82 Z Z Z) Z ?_)
   refine LF.nil ⟨by kernel_rfl, ?_⟩
   refine zT (LW.drawW (by kernel_rfl) (by kernel_rfl) (zK Z (zK Z ?_)))
   refine zF (F := []) (s := none) Z Z Z (fun H _ => LOp.nilCheck Z Z) Z ?_
   refine zF (F := []) (s := none) Z Z Z (fun H _ => zA Z Z ft3090_0) Z ?_
   refine zF (F := []) (s := none) Z Z Z (fun H _ => zA Z Z ft1071_3) Z ?_
   refine zF Z Z Z (LAt.load Z Z Z vt75 Z Z) Z (zF Z Z Z (LAt.load Z Z Z vt82 Z Z) Z ?_)
   refine zF (F := []) (s := none) Z Z Z (fun H _ => LOp.buildSlice Z st68 Z Z Z Z Z) Z ?_
   refine zF (F := []) (s := none) Z Z Z (fun H _ => LOp.build Z bt75 Z Z Z) Z ?_
   obtain ⟨v8, h_v8, hr⟩ := zB hr
   refine zF (F := []) (s := none) Z Z Z (fun H _ => zC Z Z Z (by kernel_rfl) (LC.pure (c91 h_v8) (.cons Conv.p (.cons (Conv.agg (.cons Conv.zs (.cons Conv.p .nil))) .nil)))) Z ?_
   refine zF (F := []) (s := none) Z Z Z (fun H _ => LOp.nilCheck Z Z) Z ?_
   refine zF (F := []) (s := none) Z Z Z (fun H _ => zA Z Z ft3090_0) Z ?_
   refine zF (F := []) (s := none) Z Z Z (fun H _ => zA Z Z ft1071_3) Z ?_
   refine zF Z Z Z (LAt.store Z Z Z Z vt75 Z Z Z) Z ?_
   refine LF.nil ⟨by kernel_rfl, ?_⟩
   obtain rfl := zJ hr
   refine fin_endW (env' := []) (H' := [.box [.p (.slice 1 (c0.W.map i64P)), .p (.int .u64 c0.Seed), .p (.int .i64 c0.Epoch), .p (.int .i64 c0.Num), .p (.int .i64 c0.Den)], .box [.p (.int .i64 n0.No), .p (.int .i64 n0.Tick), .p (.slice 5 (n0.V.B.map blkP)), .p (.slice 4 (n0.V.V.map vtP)), .p (.slice 5 (n0.In.B.map blkP)), .p (.slice 4 (n0.In.V.map vtP)), .p (.slice 9 (n0.O.map ofP)), .p (.int .u64 n0.C.ID.1), .p (.int .u64 n0.C.ID.2), .p (.int .i64 n0.C.Slot), .p (.int .i64 n0.C.Revoked), .p (.bool n0.Full)], .box [.p (.slice 5 (in0.B.map blkP)), .p (.slice 4 (in0.V.map vtP))], .box [.p (.int .i64 0), .p (.int .i64 0), .zs, .zs, .zs, .zs, .zs, .p (.int .u64 0), .p (.int .u64 0), .p (.int .i64 0), .p (.int .i64 0), .p (.bool false)], .box [.p (.int .i64 x.No), .p (.int .i64 x.Tick), .p (.slice 5 (v1.w_2.map blkP)), .p (.slice 4 (v1.w_3.map vtP)), .p (.slice 5 (v8.B.map blkP)), .p (.slice 4 (v8.V.map vtP)), .p (.slice 9 (([] : List Of).map ofP)), .p (.int .u64 x.C.ID.1), .p (.int .u64 x.C.ID.2), .p (.int .i64 x.C.Slot), .p (.int .i64 x.C.Revoked), .p (.bool v1.w_11), .p (.slice 1 (c.W.map i64P)), .p (.int .u64 c.Seed), .p (.int .i64 c.Epoch), .p (.int .i64 c.Num), .p (.int .i64 c.Den), .p (.int .i64 slot), .p (.slice 9 (tl.map ofP))], .vec 9 (o.map ofP)]) (zW 6 trivial Z Z Z Z) .none ?_
   exact ⟨rfl, rfl⟩
  ·
   refine zo g2 hr fun hr => LW.skip ?_
   obtain rfl := zJ hr
   refine fin_end .none ?_
   exact ⟨rfl, rfl⟩
def FThird (x : Nd) (c : Cf) (slot : Int) : Option (Vw × Vw × Cu × Bool) :=
 (FCount x.In c slot x.V x.Full).bind fun v1 =>
 (F1048 c v1.2.1 slot).bind fun v2 =>
 (F3099 c v1.2.1 slot v2).bind fun v3 =>
 bif few v1.2.1.B then
  some (v1.2.1, v1.1, moveOf x.C v1.2.1.B v2 v3.1 v3.2 slot, v1.2.2)
 else none
set_option maxRecDepth 100000 in
theorem cFThird {x : Nd} {o : List Of} {c : Cf} {slot : Int} {tl : List Of} {c0 : Cf} {n0 : Nd} {in0 : Vw} {r_ : Vw × Vw × Cu × Bool} (hr : FThird x c slot = some r_) : LC Tryz.prog 57 [.ptr 4 0] [.box [.p (.slice 1 (c0.W.map i64P)), .p (.int .u64 c0.Seed), .p (.int .i64 c0.Epoch), .p (.int .i64 c0.Num), .p (.int .i64 c0.Den)], .box [.p (.int .i64 n0.No), .p (.int .i64 n0.Tick), .p (.slice 5 (n0.V.B.map blkP)), .p (.slice 4 (n0.V.V.map vtP)), .p (.slice 5 (n0.In.B.map blkP)), .p (.slice 4 (n0.In.V.map vtP)), .p (.slice 9 (n0.O.map ofP)), .p (.int .u64 n0.C.ID.1), .p (.int .u64 n0.C.ID.2), .p (.int .i64 n0.C.Slot), .p (.int .i64 n0.C.Revoked), .p (.bool n0.Full)], .box [.p (.slice 5 (in0.B.map blkP)), .p (.slice 4 (in0.V.map vtP))], .box [.p (.int .i64 0), .p (.int .i64 0), .zs, .zs, .zs, .zs, .zs, .p (.int .u64 0), .p (.int .u64 0), .p (.int .i64 0), .p (.int .i64 0), .p (.bool false)], .box [.p (.int .i64 x.No), .p (.int .i64 x.Tick), .p (.slice 5 (x.V.B.map blkP)), .p (.slice 4 (x.V.V.map vtP)), .p (.slice 5 (x.In.B.map blkP)), .p (.slice 4 (x.In.V.map vtP)), .vec 9 5 (o.map ofP).length 0 (o.map ofP).length, .p (.int .u64 x.C.ID.1), .p (.int .u64 x.C.ID.2), .p (.int .i64 x.C.Slot), .p (.int .i64 x.C.Revoked), .p (.bool x.Full), .p (.slice 1 (c.W.map i64P)), .p (.int .u64 c.Seed), .p (.int .i64 c.Epoch), .p (.int .i64 c.Num), .p (.int .i64 c.Den), .p (.int .i64 slot), .p (.slice 9 (tl.map ofP))], .vec 9 (o.map ofP)] (Is (.tup []) [.box [.p (.slice 1 (c0.W.map i64P)), .p (.int .u64 c0.Seed), .p (.int .i64 c0.Epoch), .p (.int .i64 c0.Num), .p (.int .i64 c0.Den)], .box [.p (.int .i64 n0.No), .p (.int .i64 n0.Tick), .p (.slice 5 (n0.V.B.map blkP)), .p (.slice 4 (n0.V.V.map vtP)), .p (.slice 5 (n0.In.B.map blkP)), .p (.slice 4 (n0.In.V.map vtP)), .p (.slice 9 (n0.O.map ofP)), .p (.int .u64 n0.C.ID.1), .p (.int .u64 n0.C.ID.2), .p (.int .i64 n0.C.Slot), .p (.int .i64 n0.C.Revoked), .p (.bool n0.Full)], .box [.p (.slice 5 (in0.B.map blkP)), .p (.slice 4 (in0.V.map vtP))], .box [.p (.int .i64 0), .p (.int .i64 0), .zs, .zs, .zs, .zs, .zs, .p (.int .u64 0), .p (.int .u64 0), .p (.int .i64 0), .p (.int .i64 0), .p (.bool false)], .box [.p (.int .i64 x.No), .p (.int .i64 x.Tick), .p (.slice 5 (r_.1.B.map blkP)), .p (.slice 4 (r_.1.V.map vtP)), .p (.slice 5 (r_.2.1.B.map blkP)), .p (.slice 4 (r_.2.1.V.map vtP)), .p (.slice 9 (([] : List Of).map ofP)), .p (.int .u64 r_.2.2.1.ID.1), .p (.int .u64 r_.2.2.1.ID.2), .p (.int .i64 r_.2.2.1.Slot), .p (.int .i64 r_.2.2.1.Revoked), .p (.bool r_.2.2.2), .p (.slice 1 (c.W.map i64P)), .p (.int .u64 c.Seed), .p (.int .i64 c.Epoch), .p (.int .i64 c.Num), .p (.int .i64 c.Den), .p (.int .i64 slot), .p (.slice 9 (tl.map ofP))], .vec 9 (o.map ofP)]) := by
 refine LC.start Tryz.func57 Z Z Z ?_
 unfold FThird at hr
 refine zQ (zR (zM Z (zM Z (zM Z (zS Z Z Z (LOp.nilCheck Z Z) (zS Z Z Z (zA Z Z ft3090_0) (zS Z Z Z (zA Z Z ft1071_3) (zS Z Z Z (zD Z Z Z vt75 Z Z) (zb hr fun v1 h_v1 hr => zS Z Z Z (zC Z Z Z (by kernel_rfl) (cFCount (x := Nd.mk x.No x.Tick x.V x.In [] x.C x.Full) (o := o) (tl := tl) h_v1)) (zS Z Z Z (LOp.nilCheck Z Z) (zS Z Z Z (zA Z Z ft3090_0) (zS Z Z Z (zA Z Z ft1071_3) (zS Z Z Z (LOp.store Z Z Z Z vt75 Z Z Z Z) (zN (zT (zQ (zR (zM Z (zS Z Z Z (LOp.nilCheck Z Z) (zS Z Z Z (zA Z Z ft3090_0) (zS Z Z Z (zA Z Z ft1071_4) (zS Z Z Z (LOp.store Z Z Z Z vt1036 Z Z Z Z) ?_))))))))))))))))))))))
 refine zN (zT (zQ (LW.ent (Ent.zsCell (i := 4) (j := 6) (m := 9) Z Z Z Z) (zR (zM Z (zM Z (zS Z Z Z (LOp.nilCheck Z Z) (zS Z Z Z (zA Z Z ft3090_2) (zS Z Z Z (zD Z Z Z vt3 Z Z) (zb hr fun v2 h_v2 hr => zS Z Z Z (zC Z Z Z (by kernel_rfl) (cFWheadN (x := Nd.mk x.No x.Tick v1.2.1 v1.1 [] x.C v1.2.2) (o := o) (tl := tl) (wheadN_of h_v2))) (zS Z Z Z (LOp.alloc Z zt24 Z Z) (zS Z Z Z (LOp.store Z Z Z Z vt24 Z Z Z Z) (zN (zT (zQ (LW.ent (Ent.slot Z) (LW.drawW (by kernel_rfl) (by kernel_rfl) (zK Z ?_))))))))))))))))))
 refine zF (F := []) (s := none) Z Z Z (fun H _ => LOp.nilCheck Z Z) Z ?_
 refine zF (F := []) (s := none) Z Z Z (fun H _ => zA Z Z ft3090_1) Z ?_
 refine zF Z Z Z (LAt.load Z Z Z vt55 Z Z) Z (zK Z ?_)
 refine zF (F := []) (s := none) Z Z Z (fun H _ => LOp.nilCheck Z Z) Z ?_
 refine zF (F := []) (s := none) Z Z Z (fun H _ => zA Z Z ft3090_0) Z ?_
 refine zF (F := []) (s := none) Z Z Z (fun H _ => zA Z Z ft1071_2) Z ?_
 refine zF Z Z Z (LAt.load Z Z Z vt75 Z Z) Z (zK Z ?_)
 refine zF (F := []) (s := none) Z Z Z (fun H _ => LOp.nilCheck Z Z) Z ?_
 refine zF (F := []) (s := none) Z Z Z (fun H _ => zA Z Z ft3090_2) Z ?_
 refine zF Z Z Z (LAt.load Z Z Z vt3 Z Z) Z (zF Z Z Z (LAt.load Z Z Z vt24 Z Z) Z (zb hr fun v3 h_v3 hr => ?_))
 refine zF (F := []) (s := none) Z Z Z (fun H _ => zC Z Z Z (by kernel_rfl) (LC.pure (c3099 h_v3) (.cons Conv.p (.cons Conv.p (.cons Conv.p (.cons Conv.p .nil)))))) Z ?_
 refine zK Z ?_
 refine zF (F := []) (s := none) Z Z Z (fun H _ => LOp.extract Z Z Z) Z ?_
 refine zF (F := []) (s := none) Z Z Z (fun H _ => LOp.extract Z Z Z) Z ?_
 refine zF Z Z Z (LAt.alloc Z zt24 (id := 7) Z) Z (zF Z Z Z (LAt.store Z Z Z Z vt24 Z Z Z) Z (zK Z ?_))
 refine LF.nil ⟨by kernel_rfl, ?_⟩
 refine zT (LW.drawW (by kernel_rfl) (by kernel_rfl) (zK Z (zK Z ?_)))
 refine zF (F := []) (s := none) Z Z Z (fun H _ => LOp.nilCheck Z Z) Z ?_
 refine zF (F := []) (s := none) Z Z Z (fun H _ => zA Z Z ft3090_0) Z ?_
 refine zF (F := []) (s := none) Z Z Z (fun H _ => zA Z Z ft1071_5) Z ?_
 refine zF Z Z Z (LAt.load Z Z Z vt26 Z Z) Z (zK Z ?_)
 refine zF (F := []) (s := none) Z Z Z (fun H _ => LOp.nilCheck Z Z) Z ?_
 refine zF (F := []) (s := none) Z Z Z (fun H _ => zA Z Z ft3090_0) Z ?_
 refine zF (F := []) (s := none) Z Z Z (fun H _ => zA Z Z ft1071_2) Z ?_
 refine zF (F := []) (s := none) Z Z Z (fun H _ => zA Z Z ft75_0) Z ?_
 refine zF Z Z Z (LAt.load Z Z Z vt27 Z Z) Z (zF Z Z Z (LAt.load Z Z Z vt24 Z Z) Z (zF Z Z Z (LAt.load Z Z Z vt24 Z Z) Z (zK Z (zK Z ?_))))
 refine zF (F := []) (s := none) Z Z Z (fun H _ => LOp.nilCheck Z Z) Z ?_
 refine zF (F := []) (s := none) Z Z Z (fun H _ => zA Z Z ft3090_2) Z ?_
 refine zF Z Z Z (LAt.load Z Z Z vt3 Z Z) Z (zg hr fun q1 hr => ?_)
 refine zF (F := []) (s := none) Z Z Z (fun H _ => zC Z Z Z (by kernel_rfl) (LC.pure (c37 (c := x.C) (l := v1.2.1.B) (head := v2) (found := v3.1) (is := v3.2) (slot := slot) (few_le q1)) (.cons Conv.p (.cons Conv.p (.cons Conv.p (.cons Conv.p (.cons Conv.p (.cons Conv.p .nil)))))))) Z ?_
 refine zF (F := []) (s := none) Z Z Z (fun H _ => LOp.nilCheck Z Z) Z ?_
 refine zF (F := []) (s := none) Z Z Z (fun H _ => zA Z Z ft3090_0) Z ?_
 refine zF (F := []) (s := none) Z Z Z (fun H _ => zA Z Z ft1071_5) Z ?_
 refine zF Z Z Z (LAt.store Z Z Z Z vt26 Z Z Z) Z ?_
 refine LF.nil ⟨by kernel_rfl, ?_⟩
 obtain rfl := zJ hr
 refine fin_endW (env' := []) (H' := [.box [.p (.slice 1 (c0.W.map i64P)), .p (.int .u64 c0.Seed), .p (.int .i64 c0.Epoch), .p (.int .i64 c0.Num), .p (.int .i64 c0.Den)], .box [.p (.int .i64 n0.No), .p (.int .i64 n0.Tick), .p (.slice 5 (n0.V.B.map blkP)), .p (.slice 4 (n0.V.V.map vtP)), .p (.slice 5 (n0.In.B.map blkP)), .p (.slice 4 (n0.In.V.map vtP)), .p (.slice 9 (n0.O.map ofP)), .p (.int .u64 n0.C.ID.1), .p (.int .u64 n0.C.ID.2), .p (.int .i64 n0.C.Slot), .p (.int .i64 n0.C.Revoked), .p (.bool n0.Full)], .box [.p (.slice 5 (in0.B.map blkP)), .p (.slice 4 (in0.V.map vtP))], .box [.p (.int .i64 0), .p (.int .i64 0), .zs, .zs, .zs, .zs, .zs, .p (.int .u64 0), .p (.int .u64 0), .p (.int .i64 0), .p (.int .i64 0), .p (.bool false)], .box [.p (.int .i64 x.No), .p (.int .i64 x.Tick), .p (.slice 5 (v1.2.1.B.map blkP)), .p (.slice 4 (v1.2.1.V.map vtP)), .p (.slice 5 (v1.1.B.map blkP)), .p (.slice 4 (v1.1.V.map vtP)), .p (.slice 9 (([] : List Of).map ofP)), .p (.int .u64 (((moveOf x.C v1.2.1.B v2 v3.1 v3.2 slot).ID).1)), .p (.int .u64 (((moveOf x.C v1.2.1.B v2 v3.1 v3.2 slot).ID).2)), .p (.int .i64 ((moveOf x.C v1.2.1.B v2 v3.1 v3.2 slot).Slot)), .p (.int .i64 ((moveOf x.C v1.2.1.B v2 v3.1 v3.2 slot).Revoked)), .p (.bool v1.2.2), .p (.slice 1 (c.W.map i64P)), .p (.int .u64 c.Seed), .p (.int .i64 c.Epoch), .p (.int .i64 c.Num), .p (.int .i64 c.Den), .p (.int .i64 slot), .p (.slice 9 (tl.map ofP))], .vec 9 (o.map ofP)]) (zW 6 trivial Z Z Z Z) .none ?_
 exact ⟨rfl, rfl⟩
open Go.Proofs
theorem by_bool {b : Bool} {p : Prop} (h1 : b = true → p) (h2 : b = false → p) : p := by cases b <;> simp_all
theorem tick_is {a b : Int} (h : (a == b) = true) : LV.p (.int .i64 a) = .p (.int .i64 b) := by rw [eq_of_beq h]
structure F3018_L1 where
 t57 : Int
 o5 : List Of
def F3018_s1 (n : Nd) (x1 : F3018_L1) : Option (F3018_L1 ⊕ F3018_L1) :=
 bif decide (x1.t57 < (n.O.length : Int)) then
  (ix n.O x1.t57).bind fun y1 =>
  (F3052 y1).bind fun v6 =>
  bif room x1.o5.length [v6].length 104 then
   some (.inl (F3018_L1.mk (IntKind.i64.wrap (x1.t57 + 1)) (x1.o5 ++ [v6])))
  else none
 else
  some (.inr (F3018_L1.mk x1.t57 x1.o5))
def F3018 (c : Cf) (n : Nd) (v_in : Vw) (o : List Of) : Option (Nd × (List Of)) :=
 (
  (F64 c).bind fun v2 =>
  bif !v2 then
   some true
  else
   bif decide (n.Tick < 3) then
    some true
   else
    some (decide ((IntKind.i64.wrap (n.Tick.tdiv 3)) > 1048576))
 ).bind fun v1 =>
 bif v1 then
  (F3051 n.V).bind fun v3 =>
  (F3051 n.In).bind fun v4 =>
  (iter (F3018_s1 n) big (F3018_L1.mk 0 ([] : List Of))).bind fun v5 =>
  some (Nd.mk n.No n.Tick v3 v4 v5.o5 n.C n.Full, [])
 else
  (F85 c v_in).bind fun v7 =>
  (F91 n.In v7).bind fun v8 =>
  (FHear o (Nd.mk n.No n.Tick n.V v8 n.O n.C n.Full) c (IntKind.i64.wrap (n.Tick.tdiv 3))).bind fun v9 =>
  bif (n.Tick.tmod 3) == 0 then
   (FFirst (Nd.mk n.No n.Tick n.V v8 [] n.C v9.2) c (IntKind.i64.wrap (n.Tick.tdiv 3)) ([] : List Of)).bind fun v10 =>
   some (Nd.mk n.No (IntKind.i64.wrap (n.Tick + 1)) v10.1 v10.2.1 v9.1 n.C v10.2.2.1, v10.2.2.2)
  else
   bif (n.Tick.tmod 3) == 1 then
    (FSecond (Nd.mk n.No n.Tick n.V v8 [] n.C v9.2) v9.1 c (IntKind.i64.wrap (n.Tick.tdiv 3))).bind fun v11 =>
    some (Nd.mk n.No (IntKind.i64.wrap (n.Tick + 1)) v11.1 v11.2.1 [] n.C v11.2.2, [])
   else
    bif (n.Tick.tmod 3) == 2 then
     (FThird (Nd.mk n.No n.Tick n.V v8 [] n.C v9.2) c (IntKind.i64.wrap (n.Tick.tdiv 3))).bind fun v12 =>
     some (Nd.mk n.No (IntKind.i64.wrap (n.Tick + 1)) v12.1 v12.2.1 [] v12.2.2.1 v12.2.2.2, [])
    else none
set_option maxRecDepth 100000 in
theorem c3018 {c : Cf} {n : Nd} {v_in : Vw} {o : List Of} {r_ : Nd × (List Of)} (hr : F3018 c n v_in o = some r_) : LPure Tryz.prog 18 [cfP c, ndP n, vwP v_in, .slice 9 (o.map ofP)] [ndP r_.1, .slice 9 (r_.2.map ofP)] := by
 refine LPure.start Tryz.func18 Z Z Z Z ?_
 unfold F3018 at hr
 refine zQ (zR (zS Z Z Z (LOp.box Z Z Z Z Z) (zS Z Z Z (LOp.box Z Z Z Z Z) (zS Z Z Z (LOp.box Z Z Z Z Z) (zS Z Z Z (LOp.alloc Z zt1071 Z Z) (zM Z (zN (zT (zQ (zR (zS Z Z Z (zD Z Z Z vt1071 Z Z) (zS Z Z Z (zD Z Z Z vt55 Z Z) (zS Z Z Z (zA Z Z ft1071_1) (zS Z Z Z (zD Z Z Z vt3 Z Z) (zS Z Z Z (LOp.quo Z Z Z (by decide)) (zS Z Z Z (LOp.build Z bt3090 Z Z Z) (zS Z Z Z (LOp.box Z Z Z Z Z) (zM Z (zN (zT (zQ ?_)))))))))))))))))))))
 obtain ⟨v1, hb_v1, ho_v1⟩ := zB hr
 clear hr
 refine LW.cut (E := [(3, .p (.slice 9 (o.map ofP))), (4, .ptr 0 0), (5, .ptr 1 0), (6, .ptr 2 0), (8, .ptr 3 0), (9, .zs), (10, .ptr 4 0), (35, .p (.bool v1))]) (O := [.box [.p (.slice 1 (c.W.map i64P)), .p (.int .u64 c.Seed), .p (.int .i64 c.Epoch), .p (.int .i64 c.Num), .p (.int .i64 c.Den)], .box [.p (.int .i64 n.No), .p (.int .i64 n.Tick), .p (.slice 5 (n.V.B.map blkP)), .p (.slice 4 (n.V.V.map vtP)), .p (.slice 5 (n.In.B.map blkP)), .p (.slice 4 (n.In.V.map vtP)), .p (.slice 9 (n.O.map ofP)), .p (.int .u64 n.C.ID.1), .p (.int .u64 n.C.ID.2), .p (.int .i64 n.C.Slot), .p (.int .i64 n.C.Revoked), .p (.bool n.Full)], .box [.p (.slice 5 (v_in.B.map blkP)), .p (.slice 4 (v_in.V.map vtP))], .box [.p (.int .i64 0), .p (.int .i64 0), .zs, .zs, .zs, .zs, .zs, .p (.int .u64 0), .p (.int .u64 0), .p (.int .i64 0), .p (.int .i64 0), .p (.bool false)], .box [.p (.int .i64 n.No), .p (.int .i64 n.Tick), .p (.slice 5 (n.V.B.map blkP)), .p (.slice 4 (n.V.V.map vtP)), .p (.slice 5 (n.In.B.map blkP)), .p (.slice 4 (n.In.V.map vtP)), .p (.slice 9 (n.O.map ofP)), .p (.int .u64 n.C.ID.1), .p (.int .u64 n.C.ID.2), .p (.int .i64 n.C.Slot), .p (.int .i64 n.C.Revoked), .p (.bool n.Full), .p (.slice 1 (c.W.map i64P)), .p (.int .u64 c.Seed), .p (.int .i64 c.Epoch), .p (.int .i64 c.Num), .p (.int .i64 c.Den), .p (.int .i64 (IntKind.i64.wrap (n.Tick.tdiv 3))), .zs]]) ?_ ?_
 ·have hr := hb_v1
  refine zR (zS Z Z Z (zD Z Z Z vt55 Z Z) (zb hr fun v2 h_v2 hr => zS Z Z Z (zC Z Z Z (by kernel_rfl) (LC.pure (c64 h_v2) (.cons Conv.p .nil))) (zS Z Z Z (LOp.not Z Z) (zM Z ?_))))
  refine LOps.cases 24 Z (fun g1 => ?_) (fun g1 => ?_)
  ·
   refine zi g1 hr fun hr => zU Z Z Z (gd g1 Z) Z Z (zU Z Z Z (gd g1 Z) Z Z (zU Z Z Z (gd g1 Z) Z Z (zS Z Z Z (LOp.pickT Z (gdl g1 Z) Z) (zM Z (zU Z Z Z Z Z Z (zU Z Z Z Z Z Z (zU Z Z Z Z Z Z (zU Z Z Z Z Z Z (zU Z Z Z Z Z Z (zS Z Z Z (LOp.pickT Z Z Z) (zN (zT ?_))))))))))))
   obtain rfl := zJ hr
   exact zW 5 ⟨Z, Z, Z, Z, Z, Z, Z, Z, trivial⟩ Z Z Z Z
  ·
   refine zo g1 hr fun hr => zV Z Z Z (gd g1 Z) Z (zA Z Z ft1071_1) (zV Z Z Z (gd g1 Z) Z (zD Z Z Z vt3 Z Z) (zV Z Z Z (gd g1 Z) Z (LOp.bin Z Z Z Z) (zS Z Z Z (LOp.pickF Z (gdl g1 Z) Z) (zM Z ?_))))
   refine LOps.cases 29 Z (fun g2 => ?_) (fun g2 => ?_)
   ·
    refine zi g2 hr fun hr => zU Z Z Z (gd g2 Z) Z Z (zU Z Z Z (gd g2 Z) Z Z (zU Z Z Z (gd g2 Z) Z Z (zU Z Z Z (gd g2 Z) Z Z (zU Z Z Z (gd g2 Z) Z Z (zS Z Z Z (LOp.pickT Z (gdl g2 Z) Z) (zN (zT ?_)))))))
    obtain rfl := zJ hr
    exact zW 5 ⟨Z, Z, Z, Z, Z, Z, Z, Z, trivial⟩ Z Z Z Z
   ·
    refine zo g2 hr fun hr => zV Z Z Z (gd g2 Z) Z (LOp.move Z Z) (zV Z Z Z (gd g2 Z) Z (LOp.nilCheck Z Z) (zV Z Z Z (gd g2 Z) Z (zA Z Z ft3090_2) (zV Z Z Z (gd g2 Z) Z (zD Z Z Z vt3 Z Z) (zV Z Z Z (gd g2 Z) Z (LOp.bin Z Z Z Z) (zS Z Z Z (LOp.pickF Z (gdl g2 Z) Z) (zN (zT ?_)))))))
    obtain rfl := zJ hr
    exact zW 5 ⟨Z, Z, Z, Z, Z, Z, Z, Z, trivial⟩ Z Z Z Z
 ·have hr := ho_v1
  clear hb_v1
  refine zX Z (fun g3 => ?_) (fun g3 => ?_)
  ·
   refine zi g3 hr fun hr => zQ (LW.drawW (by kernel_rfl) (by kernel_rfl) (zK Z (zK Z ?_)))
   refine zF (F := []) (s := none) Z Z Z (fun H _ => zA Z Z ft1071_2) Z ?_
   refine zF Z Z Z (LAt.load Z Z Z vt75 Z Z) Z (zb hr fun v3 h_v3 hr => ?_)
   refine zF (F := []) (s := none) Z Z Z (fun H _ => zC Z Z Z (by kernel_rfl) (LC.pure (c3051 h_v3) (.cons Conv.p .nil))) Z ?_
   refine zF (F := []) (s := none) Z Z Z (fun H _ => zA Z Z ft1071_3) Z ?_
   refine zF Z Z Z (LAt.load Z Z Z vt75 Z Z) Z (zb hr fun v4 h_v4 hr => ?_)
   refine zF (F := []) (s := none) Z Z Z (fun H _ => zC Z Z Z (by kernel_rfl) (LC.pure (c3051 h_v4) (.cons Conv.p .nil))) Z ?_
   refine zF (F := []) (s := none) Z Z Z (fun H _ => LOp.nilCheck Z Z) Z ?_
   refine zF (F := []) (s := none) Z Z Z (fun H _ => zA Z Z ft3090_0) Z ?_
   refine zF (F := []) (s := none) Z Z Z (fun H _ => zA Z Z ft1071_2) Z ?_
   refine zF Z Z Z (LAt.store Z Z Z Z vt75 Z Z Z) Z ?_
   refine zF (F := []) (s := none) Z Z Z (fun H _ => LOp.nilCheck Z Z) Z ?_
   refine zF (F := []) (s := none) Z Z Z (fun H _ => zA Z Z ft3090_0) Z ?_
   refine zF (F := []) (s := none) Z Z Z (fun H _ => zA Z Z ft1071_3) Z ?_
   refine zF Z Z Z (LAt.store Z Z Z Z vt75 Z Z Z) Z ?_
   refine LF.nil ⟨by kernel_rfl, ?_⟩
   refine zT (zQ (zR (zM Z (zS Z Z Z (LOp.nilCheck Z Z) (zS Z Z Z (zA Z Z ft3090_0) (zS Z Z Z (zA Z Z ft1071_4) (zS Z Z Z (LOp.store Z Z Z Z vt1036 Z Z Z Z) (zN (zT (zQ (zQ (LW.ent (Ent.lazyCell (i := 4) (j := 6) (m := 9) Z Z Z Z Z Z) (zR (zS Z Z Z (zA Z Z ft1071_4) (zS Z Z Z (zD Z Z Z vt1036 Z Z) (zS Z Z Z (LOp.lenM Z Z (by kernel_rfl)) (zM Z (zN (zT ?_)))))))))))))))))))
   obtain ⟨v5, hb_v5, ho_v5⟩ := zB hr
   clear hr
   refine LW.tail (E := [(3, .p (.slice 9 (o.map ofP))), (4, .ptr 0 0), (5, .ptr 1 0), (6, .ptr 2 0), (8, .ptr 3 0), (9, .zs), (10, .ptr 4 0)]) (O := [.box [.p (.slice 1 (c.W.map i64P)), .p (.int .u64 c.Seed), .p (.int .i64 c.Epoch), .p (.int .i64 c.Num), .p (.int .i64 c.Den)], .box [.p (.int .i64 n.No), .p (.int .i64 n.Tick), .p (.slice 5 (n.V.B.map blkP)), .p (.slice 4 (n.V.V.map vtP)), .p (.slice 5 (n.In.B.map blkP)), .p (.slice 4 (n.In.V.map vtP)), .p (.slice 9 (n.O.map ofP)), .p (.int .u64 n.C.ID.1), .p (.int .u64 n.C.ID.2), .p (.int .i64 n.C.Slot), .p (.int .i64 n.C.Revoked), .p (.bool n.Full)], .box [.p (.slice 5 (v_in.B.map blkP)), .p (.slice 4 (v_in.V.map vtP))], .box [.p (.int .i64 0), .p (.int .i64 0), .zs, .zs, .zs, .zs, .zs, .p (.int .u64 0), .p (.int .u64 0), .p (.int .i64 0), .p (.int .i64 0), .p (.bool false)], .box [.p (.int .i64 n.No), .p (.int .i64 n.Tick), .p (.slice 5 (v3.B.map blkP)), .p (.slice 4 (v3.V.map vtP)), .p (.slice 5 (v4.B.map blkP)), .p (.slice 4 (v4.V.map vtP)), .vec 9 5 (v5.o5.map ofP).length 0 (v5.o5.map ofP).length, .p (.int .u64 n.C.ID.1), .p (.int .u64 n.C.ID.2), .p (.int .i64 n.C.Slot), .p (.int .i64 n.C.Revoked), .p (.bool n.Full), .p (.slice 1 (c.W.map i64P)), .p (.int .u64 c.Seed), .p (.int .i64 c.Epoch), .p (.int .i64 c.Num), .p (.int .i64 c.Den), .p (.int .i64 (IntKind.i64.wrap (n.Tick.tdiv 3))), .zs], .vec 9 (v5.o5.map ofP)]) ?_ (fun env_v5 H_v5 hw_v5 => ?_)
   ·refine LW.block ?_
    refine LW.iterB (E := fun x1 : F3018_L1 => [(3, .p (.slice 9 (o.map ofP))), (4, .ptr 0 0), (5, .ptr 1 0), (6, .ptr 2 0), (8, .ptr 3 0), (9, .zs), (10, .ptr 4 0), (55, .p (.slice 9 (n.O.map ofP))), (56, .p (.int .i64 (n.O.length : Int))), (57, .p (.int .i64 x1.t57))]) (O := fun x1 => [.box [.p (.slice 1 (c.W.map i64P)), .p (.int .u64 c.Seed), .p (.int .i64 c.Epoch), .p (.int .i64 c.Num), .p (.int .i64 c.Den)], .box [.p (.int .i64 n.No), .p (.int .i64 n.Tick), .p (.slice 5 (n.V.B.map blkP)), .p (.slice 4 (n.V.V.map vtP)), .p (.slice 5 (n.In.B.map blkP)), .p (.slice 4 (n.In.V.map vtP)), .p (.slice 9 (n.O.map ofP)), .p (.int .u64 n.C.ID.1), .p (.int .u64 n.C.ID.2), .p (.int .i64 n.C.Slot), .p (.int .i64 n.C.Revoked), .p (.bool n.Full)], .box [.p (.slice 5 (v_in.B.map blkP)), .p (.slice 4 (v_in.V.map vtP))], .box [.p (.int .i64 0), .p (.int .i64 0), .zs, .zs, .zs, .zs, .zs, .p (.int .u64 0), .p (.int .u64 0), .p (.int .i64 0), .p (.int .i64 0), .p (.bool false)], .box [.p (.int .i64 n.No), .p (.int .i64 n.Tick), .p (.slice 5 (v3.B.map blkP)), .p (.slice 4 (v3.V.map vtP)), .p (.slice 5 (v4.B.map blkP)), .p (.slice 4 (v4.V.map vtP)), .vec 9 5 (x1.o5.map ofP).length 0 (x1.o5.map ofP).length, .p (.int .u64 n.C.ID.1), .p (.int .u64 n.C.ID.2), .p (.int .i64 n.C.Slot), .p (.int .i64 n.C.Revoked), .p (.bool n.Full), .p (.slice 1 (c.W.map i64P)), .p (.int .u64 c.Seed), .p (.int .i64 c.Epoch), .p (.int .i64 c.Num), .p (.int .i64 c.Den), .p (.int .i64 (IntKind.i64.wrap (n.Tick.tdiv 3))), .zs], .vec 9 (x1.o5.map ofP)]) hb_v5 (zW 6 ⟨rfl, rfl, rfl, rfl, rfl, rfl, rfl, rfl, rfl, rfl, trivial⟩ Z Z Z Z) (fun x1 z_x1 hr hb_x1 => ?_)
    unfold F3018_s1 at hr
    refine zQ (zR (zS Z Z Z (LOp.bin Z Z Z Z) (zN (zT (zQ ?_)))))
    refine zX Z (fun g4 => ?_) (fun g4 => ?_)
    ·
     refine zi g4 hr fun hr => LW.skip (zT (zQ (LW.block (zQ (zR (zb hr fun y1 h_y1 hr => zS Z Z Z (LOp.indexAddrX Z Z Z st1036 h_y1 Z) (zS Z Z Z (LOp.loadC Z Z Z vt1077 Z Z) (zS Z Z Z (LOp.alloc Z zt1077 Z Z) (zS Z Z Z (LOp.store Z Z Z Z vt1077 Z Z Z Z) (zN (zT (LW.drawW (by kernel_rfl) (by kernel_rfl) (zK Z (zK Z ?_))))))))))))))
     refine zF (F := []) (s := none) Z Z Z (fun H _ => LOp.nilCheck Z Z) Z ?_
     refine zF (F := []) (s := none) Z Z Z (fun H _ => zA Z Z ft3090_0) Z ?_
     refine zF (F := []) (s := none) Z Z Z (fun H _ => zA Z Z ft1071_4) Z ?_
     refine zF Z Z Z (LAt.load Z Z Z vt1036 Z Z) Z (zF Z Z Z (LAt.load Z Z Z vt1077 Z Z) Z (zb hr fun v6 h_v6 hr => ?_))
     refine zF (F := []) (s := none) Z Z Z (fun H _ => zC Z Z Z (by kernel_rfl) (LC.pure (c3052 h_v6) (.cons Conv.p .nil))) Z ?_
     refine zF (F := []) (s := none) Z Z Z (fun H _ => LOp.buildSlice Z st1036 Z Z Z Z Z) Z ?_
     refine zg hr fun q1 hr => zF Z Z Z (LAt.appendX ofP x1.o5 [v6] rfl Z Z Z Z st1036 q1) Z ?_
     refine zF (F := []) (s := none) Z Z Z (fun H _ => LOp.nilCheck Z Z) Z ?_
     refine zF (F := []) (s := none) Z Z Z (fun H _ => zA Z Z ft3090_0) Z ?_
     refine zF (F := []) (s := none) Z Z Z (fun H _ => zA Z Z ft1071_4) Z ?_
     refine zF Z Z Z (LAt.store Z Z Z Z vt1036 Z Z Z) Z ?_
     refine LF.nil ⟨by kernel_rfl, ?_⟩
     refine inBlk_n (zT (zR (zS Z Z Z (LOp.bin Z Z Z Z) (zM Z (zN (zT ?_))))))
     obtain rfl := zJ hr
     exact ⟨_, rfl, zW 6 ⟨rfl, rfl, rfl, rfl, rfl, rfl, rfl, rfl, rfl, rfl, trivial⟩ Z Z Z rfl⟩
    ·
     refine zo g4 hr fun hr => LW.exit (thn_e (thn_e (inBlk_self (zT ?_))))
     obtain rfl := zJ hr
     have hr := congrArg some (hb_x1 _ rfl)
     obtain rfl := zJ hr
     exact zW 6 ⟨Z, Z, Z, Z, Z, Z, Z, trivial⟩ Z Z Z Z
   ·have hr := ho_v5
    clear hb_v5
    refine zT (LW.weak hw_v5 (zQ (zR (zM Z (zS Z Z Z (LOp.nilCheck Z Z) (zS Z Z Z (zA Z Z ft3090_0) (zS Z Z Z (zD Z Z Z vt1071 Z Z) (zS Z Z Z (LOp.store Z Z Z Z vt1071 Z Z Z Z) (zM Z (zN (zT (LW.ret (thn_r ?_)))))))))))))
    obtain rfl := zJ hr
    refine finP_ret (.two (.cellAgg Z Z (by kernel_rfl) Z) (.tmp Z)) ?_
    exact ⟨_, rfl, (.cons (Conv.agg (.cons Conv.p (.cons Conv.p (.cons Conv.p (.cons Conv.p (.cons Conv.p (.cons Conv.p (.cons (Conv.vecAll Z Z Z) (.cons Conv.p (.cons Conv.p (.cons Conv.p (.cons Conv.p (.cons Conv.p .nil))))))))))))) (.cons Conv.zs .nil))⟩
  ·
   refine zo g3 hr fun hr => LW.skip (zT (zQ (LW.drawW (by kernel_rfl) (by kernel_rfl) (zK Z ?_))))
   refine zF (F := []) (s := none) Z Z Z (fun H _ => zA Z Z ft1071_3) Z ?_
   refine zF Z Z Z (LAt.load Z Z Z vt75 Z Z) Z (zF Z Z Z (LAt.load Z Z Z vt55 Z Z) Z (zF Z Z Z (LAt.load Z Z Z vt75 Z Z) Z (zb hr fun v7 h_v7 hr => ?_)))
   refine zF (F := []) (s := none) Z Z Z (fun H _ => zC Z Z Z (by kernel_rfl) (LC.pure (c85 h_v7) (.cons Conv.p (.cons Conv.p .nil)))) Z ?_
   obtain ⟨v8, h_v8, hr⟩ := zB hr
   refine zF (F := []) (s := none) Z Z Z (fun H _ => zC Z Z Z (by kernel_rfl) (LC.pure (c91 h_v8) (.cons Conv.p (.cons Conv.p .nil)))) Z ?_
   refine zF (F := []) (s := none) Z Z Z (fun H _ => LOp.nilCheck Z Z) Z ?_
   refine zF (F := []) (s := none) Z Z Z (fun H _ => zA Z Z ft3090_0) Z ?_
   refine zF (F := []) (s := none) Z Z Z (fun H _ => zA Z Z ft1071_3) Z ?_
   refine zF Z Z Z (LAt.store Z Z Z Z vt75 Z Z Z) Z ?_
   refine LF.nil ⟨by kernel_rfl, ?_⟩
   refine zT (zQ (LW.ent (Ent.zsCell (i := 4) (j := 18) (m := 9) Z Z Z Z) (zR (zM Z (zM Z (zb hr fun v9 h_v9 hr => zS Z Z Z (zC Z Z Z (by kernel_rfl) (cFHear (x := Nd.mk n.No n.Tick n.V v8 n.O n.C n.Full) (tl := ([] : List Of)) h_v9)) (zN (zT (zQ (zR (zS Z Z Z (LOp.build Z bt3095 Z Z Z) (zS Z Z Z (LOp.alloc Z zt3095 Z Z) (zS Z Z Z (LOp.store Z Z Z Z vt3095 Z Z Z Z) (zN (zT (zQ ?_))))))))))))))))
   refine by_bool (b := (n.Tick.tmod 3) == 0) (fun (g5 : ((n.Tick.tmod 3) == 0) = true) => ?_) (fun (g5 : ((n.Tick.tmod 3) == 0) = false) => ?_)
   ·
    refine zi g5 hr fun hr => zR (zS Z Z Z (zA Z Z ft1071_1) (zS Z Z Z (zD Z Z Z vt3 Z Z) (zS Z Z Z (LOp.isEq (y := .p (.int .i64 0)) (LOp.rem Z Z Z (by decide)) (tick_is g5)) (zS Z Z Z (LOp.indexAddrA Z Z Z at3095 (by decide) (by decide)) (zS Z Z Z (zD Z Z Z vt3094 Z Z) (zM Z (zb hr fun v10 h_v10 hr => zS Z Z Z (zC Z Z Z (by kernel_rfl) (LC.pre (cFFirst (x := Nd.mk n.No n.Tick n.V v8 [] n.C v9.2) (o := v9.1) (tl := ([] : List Of)) h_v10) Z Z Z)) (zN (zT (zQ (zR (zM Z (zS Z Z Z (LOp.nilCheck Z Z) (zS Z Z Z (zA Z Z ft3090_0) (zS Z Z Z (zA Z Z ft1071_1) (zS Z Z Z (zD Z Z Z vt3 Z Z) (zS Z Z Z (LOp.bin Z Z Z Z) (zS Z Z Z (LOp.nilCheck Z Z) (zS Z Z Z (zA Z Z ft3090_0) (zS Z Z Z (zA Z Z ft1071_1) (zS Z Z Z (LOp.store Z Z Z Z vt3 Z Z Z Z) ?_)))))))))))))))))))))
    refine zN (zT (zQ (LW.drawW (by kernel_rfl) (by kernel_rfl) (zK Z ?_))))
    refine zF (F := []) (s := none) Z Z Z (fun H _ => LOp.nilCheck Z Z) Z ?_
    refine zF (F := []) (s := none) Z Z Z (fun H _ => zA Z Z ft3090_0) Z ?_
    refine zF Z Z Z (LAt.load Z Z Z vt1071 Z Z) Z (zK Z ?_)
    refine zF (F := []) (s := none) Z Z Z (fun H _ => LOp.nilCheck Z Z) Z ?_
    refine zF (F := []) (s := none) Z Z Z (fun H _ => zA Z Z ft3090_3) Z ?_
    refine zF Z Z Z (LAt.load Z Z Z vt1036 Z Z) Z (zF Z Z Z (LAt.store Z Z Z Z vt1071 Z Z Z) Z (zK Z ?_))
    refine LF.nil ⟨by kernel_rfl, ?_⟩
    refine zT (LW.ret ?_)
    obtain rfl := zJ hr
    refine finP_ret (.two (.cellAgg Z Z (by kernel_rfl) Z) (.tmp Z)) ?_
    exact ⟨_, rfl, (.cons (Conv.agg (.cons Conv.p (.cons Conv.p (.cons Conv.p (.cons Conv.p (.cons Conv.p (.cons Conv.p (.cons (Conv.vecAll Z Z Z) (.cons Conv.p (.cons Conv.p (.cons Conv.p (.cons Conv.p (.cons Conv.p .nil))))))))))))) (.cons Conv.p .nil))⟩
   ·
    have hr := zO g5 hr
    refine by_bool (b := (n.Tick.tmod 3) == 1) (fun (g6 : ((n.Tick.tmod 3) == 1) = true) => ?_) (fun (g6 : ((n.Tick.tmod 3) == 1) = false) => ?_)
    ·
     refine zi g6 hr fun hr => zR (zS Z Z Z (zA Z Z ft1071_1) (zS Z Z Z (zD Z Z Z vt3 Z Z) (zS Z Z Z (LOp.isEq (y := .p (.int .i64 1)) (LOp.rem Z Z Z (by decide)) (tick_is g6)) (zS Z Z Z (LOp.indexAddrA Z Z Z at3095 (by decide) (by decide)) (zS Z Z Z (zD Z Z Z vt3094 Z Z) (zM Z (zb hr fun v11 h_v11 hr => zS Z Z Z (zC Z Z Z (by kernel_rfl) (LC.pre (cFSecond (x := Nd.mk n.No n.Tick n.V v8 [] n.C v9.2) (o := v9.1) (tl := ([] : List Of)) h_v11) Z Z Z)) (zN (zT (zQ (zR (zM Z (zS Z Z Z (LOp.nilCheck Z Z) (zS Z Z Z (zA Z Z ft3090_0) (zS Z Z Z (zA Z Z ft1071_1) (zS Z Z Z (zD Z Z Z vt3 Z Z) (zS Z Z Z (LOp.bin Z Z Z Z) (zS Z Z Z (LOp.nilCheck Z Z) (zS Z Z Z (zA Z Z ft3090_0) (zS Z Z Z (zA Z Z ft1071_1) (zS Z Z Z (LOp.store Z Z Z Z vt3 Z Z Z Z) ?_)))))))))))))))))))))
     refine zN (zT (zQ (LW.drawW (by kernel_rfl) (by kernel_rfl) (zK Z ?_))))
     refine zF (F := []) (s := none) Z Z Z (fun H _ => LOp.nilCheck Z Z) Z ?_
     refine zF (F := []) (s := none) Z Z Z (fun H _ => zA Z Z ft3090_0) Z ?_
     refine zF Z Z Z (LAt.load Z Z Z vt1071 Z Z) Z (zK Z ?_)
     refine zF (F := []) (s := none) Z Z Z (fun H _ => LOp.nilCheck Z Z) Z ?_
     refine zF (F := []) (s := none) Z Z Z (fun H _ => zA Z Z ft3090_3) Z ?_
     refine zF Z Z Z (LAt.load Z Z Z vt1036 Z Z) Z (zF Z Z Z (LAt.store Z Z Z Z vt1071 Z Z Z) Z (zK Z ?_))
     refine LF.nil ⟨by kernel_rfl, ?_⟩
     refine zT (LW.ret ?_)
     obtain rfl := zJ hr
     refine finP_ret (.two (.cellAgg Z Z (by kernel_rfl) Z) (.tmp Z)) ?_
     exact ⟨_, rfl, (.cons Conv.p (.cons Conv.p .nil))⟩
    ·
     refine zo g6 hr fun hr => zg hr fun q2 hr => zR (zS Z Z Z (zA Z Z ft1071_1) (zS Z Z Z (zD Z Z Z vt3 Z Z) (zS Z Z Z (LOp.isEq (y := .p (.int .i64 2)) (LOp.rem Z Z Z (by decide)) (tick_is q2)) (zS Z Z Z (LOp.indexAddrA Z Z Z at3095 (by decide) (by decide)) (zS Z Z Z (zD Z Z Z vt3094 Z Z) (zM Z (zb hr fun v12 h_v12 hr => zS Z Z Z (zC Z Z Z (by kernel_rfl) (LC.pre (cFThird (x := Nd.mk n.No n.Tick n.V v8 [] n.C v9.2) (o := v9.1) (tl := ([] : List Of)) h_v12) Z Z Z)) (zN (zT (zQ (zR (zM Z (zS Z Z Z (LOp.nilCheck Z Z) (zS Z Z Z (zA Z Z ft3090_0) (zS Z Z Z (zA Z Z ft1071_1) (zS Z Z Z (zD Z Z Z vt3 Z Z) (zS Z Z Z (LOp.bin Z Z Z Z) (zS Z Z Z (LOp.nilCheck Z Z) (zS Z Z Z (zA Z Z ft3090_0) (zS Z Z Z (zA Z Z ft1071_1) ?_))))))))))))))))))))
     refine zS Z Z Z (LOp.store Z Z Z Z vt3 Z Z Z Z) (zN (zT (zQ (LW.drawW (by kernel_rfl) (by kernel_rfl) (zK Z ?_)))))
     refine zF (F := []) (s := none) Z Z Z (fun H _ => LOp.nilCheck Z Z) Z ?_
     refine zF (F := []) (s := none) Z Z Z (fun H _ => zA Z Z ft3090_0) Z ?_
     refine zF Z Z Z (LAt.load Z Z Z vt1071 Z Z) Z (zK Z ?_)
     refine zF (F := []) (s := none) Z Z Z (fun H _ => LOp.nilCheck Z Z) Z ?_
     refine zF (F := []) (s := none) Z Z Z (fun H _ => zA Z Z ft3090_3) Z ?_
     refine zF Z Z Z (LAt.load Z Z Z vt1036 Z Z) Z (zF Z Z Z (LAt.store Z Z Z Z vt1071 Z Z Z) Z (zK Z ?_))
     refine LF.nil ⟨by kernel_rfl, ?_⟩
     refine zT (LW.ret ?_)
     obtain rfl := zJ hr
     refine finP_ret (.two (.cellAgg Z Z (by kernel_rfl) Z) (.tmp Z)) ?_
     exact ⟨_, rfl, (.cons Conv.p (.cons Conv.p .nil))⟩
open Go.Proofs
structure F3111_L1 where
 t13 : Int
structure F3112_L1 where
 t13 : Int
structure FEqo_L1 where
 t17 : Int
end Go.Mg
