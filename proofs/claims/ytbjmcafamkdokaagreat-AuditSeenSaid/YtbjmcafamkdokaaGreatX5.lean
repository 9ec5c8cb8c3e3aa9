/- shuffle.At, Back, Perm. References of trees and cursors. Duties: what stands alone. duty.those: a closure. Sums of weights, and lists, over closures. Committees over closures. marigoldref04. Duties: the reference, the proposer. duty.Total, Weight, Committee, In. Weights of blocks, heads: what stands alone, and the reference. Weights of blocks; the head. Views: clones, and what stands alone. Views: what may be at all; a view that grows, begun. Conditions: none. -/
import Derived.Test.YtbjmcafamkdokaaGreatX3
import Derived.Test.YtbjmcafamkdokaaGreatX4
import Derived.Test.YtbjmcafamkdokaaGreatX2
set_option maxRecDepth 100000
set_option linter.unusedSimpArgs false
set_option linter.unusedVariables false
namespace Go.Mg
open Go.Proofs
def dk0 : Dk := ⟨fun _ => false, 0⟩
structure F102_L1 where
 i : Int
 t6 : Int
 d : Dk
def F102_s1 (seed : Int) (n : Int) (x1 : F102_L1) : Option (F102_L1 ⊕ F102_L1) :=
 bif decide (x1.t6 < 10) then
  bif turnOk n x1.t6 then
   some (.inl (F102_L1.mk (turnOf seed n x1.t6 x1.i) (IntKind.i64.wrap (x1.t6 + 1)) (x1.d.turned x1.t6)))
  else none
 else
  some (.inr (F102_L1.mk x1.i x1.t6 x1.d))
def F102 (seed : Int) (n : Int) (i : Int) (d : Dk) : Option (Int × Dk) :=
 (iter (F102_s1 seed n) big (F102_L1.mk i 0 d)).bind fun v1 =>
 some (v1.i, v1.d)
theorem cF102 {seed : Int} {n : Int} {i : Int} {d : Dk} {r_ : Int × Dk} (hr : F102 seed n i d = some r_) : LC Tryz.prog 142 [.ptr 0 0, (iQ i)] [.box (deckS seed n d)] (Is (iQ r_.1) [.box (deckS seed n r_.2)]) := by
 refine zh2 Tryz.func142 Z Z Z ?_;unfold F102 at hr;refine zQ (zR (zM Z (zN (zT (zQ (zQ (zR (zM Z (zN (zT ?_))))))))));obtain ⟨v1, hb_v1, ho_v1⟩ := zB hr;clear hr;refine LW.tail (E := [(1, (iQ v1.i)), (4, (iQ 0))]) (O := [.box (deckS seed n v1.d)]) ?_ (fun env_v1 H_v1 hw_v1 => ?_)
 ·refine LW.block ?_;refine LW.iterB (E := fun x1 : F102_L1 => [(0, .ptr 0 0), (1, (iQ x1.i)), (4, (iQ 0)), (6, (iQ x1.t6))]) (O := fun x1 => [.box (deckS seed n x1.d)]) hb_v1 (zW 1 ⟨rfl, rfl, rfl, rfl, trivial⟩ Z Z Z Z) (fun x1 z_x1 hr hb_x1 => ?_);unfold F102_s1 at hr;refine zQ (zR (yS Z (zb2 Z Z Z Z) (zN (zT (zQ ?_)))));refine zX Z (fun g1 => ?_) (fun g1 => ?_)
  ·
   refine zi g1 hr fun hr => zk (zT (zQ (zl (zQ (zR (zM Z (zM Z (zN (zT (zR (zM Z (zM Z (zM Z (zg hr fun q1 hr => yS Z (zC Z Z Z (by kernel_rfl) (c105 q1)) (zM Z (zN (inBlk_n (zT (zR (yS Z (zb2 Z Z Z Z) (zM Z ?_)))))))))))))))))))));refine zN (zT ?_);obtain rfl := zJ hr;exact ⟨_, rfl, zW 1 ⟨rfl, rfl, rfl, rfl, trivial⟩ Z Z Z rfl⟩
  ·
   refine zo g1 hr fun hr => zq (thn_e (thn_e (zy (zT ?_))));obtain rfl := zJ hr;have hr := congrArg some (hb_x1 _ rfl);obtain rfl := zJ hr;exact zW 1 ⟨Z, Z, trivial⟩ Z Z Z Z
 ·have hr := ho_v1;clear hb_v1;refine zT (LW.weak hw_v1 (zQ (zR (zM Z (zM Z (zN (zT (zr ?_))))))));obtain rfl := zJ hr;exact fin_ret (.one (.tmp Z)) (⟨rfl, rfl⟩)
def F101 (n : Int) (i : Int) : Option Bool :=
 bif decide (n > 0) then
  bif decide (n ≤ 1000) then
   bif decide (i ≥ 0) then
    some (decide (i < n))
   else
    some false
  else
   some false
 else
  some false
theorem c101 {n : Int} {i : Int} {r_ : Bool} (hr : F101 n i = some r_) : LPure Tryz.prog 141 [.int .i64 n, .int .i64 i] [.bool r_] := by
 refine zh Tryz.func141 Z Z Z Z ?_;unfold F101 at hr;refine zQ (zR (zM Z (zN (zT (zQ (zR (zM Z (yS Z (zb2 Z Z Z Z) (zM Z ?_)))))))));refine zc 7 Z (fun g1 => ?_) (fun g1 => ?_)
 ·
  refine zi g1 hr fun hr => yV Z (gd g1 Z) (zm Z Z) (yV Z (gd g1 Z) (zb2 Z Z Z Z) (yS Z (zpT Z (gdl g1 Z) Z) (zM Z ?_)));refine zc 11 Z (fun g2 => ?_) (fun g2 => ?_)
  ·
   refine zi g2 hr fun hr => yV Z (gd g2 Z) (zm Z Z) (yV Z (gd g2 Z) (zb2 Z Z Z Z) (yS Z (zpT Z (gdl g2 Z) Z) (zM Z ?_)));refine zc 15 Z (fun g3 => ?_) (fun g3 => ?_)
   ·
    refine zi g3 hr fun hr => yV Z (gd g3 Z) (zm Z Z) (yV Z (gd g3 Z) (zm Z Z) (yV Z (gd g3 Z) (zb2 Z Z Z Z) (yS Z (zpT Z (gdl g3 Z) Z) (zM Z (zN (zT (zr ?_)))))));obtain rfl := zJ hr;exact zf (.one (.tmp Z)) zv
   ·
    refine zo g3 hr fun hr => yU Z (gd g3 Z) Z (yU Z (gd g3 Z) Z (yU Z (gd g3 Z) Z (yS Z (zpF Z (gdl g3 Z) Z) (zM Z (zN (zT (zr ?_)))))));obtain rfl := zJ hr;exact zf (.one (.tmp Z)) zv
  ·
   refine zo g2 hr fun hr => yU Z (gd g2 Z) Z (yU Z (gd g2 Z) Z (yS Z (zpF Z (gdl g2 Z) Z) (zM Z (yU Z Z Z (yU Z Z Z (yU Z Z Z (yS Z (zpF Z Z Z) (zM Z (zN (zT (zr ?_)))))))))));obtain rfl := zJ hr;exact zf (.one (.tmp Z)) zv
 ·
  refine zo g1 hr fun hr => yU Z (gd g1 Z) Z (yU Z (gd g1 Z) Z (yS Z (zpF Z (gdl g1 Z) Z) (zM Z (yU Z Z Z (yU Z Z Z (yS Z (zpF Z Z Z) (zM Z (yU Z Z Z (yU Z Z Z (yU Z Z Z (yS Z (zpF Z Z Z) (zM Z (zN (zT (zr ?_)))))))))))))));obtain rfl := zJ hr;exact zf (.one (.tmp Z)) zv
structure F60_L1 where
 t19 : Int
 d : Dk
 l : List Int
def F60_s1 (seed : Int) (n : Int) (x1 : F60_L1) : Option (F60_L1 ⊕ F60_L1) :=
 bif decide (x1.t19 < ((List.replicate n.toNat (0 : Int)).length : Int)) then
  (F102 seed n x1.t19 x1.d).bind fun v3 =>
  (ix x1.l x1.t19).bind fun _ =>
  some (.inl (F60_L1.mk (IntKind.i64.wrap (x1.t19 + 1)) v3.2 (x1.l.set x1.t19.toNat v3.1)))
 else
  some (.inr (F60_L1.mk x1.t19 x1.d x1.l))
def F60 (seed : Int) (n : Int) : Option (List Int) :=
 (F101 n 0).bind fun v1 =>
 bif !v1 then
  some []
 else
  bif mkOk n 8 then
   (iter (F60_s1 seed n) big (F60_L1.mk 0 dk0 (List.replicate n.toNat (0 : Int)))).bind fun v2 =>
   bif decide (v2.d.k < n) then
    some []
   else
    some v2.l
  else none
theorem c60 {seed : Int} {n : Int} {r_ : (List Int)} (hr : F60 seed n = some r_) : LPure Tryz.prog 103 [.int .u64 seed, .int .i64 n] [.slice 1 (r_.map i64P)] := by
 refine zh Tryz.func103 Z Z Z Z ?_;unfold F60 at hr;refine zQ (zR (zM Z (zN (zT (zQ (zQ (zR (zM Z (zb hr fun v1 h_v1 hr => yS Z (zC Z Z Z (by kernel_rfl) (zp (c101 h_v1) (.cons zv (.cons zv .nil)))) (yS Z (LOp.not Z Z) (zN (zT ?_))))))))))));refine zX Z (fun g1 => ?_) (fun g1 => ?_)
 ·
  refine zi g1 hr fun hr => zQ (zR (zM Z (zN (zT (zr (thn_r ?_))))));obtain rfl := zJ hr;exact zf (.one (.tmp Z)) Conv.zs
 ·
  refine zo g1 hr fun hr => zk (zT (zQ (zR (zM Z (zM Z (yS Z (LOp.build Z bt120 Z Z Z) (yS Z (zbx (H' := [.box (deckS seed n dk0)]) Z Z Z Z Z) (zM Z (zN (zT (zQ (zR (zM Z (zg hr fun q1 hr => yS Z (LOp.makeSliceX i64P 0 Z Z Z st49 (z := .int .i64 0) (by kernel_rfl) Z q1 Z Z) (zM Z (zN (zT (zQ (zQ (zR (zM Z ?_)))))))))))))))))))));refine yS Z (LOp.lenVM Z Z Z (by kernel_rfl)) (zM Z (zN (zT ?_)));obtain ⟨v2, hb_v2, ho_v2⟩ := zB hr;clear hr;refine LW.tail (E := [(1, (iQ n)), (4, .zs), (5, .ptr 0 0), (6, (jI 1 v2.l))]) (O := [.box (deckS seed n v2.d), .vec 1 (v2.l.map i64P)]) ?_ (fun env_v2 H_v2 hw_v2 => ?_)
  ·refine LW.block ?_;refine LW.iterB (E := fun x1 : F60_L1 => [(1, (iQ n)), (4, .zs), (5, .ptr 0 0), (6, (jI 1 x1.l)), (18, .p (.int .i64 ((List.replicate n.toNat (0 : Int)).length : Int))), (19, (iQ x1.t19))]) (O := fun x1 => [.box (deckS seed n x1.d), .vec 1 (x1.l.map i64P)]) hb_v2 (zW 2 ⟨rfl, rfl, rfl, rfl, rfl, rfl, trivial⟩ Z Z Z Z) (fun x1 z_x1 hr hb_x1 => ?_);unfold F60_s1 at hr;refine zQ (zR (yS Z (zb2 Z Z Z Z) (zN (zT (zQ ?_)))));refine zX Z (fun g2 => ?_) (fun g2 => ?_)
   ·
    refine zi g2 hr fun hr => zk (zT (zQ (zl (zQ (zR (zM Z (zM Z (zN (zT (zR (zM Z (zM Z (zM Z (zM Z (zb hr fun v3 h_v3 hr => yS Z (zC Z Z Z (by kernel_rfl) (LC.pre (cF102 h_v3) Z Z Z)) (zb hr fun y1 h_y1 hr => yS Z (LOp.indexAddrVX Z Z Z Z st49 h_y1) ?_))))))))))))))));refine yS Z (LOp.storeVX (f := i64P) (l := x1.l) v3.1 Z Z Z Z vt3 (fun _ => rfl) h_y1 Z) ?_;refine zN (inBlk_n (zT (zR (yS Z (zb2 Z Z Z Z) (zM Z (zN (zT ?_)))))));obtain rfl := zJ hr;exact ⟨_, rfl, zW 2 ⟨rfl, rfl, rfl, (vset (rfl)), rfl, rfl, trivial⟩ Z Z Z rfl⟩
   ·
    refine zo g2 hr fun hr => zq (thn_e (thn_e (zy (zT ?_))));obtain rfl := zJ hr;have hr := congrArg some (hb_x1 _ rfl);obtain rfl := zJ hr;exact zW 2 ⟨Z, Z, Z, Z, trivial⟩ Z Z Z Z
  ·have hr := ho_v2;clear hb_v2;refine zT (LW.weak hw_v2 (zQ (zQ (zR (zM Z (yS Z (zn Z Z) (yS Z (zA Z Z ft120_3) (yS Z (zC Z Z Z (by kernel_rfl) (c106 (off := 52) Z Z)) (zM Z (yS Z (zb2 Z Z Z Z) (zN (zT ?_))))))))))));refine zX Z (fun g3 => ?_) (fun g3 => ?_)
   ·
    refine zi g3 hr fun hr => zQ (zR (zM Z (zN (zT (zr (thn_r ?_))))));obtain rfl := zJ hr;exact zf (.one (.tmp Z)) Conv.zs
   ·
    refine zo g3 hr fun hr => zk (zT (zQ (zR (zM Z (zM Z (zN (zT (zr ?_))))))));obtain rfl := zJ hr;exact zf (.one (.tmp Z)) ((Conv.vecAll Z Z Z))
open Go.Proofs
open Go.Proofs
structure F109_L1 where
 m : Int
 i : Int
def F109_s1 (x : List Int) (x1 : F109_L1) : Option (F109_L1 ⊕ F109_L1) :=
 bif decide (x1.i < (x.length : Int)) then
  (ix x x1.i).bind fun y2 =>
  some (.inl (F109_L1.mk (if y2 < x1.m then y2 else x1.m) (IntKind.i64.wrap (x1.i + 1))))
 else
  some (.inr (F109_L1.mk x1.m x1.i))
def F109 (x : List Int) : Option Int :=
 bif decide ((x.length : Int) < 1) then
  none
 else
  (ix x 0).bind fun y1 =>
  (iter (F109_s1 x) big (F109_L1.mk y1 1)).bind fun v1 =>
  some v1.m
theorem c109 {x : List Int} {r_ : Int} (hr : F109 x = some r_) : LPure Tryz.prog 78 [.slice 1 (x.map i64P)] [.int .i64 r_] := by
 refine zh Tryz.func78 Z Z Z Z ?_;unfold F109 at hr;refine zQ (zR (zM Z (zN (zT (zQ (zQ (zR (zM Z (yS Z (zlM Z Z (by kernel_rfl)) (yS Z (zb2 Z Z Z Z) (zN (zT ?_))))))))))));refine zX Z (fun g1 => ?_) (fun g1 => ?_)
 ·
  have hr := zI g1 hr;cases hr
 ·
  refine zo g1 hr fun hr => zk (zT (zQ (zR (zM Z (zb hr fun y1 h_y1 hr => yS Z (zx Z Z Z st49 h_y1 Z) (yS Z (zC2 Z Z Z vt3 Z Z) (zM Z (zN (zT (zQ (zQ (zR (zM Z (zN (zT ?_)))))))))))))));obtain ⟨v1, hb_v1, ho_v1⟩ := zB hr;clear hr;refine LW.tail (E := [(2, (iQ 0)), (3, (iQ v1.m))]) (O := []) ?_ (fun env_v1 H_v1 hw_v1 => ?_)
  ·refine LW.block ?_;refine LW.iterB (E := fun x1 : F109_L1 => [(0, (kI x)), (2, (iQ 0)), (3, (iQ x1.m)), (4, (iQ x1.i))]) (O := fun x1 => []) hb_v1 (zW 0 ⟨rfl, rfl, rfl, rfl, trivial⟩ Z Z Z Z) (fun x1 z_x1 hr hb_x1 => ?_);unfold F109_s1 at hr;refine zQ (zQ (zR (zM Z (zM Z (yS Z (zlM Z Z (by kernel_rfl)) (yS Z (zb2 Z Z Z Z) (zN (zT ?_))))))));refine zX Z (fun g2 => ?_) (fun g2 => ?_)
   ·
    refine zi g2 hr fun hr => zk (zT (zQ (zl (zR (zM Z (zM Z (zM Z (zb hr fun y2 h_y2 hr => yS Z (zx Z Z Z st49 h_y2 Z) (yS Z (zC2 Z Z Z vt3 Z Z) (yS Z (LOp.min Z Z Z) (zM Z (zN (inBlk_n (zT (zR (zM Z (yS Z (zb2 Z Z Z Z) (zM Z (zN (zT ?_))))))))))))))))))));obtain rfl := zJ hr;exact ⟨_, rfl, zW 0 ⟨rfl, rfl, rfl, rfl, trivial⟩ Z Z Z rfl⟩
   ·
    refine zo g2 hr fun hr => zq (thn_e (thn_e (zy (zT ?_))));obtain rfl := zJ hr;have hr := congrArg some (hb_x1 _ rfl);obtain rfl := zJ hr;exact zW 0 ⟨Z, Z, trivial⟩ Z Z Z Z
  ·have hr := ho_v1;clear hb_v1;refine zT (LW.weak hw_v1 (zQ (zR (zM Z (zM Z (zN (zT (zr ?_))))))));obtain rfl := zJ hr;exact zf (.one (.tmp Z)) zv
structure F110_L1 where
 m : Int
 i : Int
def F110_s1 (x : List Int) (x1 : F110_L1) : Option (F110_L1 ⊕ F110_L1) :=
 bif decide (x1.i < (x.length : Int)) then
  (ix x x1.i).bind fun y2 =>
  some (.inl (F110_L1.mk (if y2 > x1.m then y2 else x1.m) (IntKind.i64.wrap (x1.i + 1))))
 else
  some (.inr (F110_L1.mk x1.m x1.i))
def F110 (x : List Int) : Option Int :=
 bif decide ((x.length : Int) < 1) then
  none
 else
  (ix x 0).bind fun y1 =>
  (iter (F110_s1 x) big (F110_L1.mk y1 1)).bind fun v1 =>
  some v1.m
theorem c110 {x : List Int} {r_ : Int} (hr : F110 x = some r_) : LPure Tryz.prog 79 [.slice 1 (x.map i64P)] [.int .i64 r_] := by
 refine zh Tryz.func79 Z Z Z Z ?_;unfold F110 at hr;refine zQ (zR (zM Z (zN (zT (zQ (zQ (zR (zM Z (yS Z (zlM Z Z (by kernel_rfl)) (yS Z (zb2 Z Z Z Z) (zN (zT ?_))))))))))));refine zX Z (fun g1 => ?_) (fun g1 => ?_)
 ·
  have hr := zI g1 hr;cases hr
 ·
  refine zo g1 hr fun hr => zk (zT (zQ (zR (zM Z (zb hr fun y1 h_y1 hr => yS Z (zx Z Z Z st49 h_y1 Z) (yS Z (zC2 Z Z Z vt3 Z Z) (zM Z (zN (zT (zQ (zQ (zR (zM Z (zN (zT ?_)))))))))))))));obtain ⟨v1, hb_v1, ho_v1⟩ := zB hr;clear hr;refine LW.tail (E := [(2, (iQ 0)), (3, (iQ v1.m))]) (O := []) ?_ (fun env_v1 H_v1 hw_v1 => ?_)
  ·refine LW.block ?_;refine LW.iterB (E := fun x1 : F110_L1 => [(0, (kI x)), (2, (iQ 0)), (3, (iQ x1.m)), (4, (iQ x1.i))]) (O := fun x1 => []) hb_v1 (zW 0 ⟨rfl, rfl, rfl, rfl, trivial⟩ Z Z Z Z) (fun x1 z_x1 hr hb_x1 => ?_);unfold F110_s1 at hr;refine zQ (zQ (zR (zM Z (zM Z (yS Z (zlM Z Z (by kernel_rfl)) (yS Z (zb2 Z Z Z Z) (zN (zT ?_))))))));refine zX Z (fun g2 => ?_) (fun g2 => ?_)
   ·
    refine zi g2 hr fun hr => zk (zT (zQ (zl (zR (zM Z (zM Z (zM Z (zb hr fun y2 h_y2 hr => yS Z (zx Z Z Z st49 h_y2 Z) (yS Z (zC2 Z Z Z vt3 Z Z) (yS Z (LOp.max Z Z Z) (zM Z (zN (inBlk_n (zT (zR (zM Z (yS Z (zb2 Z Z Z Z) (zM Z (zN (zT ?_))))))))))))))))))));obtain rfl := zJ hr;exact ⟨_, rfl, zW 0 ⟨rfl, rfl, rfl, rfl, trivial⟩ Z Z Z rfl⟩
   ·
    refine zo g2 hr fun hr => zq (thn_e (thn_e (zy (zT ?_))));obtain rfl := zJ hr;have hr := congrArg some (hb_x1 _ rfl);obtain rfl := zJ hr;exact zW 0 ⟨Z, Z, trivial⟩ Z Z Z Z
  ·have hr := ho_v1;clear hb_v1;refine zT (LW.weak hw_v1 (zQ (zR (zM Z (zM Z (zN (zT (zr ?_))))))));obtain rfl := zJ hr;exact zf (.one (.tmp Z)) zv
def F64 (c : Cf) : Option Bool :=
 (
  bif (c.W.length : Int) == 0 then
   some true
  else
   bif decide ((c.W.length : Int) > 12) then
    some true
   else
    (F109 c.W).bind fun v2 =>
    bif decide (v2 < 0) then
     some true
    else
     (F110 c.W).bind fun v3 =>
     some (decide (v3 > 1099511627776))
 ).bind fun v1 =>
 bif v1 then
  some false
 else
  bif decide (c.Epoch > 0) then
   bif decide (c.Epoch ≤ 8) then
    bif decide (c.Num ≥ 0) then
     bif decide (c.Num ≤ c.Den) then
      bif decide (c.Den > 0) then
       some (decide (c.Den ≤ 1000))
      else
       some false
     else
      some false
    else
     some false
   else
    some false
  else
   some false
theorem c64 {c : Cf} {r_ : Bool} (hr : F64 c = some r_) : LPure Tryz.prog 47 [cfP c] [.bool r_] := by
 refine zh Tryz.func47 Z Z Z Z ?_;unfold F64 at hr;refine zQ (zR (yS Z (zbx Z Z Z Z Z) (zM Z (zN (zT (zQ ?_))))));obtain ⟨v1, hb_v1, ho_v1⟩ := zB hr;clear hr;refine LW.cut (E := [(1, .ptr 0 0), (2, (bQ false)), (24, (bQ v1))]) (O := [.box (cfO c)]) ?_ ?_
 ·have hr := hb_v1;refine zR (yS Z (zA Z Z ft55_0) (yS Z (zD Z Z Z vt49 Z Z) (yS Z (zlM Z Z (by kernel_rfl)) (yS Z (zb2 Z Z Z Z) (zM Z ?_)))));refine zc 7 Z (fun g1 => ?_) (fun g1 => ?_)
  ·
   refine zi g1 hr fun hr => yU Z (gd g1 Z) Z (yU Z (gd g1 Z) Z (yU Z (gd g1 Z) Z (yU Z (gd g1 Z) Z (yS Z (zpT Z (gdl g1 Z) Z) (zM Z (yU Z Z Z (yU Z Z Z (yU Z Z Z (yU Z Z Z (yS Z (zpT Z Z Z) (zM Z (yU Z Z Z (yU Z Z Z (yU Z Z Z (yU Z Z Z (yS Z (zpT Z Z Z) (zN (zT ?_))))))))))))))))));obtain rfl := zJ hr;exact zW 1 ⟨Z, Z, Z, trivial⟩ Z Z Z Z
  ·
   refine zo g1 hr fun hr => yV Z (gd g1 Z) (zA Z Z ft55_0) (yV Z (gd g1 Z) (zD Z Z Z vt49 Z Z) (yV Z (gd g1 Z) (zlM Z Z (by kernel_rfl)) (yV Z (gd g1 Z) (zb2 Z Z Z Z) (yS Z (zpF Z (gdl g1 Z) Z) (zM Z ?_)))));refine zc 13 Z (fun g2 => ?_) (fun g2 => ?_)
   ·
    refine zi g2 hr fun hr => yU Z (gd g2 Z) Z (yU Z (gd g2 Z) Z (yU Z (gd g2 Z) Z (yU Z (gd g2 Z) Z (yS Z (zpT Z (gdl g2 Z) Z) (zM Z (yU Z Z Z (yU Z Z Z (yU Z Z Z (yU Z Z Z (yS Z (zpT Z Z Z) (zN (zT ?_))))))))))));obtain rfl := zJ hr;exact zW 1 ⟨Z, Z, Z, trivial⟩ Z Z Z Z
   ·
    refine zo g2 hr fun hr => yV Z (gd g2 Z) (zA Z Z ft55_0) (yV Z (gd g2 Z) (zD Z Z Z vt49 Z Z) (zb hr fun v2 h_v2 hr => yV Z (gd g2 Z) (zC Z Z Z (by kernel_rfl) (zp (c109 h_v2) (.cons zv .nil))) (yV Z (gd g2 Z) (zb2 Z Z Z Z) (yS Z (zpF Z (gdl g2 Z) Z) (zM Z ?_)))));refine zc 19 Z (fun g3 => ?_) (fun g3 => ?_)
    ·
     refine zi g3 hr fun hr => yU Z (gd g3 Z) Z (yU Z (gd g3 Z) Z (yU Z (gd g3 Z) Z (yU Z (gd g3 Z) Z (yS Z (zpT Z (gdl g3 Z) Z) (zN (zT ?_))))));obtain rfl := zJ hr;exact zW 1 ⟨Z, Z, Z, trivial⟩ Z Z Z Z
    ·
     refine zo g3 hr fun hr => yV Z (gd g3 Z) (zA Z Z ft55_0) (yV Z (gd g3 Z) (zD Z Z Z vt49 Z Z) (zb hr fun v3 h_v3 hr => yV Z (gd g3 Z) (zC Z Z Z (by kernel_rfl) (zp (c110 h_v3) (.cons zv .nil))) (yV Z (gd g3 Z) (zb2 Z Z Z Z) (yS Z (zpF Z (gdl g3 Z) Z) (zN (zT ?_))))));obtain rfl := zJ hr;exact zW 1 ⟨Z, Z, Z, trivial⟩ Z Z Z Z
 ·have hr := ho_v1;clear hb_v1;refine zX Z (fun g4 => ?_) (fun g4 => ?_)
  ·
   refine zi g4 hr fun hr => zQ (zR (zM Z (zN (zT (zr (thn_r ?_))))));obtain rfl := zJ hr;exact zf (.one (.tmp Z)) zv
  ·
   refine zo g4 hr fun hr => zk (zT (zQ (zR (yS Z (zA Z Z ft55_2) (yS Z (zD Z Z Z vt3 Z Z) (yS Z (zb2 Z Z Z Z) (zM Z ?_)))))));refine zc 28 Z (fun g5 => ?_) (fun g5 => ?_)
   ·
    refine zi g5 hr fun hr => yV Z (gd g5 Z) (zA Z Z ft55_2) (yV Z (gd g5 Z) (zD Z Z Z vt3 Z Z) (yV Z (gd g5 Z) (zb2 Z Z Z Z) (yS Z (zpT Z (gdl g5 Z) Z) (zM Z ?_))));refine zc 33 Z (fun g6 => ?_) (fun g6 => ?_)
    ·
     refine zi g6 hr fun hr => yV Z (gd g6 Z) (zA Z Z ft55_3) (yV Z (gd g6 Z) (zD Z Z Z vt3 Z Z) (yV Z (gd g6 Z) (zb2 Z Z Z Z) (yS Z (zpT Z (gdl g6 Z) Z) (zM Z ?_))));refine zc 38 Z (fun g7 => ?_) (fun g7 => ?_)
     ·
      refine zi g7 hr fun hr => yV Z (gd g7 Z) (zA Z Z ft55_3) (yV Z (gd g7 Z) (zD Z Z Z vt3 Z Z) (yV Z (gd g7 Z) (zA Z Z ft55_4) (yV Z (gd g7 Z) (zD Z Z Z vt3 Z Z) (yV Z (gd g7 Z) (zb2 Z Z Z Z) (yS Z (zpT Z (gdl g7 Z) Z) (zM Z ?_))))));refine zc 45 Z (fun g8 => ?_) (fun g8 => ?_)
      ·
       refine zi g8 hr fun hr => yV Z (gd g8 Z) (zA Z Z ft55_4) (yV Z (gd g8 Z) (zD Z Z Z vt3 Z Z) (yV Z (gd g8 Z) (zb2 Z Z Z Z) (yS Z (zpT Z (gdl g8 Z) Z) (zM Z ?_))));refine zc 50 Z (fun g9 => ?_) (fun g9 => ?_)
       ·
        refine zi g9 hr fun hr => yV Z (gd g9 Z) (zA Z Z ft55_4) (yV Z (gd g9 Z) (zD Z Z Z vt3 Z Z) (yV Z (gd g9 Z) (zb2 Z Z Z Z) (yS Z (zpT Z (gdl g9 Z) Z) (zM Z (zN (zT (zr ?_)))))));obtain rfl := zJ hr;exact zf (.one (.tmp Z)) zv
       ·
        refine zo g9 hr fun hr => yU Z (gd g9 Z) Z (yU Z (gd g9 Z) Z (yU Z (gd g9 Z) Z (yS Z (zpF Z (gdl g9 Z) Z) (zM Z (zN (zT (zr ?_)))))));obtain rfl := zJ hr;exact zf (.one (.tmp Z)) zv
      ·
       refine zo g8 hr fun hr => yU Z (gd g8 Z) Z (yU Z (gd g8 Z) Z (yU Z (gd g8 Z) Z (yS Z (zpF Z (gdl g8 Z) Z) (zM Z (yU Z Z Z (yU Z Z Z (yU Z Z Z (yS Z (zpF Z Z Z) (zM Z (zN (zT (zr ?_))))))))))));obtain rfl := zJ hr;exact zf (.one (.tmp Z)) zv
     ·
      refine zo g7 hr fun hr => yU Z (gd g7 Z) Z (yU Z (gd g7 Z) Z (yU Z (gd g7 Z) Z (yU Z (gd g7 Z) Z (yU Z (gd g7 Z) Z (yS Z (zpF Z (gdl g7 Z) Z) (zM Z (yU Z Z Z (yU Z Z Z (yU Z Z Z (yS Z (zpF Z Z Z) (zM Z (yU Z Z Z (yU Z Z Z (yU Z Z Z (yS Z (zpF Z Z Z) (zM Z (zN (zT (zr ?_)))))))))))))))))));obtain rfl := zJ hr;exact zf (.one (.tmp Z)) zv
    ·
     refine zo g6 hr fun hr => yU Z (gd g6 Z) Z (yU Z (gd g6 Z) Z (yU Z (gd g6 Z) Z (yS Z (zpF Z (gdl g6 Z) Z) (zM Z (yU Z Z Z (yU Z Z Z (yU Z Z Z (yU Z Z Z (yU Z Z Z (yS Z (zpF Z Z Z) (zM Z (yU Z Z Z (yU Z Z Z (yU Z Z Z (yS Z (zpF Z Z Z) (zM Z (yU Z Z Z (yU Z Z Z (yU Z Z Z (yS Z (zpF Z Z Z) (zM Z (zN ?_))))))))))))))))))))));refine zT (zr ?_);obtain rfl := zJ hr;exact zf (.one (.tmp Z)) zv
   ·
    refine zo g5 hr fun hr => yU Z (gd g5 Z) Z (yU Z (gd g5 Z) Z (yU Z (gd g5 Z) Z (yS Z (zpF Z (gdl g5 Z) Z) (zM Z (yU Z Z Z (yU Z Z Z (yU Z Z Z (yS Z (zpF Z Z Z) (zM Z (yU Z Z Z (yU Z Z Z (yU Z Z Z (yU Z Z Z (yU Z Z Z (yS Z (zpF Z Z Z) (zM Z (yU Z Z Z (yU Z Z Z (yU Z Z Z (yS Z (zpF Z Z Z) (zM Z (yU Z Z Z ?_))))))))))))))))))))));refine yU Z Z Z (yU Z Z Z (yS Z (zpF Z Z Z) (zM Z (zN (zT (zr ?_))))));obtain rfl := zJ hr;exact zf (.one (.tmp Z)) zv
def F107 (c : Cf) (slot : Int) : Option Bool :=
 (F64 c).bind fun v1 =>
 bif v1 then
  bif decide (slot > 0) then
   some (decide (slot ≤ 1048576))
  else
   some false
 else
  some false
theorem c107 {c : Cf} {slot : Int} {r_ : Bool} (hr : F107 c slot = some r_) : LPure Tryz.prog 69 [cfP c, .int .i64 slot] [.bool r_] := by
 refine zh Tryz.func69 Z Z Z Z ?_;unfold F107 at hr;refine zQ (zR (yS Z (zbx Z Z Z Z Z) (zM Z (zN (zT (zQ (zR (yS Z (zD Z Z Z vt55 Z Z) (zb hr fun v1 h_v1 hr => yS Z (zC Z Z Z (by kernel_rfl) (zp (c64 h_v1) (.cons zv .nil))) (zM Z ?_))))))))));refine zc 7 Z (fun g1 => ?_) (fun g1 => ?_)
 ·
  refine zi g1 hr fun hr => yV Z (gd g1 Z) (zm Z Z) (yV Z (gd g1 Z) (zb2 Z Z Z Z) (yS Z (zpT Z (gdl g1 Z) Z) (zM Z ?_)));refine zc 11 Z (fun g2 => ?_) (fun g2 => ?_)
  ·
   refine zi g2 hr fun hr => yV Z (gd g2 Z) (zm Z Z) (yV Z (gd g2 Z) (zb2 Z Z Z Z) (yS Z (zpT Z (gdl g2 Z) Z) (zM Z (zN (zT (zr ?_))))));obtain rfl := zJ hr;exact zf (.one (.tmp Z)) zv
  ·
   refine zo g2 hr fun hr => yU Z (gd g2 Z) Z (yU Z (gd g2 Z) Z (yS Z (zpF Z (gdl g2 Z) Z) (zM Z (zN (zT (zr ?_))))));obtain rfl := zJ hr;exact zf (.one (.tmp Z)) zv
 ·
  refine zo g1 hr fun hr => yU Z (gd g1 Z) Z (yU Z (gd g1 Z) Z (yS Z (zpF Z (gdl g1 Z) Z) (zM Z (yU Z Z Z (yU Z Z Z (yS Z (zpF Z Z Z) (zM Z (zN (zT (zr ?_))))))))));obtain rfl := zJ hr;exact zf (.one (.tmp Z)) zv
structure F150_L1 where
 t8 : Int
def F150_s1 (s : List Int) (v : Int) (x1 : F150_L1) : Option (F150_L1 ⊕ (F150_L1 ⊕ Int)) :=
 bif decide (x1.t8 < (s.length : Int)) then
  (ix s x1.t8).bind fun y1 =>
  bif v == y1 then
   some (.inr (.inr x1.t8))
  else
   some (.inl (F150_L1.mk (IntKind.i64.wrap (x1.t8 + 1))))
 else
  some (.inr (.inl (F150_L1.mk x1.t8)))
def F150 (s : List Int) (v : Int) : Option Int :=
 (iter (F150_s1 s v) big (F150_L1.mk 0)).bind fun b_v1 => Sum.elim (fun _ =>
  some (-1)) some b_v1
theorem c150 {s : List Int} {v : Int} {r_ : Int} (hr : F150 s v = some r_) : LPure Tryz.prog 80 [.slice 1 (s.map i64P), .int .i64 v] [.int .i64 r_] := by
 refine zh Tryz.func80 Z Z Z Z ?_;unfold F150 at hr;refine zQ (zR (zM Z (zN (zT (zQ (zQ (zR (zM Z (yS Z (zlM Z Z (by kernel_rfl)) (zM Z (zN (zT ?_))))))))))));obtain ⟨b_v1, hb_v1, ho_v1⟩ := zB hr;clear hr;refine LW.tailB (b := b_v1) (E := fun v1 => [(4, (iQ 0))]) (O := fun v1 => []) ?_ (fun v1 e_v1 env_v1 H_v1 hw_v1 => ?_)
 ·refine LW.block ?_;refine LW.iterB (E := fun x1 : F150_L1 => [(0, (kI s)), (1, (iQ v)), (4, (iQ 0)), (7, .p (.int .i64 (s.length : Int))), (8, (iQ x1.t8))]) (O := fun x1 => []) hb_v1 (zW 0 ⟨rfl, rfl, rfl, rfl, rfl, trivial⟩ Z Z Z Z) (fun x1 z_x1 hr hb_x1 => ?_);unfold F150_s1 at hr;refine zQ (zR (yS Z (zb2 Z Z Z Z) (zN (zT (zQ ?_)))));refine zX Z (fun g1 => ?_) (fun g1 => ?_)
  ·
   refine zi g1 hr fun hr => zk (zT (zQ (zl (zQ (zR (zM Z (zM Z (zN (zT (zQ (zR (zM Z (zM Z (zM Z (zb hr fun y1 h_y1 hr => yS Z (zx Z Z Z st49 h_y1 Z) (yS Z (zC2 Z Z Z vt3 Z Z) (yS Z (zb2 Z Z Z Z) (zN (zT ?_)))))))))))))))))));refine zX Z (fun g2 => ?_) (fun g2 => ?_)
   ·
    refine zi g2 hr fun hr => zQ (zR (zM Z (zM Z (zN (zT (zr (inBlk_r (thn_r (thn_r (inBlk_r (thn_r (thn_r ?_))))))))))));obtain rfl := zJ hr;have hr := congrArg some (hb_x1 _ rfl);obtain rfl := zJ hr;have hr := sum_r ho_v1;obtain rfl := zJ hr;exact zf (.one (.tmp Z)) zv
   ·
    refine zo g2 hr fun hr => zk (inBlk_n (zT (zR (yS Z (zb2 Z Z Z Z) (zM Z (zN (zT ?_)))))));obtain rfl := zJ hr;exact ⟨_, rfl, zW 0 ⟨rfl, rfl, rfl, rfl, rfl, trivial⟩ Z Z Z rfl⟩
  ·
   refine zo g1 hr fun hr => zq (thn_e (thn_e (zy (zT ?_))));obtain rfl := zJ hr;have hr := congrArg some (hb_x1 _ rfl);obtain rfl := zJ hr;exact ⟨_, rfl, zW 0 ⟨rfl, trivial⟩ Z Z Z rfl⟩
 ·obtain rfl := e_v1;have hr := sum_l ho_v1;clear hb_v1;refine zT (LW.weak hw_v1 (zQ (zR (zM Z (zN (zT (zr ?_)))))));obtain rfl := zJ hr;exact zf (.one (.tmp Z)) zv
def F119 (s : List Int) (v : Int) : Option Bool :=
 (F150 s v).bind fun v1 =>
 some (decide (v1 ≥ 0))
theorem c119 {s : List Int} {v : Int} {r_ : Bool} (hr : F119 s v = some r_) : LPure Tryz.prog 48 [.slice 1 (s.map i64P), .int .i64 v] [.bool r_] := by
 refine zh Tryz.func48 Z Z Z Z ?_;unfold F119 at hr;refine zQ (zR (zM Z (zN (zT (zQ (zR (zM Z (zM Z (zb hr fun v1 h_v1 hr => yS Z (zC Z Z Z (by kernel_rfl) (zp (c150 h_v1) (.cons zv (.cons zv .nil)))) (yS Z (zb2 Z Z Z Z) (zM Z (zN (zT (zr ?_))))))))))))));obtain rfl := zJ hr;exact zf (.one (.tmp Z)) zv
structure F76_L1 where
 i : Int
open Go.Proofs
theorem lenC_len : ∀ H : List LObj, lenC H = some H.length
 | [] => rfl
 | _ :: r => by unfold lenC; rw [lenC_len r]; rfl
theorem appC_app : ∀ (H : List LObj) (o : LObj), appC H o = some (H ++ [o])
 | [], _ => rfl
 | _ :: r, o => by unfold appC; rw [appC_app r o]; rfl
theorem c112 {c : Cf} {g : FuncId} {first caps : List LV} {H : List LObj} : LC Tryz.prog 105 [.p (cfP c), .fn g first caps] H (Is (.fn 145 [] [.cptr [.slice 1 (c.W.map i64P), .int .u64 c.Seed, .int .i64 c.Epoch, .int .i64 c.Num, .int .i64 c.Den], .fptr (.fn g first caps)]) H) := by
 refine LC.those Tryz.func105 Z Z Z ?_;refine LW.seq (LW.region (LOps.st Z Z Z (LOp.box Z Z Z (lenC_len _) (appC_app _ _)) (LOps.st Z Z Z (LOp.box Z Z Z (lenC_len _) (appC_app _ _)) (LOps.st Z Z Z (LOp.assign Z Z) (LOps.nil (thn_n (LW.seq (LW.region (LOps.st Z Z Z (LOp.makeFunc Z Z Z) (LOps.st Z Z Z (LOp.assign Z Z) (LOps.nil (thn_n (LW.ret ?_)))))))))))));refine ⟨.inr rfl, by simp, ?_⟩
 have h : ∀ n : Nat, n = H.length + 1 → ∀ {e : Env} {H2 : List LObj}, e.get 4 = some (.fn 145 [] [.ptr H.length 0, .ptr n 0]) → ResAll Tryz.prog e H2 Tryz.f105.results (.fn 145 [] [.ptr H.length 0, .ptr (H.length + 1) 0]) := by
  rintro n rfl e H2 he;exact .one (.tmp he)
 exact h _ (by simp) Z
open Go.Proofs
noncomputable def A116 : Code := rfA Tryz.f146.body
noncomputable def B116 : Code := rfB Tryz.f146.body
noncomputable def A147 : Code := rfA Tryz.f144.body
noncomputable def B147 : Code := rfB Tryz.f144.body
def F117 (i : Int) (_ : Cf) (m : List (Int × Bool)) : Option Bool :=
 some ((findE m i).getD false)
theorem cF117 {i : Int} {c : Cf} {m : List (Int × Bool)} {r_ : Bool} (hr : F117 i c m = some r_) : LC Tryz.prog 147 [(iQ i), .ptr 2 0] [.box (cfO c), .map (entsOf i64P (fun v => (bQ v)) m), .box [.map 1]] (Is (bQ r_) [.box (cfO c), .map (entsOf i64P (fun v => (bQ v)) m), .box [.map 1]]) := by
 refine zh2 Tryz.func147 Z Z Z ?_;unfold F117 at hr;refine zQ (zR (zM Z (zN (zT (zQ (zR (yS Z (zD Z Z Z vt132 Z Z) (zM Z ?_))))))));refine yS Z (LOp.getX (f := i64P) (g := (fun v => (bQ v))) i false i64Key Z Z Z Z mt132 zl4 Z Z) ?_;refine zM Z (zN (zT (zr ?_)));obtain rfl := zJ hr;exact fin_ret (.one (.tmp Z)) (⟨rfl, rfl⟩)
theorem y116W {c : Cf} {m : List (Int × Bool)} {n i y : Int} {o : Oper} {env : Env} {fo xo : Operand} {ats : Array TypeId} (ho : o.op = .call { callee := .value fo, args := #[xo], argTypes := ats }) (hf : lev env fo = some (.yld 6)) (hx : lev env xo = some (iQ i)) (h : ix c.W i = some y) :
  LOpI Tryz.prog o env [.box (cfO c), .map (entsOf i64P (fun v => (bQ v)) m), .box [.map 1], .box (cfO c), .box [(iQ n)], .defd, .loop false 21 [(2, .ptr 3 0), (4, (iQ 0)), (5, .ptr 4 0), (11, .fn 145 [] [.cptr [.slice 1 (c.W.map i64P), .int .u64 c.Seed, .int .i64 c.Epoch, .int .i64 c.Num, .int .i64 c.Den], .fptr (.fn 147 [] [.ptr 2 0])])] #[12] A116 B116] (Is (bQ true) [.box (cfO c), .map (entsOf i64P (fun v => (bQ v)) m), .box [.map 1], .box (cfO c), .box [.p (.int .i64 (IntKind.i64.wrap (n + y)))], .defd, .loop false 21 [(2, .ptr 3 0), (4, (iQ 0)), (5, .ptr 4 0), (11, .fn 145 [] [.cptr [.slice 1 (c.W.map i64P), .int .u64 c.Seed, .int .i64 c.Epoch, .int .i64 c.Num, .int .i64 c.Den], .fptr (.fn 147 [] [.ptr 2 0])])] #[12] A116 B116]) := by
 refine LOpI.yield (env2 := (6, (iQ i)) :: (12, (iQ i)) :: [(2, .ptr 3 0), (4, (iQ 0)), (5, .ptr 4 0), (11, .fn 145 [] [.cptr [.slice 1 (c.W.map i64P), .int .u64 c.Seed, .int .i64 c.Epoch, .int .i64 c.Num, .int .i64 c.Den], .fptr (.fn 147 [] [.ptr 2 0])])]) (H2 := [.box (cfO c), .map (entsOf i64P (fun v => (bQ v)) m), .box [.map 1], .box (cfO c), .box [.p (.int .i64 (IntKind.i64.wrap (n + y)))], .defd, .loop true 21 [(2, .ptr 3 0), (4, (iQ 0)), (5, .ptr 4 0), (11, .fn 145 [] [.cptr [.slice 1 (c.W.map i64P), .int .u64 c.Seed, .int .i64 c.Epoch, .int .i64 c.Num, .int .i64 c.Den], .fptr (.fn 147 [] [.ptr 2 0])])] #[12] A116 B116]) ho hf hx Z Z (by kernel_rfl) (by kernel_rfl) Z (LRg.plain ?_) ?_ Z Z
 ·refine yS Z (za Z Z) ?_;exact zN ⟨rfl, rfl, rfl⟩
 ·refine LRg.drawLast (m := 7) (by kernel_rfl) (by kernel_rfl) (by kernel_rfl) ?_;exact yE Z (zD Z Z Z vt3 Z Z) (yE Z (zA Z Z ft55_0) (yE Z (zD Z Z Z vt49 Z Z) (zH Z (yE Z (zx Z Z Z st49 h Z) (yE Z (zC2 Z Z Z vt3 Z Z) (yE Z (zb2 Z Z Z Z) (LO.nil (yS Z (zs Z Z Z Z vt3 Z Z Z Z) (zN (⟨rfl, rfl⟩))))))))))
structure F148W_L1 where
 t8 : Int
 o4_0 : Int
def F148W_s1 (c : Cf) (m : List (Int × Bool)) (x1 : F148W_L1) : Option (F148W_L1 ⊕ F148W_L1) :=
 bif decide (x1.t8 < (c.W.length : Int)) then
  (F117 x1.t8 c m).bind fun v2 =>
  bif v2 then
   (ix c.W x1.t8).bind fun y1 =>
   some (.inl (F148W_L1.mk (IntKind.i64.wrap (x1.t8 + 1)) (IntKind.i64.wrap (x1.o4_0 + y1))))
  else
   some (.inl (F148W_L1.mk (IntKind.i64.wrap (x1.t8 + 1)) x1.o4_0))
 else
  some (.inr (F148W_L1.mk x1.t8 x1.o4_0))
def F148W (c : Cf) (m : List (Int × Bool)) (n : Int) : Option Int :=
 (iter (F148W_s1 c m) big (F148W_L1.mk 0 n)).bind fun v1 =>
 some v1.o4_0
theorem cF148W {c : Cf} {m : List (Int × Bool)} {n : Int} {r_ : Int} (hr : F148W c m n = some r_) : LC Tryz.prog 145 [.yld 6, .cptr [.slice 1 (c.W.map i64P), .int .u64 c.Seed, .int .i64 c.Epoch, .int .i64 c.Num, .int .i64 c.Den], .fptr (.fn 147 [] [.ptr 2 0])] [.box (cfO c), .map (entsOf i64P (fun v => (bQ v)) m), .box [.map 1], .box (cfO c), .box [(iQ n)], .defd, .loop false 21 [(2, .ptr 3 0), (4, (iQ 0)), (5, .ptr 4 0), (11, .fn 145 [] [.cptr [.slice 1 (c.W.map i64P), .int .u64 c.Seed, .int .i64 c.Epoch, .int .i64 c.Num, .int .i64 c.Den], .fptr (.fn 147 [] [.ptr 2 0])])] #[12] A116 B116] (Is (.tup []) [.box (cfO c), .map (entsOf i64P (fun v => (bQ v)) m), .box [.map 1], .box (cfO c), .box [(iQ r_)], .defd, .loop false 21 [(2, .ptr 3 0), (4, (iQ 0)), (5, .ptr 4 0), (11, .fn 145 [] [.cptr [.slice 1 (c.W.map i64P), .int .u64 c.Seed, .int .i64 c.Epoch, .int .i64 c.Num, .int .i64 c.Den], .fptr (.fn 147 [] [.ptr 2 0])])] #[12] A116 B116]) := by
 refine zh2 Tryz.func145 Z Z Z ?_;unfold F148W at hr;refine zQ (zR (yS Z (LOp.fieldAddrC Z Z ft55_0 Z) (yS Z (zC2 Z Z Z vt49 Z Z) (yS Z (zlM Z Z (by kernel_rfl)) (zM Z (zN (zT ?_)))))));obtain ⟨v1, hb_v1, ho_v1⟩ := zB hr;clear hr;refine LW.tail (E := []) (O := [.box (cfO c), .map (entsOf i64P (fun v => (bQ v)) m), .box [.map 1], .box (cfO c), .box [(iQ v1.o4_0)], .defd, .loop false 21 [(2, .ptr 3 0), (4, (iQ 0)), (5, .ptr 4 0), (11, .fn 145 [] [.cptr [.slice 1 (c.W.map i64P), .int .u64 c.Seed, .int .i64 c.Epoch, .int .i64 c.Num, .int .i64 c.Den], .fptr (.fn 147 [] [.ptr 2 0])])] #[12] A116 B116]) ?_ (fun env_v1 H_v1 hw_v1 => ?_)
 ·refine LW.block ?_;refine LW.iterB (E := fun x1 : F148W_L1 => [(0, .yld 6), (2, .fptr (.fn 147 [] [.ptr 2 0])), (7, .p (.int .i64 (c.W.length : Int))), (8, (iQ x1.t8))]) (O := fun x1 => [.box (cfO c), .map (entsOf i64P (fun v => (bQ v)) m), .box [.map 1], .box (cfO c), .box [(iQ x1.o4_0)], .defd, .loop false 21 [(2, .ptr 3 0), (4, (iQ 0)), (5, .ptr 4 0), (11, .fn 145 [] [.cptr [.slice 1 (c.W.map i64P), .int .u64 c.Seed, .int .i64 c.Epoch, .int .i64 c.Num, .int .i64 c.Den], .fptr (.fn 147 [] [.ptr 2 0])])] #[12] A116 B116]) hb_v1 (zW 7 ⟨rfl, rfl, rfl, rfl, trivial⟩ Z Z Z (zL Z (zL (entsLow (fun _ => rfl) _) (zL Z (zL Z (zL Z (zL Z (zL Z Z)))))))) (fun x1 z_x1 hr hb_x1 => ?_);unfold F148W_s1 at hr;refine zQ (zR (yS Z (zb2 Z Z Z Z) (zN (zT (zQ ?_)))));refine zX Z (fun g1 => ?_) (fun g1 => ?_)
  ·
   refine zi g1 hr fun hr => zk (zT (zQ (zl (zQ (zR (zM Z (zM Z (zN (zT (zQ (LW.regionI (LOpsI.st Z Z Z (LOpI.of (LOp.loadF Z Z vt131) Z) (LOpsI.st Z Z Z (LOpI.of (zm Z Z) Z) (zb hr fun v2 h_v2 hr => ?_))))))))))))));refine LOpsI.st Z Z Z (LOpI.of (zC Z Z Z (by kernel_rfl) (LC.pre (cF117 h_v2) Z (zL Z (zL (entsLow (fun _ => rfl) _) (zL Z Z))) Z)) Z) ?_;refine LOpsI.st Z Z Z (LOpI.of (LOp.move Z Z) Z) ?_;refine LOpsI.cases 14 Z (fun (g2 : v2 = true) => ?_) (fun (g2 : v2 = false) => ?_)
   ·
    refine zi g2 hr fun hr => LOpsI.gd Z Z Z (gd g2 Z) Z (LOpI.of (zm Z Z) Z) (LOpsI.gd Z Z Z (gd g2 Z) Z (LOpI.of (zm Z Z) Z) (zb hr fun y1 h_y1 hr => LOpsI.gd Z Z Z (gd g2 Z) Z (y116W Z Z Z h_y1) (LOpsI.gd Z Z Z (gd g2 Z) Z (LOpI.of (LOp.not Z Z) Z) (LOpsI.st Z Z Z (LOpI.of (zpT Z (gdl g2 Z) Z) Z) (LOpsI.nil (zT (LW.condF Z (zk (inBlk_n (zT (zR (yS Z (zb2 Z Z Z Z) (zM Z (zN (zT ?_)))))))))))))));obtain rfl := zJ hr;exact ⟨_, rfl, zW 7 ⟨rfl, rfl, rfl, rfl, trivial⟩ Z Z Z (zL Z (zL (entsLow (fun _ => rfl) _) (zL Z (zL Z (zL Z (zL Z (zL Z Z)))))))⟩
   ·
    refine zo g2 hr fun hr => LOpsI.sk Z Z Z (gd g2 Z) Z Z (LOpsI.sk Z Z Z (gd g2 Z) Z Z (LOpsI.sk Z Z Z (gd g2 Z) Z Z (LOpsI.sk Z Z Z (gd g2 Z) Z Z (LOpsI.st Z Z Z (LOpI.of (zpF Z (gdl g2 Z) Z) Z) (LOpsI.nil (zT (LW.condF Z (zk (inBlk_n (zT (zR (yS Z (zb2 Z Z Z Z) (zM Z (zN (zT ?_)))))))))))))));obtain rfl := zJ hr;exact ⟨_, rfl, zW 7 ⟨rfl, rfl, rfl, rfl, trivial⟩ Z Z Z (zL Z (zL (entsLow (fun _ => rfl) _) (zL Z (zL Z (zL Z (zL Z (zL Z Z)))))))⟩
  ·
   refine zo g1 hr fun hr => zq (thn_e (thn_e (zy (zT ?_))));obtain rfl := zJ hr;have hr := congrArg some (hb_x1 _ rfl);obtain rfl := zJ hr;exact zW 7 trivial Z Z Z (zL Z (zL (entsLow (fun _ => rfl) _) (zL Z (zL Z (zL Z (zL Z (zL Z Z)))))))
 ·have hr := ho_v1;clear hb_v1;obtain rfl := zJ hr;exact fin_endW hw_v1 .none ⟨rfl, rfl⟩
def F116W (c : Cf) (m : List (Int × Bool)) : Option Int :=
 (F64 c).bind fun v1 =>
 bif !v1 then
  some 0
 else
  (F148W c m 0).bind fun v2 =>
  some v2
theorem cF116W {c : Cf} {m : List (Int × Bool)} {r_ : Int} (hr : F116W c m = some r_) : LC Tryz.prog 146 [.p (cfP c), .fn 145 [] [.cptr [.slice 1 (c.W.map i64P), .int .u64 c.Seed, .int .i64 c.Epoch, .int .i64 c.Num, .int .i64 c.Den], .fptr (.fn 147 [] [.ptr 2 0])]] [.box (cfO c), .map (entsOf i64P (fun v => (bQ v)) m), .box [.map 1]] (Is (iQ r_) [.box (cfO c), .map (entsOf i64P (fun v => (bQ v)) m), .box [.map 1]]) := by
 refine LC.ofM Tryz.func146 Z Z Z ?_;unfold F116W at hr;refine LWm.seqW (zR (yS Z (zbx Z Z Z Z Z) (zM Z (zN (zT (LWm.seqW (zR (yS Z (ze Z zt3 Z Z) (yS Z (zs Z Z Z Z vt3 Z Z Z Z) (zN (zT (LWm.seqW (zQ (zR (yS Z (zD Z Z Z vt55 Z Z) (zb hr fun v1 h_v1 hr => yS Z (zC Z Z Z (by kernel_rfl) (zp (c64 h_v1) (.cons zv .nil))) (yS Z (LOp.not Z Z) (zN (zT ?_)))))))))))))))))));refine zX Z (fun g1 => ?_) (fun g1 => ?_)
 ·
  refine zi g1 hr fun hr => zQ (zR (yS Z (zD Z Z Z vt3 Z Z) (zM Z (zN (zT (zr (thn_r ?_)))))));obtain rfl := zJ hr;refine fin_retW (env' := [(4, (iQ 0))]) (H' := [.box (cfO c), .map (entsOf i64P (fun v => (bQ v)) m), .box [.map 1]]) (zW 3 ⟨rfl, trivial⟩ Z Z Z (zL Z (zL (entsLow (fun _ => rfl) _) (zL Z Z)))) (.one (.tmp Z)) ?_;exact ⟨rfl, rfl⟩
 ·
  refine zo g1 hr fun hr => zk (zT (LWm.seq (LWm.seqW (zR (zM Z (zN (zT ?_)))))));refine LWm.weak (env' := [(2, .ptr 3 0), (4, (iQ 0)), (5, .ptr 4 0), (11, .fn 145 [] [.cptr [.slice 1 (c.W.map i64P), .int .u64 c.Seed, .int .i64 c.Epoch, .int .i64 c.Num, .int .i64 c.Den], .fptr (.fn 147 [] [.ptr 2 0])])]) (H' := [.box (cfO c), .map (entsOf i64P (fun v => (bQ v)) m), .box [.map 1], .box (cfO c), .box [(iQ 0)]]) (zW 5 ⟨rfl, rfl, rfl, rfl, trivial⟩ Z Z Z (zL Z (zL (entsLow (fun _ => rfl) _) (zL Z (zL Z (zL Z Z)))))) ?_;refine LWm.block (zb hr fun v2 h_v2 hr => LWm.rangeFunc Z (by kernel_rfl) Z (cF148W h_v2) Z Z Z ?_);refine ⟨rfl, ?_⟩;refine thnM_n (LWm.seq (LWm.region (LOpsM.st Z Z Z (zD Z Z Z vt3 Z Z) Z (LOpsM.st Z Z Z (za Z Z) Z (LOpsM.nil (thnM_n (LWm.ret ?_)))))));obtain rfl := zJ hr;exact ⟨.inr rfl, _, [(4, (iQ v2))], [.box (cfO c), .map (entsOf i64P (fun v => (bQ v)) m), .box [.map 1]], _, rfl, zW 3 ⟨rfl, trivial⟩ Z Z Z (zL Z (zL (entsLow (fun _ => rfl) _) (zL Z Z))), (.one (.tmp Z)), ⟨rfl, rfl⟩⟩
open Go.Proofs
def F113 (i : Int) (c : Cf) (slot : Int) (at_ : List Int) : Option Bool :=
 (ix at_ i).bind fun y1 =>
 bif decide (c.Epoch ≠ 0) then
  bif decide (c.Epoch ≠ 0) then
   some ((y1.tmod c.Epoch) == (slot.tmod c.Epoch))
  else none
 else none
theorem cF113 {i : Int} {c : Cf} {slot : Int} {at_ : List Int} {r_ : Bool} (hr : F113 i c slot at_ = some r_) : LC Tryz.prog 106 [(iQ i), .ptr 2 0, .ptr 0 0, .ptr 1 0] [.box (cfO c), .box [(iQ slot)], .box [(kI at_)]] (Is (bQ r_) [.box (cfO c), .box [(iQ slot)], .box [(kI at_)]]) := by
 refine zh2 Tryz.func106 Z Z Z ?_;unfold F113 at hr;refine zQ (zR (zM Z (zN (zT (zQ (LW.draw2 (by kernel_rfl) (by kernel_rfl) (yE Z (zD Z Z Z vt49 Z Z) (zH Z (zb hr fun y1 h_y1 hr => yE Z (zx Z Z Z st49 h_y1 Z) (yE Z (zC2 Z Z Z vt3 Z Z) (yE Z (zA Z Z ft55_2) (yE Z (zD Z Z Z vt3 Z Z) (zg hr fun q1 hr => yE Z (LOp.rem Z Z Z (of_decide_eq_true q1)) (yE Z (zD Z Z Z vt3 Z Z) (yE Z (zA Z Z ft55_2) (yE Z (zD Z Z Z vt3 Z Z) (zg hr fun q2 hr => yE Z (LOp.rem Z Z Z (of_decide_eq_true q2)) (yE Z (zb2 Z Z Z Z) (zH Z (LO.nil ?_))))))))))))))))))));refine zT (zr ?_);obtain rfl := zJ hr;exact fin_ret (.one (.tmp Z)) (⟨rfl, rfl⟩)
theorem y147C {c : Cf} {slot : Int} {at_ : List Int} {l : List Int} {i : Int} {o : Oper} {env : Env} {fo xo : Operand} {ats : Array TypeId} (ho : o.op = .call { callee := .value fo, args := #[xo], argTypes := ats }) (hf : lev env fo = some (.yld 6)) (hx : lev env xo = some (iQ i)) (q : room l.length [i].length 8 = true) :
  LOpI Tryz.prog o env [.box (cfO c), .box [(iQ slot)], .box [(kI at_)], .box [(jI 4 l)], .vec 1 (l.map i64P), .defd, .loop false 13 [(2, .ptr 3 0), (4, .zs), (6, .fn 145 [] [.cptr [.slice 1 (c.W.map i64P), .int .u64 c.Seed, .int .i64 c.Epoch, .int .i64 c.Num, .int .i64 c.Den], .fptr (.fn 106 [] [.ptr 2 0, .ptr 0 0, .ptr 1 0])])] #[7] A147 B147] (Is (bQ true) [.box (cfO c), .box [(iQ slot)], .box [(kI at_)], .box [.vec 1 4 ((l ++ [i]).map i64P).length 0 ((l ++ [i]).map i64P).length], .vec 1 ((l ++ [i]).map i64P), .defd, .loop false 13 [(2, .ptr 3 0), (4, .zs), (6, .fn 145 [] [.cptr [.slice 1 (c.W.map i64P), .int .u64 c.Seed, .int .i64 c.Epoch, .int .i64 c.Num, .int .i64 c.Den], .fptr (.fn 106 [] [.ptr 2 0, .ptr 0 0, .ptr 1 0])])] #[7] A147 B147]) := by
 refine LOpI.yield (env2 := (5, (iQ i)) :: (7, (iQ i)) :: [(2, .ptr 3 0), (4, .zs), (6, .fn 145 [] [.cptr [.slice 1 (c.W.map i64P), .int .u64 c.Seed, .int .i64 c.Epoch, .int .i64 c.Num, .int .i64 c.Den], .fptr (.fn 106 [] [.ptr 2 0, .ptr 0 0, .ptr 1 0])])]) (H2 := [.box (cfO c), .box [(iQ slot)], .box [(kI at_)], .box [.vec 1 4 ((l ++ [i]).map i64P).length 0 ((l ++ [i]).map i64P).length], .vec 1 ((l ++ [i]).map i64P), .defd, .loop true 13 [(2, .ptr 3 0), (4, .zs), (6, .fn 145 [] [.cptr [.slice 1 (c.W.map i64P), .int .u64 c.Seed, .int .i64 c.Epoch, .int .i64 c.Num, .int .i64 c.Den], .fptr (.fn 106 [] [.ptr 2 0, .ptr 0 0, .ptr 1 0])])] #[7] A147 B147]) ho hf hx Z Z (by kernel_rfl) (by kernel_rfl) Z (LRg.plain ?_) (LRg.plain ?_) Z Z
 ·refine yS Z (za Z Z) ?_;exact zN ⟨rfl, rfl, rfl⟩
 ·refine yS Z (zD Z Z Z vt49 Z Z) ?_;exact zM Z (yS Z (zB2 Z st49 Z Z Z Z Z) (yS Z (LOp.appendX i64P l [i] rfl Z Z Z Src.p Z st49 q Z) (yS Z (zs Z Z Z Z vt49 Z Z Z Z) (zN (⟨rfl, rfl⟩)))))
structure F148C_L1 where
 t8 : Int
 o4 : List Int
def F148C_s1 (c : Cf) (slot : Int) (at_ : List Int) (x1 : F148C_L1) : Option (F148C_L1 ⊕ F148C_L1) :=
 bif decide (x1.t8 < (c.W.length : Int)) then
  (F113 x1.t8 c slot at_).bind fun v2 =>
  bif v2 then
   bif room x1.o4.length [x1.t8].length 8 then
    some (.inl (F148C_L1.mk (IntKind.i64.wrap (x1.t8 + 1)) (x1.o4 ++ [x1.t8])))
   else none
  else
   some (.inl (F148C_L1.mk (IntKind.i64.wrap (x1.t8 + 1)) x1.o4))
 else
  some (.inr (F148C_L1.mk x1.t8 x1.o4))
def F148C (c : Cf) (slot : Int) (at_ : List Int) (l : List Int) : Option (List Int) :=
 (iter (F148C_s1 c slot at_) big (F148C_L1.mk 0 l)).bind fun v1 =>
 some v1.o4
theorem cF148C {c : Cf} {slot : Int} {at_ : List Int} {l : List Int} {r_ : List Int} (hr : F148C c slot at_ l = some r_) : LC Tryz.prog 145 [.yld 6, .cptr [.slice 1 (c.W.map i64P), .int .u64 c.Seed, .int .i64 c.Epoch, .int .i64 c.Num, .int .i64 c.Den], .fptr (.fn 106 [] [.ptr 2 0, .ptr 0 0, .ptr 1 0])] [.box (cfO c), .box [(iQ slot)], .box [(kI at_)], .box [(jI 4 l)], .vec 1 (l.map i64P), .defd, .loop false 13 [(2, .ptr 3 0), (4, .zs), (6, .fn 145 [] [.cptr [.slice 1 (c.W.map i64P), .int .u64 c.Seed, .int .i64 c.Epoch, .int .i64 c.Num, .int .i64 c.Den], .fptr (.fn 106 [] [.ptr 2 0, .ptr 0 0, .ptr 1 0])])] #[7] A147 B147] (Is (.tup []) [.box (cfO c), .box [(iQ slot)], .box [(kI at_)], .box [(jI 4 r_)], .vec 1 (r_.map i64P), .defd, .loop false 13 [(2, .ptr 3 0), (4, .zs), (6, .fn 145 [] [.cptr [.slice 1 (c.W.map i64P), .int .u64 c.Seed, .int .i64 c.Epoch, .int .i64 c.Num, .int .i64 c.Den], .fptr (.fn 106 [] [.ptr 2 0, .ptr 0 0, .ptr 1 0])])] #[7] A147 B147]) := by
 refine zh2 Tryz.func145 Z Z Z ?_;unfold F148C at hr;refine zQ (zR (yS Z (LOp.fieldAddrC Z Z ft55_0 Z) (yS Z (zC2 Z Z Z vt49 Z Z) (yS Z (zlM Z Z (by kernel_rfl)) (zM Z (zN (zT ?_)))))));obtain ⟨v1, hb_v1, ho_v1⟩ := zB hr;clear hr;refine LW.tail (E := []) (O := [.box (cfO c), .box [(iQ slot)], .box [(kI at_)], .box [(jI 4 v1.o4)], .vec 1 (v1.o4.map i64P), .defd, .loop false 13 [(2, .ptr 3 0), (4, .zs), (6, .fn 145 [] [.cptr [.slice 1 (c.W.map i64P), .int .u64 c.Seed, .int .i64 c.Epoch, .int .i64 c.Num, .int .i64 c.Den], .fptr (.fn 106 [] [.ptr 2 0, .ptr 0 0, .ptr 1 0])])] #[7] A147 B147]) ?_ (fun env_v1 H_v1 hw_v1 => ?_)
 ·refine LW.block ?_;refine LW.iterB (E := fun x1 : F148C_L1 => [(0, .yld 6), (2, .fptr (.fn 106 [] [.ptr 2 0, .ptr 0 0, .ptr 1 0])), (7, .p (.int .i64 (c.W.length : Int))), (8, (iQ x1.t8))]) (O := fun x1 => [.box (cfO c), .box [(iQ slot)], .box [(kI at_)], .box [(jI 4 x1.o4)], .vec 1 (x1.o4.map i64P), .defd, .loop false 13 [(2, .ptr 3 0), (4, .zs), (6, .fn 145 [] [.cptr [.slice 1 (c.W.map i64P), .int .u64 c.Seed, .int .i64 c.Epoch, .int .i64 c.Num, .int .i64 c.Den], .fptr (.fn 106 [] [.ptr 2 0, .ptr 0 0, .ptr 1 0])])] #[7] A147 B147]) hb_v1 (zW 7 ⟨rfl, rfl, rfl, rfl, trivial⟩ Z Z Z Z) (fun x1 z_x1 hr hb_x1 => ?_);unfold F148C_s1 at hr;refine zQ (zR (yS Z (zb2 Z Z Z Z) (zN (zT (zQ ?_)))));refine zX Z (fun g1 => ?_) (fun g1 => ?_)
  ·
   refine zi g1 hr fun hr => zk (zT (zQ (zl (zQ (zR (zM Z (zM Z (zN (zT (zQ (LW.regionI (LOpsI.st Z Z Z (LOpI.of (LOp.loadF Z Z vt131) Z) (LOpsI.st Z Z Z (LOpI.of (zm Z Z) Z) (zb hr fun v2 h_v2 hr => LOpsI.st Z Z Z (LOpI.of (zC Z Z Z (by kernel_rfl) (LC.pre (cF113 h_v2) Z Z Z)) Z) (LOpsI.st Z Z Z (LOpI.of (zm Z Z) Z) ?_)))))))))))))));refine LOpsI.cases 14 Z (fun (g2 : v2 = true) => ?_) (fun (g2 : v2 = false) => ?_)
   ·
    refine zi g2 hr fun hr => LOpsI.gd Z Z Z (gd g2 Z) Z (LOpI.of (zm Z Z) Z) (LOpsI.gd Z Z Z (gd g2 Z) Z (LOpI.of (zm Z Z) Z) (zg hr fun q1 hr => LOpsI.gd Z Z Z (gd g2 Z) Z (y147C Z Z Z q1) (LOpsI.gd Z Z Z (gd g2 Z) Z (LOpI.of (LOp.not Z Z) Z) (LOpsI.st Z Z Z (LOpI.of (zpT Z (gdl g2 Z) Z) Z) (LOpsI.nil (zT (LW.condF Z (zk (inBlk_n (zT (zR (yS Z (zb2 Z Z Z Z) (zM Z (zN (zT ?_)))))))))))))));obtain rfl := zJ hr;exact ⟨_, rfl, zW 7 ⟨rfl, rfl, rfl, rfl, trivial⟩ Z Z Z rfl⟩
   ·
    refine zo g2 hr fun hr => LOpsI.sk Z Z Z (gd g2 Z) Z Z (LOpsI.sk Z Z Z (gd g2 Z) Z Z (LOpsI.sk Z Z Z (gd g2 Z) Z Z (LOpsI.sk Z Z Z (gd g2 Z) Z Z (LOpsI.st Z Z Z (LOpI.of (zpF Z (gdl g2 Z) Z) Z) (LOpsI.nil (zT (LW.condF Z (zk (inBlk_n (zT (zR (yS Z (zb2 Z Z Z Z) (zM Z (zN (zT ?_)))))))))))))));obtain rfl := zJ hr;exact ⟨_, rfl, zW 7 ⟨rfl, rfl, rfl, rfl, trivial⟩ Z Z Z rfl⟩
  ·
   refine zo g1 hr fun hr => zq (thn_e (thn_e (zy (zT ?_))));obtain rfl := zJ hr;have hr := congrArg some (hb_x1 _ rfl);obtain rfl := zJ hr;exact zW 7 trivial Z Z Z Z
 ·have hr := ho_v1;clear hb_v1;obtain rfl := zJ hr;exact fin_endW hw_v1 .none ⟨rfl, rfl⟩
def F147C (c : Cf) (slot : Int) (at_ : List Int) : Option (List Int) :=
 (F148C c slot at_ []).bind fun v1 =>
 some v1
theorem cF147C {c : Cf} {slot : Int} {at_ : List Int} {r_ : List Int} (hr : F147C c slot at_ = some r_) : LC Tryz.prog 144 [.zs, .fn 145 [] [.cptr [.slice 1 (c.W.map i64P), .int .u64 c.Seed, .int .i64 c.Epoch, .int .i64 c.Num, .int .i64 c.Den], .fptr (.fn 106 [] [.ptr 2 0, .ptr 0 0, .ptr 1 0])]] [.box (cfO c), .box [(iQ slot)], .box [(kI at_)]] (Is (jI 4 r_) [.box (cfO c), .box [(iQ slot)], .box [(kI at_)], .box [(jI 4 r_)], .vec 1 (r_.map i64P), .dead, .dead]) := by
 refine LC.ofM Tryz.func144 Z Z Z ?_;unfold F147C at hr;refine LWm.seqW (zR (yS Z (zbx Z Z Z Z Z) (zM Z (zN (zT (LWm.seq (LWm.seqW (zR (zM Z (zN (zT (LWm.ent (Ent.lazyCell (i := 3) (j := 0) (m := 1) Z Z Z Z Z Z) (LWm.weak (env' := [(2, .ptr 3 0), (4, .zs), (6, .fn 145 [] [.cptr [.slice 1 (c.W.map i64P), .int .u64 c.Seed, .int .i64 c.Epoch, .int .i64 c.Num, .int .i64 c.Den], .fptr (.fn 106 [] [.ptr 2 0, .ptr 0 0, .ptr 1 0])])]) (H' := [.box (cfO c), .box [(iQ slot)], .box [(kI at_)], .box [(jI 4 ([] : List Int))], .vec 1 (([] : List Int).map i64P)]) (zW 5 ⟨rfl, rfl, rfl, trivial⟩ Z Z Z Z) (LWm.block (zb hr fun v1 h_v1 hr => LWm.rangeFunc Z (by kernel_rfl) Z (cF148C h_v1) Z Z Z ?_)))))))))))))));refine ⟨rfl, ?_⟩;refine thnM_n (LWm.seq (LWm.region (LOpsM.st Z Z Z (zD Z Z Z vt49 Z Z) Z (LOpsM.st Z Z Z (za Z Z) Z (LOpsM.nil (thnM_n (LWm.ret ?_)))))));obtain rfl := zJ hr;exact ⟨.inr rfl, _, [(4, (jI 4 v1))], [.box (cfO c), .box [(iQ slot)], .box [(kI at_)], .box [(jI 4 v1)], .vec 1 (v1.map i64P), .dead, .dead], _, rfl, zW 7 ⟨rfl, trivial⟩ Z Z Z rfl, (.one (.tmp Z)), ⟨rfl, rfl⟩⟩
def F111C (c : Cf) (slot : Int) (at_ : List Int) : Option (List Int) :=
 (F147C c slot at_).bind fun v1 =>
 some v1
theorem cF111C {c : Cf} {slot : Int} {at_ : List Int} {r_ : List Int} (hr : F111C c slot at_ = some r_) : LC Tryz.prog 104 [.fn 145 [] [.cptr [.slice 1 (c.W.map i64P), .int .u64 c.Seed, .int .i64 c.Epoch, .int .i64 c.Num, .int .i64 c.Den], .fptr (.fn 106 [] [.ptr 2 0, .ptr 0 0, .ptr 1 0])]] [.box (cfO c), .box [(iQ slot)], .box [(kI at_)]] (Is (jI 4 r_) [.box (cfO c), .box [(iQ slot)], .box [(kI at_)], .box [(jI 4 r_)], .vec 1 (r_.map i64P), .dead, .dead]) := by
 refine zh2 Tryz.func104 Z Z Z ?_;unfold F111C at hr;refine zQ (zR (zM Z (zN (zT (zQ (zR (zM Z (zb hr fun v1 h_v1 hr => yS Z (zC Z Z Z (by kernel_rfl) (cF147C h_v1)) (zM Z (zN (zT (zr ?_))))))))))));obtain rfl := zJ hr;exact fin_ret (.one (.tmp Z)) (⟨rfl, rfl⟩)
open Go.Proofs
open Go.Proofs
open Go.Proofs
structure F70_L1 where
 t11 : Int
 o1 : List (Int × Bool)
def F70_s1 (l : List Int) (x1 : F70_L1) : Option (F70_L1 ⊕ F70_L1) :=
 bif decide (x1.t11 < (l.length : Int)) then
  (ix l x1.t11).bind fun y1 =>
  some (.inl (F70_L1.mk (IntKind.i64.wrap (x1.t11 + 1)) (setE x1.o1 y1 true)))
 else
  some (.inr (F70_L1.mk x1.t11 x1.o1))
def F70 (c : Cf) (l : List Int) : Option Int :=
 (iter (F70_s1 l) big (F70_L1.mk 0 ([] : List (Int × Bool)))).bind fun v1 =>
 (F116W c v1.o1).bind fun v2 =>
 some v2
theorem c70 {c : Cf} {l : List Int} {r_ : Int} (hr : F70 c l = some r_) : LPure Tryz.prog 109 [cfP c, .slice 1 (l.map i64P)] [.int .i64 r_] := by
 refine zh Tryz.func109 Z Z Z Z ?_;unfold F70 at hr;refine zQ (zR (yS Z (zbx Z Z Z Z Z) (zM Z (zN (zT (zQ (zR (yS Z (LOp.makeMap Z Z Z) (yS Z (ze Z zt132 Z Z) (yS Z (zs Z Z Z Z vt132 Z Z Z Z) (zN (zT (zQ (zQ (zR (zM Z (yS Z (zlM Z Z (by kernel_rfl)) (zM Z (zN (zT ?_))))))))))))))))))));obtain ⟨v1, hb_v1, ho_v1⟩ := zB hr;clear hr;refine LW.tail (E := [(2, .ptr 0 0), (4, (iQ 0)), (5, .ptr 2 0)]) (O := [.box (cfO c), .map (entsOf i64P (fun v => (bQ v)) v1.o1), .box [.map 1]]) ?_ (fun env_v1 H_v1 hw_v1 => ?_)
 ·refine LW.block ?_;refine LW.iterB (E := fun x1 : F70_L1 => [(2, .ptr 0 0), (4, (iQ 0)), (5, .ptr 2 0), (9, (kI l)), (10, .p (.int .i64 (l.length : Int))), (11, (iQ x1.t11))]) (O := fun x1 => [.box (cfO c), .map (entsOf i64P (fun v => (bQ v)) x1.o1), .box [.map 1]]) hb_v1 (zW 3 ⟨rfl, rfl, rfl, rfl, rfl, rfl, trivial⟩ Z Z Z (zL Z (zL (entsLow (fun _ => rfl) _) (zL Z Z)))) (fun x1 z_x1 hr hb_x1 => ?_);unfold F70_s1 at hr;refine zQ (zR (yS Z (zb2 Z Z Z Z) (zN (zT (zQ ?_)))));refine zX Z (fun g1 => ?_) (fun g1 => ?_)
  ·
   refine zi g1 hr fun hr => zk (zT (zQ (zl (zQ (zR (zb hr fun y1 h_y1 hr => yS Z (zx Z Z Z st49 h_y1 Z) (yS Z (zC2 Z Z Z vt3 Z Z) (zM Z (zN (zT (zR (yS Z (zD Z Z Z vt132 Z Z) (zM Z ?_)))))))))))));refine yS Z (LOp.setX (f := i64P) (g := (fun v => (bQ v))) y1 true i64Key (.inl Z) Z Z Z Z Z mt132 Z) ?_;refine zN (inBlk_n (zT (zR (yS Z (zb2 Z Z Z Z) (zM Z (zN (zT ?_)))))));obtain rfl := zJ hr;exact ⟨_, rfl, zW 3 ⟨rfl, rfl, rfl, rfl, rfl, rfl, trivial⟩ Z Z Z (zL Z (zL (entsLow (fun _ => rfl) _) (zL Z Z)))⟩
  ·
   refine zo g1 hr fun hr => zq (thn_e (thn_e (zy (zT ?_))));obtain rfl := zJ hr;have hr := congrArg some (hb_x1 _ rfl);obtain rfl := zJ hr;exact zW 3 ⟨Z, Z, Z, trivial⟩ Z Z Z (zL Z (zL (entsLow (fun _ => rfl) _) (zL Z Z)))
 ·have hr := ho_v1;clear hb_v1;refine zT (LW.weak hw_v1 (zQ (LW.draw2 (by kernel_rfl) (by kernel_rfl) (yE Z (zD Z Z Z vt55 Z Z) (yE Z (zD Z Z Z vt55 Z Z) (yE Z (LOp.makeFunc Z Z Z) (yE Z (zC Z Z Z (by kernel_rfl) (c112 (c := c))) (zb hr fun v2 h_v2 hr => yE Z (zC Z Z Z (by kernel_rfl) (cF116W h_v2)) (zH Z (LO.nil (zT (zr ?_))))))))))));obtain rfl := zJ hr;exact zf (.one (.tmp Z)) zv
def F65 (c : Cf) (slot : Int) : Option (List Int) :=
 (F107 c slot).bind fun v1 =>
 bif !v1 then
  some []
 else
  bif decide (c.Epoch ≠ 0) then
   (F60 (step c.Seed (IntKind.u64.wrap (IntKind.i64.wrap (slot.tdiv c.Epoch)))) (c.W.length : Int)).bind fun v2 =>
   (F111C c slot v2).bind fun v3 =>
   some v3
  else none
theorem c65 {c : Cf} {slot : Int} {r_ : (List Int)} (hr : F65 c slot = some r_) : LPure Tryz.prog 57 [cfP c, .int .i64 slot] [.slice 1 (r_.map i64P)] := by
 refine zh Tryz.func57 Z Z Z Z ?_;unfold F65 at hr;refine zQ (zR (yS Z (zbx Z Z Z Z Z) (yS Z (zbx Z Z Z Z Z) (zM Z (zN (zT (zQ (zQ (zR (yS Z (zD Z Z Z vt55 Z Z) (yS Z (zD Z Z Z vt3 Z Z) (zb hr fun v1 h_v1 hr => yS Z (zC Z Z Z (by kernel_rfl) (zp (c107 h_v1) (.cons zv (.cons zv .nil)))) (yS Z (LOp.not Z Z) (zN (zT ?_)))))))))))))));refine zX Z (fun g1 => ?_) (fun g1 => ?_)
 ·
  refine zi g1 hr fun hr => zQ (zR (zM Z (zN (zT (zr (thn_r ?_))))));obtain rfl := zJ hr;exact zf (.one (.tmp Z)) Conv.zs
 ·
  refine zo g1 hr fun hr => zk (zT (zQ (LW.ent (Ent.slot Z) (LW.drawW (by kernel_rfl) (by kernel_rfl) ?_))));refine yF (F := []) (s := none) Z (fun H _ => zA Z Z ft55_1) Z ?_;refine yF Z (zd Z Z Z vt22 Z Z) Z (yF Z (zd Z Z Z vt3 Z Z) Z ?_);refine yF (F := []) (s := none) Z (fun H _ => zA Z Z ft55_2) Z ?_;refine yF Z (zd Z Z Z vt3 Z Z) Z (zg hr fun q1 hr => ?_);refine yF (F := []) (s := none) Z (fun H _ => LOp.quo Z Z Z (of_decide_eq_true q1)) Z ?_;refine yF (F := []) (s := none) Z (fun H _ => LOp.convert (k' := .u64) Z Z (by kernel_rfl)) Z ?_;refine yF (F := []) (s := none) Z (fun H _ => zC Z Z Z (by kernel_rfl) (zp (c108 (h := c.Seed) (x := (IntKind.u64.wrap (IntKind.i64.wrap (slot.tdiv c.Epoch))))) (.cons zv (.cons zv .nil)))) Z ?_;refine yF (F := []) (s := none) Z (fun H _ => zA Z Z ft55_0) Z ?_;refine yF Z (zd Z Z Z vt49 Z Z) Z ?_;refine yF (F := []) (s := none) Z (fun H _ => zlM Z Z (by kernel_rfl)) Z ?_;obtain ⟨v2, h_v2, hr⟩ := zB hr;refine yF (F := []) (s := none) Z (fun H _ => zC Z Z Z (by kernel_rfl) (zp (c60 h_v2) (.cons zv (.cons zv .nil)))) Z ?_;refine yF Z (LAt.alloc Z zt49 (id := 2) Z) Z (yF Z (zt Z Z Z Z vt49 Z Z Z) Z ?_);refine LF.nil ⟨by kernel_rfl, ?_⟩;refine zT (zQ (zR (yS Z (zD Z Z Z vt55 Z Z) (yS Z (LOp.makeFunc Z Z Z) (yS Z (zC Z Z Z (by kernel_rfl) (c112 (c := c))) (zb hr fun v3 h_v3 hr => yS Z (zC Z Z Z (by kernel_rfl) (cF111C h_v3)) (zM Z (zN (zT (zr ?_))))))))));obtain rfl := zJ hr;exact zf (.one (.tmp Z)) ((Conv.vecAll Z Z Z))
def F63 (c : Cf) (slot : Int) : Option Int :=
 (F107 c slot).bind fun v1 =>
 bif !v1 then
  some (-1)
 else
  bif decide ((IntKind.u64.wrap ((c.W.length : Int))) ≠ 0) then
   some (IntKind.i64.wrap ((step (step c.Seed 4294967296) (IntKind.u64.wrap (slot))).tmod (IntKind.u64.wrap ((c.W.length : Int)))))
  else none
theorem c63 {c : Cf} {slot : Int} {r_ : Int} (hr : F63 c slot = some r_) : LPure Tryz.prog 34 [cfP c, .int .i64 slot] [.int .i64 r_] := by
 refine zh Tryz.func34 Z Z Z Z ?_;unfold F63 at hr;refine zQ (zR (yS Z (zbx Z Z Z Z Z) (zM Z (zN (zT (zQ (zQ (zR (yS Z (zD Z Z Z vt55 Z Z) (zM Z (zb hr fun v1 h_v1 hr => yS Z (zC Z Z Z (by kernel_rfl) (zp (c107 h_v1) (.cons zv (.cons zv .nil)))) (yS Z (LOp.not Z Z) (zN (zT ?_))))))))))))));refine zX Z (fun g1 => ?_) (fun g1 => ?_)
 ·
  refine zi g1 hr fun hr => zQ (zR (zM Z (zN (zT (zr (thn_r ?_))))));obtain rfl := zJ hr;exact zf (.one (.tmp Z)) zv
 ·
  refine zo g1 hr fun hr => zk (zT (zQ (LW.draw2 (by kernel_rfl) (by kernel_rfl) (yE Z (zA Z Z ft55_1) (yE Z (zD Z Z Z vt22 Z Z) (yE Z (zC Z Z Z (by kernel_rfl) (zp (c108 (h := c.Seed) (x := 4294967296)) (.cons zv (.cons zv .nil)))) (zH Z (yE Z (LOp.convert (k' := .u64) Z Z (by kernel_rfl)) (yE Z (zC Z Z Z (by kernel_rfl) (zp (c108 (h := (step c.Seed 4294967296)) (x := (IntKind.u64.wrap (slot)))) (.cons zv (.cons zv .nil)))) (yE Z (zA Z Z ft55_0) (yE Z (zD Z Z Z vt49 Z Z) (yE Z (zlM Z Z (by kernel_rfl)) (yE Z (LOp.convert (k' := .u64) Z Z (by kernel_rfl)) (zg hr fun q1 hr => yE Z (LOp.rem Z Z Z (of_decide_eq_true q1)) (yE Z (LOp.convert (k' := .i64) Z Z (by kernel_rfl)) (zH Z (LO.nil (zT (zr ?_)))))))))))))))))));obtain rfl := zJ hr;exact zf (.one (.tmp Z)) zv
def F74 (c : Cf) (slot : Int) (who : Int) : Option Bool :=
 (F65 c slot).bind fun v1 =>
 (F119 v1 who).bind fun v2 =>
 some v2
theorem c74 {c : Cf} {slot : Int} {who : Int} {r_ : Bool} (hr : F74 c slot who = some r_) : LPure Tryz.prog 22 [cfP c, .int .i64 slot, .int .i64 who] [.bool r_] := by
 refine zh Tryz.func22 Z Z Z Z ?_;unfold F74 at hr;refine zQ (zR (yS Z (zbx Z Z Z Z Z) (zM Z (zN (zT (zQ (zR (yS Z (zD Z Z Z vt55 Z Z) (zM Z (zb hr fun v1 h_v1 hr => yS Z (zC Z Z Z (by kernel_rfl) (zp (c65 h_v1) (.cons zv (.cons zv .nil)))) (zM Z (zb hr fun v2 h_v2 hr => yS Z (zC Z Z Z (by kernel_rfl) (zp (c119 h_v2) (.cons zv (.cons zv .nil)))) (zM Z (zN (zT (zr ?_))))))))))))))));obtain rfl := zJ hr;exact zf (.one (.tmp Z)) zv
open Go.Proofs
def F175 (x : Int) : Option Bool :=
 some (x != x)
theorem c175 {x : Int} {r_ : Bool} (hr : F175 x = some r_) : LPure Tryz.prog 174 [.int .u64 x] [.bool r_] := by
 refine zh Tryz.func174 Z Z Z Z ?_;unfold F175 at hr;refine zQ (zR (zM Z (zN (zT (zQ (zR (zM Z (zM Z (yS Z (zb2 Z Z Z Z) (zM Z (zN (zT (zr ?_)))))))))))));obtain rfl := zJ hr;exact zf (.one (.tmp Z)) zv
def F168 (x : Int) (y : Int) : Option Int :=
 (F175 x).bind fun v1 =>
 (F175 y).bind fun v2 =>
 bif v1 then
  bif v2 then
   some 0
  else
   some (-1)
 else
  bif v2 then
   some 1
  else
   bif decide (x < y) then
    some (-1)
   else
    bif decide (x > y) then
     some 1
    else
     some 0
theorem c168 {x : Int} {y : Int} {r_ : Int} (hr : F168 x y = some r_) : LPure Tryz.prog 159 [.int .u64 x, .int .u64 y] [.int .i64 r_] := by
 refine zh Tryz.func159 Z Z Z Z ?_;unfold F168 at hr;refine zQ (zR (zM Z (zN (zT (zQ (zR (zM Z (zb hr fun v1 h_v1 hr => yS Z (zC Z Z Z (by kernel_rfl) (zp (c175 h_v1) (.cons zv .nil))) (zM Z (zN (zT (zQ (zR (zM Z (zb hr fun v2 h_v2 hr => yS Z (zC Z Z Z (by kernel_rfl) (zp (c175 h_v2) (.cons zv .nil))) (zM Z (zN (zT (zQ (zQ (zR ?_)))))))))))))))))))));refine zM Z (zN (zT ?_));refine zX Z (fun g1 => ?_) (fun g1 => ?_)
 ·
  refine zi g1 hr fun hr => zQ (zQ (zR (zM Z (zN (zT ?_)))));refine zX Z (fun g2 => ?_) (fun g2 => ?_)
  ·
   refine zi g2 hr fun hr => zQ (zR (zM Z (zN (zT (zr (thn_r (thn_r ?_)))))));obtain rfl := zJ hr;exact zf (.one (.tmp Z)) zv
  ·
   refine zo g2 hr fun hr => zk (zT (zQ (zR (zM Z (zN (zT (zr (thn_r ?_))))))));obtain rfl := zJ hr;exact zf (.one (.tmp Z)) zv
 ·
  refine zo g1 hr fun hr => zk (zT (zQ (zQ (zR (zM Z (zN (zT ?_)))))));refine zX Z (fun g3 => ?_) (fun g3 => ?_)
  ·
   refine zi g3 hr fun hr => zQ (zR (zM Z (zN (zT (zr (thn_r ?_))))));obtain rfl := zJ hr;exact zf (.one (.tmp Z)) zv
  ·
   refine zo g3 hr fun hr => zk (zT (zQ (zQ (zR (zM Z (zM Z (yS Z (zb2 Z Z Z Z) (zN (zT ?_)))))))));refine zX Z (fun g4 => ?_) (fun g4 => ?_)
   ·
    refine zi g4 hr fun hr => zQ (zR (zM Z (zN (zT (zr (thn_r ?_))))));obtain rfl := zJ hr;exact zf (.one (.tmp Z)) zv
   ·
    refine zo g4 hr fun hr => zk (zT (zQ (zQ (zR (zM Z (zM Z (yS Z (zb2 Z Z Z Z) (zN (zT ?_)))))))));refine zX Z (fun g5 => ?_) (fun g5 => ?_)
    ·
     refine zi g5 hr fun hr => zQ (zR (zM Z (zN (zT (zr (thn_r ?_))))));obtain rfl := zJ hr;exact zf (.one (.tmp Z)) zv
    ·
     refine zo g5 hr fun hr => zk (zT (zQ (zR (zM Z (zN (zT (zr ?_)))))));obtain rfl := zJ hr;exact zf (.one (.tmp Z)) zv
structure F151_L1 where
 t11 : Int
def F151_s1 (s1 : List Int) (s2 : List Int) (x1 : F151_L1) : Option (F151_L1 ⊕ (F151_L1 ⊕ Int)) :=
 bif decide (x1.t11 < (s1.length : Int)) then
  (ix s1 x1.t11).bind fun y1 =>
  bif decide (x1.t11 ≥ (s2.length : Int)) then
   some (.inr (.inr 1))
  else
   (ix s2 x1.t11).bind fun y2 =>
   (F168 y1 y2).bind fun v2 =>
   bif v2 != 0 then
    some (.inr (.inr v2))
   else
    some (.inl (F151_L1.mk (IntKind.i64.wrap (x1.t11 + 1))))
 else
  some (.inr (.inl (F151_L1.mk x1.t11)))
def F151 (s1 : List Int) (s2 : List Int) : Option Int :=
 (iter (F151_s1 s1 s2) big (F151_L1.mk 0)).bind fun b_v1 => Sum.elim (fun _ =>
  bif decide ((s1.length : Int) < (s2.length : Int)) then
   some (-1)
  else
   some 0) some b_v1
theorem c151 {s1 : List Int} {s2 : List Int} {r_ : Int} (hr : F151 s1 s2 = some r_) : LPure Tryz.prog 117 [.slice 1 (s1.map wordP), .slice 1 (s2.map wordP)] [.int .i64 r_] := by
 refine zh Tryz.func117 Z Z Z Z ?_;unfold F151 at hr;refine zQ (zR (zM Z (zN (zT (zQ (zQ (zR (zM Z (yS Z (zlM Z Z (by kernel_rfl)) (zM Z (zN (zT ?_))))))))))));obtain ⟨b_v1, hb_v1, ho_v1⟩ := zB hr;clear hr;refine LW.tailB (b := b_v1) (E := fun v1 => [(0, .p (.slice 1 (s1.map wordP))), (1, .p (.slice 1 (s2.map wordP))), (4, (iQ 0))]) (O := fun v1 => []) ?_ (fun v1 e_v1 env_v1 H_v1 hw_v1 => ?_)
 ·refine LW.block ?_;refine LW.iterB (E := fun x1 : F151_L1 => [(0, .p (.slice 1 (s1.map wordP))), (1, .p (.slice 1 (s2.map wordP))), (4, (iQ 0)), (9, .p (.slice 1 (s1.map wordP))), (10, .p (.int .i64 (s1.length : Int))), (11, (iQ x1.t11))]) (O := fun x1 => []) hb_v1 (zW 0 ⟨rfl, rfl, rfl, rfl, rfl, rfl, trivial⟩ Z Z Z Z) (fun x1 z_x1 hr hb_x1 => ?_);unfold F151_s1 at hr;refine zQ (zR (yS Z (zb2 Z Z Z Z) (zN (zT (zQ ?_)))));refine zX Z (fun g1 => ?_) (fun g1 => ?_)
  ·
   refine zi g1 hr fun hr => zk (zT (zQ (zl (zQ (zR (zM Z (zb hr fun y1 h_y1 hr => yS Z (zx Z Z Z st98 h_y1 Z) (yS Z (zC2 Z Z Z vt22 Z Z) (zM Z (zM Z (zN (zT (zQ (zQ (zR (zM Z (zM Z (yS Z (zlM Z Z (by kernel_rfl)) (yS Z (zb2 Z Z Z Z) (zN (zT ?_)))))))))))))))))))));refine zX Z (fun g2 => ?_) (fun g2 => ?_)
   ·
    refine zi g2 hr fun hr => zQ (zR (zM Z (zN (zT (zr (thn_r (inBlk_r (thn_r (thn_r (inBlk_r (thn_r (thn_r ?_))))))))))));obtain rfl := zJ hr;have hr := congrArg some (hb_x1 _ rfl);obtain rfl := zJ hr;have hr := sum_r ho_v1;obtain rfl := zJ hr;exact zf (.one (.tmp Z)) zv
   ·
    refine zo g2 hr fun hr => zk (zT (zQ (zR (zM Z (zM Z (zb hr fun y2 h_y2 hr => yS Z (zx Z Z Z st98 h_y2 Z) (yS Z (zC2 Z Z Z vt22 Z Z) (zM Z (zN (zT (zQ (zR (zM Z (zM Z (zb hr fun v2 h_v2 hr => yS Z (zC Z Z Z (by kernel_rfl) (zp (c168 h_v2) (.cons zv (.cons zv .nil)))) (zM Z (zN (zT (zQ (zR ?_))))))))))))))))))));refine zM Z (yS Z (zb2 Z Z Z Z) (zN (zT ?_)));refine zX Z (fun g3 => ?_) (fun g3 => ?_)
    ·
     refine zi g3 hr fun hr => zQ (zR (zM Z (zM Z (zN (zT (zr (inBlk_r (thn_r (thn_r (inBlk_r (thn_r (thn_r ?_))))))))))));obtain rfl := zJ hr;have hr := congrArg some (hb_x1 _ rfl);obtain rfl := zJ hr;have hr := sum_r ho_v1;obtain rfl := zJ hr;exact zf (.one (.tmp Z)) zv
    ·
     refine zo g3 hr fun hr => zk (inBlk_n (zT (zR (yS Z (zb2 Z Z Z Z) (zM Z (zN (zT ?_)))))));obtain rfl := zJ hr;exact ⟨_, rfl, zW 0 ⟨rfl, rfl, rfl, rfl, rfl, rfl, trivial⟩ Z Z Z rfl⟩
  ·
   refine zo g1 hr fun hr => zq (thn_e (thn_e (zy (zT ?_))));obtain rfl := zJ hr;have hr := congrArg some (hb_x1 _ rfl);obtain rfl := zJ hr;exact ⟨_, rfl, zW 0 ⟨rfl, rfl, rfl, trivial⟩ Z Z Z rfl⟩
 ·obtain rfl := e_v1;have hr := sum_l ho_v1;clear hb_v1;refine zT (LW.weak hw_v1 (zQ (zQ (zR (zM Z (yS Z (zlM Z Z (by kernel_rfl)) (zM Z (yS Z (zlM Z Z (by kernel_rfl)) (yS Z (zb2 Z Z Z Z) (zN (zT ?_)))))))))));refine zX Z (fun g4 => ?_) (fun g4 => ?_)
  ·
   refine zi g4 hr fun hr => zQ (zR (zM Z (zN (zT (zr (thn_r ?_))))));obtain rfl := zJ hr;exact zf (.one (.tmp Z)) zv
  ·
   refine zo g4 hr fun hr => zk (zT (zQ (zR (zM Z (zN (zT (zr ?_)))))));obtain rfl := zJ hr;exact zf (.one (.tmp Z)) zv
def F120 (a : ID) (b : ID) : Option Bool :=
 (F151 [a.1, a.2] [b.1, b.2]).bind fun v1 =>
 some (decide (v1 < 0))
theorem c120 {a : ID} {b : ID} {r_ : Bool} (hr : F120 a b = some r_) : LPure Tryz.prog 188 [idP a, idP b] [.bool r_] := by
 refine zh Tryz.func188 Z Z Z Z ?_;unfold F120 at hr;refine zQ (zR (yS Z (zbx Z Z Z Z Z) (yS Z (zbx Z Z Z Z Z) (zM Z (zN (zT (zQ (LW.draw2 (by kernel_rfl) (by kernel_rfl) (yE Z (LOp.sliceBox Z Z at24 Z Z Z) (yE Z (LOp.sliceBox Z Z at24 Z Z Z) (zb hr fun v1 h_v1 hr => yE Z (zC Z Z Z (by kernel_rfl) (LC.lend (c151 h_v1) (.cons (Conv.boxSlice Z Z Z Z) (.cons (Conv.boxSlice Z Z Z Z) .nil)) Z)) (yE Z (zb2 Z Z Z Z) (zH Z (LO.nil (zT (zr ?_))))))))))))))));obtain rfl := zJ hr;exact zf (.one (.tmp Z)) zv
def F122 (a : Rk) (b : Rk) : Option Bool :=
 bif a.n != b.n then
  some (decide (a.n > b.n))
 else
  bif !((a.n == b.n) && ((a.id.1 == b.id.1) && ((a.id.2 == b.id.2) && true))) then
   (F120 b.id a.id).bind fun v1 =>
   some v1
  else
   some false
theorem c122 {a : Rk} {b : Rk} {r_ : Bool} (hr : F122 a b = some r_) : LPure Tryz.prog 172 [rkP a, rkP b] [.bool r_] := by
 refine zh Tryz.func172 Z Z Z Z ?_;unfold F122 at hr;refine zQ (zR (yS Z (zbx Z Z Z Z Z) (yS Z (zbx Z Z Z Z Z) (zM Z (zN (zT (zQ (zQ (zR (yS Z (zA Z Z ft136_0) (yS Z (zD Z Z Z vt3 Z Z) (yS Z (zA Z Z ft136_0) (yS Z (zD Z Z Z vt3 Z Z) (yS Z (zb2 Z Z Z Z) (zN (zT ?_))))))))))))))));refine zX Z (fun g1 => ?_) (fun g1 => ?_)
 ·
  refine zi g1 hr fun hr => zQ (zR (yS Z (zA Z Z ft136_0) (yS Z (zD Z Z Z vt3 Z Z) (yS Z (zA Z Z ft136_0) (yS Z (zD Z Z Z vt3 Z Z) (yS Z (zb2 Z Z Z Z) (zM Z (zN (zT (zr (thn_r ?_)))))))))));obtain rfl := zJ hr;exact zf (.one (.tmp Z)) zv
 ·
  refine zo g1 hr fun hr => zk (zT (zQ (zR (yS Z (zD Z Z Z vt136 Z Z) (yS Z (zD Z Z Z vt136 Z Z) (yS Z (LOp.neqAgg Z Z Z Z Z eqt136) (zM Z ?_)))))));refine zc 18 Z (fun g2 => ?_) (fun g2 => ?_)
  ·
   refine zi g2 hr fun hr => yV Z (gd g2 Z) (zA Z Z ft136_1) (yV Z (gd g2 Z) (zD Z Z Z vt24 Z Z) (yV Z (gd g2 Z) (zA Z Z ft136_1) (yV Z (gd g2 Z) (zD Z Z Z vt24 Z Z) (zb hr fun v1 h_v1 hr => yV Z (gd g2 Z) (zC Z Z Z (by kernel_rfl) (zp (c120 h_v1) (.cons zv (.cons zv .nil)))) (yS Z (zpT Z (gdl g2 Z) Z) (zM Z (zN (zT (zr ?_)))))))));obtain rfl := zJ hr;exact zf (.one (.tmp Z)) zv
  ·
   refine zo g2 hr fun hr => yU Z (gd g2 Z) Z (yU Z (gd g2 Z) Z (yU Z (gd g2 Z) Z (yU Z (gd g2 Z) Z (yU Z (gd g2 Z) Z (yS Z (zpF Z (gdl g2 Z) Z) (zM Z (zN (zT (zr ?_)))))))));obtain rfl := zJ hr;exact zf (.one (.tmp Z)) zv
def F154 (x : Vt) : Option Int :=
 some x.From
theorem c154 {x : Vt} {r_ : Int} (hr : F154 x = some r_) : LPure Tryz.prog 153 [vtP x] [.int .i64 r_] := by
 refine zh Tryz.func153 Z Z Z Z ?_;unfold F154 at hr;refine zQ (zR (yS Z (zbx Z Z Z Z Z) (zM Z (zN (zT (zQ (zR (yS Z (zA Z Z ft82_0) (yS Z (zD Z Z Z vt3 Z Z) (zM Z (zN (zT (zr ?_)))))))))))));obtain rfl := zJ hr;exact zf (.one (.tmp Z)) zv
open Go.Proofs
def F152 (x : Vt) (_ : Cf) (l : List Bk) (id : ID) (m : List (ID × Bool)) : Option (Bool × (List (ID × Bool))) :=
 bif !((findE m x.Head).isSome) then
  bif few l then
   some (decide (indexOf (chainOf l x.Head) id ≥ 0), setE m x.Head (decide (indexOf (chainOf l x.Head) id ≥ 0)))
  else none
 else
  some ((findE m x.Head).getD false, m)
theorem cF152 {x : Vt} {c : Cf} {l : List Bk} {id : ID} {m : List (ID × Bool)} {r_ : Bool × (List (ID × Bool))} (hr : F152 x c l id m = some r_) : LC Tryz.prog 151 [.p (vtP x), .ptr 4 0, .ptr 1 0, .ptr 2 0] [.box (cfO c), .box [(kB l)], .box [(uQ id.1), (uQ id.2)], .map (entsOf idP (fun v => (bQ v)) m), .box [.map 3]] (Is (bQ r_.1) [.box (cfO c), .box [(kB l)], .box [(uQ id.1), (uQ id.2)], .map (entsOf idP (fun v => (bQ v)) r_.2), .box [.map 3]]) := by
 refine zh2 Tryz.func151 Z Z Z ?_;unfold F152 at hr;refine zQ (zR (yS Z (zbx Z Z Z Z Z) (zM Z (zN (zT (zQ (zR (yS Z (zD Z Z Z vt169 Z Z) (yS Z (zA Z Z ft82_2) (yS Z (zD Z Z Z vt24 Z Z) ?_))))))))));refine yS Z (LOp.getX (f := idP) (g := (fun v => (bQ v))) x.Head false idKey Z Z Z Z mt169 zl4 Z Z) ?_;refine zM Z (yS Z (zX2 Z Z Z) (yS Z (zX2 Z Z Z) (zM Z (zM Z (zN (zT (zQ (zQ (zR (zM Z (yS Z (LOp.not Z Z) (zN (zT ?_)))))))))))));refine zX Z (fun g1 => ?_) (fun g1 => ?_)
 ·
  refine zi g1 hr fun hr => zQ (LW.draw2 (by kernel_rfl) (by kernel_rfl) (yE Z (zD Z Z Z vt27 Z Z) (yE Z (zA Z Z ft82_2) (yE Z (zD Z Z Z vt24 Z Z) (zg hr fun q1 hr => yE Z (zC Z Z Z (by kernel_rfl) (zp (c39 (l := l) (id := x.Head) (few_le q1)) (.cons zv (.cons zv .nil)))) (yE Z (zD Z Z Z vt24 Z Z) (yE Z (zC Z Z Z (by kernel_rfl) (zp (c95 (l := (chainOf l x.Head)) (v := id)) (.cons zv (.cons zv .nil)))) (zH Z (LO.nil (zT (zR (yS Z (zD Z Z Z vt169 Z Z) (yS Z (zA Z Z ft82_2) (yS Z (zD Z Z Z vt24 Z Z) (zM Z ?_)))))))))))))));refine yS Z (LOp.setX (f := idP) (g := (fun v => (bQ v))) x.Head (decide (indexOf (chainOf l x.Head) id ≥ 0)) idKey (.inl Z) Z Z Z Z Z mt169 Z) ?_;refine zN (zT (zQ (zR (zM Z (zM Z (zN (zT (zr ?_))))))));obtain rfl := zJ hr;refine fin_retW (env' := [(5, .p (.bool (decide (indexOf (chainOf l x.Head) id ≥ 0))))]) (H' := [.box (cfO c), .box [(kB l)], .box [(uQ id.1), (uQ id.2)], .map (entsOf idP (fun v => (bQ v)) (setE m x.Head (decide (indexOf (chainOf l x.Head) id ≥ 0)))), .box [.map 3]]) (zW 5 ⟨rfl, trivial⟩ Z Z Z (zL Z (zL Z (zL Z (zL (entsLow (fun _ => rfl) _) (zL Z Z)))))) (.one (.tmp Z)) ?_;exact ⟨rfl, rfl⟩
 ·
  refine zo g1 hr fun hr => zk (zT (zQ (zR (zM Z (zM Z (zN (zT (zr ?_))))))));obtain rfl := zJ hr;refine fin_retW (env' := [(5, .p (.bool ((findE m x.Head).getD false)))]) (H' := [.box (cfO c), .box [(kB l)], .box [(uQ id.1), (uQ id.2)], .map (entsOf idP (fun v => (bQ v)) m), .box [.map 3]]) (zW 5 ⟨rfl, trivial⟩ Z Z Z (zL Z (zL Z (zL Z (zL (entsLow (fun _ => rfl) _) (zL Z Z)))))) (.one (.tmp Z)) ?_;exact ⟨rfl, rfl⟩
structure F153_L1 where
 t12 : Int
 o3 : List (ID × Bool)
 out : List Int
def F153_s1 (v : List Vt) (c : Cf) (l : List Bk) (id : ID) (x1 : F153_L1) : Option (F153_L1 ⊕ F153_L1) :=
 bif decide (x1.t12 < (v.length : Int)) then
  (ix v x1.t12).bind fun y1 =>
  (F152 y1 c l id x1.o3).bind fun v2 =>
  bif v2.1 then
   (F154 y1).bind fun v3 =>
   bif room x1.out.length [v3].length 8 then
    some (.inl (F153_L1.mk (IntKind.i64.wrap (x1.t12 + 1)) v2.2 (x1.out ++ [v3])))
   else none
  else
   some (.inl (F153_L1.mk (IntKind.i64.wrap (x1.t12 + 1)) v2.2 x1.out))
 else
  some (.inr (F153_L1.mk x1.t12 x1.o3 x1.out))
def F153 (v : List Vt) (c : Cf) (l : List Bk) (id : ID) (m : List (ID × Bool)) : Option (List Int × List (ID × Bool)) :=
 (iter (F153_s1 v c l id) big (F153_L1.mk 0 m ([] : List Int))).bind fun v1 =>
 some (v1.out, v1.o3)
theorem cF153 {v : List Vt} {c : Cf} {l : List Bk} {id : ID} {m : List (ID × Bool)} {r_ : List Int × List (ID × Bool)} (hr : F153 v c l id m = some r_) : LC Tryz.prog 152 [(kV v), .fn 151 [] [.ptr 4 0, .ptr 1 0, .ptr 2 0], .fn 153 [] []] [.box (cfO c), .box [(kB l)], .box [(uQ id.1), (uQ id.2)], .map (entsOf idP (fun v => (bQ v)) m), .box [.map 3]] (Is (kI r_.1) [.box (cfO c), .box [(kB l)], .box [(uQ id.1), (uQ id.2)], .map (entsOf idP (fun v => (bQ v)) r_.2), .box [.map 3]]) := by
 refine zh2 Tryz.func152 Z Z Z ?_;unfold F153 at hr;refine zQ (zR (zM Z (zN (zT (zQ (zR (zM Z (zN (zT (zQ (zQ (zR (zM Z (yS Z (zlM Z Z (by kernel_rfl)) (zM Z (zN (zT (LW.ent (Ent.lazy (t := 7) (m := 1) Z Z Z) ?_))))))))))))))))));obtain ⟨v1, hb_v1, ho_v1⟩ := zB hr;clear hr;refine LW.tail (E := [(6, .zs), (7, (jI 5 v1.out))]) (O := [.box (cfO c), .box [(kB l)], .box [(uQ id.1), (uQ id.2)], .map (entsOf idP (fun v => (bQ v)) v1.o3), .box [.map 3], .vec 1 (v1.out.map i64P)]) ?_ (fun env_v1 H_v1 hw_v1 => ?_)
 ·refine LW.block ?_;refine LW.iterB (E := fun x1 : F153_L1 => [(1, .fn 151 [] [.ptr 4 0, .ptr 1 0, .ptr 2 0]), (2, .fn 153 [] []), (6, .zs), (7, (jI 5 x1.out)), (10, (kV v)), (11, .p (.int .i64 (v.length : Int))), (12, (iQ x1.t12))]) (O := fun x1 => [.box (cfO c), .box [(kB l)], .box [(uQ id.1), (uQ id.2)], .map (entsOf idP (fun v => (bQ v)) x1.o3), .box [.map 3], .vec 1 (x1.out.map i64P)]) hb_v1 (zW 6 ⟨rfl, rfl, rfl, rfl, rfl, rfl, rfl, trivial⟩ Z Z Z (zL Z (zL Z (zL Z (zL (entsLow (fun _ => rfl) _) (zL Z (zL Z Z))))))) (fun x1 z_x1 hr hb_x1 => ?_);unfold F153_s1 at hr;refine zQ (zR (yS Z (zb2 Z Z Z Z) (zN (zT (zQ ?_)))));refine zX Z (fun g1 => ?_) (fun g1 => ?_)
  ·
   refine zi g1 hr fun hr => zk (zT (zQ (zl (zQ (zR (zb hr fun y1 h_y1 hr => yS Z (zx Z Z Z st68 h_y1 Z) (yS Z (zC2 Z Z Z vt82 Z Z) (yS Z (ze Z zt82 Z Z) (yS Z (zs Z Z Z Z vt82 Z Z Z Z) (zN (zT (zQ (zR (zM Z (yS Z (zD Z Z Z vt82 Z Z) (zb hr fun v2 h_v2 hr => ?_))))))))))))))));refine yS Z (zC Z Z Z (by kernel_rfl) (LC.pre (cF152 h_v2) Z (zL Z (zL Z (zL Z (zL (entsLow (fun _ => rfl) _) (zL Z Z))))) Z)) ?_;refine zN (zT ?_);refine zX Z (fun g2 => ?_) (fun g2 => ?_)
   ·
    refine zi g2 hr fun hr => zR (zM Z (zM Z (yS Z (zD Z Z Z vt82 Z Z) (zb hr fun v3 h_v3 hr => yS Z (zC Z Z Z (by kernel_rfl) (zp (c154 h_v3) (.cons zv .nil))) (yS Z (zB2 Z st49 Z Z Z Z Z) (zg hr fun q1 hr => yS Z (LOp.appendX i64P x1.out [v3] rfl Z Z Z Src.p Z st49 q1 Z) (zM Z (zN (inBlk_n (zT (zR (yS Z (zb2 Z Z Z Z) (zM Z (zN (zT ?_)))))))))))))));obtain rfl := zJ hr;exact ⟨_, rfl, zW 6 ⟨rfl, rfl, rfl, rfl, rfl, rfl, rfl, trivial⟩ Z Z Z (zL Z (zL Z (zL Z (zL (entsLow (fun _ => rfl) _) (zL Z (zL Z Z))))))⟩
   ·
    refine zo g2 hr fun hr => zk (inBlk_n (zT (zR (yS Z (zb2 Z Z Z Z) (zM Z (zN (zT ?_)))))));obtain rfl := zJ hr;exact ⟨_, rfl, zW 6 ⟨rfl, rfl, rfl, rfl, rfl, rfl, rfl, trivial⟩ Z Z Z (zL Z (zL Z (zL Z (zL (entsLow (fun _ => rfl) _) (zL Z (zL Z Z))))))⟩
  ·
   refine zo g1 hr fun hr => zq (thn_e (thn_e (zy (zT ?_))));obtain rfl := zJ hr;have hr := congrArg some (hb_x1 _ rfl);obtain rfl := zJ hr;exact zW 6 ⟨Z, Z, trivial⟩ Z Z Z (zL Z (zL Z (zL Z (zL (entsLow (fun _ => rfl) _) (zL Z (zL Z Z))))))
 ·have hr := ho_v1;clear hb_v1;refine zT (LW.weak hw_v1 (zQ (zR (zM Z (zM Z (zN (zT ?_)))))));refine LW.weak (env' := [(6, (jI 5 v1.out))]) (H' := [.box (cfO c), .box [(kB l)], .box [(uQ id.1), (uQ id.2)], .map (entsOf idP (fun v => (bQ v)) v1.o3), .box [.map 3], .vec 1 (v1.out.map i64P)]) (zW 6 ⟨rfl, trivial⟩ Z Z Z (zL Z (zL Z (zL Z (zL (entsLow (fun _ => rfl) _) (zL Z (zL Z Z))))))) ?_;refine LW.ent (Ent.frz (t := 6) (env' := []) (H0 := [.box (cfO c), .box [(kB l)], .box [(uQ id.1), (uQ id.2)], .map (entsOf idP (fun v => (bQ v)) v1.o3), .box [.map 3]]) Z Z Z Z Z trivial Z (zL Z (zL Z (zL Z (zL (entsLow (fun _ => rfl) _) (zL Z Z)))))) ?_;refine LW.ret ?_;obtain rfl := zJ hr;exact fin_ret (.one (.tmp Z)) (⟨rfl, rfl⟩)
def F121 (c : Cf) (l : List Bk) (v : List Vt) (id : ID) : Option Int :=
 (F153 v c l id []).bind fun v1 =>
 (F70 c v1.1).bind fun v2 =>
 some v2
theorem c121 {c : Cf} {l : List Bk} {v : List Vt} {id : ID} {r_ : Int} (hr : F121 c l v id = some r_) : LPure Tryz.prog 112 [cfP c, .slice 5 (l.map blkP), .slice 4 (v.map vtP), idP id] [.int .i64 r_] := by
 refine zh Tryz.func112 Z Z Z Z ?_;unfold F121 at hr;refine zQ (zR (yS Z (zbx Z Z Z Z Z) (yS Z (zbx Z Z Z Z Z) (yS Z (zbx Z Z Z Z Z) (zM Z (zN (zT (zQ (zR (yS Z (LOp.makeMap Z Z Z) (yS Z (ze Z zt169 Z Z) (yS Z (zs Z Z Z Z vt169 Z Z Z Z) (zN (zT (zQ (zR (yS Z (LOp.makeFunc Z Z Z) (zM Z (zN (zT (zQ (LW.drawW (by kernel_rfl) (by kernel_rfl) (yF Z (zd Z Z Z vt55 Z Z) Z ?_)))))))))))))))))))))));refine zK Z (zK Z (zb hr fun v1 h_v1 hr => ?_));refine yF Z (LAt.all (s := some (3, .map (entsOf idP (fun v => (bQ v)) v1.2))) (zC Z Z Z (by kernel_rfl) (cF153 h_v1)) Z Z Z) Z ?_;obtain ⟨v2, h_v2, hr⟩ := zB hr;refine yF (F := []) (s := none) Z (fun H _ => zC Z Z Z (by kernel_rfl) (zp (c70 h_v2) (.cons zv (.cons zv .nil)))) Z ?_;refine zK Z ?_;refine LF.nil ⟨by kernel_rfl, ?_⟩;refine zT (zr ?_);obtain rfl := zJ hr;exact zf (.one (.tmp Z)) zv
structure F79_L1 where
 t19 : Int
 best : Rk
def F79_s1 (c : Cf) (l : List Bk) (v : List Vt) (v1 : (List ID)) (x1 : F79_L1) : Option (F79_L1 ⊕ F79_L1) :=
 bif decide (x1.t19 < (v1.length : Int)) then
  (ix v1 x1.t19).bind fun y1 =>
  (F121 c l v y1).bind fun v3 =>
  (F122 (Rk.mk v3 y1) x1.best).bind fun v4 =>
  bif v4 then
   some (.inl (F79_L1.mk (IntKind.i64.wrap (x1.t19 + 1)) (Rk.mk v3 y1)))
  else
   some (.inl (F79_L1.mk (IntKind.i64.wrap (x1.t19 + 1)) x1.best))
 else
  some (.inr (F79_L1.mk x1.t19 x1.best))
def F79 (c : Cf) (l : List Bk) (v : List Vt) (id : ID) : Option (ID × Bool) :=
 (F46 l id).bind fun v1 =>
 (iter (F79_s1 c l v v1) big (F79_L1.mk 0 (Rk.mk (-1) (0, 0)))).bind fun v2 =>
 some (v2.best.id, decide (v2.best.n ≥ 0))
theorem c79 {c : Cf} {l : List Bk} {v : List Vt} {id : ID} {r_ : ID × Bool} (hr : F79 c l v id = some r_) : LPure Tryz.prog 154 [cfP c, .slice 5 (l.map blkP), .slice 4 (v.map vtP), idP id] [idP r_.1, .bool r_.2] := by
 refine zh Tryz.func154 Z Z Z Z ?_;unfold F79 at hr;refine zQ (zR (yS Z (zbx Z Z Z Z Z) (yS Z (zbx Z Z Z Z Z) (yS Z (ze Z zt24 Z Z) (zM Z (zN (zT (zQ (zR (yS Z (LOp.build Z bt136 Z Z Z) (yS Z (ze Z zt136 Z Z) (yS Z (zs Z Z Z Z vt136 Z Z Z Z) (zN (zT (zQ (zQ (zR (zM Z (yS Z (zD Z Z Z vt24 Z Z) (zb hr fun v1 h_v1 hr => yS Z (zC Z Z Z (by kernel_rfl) (zp (c46 h_v1) (.cons zv (.cons zv .nil)))) (yS Z (zlM Z Z (by kernel_rfl)) (zM Z ?_))))))))))))))))))))));refine zN (zT ?_);obtain ⟨v2, hb_v2, ho_v2⟩ := zB hr;clear hr;refine LW.tail (E := [(8, .ptr 2 0), (9, (bQ false)), (10, .ptr 3 0)]) (O := [.box (cfO c), .box [(uQ id.1), (uQ id.2)], .box [(uQ 0), (uQ 0)], .box [(iQ v2.best.n), (uQ v2.best.id.1), (uQ v2.best.id.2)]]) ?_ (fun env_v2 H_v2 hw_v2 => ?_)
 ·refine LW.block ?_;refine LW.iterB (E := fun x1 : F79_L1 => [(1, (kB l)), (2, (kV v)), (4, .ptr 0 0), (8, .ptr 2 0), (9, (bQ false)), (10, .ptr 3 0), (17, .p (.slice 2 (v1.map idP))), (18, .p (.int .i64 (v1.length : Int))), (19, (iQ x1.t19))]) (O := fun x1 => [.box (cfO c), .box [(uQ id.1), (uQ id.2)], .box [(uQ 0), (uQ 0)], .box [(iQ x1.best.n), (uQ x1.best.id.1), (uQ x1.best.id.2)]]) hb_v2 (zW 4 ⟨rfl, rfl, rfl, rfl, rfl, rfl, rfl, rfl, rfl, trivial⟩ Z Z Z Z) (fun x1 z_x1 hr hb_x1 => ?_);unfold F79_s1 at hr;refine zQ (zR (yS Z (zb2 Z Z Z Z) (zN (zT (zQ ?_)))));refine zX Z (fun g1 => ?_) (fun g1 => ?_)
  ·
   refine zi g1 hr fun hr => zk (zT (zQ (zl (zQ (zR (zb hr fun y1 h_y1 hr => yS Z (zx Z Z Z st31 h_y1 Z) (yS Z (zC2 Z Z Z vt24 Z Z) (yS Z (ze Z zt24 Z Z) (yS Z (zs Z Z Z Z vt24 Z Z Z Z) (zN (zT (zQ (LW.ent (Ent.slot Z) (LW.drawW (by kernel_rfl) (by kernel_rfl) (yF Z (zd Z Z Z vt55 Z Z) Z (zK Z (zK Z (yF Z (zd Z Z Z vt24 Z Z) Z (zb hr fun v3 h_v3 hr => ?_)))))))))))))))))));refine yF (F := []) (s := none) Z (fun H _ => zC Z Z Z (by kernel_rfl) (zp (c121 h_v3) (.cons zv (.cons zv (.cons zv (.cons zv .nil)))))) Z ?_;refine yF Z (zd Z Z Z vt24 Z Z) Z ?_;refine yF (F := []) (s := none) Z (fun H _ => LOp.build Z bt136 Z Z Z) Z ?_;refine yF Z (LAt.alloc Z zt136 (id := 5) Z) Z (yF Z (zt Z Z Z Z vt136 Z Z Z) Z ?_);refine LF.nil ⟨by kernel_rfl, ?_⟩;refine zT (zQ (zR (yS Z (zD Z Z Z vt136 Z Z) (yS Z (zD Z Z Z vt136 Z Z) (zb hr fun v4 h_v4 hr => yS Z (zC Z Z Z (by kernel_rfl) (zp (c122 h_v4) (.cons zv (.cons zv .nil)))) (zN (zT ?_)))))));refine zX Z (fun g2 => ?_) (fun g2 => ?_)
   ·
    refine zi g2 hr fun hr => zR (yS Z (zD Z Z Z vt136 Z Z) (yS Z (zs Z Z Z Z vt136 Z Z Z Z) (zN (inBlk_n (zT (zR (yS Z (zb2 Z Z Z Z) (zM Z (zN (zT ?_))))))))));obtain rfl := zJ hr;exact ⟨_, rfl, zW 4 ⟨rfl, rfl, rfl, rfl, rfl, rfl, rfl, rfl, rfl, trivial⟩ Z Z Z rfl⟩
   ·
    refine zo g2 hr fun hr => zk (inBlk_n (zT (zR (yS Z (zb2 Z Z Z Z) (zM Z (zN (zT ?_)))))));obtain rfl := zJ hr;exact ⟨_, rfl, zW 4 ⟨rfl, rfl, rfl, rfl, rfl, rfl, rfl, rfl, rfl, trivial⟩ Z Z Z rfl⟩
  ·
   refine zo g1 hr fun hr => zq (thn_e (thn_e (zy (zT ?_))));obtain rfl := zJ hr;have hr := congrArg some (hb_x1 _ rfl);obtain rfl := zJ hr;exact zW 4 ⟨Z, Z, Z, trivial⟩ Z Z Z Z
 ·have hr := ho_v2;clear hb_v2;refine zT (LW.weak hw_v2 (zQ (LW.drawW (by kernel_rfl) (by kernel_rfl) ?_)));refine yF (F := []) (s := none) Z (fun H _ => zA Z Z ft136_1) Z ?_;refine yF Z (zd Z Z Z vt24 Z Z) Z ?_;refine yF (F := []) (s := none) Z (fun H _ => zA Z Z ft136_0) Z ?_;refine yF Z (zd Z Z Z vt3 Z Z) Z ?_;refine yF (F := []) (s := none) Z (fun H _ => zb2 Z Z Z Z) Z ?_;refine yF Z (zt Z Z Z Z vt24 Z Z Z) Z (zK Z ?_);refine LF.nil ⟨by kernel_rfl, ?_⟩;refine zT (zr ?_);obtain rfl := zJ hr;exact zf (.two (.cellAgg Z Z (by kernel_rfl) Z) (.tmp Z)) (⟨_, rfl, (.cons zv (.cons zv .nil))⟩)
structure F81_L1 where
 id : ID
def F81_s1 (c : Cf) (l : List Bk) (v : List Vt) (x1 : F81_L1) : Option (F81_L1 ⊕ F81_L1) :=
 (F79 c l v x1.id).bind fun v2 =>
 bif !v2.2 then
  some (.inr (F81_L1.mk x1.id))
 else
  some (.inl (F81_L1.mk v2.1))
def F81 (c : Cf) (l : List Bk) (v : List Vt) : Option ID :=
 (iter (F81_s1 c l v) big (F81_L1.mk (0, 0))).bind fun v1 =>
 some v1.id
theorem c81 {c : Cf} {l : List Bk} {v : List Vt} {r_ : ID} (hr : F81 c l v = some r_) : LPure Tryz.prog 114 [cfP c, .slice 5 (l.map blkP), .slice 4 (v.map vtP)] [idP r_] := by
 refine zh Tryz.func114 Z Z Z Z ?_;unfold F81 at hr;refine zQ (zR (yS Z (zbx Z Z Z Z Z) (yS Z (ze Z zt24 Z Z) (zN (zT (LW.scope (zQ (LW.label (zT ?_)))))))));obtain ⟨v1, hb_v1, ho_v1⟩ := zB hr;clear hr;refine LW.cut (E := [(6, .ptr 1 0)]) (O := [.box (cfO c), .box [(uQ v1.id.1), (uQ v1.id.2)]]) ?_ ?_
 ·refine LW.block ?_;refine LW.iterB (E := fun x1 : F81_L1 => [(1, (kB l)), (2, (kV v)), (3, .ptr 0 0), (6, .ptr 1 0)]) (O := fun x1 => [.box (cfO c), .box [(uQ x1.id.1), (uQ x1.id.2)]]) hb_v1 (zW 2 ⟨rfl, rfl, rfl, rfl, trivial⟩ Z Z Z Z) (fun x1 z_x1 hr hb_x1 => ?_);unfold F81_s1 at hr;refine zl (zQ (zR (yS Z (zD Z Z Z vt55 Z Z) (zM Z (zM Z (yS Z (zD Z Z Z vt24 Z Z) (zb hr fun v2 h_v2 hr => yS Z (zC Z Z Z (by kernel_rfl) (zp (c79 h_v2) (.cons zv (.cons zv (.cons zv (.cons zv .nil)))))) (zM Z (yS Z (zX2 Z Z Z) (yS Z (zX2 Z Z Z) (yS Z (ze Z zt24 Z Z) (yS Z (zs Z Z Z Z vt24 Z Z Z Z) (zM Z (zN (zT (zQ (zQ (zR (zM Z (yS Z (LOp.not Z Z) (zN (zT ?_))))))))))))))))))))));refine zX Z (fun g1 => ?_) (fun g1 => ?_)
  ·
   refine zi g1 hr fun hr => zq (thn_e (inBlk_other (by decide) (thn_e (zy (zT ?_)))));obtain rfl := zJ hr;have hr := congrArg some (hb_x1 _ rfl);obtain rfl := zJ hr;exact zW 2 ⟨Z, trivial⟩ Z Z Z Z
  ·
   refine zo g1 hr fun hr => zk (zT (zR (yS Z (zD Z Z Z vt24 Z Z) (yS Z (zs Z Z Z Z vt24 Z Z Z Z) (zN (inBlk_n (zT ?_)))))));obtain rfl := zJ hr;exact ⟨_, rfl, zW 2 ⟨rfl, rfl, rfl, rfl, trivial⟩ Z Z Z rfl⟩
 ·have hr := ho_v1;clear hb_v1;refine zQ (zR (yS Z (zD Z Z Z vt24 Z Z) (yS Z (zs Z Z Z Z vt24 Z Z Z Z) (zN (zT (zr (noGo_r ?_)))))));obtain rfl := zJ hr;exact zf (.one (.cellAgg Z Z (by kernel_rfl) Z)) zv
open Go.Proofs
theorem c133V {α : Type} {f : α → PV} {l : List α} (hb : room 0 l.length 40 = true) : LC Tryz.prog 128 [.p (.slice 5 (l.map f))] [] (Is (.vec 5 0 (l.map f).length 0 (l.map f).length) [.vec 5 (l.map f)]) := by
 refine zh2 Tryz.func128 Z Z Z ?_;refine zQ (zR (yS Z (za Z Z) (zN (zT (zQ (zQ (zR (yS Z (zm Z Z) (LOps.cons Z Z Z (LOp.eqNil Z Z Z st27) ?_)))))))));rintro _ _ ⟨rfl, b, rfl, hn⟩;refine zN (zT ?_);refine zX Z (fun g => ?_) (fun g => ?_)
 ·have hl : l = [] := List.map_eq_nil_iff.1 (hn g);subst hl;exact zQ (zR (yS Z (za Z Z) (zN (zT (LW.ent (Ent.lazy (t := 2) (m := 5) Z Z Z) (zr (thn_r (fin_ret (.one (.tmp Z)) ⟨rfl, rfl⟩))))))))
 ·refine LW.skip ?_;exact zT (zQ (zR (yS Z (LOp.buildSlice0 Z st27) (yS Z (zm Z Z) (yS Z (LOp.appendZX f l Z Z Z Z Src.p Z st27 hb Z) (yS Z (za Z Z) (zN (zT (zr (fin_ret (.one (.tmp Z)) ⟨rfl, rfl⟩))))))))))
theorem c134V {α : Type} {f : α → PV} {l : List α} (hb : room 0 l.length 32 = true) : LC Tryz.prog 129 [.p (.slice 4 (l.map f))] [] (Is (.vec 4 0 (l.map f).length 0 (l.map f).length) [.vec 4 (l.map f)]) := by
 refine zh2 Tryz.func129 Z Z Z ?_;refine zQ (zR (yS Z (za Z Z) (zN (zT (zQ (zQ (zR (yS Z (zm Z Z) (LOps.cons Z Z Z (LOp.eqNil Z Z Z st68) ?_)))))))));rintro _ _ ⟨rfl, b, rfl, hn⟩;refine zN (zT ?_);refine zX Z (fun g => ?_) (fun g => ?_)
 ·have hl : l = [] := List.map_eq_nil_iff.1 (hn g);subst hl;exact zQ (zR (yS Z (za Z Z) (zN (zT (LW.ent (Ent.lazy (t := 2) (m := 4) Z Z Z) (zr (thn_r (fin_ret (.one (.tmp Z)) ⟨rfl, rfl⟩))))))))
 ·refine LW.skip ?_;exact zT (zQ (zR (yS Z (LOp.buildSlice0 Z st68) (yS Z (zm Z Z) (yS Z (LOp.appendZX f l Z Z Z Z Src.p Z st68 hb Z) (yS Z (za Z Z) (zN (zT (zr (fin_ret (.one (.tmp Z)) ⟨rfl, rfl⟩))))))))))
def F87 (c : Cf) (b : Bk) : Option Bool :=
 (F63 c b.Slot).bind fun v1 =>
 bif decide (v1 ≥ 0) then
  bif v1 == b.From then
   some (!((((nm b).1) == 0) && ((((nm b).2) == 0) && true)))
  else
   some false
 else
  some false
theorem c87 {c : Cf} {b : Bk} {r_ : Bool} (hr : F87 c b = some r_) : LPure Tryz.prog 133 [cfP c, blkP b] [.bool r_] := by
 refine zh Tryz.func133 Z Z Z Z ?_;unfold F87 at hr;refine zQ (zR (yS Z (zbx Z Z Z Z Z) (yS Z (zbx Z Z Z Z Z) (zM Z (zN (zT (zQ (zR (yS Z (zD Z Z Z vt55 Z Z) (yS Z (zA Z Z ft42_0) (yS Z (zD Z Z Z vt3 Z Z) (zb hr fun v1 h_v1 hr => yS Z (zC Z Z Z (by kernel_rfl) (zp (c63 h_v1) (.cons zv (.cons zv .nil)))) (zM Z (zN (zT (zQ (zR (zM Z (yS Z (zb2 Z Z Z Z) (zM Z ?_))))))))))))))))))));refine zc 12 Z (fun g1 => ?_) (fun g1 => ?_)
 ·
  refine zi g1 hr fun hr => yV Z (gd g1 Z) (zm Z Z) (yV Z (gd g1 Z) (zA Z Z ft42_1) (yV Z (gd g1 Z) (zD Z Z Z vt3 Z Z) (yV Z (gd g1 Z) (zb2 Z Z Z Z) (yS Z (zpT Z (gdl g1 Z) Z) (zM Z ?_)))));refine zc 18 Z (fun g2 => ?_) (fun g2 => ?_)
  ·
   refine zi g2 hr fun hr => yV Z (gd g2 Z) (zD Z Z Z vt42 Z Z) (yV Z (gd g2 Z) (zC Z Z Z (by kernel_rfl) (zp (c50 (b := b)) (.cons zv .nil))) (yV Z (gd g2 Z) (LOp.build Z bt24 Z Z Z) (yV Z (gd g2 Z) (LOp.neqAgg Z Z Z Z Z eqt24) (yS Z (zpT Z (gdl g2 Z) Z) (zM Z (zN (zT (zr ?_))))))));obtain rfl := zJ hr;exact zf (.one (.tmp Z)) zv
  ·
   refine zo g2 hr fun hr => yU Z (gd g2 Z) Z (yU Z (gd g2 Z) Z (yU Z (gd g2 Z) Z (yU Z (gd g2 Z) Z (yS Z (zpF Z (gdl g2 Z) Z) (zM Z (zN (zT (zr ?_))))))));obtain rfl := zJ hr;exact zf (.one (.tmp Z)) zv
 ·
  refine zo g1 hr fun hr => yU Z (gd g1 Z) Z (yU Z (gd g1 Z) Z (yU Z (gd g1 Z) Z (yU Z (gd g1 Z) Z (yS Z (zpF Z (gdl g1 Z) Z) (zM Z (yU Z Z Z (yU Z Z Z (yU Z Z Z (yU Z Z Z (yS Z (zpF Z Z Z) (zM Z (zN (zT (zr ?_))))))))))))));obtain rfl := zJ hr;exact zf (.one (.tmp Z)) zv
def F88 (c : Cf) (v : Vt) : Option Bool :=
 (F74 c v.Slot v.From).bind fun v1 =>
 some v1
theorem c88 {c : Cf} {v : Vt} {r_ : Bool} (hr : F88 c v = some r_) : LPure Tryz.prog 135 [cfP c, vtP v] [.bool r_] := by
 refine zh Tryz.func135 Z Z Z Z ?_;unfold F88 at hr;refine zQ (zR (yS Z (zbx Z Z Z Z Z) (yS Z (zbx Z Z Z Z Z) (zM Z (zN (zT (zQ (zR (yS Z (zD Z Z Z vt55 Z Z) (yS Z (zA Z Z ft82_1) (yS Z (zD Z Z Z vt3 Z Z) (yS Z (zA Z Z ft82_0) (yS Z (zD Z Z Z vt3 Z Z) (zb hr fun v1 h_v1 hr => yS Z (zC Z Z Z (by kernel_rfl) (zp (c74 h_v1) (.cons zv (.cons zv (.cons zv .nil))))) (zM Z (zN (zT (zr ?_))))))))))))))))));obtain rfl := zJ hr;exact zf (.one (.tmp Z)) zv
structure F170_L1 where
 t8 : Int
def F170_s1 (s : List Bk) (v : Bk) (x1 : F170_L1) : Option (F170_L1 ⊕ (F170_L1 ⊕ Int)) :=
 bif decide (x1.t8 < (s.length : Int)) then
  (ix s x1.t8).bind fun y1 =>
  bif ((v.Slot == y1.Slot) && ((v.From == y1.From) && ((v.Parent.1 == y1.Parent.1) && ((v.Parent.2 == y1.Parent.2) && ((v.Salt == y1.Salt) && true))))) then
   some (.inr (.inr x1.t8))
  else
   some (.inl (F170_L1.mk (IntKind.i64.wrap (x1.t8 + 1))))
 else
  some (.inr (.inl (F170_L1.mk x1.t8)))
def F170 (s : List Bk) (v : Bk) : Option Int :=
 (iter (F170_s1 s v) big (F170_L1.mk 0)).bind fun b_v1 => Sum.elim (fun _ =>
  some (-1)) some b_v1
theorem c170 {s : List Bk} {v : Bk} {r_ : Int} (hr : F170 s v = some r_) : LPure Tryz.prog 130 [.slice 5 (s.map blkP), blkP v] [.int .i64 r_] := by
 refine zh Tryz.func130 Z Z Z Z ?_;unfold F170 at hr;refine zQ (zR (yS Z (zbx Z Z Z Z Z) (zM Z (zN (zT (zQ (zQ (zR (zM Z (yS Z (zlM Z Z (by kernel_rfl)) (zM Z (zN (zT ?_)))))))))))));obtain ⟨b_v1, hb_v1, ho_v1⟩ := zB hr;clear hr;refine LW.tailB (b := b_v1) (E := fun v1 => [(4, (iQ 0))]) (O := fun v1 => [.box [(iQ v.Slot), (iQ v.From), (uQ v.Parent.1), (uQ v.Parent.2), (uQ v.Salt)]]) ?_ (fun v1 e_v1 env_v1 H_v1 hw_v1 => ?_)
 ·refine LW.block ?_;refine LW.iterB (E := fun x1 : F170_L1 => [(0, (kB s)), (3, .ptr 0 0), (4, (iQ 0)), (7, .p (.int .i64 (s.length : Int))), (8, (iQ x1.t8))]) (O := fun x1 => [.box [(iQ v.Slot), (iQ v.From), (uQ v.Parent.1), (uQ v.Parent.2), (uQ v.Salt)]]) hb_v1 (zW 1 ⟨rfl, rfl, rfl, rfl, rfl, trivial⟩ Z Z Z Z) (fun x1 z_x1 hr hb_x1 => ?_);unfold F170_s1 at hr;refine zQ (zR (yS Z (zb2 Z Z Z Z) (zN (zT (zQ ?_)))));refine zX Z (fun g1 => ?_) (fun g1 => ?_)
  ·
   refine zi g1 hr fun hr => zk (zT (zQ (zl (zQ (zR (zM Z (zM Z (zN (zT (zQ (LW.draw2 (by kernel_rfl) (by kernel_rfl) (yE Z (zD Z Z Z vt42 Z Z) (zH Z (zH Z (zb hr fun y1 h_y1 hr => yE Z (zx Z Z Z st27 h_y1 Z) (yE Z (zC2 Z Z Z vt42 Z Z) (yE Z (LOp.eqlAgg Z Z Z Z Z eqt42) (LO.nil (zT ?_)))))))))))))))))));refine zX Z (fun g2 => ?_) (fun g2 => ?_)
   ·
    refine zi g2 hr fun hr => zQ (zR (zM Z (zM Z (zN (zT (zr (inBlk_r (thn_r (thn_r (inBlk_r (thn_r (thn_r ?_))))))))))));obtain rfl := zJ hr;have hr := congrArg some (hb_x1 _ rfl);obtain rfl := zJ hr;have hr := sum_r ho_v1;obtain rfl := zJ hr;exact zf (.one (.tmp Z)) zv
   ·
    refine zo g2 hr fun hr => zk (inBlk_n (zT (zR (yS Z (zb2 Z Z Z Z) (zM Z (zN (zT ?_)))))));obtain rfl := zJ hr;exact ⟨_, rfl, zW 1 ⟨rfl, rfl, rfl, rfl, rfl, trivial⟩ Z Z Z rfl⟩
  ·
   refine zo g1 hr fun hr => zq (thn_e (thn_e (zy (zT ?_))));obtain rfl := zJ hr;have hr := congrArg some (hb_x1 _ rfl);obtain rfl := zJ hr;exact ⟨_, rfl, zW 1 ⟨rfl, trivial⟩ Z Z Z rfl⟩
 ·obtain rfl := e_v1;have hr := sum_l ho_v1;clear hb_v1;refine zT (LW.weak hw_v1 (zQ (zR (zM Z (zN (zT (zr ?_)))))));obtain rfl := zJ hr;exact zf (.one (.tmp Z)) zv
structure F171_L1 where
 t8 : Int
def F171_s1 (s : List Vt) (v : Vt) (x1 : F171_L1) : Option (F171_L1 ⊕ (F171_L1 ⊕ Int)) :=
 bif decide (x1.t8 < (s.length : Int)) then
  (ix s x1.t8).bind fun y1 =>
  bif ((v.From == y1.From) && ((v.Slot == y1.Slot) && ((v.Head.1 == y1.Head.1) && ((v.Head.2 == y1.Head.2) && true)))) then
   some (.inr (.inr x1.t8))
  else
   some (.inl (F171_L1.mk (IntKind.i64.wrap (x1.t8 + 1))))
 else
  some (.inr (.inl (F171_L1.mk x1.t8)))
def F171 (s : List Vt) (v : Vt) : Option Int :=
 (iter (F171_s1 s v) big (F171_L1.mk 0)).bind fun b_v1 => Sum.elim (fun _ =>
  some (-1)) some b_v1
theorem c171 {s : List Vt} {v : Vt} {r_ : Int} (hr : F171 s v = some r_) : LPure Tryz.prog 131 [.slice 4 (s.map vtP), vtP v] [.int .i64 r_] := by
 refine zh Tryz.func131 Z Z Z Z ?_;unfold F171 at hr;refine zQ (zR (yS Z (zbx Z Z Z Z Z) (zM Z (zN (zT (zQ (zQ (zR (zM Z (yS Z (zlM Z Z (by kernel_rfl)) (zM Z (zN (zT ?_)))))))))))));obtain ⟨b_v1, hb_v1, ho_v1⟩ := zB hr;clear hr;refine LW.tailB (b := b_v1) (E := fun v1 => [(4, (iQ 0))]) (O := fun v1 => [.box [(iQ v.From), (iQ v.Slot), (uQ v.Head.1), (uQ v.Head.2)]]) ?_ (fun v1 e_v1 env_v1 H_v1 hw_v1 => ?_)
 ·refine LW.block ?_;refine LW.iterB (E := fun x1 : F171_L1 => [(0, (kV s)), (3, .ptr 0 0), (4, (iQ 0)), (7, .p (.int .i64 (s.length : Int))), (8, (iQ x1.t8))]) (O := fun x1 => [.box [(iQ v.From), (iQ v.Slot), (uQ v.Head.1), (uQ v.Head.2)]]) hb_v1 (zW 1 ⟨rfl, rfl, rfl, rfl, rfl, trivial⟩ Z Z Z Z) (fun x1 z_x1 hr hb_x1 => ?_);unfold F171_s1 at hr;refine zQ (zR (yS Z (zb2 Z Z Z Z) (zN (zT (zQ ?_)))));refine zX Z (fun g1 => ?_) (fun g1 => ?_)
  ·
   refine zi g1 hr fun hr => zk (zT (zQ (zl (zQ (zR (zM Z (zM Z (zN (zT (zQ (LW.draw2 (by kernel_rfl) (by kernel_rfl) (yE Z (zD Z Z Z vt82 Z Z) (zH Z (zH Z (zb hr fun y1 h_y1 hr => yE Z (zx Z Z Z st68 h_y1 Z) (yE Z (zC2 Z Z Z vt82 Z Z) (yE Z (LOp.eqlAgg Z Z Z Z Z eqt82) (LO.nil (zT ?_)))))))))))))))))));refine zX Z (fun g2 => ?_) (fun g2 => ?_)
   ·
    refine zi g2 hr fun hr => zQ (zR (zM Z (zM Z (zN (zT (zr (inBlk_r (thn_r (thn_r (inBlk_r (thn_r (thn_r ?_))))))))))));obtain rfl := zJ hr;have hr := congrArg some (hb_x1 _ rfl);obtain rfl := zJ hr;have hr := sum_r ho_v1;obtain rfl := zJ hr;exact zf (.one (.tmp Z)) zv
   ·
    refine zo g2 hr fun hr => zk (inBlk_n (zT (zR (yS Z (zb2 Z Z Z Z) (zM Z (zN (zT ?_)))))));obtain rfl := zJ hr;exact ⟨_, rfl, zW 1 ⟨rfl, rfl, rfl, rfl, rfl, trivial⟩ Z Z Z rfl⟩
  ·
   refine zo g1 hr fun hr => zq (thn_e (thn_e (zy (zT ?_))));obtain rfl := zJ hr;have hr := congrArg some (hb_x1 _ rfl);obtain rfl := zJ hr;exact ⟨_, rfl, zW 1 ⟨rfl, trivial⟩ Z Z Z rfl⟩
 ·obtain rfl := e_v1;have hr := sum_l ho_v1;clear hb_v1;refine zT (LW.weak hw_v1 (zQ (zR (zM Z (zN (zT (zr ?_)))))));obtain rfl := zJ hr;exact zf (.one (.tmp Z)) zv
def F161 (s : List Bk) (v : Bk) : Option Bool :=
 (F170 s v).bind fun v1 =>
 some (decide (v1 ≥ 0))
theorem c161 {s : List Bk} {v : Bk} {r_ : Bool} (hr : F161 s v = some r_) : LPure Tryz.prog 90 [.slice 5 (s.map blkP), blkP v] [.bool r_] := by
 refine zh Tryz.func90 Z Z Z Z ?_;unfold F161 at hr;refine zQ (zR (yS Z (zbx Z Z Z Z Z) (zM Z (zN (zT (zQ (zR (zM Z (yS Z (zD Z Z Z vt42 Z Z) (zb hr fun v1 h_v1 hr => yS Z (zC Z Z Z (by kernel_rfl) (zp (c170 h_v1) (.cons zv (.cons zv .nil)))) (yS Z (zb2 Z Z Z Z) (zM Z (zN (zT (zr ?_)))))))))))))));obtain rfl := zJ hr;exact zf (.one (.tmp Z)) zv
def F162 (s : List Vt) (v : Vt) : Option Bool :=
 (F171 s v).bind fun v1 =>
 some (decide (v1 ≥ 0))
theorem c162 {s : List Vt} {v : Vt} {r_ : Bool} (hr : F162 s v = some r_) : LPure Tryz.prog 93 [.slice 4 (s.map vtP), vtP v] [.bool r_] := by
 refine zh Tryz.func93 Z Z Z Z ?_;unfold F162 at hr;refine zQ (zR (yS Z (zbx Z Z Z Z Z) (zM Z (zN (zT (zQ (zR (zM Z (yS Z (zD Z Z Z vt82 Z Z) (zb hr fun v1 h_v1 hr => yS Z (zC Z Z Z (by kernel_rfl) (zp (c171 h_v1) (.cons zv (.cons zv .nil)))) (yS Z (zb2 Z Z Z Z) (zM Z (zN (zT (zr ?_)))))))))))))));obtain rfl := zJ hr;exact zf (.one (.tmp Z)) zv
structure F139_L1 where
 t12 : Int
 out : List Bk
def F139_s1 (b : List Bk) (x1 : F139_L1) : Option (F139_L1 ⊕ F139_L1) :=
 bif decide (x1.t12 < (b.length : Int)) then
  (ix b x1.t12).bind fun y1 =>
  (F161 x1.out y1).bind fun v2 =>
  bif !v2 then
   bif room x1.out.length [y1].length 40 then
    some (.inl (F139_L1.mk (IntKind.i64.wrap (x1.t12 + 1)) (x1.out ++ [y1])))
   else none
  else
   some (.inl (F139_L1.mk (IntKind.i64.wrap (x1.t12 + 1)) x1.out))
 else
  some (.inr (F139_L1.mk x1.t12 x1.out))
def F139 (a : List Bk) (b : List Bk) : Option (List Bk) :=
 bif room 0 a.length 40 then
  (iter (F139_s1 b) big (F139_L1.mk 0 a)).bind fun v1 =>
  some v1.out
 else none
theorem c139 {a : List Bk} {b : List Bk} {r_ : (List Bk)} (hr : F139 a b = some r_) : LPure Tryz.prog 123 [.slice 5 (a.map blkP), .slice 5 (b.map blkP)] [.slice 5 (r_.map blkP)] := by
 refine zh Tryz.func123 Z Z Z Z ?_;unfold F139 at hr;refine zQ (zR (zM Z (zN (zT (zQ (zR (zM Z (zg hr fun q1 hr => yS Z (LOp.callV (qs := [(kB a)]) Z Z Z (by kernel_rfl) (c133V q1) (.consC zv .nil) Z Z) (zM Z (zN (zT (zQ (zQ (zR (zM Z (yS Z (zlM Z Z (by kernel_rfl)) (zM Z (zN (zT ?_)))))))))))))))))));obtain ⟨v1, hb_v1, ho_v1⟩ := zB hr;clear hr;refine LW.tail (E := [(4, .zs), (5, (jB 0 v1.out))]) (O := [.vec 5 (v1.out.map blkP)]) ?_ (fun env_v1 H_v1 hw_v1 => ?_)
 ·refine LW.block ?_;refine LW.iterB (E := fun x1 : F139_L1 => [(4, .zs), (5, (jB 0 x1.out)), (10, (kB b)), (11, .p (.int .i64 (b.length : Int))), (12, (iQ x1.t12))]) (O := fun x1 => [.vec 5 (x1.out.map blkP)]) hb_v1 (zW 1 ⟨rfl, rfl, rfl, rfl, rfl, trivial⟩ Z Z Z Z) (fun x1 z_x1 hr hb_x1 => ?_);unfold F139_s1 at hr;refine zQ (zR (yS Z (zb2 Z Z Z Z) (zN (zT (zQ ?_)))));refine zX Z (fun g1 => ?_) (fun g1 => ?_)
  ·
   refine zi g1 hr fun hr => zk (zT (zQ (zl (zQ (zR (zb hr fun y1 h_y1 hr => yS Z (zx Z Z Z st27 h_y1 Z) (yS Z (zC2 Z Z Z vt42 Z Z) (yS Z (ze Z zt42 Z Z) (yS Z (zs Z Z Z Z vt42 Z Z Z Z) (zN (zT (zQ (zR (zM Z (yS Z (zD Z Z Z vt42 Z Z) (zb hr fun v2 h_v2 hr => yS Z (zC Z Z Z (by kernel_rfl) (LC.lend (c161 h_v2) (.cons (Conv.vecAll Z Z Z) (.cons zv .nil)) Z)) (yS Z (LOp.not Z Z) (zN (zT ?_)))))))))))))))))));refine zX Z (fun g2 => ?_) (fun g2 => ?_)
   ·
    refine zi g2 hr fun hr => zR (zM Z (yS Z (zD Z Z Z vt42 Z Z) (yS Z (zB2 Z st27 Z Z Z Z Z) (zg hr fun q2 hr => yS Z (LOp.appendX blkP x1.out [y1] rfl Z Z Z Src.p Z st27 q2 Z) (zM Z (zN (inBlk_n (zT (zR (yS Z (zb2 Z Z Z Z) (zM Z (zN (zT ?_)))))))))))));obtain rfl := zJ hr;exact ⟨_, rfl, zW 1 ⟨rfl, rfl, rfl, rfl, rfl, trivial⟩ Z Z Z rfl⟩
   ·
    refine zo g2 hr fun hr => zk (inBlk_n (zT (zR (yS Z (zb2 Z Z Z Z) (zM Z (zN (zT ?_)))))));obtain rfl := zJ hr;exact ⟨_, rfl, zW 1 ⟨rfl, rfl, rfl, rfl, rfl, trivial⟩ Z Z Z rfl⟩
  ·
   refine zo g1 hr fun hr => zq (thn_e (thn_e (zy (zT ?_))));obtain rfl := zJ hr;have hr := congrArg some (hb_x1 _ rfl);obtain rfl := zJ hr;exact zW 1 ⟨Z, Z, trivial⟩ Z Z Z Z
 ·have hr := ho_v1;clear hb_v1;refine zT (LW.weak hw_v1 (zQ (zR (zM Z (zM Z (zN (zT (zr ?_))))))));obtain rfl := zJ hr;exact zf (.one (.tmp Z)) ((Conv.vecAll Z Z Z))
structure F140_L1 where
 t12 : Int
 out : List Vt
def F140_s1 (b : List Vt) (x1 : F140_L1) : Option (F140_L1 ⊕ F140_L1) :=
 bif decide (x1.t12 < (b.length : Int)) then
  (ix b x1.t12).bind fun y1 =>
  (F162 x1.out y1).bind fun v2 =>
  bif !v2 then
   bif room x1.out.length [y1].length 32 then
    some (.inl (F140_L1.mk (IntKind.i64.wrap (x1.t12 + 1)) (x1.out ++ [y1])))
   else none
  else
   some (.inl (F140_L1.mk (IntKind.i64.wrap (x1.t12 + 1)) x1.out))
 else
  some (.inr (F140_L1.mk x1.t12 x1.out))
def F140 (a : List Vt) (b : List Vt) : Option (List Vt) :=
 bif room 0 a.length 32 then
  (iter (F140_s1 b) big (F140_L1.mk 0 a)).bind fun v1 =>
  some v1.out
 else none
theorem c140 {a : List Vt} {b : List Vt} {r_ : (List Vt)} (hr : F140 a b = some r_) : LPure Tryz.prog 124 [.slice 4 (a.map vtP), .slice 4 (b.map vtP)] [.slice 4 (r_.map vtP)] := by
 refine zh Tryz.func124 Z Z Z Z ?_;unfold F140 at hr;refine zQ (zR (zM Z (zN (zT (zQ (zR (zM Z (zg hr fun q1 hr => yS Z (LOp.callV (qs := [(kV a)]) Z Z Z (by kernel_rfl) (c134V q1) (.consC zv .nil) Z Z) (zM Z (zN (zT (zQ (zQ (zR (zM Z (yS Z (zlM Z Z (by kernel_rfl)) (zM Z (zN (zT ?_)))))))))))))))))));obtain ⟨v1, hb_v1, ho_v1⟩ := zB hr;clear hr;refine LW.tail (E := [(4, .zs), (5, (jV 0 v1.out))]) (O := [.vec 4 (v1.out.map vtP)]) ?_ (fun env_v1 H_v1 hw_v1 => ?_)
 ·refine LW.block ?_;refine LW.iterB (E := fun x1 : F140_L1 => [(4, .zs), (5, (jV 0 x1.out)), (10, (kV b)), (11, .p (.int .i64 (b.length : Int))), (12, (iQ x1.t12))]) (O := fun x1 => [.vec 4 (x1.out.map vtP)]) hb_v1 (zW 1 ⟨rfl, rfl, rfl, rfl, rfl, trivial⟩ Z Z Z Z) (fun x1 z_x1 hr hb_x1 => ?_);unfold F140_s1 at hr;refine zQ (zR (yS Z (zb2 Z Z Z Z) (zN (zT (zQ ?_)))));refine zX Z (fun g1 => ?_) (fun g1 => ?_)
  ·
   refine zi g1 hr fun hr => zk (zT (zQ (zl (zQ (zR (zb hr fun y1 h_y1 hr => yS Z (zx Z Z Z st68 h_y1 Z) (yS Z (zC2 Z Z Z vt82 Z Z) (yS Z (ze Z zt82 Z Z) (yS Z (zs Z Z Z Z vt82 Z Z Z Z) (zN (zT (zQ (zR (zM Z (yS Z (zD Z Z Z vt82 Z Z) (zb hr fun v2 h_v2 hr => yS Z (zC Z Z Z (by kernel_rfl) (LC.lend (c162 h_v2) (.cons (Conv.vecAll Z Z Z) (.cons zv .nil)) Z)) (yS Z (LOp.not Z Z) (zN (zT ?_)))))))))))))))))));refine zX Z (fun g2 => ?_) (fun g2 => ?_)
   ·
    refine zi g2 hr fun hr => zR (zM Z (yS Z (zD Z Z Z vt82 Z Z) (yS Z (zB2 Z st68 Z Z Z Z Z) (zg hr fun q2 hr => yS Z (LOp.appendX vtP x1.out [y1] rfl Z Z Z Src.p Z st68 q2 Z) (zM Z (zN (inBlk_n (zT (zR (yS Z (zb2 Z Z Z Z) (zM Z (zN (zT ?_)))))))))))));obtain rfl := zJ hr;exact ⟨_, rfl, zW 1 ⟨rfl, rfl, rfl, rfl, rfl, trivial⟩ Z Z Z rfl⟩
   ·
    refine zo g2 hr fun hr => zk (inBlk_n (zT (zR (yS Z (zb2 Z Z Z Z) (zM Z (zN (zT ?_)))))));obtain rfl := zJ hr;exact ⟨_, rfl, zW 1 ⟨rfl, rfl, rfl, rfl, rfl, trivial⟩ Z Z Z rfl⟩
  ·
   refine zo g1 hr fun hr => zq (thn_e (thn_e (zy (zT ?_))));obtain rfl := zJ hr;have hr := congrArg some (hb_x1 _ rfl);obtain rfl := zJ hr;exact zW 1 ⟨Z, Z, trivial⟩ Z Z Z Z
 ·have hr := ho_v1;clear hb_v1;refine zT (LW.weak hw_v1 (zQ (zR (zM Z (zM Z (zN (zT (zr ?_))))))));obtain rfl := zJ hr;exact zf (.one (.tmp Z)) ((Conv.vecAll Z Z Z))
def F91 (a : Vw) (b : Vw) : Option Vw :=
 (F139 a.B b.B).bind fun v1 =>
 (F140 a.V b.V).bind fun v2 =>
 some (Vw.mk v1 v2)
theorem c91 {a : Vw} {b : Vw} {r_ : Vw} (hr : F91 a b = some r_) : LPure Tryz.prog 68 [vwP a, vwP b] [vwP r_] := by
 refine zh Tryz.func68 Z Z Z Z ?_;unfold F91 at hr;refine zQ (zR (yS Z (zbx Z Z Z Z Z) (yS Z (zbx Z Z Z Z Z) (yS Z (ze Z zt75 Z Z) (zN (zT (zQ (LW.drawLast (m := 11) (by kernel_rfl) (by kernel_rfl) (by kernel_rfl) (yE Z (zA Z Z ft75_0) (yE Z (zD Z Z Z vt27 Z Z) (yE Z (zA Z Z ft75_0) (yE Z (zD Z Z Z vt27 Z Z) (zb hr fun v1 h_v1 hr => yE Z (zC Z Z Z (by kernel_rfl) (zp (c139 h_v1) (.cons zv (.cons zv .nil)))) (yE Z (zA Z Z ft75_1) (yE Z (zD Z Z Z vt68 Z Z) (yE Z (zA Z Z ft75_1) (yE Z (zD Z Z Z vt68 Z Z) (zb hr fun v2 h_v2 hr => yE Z (zC Z Z Z (by kernel_rfl) (zp (c140 h_v2) (.cons zv (.cons zv .nil)))) (yE Z (LOp.build Z bt75 Z Z Z) (LO.nil (yS Z (zs Z Z Z Z vt75 Z Z Z Z) ?_)))))))))))))))))))));refine zN (zT (zr ?_));obtain rfl := zJ hr;exact zf (.one (.cellAgg Z Z (by kernel_rfl) Z)) zv
structure F163_L1 where
 n : Int
 i : Int
def F163_s1 (l : List Vt) (v : Vt) (x1 : F163_L1) : Option (F163_L1 ⊕ F163_L1) :=
 bif decide (x1.i < (l.length : Int)) then
  (ix l x1.i).bind fun y1 =>
  bif ((y1.From == v.From) && ((y1.Slot == v.Slot) && ((y1.Head.1 == v.Head.1) && ((y1.Head.2 == v.Head.2) && true)))) then
   some (.inl (F163_L1.mk (IntKind.i64.wrap (x1.n + 1)) (IntKind.i64.wrap (x1.i + 1))))
  else
   some (.inl (F163_L1.mk x1.n (IntKind.i64.wrap (x1.i + 1))))
 else
  some (.inr (F163_L1.mk x1.n x1.i))
def F163 (l : List Vt) (v : Vt) : Option Int :=
 (iter (F163_s1 l v) big (F163_L1.mk 0 0)).bind fun v1 =>
 some v1.n
theorem c163 {l : List Vt} {v : Vt} {r_ : Int} (hr : F163 l v = some r_) : LPure Tryz.prog 74 [.slice 4 (l.map vtP), vtP v] [.int .i64 r_] := by
 refine zh Tryz.func74 Z Z Z Z ?_;unfold F163 at hr;refine zQ (zR (yS Z (zbx Z Z Z Z Z) (zM Z (zN (zT (zQ (zR (zM Z (zN (zT (zQ (zQ (zR (zM Z (zN (zT ?_))))))))))))))));obtain ⟨v1, hb_v1, ho_v1⟩ := zB hr;clear hr;refine LW.tail (E := [(4, (iQ 0)), (5, (iQ v1.n))]) (O := [.box [(iQ v.From), (iQ v.Slot), (uQ v.Head.1), (uQ v.Head.2)]]) ?_ (fun env_v1 H_v1 hw_v1 => ?_)
 ·refine LW.block ?_;refine LW.iterB (E := fun x1 : F163_L1 => [(0, (kV l)), (3, .ptr 0 0), (4, (iQ 0)), (5, (iQ x1.n)), (6, (iQ x1.i))]) (O := fun x1 => [.box [(iQ v.From), (iQ v.Slot), (uQ v.Head.1), (uQ v.Head.2)]]) hb_v1 (zW 1 ⟨rfl, rfl, rfl, rfl, rfl, trivial⟩ Z Z Z Z) (fun x1 z_x1 hr hb_x1 => ?_);unfold F163_s1 at hr;refine zQ (zQ (zR (zM Z (zM Z (yS Z (zlM Z Z (by kernel_rfl)) (yS Z (zb2 Z Z Z Z) (zN (zT ?_))))))));refine zX Z (fun g1 => ?_) (fun g1 => ?_)
  ·
   refine zi g1 hr fun hr => zk (zT (zQ (zl (zQ (LW.draw2 (by kernel_rfl) (by kernel_rfl) (zH Z (zH Z (zb hr fun y1 h_y1 hr => yE Z (zx Z Z Z st68 h_y1 Z) (yE Z (zC2 Z Z Z vt82 Z Z) (yE Z (zD Z Z Z vt82 Z Z) (yE Z (LOp.eqlAgg Z Z Z Z Z eqt82) (LO.nil (zT ?_)))))))))))));refine zX Z (fun g2 => ?_) (fun g2 => ?_)
   ·
    refine zi g2 hr fun hr => zR (zM Z (yS Z (zb2 Z Z Z Z) (zM Z (zN (inBlk_n (zT (zR (zM Z (yS Z (zb2 Z Z Z Z) (zM Z (zN (zT ?_))))))))))));obtain rfl := zJ hr;exact ⟨_, rfl, zW 1 ⟨rfl, rfl, rfl, rfl, rfl, trivial⟩ Z Z Z rfl⟩
   ·
    refine zo g2 hr fun hr => zk (inBlk_n (zT (zR (zM Z (yS Z (zb2 Z Z Z Z) (zM Z (zN (zT ?_))))))));obtain rfl := zJ hr;exact ⟨_, rfl, zW 1 ⟨rfl, rfl, rfl, rfl, rfl, trivial⟩ Z Z Z rfl⟩
  ·
   refine zo g1 hr fun hr => zq (thn_e (thn_e (zy (zT ?_))));obtain rfl := zJ hr;have hr := congrArg some (hb_x1 _ rfl);obtain rfl := zJ hr;exact zW 1 ⟨Z, Z, trivial⟩ Z Z Z Z
 ·have hr := ho_v1;clear hb_v1;refine zT (LW.weak hw_v1 (zQ (zR (zM Z (zM Z (zN (zT (zr ?_))))))));obtain rfl := zJ hr;exact zf (.one (.tmp Z)) zv
structure F129_L1 where
 i : Int
def F129_s1 (a : List Vt) (b : List Vt) (x1 : F129_L1) : Option (F129_L1 ⊕ (F129_L1 ⊕ Bool)) :=
 bif decide (x1.i < (a.length : Int)) then
  (ix a x1.i).bind fun y1 =>
  (ix b x1.i).bind fun y2 =>
  bif !((y1.From == y2.From) && ((y1.Slot == y2.Slot) && ((y1.Head.1 == y2.Head.1) && ((y1.Head.2 == y2.Head.2) && true)))) then
   some (.inr (.inr false))
  else
   some (.inl (F129_L1.mk (IntKind.i64.wrap (x1.i + 1))))
 else
  some (.inr (.inl (F129_L1.mk x1.i)))
def F129 (a : List Vt) (b : List Vt) : Option Bool :=
 bif (a.length : Int) != (b.length : Int) then
  some false
 else
  (iter (F129_s1 a b) big (F129_L1.mk 0)).bind fun b_v1 => Sum.elim (fun _ =>
   some true) some b_v1
theorem c129 {a : List Vt} {b : List Vt} {r_ : Bool} (hr : F129 a b = some r_) : LPure Tryz.prog 77 [.slice 4 (a.map vtP), .slice 4 (b.map vtP)] [.bool r_] := by
 refine zh Tryz.func77 Z Z Z Z ?_;unfold F129 at hr;refine zQ (zR (zM Z (zN (zT (zQ (zQ (zR (zM Z (yS Z (zlM Z Z (by kernel_rfl)) (zM Z (yS Z (zlM Z Z (by kernel_rfl)) (yS Z (zb2 Z Z Z Z) (zN (zT ?_))))))))))))));refine zX Z (fun g1 => ?_) (fun g1 => ?_)
 ·
  refine zi g1 hr fun hr => zQ (zR (zM Z (zN (zT (zr (thn_r ?_))))));obtain rfl := zJ hr;exact zf (.one (.tmp Z)) zv
 ·
  refine zo g1 hr fun hr => zk (zT (zQ (zQ (zR (zM Z (zN (zT ?_)))))));obtain ⟨b_v1, hb_v1, ho_v1⟩ := zB hr;clear hr;refine LW.tailB (b := b_v1) (E := fun v1 => [(4, (bQ false))]) (O := fun v1 => []) ?_ (fun v1 e_v1 env_v1 H_v1 hw_v1 => ?_)
  ·refine LW.block ?_;refine LW.iterB (E := fun x1 : F129_L1 => [(0, (kV a)), (1, (kV b)), (4, (bQ false)), (5, (iQ x1.i))]) (O := fun x1 => []) hb_v1 (zW 0 ⟨rfl, rfl, rfl, rfl, trivial⟩ Z Z Z Z) (fun x1 z_x1 hr hb_x1 => ?_);unfold F129_s1 at hr;refine zQ (zQ (zR (zM Z (zM Z (yS Z (zlM Z Z (by kernel_rfl)) (yS Z (zb2 Z Z Z Z) (zN (zT ?_))))))));refine zX Z (fun g2 => ?_) (fun g2 => ?_)
   ·
    refine zi g2 hr fun hr => zk (zT (zQ (zl (zQ (LW.draw2 (by kernel_rfl) (by kernel_rfl) (zH Z (zH Z (zb hr fun y1 h_y1 hr => yE Z (zx Z Z Z st68 h_y1 Z) (yE Z (zC2 Z Z Z vt82 Z Z) (zH Z (zH Z (zb hr fun y2 h_y2 hr => yE Z (zx Z Z Z st68 h_y2 Z) (yE Z (zC2 Z Z Z vt82 Z Z) (yE Z (LOp.neqAgg Z Z Z Z Z eqt82) (LO.nil (zT ?_))))))))))))))));refine zX Z (fun g3 => ?_) (fun g3 => ?_)
    ·
     refine zi g3 hr fun hr => zQ (zR (zM Z (zN (zT (zr (inBlk_r (thn_r (thn_r (inBlk_r (thn_r (thn_r ?_)))))))))));obtain rfl := zJ hr;have hr := congrArg some (hb_x1 _ rfl);obtain rfl := zJ hr;have hr := sum_r ho_v1;obtain rfl := zJ hr;exact zf (.one (.tmp Z)) zv
    ·
     refine zo g3 hr fun hr => zk (inBlk_n (zT (zR (zM Z (yS Z (zb2 Z Z Z Z) (zM Z (zN (zT ?_))))))));obtain rfl := zJ hr;exact ⟨_, rfl, zW 0 ⟨rfl, rfl, rfl, rfl, trivial⟩ Z Z Z rfl⟩
   ·
    refine zo g2 hr fun hr => zq (thn_e (thn_e (zy (zT ?_))));obtain rfl := zJ hr;have hr := congrArg some (hb_x1 _ rfl);obtain rfl := zJ hr;exact ⟨_, rfl, zW 0 ⟨rfl, trivial⟩ Z Z Z rfl⟩
  ·obtain rfl := e_v1;have hr := sum_l ho_v1;clear hb_v1;refine zT (LW.weak hw_v1 (zQ (zR (zM Z (zN (zT (zr ?_)))))));obtain rfl := zJ hr;exact zf (.one (.tmp Z)) zv
structure F128_L1 where
 i : Int
def F128_s1 (a : List Bk) (b : List Bk) (x1 : F128_L1) : Option (F128_L1 ⊕ (F128_L1 ⊕ Bool)) :=
 bif decide (x1.i < (a.length : Int)) then
  (ix a x1.i).bind fun y1 =>
  (ix b x1.i).bind fun y2 =>
  bif !((y1.Slot == y2.Slot) && ((y1.From == y2.From) && ((y1.Parent.1 == y2.Parent.1) && ((y1.Parent.2 == y2.Parent.2) && ((y1.Salt == y2.Salt) && true))))) then
   some (.inr (.inr false))
  else
   some (.inl (F128_L1.mk (IntKind.i64.wrap (x1.i + 1))))
 else
  some (.inr (.inl (F128_L1.mk x1.i)))
def F128 (a : List Bk) (b : List Bk) : Option Bool :=
 bif (a.length : Int) != (b.length : Int) then
  some false
 else
  (iter (F128_s1 a b) big (F128_L1.mk 0)).bind fun b_v1 => Sum.elim (fun _ =>
   some true) some b_v1
theorem c128 {a : List Bk} {b : List Bk} {r_ : Bool} (hr : F128 a b = some r_) : LPure Tryz.prog 76 [.slice 5 (a.map blkP), .slice 5 (b.map blkP)] [.bool r_] := by
 refine zh Tryz.func76 Z Z Z Z ?_;unfold F128 at hr;refine zQ (zR (zM Z (zN (zT (zQ (zQ (zR (zM Z (yS Z (zlM Z Z (by kernel_rfl)) (zM Z (yS Z (zlM Z Z (by kernel_rfl)) (yS Z (zb2 Z Z Z Z) (zN (zT ?_))))))))))))));refine zX Z (fun g1 => ?_) (fun g1 => ?_)
 ·
  refine zi g1 hr fun hr => zQ (zR (zM Z (zN (zT (zr (thn_r ?_))))));obtain rfl := zJ hr;exact zf (.one (.tmp Z)) zv
 ·
  refine zo g1 hr fun hr => zk (zT (zQ (zQ (zR (zM Z (zN (zT ?_)))))));obtain ⟨b_v1, hb_v1, ho_v1⟩ := zB hr;clear hr;refine LW.tailB (b := b_v1) (E := fun v1 => [(4, (bQ false))]) (O := fun v1 => []) ?_ (fun v1 e_v1 env_v1 H_v1 hw_v1 => ?_)
  ·refine LW.block ?_;refine LW.iterB (E := fun x1 : F128_L1 => [(0, (kB a)), (1, (kB b)), (4, (bQ false)), (5, (iQ x1.i))]) (O := fun x1 => []) hb_v1 (zW 0 ⟨rfl, rfl, rfl, rfl, trivial⟩ Z Z Z Z) (fun x1 z_x1 hr hb_x1 => ?_);unfold F128_s1 at hr;refine zQ (zQ (zR (zM Z (zM Z (yS Z (zlM Z Z (by kernel_rfl)) (yS Z (zb2 Z Z Z Z) (zN (zT ?_))))))));refine zX Z (fun g2 => ?_) (fun g2 => ?_)
   ·
    refine zi g2 hr fun hr => zk (zT (zQ (zl (zQ (LW.draw2 (by kernel_rfl) (by kernel_rfl) (zH Z (zH Z (zb hr fun y1 h_y1 hr => yE Z (zx Z Z Z st27 h_y1 Z) (yE Z (zC2 Z Z Z vt42 Z Z) (zH Z (zH Z (zb hr fun y2 h_y2 hr => yE Z (zx Z Z Z st27 h_y2 Z) (yE Z (zC2 Z Z Z vt42 Z Z) (yE Z (LOp.neqAgg Z Z Z Z Z eqt42) (LO.nil (zT ?_))))))))))))))));refine zX Z (fun g3 => ?_) (fun g3 => ?_)
    ·
     refine zi g3 hr fun hr => zQ (zR (zM Z (zN (zT (zr (inBlk_r (thn_r (thn_r (inBlk_r (thn_r (thn_r ?_)))))))))));obtain rfl := zJ hr;have hr := congrArg some (hb_x1 _ rfl);obtain rfl := zJ hr;have hr := sum_r ho_v1;obtain rfl := zJ hr;exact zf (.one (.tmp Z)) zv
    ·
     refine zo g3 hr fun hr => zk (inBlk_n (zT (zR (zM Z (yS Z (zb2 Z Z Z Z) (zM Z (zN (zT ?_))))))));obtain rfl := zJ hr;exact ⟨_, rfl, zW 0 ⟨rfl, rfl, rfl, rfl, trivial⟩ Z Z Z rfl⟩
   ·
    refine zo g2 hr fun hr => zq (thn_e (thn_e (zy (zT ?_))));obtain rfl := zJ hr;have hr := congrArg some (hb_x1 _ rfl);obtain rfl := zJ hr;exact ⟨_, rfl, zW 0 ⟨rfl, trivial⟩ Z Z Z rfl⟩
  ·obtain rfl := e_v1;have hr := sum_l ho_v1;clear hb_v1;refine zT (LW.weak hw_v1 (zQ (zR (zM Z (zN (zT (zr ?_)))))));obtain rfl := zJ hr;exact zf (.one (.tmp Z)) zv
structure F141_L1 where
 i : Int
 o3 : List Bk
structure F141_L2 where
 there : Bool
 k : Int
structure F141_L3 where
 i : Int
 o4 : List Vt
def F141_s2 (b : Vw) (x1 : F141_L1) (x2 : F141_L2) : Option (F141_L2 ⊕ F141_L2) :=
 bif decide (x2.k < (x1.o3.length : Int)) then
  bif x2.there then
   some (.inl (F141_L2.mk true (IntKind.i64.wrap (x2.k + 1))))
  else
   (ix x1.o3 x2.k).bind fun y1 =>
   (ix b.B x1.i).bind fun y2 =>
   some (.inl (F141_L2.mk ((y1.Slot == y2.Slot) && ((y1.From == y2.From) && ((y1.Parent.1 == y2.Parent.1) && ((y1.Parent.2 == y2.Parent.2) && ((y1.Salt == y2.Salt) && true))))) (IntKind.i64.wrap (x2.k + 1))))
 else
  some (.inr (F141_L2.mk x2.there x2.k))
def F141_s1 (b : Vw) (x1 : F141_L1) : Option (F141_L1 ⊕ F141_L1) :=
 bif decide (x1.i < (b.B.length : Int)) then
  (iter (F141_s2 b x1) big (F141_L2.mk false 0)).bind fun v2 =>
  bif !v2.there then
   (ix b.B x1.i).bind fun y3 =>
   bif room x1.o3.length [y3].length 40 then
    some (.inl (F141_L1.mk (IntKind.i64.wrap (x1.i + 1)) (x1.o3 ++ [y3])))
   else none
  else
   some (.inl (F141_L1.mk (IntKind.i64.wrap (x1.i + 1)) x1.o3))
 else
  some (.inr (F141_L1.mk x1.i x1.o3))
def F141_s3 (b : Vw) (x3 : F141_L3) : Option (F141_L3 ⊕ F141_L3) :=
 bif decide (x3.i < (b.V.length : Int)) then
  (ix b.V x3.i).bind fun y4 =>
  (F163 x3.o4 y4).bind fun v4 =>
  bif v4 == 0 then
   (ix b.V x3.i).bind fun y5 =>
   bif room x3.o4.length [y5].length 32 then
    some (.inl (F141_L3.mk (IntKind.i64.wrap (x3.i + 1)) (x3.o4 ++ [y5])))
   else none
  else
   some (.inl (F141_L3.mk (IntKind.i64.wrap (x3.i + 1)) x3.o4))
 else
  some (.inr (F141_L3.mk x3.i x3.o4))
def F141 (a : Vw) (b : Vw) : Option Vw :=
 bif room 0 a.B.length 40 then
  bif room 0 a.V.length 32 then
   (iter (F141_s1 b) big (F141_L1.mk 0 a.B)).bind fun v1 =>
   (iter (F141_s3 b) big (F141_L3.mk 0 a.V)).bind fun v3 =>
   some (Vw.mk v1.o3 v3.o4)
  else none
 else none
theorem c141 {a : Vw} {b : Vw} {r_ : Vw} (hr : F141 a b = some r_) : LPure Tryz.prog 39 [vwP a, vwP b] [vwP r_] := by
 refine zh Tryz.func39 Z Z Z Z ?_;unfold F141 at hr;refine zQ (zR (yS Z (zbx Z Z Z Z Z) (yS Z (zbx Z Z Z Z Z) (yS Z (ze Z zt75 Z Z) (zN (zT (zQ (LW.ent (Ent.slot Z) (LW.ent (Ent.slot Z) (LW.ent (Ent.slot Z) (LW.drawW (by kernel_rfl) (by kernel_rfl) ?_)))))))))));refine yF (F := []) (s := none) Z (fun H _ => zA Z Z ft75_0) Z ?_;refine yF Z (zd Z Z Z vt27 Z Z) Z (zg hr fun q1 hr => yF Z (LAt.appendZX blkP a.B Z Z (id := 3) Z Z Z st27 q1) Z ?_);refine yF (F := []) (s := none) Z (fun H _ => zA Z Z ft75_1) Z ?_;refine yF Z (zd Z Z Z vt68 Z Z) Z (zg hr fun q2 hr => yF Z (LAt.appendZX vtP a.V Z Z (id := 4) Z Z Z st68 q2) Z ?_);refine yF (F := []) (s := none) Z (fun H _ => LOp.build Z bt75 Z Z Z) Z ?_;refine yF Z (LAt.alloc Z zt75 (id := 5) Z) Z (yF Z (zt Z Z Z Z vt75 Z Z Z) Z ?_);refine LF.nil ⟨by kernel_rfl, ?_⟩;refine zT (zQ (zQ (zR (zM Z (zN (zT ?_))))));obtain ⟨v1, hb_v1, ho_v1⟩ := zB hr;clear hr;refine LW.tail (E := [(3, .ptr 1 0), (4, .ptr 2 0), (5, .ptr 5 0)]) (O := [.box (vwO a), .box (vwO b), .box [.zs, .zs], .vec 5 (v1.o3.map blkP), .vec 4 (a.V.map vtP), .box [(jB 3 v1.o3), (jV 4 a.V)]]) ?_ (fun env_v1 H_v1 hw_v1 => ?_)
 ·refine LW.block ?_;refine LW.iterB (E := fun x1 : F141_L1 => [(3, .ptr 1 0), (4, .ptr 2 0), (5, .ptr 5 0), (6, (iQ x1.i))]) (O := fun x1 => [.box (vwO a), .box (vwO b), .box [.zs, .zs], .vec 5 (x1.o3.map blkP), .vec 4 (a.V.map vtP), .box [(jB 3 x1.o3), (jV 4 a.V)]]) hb_v1 (zW 6 ⟨rfl, rfl, rfl, rfl, trivial⟩ Z Z Z Z) (fun x1 z_x1 hr hb_x1 => ?_);unfold F141_s1 at hr;refine zQ (zQ (zR (zM Z (yS Z (zA Z Z ft75_0) (yS Z (zD Z Z Z vt27 Z Z) (yS Z (zlM Z Z (by kernel_rfl)) (yS Z (zb2 Z Z Z Z) (zN (zT ?_)))))))));refine zX Z (fun g1 => ?_) (fun g1 => ?_)
  ·
   refine zi g1 hr fun hr => zk (zT (zQ (zl (zQ (zR (zM Z (zN (zT (zQ (zQ (zR (zM Z (zN (zT ?_))))))))))))));obtain ⟨v2, hb_v2, ho_v2⟩ := zB hr;clear hr;refine LW.tail (E := [(3, .ptr 1 0), (4, .ptr 2 0), (5, .ptr 5 0), (6, (iQ x1.i)), (7, (bQ v2.there))]) (O := [.box (vwO a), .box (vwO b), .box [.zs, .zs], .vec 5 (x1.o3.map blkP), .vec 4 (a.V.map vtP), .box [(jB 3 x1.o3), (jV 4 a.V)]]) ?_ (fun env_v2 H_v2 hw_v2 => ?_)
   ·refine LW.block ?_;refine LW.iterB (E := fun x2 : F141_L2 => [(3, .ptr 1 0), (4, .ptr 2 0), (5, .ptr 5 0), (6, (iQ x1.i)), (7, (bQ x2.there)), (8, (iQ x2.k))]) (O := fun x2 => [.box (vwO a), .box (vwO b), .box [.zs, .zs], .vec 5 (x1.o3.map blkP), .vec 4 (a.V.map vtP), .box [(jB 3 x1.o3), (jV 4 a.V)]]) hb_v2 (zW 6 ⟨rfl, rfl, rfl, rfl, rfl, rfl, trivial⟩ Z Z Z Z) (fun x2 z_x2 hr hb_x2 => ?_);unfold F141_s2 at hr;refine zQ (zQ (zR (zM Z (yS Z (zA Z Z ft75_0) (yS Z (zD Z Z Z vt27 Z Z) (yS Z (LOp.lenVM Z Z Z (by kernel_rfl)) (yS Z (zb2 Z Z Z Z) (zN (zT ?_)))))))));refine zX Z (fun g2 => ?_) (fun g2 => ?_)
    ·
     refine zi g2 hr fun hr => zk (zT (zQ (zl (LW.draw2 (by kernel_rfl) (by kernel_rfl) (zH Z (zH Z ?_))))));refine LO.cases 32 Z (fun (g3 : x2.there = true) => ?_) (fun (g3 : x2.there = false) => ?_)
     ·
      refine zi g3 hr fun hr => LO.sk Z Z Z (gd g3 Z) Z Z (LO.sk Z Z Z (gd g3 Z) Z Z (LO.sk Z Z Z (gd g3 Z) Z Z (LO.sk Z Z Z (gd g3 Z) Z Z (LO.sk Z Z Z (gd g3 Z) Z Z (LO.sk Z Z Z (gd g3 Z) Z Z (LO.sk Z Z Z (gd g3 Z) Z Z (LO.sk Z Z Z (gd g3 Z) Z Z (LO.sk Z Z Z (gd g3 Z) Z Z (LO.sk Z Z Z (gd g3 Z) Z Z (LO.sk Z Z Z (gd g3 Z) Z Z (yE Z (zpT Z (gdl g3 Z) Z) (zH Z (LO.nil (inBlk_n (zT (zR (zM Z (yS Z (zb2 Z Z Z Z) (zM Z (zN (zT ?_)))))))))))))))))))));obtain rfl := zJ hr;exact ⟨_, rfl, zW 6 ⟨rfl, rfl, rfl, rfl, rfl, rfl, trivial⟩ Z Z Z rfl⟩
     ·
      refine zo g3 hr fun hr => LO.gd Z Z Z (gd g3 Z) Z (zA Z Z ft75_0) (LO.gd Z Z Z (gd g3 Z) Z (zD Z Z Z vt27 Z Z) (LO.gd Z Z Z (gd g3 Z) Z (zm Z Z) (zb hr fun y1 h_y1 hr => LO.gd Z Z Z (gd g3 Z) Z (LOp.indexAddrVX Z Z Z Z st27 h_y1) (LO.gd Z Z Z (gd g3 Z) Z (LOp.loadVX Z Z Z vt42 h_y1 Z Z Z Z) (LO.gd Z Z Z (gd g3 Z) Z (zA Z Z ft75_0) (LO.gd Z Z Z (gd g3 Z) Z (zD Z Z Z vt27 Z Z) (LO.gd Z Z Z (gd g3 Z) Z (zm Z Z) (zb hr fun y2 h_y2 hr => LO.gd Z Z Z (gd g3 Z) Z (zx Z Z Z st27 h_y2 Z) (LO.gd Z Z Z (gd g3 Z) Z (zC2 Z Z Z vt42 Z Z) (LO.gd Z Z Z (gd g3 Z) Z (LOp.eqlAgg Z Z Z Z Z eqt42) (yE Z (zpF Z (gdl g3 Z) Z) (zH Z (LO.nil (inBlk_n (zT (zR (zM Z (yS Z (zb2 Z Z Z Z) (zM Z (zN ?_))))))))))))))))))));refine zT ?_;obtain rfl := zJ hr;exact ⟨_, rfl, zW 6 ⟨rfl, rfl, rfl, rfl, rfl, rfl, trivial⟩ Z Z Z rfl⟩
    ·
     refine zo g2 hr fun hr => zq (thn_e (thn_e (zy (zT ?_))));obtain rfl := zJ hr;have hr := congrArg some (hb_x2 _ rfl);obtain rfl := zJ hr;exact zW 6 ⟨Z, Z, Z, Z, Z, trivial⟩ Z Z Z Z
   ·have hr := ho_v2;clear hb_v2;refine zT (LW.weak hw_v2 (zQ (zR (zM Z (yS Z (LOp.not Z Z) (zN (zT ?_)))))));refine zX Z (fun g4 => ?_) (fun g4 => ?_)
    ·
     refine zi g4 hr fun hr => LW.drawW (by kernel_rfl) (by kernel_rfl) ?_;refine yF (F := []) (s := none) Z (fun H _ => zA Z Z ft75_0) Z ?_;refine yF Z (zd Z Z Z vt27 Z Z) Z ?_;refine yF (F := []) (s := none) Z (fun H _ => zA Z Z ft75_0) Z ?_;refine yF Z (zd Z Z Z vt27 Z Z) Z (zK Z (zb hr fun y3 h_y3 hr => ?_));refine yF (F := []) (s := none) Z (fun H _ => zx Z Z Z st27 h_y3 Z) Z ?_;refine yF (F := []) (s := none) Z (fun H _ => zC2 Z Z Z vt42 Z Z) Z ?_;refine yF (F := []) (s := none) Z (fun H _ => zB2 Z st27 Z Z Z Z Z) Z ?_;refine zg hr fun q3 hr => yF Z (LAt.appendX blkP x1.o3 [y3] rfl Z Z Z Z st27 q3) Z ?_;refine yF (F := []) (s := none) Z (fun H _ => zA Z Z ft75_0) Z ?_;refine yF Z (zt Z Z Z Z vt27 Z Z Z) Z ?_;refine LF.nil ⟨by kernel_rfl, ?_⟩;refine inBlk_n (zT (zR (zM Z (yS Z (zb2 Z Z Z Z) (zM Z (zN (zT ?_)))))));obtain rfl := zJ hr;exact ⟨_, rfl, zW 6 ⟨rfl, rfl, rfl, rfl, trivial⟩ Z Z Z rfl⟩
    ·
     refine zo g4 hr fun hr => zk (inBlk_n (zT (zR (zM Z (yS Z (zb2 Z Z Z Z) (zM Z (zN (zT ?_))))))));obtain rfl := zJ hr;exact ⟨_, rfl, zW 6 ⟨rfl, rfl, rfl, rfl, trivial⟩ Z Z Z rfl⟩
  ·
   refine zo g1 hr fun hr => zq (thn_e (thn_e (zy (zT ?_))));obtain rfl := zJ hr;have hr := congrArg some (hb_x1 _ rfl);obtain rfl := zJ hr;exact zW 6 ⟨Z, Z, Z, trivial⟩ Z Z Z Z
 ·have hr := ho_v1;clear hb_v1;refine zT (LW.weak hw_v1 (zQ (zQ (zR (zM Z (zN (zT ?_)))))));obtain ⟨v3, hb_v3, ho_v3⟩ := zB hr;clear hr;refine LW.tail (E := [(4, .ptr 2 0), (5, .ptr 5 0)]) (O := [.box (vwO a), .box (vwO b), .box [.zs, .zs], .vec 5 (v1.o3.map blkP), .vec 4 (v3.o4.map vtP), .box [(jB 3 v1.o3), (jV 4 v3.o4)]]) ?_ (fun env_v3 H_v3 hw_v3 => ?_)
  ·refine LW.block ?_;refine LW.iterB (E := fun x3 : F141_L3 => [(3, .ptr 1 0), (4, .ptr 2 0), (5, .ptr 5 0), (9, (iQ x3.i))]) (O := fun x3 => [.box (vwO a), .box (vwO b), .box [.zs, .zs], .vec 5 (v1.o3.map blkP), .vec 4 (x3.o4.map vtP), .box [(jB 3 v1.o3), (jV 4 x3.o4)]]) hb_v3 (zW 6 ⟨rfl, rfl, rfl, rfl, trivial⟩ Z Z Z Z) (fun x3 z_x3 hr hb_x3 => ?_);unfold F141_s3 at hr;refine zQ (zQ (zR (zM Z (yS Z (zA Z Z ft75_1) (yS Z (zD Z Z Z vt68 Z Z) (yS Z (zlM Z Z (by kernel_rfl)) (yS Z (zb2 Z Z Z Z) (zN (zT ?_)))))))));refine zX Z (fun g5 => ?_) (fun g5 => ?_)
   ·
    refine zi g5 hr fun hr => zk (zT (zQ (zl (zQ (LW.draw2 (by kernel_rfl) (by kernel_rfl) (yE Z (zA Z Z ft75_1) (yE Z (zD Z Z Z vt68 Z Z) (yE Z (zA Z Z ft75_1) (yE Z (zD Z Z Z vt68 Z Z) (zH Z (zb hr fun y4 h_y4 hr => yE Z (zx Z Z Z st68 h_y4 Z) (yE Z (zC2 Z Z Z vt82 Z Z) (zb hr fun v4 h_v4 hr => yE Z (zC Z Z Z (by kernel_rfl) (LC.lend (c163 h_v4) (.cons (Conv.vecAll Z Z Z) (.cons zv .nil)) Z)) (yE Z (zb2 Z Z Z Z) (LO.nil (zT ?_))))))))))))))));refine zX Z (fun g6 => ?_) (fun g6 => ?_)
    ·
     refine zi g6 hr fun hr => LW.drawW (by kernel_rfl) (by kernel_rfl) ?_;refine yF (F := []) (s := none) Z (fun H _ => zA Z Z ft75_1) Z ?_;refine yF Z (zd Z Z Z vt68 Z Z) Z ?_;refine yF (F := []) (s := none) Z (fun H _ => zA Z Z ft75_1) Z ?_;refine yF Z (zd Z Z Z vt68 Z Z) Z (zK Z (zb hr fun y5 h_y5 hr => ?_));refine yF (F := []) (s := none) Z (fun H _ => zx Z Z Z st68 h_y5 Z) Z ?_;refine yF (F := []) (s := none) Z (fun H _ => zC2 Z Z Z vt82 Z Z) Z ?_;refine yF (F := []) (s := none) Z (fun H _ => zB2 Z st68 Z Z Z Z Z) Z ?_;refine zg hr fun q4 hr => yF Z (LAt.appendX vtP x3.o4 [y5] rfl Z Z Z Z st68 q4) Z ?_;refine yF (F := []) (s := none) Z (fun H _ => zA Z Z ft75_1) Z ?_;refine yF Z (zt Z Z Z Z vt68 Z Z Z) Z ?_;refine LF.nil ⟨by kernel_rfl, ?_⟩;refine inBlk_n (zT (zR (zM Z (yS Z (zb2 Z Z Z Z) (zM Z (zN (zT ?_)))))));obtain rfl := zJ hr;exact ⟨_, rfl, zW 6 ⟨rfl, rfl, rfl, rfl, trivial⟩ Z Z Z rfl⟩
    ·
     refine zo g6 hr fun hr => zk (inBlk_n (zT (zR (zM Z (yS Z (zb2 Z Z Z Z) (zM Z (zN (zT ?_))))))));obtain rfl := zJ hr;exact ⟨_, rfl, zW 6 ⟨rfl, rfl, rfl, rfl, trivial⟩ Z Z Z rfl⟩
   ·
    refine zo g5 hr fun hr => zq (thn_e (thn_e (zy (zT ?_))));obtain rfl := zJ hr;have hr := congrArg some (hb_x3 _ rfl);obtain rfl := zJ hr;exact zW 6 ⟨Z, Z, trivial⟩ Z Z Z Z
  ·have hr := ho_v3;clear hb_v3;refine zT (LW.weak hw_v3 (zQ (zR (yS Z (zD Z Z Z vt75 Z Z) (yS Z (zs Z Z Z Z vt75 Z Z Z Z) (zN (zT (zr ?_))))))));obtain rfl := zJ hr;exact zf (.one (.cellAgg Z Z (by kernel_rfl) Z)) ((Conv.agg (.cons (Conv.vecAll Z Z Z) (.cons (Conv.vecAll Z Z Z) .nil))))
def F86 (a : Vw) (b : Vw) : Option Bool :=
 (F128 a.B b.B).bind fun v1 =>
 (F129 a.V b.V).bind fun v2 =>
 bif v1 then
  some v2
 else
  some false
theorem c86 {a : Vw} {b : Vw} {r_ : Bool} (hr : F86 a b = some r_) : LPure Tryz.prog 44 [vwP a, vwP b] [.bool r_] := by
 refine zh Tryz.func44 Z Z Z Z ?_;unfold F86 at hr;refine zQ (zR (yS Z (zbx Z Z Z Z Z) (yS Z (zbx Z Z Z Z Z) (zM Z (zN (zT (zQ (zR (yS Z (zA Z Z ft75_0) (yS Z (zD Z Z Z vt27 Z Z) (yS Z (zA Z Z ft75_0) (yS Z (zD Z Z Z vt27 Z Z) (zb hr fun v1 h_v1 hr => yS Z (zC Z Z Z (by kernel_rfl) (zp (c128 h_v1) (.cons zv (.cons zv .nil)))) (zM Z (zN (zT (zQ (zR (yS Z (zA Z Z ft75_1) (yS Z (zD Z Z Z vt68 Z Z) (yS Z (zA Z Z ft75_1) (yS Z (zD Z Z Z vt68 Z Z) ?_))))))))))))))))))))));refine zb hr fun v2 h_v2 hr => yS Z (zC Z Z Z (by kernel_rfl) (zp (c129 h_v2) (.cons zv (.cons zv .nil)))) (zM Z (zN (zT (zQ (zR (zM Z (zM Z ?_)))))));refine zc 18 Z (fun g1 => ?_) (fun g1 => ?_)
 ·
  refine zi g1 hr fun hr => yV Z (gd g1 Z) (zm Z Z) (yS Z (zpT Z (gdl g1 Z) Z) (zM Z (zN (zT (zr ?_)))));obtain rfl := zJ hr;exact zf (.one (.tmp Z)) zv
 ·
  refine zo g1 hr fun hr => yU Z (gd g1 Z) Z (yS Z (zpF Z (gdl g1 Z) Z) (zM Z (zN (zT (zr ?_)))));obtain rfl := zJ hr;exact zf (.one (.tmp Z)) zv
open Go.Proofs
structure F126_L1 where
 t12 : Int
 out : List Bk
def F126_s1 (c : Cf) (l : List Bk) (x1 : F126_L1) : Option (F126_L1 ⊕ F126_L1) :=
 bif decide (x1.t12 < (l.length : Int)) then
  (ix l x1.t12).bind fun y1 =>
  (F87 c y1).bind fun v2 =>
  bif v2 then
   bif room x1.out.length [y1].length 40 then
    some (.inl (F126_L1.mk (IntKind.i64.wrap (x1.t12 + 1)) (x1.out ++ [y1])))
   else none
  else
   some (.inl (F126_L1.mk (IntKind.i64.wrap (x1.t12 + 1)) x1.out))
 else
  some (.inr (F126_L1.mk x1.t12 x1.out))
def F126 (c : Cf) (l : List Bk) : Option (List Bk) :=
 (iter (F126_s1 c l) big (F126_L1.mk 0 ([] : List Bk))).bind fun v1 =>
 some v1.out
theorem cF126 {c : Cf} {l : List Bk} {r_ : List Bk} (hr : F126 c l = some r_) : LC Tryz.prog 132 [.p (cfP c), (kB l), .fn 133 [] []] [] (Is (jB 0 r_) [.vec 5 (r_.map blkP)]) := by
 refine zh2 Tryz.func132 Z Z Z ?_;unfold F126 at hr;refine zQ (zR (yS Z (zbx Z Z Z Z Z) (zM Z (zN (zT (zQ (zR (zM Z (zN (zT (zQ (zQ (zR (zM Z (yS Z (zlM Z Z (by kernel_rfl)) (zM Z (zN (zT (LW.ent (Ent.lazy (t := 7) (m := 5) Z Z Z) ?_)))))))))))))))))));obtain ⟨v1, hb_v1, ho_v1⟩ := zB hr;clear hr;refine LW.tail (E := [(6, .zs), (7, (jB 1 v1.out))]) (O := [.box (cfO c), .vec 5 (v1.out.map blkP)]) ?_ (fun env_v1 H_v1 hw_v1 => ?_)
 ·refine LW.block ?_;refine LW.iterB (E := fun x1 : F126_L1 => [(2, .fn 133 [] []), (3, .ptr 0 0), (6, .zs), (7, (jB 1 x1.out)), (10, (kB l)), (11, .p (.int .i64 (l.length : Int))), (12, (iQ x1.t12))]) (O := fun x1 => [.box (cfO c), .vec 5 (x1.out.map blkP)]) hb_v1 (zW 2 ⟨rfl, rfl, rfl, rfl, rfl, rfl, rfl, trivial⟩ Z Z Z Z) (fun x1 z_x1 hr hb_x1 => ?_);unfold F126_s1 at hr;refine zQ (zR (yS Z (zb2 Z Z Z Z) (zN (zT (zQ ?_)))));refine zX Z (fun g1 => ?_) (fun g1 => ?_)
  ·
   refine zi g1 hr fun hr => zk (zT (zQ (zl (zQ (zR (zb hr fun y1 h_y1 hr => yS Z (zx Z Z Z st27 h_y1 Z) (yS Z (zC2 Z Z Z vt42 Z Z) (yS Z (ze Z zt42 Z Z) (yS Z (zs Z Z Z Z vt42 Z Z Z Z) (zN (zT (zQ (zR (zM Z (yS Z (zD Z Z Z vt55 Z Z) (yS Z (zD Z Z Z vt42 Z Z) (zb hr fun v2 h_v2 hr => yS Z (zC Z Z Z (by kernel_rfl) (zp (c87 h_v2) (.cons zv (.cons zv .nil)))) (zN (zT ?_)))))))))))))))))));refine zX Z (fun g2 => ?_) (fun g2 => ?_)
   ·
    refine zi g2 hr fun hr => zR (zM Z (yS Z (zD Z Z Z vt42 Z Z) (yS Z (zB2 Z st27 Z Z Z Z Z) (zg hr fun q1 hr => yS Z (LOp.appendX blkP x1.out [y1] rfl Z Z Z Src.p Z st27 q1 Z) (zM Z (zN (inBlk_n (zT (zR (yS Z (zb2 Z Z Z Z) (zM Z (zN (zT ?_)))))))))))));obtain rfl := zJ hr;exact ⟨_, rfl, zW 2 ⟨rfl, rfl, rfl, rfl, rfl, rfl, rfl, trivial⟩ Z Z Z rfl⟩
   ·
    refine zo g2 hr fun hr => zk (inBlk_n (zT (zR (yS Z (zb2 Z Z Z Z) (zM Z (zN (zT ?_)))))));obtain rfl := zJ hr;exact ⟨_, rfl, zW 2 ⟨rfl, rfl, rfl, rfl, rfl, rfl, rfl, trivial⟩ Z Z Z rfl⟩
  ·
   refine zo g1 hr fun hr => zq (thn_e (thn_e (zy (zT ?_))));obtain rfl := zJ hr;have hr := congrArg some (hb_x1 _ rfl);obtain rfl := zJ hr;exact zW 2 ⟨Z, Z, trivial⟩ Z Z Z Z
 ·have hr := ho_v1;clear hb_v1;refine zT (LW.weak hw_v1 (zQ (LW.ent (Ent.last (t := 7) (j := 0) (Hj := []) Z Z Z Z Z Z Z) (zR (zM Z (zM Z (zN (zT (zr ?_)))))))));obtain rfl := zJ hr;exact fin_ret (.one (.tmp Z)) (⟨rfl, rfl⟩)
structure F127_L1 where
 t12 : Int
 out : List Vt
def F127_s1 (c : Cf) (l : List Vt) (x1 : F127_L1) : Option (F127_L1 ⊕ F127_L1) :=
 bif decide (x1.t12 < (l.length : Int)) then
  (ix l x1.t12).bind fun y1 =>
  (F88 c y1).bind fun v2 =>
  bif v2 then
   bif room x1.out.length [y1].length 32 then
    some (.inl (F127_L1.mk (IntKind.i64.wrap (x1.t12 + 1)) (x1.out ++ [y1])))
   else none
  else
   some (.inl (F127_L1.mk (IntKind.i64.wrap (x1.t12 + 1)) x1.out))
 else
  some (.inr (F127_L1.mk x1.t12 x1.out))
def F127 (c : Cf) (l : List Vt) : Option (List Vt) :=
 (iter (F127_s1 c l) big (F127_L1.mk 0 ([] : List Vt))).bind fun v1 =>
 some v1.out
theorem cF127 {c : Cf} {l : List Vt} {r_ : List Vt} (hr : F127 c l = some r_) : LC Tryz.prog 134 [.p (cfP c), (kV l), .fn 135 [] []] [] (Is (jV 0 r_) [.vec 4 (r_.map vtP)]) := by
 refine zh2 Tryz.func134 Z Z Z ?_;unfold F127 at hr;refine zQ (zR (yS Z (zbx Z Z Z Z Z) (zM Z (zN (zT (zQ (zR (zM Z (zN (zT (zQ (zQ (zR (zM Z (yS Z (zlM Z Z (by kernel_rfl)) (zM Z (zN (zT (LW.ent (Ent.lazy (t := 7) (m := 4) Z Z Z) ?_)))))))))))))))))));obtain ⟨v1, hb_v1, ho_v1⟩ := zB hr;clear hr;refine LW.tail (E := [(6, .zs), (7, (jV 1 v1.out))]) (O := [.box (cfO c), .vec 4 (v1.out.map vtP)]) ?_ (fun env_v1 H_v1 hw_v1 => ?_)
 ·refine LW.block ?_;refine LW.iterB (E := fun x1 : F127_L1 => [(2, .fn 135 [] []), (3, .ptr 0 0), (6, .zs), (7, (jV 1 x1.out)), (10, (kV l)), (11, .p (.int .i64 (l.length : Int))), (12, (iQ x1.t12))]) (O := fun x1 => [.box (cfO c), .vec 4 (x1.out.map vtP)]) hb_v1 (zW 2 ⟨rfl, rfl, rfl, rfl, rfl, rfl, rfl, trivial⟩ Z Z Z Z) (fun x1 z_x1 hr hb_x1 => ?_);unfold F127_s1 at hr;refine zQ (zR (yS Z (zb2 Z Z Z Z) (zN (zT (zQ ?_)))));refine zX Z (fun g1 => ?_) (fun g1 => ?_)
  ·
   refine zi g1 hr fun hr => zk (zT (zQ (zl (zQ (zR (zb hr fun y1 h_y1 hr => yS Z (zx Z Z Z st68 h_y1 Z) (yS Z (zC2 Z Z Z vt82 Z Z) (yS Z (ze Z zt82 Z Z) (yS Z (zs Z Z Z Z vt82 Z Z Z Z) (zN (zT (zQ (zR (zM Z (yS Z (zD Z Z Z vt55 Z Z) (yS Z (zD Z Z Z vt82 Z Z) (zb hr fun v2 h_v2 hr => yS Z (zC Z Z Z (by kernel_rfl) (zp (c88 h_v2) (.cons zv (.cons zv .nil)))) (zN (zT ?_)))))))))))))))))));refine zX Z (fun g2 => ?_) (fun g2 => ?_)
   ·
    refine zi g2 hr fun hr => zR (zM Z (yS Z (zD Z Z Z vt82 Z Z) (yS Z (zB2 Z st68 Z Z Z Z Z) (zg hr fun q1 hr => yS Z (LOp.appendX vtP x1.out [y1] rfl Z Z Z Src.p Z st68 q1 Z) (zM Z (zN (inBlk_n (zT (zR (yS Z (zb2 Z Z Z Z) (zM Z (zN (zT ?_)))))))))))));obtain rfl := zJ hr;exact ⟨_, rfl, zW 2 ⟨rfl, rfl, rfl, rfl, rfl, rfl, rfl, trivial⟩ Z Z Z rfl⟩
   ·
    refine zo g2 hr fun hr => zk (inBlk_n (zT (zR (yS Z (zb2 Z Z Z Z) (zM Z (zN (zT ?_)))))));obtain rfl := zJ hr;exact ⟨_, rfl, zW 2 ⟨rfl, rfl, rfl, rfl, rfl, rfl, rfl, trivial⟩ Z Z Z rfl⟩
  ·
   refine zo g1 hr fun hr => zq (thn_e (thn_e (zy (zT ?_))));obtain rfl := zJ hr;have hr := congrArg some (hb_x1 _ rfl);obtain rfl := zJ hr;exact zW 2 ⟨Z, Z, trivial⟩ Z Z Z Z
 ·have hr := ho_v1;clear hb_v1;refine zT (LW.weak hw_v1 (zQ (LW.ent (Ent.last (t := 7) (j := 0) (Hj := []) Z Z Z Z Z Z Z) (zR (zM Z (zM Z (zN (zT (zr ?_)))))))));obtain rfl := zJ hr;exact fin_ret (.one (.tmp Z)) (⟨rfl, rfl⟩)
def F85 (c : Cf) (v_in : Vw) : Option Vw :=
 (F126 c v_in.B).bind fun v1 =>
 (F127 c v_in.V).bind fun v2 =>
 some (Vw.mk v1 v2)
theorem c85 {c : Cf} {v_in : Vw} {r_ : Vw} (hr : F85 c v_in = some r_) : LPure Tryz.prog 97 [cfP c, vwP v_in] [vwP r_] := by
 refine zh Tryz.func97 Z Z Z Z ?_;unfold F85 at hr;refine zQ (zR (yS Z (zbx Z Z Z Z Z) (yS Z (zbx Z Z Z Z Z) (yS Z (ze Z zt75 Z Z) (zN (zT (zQ (LW.ent (Ent.slot Z) (LW.ent (Ent.slot Z) (LW.drawW (by kernel_rfl) (by kernel_rfl) (yF Z (zd Z Z Z vt55 Z Z) Z ?_)))))))))));refine yF (F := []) (s := none) Z (fun H _ => zA Z Z ft75_0) Z ?_;refine yF Z (zd Z Z Z vt27 Z Z) Z (zb hr fun v1 h_v1 hr => ?_);refine yF Z (LAt.callV (id := 3) (qs := [.p (cfP c), (kB v_in.B), .fn 133 [] []]) Z Z Z (by kernel_rfl) (cF126 h_v1) (fun H => (.consC zv (.consC zv (.consF .nil)))) Z) Z ?_;refine yF Z (zd Z Z Z vt55 Z Z) Z ?_;refine yF (F := []) (s := none) Z (fun H _ => zA Z Z ft75_1) Z ?_;refine yF Z (zd Z Z Z vt68 Z Z) Z (zb hr fun v2 h_v2 hr => ?_);refine yF Z (LAt.callV (id := 4) (qs := [.p (cfP c), (kV v_in.V), .fn 135 [] []]) Z Z Z (by kernel_rfl) (cF127 h_v2) (fun H => (.consC zv (.consC zv (.consF .nil)))) Z) Z ?_;refine yF (F := []) (s := none) Z (fun H _ => LOp.build Z bt75 Z Z Z) Z ?_;refine yF Z (zt Z Z Z Z vt75 Z Z Z) Z ?_;refine LF.nil ⟨by kernel_rfl, ?_⟩;refine zT (zr ?_);obtain rfl := zJ hr;exact zf (.one (.cellAgg Z Z (by kernel_rfl) Z)) ((Conv.agg (.cons (Conv.vecAll Z Z Z) (.cons (Conv.vecAll Z Z Z) .nil))))
def F85V (c : Cf) (inp : Vw) : Option (List Bk × List Vt) :=
 (F126 c inp.B).bind fun v1 =>
 (F127 c inp.V).bind fun v2 =>
 some (v1, v2)
theorem cF85V {c : Cf} {inp : Vw} {r_ : List Bk × List Vt} (hr : F85V c inp = some r_) : LC Tryz.prog 97 [.p (cfP c), .p (vwP inp)] [] (Is (.agg [(jB 3 r_.1), (jV 4 r_.2)]) [.box (cfO c), .box (vwO inp), .box [(jB 3 r_.1), (jV 4 r_.2)], .vec 5 (r_.1.map blkP), .vec 4 (r_.2.map vtP)]) := by
 refine zh2 Tryz.func97 Z Z Z ?_;unfold F85V at hr;refine zQ (zR (yS Z (zbx Z Z Z Z Z) (yS Z (zbx Z Z Z Z Z) (yS Z (ze Z zt75 Z Z) (zN (zT (zQ (LW.ent (Ent.slot Z) (LW.ent (Ent.slot Z) (LW.drawW (by kernel_rfl) (by kernel_rfl) (yF Z (zd Z Z Z vt55 Z Z) Z ?_)))))))))));refine yF (F := []) (s := none) Z (fun H _ => zA Z Z ft75_0) Z ?_;refine yF Z (zd Z Z Z vt27 Z Z) Z (zb hr fun v1 h_v1 hr => ?_);refine yF Z (LAt.callV (id := 3) (qs := [.p (cfP c), (kB inp.B), .fn 133 [] []]) Z Z Z (by kernel_rfl) (cF126 h_v1) (fun H => (.consC zv (.consC zv (.consF .nil)))) Z) Z ?_;refine yF Z (zd Z Z Z vt55 Z Z) Z ?_;refine yF (F := []) (s := none) Z (fun H _ => zA Z Z ft75_1) Z ?_;refine yF Z (zd Z Z Z vt68 Z Z) Z (zb hr fun v2 h_v2 hr => ?_);refine yF Z (LAt.callV (id := 4) (qs := [.p (cfP c), (kV inp.V), .fn 135 [] []]) Z Z Z (by kernel_rfl) (cF127 h_v2) (fun H => (.consC zv (.consC zv (.consF .nil)))) Z) Z ?_;refine yF (F := []) (s := none) Z (fun H _ => LOp.build Z bt75 Z Z Z) Z ?_;refine yF Z (zt Z Z Z Z vt75 Z Z Z) Z ?_;refine LF.nil ⟨by kernel_rfl, ?_⟩;refine zT (zr ?_);obtain rfl := zJ hr;exact fin_ret (.one (.cellAgg Z Z (by kernel_rfl) Z)) (⟨rfl, rfl⟩)
structure F130_L1 where
 t27 : Int
 o3 : List (ID × Int)
structure F130_L2 where
 t43 : Int
 o4 : List (Vt × Bool)
def F130_s1 (w : Vw) (x1 : F130_L1) : Option (F130_L1 ⊕ F130_L1) :=
 bif decide (x1.t27 < (w.B.length : Int)) then
  (ix w.B x1.t27).bind fun y1 =>
  some (.inl (F130_L1.mk (IntKind.i64.wrap (x1.t27 + 1)) (setE x1.o3 (nm y1) y1.Slot)))
 else
  some (.inr (F130_L1.mk x1.t27 x1.o3))
def F130_s2 (w : Vw) (x2 : F130_L2) : Option (F130_L2 ⊕ F130_L2) :=
 bif decide (x2.t43 < (w.V.length : Int)) then
  (ix w.V x2.t43).bind fun y2 =>
  some (.inl (F130_L2.mk (IntKind.i64.wrap (x2.t43 + 1)) (setE x2.o4 y2 true)))
 else
  some (.inr (F130_L2.mk x2.t43 x2.o4))
def F130 (w : Vw) (_ : Int) : Option (List (ID × Int) × List (Vt × Bool)) :=
 bif room 0 w.B.length 40 then
  bif room 0 w.V.length 32 then
   (iter (F130_s1 w) big (F130_L1.mk 0 (setE [] (0, 0) 0))).bind fun v1 =>
   (iter (F130_s2 w) big (F130_L2.mk 0 ([] : List (Vt × Bool)))).bind fun v2 =>
   some (v1.o3, v2.o4)
  else none
 else none
theorem cF130 {w : Vw} {upto : Int} {r_ : List (ID × Int) × List (Vt × Bool)} (hr : F130 w upto = some r_) : LC Tryz.prog 177 [.p (vwP w), (iQ upto)] [] (Is (.ptr 5 0) [.box (vwO w), .vec 5 (w.B.map blkP), .vec 4 (w.V.map vtP), (mQ r_.1), (mR r_.2), .box [(jB 1 w.B), (jV 2 w.V), .map 3, .map 4, (iQ upto), (bQ false)]]) := by
 refine zh2 Tryz.func177 Z Z Z ?_;unfold F130 at hr;refine zQ (zR (yS Z (zbx Z Z Z Z Z) (zM Z (zN (zT (zQ (LW.ent (Ent.slot Z) (LW.ent (Ent.slot Z) (LW.ent (Ent.slot Z) (LW.ent (Ent.slot Z) (LW.ent (Ent.slot Z) (LW.drawW (by kernel_rfl) (by kernel_rfl) ?_))))))))))));refine yF (F := []) (s := none) Z (fun H _ => zA Z Z ft75_0) Z ?_;refine yF Z (zd Z Z Z vt27 Z Z) Z (zg hr fun q1 hr => ?_);refine yF Z (LAt.callV (id := 1) (qs := [(kB w.B)]) Z Z Z (by kernel_rfl) (c133V q1) (fun H => (.consC zv .nil)) Z) Z ?_;refine yF (F := []) (s := none) Z (fun H _ => zA Z Z ft75_1) Z ?_;refine yF Z (zd Z Z Z vt68 Z Z) Z (zg hr fun q2 hr => ?_);refine yF Z (LAt.callV (id := 2) (qs := [(kV w.V)]) Z Z Z (by kernel_rfl) (c134V q2) (fun H => (.consC zv .nil)) Z) Z ?_;refine yF (F := []) (s := none) Z (fun H _ => LOp.build Z bt75 Z Z Z) Z ?_;refine yF Z (LAt.makeMap Z (id := 3) Z) Z ?_;refine yF (F := []) (s := none) Z (fun H _ => LOp.build Z bt24 Z Z Z) Z ?_;refine yF Z (LAt.setX (f := idP) (g := (fun v => (iQ v))) (m := ([] : List (ID × Int))) (0, 0) 0 idKey (.inr Z) Z Z Z Z Z mt91) Z ?_;refine zK Z (yF Z (LAt.makeMap Z (id := 4) Z) Z (zK Z ?_));refine yF (F := []) (s := none) Z (fun H _ => LOp.build Z bt149 Z Z Z) Z ?_;refine yF Z (LAt.box Z Z Z (id := 5) Z) Z (zK Z ?_);refine LF.nil ⟨by kernel_rfl, ?_⟩;refine zT (zQ (zQ (zR (yS Z (zA Z Z ft75_0) (yS Z (zD Z Z Z vt27 Z Z) (yS Z (zlM Z Z (by kernel_rfl)) (zM Z (zN (zT ?_)))))))));obtain ⟨v1, hb_v1, ho_v1⟩ := zB hr;clear hr;refine LW.tail (E := [(2, .ptr 0 0), (5, .ptr 5 0)]) (O := [.box (vwO w), .vec 5 (w.B.map blkP), .vec 4 (w.V.map vtP), (mQ v1.o3), .map (entsOf vtP (fun v => (bQ v)) []), .box [(jB 1 w.B), (jV 2 w.V), .map 3, .map 4, (iQ upto), (bQ false)]]) ?_ (fun env_v1 H_v1 hw_v1 => ?_)
 ·refine LW.block ?_;refine LW.iterB (E := fun x1 : F130_L1 => [(2, .ptr 0 0), (5, .ptr 5 0), (25, (kB w.B)), (26, .p (.int .i64 (w.B.length : Int))), (27, (iQ x1.t27))]) (O := fun x1 => [.box (vwO w), .vec 5 (w.B.map blkP), .vec 4 (w.V.map vtP), (mQ x1.o3), .map (entsOf vtP (fun v => (bQ v)) []), .box [(jB 1 w.B), (jV 2 w.V), .map 3, .map 4, (iQ upto), (bQ false)]]) hb_v1 (zW 6 ⟨rfl, rfl, rfl, rfl, rfl, trivial⟩ Z Z Z (zL Z (zL Z (zL Z (zL (entsLow (fun _ => rfl) _) (zL (entsLow (fun _ => rfl) _) (zL Z Z))))))) (fun x1 z_x1 hr hb_x1 => ?_);unfold F130_s1 at hr;refine zQ (zR (yS Z (zb2 Z Z Z Z) (zN (zT (zQ ?_)))));refine zX Z (fun g1 => ?_) (fun g1 => ?_)
  ·
   refine zi g1 hr fun hr => zk (zT (zQ (zl (zQ (zR (zb hr fun y1 h_y1 hr => yS Z (zx Z Z Z st27 h_y1 Z) (yS Z (zC2 Z Z Z vt42 Z Z) (yS Z (ze Z zt42 Z Z) (yS Z (zs Z Z Z Z vt42 Z Z Z Z) (zN (zT (LW.drawLast (m := 8) (by kernel_rfl) (by kernel_rfl) (by kernel_rfl) (zH Z (yE Z (zn Z Z) (yE Z (zA Z Z ft149_1) (yE Z (zD Z Z Z vt91 Z Z) (yE Z (zD Z Z Z vt42 Z Z) (yE Z (zC Z Z Z (by kernel_rfl) (zp (c50 (b := y1)) (.cons zv .nil))) (yE Z (zA Z Z ft42_0) (yE Z (zD Z Z Z vt3 Z Z) (LO.nil ?_)))))))))))))))))))));refine yS Z (LOp.setX (f := idP) (g := (fun v => (iQ v))) (nm y1) y1.Slot idKey (.inl Z) Z Z Z Z Z mt91 Z) ?_;refine zN (inBlk_n (zT (zR (yS Z (zb2 Z Z Z Z) (zM Z (zN (zT ?_)))))));obtain rfl := zJ hr;exact ⟨_, rfl, zW 6 ⟨rfl, rfl, rfl, rfl, rfl, trivial⟩ Z Z Z (zL Z (zL Z (zL Z (zL (entsLow (fun _ => rfl) _) (zL (entsLow (fun _ => rfl) _) (zL Z Z))))))⟩
  ·
   refine zo g1 hr fun hr => zq (thn_e (thn_e (zy (zT ?_))));obtain rfl := zJ hr;have hr := congrArg some (hb_x1 _ rfl);obtain rfl := zJ hr;exact zW 6 ⟨Z, Z, trivial⟩ Z Z Z (zL Z (zL Z (zL Z (zL (entsLow (fun _ => rfl) _) (zL (entsLow (fun _ => rfl) _) (zL Z Z))))))
 ·have hr := ho_v1;clear hb_v1;refine zT (LW.weak hw_v1 (zQ (zQ (zR (yS Z (zA Z Z ft75_1) (yS Z (zD Z Z Z vt68 Z Z) (yS Z (zlM Z Z (by kernel_rfl)) (zM Z (zN (zT ?_))))))))));obtain ⟨v2, hb_v2, ho_v2⟩ := zB hr;clear hr;refine LW.tail (E := [(5, .ptr 5 0)]) (O := [.box (vwO w), .vec 5 (w.B.map blkP), .vec 4 (w.V.map vtP), (mQ v1.o3), (mR v2.o4), .box [(jB 1 w.B), (jV 2 w.V), .map 3, .map 4, (iQ upto), (bQ false)]]) ?_ (fun env_v2 H_v2 hw_v2 => ?_)
  ·refine LW.block ?_;refine LW.iterB (E := fun x2 : F130_L2 => [(5, .ptr 5 0), (41, (kV w.V)), (42, .p (.int .i64 (w.V.length : Int))), (43, (iQ x2.t43))]) (O := fun x2 => [.box (vwO w), .vec 5 (w.B.map blkP), .vec 4 (w.V.map vtP), (mQ v1.o3), (mR x2.o4), .box [(jB 1 w.B), (jV 2 w.V), .map 3, .map 4, (iQ upto), (bQ false)]]) hb_v2 (zW 6 ⟨rfl, rfl, rfl, rfl, trivial⟩ Z Z Z (zL Z (zL Z (zL Z (zL (entsLow (fun _ => rfl) _) (zL (entsLow (fun _ => rfl) _) (zL Z Z))))))) (fun x2 z_x2 hr hb_x2 => ?_);unfold F130_s2 at hr;refine zQ (zR (yS Z (zb2 Z Z Z Z) (zN (zT (zQ ?_)))));refine zX Z (fun g2 => ?_) (fun g2 => ?_)
   ·
    refine zi g2 hr fun hr => zk (zT (zQ (zl (zQ (zR (zb hr fun y2 h_y2 hr => yS Z (zx Z Z Z st68 h_y2 Z) (yS Z (zC2 Z Z Z vt82 Z Z) (yS Z (ze Z zt82 Z Z) (yS Z (zs Z Z Z Z vt82 Z Z Z Z) (zN (zT (LW.drawLast (m := 5) (by kernel_rfl) (by kernel_rfl) (by kernel_rfl) (zH Z (yE Z (zn Z Z) (yE Z (zA Z Z ft149_2) (yE Z (zD Z Z Z vt147 Z Z) (yE Z (zD Z Z Z vt82 Z Z) (LO.nil ?_))))))))))))))))));refine yS Z (LOp.setX (f := vtP) (g := (fun v => (bQ v))) y2 true vtKey (.inl Z) Z Z Z Z Z mt147 Z) ?_;refine zN (inBlk_n (zT (zR (yS Z (zb2 Z Z Z Z) (zM Z (zN (zT ?_)))))));obtain rfl := zJ hr;exact ⟨_, rfl, zW 6 ⟨rfl, rfl, rfl, rfl, trivial⟩ Z Z Z (zL Z (zL Z (zL Z (zL (entsLow (fun _ => rfl) _) (zL (entsLow (fun _ => rfl) _) (zL Z Z))))))⟩
   ·
    refine zo g2 hr fun hr => zq (thn_e (thn_e (zy (zT ?_))));obtain rfl := zJ hr;have hr := congrArg some (hb_x2 _ rfl);obtain rfl := zJ hr;exact zW 6 ⟨Z, trivial⟩ Z Z Z (zL Z (zL Z (zL Z (zL (entsLow (fun _ => rfl) _) (zL (entsLow (fun _ => rfl) _) (zL Z Z))))))
  ·have hr := ho_v2;clear hb_v2;refine zT (LW.weak hw_v2 (zQ (zR (zM Z (zM Z (zN (zT (zr ?_))))))));obtain rfl := zJ hr;exact fin_ret (.one (.tmp Z)) (⟨rfl, rfl⟩)
theorem entsShI {α : Type} {f : α → PV} {d : Nat} (m : List (α × Int)) : ((entsOf f (fun v => (iQ v)) m).map fun e => (e.1, LV.shift d e.2)) = entsOf f (fun v => (iQ v)) m := entsSh (fun _ => rfl) m
theorem entsShB {α : Type} {f : α → PV} {d : Nat} (m : List (α × Bool)) : ((entsOf f (fun v => (bQ v)) m).map fun e => (e.1, LV.shift d e.2)) = entsOf f (fun v => (bQ v)) m := entsSh (fun _ => rfl) m
end Go.Mg
