/- shuffle.At, Back, Perm. References of trees and cursors. Duties: what stands alone. duty.those: a closure. Sums of weights, and lists, over closures. Committees over closures. marigoldref04. Duties: the reference, the proposer. duty.Total, Weight, Committee, In. Weights of blocks, heads: what stands alone, and the reference. Weights of blocks; the head. Views: clones, and what stands alone. Views: what may be at all; a view that grows, begun. Conditions: none. -/
import Derived.Test.YtbjmcafamkdokaaGreatX3
import Derived.Test.YtbjmcafamkdokaaGreatX4
import Derived.Test.YtbjmcafamkdokaaGreatX2
set_option maxRecDepth 100000
set_option linter.unusedSimpArgs false
set_option linter.unusedVariables false
namespace Go.Mg
open Go.Proofs
def IE : Dk := ⟨fun _ => false, 0⟩
structure iP where
 i : Int
 t6 : Int
 d : Dk
def nL (seed : Int) (n : Int) (x1 : iP) : Option (iP ⊕ iP) :=
 bif decide (x1.t6 < 10) then
  bif pL n x1.t6 then
   some (.inl (iP.mk (pK seed n x1.t6 x1.i) (IntKind.i64.wrap (x1.t6 + 1)) (x1.d.turned x1.t6)))
  else none
 else
  some (.inr (iP.mk x1.i x1.t6 x1.d))
def x8 (seed : Int) (n : Int) (i : Int) (d : Dk) : Option (Int × Dk) :=
 (iter (nL seed n) bE (iP.mk i 0 d)).bind fun v1 =>
 some (v1.i, v1.d)
theorem Ge {seed : Int} {n : Int} {i : Int} {d : Dk} {r_ : Int × Dk} (hr : x8 seed n i d = some r_) : LC Tryz.prog 142 [.ptr 0 0, (iQ i)] [.box (gN seed n d)] (Is (iQ r_.1) [.box (gN seed n r_.2)]) := by
 refine dq Tryz.func142 Z Z Z ?_;unfold x8 at hr;refine zQ<|zR<|zM Z<|zN<|zT<|zQ<|zQ<|zR<|zM Z<|zN<|zT ?_;obtain ⟨v1, hb_v1, ho_v1⟩ := zB hr;clear hr;refine LW.tail (E := [(1, (iQ v1.i)), (4, (iQ 0))]) (O := [.box (gN seed n v1.d)]) ?_<|fun env_v1 H_v1 hw_v1 => ?_
 ·refine LW.block ?_;refine LW.iterB (E := fun x1 : iP => [(0, .ptr 0 0), (1, (iQ x1.i)), (4, (iQ 0)), (6, (iQ x1.t6))]) (O := fun x1 => [.box (gN seed n x1.d)]) hb_v1 (zW 1 ⟨rfl, rfl, rfl, rfl, trivial⟩ Z Z Z Z)<|fun x1 z_x1 hr hb_x1 => ?_;unfold nL at hr;refine zQ<|zR<|yS Z (ay Z Z Z Z)<|zN<|zT<|zQ ?_;refine zX Z (fun g1 => ?_)<|fun g1 => ?_
  ·
   refine zi g1 hr fun hr => zk<|zT<|zQ<|zl<|zQ<|zR<|zM Z<|zM Z<|zN<|zT<|zR<|zM Z<|zM Z<|zM Z<|zg hr fun q1 hr => yS Z (zC Z Z Z (by kernel_rfl) (HZ q1))<|zM Z<|zN<|ai<|zT<|zR<|yS Z (ay Z Z Z Z)<|zM Z ?_;refine zN<|zT ?_;obtain rfl := zJ hr;exact ⟨_, rfl, zW 1 ⟨rfl, rfl, rfl, rfl, trivial⟩ Z Z Z rfl⟩
  ·
   refine zo g1 hr fun hr => zq<|ao<|ao<|zy<|zT ?_;obtain rfl := zJ hr;have hr := congrArg some (hb_x1 _ rfl);obtain rfl := zJ hr;exact zW 1 ⟨Z, Z, trivial⟩ Z Z Z Z
 ·have hr := ho_v1;clear hb_v1;refine zT<|LW.weak hw_v1<|zQ<|zR<|zM Z<|zM Z<|zN<|zT<|zr ?_;obtain rfl := zJ hr;exact ap (.one (.tmp Z))<|⟨rfl, rfl⟩
def x7 (n : Int) (i : Int) : Option Bool :=
 bif decide (n > 0) then
  bif decide (n ≤ 1000) then
   bif decide (i ≥ 0) then
    some (decide (i < n))
   else
    some false
  else
   some false
 else
  some false
theorem HY {n : Int} {i : Int} {r_ : Bool} (hr : x7 n i = some r_) : aw Tryz.prog 141 [.int .i64 n, .int .i64 i] [.bool r_] := by
 refine zh Tryz.func141 Z Z Z Z ?_;unfold x7 at hr;refine zQ<|zR<|zM Z<|zN<|zT<|zQ<|zR<|zM Z<|yS Z (ay Z Z Z Z)<|zM Z ?_;refine zc 7 Z (fun g1 => ?_)<|fun g1 => ?_
 ·
  refine zi g1 hr fun hr => yV Z (gd g1 Z) (zm Z Z)<|yV Z (gd g1 Z) (ay Z Z Z Z)<|yS Z (cq Z (aS g1 Z) Z)<|zM Z ?_;refine zc 11 Z (fun g2 => ?_)<|fun g2 => ?_
  ·
   refine zi g2 hr fun hr => yV Z (gd g2 Z) (zm Z Z)<|yV Z (gd g2 Z) (ay Z Z Z Z)<|yS Z (cq Z (aS g2 Z) Z)<|zM Z ?_;refine zc 15 Z (fun g3 => ?_)<|fun g3 => ?_
   ·
    refine zi g3 hr fun hr => yV Z (gd g3 Z) (zm Z Z)<|yV Z (gd g3 Z) (zm Z Z)<|yV Z (gd g3 Z) (ay Z Z Z Z)<|yS Z (cq Z (aS g3 Z) Z)<|zM Z<|zN<|zT<|zr ?_;obtain rfl := zJ hr;exact zf (.one (.tmp Z)) zv
   ·
    refine zo g3 hr fun hr => yU Z (gd g3 Z) Z<|yU Z (gd g3 Z) Z<|yU Z (gd g3 Z) Z<|yS Z (bg Z (aS g3 Z) Z)<|zM Z<|zN<|zT<|zr ?_;obtain rfl := zJ hr;exact zf (.one (.tmp Z)) zv
  ·
   refine zo g2 hr fun hr => yU Z (gd g2 Z) Z<|yU Z (gd g2 Z) Z<|yS Z (bg Z (aS g2 Z) Z)<|zM Z<|yU Z Z Z<|yU Z Z Z<|yU Z Z Z<|yS Z (bg Z Z Z)<|zM Z<|zN<|zT<|zr ?_;obtain rfl := zJ hr;exact zf (.one (.tmp Z)) zv
 ·
  refine zo g1 hr fun hr => yU Z (gd g1 Z) Z<|yU Z (gd g1 Z) Z<|yS Z (bg Z (aS g1 Z) Z)<|zM Z<|yU Z Z Z<|yU Z Z Z<|yS Z (bg Z Z Z)<|zM Z<|yU Z Z Z<|yU Z Z Z<|yU Z Z Z<|yS Z (bg Z Z Z)<|zM Z<|zN<|zT<|zr ?_;obtain rfl := zJ hr;exact zf (.one (.tmp Z)) zv
structure kR where
 t19 : Int
 d : Dk
 l : List Int
def oq (seed : Int) (n : Int) (x1 : kR) : Option (kR ⊕ kR) :=
 bif decide (x1.t19 < ((List.replicate n.toNat (0 : Int)).length : Int)) then
  (x8 seed n x1.t19 x1.d).bind fun v3 =>
  (ix x1.l x1.t19).bind fun _ =>
  some (.inl (kR.mk (IntKind.i64.wrap (x1.t19 + 1)) v3.2 (x1.l.set x1.t19.toNat v3.1)))
 else
  some (.inr (kR.mk x1.t19 x1.d x1.l))
def Fe (seed : Int) (n : Int) : Option (List Int) :=
 (x7 n 0).bind fun v1 =>
 bif !v1 then
  some []
 else
  bif xA n 8 then
   (iter (oq seed n) bE (kR.mk 0 IE (List.replicate n.toNat (0 : Int)))).bind fun v2 =>
   bif decide (v2.d.k < n) then
    some []
   else
    some v2.l
  else none
theorem I6 {seed : Int} {n : Int} {r_ : (List Int)} (hr : Fe seed n = some r_) : aw Tryz.prog 103 [.int .u64 seed, .int .i64 n] [.slice 1 (r_.map aB)] := by
 refine zh Tryz.func103 Z Z Z Z ?_;unfold Fe at hr;refine zQ<|zR<|zM Z<|zN<|zT<|zQ<|zQ<|zR<|zM Z<|zb hr fun v1 h_v1 hr => yS Z (zC Z Z Z (by kernel_rfl) (zp (HY h_v1) (.cons zv (.cons zv .nil))))<|yS Z (ab.not Z Z)<|zN<|zT ?_;refine zX Z (fun g1 => ?_)<|fun g1 => ?_
 ·
  refine zi g1 hr fun hr => zQ<|zR<|zM Z<|zN<|zT<|zr<|af ?_;obtain rfl := zJ hr;exact zf (.one (.tmp Z)) Conv.zs
 ·
  refine zo g1 hr fun hr => zk<|zT<|zQ<|zR<|zM Z<|zM Z<|yS Z (ab.build Z Fs Z Z Z)<|yS Z (bT (H' := [.box (gN seed n IE)]) Z Z Z Z Z)<|zM Z<|zN<|zT<|zQ<|zR<|zM Z<|zg hr fun q1 hr => yS Z (ab.makeSliceX aB 0 Z Z Z fO (z := .int .i64 0) (by kernel_rfl) Z q1 Z Z)<|zM Z<|zN<|zT<|zQ<|zQ<|zR<|zM Z ?_;refine yS Z (ab.lenVM Z Z Z (by kernel_rfl))<|zM Z<|zN<|zT ?_;obtain ⟨v2, hb_v2, ho_v2⟩ := zB hr;clear hr;refine LW.tail (E := [(1, (iQ n)), (4, .zs), (5, .ptr 0 0), (6, (jI 1 v2.l))]) (O := [.box (gN seed n v2.d), .vec 1 (v2.l.map aB)]) ?_<|fun env_v2 H_v2 hw_v2 => ?_
  ·refine LW.block ?_;refine LW.iterB (E := fun x1 : kR => [(1, (iQ n)), (4, .zs), (5, .ptr 0 0), (6, (jI 1 x1.l)), (18, .p (.int .i64 ((List.replicate n.toNat (0 : Int)).length : Int))), (19, (iQ x1.t19))]) (O := fun x1 => [.box (gN seed n x1.d), .vec 1 (x1.l.map aB)]) hb_v2 (zW 2 ⟨rfl, rfl, rfl, rfl, rfl, rfl, trivial⟩ Z Z Z Z)<|fun x1 z_x1 hr hb_x1 => ?_;unfold oq at hr;refine zQ<|zR<|yS Z (ay Z Z Z Z)<|zN<|zT<|zQ ?_;refine zX Z (fun g2 => ?_)<|fun g2 => ?_
   ·
    refine zi g2 hr fun hr => zk<|zT<|zQ<|zl<|zQ<|zR<|zM Z<|zM Z<|zN<|zT<|zR<|zM Z<|zM Z<|zM Z<|zM Z<|zb hr fun v3 h_v3 hr => yS Z (zC Z Z Z (by kernel_rfl) (LC.pre (Ge h_v3) Z Z Z))<|zb hr fun y1 h_y1 hr => yS Z (ab.indexAddrVX Z Z Z Z fO h_y1) ?_;refine yS Z (ab.storeVX (f := aB) (l := x1.l) v3.1 Z Z Z Z a7 (fun _ => rfl) h_y1 Z) ?_;refine zN<|ai<|zT<|zR<|yS Z (ay Z Z Z Z)<|zM Z<|zN<|zT ?_;obtain rfl := zJ hr;exact ⟨_, rfl, zW 2 ⟨rfl, rfl, rfl, (IJ (rfl)), rfl, rfl, trivial⟩ Z Z Z rfl⟩
   ·
    refine zo g2 hr fun hr => zq<|ao<|ao<|zy<|zT ?_;obtain rfl := zJ hr;have hr := congrArg some (hb_x1 _ rfl);obtain rfl := zJ hr;exact zW 2 ⟨Z, Z, Z, Z, trivial⟩ Z Z Z Z
  ·have hr := ho_v2;clear hb_v2;refine zT<|LW.weak hw_v2<|zQ<|zQ<|zR<|zM Z<|yS Z (zn Z Z)<|yS Z (zA Z Z rl)<|yS Z (zC Z Z Z (by kernel_rfl) (H4 (off := 52) Z Z))<|zM Z<|yS Z (ay Z Z Z Z)<|zN<|zT ?_;refine zX Z (fun g3 => ?_)<|fun g3 => ?_
   ·
    refine zi g3 hr fun hr => zQ<|zR<|zM Z<|zN<|zT<|zr<|af ?_;obtain rfl := zJ hr;exact zf (.one (.tmp Z)) Conv.zs
   ·
    refine zo g3 hr fun hr => zk<|zT<|zQ<|zR<|zM Z<|zM Z<|zN<|zT<|zr ?_;obtain rfl := zJ hr;exact zf (.one (.tmp Z))<|(Conv.vecAll Z Z Z)
open Go.Proofs
open Go.Proofs
structure gF where
 m : Int
 i : Int
def lE (x : List Int) (x1 : gF) : Option (gF ⊕ gF) :=
 bif decide (x1.i < (x.length : Int)) then
  (ix x x1.i).bind fun y2 =>
  some (.inl (gF.mk (if y2 < x1.m then y2 else x1.m) (IntKind.i64.wrap (x1.i + 1))))
 else
  some (.inr (gF.mk x1.m x1.i))
def yd (x : List Int) : Option Int :=
 bif decide ((x.length : Int) < 1) then
  none
 else
  (ix x 0).bind fun y1 =>
  (iter (lE x) bE (gF.mk y1 1)).bind fun v1 =>
  some v1.m
theorem H5 {x : List Int} {r_ : Int} (hr : yd x = some r_) : aw Tryz.prog 78 [.slice 1 (x.map aB)] [.int .i64 r_] := by
 refine zh Tryz.func78 Z Z Z Z ?_;unfold yd at hr;refine zQ<|zR<|zM Z<|zN<|zT<|zQ<|zQ<|zR<|zM Z<|yS Z (cB Z Z (by kernel_rfl))<|yS Z (ay Z Z Z Z)<|zN<|zT ?_;refine zX Z (fun g1 => ?_)<|fun g1 => ?_
 ·
  have hr := zI g1 hr;cases hr
 ·
  refine zo g1 hr fun hr => zk<|zT<|zQ<|zR<|zM Z<|zb hr fun y1 h_y1 hr => yS Z (zx Z Z Z fO h_y1 Z)<|yS Z (cR Z Z Z a7 Z Z)<|zM Z<|zN<|zT<|zQ<|zQ<|zR<|zM Z<|zN<|zT ?_;obtain ⟨v1, hb_v1, ho_v1⟩ := zB hr;clear hr;refine LW.tail (E := [(2, (iQ 0)), (3, (iQ v1.m))]) (O := []) ?_<|fun env_v1 H_v1 hw_v1 => ?_
  ·refine LW.block ?_;refine LW.iterB (E := fun x1 : gF => [(0, (kI x)), (2, (iQ 0)), (3, (iQ x1.m)), (4, (iQ x1.i))]) (O := fun x1 => []) hb_v1 (zW 0 ⟨rfl, rfl, rfl, rfl, trivial⟩ Z Z Z Z)<|fun x1 z_x1 hr hb_x1 => ?_;unfold lE at hr;refine zQ<|zQ<|zR<|zM Z<|zM Z<|yS Z (cB Z Z (by kernel_rfl))<|yS Z (ay Z Z Z Z)<|zN<|zT ?_;refine zX Z (fun g2 => ?_)<|fun g2 => ?_
   ·
    refine zi g2 hr fun hr => zk<|zT<|zQ<|zl<|zR<|zM Z<|zM Z<|zM Z<|zb hr fun y2 h_y2 hr => yS Z (zx Z Z Z fO h_y2 Z)<|yS Z (cR Z Z Z a7 Z Z)<|yS Z (ab.min Z Z Z)<|zM Z<|zN<|ai<|zT<|zR<|zM Z<|yS Z (ay Z Z Z Z)<|zM Z<|zN<|zT ?_;obtain rfl := zJ hr;exact ⟨_, rfl, zW 0 ⟨rfl, rfl, rfl, rfl, trivial⟩ Z Z Z rfl⟩
   ·
    refine zo g2 hr fun hr => zq<|ao<|ao<|zy<|zT ?_;obtain rfl := zJ hr;have hr := congrArg some (hb_x1 _ rfl);obtain rfl := zJ hr;exact zW 0 ⟨Z, Z, trivial⟩ Z Z Z Z
  ·have hr := ho_v1;clear hb_v1;refine zT<|LW.weak hw_v1<|zQ<|zR<|zM Z<|zM Z<|zN<|zT<|zr ?_;obtain rfl := zJ hr;exact zf (.one (.tmp Z)) zv
structure gG where
 m : Int
 i : Int
def lF (x : List Int) (x1 : gG) : Option (gG ⊕ gG) :=
 bif decide (x1.i < (x.length : Int)) then
  (ix x x1.i).bind fun y2 =>
  some (.inl (gG.mk (if y2 > x1.m then y2 else x1.m) (IntKind.i64.wrap (x1.i + 1))))
 else
  some (.inr (gG.mk x1.m x1.i))
def ye (x : List Int) : Option Int :=
 bif decide ((x.length : Int) < 1) then
  none
 else
  (ix x 0).bind fun y1 =>
  (iter (lF x) bE (gG.mk y1 1)).bind fun v1 =>
  some v1.m
theorem H6 {x : List Int} {r_ : Int} (hr : ye x = some r_) : aw Tryz.prog 79 [.slice 1 (x.map aB)] [.int .i64 r_] := by
 refine zh Tryz.func79 Z Z Z Z ?_;unfold ye at hr;refine zQ<|zR<|zM Z<|zN<|zT<|zQ<|zQ<|zR<|zM Z<|yS Z (cB Z Z (by kernel_rfl))<|yS Z (ay Z Z Z Z)<|zN<|zT ?_;refine zX Z (fun g1 => ?_)<|fun g1 => ?_
 ·
  have hr := zI g1 hr;cases hr
 ·
  refine zo g1 hr fun hr => zk<|zT<|zQ<|zR<|zM Z<|zb hr fun y1 h_y1 hr => yS Z (zx Z Z Z fO h_y1 Z)<|yS Z (cR Z Z Z a7 Z Z)<|zM Z<|zN<|zT<|zQ<|zQ<|zR<|zM Z<|zN<|zT ?_;obtain ⟨v1, hb_v1, ho_v1⟩ := zB hr;clear hr;refine LW.tail (E := [(2, (iQ 0)), (3, (iQ v1.m))]) (O := []) ?_<|fun env_v1 H_v1 hw_v1 => ?_
  ·refine LW.block ?_;refine LW.iterB (E := fun x1 : gG => [(0, (kI x)), (2, (iQ 0)), (3, (iQ x1.m)), (4, (iQ x1.i))]) (O := fun x1 => []) hb_v1 (zW 0 ⟨rfl, rfl, rfl, rfl, trivial⟩ Z Z Z Z)<|fun x1 z_x1 hr hb_x1 => ?_;unfold lF at hr;refine zQ<|zQ<|zR<|zM Z<|zM Z<|yS Z (cB Z Z (by kernel_rfl))<|yS Z (ay Z Z Z Z)<|zN<|zT ?_;refine zX Z (fun g2 => ?_)<|fun g2 => ?_
   ·
    refine zi g2 hr fun hr => zk<|zT<|zQ<|zl<|zR<|zM Z<|zM Z<|zM Z<|zb hr fun y2 h_y2 hr => yS Z (zx Z Z Z fO h_y2 Z)<|yS Z (cR Z Z Z a7 Z Z)<|yS Z (ab.max Z Z Z)<|zM Z<|zN<|ai<|zT<|zR<|zM Z<|yS Z (ay Z Z Z Z)<|zM Z<|zN<|zT ?_;obtain rfl := zJ hr;exact ⟨_, rfl, zW 0 ⟨rfl, rfl, rfl, rfl, trivial⟩ Z Z Z rfl⟩
   ·
    refine zo g2 hr fun hr => zq<|ao<|ao<|zy<|zT ?_;obtain rfl := zJ hr;have hr := congrArg some (hb_x1 _ rfl);obtain rfl := zJ hr;exact zW 0 ⟨Z, Z, trivial⟩ Z Z Z Z
  ·have hr := ho_v1;clear hb_v1;refine zT<|LW.weak hw_v1<|zQ<|zR<|zM Z<|zM Z<|zN<|zT<|zr ?_;obtain rfl := zJ hr;exact zf (.one (.tmp Z)) zv
def wY (c : Cf) : Option Bool :=
 (
  bif (c.W.length : Int) == 0 then
   some true
  else
   bif decide ((c.W.length : Int) > 12) then
    some true
   else
    (yd c.W).bind fun v2 =>
    bif decide (v2 < 0) then
     some true
    else
     (ye c.W).bind fun v3 =>
     some (decide (v3 > 1099511627776))
 ).bind fun v1 =>
 bif v1 then
  some false
 else
  bif decide (c.Epoch > 0) then
   bif decide (c.Epoch ≤ 8) then
    bif decide (c.Num ≥ 0) then
     bif decide (c.Num ≤ c.Den) then
      bif decide (c.Den > 0) then
       some (decide (c.Den ≤ 1000))
      else
       some false
     else
      some false
    else
     some false
   else
    some false
  else
   some false
theorem Ef {c : Cf} {r_ : Bool} (hr : wY c = some r_) : aw Tryz.prog 47 [kz c] [.bool r_] := by
 refine zh Tryz.func47 Z Z Z Z ?_;unfold wY at hr;refine zQ<|zR<|yS Z (bT Z Z Z Z Z)<|zM Z<|zN<|zT<|zQ ?_;obtain ⟨v1, hb_v1, ho_v1⟩ := zB hr;clear hr;refine LW.cut (E := [(1, .ptr 0 0), (2, (bQ false)), (24, (bQ v1))]) (O := [.box (bN c)]) ?_ ?_
 ·have hr := hb_v1;refine zR<|yS Z (zA Z Z gm)<|yS Z (zD Z Z Z eR Z Z)<|yS Z (cB Z Z (by kernel_rfl))<|yS Z (ay Z Z Z Z)<|zM Z ?_;refine zc 7 Z (fun g1 => ?_)<|fun g1 => ?_
  ·
   refine zi g1 hr fun hr => yU Z (gd g1 Z) Z<|yU Z (gd g1 Z) Z<|yU Z (gd g1 Z) Z<|yU Z (gd g1 Z) Z<|yS Z (cq Z (aS g1 Z) Z)<|zM Z<|yU Z Z Z<|yU Z Z Z<|yU Z Z Z<|yU Z Z Z<|yS Z (cq Z Z Z)<|zM Z<|yU Z Z Z<|yU Z Z Z<|yU Z Z Z<|yU Z Z Z<|yS Z (cq Z Z Z)<|zN<|zT ?_;obtain rfl := zJ hr;exact zW 1 ⟨Z, Z, Z, trivial⟩ Z Z Z Z
  ·
   refine zo g1 hr fun hr => yV Z (gd g1 Z) (zA Z Z gm)<|yV Z (gd g1 Z) (zD Z Z Z eR Z Z)<|yV Z (gd g1 Z) (cB Z Z (by kernel_rfl))<|yV Z (gd g1 Z) (ay Z Z Z Z)<|yS Z (bg Z (aS g1 Z) Z)<|zM Z ?_;refine zc 13 Z (fun g2 => ?_)<|fun g2 => ?_
   ·
    refine zi g2 hr fun hr => yU Z (gd g2 Z) Z<|yU Z (gd g2 Z) Z<|yU Z (gd g2 Z) Z<|yU Z (gd g2 Z) Z<|yS Z (cq Z (aS g2 Z) Z)<|zM Z<|yU Z Z Z<|yU Z Z Z<|yU Z Z Z<|yU Z Z Z<|yS Z (cq Z Z Z)<|zN<|zT ?_;obtain rfl := zJ hr;exact zW 1 ⟨Z, Z, Z, trivial⟩ Z Z Z Z
   ·
    refine zo g2 hr fun hr => yV Z (gd g2 Z) (zA Z Z gm)<|yV Z (gd g2 Z) (zD Z Z Z eR Z Z)<|zb hr fun v2 h_v2 hr => yV Z (gd g2 Z) (zC Z Z Z (by kernel_rfl) (zp (H5 h_v2) (.cons zv .nil)))<|yV Z (gd g2 Z) (ay Z Z Z Z)<|yS Z (bg Z (aS g2 Z) Z)<|zM Z ?_;refine zc 19 Z (fun g3 => ?_)<|fun g3 => ?_
    ·
     refine zi g3 hr fun hr => yU Z (gd g3 Z) Z<|yU Z (gd g3 Z) Z<|yU Z (gd g3 Z) Z<|yU Z (gd g3 Z) Z<|yS Z (cq Z (aS g3 Z) Z)<|zN<|zT ?_;obtain rfl := zJ hr;exact zW 1 ⟨Z, Z, Z, trivial⟩ Z Z Z Z
    ·
     refine zo g3 hr fun hr => yV Z (gd g3 Z) (zA Z Z gm)<|yV Z (gd g3 Z) (zD Z Z Z eR Z Z)<|zb hr fun v3 h_v3 hr => yV Z (gd g3 Z) (zC Z Z Z (by kernel_rfl) (zp (H6 h_v3) (.cons zv .nil)))<|yV Z (gd g3 Z) (ay Z Z Z Z)<|yS Z (bg Z (aS g3 Z) Z)<|zN<|zT ?_;obtain rfl := zJ hr;exact zW 1 ⟨Z, Z, Z, trivial⟩ Z Z Z Z
 ·have hr := ho_v1;clear hb_v1;refine zX Z (fun g4 => ?_)<|fun g4 => ?_
  ·
   refine zi g4 hr fun hr => zQ<|zR<|zM Z<|zN<|zT<|zr<|af ?_;obtain rfl := zJ hr;exact zf (.one (.tmp Z)) zv
  ·
   refine zo g4 hr fun hr => zk<|zT<|zQ<|zR<|yS Z (zA Z Z oX)<|yS Z (zD Z Z Z a7 Z Z)<|yS Z (ay Z Z Z Z)<|zM Z ?_;refine zc 28 Z (fun g5 => ?_)<|fun g5 => ?_
   ·
    refine zi g5 hr fun hr => yV Z (gd g5 Z) (zA Z Z oX)<|yV Z (gd g5 Z) (zD Z Z Z a7 Z Z)<|yV Z (gd g5 Z) (ay Z Z Z Z)<|yS Z (cq Z (aS g5 Z) Z)<|zM Z ?_;refine zc 33 Z (fun g6 => ?_)<|fun g6 => ?_
    ·
     refine zi g6 hr fun hr => yV Z (gd g6 Z) (zA Z Z uS)<|yV Z (gd g6 Z) (zD Z Z Z a7 Z Z)<|yV Z (gd g6 Z) (ay Z Z Z Z)<|yS Z (cq Z (aS g6 Z) Z)<|zM Z ?_;refine zc 38 Z (fun g7 => ?_)<|fun g7 => ?_
     ·
      refine zi g7 hr fun hr => yV Z (gd g7 Z) (zA Z Z uS)<|yV Z (gd g7 Z) (zD Z Z Z a7 Z Z)<|yV Z (gd g7 Z) (zA Z Z oY)<|yV Z (gd g7 Z) (zD Z Z Z a7 Z Z)<|yV Z (gd g7 Z) (ay Z Z Z Z)<|yS Z (cq Z (aS g7 Z) Z)<|zM Z ?_;refine zc 45 Z (fun g8 => ?_)<|fun g8 => ?_
      ·
       refine zi g8 hr fun hr => yV Z (gd g8 Z) (zA Z Z oY)<|yV Z (gd g8 Z) (zD Z Z Z a7 Z Z)<|yV Z (gd g8 Z) (ay Z Z Z Z)<|yS Z (cq Z (aS g8 Z) Z)<|zM Z ?_;refine zc 50 Z (fun g9 => ?_)<|fun g9 => ?_
       ·
        refine zi g9 hr fun hr => yV Z (gd g9 Z) (zA Z Z oY)<|yV Z (gd g9 Z) (zD Z Z Z a7 Z Z)<|yV Z (gd g9 Z) (ay Z Z Z Z)<|yS Z (cq Z (aS g9 Z) Z)<|zM Z<|zN<|zT<|zr ?_;obtain rfl := zJ hr;exact zf (.one (.tmp Z)) zv
       ·
        refine zo g9 hr fun hr => yU Z (gd g9 Z) Z<|yU Z (gd g9 Z) Z<|yU Z (gd g9 Z) Z<|yS Z (bg Z (aS g9 Z) Z)<|zM Z<|zN<|zT<|zr ?_;obtain rfl := zJ hr;exact zf (.one (.tmp Z)) zv
      ·
       refine zo g8 hr fun hr => yU Z (gd g8 Z) Z<|yU Z (gd g8 Z) Z<|yU Z (gd g8 Z) Z<|yS Z (bg Z (aS g8 Z) Z)<|zM Z<|yU Z Z Z<|yU Z Z Z<|yU Z Z Z<|yS Z (bg Z Z Z)<|zM Z<|zN<|zT<|zr ?_;obtain rfl := zJ hr;exact zf (.one (.tmp Z)) zv
     ·
      refine zo g7 hr fun hr => yU Z (gd g7 Z) Z<|yU Z (gd g7 Z) Z<|yU Z (gd g7 Z) Z<|yU Z (gd g7 Z) Z<|yU Z (gd g7 Z) Z<|yS Z (bg Z (aS g7 Z) Z)<|zM Z<|yU Z Z Z<|yU Z Z Z<|yU Z Z Z<|yS Z (bg Z Z Z)<|zM Z<|yU Z Z Z<|yU Z Z Z<|yU Z Z Z<|yS Z (bg Z Z Z)<|zM Z<|zN<|zT<|zr ?_;obtain rfl := zJ hr;exact zf (.one (.tmp Z)) zv
    ·
     refine zo g6 hr fun hr => yU Z (gd g6 Z) Z<|yU Z (gd g6 Z) Z<|yU Z (gd g6 Z) Z<|yS Z (bg Z (aS g6 Z) Z)<|zM Z<|yU Z Z Z<|yU Z Z Z<|yU Z Z Z<|yU Z Z Z<|yU Z Z Z<|yS Z (bg Z Z Z)<|zM Z<|yU Z Z Z<|yU Z Z Z<|yU Z Z Z<|yS Z (bg Z Z Z)<|zM Z<|yU Z Z Z<|yU Z Z Z<|yU Z Z Z<|yS Z (bg Z Z Z)<|zM Z<|zN ?_;refine zT<|zr ?_;obtain rfl := zJ hr;exact zf (.one (.tmp Z)) zv
   ·
    refine zo g5 hr fun hr => yU Z (gd g5 Z) Z<|yU Z (gd g5 Z) Z<|yU Z (gd g5 Z) Z<|yS Z (bg Z (aS g5 Z) Z)<|zM Z<|yU Z Z Z<|yU Z Z Z<|yU Z Z Z<|yS Z (bg Z Z Z)<|zM Z<|yU Z Z Z<|yU Z Z Z<|yU Z Z Z<|yU Z Z Z<|yU Z Z Z<|yS Z (bg Z Z Z)<|zM Z<|yU Z Z Z<|yU Z Z Z<|yU Z Z Z<|yS Z (bg Z Z Z)<|zM Z<|yU Z Z Z ?_;refine yU Z Z Z<|yU Z Z Z<|yS Z (bg Z Z Z)<|zM Z<|zN<|zT<|zr ?_;obtain rfl := zJ hr;exact zf (.one (.tmp Z)) zv
def wM (c : Cf) (slot : Int) : Option Bool :=
 (wY c).bind fun v1 =>
 bif v1 then
  bif decide (slot > 0) then
   some (decide (slot ≤ 1048576))
  else
   some false
 else
  some false
theorem FD {c : Cf} {slot : Int} {r_ : Bool} (hr : wM c slot = some r_) : aw Tryz.prog 69 [kz c, .int .i64 slot] [.bool r_] := by
 refine zh Tryz.func69 Z Z Z Z ?_;unfold wM at hr;refine zQ<|zR<|yS Z (bT Z Z Z Z Z)<|zM Z<|zN<|zT<|zQ<|zR<|yS Z (zD Z Z Z bY Z Z)<|zb hr fun v1 h_v1 hr => yS Z (zC Z Z Z (by kernel_rfl) (zp (Ef h_v1) (.cons zv .nil)))<|zM Z ?_;refine zc 7 Z (fun g1 => ?_)<|fun g1 => ?_
 ·
  refine zi g1 hr fun hr => yV Z (gd g1 Z) (zm Z Z)<|yV Z (gd g1 Z) (ay Z Z Z Z)<|yS Z (cq Z (aS g1 Z) Z)<|zM Z ?_;refine zc 11 Z (fun g2 => ?_)<|fun g2 => ?_
  ·
   refine zi g2 hr fun hr => yV Z (gd g2 Z) (zm Z Z)<|yV Z (gd g2 Z) (ay Z Z Z Z)<|yS Z (cq Z (aS g2 Z) Z)<|zM Z<|zN<|zT<|zr ?_;obtain rfl := zJ hr;exact zf (.one (.tmp Z)) zv
  ·
   refine zo g2 hr fun hr => yU Z (gd g2 Z) Z<|yU Z (gd g2 Z) Z<|yS Z (bg Z (aS g2 Z) Z)<|zM Z<|zN<|zT<|zr ?_;obtain rfl := zJ hr;exact zf (.one (.tmp Z)) zv
 ·
  refine zo g1 hr fun hr => yU Z (gd g1 Z) Z<|yU Z (gd g1 Z) Z<|yS Z (bg Z (aS g1 Z) Z)<|zM Z<|yU Z Z Z<|yU Z Z Z<|yS Z (bg Z Z Z)<|zM Z<|zN<|zT<|zr ?_;obtain rfl := zJ hr;exact zf (.one (.tmp Z)) zv
structure iR where
 t8 : Int
def km (s : List Int) (v : Int) (x1 : iR) : Option (iR ⊕ (iR ⊕ Int)) :=
 bif decide (x1.t8 < (s.length : Int)) then
  (ix s x1.t8).bind fun y1 =>
  bif v == y1 then
   some (.inr (.inr x1.t8))
  else
   some (.inl (iR.mk (IntKind.i64.wrap (x1.t8 + 1))))
 else
  some (.inr (.inl (iR.mk x1.t8)))
def BY (s : List Int) (v : Int) : Option Int :=
 (iter (km s v) bE (iR.mk 0)).bind fun b_v1 => Sum.elim (fun _ =>
  some (-1)) some b_v1
theorem Ii {s : List Int} {v : Int} {r_ : Int} (hr : BY s v = some r_) : aw Tryz.prog 80 [.slice 1 (s.map aB), .int .i64 v] [.int .i64 r_] := by
 refine zh Tryz.func80 Z Z Z Z ?_;unfold BY at hr;refine zQ<|zR<|zM Z<|zN<|zT<|zQ<|zQ<|zR<|zM Z<|yS Z (cB Z Z (by kernel_rfl))<|zM Z<|zN<|zT ?_;obtain ⟨b_v1, hb_v1, ho_v1⟩ := zB hr;clear hr;refine LW.tailB (b := b_v1) (E := fun v1 => [(4, (iQ 0))]) (O := fun v1 => []) ?_<|fun v1 e_v1 env_v1 H_v1 hw_v1 => ?_
 ·refine LW.block ?_;refine LW.iterB (E := fun x1 : iR => [(0, (kI s)), (1, (iQ v)), (4, (iQ 0)), (7, .p (.int .i64 (s.length : Int))), (8, (iQ x1.t8))]) (O := fun x1 => []) hb_v1 (zW 0 ⟨rfl, rfl, rfl, rfl, rfl, trivial⟩ Z Z Z Z)<|fun x1 z_x1 hr hb_x1 => ?_;unfold km at hr;refine zQ<|zR<|yS Z (ay Z Z Z Z)<|zN<|zT<|zQ ?_;refine zX Z (fun g1 => ?_)<|fun g1 => ?_
  ·
   refine zi g1 hr fun hr => zk<|zT<|zQ<|zl<|zQ<|zR<|zM Z<|zM Z<|zN<|zT<|zQ<|zR<|zM Z<|zM Z<|zM Z<|zb hr fun y1 h_y1 hr => yS Z (zx Z Z Z fO h_y1 Z)<|yS Z (cR Z Z Z a7 Z Z)<|yS Z (ay Z Z Z Z)<|zN<|zT ?_;refine zX Z (fun g2 => ?_)<|fun g2 => ?_
   ·
    refine zi g2 hr fun hr => zQ<|zR<|zM Z<|zM Z<|zN<|zT<|zr<|aq<|af<|af<|aq<|af<|af ?_;obtain rfl := zJ hr;have hr := congrArg some (hb_x1 _ rfl);obtain rfl := zJ hr;have hr := cS ho_v1;obtain rfl := zJ hr;exact zf (.one (.tmp Z)) zv
   ·
    refine zo g2 hr fun hr => zk<|ai<|zT<|zR<|yS Z (ay Z Z Z Z)<|zM Z<|zN<|zT ?_;obtain rfl := zJ hr;exact ⟨_, rfl, zW 0 ⟨rfl, rfl, rfl, rfl, rfl, trivial⟩ Z Z Z rfl⟩
  ·
   refine zo g1 hr fun hr => zq<|ao<|ao<|zy<|zT ?_;obtain rfl := zJ hr;have hr := congrArg some (hb_x1 _ rfl);obtain rfl := zJ hr;exact ⟨_, rfl, zW 0 ⟨rfl, trivial⟩ Z Z Z rfl⟩
 ·obtain rfl := e_v1;have hr := d4 ho_v1;clear hb_v1;refine zT<|LW.weak hw_v1<|zQ<|zR<|zM Z<|zN<|zT<|zr ?_;obtain rfl := zJ hr;exact zf (.one (.tmp Z)) zv
def rZ (s : List Int) (v : Int) : Option Bool :=
 (BY s v).bind fun v1 =>
 some (decide (v1 ≥ 0))
theorem Co {s : List Int} {v : Int} {r_ : Bool} (hr : rZ s v = some r_) : aw Tryz.prog 48 [.slice 1 (s.map aB), .int .i64 v] [.bool r_] := by
 refine zh Tryz.func48 Z Z Z Z ?_;unfold rZ at hr;refine zQ<|zR<|zM Z<|zN<|zT<|zQ<|zR<|zM Z<|zM Z<|zb hr fun v1 h_v1 hr => yS Z (zC Z Z Z (by kernel_rfl) (zp (Ii h_v1) (.cons zv (.cons zv .nil))))<|yS Z (ay Z Z Z Z)<|zM Z<|zN<|zT<|zr ?_;obtain rfl := zJ hr;exact zf (.one (.tmp Z)) zv
structure HS where
 i : Int
open Go.Proofs
theorem pm : ∀ H : List aa, cp H = some H.length
 | [] => rfl
 | _ :: r => by unfold cp; rw [pm r]; rfl
theorem oC : ∀ (H : List aa) (o : aa), gD H o = some (H ++ [o])
 | [], _ => rfl
 | _ :: r, o => by unfold gD; rw [oC r o]; rfl
theorem FG {c : Cf} {g : FuncId} {first caps : List LV} {H : List aa} : LC Tryz.prog 105 [.p (kz c), .fn g first caps] H (Is (.fn 145 [] [.cptr [.slice 1 (c.W.map aB), .int .u64 c.Seed, .int .i64 c.Epoch, .int .i64 c.Num, .int .i64 c.Den], .fptr (.fn g first caps)]) H) := by
 refine LC.those Tryz.func105 Z Z Z ?_;refine LW.seq<|LW.region<|am.st Z Z Z (ab.box Z Z Z (pm _) (oC _ _))<|am.st Z Z Z (ab.box Z Z Z (pm _) (oC _ _))<|am.st Z Z Z (ab.assign Z Z)<|am.nil<|bp<|LW.seq<|LW.region<|am.st Z Z Z (ab.makeFunc Z Z Z)<|am.st Z Z Z (ab.assign Z Z)<|am.nil<|bp<|LW.ret ?_;refine ⟨.inr rfl, by simp, ?_⟩
 have h : ∀ n : Nat, n = H.length + 1 → ∀ {e : av} {H2 : List aa}, e.get 4 = some (.fn 145 [] [.ptr H.length 0, .ptr n 0]) → cU Tryz.prog e H2 Tryz.f105.results (.fn 145 [] [.ptr H.length 0, .ptr (H.length + 1) 0]) := by
  rintro n rfl e H2 he;exact .one<|.tmp he
 exact h _ (by simp) Z
open Go.Proofs
noncomputable def ul : Code := IW Tryz.f146.body
noncomputable def uo : Code := IX Tryz.f146.body
noncomputable def um : Code := IW Tryz.f144.body
noncomputable def up : Code := IX Tryz.f144.body
def BL (i : Int) (_ : Cf) (m : List (Int × Bool)) : Option Bool :=
 some ((aj m i).getD false)
theorem Gg {i : Int} {c : Cf} {m : List (Int × Bool)} {r_ : Bool} (hr : BL i c m = some r_) : LC Tryz.prog 147 [(iQ i), .ptr 2 0] [.box (bN c), .map (ah aB (fun v => (bQ v)) m), .box [.map 1]] (Is (bQ r_) [.box (bN c), .map (ah aB (fun v => (bQ v)) m), .box [.map 1]]) := by
 refine dq Tryz.func147 Z Z Z ?_;unfold BL at hr;refine zQ<|zR<|zM Z<|zN<|zT<|zQ<|zR<|yS Z (zD Z Z Z Br Z Z)<|zM Z ?_;refine yS Z (ab.getX (f := aB) (g := (fun v => (bQ v))) i false AJ Z Z Z Z Dt HA Z Z) ?_;refine zM Z<|zN<|zT<|zr ?_;obtain rfl := zJ hr;exact ap (.one (.tmp Z))<|⟨rfl, rfl⟩
theorem Hy {c : Cf} {m : List (Int × Bool)} {n i y : Int} {o : Oper} {env : av} {fo xo : Operand} {ats : Array TypeId} (ho : o.op = .call { callee := .value fo, args := #[xo], argTypes := ats }) (hf : aG env fo = some (.yld 6)) (hx : aG env xo = some (iQ i)) (h : ix c.W i = some y) :
  eP Tryz.prog o env [.box (bN c), .map (ah aB (fun v => (bQ v)) m), .box [.map 1], .box (bN c), .box [(iQ n)], .defd, .loop false 21 [(2, .ptr 3 0), (4, (iQ 0)), (5, .ptr 4 0), (11, .fn 145 [] [.cptr [.slice 1 (c.W.map aB), .int .u64 c.Seed, .int .i64 c.Epoch, .int .i64 c.Num, .int .i64 c.Den], .fptr (.fn 147 [] [.ptr 2 0])])] #[12] ul uo] (Is (bQ true) [.box (bN c), .map (ah aB (fun v => (bQ v)) m), .box [.map 1], .box (bN c), .box [.p (.int .i64 (IntKind.i64.wrap (n + y)))], .defd, .loop false 21 [(2, .ptr 3 0), (4, (iQ 0)), (5, .ptr 4 0), (11, .fn 145 [] [.cptr [.slice 1 (c.W.map aB), .int .u64 c.Seed, .int .i64 c.Epoch, .int .i64 c.Num, .int .i64 c.Den], .fptr (.fn 147 [] [.ptr 2 0])])] #[12] ul uo]) := by
 refine eP.yield (env2 := (6, (iQ i)) :: (12, (iQ i)) :: [(2, .ptr 3 0), (4, (iQ 0)), (5, .ptr 4 0), (11, .fn 145 [] [.cptr [.slice 1 (c.W.map aB), .int .u64 c.Seed, .int .i64 c.Epoch, .int .i64 c.Num, .int .i64 c.Den], .fptr (.fn 147 [] [.ptr 2 0])])]) (H2 := [.box (bN c), .map (ah aB (fun v => (bQ v)) m), .box [.map 1], .box (bN c), .box [.p (.int .i64 (IntKind.i64.wrap (n + y)))], .defd, .loop true 21 [(2, .ptr 3 0), (4, (iQ 0)), (5, .ptr 4 0), (11, .fn 145 [] [.cptr [.slice 1 (c.W.map aB), .int .u64 c.Seed, .int .i64 c.Epoch, .int .i64 c.Num, .int .i64 c.Den], .fptr (.fn 147 [] [.ptr 2 0])])] #[12] ul uo]) ho hf hx Z Z (by kernel_rfl) (by kernel_rfl) Z (qg.plain ?_) ?_ Z Z
 ·refine yS Z (za Z Z) ?_;exact zN ⟨rfl, rfl, rfl⟩
 ·refine qg.drawLast (m := 7) (by kernel_rfl) (by kernel_rfl) (by kernel_rfl) ?_;exact yE Z (zD Z Z Z a7 Z Z)<|yE Z (zA Z Z gm)<|yE Z (zD Z Z Z eR Z Z)<|zH Z<|yE Z (zx Z Z Z fO h Z)<|yE Z (cR Z Z Z a7 Z Z)<|yE Z (ay Z Z Z Z)<|LO.nil<|yS Z (zs Z Z Z Z a7 Z Z Z Z)<|zN<|⟨rfl, rfl⟩
structure fk where
 t8 : Int
 o4_0 : Int
def jD (c : Cf) (m : List (Int × Bool)) (x1 : fk) : Option (fk ⊕ fk) :=
 bif decide (x1.t8 < (c.W.length : Int)) then
  (BL x1.t8 c m).bind fun v2 =>
  bif v2 then
   (ix c.W x1.t8).bind fun y1 =>
   some (.inl (fk.mk (IntKind.i64.wrap (x1.t8 + 1)) (IntKind.i64.wrap (x1.o4_0 + y1))))
  else
   some (.inl (fk.mk (IntKind.i64.wrap (x1.t8 + 1)) x1.o4_0))
 else
  some (.inr (fk.mk x1.t8 x1.o4_0))
def sb (c : Cf) (m : List (Int × Bool)) (n : Int) : Option Int :=
 (iter (jD c m) bE (fk.mk 0 n)).bind fun v1 =>
 some v1.o4_0
theorem Em {c : Cf} {m : List (Int × Bool)} {n : Int} {r_ : Int} (hr : sb c m n = some r_) : LC Tryz.prog 145 [.yld 6, .cptr [.slice 1 (c.W.map aB), .int .u64 c.Seed, .int .i64 c.Epoch, .int .i64 c.Num, .int .i64 c.Den], .fptr (.fn 147 [] [.ptr 2 0])] [.box (bN c), .map (ah aB (fun v => (bQ v)) m), .box [.map 1], .box (bN c), .box [(iQ n)], .defd, .loop false 21 [(2, .ptr 3 0), (4, (iQ 0)), (5, .ptr 4 0), (11, .fn 145 [] [.cptr [.slice 1 (c.W.map aB), .int .u64 c.Seed, .int .i64 c.Epoch, .int .i64 c.Num, .int .i64 c.Den], .fptr (.fn 147 [] [.ptr 2 0])])] #[12] ul uo] (Is (.tup []) [.box (bN c), .map (ah aB (fun v => (bQ v)) m), .box [.map 1], .box (bN c), .box [(iQ r_)], .defd, .loop false 21 [(2, .ptr 3 0), (4, (iQ 0)), (5, .ptr 4 0), (11, .fn 145 [] [.cptr [.slice 1 (c.W.map aB), .int .u64 c.Seed, .int .i64 c.Epoch, .int .i64 c.Num, .int .i64 c.Den], .fptr (.fn 147 [] [.ptr 2 0])])] #[12] ul uo]) := by
 refine dq Tryz.func145 Z Z Z ?_;unfold sb at hr;refine zQ<|zR<|yS Z (ab.fieldAddrC Z Z gm Z)<|yS Z (cR Z Z Z eR Z Z)<|yS Z (cB Z Z (by kernel_rfl))<|zM Z<|zN<|zT ?_;obtain ⟨v1, hb_v1, ho_v1⟩ := zB hr;clear hr;refine LW.tail (E := []) (O := [.box (bN c), .map (ah aB (fun v => (bQ v)) m), .box [.map 1], .box (bN c), .box [(iQ v1.o4_0)], .defd, .loop false 21 [(2, .ptr 3 0), (4, (iQ 0)), (5, .ptr 4 0), (11, .fn 145 [] [.cptr [.slice 1 (c.W.map aB), .int .u64 c.Seed, .int .i64 c.Epoch, .int .i64 c.Num, .int .i64 c.Den], .fptr (.fn 147 [] [.ptr 2 0])])] #[12] ul uo]) ?_<|fun env_v1 H_v1 hw_v1 => ?_
 ·refine LW.block ?_;refine LW.iterB (E := fun x1 : fk => [(0, .yld 6), (2, .fptr (.fn 147 [] [.ptr 2 0])), (7, .p (.int .i64 (c.W.length : Int))), (8, (iQ x1.t8))]) (O := fun x1 => [.box (bN c), .map (ah aB (fun v => (bQ v)) m), .box [.map 1], .box (bN c), .box [(iQ x1.o4_0)], .defd, .loop false 21 [(2, .ptr 3 0), (4, (iQ 0)), (5, .ptr 4 0), (11, .fn 145 [] [.cptr [.slice 1 (c.W.map aB), .int .u64 c.Seed, .int .i64 c.Epoch, .int .i64 c.Num, .int .i64 c.Den], .fptr (.fn 147 [] [.ptr 2 0])])] #[12] ul uo]) hb_v1 (zW 7 ⟨rfl, rfl, rfl, rfl, trivial⟩ Z Z Z (zL Z (zL (ae (fun _ => rfl) _) (zL Z (zL Z (zL Z (zL Z (zL Z Z))))))))<|fun x1 z_x1 hr hb_x1 => ?_;unfold jD at hr;refine zQ<|zR<|yS Z (ay Z Z Z Z)<|zN<|zT<|zQ ?_;refine zX Z (fun g1 => ?_)<|fun g1 => ?_
  ·
   refine zi g1 hr fun hr => zk<|zT<|zQ<|zl<|zQ<|zR<|zM Z<|zM Z<|zN<|zT<|zQ<|LW.regionI<|aW.st Z Z Z (eP.of (ab.loadF Z Z qZ) Z)<|aW.st Z Z Z (eP.of (zm Z Z) Z)<|zb hr fun v2 h_v2 hr => ?_;refine aW.st Z Z Z (eP.of (zC Z Z Z (by kernel_rfl) (LC.pre (Gg h_v2) Z (zL Z (zL (ae (fun _ => rfl) _) (zL Z Z))) Z)) Z) ?_;refine aW.st Z Z Z (eP.of (ab.move Z Z) Z) ?_;refine aW.cases 14 Z (fun (g2 : v2 = true) => ?_) (fun (g2 : v2 = false) => ?_)
   ·
    refine zi g2 hr fun hr => aW.gd Z Z Z (gd g2 Z) Z (eP.of (zm Z Z) Z)<|aW.gd Z Z Z (gd g2 Z) Z (eP.of (zm Z Z) Z)<|zb hr fun y1 h_y1 hr => aW.gd Z Z Z (gd g2 Z) Z (Hy Z Z Z h_y1)<|aW.gd Z Z Z (gd g2 Z) Z (eP.of (ab.not Z Z) Z)<|aW.st Z Z Z (eP.of (cq Z (aS g2 Z) Z) Z)<|aW.nil<|zT<|LW.condF Z<|zk<|ai<|zT<|zR<|yS Z (ay Z Z Z Z)<|zM Z<|zN<|zT ?_;obtain rfl := zJ hr;exact ⟨_, rfl, zW 7 ⟨rfl, rfl, rfl, rfl, trivial⟩ Z Z Z (zL Z (zL (ae (fun _ => rfl) _) (zL Z (zL Z (zL Z (zL Z (zL Z Z)))))))⟩
   ·
    refine zo g2 hr fun hr => aW.sk Z Z Z (gd g2 Z) Z Z<|aW.sk Z Z Z (gd g2 Z) Z Z<|aW.sk Z Z Z (gd g2 Z) Z Z<|aW.sk Z Z Z (gd g2 Z) Z Z<|aW.st Z Z Z (eP.of (bg Z (aS g2 Z) Z) Z)<|aW.nil<|zT<|LW.condF Z<|zk<|ai<|zT<|zR<|yS Z (ay Z Z Z Z)<|zM Z<|zN<|zT ?_;obtain rfl := zJ hr;exact ⟨_, rfl, zW 7 ⟨rfl, rfl, rfl, rfl, trivial⟩ Z Z Z (zL Z (zL (ae (fun _ => rfl) _) (zL Z (zL Z (zL Z (zL Z (zL Z Z)))))))⟩
  ·
   refine zo g1 hr fun hr => zq<|ao<|ao<|zy<|zT ?_;obtain rfl := zJ hr;have hr := congrArg some (hb_x1 _ rfl);obtain rfl := zJ hr;exact zW 7 trivial Z Z Z<|zL Z<|zL (ae (fun _ => rfl) _)<|zL Z<|zL Z<|zL Z<|zL Z<|zL Z Z
 ·have hr := ho_v1;clear hb_v1;obtain rfl := zJ hr;exact fl hw_v1 .none ⟨rfl, rfl⟩
def vG (c : Cf) (m : List (Int × Bool)) : Option Int :=
 (wY c).bind fun v1 =>
 bif !v1 then
  some 0
 else
  (sb c m 0).bind fun v2 =>
  some v2
theorem Ei {c : Cf} {m : List (Int × Bool)} {r_ : Int} (hr : vG c m = some r_) : LC Tryz.prog 146 [.p (kz c), .fn 145 [] [.cptr [.slice 1 (c.W.map aB), .int .u64 c.Seed, .int .i64 c.Epoch, .int .i64 c.Num, .int .i64 c.Den], .fptr (.fn 147 [] [.ptr 2 0])]] [.box (bN c), .map (ah aB (fun v => (bQ v)) m), .box [.map 1]] (Is (iQ r_) [.box (bN c), .map (ah aB (fun v => (bQ v)) m), .box [.map 1]]) := by
 refine LC.ofM Tryz.func146 Z Z Z ?_;unfold vG at hr;refine gC.seqW<|zR<|yS Z (bT Z Z Z Z Z)<|zM Z<|zN<|zT<|gC.seqW<|zR<|yS Z (ze Z IZ Z Z)<|yS Z (zs Z Z Z Z a7 Z Z Z Z)<|zN<|zT<|gC.seqW<|zQ<|zR<|yS Z (zD Z Z Z bY Z Z)<|zb hr fun v1 h_v1 hr => yS Z (zC Z Z Z (by kernel_rfl) (zp (Ef h_v1) (.cons zv .nil)))<|yS Z (ab.not Z Z)<|zN<|zT ?_;refine zX Z (fun g1 => ?_)<|fun g1 => ?_
 ·
  refine zi g1 hr fun hr => zQ<|zR<|yS Z (zD Z Z Z a7 Z Z)<|zM Z<|zN<|zT<|zr<|af ?_;obtain rfl := zJ hr;refine aQ (env' := [(4, (iQ 0))]) (H' := [.box (bN c), .map (ah aB (fun v => (bQ v)) m), .box [.map 1]]) (zW 3 ⟨rfl, trivial⟩ Z Z Z (zL Z (zL (ae (fun _ => rfl) _) (zL Z Z)))) (.one (.tmp Z)) ?_;exact ⟨rfl, rfl⟩
 ·
  refine zo g1 hr fun hr => zk<|zT<|gC.seq<|gC.seqW<|zR<|zM Z<|zN<|zT ?_;refine gC.weak (env' := [(2, .ptr 3 0), (4, (iQ 0)), (5, .ptr 4 0), (11, .fn 145 [] [.cptr [.slice 1 (c.W.map aB), .int .u64 c.Seed, .int .i64 c.Epoch, .int .i64 c.Num, .int .i64 c.Den], .fptr (.fn 147 [] [.ptr 2 0])])]) (H' := [.box (bN c), .map (ah aB (fun v => (bQ v)) m), .box [.map 1], .box (bN c), .box [(iQ 0)]]) (zW 5 ⟨rfl, rfl, rfl, rfl, trivial⟩ Z Z Z (zL Z (zL (ae (fun _ => rfl) _) (zL Z (zL Z (zL Z Z)))))) ?_;refine gC.block<|zb hr fun v2 h_v2 hr => gC.rangeFunc Z (by kernel_rfl) Z (Em h_v2) Z Z Z ?_;refine ⟨rfl, ?_⟩;refine rE<|gC.seq<|gC.region<|jo.st Z Z Z (zD Z Z Z a7 Z Z) Z<|jo.st Z Z Z (za Z Z) Z<|jo.nil<|rE<|gC.ret ?_;obtain rfl := zJ hr;exact ⟨.inr rfl, _, [(4, (iQ v2))], [.box (bN c), .map (ah aB (fun v => (bQ v)) m), .box [.map 1]], _, rfl, zW 3 ⟨rfl, trivial⟩ Z Z Z (zL Z (zL (ae (fun _ => rfl) _) (zL Z Z))), (.one (.tmp Z)), ⟨rfl, rfl⟩⟩
open Go.Proofs
def BK (i : Int) (c : Cf) (slot : Int) (at_ : List Int) : Option Bool :=
 (ix at_ i).bind fun y1 =>
 bif decide (c.Epoch ≠ 0) then
  bif decide (c.Epoch ≠ 0) then
   some ((y1.tmod c.Epoch) == (slot.tmod c.Epoch))
  else none
 else none
theorem Gf {i : Int} {c : Cf} {slot : Int} {at_ : List Int} {r_ : Bool} (hr : BK i c slot at_ = some r_) : LC Tryz.prog 106 [(iQ i), .ptr 2 0, .ptr 0 0, .ptr 1 0] [.box (bN c), .box [(iQ slot)], .box [(kI at_)]] (Is (bQ r_) [.box (bN c), .box [(iQ slot)], .box [(kI at_)]]) := by
 refine dq Tryz.func106 Z Z Z ?_;unfold BK at hr;refine zQ<|zR<|zM Z<|zN<|zT<|zQ<|LW.draw2 (by kernel_rfl) (by kernel_rfl)<|yE Z (zD Z Z Z eR Z Z)<|zH Z<|zb hr fun y1 h_y1 hr => yE Z (zx Z Z Z fO h_y1 Z)<|yE Z (cR Z Z Z a7 Z Z)<|yE Z (zA Z Z oX)<|yE Z (zD Z Z Z a7 Z Z)<|zg hr fun q1 hr => yE Z (ab.rem Z Z Z (of_decide_eq_true q1))<|yE Z (zD Z Z Z a7 Z Z)<|yE Z (zA Z Z oX)<|yE Z (zD Z Z Z a7 Z Z)<|zg hr fun q2 hr => yE Z (ab.rem Z Z Z (of_decide_eq_true q2))<|yE Z (ay Z Z Z Z)<|zH Z<|LO.nil ?_;refine zT<|zr ?_;obtain rfl := zJ hr;exact ap (.one (.tmp Z))<|⟨rfl, rfl⟩
theorem Hz {c : Cf} {slot : Int} {at_ : List Int} {l : List Int} {i : Int} {o : Oper} {env : av} {fo xo : Operand} {ats : Array TypeId} (ho : o.op = .call { callee := .value fo, args := #[xo], argTypes := ats }) (hf : aG env fo = some (.yld 6)) (hx : aG env xo = some (iQ i)) (q : ci l.length [i].length 8 = true) :
  eP Tryz.prog o env [.box (bN c), .box [(iQ slot)], .box [(kI at_)], .box [(jI 4 l)], .vec 1 (l.map aB), .defd, .loop false 13 [(2, .ptr 3 0), (4, .zs), (6, .fn 145 [] [.cptr [.slice 1 (c.W.map aB), .int .u64 c.Seed, .int .i64 c.Epoch, .int .i64 c.Num, .int .i64 c.Den], .fptr (.fn 106 [] [.ptr 2 0, .ptr 0 0, .ptr 1 0])])] #[7] um up] (Is (bQ true) [.box (bN c), .box [(iQ slot)], .box [(kI at_)], .box [.vec 1 4 ((l ++ [i]).map aB).length 0 ((l ++ [i]).map aB).length], .vec 1 ((l ++ [i]).map aB), .defd, .loop false 13 [(2, .ptr 3 0), (4, .zs), (6, .fn 145 [] [.cptr [.slice 1 (c.W.map aB), .int .u64 c.Seed, .int .i64 c.Epoch, .int .i64 c.Num, .int .i64 c.Den], .fptr (.fn 106 [] [.ptr 2 0, .ptr 0 0, .ptr 1 0])])] #[7] um up]) := by
 refine eP.yield (env2 := (5, (iQ i)) :: (7, (iQ i)) :: [(2, .ptr 3 0), (4, .zs), (6, .fn 145 [] [.cptr [.slice 1 (c.W.map aB), .int .u64 c.Seed, .int .i64 c.Epoch, .int .i64 c.Num, .int .i64 c.Den], .fptr (.fn 106 [] [.ptr 2 0, .ptr 0 0, .ptr 1 0])])]) (H2 := [.box (bN c), .box [(iQ slot)], .box [(kI at_)], .box [.vec 1 4 ((l ++ [i]).map aB).length 0 ((l ++ [i]).map aB).length], .vec 1 ((l ++ [i]).map aB), .defd, .loop true 13 [(2, .ptr 3 0), (4, .zs), (6, .fn 145 [] [.cptr [.slice 1 (c.W.map aB), .int .u64 c.Seed, .int .i64 c.Epoch, .int .i64 c.Num, .int .i64 c.Den], .fptr (.fn 106 [] [.ptr 2 0, .ptr 0 0, .ptr 1 0])])] #[7] um up]) ho hf hx Z Z (by kernel_rfl) (by kernel_rfl) Z (qg.plain ?_) (qg.plain ?_) Z Z
 ·refine yS Z (za Z Z) ?_;exact zN ⟨rfl, rfl, rfl⟩
 ·refine yS Z (zD Z Z Z eR Z Z) ?_;exact zM Z<|yS Z (nb Z fO Z Z Z Z Z)<|yS Z (ab.appendX aB l [i] rfl Z Z Z kx.p Z fO q Z)<|yS Z (zs Z Z Z Z eR Z Z Z Z)<|zN<|⟨rfl, rfl⟩
structure cY where
 t8 : Int
 o4 : List Int
def jC (c : Cf) (slot : Int) (at_ : List Int) (x1 : cY) : Option (cY ⊕ cY) :=
 bif decide (x1.t8 < (c.W.length : Int)) then
  (BK x1.t8 c slot at_).bind fun v2 =>
  bif v2 then
   bif ci x1.o4.length [x1.t8].length 8 then
    some (.inl (cY.mk (IntKind.i64.wrap (x1.t8 + 1)) (x1.o4 ++ [x1.t8])))
   else none
  else
   some (.inl (cY.mk (IntKind.i64.wrap (x1.t8 + 1)) x1.o4))
 else
  some (.inr (cY.mk x1.t8 x1.o4))
def vM (c : Cf) (slot : Int) (at_ : List Int) (l : List Int) : Option (List Int) :=
 (iter (jC c slot at_) bE (cY.mk 0 l)).bind fun v1 =>
 some v1.o4
theorem El {c : Cf} {slot : Int} {at_ : List Int} {l : List Int} {r_ : List Int} (hr : vM c slot at_ l = some r_) : LC Tryz.prog 145 [.yld 6, .cptr [.slice 1 (c.W.map aB), .int .u64 c.Seed, .int .i64 c.Epoch, .int .i64 c.Num, .int .i64 c.Den], .fptr (.fn 106 [] [.ptr 2 0, .ptr 0 0, .ptr 1 0])] [.box (bN c), .box [(iQ slot)], .box [(kI at_)], .box [(jI 4 l)], .vec 1 (l.map aB), .defd, .loop false 13 [(2, .ptr 3 0), (4, .zs), (6, .fn 145 [] [.cptr [.slice 1 (c.W.map aB), .int .u64 c.Seed, .int .i64 c.Epoch, .int .i64 c.Num, .int .i64 c.Den], .fptr (.fn 106 [] [.ptr 2 0, .ptr 0 0, .ptr 1 0])])] #[7] um up] (Is (.tup []) [.box (bN c), .box [(iQ slot)], .box [(kI at_)], .box [(jI 4 r_)], .vec 1 (r_.map aB), .defd, .loop false 13 [(2, .ptr 3 0), (4, .zs), (6, .fn 145 [] [.cptr [.slice 1 (c.W.map aB), .int .u64 c.Seed, .int .i64 c.Epoch, .int .i64 c.Num, .int .i64 c.Den], .fptr (.fn 106 [] [.ptr 2 0, .ptr 0 0, .ptr 1 0])])] #[7] um up]) := by
 refine dq Tryz.func145 Z Z Z ?_;unfold vM at hr;refine zQ<|zR<|yS Z (ab.fieldAddrC Z Z gm Z)<|yS Z (cR Z Z Z eR Z Z)<|yS Z (cB Z Z (by kernel_rfl))<|zM Z<|zN<|zT ?_;obtain ⟨v1, hb_v1, ho_v1⟩ := zB hr;clear hr;refine LW.tail (E := []) (O := [.box (bN c), .box [(iQ slot)], .box [(kI at_)], .box [(jI 4 v1.o4)], .vec 1 (v1.o4.map aB), .defd, .loop false 13 [(2, .ptr 3 0), (4, .zs), (6, .fn 145 [] [.cptr [.slice 1 (c.W.map aB), .int .u64 c.Seed, .int .i64 c.Epoch, .int .i64 c.Num, .int .i64 c.Den], .fptr (.fn 106 [] [.ptr 2 0, .ptr 0 0, .ptr 1 0])])] #[7] um up]) ?_<|fun env_v1 H_v1 hw_v1 => ?_
 ·refine LW.block ?_;refine LW.iterB (E := fun x1 : cY => [(0, .yld 6), (2, .fptr (.fn 106 [] [.ptr 2 0, .ptr 0 0, .ptr 1 0])), (7, .p (.int .i64 (c.W.length : Int))), (8, (iQ x1.t8))]) (O := fun x1 => [.box (bN c), .box [(iQ slot)], .box [(kI at_)], .box [(jI 4 x1.o4)], .vec 1 (x1.o4.map aB), .defd, .loop false 13 [(2, .ptr 3 0), (4, .zs), (6, .fn 145 [] [.cptr [.slice 1 (c.W.map aB), .int .u64 c.Seed, .int .i64 c.Epoch, .int .i64 c.Num, .int .i64 c.Den], .fptr (.fn 106 [] [.ptr 2 0, .ptr 0 0, .ptr 1 0])])] #[7] um up]) hb_v1 (zW 7 ⟨rfl, rfl, rfl, rfl, trivial⟩ Z Z Z Z)<|fun x1 z_x1 hr hb_x1 => ?_;unfold jC at hr;refine zQ<|zR<|yS Z (ay Z Z Z Z)<|zN<|zT<|zQ ?_;refine zX Z (fun g1 => ?_)<|fun g1 => ?_
  ·
   refine zi g1 hr fun hr => zk<|zT<|zQ<|zl<|zQ<|zR<|zM Z<|zM Z<|zN<|zT<|zQ<|LW.regionI<|aW.st Z Z Z (eP.of (ab.loadF Z Z qZ) Z)<|aW.st Z Z Z (eP.of (zm Z Z) Z)<|zb hr fun v2 h_v2 hr => aW.st Z Z Z (eP.of (zC Z Z Z (by kernel_rfl) (LC.pre (Gf h_v2) Z Z Z)) Z)<|aW.st Z Z Z (eP.of (zm Z Z) Z) ?_;refine aW.cases 14 Z (fun (g2 : v2 = true) => ?_) (fun (g2 : v2 = false) => ?_)
   ·
    refine zi g2 hr fun hr => aW.gd Z Z Z (gd g2 Z) Z (eP.of (zm Z Z) Z)<|aW.gd Z Z Z (gd g2 Z) Z (eP.of (zm Z Z) Z)<|zg hr fun q1 hr => aW.gd Z Z Z (gd g2 Z) Z (Hz Z Z Z q1)<|aW.gd Z Z Z (gd g2 Z) Z (eP.of (ab.not Z Z) Z)<|aW.st Z Z Z (eP.of (cq Z (aS g2 Z) Z) Z)<|aW.nil<|zT<|LW.condF Z<|zk<|ai<|zT<|zR<|yS Z (ay Z Z Z Z)<|zM Z<|zN<|zT ?_;obtain rfl := zJ hr;exact ⟨_, rfl, zW 7 ⟨rfl, rfl, rfl, rfl, trivial⟩ Z Z Z rfl⟩
   ·
    refine zo g2 hr fun hr => aW.sk Z Z Z (gd g2 Z) Z Z<|aW.sk Z Z Z (gd g2 Z) Z Z<|aW.sk Z Z Z (gd g2 Z) Z Z<|aW.sk Z Z Z (gd g2 Z) Z Z<|aW.st Z Z Z (eP.of (bg Z (aS g2 Z) Z) Z)<|aW.nil<|zT<|LW.condF Z<|zk<|ai<|zT<|zR<|yS Z (ay Z Z Z Z)<|zM Z<|zN<|zT ?_;obtain rfl := zJ hr;exact ⟨_, rfl, zW 7 ⟨rfl, rfl, rfl, rfl, trivial⟩ Z Z Z rfl⟩
  ·
   refine zo g1 hr fun hr => zq<|ao<|ao<|zy<|zT ?_;obtain rfl := zJ hr;have hr := congrArg some (hb_x1 _ rfl);obtain rfl := zJ hr;exact zW 7 trivial Z Z Z Z
 ·have hr := ho_v1;clear hb_v1;obtain rfl := zJ hr;exact fl hw_v1 .none ⟨rfl, rfl⟩
def vL (c : Cf) (slot : Int) (at_ : List Int) : Option (List Int) :=
 (vM c slot at_ []).bind fun v1 =>
 some v1
theorem Ek {c : Cf} {slot : Int} {at_ : List Int} {r_ : List Int} (hr : vL c slot at_ = some r_) : LC Tryz.prog 144 [.zs, .fn 145 [] [.cptr [.slice 1 (c.W.map aB), .int .u64 c.Seed, .int .i64 c.Epoch, .int .i64 c.Num, .int .i64 c.Den], .fptr (.fn 106 [] [.ptr 2 0, .ptr 0 0, .ptr 1 0])]] [.box (bN c), .box [(iQ slot)], .box [(kI at_)]] (Is (jI 4 r_) [.box (bN c), .box [(iQ slot)], .box [(kI at_)], .box [(jI 4 r_)], .vec 1 (r_.map aB), .dead, .dead]) := by
 refine LC.ofM Tryz.func144 Z Z Z ?_;unfold vL at hr;refine gC.seqW<|zR<|yS Z (bT Z Z Z Z Z)<|zM Z<|zN<|zT<|gC.seq<|gC.seqW<|zR<|zM Z<|zN<|zT<|gC.ent (bK.lazyCell (i := 3) (j := 0) (m := 1) Z Z Z Z Z Z)<|gC.weak (env' := [(2, .ptr 3 0), (4, .zs), (6, .fn 145 [] [.cptr [.slice 1 (c.W.map aB), .int .u64 c.Seed, .int .i64 c.Epoch, .int .i64 c.Num, .int .i64 c.Den], .fptr (.fn 106 [] [.ptr 2 0, .ptr 0 0, .ptr 1 0])])]) (H' := [.box (bN c), .box [(iQ slot)], .box [(kI at_)], .box [(jI 4 ([] : List Int))], .vec 1 (([] : List Int).map aB)]) (zW 5 ⟨rfl, rfl, rfl, trivial⟩ Z Z Z Z)<|gC.block<|zb hr fun v1 h_v1 hr => gC.rangeFunc Z (by kernel_rfl) Z (El h_v1) Z Z Z ?_;refine ⟨rfl, ?_⟩;refine rE<|gC.seq<|gC.region<|jo.st Z Z Z (zD Z Z Z eR Z Z) Z<|jo.st Z Z Z (za Z Z) Z<|jo.nil<|rE<|gC.ret ?_;obtain rfl := zJ hr;exact ⟨.inr rfl, _, [(4, (jI 4 v1))], [.box (bN c), .box [(iQ slot)], .box [(kI at_)], .box [(jI 4 v1)], .vec 1 (v1.map aB), .dead, .dead], _, rfl, zW 7 ⟨rfl, trivial⟩ Z Z Z rfl, (.one (.tmp Z)), ⟨rfl, rfl⟩⟩
def rY (c : Cf) (slot : Int) (at_ : List Int) : Option (List Int) :=
 (vL c slot at_).bind fun v1 =>
 some v1
theorem Eh {c : Cf} {slot : Int} {at_ : List Int} {r_ : List Int} (hr : rY c slot at_ = some r_) : LC Tryz.prog 104 [.fn 145 [] [.cptr [.slice 1 (c.W.map aB), .int .u64 c.Seed, .int .i64 c.Epoch, .int .i64 c.Num, .int .i64 c.Den], .fptr (.fn 106 [] [.ptr 2 0, .ptr 0 0, .ptr 1 0])]] [.box (bN c), .box [(iQ slot)], .box [(kI at_)]] (Is (jI 4 r_) [.box (bN c), .box [(iQ slot)], .box [(kI at_)], .box [(jI 4 r_)], .vec 1 (r_.map aB), .dead, .dead]) := by
 refine dq Tryz.func104 Z Z Z ?_;unfold rY at hr;refine zQ<|zR<|zM Z<|zN<|zT<|zQ<|zR<|zM Z<|zb hr fun v1 h_v1 hr => yS Z (zC Z Z Z (by kernel_rfl) (Ek h_v1))<|zM Z<|zN<|zT<|zr ?_;obtain rfl := zJ hr;exact ap (.one (.tmp Z))<|⟨rfl, rfl⟩
open Go.Proofs
open Go.Proofs
open Go.Proofs
structure eT where
 t11 : Int
 o1 : List (Int × Bool)
def mt (l : List Int) (x1 : eT) : Option (eT ⊕ eT) :=
 bif decide (x1.t11 < (l.length : Int)) then
  (ix l x1.t11).bind fun y1 =>
  some (.inl (eT.mk (IntKind.i64.wrap (x1.t11 + 1)) (aV x1.o1 y1 true)))
 else
  some (.inr (eT.mk x1.t11 x1.o1))
def E0 (c : Cf) (l : List Int) : Option Int :=
 (iter (mt l) bE (eT.mk 0 ([] : List (Int × Bool)))).bind fun v1 =>
 (vG c v1.o1).bind fun v2 =>
 some v2
theorem IS {c : Cf} {l : List Int} {r_ : Int} (hr : E0 c l = some r_) : aw Tryz.prog 109 [kz c, .slice 1 (l.map aB)] [.int .i64 r_] := by
 refine zh Tryz.func109 Z Z Z Z ?_;unfold E0 at hr;refine zQ<|zR<|yS Z (bT Z Z Z Z Z)<|zM Z<|zN<|zT<|zQ<|zR<|yS Z (ab.makeMap Z Z Z)<|yS Z (ze Z HC Z Z)<|yS Z (zs Z Z Z Z Br Z Z Z Z)<|zN<|zT<|zQ<|zQ<|zR<|zM Z<|yS Z (cB Z Z (by kernel_rfl))<|zM Z<|zN<|zT ?_;obtain ⟨v1, hb_v1, ho_v1⟩ := zB hr;clear hr;refine LW.tail (E := [(2, .ptr 0 0), (4, (iQ 0)), (5, .ptr 2 0)]) (O := [.box (bN c), .map (ah aB (fun v => (bQ v)) v1.o1), .box [.map 1]]) ?_<|fun env_v1 H_v1 hw_v1 => ?_
 ·refine LW.block ?_;refine LW.iterB (E := fun x1 : eT => [(2, .ptr 0 0), (4, (iQ 0)), (5, .ptr 2 0), (9, (kI l)), (10, .p (.int .i64 (l.length : Int))), (11, (iQ x1.t11))]) (O := fun x1 => [.box (bN c), .map (ah aB (fun v => (bQ v)) x1.o1), .box [.map 1]]) hb_v1 (zW 3 ⟨rfl, rfl, rfl, rfl, rfl, rfl, trivial⟩ Z Z Z (zL Z (zL (ae (fun _ => rfl) _) (zL Z Z))))<|fun x1 z_x1 hr hb_x1 => ?_;unfold mt at hr;refine zQ<|zR<|yS Z (ay Z Z Z Z)<|zN<|zT<|zQ ?_;refine zX Z (fun g1 => ?_)<|fun g1 => ?_
  ·
   refine zi g1 hr fun hr => zk<|zT<|zQ<|zl<|zQ<|zR<|zb hr fun y1 h_y1 hr => yS Z (zx Z Z Z fO h_y1 Z)<|yS Z (cR Z Z Z a7 Z Z)<|zM Z<|zN<|zT<|zR<|yS Z (zD Z Z Z Br Z Z)<|zM Z ?_;refine yS Z (ab.setX (f := aB) (g := (fun v => (bQ v))) y1 true AJ (.inl Z) Z Z Z Z Z Dt Z) ?_;refine zN<|ai<|zT<|zR<|yS Z (ay Z Z Z Z)<|zM Z<|zN<|zT ?_;obtain rfl := zJ hr;exact ⟨_, rfl, zW 3 ⟨rfl, rfl, rfl, rfl, rfl, rfl, trivial⟩ Z Z Z (zL Z (zL (ae (fun _ => rfl) _) (zL Z Z)))⟩
  ·
   refine zo g1 hr fun hr => zq<|ao<|ao<|zy<|zT ?_;obtain rfl := zJ hr;have hr := congrArg some (hb_x1 _ rfl);obtain rfl := zJ hr;exact zW 3 ⟨Z, Z, Z, trivial⟩ Z Z Z<|zL Z<|zL (ae (fun _ => rfl) _)<|zL Z Z
 ·have hr := ho_v1;clear hb_v1;refine zT<|LW.weak hw_v1<|zQ<|LW.draw2 (by kernel_rfl) (by kernel_rfl)<|yE Z (zD Z Z Z bY Z Z)<|yE Z (zD Z Z Z bY Z Z)<|yE Z (ab.makeFunc Z Z Z)<|yE Z (zC Z Z Z (by kernel_rfl) (FG (c := c)))<|zb hr fun v2 h_v2 hr => yE Z (zC Z Z Z (by kernel_rfl) (Ei h_v2))<|zH Z<|LO.nil<|zT<|zr ?_;obtain rfl := zJ hr;exact zf (.one (.tmp Z)) zv
def DR (c : Cf) (slot : Int) : Option (List Int) :=
 (wM c slot).bind fun v1 =>
 bif !v1 then
  some []
 else
  bif decide (c.Epoch ≠ 0) then
   (Fe (step c.Seed (IntKind.u64.wrap (IntKind.i64.wrap (slot.tdiv c.Epoch)))) (c.W.length : Int)).bind fun v2 =>
   (rY c slot v2).bind fun v3 =>
   some v3
  else none
theorem Iy {c : Cf} {slot : Int} {r_ : (List Int)} (hr : DR c slot = some r_) : aw Tryz.prog 57 [kz c, .int .i64 slot] [.slice 1 (r_.map aB)] := by
 refine zh Tryz.func57 Z Z Z Z ?_;unfold DR at hr;refine zQ<|zR<|yS Z (bT Z Z Z Z Z)<|yS Z (bT Z Z Z Z Z)<|zM Z<|zN<|zT<|zQ<|zQ<|zR<|yS Z (zD Z Z Z bY Z Z)<|yS Z (zD Z Z Z a7 Z Z)<|zb hr fun v1 h_v1 hr => yS Z (zC Z Z Z (by kernel_rfl) (zp (FD h_v1) (.cons zv (.cons zv .nil))))<|yS Z (ab.not Z Z)<|zN<|zT ?_;refine zX Z (fun g1 => ?_)<|fun g1 => ?_
 ·
  refine zi g1 hr fun hr => zQ<|zR<|zM Z<|zN<|zT<|zr<|af ?_;obtain rfl := zJ hr;exact zf (.one (.tmp Z)) Conv.zs
 ·
  refine zo g1 hr fun hr => zk<|zT<|zQ<|LW.ent (bK.slot Z)<|LW.drawW (by kernel_rfl) (by kernel_rfl) ?_;refine yF (F := []) (s := none) Z (fun H _ => zA Z Z AF) Z ?_;refine yF Z (zd Z Z Z mm Z Z) Z<|yF Z (zd Z Z Z a7 Z Z) Z ?_;refine yF (F := []) (s := none) Z (fun H _ => zA Z Z oX) Z ?_;refine yF Z (zd Z Z Z a7 Z Z) Z<|zg hr fun q1 hr => ?_;refine yF (F := []) (s := none) Z (fun H _ => ab.quo Z Z Z (of_decide_eq_true q1)) Z ?_;refine yF (F := []) (s := none) Z (fun H _ => ab.convert (k' := .u64) Z Z (by kernel_rfl)) Z ?_;refine yF (F := []) (s := none) Z (fun H _ => zC Z Z Z (by kernel_rfl) (zp (sN (h := c.Seed) (x := (IntKind.u64.wrap (IntKind.i64.wrap (slot.tdiv c.Epoch))))) (.cons zv (.cons zv .nil)))) Z ?_;refine yF (F := []) (s := none) Z (fun H _ => zA Z Z gm) Z ?_;refine yF Z (zd Z Z Z eR Z Z) Z ?_;refine yF (F := []) (s := none) Z (fun H _ => cB Z Z (by kernel_rfl)) Z ?_;obtain ⟨v2, h_v2, hr⟩ := zB hr;refine yF (F := []) (s := none) Z (fun H _ => zC Z Z Z (by kernel_rfl) (zp (I6 h_v2) (.cons zv (.cons zv .nil)))) Z ?_;refine yF Z (bF.alloc Z Zz (id := 2) Z) Z<|yF Z (zt Z Z Z Z eR Z Z Z) Z ?_;refine LF.nil ⟨by kernel_rfl, ?_⟩;refine zT<|zQ<|zR<|yS Z (zD Z Z Z bY Z Z)<|yS Z (ab.makeFunc Z Z Z)<|yS Z (zC Z Z Z (by kernel_rfl) (FG (c := c)))<|zb hr fun v3 h_v3 hr => yS Z (zC Z Z Z (by kernel_rfl) (Eh h_v3))<|zM Z<|zN<|zT<|zr ?_;obtain rfl := zJ hr;exact zf (.one (.tmp Z))<|(Conv.vecAll Z Z Z)
def B9 (c : Cf) (slot : Int) : Option Int :=
 (wM c slot).bind fun v1 =>
 bif !v1 then
  some (-1)
 else
  bif decide ((IntKind.u64.wrap ((c.W.length : Int))) ≠ 0) then
   some (IntKind.i64.wrap ((step (step c.Seed 4294967296) (IntKind.u64.wrap (slot))).tmod (IntKind.u64.wrap ((c.W.length : Int)))))
  else none
theorem HM {c : Cf} {slot : Int} {r_ : Int} (hr : B9 c slot = some r_) : aw Tryz.prog 34 [kz c, .int .i64 slot] [.int .i64 r_] := by
 refine zh Tryz.func34 Z Z Z Z ?_;unfold B9 at hr;refine zQ<|zR<|yS Z (bT Z Z Z Z Z)<|zM Z<|zN<|zT<|zQ<|zQ<|zR<|yS Z (zD Z Z Z bY Z Z)<|zM Z<|zb hr fun v1 h_v1 hr => yS Z (zC Z Z Z (by kernel_rfl) (zp (FD h_v1) (.cons zv (.cons zv .nil))))<|yS Z (ab.not Z Z)<|zN<|zT ?_;refine zX Z (fun g1 => ?_)<|fun g1 => ?_
 ·
  refine zi g1 hr fun hr => zQ<|zR<|zM Z<|zN<|zT<|zr<|af ?_;obtain rfl := zJ hr;exact zf (.one (.tmp Z)) zv
 ·
  refine zo g1 hr fun hr => zk<|zT<|zQ<|LW.draw2 (by kernel_rfl) (by kernel_rfl)<|yE Z (zA Z Z AF)<|yE Z (zD Z Z Z mm Z Z)<|yE Z (zC Z Z Z (by kernel_rfl) (zp (sN (h := c.Seed) (x := 4294967296)) (.cons zv (.cons zv .nil))))<|zH Z<|yE Z (ab.convert (k' := .u64) Z Z (by kernel_rfl))<|yE Z (zC Z Z Z (by kernel_rfl) (zp (sN (h := (step c.Seed 4294967296)) (x := (IntKind.u64.wrap (slot)))) (.cons zv (.cons zv .nil))))<|yE Z (zA Z Z gm)<|yE Z (zD Z Z Z eR Z Z)<|yE Z (cB Z Z (by kernel_rfl))<|yE Z (ab.convert (k' := .u64) Z Z (by kernel_rfl))<|zg hr fun q1 hr => yE Z (ab.rem Z Z Z (of_decide_eq_true q1))<|yE Z (ab.convert (k' := .i64) Z Z (by kernel_rfl))<|zH Z<|LO.nil<|zT<|zr ?_;obtain rfl := zJ hr;exact zf (.one (.tmp Z)) zv
def E1 (c : Cf) (slot : Int) (who : Int) : Option Bool :=
 (DR c slot).bind fun v1 =>
 (rZ v1 who).bind fun v2 =>
 some v2
theorem IT {c : Cf} {slot : Int} {who : Int} {r_ : Bool} (hr : E1 c slot who = some r_) : aw Tryz.prog 22 [kz c, .int .i64 slot, .int .i64 who] [.bool r_] := by
 refine zh Tryz.func22 Z Z Z Z ?_;unfold E1 at hr;refine zQ<|zR<|yS Z (bT Z Z Z Z Z)<|zM Z<|zN<|zT<|zQ<|zR<|yS Z (zD Z Z Z bY Z Z)<|zM Z<|zb hr fun v1 h_v1 hr => yS Z (zC Z Z Z (by kernel_rfl) (zp (Iy h_v1) (.cons zv (.cons zv .nil))))<|zM Z<|zb hr fun v2 h_v2 hr => yS Z (zC Z Z Z (by kernel_rfl) (zp (Co h_v2) (.cons zv (.cons zv .nil))))<|zM Z<|zN<|zT<|zr ?_;obtain rfl := zJ hr;exact zf (.one (.tmp Z)) zv
open Go.Proofs
def wW (x : Int) : Option Bool :=
 some (x != x)
theorem FS {x : Int} {r_ : Bool} (hr : wW x = some r_) : aw Tryz.prog 174 [.int .u64 x] [.bool r_] := by
 refine zh Tryz.func174 Z Z Z Z ?_;unfold wW at hr;refine zQ<|zR<|zM Z<|zN<|zT<|zQ<|zR<|zM Z<|zM Z<|yS Z (ay Z Z Z Z)<|zM Z<|zN<|zT<|zr ?_;obtain rfl := zJ hr;exact zf (.one (.tmp Z)) zv
def yB (x : Int) (y : Int) : Option Int :=
 (wW x).bind fun v1 =>
 (wW y).bind fun v2 =>
 bif v1 then
  bif v2 then
   some 0
  else
   some (-1)
 else
  bif v2 then
   some 1
  else
   bif decide (x < y) then
    some (-1)
   else
    bif decide (x > y) then
     some 1
    else
     some 0
theorem Il {x : Int} {y : Int} {r_ : Int} (hr : yB x y = some r_) : aw Tryz.prog 159 [.int .u64 x, .int .u64 y] [.int .i64 r_] := by
 refine zh Tryz.func159 Z Z Z Z ?_;unfold yB at hr;refine zQ<|zR<|zM Z<|zN<|zT<|zQ<|zR<|zM Z<|zb hr fun v1 h_v1 hr => yS Z (zC Z Z Z (by kernel_rfl) (zp (FS h_v1) (.cons zv .nil)))<|zM Z<|zN<|zT<|zQ<|zR<|zM Z<|zb hr fun v2 h_v2 hr => yS Z (zC Z Z Z (by kernel_rfl) (zp (FS h_v2) (.cons zv .nil)))<|zM Z<|zN<|zT<|zQ<|zQ<|zR ?_;refine zM Z<|zN<|zT ?_;refine zX Z (fun g1 => ?_)<|fun g1 => ?_
 ·
  refine zi g1 hr fun hr => zQ<|zQ<|zR<|zM Z<|zN<|zT ?_;refine zX Z (fun g2 => ?_)<|fun g2 => ?_
  ·
   refine zi g2 hr fun hr => zQ<|zR<|zM Z<|zN<|zT<|zr<|af<|af ?_;obtain rfl := zJ hr;exact zf (.one (.tmp Z)) zv
  ·
   refine zo g2 hr fun hr => zk<|zT<|zQ<|zR<|zM Z<|zN<|zT<|zr<|af ?_;obtain rfl := zJ hr;exact zf (.one (.tmp Z)) zv
 ·
  refine zo g1 hr fun hr => zk<|zT<|zQ<|zQ<|zR<|zM Z<|zN<|zT ?_;refine zX Z (fun g3 => ?_)<|fun g3 => ?_
  ·
   refine zi g3 hr fun hr => zQ<|zR<|zM Z<|zN<|zT<|zr<|af ?_;obtain rfl := zJ hr;exact zf (.one (.tmp Z)) zv
  ·
   refine zo g3 hr fun hr => zk<|zT<|zQ<|zQ<|zR<|zM Z<|zM Z<|yS Z (ay Z Z Z Z)<|zN<|zT ?_;refine zX Z (fun g4 => ?_)<|fun g4 => ?_
   ·
    refine zi g4 hr fun hr => zQ<|zR<|zM Z<|zN<|zT<|zr<|af ?_;obtain rfl := zJ hr;exact zf (.one (.tmp Z)) zv
   ·
    refine zo g4 hr fun hr => zk<|zT<|zQ<|zQ<|zR<|zM Z<|zM Z<|yS Z (ay Z Z Z Z)<|zN<|zT ?_;refine zX Z (fun g5 => ?_)<|fun g5 => ?_
    ·
     refine zi g5 hr fun hr => zQ<|zR<|zM Z<|zN<|zT<|zr<|af ?_;obtain rfl := zJ hr;exact zf (.one (.tmp Z)) zv
    ·
     refine zo g5 hr fun hr => zk<|zT<|zQ<|zR<|zM Z<|zN<|zT<|zr ?_;obtain rfl := zJ hr;exact zf (.one (.tmp Z)) zv
structure dB where
 t11 : Int
def gJ (s1 : List Int) (s2 : List Int) (x1 : dB) : Option (dB ⊕ (dB ⊕ Int)) :=
 bif decide (x1.t11 < (s1.length : Int)) then
  (ix s1 x1.t11).bind fun y1 =>
  bif decide (x1.t11 ≥ (s2.length : Int)) then
   some (.inr (.inr 1))
  else
   (ix s2 x1.t11).bind fun y2 =>
   (yB y1 y2).bind fun v2 =>
   bif v2 != 0 then
    some (.inr (.inr v2))
   else
    some (.inl (dB.mk (IntKind.i64.wrap (x1.t11 + 1))))
 else
  some (.inr (.inl (dB.mk x1.t11)))
def wR (s1 : List Int) (s2 : List Int) : Option Int :=
 (iter (gJ s1 s2) bE (dB.mk 0)).bind fun b_v1 => Sum.elim (fun _ =>
  bif decide ((s1.length : Int) < (s2.length : Int)) then
   some (-1)
  else
   some 0) some b_v1
theorem FL {s1 : List Int} {s2 : List Int} {r_ : Int} (hr : wR s1 s2 = some r_) : aw Tryz.prog 117 [.slice 1 (s1.map j5), .slice 1 (s2.map j5)] [.int .i64 r_] := by
 refine zh Tryz.func117 Z Z Z Z ?_;unfold wR at hr;refine zQ<|zR<|zM Z<|zN<|zT<|zQ<|zQ<|zR<|zM Z<|yS Z (cB Z Z (by kernel_rfl))<|zM Z<|zN<|zT ?_;obtain ⟨b_v1, hb_v1, ho_v1⟩ := zB hr;clear hr;refine LW.tailB (b := b_v1) (E := fun v1 => [(0, .p (.slice 1 (s1.map j5))), (1, .p (.slice 1 (s2.map j5))), (4, (iQ 0))]) (O := fun v1 => []) ?_<|fun v1 e_v1 env_v1 H_v1 hw_v1 => ?_
 ·refine LW.block ?_;refine LW.iterB (E := fun x1 : dB => [(0, .p (.slice 1 (s1.map j5))), (1, .p (.slice 1 (s2.map j5))), (4, (iQ 0)), (9, .p (.slice 1 (s1.map j5))), (10, .p (.int .i64 (s1.length : Int))), (11, (iQ x1.t11))]) (O := fun x1 => []) hb_v1 (zW 0 ⟨rfl, rfl, rfl, rfl, rfl, rfl, trivial⟩ Z Z Z Z)<|fun x1 z_x1 hr hb_x1 => ?_;unfold gJ at hr;refine zQ<|zR<|yS Z (ay Z Z Z Z)<|zN<|zT<|zQ ?_;refine zX Z (fun g1 => ?_)<|fun g1 => ?_
  ·
   refine zi g1 hr fun hr => zk<|zT<|zQ<|zl<|zQ<|zR<|zM Z<|zb hr fun y1 h_y1 hr => yS Z (zx Z Z Z CS h_y1 Z)<|yS Z (cR Z Z Z mm Z Z)<|zM Z<|zM Z<|zN<|zT<|zQ<|zQ<|zR<|zM Z<|zM Z<|yS Z (cB Z Z (by kernel_rfl))<|yS Z (ay Z Z Z Z)<|zN<|zT ?_;refine zX Z (fun g2 => ?_)<|fun g2 => ?_
   ·
    refine zi g2 hr fun hr => zQ<|zR<|zM Z<|zN<|zT<|zr<|af<|aq<|af<|af<|aq<|af<|af ?_;obtain rfl := zJ hr;have hr := congrArg some (hb_x1 _ rfl);obtain rfl := zJ hr;have hr := cS ho_v1;obtain rfl := zJ hr;exact zf (.one (.tmp Z)) zv
   ·
    refine zo g2 hr fun hr => zk<|zT<|zQ<|zR<|zM Z<|zM Z<|zb hr fun y2 h_y2 hr => yS Z (zx Z Z Z CS h_y2 Z)<|yS Z (cR Z Z Z mm Z Z)<|zM Z<|zN<|zT<|zQ<|zR<|zM Z<|zM Z<|zb hr fun v2 h_v2 hr => yS Z (zC Z Z Z (by kernel_rfl) (zp (Il h_v2) (.cons zv (.cons zv .nil))))<|zM Z<|zN<|zT<|zQ<|zR ?_;refine zM Z<|yS Z (ay Z Z Z Z)<|zN<|zT ?_;refine zX Z (fun g3 => ?_)<|fun g3 => ?_
    ·
     refine zi g3 hr fun hr => zQ<|zR<|zM Z<|zM Z<|zN<|zT<|zr<|aq<|af<|af<|aq<|af<|af ?_;obtain rfl := zJ hr;have hr := congrArg some (hb_x1 _ rfl);obtain rfl := zJ hr;have hr := cS ho_v1;obtain rfl := zJ hr;exact zf (.one (.tmp Z)) zv
    ·
     refine zo g3 hr fun hr => zk<|ai<|zT<|zR<|yS Z (ay Z Z Z Z)<|zM Z<|zN<|zT ?_;obtain rfl := zJ hr;exact ⟨_, rfl, zW 0 ⟨rfl, rfl, rfl, rfl, rfl, rfl, trivial⟩ Z Z Z rfl⟩
  ·
   refine zo g1 hr fun hr => zq<|ao<|ao<|zy<|zT ?_;obtain rfl := zJ hr;have hr := congrArg some (hb_x1 _ rfl);obtain rfl := zJ hr;exact ⟨_, rfl, zW 0 ⟨rfl, rfl, rfl, trivial⟩ Z Z Z rfl⟩
 ·obtain rfl := e_v1;have hr := d4 ho_v1;clear hb_v1;refine zT<|LW.weak hw_v1<|zQ<|zQ<|zR<|zM Z<|yS Z (cB Z Z (by kernel_rfl))<|zM Z<|yS Z (cB Z Z (by kernel_rfl))<|yS Z (ay Z Z Z Z)<|zN<|zT ?_;refine zX Z (fun g4 => ?_)<|fun g4 => ?_
  ·
   refine zi g4 hr fun hr => zQ<|zR<|zM Z<|zN<|zT<|zr<|af ?_;obtain rfl := zJ hr;exact zf (.one (.tmp Z)) zv
  ·
   refine zo g4 hr fun hr => zk<|zT<|zQ<|zR<|zM Z<|zN<|zT<|zr ?_;obtain rfl := zJ hr;exact zf (.one (.tmp Z)) zv
def yg (a : ID) (b : ID) : Option Bool :=
 (wR [a.1, a.2] [b.1, b.2]).bind fun v1 =>
 some (decide (v1 < 0))
theorem H7 {a : ID} {b : ID} {r_ : Bool} (hr : yg a b = some r_) : aw Tryz.prog 188 [cr a, cr b] [.bool r_] := by
 refine zh Tryz.func188 Z Z Z Z ?_;unfold yg at hr;refine zQ<|zR<|yS Z (bT Z Z Z Z Z)<|yS Z (bT Z Z Z Z Z)<|zM Z<|zN<|zT<|zQ<|LW.draw2 (by kernel_rfl) (by kernel_rfl)<|yE Z (ab.sliceBox Z Z xe Z Z Z)<|yE Z (ab.sliceBox Z Z xe Z Z Z)<|zb hr fun v1 h_v1 hr => yE Z (zC Z Z Z (by kernel_rfl) (LC.lend (FL h_v1) (.cons (Conv.boxSlice Z Z Z Z) (.cons (Conv.boxSlice Z Z Z Z) .nil)) Z))<|yE Z (ay Z Z Z Z)<|zH Z<|LO.nil<|zT<|zr ?_;obtain rfl := zJ hr;exact zf (.one (.tmp Z)) zv
def yh (a : Rk) (b : Rk) : Option Bool :=
 bif a.n != b.n then
  some (decide (a.n > b.n))
 else
  bif !((a.n == b.n) && ((a.id.1 == b.id.1) && ((a.id.2 == b.id.2) && true))) then
   (yg b.id a.id).bind fun v1 =>
   some v1
  else
   some false
theorem H8 {a : Rk} {b : Rk} {r_ : Bool} (hr : yh a b = some r_) : aw Tryz.prog 172 [IY a, IY b] [.bool r_] := by
 refine zh Tryz.func172 Z Z Z Z ?_;unfold yh at hr;refine zQ<|zR<|yS Z (bT Z Z Z Z Z)<|yS Z (bT Z Z Z Z Z)<|zM Z<|zN<|zT<|zQ<|zQ<|zR<|yS Z (zA Z Z lQ)<|yS Z (zD Z Z Z a7 Z Z)<|yS Z (zA Z Z lQ)<|yS Z (zD Z Z Z a7 Z Z)<|yS Z (ay Z Z Z Z)<|zN<|zT ?_;refine zX Z (fun g1 => ?_)<|fun g1 => ?_
 ·
  refine zi g1 hr fun hr => zQ<|zR<|yS Z (zA Z Z lQ)<|yS Z (zD Z Z Z a7 Z Z)<|yS Z (zA Z Z lQ)<|yS Z (zD Z Z Z a7 Z Z)<|yS Z (ay Z Z Z Z)<|zM Z<|zN<|zT<|zr<|af ?_;obtain rfl := zJ hr;exact zf (.one (.tmp Z)) zv
 ·
  refine zo g1 hr fun hr => zk<|zT<|zQ<|zR<|yS Z (zD Z Z Z nB Z Z)<|yS Z (zD Z Z Z nB Z Z)<|yS Z (ab.neqAgg Z Z Z Z Z EE)<|zM Z ?_;refine zc 18 Z (fun g2 => ?_)<|fun g2 => ?_
  ·
   refine zi g2 hr fun hr => yV Z (gd g2 Z) (zA Z Z rm)<|yV Z (gd g2 Z) (zD Z Z Z aU Z Z)<|yV Z (gd g2 Z) (zA Z Z rm)<|yV Z (gd g2 Z) (zD Z Z Z aU Z Z)<|zb hr fun v1 h_v1 hr => yV Z (gd g2 Z) (zC Z Z Z (by kernel_rfl) (zp (H7 h_v1) (.cons zv (.cons zv .nil))))<|yS Z (cq Z (aS g2 Z) Z)<|zM Z<|zN<|zT<|zr ?_;obtain rfl := zJ hr;exact zf (.one (.tmp Z)) zv
  ·
   refine zo g2 hr fun hr => yU Z (gd g2 Z) Z<|yU Z (gd g2 Z) Z<|yU Z (gd g2 Z) Z<|yU Z (gd g2 Z) Z<|yU Z (gd g2 Z) Z<|yS Z (bg Z (aS g2 Z) Z)<|zM Z<|zN<|zT<|zr ?_;obtain rfl := zJ hr;exact zf (.one (.tmp Z)) zv
def B4 (x : Vt) : Option Int :=
 some x.From
theorem Ij {x : Vt} {r_ : Int} (hr : B4 x = some r_) : aw Tryz.prog 153 [aD x] [.int .i64 r_] := by
 refine zh Tryz.func153 Z Z Z Z ?_;unfold B4 at hr;refine zQ<|zR<|yS Z (bT Z Z Z Z Z)<|zM Z<|zN<|zT<|zQ<|zR<|yS Z (zA Z Z oZ)<|yS Z (zD Z Z Z a7 Z Z)<|zM Z<|zN<|zT<|zr ?_;obtain rfl := zJ hr;exact zf (.one (.tmp Z)) zv
open Go.Proofs
def yw (x : Vt) (_ : Cf) (l : List Bk) (id : ID) (m : List (ID × Bool)) : Option (Bool × (List (ID × Bool))) :=
 bif !((aj m x.Head).isSome) then
  bif few l then
   some (decide (aR (aZ l x.Head) id ≥ 0), aV m x.Head (decide (aR (aZ l x.Head) id ≥ 0)))
  else none
 else
  some ((aj m x.Head).getD false, m)
theorem Gl {x : Vt} {c : Cf} {l : List Bk} {id : ID} {m : List (ID × Bool)} {r_ : Bool × (List (ID × Bool))} (hr : yw x c l id m = some r_) : LC Tryz.prog 151 [.p (aD x), .ptr 4 0, .ptr 1 0, .ptr 2 0] [.box (bN c), .box [(kB l)], .box [(uQ id.1), (uQ id.2)], .map (ah cr (fun v => (bQ v)) m), .box [.map 3]] (Is (bQ r_.1) [.box (bN c), .box [(kB l)], .box [(uQ id.1), (uQ id.2)], .map (ah cr (fun v => (bQ v)) r_.2), .box [.map 3]]) := by
 refine dq Tryz.func151 Z Z Z ?_;unfold yw at hr;refine zQ<|zR<|yS Z (bT Z Z Z Z Z)<|zM Z<|zN<|zT<|zQ<|zR<|yS Z (zD Z Z Z Bt Z Z)<|yS Z (zA Z Z lf)<|yS Z (zD Z Z Z aU Z Z) ?_;refine yS Z (ab.getX (f := cr) (g := (fun v => (bQ v))) x.Head false dX Z Z Z Z Dv HA Z Z) ?_;refine zM Z<|yS Z (fB Z Z Z)<|yS Z (fB Z Z Z)<|zM Z<|zM Z<|zN<|zT<|zQ<|zQ<|zR<|zM Z<|yS Z (ab.not Z Z)<|zN<|zT ?_;refine zX Z (fun g1 => ?_)<|fun g1 => ?_
 ·
  refine zi g1 hr fun hr => zQ<|LW.draw2 (by kernel_rfl) (by kernel_rfl)<|yE Z (zD Z Z Z dp Z Z)<|yE Z (zA Z Z lf)<|yE Z (zD Z Z Z aU Z Z)<|zg hr fun q1 hr => yE Z (zC Z Z Z (by kernel_rfl) (zp (Iv (l := l) (id := x.Head) (uM q1)) (.cons zv (.cons zv .nil))))<|yE Z (zD Z Z Z aU Z Z)<|yE Z (zC Z Z Z (by kernel_rfl) (zp (Jd (l := (aZ l x.Head)) (v := id)) (.cons zv (.cons zv .nil))))<|zH Z<|LO.nil<|zT<|zR<|yS Z (zD Z Z Z Bt Z Z)<|yS Z (zA Z Z lf)<|yS Z (zD Z Z Z aU Z Z)<|zM Z ?_;refine yS Z (ab.setX (f := cr) (g := (fun v => (bQ v))) x.Head (decide (aR (aZ l x.Head) id ≥ 0)) dX (.inl Z) Z Z Z Z Z Dv Z) ?_;refine zN<|zT<|zQ<|zR<|zM Z<|zM Z<|zN<|zT<|zr ?_;obtain rfl := zJ hr;refine aQ (env' := [(5, .p (.bool (decide (aR (aZ l x.Head) id ≥ 0))))]) (H' := [.box (bN c), .box [(kB l)], .box [(uQ id.1), (uQ id.2)], .map (ah cr (fun v => (bQ v)) (aV m x.Head (decide (aR (aZ l x.Head) id ≥ 0)))), .box [.map 3]]) (zW 5 ⟨rfl, trivial⟩ Z Z Z (zL Z (zL Z (zL Z (zL (ae (fun _ => rfl) _) (zL Z Z)))))) (.one (.tmp Z)) ?_;exact ⟨rfl, rfl⟩
 ·
  refine zo g1 hr fun hr => zk<|zT<|zQ<|zR<|zM Z<|zM Z<|zN<|zT<|zr ?_;obtain rfl := zJ hr;refine aQ (env' := [(5, .p (.bool ((aj m x.Head).getD false)))]) (H' := [.box (bN c), .box [(kB l)], .box [(uQ id.1), (uQ id.2)], .map (ah cr (fun v => (bQ v)) m), .box [.map 3]]) (zW 5 ⟨rfl, trivial⟩ Z Z Z (zL Z (zL Z (zL Z (zL (ae (fun _ => rfl) _) (zL Z Z)))))) (.one (.tmp Z)) ?_;exact ⟨rfl, rfl⟩
structure gK where
 t12 : Int
 o3 : List (ID × Bool)
 out : List Int
def lH (v : List Vt) (c : Cf) (l : List Bk) (id : ID) (x1 : gK) : Option (gK ⊕ gK) :=
 bif decide (x1.t12 < (v.length : Int)) then
  (ix v x1.t12).bind fun y1 =>
  (yw y1 c l id x1.o3).bind fun v2 =>
  bif v2.1 then
   (B4 y1).bind fun v3 =>
   bif ci x1.out.length [v3].length 8 then
    some (.inl (gK.mk (IntKind.i64.wrap (x1.t12 + 1)) v2.2 (x1.out ++ [v3])))
   else none
  else
   some (.inl (gK.mk (IntKind.i64.wrap (x1.t12 + 1)) v2.2 x1.out))
 else
  some (.inr (gK.mk x1.t12 x1.o3 x1.out))
def yx (v : List Vt) (c : Cf) (l : List Bk) (id : ID) (m : List (ID × Bool)) : Option (List Int × List (ID × Bool)) :=
 (iter (lH v c l id) bE (gK.mk 0 m ([] : List Int))).bind fun v1 =>
 some (v1.out, v1.o3)
theorem Gm {v : List Vt} {c : Cf} {l : List Bk} {id : ID} {m : List (ID × Bool)} {r_ : List Int × List (ID × Bool)} (hr : yx v c l id m = some r_) : LC Tryz.prog 152 [(kV v), .fn 151 [] [.ptr 4 0, .ptr 1 0, .ptr 2 0], .fn 153 [] []] [.box (bN c), .box [(kB l)], .box [(uQ id.1), (uQ id.2)], .map (ah cr (fun v => (bQ v)) m), .box [.map 3]] (Is (kI r_.1) [.box (bN c), .box [(kB l)], .box [(uQ id.1), (uQ id.2)], .map (ah cr (fun v => (bQ v)) r_.2), .box [.map 3]]) := by
 refine dq Tryz.func152 Z Z Z ?_;unfold yx at hr;refine zQ<|zR<|zM Z<|zN<|zT<|zQ<|zR<|zM Z<|zN<|zT<|zQ<|zQ<|zR<|zM Z<|yS Z (cB Z Z (by kernel_rfl))<|zM Z<|zN<|zT<|LW.ent (bK.lazy (t := 7) (m := 1) Z Z Z) ?_;obtain ⟨v1, hb_v1, ho_v1⟩ := zB hr;clear hr;refine LW.tail (E := [(6, .zs), (7, (jI 5 v1.out))]) (O := [.box (bN c), .box [(kB l)], .box [(uQ id.1), (uQ id.2)], .map (ah cr (fun v => (bQ v)) v1.o3), .box [.map 3], .vec 1 (v1.out.map aB)]) ?_<|fun env_v1 H_v1 hw_v1 => ?_
 ·refine LW.block ?_;refine LW.iterB (E := fun x1 : gK => [(1, .fn 151 [] [.ptr 4 0, .ptr 1 0, .ptr 2 0]), (2, .fn 153 [] []), (6, .zs), (7, (jI 5 x1.out)), (10, (kV v)), (11, .p (.int .i64 (v.length : Int))), (12, (iQ x1.t12))]) (O := fun x1 => [.box (bN c), .box [(kB l)], .box [(uQ id.1), (uQ id.2)], .map (ah cr (fun v => (bQ v)) x1.o3), .box [.map 3], .vec 1 (x1.out.map aB)]) hb_v1 (zW 6 ⟨rfl, rfl, rfl, rfl, rfl, rfl, rfl, trivial⟩ Z Z Z (zL Z (zL Z (zL Z (zL (ae (fun _ => rfl) _) (zL Z (zL Z Z)))))))<|fun x1 z_x1 hr hb_x1 => ?_;unfold lH at hr;refine zQ<|zR<|yS Z (ay Z Z Z Z)<|zN<|zT<|zQ ?_;refine zX Z (fun g1 => ?_)<|fun g1 => ?_
  ·
   refine zi g1 hr fun hr => zk<|zT<|zQ<|zl<|zQ<|zR<|zb hr fun y1 h_y1 hr => yS Z (zx Z Z Z cX h_y1 Z)<|yS Z (cR Z Z Z ch Z Z)<|yS Z (ze Z rL Z Z)<|yS Z (zs Z Z Z Z ch Z Z Z Z)<|zN<|zT<|zQ<|zR<|zM Z<|yS Z (zD Z Z Z ch Z Z)<|zb hr fun v2 h_v2 hr => ?_;refine yS Z (zC Z Z Z (by kernel_rfl) (LC.pre (Gl h_v2) Z (zL Z (zL Z (zL Z (zL (ae (fun _ => rfl) _) (zL Z Z))))) Z)) ?_;refine zN<|zT ?_;refine zX Z (fun g2 => ?_)<|fun g2 => ?_
   ·
    refine zi g2 hr fun hr => zR<|zM Z<|zM Z<|yS Z (zD Z Z Z ch Z Z)<|zb hr fun v3 h_v3 hr => yS Z (zC Z Z Z (by kernel_rfl) (zp (Ij h_v3) (.cons zv .nil)))<|yS Z (nb Z fO Z Z Z Z Z)<|zg hr fun q1 hr => yS Z (ab.appendX aB x1.out [v3] rfl Z Z Z kx.p Z fO q1 Z)<|zM Z<|zN<|ai<|zT<|zR<|yS Z (ay Z Z Z Z)<|zM Z<|zN<|zT ?_;obtain rfl := zJ hr;exact ⟨_, rfl, zW 6 ⟨rfl, rfl, rfl, rfl, rfl, rfl, rfl, trivial⟩ Z Z Z (zL Z (zL Z (zL Z (zL (ae (fun _ => rfl) _) (zL Z (zL Z Z))))))⟩
   ·
    refine zo g2 hr fun hr => zk<|ai<|zT<|zR<|yS Z (ay Z Z Z Z)<|zM Z<|zN<|zT ?_;obtain rfl := zJ hr;exact ⟨_, rfl, zW 6 ⟨rfl, rfl, rfl, rfl, rfl, rfl, rfl, trivial⟩ Z Z Z (zL Z (zL Z (zL Z (zL (ae (fun _ => rfl) _) (zL Z (zL Z Z))))))⟩
  ·
   refine zo g1 hr fun hr => zq<|ao<|ao<|zy<|zT ?_;obtain rfl := zJ hr;have hr := congrArg some (hb_x1 _ rfl);obtain rfl := zJ hr;exact zW 6 ⟨Z, Z, trivial⟩ Z Z Z<|zL Z<|zL Z<|zL Z<|zL (ae (fun _ => rfl) _)<|zL Z<|zL Z Z
 ·have hr := ho_v1;clear hb_v1;refine zT<|LW.weak hw_v1<|zQ<|zR<|zM Z<|zM Z<|zN<|zT ?_;refine LW.weak (env' := [(6, (jI 5 v1.out))]) (H' := [.box (bN c), .box [(kB l)], .box [(uQ id.1), (uQ id.2)], .map (ah cr (fun v => (bQ v)) v1.o3), .box [.map 3], .vec 1 (v1.out.map aB)]) (zW 6 ⟨rfl, trivial⟩ Z Z Z (zL Z (zL Z (zL Z (zL (ae (fun _ => rfl) _) (zL Z (zL Z Z))))))) ?_;refine LW.ent (bK.frz (t := 6) (env' := []) (H0 := [.box (bN c), .box [(kB l)], .box [(uQ id.1), (uQ id.2)], .map (ah cr (fun v => (bQ v)) v1.o3), .box [.map 3]]) Z Z Z Z Z trivial Z (zL Z (zL Z (zL Z (zL (ae (fun _ => rfl) _) (zL Z Z)))))) ?_;refine LW.ret ?_;obtain rfl := zJ hr;exact ap (.one (.tmp Z))<|⟨rfl, rfl⟩
def wN (c : Cf) (l : List Bk) (v : List Vt) (id : ID) : Option Int :=
 (yx v c l id []).bind fun v1 =>
 (E0 c v1.1).bind fun v2 =>
 some v2
theorem FH {c : Cf} {l : List Bk} {v : List Vt} {id : ID} {r_ : Int} (hr : wN c l v id = some r_) : aw Tryz.prog 112 [kz c, .slice 5 (l.map ax), .slice 4 (v.map aD), cr id] [.int .i64 r_] := by
 refine zh Tryz.func112 Z Z Z Z ?_;unfold wN at hr;refine zQ<|zR<|yS Z (bT Z Z Z Z Z)<|yS Z (bT Z Z Z Z Z)<|yS Z (bT Z Z Z Z Z)<|zM Z<|zN<|zT<|zQ<|zR<|yS Z (ab.makeMap Z Z Z)<|yS Z (ze Z HE Z Z)<|yS Z (zs Z Z Z Z Bt Z Z Z Z)<|zN<|zT<|zQ<|zR<|yS Z (ab.makeFunc Z Z Z)<|zM Z<|zN<|zT<|zQ<|LW.drawW (by kernel_rfl) (by kernel_rfl)<|yF Z (zd Z Z Z bY Z Z) Z ?_;refine zK Z<|zK Z<|zb hr fun v1 h_v1 hr => ?_;refine yF Z (bF.all (s := some (3, .map (ah cr (fun v => (bQ v)) v1.2))) (zC Z Z Z (by kernel_rfl) (Gm h_v1)) Z Z Z) Z ?_;obtain ⟨v2, h_v2, hr⟩ := zB hr;refine yF (F := []) (s := none) Z (fun H _ => zC Z Z Z (by kernel_rfl) (zp (IS h_v2) (.cons zv (.cons zv .nil)))) Z ?_;refine zK Z ?_;refine LF.nil ⟨by kernel_rfl, ?_⟩;refine zT<|zr ?_;obtain rfl := zJ hr;exact zf (.one (.tmp Z)) zv
structure fC where
 t19 : Int
 best : Rk
def ot (c : Cf) (l : List Bk) (v : List Vt) (v1 : (List ID)) (x1 : fC) : Option (fC ⊕ fC) :=
 bif decide (x1.t19 < (v1.length : Int)) then
  (ix v1 x1.t19).bind fun y1 =>
  (wN c l v y1).bind fun v3 =>
  (yh (Rk.mk v3 y1) x1.best).bind fun v4 =>
  bif v4 then
   some (.inl (fC.mk (IntKind.i64.wrap (x1.t19 + 1)) (Rk.mk v3 y1)))
  else
   some (.inl (fC.mk (IntKind.i64.wrap (x1.t19 + 1)) x1.best))
 else
  some (.inr (fC.mk x1.t19 x1.best))
def Ff (c : Cf) (l : List Bk) (v : List Vt) (id : ID) : Option (ID × Bool) :=
 (Fd l id).bind fun v1 =>
 (iter (ot c l v v1) bE (fC.mk 0 (Rk.mk (-1) (0, 0)))).bind fun v2 =>
 some (v2.best.id, decide (v2.best.n ≥ 0))
theorem I7 {c : Cf} {l : List Bk} {v : List Vt} {id : ID} {r_ : ID × Bool} (hr : Ff c l v id = some r_) : aw Tryz.prog 154 [kz c, .slice 5 (l.map ax), .slice 4 (v.map aD), cr id] [cr r_.1, .bool r_.2] := by
 refine zh Tryz.func154 Z Z Z Z ?_;unfold Ff at hr;refine zQ<|zR<|yS Z (bT Z Z Z Z Z)<|yS Z (bT Z Z Z Z Z)<|yS Z (ze Z j8 Z Z)<|zM Z<|zN<|zT<|zQ<|zR<|yS Z (ab.build Z C2 Z Z Z)<|yS Z (ze Z DL Z Z)<|yS Z (zs Z Z Z Z nB Z Z Z Z)<|zN<|zT<|zQ<|zQ<|zR<|zM Z<|yS Z (zD Z Z Z aU Z Z)<|zb hr fun v1 h_v1 hr => yS Z (zC Z Z Z (by kernel_rfl) (zp (I5 h_v1) (.cons zv (.cons zv .nil))))<|yS Z (cB Z Z (by kernel_rfl))<|zM Z ?_;refine zN<|zT ?_;obtain ⟨v2, hb_v2, ho_v2⟩ := zB hr;clear hr;refine LW.tail (E := [(8, .ptr 2 0), (9, (bQ false)), (10, .ptr 3 0)]) (O := [.box (bN c), .box [(uQ id.1), (uQ id.2)], .box [(uQ 0), (uQ 0)], .box [(iQ v2.best.n), (uQ v2.best.id.1), (uQ v2.best.id.2)]]) ?_<|fun env_v2 H_v2 hw_v2 => ?_
 ·refine LW.block ?_;refine LW.iterB (E := fun x1 : fC => [(1, (kB l)), (2, (kV v)), (4, .ptr 0 0), (8, .ptr 2 0), (9, (bQ false)), (10, .ptr 3 0), (17, .p (.slice 2 (v1.map cr))), (18, .p (.int .i64 (v1.length : Int))), (19, (iQ x1.t19))]) (O := fun x1 => [.box (bN c), .box [(uQ id.1), (uQ id.2)], .box [(uQ 0), (uQ 0)], .box [(iQ x1.best.n), (uQ x1.best.id.1), (uQ x1.best.id.2)]]) hb_v2 (zW 4 ⟨rfl, rfl, rfl, rfl, rfl, rfl, rfl, rfl, rfl, trivial⟩ Z Z Z Z)<|fun x1 z_x1 hr hb_x1 => ?_;unfold ot at hr;refine zQ<|zR<|yS Z (ay Z Z Z Z)<|zN<|zT<|zQ ?_;refine zX Z (fun g1 => ?_)<|fun g1 => ?_
  ·
   refine zi g1 hr fun hr => zk<|zT<|zQ<|zl<|zQ<|zR<|zb hr fun y1 h_y1 hr => yS Z (zx Z Z Z pA h_y1 Z)<|yS Z (cR Z Z Z aU Z Z)<|yS Z (ze Z j8 Z Z)<|yS Z (zs Z Z Z Z aU Z Z Z Z)<|zN<|zT<|zQ<|LW.ent (bK.slot Z)<|LW.drawW (by kernel_rfl) (by kernel_rfl)<|yF Z (zd Z Z Z bY Z Z) Z<|zK Z<|zK Z<|yF Z (zd Z Z Z aU Z Z) Z<|zb hr fun v3 h_v3 hr => ?_;refine yF (F := []) (s := none) Z (fun H _ => zC Z Z Z (by kernel_rfl) (zp (FH h_v3) (.cons zv (.cons zv (.cons zv (.cons zv .nil)))))) Z ?_;refine yF Z (zd Z Z Z aU Z Z) Z ?_;refine yF (F := []) (s := none) Z (fun H _ => ab.build Z C2 Z Z Z) Z ?_;refine yF Z (bF.alloc Z DL (id := 5) Z) Z<|yF Z (zt Z Z Z Z nB Z Z Z) Z ?_;refine LF.nil ⟨by kernel_rfl, ?_⟩;refine zT<|zQ<|zR<|yS Z (zD Z Z Z nB Z Z)<|yS Z (zD Z Z Z nB Z Z)<|zb hr fun v4 h_v4 hr => yS Z (zC Z Z Z (by kernel_rfl) (zp (H8 h_v4) (.cons zv (.cons zv .nil))))<|zN<|zT ?_;refine zX Z (fun g2 => ?_)<|fun g2 => ?_
   ·
    refine zi g2 hr fun hr => zR<|yS Z (zD Z Z Z nB Z Z)<|yS Z (zs Z Z Z Z nB Z Z Z Z)<|zN<|ai<|zT<|zR<|yS Z (ay Z Z Z Z)<|zM Z<|zN<|zT ?_;obtain rfl := zJ hr;exact ⟨_, rfl, zW 4 ⟨rfl, rfl, rfl, rfl, rfl, rfl, rfl, rfl, rfl, trivial⟩ Z Z Z rfl⟩
   ·
    refine zo g2 hr fun hr => zk<|ai<|zT<|zR<|yS Z (ay Z Z Z Z)<|zM Z<|zN<|zT ?_;obtain rfl := zJ hr;exact ⟨_, rfl, zW 4 ⟨rfl, rfl, rfl, rfl, rfl, rfl, rfl, rfl, rfl, trivial⟩ Z Z Z rfl⟩
  ·
   refine zo g1 hr fun hr => zq<|ao<|ao<|zy<|zT ?_;obtain rfl := zJ hr;have hr := congrArg some (hb_x1 _ rfl);obtain rfl := zJ hr;exact zW 4 ⟨Z, Z, Z, trivial⟩ Z Z Z Z
 ·have hr := ho_v2;clear hb_v2;refine zT<|LW.weak hw_v2<|zQ<|LW.drawW (by kernel_rfl) (by kernel_rfl) ?_;refine yF (F := []) (s := none) Z (fun H _ => zA Z Z rm) Z ?_;refine yF Z (zd Z Z Z aU Z Z) Z ?_;refine yF (F := []) (s := none) Z (fun H _ => zA Z Z lQ) Z ?_;refine yF Z (zd Z Z Z a7 Z Z) Z ?_;refine yF (F := []) (s := none) Z (fun H _ => ay Z Z Z Z) Z ?_;refine yF Z (zt Z Z Z Z aU Z Z Z) Z<|zK Z ?_;refine LF.nil ⟨by kernel_rfl, ?_⟩;refine zT<|zr ?_;obtain rfl := zJ hr;exact zf (.two (.cellAgg Z Z (by kernel_rfl) Z) (.tmp Z))<|⟨_, rfl, (.cons zv (.cons zv .nil))⟩
structure kT where
 id : ID
def kU (c : Cf) (l : List Bk) (v : List Vt) (x1 : kT) : Option (kT ⊕ kT) :=
 (Ff c l v x1.id).bind fun v2 =>
 bif !v2.2 then
  some (.inr (kT.mk x1.id))
 else
  some (.inl (kT.mk v2.1))
def Fg (c : Cf) (l : List Bk) (v : List Vt) : Option ID :=
 (iter (kU c l v) bE (kT.mk (0, 0))).bind fun v1 =>
 some v1.id
theorem I8 {c : Cf} {l : List Bk} {v : List Vt} {r_ : ID} (hr : Fg c l v = some r_) : aw Tryz.prog 114 [kz c, .slice 5 (l.map ax), .slice 4 (v.map aD)] [cr r_] := by
 refine zh Tryz.func114 Z Z Z Z ?_;unfold Fg at hr;refine zQ<|zR<|yS Z (bT Z Z Z Z Z)<|yS Z (ze Z j8 Z Z)<|zN<|zT<|LW.scope<|zQ<|LW.label<|zT ?_;obtain ⟨v1, hb_v1, ho_v1⟩ := zB hr;clear hr;refine LW.cut (E := [(6, .ptr 1 0)]) (O := [.box (bN c), .box [(uQ v1.id.1), (uQ v1.id.2)]]) ?_ ?_
 ·refine LW.block ?_;refine LW.iterB (E := fun x1 : kT => [(1, (kB l)), (2, (kV v)), (3, .ptr 0 0), (6, .ptr 1 0)]) (O := fun x1 => [.box (bN c), .box [(uQ x1.id.1), (uQ x1.id.2)]]) hb_v1 (zW 2 ⟨rfl, rfl, rfl, rfl, trivial⟩ Z Z Z Z)<|fun x1 z_x1 hr hb_x1 => ?_;unfold kU at hr;refine zl<|zQ<|zR<|yS Z (zD Z Z Z bY Z Z)<|zM Z<|zM Z<|yS Z (zD Z Z Z aU Z Z)<|zb hr fun v2 h_v2 hr => yS Z (zC Z Z Z (by kernel_rfl) (zp (I7 h_v2) (.cons zv (.cons zv (.cons zv (.cons zv .nil))))))<|zM Z<|yS Z (fB Z Z Z)<|yS Z (fB Z Z Z)<|yS Z (ze Z j8 Z Z)<|yS Z (zs Z Z Z Z aU Z Z Z Z)<|zM Z<|zN<|zT<|zQ<|zQ<|zR<|zM Z<|yS Z (ab.not Z Z)<|zN<|zT ?_;refine zX Z (fun g1 => ?_)<|fun g1 => ?_
  ·
   refine zi g1 hr fun hr => zq<|ao<|nu (by decide)<|ao<|zy<|zT ?_;obtain rfl := zJ hr;have hr := congrArg some (hb_x1 _ rfl);obtain rfl := zJ hr;exact zW 2 ⟨Z, trivial⟩ Z Z Z Z
  ·
   refine zo g1 hr fun hr => zk<|zT<|zR<|yS Z (zD Z Z Z aU Z Z)<|yS Z (zs Z Z Z Z aU Z Z Z Z)<|zN<|ai<|zT ?_;obtain rfl := zJ hr;exact ⟨_, rfl, zW 2 ⟨rfl, rfl, rfl, rfl, trivial⟩ Z Z Z rfl⟩
 ·have hr := ho_v1;clear hb_v1;refine zQ<|zR<|yS Z (zD Z Z Z aU Z Z)<|yS Z (zs Z Z Z Z aU Z Z Z Z)<|zN<|zT<|zr<|A1 ?_;obtain rfl := zJ hr;exact zf (.one (.cellAgg Z Z (by kernel_rfl) Z)) zv
open Go.Proofs
theorem sO {α : Type} {f : α → PV} {l : List α} (hb : ci 0 l.length 40 = true) : LC Tryz.prog 128 [.p (.slice 5 (l.map f))] [] (Is (.vec 5 0 (l.map f).length 0 (l.map f).length) [.vec 5 (l.map f)]) := by
 refine dq Tryz.func128 Z Z Z ?_;refine zQ<|zR<|yS Z (za Z Z)<|zN<|zT<|zQ<|zQ<|zR<|yS Z (zm Z Z)<|am.cons Z Z Z (ab.eqNil Z Z Z dI) ?_;rintro _ _ ⟨rfl, b, rfl, hn⟩;refine zN<|zT ?_;refine zX Z (fun g => ?_)<|fun g => ?_
 ·have hl : l = [] := List.map_eq_nil_iff.1 (hn g);subst hl;exact zQ<|zR<|yS Z (za Z Z)<|zN<|zT<|LW.ent (bK.lazy (t := 2) (m := 5) Z Z Z)<|zr<|af<|ap (.one (.tmp Z)) ⟨rfl, rfl⟩
 ·refine LW.skip ?_;exact zT<|zQ<|zR<|yS Z (ab.buildSlice0 Z dI)<|yS Z (zm Z Z)<|yS Z (ab.appendZX f l Z Z Z Z kx.p Z dI hb Z)<|yS Z (za Z Z)<|zN<|zT<|zr<|ap (.one (.tmp Z)) ⟨rfl, rfl⟩
theorem sP {α : Type} {f : α → PV} {l : List α} (hb : ci 0 l.length 32 = true) : LC Tryz.prog 129 [.p (.slice 4 (l.map f))] [] (Is (.vec 4 0 (l.map f).length 0 (l.map f).length) [.vec 4 (l.map f)]) := by
 refine dq Tryz.func129 Z Z Z ?_;refine zQ<|zR<|yS Z (za Z Z)<|zN<|zT<|zQ<|zQ<|zR<|yS Z (zm Z Z)<|am.cons Z Z Z (ab.eqNil Z Z Z cX) ?_;rintro _ _ ⟨rfl, b, rfl, hn⟩;refine zN<|zT ?_;refine zX Z (fun g => ?_)<|fun g => ?_
 ·have hl : l = [] := List.map_eq_nil_iff.1 (hn g);subst hl;exact zQ<|zR<|yS Z (za Z Z)<|zN<|zT<|LW.ent (bK.lazy (t := 2) (m := 4) Z Z Z)<|zr<|af<|ap (.one (.tmp Z)) ⟨rfl, rfl⟩
 ·refine LW.skip ?_;exact zT<|zQ<|zR<|yS Z (ab.buildSlice0 Z cX)<|yS Z (zm Z Z)<|yS Z (ab.appendZX f l Z Z Z Z kx.p Z cX hb Z)<|yS Z (za Z Z)<|zN<|zT<|zr<|ap (.one (.tmp Z)) ⟨rfl, rfl⟩
def Fh (c : Cf) (b : Bk) : Option Bool :=
 (B9 c b.Slot).bind fun v1 =>
 bif decide (v1 ≥ 0) then
  bif v1 == b.From then
   some (!((((nm b).1) == 0) && ((((nm b).2) == 0) && true)))
  else
   some false
 else
  some false
theorem I9 {c : Cf} {b : Bk} {r_ : Bool} (hr : Fh c b = some r_) : aw Tryz.prog 133 [kz c, ax b] [.bool r_] := by
 refine zh Tryz.func133 Z Z Z Z ?_;unfold Fh at hr;refine zQ<|zR<|yS Z (bT Z Z Z Z Z)<|yS Z (bT Z Z Z Z Z)<|zM Z<|zN<|zT<|zQ<|zR<|yS Z (zD Z Z Z bY Z Z)<|yS Z (zA Z Z jQ)<|yS Z (zD Z Z Z a7 Z Z)<|zb hr fun v1 h_v1 hr => yS Z (zC Z Z Z (by kernel_rfl) (zp (HM h_v1) (.cons zv (.cons zv .nil))))<|zM Z<|zN<|zT<|zQ<|zR<|zM Z<|yS Z (ay Z Z Z Z)<|zM Z ?_;refine zc 12 Z (fun g1 => ?_)<|fun g1 => ?_
 ·
  refine zi g1 hr fun hr => yV Z (gd g1 Z) (zm Z Z)<|yV Z (gd g1 Z) (zA Z Z uR)<|yV Z (gd g1 Z) (zD Z Z Z a7 Z Z)<|yV Z (gd g1 Z) (ay Z Z Z Z)<|yS Z (cq Z (aS g1 Z) Z)<|zM Z ?_;refine zc 18 Z (fun g2 => ?_)<|fun g2 => ?_
  ·
   refine zi g2 hr fun hr => yV Z (gd g2 Z) (zD Z Z Z ce Z Z)<|yV Z (gd g2 Z) (zC Z Z Z (by kernel_rfl) (zp (E7 (b := b)) (.cons zv .nil)))<|yV Z (gd g2 Z) (ab.build Z xf Z Z Z)<|yV Z (gd g2 Z) (ab.neqAgg Z Z Z Z Z sX)<|yS Z (cq Z (aS g2 Z) Z)<|zM Z<|zN<|zT<|zr ?_;obtain rfl := zJ hr;exact zf (.one (.tmp Z)) zv
  ·
   refine zo g2 hr fun hr => yU Z (gd g2 Z) Z<|yU Z (gd g2 Z) Z<|yU Z (gd g2 Z) Z<|yU Z (gd g2 Z) Z<|yS Z (bg Z (aS g2 Z) Z)<|zM Z<|zN<|zT<|zr ?_;obtain rfl := zJ hr;exact zf (.one (.tmp Z)) zv
 ·
  refine zo g1 hr fun hr => yU Z (gd g1 Z) Z<|yU Z (gd g1 Z) Z<|yU Z (gd g1 Z) Z<|yU Z (gd g1 Z) Z<|yS Z (bg Z (aS g1 Z) Z)<|zM Z<|yU Z Z Z<|yU Z Z Z<|yU Z Z Z<|yU Z Z Z<|yS Z (bg Z Z Z)<|zM Z<|zN<|zT<|zr ?_;obtain rfl := zJ hr;exact zf (.one (.tmp Z)) zv
def Fi (c : Cf) (v : Vt) : Option Bool :=
 (E1 c v.Slot v.From).bind fun v1 =>
 some v1
theorem Ja {c : Cf} {v : Vt} {r_ : Bool} (hr : Fi c v = some r_) : aw Tryz.prog 135 [kz c, aD v] [.bool r_] := by
 refine zh Tryz.func135 Z Z Z Z ?_;unfold Fi at hr;refine zQ<|zR<|yS Z (bT Z Z Z Z Z)<|yS Z (bT Z Z Z Z Z)<|zM Z<|zN<|zT<|zQ<|zR<|yS Z (zD Z Z Z bY Z Z)<|yS Z (zA Z Z pb)<|yS Z (zD Z Z Z a7 Z Z)<|yS Z (zA Z Z oZ)<|yS Z (zD Z Z Z a7 Z Z)<|zb hr fun v1 h_v1 hr => yS Z (zC Z Z Z (by kernel_rfl) (zp (IT h_v1) (.cons zv (.cons zv (.cons zv .nil)))))<|zM Z<|zN<|zT<|zr ?_;obtain rfl := zJ hr;exact zf (.one (.tmp Z)) zv
structure fb where
 t8 : Int
def kq (s : List Bk) (v : Bk) (x1 : fb) : Option (fb ⊕ (fb ⊕ Int)) :=
 bif decide (x1.t8 < (s.length : Int)) then
  (ix s x1.t8).bind fun y1 =>
  bif ((v.Slot == y1.Slot) && ((v.From == y1.From) && ((v.Parent.1 == y1.Parent.1) && ((v.Parent.2 == y1.Parent.2) && ((v.Salt == y1.Salt) && true))))) then
   some (.inr (.inr x1.t8))
  else
   some (.inl (fb.mk (IntKind.i64.wrap (x1.t8 + 1))))
 else
  some (.inr (.inl (fb.mk x1.t8)))
def B7 (s : List Bk) (v : Bk) : Option Int :=
 (iter (kq s v) bE (fb.mk 0)).bind fun b_v1 => Sum.elim (fun _ =>
  some (-1)) some b_v1
theorem Im {s : List Bk} {v : Bk} {r_ : Int} (hr : B7 s v = some r_) : aw Tryz.prog 130 [.slice 5 (s.map ax), ax v] [.int .i64 r_] := by
 refine zh Tryz.func130 Z Z Z Z ?_;unfold B7 at hr;refine zQ<|zR<|yS Z (bT Z Z Z Z Z)<|zM Z<|zN<|zT<|zQ<|zQ<|zR<|zM Z<|yS Z (cB Z Z (by kernel_rfl))<|zM Z<|zN<|zT ?_;obtain ⟨b_v1, hb_v1, ho_v1⟩ := zB hr;clear hr;refine LW.tailB (b := b_v1) (E := fun v1 => [(4, (iQ 0))]) (O := fun v1 => [.box [(iQ v.Slot), (iQ v.From), (uQ v.Parent.1), (uQ v.Parent.2), (uQ v.Salt)]]) ?_<|fun v1 e_v1 env_v1 H_v1 hw_v1 => ?_
 ·refine LW.block ?_;refine LW.iterB (E := fun x1 : fb => [(0, (kB s)), (3, .ptr 0 0), (4, (iQ 0)), (7, .p (.int .i64 (s.length : Int))), (8, (iQ x1.t8))]) (O := fun x1 => [.box [(iQ v.Slot), (iQ v.From), (uQ v.Parent.1), (uQ v.Parent.2), (uQ v.Salt)]]) hb_v1 (zW 1 ⟨rfl, rfl, rfl, rfl, rfl, trivial⟩ Z Z Z Z)<|fun x1 z_x1 hr hb_x1 => ?_;unfold kq at hr;refine zQ<|zR<|yS Z (ay Z Z Z Z)<|zN<|zT<|zQ ?_;refine zX Z (fun g1 => ?_)<|fun g1 => ?_
  ·
   refine zi g1 hr fun hr => zk<|zT<|zQ<|zl<|zQ<|zR<|zM Z<|zM Z<|zN<|zT<|zQ<|LW.draw2 (by kernel_rfl) (by kernel_rfl)<|yE Z (zD Z Z Z ce Z Z)<|zH Z<|zH Z<|zb hr fun y1 h_y1 hr => yE Z (zx Z Z Z dI h_y1 Z)<|yE Z (cR Z Z Z ce Z Z)<|yE Z (ab.eqlAgg Z Z Z Z Z sY)<|LO.nil<|zT ?_;refine zX Z (fun g2 => ?_)<|fun g2 => ?_
   ·
    refine zi g2 hr fun hr => zQ<|zR<|zM Z<|zM Z<|zN<|zT<|zr<|aq<|af<|af<|aq<|af<|af ?_;obtain rfl := zJ hr;have hr := congrArg some (hb_x1 _ rfl);obtain rfl := zJ hr;have hr := cS ho_v1;obtain rfl := zJ hr;exact zf (.one (.tmp Z)) zv
   ·
    refine zo g2 hr fun hr => zk<|ai<|zT<|zR<|yS Z (ay Z Z Z Z)<|zM Z<|zN<|zT ?_;obtain rfl := zJ hr;exact ⟨_, rfl, zW 1 ⟨rfl, rfl, rfl, rfl, rfl, trivial⟩ Z Z Z rfl⟩
  ·
   refine zo g1 hr fun hr => zq<|ao<|ao<|zy<|zT ?_;obtain rfl := zJ hr;have hr := congrArg some (hb_x1 _ rfl);obtain rfl := zJ hr;exact ⟨_, rfl, zW 1 ⟨rfl, trivial⟩ Z Z Z rfl⟩
 ·obtain rfl := e_v1;have hr := d4 ho_v1;clear hb_v1;refine zT<|LW.weak hw_v1<|zQ<|zR<|zM Z<|zN<|zT<|zr ?_;obtain rfl := zJ hr;exact zf (.one (.tmp Z)) zv
structure fc where
 t8 : Int
def kr (s : List Vt) (v : Vt) (x1 : fc) : Option (fc ⊕ (fc ⊕ Int)) :=
 bif decide (x1.t8 < (s.length : Int)) then
  (ix s x1.t8).bind fun y1 =>
  bif ((v.From == y1.From) && ((v.Slot == y1.Slot) && ((v.Head.1 == y1.Head.1) && ((v.Head.2 == y1.Head.2) && true)))) then
   some (.inr (.inr x1.t8))
  else
   some (.inl (fc.mk (IntKind.i64.wrap (x1.t8 + 1))))
 else
  some (.inr (.inl (fc.mk x1.t8)))
def B8 (s : List Vt) (v : Vt) : Option Int :=
 (iter (kr s v) bE (fc.mk 0)).bind fun b_v1 => Sum.elim (fun _ =>
  some (-1)) some b_v1
theorem Io {s : List Vt} {v : Vt} {r_ : Int} (hr : B8 s v = some r_) : aw Tryz.prog 131 [.slice 4 (s.map aD), aD v] [.int .i64 r_] := by
 refine zh Tryz.func131 Z Z Z Z ?_;unfold B8 at hr;refine zQ<|zR<|yS Z (bT Z Z Z Z Z)<|zM Z<|zN<|zT<|zQ<|zQ<|zR<|zM Z<|yS Z (cB Z Z (by kernel_rfl))<|zM Z<|zN<|zT ?_;obtain ⟨b_v1, hb_v1, ho_v1⟩ := zB hr;clear hr;refine LW.tailB (b := b_v1) (E := fun v1 => [(4, (iQ 0))]) (O := fun v1 => [.box [(iQ v.From), (iQ v.Slot), (uQ v.Head.1), (uQ v.Head.2)]]) ?_<|fun v1 e_v1 env_v1 H_v1 hw_v1 => ?_
 ·refine LW.block ?_;refine LW.iterB (E := fun x1 : fc => [(0, (kV s)), (3, .ptr 0 0), (4, (iQ 0)), (7, .p (.int .i64 (s.length : Int))), (8, (iQ x1.t8))]) (O := fun x1 => [.box [(iQ v.From), (iQ v.Slot), (uQ v.Head.1), (uQ v.Head.2)]]) hb_v1 (zW 1 ⟨rfl, rfl, rfl, rfl, rfl, trivial⟩ Z Z Z Z)<|fun x1 z_x1 hr hb_x1 => ?_;unfold kr at hr;refine zQ<|zR<|yS Z (ay Z Z Z Z)<|zN<|zT<|zQ ?_;refine zX Z (fun g1 => ?_)<|fun g1 => ?_
  ·
   refine zi g1 hr fun hr => zk<|zT<|zQ<|zl<|zQ<|zR<|zM Z<|zM Z<|zN<|zT<|zQ<|LW.draw2 (by kernel_rfl) (by kernel_rfl)<|yE Z (zD Z Z Z ch Z Z)<|zH Z<|zH Z<|zb hr fun y1 h_y1 hr => yE Z (zx Z Z Z cX h_y1 Z)<|yE Z (cR Z Z Z ch Z Z)<|yE Z (ab.eqlAgg Z Z Z Z Z Av)<|LO.nil<|zT ?_;refine zX Z (fun g2 => ?_)<|fun g2 => ?_
   ·
    refine zi g2 hr fun hr => zQ<|zR<|zM Z<|zM Z<|zN<|zT<|zr<|aq<|af<|af<|aq<|af<|af ?_;obtain rfl := zJ hr;have hr := congrArg some (hb_x1 _ rfl);obtain rfl := zJ hr;have hr := cS ho_v1;obtain rfl := zJ hr;exact zf (.one (.tmp Z)) zv
   ·
    refine zo g2 hr fun hr => zk<|ai<|zT<|zR<|yS Z (ay Z Z Z Z)<|zM Z<|zN<|zT ?_;obtain rfl := zJ hr;exact ⟨_, rfl, zW 1 ⟨rfl, rfl, rfl, rfl, rfl, trivial⟩ Z Z Z rfl⟩
  ·
   refine zo g1 hr fun hr => zq<|ao<|ao<|zy<|zT ?_;obtain rfl := zJ hr;have hr := congrArg some (hb_x1 _ rfl);obtain rfl := zJ hr;exact ⟨_, rfl, zW 1 ⟨rfl, trivial⟩ Z Z Z rfl⟩
 ·obtain rfl := e_v1;have hr := d4 ho_v1;clear hb_v1;refine zT<|LW.weak hw_v1<|zQ<|zR<|zM Z<|zN<|zT<|zr ?_;obtain rfl := zJ hr;exact zf (.one (.tmp Z)) zv
def wT (s : List Bk) (v : Bk) : Option Bool :=
 (B7 s v).bind fun v1 =>
 some (decide (v1 ≥ 0))
theorem FM {s : List Bk} {v : Bk} {r_ : Bool} (hr : wT s v = some r_) : aw Tryz.prog 90 [.slice 5 (s.map ax), ax v] [.bool r_] := by
 refine zh Tryz.func90 Z Z Z Z ?_;unfold wT at hr;refine zQ<|zR<|yS Z (bT Z Z Z Z Z)<|zM Z<|zN<|zT<|zQ<|zR<|zM Z<|yS Z (zD Z Z Z ce Z Z)<|zb hr fun v1 h_v1 hr => yS Z (zC Z Z Z (by kernel_rfl) (zp (Im h_v1) (.cons zv (.cons zv .nil))))<|yS Z (ay Z Z Z Z)<|zM Z<|zN<|zT<|zr ?_;obtain rfl := zJ hr;exact zf (.one (.tmp Z)) zv
def wU (s : List Vt) (v : Vt) : Option Bool :=
 (B8 s v).bind fun v1 =>
 some (decide (v1 ≥ 0))
theorem FN {s : List Vt} {v : Vt} {r_ : Bool} (hr : wU s v = some r_) : aw Tryz.prog 93 [.slice 4 (s.map aD), aD v] [.bool r_] := by
 refine zh Tryz.func93 Z Z Z Z ?_;unfold wU at hr;refine zQ<|zR<|yS Z (bT Z Z Z Z Z)<|zM Z<|zN<|zT<|zQ<|zR<|zM Z<|yS Z (zD Z Z Z ch Z Z)<|zb hr fun v1 h_v1 hr => yS Z (zC Z Z Z (by kernel_rfl) (zp (Io h_v1) (.cons zv (.cons zv .nil))))<|yS Z (ay Z Z Z Z)<|zM Z<|zN<|zT<|zr ?_;obtain rfl := zJ hr;exact zf (.one (.tmp Z)) zv
structure d7 where
 t12 : Int
 out : List Bk
def ki (b : List Bk) (x1 : d7) : Option (d7 ⊕ d7) :=
 bif decide (x1.t12 < (b.length : Int)) then
  (ix b x1.t12).bind fun y1 =>
  (wT x1.out y1).bind fun v2 =>
  bif !v2 then
   bif ci x1.out.length [y1].length 40 then
    some (.inl (d7.mk (IntKind.i64.wrap (x1.t12 + 1)) (x1.out ++ [y1])))
   else none
  else
   some (.inl (d7.mk (IntKind.i64.wrap (x1.t12 + 1)) x1.out))
 else
  some (.inr (d7.mk x1.t12 x1.out))
def yt (a : List Bk) (b : List Bk) : Option (List Bk) :=
 bif ci 0 a.length 40 then
  (iter (ki b) bE (d7.mk 0 a)).bind fun v1 =>
  some v1.out
 else none
theorem Id {a : List Bk} {b : List Bk} {r_ : (List Bk)} (hr : yt a b = some r_) : aw Tryz.prog 123 [.slice 5 (a.map ax), .slice 5 (b.map ax)] [.slice 5 (r_.map ax)] := by
 refine zh Tryz.func123 Z Z Z Z ?_;unfold yt at hr;refine zQ<|zR<|zM Z<|zN<|zT<|zQ<|zR<|zM Z<|zg hr fun q1 hr => yS Z (ab.callV (qs := [(kB a)]) Z Z Z (by kernel_rfl) (sO q1) (.consC zv .nil) Z Z)<|zM Z<|zN<|zT<|zQ<|zQ<|zR<|zM Z<|yS Z (cB Z Z (by kernel_rfl))<|zM Z<|zN<|zT ?_;obtain ⟨v1, hb_v1, ho_v1⟩ := zB hr;clear hr;refine LW.tail (E := [(4, .zs), (5, (jB 0 v1.out))]) (O := [.vec 5 (v1.out.map ax)]) ?_<|fun env_v1 H_v1 hw_v1 => ?_
 ·refine LW.block ?_;refine LW.iterB (E := fun x1 : d7 => [(4, .zs), (5, (jB 0 x1.out)), (10, (kB b)), (11, .p (.int .i64 (b.length : Int))), (12, (iQ x1.t12))]) (O := fun x1 => [.vec 5 (x1.out.map ax)]) hb_v1 (zW 1 ⟨rfl, rfl, rfl, rfl, rfl, trivial⟩ Z Z Z Z)<|fun x1 z_x1 hr hb_x1 => ?_;unfold ki at hr;refine zQ<|zR<|yS Z (ay Z Z Z Z)<|zN<|zT<|zQ ?_;refine zX Z (fun g1 => ?_)<|fun g1 => ?_
  ·
   refine zi g1 hr fun hr => zk<|zT<|zQ<|zl<|zQ<|zR<|zb hr fun y1 h_y1 hr => yS Z (zx Z Z Z dI h_y1 Z)<|yS Z (cR Z Z Z ce Z Z)<|yS Z (ze Z ui Z Z)<|yS Z (zs Z Z Z Z ce Z Z Z Z)<|zN<|zT<|zQ<|zR<|zM Z<|yS Z (zD Z Z Z ce Z Z)<|zb hr fun v2 h_v2 hr => yS Z (zC Z Z Z (by kernel_rfl) (LC.lend (FM h_v2) (.cons (Conv.vecAll Z Z Z) (.cons zv .nil)) Z))<|yS Z (ab.not Z Z)<|zN<|zT ?_;refine zX Z (fun g2 => ?_)<|fun g2 => ?_
   ·
    refine zi g2 hr fun hr => zR<|zM Z<|yS Z (zD Z Z Z ce Z Z)<|yS Z (nb Z dI Z Z Z Z Z)<|zg hr fun q2 hr => yS Z (ab.appendX ax x1.out [y1] rfl Z Z Z kx.p Z dI q2 Z)<|zM Z<|zN<|ai<|zT<|zR<|yS Z (ay Z Z Z Z)<|zM Z<|zN<|zT ?_;obtain rfl := zJ hr;exact ⟨_, rfl, zW 1 ⟨rfl, rfl, rfl, rfl, rfl, trivial⟩ Z Z Z rfl⟩
   ·
    refine zo g2 hr fun hr => zk<|ai<|zT<|zR<|yS Z (ay Z Z Z Z)<|zM Z<|zN<|zT ?_;obtain rfl := zJ hr;exact ⟨_, rfl, zW 1 ⟨rfl, rfl, rfl, rfl, rfl, trivial⟩ Z Z Z rfl⟩
  ·
   refine zo g1 hr fun hr => zq<|ao<|ao<|zy<|zT ?_;obtain rfl := zJ hr;have hr := congrArg some (hb_x1 _ rfl);obtain rfl := zJ hr;exact zW 1 ⟨Z, Z, trivial⟩ Z Z Z Z
 ·have hr := ho_v1;clear hb_v1;refine zT<|LW.weak hw_v1<|zQ<|zR<|zM Z<|zM Z<|zN<|zT<|zr ?_;obtain rfl := zJ hr;exact zf (.one (.tmp Z))<|(Conv.vecAll Z Z Z)
structure d8 where
 t12 : Int
 out : List Vt
def kj (b : List Vt) (x1 : d8) : Option (d8 ⊕ d8) :=
 bif decide (x1.t12 < (b.length : Int)) then
  (ix b x1.t12).bind fun y1 =>
  (wU x1.out y1).bind fun v2 =>
  bif !v2 then
   bif ci x1.out.length [y1].length 32 then
    some (.inl (d8.mk (IntKind.i64.wrap (x1.t12 + 1)) (x1.out ++ [y1])))
   else none
  else
   some (.inl (d8.mk (IntKind.i64.wrap (x1.t12 + 1)) x1.out))
 else
  some (.inr (d8.mk x1.t12 x1.out))
def yu (a : List Vt) (b : List Vt) : Option (List Vt) :=
 bif ci 0 a.length 32 then
  (iter (kj b) bE (d8.mk 0 a)).bind fun v1 =>
  some v1.out
 else none
theorem Ie {a : List Vt} {b : List Vt} {r_ : (List Vt)} (hr : yu a b = some r_) : aw Tryz.prog 124 [.slice 4 (a.map aD), .slice 4 (b.map aD)] [.slice 4 (r_.map aD)] := by
 refine zh Tryz.func124 Z Z Z Z ?_;unfold yu at hr;refine zQ<|zR<|zM Z<|zN<|zT<|zQ<|zR<|zM Z<|zg hr fun q1 hr => yS Z (ab.callV (qs := [(kV a)]) Z Z Z (by kernel_rfl) (sP q1) (.consC zv .nil) Z Z)<|zM Z<|zN<|zT<|zQ<|zQ<|zR<|zM Z<|yS Z (cB Z Z (by kernel_rfl))<|zM Z<|zN<|zT ?_;obtain ⟨v1, hb_v1, ho_v1⟩ := zB hr;clear hr;refine LW.tail (E := [(4, .zs), (5, (jV 0 v1.out))]) (O := [.vec 4 (v1.out.map aD)]) ?_<|fun env_v1 H_v1 hw_v1 => ?_
 ·refine LW.block ?_;refine LW.iterB (E := fun x1 : d8 => [(4, .zs), (5, (jV 0 x1.out)), (10, (kV b)), (11, .p (.int .i64 (b.length : Int))), (12, (iQ x1.t12))]) (O := fun x1 => [.vec 4 (x1.out.map aD)]) hb_v1 (zW 1 ⟨rfl, rfl, rfl, rfl, rfl, trivial⟩ Z Z Z Z)<|fun x1 z_x1 hr hb_x1 => ?_;unfold kj at hr;refine zQ<|zR<|yS Z (ay Z Z Z Z)<|zN<|zT<|zQ ?_;refine zX Z (fun g1 => ?_)<|fun g1 => ?_
  ·
   refine zi g1 hr fun hr => zk<|zT<|zQ<|zl<|zQ<|zR<|zb hr fun y1 h_y1 hr => yS Z (zx Z Z Z cX h_y1 Z)<|yS Z (cR Z Z Z ch Z Z)<|yS Z (ze Z rL Z Z)<|yS Z (zs Z Z Z Z ch Z Z Z Z)<|zN<|zT<|zQ<|zR<|zM Z<|yS Z (zD Z Z Z ch Z Z)<|zb hr fun v2 h_v2 hr => yS Z (zC Z Z Z (by kernel_rfl) (LC.lend (FN h_v2) (.cons (Conv.vecAll Z Z Z) (.cons zv .nil)) Z))<|yS Z (ab.not Z Z)<|zN<|zT ?_;refine zX Z (fun g2 => ?_)<|fun g2 => ?_
   ·
    refine zi g2 hr fun hr => zR<|zM Z<|yS Z (zD Z Z Z ch Z Z)<|yS Z (nb Z cX Z Z Z Z Z)<|zg hr fun q2 hr => yS Z (ab.appendX aD x1.out [y1] rfl Z Z Z kx.p Z cX q2 Z)<|zM Z<|zN<|ai<|zT<|zR<|yS Z (ay Z Z Z Z)<|zM Z<|zN<|zT ?_;obtain rfl := zJ hr;exact ⟨_, rfl, zW 1 ⟨rfl, rfl, rfl, rfl, rfl, trivial⟩ Z Z Z rfl⟩
   ·
    refine zo g2 hr fun hr => zk<|ai<|zT<|zR<|yS Z (ay Z Z Z Z)<|zM Z<|zN<|zT ?_;obtain rfl := zJ hr;exact ⟨_, rfl, zW 1 ⟨rfl, rfl, rfl, rfl, rfl, trivial⟩ Z Z Z rfl⟩
  ·
   refine zo g1 hr fun hr => zq<|ao<|ao<|zy<|zT ?_;obtain rfl := zJ hr;have hr := congrArg some (hb_x1 _ rfl);obtain rfl := zJ hr;exact zW 1 ⟨Z, Z, trivial⟩ Z Z Z Z
 ·have hr := ho_v1;clear hb_v1;refine zT<|LW.weak hw_v1<|zQ<|zR<|zM Z<|zM Z<|zN<|zT<|zr ?_;obtain rfl := zJ hr;exact zf (.one (.tmp Z))<|(Conv.vecAll Z Z Z)
def zj (a : Vw) (b : Vw) : Option Vw :=
 (yt a.B b.B).bind fun v1 =>
 (yu a.V b.V).bind fun v2 =>
 some (Vw.mk v1 v2)
theorem Eg {a : Vw} {b : Vw} {r_ : Vw} (hr : zj a b = some r_) : aw Tryz.prog 68 [kQ a, kQ b] [kQ r_] := by
 refine zh Tryz.func68 Z Z Z Z ?_;unfold zj at hr;refine zQ<|zR<|yS Z (bT Z Z Z Z Z)<|yS Z (bT Z Z Z Z Z)<|yS Z (ze Z iO Z Z)<|zN<|zT<|zQ<|LW.drawLast (m := 11) (by kernel_rfl) (by kernel_rfl) (by kernel_rfl)<|yE Z (zA Z Z br)<|yE Z (zD Z Z Z dp Z Z)<|yE Z (zA Z Z br)<|yE Z (zD Z Z Z dp Z Z)<|zb hr fun v1 h_v1 hr => yE Z (zC Z Z Z (by kernel_rfl) (zp (Id h_v1) (.cons zv (.cons zv .nil))))<|yE Z (zA Z Z bD)<|yE Z (zD Z Z Z dM Z Z)<|yE Z (zA Z Z bD)<|yE Z (zD Z Z Z dM Z Z)<|zb hr fun v2 h_v2 hr => yE Z (zC Z Z Z (by kernel_rfl) (zp (Ie h_v2) (.cons zv (.cons zv .nil))))<|yE Z (ab.build Z oH Z Z Z)<|LO.nil<|yS Z (zs Z Z Z Z aJ Z Z Z Z) ?_;refine zN<|zT<|zr ?_;obtain rfl := zJ hr;exact zf (.one (.cellAgg Z Z (by kernel_rfl) Z)) zv
structure HI where
 n : Int
 i : Int
structure fa where
 i : Int
def kc (a : List Vt) (b : List Vt) (x1 : fa) : Option (fa ⊕ (fa ⊕ Bool)) :=
 bif decide (x1.i < (a.length : Int)) then
  (ix a x1.i).bind fun y1 =>
  (ix b x1.i).bind fun y2 =>
  bif !((y1.From == y2.From) && ((y1.Slot == y2.Slot) && ((y1.Head.1 == y2.Head.1) && ((y1.Head.2 == y2.Head.2) && true)))) then
   some (.inr (.inr false))
  else
   some (.inl (fa.mk (IntKind.i64.wrap (x1.i + 1))))
 else
  some (.inr (.inl (fa.mk x1.i)))
def yj (a : List Vt) (b : List Vt) : Option Bool :=
 bif (a.length : Int) != (b.length : Int) then
  some false
 else
  (iter (kc a b) bE (fa.mk 0)).bind fun b_v1 => Sum.elim (fun _ =>
   some true) some b_v1
theorem Ic {a : List Vt} {b : List Vt} {r_ : Bool} (hr : yj a b = some r_) : aw Tryz.prog 77 [.slice 4 (a.map aD), .slice 4 (b.map aD)] [.bool r_] := by
 refine zh Tryz.func77 Z Z Z Z ?_;unfold yj at hr;refine zQ<|zR<|zM Z<|zN<|zT<|zQ<|zQ<|zR<|zM Z<|yS Z (cB Z Z (by kernel_rfl))<|zM Z<|yS Z (cB Z Z (by kernel_rfl))<|yS Z (ay Z Z Z Z)<|zN<|zT ?_;refine zX Z (fun g1 => ?_)<|fun g1 => ?_
 ·
  refine zi g1 hr fun hr => zQ<|zR<|zM Z<|zN<|zT<|zr<|af ?_;obtain rfl := zJ hr;exact zf (.one (.tmp Z)) zv
 ·
  refine zo g1 hr fun hr => zk<|zT<|zQ<|zQ<|zR<|zM Z<|zN<|zT ?_;obtain ⟨b_v1, hb_v1, ho_v1⟩ := zB hr;clear hr;refine LW.tailB (b := b_v1) (E := fun v1 => [(4, (bQ false))]) (O := fun v1 => []) ?_<|fun v1 e_v1 env_v1 H_v1 hw_v1 => ?_
  ·refine LW.block ?_;refine LW.iterB (E := fun x1 : fa => [(0, (kV a)), (1, (kV b)), (4, (bQ false)), (5, (iQ x1.i))]) (O := fun x1 => []) hb_v1 (zW 0 ⟨rfl, rfl, rfl, rfl, trivial⟩ Z Z Z Z)<|fun x1 z_x1 hr hb_x1 => ?_;unfold kc at hr;refine zQ<|zQ<|zR<|zM Z<|zM Z<|yS Z (cB Z Z (by kernel_rfl))<|yS Z (ay Z Z Z Z)<|zN<|zT ?_;refine zX Z (fun g2 => ?_)<|fun g2 => ?_
   ·
    refine zi g2 hr fun hr => zk<|zT<|zQ<|zl<|zQ<|LW.draw2 (by kernel_rfl) (by kernel_rfl)<|zH Z<|zH Z<|zb hr fun y1 h_y1 hr => yE Z (zx Z Z Z cX h_y1 Z)<|yE Z (cR Z Z Z ch Z Z)<|zH Z<|zH Z<|zb hr fun y2 h_y2 hr => yE Z (zx Z Z Z cX h_y2 Z)<|yE Z (cR Z Z Z ch Z Z)<|yE Z (ab.neqAgg Z Z Z Z Z Av)<|LO.nil<|zT ?_;refine zX Z (fun g3 => ?_)<|fun g3 => ?_
    ·
     refine zi g3 hr fun hr => zQ<|zR<|zM Z<|zN<|zT<|zr<|aq<|af<|af<|aq<|af<|af ?_;obtain rfl := zJ hr;have hr := congrArg some (hb_x1 _ rfl);obtain rfl := zJ hr;have hr := cS ho_v1;obtain rfl := zJ hr;exact zf (.one (.tmp Z)) zv
    ·
     refine zo g3 hr fun hr => zk<|ai<|zT<|zR<|zM Z<|yS Z (ay Z Z Z Z)<|zM Z<|zN<|zT ?_;obtain rfl := zJ hr;exact ⟨_, rfl, zW 0 ⟨rfl, rfl, rfl, rfl, trivial⟩ Z Z Z rfl⟩
   ·
    refine zo g2 hr fun hr => zq<|ao<|ao<|zy<|zT ?_;obtain rfl := zJ hr;have hr := congrArg some (hb_x1 _ rfl);obtain rfl := zJ hr;exact ⟨_, rfl, zW 0 ⟨rfl, trivial⟩ Z Z Z rfl⟩
  ·obtain rfl := e_v1;have hr := d4 ho_v1;clear hb_v1;refine zT<|LW.weak hw_v1<|zQ<|zR<|zM Z<|zN<|zT<|zr ?_;obtain rfl := zJ hr;exact zf (.one (.tmp Z)) zv
structure e8 where
 i : Int
def kb (a : List Bk) (b : List Bk) (x1 : e8) : Option (e8 ⊕ (e8 ⊕ Bool)) :=
 bif decide (x1.i < (a.length : Int)) then
  (ix a x1.i).bind fun y1 =>
  (ix b x1.i).bind fun y2 =>
  bif !((y1.Slot == y2.Slot) && ((y1.From == y2.From) && ((y1.Parent.1 == y2.Parent.1) && ((y1.Parent.2 == y2.Parent.2) && ((y1.Salt == y2.Salt) && true))))) then
   some (.inr (.inr false))
  else
   some (.inl (e8.mk (IntKind.i64.wrap (x1.i + 1))))
 else
  some (.inr (.inl (e8.mk x1.i)))
def yi (a : List Bk) (b : List Bk) : Option Bool :=
 bif (a.length : Int) != (b.length : Int) then
  some false
 else
  (iter (kb a b) bE (e8.mk 0)).bind fun b_v1 => Sum.elim (fun _ =>
   some true) some b_v1
theorem Ib {a : List Bk} {b : List Bk} {r_ : Bool} (hr : yi a b = some r_) : aw Tryz.prog 76 [.slice 5 (a.map ax), .slice 5 (b.map ax)] [.bool r_] := by
 refine zh Tryz.func76 Z Z Z Z ?_;unfold yi at hr;refine zQ<|zR<|zM Z<|zN<|zT<|zQ<|zQ<|zR<|zM Z<|yS Z (cB Z Z (by kernel_rfl))<|zM Z<|yS Z (cB Z Z (by kernel_rfl))<|yS Z (ay Z Z Z Z)<|zN<|zT ?_;refine zX Z (fun g1 => ?_)<|fun g1 => ?_
 ·
  refine zi g1 hr fun hr => zQ<|zR<|zM Z<|zN<|zT<|zr<|af ?_;obtain rfl := zJ hr;exact zf (.one (.tmp Z)) zv
 ·
  refine zo g1 hr fun hr => zk<|zT<|zQ<|zQ<|zR<|zM Z<|zN<|zT ?_;obtain ⟨b_v1, hb_v1, ho_v1⟩ := zB hr;clear hr;refine LW.tailB (b := b_v1) (E := fun v1 => [(4, (bQ false))]) (O := fun v1 => []) ?_<|fun v1 e_v1 env_v1 H_v1 hw_v1 => ?_
  ·refine LW.block ?_;refine LW.iterB (E := fun x1 : e8 => [(0, (kB a)), (1, (kB b)), (4, (bQ false)), (5, (iQ x1.i))]) (O := fun x1 => []) hb_v1 (zW 0 ⟨rfl, rfl, rfl, rfl, trivial⟩ Z Z Z Z)<|fun x1 z_x1 hr hb_x1 => ?_;unfold kb at hr;refine zQ<|zQ<|zR<|zM Z<|zM Z<|yS Z (cB Z Z (by kernel_rfl))<|yS Z (ay Z Z Z Z)<|zN<|zT ?_;refine zX Z (fun g2 => ?_)<|fun g2 => ?_
   ·
    refine zi g2 hr fun hr => zk<|zT<|zQ<|zl<|zQ<|LW.draw2 (by kernel_rfl) (by kernel_rfl)<|zH Z<|zH Z<|zb hr fun y1 h_y1 hr => yE Z (zx Z Z Z dI h_y1 Z)<|yE Z (cR Z Z Z ce Z Z)<|zH Z<|zH Z<|zb hr fun y2 h_y2 hr => yE Z (zx Z Z Z dI h_y2 Z)<|yE Z (cR Z Z Z ce Z Z)<|yE Z (ab.neqAgg Z Z Z Z Z sY)<|LO.nil<|zT ?_;refine zX Z (fun g3 => ?_)<|fun g3 => ?_
    ·
     refine zi g3 hr fun hr => zQ<|zR<|zM Z<|zN<|zT<|zr<|aq<|af<|af<|aq<|af<|af ?_;obtain rfl := zJ hr;have hr := congrArg some (hb_x1 _ rfl);obtain rfl := zJ hr;have hr := cS ho_v1;obtain rfl := zJ hr;exact zf (.one (.tmp Z)) zv
    ·
     refine zo g3 hr fun hr => zk<|ai<|zT<|zR<|zM Z<|yS Z (ay Z Z Z Z)<|zM Z<|zN<|zT ?_;obtain rfl := zJ hr;exact ⟨_, rfl, zW 0 ⟨rfl, rfl, rfl, rfl, trivial⟩ Z Z Z rfl⟩
   ·
    refine zo g2 hr fun hr => zq<|ao<|ao<|zy<|zT ?_;obtain rfl := zJ hr;have hr := congrArg some (hb_x1 _ rfl);obtain rfl := zJ hr;exact ⟨_, rfl, zW 0 ⟨rfl, trivial⟩ Z Z Z rfl⟩
  ·obtain rfl := e_v1;have hr := d4 ho_v1;clear hb_v1;refine zT<|LW.weak hw_v1<|zQ<|zR<|zM Z<|zN<|zT<|zr ?_;obtain rfl := zJ hr;exact zf (.one (.tmp Z)) zv
structure HF where
 i : Int
 o3 : List Bk
structure HG where
 there : Bool
 k : Int
structure HH where
 i : Int
 o4 : List Vt
def DT (a : Vw) (b : Vw) : Option Bool :=
 (yi a.B b.B).bind fun v1 =>
 (yj a.V b.V).bind fun v2 =>
 bif v1 then
  some v2
 else
  some false
theorem Iz {a : Vw} {b : Vw} {r_ : Bool} (hr : DT a b = some r_) : aw Tryz.prog 44 [kQ a, kQ b] [.bool r_] := by
 refine zh Tryz.func44 Z Z Z Z ?_;unfold DT at hr;refine zQ<|zR<|yS Z (bT Z Z Z Z Z)<|yS Z (bT Z Z Z Z Z)<|zM Z<|zN<|zT<|zQ<|zR<|yS Z (zA Z Z br)<|yS Z (zD Z Z Z dp Z Z)<|yS Z (zA Z Z br)<|yS Z (zD Z Z Z dp Z Z)<|zb hr fun v1 h_v1 hr => yS Z (zC Z Z Z (by kernel_rfl) (zp (Ib h_v1) (.cons zv (.cons zv .nil))))<|zM Z<|zN<|zT<|zQ<|zR<|yS Z (zA Z Z bD)<|yS Z (zD Z Z Z dM Z Z)<|yS Z (zA Z Z bD)<|yS Z (zD Z Z Z dM Z Z) ?_;refine zb hr fun v2 h_v2 hr => yS Z (zC Z Z Z (by kernel_rfl) (zp (Ic h_v2) (.cons zv (.cons zv .nil))))<|zM Z<|zN<|zT<|zQ<|zR<|zM Z<|zM Z ?_;refine zc 18 Z (fun g1 => ?_)<|fun g1 => ?_
 ·
  refine zi g1 hr fun hr => yV Z (gd g1 Z) (zm Z Z)<|yS Z (cq Z (aS g1 Z) Z)<|zM Z<|zN<|zT<|zr ?_;obtain rfl := zJ hr;exact zf (.one (.tmp Z)) zv
 ·
  refine zo g1 hr fun hr => yU Z (gd g1 Z) Z<|yS Z (bg Z (aS g1 Z) Z)<|zM Z<|zN<|zT<|zr ?_;obtain rfl := zJ hr;exact zf (.one (.tmp Z)) zv
def DO : Option Cf :=
 some (Cf.mk [1] 0 1 1 4)
theorem Ia {r_ : Cf} (hr : DO = some r_) : aw Tryz.prog 45 [] [kz r_] := by
 refine zh Tryz.func45 Z Z Z Z ?_;unfold DO at hr;refine zQ<|zR<|yS Z (ze Z IP Z Z)<|zN<|zT<|zQ<|zR<|yS Z (nb Z fO Z Z Z Z Z)<|yS Z (ab.build Z HX Z Z Z)<|yS Z (zs Z Z Z Z bY Z Z Z Z)<|zN<|zT<|zr ?_;obtain rfl := zJ hr;exact zf (.one (.cellAgg Z Z (by kernel_rfl) Z)) zv
open Go.Proofs
structure d5 where
 t12 : Int
 out : List Bk
def j9 (c : Cf) (l : List Bk) (x1 : d5) : Option (d5 ⊕ d5) :=
 bif decide (x1.t12 < (l.length : Int)) then
  (ix l x1.t12).bind fun y1 =>
  (Fh c y1).bind fun v2 =>
  bif v2 then
   bif ci x1.out.length [y1].length 40 then
    some (.inl (d5.mk (IntKind.i64.wrap (x1.t12 + 1)) (x1.out ++ [y1])))
   else none
  else
   some (.inl (d5.mk (IntKind.i64.wrap (x1.t12 + 1)) x1.out))
 else
  some (.inr (d5.mk x1.t12 x1.out))
def wO (c : Cf) (l : List Bk) : Option (List Bk) :=
 (iter (j9 c l) bE (d5.mk 0 ([] : List Bk))).bind fun v1 =>
 some v1.out
theorem Dd {c : Cf} {l : List Bk} {r_ : List Bk} (hr : wO c l = some r_) : LC Tryz.prog 132 [.p (kz c), (kB l), .fn 133 [] []] [] (Is (jB 0 r_) [.vec 5 (r_.map ax)]) := by
 refine dq Tryz.func132 Z Z Z ?_;unfold wO at hr;refine zQ<|zR<|yS Z (bT Z Z Z Z Z)<|zM Z<|zN<|zT<|zQ<|zR<|zM Z<|zN<|zT<|zQ<|zQ<|zR<|zM Z<|yS Z (cB Z Z (by kernel_rfl))<|zM Z<|zN<|zT<|LW.ent (bK.lazy (t := 7) (m := 5) Z Z Z) ?_;obtain ⟨v1, hb_v1, ho_v1⟩ := zB hr;clear hr;refine LW.tail (E := [(6, .zs), (7, (jB 1 v1.out))]) (O := [.box (bN c), .vec 5 (v1.out.map ax)]) ?_<|fun env_v1 H_v1 hw_v1 => ?_
 ·refine LW.block ?_;refine LW.iterB (E := fun x1 : d5 => [(2, .fn 133 [] []), (3, .ptr 0 0), (6, .zs), (7, (jB 1 x1.out)), (10, (kB l)), (11, .p (.int .i64 (l.length : Int))), (12, (iQ x1.t12))]) (O := fun x1 => [.box (bN c), .vec 5 (x1.out.map ax)]) hb_v1 (zW 2 ⟨rfl, rfl, rfl, rfl, rfl, rfl, rfl, trivial⟩ Z Z Z Z)<|fun x1 z_x1 hr hb_x1 => ?_;unfold j9 at hr;refine zQ<|zR<|yS Z (ay Z Z Z Z)<|zN<|zT<|zQ ?_;refine zX Z (fun g1 => ?_)<|fun g1 => ?_
  ·
   refine zi g1 hr fun hr => zk<|zT<|zQ<|zl<|zQ<|zR<|zb hr fun y1 h_y1 hr => yS Z (zx Z Z Z dI h_y1 Z)<|yS Z (cR Z Z Z ce Z Z)<|yS Z (ze Z ui Z Z)<|yS Z (zs Z Z Z Z ce Z Z Z Z)<|zN<|zT<|zQ<|zR<|zM Z<|yS Z (zD Z Z Z bY Z Z)<|yS Z (zD Z Z Z ce Z Z)<|zb hr fun v2 h_v2 hr => yS Z (zC Z Z Z (by kernel_rfl) (zp (I9 h_v2) (.cons zv (.cons zv .nil))))<|zN<|zT ?_;refine zX Z (fun g2 => ?_)<|fun g2 => ?_
   ·
    refine zi g2 hr fun hr => zR<|zM Z<|yS Z (zD Z Z Z ce Z Z)<|yS Z (nb Z dI Z Z Z Z Z)<|zg hr fun q1 hr => yS Z (ab.appendX ax x1.out [y1] rfl Z Z Z kx.p Z dI q1 Z)<|zM Z<|zN<|ai<|zT<|zR<|yS Z (ay Z Z Z Z)<|zM Z<|zN<|zT ?_;obtain rfl := zJ hr;exact ⟨_, rfl, zW 2 ⟨rfl, rfl, rfl, rfl, rfl, rfl, rfl, trivial⟩ Z Z Z rfl⟩
   ·
    refine zo g2 hr fun hr => zk<|ai<|zT<|zR<|yS Z (ay Z Z Z Z)<|zM Z<|zN<|zT ?_;obtain rfl := zJ hr;exact ⟨_, rfl, zW 2 ⟨rfl, rfl, rfl, rfl, rfl, rfl, rfl, trivial⟩ Z Z Z rfl⟩
  ·
   refine zo g1 hr fun hr => zq<|ao<|ao<|zy<|zT ?_;obtain rfl := zJ hr;have hr := congrArg some (hb_x1 _ rfl);obtain rfl := zJ hr;exact zW 2 ⟨Z, Z, trivial⟩ Z Z Z Z
 ·have hr := ho_v1;clear hb_v1;refine zT<|LW.weak hw_v1<|zQ<|LW.ent (bK.last (t := 7) (j := 0) (Hj := []) Z Z Z Z Z Z Z)<|zR<|zM Z<|zM Z<|zN<|zT<|zr ?_;obtain rfl := zJ hr;exact ap (.one (.tmp Z))<|⟨rfl, rfl⟩
structure d6 where
 t12 : Int
 out : List Vt
def ka (c : Cf) (l : List Vt) (x1 : d6) : Option (d6 ⊕ d6) :=
 bif decide (x1.t12 < (l.length : Int)) then
  (ix l x1.t12).bind fun y1 =>
  (Fi c y1).bind fun v2 =>
  bif v2 then
   bif ci x1.out.length [y1].length 32 then
    some (.inl (d6.mk (IntKind.i64.wrap (x1.t12 + 1)) (x1.out ++ [y1])))
   else none
  else
   some (.inl (d6.mk (IntKind.i64.wrap (x1.t12 + 1)) x1.out))
 else
  some (.inr (d6.mk x1.t12 x1.out))
def wP (c : Cf) (l : List Vt) : Option (List Vt) :=
 (iter (ka c l) bE (d6.mk 0 ([] : List Vt))).bind fun v1 =>
 some v1.out
theorem De {c : Cf} {l : List Vt} {r_ : List Vt} (hr : wP c l = some r_) : LC Tryz.prog 134 [.p (kz c), (kV l), .fn 135 [] []] [] (Is (jV 0 r_) [.vec 4 (r_.map aD)]) := by
 refine dq Tryz.func134 Z Z Z ?_;unfold wP at hr;refine zQ<|zR<|yS Z (bT Z Z Z Z Z)<|zM Z<|zN<|zT<|zQ<|zR<|zM Z<|zN<|zT<|zQ<|zQ<|zR<|zM Z<|yS Z (cB Z Z (by kernel_rfl))<|zM Z<|zN<|zT<|LW.ent (bK.lazy (t := 7) (m := 4) Z Z Z) ?_;obtain ⟨v1, hb_v1, ho_v1⟩ := zB hr;clear hr;refine LW.tail (E := [(6, .zs), (7, (jV 1 v1.out))]) (O := [.box (bN c), .vec 4 (v1.out.map aD)]) ?_<|fun env_v1 H_v1 hw_v1 => ?_
 ·refine LW.block ?_;refine LW.iterB (E := fun x1 : d6 => [(2, .fn 135 [] []), (3, .ptr 0 0), (6, .zs), (7, (jV 1 x1.out)), (10, (kV l)), (11, .p (.int .i64 (l.length : Int))), (12, (iQ x1.t12))]) (O := fun x1 => [.box (bN c), .vec 4 (x1.out.map aD)]) hb_v1 (zW 2 ⟨rfl, rfl, rfl, rfl, rfl, rfl, rfl, trivial⟩ Z Z Z Z)<|fun x1 z_x1 hr hb_x1 => ?_;unfold ka at hr;refine zQ<|zR<|yS Z (ay Z Z Z Z)<|zN<|zT<|zQ ?_;refine zX Z (fun g1 => ?_)<|fun g1 => ?_
  ·
   refine zi g1 hr fun hr => zk<|zT<|zQ<|zl<|zQ<|zR<|zb hr fun y1 h_y1 hr => yS Z (zx Z Z Z cX h_y1 Z)<|yS Z (cR Z Z Z ch Z Z)<|yS Z (ze Z rL Z Z)<|yS Z (zs Z Z Z Z ch Z Z Z Z)<|zN<|zT<|zQ<|zR<|zM Z<|yS Z (zD Z Z Z bY Z Z)<|yS Z (zD Z Z Z ch Z Z)<|zb hr fun v2 h_v2 hr => yS Z (zC Z Z Z (by kernel_rfl) (zp (Ja h_v2) (.cons zv (.cons zv .nil))))<|zN<|zT ?_;refine zX Z (fun g2 => ?_)<|fun g2 => ?_
   ·
    refine zi g2 hr fun hr => zR<|zM Z<|yS Z (zD Z Z Z ch Z Z)<|yS Z (nb Z cX Z Z Z Z Z)<|zg hr fun q1 hr => yS Z (ab.appendX aD x1.out [y1] rfl Z Z Z kx.p Z cX q1 Z)<|zM Z<|zN<|ai<|zT<|zR<|yS Z (ay Z Z Z Z)<|zM Z<|zN<|zT ?_;obtain rfl := zJ hr;exact ⟨_, rfl, zW 2 ⟨rfl, rfl, rfl, rfl, rfl, rfl, rfl, trivial⟩ Z Z Z rfl⟩
   ·
    refine zo g2 hr fun hr => zk<|ai<|zT<|zR<|yS Z (ay Z Z Z Z)<|zM Z<|zN<|zT ?_;obtain rfl := zJ hr;exact ⟨_, rfl, zW 2 ⟨rfl, rfl, rfl, rfl, rfl, rfl, rfl, trivial⟩ Z Z Z rfl⟩
  ·
   refine zo g1 hr fun hr => zq<|ao<|ao<|zy<|zT ?_;obtain rfl := zJ hr;have hr := congrArg some (hb_x1 _ rfl);obtain rfl := zJ hr;exact zW 2 ⟨Z, Z, trivial⟩ Z Z Z Z
 ·have hr := ho_v1;clear hb_v1;refine zT<|LW.weak hw_v1<|zQ<|LW.ent (bK.last (t := 7) (j := 0) (Hj := []) Z Z Z Z Z Z Z)<|zR<|zM Z<|zM Z<|zN<|zT<|zr ?_;obtain rfl := zJ hr;exact ap (.one (.tmp Z))<|⟨rfl, rfl⟩
def E2 (c : Cf) (v_in : Vw) : Option Vw :=
 (wO c v_in.B).bind fun v1 =>
 (wP c v_in.V).bind fun v2 =>
 some (Vw.mk v1 v2)
theorem IU {c : Cf} {v_in : Vw} {r_ : Vw} (hr : E2 c v_in = some r_) : aw Tryz.prog 97 [kz c, kQ v_in] [kQ r_] := by
 refine zh Tryz.func97 Z Z Z Z ?_;unfold E2 at hr;refine zQ<|zR<|yS Z (bT Z Z Z Z Z)<|yS Z (bT Z Z Z Z Z)<|yS Z (ze Z iO Z Z)<|zN<|zT<|zQ<|LW.ent (bK.slot Z)<|LW.ent (bK.slot Z)<|LW.drawW (by kernel_rfl) (by kernel_rfl)<|yF Z (zd Z Z Z bY Z Z) Z ?_;refine yF (F := []) (s := none) Z (fun H _ => zA Z Z br) Z ?_;refine yF Z (zd Z Z Z dp Z Z) Z<|zb hr fun v1 h_v1 hr => ?_;refine yF Z (bF.callV (id := 3) (qs := [.p (kz c), (kB v_in.B), .fn 133 [] []]) Z Z Z (by kernel_rfl) (Dd h_v1) (fun H => (.consC zv (.consC zv (.consF .nil)))) Z) Z ?_;refine yF Z (zd Z Z Z bY Z Z) Z ?_;refine yF (F := []) (s := none) Z (fun H _ => zA Z Z bD) Z ?_;refine yF Z (zd Z Z Z dM Z Z) Z<|zb hr fun v2 h_v2 hr => ?_;refine yF Z (bF.callV (id := 4) (qs := [.p (kz c), (kV v_in.V), .fn 135 [] []]) Z Z Z (by kernel_rfl) (De h_v2) (fun H => (.consC zv (.consC zv (.consF .nil)))) Z) Z ?_;refine yF (F := []) (s := none) Z (fun H _ => ab.build Z oH Z Z Z) Z ?_;refine yF Z (zt Z Z Z Z aJ Z Z Z) Z ?_;refine LF.nil ⟨by kernel_rfl, ?_⟩;refine zT<|zr ?_;obtain rfl := zJ hr;exact zf (.one (.cellAgg Z Z (by kernel_rfl) Z))<|(Conv.agg (.cons (Conv.vecAll Z Z Z) (.cons (Conv.vecAll Z Z Z) .nil)))
def y0 (c : Cf) (inp : Vw) : Option (List Bk × List Vt) :=
 (wO c inp.B).bind fun v1 =>
 (wP c inp.V).bind fun v2 =>
 some (v1, v2)
theorem Gq {c : Cf} {inp : Vw} {r_ : List Bk × List Vt} (hr : y0 c inp = some r_) : LC Tryz.prog 97 [.p (kz c), .p (kQ inp)] [] (Is (.agg [(jB 3 r_.1), (jV 4 r_.2)]) [.box (bN c), .box (dr inp), .box [(jB 3 r_.1), (jV 4 r_.2)], .vec 5 (r_.1.map ax), .vec 4 (r_.2.map aD)]) := by
 refine dq Tryz.func97 Z Z Z ?_;unfold y0 at hr;refine zQ<|zR<|yS Z (bT Z Z Z Z Z)<|yS Z (bT Z Z Z Z Z)<|yS Z (ze Z iO Z Z)<|zN<|zT<|zQ<|LW.ent (bK.slot Z)<|LW.ent (bK.slot Z)<|LW.drawW (by kernel_rfl) (by kernel_rfl)<|yF Z (zd Z Z Z bY Z Z) Z ?_;refine yF (F := []) (s := none) Z (fun H _ => zA Z Z br) Z ?_;refine yF Z (zd Z Z Z dp Z Z) Z<|zb hr fun v1 h_v1 hr => ?_;refine yF Z (bF.callV (id := 3) (qs := [.p (kz c), (kB inp.B), .fn 133 [] []]) Z Z Z (by kernel_rfl) (Dd h_v1) (fun H => (.consC zv (.consC zv (.consF .nil)))) Z) Z ?_;refine yF Z (zd Z Z Z bY Z Z) Z ?_;refine yF (F := []) (s := none) Z (fun H _ => zA Z Z bD) Z ?_;refine yF Z (zd Z Z Z dM Z Z) Z<|zb hr fun v2 h_v2 hr => ?_;refine yF Z (bF.callV (id := 4) (qs := [.p (kz c), (kV inp.V), .fn 135 [] []]) Z Z Z (by kernel_rfl) (De h_v2) (fun H => (.consC zv (.consC zv (.consF .nil)))) Z) Z ?_;refine yF (F := []) (s := none) Z (fun H _ => ab.build Z oH Z Z Z) Z ?_;refine yF Z (zt Z Z Z Z aJ Z Z Z) Z ?_;refine LF.nil ⟨by kernel_rfl, ?_⟩;refine zT<|zr ?_;obtain rfl := zJ hr;exact ap (.one (.cellAgg Z Z (by kernel_rfl) Z))<|⟨rfl, rfl⟩
structure eD where
 t27 : Int
 o3 : List (ID × Int)
structure eE where
 t43 : Int
 o4 : List (Vt × Bool)
def kd (w : Vw) (x1 : eD) : Option (eD ⊕ eD) :=
 bif decide (x1.t27 < (w.B.length : Int)) then
  (ix w.B x1.t27).bind fun y1 =>
  some (.inl (eD.mk (IntKind.i64.wrap (x1.t27 + 1)) (aV x1.o3 (nm y1) y1.Slot)))
 else
  some (.inr (eD.mk x1.t27 x1.o3))
def ke (w : Vw) (x2 : eE) : Option (eE ⊕ eE) :=
 bif decide (x2.t43 < (w.V.length : Int)) then
  (ix w.V x2.t43).bind fun y2 =>
  some (.inl (eE.mk (IntKind.i64.wrap (x2.t43 + 1)) (aV x2.o4 y2 true)))
 else
  some (.inr (eE.mk x2.t43 x2.o4))
def wQ (w : Vw) (_ : Int) : Option (List (ID × Int) × List (Vt × Bool)) :=
 bif ci 0 w.B.length 40 then
  bif ci 0 w.V.length 32 then
   (iter (kd w) bE (eD.mk 0 (aV [] (0, 0) 0))).bind fun v1 =>
   (iter (ke w) bE (eE.mk 0 ([] : List (Vt × Bool)))).bind fun v2 =>
   some (v1.o3, v2.o4)
  else none
 else none
theorem Df {w : Vw} {upto : Int} {r_ : List (ID × Int) × List (Vt × Bool)} (hr : wQ w upto = some r_) : LC Tryz.prog 177 [.p (kQ w), (iQ upto)] [] (Is (.ptr 5 0) [.box (dr w), .vec 5 (w.B.map ax), .vec 4 (w.V.map aD), (mQ r_.1), (mR r_.2), .box [(jB 1 w.B), (jV 2 w.V), .map 3, .map 4, (iQ upto), (bQ false)]]) := by
 refine dq Tryz.func177 Z Z Z ?_;unfold wQ at hr;refine zQ<|zR<|yS Z (bT Z Z Z Z Z)<|zM Z<|zN<|zT<|zQ<|LW.ent (bK.slot Z)<|LW.ent (bK.slot Z)<|LW.ent (bK.slot Z)<|LW.ent (bK.slot Z)<|LW.ent (bK.slot Z)<|LW.drawW (by kernel_rfl) (by kernel_rfl) ?_;refine yF (F := []) (s := none) Z (fun H _ => zA Z Z br) Z ?_;refine yF Z (zd Z Z Z dp Z Z) Z<|zg hr fun q1 hr => ?_;refine yF Z (bF.callV (id := 1) (qs := [(kB w.B)]) Z Z Z (by kernel_rfl) (sO q1) (fun H => (.consC zv .nil)) Z) Z ?_;refine yF (F := []) (s := none) Z (fun H _ => zA Z Z bD) Z ?_;refine yF Z (zd Z Z Z dM Z Z) Z<|zg hr fun q2 hr => ?_;refine yF Z (bF.callV (id := 2) (qs := [(kV w.V)]) Z Z Z (by kernel_rfl) (sP q2) (fun H => (.consC zv .nil)) Z) Z ?_;refine yF (F := []) (s := none) Z (fun H _ => ab.build Z oH Z Z Z) Z ?_;refine yF Z (bF.makeMap Z (id := 3) Z) Z ?_;refine yF (F := []) (s := none) Z (fun H _ => ab.build Z xf Z Z Z) Z ?_;refine yF Z (bF.setX (f := cr) (g := (fun v => (iQ v))) (m := ([] : List (ID × Int))) (0, 0) 0 dX (.inr Z) Z Z Z Z Z jz) Z ?_;refine zK Z<|yF Z (bF.makeMap Z (id := 4) Z) Z<|zK Z ?_;refine yF (F := []) (s := none) Z (fun H _ => ab.build Z Ft Z Z Z) Z ?_;refine yF Z (bF.box Z Z Z (id := 5) Z) Z<|zK Z ?_;refine LF.nil ⟨by kernel_rfl, ?_⟩;refine zT<|zQ<|zQ<|zR<|yS Z (zA Z Z br)<|yS Z (zD Z Z Z dp Z Z)<|yS Z (cB Z Z (by kernel_rfl))<|zM Z<|zN<|zT ?_;obtain ⟨v1, hb_v1, ho_v1⟩ := zB hr;clear hr;refine LW.tail (E := [(2, .ptr 0 0), (5, .ptr 5 0)]) (O := [.box (dr w), .vec 5 (w.B.map ax), .vec 4 (w.V.map aD), (mQ v1.o3), .map (ah aD (fun v => (bQ v)) []), .box [(jB 1 w.B), (jV 2 w.V), .map 3, .map 4, (iQ upto), (bQ false)]]) ?_<|fun env_v1 H_v1 hw_v1 => ?_
 ·refine LW.block ?_;refine LW.iterB (E := fun x1 : eD => [(2, .ptr 0 0), (5, .ptr 5 0), (25, (kB w.B)), (26, .p (.int .i64 (w.B.length : Int))), (27, (iQ x1.t27))]) (O := fun x1 => [.box (dr w), .vec 5 (w.B.map ax), .vec 4 (w.V.map aD), (mQ x1.o3), .map (ah aD (fun v => (bQ v)) []), .box [(jB 1 w.B), (jV 2 w.V), .map 3, .map 4, (iQ upto), (bQ false)]]) hb_v1 (zW 6 ⟨rfl, rfl, rfl, rfl, rfl, trivial⟩ Z Z Z (zL Z (zL Z (zL Z (zL (ae (fun _ => rfl) _) (zL (ae (fun _ => rfl) _) (zL Z Z)))))))<|fun x1 z_x1 hr hb_x1 => ?_;unfold kd at hr;refine zQ<|zR<|yS Z (ay Z Z Z Z)<|zN<|zT<|zQ ?_;refine zX Z (fun g1 => ?_)<|fun g1 => ?_
  ·
   refine zi g1 hr fun hr => zk<|zT<|zQ<|zl<|zQ<|zR<|zb hr fun y1 h_y1 hr => yS Z (zx Z Z Z dI h_y1 Z)<|yS Z (cR Z Z Z ce Z Z)<|yS Z (ze Z ui Z Z)<|yS Z (zs Z Z Z Z ce Z Z Z Z)<|zN<|zT<|LW.drawLast (m := 8) (by kernel_rfl) (by kernel_rfl) (by kernel_rfl)<|zH Z<|yE Z (zn Z Z)<|yE Z (zA Z Z kC)<|yE Z (zD Z Z Z xZ Z Z)<|yE Z (zD Z Z Z ce Z Z)<|yE Z (zC Z Z Z (by kernel_rfl) (zp (E7 (b := y1)) (.cons zv .nil)))<|yE Z (zA Z Z jQ)<|yE Z (zD Z Z Z a7 Z Z)<|LO.nil ?_;refine yS Z (ab.setX (f := cr) (g := (fun v => (iQ v))) (nm y1) y1.Slot dX (.inl Z) Z Z Z Z Z jz Z) ?_;refine zN<|ai<|zT<|zR<|yS Z (ay Z Z Z Z)<|zM Z<|zN<|zT ?_;obtain rfl := zJ hr;exact ⟨_, rfl, zW 6 ⟨rfl, rfl, rfl, rfl, rfl, trivial⟩ Z Z Z (zL Z (zL Z (zL Z (zL (ae (fun _ => rfl) _) (zL (ae (fun _ => rfl) _) (zL Z Z))))))⟩
  ·
   refine zo g1 hr fun hr => zq<|ao<|ao<|zy<|zT ?_;obtain rfl := zJ hr;have hr := congrArg some (hb_x1 _ rfl);obtain rfl := zJ hr;exact zW 6 ⟨Z, Z, trivial⟩ Z Z Z<|zL Z<|zL Z<|zL Z<|zL (ae (fun _ => rfl) _)<|zL (ae (fun _ => rfl) _)<|zL Z Z
 ·have hr := ho_v1;clear hb_v1;refine zT<|LW.weak hw_v1<|zQ<|zQ<|zR<|yS Z (zA Z Z bD)<|yS Z (zD Z Z Z dM Z Z)<|yS Z (cB Z Z (by kernel_rfl))<|zM Z<|zN<|zT ?_;obtain ⟨v2, hb_v2, ho_v2⟩ := zB hr;clear hr;refine LW.tail (E := [(5, .ptr 5 0)]) (O := [.box (dr w), .vec 5 (w.B.map ax), .vec 4 (w.V.map aD), (mQ v1.o3), (mR v2.o4), .box [(jB 1 w.B), (jV 2 w.V), .map 3, .map 4, (iQ upto), (bQ false)]]) ?_<|fun env_v2 H_v2 hw_v2 => ?_
  ·refine LW.block ?_;refine LW.iterB (E := fun x2 : eE => [(5, .ptr 5 0), (41, (kV w.V)), (42, .p (.int .i64 (w.V.length : Int))), (43, (iQ x2.t43))]) (O := fun x2 => [.box (dr w), .vec 5 (w.B.map ax), .vec 4 (w.V.map aD), (mQ v1.o3), (mR x2.o4), .box [(jB 1 w.B), (jV 2 w.V), .map 3, .map 4, (iQ upto), (bQ false)]]) hb_v2 (zW 6 ⟨rfl, rfl, rfl, rfl, trivial⟩ Z Z Z (zL Z (zL Z (zL Z (zL (ae (fun _ => rfl) _) (zL (ae (fun _ => rfl) _) (zL Z Z)))))))<|fun x2 z_x2 hr hb_x2 => ?_;unfold ke at hr;refine zQ<|zR<|yS Z (ay Z Z Z Z)<|zN<|zT<|zQ ?_;refine zX Z (fun g2 => ?_)<|fun g2 => ?_
   ·
    refine zi g2 hr fun hr => zk<|zT<|zQ<|zl<|zQ<|zR<|zb hr fun y2 h_y2 hr => yS Z (zx Z Z Z cX h_y2 Z)<|yS Z (cR Z Z Z ch Z Z)<|yS Z (ze Z rL Z Z)<|yS Z (zs Z Z Z Z ch Z Z Z Z)<|zN<|zT<|LW.drawLast (m := 5) (by kernel_rfl) (by kernel_rfl) (by kernel_rfl)<|zH Z<|yE Z (zn Z Z)<|yE Z (zA Z Z nR)<|yE Z (zD Z Z Z wH Z Z)<|yE Z (zD Z Z Z ch Z Z)<|LO.nil ?_;refine yS Z (ab.setX (f := aD) (g := (fun v => (bQ v))) y2 true wI (.inl Z) Z Z Z Z Z AX Z) ?_;refine zN<|ai<|zT<|zR<|yS Z (ay Z Z Z Z)<|zM Z<|zN<|zT ?_;obtain rfl := zJ hr;exact ⟨_, rfl, zW 6 ⟨rfl, rfl, rfl, rfl, trivial⟩ Z Z Z (zL Z (zL Z (zL Z (zL (ae (fun _ => rfl) _) (zL (ae (fun _ => rfl) _) (zL Z Z))))))⟩
   ·
    refine zo g2 hr fun hr => zq<|ao<|ao<|zy<|zT ?_;obtain rfl := zJ hr;have hr := congrArg some (hb_x2 _ rfl);obtain rfl := zJ hr;exact zW 6 ⟨Z, trivial⟩ Z Z Z<|zL Z<|zL Z<|zL Z<|zL (ae (fun _ => rfl) _)<|zL (ae (fun _ => rfl) _)<|zL Z Z
  ·have hr := ho_v2;clear hb_v2;refine zT<|LW.weak hw_v2<|zQ<|zR<|zM Z<|zM Z<|zN<|zT<|zr ?_;obtain rfl := zJ hr;exact ap (.one (.tmp Z))<|⟨rfl, rfl⟩
theorem wg {α : Type} {f : α → PV} {d : Nat} (m : List (α × Int)) : ((ah f (fun v => (iQ v)) m).map fun e => (e.1, LV.shift d e.2)) = ah f (fun v => (iQ v)) m := At (fun _ => rfl) m
theorem we {α : Type} {f : α → PV} {d : Nat} (m : List (α × Bool)) : ((ah f (fun v => (bQ v)) m).map fun e => (e.1, LV.shift d e.2)) = ah f (fun v => (bQ v)) m := At (fun _ => rfl) m
end Go.Mg
