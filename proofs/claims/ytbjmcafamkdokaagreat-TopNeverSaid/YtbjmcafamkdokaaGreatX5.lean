/- shuffle.At, Back, Perm. References of trees and cursors. Duties: what stands alone. duty.those: a closure. Sums of weights, and lists, over closures. Committees over closures. marigoldref04. Duties: the reference, the proposer. duty.Total, Weight, Committee, In. Weights of blocks, heads: what stands alone, and the reference. Weights of blocks; the head. Views: clones, and what stands alone. Views: what may be at all; a view that grows, begun. Conditions: none. -/
import Derived.Test.YtbjmcafamkdokaaGreatX3
import Derived.Test.YtbjmcafamkdokaaGreatX4
import Derived.Test.YtbjmcafamkdokaaGreatX2
set_option maxRecDepth 100000
set_option linter.unusedSimpArgs false
set_option linter.unusedVariables false
namespace Go.Mg
open Go.Proofs
def LH : Dk := ⟨fun _ => false, 0⟩
structure jt where
 i : Int
 t6 : Int
 d : Dk
def pz (seed : Int) (n : Int) (x1 : jt) : Option (jt ⊕ jt) :=
 bif decide (x1.t6 < 10) then
  bif rv n x1.t6 then
   some (.inl (jt.mk (ru seed n x1.t6 x1.i) (IntKind.i64.wrap (x1.t6 + 1)) (x1.d.turned x1.t6)))
  else none
 else
  some (.inr (jt.mk x1.i x1.t6 x1.d))
def Bz (seed : Int) (n : Int) (i : Int) (d : Dk) : Option (Int × Dk) :=
 (iter (pz seed n) bG (jt.mk i 0 d)).bind fun v1 =>
 some (v1.i, v1.d)
theorem Jp {seed : Int} {n : Int} {i : Int} {d : Dk} {r_ : Int × Dk} (hr : Bz seed n i d = some r_) : LC Tryz.prog 142 [.ptr 0 0, (iQ i)] [.box (iw seed n d)] (Is (iQ r_.1) [.box (iw seed n r_.2)]) := by
 refine dp Tryz.func142 Z Z Z ?_;unfold Bz at hr;refine zQ (zR (zM Z (zN (zT (zQ (zQ (zR (zM Z (zN (zT ?_))))))))));obtain ⟨v1, hb_v1, ho_v1⟩ := zB hr;clear hr;refine LW.tail (E := [(1, (iQ v1.i)), (4, (iQ 0))]) (O := [.box (iw seed n v1.d)]) ?_ (fun env_v1 H_v1 hw_v1 => ?_)
 ·refine LW.block ?_;refine LW.iterB (E := fun x1 : jt => [(0, .ptr 0 0), (1, (iQ x1.i)), (4, (iQ 0)), (6, (iQ x1.t6))]) (O := fun x1 => [.box (iw seed n x1.d)]) hb_v1 (zW 1 ⟨rfl, rfl, rfl, rfl, trivial⟩ Z Z Z Z) (fun x1 z_x1 hr hb_x1 => ?_);unfold pz at hr;refine zQ (zR (yS Z (ax Z Z Z Z) (zN (zT (zQ ?_)))));refine zX Z (fun g1 => ?_) (fun g1 => ?_)
  ·
   refine zi g1 hr fun hr => zk (zT (zQ (zl (zQ (zR (zM Z (zM Z (zN (zT (zR (zM Z (zM Z (zM Z (zg hr fun q1 hr => yS Z (zC Z Z Z (by kernel_rfl) (Ld q1)) (zM Z (zN (ai (zT (zR (yS Z (ax Z Z Z Z) (zM Z ?_)))))))))))))))))))));refine zN (zT ?_);obtain rfl := zJ hr;exact ⟨_, rfl, zW 1 ⟨rfl, rfl, rfl, rfl, trivial⟩ Z Z Z rfl⟩
  ·
   refine zo g1 hr fun hr => zq (ap (ap (zy (zT ?_))));obtain rfl := zJ hr;have hr := congrArg some (hb_x1 _ rfl);obtain rfl := zJ hr;exact zW 1 ⟨Z, Z, trivial⟩ Z Z Z Z
 ·have hr := ho_v1;clear hb_v1;refine zT (LW.weak hw_v1 (zQ (zR (zM Z (zM Z (zN (zT (zr ?_))))))));obtain rfl := zJ hr;exact aq (.one (.tmp Z)) (⟨rfl, rfl⟩)
def Bu (n : Int) (i : Int) : Option Bool :=
 bif decide (n > 0) then
  bif decide (n ≤ 1000) then
   bif decide (i ≥ 0) then
    some (decide (i < n))
   else
    some false
  else
   some false
 else
  some false
theorem Lc {n : Int} {i : Int} {r_ : Bool} (hr : Bu n i = some r_) : aw Tryz.prog 141 [.int .i64 n, .int .i64 i] [.bool r_] := by
 refine zh Tryz.func141 Z Z Z Z ?_;unfold Bu at hr;refine zQ (zR (zM Z (zN (zT (zQ (zR (zM Z (yS Z (ax Z Z Z Z) (zM Z ?_)))))))));refine zc 7 Z (fun g1 => ?_) (fun g1 => ?_)
 ·
  refine zi g1 hr fun hr => yV Z (gd g1 Z) (zm Z Z) (yV Z (gd g1 Z) (ax Z Z Z Z) (yS Z (eF Z (bM g1 Z) Z) (zM Z ?_)));refine zc 11 Z (fun g2 => ?_) (fun g2 => ?_)
  ·
   refine zi g2 hr fun hr => yV Z (gd g2 Z) (zm Z Z) (yV Z (gd g2 Z) (ax Z Z Z Z) (yS Z (eF Z (bM g2 Z) Z) (zM Z ?_)));refine zc 15 Z (fun g3 => ?_) (fun g3 => ?_)
   ·
    refine zi g3 hr fun hr => yV Z (gd g3 Z) (zm Z Z) (yV Z (gd g3 Z) (zm Z Z) (yV Z (gd g3 Z) (ax Z Z Z Z) (yS Z (eF Z (bM g3 Z) Z) (zM Z (zN (zT (zr ?_)))))));obtain rfl := zJ hr;exact zf (.one (.tmp Z)) zv
   ·
    refine zo g3 hr fun hr => yU Z (gd g3 Z) Z (yU Z (gd g3 Z) Z (yU Z (gd g3 Z) Z (yS Z (df Z (bM g3 Z) Z) (zM Z (zN (zT (zr ?_)))))));obtain rfl := zJ hr;exact zf (.one (.tmp Z)) zv
  ·
   refine zo g2 hr fun hr => yU Z (gd g2 Z) Z (yU Z (gd g2 Z) Z (yS Z (df Z (bM g2 Z) Z) (zM Z (yU Z Z Z (yU Z Z Z (yU Z Z Z (yS Z (df Z Z Z) (zM Z (zN (zT (zr ?_)))))))))));obtain rfl := zJ hr;exact zf (.one (.tmp Z)) zv
 ·
  refine zo g1 hr fun hr => yU Z (gd g1 Z) Z (yU Z (gd g1 Z) Z (yS Z (df Z (bM g1 Z) Z) (zM Z (yU Z Z Z (yU Z Z Z (yS Z (df Z Z Z) (zM Z (yU Z Z Z (yU Z Z Z (yU Z Z Z (yS Z (df Z Z Z) (zM Z (zN (zT (zr ?_)))))))))))))));obtain rfl := zJ hr;exact zf (.one (.tmp Z)) zv
structure l6 where
 t19 : Int
 d : Dk
 l : List Int
def p5 (seed : Int) (n : Int) (x1 : l6) : Option (l6 ⊕ l6) :=
 bif decide (x1.t19 < ((List.replicate n.toNat (0 : Int)).length : Int)) then
  (Bz seed n x1.t19 x1.d).bind fun v3 =>
  (ix x1.l x1.t19).bind fun _ =>
  some (.inl (l6.mk (IntKind.i64.wrap (x1.t19 + 1)) v3.2 (x1.l.set x1.t19.toNat v3.1)))
 else
  some (.inr (l6.mk x1.t19 x1.d x1.l))
def Io (seed : Int) (n : Int) : Option (List Int) :=
 (Bu n 0).bind fun v1 =>
 bif !v1 then
  some []
 else
  bif AT n 8 then
   (iter (p5 seed n) bG (l6.mk 0 LH (List.replicate n.toNat (0 : Int)))).bind fun v2 =>
   bif decide (v2.d.k < n) then
    some []
   else
    some v2.l
  else none
theorem Md {seed : Int} {n : Int} {r_ : (List Int)} (hr : Io seed n = some r_) : aw Tryz.prog 103 [.int .u64 seed, .int .i64 n] [.slice 1 (r_.map aG)] := by
 refine zh Tryz.func103 Z Z Z Z ?_;unfold Io at hr;refine zQ (zR (zM Z (zN (zT (zQ (zQ (zR (zM Z (zb hr fun v1 h_v1 hr => yS Z (zC Z Z Z (by kernel_rfl) (zp (Lc h_v1) (.cons zv (.cons zv .nil)))) (yS Z (ab.not Z Z) (zN (zT ?_))))))))))));refine zX Z (fun g1 => ?_) (fun g1 => ?_)
 ·
  refine zi g1 hr fun hr => zQ (zR (zM Z (zN (zT (zr (aj ?_))))));obtain rfl := zJ hr;exact zf (.one (.tmp Z)) Conv.zs
 ·
  refine zo g1 hr fun hr => zk (zT (zQ (zR (zM Z (zM Z (yS Z (ab.build Z IB Z Z Z) (yS Z (b6 (H' := [.box (iw seed n LH)]) Z Z Z Z Z) (zM Z (zN (zT (zQ (zR (zM Z (zg hr fun q1 hr => yS Z (ab.makeSliceX aG 0 Z Z Z fX (z := .int .i64 0) (by kernel_rfl) Z q1 Z Z) (zM Z (zN (zT (zQ (zQ (zR (zM Z ?_)))))))))))))))))))));refine yS Z (ab.lenVM Z Z Z (by kernel_rfl)) (zM Z (zN (zT ?_)));obtain ⟨v2, hb_v2, ho_v2⟩ := zB hr;clear hr;refine LW.tail (E := [(1, (iQ n)), (4, .zs), (5, .ptr 0 0), (6, (jI 1 v2.l))]) (O := [.box (iw seed n v2.d), .vec 1 (v2.l.map aG)]) ?_ (fun env_v2 H_v2 hw_v2 => ?_)
  ·refine LW.block ?_;refine LW.iterB (E := fun x1 : l6 => [(1, (iQ n)), (4, .zs), (5, .ptr 0 0), (6, (jI 1 x1.l)), (18, .p (.int .i64 ((List.replicate n.toNat (0 : Int)).length : Int))), (19, (iQ x1.t19))]) (O := fun x1 => [.box (iw seed n x1.d), .vec 1 (x1.l.map aG)]) hb_v2 (zW 2 ⟨rfl, rfl, rfl, rfl, rfl, rfl, trivial⟩ Z Z Z Z) (fun x1 z_x1 hr hb_x1 => ?_);unfold p5 at hr;refine zQ (zR (yS Z (ax Z Z Z Z) (zN (zT (zQ ?_)))));refine zX Z (fun g2 => ?_) (fun g2 => ?_)
   ·
    refine zi g2 hr fun hr => zk (zT (zQ (zl (zQ (zR (zM Z (zM Z (zN (zT (zR (zM Z (zM Z (zM Z (zM Z (zb hr fun v3 h_v3 hr => yS Z (zC Z Z Z (by kernel_rfl) (LC.pre (Jp h_v3) Z Z Z)) (zb hr fun y1 h_y1 hr => yS Z (ab.indexAddrVX Z Z Z Z fX h_y1) ?_))))))))))))))));refine yS Z (ab.storeVX (f := aG) (l := x1.l) v3.1 Z Z Z Z bC (fun _ => rfl) h_y1 Z) ?_;refine zN (ai (zT (zR (yS Z (ax Z Z Z Z) (zM Z (zN (zT ?_)))))));obtain rfl := zJ hr;exact ⟨_, rfl, zW 2 ⟨rfl, rfl, rfl, (LP (rfl)), rfl, rfl, trivial⟩ Z Z Z rfl⟩
   ·
    refine zo g2 hr fun hr => zq (ap (ap (zy (zT ?_))));obtain rfl := zJ hr;have hr := congrArg some (hb_x1 _ rfl);obtain rfl := zJ hr;exact zW 2 ⟨Z, Z, Z, Z, trivial⟩ Z Z Z Z
  ·have hr := ho_v2;clear hb_v2;refine zT (LW.weak hw_v2 (zQ (zQ (zR (zM Z (yS Z (zn Z Z) (yS Z (zA Z Z tJ) (yS Z (zC Z Z Z (by kernel_rfl) (Le (off := 52) Z Z)) (zM Z (yS Z (ax Z Z Z Z) (zN (zT ?_))))))))))));refine zX Z (fun g3 => ?_) (fun g3 => ?_)
   ·
    refine zi g3 hr fun hr => zQ (zR (zM Z (zN (zT (zr (aj ?_))))));obtain rfl := zJ hr;exact zf (.one (.tmp Z)) Conv.zs
   ·
    refine zo g3 hr fun hr => zk (zT (zQ (zR (zM Z (zM Z (zN (zT (zr ?_))))))));obtain rfl := zJ hr;exact zf (.one (.tmp Z)) ((Conv.vecAll Z Z Z))
open Go.Proofs
open Go.Proofs
structure ii where
 m : Int
 i : Int
def mV (x : List Int) (x1 : ii) : Option (ii ⊕ ii) :=
 bif decide (x1.i < (x.length : Int)) then
  (ix x x1.i).bind fun y2 =>
  some (.inl (ii.mk (if y2 < x1.m then y2 else x1.m) (IntKind.i64.wrap (x1.i + 1))))
 else
  some (.inr (ii.mk x1.m x1.i))
def BF (x : List Int) : Option Int :=
 bif decide ((x.length : Int) < 1) then
  none
 else
  (ix x 0).bind fun y1 =>
  (iter (mV x) bG (ii.mk y1 1)).bind fun v1 =>
  some v1.m
theorem Lf {x : List Int} {r_ : Int} (hr : BF x = some r_) : aw Tryz.prog 78 [.slice 1 (x.map aG)] [.int .i64 r_] := by
 refine zh Tryz.func78 Z Z Z Z ?_;unfold BF at hr;refine zQ (zR (zM Z (zN (zT (zQ (zQ (zR (zM Z (yS Z (d7 Z Z (by kernel_rfl)) (yS Z (ax Z Z Z Z) (zN (zT ?_))))))))))));refine zX Z (fun g1 => ?_) (fun g1 => ?_)
 ·
  have hr := zI g1 hr;cases hr
 ·
  refine zo g1 hr fun hr => zk (zT (zQ (zR (zM Z (zb hr fun y1 h_y1 hr => yS Z (zx Z Z Z fX h_y1 Z) (yS Z (d6 Z Z Z bC Z Z) (zM Z (zN (zT (zQ (zQ (zR (zM Z (zN (zT ?_)))))))))))))));obtain ⟨v1, hb_v1, ho_v1⟩ := zB hr;clear hr;refine LW.tail (E := [(2, (iQ 0)), (3, (iQ v1.m))]) (O := []) ?_ (fun env_v1 H_v1 hw_v1 => ?_)
  ·refine LW.block ?_;refine LW.iterB (E := fun x1 : ii => [(0, (kI x)), (2, (iQ 0)), (3, (iQ x1.m)), (4, (iQ x1.i))]) (O := fun x1 => []) hb_v1 (zW 0 ⟨rfl, rfl, rfl, rfl, trivial⟩ Z Z Z Z) (fun x1 z_x1 hr hb_x1 => ?_);unfold mV at hr;refine zQ (zQ (zR (zM Z (zM Z (yS Z (d7 Z Z (by kernel_rfl)) (yS Z (ax Z Z Z Z) (zN (zT ?_))))))));refine zX Z (fun g2 => ?_) (fun g2 => ?_)
   ·
    refine zi g2 hr fun hr => zk (zT (zQ (zl (zR (zM Z (zM Z (zM Z (zb hr fun y2 h_y2 hr => yS Z (zx Z Z Z fX h_y2 Z) (yS Z (d6 Z Z Z bC Z Z) (yS Z (ab.min Z Z Z) (zM Z (zN (ai (zT (zR (zM Z (yS Z (ax Z Z Z Z) (zM Z (zN (zT ?_))))))))))))))))))));obtain rfl := zJ hr;exact ⟨_, rfl, zW 0 ⟨rfl, rfl, rfl, rfl, trivial⟩ Z Z Z rfl⟩
   ·
    refine zo g2 hr fun hr => zq (ap (ap (zy (zT ?_))));obtain rfl := zJ hr;have hr := congrArg some (hb_x1 _ rfl);obtain rfl := zJ hr;exact zW 0 ⟨Z, Z, trivial⟩ Z Z Z Z
  ·have hr := ho_v1;clear hb_v1;refine zT (LW.weak hw_v1 (zQ (zR (zM Z (zM Z (zN (zT (zr ?_))))))));obtain rfl := zJ hr;exact zf (.one (.tmp Z)) zv
structure ik where
 m : Int
 i : Int
def mW (x : List Int) (x1 : ik) : Option (ik ⊕ ik) :=
 bif decide (x1.i < (x.length : Int)) then
  (ix x x1.i).bind fun y2 =>
  some (.inl (ik.mk (if y2 > x1.m then y2 else x1.m) (IntKind.i64.wrap (x1.i + 1))))
 else
  some (.inr (ik.mk x1.m x1.i))
def BG (x : List Int) : Option Int :=
 bif decide ((x.length : Int) < 1) then
  none
 else
  (ix x 0).bind fun y1 =>
  (iter (mW x) bG (ik.mk y1 1)).bind fun v1 =>
  some v1.m
theorem Lg {x : List Int} {r_ : Int} (hr : BG x = some r_) : aw Tryz.prog 79 [.slice 1 (x.map aG)] [.int .i64 r_] := by
 refine zh Tryz.func79 Z Z Z Z ?_;unfold BG at hr;refine zQ (zR (zM Z (zN (zT (zQ (zQ (zR (zM Z (yS Z (d7 Z Z (by kernel_rfl)) (yS Z (ax Z Z Z Z) (zN (zT ?_))))))))))));refine zX Z (fun g1 => ?_) (fun g1 => ?_)
 ·
  have hr := zI g1 hr;cases hr
 ·
  refine zo g1 hr fun hr => zk (zT (zQ (zR (zM Z (zb hr fun y1 h_y1 hr => yS Z (zx Z Z Z fX h_y1 Z) (yS Z (d6 Z Z Z bC Z Z) (zM Z (zN (zT (zQ (zQ (zR (zM Z (zN (zT ?_)))))))))))))));obtain ⟨v1, hb_v1, ho_v1⟩ := zB hr;clear hr;refine LW.tail (E := [(2, (iQ 0)), (3, (iQ v1.m))]) (O := []) ?_ (fun env_v1 H_v1 hw_v1 => ?_)
  ·refine LW.block ?_;refine LW.iterB (E := fun x1 : ik => [(0, (kI x)), (2, (iQ 0)), (3, (iQ x1.m)), (4, (iQ x1.i))]) (O := fun x1 => []) hb_v1 (zW 0 ⟨rfl, rfl, rfl, rfl, trivial⟩ Z Z Z Z) (fun x1 z_x1 hr hb_x1 => ?_);unfold mW at hr;refine zQ (zQ (zR (zM Z (zM Z (yS Z (d7 Z Z (by kernel_rfl)) (yS Z (ax Z Z Z Z) (zN (zT ?_))))))));refine zX Z (fun g2 => ?_) (fun g2 => ?_)
   ·
    refine zi g2 hr fun hr => zk (zT (zQ (zl (zR (zM Z (zM Z (zM Z (zb hr fun y2 h_y2 hr => yS Z (zx Z Z Z fX h_y2 Z) (yS Z (d6 Z Z Z bC Z Z) (yS Z (ab.max Z Z Z) (zM Z (zN (ai (zT (zR (zM Z (yS Z (ax Z Z Z Z) (zM Z (zN (zT ?_))))))))))))))))))));obtain rfl := zJ hr;exact ⟨_, rfl, zW 0 ⟨rfl, rfl, rfl, rfl, trivial⟩ Z Z Z rfl⟩
   ·
    refine zo g2 hr fun hr => zq (ap (ap (zy (zT ?_))));obtain rfl := zJ hr;have hr := congrArg some (hb_x1 _ rfl);obtain rfl := zJ hr;exact zW 0 ⟨Z, Z, trivial⟩ Z Z Z Z
  ·have hr := ho_v1;clear hb_v1;refine zT (LW.weak hw_v1 (zQ (zR (zM Z (zM Z (zN (zT (zr ?_))))))));obtain rfl := zJ hr;exact zf (.one (.tmp Z)) zv
def ym (c : Cf) : Option Bool :=
 (
  bif (c.W.length : Int) == 0 then
   some true
  else
   bif decide ((c.W.length : Int) > 12) then
    some true
   else
    (BF c.W).bind fun v2 =>
    bif decide (v2 < 0) then
     some true
    else
     (BG c.W).bind fun v3 =>
     some (decide (v3 > 1099511627776))
 ).bind fun v1 =>
 bif v1 then
  some false
 else
  bif decide (c.Epoch > 0) then
   bif decide (c.Epoch ≤ 8) then
    bif decide (c.Num ≥ 0) then
     bif decide (c.Num ≤ c.Den) then
      bif decide (c.Den > 0) then
       some (decide (c.Den ≤ 1000))
      else
       some false
     else
      some false
    else
     some false
   else
    some false
  else
   some false
theorem F9 {c : Cf} {r_ : Bool} (hr : ym c = some r_) : aw Tryz.prog 47 [jC c] [.bool r_] := by
 refine zh Tryz.func47 Z Z Z Z ?_;unfold ym at hr;refine zQ (zR (yS Z (b6 Z Z Z Z Z) (zM Z (zN (zT (zQ ?_))))));obtain ⟨v1, hb_v1, ho_v1⟩ := zB hr;clear hr;refine LW.cut (E := [(1, .ptr 0 0), (2, (bQ false)), (24, (bQ v1))]) (O := [.box (bI c)]) ?_ ?_
 ·have hr := hb_v1;refine zR (yS Z (zA Z Z gO) (yS Z (zD Z Z Z fc Z Z) (yS Z (d7 Z Z (by kernel_rfl)) (yS Z (ax Z Z Z Z) (zM Z ?_)))));refine zc 7 Z (fun g1 => ?_) (fun g1 => ?_)
  ·
   refine zi g1 hr fun hr => yU Z (gd g1 Z) Z (yU Z (gd g1 Z) Z (yU Z (gd g1 Z) Z (yU Z (gd g1 Z) Z (yS Z (eF Z (bM g1 Z) Z) (zM Z (yU Z Z Z (yU Z Z Z (yU Z Z Z (yU Z Z Z (yS Z (eF Z Z Z) (zM Z (yU Z Z Z (yU Z Z Z (yU Z Z Z (yU Z Z Z (yS Z (eF Z Z Z) (zN (zT ?_))))))))))))))))));obtain rfl := zJ hr;exact zW 1 ⟨Z, Z, Z, trivial⟩ Z Z Z Z
  ·
   refine zo g1 hr fun hr => yV Z (gd g1 Z) (zA Z Z gO) (yV Z (gd g1 Z) (zD Z Z Z fc Z Z) (yV Z (gd g1 Z) (d7 Z Z (by kernel_rfl)) (yV Z (gd g1 Z) (ax Z Z Z Z) (yS Z (df Z (bM g1 Z) Z) (zM Z ?_)))));refine zc 13 Z (fun g2 => ?_) (fun g2 => ?_)
   ·
    refine zi g2 hr fun hr => yU Z (gd g2 Z) Z (yU Z (gd g2 Z) Z (yU Z (gd g2 Z) Z (yU Z (gd g2 Z) Z (yS Z (eF Z (bM g2 Z) Z) (zM Z (yU Z Z Z (yU Z Z Z (yU Z Z Z (yU Z Z Z (yS Z (eF Z Z Z) (zN (zT ?_))))))))))));obtain rfl := zJ hr;exact zW 1 ⟨Z, Z, Z, trivial⟩ Z Z Z Z
   ·
    refine zo g2 hr fun hr => yV Z (gd g2 Z) (zA Z Z gO) (yV Z (gd g2 Z) (zD Z Z Z fc Z Z) (zb hr fun v2 h_v2 hr => yV Z (gd g2 Z) (zC Z Z Z (by kernel_rfl) (zp (Lf h_v2) (.cons zv .nil))) (yV Z (gd g2 Z) (ax Z Z Z Z) (yS Z (df Z (bM g2 Z) Z) (zM Z ?_)))));refine zc 19 Z (fun g3 => ?_) (fun g3 => ?_)
    ·
     refine zi g3 hr fun hr => yU Z (gd g3 Z) Z (yU Z (gd g3 Z) Z (yU Z (gd g3 Z) Z (yU Z (gd g3 Z) Z (yS Z (eF Z (bM g3 Z) Z) (zN (zT ?_))))));obtain rfl := zJ hr;exact zW 1 ⟨Z, Z, Z, trivial⟩ Z Z Z Z
    ·
     refine zo g3 hr fun hr => yV Z (gd g3 Z) (zA Z Z gO) (yV Z (gd g3 Z) (zD Z Z Z fc Z Z) (zb hr fun v3 h_v3 hr => yV Z (gd g3 Z) (zC Z Z Z (by kernel_rfl) (zp (Lg h_v3) (.cons zv .nil))) (yV Z (gd g3 Z) (ax Z Z Z Z) (yS Z (df Z (bM g3 Z) Z) (zN (zT ?_))))));obtain rfl := zJ hr;exact zW 1 ⟨Z, Z, Z, trivial⟩ Z Z Z Z
 ·have hr := ho_v1;clear hb_v1;refine zX Z (fun g4 => ?_) (fun g4 => ?_)
  ·
   refine zi g4 hr fun hr => zQ (zR (zM Z (zN (zT (zr (aj ?_))))));obtain rfl := zJ hr;exact zf (.one (.tmp Z)) zv
  ·
   refine zo g4 hr fun hr => zk (zT (zQ (zR (yS Z (zA Z Z qM) (yS Z (zD Z Z Z bC Z Z) (yS Z (ax Z Z Z Z) (zM Z ?_)))))));refine zc 28 Z (fun g5 => ?_) (fun g5 => ?_)
   ·
    refine zi g5 hr fun hr => yV Z (gd g5 Z) (zA Z Z qM) (yV Z (gd g5 Z) (zD Z Z Z bC Z Z) (yV Z (gd g5 Z) (ax Z Z Z Z) (yS Z (eF Z (bM g5 Z) Z) (zM Z ?_))));refine zc 33 Z (fun g6 => ?_) (fun g6 => ?_)
    ·
     refine zi g6 hr fun hr => yV Z (gd g6 Z) (zA Z Z tL) (yV Z (gd g6 Z) (zD Z Z Z bC Z Z) (yV Z (gd g6 Z) (ax Z Z Z Z) (yS Z (eF Z (bM g6 Z) Z) (zM Z ?_))));refine zc 38 Z (fun g7 => ?_) (fun g7 => ?_)
     ·
      refine zi g7 hr fun hr => yV Z (gd g7 Z) (zA Z Z tL) (yV Z (gd g7 Z) (zD Z Z Z bC Z Z) (yV Z (gd g7 Z) (zA Z Z ot) (yV Z (gd g7 Z) (zD Z Z Z bC Z Z) (yV Z (gd g7 Z) (ax Z Z Z Z) (yS Z (eF Z (bM g7 Z) Z) (zM Z ?_))))));refine zc 45 Z (fun g8 => ?_) (fun g8 => ?_)
      ·
       refine zi g8 hr fun hr => yV Z (gd g8 Z) (zA Z Z ot) (yV Z (gd g8 Z) (zD Z Z Z bC Z Z) (yV Z (gd g8 Z) (ax Z Z Z Z) (yS Z (eF Z (bM g8 Z) Z) (zM Z ?_))));refine zc 50 Z (fun g9 => ?_) (fun g9 => ?_)
       ·
        refine zi g9 hr fun hr => yV Z (gd g9 Z) (zA Z Z ot) (yV Z (gd g9 Z) (zD Z Z Z bC Z Z) (yV Z (gd g9 Z) (ax Z Z Z Z) (yS Z (eF Z (bM g9 Z) Z) (zM Z (zN (zT (zr ?_)))))));obtain rfl := zJ hr;exact zf (.one (.tmp Z)) zv
       ·
        refine zo g9 hr fun hr => yU Z (gd g9 Z) Z (yU Z (gd g9 Z) Z (yU Z (gd g9 Z) Z (yS Z (df Z (bM g9 Z) Z) (zM Z (zN (zT (zr ?_)))))));obtain rfl := zJ hr;exact zf (.one (.tmp Z)) zv
      ·
       refine zo g8 hr fun hr => yU Z (gd g8 Z) Z (yU Z (gd g8 Z) Z (yU Z (gd g8 Z) Z (yS Z (df Z (bM g8 Z) Z) (zM Z (yU Z Z Z (yU Z Z Z (yU Z Z Z (yS Z (df Z Z Z) (zM Z (zN (zT (zr ?_))))))))))));obtain rfl := zJ hr;exact zf (.one (.tmp Z)) zv
     ·
      refine zo g7 hr fun hr => yU Z (gd g7 Z) Z (yU Z (gd g7 Z) Z (yU Z (gd g7 Z) Z (yU Z (gd g7 Z) Z (yU Z (gd g7 Z) Z (yS Z (df Z (bM g7 Z) Z) (zM Z (yU Z Z Z (yU Z Z Z (yU Z Z Z (yS Z (df Z Z Z) (zM Z (yU Z Z Z (yU Z Z Z (yU Z Z Z (yS Z (df Z Z Z) (zM Z (zN (zT (zr ?_)))))))))))))))))));obtain rfl := zJ hr;exact zf (.one (.tmp Z)) zv
    ·
     refine zo g6 hr fun hr => yU Z (gd g6 Z) Z (yU Z (gd g6 Z) Z (yU Z (gd g6 Z) Z (yS Z (df Z (bM g6 Z) Z) (zM Z (yU Z Z Z (yU Z Z Z (yU Z Z Z (yU Z Z Z (yU Z Z Z (yS Z (df Z Z Z) (zM Z (yU Z Z Z (yU Z Z Z (yU Z Z Z (yS Z (df Z Z Z) (zM Z (yU Z Z Z (yU Z Z Z (yU Z Z Z (yS Z (df Z Z Z) (zM Z (zN ?_))))))))))))))))))))));refine zT (zr ?_);obtain rfl := zJ hr;exact zf (.one (.tmp Z)) zv
   ·
    refine zo g5 hr fun hr => yU Z (gd g5 Z) Z (yU Z (gd g5 Z) Z (yU Z (gd g5 Z) Z (yS Z (df Z (bM g5 Z) Z) (zM Z (yU Z Z Z (yU Z Z Z (yU Z Z Z (yS Z (df Z Z Z) (zM Z (yU Z Z Z (yU Z Z Z (yU Z Z Z (yU Z Z Z (yU Z Z Z (yS Z (df Z Z Z) (zM Z (yU Z Z Z (yU Z Z Z (yU Z Z Z (yS Z (df Z Z Z) (zM Z (yU Z Z Z ?_))))))))))))))))))))));refine yU Z Z Z (yU Z Z Z (yS Z (df Z Z Z) (zM Z (zN (zT (zr ?_))))));obtain rfl := zJ hr;exact zf (.one (.tmp Z)) zv
def z6 (c : Cf) (slot : Int) : Option Bool :=
 (ym c).bind fun v1 =>
 bif v1 then
  bif decide (slot > 0) then
   some (decide (slot ≤ 1048576))
  else
   some false
 else
  some false
theorem IP {c : Cf} {slot : Int} {r_ : Bool} (hr : z6 c slot = some r_) : aw Tryz.prog 69 [jC c, .int .i64 slot] [.bool r_] := by
 refine zh Tryz.func69 Z Z Z Z ?_;unfold z6 at hr;refine zQ (zR (yS Z (b6 Z Z Z Z Z) (zM Z (zN (zT (zQ (zR (yS Z (zD Z Z Z bA Z Z) (zb hr fun v1 h_v1 hr => yS Z (zC Z Z Z (by kernel_rfl) (zp (F9 h_v1) (.cons zv .nil))) (zM Z ?_))))))))));refine zc 7 Z (fun g1 => ?_) (fun g1 => ?_)
 ·
  refine zi g1 hr fun hr => yV Z (gd g1 Z) (zm Z Z) (yV Z (gd g1 Z) (ax Z Z Z Z) (yS Z (eF Z (bM g1 Z) Z) (zM Z ?_)));refine zc 11 Z (fun g2 => ?_) (fun g2 => ?_)
  ·
   refine zi g2 hr fun hr => yV Z (gd g2 Z) (zm Z Z) (yV Z (gd g2 Z) (ax Z Z Z Z) (yS Z (eF Z (bM g2 Z) Z) (zM Z (zN (zT (zr ?_))))));obtain rfl := zJ hr;exact zf (.one (.tmp Z)) zv
  ·
   refine zo g2 hr fun hr => yU Z (gd g2 Z) Z (yU Z (gd g2 Z) Z (yS Z (df Z (bM g2 Z) Z) (zM Z (zN (zT (zr ?_))))));obtain rfl := zJ hr;exact zf (.one (.tmp Z)) zv
 ·
  refine zo g1 hr fun hr => yU Z (gd g1 Z) Z (yU Z (gd g1 Z) Z (yS Z (df Z (bM g1 Z) Z) (zM Z (yU Z Z Z (yU Z Z Z (yS Z (df Z Z Z) (zM Z (zN (zT (zr ?_))))))))));obtain rfl := zJ hr;exact zf (.one (.tmp Z)) zv
structure ju where
 t8 : Int
def lm (s : List Int) (v : Int) (x1 : ju) : Option (ju ⊕ (ju ⊕ Int)) :=
 bif decide (x1.t8 < (s.length : Int)) then
  (ix s x1.t8).bind fun y1 =>
  bif v == y1 then
   some (.inr (.inr x1.t8))
  else
   some (.inl (ju.mk (IntKind.i64.wrap (x1.t8 + 1))))
 else
  some (.inr (.inl (ju.mk x1.t8)))
def EL (s : List Int) (v : Int) : Option Int :=
 (iter (lm s v) bG (ju.mk 0)).bind fun b_v1 => Sum.elim (fun _ =>
  some (-1)) some b_v1
theorem Lp {s : List Int} {v : Int} {r_ : Int} (hr : EL s v = some r_) : aw Tryz.prog 80 [.slice 1 (s.map aG), .int .i64 v] [.int .i64 r_] := by
 refine zh Tryz.func80 Z Z Z Z ?_;unfold EL at hr;refine zQ (zR (zM Z (zN (zT (zQ (zQ (zR (zM Z (yS Z (d7 Z Z (by kernel_rfl)) (zM Z (zN (zT ?_))))))))))));obtain ⟨b_v1, hb_v1, ho_v1⟩ := zB hr;clear hr;refine LW.tailB (b := b_v1) (E := fun v1 => [(4, (iQ 0))]) (O := fun v1 => []) ?_ (fun v1 e_v1 env_v1 H_v1 hw_v1 => ?_)
 ·refine LW.block ?_;refine LW.iterB (E := fun x1 : ju => [(0, (kI s)), (1, (iQ v)), (4, (iQ 0)), (7, .p (.int .i64 (s.length : Int))), (8, (iQ x1.t8))]) (O := fun x1 => []) hb_v1 (zW 0 ⟨rfl, rfl, rfl, rfl, rfl, trivial⟩ Z Z Z Z) (fun x1 z_x1 hr hb_x1 => ?_);unfold lm at hr;refine zQ (zR (yS Z (ax Z Z Z Z) (zN (zT (zQ ?_)))));refine zX Z (fun g1 => ?_) (fun g1 => ?_)
  ·
   refine zi g1 hr fun hr => zk (zT (zQ (zl (zQ (zR (zM Z (zM Z (zN (zT (zQ (zR (zM Z (zM Z (zM Z (zb hr fun y1 h_y1 hr => yS Z (zx Z Z Z fX h_y1 Z) (yS Z (d6 Z Z Z bC Z Z) (yS Z (ax Z Z Z Z) (zN (zT ?_)))))))))))))))))));refine zX Z (fun g2 => ?_) (fun g2 => ?_)
   ·
    refine zi g2 hr fun hr => zQ (zR (zM Z (zM Z (zN (zT (zr (aA (aj (aj (aA (aj (aj ?_))))))))))));obtain rfl := zJ hr;have hr := congrArg some (hb_x1 _ rfl);obtain rfl := zJ hr;have hr := ey ho_v1;obtain rfl := zJ hr;exact zf (.one (.tmp Z)) zv
   ·
    refine zo g2 hr fun hr => zk (ai (zT (zR (yS Z (ax Z Z Z Z) (zM Z (zN (zT ?_)))))));obtain rfl := zJ hr;exact ⟨_, rfl, zW 0 ⟨rfl, rfl, rfl, rfl, rfl, trivial⟩ Z Z Z rfl⟩
  ·
   refine zo g1 hr fun hr => zq (ap (ap (zy (zT ?_))));obtain rfl := zJ hr;have hr := congrArg some (hb_x1 _ rfl);obtain rfl := zJ hr;exact ⟨_, rfl, zW 0 ⟨rfl, trivial⟩ Z Z Z rfl⟩
 ·obtain rfl := e_v1;have hr := ga ho_v1;clear hb_v1;refine zT (LW.weak hw_v1 (zQ (zR (zM Z (zN (zT (zr ?_)))))));obtain rfl := zJ hr;exact zf (.one (.tmp Z)) zv
def tk (s : List Int) (v : Int) : Option Bool :=
 (EL s v).bind fun v1 =>
 some (decide (v1 ≥ 0))
theorem CM {s : List Int} {v : Int} {r_ : Bool} (hr : tk s v = some r_) : aw Tryz.prog 48 [.slice 1 (s.map aG), .int .i64 v] [.bool r_] := by
 refine zh Tryz.func48 Z Z Z Z ?_;unfold tk at hr;refine zQ (zR (zM Z (zN (zT (zQ (zR (zM Z (zM Z (zb hr fun v1 h_v1 hr => yS Z (zC Z Z Z (by kernel_rfl) (zp (Lp h_v1) (.cons zv (.cons zv .nil)))) (yS Z (ax Z Z Z Z) (zM Z (zN (zT (zr ?_))))))))))))));obtain rfl := zJ hr;exact zf (.one (.tmp Z)) zv
structure K5 where
 i : Int
open Go.Proofs
theorem qY : ∀ H : List aa, cF H = some H.length
 | [] => rfl
 | _ :: r => by unfold cF; rw [qY r]; rfl
theorem qj : ∀ (H : List aa) (o : aa), ib H o = some (H ++ [o])
 | [], _ => rfl
 | _ :: r, o => by unfold ib; rw [qj r o]; rfl
theorem IS {c : Cf} {g : FuncId} {first caps : List LV} {H : List aa} : LC Tryz.prog 105 [.p (jC c), .fn g first caps] H (Is (.fn 145 [] [.cptr [.slice 1 (c.W.map aG), .int .u64 c.Seed, .int .i64 c.Epoch, .int .i64 c.Num, .int .i64 c.Den], .fptr (.fn g first caps)]) H) := by
 refine LC.those Tryz.func105 Z Z Z ?_;refine LW.seq (LW.region (ao.st Z Z Z (ab.box Z Z Z (qY _) (qj _ _)) (ao.st Z Z Z (ab.box Z Z Z (qY _) (qj _ _)) (ao.st Z Z Z (ab.assign Z Z) (ao.nil (bw (LW.seq (LW.region (ao.st Z Z Z (ab.makeFunc Z Z Z) (ao.st Z Z Z (ab.assign Z Z) (ao.nil (bw (LW.ret ?_)))))))))))));refine ⟨.inr rfl, by simp, ?_⟩
 have h : ∀ n : Nat, n = H.length + 1 → ∀ {e : av} {H2 : List aa}, e.get 4 = some (.fn 145 [] [.ptr H.length 0, .ptr n 0]) → di Tryz.prog e H2 Tryz.f105.results (.fn 145 [] [.ptr H.length 0, .ptr (H.length + 1) 0]) := by
  rintro n rfl e H2 he;exact .one (.tmp he)
 exact h _ (by simp) Z
open Go.Proofs
noncomputable def wL : Code := L6 Tryz.f146.body
noncomputable def wN : Code := L7 Tryz.f146.body
noncomputable def wM : Code := L6 Tryz.f144.body
noncomputable def wO : Code := L7 Tryz.f144.body
def EA (i : Int) (_ : Cf) (m : List (Int × Bool)) : Option Bool :=
 some ((af m i).getD false)
theorem Jr {i : Int} {c : Cf} {m : List (Int × Bool)} {r_ : Bool} (hr : EA i c m = some r_) : LC Tryz.prog 147 [(iQ i), .ptr 2 0] [.box (bI c), .map (ah aG (fun v => (bQ v)) m), .box [.map 1]] (Is (bQ r_) [.box (bI c), .map (ah aG (fun v => (bQ v)) m), .box [.map 1]]) := by
 refine dp Tryz.func147 Z Z Z ?_;unfold EA at hr;refine zQ (zR (zM Z (zN (zT (zQ (zR (yS Z (zD Z Z Z Eb Z Z) (zM Z ?_))))))));refine yS Z (ab.getX (f := aG) (g := (fun v => (bQ v))) i false Do Z Z Z Z Gq KI Z Z) ?_;refine zM Z (zN (zT (zr ?_)));obtain rfl := zJ hr;exact aq (.one (.tmp Z)) (⟨rfl, rfl⟩)
theorem KG {c : Cf} {m : List (Int × Bool)} {n i y : Int} {o : Oper} {env : av} {fo xo : Operand} {ats : Array TypeId} (ho : o.op = .call { callee := .value fo, args := #[xo], argTypes := ats }) (hf : aM env fo = some (.yld 6)) (hx : aM env xo = some (iQ i)) (h : ix c.W i = some y) :
  fa Tryz.prog o env [.box (bI c), .map (ah aG (fun v => (bQ v)) m), .box [.map 1], .box (bI c), .box [(iQ n)], .defd, .loop false 21 [(2, .ptr 3 0), (4, (iQ 0)), (5, .ptr 4 0), (11, .fn 145 [] [.cptr [.slice 1 (c.W.map aG), .int .u64 c.Seed, .int .i64 c.Epoch, .int .i64 c.Num, .int .i64 c.Den], .fptr (.fn 147 [] [.ptr 2 0])])] #[12] wL wN] (Is (bQ true) [.box (bI c), .map (ah aG (fun v => (bQ v)) m), .box [.map 1], .box (bI c), .box [.p (.int .i64 (IntKind.i64.wrap (n + y)))], .defd, .loop false 21 [(2, .ptr 3 0), (4, (iQ 0)), (5, .ptr 4 0), (11, .fn 145 [] [.cptr [.slice 1 (c.W.map aG), .int .u64 c.Seed, .int .i64 c.Epoch, .int .i64 c.Num, .int .i64 c.Den], .fptr (.fn 147 [] [.ptr 2 0])])] #[12] wL wN]) := by
 refine fa.yield (env2 := (6, (iQ i)) :: (12, (iQ i)) :: [(2, .ptr 3 0), (4, (iQ 0)), (5, .ptr 4 0), (11, .fn 145 [] [.cptr [.slice 1 (c.W.map aG), .int .u64 c.Seed, .int .i64 c.Epoch, .int .i64 c.Num, .int .i64 c.Den], .fptr (.fn 147 [] [.ptr 2 0])])]) (H2 := [.box (bI c), .map (ah aG (fun v => (bQ v)) m), .box [.map 1], .box (bI c), .box [.p (.int .i64 (IntKind.i64.wrap (n + y)))], .defd, .loop true 21 [(2, .ptr 3 0), (4, (iQ 0)), (5, .ptr 4 0), (11, .fn 145 [] [.cptr [.slice 1 (c.W.map aG), .int .u64 c.Seed, .int .i64 c.Epoch, .int .i64 c.Num, .int .i64 c.Den], .fptr (.fn 147 [] [.ptr 2 0])])] #[12] wL wN]) ho hf hx Z Z (by kernel_rfl) (by kernel_rfl) Z (sg.plain ?_) ?_ Z Z
 ·refine yS Z (za Z Z) ?_;exact zN ⟨rfl, rfl, rfl⟩
 ·refine sg.drawLast (m := 7) (by kernel_rfl) (by kernel_rfl) (by kernel_rfl) ?_;exact yE Z (zD Z Z Z bC Z Z) (yE Z (zA Z Z gO) (yE Z (zD Z Z Z fc Z Z) (zH Z (yE Z (zx Z Z Z fX h Z) (yE Z (d6 Z Z Z bC Z Z) (yE Z (ax Z Z Z Z) (LO.nil (yS Z (zs Z Z Z Z bC Z Z Z Z) (zN (⟨rfl, rfl⟩))))))))))
structure fF where
 t8 : Int
 o4_0 : Int
def ky (c : Cf) (m : List (Int × Bool)) (x1 : fF) : Option (fF ⊕ fF) :=
 bif decide (x1.t8 < (c.W.length : Int)) then
  (EA x1.t8 c m).bind fun v2 =>
  bif v2 then
   (ix c.W x1.t8).bind fun y1 =>
   some (.inl (fF.mk (IntKind.i64.wrap (x1.t8 + 1)) (IntKind.i64.wrap (x1.o4_0 + y1))))
  else
   some (.inl (fF.mk (IntKind.i64.wrap (x1.t8 + 1)) x1.o4_0))
 else
  some (.inr (fF.mk x1.t8 x1.o4_0))
def uE (c : Cf) (m : List (Int × Bool)) (n : Int) : Option Int :=
 (iter (ky c m) bG (fF.mk 0 n)).bind fun v1 =>
 some v1.o4_0
theorem Hi {c : Cf} {m : List (Int × Bool)} {n : Int} {r_ : Int} (hr : uE c m n = some r_) : LC Tryz.prog 145 [.yld 6, .cptr [.slice 1 (c.W.map aG), .int .u64 c.Seed, .int .i64 c.Epoch, .int .i64 c.Num, .int .i64 c.Den], .fptr (.fn 147 [] [.ptr 2 0])] [.box (bI c), .map (ah aG (fun v => (bQ v)) m), .box [.map 1], .box (bI c), .box [(iQ n)], .defd, .loop false 21 [(2, .ptr 3 0), (4, (iQ 0)), (5, .ptr 4 0), (11, .fn 145 [] [.cptr [.slice 1 (c.W.map aG), .int .u64 c.Seed, .int .i64 c.Epoch, .int .i64 c.Num, .int .i64 c.Den], .fptr (.fn 147 [] [.ptr 2 0])])] #[12] wL wN] (Is (.tup []) [.box (bI c), .map (ah aG (fun v => (bQ v)) m), .box [.map 1], .box (bI c), .box [(iQ r_)], .defd, .loop false 21 [(2, .ptr 3 0), (4, (iQ 0)), (5, .ptr 4 0), (11, .fn 145 [] [.cptr [.slice 1 (c.W.map aG), .int .u64 c.Seed, .int .i64 c.Epoch, .int .i64 c.Num, .int .i64 c.Den], .fptr (.fn 147 [] [.ptr 2 0])])] #[12] wL wN]) := by
 refine dp Tryz.func145 Z Z Z ?_;unfold uE at hr;refine zQ (zR (yS Z (ab.fieldAddrC Z Z gO Z) (yS Z (d6 Z Z Z fc Z Z) (yS Z (d7 Z Z (by kernel_rfl)) (zM Z (zN (zT ?_)))))));obtain ⟨v1, hb_v1, ho_v1⟩ := zB hr;clear hr;refine LW.tail (E := []) (O := [.box (bI c), .map (ah aG (fun v => (bQ v)) m), .box [.map 1], .box (bI c), .box [(iQ v1.o4_0)], .defd, .loop false 21 [(2, .ptr 3 0), (4, (iQ 0)), (5, .ptr 4 0), (11, .fn 145 [] [.cptr [.slice 1 (c.W.map aG), .int .u64 c.Seed, .int .i64 c.Epoch, .int .i64 c.Num, .int .i64 c.Den], .fptr (.fn 147 [] [.ptr 2 0])])] #[12] wL wN]) ?_ (fun env_v1 H_v1 hw_v1 => ?_)
 ·refine LW.block ?_;refine LW.iterB (E := fun x1 : fF => [(0, .yld 6), (2, .fptr (.fn 147 [] [.ptr 2 0])), (7, .p (.int .i64 (c.W.length : Int))), (8, (iQ x1.t8))]) (O := fun x1 => [.box (bI c), .map (ah aG (fun v => (bQ v)) m), .box [.map 1], .box (bI c), .box [(iQ x1.o4_0)], .defd, .loop false 21 [(2, .ptr 3 0), (4, (iQ 0)), (5, .ptr 4 0), (11, .fn 145 [] [.cptr [.slice 1 (c.W.map aG), .int .u64 c.Seed, .int .i64 c.Epoch, .int .i64 c.Num, .int .i64 c.Den], .fptr (.fn 147 [] [.ptr 2 0])])] #[12] wL wN]) hb_v1 (zW 7 ⟨rfl, rfl, rfl, rfl, trivial⟩ Z Z Z (zL Z (zL (ae (fun _ => rfl) _) (zL Z (zL Z (zL Z (zL Z (zL Z Z)))))))) (fun x1 z_x1 hr hb_x1 => ?_);unfold ky at hr;refine zQ (zR (yS Z (ax Z Z Z Z) (zN (zT (zQ ?_)))));refine zX Z (fun g1 => ?_) (fun g1 => ?_)
  ·
   refine zi g1 hr fun hr => zk (zT (zQ (zl (zQ (zR (zM Z (zM Z (zN (zT (zQ (LW.regionI (ba.st Z Z Z (fa.of (ab.loadF Z Z tf) Z) (ba.st Z Z Z (fa.of (zm Z Z) Z) (zb hr fun v2 h_v2 hr => ?_))))))))))))));refine ba.st Z Z Z (fa.of (zC Z Z Z (by kernel_rfl) (LC.pre (Jr h_v2) Z (zL Z (zL (ae (fun _ => rfl) _) (zL Z Z))) Z)) Z) ?_;refine ba.st Z Z Z (fa.of (ab.move Z Z) Z) ?_;refine ba.cases 14 Z (fun (g2 : v2 = true) => ?_) (fun (g2 : v2 = false) => ?_)
   ·
    refine zi g2 hr fun hr => ba.gd Z Z Z (gd g2 Z) Z (fa.of (zm Z Z) Z) (ba.gd Z Z Z (gd g2 Z) Z (fa.of (zm Z Z) Z) (zb hr fun y1 h_y1 hr => ba.gd Z Z Z (gd g2 Z) Z (KG Z Z Z h_y1) (ba.gd Z Z Z (gd g2 Z) Z (fa.of (ab.not Z Z) Z) (ba.st Z Z Z (fa.of (eF Z (bM g2 Z) Z) Z) (ba.nil (zT (LW.condF Z (zk (ai (zT (zR (yS Z (ax Z Z Z Z) (zM Z (zN (zT ?_)))))))))))))));obtain rfl := zJ hr;exact ⟨_, rfl, zW 7 ⟨rfl, rfl, rfl, rfl, trivial⟩ Z Z Z (zL Z (zL (ae (fun _ => rfl) _) (zL Z (zL Z (zL Z (zL Z (zL Z Z)))))))⟩
   ·
    refine zo g2 hr fun hr => ba.sk Z Z Z (gd g2 Z) Z Z (ba.sk Z Z Z (gd g2 Z) Z Z (ba.sk Z Z Z (gd g2 Z) Z Z (ba.sk Z Z Z (gd g2 Z) Z Z (ba.st Z Z Z (fa.of (df Z (bM g2 Z) Z) Z) (ba.nil (zT (LW.condF Z (zk (ai (zT (zR (yS Z (ax Z Z Z Z) (zM Z (zN (zT ?_)))))))))))))));obtain rfl := zJ hr;exact ⟨_, rfl, zW 7 ⟨rfl, rfl, rfl, rfl, trivial⟩ Z Z Z (zL Z (zL (ae (fun _ => rfl) _) (zL Z (zL Z (zL Z (zL Z (zL Z Z)))))))⟩
  ·
   refine zo g1 hr fun hr => zq (ap (ap (zy (zT ?_))));obtain rfl := zJ hr;have hr := congrArg some (hb_x1 _ rfl);obtain rfl := zJ hr;exact zW 7 trivial Z Z Z (zL Z (zL (ae (fun _ => rfl) _) (zL Z (zL Z (zL Z (zL Z (zL Z Z)))))))
 ·have hr := ho_v1;clear hb_v1;obtain rfl := zJ hr;exact fH hw_v1 .none ⟨rfl, rfl⟩
def x6 (c : Cf) (m : List (Int × Bool)) : Option Int :=
 (ym c).bind fun v1 =>
 bif !v1 then
  some 0
 else
  (uE c m 0).bind fun v2 =>
  some v2
theorem He {c : Cf} {m : List (Int × Bool)} {r_ : Int} (hr : x6 c m = some r_) : LC Tryz.prog 146 [.p (jC c), .fn 145 [] [.cptr [.slice 1 (c.W.map aG), .int .u64 c.Seed, .int .i64 c.Epoch, .int .i64 c.Num, .int .i64 c.Den], .fptr (.fn 147 [] [.ptr 2 0])]] [.box (bI c), .map (ah aG (fun v => (bQ v)) m), .box [.map 1]] (Is (iQ r_) [.box (bI c), .map (ah aG (fun v => (bQ v)) m), .box [.map 1]]) := by
 refine LC.ofM Tryz.func146 Z Z Z ?_;unfold x6 at hr;refine ia.seqW (zR (yS Z (b6 Z Z Z Z Z) (zM Z (zN (zT (ia.seqW (zR (yS Z (ze Z L9 Z Z) (yS Z (zs Z Z Z Z bC Z Z Z Z) (zN (zT (ia.seqW (zQ (zR (yS Z (zD Z Z Z bA Z Z) (zb hr fun v1 h_v1 hr => yS Z (zC Z Z Z (by kernel_rfl) (zp (F9 h_v1) (.cons zv .nil))) (yS Z (ab.not Z Z) (zN (zT ?_)))))))))))))))))));refine zX Z (fun g1 => ?_) (fun g1 => ?_)
 ·
  refine zi g1 hr fun hr => zQ (zR (yS Z (zD Z Z Z bC Z Z) (zM Z (zN (zT (zr (aj ?_)))))));obtain rfl := zJ hr;refine a8 (env' := [(4, (iQ 0))]) (H' := [.box (bI c), .map (ah aG (fun v => (bQ v)) m), .box [.map 1]]) (zW 3 ⟨rfl, trivial⟩ Z Z Z (zL Z (zL (ae (fun _ => rfl) _) (zL Z Z)))) (.one (.tmp Z)) ?_;exact ⟨rfl, rfl⟩
 ·
  refine zo g1 hr fun hr => zk (zT (ia.seq (ia.seqW (zR (zM Z (zN (zT ?_)))))));refine ia.weak (env' := [(2, .ptr 3 0), (4, (iQ 0)), (5, .ptr 4 0), (11, .fn 145 [] [.cptr [.slice 1 (c.W.map aG), .int .u64 c.Seed, .int .i64 c.Epoch, .int .i64 c.Num, .int .i64 c.Den], .fptr (.fn 147 [] [.ptr 2 0])])]) (H' := [.box (bI c), .map (ah aG (fun v => (bQ v)) m), .box [.map 1], .box (bI c), .box [(iQ 0)]]) (zW 5 ⟨rfl, rfl, rfl, rfl, trivial⟩ Z Z Z (zL Z (zL (ae (fun _ => rfl) _) (zL Z (zL Z (zL Z Z)))))) ?_;refine ia.block (zb hr fun v2 h_v2 hr => ia.rangeFunc Z (by kernel_rfl) Z (Hi h_v2) Z Z Z ?_);refine ⟨rfl, ?_⟩;refine ua (ia.seq (ia.region (kc.st Z Z Z (zD Z Z Z bC Z Z) Z (kc.st Z Z Z (za Z Z) Z (kc.nil (ua (ia.ret ?_)))))));obtain rfl := zJ hr;exact ⟨.inr rfl, _, [(4, (iQ v2))], [.box (bI c), .map (ah aG (fun v => (bQ v)) m), .box [.map 1]], _, rfl, zW 3 ⟨rfl, trivial⟩ Z Z Z (zL Z (zL (ae (fun _ => rfl) _) (zL Z Z))), (.one (.tmp Z)), ⟨rfl, rfl⟩⟩
open Go.Proofs
def Ez (i : Int) (c : Cf) (slot : Int) (at_ : List Int) : Option Bool :=
 (ix at_ i).bind fun y1 =>
 bif decide (c.Epoch ≠ 0) then
  bif decide (c.Epoch ≠ 0) then
   some ((y1.tmod c.Epoch) == (slot.tmod c.Epoch))
  else none
 else none
theorem Jq {i : Int} {c : Cf} {slot : Int} {at_ : List Int} {r_ : Bool} (hr : Ez i c slot at_ = some r_) : LC Tryz.prog 106 [(iQ i), .ptr 2 0, .ptr 0 0, .ptr 1 0] [.box (bI c), .box [(iQ slot)], .box [(kI at_)]] (Is (bQ r_) [.box (bI c), .box [(iQ slot)], .box [(kI at_)]]) := by
 refine dp Tryz.func106 Z Z Z ?_;unfold Ez at hr;refine zQ (zR (zM Z (zN (zT (zQ (LW.draw2 (by kernel_rfl) (by kernel_rfl) (yE Z (zD Z Z Z fc Z Z) (zH Z (zb hr fun y1 h_y1 hr => yE Z (zx Z Z Z fX h_y1 Z) (yE Z (d6 Z Z Z bC Z Z) (yE Z (zA Z Z qM) (yE Z (zD Z Z Z bC Z Z) (zg hr fun q1 hr => yE Z (ab.rem Z Z Z (of_decide_eq_true q1)) (yE Z (zD Z Z Z bC Z Z) (yE Z (zA Z Z qM) (yE Z (zD Z Z Z bC Z Z) (zg hr fun q2 hr => yE Z (ab.rem Z Z Z (of_decide_eq_true q2)) (yE Z (ax Z Z Z Z) (zH Z (LO.nil ?_))))))))))))))))))));refine zT (zr ?_);obtain rfl := zJ hr;exact aq (.one (.tmp Z)) (⟨rfl, rfl⟩)
theorem KH {c : Cf} {slot : Int} {at_ : List Int} {l : List Int} {i : Int} {o : Oper} {env : av} {fo xo : Operand} {ats : Array TypeId} (ho : o.op = .call { callee := .value fo, args := #[xo], argTypes := ats }) (hf : aM env fo = some (.yld 6)) (hx : aM env xo = some (iQ i)) (q : room l.length [i].length 8 = true) :
  fa Tryz.prog o env [.box (bI c), .box [(iQ slot)], .box [(kI at_)], .box [(jI 4 l)], .vec 1 (l.map aG), .defd, .loop false 13 [(2, .ptr 3 0), (4, .zs), (6, .fn 145 [] [.cptr [.slice 1 (c.W.map aG), .int .u64 c.Seed, .int .i64 c.Epoch, .int .i64 c.Num, .int .i64 c.Den], .fptr (.fn 106 [] [.ptr 2 0, .ptr 0 0, .ptr 1 0])])] #[7] wM wO] (Is (bQ true) [.box (bI c), .box [(iQ slot)], .box [(kI at_)], .box [.vec 1 4 ((l ++ [i]).map aG).length 0 ((l ++ [i]).map aG).length], .vec 1 ((l ++ [i]).map aG), .defd, .loop false 13 [(2, .ptr 3 0), (4, .zs), (6, .fn 145 [] [.cptr [.slice 1 (c.W.map aG), .int .u64 c.Seed, .int .i64 c.Epoch, .int .i64 c.Num, .int .i64 c.Den], .fptr (.fn 106 [] [.ptr 2 0, .ptr 0 0, .ptr 1 0])])] #[7] wM wO]) := by
 refine fa.yield (env2 := (5, (iQ i)) :: (7, (iQ i)) :: [(2, .ptr 3 0), (4, .zs), (6, .fn 145 [] [.cptr [.slice 1 (c.W.map aG), .int .u64 c.Seed, .int .i64 c.Epoch, .int .i64 c.Num, .int .i64 c.Den], .fptr (.fn 106 [] [.ptr 2 0, .ptr 0 0, .ptr 1 0])])]) (H2 := [.box (bI c), .box [(iQ slot)], .box [(kI at_)], .box [.vec 1 4 ((l ++ [i]).map aG).length 0 ((l ++ [i]).map aG).length], .vec 1 ((l ++ [i]).map aG), .defd, .loop true 13 [(2, .ptr 3 0), (4, .zs), (6, .fn 145 [] [.cptr [.slice 1 (c.W.map aG), .int .u64 c.Seed, .int .i64 c.Epoch, .int .i64 c.Num, .int .i64 c.Den], .fptr (.fn 106 [] [.ptr 2 0, .ptr 0 0, .ptr 1 0])])] #[7] wM wO]) ho hf hx Z Z (by kernel_rfl) (by kernel_rfl) Z (sg.plain ?_) (sg.plain ?_) Z Z
 ·refine yS Z (za Z Z) ?_;exact zN ⟨rfl, rfl, rfl⟩
 ·refine yS Z (zD Z Z Z fc Z Z) ?_;exact zM Z (yS Z (mS Z fX Z Z Z Z Z) (yS Z (ab.appendX aG l [i] rfl Z Z Z ku.p Z fX q Z) (yS Z (zs Z Z Z Z fc Z Z Z Z) (zN (⟨rfl, rfl⟩)))))
structure dr where
 t8 : Int
 o4 : List Int
def kx (c : Cf) (slot : Int) (at_ : List Int) (x1 : dr) : Option (dr ⊕ dr) :=
 bif decide (x1.t8 < (c.W.length : Int)) then
  (Ez x1.t8 c slot at_).bind fun v2 =>
  bif v2 then
   bif room x1.o4.length [x1.t8].length 8 then
    some (.inl (dr.mk (IntKind.i64.wrap (x1.t8 + 1)) (x1.o4 ++ [x1.t8])))
   else none
  else
   some (.inl (dr.mk (IntKind.i64.wrap (x1.t8 + 1)) x1.o4))
 else
  some (.inr (dr.mk x1.t8 x1.o4))
def yc (c : Cf) (slot : Int) (at_ : List Int) (l : List Int) : Option (List Int) :=
 (iter (kx c slot at_) bG (dr.mk 0 l)).bind fun v1 =>
 some v1.o4
theorem Hh {c : Cf} {slot : Int} {at_ : List Int} {l : List Int} {r_ : List Int} (hr : yc c slot at_ l = some r_) : LC Tryz.prog 145 [.yld 6, .cptr [.slice 1 (c.W.map aG), .int .u64 c.Seed, .int .i64 c.Epoch, .int .i64 c.Num, .int .i64 c.Den], .fptr (.fn 106 [] [.ptr 2 0, .ptr 0 0, .ptr 1 0])] [.box (bI c), .box [(iQ slot)], .box [(kI at_)], .box [(jI 4 l)], .vec 1 (l.map aG), .defd, .loop false 13 [(2, .ptr 3 0), (4, .zs), (6, .fn 145 [] [.cptr [.slice 1 (c.W.map aG), .int .u64 c.Seed, .int .i64 c.Epoch, .int .i64 c.Num, .int .i64 c.Den], .fptr (.fn 106 [] [.ptr 2 0, .ptr 0 0, .ptr 1 0])])] #[7] wM wO] (Is (.tup []) [.box (bI c), .box [(iQ slot)], .box [(kI at_)], .box [(jI 4 r_)], .vec 1 (r_.map aG), .defd, .loop false 13 [(2, .ptr 3 0), (4, .zs), (6, .fn 145 [] [.cptr [.slice 1 (c.W.map aG), .int .u64 c.Seed, .int .i64 c.Epoch, .int .i64 c.Num, .int .i64 c.Den], .fptr (.fn 106 [] [.ptr 2 0, .ptr 0 0, .ptr 1 0])])] #[7] wM wO]) := by
 refine dp Tryz.func145 Z Z Z ?_;unfold yc at hr;refine zQ (zR (yS Z (ab.fieldAddrC Z Z gO Z) (yS Z (d6 Z Z Z fc Z Z) (yS Z (d7 Z Z (by kernel_rfl)) (zM Z (zN (zT ?_)))))));obtain ⟨v1, hb_v1, ho_v1⟩ := zB hr;clear hr;refine LW.tail (E := []) (O := [.box (bI c), .box [(iQ slot)], .box [(kI at_)], .box [(jI 4 v1.o4)], .vec 1 (v1.o4.map aG), .defd, .loop false 13 [(2, .ptr 3 0), (4, .zs), (6, .fn 145 [] [.cptr [.slice 1 (c.W.map aG), .int .u64 c.Seed, .int .i64 c.Epoch, .int .i64 c.Num, .int .i64 c.Den], .fptr (.fn 106 [] [.ptr 2 0, .ptr 0 0, .ptr 1 0])])] #[7] wM wO]) ?_ (fun env_v1 H_v1 hw_v1 => ?_)
 ·refine LW.block ?_;refine LW.iterB (E := fun x1 : dr => [(0, .yld 6), (2, .fptr (.fn 106 [] [.ptr 2 0, .ptr 0 0, .ptr 1 0])), (7, .p (.int .i64 (c.W.length : Int))), (8, (iQ x1.t8))]) (O := fun x1 => [.box (bI c), .box [(iQ slot)], .box [(kI at_)], .box [(jI 4 x1.o4)], .vec 1 (x1.o4.map aG), .defd, .loop false 13 [(2, .ptr 3 0), (4, .zs), (6, .fn 145 [] [.cptr [.slice 1 (c.W.map aG), .int .u64 c.Seed, .int .i64 c.Epoch, .int .i64 c.Num, .int .i64 c.Den], .fptr (.fn 106 [] [.ptr 2 0, .ptr 0 0, .ptr 1 0])])] #[7] wM wO]) hb_v1 (zW 7 ⟨rfl, rfl, rfl, rfl, trivial⟩ Z Z Z Z) (fun x1 z_x1 hr hb_x1 => ?_);unfold kx at hr;refine zQ (zR (yS Z (ax Z Z Z Z) (zN (zT (zQ ?_)))));refine zX Z (fun g1 => ?_) (fun g1 => ?_)
  ·
   refine zi g1 hr fun hr => zk (zT (zQ (zl (zQ (zR (zM Z (zM Z (zN (zT (zQ (LW.regionI (ba.st Z Z Z (fa.of (ab.loadF Z Z tf) Z) (ba.st Z Z Z (fa.of (zm Z Z) Z) (zb hr fun v2 h_v2 hr => ba.st Z Z Z (fa.of (zC Z Z Z (by kernel_rfl) (LC.pre (Jq h_v2) Z Z Z)) Z) (ba.st Z Z Z (fa.of (zm Z Z) Z) ?_)))))))))))))));refine ba.cases 14 Z (fun (g2 : v2 = true) => ?_) (fun (g2 : v2 = false) => ?_)
   ·
    refine zi g2 hr fun hr => ba.gd Z Z Z (gd g2 Z) Z (fa.of (zm Z Z) Z) (ba.gd Z Z Z (gd g2 Z) Z (fa.of (zm Z Z) Z) (zg hr fun q1 hr => ba.gd Z Z Z (gd g2 Z) Z (KH Z Z Z q1) (ba.gd Z Z Z (gd g2 Z) Z (fa.of (ab.not Z Z) Z) (ba.st Z Z Z (fa.of (eF Z (bM g2 Z) Z) Z) (ba.nil (zT (LW.condF Z (zk (ai (zT (zR (yS Z (ax Z Z Z Z) (zM Z (zN (zT ?_)))))))))))))));obtain rfl := zJ hr;exact ⟨_, rfl, zW 7 ⟨rfl, rfl, rfl, rfl, trivial⟩ Z Z Z rfl⟩
   ·
    refine zo g2 hr fun hr => ba.sk Z Z Z (gd g2 Z) Z Z (ba.sk Z Z Z (gd g2 Z) Z Z (ba.sk Z Z Z (gd g2 Z) Z Z (ba.sk Z Z Z (gd g2 Z) Z Z (ba.st Z Z Z (fa.of (df Z (bM g2 Z) Z) Z) (ba.nil (zT (LW.condF Z (zk (ai (zT (zR (yS Z (ax Z Z Z Z) (zM Z (zN (zT ?_)))))))))))))));obtain rfl := zJ hr;exact ⟨_, rfl, zW 7 ⟨rfl, rfl, rfl, rfl, trivial⟩ Z Z Z rfl⟩
  ·
   refine zo g1 hr fun hr => zq (ap (ap (zy (zT ?_))));obtain rfl := zJ hr;have hr := congrArg some (hb_x1 _ rfl);obtain rfl := zJ hr;exact zW 7 trivial Z Z Z Z
 ·have hr := ho_v1;clear hb_v1;obtain rfl := zJ hr;exact fH hw_v1 .none ⟨rfl, rfl⟩
def yb (c : Cf) (slot : Int) (at_ : List Int) : Option (List Int) :=
 (yc c slot at_ []).bind fun v1 =>
 some v1
theorem Hg {c : Cf} {slot : Int} {at_ : List Int} {r_ : List Int} (hr : yb c slot at_ = some r_) : LC Tryz.prog 144 [.zs, .fn 145 [] [.cptr [.slice 1 (c.W.map aG), .int .u64 c.Seed, .int .i64 c.Epoch, .int .i64 c.Num, .int .i64 c.Den], .fptr (.fn 106 [] [.ptr 2 0, .ptr 0 0, .ptr 1 0])]] [.box (bI c), .box [(iQ slot)], .box [(kI at_)]] (Is (jI 4 r_) [.box (bI c), .box [(iQ slot)], .box [(kI at_)], .box [(jI 4 r_)], .vec 1 (r_.map aG), .dead, .dead]) := by
 refine LC.ofM Tryz.func144 Z Z Z ?_;unfold yb at hr;refine ia.seqW (zR (yS Z (b6 Z Z Z Z Z) (zM Z (zN (zT (ia.seq (ia.seqW (zR (zM Z (zN (zT (ia.ent (bO.lazyCell (i := 3) (j := 0) (m := 1) Z Z Z Z Z Z) (ia.weak (env' := [(2, .ptr 3 0), (4, .zs), (6, .fn 145 [] [.cptr [.slice 1 (c.W.map aG), .int .u64 c.Seed, .int .i64 c.Epoch, .int .i64 c.Num, .int .i64 c.Den], .fptr (.fn 106 [] [.ptr 2 0, .ptr 0 0, .ptr 1 0])])]) (H' := [.box (bI c), .box [(iQ slot)], .box [(kI at_)], .box [(jI 4 ([] : List Int))], .vec 1 (([] : List Int).map aG)]) (zW 5 ⟨rfl, rfl, rfl, trivial⟩ Z Z Z Z) (ia.block (zb hr fun v1 h_v1 hr => ia.rangeFunc Z (by kernel_rfl) Z (Hh h_v1) Z Z Z ?_)))))))))))))));refine ⟨rfl, ?_⟩;refine ua (ia.seq (ia.region (kc.st Z Z Z (zD Z Z Z fc Z Z) Z (kc.st Z Z Z (za Z Z) Z (kc.nil (ua (ia.ret ?_)))))));obtain rfl := zJ hr;exact ⟨.inr rfl, _, [(4, (jI 4 v1))], [.box (bI c), .box [(iQ slot)], .box [(kI at_)], .box [(jI 4 v1)], .vec 1 (v1.map aG), .dead, .dead], _, rfl, zW 7 ⟨rfl, trivial⟩ Z Z Z rfl, (.one (.tmp Z)), ⟨rfl, rfl⟩⟩
def uC (c : Cf) (slot : Int) (at_ : List Int) : Option (List Int) :=
 (yb c slot at_).bind fun v1 =>
 some v1
theorem Hd {c : Cf} {slot : Int} {at_ : List Int} {r_ : List Int} (hr : uC c slot at_ = some r_) : LC Tryz.prog 104 [.fn 145 [] [.cptr [.slice 1 (c.W.map aG), .int .u64 c.Seed, .int .i64 c.Epoch, .int .i64 c.Num, .int .i64 c.Den], .fptr (.fn 106 [] [.ptr 2 0, .ptr 0 0, .ptr 1 0])]] [.box (bI c), .box [(iQ slot)], .box [(kI at_)]] (Is (jI 4 r_) [.box (bI c), .box [(iQ slot)], .box [(kI at_)], .box [(jI 4 r_)], .vec 1 (r_.map aG), .dead, .dead]) := by
 refine dp Tryz.func104 Z Z Z ?_;unfold uC at hr;refine zQ (zR (zM Z (zN (zT (zQ (zR (zM Z (zb hr fun v1 h_v1 hr => yS Z (zC Z Z Z (by kernel_rfl) (Hg h_v1)) (zM Z (zN (zT (zr ?_))))))))))));obtain rfl := zJ hr;exact aq (.one (.tmp Z)) (⟨rfl, rfl⟩)
open Go.Proofs
open Go.Proofs
open Go.Proofs
structure fi where
 t11 : Int
 o1 : List (Int × Bool)
def nS (l : List Int) (x1 : fi) : Option (fi ⊕ fi) :=
 bif decide (x1.t11 < (l.length : Int)) then
  (ix l x1.t11).bind fun y1 =>
  some (.inl (fi.mk (IntKind.i64.wrap (x1.t11 + 1)) (aP x1.o1 y1 true)))
 else
  some (.inr (fi.mk x1.t11 x1.o1))
def FS (c : Cf) (l : List Int) : Option Int :=
 (iter (nS l) bG (fi.mk 0 ([] : List (Int × Bool)))).bind fun v1 =>
 (x6 c v1.o1).bind fun v2 =>
 some v2
theorem K0 {c : Cf} {l : List Int} {r_ : Int} (hr : FS c l = some r_) : aw Tryz.prog 109 [jC c, .slice 1 (l.map aG)] [.int .i64 r_] := by
 refine zh Tryz.func109 Z Z Z Z ?_;unfold FS at hr;refine zQ (zR (yS Z (b6 Z Z Z Z Z) (zM Z (zN (zT (zQ (zR (yS Z (ab.makeMap Z Z Z) (yS Z (ze Z KK Z Z) (yS Z (zs Z Z Z Z Eb Z Z Z Z) (zN (zT (zQ (zQ (zR (zM Z (yS Z (d7 Z Z (by kernel_rfl)) (zM Z (zN (zT ?_))))))))))))))))))));obtain ⟨v1, hb_v1, ho_v1⟩ := zB hr;clear hr;refine LW.tail (E := [(2, .ptr 0 0), (4, (iQ 0)), (5, .ptr 2 0)]) (O := [.box (bI c), .map (ah aG (fun v => (bQ v)) v1.o1), .box [.map 1]]) ?_ (fun env_v1 H_v1 hw_v1 => ?_)
 ·refine LW.block ?_;refine LW.iterB (E := fun x1 : fi => [(2, .ptr 0 0), (4, (iQ 0)), (5, .ptr 2 0), (9, (kI l)), (10, .p (.int .i64 (l.length : Int))), (11, (iQ x1.t11))]) (O := fun x1 => [.box (bI c), .map (ah aG (fun v => (bQ v)) x1.o1), .box [.map 1]]) hb_v1 (zW 3 ⟨rfl, rfl, rfl, rfl, rfl, rfl, trivial⟩ Z Z Z (zL Z (zL (ae (fun _ => rfl) _) (zL Z Z)))) (fun x1 z_x1 hr hb_x1 => ?_);unfold nS at hr;refine zQ (zR (yS Z (ax Z Z Z Z) (zN (zT (zQ ?_)))));refine zX Z (fun g1 => ?_) (fun g1 => ?_)
  ·
   refine zi g1 hr fun hr => zk (zT (zQ (zl (zQ (zR (zb hr fun y1 h_y1 hr => yS Z (zx Z Z Z fX h_y1 Z) (yS Z (d6 Z Z Z bC Z Z) (zM Z (zN (zT (zR (yS Z (zD Z Z Z Eb Z Z) (zM Z ?_)))))))))))));refine yS Z (ab.setX (f := aG) (g := (fun v => (bQ v))) y1 true Do (.inl Z) Z Z Z Z Z Gq Z) ?_;refine zN (ai (zT (zR (yS Z (ax Z Z Z Z) (zM Z (zN (zT ?_)))))));obtain rfl := zJ hr;exact ⟨_, rfl, zW 3 ⟨rfl, rfl, rfl, rfl, rfl, rfl, trivial⟩ Z Z Z (zL Z (zL (ae (fun _ => rfl) _) (zL Z Z)))⟩
  ·
   refine zo g1 hr fun hr => zq (ap (ap (zy (zT ?_))));obtain rfl := zJ hr;have hr := congrArg some (hb_x1 _ rfl);obtain rfl := zJ hr;exact zW 3 ⟨Z, Z, Z, trivial⟩ Z Z Z (zL Z (zL (ae (fun _ => rfl) _) (zL Z Z)))
 ·have hr := ho_v1;clear hb_v1;refine zT (LW.weak hw_v1 (zQ (LW.draw2 (by kernel_rfl) (by kernel_rfl) (yE Z (zD Z Z Z bA Z Z) (yE Z (zD Z Z Z bA Z Z) (yE Z (ab.makeFunc Z Z Z) (yE Z (zC Z Z Z (by kernel_rfl) (IS (c := c))) (zb hr fun v2 h_v2 hr => yE Z (zC Z Z Z (by kernel_rfl) (He h_v2)) (zH Z (LO.nil (zT (zr ?_))))))))))));obtain rfl := zJ hr;exact zf (.one (.tmp Z)) zv
def FR (c : Cf) (slot : Int) : Option (List Int) :=
 (z6 c slot).bind fun v1 =>
 bif !v1 then
  some []
 else
  bif decide (c.Epoch ≠ 0) then
   (Io (step c.Seed (IntKind.u64.wrap (IntKind.i64.wrap (slot.tdiv c.Epoch)))) (c.W.length : Int)).bind fun v2 =>
   (uC c slot v2).bind fun v3 =>
   some v3
  else none
theorem KZ {c : Cf} {slot : Int} {r_ : (List Int)} (hr : FR c slot = some r_) : aw Tryz.prog 57 [jC c, .int .i64 slot] [.slice 1 (r_.map aG)] := by
 refine zh Tryz.func57 Z Z Z Z ?_;unfold FR at hr;refine zQ (zR (yS Z (b6 Z Z Z Z Z) (yS Z (b6 Z Z Z Z Z) (zM Z (zN (zT (zQ (zQ (zR (yS Z (zD Z Z Z bA Z Z) (yS Z (zD Z Z Z bC Z Z) (zb hr fun v1 h_v1 hr => yS Z (zC Z Z Z (by kernel_rfl) (zp (IP h_v1) (.cons zv (.cons zv .nil)))) (yS Z (ab.not Z Z) (zN (zT ?_)))))))))))))));refine zX Z (fun g1 => ?_) (fun g1 => ?_)
 ·
  refine zi g1 hr fun hr => zQ (zR (zM Z (zN (zT (zr (aj ?_))))));obtain rfl := zJ hr;exact zf (.one (.tmp Z)) Conv.zs
 ·
  refine zo g1 hr fun hr => zk (zT (zQ (LW.ent (bO.slot Z) (LW.drawW (by kernel_rfl) (by kernel_rfl) ?_))));refine yF (F := []) (s := none) Z (fun H _ => zA Z Z Dh) Z ?_;refine yF Z (zd Z Z Z nN Z Z) Z (yF Z (zd Z Z Z bC Z Z) Z ?_);refine yF (F := []) (s := none) Z (fun H _ => zA Z Z qM) Z ?_;refine yF Z (zd Z Z Z bC Z Z) Z (zg hr fun q1 hr => ?_);refine yF (F := []) (s := none) Z (fun H _ => ab.quo Z Z Z (of_decide_eq_true q1)) Z ?_;refine yF (F := []) (s := none) Z (fun H _ => ab.convert (k' := .u64) Z Z (by kernel_rfl)) Z ?_;refine yF (F := []) (s := none) Z (fun H _ => zC Z Z Z (by kernel_rfl) (zp (vb (h := c.Seed) (x := (IntKind.u64.wrap (IntKind.i64.wrap (slot.tdiv c.Epoch))))) (.cons zv (.cons zv .nil)))) Z ?_;refine yF (F := []) (s := none) Z (fun H _ => zA Z Z gO) Z ?_;refine yF Z (zd Z Z Z fc Z Z) Z ?_;refine yF (F := []) (s := none) Z (fun H _ => d7 Z Z (by kernel_rfl)) Z ?_;obtain ⟨v2, h_v2, hr⟩ := zB hr;refine yF (F := []) (s := none) Z (fun H _ => zC Z Z Z (by kernel_rfl) (zp (Md h_v2) (.cons zv (.cons zv .nil)))) Z ?_;refine yF Z (bL.alloc Z LU (id := 2) Z) Z (yF Z (zt Z Z Z Z fc Z Z Z) Z ?_);refine LF.nil ⟨by kernel_rfl, ?_⟩;refine zT (zQ (zR (yS Z (zD Z Z Z bA Z Z) (yS Z (ab.makeFunc Z Z Z) (yS Z (zC Z Z Z (by kernel_rfl) (IS (c := c))) (zb hr fun v3 h_v3 hr => yS Z (zC Z Z Z (by kernel_rfl) (Hd h_v3)) (zM Z (zN (zT (zr ?_))))))))));obtain rfl := zJ hr;exact zf (.one (.tmp Z)) ((Conv.vecAll Z Z Z))
def ET (c : Cf) (slot : Int) : Option Int :=
 (z6 c slot).bind fun v1 =>
 bif !v1 then
  some (-1)
 else
  bif decide ((IntKind.u64.wrap ((c.W.length : Int))) ≠ 0) then
   some (IntKind.i64.wrap ((step (step c.Seed 4294967296) (IntKind.u64.wrap (slot))).tmod (IntKind.u64.wrap ((c.W.length : Int)))))
  else none
theorem KY {c : Cf} {slot : Int} {r_ : Int} (hr : ET c slot = some r_) : aw Tryz.prog 34 [jC c, .int .i64 slot] [.int .i64 r_] := by
 refine zh Tryz.func34 Z Z Z Z ?_;unfold ET at hr;refine zQ (zR (yS Z (b6 Z Z Z Z Z) (zM Z (zN (zT (zQ (zQ (zR (yS Z (zD Z Z Z bA Z Z) (zM Z (zb hr fun v1 h_v1 hr => yS Z (zC Z Z Z (by kernel_rfl) (zp (IP h_v1) (.cons zv (.cons zv .nil)))) (yS Z (ab.not Z Z) (zN (zT ?_))))))))))))));refine zX Z (fun g1 => ?_) (fun g1 => ?_)
 ·
  refine zi g1 hr fun hr => zQ (zR (zM Z (zN (zT (zr (aj ?_))))));obtain rfl := zJ hr;exact zf (.one (.tmp Z)) zv
 ·
  refine zo g1 hr fun hr => zk (zT (zQ (LW.draw2 (by kernel_rfl) (by kernel_rfl) (yE Z (zA Z Z Dh) (yE Z (zD Z Z Z nN Z Z) (yE Z (zC Z Z Z (by kernel_rfl) (zp (vb (h := c.Seed) (x := 4294967296)) (.cons zv (.cons zv .nil)))) (zH Z (yE Z (ab.convert (k' := .u64) Z Z (by kernel_rfl)) (yE Z (zC Z Z Z (by kernel_rfl) (zp (vb (h := (step c.Seed 4294967296)) (x := (IntKind.u64.wrap (slot)))) (.cons zv (.cons zv .nil)))) (yE Z (zA Z Z gO) (yE Z (zD Z Z Z fc Z Z) (yE Z (d7 Z Z (by kernel_rfl)) (yE Z (ab.convert (k' := .u64) Z Z (by kernel_rfl)) (zg hr fun q1 hr => yE Z (ab.rem Z Z Z (of_decide_eq_true q1)) (yE Z (ab.convert (k' := .i64) Z Z (by kernel_rfl)) (zH Z (LO.nil (zT (zr ?_)))))))))))))))))));obtain rfl := zJ hr;exact zf (.one (.tmp Z)) zv
def HV (c : Cf) (slot : Int) (who : Int) : Option Bool :=
 (FR c slot).bind fun v1 =>
 (tk v1 who).bind fun v2 =>
 some v2
theorem L2 {c : Cf} {slot : Int} {who : Int} {r_ : Bool} (hr : HV c slot who = some r_) : aw Tryz.prog 22 [jC c, .int .i64 slot, .int .i64 who] [.bool r_] := by
 refine zh Tryz.func22 Z Z Z Z ?_;unfold HV at hr;refine zQ (zR (yS Z (b6 Z Z Z Z Z) (zM Z (zN (zT (zQ (zR (yS Z (zD Z Z Z bA Z Z) (zM Z (zb hr fun v1 h_v1 hr => yS Z (zC Z Z Z (by kernel_rfl) (zp (KZ h_v1) (.cons zv (.cons zv .nil)))) (zM Z (zb hr fun v2 h_v2 hr => yS Z (zC Z Z Z (by kernel_rfl) (zp (CM h_v2) (.cons zv (.cons zv .nil)))) (zM Z (zN (zT (zr ?_))))))))))))))));obtain rfl := zJ hr;exact zf (.one (.tmp Z)) zv
open Go.Proofs
def Ah (x : Int) : Option Bool :=
 some (x != x)
theorem I6 {x : Int} {r_ : Bool} (hr : Ah x = some r_) : aw Tryz.prog 174 [.int .u64 x] [.bool r_] := by
 refine zh Tryz.func174 Z Z Z Z ?_;unfold Ah at hr;refine zQ (zR (zM Z (zN (zT (zQ (zR (zM Z (zM Z (yS Z (ax Z Z Z Z) (zM Z (zN (zT (zr ?_)))))))))))));obtain rfl := zJ hr;exact zf (.one (.tmp Z)) zv
def BZ (x : Int) (y : Int) : Option Int :=
 (Ah x).bind fun v1 =>
 (Ah y).bind fun v2 =>
 bif v1 then
  bif v2 then
   some 0
  else
   some (-1)
 else
  bif v2 then
   some 1
  else
   bif decide (x < y) then
    some (-1)
   else
    bif decide (x > y) then
     some 1
    else
     some 0
theorem Ls {x : Int} {y : Int} {r_ : Int} (hr : BZ x y = some r_) : aw Tryz.prog 159 [.int .u64 x, .int .u64 y] [.int .i64 r_] := by
 refine zh Tryz.func159 Z Z Z Z ?_;unfold BZ at hr;refine zQ (zR (zM Z (zN (zT (zQ (zR (zM Z (zb hr fun v1 h_v1 hr => yS Z (zC Z Z Z (by kernel_rfl) (zp (I6 h_v1) (.cons zv .nil))) (zM Z (zN (zT (zQ (zR (zM Z (zb hr fun v2 h_v2 hr => yS Z (zC Z Z Z (by kernel_rfl) (zp (I6 h_v2) (.cons zv .nil))) (zM Z (zN (zT (zQ (zQ (zR ?_)))))))))))))))))))));refine zM Z (zN (zT ?_));refine zX Z (fun g1 => ?_) (fun g1 => ?_)
 ·
  refine zi g1 hr fun hr => zQ (zQ (zR (zM Z (zN (zT ?_)))));refine zX Z (fun g2 => ?_) (fun g2 => ?_)
  ·
   refine zi g2 hr fun hr => zQ (zR (zM Z (zN (zT (zr (aj (aj ?_)))))));obtain rfl := zJ hr;exact zf (.one (.tmp Z)) zv
  ·
   refine zo g2 hr fun hr => zk (zT (zQ (zR (zM Z (zN (zT (zr (aj ?_))))))));obtain rfl := zJ hr;exact zf (.one (.tmp Z)) zv
 ·
  refine zo g1 hr fun hr => zk (zT (zQ (zQ (zR (zM Z (zN (zT ?_)))))));refine zX Z (fun g3 => ?_) (fun g3 => ?_)
  ·
   refine zi g3 hr fun hr => zQ (zR (zM Z (zN (zT (zr (aj ?_))))));obtain rfl := zJ hr;exact zf (.one (.tmp Z)) zv
  ·
   refine zo g3 hr fun hr => zk (zT (zQ (zQ (zR (zM Z (zM Z (yS Z (ax Z Z Z Z) (zN (zT ?_)))))))));refine zX Z (fun g4 => ?_) (fun g4 => ?_)
   ·
    refine zi g4 hr fun hr => zQ (zR (zM Z (zN (zT (zr (aj ?_))))));obtain rfl := zJ hr;exact zf (.one (.tmp Z)) zv
   ·
    refine zo g4 hr fun hr => zk (zT (zQ (zQ (zR (zM Z (zM Z (yS Z (ax Z Z Z Z) (zN (zT ?_)))))))));refine zX Z (fun g5 => ?_) (fun g5 => ?_)
    ·
     refine zi g5 hr fun hr => zQ (zR (zM Z (zN (zT (zr (aj ?_))))));obtain rfl := zJ hr;exact zf (.one (.tmp Z)) zv
    ·
     refine zo g5 hr fun hr => zk (zT (zQ (zR (zM Z (zN (zT (zr ?_)))))));obtain rfl := zJ hr;exact zf (.one (.tmp Z)) zv
structure dR where
 t11 : Int
def ip (s1 : List Int) (s2 : List Int) (x1 : dR) : Option (dR ⊕ (dR ⊕ Int)) :=
 bif decide (x1.t11 < (s1.length : Int)) then
  (ix s1 x1.t11).bind fun y1 =>
  bif decide (x1.t11 ≥ (s2.length : Int)) then
   some (.inr (.inr 1))
  else
   (ix s2 x1.t11).bind fun y2 =>
   (BZ y1 y2).bind fun v2 =>
   bif v2 != 0 then
    some (.inr (.inr v2))
   else
    some (.inl (dR.mk (IntKind.i64.wrap (x1.t11 + 1))))
 else
  some (.inr (.inl (dR.mk x1.t11)))
def Ad (s1 : List Int) (s2 : List Int) : Option Int :=
 (iter (ip s1 s2) bG (dR.mk 0)).bind fun b_v1 => Sum.elim (fun _ =>
  bif decide ((s1.length : Int) < (s2.length : Int)) then
   some (-1)
  else
   some 0) some b_v1
theorem IX {s1 : List Int} {s2 : List Int} {r_ : Int} (hr : Ad s1 s2 = some r_) : aw Tryz.prog 117 [.slice 1 (s1.map la), .slice 1 (s2.map la)] [.int .i64 r_] := by
 refine zh Tryz.func117 Z Z Z Z ?_;unfold Ad at hr;refine zQ (zR (zM Z (zN (zT (zQ (zQ (zR (zM Z (yS Z (d7 Z Z (by kernel_rfl)) (zM Z (zN (zT ?_))))))))))));obtain ⟨b_v1, hb_v1, ho_v1⟩ := zB hr;clear hr;refine LW.tailB (b := b_v1) (E := fun v1 => [(0, .p (.slice 1 (s1.map la))), (1, .p (.slice 1 (s2.map la))), (4, (iQ 0))]) (O := fun v1 => []) ?_ (fun v1 e_v1 env_v1 H_v1 hw_v1 => ?_)
 ·refine LW.block ?_;refine LW.iterB (E := fun x1 : dR => [(0, .p (.slice 1 (s1.map la))), (1, .p (.slice 1 (s2.map la))), (4, (iQ 0)), (9, .p (.slice 1 (s1.map la))), (10, .p (.int .i64 (s1.length : Int))), (11, (iQ x1.t11))]) (O := fun x1 => []) hb_v1 (zW 0 ⟨rfl, rfl, rfl, rfl, rfl, rfl, trivial⟩ Z Z Z Z) (fun x1 z_x1 hr hb_x1 => ?_);unfold ip at hr;refine zQ (zR (yS Z (ax Z Z Z Z) (zN (zT (zQ ?_)))));refine zX Z (fun g1 => ?_) (fun g1 => ?_)
  ·
   refine zi g1 hr fun hr => zk (zT (zQ (zl (zQ (zR (zM Z (zb hr fun y1 h_y1 hr => yS Z (zx Z Z Z FI h_y1 Z) (yS Z (d6 Z Z Z nN Z Z) (zM Z (zM Z (zN (zT (zQ (zQ (zR (zM Z (zM Z (yS Z (d7 Z Z (by kernel_rfl)) (yS Z (ax Z Z Z Z) (zN (zT ?_)))))))))))))))))))));refine zX Z (fun g2 => ?_) (fun g2 => ?_)
   ·
    refine zi g2 hr fun hr => zQ (zR (zM Z (zN (zT (zr (aj (aA (aj (aj (aA (aj (aj ?_))))))))))));obtain rfl := zJ hr;have hr := congrArg some (hb_x1 _ rfl);obtain rfl := zJ hr;have hr := ey ho_v1;obtain rfl := zJ hr;exact zf (.one (.tmp Z)) zv
   ·
    refine zo g2 hr fun hr => zk (zT (zQ (zR (zM Z (zM Z (zb hr fun y2 h_y2 hr => yS Z (zx Z Z Z FI h_y2 Z) (yS Z (d6 Z Z Z nN Z Z) (zM Z (zN (zT (zQ (zR (zM Z (zM Z (zb hr fun v2 h_v2 hr => yS Z (zC Z Z Z (by kernel_rfl) (zp (Ls h_v2) (.cons zv (.cons zv .nil)))) (zM Z (zN (zT (zQ (zR ?_))))))))))))))))))));refine zM Z (yS Z (ax Z Z Z Z) (zN (zT ?_)));refine zX Z (fun g3 => ?_) (fun g3 => ?_)
    ·
     refine zi g3 hr fun hr => zQ (zR (zM Z (zM Z (zN (zT (zr (aA (aj (aj (aA (aj (aj ?_))))))))))));obtain rfl := zJ hr;have hr := congrArg some (hb_x1 _ rfl);obtain rfl := zJ hr;have hr := ey ho_v1;obtain rfl := zJ hr;exact zf (.one (.tmp Z)) zv
    ·
     refine zo g3 hr fun hr => zk (ai (zT (zR (yS Z (ax Z Z Z Z) (zM Z (zN (zT ?_)))))));obtain rfl := zJ hr;exact ⟨_, rfl, zW 0 ⟨rfl, rfl, rfl, rfl, rfl, rfl, trivial⟩ Z Z Z rfl⟩
  ·
   refine zo g1 hr fun hr => zq (ap (ap (zy (zT ?_))));obtain rfl := zJ hr;have hr := congrArg some (hb_x1 _ rfl);obtain rfl := zJ hr;exact ⟨_, rfl, zW 0 ⟨rfl, rfl, rfl, trivial⟩ Z Z Z rfl⟩
 ·obtain rfl := e_v1;have hr := ga ho_v1;clear hb_v1;refine zT (LW.weak hw_v1 (zQ (zQ (zR (zM Z (yS Z (d7 Z Z (by kernel_rfl)) (zM Z (yS Z (d7 Z Z (by kernel_rfl)) (yS Z (ax Z Z Z Z) (zN (zT ?_)))))))))));refine zX Z (fun g4 => ?_) (fun g4 => ?_)
  ·
   refine zi g4 hr fun hr => zQ (zR (zM Z (zN (zT (zr (aj ?_))))));obtain rfl := zJ hr;exact zf (.one (.tmp Z)) zv
  ·
   refine zo g4 hr fun hr => zk (zT (zQ (zR (zM Z (zN (zT (zr ?_)))))));obtain rfl := zJ hr;exact zf (.one (.tmp Z)) zv
def BI (a : ID) (b : ID) : Option Bool :=
 (Ad [a.1, a.2] [b.1, b.2]).bind fun v1 =>
 some (decide (v1 < 0))
theorem Lh {a : ID} {b : ID} {r_ : Bool} (hr : BI a b = some r_) : aw Tryz.prog 188 [ci a, ci b] [.bool r_] := by
 refine zh Tryz.func188 Z Z Z Z ?_;unfold BI at hr;refine zQ (zR (yS Z (b6 Z Z Z Z Z) (yS Z (b6 Z Z Z Z Z) (zM Z (zN (zT (zQ (LW.draw2 (by kernel_rfl) (by kernel_rfl) (yE Z (ab.sliceBox Z Z Ay Z Z Z) (yE Z (ab.sliceBox Z Z Ay Z Z Z) (zb hr fun v1 h_v1 hr => yE Z (zC Z Z Z (by kernel_rfl) (LC.lend (IX h_v1) (.cons (Conv.boxSlice Z Z Z Z) (.cons (Conv.boxSlice Z Z Z Z) .nil)) Z)) (yE Z (ax Z Z Z Z) (zH Z (LO.nil (zT (zr ?_))))))))))))))));obtain rfl := zJ hr;exact zf (.one (.tmp Z)) zv
def BJ (a : Rk) (b : Rk) : Option Bool :=
 bif a.n != b.n then
  some (decide (a.n > b.n))
 else
  bif !((a.n == b.n) && ((a.id.1 == b.id.1) && ((a.id.2 == b.id.2) && true))) then
   (BI b.id a.id).bind fun v1 =>
   some v1
  else
   some false
theorem Li {a : Rk} {b : Rk} {r_ : Bool} (hr : BJ a b = some r_) : aw Tryz.prog 172 [L8 a, L8 b] [.bool r_] := by
 refine zh Tryz.func172 Z Z Z Z ?_;unfold BJ at hr;refine zQ (zR (yS Z (b6 Z Z Z Z Z) (yS Z (b6 Z Z Z Z Z) (zM Z (zN (zT (zQ (zQ (zR (yS Z (zA Z Z nf) (yS Z (zD Z Z Z bC Z Z) (yS Z (zA Z Z nf) (yS Z (zD Z Z Z bC Z Z) (yS Z (ax Z Z Z Z) (zN (zT ?_))))))))))))))));refine zX Z (fun g1 => ?_) (fun g1 => ?_)
 ·
  refine zi g1 hr fun hr => zQ (zR (yS Z (zA Z Z nf) (yS Z (zD Z Z Z bC Z Z) (yS Z (zA Z Z nf) (yS Z (zD Z Z Z bC Z Z) (yS Z (ax Z Z Z Z) (zM Z (zN (zT (zr (aj ?_)))))))))));obtain rfl := zJ hr;exact zf (.one (.tmp Z)) zv
 ·
  refine zo g1 hr fun hr => zk (zT (zQ (zR (yS Z (zD Z Z Z pn Z Z) (yS Z (zD Z Z Z pn Z Z) (yS Z (ab.neqAgg Z Z Z Z Z Hz) (zM Z ?_)))))));refine zc 18 Z (fun g2 => ?_) (fun g2 => ?_)
  ·
   refine zi g2 hr fun hr => yV Z (gd g2 Z) (zA Z Z tK) (yV Z (gd g2 Z) (zD Z Z Z aR Z Z) (yV Z (gd g2 Z) (zA Z Z tK) (yV Z (gd g2 Z) (zD Z Z Z aR Z Z) (zb hr fun v1 h_v1 hr => yV Z (gd g2 Z) (zC Z Z Z (by kernel_rfl) (zp (Lh h_v1) (.cons zv (.cons zv .nil)))) (yS Z (eF Z (bM g2 Z) Z) (zM Z (zN (zT (zr ?_)))))))));obtain rfl := zJ hr;exact zf (.one (.tmp Z)) zv
  ·
   refine zo g2 hr fun hr => yU Z (gd g2 Z) Z (yU Z (gd g2 Z) Z (yU Z (gd g2 Z) Z (yU Z (gd g2 Z) Z (yU Z (gd g2 Z) Z (yS Z (df Z (bM g2 Z) Z) (zM Z (zN (zT (zr ?_)))))))));obtain rfl := zJ hr;exact zf (.one (.tmp Z)) zv
def EO (x : Vt) : Option Int :=
 some x.From
theorem Lq {x : Vt} {r_ : Int} (hr : EO x = some r_) : aw Tryz.prog 153 [aJ x] [.int .i64 r_] := by
 refine zh Tryz.func153 Z Z Z Z ?_;unfold EO at hr;refine zQ (zR (yS Z (b6 Z Z Z Z Z) (zM Z (zN (zT (zQ (zR (yS Z (zA Z Z qN) (yS Z (zD Z Z Z bC Z Z) (zM Z (zN (zT (zr ?_)))))))))))));obtain rfl := zJ hr;exact zf (.one (.tmp Z)) zv
open Go.Proofs
def BU (x : Vt) (_ : Cf) (l : List Bk) (id : ID) (m : List (ID × Bool)) : Option (Bool × (List (ID × Bool))) :=
 bif !((af m x.Head).isSome) then
  bif few l then
   some (decide (aE (am l x.Head) id ≥ 0), aP m x.Head (decide (aE (am l x.Head) id ≥ 0)))
  else none
 else
  some ((af m x.Head).getD false, m)
theorem Jw {x : Vt} {c : Cf} {l : List Bk} {id : ID} {m : List (ID × Bool)} {r_ : Bool × (List (ID × Bool))} (hr : BU x c l id m = some r_) : LC Tryz.prog 151 [.p (aJ x), .ptr 4 0, .ptr 1 0, .ptr 2 0] [.box (bI c), .box [(kB l)], .box [(uQ id.1), (uQ id.2)], .map (ah ci (fun v => (bQ v)) m), .box [.map 3]] (Is (bQ r_.1) [.box (bI c), .box [(kB l)], .box [(uQ id.1), (uQ id.2)], .map (ah ci (fun v => (bQ v)) r_.2), .box [.map 3]]) := by
 refine dp Tryz.func151 Z Z Z ?_;unfold BU at hr;refine zQ (zR (yS Z (b6 Z Z Z Z Z) (zM Z (zN (zT (zQ (zR (yS Z (zD Z Z Z Ed Z Z) (yS Z (zA Z Z mm) (yS Z (zD Z Z Z aR Z Z) ?_))))))))));refine yS Z (ab.getX (f := ci) (g := (fun v => (bQ v))) x.Head false dM Z Z Z Z y5 KI Z Z) ?_;refine zM Z (yS Z (fd Z Z Z) (yS Z (fd Z Z Z) (zM Z (zM Z (zN (zT (zQ (zQ (zR (zM Z (yS Z (ab.not Z Z) (zN (zT ?_)))))))))))));refine zX Z (fun g1 => ?_) (fun g1 => ?_)
 ·
  refine zi g1 hr fun hr => zQ (LW.draw2 (by kernel_rfl) (by kernel_rfl) (yE Z (zD Z Z Z dA Z Z) (yE Z (zA Z Z mm) (yE Z (zD Z Z Z aR Z Z) (zg hr fun q1 hr => yE Z (zC Z Z Z (by kernel_rfl) (zp (KX (l := l) (id := x.Head) (qz q1)) (.cons zv (.cons zv .nil)))) (yE Z (zD Z Z Z aR Z Z) (yE Z (zC Z Z Z (by kernel_rfl) (zp (L4 (l := (am l x.Head)) (v := id)) (.cons zv (.cons zv .nil)))) (zH Z (LO.nil (zT (zR (yS Z (zD Z Z Z Ed Z Z) (yS Z (zA Z Z mm) (yS Z (zD Z Z Z aR Z Z) (zM Z ?_)))))))))))))));refine yS Z (ab.setX (f := ci) (g := (fun v => (bQ v))) x.Head (decide (aE (am l x.Head) id ≥ 0)) dM (.inl Z) Z Z Z Z Z y5 Z) ?_;refine zN (zT (zQ (zR (zM Z (zM Z (zN (zT (zr ?_))))))));obtain rfl := zJ hr;refine a8 (env' := [(5, .p (.bool (decide (aE (am l x.Head) id ≥ 0))))]) (H' := [.box (bI c), .box [(kB l)], .box [(uQ id.1), (uQ id.2)], .map (ah ci (fun v => (bQ v)) (aP m x.Head (decide (aE (am l x.Head) id ≥ 0)))), .box [.map 3]]) (zW 5 ⟨rfl, trivial⟩ Z Z Z (zL Z (zL Z (zL Z (zL (ae (fun _ => rfl) _) (zL Z Z)))))) (.one (.tmp Z)) ?_;exact ⟨rfl, rfl⟩
 ·
  refine zo g1 hr fun hr => zk (zT (zQ (zR (zM Z (zM Z (zN (zT (zr ?_))))))));obtain rfl := zJ hr;refine a8 (env' := [(5, .p (.bool ((af m x.Head).getD false)))]) (H' := [.box (bI c), .box [(kB l)], .box [(uQ id.1), (uQ id.2)], .map (ah ci (fun v => (bQ v)) m), .box [.map 3]]) (zW 5 ⟨rfl, trivial⟩ Z Z Z (zL Z (zL Z (zL Z (zL (ae (fun _ => rfl) _) (zL Z Z)))))) (.one (.tmp Z)) ?_;exact ⟨rfl, rfl⟩
structure iq where
 t12 : Int
 o3 : List (ID × Bool)
 out : List Int
def mX (v : List Vt) (c : Cf) (l : List Bk) (id : ID) (x1 : iq) : Option (iq ⊕ iq) :=
 bif decide (x1.t12 < (v.length : Int)) then
  (ix v x1.t12).bind fun y1 =>
  (BU y1 c l id x1.o3).bind fun v2 =>
  bif v2.1 then
   (EO y1).bind fun v3 =>
   bif room x1.out.length [v3].length 8 then
    some (.inl (iq.mk (IntKind.i64.wrap (x1.t12 + 1)) v2.2 (x1.out ++ [v3])))
   else none
  else
   some (.inl (iq.mk (IntKind.i64.wrap (x1.t12 + 1)) v2.2 x1.out))
 else
  some (.inr (iq.mk x1.t12 x1.o3 x1.out))
def BV (v : List Vt) (c : Cf) (l : List Bk) (id : ID) (m : List (ID × Bool)) : Option (List Int × List (ID × Bool)) :=
 (iter (mX v c l id) bG (iq.mk 0 m ([] : List Int))).bind fun v1 =>
 some (v1.out, v1.o3)
theorem Jx {v : List Vt} {c : Cf} {l : List Bk} {id : ID} {m : List (ID × Bool)} {r_ : List Int × List (ID × Bool)} (hr : BV v c l id m = some r_) : LC Tryz.prog 152 [(kV v), .fn 151 [] [.ptr 4 0, .ptr 1 0, .ptr 2 0], .fn 153 [] []] [.box (bI c), .box [(kB l)], .box [(uQ id.1), (uQ id.2)], .map (ah ci (fun v => (bQ v)) m), .box [.map 3]] (Is (kI r_.1) [.box (bI c), .box [(kB l)], .box [(uQ id.1), (uQ id.2)], .map (ah ci (fun v => (bQ v)) r_.2), .box [.map 3]]) := by
 refine dp Tryz.func152 Z Z Z ?_;unfold BV at hr;refine zQ (zR (zM Z (zN (zT (zQ (zR (zM Z (zN (zT (zQ (zQ (zR (zM Z (yS Z (d7 Z Z (by kernel_rfl)) (zM Z (zN (zT (LW.ent (bO.lazy (t := 7) (m := 1) Z Z Z) ?_))))))))))))))))));obtain ⟨v1, hb_v1, ho_v1⟩ := zB hr;clear hr;refine LW.tail (E := [(6, .zs), (7, (jI 5 v1.out))]) (O := [.box (bI c), .box [(kB l)], .box [(uQ id.1), (uQ id.2)], .map (ah ci (fun v => (bQ v)) v1.o3), .box [.map 3], .vec 1 (v1.out.map aG)]) ?_ (fun env_v1 H_v1 hw_v1 => ?_)
 ·refine LW.block ?_;refine LW.iterB (E := fun x1 : iq => [(1, .fn 151 [] [.ptr 4 0, .ptr 1 0, .ptr 2 0]), (2, .fn 153 [] []), (6, .zs), (7, (jI 5 x1.out)), (10, (kV v)), (11, .p (.int .i64 (v.length : Int))), (12, (iQ x1.t12))]) (O := fun x1 => [.box (bI c), .box [(kB l)], .box [(uQ id.1), (uQ id.2)], .map (ah ci (fun v => (bQ v)) x1.o3), .box [.map 3], .vec 1 (x1.out.map aG)]) hb_v1 (zW 6 ⟨rfl, rfl, rfl, rfl, rfl, rfl, rfl, trivial⟩ Z Z Z (zL Z (zL Z (zL Z (zL (ae (fun _ => rfl) _) (zL Z (zL Z Z))))))) (fun x1 z_x1 hr hb_x1 => ?_);unfold mX at hr;refine zQ (zR (yS Z (ax Z Z Z Z) (zN (zT (zQ ?_)))));refine zX Z (fun g1 => ?_) (fun g1 => ?_)
  ·
   refine zi g1 hr fun hr => zk (zT (zQ (zl (zQ (zR (zb hr fun y1 h_y1 hr => yS Z (zx Z Z Z dQ h_y1 Z) (yS Z (d6 Z Z Z cR Z Z) (yS Z (ze Z uk Z Z) (yS Z (zs Z Z Z Z cR Z Z Z Z) (zN (zT (zQ (zR (zM Z (yS Z (zD Z Z Z cR Z Z) (zb hr fun v2 h_v2 hr => ?_))))))))))))))));refine yS Z (zC Z Z Z (by kernel_rfl) (LC.pre (Jw h_v2) Z (zL Z (zL Z (zL Z (zL (ae (fun _ => rfl) _) (zL Z Z))))) Z)) ?_;refine zN (zT ?_);refine zX Z (fun g2 => ?_) (fun g2 => ?_)
   ·
    refine zi g2 hr fun hr => zR (zM Z (zM Z (yS Z (zD Z Z Z cR Z Z) (zb hr fun v3 h_v3 hr => yS Z (zC Z Z Z (by kernel_rfl) (zp (Lq h_v3) (.cons zv .nil))) (yS Z (mS Z fX Z Z Z Z Z) (zg hr fun q1 hr => yS Z (ab.appendX aG x1.out [v3] rfl Z Z Z ku.p Z fX q1 Z) (zM Z (zN (ai (zT (zR (yS Z (ax Z Z Z Z) (zM Z (zN (zT ?_)))))))))))))));obtain rfl := zJ hr;exact ⟨_, rfl, zW 6 ⟨rfl, rfl, rfl, rfl, rfl, rfl, rfl, trivial⟩ Z Z Z (zL Z (zL Z (zL Z (zL (ae (fun _ => rfl) _) (zL Z (zL Z Z))))))⟩
   ·
    refine zo g2 hr fun hr => zk (ai (zT (zR (yS Z (ax Z Z Z Z) (zM Z (zN (zT ?_)))))));obtain rfl := zJ hr;exact ⟨_, rfl, zW 6 ⟨rfl, rfl, rfl, rfl, rfl, rfl, rfl, trivial⟩ Z Z Z (zL Z (zL Z (zL Z (zL (ae (fun _ => rfl) _) (zL Z (zL Z Z))))))⟩
  ·
   refine zo g1 hr fun hr => zq (ap (ap (zy (zT ?_))));obtain rfl := zJ hr;have hr := congrArg some (hb_x1 _ rfl);obtain rfl := zJ hr;exact zW 6 ⟨Z, Z, trivial⟩ Z Z Z (zL Z (zL Z (zL Z (zL (ae (fun _ => rfl) _) (zL Z (zL Z Z))))))
 ·have hr := ho_v1;clear hb_v1;refine zT (LW.weak hw_v1 (zQ (zR (zM Z (zM Z (zN (zT ?_)))))));refine LW.weak (env' := [(6, (jI 5 v1.out))]) (H' := [.box (bI c), .box [(kB l)], .box [(uQ id.1), (uQ id.2)], .map (ah ci (fun v => (bQ v)) v1.o3), .box [.map 3], .vec 1 (v1.out.map aG)]) (zW 6 ⟨rfl, trivial⟩ Z Z Z (zL Z (zL Z (zL Z (zL (ae (fun _ => rfl) _) (zL Z (zL Z Z))))))) ?_;refine LW.ent (bO.frz (t := 6) (env' := []) (H0 := [.box (bI c), .box [(kB l)], .box [(uQ id.1), (uQ id.2)], .map (ah ci (fun v => (bQ v)) v1.o3), .box [.map 3]]) Z Z Z Z Z trivial Z (zL Z (zL Z (zL Z (zL (ae (fun _ => rfl) _) (zL Z Z)))))) ?_;refine LW.ret ?_;obtain rfl := zJ hr;exact aq (.one (.tmp Z)) (⟨rfl, rfl⟩)
def z7 (c : Cf) (l : List Bk) (v : List Vt) (id : ID) : Option Int :=
 (BV v c l id []).bind fun v1 =>
 (FS c v1.1).bind fun v2 =>
 some v2
theorem IT {c : Cf} {l : List Bk} {v : List Vt} {id : ID} {r_ : Int} (hr : z7 c l v id = some r_) : aw Tryz.prog 112 [jC c, .slice 5 (l.map ay), .slice 4 (v.map aJ), ci id] [.int .i64 r_] := by
 refine zh Tryz.func112 Z Z Z Z ?_;unfold z7 at hr;refine zQ (zR (yS Z (b6 Z Z Z Z Z) (yS Z (b6 Z Z Z Z Z) (yS Z (b6 Z Z Z Z Z) (zM Z (zN (zT (zQ (zR (yS Z (ab.makeMap Z Z Z) (yS Z (ze Z KM Z Z) (yS Z (zs Z Z Z Z Ed Z Z Z Z) (zN (zT (zQ (zR (yS Z (ab.makeFunc Z Z Z) (zM Z (zN (zT (zQ (LW.drawW (by kernel_rfl) (by kernel_rfl) (yF Z (zd Z Z Z bA Z Z) Z ?_)))))))))))))))))))))));refine zK Z (zK Z (zb hr fun v1 h_v1 hr => ?_));refine yF Z (bL.all (s := some (3, .map (ah ci (fun v => (bQ v)) v1.2))) (zC Z Z Z (by kernel_rfl) (Jx h_v1)) Z Z Z) Z ?_;obtain ⟨v2, h_v2, hr⟩ := zB hr;refine yF (F := []) (s := none) Z (fun H _ => zC Z Z Z (by kernel_rfl) (zp (K0 h_v2) (.cons zv (.cons zv .nil)))) Z ?_;refine zK Z ?_;refine LF.nil ⟨by kernel_rfl, ?_⟩;refine zT (zr ?_);obtain rfl := zJ hr;exact zf (.one (.tmp Z)) zv
structure fT where
 t19 : Int
 best : Rk
def p6 (c : Cf) (l : List Bk) (v : List Vt) (v1 : (List ID)) (x1 : fT) : Option (fT ⊕ fT) :=
 bif decide (x1.t19 < (v1.length : Int)) then
  (ix v1 x1.t19).bind fun y1 =>
  (z7 c l v y1).bind fun v3 =>
  (BJ (Rk.mk v3 y1) x1.best).bind fun v4 =>
  bif v4 then
   some (.inl (fT.mk (IntKind.i64.wrap (x1.t19 + 1)) (Rk.mk v3 y1)))
  else
   some (.inl (fT.mk (IntKind.i64.wrap (x1.t19 + 1)) x1.best))
 else
  some (.inr (fT.mk x1.t19 x1.best))
def Ip (c : Cf) (l : List Bk) (v : List Vt) (id : ID) : Option (ID × Bool) :=
 (Im l id).bind fun v1 =>
 (iter (p6 c l v v1) bG (fT.mk 0 (Rk.mk (-1) (0, 0)))).bind fun v2 =>
 some (v2.best.id, decide (v2.best.n ≥ 0))
theorem Me {c : Cf} {l : List Bk} {v : List Vt} {id : ID} {r_ : ID × Bool} (hr : Ip c l v id = some r_) : aw Tryz.prog 154 [jC c, .slice 5 (l.map ay), .slice 4 (v.map aJ), ci id] [ci r_.1, .bool r_.2] := by
 refine zh Tryz.func154 Z Z Z Z ?_;unfold Ip at hr;refine zQ (zR (yS Z (b6 Z Z Z Z Z) (yS Z (b6 Z Z Z Z Z) (yS Z (ze Z ka Z Z) (zM Z (zN (zT (zQ (zR (yS Z (ab.build Z FW Z Z Z) (yS Z (ze Z GE Z Z) (yS Z (zs Z Z Z Z pn Z Z Z Z) (zN (zT (zQ (zQ (zR (zM Z (yS Z (zD Z Z Z aR Z Z) (zb hr fun v1 h_v1 hr => yS Z (zC Z Z Z (by kernel_rfl) (zp (Mc h_v1) (.cons zv (.cons zv .nil)))) (yS Z (d7 Z Z (by kernel_rfl)) (zM Z ?_))))))))))))))))))))));refine zN (zT ?_);obtain ⟨v2, hb_v2, ho_v2⟩ := zB hr;clear hr;refine LW.tail (E := [(8, .ptr 2 0), (9, (bQ false)), (10, .ptr 3 0)]) (O := [.box (bI c), .box [(uQ id.1), (uQ id.2)], .box [(uQ 0), (uQ 0)], .box [(iQ v2.best.n), (uQ v2.best.id.1), (uQ v2.best.id.2)]]) ?_ (fun env_v2 H_v2 hw_v2 => ?_)
 ·refine LW.block ?_;refine LW.iterB (E := fun x1 : fT => [(1, (kB l)), (2, (kV v)), (4, .ptr 0 0), (8, .ptr 2 0), (9, (bQ false)), (10, .ptr 3 0), (17, .p (.slice 2 (v1.map ci))), (18, .p (.int .i64 (v1.length : Int))), (19, (iQ x1.t19))]) (O := fun x1 => [.box (bI c), .box [(uQ id.1), (uQ id.2)], .box [(uQ 0), (uQ 0)], .box [(iQ x1.best.n), (uQ x1.best.id.1), (uQ x1.best.id.2)]]) hb_v2 (zW 4 ⟨rfl, rfl, rfl, rfl, rfl, rfl, rfl, rfl, rfl, trivial⟩ Z Z Z Z) (fun x1 z_x1 hr hb_x1 => ?_);unfold p6 at hr;refine zQ (zR (yS Z (ax Z Z Z Z) (zN (zT (zQ ?_)))));refine zX Z (fun g1 => ?_) (fun g1 => ?_)
  ·
   refine zi g1 hr fun hr => zk (zT (zQ (zl (zQ (zR (zb hr fun y1 h_y1 hr => yS Z (zx Z Z Z rl h_y1 Z) (yS Z (d6 Z Z Z aR Z Z) (yS Z (ze Z ka Z Z) (yS Z (zs Z Z Z Z aR Z Z Z Z) (zN (zT (zQ (LW.ent (bO.slot Z) (LW.drawW (by kernel_rfl) (by kernel_rfl) (yF Z (zd Z Z Z bA Z Z) Z (zK Z (zK Z (yF Z (zd Z Z Z aR Z Z) Z (zb hr fun v3 h_v3 hr => ?_)))))))))))))))))));refine yF (F := []) (s := none) Z (fun H _ => zC Z Z Z (by kernel_rfl) (zp (IT h_v3) (.cons zv (.cons zv (.cons zv (.cons zv .nil)))))) Z ?_;refine yF Z (zd Z Z Z aR Z Z) Z ?_;refine yF (F := []) (s := none) Z (fun H _ => ab.build Z FW Z Z Z) Z ?_;refine yF Z (bL.alloc Z GE (id := 5) Z) Z (yF Z (zt Z Z Z Z pn Z Z Z) Z ?_);refine LF.nil ⟨by kernel_rfl, ?_⟩;refine zT (zQ (zR (yS Z (zD Z Z Z pn Z Z) (yS Z (zD Z Z Z pn Z Z) (zb hr fun v4 h_v4 hr => yS Z (zC Z Z Z (by kernel_rfl) (zp (Li h_v4) (.cons zv (.cons zv .nil)))) (zN (zT ?_)))))));refine zX Z (fun g2 => ?_) (fun g2 => ?_)
   ·
    refine zi g2 hr fun hr => zR (yS Z (zD Z Z Z pn Z Z) (yS Z (zs Z Z Z Z pn Z Z Z Z) (zN (ai (zT (zR (yS Z (ax Z Z Z Z) (zM Z (zN (zT ?_))))))))));obtain rfl := zJ hr;exact ⟨_, rfl, zW 4 ⟨rfl, rfl, rfl, rfl, rfl, rfl, rfl, rfl, rfl, trivial⟩ Z Z Z rfl⟩
   ·
    refine zo g2 hr fun hr => zk (ai (zT (zR (yS Z (ax Z Z Z Z) (zM Z (zN (zT ?_)))))));obtain rfl := zJ hr;exact ⟨_, rfl, zW 4 ⟨rfl, rfl, rfl, rfl, rfl, rfl, rfl, rfl, rfl, trivial⟩ Z Z Z rfl⟩
  ·
   refine zo g1 hr fun hr => zq (ap (ap (zy (zT ?_))));obtain rfl := zJ hr;have hr := congrArg some (hb_x1 _ rfl);obtain rfl := zJ hr;exact zW 4 ⟨Z, Z, Z, trivial⟩ Z Z Z Z
 ·have hr := ho_v2;clear hb_v2;refine zT (LW.weak hw_v2 (zQ (LW.drawW (by kernel_rfl) (by kernel_rfl) ?_)));refine yF (F := []) (s := none) Z (fun H _ => zA Z Z tK) Z ?_;refine yF Z (zd Z Z Z aR Z Z) Z ?_;refine yF (F := []) (s := none) Z (fun H _ => zA Z Z nf) Z ?_;refine yF Z (zd Z Z Z bC Z Z) Z ?_;refine yF (F := []) (s := none) Z (fun H _ => ax Z Z Z Z) Z ?_;refine yF Z (zt Z Z Z Z aR Z Z Z) Z (zK Z ?_);refine LF.nil ⟨by kernel_rfl, ?_⟩;refine zT (zr ?_);obtain rfl := zJ hr;exact zf (.two (.cellAgg Z Z (by kernel_rfl) Z) (.tmp Z)) (⟨_, rfl, (.cons zv (.cons zv .nil))⟩)
structure l7 where
 id : ID
def l8 (c : Cf) (l : List Bk) (v : List Vt) (x1 : l7) : Option (l7 ⊕ l7) :=
 (Ip c l v x1.id).bind fun v2 =>
 bif !v2.2 then
  some (.inr (l7.mk x1.id))
 else
  some (.inl (l7.mk v2.1))
def Iq (c : Cf) (l : List Bk) (v : List Vt) : Option ID :=
 (iter (l8 c l v) bG (l7.mk (0, 0))).bind fun v1 =>
 some v1.id
theorem Mf {c : Cf} {l : List Bk} {v : List Vt} {r_ : ID} (hr : Iq c l v = some r_) : aw Tryz.prog 114 [jC c, .slice 5 (l.map ay), .slice 4 (v.map aJ)] [ci r_] := by
 refine zh Tryz.func114 Z Z Z Z ?_;unfold Iq at hr;refine zQ (zR (yS Z (b6 Z Z Z Z Z) (yS Z (ze Z ka Z Z) (zN (zT (LW.scope (zQ (LW.label (zT ?_)))))))));obtain ⟨v1, hb_v1, ho_v1⟩ := zB hr;clear hr;refine LW.cut (E := [(6, .ptr 1 0)]) (O := [.box (bI c), .box [(uQ v1.id.1), (uQ v1.id.2)]]) ?_ ?_
 ·refine LW.block ?_;refine LW.iterB (E := fun x1 : l7 => [(1, (kB l)), (2, (kV v)), (3, .ptr 0 0), (6, .ptr 1 0)]) (O := fun x1 => [.box (bI c), .box [(uQ x1.id.1), (uQ x1.id.2)]]) hb_v1 (zW 2 ⟨rfl, rfl, rfl, rfl, trivial⟩ Z Z Z Z) (fun x1 z_x1 hr hb_x1 => ?_);unfold l8 at hr;refine zl (zQ (zR (yS Z (zD Z Z Z bA Z Z) (zM Z (zM Z (yS Z (zD Z Z Z aR Z Z) (zb hr fun v2 h_v2 hr => yS Z (zC Z Z Z (by kernel_rfl) (zp (Me h_v2) (.cons zv (.cons zv (.cons zv (.cons zv .nil)))))) (zM Z (yS Z (fd Z Z Z) (yS Z (fd Z Z Z) (yS Z (ze Z ka Z Z) (yS Z (zs Z Z Z Z aR Z Z Z Z) (zM Z (zN (zT (zQ (zQ (zR (zM Z (yS Z (ab.not Z Z) (zN (zT ?_))))))))))))))))))))));refine zX Z (fun g1 => ?_) (fun g1 => ?_)
  ·
   refine zi g1 hr fun hr => zq (ap (kP (by decide) (ap (zy (zT ?_)))));obtain rfl := zJ hr;have hr := congrArg some (hb_x1 _ rfl);obtain rfl := zJ hr;exact zW 2 ⟨Z, trivial⟩ Z Z Z Z
  ·
   refine zo g1 hr fun hr => zk (zT (zR (yS Z (zD Z Z Z aR Z Z) (yS Z (zs Z Z Z Z aR Z Z Z Z) (zN (ai (zT ?_)))))));obtain rfl := zJ hr;exact ⟨_, rfl, zW 2 ⟨rfl, rfl, rfl, rfl, trivial⟩ Z Z Z rfl⟩
 ·have hr := ho_v1;clear hb_v1;refine zQ (zR (yS Z (zD Z Z Z aR Z Z) (yS Z (zs Z Z Z Z aR Z Z Z Z) (zN (zT (zr (q6 ?_)))))));obtain rfl := zJ hr;exact zf (.one (.cellAgg Z Z (by kernel_rfl) Z)) zv
open Go.Proofs
theorem vc {α : Type} {f : α → PV} {l : List α} (hb : room 0 l.length 40 = true) : LC Tryz.prog 128 [.p (.slice 5 (l.map f))] [] (Is (.vec 5 0 (l.map f).length 0 (l.map f).length) [.vec 5 (l.map f)]) := by
 refine dp Tryz.func128 Z Z Z ?_;refine zQ (zR (yS Z (za Z Z) (zN (zT (zQ (zQ (zR (yS Z (zm Z Z) (ao.cons Z Z Z (ab.eqNil Z Z Z ew) ?_)))))))));rintro _ _ ⟨rfl, b, rfl, hn⟩;refine zN (zT ?_);refine zX Z (fun g => ?_) (fun g => ?_)
 ·have hl : l = [] := List.map_eq_nil_iff.1 (hn g);subst hl;exact zQ (zR (yS Z (za Z Z) (zN (zT (LW.ent (bO.lazy (t := 2) (m := 5) Z Z Z) (zr (aj (aq (.one (.tmp Z)) ⟨rfl, rfl⟩))))))))
 ·refine LW.skip ?_;exact zT (zQ (zR (yS Z (ab.buildSlice0 Z ew) (yS Z (zm Z Z) (yS Z (ab.appendZX f l Z Z Z Z ku.p Z ew hb Z) (yS Z (za Z Z) (zN (zT (zr (aq (.one (.tmp Z)) ⟨rfl, rfl⟩))))))))))
theorem vd {α : Type} {f : α → PV} {l : List α} (hb : room 0 l.length 32 = true) : LC Tryz.prog 129 [.p (.slice 4 (l.map f))] [] (Is (.vec 4 0 (l.map f).length 0 (l.map f).length) [.vec 4 (l.map f)]) := by
 refine dp Tryz.func129 Z Z Z ?_;refine zQ (zR (yS Z (za Z Z) (zN (zT (zQ (zQ (zR (yS Z (zm Z Z) (ao.cons Z Z Z (ab.eqNil Z Z Z dQ) ?_)))))))));rintro _ _ ⟨rfl, b, rfl, hn⟩;refine zN (zT ?_);refine zX Z (fun g => ?_) (fun g => ?_)
 ·have hl : l = [] := List.map_eq_nil_iff.1 (hn g);subst hl;exact zQ (zR (yS Z (za Z Z) (zN (zT (LW.ent (bO.lazy (t := 2) (m := 4) Z Z Z) (zr (aj (aq (.one (.tmp Z)) ⟨rfl, rfl⟩))))))))
 ·refine LW.skip ?_;exact zT (zQ (zR (yS Z (ab.buildSlice0 Z dQ) (yS Z (zm Z Z) (yS Z (ab.appendZX f l Z Z Z Z ku.p Z dQ hb Z) (yS Z (za Z Z) (zN (zT (zr (aq (.one (.tmp Z)) ⟨rfl, rfl⟩))))))))))
def Ir (c : Cf) (b : Bk) : Option Bool :=
 (ET c b.Slot).bind fun v1 =>
 bif decide (v1 ≥ 0) then
  bif v1 == b.From then
   some (!((((nm b).1) == 0) && ((((nm b).2) == 0) && true)))
  else
   some false
 else
  some false
theorem Mh {c : Cf} {b : Bk} {r_ : Bool} (hr : Ir c b = some r_) : aw Tryz.prog 133 [jC c, ay b] [.bool r_] := by
 refine zh Tryz.func133 Z Z Z Z ?_;unfold Ir at hr;refine zQ (zR (yS Z (b6 Z Z Z Z Z) (yS Z (b6 Z Z Z Z Z) (zM Z (zN (zT (zQ (zR (yS Z (zD Z Z Z bA Z Z) (yS Z (zA Z Z kM) (yS Z (zD Z Z Z bC Z Z) (zb hr fun v1 h_v1 hr => yS Z (zC Z Z Z (by kernel_rfl) (zp (KY h_v1) (.cons zv (.cons zv .nil)))) (zM Z (zN (zT (zQ (zR (zM Z (yS Z (ax Z Z Z Z) (zM Z ?_))))))))))))))))))));refine zc 12 Z (fun g1 => ?_) (fun g1 => ?_)
 ·
  refine zi g1 hr fun hr => yV Z (gd g1 Z) (zm Z Z) (yV Z (gd g1 Z) (zA Z Z xf) (yV Z (gd g1 Z) (zD Z Z Z bC Z Z) (yV Z (gd g1 Z) (ax Z Z Z Z) (yS Z (eF Z (bM g1 Z) Z) (zM Z ?_)))));refine zc 18 Z (fun g2 => ?_) (fun g2 => ?_)
  ·
   refine zi g2 hr fun hr => yV Z (gd g2 Z) (zD Z Z Z cN Z Z) (yV Z (gd g2 Z) (zC Z Z Z (by kernel_rfl) (zp (Ha (b := b)) (.cons zv .nil))) (yV Z (gd g2 Z) (ab.build Z w4 Z Z Z) (yV Z (gd g2 Z) (ab.neqAgg Z Z Z Z Z vo) (yS Z (eF Z (bM g2 Z) Z) (zM Z (zN (zT (zr ?_))))))));obtain rfl := zJ hr;exact zf (.one (.tmp Z)) zv
  ·
   refine zo g2 hr fun hr => yU Z (gd g2 Z) Z (yU Z (gd g2 Z) Z (yU Z (gd g2 Z) Z (yU Z (gd g2 Z) Z (yS Z (df Z (bM g2 Z) Z) (zM Z (zN (zT (zr ?_))))))));obtain rfl := zJ hr;exact zf (.one (.tmp Z)) zv
 ·
  refine zo g1 hr fun hr => yU Z (gd g1 Z) Z (yU Z (gd g1 Z) Z (yU Z (gd g1 Z) Z (yU Z (gd g1 Z) Z (yS Z (df Z (bM g1 Z) Z) (zM Z (yU Z Z Z (yU Z Z Z (yU Z Z Z (yU Z Z Z (yS Z (df Z Z Z) (zM Z (zN (zT (zr ?_))))))))))))));obtain rfl := zJ hr;exact zf (.one (.tmp Z)) zv
def It (c : Cf) (v : Vt) : Option Bool :=
 (HV c v.Slot v.From).bind fun v1 =>
 some v1
theorem Mi {c : Cf} {v : Vt} {r_ : Bool} (hr : It c v = some r_) : aw Tryz.prog 135 [jC c, aJ v] [.bool r_] := by
 refine zh Tryz.func135 Z Z Z Z ?_;unfold It at hr;refine zQ (zR (yS Z (b6 Z Z Z Z Z) (yS Z (b6 Z Z Z Z Z) (zM Z (zN (zT (zQ (zR (yS Z (zD Z Z Z bA Z Z) (yS Z (zA Z Z qO) (yS Z (zD Z Z Z bC Z Z) (yS Z (zA Z Z qN) (yS Z (zD Z Z Z bC Z Z) (zb hr fun v1 h_v1 hr => yS Z (zC Z Z Z (by kernel_rfl) (zp (L2 h_v1) (.cons zv (.cons zv (.cons zv .nil))))) (zM Z (zN (zT (zr ?_))))))))))))))))));obtain rfl := zJ hr;exact zf (.one (.tmp Z)) zv
structure fu where
 t8 : Int
def lq (s : List Bk) (v : Bk) (x1 : fu) : Option (fu ⊕ (fu ⊕ Int)) :=
 bif decide (x1.t8 < (s.length : Int)) then
  (ix s x1.t8).bind fun y1 =>
  bif ((v.Slot == y1.Slot) && ((v.From == y1.From) && ((v.Parent.1 == y1.Parent.1) && ((v.Parent.2 == y1.Parent.2) && ((v.Salt == y1.Salt) && true))))) then
   some (.inr (.inr x1.t8))
  else
   some (.inl (fu.mk (IntKind.i64.wrap (x1.t8 + 1))))
 else
  some (.inr (.inl (fu.mk x1.t8)))
def ER (s : List Bk) (v : Bk) : Option Int :=
 (iter (lq s v) bG (fu.mk 0)).bind fun b_v1 => Sum.elim (fun _ =>
  some (-1)) some b_v1
theorem Lt {s : List Bk} {v : Bk} {r_ : Int} (hr : ER s v = some r_) : aw Tryz.prog 130 [.slice 5 (s.map ay), ay v] [.int .i64 r_] := by
 refine zh Tryz.func130 Z Z Z Z ?_;unfold ER at hr;refine zQ (zR (yS Z (b6 Z Z Z Z Z) (zM Z (zN (zT (zQ (zQ (zR (zM Z (yS Z (d7 Z Z (by kernel_rfl)) (zM Z (zN (zT ?_)))))))))))));obtain ⟨b_v1, hb_v1, ho_v1⟩ := zB hr;clear hr;refine LW.tailB (b := b_v1) (E := fun v1 => [(4, (iQ 0))]) (O := fun v1 => [.box [(iQ v.Slot), (iQ v.From), (uQ v.Parent.1), (uQ v.Parent.2), (uQ v.Salt)]]) ?_ (fun v1 e_v1 env_v1 H_v1 hw_v1 => ?_)
 ·refine LW.block ?_;refine LW.iterB (E := fun x1 : fu => [(0, (kB s)), (3, .ptr 0 0), (4, (iQ 0)), (7, .p (.int .i64 (s.length : Int))), (8, (iQ x1.t8))]) (O := fun x1 => [.box [(iQ v.Slot), (iQ v.From), (uQ v.Parent.1), (uQ v.Parent.2), (uQ v.Salt)]]) hb_v1 (zW 1 ⟨rfl, rfl, rfl, rfl, rfl, trivial⟩ Z Z Z Z) (fun x1 z_x1 hr hb_x1 => ?_);unfold lq at hr;refine zQ (zR (yS Z (ax Z Z Z Z) (zN (zT (zQ ?_)))));refine zX Z (fun g1 => ?_) (fun g1 => ?_)
  ·
   refine zi g1 hr fun hr => zk (zT (zQ (zl (zQ (zR (zM Z (zM Z (zN (zT (zQ (LW.draw2 (by kernel_rfl) (by kernel_rfl) (yE Z (zD Z Z Z cN Z Z) (zH Z (zH Z (zb hr fun y1 h_y1 hr => yE Z (zx Z Z Z ew h_y1 Z) (yE Z (d6 Z Z Z cN Z Z) (yE Z (ab.eqlAgg Z Z Z Z Z JM) (LO.nil (zT ?_)))))))))))))))))));refine zX Z (fun g2 => ?_) (fun g2 => ?_)
   ·
    refine zi g2 hr fun hr => zQ (zR (zM Z (zM Z (zN (zT (zr (aA (aj (aj (aA (aj (aj ?_))))))))))));obtain rfl := zJ hr;have hr := congrArg some (hb_x1 _ rfl);obtain rfl := zJ hr;have hr := ey ho_v1;obtain rfl := zJ hr;exact zf (.one (.tmp Z)) zv
   ·
    refine zo g2 hr fun hr => zk (ai (zT (zR (yS Z (ax Z Z Z Z) (zM Z (zN (zT ?_)))))));obtain rfl := zJ hr;exact ⟨_, rfl, zW 1 ⟨rfl, rfl, rfl, rfl, rfl, trivial⟩ Z Z Z rfl⟩
  ·
   refine zo g1 hr fun hr => zq (ap (ap (zy (zT ?_))));obtain rfl := zJ hr;have hr := congrArg some (hb_x1 _ rfl);obtain rfl := zJ hr;exact ⟨_, rfl, zW 1 ⟨rfl, trivial⟩ Z Z Z rfl⟩
 ·obtain rfl := e_v1;have hr := ga ho_v1;clear hb_v1;refine zT (LW.weak hw_v1 (zQ (zR (zM Z (zN (zT (zr ?_)))))));obtain rfl := zJ hr;exact zf (.one (.tmp Z)) zv
structure fw where
 t8 : Int
def lr (s : List Vt) (v : Vt) (x1 : fw) : Option (fw ⊕ (fw ⊕ Int)) :=
 bif decide (x1.t8 < (s.length : Int)) then
  (ix s x1.t8).bind fun y1 =>
  bif ((v.From == y1.From) && ((v.Slot == y1.Slot) && ((v.Head.1 == y1.Head.1) && ((v.Head.2 == y1.Head.2) && true)))) then
   some (.inr (.inr x1.t8))
  else
   some (.inl (fw.mk (IntKind.i64.wrap (x1.t8 + 1))))
 else
  some (.inr (.inl (fw.mk x1.t8)))
def ES (s : List Vt) (v : Vt) : Option Int :=
 (iter (lr s v) bG (fw.mk 0)).bind fun b_v1 => Sum.elim (fun _ =>
  some (-1)) some b_v1
theorem Lu {s : List Vt} {v : Vt} {r_ : Int} (hr : ES s v = some r_) : aw Tryz.prog 131 [.slice 4 (s.map aJ), aJ v] [.int .i64 r_] := by
 refine zh Tryz.func131 Z Z Z Z ?_;unfold ES at hr;refine zQ (zR (yS Z (b6 Z Z Z Z Z) (zM Z (zN (zT (zQ (zQ (zR (zM Z (yS Z (d7 Z Z (by kernel_rfl)) (zM Z (zN (zT ?_)))))))))))));obtain ⟨b_v1, hb_v1, ho_v1⟩ := zB hr;clear hr;refine LW.tailB (b := b_v1) (E := fun v1 => [(4, (iQ 0))]) (O := fun v1 => [.box [(iQ v.From), (iQ v.Slot), (uQ v.Head.1), (uQ v.Head.2)]]) ?_ (fun v1 e_v1 env_v1 H_v1 hw_v1 => ?_)
 ·refine LW.block ?_;refine LW.iterB (E := fun x1 : fw => [(0, (kV s)), (3, .ptr 0 0), (4, (iQ 0)), (7, .p (.int .i64 (s.length : Int))), (8, (iQ x1.t8))]) (O := fun x1 => [.box [(iQ v.From), (iQ v.Slot), (uQ v.Head.1), (uQ v.Head.2)]]) hb_v1 (zW 1 ⟨rfl, rfl, rfl, rfl, rfl, trivial⟩ Z Z Z Z) (fun x1 z_x1 hr hb_x1 => ?_);unfold lr at hr;refine zQ (zR (yS Z (ax Z Z Z Z) (zN (zT (zQ ?_)))));refine zX Z (fun g1 => ?_) (fun g1 => ?_)
  ·
   refine zi g1 hr fun hr => zk (zT (zQ (zl (zQ (zR (zM Z (zM Z (zN (zT (zQ (LW.draw2 (by kernel_rfl) (by kernel_rfl) (yE Z (zD Z Z Z cR Z Z) (zH Z (zH Z (zb hr fun y1 h_y1 hr => yE Z (zx Z Z Z dQ h_y1 Z) (yE Z (d6 Z Z Z cR Z Z) (yE Z (ab.eqlAgg Z Z Z Z Z JN) (LO.nil (zT ?_)))))))))))))))))));refine zX Z (fun g2 => ?_) (fun g2 => ?_)
   ·
    refine zi g2 hr fun hr => zQ (zR (zM Z (zM Z (zN (zT (zr (aA (aj (aj (aA (aj (aj ?_))))))))))));obtain rfl := zJ hr;have hr := congrArg some (hb_x1 _ rfl);obtain rfl := zJ hr;have hr := ey ho_v1;obtain rfl := zJ hr;exact zf (.one (.tmp Z)) zv
   ·
    refine zo g2 hr fun hr => zk (ai (zT (zR (yS Z (ax Z Z Z Z) (zM Z (zN (zT ?_)))))));obtain rfl := zJ hr;exact ⟨_, rfl, zW 1 ⟨rfl, rfl, rfl, rfl, rfl, trivial⟩ Z Z Z rfl⟩
  ·
   refine zo g1 hr fun hr => zq (ap (ap (zy (zT ?_))));obtain rfl := zJ hr;have hr := congrArg some (hb_x1 _ rfl);obtain rfl := zJ hr;exact ⟨_, rfl, zW 1 ⟨rfl, trivial⟩ Z Z Z rfl⟩
 ·obtain rfl := e_v1;have hr := ga ho_v1;clear hb_v1;refine zT (LW.weak hw_v1 (zQ (zR (zM Z (zN (zT (zr ?_)))))));obtain rfl := zJ hr;exact zf (.one (.tmp Z)) zv
def Af (s : List Bk) (v : Bk) : Option Bool :=
 (ER s v).bind fun v1 =>
 some (decide (v1 ≥ 0))
theorem IY {s : List Bk} {v : Bk} {r_ : Bool} (hr : Af s v = some r_) : aw Tryz.prog 90 [.slice 5 (s.map ay), ay v] [.bool r_] := by
 refine zh Tryz.func90 Z Z Z Z ?_;unfold Af at hr;refine zQ (zR (yS Z (b6 Z Z Z Z Z) (zM Z (zN (zT (zQ (zR (zM Z (yS Z (zD Z Z Z cN Z Z) (zb hr fun v1 h_v1 hr => yS Z (zC Z Z Z (by kernel_rfl) (zp (Lt h_v1) (.cons zv (.cons zv .nil)))) (yS Z (ax Z Z Z Z) (zM Z (zN (zT (zr ?_)))))))))))))));obtain rfl := zJ hr;exact zf (.one (.tmp Z)) zv
def Ag (s : List Vt) (v : Vt) : Option Bool :=
 (ES s v).bind fun v1 =>
 some (decide (v1 ≥ 0))
theorem IZ {s : List Vt} {v : Vt} {r_ : Bool} (hr : Ag s v = some r_) : aw Tryz.prog 93 [.slice 4 (s.map aJ), aJ v] [.bool r_] := by
 refine zh Tryz.func93 Z Z Z Z ?_;unfold Ag at hr;refine zQ (zR (yS Z (b6 Z Z Z Z Z) (zM Z (zN (zT (zQ (zR (zM Z (yS Z (zD Z Z Z cR Z Z) (zb hr fun v1 h_v1 hr => yS Z (zC Z Z Z (by kernel_rfl) (zp (Lu h_v1) (.cons zv (.cons zv .nil)))) (yS Z (ax Z Z Z Z) (zM Z (zN (zT (zr ?_)))))))))))))));obtain rfl := zJ hr;exact zf (.one (.tmp Z)) zv
structure eB where
 t12 : Int
 out : List Bk
def lk (b : List Bk) (x1 : eB) : Option (eB ⊕ eB) :=
 bif decide (x1.t12 < (b.length : Int)) then
  (ix b x1.t12).bind fun y1 =>
  (Af x1.out y1).bind fun v2 =>
  bif !v2 then
   bif room x1.out.length [y1].length 40 then
    some (.inl (eB.mk (IntKind.i64.wrap (x1.t12 + 1)) (x1.out ++ [y1])))
   else none
  else
   some (.inl (eB.mk (IntKind.i64.wrap (x1.t12 + 1)) x1.out))
 else
  some (.inr (eB.mk x1.t12 x1.out))
def BR (a : List Bk) (b : List Bk) : Option (List Bk) :=
 bif room 0 a.length 40 then
  (iter (lk b) bG (eB.mk 0 a)).bind fun v1 =>
  some v1.out
 else none
theorem Lk {a : List Bk} {b : List Bk} {r_ : (List Bk)} (hr : BR a b = some r_) : aw Tryz.prog 123 [.slice 5 (a.map ay), .slice 5 (b.map ay)] [.slice 5 (r_.map ay)] := by
 refine zh Tryz.func123 Z Z Z Z ?_;unfold BR at hr;refine zQ (zR (zM Z (zN (zT (zQ (zR (zM Z (zg hr fun q1 hr => yS Z (ab.callV (qs := [(kB a)]) Z Z Z (by kernel_rfl) (vc q1) (.consC zv .nil) Z Z) (zM Z (zN (zT (zQ (zQ (zR (zM Z (yS Z (d7 Z Z (by kernel_rfl)) (zM Z (zN (zT ?_)))))))))))))))))));obtain ⟨v1, hb_v1, ho_v1⟩ := zB hr;clear hr;refine LW.tail (E := [(4, .zs), (5, (jB 0 v1.out))]) (O := [.vec 5 (v1.out.map ay)]) ?_ (fun env_v1 H_v1 hw_v1 => ?_)
 ·refine LW.block ?_;refine LW.iterB (E := fun x1 : eB => [(4, .zs), (5, (jB 0 x1.out)), (10, (kB b)), (11, .p (.int .i64 (b.length : Int))), (12, (iQ x1.t12))]) (O := fun x1 => [.vec 5 (x1.out.map ay)]) hb_v1 (zW 1 ⟨rfl, rfl, rfl, rfl, rfl, trivial⟩ Z Z Z Z) (fun x1 z_x1 hr hb_x1 => ?_);unfold lk at hr;refine zQ (zR (yS Z (ax Z Z Z Z) (zN (zT (zQ ?_)))));refine zX Z (fun g1 => ?_) (fun g1 => ?_)
  ·
   refine zi g1 hr fun hr => zk (zT (zQ (zl (zQ (zR (zb hr fun y1 h_y1 hr => yS Z (zx Z Z Z ew h_y1 Z) (yS Z (d6 Z Z Z cN Z Z) (yS Z (ze Z uj Z Z) (yS Z (zs Z Z Z Z cN Z Z Z Z) (zN (zT (zQ (zR (zM Z (yS Z (zD Z Z Z cN Z Z) (zb hr fun v2 h_v2 hr => yS Z (zC Z Z Z (by kernel_rfl) (LC.lend (IY h_v2) (.cons (Conv.vecAll Z Z Z) (.cons zv .nil)) Z)) (yS Z (ab.not Z Z) (zN (zT ?_)))))))))))))))))));refine zX Z (fun g2 => ?_) (fun g2 => ?_)
   ·
    refine zi g2 hr fun hr => zR (zM Z (yS Z (zD Z Z Z cN Z Z) (yS Z (mS Z ew Z Z Z Z Z) (zg hr fun q2 hr => yS Z (ab.appendX ay x1.out [y1] rfl Z Z Z ku.p Z ew q2 Z) (zM Z (zN (ai (zT (zR (yS Z (ax Z Z Z Z) (zM Z (zN (zT ?_)))))))))))));obtain rfl := zJ hr;exact ⟨_, rfl, zW 1 ⟨rfl, rfl, rfl, rfl, rfl, trivial⟩ Z Z Z rfl⟩
   ·
    refine zo g2 hr fun hr => zk (ai (zT (zR (yS Z (ax Z Z Z Z) (zM Z (zN (zT ?_)))))));obtain rfl := zJ hr;exact ⟨_, rfl, zW 1 ⟨rfl, rfl, rfl, rfl, rfl, trivial⟩ Z Z Z rfl⟩
  ·
   refine zo g1 hr fun hr => zq (ap (ap (zy (zT ?_))));obtain rfl := zJ hr;have hr := congrArg some (hb_x1 _ rfl);obtain rfl := zJ hr;exact zW 1 ⟨Z, Z, trivial⟩ Z Z Z Z
 ·have hr := ho_v1;clear hb_v1;refine zT (LW.weak hw_v1 (zQ (zR (zM Z (zM Z (zN (zT (zr ?_))))))));obtain rfl := zJ hr;exact zf (.one (.tmp Z)) ((Conv.vecAll Z Z Z))
structure eC where
 t12 : Int
 out : List Vt
def ll (b : List Vt) (x1 : eC) : Option (eC ⊕ eC) :=
 bif decide (x1.t12 < (b.length : Int)) then
  (ix b x1.t12).bind fun y1 =>
  (Ag x1.out y1).bind fun v2 =>
  bif !v2 then
   bif room x1.out.length [y1].length 32 then
    some (.inl (eC.mk (IntKind.i64.wrap (x1.t12 + 1)) (x1.out ++ [y1])))
   else none
  else
   some (.inl (eC.mk (IntKind.i64.wrap (x1.t12 + 1)) x1.out))
 else
  some (.inr (eC.mk x1.t12 x1.out))
def BS (a : List Vt) (b : List Vt) : Option (List Vt) :=
 bif room 0 a.length 32 then
  (iter (ll b) bG (eC.mk 0 a)).bind fun v1 =>
  some v1.out
 else none
theorem Ll {a : List Vt} {b : List Vt} {r_ : (List Vt)} (hr : BS a b = some r_) : aw Tryz.prog 124 [.slice 4 (a.map aJ), .slice 4 (b.map aJ)] [.slice 4 (r_.map aJ)] := by
 refine zh Tryz.func124 Z Z Z Z ?_;unfold BS at hr;refine zQ (zR (zM Z (zN (zT (zQ (zR (zM Z (zg hr fun q1 hr => yS Z (ab.callV (qs := [(kV a)]) Z Z Z (by kernel_rfl) (vd q1) (.consC zv .nil) Z Z) (zM Z (zN (zT (zQ (zQ (zR (zM Z (yS Z (d7 Z Z (by kernel_rfl)) (zM Z (zN (zT ?_)))))))))))))))))));obtain ⟨v1, hb_v1, ho_v1⟩ := zB hr;clear hr;refine LW.tail (E := [(4, .zs), (5, (jV 0 v1.out))]) (O := [.vec 4 (v1.out.map aJ)]) ?_ (fun env_v1 H_v1 hw_v1 => ?_)
 ·refine LW.block ?_;refine LW.iterB (E := fun x1 : eC => [(4, .zs), (5, (jV 0 x1.out)), (10, (kV b)), (11, .p (.int .i64 (b.length : Int))), (12, (iQ x1.t12))]) (O := fun x1 => [.vec 4 (x1.out.map aJ)]) hb_v1 (zW 1 ⟨rfl, rfl, rfl, rfl, rfl, trivial⟩ Z Z Z Z) (fun x1 z_x1 hr hb_x1 => ?_);unfold ll at hr;refine zQ (zR (yS Z (ax Z Z Z Z) (zN (zT (zQ ?_)))));refine zX Z (fun g1 => ?_) (fun g1 => ?_)
  ·
   refine zi g1 hr fun hr => zk (zT (zQ (zl (zQ (zR (zb hr fun y1 h_y1 hr => yS Z (zx Z Z Z dQ h_y1 Z) (yS Z (d6 Z Z Z cR Z Z) (yS Z (ze Z uk Z Z) (yS Z (zs Z Z Z Z cR Z Z Z Z) (zN (zT (zQ (zR (zM Z (yS Z (zD Z Z Z cR Z Z) (zb hr fun v2 h_v2 hr => yS Z (zC Z Z Z (by kernel_rfl) (LC.lend (IZ h_v2) (.cons (Conv.vecAll Z Z Z) (.cons zv .nil)) Z)) (yS Z (ab.not Z Z) (zN (zT ?_)))))))))))))))))));refine zX Z (fun g2 => ?_) (fun g2 => ?_)
   ·
    refine zi g2 hr fun hr => zR (zM Z (yS Z (zD Z Z Z cR Z Z) (yS Z (mS Z dQ Z Z Z Z Z) (zg hr fun q2 hr => yS Z (ab.appendX aJ x1.out [y1] rfl Z Z Z ku.p Z dQ q2 Z) (zM Z (zN (ai (zT (zR (yS Z (ax Z Z Z Z) (zM Z (zN (zT ?_)))))))))))));obtain rfl := zJ hr;exact ⟨_, rfl, zW 1 ⟨rfl, rfl, rfl, rfl, rfl, trivial⟩ Z Z Z rfl⟩
   ·
    refine zo g2 hr fun hr => zk (ai (zT (zR (yS Z (ax Z Z Z Z) (zM Z (zN (zT ?_)))))));obtain rfl := zJ hr;exact ⟨_, rfl, zW 1 ⟨rfl, rfl, rfl, rfl, rfl, trivial⟩ Z Z Z rfl⟩
  ·
   refine zo g1 hr fun hr => zq (ap (ap (zy (zT ?_))));obtain rfl := zJ hr;have hr := congrArg some (hb_x1 _ rfl);obtain rfl := zJ hr;exact zW 1 ⟨Z, Z, trivial⟩ Z Z Z Z
 ·have hr := ho_v1;clear hb_v1;refine zT (LW.weak hw_v1 (zQ (zR (zM Z (zM Z (zN (zT (zr ?_))))))));obtain rfl := zJ hr;exact zf (.one (.tmp Z)) ((Conv.vecAll Z Z Z))
def yn (a : Vw) (b : Vw) : Option Vw :=
 (BR a.B b.B).bind fun v1 =>
 (BS a.V b.V).bind fun v2 =>
 some (Vw.mk v1 v2)
theorem Eu {a : Vw} {b : Vw} {r_ : Vw} (hr : yn a b = some r_) : aw Tryz.prog 68 [mP a, mP b] [mP r_] := by
 refine zh Tryz.func68 Z Z Z Z ?_;unfold yn at hr;refine zQ (zR (yS Z (b6 Z Z Z Z Z) (yS Z (b6 Z Z Z Z Z) (yS Z (ze Z ig Z Z) (zN (zT (zQ (LW.drawLast (m := 11) (by kernel_rfl) (by kernel_rfl) (by kernel_rfl) (yE Z (zA Z Z bz) (yE Z (zD Z Z Z dA Z Z) (yE Z (zA Z Z bz) (yE Z (zD Z Z Z dA Z Z) (zb hr fun v1 h_v1 hr => yE Z (zC Z Z Z (by kernel_rfl) (zp (Lk h_v1) (.cons zv (.cons zv .nil)))) (yE Z (zA Z Z b9) (yE Z (zD Z Z Z eU Z Z) (yE Z (zA Z Z b9) (yE Z (zD Z Z Z eU Z Z) (zb hr fun v2 h_v2 hr => yE Z (zC Z Z Z (by kernel_rfl) (zp (Ll h_v2) (.cons zv (.cons zv .nil)))) (yE Z (ab.build Z oa Z Z Z) (LO.nil (yS Z (zs Z Z Z Z aS Z Z Z Z) ?_)))))))))))))))))))));refine zN (zT (zr ?_));obtain rfl := zJ hr;exact zf (.one (.cellAgg Z Z (by kernel_rfl) Z)) zv
structure KS where
 n : Int
 i : Int
structure KO where
 i : Int
structure KN where
 i : Int
structure KP where
 i : Int
 o3 : List Bk
structure KQ where
 there : Bool
 k : Int
structure KR where
 i : Int
 o4 : List Vt
def GH : Option Cf :=
 some (Cf.mk [1] 0 1 1 4)
theorem Lj {r_ : Cf} (hr : GH = some r_) : aw Tryz.prog 45 [] [jC r_] := by
 refine zh Tryz.func45 Z Z Z Z ?_;unfold GH at hr;refine zQ (zR (yS Z (ze Z LX Z Z) (zN (zT (zQ (zR (yS Z (mS Z fX Z Z Z Z Z) (yS Z (ab.build Z Lb Z Z Z) (yS Z (zs Z Z Z Z bA Z Z Z Z) (zN (zT (zr ?_))))))))))));obtain rfl := zJ hr;exact zf (.one (.cellAgg Z Z (by kernel_rfl) Z)) zv
open Go.Proofs
structure ez where
 t12 : Int
 out : List Bk
def ld (c : Cf) (l : List Bk) (x1 : ez) : Option (ez ⊕ ez) :=
 bif decide (x1.t12 < (l.length : Int)) then
  (ix l x1.t12).bind fun y1 =>
  (Ir c y1).bind fun v2 =>
  bif v2 then
   bif room x1.out.length [y1].length 40 then
    some (.inl (ez.mk (IntKind.i64.wrap (x1.t12 + 1)) (x1.out ++ [y1])))
   else none
  else
   some (.inl (ez.mk (IntKind.i64.wrap (x1.t12 + 1)) x1.out))
 else
  some (.inr (ez.mk x1.t12 x1.out))
def z8 (c : Cf) (l : List Bk) : Option (List Bk) :=
 (iter (ld c l) bG (ez.mk 0 ([] : List Bk))).bind fun v1 =>
 some v1.out
theorem Ga {c : Cf} {l : List Bk} {r_ : List Bk} (hr : z8 c l = some r_) : LC Tryz.prog 132 [.p (jC c), (kB l), .fn 133 [] []] [] (Is (jB 0 r_) [.vec 5 (r_.map ay)]) := by
 refine dp Tryz.func132 Z Z Z ?_;unfold z8 at hr;refine zQ (zR (yS Z (b6 Z Z Z Z Z) (zM Z (zN (zT (zQ (zR (zM Z (zN (zT (zQ (zQ (zR (zM Z (yS Z (d7 Z Z (by kernel_rfl)) (zM Z (zN (zT (LW.ent (bO.lazy (t := 7) (m := 5) Z Z Z) ?_)))))))))))))))))));obtain ⟨v1, hb_v1, ho_v1⟩ := zB hr;clear hr;refine LW.tail (E := [(6, .zs), (7, (jB 1 v1.out))]) (O := [.box (bI c), .vec 5 (v1.out.map ay)]) ?_ (fun env_v1 H_v1 hw_v1 => ?_)
 ·refine LW.block ?_;refine LW.iterB (E := fun x1 : ez => [(2, .fn 133 [] []), (3, .ptr 0 0), (6, .zs), (7, (jB 1 x1.out)), (10, (kB l)), (11, .p (.int .i64 (l.length : Int))), (12, (iQ x1.t12))]) (O := fun x1 => [.box (bI c), .vec 5 (x1.out.map ay)]) hb_v1 (zW 2 ⟨rfl, rfl, rfl, rfl, rfl, rfl, rfl, trivial⟩ Z Z Z Z) (fun x1 z_x1 hr hb_x1 => ?_);unfold ld at hr;refine zQ (zR (yS Z (ax Z Z Z Z) (zN (zT (zQ ?_)))));refine zX Z (fun g1 => ?_) (fun g1 => ?_)
  ·
   refine zi g1 hr fun hr => zk (zT (zQ (zl (zQ (zR (zb hr fun y1 h_y1 hr => yS Z (zx Z Z Z ew h_y1 Z) (yS Z (d6 Z Z Z cN Z Z) (yS Z (ze Z uj Z Z) (yS Z (zs Z Z Z Z cN Z Z Z Z) (zN (zT (zQ (zR (zM Z (yS Z (zD Z Z Z bA Z Z) (yS Z (zD Z Z Z cN Z Z) (zb hr fun v2 h_v2 hr => yS Z (zC Z Z Z (by kernel_rfl) (zp (Mh h_v2) (.cons zv (.cons zv .nil)))) (zN (zT ?_)))))))))))))))))));refine zX Z (fun g2 => ?_) (fun g2 => ?_)
   ·
    refine zi g2 hr fun hr => zR (zM Z (yS Z (zD Z Z Z cN Z Z) (yS Z (mS Z ew Z Z Z Z Z) (zg hr fun q1 hr => yS Z (ab.appendX ay x1.out [y1] rfl Z Z Z ku.p Z ew q1 Z) (zM Z (zN (ai (zT (zR (yS Z (ax Z Z Z Z) (zM Z (zN (zT ?_)))))))))))));obtain rfl := zJ hr;exact ⟨_, rfl, zW 2 ⟨rfl, rfl, rfl, rfl, rfl, rfl, rfl, trivial⟩ Z Z Z rfl⟩
   ·
    refine zo g2 hr fun hr => zk (ai (zT (zR (yS Z (ax Z Z Z Z) (zM Z (zN (zT ?_)))))));obtain rfl := zJ hr;exact ⟨_, rfl, zW 2 ⟨rfl, rfl, rfl, rfl, rfl, rfl, rfl, trivial⟩ Z Z Z rfl⟩
  ·
   refine zo g1 hr fun hr => zq (ap (ap (zy (zT ?_))));obtain rfl := zJ hr;have hr := congrArg some (hb_x1 _ rfl);obtain rfl := zJ hr;exact zW 2 ⟨Z, Z, trivial⟩ Z Z Z Z
 ·have hr := ho_v1;clear hb_v1;refine zT (LW.weak hw_v1 (zQ (LW.ent (bO.last (t := 7) (j := 0) (Hj := []) Z Z Z Z Z Z Z) (zR (zM Z (zM Z (zN (zT (zr ?_)))))))));obtain rfl := zJ hr;exact aq (.one (.tmp Z)) (⟨rfl, rfl⟩)
structure eA where
 t12 : Int
 out : List Vt
def lf (c : Cf) (l : List Vt) (x1 : eA) : Option (eA ⊕ eA) :=
 bif decide (x1.t12 < (l.length : Int)) then
  (ix l x1.t12).bind fun y1 =>
  (It c y1).bind fun v2 =>
  bif v2 then
   bif room x1.out.length [y1].length 32 then
    some (.inl (eA.mk (IntKind.i64.wrap (x1.t12 + 1)) (x1.out ++ [y1])))
   else none
  else
   some (.inl (eA.mk (IntKind.i64.wrap (x1.t12 + 1)) x1.out))
 else
  some (.inr (eA.mk x1.t12 x1.out))
def Aa (c : Cf) (l : List Vt) : Option (List Vt) :=
 (iter (lf c l) bG (eA.mk 0 ([] : List Vt))).bind fun v1 =>
 some v1.out
theorem Gb {c : Cf} {l : List Vt} {r_ : List Vt} (hr : Aa c l = some r_) : LC Tryz.prog 134 [.p (jC c), (kV l), .fn 135 [] []] [] (Is (jV 0 r_) [.vec 4 (r_.map aJ)]) := by
 refine dp Tryz.func134 Z Z Z ?_;unfold Aa at hr;refine zQ (zR (yS Z (b6 Z Z Z Z Z) (zM Z (zN (zT (zQ (zR (zM Z (zN (zT (zQ (zQ (zR (zM Z (yS Z (d7 Z Z (by kernel_rfl)) (zM Z (zN (zT (LW.ent (bO.lazy (t := 7) (m := 4) Z Z Z) ?_)))))))))))))))))));obtain ⟨v1, hb_v1, ho_v1⟩ := zB hr;clear hr;refine LW.tail (E := [(6, .zs), (7, (jV 1 v1.out))]) (O := [.box (bI c), .vec 4 (v1.out.map aJ)]) ?_ (fun env_v1 H_v1 hw_v1 => ?_)
 ·refine LW.block ?_;refine LW.iterB (E := fun x1 : eA => [(2, .fn 135 [] []), (3, .ptr 0 0), (6, .zs), (7, (jV 1 x1.out)), (10, (kV l)), (11, .p (.int .i64 (l.length : Int))), (12, (iQ x1.t12))]) (O := fun x1 => [.box (bI c), .vec 4 (x1.out.map aJ)]) hb_v1 (zW 2 ⟨rfl, rfl, rfl, rfl, rfl, rfl, rfl, trivial⟩ Z Z Z Z) (fun x1 z_x1 hr hb_x1 => ?_);unfold lf at hr;refine zQ (zR (yS Z (ax Z Z Z Z) (zN (zT (zQ ?_)))));refine zX Z (fun g1 => ?_) (fun g1 => ?_)
  ·
   refine zi g1 hr fun hr => zk (zT (zQ (zl (zQ (zR (zb hr fun y1 h_y1 hr => yS Z (zx Z Z Z dQ h_y1 Z) (yS Z (d6 Z Z Z cR Z Z) (yS Z (ze Z uk Z Z) (yS Z (zs Z Z Z Z cR Z Z Z Z) (zN (zT (zQ (zR (zM Z (yS Z (zD Z Z Z bA Z Z) (yS Z (zD Z Z Z cR Z Z) (zb hr fun v2 h_v2 hr => yS Z (zC Z Z Z (by kernel_rfl) (zp (Mi h_v2) (.cons zv (.cons zv .nil)))) (zN (zT ?_)))))))))))))))))));refine zX Z (fun g2 => ?_) (fun g2 => ?_)
   ·
    refine zi g2 hr fun hr => zR (zM Z (yS Z (zD Z Z Z cR Z Z) (yS Z (mS Z dQ Z Z Z Z Z) (zg hr fun q1 hr => yS Z (ab.appendX aJ x1.out [y1] rfl Z Z Z ku.p Z dQ q1 Z) (zM Z (zN (ai (zT (zR (yS Z (ax Z Z Z Z) (zM Z (zN (zT ?_)))))))))))));obtain rfl := zJ hr;exact ⟨_, rfl, zW 2 ⟨rfl, rfl, rfl, rfl, rfl, rfl, rfl, trivial⟩ Z Z Z rfl⟩
   ·
    refine zo g2 hr fun hr => zk (ai (zT (zR (yS Z (ax Z Z Z Z) (zM Z (zN (zT ?_)))))));obtain rfl := zJ hr;exact ⟨_, rfl, zW 2 ⟨rfl, rfl, rfl, rfl, rfl, rfl, rfl, trivial⟩ Z Z Z rfl⟩
  ·
   refine zo g1 hr fun hr => zq (ap (ap (zy (zT ?_))));obtain rfl := zJ hr;have hr := congrArg some (hb_x1 _ rfl);obtain rfl := zJ hr;exact zW 2 ⟨Z, Z, trivial⟩ Z Z Z Z
 ·have hr := ho_v1;clear hb_v1;refine zT (LW.weak hw_v1 (zQ (LW.ent (bO.last (t := 7) (j := 0) (Hj := []) Z Z Z Z Z Z Z) (zR (zM Z (zM Z (zN (zT (zr ?_)))))))));obtain rfl := zJ hr;exact aq (.one (.tmp Z)) (⟨rfl, rfl⟩)
def HW (c : Cf) (v_in : Vw) : Option Vw :=
 (z8 c v_in.B).bind fun v1 =>
 (Aa c v_in.V).bind fun v2 =>
 some (Vw.mk v1 v2)
theorem L3 {c : Cf} {v_in : Vw} {r_ : Vw} (hr : HW c v_in = some r_) : aw Tryz.prog 97 [jC c, mP v_in] [mP r_] := by
 refine zh Tryz.func97 Z Z Z Z ?_;unfold HW at hr;refine zQ (zR (yS Z (b6 Z Z Z Z Z) (yS Z (b6 Z Z Z Z Z) (yS Z (ze Z ig Z Z) (zN (zT (zQ (LW.ent (bO.slot Z) (LW.ent (bO.slot Z) (LW.drawW (by kernel_rfl) (by kernel_rfl) (yF Z (zd Z Z Z bA Z Z) Z ?_)))))))))));refine yF (F := []) (s := none) Z (fun H _ => zA Z Z bz) Z ?_;refine yF Z (zd Z Z Z dA Z Z) Z (zb hr fun v1 h_v1 hr => ?_);refine yF Z (bL.callV (id := 3) (qs := [.p (jC c), (kB v_in.B), .fn 133 [] []]) Z Z Z (by kernel_rfl) (Ga h_v1) (fun H => (.consC zv (.consC zv (.consF .nil)))) Z) Z ?_;refine yF Z (zd Z Z Z bA Z Z) Z ?_;refine yF (F := []) (s := none) Z (fun H _ => zA Z Z b9) Z ?_;refine yF Z (zd Z Z Z eU Z Z) Z (zb hr fun v2 h_v2 hr => ?_);refine yF Z (bL.callV (id := 4) (qs := [.p (jC c), (kV v_in.V), .fn 135 [] []]) Z Z Z (by kernel_rfl) (Gb h_v2) (fun H => (.consC zv (.consC zv (.consF .nil)))) Z) Z ?_;refine yF (F := []) (s := none) Z (fun H _ => ab.build Z oa Z Z Z) Z ?_;refine yF Z (zt Z Z Z Z aS Z Z Z) Z ?_;refine LF.nil ⟨by kernel_rfl, ?_⟩;refine zT (zr ?_);obtain rfl := zJ hr;exact zf (.one (.cellAgg Z Z (by kernel_rfl) Z)) ((Conv.agg (.cons (Conv.vecAll Z Z Z) (.cons (Conv.vecAll Z Z Z) .nil))))
def Cm (c : Cf) (inp : Vw) : Option (List Bk × List Vt) :=
 (z8 c inp.B).bind fun v1 =>
 (Aa c inp.V).bind fun v2 =>
 some (v1, v2)
theorem JA {c : Cf} {inp : Vw} {r_ : List Bk × List Vt} (hr : Cm c inp = some r_) : LC Tryz.prog 97 [.p (jC c), .p (mP inp)] [] (Is (.agg [(jB 3 r_.1), (jV 4 r_.2)]) [.box (bI c), .box (dq inp), .box [(jB 3 r_.1), (jV 4 r_.2)], .vec 5 (r_.1.map ay), .vec 4 (r_.2.map aJ)]) := by
 refine dp Tryz.func97 Z Z Z ?_;unfold Cm at hr;refine zQ (zR (yS Z (b6 Z Z Z Z Z) (yS Z (b6 Z Z Z Z Z) (yS Z (ze Z ig Z Z) (zN (zT (zQ (LW.ent (bO.slot Z) (LW.ent (bO.slot Z) (LW.drawW (by kernel_rfl) (by kernel_rfl) (yF Z (zd Z Z Z bA Z Z) Z ?_)))))))))));refine yF (F := []) (s := none) Z (fun H _ => zA Z Z bz) Z ?_;refine yF Z (zd Z Z Z dA Z Z) Z (zb hr fun v1 h_v1 hr => ?_);refine yF Z (bL.callV (id := 3) (qs := [.p (jC c), (kB inp.B), .fn 133 [] []]) Z Z Z (by kernel_rfl) (Ga h_v1) (fun H => (.consC zv (.consC zv (.consF .nil)))) Z) Z ?_;refine yF Z (zd Z Z Z bA Z Z) Z ?_;refine yF (F := []) (s := none) Z (fun H _ => zA Z Z b9) Z ?_;refine yF Z (zd Z Z Z eU Z Z) Z (zb hr fun v2 h_v2 hr => ?_);refine yF Z (bL.callV (id := 4) (qs := [.p (jC c), (kV inp.V), .fn 135 [] []]) Z Z Z (by kernel_rfl) (Gb h_v2) (fun H => (.consC zv (.consC zv (.consF .nil)))) Z) Z ?_;refine yF (F := []) (s := none) Z (fun H _ => ab.build Z oa Z Z Z) Z ?_;refine yF Z (zt Z Z Z Z aS Z Z Z) Z ?_;refine LF.nil ⟨by kernel_rfl, ?_⟩;refine zT (zr ?_);obtain rfl := zJ hr;exact aq (.one (.cellAgg Z Z (by kernel_rfl) Z)) (⟨rfl, rfl⟩)
structure eW where
 t27 : Int
 o3 : List (ID × Int)
structure eX where
 t43 : Int
 o4 : List (Vt × Bool)
def lg (w : Vw) (x1 : eW) : Option (eW ⊕ eW) :=
 bif decide (x1.t27 < (w.B.length : Int)) then
  (ix w.B x1.t27).bind fun y1 =>
  some (.inl (eW.mk (IntKind.i64.wrap (x1.t27 + 1)) (aP x1.o3 (nm y1) y1.Slot)))
 else
  some (.inr (eW.mk x1.t27 x1.o3))
def lh (w : Vw) (x2 : eX) : Option (eX ⊕ eX) :=
 bif decide (x2.t43 < (w.V.length : Int)) then
  (ix w.V x2.t43).bind fun y2 =>
  some (.inl (eX.mk (IntKind.i64.wrap (x2.t43 + 1)) (aP x2.o4 y2 true)))
 else
  some (.inr (eX.mk x2.t43 x2.o4))
def Ab (w : Vw) (_ : Int) : Option (List (ID × Int) × List (Vt × Bool)) :=
 bif room 0 w.B.length 40 then
  bif room 0 w.V.length 32 then
   (iter (lg w) bG (eW.mk 0 (aP [] (0, 0) 0))).bind fun v1 =>
   (iter (lh w) bG (eX.mk 0 ([] : List (Vt × Bool)))).bind fun v2 =>
   some (v1.o3, v2.o4)
  else none
 else none
theorem Gc {w : Vw} {upto : Int} {r_ : List (ID × Int) × List (Vt × Bool)} (hr : Ab w upto = some r_) : LC Tryz.prog 177 [.p (mP w), (iQ upto)] [] (Is (.ptr 5 0) [.box (dq w), .vec 5 (w.B.map ay), .vec 4 (w.V.map aJ), (mQ r_.1), (mR r_.2), .box [(jB 1 w.B), (jV 2 w.V), .map 3, .map 4, (iQ upto), (bQ false)]]) := by
 refine dp Tryz.func177 Z Z Z ?_;unfold Ab at hr;refine zQ (zR (yS Z (b6 Z Z Z Z Z) (zM Z (zN (zT (zQ (LW.ent (bO.slot Z) (LW.ent (bO.slot Z) (LW.ent (bO.slot Z) (LW.ent (bO.slot Z) (LW.ent (bO.slot Z) (LW.drawW (by kernel_rfl) (by kernel_rfl) ?_))))))))))));refine yF (F := []) (s := none) Z (fun H _ => zA Z Z bz) Z ?_;refine yF Z (zd Z Z Z dA Z Z) Z (zg hr fun q1 hr => ?_);refine yF Z (bL.callV (id := 1) (qs := [(kB w.B)]) Z Z Z (by kernel_rfl) (vc q1) (fun H => (.consC zv .nil)) Z) Z ?_;refine yF (F := []) (s := none) Z (fun H _ => zA Z Z b9) Z ?_;refine yF Z (zd Z Z Z eU Z Z) Z (zg hr fun q2 hr => ?_);refine yF Z (bL.callV (id := 2) (qs := [(kV w.V)]) Z Z Z (by kernel_rfl) (vd q2) (fun H => (.consC zv .nil)) Z) Z ?_;refine yF (F := []) (s := none) Z (fun H _ => ab.build Z oa Z Z Z) Z ?_;refine yF Z (bL.makeMap Z (id := 3) Z) Z ?_;refine yF (F := []) (s := none) Z (fun H _ => ab.build Z w4 Z Z Z) Z ?_;refine yF Z (bL.setX (f := ci) (g := (fun v => (iQ v))) (m := ([] : List (ID × Int))) (0, 0) 0 dM (.inr Z) Z Z Z Z Z kt) Z ?_;refine zK Z (yF Z (bL.makeMap Z (id := 4) Z) Z (zK Z ?_));refine yF (F := []) (s := none) Z (fun H _ => ab.build Z IC Z Z Z) Z ?_;refine yF Z (bL.box Z Z Z (id := 5) Z) Z (zK Z ?_);refine LF.nil ⟨by kernel_rfl, ?_⟩;refine zT (zQ (zQ (zR (yS Z (zA Z Z bz) (yS Z (zD Z Z Z dA Z Z) (yS Z (d7 Z Z (by kernel_rfl)) (zM Z (zN (zT ?_)))))))));obtain ⟨v1, hb_v1, ho_v1⟩ := zB hr;clear hr;refine LW.tail (E := [(2, .ptr 0 0), (5, .ptr 5 0)]) (O := [.box (dq w), .vec 5 (w.B.map ay), .vec 4 (w.V.map aJ), (mQ v1.o3), .map (ah aJ (fun v => (bQ v)) []), .box [(jB 1 w.B), (jV 2 w.V), .map 3, .map 4, (iQ upto), (bQ false)]]) ?_ (fun env_v1 H_v1 hw_v1 => ?_)
 ·refine LW.block ?_;refine LW.iterB (E := fun x1 : eW => [(2, .ptr 0 0), (5, .ptr 5 0), (25, (kB w.B)), (26, .p (.int .i64 (w.B.length : Int))), (27, (iQ x1.t27))]) (O := fun x1 => [.box (dq w), .vec 5 (w.B.map ay), .vec 4 (w.V.map aJ), (mQ x1.o3), .map (ah aJ (fun v => (bQ v)) []), .box [(jB 1 w.B), (jV 2 w.V), .map 3, .map 4, (iQ upto), (bQ false)]]) hb_v1 (zW 6 ⟨rfl, rfl, rfl, rfl, rfl, trivial⟩ Z Z Z (zL Z (zL Z (zL Z (zL (ae (fun _ => rfl) _) (zL (ae (fun _ => rfl) _) (zL Z Z))))))) (fun x1 z_x1 hr hb_x1 => ?_);unfold lg at hr;refine zQ (zR (yS Z (ax Z Z Z Z) (zN (zT (zQ ?_)))));refine zX Z (fun g1 => ?_) (fun g1 => ?_)
  ·
   refine zi g1 hr fun hr => zk (zT (zQ (zl (zQ (zR (zb hr fun y1 h_y1 hr => yS Z (zx Z Z Z ew h_y1 Z) (yS Z (d6 Z Z Z cN Z Z) (yS Z (ze Z uj Z Z) (yS Z (zs Z Z Z Z cN Z Z Z Z) (zN (zT (LW.drawLast (m := 8) (by kernel_rfl) (by kernel_rfl) (by kernel_rfl) (zH Z (yE Z (zn Z Z) (yE Z (zA Z Z lH) (yE Z (zD Z Z Z Bp Z Z) (yE Z (zD Z Z Z cN Z Z) (yE Z (zC Z Z Z (by kernel_rfl) (zp (Ha (b := y1)) (.cons zv .nil))) (yE Z (zA Z Z kM) (yE Z (zD Z Z Z bC Z Z) (LO.nil ?_)))))))))))))))))))));refine yS Z (ab.setX (f := ci) (g := (fun v => (iQ v))) (nm y1) y1.Slot dM (.inl Z) Z Z Z Z Z kt Z) ?_;refine zN (ai (zT (zR (yS Z (ax Z Z Z Z) (zM Z (zN (zT ?_)))))));obtain rfl := zJ hr;exact ⟨_, rfl, zW 6 ⟨rfl, rfl, rfl, rfl, rfl, trivial⟩ Z Z Z (zL Z (zL Z (zL Z (zL (ae (fun _ => rfl) _) (zL (ae (fun _ => rfl) _) (zL Z Z))))))⟩
  ·
   refine zo g1 hr fun hr => zq (ap (ap (zy (zT ?_))));obtain rfl := zJ hr;have hr := congrArg some (hb_x1 _ rfl);obtain rfl := zJ hr;exact zW 6 ⟨Z, Z, trivial⟩ Z Z Z (zL Z (zL Z (zL Z (zL (ae (fun _ => rfl) _) (zL (ae (fun _ => rfl) _) (zL Z Z))))))
 ·have hr := ho_v1;clear hb_v1;refine zT (LW.weak hw_v1 (zQ (zQ (zR (yS Z (zA Z Z b9) (yS Z (zD Z Z Z eU Z Z) (yS Z (d7 Z Z (by kernel_rfl)) (zM Z (zN (zT ?_))))))))));obtain ⟨v2, hb_v2, ho_v2⟩ := zB hr;clear hr;refine LW.tail (E := [(5, .ptr 5 0)]) (O := [.box (dq w), .vec 5 (w.B.map ay), .vec 4 (w.V.map aJ), (mQ v1.o3), (mR v2.o4), .box [(jB 1 w.B), (jV 2 w.V), .map 3, .map 4, (iQ upto), (bQ false)]]) ?_ (fun env_v2 H_v2 hw_v2 => ?_)
  ·refine LW.block ?_;refine LW.iterB (E := fun x2 : eX => [(5, .ptr 5 0), (41, (kV w.V)), (42, .p (.int .i64 (w.V.length : Int))), (43, (iQ x2.t43))]) (O := fun x2 => [.box (dq w), .vec 5 (w.B.map ay), .vec 4 (w.V.map aJ), (mQ v1.o3), (mR x2.o4), .box [(jB 1 w.B), (jV 2 w.V), .map 3, .map 4, (iQ upto), (bQ false)]]) hb_v2 (zW 6 ⟨rfl, rfl, rfl, rfl, trivial⟩ Z Z Z (zL Z (zL Z (zL Z (zL (ae (fun _ => rfl) _) (zL (ae (fun _ => rfl) _) (zL Z Z))))))) (fun x2 z_x2 hr hb_x2 => ?_);unfold lh at hr;refine zQ (zR (yS Z (ax Z Z Z Z) (zN (zT (zQ ?_)))));refine zX Z (fun g2 => ?_) (fun g2 => ?_)
   ·
    refine zi g2 hr fun hr => zk (zT (zQ (zl (zQ (zR (zb hr fun y2 h_y2 hr => yS Z (zx Z Z Z dQ h_y2 Z) (yS Z (d6 Z Z Z cR Z Z) (yS Z (ze Z uk Z Z) (yS Z (zs Z Z Z Z cR Z Z Z Z) (zN (zT (LW.drawLast (m := 5) (by kernel_rfl) (by kernel_rfl) (by kernel_rfl) (zH Z (yE Z (zn Z Z) (yE Z (zA Z Z pH) (yE Z (zD Z Z Z zE Z Z) (yE Z (zD Z Z Z cR Z Z) (LO.nil ?_))))))))))))))))));refine yS Z (ab.setX (f := aJ) (g := (fun v => (bQ v))) y2 true zF (.inl Z) Z Z Z Z Z DH Z) ?_;refine zN (ai (zT (zR (yS Z (ax Z Z Z Z) (zM Z (zN (zT ?_)))))));obtain rfl := zJ hr;exact ⟨_, rfl, zW 6 ⟨rfl, rfl, rfl, rfl, trivial⟩ Z Z Z (zL Z (zL Z (zL Z (zL (ae (fun _ => rfl) _) (zL (ae (fun _ => rfl) _) (zL Z Z))))))⟩
   ·
    refine zo g2 hr fun hr => zq (ap (ap (zy (zT ?_))));obtain rfl := zJ hr;have hr := congrArg some (hb_x2 _ rfl);obtain rfl := zJ hr;exact zW 6 ⟨Z, trivial⟩ Z Z Z (zL Z (zL Z (zL Z (zL (ae (fun _ => rfl) _) (zL (ae (fun _ => rfl) _) (zL Z Z))))))
  ·have hr := ho_v2;clear hb_v2;refine zT (LW.weak hw_v2 (zQ (zR (zM Z (zM Z (zN (zT (zr ?_))))))));obtain rfl := zJ hr;exact aq (.one (.tmp Z)) (⟨rfl, rfl⟩)
theorem yB {α : Type} {f : α → PV} {d : Nat} (m : List (α × Int)) : ((ah f (fun v => (iQ v)) m).map fun e => (e.1, LV.shift d e.2)) = ah f (fun v => (iQ v)) m := C3 (fun _ => rfl) m
theorem yA {α : Type} {f : α → PV} {d : Nat} (m : List (α × Bool)) : ((ah f (fun v => (bQ v)) m).map fun e => (e.1, LV.shift d e.2)) = ah f (fun v => (bQ v)) m := C3 (fun _ => rfl) m
end Go.Mg
