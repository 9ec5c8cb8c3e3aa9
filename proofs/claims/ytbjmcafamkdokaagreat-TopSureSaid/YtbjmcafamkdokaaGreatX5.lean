/- shuffle.At, Back, Perm. References of trees and cursors. Duties: what stands alone. duty.those: a closure. Sums of weights, and lists, over closures. Committees over closures. marigoldref04. Duties: the reference, the proposer. duty.Total, Weight, Committee, In. Weights of blocks, heads: what stands alone, and the reference. Weights of blocks; the head. Views: clones, and what stands alone. Views: what may be at all; a view that grows, begun. Conditions: none. -/
import Derived.Test.YtbjmcafamkdokaaGreatX3
import Derived.Test.YtbjmcafamkdokaaGreatX4
import Derived.Test.YtbjmcafamkdokaaGreatX2
set_option maxRecDepth 100000
set_option linter.unusedSimpArgs false
set_option linter.unusedVariables false
namespace Go.Mg
open Go.Proofs
def LA : Dk := ⟨fun _ => false, 0⟩
structure jt where
 i : Int
 t6 : Int
 d : Dk
def pz (seed : Int) (n : Int) (x1 : jt) : Option (jt ⊕ jt) :=
 bif decide (x1.t6 < 10) then
  bif rv n x1.t6 then
   some (.inl (jt.mk (ru seed n x1.t6 x1.i) (IntKind.i64.wrap (x1.t6 + 1)) (x1.d.turned x1.t6)))
  else none
 else
  some (.inr (jt.mk x1.i x1.t6 x1.d))
def By (seed : Int) (n : Int) (i : Int) (d : Dk) : Option (Int × Dk) :=
 (iter (pz seed n) bD (jt.mk i 0 d)).bind fun v1 =>
 some (v1.i, v1.d)
theorem Jk {seed : Int} {n : Int} {i : Int} {d : Dk} {r_ : Int × Dk} (hr : By seed n i d = some r_) : LC Tryz.prog 142 [.ptr 0 0, (iQ i)] [.box (iy seed n d)] (Is (iQ r_.1) [.box (iy seed n r_.2)]) := by
 refine dk Tryz.func142 Z Z Z ?_;unfold By at hr;refine zQ (zR (zM Z (zN (zT (zQ (zQ (zR (zM Z (zN (zT ?_))))))))));obtain ⟨v1, hb_v1, ho_v1⟩ := zB hr;clear hr;refine LW.tail (E := [(1, (iQ v1.i)), (4, (iQ 0))]) (O := [.box (iy seed n v1.d)]) ?_ (fun env_v1 H_v1 hw_v1 => ?_)
 ·refine LW.block ?_;refine LW.iterB (E := fun x1 : jt => [(0, .ptr 0 0), (1, (iQ x1.i)), (4, (iQ 0)), (6, (iQ x1.t6))]) (O := fun x1 => [.box (iy seed n x1.d)]) hb_v1 (zW 1 ⟨rfl, rfl, rfl, rfl, trivial⟩ Z Z Z Z) (fun x1 z_x1 hr hb_x1 => ?_);unfold pz at hr;refine zQ (zR (yS Z (ax Z Z Z Z) (zN (zT (zQ ?_)))));refine zX Z (fun g1 => ?_) (fun g1 => ?_)
  ·
   refine zi g1 hr fun hr => zk (zT (zQ (zl (zQ (zR (zM Z (zM Z (zN (zT (zR (zM Z (zM Z (zM Z (zg hr fun q1 hr => yS Z (zC Z Z Z (by kernel_rfl) (K8 q1)) (zM Z (zN (ai (zT (zR (yS Z (ax Z Z Z Z) (zM Z ?_)))))))))))))))))))));refine zN (zT ?_);obtain rfl := zJ hr;exact ⟨_, rfl, zW 1 ⟨rfl, rfl, rfl, rfl, trivial⟩ Z Z Z rfl⟩
  ·
   refine zo g1 hr fun hr => zq (ao (ao (zy (zT ?_))));obtain rfl := zJ hr;have hr := congrArg some (hb_x1 _ rfl);obtain rfl := zJ hr;exact zW 1 ⟨Z, Z, trivial⟩ Z Z Z Z
 ·have hr := ho_v1;clear hb_v1;refine zT (LW.weak hw_v1 (zQ (zR (zM Z (zM Z (zN (zT (zr ?_))))))));obtain rfl := zJ hr;exact ap (.one (.tmp Z)) (⟨rfl, rfl⟩)
def Bt (n : Int) (i : Int) : Option Bool :=
 bif decide (n > 0) then
  bif decide (n ≤ 1000) then
   bif decide (i ≥ 0) then
    some (decide (i < n))
   else
    some false
  else
   some false
 else
  some false
theorem K7 {n : Int} {i : Int} {r_ : Bool} (hr : Bt n i = some r_) : aw Tryz.prog 141 [.int .i64 n, .int .i64 i] [.bool r_] := by
 refine zh Tryz.func141 Z Z Z Z ?_;unfold Bt at hr;refine zQ (zR (zM Z (zN (zT (zQ (zR (zM Z (yS Z (ax Z Z Z Z) (zM Z ?_)))))))));refine zc 7 Z (fun g1 => ?_) (fun g1 => ?_)
 ·
  refine zi g1 hr fun hr => yV Z (gd g1 Z) (zm Z Z) (yV Z (gd g1 Z) (ax Z Z Z Z) (yS Z (eo Z (bI g1 Z) Z) (zM Z ?_)));refine zc 11 Z (fun g2 => ?_) (fun g2 => ?_)
  ·
   refine zi g2 hr fun hr => yV Z (gd g2 Z) (zm Z Z) (yV Z (gd g2 Z) (ax Z Z Z Z) (yS Z (eo Z (bI g2 Z) Z) (zM Z ?_)));refine zc 15 Z (fun g3 => ?_) (fun g3 => ?_)
   ·
    refine zi g3 hr fun hr => yV Z (gd g3 Z) (zm Z Z) (yV Z (gd g3 Z) (zm Z Z) (yV Z (gd g3 Z) (ax Z Z Z Z) (yS Z (eo Z (bI g3 Z) Z) (zM Z (zN (zT (zr ?_)))))));obtain rfl := zJ hr;exact zf (.one (.tmp Z)) zv
   ·
    refine zo g3 hr fun hr => yU Z (gd g3 Z) Z (yU Z (gd g3 Z) Z (yU Z (gd g3 Z) Z (yS Z (dc Z (bI g3 Z) Z) (zM Z (zN (zT (zr ?_)))))));obtain rfl := zJ hr;exact zf (.one (.tmp Z)) zv
  ·
   refine zo g2 hr fun hr => yU Z (gd g2 Z) Z (yU Z (gd g2 Z) Z (yS Z (dc Z (bI g2 Z) Z) (zM Z (yU Z Z Z (yU Z Z Z (yU Z Z Z (yS Z (dc Z Z Z) (zM Z (zN (zT (zr ?_)))))))))));obtain rfl := zJ hr;exact zf (.one (.tmp Z)) zv
 ·
  refine zo g1 hr fun hr => yU Z (gd g1 Z) Z (yU Z (gd g1 Z) Z (yS Z (dc Z (bI g1 Z) Z) (zM Z (yU Z Z Z (yU Z Z Z (yS Z (dc Z Z Z) (zM Z (yU Z Z Z (yU Z Z Z (yU Z Z Z (yS Z (dc Z Z Z) (zM Z (zN (zT (zr ?_)))))))))))))));obtain rfl := zJ hr;exact zf (.one (.tmp Z)) zv
structure l0 where
 t19 : Int
 d : Dk
 l : List Int
def p7 (seed : Int) (n : Int) (x1 : l0) : Option (l0 ⊕ l0) :=
 bif decide (x1.t19 < ((List.replicate n.toNat (0 : Int)).length : Int)) then
  (By seed n x1.t19 x1.d).bind fun v3 =>
  (ix x1.l x1.t19).bind fun _ =>
  some (.inl (l0.mk (IntKind.i64.wrap (x1.t19 + 1)) v3.2 (x1.l.set x1.t19.toNat v3.1)))
 else
  some (.inr (l0.mk x1.t19 x1.d x1.l))
def Il (seed : Int) (n : Int) : Option (List Int) :=
 (Bt n 0).bind fun v1 =>
 bif !v1 then
  some []
 else
  bif AP n 8 then
   (iter (p7 seed n) bD (l0.mk 0 LA (List.replicate n.toNat (0 : Int)))).bind fun v2 =>
   bif decide (v2.d.k < n) then
    some []
   else
    some v2.l
  else none
theorem L8 {seed : Int} {n : Int} {r_ : (List Int)} (hr : Il seed n = some r_) : aw Tryz.prog 103 [.int .u64 seed, .int .i64 n] [.slice 1 (r_.map aF)] := by
 refine zh Tryz.func103 Z Z Z Z ?_;unfold Il at hr;refine zQ (zR (zM Z (zN (zT (zQ (zQ (zR (zM Z (zb hr fun v1 h_v1 hr => yS Z (zC Z Z Z (by kernel_rfl) (zp (K7 h_v1) (.cons zv (.cons zv .nil)))) (yS Z (ab.not Z Z) (zN (zT ?_))))))))))));refine zX Z (fun g1 => ?_) (fun g1 => ?_)
 ·
  refine zi g1 hr fun hr => zQ (zR (zM Z (zN (zT (zr (am ?_))))));obtain rfl := zJ hr;exact zf (.one (.tmp Z)) Conv.zs
 ·
  refine zo g1 hr fun hr => zk (zT (zQ (zR (zM Z (zM Z (yS Z (ab.build Z Iz Z Z Z) (yS Z (bZ (H' := [.box (iy seed n LA)]) Z Z Z Z Z) (zM Z (zN (zT (zQ (zR (zM Z (zg hr fun q1 hr => yS Z (ab.makeSliceX aF 0 Z Z Z fY (z := .int .i64 0) (by kernel_rfl) Z q1 Z Z) (zM Z (zN (zT (zQ (zQ (zR (zM Z ?_)))))))))))))))))))));refine yS Z (ab.lenVM Z Z Z (by kernel_rfl)) (zM Z (zN (zT ?_)));obtain ⟨v2, hb_v2, ho_v2⟩ := zB hr;clear hr;refine LW.tail (E := [(1, (iQ n)), (4, .zs), (5, .ptr 0 0), (6, (jI 1 v2.l))]) (O := [.box (iy seed n v2.d), .vec 1 (v2.l.map aF)]) ?_ (fun env_v2 H_v2 hw_v2 => ?_)
  ·refine LW.block ?_;refine LW.iterB (E := fun x1 : l0 => [(1, (iQ n)), (4, .zs), (5, .ptr 0 0), (6, (jI 1 x1.l)), (18, .p (.int .i64 ((List.replicate n.toNat (0 : Int)).length : Int))), (19, (iQ x1.t19))]) (O := fun x1 => [.box (iy seed n x1.d), .vec 1 (x1.l.map aF)]) hb_v2 (zW 2 ⟨rfl, rfl, rfl, rfl, rfl, rfl, trivial⟩ Z Z Z Z) (fun x1 z_x1 hr hb_x1 => ?_);unfold p7 at hr;refine zQ (zR (yS Z (ax Z Z Z Z) (zN (zT (zQ ?_)))));refine zX Z (fun g2 => ?_) (fun g2 => ?_)
   ·
    refine zi g2 hr fun hr => zk (zT (zQ (zl (zQ (zR (zM Z (zM Z (zN (zT (zR (zM Z (zM Z (zM Z (zM Z (zb hr fun v3 h_v3 hr => yS Z (zC Z Z Z (by kernel_rfl) (LC.pre (Jk h_v3) Z Z Z)) (zb hr fun y1 h_y1 hr => yS Z (ab.indexAddrVX Z Z Z Z fY h_y1) ?_))))))))))))))));refine yS Z (ab.storeVX (f := aF) (l := x1.l) v3.1 Z Z Z Z bA (fun _ => rfl) h_y1 Z) ?_;refine zN (ai (zT (zR (yS Z (ax Z Z Z Z) (zM Z (zN (zT ?_)))))));obtain rfl := zJ hr;exact ⟨_, rfl, zW 2 ⟨rfl, rfl, rfl, (LJ (rfl)), rfl, rfl, trivial⟩ Z Z Z rfl⟩
   ·
    refine zo g2 hr fun hr => zq (ao (ao (zy (zT ?_))));obtain rfl := zJ hr;have hr := congrArg some (hb_x1 _ rfl);obtain rfl := zJ hr;exact zW 2 ⟨Z, Z, Z, Z, trivial⟩ Z Z Z Z
  ·have hr := ho_v2;clear hb_v2;refine zT (LW.weak hw_v2 (zQ (zQ (zR (zM Z (yS Z (zn Z Z) (yS Z (zA Z Z tI) (yS Z (zC Z Z Z (by kernel_rfl) (K9 (off := 52) Z Z)) (zM Z (yS Z (ax Z Z Z Z) (zN (zT ?_))))))))))));refine zX Z (fun g3 => ?_) (fun g3 => ?_)
   ·
    refine zi g3 hr fun hr => zQ (zR (zM Z (zN (zT (zr (am ?_))))));obtain rfl := zJ hr;exact zf (.one (.tmp Z)) Conv.zs
   ·
    refine zo g3 hr fun hr => zk (zT (zQ (zR (zM Z (zM Z (zN (zT (zr ?_))))))));obtain rfl := zJ hr;exact zf (.one (.tmp Z)) ((Conv.vecAll Z Z Z))
open Go.Proofs
open Go.Proofs
structure ik where
 m : Int
 i : Int
def mT (x : List Int) (x1 : ik) : Option (ik ⊕ ik) :=
 bif decide (x1.i < (x.length : Int)) then
  (ix x x1.i).bind fun y2 =>
  some (.inl (ik.mk (if y2 < x1.m then y2 else x1.m) (IntKind.i64.wrap (x1.i + 1))))
 else
  some (.inr (ik.mk x1.m x1.i))
def BD (x : List Int) : Option Int :=
 bif decide ((x.length : Int) < 1) then
  none
 else
  (ix x 0).bind fun y1 =>
  (iter (mT x) bD (ik.mk y1 1)).bind fun v1 =>
  some v1.m
theorem La {x : List Int} {r_ : Int} (hr : BD x = some r_) : aw Tryz.prog 78 [.slice 1 (x.map aF)] [.int .i64 r_] := by
 refine zh Tryz.func78 Z Z Z Z ?_;unfold BD at hr;refine zQ (zR (zM Z (zN (zT (zQ (zQ (zR (zM Z (yS Z (dY Z Z (by kernel_rfl)) (yS Z (ax Z Z Z Z) (zN (zT ?_))))))))))));refine zX Z (fun g1 => ?_) (fun g1 => ?_)
 ·
  have hr := zI g1 hr;cases hr
 ·
  refine zo g1 hr fun hr => zk (zT (zQ (zR (zM Z (zb hr fun y1 h_y1 hr => yS Z (zx Z Z Z fY h_y1 Z) (yS Z (eA Z Z Z bA Z Z) (zM Z (zN (zT (zQ (zQ (zR (zM Z (zN (zT ?_)))))))))))))));obtain ⟨v1, hb_v1, ho_v1⟩ := zB hr;clear hr;refine LW.tail (E := [(2, (iQ 0)), (3, (iQ v1.m))]) (O := []) ?_ (fun env_v1 H_v1 hw_v1 => ?_)
  ·refine LW.block ?_;refine LW.iterB (E := fun x1 : ik => [(0, (kI x)), (2, (iQ 0)), (3, (iQ x1.m)), (4, (iQ x1.i))]) (O := fun x1 => []) hb_v1 (zW 0 ⟨rfl, rfl, rfl, rfl, trivial⟩ Z Z Z Z) (fun x1 z_x1 hr hb_x1 => ?_);unfold mT at hr;refine zQ (zQ (zR (zM Z (zM Z (yS Z (dY Z Z (by kernel_rfl)) (yS Z (ax Z Z Z Z) (zN (zT ?_))))))));refine zX Z (fun g2 => ?_) (fun g2 => ?_)
   ·
    refine zi g2 hr fun hr => zk (zT (zQ (zl (zR (zM Z (zM Z (zM Z (zb hr fun y2 h_y2 hr => yS Z (zx Z Z Z fY h_y2 Z) (yS Z (eA Z Z Z bA Z Z) (yS Z (ab.min Z Z Z) (zM Z (zN (ai (zT (zR (zM Z (yS Z (ax Z Z Z Z) (zM Z (zN (zT ?_))))))))))))))))))));obtain rfl := zJ hr;exact ⟨_, rfl, zW 0 ⟨rfl, rfl, rfl, rfl, trivial⟩ Z Z Z rfl⟩
   ·
    refine zo g2 hr fun hr => zq (ao (ao (zy (zT ?_))));obtain rfl := zJ hr;have hr := congrArg some (hb_x1 _ rfl);obtain rfl := zJ hr;exact zW 0 ⟨Z, Z, trivial⟩ Z Z Z Z
  ·have hr := ho_v1;clear hb_v1;refine zT (LW.weak hw_v1 (zQ (zR (zM Z (zM Z (zN (zT (zr ?_))))))));obtain rfl := zJ hr;exact zf (.one (.tmp Z)) zv
structure il where
 m : Int
 i : Int
def mU (x : List Int) (x1 : il) : Option (il ⊕ il) :=
 bif decide (x1.i < (x.length : Int)) then
  (ix x x1.i).bind fun y2 =>
  some (.inl (il.mk (if y2 > x1.m then y2 else x1.m) (IntKind.i64.wrap (x1.i + 1))))
 else
  some (.inr (il.mk x1.m x1.i))
def BE (x : List Int) : Option Int :=
 bif decide ((x.length : Int) < 1) then
  none
 else
  (ix x 0).bind fun y1 =>
  (iter (mU x) bD (il.mk y1 1)).bind fun v1 =>
  some v1.m
theorem Lb {x : List Int} {r_ : Int} (hr : BE x = some r_) : aw Tryz.prog 79 [.slice 1 (x.map aF)] [.int .i64 r_] := by
 refine zh Tryz.func79 Z Z Z Z ?_;unfold BE at hr;refine zQ (zR (zM Z (zN (zT (zQ (zQ (zR (zM Z (yS Z (dY Z Z (by kernel_rfl)) (yS Z (ax Z Z Z Z) (zN (zT ?_))))))))))));refine zX Z (fun g1 => ?_) (fun g1 => ?_)
 ·
  have hr := zI g1 hr;cases hr
 ·
  refine zo g1 hr fun hr => zk (zT (zQ (zR (zM Z (zb hr fun y1 h_y1 hr => yS Z (zx Z Z Z fY h_y1 Z) (yS Z (eA Z Z Z bA Z Z) (zM Z (zN (zT (zQ (zQ (zR (zM Z (zN (zT ?_)))))))))))))));obtain ⟨v1, hb_v1, ho_v1⟩ := zB hr;clear hr;refine LW.tail (E := [(2, (iQ 0)), (3, (iQ v1.m))]) (O := []) ?_ (fun env_v1 H_v1 hw_v1 => ?_)
  ·refine LW.block ?_;refine LW.iterB (E := fun x1 : il => [(0, (kI x)), (2, (iQ 0)), (3, (iQ x1.m)), (4, (iQ x1.i))]) (O := fun x1 => []) hb_v1 (zW 0 ⟨rfl, rfl, rfl, rfl, trivial⟩ Z Z Z Z) (fun x1 z_x1 hr hb_x1 => ?_);unfold mU at hr;refine zQ (zQ (zR (zM Z (zM Z (yS Z (dY Z Z (by kernel_rfl)) (yS Z (ax Z Z Z Z) (zN (zT ?_))))))));refine zX Z (fun g2 => ?_) (fun g2 => ?_)
   ·
    refine zi g2 hr fun hr => zk (zT (zQ (zl (zR (zM Z (zM Z (zM Z (zb hr fun y2 h_y2 hr => yS Z (zx Z Z Z fY h_y2 Z) (yS Z (eA Z Z Z bA Z Z) (yS Z (ab.max Z Z Z) (zM Z (zN (ai (zT (zR (zM Z (yS Z (ax Z Z Z Z) (zM Z (zN (zT ?_))))))))))))))))))));obtain rfl := zJ hr;exact ⟨_, rfl, zW 0 ⟨rfl, rfl, rfl, rfl, trivial⟩ Z Z Z rfl⟩
   ·
    refine zo g2 hr fun hr => zq (ao (ao (zy (zT ?_))));obtain rfl := zJ hr;have hr := congrArg some (hb_x1 _ rfl);obtain rfl := zJ hr;exact zW 0 ⟨Z, Z, trivial⟩ Z Z Z Z
  ·have hr := ho_v1;clear hb_v1;refine zT (LW.weak hw_v1 (zQ (zR (zM Z (zM Z (zN (zT (zr ?_))))))));obtain rfl := zJ hr;exact zf (.one (.tmp Z)) zv
def yh (c : Cf) : Option Bool :=
 (
  bif (c.W.length : Int) == 0 then
   some true
  else
   bif decide ((c.W.length : Int) > 12) then
    some true
   else
    (BD c.W).bind fun v2 =>
    bif decide (v2 < 0) then
     some true
    else
     (BE c.W).bind fun v3 =>
     some (decide (v3 > 1099511627776))
 ).bind fun v1 =>
 bif v1 then
  some false
 else
  bif decide (c.Epoch > 0) then
   bif decide (c.Epoch ≤ 8) then
    bif decide (c.Num ≥ 0) then
     bif decide (c.Num ≤ c.Den) then
      bif decide (c.Den > 0) then
       some (decide (c.Den ≤ 1000))
      else
       some false
     else
      some false
    else
     some false
   else
    some false
  else
   some false
theorem Ga {c : Cf} {r_ : Bool} (hr : yh c = some r_) : aw Tryz.prog 47 [jC c] [.bool r_] := by
 refine zh Tryz.func47 Z Z Z Z ?_;unfold yh at hr;refine zQ (zR (yS Z (bZ Z Z Z Z Z) (zM Z (zN (zT (zQ ?_))))));obtain ⟨v1, hb_v1, ho_v1⟩ := zB hr;clear hr;refine LW.cut (E := [(1, .ptr 0 0), (2, (bQ false)), (24, (bQ v1))]) (O := [.box (bE c)]) ?_ ?_
 ·have hr := hb_v1;refine zR (yS Z (zA Z Z gP) (yS Z (zD Z Z Z fc Z Z) (yS Z (dY Z Z (by kernel_rfl)) (yS Z (ax Z Z Z Z) (zM Z ?_)))));refine zc 7 Z (fun g1 => ?_) (fun g1 => ?_)
  ·
   refine zi g1 hr fun hr => yU Z (gd g1 Z) Z (yU Z (gd g1 Z) Z (yU Z (gd g1 Z) Z (yU Z (gd g1 Z) Z (yS Z (eo Z (bI g1 Z) Z) (zM Z (yU Z Z Z (yU Z Z Z (yU Z Z Z (yU Z Z Z (yS Z (eo Z Z Z) (zM Z (yU Z Z Z (yU Z Z Z (yU Z Z Z (yU Z Z Z (yS Z (eo Z Z Z) (zN (zT ?_))))))))))))))))));obtain rfl := zJ hr;exact zW 1 ⟨Z, Z, Z, trivial⟩ Z Z Z Z
  ·
   refine zo g1 hr fun hr => yV Z (gd g1 Z) (zA Z Z gP) (yV Z (gd g1 Z) (zD Z Z Z fc Z Z) (yV Z (gd g1 Z) (dY Z Z (by kernel_rfl)) (yV Z (gd g1 Z) (ax Z Z Z Z) (yS Z (dc Z (bI g1 Z) Z) (zM Z ?_)))));refine zc 13 Z (fun g2 => ?_) (fun g2 => ?_)
   ·
    refine zi g2 hr fun hr => yU Z (gd g2 Z) Z (yU Z (gd g2 Z) Z (yU Z (gd g2 Z) Z (yU Z (gd g2 Z) Z (yS Z (eo Z (bI g2 Z) Z) (zM Z (yU Z Z Z (yU Z Z Z (yU Z Z Z (yU Z Z Z (yS Z (eo Z Z Z) (zN (zT ?_))))))))))));obtain rfl := zJ hr;exact zW 1 ⟨Z, Z, Z, trivial⟩ Z Z Z Z
   ·
    refine zo g2 hr fun hr => yV Z (gd g2 Z) (zA Z Z gP) (yV Z (gd g2 Z) (zD Z Z Z fc Z Z) (zb hr fun v2 h_v2 hr => yV Z (gd g2 Z) (zC Z Z Z (by kernel_rfl) (zp (La h_v2) (.cons zv .nil))) (yV Z (gd g2 Z) (ax Z Z Z Z) (yS Z (dc Z (bI g2 Z) Z) (zM Z ?_)))));refine zc 19 Z (fun g3 => ?_) (fun g3 => ?_)
    ·
     refine zi g3 hr fun hr => yU Z (gd g3 Z) Z (yU Z (gd g3 Z) Z (yU Z (gd g3 Z) Z (yU Z (gd g3 Z) Z (yS Z (eo Z (bI g3 Z) Z) (zN (zT ?_))))));obtain rfl := zJ hr;exact zW 1 ⟨Z, Z, Z, trivial⟩ Z Z Z Z
    ·
     refine zo g3 hr fun hr => yV Z (gd g3 Z) (zA Z Z gP) (yV Z (gd g3 Z) (zD Z Z Z fc Z Z) (zb hr fun v3 h_v3 hr => yV Z (gd g3 Z) (zC Z Z Z (by kernel_rfl) (zp (Lb h_v3) (.cons zv .nil))) (yV Z (gd g3 Z) (ax Z Z Z Z) (yS Z (dc Z (bI g3 Z) Z) (zN (zT ?_))))));obtain rfl := zJ hr;exact zW 1 ⟨Z, Z, Z, trivial⟩ Z Z Z Z
 ·have hr := ho_v1;clear hb_v1;refine zX Z (fun g4 => ?_) (fun g4 => ?_)
  ·
   refine zi g4 hr fun hr => zQ (zR (zM Z (zN (zT (zr (am ?_))))));obtain rfl := zJ hr;exact zf (.one (.tmp Z)) zv
  ·
   refine zo g4 hr fun hr => zk (zT (zQ (zR (yS Z (zA Z Z qO) (yS Z (zD Z Z Z bA Z Z) (yS Z (ax Z Z Z Z) (zM Z ?_)))))));refine zc 28 Z (fun g5 => ?_) (fun g5 => ?_)
   ·
    refine zi g5 hr fun hr => yV Z (gd g5 Z) (zA Z Z qO) (yV Z (gd g5 Z) (zD Z Z Z bA Z Z) (yV Z (gd g5 Z) (ax Z Z Z Z) (yS Z (eo Z (bI g5 Z) Z) (zM Z ?_))));refine zc 33 Z (fun g6 => ?_) (fun g6 => ?_)
    ·
     refine zi g6 hr fun hr => yV Z (gd g6 Z) (zA Z Z tL) (yV Z (gd g6 Z) (zD Z Z Z bA Z Z) (yV Z (gd g6 Z) (ax Z Z Z Z) (yS Z (eo Z (bI g6 Z) Z) (zM Z ?_))));refine zc 38 Z (fun g7 => ?_) (fun g7 => ?_)
     ·
      refine zi g7 hr fun hr => yV Z (gd g7 Z) (zA Z Z tL) (yV Z (gd g7 Z) (zD Z Z Z bA Z Z) (yV Z (gd g7 Z) (zA Z Z oq) (yV Z (gd g7 Z) (zD Z Z Z bA Z Z) (yV Z (gd g7 Z) (ax Z Z Z Z) (yS Z (eo Z (bI g7 Z) Z) (zM Z ?_))))));refine zc 45 Z (fun g8 => ?_) (fun g8 => ?_)
      ·
       refine zi g8 hr fun hr => yV Z (gd g8 Z) (zA Z Z oq) (yV Z (gd g8 Z) (zD Z Z Z bA Z Z) (yV Z (gd g8 Z) (ax Z Z Z Z) (yS Z (eo Z (bI g8 Z) Z) (zM Z ?_))));refine zc 50 Z (fun g9 => ?_) (fun g9 => ?_)
       ·
        refine zi g9 hr fun hr => yV Z (gd g9 Z) (zA Z Z oq) (yV Z (gd g9 Z) (zD Z Z Z bA Z Z) (yV Z (gd g9 Z) (ax Z Z Z Z) (yS Z (eo Z (bI g9 Z) Z) (zM Z (zN (zT (zr ?_)))))));obtain rfl := zJ hr;exact zf (.one (.tmp Z)) zv
       ·
        refine zo g9 hr fun hr => yU Z (gd g9 Z) Z (yU Z (gd g9 Z) Z (yU Z (gd g9 Z) Z (yS Z (dc Z (bI g9 Z) Z) (zM Z (zN (zT (zr ?_)))))));obtain rfl := zJ hr;exact zf (.one (.tmp Z)) zv
      ·
       refine zo g8 hr fun hr => yU Z (gd g8 Z) Z (yU Z (gd g8 Z) Z (yU Z (gd g8 Z) Z (yS Z (dc Z (bI g8 Z) Z) (zM Z (yU Z Z Z (yU Z Z Z (yU Z Z Z (yS Z (dc Z Z Z) (zM Z (zN (zT (zr ?_))))))))))));obtain rfl := zJ hr;exact zf (.one (.tmp Z)) zv
     ·
      refine zo g7 hr fun hr => yU Z (gd g7 Z) Z (yU Z (gd g7 Z) Z (yU Z (gd g7 Z) Z (yU Z (gd g7 Z) Z (yU Z (gd g7 Z) Z (yS Z (dc Z (bI g7 Z) Z) (zM Z (yU Z Z Z (yU Z Z Z (yU Z Z Z (yS Z (dc Z Z Z) (zM Z (yU Z Z Z (yU Z Z Z (yU Z Z Z (yS Z (dc Z Z Z) (zM Z (zN (zT (zr ?_)))))))))))))))))));obtain rfl := zJ hr;exact zf (.one (.tmp Z)) zv
    ·
     refine zo g6 hr fun hr => yU Z (gd g6 Z) Z (yU Z (gd g6 Z) Z (yU Z (gd g6 Z) Z (yS Z (dc Z (bI g6 Z) Z) (zM Z (yU Z Z Z (yU Z Z Z (yU Z Z Z (yU Z Z Z (yU Z Z Z (yS Z (dc Z Z Z) (zM Z (yU Z Z Z (yU Z Z Z (yU Z Z Z (yS Z (dc Z Z Z) (zM Z (yU Z Z Z (yU Z Z Z (yU Z Z Z (yS Z (dc Z Z Z) (zM Z (zN ?_))))))))))))))))))))));refine zT (zr ?_);obtain rfl := zJ hr;exact zf (.one (.tmp Z)) zv
   ·
    refine zo g5 hr fun hr => yU Z (gd g5 Z) Z (yU Z (gd g5 Z) Z (yU Z (gd g5 Z) Z (yS Z (dc Z (bI g5 Z) Z) (zM Z (yU Z Z Z (yU Z Z Z (yU Z Z Z (yS Z (dc Z Z Z) (zM Z (yU Z Z Z (yU Z Z Z (yU Z Z Z (yU Z Z Z (yU Z Z Z (yS Z (dc Z Z Z) (zM Z (yU Z Z Z (yU Z Z Z (yU Z Z Z (yS Z (dc Z Z Z) (zM Z (yU Z Z Z ?_))))))))))))))))))))));refine yU Z Z Z (yU Z Z Z (yS Z (dc Z Z Z) (zM Z (zN (zT (zr ?_))))));obtain rfl := zJ hr;exact zf (.one (.tmp Z)) zv
def zU (c : Cf) (slot : Int) : Option Bool :=
 (yh c).bind fun v1 =>
 bif v1 then
  bif decide (slot > 0) then
   some (decide (slot ≤ 1048576))
  else
   some false
 else
  some false
theorem IL {c : Cf} {slot : Int} {r_ : Bool} (hr : zU c slot = some r_) : aw Tryz.prog 69 [jC c, .int .i64 slot] [.bool r_] := by
 refine zh Tryz.func69 Z Z Z Z ?_;unfold zU at hr;refine zQ (zR (yS Z (bZ Z Z Z Z Z) (zM Z (zN (zT (zQ (zR (yS Z (zD Z Z Z bv Z Z) (zb hr fun v1 h_v1 hr => yS Z (zC Z Z Z (by kernel_rfl) (zp (Ga h_v1) (.cons zv .nil))) (zM Z ?_))))))))));refine zc 7 Z (fun g1 => ?_) (fun g1 => ?_)
 ·
  refine zi g1 hr fun hr => yV Z (gd g1 Z) (zm Z Z) (yV Z (gd g1 Z) (ax Z Z Z Z) (yS Z (eo Z (bI g1 Z) Z) (zM Z ?_)));refine zc 11 Z (fun g2 => ?_) (fun g2 => ?_)
  ·
   refine zi g2 hr fun hr => yV Z (gd g2 Z) (zm Z Z) (yV Z (gd g2 Z) (ax Z Z Z Z) (yS Z (eo Z (bI g2 Z) Z) (zM Z (zN (zT (zr ?_))))));obtain rfl := zJ hr;exact zf (.one (.tmp Z)) zv
  ·
   refine zo g2 hr fun hr => yU Z (gd g2 Z) Z (yU Z (gd g2 Z) Z (yS Z (dc Z (bI g2 Z) Z) (zM Z (zN (zT (zr ?_))))));obtain rfl := zJ hr;exact zf (.one (.tmp Z)) zv
 ·
  refine zo g1 hr fun hr => yU Z (gd g1 Z) Z (yU Z (gd g1 Z) Z (yS Z (dc Z (bI g1 Z) Z) (zM Z (yU Z Z Z (yU Z Z Z (yS Z (dc Z Z Z) (zM Z (zN (zT (zr ?_))))))))));obtain rfl := zJ hr;exact zf (.one (.tmp Z)) zv
structure ju where
 t8 : Int
def lk (s : List Int) (v : Int) (x1 : ju) : Option (ju ⊕ (ju ⊕ Int)) :=
 bif decide (x1.t8 < (s.length : Int)) then
  (ix s x1.t8).bind fun y1 =>
  bif v == y1 then
   some (.inr (.inr x1.t8))
  else
   some (.inl (ju.mk (IntKind.i64.wrap (x1.t8 + 1))))
 else
  some (.inr (.inl (ju.mk x1.t8)))
def EF (s : List Int) (v : Int) : Option Int :=
 (iter (lk s v) bD (ju.mk 0)).bind fun b_v1 => Sum.elim (fun _ =>
  some (-1)) some b_v1
theorem Lk {s : List Int} {v : Int} {r_ : Int} (hr : EF s v = some r_) : aw Tryz.prog 80 [.slice 1 (s.map aF), .int .i64 v] [.int .i64 r_] := by
 refine zh Tryz.func80 Z Z Z Z ?_;unfold EF at hr;refine zQ (zR (zM Z (zN (zT (zQ (zQ (zR (zM Z (yS Z (dY Z Z (by kernel_rfl)) (zM Z (zN (zT ?_))))))))))));obtain ⟨b_v1, hb_v1, ho_v1⟩ := zB hr;clear hr;refine LW.tailB (b := b_v1) (E := fun v1 => [(4, (iQ 0))]) (O := fun v1 => []) ?_ (fun v1 e_v1 env_v1 H_v1 hw_v1 => ?_)
 ·refine LW.block ?_;refine LW.iterB (E := fun x1 : ju => [(0, (kI s)), (1, (iQ v)), (4, (iQ 0)), (7, .p (.int .i64 (s.length : Int))), (8, (iQ x1.t8))]) (O := fun x1 => []) hb_v1 (zW 0 ⟨rfl, rfl, rfl, rfl, rfl, trivial⟩ Z Z Z Z) (fun x1 z_x1 hr hb_x1 => ?_);unfold lk at hr;refine zQ (zR (yS Z (ax Z Z Z Z) (zN (zT (zQ ?_)))));refine zX Z (fun g1 => ?_) (fun g1 => ?_)
  ·
   refine zi g1 hr fun hr => zk (zT (zQ (zl (zQ (zR (zM Z (zM Z (zN (zT (zQ (zR (zM Z (zM Z (zM Z (zb hr fun y1 h_y1 hr => yS Z (zx Z Z Z fY h_y1 Z) (yS Z (eA Z Z Z bA Z Z) (yS Z (ax Z Z Z Z) (zN (zT ?_)))))))))))))))))));refine zX Z (fun g2 => ?_) (fun g2 => ?_)
   ·
    refine zi g2 hr fun hr => zQ (zR (zM Z (zM Z (zN (zT (zr (aD (am (am (aD (am (am ?_))))))))))));obtain rfl := zJ hr;have hr := congrArg some (hb_x1 _ rfl);obtain rfl := zJ hr;have hr := ff ho_v1;obtain rfl := zJ hr;exact zf (.one (.tmp Z)) zv
   ·
    refine zo g2 hr fun hr => zk (ai (zT (zR (yS Z (ax Z Z Z Z) (zM Z (zN (zT ?_)))))));obtain rfl := zJ hr;exact ⟨_, rfl, zW 0 ⟨rfl, rfl, rfl, rfl, rfl, trivial⟩ Z Z Z rfl⟩
  ·
   refine zo g1 hr fun hr => zq (ao (ao (zy (zT ?_))));obtain rfl := zJ hr;have hr := congrArg some (hb_x1 _ rfl);obtain rfl := zJ hr;exact ⟨_, rfl, zW 0 ⟨rfl, trivial⟩ Z Z Z rfl⟩
 ·obtain rfl := e_v1;have hr := hZ ho_v1;clear hb_v1;refine zT (LW.weak hw_v1 (zQ (zR (zM Z (zN (zT (zr ?_)))))));obtain rfl := zJ hr;exact zf (.one (.tmp Z)) zv
def tj (s : List Int) (v : Int) : Option Bool :=
 (EF s v).bind fun v1 =>
 some (decide (v1 ≥ 0))
theorem CL {s : List Int} {v : Int} {r_ : Bool} (hr : tj s v = some r_) : aw Tryz.prog 48 [.slice 1 (s.map aF), .int .i64 v] [.bool r_] := by
 refine zh Tryz.func48 Z Z Z Z ?_;unfold tj at hr;refine zQ (zR (zM Z (zN (zT (zQ (zR (zM Z (zM Z (zb hr fun v1 h_v1 hr => yS Z (zC Z Z Z (by kernel_rfl) (zp (Lk h_v1) (.cons zv (.cons zv .nil)))) (yS Z (ax Z Z Z Z) (zM Z (zN (zT (zr ?_))))))))))))));obtain rfl := zJ hr;exact zf (.one (.tmp Z)) zv
structure K0 where
 i : Int
open Go.Proofs
theorem q0 : ∀ H : List aa, cE H = some H.length
 | [] => rfl
 | _ :: r => by unfold cE; rw [q0 r]; rfl
theorem qo : ∀ (H : List aa) (o : aa), ic H o = some (H ++ [o])
 | [], _ => rfl
 | _ :: r, o => by unfold ic; rw [qo r o]; rfl
theorem Zz {c : Cf} {g : FuncId} {first caps : List LV} {H : List aa} : LC Tryz.prog 105 [.p (jC c), .fn g first caps] H (Is (.fn 145 [] [.cptr [.slice 1 (c.W.map aF), .int .u64 c.Seed, .int .i64 c.Epoch, .int .i64 c.Num, .int .i64 c.Den], .fptr (.fn g first caps)]) H) := by
 refine LC.those Tryz.func105 Z Z Z ?_;refine LW.seq (LW.region (an.st Z Z Z (ab.box Z Z Z (q0 _) (qo _ _)) (an.st Z Z Z (ab.box Z Z Z (q0 _) (qo _ _)) (an.st Z Z Z (ab.assign Z Z) (an.nil (br (LW.seq (LW.region (an.st Z Z Z (ab.makeFunc Z Z Z) (an.st Z Z Z (ab.assign Z Z) (an.nil (br (LW.ret ?_)))))))))))));refine ⟨.inr rfl, by simp, ?_⟩
 have h : ∀ n : Nat, n = H.length + 1 → ∀ {e : av} {H2 : List aa}, e.get 4 = some (.fn 145 [] [.ptr H.length 0, .ptr n 0]) → df Tryz.prog e H2 Tryz.f105.results (.fn 145 [] [.ptr H.length 0, .ptr (H.length + 1) 0]) := by
  rintro n rfl e H2 he;exact .one (.tmp he)
 exact h _ (by simp) Z
open Go.Proofs
noncomputable def wH : Code := L0 Tryz.f146.body
noncomputable def wJ : Code := L1 Tryz.f146.body
noncomputable def wI : Code := L0 Tryz.f144.body
noncomputable def wK : Code := L1 Tryz.f144.body
def Eu (i : Int) (_ : Cf) (m : List (Int × Bool)) : Option Bool :=
 some ((af m i).getD false)
theorem Jm {i : Int} {c : Cf} {m : List (Int × Bool)} {r_ : Bool} (hr : Eu i c m = some r_) : LC Tryz.prog 147 [(iQ i), .ptr 2 0] [.box (bE c), .map (ah aF (fun v => (bQ v)) m), .box [.map 1]] (Is (bQ r_) [.box (bE c), .map (ah aF (fun v => (bQ v)) m), .box [.map 1]]) := by
 refine dk Tryz.func147 Z Z Z ?_;unfold Eu at hr;refine zQ (zR (zM Z (zN (zT (zQ (zR (yS Z (zD Z Z Z D5 Z Z) (zM Z ?_))))))));refine yS Z (ab.getX (f := aF) (g := (fun v => (bQ v))) i false Dl Z Z Z Z Gr KD Z Z) ?_;refine zM Z (zN (zT (zr ?_)));obtain rfl := zJ hr;exact ap (.one (.tmp Z)) (⟨rfl, rfl⟩)
theorem KB {c : Cf} {m : List (Int × Bool)} {n i y : Int} {o : Oper} {env : av} {fo xo : Operand} {ats : Array TypeId} (ho : o.op = .call { callee := .value fo, args := #[xo], argTypes := ats }) (hf : aM env fo = some (.yld 6)) (hx : aM env xo = some (iQ i)) (h : ix c.W i = some y) :
  fa Tryz.prog o env [.box (bE c), .map (ah aF (fun v => (bQ v)) m), .box [.map 1], .box (bE c), .box [(iQ n)], .defd, .loop false 21 [(2, .ptr 3 0), (4, (iQ 0)), (5, .ptr 4 0), (11, .fn 145 [] [.cptr [.slice 1 (c.W.map aF), .int .u64 c.Seed, .int .i64 c.Epoch, .int .i64 c.Num, .int .i64 c.Den], .fptr (.fn 147 [] [.ptr 2 0])])] #[12] wH wJ] (Is (bQ true) [.box (bE c), .map (ah aF (fun v => (bQ v)) m), .box [.map 1], .box (bE c), .box [.p (.int .i64 (IntKind.i64.wrap (n + y)))], .defd, .loop false 21 [(2, .ptr 3 0), (4, (iQ 0)), (5, .ptr 4 0), (11, .fn 145 [] [.cptr [.slice 1 (c.W.map aF), .int .u64 c.Seed, .int .i64 c.Epoch, .int .i64 c.Num, .int .i64 c.Den], .fptr (.fn 147 [] [.ptr 2 0])])] #[12] wH wJ]) := by
 refine fa.yield (env2 := (6, (iQ i)) :: (12, (iQ i)) :: [(2, .ptr 3 0), (4, (iQ 0)), (5, .ptr 4 0), (11, .fn 145 [] [.cptr [.slice 1 (c.W.map aF), .int .u64 c.Seed, .int .i64 c.Epoch, .int .i64 c.Num, .int .i64 c.Den], .fptr (.fn 147 [] [.ptr 2 0])])]) (H2 := [.box (bE c), .map (ah aF (fun v => (bQ v)) m), .box [.map 1], .box (bE c), .box [.p (.int .i64 (IntKind.i64.wrap (n + y)))], .defd, .loop true 21 [(2, .ptr 3 0), (4, (iQ 0)), (5, .ptr 4 0), (11, .fn 145 [] [.cptr [.slice 1 (c.W.map aF), .int .u64 c.Seed, .int .i64 c.Epoch, .int .i64 c.Num, .int .i64 c.Den], .fptr (.fn 147 [] [.ptr 2 0])])] #[12] wH wJ]) ho hf hx Z Z (by kernel_rfl) (by kernel_rfl) Z (sg.plain ?_) ?_ Z Z
 ·refine yS Z (za Z Z) ?_;exact zN ⟨rfl, rfl, rfl⟩
 ·refine sg.drawLast (m := 7) (by kernel_rfl) (by kernel_rfl) (by kernel_rfl) ?_;exact yE Z (zD Z Z Z bA Z Z) (yE Z (zA Z Z gP) (yE Z (zD Z Z Z fc Z Z) (zH Z (yE Z (zx Z Z Z fY h Z) (yE Z (eA Z Z Z bA Z Z) (yE Z (ax Z Z Z Z) (LO.nil (yS Z (zs Z Z Z Z bA Z Z Z Z) (zN (⟨rfl, rfl⟩))))))))))
structure fF where
 t8 : Int
 o4_0 : Int
def ku (c : Cf) (m : List (Int × Bool)) (x1 : fF) : Option (fF ⊕ fF) :=
 bif decide (x1.t8 < (c.W.length : Int)) then
  (Eu x1.t8 c m).bind fun v2 =>
  bif v2 then
   (ix c.W x1.t8).bind fun y1 =>
   some (.inl (fF.mk (IntKind.i64.wrap (x1.t8 + 1)) (IntKind.i64.wrap (x1.o4_0 + y1))))
  else
   some (.inl (fF.mk (IntKind.i64.wrap (x1.t8 + 1)) x1.o4_0))
 else
  some (.inr (fF.mk x1.t8 x1.o4_0))
def uD (c : Cf) (m : List (Int × Bool)) (n : Int) : Option Int :=
 (iter (ku c m) bD (fF.mk 0 n)).bind fun v1 =>
 some v1.o4_0
theorem Hh {c : Cf} {m : List (Int × Bool)} {n : Int} {r_ : Int} (hr : uD c m n = some r_) : LC Tryz.prog 145 [.yld 6, .cptr [.slice 1 (c.W.map aF), .int .u64 c.Seed, .int .i64 c.Epoch, .int .i64 c.Num, .int .i64 c.Den], .fptr (.fn 147 [] [.ptr 2 0])] [.box (bE c), .map (ah aF (fun v => (bQ v)) m), .box [.map 1], .box (bE c), .box [(iQ n)], .defd, .loop false 21 [(2, .ptr 3 0), (4, (iQ 0)), (5, .ptr 4 0), (11, .fn 145 [] [.cptr [.slice 1 (c.W.map aF), .int .u64 c.Seed, .int .i64 c.Epoch, .int .i64 c.Num, .int .i64 c.Den], .fptr (.fn 147 [] [.ptr 2 0])])] #[12] wH wJ] (Is (.tup []) [.box (bE c), .map (ah aF (fun v => (bQ v)) m), .box [.map 1], .box (bE c), .box [(iQ r_)], .defd, .loop false 21 [(2, .ptr 3 0), (4, (iQ 0)), (5, .ptr 4 0), (11, .fn 145 [] [.cptr [.slice 1 (c.W.map aF), .int .u64 c.Seed, .int .i64 c.Epoch, .int .i64 c.Num, .int .i64 c.Den], .fptr (.fn 147 [] [.ptr 2 0])])] #[12] wH wJ]) := by
 refine dk Tryz.func145 Z Z Z ?_;unfold uD at hr;refine zQ (zR (yS Z (ab.fieldAddrC Z Z gP Z) (yS Z (eA Z Z Z fc Z Z) (yS Z (dY Z Z (by kernel_rfl)) (zM Z (zN (zT ?_)))))));obtain ⟨v1, hb_v1, ho_v1⟩ := zB hr;clear hr;refine LW.tail (E := []) (O := [.box (bE c), .map (ah aF (fun v => (bQ v)) m), .box [.map 1], .box (bE c), .box [(iQ v1.o4_0)], .defd, .loop false 21 [(2, .ptr 3 0), (4, (iQ 0)), (5, .ptr 4 0), (11, .fn 145 [] [.cptr [.slice 1 (c.W.map aF), .int .u64 c.Seed, .int .i64 c.Epoch, .int .i64 c.Num, .int .i64 c.Den], .fptr (.fn 147 [] [.ptr 2 0])])] #[12] wH wJ]) ?_ (fun env_v1 H_v1 hw_v1 => ?_)
 ·refine LW.block ?_;refine LW.iterB (E := fun x1 : fF => [(0, .yld 6), (2, .fptr (.fn 147 [] [.ptr 2 0])), (7, .p (.int .i64 (c.W.length : Int))), (8, (iQ x1.t8))]) (O := fun x1 => [.box (bE c), .map (ah aF (fun v => (bQ v)) m), .box [.map 1], .box (bE c), .box [(iQ x1.o4_0)], .defd, .loop false 21 [(2, .ptr 3 0), (4, (iQ 0)), (5, .ptr 4 0), (11, .fn 145 [] [.cptr [.slice 1 (c.W.map aF), .int .u64 c.Seed, .int .i64 c.Epoch, .int .i64 c.Num, .int .i64 c.Den], .fptr (.fn 147 [] [.ptr 2 0])])] #[12] wH wJ]) hb_v1 (zW 7 ⟨rfl, rfl, rfl, rfl, trivial⟩ Z Z Z (zL Z (zL (ae (fun _ => rfl) _) (zL Z (zL Z (zL Z (zL Z (zL Z Z)))))))) (fun x1 z_x1 hr hb_x1 => ?_);unfold ku at hr;refine zQ (zR (yS Z (ax Z Z Z Z) (zN (zT (zQ ?_)))));refine zX Z (fun g1 => ?_) (fun g1 => ?_)
  ·
   refine zi g1 hr fun hr => zk (zT (zQ (zl (zQ (zR (zM Z (zM Z (zN (zT (zQ (LW.regionI (ba.st Z Z Z (fa.of (ab.loadF Z Z te) Z) (ba.st Z Z Z (fa.of (zm Z Z) Z) (zb hr fun v2 h_v2 hr => ?_))))))))))))));refine ba.st Z Z Z (fa.of (zC Z Z Z (by kernel_rfl) (LC.pre (Jm h_v2) Z (zL Z (zL (ae (fun _ => rfl) _) (zL Z Z))) Z)) Z) ?_;refine ba.st Z Z Z (fa.of (ab.move Z Z) Z) ?_;refine ba.cases 14 Z (fun (g2 : v2 = true) => ?_) (fun (g2 : v2 = false) => ?_)
   ·
    refine zi g2 hr fun hr => ba.gd Z Z Z (gd g2 Z) Z (fa.of (zm Z Z) Z) (ba.gd Z Z Z (gd g2 Z) Z (fa.of (zm Z Z) Z) (zb hr fun y1 h_y1 hr => ba.gd Z Z Z (gd g2 Z) Z (KB Z Z Z h_y1) (ba.gd Z Z Z (gd g2 Z) Z (fa.of (ab.not Z Z) Z) (ba.st Z Z Z (fa.of (eo Z (bI g2 Z) Z) Z) (ba.nil (zT (LW.condF Z (zk (ai (zT (zR (yS Z (ax Z Z Z Z) (zM Z (zN (zT ?_)))))))))))))));obtain rfl := zJ hr;exact ⟨_, rfl, zW 7 ⟨rfl, rfl, rfl, rfl, trivial⟩ Z Z Z (zL Z (zL (ae (fun _ => rfl) _) (zL Z (zL Z (zL Z (zL Z (zL Z Z)))))))⟩
   ·
    refine zo g2 hr fun hr => ba.sk Z Z Z (gd g2 Z) Z Z (ba.sk Z Z Z (gd g2 Z) Z Z (ba.sk Z Z Z (gd g2 Z) Z Z (ba.sk Z Z Z (gd g2 Z) Z Z (ba.st Z Z Z (fa.of (dc Z (bI g2 Z) Z) Z) (ba.nil (zT (LW.condF Z (zk (ai (zT (zR (yS Z (ax Z Z Z Z) (zM Z (zN (zT ?_)))))))))))))));obtain rfl := zJ hr;exact ⟨_, rfl, zW 7 ⟨rfl, rfl, rfl, rfl, trivial⟩ Z Z Z (zL Z (zL (ae (fun _ => rfl) _) (zL Z (zL Z (zL Z (zL Z (zL Z Z)))))))⟩
  ·
   refine zo g1 hr fun hr => zq (ao (ao (zy (zT ?_))));obtain rfl := zJ hr;have hr := congrArg some (hb_x1 _ rfl);obtain rfl := zJ hr;exact zW 7 trivial Z Z Z (zL Z (zL (ae (fun _ => rfl) _) (zL Z (zL Z (zL Z (zL Z (zL Z Z)))))))
 ·have hr := ho_v1;clear hb_v1;obtain rfl := zJ hr;exact fH hw_v1 .none ⟨rfl, rfl⟩
def xY (c : Cf) (m : List (Int × Bool)) : Option Int :=
 (yh c).bind fun v1 =>
 bif !v1 then
  some 0
 else
  (uD c m 0).bind fun v2 =>
  some v2
theorem Hd {c : Cf} {m : List (Int × Bool)} {r_ : Int} (hr : xY c m = some r_) : LC Tryz.prog 146 [.p (jC c), .fn 145 [] [.cptr [.slice 1 (c.W.map aF), .int .u64 c.Seed, .int .i64 c.Epoch, .int .i64 c.Num, .int .i64 c.Den], .fptr (.fn 147 [] [.ptr 2 0])]] [.box (bE c), .map (ah aF (fun v => (bQ v)) m), .box [.map 1]] (Is (iQ r_) [.box (bE c), .map (ah aF (fun v => (bQ v)) m), .box [.map 1]]) := by
 refine LC.ofM Tryz.func146 Z Z Z ?_;unfold xY at hr;refine ib.seqW (zR (yS Z (bZ Z Z Z Z Z) (zM Z (zN (zT (ib.seqW (zR (yS Z (ze Z L3 Z Z) (yS Z (zs Z Z Z Z bA Z Z Z Z) (zN (zT (ib.seqW (zQ (zR (yS Z (zD Z Z Z bv Z Z) (zb hr fun v1 h_v1 hr => yS Z (zC Z Z Z (by kernel_rfl) (zp (Ga h_v1) (.cons zv .nil))) (yS Z (ab.not Z Z) (zN (zT ?_)))))))))))))))))));refine zX Z (fun g1 => ?_) (fun g1 => ?_)
 ·
  refine zi g1 hr fun hr => zQ (zR (yS Z (zD Z Z Z bA Z Z) (zM Z (zN (zT (zr (am ?_)))))));obtain rfl := zJ hr;refine a8 (env' := [(4, (iQ 0))]) (H' := [.box (bE c), .map (ah aF (fun v => (bQ v)) m), .box [.map 1]]) (zW 3 ⟨rfl, trivial⟩ Z Z Z (zL Z (zL (ae (fun _ => rfl) _) (zL Z Z)))) (.one (.tmp Z)) ?_;exact ⟨rfl, rfl⟩
 ·
  refine zo g1 hr fun hr => zk (zT (ib.seq (ib.seqW (zR (zM Z (zN (zT ?_)))))));refine ib.weak (env' := [(2, .ptr 3 0), (4, (iQ 0)), (5, .ptr 4 0), (11, .fn 145 [] [.cptr [.slice 1 (c.W.map aF), .int .u64 c.Seed, .int .i64 c.Epoch, .int .i64 c.Num, .int .i64 c.Den], .fptr (.fn 147 [] [.ptr 2 0])])]) (H' := [.box (bE c), .map (ah aF (fun v => (bQ v)) m), .box [.map 1], .box (bE c), .box [(iQ 0)]]) (zW 5 ⟨rfl, rfl, rfl, rfl, trivial⟩ Z Z Z (zL Z (zL (ae (fun _ => rfl) _) (zL Z (zL Z (zL Z Z)))))) ?_;refine ib.block (zb hr fun v2 h_v2 hr => ib.rangeFunc Z (by kernel_rfl) Z (Hh h_v2) Z Z Z ?_);refine ⟨rfl, ?_⟩;refine ua (ib.seq (ib.region (j9.st Z Z Z (zD Z Z Z bA Z Z) Z (j9.st Z Z Z (za Z Z) Z (j9.nil (ua (ib.ret ?_)))))));obtain rfl := zJ hr;exact ⟨.inr rfl, _, [(4, (iQ v2))], [.box (bE c), .map (ah aF (fun v => (bQ v)) m), .box [.map 1]], _, rfl, zW 3 ⟨rfl, trivial⟩ Z Z Z (zL Z (zL (ae (fun _ => rfl) _) (zL Z Z))), (.one (.tmp Z)), ⟨rfl, rfl⟩⟩
open Go.Proofs
def Et (i : Int) (c : Cf) (slot : Int) (at_ : List Int) : Option Bool :=
 (ix at_ i).bind fun y1 =>
 bif decide (c.Epoch ≠ 0) then
  bif decide (c.Epoch ≠ 0) then
   some ((y1.tmod c.Epoch) == (slot.tmod c.Epoch))
  else none
 else none
theorem Jl {i : Int} {c : Cf} {slot : Int} {at_ : List Int} {r_ : Bool} (hr : Et i c slot at_ = some r_) : LC Tryz.prog 106 [(iQ i), .ptr 2 0, .ptr 0 0, .ptr 1 0] [.box (bE c), .box [(iQ slot)], .box [(kI at_)]] (Is (bQ r_) [.box (bE c), .box [(iQ slot)], .box [(kI at_)]]) := by
 refine dk Tryz.func106 Z Z Z ?_;unfold Et at hr;refine zQ (zR (zM Z (zN (zT (zQ (LW.draw2 (by kernel_rfl) (by kernel_rfl) (yE Z (zD Z Z Z fc Z Z) (zH Z (zb hr fun y1 h_y1 hr => yE Z (zx Z Z Z fY h_y1 Z) (yE Z (eA Z Z Z bA Z Z) (yE Z (zA Z Z qO) (yE Z (zD Z Z Z bA Z Z) (zg hr fun q1 hr => yE Z (ab.rem Z Z Z (of_decide_eq_true q1)) (yE Z (zD Z Z Z bA Z Z) (yE Z (zA Z Z qO) (yE Z (zD Z Z Z bA Z Z) (zg hr fun q2 hr => yE Z (ab.rem Z Z Z (of_decide_eq_true q2)) (yE Z (ax Z Z Z Z) (zH Z (LO.nil ?_))))))))))))))))))));refine zT (zr ?_);obtain rfl := zJ hr;exact ap (.one (.tmp Z)) (⟨rfl, rfl⟩)
theorem KC {c : Cf} {slot : Int} {at_ : List Int} {l : List Int} {i : Int} {o : Oper} {env : av} {fo xo : Operand} {ats : Array TypeId} (ho : o.op = .call { callee := .value fo, args := #[xo], argTypes := ats }) (hf : aM env fo = some (.yld 6)) (hx : aM env xo = some (iQ i)) (q : room l.length [i].length 8 = true) :
  fa Tryz.prog o env [.box (bE c), .box [(iQ slot)], .box [(kI at_)], .box [(jI 4 l)], .vec 1 (l.map aF), .defd, .loop false 13 [(2, .ptr 3 0), (4, .zs), (6, .fn 145 [] [.cptr [.slice 1 (c.W.map aF), .int .u64 c.Seed, .int .i64 c.Epoch, .int .i64 c.Num, .int .i64 c.Den], .fptr (.fn 106 [] [.ptr 2 0, .ptr 0 0, .ptr 1 0])])] #[7] wI wK] (Is (bQ true) [.box (bE c), .box [(iQ slot)], .box [(kI at_)], .box [.vec 1 4 ((l ++ [i]).map aF).length 0 ((l ++ [i]).map aF).length], .vec 1 ((l ++ [i]).map aF), .defd, .loop false 13 [(2, .ptr 3 0), (4, .zs), (6, .fn 145 [] [.cptr [.slice 1 (c.W.map aF), .int .u64 c.Seed, .int .i64 c.Epoch, .int .i64 c.Num, .int .i64 c.Den], .fptr (.fn 106 [] [.ptr 2 0, .ptr 0 0, .ptr 1 0])])] #[7] wI wK]) := by
 refine fa.yield (env2 := (5, (iQ i)) :: (7, (iQ i)) :: [(2, .ptr 3 0), (4, .zs), (6, .fn 145 [] [.cptr [.slice 1 (c.W.map aF), .int .u64 c.Seed, .int .i64 c.Epoch, .int .i64 c.Num, .int .i64 c.Den], .fptr (.fn 106 [] [.ptr 2 0, .ptr 0 0, .ptr 1 0])])]) (H2 := [.box (bE c), .box [(iQ slot)], .box [(kI at_)], .box [.vec 1 4 ((l ++ [i]).map aF).length 0 ((l ++ [i]).map aF).length], .vec 1 ((l ++ [i]).map aF), .defd, .loop true 13 [(2, .ptr 3 0), (4, .zs), (6, .fn 145 [] [.cptr [.slice 1 (c.W.map aF), .int .u64 c.Seed, .int .i64 c.Epoch, .int .i64 c.Num, .int .i64 c.Den], .fptr (.fn 106 [] [.ptr 2 0, .ptr 0 0, .ptr 1 0])])] #[7] wI wK]) ho hf hx Z Z (by kernel_rfl) (by kernel_rfl) Z (sg.plain ?_) (sg.plain ?_) Z Z
 ·refine yS Z (za Z Z) ?_;exact zN ⟨rfl, rfl, rfl⟩
 ·refine yS Z (zD Z Z Z fc Z Z) ?_;exact zM Z (yS Z (mL Z fY Z Z Z Z Z) (yS Z (ab.appendX aF l [i] rfl Z Z Z km.p Z fY q Z) (yS Z (zs Z Z Z Z fc Z Z Z Z) (zN (⟨rfl, rfl⟩)))))
structure dn where
 t8 : Int
 o4 : List Int
def kt (c : Cf) (slot : Int) (at_ : List Int) (x1 : dn) : Option (dn ⊕ dn) :=
 bif decide (x1.t8 < (c.W.length : Int)) then
  (Et x1.t8 c slot at_).bind fun v2 =>
  bif v2 then
   bif room x1.o4.length [x1.t8].length 8 then
    some (.inl (dn.mk (IntKind.i64.wrap (x1.t8 + 1)) (x1.o4 ++ [x1.t8])))
   else none
  else
   some (.inl (dn.mk (IntKind.i64.wrap (x1.t8 + 1)) x1.o4))
 else
  some (.inr (dn.mk x1.t8 x1.o4))
def x8 (c : Cf) (slot : Int) (at_ : List Int) (l : List Int) : Option (List Int) :=
 (iter (kt c slot at_) bD (dn.mk 0 l)).bind fun v1 =>
 some v1.o4
theorem Hg {c : Cf} {slot : Int} {at_ : List Int} {l : List Int} {r_ : List Int} (hr : x8 c slot at_ l = some r_) : LC Tryz.prog 145 [.yld 6, .cptr [.slice 1 (c.W.map aF), .int .u64 c.Seed, .int .i64 c.Epoch, .int .i64 c.Num, .int .i64 c.Den], .fptr (.fn 106 [] [.ptr 2 0, .ptr 0 0, .ptr 1 0])] [.box (bE c), .box [(iQ slot)], .box [(kI at_)], .box [(jI 4 l)], .vec 1 (l.map aF), .defd, .loop false 13 [(2, .ptr 3 0), (4, .zs), (6, .fn 145 [] [.cptr [.slice 1 (c.W.map aF), .int .u64 c.Seed, .int .i64 c.Epoch, .int .i64 c.Num, .int .i64 c.Den], .fptr (.fn 106 [] [.ptr 2 0, .ptr 0 0, .ptr 1 0])])] #[7] wI wK] (Is (.tup []) [.box (bE c), .box [(iQ slot)], .box [(kI at_)], .box [(jI 4 r_)], .vec 1 (r_.map aF), .defd, .loop false 13 [(2, .ptr 3 0), (4, .zs), (6, .fn 145 [] [.cptr [.slice 1 (c.W.map aF), .int .u64 c.Seed, .int .i64 c.Epoch, .int .i64 c.Num, .int .i64 c.Den], .fptr (.fn 106 [] [.ptr 2 0, .ptr 0 0, .ptr 1 0])])] #[7] wI wK]) := by
 refine dk Tryz.func145 Z Z Z ?_;unfold x8 at hr;refine zQ (zR (yS Z (ab.fieldAddrC Z Z gP Z) (yS Z (eA Z Z Z fc Z Z) (yS Z (dY Z Z (by kernel_rfl)) (zM Z (zN (zT ?_)))))));obtain ⟨v1, hb_v1, ho_v1⟩ := zB hr;clear hr;refine LW.tail (E := []) (O := [.box (bE c), .box [(iQ slot)], .box [(kI at_)], .box [(jI 4 v1.o4)], .vec 1 (v1.o4.map aF), .defd, .loop false 13 [(2, .ptr 3 0), (4, .zs), (6, .fn 145 [] [.cptr [.slice 1 (c.W.map aF), .int .u64 c.Seed, .int .i64 c.Epoch, .int .i64 c.Num, .int .i64 c.Den], .fptr (.fn 106 [] [.ptr 2 0, .ptr 0 0, .ptr 1 0])])] #[7] wI wK]) ?_ (fun env_v1 H_v1 hw_v1 => ?_)
 ·refine LW.block ?_;refine LW.iterB (E := fun x1 : dn => [(0, .yld 6), (2, .fptr (.fn 106 [] [.ptr 2 0, .ptr 0 0, .ptr 1 0])), (7, .p (.int .i64 (c.W.length : Int))), (8, (iQ x1.t8))]) (O := fun x1 => [.box (bE c), .box [(iQ slot)], .box [(kI at_)], .box [(jI 4 x1.o4)], .vec 1 (x1.o4.map aF), .defd, .loop false 13 [(2, .ptr 3 0), (4, .zs), (6, .fn 145 [] [.cptr [.slice 1 (c.W.map aF), .int .u64 c.Seed, .int .i64 c.Epoch, .int .i64 c.Num, .int .i64 c.Den], .fptr (.fn 106 [] [.ptr 2 0, .ptr 0 0, .ptr 1 0])])] #[7] wI wK]) hb_v1 (zW 7 ⟨rfl, rfl, rfl, rfl, trivial⟩ Z Z Z Z) (fun x1 z_x1 hr hb_x1 => ?_);unfold kt at hr;refine zQ (zR (yS Z (ax Z Z Z Z) (zN (zT (zQ ?_)))));refine zX Z (fun g1 => ?_) (fun g1 => ?_)
  ·
   refine zi g1 hr fun hr => zk (zT (zQ (zl (zQ (zR (zM Z (zM Z (zN (zT (zQ (LW.regionI (ba.st Z Z Z (fa.of (ab.loadF Z Z te) Z) (ba.st Z Z Z (fa.of (zm Z Z) Z) (zb hr fun v2 h_v2 hr => ba.st Z Z Z (fa.of (zC Z Z Z (by kernel_rfl) (LC.pre (Jl h_v2) Z Z Z)) Z) (ba.st Z Z Z (fa.of (zm Z Z) Z) ?_)))))))))))))));refine ba.cases 14 Z (fun (g2 : v2 = true) => ?_) (fun (g2 : v2 = false) => ?_)
   ·
    refine zi g2 hr fun hr => ba.gd Z Z Z (gd g2 Z) Z (fa.of (zm Z Z) Z) (ba.gd Z Z Z (gd g2 Z) Z (fa.of (zm Z Z) Z) (zg hr fun q1 hr => ba.gd Z Z Z (gd g2 Z) Z (KC Z Z Z q1) (ba.gd Z Z Z (gd g2 Z) Z (fa.of (ab.not Z Z) Z) (ba.st Z Z Z (fa.of (eo Z (bI g2 Z) Z) Z) (ba.nil (zT (LW.condF Z (zk (ai (zT (zR (yS Z (ax Z Z Z Z) (zM Z (zN (zT ?_)))))))))))))));obtain rfl := zJ hr;exact ⟨_, rfl, zW 7 ⟨rfl, rfl, rfl, rfl, trivial⟩ Z Z Z rfl⟩
   ·
    refine zo g2 hr fun hr => ba.sk Z Z Z (gd g2 Z) Z Z (ba.sk Z Z Z (gd g2 Z) Z Z (ba.sk Z Z Z (gd g2 Z) Z Z (ba.sk Z Z Z (gd g2 Z) Z Z (ba.st Z Z Z (fa.of (dc Z (bI g2 Z) Z) Z) (ba.nil (zT (LW.condF Z (zk (ai (zT (zR (yS Z (ax Z Z Z Z) (zM Z (zN (zT ?_)))))))))))))));obtain rfl := zJ hr;exact ⟨_, rfl, zW 7 ⟨rfl, rfl, rfl, rfl, trivial⟩ Z Z Z rfl⟩
  ·
   refine zo g1 hr fun hr => zq (ao (ao (zy (zT ?_))));obtain rfl := zJ hr;have hr := congrArg some (hb_x1 _ rfl);obtain rfl := zJ hr;exact zW 7 trivial Z Z Z Z
 ·have hr := ho_v1;clear hb_v1;obtain rfl := zJ hr;exact fH hw_v1 .none ⟨rfl, rfl⟩
def x7 (c : Cf) (slot : Int) (at_ : List Int) : Option (List Int) :=
 (x8 c slot at_ []).bind fun v1 =>
 some v1
theorem Hf {c : Cf} {slot : Int} {at_ : List Int} {r_ : List Int} (hr : x7 c slot at_ = some r_) : LC Tryz.prog 144 [.zs, .fn 145 [] [.cptr [.slice 1 (c.W.map aF), .int .u64 c.Seed, .int .i64 c.Epoch, .int .i64 c.Num, .int .i64 c.Den], .fptr (.fn 106 [] [.ptr 2 0, .ptr 0 0, .ptr 1 0])]] [.box (bE c), .box [(iQ slot)], .box [(kI at_)]] (Is (jI 4 r_) [.box (bE c), .box [(iQ slot)], .box [(kI at_)], .box [(jI 4 r_)], .vec 1 (r_.map aF), .dead, .dead]) := by
 refine LC.ofM Tryz.func144 Z Z Z ?_;unfold x7 at hr;refine ib.seqW (zR (yS Z (bZ Z Z Z Z Z) (zM Z (zN (zT (ib.seq (ib.seqW (zR (zM Z (zN (zT (ib.ent (bL.lazyCell (i := 3) (j := 0) (m := 1) Z Z Z Z Z Z) (ib.weak (env' := [(2, .ptr 3 0), (4, .zs), (6, .fn 145 [] [.cptr [.slice 1 (c.W.map aF), .int .u64 c.Seed, .int .i64 c.Epoch, .int .i64 c.Num, .int .i64 c.Den], .fptr (.fn 106 [] [.ptr 2 0, .ptr 0 0, .ptr 1 0])])]) (H' := [.box (bE c), .box [(iQ slot)], .box [(kI at_)], .box [(jI 4 ([] : List Int))], .vec 1 (([] : List Int).map aF)]) (zW 5 ⟨rfl, rfl, rfl, trivial⟩ Z Z Z Z) (ib.block (zb hr fun v1 h_v1 hr => ib.rangeFunc Z (by kernel_rfl) Z (Hg h_v1) Z Z Z ?_)))))))))))))));refine ⟨rfl, ?_⟩;refine ua (ib.seq (ib.region (j9.st Z Z Z (zD Z Z Z fc Z Z) Z (j9.st Z Z Z (za Z Z) Z (j9.nil (ua (ib.ret ?_)))))));obtain rfl := zJ hr;exact ⟨.inr rfl, _, [(4, (jI 4 v1))], [.box (bE c), .box [(iQ slot)], .box [(kI at_)], .box [(jI 4 v1)], .vec 1 (v1.map aF), .dead, .dead], _, rfl, zW 7 ⟨rfl, trivial⟩ Z Z Z rfl, (.one (.tmp Z)), ⟨rfl, rfl⟩⟩
def uA (c : Cf) (slot : Int) (at_ : List Int) : Option (List Int) :=
 (x7 c slot at_).bind fun v1 =>
 some v1
theorem Ha {c : Cf} {slot : Int} {at_ : List Int} {r_ : List Int} (hr : uA c slot at_ = some r_) : LC Tryz.prog 104 [.fn 145 [] [.cptr [.slice 1 (c.W.map aF), .int .u64 c.Seed, .int .i64 c.Epoch, .int .i64 c.Num, .int .i64 c.Den], .fptr (.fn 106 [] [.ptr 2 0, .ptr 0 0, .ptr 1 0])]] [.box (bE c), .box [(iQ slot)], .box [(kI at_)]] (Is (jI 4 r_) [.box (bE c), .box [(iQ slot)], .box [(kI at_)], .box [(jI 4 r_)], .vec 1 (r_.map aF), .dead, .dead]) := by
 refine dk Tryz.func104 Z Z Z ?_;unfold uA at hr;refine zQ (zR (zM Z (zN (zT (zQ (zR (zM Z (zb hr fun v1 h_v1 hr => yS Z (zC Z Z Z (by kernel_rfl) (Hf h_v1)) (zM Z (zN (zT (zr ?_))))))))))));obtain rfl := zJ hr;exact ap (.one (.tmp Z)) (⟨rfl, rfl⟩)
open Go.Proofs
open Go.Proofs
open Go.Proofs
structure fh where
 t11 : Int
 o1 : List (Int × Bool)
def nS (l : List Int) (x1 : fh) : Option (fh ⊕ fh) :=
 bif decide (x1.t11 < (l.length : Int)) then
  (ix l x1.t11).bind fun y1 =>
  some (.inl (fh.mk (IntKind.i64.wrap (x1.t11 + 1)) (aO x1.o1 y1 true)))
 else
  some (.inr (fh.mk x1.t11 x1.o1))
def FQ (c : Cf) (l : List Int) : Option Int :=
 (iter (nS l) bD (fh.mk 0 ([] : List (Int × Bool)))).bind fun v1 =>
 (xY c v1.o1).bind fun v2 =>
 some v2
theorem KV {c : Cf} {l : List Int} {r_ : Int} (hr : FQ c l = some r_) : aw Tryz.prog 109 [jC c, .slice 1 (l.map aF)] [.int .i64 r_] := by
 refine zh Tryz.func109 Z Z Z Z ?_;unfold FQ at hr;refine zQ (zR (yS Z (bZ Z Z Z Z Z) (zM Z (zN (zT (zQ (zR (yS Z (ab.makeMap Z Z Z) (yS Z (ze Z KF Z Z) (yS Z (zs Z Z Z Z D5 Z Z Z Z) (zN (zT (zQ (zQ (zR (zM Z (yS Z (dY Z Z (by kernel_rfl)) (zM Z (zN (zT ?_))))))))))))))))))));obtain ⟨v1, hb_v1, ho_v1⟩ := zB hr;clear hr;refine LW.tail (E := [(2, .ptr 0 0), (4, (iQ 0)), (5, .ptr 2 0)]) (O := [.box (bE c), .map (ah aF (fun v => (bQ v)) v1.o1), .box [.map 1]]) ?_ (fun env_v1 H_v1 hw_v1 => ?_)
 ·refine LW.block ?_;refine LW.iterB (E := fun x1 : fh => [(2, .ptr 0 0), (4, (iQ 0)), (5, .ptr 2 0), (9, (kI l)), (10, .p (.int .i64 (l.length : Int))), (11, (iQ x1.t11))]) (O := fun x1 => [.box (bE c), .map (ah aF (fun v => (bQ v)) x1.o1), .box [.map 1]]) hb_v1 (zW 3 ⟨rfl, rfl, rfl, rfl, rfl, rfl, trivial⟩ Z Z Z (zL Z (zL (ae (fun _ => rfl) _) (zL Z Z)))) (fun x1 z_x1 hr hb_x1 => ?_);unfold nS at hr;refine zQ (zR (yS Z (ax Z Z Z Z) (zN (zT (zQ ?_)))));refine zX Z (fun g1 => ?_) (fun g1 => ?_)
  ·
   refine zi g1 hr fun hr => zk (zT (zQ (zl (zQ (zR (zb hr fun y1 h_y1 hr => yS Z (zx Z Z Z fY h_y1 Z) (yS Z (eA Z Z Z bA Z Z) (zM Z (zN (zT (zR (yS Z (zD Z Z Z D5 Z Z) (zM Z ?_)))))))))))));refine yS Z (ab.setX (f := aF) (g := (fun v => (bQ v))) y1 true Dl (.inl Z) Z Z Z Z Z Gr Z) ?_;refine zN (ai (zT (zR (yS Z (ax Z Z Z Z) (zM Z (zN (zT ?_)))))));obtain rfl := zJ hr;exact ⟨_, rfl, zW 3 ⟨rfl, rfl, rfl, rfl, rfl, rfl, trivial⟩ Z Z Z (zL Z (zL (ae (fun _ => rfl) _) (zL Z Z)))⟩
  ·
   refine zo g1 hr fun hr => zq (ao (ao (zy (zT ?_))));obtain rfl := zJ hr;have hr := congrArg some (hb_x1 _ rfl);obtain rfl := zJ hr;exact zW 3 ⟨Z, Z, Z, trivial⟩ Z Z Z (zL Z (zL (ae (fun _ => rfl) _) (zL Z Z)))
 ·have hr := ho_v1;clear hb_v1;refine zT (LW.weak hw_v1 (zQ (LW.draw2 (by kernel_rfl) (by kernel_rfl) (yE Z (zD Z Z Z bv Z Z) (yE Z (zD Z Z Z bv Z Z) (yE Z (ab.makeFunc Z Z Z) (yE Z (zC Z Z Z (by kernel_rfl) (Zz (c := c))) (zb hr fun v2 h_v2 hr => yE Z (zC Z Z Z (by kernel_rfl) (Hd h_v2)) (zH Z (LO.nil (zT (zr ?_))))))))))));obtain rfl := zJ hr;exact zf (.one (.tmp Z)) zv
def FO (c : Cf) (slot : Int) : Option (List Int) :=
 (zU c slot).bind fun v1 =>
 bif !v1 then
  some []
 else
  bif decide (c.Epoch ≠ 0) then
   (Il (step c.Seed (IntKind.u64.wrap (IntKind.i64.wrap (slot.tdiv c.Epoch)))) (c.W.length : Int)).bind fun v2 =>
   (uA c slot v2).bind fun v3 =>
   some v3
  else none
theorem KU {c : Cf} {slot : Int} {r_ : (List Int)} (hr : FO c slot = some r_) : aw Tryz.prog 57 [jC c, .int .i64 slot] [.slice 1 (r_.map aF)] := by
 refine zh Tryz.func57 Z Z Z Z ?_;unfold FO at hr;refine zQ (zR (yS Z (bZ Z Z Z Z Z) (yS Z (bZ Z Z Z Z Z) (zM Z (zN (zT (zQ (zQ (zR (yS Z (zD Z Z Z bv Z Z) (yS Z (zD Z Z Z bA Z Z) (zb hr fun v1 h_v1 hr => yS Z (zC Z Z Z (by kernel_rfl) (zp (IL h_v1) (.cons zv (.cons zv .nil)))) (yS Z (ab.not Z Z) (zN (zT ?_)))))))))))))));refine zX Z (fun g1 => ?_) (fun g1 => ?_)
 ·
  refine zi g1 hr fun hr => zQ (zR (zM Z (zN (zT (zr (am ?_))))));obtain rfl := zJ hr;exact zf (.one (.tmp Z)) Conv.zs
 ·
  refine zo g1 hr fun hr => zk (zT (zQ (LW.ent (bL.slot Z) (LW.drawW (by kernel_rfl) (by kernel_rfl) ?_))));refine yF (F := []) (s := none) Z (fun H _ => zA Z Z De) Z ?_;refine yF Z (zd Z Z Z nN Z Z) Z (yF Z (zd Z Z Z bA Z Z) Z ?_);refine yF (F := []) (s := none) Z (fun H _ => zA Z Z qO) Z ?_;refine yF Z (zd Z Z Z bA Z Z) Z (zg hr fun q1 hr => ?_);refine yF (F := []) (s := none) Z (fun H _ => ab.quo Z Z Z (of_decide_eq_true q1)) Z ?_;refine yF (F := []) (s := none) Z (fun H _ => ab.convert (k' := .u64) Z Z (by kernel_rfl)) Z ?_;refine yF (F := []) (s := none) Z (fun H _ => zC Z Z Z (by kernel_rfl) (zp (u8 (h := c.Seed) (x := (IntKind.u64.wrap (IntKind.i64.wrap (slot.tdiv c.Epoch))))) (.cons zv (.cons zv .nil)))) Z ?_;refine yF (F := []) (s := none) Z (fun H _ => zA Z Z gP) Z ?_;refine yF Z (zd Z Z Z fc Z Z) Z ?_;refine yF (F := []) (s := none) Z (fun H _ => dY Z Z (by kernel_rfl)) Z ?_;obtain ⟨v2, h_v2, hr⟩ := zB hr;refine yF (F := []) (s := none) Z (fun H _ => zC Z Z Z (by kernel_rfl) (zp (L8 h_v2) (.cons zv (.cons zv .nil)))) Z ?_;refine yF Z (bH.alloc Z LP (id := 2) Z) Z (yF Z (zt Z Z Z Z fc Z Z Z) Z ?_);refine LF.nil ⟨by kernel_rfl, ?_⟩;refine zT (zQ (zR (yS Z (zD Z Z Z bv Z Z) (yS Z (ab.makeFunc Z Z Z) (yS Z (zC Z Z Z (by kernel_rfl) (Zz (c := c))) (zb hr fun v3 h_v3 hr => yS Z (zC Z Z Z (by kernel_rfl) (Ha h_v3)) (zM Z (zN (zT (zr ?_))))))))));obtain rfl := zJ hr;exact zf (.one (.tmp Z)) ((Conv.vecAll Z Z Z))
def EN (c : Cf) (slot : Int) : Option Int :=
 (zU c slot).bind fun v1 =>
 bif !v1 then
  some (-1)
 else
  bif decide ((IntKind.u64.wrap ((c.W.length : Int))) ≠ 0) then
   some (IntKind.i64.wrap ((step (step c.Seed 4294967296) (IntKind.u64.wrap (slot))).tmod (IntKind.u64.wrap ((c.W.length : Int)))))
  else none
theorem KT {c : Cf} {slot : Int} {r_ : Int} (hr : EN c slot = some r_) : aw Tryz.prog 34 [jC c, .int .i64 slot] [.int .i64 r_] := by
 refine zh Tryz.func34 Z Z Z Z ?_;unfold EN at hr;refine zQ (zR (yS Z (bZ Z Z Z Z Z) (zM Z (zN (zT (zQ (zQ (zR (yS Z (zD Z Z Z bv Z Z) (zM Z (zb hr fun v1 h_v1 hr => yS Z (zC Z Z Z (by kernel_rfl) (zp (IL h_v1) (.cons zv (.cons zv .nil)))) (yS Z (ab.not Z Z) (zN (zT ?_))))))))))))));refine zX Z (fun g1 => ?_) (fun g1 => ?_)
 ·
  refine zi g1 hr fun hr => zQ (zR (zM Z (zN (zT (zr (am ?_))))));obtain rfl := zJ hr;exact zf (.one (.tmp Z)) zv
 ·
  refine zo g1 hr fun hr => zk (zT (zQ (LW.draw2 (by kernel_rfl) (by kernel_rfl) (yE Z (zA Z Z De) (yE Z (zD Z Z Z nN Z Z) (yE Z (zC Z Z Z (by kernel_rfl) (zp (u8 (h := c.Seed) (x := 4294967296)) (.cons zv (.cons zv .nil)))) (zH Z (yE Z (ab.convert (k' := .u64) Z Z (by kernel_rfl)) (yE Z (zC Z Z Z (by kernel_rfl) (zp (u8 (h := (step c.Seed 4294967296)) (x := (IntKind.u64.wrap (slot)))) (.cons zv (.cons zv .nil)))) (yE Z (zA Z Z gP) (yE Z (zD Z Z Z fc Z Z) (yE Z (dY Z Z (by kernel_rfl)) (yE Z (ab.convert (k' := .u64) Z Z (by kernel_rfl)) (zg hr fun q1 hr => yE Z (ab.rem Z Z Z (of_decide_eq_true q1)) (yE Z (ab.convert (k' := .i64) Z Z (by kernel_rfl)) (zH Z (LO.nil (zT (zr ?_)))))))))))))))))));obtain rfl := zJ hr;exact zf (.one (.tmp Z)) zv
def HW (c : Cf) (slot : Int) (who : Int) : Option Bool :=
 (FO c slot).bind fun v1 =>
 (tj v1 who).bind fun v2 =>
 some v2
theorem LU {c : Cf} {slot : Int} {who : Int} {r_ : Bool} (hr : HW c slot who = some r_) : aw Tryz.prog 22 [jC c, .int .i64 slot, .int .i64 who] [.bool r_] := by
 refine zh Tryz.func22 Z Z Z Z ?_;unfold HW at hr;refine zQ (zR (yS Z (bZ Z Z Z Z Z) (zM Z (zN (zT (zQ (zR (yS Z (zD Z Z Z bv Z Z) (zM Z (zb hr fun v1 h_v1 hr => yS Z (zC Z Z Z (by kernel_rfl) (zp (KU h_v1) (.cons zv (.cons zv .nil)))) (zM Z (zb hr fun v2 h_v2 hr => yS Z (zC Z Z Z (by kernel_rfl) (zp (CL h_v2) (.cons zv (.cons zv .nil)))) (zM Z (zN (zT (zr ?_))))))))))))))));obtain rfl := zJ hr;exact zf (.one (.tmp Z)) zv
open Go.Proofs
def Ad (x : Int) : Option Bool :=
 some (x != x)
theorem IZ {x : Int} {r_ : Bool} (hr : Ad x = some r_) : aw Tryz.prog 174 [.int .u64 x] [.bool r_] := by
 refine zh Tryz.func174 Z Z Z Z ?_;unfold Ad at hr;refine zQ (zR (zM Z (zN (zT (zQ (zR (zM Z (zM Z (yS Z (ax Z Z Z Z) (zM Z (zN (zT (zr ?_)))))))))))));obtain rfl := zJ hr;exact zf (.one (.tmp Z)) zv
def BX (x : Int) (y : Int) : Option Int :=
 (Ad x).bind fun v1 =>
 (Ad y).bind fun v2 =>
 bif v1 then
  bif v2 then
   some 0
  else
   some (-1)
 else
  bif v2 then
   some 1
  else
   bif decide (x < y) then
    some (-1)
   else
    bif decide (x > y) then
     some 1
    else
     some 0
theorem Ln {x : Int} {y : Int} {r_ : Int} (hr : BX x y = some r_) : aw Tryz.prog 159 [.int .u64 x, .int .u64 y] [.int .i64 r_] := by
 refine zh Tryz.func159 Z Z Z Z ?_;unfold BX at hr;refine zQ (zR (zM Z (zN (zT (zQ (zR (zM Z (zb hr fun v1 h_v1 hr => yS Z (zC Z Z Z (by kernel_rfl) (zp (IZ h_v1) (.cons zv .nil))) (zM Z (zN (zT (zQ (zR (zM Z (zb hr fun v2 h_v2 hr => yS Z (zC Z Z Z (by kernel_rfl) (zp (IZ h_v2) (.cons zv .nil))) (zM Z (zN (zT (zQ (zQ (zR ?_)))))))))))))))))))));refine zM Z (zN (zT ?_));refine zX Z (fun g1 => ?_) (fun g1 => ?_)
 ·
  refine zi g1 hr fun hr => zQ (zQ (zR (zM Z (zN (zT ?_)))));refine zX Z (fun g2 => ?_) (fun g2 => ?_)
  ·
   refine zi g2 hr fun hr => zQ (zR (zM Z (zN (zT (zr (am (am ?_)))))));obtain rfl := zJ hr;exact zf (.one (.tmp Z)) zv
  ·
   refine zo g2 hr fun hr => zk (zT (zQ (zR (zM Z (zN (zT (zr (am ?_))))))));obtain rfl := zJ hr;exact zf (.one (.tmp Z)) zv
 ·
  refine zo g1 hr fun hr => zk (zT (zQ (zQ (zR (zM Z (zN (zT ?_)))))));refine zX Z (fun g3 => ?_) (fun g3 => ?_)
  ·
   refine zi g3 hr fun hr => zQ (zR (zM Z (zN (zT (zr (am ?_))))));obtain rfl := zJ hr;exact zf (.one (.tmp Z)) zv
  ·
   refine zo g3 hr fun hr => zk (zT (zQ (zQ (zR (zM Z (zM Z (yS Z (ax Z Z Z Z) (zN (zT ?_)))))))));refine zX Z (fun g4 => ?_) (fun g4 => ?_)
   ·
    refine zi g4 hr fun hr => zQ (zR (zM Z (zN (zT (zr (am ?_))))));obtain rfl := zJ hr;exact zf (.one (.tmp Z)) zv
   ·
    refine zo g4 hr fun hr => zk (zT (zQ (zQ (zR (zM Z (zM Z (yS Z (ax Z Z Z Z) (zN (zT ?_)))))))));refine zX Z (fun g5 => ?_) (fun g5 => ?_)
    ·
     refine zi g5 hr fun hr => zQ (zR (zM Z (zN (zT (zr (am ?_))))));obtain rfl := zJ hr;exact zf (.one (.tmp Z)) zv
    ·
     refine zo g5 hr fun hr => zk (zT (zQ (zR (zM Z (zN (zT (zr ?_)))))));obtain rfl := zJ hr;exact zf (.one (.tmp Z)) zv
structure dN where
 t11 : Int
def iq (s1 : List Int) (s2 : List Int) (x1 : dN) : Option (dN ⊕ (dN ⊕ Int)) :=
 bif decide (x1.t11 < (s1.length : Int)) then
  (ix s1 x1.t11).bind fun y1 =>
  bif decide (x1.t11 ≥ (s2.length : Int)) then
   some (.inr (.inr 1))
  else
   (ix s2 x1.t11).bind fun y2 =>
   (BX y1 y2).bind fun v2 =>
   bif v2 != 0 then
    some (.inr (.inr v2))
   else
    some (.inl (dN.mk (IntKind.i64.wrap (x1.t11 + 1))))
 else
  some (.inr (.inl (dN.mk x1.t11)))
def z7 (s1 : List Int) (s2 : List Int) : Option Int :=
 (iter (iq s1 s2) bD (dN.mk 0)).bind fun b_v1 => Sum.elim (fun _ =>
  bif decide ((s1.length : Int) < (s2.length : Int)) then
   some (-1)
  else
   some 0) some b_v1
theorem IT {s1 : List Int} {s2 : List Int} {r_ : Int} (hr : z7 s1 s2 = some r_) : aw Tryz.prog 117 [.slice 1 (s1.map k7), .slice 1 (s2.map k7)] [.int .i64 r_] := by
 refine zh Tryz.func117 Z Z Z Z ?_;unfold z7 at hr;refine zQ (zR (zM Z (zN (zT (zQ (zQ (zR (zM Z (yS Z (dY Z Z (by kernel_rfl)) (zM Z (zN (zT ?_))))))))))));obtain ⟨b_v1, hb_v1, ho_v1⟩ := zB hr;clear hr;refine LW.tailB (b := b_v1) (E := fun v1 => [(0, .p (.slice 1 (s1.map k7))), (1, .p (.slice 1 (s2.map k7))), (4, (iQ 0))]) (O := fun v1 => []) ?_ (fun v1 e_v1 env_v1 H_v1 hw_v1 => ?_)
 ·refine LW.block ?_;refine LW.iterB (E := fun x1 : dN => [(0, .p (.slice 1 (s1.map k7))), (1, .p (.slice 1 (s2.map k7))), (4, (iQ 0)), (9, .p (.slice 1 (s1.map k7))), (10, .p (.int .i64 (s1.length : Int))), (11, (iQ x1.t11))]) (O := fun x1 => []) hb_v1 (zW 0 ⟨rfl, rfl, rfl, rfl, rfl, rfl, trivial⟩ Z Z Z Z) (fun x1 z_x1 hr hb_x1 => ?_);unfold iq at hr;refine zQ (zR (yS Z (ax Z Z Z Z) (zN (zT (zQ ?_)))));refine zX Z (fun g1 => ?_) (fun g1 => ?_)
  ·
   refine zi g1 hr fun hr => zk (zT (zQ (zl (zQ (zR (zM Z (zb hr fun y1 h_y1 hr => yS Z (zx Z Z Z FE h_y1 Z) (yS Z (eA Z Z Z nN Z Z) (zM Z (zM Z (zN (zT (zQ (zQ (zR (zM Z (zM Z (yS Z (dY Z Z (by kernel_rfl)) (yS Z (ax Z Z Z Z) (zN (zT ?_)))))))))))))))))))));refine zX Z (fun g2 => ?_) (fun g2 => ?_)
   ·
    refine zi g2 hr fun hr => zQ (zR (zM Z (zN (zT (zr (am (aD (am (am (aD (am (am ?_))))))))))));obtain rfl := zJ hr;have hr := congrArg some (hb_x1 _ rfl);obtain rfl := zJ hr;have hr := ff ho_v1;obtain rfl := zJ hr;exact zf (.one (.tmp Z)) zv
   ·
    refine zo g2 hr fun hr => zk (zT (zQ (zR (zM Z (zM Z (zb hr fun y2 h_y2 hr => yS Z (zx Z Z Z FE h_y2 Z) (yS Z (eA Z Z Z nN Z Z) (zM Z (zN (zT (zQ (zR (zM Z (zM Z (zb hr fun v2 h_v2 hr => yS Z (zC Z Z Z (by kernel_rfl) (zp (Ln h_v2) (.cons zv (.cons zv .nil)))) (zM Z (zN (zT (zQ (zR ?_))))))))))))))))))));refine zM Z (yS Z (ax Z Z Z Z) (zN (zT ?_)));refine zX Z (fun g3 => ?_) (fun g3 => ?_)
    ·
     refine zi g3 hr fun hr => zQ (zR (zM Z (zM Z (zN (zT (zr (aD (am (am (aD (am (am ?_))))))))))));obtain rfl := zJ hr;have hr := congrArg some (hb_x1 _ rfl);obtain rfl := zJ hr;have hr := ff ho_v1;obtain rfl := zJ hr;exact zf (.one (.tmp Z)) zv
    ·
     refine zo g3 hr fun hr => zk (ai (zT (zR (yS Z (ax Z Z Z Z) (zM Z (zN (zT ?_)))))));obtain rfl := zJ hr;exact ⟨_, rfl, zW 0 ⟨rfl, rfl, rfl, rfl, rfl, rfl, trivial⟩ Z Z Z rfl⟩
  ·
   refine zo g1 hr fun hr => zq (ao (ao (zy (zT ?_))));obtain rfl := zJ hr;have hr := congrArg some (hb_x1 _ rfl);obtain rfl := zJ hr;exact ⟨_, rfl, zW 0 ⟨rfl, rfl, rfl, trivial⟩ Z Z Z rfl⟩
 ·obtain rfl := e_v1;have hr := hZ ho_v1;clear hb_v1;refine zT (LW.weak hw_v1 (zQ (zQ (zR (zM Z (yS Z (dY Z Z (by kernel_rfl)) (zM Z (yS Z (dY Z Z (by kernel_rfl)) (yS Z (ax Z Z Z Z) (zN (zT ?_)))))))))));refine zX Z (fun g4 => ?_) (fun g4 => ?_)
  ·
   refine zi g4 hr fun hr => zQ (zR (zM Z (zN (zT (zr (am ?_))))));obtain rfl := zJ hr;exact zf (.one (.tmp Z)) zv
  ·
   refine zo g4 hr fun hr => zk (zT (zQ (zR (zM Z (zN (zT (zr ?_)))))));obtain rfl := zJ hr;exact zf (.one (.tmp Z)) zv
def BG (a : ID) (b : ID) : Option Bool :=
 (z7 [a.1, a.2] [b.1, b.2]).bind fun v1 =>
 some (decide (v1 < 0))
theorem Lc {a : ID} {b : ID} {r_ : Bool} (hr : BG a b = some r_) : aw Tryz.prog 188 [bF a, bF b] [.bool r_] := by
 refine zh Tryz.func188 Z Z Z Z ?_;unfold BG at hr;refine zQ (zR (yS Z (bZ Z Z Z Z Z) (yS Z (bZ Z Z Z Z Z) (zM Z (zN (zT (zQ (LW.draw2 (by kernel_rfl) (by kernel_rfl) (yE Z (ab.sliceBox Z Z As Z Z Z) (yE Z (ab.sliceBox Z Z As Z Z Z) (zb hr fun v1 h_v1 hr => yE Z (zC Z Z Z (by kernel_rfl) (LC.lend (IT h_v1) (.cons (Conv.boxSlice Z Z Z Z) (.cons (Conv.boxSlice Z Z Z Z) .nil)) Z)) (yE Z (ax Z Z Z Z) (zH Z (LO.nil (zT (zr ?_))))))))))))))));obtain rfl := zJ hr;exact zf (.one (.tmp Z)) zv
def BH (a : Rk) (b : Rk) : Option Bool :=
 bif a.n != b.n then
  some (decide (a.n > b.n))
 else
  bif !((a.n == b.n) && ((a.id.1 == b.id.1) && ((a.id.2 == b.id.2) && true))) then
   (BG b.id a.id).bind fun v1 =>
   some v1
  else
   some false
theorem Ld {a : Rk} {b : Rk} {r_ : Bool} (hr : BH a b = some r_) : aw Tryz.prog 172 [L2 a, L2 b] [.bool r_] := by
 refine zh Tryz.func172 Z Z Z Z ?_;unfold BH at hr;refine zQ (zR (yS Z (bZ Z Z Z Z Z) (yS Z (bZ Z Z Z Z Z) (zM Z (zN (zT (zQ (zQ (zR (yS Z (zA Z Z na) (yS Z (zD Z Z Z bA Z Z) (yS Z (zA Z Z na) (yS Z (zD Z Z Z bA Z Z) (yS Z (ax Z Z Z Z) (zN (zT ?_))))))))))))))));refine zX Z (fun g1 => ?_) (fun g1 => ?_)
 ·
  refine zi g1 hr fun hr => zQ (zR (yS Z (zA Z Z na) (yS Z (zD Z Z Z bA Z Z) (yS Z (zA Z Z na) (yS Z (zD Z Z Z bA Z Z) (yS Z (ax Z Z Z Z) (zM Z (zN (zT (zr (am ?_)))))))))));obtain rfl := zJ hr;exact zf (.one (.tmp Z)) zv
 ·
  refine zo g1 hr fun hr => zk (zT (zQ (zR (yS Z (zD Z Z Z pn Z Z) (yS Z (zD Z Z Z pn Z Z) (yS Z (ab.neqAgg Z Z Z Z Z Hz) (zM Z ?_)))))));refine zc 18 Z (fun g2 => ?_) (fun g2 => ?_)
  ·
   refine zi g2 hr fun hr => yV Z (gd g2 Z) (zA Z Z tJ) (yV Z (gd g2 Z) (zD Z Z Z aR Z Z) (yV Z (gd g2 Z) (zA Z Z tJ) (yV Z (gd g2 Z) (zD Z Z Z aR Z Z) (zb hr fun v1 h_v1 hr => yV Z (gd g2 Z) (zC Z Z Z (by kernel_rfl) (zp (Lc h_v1) (.cons zv (.cons zv .nil)))) (yS Z (eo Z (bI g2 Z) Z) (zM Z (zN (zT (zr ?_)))))))));obtain rfl := zJ hr;exact zf (.one (.tmp Z)) zv
  ·
   refine zo g2 hr fun hr => yU Z (gd g2 Z) Z (yU Z (gd g2 Z) Z (yU Z (gd g2 Z) Z (yU Z (gd g2 Z) Z (yU Z (gd g2 Z) Z (yS Z (dc Z (bI g2 Z) Z) (zM Z (zN (zT (zr ?_)))))))));obtain rfl := zJ hr;exact zf (.one (.tmp Z)) zv
def EI (x : Vt) : Option Int :=
 some x.From
theorem Ll {x : Vt} {r_ : Int} (hr : EI x = some r_) : aw Tryz.prog 153 [aI x] [.int .i64 r_] := by
 refine zh Tryz.func153 Z Z Z Z ?_;unfold EI at hr;refine zQ (zR (yS Z (bZ Z Z Z Z Z) (zM Z (zN (zT (zQ (zR (yS Z (zA Z Z qP) (yS Z (zD Z Z Z bA Z Z) (zM Z (zN (zT (zr ?_)))))))))))));obtain rfl := zJ hr;exact zf (.one (.tmp Z)) zv
open Go.Proofs
def BS (x : Vt) (_ : Cf) (l : List Bk) (id : ID) (m : List (ID × Bool)) : Option (Bool × (List (ID × Bool))) :=
 bif !((af m x.Head).isSome) then
  bif few l then
   some (decide (aQ (aq l x.Head) id ≥ 0), aO m x.Head (decide (aQ (aq l x.Head) id ≥ 0)))
  else none
 else
  some ((af m x.Head).getD false, m)
theorem Jr {x : Vt} {c : Cf} {l : List Bk} {id : ID} {m : List (ID × Bool)} {r_ : Bool × (List (ID × Bool))} (hr : BS x c l id m = some r_) : LC Tryz.prog 151 [.p (aI x), .ptr 4 0, .ptr 1 0, .ptr 2 0] [.box (bE c), .box [(kB l)], .box [(uQ id.1), (uQ id.2)], .map (ah bF (fun v => (bQ v)) m), .box [.map 3]] (Is (bQ r_.1) [.box (bE c), .box [(kB l)], .box [(uQ id.1), (uQ id.2)], .map (ah bF (fun v => (bQ v)) r_.2), .box [.map 3]]) := by
 refine dk Tryz.func151 Z Z Z ?_;unfold BS at hr;refine zQ (zR (yS Z (bZ Z Z Z Z Z) (zM Z (zN (zT (zQ (zR (yS Z (zD Z Z Z D7 Z Z) (yS Z (zA Z Z mi) (yS Z (zD Z Z Z aR Z Z) ?_))))))))));refine yS Z (ab.getX (f := bF) (g := (fun v => (bQ v))) x.Head false dJ Z Z Z Z yY KD Z Z) ?_;refine zM Z (yS Z (eZ Z Z Z) (yS Z (eZ Z Z Z) (zM Z (zM Z (zN (zT (zQ (zQ (zR (zM Z (yS Z (ab.not Z Z) (zN (zT ?_)))))))))))));refine zX Z (fun g1 => ?_) (fun g1 => ?_)
 ·
  refine zi g1 hr fun hr => zQ (LW.draw2 (by kernel_rfl) (by kernel_rfl) (yE Z (zD Z Z Z dC Z Z) (yE Z (zA Z Z mi) (yE Z (zD Z Z Z aR Z Z) (zg hr fun q1 hr => yE Z (zC Z Z Z (by kernel_rfl) (zp (KS (l := l) (id := x.Head) (tF q1)) (.cons zv (.cons zv .nil)))) (yE Z (zD Z Z Z aR Z Z) (yE Z (zC Z Z Z (by kernel_rfl) (zp (LY (l := (aq l x.Head)) (v := id)) (.cons zv (.cons zv .nil)))) (zH Z (LO.nil (zT (zR (yS Z (zD Z Z Z D7 Z Z) (yS Z (zA Z Z mi) (yS Z (zD Z Z Z aR Z Z) (zM Z ?_)))))))))))))));refine yS Z (ab.setX (f := bF) (g := (fun v => (bQ v))) x.Head (decide (aQ (aq l x.Head) id ≥ 0)) dJ (.inl Z) Z Z Z Z Z yY Z) ?_;refine zN (zT (zQ (zR (zM Z (zM Z (zN (zT (zr ?_))))))));obtain rfl := zJ hr;refine a8 (env' := [(5, .p (.bool (decide (aQ (aq l x.Head) id ≥ 0))))]) (H' := [.box (bE c), .box [(kB l)], .box [(uQ id.1), (uQ id.2)], .map (ah bF (fun v => (bQ v)) (aO m x.Head (decide (aQ (aq l x.Head) id ≥ 0)))), .box [.map 3]]) (zW 5 ⟨rfl, trivial⟩ Z Z Z (zL Z (zL Z (zL Z (zL (ae (fun _ => rfl) _) (zL Z Z)))))) (.one (.tmp Z)) ?_;exact ⟨rfl, rfl⟩
 ·
  refine zo g1 hr fun hr => zk (zT (zQ (zR (zM Z (zM Z (zN (zT (zr ?_))))))));obtain rfl := zJ hr;refine a8 (env' := [(5, .p (.bool ((af m x.Head).getD false)))]) (H' := [.box (bE c), .box [(kB l)], .box [(uQ id.1), (uQ id.2)], .map (ah bF (fun v => (bQ v)) m), .box [.map 3]]) (zW 5 ⟨rfl, trivial⟩ Z Z Z (zL Z (zL Z (zL Z (zL (ae (fun _ => rfl) _) (zL Z Z)))))) (.one (.tmp Z)) ?_;exact ⟨rfl, rfl⟩
structure ir where
 t12 : Int
 o3 : List (ID × Bool)
 out : List Int
def mV (v : List Vt) (c : Cf) (l : List Bk) (id : ID) (x1 : ir) : Option (ir ⊕ ir) :=
 bif decide (x1.t12 < (v.length : Int)) then
  (ix v x1.t12).bind fun y1 =>
  (BS y1 c l id x1.o3).bind fun v2 =>
  bif v2.1 then
   (EI y1).bind fun v3 =>
   bif room x1.out.length [v3].length 8 then
    some (.inl (ir.mk (IntKind.i64.wrap (x1.t12 + 1)) v2.2 (x1.out ++ [v3])))
   else none
  else
   some (.inl (ir.mk (IntKind.i64.wrap (x1.t12 + 1)) v2.2 x1.out))
 else
  some (.inr (ir.mk x1.t12 x1.o3 x1.out))
def BT (v : List Vt) (c : Cf) (l : List Bk) (id : ID) (m : List (ID × Bool)) : Option (List Int × List (ID × Bool)) :=
 (iter (mV v c l id) bD (ir.mk 0 m ([] : List Int))).bind fun v1 =>
 some (v1.out, v1.o3)
theorem Js {v : List Vt} {c : Cf} {l : List Bk} {id : ID} {m : List (ID × Bool)} {r_ : List Int × List (ID × Bool)} (hr : BT v c l id m = some r_) : LC Tryz.prog 152 [(kV v), .fn 151 [] [.ptr 4 0, .ptr 1 0, .ptr 2 0], .fn 153 [] []] [.box (bE c), .box [(kB l)], .box [(uQ id.1), (uQ id.2)], .map (ah bF (fun v => (bQ v)) m), .box [.map 3]] (Is (kI r_.1) [.box (bE c), .box [(kB l)], .box [(uQ id.1), (uQ id.2)], .map (ah bF (fun v => (bQ v)) r_.2), .box [.map 3]]) := by
 refine dk Tryz.func152 Z Z Z ?_;unfold BT at hr;refine zQ (zR (zM Z (zN (zT (zQ (zR (zM Z (zN (zT (zQ (zQ (zR (zM Z (yS Z (dY Z Z (by kernel_rfl)) (zM Z (zN (zT (LW.ent (bL.lazy (t := 7) (m := 1) Z Z Z) ?_))))))))))))))))));obtain ⟨v1, hb_v1, ho_v1⟩ := zB hr;clear hr;refine LW.tail (E := [(6, .zs), (7, (jI 5 v1.out))]) (O := [.box (bE c), .box [(kB l)], .box [(uQ id.1), (uQ id.2)], .map (ah bF (fun v => (bQ v)) v1.o3), .box [.map 3], .vec 1 (v1.out.map aF)]) ?_ (fun env_v1 H_v1 hw_v1 => ?_)
 ·refine LW.block ?_;refine LW.iterB (E := fun x1 : ir => [(1, .fn 151 [] [.ptr 4 0, .ptr 1 0, .ptr 2 0]), (2, .fn 153 [] []), (6, .zs), (7, (jI 5 x1.out)), (10, (kV v)), (11, .p (.int .i64 (v.length : Int))), (12, (iQ x1.t12))]) (O := fun x1 => [.box (bE c), .box [(kB l)], .box [(uQ id.1), (uQ id.2)], .map (ah bF (fun v => (bQ v)) x1.o3), .box [.map 3], .vec 1 (x1.out.map aF)]) hb_v1 (zW 6 ⟨rfl, rfl, rfl, rfl, rfl, rfl, rfl, trivial⟩ Z Z Z (zL Z (zL Z (zL Z (zL (ae (fun _ => rfl) _) (zL Z (zL Z Z))))))) (fun x1 z_x1 hr hb_x1 => ?_);unfold mV at hr;refine zQ (zR (yS Z (ax Z Z Z Z) (zN (zT (zQ ?_)))));refine zX Z (fun g1 => ?_) (fun g1 => ?_)
  ·
   refine zi g1 hr fun hr => zk (zT (zQ (zl (zQ (zR (zb hr fun y1 h_y1 hr => yS Z (zx Z Z Z dM h_y1 Z) (yS Z (eA Z Z Z cT Z Z) (yS Z (ze Z uk Z Z) (yS Z (zs Z Z Z Z cT Z Z Z Z) (zN (zT (zQ (zR (zM Z (yS Z (zD Z Z Z cT Z Z) (zb hr fun v2 h_v2 hr => ?_))))))))))))))));refine yS Z (zC Z Z Z (by kernel_rfl) (LC.pre (Jr h_v2) Z (zL Z (zL Z (zL Z (zL (ae (fun _ => rfl) _) (zL Z Z))))) Z)) ?_;refine zN (zT ?_);refine zX Z (fun g2 => ?_) (fun g2 => ?_)
   ·
    refine zi g2 hr fun hr => zR (zM Z (zM Z (yS Z (zD Z Z Z cT Z Z) (zb hr fun v3 h_v3 hr => yS Z (zC Z Z Z (by kernel_rfl) (zp (Ll h_v3) (.cons zv .nil))) (yS Z (mL Z fY Z Z Z Z Z) (zg hr fun q1 hr => yS Z (ab.appendX aF x1.out [v3] rfl Z Z Z km.p Z fY q1 Z) (zM Z (zN (ai (zT (zR (yS Z (ax Z Z Z Z) (zM Z (zN (zT ?_)))))))))))))));obtain rfl := zJ hr;exact ⟨_, rfl, zW 6 ⟨rfl, rfl, rfl, rfl, rfl, rfl, rfl, trivial⟩ Z Z Z (zL Z (zL Z (zL Z (zL (ae (fun _ => rfl) _) (zL Z (zL Z Z))))))⟩
   ·
    refine zo g2 hr fun hr => zk (ai (zT (zR (yS Z (ax Z Z Z Z) (zM Z (zN (zT ?_)))))));obtain rfl := zJ hr;exact ⟨_, rfl, zW 6 ⟨rfl, rfl, rfl, rfl, rfl, rfl, rfl, trivial⟩ Z Z Z (zL Z (zL Z (zL Z (zL (ae (fun _ => rfl) _) (zL Z (zL Z Z))))))⟩
  ·
   refine zo g1 hr fun hr => zq (ao (ao (zy (zT ?_))));obtain rfl := zJ hr;have hr := congrArg some (hb_x1 _ rfl);obtain rfl := zJ hr;exact zW 6 ⟨Z, Z, trivial⟩ Z Z Z (zL Z (zL Z (zL Z (zL (ae (fun _ => rfl) _) (zL Z (zL Z Z))))))
 ·have hr := ho_v1;clear hb_v1;refine zT (LW.weak hw_v1 (zQ (zR (zM Z (zM Z (zN (zT ?_)))))));refine LW.weak (env' := [(6, (jI 5 v1.out))]) (H' := [.box (bE c), .box [(kB l)], .box [(uQ id.1), (uQ id.2)], .map (ah bF (fun v => (bQ v)) v1.o3), .box [.map 3], .vec 1 (v1.out.map aF)]) (zW 6 ⟨rfl, trivial⟩ Z Z Z (zL Z (zL Z (zL Z (zL (ae (fun _ => rfl) _) (zL Z (zL Z Z))))))) ?_;refine LW.ent (bL.frz (t := 6) (env' := []) (H0 := [.box (bE c), .box [(kB l)], .box [(uQ id.1), (uQ id.2)], .map (ah bF (fun v => (bQ v)) v1.o3), .box [.map 3]]) Z Z Z Z Z trivial Z (zL Z (zL Z (zL Z (zL (ae (fun _ => rfl) _) (zL Z Z)))))) ?_;refine LW.ret ?_;obtain rfl := zJ hr;exact ap (.one (.tmp Z)) (⟨rfl, rfl⟩)
def zV (c : Cf) (l : List Bk) (v : List Vt) (id : ID) : Option Int :=
 (BT v c l id []).bind fun v1 =>
 (FQ c v1.1).bind fun v2 =>
 some v2
theorem IP {c : Cf} {l : List Bk} {v : List Vt} {id : ID} {r_ : Int} (hr : zV c l v id = some r_) : aw Tryz.prog 112 [jC c, .slice 5 (l.map ay), .slice 4 (v.map aI), bF id] [.int .i64 r_] := by
 refine zh Tryz.func112 Z Z Z Z ?_;unfold zV at hr;refine zQ (zR (yS Z (bZ Z Z Z Z Z) (yS Z (bZ Z Z Z Z Z) (yS Z (bZ Z Z Z Z Z) (zM Z (zN (zT (zQ (zR (yS Z (ab.makeMap Z Z Z) (yS Z (ze Z KH Z Z) (yS Z (zs Z Z Z Z D7 Z Z Z Z) (zN (zT (zQ (zR (yS Z (ab.makeFunc Z Z Z) (zM Z (zN (zT (zQ (LW.drawW (by kernel_rfl) (by kernel_rfl) (yF Z (zd Z Z Z bv Z Z) Z ?_)))))))))))))))))))))));refine zK Z (zK Z (zb hr fun v1 h_v1 hr => ?_));refine yF Z (bH.all (s := some (3, .map (ah bF (fun v => (bQ v)) v1.2))) (zC Z Z Z (by kernel_rfl) (Js h_v1)) Z Z Z) Z ?_;obtain ⟨v2, h_v2, hr⟩ := zB hr;refine yF (F := []) (s := none) Z (fun H _ => zC Z Z Z (by kernel_rfl) (zp (KV h_v2) (.cons zv (.cons zv .nil)))) Z ?_;refine zK Z ?_;refine LF.nil ⟨by kernel_rfl, ?_⟩;refine zT (zr ?_);obtain rfl := zJ hr;exact zf (.one (.tmp Z)) zv
structure fU where
 t19 : Int
 best : Rk
def p8 (c : Cf) (l : List Bk) (v : List Vt) (v1 : (List ID)) (x1 : fU) : Option (fU ⊕ fU) :=
 bif decide (x1.t19 < (v1.length : Int)) then
  (ix v1 x1.t19).bind fun y1 =>
  (zV c l v y1).bind fun v3 =>
  (BH (Rk.mk v3 y1) x1.best).bind fun v4 =>
  bif v4 then
   some (.inl (fU.mk (IntKind.i64.wrap (x1.t19 + 1)) (Rk.mk v3 y1)))
  else
   some (.inl (fU.mk (IntKind.i64.wrap (x1.t19 + 1)) x1.best))
 else
  some (.inr (fU.mk x1.t19 x1.best))
def Im (c : Cf) (l : List Bk) (v : List Vt) (id : ID) : Option (ID × Bool) :=
 (Ik l id).bind fun v1 =>
 (iter (p8 c l v v1) bD (fU.mk 0 (Rk.mk (-1) (0, 0)))).bind fun v2 =>
 some (v2.best.id, decide (v2.best.n ≥ 0))
theorem L9 {c : Cf} {l : List Bk} {v : List Vt} {id : ID} {r_ : ID × Bool} (hr : Im c l v id = some r_) : aw Tryz.prog 154 [jC c, .slice 5 (l.map ay), .slice 4 (v.map aI), bF id] [bF r_.1, .bool r_.2] := by
 refine zh Tryz.func154 Z Z Z Z ?_;unfold Im at hr;refine zQ (zR (yS Z (bZ Z Z Z Z Z) (yS Z (bZ Z Z Z Z Z) (yS Z (ze Z js Z Z) (zM Z (zN (zT (zQ (zR (yS Z (ab.build Z FU Z Z Z) (yS Z (ze Z GF Z Z) (yS Z (zs Z Z Z Z pn Z Z Z Z) (zN (zT (zQ (zQ (zR (zM Z (yS Z (zD Z Z Z aR Z Z) (zb hr fun v1 h_v1 hr => yS Z (zC Z Z Z (by kernel_rfl) (zp (L7 h_v1) (.cons zv (.cons zv .nil)))) (yS Z (dY Z Z (by kernel_rfl)) (zM Z ?_))))))))))))))))))))));refine zN (zT ?_);obtain ⟨v2, hb_v2, ho_v2⟩ := zB hr;clear hr;refine LW.tail (E := [(8, .ptr 2 0), (9, (bQ false)), (10, .ptr 3 0)]) (O := [.box (bE c), .box [(uQ id.1), (uQ id.2)], .box [(uQ 0), (uQ 0)], .box [(iQ v2.best.n), (uQ v2.best.id.1), (uQ v2.best.id.2)]]) ?_ (fun env_v2 H_v2 hw_v2 => ?_)
 ·refine LW.block ?_;refine LW.iterB (E := fun x1 : fU => [(1, (kB l)), (2, (kV v)), (4, .ptr 0 0), (8, .ptr 2 0), (9, (bQ false)), (10, .ptr 3 0), (17, .p (.slice 2 (v1.map bF))), (18, .p (.int .i64 (v1.length : Int))), (19, (iQ x1.t19))]) (O := fun x1 => [.box (bE c), .box [(uQ id.1), (uQ id.2)], .box [(uQ 0), (uQ 0)], .box [(iQ x1.best.n), (uQ x1.best.id.1), (uQ x1.best.id.2)]]) hb_v2 (zW 4 ⟨rfl, rfl, rfl, rfl, rfl, rfl, rfl, rfl, rfl, trivial⟩ Z Z Z Z) (fun x1 z_x1 hr hb_x1 => ?_);unfold p8 at hr;refine zQ (zR (yS Z (ax Z Z Z Z) (zN (zT (zQ ?_)))));refine zX Z (fun g1 => ?_) (fun g1 => ?_)
  ·
   refine zi g1 hr fun hr => zk (zT (zQ (zl (zQ (zR (zb hr fun y1 h_y1 hr => yS Z (zx Z Z Z nG h_y1 Z) (yS Z (eA Z Z Z aR Z Z) (yS Z (ze Z js Z Z) (yS Z (zs Z Z Z Z aR Z Z Z Z) (zN (zT (zQ (LW.ent (bL.slot Z) (LW.drawW (by kernel_rfl) (by kernel_rfl) (yF Z (zd Z Z Z bv Z Z) Z (zK Z (zK Z (yF Z (zd Z Z Z aR Z Z) Z (zb hr fun v3 h_v3 hr => ?_)))))))))))))))))));refine yF (F := []) (s := none) Z (fun H _ => zC Z Z Z (by kernel_rfl) (zp (IP h_v3) (.cons zv (.cons zv (.cons zv (.cons zv .nil)))))) Z ?_;refine yF Z (zd Z Z Z aR Z Z) Z ?_;refine yF (F := []) (s := none) Z (fun H _ => ab.build Z FU Z Z Z) Z ?_;refine yF Z (bH.alloc Z GF (id := 5) Z) Z (yF Z (zt Z Z Z Z pn Z Z Z) Z ?_);refine LF.nil ⟨by kernel_rfl, ?_⟩;refine zT (zQ (zR (yS Z (zD Z Z Z pn Z Z) (yS Z (zD Z Z Z pn Z Z) (zb hr fun v4 h_v4 hr => yS Z (zC Z Z Z (by kernel_rfl) (zp (Ld h_v4) (.cons zv (.cons zv .nil)))) (zN (zT ?_)))))));refine zX Z (fun g2 => ?_) (fun g2 => ?_)
   ·
    refine zi g2 hr fun hr => zR (yS Z (zD Z Z Z pn Z Z) (yS Z (zs Z Z Z Z pn Z Z Z Z) (zN (ai (zT (zR (yS Z (ax Z Z Z Z) (zM Z (zN (zT ?_))))))))));obtain rfl := zJ hr;exact ⟨_, rfl, zW 4 ⟨rfl, rfl, rfl, rfl, rfl, rfl, rfl, rfl, rfl, trivial⟩ Z Z Z rfl⟩
   ·
    refine zo g2 hr fun hr => zk (ai (zT (zR (yS Z (ax Z Z Z Z) (zM Z (zN (zT ?_)))))));obtain rfl := zJ hr;exact ⟨_, rfl, zW 4 ⟨rfl, rfl, rfl, rfl, rfl, rfl, rfl, rfl, rfl, trivial⟩ Z Z Z rfl⟩
  ·
   refine zo g1 hr fun hr => zq (ao (ao (zy (zT ?_))));obtain rfl := zJ hr;have hr := congrArg some (hb_x1 _ rfl);obtain rfl := zJ hr;exact zW 4 ⟨Z, Z, Z, trivial⟩ Z Z Z Z
 ·have hr := ho_v2;clear hb_v2;refine zT (LW.weak hw_v2 (zQ (LW.drawW (by kernel_rfl) (by kernel_rfl) ?_)));refine yF (F := []) (s := none) Z (fun H _ => zA Z Z tJ) Z ?_;refine yF Z (zd Z Z Z aR Z Z) Z ?_;refine yF (F := []) (s := none) Z (fun H _ => zA Z Z na) Z ?_;refine yF Z (zd Z Z Z bA Z Z) Z ?_;refine yF (F := []) (s := none) Z (fun H _ => ax Z Z Z Z) Z ?_;refine yF Z (zt Z Z Z Z aR Z Z Z) Z (zK Z ?_);refine LF.nil ⟨by kernel_rfl, ?_⟩;refine zT (zr ?_);obtain rfl := zJ hr;exact zf (.two (.cellAgg Z Z (by kernel_rfl) Z) (.tmp Z)) (⟨_, rfl, (.cons zv (.cons zv .nil))⟩)
structure l4 where
 id : ID
def l5 (c : Cf) (l : List Bk) (v : List Vt) (x1 : l4) : Option (l4 ⊕ l4) :=
 (Im c l v x1.id).bind fun v2 =>
 bif !v2.2 then
  some (.inr (l4.mk x1.id))
 else
  some (.inl (l4.mk v2.1))
def Io (c : Cf) (l : List Bk) (v : List Vt) : Option ID :=
 (iter (l5 c l v) bD (l4.mk (0, 0))).bind fun v1 =>
 some v1.id
theorem Ma {c : Cf} {l : List Bk} {v : List Vt} {r_ : ID} (hr : Io c l v = some r_) : aw Tryz.prog 114 [jC c, .slice 5 (l.map ay), .slice 4 (v.map aI)] [bF r_] := by
 refine zh Tryz.func114 Z Z Z Z ?_;unfold Io at hr;refine zQ (zR (yS Z (bZ Z Z Z Z Z) (yS Z (ze Z js Z Z) (zN (zT (LW.scope (zQ (LW.label (zT ?_)))))))));obtain ⟨v1, hb_v1, ho_v1⟩ := zB hr;clear hr;refine LW.cut (E := [(6, .ptr 1 0)]) (O := [.box (bE c), .box [(uQ v1.id.1), (uQ v1.id.2)]]) ?_ ?_
 ·refine LW.block ?_;refine LW.iterB (E := fun x1 : l4 => [(1, (kB l)), (2, (kV v)), (3, .ptr 0 0), (6, .ptr 1 0)]) (O := fun x1 => [.box (bE c), .box [(uQ x1.id.1), (uQ x1.id.2)]]) hb_v1 (zW 2 ⟨rfl, rfl, rfl, rfl, trivial⟩ Z Z Z Z) (fun x1 z_x1 hr hb_x1 => ?_);unfold l5 at hr;refine zl (zQ (zR (yS Z (zD Z Z Z bv Z Z) (zM Z (zM Z (yS Z (zD Z Z Z aR Z Z) (zb hr fun v2 h_v2 hr => yS Z (zC Z Z Z (by kernel_rfl) (zp (L9 h_v2) (.cons zv (.cons zv (.cons zv (.cons zv .nil)))))) (zM Z (yS Z (eZ Z Z Z) (yS Z (eZ Z Z Z) (yS Z (ze Z js Z Z) (yS Z (zs Z Z Z Z aR Z Z Z Z) (zM Z (zN (zT (zQ (zQ (zR (zM Z (yS Z (ab.not Z Z) (zN (zT ?_))))))))))))))))))))));refine zX Z (fun g1 => ?_) (fun g1 => ?_)
  ·
   refine zi g1 hr fun hr => zq (ao (kL (by decide) (ao (zy (zT ?_)))));obtain rfl := zJ hr;have hr := congrArg some (hb_x1 _ rfl);obtain rfl := zJ hr;exact zW 2 ⟨Z, trivial⟩ Z Z Z Z
  ·
   refine zo g1 hr fun hr => zk (zT (zR (yS Z (zD Z Z Z aR Z Z) (yS Z (zs Z Z Z Z aR Z Z Z Z) (zN (ai (zT ?_)))))));obtain rfl := zJ hr;exact ⟨_, rfl, zW 2 ⟨rfl, rfl, rfl, rfl, trivial⟩ Z Z Z rfl⟩
 ·have hr := ho_v1;clear hb_v1;refine zQ (zR (yS Z (zD Z Z Z aR Z Z) (yS Z (zs Z Z Z Z aR Z Z Z Z) (zN (zT (zr (q7 ?_)))))));obtain rfl := zJ hr;exact zf (.one (.cellAgg Z Z (by kernel_rfl) Z)) zv
open Go.Proofs
theorem u9 {α : Type} {f : α → PV} {l : List α} (hb : room 0 l.length 40 = true) : LC Tryz.prog 128 [.p (.slice 5 (l.map f))] [] (Is (.vec 5 0 (l.map f).length 0 (l.map f).length) [.vec 5 (l.map f)]) := by
 refine dk Tryz.func128 Z Z Z ?_;refine zQ (zR (yS Z (za Z Z) (zN (zT (zQ (zQ (zR (yS Z (zm Z Z) (an.cons Z Z Z (ab.eqNil Z Z Z en) ?_)))))))));rintro _ _ ⟨rfl, b, rfl, hn⟩;refine zN (zT ?_);refine zX Z (fun g => ?_) (fun g => ?_)
 ·have hl : l = [] := List.map_eq_nil_iff.1 (hn g);subst hl;exact zQ (zR (yS Z (za Z Z) (zN (zT (LW.ent (bL.lazy (t := 2) (m := 5) Z Z Z) (zr (am (ap (.one (.tmp Z)) ⟨rfl, rfl⟩))))))))
 ·refine LW.skip ?_;exact zT (zQ (zR (yS Z (ab.buildSlice0 Z en) (yS Z (zm Z Z) (yS Z (ab.appendZX f l Z Z Z Z km.p Z en hb Z) (yS Z (za Z Z) (zN (zT (zr (ap (.one (.tmp Z)) ⟨rfl, rfl⟩))))))))))
theorem va {α : Type} {f : α → PV} {l : List α} (hb : room 0 l.length 32 = true) : LC Tryz.prog 129 [.p (.slice 4 (l.map f))] [] (Is (.vec 4 0 (l.map f).length 0 (l.map f).length) [.vec 4 (l.map f)]) := by
 refine dk Tryz.func129 Z Z Z ?_;refine zQ (zR (yS Z (za Z Z) (zN (zT (zQ (zQ (zR (yS Z (zm Z Z) (an.cons Z Z Z (ab.eqNil Z Z Z dM) ?_)))))))));rintro _ _ ⟨rfl, b, rfl, hn⟩;refine zN (zT ?_);refine zX Z (fun g => ?_) (fun g => ?_)
 ·have hl : l = [] := List.map_eq_nil_iff.1 (hn g);subst hl;exact zQ (zR (yS Z (za Z Z) (zN (zT (LW.ent (bL.lazy (t := 2) (m := 4) Z Z Z) (zr (am (ap (.one (.tmp Z)) ⟨rfl, rfl⟩))))))))
 ·refine LW.skip ?_;exact zT (zQ (zR (yS Z (ab.buildSlice0 Z dM) (yS Z (zm Z Z) (yS Z (ab.appendZX f l Z Z Z Z km.p Z dM hb Z) (yS Z (za Z Z) (zN (zT (zr (ap (.one (.tmp Z)) ⟨rfl, rfl⟩))))))))))
def Ip (c : Cf) (b : Bk) : Option Bool :=
 (EN c b.Slot).bind fun v1 =>
 bif decide (v1 ≥ 0) then
  bif v1 == b.From then
   some (!((((nm b).1) == 0) && ((((nm b).2) == 0) && true)))
  else
   some false
 else
  some false
theorem Mb {c : Cf} {b : Bk} {r_ : Bool} (hr : Ip c b = some r_) : aw Tryz.prog 133 [jC c, ay b] [.bool r_] := by
 refine zh Tryz.func133 Z Z Z Z ?_;unfold Ip at hr;refine zQ (zR (yS Z (bZ Z Z Z Z Z) (yS Z (bZ Z Z Z Z Z) (zM Z (zN (zT (zQ (zR (yS Z (zD Z Z Z bv Z Z) (yS Z (zA Z Z kJ) (yS Z (zD Z Z Z bA Z Z) (zb hr fun v1 h_v1 hr => yS Z (zC Z Z Z (by kernel_rfl) (zp (KT h_v1) (.cons zv (.cons zv .nil)))) (zM Z (zN (zT (zQ (zR (zM Z (yS Z (ax Z Z Z Z) (zM Z ?_))))))))))))))))))));refine zc 12 Z (fun g1 => ?_) (fun g1 => ?_)
 ·
  refine zi g1 hr fun hr => yV Z (gd g1 Z) (zm Z Z) (yV Z (gd g1 Z) (zA Z Z xc) (yV Z (gd g1 Z) (zD Z Z Z bA Z Z) (yV Z (gd g1 Z) (ax Z Z Z Z) (yS Z (eo Z (bI g1 Z) Z) (zM Z ?_)))));refine zc 18 Z (fun g2 => ?_) (fun g2 => ?_)
  ·
   refine zi g2 hr fun hr => yV Z (gd g2 Z) (zD Z Z Z cO Z Z) (yV Z (gd g2 Z) (zC Z Z Z (by kernel_rfl) (zp (G9 (b := b)) (.cons zv .nil))) (yV Z (gd g2 Z) (ab.build Z wZ Z Z Z) (yV Z (gd g2 Z) (ab.neqAgg Z Z Z Z Z vk) (yS Z (eo Z (bI g2 Z) Z) (zM Z (zN (zT (zr ?_))))))));obtain rfl := zJ hr;exact zf (.one (.tmp Z)) zv
  ·
   refine zo g2 hr fun hr => yU Z (gd g2 Z) Z (yU Z (gd g2 Z) Z (yU Z (gd g2 Z) Z (yU Z (gd g2 Z) Z (yS Z (dc Z (bI g2 Z) Z) (zM Z (zN (zT (zr ?_))))))));obtain rfl := zJ hr;exact zf (.one (.tmp Z)) zv
 ·
  refine zo g1 hr fun hr => yU Z (gd g1 Z) Z (yU Z (gd g1 Z) Z (yU Z (gd g1 Z) Z (yU Z (gd g1 Z) Z (yS Z (dc Z (bI g1 Z) Z) (zM Z (yU Z Z Z (yU Z Z Z (yU Z Z Z (yU Z Z Z (yS Z (dc Z Z Z) (zM Z (zN (zT (zr ?_))))))))))))));obtain rfl := zJ hr;exact zf (.one (.tmp Z)) zv
def Iq (c : Cf) (v : Vt) : Option Bool :=
 (HW c v.Slot v.From).bind fun v1 =>
 some v1
theorem Mc {c : Cf} {v : Vt} {r_ : Bool} (hr : Iq c v = some r_) : aw Tryz.prog 135 [jC c, aI v] [.bool r_] := by
 refine zh Tryz.func135 Z Z Z Z ?_;unfold Iq at hr;refine zQ (zR (yS Z (bZ Z Z Z Z Z) (yS Z (bZ Z Z Z Z Z) (zM Z (zN (zT (zQ (zR (yS Z (zD Z Z Z bv Z Z) (yS Z (zA Z Z qQ) (yS Z (zD Z Z Z bA Z Z) (yS Z (zA Z Z qP) (yS Z (zD Z Z Z bA Z Z) (zb hr fun v1 h_v1 hr => yS Z (zC Z Z Z (by kernel_rfl) (zp (LU h_v1) (.cons zv (.cons zv (.cons zv .nil))))) (zM Z (zN (zT (zr ?_))))))))))))))))));obtain rfl := zJ hr;exact zf (.one (.tmp Z)) zv
structure ft where
 t8 : Int
def ln (s : List Bk) (v : Bk) (x1 : ft) : Option (ft ⊕ (ft ⊕ Int)) :=
 bif decide (x1.t8 < (s.length : Int)) then
  (ix s x1.t8).bind fun y1 =>
  bif ((v.Slot == y1.Slot) && ((v.From == y1.From) && ((v.Parent.1 == y1.Parent.1) && ((v.Parent.2 == y1.Parent.2) && ((v.Salt == y1.Salt) && true))))) then
   some (.inr (.inr x1.t8))
  else
   some (.inl (ft.mk (IntKind.i64.wrap (x1.t8 + 1))))
 else
  some (.inr (.inl (ft.mk x1.t8)))
def EL (s : List Bk) (v : Bk) : Option Int :=
 (iter (ln s v) bD (ft.mk 0)).bind fun b_v1 => Sum.elim (fun _ =>
  some (-1)) some b_v1
theorem Lo {s : List Bk} {v : Bk} {r_ : Int} (hr : EL s v = some r_) : aw Tryz.prog 130 [.slice 5 (s.map ay), ay v] [.int .i64 r_] := by
 refine zh Tryz.func130 Z Z Z Z ?_;unfold EL at hr;refine zQ (zR (yS Z (bZ Z Z Z Z Z) (zM Z (zN (zT (zQ (zQ (zR (zM Z (yS Z (dY Z Z (by kernel_rfl)) (zM Z (zN (zT ?_)))))))))))));obtain ⟨b_v1, hb_v1, ho_v1⟩ := zB hr;clear hr;refine LW.tailB (b := b_v1) (E := fun v1 => [(4, (iQ 0))]) (O := fun v1 => [.box [(iQ v.Slot), (iQ v.From), (uQ v.Parent.1), (uQ v.Parent.2), (uQ v.Salt)]]) ?_ (fun v1 e_v1 env_v1 H_v1 hw_v1 => ?_)
 ·refine LW.block ?_;refine LW.iterB (E := fun x1 : ft => [(0, (kB s)), (3, .ptr 0 0), (4, (iQ 0)), (7, .p (.int .i64 (s.length : Int))), (8, (iQ x1.t8))]) (O := fun x1 => [.box [(iQ v.Slot), (iQ v.From), (uQ v.Parent.1), (uQ v.Parent.2), (uQ v.Salt)]]) hb_v1 (zW 1 ⟨rfl, rfl, rfl, rfl, rfl, trivial⟩ Z Z Z Z) (fun x1 z_x1 hr hb_x1 => ?_);unfold ln at hr;refine zQ (zR (yS Z (ax Z Z Z Z) (zN (zT (zQ ?_)))));refine zX Z (fun g1 => ?_) (fun g1 => ?_)
  ·
   refine zi g1 hr fun hr => zk (zT (zQ (zl (zQ (zR (zM Z (zM Z (zN (zT (zQ (LW.draw2 (by kernel_rfl) (by kernel_rfl) (yE Z (zD Z Z Z cO Z Z) (zH Z (zH Z (zb hr fun y1 h_y1 hr => yE Z (zx Z Z Z en h_y1 Z) (yE Z (eA Z Z Z cO Z Z) (yE Z (ab.eqlAgg Z Z Z Z Z JH) (LO.nil (zT ?_)))))))))))))))))));refine zX Z (fun g2 => ?_) (fun g2 => ?_)
   ·
    refine zi g2 hr fun hr => zQ (zR (zM Z (zM Z (zN (zT (zr (aD (am (am (aD (am (am ?_))))))))))));obtain rfl := zJ hr;have hr := congrArg some (hb_x1 _ rfl);obtain rfl := zJ hr;have hr := ff ho_v1;obtain rfl := zJ hr;exact zf (.one (.tmp Z)) zv
   ·
    refine zo g2 hr fun hr => zk (ai (zT (zR (yS Z (ax Z Z Z Z) (zM Z (zN (zT ?_)))))));obtain rfl := zJ hr;exact ⟨_, rfl, zW 1 ⟨rfl, rfl, rfl, rfl, rfl, trivial⟩ Z Z Z rfl⟩
  ·
   refine zo g1 hr fun hr => zq (ao (ao (zy (zT ?_))));obtain rfl := zJ hr;have hr := congrArg some (hb_x1 _ rfl);obtain rfl := zJ hr;exact ⟨_, rfl, zW 1 ⟨rfl, trivial⟩ Z Z Z rfl⟩
 ·obtain rfl := e_v1;have hr := hZ ho_v1;clear hb_v1;refine zT (LW.weak hw_v1 (zQ (zR (zM Z (zN (zT (zr ?_)))))));obtain rfl := zJ hr;exact zf (.one (.tmp Z)) zv
structure fu where
 t8 : Int
def lp (s : List Vt) (v : Vt) (x1 : fu) : Option (fu ⊕ (fu ⊕ Int)) :=
 bif decide (x1.t8 < (s.length : Int)) then
  (ix s x1.t8).bind fun y1 =>
  bif ((v.From == y1.From) && ((v.Slot == y1.Slot) && ((v.Head.1 == y1.Head.1) && ((v.Head.2 == y1.Head.2) && true)))) then
   some (.inr (.inr x1.t8))
  else
   some (.inl (fu.mk (IntKind.i64.wrap (x1.t8 + 1))))
 else
  some (.inr (.inl (fu.mk x1.t8)))
def EM (s : List Vt) (v : Vt) : Option Int :=
 (iter (lp s v) bD (fu.mk 0)).bind fun b_v1 => Sum.elim (fun _ =>
  some (-1)) some b_v1
theorem Lp {s : List Vt} {v : Vt} {r_ : Int} (hr : EM s v = some r_) : aw Tryz.prog 131 [.slice 4 (s.map aI), aI v] [.int .i64 r_] := by
 refine zh Tryz.func131 Z Z Z Z ?_;unfold EM at hr;refine zQ (zR (yS Z (bZ Z Z Z Z Z) (zM Z (zN (zT (zQ (zQ (zR (zM Z (yS Z (dY Z Z (by kernel_rfl)) (zM Z (zN (zT ?_)))))))))))));obtain ⟨b_v1, hb_v1, ho_v1⟩ := zB hr;clear hr;refine LW.tailB (b := b_v1) (E := fun v1 => [(4, (iQ 0))]) (O := fun v1 => [.box [(iQ v.From), (iQ v.Slot), (uQ v.Head.1), (uQ v.Head.2)]]) ?_ (fun v1 e_v1 env_v1 H_v1 hw_v1 => ?_)
 ·refine LW.block ?_;refine LW.iterB (E := fun x1 : fu => [(0, (kV s)), (3, .ptr 0 0), (4, (iQ 0)), (7, .p (.int .i64 (s.length : Int))), (8, (iQ x1.t8))]) (O := fun x1 => [.box [(iQ v.From), (iQ v.Slot), (uQ v.Head.1), (uQ v.Head.2)]]) hb_v1 (zW 1 ⟨rfl, rfl, rfl, rfl, rfl, trivial⟩ Z Z Z Z) (fun x1 z_x1 hr hb_x1 => ?_);unfold lp at hr;refine zQ (zR (yS Z (ax Z Z Z Z) (zN (zT (zQ ?_)))));refine zX Z (fun g1 => ?_) (fun g1 => ?_)
  ·
   refine zi g1 hr fun hr => zk (zT (zQ (zl (zQ (zR (zM Z (zM Z (zN (zT (zQ (LW.draw2 (by kernel_rfl) (by kernel_rfl) (yE Z (zD Z Z Z cT Z Z) (zH Z (zH Z (zb hr fun y1 h_y1 hr => yE Z (zx Z Z Z dM h_y1 Z) (yE Z (eA Z Z Z cT Z Z) (yE Z (ab.eqlAgg Z Z Z Z Z JI) (LO.nil (zT ?_)))))))))))))))))));refine zX Z (fun g2 => ?_) (fun g2 => ?_)
   ·
    refine zi g2 hr fun hr => zQ (zR (zM Z (zM Z (zN (zT (zr (aD (am (am (aD (am (am ?_))))))))))));obtain rfl := zJ hr;have hr := congrArg some (hb_x1 _ rfl);obtain rfl := zJ hr;have hr := ff ho_v1;obtain rfl := zJ hr;exact zf (.one (.tmp Z)) zv
   ·
    refine zo g2 hr fun hr => zk (ai (zT (zR (yS Z (ax Z Z Z Z) (zM Z (zN (zT ?_)))))));obtain rfl := zJ hr;exact ⟨_, rfl, zW 1 ⟨rfl, rfl, rfl, rfl, rfl, trivial⟩ Z Z Z rfl⟩
  ·
   refine zo g1 hr fun hr => zq (ao (ao (zy (zT ?_))));obtain rfl := zJ hr;have hr := congrArg some (hb_x1 _ rfl);obtain rfl := zJ hr;exact ⟨_, rfl, zW 1 ⟨rfl, trivial⟩ Z Z Z rfl⟩
 ·obtain rfl := e_v1;have hr := hZ ho_v1;clear hb_v1;refine zT (LW.weak hw_v1 (zQ (zR (zM Z (zN (zT (zr ?_)))))));obtain rfl := zJ hr;exact zf (.one (.tmp Z)) zv
def Aa (s : List Bk) (v : Bk) : Option Bool :=
 (EL s v).bind fun v1 =>
 some (decide (v1 ≥ 0))
theorem IU {s : List Bk} {v : Bk} {r_ : Bool} (hr : Aa s v = some r_) : aw Tryz.prog 90 [.slice 5 (s.map ay), ay v] [.bool r_] := by
 refine zh Tryz.func90 Z Z Z Z ?_;unfold Aa at hr;refine zQ (zR (yS Z (bZ Z Z Z Z Z) (zM Z (zN (zT (zQ (zR (zM Z (yS Z (zD Z Z Z cO Z Z) (zb hr fun v1 h_v1 hr => yS Z (zC Z Z Z (by kernel_rfl) (zp (Lo h_v1) (.cons zv (.cons zv .nil)))) (yS Z (ax Z Z Z Z) (zM Z (zN (zT (zr ?_)))))))))))))));obtain rfl := zJ hr;exact zf (.one (.tmp Z)) zv
def Ab (s : List Vt) (v : Vt) : Option Bool :=
 (EM s v).bind fun v1 =>
 some (decide (v1 ≥ 0))
theorem IV {s : List Vt} {v : Vt} {r_ : Bool} (hr : Ab s v = some r_) : aw Tryz.prog 93 [.slice 4 (s.map aI), aI v] [.bool r_] := by
 refine zh Tryz.func93 Z Z Z Z ?_;unfold Ab at hr;refine zQ (zR (yS Z (bZ Z Z Z Z Z) (zM Z (zN (zT (zQ (zR (zM Z (yS Z (zD Z Z Z cT Z Z) (zb hr fun v1 h_v1 hr => yS Z (zC Z Z Z (by kernel_rfl) (zp (Lp h_v1) (.cons zv (.cons zv .nil)))) (yS Z (ax Z Z Z Z) (zM Z (zN (zT (zr ?_)))))))))))))));obtain rfl := zJ hr;exact zf (.one (.tmp Z)) zv
structure eu where
 t12 : Int
 out : List Bk
def li (b : List Bk) (x1 : eu) : Option (eu ⊕ eu) :=
 bif decide (x1.t12 < (b.length : Int)) then
  (ix b x1.t12).bind fun y1 =>
  (Aa x1.out y1).bind fun v2 =>
  bif !v2 then
   bif room x1.out.length [y1].length 40 then
    some (.inl (eu.mk (IntKind.i64.wrap (x1.t12 + 1)) (x1.out ++ [y1])))
   else none
  else
   some (.inl (eu.mk (IntKind.i64.wrap (x1.t12 + 1)) x1.out))
 else
  some (.inr (eu.mk x1.t12 x1.out))
def BP (a : List Bk) (b : List Bk) : Option (List Bk) :=
 bif room 0 a.length 40 then
  (iter (li b) bD (eu.mk 0 a)).bind fun v1 =>
  some v1.out
 else none
theorem Lf {a : List Bk} {b : List Bk} {r_ : (List Bk)} (hr : BP a b = some r_) : aw Tryz.prog 123 [.slice 5 (a.map ay), .slice 5 (b.map ay)] [.slice 5 (r_.map ay)] := by
 refine zh Tryz.func123 Z Z Z Z ?_;unfold BP at hr;refine zQ (zR (zM Z (zN (zT (zQ (zR (zM Z (zg hr fun q1 hr => yS Z (ab.callV (qs := [(kB a)]) Z Z Z (by kernel_rfl) (u9 q1) (.consC zv .nil) Z Z) (zM Z (zN (zT (zQ (zQ (zR (zM Z (yS Z (dY Z Z (by kernel_rfl)) (zM Z (zN (zT ?_)))))))))))))))))));obtain ⟨v1, hb_v1, ho_v1⟩ := zB hr;clear hr;refine LW.tail (E := [(4, .zs), (5, (jB 0 v1.out))]) (O := [.vec 5 (v1.out.map ay)]) ?_ (fun env_v1 H_v1 hw_v1 => ?_)
 ·refine LW.block ?_;refine LW.iterB (E := fun x1 : eu => [(4, .zs), (5, (jB 0 x1.out)), (10, (kB b)), (11, .p (.int .i64 (b.length : Int))), (12, (iQ x1.t12))]) (O := fun x1 => [.vec 5 (x1.out.map ay)]) hb_v1 (zW 1 ⟨rfl, rfl, rfl, rfl, rfl, trivial⟩ Z Z Z Z) (fun x1 z_x1 hr hb_x1 => ?_);unfold li at hr;refine zQ (zR (yS Z (ax Z Z Z Z) (zN (zT (zQ ?_)))));refine zX Z (fun g1 => ?_) (fun g1 => ?_)
  ·
   refine zi g1 hr fun hr => zk (zT (zQ (zl (zQ (zR (zb hr fun y1 h_y1 hr => yS Z (zx Z Z Z en h_y1 Z) (yS Z (eA Z Z Z cO Z Z) (yS Z (ze Z uj Z Z) (yS Z (zs Z Z Z Z cO Z Z Z Z) (zN (zT (zQ (zR (zM Z (yS Z (zD Z Z Z cO Z Z) (zb hr fun v2 h_v2 hr => yS Z (zC Z Z Z (by kernel_rfl) (LC.lend (IU h_v2) (.cons (Conv.vecAll Z Z Z) (.cons zv .nil)) Z)) (yS Z (ab.not Z Z) (zN (zT ?_)))))))))))))))))));refine zX Z (fun g2 => ?_) (fun g2 => ?_)
   ·
    refine zi g2 hr fun hr => zR (zM Z (yS Z (zD Z Z Z cO Z Z) (yS Z (mL Z en Z Z Z Z Z) (zg hr fun q2 hr => yS Z (ab.appendX ay x1.out [y1] rfl Z Z Z km.p Z en q2 Z) (zM Z (zN (ai (zT (zR (yS Z (ax Z Z Z Z) (zM Z (zN (zT ?_)))))))))))));obtain rfl := zJ hr;exact ⟨_, rfl, zW 1 ⟨rfl, rfl, rfl, rfl, rfl, trivial⟩ Z Z Z rfl⟩
   ·
    refine zo g2 hr fun hr => zk (ai (zT (zR (yS Z (ax Z Z Z Z) (zM Z (zN (zT ?_)))))));obtain rfl := zJ hr;exact ⟨_, rfl, zW 1 ⟨rfl, rfl, rfl, rfl, rfl, trivial⟩ Z Z Z rfl⟩
  ·
   refine zo g1 hr fun hr => zq (ao (ao (zy (zT ?_))));obtain rfl := zJ hr;have hr := congrArg some (hb_x1 _ rfl);obtain rfl := zJ hr;exact zW 1 ⟨Z, Z, trivial⟩ Z Z Z Z
 ·have hr := ho_v1;clear hb_v1;refine zT (LW.weak hw_v1 (zQ (zR (zM Z (zM Z (zN (zT (zr ?_))))))));obtain rfl := zJ hr;exact zf (.one (.tmp Z)) ((Conv.vecAll Z Z Z))
structure ew where
 t12 : Int
 out : List Vt
def lj (b : List Vt) (x1 : ew) : Option (ew ⊕ ew) :=
 bif decide (x1.t12 < (b.length : Int)) then
  (ix b x1.t12).bind fun y1 =>
  (Ab x1.out y1).bind fun v2 =>
  bif !v2 then
   bif room x1.out.length [y1].length 32 then
    some (.inl (ew.mk (IntKind.i64.wrap (x1.t12 + 1)) (x1.out ++ [y1])))
   else none
  else
   some (.inl (ew.mk (IntKind.i64.wrap (x1.t12 + 1)) x1.out))
 else
  some (.inr (ew.mk x1.t12 x1.out))
def BQ (a : List Vt) (b : List Vt) : Option (List Vt) :=
 bif room 0 a.length 32 then
  (iter (lj b) bD (ew.mk 0 a)).bind fun v1 =>
  some v1.out
 else none
theorem Lg {a : List Vt} {b : List Vt} {r_ : (List Vt)} (hr : BQ a b = some r_) : aw Tryz.prog 124 [.slice 4 (a.map aI), .slice 4 (b.map aI)] [.slice 4 (r_.map aI)] := by
 refine zh Tryz.func124 Z Z Z Z ?_;unfold BQ at hr;refine zQ (zR (zM Z (zN (zT (zQ (zR (zM Z (zg hr fun q1 hr => yS Z (ab.callV (qs := [(kV a)]) Z Z Z (by kernel_rfl) (va q1) (.consC zv .nil) Z Z) (zM Z (zN (zT (zQ (zQ (zR (zM Z (yS Z (dY Z Z (by kernel_rfl)) (zM Z (zN (zT ?_)))))))))))))))))));obtain ⟨v1, hb_v1, ho_v1⟩ := zB hr;clear hr;refine LW.tail (E := [(4, .zs), (5, (jV 0 v1.out))]) (O := [.vec 4 (v1.out.map aI)]) ?_ (fun env_v1 H_v1 hw_v1 => ?_)
 ·refine LW.block ?_;refine LW.iterB (E := fun x1 : ew => [(4, .zs), (5, (jV 0 x1.out)), (10, (kV b)), (11, .p (.int .i64 (b.length : Int))), (12, (iQ x1.t12))]) (O := fun x1 => [.vec 4 (x1.out.map aI)]) hb_v1 (zW 1 ⟨rfl, rfl, rfl, rfl, rfl, trivial⟩ Z Z Z Z) (fun x1 z_x1 hr hb_x1 => ?_);unfold lj at hr;refine zQ (zR (yS Z (ax Z Z Z Z) (zN (zT (zQ ?_)))));refine zX Z (fun g1 => ?_) (fun g1 => ?_)
  ·
   refine zi g1 hr fun hr => zk (zT (zQ (zl (zQ (zR (zb hr fun y1 h_y1 hr => yS Z (zx Z Z Z dM h_y1 Z) (yS Z (eA Z Z Z cT Z Z) (yS Z (ze Z uk Z Z) (yS Z (zs Z Z Z Z cT Z Z Z Z) (zN (zT (zQ (zR (zM Z (yS Z (zD Z Z Z cT Z Z) (zb hr fun v2 h_v2 hr => yS Z (zC Z Z Z (by kernel_rfl) (LC.lend (IV h_v2) (.cons (Conv.vecAll Z Z Z) (.cons zv .nil)) Z)) (yS Z (ab.not Z Z) (zN (zT ?_)))))))))))))))))));refine zX Z (fun g2 => ?_) (fun g2 => ?_)
   ·
    refine zi g2 hr fun hr => zR (zM Z (yS Z (zD Z Z Z cT Z Z) (yS Z (mL Z dM Z Z Z Z Z) (zg hr fun q2 hr => yS Z (ab.appendX aI x1.out [y1] rfl Z Z Z km.p Z dM q2 Z) (zM Z (zN (ai (zT (zR (yS Z (ax Z Z Z Z) (zM Z (zN (zT ?_)))))))))))));obtain rfl := zJ hr;exact ⟨_, rfl, zW 1 ⟨rfl, rfl, rfl, rfl, rfl, trivial⟩ Z Z Z rfl⟩
   ·
    refine zo g2 hr fun hr => zk (ai (zT (zR (yS Z (ax Z Z Z Z) (zM Z (zN (zT ?_)))))));obtain rfl := zJ hr;exact ⟨_, rfl, zW 1 ⟨rfl, rfl, rfl, rfl, rfl, trivial⟩ Z Z Z rfl⟩
  ·
   refine zo g1 hr fun hr => zq (ao (ao (zy (zT ?_))));obtain rfl := zJ hr;have hr := congrArg some (hb_x1 _ rfl);obtain rfl := zJ hr;exact zW 1 ⟨Z, Z, trivial⟩ Z Z Z Z
 ·have hr := ho_v1;clear hb_v1;refine zT (LW.weak hw_v1 (zQ (zR (zM Z (zM Z (zN (zT (zr ?_))))))));obtain rfl := zJ hr;exact zf (.one (.tmp Z)) ((Conv.vecAll Z Z Z))
def yi (a : Vw) (b : Vw) : Option Vw :=
 (BP a.B b.B).bind fun v1 =>
 (BQ a.V b.V).bind fun v2 =>
 some (Vw.mk v1 v2)
theorem En {a : Vw} {b : Vw} {r_ : Vw} (hr : yi a b = some r_) : aw Tryz.prog 68 [mO a, mO b] [mO r_] := by
 refine zh Tryz.func68 Z Z Z Z ?_;unfold yi at hr;refine zQ (zR (yS Z (bZ Z Z Z Z Z) (yS Z (bZ Z Z Z Z Z) (yS Z (ze Z ii Z Z) (zN (zT (zQ (LW.drawLast (m := 11) (by kernel_rfl) (by kernel_rfl) (by kernel_rfl) (yE Z (zA Z Z bz) (yE Z (zD Z Z Z dC Z Z) (yE Z (zA Z Z bz) (yE Z (zD Z Z Z dC Z Z) (zb hr fun v1 h_v1 hr => yE Z (zC Z Z Z (by kernel_rfl) (zp (Lf h_v1) (.cons zv (.cons zv .nil)))) (yE Z (zA Z Z b7) (yE Z (zD Z Z Z eS Z Z) (yE Z (zA Z Z b7) (yE Z (zD Z Z Z eS Z Z) (zb hr fun v2 h_v2 hr => yE Z (zC Z Z Z (by kernel_rfl) (zp (Lg h_v2) (.cons zv (.cons zv .nil)))) (yE Z (ab.build Z oa Z Z Z) (LO.nil (yS Z (zs Z Z Z Z aS Z Z Z Z) ?_)))))))))))))))))))));refine zN (zT (zr ?_));obtain rfl := zJ hr;exact zf (.one (.cellAgg Z Z (by kernel_rfl) Z)) zv
structure KN where
 n : Int
 i : Int
structure KJ where
 i : Int
structure KI where
 i : Int
structure KK where
 i : Int
 o3 : List Bk
structure KL where
 there : Bool
 k : Int
structure KM where
 i : Int
 o4 : List Vt
def GI : Option Cf :=
 some (Cf.mk [1] 0 1 1 4)
theorem Le {r_ : Cf} (hr : GI = some r_) : aw Tryz.prog 45 [] [jC r_] := by
 refine zh Tryz.func45 Z Z Z Z ?_;unfold GI at hr;refine zQ (zR (yS Z (ze Z LQ Z Z) (zN (zT (zQ (zR (yS Z (mL Z fY Z Z Z Z Z) (yS Z (ab.build Z K6 Z Z Z) (yS Z (zs Z Z Z Z bv Z Z Z Z) (zN (zT (zr ?_))))))))))));obtain rfl := zJ hr;exact zf (.one (.cellAgg Z Z (by kernel_rfl) Z)) zv
open Go.Proofs
structure ep where
 t12 : Int
 out : List Bk
def lb (c : Cf) (l : List Bk) (x1 : ep) : Option (ep ⊕ ep) :=
 bif decide (x1.t12 < (l.length : Int)) then
  (ix l x1.t12).bind fun y1 =>
  (Ip c y1).bind fun v2 =>
  bif v2 then
   bif room x1.out.length [y1].length 40 then
    some (.inl (ep.mk (IntKind.i64.wrap (x1.t12 + 1)) (x1.out ++ [y1])))
   else none
  else
   some (.inl (ep.mk (IntKind.i64.wrap (x1.t12 + 1)) x1.out))
 else
  some (.inr (ep.mk x1.t12 x1.out))
def zY (c : Cf) (l : List Bk) : Option (List Bk) :=
 (iter (lb c l) bD (ep.mk 0 ([] : List Bk))).bind fun v1 =>
 some v1.out
theorem Gb {c : Cf} {l : List Bk} {r_ : List Bk} (hr : zY c l = some r_) : LC Tryz.prog 132 [.p (jC c), (kB l), .fn 133 [] []] [] (Is (jB 0 r_) [.vec 5 (r_.map ay)]) := by
 refine dk Tryz.func132 Z Z Z ?_;unfold zY at hr;refine zQ (zR (yS Z (bZ Z Z Z Z Z) (zM Z (zN (zT (zQ (zR (zM Z (zN (zT (zQ (zQ (zR (zM Z (yS Z (dY Z Z (by kernel_rfl)) (zM Z (zN (zT (LW.ent (bL.lazy (t := 7) (m := 5) Z Z Z) ?_)))))))))))))))))));obtain ⟨v1, hb_v1, ho_v1⟩ := zB hr;clear hr;refine LW.tail (E := [(6, .zs), (7, (jB 1 v1.out))]) (O := [.box (bE c), .vec 5 (v1.out.map ay)]) ?_ (fun env_v1 H_v1 hw_v1 => ?_)
 ·refine LW.block ?_;refine LW.iterB (E := fun x1 : ep => [(2, .fn 133 [] []), (3, .ptr 0 0), (6, .zs), (7, (jB 1 x1.out)), (10, (kB l)), (11, .p (.int .i64 (l.length : Int))), (12, (iQ x1.t12))]) (O := fun x1 => [.box (bE c), .vec 5 (x1.out.map ay)]) hb_v1 (zW 2 ⟨rfl, rfl, rfl, rfl, rfl, rfl, rfl, trivial⟩ Z Z Z Z) (fun x1 z_x1 hr hb_x1 => ?_);unfold lb at hr;refine zQ (zR (yS Z (ax Z Z Z Z) (zN (zT (zQ ?_)))));refine zX Z (fun g1 => ?_) (fun g1 => ?_)
  ·
   refine zi g1 hr fun hr => zk (zT (zQ (zl (zQ (zR (zb hr fun y1 h_y1 hr => yS Z (zx Z Z Z en h_y1 Z) (yS Z (eA Z Z Z cO Z Z) (yS Z (ze Z uj Z Z) (yS Z (zs Z Z Z Z cO Z Z Z Z) (zN (zT (zQ (zR (zM Z (yS Z (zD Z Z Z bv Z Z) (yS Z (zD Z Z Z cO Z Z) (zb hr fun v2 h_v2 hr => yS Z (zC Z Z Z (by kernel_rfl) (zp (Mb h_v2) (.cons zv (.cons zv .nil)))) (zN (zT ?_)))))))))))))))))));refine zX Z (fun g2 => ?_) (fun g2 => ?_)
   ·
    refine zi g2 hr fun hr => zR (zM Z (yS Z (zD Z Z Z cO Z Z) (yS Z (mL Z en Z Z Z Z Z) (zg hr fun q1 hr => yS Z (ab.appendX ay x1.out [y1] rfl Z Z Z km.p Z en q1 Z) (zM Z (zN (ai (zT (zR (yS Z (ax Z Z Z Z) (zM Z (zN (zT ?_)))))))))))));obtain rfl := zJ hr;exact ⟨_, rfl, zW 2 ⟨rfl, rfl, rfl, rfl, rfl, rfl, rfl, trivial⟩ Z Z Z rfl⟩
   ·
    refine zo g2 hr fun hr => zk (ai (zT (zR (yS Z (ax Z Z Z Z) (zM Z (zN (zT ?_)))))));obtain rfl := zJ hr;exact ⟨_, rfl, zW 2 ⟨rfl, rfl, rfl, rfl, rfl, rfl, rfl, trivial⟩ Z Z Z rfl⟩
  ·
   refine zo g1 hr fun hr => zq (ao (ao (zy (zT ?_))));obtain rfl := zJ hr;have hr := congrArg some (hb_x1 _ rfl);obtain rfl := zJ hr;exact zW 2 ⟨Z, Z, trivial⟩ Z Z Z Z
 ·have hr := ho_v1;clear hb_v1;refine zT (LW.weak hw_v1 (zQ (LW.ent (bL.last (t := 7) (j := 0) (Hj := []) Z Z Z Z Z Z Z) (zR (zM Z (zM Z (zN (zT (zr ?_)))))))));obtain rfl := zJ hr;exact ap (.one (.tmp Z)) (⟨rfl, rfl⟩)
structure er where
 t12 : Int
 out : List Vt
def lc (c : Cf) (l : List Vt) (x1 : er) : Option (er ⊕ er) :=
 bif decide (x1.t12 < (l.length : Int)) then
  (ix l x1.t12).bind fun y1 =>
  (Iq c y1).bind fun v2 =>
  bif v2 then
   bif room x1.out.length [y1].length 32 then
    some (.inl (er.mk (IntKind.i64.wrap (x1.t12 + 1)) (x1.out ++ [y1])))
   else none
  else
   some (.inl (er.mk (IntKind.i64.wrap (x1.t12 + 1)) x1.out))
 else
  some (.inr (er.mk x1.t12 x1.out))
def zZ (c : Cf) (l : List Vt) : Option (List Vt) :=
 (iter (lc c l) bD (er.mk 0 ([] : List Vt))).bind fun v1 =>
 some v1.out
theorem Gc {c : Cf} {l : List Vt} {r_ : List Vt} (hr : zZ c l = some r_) : LC Tryz.prog 134 [.p (jC c), (kV l), .fn 135 [] []] [] (Is (jV 0 r_) [.vec 4 (r_.map aI)]) := by
 refine dk Tryz.func134 Z Z Z ?_;unfold zZ at hr;refine zQ (zR (yS Z (bZ Z Z Z Z Z) (zM Z (zN (zT (zQ (zR (zM Z (zN (zT (zQ (zQ (zR (zM Z (yS Z (dY Z Z (by kernel_rfl)) (zM Z (zN (zT (LW.ent (bL.lazy (t := 7) (m := 4) Z Z Z) ?_)))))))))))))))))));obtain ⟨v1, hb_v1, ho_v1⟩ := zB hr;clear hr;refine LW.tail (E := [(6, .zs), (7, (jV 1 v1.out))]) (O := [.box (bE c), .vec 4 (v1.out.map aI)]) ?_ (fun env_v1 H_v1 hw_v1 => ?_)
 ·refine LW.block ?_;refine LW.iterB (E := fun x1 : er => [(2, .fn 135 [] []), (3, .ptr 0 0), (6, .zs), (7, (jV 1 x1.out)), (10, (kV l)), (11, .p (.int .i64 (l.length : Int))), (12, (iQ x1.t12))]) (O := fun x1 => [.box (bE c), .vec 4 (x1.out.map aI)]) hb_v1 (zW 2 ⟨rfl, rfl, rfl, rfl, rfl, rfl, rfl, trivial⟩ Z Z Z Z) (fun x1 z_x1 hr hb_x1 => ?_);unfold lc at hr;refine zQ (zR (yS Z (ax Z Z Z Z) (zN (zT (zQ ?_)))));refine zX Z (fun g1 => ?_) (fun g1 => ?_)
  ·
   refine zi g1 hr fun hr => zk (zT (zQ (zl (zQ (zR (zb hr fun y1 h_y1 hr => yS Z (zx Z Z Z dM h_y1 Z) (yS Z (eA Z Z Z cT Z Z) (yS Z (ze Z uk Z Z) (yS Z (zs Z Z Z Z cT Z Z Z Z) (zN (zT (zQ (zR (zM Z (yS Z (zD Z Z Z bv Z Z) (yS Z (zD Z Z Z cT Z Z) (zb hr fun v2 h_v2 hr => yS Z (zC Z Z Z (by kernel_rfl) (zp (Mc h_v2) (.cons zv (.cons zv .nil)))) (zN (zT ?_)))))))))))))))))));refine zX Z (fun g2 => ?_) (fun g2 => ?_)
   ·
    refine zi g2 hr fun hr => zR (zM Z (yS Z (zD Z Z Z cT Z Z) (yS Z (mL Z dM Z Z Z Z Z) (zg hr fun q1 hr => yS Z (ab.appendX aI x1.out [y1] rfl Z Z Z km.p Z dM q1 Z) (zM Z (zN (ai (zT (zR (yS Z (ax Z Z Z Z) (zM Z (zN (zT ?_)))))))))))));obtain rfl := zJ hr;exact ⟨_, rfl, zW 2 ⟨rfl, rfl, rfl, rfl, rfl, rfl, rfl, trivial⟩ Z Z Z rfl⟩
   ·
    refine zo g2 hr fun hr => zk (ai (zT (zR (yS Z (ax Z Z Z Z) (zM Z (zN (zT ?_)))))));obtain rfl := zJ hr;exact ⟨_, rfl, zW 2 ⟨rfl, rfl, rfl, rfl, rfl, rfl, rfl, trivial⟩ Z Z Z rfl⟩
  ·
   refine zo g1 hr fun hr => zq (ao (ao (zy (zT ?_))));obtain rfl := zJ hr;have hr := congrArg some (hb_x1 _ rfl);obtain rfl := zJ hr;exact zW 2 ⟨Z, Z, trivial⟩ Z Z Z Z
 ·have hr := ho_v1;clear hb_v1;refine zT (LW.weak hw_v1 (zQ (LW.ent (bL.last (t := 7) (j := 0) (Hj := []) Z Z Z Z Z Z Z) (zR (zM Z (zM Z (zN (zT (zr ?_)))))))));obtain rfl := zJ hr;exact ap (.one (.tmp Z)) (⟨rfl, rfl⟩)
def HX (c : Cf) (v_in : Vw) : Option Vw :=
 (zY c v_in.B).bind fun v1 =>
 (zZ c v_in.V).bind fun v2 =>
 some (Vw.mk v1 v2)
theorem LX {c : Cf} {v_in : Vw} {r_ : Vw} (hr : HX c v_in = some r_) : aw Tryz.prog 97 [jC c, mO v_in] [mO r_] := by
 refine zh Tryz.func97 Z Z Z Z ?_;unfold HX at hr;refine zQ (zR (yS Z (bZ Z Z Z Z Z) (yS Z (bZ Z Z Z Z Z) (yS Z (ze Z ii Z Z) (zN (zT (zQ (LW.ent (bL.slot Z) (LW.ent (bL.slot Z) (LW.drawW (by kernel_rfl) (by kernel_rfl) (yF Z (zd Z Z Z bv Z Z) Z ?_)))))))))));refine yF (F := []) (s := none) Z (fun H _ => zA Z Z bz) Z ?_;refine yF Z (zd Z Z Z dC Z Z) Z (zb hr fun v1 h_v1 hr => ?_);refine yF Z (bH.callV (id := 3) (qs := [.p (jC c), (kB v_in.B), .fn 133 [] []]) Z Z Z (by kernel_rfl) (Gb h_v1) (fun H => (.consC zv (.consC zv (.consF .nil)))) Z) Z ?_;refine yF Z (zd Z Z Z bv Z Z) Z ?_;refine yF (F := []) (s := none) Z (fun H _ => zA Z Z b7) Z ?_;refine yF Z (zd Z Z Z eS Z Z) Z (zb hr fun v2 h_v2 hr => ?_);refine yF Z (bH.callV (id := 4) (qs := [.p (jC c), (kV v_in.V), .fn 135 [] []]) Z Z Z (by kernel_rfl) (Gc h_v2) (fun H => (.consC zv (.consC zv (.consF .nil)))) Z) Z ?_;refine yF (F := []) (s := none) Z (fun H _ => ab.build Z oa Z Z Z) Z ?_;refine yF Z (zt Z Z Z Z aS Z Z Z) Z ?_;refine LF.nil ⟨by kernel_rfl, ?_⟩;refine zT (zr ?_);obtain rfl := zJ hr;exact zf (.one (.cellAgg Z Z (by kernel_rfl) Z)) ((Conv.agg (.cons (Conv.vecAll Z Z Z) (.cons (Conv.vecAll Z Z Z) .nil))))
def Ck (c : Cf) (inp : Vw) : Option (List Bk × List Vt) :=
 (zY c inp.B).bind fun v1 =>
 (zZ c inp.V).bind fun v2 =>
 some (v1, v2)
theorem Jv {c : Cf} {inp : Vw} {r_ : List Bk × List Vt} (hr : Ck c inp = some r_) : LC Tryz.prog 97 [.p (jC c), .p (mO inp)] [] (Is (.agg [(jB 3 r_.1), (jV 4 r_.2)]) [.box (bE c), .box (dm inp), .box [(jB 3 r_.1), (jV 4 r_.2)], .vec 5 (r_.1.map ay), .vec 4 (r_.2.map aI)]) := by
 refine dk Tryz.func97 Z Z Z ?_;unfold Ck at hr;refine zQ (zR (yS Z (bZ Z Z Z Z Z) (yS Z (bZ Z Z Z Z Z) (yS Z (ze Z ii Z Z) (zN (zT (zQ (LW.ent (bL.slot Z) (LW.ent (bL.slot Z) (LW.drawW (by kernel_rfl) (by kernel_rfl) (yF Z (zd Z Z Z bv Z Z) Z ?_)))))))))));refine yF (F := []) (s := none) Z (fun H _ => zA Z Z bz) Z ?_;refine yF Z (zd Z Z Z dC Z Z) Z (zb hr fun v1 h_v1 hr => ?_);refine yF Z (bH.callV (id := 3) (qs := [.p (jC c), (kB inp.B), .fn 133 [] []]) Z Z Z (by kernel_rfl) (Gb h_v1) (fun H => (.consC zv (.consC zv (.consF .nil)))) Z) Z ?_;refine yF Z (zd Z Z Z bv Z Z) Z ?_;refine yF (F := []) (s := none) Z (fun H _ => zA Z Z b7) Z ?_;refine yF Z (zd Z Z Z eS Z Z) Z (zb hr fun v2 h_v2 hr => ?_);refine yF Z (bH.callV (id := 4) (qs := [.p (jC c), (kV inp.V), .fn 135 [] []]) Z Z Z (by kernel_rfl) (Gc h_v2) (fun H => (.consC zv (.consC zv (.consF .nil)))) Z) Z ?_;refine yF (F := []) (s := none) Z (fun H _ => ab.build Z oa Z Z Z) Z ?_;refine yF Z (zt Z Z Z Z aS Z Z Z) Z ?_;refine LF.nil ⟨by kernel_rfl, ?_⟩;refine zT (zr ?_);obtain rfl := zJ hr;exact ap (.one (.cellAgg Z Z (by kernel_rfl) Z)) (⟨rfl, rfl⟩)
structure eU where
 t27 : Int
 o3 : List (ID × Int)
structure eV where
 t43 : Int
 o4 : List (Vt × Bool)
def ld (w : Vw) (x1 : eU) : Option (eU ⊕ eU) :=
 bif decide (x1.t27 < (w.B.length : Int)) then
  (ix w.B x1.t27).bind fun y1 =>
  some (.inl (eU.mk (IntKind.i64.wrap (x1.t27 + 1)) (aO x1.o3 (nm y1) y1.Slot)))
 else
  some (.inr (eU.mk x1.t27 x1.o3))
def lf (w : Vw) (x2 : eV) : Option (eV ⊕ eV) :=
 bif decide (x2.t43 < (w.V.length : Int)) then
  (ix w.V x2.t43).bind fun y2 =>
  some (.inl (eV.mk (IntKind.i64.wrap (x2.t43 + 1)) (aO x2.o4 y2 true)))
 else
  some (.inr (eV.mk x2.t43 x2.o4))
def z6 (w : Vw) (_ : Int) : Option (List (ID × Int) × List (Vt × Bool)) :=
 bif room 0 w.B.length 40 then
  bif room 0 w.V.length 32 then
   (iter (ld w) bD (eU.mk 0 (aO [] (0, 0) 0))).bind fun v1 =>
   (iter (lf w) bD (eV.mk 0 ([] : List (Vt × Bool)))).bind fun v2 =>
   some (v1.o3, v2.o4)
  else none
 else none
theorem Gd {w : Vw} {upto : Int} {r_ : List (ID × Int) × List (Vt × Bool)} (hr : z6 w upto = some r_) : LC Tryz.prog 177 [.p (mO w), (iQ upto)] [] (Is (.ptr 5 0) [.box (dm w), .vec 5 (w.B.map ay), .vec 4 (w.V.map aI), (mQ r_.1), (mR r_.2), .box [(jB 1 w.B), (jV 2 w.V), .map 3, .map 4, (iQ upto), (bQ false)]]) := by
 refine dk Tryz.func177 Z Z Z ?_;unfold z6 at hr;refine zQ (zR (yS Z (bZ Z Z Z Z Z) (zM Z (zN (zT (zQ (LW.ent (bL.slot Z) (LW.ent (bL.slot Z) (LW.ent (bL.slot Z) (LW.ent (bL.slot Z) (LW.ent (bL.slot Z) (LW.drawW (by kernel_rfl) (by kernel_rfl) ?_))))))))))));refine yF (F := []) (s := none) Z (fun H _ => zA Z Z bz) Z ?_;refine yF Z (zd Z Z Z dC Z Z) Z (zg hr fun q1 hr => ?_);refine yF Z (bH.callV (id := 1) (qs := [(kB w.B)]) Z Z Z (by kernel_rfl) (u9 q1) (fun H => (.consC zv .nil)) Z) Z ?_;refine yF (F := []) (s := none) Z (fun H _ => zA Z Z b7) Z ?_;refine yF Z (zd Z Z Z eS Z Z) Z (zg hr fun q2 hr => ?_);refine yF Z (bH.callV (id := 2) (qs := [(kV w.V)]) Z Z Z (by kernel_rfl) (va q2) (fun H => (.consC zv .nil)) Z) Z ?_;refine yF (F := []) (s := none) Z (fun H _ => ab.build Z oa Z Z Z) Z ?_;refine yF Z (bH.makeMap Z (id := 3) Z) Z ?_;refine yF (F := []) (s := none) Z (fun H _ => ab.build Z wZ Z Z Z) Z ?_;refine yF Z (bH.setX (f := bF) (g := (fun v => (iQ v))) (m := ([] : List (ID × Int))) (0, 0) 0 dJ (.inr Z) Z Z Z Z Z kq) Z ?_;refine zK Z (yF Z (bH.makeMap Z (id := 4) Z) Z (zK Z ?_));refine yF (F := []) (s := none) Z (fun H _ => ab.build Z IA Z Z Z) Z ?_;refine yF Z (bH.box Z Z Z (id := 5) Z) Z (zK Z ?_);refine LF.nil ⟨by kernel_rfl, ?_⟩;refine zT (zQ (zQ (zR (yS Z (zA Z Z bz) (yS Z (zD Z Z Z dC Z Z) (yS Z (dY Z Z (by kernel_rfl)) (zM Z (zN (zT ?_)))))))));obtain ⟨v1, hb_v1, ho_v1⟩ := zB hr;clear hr;refine LW.tail (E := [(2, .ptr 0 0), (5, .ptr 5 0)]) (O := [.box (dm w), .vec 5 (w.B.map ay), .vec 4 (w.V.map aI), (mQ v1.o3), .map (ah aI (fun v => (bQ v)) []), .box [(jB 1 w.B), (jV 2 w.V), .map 3, .map 4, (iQ upto), (bQ false)]]) ?_ (fun env_v1 H_v1 hw_v1 => ?_)
 ·refine LW.block ?_;refine LW.iterB (E := fun x1 : eU => [(2, .ptr 0 0), (5, .ptr 5 0), (25, (kB w.B)), (26, .p (.int .i64 (w.B.length : Int))), (27, (iQ x1.t27))]) (O := fun x1 => [.box (dm w), .vec 5 (w.B.map ay), .vec 4 (w.V.map aI), (mQ x1.o3), .map (ah aI (fun v => (bQ v)) []), .box [(jB 1 w.B), (jV 2 w.V), .map 3, .map 4, (iQ upto), (bQ false)]]) hb_v1 (zW 6 ⟨rfl, rfl, rfl, rfl, rfl, trivial⟩ Z Z Z (zL Z (zL Z (zL Z (zL (ae (fun _ => rfl) _) (zL (ae (fun _ => rfl) _) (zL Z Z))))))) (fun x1 z_x1 hr hb_x1 => ?_);unfold ld at hr;refine zQ (zR (yS Z (ax Z Z Z Z) (zN (zT (zQ ?_)))));refine zX Z (fun g1 => ?_) (fun g1 => ?_)
  ·
   refine zi g1 hr fun hr => zk (zT (zQ (zl (zQ (zR (zb hr fun y1 h_y1 hr => yS Z (zx Z Z Z en h_y1 Z) (yS Z (eA Z Z Z cO Z Z) (yS Z (ze Z uj Z Z) (yS Z (zs Z Z Z Z cO Z Z Z Z) (zN (zT (LW.drawLast (m := 8) (by kernel_rfl) (by kernel_rfl) (by kernel_rfl) (zH Z (yE Z (zn Z Z) (yE Z (zA Z Z lE) (yE Z (zD Z Z Z Bo Z Z) (yE Z (zD Z Z Z cO Z Z) (yE Z (zC Z Z Z (by kernel_rfl) (zp (G9 (b := y1)) (.cons zv .nil))) (yE Z (zA Z Z kJ) (yE Z (zD Z Z Z bA Z Z) (LO.nil ?_)))))))))))))))))))));refine yS Z (ab.setX (f := bF) (g := (fun v => (iQ v))) (nm y1) y1.Slot dJ (.inl Z) Z Z Z Z Z kq Z) ?_;refine zN (ai (zT (zR (yS Z (ax Z Z Z Z) (zM Z (zN (zT ?_)))))));obtain rfl := zJ hr;exact ⟨_, rfl, zW 6 ⟨rfl, rfl, rfl, rfl, rfl, trivial⟩ Z Z Z (zL Z (zL Z (zL Z (zL (ae (fun _ => rfl) _) (zL (ae (fun _ => rfl) _) (zL Z Z))))))⟩
  ·
   refine zo g1 hr fun hr => zq (ao (ao (zy (zT ?_))));obtain rfl := zJ hr;have hr := congrArg some (hb_x1 _ rfl);obtain rfl := zJ hr;exact zW 6 ⟨Z, Z, trivial⟩ Z Z Z (zL Z (zL Z (zL Z (zL (ae (fun _ => rfl) _) (zL (ae (fun _ => rfl) _) (zL Z Z))))))
 ·have hr := ho_v1;clear hb_v1;refine zT (LW.weak hw_v1 (zQ (zQ (zR (yS Z (zA Z Z b7) (yS Z (zD Z Z Z eS Z Z) (yS Z (dY Z Z (by kernel_rfl)) (zM Z (zN (zT ?_))))))))));obtain ⟨v2, hb_v2, ho_v2⟩ := zB hr;clear hr;refine LW.tail (E := [(5, .ptr 5 0)]) (O := [.box (dm w), .vec 5 (w.B.map ay), .vec 4 (w.V.map aI), (mQ v1.o3), (mR v2.o4), .box [(jB 1 w.B), (jV 2 w.V), .map 3, .map 4, (iQ upto), (bQ false)]]) ?_ (fun env_v2 H_v2 hw_v2 => ?_)
  ·refine LW.block ?_;refine LW.iterB (E := fun x2 : eV => [(5, .ptr 5 0), (41, (kV w.V)), (42, .p (.int .i64 (w.V.length : Int))), (43, (iQ x2.t43))]) (O := fun x2 => [.box (dm w), .vec 5 (w.B.map ay), .vec 4 (w.V.map aI), (mQ v1.o3), (mR x2.o4), .box [(jB 1 w.B), (jV 2 w.V), .map 3, .map 4, (iQ upto), (bQ false)]]) hb_v2 (zW 6 ⟨rfl, rfl, rfl, rfl, trivial⟩ Z Z Z (zL Z (zL Z (zL Z (zL (ae (fun _ => rfl) _) (zL (ae (fun _ => rfl) _) (zL Z Z))))))) (fun x2 z_x2 hr hb_x2 => ?_);unfold lf at hr;refine zQ (zR (yS Z (ax Z Z Z Z) (zN (zT (zQ ?_)))));refine zX Z (fun g2 => ?_) (fun g2 => ?_)
   ·
    refine zi g2 hr fun hr => zk (zT (zQ (zl (zQ (zR (zb hr fun y2 h_y2 hr => yS Z (zx Z Z Z dM h_y2 Z) (yS Z (eA Z Z Z cT Z Z) (yS Z (ze Z uk Z Z) (yS Z (zs Z Z Z Z cT Z Z Z Z) (zN (zT (LW.drawLast (m := 5) (by kernel_rfl) (by kernel_rfl) (by kernel_rfl) (zH Z (yE Z (zn Z Z) (yE Z (zA Z Z pI) (yE Z (zD Z Z Z y9 Z Z) (yE Z (zD Z Z Z cT Z Z) (LO.nil ?_))))))))))))))))));refine yS Z (ab.setX (f := aI) (g := (fun v => (bQ v))) y2 true zj (.inl Z) Z Z Z Z Z DC Z) ?_;refine zN (ai (zT (zR (yS Z (ax Z Z Z Z) (zM Z (zN (zT ?_)))))));obtain rfl := zJ hr;exact ⟨_, rfl, zW 6 ⟨rfl, rfl, rfl, rfl, trivial⟩ Z Z Z (zL Z (zL Z (zL Z (zL (ae (fun _ => rfl) _) (zL (ae (fun _ => rfl) _) (zL Z Z))))))⟩
   ·
    refine zo g2 hr fun hr => zq (ao (ao (zy (zT ?_))));obtain rfl := zJ hr;have hr := congrArg some (hb_x2 _ rfl);obtain rfl := zJ hr;exact zW 6 ⟨Z, trivial⟩ Z Z Z (zL Z (zL Z (zL Z (zL (ae (fun _ => rfl) _) (zL (ae (fun _ => rfl) _) (zL Z Z))))))
  ·have hr := ho_v2;clear hb_v2;refine zT (LW.weak hw_v2 (zQ (zR (zM Z (zM Z (zN (zT (zr ?_))))))));obtain rfl := zJ hr;exact ap (.one (.tmp Z)) (⟨rfl, rfl⟩)
theorem yx {α : Type} {f : α → PV} {d : Nat} (m : List (α × Int)) : ((ah f (fun v => (iQ v)) m).map fun e => (e.1, LV.shift d e.2)) = ah f (fun v => (iQ v)) m := C1 (fun _ => rfl) m
theorem yw {α : Type} {f : α → PV} {d : Nat} (m : List (α × Bool)) : ((ah f (fun v => (bQ v)) m).map fun e => (e.1, LV.shift d e.2)) = ah f (fun v => (bQ v)) m := C1 (fun _ => rfl) m
end Go.Mg
