/- shuffle.At, Back, Perm. References of trees and cursors. Duties: what stands alone. duty.those: a closure. Sums of weights, and lists, over closures. Committees over closures. marigoldref04. Duties: the reference, the proposer. duty.Total, Weight, Committee, In. Weights of blocks, heads: what stands alone, and the reference. Weights of blocks; the head. Views: clones, and what stands alone. Views: what may be at all; a view that grows, begun. Conditions: none. -/
import Derived.Test.YtbjmcafamkdokaaGreatX3
import Derived.Test.YtbjmcafamkdokaaGreatX4
import Derived.Test.YtbjmcafamkdokaaGreatX2
set_option maxRecDepth 100000
set_option linter.unusedSimpArgs false
set_option linter.unusedVariables false
namespace Go.Mg
open Go.Proofs
def IH : Dk := ⟨fun _ => false, 0⟩
structure iT where
 i : Int
 t6 : Int
 d : Dk
def nQ (seed : Int) (n : Int) (x1 : iT) : Option (iT ⊕ iT) :=
 bif decide (x1.t6 < 10) then
  bif pT n x1.t6 then
   some (.inl (iT.mk (pS seed n x1.t6 x1.i) (IntKind.i64.wrap (x1.t6 + 1)) (x1.d.turned x1.t6)))
  else none
 else
  some (.inr (iT.mk x1.i x1.t6 x1.d))
def yd (seed : Int) (n : Int) (i : Int) (d : Dk) : Option (Int × Dk) :=
 (iter (nQ seed n) bH (iT.mk i 0 d)).bind fun v1 =>
 some (v1.i, v1.d)
theorem Gi {seed : Int} {n : Int} {i : Int} {d : Dk} {r_ : Int × Dk} (hr : yd seed n i d = some r_) : LC Tryz.prog 142 [.ptr 0 0, (iQ i)] [.box (gO seed n d)] (Is (iQ r_.1) [.box (gO seed n r_.2)]) := by
 refine dt Tryz.func142 Z Z Z ?_;unfold yd at hr;refine zQ<|zR<|zM Z<|zN<|zT<|zQ<|zQ<|zR<|zM Z<|zN<|zT ?_;obtain ⟨v1, hb_v1, ho_v1⟩ := zB hr;clear hr;refine LW.tail (E := [(1, (iQ v1.i)), (4, (iQ 0))]) (O := [.box (gO seed n v1.d)]) ?_<|fun env_v1 H_v1 hw_v1 => ?_
 ·refine LW.block ?_;refine LW.iterB (E := fun x1 : iT => [(0, .ptr 0 0), (1, (iQ x1.i)), (4, (iQ 0)), (6, (iQ x1.t6))]) (O := fun x1 => [.box (gO seed n x1.d)]) hb_v1 (zW 1 ⟨rfl, rfl, rfl, rfl, trivial⟩ Z Z Z Z)<|fun x1 z_x1 hr hb_x1 => ?_;unfold nQ at hr;refine zQ<|zR<|yS Z (ax Z Z Z Z)<|zN<|zT<|zQ ?_;refine zX Z (fun g1 => ?_)<|fun g1 => ?_
  ·
   refine zi g1 hr fun hr => zk<|zT<|zQ<|zl<|zQ<|zR<|zM Z<|zM Z<|zN<|zT<|zR<|zM Z<|zM Z<|zM Z<|zg hr fun q1 hr => yS Z (zC Z Z Z (by kernel_rfl) (H6 q1))<|zM Z<|zN<|ai<|zT<|zR<|yS Z (ax Z Z Z Z)<|zM Z ?_;refine zN<|zT ?_;obtain rfl := zJ hr;exact ⟨_, rfl, zW 1 ⟨rfl, rfl, rfl, rfl, trivial⟩ Z Z Z rfl⟩
  ·
   refine zo g1 hr fun hr => zq<|ao<|ao<|zy<|zT ?_;obtain rfl := zJ hr;have hr := congrArg some (hb_x1 _ rfl);obtain rfl := zJ hr;exact zW 1 ⟨Z, Z, trivial⟩ Z Z Z Z
 ·have hr := ho_v1;clear hb_v1;refine zT<|LW.weak hw_v1<|zQ<|zR<|zM Z<|zM Z<|zN<|zT<|zr ?_;obtain rfl := zJ hr;exact ap (.one (.tmp Z))<|⟨rfl, rfl⟩
def yc (n : Int) (i : Int) : Option Bool :=
 bif decide (n > 0) then
  bif decide (n ≤ 1000) then
   bif decide (i ≥ 0) then
    some (decide (i < n))
   else
    some false
  else
   some false
 else
  some false
theorem H5 {n : Int} {i : Int} {r_ : Bool} (hr : yc n i = some r_) : aw Tryz.prog 141 [.int .i64 n, .int .i64 i] [.bool r_] := by
 refine zh Tryz.func141 Z Z Z Z ?_;unfold yc at hr;refine zQ<|zR<|zM Z<|zN<|zT<|zQ<|zR<|zM Z<|yS Z (ax Z Z Z Z)<|zM Z ?_;refine zc 7 Z (fun g1 => ?_)<|fun g1 => ?_
 ·
  refine zi g1 hr fun hr => yV Z (gd g1 Z) (zm Z Z)<|yV Z (gd g1 Z) (ax Z Z Z Z)<|yS Z (ca Z (aN g1 Z) Z)<|zM Z ?_;refine zc 11 Z (fun g2 => ?_)<|fun g2 => ?_
  ·
   refine zi g2 hr fun hr => yV Z (gd g2 Z) (zm Z Z)<|yV Z (gd g2 Z) (ax Z Z Z Z)<|yS Z (ca Z (aN g2 Z) Z)<|zM Z ?_;refine zc 15 Z (fun g3 => ?_)<|fun g3 => ?_
   ·
    refine zi g3 hr fun hr => yV Z (gd g3 Z) (zm Z Z)<|yV Z (gd g3 Z) (zm Z Z)<|yV Z (gd g3 Z) (ax Z Z Z Z)<|yS Z (ca Z (aN g3 Z) Z)<|zM Z<|zN<|zT<|zr ?_;obtain rfl := zJ hr;exact zf (.one (.tmp Z)) zv
   ·
    refine zo g3 hr fun hr => yU Z (gd g3 Z) Z<|yU Z (gd g3 Z) Z<|yU Z (gd g3 Z) Z<|yS Z (a8 Z (aN g3 Z) Z)<|zM Z<|zN<|zT<|zr ?_;obtain rfl := zJ hr;exact zf (.one (.tmp Z)) zv
  ·
   refine zo g2 hr fun hr => yU Z (gd g2 Z) Z<|yU Z (gd g2 Z) Z<|yS Z (a8 Z (aN g2 Z) Z)<|zM Z<|yU Z Z Z<|yU Z Z Z<|yU Z Z Z<|yS Z (a8 Z Z Z)<|zM Z<|zN<|zT<|zr ?_;obtain rfl := zJ hr;exact zf (.one (.tmp Z)) zv
 ·
  refine zo g1 hr fun hr => yU Z (gd g1 Z) Z<|yU Z (gd g1 Z) Z<|yS Z (a8 Z (aN g1 Z) Z)<|zM Z<|yU Z Z Z<|yU Z Z Z<|yS Z (a8 Z Z Z)<|zM Z<|yU Z Z Z<|yU Z Z Z<|yU Z Z Z<|yS Z (a8 Z Z Z)<|zM Z<|zN<|zT<|zr ?_;obtain rfl := zJ hr;exact zf (.one (.tmp Z)) zv
structure k7 where
 t19 : Int
 d : Dk
 l : List Int
def oA (seed : Int) (n : Int) (x1 : k7) : Option (k7 ⊕ k7) :=
 bif decide (x1.t19 < ((List.replicate n.toNat (0 : Int)).length : Int)) then
  (yd seed n x1.t19 x1.d).bind fun v3 =>
  (ix x1.l x1.t19).bind fun _ =>
  some (.inl (k7.mk (IntKind.i64.wrap (x1.t19 + 1)) v3.2 (x1.l.set x1.t19.toNat v3.1)))
 else
  some (.inr (k7.mk x1.t19 x1.d x1.l))
def Fk (seed : Int) (n : Int) : Option (List Int) :=
 (yc n 0).bind fun v1 =>
 bif !v1 then
  some []
 else
  bif xF n 8 then
   (iter (oA seed n) bH (k7.mk 0 IH (List.replicate n.toNat (0 : Int)))).bind fun v2 =>
   bif decide (v2.d.k < n) then
    some []
   else
    some v2.l
  else none
theorem I9 {seed : Int} {n : Int} {r_ : (List Int)} (hr : Fk seed n = some r_) : aw Tryz.prog 103 [.int .u64 seed, .int .i64 n] [.slice 1 (r_.map aB)] := by
 refine zh Tryz.func103 Z Z Z Z ?_;unfold Fk at hr;refine zQ<|zR<|zM Z<|zN<|zT<|zQ<|zQ<|zR<|zM Z<|zb hr fun v1 h_v1 hr => yS Z (zC Z Z Z (by kernel_rfl) (zp (H5 h_v1) (.cons zv (.cons zv .nil))))<|yS Z (ab.not Z Z)<|zN<|zT ?_;refine zX Z (fun g1 => ?_)<|fun g1 => ?_
 ·
  refine zi g1 hr fun hr => zQ<|zR<|zM Z<|zN<|zT<|zr<|af ?_;obtain rfl := zJ hr;exact zf (.one (.tmp Z)) Conv.zs
 ·
  refine zo g1 hr fun hr => zk<|zT<|zQ<|zR<|zM Z<|zM Z<|yS Z (ab.build Z Fx Z Z Z)<|yS Z (bV (H' := [.box (gO seed n IH)]) Z Z Z Z Z)<|zM Z<|zN<|zT<|zQ<|zR<|zM Z<|zg hr fun q1 hr => yS Z (ab.makeSliceX aB 0 Z Z Z fP (z := .int .i64 0) (by kernel_rfl) Z q1 Z Z)<|zM Z<|zN<|zT<|zQ<|zQ<|zR<|zM Z ?_;refine yS Z (ab.lenVM Z Z Z (by kernel_rfl))<|zM Z<|zN<|zT ?_;obtain ⟨v2, hb_v2, ho_v2⟩ := zB hr;clear hr;refine LW.tail (E := [(1, (iQ n)), (4, .zs), (5, .ptr 0 0), (6, (jI 1 v2.l))]) (O := [.box (gO seed n v2.d), .vec 1 (v2.l.map aB)]) ?_<|fun env_v2 H_v2 hw_v2 => ?_
  ·refine LW.block ?_;refine LW.iterB (E := fun x1 : k7 => [(1, (iQ n)), (4, .zs), (5, .ptr 0 0), (6, (jI 1 x1.l)), (18, .p (.int .i64 ((List.replicate n.toNat (0 : Int)).length : Int))), (19, (iQ x1.t19))]) (O := fun x1 => [.box (gO seed n x1.d), .vec 1 (x1.l.map aB)]) hb_v2 (zW 2 ⟨rfl, rfl, rfl, rfl, rfl, rfl, trivial⟩ Z Z Z Z)<|fun x1 z_x1 hr hb_x1 => ?_;unfold oA at hr;refine zQ<|zR<|yS Z (ax Z Z Z Z)<|zN<|zT<|zQ ?_;refine zX Z (fun g2 => ?_)<|fun g2 => ?_
   ·
    refine zi g2 hr fun hr => zk<|zT<|zQ<|zl<|zQ<|zR<|zM Z<|zM Z<|zN<|zT<|zR<|zM Z<|zM Z<|zM Z<|zM Z<|zb hr fun v3 h_v3 hr => yS Z (zC Z Z Z (by kernel_rfl) (LC.pre (Gi h_v3) Z Z Z))<|zb hr fun y1 h_y1 hr => yS Z (ab.indexAddrVX Z Z Z Z fP h_y1) ?_;refine yS Z (ab.storeVX (f := aB) (l := x1.l) v3.1 Z Z Z Z aX (fun _ => rfl) h_y1 Z) ?_;refine zN<|ai<|zT<|zR<|yS Z (ax Z Z Z Z)<|zM Z<|zN<|zT ?_;obtain rfl := zJ hr;exact ⟨_, rfl, zW 2 ⟨rfl, rfl, rfl, (IM (rfl)), rfl, rfl, trivial⟩ Z Z Z rfl⟩
   ·
    refine zo g2 hr fun hr => zq<|ao<|ao<|zy<|zT ?_;obtain rfl := zJ hr;have hr := congrArg some (hb_x1 _ rfl);obtain rfl := zJ hr;exact zW 2 ⟨Z, Z, Z, Z, trivial⟩ Z Z Z Z
  ·have hr := ho_v2;clear hb_v2;refine zT<|LW.weak hw_v2<|zQ<|zQ<|zR<|zM Z<|yS Z (zn Z Z)<|yS Z (zA Z Z ru)<|yS Z (zC Z Z Z (by kernel_rfl) (H7 (off := 52) Z Z))<|zM Z<|yS Z (ax Z Z Z Z)<|zN<|zT ?_;refine zX Z (fun g3 => ?_)<|fun g3 => ?_
   ·
    refine zi g3 hr fun hr => zQ<|zR<|zM Z<|zN<|zT<|zr<|af ?_;obtain rfl := zJ hr;exact zf (.one (.tmp Z)) Conv.zs
   ·
    refine zo g3 hr fun hr => zk<|zT<|zQ<|zR<|zM Z<|zM Z<|zN<|zT<|zr ?_;obtain rfl := zJ hr;exact zf (.one (.tmp Z))<|(Conv.vecAll Z Z Z)
open Go.Proofs
open Go.Proofs
structure gG where
 m : Int
 i : Int
def lN (x : List Int) (x1 : gG) : Option (gG ⊕ gG) :=
 bif decide (x1.i < (x.length : Int)) then
  (ix x x1.i).bind fun y2 =>
  some (.inl (gG.mk (if y2 < x1.m then y2 else x1.m) (IntKind.i64.wrap (x1.i + 1))))
 else
  some (.inr (gG.mk x1.m x1.i))
def yi (x : List Int) : Option Int :=
 bif decide ((x.length : Int) < 1) then
  none
 else
  (ix x 0).bind fun y1 =>
  (iter (lN x) bH (gG.mk y1 1)).bind fun v1 =>
  some v1.m
theorem H8 {x : List Int} {r_ : Int} (hr : yi x = some r_) : aw Tryz.prog 78 [.slice 1 (x.map aB)] [.int .i64 r_] := by
 refine zh Tryz.func78 Z Z Z Z ?_;unfold yi at hr;refine zQ<|zR<|zM Z<|zN<|zT<|zQ<|zQ<|zR<|zM Z<|yS Z (cC Z Z (by kernel_rfl))<|yS Z (ax Z Z Z Z)<|zN<|zT ?_;refine zX Z (fun g1 => ?_)<|fun g1 => ?_
 ·
  have hr := zI g1 hr;cases hr
 ·
  refine zo g1 hr fun hr => zk<|zT<|zQ<|zR<|zM Z<|zb hr fun y1 h_y1 hr => yS Z (zx Z Z Z fP h_y1 Z)<|yS Z (cT Z Z Z aX Z Z)<|zM Z<|zN<|zT<|zQ<|zQ<|zR<|zM Z<|zN<|zT ?_;obtain ⟨v1, hb_v1, ho_v1⟩ := zB hr;clear hr;refine LW.tail (E := [(2, (iQ 0)), (3, (iQ v1.m))]) (O := []) ?_<|fun env_v1 H_v1 hw_v1 => ?_
  ·refine LW.block ?_;refine LW.iterB (E := fun x1 : gG => [(0, (kI x)), (2, (iQ 0)), (3, (iQ x1.m)), (4, (iQ x1.i))]) (O := fun x1 => []) hb_v1 (zW 0 ⟨rfl, rfl, rfl, rfl, trivial⟩ Z Z Z Z)<|fun x1 z_x1 hr hb_x1 => ?_;unfold lN at hr;refine zQ<|zQ<|zR<|zM Z<|zM Z<|yS Z (cC Z Z (by kernel_rfl))<|yS Z (ax Z Z Z Z)<|zN<|zT ?_;refine zX Z (fun g2 => ?_)<|fun g2 => ?_
   ·
    refine zi g2 hr fun hr => zk<|zT<|zQ<|zl<|zR<|zM Z<|zM Z<|zM Z<|zb hr fun y2 h_y2 hr => yS Z (zx Z Z Z fP h_y2 Z)<|yS Z (cT Z Z Z aX Z Z)<|yS Z (ab.min Z Z Z)<|zM Z<|zN<|ai<|zT<|zR<|zM Z<|yS Z (ax Z Z Z Z)<|zM Z<|zN<|zT ?_;obtain rfl := zJ hr;exact ⟨_, rfl, zW 0 ⟨rfl, rfl, rfl, rfl, trivial⟩ Z Z Z rfl⟩
   ·
    refine zo g2 hr fun hr => zq<|ao<|ao<|zy<|zT ?_;obtain rfl := zJ hr;have hr := congrArg some (hb_x1 _ rfl);obtain rfl := zJ hr;exact zW 0 ⟨Z, Z, trivial⟩ Z Z Z Z
  ·have hr := ho_v1;clear hb_v1;refine zT<|LW.weak hw_v1<|zQ<|zR<|zM Z<|zM Z<|zN<|zT<|zr ?_;obtain rfl := zJ hr;exact zf (.one (.tmp Z)) zv
structure gH where
 m : Int
 i : Int
def lO (x : List Int) (x1 : gH) : Option (gH ⊕ gH) :=
 bif decide (x1.i < (x.length : Int)) then
  (ix x x1.i).bind fun y2 =>
  some (.inl (gH.mk (if y2 > x1.m then y2 else x1.m) (IntKind.i64.wrap (x1.i + 1))))
 else
  some (.inr (gH.mk x1.m x1.i))
def yj (x : List Int) : Option Int :=
 bif decide ((x.length : Int) < 1) then
  none
 else
  (ix x 0).bind fun y1 =>
  (iter (lO x) bH (gH.mk y1 1)).bind fun v1 =>
  some v1.m
theorem Ia {x : List Int} {r_ : Int} (hr : yj x = some r_) : aw Tryz.prog 79 [.slice 1 (x.map aB)] [.int .i64 r_] := by
 refine zh Tryz.func79 Z Z Z Z ?_;unfold yj at hr;refine zQ<|zR<|zM Z<|zN<|zT<|zQ<|zQ<|zR<|zM Z<|yS Z (cC Z Z (by kernel_rfl))<|yS Z (ax Z Z Z Z)<|zN<|zT ?_;refine zX Z (fun g1 => ?_)<|fun g1 => ?_
 ·
  have hr := zI g1 hr;cases hr
 ·
  refine zo g1 hr fun hr => zk<|zT<|zQ<|zR<|zM Z<|zb hr fun y1 h_y1 hr => yS Z (zx Z Z Z fP h_y1 Z)<|yS Z (cT Z Z Z aX Z Z)<|zM Z<|zN<|zT<|zQ<|zQ<|zR<|zM Z<|zN<|zT ?_;obtain ⟨v1, hb_v1, ho_v1⟩ := zB hr;clear hr;refine LW.tail (E := [(2, (iQ 0)), (3, (iQ v1.m))]) (O := []) ?_<|fun env_v1 H_v1 hw_v1 => ?_
  ·refine LW.block ?_;refine LW.iterB (E := fun x1 : gH => [(0, (kI x)), (2, (iQ 0)), (3, (iQ x1.m)), (4, (iQ x1.i))]) (O := fun x1 => []) hb_v1 (zW 0 ⟨rfl, rfl, rfl, rfl, trivial⟩ Z Z Z Z)<|fun x1 z_x1 hr hb_x1 => ?_;unfold lO at hr;refine zQ<|zQ<|zR<|zM Z<|zM Z<|yS Z (cC Z Z (by kernel_rfl))<|yS Z (ax Z Z Z Z)<|zN<|zT ?_;refine zX Z (fun g2 => ?_)<|fun g2 => ?_
   ·
    refine zi g2 hr fun hr => zk<|zT<|zQ<|zl<|zR<|zM Z<|zM Z<|zM Z<|zb hr fun y2 h_y2 hr => yS Z (zx Z Z Z fP h_y2 Z)<|yS Z (cT Z Z Z aX Z Z)<|yS Z (ab.max Z Z Z)<|zM Z<|zN<|ai<|zT<|zR<|zM Z<|yS Z (ax Z Z Z Z)<|zM Z<|zN<|zT ?_;obtain rfl := zJ hr;exact ⟨_, rfl, zW 0 ⟨rfl, rfl, rfl, rfl, trivial⟩ Z Z Z rfl⟩
   ·
    refine zo g2 hr fun hr => zq<|ao<|ao<|zy<|zT ?_;obtain rfl := zJ hr;have hr := congrArg some (hb_x1 _ rfl);obtain rfl := zJ hr;exact zW 0 ⟨Z, Z, trivial⟩ Z Z Z Z
  ·have hr := ho_v1;clear hb_v1;refine zT<|LW.weak hw_v1<|zQ<|zR<|zM Z<|zM Z<|zN<|zT<|zr ?_;obtain rfl := zJ hr;exact zf (.one (.tmp Z)) zv
def w5 (c : Cf) : Option Bool :=
 (
  bif (c.W.length : Int) == 0 then
   some true
  else
   bif decide ((c.W.length : Int) > 12) then
    some true
   else
    (yi c.W).bind fun v2 =>
    bif decide (v2 < 0) then
     some true
    else
     (yj c.W).bind fun v3 =>
     some (decide (v3 > 1099511627776))
 ).bind fun v1 =>
 bif v1 then
  some false
 else
  bif decide (c.Epoch > 0) then
   bif decide (c.Epoch ≤ 8) then
    bif decide (c.Num ≥ 0) then
     bif decide (c.Num ≤ c.Den) then
      bif decide (c.Den > 0) then
       some (decide (c.Den ≤ 1000))
      else
       some false
     else
      some false
    else
     some false
   else
    some false
  else
   some false
theorem En {c : Cf} {r_ : Bool} (hr : w5 c = some r_) : aw Tryz.prog 47 [kG c] [.bool r_] := by
 refine zh Tryz.func47 Z Z Z Z ?_;unfold w5 at hr;refine zQ<|zR<|yS Z (bV Z Z Z Z Z)<|zM Z<|zN<|zT<|zQ ?_;obtain ⟨v1, hb_v1, ho_v1⟩ := zB hr;clear hr;refine LW.cut (E := [(1, .ptr 0 0), (2, (bQ false)), (24, (bQ v1))]) (O := [.box (bN c)]) ?_ ?_
 ·have hr := hb_v1;refine zR<|yS Z (zA Z Z gp)<|yS Z (zD Z Z Z eU Z Z)<|yS Z (cC Z Z (by kernel_rfl))<|yS Z (ax Z Z Z Z)<|zM Z ?_;refine zc 7 Z (fun g1 => ?_)<|fun g1 => ?_
  ·
   refine zi g1 hr fun hr => yU Z (gd g1 Z) Z<|yU Z (gd g1 Z) Z<|yU Z (gd g1 Z) Z<|yU Z (gd g1 Z) Z<|yS Z (ca Z (aN g1 Z) Z)<|zM Z<|yU Z Z Z<|yU Z Z Z<|yU Z Z Z<|yU Z Z Z<|yS Z (ca Z Z Z)<|zM Z<|yU Z Z Z<|yU Z Z Z<|yU Z Z Z<|yU Z Z Z<|yS Z (ca Z Z Z)<|zN<|zT ?_;obtain rfl := zJ hr;exact zW 1 ⟨Z, Z, Z, trivial⟩ Z Z Z Z
  ·
   refine zo g1 hr fun hr => yV Z (gd g1 Z) (zA Z Z gp)<|yV Z (gd g1 Z) (zD Z Z Z eU Z Z)<|yV Z (gd g1 Z) (cC Z Z (by kernel_rfl))<|yV Z (gd g1 Z) (ax Z Z Z Z)<|yS Z (a8 Z (aN g1 Z) Z)<|zM Z ?_;refine zc 13 Z (fun g2 => ?_)<|fun g2 => ?_
   ·
    refine zi g2 hr fun hr => yU Z (gd g2 Z) Z<|yU Z (gd g2 Z) Z<|yU Z (gd g2 Z) Z<|yU Z (gd g2 Z) Z<|yS Z (ca Z (aN g2 Z) Z)<|zM Z<|yU Z Z Z<|yU Z Z Z<|yU Z Z Z<|yU Z Z Z<|yS Z (ca Z Z Z)<|zN<|zT ?_;obtain rfl := zJ hr;exact zW 1 ⟨Z, Z, Z, trivial⟩ Z Z Z Z
   ·
    refine zo g2 hr fun hr => yV Z (gd g2 Z) (zA Z Z gp)<|yV Z (gd g2 Z) (zD Z Z Z eU Z Z)<|zb hr fun v2 h_v2 hr => yV Z (gd g2 Z) (zC Z Z Z (by kernel_rfl) (zp (H8 h_v2) (.cons zv .nil)))<|yV Z (gd g2 Z) (ax Z Z Z Z)<|yS Z (a8 Z (aN g2 Z) Z)<|zM Z ?_;refine zc 19 Z (fun g3 => ?_)<|fun g3 => ?_
    ·
     refine zi g3 hr fun hr => yU Z (gd g3 Z) Z<|yU Z (gd g3 Z) Z<|yU Z (gd g3 Z) Z<|yU Z (gd g3 Z) Z<|yS Z (ca Z (aN g3 Z) Z)<|zN<|zT ?_;obtain rfl := zJ hr;exact zW 1 ⟨Z, Z, Z, trivial⟩ Z Z Z Z
    ·
     refine zo g3 hr fun hr => yV Z (gd g3 Z) (zA Z Z gp)<|yV Z (gd g3 Z) (zD Z Z Z eU Z Z)<|zb hr fun v3 h_v3 hr => yV Z (gd g3 Z) (zC Z Z Z (by kernel_rfl) (zp (Ia h_v3) (.cons zv .nil)))<|yV Z (gd g3 Z) (ax Z Z Z Z)<|yS Z (a8 Z (aN g3 Z) Z)<|zN<|zT ?_;obtain rfl := zJ hr;exact zW 1 ⟨Z, Z, Z, trivial⟩ Z Z Z Z
 ·have hr := ho_v1;clear hb_v1;refine zX Z (fun g4 => ?_)<|fun g4 => ?_
  ·
   refine zi g4 hr fun hr => zQ<|zR<|zM Z<|zN<|zT<|zr<|af ?_;obtain rfl := zJ hr;exact zf (.one (.tmp Z)) zv
  ·
   refine zo g4 hr fun hr => zk<|zT<|zQ<|zR<|yS Z (zA Z Z pk)<|yS Z (zD Z Z Z aX Z Z)<|yS Z (ax Z Z Z Z)<|zM Z ?_;refine zc 28 Z (fun g5 => ?_)<|fun g5 => ?_
   ·
    refine zi g5 hr fun hr => yV Z (gd g5 Z) (zA Z Z pk)<|yV Z (gd g5 Z) (zD Z Z Z aX Z Z)<|yV Z (gd g5 Z) (ax Z Z Z Z)<|yS Z (ca Z (aN g5 Z) Z)<|zM Z ?_;refine zc 33 Z (fun g6 => ?_)<|fun g6 => ?_
    ·
     refine zi g6 hr fun hr => yV Z (gd g6 Z) (zA Z Z uY)<|yV Z (gd g6 Z) (zD Z Z Z aX Z Z)<|yV Z (gd g6 Z) (ax Z Z Z Z)<|yS Z (ca Z (aN g6 Z) Z)<|zM Z ?_;refine zc 38 Z (fun g7 => ?_)<|fun g7 => ?_
     ·
      refine zi g7 hr fun hr => yV Z (gd g7 Z) (zA Z Z uY)<|yV Z (gd g7 Z) (zD Z Z Z aX Z Z)<|yV Z (gd g7 Z) (zA Z Z pm)<|yV Z (gd g7 Z) (zD Z Z Z aX Z Z)<|yV Z (gd g7 Z) (ax Z Z Z Z)<|yS Z (ca Z (aN g7 Z) Z)<|zM Z ?_;refine zc 45 Z (fun g8 => ?_)<|fun g8 => ?_
      ·
       refine zi g8 hr fun hr => yV Z (gd g8 Z) (zA Z Z pm)<|yV Z (gd g8 Z) (zD Z Z Z aX Z Z)<|yV Z (gd g8 Z) (ax Z Z Z Z)<|yS Z (ca Z (aN g8 Z) Z)<|zM Z ?_;refine zc 50 Z (fun g9 => ?_)<|fun g9 => ?_
       ·
        refine zi g9 hr fun hr => yV Z (gd g9 Z) (zA Z Z pm)<|yV Z (gd g9 Z) (zD Z Z Z aX Z Z)<|yV Z (gd g9 Z) (ax Z Z Z Z)<|yS Z (ca Z (aN g9 Z) Z)<|zM Z<|zN<|zT<|zr ?_;obtain rfl := zJ hr;exact zf (.one (.tmp Z)) zv
       ·
        refine zo g9 hr fun hr => yU Z (gd g9 Z) Z<|yU Z (gd g9 Z) Z<|yU Z (gd g9 Z) Z<|yS Z (a8 Z (aN g9 Z) Z)<|zM Z<|zN<|zT<|zr ?_;obtain rfl := zJ hr;exact zf (.one (.tmp Z)) zv
      ·
       refine zo g8 hr fun hr => yU Z (gd g8 Z) Z<|yU Z (gd g8 Z) Z<|yU Z (gd g8 Z) Z<|yS Z (a8 Z (aN g8 Z) Z)<|zM Z<|yU Z Z Z<|yU Z Z Z<|yU Z Z Z<|yS Z (a8 Z Z Z)<|zM Z<|zN<|zT<|zr ?_;obtain rfl := zJ hr;exact zf (.one (.tmp Z)) zv
     ·
      refine zo g7 hr fun hr => yU Z (gd g7 Z) Z<|yU Z (gd g7 Z) Z<|yU Z (gd g7 Z) Z<|yU Z (gd g7 Z) Z<|yU Z (gd g7 Z) Z<|yS Z (a8 Z (aN g7 Z) Z)<|zM Z<|yU Z Z Z<|yU Z Z Z<|yU Z Z Z<|yS Z (a8 Z Z Z)<|zM Z<|yU Z Z Z<|yU Z Z Z<|yU Z Z Z<|yS Z (a8 Z Z Z)<|zM Z<|zN<|zT<|zr ?_;obtain rfl := zJ hr;exact zf (.one (.tmp Z)) zv
    ·
     refine zo g6 hr fun hr => yU Z (gd g6 Z) Z<|yU Z (gd g6 Z) Z<|yU Z (gd g6 Z) Z<|yS Z (a8 Z (aN g6 Z) Z)<|zM Z<|yU Z Z Z<|yU Z Z Z<|yU Z Z Z<|yU Z Z Z<|yU Z Z Z<|yS Z (a8 Z Z Z)<|zM Z<|yU Z Z Z<|yU Z Z Z<|yU Z Z Z<|yS Z (a8 Z Z Z)<|zM Z<|yU Z Z Z<|yU Z Z Z<|yU Z Z Z<|yS Z (a8 Z Z Z)<|zM Z<|zN ?_;refine zT<|zr ?_;obtain rfl := zJ hr;exact zf (.one (.tmp Z)) zv
   ·
    refine zo g5 hr fun hr => yU Z (gd g5 Z) Z<|yU Z (gd g5 Z) Z<|yU Z (gd g5 Z) Z<|yS Z (a8 Z (aN g5 Z) Z)<|zM Z<|yU Z Z Z<|yU Z Z Z<|yU Z Z Z<|yS Z (a8 Z Z Z)<|zM Z<|yU Z Z Z<|yU Z Z Z<|yU Z Z Z<|yU Z Z Z<|yU Z Z Z<|yS Z (a8 Z Z Z)<|zM Z<|yU Z Z Z<|yU Z Z Z<|yU Z Z Z<|yS Z (a8 Z Z Z)<|zM Z<|yU Z Z Z ?_;refine yU Z Z Z<|yU Z Z Z<|yS Z (a8 Z Z Z)<|zM Z<|zN<|zT<|zr ?_;obtain rfl := zJ hr;exact zf (.one (.tmp Z)) zv
def wR (c : Cf) (slot : Int) : Option Bool :=
 (w5 c).bind fun v1 =>
 bif v1 then
  bif decide (slot > 0) then
   some (decide (slot ≤ 1048576))
  else
   some false
 else
  some false
theorem FI {c : Cf} {slot : Int} {r_ : Bool} (hr : wR c slot = some r_) : aw Tryz.prog 69 [kG c, .int .i64 slot] [.bool r_] := by
 refine zh Tryz.func69 Z Z Z Z ?_;unfold wR at hr;refine zQ<|zR<|yS Z (bV Z Z Z Z Z)<|zM Z<|zN<|zT<|zQ<|zR<|yS Z (zD Z Z Z b6 Z Z)<|zb hr fun v1 h_v1 hr => yS Z (zC Z Z Z (by kernel_rfl) (zp (En h_v1) (.cons zv .nil)))<|zM Z ?_;refine zc 7 Z (fun g1 => ?_)<|fun g1 => ?_
 ·
  refine zi g1 hr fun hr => yV Z (gd g1 Z) (zm Z Z)<|yV Z (gd g1 Z) (ax Z Z Z Z)<|yS Z (ca Z (aN g1 Z) Z)<|zM Z ?_;refine zc 11 Z (fun g2 => ?_)<|fun g2 => ?_
  ·
   refine zi g2 hr fun hr => yV Z (gd g2 Z) (zm Z Z)<|yV Z (gd g2 Z) (ax Z Z Z Z)<|yS Z (ca Z (aN g2 Z) Z)<|zM Z<|zN<|zT<|zr ?_;obtain rfl := zJ hr;exact zf (.one (.tmp Z)) zv
  ·
   refine zo g2 hr fun hr => yU Z (gd g2 Z) Z<|yU Z (gd g2 Z) Z<|yS Z (a8 Z (aN g2 Z) Z)<|zM Z<|zN<|zT<|zr ?_;obtain rfl := zJ hr;exact zf (.one (.tmp Z)) zv
 ·
  refine zo g1 hr fun hr => yU Z (gd g1 Z) Z<|yU Z (gd g1 Z) Z<|yS Z (a8 Z (aN g1 Z) Z)<|zM Z<|yU Z Z Z<|yU Z Z Z<|yS Z (a8 Z Z Z)<|zM Z<|zN<|zT<|zr ?_;obtain rfl := zJ hr;exact zf (.one (.tmp Z)) zv
structure iU where
 t8 : Int
def kt (s : List Int) (v : Int) (x1 : iU) : Option (iU ⊕ (iU ⊕ Int)) :=
 bif decide (x1.t8 < (s.length : Int)) then
  (ix s x1.t8).bind fun y1 =>
  bif v == y1 then
   some (.inr (.inr x1.t8))
  else
   some (.inl (iU.mk (IntKind.i64.wrap (x1.t8 + 1))))
 else
  some (.inr (.inl (iU.mk x1.t8)))
def B7 (s : List Int) (v : Int) : Option Int :=
 (iter (kt s v) bH (iU.mk 0)).bind fun b_v1 => Sum.elim (fun _ =>
  some (-1)) some b_v1
theorem Il {s : List Int} {v : Int} {r_ : Int} (hr : B7 s v = some r_) : aw Tryz.prog 80 [.slice 1 (s.map aB), .int .i64 v] [.int .i64 r_] := by
 refine zh Tryz.func80 Z Z Z Z ?_;unfold B7 at hr;refine zQ<|zR<|zM Z<|zN<|zT<|zQ<|zQ<|zR<|zM Z<|yS Z (cC Z Z (by kernel_rfl))<|zM Z<|zN<|zT ?_;obtain ⟨b_v1, hb_v1, ho_v1⟩ := zB hr;clear hr;refine LW.tailB (b := b_v1) (E := fun v1 => [(4, (iQ 0))]) (O := fun v1 => []) ?_<|fun v1 e_v1 env_v1 H_v1 hw_v1 => ?_
 ·refine LW.block ?_;refine LW.iterB (E := fun x1 : iU => [(0, (kI s)), (1, (iQ v)), (4, (iQ 0)), (7, .p (.int .i64 (s.length : Int))), (8, (iQ x1.t8))]) (O := fun x1 => []) hb_v1 (zW 0 ⟨rfl, rfl, rfl, rfl, rfl, trivial⟩ Z Z Z Z)<|fun x1 z_x1 hr hb_x1 => ?_;unfold kt at hr;refine zQ<|zR<|yS Z (ax Z Z Z Z)<|zN<|zT<|zQ ?_;refine zX Z (fun g1 => ?_)<|fun g1 => ?_
  ·
   refine zi g1 hr fun hr => zk<|zT<|zQ<|zl<|zQ<|zR<|zM Z<|zM Z<|zN<|zT<|zQ<|zR<|zM Z<|zM Z<|zM Z<|zb hr fun y1 h_y1 hr => yS Z (zx Z Z Z fP h_y1 Z)<|yS Z (cT Z Z Z aX Z Z)<|yS Z (ax Z Z Z Z)<|zN<|zT ?_;refine zX Z (fun g2 => ?_)<|fun g2 => ?_
   ·
    refine zi g2 hr fun hr => zQ<|zR<|zM Z<|zM Z<|zN<|zT<|zr<|aq<|af<|af<|aq<|af<|af ?_;obtain rfl := zJ hr;have hr := congrArg some (hb_x1 _ rfl);obtain rfl := zJ hr;have hr := ck ho_v1;obtain rfl := zJ hr;exact zf (.one (.tmp Z)) zv
   ·
    refine zo g2 hr fun hr => zk<|ai<|zT<|zR<|yS Z (ax Z Z Z Z)<|zM Z<|zN<|zT ?_;obtain rfl := zJ hr;exact ⟨_, rfl, zW 0 ⟨rfl, rfl, rfl, rfl, rfl, trivial⟩ Z Z Z rfl⟩
  ·
   refine zo g1 hr fun hr => zq<|ao<|ao<|zy<|zT ?_;obtain rfl := zJ hr;have hr := congrArg some (hb_x1 _ rfl);obtain rfl := zJ hr;exact ⟨_, rfl, zW 0 ⟨rfl, trivial⟩ Z Z Z rfl⟩
 ·obtain rfl := e_v1;have hr := dK ho_v1;clear hb_v1;refine zT<|LW.weak hw_v1<|zQ<|zR<|zM Z<|zN<|zT<|zr ?_;obtain rfl := zJ hr;exact zf (.one (.tmp Z)) zv
def sf (s : List Int) (v : Int) : Option Bool :=
 (B7 s v).bind fun v1 =>
 some (decide (v1 ≥ 0))
theorem Cw {s : List Int} {v : Int} {r_ : Bool} (hr : sf s v = some r_) : aw Tryz.prog 48 [.slice 1 (s.map aB), .int .i64 v] [.bool r_] := by
 refine zh Tryz.func48 Z Z Z Z ?_;unfold sf at hr;refine zQ<|zR<|zM Z<|zN<|zT<|zQ<|zR<|zM Z<|zM Z<|zb hr fun v1 h_v1 hr => yS Z (zC Z Z Z (by kernel_rfl) (zp (Il h_v1) (.cons zv (.cons zv .nil))))<|yS Z (ax Z Z Z Z)<|zM Z<|zN<|zT<|zr ?_;obtain rfl := zJ hr;exact zf (.one (.tmp Z)) zv
structure HV where
 i : Int
open Go.Proofs
theorem py : ∀ H : List aa, cv H = some H.length
 | [] => rfl
 | _ :: r => by unfold cv; rw [py r]; rfl
theorem oK : ∀ (H : List aa) (o : aa), gE H o = some (H ++ [o])
 | [], _ => rfl
 | _ :: r, o => by unfold gE; rw [oK r o]; rfl
theorem FL {c : Cf} {g : FuncId} {first caps : List LV} {H : List aa} : LC Tryz.prog 105 [.p (kG c), .fn g first caps] H (Is (.fn 145 [] [.cptr [.slice 1 (c.W.map aB), .int .u64 c.Seed, .int .i64 c.Epoch, .int .i64 c.Num, .int .i64 c.Den], .fptr (.fn g first caps)]) H) := by
 refine LC.those Tryz.func105 Z Z Z ?_;refine LW.seq<|LW.region<|am.st Z Z Z (ab.box Z Z Z (py _) (oK _ _))<|am.st Z Z Z (ab.box Z Z Z (py _) (oK _ _))<|am.st Z Z Z (ab.assign Z Z)<|am.nil<|bp<|LW.seq<|LW.region<|am.st Z Z Z (ab.makeFunc Z Z Z)<|am.st Z Z Z (ab.assign Z Z)<|am.nil<|bp<|LW.ret ?_;refine ⟨.inr rfl, by simp, ?_⟩
 have h : ∀ n : Nat, n = H.length + 1 → ∀ {e : av} {H2 : List aa}, e.get 4 = some (.fn 145 [] [.ptr H.length 0, .ptr n 0]) → cV Tryz.prog e H2 Tryz.f105.results (.fn 145 [] [.ptr H.length 0, .ptr (H.length + 1) 0]) := by
  rintro n rfl e H2 he;exact .one<|.tmp he
 exact h _ (by simp) Z
open Go.Proofs
noncomputable def ur : Code := IZ Tryz.f146.body
noncomputable def uv : Code := I0 Tryz.f146.body
noncomputable def ut : Code := IZ Tryz.f144.body
noncomputable def uw : Code := I0 Tryz.f144.body
def BR (i : Int) (_ : Cf) (m : List (Int × Bool)) : Option Bool :=
 some ((aj m i).getD false)
theorem Gk {i : Int} {c : Cf} {m : List (Int × Bool)} {r_ : Bool} (hr : BR i c m = some r_) : LC Tryz.prog 147 [(iQ i), .ptr 2 0] [.box (bN c), .map (ah aB (fun v => (bQ v)) m), .box [.map 1]] (Is (bQ r_) [.box (bN c), .map (ah aB (fun v => (bQ v)) m), .box [.map 1]]) := by
 refine dt Tryz.func147 Z Z Z ?_;unfold BR at hr;refine zQ<|zR<|zM Z<|zN<|zT<|zQ<|zR<|yS Z (zD Z Z Z Bx Z Z)<|zM Z ?_;refine yS Z (ab.getX (f := aB) (g := (fun v => (bQ v))) i false AN Z Z Z Z DC HD Z Z) ?_;refine zM Z<|zN<|zT<|zr ?_;obtain rfl := zJ hr;exact ap (.one (.tmp Z))<|⟨rfl, rfl⟩
theorem HB {c : Cf} {m : List (Int × Bool)} {n i y : Int} {o : Oper} {env : av} {fo xo : Operand} {ats : Array TypeId} (ho : o.op = .call { callee := .value fo, args := #[xo], argTypes := ats }) (hf : aG env fo = some (.yld 6)) (hx : aG env xo = some (iQ i)) (h : ix c.W i = some y) :
  eS Tryz.prog o env [.box (bN c), .map (ah aB (fun v => (bQ v)) m), .box [.map 1], .box (bN c), .box [(iQ n)], .defd, .loop false 21 [(2, .ptr 3 0), (4, (iQ 0)), (5, .ptr 4 0), (11, .fn 145 [] [.cptr [.slice 1 (c.W.map aB), .int .u64 c.Seed, .int .i64 c.Epoch, .int .i64 c.Num, .int .i64 c.Den], .fptr (.fn 147 [] [.ptr 2 0])])] #[12] ur uv] (Is (bQ true) [.box (bN c), .map (ah aB (fun v => (bQ v)) m), .box [.map 1], .box (bN c), .box [.p (.int .i64 (IntKind.i64.wrap (n + y)))], .defd, .loop false 21 [(2, .ptr 3 0), (4, (iQ 0)), (5, .ptr 4 0), (11, .fn 145 [] [.cptr [.slice 1 (c.W.map aB), .int .u64 c.Seed, .int .i64 c.Epoch, .int .i64 c.Num, .int .i64 c.Den], .fptr (.fn 147 [] [.ptr 2 0])])] #[12] ur uv]) := by
 refine eS.yield (env2 := (6, (iQ i)) :: (12, (iQ i)) :: [(2, .ptr 3 0), (4, (iQ 0)), (5, .ptr 4 0), (11, .fn 145 [] [.cptr [.slice 1 (c.W.map aB), .int .u64 c.Seed, .int .i64 c.Epoch, .int .i64 c.Num, .int .i64 c.Den], .fptr (.fn 147 [] [.ptr 2 0])])]) (H2 := [.box (bN c), .map (ah aB (fun v => (bQ v)) m), .box [.map 1], .box (bN c), .box [.p (.int .i64 (IntKind.i64.wrap (n + y)))], .defd, .loop true 21 [(2, .ptr 3 0), (4, (iQ 0)), (5, .ptr 4 0), (11, .fn 145 [] [.cptr [.slice 1 (c.W.map aB), .int .u64 c.Seed, .int .i64 c.Epoch, .int .i64 c.Num, .int .i64 c.Den], .fptr (.fn 147 [] [.ptr 2 0])])] #[12] ur uv]) ho hf hx Z Z (by kernel_rfl) (by kernel_rfl) Z (qp.plain ?_) ?_ Z Z
 ·refine yS Z (za Z Z) ?_;exact zN ⟨rfl, rfl, rfl⟩
 ·refine qp.drawLast (m := 7) (by kernel_rfl) (by kernel_rfl) (by kernel_rfl) ?_;exact yE Z (zD Z Z Z aX Z Z)<|yE Z (zA Z Z gp)<|yE Z (zD Z Z Z eU Z Z)<|zH Z<|yE Z (zx Z Z Z fP h Z)<|yE Z (cT Z Z Z aX Z Z)<|yE Z (ax Z Z Z Z)<|LO.nil<|yS Z (zs Z Z Z Z aX Z Z Z Z)<|zN<|⟨rfl, rfl⟩
structure fp where
 t8 : Int
 o4_0 : Int
def jK (c : Cf) (m : List (Int × Bool)) (x1 : fp) : Option (fp ⊕ fp) :=
 bif decide (x1.t8 < (c.W.length : Int)) then
  (BR x1.t8 c m).bind fun v2 =>
  bif v2 then
   (ix c.W x1.t8).bind fun y1 =>
   some (.inl (fp.mk (IntKind.i64.wrap (x1.t8 + 1)) (IntKind.i64.wrap (x1.o4_0 + y1))))
  else
   some (.inl (fp.mk (IntKind.i64.wrap (x1.t8 + 1)) x1.o4_0))
 else
  some (.inr (fp.mk x1.t8 x1.o4_0))
def sh (c : Cf) (m : List (Int × Bool)) (n : Int) : Option Int :=
 (iter (jK c m) bH (fp.mk 0 n)).bind fun v1 =>
 some v1.o4_0
theorem Ev {c : Cf} {m : List (Int × Bool)} {n : Int} {r_ : Int} (hr : sh c m n = some r_) : LC Tryz.prog 145 [.yld 6, .cptr [.slice 1 (c.W.map aB), .int .u64 c.Seed, .int .i64 c.Epoch, .int .i64 c.Num, .int .i64 c.Den], .fptr (.fn 147 [] [.ptr 2 0])] [.box (bN c), .map (ah aB (fun v => (bQ v)) m), .box [.map 1], .box (bN c), .box [(iQ n)], .defd, .loop false 21 [(2, .ptr 3 0), (4, (iQ 0)), (5, .ptr 4 0), (11, .fn 145 [] [.cptr [.slice 1 (c.W.map aB), .int .u64 c.Seed, .int .i64 c.Epoch, .int .i64 c.Num, .int .i64 c.Den], .fptr (.fn 147 [] [.ptr 2 0])])] #[12] ur uv] (Is (.tup []) [.box (bN c), .map (ah aB (fun v => (bQ v)) m), .box [.map 1], .box (bN c), .box [(iQ r_)], .defd, .loop false 21 [(2, .ptr 3 0), (4, (iQ 0)), (5, .ptr 4 0), (11, .fn 145 [] [.cptr [.slice 1 (c.W.map aB), .int .u64 c.Seed, .int .i64 c.Epoch, .int .i64 c.Num, .int .i64 c.Den], .fptr (.fn 147 [] [.ptr 2 0])])] #[12] ur uv]) := by
 refine dt Tryz.func145 Z Z Z ?_;unfold sh at hr;refine zQ<|zR<|yS Z (ab.fieldAddrC Z Z gp Z)<|yS Z (cT Z Z Z eU Z Z)<|yS Z (cC Z Z (by kernel_rfl))<|zM Z<|zN<|zT ?_;obtain ⟨v1, hb_v1, ho_v1⟩ := zB hr;clear hr;refine LW.tail (E := []) (O := [.box (bN c), .map (ah aB (fun v => (bQ v)) m), .box [.map 1], .box (bN c), .box [(iQ v1.o4_0)], .defd, .loop false 21 [(2, .ptr 3 0), (4, (iQ 0)), (5, .ptr 4 0), (11, .fn 145 [] [.cptr [.slice 1 (c.W.map aB), .int .u64 c.Seed, .int .i64 c.Epoch, .int .i64 c.Num, .int .i64 c.Den], .fptr (.fn 147 [] [.ptr 2 0])])] #[12] ur uv]) ?_<|fun env_v1 H_v1 hw_v1 => ?_
 ·refine LW.block ?_;refine LW.iterB (E := fun x1 : fp => [(0, .yld 6), (2, .fptr (.fn 147 [] [.ptr 2 0])), (7, .p (.int .i64 (c.W.length : Int))), (8, (iQ x1.t8))]) (O := fun x1 => [.box (bN c), .map (ah aB (fun v => (bQ v)) m), .box [.map 1], .box (bN c), .box [(iQ x1.o4_0)], .defd, .loop false 21 [(2, .ptr 3 0), (4, (iQ 0)), (5, .ptr 4 0), (11, .fn 145 [] [.cptr [.slice 1 (c.W.map aB), .int .u64 c.Seed, .int .i64 c.Epoch, .int .i64 c.Num, .int .i64 c.Den], .fptr (.fn 147 [] [.ptr 2 0])])] #[12] ur uv]) hb_v1 (zW 7 ⟨rfl, rfl, rfl, rfl, trivial⟩ Z Z Z (zL Z (zL (ae (fun _ => rfl) _) (zL Z (zL Z (zL Z (zL Z (zL Z Z))))))))<|fun x1 z_x1 hr hb_x1 => ?_;unfold jK at hr;refine zQ<|zR<|yS Z (ax Z Z Z Z)<|zN<|zT<|zQ ?_;refine zX Z (fun g1 => ?_)<|fun g1 => ?_
  ·
   refine zi g1 hr fun hr => zk<|zT<|zQ<|zl<|zQ<|zR<|zM Z<|zM Z<|zN<|zT<|zQ<|LW.regionI<|aR.st Z Z Z (eS.of (ab.loadF Z Z q9) Z)<|aR.st Z Z Z (eS.of (zm Z Z) Z)<|zb hr fun v2 h_v2 hr => ?_;refine aR.st Z Z Z (eS.of (zC Z Z Z (by kernel_rfl) (LC.pre (Gk h_v2) Z (zL Z (zL (ae (fun _ => rfl) _) (zL Z Z))) Z)) Z) ?_;refine aR.st Z Z Z (eS.of (ab.move Z Z) Z) ?_;refine aR.cases 14 Z (fun (g2 : v2 = true) => ?_) (fun (g2 : v2 = false) => ?_)
   ·
    refine zi g2 hr fun hr => aR.gd Z Z Z (gd g2 Z) Z (eS.of (zm Z Z) Z)<|aR.gd Z Z Z (gd g2 Z) Z (eS.of (zm Z Z) Z)<|zb hr fun y1 h_y1 hr => aR.gd Z Z Z (gd g2 Z) Z (HB Z Z Z h_y1)<|aR.gd Z Z Z (gd g2 Z) Z (eS.of (ab.not Z Z) Z)<|aR.st Z Z Z (eS.of (ca Z (aN g2 Z) Z) Z)<|aR.nil<|zT<|LW.condF Z<|zk<|ai<|zT<|zR<|yS Z (ax Z Z Z Z)<|zM Z<|zN<|zT ?_;obtain rfl := zJ hr;exact ⟨_, rfl, zW 7 ⟨rfl, rfl, rfl, rfl, trivial⟩ Z Z Z (zL Z (zL (ae (fun _ => rfl) _) (zL Z (zL Z (zL Z (zL Z (zL Z Z)))))))⟩
   ·
    refine zo g2 hr fun hr => aR.sk Z Z Z (gd g2 Z) Z Z<|aR.sk Z Z Z (gd g2 Z) Z Z<|aR.sk Z Z Z (gd g2 Z) Z Z<|aR.sk Z Z Z (gd g2 Z) Z Z<|aR.st Z Z Z (eS.of (a8 Z (aN g2 Z) Z) Z)<|aR.nil<|zT<|LW.condF Z<|zk<|ai<|zT<|zR<|yS Z (ax Z Z Z Z)<|zM Z<|zN<|zT ?_;obtain rfl := zJ hr;exact ⟨_, rfl, zW 7 ⟨rfl, rfl, rfl, rfl, trivial⟩ Z Z Z (zL Z (zL (ae (fun _ => rfl) _) (zL Z (zL Z (zL Z (zL Z (zL Z Z)))))))⟩
  ·
   refine zo g1 hr fun hr => zq<|ao<|ao<|zy<|zT ?_;obtain rfl := zJ hr;have hr := congrArg some (hb_x1 _ rfl);obtain rfl := zJ hr;exact zW 7 trivial Z Z Z<|zL Z<|zL (ae (fun _ => rfl) _)<|zL Z<|zL Z<|zL Z<|zL Z<|zL Z Z
 ·have hr := ho_v1;clear hb_v1;obtain rfl := zJ hr;exact fq hw_v1 .none ⟨rfl, rfl⟩
def vL (c : Cf) (m : List (Int × Bool)) : Option Int :=
 (w5 c).bind fun v1 =>
 bif !v1 then
  some 0
 else
  (sh c m 0).bind fun v2 =>
  some v2
theorem Er {c : Cf} {m : List (Int × Bool)} {r_ : Int} (hr : vL c m = some r_) : LC Tryz.prog 146 [.p (kG c), .fn 145 [] [.cptr [.slice 1 (c.W.map aB), .int .u64 c.Seed, .int .i64 c.Epoch, .int .i64 c.Num, .int .i64 c.Den], .fptr (.fn 147 [] [.ptr 2 0])]] [.box (bN c), .map (ah aB (fun v => (bQ v)) m), .box [.map 1]] (Is (iQ r_) [.box (bN c), .map (ah aB (fun v => (bQ v)) m), .box [.map 1]]) := by
 refine LC.ofM Tryz.func146 Z Z Z ?_;unfold vL at hr;refine gD.seqW<|zR<|yS Z (bV Z Z Z Z Z)<|zM Z<|zN<|zT<|gD.seqW<|zR<|yS Z (ze Z I5 Z Z)<|yS Z (zs Z Z Z Z aX Z Z Z Z)<|zN<|zT<|gD.seqW<|zQ<|zR<|yS Z (zD Z Z Z b6 Z Z)<|zb hr fun v1 h_v1 hr => yS Z (zC Z Z Z (by kernel_rfl) (zp (En h_v1) (.cons zv .nil)))<|yS Z (ab.not Z Z)<|zN<|zT ?_;refine zX Z (fun g1 => ?_)<|fun g1 => ?_
 ·
  refine zi g1 hr fun hr => zQ<|zR<|yS Z (zD Z Z Z aX Z Z)<|zM Z<|zN<|zT<|zr<|af ?_;obtain rfl := zJ hr;refine aS (env' := [(4, (iQ 0))]) (H' := [.box (bN c), .map (ah aB (fun v => (bQ v)) m), .box [.map 1]]) (zW 3 ⟨rfl, trivial⟩ Z Z Z (zL Z (zL (ae (fun _ => rfl) _) (zL Z Z)))) (.one (.tmp Z)) ?_;exact ⟨rfl, rfl⟩
 ·
  refine zo g1 hr fun hr => zk<|zT<|gD.seq<|gD.seqW<|zR<|zM Z<|zN<|zT ?_;refine gD.weak (env' := [(2, .ptr 3 0), (4, (iQ 0)), (5, .ptr 4 0), (11, .fn 145 [] [.cptr [.slice 1 (c.W.map aB), .int .u64 c.Seed, .int .i64 c.Epoch, .int .i64 c.Num, .int .i64 c.Den], .fptr (.fn 147 [] [.ptr 2 0])])]) (H' := [.box (bN c), .map (ah aB (fun v => (bQ v)) m), .box [.map 1], .box (bN c), .box [(iQ 0)]]) (zW 5 ⟨rfl, rfl, rfl, rfl, trivial⟩ Z Z Z (zL Z (zL (ae (fun _ => rfl) _) (zL Z (zL Z (zL Z Z)))))) ?_;refine gD.block<|zb hr fun v2 h_v2 hr => gD.rangeFunc Z (by kernel_rfl) Z (Ev h_v2) Z Z Z ?_;refine ⟨rfl, ?_⟩;refine rK<|gD.seq<|gD.region<|jt.st Z Z Z (zD Z Z Z aX Z Z) Z<|jt.st Z Z Z (za Z Z) Z<|jt.nil<|rK<|gD.ret ?_;obtain rfl := zJ hr;exact ⟨.inr rfl, _, [(4, (iQ v2))], [.box (bN c), .map (ah aB (fun v => (bQ v)) m), .box [.map 1]], _, rfl, zW 3 ⟨rfl, trivial⟩ Z Z Z (zL Z (zL (ae (fun _ => rfl) _) (zL Z Z))), (.one (.tmp Z)), ⟨rfl, rfl⟩⟩
open Go.Proofs
def BQ (i : Int) (c : Cf) (slot : Int) (at_ : List Int) : Option Bool :=
 (ix at_ i).bind fun y1 =>
 bif decide (c.Epoch ≠ 0) then
  bif decide (c.Epoch ≠ 0) then
   some ((y1.tmod c.Epoch) == (slot.tmod c.Epoch))
  else none
 else none
theorem Gj {i : Int} {c : Cf} {slot : Int} {at_ : List Int} {r_ : Bool} (hr : BQ i c slot at_ = some r_) : LC Tryz.prog 106 [(iQ i), .ptr 2 0, .ptr 0 0, .ptr 1 0] [.box (bN c), .box [(iQ slot)], .box [(kI at_)]] (Is (bQ r_) [.box (bN c), .box [(iQ slot)], .box [(kI at_)]]) := by
 refine dt Tryz.func106 Z Z Z ?_;unfold BQ at hr;refine zQ<|zR<|zM Z<|zN<|zT<|zQ<|LW.draw2 (by kernel_rfl) (by kernel_rfl)<|yE Z (zD Z Z Z eU Z Z)<|zH Z<|zb hr fun y1 h_y1 hr => yE Z (zx Z Z Z fP h_y1 Z)<|yE Z (cT Z Z Z aX Z Z)<|yE Z (zA Z Z pk)<|yE Z (zD Z Z Z aX Z Z)<|zg hr fun q1 hr => yE Z (ab.rem Z Z Z (of_decide_eq_true q1))<|yE Z (zD Z Z Z aX Z Z)<|yE Z (zA Z Z pk)<|yE Z (zD Z Z Z aX Z Z)<|zg hr fun q2 hr => yE Z (ab.rem Z Z Z (of_decide_eq_true q2))<|yE Z (ax Z Z Z Z)<|zH Z<|LO.nil ?_;refine zT<|zr ?_;obtain rfl := zJ hr;exact ap (.one (.tmp Z))<|⟨rfl, rfl⟩
theorem HC {c : Cf} {slot : Int} {at_ : List Int} {l : List Int} {i : Int} {o : Oper} {env : av} {fo xo : Operand} {ats : Array TypeId} (ho : o.op = .call { callee := .value fo, args := #[xo], argTypes := ats }) (hf : aG env fo = some (.yld 6)) (hx : aG env xo = some (iQ i)) (q : b9 l.length [i].length 8 = true) :
  eS Tryz.prog o env [.box (bN c), .box [(iQ slot)], .box [(kI at_)], .box [(jI 4 l)], .vec 1 (l.map aB), .defd, .loop false 13 [(2, .ptr 3 0), (4, .zs), (6, .fn 145 [] [.cptr [.slice 1 (c.W.map aB), .int .u64 c.Seed, .int .i64 c.Epoch, .int .i64 c.Num, .int .i64 c.Den], .fptr (.fn 106 [] [.ptr 2 0, .ptr 0 0, .ptr 1 0])])] #[7] ut uw] (Is (bQ true) [.box (bN c), .box [(iQ slot)], .box [(kI at_)], .box [.vec 1 4 ((l ++ [i]).map aB).length 0 ((l ++ [i]).map aB).length], .vec 1 ((l ++ [i]).map aB), .defd, .loop false 13 [(2, .ptr 3 0), (4, .zs), (6, .fn 145 [] [.cptr [.slice 1 (c.W.map aB), .int .u64 c.Seed, .int .i64 c.Epoch, .int .i64 c.Num, .int .i64 c.Den], .fptr (.fn 106 [] [.ptr 2 0, .ptr 0 0, .ptr 1 0])])] #[7] ut uw]) := by
 refine eS.yield (env2 := (5, (iQ i)) :: (7, (iQ i)) :: [(2, .ptr 3 0), (4, .zs), (6, .fn 145 [] [.cptr [.slice 1 (c.W.map aB), .int .u64 c.Seed, .int .i64 c.Epoch, .int .i64 c.Num, .int .i64 c.Den], .fptr (.fn 106 [] [.ptr 2 0, .ptr 0 0, .ptr 1 0])])]) (H2 := [.box (bN c), .box [(iQ slot)], .box [(kI at_)], .box [.vec 1 4 ((l ++ [i]).map aB).length 0 ((l ++ [i]).map aB).length], .vec 1 ((l ++ [i]).map aB), .defd, .loop true 13 [(2, .ptr 3 0), (4, .zs), (6, .fn 145 [] [.cptr [.slice 1 (c.W.map aB), .int .u64 c.Seed, .int .i64 c.Epoch, .int .i64 c.Num, .int .i64 c.Den], .fptr (.fn 106 [] [.ptr 2 0, .ptr 0 0, .ptr 1 0])])] #[7] ut uw]) ho hf hx Z Z (by kernel_rfl) (by kernel_rfl) Z (qp.plain ?_) (qp.plain ?_) Z Z
 ·refine yS Z (za Z Z) ?_;exact zN ⟨rfl, rfl, rfl⟩
 ·refine yS Z (zD Z Z Z eU Z Z) ?_;exact zM Z<|yS Z (mA Z fP Z Z Z Z Z)<|yS Z (ab.appendX aB l [i] rfl Z Z Z kE.p Z fP q Z)<|yS Z (zs Z Z Z Z eU Z Z Z Z)<|zN<|⟨rfl, rfl⟩
structure c8 where
 t8 : Int
 o4 : List Int
def jJ (c : Cf) (slot : Int) (at_ : List Int) (x1 : c8) : Option (c8 ⊕ c8) :=
 bif decide (x1.t8 < (c.W.length : Int)) then
  (BQ x1.t8 c slot at_).bind fun v2 =>
  bif v2 then
   bif b9 x1.o4.length [x1.t8].length 8 then
    some (.inl (c8.mk (IntKind.i64.wrap (x1.t8 + 1)) (x1.o4 ++ [x1.t8])))
   else none
  else
   some (.inl (c8.mk (IntKind.i64.wrap (x1.t8 + 1)) x1.o4))
 else
  some (.inr (c8.mk x1.t8 x1.o4))
def vR (c : Cf) (slot : Int) (at_ : List Int) (l : List Int) : Option (List Int) :=
 (iter (jJ c slot at_) bH (c8.mk 0 l)).bind fun v1 =>
 some v1.o4
theorem Eu {c : Cf} {slot : Int} {at_ : List Int} {l : List Int} {r_ : List Int} (hr : vR c slot at_ l = some r_) : LC Tryz.prog 145 [.yld 6, .cptr [.slice 1 (c.W.map aB), .int .u64 c.Seed, .int .i64 c.Epoch, .int .i64 c.Num, .int .i64 c.Den], .fptr (.fn 106 [] [.ptr 2 0, .ptr 0 0, .ptr 1 0])] [.box (bN c), .box [(iQ slot)], .box [(kI at_)], .box [(jI 4 l)], .vec 1 (l.map aB), .defd, .loop false 13 [(2, .ptr 3 0), (4, .zs), (6, .fn 145 [] [.cptr [.slice 1 (c.W.map aB), .int .u64 c.Seed, .int .i64 c.Epoch, .int .i64 c.Num, .int .i64 c.Den], .fptr (.fn 106 [] [.ptr 2 0, .ptr 0 0, .ptr 1 0])])] #[7] ut uw] (Is (.tup []) [.box (bN c), .box [(iQ slot)], .box [(kI at_)], .box [(jI 4 r_)], .vec 1 (r_.map aB), .defd, .loop false 13 [(2, .ptr 3 0), (4, .zs), (6, .fn 145 [] [.cptr [.slice 1 (c.W.map aB), .int .u64 c.Seed, .int .i64 c.Epoch, .int .i64 c.Num, .int .i64 c.Den], .fptr (.fn 106 [] [.ptr 2 0, .ptr 0 0, .ptr 1 0])])] #[7] ut uw]) := by
 refine dt Tryz.func145 Z Z Z ?_;unfold vR at hr;refine zQ<|zR<|yS Z (ab.fieldAddrC Z Z gp Z)<|yS Z (cT Z Z Z eU Z Z)<|yS Z (cC Z Z (by kernel_rfl))<|zM Z<|zN<|zT ?_;obtain ⟨v1, hb_v1, ho_v1⟩ := zB hr;clear hr;refine LW.tail (E := []) (O := [.box (bN c), .box [(iQ slot)], .box [(kI at_)], .box [(jI 4 v1.o4)], .vec 1 (v1.o4.map aB), .defd, .loop false 13 [(2, .ptr 3 0), (4, .zs), (6, .fn 145 [] [.cptr [.slice 1 (c.W.map aB), .int .u64 c.Seed, .int .i64 c.Epoch, .int .i64 c.Num, .int .i64 c.Den], .fptr (.fn 106 [] [.ptr 2 0, .ptr 0 0, .ptr 1 0])])] #[7] ut uw]) ?_<|fun env_v1 H_v1 hw_v1 => ?_
 ·refine LW.block ?_;refine LW.iterB (E := fun x1 : c8 => [(0, .yld 6), (2, .fptr (.fn 106 [] [.ptr 2 0, .ptr 0 0, .ptr 1 0])), (7, .p (.int .i64 (c.W.length : Int))), (8, (iQ x1.t8))]) (O := fun x1 => [.box (bN c), .box [(iQ slot)], .box [(kI at_)], .box [(jI 4 x1.o4)], .vec 1 (x1.o4.map aB), .defd, .loop false 13 [(2, .ptr 3 0), (4, .zs), (6, .fn 145 [] [.cptr [.slice 1 (c.W.map aB), .int .u64 c.Seed, .int .i64 c.Epoch, .int .i64 c.Num, .int .i64 c.Den], .fptr (.fn 106 [] [.ptr 2 0, .ptr 0 0, .ptr 1 0])])] #[7] ut uw]) hb_v1 (zW 7 ⟨rfl, rfl, rfl, rfl, trivial⟩ Z Z Z Z)<|fun x1 z_x1 hr hb_x1 => ?_;unfold jJ at hr;refine zQ<|zR<|yS Z (ax Z Z Z Z)<|zN<|zT<|zQ ?_;refine zX Z (fun g1 => ?_)<|fun g1 => ?_
  ·
   refine zi g1 hr fun hr => zk<|zT<|zQ<|zl<|zQ<|zR<|zM Z<|zM Z<|zN<|zT<|zQ<|LW.regionI<|aR.st Z Z Z (eS.of (ab.loadF Z Z q9) Z)<|aR.st Z Z Z (eS.of (zm Z Z) Z)<|zb hr fun v2 h_v2 hr => aR.st Z Z Z (eS.of (zC Z Z Z (by kernel_rfl) (LC.pre (Gj h_v2) Z Z Z)) Z)<|aR.st Z Z Z (eS.of (zm Z Z) Z) ?_;refine aR.cases 14 Z (fun (g2 : v2 = true) => ?_) (fun (g2 : v2 = false) => ?_)
   ·
    refine zi g2 hr fun hr => aR.gd Z Z Z (gd g2 Z) Z (eS.of (zm Z Z) Z)<|aR.gd Z Z Z (gd g2 Z) Z (eS.of (zm Z Z) Z)<|zg hr fun q1 hr => aR.gd Z Z Z (gd g2 Z) Z (HC Z Z Z q1)<|aR.gd Z Z Z (gd g2 Z) Z (eS.of (ab.not Z Z) Z)<|aR.st Z Z Z (eS.of (ca Z (aN g2 Z) Z) Z)<|aR.nil<|zT<|LW.condF Z<|zk<|ai<|zT<|zR<|yS Z (ax Z Z Z Z)<|zM Z<|zN<|zT ?_;obtain rfl := zJ hr;exact ⟨_, rfl, zW 7 ⟨rfl, rfl, rfl, rfl, trivial⟩ Z Z Z rfl⟩
   ·
    refine zo g2 hr fun hr => aR.sk Z Z Z (gd g2 Z) Z Z<|aR.sk Z Z Z (gd g2 Z) Z Z<|aR.sk Z Z Z (gd g2 Z) Z Z<|aR.sk Z Z Z (gd g2 Z) Z Z<|aR.st Z Z Z (eS.of (a8 Z (aN g2 Z) Z) Z)<|aR.nil<|zT<|LW.condF Z<|zk<|ai<|zT<|zR<|yS Z (ax Z Z Z Z)<|zM Z<|zN<|zT ?_;obtain rfl := zJ hr;exact ⟨_, rfl, zW 7 ⟨rfl, rfl, rfl, rfl, trivial⟩ Z Z Z rfl⟩
  ·
   refine zo g1 hr fun hr => zq<|ao<|ao<|zy<|zT ?_;obtain rfl := zJ hr;have hr := congrArg some (hb_x1 _ rfl);obtain rfl := zJ hr;exact zW 7 trivial Z Z Z Z
 ·have hr := ho_v1;clear hb_v1;obtain rfl := zJ hr;exact fq hw_v1 .none ⟨rfl, rfl⟩
def vQ (c : Cf) (slot : Int) (at_ : List Int) : Option (List Int) :=
 (vR c slot at_ []).bind fun v1 =>
 some v1
theorem Et {c : Cf} {slot : Int} {at_ : List Int} {r_ : List Int} (hr : vQ c slot at_ = some r_) : LC Tryz.prog 144 [.zs, .fn 145 [] [.cptr [.slice 1 (c.W.map aB), .int .u64 c.Seed, .int .i64 c.Epoch, .int .i64 c.Num, .int .i64 c.Den], .fptr (.fn 106 [] [.ptr 2 0, .ptr 0 0, .ptr 1 0])]] [.box (bN c), .box [(iQ slot)], .box [(kI at_)]] (Is (jI 4 r_) [.box (bN c), .box [(iQ slot)], .box [(kI at_)], .box [(jI 4 r_)], .vec 1 (r_.map aB), .dead, .dead]) := by
 refine LC.ofM Tryz.func144 Z Z Z ?_;unfold vQ at hr;refine gD.seqW<|zR<|yS Z (bV Z Z Z Z Z)<|zM Z<|zN<|zT<|gD.seq<|gD.seqW<|zR<|zM Z<|zN<|zT<|gD.ent (bJ.lazyCell (i := 3) (j := 0) (m := 1) Z Z Z Z Z Z)<|gD.weak (env' := [(2, .ptr 3 0), (4, .zs), (6, .fn 145 [] [.cptr [.slice 1 (c.W.map aB), .int .u64 c.Seed, .int .i64 c.Epoch, .int .i64 c.Num, .int .i64 c.Den], .fptr (.fn 106 [] [.ptr 2 0, .ptr 0 0, .ptr 1 0])])]) (H' := [.box (bN c), .box [(iQ slot)], .box [(kI at_)], .box [(jI 4 ([] : List Int))], .vec 1 (([] : List Int).map aB)]) (zW 5 ⟨rfl, rfl, rfl, trivial⟩ Z Z Z Z)<|gD.block<|zb hr fun v1 h_v1 hr => gD.rangeFunc Z (by kernel_rfl) Z (Eu h_v1) Z Z Z ?_;refine ⟨rfl, ?_⟩;refine rK<|gD.seq<|gD.region<|jt.st Z Z Z (zD Z Z Z eU Z Z) Z<|jt.st Z Z Z (za Z Z) Z<|jt.nil<|rK<|gD.ret ?_;obtain rfl := zJ hr;exact ⟨.inr rfl, _, [(4, (jI 4 v1))], [.box (bN c), .box [(iQ slot)], .box [(kI at_)], .box [(jI 4 v1)], .vec 1 (v1.map aB), .dead, .dead], _, rfl, zW 7 ⟨rfl, trivial⟩ Z Z Z rfl, (.one (.tmp Z)), ⟨rfl, rfl⟩⟩
def se (c : Cf) (slot : Int) (at_ : List Int) : Option (List Int) :=
 (vQ c slot at_).bind fun v1 =>
 some v1
theorem Ep {c : Cf} {slot : Int} {at_ : List Int} {r_ : List Int} (hr : se c slot at_ = some r_) : LC Tryz.prog 104 [.fn 145 [] [.cptr [.slice 1 (c.W.map aB), .int .u64 c.Seed, .int .i64 c.Epoch, .int .i64 c.Num, .int .i64 c.Den], .fptr (.fn 106 [] [.ptr 2 0, .ptr 0 0, .ptr 1 0])]] [.box (bN c), .box [(iQ slot)], .box [(kI at_)]] (Is (jI 4 r_) [.box (bN c), .box [(iQ slot)], .box [(kI at_)], .box [(jI 4 r_)], .vec 1 (r_.map aB), .dead, .dead]) := by
 refine dt Tryz.func104 Z Z Z ?_;unfold se at hr;refine zQ<|zR<|zM Z<|zN<|zT<|zQ<|zR<|zM Z<|zb hr fun v1 h_v1 hr => yS Z (zC Z Z Z (by kernel_rfl) (Et h_v1))<|zM Z<|zN<|zT<|zr ?_;obtain rfl := zJ hr;exact ap (.one (.tmp Z))<|⟨rfl, rfl⟩
open Go.Proofs
open Go.Proofs
open Go.Proofs
structure eW where
 t11 : Int
 o1 : List (Int × Bool)
def mG (l : List Int) (x1 : eW) : Option (eW ⊕ eW) :=
 bif decide (x1.t11 < (l.length : Int)) then
  (ix l x1.t11).bind fun y1 =>
  some (.inl (eW.mk (IntKind.i64.wrap (x1.t11 + 1)) (aW x1.o1 y1 true)))
 else
  some (.inr (eW.mk x1.t11 x1.o1))
def E5 (c : Cf) (l : List Int) : Option Int :=
 (iter (mG l) bH (eW.mk 0 ([] : List (Int × Bool)))).bind fun v1 =>
 (vL c v1.o1).bind fun v2 =>
 some v2
theorem IV {c : Cf} {l : List Int} {r_ : Int} (hr : E5 c l = some r_) : aw Tryz.prog 109 [kG c, .slice 1 (l.map aB)] [.int .i64 r_] := by
 refine zh Tryz.func109 Z Z Z Z ?_;unfold E5 at hr;refine zQ<|zR<|yS Z (bV Z Z Z Z Z)<|zM Z<|zN<|zT<|zQ<|zR<|yS Z (ab.makeMap Z Z Z)<|yS Z (ze Z HF Z Z)<|yS Z (zs Z Z Z Z Bx Z Z Z Z)<|zN<|zT<|zQ<|zQ<|zR<|zM Z<|yS Z (cC Z Z (by kernel_rfl))<|zM Z<|zN<|zT ?_;obtain ⟨v1, hb_v1, ho_v1⟩ := zB hr;clear hr;refine LW.tail (E := [(2, .ptr 0 0), (4, (iQ 0)), (5, .ptr 2 0)]) (O := [.box (bN c), .map (ah aB (fun v => (bQ v)) v1.o1), .box [.map 1]]) ?_<|fun env_v1 H_v1 hw_v1 => ?_
 ·refine LW.block ?_;refine LW.iterB (E := fun x1 : eW => [(2, .ptr 0 0), (4, (iQ 0)), (5, .ptr 2 0), (9, (kI l)), (10, .p (.int .i64 (l.length : Int))), (11, (iQ x1.t11))]) (O := fun x1 => [.box (bN c), .map (ah aB (fun v => (bQ v)) x1.o1), .box [.map 1]]) hb_v1 (zW 3 ⟨rfl, rfl, rfl, rfl, rfl, rfl, trivial⟩ Z Z Z (zL Z (zL (ae (fun _ => rfl) _) (zL Z Z))))<|fun x1 z_x1 hr hb_x1 => ?_;unfold mG at hr;refine zQ<|zR<|yS Z (ax Z Z Z Z)<|zN<|zT<|zQ ?_;refine zX Z (fun g1 => ?_)<|fun g1 => ?_
  ·
   refine zi g1 hr fun hr => zk<|zT<|zQ<|zl<|zQ<|zR<|zb hr fun y1 h_y1 hr => yS Z (zx Z Z Z fP h_y1 Z)<|yS Z (cT Z Z Z aX Z Z)<|zM Z<|zN<|zT<|zR<|yS Z (zD Z Z Z Bx Z Z)<|zM Z ?_;refine yS Z (ab.setX (f := aB) (g := (fun v => (bQ v))) y1 true AN (.inl Z) Z Z Z Z Z DC Z) ?_;refine zN<|ai<|zT<|zR<|yS Z (ax Z Z Z Z)<|zM Z<|zN<|zT ?_;obtain rfl := zJ hr;exact ⟨_, rfl, zW 3 ⟨rfl, rfl, rfl, rfl, rfl, rfl, trivial⟩ Z Z Z (zL Z (zL (ae (fun _ => rfl) _) (zL Z Z)))⟩
  ·
   refine zo g1 hr fun hr => zq<|ao<|ao<|zy<|zT ?_;obtain rfl := zJ hr;have hr := congrArg some (hb_x1 _ rfl);obtain rfl := zJ hr;exact zW 3 ⟨Z, Z, Z, trivial⟩ Z Z Z<|zL Z<|zL (ae (fun _ => rfl) _)<|zL Z Z
 ·have hr := ho_v1;clear hb_v1;refine zT<|LW.weak hw_v1<|zQ<|LW.draw2 (by kernel_rfl) (by kernel_rfl)<|yE Z (zD Z Z Z b6 Z Z)<|yE Z (zD Z Z Z b6 Z Z)<|yE Z (ab.makeFunc Z Z Z)<|yE Z (zC Z Z Z (by kernel_rfl) (FL (c := c)))<|zb hr fun v2 h_v2 hr => yE Z (zC Z Z Z (by kernel_rfl) (Er h_v2))<|zH Z<|LO.nil<|zT<|zr ?_;obtain rfl := zJ hr;exact zf (.one (.tmp Z)) zv
def DZ (c : Cf) (slot : Int) : Option (List Int) :=
 (wR c slot).bind fun v1 =>
 bif !v1 then
  some []
 else
  bif decide (c.Epoch ≠ 0) then
   (Fk (step c.Seed (IntKind.u64.wrap (IntKind.i64.wrap (slot.tdiv c.Epoch)))) (c.W.length : Int)).bind fun v2 =>
   (se c slot v2).bind fun v3 =>
   some v3
  else none
theorem IB {c : Cf} {slot : Int} {r_ : (List Int)} (hr : DZ c slot = some r_) : aw Tryz.prog 57 [kG c, .int .i64 slot] [.slice 1 (r_.map aB)] := by
 refine zh Tryz.func57 Z Z Z Z ?_;unfold DZ at hr;refine zQ<|zR<|yS Z (bV Z Z Z Z Z)<|yS Z (bV Z Z Z Z Z)<|zM Z<|zN<|zT<|zQ<|zQ<|zR<|yS Z (zD Z Z Z b6 Z Z)<|yS Z (zD Z Z Z aX Z Z)<|zb hr fun v1 h_v1 hr => yS Z (zC Z Z Z (by kernel_rfl) (zp (FI h_v1) (.cons zv (.cons zv .nil))))<|yS Z (ab.not Z Z)<|zN<|zT ?_;refine zX Z (fun g1 => ?_)<|fun g1 => ?_
 ·
  refine zi g1 hr fun hr => zQ<|zR<|zM Z<|zN<|zT<|zr<|af ?_;obtain rfl := zJ hr;exact zf (.one (.tmp Z)) Conv.zs
 ·
  refine zo g1 hr fun hr => zk<|zT<|zQ<|LW.ent (bJ.slot Z)<|LW.drawW (by kernel_rfl) (by kernel_rfl) ?_;refine yF (F := []) (s := none) Z (fun H _ => zA Z Z AJ) Z ?_;refine yF Z (zd Z Z Z mz Z Z) Z<|yF Z (zd Z Z Z aX Z Z) Z ?_;refine yF (F := []) (s := none) Z (fun H _ => zA Z Z pk) Z ?_;refine yF Z (zd Z Z Z aX Z Z) Z<|zg hr fun q1 hr => ?_;refine yF (F := []) (s := none) Z (fun H _ => ab.quo Z Z Z (of_decide_eq_true q1)) Z ?_;refine yF (F := []) (s := none) Z (fun H _ => ab.convert (k' := .u64) Z Z (by kernel_rfl)) Z ?_;refine yF (F := []) (s := none) Z (fun H _ => zC Z Z Z (by kernel_rfl) (zp (sS (h := c.Seed) (x := (IntKind.u64.wrap (IntKind.i64.wrap (slot.tdiv c.Epoch))))) (.cons zv (.cons zv .nil)))) Z ?_;refine yF (F := []) (s := none) Z (fun H _ => zA Z Z gp) Z ?_;refine yF Z (zd Z Z Z eU Z Z) Z ?_;refine yF (F := []) (s := none) Z (fun H _ => cC Z Z (by kernel_rfl)) Z ?_;obtain ⟨v2, h_v2, hr⟩ := zB hr;refine yF (F := []) (s := none) Z (fun H _ => zC Z Z Z (by kernel_rfl) (zp (I9 h_v2) (.cons zv (.cons zv .nil)))) Z ?_;refine yF Z (bE.alloc Z IR (id := 2) Z) Z<|yF Z (zt Z Z Z Z eU Z Z Z) Z ?_;refine LF.nil ⟨by kernel_rfl, ?_⟩;refine zT<|zQ<|zR<|yS Z (zD Z Z Z b6 Z Z)<|yS Z (ab.makeFunc Z Z Z)<|yS Z (zC Z Z Z (by kernel_rfl) (FL (c := c)))<|zb hr fun v3 h_v3 hr => yS Z (zC Z Z Z (by kernel_rfl) (Ep h_v3))<|zM Z<|zN<|zT<|zr ?_;obtain rfl := zJ hr;exact zf (.one (.tmp Z))<|(Conv.vecAll Z Z Z)
def Cg (c : Cf) (slot : Int) : Option Int :=
 (wR c slot).bind fun v1 =>
 bif !v1 then
  some (-1)
 else
  bif decide ((IntKind.u64.wrap ((c.W.length : Int))) ≠ 0) then
   some (IntKind.i64.wrap ((step (step c.Seed 4294967296) (IntKind.u64.wrap (slot))).tmod (IntKind.u64.wrap ((c.W.length : Int)))))
  else none
theorem HP {c : Cf} {slot : Int} {r_ : Int} (hr : Cg c slot = some r_) : aw Tryz.prog 34 [kG c, .int .i64 slot] [.int .i64 r_] := by
 refine zh Tryz.func34 Z Z Z Z ?_;unfold Cg at hr;refine zQ<|zR<|yS Z (bV Z Z Z Z Z)<|zM Z<|zN<|zT<|zQ<|zQ<|zR<|yS Z (zD Z Z Z b6 Z Z)<|zM Z<|zb hr fun v1 h_v1 hr => yS Z (zC Z Z Z (by kernel_rfl) (zp (FI h_v1) (.cons zv (.cons zv .nil))))<|yS Z (ab.not Z Z)<|zN<|zT ?_;refine zX Z (fun g1 => ?_)<|fun g1 => ?_
 ·
  refine zi g1 hr fun hr => zQ<|zR<|zM Z<|zN<|zT<|zr<|af ?_;obtain rfl := zJ hr;exact zf (.one (.tmp Z)) zv
 ·
  refine zo g1 hr fun hr => zk<|zT<|zQ<|LW.draw2 (by kernel_rfl) (by kernel_rfl)<|yE Z (zA Z Z AJ)<|yE Z (zD Z Z Z mz Z Z)<|yE Z (zC Z Z Z (by kernel_rfl) (zp (sS (h := c.Seed) (x := 4294967296)) (.cons zv (.cons zv .nil))))<|zH Z<|yE Z (ab.convert (k' := .u64) Z Z (by kernel_rfl))<|yE Z (zC Z Z Z (by kernel_rfl) (zp (sS (h := (step c.Seed 4294967296)) (x := (IntKind.u64.wrap (slot)))) (.cons zv (.cons zv .nil))))<|yE Z (zA Z Z gp)<|yE Z (zD Z Z Z eU Z Z)<|yE Z (cC Z Z (by kernel_rfl))<|yE Z (ab.convert (k' := .u64) Z Z (by kernel_rfl))<|zg hr fun q1 hr => yE Z (ab.rem Z Z Z (of_decide_eq_true q1))<|yE Z (ab.convert (k' := .i64) Z Z (by kernel_rfl))<|zH Z<|LO.nil<|zT<|zr ?_;obtain rfl := zJ hr;exact zf (.one (.tmp Z)) zv
def E6 (c : Cf) (slot : Int) (who : Int) : Option Bool :=
 (DZ c slot).bind fun v1 =>
 (sf v1 who).bind fun v2 =>
 some v2
theorem IW {c : Cf} {slot : Int} {who : Int} {r_ : Bool} (hr : E6 c slot who = some r_) : aw Tryz.prog 22 [kG c, .int .i64 slot, .int .i64 who] [.bool r_] := by
 refine zh Tryz.func22 Z Z Z Z ?_;unfold E6 at hr;refine zQ<|zR<|yS Z (bV Z Z Z Z Z)<|zM Z<|zN<|zT<|zQ<|zR<|yS Z (zD Z Z Z b6 Z Z)<|zM Z<|zb hr fun v1 h_v1 hr => yS Z (zC Z Z Z (by kernel_rfl) (zp (IB h_v1) (.cons zv (.cons zv .nil))))<|zM Z<|zb hr fun v2 h_v2 hr => yS Z (zC Z Z Z (by kernel_rfl) (zp (Cw h_v2) (.cons zv (.cons zv .nil))))<|zM Z<|zN<|zT<|zr ?_;obtain rfl := zJ hr;exact zf (.one (.tmp Z)) zv
open Go.Proofs
def w2 (x : Int) : Option Bool :=
 some (x != x)
theorem FX {x : Int} {r_ : Bool} (hr : w2 x = some r_) : aw Tryz.prog 174 [.int .u64 x] [.bool r_] := by
 refine zh Tryz.func174 Z Z Z Z ?_;unfold w2 at hr;refine zQ<|zR<|zM Z<|zN<|zT<|zQ<|zR<|zM Z<|zM Z<|yS Z (ax Z Z Z Z)<|zM Z<|zN<|zT<|zr ?_;obtain rfl := zJ hr;exact zf (.one (.tmp Z)) zv
def yI (x : Int) (y : Int) : Option Int :=
 (w2 x).bind fun v1 =>
 (w2 y).bind fun v2 =>
 bif v1 then
  bif v2 then
   some 0
  else
   some (-1)
 else
  bif v2 then
   some 1
  else
   bif decide (x < y) then
    some (-1)
   else
    bif decide (x > y) then
     some 1
    else
     some 0
theorem Ip {x : Int} {y : Int} {r_ : Int} (hr : yI x y = some r_) : aw Tryz.prog 159 [.int .u64 x, .int .u64 y] [.int .i64 r_] := by
 refine zh Tryz.func159 Z Z Z Z ?_;unfold yI at hr;refine zQ<|zR<|zM Z<|zN<|zT<|zQ<|zR<|zM Z<|zb hr fun v1 h_v1 hr => yS Z (zC Z Z Z (by kernel_rfl) (zp (FX h_v1) (.cons zv .nil)))<|zM Z<|zN<|zT<|zQ<|zR<|zM Z<|zb hr fun v2 h_v2 hr => yS Z (zC Z Z Z (by kernel_rfl) (zp (FX h_v2) (.cons zv .nil)))<|zM Z<|zN<|zT<|zQ<|zQ<|zR ?_;refine zM Z<|zN<|zT ?_;refine zX Z (fun g1 => ?_)<|fun g1 => ?_
 ·
  refine zi g1 hr fun hr => zQ<|zQ<|zR<|zM Z<|zN<|zT ?_;refine zX Z (fun g2 => ?_)<|fun g2 => ?_
  ·
   refine zi g2 hr fun hr => zQ<|zR<|zM Z<|zN<|zT<|zr<|af<|af ?_;obtain rfl := zJ hr;exact zf (.one (.tmp Z)) zv
  ·
   refine zo g2 hr fun hr => zk<|zT<|zQ<|zR<|zM Z<|zN<|zT<|zr<|af ?_;obtain rfl := zJ hr;exact zf (.one (.tmp Z)) zv
 ·
  refine zo g1 hr fun hr => zk<|zT<|zQ<|zQ<|zR<|zM Z<|zN<|zT ?_;refine zX Z (fun g3 => ?_)<|fun g3 => ?_
  ·
   refine zi g3 hr fun hr => zQ<|zR<|zM Z<|zN<|zT<|zr<|af ?_;obtain rfl := zJ hr;exact zf (.one (.tmp Z)) zv
  ·
   refine zo g3 hr fun hr => zk<|zT<|zQ<|zQ<|zR<|zM Z<|zM Z<|yS Z (ax Z Z Z Z)<|zN<|zT ?_;refine zX Z (fun g4 => ?_)<|fun g4 => ?_
   ·
    refine zi g4 hr fun hr => zQ<|zR<|zM Z<|zN<|zT<|zr<|af ?_;obtain rfl := zJ hr;exact zf (.one (.tmp Z)) zv
   ·
    refine zo g4 hr fun hr => zk<|zT<|zQ<|zQ<|zR<|zM Z<|zM Z<|yS Z (ax Z Z Z Z)<|zN<|zT ?_;refine zX Z (fun g5 => ?_)<|fun g5 => ?_
    ·
     refine zi g5 hr fun hr => zQ<|zR<|zM Z<|zN<|zT<|zr<|af ?_;obtain rfl := zJ hr;exact zf (.one (.tmp Z)) zv
    ·
     refine zo g5 hr fun hr => zk<|zT<|zQ<|zR<|zM Z<|zN<|zT<|zr ?_;obtain rfl := zJ hr;exact zf (.one (.tmp Z)) zv
structure dD where
 t11 : Int
def gK (s1 : List Int) (s2 : List Int) (x1 : dD) : Option (dD ⊕ (dD ⊕ Int)) :=
 bif decide (x1.t11 < (s1.length : Int)) then
  (ix s1 x1.t11).bind fun y1 =>
  bif decide (x1.t11 ≥ (s2.length : Int)) then
   some (.inr (.inr 1))
  else
   (ix s2 x1.t11).bind fun y2 =>
   (yI y1 y2).bind fun v2 =>
   bif v2 != 0 then
    some (.inr (.inr v2))
   else
    some (.inl (dD.mk (IntKind.i64.wrap (x1.t11 + 1))))
 else
  some (.inr (.inl (dD.mk x1.t11)))
def wX (s1 : List Int) (s2 : List Int) : Option Int :=
 (iter (gK s1 s2) bH (dD.mk 0)).bind fun b_v1 => Sum.elim (fun _ =>
  bif decide ((s1.length : Int) < (s2.length : Int)) then
   some (-1)
  else
   some 0) some b_v1
theorem FR {s1 : List Int} {s2 : List Int} {r_ : Int} (hr : wX s1 s2 = some r_) : aw Tryz.prog 117 [.slice 1 (s1.map kb), .slice 1 (s2.map kb)] [.int .i64 r_] := by
 refine zh Tryz.func117 Z Z Z Z ?_;unfold wX at hr;refine zQ<|zR<|zM Z<|zN<|zT<|zQ<|zQ<|zR<|zM Z<|yS Z (cC Z Z (by kernel_rfl))<|zM Z<|zN<|zT ?_;obtain ⟨b_v1, hb_v1, ho_v1⟩ := zB hr;clear hr;refine LW.tailB (b := b_v1) (E := fun v1 => [(0, .p (.slice 1 (s1.map kb))), (1, .p (.slice 1 (s2.map kb))), (4, (iQ 0))]) (O := fun v1 => []) ?_<|fun v1 e_v1 env_v1 H_v1 hw_v1 => ?_
 ·refine LW.block ?_;refine LW.iterB (E := fun x1 : dD => [(0, .p (.slice 1 (s1.map kb))), (1, .p (.slice 1 (s2.map kb))), (4, (iQ 0)), (9, .p (.slice 1 (s1.map kb))), (10, .p (.int .i64 (s1.length : Int))), (11, (iQ x1.t11))]) (O := fun x1 => []) hb_v1 (zW 0 ⟨rfl, rfl, rfl, rfl, rfl, rfl, trivial⟩ Z Z Z Z)<|fun x1 z_x1 hr hb_x1 => ?_;unfold gK at hr;refine zQ<|zR<|yS Z (ax Z Z Z Z)<|zN<|zT<|zQ ?_;refine zX Z (fun g1 => ?_)<|fun g1 => ?_
  ·
   refine zi g1 hr fun hr => zk<|zT<|zQ<|zl<|zQ<|zR<|zM Z<|zb hr fun y1 h_y1 hr => yS Z (zx Z Z Z CY h_y1 Z)<|yS Z (cT Z Z Z mz Z Z)<|zM Z<|zM Z<|zN<|zT<|zQ<|zQ<|zR<|zM Z<|zM Z<|yS Z (cC Z Z (by kernel_rfl))<|yS Z (ax Z Z Z Z)<|zN<|zT ?_;refine zX Z (fun g2 => ?_)<|fun g2 => ?_
   ·
    refine zi g2 hr fun hr => zQ<|zR<|zM Z<|zN<|zT<|zr<|af<|aq<|af<|af<|aq<|af<|af ?_;obtain rfl := zJ hr;have hr := congrArg some (hb_x1 _ rfl);obtain rfl := zJ hr;have hr := ck ho_v1;obtain rfl := zJ hr;exact zf (.one (.tmp Z)) zv
   ·
    refine zo g2 hr fun hr => zk<|zT<|zQ<|zR<|zM Z<|zM Z<|zb hr fun y2 h_y2 hr => yS Z (zx Z Z Z CY h_y2 Z)<|yS Z (cT Z Z Z mz Z Z)<|zM Z<|zN<|zT<|zQ<|zR<|zM Z<|zM Z<|zb hr fun v2 h_v2 hr => yS Z (zC Z Z Z (by kernel_rfl) (zp (Ip h_v2) (.cons zv (.cons zv .nil))))<|zM Z<|zN<|zT<|zQ<|zR ?_;refine zM Z<|yS Z (ax Z Z Z Z)<|zN<|zT ?_;refine zX Z (fun g3 => ?_)<|fun g3 => ?_
    ·
     refine zi g3 hr fun hr => zQ<|zR<|zM Z<|zM Z<|zN<|zT<|zr<|aq<|af<|af<|aq<|af<|af ?_;obtain rfl := zJ hr;have hr := congrArg some (hb_x1 _ rfl);obtain rfl := zJ hr;have hr := ck ho_v1;obtain rfl := zJ hr;exact zf (.one (.tmp Z)) zv
    ·
     refine zo g3 hr fun hr => zk<|ai<|zT<|zR<|yS Z (ax Z Z Z Z)<|zM Z<|zN<|zT ?_;obtain rfl := zJ hr;exact ⟨_, rfl, zW 0 ⟨rfl, rfl, rfl, rfl, rfl, rfl, trivial⟩ Z Z Z rfl⟩
  ·
   refine zo g1 hr fun hr => zq<|ao<|ao<|zy<|zT ?_;obtain rfl := zJ hr;have hr := congrArg some (hb_x1 _ rfl);obtain rfl := zJ hr;exact ⟨_, rfl, zW 0 ⟨rfl, rfl, rfl, trivial⟩ Z Z Z rfl⟩
 ·obtain rfl := e_v1;have hr := dK ho_v1;clear hb_v1;refine zT<|LW.weak hw_v1<|zQ<|zQ<|zR<|zM Z<|yS Z (cC Z Z (by kernel_rfl))<|zM Z<|yS Z (cC Z Z (by kernel_rfl))<|yS Z (ax Z Z Z Z)<|zN<|zT ?_;refine zX Z (fun g4 => ?_)<|fun g4 => ?_
  ·
   refine zi g4 hr fun hr => zQ<|zR<|zM Z<|zN<|zT<|zr<|af ?_;obtain rfl := zJ hr;exact zf (.one (.tmp Z)) zv
  ·
   refine zo g4 hr fun hr => zk<|zT<|zQ<|zR<|zM Z<|zN<|zT<|zr ?_;obtain rfl := zJ hr;exact zf (.one (.tmp Z)) zv
def ym (a : ID) (b : ID) : Option Bool :=
 (wX [a.1, a.2] [b.1, b.2]).bind fun v1 =>
 some (decide (v1 < 0))
theorem Ib {a : ID} {b : ID} {r_ : Bool} (hr : ym a b = some r_) : aw Tryz.prog 188 [cw a, cw b] [.bool r_] := by
 refine zh Tryz.func188 Z Z Z Z ?_;unfold ym at hr;refine zQ<|zR<|yS Z (bV Z Z Z Z Z)<|yS Z (bV Z Z Z Z Z)<|zM Z<|zN<|zT<|zQ<|LW.draw2 (by kernel_rfl) (by kernel_rfl)<|yE Z (ab.sliceBox Z Z xj Z Z Z)<|yE Z (ab.sliceBox Z Z xj Z Z Z)<|zb hr fun v1 h_v1 hr => yE Z (zC Z Z Z (by kernel_rfl) (LC.lend (FR h_v1) (.cons (Conv.boxSlice Z Z Z Z) (.cons (Conv.boxSlice Z Z Z Z) .nil)) Z))<|yE Z (ax Z Z Z Z)<|zH Z<|LO.nil<|zT<|zr ?_;obtain rfl := zJ hr;exact zf (.one (.tmp Z)) zv
def yn (a : Rk) (b : Rk) : Option Bool :=
 bif a.n != b.n then
  some (decide (a.n > b.n))
 else
  bif !((a.n == b.n) && ((a.id.1 == b.id.1) && ((a.id.2 == b.id.2) && true))) then
   (ym b.id a.id).bind fun v1 =>
   some v1
  else
   some false
theorem Ic {a : Rk} {b : Rk} {r_ : Bool} (hr : yn a b = some r_) : aw Tryz.prog 172 [I4 a, I4 b] [.bool r_] := by
 refine zh Tryz.func172 Z Z Z Z ?_;unfold yn at hr;refine zQ<|zR<|yS Z (bV Z Z Z Z Z)<|yS Z (bV Z Z Z Z Z)<|zM Z<|zN<|zT<|zQ<|zQ<|zR<|yS Z (zA Z Z l4)<|yS Z (zD Z Z Z aX Z Z)<|yS Z (zA Z Z l4)<|yS Z (zD Z Z Z aX Z Z)<|yS Z (ax Z Z Z Z)<|zN<|zT ?_;refine zX Z (fun g1 => ?_)<|fun g1 => ?_
 ·
  refine zi g1 hr fun hr => zQ<|zR<|yS Z (zA Z Z l4)<|yS Z (zD Z Z Z aX Z Z)<|yS Z (zA Z Z l4)<|yS Z (zD Z Z Z aX Z Z)<|yS Z (ax Z Z Z Z)<|zM Z<|zN<|zT<|zr<|af ?_;obtain rfl := zJ hr;exact zf (.one (.tmp Z)) zv
 ·
  refine zo g1 hr fun hr => zk<|zT<|zQ<|zR<|yS Z (zD Z Z Z nG Z Z)<|yS Z (zD Z Z Z nG Z Z)<|yS Z (ab.neqAgg Z Z Z Z Z EL)<|zM Z ?_;refine zc 18 Z (fun g2 => ?_)<|fun g2 => ?_
  ·
   refine zi g2 hr fun hr => yV Z (gd g2 Z) (zA Z Z rv)<|yV Z (gd g2 Z) (zD Z Z Z aV Z Z)<|yV Z (gd g2 Z) (zA Z Z rv)<|yV Z (gd g2 Z) (zD Z Z Z aV Z Z)<|zb hr fun v1 h_v1 hr => yV Z (gd g2 Z) (zC Z Z Z (by kernel_rfl) (zp (Ib h_v1) (.cons zv (.cons zv .nil))))<|yS Z (ca Z (aN g2 Z) Z)<|zM Z<|zN<|zT<|zr ?_;obtain rfl := zJ hr;exact zf (.one (.tmp Z)) zv
  ·
   refine zo g2 hr fun hr => yU Z (gd g2 Z) Z<|yU Z (gd g2 Z) Z<|yU Z (gd g2 Z) Z<|yU Z (gd g2 Z) Z<|yU Z (gd g2 Z) Z<|yS Z (a8 Z (aN g2 Z) Z)<|zM Z<|zN<|zT<|zr ?_;obtain rfl := zJ hr;exact zf (.one (.tmp Z)) zv
def Ca (x : Vt) : Option Int :=
 some x.From
theorem Im {x : Vt} {r_ : Int} (hr : Ca x = some r_) : aw Tryz.prog 153 [aD x] [.int .i64 r_] := by
 refine zh Tryz.func153 Z Z Z Z ?_;unfold Ca at hr;refine zQ<|zR<|yS Z (bV Z Z Z Z Z)<|zM Z<|zN<|zT<|zQ<|zR<|yS Z (zA Z Z pn)<|yS Z (zD Z Z Z aX Z Z)<|zM Z<|zN<|zT<|zr ?_;obtain rfl := zJ hr;exact zf (.one (.tmp Z)) zv
open Go.Proofs
def yB (x : Vt) (_ : Cf) (l : List Bk) (id : ID) (m : List (ID × Bool)) : Option (Bool × (List (ID × Bool))) :=
 bif !((aj m x.Head).isSome) then
  bif few l then
   some (decide (aT (a7 l x.Head) id ≥ 0), aW m x.Head (decide (aT (a7 l x.Head) id ≥ 0)))
  else none
 else
  some ((aj m x.Head).getD false, m)
theorem Gq {x : Vt} {c : Cf} {l : List Bk} {id : ID} {m : List (ID × Bool)} {r_ : Bool × (List (ID × Bool))} (hr : yB x c l id m = some r_) : LC Tryz.prog 151 [.p (aD x), .ptr 4 0, .ptr 1 0, .ptr 2 0] [.box (bN c), .box [(kB l)], .box [(uQ id.1), (uQ id.2)], .map (ah cw (fun v => (bQ v)) m), .box [.map 3]] (Is (bQ r_.1) [.box (bN c), .box [(kB l)], .box [(uQ id.1), (uQ id.2)], .map (ah cw (fun v => (bQ v)) r_.2), .box [.map 3]]) := by
 refine dt Tryz.func151 Z Z Z ?_;unfold yB at hr;refine zQ<|zR<|yS Z (bV Z Z Z Z Z)<|zM Z<|zN<|zT<|zQ<|zR<|yS Z (zD Z Z Z Bz Z Z)<|yS Z (zA Z Z lq)<|yS Z (zD Z Z Z aV Z Z) ?_;refine yS Z (ab.getX (f := cw) (g := (fun v => (bQ v))) x.Head false dZ Z Z Z Z DD HD Z Z) ?_;refine zM Z<|yS Z (fE Z Z Z)<|yS Z (fE Z Z Z)<|zM Z<|zM Z<|zN<|zT<|zQ<|zQ<|zR<|zM Z<|yS Z (ab.not Z Z)<|zN<|zT ?_;refine zX Z (fun g1 => ?_)<|fun g1 => ?_
 ·
  refine zi g1 hr fun hr => zQ<|LW.draw2 (by kernel_rfl) (by kernel_rfl)<|yE Z (zD Z Z Z dr Z Z)<|yE Z (zA Z Z lq)<|yE Z (zD Z Z Z aV Z Z)<|zg hr fun q1 hr => yE Z (zC Z Z Z (by kernel_rfl) (zp (Iy (l := l) (id := x.Head) (uT q1)) (.cons zv (.cons zv .nil))))<|yE Z (zD Z Z Z aV Z Z)<|yE Z (zC Z Z Z (by kernel_rfl) (zp (Jg (l := (a7 l x.Head)) (v := id)) (.cons zv (.cons zv .nil))))<|zH Z<|LO.nil<|zT<|zR<|yS Z (zD Z Z Z Bz Z Z)<|yS Z (zA Z Z lq)<|yS Z (zD Z Z Z aV Z Z)<|zM Z ?_;refine yS Z (ab.setX (f := cw) (g := (fun v => (bQ v))) x.Head (decide (aT (a7 l x.Head) id ≥ 0)) dZ (.inl Z) Z Z Z Z Z DD Z) ?_;refine zN<|zT<|zQ<|zR<|zM Z<|zM Z<|zN<|zT<|zr ?_;obtain rfl := zJ hr;refine aS (env' := [(5, .p (.bool (decide (aT (a7 l x.Head) id ≥ 0))))]) (H' := [.box (bN c), .box [(kB l)], .box [(uQ id.1), (uQ id.2)], .map (ah cw (fun v => (bQ v)) (aW m x.Head (decide (aT (a7 l x.Head) id ≥ 0)))), .box [.map 3]]) (zW 5 ⟨rfl, trivial⟩ Z Z Z (zL Z (zL Z (zL Z (zL (ae (fun _ => rfl) _) (zL Z Z)))))) (.one (.tmp Z)) ?_;exact ⟨rfl, rfl⟩
 ·
  refine zo g1 hr fun hr => zk<|zT<|zQ<|zR<|zM Z<|zM Z<|zN<|zT<|zr ?_;obtain rfl := zJ hr;refine aS (env' := [(5, .p (.bool ((aj m x.Head).getD false)))]) (H' := [.box (bN c), .box [(kB l)], .box [(uQ id.1), (uQ id.2)], .map (ah cw (fun v => (bQ v)) m), .box [.map 3]]) (zW 5 ⟨rfl, trivial⟩ Z Z Z (zL Z (zL Z (zL Z (zL (ae (fun _ => rfl) _) (zL Z Z)))))) (.one (.tmp Z)) ?_;exact ⟨rfl, rfl⟩
structure gL where
 t12 : Int
 o3 : List (ID × Bool)
 out : List Int
def lQ (v : List Vt) (c : Cf) (l : List Bk) (id : ID) (x1 : gL) : Option (gL ⊕ gL) :=
 bif decide (x1.t12 < (v.length : Int)) then
  (ix v x1.t12).bind fun y1 =>
  (yB y1 c l id x1.o3).bind fun v2 =>
  bif v2.1 then
   (Ca y1).bind fun v3 =>
   bif b9 x1.out.length [v3].length 8 then
    some (.inl (gL.mk (IntKind.i64.wrap (x1.t12 + 1)) v2.2 (x1.out ++ [v3])))
   else none
  else
   some (.inl (gL.mk (IntKind.i64.wrap (x1.t12 + 1)) v2.2 x1.out))
 else
  some (.inr (gL.mk x1.t12 x1.o3 x1.out))
def yC (v : List Vt) (c : Cf) (l : List Bk) (id : ID) (m : List (ID × Bool)) : Option (List Int × List (ID × Bool)) :=
 (iter (lQ v c l id) bH (gL.mk 0 m ([] : List Int))).bind fun v1 =>
 some (v1.out, v1.o3)
theorem Gr {v : List Vt} {c : Cf} {l : List Bk} {id : ID} {m : List (ID × Bool)} {r_ : List Int × List (ID × Bool)} (hr : yC v c l id m = some r_) : LC Tryz.prog 152 [(kV v), .fn 151 [] [.ptr 4 0, .ptr 1 0, .ptr 2 0], .fn 153 [] []] [.box (bN c), .box [(kB l)], .box [(uQ id.1), (uQ id.2)], .map (ah cw (fun v => (bQ v)) m), .box [.map 3]] (Is (kI r_.1) [.box (bN c), .box [(kB l)], .box [(uQ id.1), (uQ id.2)], .map (ah cw (fun v => (bQ v)) r_.2), .box [.map 3]]) := by
 refine dt Tryz.func152 Z Z Z ?_;unfold yC at hr;refine zQ<|zR<|zM Z<|zN<|zT<|zQ<|zR<|zM Z<|zN<|zT<|zQ<|zQ<|zR<|zM Z<|yS Z (cC Z Z (by kernel_rfl))<|zM Z<|zN<|zT<|LW.ent (bJ.lazy (t := 7) (m := 1) Z Z Z) ?_;obtain ⟨v1, hb_v1, ho_v1⟩ := zB hr;clear hr;refine LW.tail (E := [(6, .zs), (7, (jI 5 v1.out))]) (O := [.box (bN c), .box [(kB l)], .box [(uQ id.1), (uQ id.2)], .map (ah cw (fun v => (bQ v)) v1.o3), .box [.map 3], .vec 1 (v1.out.map aB)]) ?_<|fun env_v1 H_v1 hw_v1 => ?_
 ·refine LW.block ?_;refine LW.iterB (E := fun x1 : gL => [(1, .fn 151 [] [.ptr 4 0, .ptr 1 0, .ptr 2 0]), (2, .fn 153 [] []), (6, .zs), (7, (jI 5 x1.out)), (10, (kV v)), (11, .p (.int .i64 (v.length : Int))), (12, (iQ x1.t12))]) (O := fun x1 => [.box (bN c), .box [(kB l)], .box [(uQ id.1), (uQ id.2)], .map (ah cw (fun v => (bQ v)) x1.o3), .box [.map 3], .vec 1 (x1.out.map aB)]) hb_v1 (zW 6 ⟨rfl, rfl, rfl, rfl, rfl, rfl, rfl, trivial⟩ Z Z Z (zL Z (zL Z (zL Z (zL (ae (fun _ => rfl) _) (zL Z (zL Z Z)))))))<|fun x1 z_x1 hr hb_x1 => ?_;unfold lQ at hr;refine zQ<|zR<|yS Z (ax Z Z Z Z)<|zN<|zT<|zQ ?_;refine zX Z (fun g1 => ?_)<|fun g1 => ?_
  ·
   refine zi g1 hr fun hr => zk<|zT<|zQ<|zl<|zQ<|zR<|zb hr fun y1 h_y1 hr => yS Z (zx Z Z Z cZ h_y1 Z)<|yS Z (cT Z Z Z co Z Z)<|yS Z (ze Z rR Z Z)<|yS Z (zs Z Z Z Z co Z Z Z Z)<|zN<|zT<|zQ<|zR<|zM Z<|yS Z (zD Z Z Z co Z Z)<|zb hr fun v2 h_v2 hr => ?_;refine yS Z (zC Z Z Z (by kernel_rfl) (LC.pre (Gq h_v2) Z (zL Z (zL Z (zL Z (zL (ae (fun _ => rfl) _) (zL Z Z))))) Z)) ?_;refine zN<|zT ?_;refine zX Z (fun g2 => ?_)<|fun g2 => ?_
   ·
    refine zi g2 hr fun hr => zR<|zM Z<|zM Z<|yS Z (zD Z Z Z co Z Z)<|zb hr fun v3 h_v3 hr => yS Z (zC Z Z Z (by kernel_rfl) (zp (Im h_v3) (.cons zv .nil)))<|yS Z (mA Z fP Z Z Z Z Z)<|zg hr fun q1 hr => yS Z (ab.appendX aB x1.out [v3] rfl Z Z Z kE.p Z fP q1 Z)<|zM Z<|zN<|ai<|zT<|zR<|yS Z (ax Z Z Z Z)<|zM Z<|zN<|zT ?_;obtain rfl := zJ hr;exact ⟨_, rfl, zW 6 ⟨rfl, rfl, rfl, rfl, rfl, rfl, rfl, trivial⟩ Z Z Z (zL Z (zL Z (zL Z (zL (ae (fun _ => rfl) _) (zL Z (zL Z Z))))))⟩
   ·
    refine zo g2 hr fun hr => zk<|ai<|zT<|zR<|yS Z (ax Z Z Z Z)<|zM Z<|zN<|zT ?_;obtain rfl := zJ hr;exact ⟨_, rfl, zW 6 ⟨rfl, rfl, rfl, rfl, rfl, rfl, rfl, trivial⟩ Z Z Z (zL Z (zL Z (zL Z (zL (ae (fun _ => rfl) _) (zL Z (zL Z Z))))))⟩
  ·
   refine zo g1 hr fun hr => zq<|ao<|ao<|zy<|zT ?_;obtain rfl := zJ hr;have hr := congrArg some (hb_x1 _ rfl);obtain rfl := zJ hr;exact zW 6 ⟨Z, Z, trivial⟩ Z Z Z<|zL Z<|zL Z<|zL Z<|zL (ae (fun _ => rfl) _)<|zL Z<|zL Z Z
 ·have hr := ho_v1;clear hb_v1;refine zT<|LW.weak hw_v1<|zQ<|zR<|zM Z<|zM Z<|zN<|zT ?_;refine LW.weak (env' := [(6, (jI 5 v1.out))]) (H' := [.box (bN c), .box [(kB l)], .box [(uQ id.1), (uQ id.2)], .map (ah cw (fun v => (bQ v)) v1.o3), .box [.map 3], .vec 1 (v1.out.map aB)]) (zW 6 ⟨rfl, trivial⟩ Z Z Z (zL Z (zL Z (zL Z (zL (ae (fun _ => rfl) _) (zL Z (zL Z Z))))))) ?_;refine LW.ent (bJ.frz (t := 6) (env' := []) (H0 := [.box (bN c), .box [(kB l)], .box [(uQ id.1), (uQ id.2)], .map (ah cw (fun v => (bQ v)) v1.o3), .box [.map 3]]) Z Z Z Z Z trivial Z (zL Z (zL Z (zL Z (zL (ae (fun _ => rfl) _) (zL Z Z)))))) ?_;refine LW.ret ?_;obtain rfl := zJ hr;exact ap (.one (.tmp Z))<|⟨rfl, rfl⟩
def wS (c : Cf) (l : List Bk) (v : List Vt) (id : ID) : Option Int :=
 (yC v c l id []).bind fun v1 =>
 (E5 c v1.1).bind fun v2 =>
 some v2
theorem FM {c : Cf} {l : List Bk} {v : List Vt} {id : ID} {r_ : Int} (hr : wS c l v id = some r_) : aw Tryz.prog 112 [kG c, .slice 5 (l.map ay), .slice 4 (v.map aD), cw id] [.int .i64 r_] := by
 refine zh Tryz.func112 Z Z Z Z ?_;unfold wS at hr;refine zQ<|zR<|yS Z (bV Z Z Z Z Z)<|yS Z (bV Z Z Z Z Z)<|yS Z (bV Z Z Z Z Z)<|zM Z<|zN<|zT<|zQ<|zR<|yS Z (ab.makeMap Z Z Z)<|yS Z (ze Z HH Z Z)<|yS Z (zs Z Z Z Z Bz Z Z Z Z)<|zN<|zT<|zQ<|zR<|yS Z (ab.makeFunc Z Z Z)<|zM Z<|zN<|zT<|zQ<|LW.drawW (by kernel_rfl) (by kernel_rfl)<|yF Z (zd Z Z Z b6 Z Z) Z ?_;refine zK Z<|zK Z<|zb hr fun v1 h_v1 hr => ?_;refine yF Z (bE.all (s := some (3, .map (ah cw (fun v => (bQ v)) v1.2))) (zC Z Z Z (by kernel_rfl) (Gr h_v1)) Z Z Z) Z ?_;obtain ⟨v2, h_v2, hr⟩ := zB hr;refine yF (F := []) (s := none) Z (fun H _ => zC Z Z Z (by kernel_rfl) (zp (IV h_v2) (.cons zv (.cons zv .nil)))) Z ?_;refine zK Z ?_;refine LF.nil ⟨by kernel_rfl, ?_⟩;refine zT<|zr ?_;obtain rfl := zJ hr;exact zf (.one (.tmp Z)) zv
structure fF where
 t19 : Int
 best : Rk
def oB (c : Cf) (l : List Bk) (v : List Vt) (v1 : (List ID)) (x1 : fF) : Option (fF ⊕ fF) :=
 bif decide (x1.t19 < (v1.length : Int)) then
  (ix v1 x1.t19).bind fun y1 =>
  (wS c l v y1).bind fun v3 =>
  (yn (Rk.mk v3 y1) x1.best).bind fun v4 =>
  bif v4 then
   some (.inl (fF.mk (IntKind.i64.wrap (x1.t19 + 1)) (Rk.mk v3 y1)))
  else
   some (.inl (fF.mk (IntKind.i64.wrap (x1.t19 + 1)) x1.best))
 else
  some (.inr (fF.mk x1.t19 x1.best))
def Fl (c : Cf) (l : List Bk) (v : List Vt) (id : ID) : Option (ID × Bool) :=
 (Fi l id).bind fun v1 =>
 (iter (oB c l v v1) bH (fF.mk 0 (Rk.mk (-1) (0, 0)))).bind fun v2 =>
 some (v2.best.id, decide (v2.best.n ≥ 0))
theorem Ja {c : Cf} {l : List Bk} {v : List Vt} {id : ID} {r_ : ID × Bool} (hr : Fl c l v id = some r_) : aw Tryz.prog 154 [kG c, .slice 5 (l.map ay), .slice 4 (v.map aD), cw id] [cw r_.1, .bool r_.2] := by
 refine zh Tryz.func154 Z Z Z Z ?_;unfold Fl at hr;refine zQ<|zR<|yS Z (bV Z Z Z Z Z)<|yS Z (bV Z Z Z Z Z)<|yS Z (ze Z ke Z Z)<|zM Z<|zN<|zT<|zQ<|zR<|yS Z (ab.build Z C8 Z Z Z)<|yS Z (ze Z DT Z Z)<|yS Z (zs Z Z Z Z nG Z Z Z Z)<|zN<|zT<|zQ<|zQ<|zR<|zM Z<|yS Z (zD Z Z Z aV Z Z)<|zb hr fun v1 h_v1 hr => yS Z (zC Z Z Z (by kernel_rfl) (zp (I8 h_v1) (.cons zv (.cons zv .nil))))<|yS Z (cC Z Z (by kernel_rfl))<|zM Z ?_;refine zN<|zT ?_;obtain ⟨v2, hb_v2, ho_v2⟩ := zB hr;clear hr;refine LW.tail (E := [(8, .ptr 2 0), (9, (bQ false)), (10, .ptr 3 0)]) (O := [.box (bN c), .box [(uQ id.1), (uQ id.2)], .box [(uQ 0), (uQ 0)], .box [(iQ v2.best.n), (uQ v2.best.id.1), (uQ v2.best.id.2)]]) ?_<|fun env_v2 H_v2 hw_v2 => ?_
 ·refine LW.block ?_;refine LW.iterB (E := fun x1 : fF => [(1, (kB l)), (2, (kV v)), (4, .ptr 0 0), (8, .ptr 2 0), (9, (bQ false)), (10, .ptr 3 0), (17, .p (.slice 2 (v1.map cw))), (18, .p (.int .i64 (v1.length : Int))), (19, (iQ x1.t19))]) (O := fun x1 => [.box (bN c), .box [(uQ id.1), (uQ id.2)], .box [(uQ 0), (uQ 0)], .box [(iQ x1.best.n), (uQ x1.best.id.1), (uQ x1.best.id.2)]]) hb_v2 (zW 4 ⟨rfl, rfl, rfl, rfl, rfl, rfl, rfl, rfl, rfl, trivial⟩ Z Z Z Z)<|fun x1 z_x1 hr hb_x1 => ?_;unfold oB at hr;refine zQ<|zR<|yS Z (ax Z Z Z Z)<|zN<|zT<|zQ ?_;refine zX Z (fun g1 => ?_)<|fun g1 => ?_
  ·
   refine zi g1 hr fun hr => zk<|zT<|zQ<|zl<|zQ<|zR<|zb hr fun y1 h_y1 hr => yS Z (zx Z Z Z pK h_y1 Z)<|yS Z (cT Z Z Z aV Z Z)<|yS Z (ze Z ke Z Z)<|yS Z (zs Z Z Z Z aV Z Z Z Z)<|zN<|zT<|zQ<|LW.ent (bJ.slot Z)<|LW.drawW (by kernel_rfl) (by kernel_rfl)<|yF Z (zd Z Z Z b6 Z Z) Z<|zK Z<|zK Z<|yF Z (zd Z Z Z aV Z Z) Z<|zb hr fun v3 h_v3 hr => ?_;refine yF (F := []) (s := none) Z (fun H _ => zC Z Z Z (by kernel_rfl) (zp (FM h_v3) (.cons zv (.cons zv (.cons zv (.cons zv .nil)))))) Z ?_;refine yF Z (zd Z Z Z aV Z Z) Z ?_;refine yF (F := []) (s := none) Z (fun H _ => ab.build Z C8 Z Z Z) Z ?_;refine yF Z (bE.alloc Z DT (id := 5) Z) Z<|yF Z (zt Z Z Z Z nG Z Z Z) Z ?_;refine LF.nil ⟨by kernel_rfl, ?_⟩;refine zT<|zQ<|zR<|yS Z (zD Z Z Z nG Z Z)<|yS Z (zD Z Z Z nG Z Z)<|zb hr fun v4 h_v4 hr => yS Z (zC Z Z Z (by kernel_rfl) (zp (Ic h_v4) (.cons zv (.cons zv .nil))))<|zN<|zT ?_;refine zX Z (fun g2 => ?_)<|fun g2 => ?_
   ·
    refine zi g2 hr fun hr => zR<|yS Z (zD Z Z Z nG Z Z)<|yS Z (zs Z Z Z Z nG Z Z Z Z)<|zN<|ai<|zT<|zR<|yS Z (ax Z Z Z Z)<|zM Z<|zN<|zT ?_;obtain rfl := zJ hr;exact ⟨_, rfl, zW 4 ⟨rfl, rfl, rfl, rfl, rfl, rfl, rfl, rfl, rfl, trivial⟩ Z Z Z rfl⟩
   ·
    refine zo g2 hr fun hr => zk<|ai<|zT<|zR<|yS Z (ax Z Z Z Z)<|zM Z<|zN<|zT ?_;obtain rfl := zJ hr;exact ⟨_, rfl, zW 4 ⟨rfl, rfl, rfl, rfl, rfl, rfl, rfl, rfl, rfl, trivial⟩ Z Z Z rfl⟩
  ·
   refine zo g1 hr fun hr => zq<|ao<|ao<|zy<|zT ?_;obtain rfl := zJ hr;have hr := congrArg some (hb_x1 _ rfl);obtain rfl := zJ hr;exact zW 4 ⟨Z, Z, Z, trivial⟩ Z Z Z Z
 ·have hr := ho_v2;clear hb_v2;refine zT<|LW.weak hw_v2<|zQ<|LW.drawW (by kernel_rfl) (by kernel_rfl) ?_;refine yF (F := []) (s := none) Z (fun H _ => zA Z Z rv) Z ?_;refine yF Z (zd Z Z Z aV Z Z) Z ?_;refine yF (F := []) (s := none) Z (fun H _ => zA Z Z l4) Z ?_;refine yF Z (zd Z Z Z aX Z Z) Z ?_;refine yF (F := []) (s := none) Z (fun H _ => ax Z Z Z Z) Z ?_;refine yF Z (zt Z Z Z Z aV Z Z Z) Z<|zK Z ?_;refine LF.nil ⟨by kernel_rfl, ?_⟩;refine zT<|zr ?_;obtain rfl := zJ hr;exact zf (.two (.cellAgg Z Z (by kernel_rfl) Z) (.tmp Z))<|⟨_, rfl, (.cons zv (.cons zv .nil))⟩
structure k9 where
 id : ID
def la (c : Cf) (l : List Bk) (v : List Vt) (x1 : k9) : Option (k9 ⊕ k9) :=
 (Fl c l v x1.id).bind fun v2 =>
 bif !v2.2 then
  some (.inr (k9.mk x1.id))
 else
  some (.inl (k9.mk v2.1))
def Fm (c : Cf) (l : List Bk) (v : List Vt) : Option ID :=
 (iter (la c l v) bH (k9.mk (0, 0))).bind fun v1 =>
 some v1.id
theorem Jb {c : Cf} {l : List Bk} {v : List Vt} {r_ : ID} (hr : Fm c l v = some r_) : aw Tryz.prog 114 [kG c, .slice 5 (l.map ay), .slice 4 (v.map aD)] [cw r_] := by
 refine zh Tryz.func114 Z Z Z Z ?_;unfold Fm at hr;refine zQ<|zR<|yS Z (bV Z Z Z Z Z)<|yS Z (ze Z ke Z Z)<|zN<|zT<|LW.scope<|zQ<|LW.label<|zT ?_;obtain ⟨v1, hb_v1, ho_v1⟩ := zB hr;clear hr;refine LW.cut (E := [(6, .ptr 1 0)]) (O := [.box (bN c), .box [(uQ v1.id.1), (uQ v1.id.2)]]) ?_ ?_
 ·refine LW.block ?_;refine LW.iterB (E := fun x1 : k9 => [(1, (kB l)), (2, (kV v)), (3, .ptr 0 0), (6, .ptr 1 0)]) (O := fun x1 => [.box (bN c), .box [(uQ x1.id.1), (uQ x1.id.2)]]) hb_v1 (zW 2 ⟨rfl, rfl, rfl, rfl, trivial⟩ Z Z Z Z)<|fun x1 z_x1 hr hb_x1 => ?_;unfold la at hr;refine zl<|zQ<|zR<|yS Z (zD Z Z Z b6 Z Z)<|zM Z<|zM Z<|yS Z (zD Z Z Z aV Z Z)<|zb hr fun v2 h_v2 hr => yS Z (zC Z Z Z (by kernel_rfl) (zp (Ja h_v2) (.cons zv (.cons zv (.cons zv (.cons zv .nil))))))<|zM Z<|yS Z (fE Z Z Z)<|yS Z (fE Z Z Z)<|yS Z (ze Z ke Z Z)<|yS Z (zs Z Z Z Z aV Z Z Z Z)<|zM Z<|zN<|zT<|zQ<|zQ<|zR<|zM Z<|yS Z (ab.not Z Z)<|zN<|zT ?_;refine zX Z (fun g1 => ?_)<|fun g1 => ?_
  ·
   refine zi g1 hr fun hr => zq<|ao<|nA (by decide)<|ao<|zy<|zT ?_;obtain rfl := zJ hr;have hr := congrArg some (hb_x1 _ rfl);obtain rfl := zJ hr;exact zW 2 ⟨Z, trivial⟩ Z Z Z Z
  ·
   refine zo g1 hr fun hr => zk<|zT<|zR<|yS Z (zD Z Z Z aV Z Z)<|yS Z (zs Z Z Z Z aV Z Z Z Z)<|zN<|ai<|zT ?_;obtain rfl := zJ hr;exact ⟨_, rfl, zW 2 ⟨rfl, rfl, rfl, rfl, trivial⟩ Z Z Z rfl⟩
 ·have hr := ho_v1;clear hb_v1;refine zQ<|zR<|yS Z (zD Z Z Z aV Z Z)<|yS Z (zs Z Z Z Z aV Z Z Z Z)<|zN<|zT<|zr<|A5 ?_;obtain rfl := zJ hr;exact zf (.one (.cellAgg Z Z (by kernel_rfl) Z)) zv
open Go.Proofs
theorem sT {α : Type} {f : α → PV} {l : List α} (hb : b9 0 l.length 40 = true) : LC Tryz.prog 128 [.p (.slice 5 (l.map f))] [] (Is (.vec 5 0 (l.map f).length 0 (l.map f).length) [.vec 5 (l.map f)]) := by
 refine dt Tryz.func128 Z Z Z ?_;refine zQ<|zR<|yS Z (za Z Z)<|zN<|zT<|zQ<|zQ<|zR<|yS Z (zm Z Z)<|am.cons Z Z Z (ab.eqNil Z Z Z dJ) ?_;rintro _ _ ⟨rfl, b, rfl, hn⟩;refine zN<|zT ?_;refine zX Z (fun g => ?_)<|fun g => ?_
 ·have hl : l = [] := List.map_eq_nil_iff.1 (hn g);subst hl;exact zQ<|zR<|yS Z (za Z Z)<|zN<|zT<|LW.ent (bJ.lazy (t := 2) (m := 5) Z Z Z)<|zr<|af<|ap (.one (.tmp Z)) ⟨rfl, rfl⟩
 ·refine LW.skip ?_;exact zT<|zQ<|zR<|yS Z (ab.buildSlice0 Z dJ)<|yS Z (zm Z Z)<|yS Z (ab.appendZX f l Z Z Z Z kE.p Z dJ hb Z)<|yS Z (za Z Z)<|zN<|zT<|zr<|ap (.one (.tmp Z)) ⟨rfl, rfl⟩
theorem sU {α : Type} {f : α → PV} {l : List α} (hb : b9 0 l.length 32 = true) : LC Tryz.prog 129 [.p (.slice 4 (l.map f))] [] (Is (.vec 4 0 (l.map f).length 0 (l.map f).length) [.vec 4 (l.map f)]) := by
 refine dt Tryz.func129 Z Z Z ?_;refine zQ<|zR<|yS Z (za Z Z)<|zN<|zT<|zQ<|zQ<|zR<|yS Z (zm Z Z)<|am.cons Z Z Z (ab.eqNil Z Z Z cZ) ?_;rintro _ _ ⟨rfl, b, rfl, hn⟩;refine zN<|zT ?_;refine zX Z (fun g => ?_)<|fun g => ?_
 ·have hl : l = [] := List.map_eq_nil_iff.1 (hn g);subst hl;exact zQ<|zR<|yS Z (za Z Z)<|zN<|zT<|LW.ent (bJ.lazy (t := 2) (m := 4) Z Z Z)<|zr<|af<|ap (.one (.tmp Z)) ⟨rfl, rfl⟩
 ·refine LW.skip ?_;exact zT<|zQ<|zR<|yS Z (ab.buildSlice0 Z cZ)<|yS Z (zm Z Z)<|yS Z (ab.appendZX f l Z Z Z Z kE.p Z cZ hb Z)<|yS Z (za Z Z)<|zN<|zT<|zr<|ap (.one (.tmp Z)) ⟨rfl, rfl⟩
def Fn (c : Cf) (b : Bk) : Option Bool :=
 (Cg c b.Slot).bind fun v1 =>
 bif decide (v1 ≥ 0) then
  bif v1 == b.From then
   some (!((((nm b).1) == 0) && ((((nm b).2) == 0) && true)))
  else
   some false
 else
  some false
theorem Jc {c : Cf} {b : Bk} {r_ : Bool} (hr : Fn c b = some r_) : aw Tryz.prog 133 [kG c, ay b] [.bool r_] := by
 refine zh Tryz.func133 Z Z Z Z ?_;unfold Fn at hr;refine zQ<|zR<|yS Z (bV Z Z Z Z Z)<|yS Z (bV Z Z Z Z Z)<|zM Z<|zN<|zT<|zQ<|zR<|yS Z (zD Z Z Z b6 Z Z)<|yS Z (zA Z Z jW)<|yS Z (zD Z Z Z aX Z Z)<|zb hr fun v1 h_v1 hr => yS Z (zC Z Z Z (by kernel_rfl) (zp (HP h_v1) (.cons zv (.cons zv .nil))))<|zM Z<|zN<|zT<|zQ<|zR<|zM Z<|yS Z (ax Z Z Z Z)<|zM Z ?_;refine zc 12 Z (fun g1 => ?_)<|fun g1 => ?_
 ·
  refine zi g1 hr fun hr => yV Z (gd g1 Z) (zm Z Z)<|yV Z (gd g1 Z) (zA Z Z uX)<|yV Z (gd g1 Z) (zD Z Z Z aX Z Z)<|yV Z (gd g1 Z) (ax Z Z Z Z)<|yS Z (ca Z (aN g1 Z) Z)<|zM Z ?_;refine zc 18 Z (fun g2 => ?_)<|fun g2 => ?_
  ·
   refine zi g2 hr fun hr => yV Z (gd g2 Z) (zD Z Z Z cj Z Z)<|yV Z (gd g2 Z) (zC Z Z Z (by kernel_rfl) (zp (Fc (b := b)) (.cons zv .nil)))<|yV Z (gd g2 Z) (ab.build Z xk Z Z Z)<|yV Z (gd g2 Z) (ab.neqAgg Z Z Z Z Z tb)<|yS Z (ca Z (aN g2 Z) Z)<|zM Z<|zN<|zT<|zr ?_;obtain rfl := zJ hr;exact zf (.one (.tmp Z)) zv
  ·
   refine zo g2 hr fun hr => yU Z (gd g2 Z) Z<|yU Z (gd g2 Z) Z<|yU Z (gd g2 Z) Z<|yU Z (gd g2 Z) Z<|yS Z (a8 Z (aN g2 Z) Z)<|zM Z<|zN<|zT<|zr ?_;obtain rfl := zJ hr;exact zf (.one (.tmp Z)) zv
 ·
  refine zo g1 hr fun hr => yU Z (gd g1 Z) Z<|yU Z (gd g1 Z) Z<|yU Z (gd g1 Z) Z<|yU Z (gd g1 Z) Z<|yS Z (a8 Z (aN g1 Z) Z)<|zM Z<|yU Z Z Z<|yU Z Z Z<|yU Z Z Z<|yU Z Z Z<|yS Z (a8 Z Z Z)<|zM Z<|zN<|zT<|zr ?_;obtain rfl := zJ hr;exact zf (.one (.tmp Z)) zv
def Fo (c : Cf) (v : Vt) : Option Bool :=
 (E6 c v.Slot v.From).bind fun v1 =>
 some v1
theorem Jd {c : Cf} {v : Vt} {r_ : Bool} (hr : Fo c v = some r_) : aw Tryz.prog 135 [kG c, aD v] [.bool r_] := by
 refine zh Tryz.func135 Z Z Z Z ?_;unfold Fo at hr;refine zQ<|zR<|yS Z (bV Z Z Z Z Z)<|yS Z (bV Z Z Z Z Z)<|zM Z<|zN<|zT<|zQ<|zR<|yS Z (zD Z Z Z b6 Z Z)<|yS Z (zA Z Z po)<|yS Z (zD Z Z Z aX Z Z)<|yS Z (zA Z Z pn)<|yS Z (zD Z Z Z aX Z Z)<|zb hr fun v1 h_v1 hr => yS Z (zC Z Z Z (by kernel_rfl) (zp (IW h_v1) (.cons zv (.cons zv (.cons zv .nil)))))<|zM Z<|zN<|zT<|zr ?_;obtain rfl := zJ hr;exact zf (.one (.tmp Z)) zv
structure fe where
 t8 : Int
def kx (s : List Bk) (v : Bk) (x1 : fe) : Option (fe ⊕ (fe ⊕ Int)) :=
 bif decide (x1.t8 < (s.length : Int)) then
  (ix s x1.t8).bind fun y1 =>
  bif ((v.Slot == y1.Slot) && ((v.From == y1.From) && ((v.Parent.1 == y1.Parent.1) && ((v.Parent.2 == y1.Parent.2) && ((v.Salt == y1.Salt) && true))))) then
   some (.inr (.inr x1.t8))
  else
   some (.inl (fe.mk (IntKind.i64.wrap (x1.t8 + 1))))
 else
  some (.inr (.inl (fe.mk x1.t8)))
def Cd (s : List Bk) (v : Bk) : Option Int :=
 (iter (kx s v) bH (fe.mk 0)).bind fun b_v1 => Sum.elim (fun _ =>
  some (-1)) some b_v1
theorem Iq {s : List Bk} {v : Bk} {r_ : Int} (hr : Cd s v = some r_) : aw Tryz.prog 130 [.slice 5 (s.map ay), ay v] [.int .i64 r_] := by
 refine zh Tryz.func130 Z Z Z Z ?_;unfold Cd at hr;refine zQ<|zR<|yS Z (bV Z Z Z Z Z)<|zM Z<|zN<|zT<|zQ<|zQ<|zR<|zM Z<|yS Z (cC Z Z (by kernel_rfl))<|zM Z<|zN<|zT ?_;obtain ⟨b_v1, hb_v1, ho_v1⟩ := zB hr;clear hr;refine LW.tailB (b := b_v1) (E := fun v1 => [(4, (iQ 0))]) (O := fun v1 => [.box [(iQ v.Slot), (iQ v.From), (uQ v.Parent.1), (uQ v.Parent.2), (uQ v.Salt)]]) ?_<|fun v1 e_v1 env_v1 H_v1 hw_v1 => ?_
 ·refine LW.block ?_;refine LW.iterB (E := fun x1 : fe => [(0, (kB s)), (3, .ptr 0 0), (4, (iQ 0)), (7, .p (.int .i64 (s.length : Int))), (8, (iQ x1.t8))]) (O := fun x1 => [.box [(iQ v.Slot), (iQ v.From), (uQ v.Parent.1), (uQ v.Parent.2), (uQ v.Salt)]]) hb_v1 (zW 1 ⟨rfl, rfl, rfl, rfl, rfl, trivial⟩ Z Z Z Z)<|fun x1 z_x1 hr hb_x1 => ?_;unfold kx at hr;refine zQ<|zR<|yS Z (ax Z Z Z Z)<|zN<|zT<|zQ ?_;refine zX Z (fun g1 => ?_)<|fun g1 => ?_
  ·
   refine zi g1 hr fun hr => zk<|zT<|zQ<|zl<|zQ<|zR<|zM Z<|zM Z<|zN<|zT<|zQ<|LW.draw2 (by kernel_rfl) (by kernel_rfl)<|yE Z (zD Z Z Z cj Z Z)<|zH Z<|zH Z<|zb hr fun y1 h_y1 hr => yE Z (zx Z Z Z dJ h_y1 Z)<|yE Z (cT Z Z Z cj Z Z)<|yE Z (ab.eqlAgg Z Z Z Z Z tc)<|LO.nil<|zT ?_;refine zX Z (fun g2 => ?_)<|fun g2 => ?_
   ·
    refine zi g2 hr fun hr => zQ<|zR<|zM Z<|zM Z<|zN<|zT<|zr<|aq<|af<|af<|aq<|af<|af ?_;obtain rfl := zJ hr;have hr := congrArg some (hb_x1 _ rfl);obtain rfl := zJ hr;have hr := ck ho_v1;obtain rfl := zJ hr;exact zf (.one (.tmp Z)) zv
   ·
    refine zo g2 hr fun hr => zk<|ai<|zT<|zR<|yS Z (ax Z Z Z Z)<|zM Z<|zN<|zT ?_;obtain rfl := zJ hr;exact ⟨_, rfl, zW 1 ⟨rfl, rfl, rfl, rfl, rfl, trivial⟩ Z Z Z rfl⟩
  ·
   refine zo g1 hr fun hr => zq<|ao<|ao<|zy<|zT ?_;obtain rfl := zJ hr;have hr := congrArg some (hb_x1 _ rfl);obtain rfl := zJ hr;exact ⟨_, rfl, zW 1 ⟨rfl, trivial⟩ Z Z Z rfl⟩
 ·obtain rfl := e_v1;have hr := dK ho_v1;clear hb_v1;refine zT<|LW.weak hw_v1<|zQ<|zR<|zM Z<|zN<|zT<|zr ?_;obtain rfl := zJ hr;exact zf (.one (.tmp Z)) zv
structure ff where
 t8 : Int
def ky (s : List Vt) (v : Vt) (x1 : ff) : Option (ff ⊕ (ff ⊕ Int)) :=
 bif decide (x1.t8 < (s.length : Int)) then
  (ix s x1.t8).bind fun y1 =>
  bif ((v.From == y1.From) && ((v.Slot == y1.Slot) && ((v.Head.1 == y1.Head.1) && ((v.Head.2 == y1.Head.2) && true)))) then
   some (.inr (.inr x1.t8))
  else
   some (.inl (ff.mk (IntKind.i64.wrap (x1.t8 + 1))))
 else
  some (.inr (.inl (ff.mk x1.t8)))
def Ce (s : List Vt) (v : Vt) : Option Int :=
 (iter (ky s v) bH (ff.mk 0)).bind fun b_v1 => Sum.elim (fun _ =>
  some (-1)) some b_v1
theorem Ir {s : List Vt} {v : Vt} {r_ : Int} (hr : Ce s v = some r_) : aw Tryz.prog 131 [.slice 4 (s.map aD), aD v] [.int .i64 r_] := by
 refine zh Tryz.func131 Z Z Z Z ?_;unfold Ce at hr;refine zQ<|zR<|yS Z (bV Z Z Z Z Z)<|zM Z<|zN<|zT<|zQ<|zQ<|zR<|zM Z<|yS Z (cC Z Z (by kernel_rfl))<|zM Z<|zN<|zT ?_;obtain ⟨b_v1, hb_v1, ho_v1⟩ := zB hr;clear hr;refine LW.tailB (b := b_v1) (E := fun v1 => [(4, (iQ 0))]) (O := fun v1 => [.box [(iQ v.From), (iQ v.Slot), (uQ v.Head.1), (uQ v.Head.2)]]) ?_<|fun v1 e_v1 env_v1 H_v1 hw_v1 => ?_
 ·refine LW.block ?_;refine LW.iterB (E := fun x1 : ff => [(0, (kV s)), (3, .ptr 0 0), (4, (iQ 0)), (7, .p (.int .i64 (s.length : Int))), (8, (iQ x1.t8))]) (O := fun x1 => [.box [(iQ v.From), (iQ v.Slot), (uQ v.Head.1), (uQ v.Head.2)]]) hb_v1 (zW 1 ⟨rfl, rfl, rfl, rfl, rfl, trivial⟩ Z Z Z Z)<|fun x1 z_x1 hr hb_x1 => ?_;unfold ky at hr;refine zQ<|zR<|yS Z (ax Z Z Z Z)<|zN<|zT<|zQ ?_;refine zX Z (fun g1 => ?_)<|fun g1 => ?_
  ·
   refine zi g1 hr fun hr => zk<|zT<|zQ<|zl<|zQ<|zR<|zM Z<|zM Z<|zN<|zT<|zQ<|LW.draw2 (by kernel_rfl) (by kernel_rfl)<|yE Z (zD Z Z Z co Z Z)<|zH Z<|zH Z<|zb hr fun y1 h_y1 hr => yE Z (zx Z Z Z cZ h_y1 Z)<|yE Z (cT Z Z Z co Z Z)<|yE Z (ab.eqlAgg Z Z Z Z Z AA)<|LO.nil<|zT ?_;refine zX Z (fun g2 => ?_)<|fun g2 => ?_
   ·
    refine zi g2 hr fun hr => zQ<|zR<|zM Z<|zM Z<|zN<|zT<|zr<|aq<|af<|af<|aq<|af<|af ?_;obtain rfl := zJ hr;have hr := congrArg some (hb_x1 _ rfl);obtain rfl := zJ hr;have hr := ck ho_v1;obtain rfl := zJ hr;exact zf (.one (.tmp Z)) zv
   ·
    refine zo g2 hr fun hr => zk<|ai<|zT<|zR<|yS Z (ax Z Z Z Z)<|zM Z<|zN<|zT ?_;obtain rfl := zJ hr;exact ⟨_, rfl, zW 1 ⟨rfl, rfl, rfl, rfl, rfl, trivial⟩ Z Z Z rfl⟩
  ·
   refine zo g1 hr fun hr => zq<|ao<|ao<|zy<|zT ?_;obtain rfl := zJ hr;have hr := congrArg some (hb_x1 _ rfl);obtain rfl := zJ hr;exact ⟨_, rfl, zW 1 ⟨rfl, trivial⟩ Z Z Z rfl⟩
 ·obtain rfl := e_v1;have hr := dK ho_v1;clear hb_v1;refine zT<|LW.weak hw_v1<|zQ<|zR<|zM Z<|zN<|zT<|zr ?_;obtain rfl := zJ hr;exact zf (.one (.tmp Z)) zv
def wZ (s : List Bk) (v : Bk) : Option Bool :=
 (Cd s v).bind fun v1 =>
 some (decide (v1 ≥ 0))
theorem FS {s : List Bk} {v : Bk} {r_ : Bool} (hr : wZ s v = some r_) : aw Tryz.prog 90 [.slice 5 (s.map ay), ay v] [.bool r_] := by
 refine zh Tryz.func90 Z Z Z Z ?_;unfold wZ at hr;refine zQ<|zR<|yS Z (bV Z Z Z Z Z)<|zM Z<|zN<|zT<|zQ<|zR<|zM Z<|yS Z (zD Z Z Z cj Z Z)<|zb hr fun v1 h_v1 hr => yS Z (zC Z Z Z (by kernel_rfl) (zp (Iq h_v1) (.cons zv (.cons zv .nil))))<|yS Z (ax Z Z Z Z)<|zM Z<|zN<|zT<|zr ?_;obtain rfl := zJ hr;exact zf (.one (.tmp Z)) zv
def w0 (s : List Vt) (v : Vt) : Option Bool :=
 (Ce s v).bind fun v1 =>
 some (decide (v1 ≥ 0))
theorem FT {s : List Vt} {v : Vt} {r_ : Bool} (hr : w0 s v = some r_) : aw Tryz.prog 93 [.slice 4 (s.map aD), aD v] [.bool r_] := by
 refine zh Tryz.func93 Z Z Z Z ?_;unfold w0 at hr;refine zQ<|zR<|yS Z (bV Z Z Z Z Z)<|zM Z<|zN<|zT<|zQ<|zR<|zM Z<|yS Z (zD Z Z Z co Z Z)<|zb hr fun v1 h_v1 hr => yS Z (zC Z Z Z (by kernel_rfl) (zp (Ir h_v1) (.cons zv (.cons zv .nil))))<|yS Z (ax Z Z Z Z)<|zM Z<|zN<|zT<|zr ?_;obtain rfl := zJ hr;exact zf (.one (.tmp Z)) zv
structure eb where
 t12 : Int
 out : List Bk
def kr (b : List Bk) (x1 : eb) : Option (eb ⊕ eb) :=
 bif decide (x1.t12 < (b.length : Int)) then
  (ix b x1.t12).bind fun y1 =>
  (wZ x1.out y1).bind fun v2 =>
  bif !v2 then
   bif b9 x1.out.length [y1].length 40 then
    some (.inl (eb.mk (IntKind.i64.wrap (x1.t12 + 1)) (x1.out ++ [y1])))
   else none
  else
   some (.inl (eb.mk (IntKind.i64.wrap (x1.t12 + 1)) x1.out))
 else
  some (.inr (eb.mk x1.t12 x1.out))
def yy (a : List Bk) (b : List Bk) : Option (List Bk) :=
 bif b9 0 a.length 40 then
  (iter (kr b) bH (eb.mk 0 a)).bind fun v1 =>
  some v1.out
 else none
theorem Ig {a : List Bk} {b : List Bk} {r_ : (List Bk)} (hr : yy a b = some r_) : aw Tryz.prog 123 [.slice 5 (a.map ay), .slice 5 (b.map ay)] [.slice 5 (r_.map ay)] := by
 refine zh Tryz.func123 Z Z Z Z ?_;unfold yy at hr;refine zQ<|zR<|zM Z<|zN<|zT<|zQ<|zR<|zM Z<|zg hr fun q1 hr => yS Z (ab.callV (qs := [(kB a)]) Z Z Z (by kernel_rfl) (sT q1) (.consC zv .nil) Z Z)<|zM Z<|zN<|zT<|zQ<|zQ<|zR<|zM Z<|yS Z (cC Z Z (by kernel_rfl))<|zM Z<|zN<|zT ?_;obtain ⟨v1, hb_v1, ho_v1⟩ := zB hr;clear hr;refine LW.tail (E := [(4, .zs), (5, (jB 0 v1.out))]) (O := [.vec 5 (v1.out.map ay)]) ?_<|fun env_v1 H_v1 hw_v1 => ?_
 ·refine LW.block ?_;refine LW.iterB (E := fun x1 : eb => [(4, .zs), (5, (jB 0 x1.out)), (10, (kB b)), (11, .p (.int .i64 (b.length : Int))), (12, (iQ x1.t12))]) (O := fun x1 => [.vec 5 (x1.out.map ay)]) hb_v1 (zW 1 ⟨rfl, rfl, rfl, rfl, rfl, trivial⟩ Z Z Z Z)<|fun x1 z_x1 hr hb_x1 => ?_;unfold kr at hr;refine zQ<|zR<|yS Z (ax Z Z Z Z)<|zN<|zT<|zQ ?_;refine zX Z (fun g1 => ?_)<|fun g1 => ?_
  ·
   refine zi g1 hr fun hr => zk<|zT<|zQ<|zl<|zQ<|zR<|zb hr fun y1 h_y1 hr => yS Z (zx Z Z Z dJ h_y1 Z)<|yS Z (cT Z Z Z cj Z Z)<|yS Z (ze Z un Z Z)<|yS Z (zs Z Z Z Z cj Z Z Z Z)<|zN<|zT<|zQ<|zR<|zM Z<|yS Z (zD Z Z Z cj Z Z)<|zb hr fun v2 h_v2 hr => yS Z (zC Z Z Z (by kernel_rfl) (LC.lend (FS h_v2) (.cons (Conv.vecAll Z Z Z) (.cons zv .nil)) Z))<|yS Z (ab.not Z Z)<|zN<|zT ?_;refine zX Z (fun g2 => ?_)<|fun g2 => ?_
   ·
    refine zi g2 hr fun hr => zR<|zM Z<|yS Z (zD Z Z Z cj Z Z)<|yS Z (mA Z dJ Z Z Z Z Z)<|zg hr fun q2 hr => yS Z (ab.appendX ay x1.out [y1] rfl Z Z Z kE.p Z dJ q2 Z)<|zM Z<|zN<|ai<|zT<|zR<|yS Z (ax Z Z Z Z)<|zM Z<|zN<|zT ?_;obtain rfl := zJ hr;exact ⟨_, rfl, zW 1 ⟨rfl, rfl, rfl, rfl, rfl, trivial⟩ Z Z Z rfl⟩
   ·
    refine zo g2 hr fun hr => zk<|ai<|zT<|zR<|yS Z (ax Z Z Z Z)<|zM Z<|zN<|zT ?_;obtain rfl := zJ hr;exact ⟨_, rfl, zW 1 ⟨rfl, rfl, rfl, rfl, rfl, trivial⟩ Z Z Z rfl⟩
  ·
   refine zo g1 hr fun hr => zq<|ao<|ao<|zy<|zT ?_;obtain rfl := zJ hr;have hr := congrArg some (hb_x1 _ rfl);obtain rfl := zJ hr;exact zW 1 ⟨Z, Z, trivial⟩ Z Z Z Z
 ·have hr := ho_v1;clear hb_v1;refine zT<|LW.weak hw_v1<|zQ<|zR<|zM Z<|zM Z<|zN<|zT<|zr ?_;obtain rfl := zJ hr;exact zf (.one (.tmp Z))<|(Conv.vecAll Z Z Z)
structure ec where
 t12 : Int
 out : List Vt
def ks (b : List Vt) (x1 : ec) : Option (ec ⊕ ec) :=
 bif decide (x1.t12 < (b.length : Int)) then
  (ix b x1.t12).bind fun y1 =>
  (w0 x1.out y1).bind fun v2 =>
  bif !v2 then
   bif b9 x1.out.length [y1].length 32 then
    some (.inl (ec.mk (IntKind.i64.wrap (x1.t12 + 1)) (x1.out ++ [y1])))
   else none
  else
   some (.inl (ec.mk (IntKind.i64.wrap (x1.t12 + 1)) x1.out))
 else
  some (.inr (ec.mk x1.t12 x1.out))
def yz (a : List Vt) (b : List Vt) : Option (List Vt) :=
 bif b9 0 a.length 32 then
  (iter (ks b) bH (ec.mk 0 a)).bind fun v1 =>
  some v1.out
 else none
theorem Ih {a : List Vt} {b : List Vt} {r_ : (List Vt)} (hr : yz a b = some r_) : aw Tryz.prog 124 [.slice 4 (a.map aD), .slice 4 (b.map aD)] [.slice 4 (r_.map aD)] := by
 refine zh Tryz.func124 Z Z Z Z ?_;unfold yz at hr;refine zQ<|zR<|zM Z<|zN<|zT<|zQ<|zR<|zM Z<|zg hr fun q1 hr => yS Z (ab.callV (qs := [(kV a)]) Z Z Z (by kernel_rfl) (sU q1) (.consC zv .nil) Z Z)<|zM Z<|zN<|zT<|zQ<|zQ<|zR<|zM Z<|yS Z (cC Z Z (by kernel_rfl))<|zM Z<|zN<|zT ?_;obtain ⟨v1, hb_v1, ho_v1⟩ := zB hr;clear hr;refine LW.tail (E := [(4, .zs), (5, (jV 0 v1.out))]) (O := [.vec 4 (v1.out.map aD)]) ?_<|fun env_v1 H_v1 hw_v1 => ?_
 ·refine LW.block ?_;refine LW.iterB (E := fun x1 : ec => [(4, .zs), (5, (jV 0 x1.out)), (10, (kV b)), (11, .p (.int .i64 (b.length : Int))), (12, (iQ x1.t12))]) (O := fun x1 => [.vec 4 (x1.out.map aD)]) hb_v1 (zW 1 ⟨rfl, rfl, rfl, rfl, rfl, trivial⟩ Z Z Z Z)<|fun x1 z_x1 hr hb_x1 => ?_;unfold ks at hr;refine zQ<|zR<|yS Z (ax Z Z Z Z)<|zN<|zT<|zQ ?_;refine zX Z (fun g1 => ?_)<|fun g1 => ?_
  ·
   refine zi g1 hr fun hr => zk<|zT<|zQ<|zl<|zQ<|zR<|zb hr fun y1 h_y1 hr => yS Z (zx Z Z Z cZ h_y1 Z)<|yS Z (cT Z Z Z co Z Z)<|yS Z (ze Z rR Z Z)<|yS Z (zs Z Z Z Z co Z Z Z Z)<|zN<|zT<|zQ<|zR<|zM Z<|yS Z (zD Z Z Z co Z Z)<|zb hr fun v2 h_v2 hr => yS Z (zC Z Z Z (by kernel_rfl) (LC.lend (FT h_v2) (.cons (Conv.vecAll Z Z Z) (.cons zv .nil)) Z))<|yS Z (ab.not Z Z)<|zN<|zT ?_;refine zX Z (fun g2 => ?_)<|fun g2 => ?_
   ·
    refine zi g2 hr fun hr => zR<|zM Z<|yS Z (zD Z Z Z co Z Z)<|yS Z (mA Z cZ Z Z Z Z Z)<|zg hr fun q2 hr => yS Z (ab.appendX aD x1.out [y1] rfl Z Z Z kE.p Z cZ q2 Z)<|zM Z<|zN<|ai<|zT<|zR<|yS Z (ax Z Z Z Z)<|zM Z<|zN<|zT ?_;obtain rfl := zJ hr;exact ⟨_, rfl, zW 1 ⟨rfl, rfl, rfl, rfl, rfl, trivial⟩ Z Z Z rfl⟩
   ·
    refine zo g2 hr fun hr => zk<|ai<|zT<|zR<|yS Z (ax Z Z Z Z)<|zM Z<|zN<|zT ?_;obtain rfl := zJ hr;exact ⟨_, rfl, zW 1 ⟨rfl, rfl, rfl, rfl, rfl, trivial⟩ Z Z Z rfl⟩
  ·
   refine zo g1 hr fun hr => zq<|ao<|ao<|zy<|zT ?_;obtain rfl := zJ hr;have hr := congrArg some (hb_x1 _ rfl);obtain rfl := zJ hr;exact zW 1 ⟨Z, Z, trivial⟩ Z Z Z Z
 ·have hr := ho_v1;clear hb_v1;refine zT<|LW.weak hw_v1<|zQ<|zR<|zM Z<|zM Z<|zN<|zT<|zr ?_;obtain rfl := zJ hr;exact zf (.one (.tmp Z))<|(Conv.vecAll Z Z Z)
def zF (a : Vw) (b : Vw) : Option Vw :=
 (yy a.B b.B).bind fun v1 =>
 (yz a.V b.V).bind fun v2 =>
 some (Vw.mk v1 v2)
theorem Eo {a : Vw} {b : Vw} {r_ : Vw} (hr : zF a b = some r_) : aw Tryz.prog 68 [kZ a, kZ b] [kZ r_] := by
 refine zh Tryz.func68 Z Z Z Z ?_;unfold zF at hr;refine zQ<|zR<|yS Z (bV Z Z Z Z Z)<|yS Z (bV Z Z Z Z Z)<|yS Z (ze Z iS Z Z)<|zN<|zT<|zQ<|LW.drawLast (m := 11) (by kernel_rfl) (by kernel_rfl) (by kernel_rfl)<|yE Z (zA Z Z br)<|yE Z (zD Z Z Z dr Z Z)<|yE Z (zA Z Z br)<|yE Z (zD Z Z Z dr Z Z)<|zb hr fun v1 h_v1 hr => yE Z (zC Z Z Z (by kernel_rfl) (zp (Ig h_v1) (.cons zv (.cons zv .nil))))<|yE Z (zA Z Z bG)<|yE Z (zD Z Z Z dP Z Z)<|yE Z (zA Z Z bG)<|yE Z (zD Z Z Z dP Z Z)<|zb hr fun v2 h_v2 hr => yE Z (zC Z Z Z (by kernel_rfl) (zp (Ih h_v2) (.cons zv (.cons zv .nil))))<|yE Z (ab.build Z oP Z Z Z)<|LO.nil<|yS Z (zs Z Z Z Z aK Z Z Z Z) ?_;refine zN<|zT<|zr ?_;obtain rfl := zJ hr;exact zf (.one (.cellAgg Z Z (by kernel_rfl) Z)) zv
structure HL where
 n : Int
 i : Int
structure fd where
 i : Int
def kj (a : List Vt) (b : List Vt) (x1 : fd) : Option (fd ⊕ (fd ⊕ Bool)) :=
 bif decide (x1.i < (a.length : Int)) then
  (ix a x1.i).bind fun y1 =>
  (ix b x1.i).bind fun y2 =>
  bif !((y1.From == y2.From) && ((y1.Slot == y2.Slot) && ((y1.Head.1 == y2.Head.1) && ((y1.Head.2 == y2.Head.2) && true)))) then
   some (.inr (.inr false))
  else
   some (.inl (fd.mk (IntKind.i64.wrap (x1.i + 1))))
 else
  some (.inr (.inl (fd.mk x1.i)))
def yp (a : List Vt) (b : List Vt) : Option Bool :=
 bif (a.length : Int) != (b.length : Int) then
  some false
 else
  (iter (kj a b) bH (fd.mk 0)).bind fun b_v1 => Sum.elim (fun _ =>
   some true) some b_v1
theorem If {a : List Vt} {b : List Vt} {r_ : Bool} (hr : yp a b = some r_) : aw Tryz.prog 77 [.slice 4 (a.map aD), .slice 4 (b.map aD)] [.bool r_] := by
 refine zh Tryz.func77 Z Z Z Z ?_;unfold yp at hr;refine zQ<|zR<|zM Z<|zN<|zT<|zQ<|zQ<|zR<|zM Z<|yS Z (cC Z Z (by kernel_rfl))<|zM Z<|yS Z (cC Z Z (by kernel_rfl))<|yS Z (ax Z Z Z Z)<|zN<|zT ?_;refine zX Z (fun g1 => ?_)<|fun g1 => ?_
 ·
  refine zi g1 hr fun hr => zQ<|zR<|zM Z<|zN<|zT<|zr<|af ?_;obtain rfl := zJ hr;exact zf (.one (.tmp Z)) zv
 ·
  refine zo g1 hr fun hr => zk<|zT<|zQ<|zQ<|zR<|zM Z<|zN<|zT ?_;obtain ⟨b_v1, hb_v1, ho_v1⟩ := zB hr;clear hr;refine LW.tailB (b := b_v1) (E := fun v1 => [(4, (bQ false))]) (O := fun v1 => []) ?_<|fun v1 e_v1 env_v1 H_v1 hw_v1 => ?_
  ·refine LW.block ?_;refine LW.iterB (E := fun x1 : fd => [(0, (kV a)), (1, (kV b)), (4, (bQ false)), (5, (iQ x1.i))]) (O := fun x1 => []) hb_v1 (zW 0 ⟨rfl, rfl, rfl, rfl, trivial⟩ Z Z Z Z)<|fun x1 z_x1 hr hb_x1 => ?_;unfold kj at hr;refine zQ<|zQ<|zR<|zM Z<|zM Z<|yS Z (cC Z Z (by kernel_rfl))<|yS Z (ax Z Z Z Z)<|zN<|zT ?_;refine zX Z (fun g2 => ?_)<|fun g2 => ?_
   ·
    refine zi g2 hr fun hr => zk<|zT<|zQ<|zl<|zQ<|LW.draw2 (by kernel_rfl) (by kernel_rfl)<|zH Z<|zH Z<|zb hr fun y1 h_y1 hr => yE Z (zx Z Z Z cZ h_y1 Z)<|yE Z (cT Z Z Z co Z Z)<|zH Z<|zH Z<|zb hr fun y2 h_y2 hr => yE Z (zx Z Z Z cZ h_y2 Z)<|yE Z (cT Z Z Z co Z Z)<|yE Z (ab.neqAgg Z Z Z Z Z AA)<|LO.nil<|zT ?_;refine zX Z (fun g3 => ?_)<|fun g3 => ?_
    ·
     refine zi g3 hr fun hr => zQ<|zR<|zM Z<|zN<|zT<|zr<|aq<|af<|af<|aq<|af<|af ?_;obtain rfl := zJ hr;have hr := congrArg some (hb_x1 _ rfl);obtain rfl := zJ hr;have hr := ck ho_v1;obtain rfl := zJ hr;exact zf (.one (.tmp Z)) zv
    ·
     refine zo g3 hr fun hr => zk<|ai<|zT<|zR<|zM Z<|yS Z (ax Z Z Z Z)<|zM Z<|zN<|zT ?_;obtain rfl := zJ hr;exact ⟨_, rfl, zW 0 ⟨rfl, rfl, rfl, rfl, trivial⟩ Z Z Z rfl⟩
   ·
    refine zo g2 hr fun hr => zq<|ao<|ao<|zy<|zT ?_;obtain rfl := zJ hr;have hr := congrArg some (hb_x1 _ rfl);obtain rfl := zJ hr;exact ⟨_, rfl, zW 0 ⟨rfl, trivial⟩ Z Z Z rfl⟩
  ·obtain rfl := e_v1;have hr := dK ho_v1;clear hb_v1;refine zT<|LW.weak hw_v1<|zQ<|zR<|zM Z<|zN<|zT<|zr ?_;obtain rfl := zJ hr;exact zf (.one (.tmp Z)) zv
structure fc where
 i : Int
def ki (a : List Bk) (b : List Bk) (x1 : fc) : Option (fc ⊕ (fc ⊕ Bool)) :=
 bif decide (x1.i < (a.length : Int)) then
  (ix a x1.i).bind fun y1 =>
  (ix b x1.i).bind fun y2 =>
  bif !((y1.Slot == y2.Slot) && ((y1.From == y2.From) && ((y1.Parent.1 == y2.Parent.1) && ((y1.Parent.2 == y2.Parent.2) && ((y1.Salt == y2.Salt) && true))))) then
   some (.inr (.inr false))
  else
   some (.inl (fc.mk (IntKind.i64.wrap (x1.i + 1))))
 else
  some (.inr (.inl (fc.mk x1.i)))
def yo (a : List Bk) (b : List Bk) : Option Bool :=
 bif (a.length : Int) != (b.length : Int) then
  some false
 else
  (iter (ki a b) bH (fc.mk 0)).bind fun b_v1 => Sum.elim (fun _ =>
   some true) some b_v1
theorem Ie {a : List Bk} {b : List Bk} {r_ : Bool} (hr : yo a b = some r_) : aw Tryz.prog 76 [.slice 5 (a.map ay), .slice 5 (b.map ay)] [.bool r_] := by
 refine zh Tryz.func76 Z Z Z Z ?_;unfold yo at hr;refine zQ<|zR<|zM Z<|zN<|zT<|zQ<|zQ<|zR<|zM Z<|yS Z (cC Z Z (by kernel_rfl))<|zM Z<|yS Z (cC Z Z (by kernel_rfl))<|yS Z (ax Z Z Z Z)<|zN<|zT ?_;refine zX Z (fun g1 => ?_)<|fun g1 => ?_
 ·
  refine zi g1 hr fun hr => zQ<|zR<|zM Z<|zN<|zT<|zr<|af ?_;obtain rfl := zJ hr;exact zf (.one (.tmp Z)) zv
 ·
  refine zo g1 hr fun hr => zk<|zT<|zQ<|zQ<|zR<|zM Z<|zN<|zT ?_;obtain ⟨b_v1, hb_v1, ho_v1⟩ := zB hr;clear hr;refine LW.tailB (b := b_v1) (E := fun v1 => [(4, (bQ false))]) (O := fun v1 => []) ?_<|fun v1 e_v1 env_v1 H_v1 hw_v1 => ?_
  ·refine LW.block ?_;refine LW.iterB (E := fun x1 : fc => [(0, (kB a)), (1, (kB b)), (4, (bQ false)), (5, (iQ x1.i))]) (O := fun x1 => []) hb_v1 (zW 0 ⟨rfl, rfl, rfl, rfl, trivial⟩ Z Z Z Z)<|fun x1 z_x1 hr hb_x1 => ?_;unfold ki at hr;refine zQ<|zQ<|zR<|zM Z<|zM Z<|yS Z (cC Z Z (by kernel_rfl))<|yS Z (ax Z Z Z Z)<|zN<|zT ?_;refine zX Z (fun g2 => ?_)<|fun g2 => ?_
   ·
    refine zi g2 hr fun hr => zk<|zT<|zQ<|zl<|zQ<|LW.draw2 (by kernel_rfl) (by kernel_rfl)<|zH Z<|zH Z<|zb hr fun y1 h_y1 hr => yE Z (zx Z Z Z dJ h_y1 Z)<|yE Z (cT Z Z Z cj Z Z)<|zH Z<|zH Z<|zb hr fun y2 h_y2 hr => yE Z (zx Z Z Z dJ h_y2 Z)<|yE Z (cT Z Z Z cj Z Z)<|yE Z (ab.neqAgg Z Z Z Z Z tc)<|LO.nil<|zT ?_;refine zX Z (fun g3 => ?_)<|fun g3 => ?_
    ·
     refine zi g3 hr fun hr => zQ<|zR<|zM Z<|zN<|zT<|zr<|aq<|af<|af<|aq<|af<|af ?_;obtain rfl := zJ hr;have hr := congrArg some (hb_x1 _ rfl);obtain rfl := zJ hr;have hr := ck ho_v1;obtain rfl := zJ hr;exact zf (.one (.tmp Z)) zv
    ·
     refine zo g3 hr fun hr => zk<|ai<|zT<|zR<|zM Z<|yS Z (ax Z Z Z Z)<|zM Z<|zN<|zT ?_;obtain rfl := zJ hr;exact ⟨_, rfl, zW 0 ⟨rfl, rfl, rfl, rfl, trivial⟩ Z Z Z rfl⟩
   ·
    refine zo g2 hr fun hr => zq<|ao<|ao<|zy<|zT ?_;obtain rfl := zJ hr;have hr := congrArg some (hb_x1 _ rfl);obtain rfl := zJ hr;exact ⟨_, rfl, zW 0 ⟨rfl, trivial⟩ Z Z Z rfl⟩
  ·obtain rfl := e_v1;have hr := dK ho_v1;clear hb_v1;refine zT<|LW.weak hw_v1<|zQ<|zR<|zM Z<|zN<|zT<|zr ?_;obtain rfl := zJ hr;exact zf (.one (.tmp Z)) zv
structure HI where
 i : Int
 o3 : List Bk
structure HJ where
 there : Bool
 k : Int
structure HK where
 i : Int
 o4 : List Vt
def D1 (a : Vw) (b : Vw) : Option Bool :=
 (yo a.B b.B).bind fun v1 =>
 (yp a.V b.V).bind fun v2 =>
 bif v1 then
  some v2
 else
  some false
theorem IC {a : Vw} {b : Vw} {r_ : Bool} (hr : D1 a b = some r_) : aw Tryz.prog 44 [kZ a, kZ b] [.bool r_] := by
 refine zh Tryz.func44 Z Z Z Z ?_;unfold D1 at hr;refine zQ<|zR<|yS Z (bV Z Z Z Z Z)<|yS Z (bV Z Z Z Z Z)<|zM Z<|zN<|zT<|zQ<|zR<|yS Z (zA Z Z br)<|yS Z (zD Z Z Z dr Z Z)<|yS Z (zA Z Z br)<|yS Z (zD Z Z Z dr Z Z)<|zb hr fun v1 h_v1 hr => yS Z (zC Z Z Z (by kernel_rfl) (zp (Ie h_v1) (.cons zv (.cons zv .nil))))<|zM Z<|zN<|zT<|zQ<|zR<|yS Z (zA Z Z bG)<|yS Z (zD Z Z Z dP Z Z)<|yS Z (zA Z Z bG)<|yS Z (zD Z Z Z dP Z Z) ?_;refine zb hr fun v2 h_v2 hr => yS Z (zC Z Z Z (by kernel_rfl) (zp (If h_v2) (.cons zv (.cons zv .nil))))<|zM Z<|zN<|zT<|zQ<|zR<|zM Z<|zM Z ?_;refine zc 18 Z (fun g1 => ?_)<|fun g1 => ?_
 ·
  refine zi g1 hr fun hr => yV Z (gd g1 Z) (zm Z Z)<|yS Z (ca Z (aN g1 Z) Z)<|zM Z<|zN<|zT<|zr ?_;obtain rfl := zJ hr;exact zf (.one (.tmp Z)) zv
 ·
  refine zo g1 hr fun hr => yU Z (gd g1 Z) Z<|yS Z (a8 Z (aN g1 Z) Z)<|zM Z<|zN<|zT<|zr ?_;obtain rfl := zJ hr;exact zf (.one (.tmp Z)) zv
def DW : Option Cf :=
 some (Cf.mk [1] 0 1 1 4)
theorem Id {r_ : Cf} (hr : DW = some r_) : aw Tryz.prog 45 [] [kG r_] := by
 refine zh Tryz.func45 Z Z Z Z ?_;unfold DW at hr;refine zQ<|zR<|yS Z (ze Z IS Z Z)<|zN<|zT<|zQ<|zR<|yS Z (mA Z fP Z Z Z Z Z)<|yS Z (ab.build Z H4 Z Z Z)<|yS Z (zs Z Z Z Z b6 Z Z Z Z)<|zN<|zT<|zr ?_;obtain rfl := zJ hr;exact zf (.one (.cellAgg Z Z (by kernel_rfl) Z)) zv
open Go.Proofs
structure d9 where
 t12 : Int
 out : List Bk
def kf (c : Cf) (l : List Bk) (x1 : d9) : Option (d9 ⊕ d9) :=
 bif decide (x1.t12 < (l.length : Int)) then
  (ix l x1.t12).bind fun y1 =>
  (Fn c y1).bind fun v2 =>
  bif v2 then
   bif b9 x1.out.length [y1].length 40 then
    some (.inl (d9.mk (IntKind.i64.wrap (x1.t12 + 1)) (x1.out ++ [y1])))
   else none
  else
   some (.inl (d9.mk (IntKind.i64.wrap (x1.t12 + 1)) x1.out))
 else
  some (.inr (d9.mk x1.t12 x1.out))
def wT (c : Cf) (l : List Bk) : Option (List Bk) :=
 (iter (kf c l) bH (d9.mk 0 ([] : List Bk))).bind fun v1 =>
 some v1.out
theorem Dl {c : Cf} {l : List Bk} {r_ : List Bk} (hr : wT c l = some r_) : LC Tryz.prog 132 [.p (kG c), (kB l), .fn 133 [] []] [] (Is (jB 0 r_) [.vec 5 (r_.map ay)]) := by
 refine dt Tryz.func132 Z Z Z ?_;unfold wT at hr;refine zQ<|zR<|yS Z (bV Z Z Z Z Z)<|zM Z<|zN<|zT<|zQ<|zR<|zM Z<|zN<|zT<|zQ<|zQ<|zR<|zM Z<|yS Z (cC Z Z (by kernel_rfl))<|zM Z<|zN<|zT<|LW.ent (bJ.lazy (t := 7) (m := 5) Z Z Z) ?_;obtain ⟨v1, hb_v1, ho_v1⟩ := zB hr;clear hr;refine LW.tail (E := [(6, .zs), (7, (jB 1 v1.out))]) (O := [.box (bN c), .vec 5 (v1.out.map ay)]) ?_<|fun env_v1 H_v1 hw_v1 => ?_
 ·refine LW.block ?_;refine LW.iterB (E := fun x1 : d9 => [(2, .fn 133 [] []), (3, .ptr 0 0), (6, .zs), (7, (jB 1 x1.out)), (10, (kB l)), (11, .p (.int .i64 (l.length : Int))), (12, (iQ x1.t12))]) (O := fun x1 => [.box (bN c), .vec 5 (x1.out.map ay)]) hb_v1 (zW 2 ⟨rfl, rfl, rfl, rfl, rfl, rfl, rfl, trivial⟩ Z Z Z Z)<|fun x1 z_x1 hr hb_x1 => ?_;unfold kf at hr;refine zQ<|zR<|yS Z (ax Z Z Z Z)<|zN<|zT<|zQ ?_;refine zX Z (fun g1 => ?_)<|fun g1 => ?_
  ·
   refine zi g1 hr fun hr => zk<|zT<|zQ<|zl<|zQ<|zR<|zb hr fun y1 h_y1 hr => yS Z (zx Z Z Z dJ h_y1 Z)<|yS Z (cT Z Z Z cj Z Z)<|yS Z (ze Z un Z Z)<|yS Z (zs Z Z Z Z cj Z Z Z Z)<|zN<|zT<|zQ<|zR<|zM Z<|yS Z (zD Z Z Z b6 Z Z)<|yS Z (zD Z Z Z cj Z Z)<|zb hr fun v2 h_v2 hr => yS Z (zC Z Z Z (by kernel_rfl) (zp (Jc h_v2) (.cons zv (.cons zv .nil))))<|zN<|zT ?_;refine zX Z (fun g2 => ?_)<|fun g2 => ?_
   ·
    refine zi g2 hr fun hr => zR<|zM Z<|yS Z (zD Z Z Z cj Z Z)<|yS Z (mA Z dJ Z Z Z Z Z)<|zg hr fun q1 hr => yS Z (ab.appendX ay x1.out [y1] rfl Z Z Z kE.p Z dJ q1 Z)<|zM Z<|zN<|ai<|zT<|zR<|yS Z (ax Z Z Z Z)<|zM Z<|zN<|zT ?_;obtain rfl := zJ hr;exact ⟨_, rfl, zW 2 ⟨rfl, rfl, rfl, rfl, rfl, rfl, rfl, trivial⟩ Z Z Z rfl⟩
   ·
    refine zo g2 hr fun hr => zk<|ai<|zT<|zR<|yS Z (ax Z Z Z Z)<|zM Z<|zN<|zT ?_;obtain rfl := zJ hr;exact ⟨_, rfl, zW 2 ⟨rfl, rfl, rfl, rfl, rfl, rfl, rfl, trivial⟩ Z Z Z rfl⟩
  ·
   refine zo g1 hr fun hr => zq<|ao<|ao<|zy<|zT ?_;obtain rfl := zJ hr;have hr := congrArg some (hb_x1 _ rfl);obtain rfl := zJ hr;exact zW 2 ⟨Z, Z, trivial⟩ Z Z Z Z
 ·have hr := ho_v1;clear hb_v1;refine zT<|LW.weak hw_v1<|zQ<|LW.ent (bJ.last (t := 7) (j := 0) (Hj := []) Z Z Z Z Z Z Z)<|zR<|zM Z<|zM Z<|zN<|zT<|zr ?_;obtain rfl := zJ hr;exact ap (.one (.tmp Z))<|⟨rfl, rfl⟩
structure ea where
 t12 : Int
 out : List Vt
def kg (c : Cf) (l : List Vt) (x1 : ea) : Option (ea ⊕ ea) :=
 bif decide (x1.t12 < (l.length : Int)) then
  (ix l x1.t12).bind fun y1 =>
  (Fo c y1).bind fun v2 =>
  bif v2 then
   bif b9 x1.out.length [y1].length 32 then
    some (.inl (ea.mk (IntKind.i64.wrap (x1.t12 + 1)) (x1.out ++ [y1])))
   else none
  else
   some (.inl (ea.mk (IntKind.i64.wrap (x1.t12 + 1)) x1.out))
 else
  some (.inr (ea.mk x1.t12 x1.out))
def wU (c : Cf) (l : List Vt) : Option (List Vt) :=
 (iter (kg c l) bH (ea.mk 0 ([] : List Vt))).bind fun v1 =>
 some v1.out
theorem Dm {c : Cf} {l : List Vt} {r_ : List Vt} (hr : wU c l = some r_) : LC Tryz.prog 134 [.p (kG c), (kV l), .fn 135 [] []] [] (Is (jV 0 r_) [.vec 4 (r_.map aD)]) := by
 refine dt Tryz.func134 Z Z Z ?_;unfold wU at hr;refine zQ<|zR<|yS Z (bV Z Z Z Z Z)<|zM Z<|zN<|zT<|zQ<|zR<|zM Z<|zN<|zT<|zQ<|zQ<|zR<|zM Z<|yS Z (cC Z Z (by kernel_rfl))<|zM Z<|zN<|zT<|LW.ent (bJ.lazy (t := 7) (m := 4) Z Z Z) ?_;obtain ⟨v1, hb_v1, ho_v1⟩ := zB hr;clear hr;refine LW.tail (E := [(6, .zs), (7, (jV 1 v1.out))]) (O := [.box (bN c), .vec 4 (v1.out.map aD)]) ?_<|fun env_v1 H_v1 hw_v1 => ?_
 ·refine LW.block ?_;refine LW.iterB (E := fun x1 : ea => [(2, .fn 135 [] []), (3, .ptr 0 0), (6, .zs), (7, (jV 1 x1.out)), (10, (kV l)), (11, .p (.int .i64 (l.length : Int))), (12, (iQ x1.t12))]) (O := fun x1 => [.box (bN c), .vec 4 (x1.out.map aD)]) hb_v1 (zW 2 ⟨rfl, rfl, rfl, rfl, rfl, rfl, rfl, trivial⟩ Z Z Z Z)<|fun x1 z_x1 hr hb_x1 => ?_;unfold kg at hr;refine zQ<|zR<|yS Z (ax Z Z Z Z)<|zN<|zT<|zQ ?_;refine zX Z (fun g1 => ?_)<|fun g1 => ?_
  ·
   refine zi g1 hr fun hr => zk<|zT<|zQ<|zl<|zQ<|zR<|zb hr fun y1 h_y1 hr => yS Z (zx Z Z Z cZ h_y1 Z)<|yS Z (cT Z Z Z co Z Z)<|yS Z (ze Z rR Z Z)<|yS Z (zs Z Z Z Z co Z Z Z Z)<|zN<|zT<|zQ<|zR<|zM Z<|yS Z (zD Z Z Z b6 Z Z)<|yS Z (zD Z Z Z co Z Z)<|zb hr fun v2 h_v2 hr => yS Z (zC Z Z Z (by kernel_rfl) (zp (Jd h_v2) (.cons zv (.cons zv .nil))))<|zN<|zT ?_;refine zX Z (fun g2 => ?_)<|fun g2 => ?_
   ·
    refine zi g2 hr fun hr => zR<|zM Z<|yS Z (zD Z Z Z co Z Z)<|yS Z (mA Z cZ Z Z Z Z Z)<|zg hr fun q1 hr => yS Z (ab.appendX aD x1.out [y1] rfl Z Z Z kE.p Z cZ q1 Z)<|zM Z<|zN<|ai<|zT<|zR<|yS Z (ax Z Z Z Z)<|zM Z<|zN<|zT ?_;obtain rfl := zJ hr;exact ⟨_, rfl, zW 2 ⟨rfl, rfl, rfl, rfl, rfl, rfl, rfl, trivial⟩ Z Z Z rfl⟩
   ·
    refine zo g2 hr fun hr => zk<|ai<|zT<|zR<|yS Z (ax Z Z Z Z)<|zM Z<|zN<|zT ?_;obtain rfl := zJ hr;exact ⟨_, rfl, zW 2 ⟨rfl, rfl, rfl, rfl, rfl, rfl, rfl, trivial⟩ Z Z Z rfl⟩
  ·
   refine zo g1 hr fun hr => zq<|ao<|ao<|zy<|zT ?_;obtain rfl := zJ hr;have hr := congrArg some (hb_x1 _ rfl);obtain rfl := zJ hr;exact zW 2 ⟨Z, Z, trivial⟩ Z Z Z Z
 ·have hr := ho_v1;clear hb_v1;refine zT<|LW.weak hw_v1<|zQ<|LW.ent (bJ.last (t := 7) (j := 0) (Hj := []) Z Z Z Z Z Z Z)<|zR<|zM Z<|zM Z<|zN<|zT<|zr ?_;obtain rfl := zJ hr;exact ap (.one (.tmp Z))<|⟨rfl, rfl⟩
def E7 (c : Cf) (v_in : Vw) : Option Vw :=
 (wT c v_in.B).bind fun v1 =>
 (wU c v_in.V).bind fun v2 =>
 some (Vw.mk v1 v2)
theorem IX {c : Cf} {v_in : Vw} {r_ : Vw} (hr : E7 c v_in = some r_) : aw Tryz.prog 97 [kG c, kZ v_in] [kZ r_] := by
 refine zh Tryz.func97 Z Z Z Z ?_;unfold E7 at hr;refine zQ<|zR<|yS Z (bV Z Z Z Z Z)<|yS Z (bV Z Z Z Z Z)<|yS Z (ze Z iS Z Z)<|zN<|zT<|zQ<|LW.ent (bJ.slot Z)<|LW.ent (bJ.slot Z)<|LW.drawW (by kernel_rfl) (by kernel_rfl)<|yF Z (zd Z Z Z b6 Z Z) Z ?_;refine yF (F := []) (s := none) Z (fun H _ => zA Z Z br) Z ?_;refine yF Z (zd Z Z Z dr Z Z) Z<|zb hr fun v1 h_v1 hr => ?_;refine yF Z (bE.callV (id := 3) (qs := [.p (kG c), (kB v_in.B), .fn 133 [] []]) Z Z Z (by kernel_rfl) (Dl h_v1) (fun H => (.consC zv (.consC zv (.consF .nil)))) Z) Z ?_;refine yF Z (zd Z Z Z b6 Z Z) Z ?_;refine yF (F := []) (s := none) Z (fun H _ => zA Z Z bG) Z ?_;refine yF Z (zd Z Z Z dP Z Z) Z<|zb hr fun v2 h_v2 hr => ?_;refine yF Z (bE.callV (id := 4) (qs := [.p (kG c), (kV v_in.V), .fn 135 [] []]) Z Z Z (by kernel_rfl) (Dm h_v2) (fun H => (.consC zv (.consC zv (.consF .nil)))) Z) Z ?_;refine yF (F := []) (s := none) Z (fun H _ => ab.build Z oP Z Z Z) Z ?_;refine yF Z (zt Z Z Z Z aK Z Z Z) Z ?_;refine LF.nil ⟨by kernel_rfl, ?_⟩;refine zT<|zr ?_;obtain rfl := zJ hr;exact zf (.one (.cellAgg Z Z (by kernel_rfl) Z))<|(Conv.agg (.cons (Conv.vecAll Z Z Z) (.cons (Conv.vecAll Z Z Z) .nil)))
def zw (c : Cf) (inp : Vw) : Option (List Bk × List Vt) :=
 (wT c inp.B).bind fun v1 =>
 (wU c inp.V).bind fun v2 =>
 some (v1, v2)
theorem Gu {c : Cf} {inp : Vw} {r_ : List Bk × List Vt} (hr : zw c inp = some r_) : LC Tryz.prog 97 [.p (kG c), .p (kZ inp)] [] (Is (.agg [(jB 3 r_.1), (jV 4 r_.2)]) [.box (bN c), .box (du inp), .box [(jB 3 r_.1), (jV 4 r_.2)], .vec 5 (r_.1.map ay), .vec 4 (r_.2.map aD)]) := by
 refine dt Tryz.func97 Z Z Z ?_;unfold zw at hr;refine zQ<|zR<|yS Z (bV Z Z Z Z Z)<|yS Z (bV Z Z Z Z Z)<|yS Z (ze Z iS Z Z)<|zN<|zT<|zQ<|LW.ent (bJ.slot Z)<|LW.ent (bJ.slot Z)<|LW.drawW (by kernel_rfl) (by kernel_rfl)<|yF Z (zd Z Z Z b6 Z Z) Z ?_;refine yF (F := []) (s := none) Z (fun H _ => zA Z Z br) Z ?_;refine yF Z (zd Z Z Z dr Z Z) Z<|zb hr fun v1 h_v1 hr => ?_;refine yF Z (bE.callV (id := 3) (qs := [.p (kG c), (kB inp.B), .fn 133 [] []]) Z Z Z (by kernel_rfl) (Dl h_v1) (fun H => (.consC zv (.consC zv (.consF .nil)))) Z) Z ?_;refine yF Z (zd Z Z Z b6 Z Z) Z ?_;refine yF (F := []) (s := none) Z (fun H _ => zA Z Z bG) Z ?_;refine yF Z (zd Z Z Z dP Z Z) Z<|zb hr fun v2 h_v2 hr => ?_;refine yF Z (bE.callV (id := 4) (qs := [.p (kG c), (kV inp.V), .fn 135 [] []]) Z Z Z (by kernel_rfl) (Dm h_v2) (fun H => (.consC zv (.consC zv (.consF .nil)))) Z) Z ?_;refine yF (F := []) (s := none) Z (fun H _ => ab.build Z oP Z Z Z) Z ?_;refine yF Z (zt Z Z Z Z aK Z Z Z) Z ?_;refine LF.nil ⟨by kernel_rfl, ?_⟩;refine zT<|zr ?_;obtain rfl := zJ hr;exact ap (.one (.cellAgg Z Z (by kernel_rfl) Z))<|⟨rfl, rfl⟩
structure eG where
 t27 : Int
 o3 : List (ID × Int)
structure eI where
 t43 : Int
 o4 : List (Vt × Bool)
def km (w : Vw) (x1 : eG) : Option (eG ⊕ eG) :=
 bif decide (x1.t27 < (w.B.length : Int)) then
  (ix w.B x1.t27).bind fun y1 =>
  some (.inl (eG.mk (IntKind.i64.wrap (x1.t27 + 1)) (aW x1.o3 (nm y1) y1.Slot)))
 else
  some (.inr (eG.mk x1.t27 x1.o3))
def ko (w : Vw) (x2 : eI) : Option (eI ⊕ eI) :=
 bif decide (x2.t43 < (w.V.length : Int)) then
  (ix w.V x2.t43).bind fun y2 =>
  some (.inl (eI.mk (IntKind.i64.wrap (x2.t43 + 1)) (aW x2.o4 y2 true)))
 else
  some (.inr (eI.mk x2.t43 x2.o4))
def wW (w : Vw) (_ : Int) : Option (List (ID × Int) × List (Vt × Bool)) :=
 bif b9 0 w.B.length 40 then
  bif b9 0 w.V.length 32 then
   (iter (km w) bH (eG.mk 0 (aW [] (0, 0) 0))).bind fun v1 =>
   (iter (ko w) bH (eI.mk 0 ([] : List (Vt × Bool)))).bind fun v2 =>
   some (v1.o3, v2.o4)
  else none
 else none
theorem Dn {w : Vw} {upto : Int} {r_ : List (ID × Int) × List (Vt × Bool)} (hr : wW w upto = some r_) : LC Tryz.prog 177 [.p (kZ w), (iQ upto)] [] (Is (.ptr 5 0) [.box (du w), .vec 5 (w.B.map ay), .vec 4 (w.V.map aD), (mQ r_.1), (mR r_.2), .box [(jB 1 w.B), (jV 2 w.V), .map 3, .map 4, (iQ upto), (bQ false)]]) := by
 refine dt Tryz.func177 Z Z Z ?_;unfold wW at hr;refine zQ<|zR<|yS Z (bV Z Z Z Z Z)<|zM Z<|zN<|zT<|zQ<|LW.ent (bJ.slot Z)<|LW.ent (bJ.slot Z)<|LW.ent (bJ.slot Z)<|LW.ent (bJ.slot Z)<|LW.ent (bJ.slot Z)<|LW.drawW (by kernel_rfl) (by kernel_rfl) ?_;refine yF (F := []) (s := none) Z (fun H _ => zA Z Z br) Z ?_;refine yF Z (zd Z Z Z dr Z Z) Z<|zg hr fun q1 hr => ?_;refine yF Z (bE.callV (id := 1) (qs := [(kB w.B)]) Z Z Z (by kernel_rfl) (sT q1) (fun H => (.consC zv .nil)) Z) Z ?_;refine yF (F := []) (s := none) Z (fun H _ => zA Z Z bG) Z ?_;refine yF Z (zd Z Z Z dP Z Z) Z<|zg hr fun q2 hr => ?_;refine yF Z (bE.callV (id := 2) (qs := [(kV w.V)]) Z Z Z (by kernel_rfl) (sU q2) (fun H => (.consC zv .nil)) Z) Z ?_;refine yF (F := []) (s := none) Z (fun H _ => ab.build Z oP Z Z Z) Z ?_;refine yF Z (bE.makeMap Z (id := 3) Z) Z ?_;refine yF (F := []) (s := none) Z (fun H _ => ab.build Z xk Z Z Z) Z ?_;refine yF Z (bE.setX (f := cw) (g := (fun v => (iQ v))) (m := ([] : List (ID × Int))) (0, 0) 0 dZ (.inr Z) Z Z Z Z Z jG) Z ?_;refine zK Z<|yF Z (bE.makeMap Z (id := 4) Z) Z<|zK Z ?_;refine yF (F := []) (s := none) Z (fun H _ => ab.build Z Fy Z Z Z) Z ?_;refine yF Z (bE.box Z Z Z (id := 5) Z) Z<|zK Z ?_;refine LF.nil ⟨by kernel_rfl, ?_⟩;refine zT<|zQ<|zQ<|zR<|yS Z (zA Z Z br)<|yS Z (zD Z Z Z dr Z Z)<|yS Z (cC Z Z (by kernel_rfl))<|zM Z<|zN<|zT ?_;obtain ⟨v1, hb_v1, ho_v1⟩ := zB hr;clear hr;refine LW.tail (E := [(2, .ptr 0 0), (5, .ptr 5 0)]) (O := [.box (du w), .vec 5 (w.B.map ay), .vec 4 (w.V.map aD), (mQ v1.o3), .map (ah aD (fun v => (bQ v)) []), .box [(jB 1 w.B), (jV 2 w.V), .map 3, .map 4, (iQ upto), (bQ false)]]) ?_<|fun env_v1 H_v1 hw_v1 => ?_
 ·refine LW.block ?_;refine LW.iterB (E := fun x1 : eG => [(2, .ptr 0 0), (5, .ptr 5 0), (25, (kB w.B)), (26, .p (.int .i64 (w.B.length : Int))), (27, (iQ x1.t27))]) (O := fun x1 => [.box (du w), .vec 5 (w.B.map ay), .vec 4 (w.V.map aD), (mQ x1.o3), .map (ah aD (fun v => (bQ v)) []), .box [(jB 1 w.B), (jV 2 w.V), .map 3, .map 4, (iQ upto), (bQ false)]]) hb_v1 (zW 6 ⟨rfl, rfl, rfl, rfl, rfl, trivial⟩ Z Z Z (zL Z (zL Z (zL Z (zL (ae (fun _ => rfl) _) (zL (ae (fun _ => rfl) _) (zL Z Z)))))))<|fun x1 z_x1 hr hb_x1 => ?_;unfold km at hr;refine zQ<|zR<|yS Z (ax Z Z Z Z)<|zN<|zT<|zQ ?_;refine zX Z (fun g1 => ?_)<|fun g1 => ?_
  ·
   refine zi g1 hr fun hr => zk<|zT<|zQ<|zl<|zQ<|zR<|zb hr fun y1 h_y1 hr => yS Z (zx Z Z Z dJ h_y1 Z)<|yS Z (cT Z Z Z cj Z Z)<|yS Z (ze Z un Z Z)<|yS Z (zs Z Z Z Z cj Z Z Z Z)<|zN<|zT<|LW.drawLast (m := 8) (by kernel_rfl) (by kernel_rfl) (by kernel_rfl)<|zH Z<|yE Z (zn Z Z)<|yE Z (zA Z Z kJ)<|yE Z (zD Z Z Z x7 Z Z)<|yE Z (zD Z Z Z cj Z Z)<|yE Z (zC Z Z Z (by kernel_rfl) (zp (Fc (b := y1)) (.cons zv .nil)))<|yE Z (zA Z Z jW)<|yE Z (zD Z Z Z aX Z Z)<|LO.nil ?_;refine yS Z (ab.setX (f := cw) (g := (fun v => (iQ v))) (nm y1) y1.Slot dZ (.inl Z) Z Z Z Z Z jG Z) ?_;refine zN<|ai<|zT<|zR<|yS Z (ax Z Z Z Z)<|zM Z<|zN<|zT ?_;obtain rfl := zJ hr;exact ⟨_, rfl, zW 6 ⟨rfl, rfl, rfl, rfl, rfl, trivial⟩ Z Z Z (zL Z (zL Z (zL Z (zL (ae (fun _ => rfl) _) (zL (ae (fun _ => rfl) _) (zL Z Z))))))⟩
  ·
   refine zo g1 hr fun hr => zq<|ao<|ao<|zy<|zT ?_;obtain rfl := zJ hr;have hr := congrArg some (hb_x1 _ rfl);obtain rfl := zJ hr;exact zW 6 ⟨Z, Z, trivial⟩ Z Z Z<|zL Z<|zL Z<|zL Z<|zL (ae (fun _ => rfl) _)<|zL (ae (fun _ => rfl) _)<|zL Z Z
 ·have hr := ho_v1;clear hb_v1;refine zT<|LW.weak hw_v1<|zQ<|zQ<|zR<|yS Z (zA Z Z bG)<|yS Z (zD Z Z Z dP Z Z)<|yS Z (cC Z Z (by kernel_rfl))<|zM Z<|zN<|zT ?_;obtain ⟨v2, hb_v2, ho_v2⟩ := zB hr;clear hr;refine LW.tail (E := [(5, .ptr 5 0)]) (O := [.box (du w), .vec 5 (w.B.map ay), .vec 4 (w.V.map aD), (mQ v1.o3), (mR v2.o4), .box [(jB 1 w.B), (jV 2 w.V), .map 3, .map 4, (iQ upto), (bQ false)]]) ?_<|fun env_v2 H_v2 hw_v2 => ?_
  ·refine LW.block ?_;refine LW.iterB (E := fun x2 : eI => [(5, .ptr 5 0), (41, (kV w.V)), (42, .p (.int .i64 (w.V.length : Int))), (43, (iQ x2.t43))]) (O := fun x2 => [.box (du w), .vec 5 (w.B.map ay), .vec 4 (w.V.map aD), (mQ v1.o3), (mR x2.o4), .box [(jB 1 w.B), (jV 2 w.V), .map 3, .map 4, (iQ upto), (bQ false)]]) hb_v2 (zW 6 ⟨rfl, rfl, rfl, rfl, trivial⟩ Z Z Z (zL Z (zL Z (zL Z (zL (ae (fun _ => rfl) _) (zL (ae (fun _ => rfl) _) (zL Z Z)))))))<|fun x2 z_x2 hr hb_x2 => ?_;unfold ko at hr;refine zQ<|zR<|yS Z (ax Z Z Z Z)<|zN<|zT<|zQ ?_;refine zX Z (fun g2 => ?_)<|fun g2 => ?_
   ·
    refine zi g2 hr fun hr => zk<|zT<|zQ<|zl<|zQ<|zR<|zb hr fun y2 h_y2 hr => yS Z (zx Z Z Z cZ h_y2 Z)<|yS Z (cT Z Z Z co Z Z)<|yS Z (ze Z rR Z Z)<|yS Z (zs Z Z Z Z co Z Z Z Z)<|zN<|zT<|LW.drawLast (m := 5) (by kernel_rfl) (by kernel_rfl) (by kernel_rfl)<|zH Z<|yE Z (zn Z Z)<|yE Z (zA Z Z nW)<|yE Z (zD Z Z Z wM Z Z)<|yE Z (zD Z Z Z co Z Z)<|LO.nil ?_;refine yS Z (ab.setX (f := aD) (g := (fun v => (bQ v))) y2 true wN (.inl Z) Z Z Z Z Z A1 Z) ?_;refine zN<|ai<|zT<|zR<|yS Z (ax Z Z Z Z)<|zM Z<|zN<|zT ?_;obtain rfl := zJ hr;exact ⟨_, rfl, zW 6 ⟨rfl, rfl, rfl, rfl, trivial⟩ Z Z Z (zL Z (zL Z (zL Z (zL (ae (fun _ => rfl) _) (zL (ae (fun _ => rfl) _) (zL Z Z))))))⟩
   ·
    refine zo g2 hr fun hr => zq<|ao<|ao<|zy<|zT ?_;obtain rfl := zJ hr;have hr := congrArg some (hb_x2 _ rfl);obtain rfl := zJ hr;exact zW 6 ⟨Z, trivial⟩ Z Z Z<|zL Z<|zL Z<|zL Z<|zL (ae (fun _ => rfl) _)<|zL (ae (fun _ => rfl) _)<|zL Z Z
  ·have hr := ho_v2;clear hb_v2;refine zT<|LW.weak hw_v2<|zQ<|zR<|zM Z<|zM Z<|zN<|zT<|zr ?_;obtain rfl := zJ hr;exact ap (.one (.tmp Z))<|⟨rfl, rfl⟩
theorem wm {α : Type} {f : α → PV} {d : Nat} (m : List (α × Int)) : ((ah f (fun v => (iQ v)) m).map fun e => (e.1, LV.shift d e.2)) = ah f (fun v => (iQ v)) m := Ay (fun _ => rfl) m
theorem wl {α : Type} {f : α → PV} {d : Nat} (m : List (α × Bool)) : ((ah f (fun v => (bQ v)) m).map fun e => (e.1, LV.shift d e.2)) = ah f (fun v => (bQ v)) m := Ay (fun _ => rfl) m
end Go.Mg
