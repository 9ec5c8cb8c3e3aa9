/- shuffle.At, Back, Perm. References of trees and cursors. Duties: what stands alone. duty.those: a closure. Sums of weights, and lists, over closures. Committees over closures. marigoldref04. Duties: the reference, the proposer. duty.Total, Weight, Committee, In. Weights of blocks, heads: what stands alone, and the reference. Weights of blocks; the head. Views: clones, and what stands alone. Views: what may be at all; a view that grows, begun. Conditions: none. -/
import Derived.Test.YtbjmcafamkdokaaGreatX3
import Derived.Test.YtbjmcafamkdokaaGreatX4
import Derived.Test.YtbjmcafamkdokaaGreatX2
set_option maxRecDepth 100000
set_option linter.unusedSimpArgs false
set_option linter.unusedVariables false
namespace Go.Mg
open Go.Proofs
def KX : Dk := ⟨fun _ => false, 0⟩
structure jp where
 i : Int
 t6 : Int
 d : Dk
def pj (seed : Int) (n : Int) (x1 : jp) : Option (jp ⊕ jp) :=
 bif decide (x1.t6 < 10) then
  bif rc n x1.t6 then
   some (.inl (jp.mk (q9 seed n x1.t6 x1.i) (IntKind.i64.wrap (x1.t6 + 1)) (x1.d.turned x1.t6)))
  else none
 else
  some (.inr (jp.mk x1.i x1.t6 x1.d))
def AY (seed : Int) (n : Int) (i : Int) (d : Dk) : Option (Int × Dk) :=
 (iter (pj seed n) bG (jp.mk i 0 d)).bind fun v1 =>
 some (v1.i, v1.d)
theorem IG {seed : Int} {n : Int} {i : Int} {d : Dk} {r_ : Int × Dk} (hr : AY seed n i d = some r_) : LC Tryz.prog 142 [.ptr 0 0, (iQ i)] [.box (iu seed n d)] (Is (iQ r_.1) [.box (iu seed n r_.2)]) := by
 refine dc Tryz.func142 Z Z Z ?_;unfold AY at hr;refine zQ<|zR<|zM Z<|zN<|zT<|zQ<|zQ<|zR<|zM Z<|zN<|zT ?_;obtain ⟨v1, hb_v1, ho_v1⟩ := zB hr;clear hr;refine LW.tail (E := [(1, (iQ v1.i)), (4, (iQ 0))]) (O := [.box (iu seed n v1.d)]) ?_<|fun env_v1 H_v1 hw_v1 => ?_
 ·refine LW.block ?_;refine LW.iterB (E := fun x1 : jp => [(0, .ptr 0 0), (1, (iQ x1.i)), (4, (iQ 0)), (6, (iQ x1.t6))]) (O := fun x1 => [.box (iu seed n x1.d)]) hb_v1 (zW 1 ⟨rfl, rfl, rfl, rfl, trivial⟩ Z Z Z Z)<|fun x1 z_x1 hr hb_x1 => ?_;unfold pj at hr;refine zQ<|zR<|yS Z (aw Z Z Z Z)<|zN<|zT<|zQ ?_;refine zX Z (fun g1 => ?_)<|fun g1 => ?_
  ·
   refine zi g1 hr fun hr => zk<|zT<|zQ<|zl<|zQ<|zR<|zM Z<|zM Z<|zN<|zT<|zR<|zM Z<|zM Z<|zM Z<|zg hr fun q1 hr => yS Z (zC Z Z Z (by kernel_rfl) (Ku q1))<|zM Z<|zN<|ai<|zT<|zR<|yS Z (aw Z Z Z Z)<|zM Z ?_;refine zN<|zT ?_;obtain rfl := zJ hr;exact ⟨_, rfl, zW 1 ⟨rfl, rfl, rfl, rfl, trivial⟩ Z Z Z rfl⟩
  ·
   refine zo g1 hr fun hr => zq<|ao<|ao<|zy<|zT ?_;obtain rfl := zJ hr;have hr := congrArg some (hb_x1 _ rfl);obtain rfl := zJ hr;exact zW 1 ⟨Z, Z, trivial⟩ Z Z Z Z
 ·have hr := ho_v1;clear hb_v1;refine zT<|LW.weak hw_v1<|zQ<|zR<|zM Z<|zM Z<|zN<|zT<|zr ?_;obtain rfl := zJ hr;exact ap (.one (.tmp Z))<|⟨rfl, rfl⟩
def AU (n : Int) (i : Int) : Option Bool :=
 bif decide (n > 0) then
  bif decide (n ≤ 1000) then
   bif decide (i ≥ 0) then
    some (decide (i < n))
   else
    some false
  else
   some false
 else
  some false
theorem Kt {n : Int} {i : Int} {r_ : Bool} (hr : AU n i = some r_) : av Tryz.prog 141 [.int .i64 n, .int .i64 i] [.bool r_] := by
 refine zh Tryz.func141 Z Z Z Z ?_;unfold AU at hr;refine zQ<|zR<|zM Z<|zN<|zT<|zQ<|zR<|zM Z<|yS Z (aw Z Z Z Z)<|zM Z ?_;refine zc 7 Z (fun g1 => ?_)<|fun g1 => ?_
 ·
  refine zi g1 hr fun hr => yV Z (gd g1 Z) (zm Z Z)<|yV Z (gd g1 Z) (aw Z Z Z Z)<|yS Z (eP Z (bL g1 Z) Z)<|zM Z ?_;refine zc 11 Z (fun g2 => ?_)<|fun g2 => ?_
  ·
   refine zi g2 hr fun hr => yV Z (gd g2 Z) (zm Z Z)<|yV Z (gd g2 Z) (aw Z Z Z Z)<|yS Z (eP Z (bL g2 Z) Z)<|zM Z ?_;refine zc 15 Z (fun g3 => ?_)<|fun g3 => ?_
   ·
    refine zi g3 hr fun hr => yV Z (gd g3 Z) (zm Z Z)<|yV Z (gd g3 Z) (zm Z Z)<|yV Z (gd g3 Z) (aw Z Z Z Z)<|yS Z (eP Z (bL g3 Z) Z)<|zM Z<|zN<|zT<|zr ?_;obtain rfl := zJ hr;exact zf (.one (.tmp Z)) zv
   ·
    refine zo g3 hr fun hr => yU Z (gd g3 Z) Z<|yU Z (gd g3 Z) Z<|yU Z (gd g3 Z) Z<|yS Z (db Z (bL g3 Z) Z)<|zM Z<|zN<|zT<|zr ?_;obtain rfl := zJ hr;exact zf (.one (.tmp Z)) zv
  ·
   refine zo g2 hr fun hr => yU Z (gd g2 Z) Z<|yU Z (gd g2 Z) Z<|yS Z (db Z (bL g2 Z) Z)<|zM Z<|yU Z Z Z<|yU Z Z Z<|yU Z Z Z<|yS Z (db Z Z Z)<|zM Z<|zN<|zT<|zr ?_;obtain rfl := zJ hr;exact zf (.one (.tmp Z)) zv
 ·
  refine zo g1 hr fun hr => yU Z (gd g1 Z) Z<|yU Z (gd g1 Z) Z<|yS Z (db Z (bL g1 Z) Z)<|zM Z<|yU Z Z Z<|yU Z Z Z<|yS Z (db Z Z Z)<|zM Z<|yU Z Z Z<|yU Z Z Z<|yU Z Z Z<|yS Z (db Z Z Z)<|zM Z<|zN<|zT<|zr ?_;obtain rfl := zJ hr;exact zf (.one (.tmp Z)) zv
structure lQ where
 t19 : Int
 d : Dk
 l : List Int
def pP (seed : Int) (n : Int) (x1 : lQ) : Option (lQ ⊕ lQ) :=
 bif decide (x1.t19 < ((List.replicate n.toNat (0 : Int)).length : Int)) then
  (AY seed n x1.t19 x1.d).bind fun v3 =>
  (ix x1.l x1.t19).bind fun _ =>
  some (.inl (lQ.mk (IntKind.i64.wrap (x1.t19 + 1)) v3.2 (x1.l.set x1.t19.toNat v3.1)))
 else
  some (.inr (lQ.mk x1.t19 x1.d x1.l))
def HA (seed : Int) (n : Int) : Option (List Int) :=
 (AU n 0).bind fun v1 =>
 bif !v1 then
  some []
 else
  bif Am n 8 then
   (iter (pP seed n) bG (lQ.mk 0 KX (List.replicate n.toNat (0 : Int)))).bind fun v2 =>
   bif decide (v2.d.k < n) then
    some []
   else
    some v2.l
  else none
theorem Lp {seed : Int} {n : Int} {r_ : (List Int)} (hr : HA seed n = some r_) : av Tryz.prog 103 [.int .u64 seed, .int .i64 n] [.slice 1 (r_.map aE)] := by
 refine zh Tryz.func103 Z Z Z Z ?_;unfold HA at hr;refine zQ<|zR<|zM Z<|zN<|zT<|zQ<|zQ<|zR<|zM Z<|zb hr fun v1 h_v1 hr => yS Z (zC Z Z Z (by kernel_rfl) (zp (Kt h_v1) (.cons zv (.cons zv .nil))))<|yS Z (ab.not Z Z)<|zN<|zT ?_;refine zX Z (fun g1 => ?_)<|fun g1 => ?_
 ·
  refine zi g1 hr fun hr => zQ<|zR<|zM Z<|zN<|zT<|zr<|aj ?_;obtain rfl := zJ hr;exact zf (.one (.tmp Z)) Conv.zs
 ·
  refine zo g1 hr fun hr => zk<|zT<|zQ<|zR<|zM Z<|zM Z<|yS Z (ab.build Z HM Z Z Z)<|yS Z (bV (H' := [.box (iu seed n KX)]) Z Z Z Z Z)<|zM Z<|zN<|zT<|zQ<|zR<|zM Z<|zg hr fun q1 hr => yS Z (ab.makeSliceX aE 0 Z Z Z fY (z := .int .i64 0) (by kernel_rfl) Z q1 Z Z)<|zM Z<|zN<|zT<|zQ<|zQ<|zR<|zM Z ?_;refine yS Z (ab.lenVM Z Z Z (by kernel_rfl))<|zM Z<|zN<|zT ?_;obtain ⟨v2, hb_v2, ho_v2⟩ := zB hr;clear hr;refine LW.tail (E := [(1, (iQ n)), (4, .zs), (5, .ptr 0 0), (6, (jI 1 v2.l))]) (O := [.box (iu seed n v2.d), .vec 1 (v2.l.map aE)]) ?_<|fun env_v2 H_v2 hw_v2 => ?_
  ·refine LW.block ?_;refine LW.iterB (E := fun x1 : lQ => [(1, (iQ n)), (4, .zs), (5, .ptr 0 0), (6, (jI 1 x1.l)), (18, .p (.int .i64 ((List.replicate n.toNat (0 : Int)).length : Int))), (19, (iQ x1.t19))]) (O := fun x1 => [.box (iu seed n x1.d), .vec 1 (x1.l.map aE)]) hb_v2 (zW 2 ⟨rfl, rfl, rfl, rfl, rfl, rfl, trivial⟩ Z Z Z Z)<|fun x1 z_x1 hr hb_x1 => ?_;unfold pP at hr;refine zQ<|zR<|yS Z (aw Z Z Z Z)<|zN<|zT<|zQ ?_;refine zX Z (fun g2 => ?_)<|fun g2 => ?_
   ·
    refine zi g2 hr fun hr => zk<|zT<|zQ<|zl<|zQ<|zR<|zM Z<|zM Z<|zN<|zT<|zR<|zM Z<|zM Z<|zM Z<|zM Z<|zb hr fun v3 h_v3 hr => yS Z (zC Z Z Z (by kernel_rfl) (LC.pre (IG h_v3) Z Z Z))<|zb hr fun y1 h_y1 hr => yS Z (ab.indexAddrVX Z Z Z Z fY h_y1) ?_;refine yS Z (ab.storeVX (f := aE) (l := x1.l) v3.1 Z Z Z Z bC (fun _ => rfl) h_y1 Z) ?_;refine zN<|ai<|zT<|zR<|yS Z (aw Z Z Z Z)<|zM Z<|zN<|zT ?_;obtain rfl := zJ hr;exact ⟨_, rfl, zW 2 ⟨rfl, rfl, rfl, (K3 (rfl)), rfl, rfl, trivial⟩ Z Z Z rfl⟩
   ·
    refine zo g2 hr fun hr => zq<|ao<|ao<|zy<|zT ?_;obtain rfl := zJ hr;have hr := congrArg some (hb_x1 _ rfl);obtain rfl := zJ hr;exact zW 2 ⟨Z, Z, Z, Z, trivial⟩ Z Z Z Z
  ·have hr := ho_v2;clear hb_v2;refine zT<|LW.weak hw_v2<|zQ<|zQ<|zR<|zM Z<|yS Z (zn Z Z)<|yS Z (zA Z Z ti)<|yS Z (zC Z Z Z (by kernel_rfl) (Kv (off := 52) Z Z))<|zM Z<|yS Z (aw Z Z Z Z)<|zN<|zT ?_;refine zX Z (fun g3 => ?_)<|fun g3 => ?_
   ·
    refine zi g3 hr fun hr => zQ<|zR<|zM Z<|zN<|zT<|zr<|aj ?_;obtain rfl := zJ hr;exact zf (.one (.tmp Z)) Conv.zs
   ·
    refine zo g3 hr fun hr => zk<|zT<|zQ<|zR<|zM Z<|zM Z<|zN<|zT<|zr ?_;obtain rfl := zJ hr;exact zf (.one (.tmp Z))<|(Conv.vecAll Z Z Z)
open Go.Proofs
open Go.Proofs
structure ib where
 m : Int
 i : Int
def mG (x : List Int) (x1 : ib) : Option (ib ⊕ ib) :=
 bif decide (x1.i < (x.length : Int)) then
  (ix x x1.i).bind fun y2 =>
  some (.inl (ib.mk (if y2 < x1.m then y2 else x1.m) (IntKind.i64.wrap (x1.i + 1))))
 else
  some (.inr (ib.mk x1.m x1.i))
def A4 (x : List Int) : Option Int :=
 bif decide ((x.length : Int) < 1) then
  none
 else
  (ix x 0).bind fun y1 =>
  (iter (mG x) bG (ib.mk y1 1)).bind fun v1 =>
  some v1.m
theorem Kw {x : List Int} {r_ : Int} (hr : A4 x = some r_) : av Tryz.prog 78 [.slice 1 (x.map aE)] [.int .i64 r_] := by
 refine zh Tryz.func78 Z Z Z Z ?_;unfold A4 at hr;refine zQ<|zR<|zM Z<|zN<|zT<|zQ<|zQ<|zR<|zM Z<|yS Z (dT Z Z (by kernel_rfl))<|yS Z (aw Z Z Z Z)<|zN<|zT ?_;refine zX Z (fun g1 => ?_)<|fun g1 => ?_
 ·
  have hr := zI g1 hr;cases hr
 ·
  refine zo g1 hr fun hr => zk<|zT<|zQ<|zR<|zM Z<|zb hr fun y1 h_y1 hr => yS Z (zx Z Z Z fY h_y1 Z)<|yS Z (dS Z Z Z bC Z Z)<|zM Z<|zN<|zT<|zQ<|zQ<|zR<|zM Z<|zN<|zT ?_;obtain ⟨v1, hb_v1, ho_v1⟩ := zB hr;clear hr;refine LW.tail (E := [(2, (iQ 0)), (3, (iQ v1.m))]) (O := []) ?_<|fun env_v1 H_v1 hw_v1 => ?_
  ·refine LW.block ?_;refine LW.iterB (E := fun x1 : ib => [(0, (kI x)), (2, (iQ 0)), (3, (iQ x1.m)), (4, (iQ x1.i))]) (O := fun x1 => []) hb_v1 (zW 0 ⟨rfl, rfl, rfl, rfl, trivial⟩ Z Z Z Z)<|fun x1 z_x1 hr hb_x1 => ?_;unfold mG at hr;refine zQ<|zQ<|zR<|zM Z<|zM Z<|yS Z (dT Z Z (by kernel_rfl))<|yS Z (aw Z Z Z Z)<|zN<|zT ?_;refine zX Z (fun g2 => ?_)<|fun g2 => ?_
   ·
    refine zi g2 hr fun hr => zk<|zT<|zQ<|zl<|zR<|zM Z<|zM Z<|zM Z<|zb hr fun y2 h_y2 hr => yS Z (zx Z Z Z fY h_y2 Z)<|yS Z (dS Z Z Z bC Z Z)<|yS Z (ab.min Z Z Z)<|zM Z<|zN<|ai<|zT<|zR<|zM Z<|yS Z (aw Z Z Z Z)<|zM Z<|zN<|zT ?_;obtain rfl := zJ hr;exact ⟨_, rfl, zW 0 ⟨rfl, rfl, rfl, rfl, trivial⟩ Z Z Z rfl⟩
   ·
    refine zo g2 hr fun hr => zq<|ao<|ao<|zy<|zT ?_;obtain rfl := zJ hr;have hr := congrArg some (hb_x1 _ rfl);obtain rfl := zJ hr;exact zW 0 ⟨Z, Z, trivial⟩ Z Z Z Z
  ·have hr := ho_v1;clear hb_v1;refine zT<|LW.weak hw_v1<|zQ<|zR<|zM Z<|zM Z<|zN<|zT<|zr ?_;obtain rfl := zJ hr;exact zf (.one (.tmp Z)) zv
structure ic where
 m : Int
 i : Int
def mH (x : List Int) (x1 : ic) : Option (ic ⊕ ic) :=
 bif decide (x1.i < (x.length : Int)) then
  (ix x x1.i).bind fun y2 =>
  some (.inl (ic.mk (if y2 > x1.m then y2 else x1.m) (IntKind.i64.wrap (x1.i + 1))))
 else
  some (.inr (ic.mk x1.m x1.i))
def A5 (x : List Int) : Option Int :=
 bif decide ((x.length : Int) < 1) then
  none
 else
  (ix x 0).bind fun y1 =>
  (iter (mH x) bG (ic.mk y1 1)).bind fun v1 =>
  some v1.m
theorem Kx {x : List Int} {r_ : Int} (hr : A5 x = some r_) : av Tryz.prog 79 [.slice 1 (x.map aE)] [.int .i64 r_] := by
 refine zh Tryz.func79 Z Z Z Z ?_;unfold A5 at hr;refine zQ<|zR<|zM Z<|zN<|zT<|zQ<|zQ<|zR<|zM Z<|yS Z (dT Z Z (by kernel_rfl))<|yS Z (aw Z Z Z Z)<|zN<|zT ?_;refine zX Z (fun g1 => ?_)<|fun g1 => ?_
 ·
  have hr := zI g1 hr;cases hr
 ·
  refine zo g1 hr fun hr => zk<|zT<|zQ<|zR<|zM Z<|zb hr fun y1 h_y1 hr => yS Z (zx Z Z Z fY h_y1 Z)<|yS Z (dS Z Z Z bC Z Z)<|zM Z<|zN<|zT<|zQ<|zQ<|zR<|zM Z<|zN<|zT ?_;obtain ⟨v1, hb_v1, ho_v1⟩ := zB hr;clear hr;refine LW.tail (E := [(2, (iQ 0)), (3, (iQ v1.m))]) (O := []) ?_<|fun env_v1 H_v1 hw_v1 => ?_
  ·refine LW.block ?_;refine LW.iterB (E := fun x1 : ic => [(0, (kI x)), (2, (iQ 0)), (3, (iQ x1.m)), (4, (iQ x1.i))]) (O := fun x1 => []) hb_v1 (zW 0 ⟨rfl, rfl, rfl, rfl, trivial⟩ Z Z Z Z)<|fun x1 z_x1 hr hb_x1 => ?_;unfold mH at hr;refine zQ<|zQ<|zR<|zM Z<|zM Z<|yS Z (dT Z Z (by kernel_rfl))<|yS Z (aw Z Z Z Z)<|zN<|zT ?_;refine zX Z (fun g2 => ?_)<|fun g2 => ?_
   ·
    refine zi g2 hr fun hr => zk<|zT<|zQ<|zl<|zR<|zM Z<|zM Z<|zM Z<|zb hr fun y2 h_y2 hr => yS Z (zx Z Z Z fY h_y2 Z)<|yS Z (dS Z Z Z bC Z Z)<|yS Z (ab.max Z Z Z)<|zM Z<|zN<|ai<|zT<|zR<|zM Z<|yS Z (aw Z Z Z Z)<|zM Z<|zN<|zT ?_;obtain rfl := zJ hr;exact ⟨_, rfl, zW 0 ⟨rfl, rfl, rfl, rfl, trivial⟩ Z Z Z rfl⟩
   ·
    refine zo g2 hr fun hr => zq<|ao<|ao<|zy<|zT ?_;obtain rfl := zJ hr;have hr := congrArg some (hb_x1 _ rfl);obtain rfl := zJ hr;exact zW 0 ⟨Z, Z, trivial⟩ Z Z Z Z
  ·have hr := ho_v1;clear hb_v1;refine zT<|LW.weak hw_v1<|zQ<|zR<|zM Z<|zM Z<|zN<|zT<|zr ?_;obtain rfl := zJ hr;exact zf (.one (.tmp Z)) zv
def yP (c : Cf) : Option Bool :=
 (
  bif (c.W.length : Int) == 0 then
   some true
  else
   bif decide ((c.W.length : Int) > 12) then
    some true
   else
    (A4 c.W).bind fun v2 =>
    bif decide (v2 < 0) then
     some true
    else
     (A5 c.W).bind fun v3 =>
     some (decide (v3 > 1099511627776))
 ).bind fun v1 =>
 bif v1 then
  some false
 else
  bif decide (c.Epoch > 0) then
   bif decide (c.Epoch ≤ 8) then
    bif decide (c.Num ≥ 0) then
     bif decide (c.Num ≤ c.Den) then
      bif decide (c.Den > 0) then
       some (decide (c.Den ≤ 1000))
      else
       some false
     else
      some false
    else
     some false
   else
    some false
  else
   some false
theorem Gv {c : Cf} {r_ : Bool} (hr : yP c = some r_) : av Tryz.prog 47 [jx c] [.bool r_] := by
 refine zh Tryz.func47 Z Z Z Z ?_;unfold yP at hr;refine zQ<|zR<|yS Z (bV Z Z Z Z Z)<|zM Z<|zN<|zT<|zQ ?_;obtain ⟨v1, hb_v1, ho_v1⟩ := zB hr;clear hr;refine LW.cut (E := [(1, .ptr 0 0), (2, (bQ false)), (24, (bQ v1))]) (O := [.box (bB c)]) ?_ ?_
 ·have hr := hb_v1;refine zR<|yS Z (zA Z Z gM)<|yS Z (zD Z Z Z fh Z Z)<|yS Z (dT Z Z (by kernel_rfl))<|yS Z (aw Z Z Z Z)<|zM Z ?_;refine zc 7 Z (fun g1 => ?_)<|fun g1 => ?_
  ·
   refine zi g1 hr fun hr => yU Z (gd g1 Z) Z<|yU Z (gd g1 Z) Z<|yU Z (gd g1 Z) Z<|yU Z (gd g1 Z) Z<|yS Z (eP Z (bL g1 Z) Z)<|zM Z<|yU Z Z Z<|yU Z Z Z<|yU Z Z Z<|yU Z Z Z<|yS Z (eP Z Z Z)<|zM Z<|yU Z Z Z<|yU Z Z Z<|yU Z Z Z<|yU Z Z Z<|yS Z (eP Z Z Z)<|zN<|zT ?_;obtain rfl := zJ hr;exact zW 1 ⟨Z, Z, Z, trivial⟩ Z Z Z Z
  ·
   refine zo g1 hr fun hr => yV Z (gd g1 Z) (zA Z Z gM)<|yV Z (gd g1 Z) (zD Z Z Z fh Z Z)<|yV Z (gd g1 Z) (dT Z Z (by kernel_rfl))<|yV Z (gd g1 Z) (aw Z Z Z Z)<|yS Z (db Z (bL g1 Z) Z)<|zM Z ?_;refine zc 13 Z (fun g2 => ?_)<|fun g2 => ?_
   ·
    refine zi g2 hr fun hr => yU Z (gd g2 Z) Z<|yU Z (gd g2 Z) Z<|yU Z (gd g2 Z) Z<|yU Z (gd g2 Z) Z<|yS Z (eP Z (bL g2 Z) Z)<|zM Z<|yU Z Z Z<|yU Z Z Z<|yU Z Z Z<|yU Z Z Z<|yS Z (eP Z Z Z)<|zN<|zT ?_;obtain rfl := zJ hr;exact zW 1 ⟨Z, Z, Z, trivial⟩ Z Z Z Z
   ·
    refine zo g2 hr fun hr => yV Z (gd g2 Z) (zA Z Z gM)<|yV Z (gd g2 Z) (zD Z Z Z fh Z Z)<|zb hr fun v2 h_v2 hr => yV Z (gd g2 Z) (zC Z Z Z (by kernel_rfl) (zp (Kw h_v2) (.cons zv .nil)))<|yV Z (gd g2 Z) (aw Z Z Z Z)<|yS Z (db Z (bL g2 Z) Z)<|zM Z ?_;refine zc 19 Z (fun g3 => ?_)<|fun g3 => ?_
    ·
     refine zi g3 hr fun hr => yU Z (gd g3 Z) Z<|yU Z (gd g3 Z) Z<|yU Z (gd g3 Z) Z<|yU Z (gd g3 Z) Z<|yS Z (eP Z (bL g3 Z) Z)<|zN<|zT ?_;obtain rfl := zJ hr;exact zW 1 ⟨Z, Z, Z, trivial⟩ Z Z Z Z
    ·
     refine zo g3 hr fun hr => yV Z (gd g3 Z) (zA Z Z gM)<|yV Z (gd g3 Z) (zD Z Z Z fh Z Z)<|zb hr fun v3 h_v3 hr => yV Z (gd g3 Z) (zC Z Z Z (by kernel_rfl) (zp (Kx h_v3) (.cons zv .nil)))<|yV Z (gd g3 Z) (aw Z Z Z Z)<|yS Z (db Z (bL g3 Z) Z)<|zN<|zT ?_;obtain rfl := zJ hr;exact zW 1 ⟨Z, Z, Z, trivial⟩ Z Z Z Z
 ·have hr := ho_v1;clear hb_v1;refine zX Z (fun g4 => ?_)<|fun g4 => ?_
  ·
   refine zi g4 hr fun hr => zQ<|zR<|zM Z<|zN<|zT<|zr<|aj ?_;obtain rfl := zJ hr;exact zf (.one (.tmp Z)) zv
  ·
   refine zo g4 hr fun hr => zk<|zT<|zQ<|zR<|yS Z (zA Z Z qx)<|yS Z (zD Z Z Z bC Z Z)<|yS Z (aw Z Z Z Z)<|zM Z ?_;refine zc 28 Z (fun g5 => ?_)<|fun g5 => ?_
   ·
    refine zi g5 hr fun hr => yV Z (gd g5 Z) (zA Z Z qx)<|yV Z (gd g5 Z) (zD Z Z Z bC Z Z)<|yV Z (gd g5 Z) (aw Z Z Z Z)<|yS Z (eP Z (bL g5 Z) Z)<|zM Z ?_;refine zc 33 Z (fun g6 => ?_)<|fun g6 => ?_
    ·
     refine zi g6 hr fun hr => yV Z (gd g6 Z) (zA Z Z wK)<|yV Z (gd g6 Z) (zD Z Z Z bC Z Z)<|yV Z (gd g6 Z) (aw Z Z Z Z)<|yS Z (eP Z (bL g6 Z) Z)<|zM Z ?_;refine zc 38 Z (fun g7 => ?_)<|fun g7 => ?_
     ·
      refine zi g7 hr fun hr => yV Z (gd g7 Z) (zA Z Z wK)<|yV Z (gd g7 Z) (zD Z Z Z bC Z Z)<|yV Z (gd g7 Z) (zA Z Z qy)<|yV Z (gd g7 Z) (zD Z Z Z bC Z Z)<|yV Z (gd g7 Z) (aw Z Z Z Z)<|yS Z (eP Z (bL g7 Z) Z)<|zM Z ?_;refine zc 45 Z (fun g8 => ?_)<|fun g8 => ?_
      ·
       refine zi g8 hr fun hr => yV Z (gd g8 Z) (zA Z Z qy)<|yV Z (gd g8 Z) (zD Z Z Z bC Z Z)<|yV Z (gd g8 Z) (aw Z Z Z Z)<|yS Z (eP Z (bL g8 Z) Z)<|zM Z ?_;refine zc 50 Z (fun g9 => ?_)<|fun g9 => ?_
       ·
        refine zi g9 hr fun hr => yV Z (gd g9 Z) (zA Z Z qy)<|yV Z (gd g9 Z) (zD Z Z Z bC Z Z)<|yV Z (gd g9 Z) (aw Z Z Z Z)<|yS Z (eP Z (bL g9 Z) Z)<|zM Z<|zN<|zT<|zr ?_;obtain rfl := zJ hr;exact zf (.one (.tmp Z)) zv
       ·
        refine zo g9 hr fun hr => yU Z (gd g9 Z) Z<|yU Z (gd g9 Z) Z<|yU Z (gd g9 Z) Z<|yS Z (db Z (bL g9 Z) Z)<|zM Z<|zN<|zT<|zr ?_;obtain rfl := zJ hr;exact zf (.one (.tmp Z)) zv
      ·
       refine zo g8 hr fun hr => yU Z (gd g8 Z) Z<|yU Z (gd g8 Z) Z<|yU Z (gd g8 Z) Z<|yS Z (db Z (bL g8 Z) Z)<|zM Z<|yU Z Z Z<|yU Z Z Z<|yU Z Z Z<|yS Z (db Z Z Z)<|zM Z<|zN<|zT<|zr ?_;obtain rfl := zJ hr;exact zf (.one (.tmp Z)) zv
     ·
      refine zo g7 hr fun hr => yU Z (gd g7 Z) Z<|yU Z (gd g7 Z) Z<|yU Z (gd g7 Z) Z<|yU Z (gd g7 Z) Z<|yU Z (gd g7 Z) Z<|yS Z (db Z (bL g7 Z) Z)<|zM Z<|yU Z Z Z<|yU Z Z Z<|yU Z Z Z<|yS Z (db Z Z Z)<|zM Z<|yU Z Z Z<|yU Z Z Z<|yU Z Z Z<|yS Z (db Z Z Z)<|zM Z<|zN<|zT<|zr ?_;obtain rfl := zJ hr;exact zf (.one (.tmp Z)) zv
    ·
     refine zo g6 hr fun hr => yU Z (gd g6 Z) Z<|yU Z (gd g6 Z) Z<|yU Z (gd g6 Z) Z<|yS Z (db Z (bL g6 Z) Z)<|zM Z<|yU Z Z Z<|yU Z Z Z<|yU Z Z Z<|yU Z Z Z<|yU Z Z Z<|yS Z (db Z Z Z)<|zM Z<|yU Z Z Z<|yU Z Z Z<|yU Z Z Z<|yS Z (db Z Z Z)<|zM Z<|yU Z Z Z<|yU Z Z Z<|yU Z Z Z<|yS Z (db Z Z Z)<|zM Z<|zN ?_;refine zT<|zr ?_;obtain rfl := zJ hr;exact zf (.one (.tmp Z)) zv
   ·
    refine zo g5 hr fun hr => yU Z (gd g5 Z) Z<|yU Z (gd g5 Z) Z<|yU Z (gd g5 Z) Z<|yS Z (db Z (bL g5 Z) Z)<|zM Z<|yU Z Z Z<|yU Z Z Z<|yU Z Z Z<|yS Z (db Z Z Z)<|zM Z<|yU Z Z Z<|yU Z Z Z<|yU Z Z Z<|yU Z Z Z<|yU Z Z Z<|yS Z (db Z Z Z)<|zM Z<|yU Z Z Z<|yU Z Z Z<|yU Z Z Z<|yS Z (db Z Z Z)<|zM Z<|yU Z Z Z ?_;refine yU Z Z Z<|yU Z Z Z<|yS Z (db Z Z Z)<|zM Z<|zN<|zT<|zr ?_;obtain rfl := zJ hr;exact zf (.one (.tmp Z)) zv
def yC (c : Cf) (slot : Int) : Option Bool :=
 (yP c).bind fun v1 =>
 bif v1 then
  bif decide (slot > 0) then
   some (decide (slot ≤ 1048576))
  else
   some false
 else
  some false
theorem HZ {c : Cf} {slot : Int} {r_ : Bool} (hr : yC c slot = some r_) : av Tryz.prog 69 [jx c, .int .i64 slot] [.bool r_] := by
 refine zh Tryz.func69 Z Z Z Z ?_;unfold yC at hr;refine zQ<|zR<|yS Z (bV Z Z Z Z Z)<|zM Z<|zN<|zT<|zQ<|zR<|yS Z (zD Z Z Z bE Z Z)<|zb hr fun v1 h_v1 hr => yS Z (zC Z Z Z (by kernel_rfl) (zp (Gv h_v1) (.cons zv .nil)))<|zM Z ?_;refine zc 7 Z (fun g1 => ?_)<|fun g1 => ?_
 ·
  refine zi g1 hr fun hr => yV Z (gd g1 Z) (zm Z Z)<|yV Z (gd g1 Z) (aw Z Z Z Z)<|yS Z (eP Z (bL g1 Z) Z)<|zM Z ?_;refine zc 11 Z (fun g2 => ?_)<|fun g2 => ?_
  ·
   refine zi g2 hr fun hr => yV Z (gd g2 Z) (zm Z Z)<|yV Z (gd g2 Z) (aw Z Z Z Z)<|yS Z (eP Z (bL g2 Z) Z)<|zM Z<|zN<|zT<|zr ?_;obtain rfl := zJ hr;exact zf (.one (.tmp Z)) zv
  ·
   refine zo g2 hr fun hr => yU Z (gd g2 Z) Z<|yU Z (gd g2 Z) Z<|yS Z (db Z (bL g2 Z) Z)<|zM Z<|zN<|zT<|zr ?_;obtain rfl := zJ hr;exact zf (.one (.tmp Z)) zv
 ·
  refine zo g1 hr fun hr => yU Z (gd g1 Z) Z<|yU Z (gd g1 Z) Z<|yS Z (db Z (bL g1 Z) Z)<|zM Z<|yU Z Z Z<|yU Z Z Z<|yS Z (db Z Z Z)<|zM Z<|zN<|zT<|zr ?_;obtain rfl := zJ hr;exact zf (.one (.tmp Z)) zv
structure jq where
 t8 : Int
def la (s : List Int) (v : Int) (x1 : jq) : Option (jq ⊕ (jq ⊕ Int)) :=
 bif decide (x1.t8 < (s.length : Int)) then
  (ix s x1.t8).bind fun y1 =>
  bif v == y1 then
   some (.inr (.inr x1.t8))
  else
   some (.inl (jq.mk (IntKind.i64.wrap (x1.t8 + 1))))
 else
  some (.inr (.inl (jq.mk x1.t8)))
def D4 (s : List Int) (v : Int) : Option Int :=
 (iter (la s v) bG (jq.mk 0)).bind fun b_v1 => Sum.elim (fun _ =>
  some (-1)) some b_v1
theorem KG {s : List Int} {v : Int} {r_ : Int} (hr : D4 s v = some r_) : av Tryz.prog 80 [.slice 1 (s.map aE), .int .i64 v] [.int .i64 r_] := by
 refine zh Tryz.func80 Z Z Z Z ?_;unfold D4 at hr;refine zQ<|zR<|zM Z<|zN<|zT<|zQ<|zQ<|zR<|zM Z<|yS Z (dT Z Z (by kernel_rfl))<|zM Z<|zN<|zT ?_;obtain ⟨b_v1, hb_v1, ho_v1⟩ := zB hr;clear hr;refine LW.tailB (b := b_v1) (E := fun v1 => [(4, (iQ 0))]) (O := fun v1 => []) ?_<|fun v1 e_v1 env_v1 H_v1 hw_v1 => ?_
 ·refine LW.block ?_;refine LW.iterB (E := fun x1 : jq => [(0, (kI s)), (1, (iQ v)), (4, (iQ 0)), (7, .p (.int .i64 (s.length : Int))), (8, (iQ x1.t8))]) (O := fun x1 => []) hb_v1 (zW 0 ⟨rfl, rfl, rfl, rfl, rfl, trivial⟩ Z Z Z Z)<|fun x1 z_x1 hr hb_x1 => ?_;unfold la at hr;refine zQ<|zR<|yS Z (aw Z Z Z Z)<|zN<|zT<|zQ ?_;refine zX Z (fun g1 => ?_)<|fun g1 => ?_
  ·
   refine zi g1 hr fun hr => zk<|zT<|zQ<|zl<|zQ<|zR<|zM Z<|zM Z<|zN<|zT<|zQ<|zR<|zM Z<|zM Z<|zM Z<|zb hr fun y1 h_y1 hr => yS Z (zx Z Z Z fY h_y1 Z)<|yS Z (dS Z Z Z bC Z Z)<|yS Z (aw Z Z Z Z)<|zN<|zT ?_;refine zX Z (fun g2 => ?_)<|fun g2 => ?_
   ·
    refine zi g2 hr fun hr => zQ<|zR<|zM Z<|zM Z<|zN<|zT<|zr<|ay<|aj<|aj<|ay<|aj<|aj ?_;obtain rfl := zJ hr;have hr := congrArg some (hb_x1 _ rfl);obtain rfl := zJ hr;have hr := d8 ho_v1;obtain rfl := zJ hr;exact zf (.one (.tmp Z)) zv
   ·
    refine zo g2 hr fun hr => zk<|ai<|zT<|zR<|yS Z (aw Z Z Z Z)<|zM Z<|zN<|zT ?_;obtain rfl := zJ hr;exact ⟨_, rfl, zW 0 ⟨rfl, rfl, rfl, rfl, rfl, trivial⟩ Z Z Z rfl⟩
  ·
   refine zo g1 hr fun hr => zq<|ao<|ao<|zy<|zT ?_;obtain rfl := zJ hr;have hr := congrArg some (hb_x1 _ rfl);obtain rfl := zJ hr;exact ⟨_, rfl, zW 0 ⟨rfl, trivial⟩ Z Z Z rfl⟩
 ·obtain rfl := e_v1;have hr := gb ho_v1;clear hb_v1;refine zT<|LW.weak hw_v1<|zQ<|zR<|zM Z<|zN<|zT<|zr ?_;obtain rfl := zJ hr;exact zf (.one (.tmp Z)) zv
def sO (s : List Int) (v : Int) : Option Bool :=
 (D4 s v).bind fun v1 =>
 some (decide (v1 ≥ 0))
theorem Ce {s : List Int} {v : Int} {r_ : Bool} (hr : sO s v = some r_) : av Tryz.prog 48 [.slice 1 (s.map aE), .int .i64 v] [.bool r_] := by
 refine zh Tryz.func48 Z Z Z Z ?_;unfold sO at hr;refine zQ<|zR<|zM Z<|zN<|zT<|zQ<|zR<|zM Z<|zM Z<|zb hr fun v1 h_v1 hr => yS Z (zC Z Z Z (by kernel_rfl) (zp (KG h_v1) (.cons zv (.cons zv .nil))))<|yS Z (aw Z Z Z Z)<|zM Z<|zN<|zT<|zr ?_;obtain rfl := zJ hr;exact zf (.one (.tmp Z)) zv
structure Km where
 i : Int
open Go.Proofs
theorem qK : ∀ H : List aa, cG H = some H.length
 | [] => rfl
 | _ :: r => by unfold cG; rw [qK r]; rfl
theorem p4 : ∀ (H : List aa) (o : aa), hZ H o = some (H ++ [o])
 | [], _ => rfl
 | _ :: r, o => by unfold hZ; rw [p4 r o]; rfl
theorem H6 {c : Cf} {g : FuncId} {first caps : List LV} {H : List aa} : LC Tryz.prog 105 [.p (jx c), .fn g first caps] H (Is (.fn 145 [] [.cptr [.slice 1 (c.W.map aE), .int .u64 c.Seed, .int .i64 c.Epoch, .int .i64 c.Num, .int .i64 c.Den], .fptr (.fn g first caps)]) H) := by
 refine LC.those Tryz.func105 Z Z Z ?_;refine LW.seq<|LW.region<|am.st Z Z Z (ab.box Z Z Z (qK _) (p4 _ _))<|am.st Z Z Z (ab.box Z Z Z (qK _) (p4 _ _))<|am.st Z Z Z (ab.assign Z Z)<|am.nil<|br<|LW.seq<|LW.region<|am.st Z Z Z (ab.makeFunc Z Z Z)<|am.st Z Z Z (ab.assign Z Z)<|am.nil<|br<|LW.ret ?_;refine ⟨.inr rfl, by simp, ?_⟩
 have h : ∀ n : Nat, n = H.length + 1 → ∀ {e : au} {H2 : List aa}, e.get 4 = some (.fn 145 [] [.ptr H.length 0, .ptr n 0]) → dg Tryz.prog e H2 Tryz.f105.results (.fn 145 [] [.ptr H.length 0, .ptr (H.length + 1) 0]) := by
  rintro n rfl e H2 he;exact .one<|.tmp he
 exact h _ (by simp) Z
open Go.Proofs
noncomputable def wb : Code := Lh Tryz.f146.body
noncomputable def wd : Code := Li Tryz.f146.body
noncomputable def wc : Code := Lh Tryz.f144.body
noncomputable def we : Code := Li Tryz.f144.body
def DT (i : Int) (_ : Cf) (m : List (Int × Bool)) : Option Bool :=
 some ((ah m i).getD false)
theorem II {i : Int} {c : Cf} {m : List (Int × Bool)} {r_ : Bool} (hr : DT i c m = some r_) : LC Tryz.prog 147 [(iQ i), .ptr 2 0] [.box (bB c), .map (af aE (fun v => (bQ v)) m), .box [.map 1]] (Is (bQ r_) [.box (bB c), .map (af aE (fun v => (bQ v)) m), .box [.map 1]]) := by
 refine dc Tryz.func147 Z Z Z ?_;unfold DT at hr;refine zQ<|zR<|zM Z<|zN<|zT<|zQ<|zR<|yS Z (zD Z Z Z Dy Z Z)<|zM Z ?_;refine yS Z (ab.getX (f := aE) (g := (fun v => (bQ v))) i false CP Z Z Z Z FI JZ Z Z) ?_;refine zM Z<|zN<|zT<|zr ?_;obtain rfl := zJ hr;exact ap (.one (.tmp Z))<|⟨rfl, rfl⟩
theorem JX {c : Cf} {m : List (Int × Bool)} {n i y : Int} {o : Oper} {env : au} {fo xo : Operand} {ats : Array TypeId} (ho : o.op = .call { callee := .value fo, args := #[xo], argTypes := ats }) (hf : aL env fo = some (.yld 6)) (hx : aL env xo = some (iQ i)) (h : ix c.W i = some y) :
  fe Tryz.prog o env [.box (bB c), .map (af aE (fun v => (bQ v)) m), .box [.map 1], .box (bB c), .box [(iQ n)], .defd, .loop false 21 [(2, .ptr 3 0), (4, (iQ 0)), (5, .ptr 4 0), (11, .fn 145 [] [.cptr [.slice 1 (c.W.map aE), .int .u64 c.Seed, .int .i64 c.Epoch, .int .i64 c.Num, .int .i64 c.Den], .fptr (.fn 147 [] [.ptr 2 0])])] #[12] wb wd] (Is (bQ true) [.box (bB c), .map (af aE (fun v => (bQ v)) m), .box [.map 1], .box (bB c), .box [.p (.int .i64 (IntKind.i64.wrap (n + y)))], .defd, .loop false 21 [(2, .ptr 3 0), (4, (iQ 0)), (5, .ptr 4 0), (11, .fn 145 [] [.cptr [.slice 1 (c.W.map aE), .int .u64 c.Seed, .int .i64 c.Epoch, .int .i64 c.Num, .int .i64 c.Den], .fptr (.fn 147 [] [.ptr 2 0])])] #[12] wb wd]) := by
 refine fe.yield (env2 := (6, (iQ i)) :: (12, (iQ i)) :: [(2, .ptr 3 0), (4, (iQ 0)), (5, .ptr 4 0), (11, .fn 145 [] [.cptr [.slice 1 (c.W.map aE), .int .u64 c.Seed, .int .i64 c.Epoch, .int .i64 c.Num, .int .i64 c.Den], .fptr (.fn 147 [] [.ptr 2 0])])]) (H2 := [.box (bB c), .map (af aE (fun v => (bQ v)) m), .box [.map 1], .box (bB c), .box [.p (.int .i64 (IntKind.i64.wrap (n + y)))], .defd, .loop true 21 [(2, .ptr 3 0), (4, (iQ 0)), (5, .ptr 4 0), (11, .fn 145 [] [.cptr [.slice 1 (c.W.map aE), .int .u64 c.Seed, .int .i64 c.Epoch, .int .i64 c.Num, .int .i64 c.Den], .fptr (.fn 147 [] [.ptr 2 0])])] #[12] wb wd]) ho hf hx Z Z (by kernel_rfl) (by kernel_rfl) Z (rQ.plain ?_) ?_ Z Z
 ·refine yS Z (za Z Z) ?_;exact zN ⟨rfl, rfl, rfl⟩
 ·refine rQ.drawLast (m := 7) (by kernel_rfl) (by kernel_rfl) (by kernel_rfl) ?_;exact yE Z (zD Z Z Z bC Z Z)<|yE Z (zA Z Z gM)<|yE Z (zD Z Z Z fh Z Z)<|zH Z<|yE Z (zx Z Z Z fY h Z)<|yE Z (dS Z Z Z bC Z Z)<|yE Z (aw Z Z Z Z)<|LO.nil<|yS Z (zs Z Z Z Z bC Z Z Z Z)<|zN<|⟨rfl, rfl⟩
structure fL where
 t8 : Int
 o4_0 : Int
def ko (c : Cf) (m : List (Int × Bool)) (x1 : fL) : Option (fL ⊕ fL) :=
 bif decide (x1.t8 < (c.W.length : Int)) then
  (DT x1.t8 c m).bind fun v2 =>
  bif v2 then
   (ix c.W x1.t8).bind fun y1 =>
   some (.inl (fL.mk (IntKind.i64.wrap (x1.t8 + 1)) (IntKind.i64.wrap (x1.o4_0 + y1))))
  else
   some (.inl (fL.mk (IntKind.i64.wrap (x1.t8 + 1)) x1.o4_0))
 else
  some (.inr (fL.mk x1.t8 x1.o4_0))
def ua (c : Cf) (m : List (Int × Bool)) (n : Int) : Option Int :=
 (iter (ko c m) bG (fL.mk 0 n)).bind fun v1 =>
 some v1.o4_0
theorem GC {c : Cf} {m : List (Int × Bool)} {n : Int} {r_ : Int} (hr : ua c m n = some r_) : LC Tryz.prog 145 [.yld 6, .cptr [.slice 1 (c.W.map aE), .int .u64 c.Seed, .int .i64 c.Epoch, .int .i64 c.Num, .int .i64 c.Den], .fptr (.fn 147 [] [.ptr 2 0])] [.box (bB c), .map (af aE (fun v => (bQ v)) m), .box [.map 1], .box (bB c), .box [(iQ n)], .defd, .loop false 21 [(2, .ptr 3 0), (4, (iQ 0)), (5, .ptr 4 0), (11, .fn 145 [] [.cptr [.slice 1 (c.W.map aE), .int .u64 c.Seed, .int .i64 c.Epoch, .int .i64 c.Num, .int .i64 c.Den], .fptr (.fn 147 [] [.ptr 2 0])])] #[12] wb wd] (Is (.tup []) [.box (bB c), .map (af aE (fun v => (bQ v)) m), .box [.map 1], .box (bB c), .box [(iQ r_)], .defd, .loop false 21 [(2, .ptr 3 0), (4, (iQ 0)), (5, .ptr 4 0), (11, .fn 145 [] [.cptr [.slice 1 (c.W.map aE), .int .u64 c.Seed, .int .i64 c.Epoch, .int .i64 c.Num, .int .i64 c.Den], .fptr (.fn 147 [] [.ptr 2 0])])] #[12] wb wd]) := by
 refine dc Tryz.func145 Z Z Z ?_;unfold ua at hr;refine zQ<|zR<|yS Z (ab.fieldAddrC Z Z gM Z)<|yS Z (dS Z Z Z fh Z Z)<|yS Z (dT Z Z (by kernel_rfl))<|zM Z<|zN<|zT ?_;obtain ⟨v1, hb_v1, ho_v1⟩ := zB hr;clear hr;refine LW.tail (E := []) (O := [.box (bB c), .map (af aE (fun v => (bQ v)) m), .box [.map 1], .box (bB c), .box [(iQ v1.o4_0)], .defd, .loop false 21 [(2, .ptr 3 0), (4, (iQ 0)), (5, .ptr 4 0), (11, .fn 145 [] [.cptr [.slice 1 (c.W.map aE), .int .u64 c.Seed, .int .i64 c.Epoch, .int .i64 c.Num, .int .i64 c.Den], .fptr (.fn 147 [] [.ptr 2 0])])] #[12] wb wd]) ?_<|fun env_v1 H_v1 hw_v1 => ?_
 ·refine LW.block ?_;refine LW.iterB (E := fun x1 : fL => [(0, .yld 6), (2, .fptr (.fn 147 [] [.ptr 2 0])), (7, .p (.int .i64 (c.W.length : Int))), (8, (iQ x1.t8))]) (O := fun x1 => [.box (bB c), .map (af aE (fun v => (bQ v)) m), .box [.map 1], .box (bB c), .box [(iQ x1.o4_0)], .defd, .loop false 21 [(2, .ptr 3 0), (4, (iQ 0)), (5, .ptr 4 0), (11, .fn 145 [] [.cptr [.slice 1 (c.W.map aE), .int .u64 c.Seed, .int .i64 c.Epoch, .int .i64 c.Num, .int .i64 c.Den], .fptr (.fn 147 [] [.ptr 2 0])])] #[12] wb wd]) hb_v1 (zW 7 ⟨rfl, rfl, rfl, rfl, trivial⟩ Z Z Z (zL Z (zL (ae (fun _ => rfl) _) (zL Z (zL Z (zL Z (zL Z (zL Z Z))))))))<|fun x1 z_x1 hr hb_x1 => ?_;unfold ko at hr;refine zQ<|zR<|yS Z (aw Z Z Z Z)<|zN<|zT<|zQ ?_;refine zX Z (fun g1 => ?_)<|fun g1 => ?_
  ·
   refine zi g1 hr fun hr => zk<|zT<|zQ<|zl<|zQ<|zR<|zM Z<|zM Z<|zN<|zT<|zQ<|LW.regionI<|a7.st Z Z Z (fe.of (ab.loadF Z Z sL) Z)<|a7.st Z Z Z (fe.of (zm Z Z) Z)<|zb hr fun v2 h_v2 hr => ?_;refine a7.st Z Z Z (fe.of (zC Z Z Z (by kernel_rfl) (LC.pre (II h_v2) Z (zL Z (zL (ae (fun _ => rfl) _) (zL Z Z))) Z)) Z) ?_;refine a7.st Z Z Z (fe.of (ab.move Z Z) Z) ?_;refine a7.cases 14 Z (fun (g2 : v2 = true) => ?_) (fun (g2 : v2 = false) => ?_)
   ·
    refine zi g2 hr fun hr => a7.gd Z Z Z (gd g2 Z) Z (fe.of (zm Z Z) Z)<|a7.gd Z Z Z (gd g2 Z) Z (fe.of (zm Z Z) Z)<|zb hr fun y1 h_y1 hr => a7.gd Z Z Z (gd g2 Z) Z (JX Z Z Z h_y1)<|a7.gd Z Z Z (gd g2 Z) Z (fe.of (ab.not Z Z) Z)<|a7.st Z Z Z (fe.of (eP Z (bL g2 Z) Z) Z)<|a7.nil<|zT<|LW.condF Z<|zk<|ai<|zT<|zR<|yS Z (aw Z Z Z Z)<|zM Z<|zN<|zT ?_;obtain rfl := zJ hr;exact ⟨_, rfl, zW 7 ⟨rfl, rfl, rfl, rfl, trivial⟩ Z Z Z (zL Z (zL (ae (fun _ => rfl) _) (zL Z (zL Z (zL Z (zL Z (zL Z Z)))))))⟩
   ·
    refine zo g2 hr fun hr => a7.sk Z Z Z (gd g2 Z) Z Z<|a7.sk Z Z Z (gd g2 Z) Z Z<|a7.sk Z Z Z (gd g2 Z) Z Z<|a7.sk Z Z Z (gd g2 Z) Z Z<|a7.st Z Z Z (fe.of (db Z (bL g2 Z) Z) Z)<|a7.nil<|zT<|LW.condF Z<|zk<|ai<|zT<|zR<|yS Z (aw Z Z Z Z)<|zM Z<|zN<|zT ?_;obtain rfl := zJ hr;exact ⟨_, rfl, zW 7 ⟨rfl, rfl, rfl, rfl, trivial⟩ Z Z Z (zL Z (zL (ae (fun _ => rfl) _) (zL Z (zL Z (zL Z (zL Z (zL Z Z)))))))⟩
  ·
   refine zo g1 hr fun hr => zq<|ao<|ao<|zy<|zT ?_;obtain rfl := zJ hr;have hr := congrArg some (hb_x1 _ rfl);obtain rfl := zJ hr;exact zW 7 trivial Z Z Z<|zL Z<|zL (ae (fun _ => rfl) _)<|zL Z<|zL Z<|zL Z<|zL Z<|zL Z Z
 ·have hr := ho_v1;clear hb_v1;obtain rfl := zJ hr;exact ey hw_v1 .none ⟨rfl, rfl⟩
def xw (c : Cf) (m : List (Int × Bool)) : Option Int :=
 (yP c).bind fun v1 =>
 bif !v1 then
  some 0
 else
  (ua c m 0).bind fun v2 =>
  some v2
theorem Gy {c : Cf} {m : List (Int × Bool)} {r_ : Int} (hr : xw c m = some r_) : LC Tryz.prog 146 [.p (jx c), .fn 145 [] [.cptr [.slice 1 (c.W.map aE), .int .u64 c.Seed, .int .i64 c.Epoch, .int .i64 c.Num, .int .i64 c.Den], .fptr (.fn 147 [] [.ptr 2 0])]] [.box (bB c), .map (af aE (fun v => (bQ v)) m), .box [.map 1]] (Is (iQ r_) [.box (bB c), .map (af aE (fun v => (bQ v)) m), .box [.map 1]]) := by
 refine LC.ofM Tryz.func146 Z Z Z ?_;unfold xw at hr;refine hY.seqW<|zR<|yS Z (bV Z Z Z Z Z)<|zM Z<|zN<|zT<|hY.seqW<|zR<|yS Z (ze Z Lk Z Z)<|yS Z (zs Z Z Z Z bC Z Z Z Z)<|zN<|zT<|hY.seqW<|zQ<|zR<|yS Z (zD Z Z Z bE Z Z)<|zb hr fun v1 h_v1 hr => yS Z (zC Z Z Z (by kernel_rfl) (zp (Gv h_v1) (.cons zv .nil)))<|yS Z (ab.not Z Z)<|zN<|zT ?_;refine zX Z (fun g1 => ?_)<|fun g1 => ?_
 ·
  refine zi g1 hr fun hr => zQ<|zR<|yS Z (zD Z Z Z bC Z Z)<|zM Z<|zN<|zT<|zr<|aj ?_;obtain rfl := zJ hr;refine ba (env' := [(4, (iQ 0))]) (H' := [.box (bB c), .map (af aE (fun v => (bQ v)) m), .box [.map 1]]) (zW 3 ⟨rfl, trivial⟩ Z Z Z (zL Z (zL (ae (fun _ => rfl) _) (zL Z Z)))) (.one (.tmp Z)) ?_;exact ⟨rfl, rfl⟩
 ·
  refine zo g1 hr fun hr => zk<|zT<|hY.seq<|hY.seqW<|zR<|zM Z<|zN<|zT ?_;refine hY.weak (env' := [(2, .ptr 3 0), (4, (iQ 0)), (5, .ptr 4 0), (11, .fn 145 [] [.cptr [.slice 1 (c.W.map aE), .int .u64 c.Seed, .int .i64 c.Epoch, .int .i64 c.Num, .int .i64 c.Den], .fptr (.fn 147 [] [.ptr 2 0])])]) (H' := [.box (bB c), .map (af aE (fun v => (bQ v)) m), .box [.map 1], .box (bB c), .box [(iQ 0)]]) (zW 5 ⟨rfl, rfl, rfl, rfl, trivial⟩ Z Z Z (zL Z (zL (ae (fun _ => rfl) _) (zL Z (zL Z (zL Z Z)))))) ?_;refine hY.block<|zb hr fun v2 h_v2 hr => hY.rangeFunc Z (by kernel_rfl) Z (GC h_v2) Z Z Z ?_;refine ⟨rfl, ?_⟩;refine tD<|hY.seq<|hY.region<|j2.st Z Z Z (zD Z Z Z bC Z Z) Z<|j2.st Z Z Z (za Z Z) Z<|j2.nil<|tD<|hY.ret ?_;obtain rfl := zJ hr;exact ⟨.inr rfl, _, [(4, (iQ v2))], [.box (bB c), .map (af aE (fun v => (bQ v)) m), .box [.map 1]], _, rfl, zW 3 ⟨rfl, trivial⟩ Z Z Z (zL Z (zL (ae (fun _ => rfl) _) (zL Z Z))), (.one (.tmp Z)), ⟨rfl, rfl⟩⟩
open Go.Proofs
def DS (i : Int) (c : Cf) (slot : Int) (at_ : List Int) : Option Bool :=
 (ix at_ i).bind fun y1 =>
 bif decide (c.Epoch ≠ 0) then
  bif decide (c.Epoch ≠ 0) then
   some ((y1.tmod c.Epoch) == (slot.tmod c.Epoch))
  else none
 else none
theorem IH {i : Int} {c : Cf} {slot : Int} {at_ : List Int} {r_ : Bool} (hr : DS i c slot at_ = some r_) : LC Tryz.prog 106 [(iQ i), .ptr 2 0, .ptr 0 0, .ptr 1 0] [.box (bB c), .box [(iQ slot)], .box [(kI at_)]] (Is (bQ r_) [.box (bB c), .box [(iQ slot)], .box [(kI at_)]]) := by
 refine dc Tryz.func106 Z Z Z ?_;unfold DS at hr;refine zQ<|zR<|zM Z<|zN<|zT<|zQ<|LW.draw2 (by kernel_rfl) (by kernel_rfl)<|yE Z (zD Z Z Z fh Z Z)<|zH Z<|zb hr fun y1 h_y1 hr => yE Z (zx Z Z Z fY h_y1 Z)<|yE Z (dS Z Z Z bC Z Z)<|yE Z (zA Z Z qx)<|yE Z (zD Z Z Z bC Z Z)<|zg hr fun q1 hr => yE Z (ab.rem Z Z Z (of_decide_eq_true q1))<|yE Z (zD Z Z Z bC Z Z)<|yE Z (zA Z Z qx)<|yE Z (zD Z Z Z bC Z Z)<|zg hr fun q2 hr => yE Z (ab.rem Z Z Z (of_decide_eq_true q2))<|yE Z (aw Z Z Z Z)<|zH Z<|LO.nil ?_;refine zT<|zr ?_;obtain rfl := zJ hr;exact ap (.one (.tmp Z))<|⟨rfl, rfl⟩
theorem JY {c : Cf} {slot : Int} {at_ : List Int} {l : List Int} {i : Int} {o : Oper} {env : au} {fo xo : Operand} {ats : Array TypeId} (ho : o.op = .call { callee := .value fo, args := #[xo], argTypes := ats }) (hf : aL env fo = some (.yld 6)) (hx : aL env xo = some (iQ i)) (q : room l.length [i].length 8 = true) :
  fe Tryz.prog o env [.box (bB c), .box [(iQ slot)], .box [(kI at_)], .box [(jI 4 l)], .vec 1 (l.map aE), .defd, .loop false 13 [(2, .ptr 3 0), (4, .zs), (6, .fn 145 [] [.cptr [.slice 1 (c.W.map aE), .int .u64 c.Seed, .int .i64 c.Epoch, .int .i64 c.Num, .int .i64 c.Den], .fptr (.fn 106 [] [.ptr 2 0, .ptr 0 0, .ptr 1 0])])] #[7] wc we] (Is (bQ true) [.box (bB c), .box [(iQ slot)], .box [(kI at_)], .box [.vec 1 4 ((l ++ [i]).map aE).length 0 ((l ++ [i]).map aE).length], .vec 1 ((l ++ [i]).map aE), .defd, .loop false 13 [(2, .ptr 3 0), (4, .zs), (6, .fn 145 [] [.cptr [.slice 1 (c.W.map aE), .int .u64 c.Seed, .int .i64 c.Epoch, .int .i64 c.Num, .int .i64 c.Den], .fptr (.fn 106 [] [.ptr 2 0, .ptr 0 0, .ptr 1 0])])] #[7] wc we]) := by
 refine fe.yield (env2 := (5, (iQ i)) :: (7, (iQ i)) :: [(2, .ptr 3 0), (4, .zs), (6, .fn 145 [] [.cptr [.slice 1 (c.W.map aE), .int .u64 c.Seed, .int .i64 c.Epoch, .int .i64 c.Num, .int .i64 c.Den], .fptr (.fn 106 [] [.ptr 2 0, .ptr 0 0, .ptr 1 0])])]) (H2 := [.box (bB c), .box [(iQ slot)], .box [(kI at_)], .box [.vec 1 4 ((l ++ [i]).map aE).length 0 ((l ++ [i]).map aE).length], .vec 1 ((l ++ [i]).map aE), .defd, .loop true 13 [(2, .ptr 3 0), (4, .zs), (6, .fn 145 [] [.cptr [.slice 1 (c.W.map aE), .int .u64 c.Seed, .int .i64 c.Epoch, .int .i64 c.Num, .int .i64 c.Den], .fptr (.fn 106 [] [.ptr 2 0, .ptr 0 0, .ptr 1 0])])] #[7] wc we]) ho hf hx Z Z (by kernel_rfl) (by kernel_rfl) Z (rQ.plain ?_) (rQ.plain ?_) Z Z
 ·refine yS Z (za Z Z) ?_;exact zN ⟨rfl, rfl, rfl⟩
 ·refine yS Z (zD Z Z Z fh Z Z) ?_;exact zM Z<|yS Z (mD Z fY Z Z Z Z Z)<|yS Z (ab.appendX aE l [i] rfl Z Z Z kg.p Z fY q Z)<|yS Z (zs Z Z Z Z fh Z Z Z Z)<|zN<|⟨rfl, rfl⟩
structure dm where
 t8 : Int
 o4 : List Int
def km (c : Cf) (slot : Int) (at_ : List Int) (x1 : dm) : Option (dm ⊕ dm) :=
 bif decide (x1.t8 < (c.W.length : Int)) then
  (DS x1.t8 c slot at_).bind fun v2 =>
  bif v2 then
   bif room x1.o4.length [x1.t8].length 8 then
    some (.inl (dm.mk (IntKind.i64.wrap (x1.t8 + 1)) (x1.o4 ++ [x1.t8])))
   else none
  else
   some (.inl (dm.mk (IntKind.i64.wrap (x1.t8 + 1)) x1.o4))
 else
  some (.inr (dm.mk x1.t8 x1.o4))
def xC (c : Cf) (slot : Int) (at_ : List Int) (l : List Int) : Option (List Int) :=
 (iter (km c slot at_) bG (dm.mk 0 l)).bind fun v1 =>
 some v1.o4
theorem GB {c : Cf} {slot : Int} {at_ : List Int} {l : List Int} {r_ : List Int} (hr : xC c slot at_ l = some r_) : LC Tryz.prog 145 [.yld 6, .cptr [.slice 1 (c.W.map aE), .int .u64 c.Seed, .int .i64 c.Epoch, .int .i64 c.Num, .int .i64 c.Den], .fptr (.fn 106 [] [.ptr 2 0, .ptr 0 0, .ptr 1 0])] [.box (bB c), .box [(iQ slot)], .box [(kI at_)], .box [(jI 4 l)], .vec 1 (l.map aE), .defd, .loop false 13 [(2, .ptr 3 0), (4, .zs), (6, .fn 145 [] [.cptr [.slice 1 (c.W.map aE), .int .u64 c.Seed, .int .i64 c.Epoch, .int .i64 c.Num, .int .i64 c.Den], .fptr (.fn 106 [] [.ptr 2 0, .ptr 0 0, .ptr 1 0])])] #[7] wc we] (Is (.tup []) [.box (bB c), .box [(iQ slot)], .box [(kI at_)], .box [(jI 4 r_)], .vec 1 (r_.map aE), .defd, .loop false 13 [(2, .ptr 3 0), (4, .zs), (6, .fn 145 [] [.cptr [.slice 1 (c.W.map aE), .int .u64 c.Seed, .int .i64 c.Epoch, .int .i64 c.Num, .int .i64 c.Den], .fptr (.fn 106 [] [.ptr 2 0, .ptr 0 0, .ptr 1 0])])] #[7] wc we]) := by
 refine dc Tryz.func145 Z Z Z ?_;unfold xC at hr;refine zQ<|zR<|yS Z (ab.fieldAddrC Z Z gM Z)<|yS Z (dS Z Z Z fh Z Z)<|yS Z (dT Z Z (by kernel_rfl))<|zM Z<|zN<|zT ?_;obtain ⟨v1, hb_v1, ho_v1⟩ := zB hr;clear hr;refine LW.tail (E := []) (O := [.box (bB c), .box [(iQ slot)], .box [(kI at_)], .box [(jI 4 v1.o4)], .vec 1 (v1.o4.map aE), .defd, .loop false 13 [(2, .ptr 3 0), (4, .zs), (6, .fn 145 [] [.cptr [.slice 1 (c.W.map aE), .int .u64 c.Seed, .int .i64 c.Epoch, .int .i64 c.Num, .int .i64 c.Den], .fptr (.fn 106 [] [.ptr 2 0, .ptr 0 0, .ptr 1 0])])] #[7] wc we]) ?_<|fun env_v1 H_v1 hw_v1 => ?_
 ·refine LW.block ?_;refine LW.iterB (E := fun x1 : dm => [(0, .yld 6), (2, .fptr (.fn 106 [] [.ptr 2 0, .ptr 0 0, .ptr 1 0])), (7, .p (.int .i64 (c.W.length : Int))), (8, (iQ x1.t8))]) (O := fun x1 => [.box (bB c), .box [(iQ slot)], .box [(kI at_)], .box [(jI 4 x1.o4)], .vec 1 (x1.o4.map aE), .defd, .loop false 13 [(2, .ptr 3 0), (4, .zs), (6, .fn 145 [] [.cptr [.slice 1 (c.W.map aE), .int .u64 c.Seed, .int .i64 c.Epoch, .int .i64 c.Num, .int .i64 c.Den], .fptr (.fn 106 [] [.ptr 2 0, .ptr 0 0, .ptr 1 0])])] #[7] wc we]) hb_v1 (zW 7 ⟨rfl, rfl, rfl, rfl, trivial⟩ Z Z Z Z)<|fun x1 z_x1 hr hb_x1 => ?_;unfold km at hr;refine zQ<|zR<|yS Z (aw Z Z Z Z)<|zN<|zT<|zQ ?_;refine zX Z (fun g1 => ?_)<|fun g1 => ?_
  ·
   refine zi g1 hr fun hr => zk<|zT<|zQ<|zl<|zQ<|zR<|zM Z<|zM Z<|zN<|zT<|zQ<|LW.regionI<|a7.st Z Z Z (fe.of (ab.loadF Z Z sL) Z)<|a7.st Z Z Z (fe.of (zm Z Z) Z)<|zb hr fun v2 h_v2 hr => a7.st Z Z Z (fe.of (zC Z Z Z (by kernel_rfl) (LC.pre (IH h_v2) Z Z Z)) Z)<|a7.st Z Z Z (fe.of (zm Z Z) Z) ?_;refine a7.cases 14 Z (fun (g2 : v2 = true) => ?_) (fun (g2 : v2 = false) => ?_)
   ·
    refine zi g2 hr fun hr => a7.gd Z Z Z (gd g2 Z) Z (fe.of (zm Z Z) Z)<|a7.gd Z Z Z (gd g2 Z) Z (fe.of (zm Z Z) Z)<|zg hr fun q1 hr => a7.gd Z Z Z (gd g2 Z) Z (JY Z Z Z q1)<|a7.gd Z Z Z (gd g2 Z) Z (fe.of (ab.not Z Z) Z)<|a7.st Z Z Z (fe.of (eP Z (bL g2 Z) Z) Z)<|a7.nil<|zT<|LW.condF Z<|zk<|ai<|zT<|zR<|yS Z (aw Z Z Z Z)<|zM Z<|zN<|zT ?_;obtain rfl := zJ hr;exact ⟨_, rfl, zW 7 ⟨rfl, rfl, rfl, rfl, trivial⟩ Z Z Z rfl⟩
   ·
    refine zo g2 hr fun hr => a7.sk Z Z Z (gd g2 Z) Z Z<|a7.sk Z Z Z (gd g2 Z) Z Z<|a7.sk Z Z Z (gd g2 Z) Z Z<|a7.sk Z Z Z (gd g2 Z) Z Z<|a7.st Z Z Z (fe.of (db Z (bL g2 Z) Z) Z)<|a7.nil<|zT<|LW.condF Z<|zk<|ai<|zT<|zR<|yS Z (aw Z Z Z Z)<|zM Z<|zN<|zT ?_;obtain rfl := zJ hr;exact ⟨_, rfl, zW 7 ⟨rfl, rfl, rfl, rfl, trivial⟩ Z Z Z rfl⟩
  ·
   refine zo g1 hr fun hr => zq<|ao<|ao<|zy<|zT ?_;obtain rfl := zJ hr;have hr := congrArg some (hb_x1 _ rfl);obtain rfl := zJ hr;exact zW 7 trivial Z Z Z Z
 ·have hr := ho_v1;clear hb_v1;obtain rfl := zJ hr;exact ey hw_v1 .none ⟨rfl, rfl⟩
def xB (c : Cf) (slot : Int) (at_ : List Int) : Option (List Int) :=
 (xC c slot at_ []).bind fun v1 =>
 some v1
theorem GA {c : Cf} {slot : Int} {at_ : List Int} {r_ : List Int} (hr : xB c slot at_ = some r_) : LC Tryz.prog 144 [.zs, .fn 145 [] [.cptr [.slice 1 (c.W.map aE), .int .u64 c.Seed, .int .i64 c.Epoch, .int .i64 c.Num, .int .i64 c.Den], .fptr (.fn 106 [] [.ptr 2 0, .ptr 0 0, .ptr 1 0])]] [.box (bB c), .box [(iQ slot)], .box [(kI at_)]] (Is (jI 4 r_) [.box (bB c), .box [(iQ slot)], .box [(kI at_)], .box [(jI 4 r_)], .vec 1 (r_.map aE), .dead, .dead]) := by
 refine LC.ofM Tryz.func144 Z Z Z ?_;unfold xB at hr;refine hY.seqW<|zR<|yS Z (bV Z Z Z Z Z)<|zM Z<|zN<|zT<|hY.seq<|hY.seqW<|zR<|zM Z<|zN<|zT<|hY.ent (bM.lazyCell (i := 3) (j := 0) (m := 1) Z Z Z Z Z Z)<|hY.weak (env' := [(2, .ptr 3 0), (4, .zs), (6, .fn 145 [] [.cptr [.slice 1 (c.W.map aE), .int .u64 c.Seed, .int .i64 c.Epoch, .int .i64 c.Num, .int .i64 c.Den], .fptr (.fn 106 [] [.ptr 2 0, .ptr 0 0, .ptr 1 0])])]) (H' := [.box (bB c), .box [(iQ slot)], .box [(kI at_)], .box [(jI 4 ([] : List Int))], .vec 1 (([] : List Int).map aE)]) (zW 5 ⟨rfl, rfl, rfl, trivial⟩ Z Z Z Z)<|hY.block<|zb hr fun v1 h_v1 hr => hY.rangeFunc Z (by kernel_rfl) Z (GB h_v1) Z Z Z ?_;refine ⟨rfl, ?_⟩;refine tD<|hY.seq<|hY.region<|j2.st Z Z Z (zD Z Z Z fh Z Z) Z<|j2.st Z Z Z (za Z Z) Z<|j2.nil<|tD<|hY.ret ?_;obtain rfl := zJ hr;exact ⟨.inr rfl, _, [(4, (jI 4 v1))], [.box (bB c), .box [(iQ slot)], .box [(kI at_)], .box [(jI 4 v1)], .vec 1 (v1.map aE), .dead, .dead], _, rfl, zW 7 ⟨rfl, trivial⟩ Z Z Z rfl, (.one (.tmp Z)), ⟨rfl, rfl⟩⟩
def tZ (c : Cf) (slot : Int) (at_ : List Int) : Option (List Int) :=
 (xB c slot at_).bind fun v1 =>
 some v1
theorem Gx {c : Cf} {slot : Int} {at_ : List Int} {r_ : List Int} (hr : tZ c slot at_ = some r_) : LC Tryz.prog 104 [.fn 145 [] [.cptr [.slice 1 (c.W.map aE), .int .u64 c.Seed, .int .i64 c.Epoch, .int .i64 c.Num, .int .i64 c.Den], .fptr (.fn 106 [] [.ptr 2 0, .ptr 0 0, .ptr 1 0])]] [.box (bB c), .box [(iQ slot)], .box [(kI at_)]] (Is (jI 4 r_) [.box (bB c), .box [(iQ slot)], .box [(kI at_)], .box [(jI 4 r_)], .vec 1 (r_.map aE), .dead, .dead]) := by
 refine dc Tryz.func104 Z Z Z ?_;unfold tZ at hr;refine zQ<|zR<|zM Z<|zN<|zT<|zQ<|zR<|zM Z<|zb hr fun v1 h_v1 hr => yS Z (zC Z Z Z (by kernel_rfl) (GA h_v1))<|zM Z<|zN<|zT<|zr ?_;obtain rfl := zJ hr;exact ap (.one (.tmp Z))<|⟨rfl, rfl⟩
open Go.Proofs
open Go.Proofs
open Go.Proofs
structure fm where
 t11 : Int
 o1 : List (Int × Bool)
def nH (l : List Int) (x1 : fm) : Option (fm ⊕ fm) :=
 bif decide (x1.t11 < (l.length : Int)) then
  (ix l x1.t11).bind fun y1 =>
  some (.inl (fm.mk (IntKind.i64.wrap (x1.t11 + 1)) (aN x1.o1 y1 true)))
 else
  some (.inr (fm.mk x1.t11 x1.o1))
def Fa (c : Cf) (l : List Int) : Option Int :=
 (iter (nH l) bG (fm.mk 0 ([] : List (Int × Bool)))).bind fun v1 =>
 (xw c v1.o1).bind fun v2 =>
 some v2
theorem Kh {c : Cf} {l : List Int} {r_ : Int} (hr : Fa c l = some r_) : av Tryz.prog 109 [jx c, .slice 1 (l.map aE)] [.int .i64 r_] := by
 refine zh Tryz.func109 Z Z Z Z ?_;unfold Fa at hr;refine zQ<|zR<|yS Z (bV Z Z Z Z Z)<|zM Z<|zN<|zT<|zQ<|zR<|yS Z (ab.makeMap Z Z Z)<|yS Z (ze Z J1 Z Z)<|yS Z (zs Z Z Z Z Dy Z Z Z Z)<|zN<|zT<|zQ<|zQ<|zR<|zM Z<|yS Z (dT Z Z (by kernel_rfl))<|zM Z<|zN<|zT ?_;obtain ⟨v1, hb_v1, ho_v1⟩ := zB hr;clear hr;refine LW.tail (E := [(2, .ptr 0 0), (4, (iQ 0)), (5, .ptr 2 0)]) (O := [.box (bB c), .map (af aE (fun v => (bQ v)) v1.o1), .box [.map 1]]) ?_<|fun env_v1 H_v1 hw_v1 => ?_
 ·refine LW.block ?_;refine LW.iterB (E := fun x1 : fm => [(2, .ptr 0 0), (4, (iQ 0)), (5, .ptr 2 0), (9, (kI l)), (10, .p (.int .i64 (l.length : Int))), (11, (iQ x1.t11))]) (O := fun x1 => [.box (bB c), .map (af aE (fun v => (bQ v)) x1.o1), .box [.map 1]]) hb_v1 (zW 3 ⟨rfl, rfl, rfl, rfl, rfl, rfl, trivial⟩ Z Z Z (zL Z (zL (ae (fun _ => rfl) _) (zL Z Z))))<|fun x1 z_x1 hr hb_x1 => ?_;unfold nH at hr;refine zQ<|zR<|yS Z (aw Z Z Z Z)<|zN<|zT<|zQ ?_;refine zX Z (fun g1 => ?_)<|fun g1 => ?_
  ·
   refine zi g1 hr fun hr => zk<|zT<|zQ<|zl<|zQ<|zR<|zb hr fun y1 h_y1 hr => yS Z (zx Z Z Z fY h_y1 Z)<|yS Z (dS Z Z Z bC Z Z)<|zM Z<|zN<|zT<|zR<|yS Z (zD Z Z Z Dy Z Z)<|zM Z ?_;refine yS Z (ab.setX (f := aE) (g := (fun v => (bQ v))) y1 true CP (.inl Z) Z Z Z Z Z FI Z) ?_;refine zN<|ai<|zT<|zR<|yS Z (aw Z Z Z Z)<|zM Z<|zN<|zT ?_;obtain rfl := zJ hr;exact ⟨_, rfl, zW 3 ⟨rfl, rfl, rfl, rfl, rfl, rfl, trivial⟩ Z Z Z (zL Z (zL (ae (fun _ => rfl) _) (zL Z Z)))⟩
  ·
   refine zo g1 hr fun hr => zq<|ao<|ao<|zy<|zT ?_;obtain rfl := zJ hr;have hr := congrArg some (hb_x1 _ rfl);obtain rfl := zJ hr;exact zW 3 ⟨Z, Z, Z, trivial⟩ Z Z Z<|zL Z<|zL (ae (fun _ => rfl) _)<|zL Z Z
 ·have hr := ho_v1;clear hb_v1;refine zT<|LW.weak hw_v1<|zQ<|LW.draw2 (by kernel_rfl) (by kernel_rfl)<|yE Z (zD Z Z Z bE Z Z)<|yE Z (zD Z Z Z bE Z Z)<|yE Z (ab.makeFunc Z Z Z)<|yE Z (zC Z Z Z (by kernel_rfl) (H6 (c := c)))<|zb hr fun v2 h_v2 hr => yE Z (zC Z Z Z (by kernel_rfl) (Gy h_v2))<|zH Z<|LO.nil<|zT<|zr ?_;obtain rfl := zJ hr;exact zf (.one (.tmp Z)) zv
def E9 (c : Cf) (slot : Int) : Option (List Int) :=
 (yC c slot).bind fun v1 =>
 bif !v1 then
  some []
 else
  bif decide (c.Epoch ≠ 0) then
   (HA (step c.Seed (IntKind.u64.wrap (IntKind.i64.wrap (slot.tdiv c.Epoch)))) (c.W.length : Int)).bind fun v2 =>
   (tZ c slot v2).bind fun v3 =>
   some v3
  else none
theorem Kg {c : Cf} {slot : Int} {r_ : (List Int)} (hr : E9 c slot = some r_) : av Tryz.prog 57 [jx c, .int .i64 slot] [.slice 1 (r_.map aE)] := by
 refine zh Tryz.func57 Z Z Z Z ?_;unfold E9 at hr;refine zQ<|zR<|yS Z (bV Z Z Z Z Z)<|yS Z (bV Z Z Z Z Z)<|zM Z<|zN<|zT<|zQ<|zQ<|zR<|yS Z (zD Z Z Z bE Z Z)<|yS Z (zD Z Z Z bC Z Z)<|zb hr fun v1 h_v1 hr => yS Z (zC Z Z Z (by kernel_rfl) (zp (HZ h_v1) (.cons zv (.cons zv .nil))))<|yS Z (ab.not Z Z)<|zN<|zT ?_;refine zX Z (fun g1 => ?_)<|fun g1 => ?_
 ·
  refine zi g1 hr fun hr => zQ<|zR<|zM Z<|zN<|zT<|zr<|aj ?_;obtain rfl := zJ hr;exact zf (.one (.tmp Z)) Conv.zs
 ·
  refine zo g1 hr fun hr => zk<|zT<|zQ<|LW.ent (bM.slot Z)<|LW.drawW (by kernel_rfl) (by kernel_rfl) ?_;refine yF (F := []) (s := none) Z (fun H _ => zA Z Z CL) Z ?_;refine yF Z (zd Z Z Z nB Z Z) Z<|yF Z (zd Z Z Z bC Z Z) Z ?_;refine yF (F := []) (s := none) Z (fun H _ => zA Z Z qx) Z ?_;refine yF Z (zd Z Z Z bC Z Z) Z<|zg hr fun q1 hr => ?_;refine yF (F := []) (s := none) Z (fun H _ => ab.quo Z Z Z (of_decide_eq_true q1)) Z ?_;refine yF (F := []) (s := none) Z (fun H _ => ab.convert (k' := .u64) Z Z (by kernel_rfl)) Z ?_;refine yF (F := []) (s := none) Z (fun H _ => zC Z Z Z (by kernel_rfl) (zp (uC (h := c.Seed) (x := (IntKind.u64.wrap (IntKind.i64.wrap (slot.tdiv c.Epoch))))) (.cons zv (.cons zv .nil)))) Z ?_;refine yF (F := []) (s := none) Z (fun H _ => zA Z Z gM) Z ?_;refine yF Z (zd Z Z Z fh Z Z) Z ?_;refine yF (F := []) (s := none) Z (fun H _ => dT Z Z (by kernel_rfl)) Z ?_;obtain ⟨v2, h_v2, hr⟩ := zB hr;refine yF (F := []) (s := none) Z (fun H _ => zC Z Z Z (by kernel_rfl) (zp (Lp h_v2) (.cons zv (.cons zv .nil)))) Z ?_;refine yF Z (bJ.alloc Z K9 (id := 2) Z) Z<|yF Z (zt Z Z Z Z fh Z Z Z) Z ?_;refine LF.nil ⟨by kernel_rfl, ?_⟩;refine zT<|zQ<|zR<|yS Z (zD Z Z Z bE Z Z)<|yS Z (ab.makeFunc Z Z Z)<|yS Z (zC Z Z Z (by kernel_rfl) (H6 (c := c)))<|zb hr fun v3 h_v3 hr => yS Z (zC Z Z Z (by kernel_rfl) (Gx h_v3))<|zM Z<|zN<|zT<|zr ?_;obtain rfl := zJ hr;exact zf (.one (.tmp Z))<|(Conv.vecAll Z Z Z)
def Ec (c : Cf) (slot : Int) : Option Int :=
 (yC c slot).bind fun v1 =>
 bif !v1 then
  some (-1)
 else
  bif decide ((IntKind.u64.wrap ((c.W.length : Int))) ≠ 0) then
   some (IntKind.i64.wrap ((step (step c.Seed 4294967296) (IntKind.u64.wrap (slot))).tmod (IntKind.u64.wrap ((c.W.length : Int)))))
  else none
theorem Kf {c : Cf} {slot : Int} {r_ : Int} (hr : Ec c slot = some r_) : av Tryz.prog 34 [jx c, .int .i64 slot] [.int .i64 r_] := by
 refine zh Tryz.func34 Z Z Z Z ?_;unfold Ec at hr;refine zQ<|zR<|yS Z (bV Z Z Z Z Z)<|zM Z<|zN<|zT<|zQ<|zQ<|zR<|yS Z (zD Z Z Z bE Z Z)<|zM Z<|zb hr fun v1 h_v1 hr => yS Z (zC Z Z Z (by kernel_rfl) (zp (HZ h_v1) (.cons zv (.cons zv .nil))))<|yS Z (ab.not Z Z)<|zN<|zT ?_;refine zX Z (fun g1 => ?_)<|fun g1 => ?_
 ·
  refine zi g1 hr fun hr => zQ<|zR<|zM Z<|zN<|zT<|zr<|aj ?_;obtain rfl := zJ hr;exact zf (.one (.tmp Z)) zv
 ·
  refine zo g1 hr fun hr => zk<|zT<|zQ<|LW.draw2 (by kernel_rfl) (by kernel_rfl)<|yE Z (zA Z Z CL)<|yE Z (zD Z Z Z nB Z Z)<|yE Z (zC Z Z Z (by kernel_rfl) (zp (uC (h := c.Seed) (x := 4294967296)) (.cons zv (.cons zv .nil))))<|zH Z<|yE Z (ab.convert (k' := .u64) Z Z (by kernel_rfl))<|yE Z (zC Z Z Z (by kernel_rfl) (zp (uC (h := (step c.Seed 4294967296)) (x := (IntKind.u64.wrap (slot)))) (.cons zv (.cons zv .nil))))<|yE Z (zA Z Z gM)<|yE Z (zD Z Z Z fh Z Z)<|yE Z (dT Z Z (by kernel_rfl))<|yE Z (ab.convert (k' := .u64) Z Z (by kernel_rfl))<|zg hr fun q1 hr => yE Z (ab.rem Z Z Z (of_decide_eq_true q1))<|yE Z (ab.convert (k' := .i64) Z Z (by kernel_rfl))<|zH Z<|LO.nil<|zT<|zr ?_;obtain rfl := zJ hr;exact zf (.one (.tmp Z)) zv
def F4 (c : Cf) (slot : Int) (who : Int) : Option Bool :=
 (E9 c slot).bind fun v1 =>
 (sO v1 who).bind fun v2 =>
 some v2
theorem KT {c : Cf} {slot : Int} {who : Int} {r_ : Bool} (hr : F4 c slot who = some r_) : av Tryz.prog 22 [jx c, .int .i64 slot, .int .i64 who] [.bool r_] := by
 refine zh Tryz.func22 Z Z Z Z ?_;unfold F4 at hr;refine zQ<|zR<|yS Z (bV Z Z Z Z Z)<|zM Z<|zN<|zT<|zQ<|zR<|yS Z (zD Z Z Z bE Z Z)<|zM Z<|zb hr fun v1 h_v1 hr => yS Z (zC Z Z Z (by kernel_rfl) (zp (Kg h_v1) (.cons zv (.cons zv .nil))))<|zM Z<|zb hr fun v2 h_v2 hr => yS Z (zC Z Z Z (by kernel_rfl) (zp (Ce h_v2) (.cons zv (.cons zv .nil))))<|zM Z<|zN<|zT<|zr ?_;obtain rfl := zJ hr;exact zf (.one (.tmp Z)) zv
open Go.Proofs
def yN (x : Int) : Option Bool :=
 some (x != x)
theorem Ii {x : Int} {r_ : Bool} (hr : yN x = some r_) : av Tryz.prog 174 [.int .u64 x] [.bool r_] := by
 refine zh Tryz.func174 Z Z Z Z ?_;unfold yN at hr;refine zQ<|zR<|zM Z<|zN<|zT<|zQ<|zR<|zM Z<|zM Z<|yS Z (aw Z Z Z Z)<|zM Z<|zN<|zT<|zr ?_;obtain rfl := zJ hr;exact zf (.one (.tmp Z)) zv
def Br (x : Int) (y : Int) : Option Int :=
 (yN x).bind fun v1 =>
 (yN y).bind fun v2 =>
 bif v1 then
  bif v2 then
   some 0
  else
   some (-1)
 else
  bif v2 then
   some 1
  else
   bif decide (x < y) then
    some (-1)
   else
    bif decide (x > y) then
     some 1
    else
     some 0
theorem KJ {x : Int} {y : Int} {r_ : Int} (hr : Br x y = some r_) : av Tryz.prog 159 [.int .u64 x, .int .u64 y] [.int .i64 r_] := by
 refine zh Tryz.func159 Z Z Z Z ?_;unfold Br at hr;refine zQ<|zR<|zM Z<|zN<|zT<|zQ<|zR<|zM Z<|zb hr fun v1 h_v1 hr => yS Z (zC Z Z Z (by kernel_rfl) (zp (Ii h_v1) (.cons zv .nil)))<|zM Z<|zN<|zT<|zQ<|zR<|zM Z<|zb hr fun v2 h_v2 hr => yS Z (zC Z Z Z (by kernel_rfl) (zp (Ii h_v2) (.cons zv .nil)))<|zM Z<|zN<|zT<|zQ<|zQ<|zR ?_;refine zM Z<|zN<|zT ?_;refine zX Z (fun g1 => ?_)<|fun g1 => ?_
 ·
  refine zi g1 hr fun hr => zQ<|zQ<|zR<|zM Z<|zN<|zT ?_;refine zX Z (fun g2 => ?_)<|fun g2 => ?_
  ·
   refine zi g2 hr fun hr => zQ<|zR<|zM Z<|zN<|zT<|zr<|aj<|aj ?_;obtain rfl := zJ hr;exact zf (.one (.tmp Z)) zv
  ·
   refine zo g2 hr fun hr => zk<|zT<|zQ<|zR<|zM Z<|zN<|zT<|zr<|aj ?_;obtain rfl := zJ hr;exact zf (.one (.tmp Z)) zv
 ·
  refine zo g1 hr fun hr => zk<|zT<|zQ<|zQ<|zR<|zM Z<|zN<|zT ?_;refine zX Z (fun g3 => ?_)<|fun g3 => ?_
  ·
   refine zi g3 hr fun hr => zQ<|zR<|zM Z<|zN<|zT<|zr<|aj ?_;obtain rfl := zJ hr;exact zf (.one (.tmp Z)) zv
  ·
   refine zo g3 hr fun hr => zk<|zT<|zQ<|zQ<|zR<|zM Z<|zM Z<|yS Z (aw Z Z Z Z)<|zN<|zT ?_;refine zX Z (fun g4 => ?_)<|fun g4 => ?_
   ·
    refine zi g4 hr fun hr => zQ<|zR<|zM Z<|zN<|zT<|zr<|aj ?_;obtain rfl := zJ hr;exact zf (.one (.tmp Z)) zv
   ·
    refine zo g4 hr fun hr => zk<|zT<|zQ<|zQ<|zR<|zM Z<|zM Z<|yS Z (aw Z Z Z Z)<|zN<|zT ?_;refine zX Z (fun g5 => ?_)<|fun g5 => ?_
    ·
     refine zi g5 hr fun hr => zQ<|zR<|zM Z<|zN<|zT<|zr<|aj ?_;obtain rfl := zJ hr;exact zf (.one (.tmp Z)) zv
    ·
     refine zo g5 hr fun hr => zk<|zT<|zQ<|zR<|zM Z<|zN<|zT<|zr ?_;obtain rfl := zJ hr;exact zf (.one (.tmp Z)) zv
structure dU where
 t11 : Int
def ik (s1 : List Int) (s2 : List Int) (x1 : dU) : Option (dU ⊕ (dU ⊕ Int)) :=
 bif decide (x1.t11 < (s1.length : Int)) then
  (ix s1 x1.t11).bind fun y1 =>
  bif decide (x1.t11 ≥ (s2.length : Int)) then
   some (.inr (.inr 1))
  else
   (ix s2 x1.t11).bind fun y2 =>
   (Br y1 y2).bind fun v2 =>
   bif v2 != 0 then
    some (.inr (.inr v2))
   else
    some (.inl (dU.mk (IntKind.i64.wrap (x1.t11 + 1))))
 else
  some (.inr (.inl (dU.mk x1.t11)))
def yJ (s1 : List Int) (s2 : List Int) : Option Int :=
 (iter (ik s1 s2) bG (dU.mk 0)).bind fun b_v1 => Sum.elim (fun _ =>
  bif decide ((s1.length : Int) < (s2.length : Int)) then
   some (-1)
  else
   some 0) some b_v1
theorem Ic {s1 : List Int} {s2 : List Int} {r_ : Int} (hr : yJ s1 s2 = some r_) : av Tryz.prog 117 [.slice 1 (s1.map kT), .slice 1 (s2.map kT)] [.int .i64 r_] := by
 refine zh Tryz.func117 Z Z Z Z ?_;unfold yJ at hr;refine zQ<|zR<|zM Z<|zN<|zT<|zQ<|zQ<|zR<|zM Z<|yS Z (dT Z Z (by kernel_rfl))<|zM Z<|zN<|zT ?_;obtain ⟨b_v1, hb_v1, ho_v1⟩ := zB hr;clear hr;refine LW.tailB (b := b_v1) (E := fun v1 => [(0, .p (.slice 1 (s1.map kT))), (1, .p (.slice 1 (s2.map kT))), (4, (iQ 0))]) (O := fun v1 => []) ?_<|fun v1 e_v1 env_v1 H_v1 hw_v1 => ?_
 ·refine LW.block ?_;refine LW.iterB (E := fun x1 : dU => [(0, .p (.slice 1 (s1.map kT))), (1, .p (.slice 1 (s2.map kT))), (4, (iQ 0)), (9, .p (.slice 1 (s1.map kT))), (10, .p (.int .i64 (s1.length : Int))), (11, (iQ x1.t11))]) (O := fun x1 => []) hb_v1 (zW 0 ⟨rfl, rfl, rfl, rfl, rfl, rfl, trivial⟩ Z Z Z Z)<|fun x1 z_x1 hr hb_x1 => ?_;unfold ik at hr;refine zQ<|zR<|yS Z (aw Z Z Z Z)<|zN<|zT<|zQ ?_;refine zX Z (fun g1 => ?_)<|fun g1 => ?_
  ·
   refine zi g1 hr fun hr => zk<|zT<|zQ<|zl<|zQ<|zR<|zM Z<|zb hr fun y1 h_y1 hr => yS Z (zx Z Z Z EZ h_y1 Z)<|yS Z (dS Z Z Z nB Z Z)<|zM Z<|zM Z<|zN<|zT<|zQ<|zQ<|zR<|zM Z<|zM Z<|yS Z (dT Z Z (by kernel_rfl))<|yS Z (aw Z Z Z Z)<|zN<|zT ?_;refine zX Z (fun g2 => ?_)<|fun g2 => ?_
   ·
    refine zi g2 hr fun hr => zQ<|zR<|zM Z<|zN<|zT<|zr<|aj<|ay<|aj<|aj<|ay<|aj<|aj ?_;obtain rfl := zJ hr;have hr := congrArg some (hb_x1 _ rfl);obtain rfl := zJ hr;have hr := d8 ho_v1;obtain rfl := zJ hr;exact zf (.one (.tmp Z)) zv
   ·
    refine zo g2 hr fun hr => zk<|zT<|zQ<|zR<|zM Z<|zM Z<|zb hr fun y2 h_y2 hr => yS Z (zx Z Z Z EZ h_y2 Z)<|yS Z (dS Z Z Z nB Z Z)<|zM Z<|zN<|zT<|zQ<|zR<|zM Z<|zM Z<|zb hr fun v2 h_v2 hr => yS Z (zC Z Z Z (by kernel_rfl) (zp (KJ h_v2) (.cons zv (.cons zv .nil))))<|zM Z<|zN<|zT<|zQ<|zR ?_;refine zM Z<|yS Z (aw Z Z Z Z)<|zN<|zT ?_;refine zX Z (fun g3 => ?_)<|fun g3 => ?_
    ·
     refine zi g3 hr fun hr => zQ<|zR<|zM Z<|zM Z<|zN<|zT<|zr<|ay<|aj<|aj<|ay<|aj<|aj ?_;obtain rfl := zJ hr;have hr := congrArg some (hb_x1 _ rfl);obtain rfl := zJ hr;have hr := d8 ho_v1;obtain rfl := zJ hr;exact zf (.one (.tmp Z)) zv
    ·
     refine zo g3 hr fun hr => zk<|ai<|zT<|zR<|yS Z (aw Z Z Z Z)<|zM Z<|zN<|zT ?_;obtain rfl := zJ hr;exact ⟨_, rfl, zW 0 ⟨rfl, rfl, rfl, rfl, rfl, rfl, trivial⟩ Z Z Z rfl⟩
  ·
   refine zo g1 hr fun hr => zq<|ao<|ao<|zy<|zT ?_;obtain rfl := zJ hr;have hr := congrArg some (hb_x1 _ rfl);obtain rfl := zJ hr;exact ⟨_, rfl, zW 0 ⟨rfl, rfl, rfl, trivial⟩ Z Z Z rfl⟩
 ·obtain rfl := e_v1;have hr := gb ho_v1;clear hb_v1;refine zT<|LW.weak hw_v1<|zQ<|zQ<|zR<|zM Z<|yS Z (dT Z Z (by kernel_rfl))<|zM Z<|yS Z (dT Z Z (by kernel_rfl))<|yS Z (aw Z Z Z Z)<|zN<|zT ?_;refine zX Z (fun g4 => ?_)<|fun g4 => ?_
  ·
   refine zi g4 hr fun hr => zQ<|zR<|zM Z<|zN<|zT<|zr<|aj ?_;obtain rfl := zJ hr;exact zf (.one (.tmp Z)) zv
  ·
   refine zo g4 hr fun hr => zk<|zT<|zQ<|zR<|zM Z<|zN<|zT<|zr ?_;obtain rfl := zJ hr;exact zf (.one (.tmp Z)) zv
def A7 (a : ID) (b : ID) : Option Bool :=
 (yJ [a.1, a.2] [b.1, b.2]).bind fun v1 =>
 some (decide (v1 < 0))
theorem Ky {a : ID} {b : ID} {r_ : Bool} (hr : A7 a b = some r_) : av Tryz.prog 188 [bH a, bH b] [.bool r_] := by
 refine zh Tryz.func188 Z Z Z Z ?_;unfold A7 at hr;refine zQ<|zR<|yS Z (bV Z Z Z Z Z)<|yS Z (bV Z Z Z Z Z)<|zM Z<|zN<|zT<|zQ<|LW.draw2 (by kernel_rfl) (by kernel_rfl)<|yE Z (ab.sliceBox Z Z zP Z Z Z)<|yE Z (ab.sliceBox Z Z zP Z Z Z)<|zb hr fun v1 h_v1 hr => yE Z (zC Z Z Z (by kernel_rfl) (LC.lend (Ic h_v1) (.cons (Conv.boxSlice Z Z Z Z) (.cons (Conv.boxSlice Z Z Z Z) .nil)) Z))<|yE Z (aw Z Z Z Z)<|zH Z<|LO.nil<|zT<|zr ?_;obtain rfl := zJ hr;exact zf (.one (.tmp Z)) zv
def A8 (a : Rk) (b : Rk) : Option Bool :=
 bif a.n != b.n then
  some (decide (a.n > b.n))
 else
  bif !((a.n == b.n) && ((a.id.1 == b.id.1) && ((a.id.2 == b.id.2) && true))) then
   (A7 b.id a.id).bind fun v1 =>
   some v1
  else
   some false
theorem Kz {a : Rk} {b : Rk} {r_ : Bool} (hr : A8 a b = some r_) : av Tryz.prog 172 [Lj a, Lj b] [.bool r_] := by
 refine zh Tryz.func172 Z Z Z Z ?_;unfold A8 at hr;refine zQ<|zR<|yS Z (bV Z Z Z Z Z)<|yS Z (bV Z Z Z Z Z)<|zM Z<|zN<|zT<|zQ<|zQ<|zR<|yS Z (zA Z Z mV)<|yS Z (zD Z Z Z bC Z Z)<|yS Z (zA Z Z mV)<|yS Z (zD Z Z Z bC Z Z)<|yS Z (aw Z Z Z Z)<|zN<|zT ?_;refine zX Z (fun g1 => ?_)<|fun g1 => ?_
 ·
  refine zi g1 hr fun hr => zQ<|zR<|yS Z (zA Z Z mV)<|yS Z (zD Z Z Z bC Z Z)<|yS Z (zA Z Z mV)<|yS Z (zD Z Z Z bC Z Z)<|yS Z (aw Z Z Z Z)<|zM Z<|zN<|zT<|zr<|aj ?_;obtain rfl := zJ hr;exact zf (.one (.tmp Z)) zv
 ·
  refine zo g1 hr fun hr => zk<|zT<|zQ<|zR<|yS Z (zD Z Z Z oU Z Z)<|yS Z (zD Z Z Z oU Z Z)<|yS Z (ab.neqAgg Z Z Z Z Z GS)<|zM Z ?_;refine zc 18 Z (fun g2 => ?_)<|fun g2 => ?_
  ·
   refine zi g2 hr fun hr => yV Z (gd g2 Z) (zA Z Z tj)<|yV Z (gd g2 Z) (zD Z Z Z aR Z Z)<|yV Z (gd g2 Z) (zA Z Z tj)<|yV Z (gd g2 Z) (zD Z Z Z aR Z Z)<|zb hr fun v1 h_v1 hr => yV Z (gd g2 Z) (zC Z Z Z (by kernel_rfl) (zp (Ky h_v1) (.cons zv (.cons zv .nil))))<|yS Z (eP Z (bL g2 Z) Z)<|zM Z<|zN<|zT<|zr ?_;obtain rfl := zJ hr;exact zf (.one (.tmp Z)) zv
  ·
   refine zo g2 hr fun hr => yU Z (gd g2 Z) Z<|yU Z (gd g2 Z) Z<|yU Z (gd g2 Z) Z<|yU Z (gd g2 Z) Z<|yU Z (gd g2 Z) Z<|yS Z (db Z (bL g2 Z) Z)<|zM Z<|zN<|zT<|zr ?_;obtain rfl := zJ hr;exact zf (.one (.tmp Z)) zv
def D7 (x : Vt) : Option Int :=
 some x.From
theorem KH {x : Vt} {r_ : Int} (hr : D7 x = some r_) : av Tryz.prog 153 [aI x] [.int .i64 r_] := by
 refine zh Tryz.func153 Z Z Z Z ?_;unfold D7 at hr;refine zQ<|zR<|yS Z (bV Z Z Z Z Z)<|zM Z<|zN<|zT<|zQ<|zR<|yS Z (zA Z Z qz)<|yS Z (zD Z Z Z bC Z Z)<|zM Z<|zN<|zT<|zr ?_;obtain rfl := zJ hr;exact zf (.one (.tmp Z)) zv
open Go.Proofs
def Bl (x : Vt) (_ : Cf) (l : List Bk) (id : ID) (m : List (ID × Bool)) : Option (Bool × (List (ID × Bool))) :=
 bif !((ah m x.Head).isSome) then
  bif few l then
   some (decide (aU (aF l x.Head) id ≥ 0), aN m x.Head (decide (aU (aF l x.Head) id ≥ 0)))
  else none
 else
  some ((ah m x.Head).getD false, m)
theorem IN {x : Vt} {c : Cf} {l : List Bk} {id : ID} {m : List (ID × Bool)} {r_ : Bool × (List (ID × Bool))} (hr : Bl x c l id m = some r_) : LC Tryz.prog 151 [.p (aI x), .ptr 4 0, .ptr 1 0, .ptr 2 0] [.box (bB c), .box [(kB l)], .box [(uQ id.1), (uQ id.2)], .map (af bH (fun v => (bQ v)) m), .box [.map 3]] (Is (bQ r_.1) [.box (bB c), .box [(kB l)], .box [(uQ id.1), (uQ id.2)], .map (af bH (fun v => (bQ v)) r_.2), .box [.map 3]]) := by
 refine dc Tryz.func151 Z Z Z ?_;unfold Bl at hr;refine zQ<|zR<|yS Z (bV Z Z Z Z Z)<|zM Z<|zN<|zT<|zQ<|zR<|yS Z (zD Z Z Z DA Z Z)<|yS Z (zA Z Z l7)<|yS Z (zD Z Z Z aR Z Z) ?_;refine yS Z (ab.getX (f := bH) (g := (fun v => (bQ v))) x.Head false dO Z Z Z Z yo JZ Z Z) ?_;refine zM Z<|yS Z (fA Z Z Z)<|yS Z (fA Z Z Z)<|zM Z<|zM Z<|zN<|zT<|zQ<|zQ<|zR<|zM Z<|yS Z (ab.not Z Z)<|zN<|zT ?_;refine zX Z (fun g1 => ?_)<|fun g1 => ?_
 ·
  refine zi g1 hr fun hr => zQ<|LW.draw2 (by kernel_rfl) (by kernel_rfl)<|yE Z (zD Z Z Z dE Z Z)<|yE Z (zA Z Z l7)<|yE Z (zD Z Z Z aR Z Z)<|zg hr fun q1 hr => yE Z (zC Z Z Z (by kernel_rfl) (zp (Ke (l := l) (id := x.Head) (tf q1)) (.cons zv (.cons zv .nil))))<|yE Z (zD Z Z Z aR Z Z)<|yE Z (zC Z Z Z (by kernel_rfl) (zp (Lf (l := (aF l x.Head)) (v := id)) (.cons zv (.cons zv .nil))))<|zH Z<|LO.nil<|zT<|zR<|yS Z (zD Z Z Z DA Z Z)<|yS Z (zA Z Z l7)<|yS Z (zD Z Z Z aR Z Z)<|zM Z ?_;refine yS Z (ab.setX (f := bH) (g := (fun v => (bQ v))) x.Head (decide (aU (aF l x.Head) id ≥ 0)) dO (.inl Z) Z Z Z Z Z yo Z) ?_;refine zN<|zT<|zQ<|zR<|zM Z<|zM Z<|zN<|zT<|zr ?_;obtain rfl := zJ hr;refine ba (env' := [(5, .p (.bool (decide (aU (aF l x.Head) id ≥ 0))))]) (H' := [.box (bB c), .box [(kB l)], .box [(uQ id.1), (uQ id.2)], .map (af bH (fun v => (bQ v)) (aN m x.Head (decide (aU (aF l x.Head) id ≥ 0)))), .box [.map 3]]) (zW 5 ⟨rfl, trivial⟩ Z Z Z (zL Z (zL Z (zL Z (zL (ae (fun _ => rfl) _) (zL Z Z)))))) (.one (.tmp Z)) ?_;exact ⟨rfl, rfl⟩
 ·
  refine zo g1 hr fun hr => zk<|zT<|zQ<|zR<|zM Z<|zM Z<|zN<|zT<|zr ?_;obtain rfl := zJ hr;refine ba (env' := [(5, .p (.bool ((ah m x.Head).getD false)))]) (H' := [.box (bB c), .box [(kB l)], .box [(uQ id.1), (uQ id.2)], .map (af bH (fun v => (bQ v)) m), .box [.map 3]]) (zW 5 ⟨rfl, trivial⟩ Z Z Z (zL Z (zL Z (zL Z (zL (ae (fun _ => rfl) _) (zL Z Z)))))) (.one (.tmp Z)) ?_;exact ⟨rfl, rfl⟩
structure il where
 t12 : Int
 o3 : List (ID × Bool)
 out : List Int
def mJ (v : List Vt) (c : Cf) (l : List Bk) (id : ID) (x1 : il) : Option (il ⊕ il) :=
 bif decide (x1.t12 < (v.length : Int)) then
  (ix v x1.t12).bind fun y1 =>
  (Bl y1 c l id x1.o3).bind fun v2 =>
  bif v2.1 then
   (D7 y1).bind fun v3 =>
   bif room x1.out.length [v3].length 8 then
    some (.inl (il.mk (IntKind.i64.wrap (x1.t12 + 1)) v2.2 (x1.out ++ [v3])))
   else none
  else
   some (.inl (il.mk (IntKind.i64.wrap (x1.t12 + 1)) v2.2 x1.out))
 else
  some (.inr (il.mk x1.t12 x1.o3 x1.out))
def Bm (v : List Vt) (c : Cf) (l : List Bk) (id : ID) (m : List (ID × Bool)) : Option (List Int × List (ID × Bool)) :=
 (iter (mJ v c l id) bG (il.mk 0 m ([] : List Int))).bind fun v1 =>
 some (v1.out, v1.o3)
theorem Zz {v : List Vt} {c : Cf} {l : List Bk} {id : ID} {m : List (ID × Bool)} {r_ : List Int × List (ID × Bool)} (hr : Bm v c l id m = some r_) : LC Tryz.prog 152 [(kV v), .fn 151 [] [.ptr 4 0, .ptr 1 0, .ptr 2 0], .fn 153 [] []] [.box (bB c), .box [(kB l)], .box [(uQ id.1), (uQ id.2)], .map (af bH (fun v => (bQ v)) m), .box [.map 3]] (Is (kI r_.1) [.box (bB c), .box [(kB l)], .box [(uQ id.1), (uQ id.2)], .map (af bH (fun v => (bQ v)) r_.2), .box [.map 3]]) := by
 refine dc Tryz.func152 Z Z Z ?_;unfold Bm at hr;refine zQ<|zR<|zM Z<|zN<|zT<|zQ<|zR<|zM Z<|zN<|zT<|zQ<|zQ<|zR<|zM Z<|yS Z (dT Z Z (by kernel_rfl))<|zM Z<|zN<|zT<|LW.ent (bM.lazy (t := 7) (m := 1) Z Z Z) ?_;obtain ⟨v1, hb_v1, ho_v1⟩ := zB hr;clear hr;refine LW.tail (E := [(6, .zs), (7, (jI 5 v1.out))]) (O := [.box (bB c), .box [(kB l)], .box [(uQ id.1), (uQ id.2)], .map (af bH (fun v => (bQ v)) v1.o3), .box [.map 3], .vec 1 (v1.out.map aE)]) ?_<|fun env_v1 H_v1 hw_v1 => ?_
 ·refine LW.block ?_;refine LW.iterB (E := fun x1 : il => [(1, .fn 151 [] [.ptr 4 0, .ptr 1 0, .ptr 2 0]), (2, .fn 153 [] []), (6, .zs), (7, (jI 5 x1.out)), (10, (kV v)), (11, .p (.int .i64 (v.length : Int))), (12, (iQ x1.t12))]) (O := fun x1 => [.box (bB c), .box [(kB l)], .box [(uQ id.1), (uQ id.2)], .map (af bH (fun v => (bQ v)) x1.o3), .box [.map 3], .vec 1 (x1.out.map aE)]) hb_v1 (zW 6 ⟨rfl, rfl, rfl, rfl, rfl, rfl, rfl, trivial⟩ Z Z Z (zL Z (zL Z (zL Z (zL (ae (fun _ => rfl) _) (zL Z (zL Z Z)))))))<|fun x1 z_x1 hr hb_x1 => ?_;unfold mJ at hr;refine zQ<|zR<|yS Z (aw Z Z Z Z)<|zN<|zT<|zQ ?_;refine zX Z (fun g1 => ?_)<|fun g1 => ?_
  ·
   refine zi g1 hr fun hr => zk<|zT<|zQ<|zl<|zQ<|zR<|zb hr fun y1 h_y1 hr => yS Z (zx Z Z Z dF h_y1 Z)<|yS Z (dS Z Z Z cB Z Z)<|yS Z (ze Z rC Z Z)<|yS Z (zs Z Z Z Z cB Z Z Z Z)<|zN<|zT<|zQ<|zR<|zM Z<|yS Z (zD Z Z Z cB Z Z)<|zb hr fun v2 h_v2 hr => ?_;refine yS Z (zC Z Z Z (by kernel_rfl) (LC.pre (IN h_v2) Z (zL Z (zL Z (zL Z (zL (ae (fun _ => rfl) _) (zL Z Z))))) Z)) ?_;refine zN<|zT ?_;refine zX Z (fun g2 => ?_)<|fun g2 => ?_
   ·
    refine zi g2 hr fun hr => zR<|zM Z<|zM Z<|yS Z (zD Z Z Z cB Z Z)<|zb hr fun v3 h_v3 hr => yS Z (zC Z Z Z (by kernel_rfl) (zp (KH h_v3) (.cons zv .nil)))<|yS Z (mD Z fY Z Z Z Z Z)<|zg hr fun q1 hr => yS Z (ab.appendX aE x1.out [v3] rfl Z Z Z kg.p Z fY q1 Z)<|zM Z<|zN<|ai<|zT<|zR<|yS Z (aw Z Z Z Z)<|zM Z<|zN<|zT ?_;obtain rfl := zJ hr;exact ⟨_, rfl, zW 6 ⟨rfl, rfl, rfl, rfl, rfl, rfl, rfl, trivial⟩ Z Z Z (zL Z (zL Z (zL Z (zL (ae (fun _ => rfl) _) (zL Z (zL Z Z))))))⟩
   ·
    refine zo g2 hr fun hr => zk<|ai<|zT<|zR<|yS Z (aw Z Z Z Z)<|zM Z<|zN<|zT ?_;obtain rfl := zJ hr;exact ⟨_, rfl, zW 6 ⟨rfl, rfl, rfl, rfl, rfl, rfl, rfl, trivial⟩ Z Z Z (zL Z (zL Z (zL Z (zL (ae (fun _ => rfl) _) (zL Z (zL Z Z))))))⟩
  ·
   refine zo g1 hr fun hr => zq<|ao<|ao<|zy<|zT ?_;obtain rfl := zJ hr;have hr := congrArg some (hb_x1 _ rfl);obtain rfl := zJ hr;exact zW 6 ⟨Z, Z, trivial⟩ Z Z Z<|zL Z<|zL Z<|zL Z<|zL (ae (fun _ => rfl) _)<|zL Z<|zL Z Z
 ·have hr := ho_v1;clear hb_v1;refine zT<|LW.weak hw_v1<|zQ<|zR<|zM Z<|zM Z<|zN<|zT ?_;refine LW.weak (env' := [(6, (jI 5 v1.out))]) (H' := [.box (bB c), .box [(kB l)], .box [(uQ id.1), (uQ id.2)], .map (af bH (fun v => (bQ v)) v1.o3), .box [.map 3], .vec 1 (v1.out.map aE)]) (zW 6 ⟨rfl, trivial⟩ Z Z Z (zL Z (zL Z (zL Z (zL (ae (fun _ => rfl) _) (zL Z (zL Z Z))))))) ?_;refine LW.ent (bM.frz (t := 6) (env' := []) (H0 := [.box (bB c), .box [(kB l)], .box [(uQ id.1), (uQ id.2)], .map (af bH (fun v => (bQ v)) v1.o3), .box [.map 3]]) Z Z Z Z Z trivial Z (zL Z (zL Z (zL Z (zL (ae (fun _ => rfl) _) (zL Z Z)))))) ?_;refine LW.ret ?_;obtain rfl := zJ hr;exact ap (.one (.tmp Z))<|⟨rfl, rfl⟩
def yD (c : Cf) (l : List Bk) (v : List Vt) (id : ID) : Option Int :=
 (Bm v c l id []).bind fun v1 =>
 (Fa c v1.1).bind fun v2 =>
 some v2
theorem H7 {c : Cf} {l : List Bk} {v : List Vt} {id : ID} {r_ : Int} (hr : yD c l v id = some r_) : av Tryz.prog 112 [jx c, .slice 5 (l.map ax), .slice 4 (v.map aI), bH id] [.int .i64 r_] := by
 refine zh Tryz.func112 Z Z Z Z ?_;unfold yD at hr;refine zQ<|zR<|yS Z (bV Z Z Z Z Z)<|yS Z (bV Z Z Z Z Z)<|yS Z (bV Z Z Z Z Z)<|zM Z<|zN<|zT<|zQ<|zR<|yS Z (ab.makeMap Z Z Z)<|yS Z (ze Z J3 Z Z)<|yS Z (zs Z Z Z Z DA Z Z Z Z)<|zN<|zT<|zQ<|zR<|yS Z (ab.makeFunc Z Z Z)<|zM Z<|zN<|zT<|zQ<|LW.drawW (by kernel_rfl) (by kernel_rfl)<|yF Z (zd Z Z Z bE Z Z) Z ?_;refine zK Z<|zK Z<|zb hr fun v1 h_v1 hr => ?_;refine yF Z (bJ.all (s := some (3, .map (af bH (fun v => (bQ v)) v1.2))) (zC Z Z Z (by kernel_rfl) (Zz h_v1)) Z Z Z) Z ?_;obtain ⟨v2, h_v2, hr⟩ := zB hr;refine yF (F := []) (s := none) Z (fun H _ => zC Z Z Z (by kernel_rfl) (zp (Kh h_v2) (.cons zv (.cons zv .nil)))) Z ?_;refine zK Z ?_;refine LF.nil ⟨by kernel_rfl, ?_⟩;refine zT<|zr ?_;obtain rfl := zJ hr;exact zf (.one (.tmp Z)) zv
structure fW where
 t19 : Int
 best : Rk
def pQ (c : Cf) (l : List Bk) (v : List Vt) (v1 : (List ID)) (x1 : fW) : Option (fW ⊕ fW) :=
 bif decide (x1.t19 < (v1.length : Int)) then
  (ix v1 x1.t19).bind fun y1 =>
  (yD c l v y1).bind fun v3 =>
  (A8 (Rk.mk v3 y1) x1.best).bind fun v4 =>
  bif v4 then
   some (.inl (fW.mk (IntKind.i64.wrap (x1.t19 + 1)) (Rk.mk v3 y1)))
  else
   some (.inl (fW.mk (IntKind.i64.wrap (x1.t19 + 1)) x1.best))
 else
  some (.inr (fW.mk x1.t19 x1.best))
def HB (c : Cf) (l : List Bk) (v : List Vt) (id : ID) : Option (ID × Bool) :=
 (Hz l id).bind fun v1 =>
 (iter (pQ c l v v1) bG (fW.mk 0 (Rk.mk (-1) (0, 0)))).bind fun v2 =>
 some (v2.best.id, decide (v2.best.n ≥ 0))
theorem Lq {c : Cf} {l : List Bk} {v : List Vt} {id : ID} {r_ : ID × Bool} (hr : HB c l v id = some r_) : av Tryz.prog 154 [jx c, .slice 5 (l.map ax), .slice 4 (v.map aI), bH id] [bH r_.1, .bool r_.2] := by
 refine zh Tryz.func154 Z Z Z Z ?_;unfold HB at hr;refine zQ<|zR<|yS Z (bV Z Z Z Z Z)<|yS Z (bV Z Z Z Z Z)<|yS Z (ze Z jo Z Z)<|zM Z<|zN<|zT<|zQ<|zR<|yS Z (ab.build Z Ff Z Z Z)<|yS Z (ze Z FY Z Z)<|yS Z (zs Z Z Z Z oU Z Z Z Z)<|zN<|zT<|zQ<|zQ<|zR<|zM Z<|yS Z (zD Z Z Z aR Z Z)<|zb hr fun v1 h_v1 hr => yS Z (zC Z Z Z (by kernel_rfl) (zp (Lo h_v1) (.cons zv (.cons zv .nil))))<|yS Z (dT Z Z (by kernel_rfl))<|zM Z ?_;refine zN<|zT ?_;obtain ⟨v2, hb_v2, ho_v2⟩ := zB hr;clear hr;refine LW.tail (E := [(8, .ptr 2 0), (9, (bQ false)), (10, .ptr 3 0)]) (O := [.box (bB c), .box [(uQ id.1), (uQ id.2)], .box [(uQ 0), (uQ 0)], .box [(iQ v2.best.n), (uQ v2.best.id.1), (uQ v2.best.id.2)]]) ?_<|fun env_v2 H_v2 hw_v2 => ?_
 ·refine LW.block ?_;refine LW.iterB (E := fun x1 : fW => [(1, (kB l)), (2, (kV v)), (4, .ptr 0 0), (8, .ptr 2 0), (9, (bQ false)), (10, .ptr 3 0), (17, .p (.slice 2 (v1.map bH))), (18, .p (.int .i64 (v1.length : Int))), (19, (iQ x1.t19))]) (O := fun x1 => [.box (bB c), .box [(uQ id.1), (uQ id.2)], .box [(uQ 0), (uQ 0)], .box [(iQ x1.best.n), (uQ x1.best.id.1), (uQ x1.best.id.2)]]) hb_v2 (zW 4 ⟨rfl, rfl, rfl, rfl, rfl, rfl, rfl, rfl, rfl, trivial⟩ Z Z Z Z)<|fun x1 z_x1 hr hb_x1 => ?_;unfold pQ at hr;refine zQ<|zR<|yS Z (aw Z Z Z Z)<|zN<|zT<|zQ ?_;refine zX Z (fun g1 => ?_)<|fun g1 => ?_
  ·
   refine zi g1 hr fun hr => zk<|zT<|zQ<|zl<|zQ<|zR<|zb hr fun y1 h_y1 hr => yS Z (zx Z Z Z nw h_y1 Z)<|yS Z (dS Z Z Z aR Z Z)<|yS Z (ze Z jo Z Z)<|yS Z (zs Z Z Z Z aR Z Z Z Z)<|zN<|zT<|zQ<|LW.ent (bM.slot Z)<|LW.drawW (by kernel_rfl) (by kernel_rfl)<|yF Z (zd Z Z Z bE Z Z) Z<|zK Z<|zK Z<|yF Z (zd Z Z Z aR Z Z) Z<|zb hr fun v3 h_v3 hr => ?_;refine yF (F := []) (s := none) Z (fun H _ => zC Z Z Z (by kernel_rfl) (zp (H7 h_v3) (.cons zv (.cons zv (.cons zv (.cons zv .nil)))))) Z ?_;refine yF Z (zd Z Z Z aR Z Z) Z ?_;refine yF (F := []) (s := none) Z (fun H _ => ab.build Z Ff Z Z Z) Z ?_;refine yF Z (bJ.alloc Z FY (id := 5) Z) Z<|yF Z (zt Z Z Z Z oU Z Z Z) Z ?_;refine LF.nil ⟨by kernel_rfl, ?_⟩;refine zT<|zQ<|zR<|yS Z (zD Z Z Z oU Z Z)<|yS Z (zD Z Z Z oU Z Z)<|zb hr fun v4 h_v4 hr => yS Z (zC Z Z Z (by kernel_rfl) (zp (Kz h_v4) (.cons zv (.cons zv .nil))))<|zN<|zT ?_;refine zX Z (fun g2 => ?_)<|fun g2 => ?_
   ·
    refine zi g2 hr fun hr => zR<|yS Z (zD Z Z Z oU Z Z)<|yS Z (zs Z Z Z Z oU Z Z Z Z)<|zN<|ai<|zT<|zR<|yS Z (aw Z Z Z Z)<|zM Z<|zN<|zT ?_;obtain rfl := zJ hr;exact ⟨_, rfl, zW 4 ⟨rfl, rfl, rfl, rfl, rfl, rfl, rfl, rfl, rfl, trivial⟩ Z Z Z rfl⟩
   ·
    refine zo g2 hr fun hr => zk<|ai<|zT<|zR<|yS Z (aw Z Z Z Z)<|zM Z<|zN<|zT ?_;obtain rfl := zJ hr;exact ⟨_, rfl, zW 4 ⟨rfl, rfl, rfl, rfl, rfl, rfl, rfl, rfl, rfl, trivial⟩ Z Z Z rfl⟩
  ·
   refine zo g1 hr fun hr => zq<|ao<|ao<|zy<|zT ?_;obtain rfl := zJ hr;have hr := congrArg some (hb_x1 _ rfl);obtain rfl := zJ hr;exact zW 4 ⟨Z, Z, Z, trivial⟩ Z Z Z Z
 ·have hr := ho_v2;clear hb_v2;refine zT<|LW.weak hw_v2<|zQ<|LW.drawW (by kernel_rfl) (by kernel_rfl) ?_;refine yF (F := []) (s := none) Z (fun H _ => zA Z Z tj) Z ?_;refine yF Z (zd Z Z Z aR Z Z) Z ?_;refine yF (F := []) (s := none) Z (fun H _ => zA Z Z mV) Z ?_;refine yF Z (zd Z Z Z bC Z Z) Z ?_;refine yF (F := []) (s := none) Z (fun H _ => aw Z Z Z Z) Z ?_;refine yF Z (zt Z Z Z Z aR Z Z Z) Z<|zK Z ?_;refine LF.nil ⟨by kernel_rfl, ?_⟩;refine zT<|zr ?_;obtain rfl := zJ hr;exact zf (.two (.cellAgg Z Z (by kernel_rfl) Z) (.tmp Z))<|⟨_, rfl, (.cons zv (.cons zv .nil))⟩
structure lS where
 id : ID
def lT (c : Cf) (l : List Bk) (v : List Vt) (x1 : lS) : Option (lS ⊕ lS) :=
 (HB c l v x1.id).bind fun v2 =>
 bif !v2.2 then
  some (.inr (lS.mk x1.id))
 else
  some (.inl (lS.mk v2.1))
def HC (c : Cf) (l : List Bk) (v : List Vt) : Option ID :=
 (iter (lT c l v) bG (lS.mk (0, 0))).bind fun v1 =>
 some v1.id
theorem Lr {c : Cf} {l : List Bk} {v : List Vt} {r_ : ID} (hr : HC c l v = some r_) : av Tryz.prog 114 [jx c, .slice 5 (l.map ax), .slice 4 (v.map aI)] [bH r_] := by
 refine zh Tryz.func114 Z Z Z Z ?_;unfold HC at hr;refine zQ<|zR<|yS Z (bV Z Z Z Z Z)<|yS Z (ze Z jo Z Z)<|zN<|zT<|LW.scope<|zQ<|LW.label<|zT ?_;obtain ⟨v1, hb_v1, ho_v1⟩ := zB hr;clear hr;refine LW.cut (E := [(6, .ptr 1 0)]) (O := [.box (bB c), .box [(uQ v1.id.1), (uQ v1.id.2)]]) ?_ ?_
 ·refine LW.block ?_;refine LW.iterB (E := fun x1 : lS => [(1, (kB l)), (2, (kV v)), (3, .ptr 0 0), (6, .ptr 1 0)]) (O := fun x1 => [.box (bB c), .box [(uQ x1.id.1), (uQ x1.id.2)]]) hb_v1 (zW 2 ⟨rfl, rfl, rfl, rfl, trivial⟩ Z Z Z Z)<|fun x1 z_x1 hr hb_x1 => ?_;unfold lT at hr;refine zl<|zQ<|zR<|yS Z (zD Z Z Z bE Z Z)<|zM Z<|zM Z<|yS Z (zD Z Z Z aR Z Z)<|zb hr fun v2 h_v2 hr => yS Z (zC Z Z Z (by kernel_rfl) (zp (Lq h_v2) (.cons zv (.cons zv (.cons zv (.cons zv .nil))))))<|zM Z<|yS Z (fA Z Z Z)<|yS Z (fA Z Z Z)<|yS Z (ze Z jo Z Z)<|yS Z (zs Z Z Z Z aR Z Z Z Z)<|zM Z<|zN<|zT<|zQ<|zQ<|zR<|zM Z<|yS Z (ab.not Z Z)<|zN<|zT ?_;refine zX Z (fun g1 => ?_)<|fun g1 => ?_
  ·
   refine zi g1 hr fun hr => zq<|ao<|kD (by decide)<|ao<|zy<|zT ?_;obtain rfl := zJ hr;have hr := congrArg some (hb_x1 _ rfl);obtain rfl := zJ hr;exact zW 2 ⟨Z, trivial⟩ Z Z Z Z
  ·
   refine zo g1 hr fun hr => zk<|zT<|zR<|yS Z (zD Z Z Z aR Z Z)<|yS Z (zs Z Z Z Z aR Z Z Z Z)<|zN<|ai<|zT ?_;obtain rfl := zJ hr;exact ⟨_, rfl, zW 2 ⟨rfl, rfl, rfl, rfl, trivial⟩ Z Z Z rfl⟩
 ·have hr := ho_v1;clear hb_v1;refine zQ<|zR<|yS Z (zD Z Z Z aR Z Z)<|yS Z (zs Z Z Z Z aR Z Z Z Z)<|zN<|zT<|zr<|qM ?_;obtain rfl := zJ hr;exact zf (.one (.cellAgg Z Z (by kernel_rfl) Z)) zv
open Go.Proofs
theorem uD {α : Type} {f : α → PV} {l : List α} (hb : room 0 l.length 40 = true) : LC Tryz.prog 128 [.p (.slice 5 (l.map f))] [] (Is (.vec 5 0 (l.map f).length 0 (l.map f).length) [.vec 5 (l.map f)]) := by
 refine dc Tryz.func128 Z Z Z ?_;refine zQ<|zR<|yS Z (za Z Z)<|zN<|zT<|zQ<|zQ<|zR<|yS Z (zm Z Z)<|am.cons Z Z Z (ab.eqNil Z Z Z eB) ?_;rintro _ _ ⟨rfl, b, rfl, hn⟩;refine zN<|zT ?_;refine zX Z (fun g => ?_)<|fun g => ?_
 ·have hl : l = [] := List.map_eq_nil_iff.1 (hn g);subst hl;exact zQ<|zR<|yS Z (za Z Z)<|zN<|zT<|LW.ent (bM.lazy (t := 2) (m := 5) Z Z Z)<|zr<|aj<|ap (.one (.tmp Z)) ⟨rfl, rfl⟩
 ·refine LW.skip ?_;exact zT<|zQ<|zR<|yS Z (ab.buildSlice0 Z eB)<|yS Z (zm Z Z)<|yS Z (ab.appendZX f l Z Z Z Z kg.p Z eB hb Z)<|yS Z (za Z Z)<|zN<|zT<|zr<|ap (.one (.tmp Z)) ⟨rfl, rfl⟩
theorem uE {α : Type} {f : α → PV} {l : List α} (hb : room 0 l.length 32 = true) : LC Tryz.prog 129 [.p (.slice 4 (l.map f))] [] (Is (.vec 4 0 (l.map f).length 0 (l.map f).length) [.vec 4 (l.map f)]) := by
 refine dc Tryz.func129 Z Z Z ?_;refine zQ<|zR<|yS Z (za Z Z)<|zN<|zT<|zQ<|zQ<|zR<|yS Z (zm Z Z)<|am.cons Z Z Z (ab.eqNil Z Z Z dF) ?_;rintro _ _ ⟨rfl, b, rfl, hn⟩;refine zN<|zT ?_;refine zX Z (fun g => ?_)<|fun g => ?_
 ·have hl : l = [] := List.map_eq_nil_iff.1 (hn g);subst hl;exact zQ<|zR<|yS Z (za Z Z)<|zN<|zT<|LW.ent (bM.lazy (t := 2) (m := 4) Z Z Z)<|zr<|aj<|ap (.one (.tmp Z)) ⟨rfl, rfl⟩
 ·refine LW.skip ?_;exact zT<|zQ<|zR<|yS Z (ab.buildSlice0 Z dF)<|yS Z (zm Z Z)<|yS Z (ab.appendZX f l Z Z Z Z kg.p Z dF hb Z)<|yS Z (za Z Z)<|zN<|zT<|zr<|ap (.one (.tmp Z)) ⟨rfl, rfl⟩
def HD (c : Cf) (b : Bk) : Option Bool :=
 (Ec c b.Slot).bind fun v1 =>
 bif decide (v1 ≥ 0) then
  bif v1 == b.From then
   some (!((((nm b).1) == 0) && ((((nm b).2) == 0) && true)))
  else
   some false
 else
  some false
theorem Ls {c : Cf} {b : Bk} {r_ : Bool} (hr : HD c b = some r_) : av Tryz.prog 133 [jx c, ax b] [.bool r_] := by
 refine zh Tryz.func133 Z Z Z Z ?_;unfold HD at hr;refine zQ<|zR<|yS Z (bV Z Z Z Z Z)<|yS Z (bV Z Z Z Z Z)<|zM Z<|zN<|zT<|zQ<|zR<|yS Z (zD Z Z Z bE Z Z)<|yS Z (zA Z Z kA)<|yS Z (zD Z Z Z bC Z Z)<|zb hr fun v1 h_v1 hr => yS Z (zC Z Z Z (by kernel_rfl) (zp (Kf h_v1) (.cons zv (.cons zv .nil))))<|zM Z<|zN<|zT<|zQ<|zR<|zM Z<|yS Z (aw Z Z Z Z)<|zM Z ?_;refine zc 12 Z (fun g1 => ?_)<|fun g1 => ?_
 ·
  refine zi g1 hr fun hr => yV Z (gd g1 Z) (zm Z Z)<|yV Z (gd g1 Z) (zA Z Z wJ)<|yV Z (gd g1 Z) (zD Z Z Z bC Z Z)<|yV Z (gd g1 Z) (aw Z Z Z Z)<|yS Z (eP Z (bL g1 Z) Z)<|zM Z ?_;refine zc 18 Z (fun g2 => ?_)<|fun g2 => ?_
  ·
   refine zi g2 hr fun hr => yV Z (gd g2 Z) (zD Z Z Z cH Z Z)<|yV Z (gd g2 Z) (zC Z Z Z (by kernel_rfl) (zp (Fr (b := b)) (.cons zv .nil)))<|yV Z (gd g2 Z) (ab.build Z wz Z Z Z)<|yV Z (gd g2 Z) (ab.neqAgg Z Z Z Z Z rY)<|yS Z (eP Z (bL g2 Z) Z)<|zM Z<|zN<|zT<|zr ?_;obtain rfl := zJ hr;exact zf (.one (.tmp Z)) zv
  ·
   refine zo g2 hr fun hr => yU Z (gd g2 Z) Z<|yU Z (gd g2 Z) Z<|yU Z (gd g2 Z) Z<|yU Z (gd g2 Z) Z<|yS Z (db Z (bL g2 Z) Z)<|zM Z<|zN<|zT<|zr ?_;obtain rfl := zJ hr;exact zf (.one (.tmp Z)) zv
 ·
  refine zo g1 hr fun hr => yU Z (gd g1 Z) Z<|yU Z (gd g1 Z) Z<|yU Z (gd g1 Z) Z<|yU Z (gd g1 Z) Z<|yS Z (db Z (bL g1 Z) Z)<|zM Z<|yU Z Z Z<|yU Z Z Z<|yU Z Z Z<|yU Z Z Z<|yS Z (db Z Z Z)<|zM Z<|zN<|zT<|zr ?_;obtain rfl := zJ hr;exact zf (.one (.tmp Z)) zv
def HE (c : Cf) (v : Vt) : Option Bool :=
 (F4 c v.Slot v.From).bind fun v1 =>
 some v1
theorem Lt {c : Cf} {v : Vt} {r_ : Bool} (hr : HE c v = some r_) : av Tryz.prog 135 [jx c, aI v] [.bool r_] := by
 refine zh Tryz.func135 Z Z Z Z ?_;unfold HE at hr;refine zQ<|zR<|yS Z (bV Z Z Z Z Z)<|yS Z (bV Z Z Z Z Z)<|zM Z<|zN<|zT<|zQ<|zR<|yS Z (zD Z Z Z bE Z Z)<|yS Z (zA Z Z qA)<|yS Z (zD Z Z Z bC Z Z)<|yS Z (zA Z Z qz)<|yS Z (zD Z Z Z bC Z Z)<|zb hr fun v1 h_v1 hr => yS Z (zC Z Z Z (by kernel_rfl) (zp (KT h_v1) (.cons zv (.cons zv (.cons zv .nil)))))<|zM Z<|zN<|zT<|zr ?_;obtain rfl := zJ hr;exact zf (.one (.tmp Z)) zv
structure fB where
 t8 : Int
def ld (s : List Bk) (v : Bk) (x1 : fB) : Option (fB ⊕ (fB ⊕ Int)) :=
 bif decide (x1.t8 < (s.length : Int)) then
  (ix s x1.t8).bind fun y1 =>
  bif ((v.Slot == y1.Slot) && ((v.From == y1.From) && ((v.Parent.1 == y1.Parent.1) && ((v.Parent.2 == y1.Parent.2) && ((v.Salt == y1.Salt) && true))))) then
   some (.inr (.inr x1.t8))
  else
   some (.inl (fB.mk (IntKind.i64.wrap (x1.t8 + 1))))
 else
  some (.inr (.inl (fB.mk x1.t8)))
def Ea (s : List Bk) (v : Bk) : Option Int :=
 (iter (ld s v) bG (fB.mk 0)).bind fun b_v1 => Sum.elim (fun _ =>
  some (-1)) some b_v1
theorem KK {s : List Bk} {v : Bk} {r_ : Int} (hr : Ea s v = some r_) : av Tryz.prog 130 [.slice 5 (s.map ax), ax v] [.int .i64 r_] := by
 refine zh Tryz.func130 Z Z Z Z ?_;unfold Ea at hr;refine zQ<|zR<|yS Z (bV Z Z Z Z Z)<|zM Z<|zN<|zT<|zQ<|zQ<|zR<|zM Z<|yS Z (dT Z Z (by kernel_rfl))<|zM Z<|zN<|zT ?_;obtain ⟨b_v1, hb_v1, ho_v1⟩ := zB hr;clear hr;refine LW.tailB (b := b_v1) (E := fun v1 => [(4, (iQ 0))]) (O := fun v1 => [.box [(iQ v.Slot), (iQ v.From), (uQ v.Parent.1), (uQ v.Parent.2), (uQ v.Salt)]]) ?_<|fun v1 e_v1 env_v1 H_v1 hw_v1 => ?_
 ·refine LW.block ?_;refine LW.iterB (E := fun x1 : fB => [(0, (kB s)), (3, .ptr 0 0), (4, (iQ 0)), (7, .p (.int .i64 (s.length : Int))), (8, (iQ x1.t8))]) (O := fun x1 => [.box [(iQ v.Slot), (iQ v.From), (uQ v.Parent.1), (uQ v.Parent.2), (uQ v.Salt)]]) hb_v1 (zW 1 ⟨rfl, rfl, rfl, rfl, rfl, trivial⟩ Z Z Z Z)<|fun x1 z_x1 hr hb_x1 => ?_;unfold ld at hr;refine zQ<|zR<|yS Z (aw Z Z Z Z)<|zN<|zT<|zQ ?_;refine zX Z (fun g1 => ?_)<|fun g1 => ?_
  ·
   refine zi g1 hr fun hr => zk<|zT<|zQ<|zl<|zQ<|zR<|zM Z<|zM Z<|zN<|zT<|zQ<|LW.draw2 (by kernel_rfl) (by kernel_rfl)<|yE Z (zD Z Z Z cH Z Z)<|zH Z<|zH Z<|zb hr fun y1 h_y1 hr => yE Z (zx Z Z Z eB h_y1 Z)<|yE Z (dS Z Z Z cH Z Z)<|yE Z (ab.eqlAgg Z Z Z Z Z I6)<|LO.nil<|zT ?_;refine zX Z (fun g2 => ?_)<|fun g2 => ?_
   ·
    refine zi g2 hr fun hr => zQ<|zR<|zM Z<|zM Z<|zN<|zT<|zr<|ay<|aj<|aj<|ay<|aj<|aj ?_;obtain rfl := zJ hr;have hr := congrArg some (hb_x1 _ rfl);obtain rfl := zJ hr;have hr := d8 ho_v1;obtain rfl := zJ hr;exact zf (.one (.tmp Z)) zv
   ·
    refine zo g2 hr fun hr => zk<|ai<|zT<|zR<|yS Z (aw Z Z Z Z)<|zM Z<|zN<|zT ?_;obtain rfl := zJ hr;exact ⟨_, rfl, zW 1 ⟨rfl, rfl, rfl, rfl, rfl, trivial⟩ Z Z Z rfl⟩
  ·
   refine zo g1 hr fun hr => zq<|ao<|ao<|zy<|zT ?_;obtain rfl := zJ hr;have hr := congrArg some (hb_x1 _ rfl);obtain rfl := zJ hr;exact ⟨_, rfl, zW 1 ⟨rfl, trivial⟩ Z Z Z rfl⟩
 ·obtain rfl := e_v1;have hr := gb ho_v1;clear hb_v1;refine zT<|LW.weak hw_v1<|zQ<|zR<|zM Z<|zN<|zT<|zr ?_;obtain rfl := zJ hr;exact zf (.one (.tmp Z)) zv
structure fC where
 t8 : Int
def lf (s : List Vt) (v : Vt) (x1 : fC) : Option (fC ⊕ (fC ⊕ Int)) :=
 bif decide (x1.t8 < (s.length : Int)) then
  (ix s x1.t8).bind fun y1 =>
  bif ((v.From == y1.From) && ((v.Slot == y1.Slot) && ((v.Head.1 == y1.Head.1) && ((v.Head.2 == y1.Head.2) && true)))) then
   some (.inr (.inr x1.t8))
  else
   some (.inl (fC.mk (IntKind.i64.wrap (x1.t8 + 1))))
 else
  some (.inr (.inl (fC.mk x1.t8)))
def Eb (s : List Vt) (v : Vt) : Option Int :=
 (iter (lf s v) bG (fC.mk 0)).bind fun b_v1 => Sum.elim (fun _ =>
  some (-1)) some b_v1
theorem KL {s : List Vt} {v : Vt} {r_ : Int} (hr : Eb s v = some r_) : av Tryz.prog 131 [.slice 4 (s.map aI), aI v] [.int .i64 r_] := by
 refine zh Tryz.func131 Z Z Z Z ?_;unfold Eb at hr;refine zQ<|zR<|yS Z (bV Z Z Z Z Z)<|zM Z<|zN<|zT<|zQ<|zQ<|zR<|zM Z<|yS Z (dT Z Z (by kernel_rfl))<|zM Z<|zN<|zT ?_;obtain ⟨b_v1, hb_v1, ho_v1⟩ := zB hr;clear hr;refine LW.tailB (b := b_v1) (E := fun v1 => [(4, (iQ 0))]) (O := fun v1 => [.box [(iQ v.From), (iQ v.Slot), (uQ v.Head.1), (uQ v.Head.2)]]) ?_<|fun v1 e_v1 env_v1 H_v1 hw_v1 => ?_
 ·refine LW.block ?_;refine LW.iterB (E := fun x1 : fC => [(0, (kV s)), (3, .ptr 0 0), (4, (iQ 0)), (7, .p (.int .i64 (s.length : Int))), (8, (iQ x1.t8))]) (O := fun x1 => [.box [(iQ v.From), (iQ v.Slot), (uQ v.Head.1), (uQ v.Head.2)]]) hb_v1 (zW 1 ⟨rfl, rfl, rfl, rfl, rfl, trivial⟩ Z Z Z Z)<|fun x1 z_x1 hr hb_x1 => ?_;unfold lf at hr;refine zQ<|zR<|yS Z (aw Z Z Z Z)<|zN<|zT<|zQ ?_;refine zX Z (fun g1 => ?_)<|fun g1 => ?_
  ·
   refine zi g1 hr fun hr => zk<|zT<|zQ<|zl<|zQ<|zR<|zM Z<|zM Z<|zN<|zT<|zQ<|LW.draw2 (by kernel_rfl) (by kernel_rfl)<|yE Z (zD Z Z Z cB Z Z)<|zH Z<|zH Z<|zb hr fun y1 h_y1 hr => yE Z (zx Z Z Z dF h_y1 Z)<|yE Z (dS Z Z Z cB Z Z)<|yE Z (ab.eqlAgg Z Z Z Z Z FB)<|LO.nil<|zT ?_;refine zX Z (fun g2 => ?_)<|fun g2 => ?_
   ·
    refine zi g2 hr fun hr => zQ<|zR<|zM Z<|zM Z<|zN<|zT<|zr<|ay<|aj<|aj<|ay<|aj<|aj ?_;obtain rfl := zJ hr;have hr := congrArg some (hb_x1 _ rfl);obtain rfl := zJ hr;have hr := d8 ho_v1;obtain rfl := zJ hr;exact zf (.one (.tmp Z)) zv
   ·
    refine zo g2 hr fun hr => zk<|ai<|zT<|zR<|yS Z (aw Z Z Z Z)<|zM Z<|zN<|zT ?_;obtain rfl := zJ hr;exact ⟨_, rfl, zW 1 ⟨rfl, rfl, rfl, rfl, rfl, trivial⟩ Z Z Z rfl⟩
  ·
   refine zo g1 hr fun hr => zq<|ao<|ao<|zy<|zT ?_;obtain rfl := zJ hr;have hr := congrArg some (hb_x1 _ rfl);obtain rfl := zJ hr;exact ⟨_, rfl, zW 1 ⟨rfl, trivial⟩ Z Z Z rfl⟩
 ·obtain rfl := e_v1;have hr := gb ho_v1;clear hb_v1;refine zT<|LW.weak hw_v1<|zQ<|zR<|zM Z<|zN<|zT<|zr ?_;obtain rfl := zJ hr;exact zf (.one (.tmp Z)) zv
def yL (s : List Bk) (v : Bk) : Option Bool :=
 (Ea s v).bind fun v1 =>
 some (decide (v1 ≥ 0))
theorem Id {s : List Bk} {v : Bk} {r_ : Bool} (hr : yL s v = some r_) : av Tryz.prog 90 [.slice 5 (s.map ax), ax v] [.bool r_] := by
 refine zh Tryz.func90 Z Z Z Z ?_;unfold yL at hr;refine zQ<|zR<|yS Z (bV Z Z Z Z Z)<|zM Z<|zN<|zT<|zQ<|zR<|zM Z<|yS Z (zD Z Z Z cH Z Z)<|zb hr fun v1 h_v1 hr => yS Z (zC Z Z Z (by kernel_rfl) (zp (KK h_v1) (.cons zv (.cons zv .nil))))<|yS Z (aw Z Z Z Z)<|zM Z<|zN<|zT<|zr ?_;obtain rfl := zJ hr;exact zf (.one (.tmp Z)) zv
def yM (s : List Vt) (v : Vt) : Option Bool :=
 (Eb s v).bind fun v1 =>
 some (decide (v1 ≥ 0))
theorem Ie {s : List Vt} {v : Vt} {r_ : Bool} (hr : yM s v = some r_) : av Tryz.prog 93 [.slice 4 (s.map aI), aI v] [.bool r_] := by
 refine zh Tryz.func93 Z Z Z Z ?_;unfold yM at hr;refine zQ<|zR<|yS Z (bV Z Z Z Z Z)<|zM Z<|zN<|zT<|zQ<|zR<|zM Z<|yS Z (zD Z Z Z cB Z Z)<|zb hr fun v1 h_v1 hr => yS Z (zC Z Z Z (by kernel_rfl) (zp (KL h_v1) (.cons zv (.cons zv .nil))))<|yS Z (aw Z Z Z Z)<|zM Z<|zN<|zT<|zr ?_;obtain rfl := zJ hr;exact zf (.one (.tmp Z)) zv
structure eF where
 t12 : Int
 out : List Bk
def k8 (b : List Bk) (x1 : eF) : Option (eF ⊕ eF) :=
 bif decide (x1.t12 < (b.length : Int)) then
  (ix b x1.t12).bind fun y1 =>
  (yL x1.out y1).bind fun v2 =>
  bif !v2 then
   bif room x1.out.length [y1].length 40 then
    some (.inl (eF.mk (IntKind.i64.wrap (x1.t12 + 1)) (x1.out ++ [y1])))
   else none
  else
   some (.inl (eF.mk (IntKind.i64.wrap (x1.t12 + 1)) x1.out))
 else
  some (.inr (eF.mk x1.t12 x1.out))
def Bh (a : List Bk) (b : List Bk) : Option (List Bk) :=
 bif room 0 a.length 40 then
  (iter (k8 b) bG (eF.mk 0 a)).bind fun v1 =>
  some v1.out
 else none
theorem KB {a : List Bk} {b : List Bk} {r_ : (List Bk)} (hr : Bh a b = some r_) : av Tryz.prog 123 [.slice 5 (a.map ax), .slice 5 (b.map ax)] [.slice 5 (r_.map ax)] := by
 refine zh Tryz.func123 Z Z Z Z ?_;unfold Bh at hr;refine zQ<|zR<|zM Z<|zN<|zT<|zQ<|zR<|zM Z<|zg hr fun q1 hr => yS Z (ab.callV (qs := [(kB a)]) Z Z Z (by kernel_rfl) (uD q1) (.consC zv .nil) Z Z)<|zM Z<|zN<|zT<|zQ<|zQ<|zR<|zM Z<|yS Z (dT Z Z (by kernel_rfl))<|zM Z<|zN<|zT ?_;obtain ⟨v1, hb_v1, ho_v1⟩ := zB hr;clear hr;refine LW.tail (E := [(4, .zs), (5, (jB 0 v1.out))]) (O := [.vec 5 (v1.out.map ax)]) ?_<|fun env_v1 H_v1 hw_v1 => ?_
 ·refine LW.block ?_;refine LW.iterB (E := fun x1 : eF => [(4, .zs), (5, (jB 0 x1.out)), (10, (kB b)), (11, .p (.int .i64 (b.length : Int))), (12, (iQ x1.t12))]) (O := fun x1 => [.vec 5 (x1.out.map ax)]) hb_v1 (zW 1 ⟨rfl, rfl, rfl, rfl, rfl, trivial⟩ Z Z Z Z)<|fun x1 z_x1 hr hb_x1 => ?_;unfold k8 at hr;refine zQ<|zR<|yS Z (aw Z Z Z Z)<|zN<|zT<|zQ ?_;refine zX Z (fun g1 => ?_)<|fun g1 => ?_
  ·
   refine zi g1 hr fun hr => zk<|zT<|zQ<|zl<|zQ<|zR<|zb hr fun y1 h_y1 hr => yS Z (zx Z Z Z eB h_y1 Z)<|yS Z (dS Z Z Z cH Z Z)<|yS Z (ze Z tK Z Z)<|yS Z (zs Z Z Z Z cH Z Z Z Z)<|zN<|zT<|zQ<|zR<|zM Z<|yS Z (zD Z Z Z cH Z Z)<|zb hr fun v2 h_v2 hr => yS Z (zC Z Z Z (by kernel_rfl) (LC.lend (Id h_v2) (.cons (Conv.vecAll Z Z Z) (.cons zv .nil)) Z))<|yS Z (ab.not Z Z)<|zN<|zT ?_;refine zX Z (fun g2 => ?_)<|fun g2 => ?_
   ·
    refine zi g2 hr fun hr => zR<|zM Z<|yS Z (zD Z Z Z cH Z Z)<|yS Z (mD Z eB Z Z Z Z Z)<|zg hr fun q2 hr => yS Z (ab.appendX ax x1.out [y1] rfl Z Z Z kg.p Z eB q2 Z)<|zM Z<|zN<|ai<|zT<|zR<|yS Z (aw Z Z Z Z)<|zM Z<|zN<|zT ?_;obtain rfl := zJ hr;exact ⟨_, rfl, zW 1 ⟨rfl, rfl, rfl, rfl, rfl, trivial⟩ Z Z Z rfl⟩
   ·
    refine zo g2 hr fun hr => zk<|ai<|zT<|zR<|yS Z (aw Z Z Z Z)<|zM Z<|zN<|zT ?_;obtain rfl := zJ hr;exact ⟨_, rfl, zW 1 ⟨rfl, rfl, rfl, rfl, rfl, trivial⟩ Z Z Z rfl⟩
  ·
   refine zo g1 hr fun hr => zq<|ao<|ao<|zy<|zT ?_;obtain rfl := zJ hr;have hr := congrArg some (hb_x1 _ rfl);obtain rfl := zJ hr;exact zW 1 ⟨Z, Z, trivial⟩ Z Z Z Z
 ·have hr := ho_v1;clear hb_v1;refine zT<|LW.weak hw_v1<|zQ<|zR<|zM Z<|zM Z<|zN<|zT<|zr ?_;obtain rfl := zJ hr;exact zf (.one (.tmp Z))<|(Conv.vecAll Z Z Z)
structure eG where
 t12 : Int
 out : List Vt
def k9 (b : List Vt) (x1 : eG) : Option (eG ⊕ eG) :=
 bif decide (x1.t12 < (b.length : Int)) then
  (ix b x1.t12).bind fun y1 =>
  (yM x1.out y1).bind fun v2 =>
  bif !v2 then
   bif room x1.out.length [y1].length 32 then
    some (.inl (eG.mk (IntKind.i64.wrap (x1.t12 + 1)) (x1.out ++ [y1])))
   else none
  else
   some (.inl (eG.mk (IntKind.i64.wrap (x1.t12 + 1)) x1.out))
 else
  some (.inr (eG.mk x1.t12 x1.out))
def Bi (a : List Vt) (b : List Vt) : Option (List Vt) :=
 bif room 0 a.length 32 then
  (iter (k9 b) bG (eG.mk 0 a)).bind fun v1 =>
  some v1.out
 else none
theorem KC {a : List Vt} {b : List Vt} {r_ : (List Vt)} (hr : Bi a b = some r_) : av Tryz.prog 124 [.slice 4 (a.map aI), .slice 4 (b.map aI)] [.slice 4 (r_.map aI)] := by
 refine zh Tryz.func124 Z Z Z Z ?_;unfold Bi at hr;refine zQ<|zR<|zM Z<|zN<|zT<|zQ<|zR<|zM Z<|zg hr fun q1 hr => yS Z (ab.callV (qs := [(kV a)]) Z Z Z (by kernel_rfl) (uE q1) (.consC zv .nil) Z Z)<|zM Z<|zN<|zT<|zQ<|zQ<|zR<|zM Z<|yS Z (dT Z Z (by kernel_rfl))<|zM Z<|zN<|zT ?_;obtain ⟨v1, hb_v1, ho_v1⟩ := zB hr;clear hr;refine LW.tail (E := [(4, .zs), (5, (jV 0 v1.out))]) (O := [.vec 4 (v1.out.map aI)]) ?_<|fun env_v1 H_v1 hw_v1 => ?_
 ·refine LW.block ?_;refine LW.iterB (E := fun x1 : eG => [(4, .zs), (5, (jV 0 x1.out)), (10, (kV b)), (11, .p (.int .i64 (b.length : Int))), (12, (iQ x1.t12))]) (O := fun x1 => [.vec 4 (x1.out.map aI)]) hb_v1 (zW 1 ⟨rfl, rfl, rfl, rfl, rfl, trivial⟩ Z Z Z Z)<|fun x1 z_x1 hr hb_x1 => ?_;unfold k9 at hr;refine zQ<|zR<|yS Z (aw Z Z Z Z)<|zN<|zT<|zQ ?_;refine zX Z (fun g1 => ?_)<|fun g1 => ?_
  ·
   refine zi g1 hr fun hr => zk<|zT<|zQ<|zl<|zQ<|zR<|zb hr fun y1 h_y1 hr => yS Z (zx Z Z Z dF h_y1 Z)<|yS Z (dS Z Z Z cB Z Z)<|yS Z (ze Z rC Z Z)<|yS Z (zs Z Z Z Z cB Z Z Z Z)<|zN<|zT<|zQ<|zR<|zM Z<|yS Z (zD Z Z Z cB Z Z)<|zb hr fun v2 h_v2 hr => yS Z (zC Z Z Z (by kernel_rfl) (LC.lend (Ie h_v2) (.cons (Conv.vecAll Z Z Z) (.cons zv .nil)) Z))<|yS Z (ab.not Z Z)<|zN<|zT ?_;refine zX Z (fun g2 => ?_)<|fun g2 => ?_
   ·
    refine zi g2 hr fun hr => zR<|zM Z<|yS Z (zD Z Z Z cB Z Z)<|yS Z (mD Z dF Z Z Z Z Z)<|zg hr fun q2 hr => yS Z (ab.appendX aI x1.out [y1] rfl Z Z Z kg.p Z dF q2 Z)<|zM Z<|zN<|ai<|zT<|zR<|yS Z (aw Z Z Z Z)<|zM Z<|zN<|zT ?_;obtain rfl := zJ hr;exact ⟨_, rfl, zW 1 ⟨rfl, rfl, rfl, rfl, rfl, trivial⟩ Z Z Z rfl⟩
   ·
    refine zo g2 hr fun hr => zk<|ai<|zT<|zR<|yS Z (aw Z Z Z Z)<|zM Z<|zN<|zT ?_;obtain rfl := zJ hr;exact ⟨_, rfl, zW 1 ⟨rfl, rfl, rfl, rfl, rfl, trivial⟩ Z Z Z rfl⟩
  ·
   refine zo g1 hr fun hr => zq<|ao<|ao<|zy<|zT ?_;obtain rfl := zJ hr;have hr := congrArg some (hb_x1 _ rfl);obtain rfl := zJ hr;exact zW 1 ⟨Z, Z, trivial⟩ Z Z Z Z
 ·have hr := ho_v1;clear hb_v1;refine zT<|LW.weak hw_v1<|zQ<|zR<|zM Z<|zM Z<|zN<|zT<|zr ?_;obtain rfl := zJ hr;exact zf (.one (.tmp Z))<|(Conv.vecAll Z Z Z)
def xL (a : Vw) (b : Vw) : Option Vw :=
 (Bh a.B b.B).bind fun v1 =>
 (Bi a.V b.V).bind fun v2 =>
 some (Vw.mk v1 v2)
theorem DM {a : Vw} {b : Vw} {r_ : Vw} (hr : xL a b = some r_) : av Tryz.prog 68 [mA a, mA b] [mA r_] := by
 refine zh Tryz.func68 Z Z Z Z ?_;unfold xL at hr;refine zQ<|zR<|yS Z (bV Z Z Z Z Z)<|yS Z (bV Z Z Z Z Z)<|yS Z (ze Z ia Z Z)<|zN<|zT<|zQ<|LW.drawLast (m := 11) (by kernel_rfl) (by kernel_rfl) (by kernel_rfl)<|yE Z (zA Z Z bD)<|yE Z (zD Z Z Z dE Z Z)<|yE Z (zA Z Z bD)<|yE Z (zD Z Z Z dE Z Z)<|zb hr fun v1 h_v1 hr => yE Z (zC Z Z Z (by kernel_rfl) (zp (KB h_v1) (.cons zv (.cons zv .nil))))<|yE Z (zA Z Z bP)<|yE Z (zD Z Z Z eC Z Z)<|yE Z (zA Z Z bP)<|yE Z (zD Z Z Z eC Z Z)<|zb hr fun v2 h_v2 hr => yE Z (zC Z Z Z (by kernel_rfl) (zp (KC h_v2) (.cons zv (.cons zv .nil))))<|yE Z (ab.build Z nS Z Z Z)<|LO.nil<|yS Z (zs Z Z Z Z aT Z Z Z Z) ?_;refine zN<|zT<|zr ?_;obtain rfl := zJ hr;exact zf (.one (.cellAgg Z Z (by kernel_rfl) Z)) zv
structure J9 where
 n : Int
 i : Int
structure J5 where
 i : Int
structure J4 where
 i : Int
structure J6 where
 i : Int
 o3 : List Bk
structure J7 where
 there : Bool
 k : Int
structure J8 where
 i : Int
 o4 : List Vt
def F1 : Option Cf :=
 some (Cf.mk [1] 0 1 1 4)
theorem KA {r_ : Cf} (hr : F1 = some r_) : av Tryz.prog 45 [] [jx r_] := by
 refine zh Tryz.func45 Z Z Z Z ?_;unfold F1 at hr;refine zQ<|zR<|yS Z (ze Z La Z Z)<|zN<|zT<|zQ<|zR<|yS Z (mD Z fY Z Z Z Z Z)<|yS Z (ab.build Z Ks Z Z Z)<|yS Z (zs Z Z Z Z bE Z Z Z Z)<|zN<|zT<|zr ?_;obtain rfl := zJ hr;exact zf (.one (.cellAgg Z Z (by kernel_rfl) Z)) zv
open Go.Proofs
structure eD where
 t12 : Int
 out : List Bk
def kX (c : Cf) (l : List Bk) (x1 : eD) : Option (eD ⊕ eD) :=
 bif decide (x1.t12 < (l.length : Int)) then
  (ix l x1.t12).bind fun y1 =>
  (HD c y1).bind fun v2 =>
  bif v2 then
   bif room x1.out.length [y1].length 40 then
    some (.inl (eD.mk (IntKind.i64.wrap (x1.t12 + 1)) (x1.out ++ [y1])))
   else none
  else
   some (.inl (eD.mk (IntKind.i64.wrap (x1.t12 + 1)) x1.out))
 else
  some (.inr (eD.mk x1.t12 x1.out))
def yG (c : Cf) (l : List Bk) : Option (List Bk) :=
 (iter (kX c l) bG (eD.mk 0 ([] : List Bk))).bind fun v1 =>
 some v1.out
theorem Fs {c : Cf} {l : List Bk} {r_ : List Bk} (hr : yG c l = some r_) : LC Tryz.prog 132 [.p (jx c), (kB l), .fn 133 [] []] [] (Is (jB 0 r_) [.vec 5 (r_.map ax)]) := by
 refine dc Tryz.func132 Z Z Z ?_;unfold yG at hr;refine zQ<|zR<|yS Z (bV Z Z Z Z Z)<|zM Z<|zN<|zT<|zQ<|zR<|zM Z<|zN<|zT<|zQ<|zQ<|zR<|zM Z<|yS Z (dT Z Z (by kernel_rfl))<|zM Z<|zN<|zT<|LW.ent (bM.lazy (t := 7) (m := 5) Z Z Z) ?_;obtain ⟨v1, hb_v1, ho_v1⟩ := zB hr;clear hr;refine LW.tail (E := [(6, .zs), (7, (jB 1 v1.out))]) (O := [.box (bB c), .vec 5 (v1.out.map ax)]) ?_<|fun env_v1 H_v1 hw_v1 => ?_
 ·refine LW.block ?_;refine LW.iterB (E := fun x1 : eD => [(2, .fn 133 [] []), (3, .ptr 0 0), (6, .zs), (7, (jB 1 x1.out)), (10, (kB l)), (11, .p (.int .i64 (l.length : Int))), (12, (iQ x1.t12))]) (O := fun x1 => [.box (bB c), .vec 5 (x1.out.map ax)]) hb_v1 (zW 2 ⟨rfl, rfl, rfl, rfl, rfl, rfl, rfl, trivial⟩ Z Z Z Z)<|fun x1 z_x1 hr hb_x1 => ?_;unfold kX at hr;refine zQ<|zR<|yS Z (aw Z Z Z Z)<|zN<|zT<|zQ ?_;refine zX Z (fun g1 => ?_)<|fun g1 => ?_
  ·
   refine zi g1 hr fun hr => zk<|zT<|zQ<|zl<|zQ<|zR<|zb hr fun y1 h_y1 hr => yS Z (zx Z Z Z eB h_y1 Z)<|yS Z (dS Z Z Z cH Z Z)<|yS Z (ze Z tK Z Z)<|yS Z (zs Z Z Z Z cH Z Z Z Z)<|zN<|zT<|zQ<|zR<|zM Z<|yS Z (zD Z Z Z bE Z Z)<|yS Z (zD Z Z Z cH Z Z)<|zb hr fun v2 h_v2 hr => yS Z (zC Z Z Z (by kernel_rfl) (zp (Ls h_v2) (.cons zv (.cons zv .nil))))<|zN<|zT ?_;refine zX Z (fun g2 => ?_)<|fun g2 => ?_
   ·
    refine zi g2 hr fun hr => zR<|zM Z<|yS Z (zD Z Z Z cH Z Z)<|yS Z (mD Z eB Z Z Z Z Z)<|zg hr fun q1 hr => yS Z (ab.appendX ax x1.out [y1] rfl Z Z Z kg.p Z eB q1 Z)<|zM Z<|zN<|ai<|zT<|zR<|yS Z (aw Z Z Z Z)<|zM Z<|zN<|zT ?_;obtain rfl := zJ hr;exact ⟨_, rfl, zW 2 ⟨rfl, rfl, rfl, rfl, rfl, rfl, rfl, trivial⟩ Z Z Z rfl⟩
   ·
    refine zo g2 hr fun hr => zk<|ai<|zT<|zR<|yS Z (aw Z Z Z Z)<|zM Z<|zN<|zT ?_;obtain rfl := zJ hr;exact ⟨_, rfl, zW 2 ⟨rfl, rfl, rfl, rfl, rfl, rfl, rfl, trivial⟩ Z Z Z rfl⟩
  ·
   refine zo g1 hr fun hr => zq<|ao<|ao<|zy<|zT ?_;obtain rfl := zJ hr;have hr := congrArg some (hb_x1 _ rfl);obtain rfl := zJ hr;exact zW 2 ⟨Z, Z, trivial⟩ Z Z Z Z
 ·have hr := ho_v1;clear hb_v1;refine zT<|LW.weak hw_v1<|zQ<|LW.ent (bM.last (t := 7) (j := 0) (Hj := []) Z Z Z Z Z Z Z)<|zR<|zM Z<|zM Z<|zN<|zT<|zr ?_;obtain rfl := zJ hr;exact ap (.one (.tmp Z))<|⟨rfl, rfl⟩
structure eE where
 t12 : Int
 out : List Vt
def kY (c : Cf) (l : List Vt) (x1 : eE) : Option (eE ⊕ eE) :=
 bif decide (x1.t12 < (l.length : Int)) then
  (ix l x1.t12).bind fun y1 =>
  (HE c y1).bind fun v2 =>
  bif v2 then
   bif room x1.out.length [y1].length 32 then
    some (.inl (eE.mk (IntKind.i64.wrap (x1.t12 + 1)) (x1.out ++ [y1])))
   else none
  else
   some (.inl (eE.mk (IntKind.i64.wrap (x1.t12 + 1)) x1.out))
 else
  some (.inr (eE.mk x1.t12 x1.out))
def yH (c : Cf) (l : List Vt) : Option (List Vt) :=
 (iter (kY c l) bG (eE.mk 0 ([] : List Vt))).bind fun v1 =>
 some v1.out
theorem Ft {c : Cf} {l : List Vt} {r_ : List Vt} (hr : yH c l = some r_) : LC Tryz.prog 134 [.p (jx c), (kV l), .fn 135 [] []] [] (Is (jV 0 r_) [.vec 4 (r_.map aI)]) := by
 refine dc Tryz.func134 Z Z Z ?_;unfold yH at hr;refine zQ<|zR<|yS Z (bV Z Z Z Z Z)<|zM Z<|zN<|zT<|zQ<|zR<|zM Z<|zN<|zT<|zQ<|zQ<|zR<|zM Z<|yS Z (dT Z Z (by kernel_rfl))<|zM Z<|zN<|zT<|LW.ent (bM.lazy (t := 7) (m := 4) Z Z Z) ?_;obtain ⟨v1, hb_v1, ho_v1⟩ := zB hr;clear hr;refine LW.tail (E := [(6, .zs), (7, (jV 1 v1.out))]) (O := [.box (bB c), .vec 4 (v1.out.map aI)]) ?_<|fun env_v1 H_v1 hw_v1 => ?_
 ·refine LW.block ?_;refine LW.iterB (E := fun x1 : eE => [(2, .fn 135 [] []), (3, .ptr 0 0), (6, .zs), (7, (jV 1 x1.out)), (10, (kV l)), (11, .p (.int .i64 (l.length : Int))), (12, (iQ x1.t12))]) (O := fun x1 => [.box (bB c), .vec 4 (x1.out.map aI)]) hb_v1 (zW 2 ⟨rfl, rfl, rfl, rfl, rfl, rfl, rfl, trivial⟩ Z Z Z Z)<|fun x1 z_x1 hr hb_x1 => ?_;unfold kY at hr;refine zQ<|zR<|yS Z (aw Z Z Z Z)<|zN<|zT<|zQ ?_;refine zX Z (fun g1 => ?_)<|fun g1 => ?_
  ·
   refine zi g1 hr fun hr => zk<|zT<|zQ<|zl<|zQ<|zR<|zb hr fun y1 h_y1 hr => yS Z (zx Z Z Z dF h_y1 Z)<|yS Z (dS Z Z Z cB Z Z)<|yS Z (ze Z rC Z Z)<|yS Z (zs Z Z Z Z cB Z Z Z Z)<|zN<|zT<|zQ<|zR<|zM Z<|yS Z (zD Z Z Z bE Z Z)<|yS Z (zD Z Z Z cB Z Z)<|zb hr fun v2 h_v2 hr => yS Z (zC Z Z Z (by kernel_rfl) (zp (Lt h_v2) (.cons zv (.cons zv .nil))))<|zN<|zT ?_;refine zX Z (fun g2 => ?_)<|fun g2 => ?_
   ·
    refine zi g2 hr fun hr => zR<|zM Z<|yS Z (zD Z Z Z cB Z Z)<|yS Z (mD Z dF Z Z Z Z Z)<|zg hr fun q1 hr => yS Z (ab.appendX aI x1.out [y1] rfl Z Z Z kg.p Z dF q1 Z)<|zM Z<|zN<|ai<|zT<|zR<|yS Z (aw Z Z Z Z)<|zM Z<|zN<|zT ?_;obtain rfl := zJ hr;exact ⟨_, rfl, zW 2 ⟨rfl, rfl, rfl, rfl, rfl, rfl, rfl, trivial⟩ Z Z Z rfl⟩
   ·
    refine zo g2 hr fun hr => zk<|ai<|zT<|zR<|yS Z (aw Z Z Z Z)<|zM Z<|zN<|zT ?_;obtain rfl := zJ hr;exact ⟨_, rfl, zW 2 ⟨rfl, rfl, rfl, rfl, rfl, rfl, rfl, trivial⟩ Z Z Z rfl⟩
  ·
   refine zo g1 hr fun hr => zq<|ao<|ao<|zy<|zT ?_;obtain rfl := zJ hr;have hr := congrArg some (hb_x1 _ rfl);obtain rfl := zJ hr;exact zW 2 ⟨Z, Z, trivial⟩ Z Z Z Z
 ·have hr := ho_v1;clear hb_v1;refine zT<|LW.weak hw_v1<|zQ<|LW.ent (bM.last (t := 7) (j := 0) (Hj := []) Z Z Z Z Z Z Z)<|zR<|zM Z<|zM Z<|zN<|zT<|zr ?_;obtain rfl := zJ hr;exact ap (.one (.tmp Z))<|⟨rfl, rfl⟩
def Hg (c : Cf) (v_in : Vw) : Option Vw :=
 (yG c v_in.B).bind fun v1 =>
 (yH c v_in.V).bind fun v2 =>
 some (Vw.mk v1 v2)
theorem Le {c : Cf} {v_in : Vw} {r_ : Vw} (hr : Hg c v_in = some r_) : av Tryz.prog 97 [jx c, mA v_in] [mA r_] := by
 refine zh Tryz.func97 Z Z Z Z ?_;unfold Hg at hr;refine zQ<|zR<|yS Z (bV Z Z Z Z Z)<|yS Z (bV Z Z Z Z Z)<|yS Z (ze Z ia Z Z)<|zN<|zT<|zQ<|LW.ent (bM.slot Z)<|LW.ent (bM.slot Z)<|LW.drawW (by kernel_rfl) (by kernel_rfl)<|yF Z (zd Z Z Z bE Z Z) Z ?_;refine yF (F := []) (s := none) Z (fun H _ => zA Z Z bD) Z ?_;refine yF Z (zd Z Z Z dE Z Z) Z<|zb hr fun v1 h_v1 hr => ?_;refine yF Z (bJ.callV (id := 3) (qs := [.p (jx c), (kB v_in.B), .fn 133 [] []]) Z Z Z (by kernel_rfl) (Fs h_v1) (fun H => (.consC zv (.consC zv (.consF .nil)))) Z) Z ?_;refine yF Z (zd Z Z Z bE Z Z) Z ?_;refine yF (F := []) (s := none) Z (fun H _ => zA Z Z bP) Z ?_;refine yF Z (zd Z Z Z eC Z Z) Z<|zb hr fun v2 h_v2 hr => ?_;refine yF Z (bJ.callV (id := 4) (qs := [.p (jx c), (kV v_in.V), .fn 135 [] []]) Z Z Z (by kernel_rfl) (Ft h_v2) (fun H => (.consC zv (.consC zv (.consF .nil)))) Z) Z ?_;refine yF (F := []) (s := none) Z (fun H _ => ab.build Z nS Z Z Z) Z ?_;refine yF Z (zt Z Z Z Z aT Z Z Z) Z ?_;refine LF.nil ⟨by kernel_rfl, ?_⟩;refine zT<|zr ?_;obtain rfl := zJ hr;exact zf (.one (.cellAgg Z Z (by kernel_rfl) Z))<|(Conv.agg (.cons (Conv.vecAll Z Z Z) (.cons (Conv.vecAll Z Z Z) .nil)))
def BM (c : Cf) (inp : Vw) : Option (List Bk × List Vt) :=
 (yG c inp.B).bind fun v1 =>
 (yH c inp.V).bind fun v2 =>
 some (v1, v2)
theorem IR {c : Cf} {inp : Vw} {r_ : List Bk × List Vt} (hr : BM c inp = some r_) : LC Tryz.prog 97 [.p (jx c), .p (mA inp)] [] (Is (.agg [(jB 3 r_.1), (jV 4 r_.2)]) [.box (bB c), .box (de inp), .box [(jB 3 r_.1), (jV 4 r_.2)], .vec 5 (r_.1.map ax), .vec 4 (r_.2.map aI)]) := by
 refine dc Tryz.func97 Z Z Z ?_;unfold BM at hr;refine zQ<|zR<|yS Z (bV Z Z Z Z Z)<|yS Z (bV Z Z Z Z Z)<|yS Z (ze Z ia Z Z)<|zN<|zT<|zQ<|LW.ent (bM.slot Z)<|LW.ent (bM.slot Z)<|LW.drawW (by kernel_rfl) (by kernel_rfl)<|yF Z (zd Z Z Z bE Z Z) Z ?_;refine yF (F := []) (s := none) Z (fun H _ => zA Z Z bD) Z ?_;refine yF Z (zd Z Z Z dE Z Z) Z<|zb hr fun v1 h_v1 hr => ?_;refine yF Z (bJ.callV (id := 3) (qs := [.p (jx c), (kB inp.B), .fn 133 [] []]) Z Z Z (by kernel_rfl) (Fs h_v1) (fun H => (.consC zv (.consC zv (.consF .nil)))) Z) Z ?_;refine yF Z (zd Z Z Z bE Z Z) Z ?_;refine yF (F := []) (s := none) Z (fun H _ => zA Z Z bP) Z ?_;refine yF Z (zd Z Z Z eC Z Z) Z<|zb hr fun v2 h_v2 hr => ?_;refine yF Z (bJ.callV (id := 4) (qs := [.p (jx c), (kV inp.V), .fn 135 [] []]) Z Z Z (by kernel_rfl) (Ft h_v2) (fun H => (.consC zv (.consC zv (.consF .nil)))) Z) Z ?_;refine yF (F := []) (s := none) Z (fun H _ => ab.build Z nS Z Z Z) Z ?_;refine yF Z (zt Z Z Z Z aT Z Z Z) Z ?_;refine LF.nil ⟨by kernel_rfl, ?_⟩;refine zT<|zr ?_;obtain rfl := zJ hr;exact ap (.one (.cellAgg Z Z (by kernel_rfl) Z))<|⟨rfl, rfl⟩
structure eY where
 t27 : Int
 o3 : List (ID × Int)
structure eZ where
 t43 : Int
 o4 : List (Vt × Bool)
def kZ (w : Vw) (x1 : eY) : Option (eY ⊕ eY) :=
 bif decide (x1.t27 < (w.B.length : Int)) then
  (ix w.B x1.t27).bind fun y1 =>
  some (.inl (eY.mk (IntKind.i64.wrap (x1.t27 + 1)) (aN x1.o3 (nm y1) y1.Slot)))
 else
  some (.inr (eY.mk x1.t27 x1.o3))
def k5 (w : Vw) (x2 : eZ) : Option (eZ ⊕ eZ) :=
 bif decide (x2.t43 < (w.V.length : Int)) then
  (ix w.V x2.t43).bind fun y2 =>
  some (.inl (eZ.mk (IntKind.i64.wrap (x2.t43 + 1)) (aN x2.o4 y2 true)))
 else
  some (.inr (eZ.mk x2.t43 x2.o4))
def yI (w : Vw) (_ : Int) : Option (List (ID × Int) × List (Vt × Bool)) :=
 bif room 0 w.B.length 40 then
  bif room 0 w.V.length 32 then
   (iter (kZ w) bG (eY.mk 0 (aN [] (0, 0) 0))).bind fun v1 =>
   (iter (k5 w) bG (eZ.mk 0 ([] : List (Vt × Bool)))).bind fun v2 =>
   some (v1.o3, v2.o4)
  else none
 else none
theorem Fu {w : Vw} {upto : Int} {r_ : List (ID × Int) × List (Vt × Bool)} (hr : yI w upto = some r_) : LC Tryz.prog 177 [.p (mA w), (iQ upto)] [] (Is (.ptr 5 0) [.box (de w), .vec 5 (w.B.map ax), .vec 4 (w.V.map aI), (mQ r_.1), (mR r_.2), .box [(jB 1 w.B), (jV 2 w.V), .map 3, .map 4, (iQ upto), (bQ false)]]) := by
 refine dc Tryz.func177 Z Z Z ?_;unfold yI at hr;refine zQ<|zR<|yS Z (bV Z Z Z Z Z)<|zM Z<|zN<|zT<|zQ<|LW.ent (bM.slot Z)<|LW.ent (bM.slot Z)<|LW.ent (bM.slot Z)<|LW.ent (bM.slot Z)<|LW.ent (bM.slot Z)<|LW.drawW (by kernel_rfl) (by kernel_rfl) ?_;refine yF (F := []) (s := none) Z (fun H _ => zA Z Z bD) Z ?_;refine yF Z (zd Z Z Z dE Z Z) Z<|zg hr fun q1 hr => ?_;refine yF Z (bJ.callV (id := 1) (qs := [(kB w.B)]) Z Z Z (by kernel_rfl) (uD q1) (fun H => (.consC zv .nil)) Z) Z ?_;refine yF (F := []) (s := none) Z (fun H _ => zA Z Z bP) Z ?_;refine yF Z (zd Z Z Z eC Z Z) Z<|zg hr fun q2 hr => ?_;refine yF Z (bJ.callV (id := 2) (qs := [(kV w.V)]) Z Z Z (by kernel_rfl) (uE q2) (fun H => (.consC zv .nil)) Z) Z ?_;refine yF (F := []) (s := none) Z (fun H _ => ab.build Z nS Z Z Z) Z ?_;refine yF Z (bJ.makeMap Z (id := 3) Z) Z ?_;refine yF (F := []) (s := none) Z (fun H _ => ab.build Z wz Z Z Z) Z ?_;refine yF Z (bJ.setX (f := bH) (g := (fun v => (iQ v))) (m := ([] : List (ID × Int))) (0, 0) 0 dO (.inr Z) Z Z Z Z Z kf) Z ?_;refine zK Z<|yF Z (bJ.makeMap Z (id := 4) Z) Z<|zK Z ?_;refine yF (F := []) (s := none) Z (fun H _ => ab.build Z HN Z Z Z) Z ?_;refine yF Z (bJ.box Z Z Z (id := 5) Z) Z<|zK Z ?_;refine LF.nil ⟨by kernel_rfl, ?_⟩;refine zT<|zQ<|zQ<|zR<|yS Z (zA Z Z bD)<|yS Z (zD Z Z Z dE Z Z)<|yS Z (dT Z Z (by kernel_rfl))<|zM Z<|zN<|zT ?_;obtain ⟨v1, hb_v1, ho_v1⟩ := zB hr;clear hr;refine LW.tail (E := [(2, .ptr 0 0), (5, .ptr 5 0)]) (O := [.box (de w), .vec 5 (w.B.map ax), .vec 4 (w.V.map aI), (mQ v1.o3), .map (af aI (fun v => (bQ v)) []), .box [(jB 1 w.B), (jV 2 w.V), .map 3, .map 4, (iQ upto), (bQ false)]]) ?_<|fun env_v1 H_v1 hw_v1 => ?_
 ·refine LW.block ?_;refine LW.iterB (E := fun x1 : eY => [(2, .ptr 0 0), (5, .ptr 5 0), (25, (kB w.B)), (26, .p (.int .i64 (w.B.length : Int))), (27, (iQ x1.t27))]) (O := fun x1 => [.box (de w), .vec 5 (w.B.map ax), .vec 4 (w.V.map aI), (mQ x1.o3), .map (af aI (fun v => (bQ v)) []), .box [(jB 1 w.B), (jV 2 w.V), .map 3, .map 4, (iQ upto), (bQ false)]]) hb_v1 (zW 6 ⟨rfl, rfl, rfl, rfl, rfl, trivial⟩ Z Z Z (zL Z (zL Z (zL Z (zL (ae (fun _ => rfl) _) (zL (ae (fun _ => rfl) _) (zL Z Z)))))))<|fun x1 z_x1 hr hb_x1 => ?_;unfold kZ at hr;refine zQ<|zR<|yS Z (aw Z Z Z Z)<|zN<|zT<|zQ ?_;refine zX Z (fun g1 => ?_)<|fun g1 => ?_
  ·
   refine zi g1 hr fun hr => zk<|zT<|zQ<|zl<|zQ<|zR<|zb hr fun y1 h_y1 hr => yS Z (zx Z Z Z eB h_y1 Z)<|yS Z (dS Z Z Z cH Z Z)<|yS Z (ze Z tK Z Z)<|yS Z (zs Z Z Z Z cH Z Z Z Z)<|zN<|zT<|LW.drawLast (m := 8) (by kernel_rfl) (by kernel_rfl) (by kernel_rfl)<|zH Z<|yE Z (zn Z Z)<|yE Z (zA Z Z lp)<|yE Z (zD Z Z Z AN Z Z)<|yE Z (zD Z Z Z cH Z Z)<|yE Z (zC Z Z Z (by kernel_rfl) (zp (Fr (b := y1)) (.cons zv .nil)))<|yE Z (zA Z Z kA)<|yE Z (zD Z Z Z bC Z Z)<|LO.nil ?_;refine yS Z (ab.setX (f := bH) (g := (fun v => (iQ v))) (nm y1) y1.Slot dO (.inl Z) Z Z Z Z Z kf Z) ?_;refine zN<|ai<|zT<|zR<|yS Z (aw Z Z Z Z)<|zM Z<|zN<|zT ?_;obtain rfl := zJ hr;exact ⟨_, rfl, zW 6 ⟨rfl, rfl, rfl, rfl, rfl, trivial⟩ Z Z Z (zL Z (zL Z (zL Z (zL (ae (fun _ => rfl) _) (zL (ae (fun _ => rfl) _) (zL Z Z))))))⟩
  ·
   refine zo g1 hr fun hr => zq<|ao<|ao<|zy<|zT ?_;obtain rfl := zJ hr;have hr := congrArg some (hb_x1 _ rfl);obtain rfl := zJ hr;exact zW 6 ⟨Z, Z, trivial⟩ Z Z Z<|zL Z<|zL Z<|zL Z<|zL (ae (fun _ => rfl) _)<|zL (ae (fun _ => rfl) _)<|zL Z Z
 ·have hr := ho_v1;clear hb_v1;refine zT<|LW.weak hw_v1<|zQ<|zQ<|zR<|yS Z (zA Z Z bP)<|yS Z (zD Z Z Z eC Z Z)<|yS Z (dT Z Z (by kernel_rfl))<|zM Z<|zN<|zT ?_;obtain ⟨v2, hb_v2, ho_v2⟩ := zB hr;clear hr;refine LW.tail (E := [(5, .ptr 5 0)]) (O := [.box (de w), .vec 5 (w.B.map ax), .vec 4 (w.V.map aI), (mQ v1.o3), (mR v2.o4), .box [(jB 1 w.B), (jV 2 w.V), .map 3, .map 4, (iQ upto), (bQ false)]]) ?_<|fun env_v2 H_v2 hw_v2 => ?_
  ·refine LW.block ?_;refine LW.iterB (E := fun x2 : eZ => [(5, .ptr 5 0), (41, (kV w.V)), (42, .p (.int .i64 (w.V.length : Int))), (43, (iQ x2.t43))]) (O := fun x2 => [.box (de w), .vec 5 (w.B.map ax), .vec 4 (w.V.map aI), (mQ v1.o3), (mR x2.o4), .box [(jB 1 w.B), (jV 2 w.V), .map 3, .map 4, (iQ upto), (bQ false)]]) hb_v2 (zW 6 ⟨rfl, rfl, rfl, rfl, trivial⟩ Z Z Z (zL Z (zL Z (zL Z (zL (ae (fun _ => rfl) _) (zL (ae (fun _ => rfl) _) (zL Z Z)))))))<|fun x2 z_x2 hr hb_x2 => ?_;unfold k5 at hr;refine zQ<|zR<|yS Z (aw Z Z Z Z)<|zN<|zT<|zQ ?_;refine zX Z (fun g2 => ?_)<|fun g2 => ?_
   ·
    refine zi g2 hr fun hr => zk<|zT<|zQ<|zl<|zQ<|zR<|zb hr fun y2 h_y2 hr => yS Z (zx Z Z Z dF h_y2 Z)<|yS Z (dS Z Z Z cB Z Z)<|yS Z (ze Z rC Z Z)<|yS Z (zs Z Z Z Z cB Z Z Z Z)<|zN<|zT<|LW.drawLast (m := 5) (by kernel_rfl) (by kernel_rfl) (by kernel_rfl)<|zH Z<|yE Z (zn Z Z)<|yE Z (zA Z Z pu)<|yE Z (zD Z Z Z yx Z Z)<|yE Z (zD Z Z Z cB Z Z)<|LO.nil ?_;refine yS Z (ab.setX (f := aI) (g := (fun v => (bQ v))) y2 true yy (.inl Z) Z Z Z Z Z C5 Z) ?_;refine zN<|ai<|zT<|zR<|yS Z (aw Z Z Z Z)<|zM Z<|zN<|zT ?_;obtain rfl := zJ hr;exact ⟨_, rfl, zW 6 ⟨rfl, rfl, rfl, rfl, trivial⟩ Z Z Z (zL Z (zL Z (zL Z (zL (ae (fun _ => rfl) _) (zL (ae (fun _ => rfl) _) (zL Z Z))))))⟩
   ·
    refine zo g2 hr fun hr => zq<|ao<|ao<|zy<|zT ?_;obtain rfl := zJ hr;have hr := congrArg some (hb_x2 _ rfl);obtain rfl := zJ hr;exact zW 6 ⟨Z, trivial⟩ Z Z Z<|zL Z<|zL Z<|zL Z<|zL (ae (fun _ => rfl) _)<|zL (ae (fun _ => rfl) _)<|zL Z Z
  ·have hr := ho_v2;clear hb_v2;refine zT<|LW.weak hw_v2<|zQ<|zR<|zM Z<|zM Z<|zN<|zT<|zr ?_;obtain rfl := zJ hr;exact ap (.one (.tmp Z))<|⟨rfl, rfl⟩
theorem xZ {α : Type} {f : α → PV} {d : Nat} (m : List (α × Int)) : ((af f (fun v => (iQ v)) m).map fun e => (e.1, LV.shift d e.2)) = af f (fun v => (iQ v)) m := Cx (fun _ => rfl) m
theorem xY {α : Type} {f : α → PV} {d : Nat} (m : List (α × Bool)) : ((af f (fun v => (bQ v)) m).map fun e => (e.1, LV.shift d e.2)) = af f (fun v => (bQ v)) m := Cx (fun _ => rfl) m
end Go.Mg
