/- shuffle.At, Back, Perm. References of trees and cursors. Duties: what stands alone. duty.those: a closure. Sums of weights, and lists, over closures. Committees over closures. marigoldref04. Duties: the reference, the proposer. duty.Total, Weight, Committee, In. Weights of blocks, heads: what stands alone, and the reference. Weights of blocks; the head. Views: clones, and what stands alone. Views: what may be at all; a view that grows, begun. Conditions: none. -/
import Derived.Test.YtbjmcafamkdokaaGreatX3
import Derived.Test.YtbjmcafamkdokaaGreatX4
import Derived.Test.YtbjmcafamkdokaaGreatX2
set_option maxRecDepth 100000
set_option linter.unusedSimpArgs false
set_option linter.unusedVariables false
namespace Go.Mg
open Go.Proofs
def Jr : Dk := ⟨fun _ => false, 0⟩
structure i4 where
 i : Int
 t6 : Int
 d : Dk
def ov (seed : Int) (n : Int) (x1 : i4) : Option (i4 ⊕ i4) :=
 bif decide (x1.t6 < 10) then
  bif qq n x1.t6 then
   some (.inl (i4.mk (qp seed n x1.t6 x1.i) (IntKind.i64.wrap (x1.t6 + 1)) (x1.d.turned x1.t6)))
  else none
 else
  some (.inr (i4.mk x1.i x1.t6 x1.d))
def yW (seed : Int) (n : Int) (i : Int) (d : Dk) : Option (Int × Dk) :=
 (iter (ov seed n) bG (i4.mk i 0 d)).bind fun v1 =>
 some (v1.i, v1.d)
theorem GY {seed : Int} {n : Int} {i : Int} {d : Dk} {r_ : Int × Dk} (hr : yW seed n i d = some r_) : LC Tryz.prog 142 [.ptr 0 0, (iQ i)] [.box (gV seed n d)] (Is (iQ r_.1) [.box (gV seed n r_.2)]) := by
 refine dA Tryz.func142 Z Z Z ?_;unfold yW at hr;refine zQ<|zR<|zM Z<|zN<|zT<|zQ<|zQ<|zR<|zM Z<|zN<|zT ?_;obtain ⟨v1, hb_v1, ho_v1⟩ := zB hr;clear hr;refine LW.tail (E := [(1, (iQ v1.i)), (4, (iQ 0))]) (O := [.box (gV seed n v1.d)]) ?_<|fun env_v1 H_v1 hw_v1 => ?_
 ·refine LW.block ?_;refine LW.iterB (E := fun x1 : i4 => [(0, .ptr 0 0), (1, (iQ x1.i)), (4, (iQ 0)), (6, (iQ x1.t6))]) (O := fun x1 => [.box (gV seed n x1.d)]) hb_v1 (zW 1 ⟨rfl, rfl, rfl, rfl, trivial⟩ Z Z Z Z)<|fun x1 z_x1 hr hb_x1 => ?_;unfold ov at hr;refine zQ<|zR<|yS Z (aw Z Z Z Z)<|zN<|zT<|zQ ?_;refine zX Z (fun g1 => ?_)<|fun g1 => ?_
  ·
   refine zi g1 hr fun hr => zk<|zT<|zQ<|zl<|zQ<|zR<|zM Z<|zM Z<|zN<|zT<|zR<|zM Z<|zM Z<|zM Z<|zg hr fun q1 hr => yS Z (zC Z Z Z (by kernel_rfl) (IT q1))<|zM Z<|zN<|ah<|zT<|zR<|yS Z (aw Z Z Z Z)<|zM Z ?_;refine zN<|zT ?_;obtain rfl := zJ hr;exact ⟨_, rfl, zW 1 ⟨rfl, rfl, rfl, rfl, trivial⟩ Z Z Z rfl⟩
  ·
   refine zo g1 hr fun hr => zq<|ao<|ao<|zy<|zT ?_;obtain rfl := zJ hr;have hr := congrArg some (hb_x1 _ rfl);obtain rfl := zJ hr;exact zW 1 ⟨Z, Z, trivial⟩ Z Z Z Z
 ·have hr := ho_v1;clear hb_v1;refine zT<|LW.weak hw_v1<|zQ<|zR<|zM Z<|zM Z<|zN<|zT<|zr ?_;obtain rfl := zJ hr;exact ap (.one (.tmp Z))<|⟨rfl, rfl⟩
def yT (n : Int) (i : Int) : Option Bool :=
 bif decide (n > 0) then
  bif decide (n ≤ 1000) then
   bif decide (i ≥ 0) then
    some (decide (i < n))
   else
    some false
  else
   some false
 else
  some false
theorem IS {n : Int} {i : Int} {r_ : Bool} (hr : yT n i = some r_) : az Tryz.prog 141 [.int .i64 n, .int .i64 i] [.bool r_] := by
 refine zh Tryz.func141 Z Z Z Z ?_;unfold yT at hr;refine zQ<|zR<|zM Z<|zN<|zT<|zQ<|zR<|zM Z<|yS Z (aw Z Z Z Z)<|zM Z ?_;refine zc 7 Z (fun g1 => ?_)<|fun g1 => ?_
 ·
  refine zi g1 hr fun hr => yV Z (gd g1 Z) (zm Z Z)<|yV Z (gd g1 Z) (aw Z Z Z Z)<|yS Z (cS Z (a8 g1 Z) Z)<|zM Z ?_;refine zc 11 Z (fun g2 => ?_)<|fun g2 => ?_
  ·
   refine zi g2 hr fun hr => yV Z (gd g2 Z) (zm Z Z)<|yV Z (gd g2 Z) (aw Z Z Z Z)<|yS Z (cS Z (a8 g2 Z) Z)<|zM Z ?_;refine zc 15 Z (fun g3 => ?_)<|fun g3 => ?_
   ·
    refine zi g3 hr fun hr => yV Z (gd g3 Z) (zm Z Z)<|yV Z (gd g3 Z) (zm Z Z)<|yV Z (gd g3 Z) (aw Z Z Z Z)<|yS Z (cS Z (a8 g3 Z) Z)<|zM Z<|zN<|zT<|zr ?_;obtain rfl := zJ hr;exact zf (.one (.tmp Z)) zv
   ·
    refine zo g3 hr fun hr => yU Z (gd g3 Z) Z<|yU Z (gd g3 Z) Z<|yU Z (gd g3 Z) Z<|yS Z (bN Z (a8 g3 Z) Z)<|zM Z<|zN<|zT<|zr ?_;obtain rfl := zJ hr;exact zf (.one (.tmp Z)) zv
  ·
   refine zo g2 hr fun hr => yU Z (gd g2 Z) Z<|yU Z (gd g2 Z) Z<|yS Z (bN Z (a8 g2 Z) Z)<|zM Z<|yU Z Z Z<|yU Z Z Z<|yU Z Z Z<|yS Z (bN Z Z Z)<|zM Z<|zN<|zT<|zr ?_;obtain rfl := zJ hr;exact zf (.one (.tmp Z)) zv
 ·
  refine zo g1 hr fun hr => yU Z (gd g1 Z) Z<|yU Z (gd g1 Z) Z<|yS Z (bN Z (a8 g1 Z) Z)<|zM Z<|yU Z Z Z<|yU Z Z Z<|yS Z (bN Z Z Z)<|zM Z<|yU Z Z Z<|yU Z Z Z<|yU Z Z Z<|yS Z (bN Z Z Z)<|zM Z<|zN<|zT<|zr ?_;obtain rfl := zJ hr;exact zf (.one (.tmp Z)) zv
structure lm where
 t19 : Int
 d : Dk
 l : List Int
def oX (seed : Int) (n : Int) (x1 : lm) : Option (lm ⊕ lm) :=
 bif decide (x1.t19 < ((List.replicate n.toNat (0 : Int)).length : Int)) then
  (yW seed n x1.t19 x1.d).bind fun v3 =>
  (ix x1.l x1.t19).bind fun _ =>
  some (.inl (lm.mk (IntKind.i64.wrap (x1.t19 + 1)) v3.2 (x1.l.set x1.t19.toNat v3.1)))
 else
  some (.inr (lm.mk x1.t19 x1.d x1.l))
def F4 (seed : Int) (n : Int) : Option (List Int) :=
 (yT n 0).bind fun v1 =>
 bif !v1 then
  some []
 else
  bif ym n 8 then
   (iter (oX seed n) bG (lm.mk 0 Jr (List.replicate n.toNat (0 : Int)))).bind fun v2 =>
   bif decide (v2.d.k < n) then
    some []
   else
    some v2.l
  else none
theorem JR {seed : Int} {n : Int} {r_ : (List Int)} (hr : F4 seed n = some r_) : az Tryz.prog 103 [.int .u64 seed, .int .i64 n] [.slice 1 (r_.map aC)] := by
 refine zh Tryz.func103 Z Z Z Z ?_;unfold F4 at hr;refine zQ<|zR<|zM Z<|zN<|zT<|zQ<|zQ<|zR<|zM Z<|zb hr fun v1 h_v1 hr => yS Z (zC Z Z Z (by kernel_rfl) (zp (IS h_v1) (.cons zv (.cons zv .nil))))<|yS Z (ab.not Z Z)<|zN<|zT ?_;refine zX Z (fun g1 => ?_)<|fun g1 => ?_
 ·
  refine zi g1 hr fun hr => zQ<|zR<|zM Z<|zN<|zT<|zr<|af ?_;obtain rfl := zJ hr;exact zf (.one (.tmp Z)) Conv.zs
 ·
  refine zo g1 hr fun hr => zk<|zT<|zQ<|zR<|zM Z<|zM Z<|yS Z (ab.build Z Gh Z Z Z)<|yS Z (b6 (H' := [.box (gV seed n Jr)]) Z Z Z Z Z)<|zM Z<|zN<|zT<|zQ<|zR<|zM Z<|zg hr fun q1 hr => yS Z (ab.makeSliceX aC 0 Z Z Z gL (z := .int .i64 0) (by kernel_rfl) Z q1 Z Z)<|zM Z<|zN<|zT<|zQ<|zQ<|zR<|zM Z ?_;refine yS Z (ab.lenVM Z Z Z (by kernel_rfl))<|zM Z<|zN<|zT ?_;obtain ⟨v2, hb_v2, ho_v2⟩ := zB hr;clear hr;refine LW.tail (E := [(1, (iQ n)), (4, .zs), (5, .ptr 0 0), (6, (jI 1 v2.l))]) (O := [.box (gV seed n v2.d), .vec 1 (v2.l.map aC)]) ?_<|fun env_v2 H_v2 hw_v2 => ?_
  ·refine LW.block ?_;refine LW.iterB (E := fun x1 : lm => [(1, (iQ n)), (4, .zs), (5, .ptr 0 0), (6, (jI 1 x1.l)), (18, .p (.int .i64 ((List.replicate n.toNat (0 : Int)).length : Int))), (19, (iQ x1.t19))]) (O := fun x1 => [.box (gV seed n x1.d), .vec 1 (x1.l.map aC)]) hb_v2 (zW 2 ⟨rfl, rfl, rfl, rfl, rfl, rfl, trivial⟩ Z Z Z Z)<|fun x1 z_x1 hr hb_x1 => ?_;unfold oX at hr;refine zQ<|zR<|yS Z (aw Z Z Z Z)<|zN<|zT<|zQ ?_;refine zX Z (fun g2 => ?_)<|fun g2 => ?_
   ·
    refine zi g2 hr fun hr => zk<|zT<|zQ<|zl<|zQ<|zR<|zM Z<|zM Z<|zN<|zT<|zR<|zM Z<|zM Z<|zM Z<|zM Z<|zb hr fun v3 h_v3 hr => yS Z (zC Z Z Z (by kernel_rfl) (LC.pre (GY h_v3) Z Z Z))<|zb hr fun y1 h_y1 hr => yS Z (ab.indexAddrVX Z Z Z Z gL h_y1) ?_;refine yS Z (ab.storeVX (f := aC) (l := x1.l) v3.1 Z Z Z Z bl (fun _ => rfl) h_y1 Z) ?_;refine zN<|ah<|zT<|zR<|yS Z (aw Z Z Z Z)<|zM Z<|zN<|zT ?_;obtain rfl := zJ hr;exact ⟨_, rfl, zW 2 ⟨rfl, rfl, rfl, (Jw (rfl)), rfl, rfl, trivial⟩ Z Z Z rfl⟩
   ·
    refine zo g2 hr fun hr => zq<|ao<|ao<|zy<|zT ?_;obtain rfl := zJ hr;have hr := congrArg some (hb_x1 _ rfl);obtain rfl := zJ hr;exact zW 2 ⟨Z, Z, Z, Z, trivial⟩ Z Z Z Z
  ·have hr := ho_v2;clear hb_v2;refine zT<|LW.weak hw_v2<|zQ<|zQ<|zR<|zM Z<|yS Z (zn Z Z)<|yS Z (zA Z Z rZ)<|yS Z (zC Z Z Z (by kernel_rfl) (IU (off := 52) Z Z))<|zM Z<|yS Z (aw Z Z Z Z)<|zN<|zT ?_;refine zX Z (fun g3 => ?_)<|fun g3 => ?_
   ·
    refine zi g3 hr fun hr => zQ<|zR<|zM Z<|zN<|zT<|zr<|af ?_;obtain rfl := zJ hr;exact zf (.one (.tmp Z)) Conv.zs
   ·
    refine zo g3 hr fun hr => zk<|zT<|zQ<|zR<|zM Z<|zM Z<|zN<|zT<|zr ?_;obtain rfl := zJ hr;exact zf (.one (.tmp Z))<|(Conv.vecAll Z Z Z)
open Go.Proofs
open Go.Proofs
structure gM where
 m : Int
 i : Int
def l0 (x : List Int) (x1 : gM) : Option (gM ⊕ gM) :=
 bif decide (x1.i < (x.length : Int)) then
  (ix x x1.i).bind fun y2 =>
  some (.inl (gM.mk (if y2 < x1.m then y2 else x1.m) (IntKind.i64.wrap (x1.i + 1))))
 else
  some (.inr (gM.mk x1.m x1.i))
def y0 (x : List Int) : Option Int :=
 bif decide ((x.length : Int) < 1) then
  none
 else
  (ix x 0).bind fun y1 =>
  (iter (l0 x) bG (gM.mk y1 1)).bind fun v1 =>
  some v1.m
theorem IV {x : List Int} {r_ : Int} (hr : y0 x = some r_) : az Tryz.prog 78 [.slice 1 (x.map aC)] [.int .i64 r_] := by
 refine zh Tryz.func78 Z Z Z Z ?_;unfold y0 at hr;refine zQ<|zR<|zM Z<|zN<|zT<|zQ<|zQ<|zR<|zM Z<|yS Z (cP Z Z (by kernel_rfl))<|yS Z (aw Z Z Z Z)<|zN<|zT ?_;refine zX Z (fun g1 => ?_)<|fun g1 => ?_
 ·
  have hr := zI g1 hr;cases hr
 ·
  refine zo g1 hr fun hr => zk<|zT<|zQ<|zR<|zM Z<|zb hr fun y1 h_y1 hr => yS Z (zx Z Z Z gL h_y1 Z)<|yS Z (dj Z Z Z bl Z Z)<|zM Z<|zN<|zT<|zQ<|zQ<|zR<|zM Z<|zN<|zT ?_;obtain ⟨v1, hb_v1, ho_v1⟩ := zB hr;clear hr;refine LW.tail (E := [(2, (iQ 0)), (3, (iQ v1.m))]) (O := []) ?_<|fun env_v1 H_v1 hw_v1 => ?_
  ·refine LW.block ?_;refine LW.iterB (E := fun x1 : gM => [(0, (kI x)), (2, (iQ 0)), (3, (iQ x1.m)), (4, (iQ x1.i))]) (O := fun x1 => []) hb_v1 (zW 0 ⟨rfl, rfl, rfl, rfl, trivial⟩ Z Z Z Z)<|fun x1 z_x1 hr hb_x1 => ?_;unfold l0 at hr;refine zQ<|zQ<|zR<|zM Z<|zM Z<|yS Z (cP Z Z (by kernel_rfl))<|yS Z (aw Z Z Z Z)<|zN<|zT ?_;refine zX Z (fun g2 => ?_)<|fun g2 => ?_
   ·
    refine zi g2 hr fun hr => zk<|zT<|zQ<|zl<|zR<|zM Z<|zM Z<|zM Z<|zb hr fun y2 h_y2 hr => yS Z (zx Z Z Z gL h_y2 Z)<|yS Z (dj Z Z Z bl Z Z)<|yS Z (ab.min Z Z Z)<|zM Z<|zN<|ah<|zT<|zR<|zM Z<|yS Z (aw Z Z Z Z)<|zM Z<|zN<|zT ?_;obtain rfl := zJ hr;exact ⟨_, rfl, zW 0 ⟨rfl, rfl, rfl, rfl, trivial⟩ Z Z Z rfl⟩
   ·
    refine zo g2 hr fun hr => zq<|ao<|ao<|zy<|zT ?_;obtain rfl := zJ hr;have hr := congrArg some (hb_x1 _ rfl);obtain rfl := zJ hr;exact zW 0 ⟨Z, Z, trivial⟩ Z Z Z Z
  ·have hr := ho_v1;clear hb_v1;refine zT<|LW.weak hw_v1<|zQ<|zR<|zM Z<|zM Z<|zN<|zT<|zr ?_;obtain rfl := zJ hr;exact zf (.one (.tmp Z)) zv
structure gN where
 m : Int
 i : Int
def l4 (x : List Int) (x1 : gN) : Option (gN ⊕ gN) :=
 bif decide (x1.i < (x.length : Int)) then
  (ix x x1.i).bind fun y2 =>
  some (.inl (gN.mk (if y2 > x1.m then y2 else x1.m) (IntKind.i64.wrap (x1.i + 1))))
 else
  some (.inr (gN.mk x1.m x1.i))
def y6 (x : List Int) : Option Int :=
 bif decide ((x.length : Int) < 1) then
  none
 else
  (ix x 0).bind fun y1 =>
  (iter (l4 x) bG (gN.mk y1 1)).bind fun v1 =>
  some v1.m
theorem IW {x : List Int} {r_ : Int} (hr : y6 x = some r_) : az Tryz.prog 79 [.slice 1 (x.map aC)] [.int .i64 r_] := by
 refine zh Tryz.func79 Z Z Z Z ?_;unfold y6 at hr;refine zQ<|zR<|zM Z<|zN<|zT<|zQ<|zQ<|zR<|zM Z<|yS Z (cP Z Z (by kernel_rfl))<|yS Z (aw Z Z Z Z)<|zN<|zT ?_;refine zX Z (fun g1 => ?_)<|fun g1 => ?_
 ·
  have hr := zI g1 hr;cases hr
 ·
  refine zo g1 hr fun hr => zk<|zT<|zQ<|zR<|zM Z<|zb hr fun y1 h_y1 hr => yS Z (zx Z Z Z gL h_y1 Z)<|yS Z (dj Z Z Z bl Z Z)<|zM Z<|zN<|zT<|zQ<|zQ<|zR<|zM Z<|zN<|zT ?_;obtain ⟨v1, hb_v1, ho_v1⟩ := zB hr;clear hr;refine LW.tail (E := [(2, (iQ 0)), (3, (iQ v1.m))]) (O := []) ?_<|fun env_v1 H_v1 hw_v1 => ?_
  ·refine LW.block ?_;refine LW.iterB (E := fun x1 : gN => [(0, (kI x)), (2, (iQ 0)), (3, (iQ x1.m)), (4, (iQ x1.i))]) (O := fun x1 => []) hb_v1 (zW 0 ⟨rfl, rfl, rfl, rfl, trivial⟩ Z Z Z Z)<|fun x1 z_x1 hr hb_x1 => ?_;unfold l4 at hr;refine zQ<|zQ<|zR<|zM Z<|zM Z<|yS Z (cP Z Z (by kernel_rfl))<|yS Z (aw Z Z Z Z)<|zN<|zT ?_;refine zX Z (fun g2 => ?_)<|fun g2 => ?_
   ·
    refine zi g2 hr fun hr => zk<|zT<|zQ<|zl<|zR<|zM Z<|zM Z<|zM Z<|zb hr fun y2 h_y2 hr => yS Z (zx Z Z Z gL h_y2 Z)<|yS Z (dj Z Z Z bl Z Z)<|yS Z (ab.max Z Z Z)<|zM Z<|zN<|ah<|zT<|zR<|zM Z<|yS Z (aw Z Z Z Z)<|zM Z<|zN<|zT ?_;obtain rfl := zJ hr;exact ⟨_, rfl, zW 0 ⟨rfl, rfl, rfl, rfl, trivial⟩ Z Z Z rfl⟩
   ·
    refine zo g2 hr fun hr => zq<|ao<|ao<|zy<|zT ?_;obtain rfl := zJ hr;have hr := congrArg some (hb_x1 _ rfl);obtain rfl := zJ hr;exact zW 0 ⟨Z, Z, trivial⟩ Z Z Z Z
  ·have hr := ho_v1;clear hb_v1;refine zT<|LW.weak hw_v1<|zQ<|zR<|zM Z<|zM Z<|zN<|zT<|zr ?_;obtain rfl := zJ hr;exact zf (.one (.tmp Z)) zv
def xM (c : Cf) : Option Bool :=
 (
  bif (c.W.length : Int) == 0 then
   some true
  else
   bif decide ((c.W.length : Int) > 12) then
    some true
   else
    (y0 c.W).bind fun v2 =>
    bif decide (v2 < 0) then
     some true
    else
     (y6 c.W).bind fun v3 =>
     some (decide (v3 > 1099511627776))
 ).bind fun v1 =>
 bif v1 then
  some false
 else
  bif decide (c.Epoch > 0) then
   bif decide (c.Epoch ≤ 8) then
    bif decide (c.Num ≥ 0) then
     bif decide (c.Num ≤ c.Den) then
      bif decide (c.Den > 0) then
       some (decide (c.Den ≤ 1000))
      else
       some false
     else
      some false
    else
     some false
   else
    some false
  else
   some false
theorem EZ {c : Cf} {r_ : Bool} (hr : xM c = some r_) : az Tryz.prog 47 [kT c] [.bool r_] := by
 refine zh Tryz.func47 Z Z Z Z ?_;unfold xM at hr;refine zQ<|zR<|yS Z (b6 Z Z Z Z Z)<|zM Z<|zN<|zT<|zQ ?_;obtain ⟨v1, hb_v1, ho_v1⟩ := zB hr;clear hr;refine LW.cut (E := [(1, .ptr 0 0), (2, (bQ false)), (24, (bQ v1))]) (O := [.box (bO c)]) ?_ ?_
 ·have hr := hb_v1;refine zR<|yS Z (zA Z Z gu)<|yS Z (zD Z Z Z gG Z Z)<|yS Z (cP Z Z (by kernel_rfl))<|yS Z (aw Z Z Z Z)<|zM Z ?_;refine zc 7 Z (fun g1 => ?_)<|fun g1 => ?_
  ·
   refine zi g1 hr fun hr => yU Z (gd g1 Z) Z<|yU Z (gd g1 Z) Z<|yU Z (gd g1 Z) Z<|yU Z (gd g1 Z) Z<|yS Z (cS Z (a8 g1 Z) Z)<|zM Z<|yU Z Z Z<|yU Z Z Z<|yU Z Z Z<|yU Z Z Z<|yS Z (cS Z Z Z)<|zM Z<|yU Z Z Z<|yU Z Z Z<|yU Z Z Z<|yU Z Z Z<|yS Z (cS Z Z Z)<|zN<|zT ?_;obtain rfl := zJ hr;exact zW 1 ⟨Z, Z, Z, trivial⟩ Z Z Z Z
  ·
   refine zo g1 hr fun hr => yV Z (gd g1 Z) (zA Z Z gu)<|yV Z (gd g1 Z) (zD Z Z Z gG Z Z)<|yV Z (gd g1 Z) (cP Z Z (by kernel_rfl))<|yV Z (gd g1 Z) (aw Z Z Z Z)<|yS Z (bN Z (a8 g1 Z) Z)<|zM Z ?_;refine zc 13 Z (fun g2 => ?_)<|fun g2 => ?_
   ·
    refine zi g2 hr fun hr => yU Z (gd g2 Z) Z<|yU Z (gd g2 Z) Z<|yU Z (gd g2 Z) Z<|yU Z (gd g2 Z) Z<|yS Z (cS Z (a8 g2 Z) Z)<|zM Z<|yU Z Z Z<|yU Z Z Z<|yU Z Z Z<|yU Z Z Z<|yS Z (cS Z Z Z)<|zN<|zT ?_;obtain rfl := zJ hr;exact zW 1 ⟨Z, Z, Z, trivial⟩ Z Z Z Z
   ·
    refine zo g2 hr fun hr => yV Z (gd g2 Z) (zA Z Z gu)<|yV Z (gd g2 Z) (zD Z Z Z gG Z Z)<|zb hr fun v2 h_v2 hr => yV Z (gd g2 Z) (zC Z Z Z (by kernel_rfl) (zp (IV h_v2) (.cons zv .nil)))<|yV Z (gd g2 Z) (aw Z Z Z Z)<|yS Z (bN Z (a8 g2 Z) Z)<|zM Z ?_;refine zc 19 Z (fun g3 => ?_)<|fun g3 => ?_
    ·
     refine zi g3 hr fun hr => yU Z (gd g3 Z) Z<|yU Z (gd g3 Z) Z<|yU Z (gd g3 Z) Z<|yU Z (gd g3 Z) Z<|yS Z (cS Z (a8 g3 Z) Z)<|zN<|zT ?_;obtain rfl := zJ hr;exact zW 1 ⟨Z, Z, Z, trivial⟩ Z Z Z Z
    ·
     refine zo g3 hr fun hr => yV Z (gd g3 Z) (zA Z Z gu)<|yV Z (gd g3 Z) (zD Z Z Z gG Z Z)<|zb hr fun v3 h_v3 hr => yV Z (gd g3 Z) (zC Z Z Z (by kernel_rfl) (zp (IW h_v3) (.cons zv .nil)))<|yV Z (gd g3 Z) (aw Z Z Z Z)<|yS Z (bN Z (a8 g3 Z) Z)<|zN<|zT ?_;obtain rfl := zJ hr;exact zW 1 ⟨Z, Z, Z, trivial⟩ Z Z Z Z
 ·have hr := ho_v1;clear hb_v1;refine zX Z (fun g4 => ?_)<|fun g4 => ?_
  ·
   refine zi g4 hr fun hr => zQ<|zR<|zM Z<|zN<|zT<|zr<|af ?_;obtain rfl := zJ hr;exact zf (.one (.tmp Z)) zv
  ·
   refine zo g4 hr fun hr => zk<|zT<|zQ<|zR<|yS Z (zA Z Z pM)<|yS Z (zD Z Z Z bl Z Z)<|yS Z (aw Z Z Z Z)<|zM Z ?_;refine zc 28 Z (fun g5 => ?_)<|fun g5 => ?_
   ·
    refine zi g5 hr fun hr => yV Z (gd g5 Z) (zA Z Z pM)<|yV Z (gd g5 Z) (zD Z Z Z bl Z Z)<|yV Z (gd g5 Z) (aw Z Z Z Z)<|yS Z (cS Z (a8 g5 Z) Z)<|zM Z ?_;refine zc 33 Z (fun g6 => ?_)<|fun g6 => ?_
    ·
     refine zi g6 hr fun hr => yV Z (gd g6 Z) (zA Z Z vG)<|yV Z (gd g6 Z) (zD Z Z Z bl Z Z)<|yV Z (gd g6 Z) (aw Z Z Z Z)<|yS Z (cS Z (a8 g6 Z) Z)<|zM Z ?_;refine zc 38 Z (fun g7 => ?_)<|fun g7 => ?_
     ·
      refine zi g7 hr fun hr => yV Z (gd g7 Z) (zA Z Z vG)<|yV Z (gd g7 Z) (zD Z Z Z bl Z Z)<|yV Z (gd g7 Z) (zA Z Z pN)<|yV Z (gd g7 Z) (zD Z Z Z bl Z Z)<|yV Z (gd g7 Z) (aw Z Z Z Z)<|yS Z (cS Z (a8 g7 Z) Z)<|zM Z ?_;refine zc 45 Z (fun g8 => ?_)<|fun g8 => ?_
      ·
       refine zi g8 hr fun hr => yV Z (gd g8 Z) (zA Z Z pN)<|yV Z (gd g8 Z) (zD Z Z Z bl Z Z)<|yV Z (gd g8 Z) (aw Z Z Z Z)<|yS Z (cS Z (a8 g8 Z) Z)<|zM Z ?_;refine zc 50 Z (fun g9 => ?_)<|fun g9 => ?_
       ·
        refine zi g9 hr fun hr => yV Z (gd g9 Z) (zA Z Z pN)<|yV Z (gd g9 Z) (zD Z Z Z bl Z Z)<|yV Z (gd g9 Z) (aw Z Z Z Z)<|yS Z (cS Z (a8 g9 Z) Z)<|zM Z<|zN<|zT<|zr ?_;obtain rfl := zJ hr;exact zf (.one (.tmp Z)) zv
       ·
        refine zo g9 hr fun hr => yU Z (gd g9 Z) Z<|yU Z (gd g9 Z) Z<|yU Z (gd g9 Z) Z<|yS Z (bN Z (a8 g9 Z) Z)<|zM Z<|zN<|zT<|zr ?_;obtain rfl := zJ hr;exact zf (.one (.tmp Z)) zv
      ·
       refine zo g8 hr fun hr => yU Z (gd g8 Z) Z<|yU Z (gd g8 Z) Z<|yU Z (gd g8 Z) Z<|yS Z (bN Z (a8 g8 Z) Z)<|zM Z<|yU Z Z Z<|yU Z Z Z<|yU Z Z Z<|yS Z (bN Z Z Z)<|zM Z<|zN<|zT<|zr ?_;obtain rfl := zJ hr;exact zf (.one (.tmp Z)) zv
     ·
      refine zo g7 hr fun hr => yU Z (gd g7 Z) Z<|yU Z (gd g7 Z) Z<|yU Z (gd g7 Z) Z<|yU Z (gd g7 Z) Z<|yU Z (gd g7 Z) Z<|yS Z (bN Z (a8 g7 Z) Z)<|zM Z<|yU Z Z Z<|yU Z Z Z<|yU Z Z Z<|yS Z (bN Z Z Z)<|zM Z<|yU Z Z Z<|yU Z Z Z<|yU Z Z Z<|yS Z (bN Z Z Z)<|zM Z<|zN<|zT<|zr ?_;obtain rfl := zJ hr;exact zf (.one (.tmp Z)) zv
    ·
     refine zo g6 hr fun hr => yU Z (gd g6 Z) Z<|yU Z (gd g6 Z) Z<|yU Z (gd g6 Z) Z<|yS Z (bN Z (a8 g6 Z) Z)<|zM Z<|yU Z Z Z<|yU Z Z Z<|yU Z Z Z<|yU Z Z Z<|yU Z Z Z<|yS Z (bN Z Z Z)<|zM Z<|yU Z Z Z<|yU Z Z Z<|yU Z Z Z<|yS Z (bN Z Z Z)<|zM Z<|yU Z Z Z<|yU Z Z Z<|yU Z Z Z<|yS Z (bN Z Z Z)<|zM Z<|zN ?_;refine zT<|zr ?_;obtain rfl := zJ hr;exact zf (.one (.tmp Z)) zv
   ·
    refine zo g5 hr fun hr => yU Z (gd g5 Z) Z<|yU Z (gd g5 Z) Z<|yU Z (gd g5 Z) Z<|yS Z (bN Z (a8 g5 Z) Z)<|zM Z<|yU Z Z Z<|yU Z Z Z<|yU Z Z Z<|yS Z (bN Z Z Z)<|zM Z<|yU Z Z Z<|yU Z Z Z<|yU Z Z Z<|yU Z Z Z<|yU Z Z Z<|yS Z (bN Z Z Z)<|zM Z<|yU Z Z Z<|yU Z Z Z<|yU Z Z Z<|yS Z (bN Z Z Z)<|zM Z<|yU Z Z Z ?_;refine yU Z Z Z<|yU Z Z Z<|yS Z (bN Z Z Z)<|zM Z<|zN<|zT<|zr ?_;obtain rfl := zJ hr;exact zf (.one (.tmp Z)) zv
def xB (c : Cf) (slot : Int) : Option Bool :=
 (xM c).bind fun v1 =>
 bif v1 then
  bif decide (slot > 0) then
   some (decide (slot ≤ 1048576))
  else
   some false
 else
  some false
theorem Gr {c : Cf} {slot : Int} {r_ : Bool} (hr : xB c slot = some r_) : az Tryz.prog 69 [kT c, .int .i64 slot] [.bool r_] := by
 refine zh Tryz.func69 Z Z Z Z ?_;unfold xB at hr;refine zQ<|zR<|yS Z (b6 Z Z Z Z Z)<|zM Z<|zN<|zT<|zQ<|zR<|yS Z (zD Z Z Z ca Z Z)<|zb hr fun v1 h_v1 hr => yS Z (zC Z Z Z (by kernel_rfl) (zp (EZ h_v1) (.cons zv .nil)))<|zM Z ?_;refine zc 7 Z (fun g1 => ?_)<|fun g1 => ?_
 ·
  refine zi g1 hr fun hr => yV Z (gd g1 Z) (zm Z Z)<|yV Z (gd g1 Z) (aw Z Z Z Z)<|yS Z (cS Z (a8 g1 Z) Z)<|zM Z ?_;refine zc 11 Z (fun g2 => ?_)<|fun g2 => ?_
  ·
   refine zi g2 hr fun hr => yV Z (gd g2 Z) (zm Z Z)<|yV Z (gd g2 Z) (aw Z Z Z Z)<|yS Z (cS Z (a8 g2 Z) Z)<|zM Z<|zN<|zT<|zr ?_;obtain rfl := zJ hr;exact zf (.one (.tmp Z)) zv
  ·
   refine zo g2 hr fun hr => yU Z (gd g2 Z) Z<|yU Z (gd g2 Z) Z<|yS Z (bN Z (a8 g2 Z) Z)<|zM Z<|zN<|zT<|zr ?_;obtain rfl := zJ hr;exact zf (.one (.tmp Z)) zv
 ·
  refine zo g1 hr fun hr => yU Z (gd g1 Z) Z<|yU Z (gd g1 Z) Z<|yS Z (bN Z (a8 g1 Z) Z)<|zM Z<|yU Z Z Z<|yU Z Z Z<|yS Z (bN Z Z Z)<|zM Z<|zN<|zT<|zr ?_;obtain rfl := zJ hr;exact zf (.one (.tmp Z)) zv
structure i5 where
 t8 : Int
def kD (s : List Int) (v : Int) (x1 : i5) : Option (i5 ⊕ (i5 ⊕ Int)) :=
 bif decide (x1.t8 < (s.length : Int)) then
  (ix s x1.t8).bind fun y1 =>
  bif v == y1 then
   some (.inr (.inr x1.t8))
  else
   some (.inl (i5.mk (IntKind.i64.wrap (x1.t8 + 1))))
 else
  some (.inr (.inl (i5.mk x1.t8)))
def CK (s : List Int) (v : Int) : Option Int :=
 (iter (kD s v) bG (i5.mk 0)).bind fun b_v1 => Sum.elim (fun _ =>
  some (-1)) some b_v1
theorem I8 {s : List Int} {v : Int} {r_ : Int} (hr : CK s v = some r_) : az Tryz.prog 80 [.slice 1 (s.map aC), .int .i64 v] [.int .i64 r_] := by
 refine zh Tryz.func80 Z Z Z Z ?_;unfold CK at hr;refine zQ<|zR<|zM Z<|zN<|zT<|zQ<|zQ<|zR<|zM Z<|yS Z (cP Z Z (by kernel_rfl))<|zM Z<|zN<|zT ?_;obtain ⟨b_v1, hb_v1, ho_v1⟩ := zB hr;clear hr;refine LW.tailB (b := b_v1) (E := fun v1 => [(4, (iQ 0))]) (O := fun v1 => []) ?_<|fun v1 e_v1 env_v1 H_v1 hw_v1 => ?_
 ·refine LW.block ?_;refine LW.iterB (E := fun x1 : i5 => [(0, (kI s)), (1, (iQ v)), (4, (iQ 0)), (7, .p (.int .i64 (s.length : Int))), (8, (iQ x1.t8))]) (O := fun x1 => []) hb_v1 (zW 0 ⟨rfl, rfl, rfl, rfl, rfl, trivial⟩ Z Z Z Z)<|fun x1 z_x1 hr hb_x1 => ?_;unfold kD at hr;refine zQ<|zR<|yS Z (aw Z Z Z Z)<|zN<|zT<|zQ ?_;refine zX Z (fun g1 => ?_)<|fun g1 => ?_
  ·
   refine zi g1 hr fun hr => zk<|zT<|zQ<|zl<|zQ<|zR<|zM Z<|zM Z<|zN<|zT<|zQ<|zR<|zM Z<|zM Z<|zM Z<|zb hr fun y1 h_y1 hr => yS Z (zx Z Z Z gL h_y1 Z)<|yS Z (dj Z Z Z bl Z Z)<|yS Z (aw Z Z Z Z)<|zN<|zT ?_;refine zX Z (fun g2 => ?_)<|fun g2 => ?_
   ·
    refine zi g2 hr fun hr => zQ<|zR<|zM Z<|zM Z<|zN<|zT<|zr<|aq<|af<|af<|aq<|af<|af ?_;obtain rfl := zJ hr;have hr := congrArg some (hb_x1 _ rfl);obtain rfl := zJ hr;have hr := da ho_v1;obtain rfl := zJ hr;exact zf (.one (.tmp Z)) zv
   ·
    refine zo g2 hr fun hr => zk<|ah<|zT<|zR<|yS Z (aw Z Z Z Z)<|zM Z<|zN<|zT ?_;obtain rfl := zJ hr;exact ⟨_, rfl, zW 0 ⟨rfl, rfl, rfl, rfl, rfl, trivial⟩ Z Z Z rfl⟩
  ·
   refine zo g1 hr fun hr => zq<|ao<|ao<|zy<|zT ?_;obtain rfl := zJ hr;have hr := congrArg some (hb_x1 _ rfl);obtain rfl := zJ hr;exact ⟨_, rfl, zW 0 ⟨rfl, trivial⟩ Z Z Z rfl⟩
 ·obtain rfl := e_v1;have hr := eG ho_v1;clear hb_v1;refine zT<|LW.weak hw_v1<|zQ<|zR<|zM Z<|zN<|zT<|zr ?_;obtain rfl := zJ hr;exact zf (.one (.tmp Z)) zv
def sN (s : List Int) (v : Int) : Option Bool :=
 (CK s v).bind fun v1 =>
 some (decide (v1 ≥ 0))
theorem C8 {s : List Int} {v : Int} {r_ : Bool} (hr : sN s v = some r_) : az Tryz.prog 48 [.slice 1 (s.map aC), .int .i64 v] [.bool r_] := by
 refine zh Tryz.func48 Z Z Z Z ?_;unfold sN at hr;refine zQ<|zR<|zM Z<|zN<|zT<|zQ<|zR<|zM Z<|zM Z<|zb hr fun v1 h_v1 hr => yS Z (zC Z Z Z (by kernel_rfl) (zp (I8 h_v1) (.cons zv (.cons zv .nil))))<|yS Z (aw Z Z Z Z)<|zM Z<|zN<|zT<|zr ?_;obtain rfl := zJ hr;exact zf (.one (.tmp Z)) zv
structure IK where
 i : Int
open Go.Proofs
theorem pW : ∀ H : List aa, cE H = some H.length
 | [] => rfl
 | _ :: r => by unfold cE; rw [pW r]; rfl
theorem pj : ∀ (H : List aa) (o : aa), gK H o = some (H ++ [o])
 | [], _ => rfl
 | _ :: r, o => by unfold gK; rw [pj r o]; rfl
theorem Gu {c : Cf} {g : FuncId} {first caps : List LV} {H : List aa} : LC Tryz.prog 105 [.p (kT c), .fn g first caps] H (Is (.fn 145 [] [.cptr [.slice 1 (c.W.map aC), .int .u64 c.Seed, .int .i64 c.Epoch, .int .i64 c.Num, .int .i64 c.Den], .fptr (.fn g first caps)]) H) := by
 refine LC.those Tryz.func105 Z Z Z ?_;refine LW.seq<|LW.region<|am.st Z Z Z (ab.box Z Z Z (pW _) (pj _ _))<|am.st Z Z Z (ab.box Z Z Z (pW _) (pj _ _))<|am.st Z Z Z (ab.assign Z Z)<|am.nil<|bz<|LW.seq<|LW.region<|am.st Z Z Z (ab.makeFunc Z Z Z)<|am.st Z Z Z (ab.assign Z Z)<|am.nil<|bz<|LW.ret ?_;refine ⟨.inr rfl, by simp, ?_⟩
 have h : ∀ n : Nat, n = H.length + 1 → ∀ {e : ax} {H2 : List aa}, e.get 4 = some (.fn 145 [] [.ptr H.length 0, .ptr n 0]) → dg Tryz.prog e H2 Tryz.f105.results (.fn 145 [] [.ptr H.length 0, .ptr (H.length + 1) 0]) := by
  rintro n rfl e H2 he;exact .one<|.tmp he
 exact h _ (by simp) Z
open Go.Proofs
noncomputable def u5 : Code := JK Tryz.f146.body
noncomputable def u8 : Code := JL Tryz.f146.body
noncomputable def u6 : Code := JK Tryz.f144.body
noncomputable def u9 : Code := JL Tryz.f144.body
def Cy (i : Int) (_ : Cf) (m : List (Int × Bool)) : Option Bool :=
 some ((aj m i).getD false)
theorem G2 {i : Int} {c : Cf} {m : List (Int × Bool)} {r_ : Bool} (hr : Cy i c m = some r_) : LC Tryz.prog 147 [(iQ i), .ptr 2 0] [.box (bO c), .map (ai aC (fun v => (bQ v)) m), .box [.map 1]] (Is (bQ r_) [.box (bO c), .map (ai aC (fun v => (bQ v)) m), .box [.map 1]]) := by
 refine dA Tryz.func147 Z Z Z ?_;unfold Cy at hr;refine zQ<|zR<|zM Z<|zN<|zT<|zQ<|zR<|yS Z (zD Z Z Z Ca Z Z)<|zM Z ?_;refine yS Z (ab.getX (f := aC) (g := (fun v => (bQ v))) i false Bt Z Z Z Z Ec Iu Z Z) ?_;refine zM Z<|zN<|zT<|zr ?_;obtain rfl := zJ hr;exact ap (.one (.tmp Z))<|⟨rfl, rfl⟩
theorem Ir {c : Cf} {m : List (Int × Bool)} {n i y : Int} {o : Oper} {env : ax} {fo xo : Operand} {ats : Array TypeId} (ho : o.op = .call { callee := .value fo, args := #[xo], argTypes := ats }) (hf : aG env fo = some (.yld 6)) (hx : aG env xo = some (iQ i)) (h : ix c.W i = some y) :
  eW Tryz.prog o env [.box (bO c), .map (ai aC (fun v => (bQ v)) m), .box [.map 1], .box (bO c), .box [(iQ n)], .defd, .loop false 21 [(2, .ptr 3 0), (4, (iQ 0)), (5, .ptr 4 0), (11, .fn 145 [] [.cptr [.slice 1 (c.W.map aC), .int .u64 c.Seed, .int .i64 c.Epoch, .int .i64 c.Num, .int .i64 c.Den], .fptr (.fn 147 [] [.ptr 2 0])])] #[12] u5 u8] (Is (bQ true) [.box (bO c), .map (ai aC (fun v => (bQ v)) m), .box [.map 1], .box (bO c), .box [.p (.int .i64 (IntKind.i64.wrap (n + y)))], .defd, .loop false 21 [(2, .ptr 3 0), (4, (iQ 0)), (5, .ptr 4 0), (11, .fn 145 [] [.cptr [.slice 1 (c.W.map aC), .int .u64 c.Seed, .int .i64 c.Epoch, .int .i64 c.Num, .int .i64 c.Den], .fptr (.fn 147 [] [.ptr 2 0])])] #[12] u5 u8]) := by
 refine eW.yield (env2 := (6, (iQ i)) :: (12, (iQ i)) :: [(2, .ptr 3 0), (4, (iQ 0)), (5, .ptr 4 0), (11, .fn 145 [] [.cptr [.slice 1 (c.W.map aC), .int .u64 c.Seed, .int .i64 c.Epoch, .int .i64 c.Num, .int .i64 c.Den], .fptr (.fn 147 [] [.ptr 2 0])])]) (H2 := [.box (bO c), .map (ai aC (fun v => (bQ v)) m), .box [.map 1], .box (bO c), .box [.p (.int .i64 (IntKind.i64.wrap (n + y)))], .defd, .loop true 21 [(2, .ptr 3 0), (4, (iQ 0)), (5, .ptr 4 0), (11, .fn 145 [] [.cptr [.slice 1 (c.W.map aC), .int .u64 c.Seed, .int .i64 c.Epoch, .int .i64 c.Num, .int .i64 c.Den], .fptr (.fn 147 [] [.ptr 2 0])])] #[12] u5 u8]) ho hf hx Z Z (by kernel_rfl) (by kernel_rfl) Z (qT.plain ?_) ?_ Z Z
 ·refine yS Z (za Z Z) ?_;exact zN ⟨rfl, rfl, rfl⟩
 ·refine qT.drawLast (m := 7) (by kernel_rfl) (by kernel_rfl) (by kernel_rfl) ?_;exact yE Z (zD Z Z Z bl Z Z)<|yE Z (zA Z Z gu)<|yE Z (zD Z Z Z gG Z Z)<|zH Z<|yE Z (zx Z Z Z gL h Z)<|yE Z (dj Z Z Z bl Z Z)<|yE Z (aw Z Z Z Z)<|LO.nil<|yS Z (zs Z Z Z Z bl Z Z Z Z)<|zN<|⟨rfl, rfl⟩
structure fr where
 t8 : Int
 o4_0 : Int
def jT (c : Cf) (m : List (Int × Bool)) (x1 : fr) : Option (fr ⊕ fr) :=
 bif decide (x1.t8 < (c.W.length : Int)) then
  (Cy x1.t8 c m).bind fun v2 =>
  bif v2 then
   (ix c.W x1.t8).bind fun y1 =>
   some (.inl (fr.mk (IntKind.i64.wrap (x1.t8 + 1)) (IntKind.i64.wrap (x1.o4_0 + y1))))
  else
   some (.inl (fr.mk (IntKind.i64.wrap (x1.t8 + 1)) x1.o4_0))
 else
  some (.inr (fr.mk x1.t8 x1.o4_0))
def sP (c : Cf) (m : List (Int × Bool)) (n : Int) : Option Int :=
 (iter (jT c m) bG (fr.mk 0 n)).bind fun v1 =>
 some v1.o4_0
theorem E8 {c : Cf} {m : List (Int × Bool)} {n : Int} {r_ : Int} (hr : sP c m n = some r_) : LC Tryz.prog 145 [.yld 6, .cptr [.slice 1 (c.W.map aC), .int .u64 c.Seed, .int .i64 c.Epoch, .int .i64 c.Num, .int .i64 c.Den], .fptr (.fn 147 [] [.ptr 2 0])] [.box (bO c), .map (ai aC (fun v => (bQ v)) m), .box [.map 1], .box (bO c), .box [(iQ n)], .defd, .loop false 21 [(2, .ptr 3 0), (4, (iQ 0)), (5, .ptr 4 0), (11, .fn 145 [] [.cptr [.slice 1 (c.W.map aC), .int .u64 c.Seed, .int .i64 c.Epoch, .int .i64 c.Num, .int .i64 c.Den], .fptr (.fn 147 [] [.ptr 2 0])])] #[12] u5 u8] (Is (.tup []) [.box (bO c), .map (ai aC (fun v => (bQ v)) m), .box [.map 1], .box (bO c), .box [(iQ r_)], .defd, .loop false 21 [(2, .ptr 3 0), (4, (iQ 0)), (5, .ptr 4 0), (11, .fn 145 [] [.cptr [.slice 1 (c.W.map aC), .int .u64 c.Seed, .int .i64 c.Epoch, .int .i64 c.Num, .int .i64 c.Den], .fptr (.fn 147 [] [.ptr 2 0])])] #[12] u5 u8]) := by
 refine dA Tryz.func145 Z Z Z ?_;unfold sP at hr;refine zQ<|zR<|yS Z (ab.fieldAddrC Z Z gu Z)<|yS Z (dj Z Z Z gG Z Z)<|yS Z (cP Z Z (by kernel_rfl))<|zM Z<|zN<|zT ?_;obtain ⟨v1, hb_v1, ho_v1⟩ := zB hr;clear hr;refine LW.tail (E := []) (O := [.box (bO c), .map (ai aC (fun v => (bQ v)) m), .box [.map 1], .box (bO c), .box [(iQ v1.o4_0)], .defd, .loop false 21 [(2, .ptr 3 0), (4, (iQ 0)), (5, .ptr 4 0), (11, .fn 145 [] [.cptr [.slice 1 (c.W.map aC), .int .u64 c.Seed, .int .i64 c.Epoch, .int .i64 c.Num, .int .i64 c.Den], .fptr (.fn 147 [] [.ptr 2 0])])] #[12] u5 u8]) ?_<|fun env_v1 H_v1 hw_v1 => ?_
 ·refine LW.block ?_;refine LW.iterB (E := fun x1 : fr => [(0, .yld 6), (2, .fptr (.fn 147 [] [.ptr 2 0])), (7, .p (.int .i64 (c.W.length : Int))), (8, (iQ x1.t8))]) (O := fun x1 => [.box (bO c), .map (ai aC (fun v => (bQ v)) m), .box [.map 1], .box (bO c), .box [(iQ x1.o4_0)], .defd, .loop false 21 [(2, .ptr 3 0), (4, (iQ 0)), (5, .ptr 4 0), (11, .fn 145 [] [.cptr [.slice 1 (c.W.map aC), .int .u64 c.Seed, .int .i64 c.Epoch, .int .i64 c.Num, .int .i64 c.Den], .fptr (.fn 147 [] [.ptr 2 0])])] #[12] u5 u8]) hb_v1 (zW 7 ⟨rfl, rfl, rfl, rfl, trivial⟩ Z Z Z (zL Z (zL (ae (fun _ => rfl) _) (zL Z (zL Z (zL Z (zL Z (zL Z Z))))))))<|fun x1 z_x1 hr hb_x1 => ?_;unfold jT at hr;refine zQ<|zR<|yS Z (aw Z Z Z Z)<|zN<|zT<|zQ ?_;refine zX Z (fun g1 => ?_)<|fun g1 => ?_
  ·
   refine zi g1 hr fun hr => zk<|zT<|zQ<|zl<|zQ<|zR<|zM Z<|zM Z<|zN<|zT<|zQ<|LW.regionI<|aW.st Z Z Z (eW.of (ab.loadF Z Z rJ) Z)<|aW.st Z Z Z (eW.of (zm Z Z) Z)<|zb hr fun v2 h_v2 hr => ?_;refine aW.st Z Z Z (eW.of (zC Z Z Z (by kernel_rfl) (LC.pre (G2 h_v2) Z (zL Z (zL (ae (fun _ => rfl) _) (zL Z Z))) Z)) Z) ?_;refine aW.st Z Z Z (eW.of (ab.move Z Z) Z) ?_;refine aW.cases 14 Z (fun (g2 : v2 = true) => ?_) (fun (g2 : v2 = false) => ?_)
   ·
    refine zi g2 hr fun hr => aW.gd Z Z Z (gd g2 Z) Z (eW.of (zm Z Z) Z)<|aW.gd Z Z Z (gd g2 Z) Z (eW.of (zm Z Z) Z)<|zb hr fun y1 h_y1 hr => aW.gd Z Z Z (gd g2 Z) Z (Ir Z Z Z h_y1)<|aW.gd Z Z Z (gd g2 Z) Z (eW.of (ab.not Z Z) Z)<|aW.st Z Z Z (eW.of (cS Z (a8 g2 Z) Z) Z)<|aW.nil<|zT<|LW.condF Z<|zk<|ah<|zT<|zR<|yS Z (aw Z Z Z Z)<|zM Z<|zN<|zT ?_;obtain rfl := zJ hr;exact ⟨_, rfl, zW 7 ⟨rfl, rfl, rfl, rfl, trivial⟩ Z Z Z (zL Z (zL (ae (fun _ => rfl) _) (zL Z (zL Z (zL Z (zL Z (zL Z Z)))))))⟩
   ·
    refine zo g2 hr fun hr => aW.sk Z Z Z (gd g2 Z) Z Z<|aW.sk Z Z Z (gd g2 Z) Z Z<|aW.sk Z Z Z (gd g2 Z) Z Z<|aW.sk Z Z Z (gd g2 Z) Z Z<|aW.st Z Z Z (eW.of (bN Z (a8 g2 Z) Z) Z)<|aW.nil<|zT<|LW.condF Z<|zk<|ah<|zT<|zR<|yS Z (aw Z Z Z Z)<|zM Z<|zN<|zT ?_;obtain rfl := zJ hr;exact ⟨_, rfl, zW 7 ⟨rfl, rfl, rfl, rfl, trivial⟩ Z Z Z (zL Z (zL (ae (fun _ => rfl) _) (zL Z (zL Z (zL Z (zL Z (zL Z Z)))))))⟩
  ·
   refine zo g1 hr fun hr => zq<|ao<|ao<|zy<|zT ?_;obtain rfl := zJ hr;have hr := congrArg some (hb_x1 _ rfl);obtain rfl := zJ hr;exact zW 7 trivial Z Z Z<|zL Z<|zL (ae (fun _ => rfl) _)<|zL Z<|zL Z<|zL Z<|zL Z<|zL Z Z
 ·have hr := ho_v1;clear hb_v1;obtain rfl := zJ hr;exact fu hw_v1 .none ⟨rfl, rfl⟩
def wD (c : Cf) (m : List (Int × Bool)) : Option Int :=
 (xM c).bind fun v1 =>
 bif !v1 then
  some 0
 else
  (sP c m 0).bind fun v2 =>
  some v2
theorem E4 {c : Cf} {m : List (Int × Bool)} {r_ : Int} (hr : wD c m = some r_) : LC Tryz.prog 146 [.p (kT c), .fn 145 [] [.cptr [.slice 1 (c.W.map aC), .int .u64 c.Seed, .int .i64 c.Epoch, .int .i64 c.Num, .int .i64 c.Den], .fptr (.fn 147 [] [.ptr 2 0])]] [.box (bO c), .map (ai aC (fun v => (bQ v)) m), .box [.map 1]] (Is (iQ r_) [.box (bO c), .map (ai aC (fun v => (bQ v)) m), .box [.map 1]]) := by
 refine LC.ofM Tryz.func146 Z Z Z ?_;unfold wD at hr;refine gI.seqW<|zR<|yS Z (b6 Z Z Z Z Z)<|zM Z<|zN<|zT<|gI.seqW<|zR<|yS Z (ze Z JN Z Z)<|yS Z (zs Z Z Z Z bl Z Z Z Z)<|zN<|zT<|gI.seqW<|zQ<|zR<|yS Z (zD Z Z Z ca Z Z)<|zb hr fun v1 h_v1 hr => yS Z (zC Z Z Z (by kernel_rfl) (zp (EZ h_v1) (.cons zv .nil)))<|yS Z (ab.not Z Z)<|zN<|zT ?_;refine zX Z (fun g1 => ?_)<|fun g1 => ?_
 ·
  refine zi g1 hr fun hr => zQ<|zR<|yS Z (zD Z Z Z bl Z Z)<|zM Z<|zN<|zT<|zr<|af ?_;obtain rfl := zJ hr;refine aX (env' := [(4, (iQ 0))]) (H' := [.box (bO c), .map (ai aC (fun v => (bQ v)) m), .box [.map 1]]) (zW 3 ⟨rfl, trivial⟩ Z Z Z (zL Z (zL (ae (fun _ => rfl) _) (zL Z Z)))) (.one (.tmp Z)) ?_;exact ⟨rfl, rfl⟩
 ·
  refine zo g1 hr fun hr => zk<|zT<|gI.seq<|gI.seqW<|zR<|zM Z<|zN<|zT ?_;refine gI.weak (env' := [(2, .ptr 3 0), (4, (iQ 0)), (5, .ptr 4 0), (11, .fn 145 [] [.cptr [.slice 1 (c.W.map aC), .int .u64 c.Seed, .int .i64 c.Epoch, .int .i64 c.Num, .int .i64 c.Den], .fptr (.fn 147 [] [.ptr 2 0])])]) (H' := [.box (bO c), .map (ai aC (fun v => (bQ v)) m), .box [.map 1], .box (bO c), .box [(iQ 0)]]) (zW 5 ⟨rfl, rfl, rfl, rfl, trivial⟩ Z Z Z (zL Z (zL (ae (fun _ => rfl) _) (zL Z (zL Z (zL Z Z)))))) ?_;refine gI.block<|zb hr fun v2 h_v2 hr => gI.rangeFunc Z (by kernel_rfl) Z (E8 h_v2) Z Z Z ?_;refine ⟨rfl, ?_⟩;refine su<|gI.seq<|gI.region<|jF.st Z Z Z (zD Z Z Z bl Z Z) Z<|jF.st Z Z Z (za Z Z) Z<|jF.nil<|su<|gI.ret ?_;obtain rfl := zJ hr;exact ⟨.inr rfl, _, [(4, (iQ v2))], [.box (bO c), .map (ai aC (fun v => (bQ v)) m), .box [.map 1]], _, rfl, zW 3 ⟨rfl, trivial⟩ Z Z Z (zL Z (zL (ae (fun _ => rfl) _) (zL Z Z))), (.one (.tmp Z)), ⟨rfl, rfl⟩⟩
open Go.Proofs
def Cx (i : Int) (c : Cf) (slot : Int) (at_ : List Int) : Option Bool :=
 (ix at_ i).bind fun y1 =>
 bif decide (c.Epoch ≠ 0) then
  bif decide (c.Epoch ≠ 0) then
   some ((y1.tmod c.Epoch) == (slot.tmod c.Epoch))
  else none
 else none
theorem GZ {i : Int} {c : Cf} {slot : Int} {at_ : List Int} {r_ : Bool} (hr : Cx i c slot at_ = some r_) : LC Tryz.prog 106 [(iQ i), .ptr 2 0, .ptr 0 0, .ptr 1 0] [.box (bO c), .box [(iQ slot)], .box [(kI at_)]] (Is (bQ r_) [.box (bO c), .box [(iQ slot)], .box [(kI at_)]]) := by
 refine dA Tryz.func106 Z Z Z ?_;unfold Cx at hr;refine zQ<|zR<|zM Z<|zN<|zT<|zQ<|LW.draw2 (by kernel_rfl) (by kernel_rfl)<|yE Z (zD Z Z Z gG Z Z)<|zH Z<|zb hr fun y1 h_y1 hr => yE Z (zx Z Z Z gL h_y1 Z)<|yE Z (dj Z Z Z bl Z Z)<|yE Z (zA Z Z pM)<|yE Z (zD Z Z Z bl Z Z)<|zg hr fun q1 hr => yE Z (ab.rem Z Z Z (of_decide_eq_true q1))<|yE Z (zD Z Z Z bl Z Z)<|yE Z (zA Z Z pM)<|yE Z (zD Z Z Z bl Z Z)<|zg hr fun q2 hr => yE Z (ab.rem Z Z Z (of_decide_eq_true q2))<|yE Z (aw Z Z Z Z)<|zH Z<|LO.nil ?_;refine zT<|zr ?_;obtain rfl := zJ hr;exact ap (.one (.tmp Z))<|⟨rfl, rfl⟩
theorem It {c : Cf} {slot : Int} {at_ : List Int} {l : List Int} {i : Int} {o : Oper} {env : ax} {fo xo : Operand} {ats : Array TypeId} (ho : o.op = .call { callee := .value fo, args := #[xo], argTypes := ats }) (hf : aG env fo = some (.yld 6)) (hx : aG env xo = some (iQ i)) (q : cg l.length [i].length 8 = true) :
  eW Tryz.prog o env [.box (bO c), .box [(iQ slot)], .box [(kI at_)], .box [(jI 4 l)], .vec 1 (l.map aC), .defd, .loop false 13 [(2, .ptr 3 0), (4, .zs), (6, .fn 145 [] [.cptr [.slice 1 (c.W.map aC), .int .u64 c.Seed, .int .i64 c.Epoch, .int .i64 c.Num, .int .i64 c.Den], .fptr (.fn 106 [] [.ptr 2 0, .ptr 0 0, .ptr 1 0])])] #[7] u6 u9] (Is (bQ true) [.box (bO c), .box [(iQ slot)], .box [(kI at_)], .box [.vec 1 4 ((l ++ [i]).map aC).length 0 ((l ++ [i]).map aC).length], .vec 1 ((l ++ [i]).map aC), .defd, .loop false 13 [(2, .ptr 3 0), (4, .zs), (6, .fn 145 [] [.cptr [.slice 1 (c.W.map aC), .int .u64 c.Seed, .int .i64 c.Epoch, .int .i64 c.Num, .int .i64 c.Den], .fptr (.fn 106 [] [.ptr 2 0, .ptr 0 0, .ptr 1 0])])] #[7] u6 u9]) := by
 refine eW.yield (env2 := (5, (iQ i)) :: (7, (iQ i)) :: [(2, .ptr 3 0), (4, .zs), (6, .fn 145 [] [.cptr [.slice 1 (c.W.map aC), .int .u64 c.Seed, .int .i64 c.Epoch, .int .i64 c.Num, .int .i64 c.Den], .fptr (.fn 106 [] [.ptr 2 0, .ptr 0 0, .ptr 1 0])])]) (H2 := [.box (bO c), .box [(iQ slot)], .box [(kI at_)], .box [.vec 1 4 ((l ++ [i]).map aC).length 0 ((l ++ [i]).map aC).length], .vec 1 ((l ++ [i]).map aC), .defd, .loop true 13 [(2, .ptr 3 0), (4, .zs), (6, .fn 145 [] [.cptr [.slice 1 (c.W.map aC), .int .u64 c.Seed, .int .i64 c.Epoch, .int .i64 c.Num, .int .i64 c.Den], .fptr (.fn 106 [] [.ptr 2 0, .ptr 0 0, .ptr 1 0])])] #[7] u6 u9]) ho hf hx Z Z (by kernel_rfl) (by kernel_rfl) Z (qT.plain ?_) (qT.plain ?_) Z Z
 ·refine yS Z (za Z Z) ?_;exact zN ⟨rfl, rfl, rfl⟩
 ·refine yS Z (zD Z Z Z gG Z Z) ?_;exact zM Z<|yS Z (lY Z gL Z Z Z Z Z)<|yS Z (ab.appendX aC l [i] rfl Z Z Z kQ.p Z gL q Z)<|yS Z (zs Z Z Z Z gG Z Z Z Z)<|zN<|⟨rfl, rfl⟩
structure dk where
 t8 : Int
 o4 : List Int
def jS (c : Cf) (slot : Int) (at_ : List Int) (x1 : dk) : Option (dk ⊕ dk) :=
 bif decide (x1.t8 < (c.W.length : Int)) then
  (Cx x1.t8 c slot at_).bind fun v2 =>
  bif v2 then
   bif cg x1.o4.length [x1.t8].length 8 then
    some (.inl (dk.mk (IntKind.i64.wrap (x1.t8 + 1)) (x1.o4 ++ [x1.t8])))
   else none
  else
   some (.inl (dk.mk (IntKind.i64.wrap (x1.t8 + 1)) x1.o4))
 else
  some (.inr (dk.mk x1.t8 x1.o4))
def wJ (c : Cf) (slot : Int) (at_ : List Int) (l : List Int) : Option (List Int) :=
 (iter (jS c slot at_) bG (dk.mk 0 l)).bind fun v1 =>
 some v1.o4
theorem E7 {c : Cf} {slot : Int} {at_ : List Int} {l : List Int} {r_ : List Int} (hr : wJ c slot at_ l = some r_) : LC Tryz.prog 145 [.yld 6, .cptr [.slice 1 (c.W.map aC), .int .u64 c.Seed, .int .i64 c.Epoch, .int .i64 c.Num, .int .i64 c.Den], .fptr (.fn 106 [] [.ptr 2 0, .ptr 0 0, .ptr 1 0])] [.box (bO c), .box [(iQ slot)], .box [(kI at_)], .box [(jI 4 l)], .vec 1 (l.map aC), .defd, .loop false 13 [(2, .ptr 3 0), (4, .zs), (6, .fn 145 [] [.cptr [.slice 1 (c.W.map aC), .int .u64 c.Seed, .int .i64 c.Epoch, .int .i64 c.Num, .int .i64 c.Den], .fptr (.fn 106 [] [.ptr 2 0, .ptr 0 0, .ptr 1 0])])] #[7] u6 u9] (Is (.tup []) [.box (bO c), .box [(iQ slot)], .box [(kI at_)], .box [(jI 4 r_)], .vec 1 (r_.map aC), .defd, .loop false 13 [(2, .ptr 3 0), (4, .zs), (6, .fn 145 [] [.cptr [.slice 1 (c.W.map aC), .int .u64 c.Seed, .int .i64 c.Epoch, .int .i64 c.Num, .int .i64 c.Den], .fptr (.fn 106 [] [.ptr 2 0, .ptr 0 0, .ptr 1 0])])] #[7] u6 u9]) := by
 refine dA Tryz.func145 Z Z Z ?_;unfold wJ at hr;refine zQ<|zR<|yS Z (ab.fieldAddrC Z Z gu Z)<|yS Z (dj Z Z Z gG Z Z)<|yS Z (cP Z Z (by kernel_rfl))<|zM Z<|zN<|zT ?_;obtain ⟨v1, hb_v1, ho_v1⟩ := zB hr;clear hr;refine LW.tail (E := []) (O := [.box (bO c), .box [(iQ slot)], .box [(kI at_)], .box [(jI 4 v1.o4)], .vec 1 (v1.o4.map aC), .defd, .loop false 13 [(2, .ptr 3 0), (4, .zs), (6, .fn 145 [] [.cptr [.slice 1 (c.W.map aC), .int .u64 c.Seed, .int .i64 c.Epoch, .int .i64 c.Num, .int .i64 c.Den], .fptr (.fn 106 [] [.ptr 2 0, .ptr 0 0, .ptr 1 0])])] #[7] u6 u9]) ?_<|fun env_v1 H_v1 hw_v1 => ?_
 ·refine LW.block ?_;refine LW.iterB (E := fun x1 : dk => [(0, .yld 6), (2, .fptr (.fn 106 [] [.ptr 2 0, .ptr 0 0, .ptr 1 0])), (7, .p (.int .i64 (c.W.length : Int))), (8, (iQ x1.t8))]) (O := fun x1 => [.box (bO c), .box [(iQ slot)], .box [(kI at_)], .box [(jI 4 x1.o4)], .vec 1 (x1.o4.map aC), .defd, .loop false 13 [(2, .ptr 3 0), (4, .zs), (6, .fn 145 [] [.cptr [.slice 1 (c.W.map aC), .int .u64 c.Seed, .int .i64 c.Epoch, .int .i64 c.Num, .int .i64 c.Den], .fptr (.fn 106 [] [.ptr 2 0, .ptr 0 0, .ptr 1 0])])] #[7] u6 u9]) hb_v1 (zW 7 ⟨rfl, rfl, rfl, rfl, trivial⟩ Z Z Z Z)<|fun x1 z_x1 hr hb_x1 => ?_;unfold jS at hr;refine zQ<|zR<|yS Z (aw Z Z Z Z)<|zN<|zT<|zQ ?_;refine zX Z (fun g1 => ?_)<|fun g1 => ?_
  ·
   refine zi g1 hr fun hr => zk<|zT<|zQ<|zl<|zQ<|zR<|zM Z<|zM Z<|zN<|zT<|zQ<|LW.regionI<|aW.st Z Z Z (eW.of (ab.loadF Z Z rJ) Z)<|aW.st Z Z Z (eW.of (zm Z Z) Z)<|zb hr fun v2 h_v2 hr => aW.st Z Z Z (eW.of (zC Z Z Z (by kernel_rfl) (LC.pre (GZ h_v2) Z Z Z)) Z)<|aW.st Z Z Z (eW.of (zm Z Z) Z) ?_;refine aW.cases 14 Z (fun (g2 : v2 = true) => ?_) (fun (g2 : v2 = false) => ?_)
   ·
    refine zi g2 hr fun hr => aW.gd Z Z Z (gd g2 Z) Z (eW.of (zm Z Z) Z)<|aW.gd Z Z Z (gd g2 Z) Z (eW.of (zm Z Z) Z)<|zg hr fun q1 hr => aW.gd Z Z Z (gd g2 Z) Z (It Z Z Z q1)<|aW.gd Z Z Z (gd g2 Z) Z (eW.of (ab.not Z Z) Z)<|aW.st Z Z Z (eW.of (cS Z (a8 g2 Z) Z) Z)<|aW.nil<|zT<|LW.condF Z<|zk<|ah<|zT<|zR<|yS Z (aw Z Z Z Z)<|zM Z<|zN<|zT ?_;obtain rfl := zJ hr;exact ⟨_, rfl, zW 7 ⟨rfl, rfl, rfl, rfl, trivial⟩ Z Z Z rfl⟩
   ·
    refine zo g2 hr fun hr => aW.sk Z Z Z (gd g2 Z) Z Z<|aW.sk Z Z Z (gd g2 Z) Z Z<|aW.sk Z Z Z (gd g2 Z) Z Z<|aW.sk Z Z Z (gd g2 Z) Z Z<|aW.st Z Z Z (eW.of (bN Z (a8 g2 Z) Z) Z)<|aW.nil<|zT<|LW.condF Z<|zk<|ah<|zT<|zR<|yS Z (aw Z Z Z Z)<|zM Z<|zN<|zT ?_;obtain rfl := zJ hr;exact ⟨_, rfl, zW 7 ⟨rfl, rfl, rfl, rfl, trivial⟩ Z Z Z rfl⟩
  ·
   refine zo g1 hr fun hr => zq<|ao<|ao<|zy<|zT ?_;obtain rfl := zJ hr;have hr := congrArg some (hb_x1 _ rfl);obtain rfl := zJ hr;exact zW 7 trivial Z Z Z Z
 ·have hr := ho_v1;clear hb_v1;obtain rfl := zJ hr;exact fu hw_v1 .none ⟨rfl, rfl⟩
def wI (c : Cf) (slot : Int) (at_ : List Int) : Option (List Int) :=
 (wJ c slot at_ []).bind fun v1 =>
 some v1
theorem E6 {c : Cf} {slot : Int} {at_ : List Int} {r_ : List Int} (hr : wI c slot at_ = some r_) : LC Tryz.prog 144 [.zs, .fn 145 [] [.cptr [.slice 1 (c.W.map aC), .int .u64 c.Seed, .int .i64 c.Epoch, .int .i64 c.Num, .int .i64 c.Den], .fptr (.fn 106 [] [.ptr 2 0, .ptr 0 0, .ptr 1 0])]] [.box (bO c), .box [(iQ slot)], .box [(kI at_)]] (Is (jI 4 r_) [.box (bO c), .box [(iQ slot)], .box [(kI at_)], .box [(jI 4 r_)], .vec 1 (r_.map aC), .dead, .dead]) := by
 refine LC.ofM Tryz.func144 Z Z Z ?_;unfold wI at hr;refine gI.seqW<|zR<|yS Z (b6 Z Z Z Z Z)<|zM Z<|zN<|zT<|gI.seq<|gI.seqW<|zR<|zM Z<|zN<|zT<|gI.ent (bP.lazyCell (i := 3) (j := 0) (m := 1) Z Z Z Z Z Z)<|gI.weak (env' := [(2, .ptr 3 0), (4, .zs), (6, .fn 145 [] [.cptr [.slice 1 (c.W.map aC), .int .u64 c.Seed, .int .i64 c.Epoch, .int .i64 c.Num, .int .i64 c.Den], .fptr (.fn 106 [] [.ptr 2 0, .ptr 0 0, .ptr 1 0])])]) (H' := [.box (bO c), .box [(iQ slot)], .box [(kI at_)], .box [(jI 4 ([] : List Int))], .vec 1 (([] : List Int).map aC)]) (zW 5 ⟨rfl, rfl, rfl, trivial⟩ Z Z Z Z)<|gI.block<|zb hr fun v1 h_v1 hr => gI.rangeFunc Z (by kernel_rfl) Z (E7 h_v1) Z Z Z ?_;refine ⟨rfl, ?_⟩;refine su<|gI.seq<|gI.region<|jF.st Z Z Z (zD Z Z Z gG Z Z) Z<|jF.st Z Z Z (za Z Z) Z<|jF.nil<|su<|gI.ret ?_;obtain rfl := zJ hr;exact ⟨.inr rfl, _, [(4, (jI 4 v1))], [.box (bO c), .box [(iQ slot)], .box [(kI at_)], .box [(jI 4 v1)], .vec 1 (v1.map aC), .dead, .dead], _, rfl, zW 7 ⟨rfl, trivial⟩ Z Z Z rfl, (.one (.tmp Z)), ⟨rfl, rfl⟩⟩
def sM (c : Cf) (slot : Int) (at_ : List Int) : Option (List Int) :=
 (wI c slot at_).bind fun v1 =>
 some v1
theorem E3 {c : Cf} {slot : Int} {at_ : List Int} {r_ : List Int} (hr : sM c slot at_ = some r_) : LC Tryz.prog 104 [.fn 145 [] [.cptr [.slice 1 (c.W.map aC), .int .u64 c.Seed, .int .i64 c.Epoch, .int .i64 c.Num, .int .i64 c.Den], .fptr (.fn 106 [] [.ptr 2 0, .ptr 0 0, .ptr 1 0])]] [.box (bO c), .box [(iQ slot)], .box [(kI at_)]] (Is (jI 4 r_) [.box (bO c), .box [(iQ slot)], .box [(kI at_)], .box [(jI 4 r_)], .vec 1 (r_.map aC), .dead, .dead]) := by
 refine dA Tryz.func104 Z Z Z ?_;unfold sM at hr;refine zQ<|zR<|zM Z<|zN<|zT<|zQ<|zR<|zM Z<|zb hr fun v1 h_v1 hr => yS Z (zC Z Z Z (by kernel_rfl) (E6 h_v1))<|zM Z<|zN<|zT<|zr ?_;obtain rfl := zJ hr;exact ap (.one (.tmp Z))<|⟨rfl, rfl⟩
open Go.Proofs
open Go.Proofs
open Go.Proofs
structure eZ where
 t11 : Int
 o1 : List (Int × Bool)
def mX (l : List Int) (x1 : eZ) : Option (eZ ⊕ eZ) :=
 bif decide (x1.t11 < (l.length : Int)) then
  (ix l x1.t11).bind fun y1 =>
  some (.inl (eZ.mk (IntKind.i64.wrap (x1.t11 + 1)) (aN x1.o1 y1 true)))
 else
  some (.inr (eZ.mk x1.t11 x1.o1))
def FM (c : Cf) (l : List Int) : Option Int :=
 (iter (mX l) bG (eZ.mk 0 ([] : List (Int × Bool)))).bind fun v1 =>
 (wD c v1.o1).bind fun v2 =>
 some v2
theorem JG {c : Cf} {l : List Int} {r_ : Int} (hr : FM c l = some r_) : az Tryz.prog 109 [kT c, .slice 1 (l.map aC)] [.int .i64 r_] := by
 refine zh Tryz.func109 Z Z Z Z ?_;unfold FM at hr;refine zQ<|zR<|yS Z (b6 Z Z Z Z Z)<|zM Z<|zN<|zT<|zQ<|zR<|yS Z (ab.makeMap Z Z Z)<|yS Z (ze Z Iw Z Z)<|yS Z (zs Z Z Z Z Ca Z Z Z Z)<|zN<|zT<|zQ<|zQ<|zR<|zM Z<|yS Z (cP Z Z (by kernel_rfl))<|zM Z<|zN<|zT ?_;obtain ⟨v1, hb_v1, ho_v1⟩ := zB hr;clear hr;refine LW.tail (E := [(2, .ptr 0 0), (4, (iQ 0)), (5, .ptr 2 0)]) (O := [.box (bO c), .map (ai aC (fun v => (bQ v)) v1.o1), .box [.map 1]]) ?_<|fun env_v1 H_v1 hw_v1 => ?_
 ·refine LW.block ?_;refine LW.iterB (E := fun x1 : eZ => [(2, .ptr 0 0), (4, (iQ 0)), (5, .ptr 2 0), (9, (kI l)), (10, .p (.int .i64 (l.length : Int))), (11, (iQ x1.t11))]) (O := fun x1 => [.box (bO c), .map (ai aC (fun v => (bQ v)) x1.o1), .box [.map 1]]) hb_v1 (zW 3 ⟨rfl, rfl, rfl, rfl, rfl, rfl, trivial⟩ Z Z Z (zL Z (zL (ae (fun _ => rfl) _) (zL Z Z))))<|fun x1 z_x1 hr hb_x1 => ?_;unfold mX at hr;refine zQ<|zR<|yS Z (aw Z Z Z Z)<|zN<|zT<|zQ ?_;refine zX Z (fun g1 => ?_)<|fun g1 => ?_
  ·
   refine zi g1 hr fun hr => zk<|zT<|zQ<|zl<|zQ<|zR<|zb hr fun y1 h_y1 hr => yS Z (zx Z Z Z gL h_y1 Z)<|yS Z (dj Z Z Z bl Z Z)<|zM Z<|zN<|zT<|zR<|yS Z (zD Z Z Z Ca Z Z)<|zM Z ?_;refine yS Z (ab.setX (f := aC) (g := (fun v => (bQ v))) y1 true Bt (.inl Z) Z Z Z Z Z Ec Z) ?_;refine zN<|ah<|zT<|zR<|yS Z (aw Z Z Z Z)<|zM Z<|zN<|zT ?_;obtain rfl := zJ hr;exact ⟨_, rfl, zW 3 ⟨rfl, rfl, rfl, rfl, rfl, rfl, trivial⟩ Z Z Z (zL Z (zL (ae (fun _ => rfl) _) (zL Z Z)))⟩
  ·
   refine zo g1 hr fun hr => zq<|ao<|ao<|zy<|zT ?_;obtain rfl := zJ hr;have hr := congrArg some (hb_x1 _ rfl);obtain rfl := zJ hr;exact zW 3 ⟨Z, Z, Z, trivial⟩ Z Z Z<|zL Z<|zL (ae (fun _ => rfl) _)<|zL Z Z
 ·have hr := ho_v1;clear hb_v1;refine zT<|LW.weak hw_v1<|zQ<|LW.draw2 (by kernel_rfl) (by kernel_rfl)<|yE Z (zD Z Z Z ca Z Z)<|yE Z (zD Z Z Z ca Z Z)<|yE Z (ab.makeFunc Z Z Z)<|yE Z (zC Z Z Z (by kernel_rfl) (Gu (c := c)))<|zb hr fun v2 h_v2 hr => yE Z (zC Z Z Z (by kernel_rfl) (E4 h_v2))<|zH Z<|LO.nil<|zT<|zr ?_;obtain rfl := zJ hr;exact zf (.one (.tmp Z)) zv
def Ez (c : Cf) (slot : Int) : Option (List Int) :=
 (xB c slot).bind fun v1 =>
 bif !v1 then
  some []
 else
  bif decide (c.Epoch ≠ 0) then
   (F4 (step c.Seed (IntKind.u64.wrap (IntKind.i64.wrap (slot.tdiv c.Epoch)))) (c.W.length : Int)).bind fun v2 =>
   (sM c slot v2).bind fun v3 =>
   some v3
  else none
theorem Jn {c : Cf} {slot : Int} {r_ : (List Int)} (hr : Ez c slot = some r_) : az Tryz.prog 57 [kT c, .int .i64 slot] [.slice 1 (r_.map aC)] := by
 refine zh Tryz.func57 Z Z Z Z ?_;unfold Ez at hr;refine zQ<|zR<|yS Z (b6 Z Z Z Z Z)<|yS Z (b6 Z Z Z Z Z)<|zM Z<|zN<|zT<|zQ<|zQ<|zR<|yS Z (zD Z Z Z ca Z Z)<|yS Z (zD Z Z Z bl Z Z)<|zb hr fun v1 h_v1 hr => yS Z (zC Z Z Z (by kernel_rfl) (zp (Gr h_v1) (.cons zv (.cons zv .nil))))<|yS Z (ab.not Z Z)<|zN<|zT ?_;refine zX Z (fun g1 => ?_)<|fun g1 => ?_
 ·
  refine zi g1 hr fun hr => zQ<|zR<|zM Z<|zN<|zT<|zr<|af ?_;obtain rfl := zJ hr;exact zf (.one (.tmp Z)) Conv.zs
 ·
  refine zo g1 hr fun hr => zk<|zT<|zQ<|LW.ent (bP.slot Z)<|LW.drawW (by kernel_rfl) (by kernel_rfl) ?_;refine yF (F := []) (s := none) Z (fun H _ => zA Z Z Bp) Z ?_;refine yF Z (zd Z Z Z mO Z Z) Z<|yF Z (zd Z Z Z bl Z Z) Z ?_;refine yF (F := []) (s := none) Z (fun H _ => zA Z Z pM) Z ?_;refine yF Z (zd Z Z Z bl Z Z) Z<|zg hr fun q1 hr => ?_;refine yF (F := []) (s := none) Z (fun H _ => ab.quo Z Z Z (of_decide_eq_true q1)) Z ?_;refine yF (F := []) (s := none) Z (fun H _ => ab.convert (k' := .u64) Z Z (by kernel_rfl)) Z ?_;refine yF (F := []) (s := none) Z (fun H _ => zC Z Z Z (by kernel_rfl) (zp (tw (h := c.Seed) (x := (IntKind.u64.wrap (IntKind.i64.wrap (slot.tdiv c.Epoch))))) (.cons zv (.cons zv .nil)))) Z ?_;refine yF (F := []) (s := none) Z (fun H _ => zA Z Z gu) Z ?_;refine yF Z (zd Z Z Z gG Z Z) Z ?_;refine yF (F := []) (s := none) Z (fun H _ => cP Z Z (by kernel_rfl)) Z ?_;obtain ⟨v2, h_v2, hr⟩ := zB hr;refine yF (F := []) (s := none) Z (fun H _ => zC Z Z Z (by kernel_rfl) (zp (JR h_v2) (.cons zv (.cons zv .nil)))) Z ?_;refine yF Z (bK.alloc Z JB (id := 2) Z) Z<|yF Z (zt Z Z Z Z gG Z Z Z) Z ?_;refine LF.nil ⟨by kernel_rfl, ?_⟩;refine zT<|zQ<|zR<|yS Z (zD Z Z Z ca Z Z)<|yS Z (ab.makeFunc Z Z Z)<|yS Z (zC Z Z Z (by kernel_rfl) (Gu (c := c)))<|zb hr fun v3 h_v3 hr => yS Z (zC Z Z Z (by kernel_rfl) (E3 h_v3))<|zM Z<|zN<|zT<|zr ?_;obtain rfl := zJ hr;exact zf (.one (.tmp Z))<|(Conv.vecAll Z Z Z)
def CT (c : Cf) (slot : Int) : Option Int :=
 (xB c slot).bind fun v1 =>
 bif !v1 then
  some (-1)
 else
  bif decide ((IntKind.u64.wrap ((c.W.length : Int))) ≠ 0) then
   some (IntKind.i64.wrap ((step (step c.Seed 4294967296) (IntKind.u64.wrap (slot))).tmod (IntKind.u64.wrap ((c.W.length : Int)))))
  else none
theorem IE {c : Cf} {slot : Int} {r_ : Int} (hr : CT c slot = some r_) : az Tryz.prog 34 [kT c, .int .i64 slot] [.int .i64 r_] := by
 refine zh Tryz.func34 Z Z Z Z ?_;unfold CT at hr;refine zQ<|zR<|yS Z (b6 Z Z Z Z Z)<|zM Z<|zN<|zT<|zQ<|zQ<|zR<|yS Z (zD Z Z Z ca Z Z)<|zM Z<|zb hr fun v1 h_v1 hr => yS Z (zC Z Z Z (by kernel_rfl) (zp (Gr h_v1) (.cons zv (.cons zv .nil))))<|yS Z (ab.not Z Z)<|zN<|zT ?_;refine zX Z (fun g1 => ?_)<|fun g1 => ?_
 ·
  refine zi g1 hr fun hr => zQ<|zR<|zM Z<|zN<|zT<|zr<|af ?_;obtain rfl := zJ hr;exact zf (.one (.tmp Z)) zv
 ·
  refine zo g1 hr fun hr => zk<|zT<|zQ<|LW.draw2 (by kernel_rfl) (by kernel_rfl)<|yE Z (zA Z Z Bp)<|yE Z (zD Z Z Z mO Z Z)<|yE Z (zC Z Z Z (by kernel_rfl) (zp (tw (h := c.Seed) (x := 4294967296)) (.cons zv (.cons zv .nil))))<|zH Z<|yE Z (ab.convert (k' := .u64) Z Z (by kernel_rfl))<|yE Z (zC Z Z Z (by kernel_rfl) (zp (tw (h := (step c.Seed 4294967296)) (x := (IntKind.u64.wrap (slot)))) (.cons zv (.cons zv .nil))))<|yE Z (zA Z Z gu)<|yE Z (zD Z Z Z gG Z Z)<|yE Z (cP Z Z (by kernel_rfl))<|yE Z (ab.convert (k' := .u64) Z Z (by kernel_rfl))<|zg hr fun q1 hr => yE Z (ab.rem Z Z Z (of_decide_eq_true q1))<|yE Z (ab.convert (k' := .i64) Z Z (by kernel_rfl))<|zH Z<|LO.nil<|zT<|zr ?_;obtain rfl := zJ hr;exact zf (.one (.tmp Z)) zv
def FN (c : Cf) (slot : Int) (who : Int) : Option Bool :=
 (Ez c slot).bind fun v1 =>
 (sN v1 who).bind fun v2 =>
 some v2
theorem JH {c : Cf} {slot : Int} {who : Int} {r_ : Bool} (hr : FN c slot who = some r_) : az Tryz.prog 22 [kT c, .int .i64 slot, .int .i64 who] [.bool r_] := by
 refine zh Tryz.func22 Z Z Z Z ?_;unfold FN at hr;refine zQ<|zR<|yS Z (b6 Z Z Z Z Z)<|zM Z<|zN<|zT<|zQ<|zR<|yS Z (zD Z Z Z ca Z Z)<|zM Z<|zb hr fun v1 h_v1 hr => yS Z (zC Z Z Z (by kernel_rfl) (zp (Jn h_v1) (.cons zv (.cons zv .nil))))<|zM Z<|zb hr fun v2 h_v2 hr => yS Z (zC Z Z Z (by kernel_rfl) (zp (C8 h_v2) (.cons zv (.cons zv .nil))))<|zM Z<|zN<|zT<|zr ?_;obtain rfl := zJ hr;exact zf (.one (.tmp Z)) zv
open Go.Proofs
def xK (x : Int) : Option Bool :=
 some (x != x)
theorem GF {x : Int} {r_ : Bool} (hr : xK x = some r_) : az Tryz.prog 174 [.int .u64 x] [.bool r_] := by
 refine zh Tryz.func174 Z Z Z Z ?_;unfold xK at hr;refine zQ<|zR<|zM Z<|zN<|zT<|zQ<|zR<|zM Z<|zM Z<|yS Z (aw Z Z Z Z)<|zM Z<|zN<|zT<|zr ?_;obtain rfl := zJ hr;exact zf (.one (.tmp Z)) zv
def Ae (x : Int) (y : Int) : Option Int :=
 (xK x).bind fun v1 =>
 (xK y).bind fun v2 =>
 bif v1 then
  bif v2 then
   some 0
  else
   some (-1)
 else
  bif v2 then
   some 1
  else
   bif decide (x < y) then
    some (-1)
   else
    bif decide (x > y) then
     some 1
    else
     some 0
theorem Jc {x : Int} {y : Int} {r_ : Int} (hr : Ae x y = some r_) : az Tryz.prog 159 [.int .u64 x, .int .u64 y] [.int .i64 r_] := by
 refine zh Tryz.func159 Z Z Z Z ?_;unfold Ae at hr;refine zQ<|zR<|zM Z<|zN<|zT<|zQ<|zR<|zM Z<|zb hr fun v1 h_v1 hr => yS Z (zC Z Z Z (by kernel_rfl) (zp (GF h_v1) (.cons zv .nil)))<|zM Z<|zN<|zT<|zQ<|zR<|zM Z<|zb hr fun v2 h_v2 hr => yS Z (zC Z Z Z (by kernel_rfl) (zp (GF h_v2) (.cons zv .nil)))<|zM Z<|zN<|zT<|zQ<|zQ<|zR ?_;refine zM Z<|zN<|zT ?_;refine zX Z (fun g1 => ?_)<|fun g1 => ?_
 ·
  refine zi g1 hr fun hr => zQ<|zQ<|zR<|zM Z<|zN<|zT ?_;refine zX Z (fun g2 => ?_)<|fun g2 => ?_
  ·
   refine zi g2 hr fun hr => zQ<|zR<|zM Z<|zN<|zT<|zr<|af<|af ?_;obtain rfl := zJ hr;exact zf (.one (.tmp Z)) zv
  ·
   refine zo g2 hr fun hr => zk<|zT<|zQ<|zR<|zM Z<|zN<|zT<|zr<|af ?_;obtain rfl := zJ hr;exact zf (.one (.tmp Z)) zv
 ·
  refine zo g1 hr fun hr => zk<|zT<|zQ<|zQ<|zR<|zM Z<|zN<|zT ?_;refine zX Z (fun g3 => ?_)<|fun g3 => ?_
  ·
   refine zi g3 hr fun hr => zQ<|zR<|zM Z<|zN<|zT<|zr<|af ?_;obtain rfl := zJ hr;exact zf (.one (.tmp Z)) zv
  ·
   refine zo g3 hr fun hr => zk<|zT<|zQ<|zQ<|zR<|zM Z<|zM Z<|yS Z (aw Z Z Z Z)<|zN<|zT ?_;refine zX Z (fun g4 => ?_)<|fun g4 => ?_
   ·
    refine zi g4 hr fun hr => zQ<|zR<|zM Z<|zN<|zT<|zr<|af ?_;obtain rfl := zJ hr;exact zf (.one (.tmp Z)) zv
   ·
    refine zo g4 hr fun hr => zk<|zT<|zQ<|zQ<|zR<|zM Z<|zM Z<|yS Z (aw Z Z Z Z)<|zN<|zT ?_;refine zX Z (fun g5 => ?_)<|fun g5 => ?_
    ·
     refine zi g5 hr fun hr => zQ<|zR<|zM Z<|zN<|zT<|zr<|af ?_;obtain rfl := zJ hr;exact zf (.one (.tmp Z)) zv
    ·
     refine zo g5 hr fun hr => zk<|zT<|zQ<|zR<|zM Z<|zN<|zT<|zr ?_;obtain rfl := zJ hr;exact zf (.one (.tmp Z)) zv
structure dO where
 t11 : Int
def gQ (s1 : List Int) (s2 : List Int) (x1 : dO) : Option (dO ⊕ (dO ⊕ Int)) :=
 bif decide (x1.t11 < (s1.length : Int)) then
  (ix s1 x1.t11).bind fun y1 =>
  bif decide (x1.t11 ≥ (s2.length : Int)) then
   some (.inr (.inr 1))
  else
   (ix s2 x1.t11).bind fun y2 =>
   (Ae y1 y2).bind fun v2 =>
   bif v2 != 0 then
    some (.inr (.inr v2))
   else
    some (.inl (dO.mk (IntKind.i64.wrap (x1.t11 + 1))))
 else
  some (.inr (.inl (dO.mk x1.t11)))
def xG (s1 : List Int) (s2 : List Int) : Option Int :=
 (iter (gQ s1 s2) bG (dO.mk 0)).bind fun b_v1 => Sum.elim (fun _ =>
  bif decide ((s1.length : Int) < (s2.length : Int)) then
   some (-1)
  else
   some 0) some b_v1
theorem Gz {s1 : List Int} {s2 : List Int} {r_ : Int} (hr : xG s1 s2 = some r_) : az Tryz.prog 117 [.slice 1 (s1.map km), .slice 1 (s2.map km)] [.int .i64 r_] := by
 refine zh Tryz.func117 Z Z Z Z ?_;unfold xG at hr;refine zQ<|zR<|zM Z<|zN<|zT<|zQ<|zQ<|zR<|zM Z<|yS Z (cP Z Z (by kernel_rfl))<|zM Z<|zN<|zT ?_;obtain ⟨b_v1, hb_v1, ho_v1⟩ := zB hr;clear hr;refine LW.tailB (b := b_v1) (E := fun v1 => [(0, .p (.slice 1 (s1.map km))), (1, .p (.slice 1 (s2.map km))), (4, (iQ 0))]) (O := fun v1 => []) ?_<|fun v1 e_v1 env_v1 H_v1 hw_v1 => ?_
 ·refine LW.block ?_;refine LW.iterB (E := fun x1 : dO => [(0, .p (.slice 1 (s1.map km))), (1, .p (.slice 1 (s2.map km))), (4, (iQ 0)), (9, .p (.slice 1 (s1.map km))), (10, .p (.int .i64 (s1.length : Int))), (11, (iQ x1.t11))]) (O := fun x1 => []) hb_v1 (zW 0 ⟨rfl, rfl, rfl, rfl, rfl, rfl, trivial⟩ Z Z Z Z)<|fun x1 z_x1 hr hb_x1 => ?_;unfold gQ at hr;refine zQ<|zR<|yS Z (aw Z Z Z Z)<|zN<|zT<|zQ ?_;refine zX Z (fun g1 => ?_)<|fun g1 => ?_
  ·
   refine zi g1 hr fun hr => zk<|zT<|zQ<|zl<|zQ<|zR<|zM Z<|zb hr fun y1 h_y1 hr => yS Z (zx Z Z Z DC h_y1 Z)<|yS Z (dj Z Z Z mO Z Z)<|zM Z<|zM Z<|zN<|zT<|zQ<|zQ<|zR<|zM Z<|zM Z<|yS Z (cP Z Z (by kernel_rfl))<|yS Z (aw Z Z Z Z)<|zN<|zT ?_;refine zX Z (fun g2 => ?_)<|fun g2 => ?_
   ·
    refine zi g2 hr fun hr => zQ<|zR<|zM Z<|zN<|zT<|zr<|af<|aq<|af<|af<|aq<|af<|af ?_;obtain rfl := zJ hr;have hr := congrArg some (hb_x1 _ rfl);obtain rfl := zJ hr;have hr := da ho_v1;obtain rfl := zJ hr;exact zf (.one (.tmp Z)) zv
   ·
    refine zo g2 hr fun hr => zk<|zT<|zQ<|zR<|zM Z<|zM Z<|zb hr fun y2 h_y2 hr => yS Z (zx Z Z Z DC h_y2 Z)<|yS Z (dj Z Z Z mO Z Z)<|zM Z<|zN<|zT<|zQ<|zR<|zM Z<|zM Z<|zb hr fun v2 h_v2 hr => yS Z (zC Z Z Z (by kernel_rfl) (zp (Jc h_v2) (.cons zv (.cons zv .nil))))<|zM Z<|zN<|zT<|zQ<|zR ?_;refine zM Z<|yS Z (aw Z Z Z Z)<|zN<|zT ?_;refine zX Z (fun g3 => ?_)<|fun g3 => ?_
    ·
     refine zi g3 hr fun hr => zQ<|zR<|zM Z<|zM Z<|zN<|zT<|zr<|aq<|af<|af<|aq<|af<|af ?_;obtain rfl := zJ hr;have hr := congrArg some (hb_x1 _ rfl);obtain rfl := zJ hr;have hr := da ho_v1;obtain rfl := zJ hr;exact zf (.one (.tmp Z)) zv
    ·
     refine zo g3 hr fun hr => zk<|ah<|zT<|zR<|yS Z (aw Z Z Z Z)<|zM Z<|zN<|zT ?_;obtain rfl := zJ hr;exact ⟨_, rfl, zW 0 ⟨rfl, rfl, rfl, rfl, rfl, rfl, trivial⟩ Z Z Z rfl⟩
  ·
   refine zo g1 hr fun hr => zq<|ao<|ao<|zy<|zT ?_;obtain rfl := zJ hr;have hr := congrArg some (hb_x1 _ rfl);obtain rfl := zJ hr;exact ⟨_, rfl, zW 0 ⟨rfl, rfl, rfl, trivial⟩ Z Z Z rfl⟩
 ·obtain rfl := e_v1;have hr := eG ho_v1;clear hb_v1;refine zT<|LW.weak hw_v1<|zQ<|zQ<|zR<|zM Z<|yS Z (cP Z Z (by kernel_rfl))<|zM Z<|yS Z (cP Z Z (by kernel_rfl))<|yS Z (aw Z Z Z Z)<|zN<|zT ?_;refine zX Z (fun g4 => ?_)<|fun g4 => ?_
  ·
   refine zi g4 hr fun hr => zQ<|zR<|zM Z<|zN<|zT<|zr<|af ?_;obtain rfl := zJ hr;exact zf (.one (.tmp Z)) zv
  ·
   refine zo g4 hr fun hr => zk<|zT<|zQ<|zR<|zM Z<|zN<|zT<|zr ?_;obtain rfl := zJ hr;exact zf (.one (.tmp Z)) zv
def y8 (a : ID) (b : ID) : Option Bool :=
 (xG [a.1, a.2] [b.1, b.2]).bind fun v1 =>
 some (decide (v1 < 0))
theorem IX {a : ID} {b : ID} {r_ : Bool} (hr : y8 a b = some r_) : az Tryz.prog 188 [cv a, cv b] [.bool r_] := by
 refine zh Tryz.func188 Z Z Z Z ?_;unfold y8 at hr;refine zQ<|zR<|yS Z (b6 Z Z Z Z Z)<|yS Z (b6 Z Z Z Z Z)<|zM Z<|zN<|zT<|zQ<|LW.draw2 (by kernel_rfl) (by kernel_rfl)<|yE Z (ab.sliceBox Z Z x4 Z Z Z)<|yE Z (ab.sliceBox Z Z x4 Z Z Z)<|zb hr fun v1 h_v1 hr => yE Z (zC Z Z Z (by kernel_rfl) (LC.lend (Gz h_v1) (.cons (Conv.boxSlice Z Z Z Z) (.cons (Conv.boxSlice Z Z Z Z) .nil)) Z))<|yE Z (aw Z Z Z Z)<|zH Z<|LO.nil<|zT<|zr ?_;obtain rfl := zJ hr;exact zf (.one (.tmp Z)) zv
def y9 (a : Rk) (b : Rk) : Option Bool :=
 bif a.n != b.n then
  some (decide (a.n > b.n))
 else
  bif !((a.n == b.n) && ((a.id.1 == b.id.1) && ((a.id.2 == b.id.2) && true))) then
   (y8 b.id a.id).bind fun v1 =>
   some v1
  else
   some false
theorem IY {a : Rk} {b : Rk} {r_ : Bool} (hr : y9 a b = some r_) : az Tryz.prog 172 [JM a, JM b] [.bool r_] := by
 refine zh Tryz.func172 Z Z Z Z ?_;unfold y9 at hr;refine zQ<|zR<|yS Z (b6 Z Z Z Z Z)<|yS Z (b6 Z Z Z Z Z)<|zM Z<|zN<|zT<|zQ<|zQ<|zR<|yS Z (zA Z Z mi)<|yS Z (zD Z Z Z bl Z Z)<|yS Z (zA Z Z mi)<|yS Z (zD Z Z Z bl Z Z)<|yS Z (aw Z Z Z Z)<|zN<|zT ?_;refine zX Z (fun g1 => ?_)<|fun g1 => ?_
 ·
  refine zi g1 hr fun hr => zQ<|zR<|yS Z (zA Z Z mi)<|yS Z (zD Z Z Z bl Z Z)<|yS Z (zA Z Z mi)<|yS Z (zD Z Z Z bl Z Z)<|yS Z (aw Z Z Z Z)<|zM Z<|zN<|zT<|zr<|af ?_;obtain rfl := zJ hr;exact zf (.one (.tmp Z)) zv
 ·
  refine zo g1 hr fun hr => zk<|zT<|zQ<|zR<|yS Z (zD Z Z Z oa Z Z)<|yS Z (zD Z Z Z oa Z Z)<|yS Z (ab.neqAgg Z Z Z Z Z Fo)<|zM Z ?_;refine zc 18 Z (fun g2 => ?_)<|fun g2 => ?_
  ·
   refine zi g2 hr fun hr => yV Z (gd g2 Z) (zA Z Z sa)<|yV Z (gd g2 Z) (zD Z Z Z aT Z Z)<|yV Z (gd g2 Z) (zA Z Z sa)<|yV Z (gd g2 Z) (zD Z Z Z aT Z Z)<|zb hr fun v1 h_v1 hr => yV Z (gd g2 Z) (zC Z Z Z (by kernel_rfl) (zp (IX h_v1) (.cons zv (.cons zv .nil))))<|yS Z (cS Z (a8 g2 Z) Z)<|zM Z<|zN<|zT<|zr ?_;obtain rfl := zJ hr;exact zf (.one (.tmp Z)) zv
  ·
   refine zo g2 hr fun hr => yU Z (gd g2 Z) Z<|yU Z (gd g2 Z) Z<|yU Z (gd g2 Z) Z<|yU Z (gd g2 Z) Z<|yU Z (gd g2 Z) Z<|yS Z (bN Z (a8 g2 Z) Z)<|zM Z<|zN<|zT<|zr ?_;obtain rfl := zJ hr;exact zf (.one (.tmp Z)) zv
def CN (x : Vt) : Option Int :=
 some x.From
theorem I9 {x : Vt} {r_ : Int} (hr : CN x = some r_) : az Tryz.prog 153 [aD x] [.int .i64 r_] := by
 refine zh Tryz.func153 Z Z Z Z ?_;unfold CN at hr;refine zQ<|zR<|yS Z (b6 Z Z Z Z Z)<|zM Z<|zN<|zT<|zQ<|zR<|yS Z (zA Z Z pO)<|yS Z (zD Z Z Z bl Z Z)<|zM Z<|zN<|zT<|zr ?_;obtain rfl := zJ hr;exact zf (.one (.tmp Z)) zv
open Go.Proofs
def z6 (x : Vt) (_ : Cf) (l : List Bk) (id : ID) (m : List (ID × Bool)) : Option (Bool × (List (ID × Bool))) :=
 bif !((aj m x.Head).isSome) then
  bif few l then
   some (decide (aZ (bd l x.Head) id ≥ 0), aN m x.Head (decide (aZ (bd l x.Head) id ≥ 0)))
  else none
 else
  some ((aj m x.Head).getD false, m)
theorem G7 {x : Vt} {c : Cf} {l : List Bk} {id : ID} {m : List (ID × Bool)} {r_ : Bool × (List (ID × Bool))} (hr : z6 x c l id m = some r_) : LC Tryz.prog 151 [.p (aD x), .ptr 4 0, .ptr 1 0, .ptr 2 0] [.box (bO c), .box [(kB l)], .box [(uQ id.1), (uQ id.2)], .map (ai cv (fun v => (bQ v)) m), .box [.map 3]] (Is (bQ r_.1) [.box (bO c), .box [(kB l)], .box [(uQ id.1), (uQ id.2)], .map (ai cv (fun v => (bQ v)) r_.2), .box [.map 3]]) := by
 refine dA Tryz.func151 Z Z Z ?_;unfold z6 at hr;refine zQ<|zR<|yS Z (b6 Z Z Z Z Z)<|zM Z<|zN<|zT<|zQ<|zR<|yS Z (zD Z Z Z Cc Z Z)<|yS Z (zA Z Z j4)<|yS Z (zD Z Z Z aT Z Z) ?_;refine yS Z (ab.getX (f := cv) (g := (fun v => (bQ v))) x.Head false dw Z Z Z Z xp Iu Z Z) ?_;refine zM Z<|yS Z (ed Z Z Z)<|yS Z (ed Z Z Z)<|zM Z<|zM Z<|zN<|zT<|zQ<|zQ<|zR<|zM Z<|yS Z (ab.not Z Z)<|zN<|zT ?_;refine zX Z (fun g1 => ?_)<|fun g1 => ?_
 ·
  refine zi g1 hr fun hr => zQ<|LW.draw2 (by kernel_rfl) (by kernel_rfl)<|yE Z (zD Z Z Z ch Z Z)<|yE Z (zA Z Z j4)<|yE Z (zD Z Z Z aT Z Z)<|zg hr fun q1 hr => yE Z (zC Z Z Z (by kernel_rfl) (zp (Jk (l := l) (id := x.Head) (vB q1)) (.cons zv (.cons zv .nil))))<|yE Z (zD Z Z Z aT Z Z)<|yE Z (zC Z Z Z (by kernel_rfl) (zp (JZ (l := (bd l x.Head)) (v := id)) (.cons zv (.cons zv .nil))))<|zH Z<|LO.nil<|zT<|zR<|yS Z (zD Z Z Z Cc Z Z)<|yS Z (zA Z Z j4)<|yS Z (zD Z Z Z aT Z Z)<|zM Z ?_;refine yS Z (ab.setX (f := cv) (g := (fun v => (bQ v))) x.Head (decide (aZ (bd l x.Head) id ≥ 0)) dw (.inl Z) Z Z Z Z Z xp Z) ?_;refine zN<|zT<|zQ<|zR<|zM Z<|zM Z<|zN<|zT<|zr ?_;obtain rfl := zJ hr;refine aX (env' := [(5, .p (.bool (decide (aZ (bd l x.Head) id ≥ 0))))]) (H' := [.box (bO c), .box [(kB l)], .box [(uQ id.1), (uQ id.2)], .map (ai cv (fun v => (bQ v)) (aN m x.Head (decide (aZ (bd l x.Head) id ≥ 0)))), .box [.map 3]]) (zW 5 ⟨rfl, trivial⟩ Z Z Z (zL Z (zL Z (zL Z (zL (ae (fun _ => rfl) _) (zL Z Z)))))) (.one (.tmp Z)) ?_;exact ⟨rfl, rfl⟩
 ·
  refine zo g1 hr fun hr => zk<|zT<|zQ<|zR<|zM Z<|zM Z<|zN<|zT<|zr ?_;obtain rfl := zJ hr;refine aX (env' := [(5, .p (.bool ((aj m x.Head).getD false)))]) (H' := [.box (bO c), .box [(kB l)], .box [(uQ id.1), (uQ id.2)], .map (ai cv (fun v => (bQ v)) m), .box [.map 3]]) (zW 5 ⟨rfl, trivial⟩ Z Z Z (zL Z (zL Z (zL Z (zL (ae (fun _ => rfl) _) (zL Z Z)))))) (.one (.tmp Z)) ?_;exact ⟨rfl, rfl⟩
structure gR where
 t12 : Int
 o3 : List (ID × Bool)
 out : List Int
def l6 (v : List Vt) (c : Cf) (l : List Bk) (id : ID) (x1 : gR) : Option (gR ⊕ gR) :=
 bif decide (x1.t12 < (v.length : Int)) then
  (ix v x1.t12).bind fun y1 =>
  (z6 y1 c l id x1.o3).bind fun v2 =>
  bif v2.1 then
   (CN y1).bind fun v3 =>
   bif cg x1.out.length [v3].length 8 then
    some (.inl (gR.mk (IntKind.i64.wrap (x1.t12 + 1)) v2.2 (x1.out ++ [v3])))
   else none
  else
   some (.inl (gR.mk (IntKind.i64.wrap (x1.t12 + 1)) v2.2 x1.out))
 else
  some (.inr (gR.mk x1.t12 x1.o3 x1.out))
def z7 (v : List Vt) (c : Cf) (l : List Bk) (id : ID) (m : List (ID × Bool)) : Option (List Int × List (ID × Bool)) :=
 (iter (l6 v c l id) bG (gR.mk 0 m ([] : List Int))).bind fun v1 =>
 some (v1.out, v1.o3)
theorem G8 {v : List Vt} {c : Cf} {l : List Bk} {id : ID} {m : List (ID × Bool)} {r_ : List Int × List (ID × Bool)} (hr : z7 v c l id m = some r_) : LC Tryz.prog 152 [(kV v), .fn 151 [] [.ptr 4 0, .ptr 1 0, .ptr 2 0], .fn 153 [] []] [.box (bO c), .box [(kB l)], .box [(uQ id.1), (uQ id.2)], .map (ai cv (fun v => (bQ v)) m), .box [.map 3]] (Is (kI r_.1) [.box (bO c), .box [(kB l)], .box [(uQ id.1), (uQ id.2)], .map (ai cv (fun v => (bQ v)) r_.2), .box [.map 3]]) := by
 refine dA Tryz.func152 Z Z Z ?_;unfold z7 at hr;refine zQ<|zR<|zM Z<|zN<|zT<|zQ<|zR<|zM Z<|zN<|zT<|zQ<|zQ<|zR<|zM Z<|yS Z (cP Z Z (by kernel_rfl))<|zM Z<|zN<|zT<|LW.ent (bP.lazy (t := 7) (m := 1) Z Z Z) ?_;obtain ⟨v1, hb_v1, ho_v1⟩ := zB hr;clear hr;refine LW.tail (E := [(6, .zs), (7, (jI 5 v1.out))]) (O := [.box (bO c), .box [(kB l)], .box [(uQ id.1), (uQ id.2)], .map (ai cv (fun v => (bQ v)) v1.o3), .box [.map 3], .vec 1 (v1.out.map aC)]) ?_<|fun env_v1 H_v1 hw_v1 => ?_
 ·refine LW.block ?_;refine LW.iterB (E := fun x1 : gR => [(1, .fn 151 [] [.ptr 4 0, .ptr 1 0, .ptr 2 0]), (2, .fn 153 [] []), (6, .zs), (7, (jI 5 x1.out)), (10, (kV v)), (11, .p (.int .i64 (v.length : Int))), (12, (iQ x1.t12))]) (O := fun x1 => [.box (bO c), .box [(kB l)], .box [(uQ id.1), (uQ id.2)], .map (ai cv (fun v => (bQ v)) x1.o3), .box [.map 3], .vec 1 (x1.out.map aC)]) hb_v1 (zW 6 ⟨rfl, rfl, rfl, rfl, rfl, rfl, rfl, trivial⟩ Z Z Z (zL Z (zL Z (zL Z (zL (ae (fun _ => rfl) _) (zL Z (zL Z Z)))))))<|fun x1 z_x1 hr hb_x1 => ?_;unfold l6 at hr;refine zQ<|zR<|yS Z (aw Z Z Z Z)<|zN<|zT<|zQ ?_;refine zX Z (fun g1 => ?_)<|fun g1 => ?_
  ·
   refine zi g1 hr fun hr => zk<|zT<|zQ<|zl<|zQ<|zR<|zb hr fun y1 h_y1 hr => yS Z (zx Z Z Z cF h_y1 Z)<|yS Z (dj Z Z Z bZ Z Z)<|yS Z (ze Z qK Z Z)<|yS Z (zs Z Z Z Z bZ Z Z Z Z)<|zN<|zT<|zQ<|zR<|zM Z<|yS Z (zD Z Z Z bZ Z Z)<|zb hr fun v2 h_v2 hr => ?_;refine yS Z (zC Z Z Z (by kernel_rfl) (LC.pre (G7 h_v2) Z (zL Z (zL Z (zL Z (zL (ae (fun _ => rfl) _) (zL Z Z))))) Z)) ?_;refine zN<|zT ?_;refine zX Z (fun g2 => ?_)<|fun g2 => ?_
   ·
    refine zi g2 hr fun hr => zR<|zM Z<|zM Z<|yS Z (zD Z Z Z bZ Z Z)<|zb hr fun v3 h_v3 hr => yS Z (zC Z Z Z (by kernel_rfl) (zp (I9 h_v3) (.cons zv .nil)))<|yS Z (lY Z gL Z Z Z Z Z)<|zg hr fun q1 hr => yS Z (ab.appendX aC x1.out [v3] rfl Z Z Z kQ.p Z gL q1 Z)<|zM Z<|zN<|ah<|zT<|zR<|yS Z (aw Z Z Z Z)<|zM Z<|zN<|zT ?_;obtain rfl := zJ hr;exact ⟨_, rfl, zW 6 ⟨rfl, rfl, rfl, rfl, rfl, rfl, rfl, trivial⟩ Z Z Z (zL Z (zL Z (zL Z (zL (ae (fun _ => rfl) _) (zL Z (zL Z Z))))))⟩
   ·
    refine zo g2 hr fun hr => zk<|ah<|zT<|zR<|yS Z (aw Z Z Z Z)<|zM Z<|zN<|zT ?_;obtain rfl := zJ hr;exact ⟨_, rfl, zW 6 ⟨rfl, rfl, rfl, rfl, rfl, rfl, rfl, trivial⟩ Z Z Z (zL Z (zL Z (zL Z (zL (ae (fun _ => rfl) _) (zL Z (zL Z Z))))))⟩
  ·
   refine zo g1 hr fun hr => zq<|ao<|ao<|zy<|zT ?_;obtain rfl := zJ hr;have hr := congrArg some (hb_x1 _ rfl);obtain rfl := zJ hr;exact zW 6 ⟨Z, Z, trivial⟩ Z Z Z<|zL Z<|zL Z<|zL Z<|zL (ae (fun _ => rfl) _)<|zL Z<|zL Z Z
 ·have hr := ho_v1;clear hb_v1;refine zT<|LW.weak hw_v1<|zQ<|zR<|zM Z<|zM Z<|zN<|zT ?_;refine LW.weak (env' := [(6, (jI 5 v1.out))]) (H' := [.box (bO c), .box [(kB l)], .box [(uQ id.1), (uQ id.2)], .map (ai cv (fun v => (bQ v)) v1.o3), .box [.map 3], .vec 1 (v1.out.map aC)]) (zW 6 ⟨rfl, trivial⟩ Z Z Z (zL Z (zL Z (zL Z (zL (ae (fun _ => rfl) _) (zL Z (zL Z Z))))))) ?_;refine LW.ent (bP.frz (t := 6) (env' := []) (H0 := [.box (bO c), .box [(kB l)], .box [(uQ id.1), (uQ id.2)], .map (ai cv (fun v => (bQ v)) v1.o3), .box [.map 3]]) Z Z Z Z Z trivial Z (zL Z (zL Z (zL Z (zL (ae (fun _ => rfl) _) (zL Z Z)))))) ?_;refine LW.ret ?_;obtain rfl := zJ hr;exact ap (.one (.tmp Z))<|⟨rfl, rfl⟩
def xC (c : Cf) (l : List Bk) (v : List Vt) (id : ID) : Option Int :=
 (z7 v c l id []).bind fun v1 =>
 (FM c v1.1).bind fun v2 =>
 some v2
theorem Gv {c : Cf} {l : List Bk} {v : List Vt} {id : ID} {r_ : Int} (hr : xC c l v id = some r_) : az Tryz.prog 112 [kT c, .slice 5 (l.map au), .slice 4 (v.map aD), cv id] [.int .i64 r_] := by
 refine zh Tryz.func112 Z Z Z Z ?_;unfold xC at hr;refine zQ<|zR<|yS Z (b6 Z Z Z Z Z)<|yS Z (b6 Z Z Z Z Z)<|yS Z (b6 Z Z Z Z Z)<|zM Z<|zN<|zT<|zQ<|zR<|yS Z (ab.makeMap Z Z Z)<|yS Z (ze Z Iy Z Z)<|yS Z (zs Z Z Z Z Cc Z Z Z Z)<|zN<|zT<|zQ<|zR<|yS Z (ab.makeFunc Z Z Z)<|zM Z<|zN<|zT<|zQ<|LW.drawW (by kernel_rfl) (by kernel_rfl)<|yF Z (zd Z Z Z ca Z Z) Z ?_;refine zK Z<|zK Z<|zb hr fun v1 h_v1 hr => ?_;refine yF Z (bK.all (s := some (3, .map (ai cv (fun v => (bQ v)) v1.2))) (zC Z Z Z (by kernel_rfl) (G8 h_v1)) Z Z Z) Z ?_;obtain ⟨v2, h_v2, hr⟩ := zB hr;refine yF (F := []) (s := none) Z (fun H _ => zC Z Z Z (by kernel_rfl) (zp (JG h_v2) (.cons zv (.cons zv .nil)))) Z ?_;refine zK Z ?_;refine LF.nil ⟨by kernel_rfl, ?_⟩;refine zT<|zr ?_;obtain rfl := zJ hr;exact zf (.one (.tmp Z)) zv
structure fH where
 t19 : Int
 best : Rk
def oY (c : Cf) (l : List Bk) (v : List Vt) (v1 : (List ID)) (x1 : fH) : Option (fH ⊕ fH) :=
 bif decide (x1.t19 < (v1.length : Int)) then
  (ix v1 x1.t19).bind fun y1 =>
  (xC c l v y1).bind fun v3 =>
  (y9 (Rk.mk v3 y1) x1.best).bind fun v4 =>
  bif v4 then
   some (.inl (fH.mk (IntKind.i64.wrap (x1.t19 + 1)) (Rk.mk v3 y1)))
  else
   some (.inl (fH.mk (IntKind.i64.wrap (x1.t19 + 1)) x1.best))
 else
  some (.inr (fH.mk x1.t19 x1.best))
def F5 (c : Cf) (l : List Bk) (v : List Vt) (id : ID) : Option (ID × Bool) :=
 (F3 l id).bind fun v1 =>
 (iter (oY c l v v1) bG (fH.mk 0 (Rk.mk (-1) (0, 0)))).bind fun v2 =>
 some (v2.best.id, decide (v2.best.n ≥ 0))
theorem JS {c : Cf} {l : List Bk} {v : List Vt} {id : ID} {r_ : ID × Bool} (hr : F5 c l v id = some r_) : az Tryz.prog 154 [kT c, .slice 5 (l.map au), .slice 4 (v.map aD), cv id] [cv r_.1, .bool r_.2] := by
 refine zh Tryz.func154 Z Z Z Z ?_;unfold F5 at hr;refine zQ<|zR<|yS Z (b6 Z Z Z Z Z)<|yS Z (b6 Z Z Z Z Z)<|yS Z (ze Z kp Z Z)<|zM Z<|zN<|zT<|zQ<|zR<|yS Z (ab.build Z DM Z Z Z)<|yS Z (ze Z Et Z Z)<|yS Z (zs Z Z Z Z oa Z Z Z Z)<|zN<|zT<|zQ<|zQ<|zR<|zM Z<|yS Z (zD Z Z Z aT Z Z)<|zb hr fun v1 h_v1 hr => yS Z (zC Z Z Z (by kernel_rfl) (zp (JQ h_v1) (.cons zv (.cons zv .nil))))<|yS Z (cP Z Z (by kernel_rfl))<|zM Z ?_;refine zN<|zT ?_;obtain ⟨v2, hb_v2, ho_v2⟩ := zB hr;clear hr;refine LW.tail (E := [(8, .ptr 2 0), (9, (bQ false)), (10, .ptr 3 0)]) (O := [.box (bO c), .box [(uQ id.1), (uQ id.2)], .box [(uQ 0), (uQ 0)], .box [(iQ v2.best.n), (uQ v2.best.id.1), (uQ v2.best.id.2)]]) ?_<|fun env_v2 H_v2 hw_v2 => ?_
 ·refine LW.block ?_;refine LW.iterB (E := fun x1 : fH => [(1, (kB l)), (2, (kV v)), (4, .ptr 0 0), (8, .ptr 2 0), (9, (bQ false)), (10, .ptr 3 0), (17, .p (.slice 2 (v1.map cv))), (18, .p (.int .i64 (v1.length : Int))), (19, (iQ x1.t19))]) (O := fun x1 => [.box (bO c), .box [(uQ id.1), (uQ id.2)], .box [(uQ 0), (uQ 0)], .box [(iQ x1.best.n), (uQ x1.best.id.1), (uQ x1.best.id.2)]]) hb_v2 (zW 4 ⟨rfl, rfl, rfl, rfl, rfl, rfl, rfl, rfl, rfl, trivial⟩ Z Z Z Z)<|fun x1 z_x1 hr hb_x1 => ?_;unfold oY at hr;refine zQ<|zR<|yS Z (aw Z Z Z Z)<|zN<|zT<|zQ ?_;refine zX Z (fun g1 => ?_)<|fun g1 => ?_
  ·
   refine zi g1 hr fun hr => zk<|zT<|zQ<|zl<|zQ<|zR<|zb hr fun y1 h_y1 hr => yS Z (zx Z Z Z qe h_y1 Z)<|yS Z (dj Z Z Z aT Z Z)<|yS Z (ze Z kp Z Z)<|yS Z (zs Z Z Z Z aT Z Z Z Z)<|zN<|zT<|zQ<|LW.ent (bP.slot Z)<|LW.drawW (by kernel_rfl) (by kernel_rfl)<|yF Z (zd Z Z Z ca Z Z) Z<|zK Z<|zK Z<|yF Z (zd Z Z Z aT Z Z) Z<|zb hr fun v3 h_v3 hr => ?_;refine yF (F := []) (s := none) Z (fun H _ => zC Z Z Z (by kernel_rfl) (zp (Gv h_v3) (.cons zv (.cons zv (.cons zv (.cons zv .nil)))))) Z ?_;refine yF Z (zd Z Z Z aT Z Z) Z ?_;refine yF (F := []) (s := none) Z (fun H _ => ab.build Z DM Z Z Z) Z ?_;refine yF Z (bK.alloc Z Et (id := 5) Z) Z<|yF Z (zt Z Z Z Z oa Z Z Z) Z ?_;refine LF.nil ⟨by kernel_rfl, ?_⟩;refine zT<|zQ<|zR<|yS Z (zD Z Z Z oa Z Z)<|yS Z (zD Z Z Z oa Z Z)<|zb hr fun v4 h_v4 hr => yS Z (zC Z Z Z (by kernel_rfl) (zp (IY h_v4) (.cons zv (.cons zv .nil))))<|zN<|zT ?_;refine zX Z (fun g2 => ?_)<|fun g2 => ?_
   ·
    refine zi g2 hr fun hr => zR<|yS Z (zD Z Z Z oa Z Z)<|yS Z (zs Z Z Z Z oa Z Z Z Z)<|zN<|ah<|zT<|zR<|yS Z (aw Z Z Z Z)<|zM Z<|zN<|zT ?_;obtain rfl := zJ hr;exact ⟨_, rfl, zW 4 ⟨rfl, rfl, rfl, rfl, rfl, rfl, rfl, rfl, rfl, trivial⟩ Z Z Z rfl⟩
   ·
    refine zo g2 hr fun hr => zk<|ah<|zT<|zR<|yS Z (aw Z Z Z Z)<|zM Z<|zN<|zT ?_;obtain rfl := zJ hr;exact ⟨_, rfl, zW 4 ⟨rfl, rfl, rfl, rfl, rfl, rfl, rfl, rfl, rfl, trivial⟩ Z Z Z rfl⟩
  ·
   refine zo g1 hr fun hr => zq<|ao<|ao<|zy<|zT ?_;obtain rfl := zJ hr;have hr := congrArg some (hb_x1 _ rfl);obtain rfl := zJ hr;exact zW 4 ⟨Z, Z, Z, trivial⟩ Z Z Z Z
 ·have hr := ho_v2;clear hb_v2;refine zT<|LW.weak hw_v2<|zQ<|LW.drawW (by kernel_rfl) (by kernel_rfl) ?_;refine yF (F := []) (s := none) Z (fun H _ => zA Z Z sa) Z ?_;refine yF Z (zd Z Z Z aT Z Z) Z ?_;refine yF (F := []) (s := none) Z (fun H _ => zA Z Z mi) Z ?_;refine yF Z (zd Z Z Z bl Z Z) Z ?_;refine yF (F := []) (s := none) Z (fun H _ => aw Z Z Z Z) Z ?_;refine yF Z (zt Z Z Z Z aT Z Z Z) Z<|zK Z ?_;refine LF.nil ⟨by kernel_rfl, ?_⟩;refine zT<|zr ?_;obtain rfl := zJ hr;exact zf (.two (.cellAgg Z Z (by kernel_rfl) Z) (.tmp Z))<|⟨_, rfl, (.cons zv (.cons zv .nil))⟩
structure lp where
 id : ID
def lq (c : Cf) (l : List Bk) (v : List Vt) (x1 : lp) : Option (lp ⊕ lp) :=
 (F5 c l v x1.id).bind fun v2 =>
 bif !v2.2 then
  some (.inr (lp.mk x1.id))
 else
  some (.inl (lp.mk v2.1))
def F6 (c : Cf) (l : List Bk) (v : List Vt) : Option ID :=
 (iter (lq c l v) bG (lp.mk (0, 0))).bind fun v1 =>
 some v1.id
theorem JT {c : Cf} {l : List Bk} {v : List Vt} {r_ : ID} (hr : F6 c l v = some r_) : az Tryz.prog 114 [kT c, .slice 5 (l.map au), .slice 4 (v.map aD)] [cv r_] := by
 refine zh Tryz.func114 Z Z Z Z ?_;unfold F6 at hr;refine zQ<|zR<|yS Z (b6 Z Z Z Z Z)<|yS Z (ze Z kp Z Z)<|zN<|zT<|LW.scope<|zQ<|LW.label<|zT ?_;obtain ⟨v1, hb_v1, ho_v1⟩ := zB hr;clear hr;refine LW.cut (E := [(6, .ptr 1 0)]) (O := [.box (bO c), .box [(uQ v1.id.1), (uQ v1.id.2)]]) ?_ ?_
 ·refine LW.block ?_;refine LW.iterB (E := fun x1 : lp => [(1, (kB l)), (2, (kV v)), (3, .ptr 0 0), (6, .ptr 1 0)]) (O := fun x1 => [.box (bO c), .box [(uQ x1.id.1), (uQ x1.id.2)]]) hb_v1 (zW 2 ⟨rfl, rfl, rfl, rfl, trivial⟩ Z Z Z Z)<|fun x1 z_x1 hr hb_x1 => ?_;unfold lq at hr;refine zl<|zQ<|zR<|yS Z (zD Z Z Z ca Z Z)<|zM Z<|zM Z<|yS Z (zD Z Z Z aT Z Z)<|zb hr fun v2 h_v2 hr => yS Z (zC Z Z Z (by kernel_rfl) (zp (JS h_v2) (.cons zv (.cons zv (.cons zv (.cons zv .nil))))))<|zM Z<|yS Z (ed Z Z Z)<|yS Z (ed Z Z Z)<|yS Z (ze Z kp Z Z)<|yS Z (zs Z Z Z Z aT Z Z Z Z)<|zM Z<|zN<|zT<|zQ<|zQ<|zR<|zM Z<|yS Z (ab.not Z Z)<|zN<|zT ?_;refine zX Z (fun g1 => ?_)<|fun g1 => ?_
  ·
   refine zi g1 hr fun hr => zq<|ao<|nW (by decide)<|ao<|zy<|zT ?_;obtain rfl := zJ hr;have hr := congrArg some (hb_x1 _ rfl);obtain rfl := zJ hr;exact zW 2 ⟨Z, trivial⟩ Z Z Z Z
  ·
   refine zo g1 hr fun hr => zk<|zT<|zR<|yS Z (zD Z Z Z aT Z Z)<|yS Z (zs Z Z Z Z aT Z Z Z Z)<|zN<|ah<|zT ?_;obtain rfl := zJ hr;exact ⟨_, rfl, zW 2 ⟨rfl, rfl, rfl, rfl, trivial⟩ Z Z Z rfl⟩
 ·have hr := ho_v1;clear hb_v1;refine zQ<|zR<|yS Z (zD Z Z Z aT Z Z)<|yS Z (zs Z Z Z Z aT Z Z Z Z)<|zN<|zT<|zr<|BL ?_;obtain rfl := zJ hr;exact zf (.one (.cellAgg Z Z (by kernel_rfl) Z)) zv
open Go.Proofs
theorem tx {α : Type} {f : α → PV} {l : List α} (hb : cg 0 l.length 40 = true) : LC Tryz.prog 128 [.p (.slice 5 (l.map f))] [] (Is (.vec 5 0 (l.map f).length 0 (l.map f).length) [.vec 5 (l.map f)]) := by
 refine dA Tryz.func128 Z Z Z ?_;refine zQ<|zR<|yS Z (za Z Z)<|zN<|zT<|zQ<|zQ<|zR<|yS Z (zm Z Z)<|am.cons Z Z Z (ab.eqNil Z Z Z cR) ?_;rintro _ _ ⟨rfl, b, rfl, hn⟩;refine zN<|zT ?_;refine zX Z (fun g => ?_)<|fun g => ?_
 ·have hl : l = [] := List.map_eq_nil_iff.1 (hn g);subst hl;exact zQ<|zR<|yS Z (za Z Z)<|zN<|zT<|LW.ent (bP.lazy (t := 2) (m := 5) Z Z Z)<|zr<|af<|ap (.one (.tmp Z)) ⟨rfl, rfl⟩
 ·refine LW.skip ?_;exact zT<|zQ<|zR<|yS Z (ab.buildSlice0 Z cR)<|yS Z (zm Z Z)<|yS Z (ab.appendZX f l Z Z Z Z kQ.p Z cR hb Z)<|yS Z (za Z Z)<|zN<|zT<|zr<|ap (.one (.tmp Z)) ⟨rfl, rfl⟩
theorem tz {α : Type} {f : α → PV} {l : List α} (hb : cg 0 l.length 32 = true) : LC Tryz.prog 129 [.p (.slice 4 (l.map f))] [] (Is (.vec 4 0 (l.map f).length 0 (l.map f).length) [.vec 4 (l.map f)]) := by
 refine dA Tryz.func129 Z Z Z ?_;refine zQ<|zR<|yS Z (za Z Z)<|zN<|zT<|zQ<|zQ<|zR<|yS Z (zm Z Z)<|am.cons Z Z Z (ab.eqNil Z Z Z cF) ?_;rintro _ _ ⟨rfl, b, rfl, hn⟩;refine zN<|zT ?_;refine zX Z (fun g => ?_)<|fun g => ?_
 ·have hl : l = [] := List.map_eq_nil_iff.1 (hn g);subst hl;exact zQ<|zR<|yS Z (za Z Z)<|zN<|zT<|LW.ent (bP.lazy (t := 2) (m := 4) Z Z Z)<|zr<|af<|ap (.one (.tmp Z)) ⟨rfl, rfl⟩
 ·refine LW.skip ?_;exact zT<|zQ<|zR<|yS Z (ab.buildSlice0 Z cF)<|yS Z (zm Z Z)<|yS Z (ab.appendZX f l Z Z Z Z kQ.p Z cF hb Z)<|yS Z (za Z Z)<|zN<|zT<|zr<|ap (.one (.tmp Z)) ⟨rfl, rfl⟩
def F7 (c : Cf) (b : Bk) : Option Bool :=
 (CT c b.Slot).bind fun v1 =>
 bif decide (v1 ≥ 0) then
  bif v1 == b.From then
   some (!((((nm b).1) == 0) && ((((nm b).2) == 0) && true)))
  else
   some false
 else
  some false
theorem JU {c : Cf} {b : Bk} {r_ : Bool} (hr : F7 c b = some r_) : az Tryz.prog 133 [kT c, au b] [.bool r_] := by
 refine zh Tryz.func133 Z Z Z Z ?_;unfold F7 at hr;refine zQ<|zR<|yS Z (b6 Z Z Z Z Z)<|yS Z (b6 Z Z Z Z Z)<|zM Z<|zN<|zT<|zQ<|zR<|yS Z (zD Z Z Z ca Z Z)<|yS Z (zA Z Z hZ)<|yS Z (zD Z Z Z bl Z Z)<|zb hr fun v1 h_v1 hr => yS Z (zC Z Z Z (by kernel_rfl) (zp (IE h_v1) (.cons zv (.cons zv .nil))))<|zM Z<|zN<|zT<|zQ<|zR<|zM Z<|yS Z (aw Z Z Z Z)<|zM Z ?_;refine zc 12 Z (fun g1 => ?_)<|fun g1 => ?_
 ·
  refine zi g1 hr fun hr => yV Z (gd g1 Z) (zm Z Z)<|yV Z (gd g1 Z) (zA Z Z vF)<|yV Z (gd g1 Z) (zD Z Z Z bl Z Z)<|yV Z (gd g1 Z) (aw Z Z Z Z)<|yS Z (cS Z (a8 g1 Z) Z)<|zM Z ?_;refine zc 18 Z (fun g2 => ?_)<|fun g2 => ?_
  ·
   refine zi g2 hr fun hr => yV Z (gd g2 Z) (zD Z Z Z bY Z Z)<|yV Z (gd g2 Z) (zC Z Z Z (by kernel_rfl) (zp (EY (b := b)) (.cons zv .nil)))<|yV Z (gd g2 Z) (ab.build Z vq Z Z Z)<|yV Z (gd g2 Z) (ab.neqAgg Z Z Z Z Z tH)<|yS Z (cS Z (a8 g2 Z) Z)<|zM Z<|zN<|zT<|zr ?_;obtain rfl := zJ hr;exact zf (.one (.tmp Z)) zv
  ·
   refine zo g2 hr fun hr => yU Z (gd g2 Z) Z<|yU Z (gd g2 Z) Z<|yU Z (gd g2 Z) Z<|yU Z (gd g2 Z) Z<|yS Z (bN Z (a8 g2 Z) Z)<|zM Z<|zN<|zT<|zr ?_;obtain rfl := zJ hr;exact zf (.one (.tmp Z)) zv
 ·
  refine zo g1 hr fun hr => yU Z (gd g1 Z) Z<|yU Z (gd g1 Z) Z<|yU Z (gd g1 Z) Z<|yU Z (gd g1 Z) Z<|yS Z (bN Z (a8 g1 Z) Z)<|zM Z<|yU Z Z Z<|yU Z Z Z<|yU Z Z Z<|yU Z Z Z<|yS Z (bN Z Z Z)<|zM Z<|zN<|zT<|zr ?_;obtain rfl := zJ hr;exact zf (.one (.tmp Z)) zv
def F8 (c : Cf) (v : Vt) : Option Bool :=
 (FN c v.Slot v.From).bind fun v1 =>
 some v1
theorem JV {c : Cf} {v : Vt} {r_ : Bool} (hr : F8 c v = some r_) : az Tryz.prog 135 [kT c, aD v] [.bool r_] := by
 refine zh Tryz.func135 Z Z Z Z ?_;unfold F8 at hr;refine zQ<|zR<|yS Z (b6 Z Z Z Z Z)<|yS Z (b6 Z Z Z Z Z)<|zM Z<|zN<|zT<|zQ<|zR<|yS Z (zD Z Z Z ca Z Z)<|yS Z (zA Z Z nf)<|yS Z (zD Z Z Z bl Z Z)<|yS Z (zA Z Z pO)<|yS Z (zD Z Z Z bl Z Z)<|zb hr fun v1 h_v1 hr => yS Z (zC Z Z Z (by kernel_rfl) (zp (JH h_v1) (.cons zv (.cons zv (.cons zv .nil)))))<|zM Z<|zN<|zT<|zr ?_;obtain rfl := zJ hr;exact zf (.one (.tmp Z)) zv
structure fg where
 t8 : Int
def kH (s : List Bk) (v : Bk) (x1 : fg) : Option (fg ⊕ (fg ⊕ Int)) :=
 bif decide (x1.t8 < (s.length : Int)) then
  (ix s x1.t8).bind fun y1 =>
  bif ((v.Slot == y1.Slot) && ((v.From == y1.From) && ((v.Parent.1 == y1.Parent.1) && ((v.Parent.2 == y1.Parent.2) && ((v.Salt == y1.Salt) && true))))) then
   some (.inr (.inr x1.t8))
  else
   some (.inl (fg.mk (IntKind.i64.wrap (x1.t8 + 1))))
 else
  some (.inr (.inl (fg.mk x1.t8)))
def CR (s : List Bk) (v : Bk) : Option Int :=
 (iter (kH s v) bG (fg.mk 0)).bind fun b_v1 => Sum.elim (fun _ =>
  some (-1)) some b_v1
theorem Jd {s : List Bk} {v : Bk} {r_ : Int} (hr : CR s v = some r_) : az Tryz.prog 130 [.slice 5 (s.map au), au v] [.int .i64 r_] := by
 refine zh Tryz.func130 Z Z Z Z ?_;unfold CR at hr;refine zQ<|zR<|yS Z (b6 Z Z Z Z Z)<|zM Z<|zN<|zT<|zQ<|zQ<|zR<|zM Z<|yS Z (cP Z Z (by kernel_rfl))<|zM Z<|zN<|zT ?_;obtain ⟨b_v1, hb_v1, ho_v1⟩ := zB hr;clear hr;refine LW.tailB (b := b_v1) (E := fun v1 => [(4, (iQ 0))]) (O := fun v1 => [.box [(iQ v.Slot), (iQ v.From), (uQ v.Parent.1), (uQ v.Parent.2), (uQ v.Salt)]]) ?_<|fun v1 e_v1 env_v1 H_v1 hw_v1 => ?_
 ·refine LW.block ?_;refine LW.iterB (E := fun x1 : fg => [(0, (kB s)), (3, .ptr 0 0), (4, (iQ 0)), (7, .p (.int .i64 (s.length : Int))), (8, (iQ x1.t8))]) (O := fun x1 => [.box [(iQ v.Slot), (iQ v.From), (uQ v.Parent.1), (uQ v.Parent.2), (uQ v.Salt)]]) hb_v1 (zW 1 ⟨rfl, rfl, rfl, rfl, rfl, trivial⟩ Z Z Z Z)<|fun x1 z_x1 hr hb_x1 => ?_;unfold kH at hr;refine zQ<|zR<|yS Z (aw Z Z Z Z)<|zN<|zT<|zQ ?_;refine zX Z (fun g1 => ?_)<|fun g1 => ?_
  ·
   refine zi g1 hr fun hr => zk<|zT<|zQ<|zl<|zQ<|zR<|zM Z<|zM Z<|zN<|zT<|zQ<|LW.draw2 (by kernel_rfl) (by kernel_rfl)<|yE Z (zD Z Z Z bY Z Z)<|zH Z<|zH Z<|zb hr fun y1 h_y1 hr => yE Z (zx Z Z Z cR h_y1 Z)<|yE Z (dj Z Z Z bY Z Z)<|yE Z (ab.eqlAgg Z Z Z Z Z w6)<|LO.nil<|zT ?_;refine zX Z (fun g2 => ?_)<|fun g2 => ?_
   ·
    refine zi g2 hr fun hr => zQ<|zR<|zM Z<|zM Z<|zN<|zT<|zr<|aq<|af<|af<|aq<|af<|af ?_;obtain rfl := zJ hr;have hr := congrArg some (hb_x1 _ rfl);obtain rfl := zJ hr;have hr := da ho_v1;obtain rfl := zJ hr;exact zf (.one (.tmp Z)) zv
   ·
    refine zo g2 hr fun hr => zk<|ah<|zT<|zR<|yS Z (aw Z Z Z Z)<|zM Z<|zN<|zT ?_;obtain rfl := zJ hr;exact ⟨_, rfl, zW 1 ⟨rfl, rfl, rfl, rfl, rfl, trivial⟩ Z Z Z rfl⟩
  ·
   refine zo g1 hr fun hr => zq<|ao<|ao<|zy<|zT ?_;obtain rfl := zJ hr;have hr := congrArg some (hb_x1 _ rfl);obtain rfl := zJ hr;exact ⟨_, rfl, zW 1 ⟨rfl, trivial⟩ Z Z Z rfl⟩
 ·obtain rfl := e_v1;have hr := eG ho_v1;clear hb_v1;refine zT<|LW.weak hw_v1<|zQ<|zR<|zM Z<|zN<|zT<|zr ?_;obtain rfl := zJ hr;exact zf (.one (.tmp Z)) zv
structure fh where
 t8 : Int
def kJ (s : List Vt) (v : Vt) (x1 : fh) : Option (fh ⊕ (fh ⊕ Int)) :=
 bif decide (x1.t8 < (s.length : Int)) then
  (ix s x1.t8).bind fun y1 =>
  bif ((v.From == y1.From) && ((v.Slot == y1.Slot) && ((v.Head.1 == y1.Head.1) && ((v.Head.2 == y1.Head.2) && true)))) then
   some (.inr (.inr x1.t8))
  else
   some (.inl (fh.mk (IntKind.i64.wrap (x1.t8 + 1))))
 else
  some (.inr (.inl (fh.mk x1.t8)))
def CS (s : List Vt) (v : Vt) : Option Int :=
 (iter (kJ s v) bG (fh.mk 0)).bind fun b_v1 => Sum.elim (fun _ =>
  some (-1)) some b_v1
theorem Je {s : List Vt} {v : Vt} {r_ : Int} (hr : CS s v = some r_) : az Tryz.prog 131 [.slice 4 (s.map aD), aD v] [.int .i64 r_] := by
 refine zh Tryz.func131 Z Z Z Z ?_;unfold CS at hr;refine zQ<|zR<|yS Z (b6 Z Z Z Z Z)<|zM Z<|zN<|zT<|zQ<|zQ<|zR<|zM Z<|yS Z (cP Z Z (by kernel_rfl))<|zM Z<|zN<|zT ?_;obtain ⟨b_v1, hb_v1, ho_v1⟩ := zB hr;clear hr;refine LW.tailB (b := b_v1) (E := fun v1 => [(4, (iQ 0))]) (O := fun v1 => [.box [(iQ v.From), (iQ v.Slot), (uQ v.Head.1), (uQ v.Head.2)]]) ?_<|fun v1 e_v1 env_v1 H_v1 hw_v1 => ?_
 ·refine LW.block ?_;refine LW.iterB (E := fun x1 : fh => [(0, (kV s)), (3, .ptr 0 0), (4, (iQ 0)), (7, .p (.int .i64 (s.length : Int))), (8, (iQ x1.t8))]) (O := fun x1 => [.box [(iQ v.From), (iQ v.Slot), (uQ v.Head.1), (uQ v.Head.2)]]) hb_v1 (zW 1 ⟨rfl, rfl, rfl, rfl, rfl, trivial⟩ Z Z Z Z)<|fun x1 z_x1 hr hb_x1 => ?_;unfold kJ at hr;refine zQ<|zR<|yS Z (aw Z Z Z Z)<|zN<|zT<|zQ ?_;refine zX Z (fun g1 => ?_)<|fun g1 => ?_
  ·
   refine zi g1 hr fun hr => zk<|zT<|zQ<|zl<|zQ<|zR<|zM Z<|zM Z<|zN<|zT<|zQ<|LW.draw2 (by kernel_rfl) (by kernel_rfl)<|yE Z (zD Z Z Z bZ Z Z)<|zH Z<|zH Z<|zb hr fun y1 h_y1 hr => yE Z (zx Z Z Z cF h_y1 Z)<|yE Z (dj Z Z Z bZ Z Z)<|yE Z (ab.eqlAgg Z Z Z Z Z Bd)<|LO.nil<|zT ?_;refine zX Z (fun g2 => ?_)<|fun g2 => ?_
   ·
    refine zi g2 hr fun hr => zQ<|zR<|zM Z<|zM Z<|zN<|zT<|zr<|aq<|af<|af<|aq<|af<|af ?_;obtain rfl := zJ hr;have hr := congrArg some (hb_x1 _ rfl);obtain rfl := zJ hr;have hr := da ho_v1;obtain rfl := zJ hr;exact zf (.one (.tmp Z)) zv
   ·
    refine zo g2 hr fun hr => zk<|ah<|zT<|zR<|yS Z (aw Z Z Z Z)<|zM Z<|zN<|zT ?_;obtain rfl := zJ hr;exact ⟨_, rfl, zW 1 ⟨rfl, rfl, rfl, rfl, rfl, trivial⟩ Z Z Z rfl⟩
  ·
   refine zo g1 hr fun hr => zq<|ao<|ao<|zy<|zT ?_;obtain rfl := zJ hr;have hr := congrArg some (hb_x1 _ rfl);obtain rfl := zJ hr;exact ⟨_, rfl, zW 1 ⟨rfl, trivial⟩ Z Z Z rfl⟩
 ·obtain rfl := e_v1;have hr := eG ho_v1;clear hb_v1;refine zT<|LW.weak hw_v1<|zQ<|zR<|zM Z<|zN<|zT<|zr ?_;obtain rfl := zJ hr;exact zf (.one (.tmp Z)) zv
def xI (s : List Bk) (v : Bk) : Option Bool :=
 (CR s v).bind fun v1 =>
 some (decide (v1 ≥ 0))
theorem GA {s : List Bk} {v : Bk} {r_ : Bool} (hr : xI s v = some r_) : az Tryz.prog 90 [.slice 5 (s.map au), au v] [.bool r_] := by
 refine zh Tryz.func90 Z Z Z Z ?_;unfold xI at hr;refine zQ<|zR<|yS Z (b6 Z Z Z Z Z)<|zM Z<|zN<|zT<|zQ<|zR<|zM Z<|yS Z (zD Z Z Z bY Z Z)<|zb hr fun v1 h_v1 hr => yS Z (zC Z Z Z (by kernel_rfl) (zp (Jd h_v1) (.cons zv (.cons zv .nil))))<|yS Z (aw Z Z Z Z)<|zM Z<|zN<|zT<|zr ?_;obtain rfl := zJ hr;exact zf (.one (.tmp Z)) zv
def xJ (s : List Vt) (v : Vt) : Option Bool :=
 (CS s v).bind fun v1 =>
 some (decide (v1 ≥ 0))
theorem GB {s : List Vt} {v : Vt} {r_ : Bool} (hr : xJ s v = some r_) : az Tryz.prog 93 [.slice 4 (s.map aD), aD v] [.bool r_] := by
 refine zh Tryz.func93 Z Z Z Z ?_;unfold xJ at hr;refine zQ<|zR<|yS Z (b6 Z Z Z Z Z)<|zM Z<|zN<|zT<|zQ<|zR<|zM Z<|yS Z (zD Z Z Z bZ Z Z)<|zb hr fun v1 h_v1 hr => yS Z (zC Z Z Z (by kernel_rfl) (zp (Je h_v1) (.cons zv (.cons zv .nil))))<|yS Z (aw Z Z Z Z)<|zM Z<|zN<|zT<|zr ?_;obtain rfl := zJ hr;exact zf (.one (.tmp Z)) zv
structure ei where
 t12 : Int
 out : List Bk
def kx (b : List Bk) (x1 : ei) : Option (ei ⊕ ei) :=
 bif decide (x1.t12 < (b.length : Int)) then
  (ix b x1.t12).bind fun y1 =>
  (xI x1.out y1).bind fun v2 =>
  bif !v2 then
   bif cg x1.out.length [y1].length 40 then
    some (.inl (ei.mk (IntKind.i64.wrap (x1.t12 + 1)) (x1.out ++ [y1])))
   else none
  else
   some (.inl (ei.mk (IntKind.i64.wrap (x1.t12 + 1)) x1.out))
 else
  some (.inr (ei.mk x1.t12 x1.out))
def zU (a : List Bk) (b : List Bk) : Option (List Bk) :=
 bif cg 0 a.length 40 then
  (iter (kx b) bG (ei.mk 0 a)).bind fun v1 =>
  some v1.out
 else none
theorem I0 {a : List Bk} {b : List Bk} {r_ : (List Bk)} (hr : zU a b = some r_) : az Tryz.prog 123 [.slice 5 (a.map au), .slice 5 (b.map au)] [.slice 5 (r_.map au)] := by
 refine zh Tryz.func123 Z Z Z Z ?_;unfold zU at hr;refine zQ<|zR<|zM Z<|zN<|zT<|zQ<|zR<|zM Z<|zg hr fun q1 hr => yS Z (ab.callV (qs := [(kB a)]) Z Z Z (by kernel_rfl) (tx q1) (.consC zv .nil) Z Z)<|zM Z<|zN<|zT<|zQ<|zQ<|zR<|zM Z<|yS Z (cP Z Z (by kernel_rfl))<|zM Z<|zN<|zT ?_;obtain ⟨v1, hb_v1, ho_v1⟩ := zB hr;clear hr;refine LW.tail (E := [(4, .zs), (5, (jB 0 v1.out))]) (O := [.vec 5 (v1.out.map au)]) ?_<|fun env_v1 H_v1 hw_v1 => ?_
 ·refine LW.block ?_;refine LW.iterB (E := fun x1 : ei => [(4, .zs), (5, (jB 0 x1.out)), (10, (kB b)), (11, .p (.int .i64 (b.length : Int))), (12, (iQ x1.t12))]) (O := fun x1 => [.vec 5 (x1.out.map au)]) hb_v1 (zW 1 ⟨rfl, rfl, rfl, rfl, rfl, trivial⟩ Z Z Z Z)<|fun x1 z_x1 hr hb_x1 => ?_;unfold kx at hr;refine zQ<|zR<|yS Z (aw Z Z Z Z)<|zN<|zT<|zQ ?_;refine zX Z (fun g1 => ?_)<|fun g1 => ?_
  ·
   refine zi g1 hr fun hr => zk<|zT<|zQ<|zl<|zQ<|zR<|zb hr fun y1 h_y1 hr => yS Z (zx Z Z Z cR h_y1 Z)<|yS Z (dj Z Z Z bY Z Z)<|yS Z (ze Z qJ Z Z)<|yS Z (zs Z Z Z Z bY Z Z Z Z)<|zN<|zT<|zQ<|zR<|zM Z<|yS Z (zD Z Z Z bY Z Z)<|zb hr fun v2 h_v2 hr => yS Z (zC Z Z Z (by kernel_rfl) (LC.lend (GA h_v2) (.cons (Conv.vecAll Z Z Z) (.cons zv .nil)) Z))<|yS Z (ab.not Z Z)<|zN<|zT ?_;refine zX Z (fun g2 => ?_)<|fun g2 => ?_
   ·
    refine zi g2 hr fun hr => zR<|zM Z<|yS Z (zD Z Z Z bY Z Z)<|yS Z (lY Z cR Z Z Z Z Z)<|zg hr fun q2 hr => yS Z (ab.appendX au x1.out [y1] rfl Z Z Z kQ.p Z cR q2 Z)<|zM Z<|zN<|ah<|zT<|zR<|yS Z (aw Z Z Z Z)<|zM Z<|zN<|zT ?_;obtain rfl := zJ hr;exact ⟨_, rfl, zW 1 ⟨rfl, rfl, rfl, rfl, rfl, trivial⟩ Z Z Z rfl⟩
   ·
    refine zo g2 hr fun hr => zk<|ah<|zT<|zR<|yS Z (aw Z Z Z Z)<|zM Z<|zN<|zT ?_;obtain rfl := zJ hr;exact ⟨_, rfl, zW 1 ⟨rfl, rfl, rfl, rfl, rfl, trivial⟩ Z Z Z rfl⟩
  ·
   refine zo g1 hr fun hr => zq<|ao<|ao<|zy<|zT ?_;obtain rfl := zJ hr;have hr := congrArg some (hb_x1 _ rfl);obtain rfl := zJ hr;exact zW 1 ⟨Z, Z, trivial⟩ Z Z Z Z
 ·have hr := ho_v1;clear hb_v1;refine zT<|LW.weak hw_v1<|zQ<|zR<|zM Z<|zM Z<|zN<|zT<|zr ?_;obtain rfl := zJ hr;exact zf (.one (.tmp Z))<|(Conv.vecAll Z Z Z)
structure ej where
 t12 : Int
 out : List Vt
def ky (b : List Vt) (x1 : ej) : Option (ej ⊕ ej) :=
 bif decide (x1.t12 < (b.length : Int)) then
  (ix b x1.t12).bind fun y1 =>
  (xJ x1.out y1).bind fun v2 =>
  bif !v2 then
   bif cg x1.out.length [y1].length 32 then
    some (.inl (ej.mk (IntKind.i64.wrap (x1.t12 + 1)) (x1.out ++ [y1])))
   else none
  else
   some (.inl (ej.mk (IntKind.i64.wrap (x1.t12 + 1)) x1.out))
 else
  some (.inr (ej.mk x1.t12 x1.out))
def zV (a : List Vt) (b : List Vt) : Option (List Vt) :=
 bif cg 0 a.length 32 then
  (iter (ky b) bG (ej.mk 0 a)).bind fun v1 =>
  some v1.out
 else none
theorem I4 {a : List Vt} {b : List Vt} {r_ : (List Vt)} (hr : zV a b = some r_) : az Tryz.prog 124 [.slice 4 (a.map aD), .slice 4 (b.map aD)] [.slice 4 (r_.map aD)] := by
 refine zh Tryz.func124 Z Z Z Z ?_;unfold zV at hr;refine zQ<|zR<|zM Z<|zN<|zT<|zQ<|zR<|zM Z<|zg hr fun q1 hr => yS Z (ab.callV (qs := [(kV a)]) Z Z Z (by kernel_rfl) (tz q1) (.consC zv .nil) Z Z)<|zM Z<|zN<|zT<|zQ<|zQ<|zR<|zM Z<|yS Z (cP Z Z (by kernel_rfl))<|zM Z<|zN<|zT ?_;obtain ⟨v1, hb_v1, ho_v1⟩ := zB hr;clear hr;refine LW.tail (E := [(4, .zs), (5, (jV 0 v1.out))]) (O := [.vec 4 (v1.out.map aD)]) ?_<|fun env_v1 H_v1 hw_v1 => ?_
 ·refine LW.block ?_;refine LW.iterB (E := fun x1 : ej => [(4, .zs), (5, (jV 0 x1.out)), (10, (kV b)), (11, .p (.int .i64 (b.length : Int))), (12, (iQ x1.t12))]) (O := fun x1 => [.vec 4 (x1.out.map aD)]) hb_v1 (zW 1 ⟨rfl, rfl, rfl, rfl, rfl, trivial⟩ Z Z Z Z)<|fun x1 z_x1 hr hb_x1 => ?_;unfold ky at hr;refine zQ<|zR<|yS Z (aw Z Z Z Z)<|zN<|zT<|zQ ?_;refine zX Z (fun g1 => ?_)<|fun g1 => ?_
  ·
   refine zi g1 hr fun hr => zk<|zT<|zQ<|zl<|zQ<|zR<|zb hr fun y1 h_y1 hr => yS Z (zx Z Z Z cF h_y1 Z)<|yS Z (dj Z Z Z bZ Z Z)<|yS Z (ze Z qK Z Z)<|yS Z (zs Z Z Z Z bZ Z Z Z Z)<|zN<|zT<|zQ<|zR<|zM Z<|yS Z (zD Z Z Z bZ Z Z)<|zb hr fun v2 h_v2 hr => yS Z (zC Z Z Z (by kernel_rfl) (LC.lend (GB h_v2) (.cons (Conv.vecAll Z Z Z) (.cons zv .nil)) Z))<|yS Z (ab.not Z Z)<|zN<|zT ?_;refine zX Z (fun g2 => ?_)<|fun g2 => ?_
   ·
    refine zi g2 hr fun hr => zR<|zM Z<|yS Z (zD Z Z Z bZ Z Z)<|yS Z (lY Z cF Z Z Z Z Z)<|zg hr fun q2 hr => yS Z (ab.appendX aD x1.out [y1] rfl Z Z Z kQ.p Z cF q2 Z)<|zM Z<|zN<|ah<|zT<|zR<|yS Z (aw Z Z Z Z)<|zM Z<|zN<|zT ?_;obtain rfl := zJ hr;exact ⟨_, rfl, zW 1 ⟨rfl, rfl, rfl, rfl, rfl, trivial⟩ Z Z Z rfl⟩
   ·
    refine zo g2 hr fun hr => zk<|ah<|zT<|zR<|yS Z (aw Z Z Z Z)<|zM Z<|zN<|zT ?_;obtain rfl := zJ hr;exact ⟨_, rfl, zW 1 ⟨rfl, rfl, rfl, rfl, rfl, trivial⟩ Z Z Z rfl⟩
  ·
   refine zo g1 hr fun hr => zq<|ao<|ao<|zy<|zT ?_;obtain rfl := zJ hr;have hr := congrArg some (hb_x1 _ rfl);obtain rfl := zJ hr;exact zW 1 ⟨Z, Z, trivial⟩ Z Z Z Z
 ·have hr := ho_v1;clear hb_v1;refine zT<|LW.weak hw_v1<|zQ<|zR<|zM Z<|zM Z<|zN<|zT<|zr ?_;obtain rfl := zJ hr;exact zf (.one (.tmp Z))<|(Conv.vecAll Z Z Z)
def AD (a : Vw) (b : Vw) : Option Vw :=
 (zU a.B b.B).bind fun v1 =>
 (zV a.V b.V).bind fun v2 =>
 some (Vw.mk v1 v2)
theorem E0 {a : Vw} {b : Vw} {r_ : Vw} (hr : AD a b = some r_) : az Tryz.prog 68 [k7 a, k7 b] [k7 r_] := by
 refine zh Tryz.func68 Z Z Z Z ?_;unfold AD at hr;refine zQ<|zR<|yS Z (b6 Z Z Z Z Z)<|yS Z (b6 Z Z Z Z Z)<|yS Z (ze Z fS Z Z)<|zN<|zT<|zQ<|LW.drawLast (m := 11) (by kernel_rfl) (by kernel_rfl) (by kernel_rfl)<|yE Z (zA Z Z aL)<|yE Z (zD Z Z Z ch Z Z)<|yE Z (zA Z Z aL)<|yE Z (zD Z Z Z ch Z Z)<|zb hr fun v1 h_v1 hr => yE Z (zC Z Z Z (by kernel_rfl) (zp (I0 h_v1) (.cons zv (.cons zv .nil))))<|yE Z (zA Z Z a7)<|yE Z (zD Z Z Z dc Z Z)<|yE Z (zA Z Z a7)<|yE Z (zD Z Z Z dc Z Z)<|zb hr fun v2 h_v2 hr => yE Z (zC Z Z Z (by kernel_rfl) (zp (I4 h_v2) (.cons zv (.cons zv .nil))))<|yE Z (ab.build Z ma Z Z Z)<|LO.nil<|yS Z (zs Z Z Z Z aM Z Z Z Z) ?_;refine zN<|zT<|zr ?_;obtain rfl := zJ hr;exact zf (.one (.cellAgg Z Z (by kernel_rfl) Z)) zv
structure ep where
 n : Int
 i : Int
def kG (l : List Vt) (v : Vt) (x1 : ep) : Option (ep ⊕ ep) :=
 bif decide (x1.i < (l.length : Int)) then
  (ix l x1.i).bind fun y1 =>
  bif ((y1.From == v.From) && ((y1.Slot == v.Slot) && ((y1.Head.1 == v.Head.1) && ((y1.Head.2 == v.Head.2) && true)))) then
   some (.inl (ep.mk (IntKind.i64.wrap (x1.n + 1)) (IntKind.i64.wrap (x1.i + 1))))
  else
   some (.inl (ep.mk x1.n (IntKind.i64.wrap (x1.i + 1))))
 else
  some (.inr (ep.mk x1.n x1.i))
def Ad (l : List Vt) (v : Vt) : Option Int :=
 (iter (kG l v) bG (ep.mk 0 0)).bind fun v1 =>
 some v1.n
theorem Ja {l : List Vt} {v : Vt} {r_ : Int} (hr : Ad l v = some r_) : az Tryz.prog 74 [.slice 4 (l.map aD), aD v] [.int .i64 r_] := by
 refine zh Tryz.func74 Z Z Z Z ?_;unfold Ad at hr;refine zQ<|zR<|yS Z (b6 Z Z Z Z Z)<|zM Z<|zN<|zT<|zQ<|zR<|zM Z<|zN<|zT<|zQ<|zQ<|zR<|zM Z<|zN<|zT ?_;obtain ⟨v1, hb_v1, ho_v1⟩ := zB hr;clear hr;refine LW.tail (E := [(4, (iQ 0)), (5, (iQ v1.n))]) (O := [.box [(iQ v.From), (iQ v.Slot), (uQ v.Head.1), (uQ v.Head.2)]]) ?_<|fun env_v1 H_v1 hw_v1 => ?_
 ·refine LW.block ?_;refine LW.iterB (E := fun x1 : ep => [(0, (kV l)), (3, .ptr 0 0), (4, (iQ 0)), (5, (iQ x1.n)), (6, (iQ x1.i))]) (O := fun x1 => [.box [(iQ v.From), (iQ v.Slot), (uQ v.Head.1), (uQ v.Head.2)]]) hb_v1 (zW 1 ⟨rfl, rfl, rfl, rfl, rfl, trivial⟩ Z Z Z Z)<|fun x1 z_x1 hr hb_x1 => ?_;unfold kG at hr;refine zQ<|zQ<|zR<|zM Z<|zM Z<|yS Z (cP Z Z (by kernel_rfl))<|yS Z (aw Z Z Z Z)<|zN<|zT ?_;refine zX Z (fun g1 => ?_)<|fun g1 => ?_
  ·
   refine zi g1 hr fun hr => zk<|zT<|zQ<|zl<|zQ<|LW.draw2 (by kernel_rfl) (by kernel_rfl)<|zH Z<|zH Z<|zb hr fun y1 h_y1 hr => yE Z (zx Z Z Z cF h_y1 Z)<|yE Z (dj Z Z Z bZ Z Z)<|yE Z (zD Z Z Z bZ Z Z)<|yE Z (ab.eqlAgg Z Z Z Z Z Bd)<|LO.nil<|zT ?_;refine zX Z (fun g2 => ?_)<|fun g2 => ?_
   ·
    refine zi g2 hr fun hr => zR<|zM Z<|yS Z (aw Z Z Z Z)<|zM Z<|zN<|ah<|zT<|zR<|zM Z<|yS Z (aw Z Z Z Z)<|zM Z<|zN<|zT ?_;obtain rfl := zJ hr;exact ⟨_, rfl, zW 1 ⟨rfl, rfl, rfl, rfl, rfl, trivial⟩ Z Z Z rfl⟩
   ·
    refine zo g2 hr fun hr => zk<|ah<|zT<|zR<|zM Z<|yS Z (aw Z Z Z Z)<|zM Z<|zN<|zT ?_;obtain rfl := zJ hr;exact ⟨_, rfl, zW 1 ⟨rfl, rfl, rfl, rfl, rfl, trivial⟩ Z Z Z rfl⟩
  ·
   refine zo g1 hr fun hr => zq<|ao<|ao<|zy<|zT ?_;obtain rfl := zJ hr;have hr := congrArg some (hb_x1 _ rfl);obtain rfl := zJ hr;exact zW 1 ⟨Z, Z, trivial⟩ Z Z Z Z
 ·have hr := ho_v1;clear hb_v1;refine zT<|LW.weak hw_v1<|zQ<|zR<|zM Z<|zM Z<|zN<|zT<|zr ?_;obtain rfl := zJ hr;exact zf (.one (.tmp Z)) zv
structure IA where
 i : Int
structure Iz where
 i : Int
structure de where
 i : Int
 o3 : List Bk
structure en where
 there : Bool
 k : Int
structure eo where
 i : Int
 o4 : List Vt
def kA (b : Vw) (x1 : de) (x2 : en) : Option (en ⊕ en) :=
 bif decide (x2.k < (x1.o3.length : Int)) then
  bif x2.there then
   some (.inl (en.mk true (IntKind.i64.wrap (x2.k + 1))))
  else
   (ix x1.o3 x2.k).bind fun y1 =>
   (ix b.B x1.i).bind fun y2 =>
   some (.inl (en.mk ((y1.Slot == y2.Slot) && ((y1.From == y2.From) && ((y1.Parent.1 == y2.Parent.1) && ((y1.Parent.2 == y2.Parent.2) && ((y1.Salt == y2.Salt) && true))))) (IntKind.i64.wrap (x2.k + 1))))
 else
  some (.inr (en.mk x2.there x2.k))
def kz (b : Vw) (x1 : de) : Option (de ⊕ de) :=
 bif decide (x1.i < (b.B.length : Int)) then
  (iter (kA b x1) bG (en.mk false 0)).bind fun v2 =>
  bif !v2.there then
   (ix b.B x1.i).bind fun y3 =>
   bif cg x1.o3.length [y3].length 40 then
    some (.inl (de.mk (IntKind.i64.wrap (x1.i + 1)) (x1.o3 ++ [y3])))
   else none
  else
   some (.inl (de.mk (IntKind.i64.wrap (x1.i + 1)) x1.o3))
 else
  some (.inr (de.mk x1.i x1.o3))
def kC (b : Vw) (x3 : eo) : Option (eo ⊕ eo) :=
 bif decide (x3.i < (b.V.length : Int)) then
  (ix b.V x3.i).bind fun y4 =>
  (Ad x3.o4 y4).bind fun v4 =>
  bif v4 == 0 then
   (ix b.V x3.i).bind fun y5 =>
   bif cg x3.o4.length [y5].length 32 then
    some (.inl (eo.mk (IntKind.i64.wrap (x3.i + 1)) (x3.o4 ++ [y5])))
   else none
  else
   some (.inl (eo.mk (IntKind.i64.wrap (x3.i + 1)) x3.o4))
 else
  some (.inr (eo.mk x3.i x3.o4))
def vd (a : Vw) (b : Vw) : Option Vw :=
 bif cg 0 a.B.length 40 then
  bif cg 0 a.V.length 32 then
   (iter (kz b) bG (de.mk 0 a.B)).bind fun v1 =>
   (iter (kC b) bG (eo.mk 0 a.V)).bind fun v3 =>
   some (Vw.mk v1.o3 v3.o4)
  else none
 else none
theorem EV {a : Vw} {b : Vw} {r_ : Vw} (hr : vd a b = some r_) : az Tryz.prog 39 [k7 a, k7 b] [k7 r_] := by
 refine zh Tryz.func39 Z Z Z Z ?_;unfold vd at hr;refine zQ<|zR<|yS Z (b6 Z Z Z Z Z)<|yS Z (b6 Z Z Z Z Z)<|yS Z (ze Z fS Z Z)<|zN<|zT<|zQ<|LW.ent (bP.slot Z)<|LW.ent (bP.slot Z)<|LW.ent (bP.slot Z)<|LW.drawW (by kernel_rfl) (by kernel_rfl) ?_;refine yF (F := []) (s := none) Z (fun H _ => zA Z Z aL) Z ?_;refine yF Z (zd Z Z Z ch Z Z) Z<|zg hr fun q1 hr => yF Z (bK.appendZX au a.B Z Z (id := 3) Z Z Z cR q1) Z ?_;refine yF (F := []) (s := none) Z (fun H _ => zA Z Z a7) Z ?_;refine yF Z (zd Z Z Z dc Z Z) Z<|zg hr fun q2 hr => yF Z (bK.appendZX aD a.V Z Z (id := 4) Z Z Z cF q2) Z ?_;refine yF (F := []) (s := none) Z (fun H _ => ab.build Z ma Z Z Z) Z ?_;refine yF Z (bK.alloc Z fS (id := 5) Z) Z<|yF Z (zt Z Z Z Z aM Z Z Z) Z ?_;refine LF.nil ⟨by kernel_rfl, ?_⟩;refine zT<|zQ<|zQ<|zR<|zM Z<|zN<|zT ?_;obtain ⟨v1, hb_v1, ho_v1⟩ := zB hr;clear hr;refine LW.tail (E := [(3, .ptr 1 0), (4, .ptr 2 0), (5, .ptr 5 0)]) (O := [.box (cw a), .box (cw b), .box [.zs, .zs], .vec 5 (v1.o3.map au), .vec 4 (a.V.map aD), .box [(jB 3 v1.o3), (jV 4 a.V)]]) ?_<|fun env_v1 H_v1 hw_v1 => ?_
 ·refine LW.block ?_;refine LW.iterB (E := fun x1 : de => [(3, .ptr 1 0), (4, .ptr 2 0), (5, .ptr 5 0), (6, (iQ x1.i))]) (O := fun x1 => [.box (cw a), .box (cw b), .box [.zs, .zs], .vec 5 (x1.o3.map au), .vec 4 (a.V.map aD), .box [(jB 3 x1.o3), (jV 4 a.V)]]) hb_v1 (zW 6 ⟨rfl, rfl, rfl, rfl, trivial⟩ Z Z Z Z)<|fun x1 z_x1 hr hb_x1 => ?_;unfold kz at hr;refine zQ<|zQ<|zR<|zM Z<|yS Z (zA Z Z aL)<|yS Z (zD Z Z Z ch Z Z)<|yS Z (cP Z Z (by kernel_rfl))<|yS Z (aw Z Z Z Z)<|zN<|zT ?_;refine zX Z (fun g1 => ?_)<|fun g1 => ?_
  ·
   refine zi g1 hr fun hr => zk<|zT<|zQ<|zl<|zQ<|zR<|zM Z<|zN<|zT<|zQ<|zQ<|zR<|zM Z<|zN<|zT ?_;obtain ⟨v2, hb_v2, ho_v2⟩ := zB hr;clear hr;refine LW.tail (E := [(3, .ptr 1 0), (4, .ptr 2 0), (5, .ptr 5 0), (6, (iQ x1.i)), (7, (bQ v2.there))]) (O := [.box (cw a), .box (cw b), .box [.zs, .zs], .vec 5 (x1.o3.map au), .vec 4 (a.V.map aD), .box [(jB 3 x1.o3), (jV 4 a.V)]]) ?_<|fun env_v2 H_v2 hw_v2 => ?_
   ·refine LW.block ?_;refine LW.iterB (E := fun x2 : en => [(3, .ptr 1 0), (4, .ptr 2 0), (5, .ptr 5 0), (6, (iQ x1.i)), (7, (bQ x2.there)), (8, (iQ x2.k))]) (O := fun x2 => [.box (cw a), .box (cw b), .box [.zs, .zs], .vec 5 (x1.o3.map au), .vec 4 (a.V.map aD), .box [(jB 3 x1.o3), (jV 4 a.V)]]) hb_v2 (zW 6 ⟨rfl, rfl, rfl, rfl, rfl, rfl, trivial⟩ Z Z Z Z)<|fun x2 z_x2 hr hb_x2 => ?_;unfold kA at hr;refine zQ<|zQ<|zR<|zM Z<|yS Z (zA Z Z aL)<|yS Z (zD Z Z Z ch Z Z)<|yS Z (ab.lenVM Z Z Z (by kernel_rfl))<|yS Z (aw Z Z Z Z)<|zN<|zT ?_;refine zX Z (fun g2 => ?_)<|fun g2 => ?_
    ·
     refine zi g2 hr fun hr => zk<|zT<|zQ<|zl<|LW.draw2 (by kernel_rfl) (by kernel_rfl)<|zH Z<|zH Z ?_;refine LO.cases 32 Z (fun (g3 : x2.there = true) => ?_) (fun (g3 : x2.there = false) => ?_)
     ·
      refine zi g3 hr fun hr => LO.sk Z Z Z (gd g3 Z) Z Z<|LO.sk Z Z Z (gd g3 Z) Z Z<|LO.sk Z Z Z (gd g3 Z) Z Z<|LO.sk Z Z Z (gd g3 Z) Z Z<|LO.sk Z Z Z (gd g3 Z) Z Z<|LO.sk Z Z Z (gd g3 Z) Z Z<|LO.sk Z Z Z (gd g3 Z) Z Z<|LO.sk Z Z Z (gd g3 Z) Z Z<|LO.sk Z Z Z (gd g3 Z) Z Z<|LO.sk Z Z Z (gd g3 Z) Z Z<|LO.sk Z Z Z (gd g3 Z) Z Z<|yE Z (cS Z (a8 g3 Z) Z)<|zH Z<|LO.nil<|ah<|zT<|zR<|zM Z<|yS Z (aw Z Z Z Z)<|zM Z<|zN<|zT ?_;obtain rfl := zJ hr;exact ⟨_, rfl, zW 6 ⟨rfl, rfl, rfl, rfl, rfl, rfl, trivial⟩ Z Z Z rfl⟩
     ·
      refine zo g3 hr fun hr => LO.gd Z Z Z (gd g3 Z) Z (zA Z Z aL)<|LO.gd Z Z Z (gd g3 Z) Z (zD Z Z Z ch Z Z)<|LO.gd Z Z Z (gd g3 Z) Z (zm Z Z)<|zb hr fun y1 h_y1 hr => LO.gd Z Z Z (gd g3 Z) Z (ab.indexAddrVX Z Z Z Z cR h_y1)<|LO.gd Z Z Z (gd g3 Z) Z (ab.loadVX Z Z Z bY h_y1 Z Z Z Z)<|LO.gd Z Z Z (gd g3 Z) Z (zA Z Z aL)<|LO.gd Z Z Z (gd g3 Z) Z (zD Z Z Z ch Z Z)<|LO.gd Z Z Z (gd g3 Z) Z (zm Z Z)<|zb hr fun y2 h_y2 hr => LO.gd Z Z Z (gd g3 Z) Z (zx Z Z Z cR h_y2 Z)<|LO.gd Z Z Z (gd g3 Z) Z (dj Z Z Z bY Z Z)<|LO.gd Z Z Z (gd g3 Z) Z (ab.eqlAgg Z Z Z Z Z w6)<|yE Z (bN Z (a8 g3 Z) Z)<|zH Z<|LO.nil<|ah<|zT<|zR<|zM Z<|yS Z (aw Z Z Z Z)<|zM Z<|zN ?_;refine zT ?_;obtain rfl := zJ hr;exact ⟨_, rfl, zW 6 ⟨rfl, rfl, rfl, rfl, rfl, rfl, trivial⟩ Z Z Z rfl⟩
    ·
     refine zo g2 hr fun hr => zq<|ao<|ao<|zy<|zT ?_;obtain rfl := zJ hr;have hr := congrArg some (hb_x2 _ rfl);obtain rfl := zJ hr;exact zW 6 ⟨Z, Z, Z, Z, Z, trivial⟩ Z Z Z Z
   ·have hr := ho_v2;clear hb_v2;refine zT<|LW.weak hw_v2<|zQ<|zR<|zM Z<|yS Z (ab.not Z Z)<|zN<|zT ?_;refine zX Z (fun g4 => ?_)<|fun g4 => ?_
    ·
     refine zi g4 hr fun hr => LW.drawW (by kernel_rfl) (by kernel_rfl) ?_;refine yF (F := []) (s := none) Z (fun H _ => zA Z Z aL) Z ?_;refine yF Z (zd Z Z Z ch Z Z) Z ?_;refine yF (F := []) (s := none) Z (fun H _ => zA Z Z aL) Z ?_;refine yF Z (zd Z Z Z ch Z Z) Z<|zK Z<|zb hr fun y3 h_y3 hr => ?_;refine yF (F := []) (s := none) Z (fun H _ => zx Z Z Z cR h_y3 Z) Z ?_;refine yF (F := []) (s := none) Z (fun H _ => dj Z Z Z bY Z Z) Z ?_;refine yF (F := []) (s := none) Z (fun H _ => lY Z cR Z Z Z Z Z) Z ?_;refine zg hr fun q3 hr => yF Z (bK.appendX au x1.o3 [y3] rfl Z Z Z Z cR q3) Z ?_;refine yF (F := []) (s := none) Z (fun H _ => zA Z Z aL) Z ?_;refine yF Z (zt Z Z Z Z ch Z Z Z) Z ?_;refine LF.nil ⟨by kernel_rfl, ?_⟩;refine ah<|zT<|zR<|zM Z<|yS Z (aw Z Z Z Z)<|zM Z<|zN<|zT ?_;obtain rfl := zJ hr;exact ⟨_, rfl, zW 6 ⟨rfl, rfl, rfl, rfl, trivial⟩ Z Z Z rfl⟩
    ·
     refine zo g4 hr fun hr => zk<|ah<|zT<|zR<|zM Z<|yS Z (aw Z Z Z Z)<|zM Z<|zN<|zT ?_;obtain rfl := zJ hr;exact ⟨_, rfl, zW 6 ⟨rfl, rfl, rfl, rfl, trivial⟩ Z Z Z rfl⟩
  ·
   refine zo g1 hr fun hr => zq<|ao<|ao<|zy<|zT ?_;obtain rfl := zJ hr;have hr := congrArg some (hb_x1 _ rfl);obtain rfl := zJ hr;exact zW 6 ⟨Z, Z, Z, trivial⟩ Z Z Z Z
 ·have hr := ho_v1;clear hb_v1;refine zT<|LW.weak hw_v1<|zQ<|zQ<|zR<|zM Z<|zN<|zT ?_;obtain ⟨v3, hb_v3, ho_v3⟩ := zB hr;clear hr;refine LW.tail (E := [(4, .ptr 2 0), (5, .ptr 5 0)]) (O := [.box (cw a), .box (cw b), .box [.zs, .zs], .vec 5 (v1.o3.map au), .vec 4 (v3.o4.map aD), .box [(jB 3 v1.o3), (jV 4 v3.o4)]]) ?_<|fun env_v3 H_v3 hw_v3 => ?_
  ·refine LW.block ?_;refine LW.iterB (E := fun x3 : eo => [(3, .ptr 1 0), (4, .ptr 2 0), (5, .ptr 5 0), (9, (iQ x3.i))]) (O := fun x3 => [.box (cw a), .box (cw b), .box [.zs, .zs], .vec 5 (v1.o3.map au), .vec 4 (x3.o4.map aD), .box [(jB 3 v1.o3), (jV 4 x3.o4)]]) hb_v3 (zW 6 ⟨rfl, rfl, rfl, rfl, trivial⟩ Z Z Z Z)<|fun x3 z_x3 hr hb_x3 => ?_;unfold kC at hr;refine zQ<|zQ<|zR<|zM Z<|yS Z (zA Z Z a7)<|yS Z (zD Z Z Z dc Z Z)<|yS Z (cP Z Z (by kernel_rfl))<|yS Z (aw Z Z Z Z)<|zN<|zT ?_;refine zX Z (fun g5 => ?_)<|fun g5 => ?_
   ·
    refine zi g5 hr fun hr => zk<|zT<|zQ<|zl<|zQ<|LW.draw2 (by kernel_rfl) (by kernel_rfl)<|yE Z (zA Z Z a7)<|yE Z (zD Z Z Z dc Z Z)<|yE Z (zA Z Z a7)<|yE Z (zD Z Z Z dc Z Z)<|zH Z<|zb hr fun y4 h_y4 hr => yE Z (zx Z Z Z cF h_y4 Z)<|yE Z (dj Z Z Z bZ Z Z)<|zb hr fun v4 h_v4 hr => yE Z (zC Z Z Z (by kernel_rfl) (LC.lend (Ja h_v4) (.cons (Conv.vecAll Z Z Z) (.cons zv .nil)) Z))<|yE Z (aw Z Z Z Z)<|LO.nil<|zT ?_;refine zX Z (fun g6 => ?_)<|fun g6 => ?_
    ·
     refine zi g6 hr fun hr => LW.drawW (by kernel_rfl) (by kernel_rfl) ?_;refine yF (F := []) (s := none) Z (fun H _ => zA Z Z a7) Z ?_;refine yF Z (zd Z Z Z dc Z Z) Z ?_;refine yF (F := []) (s := none) Z (fun H _ => zA Z Z a7) Z ?_;refine yF Z (zd Z Z Z dc Z Z) Z<|zK Z<|zb hr fun y5 h_y5 hr => ?_;refine yF (F := []) (s := none) Z (fun H _ => zx Z Z Z cF h_y5 Z) Z ?_;refine yF (F := []) (s := none) Z (fun H _ => dj Z Z Z bZ Z Z) Z ?_;refine yF (F := []) (s := none) Z (fun H _ => lY Z cF Z Z Z Z Z) Z ?_;refine zg hr fun q4 hr => yF Z (bK.appendX aD x3.o4 [y5] rfl Z Z Z Z cF q4) Z ?_;refine yF (F := []) (s := none) Z (fun H _ => zA Z Z a7) Z ?_;refine yF Z (zt Z Z Z Z dc Z Z Z) Z ?_;refine LF.nil ⟨by kernel_rfl, ?_⟩;refine ah<|zT<|zR<|zM Z<|yS Z (aw Z Z Z Z)<|zM Z<|zN<|zT ?_;obtain rfl := zJ hr;exact ⟨_, rfl, zW 6 ⟨rfl, rfl, rfl, rfl, trivial⟩ Z Z Z rfl⟩
    ·
     refine zo g6 hr fun hr => zk<|ah<|zT<|zR<|zM Z<|yS Z (aw Z Z Z Z)<|zM Z<|zN<|zT ?_;obtain rfl := zJ hr;exact ⟨_, rfl, zW 6 ⟨rfl, rfl, rfl, rfl, trivial⟩ Z Z Z rfl⟩
   ·
    refine zo g5 hr fun hr => zq<|ao<|ao<|zy<|zT ?_;obtain rfl := zJ hr;have hr := congrArg some (hb_x3 _ rfl);obtain rfl := zJ hr;exact zW 6 ⟨Z, Z, trivial⟩ Z Z Z Z
  ·have hr := ho_v3;clear hb_v3;refine zT<|LW.weak hw_v3<|zQ<|zR<|yS Z (zD Z Z Z aM Z Z)<|yS Z (zs Z Z Z Z aM Z Z Z Z)<|zN<|zT<|zr ?_;obtain rfl := zJ hr;exact zf (.one (.cellAgg Z Z (by kernel_rfl) Z))<|(Conv.agg (.cons (Conv.vecAll Z Z Z) (.cons (Conv.vecAll Z Z Z) .nil)))
def Ew : Option Cf :=
 some (Cf.mk [1] 0 1 1 4)
theorem IZ {r_ : Cf} (hr : Ew = some r_) : az Tryz.prog 45 [] [kT r_] := by
 refine zh Tryz.func45 Z Z Z Z ?_;unfold Ew at hr;refine zQ<|zR<|yS Z (ze Z JC Z Z)<|zN<|zT<|zQ<|zR<|yS Z (lY Z gL Z Z Z Z Z)<|yS Z (ab.build Z IR Z Z Z)<|yS Z (zs Z Z Z Z ca Z Z Z Z)<|zN<|zT<|zr ?_;obtain rfl := zJ hr;exact zf (.one (.cellAgg Z Z (by kernel_rfl) Z)) zv
open Go.Proofs
structure eg where
 t12 : Int
 out : List Bk
def kq (c : Cf) (l : List Bk) (x1 : eg) : Option (eg ⊕ eg) :=
 bif decide (x1.t12 < (l.length : Int)) then
  (ix l x1.t12).bind fun y1 =>
  (F7 c y1).bind fun v2 =>
  bif v2 then
   bif cg x1.out.length [y1].length 40 then
    some (.inl (eg.mk (IntKind.i64.wrap (x1.t12 + 1)) (x1.out ++ [y1])))
   else none
  else
   some (.inl (eg.mk (IntKind.i64.wrap (x1.t12 + 1)) x1.out))
 else
  some (.inr (eg.mk x1.t12 x1.out))
def xD (c : Cf) (l : List Bk) : Option (List Bk) :=
 (iter (kq c l) bG (eg.mk 0 ([] : List Bk))).bind fun v1 =>
 some v1.out
theorem DZ {c : Cf} {l : List Bk} {r_ : List Bk} (hr : xD c l = some r_) : LC Tryz.prog 132 [.p (kT c), (kB l), .fn 133 [] []] [] (Is (jB 0 r_) [.vec 5 (r_.map au)]) := by
 refine dA Tryz.func132 Z Z Z ?_;unfold xD at hr;refine zQ<|zR<|yS Z (b6 Z Z Z Z Z)<|zM Z<|zN<|zT<|zQ<|zR<|zM Z<|zN<|zT<|zQ<|zQ<|zR<|zM Z<|yS Z (cP Z Z (by kernel_rfl))<|zM Z<|zN<|zT<|LW.ent (bP.lazy (t := 7) (m := 5) Z Z Z) ?_;obtain ⟨v1, hb_v1, ho_v1⟩ := zB hr;clear hr;refine LW.tail (E := [(6, .zs), (7, (jB 1 v1.out))]) (O := [.box (bO c), .vec 5 (v1.out.map au)]) ?_<|fun env_v1 H_v1 hw_v1 => ?_
 ·refine LW.block ?_;refine LW.iterB (E := fun x1 : eg => [(2, .fn 133 [] []), (3, .ptr 0 0), (6, .zs), (7, (jB 1 x1.out)), (10, (kB l)), (11, .p (.int .i64 (l.length : Int))), (12, (iQ x1.t12))]) (O := fun x1 => [.box (bO c), .vec 5 (x1.out.map au)]) hb_v1 (zW 2 ⟨rfl, rfl, rfl, rfl, rfl, rfl, rfl, trivial⟩ Z Z Z Z)<|fun x1 z_x1 hr hb_x1 => ?_;unfold kq at hr;refine zQ<|zR<|yS Z (aw Z Z Z Z)<|zN<|zT<|zQ ?_;refine zX Z (fun g1 => ?_)<|fun g1 => ?_
  ·
   refine zi g1 hr fun hr => zk<|zT<|zQ<|zl<|zQ<|zR<|zb hr fun y1 h_y1 hr => yS Z (zx Z Z Z cR h_y1 Z)<|yS Z (dj Z Z Z bY Z Z)<|yS Z (ze Z qJ Z Z)<|yS Z (zs Z Z Z Z bY Z Z Z Z)<|zN<|zT<|zQ<|zR<|zM Z<|yS Z (zD Z Z Z ca Z Z)<|yS Z (zD Z Z Z bY Z Z)<|zb hr fun v2 h_v2 hr => yS Z (zC Z Z Z (by kernel_rfl) (zp (JU h_v2) (.cons zv (.cons zv .nil))))<|zN<|zT ?_;refine zX Z (fun g2 => ?_)<|fun g2 => ?_
   ·
    refine zi g2 hr fun hr => zR<|zM Z<|yS Z (zD Z Z Z bY Z Z)<|yS Z (lY Z cR Z Z Z Z Z)<|zg hr fun q1 hr => yS Z (ab.appendX au x1.out [y1] rfl Z Z Z kQ.p Z cR q1 Z)<|zM Z<|zN<|ah<|zT<|zR<|yS Z (aw Z Z Z Z)<|zM Z<|zN<|zT ?_;obtain rfl := zJ hr;exact ⟨_, rfl, zW 2 ⟨rfl, rfl, rfl, rfl, rfl, rfl, rfl, trivial⟩ Z Z Z rfl⟩
   ·
    refine zo g2 hr fun hr => zk<|ah<|zT<|zR<|yS Z (aw Z Z Z Z)<|zM Z<|zN<|zT ?_;obtain rfl := zJ hr;exact ⟨_, rfl, zW 2 ⟨rfl, rfl, rfl, rfl, rfl, rfl, rfl, trivial⟩ Z Z Z rfl⟩
  ·
   refine zo g1 hr fun hr => zq<|ao<|ao<|zy<|zT ?_;obtain rfl := zJ hr;have hr := congrArg some (hb_x1 _ rfl);obtain rfl := zJ hr;exact zW 2 ⟨Z, Z, trivial⟩ Z Z Z Z
 ·have hr := ho_v1;clear hb_v1;refine zT<|LW.weak hw_v1<|zQ<|LW.ent (bP.last (t := 7) (j := 0) (Hj := []) Z Z Z Z Z Z Z)<|zR<|zM Z<|zM Z<|zN<|zT<|zr ?_;obtain rfl := zJ hr;exact ap (.one (.tmp Z))<|⟨rfl, rfl⟩
structure eh where
 t12 : Int
 out : List Vt
def kr (c : Cf) (l : List Vt) (x1 : eh) : Option (eh ⊕ eh) :=
 bif decide (x1.t12 < (l.length : Int)) then
  (ix l x1.t12).bind fun y1 =>
  (F8 c y1).bind fun v2 =>
  bif v2 then
   bif cg x1.out.length [y1].length 32 then
    some (.inl (eh.mk (IntKind.i64.wrap (x1.t12 + 1)) (x1.out ++ [y1])))
   else none
  else
   some (.inl (eh.mk (IntKind.i64.wrap (x1.t12 + 1)) x1.out))
 else
  some (.inr (eh.mk x1.t12 x1.out))
def xE (c : Cf) (l : List Vt) : Option (List Vt) :=
 (iter (kr c l) bG (eh.mk 0 ([] : List Vt))).bind fun v1 =>
 some v1.out
theorem D0 {c : Cf} {l : List Vt} {r_ : List Vt} (hr : xE c l = some r_) : LC Tryz.prog 134 [.p (kT c), (kV l), .fn 135 [] []] [] (Is (jV 0 r_) [.vec 4 (r_.map aD)]) := by
 refine dA Tryz.func134 Z Z Z ?_;unfold xE at hr;refine zQ<|zR<|yS Z (b6 Z Z Z Z Z)<|zM Z<|zN<|zT<|zQ<|zR<|zM Z<|zN<|zT<|zQ<|zQ<|zR<|zM Z<|yS Z (cP Z Z (by kernel_rfl))<|zM Z<|zN<|zT<|LW.ent (bP.lazy (t := 7) (m := 4) Z Z Z) ?_;obtain ⟨v1, hb_v1, ho_v1⟩ := zB hr;clear hr;refine LW.tail (E := [(6, .zs), (7, (jV 1 v1.out))]) (O := [.box (bO c), .vec 4 (v1.out.map aD)]) ?_<|fun env_v1 H_v1 hw_v1 => ?_
 ·refine LW.block ?_;refine LW.iterB (E := fun x1 : eh => [(2, .fn 135 [] []), (3, .ptr 0 0), (6, .zs), (7, (jV 1 x1.out)), (10, (kV l)), (11, .p (.int .i64 (l.length : Int))), (12, (iQ x1.t12))]) (O := fun x1 => [.box (bO c), .vec 4 (x1.out.map aD)]) hb_v1 (zW 2 ⟨rfl, rfl, rfl, rfl, rfl, rfl, rfl, trivial⟩ Z Z Z Z)<|fun x1 z_x1 hr hb_x1 => ?_;unfold kr at hr;refine zQ<|zR<|yS Z (aw Z Z Z Z)<|zN<|zT<|zQ ?_;refine zX Z (fun g1 => ?_)<|fun g1 => ?_
  ·
   refine zi g1 hr fun hr => zk<|zT<|zQ<|zl<|zQ<|zR<|zb hr fun y1 h_y1 hr => yS Z (zx Z Z Z cF h_y1 Z)<|yS Z (dj Z Z Z bZ Z Z)<|yS Z (ze Z qK Z Z)<|yS Z (zs Z Z Z Z bZ Z Z Z Z)<|zN<|zT<|zQ<|zR<|zM Z<|yS Z (zD Z Z Z ca Z Z)<|yS Z (zD Z Z Z bZ Z Z)<|zb hr fun v2 h_v2 hr => yS Z (zC Z Z Z (by kernel_rfl) (zp (JV h_v2) (.cons zv (.cons zv .nil))))<|zN<|zT ?_;refine zX Z (fun g2 => ?_)<|fun g2 => ?_
   ·
    refine zi g2 hr fun hr => zR<|zM Z<|yS Z (zD Z Z Z bZ Z Z)<|yS Z (lY Z cF Z Z Z Z Z)<|zg hr fun q1 hr => yS Z (ab.appendX aD x1.out [y1] rfl Z Z Z kQ.p Z cF q1 Z)<|zM Z<|zN<|ah<|zT<|zR<|yS Z (aw Z Z Z Z)<|zM Z<|zN<|zT ?_;obtain rfl := zJ hr;exact ⟨_, rfl, zW 2 ⟨rfl, rfl, rfl, rfl, rfl, rfl, rfl, trivial⟩ Z Z Z rfl⟩
   ·
    refine zo g2 hr fun hr => zk<|ah<|zT<|zR<|yS Z (aw Z Z Z Z)<|zM Z<|zN<|zT ?_;obtain rfl := zJ hr;exact ⟨_, rfl, zW 2 ⟨rfl, rfl, rfl, rfl, rfl, rfl, rfl, trivial⟩ Z Z Z rfl⟩
  ·
   refine zo g1 hr fun hr => zq<|ao<|ao<|zy<|zT ?_;obtain rfl := zJ hr;have hr := congrArg some (hb_x1 _ rfl);obtain rfl := zJ hr;exact zW 2 ⟨Z, Z, trivial⟩ Z Z Z Z
 ·have hr := ho_v1;clear hb_v1;refine zT<|LW.weak hw_v1<|zQ<|LW.ent (bP.last (t := 7) (j := 0) (Hj := []) Z Z Z Z Z Z Z)<|zR<|zM Z<|zM Z<|zN<|zT<|zr ?_;obtain rfl := zJ hr;exact ap (.one (.tmp Z))<|⟨rfl, rfl⟩
def FO (c : Cf) (v_in : Vw) : Option Vw :=
 (xD c v_in.B).bind fun v1 =>
 (xE c v_in.V).bind fun v2 =>
 some (Vw.mk v1 v2)
theorem JI {c : Cf} {v_in : Vw} {r_ : Vw} (hr : FO c v_in = some r_) : az Tryz.prog 97 [kT c, k7 v_in] [k7 r_] := by
 refine zh Tryz.func97 Z Z Z Z ?_;unfold FO at hr;refine zQ<|zR<|yS Z (b6 Z Z Z Z Z)<|yS Z (b6 Z Z Z Z Z)<|yS Z (ze Z fS Z Z)<|zN<|zT<|zQ<|LW.ent (bP.slot Z)<|LW.ent (bP.slot Z)<|LW.drawW (by kernel_rfl) (by kernel_rfl)<|yF Z (zd Z Z Z ca Z Z) Z ?_;refine yF (F := []) (s := none) Z (fun H _ => zA Z Z aL) Z ?_;refine yF Z (zd Z Z Z ch Z Z) Z<|zb hr fun v1 h_v1 hr => ?_;refine yF Z (bK.callV (id := 3) (qs := [.p (kT c), (kB v_in.B), .fn 133 [] []]) Z Z Z (by kernel_rfl) (DZ h_v1) (fun H => (.consC zv (.consC zv (.consF .nil)))) Z) Z ?_;refine yF Z (zd Z Z Z ca Z Z) Z ?_;refine yF (F := []) (s := none) Z (fun H _ => zA Z Z a7) Z ?_;refine yF Z (zd Z Z Z dc Z Z) Z<|zb hr fun v2 h_v2 hr => ?_;refine yF Z (bK.callV (id := 4) (qs := [.p (kT c), (kV v_in.V), .fn 135 [] []]) Z Z Z (by kernel_rfl) (D0 h_v2) (fun H => (.consC zv (.consC zv (.consF .nil)))) Z) Z ?_;refine yF (F := []) (s := none) Z (fun H _ => ab.build Z ma Z Z Z) Z ?_;refine yF Z (zt Z Z Z Z aM Z Z Z) Z ?_;refine LF.nil ⟨by kernel_rfl, ?_⟩;refine zT<|zr ?_;obtain rfl := zJ hr;exact zf (.one (.cellAgg Z Z (by kernel_rfl) Z))<|(Conv.agg (.cons (Conv.vecAll Z Z Z) (.cons (Conv.vecAll Z Z Z) .nil)))
def AB (c : Cf) (inp : Vw) : Option (List Bk × List Vt) :=
 (xD c inp.B).bind fun v1 =>
 (xE c inp.V).bind fun v2 =>
 some (v1, v2)
theorem Hd {c : Cf} {inp : Vw} {r_ : List Bk × List Vt} (hr : AB c inp = some r_) : LC Tryz.prog 97 [.p (kT c), .p (k7 inp)] [] (Is (.agg [(jB 3 r_.1), (jV 4 r_.2)]) [.box (bO c), .box (cw inp), .box [(jB 3 r_.1), (jV 4 r_.2)], .vec 5 (r_.1.map au), .vec 4 (r_.2.map aD)]) := by
 refine dA Tryz.func97 Z Z Z ?_;unfold AB at hr;refine zQ<|zR<|yS Z (b6 Z Z Z Z Z)<|yS Z (b6 Z Z Z Z Z)<|yS Z (ze Z fS Z Z)<|zN<|zT<|zQ<|LW.ent (bP.slot Z)<|LW.ent (bP.slot Z)<|LW.drawW (by kernel_rfl) (by kernel_rfl)<|yF Z (zd Z Z Z ca Z Z) Z ?_;refine yF (F := []) (s := none) Z (fun H _ => zA Z Z aL) Z ?_;refine yF Z (zd Z Z Z ch Z Z) Z<|zb hr fun v1 h_v1 hr => ?_;refine yF Z (bK.callV (id := 3) (qs := [.p (kT c), (kB inp.B), .fn 133 [] []]) Z Z Z (by kernel_rfl) (DZ h_v1) (fun H => (.consC zv (.consC zv (.consF .nil)))) Z) Z ?_;refine yF Z (zd Z Z Z ca Z Z) Z ?_;refine yF (F := []) (s := none) Z (fun H _ => zA Z Z a7) Z ?_;refine yF Z (zd Z Z Z dc Z Z) Z<|zb hr fun v2 h_v2 hr => ?_;refine yF Z (bK.callV (id := 4) (qs := [.p (kT c), (kV inp.V), .fn 135 [] []]) Z Z Z (by kernel_rfl) (D0 h_v2) (fun H => (.consC zv (.consC zv (.consF .nil)))) Z) Z ?_;refine yF (F := []) (s := none) Z (fun H _ => ab.build Z ma Z Z Z) Z ?_;refine yF Z (zt Z Z Z Z aM Z Z Z) Z ?_;refine LF.nil ⟨by kernel_rfl, ?_⟩;refine zT<|zr ?_;obtain rfl := zJ hr;exact ap (.one (.cellAgg Z Z (by kernel_rfl) Z))<|⟨rfl, rfl⟩
structure eK where
 t27 : Int
 o3 : List (ID × Int)
structure eM where
 t43 : Int
 o4 : List (Vt × Bool)
def ks (w : Vw) (x1 : eK) : Option (eK ⊕ eK) :=
 bif decide (x1.t27 < (w.B.length : Int)) then
  (ix w.B x1.t27).bind fun y1 =>
  some (.inl (eK.mk (IntKind.i64.wrap (x1.t27 + 1)) (aN x1.o3 (nm y1) y1.Slot)))
 else
  some (.inr (eK.mk x1.t27 x1.o3))
def kt (w : Vw) (x2 : eM) : Option (eM ⊕ eM) :=
 bif decide (x2.t43 < (w.V.length : Int)) then
  (ix w.V x2.t43).bind fun y2 =>
  some (.inl (eM.mk (IntKind.i64.wrap (x2.t43 + 1)) (aN x2.o4 y2 true)))
 else
  some (.inr (eM.mk x2.t43 x2.o4))
def xF (w : Vw) (_ : Int) : Option (List (ID × Int) × List (Vt × Bool)) :=
 bif cg 0 w.B.length 40 then
  bif cg 0 w.V.length 32 then
   (iter (ks w) bG (eK.mk 0 (aN [] (0, 0) 0))).bind fun v1 =>
   (iter (kt w) bG (eM.mk 0 ([] : List (Vt × Bool)))).bind fun v2 =>
   some (v1.o3, v2.o4)
  else none
 else none
theorem D1 {w : Vw} {upto : Int} {r_ : List (ID × Int) × List (Vt × Bool)} (hr : xF w upto = some r_) : LC Tryz.prog 177 [.p (k7 w), (iQ upto)] [] (Is (.ptr 5 0) [.box (cw w), .vec 5 (w.B.map au), .vec 4 (w.V.map aD), (mQ r_.1), (mR r_.2), .box [(jB 1 w.B), (jV 2 w.V), .map 3, .map 4, (iQ upto), (bQ false)]]) := by
 refine dA Tryz.func177 Z Z Z ?_;unfold xF at hr;refine zQ<|zR<|yS Z (b6 Z Z Z Z Z)<|zM Z<|zN<|zT<|zQ<|LW.ent (bP.slot Z)<|LW.ent (bP.slot Z)<|LW.ent (bP.slot Z)<|LW.ent (bP.slot Z)<|LW.ent (bP.slot Z)<|LW.drawW (by kernel_rfl) (by kernel_rfl) ?_;refine yF (F := []) (s := none) Z (fun H _ => zA Z Z aL) Z ?_;refine yF Z (zd Z Z Z ch Z Z) Z<|zg hr fun q1 hr => ?_;refine yF Z (bK.callV (id := 1) (qs := [(kB w.B)]) Z Z Z (by kernel_rfl) (tx q1) (fun H => (.consC zv .nil)) Z) Z ?_;refine yF (F := []) (s := none) Z (fun H _ => zA Z Z a7) Z ?_;refine yF Z (zd Z Z Z dc Z Z) Z<|zg hr fun q2 hr => ?_;refine yF Z (bK.callV (id := 2) (qs := [(kV w.V)]) Z Z Z (by kernel_rfl) (tz q2) (fun H => (.consC zv .nil)) Z) Z ?_;refine yF (F := []) (s := none) Z (fun H _ => ab.build Z ma Z Z Z) Z ?_;refine yF Z (bK.makeMap Z (id := 3) Z) Z ?_;refine yF (F := []) (s := none) Z (fun H _ => ab.build Z vq Z Z Z) Z ?_;refine yF Z (bK.setX (f := cv) (g := (fun v => (iQ v))) (m := ([] : List (ID × Int))) (0, 0) 0 dw (.inr Z) Z Z Z Z Z iT) Z ?_;refine zK Z<|yF Z (bK.makeMap Z (id := 4) Z) Z<|zK Z ?_;refine yF (F := []) (s := none) Z (fun H _ => ab.build Z Gi Z Z Z) Z ?_;refine yF Z (bK.box Z Z Z (id := 5) Z) Z<|zK Z ?_;refine LF.nil ⟨by kernel_rfl, ?_⟩;refine zT<|zQ<|zQ<|zR<|yS Z (zA Z Z aL)<|yS Z (zD Z Z Z ch Z Z)<|yS Z (cP Z Z (by kernel_rfl))<|zM Z<|zN<|zT ?_;obtain ⟨v1, hb_v1, ho_v1⟩ := zB hr;clear hr;refine LW.tail (E := [(2, .ptr 0 0), (5, .ptr 5 0)]) (O := [.box (cw w), .vec 5 (w.B.map au), .vec 4 (w.V.map aD), (mQ v1.o3), .map (ai aD (fun v => (bQ v)) []), .box [(jB 1 w.B), (jV 2 w.V), .map 3, .map 4, (iQ upto), (bQ false)]]) ?_<|fun env_v1 H_v1 hw_v1 => ?_
 ·refine LW.block ?_;refine LW.iterB (E := fun x1 : eK => [(2, .ptr 0 0), (5, .ptr 5 0), (25, (kB w.B)), (26, .p (.int .i64 (w.B.length : Int))), (27, (iQ x1.t27))]) (O := fun x1 => [.box (cw w), .vec 5 (w.B.map au), .vec 4 (w.V.map aD), (mQ x1.o3), .map (ai aD (fun v => (bQ v)) []), .box [(jB 1 w.B), (jV 2 w.V), .map 3, .map 4, (iQ upto), (bQ false)]]) hb_v1 (zW 6 ⟨rfl, rfl, rfl, rfl, rfl, trivial⟩ Z Z Z (zL Z (zL Z (zL Z (zL (ae (fun _ => rfl) _) (zL (ae (fun _ => rfl) _) (zL Z Z)))))))<|fun x1 z_x1 hr hb_x1 => ?_;unfold ks at hr;refine zQ<|zR<|yS Z (aw Z Z Z Z)<|zN<|zT<|zQ ?_;refine zX Z (fun g1 => ?_)<|fun g1 => ?_
  ·
   refine zi g1 hr fun hr => zk<|zT<|zQ<|zl<|zQ<|zR<|zb hr fun y1 h_y1 hr => yS Z (zx Z Z Z cR h_y1 Z)<|yS Z (dj Z Z Z bY Z Z)<|yS Z (ze Z qJ Z Z)<|yS Z (zs Z Z Z Z bY Z Z Z Z)<|zN<|zT<|LW.drawLast (m := 8) (by kernel_rfl) (by kernel_rfl) (by kernel_rfl)<|zH Z<|yE Z (zn Z Z)<|yE Z (zA Z Z kW)<|yE Z (zD Z Z Z yO Z Z)<|yE Z (zD Z Z Z bY Z Z)<|yE Z (zC Z Z Z (by kernel_rfl) (zp (EY (b := y1)) (.cons zv .nil)))<|yE Z (zA Z Z hZ)<|yE Z (zD Z Z Z bl Z Z)<|LO.nil ?_;refine yS Z (ab.setX (f := cv) (g := (fun v => (iQ v))) (nm y1) y1.Slot dw (.inl Z) Z Z Z Z Z iT Z) ?_;refine zN<|ah<|zT<|zR<|yS Z (aw Z Z Z Z)<|zM Z<|zN<|zT ?_;obtain rfl := zJ hr;exact ⟨_, rfl, zW 6 ⟨rfl, rfl, rfl, rfl, rfl, trivial⟩ Z Z Z (zL Z (zL Z (zL Z (zL (ae (fun _ => rfl) _) (zL (ae (fun _ => rfl) _) (zL Z Z))))))⟩
  ·
   refine zo g1 hr fun hr => zq<|ao<|ao<|zy<|zT ?_;obtain rfl := zJ hr;have hr := congrArg some (hb_x1 _ rfl);obtain rfl := zJ hr;exact zW 6 ⟨Z, Z, trivial⟩ Z Z Z<|zL Z<|zL Z<|zL Z<|zL (ae (fun _ => rfl) _)<|zL (ae (fun _ => rfl) _)<|zL Z Z
 ·have hr := ho_v1;clear hb_v1;refine zT<|LW.weak hw_v1<|zQ<|zQ<|zR<|yS Z (zA Z Z a7)<|yS Z (zD Z Z Z dc Z Z)<|yS Z (cP Z Z (by kernel_rfl))<|zM Z<|zN<|zT ?_;obtain ⟨v2, hb_v2, ho_v2⟩ := zB hr;clear hr;refine LW.tail (E := [(5, .ptr 5 0)]) (O := [.box (cw w), .vec 5 (w.B.map au), .vec 4 (w.V.map aD), (mQ v1.o3), (mR v2.o4), .box [(jB 1 w.B), (jV 2 w.V), .map 3, .map 4, (iQ upto), (bQ false)]]) ?_<|fun env_v2 H_v2 hw_v2 => ?_
  ·refine LW.block ?_;refine LW.iterB (E := fun x2 : eM => [(5, .ptr 5 0), (41, (kV w.V)), (42, .p (.int .i64 (w.V.length : Int))), (43, (iQ x2.t43))]) (O := fun x2 => [.box (cw w), .vec 5 (w.B.map au), .vec 4 (w.V.map aD), (mQ v1.o3), (mR x2.o4), .box [(jB 1 w.B), (jV 2 w.V), .map 3, .map 4, (iQ upto), (bQ false)]]) hb_v2 (zW 6 ⟨rfl, rfl, rfl, rfl, trivial⟩ Z Z Z (zL Z (zL Z (zL Z (zL (ae (fun _ => rfl) _) (zL (ae (fun _ => rfl) _) (zL Z Z)))))))<|fun x2 z_x2 hr hb_x2 => ?_;unfold kt at hr;refine zQ<|zR<|yS Z (aw Z Z Z Z)<|zN<|zT<|zQ ?_;refine zX Z (fun g2 => ?_)<|fun g2 => ?_
   ·
    refine zi g2 hr fun hr => zk<|zT<|zQ<|zl<|zQ<|zR<|zb hr fun y2 h_y2 hr => yS Z (zx Z Z Z cF h_y2 Z)<|yS Z (dj Z Z Z bZ Z Z)<|yS Z (ze Z qK Z Z)<|yS Z (zs Z Z Z Z bZ Z Z Z Z)<|zN<|zT<|LW.drawLast (m := 5) (by kernel_rfl) (by kernel_rfl) (by kernel_rfl)<|zH Z<|yE Z (zn Z Z)<|yE Z (zA Z Z oC)<|yE Z (zD Z Z Z xw Z Z)<|yE Z (zD Z Z Z bZ Z Z)<|LO.nil ?_;refine yS Z (ab.setX (f := aD) (g := (fun v => (bQ v))) y2 true xy (.inl Z) Z Z Z Z Z BI Z) ?_;refine zN<|ah<|zT<|zR<|yS Z (aw Z Z Z Z)<|zM Z<|zN<|zT ?_;obtain rfl := zJ hr;exact ⟨_, rfl, zW 6 ⟨rfl, rfl, rfl, rfl, trivial⟩ Z Z Z (zL Z (zL Z (zL Z (zL (ae (fun _ => rfl) _) (zL (ae (fun _ => rfl) _) (zL Z Z))))))⟩
   ·
    refine zo g2 hr fun hr => zq<|ao<|ao<|zy<|zT ?_;obtain rfl := zJ hr;have hr := congrArg some (hb_x2 _ rfl);obtain rfl := zJ hr;exact zW 6 ⟨Z, trivial⟩ Z Z Z<|zL Z<|zL Z<|zL Z<|zL (ae (fun _ => rfl) _)<|zL (ae (fun _ => rfl) _)<|zL Z Z
  ·have hr := ho_v2;clear hb_v2;refine zT<|LW.weak hw_v2<|zQ<|zR<|zM Z<|zM Z<|zN<|zT<|zr ?_;obtain rfl := zJ hr;exact ap (.one (.tmp Z))<|⟨rfl, rfl⟩
theorem w5 {α : Type} {f : α → PV} {d : Nat} (m : List (α × Int)) : ((ai f (fun v => (iQ v)) m).map fun e => (e.1, LV.shift d e.2)) = ai f (fun v => (iQ v)) m := Ba (fun _ => rfl) m
theorem w4 {α : Type} {f : α → PV} {d : Nat} (m : List (α × Bool)) : ((ai f (fun v => (bQ v)) m).map fun e => (e.1, LV.shift d e.2)) = ai f (fun v => (bQ v)) m := Ba (fun _ => rfl) m
end Go.Mg
