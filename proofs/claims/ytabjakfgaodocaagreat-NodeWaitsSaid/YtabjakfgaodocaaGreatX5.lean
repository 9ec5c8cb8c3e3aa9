/- References of trees and cursors. Duties: what stands alone. duty.those: a closure. Sums of weights, and lists, over closures. Committees over closures. marigoldref04. Duties: the reference, the proposer. duty.Total, Weight, Committee, In. Weights of blocks, heads: what stands alone, and the reference. Conditions: none. -/
import Derived.Test.YtabjakfgaodocaaGreatX3
import Derived.Test.YtabjakfgaodocaaGreatX4
namespace Go.Mg
open Go.Proofs
structure F98_L1 where
 i : Int
structure F100_L1 where
 a : Int
 b : Int
 i : Int
structure F97_L1 where
 i : Int
 out : List ID
structure F96_L1 where
 i : Int
structure F48_L1 where
 i : Int
 id : ID
 out : List ID
open Go.Proofs
structure F109_L1 where
 m : Int
 i : Int
def F109_s1 (x : List Int) (x1 : F109_L1) : Option (F109_L1 ⊕ F109_L1) :=
 bif decide (x1.i < (x.length : Int)) then
  (ix x x1.i).bind fun y2 =>
  some (.inl (F109_L1.mk (if y2 < x1.m then y2 else x1.m) (IntKind.i64.wrap (x1.i + 1))))
 else
  some (.inr (F109_L1.mk x1.m x1.i))
def F109 (x : List Int) : Option Int :=
 bif decide ((x.length : Int) < 1) then
  none
 else
  (ix x 0).bind fun y1 =>
  (iter (F109_s1 x) big (F109_L1.mk y1 1)).bind fun v1 =>
  some v1.m
set_option maxRecDepth 100000 in
theorem c109 {x : List Int} {r_ : Int} (hr : F109 x = some r_) : LPure Tryz.prog 60 [.slice 1 (x.map i64P)] [.int .i64 r_] := by
 refine LPure.start Tryz.func60 Z Z Z Z ?_
 unfold F109 at hr
 refine zQ (zR (zM Z (zN (zT (zQ (zQ (zR (zM Z (zS Z Z Z (LOp.lenM Z Z (by kernel_rfl)) (zS Z Z Z (LOp.bin Z Z Z Z) (zN (zT ?_))))))))))))
 refine zX Z (fun g1 => ?_) (fun g1 => ?_)
 ·
  have hr := zI g1 hr
  cases hr
 ·
  refine zo g1 hr fun hr => LW.skip (zT (zQ (zR (zM Z (zb hr fun y1 h_y1 hr => zS Z Z Z (LOp.indexAddrX Z Z Z st49 h_y1 Z) (zS Z Z Z (LOp.loadC Z Z Z vt3 Z Z) (zM Z (zN (zT (zQ (zQ (zR (zM Z (zN (zT ?_)))))))))))))))
  obtain ⟨v1, hb_v1, ho_v1⟩ := zB hr
  clear hr
  refine LW.tail (E := [(2, .p (.int .i64 0)), (3, .p (.int .i64 v1.m))]) (O := []) ?_ (fun env_v1 H_v1 hw_v1 => ?_)
  ·refine LW.block ?_
   refine LW.iterB (E := fun x1 : F109_L1 => [(0, .p (.slice 1 (x.map i64P))), (2, .p (.int .i64 0)), (3, .p (.int .i64 x1.m)), (4, .p (.int .i64 x1.i))]) (O := fun x1 => []) hb_v1 (zW 0 ⟨rfl, rfl, rfl, rfl, trivial⟩ Z Z Z Z) (fun x1 z_x1 hr hb_x1 => ?_)
   unfold F109_s1 at hr
   refine zQ (zQ (zR (zM Z (zM Z (zS Z Z Z (LOp.lenM Z Z (by kernel_rfl)) (zS Z Z Z (LOp.bin Z Z Z Z) (zN (zT ?_))))))))
   refine zX Z (fun g2 => ?_) (fun g2 => ?_)
   ·
    refine zi g2 hr fun hr => LW.skip (zT (zQ (LW.block (zR (zM Z (zM Z (zM Z (zb hr fun y2 h_y2 hr => zS Z Z Z (LOp.indexAddrX Z Z Z st49 h_y2 Z) (zS Z Z Z (LOp.loadC Z Z Z vt3 Z Z) (zS Z Z Z (LOp.min Z Z Z) (zM Z (zN (inBlk_n (zT (zR (zM Z (zS Z Z Z (LOp.bin Z Z Z Z) (zM Z (zN (zT ?_))))))))))))))))))))
    obtain rfl := zJ hr
    exact ⟨_, rfl, zW 0 ⟨rfl, rfl, rfl, rfl, trivial⟩ Z Z Z rfl⟩
   ·
    refine zo g2 hr fun hr => LW.exit (thn_e (thn_e (inBlk_self (zT ?_))))
    obtain rfl := zJ hr
    have hr := congrArg some (hb_x1 _ rfl)
    obtain rfl := zJ hr
    exact zW 0 ⟨Z, Z, trivial⟩ Z Z Z Z
  ·have hr := ho_v1
   clear hb_v1
   refine zT (LW.weak hw_v1 (zQ (zR (zM Z (zM Z (zN (zT (LW.ret ?_))))))))
   obtain rfl := zJ hr
   refine finP_ret (.one (.tmp Z)) ?_
   exact Conv.p
structure F110_L1 where
 m : Int
 i : Int
def F110_s1 (x : List Int) (x1 : F110_L1) : Option (F110_L1 ⊕ F110_L1) :=
 bif decide (x1.i < (x.length : Int)) then
  (ix x x1.i).bind fun y2 =>
  some (.inl (F110_L1.mk (if y2 > x1.m then y2 else x1.m) (IntKind.i64.wrap (x1.i + 1))))
 else
  some (.inr (F110_L1.mk x1.m x1.i))
def F110 (x : List Int) : Option Int :=
 bif decide ((x.length : Int) < 1) then
  none
 else
  (ix x 0).bind fun y1 =>
  (iter (F110_s1 x) big (F110_L1.mk y1 1)).bind fun v1 =>
  some v1.m
set_option maxRecDepth 100000 in
theorem c110 {x : List Int} {r_ : Int} (hr : F110 x = some r_) : LPure Tryz.prog 61 [.slice 1 (x.map i64P)] [.int .i64 r_] := by
 refine LPure.start Tryz.func61 Z Z Z Z ?_
 unfold F110 at hr
 refine zQ (zR (zM Z (zN (zT (zQ (zQ (zR (zM Z (zS Z Z Z (LOp.lenM Z Z (by kernel_rfl)) (zS Z Z Z (LOp.bin Z Z Z Z) (zN (zT ?_))))))))))))
 refine zX Z (fun g1 => ?_) (fun g1 => ?_)
 ·
  have hr := zI g1 hr
  cases hr
 ·
  refine zo g1 hr fun hr => LW.skip (zT (zQ (zR (zM Z (zb hr fun y1 h_y1 hr => zS Z Z Z (LOp.indexAddrX Z Z Z st49 h_y1 Z) (zS Z Z Z (LOp.loadC Z Z Z vt3 Z Z) (zM Z (zN (zT (zQ (zQ (zR (zM Z (zN (zT ?_)))))))))))))))
  obtain ⟨v1, hb_v1, ho_v1⟩ := zB hr
  clear hr
  refine LW.tail (E := [(2, .p (.int .i64 0)), (3, .p (.int .i64 v1.m))]) (O := []) ?_ (fun env_v1 H_v1 hw_v1 => ?_)
  ·refine LW.block ?_
   refine LW.iterB (E := fun x1 : F110_L1 => [(0, .p (.slice 1 (x.map i64P))), (2, .p (.int .i64 0)), (3, .p (.int .i64 x1.m)), (4, .p (.int .i64 x1.i))]) (O := fun x1 => []) hb_v1 (zW 0 ⟨rfl, rfl, rfl, rfl, trivial⟩ Z Z Z Z) (fun x1 z_x1 hr hb_x1 => ?_)
   unfold F110_s1 at hr
   refine zQ (zQ (zR (zM Z (zM Z (zS Z Z Z (LOp.lenM Z Z (by kernel_rfl)) (zS Z Z Z (LOp.bin Z Z Z Z) (zN (zT ?_))))))))
   refine zX Z (fun g2 => ?_) (fun g2 => ?_)
   ·
    refine zi g2 hr fun hr => LW.skip (zT (zQ (LW.block (zR (zM Z (zM Z (zM Z (zb hr fun y2 h_y2 hr => zS Z Z Z (LOp.indexAddrX Z Z Z st49 h_y2 Z) (zS Z Z Z (LOp.loadC Z Z Z vt3 Z Z) (zS Z Z Z (LOp.max Z Z Z) (zM Z (zN (inBlk_n (zT (zR (zM Z (zS Z Z Z (LOp.bin Z Z Z Z) (zM Z (zN (zT ?_))))))))))))))))))))
    obtain rfl := zJ hr
    exact ⟨_, rfl, zW 0 ⟨rfl, rfl, rfl, rfl, trivial⟩ Z Z Z rfl⟩
   ·
    refine zo g2 hr fun hr => LW.exit (thn_e (thn_e (inBlk_self (zT ?_))))
    obtain rfl := zJ hr
    have hr := congrArg some (hb_x1 _ rfl)
    obtain rfl := zJ hr
    exact zW 0 ⟨Z, Z, trivial⟩ Z Z Z Z
  ·have hr := ho_v1
   clear hb_v1
   refine zT (LW.weak hw_v1 (zQ (zR (zM Z (zM Z (zN (zT (LW.ret ?_))))))))
   obtain rfl := zJ hr
   refine finP_ret (.one (.tmp Z)) ?_
   exact Conv.p
def F64 (c : Cf) : Option Bool :=
 (
  bif (c.W.length : Int) == 0 then
   some true
  else
   bif decide ((c.W.length : Int) > 12) then
    some true
   else
    (F109 c.W).bind fun v2 =>
    bif decide (v2 < 0) then
     some true
    else
     (F110 c.W).bind fun v3 =>
     some (decide (v3 > 1099511627776))
 ).bind fun v1 =>
 bif v1 then
  some false
 else
  bif decide (c.Epoch > 0) then
   bif decide (c.Epoch ≤ 8) then
    bif decide (c.Num ≥ 0) then
     bif decide (c.Num ≤ c.Den) then
      bif decide (c.Den > 0) then
       some (decide (c.Den ≤ 1000))
      else
       some false
     else
      some false
    else
     some false
   else
    some false
  else
   some false
set_option maxRecDepth 100000 in
theorem c64 {c : Cf} {r_ : Bool} (hr : F64 c = some r_) : LPure Tryz.prog 20 [cfP c] [.bool r_] := by
 refine LPure.start Tryz.func20 Z Z Z Z ?_
 unfold F64 at hr
 refine zQ (zR (zS Z Z Z (LOp.box Z Z Z Z Z) (zM Z (zN (zT (zQ ?_))))))
 obtain ⟨v1, hb_v1, ho_v1⟩ := zB hr
 clear hr
 refine LW.cut (E := [(1, .ptr 0 0), (2, .p (.bool false)), (24, .p (.bool v1))]) (O := [.box [.p (.slice 1 (c.W.map i64P)), .p (.int .u64 c.Seed), .p (.int .i64 c.Epoch), .p (.int .i64 c.Num), .p (.int .i64 c.Den)]]) ?_ ?_
 ·have hr := hb_v1
  refine zR (zS Z Z Z (zA Z Z ft55_0) (zS Z Z Z (zD Z Z Z vt49 Z Z) (zS Z Z Z (LOp.lenM Z Z (by kernel_rfl)) (zS Z Z Z (LOp.bin Z Z Z Z) (zM Z ?_)))))
  refine LOps.cases 7 Z (fun g1 => ?_) (fun g1 => ?_)
  ·
   refine zi g1 hr fun hr => zU Z Z Z (gd g1 Z) Z Z (zU Z Z Z (gd g1 Z) Z Z (zU Z Z Z (gd g1 Z) Z Z (zU Z Z Z (gd g1 Z) Z Z (zS Z Z Z (LOp.pickT Z (gdl g1 Z) Z) (zM Z (zU Z Z Z Z Z Z (zU Z Z Z Z Z Z (zU Z Z Z Z Z Z (zU Z Z Z Z Z Z (zS Z Z Z (LOp.pickT Z Z Z) (zM Z (zU Z Z Z Z Z Z (zU Z Z Z Z Z Z (zU Z Z Z Z Z Z (zU Z Z Z Z Z Z (zS Z Z Z (LOp.pickT Z Z Z) (zN (zT ?_))))))))))))))))))
   obtain rfl := zJ hr
   exact zW 1 ⟨Z, Z, Z, trivial⟩ Z Z Z Z
  ·
   refine zo g1 hr fun hr => zV Z Z Z (gd g1 Z) Z (zA Z Z ft55_0) (zV Z Z Z (gd g1 Z) Z (zD Z Z Z vt49 Z Z) (zV Z Z Z (gd g1 Z) Z (LOp.lenM Z Z (by kernel_rfl)) (zV Z Z Z (gd g1 Z) Z (LOp.bin Z Z Z Z) (zS Z Z Z (LOp.pickF Z (gdl g1 Z) Z) (zM Z ?_)))))
   refine LOps.cases 13 Z (fun g2 => ?_) (fun g2 => ?_)
   ·
    refine zi g2 hr fun hr => zU Z Z Z (gd g2 Z) Z Z (zU Z Z Z (gd g2 Z) Z Z (zU Z Z Z (gd g2 Z) Z Z (zU Z Z Z (gd g2 Z) Z Z (zS Z Z Z (LOp.pickT Z (gdl g2 Z) Z) (zM Z (zU Z Z Z Z Z Z (zU Z Z Z Z Z Z (zU Z Z Z Z Z Z (zU Z Z Z Z Z Z (zS Z Z Z (LOp.pickT Z Z Z) (zN (zT ?_))))))))))))
    obtain rfl := zJ hr
    exact zW 1 ⟨Z, Z, Z, trivial⟩ Z Z Z Z
   ·
    refine zo g2 hr fun hr => zV Z Z Z (gd g2 Z) Z (zA Z Z ft55_0) (zV Z Z Z (gd g2 Z) Z (zD Z Z Z vt49 Z Z) (zb hr fun v2 h_v2 hr => zV Z Z Z (gd g2 Z) Z (zC Z Z Z (by kernel_rfl) (LC.pure (c109 h_v2) (.cons Conv.p .nil))) (zV Z Z Z (gd g2 Z) Z (LOp.bin Z Z Z Z) (zS Z Z Z (LOp.pickF Z (gdl g2 Z) Z) (zM Z ?_)))))
    refine LOps.cases 19 Z (fun g3 => ?_) (fun g3 => ?_)
    ·
     refine zi g3 hr fun hr => zU Z Z Z (gd g3 Z) Z Z (zU Z Z Z (gd g3 Z) Z Z (zU Z Z Z (gd g3 Z) Z Z (zU Z Z Z (gd g3 Z) Z Z (zS Z Z Z (LOp.pickT Z (gdl g3 Z) Z) (zN (zT ?_))))))
     obtain rfl := zJ hr
     exact zW 1 ⟨Z, Z, Z, trivial⟩ Z Z Z Z
    ·
     refine zo g3 hr fun hr => zV Z Z Z (gd g3 Z) Z (zA Z Z ft55_0) (zV Z Z Z (gd g3 Z) Z (zD Z Z Z vt49 Z Z) (zb hr fun v3 h_v3 hr => zV Z Z Z (gd g3 Z) Z (zC Z Z Z (by kernel_rfl) (LC.pure (c110 h_v3) (.cons Conv.p .nil))) (zV Z Z Z (gd g3 Z) Z (LOp.bin Z Z Z Z) (zS Z Z Z (LOp.pickF Z (gdl g3 Z) Z) (zN (zT ?_))))))
     obtain rfl := zJ hr
     exact zW 1 ⟨Z, Z, Z, trivial⟩ Z Z Z Z
 ·have hr := ho_v1
  clear hb_v1
  refine zX Z (fun g4 => ?_) (fun g4 => ?_)
  ·
   refine zi g4 hr fun hr => zQ (zR (zM Z (zN (zT (LW.ret (thn_r ?_))))))
   obtain rfl := zJ hr
   refine finP_ret (.one (.tmp Z)) ?_
   exact Conv.p
  ·
   refine zo g4 hr fun hr => LW.skip (zT (zQ (zR (zS Z Z Z (zA Z Z ft55_2) (zS Z Z Z (zD Z Z Z vt3 Z Z) (zS Z Z Z (LOp.bin Z Z Z Z) (zM Z ?_)))))))
   refine LOps.cases 28 Z (fun g5 => ?_) (fun g5 => ?_)
   ·
    refine zi g5 hr fun hr => zV Z Z Z (gd g5 Z) Z (zA Z Z ft55_2) (zV Z Z Z (gd g5 Z) Z (zD Z Z Z vt3 Z Z) (zV Z Z Z (gd g5 Z) Z (LOp.bin Z Z Z Z) (zS Z Z Z (LOp.pickT Z (gdl g5 Z) Z) (zM Z ?_))))
    refine LOps.cases 33 Z (fun g6 => ?_) (fun g6 => ?_)
    ·
     refine zi g6 hr fun hr => zV Z Z Z (gd g6 Z) Z (zA Z Z ft55_3) (zV Z Z Z (gd g6 Z) Z (zD Z Z Z vt3 Z Z) (zV Z Z Z (gd g6 Z) Z (LOp.bin Z Z Z Z) (zS Z Z Z (LOp.pickT Z (gdl g6 Z) Z) (zM Z ?_))))
     refine LOps.cases 38 Z (fun g7 => ?_) (fun g7 => ?_)
     ·
      refine zi g7 hr fun hr => zV Z Z Z (gd g7 Z) Z (zA Z Z ft55_3) (zV Z Z Z (gd g7 Z) Z (zD Z Z Z vt3 Z Z) (zV Z Z Z (gd g7 Z) Z (zA Z Z ft55_4) (zV Z Z Z (gd g7 Z) Z (zD Z Z Z vt3 Z Z) (zV Z Z Z (gd g7 Z) Z (LOp.bin Z Z Z Z) (zS Z Z Z (LOp.pickT Z (gdl g7 Z) Z) (zM Z ?_))))))
      refine LOps.cases 45 Z (fun g8 => ?_) (fun g8 => ?_)
      ·
       refine zi g8 hr fun hr => zV Z Z Z (gd g8 Z) Z (zA Z Z ft55_4) (zV Z Z Z (gd g8 Z) Z (zD Z Z Z vt3 Z Z) (zV Z Z Z (gd g8 Z) Z (LOp.bin Z Z Z Z) (zS Z Z Z (LOp.pickT Z (gdl g8 Z) Z) (zM Z ?_))))
       refine LOps.cases 50 Z (fun g9 => ?_) (fun g9 => ?_)
       ·
        refine zi g9 hr fun hr => zV Z Z Z (gd g9 Z) Z (zA Z Z ft55_4) (zV Z Z Z (gd g9 Z) Z (zD Z Z Z vt3 Z Z) (zV Z Z Z (gd g9 Z) Z (LOp.bin Z Z Z Z) (zS Z Z Z (LOp.pickT Z (gdl g9 Z) Z) (zM Z (zN (zT (LW.ret ?_)))))))
        obtain rfl := zJ hr
        refine finP_ret (.one (.tmp Z)) ?_
        exact Conv.p
       ·
        refine zo g9 hr fun hr => zU Z Z Z (gd g9 Z) Z Z (zU Z Z Z (gd g9 Z) Z Z (zU Z Z Z (gd g9 Z) Z Z (zS Z Z Z (LOp.pickF Z (gdl g9 Z) Z) (zM Z (zN (zT (LW.ret ?_)))))))
        obtain rfl := zJ hr
        refine finP_ret (.one (.tmp Z)) ?_
        exact Conv.p
      ·
       refine zo g8 hr fun hr => zU Z Z Z (gd g8 Z) Z Z (zU Z Z Z (gd g8 Z) Z Z (zU Z Z Z (gd g8 Z) Z Z (zS Z Z Z (LOp.pickF Z (gdl g8 Z) Z) (zM Z (zU Z Z Z Z Z Z (zU Z Z Z Z Z Z (zU Z Z Z Z Z Z (zS Z Z Z (LOp.pickF Z Z Z) (zM Z (zN (zT (LW.ret ?_))))))))))))
       obtain rfl := zJ hr
       refine finP_ret (.one (.tmp Z)) ?_
       exact Conv.p
     ·
      refine zo g7 hr fun hr => zU Z Z Z (gd g7 Z) Z Z (zU Z Z Z (gd g7 Z) Z Z (zU Z Z Z (gd g7 Z) Z Z (zU Z Z Z (gd g7 Z) Z Z (zU Z Z Z (gd g7 Z) Z Z (zS Z Z Z (LOp.pickF Z (gdl g7 Z) Z) (zM Z (zU Z Z Z Z Z Z (zU Z Z Z Z Z Z (zU Z Z Z Z Z Z (zS Z Z Z (LOp.pickF Z Z Z) (zM Z (zU Z Z Z Z Z Z (zU Z Z Z Z Z Z (zU Z Z Z Z Z Z (zS Z Z Z (LOp.pickF Z Z Z) (zM Z (zN (zT (LW.ret ?_)))))))))))))))))))
      obtain rfl := zJ hr
      refine finP_ret (.one (.tmp Z)) ?_
      exact Conv.p
    ·
     refine zo g6 hr fun hr => zU Z Z Z (gd g6 Z) Z Z (zU Z Z Z (gd g6 Z) Z Z (zU Z Z Z (gd g6 Z) Z Z (zS Z Z Z (LOp.pickF Z (gdl g6 Z) Z) (zM Z (zU Z Z Z Z Z Z (zU Z Z Z Z Z Z (zU Z Z Z Z Z Z (zU Z Z Z Z Z Z (zU Z Z Z Z Z Z (zS Z Z Z (LOp.pickF Z Z Z) (zM Z (zU Z Z Z Z Z Z (zU Z Z Z Z Z Z (zU Z Z Z Z Z Z (zS Z Z Z (LOp.pickF Z Z Z) (zM Z (zU Z Z Z Z Z Z (zU Z Z Z Z Z Z (zU Z Z Z Z Z Z (zS Z Z Z (LOp.pickF Z Z Z) (zM Z (zN ?_))))))))))))))))))))))
     refine zT (LW.ret ?_)
     obtain rfl := zJ hr
     refine finP_ret (.one (.tmp Z)) ?_
     exact Conv.p
   ·
    refine zo g5 hr fun hr => zU Z Z Z (gd g5 Z) Z Z (zU Z Z Z (gd g5 Z) Z Z (zU Z Z Z (gd g5 Z) Z Z (zS Z Z Z (LOp.pickF Z (gdl g5 Z) Z) (zM Z (zU Z Z Z Z Z Z (zU Z Z Z Z Z Z (zU Z Z Z Z Z Z (zS Z Z Z (LOp.pickF Z Z Z) (zM Z (zU Z Z Z Z Z Z (zU Z Z Z Z Z Z (zU Z Z Z Z Z Z (zU Z Z Z Z Z Z (zU Z Z Z Z Z Z (zS Z Z Z (LOp.pickF Z Z Z) (zM Z (zU Z Z Z Z Z Z (zU Z Z Z Z Z Z (zU Z Z Z Z Z Z (zS Z Z Z (LOp.pickF Z Z Z) (zM Z (zU Z Z Z Z Z Z ?_))))))))))))))))))))))
    refine zU Z Z Z Z Z Z (zU Z Z Z Z Z Z (zS Z Z Z (LOp.pickF Z Z Z) (zM Z (zN (zT (LW.ret ?_))))))
    obtain rfl := zJ hr
    refine finP_ret (.one (.tmp Z)) ?_
    exact Conv.p
def F107 (c : Cf) (slot : Int) : Option Bool :=
 (F64 c).bind fun v1 =>
 bif v1 then
  bif decide (slot > 0) then
   some (decide (slot ≤ 1048576))
  else
   some false
 else
  some false
set_option maxRecDepth 100000 in
theorem c107 {c : Cf} {slot : Int} {r_ : Bool} (hr : F107 c slot = some r_) : LPure Tryz.prog 62 [cfP c, .int .i64 slot] [.bool r_] := by
 refine LPure.start Tryz.func62 Z Z Z Z ?_
 unfold F107 at hr
 refine zQ (zR (zS Z Z Z (LOp.box Z Z Z Z Z) (zM Z (zN (zT (zQ (zR (zS Z Z Z (zD Z Z Z vt55 Z Z) (zb hr fun v1 h_v1 hr => zS Z Z Z (zC Z Z Z (by kernel_rfl) (LC.pure (c64 h_v1) (.cons Conv.p .nil))) (zM Z ?_))))))))))
 refine LOps.cases 7 Z (fun g1 => ?_) (fun g1 => ?_)
 ·
  refine zi g1 hr fun hr => zV Z Z Z (gd g1 Z) Z (LOp.move Z Z) (zV Z Z Z (gd g1 Z) Z (LOp.bin Z Z Z Z) (zS Z Z Z (LOp.pickT Z (gdl g1 Z) Z) (zM Z ?_)))
  refine LOps.cases 11 Z (fun g2 => ?_) (fun g2 => ?_)
  ·
   refine zi g2 hr fun hr => zV Z Z Z (gd g2 Z) Z (LOp.move Z Z) (zV Z Z Z (gd g2 Z) Z (LOp.bin Z Z Z Z) (zS Z Z Z (LOp.pickT Z (gdl g2 Z) Z) (zM Z (zN (zT (LW.ret ?_))))))
   obtain rfl := zJ hr
   refine finP_ret (.one (.tmp Z)) ?_
   exact Conv.p
  ·
   refine zo g2 hr fun hr => zU Z Z Z (gd g2 Z) Z Z (zU Z Z Z (gd g2 Z) Z Z (zS Z Z Z (LOp.pickF Z (gdl g2 Z) Z) (zM Z (zN (zT (LW.ret ?_))))))
   obtain rfl := zJ hr
   refine finP_ret (.one (.tmp Z)) ?_
   exact Conv.p
 ·
  refine zo g1 hr fun hr => zU Z Z Z (gd g1 Z) Z Z (zU Z Z Z (gd g1 Z) Z Z (zS Z Z Z (LOp.pickF Z (gdl g1 Z) Z) (zM Z (zU Z Z Z Z Z Z (zU Z Z Z Z Z Z (zS Z Z Z (LOp.pickF Z Z Z) (zM Z (zN (zT (LW.ret ?_))))))))))
  obtain rfl := zJ hr
  refine finP_ret (.one (.tmp Z)) ?_
  exact Conv.p
structure F150_L1 where
 t8 : Int
def F150_s1 (s : List Int) (v : Int) (x1 : F150_L1) : Option (F150_L1 ⊕ (F150_L1 ⊕ Int)) :=
 bif decide (x1.t8 < (s.length : Int)) then
  (ix s x1.t8).bind fun y1 =>
  bif v == y1 then
   some (.inr (.inr x1.t8))
  else
   some (.inl (F150_L1.mk (IntKind.i64.wrap (x1.t8 + 1))))
 else
  some (.inr (.inl (F150_L1.mk x1.t8)))
def F150 (s : List Int) (v : Int) : Option Int :=
 (iter (F150_s1 s v) big (F150_L1.mk 0)).bind fun b_v1 => Sum.elim (fun _ =>
  some (-1)) some b_v1
set_option maxRecDepth 100000 in
theorem c150 {s : List Int} {v : Int} {r_ : Int} (hr : F150 s v = some r_) : LPure Tryz.prog 103 [.slice 1 (s.map i64P), .int .i64 v] [.int .i64 r_] := by
 refine LPure.start Tryz.func103 Z Z Z Z ?_
 unfold F150 at hr
 refine zQ (zR (zM Z (zN (zT (zQ (zQ (zR (zM Z (zS Z Z Z (LOp.lenM Z Z (by kernel_rfl)) (zM Z (zN (zT ?_))))))))))))
 obtain ⟨b_v1, hb_v1, ho_v1⟩ := zB hr
 clear hr
 refine LW.tailB (b := b_v1) (E := fun v1 => [(4, .p (.int .i64 0))]) (O := fun v1 => []) ?_ (fun v1 e_v1 env_v1 H_v1 hw_v1 => ?_)
 ·refine LW.block ?_
  refine LW.iterB (E := fun x1 : F150_L1 => [(0, .p (.slice 1 (s.map i64P))), (1, .p (.int .i64 v)), (4, .p (.int .i64 0)), (7, .p (.int .i64 (s.length : Int))), (8, .p (.int .i64 x1.t8))]) (O := fun x1 => []) hb_v1 (zW 0 ⟨rfl, rfl, rfl, rfl, rfl, trivial⟩ Z Z Z Z) (fun x1 z_x1 hr hb_x1 => ?_)
  unfold F150_s1 at hr
  refine zQ (zR (zS Z Z Z (LOp.bin Z Z Z Z) (zN (zT (zQ ?_)))))
  refine zX Z (fun g1 => ?_) (fun g1 => ?_)
  ·
   refine zi g1 hr fun hr => LW.skip (zT (zQ (LW.block (zQ (zR (zM Z (zM Z (zN (zT (zQ (zR (zM Z (zM Z (zM Z (zb hr fun y1 h_y1 hr => zS Z Z Z (LOp.indexAddrX Z Z Z st49 h_y1 Z) (zS Z Z Z (LOp.loadC Z Z Z vt3 Z Z) (zS Z Z Z (LOp.bin Z Z Z Z) (zN (zT ?_)))))))))))))))))))
   refine zX Z (fun g2 => ?_) (fun g2 => ?_)
   ·
    refine zi g2 hr fun hr => zQ (zR (zM Z (zM Z (zN (zT (LW.ret (inBlk_r (thn_r (thn_r (inBlk_r (thn_r (thn_r ?_))))))))))))
    obtain rfl := zJ hr
    have hr := congrArg some (hb_x1 _ rfl)
    obtain rfl := zJ hr
    have hr := sum_r ho_v1
    obtain rfl := zJ hr
    refine finP_ret (.one (.tmp Z)) ?_
    exact Conv.p
   ·
    refine zo g2 hr fun hr => LW.skip (inBlk_n (zT (zR (zS Z Z Z (LOp.bin Z Z Z Z) (zM Z (zN (zT ?_)))))))
    obtain rfl := zJ hr
    exact ⟨_, rfl, zW 0 ⟨rfl, rfl, rfl, rfl, rfl, trivial⟩ Z Z Z rfl⟩
  ·
   refine zo g1 hr fun hr => LW.exit (thn_e (thn_e (inBlk_self (zT ?_))))
   obtain rfl := zJ hr
   have hr := congrArg some (hb_x1 _ rfl)
   obtain rfl := zJ hr
   exact ⟨_, rfl, zW 0 ⟨rfl, trivial⟩ Z Z Z rfl⟩
 ·obtain rfl := e_v1
  have hr := sum_l ho_v1
  clear hb_v1
  refine zT (LW.weak hw_v1 (zQ (zR (zM Z (zN (zT (LW.ret ?_)))))))
  obtain rfl := zJ hr
  refine finP_ret (.one (.tmp Z)) ?_
  exact Conv.p
def F119 (s : List Int) (v : Int) : Option Bool :=
 (F150 s v).bind fun v1 =>
 some (decide (v1 ≥ 0))
set_option maxRecDepth 100000 in
theorem c119 {s : List Int} {v : Int} {r_ : Bool} (hr : F119 s v = some r_) : LPure Tryz.prog 65 [.slice 1 (s.map i64P), .int .i64 v] [.bool r_] := by
 refine LPure.start Tryz.func65 Z Z Z Z ?_
 unfold F119 at hr
 refine zQ (zR (zM Z (zN (zT (zQ (zR (zM Z (zM Z (zb hr fun v1 h_v1 hr => zS Z Z Z (zC Z Z Z (by kernel_rfl) (LC.pure (c150 h_v1) (.cons Conv.p (.cons Conv.p .nil)))) (zS Z Z Z (LOp.bin Z Z Z Z) (zM Z (zN (zT (LW.ret ?_))))))))))))))
 obtain rfl := zJ hr
 refine finP_ret (.one (.tmp Z)) ?_
 exact Conv.p
structure F67_L1 where
 i : Int
structure F76_L1 where
 i : Int
structure F71_L1 where
 n : Int
 i : Int
open Go.Proofs
theorem lenC_len : ∀ H : List LObj, lenC H = some H.length
 | [] => rfl
 | _ :: r => by unfold lenC; rw [lenC_len r]; rfl
theorem appC_app : ∀ (H : List LObj) (o : LObj), appC H o = some (H ++ [o])
 | [], _ => rfl
 | _ :: r, o => by unfold appC; rw [appC_app r o]; rfl
set_option maxRecDepth 100000 in
theorem c112 {c : Cf} {g : FuncId} {first caps : List LV} {H : List LObj} : LC Tryz.prog 106 [.p (cfP c), .fn g first caps] H (Is (.fn 133 [] [.cptr [.slice 1 (c.W.map i64P), .int .u64 c.Seed, .int .i64 c.Epoch, .int .i64 c.Num, .int .i64 c.Den], .fptr (.fn g first caps)]) H) := by
 refine LC.those Tryz.func106 Z Z Z ?_
 refine LW.seq (LW.region (LOps.st Z Z Z (LOp.box Z Z Z (lenC_len _) (appC_app _ _)) (LOps.st Z Z Z (LOp.box Z Z Z (lenC_len _) (appC_app _ _)) (LOps.st Z Z Z (LOp.assign Z Z) (LOps.nil (thn_n (LW.seq (LW.region (LOps.st Z Z Z (LOp.makeFunc Z Z Z) (LOps.st Z Z Z (LOp.assign Z Z) (LOps.nil (thn_n (LW.ret ?_)))))))))))))
 refine ⟨.inr rfl, by simp, ?_⟩
 have h : ∀ n : Nat, n = H.length + 1 → ∀ {e : Env} {H2 : List LObj}, e.get 4 = some (.fn 133 [] [.ptr H.length 0, .ptr n 0]) → ResAll Tryz.prog e H2 Tryz.f106.results (.fn 133 [] [.ptr H.length 0, .ptr (H.length + 1) 0]) := by
  rintro n rfl e H2 he
  exact .one (.tmp he)
 exact h _ (by simp) Z
open Go.Proofs
noncomputable def A116 : Code := rfA Tryz.f185.body
noncomputable def B116 : Code := rfB Tryz.f185.body
noncomputable def A147 : Code := rfA Tryz.f132.body
noncomputable def B147 : Code := rfB Tryz.f132.body
def F117 (i : Int) (_ : Cf) (m : List (Int × Bool)) : Option Bool :=
 some ((findE m i).getD false)
set_option maxRecDepth 100000 in
theorem cF117 {i : Int} {c : Cf} {m : List (Int × Bool)} {r_ : Bool} (hr : F117 i c m = some r_) : LC Tryz.prog 186 [.p (.int .i64 i), .ptr 2 0] [.box [.p (.slice 1 (c.W.map i64P)), .p (.int .u64 c.Seed), .p (.int .i64 c.Epoch), .p (.int .i64 c.Num), .p (.int .i64 c.Den)], .map (entsOf i64P (fun v => .p (.bool v)) m), .box [.map 1]] (Is (.p (.bool r_)) [.box [.p (.slice 1 (c.W.map i64P)), .p (.int .u64 c.Seed), .p (.int .i64 c.Epoch), .p (.int .i64 c.Num), .p (.int .i64 c.Den)], .map (entsOf i64P (fun v => .p (.bool v)) m), .box [.map 1]]) := by
 refine LC.start Tryz.func186 Z Z Z ?_
 unfold F117 at hr
 refine zQ (zR (zM Z (zN (zT (zQ (zR (zS Z Z Z (zD Z Z Z vt132 Z Z) (zM Z ?_))))))))
 refine zS Z Z Z (LOp.getX (f := i64P) (g := (fun v => .p (.bool v))) i false i64Key Z Z Z Z mt132 zl4 Z Z) ?_
 refine zM Z (zN (zT (LW.ret ?_)))
 obtain rfl := zJ hr
 refine fin_ret (.one (.tmp Z)) ?_
 exact ⟨rfl, rfl⟩
set_option maxRecDepth 100000 in
theorem y116W {c : Cf} {m : List (Int × Bool)} {n i y : Int} {o : Oper} {env : Env} {fo xo : Operand} {ats : Array TypeId} (ho : o.op = .call { callee := .value fo, args := #[xo], argTypes := ats }) (hf : lev env fo = some (.yld 6)) (hx : lev env xo = some (.p (.int .i64 i))) (h : ix c.W i = some y) :
  LOpI Tryz.prog o env [.box [.p (.slice 1 (c.W.map i64P)), .p (.int .u64 c.Seed), .p (.int .i64 c.Epoch), .p (.int .i64 c.Num), .p (.int .i64 c.Den)], .map (entsOf i64P (fun v => .p (.bool v)) m), .box [.map 1], .box [.p (.slice 1 (c.W.map i64P)), .p (.int .u64 c.Seed), .p (.int .i64 c.Epoch), .p (.int .i64 c.Num), .p (.int .i64 c.Den)], .box [.p (.int .i64 n)], .defd, .loop false 21 [(2, .ptr 3 0), (4, .p (.int .i64 0)), (5, .ptr 4 0), (11, .fn 133 [] [.cptr [.slice 1 (c.W.map i64P), .int .u64 c.Seed, .int .i64 c.Epoch, .int .i64 c.Num, .int .i64 c.Den], .fptr (.fn 186 [] [.ptr 2 0])])] #[12] A116 B116] (Is (.p (.bool true)) [.box [.p (.slice 1 (c.W.map i64P)), .p (.int .u64 c.Seed), .p (.int .i64 c.Epoch), .p (.int .i64 c.Num), .p (.int .i64 c.Den)], .map (entsOf i64P (fun v => .p (.bool v)) m), .box [.map 1], .box [.p (.slice 1 (c.W.map i64P)), .p (.int .u64 c.Seed), .p (.int .i64 c.Epoch), .p (.int .i64 c.Num), .p (.int .i64 c.Den)], .box [.p (.int .i64 (IntKind.i64.wrap (n + y)))], .defd, .loop false 21 [(2, .ptr 3 0), (4, .p (.int .i64 0)), (5, .ptr 4 0), (11, .fn 133 [] [.cptr [.slice 1 (c.W.map i64P), .int .u64 c.Seed, .int .i64 c.Epoch, .int .i64 c.Num, .int .i64 c.Den], .fptr (.fn 186 [] [.ptr 2 0])])] #[12] A116 B116]) := by
 refine LOpI.yield (env2 := (6, .p (.int .i64 i)) :: (12, .p (.int .i64 i)) :: [(2, .ptr 3 0), (4, .p (.int .i64 0)), (5, .ptr 4 0), (11, .fn 133 [] [.cptr [.slice 1 (c.W.map i64P), .int .u64 c.Seed, .int .i64 c.Epoch, .int .i64 c.Num, .int .i64 c.Den], .fptr (.fn 186 [] [.ptr 2 0])])]) (H2 := [.box [.p (.slice 1 (c.W.map i64P)), .p (.int .u64 c.Seed), .p (.int .i64 c.Epoch), .p (.int .i64 c.Num), .p (.int .i64 c.Den)], .map (entsOf i64P (fun v => .p (.bool v)) m), .box [.map 1], .box [.p (.slice 1 (c.W.map i64P)), .p (.int .u64 c.Seed), .p (.int .i64 c.Epoch), .p (.int .i64 c.Num), .p (.int .i64 c.Den)], .box [.p (.int .i64 (IntKind.i64.wrap (n + y)))], .defd, .loop true 21 [(2, .ptr 3 0), (4, .p (.int .i64 0)), (5, .ptr 4 0), (11, .fn 133 [] [.cptr [.slice 1 (c.W.map i64P), .int .u64 c.Seed, .int .i64 c.Epoch, .int .i64 c.Num, .int .i64 c.Den], .fptr (.fn 186 [] [.ptr 2 0])])] #[12] A116 B116]) ho hf hx Z Z (by kernel_rfl) (by kernel_rfl) Z (LRg.plain ?_) ?_ Z Z
 ·refine zS Z Z Z (LOp.assign Z Z) ?_
  exact zN ⟨rfl, rfl, rfl⟩
 ·refine LRg.drawLast (m := 7) (by kernel_rfl) (by kernel_rfl) (by kernel_rfl) ?_
  refine zE Z Z Z (zD Z Z Z vt3 Z Z) (zE Z Z Z (zA Z Z ft55_0) (zE Z Z Z (zD Z Z Z vt49 Z Z) (zH Z (zE Z Z Z (LOp.indexAddrX Z Z Z st49 h Z) (zE Z Z Z (LOp.loadC Z Z Z vt3 Z Z) (zE Z Z Z (LOp.bin Z Z Z Z) (LO.nil (zS Z Z Z (LOp.store Z Z Z Z vt3 Z Z Z Z) (zN ?_)))))))))
  exact ⟨rfl, rfl⟩
structure F148W_L1 where
 t8 : Int
 o4_0 : Int
def F148W_s1 (c : Cf) (m : List (Int × Bool)) (x1 : F148W_L1) : Option (F148W_L1 ⊕ F148W_L1) :=
 bif decide (x1.t8 < (c.W.length : Int)) then
  (F117 x1.t8 c m).bind fun v2 =>
  bif v2 then
   (ix c.W x1.t8).bind fun y1 =>
   some (.inl (F148W_L1.mk (IntKind.i64.wrap (x1.t8 + 1)) (IntKind.i64.wrap (x1.o4_0 + y1))))
  else
   some (.inl (F148W_L1.mk (IntKind.i64.wrap (x1.t8 + 1)) x1.o4_0))
 else
  some (.inr (F148W_L1.mk x1.t8 x1.o4_0))
def F148W (c : Cf) (m : List (Int × Bool)) (n : Int) : Option Int :=
 (iter (F148W_s1 c m) big (F148W_L1.mk 0 n)).bind fun v1 =>
 some v1.o4_0
set_option maxRecDepth 100000 in
theorem cF148W {c : Cf} {m : List (Int × Bool)} {n : Int} {r_ : Int} (hr : F148W c m n = some r_) : LC Tryz.prog 133 [.yld 6, .cptr [.slice 1 (c.W.map i64P), .int .u64 c.Seed, .int .i64 c.Epoch, .int .i64 c.Num, .int .i64 c.Den], .fptr (.fn 186 [] [.ptr 2 0])] [.box [.p (.slice 1 (c.W.map i64P)), .p (.int .u64 c.Seed), .p (.int .i64 c.Epoch), .p (.int .i64 c.Num), .p (.int .i64 c.Den)], .map (entsOf i64P (fun v => .p (.bool v)) m), .box [.map 1], .box [.p (.slice 1 (c.W.map i64P)), .p (.int .u64 c.Seed), .p (.int .i64 c.Epoch), .p (.int .i64 c.Num), .p (.int .i64 c.Den)], .box [.p (.int .i64 n)], .defd, .loop false 21 [(2, .ptr 3 0), (4, .p (.int .i64 0)), (5, .ptr 4 0), (11, .fn 133 [] [.cptr [.slice 1 (c.W.map i64P), .int .u64 c.Seed, .int .i64 c.Epoch, .int .i64 c.Num, .int .i64 c.Den], .fptr (.fn 186 [] [.ptr 2 0])])] #[12] A116 B116] (Is (.tup []) [.box [.p (.slice 1 (c.W.map i64P)), .p (.int .u64 c.Seed), .p (.int .i64 c.Epoch), .p (.int .i64 c.Num), .p (.int .i64 c.Den)], .map (entsOf i64P (fun v => .p (.bool v)) m), .box [.map 1], .box [.p (.slice 1 (c.W.map i64P)), .p (.int .u64 c.Seed), .p (.int .i64 c.Epoch), .p (.int .i64 c.Num), .p (.int .i64 c.Den)], .box [.p (.int .i64 r_)], .defd, .loop false 21 [(2, .ptr 3 0), (4, .p (.int .i64 0)), (5, .ptr 4 0), (11, .fn 133 [] [.cptr [.slice 1 (c.W.map i64P), .int .u64 c.Seed, .int .i64 c.Epoch, .int .i64 c.Num, .int .i64 c.Den], .fptr (.fn 186 [] [.ptr 2 0])])] #[12] A116 B116]) := by
 refine LC.start Tryz.func133 Z Z Z ?_
 unfold F148W at hr
 refine zQ (zR (zS Z Z Z (LOp.fieldAddrC Z Z ft55_0 Z) (zS Z Z Z (LOp.loadC Z Z Z vt49 Z Z) (zS Z Z Z (LOp.lenM Z Z (by kernel_rfl)) (zM Z (zN (zT ?_)))))))
 obtain ⟨v1, hb_v1, ho_v1⟩ := zB hr
 clear hr
 refine LW.tail (E := []) (O := [.box [.p (.slice 1 (c.W.map i64P)), .p (.int .u64 c.Seed), .p (.int .i64 c.Epoch), .p (.int .i64 c.Num), .p (.int .i64 c.Den)], .map (entsOf i64P (fun v => .p (.bool v)) m), .box [.map 1], .box [.p (.slice 1 (c.W.map i64P)), .p (.int .u64 c.Seed), .p (.int .i64 c.Epoch), .p (.int .i64 c.Num), .p (.int .i64 c.Den)], .box [.p (.int .i64 v1.o4_0)], .defd, .loop false 21 [(2, .ptr 3 0), (4, .p (.int .i64 0)), (5, .ptr 4 0), (11, .fn 133 [] [.cptr [.slice 1 (c.W.map i64P), .int .u64 c.Seed, .int .i64 c.Epoch, .int .i64 c.Num, .int .i64 c.Den], .fptr (.fn 186 [] [.ptr 2 0])])] #[12] A116 B116]) ?_ (fun env_v1 H_v1 hw_v1 => ?_)
 ·refine LW.block ?_
  refine LW.iterB (E := fun x1 : F148W_L1 => [(0, .yld 6), (2, .fptr (.fn 186 [] [.ptr 2 0])), (7, .p (.int .i64 (c.W.length : Int))), (8, .p (.int .i64 x1.t8))]) (O := fun x1 => [.box [.p (.slice 1 (c.W.map i64P)), .p (.int .u64 c.Seed), .p (.int .i64 c.Epoch), .p (.int .i64 c.Num), .p (.int .i64 c.Den)], .map (entsOf i64P (fun v => .p (.bool v)) m), .box [.map 1], .box [.p (.slice 1 (c.W.map i64P)), .p (.int .u64 c.Seed), .p (.int .i64 c.Epoch), .p (.int .i64 c.Num), .p (.int .i64 c.Den)], .box [.p (.int .i64 x1.o4_0)], .defd, .loop false 21 [(2, .ptr 3 0), (4, .p (.int .i64 0)), (5, .ptr 4 0), (11, .fn 133 [] [.cptr [.slice 1 (c.W.map i64P), .int .u64 c.Seed, .int .i64 c.Epoch, .int .i64 c.Num, .int .i64 c.Den], .fptr (.fn 186 [] [.ptr 2 0])])] #[12] A116 B116]) hb_v1 (zW 7 ⟨rfl, rfl, rfl, rfl, trivial⟩ Z Z Z (zL Z (zL (entsLow (fun _ => rfl) _) (zL Z (zL Z (zL Z (zL Z (zL Z Z)))))))) (fun x1 z_x1 hr hb_x1 => ?_)
  unfold F148W_s1 at hr
  refine zQ (zR (zS Z Z Z (LOp.bin Z Z Z Z) (zN (zT (zQ ?_)))))
  refine zX Z (fun g1 => ?_) (fun g1 => ?_)
  ·
   refine zi g1 hr fun hr => LW.skip (zT (zQ (LW.block (zQ (zR (zM Z (zM Z (zN (zT (zQ (LW.regionI (LOpsI.st Z Z Z (LOpI.of (LOp.loadF Z Z vt131) Z) (LOpsI.st Z Z Z (LOpI.of (LOp.move Z Z) Z) (zb hr fun v2 h_v2 hr => ?_))))))))))))))
   refine LOpsI.st Z Z Z (LOpI.of (zC Z Z Z (by kernel_rfl) (LC.pre (cF117 h_v2) Z (zL Z (zL (entsLow (fun _ => rfl) _) (zL Z Z))) Z)) Z) ?_
   refine LOpsI.st Z Z Z (LOpI.of (LOp.move Z Z) Z) ?_
   refine LOpsI.cases 14 Z (fun (g2 : v2 = true) => ?_) (fun (g2 : v2 = false) => ?_)
   ·
    refine zi g2 hr fun hr => LOpsI.gd Z Z Z (gd g2 Z) Z (LOpI.of (LOp.move Z Z) Z) (LOpsI.gd Z Z Z (gd g2 Z) Z (LOpI.of (LOp.move Z Z) Z) (zb hr fun y1 h_y1 hr => LOpsI.gd Z Z Z (gd g2 Z) Z (y116W Z Z Z h_y1) (LOpsI.gd Z Z Z (gd g2 Z) Z (LOpI.of (LOp.not Z Z) Z) (LOpsI.st Z Z Z (LOpI.of (LOp.pickT Z (gdl g2 Z) Z) Z) (LOpsI.nil (zT (LW.condF Z (LW.skip (inBlk_n (zT (zR (zS Z Z Z (LOp.bin Z Z Z Z) (zM Z (zN (zT ?_)))))))))))))))
    obtain rfl := zJ hr
    exact ⟨_, rfl, zW 7 ⟨rfl, rfl, rfl, rfl, trivial⟩ Z Z Z (zL Z (zL (entsLow (fun _ => rfl) _) (zL Z (zL Z (zL Z (zL Z (zL Z Z)))))))⟩
   ·
    refine zo g2 hr fun hr => LOpsI.sk Z Z Z (gd g2 Z) Z Z (LOpsI.sk Z Z Z (gd g2 Z) Z Z (LOpsI.sk Z Z Z (gd g2 Z) Z Z (LOpsI.sk Z Z Z (gd g2 Z) Z Z (LOpsI.st Z Z Z (LOpI.of (LOp.pickF Z (gdl g2 Z) Z) Z) (LOpsI.nil (zT (LW.condF Z (LW.skip (inBlk_n (zT (zR (zS Z Z Z (LOp.bin Z Z Z Z) (zM Z (zN (zT ?_)))))))))))))))
    obtain rfl := zJ hr
    exact ⟨_, rfl, zW 7 ⟨rfl, rfl, rfl, rfl, trivial⟩ Z Z Z (zL Z (zL (entsLow (fun _ => rfl) _) (zL Z (zL Z (zL Z (zL Z (zL Z Z)))))))⟩
  ·
   refine zo g1 hr fun hr => LW.exit (thn_e (thn_e (inBlk_self (zT ?_))))
   obtain rfl := zJ hr
   have hr := congrArg some (hb_x1 _ rfl)
   obtain rfl := zJ hr
   exact zW 7 trivial Z Z Z (zL Z (zL (entsLow (fun _ => rfl) _) (zL Z (zL Z (zL Z (zL Z (zL Z Z)))))))
 ·have hr := ho_v1
  clear hb_v1
  obtain rfl := zJ hr
  exact fin_endW hw_v1 .none ⟨rfl, rfl⟩
def F116W (c : Cf) (m : List (Int × Bool)) : Option Int :=
 (F64 c).bind fun v1 =>
 bif !v1 then
  some 0
 else
  (F148W c m 0).bind fun v2 =>
  some v2
set_option maxRecDepth 100000 in
theorem cF116W {c : Cf} {m : List (Int × Bool)} {r_ : Int} (hr : F116W c m = some r_) : LC Tryz.prog 185 [.p (cfP c), .fn 133 [] [.cptr [.slice 1 (c.W.map i64P), .int .u64 c.Seed, .int .i64 c.Epoch, .int .i64 c.Num, .int .i64 c.Den], .fptr (.fn 186 [] [.ptr 2 0])]] [.box [.p (.slice 1 (c.W.map i64P)), .p (.int .u64 c.Seed), .p (.int .i64 c.Epoch), .p (.int .i64 c.Num), .p (.int .i64 c.Den)], .map (entsOf i64P (fun v => .p (.bool v)) m), .box [.map 1]] (Is (.p (.int .i64 r_)) [.box [.p (.slice 1 (c.W.map i64P)), .p (.int .u64 c.Seed), .p (.int .i64 c.Epoch), .p (.int .i64 c.Num), .p (.int .i64 c.Den)], .map (entsOf i64P (fun v => .p (.bool v)) m), .box [.map 1]]) := by
 refine LC.ofM Tryz.func185 Z Z Z ?_
 unfold F116W at hr
 refine LWm.seqW (zR (zS Z Z Z (LOp.box Z Z Z Z Z) (zM Z (zN (zT (LWm.seqW (zR (zS Z Z Z (LOp.alloc Z zt3 Z Z) (zS Z Z Z (LOp.store Z Z Z Z vt3 Z Z Z Z) (zN (zT (LWm.seqW (zQ (zR (zS Z Z Z (zD Z Z Z vt55 Z Z) (zb hr fun v1 h_v1 hr => zS Z Z Z (zC Z Z Z (by kernel_rfl) (LC.pure (c64 h_v1) (.cons Conv.p .nil))) (zS Z Z Z (LOp.not Z Z) (zN (zT ?_)))))))))))))))))))
 refine zX Z (fun g1 => ?_) (fun g1 => ?_)
 ·
  refine zi g1 hr fun hr => zQ (zR (zS Z Z Z (zD Z Z Z vt3 Z Z) (zM Z (zN (zT (LW.ret (thn_r ?_)))))))
  obtain rfl := zJ hr
  refine fin_retW (env' := [(4, .p (.int .i64 0))]) (H' := [.box [.p (.slice 1 (c.W.map i64P)), .p (.int .u64 c.Seed), .p (.int .i64 c.Epoch), .p (.int .i64 c.Num), .p (.int .i64 c.Den)], .map (entsOf i64P (fun v => .p (.bool v)) m), .box [.map 1]]) (zW 3 ⟨rfl, trivial⟩ Z Z Z (zL Z (zL (entsLow (fun _ => rfl) _) (zL Z Z)))) (.one (.tmp Z)) ?_
  exact ⟨rfl, rfl⟩
 ·
  refine zo g1 hr fun hr => LW.skip (zT (LWm.seq (LWm.seqW (zR (zM Z (zN (zT ?_)))))))
  refine LWm.weak (env' := [(2, .ptr 3 0), (4, .p (.int .i64 0)), (5, .ptr 4 0), (11, .fn 133 [] [.cptr [.slice 1 (c.W.map i64P), .int .u64 c.Seed, .int .i64 c.Epoch, .int .i64 c.Num, .int .i64 c.Den], .fptr (.fn 186 [] [.ptr 2 0])])]) (H' := [.box [.p (.slice 1 (c.W.map i64P)), .p (.int .u64 c.Seed), .p (.int .i64 c.Epoch), .p (.int .i64 c.Num), .p (.int .i64 c.Den)], .map (entsOf i64P (fun v => .p (.bool v)) m), .box [.map 1], .box [.p (.slice 1 (c.W.map i64P)), .p (.int .u64 c.Seed), .p (.int .i64 c.Epoch), .p (.int .i64 c.Num), .p (.int .i64 c.Den)], .box [.p (.int .i64 0)]]) (zW 5 ⟨rfl, rfl, rfl, rfl, trivial⟩ Z Z Z (zL Z (zL (entsLow (fun _ => rfl) _) (zL Z (zL Z (zL Z Z)))))) ?_
  refine LWm.block (zb hr fun v2 h_v2 hr => LWm.rangeFunc Z (by kernel_rfl) Z (cF148W h_v2) Z Z Z ?_)
  refine ⟨rfl, ?_⟩
  refine thnM_n (LWm.seq (LWm.region (LOpsM.st Z Z Z (zD Z Z Z vt3 Z Z) Z (LOpsM.st Z Z Z (LOp.assign Z Z) Z (LOpsM.nil (thnM_n (LWm.ret ?_)))))))
  obtain rfl := zJ hr
  exact ⟨.inr rfl, _, [(4, .p (.int .i64 v2))], [.box [.p (.slice 1 (c.W.map i64P)), .p (.int .u64 c.Seed), .p (.int .i64 c.Epoch), .p (.int .i64 c.Num), .p (.int .i64 c.Den)], .map (entsOf i64P (fun v => .p (.bool v)) m), .box [.map 1]], _, rfl, zW 3 ⟨rfl, trivial⟩ Z Z Z (zL Z (zL (entsLow (fun _ => rfl) _) (zL Z Z))), (.one (.tmp Z)), ⟨rfl, rfl⟩⟩
open Go.Proofs
def F113 (i : Int) (c : Cf) (slot : Int) (at_ : List Int) : Option Bool :=
 (ix at_ i).bind fun y1 =>
 bif decide (c.Epoch ≠ 0) then
  bif decide (c.Epoch ≠ 0) then
   some ((y1.tmod c.Epoch) == (slot.tmod c.Epoch))
  else none
 else none
set_option maxRecDepth 100000 in
theorem cF113 {i : Int} {c : Cf} {slot : Int} {at_ : List Int} {r_ : Bool} (hr : F113 i c slot at_ = some r_) : LC Tryz.prog 107 [.p (.int .i64 i), .ptr 2 0, .ptr 0 0, .ptr 1 0] [.box [.p (.slice 1 (c.W.map i64P)), .p (.int .u64 c.Seed), .p (.int .i64 c.Epoch), .p (.int .i64 c.Num), .p (.int .i64 c.Den)], .box [.p (.int .i64 slot)], .box [.p (.slice 1 (at_.map i64P))]] (Is (.p (.bool r_)) [.box [.p (.slice 1 (c.W.map i64P)), .p (.int .u64 c.Seed), .p (.int .i64 c.Epoch), .p (.int .i64 c.Num), .p (.int .i64 c.Den)], .box [.p (.int .i64 slot)], .box [.p (.slice 1 (at_.map i64P))]]) := by
 refine LC.start Tryz.func107 Z Z Z ?_
 unfold F113 at hr
 refine zQ (zR (zM Z (zN (zT (zQ (LW.draw (by kernel_rfl) (by kernel_rfl) (zE Z Z Z (zD Z Z Z vt49 Z Z) (zH Z (zb hr fun y1 h_y1 hr => zE Z Z Z (LOp.indexAddrX Z Z Z st49 h_y1 Z) (zE Z Z Z (LOp.loadC Z Z Z vt3 Z Z) (zE Z Z Z (zA Z Z ft55_2) (zE Z Z Z (zD Z Z Z vt3 Z Z) (zg hr fun q1 hr => zE Z Z Z (LOp.rem Z Z Z (of_decide_eq_true q1)) (zE Z Z Z (zD Z Z Z vt3 Z Z) (zE Z Z Z (zA Z Z ft55_2) (zE Z Z Z (zD Z Z Z vt3 Z Z) (zg hr fun q2 hr => zE Z Z Z (LOp.rem Z Z Z (of_decide_eq_true q2)) (zE Z Z Z (LOp.bin Z Z Z Z) (zH Z (LO.nil ?_))))))))))))))))))))
 refine zT (LW.ret ?_)
 obtain rfl := zJ hr
 refine fin_ret (.one (.tmp Z)) ?_
 exact ⟨rfl, rfl⟩
set_option maxRecDepth 100000 in
theorem y147C {c : Cf} {slot : Int} {at_ : List Int} {l : List Int} {i : Int} {o : Oper} {env : Env} {fo xo : Operand} {ats : Array TypeId} (ho : o.op = .call { callee := .value fo, args := #[xo], argTypes := ats }) (hf : lev env fo = some (.yld 6)) (hx : lev env xo = some (.p (.int .i64 i))) (q : room l.length [i].length 8 = true) :
  LOpI Tryz.prog o env [.box [.p (.slice 1 (c.W.map i64P)), .p (.int .u64 c.Seed), .p (.int .i64 c.Epoch), .p (.int .i64 c.Num), .p (.int .i64 c.Den)], .box [.p (.int .i64 slot)], .box [.p (.slice 1 (at_.map i64P))], .box [.vec 1 4 (l.map i64P).length 0 (l.map i64P).length], .vec 1 (l.map i64P), .defd, .loop false 13 [(2, .ptr 3 0), (4, .zs), (6, .fn 133 [] [.cptr [.slice 1 (c.W.map i64P), .int .u64 c.Seed, .int .i64 c.Epoch, .int .i64 c.Num, .int .i64 c.Den], .fptr (.fn 107 [] [.ptr 2 0, .ptr 0 0, .ptr 1 0])])] #[7] A147 B147] (Is (.p (.bool true)) [.box [.p (.slice 1 (c.W.map i64P)), .p (.int .u64 c.Seed), .p (.int .i64 c.Epoch), .p (.int .i64 c.Num), .p (.int .i64 c.Den)], .box [.p (.int .i64 slot)], .box [.p (.slice 1 (at_.map i64P))], .box [.vec 1 4 ((l ++ [i]).map i64P).length 0 ((l ++ [i]).map i64P).length], .vec 1 ((l ++ [i]).map i64P), .defd, .loop false 13 [(2, .ptr 3 0), (4, .zs), (6, .fn 133 [] [.cptr [.slice 1 (c.W.map i64P), .int .u64 c.Seed, .int .i64 c.Epoch, .int .i64 c.Num, .int .i64 c.Den], .fptr (.fn 107 [] [.ptr 2 0, .ptr 0 0, .ptr 1 0])])] #[7] A147 B147]) := by
 refine LOpI.yield (env2 := (5, .p (.int .i64 i)) :: (7, .p (.int .i64 i)) :: [(2, .ptr 3 0), (4, .zs), (6, .fn 133 [] [.cptr [.slice 1 (c.W.map i64P), .int .u64 c.Seed, .int .i64 c.Epoch, .int .i64 c.Num, .int .i64 c.Den], .fptr (.fn 107 [] [.ptr 2 0, .ptr 0 0, .ptr 1 0])])]) (H2 := [.box [.p (.slice 1 (c.W.map i64P)), .p (.int .u64 c.Seed), .p (.int .i64 c.Epoch), .p (.int .i64 c.Num), .p (.int .i64 c.Den)], .box [.p (.int .i64 slot)], .box [.p (.slice 1 (at_.map i64P))], .box [.vec 1 4 ((l ++ [i]).map i64P).length 0 ((l ++ [i]).map i64P).length], .vec 1 ((l ++ [i]).map i64P), .defd, .loop true 13 [(2, .ptr 3 0), (4, .zs), (6, .fn 133 [] [.cptr [.slice 1 (c.W.map i64P), .int .u64 c.Seed, .int .i64 c.Epoch, .int .i64 c.Num, .int .i64 c.Den], .fptr (.fn 107 [] [.ptr 2 0, .ptr 0 0, .ptr 1 0])])] #[7] A147 B147]) ho hf hx Z Z (by kernel_rfl) (by kernel_rfl) Z (LRg.plain ?_) (LRg.plain ?_) Z Z
 ·refine zS Z Z Z (LOp.assign Z Z) ?_
  exact zN ⟨rfl, rfl, rfl⟩
 ·refine zS Z Z Z (zD Z Z Z vt49 Z Z) ?_
  refine zM Z (zS Z Z Z (LOp.buildSlice Z st49 Z Z Z Z Z) (zS Z Z Z (LOp.appendX i64P l [i] rfl Z Z Z Src.p Z st49 q Z) (zS Z Z Z (LOp.store Z Z Z Z vt49 Z Z Z Z) (zN ?_))))
  exact ⟨rfl, rfl⟩
structure F148C_L1 where
 t8 : Int
 o4 : List Int
def F148C_s1 (c : Cf) (slot : Int) (at_ : List Int) (x1 : F148C_L1) : Option (F148C_L1 ⊕ F148C_L1) :=
 bif decide (x1.t8 < (c.W.length : Int)) then
  (F113 x1.t8 c slot at_).bind fun v2 =>
  bif v2 then
   bif room x1.o4.length [x1.t8].length 8 then
    some (.inl (F148C_L1.mk (IntKind.i64.wrap (x1.t8 + 1)) (x1.o4 ++ [x1.t8])))
   else none
  else
   some (.inl (F148C_L1.mk (IntKind.i64.wrap (x1.t8 + 1)) x1.o4))
 else
  some (.inr (F148C_L1.mk x1.t8 x1.o4))
def F148C (c : Cf) (slot : Int) (at_ : List Int) (l : List Int) : Option (List Int) :=
 (iter (F148C_s1 c slot at_) big (F148C_L1.mk 0 l)).bind fun v1 =>
 some v1.o4
set_option maxRecDepth 100000 in
theorem cF148C {c : Cf} {slot : Int} {at_ : List Int} {l : List Int} {r_ : List Int} (hr : F148C c slot at_ l = some r_) : LC Tryz.prog 133 [.yld 6, .cptr [.slice 1 (c.W.map i64P), .int .u64 c.Seed, .int .i64 c.Epoch, .int .i64 c.Num, .int .i64 c.Den], .fptr (.fn 107 [] [.ptr 2 0, .ptr 0 0, .ptr 1 0])] [.box [.p (.slice 1 (c.W.map i64P)), .p (.int .u64 c.Seed), .p (.int .i64 c.Epoch), .p (.int .i64 c.Num), .p (.int .i64 c.Den)], .box [.p (.int .i64 slot)], .box [.p (.slice 1 (at_.map i64P))], .box [.vec 1 4 (l.map i64P).length 0 (l.map i64P).length], .vec 1 (l.map i64P), .defd, .loop false 13 [(2, .ptr 3 0), (4, .zs), (6, .fn 133 [] [.cptr [.slice 1 (c.W.map i64P), .int .u64 c.Seed, .int .i64 c.Epoch, .int .i64 c.Num, .int .i64 c.Den], .fptr (.fn 107 [] [.ptr 2 0, .ptr 0 0, .ptr 1 0])])] #[7] A147 B147] (Is (.tup []) [.box [.p (.slice 1 (c.W.map i64P)), .p (.int .u64 c.Seed), .p (.int .i64 c.Epoch), .p (.int .i64 c.Num), .p (.int .i64 c.Den)], .box [.p (.int .i64 slot)], .box [.p (.slice 1 (at_.map i64P))], .box [.vec 1 4 (r_.map i64P).length 0 (r_.map i64P).length], .vec 1 (r_.map i64P), .defd, .loop false 13 [(2, .ptr 3 0), (4, .zs), (6, .fn 133 [] [.cptr [.slice 1 (c.W.map i64P), .int .u64 c.Seed, .int .i64 c.Epoch, .int .i64 c.Num, .int .i64 c.Den], .fptr (.fn 107 [] [.ptr 2 0, .ptr 0 0, .ptr 1 0])])] #[7] A147 B147]) := by
 refine LC.start Tryz.func133 Z Z Z ?_
 unfold F148C at hr
 refine zQ (zR (zS Z Z Z (LOp.fieldAddrC Z Z ft55_0 Z) (zS Z Z Z (LOp.loadC Z Z Z vt49 Z Z) (zS Z Z Z (LOp.lenM Z Z (by kernel_rfl)) (zM Z (zN (zT ?_)))))))
 obtain ⟨v1, hb_v1, ho_v1⟩ := zB hr
 clear hr
 refine LW.tail (E := []) (O := [.box [.p (.slice 1 (c.W.map i64P)), .p (.int .u64 c.Seed), .p (.int .i64 c.Epoch), .p (.int .i64 c.Num), .p (.int .i64 c.Den)], .box [.p (.int .i64 slot)], .box [.p (.slice 1 (at_.map i64P))], .box [.vec 1 4 (v1.o4.map i64P).length 0 (v1.o4.map i64P).length], .vec 1 (v1.o4.map i64P), .defd, .loop false 13 [(2, .ptr 3 0), (4, .zs), (6, .fn 133 [] [.cptr [.slice 1 (c.W.map i64P), .int .u64 c.Seed, .int .i64 c.Epoch, .int .i64 c.Num, .int .i64 c.Den], .fptr (.fn 107 [] [.ptr 2 0, .ptr 0 0, .ptr 1 0])])] #[7] A147 B147]) ?_ (fun env_v1 H_v1 hw_v1 => ?_)
 ·refine LW.block ?_
  refine LW.iterB (E := fun x1 : F148C_L1 => [(0, .yld 6), (2, .fptr (.fn 107 [] [.ptr 2 0, .ptr 0 0, .ptr 1 0])), (7, .p (.int .i64 (c.W.length : Int))), (8, .p (.int .i64 x1.t8))]) (O := fun x1 => [.box [.p (.slice 1 (c.W.map i64P)), .p (.int .u64 c.Seed), .p (.int .i64 c.Epoch), .p (.int .i64 c.Num), .p (.int .i64 c.Den)], .box [.p (.int .i64 slot)], .box [.p (.slice 1 (at_.map i64P))], .box [.vec 1 4 (x1.o4.map i64P).length 0 (x1.o4.map i64P).length], .vec 1 (x1.o4.map i64P), .defd, .loop false 13 [(2, .ptr 3 0), (4, .zs), (6, .fn 133 [] [.cptr [.slice 1 (c.W.map i64P), .int .u64 c.Seed, .int .i64 c.Epoch, .int .i64 c.Num, .int .i64 c.Den], .fptr (.fn 107 [] [.ptr 2 0, .ptr 0 0, .ptr 1 0])])] #[7] A147 B147]) hb_v1 (zW 7 ⟨rfl, rfl, rfl, rfl, trivial⟩ Z Z Z Z) (fun x1 z_x1 hr hb_x1 => ?_)
  unfold F148C_s1 at hr
  refine zQ (zR (zS Z Z Z (LOp.bin Z Z Z Z) (zN (zT (zQ ?_)))))
  refine zX Z (fun g1 => ?_) (fun g1 => ?_)
  ·
   refine zi g1 hr fun hr => LW.skip (zT (zQ (LW.block (zQ (zR (zM Z (zM Z (zN (zT (zQ (LW.regionI (LOpsI.st Z Z Z (LOpI.of (LOp.loadF Z Z vt131) Z) (LOpsI.st Z Z Z (LOpI.of (LOp.move Z Z) Z) (zb hr fun v2 h_v2 hr => LOpsI.st Z Z Z (LOpI.of (zC Z Z Z (by kernel_rfl) (LC.pre (cF113 h_v2) Z Z Z)) Z) (LOpsI.st Z Z Z (LOpI.of (LOp.move Z Z) Z) ?_)))))))))))))))
   refine LOpsI.cases 14 Z (fun (g2 : v2 = true) => ?_) (fun (g2 : v2 = false) => ?_)
   ·
    refine zi g2 hr fun hr => LOpsI.gd Z Z Z (gd g2 Z) Z (LOpI.of (LOp.move Z Z) Z) (LOpsI.gd Z Z Z (gd g2 Z) Z (LOpI.of (LOp.move Z Z) Z) (zg hr fun q1 hr => LOpsI.gd Z Z Z (gd g2 Z) Z (y147C Z Z Z q1) (LOpsI.gd Z Z Z (gd g2 Z) Z (LOpI.of (LOp.not Z Z) Z) (LOpsI.st Z Z Z (LOpI.of (LOp.pickT Z (gdl g2 Z) Z) Z) (LOpsI.nil (zT (LW.condF Z (LW.skip (inBlk_n (zT (zR (zS Z Z Z (LOp.bin Z Z Z Z) (zM Z (zN (zT ?_)))))))))))))))
    obtain rfl := zJ hr
    exact ⟨_, rfl, zW 7 ⟨rfl, rfl, rfl, rfl, trivial⟩ Z Z Z rfl⟩
   ·
    refine zo g2 hr fun hr => LOpsI.sk Z Z Z (gd g2 Z) Z Z (LOpsI.sk Z Z Z (gd g2 Z) Z Z (LOpsI.sk Z Z Z (gd g2 Z) Z Z (LOpsI.sk Z Z Z (gd g2 Z) Z Z (LOpsI.st Z Z Z (LOpI.of (LOp.pickF Z (gdl g2 Z) Z) Z) (LOpsI.nil (zT (LW.condF Z (LW.skip (inBlk_n (zT (zR (zS Z Z Z (LOp.bin Z Z Z Z) (zM Z (zN (zT ?_)))))))))))))))
    obtain rfl := zJ hr
    exact ⟨_, rfl, zW 7 ⟨rfl, rfl, rfl, rfl, trivial⟩ Z Z Z rfl⟩
  ·
   refine zo g1 hr fun hr => LW.exit (thn_e (thn_e (inBlk_self (zT ?_))))
   obtain rfl := zJ hr
   have hr := congrArg some (hb_x1 _ rfl)
   obtain rfl := zJ hr
   exact zW 7 trivial Z Z Z Z
 ·have hr := ho_v1
  clear hb_v1
  obtain rfl := zJ hr
  exact fin_endW hw_v1 .none ⟨rfl, rfl⟩
def F147C (c : Cf) (slot : Int) (at_ : List Int) : Option (List Int) :=
 (F148C c slot at_ []).bind fun v1 =>
 some v1
set_option maxRecDepth 100000 in
theorem cF147C {c : Cf} {slot : Int} {at_ : List Int} {r_ : List Int} (hr : F147C c slot at_ = some r_) : LC Tryz.prog 132 [.zs, .fn 133 [] [.cptr [.slice 1 (c.W.map i64P), .int .u64 c.Seed, .int .i64 c.Epoch, .int .i64 c.Num, .int .i64 c.Den], .fptr (.fn 107 [] [.ptr 2 0, .ptr 0 0, .ptr 1 0])]] [.box [.p (.slice 1 (c.W.map i64P)), .p (.int .u64 c.Seed), .p (.int .i64 c.Epoch), .p (.int .i64 c.Num), .p (.int .i64 c.Den)], .box [.p (.int .i64 slot)], .box [.p (.slice 1 (at_.map i64P))]] (Is (.vec 1 4 (r_.map i64P).length 0 (r_.map i64P).length) [.box [.p (.slice 1 (c.W.map i64P)), .p (.int .u64 c.Seed), .p (.int .i64 c.Epoch), .p (.int .i64 c.Num), .p (.int .i64 c.Den)], .box [.p (.int .i64 slot)], .box [.p (.slice 1 (at_.map i64P))], .box [.vec 1 4 (r_.map i64P).length 0 (r_.map i64P).length], .vec 1 (r_.map i64P), .dead, .dead]) := by
 refine LC.ofM Tryz.func132 Z Z Z ?_
 unfold F147C at hr
 refine LWm.seqW (zR (zS Z Z Z (LOp.box Z Z Z Z Z) (zM Z (zN (zT (LWm.seq (LWm.seqW (zR (zM Z (zN (zT (LWm.ent (Ent.lazyCell (i := 3) (j := 0) (m := 1) Z Z Z Z Z Z) (LWm.weak (env' := [(2, .ptr 3 0), (4, .zs), (6, .fn 133 [] [.cptr [.slice 1 (c.W.map i64P), .int .u64 c.Seed, .int .i64 c.Epoch, .int .i64 c.Num, .int .i64 c.Den], .fptr (.fn 107 [] [.ptr 2 0, .ptr 0 0, .ptr 1 0])])]) (H' := [.box [.p (.slice 1 (c.W.map i64P)), .p (.int .u64 c.Seed), .p (.int .i64 c.Epoch), .p (.int .i64 c.Num), .p (.int .i64 c.Den)], .box [.p (.int .i64 slot)], .box [.p (.slice 1 (at_.map i64P))], .box [.vec 1 4 (([] : List Int).map i64P).length 0 (([] : List Int).map i64P).length], .vec 1 (([] : List Int).map i64P)]) (zW 5 ⟨rfl, rfl, rfl, trivial⟩ Z Z Z Z) (LWm.block (zb hr fun v1 h_v1 hr => LWm.rangeFunc Z (by kernel_rfl) Z (cF148C h_v1) Z Z Z ?_)))))))))))))))
 refine ⟨rfl, ?_⟩
 refine thnM_n (LWm.seq (LWm.region (LOpsM.st Z Z Z (zD Z Z Z vt49 Z Z) Z (LOpsM.st Z Z Z (LOp.assign Z Z) Z (LOpsM.nil (thnM_n (LWm.ret ?_)))))))
 obtain rfl := zJ hr
 exact ⟨.inr rfl, _, [(4, .vec 1 4 (v1.map i64P).length 0 (v1.map i64P).length)], [.box [.p (.slice 1 (c.W.map i64P)), .p (.int .u64 c.Seed), .p (.int .i64 c.Epoch), .p (.int .i64 c.Num), .p (.int .i64 c.Den)], .box [.p (.int .i64 slot)], .box [.p (.slice 1 (at_.map i64P))], .box [.vec 1 4 (v1.map i64P).length 0 (v1.map i64P).length], .vec 1 (v1.map i64P), .dead, .dead], _, rfl, zW 7 ⟨rfl, trivial⟩ Z Z Z rfl, (.one (.tmp Z)), ⟨rfl, rfl⟩⟩
def F111C (c : Cf) (slot : Int) (at_ : List Int) : Option (List Int) :=
 (F147C c slot at_).bind fun v1 =>
 some v1
set_option maxRecDepth 100000 in
theorem cF111C {c : Cf} {slot : Int} {at_ : List Int} {r_ : List Int} (hr : F111C c slot at_ = some r_) : LC Tryz.prog 105 [.fn 133 [] [.cptr [.slice 1 (c.W.map i64P), .int .u64 c.Seed, .int .i64 c.Epoch, .int .i64 c.Num, .int .i64 c.Den], .fptr (.fn 107 [] [.ptr 2 0, .ptr 0 0, .ptr 1 0])]] [.box [.p (.slice 1 (c.W.map i64P)), .p (.int .u64 c.Seed), .p (.int .i64 c.Epoch), .p (.int .i64 c.Num), .p (.int .i64 c.Den)], .box [.p (.int .i64 slot)], .box [.p (.slice 1 (at_.map i64P))]] (Is (.vec 1 4 (r_.map i64P).length 0 (r_.map i64P).length) [.box [.p (.slice 1 (c.W.map i64P)), .p (.int .u64 c.Seed), .p (.int .i64 c.Epoch), .p (.int .i64 c.Num), .p (.int .i64 c.Den)], .box [.p (.int .i64 slot)], .box [.p (.slice 1 (at_.map i64P))], .box [.vec 1 4 (r_.map i64P).length 0 (r_.map i64P).length], .vec 1 (r_.map i64P), .dead, .dead]) := by
 refine LC.start Tryz.func105 Z Z Z ?_
 unfold F111C at hr
 refine zQ (zR (zM Z (zN (zT (zQ (zR (zM Z (zb hr fun v1 h_v1 hr => zS Z Z Z (zC Z Z Z (by kernel_rfl) (cF147C h_v1)) (zM Z (zN (zT (LW.ret ?_))))))))))))
 obtain rfl := zJ hr
 refine fin_ret (.one (.tmp Z)) ?_
 exact ⟨rfl, rfl⟩
open Go.Proofs
structure F57_L1 where
 i : Int
 r : Int
open Go.Proofs
structure F69_L1 where
 i : Int
 out : List Int
open Go.Proofs
structure F70_L1 where
 t11 : Int
 o1 : List (Int × Bool)
def F70_s1 (l : List Int) (x1 : F70_L1) : Option (F70_L1 ⊕ F70_L1) :=
 bif decide (x1.t11 < (l.length : Int)) then
  (ix l x1.t11).bind fun y1 =>
  some (.inl (F70_L1.mk (IntKind.i64.wrap (x1.t11 + 1)) (setE x1.o1 y1 true)))
 else
  some (.inr (F70_L1.mk x1.t11 x1.o1))
def F70 (c : Cf) (l : List Int) : Option Int :=
 (iter (F70_s1 l) big (F70_L1.mk 0 ([] : List (Int × Bool)))).bind fun v1 =>
 (F116W c v1.o1).bind fun v2 =>
 some v2
set_option maxRecDepth 100000 in
theorem c70 {c : Cf} {l : List Int} {r_ : Int} (hr : F70 c l = some r_) : LPure Tryz.prog 156 [cfP c, .slice 1 (l.map i64P)] [.int .i64 r_] := by
 refine LPure.start Tryz.func156 Z Z Z Z ?_
 unfold F70 at hr
 refine zQ (zR (zS Z Z Z (LOp.box Z Z Z Z Z) (zM Z (zN (zT (zQ (zR (zS Z Z Z (LOp.makeMap Z Z Z) (zS Z Z Z (LOp.alloc Z zt132 Z Z) (zS Z Z Z (LOp.store Z Z Z Z vt132 Z Z Z Z) (zN (zT (zQ (zQ (zR (zM Z (zS Z Z Z (LOp.lenM Z Z (by kernel_rfl)) (zM Z (zN (zT ?_))))))))))))))))))))
 obtain ⟨v1, hb_v1, ho_v1⟩ := zB hr
 clear hr
 refine LW.tail (E := [(2, .ptr 0 0), (4, .p (.int .i64 0)), (5, .ptr 2 0)]) (O := [.box [.p (.slice 1 (c.W.map i64P)), .p (.int .u64 c.Seed), .p (.int .i64 c.Epoch), .p (.int .i64 c.Num), .p (.int .i64 c.Den)], .map (entsOf i64P (fun v => .p (.bool v)) v1.o1), .box [.map 1]]) ?_ (fun env_v1 H_v1 hw_v1 => ?_)
 ·refine LW.block ?_
  refine LW.iterB (E := fun x1 : F70_L1 => [(2, .ptr 0 0), (4, .p (.int .i64 0)), (5, .ptr 2 0), (9, .p (.slice 1 (l.map i64P))), (10, .p (.int .i64 (l.length : Int))), (11, .p (.int .i64 x1.t11))]) (O := fun x1 => [.box [.p (.slice 1 (c.W.map i64P)), .p (.int .u64 c.Seed), .p (.int .i64 c.Epoch), .p (.int .i64 c.Num), .p (.int .i64 c.Den)], .map (entsOf i64P (fun v => .p (.bool v)) x1.o1), .box [.map 1]]) hb_v1 (zW 3 ⟨rfl, rfl, rfl, rfl, rfl, rfl, trivial⟩ Z Z Z (zL Z (zL (entsLow (fun _ => rfl) _) (zL Z Z)))) (fun x1 z_x1 hr hb_x1 => ?_)
  unfold F70_s1 at hr
  refine zQ (zR (zS Z Z Z (LOp.bin Z Z Z Z) (zN (zT (zQ ?_)))))
  refine zX Z (fun g1 => ?_) (fun g1 => ?_)
  ·
   refine zi g1 hr fun hr => LW.skip (zT (zQ (LW.block (zQ (zR (zb hr fun y1 h_y1 hr => zS Z Z Z (LOp.indexAddrX Z Z Z st49 h_y1 Z) (zS Z Z Z (LOp.loadC Z Z Z vt3 Z Z) (zM Z (zN (zT (zR (zS Z Z Z (zD Z Z Z vt132 Z Z) (zM Z ?_)))))))))))))
   refine zS Z Z Z (LOp.setX (f := i64P) (g := (fun v => .p (.bool v))) y1 true i64Key (.inl Z) Z Z Z Z Z mt132 Z) ?_
   refine zN (inBlk_n (zT (zR (zS Z Z Z (LOp.bin Z Z Z Z) (zM Z (zN (zT ?_)))))))
   obtain rfl := zJ hr
   exact ⟨_, rfl, zW 3 ⟨rfl, rfl, rfl, rfl, rfl, rfl, trivial⟩ Z Z Z (zL Z (zL (entsLow (fun _ => rfl) _) (zL Z Z)))⟩
  ·
   refine zo g1 hr fun hr => LW.exit (thn_e (thn_e (inBlk_self (zT ?_))))
   obtain rfl := zJ hr
   have hr := congrArg some (hb_x1 _ rfl)
   obtain rfl := zJ hr
   exact zW 3 ⟨Z, Z, Z, trivial⟩ Z Z Z (zL Z (zL (entsLow (fun _ => rfl) _) (zL Z Z)))
 ·have hr := ho_v1
  clear hb_v1
  refine zT (LW.weak hw_v1 (zQ (LW.draw (by kernel_rfl) (by kernel_rfl) (zE Z Z Z (zD Z Z Z vt55 Z Z) (zE Z Z Z (zD Z Z Z vt55 Z Z) (zE Z Z Z (LOp.makeFunc Z Z Z) (zE Z Z Z (zC Z Z Z (by kernel_rfl) (c112 (c := c))) (zb hr fun v2 h_v2 hr => zE Z Z Z (zC Z Z Z (by kernel_rfl) (cF116W h_v2)) (zH Z (LO.nil (zT (LW.ret ?_))))))))))))
  obtain rfl := zJ hr
  refine finP_ret (.one (.tmp Z)) ?_
  exact Conv.p
def F65 (c : Cf) (slot : Int) : Option (List Int) :=
 (F107 c slot).bind fun v1 =>
 bif !v1 then
  some []
 else
  bif decide (c.Epoch ≠ 0) then
   (F60 (step c.Seed (IntKind.u64.wrap (IntKind.i64.wrap (slot.tdiv c.Epoch)))) (c.W.length : Int)).bind fun v2 =>
   (F111C c slot v2).bind fun v3 =>
   some v3
  else none
set_option maxRecDepth 100000 in
theorem c65 {c : Cf} {slot : Int} {r_ : (List Int)} (hr : F65 c slot = some r_) : LPure Tryz.prog 66 [cfP c, .int .i64 slot] [.slice 1 (r_.map i64P)] := by
 refine LPure.start Tryz.func66 Z Z Z Z ?_
 unfold F65 at hr
 refine zQ (zR (zS Z Z Z (LOp.box Z Z Z Z Z) (zS Z Z Z (LOp.box Z Z Z Z Z) (zM Z (zN (zT (zQ (zQ (zR (zS Z Z Z (zD Z Z Z vt55 Z Z) (zS Z Z Z (zD Z Z Z vt3 Z Z) (zb hr fun v1 h_v1 hr => zS Z Z Z (zC Z Z Z (by kernel_rfl) (LC.pure (c107 h_v1) (.cons Conv.p (.cons Conv.p .nil)))) (zS Z Z Z (LOp.not Z Z) (zN (zT ?_)))))))))))))))
 refine zX Z (fun g1 => ?_) (fun g1 => ?_)
 ·
  refine zi g1 hr fun hr => zQ (zR (zM Z (zN (zT (LW.ret (thn_r ?_))))))
  obtain rfl := zJ hr
  refine finP_ret (.one (.tmp Z)) ?_
  exact Conv.zs
 ·
  refine zo g1 hr fun hr => LW.skip (zT (zQ (LW.ent (Ent.slot Z) (LW.drawW (by kernel_rfl) (by kernel_rfl) ?_))))
  refine zF (F := []) (s := none) Z Z Z (fun H _ => zA Z Z ft55_1) Z ?_
  refine zF Z Z Z (LAt.load Z Z Z vt22 Z Z) Z (zF Z Z Z (LAt.load Z Z Z vt3 Z Z) Z ?_)
  refine zF (F := []) (s := none) Z Z Z (fun H _ => zA Z Z ft55_2) Z ?_
  refine zF Z Z Z (LAt.load Z Z Z vt3 Z Z) Z (zg hr fun q1 hr => ?_)
  refine zF (F := []) (s := none) Z Z Z (fun H _ => LOp.quo Z Z Z (of_decide_eq_true q1)) Z ?_
  refine zF (F := []) (s := none) Z Z Z (fun H _ => LOp.convert (k' := .u64) Z Z (by kernel_rfl)) Z ?_
  refine zF (F := []) (s := none) Z Z Z (fun H _ => zC Z Z Z (by kernel_rfl) (LC.pure (c108 (h := c.Seed) (x := (IntKind.u64.wrap (IntKind.i64.wrap (slot.tdiv c.Epoch))))) (.cons Conv.p (.cons Conv.p .nil)))) Z ?_
  refine zF (F := []) (s := none) Z Z Z (fun H _ => zA Z Z ft55_0) Z ?_
  refine zF Z Z Z (LAt.load Z Z Z vt49 Z Z) Z ?_
  refine zF (F := []) (s := none) Z Z Z (fun H _ => LOp.lenM Z Z (by kernel_rfl)) Z ?_
  obtain ⟨v2, h_v2, hr⟩ := zB hr
  refine zF (F := []) (s := none) Z Z Z (fun H _ => zC Z Z Z (by kernel_rfl) (LC.pure (c60 h_v2) (.cons Conv.p (.cons Conv.p .nil)))) Z ?_
  refine zF Z Z Z (LAt.alloc Z zt49 (id := 2) Z) Z (zF Z Z Z (LAt.store Z Z Z Z vt49 Z Z Z) Z ?_)
  refine LF.nil ⟨by kernel_rfl, ?_⟩
  refine zT (zQ (zR (zS Z Z Z (zD Z Z Z vt55 Z Z) (zS Z Z Z (LOp.makeFunc Z Z Z) (zS Z Z Z (zC Z Z Z (by kernel_rfl) (c112 (c := c))) (zb hr fun v3 h_v3 hr => zS Z Z Z (zC Z Z Z (by kernel_rfl) (cF111C h_v3)) (zM Z (zN (zT (LW.ret ?_))))))))))
  obtain rfl := zJ hr
  refine finP_ret (.one (.tmp Z)) ?_
  exact (Conv.vecAll Z Z Z)
def F63 (c : Cf) (slot : Int) : Option Int :=
 (F107 c slot).bind fun v1 =>
 bif !v1 then
  some (-1)
 else
  bif decide ((IntKind.u64.wrap ((c.W.length : Int))) ≠ 0) then
   some (IntKind.i64.wrap ((step (step c.Seed 4294967296) (IntKind.u64.wrap (slot))).tmod (IntKind.u64.wrap ((c.W.length : Int)))))
  else none
set_option maxRecDepth 100000 in
theorem c63 {c : Cf} {slot : Int} {r_ : Int} (hr : F63 c slot = some r_) : LPure Tryz.prog 21 [cfP c, .int .i64 slot] [.int .i64 r_] := by
 refine LPure.start Tryz.func21 Z Z Z Z ?_
 unfold F63 at hr
 refine zQ (zR (zS Z Z Z (LOp.box Z Z Z Z Z) (zM Z (zN (zT (zQ (zQ (zR (zS Z Z Z (zD Z Z Z vt55 Z Z) (zM Z (zb hr fun v1 h_v1 hr => zS Z Z Z (zC Z Z Z (by kernel_rfl) (LC.pure (c107 h_v1) (.cons Conv.p (.cons Conv.p .nil)))) (zS Z Z Z (LOp.not Z Z) (zN (zT ?_))))))))))))))
 refine zX Z (fun g1 => ?_) (fun g1 => ?_)
 ·
  refine zi g1 hr fun hr => zQ (zR (zM Z (zN (zT (LW.ret (thn_r ?_))))))
  obtain rfl := zJ hr
  refine finP_ret (.one (.tmp Z)) ?_
  exact Conv.p
 ·
  refine zo g1 hr fun hr => LW.skip (zT (zQ (LW.draw (by kernel_rfl) (by kernel_rfl) (zE Z Z Z (zA Z Z ft55_1) (zE Z Z Z (zD Z Z Z vt22 Z Z) (zE Z Z Z (zC Z Z Z (by kernel_rfl) (LC.pure (c108 (h := c.Seed) (x := 4294967296)) (.cons Conv.p (.cons Conv.p .nil)))) (zH Z (zE Z Z Z (LOp.convert (k' := .u64) Z Z (by kernel_rfl)) (zE Z Z Z (zC Z Z Z (by kernel_rfl) (LC.pure (c108 (h := (step c.Seed 4294967296)) (x := (IntKind.u64.wrap (slot)))) (.cons Conv.p (.cons Conv.p .nil)))) (zE Z Z Z (zA Z Z ft55_0) (zE Z Z Z (zD Z Z Z vt49 Z Z) (zE Z Z Z (LOp.lenM Z Z (by kernel_rfl)) (zE Z Z Z (LOp.convert (k' := .u64) Z Z (by kernel_rfl)) (zg hr fun q1 hr => zE Z Z Z (LOp.rem Z Z Z (of_decide_eq_true q1)) (zE Z Z Z (LOp.convert (k' := .i64) Z Z (by kernel_rfl)) (zH Z (LO.nil (zT (LW.ret ?_)))))))))))))))))))
  obtain rfl := zJ hr
  refine finP_ret (.one (.tmp Z)) ?_
  exact Conv.p
def F74 (c : Cf) (slot : Int) (who : Int) : Option Bool :=
 (F65 c slot).bind fun v1 =>
 (F119 v1 who).bind fun v2 =>
 some v2
set_option maxRecDepth 100000 in
theorem c74 {c : Cf} {slot : Int} {who : Int} {r_ : Bool} (hr : F74 c slot who = some r_) : LPure Tryz.prog 24 [cfP c, .int .i64 slot, .int .i64 who] [.bool r_] := by
 refine LPure.start Tryz.func24 Z Z Z Z ?_
 unfold F74 at hr
 refine zQ (zR (zS Z Z Z (LOp.box Z Z Z Z Z) (zM Z (zN (zT (zQ (zR (zS Z Z Z (zD Z Z Z vt55 Z Z) (zM Z (zb hr fun v1 h_v1 hr => zS Z Z Z (zC Z Z Z (by kernel_rfl) (LC.pure (c65 h_v1) (.cons Conv.p (.cons Conv.p .nil)))) (zM Z (zb hr fun v2 h_v2 hr => zS Z Z Z (zC Z Z Z (by kernel_rfl) (LC.pure (c119 h_v2) (.cons Conv.p (.cons Conv.p .nil)))) (zM Z (zN (zT (LW.ret ?_))))))))))))))))
 obtain rfl := zJ hr
 refine finP_ret (.one (.tmp Z)) ?_
 exact Conv.p
open Go.Proofs
def F175 (x : Int) : Option Bool :=
 some (x != x)
set_option maxRecDepth 100000 in
theorem c175 {x : Int} {r_ : Bool} (hr : F175 x = some r_) : LPure Tryz.prog 222 [.int .u64 x] [.bool r_] := by
 refine LPure.start Tryz.func222 Z Z Z Z ?_
 unfold F175 at hr
 refine zQ (zR (zM Z (zN (zT (zQ (zR (zM Z (zM Z (zS Z Z Z (LOp.bin Z Z Z Z) (zM Z (zN (zT (LW.ret ?_)))))))))))))
 obtain rfl := zJ hr
 refine finP_ret (.one (.tmp Z)) ?_
 exact Conv.p
def F168 (x : Int) (y : Int) : Option Int :=
 (F175 x).bind fun v1 =>
 (F175 y).bind fun v2 =>
 bif v1 then
  bif v2 then
   some 0
  else
   some (-1)
 else
  bif v2 then
   some 1
  else
   bif decide (x < y) then
    some (-1)
   else
    bif decide (x > y) then
     some 1
    else
     some 0
set_option maxRecDepth 100000 in
theorem c168 {x : Int} {y : Int} {r_ : Int} (hr : F168 x y = some r_) : LPure Tryz.prog 214 [.int .u64 x, .int .u64 y] [.int .i64 r_] := by
 refine LPure.start Tryz.func214 Z Z Z Z ?_
 unfold F168 at hr
 refine zQ (zR (zM Z (zN (zT (zQ (zR (zM Z (zb hr fun v1 h_v1 hr => zS Z Z Z (zC Z Z Z (by kernel_rfl) (LC.pure (c175 h_v1) (.cons Conv.p .nil))) (zM Z (zN (zT (zQ (zR (zM Z (zb hr fun v2 h_v2 hr => zS Z Z Z (zC Z Z Z (by kernel_rfl) (LC.pure (c175 h_v2) (.cons Conv.p .nil))) (zM Z (zN (zT (zQ (zQ (zR ?_)))))))))))))))))))))
 refine zM Z (zN (zT ?_))
 refine zX Z (fun g1 => ?_) (fun g1 => ?_)
 ·
  refine zi g1 hr fun hr => zQ (zQ (zR (zM Z (zN (zT ?_)))))
  refine zX Z (fun g2 => ?_) (fun g2 => ?_)
  ·
   refine zi g2 hr fun hr => zQ (zR (zM Z (zN (zT (LW.ret (thn_r (thn_r ?_)))))))
   obtain rfl := zJ hr
   refine finP_ret (.one (.tmp Z)) ?_
   exact Conv.p
  ·
   refine zo g2 hr fun hr => LW.skip (zT (zQ (zR (zM Z (zN (zT (LW.ret (thn_r ?_))))))))
   obtain rfl := zJ hr
   refine finP_ret (.one (.tmp Z)) ?_
   exact Conv.p
 ·
  refine zo g1 hr fun hr => LW.skip (zT (zQ (zQ (zR (zM Z (zN (zT ?_)))))))
  refine zX Z (fun g3 => ?_) (fun g3 => ?_)
  ·
   refine zi g3 hr fun hr => zQ (zR (zM Z (zN (zT (LW.ret (thn_r ?_))))))
   obtain rfl := zJ hr
   refine finP_ret (.one (.tmp Z)) ?_
   exact Conv.p
  ·
   refine zo g3 hr fun hr => LW.skip (zT (zQ (zQ (zR (zM Z (zM Z (zS Z Z Z (LOp.bin Z Z Z Z) (zN (zT ?_)))))))))
   refine zX Z (fun g4 => ?_) (fun g4 => ?_)
   ·
    refine zi g4 hr fun hr => zQ (zR (zM Z (zN (zT (LW.ret (thn_r ?_))))))
    obtain rfl := zJ hr
    refine finP_ret (.one (.tmp Z)) ?_
    exact Conv.p
   ·
    refine zo g4 hr fun hr => LW.skip (zT (zQ (zQ (zR (zM Z (zM Z (zS Z Z Z (LOp.bin Z Z Z Z) (zN (zT ?_)))))))))
    refine zX Z (fun g5 => ?_) (fun g5 => ?_)
    ·
     refine zi g5 hr fun hr => zQ (zR (zM Z (zN (zT (LW.ret (thn_r ?_))))))
     obtain rfl := zJ hr
     refine finP_ret (.one (.tmp Z)) ?_
     exact Conv.p
    ·
     refine zo g5 hr fun hr => LW.skip (zT (zQ (zR (zM Z (zN (zT (LW.ret ?_)))))))
     obtain rfl := zJ hr
     refine finP_ret (.one (.tmp Z)) ?_
     exact Conv.p
structure F151_L1 where
 t11 : Int
def F151_s1 (s1 : List Int) (s2 : List Int) (x1 : F151_L1) : Option (F151_L1 ⊕ (F151_L1 ⊕ Int)) :=
 bif decide (x1.t11 < (s1.length : Int)) then
  (ix s1 x1.t11).bind fun y1 =>
  bif decide (x1.t11 ≥ (s2.length : Int)) then
   some (.inr (.inr 1))
  else
   (ix s2 x1.t11).bind fun y2 =>
   (F168 y1 y2).bind fun v2 =>
   bif v2 != 0 then
    some (.inr (.inr v2))
   else
    some (.inl (F151_L1.mk (IntKind.i64.wrap (x1.t11 + 1))))
 else
  some (.inr (.inl (F151_L1.mk x1.t11)))
def F151 (s1 : List Int) (s2 : List Int) : Option Int :=
 (iter (F151_s1 s1 s2) big (F151_L1.mk 0)).bind fun b_v1 => Sum.elim (fun _ =>
  bif decide ((s1.length : Int) < (s2.length : Int)) then
   some (-1)
  else
   some 0) some b_v1
set_option maxRecDepth 100000 in
theorem c151 {s1 : List Int} {s2 : List Int} {r_ : Int} (hr : F151 s1 s2 = some r_) : LPure Tryz.prog 193 [.slice 1 (s1.map wordP), .slice 1 (s2.map wordP)] [.int .i64 r_] := by
 refine LPure.start Tryz.func193 Z Z Z Z ?_
 unfold F151 at hr
 refine zQ (zR (zM Z (zN (zT (zQ (zQ (zR (zM Z (zS Z Z Z (LOp.lenM Z Z (by kernel_rfl)) (zM Z (zN (zT ?_))))))))))))
 obtain ⟨b_v1, hb_v1, ho_v1⟩ := zB hr
 clear hr
 refine LW.tailB (b := b_v1) (E := fun v1 => [(0, .p (.slice 1 (s1.map wordP))), (1, .p (.slice 1 (s2.map wordP))), (4, .p (.int .i64 0))]) (O := fun v1 => []) ?_ (fun v1 e_v1 env_v1 H_v1 hw_v1 => ?_)
 ·refine LW.block ?_
  refine LW.iterB (E := fun x1 : F151_L1 => [(0, .p (.slice 1 (s1.map wordP))), (1, .p (.slice 1 (s2.map wordP))), (4, .p (.int .i64 0)), (9, .p (.slice 1 (s1.map wordP))), (10, .p (.int .i64 (s1.length : Int))), (11, .p (.int .i64 x1.t11))]) (O := fun x1 => []) hb_v1 (zW 0 ⟨rfl, rfl, rfl, rfl, rfl, rfl, trivial⟩ Z Z Z Z) (fun x1 z_x1 hr hb_x1 => ?_)
  unfold F151_s1 at hr
  refine zQ (zR (zS Z Z Z (LOp.bin Z Z Z Z) (zN (zT (zQ ?_)))))
  refine zX Z (fun g1 => ?_) (fun g1 => ?_)
  ·
   refine zi g1 hr fun hr => LW.skip (zT (zQ (LW.block (zQ (zR (zM Z (zb hr fun y1 h_y1 hr => zS Z Z Z (LOp.indexAddrX Z Z Z st98 h_y1 Z) (zS Z Z Z (LOp.loadC Z Z Z vt22 Z Z) (zM Z (zM Z (zN (zT (zQ (zQ (zR (zM Z (zM Z (zS Z Z Z (LOp.lenM Z Z (by kernel_rfl)) (zS Z Z Z (LOp.bin Z Z Z Z) (zN (zT ?_)))))))))))))))))))))
   refine zX Z (fun g2 => ?_) (fun g2 => ?_)
   ·
    refine zi g2 hr fun hr => zQ (zR (zM Z (zN (zT (LW.ret (thn_r (inBlk_r (thn_r (thn_r (inBlk_r (thn_r (thn_r ?_))))))))))))
    obtain rfl := zJ hr
    have hr := congrArg some (hb_x1 _ rfl)
    obtain rfl := zJ hr
    have hr := sum_r ho_v1
    obtain rfl := zJ hr
    refine finP_ret (.one (.tmp Z)) ?_
    exact Conv.p
   ·
    refine zo g2 hr fun hr => LW.skip (zT (zQ (zR (zM Z (zM Z (zb hr fun y2 h_y2 hr => zS Z Z Z (LOp.indexAddrX Z Z Z st98 h_y2 Z) (zS Z Z Z (LOp.loadC Z Z Z vt22 Z Z) (zM Z (zN (zT (zQ (zR (zM Z (zM Z (zb hr fun v2 h_v2 hr => zS Z Z Z (zC Z Z Z (by kernel_rfl) (LC.pure (c168 h_v2) (.cons Conv.p (.cons Conv.p .nil)))) (zM Z (zN (zT (zQ (zR ?_))))))))))))))))))))
    refine zM Z (zS Z Z Z (LOp.bin Z Z Z Z) (zN (zT ?_)))
    refine zX Z (fun g3 => ?_) (fun g3 => ?_)
    ·
     refine zi g3 hr fun hr => zQ (zR (zM Z (zM Z (zN (zT (LW.ret (inBlk_r (thn_r (thn_r (inBlk_r (thn_r (thn_r ?_))))))))))))
     obtain rfl := zJ hr
     have hr := congrArg some (hb_x1 _ rfl)
     obtain rfl := zJ hr
     have hr := sum_r ho_v1
     obtain rfl := zJ hr
     refine finP_ret (.one (.tmp Z)) ?_
     exact Conv.p
    ·
     refine zo g3 hr fun hr => LW.skip (inBlk_n (zT (zR (zS Z Z Z (LOp.bin Z Z Z Z) (zM Z (zN (zT ?_)))))))
     obtain rfl := zJ hr
     exact ⟨_, rfl, zW 0 ⟨rfl, rfl, rfl, rfl, rfl, rfl, trivial⟩ Z Z Z rfl⟩
  ·
   refine zo g1 hr fun hr => LW.exit (thn_e (thn_e (inBlk_self (zT ?_))))
   obtain rfl := zJ hr
   have hr := congrArg some (hb_x1 _ rfl)
   obtain rfl := zJ hr
   exact ⟨_, rfl, zW 0 ⟨rfl, rfl, rfl, trivial⟩ Z Z Z rfl⟩
 ·obtain rfl := e_v1
  have hr := sum_l ho_v1
  clear hb_v1
  refine zT (LW.weak hw_v1 (zQ (zQ (zR (zM Z (zS Z Z Z (LOp.lenM Z Z (by kernel_rfl)) (zM Z (zS Z Z Z (LOp.lenM Z Z (by kernel_rfl)) (zS Z Z Z (LOp.bin Z Z Z Z) (zN (zT ?_)))))))))))
  refine zX Z (fun g4 => ?_) (fun g4 => ?_)
  ·
   refine zi g4 hr fun hr => zQ (zR (zM Z (zN (zT (LW.ret (thn_r ?_))))))
   obtain rfl := zJ hr
   refine finP_ret (.one (.tmp Z)) ?_
   exact Conv.p
  ·
   refine zo g4 hr fun hr => LW.skip (zT (zQ (zR (zM Z (zN (zT (LW.ret ?_)))))))
   obtain rfl := zJ hr
   refine finP_ret (.one (.tmp Z)) ?_
   exact Conv.p
def F120 (a : ID) (b : ID) : Option Bool :=
 (F151 [a.1, a.2] [b.1, b.2]).bind fun v1 =>
 some (decide (v1 < 0))
set_option maxRecDepth 100000 in
theorem c120 {a : ID} {b : ID} {r_ : Bool} (hr : F120 a b = some r_) : LPure Tryz.prog 195 [idP a, idP b] [.bool r_] := by
 refine LPure.start Tryz.func195 Z Z Z Z ?_
 unfold F120 at hr
 refine zQ (zR (zS Z Z Z (LOp.box Z Z Z Z Z) (zS Z Z Z (LOp.box Z Z Z Z Z) (zM Z (zN (zT (zQ (LW.draw (by kernel_rfl) (by kernel_rfl) (zE Z Z Z (LOp.sliceBox Z Z at24 Z Z Z) (zE Z Z Z (LOp.sliceBox Z Z at24 Z Z Z) (zb hr fun v1 h_v1 hr => zE Z Z Z (zC Z Z Z (by kernel_rfl) (LC.lend (c151 h_v1) (.cons (Conv.boxSlice Z Z Z Z) (.cons (Conv.boxSlice Z Z Z Z) .nil)) Z)) (zE Z Z Z (LOp.bin Z Z Z Z) (zH Z (LO.nil (zT (LW.ret ?_))))))))))))))))
 obtain rfl := zJ hr
 refine finP_ret (.one (.tmp Z)) ?_
 exact Conv.p
def F122 (a : Rk) (b : Rk) : Option Bool :=
 bif a.n != b.n then
  some (decide (a.n > b.n))
 else
  bif !((a.n == b.n) && ((a.id.1 == b.id.1) && ((a.id.2 == b.id.2) && true))) then
   (F120 b.id a.id).bind fun v1 =>
   some v1
  else
   some false
set_option maxRecDepth 100000 in
theorem c122 {a : Rk} {b : Rk} {r_ : Bool} (hr : F122 a b = some r_) : LPure Tryz.prog 163 [rkP a, rkP b] [.bool r_] := by
 refine LPure.start Tryz.func163 Z Z Z Z ?_
 unfold F122 at hr
 refine zQ (zR (zS Z Z Z (LOp.box Z Z Z Z Z) (zS Z Z Z (LOp.box Z Z Z Z Z) (zM Z (zN (zT (zQ (zQ (zR (zS Z Z Z (zA Z Z ft136_0) (zS Z Z Z (zD Z Z Z vt3 Z Z) (zS Z Z Z (zA Z Z ft136_0) (zS Z Z Z (zD Z Z Z vt3 Z Z) (zS Z Z Z (LOp.bin Z Z Z Z) (zN (zT ?_))))))))))))))))
 refine zX Z (fun g1 => ?_) (fun g1 => ?_)
 ·
  refine zi g1 hr fun hr => zQ (zR (zS Z Z Z (zA Z Z ft136_0) (zS Z Z Z (zD Z Z Z vt3 Z Z) (zS Z Z Z (zA Z Z ft136_0) (zS Z Z Z (zD Z Z Z vt3 Z Z) (zS Z Z Z (LOp.bin Z Z Z Z) (zM Z (zN (zT (LW.ret (thn_r ?_)))))))))))
  obtain rfl := zJ hr
  refine finP_ret (.one (.tmp Z)) ?_
  exact Conv.p
 ·
  refine zo g1 hr fun hr => LW.skip (zT (zQ (zR (zS Z Z Z (zD Z Z Z vt136 Z Z) (zS Z Z Z (zD Z Z Z vt136 Z Z) (zS Z Z Z (LOp.neqAgg Z Z Z Z Z eqt136) (zM Z ?_)))))))
  refine LOps.cases 18 Z (fun g2 => ?_) (fun g2 => ?_)
  ·
   refine zi g2 hr fun hr => zV Z Z Z (gd g2 Z) Z (zA Z Z ft136_1) (zV Z Z Z (gd g2 Z) Z (zD Z Z Z vt24 Z Z) (zV Z Z Z (gd g2 Z) Z (zA Z Z ft136_1) (zV Z Z Z (gd g2 Z) Z (zD Z Z Z vt24 Z Z) (zb hr fun v1 h_v1 hr => zV Z Z Z (gd g2 Z) Z (zC Z Z Z (by kernel_rfl) (LC.pure (c120 h_v1) (.cons Conv.p (.cons Conv.p .nil)))) (zS Z Z Z (LOp.pickT Z (gdl g2 Z) Z) (zM Z (zN (zT (LW.ret ?_)))))))))
   obtain rfl := zJ hr
   refine finP_ret (.one (.tmp Z)) ?_
   exact Conv.p
  ·
   refine zo g2 hr fun hr => zU Z Z Z (gd g2 Z) Z Z (zU Z Z Z (gd g2 Z) Z Z (zU Z Z Z (gd g2 Z) Z Z (zU Z Z Z (gd g2 Z) Z Z (zU Z Z Z (gd g2 Z) Z Z (zS Z Z Z (LOp.pickF Z (gdl g2 Z) Z) (zM Z (zN (zT (LW.ret ?_)))))))))
   obtain rfl := zJ hr
   refine finP_ret (.one (.tmp Z)) ?_
   exact Conv.p
def F154 (x : Vt) : Option Int :=
 some x.From
set_option maxRecDepth 100000 in
theorem c154 {x : Vt} {r_ : Int} (hr : F154 x = some r_) : LPure Tryz.prog 190 [vtP x] [.int .i64 r_] := by
 refine LPure.start Tryz.func190 Z Z Z Z ?_
 unfold F154 at hr
 refine zQ (zR (zS Z Z Z (LOp.box Z Z Z Z Z) (zM Z (zN (zT (zQ (zR (zS Z Z Z (zA Z Z ft82_0) (zS Z Z Z (zD Z Z Z vt3 Z Z) (zM Z (zN (zT (LW.ret ?_)))))))))))))
 obtain rfl := zJ hr
 refine finP_ret (.one (.tmp Z)) ?_
 exact Conv.p
structure F155_L1 where
 i : Int
 out : List ID
structure F169_L1 where
 i : Int
 id : ID
structure F156_L1 where
 i : Int
 who : List Int
structure F124_L1 where
 most : Int
 i : Int
 best : ID
structure F82_L1 where
 i : Int
 id : ID
end Go.Mg
