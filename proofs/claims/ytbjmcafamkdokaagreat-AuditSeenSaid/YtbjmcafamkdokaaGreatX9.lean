/- Are two worlds the same? The example; what is begun. Parts of a committee. All that is seen; what is held. The example of audits. AuditSeen. Plain laws of weights on blocks, and of the head: the program's side. Plain laws of views: lists of blocks and votes, and what may be at all. Laws of trees. TreeKids, TreeMore: plain. Plain laws of views: which views may be. Plain laws of views: what is taken. Conditions: none. -/
import Derived.Test.YtbjmcafamkdokaaGreatX3
import Derived.Test.YtbjmcafamkdokaaGreatX8
import Derived.Test.YtbjmcafamkdokaaGreatX5
import Derived.Test.YtbjmcafamkdokaaGreatX7
import Derived.Test.YtbjmcafamkdokaaGreatX6
set_option maxRecDepth 100000
set_option linter.unusedSimpArgs false
set_option linter.unusedVariables false
namespace Go.Mg
open Go.Proofs
structure F3087_L1 where
 i : Int
structure F4035_L1 where
 i : Int
structure F4035_L2 where
 i : Int
structure FEqn_L1 where
 t17 : Int
structure F4121_L1 where
 t13 : Int
open Go.Proofs
structure F4036_L1 where
 i : Int
def F4036_s1 (l : List Ac) (x1 : F4036_L1) : Option (F4036_L1 ⊕ (F4036_L1 ⊕ Bool)) :=
 bif decide (x1.i < (l.length : Int)) then
  (ix l x1.i).bind fun y1 =>
  bif decide ((y1.B.length : Int) > 8) then
   some (.inr (.inr false))
  else
   (ix l x1.i).bind fun y2 =>
   bif decide ((y2.V.length : Int) > 8) then
    some (.inr (.inr false))
   else
    some (.inl (F4036_L1.mk (IntKind.i64.wrap (x1.i + 1))))
 else
  some (.inr (.inl (F4036_L1.mk x1.i)))
def F4036 (l : List Ac) (most : Int) : Option Bool :=
 bif decide ((l.length : Int) > most) then
  some false
 else
  (iter (F4036_s1 l) big (F4036_L1.mk 0)).bind fun b_v1 => Sum.elim (fun _ =>
   some true) some b_v1
theorem c4036 {l : List Ac} {most : Int} {r_ : Bool} (hr : F4036 l most = some r_) : LPure Tryz.prog 36 [.slice 5 (l.map acP), .int .i64 most] [.bool r_] := by
 refine zh Tryz.func36 Z Z Z Z ?_;unfold F4036 at hr;refine zQ (zR (zM Z (zN (zT (zQ (zQ (zR (zM Z (yS Z (zlM Z Z (by kernel_rfl)) (zM Z (yS Z (zb2 Z Z Z Z) (zN (zT ?_)))))))))))));refine zX Z (fun g1 => ?_) (fun g1 => ?_)
 ·
  refine zi g1 hr fun hr => zQ (zR (zM Z (zN (zT (zr (thn_r ?_))))));obtain rfl := zJ hr;exact zf (.one (.tmp Z)) zv
 ·
  refine zo g1 hr fun hr => zk (zT (zQ (zQ (zR (zM Z (zN (zT ?_)))))));obtain ⟨b_v1, hb_v1, ho_v1⟩ := zB hr;clear hr;refine LW.tailB (b := b_v1) (E := fun v1 => [(4, (bQ false))]) (O := fun v1 => []) ?_ (fun v1 e_v1 env_v1 H_v1 hw_v1 => ?_)
  ·refine LW.block ?_;refine LW.iterB (E := fun x1 : F4036_L1 => [(0, .p (.slice 5 (l.map acP))), (4, (bQ false)), (5, (iQ x1.i))]) (O := fun x1 => []) hb_v1 (zW 0 ⟨rfl, rfl, rfl, trivial⟩ Z Z Z Z) (fun x1 z_x1 hr hb_x1 => ?_);unfold F4036_s1 at hr;refine zQ (zQ (zR (zM Z (zM Z (yS Z (zlM Z Z (by kernel_rfl)) (yS Z (zb2 Z Z Z Z) (zN (zT ?_))))))));refine zX Z (fun g2 => ?_) (fun g2 => ?_)
   ·
    refine zi g2 hr fun hr => zk (zT (zQ (zl (zQ (zR (zM Z (zM Z (zb hr fun y1 h_y1 hr => yS Z (zx Z Z Z st1050 h_y1 Z) (yS Z (LOp.fieldAddrC Z Z ft1049_3 Z) (yS Z (zC2 Z Z Z vt27 Z Z) (yS Z (zlM Z Z (by kernel_rfl)) (yS Z (zb2 Z Z Z Z) (zM Z ?_)))))))))))));refine zc 23 Z (fun g3 => ?_) (fun g3 => ?_)
    ·
     refine zi g3 hr fun hr => yU Z (gd g3 Z) Z (yU Z (gd g3 Z) Z (yU Z (gd g3 Z) Z (yU Z (gd g3 Z) Z (yU Z (gd g3 Z) Z (yU Z (gd g3 Z) Z (yU Z (gd g3 Z) Z (yS Z (zpT Z (gdl g3 Z) Z) (zN (zT (LW.condT Z (zQ (zR (zM Z (zN (zT (zr (inBlk_r (thn_r (thn_r (inBlk_r (thn_r (thn_r ?_))))))))))))))))))))));obtain rfl := zJ hr;have hr := congrArg some (hb_x1 _ rfl);obtain rfl := zJ hr;have hr := sum_r ho_v1;obtain rfl := zJ hr;exact zf (.one (.tmp Z)) zv
    ·
     refine zo g3 hr fun hr => yV Z (gd g3 Z) (zm Z Z) (yV Z (gd g3 Z) (zm Z Z) (zb hr fun y2 h_y2 hr => yV Z (gd g3 Z) (zx Z Z Z st1050 h_y2 Z) (yV Z (gd g3 Z) (LOp.fieldAddrC Z Z ft1049_4 Z) (yV Z (gd g3 Z) (zC2 Z Z Z vt68 Z Z) (yV Z (gd g3 Z) (zlM Z Z (by kernel_rfl)) (yV Z (gd g3 Z) (zb2 Z Z Z Z) (yS Z (zpF Z (gdl g3 Z) Z) (zN (zT ?_)))))))));refine zX Z (fun g4 => ?_) (fun g4 => ?_)
     ·
      refine zi g4 hr fun hr => zQ (zR (zM Z (zN (zT (zr (inBlk_r (thn_r (thn_r (inBlk_r (thn_r (thn_r ?_)))))))))));obtain rfl := zJ hr;have hr := congrArg some (hb_x1 _ rfl);obtain rfl := zJ hr;have hr := sum_r ho_v1;obtain rfl := zJ hr;exact zf (.one (.tmp Z)) zv
     ·
      refine zo g4 hr fun hr => zk (inBlk_n (zT (zR (zM Z (yS Z (zb2 Z Z Z Z) (zM Z (zN (zT ?_))))))));obtain rfl := zJ hr;exact ⟨_, rfl, zW 0 ⟨rfl, rfl, rfl, trivial⟩ Z Z Z rfl⟩
   ·
    refine zo g2 hr fun hr => zq (thn_e (thn_e (zy (zT ?_))));obtain rfl := zJ hr;have hr := congrArg some (hb_x1 _ rfl);obtain rfl := zJ hr;exact ⟨_, rfl, zW 0 ⟨rfl, trivial⟩ Z Z Z rfl⟩
  ·obtain rfl := e_v1;have hr := sum_l ho_v1;clear hb_v1;refine zT (LW.weak hw_v1 (zQ (zR (zM Z (zN (zT (zr ?_)))))));obtain rfl := zJ hr;exact zf (.one (.tmp Z)) zv
def F4030 (c : Cf) (bad : List Int) (l : List Ac) : Option Bool :=
 (F4036 l 25).bind fun v1 =>
 bif v1 then
  (F64 c).bind fun v2 =>
  bif v2 then
   bif decide ((c.W.length : Int) ≤ 6) then
    some (decide ((bad.length : Int) ≤ 6))
   else
    some false
  else
   some false
 else
  some false
theorem c4030 {c : Cf} {bad : List Int} {l : List Ac} {r_ : Bool} (hr : F4030 c bad l = some r_) : LPure Tryz.prog 30 [cfP c, .slice 1 (bad.map i64P), .slice 5 (l.map acP)] [.bool r_] := by
 refine zh Tryz.func30 Z Z Z Z ?_;unfold F4030 at hr;refine zQ (zR (yS Z (zbx Z Z Z Z Z) (zM Z (zN (zT (zQ (zR (zM Z (zb hr fun v1 h_v1 hr => yS Z (zC Z Z Z (by kernel_rfl) (zp (c4036 h_v1) (.cons zv (.cons zv .nil)))) (zM Z (zN (zT (zQ (zR (zM Z (zM Z ?_))))))))))))))));refine zc 11 Z (fun g1 => ?_) (fun g1 => ?_)
 ·
  refine zi g1 hr fun hr => yV Z (gd g1 Z) (zD Z Z Z vt55 Z Z) (zb hr fun v2 h_v2 hr => yV Z (gd g1 Z) (zC Z Z Z (by kernel_rfl) (zp (c64 h_v2) (.cons zv .nil))) (yS Z (zpT Z (gdl g1 Z) Z) (zM Z ?_)));refine zc 15 Z (fun g2 => ?_) (fun g2 => ?_)
  ·
   refine zi g2 hr fun hr => yV Z (gd g2 Z) (zA Z Z ft55_0) (yV Z (gd g2 Z) (zD Z Z Z vt49 Z Z) (yV Z (gd g2 Z) (zlM Z Z (by kernel_rfl)) (yV Z (gd g2 Z) (zb2 Z Z Z Z) (yS Z (zpT Z (gdl g2 Z) Z) (zM Z ?_)))));refine zc 21 Z (fun g3 => ?_) (fun g3 => ?_)
   ·
    refine zi g3 hr fun hr => yV Z (gd g3 Z) (zm Z Z) (yV Z (gd g3 Z) (zlM Z Z (by kernel_rfl)) (yV Z (gd g3 Z) (zb2 Z Z Z Z) (yS Z (zpT Z (gdl g3 Z) Z) (zM Z (zN (zT (zr ?_)))))));obtain rfl := zJ hr;exact zf (.one (.tmp Z)) zv
   ·
    refine zo g3 hr fun hr => yU Z (gd g3 Z) Z (yU Z (gd g3 Z) Z (yU Z (gd g3 Z) Z (yS Z (zpF Z (gdl g3 Z) Z) (zM Z (zN (zT (zr ?_)))))));obtain rfl := zJ hr;exact zf (.one (.tmp Z)) zv
  ·
   refine zo g2 hr fun hr => yU Z (gd g2 Z) Z (yU Z (gd g2 Z) Z (yU Z (gd g2 Z) Z (yU Z (gd g2 Z) Z (yS Z (zpF Z (gdl g2 Z) Z) (zM Z (yU Z Z Z (yU Z Z Z (yU Z Z Z (yS Z (zpF Z Z Z) (zM Z (zN (zT (zr ?_)))))))))))));obtain rfl := zJ hr;exact zf (.one (.tmp Z)) zv
 ·
  refine zo g1 hr fun hr => yU Z (gd g1 Z) Z (yU Z (gd g1 Z) Z (yS Z (zpF Z (gdl g1 Z) Z) (zM Z (yU Z Z Z (yU Z Z Z (yU Z Z Z (yU Z Z Z (yS Z (zpF Z Z Z) (zM Z (yU Z Z Z (yU Z Z Z (yU Z Z Z (yS Z (zpF Z Z Z) (zM Z (zN (zT (zr ?_)))))))))))))))));obtain rfl := zJ hr;exact zf (.one (.tmp Z)) zv
open Go.Proofs
def FWeigh1 (who : Int) (bad : List Int) : Option Bool :=
 (F119 bad who).bind fun v1 =>
 some v1
theorem cFWeigh1 {who : Int} {c : Cf} {bad : List Int} {r_ : Bool} (hr : FWeigh1 who bad = some r_) : LC Tryz.prog 108 [(iQ who), .ptr 1 0] [.box (cfO c), .box [(kI bad)]] (Is (bQ r_) [.box (cfO c), .box [(kI bad)]]) := by
 refine zh2 Tryz.func108 Z Z Z ?_;unfold FWeigh1 at hr;refine zQ (zR (zM Z (zN (zT (zQ (zR (yS Z (zD Z Z Z vt49 Z Z) (zM Z (zb hr fun v1 h_v1 hr => yS Z (zC Z Z Z (by kernel_rfl) (zp (c119 h_v1) (.cons zv (.cons zv .nil)))) (zM Z (zN (zT (zr ?_)))))))))))));obtain rfl := zJ hr;exact fin_ret (.one (.tmp Z)) (⟨rfl, rfl⟩)
structure FParted_L1 where
 t10 : Int
 o4 : List Int
 o5 : List Int
def FParted_s1 (l : List Int) (bad : List Int) (x1 : FParted_L1) : Option (FParted_L1 ⊕ FParted_L1) :=
 bif decide (x1.t10 < (l.length : Int)) then
  (ix l x1.t10).bind fun y1 =>
  (FWeigh1 y1 bad).bind fun v2 =>
  bif v2 then
   bif room x1.o5.length [y1].length 8 then
    some (.inl (FParted_L1.mk (IntKind.i64.wrap (x1.t10 + 1)) x1.o4 (x1.o5 ++ [y1])))
   else none
  else
   bif room x1.o4.length [y1].length 8 then
    some (.inl (FParted_L1.mk (IntKind.i64.wrap (x1.t10 + 1)) (x1.o4 ++ [y1]) x1.o5))
   else none
 else
  some (.inr (FParted_L1.mk x1.t10 x1.o4 x1.o5))
def FParted (l : List Int) (bad : List Int) : Option (List Int × List Int) :=
 (iter (FParted_s1 l bad) big (FParted_L1.mk 0 ([] : List Int) ([] : List Int))).bind fun v1 =>
 some (v1.o4, v1.o5)
theorem cFParted {l : List Int} {c : Cf} {bad : List Int} {r_ : List Int × List Int} (hr : FParted l bad = some r_) : LC Tryz.prog 107 [(kI l), .fn 108 [] [.ptr 1 0]] [.box (cfO c), .box [(kI bad)]] (Is (.agg [(jI 4 r_.1), (jI 5 r_.2)]) [.box (cfO c), .box [(kI bad)], .box [(jI 4 r_.1), (jI 5 r_.2)], .box [(jI 4 r_.1), (jI 5 r_.2)], .vec 1 (r_.1.map i64P), .vec 1 (r_.2.map i64P)]) := by
 refine zh2 Tryz.func107 Z Z Z ?_;unfold FParted at hr;refine zQ (zR (yS Z (ze Z zt1052 Z Z) (zN (zT (zQ (zR (yS Z (ze Z zt1052 Z Z) (zN (zT (zQ (zQ (LW.ent (Ent.lazyCell (i := 3) (j := 0) (m := 1) Z Z Z Z Z Z) (LW.ent (Ent.lazyCell (i := 3) (j := 1) (m := 1) Z Z Z Z Z Z) (zR (zM Z (yS Z (zlM Z Z (by kernel_rfl)) (zM Z (zN (zT ?_)))))))))))))))))));obtain ⟨v1, hb_v1, ho_v1⟩ := zB hr;clear hr;refine LW.tail (E := [(4, .ptr 2 0), (5, .ptr 3 0)]) (O := [.box (cfO c), .box [(kI bad)], .box [.zs, .zs], .box [(jI 4 v1.o4), (jI 5 v1.o5)], .vec 1 (v1.o4.map i64P), .vec 1 (v1.o5.map i64P)]) ?_ (fun env_v1 H_v1 hw_v1 => ?_)
 ·refine LW.block ?_;refine LW.iterB (E := fun x1 : FParted_L1 => [(1, .fn 108 [] [.ptr 1 0]), (4, .ptr 2 0), (5, .ptr 3 0), (8, (kI l)), (9, .p (.int .i64 (l.length : Int))), (10, (iQ x1.t10))]) (O := fun x1 => [.box (cfO c), .box [(kI bad)], .box [.zs, .zs], .box [(jI 4 x1.o4), (jI 5 x1.o5)], .vec 1 (x1.o4.map i64P), .vec 1 (x1.o5.map i64P)]) hb_v1 (zW 6 ⟨rfl, rfl, rfl, rfl, rfl, rfl, trivial⟩ Z Z Z Z) (fun x1 z_x1 hr hb_x1 => ?_);unfold FParted_s1 at hr;refine zQ (zR (yS Z (zb2 Z Z Z Z) (zN (zT (zQ ?_)))));refine zX Z (fun g1 => ?_) (fun g1 => ?_)
  ·
   refine zi g1 hr fun hr => zk (zT (zQ (zl (zQ (zR (zb hr fun y1 h_y1 hr => yS Z (zx Z Z Z st49 h_y1 Z) (yS Z (zC2 Z Z Z vt3 Z Z) (zM Z (zN (zT (zQ (zR (zM Z (zM Z (zb hr fun v2 h_v2 hr => yS Z (zC Z Z Z (by kernel_rfl) (LC.pre (cFWeigh1 h_v2) Z Z Z)) (zN (zT ?_)))))))))))))))));refine zX Z (fun g2 => ?_) (fun g2 => ?_)
   ·
    refine zi g2 hr fun hr => zR (yS Z (zA Z Z ft1052_1) (yS Z (zD Z Z Z vt49 Z Z) (zM Z (yS Z (zB2 Z st49 Z Z Z Z Z) (zg hr fun q1 hr => yS Z (LOp.appendX i64P x1.o5 [y1] rfl Z Z Z Src.p Z st49 q1 Z) (yS Z (zA Z Z ft1052_1) (yS Z (zs Z Z Z Z vt49 Z Z Z Z) (zN (inBlk_n (zT (zR (yS Z (zb2 Z Z Z Z) (zM Z (zN (zT ?_)))))))))))))));obtain rfl := zJ hr;exact ⟨_, rfl, zW 6 ⟨rfl, rfl, rfl, rfl, rfl, rfl, trivial⟩ Z Z Z rfl⟩
   ·
    refine zo g2 hr fun hr => zR (yS Z (zA Z Z ft1052_0) (yS Z (zD Z Z Z vt49 Z Z) (zM Z (yS Z (zB2 Z st49 Z Z Z Z Z) (zg hr fun q2 hr => yS Z (LOp.appendX i64P x1.o4 [y1] rfl Z Z Z Src.p Z st49 q2 Z) (yS Z (zA Z Z ft1052_0) (yS Z (zs Z Z Z Z vt49 Z Z Z Z) (zN (inBlk_n (zT (zR (yS Z (zb2 Z Z Z Z) (zM Z (zN (zT ?_)))))))))))))));obtain rfl := zJ hr;exact ⟨_, rfl, zW 6 ⟨rfl, rfl, rfl, rfl, rfl, rfl, trivial⟩ Z Z Z rfl⟩
  ·
   refine zo g1 hr fun hr => zq (thn_e (thn_e (zy (zT ?_))));obtain rfl := zJ hr;have hr := congrArg some (hb_x1 _ rfl);obtain rfl := zJ hr;exact zW 6 ⟨Z, Z, trivial⟩ Z Z Z Z
 ·have hr := ho_v1;clear hb_v1;refine zT (LW.weak hw_v1 (zQ (zR (yS Z (zD Z Z Z vt1052 Z Z) (yS Z (zs Z Z Z Z vt1052 Z Z Z Z) (zN (zT (zr ?_))))))));obtain rfl := zJ hr;exact fin_ret (.one (.cellAgg Z Z (by kernel_rfl) Z)) (⟨rfl, rfl⟩)
def F1007 (c : Cf) (bad : List Int) (slot : Int) : Option (Int × Int) :=
 (F65 c slot).bind fun v1 =>
 (FParted v1 bad).bind fun v2 =>
 (F70 c v2.1).bind fun v3 =>
 (F70 c v2.2).bind fun v4 =>
 some (v3, v4)
theorem c1007 {c : Cf} {bad : List Int} {slot : Int} {r_ : Int × Int} (hr : F1007 c bad slot = some r_) : LPure Tryz.prog 58 [cfP c, .slice 1 (bad.map i64P), .int .i64 slot] [.int .i64 r_.1, .int .i64 r_.2] := by
 refine zh Tryz.func58 Z Z Z Z ?_;unfold F1007 at hr;refine zQ (zR (yS Z (zbx Z Z Z Z Z) (yS Z (zbx Z Z Z Z Z) (zM Z (zM Z (zN (zT (zQ (zR (yS Z (zD Z Z Z vt55 Z Z) (zM Z (zb hr fun v1 h_v1 hr => yS Z (zC Z Z Z (by kernel_rfl) (zp (c65 h_v1) (.cons zv (.cons zv .nil)))) (yS Z (LOp.makeFunc Z Z Z) (zb hr fun v2 h_v2 hr => yS Z (zC Z Z Z (by kernel_rfl) (cFParted h_v2)) (yS Z (ze Z zt1052 Z Z) (yS Z (zs Z Z Z Z vt1052 Z Z Z Z) (zN (zT (zQ (LW.draw2 (by kernel_rfl) (by kernel_rfl) (yE Z (zD Z Z Z vt55 Z Z) ?_)))))))))))))))))))));refine yE Z (zA Z Z ft1052_0) (yE Z (zD Z Z Z vt49 Z Z) (zb hr fun v3 h_v3 hr => yE Z (zC Z Z Z (by kernel_rfl) (LC.lend (c70 h_v3) (.cons zv (.cons (Conv.vecAll Z Z Z) .nil)) Z)) (yE Z (zD Z Z Z vt55 Z Z) (yE Z (zA Z Z ft1052_1) (yE Z (zD Z Z Z vt49 Z Z) (zb hr fun v4 h_v4 hr => yE Z (zC Z Z Z (by kernel_rfl) (LC.lend (c70 h_v4) (.cons zv (.cons (Conv.vecAll Z Z Z) .nil)) Z)) (zH Z (zH Z (LO.nil (zT (zr ?_)))))))))));obtain rfl := zJ hr;exact zf (.two (.tmp Z) (.tmp Z)) (⟨_, rfl, (.cons zv (.cons zv .nil))⟩)
structure F1010_L1 where
 s : Int
 strong : Bool
 t27 : Int
def F1010_s1 (c : Cf) (bad : List Int) (v_from : Int) (upto : Int) (x1 : F1010_L1) : Option (F1010_L1 ⊕ F1010_L1) :=
 bif decide (x1.t27 < (IntKind.u64.wrap ((IntKind.u64.wrap ((IntKind.u64.wrap (upto)) - (IntKind.u64.wrap (v_from)))) + 1))) then
  (F1007 c bad x1.s).bind fun v2 =>
  bif decide (v2.1 ≤ v2.2) then
   some (.inr (F1010_L1.mk x1.s false x1.t27))
  else
   some (.inl (F1010_L1.mk (IntKind.i64.wrap (x1.s + 1)) x1.strong (IntKind.u64.wrap (x1.t27 + 1))))
 else
  some (.inr (F1010_L1.mk x1.s x1.strong x1.t27))
def F1010 (c : Cf) (bad : List Int) (v_from : Int) (upto : Int) : Option Bool :=
 bif decide (v_from > upto) then
  some true
 else
  bif decide ((IntKind.u64.wrap ((IntKind.u64.wrap (upto)) - (IntKind.u64.wrap (v_from)))) ≥ 1000) then
   some false
  else
   (iter (F1010_s1 c bad v_from upto) big (F1010_L1.mk v_from true 0)).bind fun v1 =>
   some v1.strong
theorem c1010 {c : Cf} {bad : List Int} {v_from : Int} {upto : Int} {r_ : Bool} (hr : F1010 c bad v_from upto = some r_) : LPure Tryz.prog 23 [cfP c, .slice 1 (bad.map i64P), .int .i64 v_from, .int .i64 upto] [.bool r_] := by
 refine zh Tryz.func23 Z Z Z Z ?_;unfold F1010 at hr;refine zQ (zR (yS Z (zbx Z Z Z Z Z) (zM Z (zN (zT (LW.scope (zQ (zQ (zR (zM Z (zM Z (yS Z (zb2 Z Z Z Z) (zN (zT ?_))))))))))))));refine zX Z (fun g1 => ?_) (fun g1 => ?_)
 ·
  refine zi g1 hr fun hr => zQ (zR (zM Z (zN (zT (zr (thn_r (noGo_r ?_)))))));obtain rfl := zJ hr;exact zf (.one (.tmp Z)) zv
 ·
  refine zo g1 hr fun hr => zk (zT (zQ (zR (zM Z (yS Z (LOp.convert (k' := .u64) Z Z (by kernel_rfl)) (zM Z (yS Z (LOp.convert (k' := .u64) Z Z (by kernel_rfl)) (yS Z (zb2 Z Z Z Z) (zM Z (zM Z (zM Z (zM Z (zN (zT (zQ (zQ (zR (zM Z (yS Z (zb2 Z Z Z Z) (zN (zT ?_)))))))))))))))))))));refine zX Z (fun g2 => ?_) (fun g2 => ?_)
  ·
   refine zi g2 hr fun hr => zQ (zR (zM Z (zN (zT (zr (thn_r (noGo_r ?_)))))));obtain rfl := zJ hr;exact zf (.one (.tmp Z)) zv
  ·
   refine zo g2 hr fun hr => zk (zT (zQ (LW.label (zT (zQ (zQ (zR (zM Z (yS Z (zb2 Z Z Z Z) (zM Z (zN (zT ?_))))))))))));obtain ⟨v1, hb_v1, ho_v1⟩ := zB hr;clear hr;refine LW.tail (E := [(8, (bQ false)), (11, (bQ v1.strong))]) (O := [.box (cfO c)]) ?_ (fun env_v1 H_v1 hw_v1 => ?_)
   ·refine LW.block ?_;refine LW.iterB (E := fun x1 : F1010_L1 => [(1, (kI bad)), (4, .ptr 0 0), (8, (bQ false)), (10, (iQ x1.s)), (11, (bQ x1.strong)), (26, .p (.int .u64 (IntKind.u64.wrap ((IntKind.u64.wrap ((IntKind.u64.wrap (upto)) - (IntKind.u64.wrap (v_from)))) + 1)))), (27, (uQ x1.t27))]) (O := fun x1 => [.box (cfO c)]) hb_v1 (zW 1 ⟨rfl, rfl, rfl, rfl, rfl, rfl, rfl, trivial⟩ Z Z Z Z) (fun x1 z_x1 hr hb_x1 => ?_);unfold F1010_s1 at hr;refine zQ (zR (yS Z (zb2 Z Z Z Z) (zN (zT (zQ ?_)))));refine zX Z (fun g3 => ?_) (fun g3 => ?_)
    ·
     refine zi g3 hr fun hr => zk (zT (zQ (zl (zQ (zQ (zR (yS Z (zD Z Z Z vt55 Z Z) (zM Z (zM Z (zb hr fun v2 h_v2 hr => yS Z (zC Z Z Z (by kernel_rfl) (zp (c1007 h_v2) (.cons zv (.cons zv (.cons zv .nil))))) (zM Z (yS Z (zX2 Z Z Z) (yS Z (zX2 Z Z Z) (zM Z (zM Z (zN (zT (zQ (zR (zM Z (zM Z ?_)))))))))))))))))))));refine yS Z (zb2 Z Z Z Z) (zN (zT ?_));refine zX Z (fun g4 => ?_) (fun g4 => ?_)
     ·
      refine zi g4 hr fun hr => zQ (zR (zM Z (zN (zT (zq (thn_e (inBlk_other (by decide) (thn_e (thn_e (zy (zT ?_)))))))))));obtain rfl := zJ hr;have hr := congrArg some (hb_x1 _ rfl);obtain rfl := zJ hr;exact zW 1 ⟨Z, Z, trivial⟩ Z Z Z Z
     ·
      refine zo g4 hr fun hr => zk (zT (zR (zM Z (yS Z (zb2 Z Z Z Z) (zM Z (zN (inBlk_n (zT (zR (yS Z (zb2 Z Z Z Z) (zM Z (zN (zT ?_)))))))))))));obtain rfl := zJ hr;exact ⟨_, rfl, zW 1 ⟨rfl, rfl, rfl, rfl, rfl, rfl, rfl, trivial⟩ Z Z Z rfl⟩
    ·
     refine zo g3 hr fun hr => zq (thn_e (thn_e (zy (zT ?_))));obtain rfl := zJ hr;have hr := congrArg some (hb_x1 _ rfl);obtain rfl := zJ hr;exact zW 1 ⟨Z, Z, trivial⟩ Z Z Z Z
   ·have hr := ho_v1;clear hb_v1;refine zT (LW.weak hw_v1 (zQ (zR (zM Z (zM Z (zN (zT (zr (noGo_r ?_)))))))));obtain rfl := zJ hr;exact zf (.one (.tmp Z)) zv
def F1011 (c : Cf) (bad : List Int) (slot : Int) : Option Bool :=
 (F1007 c bad slot).bind fun v1 =>
 (F64 c).bind fun v2 =>
 bif v2 then
  bif decide ((IntKind.i64.wrap (v1.1 + v1.2)) > 0) then
   (F1026 v1.2 c.Den (IntKind.i64.wrap (v1.1 + v1.2)) c.Num).bind fun v3 =>
   some (!v3)
  else
   some false
 else
  some false
theorem c1011 {c : Cf} {bad : List Int} {slot : Int} {r_ : Bool} (hr : F1011 c bad slot = some r_) : LPure Tryz.prog 26 [cfP c, .slice 1 (bad.map i64P), .int .i64 slot] [.bool r_] := by
 refine zh Tryz.func26 Z Z Z Z ?_;unfold F1011 at hr;refine zQ (zR (yS Z (zbx Z Z Z Z Z) (zM Z (zN (zT (zQ (zR (yS Z (zD Z Z Z vt55 Z Z) (zM Z (zM Z (zb hr fun v1 h_v1 hr => yS Z (zC Z Z Z (by kernel_rfl) (zp (c1007 h_v1) (.cons zv (.cons zv (.cons zv .nil))))) (zM Z (yS Z (zX2 Z Z Z) (yS Z (zX2 Z Z Z) (zM Z (zM Z (zN (zT (zQ (zR (yS Z (zD Z Z Z vt55 Z Z) (zb hr fun v2 h_v2 hr => ?_))))))))))))))))))))));refine yS Z (zC Z Z Z (by kernel_rfl) (zp (c64 h_v2) (.cons zv .nil))) (zM Z ?_);refine zc 18 Z (fun g1 => ?_) (fun g1 => ?_)
 ·
  refine zi g1 hr fun hr => yV Z (gd g1 Z) (zm Z Z) (yV Z (gd g1 Z) (zm Z Z) (yV Z (gd g1 Z) (zb2 Z Z Z Z) (yV Z (gd g1 Z) (zb2 Z Z Z Z) (yS Z (zpT Z (gdl g1 Z) Z) (zM Z ?_)))));refine zc 24 Z (fun g2 => ?_) (fun g2 => ?_)
  ·
   refine zi g2 hr fun hr => yV Z (gd g2 Z) (zm Z Z) (yV Z (gd g2 Z) (zA Z Z ft55_4) (yV Z (gd g2 Z) (zD Z Z Z vt3 Z Z) (yV Z (gd g2 Z) (zm Z Z) (yV Z (gd g2 Z) (zm Z Z) (yV Z (gd g2 Z) (zb2 Z Z Z Z) (yV Z (gd g2 Z) (zA Z Z ft55_3) (yV Z (gd g2 Z) (zD Z Z Z vt3 Z Z) (zb hr fun v3 h_v3 hr => yV Z (gd g2 Z) (zC Z Z Z (by kernel_rfl) (zp (c1026 h_v3) (.cons zv (.cons zv (.cons zv (.cons zv .nil)))))) (yV Z (gd g2 Z) (LOp.not Z Z) (yS Z (zpT Z (gdl g2 Z) Z) (zM Z (zN (zT (zr ?_))))))))))))));obtain rfl := zJ hr;exact zf (.one (.tmp Z)) zv
  ·
   refine zo g2 hr fun hr => yU Z (gd g2 Z) Z (yU Z (gd g2 Z) Z (yU Z (gd g2 Z) Z (yU Z (gd g2 Z) Z (yU Z (gd g2 Z) Z (yU Z (gd g2 Z) Z (yU Z (gd g2 Z) Z (yU Z (gd g2 Z) Z (yU Z (gd g2 Z) Z (yU Z (gd g2 Z) Z (yS Z (zpF Z (gdl g2 Z) Z) (zM Z (zN (zT (zr ?_))))))))))))));obtain rfl := zJ hr;exact zf (.one (.tmp Z)) zv
 ·
  refine zo g1 hr fun hr => yU Z (gd g1 Z) Z (yU Z (gd g1 Z) Z (yU Z (gd g1 Z) Z (yU Z (gd g1 Z) Z (yS Z (zpF Z (gdl g1 Z) Z) (zM Z (yU Z Z Z (yU Z Z Z (yU Z Z Z (yU Z Z Z (yU Z Z Z (yU Z Z Z (yU Z Z Z (yU Z Z Z (yU Z Z Z (yU Z Z Z (yS Z (zpF Z Z Z) (zM Z (zN (zT (zr ?_))))))))))))))))))));obtain rfl := zJ hr;exact zf (.one (.tmp Z)) zv
open Go.Proofs
structure F1013_L1 where
 t16 : Int
 out : Vw
structure F1013_L2 where
 t32 : Int
 out : Vw
def F1013_s1 (w : Wd) (x1 : F1013_L1) : Option (F1013_L1 ⊕ F1013_L1) :=
 bif decide (x1.t16 < (w.O.length : Int)) then
  (ix w.O x1.t16).bind fun y1 =>
  (F91 x1.out y1.V).bind fun v3 =>
  (F91 v3 (Vw.mk [y1.B] [])).bind fun v4 =>
  some (.inl (F1013_L1.mk (IntKind.i64.wrap (x1.t16 + 1)) v4))
 else
  some (.inr (F1013_L1.mk x1.t16 x1.out))
def F1013_s2 (l : List Ac) (x2 : F1013_L2) : Option (F1013_L2 ⊕ F1013_L2) :=
 bif decide (x2.t32 < (l.length : Int)) then
  (ix l x2.t32).bind fun y2 =>
  (F91 x2.out (Vw.mk y2.B y2.V)).bind fun v6 =>
  some (.inl (F1013_L2.mk (IntKind.i64.wrap (x2.t32 + 1)) v6))
 else
  some (.inr (F1013_L2.mk x2.t32 x2.out))
def F1013 (w : Wd) (l : List Ac) : Option Vw :=
 (F1031 w.N).bind fun v1 =>
 (iter (F1013_s1 w) big (F1013_L1.mk 0 v1)).bind fun v2 =>
 (iter (F1013_s2 l) big (F1013_L2.mk 0 v2.out)).bind fun v5 =>
 some v5.out
theorem c1013 {w : Wd} {l : List Ac} {r_ : Vw} (hr : F1013 w l = some r_) : LPure Tryz.prog 43 [wdP w, .slice 5 (l.map acP)] [vwP r_] := by
 refine zh Tryz.func43 Z Z Z Z ?_;unfold F1013 at hr;refine zQ (zR (yS Z (zbx Z Z Z Z Z) (yS Z (ze Z zt75 Z Z) (zN (zT (zQ (zR (yS Z (zA Z Z ft1038_3) (yS Z (zD Z Z Z vt1035 Z Z) (zb hr fun v1 h_v1 hr => yS Z (zC Z Z Z (by kernel_rfl) (zp (c1031 h_v1) (.cons zv .nil))) (yS Z (ze Z zt75 Z Z) (yS Z (zs Z Z Z Z vt75 Z Z Z Z) (zN (zT (zQ (zQ (zR (yS Z (zA Z Z ft1038_4) (yS Z (zD Z Z Z vt1036 Z Z) (yS Z (zlM Z Z (by kernel_rfl)) (zM Z (zN ?_))))))))))))))))))))));refine zT ?_;obtain ⟨v2, hb_v2, ho_v2⟩ := zB hr;clear hr;refine LW.tail (E := [(1, .p (.slice 5 (l.map acP))), (4, .ptr 1 0), (5, .ptr 2 0)]) (O := [.box (wdO w), .box [.zs, .zs], .box (vwO v2.out)]) ?_ (fun env_v2 H_v2 hw_v2 => ?_)
 ·refine LW.block ?_;refine LW.iterB (E := fun x1 : F1013_L1 => [(1, .p (.slice 5 (l.map acP))), (4, .ptr 1 0), (5, .ptr 2 0), (14, (kO w.O)), (15, .p (.int .i64 (w.O.length : Int))), (16, (iQ x1.t16))]) (O := fun x1 => [.box (wdO w), .box [.zs, .zs], .box (vwO x1.out)]) hb_v2 (zW 3 ⟨rfl, rfl, rfl, rfl, rfl, rfl, trivial⟩ Z Z Z Z) (fun x1 z_x1 hr hb_x1 => ?_);unfold F1013_s1 at hr;refine zQ (zR (yS Z (zb2 Z Z Z Z) (zN (zT (zQ ?_)))));refine zX Z (fun g1 => ?_) (fun g1 => ?_)
  ·
   refine zi g1 hr fun hr => zk (zT (zQ (zl (zQ (zR (zb hr fun y1 h_y1 hr => yS Z (zx Z Z Z st1036 h_y1 Z) (yS Z (zC2 Z Z Z vt1077 Z Z) (yS Z (ze Z zt1077 Z Z) (yS Z (zs Z Z Z Z vt1077 Z Z Z Z) (zN (zT (LW.drawLast (m := 9) (by kernel_rfl) (by kernel_rfl) (by kernel_rfl) (yE Z (zD Z Z Z vt75 Z Z) (yE Z (zA Z Z ft1077_3) (yE Z (zD Z Z Z vt75 Z Z) (zb hr fun v3 h_v3 hr => yE Z (zC Z Z Z (by kernel_rfl) (zp (c91 h_v3) (.cons zv (.cons zv .nil)))) (yE Z (zA Z Z ft1077_2) (yE Z (zD Z Z Z vt42 Z Z) (yE Z (zB2 Z st27 Z Z Z Z Z) (yE Z (LOp.build Z bt75 Z Z Z) ?_))))))))))))))))))));refine zb hr fun v4 h_v4 hr => yE Z (zC Z Z Z (by kernel_rfl) (zp (c91 h_v4) (.cons zv (.cons (Conv.agg (.cons zv (.cons Conv.zs .nil))) .nil)))) (LO.nil (yS Z (zs Z Z Z Z vt75 Z Z Z Z) (zN (inBlk_n (zT (zR (yS Z (zb2 Z Z Z Z) (zM Z (zN (zT ?_))))))))));obtain rfl := zJ hr;exact ⟨_, rfl, zW 3 ⟨rfl, rfl, rfl, rfl, rfl, rfl, trivial⟩ Z Z Z rfl⟩
  ·
   refine zo g1 hr fun hr => zq (thn_e (thn_e (zy (zT ?_))));obtain rfl := zJ hr;have hr := congrArg some (hb_x1 _ rfl);obtain rfl := zJ hr;exact zW 3 ⟨Z, Z, Z, trivial⟩ Z Z Z Z
 ·have hr := ho_v2;clear hb_v2;refine zT (LW.weak hw_v2 (zQ (zQ (zR (zM Z (yS Z (zlM Z Z (by kernel_rfl)) (zM Z (zN (zT ?_)))))))));obtain ⟨v5, hb_v5, ho_v5⟩ := zB hr;clear hr;refine LW.tail (E := [(4, .ptr 1 0), (5, .ptr 2 0)]) (O := [.box (wdO w), .box [.zs, .zs], .box (vwO v5.out)]) ?_ (fun env_v5 H_v5 hw_v5 => ?_)
  ·refine LW.block ?_;refine LW.iterB (E := fun x2 : F1013_L2 => [(4, .ptr 1 0), (5, .ptr 2 0), (30, .p (.slice 5 (l.map acP))), (31, .p (.int .i64 (l.length : Int))), (32, (iQ x2.t32))]) (O := fun x2 => [.box (wdO w), .box [.zs, .zs], .box (vwO x2.out)]) hb_v5 (zW 3 ⟨rfl, rfl, rfl, rfl, rfl, trivial⟩ Z Z Z Z) (fun x2 z_x2 hr hb_x2 => ?_);unfold F1013_s2 at hr;refine zQ (zR (yS Z (zb2 Z Z Z Z) (zN (zT (zQ ?_)))));refine zX Z (fun g2 => ?_) (fun g2 => ?_)
   ·
    refine zi g2 hr fun hr => zk (zT (zQ (zl (zQ (zR (zb hr fun y2 h_y2 hr => yS Z (zx Z Z Z st1050 h_y2 Z) (yS Z (zC2 Z Z Z vt1049 Z Z) (yS Z (ze Z zt1049 Z Z) (yS Z (zs Z Z Z Z vt1049 Z Z Z Z) (zN (zT (zR (yS Z (zD Z Z Z vt75 Z Z) (yS Z (zA Z Z ft1049_3) (yS Z (zD Z Z Z vt27 Z Z) (yS Z (zA Z Z ft1049_4) (yS Z (zD Z Z Z vt68 Z Z) (yS Z (LOp.build Z bt75 Z Z Z) (zb hr fun v6 h_v6 hr => yS Z (zC Z Z Z (by kernel_rfl) (zp (c91 h_v6) (.cons zv (.cons zv .nil)))) (yS Z (zs Z Z Z Z vt75 Z Z Z Z) ?_))))))))))))))))))));refine zN (inBlk_n (zT (zR (yS Z (zb2 Z Z Z Z) (zM Z (zN (zT ?_)))))));obtain rfl := zJ hr;exact ⟨_, rfl, zW 3 ⟨rfl, rfl, rfl, rfl, rfl, trivial⟩ Z Z Z rfl⟩
   ·
    refine zo g2 hr fun hr => zq (thn_e (thn_e (zy (zT ?_))));obtain rfl := zJ hr;have hr := congrArg some (hb_x2 _ rfl);obtain rfl := zJ hr;exact zW 3 ⟨Z, Z, trivial⟩ Z Z Z Z
  ·have hr := ho_v5;clear hb_v5;refine zT (LW.weak hw_v5 (zQ (zR (yS Z (zD Z Z Z vt75 Z Z) (yS Z (zs Z Z Z Z vt75 Z Z Z Z) (zN (zT (zr ?_))))))));obtain rfl := zJ hr;exact zf (.one (.cellAgg Z Z (by kernel_rfl) Z)) zv
def FHolds1 (n : Nd) (w : Wd) (id : ID) : Option Bool :=
 (F1030 w.C n).bind fun v1 =>
 bif few n.V.B then
  some (!(decide (indexOf (chainOf n.V.B v1) id ≥ 0)))
 else none
theorem cFHolds1 {n : Nd} {w : Wd} {id : ID} {r_ : Bool} (hr : FHolds1 n w id = some r_) : LC Tryz.prog 64 [.p (ndP n), .ptr 1 0, .ptr 0 0] [.box (wdO w), .box [(uQ id.1), (uQ id.2)]] (Is (bQ r_) [.box (wdO w), .box [(uQ id.1), (uQ id.2)]]) := by
 refine zh2 Tryz.func64 Z Z Z ?_;unfold FHolds1 at hr;refine zQ (zR (yS Z (zbx Z Z Z Z Z) (zM Z (zN (zT (zQ (LW.draw2 (by kernel_rfl) (by kernel_rfl) (yE Z (zA Z Z ft1071_2) (yE Z (zA Z Z ft75_0) (yE Z (zD Z Z Z vt27 Z Z) (yE Z (zD Z Z Z vt24 Z Z) (yE Z (zA Z Z ft1038_0) (yE Z (zD Z Z Z vt55 Z Z) (yE Z (zD Z Z Z vt1071 Z Z) (zb hr fun v1 h_v1 hr => yE Z (zC Z Z Z (by kernel_rfl) (zp (c1030 h_v1) (.cons zv (.cons zv .nil)))) (zg hr fun q1 hr => yE Z (zC Z Z Z (by kernel_rfl) (zp (c40 (l := n.V.B) (a := id) (b := v1) (few_le q1)) (.cons zv (.cons zv (.cons zv .nil))))) (yE Z (LOp.not Z Z) (zH Z (LO.nil (zT (zr ?_)))))))))))))))))))));obtain rfl := zJ hr;exact fin_retW (env' := [(4, .p (.bool (!(decide (indexOf (chainOf n.V.B v1) id ≥ 0)))))]) (H' := [.box (wdO w), .box [(uQ id.1), (uQ id.2)]]) (zW 2 ⟨rfl, trivial⟩ Z Z Z Z) (.one (.tmp Z)) (⟨rfl, rfl⟩)
structure FIxH_L1 where
 t8 : Int
def FIxH_s1 (l : List Nd) (w : Wd) (id : ID) (x1 : FIxH_L1) : Option (FIxH_L1 ⊕ (FIxH_L1 ⊕ Int)) :=
 bif decide (x1.t8 < (l.length : Int)) then
  (ix l x1.t8).bind fun y1 =>
  (FHolds1 y1 w id).bind fun v2 =>
  bif v2 then
   some (.inr (.inr x1.t8))
  else
   some (.inl (FIxH_L1.mk (IntKind.i64.wrap (x1.t8 + 1))))
 else
  some (.inr (.inl (FIxH_L1.mk x1.t8)))
def FIxH (l : List Nd) (w : Wd) (id : ID) : Option Int :=
 (iter (FIxH_s1 l w id) big (FIxH_L1.mk 0)).bind fun b_v1 => Sum.elim (fun _ =>
  some (-1)) some b_v1
theorem cFIxH {l : List Nd} {w : Wd} {id : ID} {r_ : Int} (hr : FIxH l w id = some r_) : LC Tryz.prog 118 [.p (.slice 12 (l.map ndP)), .fn 64 [] [.ptr 1 0, .ptr 0 0]] [.box (wdO w), .box [(uQ id.1), (uQ id.2)]] (Is (iQ r_) [.box (wdO w), .box [(uQ id.1), (uQ id.2)]]) := by
 refine zh2 Tryz.func118 Z Z Z ?_;unfold FIxH at hr;refine zQ (zR (zM Z (zN (zT (zQ (zQ (zR (zM Z (yS Z (zlM Z Z (by kernel_rfl)) (zM Z (zN (zT ?_))))))))))));obtain ⟨b_v1, hb_v1, ho_v1⟩ := zB hr;clear hr;refine LW.tailB (b := b_v1) (E := fun v1 => [(4, (iQ 0))]) (O := fun v1 => [.box (wdO w), .box [(uQ id.1), (uQ id.2)]]) ?_ (fun v1 e_v1 env_v1 H_v1 hw_v1 => ?_)
 ·refine LW.block ?_;refine LW.iterB (E := fun x1 : FIxH_L1 => [(0, .p (.slice 12 (l.map ndP))), (1, .fn 64 [] [.ptr 1 0, .ptr 0 0]), (4, (iQ 0)), (7, .p (.int .i64 (l.length : Int))), (8, (iQ x1.t8))]) (O := fun x1 => [.box (wdO w), .box [(uQ id.1), (uQ id.2)]]) hb_v1 (zW 2 ⟨rfl, rfl, rfl, rfl, rfl, trivial⟩ Z Z Z Z) (fun x1 z_x1 hr hb_x1 => ?_);unfold FIxH_s1 at hr;refine zQ (zR (yS Z (zb2 Z Z Z Z) (zN (zT (zQ ?_)))));refine zX Z (fun g1 => ?_) (fun g1 => ?_)
  ·
   refine zi g1 hr fun hr => zk (zT (zQ (zl (zQ (zR (zM Z (zM Z (zN (zT (zQ (zR (zM Z (zM Z (zM Z (zb hr fun y1 h_y1 hr => yS Z (zx Z Z Z st1035 h_y1 Z) (yS Z (zC2 Z Z Z vt1071 Z Z) (zb hr fun v2 h_v2 hr => yS Z (zC Z Z Z (by kernel_rfl) (cFHolds1 h_v2)) (zN (zT ?_)))))))))))))))))));refine zX Z (fun g2 => ?_) (fun g2 => ?_)
   ·
    refine zi g2 hr fun hr => zQ (zR (zM Z (zM Z (zN (zT (zr (inBlk_r (thn_r (thn_r (inBlk_r (thn_r (thn_r ?_))))))))))));obtain rfl := zJ hr;have hr := congrArg some (hb_x1 _ rfl);obtain rfl := zJ hr;have hr := sum_r ho_v1;obtain rfl := zJ hr;exact fin_ret (.one (.tmp Z)) (⟨rfl, rfl⟩)
   ·
    refine zo g2 hr fun hr => zk (inBlk_n (zT (zR (yS Z (zb2 Z Z Z Z) (zM Z (zN (zT ?_)))))));obtain rfl := zJ hr;exact ⟨_, rfl, zW 2 ⟨rfl, rfl, rfl, rfl, rfl, trivial⟩ Z Z Z rfl⟩
  ·
   refine zo g1 hr fun hr => zq (thn_e (thn_e (zy (zT ?_))));obtain rfl := zJ hr;have hr := congrArg some (hb_x1 _ rfl);obtain rfl := zJ hr;exact ⟨_, rfl, zW 2 ⟨rfl, trivial⟩ Z Z Z rfl⟩
 ·obtain rfl := e_v1;have hr := sum_l ho_v1;clear hb_v1;refine zT (LW.weak hw_v1 (zQ (zR (zM Z (zN (zT (zr ?_)))))));obtain rfl := zJ hr;exact fin_ret (.one (.tmp Z)) (⟨rfl, rfl⟩)
def FCfH (l : List Nd) (w : Wd) (id : ID) : Option Bool :=
 (FIxH l w id).bind fun v1 =>
 some (decide (v1 ≥ 0))
theorem cFCfH {l : List Nd} {w : Wd} {id : ID} {r_ : Bool} (hr : FCfH l w id = some r_) : LC Tryz.prog 63 [.p (.slice 12 (l.map ndP)), .fn 64 [] [.ptr 1 0, .ptr 0 0]] [.box (wdO w), .box [(uQ id.1), (uQ id.2)]] (Is (bQ r_) [.box (wdO w), .box [(uQ id.1), (uQ id.2)]]) := by
 refine zh2 Tryz.func63 Z Z Z ?_;unfold FCfH at hr;refine zQ (zR (zM Z (zN (zT (zQ (zR (zM Z (zM Z (zb hr fun v1 h_v1 hr => yS Z (zC Z Z Z (by kernel_rfl) (cFIxH h_v1)) (yS Z (zb2 Z Z Z Z) (zM Z (zN (zT (zr ?_))))))))))))));obtain rfl := zJ hr;exact fin_ret (.one (.tmp Z)) (⟨rfl, rfl⟩)
def F1012 (w : Wd) (id : ID) : Option Bool :=
 (FCfH w.N w id).bind fun v1 =>
 some (!v1)
theorem c1012 {w : Wd} {id : ID} {r_ : Bool} (hr : F1012 w id = some r_) : LPure Tryz.prog 27 [wdP w, idP id] [.bool r_] := by
 refine zh Tryz.func27 Z Z Z Z ?_;unfold F1012 at hr;refine zQ (zR (yS Z (zbx Z Z Z Z Z) (yS Z (zbx Z Z Z Z Z) (zM Z (zN (zT (zQ (zR (yS Z (zA Z Z ft1038_3) (yS Z (zD Z Z Z vt1035 Z Z) (yS Z (LOp.makeFunc Z Z Z) (zb hr fun v1 h_v1 hr => yS Z (zC Z Z Z (by kernel_rfl) (cFCfH h_v1)) (yS Z (LOp.not Z Z) (zM Z (zN (zT (zr ?_)))))))))))))))));obtain rfl := zJ hr;exact zf (.one (.tmp Z)) zv
open Go.Proofs
def F1006 : Option Bool :=
 (F1007 (Cf.mk [1, 1, 1] 0 1 1 4) [1] 5).bind fun v1 =>
 bif v1.1 == 2 then
  bif v1.2 == 1 then
   (F1010 (Cf.mk [1, 1, 1] 0 1 1 4) [1] 1 9).bind fun v2 =>
   bif v2 then
    (F1011 (Cf.mk [1, 1, 1] 0 1 1 4) [1] 5).bind fun v3 =>
    bif !v3 then
     (F1011 (Cf.mk [1, 1, 1] 0 1 1 4) ([] : List Int) 5).bind fun v4 =>
     bif v4 then
      (F1012 (Wd.mk (Cf.mk [] 0 0 0 0) [] 0 [] []) (0, 0)).bind fun v5 =>
      bif v5 then
       (F1013 (Wd.mk (Cf.mk [] 0 0 0 0) [] 0 [] []) [Ac.mk 0 0 false [Bk.mk 1 0 (0, 0) 0] []]).bind fun v6 =>
       some ((v6.B.length : Int) == 1)
      else
       some false
     else
      some false
    else
     some false
   else
    some false
  else
   some false
 else
  some false
theorem c1006 {r_ : Bool} (hr : F1006 = some r_) : LPure Tryz.prog 42 [] [.bool r_] := by
 refine zh Tryz.func42 Z Z Z Z ?_;unfold F1006 at hr;refine zQ (zR (zM Z (zN (zT (zQ (zR (yS Z (zB2 Z st49 Z Z Z Z Z) (yS Z (LOp.build Z bt55 Z Z Z) (yS Z (ze Z zt55 Z Z) (yS Z (zs Z Z Z Z vt55 Z Z Z Z) (zN (zT (zQ (zR (yS Z (zD Z Z Z vt55 Z Z) (yS Z (zB2 Z st49 Z Z Z Z Z) (zb hr fun v1 h_v1 hr => yS Z (zC Z Z Z (by kernel_rfl) (zp (c1007 h_v1) (.cons zv (.cons zv (.cons zv .nil))))) (zM Z (yS Z (zX2 Z Z Z) (yS Z (zX2 Z Z Z) (zM Z (zM Z ?_))))))))))))))))))))));refine zN (zT (zQ (zR (zM Z (yS Z (zb2 Z Z Z Z) (zM Z ?_))))));refine zc 14 Z (fun g1 => ?_) (fun g1 => ?_)
 ·
  refine zi g1 hr fun hr => yV Z (gd g1 Z) (zm Z Z) (yV Z (gd g1 Z) (zb2 Z Z Z Z) (yS Z (zpT Z (gdl g1 Z) Z) (zM Z ?_)));refine zc 18 Z (fun g2 => ?_) (fun g2 => ?_)
  ·
   refine zi g2 hr fun hr => yV Z (gd g2 Z) (zD Z Z Z vt55 Z Z) (yV Z (gd g2 Z) (zB2 Z st49 Z Z Z Z Z) (zb hr fun v2 h_v2 hr => yV Z (gd g2 Z) (zC Z Z Z (by kernel_rfl) (zp (c1010 h_v2) (.cons zv (.cons zv (.cons zv (.cons zv .nil)))))) (yS Z (zpT Z (gdl g2 Z) Z) (zM Z ?_))));refine zc 23 Z (fun g3 => ?_) (fun g3 => ?_)
   ·
    refine zi g3 hr fun hr => yV Z (gd g3 Z) (zD Z Z Z vt55 Z Z) (yV Z (gd g3 Z) (zB2 Z st49 Z Z Z Z Z) (zb hr fun v3 h_v3 hr => yV Z (gd g3 Z) (zC Z Z Z (by kernel_rfl) (zp (c1011 h_v3) (.cons zv (.cons zv (.cons zv .nil))))) (yV Z (gd g3 Z) (LOp.not Z Z) (yS Z (zpT Z (gdl g3 Z) Z) (zM Z ?_)))));refine zc 29 Z (fun g4 => ?_) (fun g4 => ?_)
    ·
     refine zi g4 hr fun hr => yV Z (gd g4 Z) (zD Z Z Z vt55 Z Z) (zb hr fun v4 h_v4 hr => yV Z (gd g4 Z) (zC Z Z Z (by kernel_rfl) (zp (c1011 h_v4) (.cons zv (.cons Conv.zs (.cons zv .nil))))) (yS Z (zpT Z (gdl g4 Z) Z) (zM Z ?_)));refine zc 33 Z (fun g5 => ?_) (fun g5 => ?_)
     ·
      refine zi g5 hr fun hr => yV Z (gd g5 Z) (LOp.build Z bt1038 Z Z Z) (yV Z (gd g5 Z) (LOp.build Z bt24 Z Z Z) (zb hr fun v5 h_v5 hr => yV Z (gd g5 Z) (zC Z Z Z (by kernel_rfl) (zp (c1012 h_v5) (.cons (Conv.agg (.cons Conv.zs (.cons zv (.cons zv (.cons zv (.cons zv (.cons Conv.zs (.cons zv (.cons Conv.zs (.cons Conv.zs .nil)))))))))) (.cons zv .nil)))) (yS Z (zpT Z (gdl g5 Z) Z) (zM Z ?_))));refine zc 38 Z (fun g6 => ?_) (fun g6 => ?_)
      ·
       refine zi g6 hr fun hr => yV Z (gd g6 Z) (LOp.build Z bt1038 Z Z Z) (yV Z (gd g6 Z) (LOp.build Z bt42 Z Z Z) (yV Z (gd g6 Z) (zB2 Z st27 Z Z Z Z Z) (yV Z (gd g6 Z) (LOp.toP (p := .agg [.int .i64 0, .int .i64 0, .bool false, .slice 5 ([Bk.mk 1 0 (0, 0) 0].map blkP), .slice 4 (([] : List Vt).map vtP)]) (LOp.build Z bt1049 Z Z Z) (Conv.agg (.cons zv (.cons zv (.cons zv (.cons zv (.cons Conv.zs .nil))))))) (yV Z (gd g6 Z) (zB2 Z st1050 Z Z Z Z Z) (zb hr fun v6 h_v6 hr => yV Z (gd g6 Z) (zC Z Z Z (by kernel_rfl) (zp (c1013 h_v6) (.cons (Conv.agg (.cons Conv.zs (.cons zv (.cons zv (.cons zv (.cons zv (.cons Conv.zs (.cons zv (.cons Conv.zs (.cons Conv.zs .nil)))))))))) (.cons zv .nil)))) (yV Z (gd g6 Z) (LOp.field Z Z Z ft75_0 Z Z) (yV Z (gd g6 Z) (zlM Z Z (by kernel_rfl)) (yV Z (gd g6 Z) (zb2 Z Z Z Z) (yS Z (zpT Z (gdl g6 Z) Z) (zM Z (zN (zT (zr ?_)))))))))))));obtain rfl := zJ hr;exact zf (.one (.tmp Z)) zv
      ·
       refine zo g6 hr fun hr => yU Z (gd g6 Z) Z (yU Z (gd g6 Z) Z (yU Z (gd g6 Z) Z (yU Z (gd g6 Z) Z (yU Z (gd g6 Z) Z (yU Z (gd g6 Z) Z (yU Z (gd g6 Z) Z (yU Z (gd g6 Z) Z (yU Z (gd g6 Z) Z (yS Z (zpF Z (gdl g6 Z) Z) (zM Z (zN (zT (zr ?_)))))))))))));obtain rfl := zJ hr;exact zf (.one (.tmp Z)) zv
     ·
      refine zo g5 hr fun hr => yU Z (gd g5 Z) Z (yU Z (gd g5 Z) Z (yU Z (gd g5 Z) Z (yS Z (zpF Z (gdl g5 Z) Z) (zM Z (yU Z Z Z (yU Z Z Z (yU Z Z Z (yU Z Z Z (yU Z Z Z (yU Z Z Z (yU Z Z Z (yU Z Z Z (yU Z Z Z (yS Z (zpF Z Z Z) (zM Z (zN (zT (zr ?_))))))))))))))))));obtain rfl := zJ hr;exact zf (.one (.tmp Z)) zv
    ·
     refine zo g4 hr fun hr => yU Z (gd g4 Z) Z (yU Z (gd g4 Z) Z (yS Z (zpF Z (gdl g4 Z) Z) (zM Z (yU Z Z Z (yU Z Z Z (yU Z Z Z (yS Z (zpF Z Z Z) (zM Z (yU Z Z Z (yU Z Z Z (yU Z Z Z (yU Z Z Z (yU Z Z Z (yU Z Z Z (yU Z Z Z (yU Z Z Z (yU Z Z Z (yS Z (zpF Z Z Z) (zM Z (zN (zT (zr ?_))))))))))))))))))))));obtain rfl := zJ hr;exact zf (.one (.tmp Z)) zv
   ·
    refine zo g3 hr fun hr => yU Z (gd g3 Z) Z (yU Z (gd g3 Z) Z (yU Z (gd g3 Z) Z (yU Z (gd g3 Z) Z (yS Z (zpF Z (gdl g3 Z) Z) (zM Z (yU Z Z Z (yU Z Z Z (yS Z (zpF Z Z Z) (zM Z (yU Z Z Z (yU Z Z Z (yU Z Z Z (yS Z (zpF Z Z Z) (zM Z (yU Z Z Z (yU Z Z Z (yU Z Z Z (yU Z Z Z (yU Z Z Z (yU Z Z Z (yU Z Z Z (yU Z Z Z ?_))))))))))))))))))))));refine yU Z Z Z (yS Z (zpF Z Z Z) (zM Z (zN (zT (zr ?_)))));obtain rfl := zJ hr;exact zf (.one (.tmp Z)) zv
  ·
   refine zo g2 hr fun hr => yU Z (gd g2 Z) Z (yU Z (gd g2 Z) Z (yU Z (gd g2 Z) Z (yS Z (zpF Z (gdl g2 Z) Z) (zM Z (yU Z Z Z (yU Z Z Z (yU Z Z Z (yU Z Z Z (yS Z (zpF Z Z Z) (zM Z (yU Z Z Z (yU Z Z Z (yS Z (zpF Z Z Z) (zM Z (yU Z Z Z (yU Z Z Z (yU Z Z Z (yS Z (zpF Z Z Z) (zM Z (yU Z Z Z (yU Z Z Z (yU Z Z Z ?_))))))))))))))))))))));refine yU Z Z Z (yU Z Z Z (yU Z Z Z (yU Z Z Z (yU Z Z Z (yU Z Z Z (yS Z (zpF Z Z Z) (zM Z (zN (zT (zr ?_))))))))));obtain rfl := zJ hr;exact zf (.one (.tmp Z)) zv
 ·
  refine zo g1 hr fun hr => yU Z (gd g1 Z) Z (yU Z (gd g1 Z) Z (yS Z (zpF Z (gdl g1 Z) Z) (zM Z (yU Z Z Z (yU Z Z Z (yU Z Z Z (yS Z (zpF Z Z Z) (zM Z (yU Z Z Z (yU Z Z Z (yU Z Z Z (yU Z Z Z (yS Z (zpF Z Z Z) (zM Z (yU Z Z Z (yU Z Z Z (yS Z (zpF Z Z Z) (zM Z (yU Z Z Z (yU Z Z Z (yU Z Z Z (yS Z (zpF Z Z Z) ?_))))))))))))))))))))));refine zM Z (yU Z Z Z (yU Z Z Z (yU Z Z Z (yU Z Z Z (yU Z Z Z (yU Z Z Z (yU Z Z Z (yU Z Z Z (yU Z Z Z (yS Z (zpF Z Z Z) (zM Z (zN (zT (zr ?_))))))))))))));obtain rfl := zJ hr;exact zf (.one (.tmp Z)) zv
open Go.Proofs
structure F4012_L1 where
 i : Int
def F4012_s1 (l : List Ac) (v6 : Vw) (x1 : F4012_L1) : Option (F4012_L1 ⊕ (F4012_L1 ⊕ Bool)) :=
 bif decide (x1.i < (l.length : Int)) then
  (ix l x1.i).bind fun y1 =>
  (ix l x1.i).bind fun y2 =>
  (F141 v6 (Vw.mk y1.B y2.V)).bind fun v12 =>
  bif (v12.B.length : Int) != (v6.B.length : Int) then
   some (.inr (.inr false))
  else
   bif (v12.V.length : Int) != (v6.V.length : Int) then
    some (.inr (.inr false))
   else
    some (.inl (F4012_L1.mk (IntKind.i64.wrap (x1.i + 1))))
 else
  some (.inr (.inl (F4012_L1.mk x1.i)))
def F4012 (c : Cf) (bad : List Int) (l : List Ac) (ticks : Int) (v_at : Int) : Option Bool :=
 (F1006 ).bind fun v1 =>
 (F4030 c bad l).bind fun v2 =>
 (
  bif !v1 then
   some true
  else
   bif !v2 then
    some true
   else
    bif decide (ticks > 8) then
     some true
    else
     bif decide (v_at < 0) then
      some true
     else
      some (decide (v_at > (l.length : Int)))
 ).bind fun v3 =>
 bif v3 then
  some v1
 else
  (F4016 c bad).bind fun v4 =>
  (F4031 v4 l ticks).bind fun v5 =>
  (F1013 v5 l).bind fun v6 =>
  bif inL l 0 v_at then
   (F1013 v5 (l.take v_at.toNat)).bind fun v7 =>
   (F141 v6 v7).bind fun v8 =>
   (F141 (Vw.mk [] []) v6).bind fun v9 =>
   (F86 v9 v6).bind fun v10 =>
   (iter (F4012_s1 l v6) big (F4012_L1.mk 0)).bind fun b_v11 => Sum.elim (fun _ =>
    bif v10 then
     bif (v8.B.length : Int) == (v6.B.length : Int) then
      some ((v8.V.length : Int) == (v6.V.length : Int))
     else
      some false
    else
     some false) some b_v11
  else none
theorem c4012 {c : Cf} {bad : List Int} {l : List Ac} {ticks : Int} {v_at : Int} {r_ : Bool} (hr : F4012 c bad l ticks v_at = some r_) : LPure Tryz.prog 12 [cfP c, .slice 1 (bad.map i64P), .slice 5 (l.map acP), .int .i64 ticks, .int .i64 v_at] [.bool r_] := by
 refine zh Tryz.func12 Z Z Z Z ?_;unfold F4012 at hr;refine zQ (zR (yS Z (zbx Z Z Z Z Z) (zM Z (zN (zT (zQ (zR (zb hr fun v1 h_v1 hr => yS Z (zC Z Z Z (by kernel_rfl) (zp (c1006 h_v1) .nil)) (zM Z (zN (zT (zQ (zR (yS Z (zD Z Z Z vt55 Z Z) (zM Z (zM Z (zb hr fun v2 h_v2 hr => yS Z (zC Z Z Z (by kernel_rfl) (zp (c4030 h_v2) (.cons zv (.cons zv (.cons zv .nil))))) (zM Z (zN (zT (zQ ?_)))))))))))))))))))));obtain ⟨v3, hb_v3, ho_v3⟩ := zB hr;clear hr;refine LW.cut (E := [(1, (kI bad)), (2, .p (.slice 5 (l.map acP))), (3, (iQ ticks)), (4, (iQ v_at)), (5, .ptr 0 0), (10, (bQ false)), (11, (bQ v1)), (45, (bQ v3))]) (O := [.box (cfO c)]) ?_ ?_
 ·have hr := hb_v3;refine zR (zM Z (yS Z (LOp.not Z Z) (zM Z ?_)));refine zc 28 Z (fun g1 => ?_) (fun g1 => ?_)
  ·
   refine zi g1 hr fun hr => yU Z (gd g1 Z) Z (yU Z (gd g1 Z) Z (yS Z (zpT Z (gdl g1 Z) Z) (zM Z (yU Z Z Z (yU Z Z Z (yS Z (zpT Z Z Z) (zM Z (yU Z Z Z (yU Z Z Z (yS Z (zpT Z Z Z) (zM Z (yU Z Z Z (yU Z Z Z (yU Z Z Z (yU Z Z Z (yS Z (zpT Z Z Z) (zN (zT ?_))))))))))))))))));obtain rfl := zJ hr;exact zW 1 ⟨Z, Z, Z, Z, Z, Z, Z, Z, trivial⟩ Z Z Z Z
  ·
   refine zo g1 hr fun hr => yV Z (gd g1 Z) (zm Z Z) (yV Z (gd g1 Z) (LOp.not Z Z) (yS Z (zpF Z (gdl g1 Z) Z) (zM Z ?_)));refine zc 32 Z (fun g2 => ?_) (fun g2 => ?_)
   ·
    refine zi g2 hr fun hr => yU Z (gd g2 Z) Z (yU Z (gd g2 Z) Z (yS Z (zpT Z (gdl g2 Z) Z) (zM Z (yU Z Z Z (yU Z Z Z (yS Z (zpT Z Z Z) (zM Z (yU Z Z Z (yU Z Z Z (yU Z Z Z (yU Z Z Z (yS Z (zpT Z Z Z) (zN (zT ?_))))))))))))));obtain rfl := zJ hr;exact zW 1 ⟨Z, Z, Z, Z, Z, Z, Z, Z, trivial⟩ Z Z Z Z
   ·
    refine zo g2 hr fun hr => yV Z (gd g2 Z) (zm Z Z) (yV Z (gd g2 Z) (zb2 Z Z Z Z) (yS Z (zpF Z (gdl g2 Z) Z) (zM Z ?_)));refine zc 36 Z (fun g3 => ?_) (fun g3 => ?_)
    ·
     refine zi g3 hr fun hr => yU Z (gd g3 Z) Z (yU Z (gd g3 Z) Z (yS Z (zpT Z (gdl g3 Z) Z) (zM Z (yU Z Z Z (yU Z Z Z (yU Z Z Z (yU Z Z Z (yS Z (zpT Z Z Z) (zN (zT ?_))))))))));obtain rfl := zJ hr;exact zW 1 ⟨Z, Z, Z, Z, Z, Z, Z, Z, trivial⟩ Z Z Z Z
    ·
     refine zo g3 hr fun hr => yV Z (gd g3 Z) (zm Z Z) (yV Z (gd g3 Z) (zb2 Z Z Z Z) (yS Z (zpF Z (gdl g3 Z) Z) (zM Z ?_)));refine zc 40 Z (fun g4 => ?_) (fun g4 => ?_)
     ·
      refine zi g4 hr fun hr => yU Z (gd g4 Z) Z (yU Z (gd g4 Z) Z (yU Z (gd g4 Z) Z (yU Z (gd g4 Z) Z (yS Z (zpT Z (gdl g4 Z) Z) (zN (zT ?_))))));obtain rfl := zJ hr;exact zW 1 ⟨Z, Z, Z, Z, Z, Z, Z, Z, trivial⟩ Z Z Z Z
     ·
      refine zo g4 hr fun hr => yV Z (gd g4 Z) (zm Z Z) (yV Z (gd g4 Z) (zm Z Z) (yV Z (gd g4 Z) (zlM Z Z (by kernel_rfl)) (yV Z (gd g4 Z) (zb2 Z Z Z Z) (yS Z (zpF Z (gdl g4 Z) Z) (zN (zT ?_))))));obtain rfl := zJ hr;exact zW 1 ⟨Z, Z, Z, Z, Z, Z, Z, Z, trivial⟩ Z Z Z Z
 ·have hr := ho_v3;clear hb_v3;refine zX Z (fun g5 => ?_) (fun g5 => ?_)
  ·
   refine zi g5 hr fun hr => zQ (zR (zM Z (zM Z (zN (zT (zr (thn_r ?_)))))));obtain rfl := zJ hr;exact zf (.one (.tmp Z)) zv
  ·
   refine zo g5 hr fun hr => zk (zT (zQ (zR (yS Z (zD Z Z Z vt55 Z Z) (zM Z (zb hr fun v4 h_v4 hr => yS Z (zC Z Z Z (by kernel_rfl) (zp (c4016 h_v4) (.cons zv (.cons zv .nil)))) (zM Z (zM Z (zb hr fun v5 h_v5 hr => yS Z (zC Z Z Z (by kernel_rfl) (zp (c4031 h_v5) (.cons zv (.cons zv (.cons zv .nil))))) (yS Z (ze Z zt1038 Z Z) (yS Z (zs Z Z Z Z vt1038 Z Z Z Z) (zN (zT (zQ (zR (yS Z (zD Z Z Z vt1038 Z Z) (zM Z (zb hr fun v6 h_v6 hr => yS Z (zC Z Z Z (by kernel_rfl) (zp (c1013 h_v6) (.cons zv (.cons zv .nil)))) (yS Z (ze Z zt75 Z Z) ?_)))))))))))))))))));refine yS Z (zs Z Z Z Z vt75 Z Z Z Z) (zN (zT (zQ (LW.ent (Ent.slot Z) (LW.drawW (by kernel_rfl) (by kernel_rfl) (yF Z (zd Z Z Z vt1038 Z Z) Z (zK Z (zK Z (zg hr fun q1 hr => ?_)))))))));refine yF (F := []) (s := none) Z (fun H _ => LOp.sliceHi Z Z Z st1050 q1) Z ?_;obtain ⟨v7, h_v7, hr⟩ := zB hr;refine yF (F := []) (s := none) Z (fun H _ => zC Z Z Z (by kernel_rfl) (zp (c1013 h_v7) (.cons zv (.cons zv .nil)))) Z ?_;refine yF Z (LAt.alloc Z zt75 (id := 3) Z) Z (yF Z (zt Z Z Z Z vt75 Z Z Z) Z ?_);refine LF.nil ⟨by kernel_rfl, ?_⟩;refine zT (zQ (zR (yS Z (zD Z Z Z vt75 Z Z) (yS Z (zD Z Z Z vt75 Z Z) (zb hr fun v8 h_v8 hr => yS Z (zC Z Z Z (by kernel_rfl) (zp (c141 h_v8) (.cons zv (.cons zv .nil)))) (yS Z (ze Z zt75 Z Z) (yS Z (zs Z Z Z Z vt75 Z Z Z Z) (zN (zT (zQ (zR (yS Z (ze Z zt75 Z Z) (zN (zT (zQ (zR (yS Z (zD Z Z Z vt75 Z Z) (yS Z (zD Z Z Z vt75 Z Z) (zb hr fun v9 h_v9 hr => yS Z (zC Z Z Z (by kernel_rfl) (zp (c141 h_v9) (.cons (Conv.agg (.cons Conv.zs (.cons Conv.zs .nil))) (.cons zv .nil)))) (yS Z (zs Z Z Z Z vt75 Z Z Z Z) (zN ?_)))))))))))))))))))));refine zT (zQ (zR (yS Z (zD Z Z Z vt75 Z Z) (yS Z (zD Z Z Z vt75 Z Z) (zb hr fun v10 h_v10 hr => yS Z (zC Z Z Z (by kernel_rfl) (zp (c86 h_v10) (.cons zv (.cons zv .nil)))) (zM Z (zN (zT (zQ (zQ (zR (zM Z (zN (zT ?_))))))))))))));obtain ⟨b_v11, hb_v11, ho_v11⟩ := zB hr;clear hr;refine LW.tailB (b := b_v11) (E := fun v11 => [(10, (bQ false)), (14, .ptr 2 0), (16, .ptr 4 0), (18, (bQ v10))]) (O := fun v11 => [.box (cfO c), .box (wdO v5), .box (vwO v6), .box (vwO v7), .box (vwO v8), .box (vwO v9)]) ?_ (fun v11 e_v11 env_v11 H_v11 hw_v11 => ?_)
   ·refine LW.block ?_;refine LW.iterB (E := fun x1 : F4012_L1 => [(2, .p (.slice 5 (l.map acP))), (10, (bQ false)), (14, .ptr 2 0), (16, .ptr 4 0), (18, (bQ v10)), (19, (iQ x1.i))]) (O := fun x1 => [.box (cfO c), .box (wdO v5), .box (vwO v6), .box (vwO v7), .box (vwO v8), .box (vwO v9)]) hb_v11 (zW 6 ⟨rfl, rfl, rfl, rfl, rfl, rfl, trivial⟩ Z Z Z Z) (fun x1 z_x1 hr hb_x1 => ?_);unfold F4012_s1 at hr;refine zQ (zQ (zR (zM Z (zM Z (yS Z (zlM Z Z (by kernel_rfl)) (yS Z (zb2 Z Z Z Z) (zN (zT ?_))))))));refine zX Z (fun g6 => ?_) (fun g6 => ?_)
    ·
     refine zi g6 hr fun hr => zk (zT (zQ (zl (zQ (LW.ent (Ent.slot Z) (LW.drawW (by kernel_rfl) (by kernel_rfl) (yF Z (zd Z Z Z vt75 Z Z) Z (zK Z (zK Z (zb hr fun y1 h_y1 hr => ?_))))))))));refine yF (F := []) (s := none) Z (fun H _ => zx Z Z Z st1050 h_y1 Z) Z ?_;refine yF (F := []) (s := none) Z (fun H _ => LOp.fieldAddrC Z Z ft1049_3 Z) Z ?_;refine yF (F := []) (s := none) Z (fun H _ => zC2 Z Z Z vt27 Z Z) Z ?_;refine zK Z (zK Z (zb hr fun y2 h_y2 hr => ?_));refine yF (F := []) (s := none) Z (fun H _ => zx Z Z Z st1050 h_y2 Z) Z ?_;refine yF (F := []) (s := none) Z (fun H _ => LOp.fieldAddrC Z Z ft1049_4 Z) Z ?_;refine yF (F := []) (s := none) Z (fun H _ => zC2 Z Z Z vt68 Z Z) Z ?_;refine yF (F := []) (s := none) Z (fun H _ => LOp.build Z bt75 Z Z Z) Z ?_;obtain ⟨v12, h_v12, hr⟩ := zB hr;refine yF (F := []) (s := none) Z (fun H _ => zC Z Z Z (by kernel_rfl) (zp (c141 h_v12) (.cons zv (.cons zv .nil)))) Z ?_;refine yF Z (LAt.alloc Z zt75 (id := 6) Z) Z (yF Z (zt Z Z Z Z vt75 Z Z Z) Z ?_);refine LF.nil ⟨by kernel_rfl, ?_⟩;refine zT (zQ (zR (yS Z (zA Z Z ft75_0) (yS Z (zD Z Z Z vt27 Z Z) (yS Z (zlM Z Z (by kernel_rfl)) (yS Z (zA Z Z ft75_0) (yS Z (zD Z Z Z vt27 Z Z) (yS Z (zlM Z Z (by kernel_rfl)) (yS Z (zb2 Z Z Z Z) (zM Z ?_))))))))));refine zc 96 Z (fun g7 => ?_) (fun g7 => ?_)
     ·
      refine zi g7 hr fun hr => yU Z (gd g7 Z) Z (yU Z (gd g7 Z) Z (yU Z (gd g7 Z) Z (yU Z (gd g7 Z) Z (yU Z (gd g7 Z) Z (yU Z (gd g7 Z) Z (yU Z (gd g7 Z) Z (yS Z (zpT Z (gdl g7 Z) Z) (zN (zT (LW.condT Z (zQ (zR (zM Z (zN (zT (zr (inBlk_r (thn_r (thn_r (inBlk_r (thn_r (thn_r ?_))))))))))))))))))))));obtain rfl := zJ hr;have hr := congrArg some (hb_x1 _ rfl);obtain rfl := zJ hr;have hr := sum_r ho_v11;obtain rfl := zJ hr;exact zf (.one (.tmp Z)) zv
     ·
      refine zo g7 hr fun hr => yV Z (gd g7 Z) (zA Z Z ft75_1) (yV Z (gd g7 Z) (zD Z Z Z vt68 Z Z) (yV Z (gd g7 Z) (zlM Z Z (by kernel_rfl)) (yV Z (gd g7 Z) (zA Z Z ft75_1) (yV Z (gd g7 Z) (zD Z Z Z vt68 Z Z) (yV Z (gd g7 Z) (zlM Z Z (by kernel_rfl)) (yV Z (gd g7 Z) (zb2 Z Z Z Z) (yS Z (zpF Z (gdl g7 Z) Z) (zN (zT ?_)))))))));refine zX Z (fun g8 => ?_) (fun g8 => ?_)
      ·
       refine zi g8 hr fun hr => zQ (zR (zM Z (zN (zT (zr (inBlk_r (thn_r (thn_r (inBlk_r (thn_r (thn_r ?_)))))))))));obtain rfl := zJ hr;have hr := congrArg some (hb_x1 _ rfl);obtain rfl := zJ hr;have hr := sum_r ho_v11;obtain rfl := zJ hr;exact zf (.one (.tmp Z)) zv
      ·
       refine zo g8 hr fun hr => zk (inBlk_n (zT (zR (zM Z (yS Z (zb2 Z Z Z Z) (zM Z (zN (zT ?_))))))));obtain rfl := zJ hr;exact ⟨_, rfl, zW 6 ⟨rfl, rfl, rfl, rfl, rfl, rfl, trivial⟩ Z Z Z rfl⟩
    ·
     refine zo g6 hr fun hr => zq (thn_e (thn_e (zy (zT ?_))));obtain rfl := zJ hr;have hr := congrArg some (hb_x1 _ rfl);obtain rfl := zJ hr;exact ⟨_, rfl, zW 6 ⟨rfl, rfl, rfl, rfl, trivial⟩ Z Z Z rfl⟩
   ·obtain rfl := e_v11;have hr := sum_l ho_v11;clear hb_v11;refine zT (LW.weak hw_v11 (zQ (zR (zM Z (zM Z ?_)))));refine zc 106 Z (fun g9 => ?_) (fun g9 => ?_)
    ·
     refine zi g9 hr fun hr => yV Z (gd g9 Z) (zA Z Z ft75_0) (yV Z (gd g9 Z) (zD Z Z Z vt27 Z Z) (yV Z (gd g9 Z) (zlM Z Z (by kernel_rfl)) (yV Z (gd g9 Z) (zA Z Z ft75_0) (yV Z (gd g9 Z) (zD Z Z Z vt27 Z Z) (yV Z (gd g9 Z) (zlM Z Z (by kernel_rfl)) (yV Z (gd g9 Z) (zb2 Z Z Z Z) (yS Z (zpT Z (gdl g9 Z) Z) (zM Z ?_))))))));refine zc 115 Z (fun g10 => ?_) (fun g10 => ?_)
     ·
      refine zi g10 hr fun hr => yV Z (gd g10 Z) (zA Z Z ft75_1) (yV Z (gd g10 Z) (zD Z Z Z vt68 Z Z) (yV Z (gd g10 Z) (zlM Z Z (by kernel_rfl)) (yV Z (gd g10 Z) (zA Z Z ft75_1) (yV Z (gd g10 Z) (zD Z Z Z vt68 Z Z) (yV Z (gd g10 Z) (zlM Z Z (by kernel_rfl)) (yV Z (gd g10 Z) (zb2 Z Z Z Z) (yS Z (zpT Z (gdl g10 Z) Z) (zM Z (zN (zT (zr ?_)))))))))));obtain rfl := zJ hr;exact zf (.one (.tmp Z)) zv
     ·
      refine zo g10 hr fun hr => yU Z (gd g10 Z) Z (yU Z (gd g10 Z) Z (yU Z (gd g10 Z) Z (yU Z (gd g10 Z) Z (yU Z (gd g10 Z) Z (yU Z (gd g10 Z) Z (yU Z (gd g10 Z) Z (yS Z (zpF Z (gdl g10 Z) Z) (zM Z (zN (zT (zr ?_)))))))))));obtain rfl := zJ hr;exact zf (.one (.tmp Z)) zv
    ·
     refine zo g9 hr fun hr => yU Z (gd g9 Z) Z (yU Z (gd g9 Z) Z (yU Z (gd g9 Z) Z (yU Z (gd g9 Z) Z (yU Z (gd g9 Z) Z (yU Z (gd g9 Z) Z (yU Z (gd g9 Z) Z (yS Z (zpF Z (gdl g9 Z) Z) (zM Z (yU Z Z Z (yU Z Z Z (yU Z Z Z (yU Z Z Z (yU Z Z Z (yU Z Z Z (yU Z Z Z (yS Z (zpF Z Z Z) (zM Z (zN (zT (zr ?_))))))))))))))))))));obtain rfl := zJ hr;exact zf (.one (.tmp Z)) zv
theorem iter_go {α β : Type} {step : α → Option (α ⊕ β)} {n : Nat} {x y : α} (h : step x = some (.inl y)) : iter step (n + 1) x = iter step n y := by
 rw [iter, h]
theorem iter_end {α β : Type} {step : α → Option (α ⊕ β)} {n : Nat} {x : α} {b : β} (h : step x = some (.inr b)) : iter step (n + 1) x = some b := by
 rw [iter, h]
theorem big3 : big = 4611686018427387901 + 1 + 1 + 1 := rfl
def lessP (a b : ID) : Bool := decide (a.1 < b.1 ∨ a.1 = b.1 ∧ a.2 < b.2)
def cmpI (x y : Int) : Int := if x < y then -1 else if x > y then 1 else 0
theorem F168_eq (x y : Int) : F168 x y = some (cmpI x y) := by
 have h : ∀ z : Int, F175 z = some false := fun z => by unfold F175; rw [show (z != z) = false by simp]
 unfold F168 cmpI;rw [h x, ob, h y, ob, cf, cf];by_cases h1 : x < y
 ·rw [decide_eq_true h1, ct, if_pos h1]
 ·rw [decide_eq_false h1, cf, if_neg h1];by_cases h2 : x > y
  ·rw [decide_eq_true h2, ct, if_pos h2]
  ·rw [decide_eq_false h2, cf, if_neg h2]
theorem F151_two (a1 a2 b1 b2 : Int) : F151 [a1, a2] [b1, b2] = some (if cmpI a1 b1 ≠ 0 then cmpI a1 b1 else cmpI a2 b2) := by
 unfold F151
 have h0 : ∀ i : Int, i = 0 → F151_s1 [a1, a2] [b1, b2] (F151_L1.mk i) = if cmpI a1 b1 ≠ 0 then some (.inr (.inr (cmpI a1 b1))) else some (.inl (F151_L1.mk 1)) := by
  rintro i rfl;unfold F151_s1;simp only;rw [show decide ((0 : Int) < (([a1, a2] : List Int).length : Int)) = true from rfl, ct, show ix [a1, a2] 0 = some a1 from rfl, ob, show decide ((0 : Int) ≥ (([b1, b2] : List Int).length : Int)) = false from rfl, cf, show ix [b1, b2] 0 = some b1 from rfl, ob, F168_eq, ob, show IntKind.i64.wrap (0 + 1) = 1 from wrapI (by omega) (by omega)];by_cases h : cmpI a1 b1 = 0
  ·rw [show (cmpI a1 b1 != 0) = false by simp [h], cf, if_neg (not_not_intro h)]
  ·rw [show (cmpI a1 b1 != 0) = true by simp [h], ct, if_pos h]
 have h1 : F151_s1 [a1, a2] [b1, b2] (F151_L1.mk 1) = if cmpI a2 b2 ≠ 0 then some (.inr (.inr (cmpI a2 b2))) else some (.inl (F151_L1.mk 2)) := by
  unfold F151_s1;simp only;rw [show decide ((1 : Int) < (([a1, a2] : List Int).length : Int)) = true from rfl, ct, show ix [a1, a2] 1 = some a2 from rfl, ob, show decide ((1 : Int) ≥ (([b1, b2] : List Int).length : Int)) = false from rfl, cf, show ix [b1, b2] 1 = some b2 from rfl, ob, F168_eq, ob, show IntKind.i64.wrap (1 + 1) = 2 from wrapI (by omega) (by omega)];by_cases h : cmpI a2 b2 = 0
  ·rw [show (cmpI a2 b2 != 0) = false by simp [h], cf, if_neg (not_not_intro h)]
  ·rw [show (cmpI a2 b2 != 0) = true by simp [h], ct, if_pos h]
 have h2 : F151_s1 [a1, a2] [b1, b2] (F151_L1.mk 2) = some (.inr (.inl (F151_L1.mk 2))) := by
  unfold F151_s1;simp only;rw [show decide ((2 : Int) < (([a1, a2] : List Int).length : Int)) = false from rfl, cf]
 rw [big3];by_cases c1 : cmpI a1 b1 = 0
 ·have e1 := h0 0 rfl;rw [if_neg (not_not_intro c1)] at e1;rw [iter_go e1, if_neg (not_not_intro c1)];by_cases c2 : cmpI a2 b2 = 0
  ·rw [if_neg (not_not_intro c2)] at h1;rw [iter_go h1, iter_end h2, ob, sl, show decide ((([a1, a2] : List Int).length : Int) < (([b1, b2] : List Int).length : Int)) = false from rfl, cf, c2]
  ·rw [if_pos c2] at h1;rw [iter_end h1, ob, sr]
 ·have e1 := h0 0 rfl;rw [if_pos c1] at e1;rw [iter_end e1, if_pos c1, ob, sr]
theorem F120_eq (a b : ID) : F120 a b = some (lessP a b) := by
 unfold F120 lessP;rw [F151_two, ob];congr 1;refine decide_eq_decide.2 ?_;unfold cmpI;by_cases h1 : a.1 < b.1
 ·simp [h1]
 ·by_cases h2 : a.1 > b.1
  ·have : a.1 ≠ b.1 := by omega
   simp [h1, h2, this]
  ·have : a.1 = b.1 := by omega
   by_cases h3 : a.2 < b.2
   ·simp [this, h3]
   ·by_cases h4 : a.2 > b.2 <;> simp [this, h3, h4]
theorem lessP_irr (a : ID) : lessP a a = false := by unfold lessP; exact decide_eq_false (by omega)
def aboveP (a b : Rk) : Bool := if a.n = b.n then lessP b.id a.id else decide (a.n > b.n)
theorem F122_eq (a b : Rk) : F122 a b = some (aboveP a b) := by
 unfold F122 aboveP;by_cases h : a.n = b.n
 ·rw [show (a.n != b.n) = false by simp [h], cf, if_pos h, show (a.n == b.n) = true by simp [h], Bool.true_and, eqID];by_cases h2 : a.id = b.id
  ·rw [decide_eq_true h2, Bool.not_true, cf, h2, lessP_irr]
  ·rw [decide_eq_false h2, Bool.not_false, ct, F120_eq, ob]
 ·rw [show (a.n != b.n) = true by simp [h], ct, if_neg h]
def underB (l : List Bk) (id h : ID) : Bool := decide (id ∈ chainOf l h)
def forL (l : List Bk) (v : List Vt) (id : ID) : List Int := (v.filter fun x => underB l id x.Head).map Vt.From
def onP (c : Cf) (l : List Bk) (v : List Vt) (id : ID) : Int := wtP c (forL l v id)
theorem findE_setEg {α β : Type} [DecidableEq α] {m : List (α × β)} {k q : α} {v : β} : findE (setE m k v) q = if k = q then some v else findE m q := by
 induction m with
 | nil => simp [setE, findE]
 | cons p r ih =>
  obtain ⟨a, b⟩ := p;unfold setE;by_cases h : a = k
  ·rw [if_pos h];subst h;by_cases h2 : a = q
   ·simp [findE, h2]
   ·simp [findE, h2]
  ·rw [if_neg h];simp only [findE];rw [ih];by_cases h2 : a = q
   ·rw [if_pos h2, if_pos h2, if_neg (fun e => h (by rw [h2, e]))]
   ·rw [if_neg h2, if_neg h2]
def MemoOk (l : List Bk) (id : ID) (m : List (ID × Bool)) : Prop := ∀ h b, findE m h = some b → b = underB l id h
theorem F152_eq {l : List Bk} (hl : l.length ≤ 1000) {x : Vt} {c : Cf} {id : ID} {m : List (ID × Bool)} (hm : MemoOk l id m) : ∃ m', F152 x c l id m = some (underB l id x.Head, m') ∧ MemoOk l id m' := by
 unfold F152
 have hu : decide (indexOf (chainOf l x.Head) id ≥ 0) = underB l id x.Head := by
  unfold underB; exact decide_eq_decide.2 ⟨fun h => indexOf_mem.1 h, fun h => indexOf_mem.2 h⟩
 cases hf : findE m x.Head with
 | none =>
  refine ⟨setE m x.Head (underB l id x.Head), ?_, ?_⟩
  ·rw [Option.isSome_none, Bool.not_false, ct, few_of hl, ct, hu]
  ·intro h b hb;rw [findE_setEg] at hb;by_cases e : x.Head = h
   ·rw [if_pos e] at hb; cases hb; rw [e]
   ·rw [if_neg e] at hb; exact hm h b hb
 | some b =>
  refine ⟨m, ?_, hm⟩;rw [Option.isSome_some, Bool.not_true, cf, Option.getD_some, hm _ _ hf]
theorem take_succ_getG {α : Type} {l : List α} {j : Nat} {y : α} (h : l[j]? = some y) : l.take (j + 1) = l.take j ++ [y] := by rw [List.take_add_one, h]; rfl
theorem forL_snoc {l : List Bk} {v : List Vt} {id : ID} {n : Nat} {y : Vt} (hy : v[n]? = some y) : forL l (v.take (n + 1)) id = forL l (v.take n) id ++ bif underB l id y.Head then [y.From] else [] := by
 unfold forL;rw [take_succ_getG hy, List.filter_append, List.map_append];cases h : underB l id y.Head <;> simp [h]
theorem forL_len (l : List Bk) (v : List Vt) (id : ID) : (forL l v id).length ≤ v.length := by
 unfold forL; rw [List.length_map]; exact List.length_filter_le _ _
theorem F153_eq {l : List Bk} (hl : l.length ≤ 1000) {v : List Vt} (hv : v.length ≤ 1000) {c : Cf} {id : ID} : ∃ m', F153 v c l id [] = some (forL l v id, m') := by
 unfold F153
 have key := iter_inv (step := F153_s1 v c l id) (fun x => ∃ n : Nat, n ≤ v.length ∧ x.t12 = n ∧ MemoOk l id x.o3 ∧ x.out = forL l (v.take n) id) (fun x => v.length - x.t12.toNat) (fun b => b.out = forL l v id) (by
  rintro ⟨t, m, out⟩ ⟨n, hn, h1, hm, ho⟩;simp only at h1 ho hm;subst h1 ho;by_cases hlt : n < v.length
  ·left;obtain ⟨y, hy, -⟩ := get_of hlt;obtain ⟨m', e, hm'⟩ := F152_eq hl (x := y) (c := c) hm;have hlen := forL_len l (v.take n) id;rw [List.length_take] at hlen;refine ⟨⟨((n + 1 : Nat) : Int), m', forL l (v.take (n + 1)) id⟩, ?_, ⟨n + 1, hlt, rfl, hm', rfl⟩, by simp only; omega⟩;unfold F153_s1;simp only;rw [decide_eq_true (show (n : Int) < (v.length : Int) by omega), ct, ix_nat hy, ob, e, ob, forL_snoc hy, wrap_succ (n := n) (by omega)]
   cases hu : underB l id y.Head with
   | true => rw [ct, show F154 y = some y.From from rfl, ob, room_ok (by simp only [List.length_singleton]; omega) (by omega), ct, ct]
   | false => rw [cf, cf, List.append_nil]
  ·right
   obtain rfl : n = v.length := by omega
   refine ⟨⟨(v.length : Int), m, forL l (v.take v.length) id⟩, ?_, by simp only [List.take_length]⟩;unfold F153_s1;simp only
   rw [decide_eq_false (show ¬ (v.length : Int) < (v.length : Int) by omega), cf]) (n := big) (x := ⟨0, [], []⟩) ⟨0, by omega, rfl, (fun h b hb => by cases hb), by simp [forL]⟩ (big_gt (by simp only; omega))
 obtain ⟨b, e, hp⟩ := key;exact ⟨b.o3, by rw [e, ob, hp]⟩
theorem F121_eq {l : List Bk} (hl : l.length ≤ 1000) {v : List Vt} (hv : v.length ≤ 1000) (c : Cf) (id : ID) : F121 c l v id = some (onP c l v id) := by
 unfold F121;obtain ⟨m', e⟩ := F153_eq hl hv (c := c) (id := id);have := forL_len l v id;rw [e, ob, F70_eq (by simp only; omega), ob]; rfl
theorem on_in (c : Cf) (l : List Bk) (v : List Vt) (id : ID) : 0 ≤ onP c l v id := by
 unfold onP wtP;split
 ·next h => exact (wsum_in h.okW.2 _).1
 ·omega
def bestK (f : ID → Int) : List ID → Rk → Rk
 | [], b => b
 | k :: r, b => bestK f r (bif aboveP ⟨f k, k⟩ b then ⟨f k, k⟩ else b)
theorem bestK_snoc (f : ID → Int) (k : ID) : ∀ (a : List ID) (b : Rk), bestK f (a ++ [k]) b = bif aboveP ⟨f k, k⟩ (bestK f a b) then ⟨f k, k⟩ else bestK f a b
 | [], _ => rfl
 | _ :: r, _ => bestK_snoc f k r _
def bestP (c : Cf) (l : List Bk) (v : List Vt) (id : ID) : Rk := bestK (onP c l v) (kidsOf l id) ⟨-1, (0, 0)⟩
theorem kids_len (l : List Bk) (id : ID) : (kidsOf l id).length ≤ l.length := by
 unfold kidsOf;split
 ·simp
 ·rw [List.length_map]; exact List.length_filter_le _ _
theorem F79_eq {l : List Bk} (hl : l.length ≤ 1000) {v : List Vt} (hv : v.length ≤ 1000) (c : Cf) (id : ID) : F79 c l v id = some ((bestP c l v id).id, decide ((bestP c l v id).n ≥ 0)) := by
 unfold F79;have hk := kids_len l id;rw [F46_eq hl, ob]
 have e := count_loop (step := F79_s1 c l v (kidsOf l id)) (n := (kidsOf l id).length) (fun n => F79_L1.mk (n : Int) (bestK (onP c l v) ((kidsOf l id).take n) ⟨-1, (0, 0)⟩)) (F79_L1.mk ((kidsOf l id).length : Int) (bestP c l v id)) (fun n hn => by
  obtain ⟨y, hy, -⟩ := get_of hn;unfold F79_s1;simp only;rw [decide_eq_true (show (n : Int) < ((kidsOf l id).length : Int) by omega), ct, ix_nat hy, ob, F121_eq hl hv, ob, F122_eq, ob, wrap_succ (n := n) (by omega), take_succ_getG hy, bestK_snoc]
  cases aboveP ⟨onP c l v y, y⟩ (bestK (onP c l v) ((kidsOf l id).take n) ⟨-1, (0, 0)⟩) with
  | true => rw [ct, ct]
  | false => rw [cf, cf]) (by
  unfold F79_s1;simp only
  rw [decide_eq_false (show ¬ ((kidsOf l id).length : Int) < ((kidsOf l id).length : Int) by omega), cf, List.take_length]; rfl) (by omega)
 have e0 : F79_L1.mk ((0 : Nat) : Int) (bestK (onP c l v) ((kidsOf l id).take 0) ⟨-1, (0, 0)⟩) = F79_L1.mk 0 (Rk.mk (-1) (0, 0)) := rfl;rw [e0] at e;rw [e, ob]
theorem bestK_mem {f : ID → Int} (hf : ∀ k, 0 ≤ f k) : ∀ (a : List ID) (b : Rk), (a = [] ∧ bestK f a b = b) ∨ (bestK f a b = b ∧ 0 ≤ b.n) ∨ (∃ k ∈ a, bestK f a b = ⟨f k, k⟩) ∨ (b.n < -1)
 | [], b => .inl ⟨rfl, rfl⟩
 | k :: r, b => by
  by_cases hb : b.n < -1
  ·exact .inr (.inr (.inr hb))
  ·unfold bestK
   cases h : aboveP ⟨f k, k⟩ b with
   | true =>
    rw [ct];rcases bestK_mem hf r ⟨f k, k⟩ with ⟨rfl, e⟩ | ⟨e, -⟩ | ⟨k', hk', e⟩ | h4
    ·exact .inr (.inr (.inl ⟨k, .head _, e⟩))
    ·exact .inr (.inr (.inl ⟨k, .head _, e⟩))
    ·exact .inr (.inr (.inl ⟨k', .tail _ hk', e⟩))
    ·have := hf k; simp only at h4; omega
   | false =>
    rw [cf]
    have hb0 : 0 ≤ b.n := by
     unfold aboveP at h;simp only at h;have := hf k;by_cases e : f k = b.n
     ·omega
     ·rw [if_neg e] at h;have := of_decide_eq_false h;omega
    rcases bestK_mem hf r b with ⟨rfl, e⟩ | h2 | ⟨k', hk', e⟩ | h4
    ·exact .inr (.inl ⟨e, hb0⟩)
    ·exact .inr (.inl h2)
    ·exact .inr (.inr (.inl ⟨k', .tail _ hk', e⟩))
    ·omega
theorem bestP_cases (c : Cf) (l : List Bk) (v : List Vt) (id : ID) : (kidsOf l id = [] ∧ bestP c l v id = ⟨-1, (0, 0)⟩) ∨ ∃ k ∈ kidsOf l id, bestP c l v id = ⟨onP c l v k, k⟩ := by
 unfold bestP;rcases bestK_mem (on_in c l v) (kidsOf l id) ⟨-1, (0, 0)⟩ with h | ⟨e, h2⟩ | h3 | h4
 ·exact .inl h
 ·simp only at h2; omega
 ·exact .inr h3
 ·simp only at h4; omega
def headF (c : Cf) (l : List Bk) (v : List Vt) : Nat → ID → ID
 | 0, id => id
 | n + 1, id => if (bestP c l v id).n ≥ 0 then headF c l v n (bestP c l v id).id else id
def headP (c : Cf) (l : List Bk) (v : List Vt) : ID := headF c l v (l.length + 1) (0, 0)
theorem kid_ix {l : List Bk} {m : List (ID × Int)} (hp : places l = some m) {id k : ID} {i : Int} (hi : findE m id = some i) (hk : k ∈ kidsOf l id) : ∃ j, findE m k = some j ∧ i < j ∧ j < l.length := by
 unfold kidsOf at hk;rw [hp] at hk;obtain ⟨b, hb, rfl⟩ := List.mem_map.1 hk;rw [List.mem_filter] at hb;obtain ⟨n, hn⟩ := List.getElem?_of_mem hb.1;have hI := places_inv hp;have hnl := (List.getElem?_eq_some_iff.1 hn).1;have h1 := hI.names n b hnl hn;refine ⟨n, h1, ?_, by omega⟩;rcases hI.known _ _ h1 with ⟨h2, -⟩ | ⟨b', p, h2, h3, h4, h5, h6, h7, h8, h9⟩
 ·omega
 ·rw [Int.toNat_natCast, hn] at h4;cases h4;have hpar : b.Parent = id := of_decide_eq_true hb.2;rw [hpar, hi] at h6;cases h6;exact h7
theorem head_iter {l : List Bk} (hl : l.length ≤ 1000) {v : List Vt} (hv : v.length ≤ 1000) (c : Cf) {m : List (ID × Int)} (hp : places l = some m) : ∀ (n f : Nat) (id : ID) (i : Int), findE m id = some i → (l.length : Int) - i ≤ n → n < f →
  iter (F81_s1 c l v) f ⟨id⟩ = some ⟨headF c l v n id⟩
 | 0, f, id, i, hi, hn, _ => by
  rcases (places_inv hp).known _ _ hi with ⟨h, -⟩ | ⟨b, p, h0, h1, -⟩ <;> omega
 | n + 1, f, id, i, hi, hn, hf => by
  obtain ⟨f, rfl⟩ : ∃ g, f = g + 1 := ⟨f - 1, by omega⟩
  have hs : F81_s1 c l v ⟨id⟩ = if (bestP c l v id).n ≥ 0 then some (.inl ⟨(bestP c l v id).id⟩) else some (.inr ⟨id⟩) := by
   unfold F81_s1;simp only;rw [F79_eq hl hv, ob];by_cases h : (bestP c l v id).n ≥ 0
   ·rw [decide_eq_true h, Bool.not_true, cf, if_pos h]
   ·rw [decide_eq_false h, Bool.not_false, ct, if_neg h]
  unfold headF;rcases bestP_cases c l v id with ⟨-, e⟩ | ⟨k, hk, e⟩
  ·have : ¬ (bestP c l v id).n ≥ 0 := by rw [e]; simp
   rw [if_neg this] at hs ⊢;exact iter_end hs
  ·have hpos : (bestP c l v id).n ≥ 0 := by rw [e]; exact on_in c l v k
   rw [if_pos hpos] at hs ⊢;rw [iter_go hs, e];obtain ⟨j, hj, h1, h2⟩ := kid_ix hp hi hk;exact head_iter hl hv c hp n f k j hj (by omega) (by omega)
theorem F81_eq {l : List Bk} (hl : l.length ≤ 1000) {v : List Vt} (hv : v.length ≤ 1000) (c : Cf) : F81 c l v = some (headP c l v) := by
 unfold F81 headP
 cases hp : places l with
 | some m =>
  rw [head_iter hl hv c hp (l.length + 1) big (0, 0) (-1) (places_inv hp).zero (by omega) (big_gt (by omega)), ob]
 | none =>
  have hk : kidsOf l (0, 0) = [] := by unfold kidsOf; rw [hp]
  have hb : bestP c l v (0, 0) = ⟨-1, (0, 0)⟩ := by unfold bestP; rw [hk]; rfl
  have hs : F81_s1 c l v ⟨(0, 0)⟩ = some (.inr ⟨(0, 0)⟩) := by
   unfold F81_s1;simp only;rw [F79_eq hl hv, ob, hb];rfl
  rw [big3, iter_end hs, ob];unfold headF;rw [hb, if_neg (by simp)]
def firstF {R : Type} (f : Nat → Option R) : Nat → Nat → Option R
 | _, 0 => none
 | k, d + 1 => match f k with
  | some r => some r
  | none => firstF f (k + 1) d
theorem firstF_none {R : Type} {f : Nat → Option R} : ∀ {d k : Nat}, firstF f k d = none ↔ ∀ j, k ≤ j → j < k + d → f j = none
 | 0, k => ⟨fun _ j h1 h2 => by omega, fun _ => rfl⟩
 | d + 1, k => by
  unfold firstF
  cases h : f k with
  | some r => exact ⟨fun h => (by cases h), fun h2 => (by rw [h2 k (Nat.le_refl _) (by omega)] at h; cases h)⟩
  | none =>
   rw [firstF_none (k := k + 1)];refine ⟨fun h2 j h3 h4 => ?_, fun h2 j h3 h4 => h2 j (by omega) (by omega)⟩;by_cases e : j = k
   ·subst e; exact h
   ·exact h2 j (by omega) (by omega)
theorem firstF_some {R : Type} {f : Nat → Option R} {r : R} : ∀ {d k : Nat}, firstF f k d = some r → ∃ j, k ≤ j ∧ j < k + d ∧ f j = some r ∧ ∀ i, k ≤ i → i < j → f i = none
 | 0, k, h => by cases h
 | d + 1, k, h => by
  unfold firstF at h
  cases hk : f k with
  | some q =>
   rw [hk] at h;cases h;exact ⟨k, Nat.le_refl _, by omega, hk, fun i h1 h2 => by omega⟩
  | none =>
   rw [hk] at h;obtain ⟨j, h1, h2, h3, h4⟩ := firstF_some h;refine ⟨j, by omega, by omega, h3, fun i h5 h6 => ?_⟩;by_cases e : i = k
   ·subst e; exact hk
   ·exact h4 i (by omega) h6
def outF {S R : Type} (s : S) : Option R → S ⊕ R
 | some r => .inr r
 | none => .inl s
theorem search_loop {S R : Type} {step : S → Option (S ⊕ (S ⊕ R))} {n : Nat} (mk : Nat → S) (f : Nat → Option R) (hs : ∀ j, j < n → step (mk j) = match f j with | some r => some (.inr (.inr r)) | none => some (.inl (mk (j + 1))))
  (he : step (mk n) = some (.inr (.inl (mk n)))) (hn : n < 4000000000000000000) : iter step big (mk 0) = some (outF (mk n) (firstF f 0 n)) := by
 have key : ∀ (d k q : Nat), k + d = n → d < q → iter step q (mk k) = some (outF (mk n) (firstF f k d)) := by
  intro d
  induction d with
  | zero =>
   intro k q hk hq;obtain ⟨q, rfl⟩ : ∃ p, q = p + 1 := ⟨q - 1, by omega⟩
   obtain rfl : k = n := by omega
   exact iter_end he
  | succ d ih =>
   intro k q hk hq;obtain ⟨q, rfl⟩ : ∃ p, q = p + 1 := ⟨q - 1, by omega⟩;have h1 := hs k (by omega);unfold firstF
   cases hf : f k with
   | some r =>
    rw [hf] at h1;exact iter_end h1
   | none =>
    rw [hf] at h1;rw [iter_go h1];exact ih (k + 1) q (by omega) (by omega)
 exact key n 0 big (by omega) (big_gt hn)
def hasAt {α : Type} [DecidableEq α] (l : List α) (v : α) (j : Nat) : Option Int := if l[j]? = some v then some (j : Int) else none
theorem hasAt_first {α : Type} [DecidableEq α] {l : List α} {v : α} : (firstF (hasAt l v) 0 l.length).isSome = decide (v ∈ l) := by
 cases h : firstF (hasAt l v) 0 l.length with
 | none =>
  rw [firstF_none] at h;refine (decide_eq_false fun hm => ?_).symm;obtain ⟨j, hj⟩ := List.getElem?_of_mem hm;have := h j (Nat.zero_le _) (by have := (List.getElem?_eq_some_iff.1 hj).1; omega);unfold hasAt at this;rw [if_pos hj] at this;cases this
 | some r =>
  obtain ⟨j, -, -, h3, -⟩ := firstF_some h;refine (decide_eq_true ?_).symm;unfold hasAt at h3;split at h3
  ·rename_i e; exact List.mem_of_getElem? e
  ·cases h3
theorem hasAt_nn {α : Type} [DecidableEq α] {l : List α} {v : α} {n : Nat} {r : Int} (h : firstF (hasAt l v) 0 n = some r) : 0 ≤ r := by
 obtain ⟨j, -, -, h3, -⟩ := firstF_some h;unfold hasAt at h3;split at h3
 ·cases h3; omega
 ·cases h3
theorem F161_eq {l : List Bk} (hl : l.length ≤ 100000) (v : Bk) : F161 l v = some (decide (v ∈ l)) := by
 have e := search_loop (step := F170_s1 l v) (n := l.length) (fun k => F170_L1.mk (k : Int)) (hasAt l v) (fun j hj => by
  obtain ⟨y, hy, -⟩ := get_of hj;unfold F170_s1 hasAt;simp only;rw [decide_eq_true (show (j : Int) < (l.length : Int) by omega), ct, ix_nat hy, ob, eqBk, wrap_succ (n := j) (by omega), hy];by_cases h : v = y
  ·rw [decide_eq_true h, ct, if_pos (by rw [h])]
  ·rw [decide_eq_false h, cf, if_neg (fun e => h (Option.some.inj e).symm)]) (by
  unfold F170_s1;simp only
  rw [decide_eq_false (show ¬ (l.length : Int) < (l.length : Int) by omega), cf]) (by omega)
 unfold F161 F170;rw [← hasAt_first];have e' : iter (F170_s1 l v) big (F170_L1.mk 0) = some (outF (F170_L1.mk (l.length : Int)) (firstF (hasAt l v) 0 l.length)) := e;rw [e', ob]
 cases h : firstF (hasAt l v) 0 l.length with
 | none => rw [outF, sl, ob]; rfl
 | some r => rw [outF, sr, ob, decide_eq_true (hasAt_nn h)]; rfl
theorem F162_eq {l : List Vt} (hl : l.length ≤ 100000) (v : Vt) : F162 l v = some (decide (v ∈ l)) := by
 have e := search_loop (step := F171_s1 l v) (n := l.length) (fun k => F171_L1.mk (k : Int)) (hasAt l v) (fun j hj => by
  obtain ⟨y, hy, -⟩ := get_of hj;unfold F171_s1 hasAt;simp only;rw [decide_eq_true (show (j : Int) < (l.length : Int) by omega), ct, ix_nat hy, ob, eqVt, wrap_succ (n := j) (by omega), hy];by_cases h : v = y
  ·rw [decide_eq_true h, ct, if_pos (by rw [h])]
  ·rw [decide_eq_false h, cf, if_neg (fun e => h (Option.some.inj e).symm)]) (by
  unfold F171_s1;simp only
  rw [decide_eq_false (show ¬ (l.length : Int) < (l.length : Int) by omega), cf]) (by omega)
 unfold F162 F171;rw [← hasAt_first];have e' : iter (F171_s1 l v) big (F171_L1.mk 0) = some (outF (F171_L1.mk (l.length : Int)) (firstF (hasAt l v) 0 l.length)) := e;rw [e', ob]
 cases h : firstF (hasAt l v) 0 l.length with
 | none => rw [outF, sl, ob]; rfl
 | some r => rw [outF, sr, ob, decide_eq_true (hasAt_nn h)]; rfl
section
variable {α : Type} [DecidableEq α]
def withP (a : List α) : List α → List α
 | [] => a
 | x :: r => withP (if x ∈ a then a else a ++ [x]) r
theorem withP_snoc (x : α) : ∀ (b a : List α), withP a (b ++ [x]) = if x ∈ withP a b then withP a b else withP a b ++ [x]
 | [], _ => rfl
 | _ :: r, _ => withP_snoc x r _
theorem withP_mem (x : α) : ∀ (b a : List α), x ∈ withP a b ↔ x ∈ a ∨ x ∈ b
 | [], a => by simp [withP]
 | y :: r, a => by
  unfold withP;rw [withP_mem x r];by_cases h : y ∈ a
  ·rw [if_pos h, List.mem_cons];exact ⟨fun h2 => h2.elim .inl (fun h3 => .inr (.inr h3)), fun h2 => h2.elim .inl fun h3 => h3.elim (fun e => .inl (e ▸ h)) .inr⟩
  ·rw [if_neg h, List.mem_append, List.mem_singleton, List.mem_cons, or_assoc]
theorem withP_len : ∀ (b a : List α), (withP a b).length ≤ a.length + b.length
 | [], a => by simp [withP]
 | y :: r, a => by
  unfold withP;have := withP_len r (if y ∈ a then a else a ++ [y])
  have h2 : (if y ∈ a then a else a ++ [y]).length ≤ a.length + 1 := by split <;> simp
  simp only [List.length_cons]; omega
theorem withP_sub : ∀ {b a : List α}, (∀ x ∈ b, x ∈ a) → withP a b = a
 | [], _, _ => rfl
 | y :: r, a, h => by
  unfold withP;rw [if_pos (h y (.head _))];exact withP_sub fun x hx => h x (.tail _ hx)
theorem withP_nodup : ∀ {b a : List α}, a.Nodup → (withP a b).Nodup
 | [], _, h => h
 | y :: r, a, h => by
  unfold withP;refine withP_nodup ?_;split
  ·exact h
  ·rename_i hn;rw [List.nodup_append];exact ⟨h, by simp, fun x hx z hz => by rw [List.mem_singleton] at hz; subst hz; exact fun e => hn (e ▸ hx)⟩
end
theorem F139_eq {a b : List Bk} (h : a.length + b.length ≤ 90000) : F139 a b = some (withP a b) := by
 unfold F139;rw [room_ok (by omega) (by omega), ct]
 have e := count_loop (step := F139_s1 b) (n := b.length) (fun k => F139_L1.mk (k : Int) (withP a (b.take k))) (F139_L1.mk (b.length : Int) (withP a b)) (fun k hk => by
  obtain ⟨y, hy, -⟩ := get_of hk;have hlen := withP_len (b.take k) a;rw [List.length_take] at hlen;unfold F139_s1;simp only;rw [decide_eq_true (show (k : Int) < (b.length : Int) by omega), ct, ix_nat hy, ob, F161_eq (by omega), ob, take_succ_getG hy, withP_snoc, wrap_succ (n := k) (by omega)];by_cases hm : y ∈ withP a (b.take k)
  ·rw [decide_eq_true hm, Bool.not_true, cf, if_pos hm]
  ·rw [decide_eq_false hm, Bool.not_false, ct, room_ok (by simp only [List.length_singleton]; omega) (by omega), ct, if_neg hm]) (by
  unfold F139_s1;simp only
  rw [decide_eq_false (show ¬ (b.length : Int) < (b.length : Int) by omega), cf, List.take_length]) (by omega)
 have e' : iter (F139_s1 b) big (F139_L1.mk 0 a) = some (F139_L1.mk (b.length : Int) (withP a b)) := e;rw [e', ob]
theorem F140_eq {a b : List Vt} (h : a.length + b.length ≤ 90000) : F140 a b = some (withP a b) := by
 unfold F140;rw [room_ok (by omega) (by omega), ct]
 have e := count_loop (step := F140_s1 b) (n := b.length) (fun k => F140_L1.mk (k : Int) (withP a (b.take k))) (F140_L1.mk (b.length : Int) (withP a b)) (fun k hk => by
  obtain ⟨y, hy, -⟩ := get_of hk;have hlen := withP_len (b.take k) a;rw [List.length_take] at hlen;unfold F140_s1;simp only;rw [decide_eq_true (show (k : Int) < (b.length : Int) by omega), ct, ix_nat hy, ob, F162_eq (by omega), ob, take_succ_getG hy, withP_snoc, wrap_succ (n := k) (by omega)];by_cases hm : y ∈ withP a (b.take k)
  ·rw [decide_eq_true hm, Bool.not_true, cf, if_pos hm]
  ·rw [decide_eq_false hm, Bool.not_false, ct, room_ok (by simp only [List.length_singleton]; omega) (by omega), ct, if_neg hm]) (by
  unfold F140_s1;simp only
  rw [decide_eq_false (show ¬ (b.length : Int) < (b.length : Int) by omega), cf, List.take_length]) (by omega)
 have e' : iter (F140_s1 b) big (F140_L1.mk 0 a) = some (F140_L1.mk (b.length : Int) (withP a b)) := e;rw [e', ob]
def joinP (a b : Vw) : Vw := ⟨withP a.B b.B, withP a.V b.V⟩
theorem F91_eq {a b : Vw} (h1 : a.B.length + b.B.length ≤ 90000) (h2 : a.V.length + b.V.length ≤ 90000) : F91 a b = some (joinP a b) := by
 unfold F91;rw [F139_eq h1, ob, F140_eq h2, ob]; rfl
section
variable {α : Type} [DecidableEq α]
def diffAt (a b : List α) (j : Nat) : Option Bool := if a[j]? = b[j]? then none else some false
theorem diffAt_first {a b : List α} (hl : a.length = b.length) : (match firstF (diffAt a b) 0 a.length with | some r => r | none => true) = decide (a = b) := by
 cases h : firstF (diffAt a b) 0 a.length with
 | none =>
  rw [firstF_none] at h;refine (decide_eq_true ?_).symm;apply List.ext_getElem?;intro j;by_cases hj : j < a.length
  ·have := h j (Nat.zero_le _) (by omega);unfold diffAt at this;split at this
   ·assumption
   ·cases this
  ·rw [List.getElem?_eq_none (by omega), List.getElem?_eq_none (by omega)]
 | some r =>
  obtain ⟨j, -, -, h3, -⟩ := firstF_some h;unfold diffAt at h3;split at h3
  ·cases h3
  ·rename_i hne;cases h3;exact (decide_eq_false fun e => hne (by rw [e])).symm
end
theorem F128_eq {a b : List Bk} (h : a.length ≤ 100000) : F128 a b = some (decide (a = b)) := by
 unfold F128;by_cases hl : a.length = b.length
 ·rw [show ((a.length : Int) != (b.length : Int)) = false by simp [hl], cf]
  have e := search_loop (step := F128_s1 a b) (n := a.length) (fun k => F128_L1.mk (k : Int)) (diffAt a b) (fun j hj => by
   obtain ⟨y, hy, -⟩ := get_of hj;obtain ⟨z, hz, -⟩ := get_of (l := b) (n := j) (by omega);unfold F128_s1 diffAt;simp only;rw [decide_eq_true (show (j : Int) < (a.length : Int) by omega), ct, ix_nat hy, ob, ix_nat hz, ob, eqBk, wrap_succ (n := j) (by omega), hy, hz];by_cases e : y = z
   ·rw [decide_eq_true e, Bool.not_true, cf, if_pos (by rw [e])]
   ·rw [decide_eq_false e, Bool.not_false, ct, if_neg (fun q => e (Option.some.inj q))]) (by
   unfold F128_s1;simp only
   rw [decide_eq_false (show ¬ (a.length : Int) < (a.length : Int) by omega), cf]) (by omega)
  have e' : iter (F128_s1 a b) big (F128_L1.mk 0) = some (outF (F128_L1.mk (a.length : Int)) (firstF (diffAt a b) 0 a.length)) := e;rw [e', ob, ← diffAt_first hl]
  cases firstF (diffAt a b) 0 a.length with
  | none => rw [outF, sl]
  | some r => rw [outF, sr]
 ·rw [show ((a.length : Int) != (b.length : Int)) = true by rw [bne_iff_ne]; omega, ct, decide_eq_false fun e => hl (by rw [e])]
theorem F129_eq {a b : List Vt} (h : a.length ≤ 100000) : F129 a b = some (decide (a = b)) := by
 unfold F129;by_cases hl : a.length = b.length
 ·rw [show ((a.length : Int) != (b.length : Int)) = false by simp [hl], cf]
  have e := search_loop (step := F129_s1 a b) (n := a.length) (fun k => F129_L1.mk (k : Int)) (diffAt a b) (fun j hj => by
   obtain ⟨y, hy, -⟩ := get_of hj;obtain ⟨z, hz, -⟩ := get_of (l := b) (n := j) (by omega);unfold F129_s1 diffAt;simp only;rw [decide_eq_true (show (j : Int) < (a.length : Int) by omega), ct, ix_nat hy, ob, ix_nat hz, ob, eqVt, wrap_succ (n := j) (by omega), hy, hz];by_cases e : y = z
   ·rw [decide_eq_true e, Bool.not_true, cf, if_pos (by rw [e])]
   ·rw [decide_eq_false e, Bool.not_false, ct, if_neg (fun q => e (Option.some.inj q))]) (by
   unfold F129_s1;simp only
   rw [decide_eq_false (show ¬ (a.length : Int) < (a.length : Int) by omega), cf]) (by omega)
  have e' : iter (F129_s1 a b) big (F129_L1.mk 0) = some (outF (F129_L1.mk (a.length : Int)) (firstF (diffAt a b) 0 a.length)) := e;rw [e', ob, ← diffAt_first hl]
  cases firstF (diffAt a b) 0 a.length with
  | none => rw [outF, sl]
  | some r => rw [outF, sr]
 ·rw [show ((a.length : Int) != (b.length : Int)) = true by rw [bne_iff_ne]; omega, ct, decide_eq_false fun e => hl (by rw [e])]
theorem F86_eq {a b : Vw} (h1 : a.B.length ≤ 100000) (h2 : a.V.length ≤ 100000) : F86 a b = some (decide (a.B = b.B ∧ a.V = b.V)) := by
 unfold F86;rw [F128_eq h1, ob, F129_eq h2, ob];by_cases h : a.B = b.B
 ·rw [decide_eq_true h, ct]; congr 1; exact decide_eq_decide.2 ⟨fun h3 => ⟨h, h3⟩, fun h3 => h3.2⟩
 ·rw [decide_eq_false h, cf, decide_eq_false fun h3 => h h3.1]
def mayB (c : Cf) (b : Bk) : Bool := decide (0 ≤ prP c b.Slot ∧ prP c b.Slot = b.From ∧ nm b ≠ (0, 0))
def mayV (c : Cf) (v : Vt) : Bool := decide (v.From ∈ cmP c v.Slot)
theorem F87_eq (c : Cf) (b : Bk) : F87 c b = some (mayB c b) := by
 unfold F87 mayB;rw [F63_eq, ob];by_cases h1 : prP c b.Slot ≥ 0
 ·rw [decide_eq_true h1, ct];by_cases h2 : prP c b.Slot = b.From
  ·rw [show (prP c b.Slot == b.From) = true by simp [h2], ct, eqID0];by_cases h3 : nm b = (0, 0)
   ·rw [decide_eq_true h3, Bool.not_true, decide_eq_false fun h => h.2.2 h3]
   ·rw [decide_eq_false h3, Bool.not_false, decide_eq_true ⟨h1, h2, h3⟩]
  ·rw [show (prP c b.Slot == b.From) = false by simp [h2], cf, decide_eq_false fun h => h2 h.2.1]
 ·rw [decide_eq_false h1, cf, decide_eq_false fun h => h1 h.1]
theorem F88_eq (c : Cf) (v : Vt) : F88 c v = some (mayV c v) := by
 unfold F88 mayV;rw [F74_eq, ob]
theorem filter_take_snoc {α : Type} {p : α → Bool} {l : List α} {n : Nat} {y : α} (hy : l[n]? = some y) : (l.take (n + 1)).filter p = (l.take n).filter p ++ bif p y then [y] else [] := by
 rw [take_succ_getG hy, List.filter_append];cases h : p y <;> simp [h]
theorem filter_take_len {α : Type} {p : α → Bool} {l : List α} (n : Nat) : ((l.take n).filter p).length ≤ n :=
 Nat.le_trans (List.length_filter_le _ _) (by rw [List.length_take]; omega)
theorem F126_eq {c : Cf} {l : List Bk} (hl : l.length ≤ 100000) : F126 c l = some (l.filter (mayB c)) := by
 unfold F126
 have e := count_loop (step := F126_s1 c l) (n := l.length) (fun k => F126_L1.mk (k : Int) ((l.take k).filter (mayB c))) (F126_L1.mk (l.length : Int) (l.filter (mayB c))) (fun k hk => by
  obtain ⟨y, hy, -⟩ := get_of hk;have hlen := filter_take_len (p := mayB c) (l := l) k;unfold F126_s1;simp only;rw [decide_eq_true (show (k : Int) < (l.length : Int) by omega), ct, ix_nat hy, ob, F87_eq, ob, filter_take_snoc hy, wrap_succ (n := k) (by omega)]
  cases mayB c y with
  | true => rw [ct, room_ok (by simp only [List.length_singleton]; omega) (by omega), ct, ct]
  | false => rw [cf, cf, List.append_nil]) (by
  unfold F126_s1;simp only
  rw [decide_eq_false (show ¬ (l.length : Int) < (l.length : Int) by omega), cf, List.take_length]) (by omega)
 have e' : iter (F126_s1 c l) big (F126_L1.mk 0 []) = some (F126_L1.mk (l.length : Int) (l.filter (mayB c))) := e;rw [e', ob]
theorem F127_eq {c : Cf} {l : List Vt} (hl : l.length ≤ 100000) : F127 c l = some (l.filter (mayV c)) := by
 unfold F127
 have e := count_loop (step := F127_s1 c l) (n := l.length) (fun k => F127_L1.mk (k : Int) ((l.take k).filter (mayV c))) (F127_L1.mk (l.length : Int) (l.filter (mayV c))) (fun k hk => by
  obtain ⟨y, hy, -⟩ := get_of hk;have hlen := filter_take_len (p := mayV c) (l := l) k;unfold F127_s1;simp only;rw [decide_eq_true (show (k : Int) < (l.length : Int) by omega), ct, ix_nat hy, ob, F88_eq, ob, filter_take_snoc hy, wrap_succ (n := k) (by omega)]
  cases mayV c y with
  | true => rw [ct, room_ok (by simp only [List.length_singleton]; omega) (by omega), ct, ct]
  | false => rw [cf, cf, List.append_nil]) (by
  unfold F127_s1;simp only
  rw [decide_eq_false (show ¬ (l.length : Int) < (l.length : Int) by omega), cf, List.take_length]) (by omega)
 have e' : iter (F127_s1 c l) big (F127_L1.mk 0 []) = some (F127_L1.mk (l.length : Int) (l.filter (mayV c))) := e;rw [e', ob]
def onlyP (c : Cf) (w : Vw) : Vw := ⟨w.B.filter (mayB c), w.V.filter (mayV c)⟩
theorem F85_eq {c : Cf} {w : Vw} (h1 : w.B.length ≤ 100000) (h2 : w.V.length ≤ 100000) : F85 c w = some (onlyP c w) := by
 unfold F85;rw [F126_eq h1, ob, F127_eq h2, ob]; rfl
theorem F85V_eq {c : Cf} {w : Vw} (h1 : w.B.length ≤ 100000) (h2 : w.V.length ≤ 100000) : F85V c w = some ((onlyP c w).B, (onlyP c w).V) := by
 unfold F85V;rw [F126_eq h1, ob, F127_eq h2, ob]; rfl
open Go.Proofs
def okAt (l : List Bk) (n : Nat) : Prop := ∃ y p, l[n]? = some y ∧ findE (mAt l n) y.Parent = some p ∧ ¬ y.Slot ≤ slotIx l p ∧ findE (mAt l n) (nm y) = none
theorem go_iff {l : List Bk} : ∀ (r n : Nat), l.length - n = r → n ≤ l.length → ((placesGo l (l.drop n) n (mAt l n)).isSome = true ↔ ∀ i, n ≤ i → i < l.length → okAt l i)
 | 0, n, hr, hn => by
  have : n = l.length := by omega
  subst this;rw [List.drop_length];exact ⟨fun _ i h1 h2 => by omega, fun _ => rfl⟩
 | r + 1, n, hr, hn => by
  obtain ⟨y, hy, -⟩ := get_of (l := l) (n := n) (by omega);have ih := go_iff (l := l) r (n + 1) (by omega) (by omega)
  have e : mAt l (n + 1) = mAt l n ++ [(nm y, (n : Int))] := by simp only [mAt, hy]
  rw [e] at ih;rw [placesGo_at hy];constructor
  ·intro h i h1 h2
   cases hp : findE (mAt l n) y.Parent with
   | none => rw [hp] at h; cases h
   | some p =>
    rw [hp] at h;simp only at h;by_cases hs : y.Slot ≤ slotIx l p
    ·rw [if_pos hs] at h; cases h
    ·rw [if_neg hs] at h
     cases hq : findE (mAt l n) (nm y) with
     | some q => rw [hq] at h; cases h
     | none =>
      rw [hq] at h;by_cases hin : i = n
      ·subst hin; exact ⟨y, p, hy, hp, hs, hq⟩
      ·exact ih.1 h i (by omega) h2
  ·intro h;obtain ⟨y', p, hy', hp, hs, hq⟩ := h n (Nat.le_refl _) (by omega);rw [hy] at hy'; cases hy';rw [hp]; simp only;rw [if_neg hs, hq];exact ih.2 fun i h1 h2 => h i (by omega) h2
theorem may_iff {l : List Bk} : (places l).isSome = true ↔ ∀ i, i < l.length → okAt l i := by
 have := go_iff (l := l) l.length 0 (by omega) (Nat.zero_le _);rw [show (places l) = placesGo l (l.drop 0) 0 (mAt l 0) from rfl, this];exact ⟨fun h i hi => h i (Nat.zero_le _) hi, fun h i _ hi => h i hi⟩
theorem mAt_prefix {l m : List Bk} : ∀ n, (∀ i, i < n → l[i]? = m[i]?) → mAt l n = mAt m n
 | 0, _ => rfl
 | n + 1, h => by
  simp only [mAt, h n (by omega), mAt_prefix n fun i hi => h i (by omega)]
theorem okAt_prefix {l m : List Bk} {n : Nat} (h : ∀ i, i ≤ n → l[i]? = m[i]?) (ho : okAt l n) (hn : n < l.length) : okAt m n := by
 obtain ⟨y, p, h1, h2, h3, h4⟩ := ho;have e := mAt_prefix n fun i hi => h i (by omega);refine ⟨y, p, by rw [← h n (Nat.le_refl _)]; exact h1, by rw [← e]; exact h2, ?_, by rw [← e]; exact h4⟩
 have hp : p = -1 ∨ 0 ≤ p ∧ p < n := by
  rw [mAt_find _ n (by omega)] at h2;split at h2
  ·cases h2; exact .inl rfl
  ·split at h2
   ·rename_i hi;obtain ⟨j, b, g1, g2, -⟩ := mAt_slot hi;cases h2;exact .inr ⟨by omega, by omega⟩
   ·cases h2
 rcases hp with rfl | ⟨h5, h6⟩
 ·simpa [slotIx] using h3
 ·have : slotIx m p = slotIx l p := by
   simp only [slotIx, h p.toNat (by omega)]
  rw [this]; exact h3
theorem may_take {l : List Bk} {k : Nat} (h : (places l).isSome = true) (hk : k ≤ l.length) : (places (l.take k)).isSome = true := by
 rw [may_iff] at h ⊢;intro i hi;simp only [List.length_take] at hi;refine okAt_prefix (fun j hj => ?_) (h i (by omega)) (by omega);rw [List.getElem?_take_of_lt (by omega)]
def fineB (l : List Bk) (b : Bk) : Bool := (slotOfB l b.Parent).2 && decide (b.Slot > (slotOfB l b.Parent).1) && !decide (nm b = (0, 0)) && decide (findOf l (nm b) < 0)
theorem may_more {l : List Bk} {m : List (ID × Int)} {b : Bk} (h : places l = some m) : (places (l ++ [b])).isSome = fineB l b := by
 have hl : ∀ i, i < l.length → okAt l i := may_iff.1 (by rw [h]; rfl)
 have hpre : ∀ i, i < l.length → l[i]? = (l ++ [b])[i]? := fun i hi => by rw [List.getElem?_append_left hi]
 have hm : mAt (l ++ [b]) l.length = m := by rw [← mAt_prefix l.length hpre, ← places_is h]
 have hb : (l ++ [b])[l.length]? = some b := by simp
 have hslot : ∀ p i, findE m p = some i → slotIx (l ++ [b]) i = slotIx l i := by
  intro p i hf;rcases known_ix h hf with ⟨rfl, -⟩ | ⟨c, h0, h1, h2, -⟩
  ·rfl
  ·have : ¬ i = -1 := by omega
   simp only [slotIx, if_neg this, ← hpre i.toNat (by omega)]
 have key : (places (l ++ [b])).isSome = true ↔ okAt (l ++ [b]) l.length := by
  rw [may_iff];constructor
  ·intro h1; exact h1 l.length (by simp)
  ·intro h1 i hi;simp only [List.length_append, List.length_singleton] at hi;by_cases e : i = l.length
   ·subst e; exact h1
   ·exact okAt_prefix (fun j hj => hpre j (by omega)) (hl i (by omega)) (by omega)
 rw [Bool.eq_iff_iff, key];constructor
 ·rintro ⟨y, p, h1, h2, h3, h4⟩;rw [hb] at h1; cases h1;rw [hm] at h2 h4;rw [hslot _ _ h2] at h3
  have hz : ¬ nm b = (0, 0) := fun e => by rw [e, (places_inv h).zero] at h4; cases h4
  have g1 : slotOfB l b.Parent = (slotIx l p, true) := by simp only [slotOfB, h, h2]
  have g2 : findOf l (nm b) = -1 := by simp only [findOf, h, h4]; rfl
  unfold fineB;rw [g1, g2, decide_eq_true (show b.Slot > slotIx l p by omega), decide_eq_false hz]; rfl
 ·intro hf;unfold fineB at hf;simp only [Bool.and_eq_true, Bool.not_eq_true', decide_eq_true_eq, decide_eq_false_iff_not] at hf;obtain ⟨⟨⟨h1, h2⟩, h3⟩, h4⟩ := hf
  cases hp : findE m b.Parent with
  | none => simp only [slotOfB, h, hp] at h1; cases h1
  | some p =>
   simp only [slotOfB, h, hp] at h2;refine ⟨b, p, hb, by rw [hm]; exact hp, by rw [hslot _ _ hp]; omega, ?_⟩;rw [hm];rcases Option.eq_none_or_eq_some (findE m (nm b)) with h5 | ⟨i, h5⟩
   ·exact h5
   ·exfalso;simp only [findOf, h, h5, Option.getD_some] at h4;rcases known_ix h h5 with ⟨-, e⟩ | ⟨c, h0, -⟩
    ·exact h3 e
    ·omega
def slotQ (B : List Bk) (id : ID) : Option Int := if id = (0, 0) then some 0 else (B.find? fun b => decide (nm b = id)).map Bk.Slot
theorem slotQ_snoc (B : List Bk) (b : Bk) (id : ID) : slotQ (B ++ [b]) id = (slotQ B id).or (if nm b = id then some b.Slot else none) := by
 unfold slotQ;by_cases h : id = (0, 0)
 ·rw [if_pos h, if_pos h]; rfl
 ·rw [if_neg h, if_neg h, List.find?_append]
  cases B.find? fun b => decide (nm b = id) with
  | some x => rfl
  | none =>
   by_cases h2 : nm b = id
   ·simp [h2]
   ·simp [h2]
theorem slotQ_mono {B : List Bk} {id : ID} {s : Int} (h : slotQ B id = some s) (t : List Bk) : slotQ (B ++ t) id = some s := by
 unfold slotQ at h ⊢;by_cases h0 : id = (0, 0)
 ·rw [if_pos h0] at h ⊢; exact h
 ·rw [if_neg h0] at h ⊢;rw [List.find?_append]
  cases hf : B.find? fun b => decide (nm b = id) with
  | some x => rw [hf] at h; exact h
  | none => rw [hf] at h; cases h
theorem slotQ_some {B : List Bk} {b : Bk} (h : b ∈ B) : ∃ s, slotQ B (nm b) = some s := by
 unfold slotQ;by_cases h0 : nm b = (0, 0)
 ·rw [if_pos h0]; exact ⟨_, rfl⟩
 ·rw [if_neg h0]
  cases hf : B.find? fun q => decide (nm q = nm b) with
  | some x => exact ⟨_, rfl⟩
  | none =>
   rw [List.find?_eq_none] at hf;have := hf b h;simp at this
def ValidB (B : List Bk) : Prop := (places B).isSome = true
theorem valid_nil : ValidB [] := rfl
theorem slotQ_places {l : List Bk} {m : List (ID × Int)} (h : places l = some m) (id : ID) : slotQ l id = (findE m id).map (slotIx l) := by
 have hI := places_inv h;unfold slotQ;by_cases h0 : id = (0, 0)
 ·rw [if_pos h0, h0, hI.zero]; simp [slotIx]
 ·rw [if_neg h0]
  cases hf : findE m id with
  | none =>
   cases hq : l.find? fun b => decide (nm b = id) with
   | none => rfl
   | some b =>
    exfalso;have hb := List.mem_of_find?_eq_some hq
    have hn : nm b = id := by simpa using List.find?_some hq
    obtain ⟨i, hi⟩ := List.getElem?_of_mem hb;have := hI.names i b (List.getElem?_eq_some_iff.1 hi).1 hi;rw [hn, hf] at this; cases this
  | some i =>
   rcases hI.known _ _ hf with ⟨-, h1⟩ | ⟨b, p, h1, h2, h3, h4, -⟩
   ·exact absurd h1 h0
   ·cases hq : l.find? fun b => decide (nm b = id) with
    | none =>
     rw [List.find?_eq_none] at hq;have := hq b (List.mem_of_getElem? h3);simp [h4] at this
    | some b' =>
     have hb := List.mem_of_find?_eq_some hq
     have hn : nm b' = id := by simpa using List.find?_some hq
     obtain ⟨j, hj⟩ := List.getElem?_of_mem hb;have := hI.names j b' (List.getElem?_eq_some_iff.1 hj).1 hj;rw [hn, hf] at this;cases this;simp [slotIx, hj, show ¬ (j : Int) = -1 by omega]
theorem slotOfB_q {l : List Bk} {m : List (ID × Int)} (h : places l = some m) (id : ID) : slotOfB l id = match slotQ l id with | some s => (s, true) | none => (0, false) := by
 rw [slotQ_places h];unfold slotOfB;rw [h];simp only;cases findE m id <;> rfl
theorem findOf_q {l : List Bk} {m : List (ID × Int)} (h : places l = some m) (id : ID) : (¬ id = (0, 0) ∧ findOf l id < 0) ↔ slotQ l id = none := by
 rw [slotQ_places h];unfold findOf;rw [h];simp only
 cases hf : findE m id with
 | none =>
  refine ⟨fun _ => rfl, fun _ => ⟨fun e => ?_, by simp⟩⟩;rw [e, (places_inv h).zero] at hf; cases hf
 | some i =>
  refine ⟨fun h1 => ?_, fun h1 => by cases h1⟩;rcases (places_inv h).known _ _ hf with ⟨-, h2⟩ | ⟨_, _, h2, -⟩
  ·exact absurd h2 h1.1
  ·have := h1.2; simp at this; omega
theorem valid_snoc {B : List Bk} {b : Bk} : ValidB (B ++ [b]) ↔ ValidB B ∧ (∃ s, slotQ B b.Parent = some s ∧ s < b.Slot) ∧ slotQ B (nm b) = none := by
 have key : ∀ {m}, places B = some m → (ValidB (B ++ [b]) ↔ (∃ s, slotQ B b.Parent = some s ∧ s < b.Slot) ∧ slotQ B (nm b) = none) := by
  intro m hm;unfold ValidB;rw [may_more hm, ← findOf_q hm];unfold fineB;rw [slotOfB_q hm]
  cases slotQ B b.Parent with
  | none => simp
  | some s => simp [and_assoc]
 cases hm : places B with
 | some m =>
  rw [key hm];exact ⟨fun h => ⟨by unfold ValidB; rw [hm]; rfl, h⟩, fun h => h.2⟩
 | none =>
  have hno : ¬ ValidB B := by unfold ValidB; rw [hm]; simp
  refine ⟨fun h => absurd ?_ hno, fun h => absurd h.1 hno⟩;have := may_take (k := B.length) h (by simp)
  rwa [List.take_left' rfl] at this
theorem valid_take {B : List Bk} (h : ValidB B) (k : Nat) : ValidB (B.take k) := by
 by_cases hk : k ≤ B.length
 ·exact may_take h hk
 ·rw [List.take_of_length_le (by omega)]; exact h
def smGo : List Bk → List (ID × Int) → List (ID × Int)
 | [], m => m
 | b :: r, m => smGo r (setE m (nm b) b.Slot)
def smOf (B : List Bk) : List (ID × Int) := smGo B [((0, 0), 0)]
def hmGo : List Vt → List (Vt × Bool) → List (Vt × Bool)
 | [], m => m
 | v :: r, m => hmGo r (setE m v true)
def hmOf (V : List Vt) : List (Vt × Bool) := hmGo V []
theorem smGo_snoc (b : Bk) : ∀ (B : List Bk) (m), smGo (B ++ [b]) m = setE (smGo B m) (nm b) b.Slot
 | [], _ => rfl
 | _ :: r, _ => smGo_snoc b r _
theorem hmGo_snoc (v : Vt) : ∀ (V : List Vt) (m), hmGo (V ++ [v]) m = setE (hmGo V m) v true
 | [], _ => rfl
 | _ :: r, _ => hmGo_snoc v r _
theorem smOf_snoc (B : List Bk) (b : Bk) : smOf (B ++ [b]) = setE (smOf B) (nm b) b.Slot := smGo_snoc b B _
theorem hmOf_snoc (V : List Vt) (v : Vt) : hmOf (V ++ [v]) = setE (hmOf V) v true := hmGo_snoc v V _
theorem setE_len {α β : Type} [DecidableEq α] (m : List (α × β)) (k : α) (v : β) : (setE m k v).length = if (findE m k).isSome then m.length else m.length + 1 := by
 induction m with
 | nil => simp [setE, findE]
 | cons p r ih =>
  obtain ⟨a, b⟩ := p;by_cases h : a = k
  ·simp [setE, findE, h]
  ·cases hf : findE r k <;> simp [setE, findE, h, hf] at ih ⊢ <;> exact ih
theorem smOf_len (B : List Bk) : (smOf B).length ≤ B.length + 1 := by
 unfold smOf
 have : ∀ (B : List Bk) (m : List (ID × Int)), (smGo B m).length ≤ B.length + m.length := by
  intro B
  induction B with
  | nil => intro m; simp [smGo]
  | cons b r ih =>
   intro m;have h1 := ih (setE m (nm b) b.Slot);have h2 := setE_len m (nm b) b.Slot;unfold smGo;simp only [List.length_cons];split at h2 <;> omega
 have := this B [((0, 0), 0)];simpa using this
theorem smOf_find {B : List Bk} (h : ValidB B) : ∀ id, findE (smOf B) id = slotQ B id := by
 have key : ∀ k, k ≤ B.length → ∀ id, findE (smOf (B.take k)) id = slotQ (B.take k) id := by
  intro k
  induction k with
  | zero =>
   intro _ id;simp only [List.take_zero];unfold smOf smGo slotQ findE findE;by_cases e : id = (0, 0)
   ·simp [e]
   ·simp [e, Ne.symm e]
  | succ k ih =>
   intro hk id;obtain ⟨b, hb, -⟩ := get_of (l := B) (n := k) (by omega);have hv := valid_take h (k + 1);rw [take_succ_getG hb] at hv ⊢;rw [valid_snoc] at hv;rw [smOf_snoc, findE_setEg, slotQ_snoc, ih (by omega)];by_cases e : nm b = id
   ·rw [if_pos e, if_pos e, ← e, hv.2.2]; rfl
   ·rw [if_neg e, if_neg e]; cases slotQ (B.take k) id <;> rfl
 have := key B.length (Nat.le_refl _)
 rwa [List.take_length] at this
theorem hmOf_find (V : List Vt) (v : Vt) : findE (hmOf V) v = if v ∈ V then some true else none := by
 have : ∀ (V : List Vt) (m : List (Vt × Bool)), findE (hmGo V m) v = if v ∈ V then some true else findE m v := by
  intro V
  induction V with
  | nil => intro m; simp [hmGo]
  | cons x r ih =>
   intro m;unfold hmGo;rw [ih, findE_setEg];by_cases h : v ∈ r
   ·simp [h]
   ·by_cases h2 : x = v
    ·simp [h2]
    ·simp [h, h2, Ne.symm h2]
 rw [hmOf, this]; rfl
theorem hmOf_len (V : List Vt) : (hmOf V).length ≤ V.length ∧ ((hmOf V).length = V.length ↔ V.Nodup) := by
 have key : ∀ k, k ≤ V.length → (hmOf (V.take k)).length ≤ k ∧ ((hmOf (V.take k)).length = k ↔ (V.take k).Nodup) := by
  intro k
  induction k with
  | zero => intro _; simp [hmOf, hmGo]
  | succ k ih =>
   intro hk;obtain ⟨v, hv, -⟩ := get_of (l := V) (n := k) (by omega);obtain ⟨h1, h2⟩ := ih (by omega);rw [take_succ_getG hv, hmOf_snoc, setE_len, hmOf_find, List.nodup_append];by_cases hm : v ∈ V.take k
   ·rw [if_pos hm];refine ⟨by simp; omega, ⟨fun e => by simp at e; omega, fun h => absurd Z (h.2.2 v hm v (by simp))⟩⟩
   ·rw [if_neg hm];refine ⟨by simp; omega, ⟨fun e => ⟨h2.1 (by simp at e; omega), by simp, fun a ha b hb => by rw [List.mem_singleton] at hb; subst hb; exact fun q => hm (q ▸ ha)⟩, fun h => ?_⟩⟩;have := h2.2 h.1;simp; omega
 have := key V.length (Nat.le_refl _)
 rwa [List.take_length] at this
theorem F130_eq {w : Vw} {u : Int} (h1 : w.B.length ≤ 90000) (h2 : w.V.length ≤ 90000) : F130 w u = some (smOf w.B, hmOf w.V) := by
 unfold F130;rw [room_ok (by omega) (by omega), ct, room_ok (by omega) (by omega), ct]
 have e1 := count_loop (step := F130_s1 w) (n := w.B.length) (fun k => F130_L1.mk (k : Int) (smOf (w.B.take k))) (F130_L1.mk (w.B.length : Int) (smOf w.B)) (fun k hk => by
  obtain ⟨y, hy, -⟩ := get_of hk;unfold F130_s1;simp only
  rw [decide_eq_true (show (k : Int) < (w.B.length : Int) by omega), ct, ix_nat hy, ob, take_succ_getG hy, smOf_snoc, wrap_succ (n := k) (by omega)]) (by
  unfold F130_s1;simp only
  rw [decide_eq_false (show ¬ (w.B.length : Int) < (w.B.length : Int) by omega), cf, List.take_length]) (by omega)
 have e1' : iter (F130_s1 w) big (F130_L1.mk 0 (setE [] (0, 0) 0)) = some (F130_L1.mk (w.B.length : Int) (smOf w.B)) := e1
 have e2 := count_loop (step := F130_s2 w) (n := w.V.length) (fun k => F130_L2.mk (k : Int) (hmOf (w.V.take k))) (F130_L2.mk (w.V.length : Int) (hmOf w.V)) (fun k hk => by
  obtain ⟨y, hy, -⟩ := get_of hk;unfold F130_s2;simp only
  rw [decide_eq_true (show (k : Int) < (w.V.length : Int) by omega), ct, ix_nat hy, ob, take_succ_getG hy, hmOf_snoc, wrap_succ (n := k) (by omega)]) (by
  unfold F130_s2;simp only
  rw [decide_eq_false (show ¬ (w.V.length : Int) < (w.V.length : Int) by omega), cf, List.take_length]) (by omega)
 have e2' : iter (F130_s2 w) big (F130_L2.mk 0 []) = some (F130_L2.mk (w.V.length : Int) (hmOf w.V)) := e2;rw [e1', ob, e2', ob]
def forB (B : List Bk) (v : Vt) : Prop := ∃ s, slotQ B v.Head = some s ∧ s ≤ v.Slot
def badM (sm : List (ID × Int)) (v : Vt) : Bool := match findE sm v.Head with
 | none => true
 | some s => decide (s > v.Slot)
theorem F131_eq (v : Vt) (sm : List (ID × Int)) : F131 v sm = some (badM sm v) := by
 unfold F131 badM
 cases findE sm v.Head with
 | none => rfl
 | some s => rfl
def badAt (sm : List (ID × Int)) (l : List Vt) (j : Nat) : Option Int := match l[j]? with
 | some v => if badM sm v = true then some (j : Int) else none
 | none => none
theorem F132_eq {l : List Vt} (hl : l.length ≤ 90000) (sm : List (ID × Int)) : F132 l sm = some (l.any (badM sm)) := by
 have e := search_loop (step := F158M_s1 l sm) (n := l.length) (fun k => F158M_L1.mk (k : Int)) (badAt sm l) (fun j hj => by
  obtain ⟨y, hy, -⟩ := get_of hj;unfold F158M_s1 badAt;simp only;rw [decide_eq_true (show (j : Int) < (l.length : Int) by omega), ct, ix_nat hy, ob, F131_eq, ob, wrap_succ (n := j) (by omega), hy];simp only
  cases badM sm y with
  | true => rw [ct, if_pos rfl]
  | false => rw [cf, if_neg (by simp)]) (by
  unfold F158M_s1;simp only
  rw [decide_eq_false (show ¬ (l.length : Int) < (l.length : Int) by omega), cf]) (by omega)
 unfold F132 F158M;have e' : iter (F158M_s1 l sm) big (F158M_L1.mk 0) = some (outF (F158M_L1.mk (l.length : Int)) (firstF (badAt sm l) 0 l.length)) := e;rw [e', ob]
 cases h : firstF (badAt sm l) 0 l.length with
 | none =>
  rw [outF, sl, ob];rw [firstF_none] at h;congr 1;rw [show decide ((-1 : Int) ≥ 0) = false from rfl];symm;rw [List.any_eq_false];intro v hv;obtain ⟨j, hj⟩ := List.getElem?_of_mem hv;have := h j (Nat.zero_le _) (by have := (List.getElem?_eq_some_iff.1 hj).1; omega);unfold badAt at this;rw [hj] at this;simp only at this;intro hb;rw [if_pos hb] at this; cases this
 | some r =>
  obtain ⟨j, -, -, h3, -⟩ := firstF_some h;unfold badAt at h3;split at h3
  ·rename_i v hv;split at h3
   ·rename_i hb;cases h3;rw [outF, sr, ob, decide_eq_true (show (j : Int) ≥ 0 by omega)];congr 1;symm;rw [List.any_eq_true];exact ⟨v, List.mem_of_getElem? hv, hb⟩
   ·cases h3
  ·cases h3
structure MayW (c : Cf) (w : Vw) : Prop where
 conf : MayC c
 valid : ValidB w.B
 lenB : w.B.length ≤ 60
 lenV : w.V.length ≤ 240
 mayB : ∀ b ∈ w.B, mayB c b = true
 mayV : ∀ v ∈ w.V, mayV c v = true
 nodup : w.V.Nodup
 forB : ∀ v ∈ w.V, forB w.B v
open Classical in
theorem F89_eq {c : Cf} {w : Vw} (h1 : w.B.length ≤ 1000) (h2 : w.V.length ≤ 1000) : F89 c w = some (decide (MayW c w)) := by
 have hno : ∀ h : ¬ MayW c w, decide (MayW c w) = false := fun h => decide_eq_false h;unfold F89;rw [F64_eq, ob];by_cases c1 : MayC c
 ·rw [decide_eq_true c1, Bool.not_true, cf, F52_eq, ob];by_cases c2 : ValidB w.B
  ·rw [show (places w.B).isSome = true from c2, Bool.not_true, cf];by_cases c3 : w.B.length ≤ 60
   ·rw [decide_eq_false (show ¬ (w.B.length : Int) > 60 by omega), cf, ob];by_cases c4 : w.V.length ≤ 240
    ·rw [decide_eq_false (show ¬ (w.V.length : Int) > 240 by omega), cf, F85_eq (by omega) (by omega), ob]
     have hfB : (onlyP c w).B.length = w.B.length ↔ ∀ b ∈ w.B, mayB c b = true := by unfold onlyP; exact List.length_filter_eq_length_iff
     have hfV : (onlyP c w).V.length = w.V.length ↔ ∀ v ∈ w.V, mayV c v = true := by unfold onlyP; exact List.length_filter_eq_length_iff
     by_cases c5 : ∀ b ∈ w.B, mayB c b = true
     ·rw [show (((onlyP c w).B.length : Int) != (w.B.length : Int)) = false by rw [hfB.2 c5]; simp, cf, ob];by_cases c6 : ∀ v ∈ w.V, mayV c v = true
      ·have hm := hmOf_len w.V;rw [show (((onlyP c w).V.length : Int) != (w.V.length : Int)) = false by rw [hfV.2 c6]; simp, cf, F130_eq (by omega) (by omega), ob, show fewE (hmOf w.V) = true from decide_eq_true (by omega), ct];by_cases c7 : w.V.Nodup
       ·rw [show (((hmOf w.V).length : Int) == (w.V.length : Int)) = true by rw [hm.2.2 c7]; simp, ct, F132_eq (by omega), ob];congr 1
        have hbad : ∀ v, badM (smOf w.B) v = false ↔ Go.Mg.forB w.B v := by
         intro v;unfold badM Go.Mg.forB;rw [smOf_find c2]
         cases slotQ w.B v.Head with
         | none => simp
         | some s => simp
        cases ha : w.V.any (badM (smOf w.B)) with
        | true =>
         obtain ⟨v, hv, hb⟩ := List.any_eq_true.1 ha;symm;refine hno fun h => ?_;have := (hbad v).2 (h.forB v hv);rw [hb] at this; cases this
        | false =>
         rw [List.any_eq_false] at ha;symm;exact decide_eq_true ⟨c1, c2, c3, c4, c5, c6, c7, fun v hv => (hbad v).1 (by have := ha v hv; simpa using this)⟩
       ·rw [show (((hmOf w.V).length : Int) == (w.V.length : Int)) = false by
         rw [beq_eq_false_iff_ne]; intro e; exact c7 (hm.2.1 (by omega)), cf, hno fun h => c7 h.nodup]
      ·rw [show (((onlyP c w).V.length : Int) != (w.V.length : Int)) = true by
        rw [bne_iff_ne]; intro e; exact c6 (hfV.1 (by omega)), ct, hno fun h => c6 h.mayV]
     ·rw [show (((onlyP c w).B.length : Int) != (w.B.length : Int)) = true by
       rw [bne_iff_ne]; intro e; exact c5 (hfB.1 (by omega)), ct, ob, ct, hno fun h => c5 h.mayB]
    ·rw [decide_eq_true (show (w.V.length : Int) > 240 by omega), ct, hno fun h => c4 h.lenV]
   ·rw [decide_eq_true (show (w.B.length : Int) > 60 by omega), ct, ob, ct, hno fun h => c3 h.lenB]
  ·rw [show (places w.B).isSome = false from by unfold ValidB at c2; simpa using c2, Bool.not_false, ct, ob, ct, hno fun h => c2 h.valid]
 ·rw [decide_eq_false c1, Bool.not_false, ct, ob, ct, hno fun h => c1 h.conf]
def goneB (B : List Bk) (b : Bk) : Bool := (slotQ B (nm b)).isSome || (match slotQ B b.Parent with | some s => decide (s ≥ b.Slot) | none => false)
def waitB (B : List Bk) (upto : Int) (b : Bk) : Bool := match slotQ B b.Parent with | some _ => decide (b.Slot > upto) | none => true
def stepB (upto : Int) (B : List Bk) (full : Bool) (b : Bk) : Bool × List Bk × Bool :=
 if goneB B b then (true, B, full) else if waitB B upto b then (false, B, full) else if B.length < 60 then (true, B ++ [b], full) else (false, B, true)
def goneV (B : List Bk) (V : List Vt) (v : Vt) : Bool := decide (v ∈ V) || (match slotQ B v.Head with | some s => decide (s > v.Slot) | none => false)
def waitV (B : List Bk) (upto : Int) (v : Vt) : Bool := match slotQ B v.Head with | some _ => decide (v.Slot > upto) | none => true
def stepV (upto : Int) (B : List Bk) (V : List Vt) (full : Bool) (v : Vt) : Bool × List Vt × Bool :=
 if goneV B V v then (true, V, full) else if waitV B upto v then (false, V, full) else if V.length < 240 then (true, V ++ [v], full) else (false, V, true)
def SmOk (B : List Bk) (sm : List (ID × Int)) : Prop := ∀ id, findE sm id = slotQ B id
def HmOk (V : List Vt) (hm : List (Vt × Bool)) : Prop := ∀ v, findE hm v = if v ∈ V then some true else none
theorem F159_eq (n most : Int) (full : Bool) : F159 n most full = some (decide (n < most), if n < most then full else true) := by
 unfold F159
 cases full with
 | true => rw [ct]; by_cases h : n < most <;> simp [h]
 | false =>
  rw [cf];by_cases h : n < most
  ·rw [if_pos h, decide_eq_false (show ¬ n ≥ most by omega)]
  ·rw [if_neg h, decide_eq_true (show n ≥ most by omega)]
theorem F135_eq {b : Bk} {B : List Bk} {sm : List (ID × Int)} {upto : Int} {full : Bool} (hs : SmOk B sm) (hB : B.length ≤ 1000) (hl : sm.length ≤ 900000) :
  ∃ sm', F135 b B sm upto full = some ((stepB upto B full b).1, (stepB upto B full b).2.1, sm', (stepB upto B full b).2.2) ∧ SmOk (stepB upto B full b).2.1 sm' ∧ sm'.length ≤ sm.length + ((stepB upto B full b).2.1.length - B.length) := by
 unfold F135;rw [hs, hs]
 cases hn : slotQ B (nm b) with
 | some q =>
  have e : stepB upto B full b = (true, B, full) := by simp [stepB, goneB, hn]
  rw [e];refine ⟨sm, ?_, hs, by simp⟩;rw [Option.isSome_some, ct, ob, ct]
 | none =>
  rw [Option.isSome_none, cf]
  cases hp : slotQ B b.Parent with
  | none =>
   have e : stepB upto B full b = (false, B, full) := by simp [stepB, goneB, waitB, hn, hp]
   rw [e];refine ⟨sm, ?_, hs, by simp⟩;rw [Option.isSome_none, cf, ob, cf, Bool.not_false, ct, ob, ct]
  | some s =>
   rw [Option.isSome_some, ct, ob, Option.getD_some];by_cases h1 : s ≥ b.Slot
   ·have e : stepB upto B full b = (true, B, full) := by simp [stepB, goneB, hn, hp, h1]
    rw [e];refine ⟨sm, ?_, hs, by simp⟩;rw [decide_eq_true h1, ct]
   ·rw [decide_eq_false h1, cf, Bool.not_true, cf];by_cases h2 : b.Slot > upto
    ·have e : stepB upto B full b = (false, B, full) := by simp [stepB, goneB, waitB, hn, hp, h1, h2]
     rw [e];refine ⟨sm, ?_, hs, by simp⟩;rw [decide_eq_true h2, ct, ob, ct]
    ·rw [decide_eq_false h2, cf, F159_eq, ob, ob];by_cases h3 : B.length < 60
     ·have e : stepB upto B full b = (true, B ++ [b], full) := by simp [stepB, goneB, waitB, hn, hp, h1, h2, h3]
      rw [e];refine ⟨setE sm (nm b) b.Slot, ?_, fun id => ?_, ?_⟩
      ·rw [decide_eq_true (show (B.length : Int) < 60 by omega), Bool.not_true, cf, room_ok (by simp only [List.length_singleton]; omega) (by omega), ct, show fewE sm = true from decide_eq_true (by omega), ct, if_pos (show (B.length : Int) < 60 by omega)]
      ·rw [findE_setEg, slotQ_snoc, hs];by_cases e : nm b = id
       ·rw [if_pos e, if_pos e, ← e, hn]; rfl
       ·rw [if_neg e, if_neg e]; cases slotQ B id <;> rfl
      ·rw [setE_len, List.length_append, List.length_singleton]; split <;> omega
     ·have e : stepB upto B full b = (false, B, true) := by simp [stepB, goneB, waitB, hn, hp, h1, h2, h3]
      rw [e];refine ⟨sm, ?_, hs, by simp⟩;rw [decide_eq_false (show ¬ (B.length : Int) < 60 by omega), Bool.not_false, ct, if_neg (show ¬ (B.length : Int) < 60 by omega)]
theorem F136_eq {v : Vt} {B : List Bk} {V : List Vt} {sm : List (ID × Int)} {hm : List (Vt × Bool)} {upto : Int} {full : Bool} (hs : SmOk B sm) (hh : HmOk V hm) (hV : V.length ≤ 1000) (hl : hm.length ≤ 900000) :
  ∃ hm', F136 v V sm hm upto full = some ((stepV upto B V full v).1, (stepV upto B V full v).2.1, hm', (stepV upto B V full v).2.2) ∧ HmOk (stepV upto B V full v).2.1 hm' ∧ hm'.length ≤ hm.length + ((stepV upto B V full v).2.1.length - V.length) := by
 unfold F136;rw [hs, hh];by_cases hn : v ∈ V
 ·have e : stepV upto B V full v = (true, V, full) := by simp [stepV, goneV, hn]
  rw [e];refine ⟨hm, ?_, hh, by simp⟩;rw [if_pos hn, Option.getD_some, ct, ob, ct]
 ·rw [if_neg hn, Option.getD_none, cf]
  cases hp : slotQ B v.Head with
  | none =>
   have e : stepV upto B V full v = (false, V, full) := by simp [stepV, goneV, waitV, hn, hp]
   rw [e];refine ⟨hm, ?_, hh, by simp⟩;rw [Option.isSome_none, cf, ob, cf, Bool.not_false, ct, ob, ct]
  | some s =>
   rw [Option.isSome_some, ct, ob, Option.getD_some];by_cases h1 : s > v.Slot
   ·have e : stepV upto B V full v = (true, V, full) := by simp [stepV, goneV, hn, hp, h1]
    rw [e];refine ⟨hm, ?_, hh, by simp⟩;rw [decide_eq_true h1, ct]
   ·rw [decide_eq_false h1, cf, Bool.not_true, cf];by_cases h2 : v.Slot > upto
    ·have e : stepV upto B V full v = (false, V, full) := by simp [stepV, goneV, waitV, hn, hp, h1, h2]
     rw [e];refine ⟨hm, ?_, hh, by simp⟩;rw [decide_eq_true h2, ct, ob, ct]
    ·rw [decide_eq_false h2, cf, F159_eq, ob, ob];by_cases h3 : V.length < 240
     ·have e : stepV upto B V full v = (true, V ++ [v], full) := by simp [stepV, goneV, waitV, hn, hp, h1, h2, h3]
      rw [e];refine ⟨setE hm v true, ?_, fun id => ?_, ?_⟩
      ·rw [decide_eq_true (show (V.length : Int) < 240 by omega), Bool.not_true, cf, room_ok (by simp only [List.length_singleton]; omega) (by omega), ct, show fewE hm = true from decide_eq_true (by omega), ct, if_pos (show (V.length : Int) < 240 by omega)]
      ·rw [findE_setEg, hh];by_cases e : v = id
       ·subst e; simp
       ·simp [e, Ne.symm e]
      ·rw [setE_len, List.length_append, List.length_singleton]; split <;> omega
     ·have e : stepV upto B V full v = (false, V, true) := by simp [stepV, goneV, waitV, hn, hp, h1, h2, h3]
      rw [e];refine ⟨hm, ?_, hh, by simp⟩;rw [decide_eq_false (show ¬ (V.length : Int) < 240 by omega), Bool.not_false, ct, if_neg (show ¬ (V.length : Int) < 240 by omega)]
section
variable {α : Type}
def passG (step : List α → Bool → α → Bool × List α × Bool) : List α → Bool → List α → List α × List α × Bool
 | B, f, [] => ([], B, f)
 | B, f, b :: r => (if (step B f b).1 then (passG step (step B f b).2.1 (step B f b).2.2 r).1 else b :: (passG step (step B f b).2.1 (step B f b).2.2 r).1, (passG step (step B f b).2.1 (step B f b).2.2 r).2)
variable {step : List α → Bool → α → Bool × List α × Bool}
theorem passG_snoc (b : α) : ∀ (l B : List α) (f : Bool), passG step B f (l ++ [b]) =
  (if (step (passG step B f l).2.1 (passG step B f l).2.2 b).1 then (passG step B f l).1 else (passG step B f l).1 ++ [b], (step (passG step B f l).2.1 (passG step B f l).2.2 b).2)
 | [], B, f => by
  simp only [List.nil_append, passG];rfl
 | x :: r, B, f => by
  simp only [List.cons_append, passG, passG_snoc b r];split <;> split <;> simp_all
theorem passG_len : ∀ (l B : List α) (f : Bool), (passG step B f l).1.length ≤ l.length
 | [], B, f => by simp [passG]
 | x :: r, B, f => by
  have := passG_len r (step B f x).2.1 (step B f x).2.2;simp only [passG];split
  ·simp only [List.length_cons]; omega
  ·simp only [List.length_cons]; omega
theorem passG_grow (h : ∀ B f b, B.length ≤ (step B f b).2.1.length ∧ (step B f b).2.1.length ≤ B.length + 1) : ∀ (l B : List α) (f : Bool), B.length ≤ (passG step B f l).2.1.length ∧ (passG step B f l).2.1.length ≤ B.length + l.length
 | [], B, f => by simp [passG]
 | x :: r, B, f => by
  have h1 := h B f x;have h2 := passG_grow h r (step B f x).2.1 (step B f x).2.2;simp only [passG, List.length_cons];omega
end
def passB (upto : Int) : List Bk → Bool → List Bk → List Bk × List Bk × Bool := passG (stepB upto)
def passV (upto : Int) (B : List Bk) : List Vt → Bool → List Vt → List Vt × List Vt × Bool := passG (stepV upto B)
theorem stepB_grow (upto : Int) (B : List Bk) (f : Bool) (b : Bk) : B.length ≤ (stepB upto B f b).2.1.length ∧ (stepB upto B f b).2.1.length ≤ B.length + 1 := by
 unfold stepB; split <;> (try split) <;> (try split) <;> simp
theorem stepV_grow (upto : Int) (B : List Bk) (V : List Vt) (f : Bool) (v : Vt) : V.length ≤ (stepV upto B V f v).2.1.length ∧ (stepV upto B V f v).2.1.length ≤ V.length + 1 := by
 unfold stepV; split <;> (try split) <;> (try split) <;> simp
end Go.Mg
