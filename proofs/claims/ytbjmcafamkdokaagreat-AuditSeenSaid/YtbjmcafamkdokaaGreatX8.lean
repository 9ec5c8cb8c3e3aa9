/- What comes at a tick: closures. Nets. A world behind a tick. A world that begins, and goes on. Are two nodes the same? Conditions: none. -/
import Derived.Test.YtbjmcafamkdokaaGreatX3
import Derived.Test.YtbjmcafamkdokaaGreatX7
import Derived.Test.YtbjmcafamkdokaaGreatX6
import Derived.Test.YtbjmcafamkdokaaGreatX5
set_option maxRecDepth 100000
set_option linter.unusedSimpArgs false
set_option linter.unusedVariables false
namespace Go.Mg
open Go.Proofs
theorem F4050_id {w r_ : Wd} (h : F4050 w = some r_) : w = r_ := by
 unfold F4050 at h;obtain ⟨_, h⟩ := zG h;obtain ⟨_, h⟩ := zG h;obtain ⟨_, _, h⟩ := zB h;obtain ⟨_, _, h⟩ := zB h;exact zJ h
def FOf1 (a : Ac) (w : Wd) : Option Bool :=
 bif a.Tick == w.Tick then
  some (decide (a.To ≥ 0))
 else
  some false
theorem cFOf1 {a : Ac} {w : Wd} {r_ : Bool} (hr : FOf1 a w = some r_) : LC Tryz.prog 85 [.p (acP a), .ptr 0 0] [.box (wdO w)] (Is (bQ r_) [.box (wdO w)]) := by
 refine zh2 Tryz.func85 Z Z Z ?_;unfold FOf1 at hr;refine zQ (zR (yS Z (zbx Z Z Z Z Z) (zM Z (zN (zT (zQ (zR (yS Z (zA Z Z ft1049_0) (yS Z (zD Z Z Z vt3 Z Z) (yS Z (zA Z Z ft1038_2) (yS Z (zD Z Z Z vt3 Z Z) (yS Z (zb2 Z Z Z Z) (zM Z ?_)))))))))))));refine zc 9 Z (fun g1 => ?_) (fun g1 => ?_)
 ·
  refine zi g1 hr fun hr => yV Z (gd g1 Z) (zA Z Z ft1049_1) (yV Z (gd g1 Z) (zD Z Z Z vt3 Z Z) (yV Z (gd g1 Z) (zb2 Z Z Z Z) (yS Z (zpT Z (gdl g1 Z) Z) (zM Z (zN (zT (zr ?_)))))));obtain rfl := zJ hr;exact fin_retW (env' := [(3, .p (.bool (decide (a.To ≥ 0))))]) (H' := [.box (wdO w)]) (zW 1 ⟨rfl, trivial⟩ Z Z Z Z) (.one (.tmp Z)) (⟨rfl, rfl⟩)
 ·
  refine zo g1 hr fun hr => yU Z (gd g1 Z) Z (yU Z (gd g1 Z) Z (yU Z (gd g1 Z) Z (yS Z (zpF Z (gdl g1 Z) Z) (zM Z (zN (zT (zr ?_)))))));obtain rfl := zJ hr;exact fin_retW (env' := [(3, (bQ false))]) (H' := [.box (wdO w)]) (zW 1 ⟨rfl, trivial⟩ Z Z Z Z) (.one (.tmp Z)) (⟨rfl, rfl⟩)
structure FOnlyA_L1 where
 t10 : Int
 out : List Ac
def FOnlyA_s1 (l : List Ac) (w : Wd) (x1 : FOnlyA_L1) : Option (FOnlyA_L1 ⊕ FOnlyA_L1) :=
 bif decide (x1.t10 < (l.length : Int)) then
  (ix l x1.t10).bind fun y1 =>
  (FOf1 y1 w).bind fun v2 =>
  bif v2 then
   bif room x1.out.length [y1].length 72 then
    some (.inl (FOnlyA_L1.mk (IntKind.i64.wrap (x1.t10 + 1)) (x1.out ++ [y1])))
   else none
  else
   some (.inl (FOnlyA_L1.mk (IntKind.i64.wrap (x1.t10 + 1)) x1.out))
 else
  some (.inr (FOnlyA_L1.mk x1.t10 x1.out))
def FOnlyA (l : List Ac) (w : Wd) : Option (List Ac) :=
 (iter (FOnlyA_s1 l w) big (FOnlyA_L1.mk 0 ([] : List Ac))).bind fun v1 =>
 some v1.out
theorem cFOnlyA {l : List Ac} {w : Wd} {r_ : (List Ac)} (hr : FOnlyA l w = some r_) : LC Tryz.prog 84 [.p (.slice 5 (l.map acP)), .fn 85 [] [.ptr 0 0]] [.box (wdO w)] (Is (.p (.slice 5 (r_.map acP))) [.box (wdO w)]) := by
 refine zh2 Tryz.func84 Z Z Z ?_;unfold FOnlyA at hr;refine zQ (zR (zM Z (zN (zT (zQ (zR (zM Z (zN (zT (zQ (zQ (LW.ent (Ent.lazy (t := 5) (m := 5) Z Z Z) (zR (zM Z (yS Z (zlM Z Z (by kernel_rfl)) (zM Z (zN (zT ?_))))))))))))))))));obtain ⟨v1, hb_v1, ho_v1⟩ := zB hr;clear hr;refine LW.tail (E := [(4, .zs), (5, .vec 5 1 (v1.out.map acP).length 0 (v1.out.map acP).length)]) (O := [.box (wdO w), .vec 5 (v1.out.map acP)]) ?_ (fun env_v1 H_v1 hw_v1 => ?_)
 ·refine LW.block ?_;refine LW.iterB (E := fun x1 : FOnlyA_L1 => [(1, .fn 85 [] [.ptr 0 0]), (4, .zs), (5, .vec 5 1 (x1.out.map acP).length 0 (x1.out.map acP).length), (8, .p (.slice 5 (l.map acP))), (9, .p (.int .i64 (l.length : Int))), (10, (iQ x1.t10))]) (O := fun x1 => [.box (wdO w), .vec 5 (x1.out.map acP)]) hb_v1 (zW 2 ⟨rfl, rfl, rfl, rfl, rfl, rfl, trivial⟩ Z Z Z Z) (fun x1 z_x1 hr hb_x1 => ?_);unfold FOnlyA_s1 at hr;refine zQ (zR (yS Z (zb2 Z Z Z Z) (zN (zT (zQ ?_)))));refine zX Z (fun g1 => ?_) (fun g1 => ?_)
  ·
   refine zi g1 hr fun hr => zk (zT (zQ (zl (zQ (zR (zb hr fun y1 h_y1 hr => yS Z (zx Z Z Z st1050 h_y1 Z) (yS Z (zC2 Z Z Z vt1049 Z Z) (yS Z (ze Z zt1049 Z Z) (yS Z (zs Z Z Z Z vt1049 Z Z Z Z) (zN (zT (zQ (zR (zM Z (yS Z (zD Z Z Z vt1049 Z Z) (zb hr fun v2 h_v2 hr => yS Z (zC Z Z Z (by kernel_rfl) (LC.pre (cFOf1 h_v2) Z Z Z)) (zN (zT ?_))))))))))))))))));refine zX Z (fun g2 => ?_) (fun g2 => ?_)
   ·
    refine zi g2 hr fun hr => zR (zM Z (yS Z (zD Z Z Z vt1049 Z Z) (yS Z (zB2 Z st1050 Z Z Z Z Z) (zg hr fun q1 hr => yS Z (LOp.appendX acP x1.out [y1] rfl Z Z Z Src.p Z st1050 q1 Z) (zM Z (zN (inBlk_n (zT (zR (yS Z (zb2 Z Z Z Z) (zM Z (zN (zT ?_)))))))))))));obtain rfl := zJ hr;exact ⟨_, rfl, zW 2 ⟨rfl, rfl, rfl, rfl, rfl, rfl, trivial⟩ Z Z Z rfl⟩
   ·
    refine zo g2 hr fun hr => zk (inBlk_n (zT (zR (yS Z (zb2 Z Z Z Z) (zM Z (zN (zT ?_)))))));obtain rfl := zJ hr;exact ⟨_, rfl, zW 2 ⟨rfl, rfl, rfl, rfl, rfl, rfl, trivial⟩ Z Z Z rfl⟩
  ·
   refine zo g1 hr fun hr => zq (thn_e (thn_e (zy (zT ?_))));obtain rfl := zJ hr;have hr := congrArg some (hb_x1 _ rfl);obtain rfl := zJ hr;exact zW 2 ⟨Z, Z, trivial⟩ Z Z Z Z
 ·have hr := ho_v1;clear hb_v1;refine zT (LW.weak hw_v1 (zQ (LW.ent (Ent.frz (t := 5) (env' := []) (H0 := [.box (wdO w)]) Z Z Z Z Z trivial Z Z) (zR (zM Z (zM Z (zN (zT (zr ?_)))))))));obtain rfl := zJ hr;exact fin_ret (.one (.tmp Z)) (⟨rfl, rfl⟩)
def FOf2 (who : Int) (w : Wd) : Option Bool :=
 (F119 w.Bad who).bind fun v1 =>
 some v1
theorem cFOf2 {who : Int} {w : Wd} {al : Vw} {wh : Int} {me : Bool} {cl : List Ac} {r_ : Bool} (hr : FOf2 who w = some r_) : LC Tryz.prog 86 [(iQ who), .ptr 2 0] (hM w al wh me cl 87 86) (Is (bQ r_) (hM w al wh me cl 87 86)) := by
 refine zh2 Tryz.func86 Z Z Z ?_;unfold FOf2 at hr;refine zQ (zR (zM Z (zN (zT (zQ (zR (yS Z (zA Z Z ft1038_1) (yS Z (zD Z Z Z vt49 Z Z) (zM Z (zb hr fun v1 h_v1 hr => yS Z (zC Z Z Z (by kernel_rfl) (zp (c119 h_v1) (.cons zv (.cons zv .nil)))) (zM Z (zN (zT (zr ?_))))))))))))));obtain rfl := zJ hr;exact fin_ret (.one (.tmp Z)) (⟨rfl, rfl⟩)
def FOf31 (x : Bk) (w : Wd) (al : Vw) : Option Bool :=
 (FOf2 x.From w).bind fun v1 =>
 bif v1 then
  some true
 else
  (F161 al.B x).bind fun v2 =>
  some v2
theorem cFOf31 {x : Bk} {w : Wd} {al : Vw} {wh : Int} {me : Bool} {cl : List Ac} {r_ : Bool} (hr : FOf31 x w al = some r_) : LC Tryz.prog 89 [.p (blkP x), .ptr 5 0, .ptr 4 0] (hM w al wh me cl 87 86) (Is (bQ r_) (hM w al wh me cl 87 86)) := by
 refine zh2 Tryz.func89 Z Z Z ?_;unfold FOf31 at hr;refine zQ (zR (yS Z (zbx Z Z Z Z Z) (zM Z (zN (zT (zQ (zR (yS Z (zD Z Z Z vt131 Z Z) (yS Z (zA Z Z ft42_1) (yS Z (zD Z Z Z vt3 Z Z) (zb hr fun v1 h_v1 hr => yS Z (zC Z Z Z (by kernel_rfl) (LC.pre (cFOf2 h_v1) Z Z Z)) (zM Z ?_))))))))))));refine zc 9 Z (fun g1 => ?_) (fun g1 => ?_)
 ·
  refine zi g1 hr fun hr => yU Z (gd g1 Z) Z (yU Z (gd g1 Z) Z (yU Z (gd g1 Z) Z (yU Z (gd g1 Z) Z (yU Z (gd g1 Z) Z (yS Z (zpT Z (gdl g1 Z) Z) (zM Z (zN (zT (zr ?_)))))))));obtain rfl := zJ hr;exact fin_retW (env' := [(4, (bQ true))]) (H' := (hM w al wh me cl 87 86)) (zW 6 ⟨rfl, trivial⟩ Z Z Z Z) (.one (.tmp Z)) (⟨rfl, rfl⟩)
 ·
  refine zo g1 hr fun hr => yV Z (gd g1 Z) (zA Z Z ft4092_1) (yV Z (gd g1 Z) (zA Z Z ft75_0) (yV Z (gd g1 Z) (zD Z Z Z vt27 Z Z) (yV Z (gd g1 Z) (zD Z Z Z vt42 Z Z) (zb hr fun v2 h_v2 hr => yV Z (gd g1 Z) (zC Z Z Z (by kernel_rfl) (zp (c161 h_v2) (.cons zv (.cons zv .nil)))) (yS Z (zpF Z (gdl g1 Z) Z) (zM Z (zN (zT (zr ?_)))))))));obtain rfl := zJ hr;exact fin_retW (env' := [(4, (bQ v2))]) (H' := (hM w al wh me cl 87 86)) (zW 6 ⟨rfl, trivial⟩ Z Z Z Z) (.one (.tmp Z)) (⟨rfl, rfl⟩)
def FOf32 (x : Vt) (w : Wd) (al : Vw) : Option Bool :=
 (FOf2 x.From w).bind fun v1 =>
 bif v1 then
  some true
 else
  (F162 al.V x).bind fun v2 =>
  some v2
theorem cFOf32 {x : Vt} {w : Wd} {al : Vw} {wh : Int} {me : Bool} {cl : List Ac} {r_ : Bool} (hr : FOf32 x w al = some r_) : LC Tryz.prog 92 [.p (vtP x), .ptr 5 0, .ptr 4 0] (hM w al wh me cl 87 86) (Is (bQ r_) (hM w al wh me cl 87 86)) := by
 refine zh2 Tryz.func92 Z Z Z ?_;unfold FOf32 at hr;refine zQ (zR (yS Z (zbx Z Z Z Z Z) (zM Z (zN (zT (zQ (zR (yS Z (zD Z Z Z vt131 Z Z) (yS Z (zA Z Z ft82_0) (yS Z (zD Z Z Z vt3 Z Z) (zb hr fun v1 h_v1 hr => yS Z (zC Z Z Z (by kernel_rfl) (LC.pre (cFOf2 h_v1) Z Z Z)) (zM Z ?_))))))))))));refine zc 9 Z (fun g1 => ?_) (fun g1 => ?_)
 ·
  refine zi g1 hr fun hr => yU Z (gd g1 Z) Z (yU Z (gd g1 Z) Z (yU Z (gd g1 Z) Z (yU Z (gd g1 Z) Z (yU Z (gd g1 Z) Z (yS Z (zpT Z (gdl g1 Z) Z) (zM Z (zN (zT (zr ?_)))))))));obtain rfl := zJ hr;exact fin_retW (env' := [(4, (bQ true))]) (H' := (hM w al wh me cl 87 86)) (zW 6 ⟨rfl, trivial⟩ Z Z Z Z) (.one (.tmp Z)) (⟨rfl, rfl⟩)
 ·
  refine zo g1 hr fun hr => yV Z (gd g1 Z) (zA Z Z ft4092_1) (yV Z (gd g1 Z) (zA Z Z ft75_1) (yV Z (gd g1 Z) (zD Z Z Z vt68 Z Z) (yV Z (gd g1 Z) (zD Z Z Z vt82 Z Z) (zb hr fun v2 h_v2 hr => yV Z (gd g1 Z) (zC Z Z Z (by kernel_rfl) (zp (c162 h_v2) (.cons zv (.cons zv .nil)))) (yS Z (zpF Z (gdl g1 Z) Z) (zM Z (zN (zT (zr ?_)))))))));obtain rfl := zJ hr;exact fin_retW (env' := [(4, (bQ v2))]) (H' := (hM w al wh me cl 87 86)) (zW 6 ⟨rfl, trivial⟩ Z Z Z Z) (.one (.tmp Z)) (⟨rfl, rfl⟩)
structure FOnlyB_L1 where
 t10 : Int
 out : List Bk
def FOnlyB_s1 (l : List Bk) (w : Wd) (al : Vw) (x1 : FOnlyB_L1) : Option (FOnlyB_L1 ⊕ FOnlyB_L1) :=
 bif decide (x1.t10 < (l.length : Int)) then
  (ix l x1.t10).bind fun y1 =>
  (FOf31 y1 w al).bind fun v2 =>
  bif v2 then
   bif room x1.out.length [y1].length 40 then
    some (.inl (FOnlyB_L1.mk (IntKind.i64.wrap (x1.t10 + 1)) (x1.out ++ [y1])))
   else none
  else
   some (.inl (FOnlyB_L1.mk (IntKind.i64.wrap (x1.t10 + 1)) x1.out))
 else
  some (.inr (FOnlyB_L1.mk x1.t10 x1.out))
def FOnlyB (l : List Bk) (w : Wd) (al : Vw) : Option (List Bk) :=
 (iter (FOnlyB_s1 l w al) big (FOnlyB_L1.mk 0 ([] : List Bk))).bind fun v1 =>
 some v1.out
theorem cFOnlyB {l : List Bk} {w : Wd} {al : Vw} {wh : Int} {me : Bool} {cl : List Ac} {r_ : (List Bk)} (hr : FOnlyB l w al = some r_) : LC Tryz.prog 88 [(kB l), .fn 89 [] [.ptr 5 0, .ptr 4 0]] (hM w al wh me cl 87 86) (Is (kB r_) (hM w al wh me cl 87 86)) := by
 refine zh2 Tryz.func88 Z Z Z ?_;unfold FOnlyB at hr;refine zQ (zR (zM Z (zN (zT (zQ (zR (zM Z (zN (zT (zQ (zQ (LW.ent (Ent.lazy (t := 5) (m := 5) Z Z Z) (zR (zM Z (yS Z (zlM Z Z (by kernel_rfl)) (zM Z (zN (zT ?_))))))))))))))))));obtain ⟨v1, hb_v1, ho_v1⟩ := zB hr;clear hr;refine LW.tail (E := [(4, .zs), (5, (jB 6 v1.out))]) (O := [.box (wdO w), .box zwO, .box (wdO w), .box (mlO w al wh me cl 87 5 4), .box (mlO w al wh me cl 87 5 4), .box [.fn 86 [] [.ptr 2 0]], .vec 5 (v1.out.map blkP)]) ?_ (fun env_v1 H_v1 hw_v1 => ?_)
 ·refine LW.block ?_;refine LW.iterB (E := fun x1 : FOnlyB_L1 => [(1, .fn 89 [] [.ptr 5 0, .ptr 4 0]), (4, .zs), (5, (jB 6 x1.out)), (8, (kB l)), (9, .p (.int .i64 (l.length : Int))), (10, (iQ x1.t10))]) (O := fun x1 => [.box (wdO w), .box zwO, .box (wdO w), .box (mlO w al wh me cl 87 5 4), .box (mlO w al wh me cl 87 5 4), .box [.fn 86 [] [.ptr 2 0]], .vec 5 (x1.out.map blkP)]) hb_v1 (zW 7 ⟨rfl, rfl, rfl, rfl, rfl, rfl, trivial⟩ Z Z Z Z) (fun x1 z_x1 hr hb_x1 => ?_);unfold FOnlyB_s1 at hr;refine zQ (zR (yS Z (zb2 Z Z Z Z) (zN (zT (zQ ?_)))));refine zX Z (fun g1 => ?_) (fun g1 => ?_)
  ·
   refine zi g1 hr fun hr => zk (zT (zQ (zl (zQ (zR (zb hr fun y1 h_y1 hr => yS Z (zx Z Z Z st27 h_y1 Z) (yS Z (zC2 Z Z Z vt42 Z Z) (yS Z (ze Z zt42 Z Z) (yS Z (zs Z Z Z Z vt42 Z Z Z Z) (zN (zT (zQ (zR (zM Z (yS Z (zD Z Z Z vt42 Z Z) (zb hr fun v2 h_v2 hr => yS Z (zC Z Z Z (by kernel_rfl) (LC.pre (cFOf31 h_v2) Z Z Z)) (zN (zT ?_))))))))))))))))));refine zX Z (fun g2 => ?_) (fun g2 => ?_)
   ·
    refine zi g2 hr fun hr => zR (zM Z (yS Z (zD Z Z Z vt42 Z Z) (yS Z (zB2 Z st27 Z Z Z Z Z) (zg hr fun q1 hr => yS Z (LOp.appendX blkP x1.out [y1] rfl Z Z Z Src.p Z st27 q1 Z) (zM Z (zN (inBlk_n (zT (zR (yS Z (zb2 Z Z Z Z) (zM Z (zN (zT ?_)))))))))))));obtain rfl := zJ hr;exact ⟨_, rfl, zW 7 ⟨rfl, rfl, rfl, rfl, rfl, rfl, trivial⟩ Z Z Z rfl⟩
   ·
    refine zo g2 hr fun hr => zk (inBlk_n (zT (zR (yS Z (zb2 Z Z Z Z) (zM Z (zN (zT ?_)))))));obtain rfl := zJ hr;exact ⟨_, rfl, zW 7 ⟨rfl, rfl, rfl, rfl, rfl, rfl, trivial⟩ Z Z Z rfl⟩
  ·
   refine zo g1 hr fun hr => zq (thn_e (thn_e (zy (zT ?_))));obtain rfl := zJ hr;have hr := congrArg some (hb_x1 _ rfl);obtain rfl := zJ hr;exact zW 7 ⟨Z, Z, trivial⟩ Z Z Z Z
 ·have hr := ho_v1;clear hb_v1;refine zT (LW.weak hw_v1 (zQ (LW.ent (Ent.frz (t := 5) (env' := []) (H0 := (hM w al wh me cl 87 86)) Z Z Z Z Z trivial Z Z) (zR (zM Z (zM Z (zN (zT (zr ?_)))))))));obtain rfl := zJ hr;exact fin_ret (.one (.tmp Z)) (⟨rfl, rfl⟩)
structure FOnlyV_L1 where
 t10 : Int
 out : List Vt
def FOnlyV_s1 (l : List Vt) (w : Wd) (al : Vw) (x1 : FOnlyV_L1) : Option (FOnlyV_L1 ⊕ FOnlyV_L1) :=
 bif decide (x1.t10 < (l.length : Int)) then
  (ix l x1.t10).bind fun y1 =>
  (FOf32 y1 w al).bind fun v2 =>
  bif v2 then
   bif room x1.out.length [y1].length 32 then
    some (.inl (FOnlyV_L1.mk (IntKind.i64.wrap (x1.t10 + 1)) (x1.out ++ [y1])))
   else none
  else
   some (.inl (FOnlyV_L1.mk (IntKind.i64.wrap (x1.t10 + 1)) x1.out))
 else
  some (.inr (FOnlyV_L1.mk x1.t10 x1.out))
def FOnlyV (l : List Vt) (w : Wd) (al : Vw) : Option (List Vt) :=
 (iter (FOnlyV_s1 l w al) big (FOnlyV_L1.mk 0 ([] : List Vt))).bind fun v1 =>
 some v1.out
theorem cFOnlyV {l : List Vt} {w : Wd} {al : Vw} {wh : Int} {me : Bool} {cl : List Ac} {r_ : (List Vt)} (hr : FOnlyV l w al = some r_) : LC Tryz.prog 91 [(kV l), .fn 92 [] [.ptr 5 0, .ptr 4 0]] (hM w al wh me cl 87 86) (Is (kV r_) (hM w al wh me cl 87 86)) := by
 refine zh2 Tryz.func91 Z Z Z ?_;unfold FOnlyV at hr;refine zQ (zR (zM Z (zN (zT (zQ (zR (zM Z (zN (zT (zQ (zQ (LW.ent (Ent.lazy (t := 5) (m := 4) Z Z Z) (zR (zM Z (yS Z (zlM Z Z (by kernel_rfl)) (zM Z (zN (zT ?_))))))))))))))))));obtain ⟨v1, hb_v1, ho_v1⟩ := zB hr;clear hr;refine LW.tail (E := [(4, .zs), (5, (jV 6 v1.out))]) (O := [.box (wdO w), .box zwO, .box (wdO w), .box (mlO w al wh me cl 87 5 4), .box (mlO w al wh me cl 87 5 4), .box [.fn 86 [] [.ptr 2 0]], .vec 4 (v1.out.map vtP)]) ?_ (fun env_v1 H_v1 hw_v1 => ?_)
 ·refine LW.block ?_;refine LW.iterB (E := fun x1 : FOnlyV_L1 => [(1, .fn 92 [] [.ptr 5 0, .ptr 4 0]), (4, .zs), (5, (jV 6 x1.out)), (8, (kV l)), (9, .p (.int .i64 (l.length : Int))), (10, (iQ x1.t10))]) (O := fun x1 => [.box (wdO w), .box zwO, .box (wdO w), .box (mlO w al wh me cl 87 5 4), .box (mlO w al wh me cl 87 5 4), .box [.fn 86 [] [.ptr 2 0]], .vec 4 (x1.out.map vtP)]) hb_v1 (zW 7 ⟨rfl, rfl, rfl, rfl, rfl, rfl, trivial⟩ Z Z Z Z) (fun x1 z_x1 hr hb_x1 => ?_);unfold FOnlyV_s1 at hr;refine zQ (zR (yS Z (zb2 Z Z Z Z) (zN (zT (zQ ?_)))));refine zX Z (fun g1 => ?_) (fun g1 => ?_)
  ·
   refine zi g1 hr fun hr => zk (zT (zQ (zl (zQ (zR (zb hr fun y1 h_y1 hr => yS Z (zx Z Z Z st68 h_y1 Z) (yS Z (zC2 Z Z Z vt82 Z Z) (yS Z (ze Z zt82 Z Z) (yS Z (zs Z Z Z Z vt82 Z Z Z Z) (zN (zT (zQ (zR (zM Z (yS Z (zD Z Z Z vt82 Z Z) (zb hr fun v2 h_v2 hr => yS Z (zC Z Z Z (by kernel_rfl) (LC.pre (cFOf32 h_v2) Z Z Z)) (zN (zT ?_))))))))))))))))));refine zX Z (fun g2 => ?_) (fun g2 => ?_)
   ·
    refine zi g2 hr fun hr => zR (zM Z (yS Z (zD Z Z Z vt82 Z Z) (yS Z (zB2 Z st68 Z Z Z Z Z) (zg hr fun q1 hr => yS Z (LOp.appendX vtP x1.out [y1] rfl Z Z Z Src.p Z st68 q1 Z) (zM Z (zN (inBlk_n (zT (zR (yS Z (zb2 Z Z Z Z) (zM Z (zN (zT ?_)))))))))))));obtain rfl := zJ hr;exact ⟨_, rfl, zW 7 ⟨rfl, rfl, rfl, rfl, rfl, rfl, trivial⟩ Z Z Z rfl⟩
   ·
    refine zo g2 hr fun hr => zk (inBlk_n (zT (zR (yS Z (zb2 Z Z Z Z) (zM Z (zN (zT ?_)))))));obtain rfl := zJ hr;exact ⟨_, rfl, zW 7 ⟨rfl, rfl, rfl, rfl, rfl, rfl, trivial⟩ Z Z Z rfl⟩
  ·
   refine zo g1 hr fun hr => zq (thn_e (thn_e (zy (zT ?_))));obtain rfl := zJ hr;have hr := congrArg some (hb_x1 _ rfl);obtain rfl := zJ hr;exact zW 7 ⟨Z, Z, trivial⟩ Z Z Z Z
 ·have hr := ho_v1;clear hb_v1;refine zT (LW.weak hw_v1 (zQ (LW.ent (Ent.frz (t := 5) (env' := []) (H0 := (hM w al wh me cl 87 86)) Z Z Z Z Z trivial Z Z) (zR (zM Z (zM Z (zN (zT (zr ?_)))))))));obtain rfl := zJ hr;exact fin_ret (.one (.tmp Z)) (⟨rfl, rfl⟩)
def FFine (a : Ac) (w : Wd) (al : Vw) : Option Vw :=
 (FOnlyB a.B w al).bind fun v1 =>
 (FOnlyV a.V w al).bind fun v2 =>
 some (Vw.mk v1 v2)
theorem cFFine {a : Ac} {w : Wd} {al : Vw} {wh : Int} {me : Bool} {cl : List Ac} {r_ : Vw} (hr : FFine a w al = some r_) : LC Tryz.prog 87 [.p (acP a), .ptr 5 0, .ptr 4 0] (hM w al wh me cl 87 86) (Is (.p (vwP r_)) (hM w al wh me cl 87 86)) := by
 refine zh2 Tryz.func87 Z Z Z ?_;unfold FFine at hr;refine zQ (zR (yS Z (zbx Z Z Z Z Z) (yS Z (ze Z zt75 Z Z) (zN (zT (zQ (LW.drawLast (m := 9) (by kernel_rfl) (by kernel_rfl) (by kernel_rfl) (yE Z (zA Z Z ft1049_3) (yE Z (zD Z Z Z vt27 Z Z) (yE Z (LOp.makeFunc Z Z Z) (zb hr fun v1 h_v1 hr => yE Z (zC Z Z Z (by kernel_rfl) (LC.pre (cFOnlyB h_v1) Z Z Z)) (yE Z (zA Z Z ft1049_4) (yE Z (zD Z Z Z vt68 Z Z) (yE Z (LOp.makeFunc Z Z Z) (zb hr fun v2 h_v2 hr => yE Z (zC Z Z Z (by kernel_rfl) (LC.pre (cFOnlyV h_v2) Z Z Z)) (yE Z (LOp.build Z bt75 Z Z Z) (LO.nil (yS Z (zs Z Z Z Z vt75 Z Z Z Z) (zN (zT (zr ?_)))))))))))))))))))));obtain rfl := zJ hr;exact fin_retV (env' := []) (H' := (hM w al wh me cl 87 86)) (zW 6 trivial Z Z Z Z) (.one (.cellAgg Z Z (by kernel_rfl) Z)) Z (⟨rfl, rfl⟩)
open Go.Proofs
def FAll1 (n : Nd) (w : Vw) : Option Vw :=
 (F1051 n).bind fun v1 =>
 (F91 w v1).bind fun v2 =>
 some v2
theorem cFAll1 {n : Nd} {w : Vw} {r_ : Vw} (hr : FAll1 n w = some r_) : LC Tryz.prog 67 [.p (ndP n), .ptr 0 0] [.box (vwO w)] (Is (.tup []) [.box (vwO r_)]) := by
 refine zh2 Tryz.func67 Z Z Z ?_;unfold FAll1 at hr;refine zQ (zR (yS Z (zbx Z Z Z Z Z) (zN (zT (LW.drawLast (m := 4) (by kernel_rfl) (by kernel_rfl) (by kernel_rfl) (yE Z (zD Z Z Z vt75 Z Z) (yE Z (zD Z Z Z vt1071 Z Z) (zb hr fun v1 h_v1 hr => yE Z (zC Z Z Z (by kernel_rfl) (zp (c1051 h_v1) (.cons zv .nil))) (zb hr fun v2 h_v2 hr => yE Z (zC Z Z Z (by kernel_rfl) (zp (c91 h_v2) (.cons zv (.cons zv .nil)))) (LO.nil (yS Z (zs Z Z Z Z vt75 Z Z Z Z) (zN ?_))))))))))));obtain rfl := zJ hr;exact fin_endW (env' := []) (H' := [.box (vwO v2)]) (zW 1 trivial Z Z Z Z) .none (⟨rfl, rfl⟩)
structure FEachA_L1 where
 t8 : Int
 o0 : Vw
def FEachA_s1 (l : List Nd) (x1 : FEachA_L1) : Option (FEachA_L1 ⊕ FEachA_L1) :=
 bif decide (x1.t8 < (l.length : Int)) then
  (ix l x1.t8).bind fun y1 =>
  (FAll1 y1 x1.o0).bind fun v2 =>
  some (.inl (FEachA_L1.mk (IntKind.i64.wrap (x1.t8 + 1)) v2))
 else
  some (.inr (FEachA_L1.mk x1.t8 x1.o0))
def FEachA (l : List Nd) (w : Vw) : Option Vw :=
 (iter (FEachA_s1 l) big (FEachA_L1.mk 0 w)).bind fun v1 =>
 some v1.o0
theorem cFEachA {l : List Nd} {w : Vw} {r_ : Vw} (hr : FEachA l w = some r_) : LC Tryz.prog 55 [.p (.slice 12 (l.map ndP)), .fn 67 [] [.ptr 0 0]] [.box (vwO w)] (Is (.tup []) [.box (vwO r_)]) := by
 refine zh2 Tryz.func55 Z Z Z ?_;unfold FEachA at hr;refine zQ (zR (zM Z (yS Z (zlM Z Z (by kernel_rfl)) (zM Z (zN (zT ?_))))));obtain ⟨v1, hb_v1, ho_v1⟩ := zB hr;clear hr;refine LW.tail (E := []) (O := [.box (vwO v1.o0)]) ?_ (fun env_v1 H_v1 hw_v1 => ?_)
 ·refine LW.block ?_;refine LW.iterB (E := fun x1 : FEachA_L1 => [(1, .fn 67 [] [.ptr 0 0]), (6, .p (.slice 12 (l.map ndP))), (7, .p (.int .i64 (l.length : Int))), (8, (iQ x1.t8))]) (O := fun x1 => [.box (vwO x1.o0)]) hb_v1 (zW 1 ⟨rfl, rfl, rfl, rfl, trivial⟩ Z Z Z Z) (fun x1 z_x1 hr hb_x1 => ?_);unfold FEachA_s1 at hr;refine zQ (zR (yS Z (zb2 Z Z Z Z) (zN (zT (zQ ?_)))));refine zX Z (fun g1 => ?_) (fun g1 => ?_)
  ·
   refine zi g1 hr fun hr => zk (zT (zQ (zl (zQ (zR (zb hr fun y1 h_y1 hr => yS Z (zx Z Z Z st1035 h_y1 Z) (yS Z (zC2 Z Z Z vt1071 Z Z) (yS Z (ze Z zt1071 Z Z) (yS Z (zs Z Z Z Z vt1071 Z Z Z Z) (zN (zT (zR (zM Z (yS Z (zD Z Z Z vt1071 Z Z) (zb hr fun v2 h_v2 hr => yS Z (zC Z Z Z (by kernel_rfl) (LC.pre (cFAll1 h_v2) Z Z Z)) (zN (inBlk_n (zT (zR (yS Z (zb2 Z Z Z Z) ?_))))))))))))))))))));refine zM Z (zN (zT ?_));obtain rfl := zJ hr;exact ⟨_, rfl, zW 1 ⟨rfl, rfl, rfl, rfl, trivial⟩ Z Z Z rfl⟩
  ·
   refine zo g1 hr fun hr => zq (thn_e (thn_e (zy (zT ?_))));obtain rfl := zJ hr;have hr := congrArg some (hb_x1 _ rfl);obtain rfl := zJ hr;exact zW 1 trivial Z Z Z Z
 ·have hr := ho_v1;clear hb_v1;obtain rfl := zJ hr;exact fin_endW hw_v1 .none ⟨rfl, rfl⟩
def F1031 (l : List Nd) : Option Vw :=
 (FEachA l (Vw.mk [] [])).bind fun v1 =>
 some v1
theorem c1031 {l : List Nd} {r_ : Vw} (hr : F1031 l = some r_) : LPure Tryz.prog 32 [.slice 12 (l.map ndP)] [vwP r_] := by
 refine zh Tryz.func32 Z Z Z Z ?_;unfold F1031 at hr;refine zQ (zR (yS Z (ze Z zt75 Z Z) (zN (zT (zQ (LW.ent (Ent.zsCell (i := 0) (j := 0) (m := 5) Z Z Z Z) (LW.ent (Ent.zsCell (i := 0) (j := 1) (m := 4) Z Z Z Z) (zR (zM Z (yS Z (LOp.makeFunc Z Z Z) (zb hr fun v1 h_v1 hr => yS Z (zC Z Z Z (by kernel_rfl) (cFEachA h_v1)) (zN (zT (zQ (zR (yS Z (zD Z Z Z vt75 Z Z) (yS Z (zs Z Z Z Z vt75 Z Z Z Z) (zN (zT (zr ?_))))))))))))))))))));obtain rfl := zJ hr;exact zf (.one (.cellAgg Z Z (by kernel_rfl) Z)) zv
structure FEachH_L1 where
 t8 : Int
 o2 : List ID
structure F3034_L1 where
 t12 : Int
 names : List (ID × Bool)
structure FIxn_L1 where
 t8 : Int
open Go.Proofs
def FMail (w : Wd) (l : List Ac) : Option (Vw × Int × Bool × List Ac) :=
 (F1031 w.N).bind fun v1 =>
 (F63 w.C (IntKind.i64.wrap (w.Tick.tdiv 3))).bind fun v2 =>
 (F119 w.Bad v2).bind fun v3 =>
 (FOnlyA l w).bind fun v4 =>
 some (v1, v2, v3, v4)
theorem cFMail {w : Wd} {l : List Ac} {r_ : Vw × Int × Bool × List Ac} (hr : FMail w l = some r_) : LC Tryz.prog 51 [.p (wdP w), .p (.slice 5 (l.map acP))] [] (Is (.agg (mlO w r_.1 r_.2.1 r_.2.2.1 r_.2.2.2 87 3 2)) [.box (wdO w), .box (mlO w r_.1 r_.2.1 r_.2.2.1 r_.2.2.2 87 3 2), .box (mlO w r_.1 r_.2.1 r_.2.2.1 r_.2.2.2 87 3 2), .box [.fn 86 [] [.ptr 0 0]]]) := by
 refine zh2 Tryz.func51 Z Z Z ?_;unfold FMail at hr;refine zQ (zR (yS Z (zbx Z Z Z Z Z) (yS Z (ze Z zt4092 Z Z) (zN (zT (zQ (LW.ent (Ent.slot Z) (LW.drawW (by kernel_rfl) (by kernel_rfl) (yF Z (zd Z Z Z vt1038 Z Z) Z ?_)))))))));refine yF (F := []) (s := none) Z (fun H _ => zA Z Z ft1038_3) Z ?_;refine yF Z (zd Z Z Z vt1035 Z Z) Z (zb hr fun v1 h_v1 hr => ?_);refine yF (F := []) (s := none) Z (fun H _ => zC Z Z Z (by kernel_rfl) (zp (c1031 h_v1) (.cons zv .nil))) Z ?_;refine yF (F := []) (s := none) Z (fun H _ => zA Z Z ft1038_2) Z ?_;refine yF Z (zd Z Z Z vt3 Z Z) Z ?_;refine yF (F := []) (s := none) Z (fun H _ => LOp.quo Z Z Z (by decide)) Z ?_;refine yF (F := []) (s := none) Z (fun H _ => LOp.build Z bt4092 Z Z Z) Z ?_;refine yF Z (LAt.alloc Z zt4092 (id := 2) Z) Z (yF Z (zt Z Z Z Z vt4092 Z Z Z) Z ?_);refine LF.nil ⟨by kernel_rfl, ?_⟩;refine zT (zQ (zR (yS Z (zA Z Z ft1038_0) (yS Z (zD Z Z Z vt55 Z Z) (yS Z (zA Z Z ft4092_5) (yS Z (zD Z Z Z vt3 Z Z) (zb hr fun v2 h_v2 hr => yS Z (zC Z Z Z (by kernel_rfl) (zp (c63 h_v2) (.cons zv (.cons zv .nil)))) (yS Z (zA Z Z ft4092_2) (yS Z (zs Z Z Z Z vt3 Z Z Z Z) (zN (zT (zQ (zR (yS Z (zA Z Z ft1038_1) (yS Z (zD Z Z Z vt49 Z Z) (yS Z (zA Z Z ft4092_2) (yS Z (zD Z Z Z vt3 Z Z) (zb hr fun v3 h_v3 hr => yS Z (zC Z Z Z (by kernel_rfl) (zp (c119 h_v3) (.cons zv (.cons zv .nil)))) (yS Z (zA Z Z ft4092_3) (yS Z (zs Z Z Z Z vt4 Z Z Z Z) (zN ?_)))))))))))))))))))));refine zT (zQ (zR (zM Z (yS Z (LOp.makeFunc Z Z Z) (zb hr fun v4 h_v4 hr => yS Z (zC Z Z Z (by kernel_rfl) (LC.pre (cFOnlyA h_v4) Z Z Z)) (yS Z (zA Z Z ft4092_6) (yS Z (zs Z Z Z Z vt1050 Z Z Z Z) (zN (zT (zQ (zR (yS Z (LOp.makeFunc Z Z Z) (yS Z (ze Z zt131 Z Z) (yS Z (zs Z Z Z Z vt131 Z Z Z Z) (zN (zT (zQ (zR (yS Z (LOp.makeFunc Z Z Z) (yS Z (zA Z Z ft4092_4) (yS Z (zs Z Z Z Z vt4090 Z Z Z Z) (zN ?_))))))))))))))))))))));refine zT (zQ (zR (yS Z (zD Z Z Z vt4092 Z Z) (yS Z (zs Z Z Z Z vt4092 Z Z Z Z) (zN (zT (zr ?_)))))));obtain rfl := zJ hr;exact fin_ret (.one (.cellAgg Z Z (by kernel_rfl) Z)) (⟨rfl, rfl⟩)
structure FTo_L1 where
 t20 : Int
 v_in : Vw
 offers : List Of
def FTo_s1 (w : Wd) (al : Vw) (wh : Int) (me : Bool) (cl : List Ac) (at_ : Int) (x1 : FTo_L1) : Option (FTo_L1 ⊕ FTo_L1) :=
 bif decide (x1.t20 < (cl.length : Int)) then
  (ix cl x1.t20).bind fun y1 =>
  bif decide (0 ≤ at_) then
   bif (bits .and .i64 (y1.To.fdiv (2 ^ (min (Int.toNat at_) IntKind.i64.bits))) 1) == 0 then
    some (.inl (FTo_L1.mk (IntKind.i64.wrap (x1.t20 + 1)) x1.v_in x1.offers))
   else
    (FFine y1 w al).bind fun v2 =>
    bif !y1.Offer then
     (F91 x1.v_in v2).bind fun v3 =>
     some (.inl (FTo_L1.mk (IntKind.i64.wrap (x1.t20 + 1)) v3 x1.offers))
    else
     (
      bif me then
       some (decide ((v2.B.length : Int) > 0))
      else
       some false
     ).bind fun v4 =>
     bif v4 then
      (ix v2.B 0).bind fun y2 =>
      bif inL v2.B 1 v2.B.length then
       bif room x1.offers.length [Of.mk (IntKind.i64.wrap (w.Tick.tdiv 3)) wh y2 (Vw.mk (v2.B.drop (1 : Int).toNat) v2.V)].length 104 then
        some (.inl (FTo_L1.mk (IntKind.i64.wrap (x1.t20 + 1)) x1.v_in (x1.offers ++ [Of.mk (IntKind.i64.wrap (w.Tick.tdiv 3)) wh y2 (Vw.mk (v2.B.drop (1 : Int).toNat) v2.V)])))
       else none
      else none
     else
      some (.inl (FTo_L1.mk (IntKind.i64.wrap (x1.t20 + 1)) x1.v_in x1.offers))
  else none
 else
  some (.inr (FTo_L1.mk x1.t20 x1.v_in x1.offers))
def FTo (w : Wd) (al : Vw) (wh : Int) (me : Bool) (cl : List Ac) (at_ : Int) : Option (Vw × List Of) :=
 bif room 0 w.O.length 104 then
  (iter (FTo_s1 w al wh me cl at_) big (FTo_L1.mk 0 al w.O)).bind fun v1 =>
  some (v1.v_in, v1.offers)
 else none
theorem cFTo {w : Wd} {al : Vw} {wh : Int} {me : Bool} {cl : List Ac} {at_ : Int} {r_ : Vw × List Of} (hr : FTo w al wh me cl at_ = some r_) : LC Tryz.prog 52 [.agg (mlO w al wh me cl 87 5 4), (iQ at_)] (hM w al wh me cl 87 86) (Is (.tup [.p (vwP r_.1), (kO r_.2)]) (hM w al wh me cl 87 86)) := by
 refine zh2 Tryz.func52 Z Z Z ?_;unfold FTo at hr;refine zQ (zR (yS Z (zbx Z Z Z Z Z) (yS Z (ze Z zt75 Z Z) (zM Z (zN (zT (zQ (LW.ent (Ent.slot Z) (LW.ent (Ent.slot Z) (LW.drawW (by kernel_rfl) (by kernel_rfl) ?_))))))))));refine yF (F := []) (s := none) Z (fun H _ => zA Z Z ft4092_1) Z ?_;refine yF Z (zd Z Z Z vt75 Z Z) Z ?_;refine yF (F := []) (s := none) Z (fun H _ => zA Z Z ft4092_0) Z ?_;refine yF (F := []) (s := none) Z (fun H _ => zA Z Z ft1038_4) Z ?_;refine yF Z (zd Z Z Z vt1036 Z Z) Z (zg hr fun q1 hr => ?_);refine yF Z (LAt.callV (id := 9) (qs := [(kO w.O)]) Z Z Z (by kernel_rfl) (c4094V q1) (fun H => (.consC zv .nil)) Z) Z ?_;refine yF Z (LAt.alloc Z zt75 (id := 8) Z) Z (yF Z (zt Z Z Z Z vt75 Z Z Z) Z (zK Z ?_));refine LF.nil ⟨by kernel_rfl, ?_⟩;refine zT (zQ (zQ (zR (yS Z (zA Z Z ft4092_6) (yS Z (zD Z Z Z vt1050 Z Z) (yS Z (zlM Z Z (by kernel_rfl)) (zM Z (zN (zT ?_)))))))));obtain ⟨v1, hb_v1, ho_v1⟩ := zB hr;clear hr;refine LW.tail (E := [(4, .ptr 7 0), (5, .zs), (6, .ptr 8 0), (7, (jO 9 v1.offers))]) (O := [.box (wdO w), .box zwO, .box (wdO w), .box (mlO w al wh me cl 87 5 4), .box (mlO w al wh me cl 87 5 4), .box [.fn 86 [] [.ptr 2 0]], .box (mlO w al wh me cl 87 5 4), .box [.zs, .zs], .box (vwO v1.v_in), .vec 9 (v1.offers.map ofP)]) ?_ (fun env_v1 H_v1 hw_v1 => ?_)
 ·refine LW.block ?_;refine LW.iterB (E := fun x1 : FTo_L1 => [(1, (iQ at_)), (2, .ptr 6 0), (4, .ptr 7 0), (5, .zs), (6, .ptr 8 0), (7, (jO 9 x1.offers)), (18, .p (.slice 5 (cl.map acP))), (19, .p (.int .i64 (cl.length : Int))), (20, (iQ x1.t20))]) (O := fun x1 => [.box (wdO w), .box zwO, .box (wdO w), .box (mlO w al wh me cl 87 5 4), .box (mlO w al wh me cl 87 5 4), .box [.fn 86 [] [.ptr 2 0]], .box (mlO w al wh me cl 87 5 4), .box [.zs, .zs], .box (vwO x1.v_in), .vec 9 (x1.offers.map ofP)]) hb_v1 (zW 10 ⟨rfl, rfl, rfl, rfl, rfl, rfl, rfl, rfl, rfl, trivial⟩ Z Z Z Z) (fun x1 z_x1 hr hb_x1 => ?_);unfold FTo_s1 at hr;refine zQ (zR (yS Z (zb2 Z Z Z Z) (zN (zT (zQ ?_)))));refine zX Z (fun g1 => ?_) (fun g1 => ?_)
  ·
   refine zi g1 hr fun hr => zk (zT (zQ (zl (zQ (zR (zb hr fun y1 h_y1 hr => yS Z (zx Z Z Z st1050 h_y1 Z) (yS Z (zC2 Z Z Z vt1049 Z Z) (yS Z (ze Z zt1049 Z Z) (yS Z (zs Z Z Z Z vt1049 Z Z Z Z) (zN (zT (zQ (zQ (zR (yS Z (zA Z Z ft1049_1) (yS Z (zD Z Z Z vt3 Z Z) (zM Z (zg hr fun q2 hr => yS Z (LOp.shr Z Z Z (of_decide_eq_true q2)) (yS Z (zb2 Z Z Z Z) (yS Z (zb2 Z Z Z Z) ?_))))))))))))))))))));refine zN (zT ?_);refine zX Z (fun g2 => ?_) (fun g2 => ?_)
   ·
    refine zi g2 hr fun hr => zq (thn_e (zy (zT (zR (yS Z (zb2 Z Z Z Z) (zM Z (zN (zT ?_))))))));obtain rfl := zJ hr;exact ⟨_, rfl, zW 10 ⟨rfl, rfl, rfl, rfl, rfl, rfl, rfl, rfl, rfl, trivial⟩ Z Z Z rfl⟩
   ·
    refine zo g2 hr fun hr => zk (zT (zQ (zR (yS Z (zA Z Z ft4092_4) (yS Z (zD Z Z Z vt4090 Z Z) (yS Z (zD Z Z Z vt1049 Z Z) (zb hr fun v2 h_v2 hr => yS Z (zC Z Z Z (by kernel_rfl) (LC.pre (cFFine h_v2) Z Z Z)) (yS Z (ze Z zt75 Z Z) (yS Z (zs Z Z Z Z vt75 Z Z Z Z) (zN (zT (zl (zQ (zR (yS Z (zA Z Z ft1049_2) (yS Z (zD Z Z Z vt4 Z Z) (yS Z (LOp.not Z Z) (zM Z (zN (zT ?_))))))))))))))))))));refine zX Z (fun g3 => ?_) (fun g3 => ?_)
    ·
     refine zi g3 hr fun hr => zR (yS Z (zD Z Z Z vt75 Z Z) (yS Z (zD Z Z Z vt75 Z Z) (zb hr fun v3 h_v3 hr => yS Z (zC Z Z Z (by kernel_rfl) (zp (c91 h_v3) (.cons zv (.cons zv .nil)))) (yS Z (zs Z Z Z Z vt75 Z Z Z Z) (zN (inBlk_n (inBlk_n (zT (zR (yS Z (zb2 Z Z Z Z) (zM Z (zN (zT ?_)))))))))))));obtain rfl := zJ hr;exact ⟨_, rfl, zW 10 ⟨rfl, rfl, rfl, rfl, rfl, rfl, rfl, rfl, rfl, trivial⟩ Z Z Z rfl⟩
    ·
     have hr := zO g3 hr;obtain ⟨v4, hb_v4, ho_v4⟩ := zB hr;clear hr;refine LW.cut (E := [(1, (iQ at_)), (2, .ptr 6 0), (4, .ptr 7 0), (5, .zs), (6, .ptr 8 0), (7, (jO 9 x1.offers)), (10, .ptr 11 0), (18, .p (.slice 5 (cl.map acP))), (19, .p (.int .i64 (cl.length : Int))), (20, (iQ x1.t20)), (41, (bQ v4))]) (O := [.box (wdO w), .box zwO, .box (wdO w), .box (mlO w al wh me cl 87 5 4), .box (mlO w al wh me cl 87 5 4), .box [.fn 86 [] [.ptr 2 0]], .box (mlO w al wh me cl 87 5 4), .box [.zs, .zs], .box (vwO x1.v_in), .vec 9 (x1.offers.map ofP), .box [(iQ y1.Tick), (iQ y1.To), (bQ y1.Offer), (kB y1.B), (kV y1.V)], .box (vwO v2)]) ?_ ?_
     ·have hr := hb_v4;refine zR (yS Z (zA Z Z ft4092_3) (yS Z (zD Z Z Z vt4 Z Z) (zM Z ?_)));refine zc 44 Z (fun g4 => ?_) (fun g4 => ?_)
      ·
       refine zi g4 hr fun hr => yV Z (gd g4 Z) (zA Z Z ft75_0) (yV Z (gd g4 Z) (zD Z Z Z vt27 Z Z) (yV Z (gd g4 Z) (zlM Z Z (by kernel_rfl)) (yV Z (gd g4 Z) (zb2 Z Z Z Z) (yS Z (zpT Z (gdl g4 Z) Z) (zM Z (zN (zT ?_)))))));obtain rfl := zJ hr;exact zW 12 ⟨Z, Z, Z, Z, Z, Z, Z, Z, Z, Z, Z, trivial⟩ Z Z Z Z
      ·
       refine zo g4 hr fun hr => yU Z (gd g4 Z) Z (yU Z (gd g4 Z) Z (yU Z (gd g4 Z) Z (yU Z (gd g4 Z) Z (yS Z (zpF Z (gdl g4 Z) Z) (zM Z (zN (zT ?_)))))));obtain rfl := zJ hr;exact zW 12 ⟨Z, Z, Z, Z, Z, Z, Z, Z, Z, Z, Z, trivial⟩ Z Z Z Z
     ·have hr := ho_v4;clear hb_v4;refine zX Z (fun g5 => ?_) (fun g5 => ?_)
      ·
       refine zi g5 hr fun hr => LW.drawW (by kernel_rfl) (by kernel_rfl) (zK Z ?_);refine yF (F := []) (s := none) Z (fun H _ => zA Z Z ft4092_5) Z ?_;refine yF Z (zd Z Z Z vt3 Z Z) Z ?_;refine yF (F := []) (s := none) Z (fun H _ => zA Z Z ft4092_2) Z ?_;refine yF Z (zd Z Z Z vt3 Z Z) Z ?_;refine yF (F := []) (s := none) Z (fun H _ => zA Z Z ft75_0) Z ?_;refine yF Z (zd Z Z Z vt27 Z Z) Z (zb hr fun y2 h_y2 hr => ?_);refine yF (F := []) (s := none) Z (fun H _ => zx Z Z Z st27 h_y2 Z) Z ?_;refine yF (F := []) (s := none) Z (fun H _ => zC2 Z Z Z vt42 Z Z) Z ?_;refine yF (F := []) (s := none) Z (fun H _ => zA Z Z ft75_0) Z ?_;refine yF Z (zd Z Z Z vt27 Z Z) Z (zg hr fun q3 hr => ?_);refine yF (F := []) (s := none) Z (fun H _ => LOp.sliceLo Z Z Z st27 q3) Z ?_;refine yF (F := []) (s := none) Z (fun H _ => zA Z Z ft75_1) Z ?_;refine yF Z (zd Z Z Z vt68 Z Z) Z ?_;refine yF (F := []) (s := none) Z (fun H _ => LOp.build Z bt75 Z Z Z) Z ?_;refine yF (F := []) (s := none) Z (fun H _ => LOp.build Z bt1077 Z Z Z) Z ?_;refine yF (F := []) (s := none) Z (fun H _ => zB2 Z st1036 Z Z Z Z Z) Z ?_;refine zg hr fun q4 hr => yF Z (LAt.appendX ofP x1.offers [Of.mk (IntKind.i64.wrap (w.Tick.tdiv 3)) wh y2 (Vw.mk (v2.B.drop (1 : Int).toNat) v2.V)] rfl Z Z Z Z st1036 q4) Z (zK Z ?_);refine LF.nil ⟨by kernel_rfl, ?_⟩;refine inBlk_n (inBlk_n (zT (zR (yS Z (zb2 Z Z Z Z) (zM Z (zN (zT ?_)))))));obtain rfl := zJ hr;exact ⟨_, rfl, zW 10 ⟨rfl, rfl, rfl, rfl, rfl, rfl, rfl, rfl, rfl, trivial⟩ Z Z Z rfl⟩
      ·
       refine zo g5 hr fun hr => zk (inBlk_n (inBlk_n (zT (zR (yS Z (zb2 Z Z Z Z) (zM Z (zN (zT ?_))))))));obtain rfl := zJ hr;exact ⟨_, rfl, zW 10 ⟨rfl, rfl, rfl, rfl, rfl, rfl, rfl, rfl, rfl, trivial⟩ Z Z Z rfl⟩
  ·
   refine zo g1 hr fun hr => zq (thn_e (thn_e (zy (zT ?_))));obtain rfl := zJ hr;have hr := congrArg some (hb_x1 _ rfl);obtain rfl := zJ hr;exact zW 10 ⟨Z, Z, Z, Z, trivial⟩ Z Z Z Z
 ·have hr := ho_v1;clear hb_v1;refine zT (LW.weak hw_v1 (zQ (LW.ent (Ent.frz (t := 7) (env' := [(4, .ptr 7 0), (6, .ptr 8 0)]) (H0 := [.box (wdO w), .box zwO, .box (wdO w), .box (mlO w al wh me cl 87 5 4), .box (mlO w al wh me cl 87 5 4), .box [.fn 86 [] [.ptr 2 0]], .box (mlO w al wh me cl 87 5 4), .box [.zs, .zs], .box (vwO v1.v_in)]) Z Z Z Z Z ⟨rfl, rfl, trivial⟩ Z Z) (zR (yS Z (zD Z Z Z vt75 Z Z) (zM Z (yS Z (zs Z Z Z Z vt75 Z Z Z Z) (zM Z (zN (zT (zr ?_)))))))))));obtain rfl := zJ hr;exact fin_retV (env' := []) (H' := (hM w al wh me cl 87 86)) (zW 6 trivial Z Z Z Z) (.two (.cellAgg Z Z (by kernel_rfl) Z) (.tmp Z)) Z (⟨rfl, rfl⟩)
structure F4017_L1 where
 t43 : Int
 o9 : List Nd
 o10 : List Of
def F4017_s1 (w : Wd) (v4 : Vw × Int × Bool × List Ac) (x1 : F4017_L1) : Option (F4017_L1 ⊕ F4017_L1) :=
 bif decide (x1.t43 < (w.N.length : Int)) then
  (FTo w v4.1 v4.2.1 v4.2.2.1 v4.2.2.2 x1.t43).bind fun v6 =>
  (ix w.N x1.t43).bind fun y1 =>
  (F3018 w.C y1 v6.1 v6.2).bind fun v7 =>
  bif room x1.o9.length [v7.1].length 176 then
   bif room x1.o10.length v7.2.length 104 then
    some (.inl (F4017_L1.mk (IntKind.i64.wrap (x1.t43 + 1)) (x1.o9 ++ [v7.1]) (x1.o10 ++ v7.2)))
   else none
  else none
 else
  some (.inr (F4017_L1.mk x1.t43 x1.o9 x1.o10))
def F4017 (w : Wd) (l : List Ac) : Option Wd :=
 (
  (F64 w.C).bind fun v2 =>
  bif !v2 then
   some true
  else
   bif decide (w.Tick < 3) then
    some true
   else
    some (decide (w.Tick ≥ 3145728))
 ).bind fun v1 =>
 bif v1 then
  (F4050 w).bind fun _ =>
  some w
 else
  (FMail w l).bind fun v4 =>
  bif room 0 w.Bad.length 8 then
   (iter (F4017_s1 w v4) big (F4017_L1.mk 0 ([] : List Nd) ([] : List Of))).bind fun v5 =>
   some (Wd.mk w.C w.Bad (IntKind.i64.wrap (w.Tick + 1)) v5.o9 v5.o10)
  else none
theorem c4017 {w : Wd} {l : List Ac} {r_ : Wd} (hr : F4017 w l = some r_) : LPure Tryz.prog 17 [wdP w, .slice 5 (l.map acP)] [wdP r_] := by
 refine zh Tryz.func17 Z Z Z Z ?_;unfold F4017 at hr;refine zQ (zR (yS Z (zbx Z Z Z Z Z) (yS Z (ze Z zt1038 Z Z) (zN (zT (zQ ?_))))));obtain ⟨v1, hb_v1, ho_v1⟩ := zB hr;clear hr;refine LW.cut (E := [(1, .p (.slice 5 (l.map acP))), (2, .ptr 0 0), (4, .ptr 1 0), (25, (bQ v1))]) (O := [.box (wdO w), .box zwO]) ?_ ?_
 ·have hr := hb_v1;refine zR (yS Z (zA Z Z ft1038_0) (yS Z (zD Z Z Z vt55 Z Z) (zb hr fun v2 h_v2 hr => yS Z (zC Z Z Z (by kernel_rfl) (zp (c64 h_v2) (.cons zv .nil))) (yS Z (LOp.not Z Z) (zM Z ?_)))));refine zc 16 Z (fun g1 => ?_) (fun g1 => ?_)
  ·
   refine zi g1 hr fun hr => yU Z (gd g1 Z) Z (yU Z (gd g1 Z) Z (yU Z (gd g1 Z) Z (yS Z (zpT Z (gdl g1 Z) Z) (zM Z (yU Z Z Z (yU Z Z Z (yU Z Z Z (yS Z (zpT Z Z Z) (zN (zT ?_))))))))));obtain rfl := zJ hr;exact zW 2 ⟨Z, Z, Z, Z, trivial⟩ Z Z Z Z
  ·
   refine zo g1 hr fun hr => yV Z (gd g1 Z) (zA Z Z ft1038_2) (yV Z (gd g1 Z) (zD Z Z Z vt3 Z Z) (yV Z (gd g1 Z) (zb2 Z Z Z Z) (yS Z (zpF Z (gdl g1 Z) Z) (zM Z ?_))));refine zc 21 Z (fun g2 => ?_) (fun g2 => ?_)
   ·
    refine zi g2 hr fun hr => yU Z (gd g2 Z) Z (yU Z (gd g2 Z) Z (yU Z (gd g2 Z) Z (yS Z (zpT Z (gdl g2 Z) Z) (zN (zT ?_)))));obtain rfl := zJ hr;exact zW 2 ⟨Z, Z, Z, Z, trivial⟩ Z Z Z Z
   ·
    refine zo g2 hr fun hr => yV Z (gd g2 Z) (zA Z Z ft1038_2) (yV Z (gd g2 Z) (zD Z Z Z vt3 Z Z) (yV Z (gd g2 Z) (zb2 Z Z Z Z) (yS Z (zpF Z (gdl g2 Z) Z) (zN (zT ?_)))));obtain rfl := zJ hr;exact zW 2 ⟨Z, Z, Z, Z, trivial⟩ Z Z Z Z
 ·have hr := ho_v1;clear hb_v1;refine zX Z (fun g3 => ?_) (fun g3 => ?_)
  ·
   refine zi g3 hr fun hr => zQ (zR (yS Z (zD Z Z Z vt1038 Z Z) (zb hr fun v3 h_v3 hr => ?_)));obtain rfl := F4050_id h_v3;refine yS Z (zC Z Z Z (by kernel_rfl) (zp (c4050 h_v3) (.cons zv .nil))) (yS Z (zs Z Z Z Z vt1038 Z Z Z Z) (zN (zT (zr (thn_r ?_)))));obtain rfl := zJ hr;exact zf (.one (.cellAgg Z Z (by kernel_rfl) Z)) zv
  ·
   refine zo g3 hr fun hr => zk (zT (zQ (zR (yS Z (zD Z Z Z vt1038 Z Z) (zM Z (zb hr fun v4 h_v4 hr => yS Z (zC Z Z Z (by kernel_rfl) (LC.frameX (x' := .agg (mlO w v4.1 v4.2.1 v4.2.2.1 v4.2.2.2 87 5 4)) (H' := [.box (wdO w), .box zwO, .box (wdO w), .box (mlO w v4.1 v4.2.1 v4.2.2.1 v4.2.2.2 87 5 4), .box (mlO w v4.1 v4.2.1 v4.2.2.1 v4.2.2.2 87 5 4), .box [.fn 86 [] [.ptr 2 0]]]) (cFMail h_v4) (.consC zv (.consC zv .nil)) Z (by simp only [List.map_cons, List.map_nil, List.cons_append, List.nil_append, LObj.shift, LV.shifts, LV.shift] <;> rfl) (by simp only [List.map_cons, List.map_nil, List.cons_append, List.nil_append, LObj.shift, LV.shifts, LV.shift] <;> rfl))) (yS Z (ze Z zt4092 Z Z) (yS Z (zs Z Z Z Z vt4092 Z Z Z Z) (zN (zT (zQ (LW.ent (Ent.slot Z) (LW.ent (Ent.slot Z) (LW.drawW (by kernel_rfl) (by kernel_rfl) ?_))))))))))))));refine yF (F := []) (s := none) Z (fun H _ => zA Z Z ft1038_0) Z ?_;refine yF Z (zd Z Z Z vt55 Z Z) Z ?_;refine yF (F := []) (s := none) Z (fun H _ => zA Z Z ft1038_1) Z ?_;refine yF Z (zd Z Z Z vt49 Z Z) Z (zg hr fun q1 hr => ?_);refine yF Z (LAt.callV (id := 7) (qs := [(kI w.Bad)]) Z Z Z (by kernel_rfl) (c4046V q1) (fun H => (.consC zv .nil)) Z) Z ?_;refine yF (F := []) (s := none) Z (fun H _ => zA Z Z ft1038_2) Z ?_;refine yF Z (zd Z Z Z vt3 Z Z) Z ?_;refine yF (F := []) (s := none) Z (fun H _ => zb2 Z Z Z Z) Z ?_;refine yF (F := []) (s := none) Z (fun H _ => LOp.build Z bt1038 Z Z Z) Z ?_;refine yF Z (LAt.alloc Z zt1038 (id := 8) Z) Z (yF Z (zt Z Z Z Z vt1038 Z Z Z) Z ?_);refine LF.nil ⟨by kernel_rfl, ?_⟩;refine zT (zQ (zQ (LW.ent (Ent.lazyCell (i := 8) (j := 7) (m := 12) Z Z Z Z Z Z) (LW.ent (Ent.lazyCell (i := 8) (j := 8) (m := 9) Z Z Z Z Z Z) (zR (yS Z (zA Z Z ft1038_3) (yS Z (zD Z Z Z vt1035 Z Z) (yS Z (zlM Z Z (by kernel_rfl)) (zM Z (zN (zT ?_)))))))))));obtain ⟨v5, hb_v5, ho_v5⟩ := zB hr;clear hr;refine LW.tail (E := [(4, .ptr 1 0), (6, .ptr 8 0)]) (O := [.box (wdO w), .box zwO, .box (wdO w), .box (mlO w v4.1 v4.2.1 v4.2.2.1 v4.2.2.2 87 5 4), .box (mlO w v4.1 v4.2.1 v4.2.2.1 v4.2.2.2 87 5 4), .box [.fn 86 [] [.ptr 2 0]], .box (mlO w v4.1 v4.2.1 v4.2.2.1 v4.2.2.2 87 5 4), .vec 1 (w.Bad.map i64P), .box [(kI w.C.W), (uQ w.C.Seed), (iQ w.C.Epoch), (iQ w.C.Num), (iQ w.C.Den), (jI 7 w.Bad), .p (.int .i64 (IntKind.i64.wrap (w.Tick + 1))), .vec 12 9 (v5.o9.map ndP).length 0 (v5.o9.map ndP).length, (jO 10 v5.o10)], .vec 12 (v5.o9.map ndP), .vec 9 (v5.o10.map ofP)]) ?_ (fun env_v5 H_v5 hw_v5 => ?_)
   ·refine LW.block ?_;refine LW.iterB (E := fun x1 : F4017_L1 => [(2, .ptr 0 0), (4, .ptr 1 0), (5, .ptr 6 0), (6, .ptr 8 0), (42, .p (.int .i64 (w.N.length : Int))), (43, (iQ x1.t43))]) (O := fun x1 => [.box (wdO w), .box zwO, .box (wdO w), .box (mlO w v4.1 v4.2.1 v4.2.2.1 v4.2.2.2 87 5 4), .box (mlO w v4.1 v4.2.1 v4.2.2.1 v4.2.2.2 87 5 4), .box [.fn 86 [] [.ptr 2 0]], .box (mlO w v4.1 v4.2.1 v4.2.2.1 v4.2.2.2 87 5 4), .vec 1 (w.Bad.map i64P), .box [(kI w.C.W), (uQ w.C.Seed), (iQ w.C.Epoch), (iQ w.C.Num), (iQ w.C.Den), (jI 7 w.Bad), .p (.int .i64 (IntKind.i64.wrap (w.Tick + 1))), .vec 12 9 (x1.o9.map ndP).length 0 (x1.o9.map ndP).length, (jO 10 x1.o10)], .vec 12 (x1.o9.map ndP), .vec 9 (x1.o10.map ofP)]) hb_v5 (zW 11 ⟨rfl, rfl, rfl, rfl, rfl, rfl, trivial⟩ Z Z Z Z) (fun x1 z_x1 hr hb_x1 => ?_);unfold F4017_s1 at hr;refine zQ (zR (yS Z (zb2 Z Z Z Z) (zN (zT (zQ ?_)))));refine zX Z (fun g4 => ?_) (fun g4 => ?_)
    ·
     refine zi g4 hr fun hr => zk (zT (zQ (zl (zQ (zR (zM Z (zM Z (zN (zT (zQ (zR (yS Z (zD Z Z Z vt4092 Z Z) (zM Z (zb hr fun v6 h_v6 hr => yS Z (zC Z Z Z (by kernel_rfl) (LC.pre (cFTo h_v6) Z Z Z)) (zM Z (yS Z (zX2 Z Z Z) (yS Z (zX2 Z Z Z) (yS Z (ze Z zt75 Z Z) (yS Z (zs Z Z Z Z vt75 Z Z Z Z) (zM Z (zN ?_)))))))))))))))))))));refine zT (zQ (LW.ent (Ent.slot Z) (LW.drawW (by kernel_rfl) (by kernel_rfl) ?_)));refine yF (F := []) (s := none) Z (fun H _ => zA Z Z ft1038_0) Z ?_;refine yF Z (zd Z Z Z vt55 Z Z) Z ?_;refine yF (F := []) (s := none) Z (fun H _ => zA Z Z ft1038_3) Z ?_;refine yF Z (zd Z Z Z vt1035 Z Z) Z (zK Z (zb hr fun y1 h_y1 hr => ?_));refine yF (F := []) (s := none) Z (fun H _ => zx Z Z Z st1035 h_y1 Z) Z ?_;refine yF (F := []) (s := none) Z (fun H _ => zC2 Z Z Z vt1071 Z Z) Z ?_;refine yF Z (zd Z Z Z vt75 Z Z) Z (zK Z (zb hr fun v7 h_v7 hr => ?_));refine yF (F := []) (s := none) Z (fun H _ => zC Z Z Z (by kernel_rfl) (zp (c3018 h_v7) (.cons zv (.cons zv (.cons zv (.cons zv .nil)))))) Z ?_;refine zK Z ?_;refine yF (F := []) (s := none) Z (fun H _ => zX2 Z Z Z) Z ?_;refine yF (F := []) (s := none) Z (fun H _ => zX2 Z Z Z) Z ?_;refine yF Z (LAt.alloc Z zt1071 (id := 12) Z) Z (yF Z (zt Z Z Z Z vt1071 Z Z Z) Z (zK Z ?_));refine LF.nil ⟨by kernel_rfl, ?_⟩;refine zT (LW.drawW (by kernel_rfl) (by kernel_rfl) ?_);refine yF (F := []) (s := none) Z (fun H _ => zA Z Z ft1038_3) Z ?_;refine yF Z (zd Z Z Z vt1035 Z Z) Z (yF Z (zd Z Z Z vt1071 Z Z) Z ?_);refine yF (F := []) (s := none) Z (fun H _ => zB2 Z st1035 Z Z Z Z Z) Z ?_;refine zg hr fun q2 hr => yF Z (LAt.appendX ndP x1.o9 [v7.1] rfl Z Z Z Z st1035 q2) Z ?_;refine yF (F := []) (s := none) Z (fun H _ => zA Z Z ft1038_4) Z ?_;refine yF Z (zd Z Z Z vt1036 Z Z) Z (zK Z (zg hr fun q3 hr => yF Z (LAt.appendX ofP x1.o10 v7.2 Z Z Z Z Z st1036 q3) Z ?_));refine yF (F := []) (s := none) Z (fun H _ => zA Z Z ft1038_3) Z ?_;refine yF Z (zt Z Z Z Z vt1035 Z Z Z) Z ?_;refine yF (F := []) (s := none) Z (fun H _ => zA Z Z ft1038_4) Z ?_;refine yF Z (zt Z Z Z Z vt1036 Z Z Z) Z ?_;refine LF.nil ⟨by kernel_rfl, ?_⟩;refine inBlk_n (zT (zR (yS Z (zb2 Z Z Z Z) (zM Z (zN (zT ?_))))));obtain rfl := zJ hr;exact ⟨_, rfl, zW 11 ⟨rfl, rfl, rfl, rfl, rfl, rfl, trivial⟩ Z Z Z rfl⟩
    ·
     refine zo g4 hr fun hr => zq (thn_e (thn_e (zy (zT ?_))));obtain rfl := zJ hr;have hr := congrArg some (hb_x1 _ rfl);obtain rfl := zJ hr;exact zW 11 ⟨Z, Z, trivial⟩ Z Z Z Z
   ·have hr := ho_v5;clear hb_v5;refine zT (LW.weak hw_v5 (zQ (zR (yS Z (zD Z Z Z vt1038 Z Z) (yS Z (zs Z Z Z Z vt1038 Z Z Z Z) (zN (zT (zr ?_))))))));obtain rfl := zJ hr;exact zf (.one (.cellAgg Z Z (by kernel_rfl) Z)) ((Conv.agg (.cons zv (.cons zv (.cons zv (.cons zv (.cons zv (.cons (Conv.vecAll Z Z Z) (.cons zv (.cons (Conv.vecAll Z Z Z) (.cons (Conv.vecAll Z Z Z) .nil)))))))))))
open Go.Proofs
structure F4016_L1 where
 t19 : Int
 o4 : List Nd
def F4016_s1 (c : Cf) (bad : List Int) (x1 : F4016_L1) : Option (F4016_L1 ⊕ F4016_L1) :=
 bif decide (x1.t19 < (c.W.length : Int)) then
  (F119 bad x1.t19).bind fun v3 =>
  bif !v3 then
   (F3043 x1.t19).bind fun v4 =>
   bif room x1.o4.length [v4].length 176 then
    some (.inl (F4016_L1.mk (IntKind.i64.wrap (x1.t19 + 1)) (x1.o4 ++ [v4])))
   else none
  else
   some (.inl (F4016_L1.mk (IntKind.i64.wrap (x1.t19 + 1)) x1.o4))
 else
  some (.inr (F4016_L1.mk x1.t19 x1.o4))
def F4016 (c : Cf) (bad : List Int) : Option Wd :=
 bif room 0 bad.length 8 then
  (F64 c).bind fun v1 =>
  bif !v1 then
   some (Wd.mk c bad 0 [] [])
  else
   (iter (F4016_s1 c bad) big (F4016_L1.mk 0 ([] : List Nd))).bind fun v2 =>
   some (Wd.mk c bad 3 v2.o4 [])
 else none
theorem c4016 {c : Cf} {bad : List Int} {r_ : Wd} (hr : F4016 c bad = some r_) : LPure Tryz.prog 16 [cfP c, .slice 1 (bad.map i64P)] [wdP r_] := by
 refine zh Tryz.func16 Z Z Z Z ?_;unfold F4016 at hr;refine zQ (zR (yS Z (zbx Z Z Z Z Z) (yS Z (ze Z zt1038 Z Z) (zN (zT (zQ (LW.ent (Ent.slot Z) (LW.ent (Ent.slot Z) (LW.drawW (by kernel_rfl) (by kernel_rfl) (yF Z (zd Z Z Z vt55 Z Z) Z (zK Z (zg hr fun q1 hr => ?_))))))))))));refine yF Z (LAt.callV (id := 2) (qs := [(kI bad)]) Z Z Z (by kernel_rfl) (c4046V q1) (fun H => (.consC zv .nil)) Z) Z ?_;refine yF (F := []) (s := none) Z (fun H _ => LOp.build Z bt1038 Z Z Z) Z ?_;refine yF Z (LAt.alloc Z zt1038 (id := 3) Z) Z (yF Z (zt Z Z Z Z vt1038 Z Z Z) Z ?_);refine LF.nil ⟨by kernel_rfl, ?_⟩;refine zT (zQ (zQ (zR (yS Z (zD Z Z Z vt55 Z Z) (zb hr fun v1 h_v1 hr => yS Z (zC Z Z Z (by kernel_rfl) (zp (c64 h_v1) (.cons zv .nil))) (yS Z (LOp.not Z Z) (zN (zT ?_))))))));refine zX Z (fun g1 => ?_) (fun g1 => ?_)
 ·
  refine zi g1 hr fun hr => zQ (zR (yS Z (zD Z Z Z vt1038 Z Z) (yS Z (zs Z Z Z Z vt1038 Z Z Z Z) (zN (zT (zr (thn_r ?_)))))));obtain rfl := zJ hr;exact zf (.one (.cellAgg Z Z (by kernel_rfl) Z)) ((Conv.agg (.cons zv (.cons zv (.cons zv (.cons zv (.cons zv (.cons (Conv.vecAll Z Z Z) (.cons zv (.cons Conv.zs (.cons Conv.zs .nil)))))))))))
 ·
  refine zo g1 hr fun hr => zk (zT (zQ (zR (yS Z (zA Z Z ft1038_2) (yS Z (zs Z Z Z Z vt3 Z Z Z Z) (zN (zT (zQ (zQ (LW.ent (Ent.lazyCell (i := 3) (j := 7) (m := 12) Z Z Z Z Z Z) (zR (yS Z (zA Z Z ft55_0) (yS Z (zD Z Z Z vt49 Z Z) (yS Z (zlM Z Z (by kernel_rfl)) (zM Z (zN (zT ?_)))))))))))))))));obtain ⟨v2, hb_v2, ho_v2⟩ := zB hr;clear hr;refine LW.tail (E := [(4, .ptr 1 0), (5, .ptr 3 0)]) (O := [.box (cfO c), .box zwO, .vec 1 (bad.map i64P), .box [(kI c.W), (uQ c.Seed), (iQ c.Epoch), (iQ c.Num), (iQ c.Den), (jI 2 bad), (iQ 3), .vec 12 4 (v2.o4.map ndP).length 0 (v2.o4.map ndP).length, .zs], .vec 12 (v2.o4.map ndP)]) ?_ (fun env_v2 H_v2 hw_v2 => ?_)
  ·refine LW.block ?_;refine LW.iterB (E := fun x1 : F4016_L1 => [(1, (kI bad)), (4, .ptr 1 0), (5, .ptr 3 0), (18, .p (.int .i64 (c.W.length : Int))), (19, (iQ x1.t19))]) (O := fun x1 => [.box (cfO c), .box zwO, .vec 1 (bad.map i64P), .box [(kI c.W), (uQ c.Seed), (iQ c.Epoch), (iQ c.Num), (iQ c.Den), (jI 2 bad), (iQ 3), .vec 12 4 (x1.o4.map ndP).length 0 (x1.o4.map ndP).length, .zs], .vec 12 (x1.o4.map ndP)]) hb_v2 (zW 5 ⟨rfl, rfl, rfl, rfl, rfl, trivial⟩ Z Z Z Z) (fun x1 z_x1 hr hb_x1 => ?_);unfold F4016_s1 at hr;refine zQ (zR (yS Z (zb2 Z Z Z Z) (zN (zT (zQ ?_)))));refine zX Z (fun g2 => ?_) (fun g2 => ?_)
   ·
    refine zi g2 hr fun hr => zk (zT (zQ (zl (zQ (zR (zM Z (zM Z (zN (zT (zQ (zR (zM Z (zM Z (zb hr fun v3 h_v3 hr => yS Z (zC Z Z Z (by kernel_rfl) (zp (c119 h_v3) (.cons zv (.cons zv .nil)))) (yS Z (LOp.not Z Z) (zN (zT ?_)))))))))))))))));refine zX Z (fun g3 => ?_) (fun g3 => ?_)
    ·
     refine zi g3 hr fun hr => LW.drawW (by kernel_rfl) (by kernel_rfl) ?_;refine yF (F := []) (s := none) Z (fun H _ => zA Z Z ft1038_3) Z ?_;refine yF Z (zd Z Z Z vt1035 Z Z) Z (zK Z (zb hr fun v4 h_v4 hr => ?_));refine yF (F := []) (s := none) Z (fun H _ => zC Z Z Z (by kernel_rfl) (zp (c3043 h_v4) (.cons zv .nil))) Z ?_;refine yF (F := []) (s := none) Z (fun H _ => zB2 Z st1035 Z Z Z Z Z) Z ?_;refine zg hr fun q2 hr => yF Z (LAt.appendX ndP x1.o4 [v4] rfl Z Z Z Z st1035 q2) Z ?_;refine yF (F := []) (s := none) Z (fun H _ => zA Z Z ft1038_3) Z ?_;refine yF Z (zt Z Z Z Z vt1035 Z Z Z) Z ?_;refine LF.nil ⟨by kernel_rfl, ?_⟩;refine inBlk_n (zT (zR (yS Z (zb2 Z Z Z Z) (zM Z (zN (zT ?_))))));obtain rfl := zJ hr;exact ⟨_, rfl, zW 5 ⟨rfl, rfl, rfl, rfl, rfl, trivial⟩ Z Z Z rfl⟩
    ·
     refine zo g3 hr fun hr => zk (inBlk_n (zT (zR (yS Z (zb2 Z Z Z Z) (zM Z (zN (zT ?_)))))));obtain rfl := zJ hr;exact ⟨_, rfl, zW 5 ⟨rfl, rfl, rfl, rfl, rfl, trivial⟩ Z Z Z rfl⟩
   ·
    refine zo g2 hr fun hr => zq (thn_e (thn_e (zy (zT ?_))));obtain rfl := zJ hr;have hr := congrArg some (hb_x1 _ rfl);obtain rfl := zJ hr;exact zW 5 ⟨Z, Z, trivial⟩ Z Z Z Z
  ·have hr := ho_v2;clear hb_v2;refine zT (LW.weak hw_v2 (zQ (zR (yS Z (zD Z Z Z vt1038 Z Z) (yS Z (zs Z Z Z Z vt1038 Z Z Z Z) (zN (zT (zr ?_))))))));obtain rfl := zJ hr;exact zf (.one (.cellAgg Z Z (by kernel_rfl) Z)) ((Conv.agg (.cons zv (.cons zv (.cons zv (.cons zv (.cons zv (.cons (Conv.vecAll Z Z Z) (.cons zv (.cons (Conv.vecAll Z Z Z) (.cons Conv.zs .nil)))))))))))
structure F4031_L1 where
 t11 : Int
 w : Wd
def F4031_s1 (l : List Ac) (ticks : Int) (x1 : F4031_L1) : Option (F4031_L1 ⊕ F4031_L1) :=
 bif decide (x1.t11 < (if 300 < ticks then 300 else ticks)) then
  (F4017 x1.w l).bind fun v3 =>
  some (.inl (F4031_L1.mk (IntKind.i64.wrap (x1.t11 + 1)) v3))
 else
  some (.inr (F4031_L1.mk x1.t11 x1.w))
def F4031 (w : Wd) (l : List Ac) (ticks : Int) : Option Wd :=
 (F4050 w).bind fun _ =>
 (iter (F4031_s1 l ticks) big (F4031_L1.mk 0 w)).bind fun v2 =>
 some v2.w
theorem c4031 {w : Wd} {l : List Ac} {ticks : Int} {r_ : Wd} (hr : F4031 w l ticks = some r_) : LPure Tryz.prog 31 [wdP w, .slice 5 (l.map acP), .int .i64 ticks] [wdP r_] := by
 refine zh Tryz.func31 Z Z Z Z ?_;unfold F4031 at hr;refine zQ (zR (yS Z (zbx Z Z Z Z Z) (yS Z (ze Z zt1038 Z Z) (zN (zT (zQ (zR (yS Z (zD Z Z Z vt1038 Z Z) (zb hr fun v1 h_v1 hr => ?_)))))))));obtain rfl := F4050_id h_v1;refine yS Z (zC Z Z Z (by kernel_rfl) (zp (c4050 h_v1) (.cons zv .nil))) (yS Z (zs Z Z Z Z vt1038 Z Z Z Z) (zN (zT (zQ (zQ (zR (zM Z (yS Z (LOp.min Z Z Z) (zM Z (zN (zT ?_)))))))))));obtain ⟨v2, hb_v2, ho_v2⟩ := zB hr;clear hr;refine LW.tail (E := [(3, .ptr 0 0), (6, .ptr 1 0)]) (O := [.box (wdO v2.w), .box zwO]) ?_ (fun env_v2 H_v2 hw_v2 => ?_)
 ·refine LW.block ?_;refine LW.iterB (E := fun x1 : F4031_L1 => [(1, .p (.slice 5 (l.map acP))), (3, .ptr 0 0), (6, .ptr 1 0), (10, .p (.int .i64 (if 300 < ticks then 300 else ticks))), (11, (iQ x1.t11))]) (O := fun x1 => [.box (wdO x1.w), .box zwO]) hb_v2 (zW 2 ⟨rfl, rfl, rfl, rfl, rfl, trivial⟩ Z Z Z Z) (fun x1 z_x1 hr hb_x1 => ?_);unfold F4031_s1 at hr;refine zQ (zR (yS Z (zb2 Z Z Z Z) (zN (zT (zQ ?_)))));refine zX Z (fun g1 => ?_) (fun g1 => ?_)
  ·
   refine zi g1 hr fun hr => zk (zT (zQ (zl (zR (yS Z (zD Z Z Z vt1038 Z Z) (zM Z (zb hr fun v3 h_v3 hr => yS Z (zC Z Z Z (by kernel_rfl) (zp (c4017 h_v3) (.cons zv (.cons zv .nil)))) (yS Z (zs Z Z Z Z vt1038 Z Z Z Z) (zN (inBlk_n (zT (zR (yS Z (zb2 Z Z Z Z) (zM Z (zN (zT ?_))))))))))))))));obtain rfl := zJ hr;exact ⟨_, rfl, zW 2 ⟨rfl, rfl, rfl, rfl, rfl, trivial⟩ Z Z Z rfl⟩
  ·
   refine zo g1 hr fun hr => zq (thn_e (thn_e (zy (zT ?_))));obtain rfl := zJ hr;have hr := congrArg some (hb_x1 _ rfl);obtain rfl := zJ hr;exact zW 2 ⟨Z, Z, trivial⟩ Z Z Z Z
 ·have hr := ho_v2;clear hb_v2;refine zT (LW.weak hw_v2 (zQ (zR (yS Z (zD Z Z Z vt1038 Z Z) (yS Z (zs Z Z Z Z vt1038 Z Z Z Z) (zN (zT (zr ?_))))))));obtain rfl := zJ hr;exact zf (.one (.cellAgg Z Z (by kernel_rfl) Z)) zv
open Go.Proofs
structure F3111_L1 where
 t13 : Int
structure F3112_L1 where
 t13 : Int
structure FEqo_L1 where
 t17 : Int
end Go.Mg
