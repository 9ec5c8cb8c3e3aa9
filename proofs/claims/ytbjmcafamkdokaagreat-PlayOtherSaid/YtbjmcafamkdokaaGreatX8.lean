/- What comes at a tick: closures. Nets. A world behind a tick. A world that begins, and goes on. Are two nodes the same? Conditions: none. -/
import Derived.Test.YtbjmcafamkdokaaGreatX3
import Derived.Test.YtbjmcafamkdokaaGreatX7
import Derived.Test.YtbjmcafamkdokaaGreatX6
import Derived.Test.YtbjmcafamkdokaaGreatX5
set_option maxRecDepth 100000
set_option linter.unusedSimpArgs false
set_option linter.unusedVariables false
namespace Go.Mg
open Go.Proofs
theorem sy {w r_ : Wd} (h : nr w = some r_) : w = r_ := by
 unfold nr at h;obtain ⟨_, h⟩ := zG h;obtain ⟨_, h⟩ := zG h;obtain ⟨_, _, h⟩ := zB h;obtain ⟨_, _, h⟩ := zB h;exact zJ h
def Ck (a : Ac) (w : Wd) : Option Bool :=
 bif a.Tick == w.Tick then
  some (decide (a.To ≥ 0))
 else
  some false
theorem Gy {a : Ac} {w : Wd} {r_ : Bool} (hr : Ck a w = some r_) : LC Tryz.prog 85 [.p (lL a), .ptr 0 0] [.box (fX w)] (Is (bQ r_) [.box (fX w)]) := by
 refine dt Tryz.func85 Z Z Z ?_;unfold Ck at hr;refine zQ<|zR<|yS Z (bV Z Z Z Z Z)<|zM Z<|zN<|zT<|zQ<|zR<|yS Z (zA Z Z pd)<|yS Z (zD Z Z Z aX Z Z)<|yS Z (zA Z Z dA)<|yS Z (zD Z Z Z aX Z Z)<|yS Z (ax Z Z Z Z)<|zM Z ?_;refine zc 9 Z (fun g1 => ?_)<|fun g1 => ?_
 ·
  refine zi g1 hr fun hr => yV Z (gd g1 Z) (zA Z Z pg)<|yV Z (gd g1 Z) (zD Z Z Z aX Z Z)<|yV Z (gd g1 Z) (ax Z Z Z Z)<|yS Z (ca Z (aN g1 Z) Z)<|zM Z<|zN<|zT<|zr ?_;obtain rfl := zJ hr;exact aS (env' := [(3, .p (.bool (decide (a.To ≥ 0))))]) (H' := [.box (fX w)]) (zW 1 ⟨rfl, trivial⟩ Z Z Z Z) (.one (.tmp Z))<|⟨rfl, rfl⟩
 ·
  refine zo g1 hr fun hr => yU Z (gd g1 Z) Z<|yU Z (gd g1 Z) Z<|yU Z (gd g1 Z) Z<|yS Z (a8 Z (aN g1 Z) Z)<|zM Z<|zN<|zT<|zr ?_;obtain rfl := zJ hr;exact aS (env' := [(3, (bQ false))]) (H' := [.box (fX w)]) (zW 1 ⟨rfl, trivial⟩ Z Z Z Z) (.one (.tmp Z))<|⟨rfl, rfl⟩
structure cJ where
 t10 : Int
 out : List Ac
def fR (l : List Ac) (w : Wd) (x1 : cJ) : Option (cJ ⊕ cJ) :=
 bif decide (x1.t10 < (l.length : Int)) then
  (ix l x1.t10).bind fun y1 =>
  (Ck y1 w).bind fun v2 =>
  bif v2 then
   bif b9 x1.out.length [y1].length 72 then
    some (.inl (cJ.mk (IntKind.i64.wrap (x1.t10 + 1)) (x1.out ++ [y1])))
   else none
  else
   some (.inl (cJ.mk (IntKind.i64.wrap (x1.t10 + 1)) x1.out))
 else
  some (.inr (cJ.mk x1.t10 x1.out))
def oD (l : List Ac) (w : Wd) : Option (List Ac) :=
 (iter (fR l w) bH (cJ.mk 0 ([] : List Ac))).bind fun v1 =>
 some v1.out
theorem Cz {l : List Ac} {w : Wd} {r_ : (List Ac)} (hr : oD l w = some r_) : LC Tryz.prog 84 [.p (.slice 5 (l.map lL)), .fn 85 [] [.ptr 0 0]] [.box (fX w)] (Is (.p (.slice 5 (r_.map lL))) [.box (fX w)]) := by
 refine dt Tryz.func84 Z Z Z ?_;unfold oD at hr;refine zQ<|zR<|zM Z<|zN<|zT<|zQ<|zR<|zM Z<|zN<|zT<|zQ<|zQ<|LW.ent (bJ.lazy (t := 5) (m := 5) Z Z Z)<|zR<|zM Z<|yS Z (cC Z Z (by kernel_rfl))<|zM Z<|zN<|zT ?_;obtain ⟨v1, hb_v1, ho_v1⟩ := zB hr;clear hr;refine LW.tail (E := [(4, .zs), (5, .vec 5 1 (v1.out.map lL).length 0 (v1.out.map lL).length)]) (O := [.box (fX w), .vec 5 (v1.out.map lL)]) ?_<|fun env_v1 H_v1 hw_v1 => ?_
 ·refine LW.block ?_;refine LW.iterB (E := fun x1 : cJ => [(1, .fn 85 [] [.ptr 0 0]), (4, .zs), (5, .vec 5 1 (x1.out.map lL).length 0 (x1.out.map lL).length), (8, .p (.slice 5 (l.map lL))), (9, .p (.int .i64 (l.length : Int))), (10, (iQ x1.t10))]) (O := fun x1 => [.box (fX w), .vec 5 (x1.out.map lL)]) hb_v1 (zW 2 ⟨rfl, rfl, rfl, rfl, rfl, rfl, trivial⟩ Z Z Z Z)<|fun x1 z_x1 hr hb_x1 => ?_;unfold fR at hr;refine zQ<|zR<|yS Z (ax Z Z Z Z)<|zN<|zT<|zQ ?_;refine zX Z (fun g1 => ?_)<|fun g1 => ?_
  ·
   refine zi g1 hr fun hr => zk<|zT<|zQ<|zl<|zQ<|zR<|zb hr fun y1 h_y1 hr => yS Z (zx Z Z Z hZ h_y1 Z)<|yS Z (cT Z Z Z jp Z Z)<|yS Z (ze Z BJ Z Z)<|yS Z (zs Z Z Z Z jp Z Z Z Z)<|zN<|zT<|zQ<|zR<|zM Z<|yS Z (zD Z Z Z jp Z Z)<|zb hr fun v2 h_v2 hr => yS Z (zC Z Z Z (by kernel_rfl) (LC.pre (Gy h_v2) Z Z Z))<|zN<|zT ?_;refine zX Z (fun g2 => ?_)<|fun g2 => ?_
   ·
    refine zi g2 hr fun hr => zR<|zM Z<|yS Z (zD Z Z Z jp Z Z)<|yS Z (mA Z hZ Z Z Z Z Z)<|zg hr fun q1 hr => yS Z (ab.appendX lL x1.out [y1] rfl Z Z Z kE.p Z hZ q1 Z)<|zM Z<|zN<|ai<|zT<|zR<|yS Z (ax Z Z Z Z)<|zM Z<|zN<|zT ?_;obtain rfl := zJ hr;exact ⟨_, rfl, zW 2 ⟨rfl, rfl, rfl, rfl, rfl, rfl, trivial⟩ Z Z Z rfl⟩
   ·
    refine zo g2 hr fun hr => zk<|ai<|zT<|zR<|yS Z (ax Z Z Z Z)<|zM Z<|zN<|zT ?_;obtain rfl := zJ hr;exact ⟨_, rfl, zW 2 ⟨rfl, rfl, rfl, rfl, rfl, rfl, trivial⟩ Z Z Z rfl⟩
  ·
   refine zo g1 hr fun hr => zq<|ao<|ao<|zy<|zT ?_;obtain rfl := zJ hr;have hr := congrArg some (hb_x1 _ rfl);obtain rfl := zJ hr;exact zW 2 ⟨Z, Z, trivial⟩ Z Z Z Z
 ·have hr := ho_v1;clear hb_v1;refine zT<|LW.weak hw_v1<|zQ<|LW.ent (bJ.frz (t := 5) (env' := []) (H0 := [.box (fX w)]) Z Z Z Z Z trivial Z Z)<|zR<|zM Z<|zM Z<|zN<|zT<|zr ?_;obtain rfl := zJ hr;exact ap (.one (.tmp Z))<|⟨rfl, rfl⟩
def w8 (who : Int) (w : Wd) : Option Bool :=
 (sf w.Bad who).bind fun v1 =>
 some v1
theorem Dr {who : Int} {w : Wd} {al : Vw} {wh : Int} {me : Bool} {cl : List Ac} {r_ : Bool} (hr : w8 who w = some r_) : LC Tryz.prog 86 [(iQ who), .ptr 2 0] (hM w al wh me cl 87 86) (Is (bQ r_) (hM w al wh me cl 87 86)) := by
 refine dt Tryz.func86 Z Z Z ?_;unfold w8 at hr;refine zQ<|zR<|zM Z<|zN<|zT<|zQ<|zR<|yS Z (zA Z Z df)<|yS Z (zD Z Z Z eU Z Z)<|zM Z<|zb hr fun v1 h_v1 hr => yS Z (zC Z Z Z (by kernel_rfl) (zp (Cw h_v1) (.cons zv (.cons zv .nil))))<|zM Z<|zN<|zT<|zr ?_;obtain rfl := zJ hr;exact ap (.one (.tmp Z))<|⟨rfl, rfl⟩
def sJ (x : Bk) (w : Wd) (al : Vw) : Option Bool :=
 (w8 x.From w).bind fun v1 =>
 bif v1 then
  some true
 else
  (wZ al.B x).bind fun v2 =>
  some v2
theorem EE {x : Bk} {w : Wd} {al : Vw} {wh : Int} {me : Bool} {cl : List Ac} {r_ : Bool} (hr : sJ x w al = some r_) : LC Tryz.prog 89 [.p (ay x), .ptr 5 0, .ptr 4 0] (hM w al wh me cl 87 86) (Is (bQ r_) (hM w al wh me cl 87 86)) := by
 refine dt Tryz.func89 Z Z Z ?_;unfold sJ at hr;refine zQ<|zR<|yS Z (bV Z Z Z Z Z)<|zM Z<|zN<|zT<|zQ<|zR<|yS Z (zD Z Z Z q9 Z Z)<|yS Z (zA Z Z uX)<|yS Z (zD Z Z Z aX Z Z)<|zb hr fun v1 h_v1 hr => yS Z (zC Z Z Z (by kernel_rfl) (LC.pre (Dr h_v1) Z Z Z))<|zM Z ?_;refine zc 9 Z (fun g1 => ?_)<|fun g1 => ?_
 ·
  refine zi g1 hr fun hr => yU Z (gd g1 Z) Z<|yU Z (gd g1 Z) Z<|yU Z (gd g1 Z) Z<|yU Z (gd g1 Z) Z<|yU Z (gd g1 Z) Z<|yS Z (ca Z (aN g1 Z) Z)<|zM Z<|zN<|zT<|zr ?_;obtain rfl := zJ hr;exact aS (env' := [(4, (bQ true))]) (H' := (hM w al wh me cl 87 86)) (zW 6 ⟨rfl, trivial⟩ Z Z Z Z) (.one (.tmp Z))<|⟨rfl, rfl⟩
 ·
  refine zo g1 hr fun hr => yV Z (gd g1 Z) (zA Z Z pi)<|yV Z (gd g1 Z) (zA Z Z br)<|yV Z (gd g1 Z) (zD Z Z Z dr Z Z)<|yV Z (gd g1 Z) (zD Z Z Z cj Z Z)<|zb hr fun v2 h_v2 hr => yV Z (gd g1 Z) (zC Z Z Z (by kernel_rfl) (zp (FS h_v2) (.cons zv (.cons zv .nil))))<|yS Z (a8 Z (aN g1 Z) Z)<|zM Z<|zN<|zT<|zr ?_;obtain rfl := zJ hr;exact aS (env' := [(4, (bQ v2))]) (H' := (hM w al wh me cl 87 86)) (zW 6 ⟨rfl, trivial⟩ Z Z Z Z) (.one (.tmp Z))<|⟨rfl, rfl⟩
def sK (x : Vt) (w : Wd) (al : Vw) : Option Bool :=
 (w8 x.From w).bind fun v1 =>
 bif v1 then
  some true
 else
  (w0 al.V x).bind fun v2 =>
  some v2
theorem EF {x : Vt} {w : Wd} {al : Vw} {wh : Int} {me : Bool} {cl : List Ac} {r_ : Bool} (hr : sK x w al = some r_) : LC Tryz.prog 92 [.p (aD x), .ptr 5 0, .ptr 4 0] (hM w al wh me cl 87 86) (Is (bQ r_) (hM w al wh me cl 87 86)) := by
 refine dt Tryz.func92 Z Z Z ?_;unfold sK at hr;refine zQ<|zR<|yS Z (bV Z Z Z Z Z)<|zM Z<|zN<|zT<|zQ<|zR<|yS Z (zD Z Z Z q9 Z Z)<|yS Z (zA Z Z pn)<|yS Z (zD Z Z Z aX Z Z)<|zb hr fun v1 h_v1 hr => yS Z (zC Z Z Z (by kernel_rfl) (LC.pre (Dr h_v1) Z Z Z))<|zM Z ?_;refine zc 9 Z (fun g1 => ?_)<|fun g1 => ?_
 ·
  refine zi g1 hr fun hr => yU Z (gd g1 Z) Z<|yU Z (gd g1 Z) Z<|yU Z (gd g1 Z) Z<|yU Z (gd g1 Z) Z<|yU Z (gd g1 Z) Z<|yS Z (ca Z (aN g1 Z) Z)<|zM Z<|zN<|zT<|zr ?_;obtain rfl := zJ hr;exact aS (env' := [(4, (bQ true))]) (H' := (hM w al wh me cl 87 86)) (zW 6 ⟨rfl, trivial⟩ Z Z Z Z) (.one (.tmp Z))<|⟨rfl, rfl⟩
 ·
  refine zo g1 hr fun hr => yV Z (gd g1 Z) (zA Z Z pi)<|yV Z (gd g1 Z) (zA Z Z bG)<|yV Z (gd g1 Z) (zD Z Z Z dP Z Z)<|yV Z (gd g1 Z) (zD Z Z Z co Z Z)<|zb hr fun v2 h_v2 hr => yV Z (gd g1 Z) (zC Z Z Z (by kernel_rfl) (zp (FT h_v2) (.cons zv (.cons zv .nil))))<|yS Z (a8 Z (aN g1 Z) Z)<|zM Z<|zN<|zT<|zr ?_;obtain rfl := zJ hr;exact aS (env' := [(4, (bQ v2))]) (H' := (hM w al wh me cl 87 86)) (zW 6 ⟨rfl, trivial⟩ Z Z Z Z) (.one (.tmp Z))<|⟨rfl, rfl⟩
structure cK where
 t10 : Int
 out : List Bk
def fS (l : List Bk) (w : Wd) (al : Vw) (x1 : cK) : Option (cK ⊕ cK) :=
 bif decide (x1.t10 < (l.length : Int)) then
  (ix l x1.t10).bind fun y1 =>
  (sJ y1 w al).bind fun v2 =>
  bif v2 then
   bif b9 x1.out.length [y1].length 40 then
    some (.inl (cK.mk (IntKind.i64.wrap (x1.t10 + 1)) (x1.out ++ [y1])))
   else none
  else
   some (.inl (cK.mk (IntKind.i64.wrap (x1.t10 + 1)) x1.out))
 else
  some (.inr (cK.mk x1.t10 x1.out))
def oE (l : List Bk) (w : Wd) (al : Vw) : Option (List Bk) :=
 (iter (fS l w al) bH (cK.mk 0 ([] : List Bk))).bind fun v1 =>
 some v1.out
theorem CA {l : List Bk} {w : Wd} {al : Vw} {wh : Int} {me : Bool} {cl : List Ac} {r_ : (List Bk)} (hr : oE l w al = some r_) : LC Tryz.prog 88 [(kB l), .fn 89 [] [.ptr 5 0, .ptr 4 0]] (hM w al wh me cl 87 86) (Is (kB r_) (hM w al wh me cl 87 86)) := by
 refine dt Tryz.func88 Z Z Z ?_;unfold oE at hr;refine zQ<|zR<|zM Z<|zN<|zT<|zQ<|zR<|zM Z<|zN<|zT<|zQ<|zQ<|LW.ent (bJ.lazy (t := 5) (m := 5) Z Z Z)<|zR<|zM Z<|yS Z (cC Z Z (by kernel_rfl))<|zM Z<|zN<|zT ?_;obtain ⟨v1, hb_v1, ho_v1⟩ := zB hr;clear hr;refine LW.tail (E := [(4, .zs), (5, (jB 6 v1.out))]) (O := [.box (fX w), .box rS, .box (fX w), .box (j1 w al wh me cl 87 5 4), .box (j1 w al wh me cl 87 5 4), .box [.fn 86 [] [.ptr 2 0]], .vec 5 (v1.out.map ay)]) ?_<|fun env_v1 H_v1 hw_v1 => ?_
 ·refine LW.block ?_;refine LW.iterB (E := fun x1 : cK => [(1, .fn 89 [] [.ptr 5 0, .ptr 4 0]), (4, .zs), (5, (jB 6 x1.out)), (8, (kB l)), (9, .p (.int .i64 (l.length : Int))), (10, (iQ x1.t10))]) (O := fun x1 => [.box (fX w), .box rS, .box (fX w), .box (j1 w al wh me cl 87 5 4), .box (j1 w al wh me cl 87 5 4), .box [.fn 86 [] [.ptr 2 0]], .vec 5 (x1.out.map ay)]) hb_v1 (zW 7 ⟨rfl, rfl, rfl, rfl, rfl, rfl, trivial⟩ Z Z Z Z)<|fun x1 z_x1 hr hb_x1 => ?_;unfold fS at hr;refine zQ<|zR<|yS Z (ax Z Z Z Z)<|zN<|zT<|zQ ?_;refine zX Z (fun g1 => ?_)<|fun g1 => ?_
  ·
   refine zi g1 hr fun hr => zk<|zT<|zQ<|zl<|zQ<|zR<|zb hr fun y1 h_y1 hr => yS Z (zx Z Z Z dJ h_y1 Z)<|yS Z (cT Z Z Z cj Z Z)<|yS Z (ze Z un Z Z)<|yS Z (zs Z Z Z Z cj Z Z Z Z)<|zN<|zT<|zQ<|zR<|zM Z<|yS Z (zD Z Z Z cj Z Z)<|zb hr fun v2 h_v2 hr => yS Z (zC Z Z Z (by kernel_rfl) (LC.pre (EE h_v2) Z Z Z))<|zN<|zT ?_;refine zX Z (fun g2 => ?_)<|fun g2 => ?_
   ·
    refine zi g2 hr fun hr => zR<|zM Z<|yS Z (zD Z Z Z cj Z Z)<|yS Z (mA Z dJ Z Z Z Z Z)<|zg hr fun q1 hr => yS Z (ab.appendX ay x1.out [y1] rfl Z Z Z kE.p Z dJ q1 Z)<|zM Z<|zN<|ai<|zT<|zR<|yS Z (ax Z Z Z Z)<|zM Z<|zN<|zT ?_;obtain rfl := zJ hr;exact ⟨_, rfl, zW 7 ⟨rfl, rfl, rfl, rfl, rfl, rfl, trivial⟩ Z Z Z rfl⟩
   ·
    refine zo g2 hr fun hr => zk<|ai<|zT<|zR<|yS Z (ax Z Z Z Z)<|zM Z<|zN<|zT ?_;obtain rfl := zJ hr;exact ⟨_, rfl, zW 7 ⟨rfl, rfl, rfl, rfl, rfl, rfl, trivial⟩ Z Z Z rfl⟩
  ·
   refine zo g1 hr fun hr => zq<|ao<|ao<|zy<|zT ?_;obtain rfl := zJ hr;have hr := congrArg some (hb_x1 _ rfl);obtain rfl := zJ hr;exact zW 7 ⟨Z, Z, trivial⟩ Z Z Z Z
 ·have hr := ho_v1;clear hb_v1;refine zT<|LW.weak hw_v1<|zQ<|LW.ent (bJ.frz (t := 5) (env' := []) (H0 := (hM w al wh me cl 87 86)) Z Z Z Z Z trivial Z Z)<|zR<|zM Z<|zM Z<|zN<|zT<|zr ?_;obtain rfl := zJ hr;exact ap (.one (.tmp Z))<|⟨rfl, rfl⟩
structure cL where
 t10 : Int
 out : List Vt
def fT (l : List Vt) (w : Wd) (al : Vw) (x1 : cL) : Option (cL ⊕ cL) :=
 bif decide (x1.t10 < (l.length : Int)) then
  (ix l x1.t10).bind fun y1 =>
  (sK y1 w al).bind fun v2 =>
  bif v2 then
   bif b9 x1.out.length [y1].length 32 then
    some (.inl (cL.mk (IntKind.i64.wrap (x1.t10 + 1)) (x1.out ++ [y1])))
   else none
  else
   some (.inl (cL.mk (IntKind.i64.wrap (x1.t10 + 1)) x1.out))
 else
  some (.inr (cL.mk x1.t10 x1.out))
def oF (l : List Vt) (w : Wd) (al : Vw) : Option (List Vt) :=
 (iter (fT l w al) bH (cL.mk 0 ([] : List Vt))).bind fun v1 =>
 some v1.out
theorem CC {l : List Vt} {w : Wd} {al : Vw} {wh : Int} {me : Bool} {cl : List Ac} {r_ : (List Vt)} (hr : oF l w al = some r_) : LC Tryz.prog 91 [(kV l), .fn 92 [] [.ptr 5 0, .ptr 4 0]] (hM w al wh me cl 87 86) (Is (kV r_) (hM w al wh me cl 87 86)) := by
 refine dt Tryz.func91 Z Z Z ?_;unfold oF at hr;refine zQ<|zR<|zM Z<|zN<|zT<|zQ<|zR<|zM Z<|zN<|zT<|zQ<|zQ<|LW.ent (bJ.lazy (t := 5) (m := 4) Z Z Z)<|zR<|zM Z<|yS Z (cC Z Z (by kernel_rfl))<|zM Z<|zN<|zT ?_;obtain ⟨v1, hb_v1, ho_v1⟩ := zB hr;clear hr;refine LW.tail (E := [(4, .zs), (5, (jV 6 v1.out))]) (O := [.box (fX w), .box rS, .box (fX w), .box (j1 w al wh me cl 87 5 4), .box (j1 w al wh me cl 87 5 4), .box [.fn 86 [] [.ptr 2 0]], .vec 4 (v1.out.map aD)]) ?_<|fun env_v1 H_v1 hw_v1 => ?_
 ·refine LW.block ?_;refine LW.iterB (E := fun x1 : cL => [(1, .fn 92 [] [.ptr 5 0, .ptr 4 0]), (4, .zs), (5, (jV 6 x1.out)), (8, (kV l)), (9, .p (.int .i64 (l.length : Int))), (10, (iQ x1.t10))]) (O := fun x1 => [.box (fX w), .box rS, .box (fX w), .box (j1 w al wh me cl 87 5 4), .box (j1 w al wh me cl 87 5 4), .box [.fn 86 [] [.ptr 2 0]], .vec 4 (x1.out.map aD)]) hb_v1 (zW 7 ⟨rfl, rfl, rfl, rfl, rfl, rfl, trivial⟩ Z Z Z Z)<|fun x1 z_x1 hr hb_x1 => ?_;unfold fT at hr;refine zQ<|zR<|yS Z (ax Z Z Z Z)<|zN<|zT<|zQ ?_;refine zX Z (fun g1 => ?_)<|fun g1 => ?_
  ·
   refine zi g1 hr fun hr => zk<|zT<|zQ<|zl<|zQ<|zR<|zb hr fun y1 h_y1 hr => yS Z (zx Z Z Z cZ h_y1 Z)<|yS Z (cT Z Z Z co Z Z)<|yS Z (ze Z rR Z Z)<|yS Z (zs Z Z Z Z co Z Z Z Z)<|zN<|zT<|zQ<|zR<|zM Z<|yS Z (zD Z Z Z co Z Z)<|zb hr fun v2 h_v2 hr => yS Z (zC Z Z Z (by kernel_rfl) (LC.pre (EF h_v2) Z Z Z))<|zN<|zT ?_;refine zX Z (fun g2 => ?_)<|fun g2 => ?_
   ·
    refine zi g2 hr fun hr => zR<|zM Z<|yS Z (zD Z Z Z co Z Z)<|yS Z (mA Z cZ Z Z Z Z Z)<|zg hr fun q1 hr => yS Z (ab.appendX aD x1.out [y1] rfl Z Z Z kE.p Z cZ q1 Z)<|zM Z<|zN<|ai<|zT<|zR<|yS Z (ax Z Z Z Z)<|zM Z<|zN<|zT ?_;obtain rfl := zJ hr;exact ⟨_, rfl, zW 7 ⟨rfl, rfl, rfl, rfl, rfl, rfl, trivial⟩ Z Z Z rfl⟩
   ·
    refine zo g2 hr fun hr => zk<|ai<|zT<|zR<|yS Z (ax Z Z Z Z)<|zM Z<|zN<|zT ?_;obtain rfl := zJ hr;exact ⟨_, rfl, zW 7 ⟨rfl, rfl, rfl, rfl, rfl, rfl, trivial⟩ Z Z Z rfl⟩
  ·
   refine zo g1 hr fun hr => zq<|ao<|ao<|zy<|zT ?_;obtain rfl := zJ hr;have hr := congrArg some (hb_x1 _ rfl);obtain rfl := zJ hr;exact zW 7 ⟨Z, Z, trivial⟩ Z Z Z Z
 ·have hr := ho_v1;clear hb_v1;refine zT<|LW.weak hw_v1<|zQ<|LW.ent (bJ.frz (t := 5) (env' := []) (H0 := (hM w al wh me cl 87 86)) Z Z Z Z Z trivial Z Z)<|zR<|zM Z<|zM Z<|zN<|zT<|zr ?_;obtain rfl := zJ hr;exact ap (.one (.tmp Z))<|⟨rfl, rfl⟩
def sF (a : Ac) (w : Wd) (al : Vw) : Option Vw :=
 (oE a.B w al).bind fun v1 =>
 (oF a.V w al).bind fun v2 =>
 some (Vw.mk v1 v2)
theorem EA {a : Ac} {w : Wd} {al : Vw} {wh : Int} {me : Bool} {cl : List Ac} {r_ : Vw} (hr : sF a w al = some r_) : LC Tryz.prog 87 [.p (lL a), .ptr 5 0, .ptr 4 0] (hM w al wh me cl 87 86) (Is (.p (kZ r_)) (hM w al wh me cl 87 86)) := by
 refine dt Tryz.func87 Z Z Z ?_;unfold sF at hr;refine zQ<|zR<|yS Z (bV Z Z Z Z Z)<|yS Z (ze Z iS Z Z)<|zN<|zT<|zQ<|LW.drawLast (m := 9) (by kernel_rfl) (by kernel_rfl) (by kernel_rfl)<|yE Z (zA Z Z tk)<|yE Z (zD Z Z Z dr Z Z)<|yE Z (ab.makeFunc Z Z Z)<|zb hr fun v1 h_v1 hr => yE Z (zC Z Z Z (by kernel_rfl) (LC.pre (CA h_v1) Z Z Z))<|yE Z (zA Z Z tm)<|yE Z (zD Z Z Z dP Z Z)<|yE Z (ab.makeFunc Z Z Z)<|zb hr fun v2 h_v2 hr => yE Z (zC Z Z Z (by kernel_rfl) (LC.pre (CC h_v2) Z Z Z))<|yE Z (ab.build Z oP Z Z Z)<|LO.nil<|yS Z (zs Z Z Z Z aK Z Z Z Z)<|zN<|zT<|zr ?_;obtain rfl := zJ hr;exact iC (env' := []) (H' := (hM w al wh me cl 87 86)) (zW 6 trivial Z Z Z Z) (.one (.cellAgg Z Z (by kernel_rfl) Z)) Z<|⟨rfl, rfl⟩
open Go.Proofs
def wb (n : Nd) (w : Vw) : Option Vw :=
 (rY n).bind fun v1 =>
 (zF w v1).bind fun v2 =>
 some v2
theorem Ey {n : Nd} {w : Vw} {r_ : Vw} (hr : wb n w = some r_) : LC Tryz.prog 67 [.p (gW n), .ptr 0 0] [.box (du w)] (Is (.tup []) [.box (du r_)]) := by
 refine dt Tryz.func67 Z Z Z ?_;unfold wb at hr;refine zQ<|zR<|yS Z (bV Z Z Z Z Z)<|zN<|zT<|LW.drawLast (m := 4) (by kernel_rfl) (by kernel_rfl) (by kernel_rfl)<|yE Z (zD Z Z Z aK Z Z)<|yE Z (zD Z Z Z bZ Z Z)<|zb hr fun v1 h_v1 hr => yE Z (zC Z Z Z (by kernel_rfl) (zp (FE h_v1) (.cons zv .nil)))<|zb hr fun v2 h_v2 hr => yE Z (zC Z Z Z (by kernel_rfl) (zp (Eo h_v2) (.cons zv (.cons zv .nil))))<|LO.nil<|yS Z (zs Z Z Z Z aK Z Z Z Z)<|zN ?_;obtain rfl := zJ hr;exact fq (env' := []) (H' := [.box (du v2)]) (zW 1 trivial Z Z Z Z) .none<|⟨rfl, rfl⟩
structure dj where
 t8 : Int
 o0 : Vw
def fQ (l : List Nd) (x1 : dj) : Option (dj ⊕ dj) :=
 bif decide (x1.t8 < (l.length : Int)) then
  (ix l x1.t8).bind fun y1 =>
  (wb y1 x1.o0).bind fun v2 =>
  some (.inl (dj.mk (IntKind.i64.wrap (x1.t8 + 1)) v2))
 else
  some (.inr (dj.mk x1.t8 x1.o0))
def oC (l : List Nd) (w : Vw) : Option Vw :=
 (iter (fQ l) bH (dj.mk 0 w)).bind fun v1 =>
 some v1.o0
theorem Cx {l : List Nd} {w : Vw} {r_ : Vw} (hr : oC l w = some r_) : LC Tryz.prog 55 [.p (.slice 12 (l.map gW)), .fn 67 [] [.ptr 0 0]] [.box (du w)] (Is (.tup []) [.box (du r_)]) := by
 refine dt Tryz.func55 Z Z Z ?_;unfold oC at hr;refine zQ<|zR<|zM Z<|yS Z (cC Z Z (by kernel_rfl))<|zM Z<|zN<|zT ?_;obtain ⟨v1, hb_v1, ho_v1⟩ := zB hr;clear hr;refine LW.tail (E := []) (O := [.box (du v1.o0)]) ?_<|fun env_v1 H_v1 hw_v1 => ?_
 ·refine LW.block ?_;refine LW.iterB (E := fun x1 : dj => [(1, .fn 67 [] [.ptr 0 0]), (6, .p (.slice 12 (l.map gW))), (7, .p (.int .i64 (l.length : Int))), (8, (iQ x1.t8))]) (O := fun x1 => [.box (du x1.o0)]) hb_v1 (zW 1 ⟨rfl, rfl, rfl, rfl, trivial⟩ Z Z Z Z)<|fun x1 z_x1 hr hb_x1 => ?_;unfold fQ at hr;refine zQ<|zR<|yS Z (ax Z Z Z Z)<|zN<|zT<|zQ ?_;refine zX Z (fun g1 => ?_)<|fun g1 => ?_
  ·
   refine zi g1 hr fun hr => zk<|zT<|zQ<|zl<|zQ<|zR<|zb hr fun y1 h_y1 hr => yS Z (zx Z Z Z er h_y1 Z)<|yS Z (cT Z Z Z bZ Z Z)<|yS Z (ze Z nl Z Z)<|yS Z (zs Z Z Z Z bZ Z Z Z Z)<|zN<|zT<|zR<|zM Z<|yS Z (zD Z Z Z bZ Z Z)<|zb hr fun v2 h_v2 hr => yS Z (zC Z Z Z (by kernel_rfl) (LC.pre (Ey h_v2) Z Z Z))<|zN<|ai<|zT<|zR<|yS Z (ax Z Z Z Z) ?_;refine zM Z<|zN<|zT ?_;obtain rfl := zJ hr;exact ⟨_, rfl, zW 1 ⟨rfl, rfl, rfl, rfl, trivial⟩ Z Z Z rfl⟩
  ·
   refine zo g1 hr fun hr => zq<|ao<|ao<|zy<|zT ?_;obtain rfl := zJ hr;have hr := congrArg some (hb_x1 _ rfl);obtain rfl := zJ hr;exact zW 1 trivial Z Z Z Z
 ·have hr := ho_v1;clear hb_v1;obtain rfl := zJ hr;exact fq hw_v1 .none ⟨rfl, rfl⟩
def rV (l : List Nd) : Option Vw :=
 (oC l (Vw.mk [] [])).bind fun v1 =>
 some v1
theorem FC {l : List Nd} {r_ : Vw} (hr : rV l = some r_) : aw Tryz.prog 32 [.slice 12 (l.map gW)] [kZ r_] := by
 refine zh Tryz.func32 Z Z Z Z ?_;unfold rV at hr;refine zQ<|zR<|yS Z (ze Z iS Z Z)<|zN<|zT<|zQ<|LW.ent (bJ.zsCell (i := 0) (j := 0) (m := 5) Z Z Z Z)<|LW.ent (bJ.zsCell (i := 0) (j := 1) (m := 4) Z Z Z Z)<|zR<|zM Z<|yS Z (ab.makeFunc Z Z Z)<|zb hr fun v1 h_v1 hr => yS Z (zC Z Z Z (by kernel_rfl) (Cx h_v1))<|zN<|zT<|zQ<|zR<|yS Z (zD Z Z Z aK Z Z)<|yS Z (zs Z Z Z Z aK Z Z Z Z)<|zN<|zT<|zr ?_;obtain rfl := zJ hr;exact zf (.one (.cellAgg Z Z (by kernel_rfl) Z)) zv
structure E8 where
 t8 : Int
 o2 : List ID
structure Fh where
 t12 : Int
 names : List (ID × Bool)
structure HN where
 t8 : Int
open Go.Proofs
def sI (w : Wd) (l : List Ac) : Option (Vw × Int × Bool × List Ac) :=
 (rV w.N).bind fun v1 =>
 (Cg w.C (IntKind.i64.wrap (w.Tick.tdiv 3))).bind fun v2 =>
 (sf w.Bad v2).bind fun v3 =>
 (oD l w).bind fun v4 =>
 some (v1, v2, v3, v4)
theorem ED {w : Wd} {l : List Ac} {r_ : Vw × Int × Bool × List Ac} (hr : sI w l = some r_) : LC Tryz.prog 51 [.p (ya w), .p (.slice 5 (l.map lL))] [] (Is (.agg (j1 w r_.1 r_.2.1 r_.2.2.1 r_.2.2.2 87 3 2)) [.box (fX w), .box (j1 w r_.1 r_.2.1 r_.2.2.1 r_.2.2.2 87 3 2), .box (j1 w r_.1 r_.2.1 r_.2.2.1 r_.2.2.2 87 3 2), .box [.fn 86 [] [.ptr 0 0]]]) := by
 refine dt Tryz.func51 Z Z Z ?_;unfold sI at hr;refine zQ<|zR<|yS Z (bV Z Z Z Z Z)<|yS Z (ze Z vH Z Z)<|zN<|zT<|zQ<|LW.ent (bJ.slot Z)<|LW.drawW (by kernel_rfl) (by kernel_rfl)<|yF Z (zd Z Z Z bU Z Z) Z ?_;refine yF (F := []) (s := none) Z (fun H _ => zA Z Z bA) Z ?_;refine yF Z (zd Z Z Z cQ Z Z) Z<|zb hr fun v1 h_v1 hr => ?_;refine yF (F := []) (s := none) Z (fun H _ => zC Z Z Z (by kernel_rfl) (zp (FC h_v1) (.cons zv .nil))) Z ?_;refine yF (F := []) (s := none) Z (fun H _ => zA Z Z dA) Z ?_;refine yF Z (zd Z Z Z aX Z Z) Z ?_;refine yF (F := []) (s := none) Z (fun H _ => ab.quo Z Z Z (by decide)) Z ?_;refine yF (F := []) (s := none) Z (fun H _ => ab.build Z Ek Z Z Z) Z ?_;refine yF Z (bE.alloc Z vH (id := 2) Z) Z<|yF Z (zt Z Z Z Z p0 Z Z Z) Z ?_;refine LF.nil ⟨by kernel_rfl, ?_⟩;refine zT<|zQ<|zR<|yS Z (zA Z Z l0)<|yS Z (zD Z Z Z b6 Z Z)<|yS Z (zA Z Z tu)<|yS Z (zD Z Z Z aX Z Z)<|zb hr fun v2 h_v2 hr => yS Z (zC Z Z Z (by kernel_rfl) (zp (HP h_v2) (.cons zv (.cons zv .nil))))<|yS Z (zA Z Z pj)<|yS Z (zs Z Z Z Z aX Z Z Z Z)<|zN<|zT<|zQ<|zR<|yS Z (zA Z Z df)<|yS Z (zD Z Z Z eU Z Z)<|yS Z (zA Z Z pj)<|yS Z (zD Z Z Z aX Z Z)<|zb hr fun v3 h_v3 hr => yS Z (zC Z Z Z (by kernel_rfl) (zp (Cw h_v3) (.cons zv (.cons zv .nil))))<|yS Z (zA Z Z tr)<|yS Z (zs Z Z Z Z vC Z Z Z Z)<|zN ?_;refine zT<|zQ<|zR<|zM Z<|yS Z (ab.makeFunc Z Z Z)<|zb hr fun v4 h_v4 hr => yS Z (zC Z Z Z (by kernel_rfl) (LC.pre (Cz h_v4) Z Z Z))<|yS Z (zA Z Z tv)<|yS Z (zs Z Z Z Z Bv Z Z Z Z)<|zN<|zT<|zQ<|zR<|yS Z (ab.makeFunc Z Z Z)<|yS Z (ze Z HE Z Z)<|yS Z (zs Z Z Z Z q9 Z Z Z Z)<|zN<|zT<|zQ<|zR<|yS Z (ab.makeFunc Z Z Z)<|yS Z (zA Z Z tt)<|yS Z (zs Z Z Z Z BC Z Z Z Z)<|zN ?_;refine zT<|zQ<|zR<|yS Z (zD Z Z Z p0 Z Z)<|yS Z (zs Z Z Z Z p0 Z Z Z Z)<|zN<|zT<|zr ?_;obtain rfl := zJ hr;exact ap (.one (.cellAgg Z Z (by kernel_rfl) Z))<|⟨rfl, rfl⟩
structure e8 where
 t20 : Int
 v_in : Vw
 offers : List Of
def mI (w : Wd) (al : Vw) (wh : Int) (me : Bool) (cl : List Ac) (at_ : Int) (x1 : e8) : Option (e8 ⊕ e8) :=
 bif decide (x1.t20 < (cl.length : Int)) then
  (ix cl x1.t20).bind fun y1 =>
  bif decide (0 ≤ at_) then
   bif (bits .and .i64 (y1.To.fdiv (2 ^ (min (Int.toNat at_) IntKind.i64.bits))) 1) == 0 then
    some (.inl (e8.mk (IntKind.i64.wrap (x1.t20 + 1)) x1.v_in x1.offers))
   else
    (sF y1 w al).bind fun v2 =>
    bif !y1.Offer then
     (zF x1.v_in v2).bind fun v3 =>
     some (.inl (e8.mk (IntKind.i64.wrap (x1.t20 + 1)) v3 x1.offers))
    else
     (
      bif me then
       some (decide ((v2.B.length : Int) > 0))
      else
       some false
     ).bind fun v4 =>
     bif v4 then
      (ix v2.B 0).bind fun y2 =>
      bif Fd v2.B 1 v2.B.length then
       bif b9 x1.offers.length [Of.mk (IntKind.i64.wrap (w.Tick.tdiv 3)) wh y2 (Vw.mk (v2.B.drop (1 : Int).toNat) v2.V)].length 104 then
        some (.inl (e8.mk (IntKind.i64.wrap (x1.t20 + 1)) x1.v_in (x1.offers ++ [Of.mk (IntKind.i64.wrap (w.Tick.tdiv 3)) wh y2 (Vw.mk (v2.B.drop (1 : Int).toNat) v2.V)])))
       else none
      else none
     else
      some (.inl (e8.mk (IntKind.i64.wrap (x1.t20 + 1)) x1.v_in x1.offers))
  else none
 else
  some (.inr (e8.mk x1.t20 x1.v_in x1.offers))
def Fr (w : Wd) (al : Vw) (wh : Int) (me : Bool) (cl : List Ac) (at_ : Int) : Option (Vw × List Of) :=
 bif b9 0 w.O.length 104 then
  (iter (mI w al wh me cl at_) bH (e8.mk 0 al w.O)).bind fun v1 =>
  some (v1.v_in, v1.offers)
 else none
theorem IG {w : Wd} {al : Vw} {wh : Int} {me : Bool} {cl : List Ac} {at_ : Int} {r_ : Vw × List Of} (hr : Fr w al wh me cl at_ = some r_) : LC Tryz.prog 52 [.agg (j1 w al wh me cl 87 5 4), (iQ at_)] (hM w al wh me cl 87 86) (Is (.tup [.p (kZ r_.1), (kO r_.2)]) (hM w al wh me cl 87 86)) := by
 refine dt Tryz.func52 Z Z Z ?_;unfold Fr at hr;refine zQ<|zR<|yS Z (bV Z Z Z Z Z)<|yS Z (ze Z iS Z Z)<|zM Z<|zN<|zT<|zQ<|LW.ent (bJ.slot Z)<|LW.ent (bJ.slot Z)<|LW.drawW (by kernel_rfl) (by kernel_rfl) ?_;refine yF (F := []) (s := none) Z (fun H _ => zA Z Z pi) Z ?_;refine yF Z (zd Z Z Z aK Z Z) Z ?_;refine yF (F := []) (s := none) Z (fun H _ => zA Z Z AI) Z ?_;refine yF (F := []) (s := none) Z (fun H _ => zA Z Z eM) Z ?_;refine yF Z (zd Z Z Z bl Z Z) Z<|zg hr fun q1 hr => ?_;refine yF Z (bE.callV (id := 9) (qs := [(kO w.O)]) Z Z Z (by kernel_rfl) (As q1) (fun H => (.consC zv .nil)) Z) Z ?_;refine yF Z (bE.alloc Z iS (id := 8) Z) Z<|yF Z (zt Z Z Z Z aK Z Z Z) Z<|zK Z ?_;refine LF.nil ⟨by kernel_rfl, ?_⟩;refine zT<|zQ<|zQ<|zR<|yS Z (zA Z Z tv)<|yS Z (zD Z Z Z Bv Z Z)<|yS Z (cC Z Z (by kernel_rfl))<|zM Z<|zN<|zT ?_;obtain ⟨v1, hb_v1, ho_v1⟩ := zB hr;clear hr;refine LW.tail (E := [(4, .ptr 7 0), (5, .zs), (6, .ptr 8 0), (7, (jO 9 v1.offers))]) (O := [.box (fX w), .box rS, .box (fX w), .box (j1 w al wh me cl 87 5 4), .box (j1 w al wh me cl 87 5 4), .box [.fn 86 [] [.ptr 2 0]], .box (j1 w al wh me cl 87 5 4), .box [.zs, .zs], .box (du v1.v_in), .vec 9 (v1.offers.map di)]) ?_<|fun env_v1 H_v1 hw_v1 => ?_
 ·refine LW.block ?_;refine LW.iterB (E := fun x1 : e8 => [(1, (iQ at_)), (2, .ptr 6 0), (4, .ptr 7 0), (5, .zs), (6, .ptr 8 0), (7, (jO 9 x1.offers)), (18, .p (.slice 5 (cl.map lL))), (19, .p (.int .i64 (cl.length : Int))), (20, (iQ x1.t20))]) (O := fun x1 => [.box (fX w), .box rS, .box (fX w), .box (j1 w al wh me cl 87 5 4), .box (j1 w al wh me cl 87 5 4), .box [.fn 86 [] [.ptr 2 0]], .box (j1 w al wh me cl 87 5 4), .box [.zs, .zs], .box (du x1.v_in), .vec 9 (x1.offers.map di)]) hb_v1 (zW 10 ⟨rfl, rfl, rfl, rfl, rfl, rfl, rfl, rfl, rfl, trivial⟩ Z Z Z Z)<|fun x1 z_x1 hr hb_x1 => ?_;unfold mI at hr;refine zQ<|zR<|yS Z (ax Z Z Z Z)<|zN<|zT<|zQ ?_;refine zX Z (fun g1 => ?_)<|fun g1 => ?_
  ·
   refine zi g1 hr fun hr => zk<|zT<|zQ<|zl<|zQ<|zR<|zb hr fun y1 h_y1 hr => yS Z (zx Z Z Z hZ h_y1 Z)<|yS Z (cT Z Z Z jp Z Z)<|yS Z (ze Z BJ Z Z)<|yS Z (zs Z Z Z Z jp Z Z Z Z)<|zN<|zT<|zQ<|zQ<|zR<|yS Z (zA Z Z pg)<|yS Z (zD Z Z Z aX Z Z)<|zM Z<|zg hr fun q2 hr => yS Z (ab.shr Z Z Z (of_decide_eq_true q2))<|yS Z (ax Z Z Z Z)<|yS Z (ax Z Z Z Z) ?_;refine zN<|zT ?_;refine zX Z (fun g2 => ?_)<|fun g2 => ?_
   ·
    refine zi g2 hr fun hr => zq<|ao<|zy<|zT<|zR<|yS Z (ax Z Z Z Z)<|zM Z<|zN<|zT ?_;obtain rfl := zJ hr;exact ⟨_, rfl, zW 10 ⟨rfl, rfl, rfl, rfl, rfl, rfl, rfl, rfl, rfl, trivial⟩ Z Z Z rfl⟩
   ·
    refine zo g2 hr fun hr => zk<|zT<|zQ<|zR<|yS Z (zA Z Z tt)<|yS Z (zD Z Z Z BC Z Z)<|yS Z (zD Z Z Z jp Z Z)<|zb hr fun v2 h_v2 hr => yS Z (zC Z Z Z (by kernel_rfl) (LC.pre (EA h_v2) Z Z Z))<|yS Z (ze Z iS Z Z)<|yS Z (zs Z Z Z Z aK Z Z Z Z)<|zN<|zT<|zl<|zQ<|zR<|yS Z (zA Z Z AE)<|yS Z (zD Z Z Z vC Z Z)<|yS Z (ab.not Z Z)<|zM Z<|zN<|zT ?_;refine zX Z (fun g3 => ?_)<|fun g3 => ?_
    ·
     refine zi g3 hr fun hr => zR<|yS Z (zD Z Z Z aK Z Z)<|yS Z (zD Z Z Z aK Z Z)<|zb hr fun v3 h_v3 hr => yS Z (zC Z Z Z (by kernel_rfl) (zp (Eo h_v3) (.cons zv (.cons zv .nil))))<|yS Z (zs Z Z Z Z aK Z Z Z Z)<|zN<|ai<|ai<|zT<|zR<|yS Z (ax Z Z Z Z)<|zM Z<|zN<|zT ?_;obtain rfl := zJ hr;exact ⟨_, rfl, zW 10 ⟨rfl, rfl, rfl, rfl, rfl, rfl, rfl, rfl, rfl, trivial⟩ Z Z Z rfl⟩
    ·
     have hr := zO g3 hr;obtain ⟨v4, hb_v4, ho_v4⟩ := zB hr;clear hr;refine LW.cut (E := [(1, (iQ at_)), (2, .ptr 6 0), (4, .ptr 7 0), (5, .zs), (6, .ptr 8 0), (7, (jO 9 x1.offers)), (10, .ptr 11 0), (18, .p (.slice 5 (cl.map lL))), (19, .p (.int .i64 (cl.length : Int))), (20, (iQ x1.t20)), (41, (bQ v4))]) (O := [.box (fX w), .box rS, .box (fX w), .box (j1 w al wh me cl 87 5 4), .box (j1 w al wh me cl 87 5 4), .box [.fn 86 [] [.ptr 2 0]], .box (j1 w al wh me cl 87 5 4), .box [.zs, .zs], .box (du x1.v_in), .vec 9 (x1.offers.map di), .box [(iQ y1.Tick), (iQ y1.To), (bQ y1.Offer), (kB y1.B), (kV y1.V)], .box (du v2)]) ?_ ?_
     ·have hr := hb_v4;refine zR<|yS Z (zA Z Z tr)<|yS Z (zD Z Z Z vC Z Z)<|zM Z ?_;refine zc 44 Z (fun g4 => ?_)<|fun g4 => ?_
      ·
       refine zi g4 hr fun hr => yV Z (gd g4 Z) (zA Z Z br)<|yV Z (gd g4 Z) (zD Z Z Z dr Z Z)<|yV Z (gd g4 Z) (cC Z Z (by kernel_rfl))<|yV Z (gd g4 Z) (ax Z Z Z Z)<|yS Z (ca Z (aN g4 Z) Z)<|zM Z<|zN<|zT ?_;obtain rfl := zJ hr;exact zW 12 ⟨Z, Z, Z, Z, Z, Z, Z, Z, Z, Z, Z, trivial⟩ Z Z Z Z
      ·
       refine zo g4 hr fun hr => yU Z (gd g4 Z) Z<|yU Z (gd g4 Z) Z<|yU Z (gd g4 Z) Z<|yU Z (gd g4 Z) Z<|yS Z (a8 Z (aN g4 Z) Z)<|zM Z<|zN<|zT ?_;obtain rfl := zJ hr;exact zW 12 ⟨Z, Z, Z, Z, Z, Z, Z, Z, Z, Z, Z, trivial⟩ Z Z Z Z
     ·have hr := ho_v4;clear hb_v4;refine zX Z (fun g5 => ?_)<|fun g5 => ?_
      ·
       refine zi g5 hr fun hr => LW.drawW (by kernel_rfl) (by kernel_rfl)<|zK Z ?_;refine yF (F := []) (s := none) Z (fun H _ => zA Z Z tu) Z ?_;refine yF Z (zd Z Z Z aX Z Z) Z ?_;refine yF (F := []) (s := none) Z (fun H _ => zA Z Z pj) Z ?_;refine yF Z (zd Z Z Z aX Z Z) Z ?_;refine yF (F := []) (s := none) Z (fun H _ => zA Z Z br) Z ?_;refine yF Z (zd Z Z Z dr Z Z) Z<|zb hr fun y2 h_y2 hr => ?_;refine yF (F := []) (s := none) Z (fun H _ => zx Z Z Z dJ h_y2 Z) Z ?_;refine yF (F := []) (s := none) Z (fun H _ => cT Z Z Z cj Z Z) Z ?_;refine yF (F := []) (s := none) Z (fun H _ => zA Z Z br) Z ?_;refine yF Z (zd Z Z Z dr Z Z) Z<|zg hr fun q3 hr => ?_;refine yF (F := []) (s := none) Z (fun H _ => ab.sliceLo Z Z Z dJ q3) Z ?_;refine yF (F := []) (s := none) Z (fun H _ => zA Z Z bG) Z ?_;refine yF Z (zd Z Z Z dP Z Z) Z ?_;refine yF (F := []) (s := none) Z (fun H _ => ab.build Z oP Z Z Z) Z ?_;refine yF (F := []) (s := none) Z (fun H _ => ab.build Z Al Z Z Z) Z ?_;refine yF (F := []) (s := none) Z (fun H _ => mA Z bv Z Z Z Z Z) Z ?_;refine zg hr fun q4 hr => yF Z (bE.appendX di x1.offers [Of.mk (IntKind.i64.wrap (w.Tick.tdiv 3)) wh y2 (Vw.mk (v2.B.drop (1 : Int).toNat) v2.V)] rfl Z Z Z Z bv q4) Z<|zK Z ?_;refine LF.nil ⟨by kernel_rfl, ?_⟩;refine ai<|ai<|zT<|zR<|yS Z (ax Z Z Z Z)<|zM Z<|zN<|zT ?_;obtain rfl := zJ hr;exact ⟨_, rfl, zW 10 ⟨rfl, rfl, rfl, rfl, rfl, rfl, rfl, rfl, rfl, trivial⟩ Z Z Z rfl⟩
      ·
       refine zo g5 hr fun hr => zk<|ai<|ai<|zT<|zR<|yS Z (ax Z Z Z Z)<|zM Z<|zN<|zT ?_;obtain rfl := zJ hr;exact ⟨_, rfl, zW 10 ⟨rfl, rfl, rfl, rfl, rfl, rfl, rfl, rfl, rfl, trivial⟩ Z Z Z rfl⟩
  ·
   refine zo g1 hr fun hr => zq<|ao<|ao<|zy<|zT ?_;obtain rfl := zJ hr;have hr := congrArg some (hb_x1 _ rfl);obtain rfl := zJ hr;exact zW 10 ⟨Z, Z, Z, Z, trivial⟩ Z Z Z Z
 ·have hr := ho_v1;clear hb_v1;refine zT<|LW.weak hw_v1<|zQ<|LW.ent (bJ.frz (t := 7) (env' := [(4, .ptr 7 0), (6, .ptr 8 0)]) (H0 := [.box (fX w), .box rS, .box (fX w), .box (j1 w al wh me cl 87 5 4), .box (j1 w al wh me cl 87 5 4), .box [.fn 86 [] [.ptr 2 0]], .box (j1 w al wh me cl 87 5 4), .box [.zs, .zs], .box (du v1.v_in)]) Z Z Z Z Z ⟨rfl, rfl, trivial⟩ Z Z)<|zR<|yS Z (zD Z Z Z aK Z Z)<|zM Z<|yS Z (zs Z Z Z Z aK Z Z Z Z)<|zM Z<|zN<|zT<|zr ?_;obtain rfl := zJ hr;exact iC (env' := []) (H' := (hM w al wh me cl 87 86)) (zW 6 trivial Z Z Z Z) (.two (.cellAgg Z Z (by kernel_rfl) Z) (.tmp Z)) Z<|⟨rfl, rfl⟩
structure dT where
 t43 : Int
 o9 : List Nd
 o10 : List Of
def ir (w : Wd) (v4 : Vw × Int × Bool × List Ac) (x1 : dT) : Option (dT ⊕ dT) :=
 bif decide (x1.t43 < (w.N.length : Int)) then
  (Fr w v4.1 v4.2.1 v4.2.2.1 v4.2.2.2 x1.t43).bind fun v6 =>
  (ix w.N x1.t43).bind fun y1 =>
  (il w.C y1 v6.1 v6.2).bind fun v7 =>
  bif b9 x1.o9.length [v7.1].length 176 then
   bif b9 x1.o10.length v7.2.length 104 then
    some (.inl (dT.mk (IntKind.i64.wrap (x1.t43 + 1)) (x1.o9 ++ [v7.1]) (x1.o10 ++ v7.2)))
   else none
  else none
 else
  some (.inr (dT.mk x1.t43 x1.o9 x1.o10))
def ov (w : Wd) (l : List Ac) : Option Wd :=
 (
  (w5 w.C).bind fun v2 =>
  bif !v2 then
   some true
  else
   bif decide (w.Tick < 3) then
    some true
   else
    some (decide (w.Tick ≥ 3145728))
 ).bind fun v1 =>
 bif v1 then
  (nr w).bind fun _ =>
  some w
 else
  (sI w l).bind fun v4 =>
  bif b9 0 w.Bad.length 8 then
   (iter (ir w v4) bH (dT.mk 0 ([] : List Nd) ([] : List Of))).bind fun v5 =>
   some (Wd.mk w.C w.Bad (IntKind.i64.wrap (w.Tick + 1)) v5.o9 v5.o10)
  else none
theorem Ga {w : Wd} {l : List Ac} {r_ : Wd} (hr : ov w l = some r_) : aw Tryz.prog 17 [ya w, .slice 5 (l.map lL)] [ya r_] := by
 refine zh Tryz.func17 Z Z Z Z ?_;unfold ov at hr;refine zQ<|zR<|yS Z (bV Z Z Z Z Z)<|yS Z (ze Z kd Z Z)<|zN<|zT<|zQ ?_;obtain ⟨v1, hb_v1, ho_v1⟩ := zB hr;clear hr;refine LW.cut (E := [(1, .p (.slice 5 (l.map lL))), (2, .ptr 0 0), (4, .ptr 1 0), (25, (bQ v1))]) (O := [.box (fX w), .box rS]) ?_ ?_
 ·have hr := hb_v1;refine zR<|yS Z (zA Z Z l0)<|yS Z (zD Z Z Z b6 Z Z)<|zb hr fun v2 h_v2 hr => yS Z (zC Z Z Z (by kernel_rfl) (zp (En h_v2) (.cons zv .nil)))<|yS Z (ab.not Z Z)<|zM Z ?_;refine zc 16 Z (fun g1 => ?_)<|fun g1 => ?_
  ·
   refine zi g1 hr fun hr => yU Z (gd g1 Z) Z<|yU Z (gd g1 Z) Z<|yU Z (gd g1 Z) Z<|yS Z (ca Z (aN g1 Z) Z)<|zM Z<|yU Z Z Z<|yU Z Z Z<|yU Z Z Z<|yS Z (ca Z Z Z)<|zN<|zT ?_;obtain rfl := zJ hr;exact zW 2 ⟨Z, Z, Z, Z, trivial⟩ Z Z Z Z
  ·
   refine zo g1 hr fun hr => yV Z (gd g1 Z) (zA Z Z dA)<|yV Z (gd g1 Z) (zD Z Z Z aX Z Z)<|yV Z (gd g1 Z) (ax Z Z Z Z)<|yS Z (a8 Z (aN g1 Z) Z)<|zM Z ?_;refine zc 21 Z (fun g2 => ?_)<|fun g2 => ?_
   ·
    refine zi g2 hr fun hr => yU Z (gd g2 Z) Z<|yU Z (gd g2 Z) Z<|yU Z (gd g2 Z) Z<|yS Z (ca Z (aN g2 Z) Z)<|zN<|zT ?_;obtain rfl := zJ hr;exact zW 2 ⟨Z, Z, Z, Z, trivial⟩ Z Z Z Z
   ·
    refine zo g2 hr fun hr => yV Z (gd g2 Z) (zA Z Z dA)<|yV Z (gd g2 Z) (zD Z Z Z aX Z Z)<|yV Z (gd g2 Z) (ax Z Z Z Z)<|yS Z (a8 Z (aN g2 Z) Z)<|zN<|zT ?_;obtain rfl := zJ hr;exact zW 2 ⟨Z, Z, Z, Z, trivial⟩ Z Z Z Z
 ·have hr := ho_v1;clear hb_v1;refine zX Z (fun g3 => ?_)<|fun g3 => ?_
  ·
   refine zi g3 hr fun hr => zQ<|zR<|yS Z (zD Z Z Z bU Z Z)<|zb hr fun v3 h_v3 hr => ?_;obtain rfl := sy h_v3;refine yS Z (zC Z Z Z (by kernel_rfl) (zp (Di h_v3) (.cons zv .nil)))<|yS Z (zs Z Z Z Z bU Z Z Z Z)<|zN<|zT<|zr<|af ?_;obtain rfl := zJ hr;exact zf (.one (.cellAgg Z Z (by kernel_rfl) Z)) zv
  ·
   refine zo g3 hr fun hr => zk<|zT<|zQ<|zR<|yS Z (zD Z Z Z bU Z Z)<|zM Z<|zb hr fun v4 h_v4 hr => yS Z (zC Z Z Z (by kernel_rfl) (LC.frameX (x' := .agg (j1 w v4.1 v4.2.1 v4.2.2.1 v4.2.2.2 87 5 4)) (H' := [.box (fX w), .box rS, .box (fX w), .box (j1 w v4.1 v4.2.1 v4.2.2.1 v4.2.2.2 87 5 4), .box (j1 w v4.1 v4.2.1 v4.2.2.1 v4.2.2.2 87 5 4), .box [.fn 86 [] [.ptr 2 0]]]) (ED h_v4) (.consC zv (.consC zv .nil)) Z (by simp only [List.map_cons, List.map_nil, List.cons_append, List.nil_append, aa.shift, LV.shifts, LV.shift] <;> rfl) (by simp only [List.map_cons, List.map_nil, List.cons_append, List.nil_append, aa.shift, LV.shifts, LV.shift] <;> rfl)))<|yS Z (ze Z vH Z Z)<|yS Z (zs Z Z Z Z p0 Z Z Z Z)<|zN<|zT<|zQ<|LW.ent (bJ.slot Z)<|LW.ent (bJ.slot Z)<|LW.drawW (by kernel_rfl) (by kernel_rfl) ?_;refine yF (F := []) (s := none) Z (fun H _ => zA Z Z l0) Z ?_;refine yF Z (zd Z Z Z b6 Z Z) Z ?_;refine yF (F := []) (s := none) Z (fun H _ => zA Z Z df) Z ?_;refine yF Z (zd Z Z Z eU Z Z) Z<|zg hr fun q1 hr => ?_;refine yF Z (bE.callV (id := 7) (qs := [(kI w.Bad)]) Z Z Z (by kernel_rfl) (uN q1) (fun H => (.consC zv .nil)) Z) Z ?_;refine yF (F := []) (s := none) Z (fun H _ => zA Z Z dA) Z ?_;refine yF Z (zd Z Z Z aX Z Z) Z ?_;refine yF (F := []) (s := none) Z (fun H _ => ax Z Z Z Z) Z ?_;refine yF (F := []) (s := none) Z (fun H _ => ab.build Z Ak Z Z Z) Z ?_;refine yF Z (bE.alloc Z kd (id := 8) Z) Z<|yF Z (zt Z Z Z Z bU Z Z Z) Z ?_;refine LF.nil ⟨by kernel_rfl, ?_⟩;refine zT<|zQ<|zQ<|LW.ent (bJ.lazyCell (i := 8) (j := 7) (m := 12) Z Z Z Z Z Z)<|LW.ent (bJ.lazyCell (i := 8) (j := 8) (m := 9) Z Z Z Z Z Z)<|zR<|yS Z (zA Z Z bA)<|yS Z (zD Z Z Z cQ Z Z)<|yS Z (cC Z Z (by kernel_rfl))<|zM Z<|zN<|zT ?_;obtain ⟨v5, hb_v5, ho_v5⟩ := zB hr;clear hr;refine LW.tail (E := [(4, .ptr 1 0), (6, .ptr 8 0)]) (O := [.box (fX w), .box rS, .box (fX w), .box (j1 w v4.1 v4.2.1 v4.2.2.1 v4.2.2.2 87 5 4), .box (j1 w v4.1 v4.2.1 v4.2.2.1 v4.2.2.2 87 5 4), .box [.fn 86 [] [.ptr 2 0]], .box (j1 w v4.1 v4.2.1 v4.2.2.1 v4.2.2.2 87 5 4), .vec 1 (w.Bad.map aB), .box [(kI w.C.W), (uQ w.C.Seed), (iQ w.C.Epoch), (iQ w.C.Num), (iQ w.C.Den), (jI 7 w.Bad), .p (.int .i64 (IntKind.i64.wrap (w.Tick + 1))), .vec 12 9 (v5.o9.map gW).length 0 (v5.o9.map gW).length, (jO 10 v5.o10)], .vec 12 (v5.o9.map gW), .vec 9 (v5.o10.map di)]) ?_<|fun env_v5 H_v5 hw_v5 => ?_
   ·refine LW.block ?_;refine LW.iterB (E := fun x1 : dT => [(2, .ptr 0 0), (4, .ptr 1 0), (5, .ptr 6 0), (6, .ptr 8 0), (42, .p (.int .i64 (w.N.length : Int))), (43, (iQ x1.t43))]) (O := fun x1 => [.box (fX w), .box rS, .box (fX w), .box (j1 w v4.1 v4.2.1 v4.2.2.1 v4.2.2.2 87 5 4), .box (j1 w v4.1 v4.2.1 v4.2.2.1 v4.2.2.2 87 5 4), .box [.fn 86 [] [.ptr 2 0]], .box (j1 w v4.1 v4.2.1 v4.2.2.1 v4.2.2.2 87 5 4), .vec 1 (w.Bad.map aB), .box [(kI w.C.W), (uQ w.C.Seed), (iQ w.C.Epoch), (iQ w.C.Num), (iQ w.C.Den), (jI 7 w.Bad), .p (.int .i64 (IntKind.i64.wrap (w.Tick + 1))), .vec 12 9 (x1.o9.map gW).length 0 (x1.o9.map gW).length, (jO 10 x1.o10)], .vec 12 (x1.o9.map gW), .vec 9 (x1.o10.map di)]) hb_v5 (zW 11 ⟨rfl, rfl, rfl, rfl, rfl, rfl, trivial⟩ Z Z Z Z)<|fun x1 z_x1 hr hb_x1 => ?_;unfold ir at hr;refine zQ<|zR<|yS Z (ax Z Z Z Z)<|zN<|zT<|zQ ?_;refine zX Z (fun g4 => ?_)<|fun g4 => ?_
    ·
     refine zi g4 hr fun hr => zk<|zT<|zQ<|zl<|zQ<|zR<|zM Z<|zM Z<|zN<|zT<|zQ<|zR<|yS Z (zD Z Z Z p0 Z Z)<|zM Z<|zb hr fun v6 h_v6 hr => yS Z (zC Z Z Z (by kernel_rfl) (LC.pre (IG h_v6) Z Z Z))<|zM Z<|yS Z (fE Z Z Z)<|yS Z (fE Z Z Z)<|yS Z (ze Z iS Z Z)<|yS Z (zs Z Z Z Z aK Z Z Z Z)<|zM Z<|zN ?_;refine zT<|zQ<|LW.ent (bJ.slot Z)<|LW.drawW (by kernel_rfl) (by kernel_rfl) ?_;refine yF (F := []) (s := none) Z (fun H _ => zA Z Z l0) Z ?_;refine yF Z (zd Z Z Z b6 Z Z) Z ?_;refine yF (F := []) (s := none) Z (fun H _ => zA Z Z bA) Z ?_;refine yF Z (zd Z Z Z cQ Z Z) Z<|zK Z<|zb hr fun y1 h_y1 hr => ?_;refine yF (F := []) (s := none) Z (fun H _ => zx Z Z Z er h_y1 Z) Z ?_;refine yF (F := []) (s := none) Z (fun H _ => cT Z Z Z bZ Z Z) Z ?_;refine yF Z (zd Z Z Z aK Z Z) Z<|zK Z<|zb hr fun v7 h_v7 hr => ?_;refine yF (F := []) (s := none) Z (fun H _ => zC Z Z Z (by kernel_rfl) (zp (F0 h_v7) (.cons zv (.cons zv (.cons zv (.cons zv .nil)))))) Z ?_;refine zK Z ?_;refine yF (F := []) (s := none) Z (fun H _ => fE Z Z Z) Z ?_;refine yF (F := []) (s := none) Z (fun H _ => fE Z Z Z) Z ?_;refine yF Z (bE.alloc Z nl (id := 12) Z) Z<|yF Z (zt Z Z Z Z bZ Z Z Z) Z<|zK Z ?_;refine LF.nil ⟨by kernel_rfl, ?_⟩;refine zT<|LW.drawW (by kernel_rfl) (by kernel_rfl) ?_;refine yF (F := []) (s := none) Z (fun H _ => zA Z Z bA) Z ?_;refine yF Z (zd Z Z Z cQ Z Z) Z<|yF Z (zd Z Z Z bZ Z Z) Z ?_;refine yF (F := []) (s := none) Z (fun H _ => mA Z er Z Z Z Z Z) Z ?_;refine zg hr fun q2 hr => yF Z (bE.appendX gW x1.o9 [v7.1] rfl Z Z Z Z er q2) Z ?_;refine yF (F := []) (s := none) Z (fun H _ => zA Z Z eM) Z ?_;refine yF Z (zd Z Z Z bl Z Z) Z<|zK Z<|zg hr fun q3 hr => yF Z (bE.appendX di x1.o10 v7.2 Z Z Z Z Z bv q3) Z ?_;refine yF (F := []) (s := none) Z (fun H _ => zA Z Z bA) Z ?_;refine yF Z (zt Z Z Z Z cQ Z Z Z) Z ?_;refine yF (F := []) (s := none) Z (fun H _ => zA Z Z eM) Z ?_;refine yF Z (zt Z Z Z Z bl Z Z Z) Z ?_;refine LF.nil ⟨by kernel_rfl, ?_⟩;refine ai<|zT<|zR<|yS Z (ax Z Z Z Z)<|zM Z<|zN<|zT ?_;obtain rfl := zJ hr;exact ⟨_, rfl, zW 11 ⟨rfl, rfl, rfl, rfl, rfl, rfl, trivial⟩ Z Z Z rfl⟩
    ·
     refine zo g4 hr fun hr => zq<|ao<|ao<|zy<|zT ?_;obtain rfl := zJ hr;have hr := congrArg some (hb_x1 _ rfl);obtain rfl := zJ hr;exact zW 11 ⟨Z, Z, trivial⟩ Z Z Z Z
   ·have hr := ho_v5;clear hb_v5;refine zT<|LW.weak hw_v5<|zQ<|zR<|yS Z (zD Z Z Z bU Z Z)<|yS Z (zs Z Z Z Z bU Z Z Z Z)<|zN<|zT<|zr ?_;obtain rfl := zJ hr;exact zf (.one (.cellAgg Z Z (by kernel_rfl) Z))<|(Conv.agg (.cons zv (.cons zv (.cons zv (.cons zv (.cons zv (.cons (Conv.vecAll Z Z Z) (.cons zv (.cons (Conv.vecAll Z Z Z) (.cons (Conv.vecAll Z Z Z) .nil))))))))))
open Go.Proofs
structure dw where
 t19 : Int
 o4 : List Nd
def iq (c : Cf) (bad : List Int) (x1 : dw) : Option (dw ⊕ dw) :=
 bif decide (x1.t19 < (c.W.length : Int)) then
  (sf bad x1.t19).bind fun v3 =>
  bif !v3 then
   (vZ x1.t19).bind fun v4 =>
   bif b9 x1.o4.length [v4].length 176 then
    some (.inl (dw.mk (IntKind.i64.wrap (x1.t19 + 1)) (x1.o4 ++ [v4])))
   else none
  else
   some (.inl (dw.mk (IntKind.i64.wrap (x1.t19 + 1)) x1.o4))
 else
  some (.inr (dw.mk x1.t19 x1.o4))
def ou (c : Cf) (bad : List Int) : Option Wd :=
 bif b9 0 bad.length 8 then
  (w5 c).bind fun v1 =>
  bif !v1 then
   some (Wd.mk c bad 0 [] [])
  else
   (iter (iq c bad) bH (dw.mk 0 ([] : List Nd))).bind fun v2 =>
   some (Wd.mk c bad 3 v2.o4 [])
 else none
theorem Dg {c : Cf} {bad : List Int} {r_ : Wd} (hr : ou c bad = some r_) : aw Tryz.prog 16 [kG c, .slice 1 (bad.map aB)] [ya r_] := by
 refine zh Tryz.func16 Z Z Z Z ?_;unfold ou at hr;refine zQ<|zR<|yS Z (bV Z Z Z Z Z)<|yS Z (ze Z kd Z Z)<|zN<|zT<|zQ<|LW.ent (bJ.slot Z)<|LW.ent (bJ.slot Z)<|LW.drawW (by kernel_rfl) (by kernel_rfl)<|yF Z (zd Z Z Z b6 Z Z) Z<|zK Z<|zg hr fun q1 hr => ?_;refine yF Z (bE.callV (id := 2) (qs := [(kI bad)]) Z Z Z (by kernel_rfl) (uN q1) (fun H => (.consC zv .nil)) Z) Z ?_;refine yF (F := []) (s := none) Z (fun H _ => ab.build Z Ak Z Z Z) Z ?_;refine yF Z (bE.alloc Z kd (id := 3) Z) Z<|yF Z (zt Z Z Z Z bU Z Z Z) Z ?_;refine LF.nil ⟨by kernel_rfl, ?_⟩;refine zT<|zQ<|zQ<|zR<|yS Z (zD Z Z Z b6 Z Z)<|zb hr fun v1 h_v1 hr => yS Z (zC Z Z Z (by kernel_rfl) (zp (En h_v1) (.cons zv .nil)))<|yS Z (ab.not Z Z)<|zN<|zT ?_;refine zX Z (fun g1 => ?_)<|fun g1 => ?_
 ·
  refine zi g1 hr fun hr => zQ<|zR<|yS Z (zD Z Z Z bU Z Z)<|yS Z (zs Z Z Z Z bU Z Z Z Z)<|zN<|zT<|zr<|af ?_;obtain rfl := zJ hr;exact zf (.one (.cellAgg Z Z (by kernel_rfl) Z))<|(Conv.agg (.cons zv (.cons zv (.cons zv (.cons zv (.cons zv (.cons (Conv.vecAll Z Z Z) (.cons zv (.cons Conv.zs (.cons Conv.zs .nil))))))))))
 ·
  refine zo g1 hr fun hr => zk<|zT<|zQ<|zR<|yS Z (zA Z Z dA)<|yS Z (zs Z Z Z Z aX Z Z Z Z)<|zN<|zT<|zQ<|zQ<|LW.ent (bJ.lazyCell (i := 3) (j := 7) (m := 12) Z Z Z Z Z Z)<|zR<|yS Z (zA Z Z gp)<|yS Z (zD Z Z Z eU Z Z)<|yS Z (cC Z Z (by kernel_rfl))<|zM Z<|zN<|zT ?_;obtain ⟨v2, hb_v2, ho_v2⟩ := zB hr;clear hr;refine LW.tail (E := [(4, .ptr 1 0), (5, .ptr 3 0)]) (O := [.box (bN c), .box rS, .vec 1 (bad.map aB), .box [(kI c.W), (uQ c.Seed), (iQ c.Epoch), (iQ c.Num), (iQ c.Den), (jI 2 bad), (iQ 3), .vec 12 4 (v2.o4.map gW).length 0 (v2.o4.map gW).length, .zs], .vec 12 (v2.o4.map gW)]) ?_<|fun env_v2 H_v2 hw_v2 => ?_
  ·refine LW.block ?_;refine LW.iterB (E := fun x1 : dw => [(1, (kI bad)), (4, .ptr 1 0), (5, .ptr 3 0), (18, .p (.int .i64 (c.W.length : Int))), (19, (iQ x1.t19))]) (O := fun x1 => [.box (bN c), .box rS, .vec 1 (bad.map aB), .box [(kI c.W), (uQ c.Seed), (iQ c.Epoch), (iQ c.Num), (iQ c.Den), (jI 2 bad), (iQ 3), .vec 12 4 (x1.o4.map gW).length 0 (x1.o4.map gW).length, .zs], .vec 12 (x1.o4.map gW)]) hb_v2 (zW 5 ⟨rfl, rfl, rfl, rfl, rfl, trivial⟩ Z Z Z Z)<|fun x1 z_x1 hr hb_x1 => ?_;unfold iq at hr;refine zQ<|zR<|yS Z (ax Z Z Z Z)<|zN<|zT<|zQ ?_;refine zX Z (fun g2 => ?_)<|fun g2 => ?_
   ·
    refine zi g2 hr fun hr => zk<|zT<|zQ<|zl<|zQ<|zR<|zM Z<|zM Z<|zN<|zT<|zQ<|zR<|zM Z<|zM Z<|zb hr fun v3 h_v3 hr => yS Z (zC Z Z Z (by kernel_rfl) (zp (Cw h_v3) (.cons zv (.cons zv .nil))))<|yS Z (ab.not Z Z)<|zN<|zT ?_;refine zX Z (fun g3 => ?_)<|fun g3 => ?_
    ·
     refine zi g3 hr fun hr => LW.drawW (by kernel_rfl) (by kernel_rfl) ?_;refine yF (F := []) (s := none) Z (fun H _ => zA Z Z bA) Z ?_;refine yF Z (zd Z Z Z cQ Z Z) Z<|zK Z<|zb hr fun v4 h_v4 hr => ?_;refine yF (F := []) (s := none) Z (fun H _ => zC Z Z Z (by kernel_rfl) (zp (F3 h_v4) (.cons zv .nil))) Z ?_;refine yF (F := []) (s := none) Z (fun H _ => mA Z er Z Z Z Z Z) Z ?_;refine zg hr fun q2 hr => yF Z (bE.appendX gW x1.o4 [v4] rfl Z Z Z Z er q2) Z ?_;refine yF (F := []) (s := none) Z (fun H _ => zA Z Z bA) Z ?_;refine yF Z (zt Z Z Z Z cQ Z Z Z) Z ?_;refine LF.nil ⟨by kernel_rfl, ?_⟩;refine ai<|zT<|zR<|yS Z (ax Z Z Z Z)<|zM Z<|zN<|zT ?_;obtain rfl := zJ hr;exact ⟨_, rfl, zW 5 ⟨rfl, rfl, rfl, rfl, rfl, trivial⟩ Z Z Z rfl⟩
    ·
     refine zo g3 hr fun hr => zk<|ai<|zT<|zR<|yS Z (ax Z Z Z Z)<|zM Z<|zN<|zT ?_;obtain rfl := zJ hr;exact ⟨_, rfl, zW 5 ⟨rfl, rfl, rfl, rfl, rfl, trivial⟩ Z Z Z rfl⟩
   ·
    refine zo g2 hr fun hr => zq<|ao<|ao<|zy<|zT ?_;obtain rfl := zJ hr;have hr := congrArg some (hb_x1 _ rfl);obtain rfl := zJ hr;exact zW 5 ⟨Z, Z, trivial⟩ Z Z Z Z
  ·have hr := ho_v2;clear hb_v2;refine zT<|LW.weak hw_v2<|zQ<|zR<|yS Z (zD Z Z Z bU Z Z)<|yS Z (zs Z Z Z Z bU Z Z Z Z)<|zN<|zT<|zr ?_;obtain rfl := zJ hr;exact zf (.one (.cellAgg Z Z (by kernel_rfl) Z))<|(Conv.agg (.cons zv (.cons zv (.cons zv (.cons zv (.cons zv (.cons (Conv.vecAll Z Z Z) (.cons zv (.cons (Conv.vecAll Z Z Z) (.cons Conv.zs .nil))))))))))
structure dU where
 t11 : Int
 w : Wd
def iu (l : List Ac) (ticks : Int) (x1 : dU) : Option (dU ⊕ dU) :=
 bif decide (x1.t11 < (if 300 < ticks then 300 else ticks)) then
  (ov x1.w l).bind fun v3 =>
  some (.inl (dU.mk (IntKind.i64.wrap (x1.t11 + 1)) v3))
 else
  some (.inr (dU.mk x1.t11 x1.w))
def kP (w : Wd) (l : List Ac) (ticks : Int) : Option Wd :=
 (nr w).bind fun _ =>
 (iter (iu l ticks) bH (dU.mk 0 w)).bind fun v2 =>
 some v2.w
theorem Aq {w : Wd} {l : List Ac} {ticks : Int} {r_ : Wd} (hr : kP w l ticks = some r_) : aw Tryz.prog 31 [ya w, .slice 5 (l.map lL), .int .i64 ticks] [ya r_] := by
 refine zh Tryz.func31 Z Z Z Z ?_;unfold kP at hr;refine zQ<|zR<|yS Z (bV Z Z Z Z Z)<|yS Z (ze Z kd Z Z)<|zN<|zT<|zQ<|zR<|yS Z (zD Z Z Z bU Z Z)<|zb hr fun v1 h_v1 hr => ?_;obtain rfl := sy h_v1;refine yS Z (zC Z Z Z (by kernel_rfl) (zp (Di h_v1) (.cons zv .nil)))<|yS Z (zs Z Z Z Z bU Z Z Z Z)<|zN<|zT<|zQ<|zQ<|zR<|zM Z<|yS Z (ab.min Z Z Z)<|zM Z<|zN<|zT ?_;obtain ⟨v2, hb_v2, ho_v2⟩ := zB hr;clear hr;refine LW.tail (E := [(3, .ptr 0 0), (6, .ptr 1 0)]) (O := [.box (fX v2.w), .box rS]) ?_<|fun env_v2 H_v2 hw_v2 => ?_
 ·refine LW.block ?_;refine LW.iterB (E := fun x1 : dU => [(1, .p (.slice 5 (l.map lL))), (3, .ptr 0 0), (6, .ptr 1 0), (10, .p (.int .i64 (if 300 < ticks then 300 else ticks))), (11, (iQ x1.t11))]) (O := fun x1 => [.box (fX x1.w), .box rS]) hb_v2 (zW 2 ⟨rfl, rfl, rfl, rfl, rfl, trivial⟩ Z Z Z Z)<|fun x1 z_x1 hr hb_x1 => ?_;unfold iu at hr;refine zQ<|zR<|yS Z (ax Z Z Z Z)<|zN<|zT<|zQ ?_;refine zX Z (fun g1 => ?_)<|fun g1 => ?_
  ·
   refine zi g1 hr fun hr => zk<|zT<|zQ<|zl<|zR<|yS Z (zD Z Z Z bU Z Z)<|zM Z<|zb hr fun v3 h_v3 hr => yS Z (zC Z Z Z (by kernel_rfl) (zp (Ga h_v3) (.cons zv (.cons zv .nil))))<|yS Z (zs Z Z Z Z bU Z Z Z Z)<|zN<|ai<|zT<|zR<|yS Z (ax Z Z Z Z)<|zM Z<|zN<|zT ?_;obtain rfl := zJ hr;exact ⟨_, rfl, zW 2 ⟨rfl, rfl, rfl, rfl, rfl, trivial⟩ Z Z Z rfl⟩
  ·
   refine zo g1 hr fun hr => zq<|ao<|ao<|zy<|zT ?_;obtain rfl := zJ hr;have hr := congrArg some (hb_x1 _ rfl);obtain rfl := zJ hr;exact zW 2 ⟨Z, Z, trivial⟩ Z Z Z Z
 ·have hr := ho_v2;clear hb_v2;refine zT<|LW.weak hw_v2<|zQ<|zR<|yS Z (zD Z Z Z bU Z Z)<|yS Z (zs Z Z Z Z bU Z Z Z Z)<|zN<|zT<|zr ?_;obtain rfl := zJ hr;exact zf (.one (.cellAgg Z Z (by kernel_rfl) Z)) zv
open Go.Proofs
structure f4 where
 t13 : Int
def su (s1 : List Bk) (s2 : List Bk) (x1 : f4) : Option (f4 ⊕ (f4 ⊕ Bool)) :=
 bif decide (x1.t13 < (s1.length : Int)) then
  (ix s1 x1.t13).bind fun y1 =>
  (ix s2 x1.t13).bind fun y2 =>
  bif !((y1.Slot == y2.Slot) && ((y1.From == y2.From) && ((y1.Parent.1 == y2.Parent.1) && ((y1.Parent.2 == y2.Parent.2) && ((y1.Salt == y2.Salt) && true))))) then
   some (.inr (.inr false))
  else
   some (.inl (f4.mk (IntKind.i64.wrap (x1.t13 + 1))))
 else
  some (.inr (.inl (f4.mk x1.t13)))
def yO (s1 : List Bk) (s2 : List Bk) : Option Bool :=
 bif (s1.length : Int) != (s2.length : Int) then
  some false
 else
  (iter (su s1 s2) bH (f4.mk 0)).bind fun b_v1 => Sum.elim (fun _ =>
   some true) some b_v1
theorem F7 {s1 : List Bk} {s2 : List Bk} {r_ : Bool} (hr : yO s1 s2 = some r_) : aw Tryz.prog 175 [.slice 5 (s1.map ay), .slice 5 (s2.map ay)] [.bool r_] := by
 refine zh Tryz.func175 Z Z Z Z ?_;unfold yO at hr;refine zQ<|zR<|zM Z<|zN<|zT<|zQ<|zQ<|zR<|zM Z<|yS Z (cC Z Z (by kernel_rfl))<|zM Z<|yS Z (cC Z Z (by kernel_rfl))<|yS Z (ax Z Z Z Z)<|zN<|zT ?_;refine zX Z (fun g1 => ?_)<|fun g1 => ?_
 ·
  refine zi g1 hr fun hr => zQ<|zR<|zM Z<|zN<|zT<|zr<|af ?_;obtain rfl := zJ hr;exact zf (.one (.tmp Z)) zv
 ·
  refine zo g1 hr fun hr => zk<|zT<|zQ<|zQ<|zR<|zM Z<|yS Z (cC Z Z (by kernel_rfl))<|zM Z<|zN<|zT ?_;obtain ⟨b_v1, hb_v1, ho_v1⟩ := zB hr;clear hr;refine LW.tailB (b := b_v1) (E := fun v1 => [(4, (bQ false))]) (O := fun v1 => []) ?_<|fun v1 e_v1 env_v1 H_v1 hw_v1 => ?_
  ·refine LW.block ?_;refine LW.iterB (E := fun x1 : f4 => [(0, (kB s1)), (1, (kB s2)), (4, (bQ false)), (12, .p (.int .i64 (s1.length : Int))), (13, (iQ x1.t13))]) (O := fun x1 => []) hb_v1 (zW 0 ⟨rfl, rfl, rfl, rfl, rfl, trivial⟩ Z Z Z Z)<|fun x1 z_x1 hr hb_x1 => ?_;unfold su at hr;refine zQ<|zR<|yS Z (ax Z Z Z Z)<|zN<|zT<|zQ ?_;refine zX Z (fun g2 => ?_)<|fun g2 => ?_
   ·
    refine zi g2 hr fun hr => zk<|zT<|zQ<|zl<|zQ<|zR<|zM Z<|zM Z<|zN<|zT<|zQ<|LW.draw2 (by kernel_rfl) (by kernel_rfl)<|zH Z<|zH Z<|zb hr fun y1 h_y1 hr => yE Z (zx Z Z Z dJ h_y1 Z)<|yE Z (cT Z Z Z cj Z Z)<|zH Z<|zH Z<|zb hr fun y2 h_y2 hr => yE Z (zx Z Z Z dJ h_y2 Z)<|yE Z (cT Z Z Z cj Z Z)<|yE Z (ab.neqAgg Z Z Z Z Z tc) ?_;refine LO.nil<|zT ?_;refine zX Z (fun g3 => ?_)<|fun g3 => ?_
    ·
     refine zi g3 hr fun hr => zQ<|zR<|zM Z<|zN<|zT<|zr<|aq<|af<|af<|aq<|af<|af ?_;obtain rfl := zJ hr;have hr := congrArg some (hb_x1 _ rfl);obtain rfl := zJ hr;have hr := ck ho_v1;obtain rfl := zJ hr;exact zf (.one (.tmp Z)) zv
    ·
     refine zo g3 hr fun hr => zk<|ai<|zT<|zR<|yS Z (ax Z Z Z Z)<|zM Z<|zN<|zT ?_;obtain rfl := zJ hr;exact ⟨_, rfl, zW 0 ⟨rfl, rfl, rfl, rfl, rfl, trivial⟩ Z Z Z rfl⟩
   ·
    refine zo g2 hr fun hr => zq<|ao<|ao<|zy<|zT ?_;obtain rfl := zJ hr;have hr := congrArg some (hb_x1 _ rfl);obtain rfl := zJ hr;exact ⟨_, rfl, zW 0 ⟨rfl, trivial⟩ Z Z Z rfl⟩
  ·obtain rfl := e_v1;have hr := dK ho_v1;clear hb_v1;refine zT<|LW.weak hw_v1<|zQ<|zR<|zM Z<|zN<|zT<|zr ?_;obtain rfl := zJ hr;exact zf (.one (.tmp Z)) zv
structure f8 where
 t13 : Int
def sv (s1 : List Vt) (s2 : List Vt) (x1 : f8) : Option (f8 ⊕ (f8 ⊕ Bool)) :=
 bif decide (x1.t13 < (s1.length : Int)) then
  (ix s1 x1.t13).bind fun y1 =>
  (ix s2 x1.t13).bind fun y2 =>
  bif !((y1.From == y2.From) && ((y1.Slot == y2.Slot) && ((y1.Head.1 == y2.Head.1) && ((y1.Head.2 == y2.Head.2) && true)))) then
   some (.inr (.inr false))
  else
   some (.inl (f8.mk (IntKind.i64.wrap (x1.t13 + 1))))
 else
  some (.inr (.inl (f8.mk x1.t13)))
def yP (s1 : List Vt) (s2 : List Vt) : Option Bool :=
 bif (s1.length : Int) != (s2.length : Int) then
  some false
 else
  (iter (sv s1 s2) bH (f8.mk 0)).bind fun b_v1 => Sum.elim (fun _ =>
   some true) some b_v1
theorem F8 {s1 : List Vt} {s2 : List Vt} {r_ : Bool} (hr : yP s1 s2 = some r_) : aw Tryz.prog 176 [.slice 4 (s1.map aD), .slice 4 (s2.map aD)] [.bool r_] := by
 refine zh Tryz.func176 Z Z Z Z ?_;unfold yP at hr;refine zQ<|zR<|zM Z<|zN<|zT<|zQ<|zQ<|zR<|zM Z<|yS Z (cC Z Z (by kernel_rfl))<|zM Z<|yS Z (cC Z Z (by kernel_rfl))<|yS Z (ax Z Z Z Z)<|zN<|zT ?_;refine zX Z (fun g1 => ?_)<|fun g1 => ?_
 ·
  refine zi g1 hr fun hr => zQ<|zR<|zM Z<|zN<|zT<|zr<|af ?_;obtain rfl := zJ hr;exact zf (.one (.tmp Z)) zv
 ·
  refine zo g1 hr fun hr => zk<|zT<|zQ<|zQ<|zR<|zM Z<|yS Z (cC Z Z (by kernel_rfl))<|zM Z<|zN<|zT ?_;obtain ⟨b_v1, hb_v1, ho_v1⟩ := zB hr;clear hr;refine LW.tailB (b := b_v1) (E := fun v1 => [(4, (bQ false))]) (O := fun v1 => []) ?_<|fun v1 e_v1 env_v1 H_v1 hw_v1 => ?_
  ·refine LW.block ?_;refine LW.iterB (E := fun x1 : f8 => [(0, (kV s1)), (1, (kV s2)), (4, (bQ false)), (12, .p (.int .i64 (s1.length : Int))), (13, (iQ x1.t13))]) (O := fun x1 => []) hb_v1 (zW 0 ⟨rfl, rfl, rfl, rfl, rfl, trivial⟩ Z Z Z Z)<|fun x1 z_x1 hr hb_x1 => ?_;unfold sv at hr;refine zQ<|zR<|yS Z (ax Z Z Z Z)<|zN<|zT<|zQ ?_;refine zX Z (fun g2 => ?_)<|fun g2 => ?_
   ·
    refine zi g2 hr fun hr => zk<|zT<|zQ<|zl<|zQ<|zR<|zM Z<|zM Z<|zN<|zT<|zQ<|LW.draw2 (by kernel_rfl) (by kernel_rfl)<|zH Z<|zH Z<|zb hr fun y1 h_y1 hr => yE Z (zx Z Z Z cZ h_y1 Z)<|yE Z (cT Z Z Z co Z Z)<|zH Z<|zH Z<|zb hr fun y2 h_y2 hr => yE Z (zx Z Z Z cZ h_y2 Z)<|yE Z (cT Z Z Z co Z Z)<|yE Z (ab.neqAgg Z Z Z Z Z AA) ?_;refine LO.nil<|zT ?_;refine zX Z (fun g3 => ?_)<|fun g3 => ?_
    ·
     refine zi g3 hr fun hr => zQ<|zR<|zM Z<|zN<|zT<|zr<|aq<|af<|af<|aq<|af<|af ?_;obtain rfl := zJ hr;have hr := congrArg some (hb_x1 _ rfl);obtain rfl := zJ hr;have hr := ck ho_v1;obtain rfl := zJ hr;exact zf (.one (.tmp Z)) zv
    ·
     refine zo g3 hr fun hr => zk<|ai<|zT<|zR<|yS Z (ax Z Z Z Z)<|zM Z<|zN<|zT ?_;obtain rfl := zJ hr;exact ⟨_, rfl, zW 0 ⟨rfl, rfl, rfl, rfl, rfl, trivial⟩ Z Z Z rfl⟩
   ·
    refine zo g2 hr fun hr => zq<|ao<|ao<|zy<|zT ?_;obtain rfl := zJ hr;have hr := congrArg some (hb_x1 _ rfl);obtain rfl := zJ hr;exact ⟨_, rfl, zW 0 ⟨rfl, trivial⟩ Z Z Z rfl⟩
  ·obtain rfl := e_v1;have hr := dK ho_v1;clear hb_v1;refine zT<|LW.weak hw_v1<|zQ<|zR<|zM Z<|zN<|zT<|zr ?_;obtain rfl := zJ hr;exact zf (.one (.tmp Z)) zv
def sq (a : Vw) (b : Vw) : Option Bool :=
 (yO a.B b.B).bind fun v1 =>
 bif v1 then
  (yP a.V b.V).bind fun v2 =>
  some v2
 else
  some false
theorem Ap {a : Vw} {b : Vw} {r_ : Bool} (hr : sq a b = some r_) : aw Tryz.prog 162 [kZ a, kZ b] [.bool r_] := by
 refine zh Tryz.func162 Z Z Z Z ?_;unfold sq at hr;refine zQ<|zR<|yS Z (bV Z Z Z Z Z)<|yS Z (bV Z Z Z Z Z)<|zM Z<|zN<|zT<|zQ<|zR<|yS Z (zA Z Z br)<|yS Z (zD Z Z Z dr Z Z)<|yS Z (zA Z Z br)<|yS Z (zD Z Z Z dr Z Z)<|zb hr fun v1 h_v1 hr => yS Z (zC Z Z Z (by kernel_rfl) (zp (F7 h_v1) (.cons zv (.cons zv .nil))))<|zM Z ?_;refine zc 10 Z (fun g1 => ?_)<|fun g1 => ?_
 ·
  refine zi g1 hr fun hr => yV Z (gd g1 Z) (zA Z Z bG)<|yV Z (gd g1 Z) (zD Z Z Z dP Z Z)<|yV Z (gd g1 Z) (zA Z Z bG)<|yV Z (gd g1 Z) (zD Z Z Z dP Z Z)<|zb hr fun v2 h_v2 hr => yV Z (gd g1 Z) (zC Z Z Z (by kernel_rfl) (zp (F8 h_v2) (.cons zv (.cons zv .nil))))<|yS Z (ca Z (aN g1 Z) Z)<|zM Z<|zN<|zT<|zr ?_;obtain rfl := zJ hr;exact zf (.one (.tmp Z)) zv
 ·
  refine zo g1 hr fun hr => yU Z (gd g1 Z) Z<|yU Z (gd g1 Z) Z<|yU Z (gd g1 Z) Z<|yU Z (gd g1 Z) Z<|yU Z (gd g1 Z) Z<|yS Z (a8 Z (aN g1 Z) Z)<|zM Z<|zN<|zT<|zr ?_;obtain rfl := zJ hr;exact zf (.one (.tmp Z)) zv
def yM (x : Of) (y : Of) : Option Bool :=
 bif x.Slot == y.Slot then
  bif x.From == y.From then
   bif ((x.B.Slot == y.B.Slot) && ((x.B.From == y.B.From) && ((x.B.Parent.1 == y.B.Parent.1) && ((x.B.Parent.2 == y.B.Parent.2) && ((x.B.Salt == y.B.Salt) && true))))) then
    (sq x.V y.V).bind fun v1 =>
    some v1
   else
    some false
  else
   some false
 else
  some false
theorem F4 {x : Of} {y : Of} {r_ : Bool} (hr : yM x y = some r_) : aw Tryz.prog 161 [di x, di y] [.bool r_] := by
 refine zh Tryz.func161 Z Z Z Z ?_;unfold yM at hr;refine zQ<|zR<|yS Z (bV Z Z Z Z Z)<|yS Z (bV Z Z Z Z Z)<|zM Z<|zN<|zT<|zQ<|zR<|yS Z (zA Z Z jS)<|yS Z (zD Z Z Z aX Z Z)<|yS Z (zA Z Z jS)<|yS Z (zD Z Z Z aX Z Z)<|yS Z (ax Z Z Z Z)<|zM Z ?_;refine zc 10 Z (fun g1 => ?_)<|fun g1 => ?_
 ·
  refine zi g1 hr fun hr => yV Z (gd g1 Z) (zA Z Z jT)<|yV Z (gd g1 Z) (zD Z Z Z aX Z Z)<|yV Z (gd g1 Z) (zA Z Z jT)<|yV Z (gd g1 Z) (zD Z Z Z aX Z Z)<|yV Z (gd g1 Z) (ax Z Z Z Z)<|yS Z (ca Z (aN g1 Z) Z)<|zM Z ?_;refine zc 17 Z (fun g2 => ?_)<|fun g2 => ?_
  ·
   refine zi g2 hr fun hr => yV Z (gd g2 Z) (zA Z Z jU)<|yV Z (gd g2 Z) (zD Z Z Z cj Z Z)<|yV Z (gd g2 Z) (zA Z Z jU)<|yV Z (gd g2 Z) (zD Z Z Z cj Z Z)<|yV Z (gd g2 Z) (ab.eqlAgg Z Z Z Z Z tc)<|yS Z (ca Z (aN g2 Z) Z)<|zM Z ?_;refine zc 24 Z (fun g3 => ?_)<|fun g3 => ?_
   ·
    refine zi g3 hr fun hr => yV Z (gd g3 Z) (zA Z Z eO)<|yV Z (gd g3 Z) (zD Z Z Z aK Z Z)<|yV Z (gd g3 Z) (zA Z Z eO)<|yV Z (gd g3 Z) (zD Z Z Z aK Z Z)<|zb hr fun v1 h_v1 hr => yV Z (gd g3 Z) (zC Z Z Z (by kernel_rfl) (zp (Ap h_v1) (.cons zv (.cons zv .nil))))<|yS Z (ca Z (aN g3 Z) Z)<|zM Z<|zN<|zT<|zr ?_;obtain rfl := zJ hr;exact zf (.one (.tmp Z)) zv
   ·
    refine zo g3 hr fun hr => yU Z (gd g3 Z) Z<|yU Z (gd g3 Z) Z<|yU Z (gd g3 Z) Z<|yU Z (gd g3 Z) Z<|yU Z (gd g3 Z) Z<|yS Z (a8 Z (aN g3 Z) Z)<|zM Z<|zN<|zT<|zr ?_;obtain rfl := zJ hr;exact zf (.one (.tmp Z)) zv
  ·
   refine zo g2 hr fun hr => yU Z (gd g2 Z) Z<|yU Z (gd g2 Z) Z<|yU Z (gd g2 Z) Z<|yU Z (gd g2 Z) Z<|yU Z (gd g2 Z) Z<|yS Z (a8 Z (aN g2 Z) Z)<|zM Z<|yU Z Z Z<|yU Z Z Z<|yU Z Z Z<|yU Z Z Z<|yU Z Z Z<|yS Z (a8 Z Z Z)<|zM Z<|zN<|zT<|zr ?_;obtain rfl := zJ hr;exact zf (.one (.tmp Z)) zv
 ·
  refine zo g1 hr fun hr => yU Z (gd g1 Z) Z<|yU Z (gd g1 Z) Z<|yU Z (gd g1 Z) Z<|yU Z (gd g1 Z) Z<|yU Z (gd g1 Z) Z<|yS Z (a8 Z (aN g1 Z) Z)<|zM Z<|yU Z Z Z<|yU Z Z Z<|yU Z Z Z<|yU Z Z Z<|yU Z Z Z<|yS Z (a8 Z Z Z)<|zM Z<|yU Z Z Z<|yU Z Z Z<|yU Z Z Z<|yU Z Z Z<|yU Z Z Z<|yS Z (a8 Z Z Z)<|zM Z<|zN<|zT ?_;refine LW.ret ?_;obtain rfl := zJ hr;exact zf (.one (.tmp Z)) zv
structure iY where
 t17 : Int
def wd (s1 : List Of) (s2 : List Of) (x1 : iY) : Option (iY ⊕ (iY ⊕ Bool)) :=
 bif decide (x1.t17 < (s1.length : Int)) then
  (ix s1 x1.t17).bind fun y1 =>
  (ix s2 x1.t17).bind fun y2 =>
  (yM y1 y2).bind fun v2 =>
  bif !v2 then
   some (.inr (.inr false))
  else
   some (.inl (iY.mk (IntKind.i64.wrap (x1.t17 + 1))))
 else
  some (.inr (.inl (iY.mk x1.t17)))
def D7 (s1 : List Of) (s2 : List Of) : Option Bool :=
 bif (s1.length : Int) != (s2.length : Int) then
  some false
 else
  (iter (wd s1 s2) bH (iY.mk 0)).bind fun b_v1 => Sum.elim (fun _ =>
   some true) some b_v1
theorem Gw {s1 : List Of} {s2 : List Of} {r_ : Bool} (hr : D7 s1 s2 = some r_) : LC Tryz.prog 160 [(kO s1), (kO s2), .fn 161 [] []] [] (Is (bQ r_) []) := by
 refine dt Tryz.func160 Z Z Z ?_;unfold D7 at hr;refine zQ<|zR<|zM Z<|zN<|zT<|zQ<|zQ<|zR<|zM Z<|yS Z (cC Z Z (by kernel_rfl))<|zM Z<|yS Z (cC Z Z (by kernel_rfl))<|yS Z (ax Z Z Z Z)<|zN<|zT ?_;refine zX Z (fun g1 => ?_)<|fun g1 => ?_
 ·
  refine zi g1 hr fun hr => zQ<|zR<|zM Z<|zN<|zT<|zr<|af ?_;obtain rfl := zJ hr;exact ap (.one (.tmp Z))<|⟨rfl, rfl⟩
 ·
  refine zo g1 hr fun hr => zk<|zT<|zQ<|zQ<|zR<|zM Z<|yS Z (cC Z Z (by kernel_rfl))<|zM Z<|zN<|zT ?_;obtain ⟨b_v1, hb_v1, ho_v1⟩ := zB hr;clear hr;refine LW.tailB (b := b_v1) (E := fun v1 => [(6, (bQ false))]) (O := fun v1 => []) ?_<|fun v1 e_v1 env_v1 H_v1 hw_v1 => ?_
  ·refine LW.block ?_;refine LW.iterB (E := fun x1 : iY => [(1, (kO s2)), (2, .fn 161 [] []), (6, (bQ false)), (15, (kO s1)), (16, .p (.int .i64 (s1.length : Int))), (17, (iQ x1.t17))]) (O := fun x1 => []) hb_v1 (zW 0 ⟨rfl, rfl, rfl, rfl, rfl, rfl, trivial⟩ Z Z Z Z)<|fun x1 z_x1 hr hb_x1 => ?_;unfold wd at hr;refine zQ<|zR<|yS Z (ax Z Z Z Z)<|zN<|zT<|zQ ?_;refine zX Z (fun g2 => ?_)<|fun g2 => ?_
   ·
    refine zi g2 hr fun hr => zk<|zT<|zQ<|zl<|zQ<|zR<|zM Z<|zb hr fun y1 h_y1 hr => yS Z (zx Z Z Z bv h_y1 Z)<|yS Z (cT Z Z Z dO Z Z)<|yS Z (ze Z np Z Z)<|zM Z<|yS Z (zs Z Z Z Z dO Z Z Z Z)<|zN<|zT<|zQ<|zR<|zM Z<|zM Z<|zb hr fun y2 h_y2 hr => yS Z (zx Z Z Z bv h_y2 Z)<|yS Z (cT Z Z Z dO Z Z)<|yS Z (ze Z np Z Z) ?_;refine yS Z (zs Z Z Z Z dO Z Z Z Z)<|zN<|zT<|zQ<|zR<|zM Z<|yS Z (zD Z Z Z dO Z Z)<|yS Z (zD Z Z Z dO Z Z)<|zb hr fun v2 h_v2 hr => yS Z (zC Z Z Z (by kernel_rfl) (zp (F4 h_v2) (.cons zv (.cons zv .nil))))<|yS Z (ab.not Z Z)<|zN<|zT ?_;refine zX Z (fun g3 => ?_)<|fun g3 => ?_
    ·
     refine zi g3 hr fun hr => zQ<|zR<|zM Z<|zN<|zT<|zr<|aq<|af<|af<|aq<|af<|af ?_;obtain rfl := zJ hr;have hr := congrArg some (hb_x1 _ rfl);obtain rfl := zJ hr;have hr := ck ho_v1;obtain rfl := zJ hr;exact aS (env' := [(6, (bQ false))]) (H' := []) (zW 0 ⟨rfl, trivial⟩ Z Z Z Z) (.one (.tmp Z))<|⟨rfl, rfl⟩
    ·
     refine zo g3 hr fun hr => zk<|ai<|zT<|zR<|yS Z (ax Z Z Z Z)<|zM Z<|zN<|zT ?_;obtain rfl := zJ hr;exact ⟨_, rfl, zW 0 ⟨rfl, rfl, rfl, rfl, rfl, rfl, trivial⟩ Z Z Z rfl⟩
   ·
    refine zo g2 hr fun hr => zq<|ao<|ao<|zy<|zT ?_;obtain rfl := zJ hr;have hr := congrArg some (hb_x1 _ rfl);obtain rfl := zJ hr;exact ⟨_, rfl, zW 0 ⟨rfl, trivial⟩ Z Z Z rfl⟩
  ·obtain rfl := e_v1;have hr := dK ho_v1;clear hb_v1;refine zT<|LW.weak hw_v1<|zQ<|zR<|zM Z<|zN<|zT<|zr ?_;obtain rfl := zJ hr;exact ap (.one (.tmp Z))<|⟨rfl, rfl⟩
def vX (a : Nd) (b : Nd) : Option Bool :=
 (D7 a.O b.O).bind fun v1 =>
 bif v1 then
  (sq a.V b.V).bind fun v2 =>
  bif v2 then
   (sq a.In b.In).bind fun v3 =>
   bif v3 then
    bif a.No == b.No then
     bif a.Tick == b.Tick then
      bif ((a.C.ID.1 == b.C.ID.1) && ((a.C.ID.2 == b.C.ID.2) && ((a.C.Slot == b.C.Slot) && ((a.C.Revoked == b.C.Revoked) && true)))) then
       some (a.Full == b.Full)
      else
       some false
     else
      some false
    else
     some false
   else
    some false
  else
   some false
 else
  some false
theorem Dd {a : Nd} {b : Nd} {r_ : Bool} (hr : vX a b = some r_) : aw Tryz.prog 120 [gW a, gW b] [.bool r_] := by
 refine zh Tryz.func120 Z Z Z Z ?_;unfold vX at hr;refine zQ<|zR<|yS Z (bV Z Z Z Z Z)<|yS Z (bV Z Z Z Z Z)<|zM Z<|zN<|zT<|zQ<|zR<|yS Z (zA Z Z bI)<|yS Z (zD Z Z Z bl Z Z)<|yS Z (zA Z Z bI)<|yS Z (zD Z Z Z bl Z Z)<|zb hr fun v1 h_v1 hr => yS Z (zC Z Z Z (by kernel_rfl) (LC.pre (Gw h_v1) Z Z Z))<|zM Z<|zN<|zT<|zQ<|zR<|zM Z<|zM Z ?_;refine zc 12 Z (fun g1 => ?_)<|fun g1 => ?_
 ·
  refine zi g1 hr fun hr => yV Z (gd g1 Z) (zA Z Z bR)<|yV Z (gd g1 Z) (zD Z Z Z aK Z Z)<|yV Z (gd g1 Z) (zA Z Z bR)<|yV Z (gd g1 Z) (zD Z Z Z aK Z Z)<|zb hr fun v2 h_v2 hr => yV Z (gd g1 Z) (zC Z Z Z (by kernel_rfl) (zp (Ap h_v2) (.cons zv (.cons zv .nil))))<|yS Z (ca Z (aN g1 Z) Z)<|zM Z ?_;refine zc 19 Z (fun g2 => ?_)<|fun g2 => ?_
  ·
   refine zi g2 hr fun hr => yV Z (gd g2 Z) (zA Z Z bF)<|yV Z (gd g2 Z) (zD Z Z Z aK Z Z)<|yV Z (gd g2 Z) (zA Z Z bF)<|yV Z (gd g2 Z) (zD Z Z Z aK Z Z)<|zb hr fun v3 h_v3 hr => yV Z (gd g2 Z) (zC Z Z Z (by kernel_rfl) (zp (Ap h_v3) (.cons zv (.cons zv .nil))))<|yS Z (ca Z (aN g2 Z) Z)<|zM Z ?_;refine zc 26 Z (fun g3 => ?_)<|fun g3 => ?_
   ·
    refine zi g3 hr fun hr => yV Z (gd g3 Z) (zA Z Z eN)<|yV Z (gd g3 Z) (zD Z Z Z aX Z Z)<|yV Z (gd g3 Z) (zA Z Z eN)<|yV Z (gd g3 Z) (zD Z Z Z aX Z Z)<|yV Z (gd g3 Z) (ax Z Z Z Z)<|yS Z (ca Z (aN g3 Z) Z)<|zM Z ?_;refine zc 33 Z (fun g4 => ?_)<|fun g4 => ?_
    ·
     refine zi g4 hr fun hr => yV Z (gd g4 Z) (zA Z Z b8)<|yV Z (gd g4 Z) (zD Z Z Z aX Z Z)<|yV Z (gd g4 Z) (zA Z Z b8)<|yV Z (gd g4 Z) (zD Z Z Z aX Z Z)<|yV Z (gd g4 Z) (ax Z Z Z Z)<|yS Z (ca Z (aN g4 Z) Z)<|zM Z ?_;refine zc 40 Z (fun g5 => ?_)<|fun g5 => ?_
     ·
      refine zi g5 hr fun hr => yV Z (gd g5 Z) (zA Z Z gm)<|yV Z (gd g5 Z) (zD Z Z Z gC Z Z)<|yV Z (gd g5 Z) (zA Z Z gm)<|yV Z (gd g5 Z) (zD Z Z Z gC Z Z)<|yV Z (gd g5 Z) (ab.eqlAgg Z Z Z Z Z Dt)<|yS Z (ca Z (aN g5 Z) Z)<|zM Z ?_;refine zc 47 Z (fun g6 => ?_)<|fun g6 => ?_
      ·
       refine zi g6 hr fun hr => yV Z (gd g6 Z) (zA Z Z fx)<|yV Z (gd g6 Z) (zD Z Z Z vC Z Z)<|yV Z (gd g6 Z) (zA Z Z fx)<|yV Z (gd g6 Z) (zD Z Z Z vC Z Z)<|yV Z (gd g6 Z) (ab.eqlBool Z Z Z Tryz.underlying4)<|yS Z (ca Z (aN g6 Z) Z)<|zM Z<|zN<|zT<|zr ?_;obtain rfl := zJ hr;exact zf (.one (.tmp Z)) zv
      ·
       refine zo g6 hr fun hr => yU Z (gd g6 Z) Z<|yU Z (gd g6 Z) Z<|yU Z (gd g6 Z) Z<|yU Z (gd g6 Z) Z<|yU Z (gd g6 Z) Z<|yS Z (a8 Z (aN g6 Z) Z)<|zM Z<|zN<|zT<|zr ?_;obtain rfl := zJ hr;exact zf (.one (.tmp Z)) zv
     ·
      refine zo g5 hr fun hr => yU Z (gd g5 Z) Z<|yU Z (gd g5 Z) Z<|yU Z (gd g5 Z) Z<|yU Z (gd g5 Z) Z<|yU Z (gd g5 Z) Z<|yS Z (a8 Z (aN g5 Z) Z)<|zM Z<|yU Z Z Z<|yU Z Z Z<|yU Z Z Z<|yU Z Z Z<|yU Z Z Z<|yS Z (a8 Z Z Z)<|zM Z<|zN<|zT<|zr ?_;obtain rfl := zJ hr;exact zf (.one (.tmp Z)) zv
    ·
     refine zo g4 hr fun hr => yU Z (gd g4 Z) Z<|yU Z (gd g4 Z) Z<|yU Z (gd g4 Z) Z<|yU Z (gd g4 Z) Z<|yU Z (gd g4 Z) Z<|yS Z (a8 Z (aN g4 Z) Z)<|zM Z<|yU Z Z Z<|yU Z Z Z<|yU Z Z Z<|yU Z Z Z<|yU Z Z Z<|yS Z (a8 Z Z Z)<|zM Z<|yU Z Z Z<|yU Z Z Z<|yU Z Z Z<|yU Z Z Z<|yU Z Z Z<|yS Z (a8 Z Z Z)<|zM Z<|zN<|zT ?_;refine LW.ret ?_;obtain rfl := zJ hr;exact zf (.one (.tmp Z)) zv
   ·
    refine zo g3 hr fun hr => yU Z (gd g3 Z) Z<|yU Z (gd g3 Z) Z<|yU Z (gd g3 Z) Z<|yU Z (gd g3 Z) Z<|yU Z (gd g3 Z) Z<|yS Z (a8 Z (aN g3 Z) Z)<|zM Z<|yU Z Z Z<|yU Z Z Z<|yU Z Z Z<|yU Z Z Z<|yU Z Z Z<|yS Z (a8 Z Z Z)<|zM Z<|yU Z Z Z<|yU Z Z Z<|yU Z Z Z<|yU Z Z Z<|yU Z Z Z<|yS Z (a8 Z Z Z)<|zM Z<|yU Z Z Z<|yU Z Z Z ?_;refine yU Z Z Z<|yU Z Z Z<|yU Z Z Z<|yS Z (a8 Z Z Z)<|zM Z<|zN<|zT<|zr ?_;obtain rfl := zJ hr;exact zf (.one (.tmp Z)) zv
  ·
   refine zo g2 hr fun hr => yU Z (gd g2 Z) Z<|yU Z (gd g2 Z) Z<|yU Z (gd g2 Z) Z<|yU Z (gd g2 Z) Z<|yU Z (gd g2 Z) Z<|yS Z (a8 Z (aN g2 Z) Z)<|zM Z<|yU Z Z Z<|yU Z Z Z<|yU Z Z Z<|yU Z Z Z<|yU Z Z Z<|yS Z (a8 Z Z Z)<|zM Z<|yU Z Z Z<|yU Z Z Z<|yU Z Z Z<|yU Z Z Z<|yU Z Z Z<|yS Z (a8 Z Z Z)<|zM Z<|yU Z Z Z<|yU Z Z Z ?_;refine yU Z Z Z<|yU Z Z Z<|yU Z Z Z<|yS Z (a8 Z Z Z)<|zM Z<|yU Z Z Z<|yU Z Z Z<|yU Z Z Z<|yU Z Z Z<|yU Z Z Z<|yS Z (a8 Z Z Z)<|zM Z<|zN<|zT<|zr ?_;obtain rfl := zJ hr;exact zf (.one (.tmp Z)) zv
 ·
  refine zo g1 hr fun hr => yU Z (gd g1 Z) Z<|yU Z (gd g1 Z) Z<|yU Z (gd g1 Z) Z<|yU Z (gd g1 Z) Z<|yU Z (gd g1 Z) Z<|yS Z (a8 Z (aN g1 Z) Z)<|zM Z<|yU Z Z Z<|yU Z Z Z<|yU Z Z Z<|yU Z Z Z<|yU Z Z Z<|yS Z (a8 Z Z Z)<|zM Z<|yU Z Z Z<|yU Z Z Z<|yU Z Z Z<|yU Z Z Z<|yU Z Z Z<|yS Z (a8 Z Z Z)<|zM Z<|yU Z Z Z<|yU Z Z Z ?_;refine yU Z Z Z<|yU Z Z Z<|yU Z Z Z<|yS Z (a8 Z Z Z)<|zM Z<|yU Z Z Z<|yU Z Z Z<|yU Z Z Z<|yU Z Z Z<|yU Z Z Z<|yS Z (a8 Z Z Z)<|zM Z<|yU Z Z Z<|yU Z Z Z<|yU Z Z Z<|yU Z Z Z<|yU Z Z Z<|yS Z (a8 Z Z Z)<|zM Z<|zN<|zT<|zr ?_;obtain rfl := zJ hr;exact zf (.one (.tmp Z)) zv
end Go.Mg
