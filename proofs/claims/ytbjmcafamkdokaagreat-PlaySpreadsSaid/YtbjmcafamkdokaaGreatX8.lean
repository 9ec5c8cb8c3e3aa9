/- What comes at a tick: closures. Nets. A world behind a tick. A world that begins, and goes on. Are two nodes the same? Conditions: none. -/
import Derived.Test.YtbjmcafamkdokaaGreatX3
import Derived.Test.YtbjmcafamkdokaaGreatX7
import Derived.Test.YtbjmcafamkdokaaGreatX6
import Derived.Test.YtbjmcafamkdokaaGreatX5
set_option maxRecDepth 100000
set_option linter.unusedSimpArgs false
set_option linter.unusedVariables false
namespace Go.Mg
open Go.Proofs
theorem ta {w r_ : Wd} (h : nM w = some r_) : w = r_ := by
 unfold nM at h;obtain ⟨_, h⟩ := zG h;obtain ⟨_, h⟩ := zG h;obtain ⟨_, _, h⟩ := zB h;obtain ⟨_, _, h⟩ := zB h;exact zJ h
def CZ (a : Ac) (w : Wd) : Option Bool :=
 bif a.Tick == w.Tick then
  some (decide (a.To ≥ 0))
 else
  some false
theorem Hk {a : Ac} {w : Wd} {r_ : Bool} (hr : CZ a w = some r_) : LC Tryz.prog 85 [.p (nP a), .ptr 0 0] [.box (fK w)] (Is (bQ r_) [.box (fK w)]) := by
 refine dA Tryz.func85 Z Z Z ?_;unfold CZ at hr;refine zQ<|zR<|yS Z (b6 Z Z Z Z Z)<|zM Z<|zN<|zT<|zQ<|zR<|yS Z (zA Z Z Bh)<|yS Z (zD Z Z Z bl Z Z)<|yS Z (zA Z Z eQ)<|yS Z (zD Z Z Z bl Z Z)<|yS Z (aw Z Z Z Z)<|zM Z ?_;refine zc 9 Z (fun g1 => ?_)<|fun g1 => ?_
 ·
  refine zi g1 hr fun hr => yV Z (gd g1 Z) (zA Z Z tQ)<|yV Z (gd g1 Z) (zD Z Z Z bl Z Z)<|yV Z (gd g1 Z) (aw Z Z Z Z)<|yS Z (cS Z (a8 g1 Z) Z)<|zM Z<|zN<|zT<|zr ?_;obtain rfl := zJ hr;exact aX (env' := [(3, .p (.bool (decide (a.To ≥ 0))))]) (H' := [.box (fK w)]) (zW 1 ⟨rfl, trivial⟩ Z Z Z Z) (.one (.tmp Z))<|⟨rfl, rfl⟩
 ·
  refine zo g1 hr fun hr => yU Z (gd g1 Z) Z<|yU Z (gd g1 Z) Z<|yU Z (gd g1 Z) Z<|yS Z (bN Z (a8 g1 Z) Z)<|zM Z<|zN<|zT<|zr ?_;obtain rfl := zJ hr;exact aX (env' := [(3, (bQ false))]) (H' := [.box (fK w)]) (zW 1 ⟨rfl, trivial⟩ Z Z Z Z) (.one (.tmp Z))<|⟨rfl, rfl⟩
structure cU where
 t10 : Int
 out : List Ac
def fU (l : List Ac) (w : Wd) (x1 : cU) : Option (cU ⊕ cU) :=
 bif decide (x1.t10 < (l.length : Int)) then
  (ix l x1.t10).bind fun y1 =>
  (CZ y1 w).bind fun v2 =>
  bif v2 then
   bif cg x1.out.length [y1].length 72 then
    some (.inl (cU.mk (IntKind.i64.wrap (x1.t10 + 1)) (x1.out ++ [y1])))
   else none
  else
   some (.inl (cU.mk (IntKind.i64.wrap (x1.t10 + 1)) x1.out))
 else
  some (.inr (cU.mk x1.t10 x1.out))
def pb (l : List Ac) (w : Wd) : Option (List Ac) :=
 (iter (fU l w) bG (cU.mk 0 ([] : List Ac))).bind fun v1 =>
 some v1.out
theorem Db {l : List Ac} {w : Wd} {r_ : (List Ac)} (hr : pb l w = some r_) : LC Tryz.prog 84 [.p (.slice 5 (l.map nP)), .fn 85 [] [.ptr 0 0]] [.box (fK w)] (Is (.p (.slice 5 (r_.map nP))) [.box (fK w)]) := by
 refine dA Tryz.func84 Z Z Z ?_;unfold pb at hr;refine zQ<|zR<|zM Z<|zN<|zT<|zQ<|zR<|zM Z<|zN<|zT<|zQ<|zQ<|LW.ent (bP.lazy (t := 5) (m := 5) Z Z Z)<|zR<|zM Z<|yS Z (cP Z Z (by kernel_rfl))<|zM Z<|zN<|zT ?_;obtain ⟨v1, hb_v1, ho_v1⟩ := zB hr;clear hr;refine LW.tail (E := [(4, .zs), (5, .vec 5 1 (v1.out.map nP).length 0 (v1.out.map nP).length)]) (O := [.box (fK w), .vec 5 (v1.out.map nP)]) ?_<|fun env_v1 H_v1 hw_v1 => ?_
 ·refine LW.block ?_;refine LW.iterB (E := fun x1 : cU => [(1, .fn 85 [] [.ptr 0 0]), (4, .zs), (5, .vec 5 1 (x1.out.map nP).length 0 (x1.out.map nP).length), (8, .p (.slice 5 (l.map nP))), (9, .p (.int .i64 (l.length : Int))), (10, (iQ x1.t10))]) (O := fun x1 => [.box (fK w), .vec 5 (x1.out.map nP)]) hb_v1 (zW 2 ⟨rfl, rfl, rfl, rfl, rfl, rfl, trivial⟩ Z Z Z Z)<|fun x1 z_x1 hr hb_x1 => ?_;unfold fU at hr;refine zQ<|zR<|yS Z (aw Z Z Z Z)<|zN<|zT<|zQ ?_;refine zX Z (fun g1 => ?_)<|fun g1 => ?_
  ·
   refine zi g1 hr fun hr => zk<|zT<|zQ<|zl<|zQ<|zR<|zb hr fun y1 h_y1 hr => yS Z (zx Z Z Z nF h_y1 Z)<|yS Z (dj Z Z Z lW Z Z)<|yS Z (ze Z Cn Z Z)<|yS Z (zs Z Z Z Z lW Z Z Z Z)<|zN<|zT<|zQ<|zR<|zM Z<|yS Z (zD Z Z Z lW Z Z)<|zb hr fun v2 h_v2 hr => yS Z (zC Z Z Z (by kernel_rfl) (LC.pre (Hk h_v2) Z Z Z))<|zN<|zT ?_;refine zX Z (fun g2 => ?_)<|fun g2 => ?_
   ·
    refine zi g2 hr fun hr => zR<|zM Z<|yS Z (zD Z Z Z lW Z Z)<|yS Z (lY Z nF Z Z Z Z Z)<|zg hr fun q1 hr => yS Z (ab.appendX nP x1.out [y1] rfl Z Z Z kQ.p Z nF q1 Z)<|zM Z<|zN<|ah<|zT<|zR<|yS Z (aw Z Z Z Z)<|zM Z<|zN<|zT ?_;obtain rfl := zJ hr;exact ⟨_, rfl, zW 2 ⟨rfl, rfl, rfl, rfl, rfl, rfl, trivial⟩ Z Z Z rfl⟩
   ·
    refine zo g2 hr fun hr => zk<|ah<|zT<|zR<|yS Z (aw Z Z Z Z)<|zM Z<|zN<|zT ?_;obtain rfl := zJ hr;exact ⟨_, rfl, zW 2 ⟨rfl, rfl, rfl, rfl, rfl, rfl, trivial⟩ Z Z Z rfl⟩
  ·
   refine zo g1 hr fun hr => zq<|ao<|ao<|zy<|zT ?_;obtain rfl := zJ hr;have hr := congrArg some (hb_x1 _ rfl);obtain rfl := zJ hr;exact zW 2 ⟨Z, Z, trivial⟩ Z Z Z Z
 ·have hr := ho_v1;clear hb_v1;refine zT<|LW.weak hw_v1<|zQ<|LW.ent (bP.frz (t := 5) (env' := []) (H0 := [.box (fK w)]) Z Z Z Z Z trivial Z Z)<|zR<|zM Z<|zM Z<|zN<|zT<|zr ?_;obtain rfl := zJ hr;exact ap (.one (.tmp Z))<|⟨rfl, rfl⟩
def xP (who : Int) (w : Wd) : Option Bool :=
 (sN w.Bad who).bind fun v1 =>
 some v1
theorem D5 {who : Int} {w : Wd} {al : Vw} {wh : Int} {me : Bool} {cl : List Ac} {r_ : Bool} (hr : xP who w = some r_) : LC Tryz.prog 86 [(iQ who), .ptr 2 0] (hM w al wh me cl 87 86) (Is (bQ r_) (hM w al wh me cl 87 86)) := by
 refine dA Tryz.func86 Z Z Z ?_;unfold xP at hr;refine zQ<|zR<|zM Z<|zN<|zT<|zQ<|zR<|yS Z (zA Z Z gm)<|yS Z (zD Z Z Z gG Z Z)<|zM Z<|zb hr fun v1 h_v1 hr => yS Z (zC Z Z Z (by kernel_rfl) (zp (C8 h_v1) (.cons zv (.cons zv .nil))))<|zM Z<|zN<|zT<|zr ?_;obtain rfl := zJ hr;exact ap (.one (.tmp Z))<|⟨rfl, rfl⟩
def tk (x : Bk) (w : Wd) (al : Vw) : Option Bool :=
 (xP x.From w).bind fun v1 =>
 bif v1 then
  some true
 else
  (xI al.B x).bind fun v2 =>
  some v2
theorem Fh {x : Bk} {w : Wd} {al : Vw} {wh : Int} {me : Bool} {cl : List Ac} {r_ : Bool} (hr : tk x w al = some r_) : LC Tryz.prog 89 [.p (au x), .ptr 5 0, .ptr 4 0] (hM w al wh me cl 87 86) (Is (bQ r_) (hM w al wh me cl 87 86)) := by
 refine dA Tryz.func89 Z Z Z ?_;unfold tk at hr;refine zQ<|zR<|yS Z (b6 Z Z Z Z Z)<|zM Z<|zN<|zT<|zQ<|zR<|yS Z (zD Z Z Z rJ Z Z)<|yS Z (zA Z Z vF)<|yS Z (zD Z Z Z bl Z Z)<|zb hr fun v1 h_v1 hr => yS Z (zC Z Z Z (by kernel_rfl) (LC.pre (D5 h_v1) Z Z Z))<|zM Z ?_;refine zc 9 Z (fun g1 => ?_)<|fun g1 => ?_
 ·
  refine zi g1 hr fun hr => yU Z (gd g1 Z) Z<|yU Z (gd g1 Z) Z<|yU Z (gd g1 Z) Z<|yU Z (gd g1 Z) Z<|yU Z (gd g1 Z) Z<|yS Z (cS Z (a8 g1 Z) Z)<|zM Z<|zN<|zT<|zr ?_;obtain rfl := zJ hr;exact aX (env' := [(4, (bQ true))]) (H' := (hM w al wh me cl 87 86)) (zW 6 ⟨rfl, trivial⟩ Z Z Z Z) (.one (.tmp Z))<|⟨rfl, rfl⟩
 ·
  refine zo g1 hr fun hr => yV Z (gd g1 Z) (zA Z Z pK)<|yV Z (gd g1 Z) (zA Z Z aL)<|yV Z (gd g1 Z) (zD Z Z Z ch Z Z)<|yV Z (gd g1 Z) (zD Z Z Z bY Z Z)<|zb hr fun v2 h_v2 hr => yV Z (gd g1 Z) (zC Z Z Z (by kernel_rfl) (zp (GA h_v2) (.cons zv (.cons zv .nil))))<|yS Z (bN Z (a8 g1 Z) Z)<|zM Z<|zN<|zT<|zr ?_;obtain rfl := zJ hr;exact aX (env' := [(4, (bQ v2))]) (H' := (hM w al wh me cl 87 86)) (zW 6 ⟨rfl, trivial⟩ Z Z Z Z) (.one (.tmp Z))<|⟨rfl, rfl⟩
def tm (x : Vt) (w : Wd) (al : Vw) : Option Bool :=
 (xP x.From w).bind fun v1 =>
 bif v1 then
  some true
 else
  (xJ al.V x).bind fun v2 =>
  some v2
theorem Fi {x : Vt} {w : Wd} {al : Vw} {wh : Int} {me : Bool} {cl : List Ac} {r_ : Bool} (hr : tm x w al = some r_) : LC Tryz.prog 92 [.p (aD x), .ptr 5 0, .ptr 4 0] (hM w al wh me cl 87 86) (Is (bQ r_) (hM w al wh me cl 87 86)) := by
 refine dA Tryz.func92 Z Z Z ?_;unfold tm at hr;refine zQ<|zR<|yS Z (b6 Z Z Z Z Z)<|zM Z<|zN<|zT<|zQ<|zR<|yS Z (zD Z Z Z rJ Z Z)<|yS Z (zA Z Z pO)<|yS Z (zD Z Z Z bl Z Z)<|zb hr fun v1 h_v1 hr => yS Z (zC Z Z Z (by kernel_rfl) (LC.pre (D5 h_v1) Z Z Z))<|zM Z ?_;refine zc 9 Z (fun g1 => ?_)<|fun g1 => ?_
 ·
  refine zi g1 hr fun hr => yU Z (gd g1 Z) Z<|yU Z (gd g1 Z) Z<|yU Z (gd g1 Z) Z<|yU Z (gd g1 Z) Z<|yU Z (gd g1 Z) Z<|yS Z (cS Z (a8 g1 Z) Z)<|zM Z<|zN<|zT<|zr ?_;obtain rfl := zJ hr;exact aX (env' := [(4, (bQ true))]) (H' := (hM w al wh me cl 87 86)) (zW 6 ⟨rfl, trivial⟩ Z Z Z Z) (.one (.tmp Z))<|⟨rfl, rfl⟩
 ·
  refine zo g1 hr fun hr => yV Z (gd g1 Z) (zA Z Z pK)<|yV Z (gd g1 Z) (zA Z Z a7)<|yV Z (gd g1 Z) (zD Z Z Z dc Z Z)<|yV Z (gd g1 Z) (zD Z Z Z bZ Z Z)<|zb hr fun v2 h_v2 hr => yV Z (gd g1 Z) (zC Z Z Z (by kernel_rfl) (zp (GB h_v2) (.cons zv (.cons zv .nil))))<|yS Z (bN Z (a8 g1 Z) Z)<|zM Z<|zN<|zT<|zr ?_;obtain rfl := zJ hr;exact aX (env' := [(4, (bQ v2))]) (H' := (hM w al wh me cl 87 86)) (zW 6 ⟨rfl, trivial⟩ Z Z Z Z) (.one (.tmp Z))<|⟨rfl, rfl⟩
structure cV where
 t10 : Int
 out : List Bk
def fV (l : List Bk) (w : Wd) (al : Vw) (x1 : cV) : Option (cV ⊕ cV) :=
 bif decide (x1.t10 < (l.length : Int)) then
  (ix l x1.t10).bind fun y1 =>
  (tk y1 w al).bind fun v2 =>
  bif v2 then
   bif cg x1.out.length [y1].length 40 then
    some (.inl (cV.mk (IntKind.i64.wrap (x1.t10 + 1)) (x1.out ++ [y1])))
   else none
  else
   some (.inl (cV.mk (IntKind.i64.wrap (x1.t10 + 1)) x1.out))
 else
  some (.inr (cV.mk x1.t10 x1.out))
def pc (l : List Bk) (w : Wd) (al : Vw) : Option (List Bk) :=
 (iter (fV l w al) bG (cV.mk 0 ([] : List Bk))).bind fun v1 =>
 some v1.out
theorem Dc {l : List Bk} {w : Wd} {al : Vw} {wh : Int} {me : Bool} {cl : List Ac} {r_ : (List Bk)} (hr : pc l w al = some r_) : LC Tryz.prog 88 [(kB l), .fn 89 [] [.ptr 5 0, .ptr 4 0]] (hM w al wh me cl 87 86) (Is (kB r_) (hM w al wh me cl 87 86)) := by
 refine dA Tryz.func88 Z Z Z ?_;unfold pc at hr;refine zQ<|zR<|zM Z<|zN<|zT<|zQ<|zR<|zM Z<|zN<|zT<|zQ<|zQ<|LW.ent (bP.lazy (t := 5) (m := 5) Z Z Z)<|zR<|zM Z<|yS Z (cP Z Z (by kernel_rfl))<|zM Z<|zN<|zT ?_;obtain ⟨v1, hb_v1, ho_v1⟩ := zB hr;clear hr;refine LW.tail (E := [(4, .zs), (5, (jB 6 v1.out))]) (O := [.box (fK w), .box sB, .box (fK w), .box (j9 w al wh me cl 87 5 4), .box (j9 w al wh me cl 87 5 4), .box [.fn 86 [] [.ptr 2 0]], .vec 5 (v1.out.map au)]) ?_<|fun env_v1 H_v1 hw_v1 => ?_
 ·refine LW.block ?_;refine LW.iterB (E := fun x1 : cV => [(1, .fn 89 [] [.ptr 5 0, .ptr 4 0]), (4, .zs), (5, (jB 6 x1.out)), (8, (kB l)), (9, .p (.int .i64 (l.length : Int))), (10, (iQ x1.t10))]) (O := fun x1 => [.box (fK w), .box sB, .box (fK w), .box (j9 w al wh me cl 87 5 4), .box (j9 w al wh me cl 87 5 4), .box [.fn 86 [] [.ptr 2 0]], .vec 5 (x1.out.map au)]) hb_v1 (zW 7 ⟨rfl, rfl, rfl, rfl, rfl, rfl, trivial⟩ Z Z Z Z)<|fun x1 z_x1 hr hb_x1 => ?_;unfold fV at hr;refine zQ<|zR<|yS Z (aw Z Z Z Z)<|zN<|zT<|zQ ?_;refine zX Z (fun g1 => ?_)<|fun g1 => ?_
  ·
   refine zi g1 hr fun hr => zk<|zT<|zQ<|zl<|zQ<|zR<|zb hr fun y1 h_y1 hr => yS Z (zx Z Z Z cR h_y1 Z)<|yS Z (dj Z Z Z bY Z Z)<|yS Z (ze Z qJ Z Z)<|yS Z (zs Z Z Z Z bY Z Z Z Z)<|zN<|zT<|zQ<|zR<|zM Z<|yS Z (zD Z Z Z bY Z Z)<|zb hr fun v2 h_v2 hr => yS Z (zC Z Z Z (by kernel_rfl) (LC.pre (Fh h_v2) Z Z Z))<|zN<|zT ?_;refine zX Z (fun g2 => ?_)<|fun g2 => ?_
   ·
    refine zi g2 hr fun hr => zR<|zM Z<|yS Z (zD Z Z Z bY Z Z)<|yS Z (lY Z cR Z Z Z Z Z)<|zg hr fun q1 hr => yS Z (ab.appendX au x1.out [y1] rfl Z Z Z kQ.p Z cR q1 Z)<|zM Z<|zN<|ah<|zT<|zR<|yS Z (aw Z Z Z Z)<|zM Z<|zN<|zT ?_;obtain rfl := zJ hr;exact ⟨_, rfl, zW 7 ⟨rfl, rfl, rfl, rfl, rfl, rfl, trivial⟩ Z Z Z rfl⟩
   ·
    refine zo g2 hr fun hr => zk<|ah<|zT<|zR<|yS Z (aw Z Z Z Z)<|zM Z<|zN<|zT ?_;obtain rfl := zJ hr;exact ⟨_, rfl, zW 7 ⟨rfl, rfl, rfl, rfl, rfl, rfl, trivial⟩ Z Z Z rfl⟩
  ·
   refine zo g1 hr fun hr => zq<|ao<|ao<|zy<|zT ?_;obtain rfl := zJ hr;have hr := congrArg some (hb_x1 _ rfl);obtain rfl := zJ hr;exact zW 7 ⟨Z, Z, trivial⟩ Z Z Z Z
 ·have hr := ho_v1;clear hb_v1;refine zT<|LW.weak hw_v1<|zQ<|LW.ent (bP.frz (t := 5) (env' := []) (H0 := (hM w al wh me cl 87 86)) Z Z Z Z Z trivial Z Z)<|zR<|zM Z<|zM Z<|zN<|zT<|zr ?_;obtain rfl := zJ hr;exact ap (.one (.tmp Z))<|⟨rfl, rfl⟩
structure cW where
 t10 : Int
 out : List Vt
def fW (l : List Vt) (w : Wd) (al : Vw) (x1 : cW) : Option (cW ⊕ cW) :=
 bif decide (x1.t10 < (l.length : Int)) then
  (ix l x1.t10).bind fun y1 =>
  (tm y1 w al).bind fun v2 =>
  bif v2 then
   bif cg x1.out.length [y1].length 32 then
    some (.inl (cW.mk (IntKind.i64.wrap (x1.t10 + 1)) (x1.out ++ [y1])))
   else none
  else
   some (.inl (cW.mk (IntKind.i64.wrap (x1.t10 + 1)) x1.out))
 else
  some (.inr (cW.mk x1.t10 x1.out))
def pd (l : List Vt) (w : Wd) (al : Vw) : Option (List Vt) :=
 (iter (fW l w al) bG (cW.mk 0 ([] : List Vt))).bind fun v1 =>
 some v1.out
theorem Dd {l : List Vt} {w : Wd} {al : Vw} {wh : Int} {me : Bool} {cl : List Ac} {r_ : (List Vt)} (hr : pd l w al = some r_) : LC Tryz.prog 91 [(kV l), .fn 92 [] [.ptr 5 0, .ptr 4 0]] (hM w al wh me cl 87 86) (Is (kV r_) (hM w al wh me cl 87 86)) := by
 refine dA Tryz.func91 Z Z Z ?_;unfold pd at hr;refine zQ<|zR<|zM Z<|zN<|zT<|zQ<|zR<|zM Z<|zN<|zT<|zQ<|zQ<|LW.ent (bP.lazy (t := 5) (m := 4) Z Z Z)<|zR<|zM Z<|yS Z (cP Z Z (by kernel_rfl))<|zM Z<|zN<|zT ?_;obtain ⟨v1, hb_v1, ho_v1⟩ := zB hr;clear hr;refine LW.tail (E := [(4, .zs), (5, (jV 6 v1.out))]) (O := [.box (fK w), .box sB, .box (fK w), .box (j9 w al wh me cl 87 5 4), .box (j9 w al wh me cl 87 5 4), .box [.fn 86 [] [.ptr 2 0]], .vec 4 (v1.out.map aD)]) ?_<|fun env_v1 H_v1 hw_v1 => ?_
 ·refine LW.block ?_;refine LW.iterB (E := fun x1 : cW => [(1, .fn 92 [] [.ptr 5 0, .ptr 4 0]), (4, .zs), (5, (jV 6 x1.out)), (8, (kV l)), (9, .p (.int .i64 (l.length : Int))), (10, (iQ x1.t10))]) (O := fun x1 => [.box (fK w), .box sB, .box (fK w), .box (j9 w al wh me cl 87 5 4), .box (j9 w al wh me cl 87 5 4), .box [.fn 86 [] [.ptr 2 0]], .vec 4 (x1.out.map aD)]) hb_v1 (zW 7 ⟨rfl, rfl, rfl, rfl, rfl, rfl, trivial⟩ Z Z Z Z)<|fun x1 z_x1 hr hb_x1 => ?_;unfold fW at hr;refine zQ<|zR<|yS Z (aw Z Z Z Z)<|zN<|zT<|zQ ?_;refine zX Z (fun g1 => ?_)<|fun g1 => ?_
  ·
   refine zi g1 hr fun hr => zk<|zT<|zQ<|zl<|zQ<|zR<|zb hr fun y1 h_y1 hr => yS Z (zx Z Z Z cF h_y1 Z)<|yS Z (dj Z Z Z bZ Z Z)<|yS Z (ze Z qK Z Z)<|yS Z (zs Z Z Z Z bZ Z Z Z Z)<|zN<|zT<|zQ<|zR<|zM Z<|yS Z (zD Z Z Z bZ Z Z)<|zb hr fun v2 h_v2 hr => yS Z (zC Z Z Z (by kernel_rfl) (LC.pre (Fi h_v2) Z Z Z))<|zN<|zT ?_;refine zX Z (fun g2 => ?_)<|fun g2 => ?_
   ·
    refine zi g2 hr fun hr => zR<|zM Z<|yS Z (zD Z Z Z bZ Z Z)<|yS Z (lY Z cF Z Z Z Z Z)<|zg hr fun q1 hr => yS Z (ab.appendX aD x1.out [y1] rfl Z Z Z kQ.p Z cF q1 Z)<|zM Z<|zN<|ah<|zT<|zR<|yS Z (aw Z Z Z Z)<|zM Z<|zN<|zT ?_;obtain rfl := zJ hr;exact ⟨_, rfl, zW 7 ⟨rfl, rfl, rfl, rfl, rfl, rfl, trivial⟩ Z Z Z rfl⟩
   ·
    refine zo g2 hr fun hr => zk<|ah<|zT<|zR<|yS Z (aw Z Z Z Z)<|zM Z<|zN<|zT ?_;obtain rfl := zJ hr;exact ⟨_, rfl, zW 7 ⟨rfl, rfl, rfl, rfl, rfl, rfl, trivial⟩ Z Z Z rfl⟩
  ·
   refine zo g1 hr fun hr => zq<|ao<|ao<|zy<|zT ?_;obtain rfl := zJ hr;have hr := congrArg some (hb_x1 _ rfl);obtain rfl := zJ hr;exact zW 7 ⟨Z, Z, trivial⟩ Z Z Z Z
 ·have hr := ho_v1;clear hb_v1;refine zT<|LW.weak hw_v1<|zQ<|LW.ent (bP.frz (t := 5) (env' := []) (H0 := (hM w al wh me cl 87 86)) Z Z Z Z Z trivial Z Z)<|zR<|zM Z<|zM Z<|zN<|zT<|zr ?_;obtain rfl := zJ hr;exact ap (.one (.tmp Z))<|⟨rfl, rfl⟩
def tg (a : Ac) (w : Wd) (al : Vw) : Option Vw :=
 (pc a.B w al).bind fun v1 =>
 (pd a.V w al).bind fun v2 =>
 some (Vw.mk v1 v2)
theorem Fd {a : Ac} {w : Wd} {al : Vw} {wh : Int} {me : Bool} {cl : List Ac} {r_ : Vw} (hr : tg a w al = some r_) : LC Tryz.prog 87 [.p (nP a), .ptr 5 0, .ptr 4 0] (hM w al wh me cl 87 86) (Is (.p (k7 r_)) (hM w al wh me cl 87 86)) := by
 refine dA Tryz.func87 Z Z Z ?_;unfold tg at hr;refine zQ<|zR<|yS Z (b6 Z Z Z Z Z)<|yS Z (ze Z fS Z Z)<|zN<|zT<|zQ<|LW.drawLast (m := 9) (by kernel_rfl) (by kernel_rfl) (by kernel_rfl)<|yE Z (zA Z Z tR)<|yE Z (zD Z Z Z ch Z Z)<|yE Z (ab.makeFunc Z Z Z)<|zb hr fun v1 h_v1 hr => yE Z (zC Z Z Z (by kernel_rfl) (LC.pre (Dc h_v1) Z Z Z))<|yE Z (zA Z Z tS)<|yE Z (zD Z Z Z dc Z Z)<|yE Z (ab.makeFunc Z Z Z)<|zb hr fun v2 h_v2 hr => yE Z (zC Z Z Z (by kernel_rfl) (LC.pre (Dd h_v2) Z Z Z))<|yE Z (ab.build Z ma Z Z Z)<|LO.nil<|yS Z (zs Z Z Z Z aM Z Z Z Z)<|zN<|zT<|zr ?_;obtain rfl := zJ hr;exact iK (env' := []) (H' := (hM w al wh me cl 87 86)) (zW 6 trivial Z Z Z Z) (.one (.cellAgg Z Z (by kernel_rfl) Z)) Z<|⟨rfl, rfl⟩
open Go.Proofs
def wT (n : Nd) (w : Vw) : Option Vw :=
 (qL n).bind fun v1 =>
 (AD w v1).bind fun v2 =>
 some v2
theorem Fb {n : Nd} {w : Vw} {r_ : Vw} (hr : wT n w = some r_) : LC Tryz.prog 67 [.p (gJ n), .ptr 0 0] [.box (cw w)] (Is (.tup []) [.box (cw r_)]) := by
 refine dA Tryz.func67 Z Z Z ?_;unfold wT at hr;refine zQ<|zR<|yS Z (b6 Z Z Z Z Z)<|zN<|zT<|LW.drawLast (m := 4) (by kernel_rfl) (by kernel_rfl) (by kernel_rfl)<|yE Z (zD Z Z Z aM Z Z)<|yE Z (zD Z Z Z b9 Z Z)<|zb hr fun v1 h_v1 hr => yE Z (zC Z Z Z (by kernel_rfl) (zp (DP h_v1) (.cons zv .nil)))<|zb hr fun v2 h_v2 hr => yE Z (zC Z Z Z (by kernel_rfl) (zp (E0 h_v2) (.cons zv (.cons zv .nil))))<|LO.nil<|yS Z (zs Z Z Z Z aM Z Z Z Z)<|zN ?_;obtain rfl := zJ hr;exact fu (env' := []) (H' := [.box (cw v2)]) (zW 1 trivial Z Z Z Z) .none<|⟨rfl, rfl⟩
structure dz where
 t8 : Int
 o0 : Vw
def fT (l : List Nd) (x1 : dz) : Option (dz ⊕ dz) :=
 bif decide (x1.t8 < (l.length : Int)) then
  (ix l x1.t8).bind fun y1 =>
  (wT y1 x1.o0).bind fun v2 =>
  some (.inl (dz.mk (IntKind.i64.wrap (x1.t8 + 1)) v2))
 else
  some (.inr (dz.mk x1.t8 x1.o0))
def oZ (l : List Nd) (w : Vw) : Option Vw :=
 (iter (fT l) bG (dz.mk 0 w)).bind fun v1 =>
 some v1.o0
theorem C9 {l : List Nd} {w : Vw} {r_ : Vw} (hr : oZ l w = some r_) : LC Tryz.prog 55 [.p (.slice 12 (l.map gJ)), .fn 67 [] [.ptr 0 0]] [.box (cw w)] (Is (.tup []) [.box (cw r_)]) := by
 refine dA Tryz.func55 Z Z Z ?_;unfold oZ at hr;refine zQ<|zR<|zM Z<|yS Z (cP Z Z (by kernel_rfl))<|zM Z<|zN<|zT ?_;obtain ⟨v1, hb_v1, ho_v1⟩ := zB hr;clear hr;refine LW.tail (E := []) (O := [.box (cw v1.o0)]) ?_<|fun env_v1 H_v1 hw_v1 => ?_
 ·refine LW.block ?_;refine LW.iterB (E := fun x1 : dz => [(1, .fn 67 [] [.ptr 0 0]), (6, .p (.slice 12 (l.map gJ))), (7, .p (.int .i64 (l.length : Int))), (8, (iQ x1.t8))]) (O := fun x1 => [.box (cw x1.o0)]) hb_v1 (zW 1 ⟨rfl, rfl, rfl, rfl, trivial⟩ Z Z Z Z)<|fun x1 z_x1 hr hb_x1 => ?_;unfold fT at hr;refine zQ<|zR<|yS Z (aw Z Z Z Z)<|zN<|zT<|zQ ?_;refine zX Z (fun g1 => ?_)<|fun g1 => ?_
  ·
   refine zi g1 hr fun hr => zk<|zT<|zQ<|zl<|zQ<|zR<|zb hr fun y1 h_y1 hr => yS Z (zx Z Z Z dN h_y1 Z)<|yS Z (dj Z Z Z b9 Z Z)<|yS Z (ze Z nI Z Z)<|yS Z (zs Z Z Z Z b9 Z Z Z Z)<|zN<|zT<|zR<|zM Z<|yS Z (zD Z Z Z b9 Z Z)<|zb hr fun v2 h_v2 hr => yS Z (zC Z Z Z (by kernel_rfl) (LC.pre (Fb h_v2) Z Z Z))<|zN<|ah<|zT<|zR<|yS Z (aw Z Z Z Z) ?_;refine zM Z<|zN<|zT ?_;obtain rfl := zJ hr;exact ⟨_, rfl, zW 1 ⟨rfl, rfl, rfl, rfl, trivial⟩ Z Z Z rfl⟩
  ·
   refine zo g1 hr fun hr => zq<|ao<|ao<|zy<|zT ?_;obtain rfl := zJ hr;have hr := congrArg some (hb_x1 _ rfl);obtain rfl := zJ hr;exact zW 1 trivial Z Z Z Z
 ·have hr := ho_v1;clear hb_v1;obtain rfl := zJ hr;exact fu hw_v1 .none ⟨rfl, rfl⟩
def oN (l : List Nd) : Option Vw :=
 (oZ l (Vw.mk [] [])).bind fun v1 =>
 some v1
theorem AY {l : List Nd} {r_ : Vw} (hr : oN l = some r_) : az Tryz.prog 32 [.slice 12 (l.map gJ)] [k7 r_] := by
 refine zh Tryz.func32 Z Z Z Z ?_;unfold oN at hr;refine zQ<|zR<|yS Z (ze Z fS Z Z)<|zN<|zT<|zQ<|LW.ent (bP.zsCell (i := 0) (j := 0) (m := 5) Z Z Z Z)<|LW.ent (bP.zsCell (i := 0) (j := 1) (m := 4) Z Z Z Z)<|zR<|zM Z<|yS Z (ab.makeFunc Z Z Z)<|zb hr fun v1 h_v1 hr => yS Z (zC Z Z Z (by kernel_rfl) (C9 h_v1))<|zN<|zT<|zQ<|zR<|yS Z (zD Z Z Z aM Z Z)<|yS Z (zs Z Z Z Z aM Z Z Z Z)<|zN<|zT<|zr ?_;obtain rfl := zJ hr;exact zf (.one (.cellAgg Z Z (by kernel_rfl) Z)) zv
structure FQ where
 t8 : Int
 o2 : List ID
structure dZ where
 t12 : Int
 names : List (ID × Bool)
def iy (w : Vw) (x1 : dZ) : Option (dZ ⊕ dZ) :=
 bif decide (x1.t12 < (w.B.length : Int)) then
  (ix w.B x1.t12).bind fun y1 =>
  some (.inl (dZ.mk (IntKind.i64.wrap (x1.t12 + 1)) (aN x1.names (nm y1) true)))
 else
  some (.inr (dZ.mk x1.t12 x1.names))
def sU (w : Vw) : Option Bool :=
 (iter (iy w) bG (dZ.mk 0 (aN [] (0, 0) true))).bind fun v1 =>
 bif pz v1.names then
  some ((v1.names.length : Int) != (IntKind.i64.wrap ((w.B.length : Int) + 1)))
 else none
theorem GK {w : Vw} {r_ : Bool} (hr : sU w = some r_) : az Tryz.prog 38 [k7 w] [.bool r_] := by
 refine zh Tryz.func38 Z Z Z Z ?_;unfold sU at hr;refine zQ<|zR<|yS Z (b6 Z Z Z Z Z)<|zM Z<|zN<|zT<|zQ<|zR<|yS Z (ab.makeMap Z Z Z)<|yS Z (ab.build Z vq Z Z Z) ?_;refine yS Z (ab.setX (f := cv) (g := (fun v => (bQ v))) (m := ([] : List (ID × Bool))) (0, 0) true dw (.inr Z) Z Z Z Z Z xp Z) ?_;refine zM Z<|zM Z<|zN<|zT<|zQ<|zQ<|zR<|yS Z (zA Z Z aL)<|yS Z (zD Z Z Z ch Z Z)<|yS Z (cP Z Z (by kernel_rfl))<|zM Z<|zN<|zT ?_;obtain ⟨v1, hb_v1, ho_v1⟩ := zB hr;clear hr;refine LW.tail (E := [(1, .ptr 0 0), (2, (bQ false)), (3, .map 1)]) (O := [.box (cw w), .map (ai cv (fun v => (bQ v)) v1.names)]) ?_<|fun env_v1 H_v1 hw_v1 => ?_
 ·refine LW.block ?_;refine LW.iterB (E := fun x1 : dZ => [(1, .ptr 0 0), (2, (bQ false)), (3, .map 1), (10, (kB w.B)), (11, .p (.int .i64 (w.B.length : Int))), (12, (iQ x1.t12))]) (O := fun x1 => [.box (cw w), .map (ai cv (fun v => (bQ v)) x1.names)]) hb_v1 (zW 2 ⟨rfl, rfl, rfl, rfl, rfl, rfl, trivial⟩ Z Z Z (zL Z (zL (ae (fun _ => rfl) _) Z)))<|fun x1 z_x1 hr hb_x1 => ?_;unfold iy at hr;refine zQ<|zR<|yS Z (aw Z Z Z Z)<|zN<|zT<|zQ ?_;refine zX Z (fun g1 => ?_)<|fun g1 => ?_
  ·
   refine zi g1 hr fun hr => zk<|zT<|zQ<|zl<|zQ<|zR<|zb hr fun y1 h_y1 hr => yS Z (zx Z Z Z cR h_y1 Z)<|yS Z (dj Z Z Z bY Z Z)<|yS Z (ze Z qJ Z Z)<|yS Z (zs Z Z Z Z bY Z Z Z Z)<|zN<|zT<|zR<|zM Z<|yS Z (zD Z Z Z bY Z Z)<|yS Z (zC Z Z Z (by kernel_rfl) (zp (EY (b := y1)) (.cons zv .nil))) ?_;refine yS Z (ab.setX (f := cv) (g := (fun v => (bQ v))) (nm y1) true dw (.inl Z) Z Z Z Z Z xp Z) ?_;refine zN<|ah<|zT<|zR<|yS Z (aw Z Z Z Z)<|zM Z<|zN<|zT ?_;obtain rfl := zJ hr;exact ⟨_, rfl, zW 2 ⟨rfl, rfl, rfl, rfl, rfl, rfl, trivial⟩ Z Z Z (zL Z (zL (ae (fun _ => rfl) _) Z))⟩
  ·
   refine zo g1 hr fun hr => zq<|ao<|ao<|zy<|zT ?_;obtain rfl := zJ hr;have hr := congrArg some (hb_x1 _ rfl);obtain rfl := zJ hr;exact zW 2 ⟨Z, Z, Z, trivial⟩ Z Z Z<|zL Z<|zL (ae (fun _ => rfl) _) Z
 ·have hr := ho_v1;clear hb_v1;refine zT<|LW.weak hw_v1<|zQ<|zR<|zM Z<|zg hr fun q1 hr => yS Z (ab.lenMapX Z Z Z (by kernel_rfl) q1)<|yS Z (zA Z Z aL)<|yS Z (zD Z Z Z ch Z Z)<|yS Z (cP Z Z (by kernel_rfl))<|yS Z (aw Z Z Z Z)<|yS Z (aw Z Z Z Z)<|zM Z<|zN<|zT<|zr ?_;obtain rfl := zJ hr;exact zf (.one (.tmp Z)) zv
structure fN where
 t8 : Int
def kM (l : List Nd) (x1 : fN) : Option (fN ⊕ (fN ⊕ Int)) :=
 bif decide (x1.t8 < (l.length : Int)) then
  (ix l x1.t8).bind fun y1 =>
  (wR y1).bind fun v2 =>
  bif v2 then
   some (.inr (.inr x1.t8))
  else
   some (.inl (fN.mk (IntKind.i64.wrap (x1.t8 + 1))))
 else
  some (.inr (.inl (fN.mk x1.t8)))
def CY (l : List Nd) : Option Int :=
 (iter (kM l) bG (fN.mk 0)).bind fun b_v1 => Sum.elim (fun _ =>
  some (-1)) some b_v1
theorem Hi {l : List Nd} {r_ : Int} (hr : CY l = some r_) : LC Tryz.prog 118 [.p (.slice 12 (l.map gJ)), .fn 73 [] []] [] (Is (iQ r_) []) := by
 refine dA Tryz.func118 Z Z Z ?_;unfold CY at hr;refine zQ<|zR<|zM Z<|zN<|zT<|zQ<|zQ<|zR<|zM Z<|yS Z (cP Z Z (by kernel_rfl))<|zM Z<|zN<|zT ?_;obtain ⟨b_v1, hb_v1, ho_v1⟩ := zB hr;clear hr;refine LW.tailB (b := b_v1) (E := fun v1 => [(4, (iQ 0))]) (O := fun v1 => []) ?_<|fun v1 e_v1 env_v1 H_v1 hw_v1 => ?_
 ·refine LW.block ?_;refine LW.iterB (E := fun x1 : fN => [(0, .p (.slice 12 (l.map gJ))), (1, .fn 73 [] []), (4, (iQ 0)), (7, .p (.int .i64 (l.length : Int))), (8, (iQ x1.t8))]) (O := fun x1 => []) hb_v1 (zW 0 ⟨rfl, rfl, rfl, rfl, rfl, trivial⟩ Z Z Z Z)<|fun x1 z_x1 hr hb_x1 => ?_;unfold kM at hr;refine zQ<|zR<|yS Z (aw Z Z Z Z)<|zN<|zT<|zQ ?_;refine zX Z (fun g1 => ?_)<|fun g1 => ?_
  ·
   refine zi g1 hr fun hr => zk<|zT<|zQ<|zl<|zQ<|zR<|zM Z<|zM Z<|zN<|zT<|zQ<|zR<|zM Z<|zM Z<|zM Z<|zb hr fun y1 h_y1 hr => yS Z (zx Z Z Z dN h_y1 Z)<|yS Z (dj Z Z Z b9 Z Z)<|zb hr fun v2 h_v2 hr => yS Z (zC Z Z Z (by kernel_rfl) (zp (GM h_v2) (.cons zv .nil)))<|zN<|zT ?_;refine zX Z (fun g2 => ?_)<|fun g2 => ?_
   ·
    refine zi g2 hr fun hr => zQ<|zR<|zM Z<|zM Z<|zN<|zT<|zr<|aq<|af<|af<|aq<|af<|af ?_;obtain rfl := zJ hr;have hr := congrArg some (hb_x1 _ rfl);obtain rfl := zJ hr;have hr := da ho_v1;obtain rfl := zJ hr;exact ap (.one (.tmp Z))<|⟨rfl, rfl⟩
   ·
    refine zo g2 hr fun hr => zk<|ah<|zT<|zR<|yS Z (aw Z Z Z Z)<|zM Z<|zN<|zT ?_;obtain rfl := zJ hr;exact ⟨_, rfl, zW 0 ⟨rfl, rfl, rfl, rfl, rfl, trivial⟩ Z Z Z rfl⟩
  ·
   refine zo g1 hr fun hr => zq<|ao<|ao<|zy<|zT ?_;obtain rfl := zJ hr;have hr := congrArg some (hb_x1 _ rfl);obtain rfl := zJ hr;exact ⟨_, rfl, zW 0 ⟨rfl, trivial⟩ Z Z Z rfl⟩
 ·obtain rfl := e_v1;have hr := eG ho_v1;clear hb_v1;refine zT<|LW.weak hw_v1<|zQ<|zR<|zM Z<|zN<|zT<|zr ?_;obtain rfl := zJ hr;exact ap (.one (.tmp Z))<|⟨rfl, rfl⟩
def CV (l : List Nd) : Option Bool :=
 (CY l).bind fun v1 =>
 some (decide (v1 ≥ 0))
theorem He {l : List Nd} {r_ : Bool} (hr : CV l = some r_) : LC Tryz.prog 63 [.p (.slice 12 (l.map gJ)), .fn 73 [] []] [] (Is (bQ r_) []) := by
 refine dA Tryz.func63 Z Z Z ?_;unfold CV at hr;refine zQ<|zR<|zM Z<|zN<|zT<|zQ<|zR<|zM Z<|zM Z<|zb hr fun v1 h_v1 hr => yS Z (zC Z Z Z (by kernel_rfl) (Hi h_v1))<|yS Z (aw Z Z Z Z)<|zM Z<|zN<|zT<|zr ?_;obtain rfl := zJ hr;exact ap (.one (.tmp Z))<|⟨rfl, rfl⟩
def sT (l : List Nd) : Option Bool :=
 (CV l).bind fun v1 =>
 some v1
theorem GJ {l : List Nd} {r_ : Bool} (hr : sT l = some r_) : az Tryz.prog 37 [.slice 12 (l.map gJ)] [.bool r_] := by
 refine zh Tryz.func37 Z Z Z Z ?_;unfold sT at hr;refine zQ<|zR<|zM Z<|zN<|zT<|zQ<|zR<|zM Z<|zb hr fun v1 h_v1 hr => yS Z (zC Z Z Z (by kernel_rfl) (He h_v1))<|zM Z<|zN<|zT<|zr ?_;obtain rfl := zJ hr;exact zf (.one (.tmp Z)) zv
open Go.Proofs
def tj (w : Wd) (l : List Ac) : Option (Vw × Int × Bool × List Ac) :=
 (oN w.N).bind fun v1 =>
 (CT w.C (IntKind.i64.wrap (w.Tick.tdiv 3))).bind fun v2 =>
 (sN w.Bad v2).bind fun v3 =>
 (pb l w).bind fun v4 =>
 some (v1, v2, v3, v4)
theorem Fg {w : Wd} {l : List Ac} {r_ : Vw × Int × Bool × List Ac} (hr : tj w l = some r_) : LC Tryz.prog 51 [.p (Cq w), .p (.slice 5 (l.map nP))] [] (Is (.agg (j9 w r_.1 r_.2.1 r_.2.2.1 r_.2.2.2 87 3 2)) [.box (fK w), .box (j9 w r_.1 r_.2.1 r_.2.2.1 r_.2.2.2 87 3 2), .box (j9 w r_.1 r_.2.1 r_.2.2.1 r_.2.2.2 87 3 2), .box [.fn 86 [] [.ptr 0 0]]]) := by
 refine dA Tryz.func51 Z Z Z ?_;unfold tj at hr;refine zQ<|zR<|yS Z (b6 Z Z Z Z Z)<|yS Z (ze Z wy Z Z)<|zN<|zT<|zQ<|LW.ent (bP.slot Z)<|LW.drawW (by kernel_rfl) (by kernel_rfl)<|yF Z (zd Z Z Z bX Z Z) Z ?_;refine yF (F := []) (s := none) Z (fun H _ => zA Z Z bp) Z ?_;refine yF Z (zd Z Z Z cG Z Z) Z<|zb hr fun v1 h_v1 hr => ?_;refine yF (F := []) (s := none) Z (fun H _ => zC Z Z Z (by kernel_rfl) (zp (AY h_v1) (.cons zv .nil))) Z ?_;refine yF (F := []) (s := none) Z (fun H _ => zA Z Z eQ) Z ?_;refine yF Z (zd Z Z Z bl Z Z) Z ?_;refine yF (F := []) (s := none) Z (fun H _ => ab.quo Z Z Z (by decide)) Z ?_;refine yF (F := []) (s := none) Z (fun H _ => ab.build Z EU Z Z Z) Z ?_;refine yF Z (bK.alloc Z wy (id := 2) Z) Z<|yF Z (zt Z Z Z Z qw Z Z Z) Z ?_;refine LF.nil ⟨by kernel_rfl, ?_⟩;refine zT<|zQ<|zR<|yS Z (zA Z Z mh)<|yS Z (zD Z Z Z ca Z Z)<|yS Z (zA Z Z tX)<|yS Z (zD Z Z Z bl Z Z)<|zb hr fun v2 h_v2 hr => yS Z (zC Z Z Z (by kernel_rfl) (zp (IE h_v2) (.cons zv (.cons zv .nil))))<|yS Z (zA Z Z pL)<|yS Z (zs Z Z Z Z bl Z Z Z Z)<|zN<|zT<|zQ<|zR<|yS Z (zA Z Z gm)<|yS Z (zD Z Z Z gG Z Z)<|yS Z (zA Z Z pL)<|yS Z (zD Z Z Z bl Z Z)<|zb hr fun v3 h_v3 hr => yS Z (zC Z Z Z (by kernel_rfl) (zp (C8 h_v3) (.cons zv (.cons zv .nil))))<|yS Z (zA Z Z tV)<|yS Z (zs Z Z Z Z xx Z Z Z Z)<|zN ?_;refine zT<|zQ<|zR<|zM Z<|yS Z (ab.makeFunc Z Z Z)<|zb hr fun v4 h_v4 hr => yS Z (zC Z Z Z (by kernel_rfl) (LC.pre (Db h_v4) Z Z Z))<|yS Z (zA Z Z tY)<|yS Z (zs Z Z Z Z B8 Z Z Z Z)<|zN<|zT<|zQ<|zR<|yS Z (ab.makeFunc Z Z Z)<|yS Z (ze Z Iv Z Z)<|yS Z (zs Z Z Z Z rJ Z Z Z Z)<|zN<|zT<|zQ<|zR<|yS Z (ab.makeFunc Z Z Z)<|yS Z (zA Z Z tW)<|yS Z (zs Z Z Z Z Ce Z Z Z Z)<|zN ?_;refine zT<|zQ<|zR<|yS Z (zD Z Z Z qw Z Z)<|yS Z (zs Z Z Z Z qw Z Z Z Z)<|zN<|zT<|zr ?_;obtain rfl := zJ hr;exact ap (.one (.cellAgg Z Z (by kernel_rfl) Z))<|⟨rfl, rfl⟩
structure fc where
 t20 : Int
 v_in : Vw
 offers : List Of
def mZ (w : Wd) (al : Vw) (wh : Int) (me : Bool) (cl : List Ac) (at_ : Int) (x1 : fc) : Option (fc ⊕ fc) :=
 bif decide (x1.t20 < (cl.length : Int)) then
  (ix cl x1.t20).bind fun y1 =>
  bif decide (0 ≤ at_) then
   bif (bits .and .i64 (y1.To.fdiv (2 ^ (min (Int.toNat at_) IntKind.i64.bits))) 1) == 0 then
    some (.inl (fc.mk (IntKind.i64.wrap (x1.t20 + 1)) x1.v_in x1.offers))
   else
    (tg y1 w al).bind fun v2 =>
    bif !y1.Offer then
     (AD x1.v_in v2).bind fun v3 =>
     some (.inl (fc.mk (IntKind.i64.wrap (x1.t20 + 1)) v3 x1.offers))
    else
     (
      bif me then
       some (decide ((v2.B.length : Int) > 0))
      else
       some false
     ).bind fun v4 =>
     bif v4 then
      (ix v2.B 0).bind fun y2 =>
      bif FT v2.B 1 v2.B.length then
       bif cg x1.offers.length [Of.mk (IntKind.i64.wrap (w.Tick.tdiv 3)) wh y2 (Vw.mk (v2.B.drop (1 : Int).toNat) v2.V)].length 104 then
        some (.inl (fc.mk (IntKind.i64.wrap (x1.t20 + 1)) x1.v_in (x1.offers ++ [Of.mk (IntKind.i64.wrap (w.Tick.tdiv 3)) wh y2 (Vw.mk (v2.B.drop (1 : Int).toNat) v2.V)])))
       else none
      else none
     else
      some (.inl (fc.mk (IntKind.i64.wrap (x1.t20 + 1)) x1.v_in x1.offers))
  else none
 else
  some (.inr (fc.mk x1.t20 x1.v_in x1.offers))
def Gb (w : Wd) (al : Vw) (wh : Int) (me : Bool) (cl : List Ac) (at_ : Int) : Option (Vw × List Of) :=
 bif cg 0 w.O.length 104 then
  (iter (mZ w al wh me cl at_) bG (fc.mk 0 al w.O)).bind fun v1 =>
  some (v1.v_in, v1.offers)
 else none
theorem Jq {w : Wd} {al : Vw} {wh : Int} {me : Bool} {cl : List Ac} {at_ : Int} {r_ : Vw × List Of} (hr : Gb w al wh me cl at_ = some r_) : LC Tryz.prog 52 [.agg (j9 w al wh me cl 87 5 4), (iQ at_)] (hM w al wh me cl 87 86) (Is (.tup [.p (k7 r_.1), (kO r_.2)]) (hM w al wh me cl 87 86)) := by
 refine dA Tryz.func52 Z Z Z ?_;unfold Gb at hr;refine zQ<|zR<|yS Z (b6 Z Z Z Z Z)<|yS Z (ze Z fS Z Z)<|zM Z<|zN<|zT<|zQ<|LW.ent (bP.slot Z)<|LW.ent (bP.slot Z)<|LW.drawW (by kernel_rfl) (by kernel_rfl) ?_;refine yF (F := []) (s := none) Z (fun H _ => zA Z Z pK) Z ?_;refine yF Z (zd Z Z Z aM Z Z) Z ?_;refine yF (F := []) (s := none) Z (fun H _ => zA Z Z Bo) Z ?_;refine yF (F := []) (s := none) Z (fun H _ => zA Z Z gn) Z ?_;refine yF Z (zd Z Z Z bM Z Z) Z<|zg hr fun q1 hr => ?_;refine yF Z (bK.callV (id := 9) (qs := [(kO w.O)]) Z Z Z (by kernel_rfl) (A3 q1) (fun H => (.consC zv .nil)) Z) Z ?_;refine yF Z (bK.alloc Z fS (id := 8) Z) Z<|yF Z (zt Z Z Z Z aM Z Z Z) Z<|zK Z ?_;refine LF.nil ⟨by kernel_rfl, ?_⟩;refine zT<|zQ<|zQ<|zR<|yS Z (zA Z Z tY)<|yS Z (zD Z Z Z B8 Z Z)<|yS Z (cP Z Z (by kernel_rfl))<|zM Z<|zN<|zT ?_;obtain ⟨v1, hb_v1, ho_v1⟩ := zB hr;clear hr;refine LW.tail (E := [(4, .ptr 7 0), (5, .zs), (6, .ptr 8 0), (7, (jO 9 v1.offers))]) (O := [.box (fK w), .box sB, .box (fK w), .box (j9 w al wh me cl 87 5 4), .box (j9 w al wh me cl 87 5 4), .box [.fn 86 [] [.ptr 2 0]], .box (j9 w al wh me cl 87 5 4), .box [.zs, .zs], .box (cw v1.v_in), .vec 9 (v1.offers.map dG)]) ?_<|fun env_v1 H_v1 hw_v1 => ?_
 ·refine LW.block ?_;refine LW.iterB (E := fun x1 : fc => [(1, (iQ at_)), (2, .ptr 6 0), (4, .ptr 7 0), (5, .zs), (6, .ptr 8 0), (7, (jO 9 x1.offers)), (18, .p (.slice 5 (cl.map nP))), (19, .p (.int .i64 (cl.length : Int))), (20, (iQ x1.t20))]) (O := fun x1 => [.box (fK w), .box sB, .box (fK w), .box (j9 w al wh me cl 87 5 4), .box (j9 w al wh me cl 87 5 4), .box [.fn 86 [] [.ptr 2 0]], .box (j9 w al wh me cl 87 5 4), .box [.zs, .zs], .box (cw x1.v_in), .vec 9 (x1.offers.map dG)]) hb_v1 (zW 10 ⟨rfl, rfl, rfl, rfl, rfl, rfl, rfl, rfl, rfl, trivial⟩ Z Z Z Z)<|fun x1 z_x1 hr hb_x1 => ?_;unfold mZ at hr;refine zQ<|zR<|yS Z (aw Z Z Z Z)<|zN<|zT<|zQ ?_;refine zX Z (fun g1 => ?_)<|fun g1 => ?_
  ·
   refine zi g1 hr fun hr => zk<|zT<|zQ<|zl<|zQ<|zR<|zb hr fun y1 h_y1 hr => yS Z (zx Z Z Z nF h_y1 Z)<|yS Z (dj Z Z Z lW Z Z)<|yS Z (ze Z Cn Z Z)<|yS Z (zs Z Z Z Z lW Z Z Z Z)<|zN<|zT<|zQ<|zQ<|zR<|yS Z (zA Z Z tQ)<|yS Z (zD Z Z Z bl Z Z)<|zM Z<|zg hr fun q2 hr => yS Z (ab.shr Z Z Z (of_decide_eq_true q2))<|yS Z (aw Z Z Z Z)<|yS Z (aw Z Z Z Z) ?_;refine zN<|zT ?_;refine zX Z (fun g2 => ?_)<|fun g2 => ?_
   ·
    refine zi g2 hr fun hr => zq<|ao<|zy<|zT<|zR<|yS Z (aw Z Z Z Z)<|zM Z<|zN<|zT ?_;obtain rfl := zJ hr;exact ⟨_, rfl, zW 10 ⟨rfl, rfl, rfl, rfl, rfl, rfl, rfl, rfl, rfl, trivial⟩ Z Z Z rfl⟩
   ·
    refine zo g2 hr fun hr => zk<|zT<|zQ<|zR<|yS Z (zA Z Z tW)<|yS Z (zD Z Z Z Ce Z Z)<|yS Z (zD Z Z Z lW Z Z)<|zb hr fun v2 h_v2 hr => yS Z (zC Z Z Z (by kernel_rfl) (LC.pre (Fd h_v2) Z Z Z))<|yS Z (ze Z fS Z Z)<|yS Z (zs Z Z Z Z aM Z Z Z Z)<|zN<|zT<|zl<|zQ<|zR<|yS Z (zA Z Z Bi)<|yS Z (zD Z Z Z xx Z Z)<|yS Z (ab.not Z Z)<|zM Z<|zN<|zT ?_;refine zX Z (fun g3 => ?_)<|fun g3 => ?_
    ·
     refine zi g3 hr fun hr => zR<|yS Z (zD Z Z Z aM Z Z)<|yS Z (zD Z Z Z aM Z Z)<|zb hr fun v3 h_v3 hr => yS Z (zC Z Z Z (by kernel_rfl) (zp (E0 h_v3) (.cons zv (.cons zv .nil))))<|yS Z (zs Z Z Z Z aM Z Z Z Z)<|zN<|ah<|ah<|zT<|zR<|yS Z (aw Z Z Z Z)<|zM Z<|zN<|zT ?_;obtain rfl := zJ hr;exact ⟨_, rfl, zW 10 ⟨rfl, rfl, rfl, rfl, rfl, rfl, rfl, rfl, rfl, trivial⟩ Z Z Z rfl⟩
    ·
     have hr := zO g3 hr;obtain ⟨v4, hb_v4, ho_v4⟩ := zB hr;clear hr;refine LW.cut (E := [(1, (iQ at_)), (2, .ptr 6 0), (4, .ptr 7 0), (5, .zs), (6, .ptr 8 0), (7, (jO 9 x1.offers)), (10, .ptr 11 0), (18, .p (.slice 5 (cl.map nP))), (19, .p (.int .i64 (cl.length : Int))), (20, (iQ x1.t20)), (41, (bQ v4))]) (O := [.box (fK w), .box sB, .box (fK w), .box (j9 w al wh me cl 87 5 4), .box (j9 w al wh me cl 87 5 4), .box [.fn 86 [] [.ptr 2 0]], .box (j9 w al wh me cl 87 5 4), .box [.zs, .zs], .box (cw x1.v_in), .vec 9 (x1.offers.map dG), .box [(iQ y1.Tick), (iQ y1.To), (bQ y1.Offer), (kB y1.B), (kV y1.V)], .box (cw v2)]) ?_ ?_
     ·have hr := hb_v4;refine zR<|yS Z (zA Z Z tV)<|yS Z (zD Z Z Z xx Z Z)<|zM Z ?_;refine zc 44 Z (fun g4 => ?_)<|fun g4 => ?_
      ·
       refine zi g4 hr fun hr => yV Z (gd g4 Z) (zA Z Z aL)<|yV Z (gd g4 Z) (zD Z Z Z ch Z Z)<|yV Z (gd g4 Z) (cP Z Z (by kernel_rfl))<|yV Z (gd g4 Z) (aw Z Z Z Z)<|yS Z (cS Z (a8 g4 Z) Z)<|zM Z<|zN<|zT ?_;obtain rfl := zJ hr;exact zW 12 ⟨Z, Z, Z, Z, Z, Z, Z, Z, Z, Z, Z, trivial⟩ Z Z Z Z
      ·
       refine zo g4 hr fun hr => yU Z (gd g4 Z) Z<|yU Z (gd g4 Z) Z<|yU Z (gd g4 Z) Z<|yU Z (gd g4 Z) Z<|yS Z (bN Z (a8 g4 Z) Z)<|zM Z<|zN<|zT ?_;obtain rfl := zJ hr;exact zW 12 ⟨Z, Z, Z, Z, Z, Z, Z, Z, Z, Z, Z, trivial⟩ Z Z Z Z
     ·have hr := ho_v4;clear hb_v4;refine zX Z (fun g5 => ?_)<|fun g5 => ?_
      ·
       refine zi g5 hr fun hr => LW.drawW (by kernel_rfl) (by kernel_rfl)<|zK Z ?_;refine yF (F := []) (s := none) Z (fun H _ => zA Z Z tX) Z ?_;refine yF Z (zd Z Z Z bl Z Z) Z ?_;refine yF (F := []) (s := none) Z (fun H _ => zA Z Z pL) Z ?_;refine yF Z (zd Z Z Z bl Z Z) Z ?_;refine yF (F := []) (s := none) Z (fun H _ => zA Z Z aL) Z ?_;refine yF Z (zd Z Z Z ch Z Z) Z<|zb hr fun y2 h_y2 hr => ?_;refine yF (F := []) (s := none) Z (fun H _ => zx Z Z Z cR h_y2 Z) Z ?_;refine yF (F := []) (s := none) Z (fun H _ => dj Z Z Z bY Z Z) Z ?_;refine yF (F := []) (s := none) Z (fun H _ => zA Z Z aL) Z ?_;refine yF Z (zd Z Z Z ch Z Z) Z<|zg hr fun q3 hr => ?_;refine yF (F := []) (s := none) Z (fun H _ => ab.sliceLo Z Z Z cR q3) Z ?_;refine yF (F := []) (s := none) Z (fun H _ => zA Z Z a7) Z ?_;refine yF Z (zd Z Z Z dc Z Z) Z ?_;refine yF (F := []) (s := none) Z (fun H _ => ab.build Z ma Z Z Z) Z ?_;refine yF (F := []) (s := none) Z (fun H _ => ab.build Z AW Z Z Z) Z ?_;refine yF (F := []) (s := none) Z (fun H _ => lY Z ck Z Z Z Z Z) Z ?_;refine zg hr fun q4 hr => yF Z (bK.appendX dG x1.offers [Of.mk (IntKind.i64.wrap (w.Tick.tdiv 3)) wh y2 (Vw.mk (v2.B.drop (1 : Int).toNat) v2.V)] rfl Z Z Z Z ck q4) Z<|zK Z ?_;refine LF.nil ⟨by kernel_rfl, ?_⟩;refine ah<|ah<|zT<|zR<|yS Z (aw Z Z Z Z)<|zM Z<|zN<|zT ?_;obtain rfl := zJ hr;exact ⟨_, rfl, zW 10 ⟨rfl, rfl, rfl, rfl, rfl, rfl, rfl, rfl, rfl, trivial⟩ Z Z Z rfl⟩
      ·
       refine zo g5 hr fun hr => zk<|ah<|ah<|zT<|zR<|yS Z (aw Z Z Z Z)<|zM Z<|zN<|zT ?_;obtain rfl := zJ hr;exact ⟨_, rfl, zW 10 ⟨rfl, rfl, rfl, rfl, rfl, rfl, rfl, rfl, rfl, trivial⟩ Z Z Z rfl⟩
  ·
   refine zo g1 hr fun hr => zq<|ao<|ao<|zy<|zT ?_;obtain rfl := zJ hr;have hr := congrArg some (hb_x1 _ rfl);obtain rfl := zJ hr;exact zW 10 ⟨Z, Z, Z, Z, trivial⟩ Z Z Z Z
 ·have hr := ho_v1;clear hb_v1;refine zT<|LW.weak hw_v1<|zQ<|LW.ent (bP.frz (t := 7) (env' := [(4, .ptr 7 0), (6, .ptr 8 0)]) (H0 := [.box (fK w), .box sB, .box (fK w), .box (j9 w al wh me cl 87 5 4), .box (j9 w al wh me cl 87 5 4), .box [.fn 86 [] [.ptr 2 0]], .box (j9 w al wh me cl 87 5 4), .box [.zs, .zs], .box (cw v1.v_in)]) Z Z Z Z Z ⟨rfl, rfl, trivial⟩ Z Z)<|zR<|yS Z (zD Z Z Z aM Z Z)<|zM Z<|yS Z (zs Z Z Z Z aM Z Z Z Z)<|zM Z<|zN<|zT<|zr ?_;obtain rfl := zJ hr;exact iK (env' := []) (H' := (hM w al wh me cl 87 86)) (zW 6 trivial Z Z Z Z) (.two (.cellAgg Z Z (by kernel_rfl) Z) (.tmp Z)) Z<|⟨rfl, rfl⟩
structure d5 where
 t43 : Int
 o9 : List Nd
 o10 : List Of
def iD (w : Wd) (v4 : Vw × Int × Bool × List Ac) (x1 : d5) : Option (d5 ⊕ d5) :=
 bif decide (x1.t43 < (w.N.length : Int)) then
  (Gb w v4.1 v4.2.1 v4.2.2.1 v4.2.2.2 x1.t43).bind fun v6 =>
  (ix w.N x1.t43).bind fun y1 =>
  (iv w.C y1 v6.1 v6.2).bind fun v7 =>
  bif cg x1.o9.length [v7.1].length 176 then
   bif cg x1.o10.length v7.2.length 104 then
    some (.inl (d5.mk (IntKind.i64.wrap (x1.t43 + 1)) (x1.o9 ++ [v7.1]) (x1.o10 ++ v7.2)))
   else none
  else none
 else
  some (.inr (d5.mk x1.t43 x1.o9 x1.o10))
def nL (w : Wd) (l : List Ac) : Option Wd :=
 (
  (xM w.C).bind fun v2 =>
  bif !v2 then
   some true
  else
   bif decide (w.Tick < 3) then
    some true
   else
    some (decide (w.Tick ≥ 3145728))
 ).bind fun v1 =>
 bif v1 then
  (nM w).bind fun _ =>
  some w
 else
  (tj w l).bind fun v4 =>
  bif cg 0 w.Bad.length 8 then
   (iter (iD w v4) bG (d5.mk 0 ([] : List Nd) ([] : List Of))).bind fun v5 =>
   some (Wd.mk w.C w.Bad (IntKind.i64.wrap (w.Tick + 1)) v5.o9 v5.o10)
  else none
theorem DV {w : Wd} {l : List Ac} {r_ : Wd} (hr : nL w l = some r_) : az Tryz.prog 17 [Cq w, .slice 5 (l.map nP)] [Cq r_] := by
 refine zh Tryz.func17 Z Z Z Z ?_;unfold nL at hr;refine zQ<|zR<|yS Z (b6 Z Z Z Z Z)<|yS Z (ze Z jD Z Z)<|zN<|zT<|zQ ?_;obtain ⟨v1, hb_v1, ho_v1⟩ := zB hr;clear hr;refine LW.cut (E := [(1, .p (.slice 5 (l.map nP))), (2, .ptr 0 0), (4, .ptr 1 0), (25, (bQ v1))]) (O := [.box (fK w), .box sB]) ?_ ?_
 ·have hr := hb_v1;refine zR<|yS Z (zA Z Z mh)<|yS Z (zD Z Z Z ca Z Z)<|zb hr fun v2 h_v2 hr => yS Z (zC Z Z Z (by kernel_rfl) (zp (EZ h_v2) (.cons zv .nil)))<|yS Z (ab.not Z Z)<|zM Z ?_;refine zc 16 Z (fun g1 => ?_)<|fun g1 => ?_
  ·
   refine zi g1 hr fun hr => yU Z (gd g1 Z) Z<|yU Z (gd g1 Z) Z<|yU Z (gd g1 Z) Z<|yS Z (cS Z (a8 g1 Z) Z)<|zM Z<|yU Z Z Z<|yU Z Z Z<|yU Z Z Z<|yS Z (cS Z Z Z)<|zN<|zT ?_;obtain rfl := zJ hr;exact zW 2 ⟨Z, Z, Z, Z, trivial⟩ Z Z Z Z
  ·
   refine zo g1 hr fun hr => yV Z (gd g1 Z) (zA Z Z eQ)<|yV Z (gd g1 Z) (zD Z Z Z bl Z Z)<|yV Z (gd g1 Z) (aw Z Z Z Z)<|yS Z (bN Z (a8 g1 Z) Z)<|zM Z ?_;refine zc 21 Z (fun g2 => ?_)<|fun g2 => ?_
   ·
    refine zi g2 hr fun hr => yU Z (gd g2 Z) Z<|yU Z (gd g2 Z) Z<|yU Z (gd g2 Z) Z<|yS Z (cS Z (a8 g2 Z) Z)<|zN<|zT ?_;obtain rfl := zJ hr;exact zW 2 ⟨Z, Z, Z, Z, trivial⟩ Z Z Z Z
   ·
    refine zo g2 hr fun hr => yV Z (gd g2 Z) (zA Z Z eQ)<|yV Z (gd g2 Z) (zD Z Z Z bl Z Z)<|yV Z (gd g2 Z) (aw Z Z Z Z)<|yS Z (bN Z (a8 g2 Z) Z)<|zN<|zT ?_;obtain rfl := zJ hr;exact zW 2 ⟨Z, Z, Z, Z, trivial⟩ Z Z Z Z
 ·have hr := ho_v1;clear hb_v1;refine zX Z (fun g3 => ?_)<|fun g3 => ?_
  ·
   refine zi g3 hr fun hr => zQ<|zR<|yS Z (zD Z Z Z bX Z Z)<|zb hr fun v3 h_v3 hr => ?_;obtain rfl := ta h_v3;refine yS Z (zC Z Z Z (by kernel_rfl) (zp (DX h_v3) (.cons zv .nil)))<|yS Z (zs Z Z Z Z bX Z Z Z Z)<|zN<|zT<|zr<|af ?_;obtain rfl := zJ hr;exact zf (.one (.cellAgg Z Z (by kernel_rfl) Z)) zv
  ·
   refine zo g3 hr fun hr => zk<|zT<|zQ<|zR<|yS Z (zD Z Z Z bX Z Z)<|zM Z<|zb hr fun v4 h_v4 hr => yS Z (zC Z Z Z (by kernel_rfl) (LC.frameX (x' := .agg (j9 w v4.1 v4.2.1 v4.2.2.1 v4.2.2.2 87 5 4)) (H' := [.box (fK w), .box sB, .box (fK w), .box (j9 w v4.1 v4.2.1 v4.2.2.1 v4.2.2.2 87 5 4), .box (j9 w v4.1 v4.2.1 v4.2.2.1 v4.2.2.2 87 5 4), .box [.fn 86 [] [.ptr 2 0]]]) (Fg h_v4) (.consC zv (.consC zv .nil)) Z (by simp only [List.map_cons, List.map_nil, List.cons_append, List.nil_append, aa.shift, LV.shifts, LV.shift] <;> rfl) (by simp only [List.map_cons, List.map_nil, List.cons_append, List.nil_append, aa.shift, LV.shifts, LV.shift] <;> rfl)))<|yS Z (ze Z wy Z Z)<|yS Z (zs Z Z Z Z qw Z Z Z Z)<|zN<|zT<|zQ<|LW.ent (bP.slot Z)<|LW.ent (bP.slot Z)<|LW.drawW (by kernel_rfl) (by kernel_rfl) ?_;refine yF (F := []) (s := none) Z (fun H _ => zA Z Z mh) Z ?_;refine yF Z (zd Z Z Z ca Z Z) Z ?_;refine yF (F := []) (s := none) Z (fun H _ => zA Z Z gm) Z ?_;refine yF Z (zd Z Z Z gG Z Z) Z<|zg hr fun q1 hr => ?_;refine yF Z (bK.callV (id := 7) (qs := [(kI w.Bad)]) Z Z Z (by kernel_rfl) (vr q1) (fun H => (.consC zv .nil)) Z) Z ?_;refine yF (F := []) (s := none) Z (fun H _ => zA Z Z eQ) Z ?_;refine yF Z (zd Z Z Z bl Z Z) Z ?_;refine yF (F := []) (s := none) Z (fun H _ => aw Z Z Z Z) Z ?_;refine yF (F := []) (s := none) Z (fun H _ => ab.build Z AV Z Z Z) Z ?_;refine yF Z (bK.alloc Z jD (id := 8) Z) Z<|yF Z (zt Z Z Z Z bX Z Z Z) Z ?_;refine LF.nil ⟨by kernel_rfl, ?_⟩;refine zT<|zQ<|zQ<|LW.ent (bP.lazyCell (i := 8) (j := 7) (m := 12) Z Z Z Z Z Z)<|LW.ent (bP.lazyCell (i := 8) (j := 8) (m := 9) Z Z Z Z Z Z)<|zR<|yS Z (zA Z Z bp)<|yS Z (zD Z Z Z cG Z Z)<|yS Z (cP Z Z (by kernel_rfl))<|zM Z<|zN<|zT ?_;obtain ⟨v5, hb_v5, ho_v5⟩ := zB hr;clear hr;refine LW.tail (E := [(4, .ptr 1 0), (6, .ptr 8 0)]) (O := [.box (fK w), .box sB, .box (fK w), .box (j9 w v4.1 v4.2.1 v4.2.2.1 v4.2.2.2 87 5 4), .box (j9 w v4.1 v4.2.1 v4.2.2.1 v4.2.2.2 87 5 4), .box [.fn 86 [] [.ptr 2 0]], .box (j9 w v4.1 v4.2.1 v4.2.2.1 v4.2.2.2 87 5 4), .vec 1 (w.Bad.map aC), .box [(kI w.C.W), (uQ w.C.Seed), (iQ w.C.Epoch), (iQ w.C.Num), (iQ w.C.Den), (jI 7 w.Bad), .p (.int .i64 (IntKind.i64.wrap (w.Tick + 1))), .vec 12 9 (v5.o9.map gJ).length 0 (v5.o9.map gJ).length, (jO 10 v5.o10)], .vec 12 (v5.o9.map gJ), .vec 9 (v5.o10.map dG)]) ?_<|fun env_v5 H_v5 hw_v5 => ?_
   ·refine LW.block ?_;refine LW.iterB (E := fun x1 : d5 => [(2, .ptr 0 0), (4, .ptr 1 0), (5, .ptr 6 0), (6, .ptr 8 0), (42, .p (.int .i64 (w.N.length : Int))), (43, (iQ x1.t43))]) (O := fun x1 => [.box (fK w), .box sB, .box (fK w), .box (j9 w v4.1 v4.2.1 v4.2.2.1 v4.2.2.2 87 5 4), .box (j9 w v4.1 v4.2.1 v4.2.2.1 v4.2.2.2 87 5 4), .box [.fn 86 [] [.ptr 2 0]], .box (j9 w v4.1 v4.2.1 v4.2.2.1 v4.2.2.2 87 5 4), .vec 1 (w.Bad.map aC), .box [(kI w.C.W), (uQ w.C.Seed), (iQ w.C.Epoch), (iQ w.C.Num), (iQ w.C.Den), (jI 7 w.Bad), .p (.int .i64 (IntKind.i64.wrap (w.Tick + 1))), .vec 12 9 (x1.o9.map gJ).length 0 (x1.o9.map gJ).length, (jO 10 x1.o10)], .vec 12 (x1.o9.map gJ), .vec 9 (x1.o10.map dG)]) hb_v5 (zW 11 ⟨rfl, rfl, rfl, rfl, rfl, rfl, trivial⟩ Z Z Z Z)<|fun x1 z_x1 hr hb_x1 => ?_;unfold iD at hr;refine zQ<|zR<|yS Z (aw Z Z Z Z)<|zN<|zT<|zQ ?_;refine zX Z (fun g4 => ?_)<|fun g4 => ?_
    ·
     refine zi g4 hr fun hr => zk<|zT<|zQ<|zl<|zQ<|zR<|zM Z<|zM Z<|zN<|zT<|zQ<|zR<|yS Z (zD Z Z Z qw Z Z)<|zM Z<|zb hr fun v6 h_v6 hr => yS Z (zC Z Z Z (by kernel_rfl) (LC.pre (Jq h_v6) Z Z Z))<|zM Z<|yS Z (ed Z Z Z)<|yS Z (ed Z Z Z)<|yS Z (ze Z fS Z Z)<|yS Z (zs Z Z Z Z aM Z Z Z Z)<|zM Z<|zN ?_;refine zT<|zQ<|LW.ent (bP.slot Z)<|LW.drawW (by kernel_rfl) (by kernel_rfl) ?_;refine yF (F := []) (s := none) Z (fun H _ => zA Z Z mh) Z ?_;refine yF Z (zd Z Z Z ca Z Z) Z ?_;refine yF (F := []) (s := none) Z (fun H _ => zA Z Z bp) Z ?_;refine yF Z (zd Z Z Z cG Z Z) Z<|zK Z<|zb hr fun y1 h_y1 hr => ?_;refine yF (F := []) (s := none) Z (fun H _ => zx Z Z Z dN h_y1 Z) Z ?_;refine yF (F := []) (s := none) Z (fun H _ => dj Z Z Z b9 Z Z) Z ?_;refine yF Z (zd Z Z Z aM Z Z) Z<|zK Z<|zb hr fun v7 h_v7 hr => ?_;refine yF (F := []) (s := none) Z (fun H _ => zC Z Z Z (by kernel_rfl) (zp (GI h_v7) (.cons zv (.cons zv (.cons zv (.cons zv .nil)))))) Z ?_;refine zK Z ?_;refine yF (F := []) (s := none) Z (fun H _ => ed Z Z Z) Z ?_;refine yF (F := []) (s := none) Z (fun H _ => ed Z Z Z) Z ?_;refine yF Z (bK.alloc Z nI (id := 12) Z) Z<|yF Z (zt Z Z Z Z b9 Z Z Z) Z<|zK Z ?_;refine LF.nil ⟨by kernel_rfl, ?_⟩;refine zT<|LW.drawW (by kernel_rfl) (by kernel_rfl) ?_;refine yF (F := []) (s := none) Z (fun H _ => zA Z Z bp) Z ?_;refine yF Z (zd Z Z Z cG Z Z) Z<|yF Z (zd Z Z Z b9 Z Z) Z ?_;refine yF (F := []) (s := none) Z (fun H _ => lY Z dN Z Z Z Z Z) Z ?_;refine zg hr fun q2 hr => yF Z (bK.appendX gJ x1.o9 [v7.1] rfl Z Z Z Z dN q2) Z ?_;refine yF (F := []) (s := none) Z (fun H _ => zA Z Z gn) Z ?_;refine yF Z (zd Z Z Z bM Z Z) Z<|zK Z<|zg hr fun q3 hr => yF Z (bK.appendX dG x1.o10 v7.2 Z Z Z Z Z ck q3) Z ?_;refine yF (F := []) (s := none) Z (fun H _ => zA Z Z bp) Z ?_;refine yF Z (zt Z Z Z Z cG Z Z Z) Z ?_;refine yF (F := []) (s := none) Z (fun H _ => zA Z Z gn) Z ?_;refine yF Z (zt Z Z Z Z bM Z Z Z) Z ?_;refine LF.nil ⟨by kernel_rfl, ?_⟩;refine ah<|zT<|zR<|yS Z (aw Z Z Z Z)<|zM Z<|zN<|zT ?_;obtain rfl := zJ hr;exact ⟨_, rfl, zW 11 ⟨rfl, rfl, rfl, rfl, rfl, rfl, trivial⟩ Z Z Z rfl⟩
    ·
     refine zo g4 hr fun hr => zq<|ao<|ao<|zy<|zT ?_;obtain rfl := zJ hr;have hr := congrArg some (hb_x1 _ rfl);obtain rfl := zJ hr;exact zW 11 ⟨Z, Z, trivial⟩ Z Z Z Z
   ·have hr := ho_v5;clear hb_v5;refine zT<|LW.weak hw_v5<|zQ<|zR<|yS Z (zD Z Z Z bX Z Z)<|yS Z (zs Z Z Z Z bX Z Z Z Z)<|zN<|zT<|zr ?_;obtain rfl := zJ hr;exact zf (.one (.cellAgg Z Z (by kernel_rfl) Z))<|(Conv.agg (.cons zv (.cons zv (.cons zv (.cons zv (.cons zv (.cons (Conv.vecAll Z Z Z) (.cons zv (.cons (Conv.vecAll Z Z Z) (.cons (Conv.vecAll Z Z Z) .nil))))))))))
open Go.Proofs
structure dI where
 t19 : Int
 o4 : List Nd
def iC (c : Cf) (bad : List Int) (x1 : dI) : Option (dI ⊕ dI) :=
 bif decide (x1.t19 < (c.W.length : Int)) then
  (sN bad x1.t19).bind fun v3 =>
  bif !v3 then
   (wQ x1.t19).bind fun v4 =>
   bif cg x1.o4.length [v4].length 176 then
    some (.inl (dI.mk (IntKind.i64.wrap (x1.t19 + 1)) (x1.o4 ++ [v4])))
   else none
  else
   some (.inl (dI.mk (IntKind.i64.wrap (x1.t19 + 1)) x1.o4))
 else
  some (.inr (dI.mk x1.t19 x1.o4))
def qQ (c : Cf) (bad : List Int) : Option Wd :=
 bif cg 0 bad.length 8 then
  (xM c).bind fun v1 =>
  bif !v1 then
   some (Wd.mk c bad 0 [] [])
  else
   (iter (iC c bad) bG (dI.mk 0 ([] : List Nd))).bind fun v2 =>
   some (Wd.mk c bad 3 v2.o4 [])
 else none
theorem DU {c : Cf} {bad : List Int} {r_ : Wd} (hr : qQ c bad = some r_) : az Tryz.prog 16 [kT c, .slice 1 (bad.map aC)] [Cq r_] := by
 refine zh Tryz.func16 Z Z Z Z ?_;unfold qQ at hr;refine zQ<|zR<|yS Z (b6 Z Z Z Z Z)<|yS Z (ze Z jD Z Z)<|zN<|zT<|zQ<|LW.ent (bP.slot Z)<|LW.ent (bP.slot Z)<|LW.drawW (by kernel_rfl) (by kernel_rfl)<|yF Z (zd Z Z Z ca Z Z) Z<|zK Z<|zg hr fun q1 hr => ?_;refine yF Z (bK.callV (id := 2) (qs := [(kI bad)]) Z Z Z (by kernel_rfl) (vr q1) (fun H => (.consC zv .nil)) Z) Z ?_;refine yF (F := []) (s := none) Z (fun H _ => ab.build Z AV Z Z Z) Z ?_;refine yF Z (bK.alloc Z jD (id := 3) Z) Z<|yF Z (zt Z Z Z Z bX Z Z Z) Z ?_;refine LF.nil ⟨by kernel_rfl, ?_⟩;refine zT<|zQ<|zQ<|zR<|yS Z (zD Z Z Z ca Z Z)<|zb hr fun v1 h_v1 hr => yS Z (zC Z Z Z (by kernel_rfl) (zp (EZ h_v1) (.cons zv .nil)))<|yS Z (ab.not Z Z)<|zN<|zT ?_;refine zX Z (fun g1 => ?_)<|fun g1 => ?_
 ·
  refine zi g1 hr fun hr => zQ<|zR<|yS Z (zD Z Z Z bX Z Z)<|yS Z (zs Z Z Z Z bX Z Z Z Z)<|zN<|zT<|zr<|af ?_;obtain rfl := zJ hr;exact zf (.one (.cellAgg Z Z (by kernel_rfl) Z))<|(Conv.agg (.cons zv (.cons zv (.cons zv (.cons zv (.cons zv (.cons (Conv.vecAll Z Z Z) (.cons zv (.cons Conv.zs (.cons Conv.zs .nil))))))))))
 ·
  refine zo g1 hr fun hr => zk<|zT<|zQ<|zR<|yS Z (zA Z Z eQ)<|yS Z (zs Z Z Z Z bl Z Z Z Z)<|zN<|zT<|zQ<|zQ<|LW.ent (bP.lazyCell (i := 3) (j := 7) (m := 12) Z Z Z Z Z Z)<|zR<|yS Z (zA Z Z gu)<|yS Z (zD Z Z Z gG Z Z)<|yS Z (cP Z Z (by kernel_rfl))<|zM Z<|zN<|zT ?_;obtain ⟨v2, hb_v2, ho_v2⟩ := zB hr;clear hr;refine LW.tail (E := [(4, .ptr 1 0), (5, .ptr 3 0)]) (O := [.box (bO c), .box sB, .vec 1 (bad.map aC), .box [(kI c.W), (uQ c.Seed), (iQ c.Epoch), (iQ c.Num), (iQ c.Den), (jI 2 bad), (iQ 3), .vec 12 4 (v2.o4.map gJ).length 0 (v2.o4.map gJ).length, .zs], .vec 12 (v2.o4.map gJ)]) ?_<|fun env_v2 H_v2 hw_v2 => ?_
  ·refine LW.block ?_;refine LW.iterB (E := fun x1 : dI => [(1, (kI bad)), (4, .ptr 1 0), (5, .ptr 3 0), (18, .p (.int .i64 (c.W.length : Int))), (19, (iQ x1.t19))]) (O := fun x1 => [.box (bO c), .box sB, .vec 1 (bad.map aC), .box [(kI c.W), (uQ c.Seed), (iQ c.Epoch), (iQ c.Num), (iQ c.Den), (jI 2 bad), (iQ 3), .vec 12 4 (x1.o4.map gJ).length 0 (x1.o4.map gJ).length, .zs], .vec 12 (x1.o4.map gJ)]) hb_v2 (zW 5 ⟨rfl, rfl, rfl, rfl, rfl, trivial⟩ Z Z Z Z)<|fun x1 z_x1 hr hb_x1 => ?_;unfold iC at hr;refine zQ<|zR<|yS Z (aw Z Z Z Z)<|zN<|zT<|zQ ?_;refine zX Z (fun g2 => ?_)<|fun g2 => ?_
   ·
    refine zi g2 hr fun hr => zk<|zT<|zQ<|zl<|zQ<|zR<|zM Z<|zM Z<|zN<|zT<|zQ<|zR<|zM Z<|zM Z<|zb hr fun v3 h_v3 hr => yS Z (zC Z Z Z (by kernel_rfl) (zp (C8 h_v3) (.cons zv (.cons zv .nil))))<|yS Z (ab.not Z Z)<|zN<|zT ?_;refine zX Z (fun g3 => ?_)<|fun g3 => ?_
    ·
     refine zi g3 hr fun hr => LW.drawW (by kernel_rfl) (by kernel_rfl) ?_;refine yF (F := []) (s := none) Z (fun H _ => zA Z Z bp) Z ?_;refine yF Z (zd Z Z Z cG Z Z) Z<|zK Z<|zb hr fun v4 h_v4 hr => ?_;refine yF (F := []) (s := none) Z (fun H _ => zC Z Z Z (by kernel_rfl) (zp (GL h_v4) (.cons zv .nil))) Z ?_;refine yF (F := []) (s := none) Z (fun H _ => lY Z dN Z Z Z Z Z) Z ?_;refine zg hr fun q2 hr => yF Z (bK.appendX gJ x1.o4 [v4] rfl Z Z Z Z dN q2) Z ?_;refine yF (F := []) (s := none) Z (fun H _ => zA Z Z bp) Z ?_;refine yF Z (zt Z Z Z Z cG Z Z Z) Z ?_;refine LF.nil ⟨by kernel_rfl, ?_⟩;refine ah<|zT<|zR<|yS Z (aw Z Z Z Z)<|zM Z<|zN<|zT ?_;obtain rfl := zJ hr;exact ⟨_, rfl, zW 5 ⟨rfl, rfl, rfl, rfl, rfl, trivial⟩ Z Z Z rfl⟩
    ·
     refine zo g3 hr fun hr => zk<|ah<|zT<|zR<|yS Z (aw Z Z Z Z)<|zM Z<|zN<|zT ?_;obtain rfl := zJ hr;exact ⟨_, rfl, zW 5 ⟨rfl, rfl, rfl, rfl, rfl, trivial⟩ Z Z Z rfl⟩
   ·
    refine zo g2 hr fun hr => zq<|ao<|ao<|zy<|zT ?_;obtain rfl := zJ hr;have hr := congrArg some (hb_x1 _ rfl);obtain rfl := zJ hr;exact zW 5 ⟨Z, Z, trivial⟩ Z Z Z Z
  ·have hr := ho_v2;clear hb_v2;refine zT<|LW.weak hw_v2<|zQ<|zR<|yS Z (zD Z Z Z bX Z Z)<|yS Z (zs Z Z Z Z bX Z Z Z Z)<|zN<|zT<|zr ?_;obtain rfl := zJ hr;exact zf (.one (.cellAgg Z Z (by kernel_rfl) Z))<|(Conv.agg (.cons zv (.cons zv (.cons zv (.cons zv (.cons zv (.cons (Conv.vecAll Z Z Z) (.cons zv (.cons (Conv.vecAll Z Z Z) (.cons Conv.zs .nil))))))))))
structure d6 where
 t11 : Int
 w : Wd
def iE (l : List Ac) (ticks : Int) (x1 : d6) : Option (d6 ⊕ d6) :=
 bif decide (x1.t11 < (if 300 < ticks then 300 else ticks)) then
  (nL x1.w l).bind fun v3 =>
  some (.inl (d6.mk (IntKind.i64.wrap (x1.t11 + 1)) v3))
 else
  some (.inr (d6.mk x1.t11 x1.w))
def oU (w : Wd) (l : List Ac) (ticks : Int) : Option Wd :=
 (nM w).bind fun _ =>
 (iter (iE l ticks) bG (d6.mk 0 w)).bind fun v2 =>
 some v2.w
theorem DW {w : Wd} {l : List Ac} {ticks : Int} {r_ : Wd} (hr : oU w l ticks = some r_) : az Tryz.prog 31 [Cq w, .slice 5 (l.map nP), .int .i64 ticks] [Cq r_] := by
 refine zh Tryz.func31 Z Z Z Z ?_;unfold oU at hr;refine zQ<|zR<|yS Z (b6 Z Z Z Z Z)<|yS Z (ze Z jD Z Z)<|zN<|zT<|zQ<|zR<|yS Z (zD Z Z Z bX Z Z)<|zb hr fun v1 h_v1 hr => ?_;obtain rfl := ta h_v1;refine yS Z (zC Z Z Z (by kernel_rfl) (zp (DX h_v1) (.cons zv .nil)))<|yS Z (zs Z Z Z Z bX Z Z Z Z)<|zN<|zT<|zQ<|zQ<|zR<|zM Z<|yS Z (ab.min Z Z Z)<|zM Z<|zN<|zT ?_;obtain ⟨v2, hb_v2, ho_v2⟩ := zB hr;clear hr;refine LW.tail (E := [(3, .ptr 0 0), (6, .ptr 1 0)]) (O := [.box (fK v2.w), .box sB]) ?_<|fun env_v2 H_v2 hw_v2 => ?_
 ·refine LW.block ?_;refine LW.iterB (E := fun x1 : d6 => [(1, .p (.slice 5 (l.map nP))), (3, .ptr 0 0), (6, .ptr 1 0), (10, .p (.int .i64 (if 300 < ticks then 300 else ticks))), (11, (iQ x1.t11))]) (O := fun x1 => [.box (fK x1.w), .box sB]) hb_v2 (zW 2 ⟨rfl, rfl, rfl, rfl, rfl, trivial⟩ Z Z Z Z)<|fun x1 z_x1 hr hb_x1 => ?_;unfold iE at hr;refine zQ<|zR<|yS Z (aw Z Z Z Z)<|zN<|zT<|zQ ?_;refine zX Z (fun g1 => ?_)<|fun g1 => ?_
  ·
   refine zi g1 hr fun hr => zk<|zT<|zQ<|zl<|zR<|yS Z (zD Z Z Z bX Z Z)<|zM Z<|zb hr fun v3 h_v3 hr => yS Z (zC Z Z Z (by kernel_rfl) (zp (DV h_v3) (.cons zv (.cons zv .nil))))<|yS Z (zs Z Z Z Z bX Z Z Z Z)<|zN<|ah<|zT<|zR<|yS Z (aw Z Z Z Z)<|zM Z<|zN<|zT ?_;obtain rfl := zJ hr;exact ⟨_, rfl, zW 2 ⟨rfl, rfl, rfl, rfl, rfl, trivial⟩ Z Z Z rfl⟩
  ·
   refine zo g1 hr fun hr => zq<|ao<|ao<|zy<|zT ?_;obtain rfl := zJ hr;have hr := congrArg some (hb_x1 _ rfl);obtain rfl := zJ hr;exact zW 2 ⟨Z, Z, trivial⟩ Z Z Z Z
 ·have hr := ho_v2;clear hb_v2;refine zT<|LW.weak hw_v2<|zQ<|zR<|yS Z (zD Z Z Z bX Z Z)<|yS Z (zs Z Z Z Z bX Z Z Z Z)<|zN<|zT<|zr ?_;obtain rfl := zJ hr;exact zf (.one (.cellAgg Z Z (by kernel_rfl) Z)) zv
open Go.Proofs
structure ga where
 t13 : Int
def sX (s1 : List Bk) (s2 : List Bk) (x1 : ga) : Option (ga ⊕ (ga ⊕ Bool)) :=
 bif decide (x1.t13 < (s1.length : Int)) then
  (ix s1 x1.t13).bind fun y1 =>
  (ix s2 x1.t13).bind fun y2 =>
  bif !((y1.Slot == y2.Slot) && ((y1.From == y2.From) && ((y1.Parent.1 == y2.Parent.1) && ((y1.Parent.2 == y2.Parent.2) && ((y1.Salt == y2.Salt) && true))))) then
   some (.inr (.inr false))
  else
   some (.inl (ga.mk (IntKind.i64.wrap (x1.t13 + 1))))
 else
  some (.inr (.inl (ga.mk x1.t13)))
def Am (s1 : List Bk) (s2 : List Bk) : Option Bool :=
 bif (s1.length : Int) != (s2.length : Int) then
  some false
 else
  (iter (sX s1 s2) bG (ga.mk 0)).bind fun b_v1 => Sum.elim (fun _ =>
   some true) some b_v1
theorem GQ {s1 : List Bk} {s2 : List Bk} {r_ : Bool} (hr : Am s1 s2 = some r_) : az Tryz.prog 175 [.slice 5 (s1.map au), .slice 5 (s2.map au)] [.bool r_] := by
 refine zh Tryz.func175 Z Z Z Z ?_;unfold Am at hr;refine zQ<|zR<|zM Z<|zN<|zT<|zQ<|zQ<|zR<|zM Z<|yS Z (cP Z Z (by kernel_rfl))<|zM Z<|yS Z (cP Z Z (by kernel_rfl))<|yS Z (aw Z Z Z Z)<|zN<|zT ?_;refine zX Z (fun g1 => ?_)<|fun g1 => ?_
 ·
  refine zi g1 hr fun hr => zQ<|zR<|zM Z<|zN<|zT<|zr<|af ?_;obtain rfl := zJ hr;exact zf (.one (.tmp Z)) zv
 ·
  refine zo g1 hr fun hr => zk<|zT<|zQ<|zQ<|zR<|zM Z<|yS Z (cP Z Z (by kernel_rfl))<|zM Z<|zN<|zT ?_;obtain ⟨b_v1, hb_v1, ho_v1⟩ := zB hr;clear hr;refine LW.tailB (b := b_v1) (E := fun v1 => [(4, (bQ false))]) (O := fun v1 => []) ?_<|fun v1 e_v1 env_v1 H_v1 hw_v1 => ?_
  ·refine LW.block ?_;refine LW.iterB (E := fun x1 : ga => [(0, (kB s1)), (1, (kB s2)), (4, (bQ false)), (12, .p (.int .i64 (s1.length : Int))), (13, (iQ x1.t13))]) (O := fun x1 => []) hb_v1 (zW 0 ⟨rfl, rfl, rfl, rfl, rfl, trivial⟩ Z Z Z Z)<|fun x1 z_x1 hr hb_x1 => ?_;unfold sX at hr;refine zQ<|zR<|yS Z (aw Z Z Z Z)<|zN<|zT<|zQ ?_;refine zX Z (fun g2 => ?_)<|fun g2 => ?_
   ·
    refine zi g2 hr fun hr => zk<|zT<|zQ<|zl<|zQ<|zR<|zM Z<|zM Z<|zN<|zT<|zQ<|LW.draw2 (by kernel_rfl) (by kernel_rfl)<|zH Z<|zH Z<|zb hr fun y1 h_y1 hr => yE Z (zx Z Z Z cR h_y1 Z)<|yE Z (dj Z Z Z bY Z Z)<|zH Z<|zH Z<|zb hr fun y2 h_y2 hr => yE Z (zx Z Z Z cR h_y2 Z)<|yE Z (dj Z Z Z bY Z Z)<|yE Z (ab.neqAgg Z Z Z Z Z w6) ?_;refine LO.nil<|zT ?_;refine zX Z (fun g3 => ?_)<|fun g3 => ?_
    ·
     refine zi g3 hr fun hr => zQ<|zR<|zM Z<|zN<|zT<|zr<|aq<|af<|af<|aq<|af<|af ?_;obtain rfl := zJ hr;have hr := congrArg some (hb_x1 _ rfl);obtain rfl := zJ hr;have hr := da ho_v1;obtain rfl := zJ hr;exact zf (.one (.tmp Z)) zv
    ·
     refine zo g3 hr fun hr => zk<|ah<|zT<|zR<|yS Z (aw Z Z Z Z)<|zM Z<|zN<|zT ?_;obtain rfl := zJ hr;exact ⟨_, rfl, zW 0 ⟨rfl, rfl, rfl, rfl, rfl, trivial⟩ Z Z Z rfl⟩
   ·
    refine zo g2 hr fun hr => zq<|ao<|ao<|zy<|zT ?_;obtain rfl := zJ hr;have hr := congrArg some (hb_x1 _ rfl);obtain rfl := zJ hr;exact ⟨_, rfl, zW 0 ⟨rfl, trivial⟩ Z Z Z rfl⟩
  ·obtain rfl := e_v1;have hr := eG ho_v1;clear hb_v1;refine zT<|LW.weak hw_v1<|zQ<|zR<|zM Z<|zN<|zT<|zr ?_;obtain rfl := zJ hr;exact zf (.one (.tmp Z)) zv
structure gb where
 t13 : Int
def sY (s1 : List Vt) (s2 : List Vt) (x1 : gb) : Option (gb ⊕ (gb ⊕ Bool)) :=
 bif decide (x1.t13 < (s1.length : Int)) then
  (ix s1 x1.t13).bind fun y1 =>
  (ix s2 x1.t13).bind fun y2 =>
  bif !((y1.From == y2.From) && ((y1.Slot == y2.Slot) && ((y1.Head.1 == y2.Head.1) && ((y1.Head.2 == y2.Head.2) && true)))) then
   some (.inr (.inr false))
  else
   some (.inl (gb.mk (IntKind.i64.wrap (x1.t13 + 1))))
 else
  some (.inr (.inl (gb.mk x1.t13)))
def An (s1 : List Vt) (s2 : List Vt) : Option Bool :=
 bif (s1.length : Int) != (s2.length : Int) then
  some false
 else
  (iter (sY s1 s2) bG (gb.mk 0)).bind fun b_v1 => Sum.elim (fun _ =>
   some true) some b_v1
theorem GR {s1 : List Vt} {s2 : List Vt} {r_ : Bool} (hr : An s1 s2 = some r_) : az Tryz.prog 176 [.slice 4 (s1.map aD), .slice 4 (s2.map aD)] [.bool r_] := by
 refine zh Tryz.func176 Z Z Z Z ?_;unfold An at hr;refine zQ<|zR<|zM Z<|zN<|zT<|zQ<|zQ<|zR<|zM Z<|yS Z (cP Z Z (by kernel_rfl))<|zM Z<|yS Z (cP Z Z (by kernel_rfl))<|yS Z (aw Z Z Z Z)<|zN<|zT ?_;refine zX Z (fun g1 => ?_)<|fun g1 => ?_
 ·
  refine zi g1 hr fun hr => zQ<|zR<|zM Z<|zN<|zT<|zr<|af ?_;obtain rfl := zJ hr;exact zf (.one (.tmp Z)) zv
 ·
  refine zo g1 hr fun hr => zk<|zT<|zQ<|zQ<|zR<|zM Z<|yS Z (cP Z Z (by kernel_rfl))<|zM Z<|zN<|zT ?_;obtain ⟨b_v1, hb_v1, ho_v1⟩ := zB hr;clear hr;refine LW.tailB (b := b_v1) (E := fun v1 => [(4, (bQ false))]) (O := fun v1 => []) ?_<|fun v1 e_v1 env_v1 H_v1 hw_v1 => ?_
  ·refine LW.block ?_;refine LW.iterB (E := fun x1 : gb => [(0, (kV s1)), (1, (kV s2)), (4, (bQ false)), (12, .p (.int .i64 (s1.length : Int))), (13, (iQ x1.t13))]) (O := fun x1 => []) hb_v1 (zW 0 ⟨rfl, rfl, rfl, rfl, rfl, trivial⟩ Z Z Z Z)<|fun x1 z_x1 hr hb_x1 => ?_;unfold sY at hr;refine zQ<|zR<|yS Z (aw Z Z Z Z)<|zN<|zT<|zQ ?_;refine zX Z (fun g2 => ?_)<|fun g2 => ?_
   ·
    refine zi g2 hr fun hr => zk<|zT<|zQ<|zl<|zQ<|zR<|zM Z<|zM Z<|zN<|zT<|zQ<|LW.draw2 (by kernel_rfl) (by kernel_rfl)<|zH Z<|zH Z<|zb hr fun y1 h_y1 hr => yE Z (zx Z Z Z cF h_y1 Z)<|yE Z (dj Z Z Z bZ Z Z)<|zH Z<|zH Z<|zb hr fun y2 h_y2 hr => yE Z (zx Z Z Z cF h_y2 Z)<|yE Z (dj Z Z Z bZ Z Z)<|yE Z (ab.neqAgg Z Z Z Z Z Bd) ?_;refine LO.nil<|zT ?_;refine zX Z (fun g3 => ?_)<|fun g3 => ?_
    ·
     refine zi g3 hr fun hr => zQ<|zR<|zM Z<|zN<|zT<|zr<|aq<|af<|af<|aq<|af<|af ?_;obtain rfl := zJ hr;have hr := congrArg some (hb_x1 _ rfl);obtain rfl := zJ hr;have hr := da ho_v1;obtain rfl := zJ hr;exact zf (.one (.tmp Z)) zv
    ·
     refine zo g3 hr fun hr => zk<|ah<|zT<|zR<|yS Z (aw Z Z Z Z)<|zM Z<|zN<|zT ?_;obtain rfl := zJ hr;exact ⟨_, rfl, zW 0 ⟨rfl, rfl, rfl, rfl, rfl, trivial⟩ Z Z Z rfl⟩
   ·
    refine zo g2 hr fun hr => zq<|ao<|ao<|zy<|zT ?_;obtain rfl := zJ hr;have hr := congrArg some (hb_x1 _ rfl);obtain rfl := zJ hr;exact ⟨_, rfl, zW 0 ⟨rfl, trivial⟩ Z Z Z rfl⟩
  ·obtain rfl := e_v1;have hr := eG ho_v1;clear hb_v1;refine zT<|LW.weak hw_v1<|zQ<|zR<|zM Z<|zN<|zT<|zr ?_;obtain rfl := zJ hr;exact zf (.one (.tmp Z)) zv
def sV (a : Vw) (b : Vw) : Option Bool :=
 (Am a.B b.B).bind fun v1 =>
 bif v1 then
  (An a.V b.V).bind fun v2 =>
  some v2
 else
  some false
theorem A1 {a : Vw} {b : Vw} {r_ : Bool} (hr : sV a b = some r_) : az Tryz.prog 162 [k7 a, k7 b] [.bool r_] := by
 refine zh Tryz.func162 Z Z Z Z ?_;unfold sV at hr;refine zQ<|zR<|yS Z (b6 Z Z Z Z Z)<|yS Z (b6 Z Z Z Z Z)<|zM Z<|zN<|zT<|zQ<|zR<|yS Z (zA Z Z aL)<|yS Z (zD Z Z Z ch Z Z)<|yS Z (zA Z Z aL)<|yS Z (zD Z Z Z ch Z Z)<|zb hr fun v1 h_v1 hr => yS Z (zC Z Z Z (by kernel_rfl) (zp (GQ h_v1) (.cons zv (.cons zv .nil))))<|zM Z ?_;refine zc 10 Z (fun g1 => ?_)<|fun g1 => ?_
 ·
  refine zi g1 hr fun hr => yV Z (gd g1 Z) (zA Z Z a7)<|yV Z (gd g1 Z) (zD Z Z Z dc Z Z)<|yV Z (gd g1 Z) (zA Z Z a7)<|yV Z (gd g1 Z) (zD Z Z Z dc Z Z)<|zb hr fun v2 h_v2 hr => yV Z (gd g1 Z) (zC Z Z Z (by kernel_rfl) (zp (GR h_v2) (.cons zv (.cons zv .nil))))<|yS Z (cS Z (a8 g1 Z) Z)<|zM Z<|zN<|zT<|zr ?_;obtain rfl := zJ hr;exact zf (.one (.tmp Z)) zv
 ·
  refine zo g1 hr fun hr => yU Z (gd g1 Z) Z<|yU Z (gd g1 Z) Z<|yU Z (gd g1 Z) Z<|yU Z (gd g1 Z) Z<|yU Z (gd g1 Z) Z<|yS Z (bN Z (a8 g1 Z) Z)<|zM Z<|zN<|zT<|zr ?_;obtain rfl := zJ hr;exact zf (.one (.tmp Z)) zv
def Ak (x : Of) (y : Of) : Option Bool :=
 bif x.Slot == y.Slot then
  bif x.From == y.From then
   bif ((x.B.Slot == y.B.Slot) && ((x.B.From == y.B.From) && ((x.B.Parent.1 == y.B.Parent.1) && ((x.B.Parent.2 == y.B.Parent.2) && ((x.B.Salt == y.B.Salt) && true))))) then
    (sV x.V y.V).bind fun v1 =>
    some v1
   else
    some false
  else
   some false
 else
  some false
theorem GN {x : Of} {y : Of} {r_ : Bool} (hr : Ak x y = some r_) : az Tryz.prog 161 [dG x, dG y] [.bool r_] := by
 refine zh Tryz.func161 Z Z Z Z ?_;unfold Ak at hr;refine zQ<|zR<|yS Z (b6 Z Z Z Z Z)<|yS Z (b6 Z Z Z Z Z)<|zM Z<|zN<|zT<|zQ<|zR<|yS Z (zA Z Z pG)<|yS Z (zD Z Z Z bl Z Z)<|yS Z (zA Z Z pG)<|yS Z (zD Z Z Z bl Z Z)<|yS Z (aw Z Z Z Z)<|zM Z ?_;refine zc 10 Z (fun g1 => ?_)<|fun g1 => ?_
 ·
  refine zi g1 hr fun hr => yV Z (gd g1 Z) (zA Z Z pH)<|yV Z (gd g1 Z) (zD Z Z Z bl Z Z)<|yV Z (gd g1 Z) (zA Z Z pH)<|yV Z (gd g1 Z) (zD Z Z Z bl Z Z)<|yV Z (gd g1 Z) (aw Z Z Z Z)<|yS Z (cS Z (a8 g1 Z) Z)<|zM Z ?_;refine zc 17 Z (fun g2 => ?_)<|fun g2 => ?_
  ·
   refine zi g2 hr fun hr => yV Z (gd g2 Z) (zA Z Z pI)<|yV Z (gd g2 Z) (zD Z Z Z bY Z Z)<|yV Z (gd g2 Z) (zA Z Z pI)<|yV Z (gd g2 Z) (zD Z Z Z bY Z Z)<|yV Z (gd g2 Z) (ab.eqlAgg Z Z Z Z Z w6)<|yS Z (cS Z (a8 g2 Z) Z)<|zM Z ?_;refine zc 24 Z (fun g3 => ?_)<|fun g3 => ?_
   ·
    refine zi g3 hr fun hr => yV Z (gd g3 Z) (zA Z Z gr)<|yV Z (gd g3 Z) (zD Z Z Z aM Z Z)<|yV Z (gd g3 Z) (zA Z Z gr)<|yV Z (gd g3 Z) (zD Z Z Z aM Z Z)<|zb hr fun v1 h_v1 hr => yV Z (gd g3 Z) (zC Z Z Z (by kernel_rfl) (zp (A1 h_v1) (.cons zv (.cons zv .nil))))<|yS Z (cS Z (a8 g3 Z) Z)<|zM Z<|zN<|zT<|zr ?_;obtain rfl := zJ hr;exact zf (.one (.tmp Z)) zv
   ·
    refine zo g3 hr fun hr => yU Z (gd g3 Z) Z<|yU Z (gd g3 Z) Z<|yU Z (gd g3 Z) Z<|yU Z (gd g3 Z) Z<|yU Z (gd g3 Z) Z<|yS Z (bN Z (a8 g3 Z) Z)<|zM Z<|zN<|zT<|zr ?_;obtain rfl := zJ hr;exact zf (.one (.tmp Z)) zv
  ·
   refine zo g2 hr fun hr => yU Z (gd g2 Z) Z<|yU Z (gd g2 Z) Z<|yU Z (gd g2 Z) Z<|yU Z (gd g2 Z) Z<|yU Z (gd g2 Z) Z<|yS Z (bN Z (a8 g2 Z) Z)<|zM Z<|yU Z Z Z<|yU Z Z Z<|yU Z Z Z<|yU Z Z Z<|yU Z Z Z<|yS Z (bN Z Z Z)<|zM Z<|zN<|zT<|zr ?_;obtain rfl := zJ hr;exact zf (.one (.tmp Z)) zv
 ·
  refine zo g1 hr fun hr => yU Z (gd g1 Z) Z<|yU Z (gd g1 Z) Z<|yU Z (gd g1 Z) Z<|yU Z (gd g1 Z) Z<|yU Z (gd g1 Z) Z<|yS Z (bN Z (a8 g1 Z) Z)<|zM Z<|yU Z Z Z<|yU Z Z Z<|yU Z Z Z<|yU Z Z Z<|yU Z Z Z<|yS Z (bN Z Z Z)<|zM Z<|yU Z Z Z<|yU Z Z Z<|yU Z Z Z<|yU Z Z Z<|yU Z Z Z<|yS Z (bN Z Z Z)<|zM Z<|zN<|zT ?_;refine LW.ret ?_;obtain rfl := zJ hr;exact zf (.one (.tmp Z)) zv
structure i9 where
 t17 : Int
def wW (s1 : List Of) (s2 : List Of) (x1 : i9) : Option (i9 ⊕ (i9 ⊕ Bool)) :=
 bif decide (x1.t17 < (s1.length : Int)) then
  (ix s1 x1.t17).bind fun y1 =>
  (ix s2 x1.t17).bind fun y2 =>
  (Ak y1 y2).bind fun v2 =>
  bif !v2 then
   some (.inr (.inr false))
  else
   some (.inl (i9.mk (IntKind.i64.wrap (x1.t17 + 1))))
 else
  some (.inr (.inl (i9.mk x1.t17)))
def EG (s1 : List Of) (s2 : List Of) : Option Bool :=
 bif (s1.length : Int) != (s2.length : Int) then
  some false
 else
  (iter (wW s1 s2) bG (i9.mk 0)).bind fun b_v1 => Sum.elim (fun _ =>
   some true) some b_v1
theorem Hg {s1 : List Of} {s2 : List Of} {r_ : Bool} (hr : EG s1 s2 = some r_) : LC Tryz.prog 160 [(kO s1), (kO s2), .fn 161 [] []] [] (Is (bQ r_) []) := by
 refine dA Tryz.func160 Z Z Z ?_;unfold EG at hr;refine zQ<|zR<|zM Z<|zN<|zT<|zQ<|zQ<|zR<|zM Z<|yS Z (cP Z Z (by kernel_rfl))<|zM Z<|yS Z (cP Z Z (by kernel_rfl))<|yS Z (aw Z Z Z Z)<|zN<|zT ?_;refine zX Z (fun g1 => ?_)<|fun g1 => ?_
 ·
  refine zi g1 hr fun hr => zQ<|zR<|zM Z<|zN<|zT<|zr<|af ?_;obtain rfl := zJ hr;exact ap (.one (.tmp Z))<|⟨rfl, rfl⟩
 ·
  refine zo g1 hr fun hr => zk<|zT<|zQ<|zQ<|zR<|zM Z<|yS Z (cP Z Z (by kernel_rfl))<|zM Z<|zN<|zT ?_;obtain ⟨b_v1, hb_v1, ho_v1⟩ := zB hr;clear hr;refine LW.tailB (b := b_v1) (E := fun v1 => [(6, (bQ false))]) (O := fun v1 => []) ?_<|fun v1 e_v1 env_v1 H_v1 hw_v1 => ?_
  ·refine LW.block ?_;refine LW.iterB (E := fun x1 : i9 => [(1, (kO s2)), (2, .fn 161 [] []), (6, (bQ false)), (15, (kO s1)), (16, .p (.int .i64 (s1.length : Int))), (17, (iQ x1.t17))]) (O := fun x1 => []) hb_v1 (zW 0 ⟨rfl, rfl, rfl, rfl, rfl, rfl, trivial⟩ Z Z Z Z)<|fun x1 z_x1 hr hb_x1 => ?_;unfold wW at hr;refine zQ<|zR<|yS Z (aw Z Z Z Z)<|zN<|zT<|zQ ?_;refine zX Z (fun g2 => ?_)<|fun g2 => ?_
   ·
    refine zi g2 hr fun hr => zk<|zT<|zQ<|zl<|zQ<|zR<|zM Z<|zb hr fun y1 h_y1 hr => yS Z (zx Z Z Z ck h_y1 Z)<|yS Z (dj Z Z Z dV Z Z)<|yS Z (ze Z nJ Z Z)<|zM Z<|yS Z (zs Z Z Z Z dV Z Z Z Z)<|zN<|zT<|zQ<|zR<|zM Z<|zM Z<|zb hr fun y2 h_y2 hr => yS Z (zx Z Z Z ck h_y2 Z)<|yS Z (dj Z Z Z dV Z Z)<|yS Z (ze Z nJ Z Z) ?_;refine yS Z (zs Z Z Z Z dV Z Z Z Z)<|zN<|zT<|zQ<|zR<|zM Z<|yS Z (zD Z Z Z dV Z Z)<|yS Z (zD Z Z Z dV Z Z)<|zb hr fun v2 h_v2 hr => yS Z (zC Z Z Z (by kernel_rfl) (zp (GN h_v2) (.cons zv (.cons zv .nil))))<|yS Z (ab.not Z Z)<|zN<|zT ?_;refine zX Z (fun g3 => ?_)<|fun g3 => ?_
    ·
     refine zi g3 hr fun hr => zQ<|zR<|zM Z<|zN<|zT<|zr<|aq<|af<|af<|aq<|af<|af ?_;obtain rfl := zJ hr;have hr := congrArg some (hb_x1 _ rfl);obtain rfl := zJ hr;have hr := da ho_v1;obtain rfl := zJ hr;exact aX (env' := [(6, (bQ false))]) (H' := []) (zW 0 ⟨rfl, trivial⟩ Z Z Z Z) (.one (.tmp Z))<|⟨rfl, rfl⟩
    ·
     refine zo g3 hr fun hr => zk<|ah<|zT<|zR<|yS Z (aw Z Z Z Z)<|zM Z<|zN<|zT ?_;obtain rfl := zJ hr;exact ⟨_, rfl, zW 0 ⟨rfl, rfl, rfl, rfl, rfl, rfl, trivial⟩ Z Z Z rfl⟩
   ·
    refine zo g2 hr fun hr => zq<|ao<|ao<|zy<|zT ?_;obtain rfl := zJ hr;have hr := congrArg some (hb_x1 _ rfl);obtain rfl := zJ hr;exact ⟨_, rfl, zW 0 ⟨rfl, trivial⟩ Z Z Z rfl⟩
  ·obtain rfl := e_v1;have hr := eG ho_v1;clear hb_v1;refine zT<|LW.weak hw_v1<|zQ<|zR<|zM Z<|zN<|zT<|zr ?_;obtain rfl := zJ hr;exact ap (.one (.tmp Z))<|⟨rfl, rfl⟩
def wP (a : Nd) (b : Nd) : Option Bool :=
 (EG a.O b.O).bind fun v1 =>
 bif v1 then
  (sV a.V b.V).bind fun v2 =>
  bif v2 then
   (sV a.In b.In).bind fun v3 =>
   bif v3 then
    bif a.No == b.No then
     bif a.Tick == b.Tick then
      bif ((a.C.ID.1 == b.C.ID.1) && ((a.C.ID.2 == b.C.ID.2) && ((a.C.Slot == b.C.Slot) && ((a.C.Revoked == b.C.Revoked) && true)))) then
       some (a.Full == b.Full)
      else
       some false
     else
      some false
    else
     some false
   else
    some false
  else
   some false
 else
  some false
theorem DS {a : Nd} {b : Nd} {r_ : Bool} (hr : wP a b = some r_) : az Tryz.prog 120 [gJ a, gJ b] [.bool r_] := by
 refine zh Tryz.func120 Z Z Z Z ?_;unfold wP at hr;refine zQ<|zR<|yS Z (b6 Z Z Z Z Z)<|yS Z (b6 Z Z Z Z Z)<|zM Z<|zN<|zT<|zQ<|zR<|yS Z (zA Z Z ce)<|yS Z (zD Z Z Z bM Z Z)<|yS Z (zA Z Z ce)<|yS Z (zD Z Z Z bM Z Z)<|zb hr fun v1 h_v1 hr => yS Z (zC Z Z Z (by kernel_rfl) (LC.pre (Hg h_v1) Z Z Z))<|zM Z<|zN<|zT<|zQ<|zR<|zM Z<|zM Z ?_;refine zc 12 Z (fun g1 => ?_)<|fun g1 => ?_
 ·
  refine zi g1 hr fun hr => yV Z (gd g1 Z) (zA Z Z bT)<|yV Z (gd g1 Z) (zD Z Z Z aM Z Z)<|yV Z (gd g1 Z) (zA Z Z bT)<|yV Z (gd g1 Z) (zD Z Z Z aM Z Z)<|zb hr fun v2 h_v2 hr => yV Z (gd g1 Z) (zC Z Z Z (by kernel_rfl) (zp (A1 h_v2) (.cons zv (.cons zv .nil))))<|yS Z (cS Z (a8 g1 Z) Z)<|zM Z ?_;refine zc 19 Z (fun g2 => ?_)<|fun g2 => ?_
  ·
   refine zi g2 hr fun hr => yV Z (gd g2 Z) (zA Z Z bU)<|yV Z (gd g2 Z) (zD Z Z Z aM Z Z)<|yV Z (gd g2 Z) (zA Z Z bU)<|yV Z (gd g2 Z) (zD Z Z Z aM Z Z)<|zb hr fun v3 h_v3 hr => yV Z (gd g2 Z) (zC Z Z Z (by kernel_rfl) (zp (A1 h_v3) (.cons zv (.cons zv .nil))))<|yS Z (cS Z (a8 g2 Z) Z)<|zM Z ?_;refine zc 26 Z (fun g3 => ?_)<|fun g3 => ?_
   ·
    refine zi g3 hr fun hr => yV Z (gd g3 Z) (zA Z Z gp)<|yV Z (gd g3 Z) (zD Z Z Z bl Z Z)<|yV Z (gd g3 Z) (zA Z Z gp)<|yV Z (gd g3 Z) (zD Z Z Z bl Z Z)<|yV Z (gd g3 Z) (aw Z Z Z Z)<|yS Z (cS Z (a8 g3 Z) Z)<|zM Z ?_;refine zc 33 Z (fun g4 => ?_)<|fun g4 => ?_
    ·
     refine zi g4 hr fun hr => yV Z (gd g4 Z) (zA Z Z cK)<|yV Z (gd g4 Z) (zD Z Z Z bl Z Z)<|yV Z (gd g4 Z) (zA Z Z cK)<|yV Z (gd g4 Z) (zD Z Z Z bl Z Z)<|yV Z (gd g4 Z) (aw Z Z Z Z)<|yS Z (cS Z (a8 g4 Z) Z)<|zM Z ?_;refine zc 40 Z (fun g5 => ?_)<|fun g5 => ?_
     ·
      refine zi g5 hr fun hr => yV Z (gd g5 Z) (zA Z Z j2)<|yV Z (gd g5 Z) (zD Z Z Z ik Z Z)<|yV Z (gd g5 Z) (zA Z Z j2)<|yV Z (gd g5 Z) (zD Z Z Z ik Z Z)<|yV Z (gd g5 Z) (ab.eqlAgg Z Z Z Z Z Hu)<|yS Z (cS Z (a8 g5 Z) Z)<|zM Z ?_;refine zc 47 Z (fun g6 => ?_)<|fun g6 => ?_
      ·
       refine zi g6 hr fun hr => yV Z (gd g6 Z) (zA Z Z gq)<|yV Z (gd g6 Z) (zD Z Z Z xx Z Z)<|yV Z (gd g6 Z) (zA Z Z gq)<|yV Z (gd g6 Z) (zD Z Z Z xx Z Z)<|yV Z (gd g6 Z) (ab.eqlBool Z Z Z Tryz.underlying4)<|yS Z (cS Z (a8 g6 Z) Z)<|zM Z<|zN<|zT<|zr ?_;obtain rfl := zJ hr;exact zf (.one (.tmp Z)) zv
      ·
       refine zo g6 hr fun hr => yU Z (gd g6 Z) Z<|yU Z (gd g6 Z) Z<|yU Z (gd g6 Z) Z<|yU Z (gd g6 Z) Z<|yU Z (gd g6 Z) Z<|yS Z (bN Z (a8 g6 Z) Z)<|zM Z<|zN<|zT<|zr ?_;obtain rfl := zJ hr;exact zf (.one (.tmp Z)) zv
     ·
      refine zo g5 hr fun hr => yU Z (gd g5 Z) Z<|yU Z (gd g5 Z) Z<|yU Z (gd g5 Z) Z<|yU Z (gd g5 Z) Z<|yU Z (gd g5 Z) Z<|yS Z (bN Z (a8 g5 Z) Z)<|zM Z<|yU Z Z Z<|yU Z Z Z<|yU Z Z Z<|yU Z Z Z<|yU Z Z Z<|yS Z (bN Z Z Z)<|zM Z<|zN<|zT<|zr ?_;obtain rfl := zJ hr;exact zf (.one (.tmp Z)) zv
    ·
     refine zo g4 hr fun hr => yU Z (gd g4 Z) Z<|yU Z (gd g4 Z) Z<|yU Z (gd g4 Z) Z<|yU Z (gd g4 Z) Z<|yU Z (gd g4 Z) Z<|yS Z (bN Z (a8 g4 Z) Z)<|zM Z<|yU Z Z Z<|yU Z Z Z<|yU Z Z Z<|yU Z Z Z<|yU Z Z Z<|yS Z (bN Z Z Z)<|zM Z<|yU Z Z Z<|yU Z Z Z<|yU Z Z Z<|yU Z Z Z<|yU Z Z Z<|yS Z (bN Z Z Z)<|zM Z<|zN<|zT ?_;refine LW.ret ?_;obtain rfl := zJ hr;exact zf (.one (.tmp Z)) zv
   ·
    refine zo g3 hr fun hr => yU Z (gd g3 Z) Z<|yU Z (gd g3 Z) Z<|yU Z (gd g3 Z) Z<|yU Z (gd g3 Z) Z<|yU Z (gd g3 Z) Z<|yS Z (bN Z (a8 g3 Z) Z)<|zM Z<|yU Z Z Z<|yU Z Z Z<|yU Z Z Z<|yU Z Z Z<|yU Z Z Z<|yS Z (bN Z Z Z)<|zM Z<|yU Z Z Z<|yU Z Z Z<|yU Z Z Z<|yU Z Z Z<|yU Z Z Z<|yS Z (bN Z Z Z)<|zM Z<|yU Z Z Z<|yU Z Z Z ?_;refine yU Z Z Z<|yU Z Z Z<|yU Z Z Z<|yS Z (bN Z Z Z)<|zM Z<|zN<|zT<|zr ?_;obtain rfl := zJ hr;exact zf (.one (.tmp Z)) zv
  ·
   refine zo g2 hr fun hr => yU Z (gd g2 Z) Z<|yU Z (gd g2 Z) Z<|yU Z (gd g2 Z) Z<|yU Z (gd g2 Z) Z<|yU Z (gd g2 Z) Z<|yS Z (bN Z (a8 g2 Z) Z)<|zM Z<|yU Z Z Z<|yU Z Z Z<|yU Z Z Z<|yU Z Z Z<|yU Z Z Z<|yS Z (bN Z Z Z)<|zM Z<|yU Z Z Z<|yU Z Z Z<|yU Z Z Z<|yU Z Z Z<|yU Z Z Z<|yS Z (bN Z Z Z)<|zM Z<|yU Z Z Z<|yU Z Z Z ?_;refine yU Z Z Z<|yU Z Z Z<|yU Z Z Z<|yS Z (bN Z Z Z)<|zM Z<|yU Z Z Z<|yU Z Z Z<|yU Z Z Z<|yU Z Z Z<|yU Z Z Z<|yS Z (bN Z Z Z)<|zM Z<|zN<|zT<|zr ?_;obtain rfl := zJ hr;exact zf (.one (.tmp Z)) zv
 ·
  refine zo g1 hr fun hr => yU Z (gd g1 Z) Z<|yU Z (gd g1 Z) Z<|yU Z (gd g1 Z) Z<|yU Z (gd g1 Z) Z<|yU Z (gd g1 Z) Z<|yS Z (bN Z (a8 g1 Z) Z)<|zM Z<|yU Z Z Z<|yU Z Z Z<|yU Z Z Z<|yU Z Z Z<|yU Z Z Z<|yS Z (bN Z Z Z)<|zM Z<|yU Z Z Z<|yU Z Z Z<|yU Z Z Z<|yU Z Z Z<|yU Z Z Z<|yS Z (bN Z Z Z)<|zM Z<|yU Z Z Z<|yU Z Z Z ?_;refine yU Z Z Z<|yU Z Z Z<|yU Z Z Z<|yS Z (bN Z Z Z)<|zM Z<|yU Z Z Z<|yU Z Z Z<|yU Z Z Z<|yU Z Z Z<|yU Z Z Z<|yS Z (bN Z Z Z)<|zM Z<|yU Z Z Z<|yU Z Z Z<|yU Z Z Z<|yU Z Z Z<|yU Z Z Z<|yS Z (bN Z Z Z)<|zM Z<|zN<|zT<|zr ?_;obtain rfl := zJ hr;exact zf (.one (.tmp Z)) zv
end Go.Mg
