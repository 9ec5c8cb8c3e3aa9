/- What comes at a tick: closures. Nets. A world behind a tick. A world that begins, and goes on. Are two nodes the same? Conditions: none. -/
import Derived.Test.YtbjmcafamkdokaaGreatX3
import Derived.Test.YtbjmcafamkdokaaGreatX7
import Derived.Test.YtbjmcafamkdokaaGreatX6
import Derived.Test.YtbjmcafamkdokaaGreatX5
set_option maxRecDepth 100000
set_option linter.unusedSimpArgs false
set_option linter.unusedVariables false
namespace Go.Mg
open Go.Proofs
theorem ss {w r_ : Wd} (h : ni w = some r_) : w = r_ := by
 unfold ni at h;obtain ⟨_, h⟩ := zG h;obtain ⟨_, h⟩ := zG h;obtain ⟨_, _, h⟩ := zB h;obtain ⟨_, _, h⟩ := zB h;exact zJ h
def Cd (a : Ac) (w : Wd) : Option Bool :=
 bif a.Tick == w.Tick then
  some (decide (a.To ≥ 0))
 else
  some false
theorem Gu {a : Ac} {w : Wd} {r_ : Bool} (hr : Cd a w = some r_) : LC Tryz.prog 85 [.p (nk a), .ptr 0 0] [.box (gB w)] (Is (bQ r_) [.box (gB w)]) := by
 refine dq Tryz.func85 Z Z Z ?_;unfold Cd at hr;refine zQ<|zR<|yS Z (bT Z Z Z Z Z)<|zM Z<|zN<|zT<|zQ<|zR<|yS Z (zA Z Z Az)<|yS Z (zD Z Z Z a7 Z Z)<|yS Z (zA Z Z dy)<|yS Z (zD Z Z Z a7 Z Z)<|yS Z (ay Z Z Z Z)<|zM Z ?_;refine zc 9 Z (fun g1 => ?_)<|fun g1 => ?_
 ·
  refine zi g1 hr fun hr => yV Z (gd g1 Z) (zA Z Z tf)<|yV Z (gd g1 Z) (zD Z Z Z a7 Z Z)<|yV Z (gd g1 Z) (ay Z Z Z Z)<|yS Z (cq Z (aS g1 Z) Z)<|zM Z<|zN<|zT<|zr ?_;obtain rfl := zJ hr;exact aQ (env' := [(3, .p (.bool (decide (a.To ≥ 0))))]) (H' := [.box (gB w)]) (zW 1 ⟨rfl, trivial⟩ Z Z Z Z) (.one (.tmp Z))<|⟨rfl, rfl⟩
 ·
  refine zo g1 hr fun hr => yU Z (gd g1 Z) Z<|yU Z (gd g1 Z) Z<|yU Z (gd g1 Z) Z<|yS Z (bg Z (aS g1 Z) Z)<|zM Z<|zN<|zT<|zr ?_;obtain rfl := zJ hr;exact aQ (env' := [(3, (bQ false))]) (H' := [.box (gB w)]) (zW 1 ⟨rfl, trivial⟩ Z Z Z Z) (.one (.tmp Z))<|⟨rfl, rfl⟩
structure cI where
 t10 : Int
 out : List Ac
def fQ (l : List Ac) (w : Wd) (x1 : cI) : Option (cI ⊕ cI) :=
 bif decide (x1.t10 < (l.length : Int)) then
  (ix l x1.t10).bind fun y1 =>
  (Cd y1 w).bind fun v2 =>
  bif v2 then
   bif ci x1.out.length [y1].length 72 then
    some (.inl (cI.mk (IntKind.i64.wrap (x1.t10 + 1)) (x1.out ++ [y1])))
   else none
  else
   some (.inl (cI.mk (IntKind.i64.wrap (x1.t10 + 1)) x1.out))
 else
  some (.inr (cI.mk x1.t10 x1.out))
def ov (l : List Ac) (w : Wd) : Option (List Ac) :=
 (iter (fQ l w) bE (cI.mk 0 ([] : List Ac))).bind fun v1 =>
 some v1.out
theorem Cr {l : List Ac} {w : Wd} {r_ : (List Ac)} (hr : ov l w = some r_) : LC Tryz.prog 84 [.p (.slice 5 (l.map nk)), .fn 85 [] [.ptr 0 0]] [.box (gB w)] (Is (.p (.slice 5 (r_.map nk))) [.box (gB w)]) := by
 refine dq Tryz.func84 Z Z Z ?_;unfold ov at hr;refine zQ<|zR<|zM Z<|zN<|zT<|zQ<|zR<|zM Z<|zN<|zT<|zQ<|zQ<|LW.ent (bK.lazy (t := 5) (m := 5) Z Z Z)<|zR<|zM Z<|yS Z (cB Z Z (by kernel_rfl))<|zM Z<|zN<|zT ?_;obtain ⟨v1, hb_v1, ho_v1⟩ := zB hr;clear hr;refine LW.tail (E := [(4, .zs), (5, .vec 5 1 (v1.out.map nk).length 0 (v1.out.map nk).length)]) (O := [.box (gB w), .vec 5 (v1.out.map nk)]) ?_<|fun env_v1 H_v1 hw_v1 => ?_
 ·refine LW.block ?_;refine LW.iterB (E := fun x1 : cI => [(1, .fn 85 [] [.ptr 0 0]), (4, .zs), (5, .vec 5 1 (x1.out.map nk).length 0 (x1.out.map nk).length), (8, .p (.slice 5 (l.map nk))), (9, .p (.int .i64 (l.length : Int))), (10, (iQ x1.t10))]) (O := fun x1 => [.box (gB w), .vec 5 (x1.out.map nk)]) hb_v1 (zW 2 ⟨rfl, rfl, rfl, rfl, rfl, rfl, trivial⟩ Z Z Z Z)<|fun x1 z_x1 hr hb_x1 => ?_;unfold fQ at hr;refine zQ<|zR<|yS Z (ay Z Z Z Z)<|zN<|zT<|zQ ?_;refine zX Z (fun g1 => ?_)<|fun g1 => ?_
  ·
   refine zi g1 hr fun hr => zk<|zT<|zQ<|zl<|zQ<|zR<|zb hr fun y1 h_y1 hr => yS Z (zx Z Z Z m5 h_y1 Z)<|yS Z (cR Z Z Z ly Z Z)<|yS Z (ze Z BD Z Z)<|yS Z (zs Z Z Z Z ly Z Z Z Z)<|zN<|zT<|zQ<|zR<|zM Z<|yS Z (zD Z Z Z ly Z Z)<|zb hr fun v2 h_v2 hr => yS Z (zC Z Z Z (by kernel_rfl) (LC.pre (Gu h_v2) Z Z Z))<|zN<|zT ?_;refine zX Z (fun g2 => ?_)<|fun g2 => ?_
   ·
    refine zi g2 hr fun hr => zR<|zM Z<|yS Z (zD Z Z Z ly Z Z)<|yS Z (nb Z m5 Z Z Z Z Z)<|zg hr fun q1 hr => yS Z (ab.appendX nk x1.out [y1] rfl Z Z Z kx.p Z m5 q1 Z)<|zM Z<|zN<|ai<|zT<|zR<|yS Z (ay Z Z Z Z)<|zM Z<|zN<|zT ?_;obtain rfl := zJ hr;exact ⟨_, rfl, zW 2 ⟨rfl, rfl, rfl, rfl, rfl, rfl, trivial⟩ Z Z Z rfl⟩
   ·
    refine zo g2 hr fun hr => zk<|ai<|zT<|zR<|yS Z (ay Z Z Z Z)<|zM Z<|zN<|zT ?_;obtain rfl := zJ hr;exact ⟨_, rfl, zW 2 ⟨rfl, rfl, rfl, rfl, rfl, rfl, trivial⟩ Z Z Z rfl⟩
  ·
   refine zo g1 hr fun hr => zq<|ao<|ao<|zy<|zT ?_;obtain rfl := zJ hr;have hr := congrArg some (hb_x1 _ rfl);obtain rfl := zJ hr;exact zW 2 ⟨Z, Z, trivial⟩ Z Z Z Z
 ·have hr := ho_v1;clear hb_v1;refine zT<|LW.weak hw_v1<|zQ<|LW.ent (bK.frz (t := 5) (env' := []) (H0 := [.box (gB w)]) Z Z Z Z Z trivial Z Z)<|zR<|zM Z<|zM Z<|zN<|zT<|zr ?_;obtain rfl := zJ hr;exact ap (.one (.tmp Z))<|⟨rfl, rfl⟩
def w2 (who : Int) (w : Wd) : Option Bool :=
 (rZ w.Bad who).bind fun v1 =>
 some v1
theorem Dj {who : Int} {w : Wd} {al : Vw} {wh : Int} {me : Bool} {cl : List Ac} {r_ : Bool} (hr : w2 who w = some r_) : LC Tryz.prog 86 [(iQ who), .ptr 2 0] (hM w al wh me cl 87 86) (Is (bQ r_) (hM w al wh me cl 87 86)) := by
 refine dq Tryz.func86 Z Z Z ?_;unfold w2 at hr;refine zQ<|zR<|zM Z<|zN<|zT<|zQ<|zR<|yS Z (zA Z Z de)<|yS Z (zD Z Z Z eR Z Z)<|zM Z<|zb hr fun v1 h_v1 hr => yS Z (zC Z Z Z (by kernel_rfl) (zp (Co h_v1) (.cons zv (.cons zv .nil))))<|zM Z<|zN<|zT<|zr ?_;obtain rfl := zJ hr;exact ap (.one (.tmp Z))<|⟨rfl, rfl⟩
def sE (x : Bk) (w : Wd) (al : Vw) : Option Bool :=
 (w2 x.From w).bind fun v1 =>
 bif v1 then
  some true
 else
  (wT al.B x).bind fun v2 =>
  some v2
theorem Ew {x : Bk} {w : Wd} {al : Vw} {wh : Int} {me : Bool} {cl : List Ac} {r_ : Bool} (hr : sE x w al = some r_) : LC Tryz.prog 89 [.p (ax x), .ptr 5 0, .ptr 4 0] (hM w al wh me cl 87 86) (Is (bQ r_) (hM w al wh me cl 87 86)) := by
 refine dq Tryz.func89 Z Z Z ?_;unfold sE at hr;refine zQ<|zR<|yS Z (bT Z Z Z Z Z)<|zM Z<|zN<|zT<|zQ<|zR<|yS Z (zD Z Z Z qZ Z Z)<|yS Z (zA Z Z uR)<|yS Z (zD Z Z Z a7 Z Z)<|zb hr fun v1 h_v1 hr => yS Z (zC Z Z Z (by kernel_rfl) (LC.pre (Dj h_v1) Z Z Z))<|zM Z ?_;refine zc 9 Z (fun g1 => ?_)<|fun g1 => ?_
 ·
  refine zi g1 hr fun hr => yU Z (gd g1 Z) Z<|yU Z (gd g1 Z) Z<|yU Z (gd g1 Z) Z<|yU Z (gd g1 Z) Z<|yU Z (gd g1 Z) Z<|yS Z (cq Z (aS g1 Z) Z)<|zM Z<|zN<|zT<|zr ?_;obtain rfl := zJ hr;exact aQ (env' := [(4, (bQ true))]) (H' := (hM w al wh me cl 87 86)) (zW 6 ⟨rfl, trivial⟩ Z Z Z Z) (.one (.tmp Z))<|⟨rfl, rfl⟩
 ·
  refine zo g1 hr fun hr => yV Z (gd g1 Z) (zA Z Z oV)<|yV Z (gd g1 Z) (zA Z Z br)<|yV Z (gd g1 Z) (zD Z Z Z dp Z Z)<|yV Z (gd g1 Z) (zD Z Z Z ce Z Z)<|zb hr fun v2 h_v2 hr => yV Z (gd g1 Z) (zC Z Z Z (by kernel_rfl) (zp (FM h_v2) (.cons zv (.cons zv .nil))))<|yS Z (bg Z (aS g1 Z) Z)<|zM Z<|zN<|zT<|zr ?_;obtain rfl := zJ hr;exact aQ (env' := [(4, (bQ v2))]) (H' := (hM w al wh me cl 87 86)) (zW 6 ⟨rfl, trivial⟩ Z Z Z Z) (.one (.tmp Z))<|⟨rfl, rfl⟩
def sF (x : Vt) (w : Wd) (al : Vw) : Option Bool :=
 (w2 x.From w).bind fun v1 =>
 bif v1 then
  some true
 else
  (wU al.V x).bind fun v2 =>
  some v2
theorem Ex {x : Vt} {w : Wd} {al : Vw} {wh : Int} {me : Bool} {cl : List Ac} {r_ : Bool} (hr : sF x w al = some r_) : LC Tryz.prog 92 [.p (aD x), .ptr 5 0, .ptr 4 0] (hM w al wh me cl 87 86) (Is (bQ r_) (hM w al wh me cl 87 86)) := by
 refine dq Tryz.func92 Z Z Z ?_;unfold sF at hr;refine zQ<|zR<|yS Z (bT Z Z Z Z Z)<|zM Z<|zN<|zT<|zQ<|zR<|yS Z (zD Z Z Z qZ Z Z)<|yS Z (zA Z Z oZ)<|yS Z (zD Z Z Z a7 Z Z)<|zb hr fun v1 h_v1 hr => yS Z (zC Z Z Z (by kernel_rfl) (LC.pre (Dj h_v1) Z Z Z))<|zM Z ?_;refine zc 9 Z (fun g1 => ?_)<|fun g1 => ?_
 ·
  refine zi g1 hr fun hr => yU Z (gd g1 Z) Z<|yU Z (gd g1 Z) Z<|yU Z (gd g1 Z) Z<|yU Z (gd g1 Z) Z<|yU Z (gd g1 Z) Z<|yS Z (cq Z (aS g1 Z) Z)<|zM Z<|zN<|zT<|zr ?_;obtain rfl := zJ hr;exact aQ (env' := [(4, (bQ true))]) (H' := (hM w al wh me cl 87 86)) (zW 6 ⟨rfl, trivial⟩ Z Z Z Z) (.one (.tmp Z))<|⟨rfl, rfl⟩
 ·
  refine zo g1 hr fun hr => yV Z (gd g1 Z) (zA Z Z oV)<|yV Z (gd g1 Z) (zA Z Z bD)<|yV Z (gd g1 Z) (zD Z Z Z dM Z Z)<|yV Z (gd g1 Z) (zD Z Z Z ch Z Z)<|zb hr fun v2 h_v2 hr => yV Z (gd g1 Z) (zC Z Z Z (by kernel_rfl) (zp (FN h_v2) (.cons zv (.cons zv .nil))))<|yS Z (bg Z (aS g1 Z) Z)<|zM Z<|zN<|zT<|zr ?_;obtain rfl := zJ hr;exact aQ (env' := [(4, (bQ v2))]) (H' := (hM w al wh me cl 87 86)) (zW 6 ⟨rfl, trivial⟩ Z Z Z Z) (.one (.tmp Z))<|⟨rfl, rfl⟩
structure cJ where
 t10 : Int
 out : List Bk
def fR (l : List Bk) (w : Wd) (al : Vw) (x1 : cJ) : Option (cJ ⊕ cJ) :=
 bif decide (x1.t10 < (l.length : Int)) then
  (ix l x1.t10).bind fun y1 =>
  (sE y1 w al).bind fun v2 =>
  bif v2 then
   bif ci x1.out.length [y1].length 40 then
    some (.inl (cJ.mk (IntKind.i64.wrap (x1.t10 + 1)) (x1.out ++ [y1])))
   else none
  else
   some (.inl (cJ.mk (IntKind.i64.wrap (x1.t10 + 1)) x1.out))
 else
  some (.inr (cJ.mk x1.t10 x1.out))
def ow (l : List Bk) (w : Wd) (al : Vw) : Option (List Bk) :=
 (iter (fR l w al) bE (cJ.mk 0 ([] : List Bk))).bind fun v1 =>
 some v1.out
theorem Ct {l : List Bk} {w : Wd} {al : Vw} {wh : Int} {me : Bool} {cl : List Ac} {r_ : (List Bk)} (hr : ow l w al = some r_) : LC Tryz.prog 88 [(kB l), .fn 89 [] [.ptr 5 0, .ptr 4 0]] (hM w al wh me cl 87 86) (Is (kB r_) (hM w al wh me cl 87 86)) := by
 refine dq Tryz.func88 Z Z Z ?_;unfold ow at hr;refine zQ<|zR<|zM Z<|zN<|zT<|zQ<|zR<|zM Z<|zN<|zT<|zQ<|zQ<|LW.ent (bK.lazy (t := 5) (m := 5) Z Z Z)<|zR<|zM Z<|yS Z (cB Z Z (by kernel_rfl))<|zM Z<|zN<|zT ?_;obtain ⟨v1, hb_v1, ho_v1⟩ := zB hr;clear hr;refine LW.tail (E := [(4, .zs), (5, (jB 6 v1.out))]) (O := [.box (gB w), .box rM, .box (gB w), .box (jU w al wh me cl 87 5 4), .box (jU w al wh me cl 87 5 4), .box [.fn 86 [] [.ptr 2 0]], .vec 5 (v1.out.map ax)]) ?_<|fun env_v1 H_v1 hw_v1 => ?_
 ·refine LW.block ?_;refine LW.iterB (E := fun x1 : cJ => [(1, .fn 89 [] [.ptr 5 0, .ptr 4 0]), (4, .zs), (5, (jB 6 x1.out)), (8, (kB l)), (9, .p (.int .i64 (l.length : Int))), (10, (iQ x1.t10))]) (O := fun x1 => [.box (gB w), .box rM, .box (gB w), .box (jU w al wh me cl 87 5 4), .box (jU w al wh me cl 87 5 4), .box [.fn 86 [] [.ptr 2 0]], .vec 5 (x1.out.map ax)]) hb_v1 (zW 7 ⟨rfl, rfl, rfl, rfl, rfl, rfl, trivial⟩ Z Z Z Z)<|fun x1 z_x1 hr hb_x1 => ?_;unfold fR at hr;refine zQ<|zR<|yS Z (ay Z Z Z Z)<|zN<|zT<|zQ ?_;refine zX Z (fun g1 => ?_)<|fun g1 => ?_
  ·
   refine zi g1 hr fun hr => zk<|zT<|zQ<|zl<|zQ<|zR<|zb hr fun y1 h_y1 hr => yS Z (zx Z Z Z dI h_y1 Z)<|yS Z (cR Z Z Z ce Z Z)<|yS Z (ze Z ui Z Z)<|yS Z (zs Z Z Z Z ce Z Z Z Z)<|zN<|zT<|zQ<|zR<|zM Z<|yS Z (zD Z Z Z ce Z Z)<|zb hr fun v2 h_v2 hr => yS Z (zC Z Z Z (by kernel_rfl) (LC.pre (Ew h_v2) Z Z Z))<|zN<|zT ?_;refine zX Z (fun g2 => ?_)<|fun g2 => ?_
   ·
    refine zi g2 hr fun hr => zR<|zM Z<|yS Z (zD Z Z Z ce Z Z)<|yS Z (nb Z dI Z Z Z Z Z)<|zg hr fun q1 hr => yS Z (ab.appendX ax x1.out [y1] rfl Z Z Z kx.p Z dI q1 Z)<|zM Z<|zN<|ai<|zT<|zR<|yS Z (ay Z Z Z Z)<|zM Z<|zN<|zT ?_;obtain rfl := zJ hr;exact ⟨_, rfl, zW 7 ⟨rfl, rfl, rfl, rfl, rfl, rfl, trivial⟩ Z Z Z rfl⟩
   ·
    refine zo g2 hr fun hr => zk<|ai<|zT<|zR<|yS Z (ay Z Z Z Z)<|zM Z<|zN<|zT ?_;obtain rfl := zJ hr;exact ⟨_, rfl, zW 7 ⟨rfl, rfl, rfl, rfl, rfl, rfl, trivial⟩ Z Z Z rfl⟩
  ·
   refine zo g1 hr fun hr => zq<|ao<|ao<|zy<|zT ?_;obtain rfl := zJ hr;have hr := congrArg some (hb_x1 _ rfl);obtain rfl := zJ hr;exact zW 7 ⟨Z, Z, trivial⟩ Z Z Z Z
 ·have hr := ho_v1;clear hb_v1;refine zT<|LW.weak hw_v1<|zQ<|LW.ent (bK.frz (t := 5) (env' := []) (H0 := (hM w al wh me cl 87 86)) Z Z Z Z Z trivial Z Z)<|zR<|zM Z<|zM Z<|zN<|zT<|zr ?_;obtain rfl := zJ hr;exact ap (.one (.tmp Z))<|⟨rfl, rfl⟩
structure cK where
 t10 : Int
 out : List Vt
def fS (l : List Vt) (w : Wd) (al : Vw) (x1 : cK) : Option (cK ⊕ cK) :=
 bif decide (x1.t10 < (l.length : Int)) then
  (ix l x1.t10).bind fun y1 =>
  (sF y1 w al).bind fun v2 =>
  bif v2 then
   bif ci x1.out.length [y1].length 32 then
    some (.inl (cK.mk (IntKind.i64.wrap (x1.t10 + 1)) (x1.out ++ [y1])))
   else none
  else
   some (.inl (cK.mk (IntKind.i64.wrap (x1.t10 + 1)) x1.out))
 else
  some (.inr (cK.mk x1.t10 x1.out))
def ox (l : List Vt) (w : Wd) (al : Vw) : Option (List Vt) :=
 (iter (fS l w al) bE (cK.mk 0 ([] : List Vt))).bind fun v1 =>
 some v1.out
theorem Cv {l : List Vt} {w : Wd} {al : Vw} {wh : Int} {me : Bool} {cl : List Ac} {r_ : (List Vt)} (hr : ox l w al = some r_) : LC Tryz.prog 91 [(kV l), .fn 92 [] [.ptr 5 0, .ptr 4 0]] (hM w al wh me cl 87 86) (Is (kV r_) (hM w al wh me cl 87 86)) := by
 refine dq Tryz.func91 Z Z Z ?_;unfold ox at hr;refine zQ<|zR<|zM Z<|zN<|zT<|zQ<|zR<|zM Z<|zN<|zT<|zQ<|zQ<|LW.ent (bK.lazy (t := 5) (m := 4) Z Z Z)<|zR<|zM Z<|yS Z (cB Z Z (by kernel_rfl))<|zM Z<|zN<|zT ?_;obtain ⟨v1, hb_v1, ho_v1⟩ := zB hr;clear hr;refine LW.tail (E := [(4, .zs), (5, (jV 6 v1.out))]) (O := [.box (gB w), .box rM, .box (gB w), .box (jU w al wh me cl 87 5 4), .box (jU w al wh me cl 87 5 4), .box [.fn 86 [] [.ptr 2 0]], .vec 4 (v1.out.map aD)]) ?_<|fun env_v1 H_v1 hw_v1 => ?_
 ·refine LW.block ?_;refine LW.iterB (E := fun x1 : cK => [(1, .fn 92 [] [.ptr 5 0, .ptr 4 0]), (4, .zs), (5, (jV 6 x1.out)), (8, (kV l)), (9, .p (.int .i64 (l.length : Int))), (10, (iQ x1.t10))]) (O := fun x1 => [.box (gB w), .box rM, .box (gB w), .box (jU w al wh me cl 87 5 4), .box (jU w al wh me cl 87 5 4), .box [.fn 86 [] [.ptr 2 0]], .vec 4 (x1.out.map aD)]) hb_v1 (zW 7 ⟨rfl, rfl, rfl, rfl, rfl, rfl, trivial⟩ Z Z Z Z)<|fun x1 z_x1 hr hb_x1 => ?_;unfold fS at hr;refine zQ<|zR<|yS Z (ay Z Z Z Z)<|zN<|zT<|zQ ?_;refine zX Z (fun g1 => ?_)<|fun g1 => ?_
  ·
   refine zi g1 hr fun hr => zk<|zT<|zQ<|zl<|zQ<|zR<|zb hr fun y1 h_y1 hr => yS Z (zx Z Z Z cX h_y1 Z)<|yS Z (cR Z Z Z ch Z Z)<|yS Z (ze Z rL Z Z)<|yS Z (zs Z Z Z Z ch Z Z Z Z)<|zN<|zT<|zQ<|zR<|zM Z<|yS Z (zD Z Z Z ch Z Z)<|zb hr fun v2 h_v2 hr => yS Z (zC Z Z Z (by kernel_rfl) (LC.pre (Ex h_v2) Z Z Z))<|zN<|zT ?_;refine zX Z (fun g2 => ?_)<|fun g2 => ?_
   ·
    refine zi g2 hr fun hr => zR<|zM Z<|yS Z (zD Z Z Z ch Z Z)<|yS Z (nb Z cX Z Z Z Z Z)<|zg hr fun q1 hr => yS Z (ab.appendX aD x1.out [y1] rfl Z Z Z kx.p Z cX q1 Z)<|zM Z<|zN<|ai<|zT<|zR<|yS Z (ay Z Z Z Z)<|zM Z<|zN<|zT ?_;obtain rfl := zJ hr;exact ⟨_, rfl, zW 7 ⟨rfl, rfl, rfl, rfl, rfl, rfl, trivial⟩ Z Z Z rfl⟩
   ·
    refine zo g2 hr fun hr => zk<|ai<|zT<|zR<|yS Z (ay Z Z Z Z)<|zM Z<|zN<|zT ?_;obtain rfl := zJ hr;exact ⟨_, rfl, zW 7 ⟨rfl, rfl, rfl, rfl, rfl, rfl, trivial⟩ Z Z Z rfl⟩
  ·
   refine zo g1 hr fun hr => zq<|ao<|ao<|zy<|zT ?_;obtain rfl := zJ hr;have hr := congrArg some (hb_x1 _ rfl);obtain rfl := zJ hr;exact zW 7 ⟨Z, Z, trivial⟩ Z Z Z Z
 ·have hr := ho_v1;clear hb_v1;refine zT<|LW.weak hw_v1<|zQ<|LW.ent (bK.frz (t := 5) (env' := []) (H0 := (hM w al wh me cl 87 86)) Z Z Z Z Z trivial Z Z)<|zR<|zM Z<|zM Z<|zN<|zT<|zr ?_;obtain rfl := zJ hr;exact ap (.one (.tmp Z))<|⟨rfl, rfl⟩
def sA (a : Ac) (w : Wd) (al : Vw) : Option Vw :=
 (ow a.B w al).bind fun v1 =>
 (ox a.V w al).bind fun v2 =>
 some (Vw.mk v1 v2)
theorem Es {a : Ac} {w : Wd} {al : Vw} {wh : Int} {me : Bool} {cl : List Ac} {r_ : Vw} (hr : sA a w al = some r_) : LC Tryz.prog 87 [.p (nk a), .ptr 5 0, .ptr 4 0] (hM w al wh me cl 87 86) (Is (.p (kQ r_)) (hM w al wh me cl 87 86)) := by
 refine dq Tryz.func87 Z Z Z ?_;unfold sA at hr;refine zQ<|zR<|yS Z (bT Z Z Z Z Z)<|yS Z (ze Z iO Z Z)<|zN<|zT<|zQ<|LW.drawLast (m := 9) (by kernel_rfl) (by kernel_rfl) (by kernel_rfl)<|yE Z (zA Z Z tg)<|yE Z (zD Z Z Z dp Z Z)<|yE Z (ab.makeFunc Z Z Z)<|zb hr fun v1 h_v1 hr => yE Z (zC Z Z Z (by kernel_rfl) (LC.pre (Ct h_v1) Z Z Z))<|yE Z (zA Z Z th)<|yE Z (zD Z Z Z dM Z Z)<|yE Z (ab.makeFunc Z Z Z)<|zb hr fun v2 h_v2 hr => yE Z (zC Z Z Z (by kernel_rfl) (LC.pre (Cv h_v2) Z Z Z))<|yE Z (ab.build Z oH Z Z Z)<|LO.nil<|yS Z (zs Z Z Z Z aJ Z Z Z Z)<|zN<|zT<|zr ?_;obtain rfl := zJ hr;exact iz (env' := []) (H' := (hM w al wh me cl 87 86)) (zW 6 trivial Z Z Z Z) (.one (.cellAgg Z Z (by kernel_rfl) Z)) Z<|⟨rfl, rfl⟩
open Go.Proofs
def vW (n : Nd) (w : Vw) : Option Vw :=
 (rS n).bind fun v1 =>
 (zj w v1).bind fun v2 =>
 some v2
theorem Ep {n : Nd} {w : Vw} {r_ : Vw} (hr : vW n w = some r_) : LC Tryz.prog 67 [.p (gV n), .ptr 0 0] [.box (dr w)] (Is (.tup []) [.box (dr r_)]) := by
 refine dq Tryz.func67 Z Z Z ?_;unfold vW at hr;refine zQ<|zR<|yS Z (bT Z Z Z Z Z)<|zN<|zT<|LW.drawLast (m := 4) (by kernel_rfl) (by kernel_rfl) (by kernel_rfl)<|yE Z (zD Z Z Z aJ Z Z)<|yE Z (zD Z Z Z bX Z Z)<|zb hr fun v1 h_v1 hr => yE Z (zC Z Z Z (by kernel_rfl) (zp (Fz h_v1) (.cons zv .nil)))<|zb hr fun v2 h_v2 hr => yE Z (zC Z Z Z (by kernel_rfl) (zp (Eg h_v2) (.cons zv (.cons zv .nil))))<|LO.nil<|yS Z (zs Z Z Z Z aJ Z Z Z Z)<|zN ?_;obtain rfl := zJ hr;exact fl (env' := []) (H' := [.box (dr v2)]) (zW 1 trivial Z Z Z Z) .none<|⟨rfl, rfl⟩
structure di where
 t8 : Int
 o0 : Vw
def fP (l : List Nd) (x1 : di) : Option (di ⊕ di) :=
 bif decide (x1.t8 < (l.length : Int)) then
  (ix l x1.t8).bind fun y1 =>
  (vW y1 x1.o0).bind fun v2 =>
  some (.inl (di.mk (IntKind.i64.wrap (x1.t8 + 1)) v2))
 else
  some (.inr (di.mk x1.t8 x1.o0))
def ou (l : List Nd) (w : Vw) : Option Vw :=
 (iter (fP l) bE (di.mk 0 w)).bind fun v1 =>
 some v1.o0
theorem Cp {l : List Nd} {w : Vw} {r_ : Vw} (hr : ou l w = some r_) : LC Tryz.prog 55 [.p (.slice 12 (l.map gV)), .fn 67 [] [.ptr 0 0]] [.box (dr w)] (Is (.tup []) [.box (dr r_)]) := by
 refine dq Tryz.func55 Z Z Z ?_;unfold ou at hr;refine zQ<|zR<|zM Z<|yS Z (cB Z Z (by kernel_rfl))<|zM Z<|zN<|zT ?_;obtain ⟨v1, hb_v1, ho_v1⟩ := zB hr;clear hr;refine LW.tail (E := []) (O := [.box (dr v1.o0)]) ?_<|fun env_v1 H_v1 hw_v1 => ?_
 ·refine LW.block ?_;refine LW.iterB (E := fun x1 : di => [(1, .fn 67 [] [.ptr 0 0]), (6, .p (.slice 12 (l.map gV))), (7, .p (.int .i64 (l.length : Int))), (8, (iQ x1.t8))]) (O := fun x1 => [.box (dr x1.o0)]) hb_v1 (zW 1 ⟨rfl, rfl, rfl, rfl, trivial⟩ Z Z Z Z)<|fun x1 z_x1 hr hb_x1 => ?_;unfold fP at hr;refine zQ<|zR<|yS Z (ay Z Z Z Z)<|zN<|zT<|zQ ?_;refine zX Z (fun g1 => ?_)<|fun g1 => ?_
  ·
   refine zi g1 hr fun hr => zk<|zT<|zQ<|zl<|zQ<|zR<|zb hr fun y1 h_y1 hr => yS Z (zx Z Z Z ei h_y1 Z)<|yS Z (cR Z Z Z bX Z Z)<|yS Z (ze Z ne Z Z)<|yS Z (zs Z Z Z Z bX Z Z Z Z)<|zN<|zT<|zR<|zM Z<|yS Z (zD Z Z Z bX Z Z)<|zb hr fun v2 h_v2 hr => yS Z (zC Z Z Z (by kernel_rfl) (LC.pre (Ep h_v2) Z Z Z))<|zN<|ai<|zT<|zR<|yS Z (ay Z Z Z Z) ?_;refine zM Z<|zN<|zT ?_;obtain rfl := zJ hr;exact ⟨_, rfl, zW 1 ⟨rfl, rfl, rfl, rfl, trivial⟩ Z Z Z rfl⟩
  ·
   refine zo g1 hr fun hr => zq<|ao<|ao<|zy<|zT ?_;obtain rfl := zJ hr;have hr := congrArg some (hb_x1 _ rfl);obtain rfl := zJ hr;exact zW 1 trivial Z Z Z Z
 ·have hr := ho_v1;clear hb_v1;obtain rfl := zJ hr;exact fl hw_v1 .none ⟨rfl, rfl⟩
def rP (l : List Nd) : Option Vw :=
 (ou l (Vw.mk [] [])).bind fun v1 =>
 some v1
theorem Fx {l : List Nd} {r_ : Vw} (hr : rP l = some r_) : aw Tryz.prog 32 [.slice 12 (l.map gV)] [kQ r_] := by
 refine zh Tryz.func32 Z Z Z Z ?_;unfold rP at hr;refine zQ<|zR<|yS Z (ze Z iO Z Z)<|zN<|zT<|zQ<|LW.ent (bK.zsCell (i := 0) (j := 0) (m := 5) Z Z Z Z)<|LW.ent (bK.zsCell (i := 0) (j := 1) (m := 4) Z Z Z Z)<|zR<|zM Z<|yS Z (ab.makeFunc Z Z Z)<|zb hr fun v1 h_v1 hr => yS Z (zC Z Z Z (by kernel_rfl) (Cp h_v1))<|zN<|zT<|zQ<|zR<|yS Z (zD Z Z Z aJ Z Z)<|yS Z (zs Z Z Z Z aJ Z Z Z Z)<|zN<|zT<|zr ?_;obtain rfl := zJ hr;exact zf (.one (.cellAgg Z Z (by kernel_rfl) Z)) zv
structure E3 where
 t8 : Int
 o2 : List ID
structure Fc where
 t12 : Int
 names : List (ID × Bool)
structure HK where
 t8 : Int
open Go.Proofs
def sD (w : Wd) (l : List Ac) : Option (Vw × Int × Bool × List Ac) :=
 (rP w.N).bind fun v1 =>
 (B9 w.C (IntKind.i64.wrap (w.Tick.tdiv 3))).bind fun v2 =>
 (rZ w.Bad v2).bind fun v3 =>
 (ov l w).bind fun v4 =>
 some (v1, v2, v3, v4)
theorem Ev {w : Wd} {l : List Ac} {r_ : Vw × Int × Bool × List Ac} (hr : sD w l = some r_) : LC Tryz.prog 51 [.p (x5 w), .p (.slice 5 (l.map nk))] [] (Is (.agg (jU w r_.1 r_.2.1 r_.2.2.1 r_.2.2.2 87 3 2)) [.box (gB w), .box (jU w r_.1 r_.2.1 r_.2.2.1 r_.2.2.2 87 3 2), .box (jU w r_.1 r_.2.1 r_.2.2.1 r_.2.2.2 87 3 2), .box [.fn 86 [] [.ptr 0 0]]]) := by
 refine dq Tryz.func51 Z Z Z ?_;unfold sD at hr;refine zQ<|zR<|yS Z (bT Z Z Z Z Z)<|yS Z (ze Z vC Z Z)<|zN<|zT<|zQ<|LW.ent (bK.slot Z)<|LW.drawW (by kernel_rfl) (by kernel_rfl)<|yF Z (zd Z Z Z bS Z Z) Z ?_;refine yF (F := []) (s := none) Z (fun H _ => zA Z Z bz) Z ?_;refine yF Z (zd Z Z Z cP Z Z) Z<|zb hr fun v1 h_v1 hr => ?_;refine yF (F := []) (s := none) Z (fun H _ => zC Z Z Z (by kernel_rfl) (zp (Fx h_v1) (.cons zv .nil))) Z ?_;refine yF (F := []) (s := none) Z (fun H _ => zA Z Z dy) Z ?_;refine yF Z (zd Z Z Z a7 Z Z) Z ?_;refine yF (F := []) (s := none) Z (fun H _ => ab.quo Z Z Z (by decide)) Z ?_;refine yF (F := []) (s := none) Z (fun H _ => ab.build Z Ec Z Z Z) Z ?_;refine yF Z (bF.alloc Z vC (id := 2) Z) Z<|yF Z (zt Z Z Z Z pR Z Z Z) Z ?_;refine LF.nil ⟨by kernel_rfl, ?_⟩;refine zT<|zQ<|zR<|yS Z (zA Z Z lP)<|yS Z (zD Z Z Z bY Z Z)<|yS Z (zA Z Z tp)<|yS Z (zD Z Z Z a7 Z Z)<|zb hr fun v2 h_v2 hr => yS Z (zC Z Z Z (by kernel_rfl) (zp (HM h_v2) (.cons zv (.cons zv .nil))))<|yS Z (zA Z Z oW)<|yS Z (zs Z Z Z Z a7 Z Z Z Z)<|zN<|zT<|zQ<|zR<|yS Z (zA Z Z de)<|yS Z (zD Z Z Z eR Z Z)<|yS Z (zA Z Z oW)<|yS Z (zD Z Z Z a7 Z Z)<|zb hr fun v3 h_v3 hr => yS Z (zC Z Z Z (by kernel_rfl) (zp (Co h_v3) (.cons zv (.cons zv .nil))))<|yS Z (zA Z Z tk)<|yS Z (zs Z Z Z Z vu Z Z Z Z)<|zN ?_;refine zT<|zQ<|zR<|zM Z<|yS Z (ab.makeFunc Z Z Z)<|zb hr fun v4 h_v4 hr => yS Z (zC Z Z Z (by kernel_rfl) (LC.pre (Cr h_v4) Z Z Z))<|yS Z (zA Z Z tq)<|yS Z (zs Z Z Z Z Bp Z Z Z Z)<|zN<|zT<|zQ<|zR<|yS Z (ab.makeFunc Z Z Z)<|yS Z (ze Z HB Z Z)<|yS Z (zs Z Z Z Z qZ Z Z Z Z)<|zN<|zT<|zQ<|zR<|yS Z (ab.makeFunc Z Z Z)<|yS Z (zA Z Z tm)<|yS Z (zs Z Z Z Z Bv Z Z Z Z)<|zN ?_;refine zT<|zQ<|zR<|yS Z (zD Z Z Z pR Z Z)<|yS Z (zs Z Z Z Z pR Z Z Z Z)<|zN<|zT<|zr ?_;obtain rfl := zJ hr;exact ap (.one (.cellAgg Z Z (by kernel_rfl) Z))<|⟨rfl, rfl⟩
structure eX where
 t20 : Int
 v_in : Vw
 offers : List Of
def mw (w : Wd) (al : Vw) (wh : Int) (me : Bool) (cl : List Ac) (at_ : Int) (x1 : eX) : Option (eX ⊕ eX) :=
 bif decide (x1.t20 < (cl.length : Int)) then
  (ix cl x1.t20).bind fun y1 =>
  bif decide (0 ≤ at_) then
   bif (bits .and .i64 (y1.To.fdiv (2 ^ (min (Int.toNat at_) IntKind.i64.bits))) 1) == 0 then
    some (.inl (eX.mk (IntKind.i64.wrap (x1.t20 + 1)) x1.v_in x1.offers))
   else
    (sA y1 w al).bind fun v2 =>
    bif !y1.Offer then
     (zj x1.v_in v2).bind fun v3 =>
     some (.inl (eX.mk (IntKind.i64.wrap (x1.t20 + 1)) v3 x1.offers))
    else
     (
      bif me then
       some (decide ((v2.B.length : Int) > 0))
      else
       some false
     ).bind fun v4 =>
     bif v4 then
      (ix v2.B 0).bind fun y2 =>
      bif E8 v2.B 1 v2.B.length then
       bif ci x1.offers.length [Of.mk (IntKind.i64.wrap (w.Tick.tdiv 3)) wh y2 (Vw.mk (v2.B.drop (1 : Int).toNat) v2.V)].length 104 then
        some (.inl (eX.mk (IntKind.i64.wrap (x1.t20 + 1)) x1.v_in (x1.offers ++ [Of.mk (IntKind.i64.wrap (w.Tick.tdiv 3)) wh y2 (Vw.mk (v2.B.drop (1 : Int).toNat) v2.V)])))
       else none
      else none
     else
      some (.inl (eX.mk (IntKind.i64.wrap (x1.t20 + 1)) x1.v_in x1.offers))
  else none
 else
  some (.inr (eX.mk x1.t20 x1.v_in x1.offers))
def Fm (w : Wd) (al : Vw) (wh : Int) (me : Bool) (cl : List Ac) (at_ : Int) : Option (Vw × List Of) :=
 bif ci 0 w.O.length 104 then
  (iter (mw w al wh me cl at_) bE (eX.mk 0 al w.O)).bind fun v1 =>
  some (v1.v_in, v1.offers)
 else none
theorem IC {w : Wd} {al : Vw} {wh : Int} {me : Bool} {cl : List Ac} {at_ : Int} {r_ : Vw × List Of} (hr : Fm w al wh me cl at_ = some r_) : LC Tryz.prog 52 [.agg (jU w al wh me cl 87 5 4), (iQ at_)] (hM w al wh me cl 87 86) (Is (.tup [.p (kQ r_.1), (kO r_.2)]) (hM w al wh me cl 87 86)) := by
 refine dq Tryz.func52 Z Z Z ?_;unfold Fm at hr;refine zQ<|zR<|yS Z (bT Z Z Z Z Z)<|yS Z (ze Z iO Z Z)<|zM Z<|zN<|zT<|zQ<|LW.ent (bK.slot Z)<|LW.ent (bK.slot Z)<|LW.drawW (by kernel_rfl) (by kernel_rfl) ?_;refine yF (F := []) (s := none) Z (fun H _ => zA Z Z oV) Z ?_;refine yF Z (zd Z Z Z aJ Z Z) Z ?_;refine yF (F := []) (s := none) Z (fun H _ => zA Z Z AE) Z ?_;refine yF (F := []) (s := none) Z (fun H _ => zA Z Z eJ) Z ?_;refine yF Z (zd Z Z Z bl Z Z) Z<|zg hr fun q1 hr => ?_;refine yF Z (bF.callV (id := 9) (qs := [(kO w.O)]) Z Z Z (by kernel_rfl) (An q1) (fun H => (.consC zv .nil)) Z) Z ?_;refine yF Z (bF.alloc Z iO (id := 8) Z) Z<|yF Z (zt Z Z Z Z aJ Z Z Z) Z<|zK Z ?_;refine LF.nil ⟨by kernel_rfl, ?_⟩;refine zT<|zQ<|zQ<|zR<|yS Z (zA Z Z tq)<|yS Z (zD Z Z Z Bp Z Z)<|yS Z (cB Z Z (by kernel_rfl))<|zM Z<|zN<|zT ?_;obtain ⟨v1, hb_v1, ho_v1⟩ := zB hr;clear hr;refine LW.tail (E := [(4, .ptr 7 0), (5, .zs), (6, .ptr 8 0), (7, (jO 9 v1.offers))]) (O := [.box (gB w), .box rM, .box (gB w), .box (jU w al wh me cl 87 5 4), .box (jU w al wh me cl 87 5 4), .box [.fn 86 [] [.ptr 2 0]], .box (jU w al wh me cl 87 5 4), .box [.zs, .zs], .box (dr v1.v_in), .vec 9 (v1.offers.map dh)]) ?_<|fun env_v1 H_v1 hw_v1 => ?_
 ·refine LW.block ?_;refine LW.iterB (E := fun x1 : eX => [(1, (iQ at_)), (2, .ptr 6 0), (4, .ptr 7 0), (5, .zs), (6, .ptr 8 0), (7, (jO 9 x1.offers)), (18, .p (.slice 5 (cl.map nk))), (19, .p (.int .i64 (cl.length : Int))), (20, (iQ x1.t20))]) (O := fun x1 => [.box (gB w), .box rM, .box (gB w), .box (jU w al wh me cl 87 5 4), .box (jU w al wh me cl 87 5 4), .box [.fn 86 [] [.ptr 2 0]], .box (jU w al wh me cl 87 5 4), .box [.zs, .zs], .box (dr x1.v_in), .vec 9 (x1.offers.map dh)]) hb_v1 (zW 10 ⟨rfl, rfl, rfl, rfl, rfl, rfl, rfl, rfl, rfl, trivial⟩ Z Z Z Z)<|fun x1 z_x1 hr hb_x1 => ?_;unfold mw at hr;refine zQ<|zR<|yS Z (ay Z Z Z Z)<|zN<|zT<|zQ ?_;refine zX Z (fun g1 => ?_)<|fun g1 => ?_
  ·
   refine zi g1 hr fun hr => zk<|zT<|zQ<|zl<|zQ<|zR<|zb hr fun y1 h_y1 hr => yS Z (zx Z Z Z m5 h_y1 Z)<|yS Z (cR Z Z Z ly Z Z)<|yS Z (ze Z BD Z Z)<|yS Z (zs Z Z Z Z ly Z Z Z Z)<|zN<|zT<|zQ<|zQ<|zR<|yS Z (zA Z Z tf)<|yS Z (zD Z Z Z a7 Z Z)<|zM Z<|zg hr fun q2 hr => yS Z (ab.shr Z Z Z (of_decide_eq_true q2))<|yS Z (ay Z Z Z Z)<|yS Z (ay Z Z Z Z) ?_;refine zN<|zT ?_;refine zX Z (fun g2 => ?_)<|fun g2 => ?_
   ·
    refine zi g2 hr fun hr => zq<|ao<|zy<|zT<|zR<|yS Z (ay Z Z Z Z)<|zM Z<|zN<|zT ?_;obtain rfl := zJ hr;exact ⟨_, rfl, zW 10 ⟨rfl, rfl, rfl, rfl, rfl, rfl, rfl, rfl, rfl, trivial⟩ Z Z Z rfl⟩
   ·
    refine zo g2 hr fun hr => zk<|zT<|zQ<|zR<|yS Z (zA Z Z tm)<|yS Z (zD Z Z Z Bv Z Z)<|yS Z (zD Z Z Z ly Z Z)<|zb hr fun v2 h_v2 hr => yS Z (zC Z Z Z (by kernel_rfl) (LC.pre (Es h_v2) Z Z Z))<|yS Z (ze Z iO Z Z)<|yS Z (zs Z Z Z Z aJ Z Z Z Z)<|zN<|zT<|zl<|zQ<|zR<|yS Z (zA Z Z AA)<|yS Z (zD Z Z Z vu Z Z)<|yS Z (ab.not Z Z)<|zM Z<|zN<|zT ?_;refine zX Z (fun g3 => ?_)<|fun g3 => ?_
    ·
     refine zi g3 hr fun hr => zR<|yS Z (zD Z Z Z aJ Z Z)<|yS Z (zD Z Z Z aJ Z Z)<|zb hr fun v3 h_v3 hr => yS Z (zC Z Z Z (by kernel_rfl) (zp (Eg h_v3) (.cons zv (.cons zv .nil))))<|yS Z (zs Z Z Z Z aJ Z Z Z Z)<|zN<|ai<|ai<|zT<|zR<|yS Z (ay Z Z Z Z)<|zM Z<|zN<|zT ?_;obtain rfl := zJ hr;exact ⟨_, rfl, zW 10 ⟨rfl, rfl, rfl, rfl, rfl, rfl, rfl, rfl, rfl, trivial⟩ Z Z Z rfl⟩
    ·
     have hr := zO g3 hr;obtain ⟨v4, hb_v4, ho_v4⟩ := zB hr;clear hr;refine LW.cut (E := [(1, (iQ at_)), (2, .ptr 6 0), (4, .ptr 7 0), (5, .zs), (6, .ptr 8 0), (7, (jO 9 x1.offers)), (10, .ptr 11 0), (18, .p (.slice 5 (cl.map nk))), (19, .p (.int .i64 (cl.length : Int))), (20, (iQ x1.t20)), (41, (bQ v4))]) (O := [.box (gB w), .box rM, .box (gB w), .box (jU w al wh me cl 87 5 4), .box (jU w al wh me cl 87 5 4), .box [.fn 86 [] [.ptr 2 0]], .box (jU w al wh me cl 87 5 4), .box [.zs, .zs], .box (dr x1.v_in), .vec 9 (x1.offers.map dh), .box [(iQ y1.Tick), (iQ y1.To), (bQ y1.Offer), (kB y1.B), (kV y1.V)], .box (dr v2)]) ?_ ?_
     ·have hr := hb_v4;refine zR<|yS Z (zA Z Z tk)<|yS Z (zD Z Z Z vu Z Z)<|zM Z ?_;refine zc 44 Z (fun g4 => ?_)<|fun g4 => ?_
      ·
       refine zi g4 hr fun hr => yV Z (gd g4 Z) (zA Z Z br)<|yV Z (gd g4 Z) (zD Z Z Z dp Z Z)<|yV Z (gd g4 Z) (cB Z Z (by kernel_rfl))<|yV Z (gd g4 Z) (ay Z Z Z Z)<|yS Z (cq Z (aS g4 Z) Z)<|zM Z<|zN<|zT ?_;obtain rfl := zJ hr;exact zW 12 ⟨Z, Z, Z, Z, Z, Z, Z, Z, Z, Z, Z, trivial⟩ Z Z Z Z
      ·
       refine zo g4 hr fun hr => yU Z (gd g4 Z) Z<|yU Z (gd g4 Z) Z<|yU Z (gd g4 Z) Z<|yU Z (gd g4 Z) Z<|yS Z (bg Z (aS g4 Z) Z)<|zM Z<|zN<|zT ?_;obtain rfl := zJ hr;exact zW 12 ⟨Z, Z, Z, Z, Z, Z, Z, Z, Z, Z, Z, trivial⟩ Z Z Z Z
     ·have hr := ho_v4;clear hb_v4;refine zX Z (fun g5 => ?_)<|fun g5 => ?_
      ·
       refine zi g5 hr fun hr => LW.drawW (by kernel_rfl) (by kernel_rfl)<|zK Z ?_;refine yF (F := []) (s := none) Z (fun H _ => zA Z Z tp) Z ?_;refine yF Z (zd Z Z Z a7 Z Z) Z ?_;refine yF (F := []) (s := none) Z (fun H _ => zA Z Z oW) Z ?_;refine yF Z (zd Z Z Z a7 Z Z) Z ?_;refine yF (F := []) (s := none) Z (fun H _ => zA Z Z br) Z ?_;refine yF Z (zd Z Z Z dp Z Z) Z<|zb hr fun y2 h_y2 hr => ?_;refine yF (F := []) (s := none) Z (fun H _ => zx Z Z Z dI h_y2 Z) Z ?_;refine yF (F := []) (s := none) Z (fun H _ => cR Z Z Z ce Z Z) Z ?_;refine yF (F := []) (s := none) Z (fun H _ => zA Z Z br) Z ?_;refine yF Z (zd Z Z Z dp Z Z) Z<|zg hr fun q3 hr => ?_;refine yF (F := []) (s := none) Z (fun H _ => ab.sliceLo Z Z Z dI q3) Z ?_;refine yF (F := []) (s := none) Z (fun H _ => zA Z Z bD) Z ?_;refine yF Z (zd Z Z Z dM Z Z) Z ?_;refine yF (F := []) (s := none) Z (fun H _ => ab.build Z oH Z Z Z) Z ?_;refine yF (F := []) (s := none) Z (fun H _ => ab.build Z Ag Z Z Z) Z ?_;refine yF (F := []) (s := none) Z (fun H _ => nb Z bv Z Z Z Z Z) Z ?_;refine zg hr fun q4 hr => yF Z (bF.appendX dh x1.offers [Of.mk (IntKind.i64.wrap (w.Tick.tdiv 3)) wh y2 (Vw.mk (v2.B.drop (1 : Int).toNat) v2.V)] rfl Z Z Z Z bv q4) Z<|zK Z ?_;refine LF.nil ⟨by kernel_rfl, ?_⟩;refine ai<|ai<|zT<|zR<|yS Z (ay Z Z Z Z)<|zM Z<|zN<|zT ?_;obtain rfl := zJ hr;exact ⟨_, rfl, zW 10 ⟨rfl, rfl, rfl, rfl, rfl, rfl, rfl, rfl, rfl, trivial⟩ Z Z Z rfl⟩
      ·
       refine zo g5 hr fun hr => zk<|ai<|ai<|zT<|zR<|yS Z (ay Z Z Z Z)<|zM Z<|zN<|zT ?_;obtain rfl := zJ hr;exact ⟨_, rfl, zW 10 ⟨rfl, rfl, rfl, rfl, rfl, rfl, rfl, rfl, rfl, trivial⟩ Z Z Z rfl⟩
  ·
   refine zo g1 hr fun hr => zq<|ao<|ao<|zy<|zT ?_;obtain rfl := zJ hr;have hr := congrArg some (hb_x1 _ rfl);obtain rfl := zJ hr;exact zW 10 ⟨Z, Z, Z, Z, trivial⟩ Z Z Z Z
 ·have hr := ho_v1;clear hb_v1;refine zT<|LW.weak hw_v1<|zQ<|LW.ent (bK.frz (t := 7) (env' := [(4, .ptr 7 0), (6, .ptr 8 0)]) (H0 := [.box (gB w), .box rM, .box (gB w), .box (jU w al wh me cl 87 5 4), .box (jU w al wh me cl 87 5 4), .box [.fn 86 [] [.ptr 2 0]], .box (jU w al wh me cl 87 5 4), .box [.zs, .zs], .box (dr v1.v_in)]) Z Z Z Z Z ⟨rfl, rfl, trivial⟩ Z Z)<|zR<|yS Z (zD Z Z Z aJ Z Z)<|zM Z<|yS Z (zs Z Z Z Z aJ Z Z Z Z)<|zM Z<|zN<|zT<|zr ?_;obtain rfl := zJ hr;exact iz (env' := []) (H' := (hM w al wh me cl 87 86)) (zW 6 trivial Z Z Z Z) (.two (.cellAgg Z Z (by kernel_rfl) Z) (.tmp Z)) Z<|⟨rfl, rfl⟩
structure dQ where
 t43 : Int
 o9 : List Nd
 o10 : List Of
def im (w : Wd) (v4 : Vw × Int × Bool × List Ac) (x1 : dQ) : Option (dQ ⊕ dQ) :=
 bif decide (x1.t43 < (w.N.length : Int)) then
  (Fm w v4.1 v4.2.1 v4.2.2.1 v4.2.2.2 x1.t43).bind fun v6 =>
  (ix w.N x1.t43).bind fun y1 =>
  (ig w.C y1 v6.1 v6.2).bind fun v7 =>
  bif ci x1.o9.length [v7.1].length 176 then
   bif ci x1.o10.length v7.2.length 104 then
    some (.inl (dQ.mk (IntKind.i64.wrap (x1.t43 + 1)) (x1.o9 ++ [v7.1]) (x1.o10 ++ v7.2)))
   else none
  else none
 else
  some (.inr (dQ.mk x1.t43 x1.o9 x1.o10))
def oh (w : Wd) (l : List Ac) : Option Wd :=
 (
  (wY w.C).bind fun v2 =>
  bif !v2 then
   some true
  else
   bif decide (w.Tick < 3) then
    some true
   else
    some (decide (w.Tick ≥ 3145728))
 ).bind fun v1 =>
 bif v1 then
  (ni w).bind fun _ =>
  some w
 else
  (sD w l).bind fun v4 =>
  bif ci 0 w.Bad.length 8 then
   (iter (im w v4) bE (dQ.mk 0 ([] : List Nd) ([] : List Of))).bind fun v5 =>
   some (Wd.mk w.C w.Bad (IntKind.i64.wrap (w.Tick + 1)) v5.o9 v5.o10)
  else none
theorem F5 {w : Wd} {l : List Ac} {r_ : Wd} (hr : oh w l = some r_) : aw Tryz.prog 17 [x5 w, .slice 5 (l.map nk)] [x5 r_] := by
 refine zh Tryz.func17 Z Z Z Z ?_;unfold oh at hr;refine zQ<|zR<|yS Z (bT Z Z Z Z Z)<|yS Z (ze Z j7 Z Z)<|zN<|zT<|zQ ?_;obtain ⟨v1, hb_v1, ho_v1⟩ := zB hr;clear hr;refine LW.cut (E := [(1, .p (.slice 5 (l.map nk))), (2, .ptr 0 0), (4, .ptr 1 0), (25, (bQ v1))]) (O := [.box (gB w), .box rM]) ?_ ?_
 ·have hr := hb_v1;refine zR<|yS Z (zA Z Z lP)<|yS Z (zD Z Z Z bY Z Z)<|zb hr fun v2 h_v2 hr => yS Z (zC Z Z Z (by kernel_rfl) (zp (Ef h_v2) (.cons zv .nil)))<|yS Z (ab.not Z Z)<|zM Z ?_;refine zc 16 Z (fun g1 => ?_)<|fun g1 => ?_
  ·
   refine zi g1 hr fun hr => yU Z (gd g1 Z) Z<|yU Z (gd g1 Z) Z<|yU Z (gd g1 Z) Z<|yS Z (cq Z (aS g1 Z) Z)<|zM Z<|yU Z Z Z<|yU Z Z Z<|yU Z Z Z<|yS Z (cq Z Z Z)<|zN<|zT ?_;obtain rfl := zJ hr;exact zW 2 ⟨Z, Z, Z, Z, trivial⟩ Z Z Z Z
  ·
   refine zo g1 hr fun hr => yV Z (gd g1 Z) (zA Z Z dy)<|yV Z (gd g1 Z) (zD Z Z Z a7 Z Z)<|yV Z (gd g1 Z) (ay Z Z Z Z)<|yS Z (bg Z (aS g1 Z) Z)<|zM Z ?_;refine zc 21 Z (fun g2 => ?_)<|fun g2 => ?_
   ·
    refine zi g2 hr fun hr => yU Z (gd g2 Z) Z<|yU Z (gd g2 Z) Z<|yU Z (gd g2 Z) Z<|yS Z (cq Z (aS g2 Z) Z)<|zN<|zT ?_;obtain rfl := zJ hr;exact zW 2 ⟨Z, Z, Z, Z, trivial⟩ Z Z Z Z
   ·
    refine zo g2 hr fun hr => yV Z (gd g2 Z) (zA Z Z dy)<|yV Z (gd g2 Z) (zD Z Z Z a7 Z Z)<|yV Z (gd g2 Z) (ay Z Z Z Z)<|yS Z (bg Z (aS g2 Z) Z)<|zN<|zT ?_;obtain rfl := zJ hr;exact zW 2 ⟨Z, Z, Z, Z, trivial⟩ Z Z Z Z
 ·have hr := ho_v1;clear hb_v1;refine zX Z (fun g3 => ?_)<|fun g3 => ?_
  ·
   refine zi g3 hr fun hr => zQ<|zR<|yS Z (zD Z Z Z bS Z Z)<|zb hr fun v3 h_v3 hr => ?_;obtain rfl := ss h_v3;refine yS Z (zC Z Z Z (by kernel_rfl) (zp (Db h_v3) (.cons zv .nil)))<|yS Z (zs Z Z Z Z bS Z Z Z Z)<|zN<|zT<|zr<|af ?_;obtain rfl := zJ hr;exact zf (.one (.cellAgg Z Z (by kernel_rfl) Z)) zv
  ·
   refine zo g3 hr fun hr => zk<|zT<|zQ<|zR<|yS Z (zD Z Z Z bS Z Z)<|zM Z<|zb hr fun v4 h_v4 hr => yS Z (zC Z Z Z (by kernel_rfl) (LC.frameX (x' := .agg (jU w v4.1 v4.2.1 v4.2.2.1 v4.2.2.2 87 5 4)) (H' := [.box (gB w), .box rM, .box (gB w), .box (jU w v4.1 v4.2.1 v4.2.2.1 v4.2.2.2 87 5 4), .box (jU w v4.1 v4.2.1 v4.2.2.1 v4.2.2.2 87 5 4), .box [.fn 86 [] [.ptr 2 0]]]) (Ev h_v4) (.consC zv (.consC zv .nil)) Z (by simp only [List.map_cons, List.map_nil, List.cons_append, List.nil_append, aa.shift, LV.shifts, LV.shift] <;> rfl) (by simp only [List.map_cons, List.map_nil, List.cons_append, List.nil_append, aa.shift, LV.shifts, LV.shift] <;> rfl)))<|yS Z (ze Z vC Z Z)<|yS Z (zs Z Z Z Z pR Z Z Z Z)<|zN<|zT<|zQ<|LW.ent (bK.slot Z)<|LW.ent (bK.slot Z)<|LW.drawW (by kernel_rfl) (by kernel_rfl) ?_;refine yF (F := []) (s := none) Z (fun H _ => zA Z Z lP) Z ?_;refine yF Z (zd Z Z Z bY Z Z) Z ?_;refine yF (F := []) (s := none) Z (fun H _ => zA Z Z de) Z ?_;refine yF Z (zd Z Z Z eR Z Z) Z<|zg hr fun q1 hr => ?_;refine yF Z (bF.callV (id := 7) (qs := [(kI w.Bad)]) Z Z Z (by kernel_rfl) (uH q1) (fun H => (.consC zv .nil)) Z) Z ?_;refine yF (F := []) (s := none) Z (fun H _ => zA Z Z dy) Z ?_;refine yF Z (zd Z Z Z a7 Z Z) Z ?_;refine yF (F := []) (s := none) Z (fun H _ => ay Z Z Z Z) Z ?_;refine yF (F := []) (s := none) Z (fun H _ => ab.build Z Af Z Z Z) Z ?_;refine yF Z (bF.alloc Z j7 (id := 8) Z) Z<|yF Z (zt Z Z Z Z bS Z Z Z) Z ?_;refine LF.nil ⟨by kernel_rfl, ?_⟩;refine zT<|zQ<|zQ<|LW.ent (bK.lazyCell (i := 8) (j := 7) (m := 12) Z Z Z Z Z Z)<|LW.ent (bK.lazyCell (i := 8) (j := 8) (m := 9) Z Z Z Z Z Z)<|zR<|yS Z (zA Z Z bz)<|yS Z (zD Z Z Z cP Z Z)<|yS Z (cB Z Z (by kernel_rfl))<|zM Z<|zN<|zT ?_;obtain ⟨v5, hb_v5, ho_v5⟩ := zB hr;clear hr;refine LW.tail (E := [(4, .ptr 1 0), (6, .ptr 8 0)]) (O := [.box (gB w), .box rM, .box (gB w), .box (jU w v4.1 v4.2.1 v4.2.2.1 v4.2.2.2 87 5 4), .box (jU w v4.1 v4.2.1 v4.2.2.1 v4.2.2.2 87 5 4), .box [.fn 86 [] [.ptr 2 0]], .box (jU w v4.1 v4.2.1 v4.2.2.1 v4.2.2.2 87 5 4), .vec 1 (w.Bad.map aB), .box [(kI w.C.W), (uQ w.C.Seed), (iQ w.C.Epoch), (iQ w.C.Num), (iQ w.C.Den), (jI 7 w.Bad), .p (.int .i64 (IntKind.i64.wrap (w.Tick + 1))), .vec 12 9 (v5.o9.map gV).length 0 (v5.o9.map gV).length, (jO 10 v5.o10)], .vec 12 (v5.o9.map gV), .vec 9 (v5.o10.map dh)]) ?_<|fun env_v5 H_v5 hw_v5 => ?_
   ·refine LW.block ?_;refine LW.iterB (E := fun x1 : dQ => [(2, .ptr 0 0), (4, .ptr 1 0), (5, .ptr 6 0), (6, .ptr 8 0), (42, .p (.int .i64 (w.N.length : Int))), (43, (iQ x1.t43))]) (O := fun x1 => [.box (gB w), .box rM, .box (gB w), .box (jU w v4.1 v4.2.1 v4.2.2.1 v4.2.2.2 87 5 4), .box (jU w v4.1 v4.2.1 v4.2.2.1 v4.2.2.2 87 5 4), .box [.fn 86 [] [.ptr 2 0]], .box (jU w v4.1 v4.2.1 v4.2.2.1 v4.2.2.2 87 5 4), .vec 1 (w.Bad.map aB), .box [(kI w.C.W), (uQ w.C.Seed), (iQ w.C.Epoch), (iQ w.C.Num), (iQ w.C.Den), (jI 7 w.Bad), .p (.int .i64 (IntKind.i64.wrap (w.Tick + 1))), .vec 12 9 (x1.o9.map gV).length 0 (x1.o9.map gV).length, (jO 10 x1.o10)], .vec 12 (x1.o9.map gV), .vec 9 (x1.o10.map dh)]) hb_v5 (zW 11 ⟨rfl, rfl, rfl, rfl, rfl, rfl, trivial⟩ Z Z Z Z)<|fun x1 z_x1 hr hb_x1 => ?_;unfold im at hr;refine zQ<|zR<|yS Z (ay Z Z Z Z)<|zN<|zT<|zQ ?_;refine zX Z (fun g4 => ?_)<|fun g4 => ?_
    ·
     refine zi g4 hr fun hr => zk<|zT<|zQ<|zl<|zQ<|zR<|zM Z<|zM Z<|zN<|zT<|zQ<|zR<|yS Z (zD Z Z Z pR Z Z)<|zM Z<|zb hr fun v6 h_v6 hr => yS Z (zC Z Z Z (by kernel_rfl) (LC.pre (IC h_v6) Z Z Z))<|zM Z<|yS Z (fB Z Z Z)<|yS Z (fB Z Z Z)<|yS Z (ze Z iO Z Z)<|yS Z (zs Z Z Z Z aJ Z Z Z Z)<|zM Z<|zN ?_;refine zT<|zQ<|LW.ent (bK.slot Z)<|LW.drawW (by kernel_rfl) (by kernel_rfl) ?_;refine yF (F := []) (s := none) Z (fun H _ => zA Z Z lP) Z ?_;refine yF Z (zd Z Z Z bY Z Z) Z ?_;refine yF (F := []) (s := none) Z (fun H _ => zA Z Z bz) Z ?_;refine yF Z (zd Z Z Z cP Z Z) Z<|zK Z<|zb hr fun y1 h_y1 hr => ?_;refine yF (F := []) (s := none) Z (fun H _ => zx Z Z Z ei h_y1 Z) Z ?_;refine yF (F := []) (s := none) Z (fun H _ => cR Z Z Z bX Z Z) Z ?_;refine yF Z (zd Z Z Z aJ Z Z) Z<|zK Z<|zb hr fun v7 h_v7 hr => ?_;refine yF (F := []) (s := none) Z (fun H _ => zC Z Z Z (by kernel_rfl) (zp (FV h_v7) (.cons zv (.cons zv (.cons zv (.cons zv .nil)))))) Z ?_;refine zK Z ?_;refine yF (F := []) (s := none) Z (fun H _ => fB Z Z Z) Z ?_;refine yF (F := []) (s := none) Z (fun H _ => fB Z Z Z) Z ?_;refine yF Z (bF.alloc Z ne (id := 12) Z) Z<|yF Z (zt Z Z Z Z bX Z Z Z) Z<|zK Z ?_;refine LF.nil ⟨by kernel_rfl, ?_⟩;refine zT<|LW.drawW (by kernel_rfl) (by kernel_rfl) ?_;refine yF (F := []) (s := none) Z (fun H _ => zA Z Z bz) Z ?_;refine yF Z (zd Z Z Z cP Z Z) Z<|yF Z (zd Z Z Z bX Z Z) Z ?_;refine yF (F := []) (s := none) Z (fun H _ => nb Z ei Z Z Z Z Z) Z ?_;refine zg hr fun q2 hr => yF Z (bF.appendX gV x1.o9 [v7.1] rfl Z Z Z Z ei q2) Z ?_;refine yF (F := []) (s := none) Z (fun H _ => zA Z Z eJ) Z ?_;refine yF Z (zd Z Z Z bl Z Z) Z<|zK Z<|zg hr fun q3 hr => yF Z (bF.appendX dh x1.o10 v7.2 Z Z Z Z Z bv q3) Z ?_;refine yF (F := []) (s := none) Z (fun H _ => zA Z Z bz) Z ?_;refine yF Z (zt Z Z Z Z cP Z Z Z) Z ?_;refine yF (F := []) (s := none) Z (fun H _ => zA Z Z eJ) Z ?_;refine yF Z (zt Z Z Z Z bl Z Z Z) Z ?_;refine LF.nil ⟨by kernel_rfl, ?_⟩;refine ai<|zT<|zR<|yS Z (ay Z Z Z Z)<|zM Z<|zN<|zT ?_;obtain rfl := zJ hr;exact ⟨_, rfl, zW 11 ⟨rfl, rfl, rfl, rfl, rfl, rfl, trivial⟩ Z Z Z rfl⟩
    ·
     refine zo g4 hr fun hr => zq<|ao<|ao<|zy<|zT ?_;obtain rfl := zJ hr;have hr := congrArg some (hb_x1 _ rfl);obtain rfl := zJ hr;exact zW 11 ⟨Z, Z, trivial⟩ Z Z Z Z
   ·have hr := ho_v5;clear hb_v5;refine zT<|LW.weak hw_v5<|zQ<|zR<|yS Z (zD Z Z Z bS Z Z)<|yS Z (zs Z Z Z Z bS Z Z Z Z)<|zN<|zT<|zr ?_;obtain rfl := zJ hr;exact zf (.one (.cellAgg Z Z (by kernel_rfl) Z))<|(Conv.agg (.cons zv (.cons zv (.cons zv (.cons zv (.cons zv (.cons (Conv.vecAll Z Z Z) (.cons zv (.cons (Conv.vecAll Z Z Z) (.cons (Conv.vecAll Z Z Z) .nil))))))))))
open Go.Proofs
structure du where
 t19 : Int
 o4 : List Nd
def il (c : Cf) (bad : List Int) (x1 : du) : Option (du ⊕ du) :=
 bif decide (x1.t19 < (c.W.length : Int)) then
  (rZ bad x1.t19).bind fun v3 =>
  bif !v3 then
   (vU x1.t19).bind fun v4 =>
   bif ci x1.o4.length [v4].length 176 then
    some (.inl (du.mk (IntKind.i64.wrap (x1.t19 + 1)) (x1.o4 ++ [v4])))
   else none
  else
   some (.inl (du.mk (IntKind.i64.wrap (x1.t19 + 1)) x1.o4))
 else
  some (.inr (du.mk x1.t19 x1.o4))
def qc (c : Cf) (bad : List Int) : Option Wd :=
 bif ci 0 bad.length 8 then
  (wY c).bind fun v1 =>
  bif !v1 then
   some (Wd.mk c bad 0 [] [])
  else
   (iter (il c bad) bE (du.mk 0 ([] : List Nd))).bind fun v2 =>
   some (Wd.mk c bad 3 v2.o4 [])
 else none
theorem Da {c : Cf} {bad : List Int} {r_ : Wd} (hr : qc c bad = some r_) : aw Tryz.prog 16 [kz c, .slice 1 (bad.map aB)] [x5 r_] := by
 refine zh Tryz.func16 Z Z Z Z ?_;unfold qc at hr;refine zQ<|zR<|yS Z (bT Z Z Z Z Z)<|yS Z (ze Z j7 Z Z)<|zN<|zT<|zQ<|LW.ent (bK.slot Z)<|LW.ent (bK.slot Z)<|LW.drawW (by kernel_rfl) (by kernel_rfl)<|yF Z (zd Z Z Z bY Z Z) Z<|zK Z<|zg hr fun q1 hr => ?_;refine yF Z (bF.callV (id := 2) (qs := [(kI bad)]) Z Z Z (by kernel_rfl) (uH q1) (fun H => (.consC zv .nil)) Z) Z ?_;refine yF (F := []) (s := none) Z (fun H _ => ab.build Z Af Z Z Z) Z ?_;refine yF Z (bF.alloc Z j7 (id := 3) Z) Z<|yF Z (zt Z Z Z Z bS Z Z Z) Z ?_;refine LF.nil ⟨by kernel_rfl, ?_⟩;refine zT<|zQ<|zQ<|zR<|yS Z (zD Z Z Z bY Z Z)<|zb hr fun v1 h_v1 hr => yS Z (zC Z Z Z (by kernel_rfl) (zp (Ef h_v1) (.cons zv .nil)))<|yS Z (ab.not Z Z)<|zN<|zT ?_;refine zX Z (fun g1 => ?_)<|fun g1 => ?_
 ·
  refine zi g1 hr fun hr => zQ<|zR<|yS Z (zD Z Z Z bS Z Z)<|yS Z (zs Z Z Z Z bS Z Z Z Z)<|zN<|zT<|zr<|af ?_;obtain rfl := zJ hr;exact zf (.one (.cellAgg Z Z (by kernel_rfl) Z))<|(Conv.agg (.cons zv (.cons zv (.cons zv (.cons zv (.cons zv (.cons (Conv.vecAll Z Z Z) (.cons zv (.cons Conv.zs (.cons Conv.zs .nil))))))))))
 ·
  refine zo g1 hr fun hr => zk<|zT<|zQ<|zR<|yS Z (zA Z Z dy)<|yS Z (zs Z Z Z Z a7 Z Z Z Z)<|zN<|zT<|zQ<|zQ<|LW.ent (bK.lazyCell (i := 3) (j := 7) (m := 12) Z Z Z Z Z Z)<|zR<|yS Z (zA Z Z gm)<|yS Z (zD Z Z Z eR Z Z)<|yS Z (cB Z Z (by kernel_rfl))<|zM Z<|zN<|zT ?_;obtain ⟨v2, hb_v2, ho_v2⟩ := zB hr;clear hr;refine LW.tail (E := [(4, .ptr 1 0), (5, .ptr 3 0)]) (O := [.box (bN c), .box rM, .vec 1 (bad.map aB), .box [(kI c.W), (uQ c.Seed), (iQ c.Epoch), (iQ c.Num), (iQ c.Den), (jI 2 bad), (iQ 3), .vec 12 4 (v2.o4.map gV).length 0 (v2.o4.map gV).length, .zs], .vec 12 (v2.o4.map gV)]) ?_<|fun env_v2 H_v2 hw_v2 => ?_
  ·refine LW.block ?_;refine LW.iterB (E := fun x1 : du => [(1, (kI bad)), (4, .ptr 1 0), (5, .ptr 3 0), (18, .p (.int .i64 (c.W.length : Int))), (19, (iQ x1.t19))]) (O := fun x1 => [.box (bN c), .box rM, .vec 1 (bad.map aB), .box [(kI c.W), (uQ c.Seed), (iQ c.Epoch), (iQ c.Num), (iQ c.Den), (jI 2 bad), (iQ 3), .vec 12 4 (x1.o4.map gV).length 0 (x1.o4.map gV).length, .zs], .vec 12 (x1.o4.map gV)]) hb_v2 (zW 5 ⟨rfl, rfl, rfl, rfl, rfl, trivial⟩ Z Z Z Z)<|fun x1 z_x1 hr hb_x1 => ?_;unfold il at hr;refine zQ<|zR<|yS Z (ay Z Z Z Z)<|zN<|zT<|zQ ?_;refine zX Z (fun g2 => ?_)<|fun g2 => ?_
   ·
    refine zi g2 hr fun hr => zk<|zT<|zQ<|zl<|zQ<|zR<|zM Z<|zM Z<|zN<|zT<|zQ<|zR<|zM Z<|zM Z<|zb hr fun v3 h_v3 hr => yS Z (zC Z Z Z (by kernel_rfl) (zp (Co h_v3) (.cons zv (.cons zv .nil))))<|yS Z (ab.not Z Z)<|zN<|zT ?_;refine zX Z (fun g3 => ?_)<|fun g3 => ?_
    ·
     refine zi g3 hr fun hr => LW.drawW (by kernel_rfl) (by kernel_rfl) ?_;refine yF (F := []) (s := none) Z (fun H _ => zA Z Z bz) Z ?_;refine yF Z (zd Z Z Z cP Z Z) Z<|zK Z<|zb hr fun v4 h_v4 hr => ?_;refine yF (F := []) (s := none) Z (fun H _ => zC Z Z Z (by kernel_rfl) (zp (FY h_v4) (.cons zv .nil))) Z ?_;refine yF (F := []) (s := none) Z (fun H _ => nb Z ei Z Z Z Z Z) Z ?_;refine zg hr fun q2 hr => yF Z (bF.appendX gV x1.o4 [v4] rfl Z Z Z Z ei q2) Z ?_;refine yF (F := []) (s := none) Z (fun H _ => zA Z Z bz) Z ?_;refine yF Z (zt Z Z Z Z cP Z Z Z) Z ?_;refine LF.nil ⟨by kernel_rfl, ?_⟩;refine ai<|zT<|zR<|yS Z (ay Z Z Z Z)<|zM Z<|zN<|zT ?_;obtain rfl := zJ hr;exact ⟨_, rfl, zW 5 ⟨rfl, rfl, rfl, rfl, rfl, trivial⟩ Z Z Z rfl⟩
    ·
     refine zo g3 hr fun hr => zk<|ai<|zT<|zR<|yS Z (ay Z Z Z Z)<|zM Z<|zN<|zT ?_;obtain rfl := zJ hr;exact ⟨_, rfl, zW 5 ⟨rfl, rfl, rfl, rfl, rfl, trivial⟩ Z Z Z rfl⟩
   ·
    refine zo g2 hr fun hr => zq<|ao<|ao<|zy<|zT ?_;obtain rfl := zJ hr;have hr := congrArg some (hb_x1 _ rfl);obtain rfl := zJ hr;exact zW 5 ⟨Z, Z, trivial⟩ Z Z Z Z
  ·have hr := ho_v2;clear hb_v2;refine zT<|LW.weak hw_v2<|zQ<|zR<|yS Z (zD Z Z Z bS Z Z)<|yS Z (zs Z Z Z Z bS Z Z Z Z)<|zN<|zT<|zr ?_;obtain rfl := zJ hr;exact zf (.one (.cellAgg Z Z (by kernel_rfl) Z))<|(Conv.agg (.cons zv (.cons zv (.cons zv (.cons zv (.cons zv (.cons (Conv.vecAll Z Z Z) (.cons zv (.cons (Conv.vecAll Z Z Z) (.cons Conv.zs .nil))))))))))
structure dR where
 t11 : Int
 w : Wd
def ip (l : List Ac) (ticks : Int) (x1 : dR) : Option (dR ⊕ dR) :=
 bif decide (x1.t11 < (if 300 < ticks then 300 else ticks)) then
  (oh x1.w l).bind fun v3 =>
  some (.inl (dR.mk (IntKind.i64.wrap (x1.t11 + 1)) v3))
 else
  some (.inr (dR.mk x1.t11 x1.w))
def nh (w : Wd) (l : List Ac) (ticks : Int) : Option Wd :=
 (ni w).bind fun _ =>
 (iter (ip l ticks) bE (dR.mk 0 w)).bind fun v2 =>
 some v2.w
theorem Al {w : Wd} {l : List Ac} {ticks : Int} {r_ : Wd} (hr : nh w l ticks = some r_) : aw Tryz.prog 31 [x5 w, .slice 5 (l.map nk), .int .i64 ticks] [x5 r_] := by
 refine zh Tryz.func31 Z Z Z Z ?_;unfold nh at hr;refine zQ<|zR<|yS Z (bT Z Z Z Z Z)<|yS Z (ze Z j7 Z Z)<|zN<|zT<|zQ<|zR<|yS Z (zD Z Z Z bS Z Z)<|zb hr fun v1 h_v1 hr => ?_;obtain rfl := ss h_v1;refine yS Z (zC Z Z Z (by kernel_rfl) (zp (Db h_v1) (.cons zv .nil)))<|yS Z (zs Z Z Z Z bS Z Z Z Z)<|zN<|zT<|zQ<|zQ<|zR<|zM Z<|yS Z (ab.min Z Z Z)<|zM Z<|zN<|zT ?_;obtain ⟨v2, hb_v2, ho_v2⟩ := zB hr;clear hr;refine LW.tail (E := [(3, .ptr 0 0), (6, .ptr 1 0)]) (O := [.box (gB v2.w), .box rM]) ?_<|fun env_v2 H_v2 hw_v2 => ?_
 ·refine LW.block ?_;refine LW.iterB (E := fun x1 : dR => [(1, .p (.slice 5 (l.map nk))), (3, .ptr 0 0), (6, .ptr 1 0), (10, .p (.int .i64 (if 300 < ticks then 300 else ticks))), (11, (iQ x1.t11))]) (O := fun x1 => [.box (gB x1.w), .box rM]) hb_v2 (zW 2 ⟨rfl, rfl, rfl, rfl, rfl, trivial⟩ Z Z Z Z)<|fun x1 z_x1 hr hb_x1 => ?_;unfold ip at hr;refine zQ<|zR<|yS Z (ay Z Z Z Z)<|zN<|zT<|zQ ?_;refine zX Z (fun g1 => ?_)<|fun g1 => ?_
  ·
   refine zi g1 hr fun hr => zk<|zT<|zQ<|zl<|zR<|yS Z (zD Z Z Z bS Z Z)<|zM Z<|zb hr fun v3 h_v3 hr => yS Z (zC Z Z Z (by kernel_rfl) (zp (F5 h_v3) (.cons zv (.cons zv .nil))))<|yS Z (zs Z Z Z Z bS Z Z Z Z)<|zN<|ai<|zT<|zR<|yS Z (ay Z Z Z Z)<|zM Z<|zN<|zT ?_;obtain rfl := zJ hr;exact ⟨_, rfl, zW 2 ⟨rfl, rfl, rfl, rfl, rfl, trivial⟩ Z Z Z rfl⟩
  ·
   refine zo g1 hr fun hr => zq<|ao<|ao<|zy<|zT ?_;obtain rfl := zJ hr;have hr := congrArg some (hb_x1 _ rfl);obtain rfl := zJ hr;exact zW 2 ⟨Z, Z, trivial⟩ Z Z Z Z
 ·have hr := ho_v2;clear hb_v2;refine zT<|LW.weak hw_v2<|zQ<|zR<|yS Z (zD Z Z Z bS Z Z)<|yS Z (zs Z Z Z Z bS Z Z Z Z)<|zN<|zT<|zr ?_;obtain rfl := zJ hr;exact zf (.one (.cellAgg Z Z (by kernel_rfl) Z)) zv
open Go.Proofs
structure fZ where
 t13 : Int
def si (s1 : List Bk) (s2 : List Bk) (x1 : fZ) : Option (fZ ⊕ (fZ ⊕ Bool)) :=
 bif decide (x1.t13 < (s1.length : Int)) then
  (ix s1 x1.t13).bind fun y1 =>
  (ix s2 x1.t13).bind fun y2 =>
  bif !((y1.Slot == y2.Slot) && ((y1.From == y2.From) && ((y1.Parent.1 == y2.Parent.1) && ((y1.Parent.2 == y2.Parent.2) && ((y1.Salt == y2.Salt) && true))))) then
   some (.inr (.inr false))
  else
   some (.inl (fZ.mk (IntKind.i64.wrap (x1.t13 + 1))))
 else
  some (.inr (.inl (fZ.mk x1.t13)))
def yJ (s1 : List Bk) (s2 : List Bk) : Option Bool :=
 bif (s1.length : Int) != (s2.length : Int) then
  some false
 else
  (iter (si s1 s2) bE (fZ.mk 0)).bind fun b_v1 => Sum.elim (fun _ =>
   some true) some b_v1
theorem F2 {s1 : List Bk} {s2 : List Bk} {r_ : Bool} (hr : yJ s1 s2 = some r_) : aw Tryz.prog 175 [.slice 5 (s1.map ax), .slice 5 (s2.map ax)] [.bool r_] := by
 refine zh Tryz.func175 Z Z Z Z ?_;unfold yJ at hr;refine zQ<|zR<|zM Z<|zN<|zT<|zQ<|zQ<|zR<|zM Z<|yS Z (cB Z Z (by kernel_rfl))<|zM Z<|yS Z (cB Z Z (by kernel_rfl))<|yS Z (ay Z Z Z Z)<|zN<|zT ?_;refine zX Z (fun g1 => ?_)<|fun g1 => ?_
 ·
  refine zi g1 hr fun hr => zQ<|zR<|zM Z<|zN<|zT<|zr<|af ?_;obtain rfl := zJ hr;exact zf (.one (.tmp Z)) zv
 ·
  refine zo g1 hr fun hr => zk<|zT<|zQ<|zQ<|zR<|zM Z<|yS Z (cB Z Z (by kernel_rfl))<|zM Z<|zN<|zT ?_;obtain ⟨b_v1, hb_v1, ho_v1⟩ := zB hr;clear hr;refine LW.tailB (b := b_v1) (E := fun v1 => [(4, (bQ false))]) (O := fun v1 => []) ?_<|fun v1 e_v1 env_v1 H_v1 hw_v1 => ?_
  ·refine LW.block ?_;refine LW.iterB (E := fun x1 : fZ => [(0, (kB s1)), (1, (kB s2)), (4, (bQ false)), (12, .p (.int .i64 (s1.length : Int))), (13, (iQ x1.t13))]) (O := fun x1 => []) hb_v1 (zW 0 ⟨rfl, rfl, rfl, rfl, rfl, trivial⟩ Z Z Z Z)<|fun x1 z_x1 hr hb_x1 => ?_;unfold si at hr;refine zQ<|zR<|yS Z (ay Z Z Z Z)<|zN<|zT<|zQ ?_;refine zX Z (fun g2 => ?_)<|fun g2 => ?_
   ·
    refine zi g2 hr fun hr => zk<|zT<|zQ<|zl<|zQ<|zR<|zM Z<|zM Z<|zN<|zT<|zQ<|LW.draw2 (by kernel_rfl) (by kernel_rfl)<|zH Z<|zH Z<|zb hr fun y1 h_y1 hr => yE Z (zx Z Z Z dI h_y1 Z)<|yE Z (cR Z Z Z ce Z Z)<|zH Z<|zH Z<|zb hr fun y2 h_y2 hr => yE Z (zx Z Z Z dI h_y2 Z)<|yE Z (cR Z Z Z ce Z Z)<|yE Z (ab.neqAgg Z Z Z Z Z sY) ?_;refine LO.nil<|zT ?_;refine zX Z (fun g3 => ?_)<|fun g3 => ?_
    ·
     refine zi g3 hr fun hr => zQ<|zR<|zM Z<|zN<|zT<|zr<|aq<|af<|af<|aq<|af<|af ?_;obtain rfl := zJ hr;have hr := congrArg some (hb_x1 _ rfl);obtain rfl := zJ hr;have hr := cS ho_v1;obtain rfl := zJ hr;exact zf (.one (.tmp Z)) zv
    ·
     refine zo g3 hr fun hr => zk<|ai<|zT<|zR<|yS Z (ay Z Z Z Z)<|zM Z<|zN<|zT ?_;obtain rfl := zJ hr;exact ⟨_, rfl, zW 0 ⟨rfl, rfl, rfl, rfl, rfl, trivial⟩ Z Z Z rfl⟩
   ·
    refine zo g2 hr fun hr => zq<|ao<|ao<|zy<|zT ?_;obtain rfl := zJ hr;have hr := congrArg some (hb_x1 _ rfl);obtain rfl := zJ hr;exact ⟨_, rfl, zW 0 ⟨rfl, trivial⟩ Z Z Z rfl⟩
  ·obtain rfl := e_v1;have hr := d4 ho_v1;clear hb_v1;refine zT<|LW.weak hw_v1<|zQ<|zR<|zM Z<|zN<|zT<|zr ?_;obtain rfl := zJ hr;exact zf (.one (.tmp Z)) zv
structure f3 where
 t13 : Int
def sj (s1 : List Vt) (s2 : List Vt) (x1 : f3) : Option (f3 ⊕ (f3 ⊕ Bool)) :=
 bif decide (x1.t13 < (s1.length : Int)) then
  (ix s1 x1.t13).bind fun y1 =>
  (ix s2 x1.t13).bind fun y2 =>
  bif !((y1.From == y2.From) && ((y1.Slot == y2.Slot) && ((y1.Head.1 == y2.Head.1) && ((y1.Head.2 == y2.Head.2) && true)))) then
   some (.inr (.inr false))
  else
   some (.inl (f3.mk (IntKind.i64.wrap (x1.t13 + 1))))
 else
  some (.inr (.inl (f3.mk x1.t13)))
def yK (s1 : List Vt) (s2 : List Vt) : Option Bool :=
 bif (s1.length : Int) != (s2.length : Int) then
  some false
 else
  (iter (sj s1 s2) bE (f3.mk 0)).bind fun b_v1 => Sum.elim (fun _ =>
   some true) some b_v1
theorem F3 {s1 : List Vt} {s2 : List Vt} {r_ : Bool} (hr : yK s1 s2 = some r_) : aw Tryz.prog 176 [.slice 4 (s1.map aD), .slice 4 (s2.map aD)] [.bool r_] := by
 refine zh Tryz.func176 Z Z Z Z ?_;unfold yK at hr;refine zQ<|zR<|zM Z<|zN<|zT<|zQ<|zQ<|zR<|zM Z<|yS Z (cB Z Z (by kernel_rfl))<|zM Z<|yS Z (cB Z Z (by kernel_rfl))<|yS Z (ay Z Z Z Z)<|zN<|zT ?_;refine zX Z (fun g1 => ?_)<|fun g1 => ?_
 ·
  refine zi g1 hr fun hr => zQ<|zR<|zM Z<|zN<|zT<|zr<|af ?_;obtain rfl := zJ hr;exact zf (.one (.tmp Z)) zv
 ·
  refine zo g1 hr fun hr => zk<|zT<|zQ<|zQ<|zR<|zM Z<|yS Z (cB Z Z (by kernel_rfl))<|zM Z<|zN<|zT ?_;obtain ⟨b_v1, hb_v1, ho_v1⟩ := zB hr;clear hr;refine LW.tailB (b := b_v1) (E := fun v1 => [(4, (bQ false))]) (O := fun v1 => []) ?_<|fun v1 e_v1 env_v1 H_v1 hw_v1 => ?_
  ·refine LW.block ?_;refine LW.iterB (E := fun x1 : f3 => [(0, (kV s1)), (1, (kV s2)), (4, (bQ false)), (12, .p (.int .i64 (s1.length : Int))), (13, (iQ x1.t13))]) (O := fun x1 => []) hb_v1 (zW 0 ⟨rfl, rfl, rfl, rfl, rfl, trivial⟩ Z Z Z Z)<|fun x1 z_x1 hr hb_x1 => ?_;unfold sj at hr;refine zQ<|zR<|yS Z (ay Z Z Z Z)<|zN<|zT<|zQ ?_;refine zX Z (fun g2 => ?_)<|fun g2 => ?_
   ·
    refine zi g2 hr fun hr => zk<|zT<|zQ<|zl<|zQ<|zR<|zM Z<|zM Z<|zN<|zT<|zQ<|LW.draw2 (by kernel_rfl) (by kernel_rfl)<|zH Z<|zH Z<|zb hr fun y1 h_y1 hr => yE Z (zx Z Z Z cX h_y1 Z)<|yE Z (cR Z Z Z ch Z Z)<|zH Z<|zH Z<|zb hr fun y2 h_y2 hr => yE Z (zx Z Z Z cX h_y2 Z)<|yE Z (cR Z Z Z ch Z Z)<|yE Z (ab.neqAgg Z Z Z Z Z Av) ?_;refine LO.nil<|zT ?_;refine zX Z (fun g3 => ?_)<|fun g3 => ?_
    ·
     refine zi g3 hr fun hr => zQ<|zR<|zM Z<|zN<|zT<|zr<|aq<|af<|af<|aq<|af<|af ?_;obtain rfl := zJ hr;have hr := congrArg some (hb_x1 _ rfl);obtain rfl := zJ hr;have hr := cS ho_v1;obtain rfl := zJ hr;exact zf (.one (.tmp Z)) zv
    ·
     refine zo g3 hr fun hr => zk<|ai<|zT<|zR<|yS Z (ay Z Z Z Z)<|zM Z<|zN<|zT ?_;obtain rfl := zJ hr;exact ⟨_, rfl, zW 0 ⟨rfl, rfl, rfl, rfl, rfl, trivial⟩ Z Z Z rfl⟩
   ·
    refine zo g2 hr fun hr => zq<|ao<|ao<|zy<|zT ?_;obtain rfl := zJ hr;have hr := congrArg some (hb_x1 _ rfl);obtain rfl := zJ hr;exact ⟨_, rfl, zW 0 ⟨rfl, trivial⟩ Z Z Z rfl⟩
  ·obtain rfl := e_v1;have hr := d4 ho_v1;clear hb_v1;refine zT<|LW.weak hw_v1<|zQ<|zR<|zM Z<|zN<|zT<|zr ?_;obtain rfl := zJ hr;exact zf (.one (.tmp Z)) zv
def sg (a : Vw) (b : Vw) : Option Bool :=
 (yJ a.B b.B).bind fun v1 =>
 bif v1 then
  (yK a.V b.V).bind fun v2 =>
  some v2
 else
  some false
theorem Ak {a : Vw} {b : Vw} {r_ : Bool} (hr : sg a b = some r_) : aw Tryz.prog 162 [kQ a, kQ b] [.bool r_] := by
 refine zh Tryz.func162 Z Z Z Z ?_;unfold sg at hr;refine zQ<|zR<|yS Z (bT Z Z Z Z Z)<|yS Z (bT Z Z Z Z Z)<|zM Z<|zN<|zT<|zQ<|zR<|yS Z (zA Z Z br)<|yS Z (zD Z Z Z dp Z Z)<|yS Z (zA Z Z br)<|yS Z (zD Z Z Z dp Z Z)<|zb hr fun v1 h_v1 hr => yS Z (zC Z Z Z (by kernel_rfl) (zp (F2 h_v1) (.cons zv (.cons zv .nil))))<|zM Z ?_;refine zc 10 Z (fun g1 => ?_)<|fun g1 => ?_
 ·
  refine zi g1 hr fun hr => yV Z (gd g1 Z) (zA Z Z bD)<|yV Z (gd g1 Z) (zD Z Z Z dM Z Z)<|yV Z (gd g1 Z) (zA Z Z bD)<|yV Z (gd g1 Z) (zD Z Z Z dM Z Z)<|zb hr fun v2 h_v2 hr => yV Z (gd g1 Z) (zC Z Z Z (by kernel_rfl) (zp (F3 h_v2) (.cons zv (.cons zv .nil))))<|yS Z (cq Z (aS g1 Z) Z)<|zM Z<|zN<|zT<|zr ?_;obtain rfl := zJ hr;exact zf (.one (.tmp Z)) zv
 ·
  refine zo g1 hr fun hr => yU Z (gd g1 Z) Z<|yU Z (gd g1 Z) Z<|yU Z (gd g1 Z) Z<|yU Z (gd g1 Z) Z<|yU Z (gd g1 Z) Z<|yS Z (bg Z (aS g1 Z) Z)<|zM Z<|zN<|zT<|zr ?_;obtain rfl := zJ hr;exact zf (.one (.tmp Z)) zv
def yH (x : Of) (y : Of) : Option Bool :=
 bif x.Slot == y.Slot then
  bif x.From == y.From then
   bif ((x.B.Slot == y.B.Slot) && ((x.B.From == y.B.From) && ((x.B.Parent.1 == y.B.Parent.1) && ((x.B.Parent.2 == y.B.Parent.2) && ((x.B.Salt == y.B.Salt) && true))))) then
    (sg x.V y.V).bind fun v1 =>
    some v1
   else
    some false
  else
   some false
 else
  some false
theorem FZ {x : Of} {y : Of} {r_ : Bool} (hr : yH x y = some r_) : aw Tryz.prog 161 [dh x, dh y] [.bool r_] := by
 refine zh Tryz.func161 Z Z Z Z ?_;unfold yH at hr;refine zQ<|zR<|yS Z (bT Z Z Z Z Z)<|yS Z (bT Z Z Z Z Z)<|zM Z<|zN<|zT<|zQ<|zR<|yS Z (zA Z Z jM)<|yS Z (zD Z Z Z a7 Z Z)<|yS Z (zA Z Z jM)<|yS Z (zD Z Z Z a7 Z Z)<|yS Z (ay Z Z Z Z)<|zM Z ?_;refine zc 10 Z (fun g1 => ?_)<|fun g1 => ?_
 ·
  refine zi g1 hr fun hr => yV Z (gd g1 Z) (zA Z Z jN)<|yV Z (gd g1 Z) (zD Z Z Z a7 Z Z)<|yV Z (gd g1 Z) (zA Z Z jN)<|yV Z (gd g1 Z) (zD Z Z Z a7 Z Z)<|yV Z (gd g1 Z) (ay Z Z Z Z)<|yS Z (cq Z (aS g1 Z) Z)<|zM Z ?_;refine zc 17 Z (fun g2 => ?_)<|fun g2 => ?_
  ·
   refine zi g2 hr fun hr => yV Z (gd g2 Z) (zA Z Z jP)<|yV Z (gd g2 Z) (zD Z Z Z ce Z Z)<|yV Z (gd g2 Z) (zA Z Z jP)<|yV Z (gd g2 Z) (zD Z Z Z ce Z Z)<|yV Z (gd g2 Z) (ab.eqlAgg Z Z Z Z Z sY)<|yS Z (cq Z (aS g2 Z) Z)<|zM Z ?_;refine zc 24 Z (fun g3 => ?_)<|fun g3 => ?_
   ·
    refine zi g3 hr fun hr => yV Z (gd g3 Z) (zA Z Z eM)<|yV Z (gd g3 Z) (zD Z Z Z aJ Z Z)<|yV Z (gd g3 Z) (zA Z Z eM)<|yV Z (gd g3 Z) (zD Z Z Z aJ Z Z)<|zb hr fun v1 h_v1 hr => yV Z (gd g3 Z) (zC Z Z Z (by kernel_rfl) (zp (Ak h_v1) (.cons zv (.cons zv .nil))))<|yS Z (cq Z (aS g3 Z) Z)<|zM Z<|zN<|zT<|zr ?_;obtain rfl := zJ hr;exact zf (.one (.tmp Z)) zv
   ·
    refine zo g3 hr fun hr => yU Z (gd g3 Z) Z<|yU Z (gd g3 Z) Z<|yU Z (gd g3 Z) Z<|yU Z (gd g3 Z) Z<|yU Z (gd g3 Z) Z<|yS Z (bg Z (aS g3 Z) Z)<|zM Z<|zN<|zT<|zr ?_;obtain rfl := zJ hr;exact zf (.one (.tmp Z)) zv
  ·
   refine zo g2 hr fun hr => yU Z (gd g2 Z) Z<|yU Z (gd g2 Z) Z<|yU Z (gd g2 Z) Z<|yU Z (gd g2 Z) Z<|yU Z (gd g2 Z) Z<|yS Z (bg Z (aS g2 Z) Z)<|zM Z<|yU Z Z Z<|yU Z Z Z<|yU Z Z Z<|yU Z Z Z<|yU Z Z Z<|yS Z (bg Z Z Z)<|zM Z<|zN<|zT<|zr ?_;obtain rfl := zJ hr;exact zf (.one (.tmp Z)) zv
 ·
  refine zo g1 hr fun hr => yU Z (gd g1 Z) Z<|yU Z (gd g1 Z) Z<|yU Z (gd g1 Z) Z<|yU Z (gd g1 Z) Z<|yU Z (gd g1 Z) Z<|yS Z (bg Z (aS g1 Z) Z)<|zM Z<|yU Z Z Z<|yU Z Z Z<|yU Z Z Z<|yU Z Z Z<|yU Z Z Z<|yS Z (bg Z Z Z)<|zM Z<|yU Z Z Z<|yU Z Z Z<|yU Z Z Z<|yU Z Z Z<|yU Z Z Z<|yS Z (bg Z Z Z)<|zM Z<|zN<|zT ?_;refine LW.ret ?_;obtain rfl := zJ hr;exact zf (.one (.tmp Z)) zv
structure iV where
 t17 : Int
def vY (s1 : List Of) (s2 : List Of) (x1 : iV) : Option (iV ⊕ (iV ⊕ Bool)) :=
 bif decide (x1.t17 < (s1.length : Int)) then
  (ix s1 x1.t17).bind fun y1 =>
  (ix s2 x1.t17).bind fun y2 =>
  (yH y1 y2).bind fun v2 =>
  bif !v2 then
   some (.inr (.inr false))
  else
   some (.inl (iV.mk (IntKind.i64.wrap (x1.t17 + 1))))
 else
  some (.inr (.inl (iV.mk x1.t17)))
def DZ (s1 : List Of) (s2 : List Of) : Option Bool :=
 bif (s1.length : Int) != (s2.length : Int) then
  some false
 else
  (iter (vY s1 s2) bE (iV.mk 0)).bind fun b_v1 => Sum.elim (fun _ =>
   some true) some b_v1
theorem Gs {s1 : List Of} {s2 : List Of} {r_ : Bool} (hr : DZ s1 s2 = some r_) : LC Tryz.prog 160 [(kO s1), (kO s2), .fn 161 [] []] [] (Is (bQ r_) []) := by
 refine dq Tryz.func160 Z Z Z ?_;unfold DZ at hr;refine zQ<|zR<|zM Z<|zN<|zT<|zQ<|zQ<|zR<|zM Z<|yS Z (cB Z Z (by kernel_rfl))<|zM Z<|yS Z (cB Z Z (by kernel_rfl))<|yS Z (ay Z Z Z Z)<|zN<|zT ?_;refine zX Z (fun g1 => ?_)<|fun g1 => ?_
 ·
  refine zi g1 hr fun hr => zQ<|zR<|zM Z<|zN<|zT<|zr<|af ?_;obtain rfl := zJ hr;exact ap (.one (.tmp Z))<|⟨rfl, rfl⟩
 ·
  refine zo g1 hr fun hr => zk<|zT<|zQ<|zQ<|zR<|zM Z<|yS Z (cB Z Z (by kernel_rfl))<|zM Z<|zN<|zT ?_;obtain ⟨b_v1, hb_v1, ho_v1⟩ := zB hr;clear hr;refine LW.tailB (b := b_v1) (E := fun v1 => [(6, (bQ false))]) (O := fun v1 => []) ?_<|fun v1 e_v1 env_v1 H_v1 hw_v1 => ?_
  ·refine LW.block ?_;refine LW.iterB (E := fun x1 : iV => [(1, (kO s2)), (2, .fn 161 [] []), (6, (bQ false)), (15, (kO s1)), (16, .p (.int .i64 (s1.length : Int))), (17, (iQ x1.t17))]) (O := fun x1 => []) hb_v1 (zW 0 ⟨rfl, rfl, rfl, rfl, rfl, rfl, trivial⟩ Z Z Z Z)<|fun x1 z_x1 hr hb_x1 => ?_;unfold vY at hr;refine zQ<|zR<|yS Z (ay Z Z Z Z)<|zN<|zT<|zQ ?_;refine zX Z (fun g2 => ?_)<|fun g2 => ?_
   ·
    refine zi g2 hr fun hr => zk<|zT<|zQ<|zl<|zQ<|zR<|zM Z<|zb hr fun y1 h_y1 hr => yS Z (zx Z Z Z bv h_y1 Z)<|yS Z (cR Z Z Z dL Z Z)<|yS Z (ze Z nf Z Z)<|zM Z<|yS Z (zs Z Z Z Z dL Z Z Z Z)<|zN<|zT<|zQ<|zR<|zM Z<|zM Z<|zb hr fun y2 h_y2 hr => yS Z (zx Z Z Z bv h_y2 Z)<|yS Z (cR Z Z Z dL Z Z)<|yS Z (ze Z nf Z Z) ?_;refine yS Z (zs Z Z Z Z dL Z Z Z Z)<|zN<|zT<|zQ<|zR<|zM Z<|yS Z (zD Z Z Z dL Z Z)<|yS Z (zD Z Z Z dL Z Z)<|zb hr fun v2 h_v2 hr => yS Z (zC Z Z Z (by kernel_rfl) (zp (FZ h_v2) (.cons zv (.cons zv .nil))))<|yS Z (ab.not Z Z)<|zN<|zT ?_;refine zX Z (fun g3 => ?_)<|fun g3 => ?_
    ·
     refine zi g3 hr fun hr => zQ<|zR<|zM Z<|zN<|zT<|zr<|aq<|af<|af<|aq<|af<|af ?_;obtain rfl := zJ hr;have hr := congrArg some (hb_x1 _ rfl);obtain rfl := zJ hr;have hr := cS ho_v1;obtain rfl := zJ hr;exact aQ (env' := [(6, (bQ false))]) (H' := []) (zW 0 ⟨rfl, trivial⟩ Z Z Z Z) (.one (.tmp Z))<|⟨rfl, rfl⟩
    ·
     refine zo g3 hr fun hr => zk<|ai<|zT<|zR<|yS Z (ay Z Z Z Z)<|zM Z<|zN<|zT ?_;obtain rfl := zJ hr;exact ⟨_, rfl, zW 0 ⟨rfl, rfl, rfl, rfl, rfl, rfl, trivial⟩ Z Z Z rfl⟩
   ·
    refine zo g2 hr fun hr => zq<|ao<|ao<|zy<|zT ?_;obtain rfl := zJ hr;have hr := congrArg some (hb_x1 _ rfl);obtain rfl := zJ hr;exact ⟨_, rfl, zW 0 ⟨rfl, trivial⟩ Z Z Z rfl⟩
  ·obtain rfl := e_v1;have hr := d4 ho_v1;clear hb_v1;refine zT<|LW.weak hw_v1<|zQ<|zR<|zM Z<|zN<|zT<|zr ?_;obtain rfl := zJ hr;exact ap (.one (.tmp Z))<|⟨rfl, rfl⟩
def vS (a : Nd) (b : Nd) : Option Bool :=
 (DZ a.O b.O).bind fun v1 =>
 bif v1 then
  (sg a.V b.V).bind fun v2 =>
  bif v2 then
   (sg a.In b.In).bind fun v3 =>
   bif v3 then
    bif a.No == b.No then
     bif a.Tick == b.Tick then
      bif ((a.C.ID.1 == b.C.ID.1) && ((a.C.ID.2 == b.C.ID.2) && ((a.C.Slot == b.C.Slot) && ((a.C.Revoked == b.C.Revoked) && true)))) then
       some (a.Full == b.Full)
      else
       some false
     else
      some false
    else
     some false
   else
    some false
  else
   some false
 else
  some false
theorem C7 {a : Nd} {b : Nd} {r_ : Bool} (hr : vS a b = some r_) : aw Tryz.prog 120 [gV a, gV b] [.bool r_] := by
 refine zh Tryz.func120 Z Z Z Z ?_;unfold vS at hr;refine zQ<|zR<|yS Z (bT Z Z Z Z Z)<|yS Z (bT Z Z Z Z Z)<|zM Z<|zN<|zT<|zQ<|zR<|yS Z (zA Z Z bH)<|yS Z (zD Z Z Z bl Z Z)<|yS Z (zA Z Z bH)<|yS Z (zD Z Z Z bl Z Z)<|zb hr fun v1 h_v1 hr => yS Z (zC Z Z Z (by kernel_rfl) (LC.pre (Gs h_v1) Z Z Z))<|zM Z<|zN<|zT<|zQ<|zR<|zM Z<|zM Z ?_;refine zc 12 Z (fun g1 => ?_)<|fun g1 => ?_
 ·
  refine zi g1 hr fun hr => yV Z (gd g1 Z) (zA Z Z bP)<|yV Z (gd g1 Z) (zD Z Z Z aJ Z Z)<|yV Z (gd g1 Z) (zA Z Z bP)<|yV Z (gd g1 Z) (zD Z Z Z aJ Z Z)<|zb hr fun v2 h_v2 hr => yV Z (gd g1 Z) (zC Z Z Z (by kernel_rfl) (zp (Ak h_v2) (.cons zv (.cons zv .nil))))<|yS Z (cq Z (aS g1 Z) Z)<|zM Z ?_;refine zc 19 Z (fun g2 => ?_)<|fun g2 => ?_
  ·
   refine zi g2 hr fun hr => yV Z (gd g2 Z) (zA Z Z bC)<|yV Z (gd g2 Z) (zD Z Z Z aJ Z Z)<|yV Z (gd g2 Z) (zA Z Z bC)<|yV Z (gd g2 Z) (zD Z Z Z aJ Z Z)<|zb hr fun v3 h_v3 hr => yV Z (gd g2 Z) (zC Z Z Z (by kernel_rfl) (zp (Ak h_v3) (.cons zv (.cons zv .nil))))<|yS Z (cq Z (aS g2 Z) Z)<|zM Z ?_;refine zc 26 Z (fun g3 => ?_)<|fun g3 => ?_
   ·
    refine zi g3 hr fun hr => yV Z (gd g3 Z) (zA Z Z eK)<|yV Z (gd g3 Z) (zD Z Z Z a7 Z Z)<|yV Z (gd g3 Z) (zA Z Z eK)<|yV Z (gd g3 Z) (zD Z Z Z a7 Z Z)<|yV Z (gd g3 Z) (ay Z Z Z Z)<|yS Z (cq Z (aS g3 Z) Z)<|zM Z ?_;refine zc 33 Z (fun g4 => ?_)<|fun g4 => ?_
    ·
     refine zi g4 hr fun hr => yV Z (gd g4 Z) (zA Z Z b7)<|yV Z (gd g4 Z) (zD Z Z Z a7 Z Z)<|yV Z (gd g4 Z) (zA Z Z b7)<|yV Z (gd g4 Z) (zD Z Z Z a7 Z Z)<|yV Z (gd g4 Z) (ay Z Z Z Z)<|yS Z (cq Z (aS g4 Z) Z)<|zM Z ?_;refine zc 40 Z (fun g5 => ?_)<|fun g5 => ?_
     ·
      refine zi g5 hr fun hr => yV Z (gd g5 Z) (zA Z Z gk)<|yV Z (gd g5 Z) (zD Z Z Z gA Z Z)<|yV Z (gd g5 Z) (zA Z Z gk)<|yV Z (gd g5 Z) (zD Z Z Z gA Z Z)<|yV Z (gd g5 Z) (ab.eqlAgg Z Z Z Z Z Dm)<|yS Z (cq Z (aS g5 Z) Z)<|zM Z ?_;refine zc 47 Z (fun g6 => ?_)<|fun g6 => ?_
      ·
       refine zi g6 hr fun hr => yV Z (gd g6 Z) (zA Z Z ft)<|yV Z (gd g6 Z) (zD Z Z Z vu Z Z)<|yV Z (gd g6 Z) (zA Z Z ft)<|yV Z (gd g6 Z) (zD Z Z Z vu Z Z)<|yV Z (gd g6 Z) (ab.eqlBool Z Z Z Tryz.underlying4)<|yS Z (cq Z (aS g6 Z) Z)<|zM Z<|zN<|zT<|zr ?_;obtain rfl := zJ hr;exact zf (.one (.tmp Z)) zv
      ·
       refine zo g6 hr fun hr => yU Z (gd g6 Z) Z<|yU Z (gd g6 Z) Z<|yU Z (gd g6 Z) Z<|yU Z (gd g6 Z) Z<|yU Z (gd g6 Z) Z<|yS Z (bg Z (aS g6 Z) Z)<|zM Z<|zN<|zT<|zr ?_;obtain rfl := zJ hr;exact zf (.one (.tmp Z)) zv
     ·
      refine zo g5 hr fun hr => yU Z (gd g5 Z) Z<|yU Z (gd g5 Z) Z<|yU Z (gd g5 Z) Z<|yU Z (gd g5 Z) Z<|yU Z (gd g5 Z) Z<|yS Z (bg Z (aS g5 Z) Z)<|zM Z<|yU Z Z Z<|yU Z Z Z<|yU Z Z Z<|yU Z Z Z<|yU Z Z Z<|yS Z (bg Z Z Z)<|zM Z<|zN<|zT<|zr ?_;obtain rfl := zJ hr;exact zf (.one (.tmp Z)) zv
    ·
     refine zo g4 hr fun hr => yU Z (gd g4 Z) Z<|yU Z (gd g4 Z) Z<|yU Z (gd g4 Z) Z<|yU Z (gd g4 Z) Z<|yU Z (gd g4 Z) Z<|yS Z (bg Z (aS g4 Z) Z)<|zM Z<|yU Z Z Z<|yU Z Z Z<|yU Z Z Z<|yU Z Z Z<|yU Z Z Z<|yS Z (bg Z Z Z)<|zM Z<|yU Z Z Z<|yU Z Z Z<|yU Z Z Z<|yU Z Z Z<|yU Z Z Z<|yS Z (bg Z Z Z)<|zM Z<|zN<|zT ?_;refine LW.ret ?_;obtain rfl := zJ hr;exact zf (.one (.tmp Z)) zv
   ·
    refine zo g3 hr fun hr => yU Z (gd g3 Z) Z<|yU Z (gd g3 Z) Z<|yU Z (gd g3 Z) Z<|yU Z (gd g3 Z) Z<|yU Z (gd g3 Z) Z<|yS Z (bg Z (aS g3 Z) Z)<|zM Z<|yU Z Z Z<|yU Z Z Z<|yU Z Z Z<|yU Z Z Z<|yU Z Z Z<|yS Z (bg Z Z Z)<|zM Z<|yU Z Z Z<|yU Z Z Z<|yU Z Z Z<|yU Z Z Z<|yU Z Z Z<|yS Z (bg Z Z Z)<|zM Z<|yU Z Z Z<|yU Z Z Z ?_;refine yU Z Z Z<|yU Z Z Z<|yU Z Z Z<|yS Z (bg Z Z Z)<|zM Z<|zN<|zT<|zr ?_;obtain rfl := zJ hr;exact zf (.one (.tmp Z)) zv
  ·
   refine zo g2 hr fun hr => yU Z (gd g2 Z) Z<|yU Z (gd g2 Z) Z<|yU Z (gd g2 Z) Z<|yU Z (gd g2 Z) Z<|yU Z (gd g2 Z) Z<|yS Z (bg Z (aS g2 Z) Z)<|zM Z<|yU Z Z Z<|yU Z Z Z<|yU Z Z Z<|yU Z Z Z<|yU Z Z Z<|yS Z (bg Z Z Z)<|zM Z<|yU Z Z Z<|yU Z Z Z<|yU Z Z Z<|yU Z Z Z<|yU Z Z Z<|yS Z (bg Z Z Z)<|zM Z<|yU Z Z Z<|yU Z Z Z ?_;refine yU Z Z Z<|yU Z Z Z<|yU Z Z Z<|yS Z (bg Z Z Z)<|zM Z<|yU Z Z Z<|yU Z Z Z<|yU Z Z Z<|yU Z Z Z<|yU Z Z Z<|yS Z (bg Z Z Z)<|zM Z<|zN<|zT<|zr ?_;obtain rfl := zJ hr;exact zf (.one (.tmp Z)) zv
 ·
  refine zo g1 hr fun hr => yU Z (gd g1 Z) Z<|yU Z (gd g1 Z) Z<|yU Z (gd g1 Z) Z<|yU Z (gd g1 Z) Z<|yU Z (gd g1 Z) Z<|yS Z (bg Z (aS g1 Z) Z)<|zM Z<|yU Z Z Z<|yU Z Z Z<|yU Z Z Z<|yU Z Z Z<|yU Z Z Z<|yS Z (bg Z Z Z)<|zM Z<|yU Z Z Z<|yU Z Z Z<|yU Z Z Z<|yU Z Z Z<|yU Z Z Z<|yS Z (bg Z Z Z)<|zM Z<|yU Z Z Z<|yU Z Z Z ?_;refine yU Z Z Z<|yU Z Z Z<|yU Z Z Z<|yS Z (bg Z Z Z)<|zM Z<|yU Z Z Z<|yU Z Z Z<|yU Z Z Z<|yU Z Z Z<|yU Z Z Z<|yS Z (bg Z Z Z)<|zM Z<|yU Z Z Z<|yU Z Z Z<|yU Z Z Z<|yU Z Z Z<|yU Z Z Z<|yS Z (bg Z Z Z)<|zM Z<|zN<|zT<|zr ?_;obtain rfl := zJ hr;exact zf (.one (.tmp Z)) zv
end Go.Mg
