/- TopSure. TopSure, plain. TopNever. Laws of cursors. CursorUnder, CursorStays, CursorLine: the plain laws. TopNever, plain. What arguments are: offers, nodes. What arguments are: acts. How the program's own line of words reads, letter by letter; facts of the whole program that each row asks for. Conditions: none. -/
import Derived.Test.YtbjmcafamkdokaaGreatX3
import Derived.Test.YtbjmcafamkdokaaGreatX10
import Derived.Test.YtbjmcafamkdokaaGreatX7
import Derived.Test.YtbjmcafamkdokaaGreatX8
import Derived.Test.YtbjmcafamkdokaaGreatX6
import Derived.Test.YtbjmcafamkdokaaGreatRows
import Derived.ProofKit
import Derived.OpenShut
set_option maxRecDepth 100000
set_option linter.unusedSimpArgs false
set_option linter.unusedVariables false
namespace Go.Mg
open Go.Proofs
structure Ib where
 t : Int
 w : Wd
 pins : List ID
structure Ic where
 i : Int
 pins : List ID
structure Id where
 i : Int
theorem HK {U : Vw} {w : Wd} {l : List Ac} (G : Gw U w l) (T : qe (eV w l) l) (hh : gF w.C w.Bad w) (hA : xY w) (L : E3 w) (hs : ge w.C w.Bad (w.Tick / 3) < fe w.C w.Bad (w.Tick / 3)) {id : ID} (hp : As w id) : As (eV w l) id := by
 by_cases h : w.Tick % 3 = 2
 ·exact A2 G T hh hA h L.upto (L.voted h) hs hp
 ·exact DQ G h hp
section
variable {c : Cf} {bad : List Int} {l : List Ac}
theorem FE (hb : iJ c bad l) {k : Nat} (hk : k ≤ 14) (T : qe (bi (bg c bad) l (k + 1)) l) (hs : lM c bad ((3 + k : Int) / 3) = true) {id : ID} (hp : As (bi (bg c bad) l k) id) : As (bi (bg c bad) l (k + 1)) id := by
 obtain ⟨e1, e2, e3⟩ := gY hb (k := k) (by omega);refine HK (jK hb (by omega)) T (tZ hb (by omega)) (DS hb (by omega)) (qZ hb k (by omega)) ?_ hp;rw [e1, e2, e3];exact of_decide_eq_true hs
def rS (c : Cf) (bad : List Int) (s : Int) : Prop := cD c ∧ 0 < fe c bad s + ge c bad s ∧ ¬ ge c bad s * c.Den > (fe c bad s + ge c bad s) * c.Num
theorem DZ (hb : iJ c bad l) {k : Nat} (hk : k ≤ 14) (ht : (3 + k : Int) % 3 = 2) (T : qe (bi (bg c bad) l (k + 1)) l) (hs : rS c bad ((3 + k : Int) / 3)) {n : Nd} (hn : n ∈ (bi (bg c bad) l (k + 1)).N) {id : ID} (hp : u7 c n.V ((3 + k : Int) / 3) id) : As (bi (bg c bad) l (k + 1)) id := by
 obtain ⟨e1, e2, e3⟩ := gY hb (k := k) (by omega);obtain ⟨f1, f2, f3⟩ := gY hb (k := k + 1) (by omega);have L := qZ hb k (by omega);have hh' : gF c bad (bi (bg c bad) l (k + 1)) := mp hb (k + 1) (by omega);have hm := (jK hb (k := k + 1) (by omega)).may hn;rw [f1] at hm;refine FD (jK hb (by omega)) T (tZ hb (by omega)) (by rw [e1, e2]; exact hh') (DS hb (by omega)) (by rw [e3]; exact ht) L.upto (L.voted (by rw [e3]; exact ht)) hn (by rw [e1]; exact hm) ?_ ?_
 ·rw [e1, e3]; exact hp
 ·rw [e1, e2, e3]; have := hs.2.2; omega
end
open Go.Proofs
structure dG where
 s : Int
structure cp where
 t : Int
 w : Wd
structure dH where
 i : Int
def gC (c : Cf) (bad : List Int) (slots : Int) (x1 : dG) : Option (dG ⊕ (dG ⊕ Bool)) :=
 bif decide (x1.s ≤ slots) then
  (uo c bad x1.s).bind fun v6 =>
  bif !v6 then
   some (.inr (.inr true))
  else
   some (.inl (dG.mk (IntKind.i64.wrap (x1.s + 1))))
 else
  some (.inr (.inl (dG.mk x1.s)))
def iU (x2 : cp) (v9 : Wd) (x3 : dH) : Option (dH ⊕ (dH ⊕ (cp ⊕ (cp ⊕ Bool)))) :=
 bif decide (x3.i < (v9.N.length : Int)) then
  (ix v9.N x3.i).bind fun y1 =>
  bif y1.C.Revoked != 0 then
   some (.inr (.inr (.inr (.inr false))))
  else
   (ix v9.N x3.i).bind fun y2 =>
   (ix x2.w.N x3.i).bind fun y3 =>
   (ix v9.N x3.i).bind fun y4 =>
   bif few y2.V.B then
    bif !(decide (aE (am y2.V.B y4.C.ID) y3.C.ID ≥ 0)) then
     some (.inr (.inr (.inr (.inr false))))
    else
     some (.inl (dH.mk (IntKind.i64.wrap (x3.i + 1))))
   else none
 else
  some (.inr (.inl (dH.mk x3.i)))
def mZ (l : List Ac) (slots : Int) (x2 : cp) : Option (cp ⊕ (cp ⊕ Bool)) :=
 bif decide (x2.t < (IntKind.i64.wrap ((IntKind.i64.wrap (3 * slots)) + 3))) then
  (oW x2.w l).bind fun v9 =>
  (sd v9 l).bind fun v10 =>
  bif v10 then
   some (.inr (.inr true))
  else
   (iter (iU x2 v9) bG (dH.mk 0)).bind fun b_v11 => Sum.elim (fun _ =>
    some (.inl (cp.mk (IntKind.i64.wrap (x2.t + 1)) v9))) some b_v11
 else
  some (.inr (.inl (cp.mk x2.t x2.w)))
def yl (c : Cf) (bad : List Int) (l : List Ac) (slots : Int) : Option Bool :=
 (uL ).bind fun v1 =>
 (sc c bad l slots).bind fun v2 =>
 (
  bif !v1 then
   some true
  else
   bif !v2 then
    some true
   else
    (rU c bad 1 slots).bind fun v4 =>
    some (!v4)
 ).bind fun v3 =>
 bif v3 then
  some v1
 else
  (iter (gC c bad slots) bG (dG.mk 1)).bind fun b_v5 => Sum.elim (fun _ =>
   (p0 c bad).bind fun v7 =>
   (iter (mZ l slots) bG (cp.mk 3 v7)).bind fun b_v8 => Sum.elim (fun _ =>
    some true) some b_v8) some b_v5
theorem Jg {c : Cf} {bad : List Int} {l : List Ac} {slots : Int} {r_ : Bool} (hr : yl c bad l slots = some r_) : aw Tryz.prog 5 [jC c, .slice 1 (bad.map aG), .slice 5 (l.map kq), .int .i64 slots] [.bool r_] := by
 refine zh Tryz.func5 Z Z Z Z ?_;unfold yl at hr;refine zQ (zR (yS Z (b6 Z Z Z Z Z) (zM Z (zN (zT (zQ (zR (zb hr fun v1 h_v1 hr => yS Z (zC Z Z Z (by kernel_rfl) (zp (Jh h_v1) .nil)) (zM Z (zN (zT (zQ (zR (yS Z (zD Z Z Z bA Z Z) (zM Z (zM Z (zM Z (zb hr fun v2 h_v2 hr => yS Z (zC Z Z Z (by kernel_rfl) (zp (Ji h_v2) (.cons zv (.cons zv (.cons zv (.cons zv .nil)))))) (zM Z (zN (zT ?_)))))))))))))))))))));refine zQ ?_;obtain ⟨v3, hb_v3, ho_v3⟩ := zB hr;clear hr;refine LW.cut (E := [(1, (kI bad)), (2, .p (.slice 5 (l.map kq))), (3, (iQ slots)), (4, .ptr 0 0), (8, (bQ false)), (9, (bQ v1)), (35, (bQ v3))]) (O := [.box (bI c)]) ?_ ?_
 ·have hr := hb_v3;refine zR (zM Z (yS Z (ab.not Z Z) (zM Z ?_)));refine zc 25 Z (fun g1 => ?_) (fun g1 => ?_)
  ·
   refine zi g1 hr fun hr => yU Z (gd g1 Z) Z (yU Z (gd g1 Z) Z (yS Z (eF Z (bM g1 Z) Z) (zM Z (yU Z Z Z (yU Z Z Z (yU Z Z Z (yU Z Z Z (yU Z Z Z (yS Z (eF Z Z Z) (zN (zT ?_)))))))))));obtain rfl := zJ hr;exact zW 1 ⟨Z, Z, Z, Z, Z, Z, Z, trivial⟩ Z Z Z Z
  ·
   refine zo g1 hr fun hr => yV Z (gd g1 Z) (zm Z Z) (yV Z (gd g1 Z) (ab.not Z Z) (yS Z (df Z (bM g1 Z) Z) (zM Z ?_)));refine zc 29 Z (fun g2 => ?_) (fun g2 => ?_)
   ·
    refine zi g2 hr fun hr => yU Z (gd g2 Z) Z (yU Z (gd g2 Z) Z (yU Z (gd g2 Z) Z (yU Z (gd g2 Z) Z (yU Z (gd g2 Z) Z (yS Z (eF Z (bM g2 Z) Z) (zN (zT ?_)))))));obtain rfl := zJ hr;exact zW 1 ⟨Z, Z, Z, Z, Z, Z, Z, trivial⟩ Z Z Z Z
   ·
    refine zo g2 hr fun hr => yV Z (gd g2 Z) (zD Z Z Z bA Z Z) (yV Z (gd g2 Z) (zm Z Z) (yV Z (gd g2 Z) (zm Z Z) (zb hr fun v4 h_v4 hr => yV Z (gd g2 Z) (zC Z Z Z (by kernel_rfl) (zp (FY h_v4) (.cons zv (.cons zv (.cons zv (.cons zv .nil)))))) (yV Z (gd g2 Z) (ab.not Z Z) (yS Z (df Z (bM g2 Z) Z) (zN (zT ?_)))))));obtain rfl := zJ hr;exact zW 1 ⟨Z, Z, Z, Z, Z, Z, Z, trivial⟩ Z Z Z Z
 ·have hr := ho_v3;clear hb_v3;refine zX Z (fun g3 => ?_) (fun g3 => ?_)
  ·
   refine zi g3 hr fun hr => zQ (zR (zM Z (zM Z (zN (zT (zr (aj ?_)))))));obtain rfl := zJ hr;exact zf (.one (.tmp Z)) zv
  ·
   refine zo g3 hr fun hr => zk (zT (zQ (zQ (zR (zM Z (zN (zT ?_)))))));obtain ⟨b_v5, hb_v5, ho_v5⟩ := zB hr;clear hr;refine LW.tailB (b := b_v5) (E := fun v5 => [(1, (kI bad)), (2, .p (.slice 5 (l.map kq))), (3, (iQ slots)), (4, .ptr 0 0), (8, (bQ false))]) (O := fun v5 => [.box (bI c)]) ?_ (fun v5 e_v5 env_v5 H_v5 hw_v5 => ?_)
   ·refine LW.block ?_;refine LW.iterB (E := fun x1 : dG => [(1, (kI bad)), (2, .p (.slice 5 (l.map kq))), (3, (iQ slots)), (4, .ptr 0 0), (8, (bQ false)), (11, (iQ x1.s))]) (O := fun x1 => [.box (bI c)]) hb_v5 (zW 1 ⟨rfl, rfl, rfl, rfl, rfl, rfl, trivial⟩ Z Z Z Z) (fun x1 z_x1 hr hb_x1 => ?_);unfold gC at hr;refine zQ (zQ (zR (zM Z (zM Z (yS Z (ax Z Z Z Z) (zN (zT ?_)))))));refine zX Z (fun g4 => ?_) (fun g4 => ?_)
    ·
     refine zi g4 hr fun hr => zk (zT (zQ (zl (zQ (zR (yS Z (zD Z Z Z bA Z Z) (zM Z (zM Z (zb hr fun v6 h_v6 hr => yS Z (zC Z Z Z (by kernel_rfl) (zp (IG h_v6) (.cons zv (.cons zv (.cons zv .nil))))) (yS Z (ab.not Z Z) (zN (zT ?_))))))))))));refine zX Z (fun g5 => ?_) (fun g5 => ?_)
     ·
      refine zi g5 hr fun hr => zQ (zR (zM Z (zN (zT (zr (aA (aj (aj (aA (aj (aj ?_)))))))))));obtain rfl := zJ hr;have hr := congrArg some (hb_x1 _ rfl);obtain rfl := zJ hr;have hr := ey ho_v5;obtain rfl := zJ hr;exact zf (.one (.tmp Z)) zv
     ·
      refine zo g5 hr fun hr => zk (ai (zT (zR (zM Z (yS Z (ax Z Z Z Z) (zM Z (zN (zT ?_))))))));obtain rfl := zJ hr;exact ⟨_, rfl, zW 1 ⟨rfl, rfl, rfl, rfl, rfl, rfl, trivial⟩ Z Z Z rfl⟩
    ·
     refine zo g4 hr fun hr => zq (ap (ap (zy (zT ?_))));obtain rfl := zJ hr;have hr := congrArg some (hb_x1 _ rfl);obtain rfl := zJ hr;exact ⟨_, rfl, zW 1 ⟨rfl, rfl, rfl, rfl, rfl, trivial⟩ Z Z Z rfl⟩
   ·obtain rfl := e_v5;have hr := ga ho_v5;clear hb_v5;refine zT (LW.weak hw_v5 (zQ (zR (yS Z (zD Z Z Z bA Z Z) (zM Z (zb hr fun v7 h_v7 hr => yS Z (zC Z Z Z (by kernel_rfl) (zp (F5 h_v7) (.cons zv (.cons zv .nil)))) (yS Z (ze Z j9 Z Z) (yS Z (zs Z Z Z Z bK Z Z Z Z) (zN (zT (zQ (zQ (zR (zM Z (zN (zT ?_))))))))))))))));obtain ⟨b_v8, hb_v8, ho_v8⟩ := zB hr;clear hr;refine LW.tailB (b := b_v8) (E := fun v8 => [(8, (bQ false))]) (O := fun v8 => [.box (bI c), .box (fh v8.w)]) ?_ (fun v8 e_v8 env_v8 H_v8 hw_v8 => ?_)
    ·refine LW.block ?_;refine LW.iterB (E := fun x2 : cp => [(2, .p (.slice 5 (l.map kq))), (3, (iQ slots)), (8, (bQ false)), (12, .ptr 1 0), (13, (iQ x2.t))]) (O := fun x2 => [.box (bI c), .box (fh x2.w)]) hb_v8 (zW 2 ⟨rfl, rfl, rfl, rfl, rfl, trivial⟩ Z Z Z Z) (fun x2 z_x2 hr hb_x2 => ?_);unfold mZ at hr;refine zQ (zQ (zR (zM Z (zM Z (yS Z (ax Z Z Z Z) (yS Z (ax Z Z Z Z) (yS Z (ax Z Z Z Z) (zN (zT ?_)))))))));refine zX Z (fun g6 => ?_) (fun g6 => ?_)
     ·
      refine zi g6 hr fun hr => zk (zT (zQ (zl (zQ (zR (yS Z (zD Z Z Z bK Z Z) (zM Z (zb hr fun v9 h_v9 hr => yS Z (zC Z Z Z (by kernel_rfl) (zp (F6 h_v9) (.cons zv (.cons zv .nil)))) (yS Z (ze Z j9 Z Z) (yS Z (zs Z Z Z Z bK Z Z Z Z) (zN (zT (zQ (zR (yS Z (zD Z Z Z bK Z Z) (zM Z (zb hr fun v10 h_v10 hr => yS Z (zC Z Z Z (by kernel_rfl) (zp (Jj h_v10) (.cons zv (.cons zv .nil)))) (zM Z (zN (zT ?_))))))))))))))))))));refine zQ (zQ (zR (zM Z (zN (zT ?_)))));refine zX Z (fun g7 => ?_) (fun g7 => ?_)
      ·
       refine zi g7 hr fun hr => zQ (zR (zM Z (zN (zT (zr (aj (aA (aj (aj (aA (aj (aj ?_))))))))))));obtain rfl := zJ hr;have hr := congrArg some (hb_x2 _ rfl);obtain rfl := zJ hr;have hr := ey ho_v8;obtain rfl := zJ hr;exact zf (.one (.tmp Z)) zv
      ·
       refine zo g7 hr fun hr => zk (zT (zQ (zQ (zR (zM Z (zN (zT ?_)))))));obtain ⟨b_v11, hb_v11, ho_v11⟩ := zB hr;clear hr;refine LW.tailB (b := b_v11) (E := fun v11 => [(2, .p (.slice 5 (l.map kq))), (3, (iQ slots)), (8, (bQ false)), (12, .ptr 1 0), (13, (iQ x2.t)), (14, .ptr 2 0)]) (O := fun v11 => [.box (bI c), .box (fh x2.w), .box (fh v9)]) ?_ (fun v11 e_v11 env_v11 H_v11 hw_v11 => ?_)
       ·refine LW.block ?_;refine LW.iterB (E := fun x3 : dH => [(2, .p (.slice 5 (l.map kq))), (3, (iQ slots)), (8, (bQ false)), (12, .ptr 1 0), (13, (iQ x2.t)), (14, .ptr 2 0), (16, (iQ x3.i))]) (O := fun x3 => [.box (bI c), .box (fh x2.w), .box (fh v9)]) hb_v11 (zW 3 ⟨rfl, rfl, rfl, rfl, rfl, rfl, rfl, trivial⟩ Z Z Z Z) (fun x3 z_x3 hr hb_x3 => ?_);unfold iU at hr;refine zQ (zQ (zR (zM Z (yS Z (zA Z Z bF) (yS Z (zD Z Z Z db Z Z) (yS Z (d7 Z Z (by kernel_rfl)) (yS Z (ax Z Z Z Z) (zN (zT ?_)))))))));refine zX Z (fun g8 => ?_) (fun g8 => ?_)
        ·
         refine zi g8 hr fun hr => zk (zT (zQ (zl (zQ (LW.draw2 (by kernel_rfl) (by kernel_rfl) (yE Z (zA Z Z bF) (yE Z (zD Z Z Z db Z Z) (zH Z (zb hr fun y1 h_y1 hr => yE Z (zx Z Z Z dP h_y1 Z) (yE Z (ab.fieldAddrC Z Z jc Z) (yE Z (ab.fieldAddrC Z Z Dd Z) (yE Z (d6 Z Z Z bC Z Z) (yE Z (ax Z Z Z Z) (zH Z ?_))))))))))))));refine LO.cases 79 Z (fun (g9 : (y1.C.Revoked != 0) = true) => ?_) (fun (g9 : (y1.C.Revoked != 0) = false) => ?_)
         ·
          refine zi g9 hr fun hr => LO.sk Z Z Z (gd g9 Z) Z Z (LO.sk Z Z Z (gd g9 Z) Z Z (LO.sk Z Z Z (gd g9 Z) Z Z (LO.sk Z Z Z (gd g9 Z) Z Z (LO.sk Z Z Z (gd g9 Z) Z Z (LO.sk Z Z Z (gd g9 Z) Z Z (LO.sk Z Z Z (gd g9 Z) Z Z (LO.sk Z Z Z (gd g9 Z) Z Z (LO.sk Z Z Z (gd g9 Z) Z Z (LO.sk Z Z Z (gd g9 Z) Z Z (LO.sk Z Z Z (gd g9 Z) Z Z (LO.sk Z Z Z (gd g9 Z) Z Z (LO.sk Z Z Z (gd g9 Z) Z Z (LO.sk Z Z Z (gd g9 Z) Z Z (LO.sk Z Z Z (gd g9 Z) Z Z (LO.sk Z Z Z (gd g9 Z) Z Z (LO.sk Z Z Z (gd g9 Z) Z Z (LO.sk Z Z Z (gd g9 Z) Z Z (LO.sk Z Z Z (gd g9 Z) Z Z (LO.sk Z Z Z (gd g9 Z) Z Z (LO.sk Z Z Z (gd g9 Z) Z Z (LO.sk Z Z Z (gd g9 Z) Z Z (LO.sk Z Z Z (gd g9 Z) Z Z ?_))))))))))))))))))))));refine yE Z (eF Z (bM g9 Z) Z) (LO.nil (zT (LW.condT Z (zQ (zR (zM Z (zN (zT (zr (aA (aj (aj (aA (aj (aj (aA (aj (aj (aA (aj (aj ?_)))))))))))))))))))));obtain rfl := zJ hr;have hr := congrArg some (hb_x3 _ rfl);obtain rfl := zJ hr;have hr := ey ho_v11;obtain rfl := zJ hr;have hr := congrArg some (hb_x2 _ rfl);obtain rfl := zJ hr;have hr := ey ho_v8;obtain rfl := zJ hr;exact zf (.one (.tmp Z)) zv
         ·
          refine zo g9 hr fun hr => LO.gd Z Z Z (gd g9 Z) Z (zA Z Z bF) (LO.gd Z Z Z (gd g9 Z) Z (zD Z Z Z db Z Z) (LO.gd Z Z Z (gd g9 Z) Z (zm Z Z) (zb hr fun y2 h_y2 hr => LO.gd Z Z Z (gd g9 Z) Z (zx Z Z Z dP h_y2 Z) (LO.gd Z Z Z (gd g9 Z) Z (ab.fieldAddrC Z Z bV Z) (LO.gd Z Z Z (gd g9 Z) Z (ab.fieldAddrC Z Z bz Z) (LO.gd Z Z Z (gd g9 Z) Z (d6 Z Z Z dA Z Z) (LO.gd Z Z Z (gd g9 Z) Z (zA Z Z bF) (LO.gd Z Z Z (gd g9 Z) Z (zD Z Z Z db Z Z) (LO.gd Z Z Z (gd g9 Z) Z (zm Z Z) (zb hr fun y3 h_y3 hr => LO.gd Z Z Z (gd g9 Z) Z (zx Z Z Z dP h_y3 Z) (LO.gd Z Z Z (gd g9 Z) Z (ab.fieldAddrC Z Z jc Z) (LO.gd Z Z Z (gd g9 Z) Z (ab.fieldAddrC Z Z oq Z) (LO.gd Z Z Z (gd g9 Z) Z (d6 Z Z Z aR Z Z) (LO.gd Z Z Z (gd g9 Z) Z (zA Z Z bF) (LO.gd Z Z Z (gd g9 Z) Z (zD Z Z Z db Z Z) (LO.gd Z Z Z (gd g9 Z) Z (zm Z Z) (zb hr fun y4 h_y4 hr => LO.gd Z Z Z (gd g9 Z) Z (zx Z Z Z dP h_y4 Z) (LO.gd Z Z Z (gd g9 Z) Z (ab.fieldAddrC Z Z jc Z) (LO.gd Z Z Z (gd g9 Z) Z (ab.fieldAddrC Z Z oq Z) ?_)))))))))))))))))));refine LO.gd Z Z Z (gd g9 Z) Z (d6 Z Z Z aR Z Z) (zg hr fun q1 hr => LO.gd Z Z Z (gd g9 Z) Z (zC Z Z Z (by kernel_rfl) (zp (L0 (l := y2.V.B) (a := y3.C.ID) (b := y4.C.ID) (qz q1)) (.cons zv (.cons zv (.cons zv .nil))))) (LO.gd Z Z Z (gd g9 Z) Z (ab.not Z Z) (yE Z (df Z (bM g9 Z) Z) (LO.nil (zT ?_)))));refine zX Z (fun g10 => ?_) (fun g10 => ?_)
          ·
           refine zi g10 hr fun hr => zQ (zR (zM Z (zN (zT (zr (aA (aj (aj (aA (aj (aj (aA (aj (aj (aA (aj (aj ?_)))))))))))))))));obtain rfl := zJ hr;have hr := congrArg some (hb_x3 _ rfl);obtain rfl := zJ hr;have hr := ey ho_v11;obtain rfl := zJ hr;have hr := congrArg some (hb_x2 _ rfl);obtain rfl := zJ hr;have hr := ey ho_v8;obtain rfl := zJ hr;exact zf (.one (.tmp Z)) zv
          ·
           refine zo g10 hr fun hr => zk (ai (zT (zR (zM Z (yS Z (ax Z Z Z Z) (zM Z (zN (zT ?_))))))));obtain rfl := zJ hr;exact ⟨_, rfl, zW 3 ⟨rfl, rfl, rfl, rfl, rfl, rfl, rfl, trivial⟩ Z Z Z rfl⟩
        ·
         refine zo g8 hr fun hr => zq (ap (ap (zy (zT ?_))));obtain rfl := zJ hr;have hr := congrArg some (hb_x3 _ rfl);obtain rfl := zJ hr;exact ⟨_, rfl, zW 3 ⟨rfl, rfl, rfl, rfl, rfl, rfl, trivial⟩ Z Z Z rfl⟩
       ·obtain rfl := e_v11;have hr := ga ho_v11;clear hb_v11;refine zT (LW.weak hw_v11 (zR (yS Z (zD Z Z Z bK Z Z) (yS Z (zs Z Z Z Z bK Z Z Z Z) (zN (ai (zT (zR (zM Z (yS Z (ax Z Z Z Z) (zM Z (zN (zT ?_)))))))))))));obtain rfl := zJ hr;exact ⟨_, rfl, zW 2 ⟨rfl, rfl, rfl, rfl, rfl, trivial⟩ Z Z Z rfl⟩
     ·
      refine zo g6 hr fun hr => zq (ap (ap (zy (zT ?_))));obtain rfl := zJ hr;have hr := congrArg some (hb_x2 _ rfl);obtain rfl := zJ hr;exact ⟨_, rfl, zW 2 ⟨rfl, trivial⟩ Z Z Z rfl⟩
    ·obtain rfl := e_v8;have hr := ga ho_v8;clear hb_v8;refine zT (LW.weak hw_v8 (zQ (zR (zM Z (zN (zT (zr ?_)))))));obtain rfl := zJ hr;exact zf (.one (.tmp Z)) zv
open Go.Proofs
section
variable {c : Cu} {l : List Bk} {head found : ID} {is : Bool} {slot : Int}
theorem q5 (h : 0 ≤ aE (am l head) c.ID) : c8 c l head found is slot =
  if is = true ∧ aE (am l head) found ≥ 0 ∧ aE (am l head) found < aE (am l head) c.ID then ⟨found, slot, c.Revoked⟩ else c := by
 simp only [c8, if_neg (show ¬ aE (am l head) c.ID < 0 by omega)]
theorem DE (h : 0 ≤ aE (am l head) c.ID) : (c8 c l head found is slot).Revoked = c.Revoked := by
 rw [q5 h]; split <;> rfl
theorem DD (h : 0 ≤ aE (am l head) c.ID) : 0 ≤ aE (am l (c8 c l head found is slot).ID) c.ID := by
 have hc := dg.1 h;rw [q5 h]; split
 ·rename_i h2; exact dg.2 ((CX (dg.1 h2.2.1) hc).2 (by omega))
 ·exact dg.2 (w9 hc)
end
section
variable {c : Cf} {bad : List Int} {l : List Ac}
def un (w : Wd) (x : Nd) : Prop := x.C.Revoked = 0 ∧ (x.C.ID = (0, 0) ∨ As w x.C.ID)
theorem xw (hb : iJ c bad l) {k : Nat} (hk : k ≤ 14) (T : qe (bi (bg c bad) l (k + 1)) l) (hs : lM c bad ((3 + k : Int) / 3) = true) (hq : rS c bad ((3 + k : Int) / 3)) (hc : ∀ n ∈ (bi (bg c bad) l k).N, un (bi (bg c bad) l k) n)
  {j : Nat} {n : Nd} (hn : (bi (bg c bad) l k).N[j]? = some n) :
  ∃ x, (bi (bg c bad) l (k + 1)).N[j]? = some x ∧ aE (am x.V.B x.C.ID) n.C.ID ≥ 0 ∧ un (bi (bg c bad) l (k + 1)) x := by
 have G := jK hb (k := k) (by omega);have G' := jK hb (k := k + 1) (by omega);have hx : (bi (bg c bad) l (k + 1)).N[j]? = some (cy (bi (bg c bad) l k) l j n) := G.next hn;obtain ⟨e1, e2, e3⟩ := gY hb (k := k) (by omega);obtain ⟨f1, f2, f3⟩ := gY hb (k := k + 1) (by omega);have hm := List.mem_of_getElem? hn;have hmx := List.mem_of_getElem? hx;have hval := (G'.may hmx).valid;obtain ⟨c1, c2⟩ := hc n hm;have hid : n.C.ID = (0, 0) ∨ As (bi (bg c bad) l (k + 1)) n.C.ID := c2.imp_right fun h => FE hb (by omega) T hs h;have hkn : Kn (cy (bi (bg c bad) l k) l j n).V.B n.C.ID := hid.elim .inl fun h => (h _ hmx).1;refine ⟨_, hx, ?_⟩
 have same : (cy (bi (bg c bad) l k) l j n).C = n.C → aE (am (cy (bi (bg c bad) l k) l j n).V.B (cy (bi (bg c bad) l k) l j n).C.ID) n.C.ID ≥ 0 ∧ un (bi (bg c bad) l (k + 1)) (cy (bi (bg c bad) l k) l j n) := by
  intro e;unfold un;rw [e];exact ⟨dg.2 ((lD hval).2 (m7 hkn)), c1, hid⟩
 have h3 : (3 + k : Int) % 3 = 0 ∨ (3 + k : Int) % 3 = 1 ∨ (3 + k : Int) % 3 = 2 := by omega
 rcases h3 with h3 | h3 | h3
 ·exact same (G.first hn (by rw [e3]; exact h3)).1
 ·exact same (G.second hn (by rw [e3]; exact h3)).1
 ·obtain ⟨r, hr, e⟩ := DY (G.few hn) (k8 G.time hm) (by rw [G.mod hm, e3]; exact h3);have hsl := G.slot hm;rw [e3] at hsl;have hV : (aC (bi (bg c bad) l k).C n.V (jL (bi (bg c bad) l k).C n (aD (bi (bg c bad) l k) l j).1) (az n)).1 = (cy (bi (bg c bad) l k) l j n).V := (G.third hn (by rw [e3]; exact h3)).1.symm;rw [hV, hsl] at hr e;have e' : (cy (bi (bg c bad) l k) l j n).C = _ := e;rw [e1] at hr e';generalize hX : cy (bi (bg c bad) l k) l j n = x at *
  have hhead : bW c x.V.B (bH c x.V.V ((3 + k : Int) / 3)) = jk c x := by
   unfold jk;have ht := G'.time.at_ x hmx;rw [f3] at ht;rw [ht, wy (by omega) (by omega), if_pos (by omega), show ((3 : Int) + ((k + 1 : Nat) : Int) - 1) / 3 = (3 + k : Int) / 3 by omega]
  rw [hhead] at e'
  have hunder : n.C.ID ∈ am x.V.B (jk c x) := by
   refine (lD hval).2 ?_;rcases hid with h | h
   ·rw [h];refine u9 hval ?_;rw [← hhead];exact tM hval
   ·have := A3 G' (tZ hb (by omega)) h hmx;rw [f1] at this;exact this
  have hix := dg.2 hunder;refine ⟨by rw [e']; exact DD hix, by rw [e', DE hix]; exact c1, ?_⟩;rw [e', q5 hix];split
  ·rename_i h;exact .inr (DZ hb hk h3 T hq hmx (hr h.1))
  ·exact hid
open Classical in
theorem D5 (ha : uL = some true) (c : Cf) (bad : List Int) (l : List Ac) (slots : Int) : yl c bad l slots = some true := by
 unfold yl;rw [ha, ob];rcases Ca c bad l slots with e | ⟨e, hb, hs1, hs4⟩
 ·rw [e, ob, Bool.not_true, cf, Bool.not_false, ct, ob, ct]
 have hbb := hb.bad;rw [e, ob, Bool.not_true, cf, cf, Bv (by omega) (by omega) (by omega) (by omega), ob];by_cases hst : tw c bad 1 slots
 case neg => rw [decide_eq_false hst, Bool.not_false, ob, ct]
 rw [decide_eq_true hst, Bool.not_true, ob, cf]
 have hcalm := sR (step := gC c bad slots) (n := slots.toNat) (fun j => dG.mk (1 + (j : Int))) true (fun j => rS c bad (1 + (j : Int))) (fun j hj => by
  unfold gC;simp only;rw [decide_eq_true (show (1 + (j : Int)) ≤ slots by omega), ct, Bw (by omega), ob, cA (n := 1 + (j : Int) + 1) (by omega) (by omega)];by_cases hc : rS c bad (1 + (j : Int))
  ·rw [decide_eq_true (show cD c ∧ _ from hc), Bool.not_true, cf];exact .inr ⟨by congr 3, hc⟩
  ·rw [decide_eq_false (show ¬ (cD c ∧ _) from hc), Bool.not_false, ct]
   exact .inl Z) (by
  unfold gC;simp only
  rw [decide_eq_false (show ¬ (1 + ((slots.toNat : Nat) : Int)) ≤ slots by omega), cf]) (by omega)
 have hcalm' : iter (gC c bad slots) bG (dG.mk 1) = some (.inr true) ∨ (iter (gC c bad slots) bG (dG.mk 1) = some (.inl (dG.mk (1 + ((slots.toNat : Nat) : Int)))) ∧ ∀ j, j < slots.toNat → rS c bad (1 + (j : Int))) := hcalm;rcases hcalm' with e | ⟨e, hq⟩
 ·rw [e, ob]; rfl
 rw [e, ob];show ((p0 c bad).bind _) = _;rw [Cb hb.may (by omega), ob]
 obtain ⟨r, hr, hp⟩ := cZ (step := mZ l slots) (fun x => ∃ k : Nat, x.t = 3 + k ∧ (k : Int) ≤ 3 * slots ∧ x.w = bi (bg c bad) l k ∧ ∀ n ∈ (bi (bg c bad) l k).N, un (bi (bg c bad) l k) n) (fun x => (3 * slots + 3 - x.t).toNat) (fun b => b = .inr true ∨ ∃ x, b = .inl x) (by
  rintro ⟨t, w⟩ ⟨k, ht, hk, hw, hcur⟩;simp only at ht hw hcur;subst ht hw;unfold mZ;simp only;rw [cA (n := 3 * slots) (by omega) (by omega), cA (n := 3 * slots + 3) (by omega) (by omega)];by_cases hlt : (3 + k : Int) < 3 * slots + 3
  ·rw [decide_eq_true hlt, ct, HM hb (by omega), ob];rcases Cd (y9 hb (k := k + 1) (by omega)) hb.acts with e | ⟨e, T⟩
   ·right;exact ⟨_, by rw [e, ob, ct], .inl rfl⟩
   ·left;have hst' := hst ((3 + k : Int) / 3) (by omega) (by omega)
    have hq' : rS c bad ((3 + k : Int) / 3) := by
     have := hq ((3 + k : Int) / 3 - 1).toNat (by omega);rw [show 1 + ((((3 + k : Int) / 3 - 1).toNat : Nat) : Int) = (3 + k : Int) / 3 by omega] at this;exact this
    have hstep := fun {j : Nat} {n : Nd} hn => xw hb (by omega) T hst' hq' hcur (j := j) (n := n) hn;have hlen : (bi (bg c bad) l (k + 1)).N.length = (bi (bg c bad) l k).N.length := C2 _ _;have hfit := y9 hb (k := k + 1) (by omega);have hN := hfit.n
    have hloop : iter (iU (cp.mk (3 + k) (bi (bg c bad) l k)) (bi (bg c bad) l (k + 1))) bG (dH.mk 0) = some (.inl (dH.mk ((bi (bg c bad) l (k + 1)).N.length : Int))) :=
     aB (step := iU (cp.mk (3 + k) (bi (bg c bad) l k)) (bi (bg c bad) l (k + 1))) (n := (bi (bg c bad) l (k + 1)).N.length) (fun j => dH.mk (j : Int)) (.inl (dH.mk ((bi (bg c bad) l (k + 1)).N.length : Int))) (fun j hj => by
      obtain ⟨n, hn, -⟩ := aF (l := (bi (bg c bad) l k).N) (n := j) (by omega);obtain ⟨x, hx, h1, h2, -⟩ := hstep hn;obtain ⟨⟨a1, a2⟩, -⟩ := hfit.nodes x (List.mem_of_getElem? hx);unfold iU;simp only
      rw [decide_eq_true (show (j : Int) < ((bi (bg c bad) l (k + 1)).N.length : Int) by omega), ct, aI hx, ob, show (x.C.Revoked != 0) = false by simp [h2], cf, ob, aI hn, ob, ob, show few x.V.B = true from decide_eq_true (by omega), ct, decide_eq_true h1, Bool.not_true, cf, ak (n := j) (by omega)]) (by
      unfold iU;simp only
      rw [decide_eq_false (show ¬ ((bi (bg c bad) l (k + 1)).N.length : Int) < ((bi (bg c bad) l (k + 1)).N.length : Int) by omega), cf]) (by omega)
    refine ⟨cp.mk (3 + ((k + 1 : Nat) : Int)) (bi (bg c bad) l (k + 1)), ?_, ⟨k + 1, rfl, by omega, rfl, fun x hx => ?_⟩, by simp only; omega⟩
    ·rw [e, ob, cf, hloop, ob, cA (n := 3 + (k : Int) + 1) (by omega) (by omega)];show some (Sum.inl (cp.mk _ _)) = _;congr 3
    ·obtain ⟨j, hj⟩ := List.getElem?_of_mem hx;have hjl := (List.getElem?_eq_some_iff.1 hj).1;obtain ⟨n, hn, -⟩ := aF (l := (bi (bg c bad) l k).N) (n := j) (by omega);obtain ⟨y, hy, -, h2⟩ := hstep hn;rw [hj] at hy;rw [Option.some.inj hy];exact h2
  ·right;rw [decide_eq_false hlt, cf]
   exact ⟨_, rfl, .inr ⟨_, rfl⟩⟩) (n := bG) (x := cp.mk 3 (bg c bad)) ⟨0, rfl, by show ((0 : Nat) : Int) ≤ _; omega, rfl, fun n hn => by
    obtain ⟨i, -, h⟩ := List.mem_map.1 hn;subst h
    exact ⟨rfl, .inl rfl⟩⟩ (dK (by simp only; omega))
 rw [hr, ob];rcases hp with rfl | ⟨x, rfl⟩ <;> rfl
end
def K3 (a : Ac) : Prop := aZ .i64 a.Tick ∧ aZ .i64 a.To ∧ (∀ b ∈ a.B, H6 b) ∧ ∀ v ∈ a.V, Iy v
theorem JT {p : PV} (h : pE (.agg [.int .i64, .int .i64, .bool, .slice 5 (.agg [.int .i64, .int .i64, .int .u64, .int .u64, .int .u64]), .slice 4 (.agg [.int .i64, .int .i64, .int .u64, .int .u64])]) p) : ∃ a : Ac, p = kq a ∧ K3 a := by
 cases h with | agg h =>
 cases h with | cons a1 h => cases h with | cons a2 h => cases h with | cons a3 h => cases h with | cons a4 h => cases h with | cons a5 h =>
  cases h;obtain ⟨x, rfl, hx⟩ := ni (fun _ h => JU h) a4;obtain ⟨y, rfl, hy⟩ := ni (fun _ h => JY h) a5;cases a1; cases a2; cases a3;exact ⟨⟨_, _, _, x, y⟩, rfl, by assumption, by assumption, hx, hy⟩
end Go.Mg
namespace Go.Proofs.YtbjmcafamkdokaaGreat
def io : List Nat := [104, 97, 114, 110, 101, 115, 115, 32, 51, 101, 97, 51, 57, 55, 99, 53, 56, 97, 55, 50, 48, 55, 49, 52, 99, 98, 101, 48, 97, 97, 50, 55, 55, 53, 56, 98, 49, 49, 48, 102, 57, 99, 99, 98, 48, 49, 99, 51, 48, 97, 49, 50, 97, 99, 97, 54, 50, 53, 52, 56, 51, 100, 97, 54, 56, 97, 98, 97, 51, 98, 50, 52, 32, 99, 117, 116, 32, 97, 116, 32, 109, 97, 114, 105, 103, 111, 108, 100, 47, 109, 97, 114, 105, 103, 111, 108, 100, 116, 111, 112, 46, 84, 111, 112, 65, 103, 114, 101, 101, 32, 109, 97, 114, 105, 103, 111, 108, 100, 47, 109, 97, 114, 105, 103, 111, 108, 100, 116, 111, 112, 46, 84, 111, 112, 83, 117, 114, 101, 32, 109, 97, 114, 105, 103, 111, 108, 100, 47, 109, 97, 114, 105, 103, 111, 108, 100, 116, 111, 112, 46, 84, 111, 112, 78, 101, 118, 101, 114, 32, 109, 97, 114, 105, 103, 111, 108, 100, 47, 109, 97, 114, 105, 103, 111, 108, 100, 108, 97, 119, 50, 48, 46, 80, 108, 97, 121, 72, 111, 110, 101, 115, 116, 32, 109, 97, 114, 105, 103, 111, 108, 100, 47, 109, 97, 114, 105, 103, 111, 108, 100, 108, 97, 119, 50, 48, 46, 80, 108, 97, 121, 80, 97, 114, 116, 115, 32, 109, 97, 114, 105, 103, 111, 108, 100, 47, 109, 97, 114, 105, 103, 111, 108, 100, 108, 97, 119, 50, 48, 46, 80, 108, 97, 121, 81, 117, 105, 101, 116, 32, 109, 97, 114, 105, 103, 111, 108, 100, 47, 109, 97, 114, 105, 103, 111, 108, 100, 108, 97, 119, 50, 48, 46, 80, 108, 97, 121, 79, 116, 104, 101, 114, 32, 109, 97, 114, 105, 103, 111, 108, 100, 47, 109, 97, 114, 105, 103, 111, 108, 100, 108, 97, 119, 50, 48, 46, 80, 108, 97, 121, 78, 111, 100, 101, 115, 32, 109, 97, 114, 105, 103, 111, 108, 100, 47, 109, 97, 114, 105, 103, 111, 108, 100, 108, 97, 119, 50, 48, 46, 80, 108, 97, 121, 83, 112, 114, 101, 97, 100, 115, 32, 109, 97, 114, 105, 103, 111, 108, 100, 47, 109, 97, 114, 105, 103, 111, 108, 100, 108, 97, 119, 50, 49, 46, 65, 117, 100, 105, 116, 83, 101, 101, 110, 32, 109, 97, 114, 105, 103, 111, 108, 100, 47, 109, 97, 114, 105, 103, 111, 108, 100, 108, 97, 119, 50, 49, 46, 65, 117, 100, 105, 116, 72, 111, 108, 100, 115]
theorem LK : Tryz.prog.initOrder = String.ofList (io.map Char.ofNat) := by kernel_rfl
theorem HC : Tryz.prog.initOrder.toList = io.map Char.ofNat := by rw [LK, String.toList_ofList]
def ws : List (List Nat) := [[99, 117, 116], [97, 116], [109, 97, 114, 105, 103, 111, 108, 100, 47, 109, 97, 114, 105, 103, 111, 108, 100, 116, 111, 112, 46, 84, 111, 112, 65, 103, 114, 101, 101], [109, 97, 114, 105, 103, 111, 108, 100, 47, 109, 97, 114, 105, 103, 111, 108, 100, 116, 111, 112, 46, 84, 111, 112, 83, 117, 114, 101], [109, 97, 114, 105, 103, 111, 108, 100, 47, 109, 97, 114, 105, 103, 111, 108, 100, 116, 111, 112, 46, 84, 111, 112, 78, 101, 118, 101, 114], [109, 97, 114, 105, 103, 111, 108, 100, 47, 109, 97, 114, 105, 103, 111, 108, 100, 108, 97, 119, 50, 48, 46, 80, 108, 97, 121, 72, 111, 110, 101, 115, 116], [109, 97, 114, 105, 103, 111, 108, 100, 47, 109, 97, 114, 105, 103, 111, 108, 100, 108, 97, 119, 50, 48, 46, 80, 108, 97, 121, 80, 97, 114, 116, 115], [109, 97, 114, 105, 103, 111, 108, 100, 47, 109, 97, 114, 105, 103, 111, 108, 100, 108, 97, 119, 50, 48, 46, 80, 108, 97, 121, 81, 117, 105, 101, 116], [109, 97, 114, 105, 103, 111, 108, 100, 47, 109, 97, 114, 105, 103, 111, 108, 100, 108, 97, 119, 50, 48, 46, 80, 108, 97, 121, 79, 116, 104, 101, 114], [109, 97, 114, 105, 103, 111, 108, 100, 47, 109, 97, 114, 105, 103, 111, 108, 100, 108, 97, 119, 50, 48, 46, 80, 108, 97, 121, 78, 111, 100, 101, 115], [109, 97, 114, 105, 103, 111, 108, 100, 47, 109, 97, 114, 105, 103, 111, 108, 100, 108, 97, 119, 50, 48, 46, 80, 108, 97, 121, 83, 112, 114, 101, 97, 100, 115], [109, 97, 114, 105, 103, 111, 108, 100, 47, 109, 97, 114, 105, 103, 111, 108, 100, 108, 97, 119, 50, 49, 46, 65, 117, 100, 105, 116, 83, 101, 101, 110], [109, 97, 114, 105, 103, 111, 108, 100, 47, 109, 97, 114, 105, 103, 111, 108, 100, 108, 97, 119, 50, 49, 46, 65, 117, 100, 105, 116, 72, 111, 108, 100, 115]]
theorem El : behindMainWord (wordsSigns Tryz.prog.initOrder.toList) = ws.map (List.map Char.ofNat) := by
 rw [HC]
 kernel_rfl
theorem Ke : stripLifts liftWords (ws.map (List.map Char.ofNat)) = ([], ws.map (List.map Char.ofNat)) := by kernel_rfl
theorem Kb : Tryz.prog.doorRows = [] := by kernel_rfl
theorem LL : Tryz.prog.laysLater = false := by kernel_rfl
theorem J9 : Tryz.prog.bearsReflect = false := by kernel_rfl
theorem Gj : (ws.map (List.map Char.ofNat)).head? = some "cut".toList := by kernel_rfl
theorem Hy (P : Program) (W : List (List Char)) (hW : behindMainWord (wordsSigns P.initOrder.toList) = W) (hs : stripLifts liftWords W = ([], W)) (hh : W.head? = some "cut".toList) (hr : P.doorRows = []) (hl : P.laysLater = false) (hb : P.bearsReflect = false) : P.mayEnter = true := by
 unfold Program.mayEnter;rw [hW]
 cases W with
 | nil => cases hh
 | cons c r =>
  simp only [hs, hh, hl, hb, Program.doorFits, hr];simp
theorem mayEnter : Tryz.prog.mayEnter = true := Hy Tryz.prog _ El Ke Gj Kb LL J9
theorem own : ownKnob Tryz.prog.godebug = none := by kernel_rfl
theorem yZ : laidOutB Tryz.prog = true := by kernel_rfl
theorem Ka : mapsRowed Tryz.prog = true := by kernel_rfl
theorem JQ : Tryz.prog.stopsHeard = true := by kernel_rfl
theorem Fy (P : Program) (W : List (List Char)) (hW : behindMainWord (wordsSigns P.initOrder.toList) = W) (hh : W.head? = some "cut".toList) : P.make = some .cut := by
 unfold Program.make;rw [hW]
 cases W with
 | nil => cases hh
 | cons c r =>
  have e : c = "cut".toList := by simpa using hh
  subst e;show (if _ then _ else _) = _;rw [if_neg (by decide), if_pos (by simp)]
theorem J3 : Tryz.prog.make = some .cut := Fy Tryz.prog _ El Gj
theorem J1 : Tryz.prog.liftsFinal = false := by
 unfold Program.liftsFinal Program.headLifts;rw [El]
 kernel_rfl
end Go.Proofs.YtbjmcafamkdokaaGreat
