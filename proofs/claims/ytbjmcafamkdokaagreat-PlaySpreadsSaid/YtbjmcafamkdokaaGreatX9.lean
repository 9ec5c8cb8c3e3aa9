/- Are two worlds the same? The example; what is begun. PlaySpreads. PlayHonest. Plain laws of weights on blocks, and of the head: the program's side. Plain laws of views: lists of blocks and votes, and what may be at all. Laws of trees. TreeKids, TreeMore: plain. Plain laws of views: which views may be. Conditions: none. -/
import Derived.Test.YtbjmcafamkdokaaGreatX3
import Derived.Test.YtbjmcafamkdokaaGreatX8
import Derived.Test.YtbjmcafamkdokaaGreatX5
import Derived.Test.YtbjmcafamkdokaaGreatX7
import Derived.Test.YtbjmcafamkdokaaGreatX6
set_option maxRecDepth 100000
set_option linter.unusedSimpArgs false
set_option linter.unusedVariables false
namespace Go.Mg
open Go.Proofs
structure FW where
 i : Int
structure F1 where
 i : Int
structure F2 where
 i : Int
structure i8 where
 t17 : Int
def wU (s1 : List Nd) (s2 : List Nd) (x1 : i8) : Option (i8 ⊕ (i8 ⊕ Bool)) :=
 bif decide (x1.t17 < (s1.length : Int)) then
  (ix s1 x1.t17).bind fun y1 =>
  (ix s2 x1.t17).bind fun y2 =>
  (wP y1 y2).bind fun v2 =>
  bif !v2 then
   some (.inr (.inr false))
  else
   some (.inl (i8.mk (IntKind.i64.wrap (x1.t17 + 1))))
 else
  some (.inr (.inl (i8.mk x1.t17)))
def EF (s1 : List Nd) (s2 : List Nd) : Option Bool :=
 bif (s1.length : Int) != (s2.length : Int) then
  some false
 else
  (iter (wU s1 s2) bG (i8.mk 0)).bind fun b_v1 => Sum.elim (fun _ =>
   some true) some b_v1
theorem Hf {s1 : List Nd} {s2 : List Nd} {r_ : Bool} (hr : EF s1 s2 = some r_) : LC Tryz.prog 122 [.p (.slice 12 (s1.map gJ)), .p (.slice 12 (s2.map gJ)), .fn 120 [] []] [] (Is (bQ r_) []) := by
 refine dA Tryz.func122 Z Z Z ?_;unfold EF at hr;refine zQ<|zR<|zM Z<|zN<|zT<|zQ<|zQ<|zR<|zM Z<|yS Z (cP Z Z (by kernel_rfl))<|zM Z<|yS Z (cP Z Z (by kernel_rfl))<|yS Z (aw Z Z Z Z)<|zN<|zT ?_;refine zX Z (fun g1 => ?_)<|fun g1 => ?_
 ·
  refine zi g1 hr fun hr => zQ<|zR<|zM Z<|zN<|zT<|zr<|af ?_;obtain rfl := zJ hr;exact ap (.one (.tmp Z))<|⟨rfl, rfl⟩
 ·
  refine zo g1 hr fun hr => zk<|zT<|zQ<|zQ<|zR<|zM Z<|yS Z (cP Z Z (by kernel_rfl))<|zM Z<|zN<|zT ?_;obtain ⟨b_v1, hb_v1, ho_v1⟩ := zB hr;clear hr;refine LW.tailB (b := b_v1) (E := fun v1 => [(6, (bQ false))]) (O := fun v1 => []) ?_<|fun v1 e_v1 env_v1 H_v1 hw_v1 => ?_
  ·refine LW.block ?_;refine LW.iterB (E := fun x1 : i8 => [(1, .p (.slice 12 (s2.map gJ))), (2, .fn 120 [] []), (6, (bQ false)), (15, .p (.slice 12 (s1.map gJ))), (16, .p (.int .i64 (s1.length : Int))), (17, (iQ x1.t17))]) (O := fun x1 => []) hb_v1 (zW 0 ⟨rfl, rfl, rfl, rfl, rfl, rfl, trivial⟩ Z Z Z Z)<|fun x1 z_x1 hr hb_x1 => ?_;unfold wU at hr;refine zQ<|zR<|yS Z (aw Z Z Z Z)<|zN<|zT<|zQ ?_;refine zX Z (fun g2 => ?_)<|fun g2 => ?_
   ·
    refine zi g2 hr fun hr => zk<|zT<|zQ<|zl<|zQ<|zR<|zM Z<|zb hr fun y1 h_y1 hr => yS Z (zx Z Z Z dN h_y1 Z)<|yS Z (dj Z Z Z b9 Z Z)<|yS Z (ze Z nI Z Z)<|zM Z<|yS Z (zs Z Z Z Z b9 Z Z Z Z)<|zN<|zT<|zQ<|zR<|zM Z<|zM Z<|zb hr fun y2 h_y2 hr => yS Z (zx Z Z Z dN h_y2 Z)<|yS Z (dj Z Z Z b9 Z Z)<|yS Z (ze Z nI Z Z) ?_;refine yS Z (zs Z Z Z Z b9 Z Z Z Z)<|zN<|zT<|zQ<|zR<|zM Z<|yS Z (zD Z Z Z b9 Z Z)<|yS Z (zD Z Z Z b9 Z Z)<|zb hr fun v2 h_v2 hr => yS Z (zC Z Z Z (by kernel_rfl) (zp (DS h_v2) (.cons zv (.cons zv .nil))))<|yS Z (ab.not Z Z)<|zN<|zT ?_;refine zX Z (fun g3 => ?_)<|fun g3 => ?_
    ·
     refine zi g3 hr fun hr => zQ<|zR<|zM Z<|zN<|zT<|zr<|aq<|af<|af<|aq<|af<|af ?_;obtain rfl := zJ hr;have hr := congrArg some (hb_x1 _ rfl);obtain rfl := zJ hr;have hr := da ho_v1;obtain rfl := zJ hr;exact aX (env' := [(6, (bQ false))]) (H' := []) (zW 0 ⟨rfl, trivial⟩ Z Z Z Z) (.one (.tmp Z))<|⟨rfl, rfl⟩
    ·
     refine zo g3 hr fun hr => zk<|ah<|zT<|zR<|yS Z (aw Z Z Z Z)<|zM Z<|zN<|zT ?_;obtain rfl := zJ hr;exact ⟨_, rfl, zW 0 ⟨rfl, rfl, rfl, rfl, rfl, rfl, trivial⟩ Z Z Z rfl⟩
   ·
    refine zo g2 hr fun hr => zq<|ao<|ao<|zy<|zT ?_;obtain rfl := zJ hr;have hr := congrArg some (hb_x1 _ rfl);obtain rfl := zJ hr;exact ⟨_, rfl, zW 0 ⟨rfl, trivial⟩ Z Z Z rfl⟩
  ·obtain rfl := e_v1;have hr := eG ho_v1;clear hb_v1;refine zT<|LW.weak hw_v1<|zQ<|zR<|zM Z<|zN<|zT<|zr ?_;obtain rfl := zJ hr;exact ap (.one (.tmp Z))<|⟨rfl, rfl⟩
structure ge where
 t13 : Int
def td (s1 : List Int) (s2 : List Int) (x1 : ge) : Option (ge ⊕ (ge ⊕ Bool)) :=
 bif decide (x1.t13 < (s1.length : Int)) then
  (ix s1 x1.t13).bind fun y1 =>
  (ix s2 x1.t13).bind fun y2 =>
  bif y1 != y2 then
   some (.inr (.inr false))
  else
   some (.inl (ge.mk (IntKind.i64.wrap (x1.t13 + 1))))
 else
  some (.inr (.inl (ge.mk x1.t13)))
def Av (s1 : List Int) (s2 : List Int) : Option Bool :=
 bif (s1.length : Int) != (s2.length : Int) then
  some false
 else
  (iter (td s1 s2) bG (ge.mk 0)).bind fun b_v1 => Sum.elim (fun _ =>
   some true) some b_v1
theorem GX {s1 : List Int} {s2 : List Int} {r_ : Bool} (hr : Av s1 s2 = some r_) : az Tryz.prog 121 [.slice 1 (s1.map aC), .slice 1 (s2.map aC)] [.bool r_] := by
 refine zh Tryz.func121 Z Z Z Z ?_;unfold Av at hr;refine zQ<|zR<|zM Z<|zN<|zT<|zQ<|zQ<|zR<|zM Z<|yS Z (cP Z Z (by kernel_rfl))<|zM Z<|yS Z (cP Z Z (by kernel_rfl))<|yS Z (aw Z Z Z Z)<|zN<|zT ?_;refine zX Z (fun g1 => ?_)<|fun g1 => ?_
 ·
  refine zi g1 hr fun hr => zQ<|zR<|zM Z<|zN<|zT<|zr<|af ?_;obtain rfl := zJ hr;exact zf (.one (.tmp Z)) zv
 ·
  refine zo g1 hr fun hr => zk<|zT<|zQ<|zQ<|zR<|zM Z<|yS Z (cP Z Z (by kernel_rfl))<|zM Z<|zN<|zT ?_;obtain ⟨b_v1, hb_v1, ho_v1⟩ := zB hr;clear hr;refine LW.tailB (b := b_v1) (E := fun v1 => [(4, (bQ false))]) (O := fun v1 => []) ?_<|fun v1 e_v1 env_v1 H_v1 hw_v1 => ?_
  ·refine LW.block ?_;refine LW.iterB (E := fun x1 : ge => [(0, (kI s1)), (1, (kI s2)), (4, (bQ false)), (12, .p (.int .i64 (s1.length : Int))), (13, (iQ x1.t13))]) (O := fun x1 => []) hb_v1 (zW 0 ⟨rfl, rfl, rfl, rfl, rfl, trivial⟩ Z Z Z Z)<|fun x1 z_x1 hr hb_x1 => ?_;unfold td at hr;refine zQ<|zR<|yS Z (aw Z Z Z Z)<|zN<|zT<|zQ ?_;refine zX Z (fun g2 => ?_)<|fun g2 => ?_
   ·
    refine zi g2 hr fun hr => zk<|zT<|zQ<|zl<|zQ<|zR<|zM Z<|zM Z<|zN<|zT<|zQ<|LW.draw2 (by kernel_rfl) (by kernel_rfl)<|zH Z<|zH Z<|zb hr fun y1 h_y1 hr => yE Z (zx Z Z Z gL h_y1 Z)<|yE Z (dj Z Z Z bl Z Z)<|zH Z<|zH Z<|zb hr fun y2 h_y2 hr => yE Z (zx Z Z Z gL h_y2 Z)<|yE Z (dj Z Z Z bl Z Z)<|yE Z (aw Z Z Z Z) ?_;refine LO.nil<|zT ?_;refine zX Z (fun g3 => ?_)<|fun g3 => ?_
    ·
     refine zi g3 hr fun hr => zQ<|zR<|zM Z<|zN<|zT<|zr<|aq<|af<|af<|aq<|af<|af ?_;obtain rfl := zJ hr;have hr := congrArg some (hb_x1 _ rfl);obtain rfl := zJ hr;have hr := da ho_v1;obtain rfl := zJ hr;exact zf (.one (.tmp Z)) zv
    ·
     refine zo g3 hr fun hr => zk<|ah<|zT<|zR<|yS Z (aw Z Z Z Z)<|zM Z<|zN<|zT ?_;obtain rfl := zJ hr;exact ⟨_, rfl, zW 0 ⟨rfl, rfl, rfl, rfl, rfl, trivial⟩ Z Z Z rfl⟩
   ·
    refine zo g2 hr fun hr => zq<|ao<|ao<|zy<|zT ?_;obtain rfl := zJ hr;have hr := congrArg some (hb_x1 _ rfl);obtain rfl := zJ hr;exact ⟨_, rfl, zW 0 ⟨rfl, trivial⟩ Z Z Z rfl⟩
  ·obtain rfl := e_v1;have hr := eG ho_v1;clear hb_v1;refine zT<|LW.weak hw_v1<|zQ<|zR<|zM Z<|zN<|zT<|zr ?_;obtain rfl := zJ hr;exact zf (.one (.tmp Z)) zv
def Au (a : Wd) (b : Wd) : Option Bool :=
 (wP (Nd.mk 0 0 (Vw.mk [] []) (Vw.mk [] []) a.O (Cu.mk (0, 0) 0 0) false) (Nd.mk 0 0 (Vw.mk [] []) (Vw.mk [] []) b.O (Cu.mk (0, 0) 0 0) false)).bind fun v1 =>
 bif v1 then
  bif a.Tick == b.Tick then
   (Av a.Bad b.Bad).bind fun v2 =>
   bif v2 then
    (EF a.N b.N).bind fun v3 =>
    some v3
   else
    some false
  else
   some false
 else
  some false
theorem GW {a : Wd} {b : Wd} {r_ : Bool} (hr : Au a b = some r_) : az Tryz.prog 66 [Cq a, Cq b] [.bool r_] := by
 refine zh Tryz.func66 Z Z Z Z ?_;unfold Au at hr;refine zQ<|zR<|yS Z (b6 Z Z Z Z Z)<|yS Z (b6 Z Z Z Z Z)<|zM Z<|zN<|zT<|zQ<|zR<|yS Z (zA Z Z gn)<|yS Z (zD Z Z Z bM Z Z)<|yS Z (ab.build Z vp Z Z Z)<|yS Z (zA Z Z gn)<|yS Z (zD Z Z Z bM Z Z)<|yS Z (ab.build Z vp Z Z Z)<|zb hr fun v1 h_v1 hr => yS Z (zC Z Z Z (by kernel_rfl) (zp (DS h_v1) (.cons (Conv.agg (.cons zv (.cons zv (.cons Conv.zs (.cons Conv.zs (.cons Conv.zs (.cons Conv.zs (.cons zv (.cons zv (.cons zv (.cons zv (.cons zv (.cons zv .nil))))))))))))) (.cons (Conv.agg (.cons zv (.cons zv (.cons Conv.zs (.cons Conv.zs (.cons Conv.zs (.cons Conv.zs (.cons zv (.cons zv (.cons zv (.cons zv (.cons zv (.cons zv .nil))))))))))))) .nil))))<|zM Z<|zN<|zT<|zQ<|zR<|zM Z<|zM Z ?_;refine zc 14 Z (fun g1 => ?_)<|fun g1 => ?_
 ·
  refine zi g1 hr fun hr => yV Z (gd g1 Z) (zA Z Z eQ)<|yV Z (gd g1 Z) (zD Z Z Z bl Z Z)<|yV Z (gd g1 Z) (zA Z Z eQ)<|yV Z (gd g1 Z) (zD Z Z Z bl Z Z)<|yV Z (gd g1 Z) (aw Z Z Z Z)<|yS Z (cS Z (a8 g1 Z) Z)<|zM Z ?_;refine zc 21 Z (fun g2 => ?_)<|fun g2 => ?_
  ·
   refine zi g2 hr fun hr => yV Z (gd g2 Z) (zA Z Z gm)<|yV Z (gd g2 Z) (zD Z Z Z gG Z Z)<|yV Z (gd g2 Z) (zA Z Z gm)<|yV Z (gd g2 Z) (zD Z Z Z gG Z Z)<|zb hr fun v2 h_v2 hr => yV Z (gd g2 Z) (zC Z Z Z (by kernel_rfl) (zp (GX h_v2) (.cons zv (.cons zv .nil))))<|yS Z (cS Z (a8 g2 Z) Z)<|zM Z ?_;refine zc 28 Z (fun g3 => ?_)<|fun g3 => ?_
   ·
    refine zi g3 hr fun hr => yV Z (gd g3 Z) (zA Z Z bp)<|yV Z (gd g3 Z) (zD Z Z Z cG Z Z)<|yV Z (gd g3 Z) (zA Z Z bp)<|yV Z (gd g3 Z) (zD Z Z Z cG Z Z)<|zb hr fun v3 h_v3 hr => yV Z (gd g3 Z) (zC Z Z Z (by kernel_rfl) (LC.pre (Hf h_v3) Z Z Z))<|yS Z (cS Z (a8 g3 Z) Z)<|zM Z<|zN<|zT<|zr ?_;obtain rfl := zJ hr;exact zf (.one (.tmp Z)) zv
   ·
    refine zo g3 hr fun hr => yU Z (gd g3 Z) Z<|yU Z (gd g3 Z) Z<|yU Z (gd g3 Z) Z<|yU Z (gd g3 Z) Z<|yU Z (gd g3 Z) Z<|yS Z (bN Z (a8 g3 Z) Z)<|zM Z<|zN<|zT<|zr ?_;obtain rfl := zJ hr;exact zf (.one (.tmp Z)) zv
  ·
   refine zo g2 hr fun hr => yU Z (gd g2 Z) Z<|yU Z (gd g2 Z) Z<|yU Z (gd g2 Z) Z<|yU Z (gd g2 Z) Z<|yU Z (gd g2 Z) Z<|yS Z (bN Z (a8 g2 Z) Z)<|zM Z<|yU Z Z Z<|yU Z Z Z<|yU Z Z Z<|yU Z Z Z<|yU Z Z Z<|yS Z (bN Z Z Z)<|zM Z<|zN<|zT<|zr ?_;obtain rfl := zJ hr;exact zf (.one (.tmp Z)) zv
 ·
  refine zo g1 hr fun hr => yU Z (gd g1 Z) Z<|yU Z (gd g1 Z) Z<|yU Z (gd g1 Z) Z<|yU Z (gd g1 Z) Z<|yU Z (gd g1 Z) Z<|yS Z (bN Z (a8 g1 Z) Z)<|zM Z<|yU Z Z Z<|yU Z Z Z<|yU Z Z Z<|yU Z Z Z<|yU Z Z Z<|yS Z (bN Z Z Z)<|zM Z<|yU Z Z Z<|yU Z Z Z<|yU Z Z Z<|yU Z Z Z<|yU Z Z Z<|yS Z (bN Z Z Z)<|zM Z<|zN<|zT ?_;refine LW.ret ?_;obtain rfl := zJ hr;exact zf (.one (.tmp Z)) zv
open Go.Proofs
def sZ : Option Bool :=
 (Ew ).bind fun v1 =>
 (qQ v1 ([] : List Int)).bind fun v2 =>
 (oU v2 ([] : List Ac) 3).bind fun v3 =>
 bif v3.Tick == 6 then
  bif (v3.N.length : Int) == 1 then
   (ix v3.N 0).bind fun y1 =>
   bif ((y1.C.ID.1 == ((nm (Bk.mk 1 0 (0, 0) 0)).1)) && ((y1.C.ID.2 == ((nm (Bk.mk 1 0 (0, 0) 0)).2)) && true)) then
    (Au v3 v3).bind fun v4 =>
    some v4
   else
    some false
  else
   some false
 else
  some false
theorem GT {r_ : Bool} (hr : sZ = some r_) : az Tryz.prog 29 [] [.bool r_] := by
 refine zh Tryz.func29 Z Z Z Z ?_;unfold sZ at hr;refine zQ<|zR<|zM Z<|zN<|zT<|zQ<|zR<|zb hr fun v1 h_v1 hr => yS Z (zC Z Z Z (by kernel_rfl) (zp (IZ h_v1) .nil))<|zb hr fun v2 h_v2 hr => yS Z (zC Z Z Z (by kernel_rfl) (zp (DU h_v2) (.cons zv (.cons Conv.zs .nil))))<|zb hr fun v3 h_v3 hr => yS Z (zC Z Z Z (by kernel_rfl) (zp (DW h_v3) (.cons zv (.cons Conv.zs (.cons zv .nil)))))<|yS Z (ze Z jD Z Z)<|yS Z (zs Z Z Z Z bX Z Z Z Z)<|zN<|zT<|zQ<|LW.draw2 (by kernel_rfl) (by kernel_rfl)<|yE Z (zA Z Z eQ)<|yE Z (zD Z Z Z bl Z Z)<|yE Z (aw Z Z Z Z)<|zH Z ?_;refine LO.cases 8 Z (fun (g1 : (v3.Tick == 6) = true) => ?_) (fun (g1 : (v3.Tick == 6) = false) => ?_)
 ·
  refine zi g1 hr fun hr => LO.gd Z Z Z (gd g1 Z) Z (zA Z Z bp)<|LO.gd Z Z Z (gd g1 Z) Z (zD Z Z Z cG Z Z)<|LO.gd Z Z Z (gd g1 Z) Z (cP Z Z (by kernel_rfl))<|LO.gd Z Z Z (gd g1 Z) Z (aw Z Z Z Z)<|yE Z (cS Z (a8 g1 Z) Z)<|zH Z ?_;refine LO.cases 14 Z (fun (g2 : ((v3.N.length : Int) == 1) = true) => ?_) (fun (g2 : ((v3.N.length : Int) == 1) = false) => ?_)
  ·
   refine zi g2 hr fun hr => LO.gd Z Z Z (gd g2 Z) Z (zA Z Z bp)<|LO.gd Z Z Z (gd g2 Z) Z (zD Z Z Z cG Z Z)<|zb hr fun y1 h_y1 hr => LO.gd Z Z Z (gd g2 Z) Z (zx Z Z Z dN h_y1 Z)<|LO.gd Z Z Z (gd g2 Z) Z (ab.fieldAddrC Z Z j2 Z)<|LO.gd Z Z Z (gd g2 Z) Z (ab.fieldAddrC Z Z sb Z)<|LO.gd Z Z Z (gd g2 Z) Z (dj Z Z Z aT Z Z)<|LO.gd Z Z Z (gd g2 Z) Z (ab.build Z Gj Z Z Z)<|LO.gd Z Z Z (gd g2 Z) Z (zC Z Z Z (by kernel_rfl) (zp (EY (b := (Bk.mk 1 0 (0, 0) 0))) (.cons zv .nil)))<|LO.gd Z Z Z (gd g2 Z) Z (ab.eqlAgg Z Z Z Z Z tH)<|yE Z (cS Z (a8 g2 Z) Z)<|zH Z ?_;refine LO.cases 25 Z (fun (g3 : ((y1.C.ID.1 == ((nm (Bk.mk 1 0 (0, 0) 0)).1)) && ((y1.C.ID.2 == ((nm (Bk.mk 1 0 (0, 0) 0)).2)) && true)) = true) => ?_) (fun (g3 : ((y1.C.ID.1 == ((nm (Bk.mk 1 0 (0, 0) 0)).1)) && ((y1.C.ID.2 == ((nm (Bk.mk 1 0 (0, 0) 0)).2)) && true)) = false) => ?_)
   ·
    refine zi g3 hr fun hr => LO.gd Z Z Z (gd g3 Z) Z (zD Z Z Z bX Z Z)<|LO.gd Z Z Z (gd g3 Z) Z (zD Z Z Z bX Z Z)<|zb hr fun v4 h_v4 hr => LO.gd Z Z Z (gd g3 Z) Z (zC Z Z Z (by kernel_rfl) (zp (GW h_v4) (.cons zv (.cons zv .nil))))<|yE Z (cS Z (a8 g3 Z) Z)<|zH Z<|LO.nil<|zT<|zr ?_;obtain rfl := zJ hr;exact zf (.one (.tmp Z)) zv
   ·
    refine zo g3 hr fun hr => LO.sk Z Z Z (gd g3 Z) Z Z<|LO.sk Z Z Z (gd g3 Z) Z Z<|LO.sk Z Z Z (gd g3 Z) Z Z<|yE Z (bN Z (a8 g3 Z) Z)<|zH Z<|LO.nil<|zT<|zr ?_;obtain rfl := zJ hr;exact zf (.one (.tmp Z)) zv
  ·
   refine zo g2 hr fun hr => LO.sk Z Z Z (gd g2 Z) Z Z<|LO.sk Z Z Z (gd g2 Z) Z Z<|LO.sk Z Z Z (gd g2 Z) Z Z<|LO.sk Z Z Z (gd g2 Z) Z Z<|LO.sk Z Z Z (gd g2 Z) Z Z<|LO.sk Z Z Z (gd g2 Z) Z Z<|LO.sk Z Z Z (gd g2 Z) Z Z<|LO.sk Z Z Z (gd g2 Z) Z Z<|LO.sk Z Z Z (gd g2 Z) Z Z<|yE Z (bN Z (a8 g2 Z) Z)<|zH Z<|LO.sk Z Z Z Z Z Z<|LO.sk Z Z Z Z Z Z<|LO.sk Z Z Z Z Z Z<|yE Z (bN Z Z Z)<|zH Z<|LO.nil<|zT<|zr ?_;obtain rfl := zJ hr;exact zf (.one (.tmp Z)) zv
 ·
  refine zo g1 hr fun hr => LO.sk Z Z Z (gd g1 Z) Z Z<|LO.sk Z Z Z (gd g1 Z) Z Z<|LO.sk Z Z Z (gd g1 Z) Z Z<|LO.sk Z Z Z (gd g1 Z) Z Z<|yE Z (bN Z (a8 g1 Z) Z)<|zH Z<|LO.sk Z Z Z Z Z Z<|LO.sk Z Z Z Z Z Z<|LO.sk Z Z Z Z Z Z<|LO.sk Z Z Z Z Z Z<|LO.sk Z Z Z Z Z Z<|LO.sk Z Z Z Z Z Z<|LO.sk Z Z Z Z Z Z<|LO.sk Z Z Z Z Z Z<|LO.sk Z Z Z Z Z Z<|yE Z (bN Z Z Z)<|zH Z<|LO.sk Z Z Z Z Z Z<|LO.sk Z Z Z Z Z Z<|LO.sk Z Z Z Z Z Z<|yE Z (bN Z Z Z)<|zH Z<|LO.nil ?_;refine zT<|zr ?_;obtain rfl := zJ hr;exact zf (.one (.tmp Z)) zv
structure dJ where
 i : Int
def gc (l : List Ac) (x1 : dJ) : Option (dJ ⊕ (dJ ⊕ Bool)) :=
 bif decide (x1.i < (l.length : Int)) then
  (ix l x1.i).bind fun y1 =>
  bif decide ((y1.B.length : Int) > 8) then
   some (.inr (.inr false))
  else
   (ix l x1.i).bind fun y2 =>
   bif decide ((y2.V.length : Int) > 8) then
    some (.inr (.inr false))
   else
    some (.inl (dJ.mk (IntKind.i64.wrap (x1.i + 1))))
 else
  some (.inr (.inl (dJ.mk x1.i)))
def qS (l : List Ac) (most : Int) : Option Bool :=
 bif decide ((l.length : Int) > most) then
  some false
 else
  (iter (gc l) bG (dJ.mk 0)).bind fun b_v1 => Sum.elim (fun _ =>
   some true) some b_v1
theorem GV {l : List Ac} {most : Int} {r_ : Bool} (hr : qS l most = some r_) : az Tryz.prog 36 [.slice 5 (l.map nP), .int .i64 most] [.bool r_] := by
 refine zh Tryz.func36 Z Z Z Z ?_;unfold qS at hr;refine zQ<|zR<|zM Z<|zN<|zT<|zQ<|zQ<|zR<|zM Z<|yS Z (cP Z Z (by kernel_rfl))<|zM Z<|yS Z (aw Z Z Z Z)<|zN<|zT ?_;refine zX Z (fun g1 => ?_)<|fun g1 => ?_
 ·
  refine zi g1 hr fun hr => zQ<|zR<|zM Z<|zN<|zT<|zr<|af ?_;obtain rfl := zJ hr;exact zf (.one (.tmp Z)) zv
 ·
  refine zo g1 hr fun hr => zk<|zT<|zQ<|zQ<|zR<|zM Z<|zN<|zT ?_;obtain ⟨b_v1, hb_v1, ho_v1⟩ := zB hr;clear hr;refine LW.tailB (b := b_v1) (E := fun v1 => [(4, (bQ false))]) (O := fun v1 => []) ?_<|fun v1 e_v1 env_v1 H_v1 hw_v1 => ?_
  ·refine LW.block ?_;refine LW.iterB (E := fun x1 : dJ => [(0, .p (.slice 5 (l.map nP))), (4, (bQ false)), (5, (iQ x1.i))]) (O := fun x1 => []) hb_v1 (zW 0 ⟨rfl, rfl, rfl, trivial⟩ Z Z Z Z)<|fun x1 z_x1 hr hb_x1 => ?_;unfold gc at hr;refine zQ<|zQ<|zR<|zM Z<|zM Z<|yS Z (cP Z Z (by kernel_rfl))<|yS Z (aw Z Z Z Z)<|zN<|zT ?_;refine zX Z (fun g2 => ?_)<|fun g2 => ?_
   ·
    refine zi g2 hr fun hr => zk<|zT<|zQ<|zl<|zQ<|zR<|zM Z<|zM Z<|zb hr fun y1 h_y1 hr => yS Z (zx Z Z Z nF h_y1 Z)<|yS Z (ab.fieldAddrC Z Z tR Z)<|yS Z (dj Z Z Z ch Z Z)<|yS Z (cP Z Z (by kernel_rfl))<|yS Z (aw Z Z Z Z)<|zM Z ?_;refine zc 23 Z (fun g3 => ?_)<|fun g3 => ?_
    ·
     refine zi g3 hr fun hr => yU Z (gd g3 Z) Z<|yU Z (gd g3 Z) Z<|yU Z (gd g3 Z) Z<|yU Z (gd g3 Z) Z<|yU Z (gd g3 Z) Z<|yU Z (gd g3 Z) Z<|yU Z (gd g3 Z) Z<|yS Z (cS Z (a8 g3 Z) Z)<|zN<|zT<|LW.condT Z<|zQ<|zR<|zM Z<|zN<|zT<|zr<|aq<|af<|af<|aq<|af<|af ?_;obtain rfl := zJ hr;have hr := congrArg some (hb_x1 _ rfl);obtain rfl := zJ hr;have hr := da ho_v1;obtain rfl := zJ hr;exact zf (.one (.tmp Z)) zv
    ·
     refine zo g3 hr fun hr => yV Z (gd g3 Z) (zm Z Z)<|yV Z (gd g3 Z) (zm Z Z)<|zb hr fun y2 h_y2 hr => yV Z (gd g3 Z) (zx Z Z Z nF h_y2 Z)<|yV Z (gd g3 Z) (ab.fieldAddrC Z Z tS Z)<|yV Z (gd g3 Z) (dj Z Z Z dc Z Z)<|yV Z (gd g3 Z) (cP Z Z (by kernel_rfl))<|yV Z (gd g3 Z) (aw Z Z Z Z)<|yS Z (bN Z (a8 g3 Z) Z)<|zN<|zT ?_;refine zX Z (fun g4 => ?_)<|fun g4 => ?_
     ·
      refine zi g4 hr fun hr => zQ<|zR<|zM Z<|zN<|zT<|zr<|aq<|af<|af<|aq<|af<|af ?_;obtain rfl := zJ hr;have hr := congrArg some (hb_x1 _ rfl);obtain rfl := zJ hr;have hr := da ho_v1;obtain rfl := zJ hr;exact zf (.one (.tmp Z)) zv
     ·
      refine zo g4 hr fun hr => zk<|ah<|zT<|zR<|zM Z<|yS Z (aw Z Z Z Z)<|zM Z<|zN<|zT ?_;obtain rfl := zJ hr;exact ⟨_, rfl, zW 0 ⟨rfl, rfl, rfl, trivial⟩ Z Z Z rfl⟩
   ·
    refine zo g2 hr fun hr => zq<|ao<|ao<|zy<|zT ?_;obtain rfl := zJ hr;have hr := congrArg some (hb_x1 _ rfl);obtain rfl := zJ hr;exact ⟨_, rfl, zW 0 ⟨rfl, trivial⟩ Z Z Z rfl⟩
  ·obtain rfl := e_v1;have hr := eG ho_v1;clear hb_v1;refine zT<|LW.weak hw_v1<|zQ<|zR<|zM Z<|zN<|zT<|zr ?_;obtain rfl := zJ hr;exact zf (.one (.tmp Z)) zv
def qR (c : Cf) (bad : List Int) (l : List Ac) : Option Bool :=
 (qS l 25).bind fun v1 =>
 bif v1 then
  (xM c).bind fun v2 =>
  bif v2 then
   bif decide ((c.W.length : Int) ≤ 6) then
    some (decide ((bad.length : Int) ≤ 6))
   else
    some false
  else
   some false
 else
  some false
theorem GU {c : Cf} {bad : List Int} {l : List Ac} {r_ : Bool} (hr : qR c bad l = some r_) : az Tryz.prog 30 [kT c, .slice 1 (bad.map aC), .slice 5 (l.map nP)] [.bool r_] := by
 refine zh Tryz.func30 Z Z Z Z ?_;unfold qR at hr;refine zQ<|zR<|yS Z (b6 Z Z Z Z Z)<|zM Z<|zN<|zT<|zQ<|zR<|zM Z<|zb hr fun v1 h_v1 hr => yS Z (zC Z Z Z (by kernel_rfl) (zp (GV h_v1) (.cons zv (.cons zv .nil))))<|zM Z<|zN<|zT<|zQ<|zR<|zM Z<|zM Z ?_;refine zc 11 Z (fun g1 => ?_)<|fun g1 => ?_
 ·
  refine zi g1 hr fun hr => yV Z (gd g1 Z) (zD Z Z Z ca Z Z)<|zb hr fun v2 h_v2 hr => yV Z (gd g1 Z) (zC Z Z Z (by kernel_rfl) (zp (EZ h_v2) (.cons zv .nil)))<|yS Z (cS Z (a8 g1 Z) Z)<|zM Z ?_;refine zc 15 Z (fun g2 => ?_)<|fun g2 => ?_
  ·
   refine zi g2 hr fun hr => yV Z (gd g2 Z) (zA Z Z gu)<|yV Z (gd g2 Z) (zD Z Z Z gG Z Z)<|yV Z (gd g2 Z) (cP Z Z (by kernel_rfl))<|yV Z (gd g2 Z) (aw Z Z Z Z)<|yS Z (cS Z (a8 g2 Z) Z)<|zM Z ?_;refine zc 21 Z (fun g3 => ?_)<|fun g3 => ?_
   ·
    refine zi g3 hr fun hr => yV Z (gd g3 Z) (zm Z Z)<|yV Z (gd g3 Z) (cP Z Z (by kernel_rfl))<|yV Z (gd g3 Z) (aw Z Z Z Z)<|yS Z (cS Z (a8 g3 Z) Z)<|zM Z<|zN<|zT<|zr ?_;obtain rfl := zJ hr;exact zf (.one (.tmp Z)) zv
   ·
    refine zo g3 hr fun hr => yU Z (gd g3 Z) Z<|yU Z (gd g3 Z) Z<|yU Z (gd g3 Z) Z<|yS Z (bN Z (a8 g3 Z) Z)<|zM Z<|zN<|zT<|zr ?_;obtain rfl := zJ hr;exact zf (.one (.tmp Z)) zv
  ·
   refine zo g2 hr fun hr => yU Z (gd g2 Z) Z<|yU Z (gd g2 Z) Z<|yU Z (gd g2 Z) Z<|yU Z (gd g2 Z) Z<|yS Z (bN Z (a8 g2 Z) Z)<|zM Z<|yU Z Z Z<|yU Z Z Z<|yU Z Z Z<|yS Z (bN Z Z Z)<|zM Z<|zN<|zT<|zr ?_;obtain rfl := zJ hr;exact zf (.one (.tmp Z)) zv
 ·
  refine zo g1 hr fun hr => yU Z (gd g1 Z) Z<|yU Z (gd g1 Z) Z<|yS Z (bN Z (a8 g1 Z) Z)<|zM Z<|yU Z Z Z<|yU Z Z Z<|yU Z Z Z<|yU Z Z Z<|yS Z (bN Z Z Z)<|zM Z<|yU Z Z Z<|yU Z Z Z<|yU Z Z Z<|yS Z (bN Z Z Z)<|zM Z<|zN<|zT<|zr ?_;obtain rfl := zJ hr;exact zf (.one (.tmp Z)) zv
open Go.Proofs
structure bF where
 i : Int
structure dp where
 j : Int
structure dq where
 j : Int
def iA (v6 : Wd) (v7 : Vw) (x1 : bF) (v14 : Vw) (x2 : dp) : Option (dp ⊕ (dp ⊕ (bF ⊕ (bF ⊕ Bool)))) :=
 bif decide (x2.j < (v7.B.length : Int)) then
  (ix v7.B x2.j).bind fun y2 =>
  (ix v6.N x1.i).bind fun y3 =>
  (FK y3.V.B y2.Parent).bind fun v16 =>
  (vd v14 (Vw.mk [y2] [])).bind fun v17 =>
  bif !((v17.B.length : Int) == (v14.B.length : Int)) then
   bif v16.2 then
    bif !(decide (v16.1 ≥ y2.Slot)) then
     some (.inr (.inr (.inr (.inr false))))
    else
     some (.inl (dp.mk (IntKind.i64.wrap (x2.j + 1))))
   else
    some (.inr (.inr (.inr (.inr false))))
  else
   some (.inl (dp.mk (IntKind.i64.wrap (x2.j + 1))))
 else
  some (.inr (.inl (dp.mk x2.j)))
def iB (v6 : Wd) (v7 : Vw) (x1 : bF) (v14 : Vw) (x3 : dq) : Option (dq ⊕ (dq ⊕ (bF ⊕ (bF ⊕ Bool)))) :=
 bif decide (x3.j < (v7.V.length : Int)) then
  (ix v7.V x3.j).bind fun y4 =>
  (ix v6.N x1.i).bind fun y5 =>
  (FK y5.V.B y4.Head).bind fun v19 =>
  (vd v14 (Vw.mk [] [y4])).bind fun v20 =>
  bif !((v20.V.length : Int) == (v14.V.length : Int)) then
   bif v19.2 then
    bif !(decide (v19.1 > y4.Slot)) then
     some (.inr (.inr (.inr (.inr false))))
    else
     some (.inl (dq.mk (IntKind.i64.wrap (x3.j + 1))))
   else
    some (.inr (.inr (.inr (.inr false))))
  else
   some (.inl (dq.mk (IntKind.i64.wrap (x3.j + 1))))
 else
  some (.inr (.inl (dq.mk x3.j)))
def iz (v6 : Wd) (v7 : Vw) (x1 : bF) : Option (bF ⊕ (bF ⊕ Bool)) :=
 bif decide (x1.i < (v6.N.length : Int)) then
  (ix v6.N x1.i).bind fun y1 =>
  (qL y1).bind fun v14 =>
  (iter (iA v6 v7 x1 v14) bG (dp.mk 0)).bind fun b_v15 => Sum.elim (fun _ =>
   (iter (iB v6 v7 x1 v14) bG (dq.mk 0)).bind fun b_v18 => Sum.elim (fun _ =>
    some (.inl (bF.mk (IntKind.i64.wrap (x1.i + 1))))) some b_v18) some b_v15
 else
  some (.inr (.inl (bF.mk x1.i)))
def wS (c : Cf) (bad : List Int) (l : List Ac) (ticks : Int) : Option Bool :=
 (sZ ).bind fun v1 =>
 (qR c bad l).bind fun v2 =>
 (
  bif !v1 then
   some true
  else
   bif !v2 then
    some true
   else
    bif decide (ticks < 0) then
     some true
    else
     some (decide (ticks > 12))
 ).bind fun v3 =>
 bif v3 then
  some v1
 else
  (qQ c bad).bind fun v4 =>
  (oU v4 l ticks).bind fun v5 =>
  (nL v5 ([] : List Ac)).bind fun v6 =>
  (oN v5.N).bind fun v7 =>
  (
   (sT v6.N).bind fun v9 =>
   bif v9 then
    some true
   else
    (oN v6.N).bind fun v10 =>
    (vd v7 v10).bind fun v11 =>
    (sU v11).bind fun v12 =>
    some v12
  ).bind fun v8 =>
  bif v8 then
   some true
  else
   (iter (iz v6 v7) bG (bF.mk 0)).bind fun b_v13 => Sum.elim (fun _ =>
    some true) some b_v13
theorem GS {c : Cf} {bad : List Int} {l : List Ac} {ticks : Int} {r_ : Bool} (hr : wS c bad l ticks = some r_) : az Tryz.prog 11 [kT c, .slice 1 (bad.map aC), .slice 5 (l.map nP), .int .i64 ticks] [.bool r_] := by
 refine zh Tryz.func11 Z Z Z Z ?_;unfold wS at hr;refine zQ<|zR<|yS Z (b6 Z Z Z Z Z)<|zM Z<|zN<|zT<|zQ<|zR<|zb hr fun v1 h_v1 hr => yS Z (zC Z Z Z (by kernel_rfl) (zp (GT h_v1) .nil))<|zM Z<|zN<|zT<|zQ<|zR<|yS Z (zD Z Z Z ca Z Z)<|zM Z<|zM Z<|zb hr fun v2 h_v2 hr => yS Z (zC Z Z Z (by kernel_rfl) (zp (GU h_v2) (.cons zv (.cons zv (.cons zv .nil)))))<|zM Z<|zN<|zT<|zQ ?_;obtain ⟨v3, hb_v3, ho_v3⟩ := zB hr;clear hr;refine LW.cut (E := [(1, (kI bad)), (2, .p (.slice 5 (l.map nP))), (3, (iQ ticks)), (4, .ptr 0 0), (8, (bQ false)), (9, (bQ v1)), (44, (bQ v3))]) (O := [.box (bO c)]) ?_ ?_
 ·have hr := hb_v3;refine zR<|zM Z<|yS Z (ab.not Z Z)<|zM Z ?_;refine zc 33 Z (fun g1 => ?_)<|fun g1 => ?_
  ·
   refine zi g1 hr fun hr => yU Z (gd g1 Z) Z<|yU Z (gd g1 Z) Z<|yS Z (cS Z (a8 g1 Z) Z)<|zM Z<|yU Z Z Z<|yU Z Z Z<|yS Z (cS Z Z Z)<|zM Z<|yU Z Z Z<|yU Z Z Z<|yS Z (cS Z Z Z)<|zN<|zT ?_;obtain rfl := zJ hr;exact zW 1 ⟨Z, Z, Z, Z, Z, Z, Z, trivial⟩ Z Z Z Z
  ·
   refine zo g1 hr fun hr => yV Z (gd g1 Z) (zm Z Z)<|yV Z (gd g1 Z) (ab.not Z Z)<|yS Z (bN Z (a8 g1 Z) Z)<|zM Z ?_;refine zc 37 Z (fun g2 => ?_)<|fun g2 => ?_
   ·
    refine zi g2 hr fun hr => yU Z (gd g2 Z) Z<|yU Z (gd g2 Z) Z<|yS Z (cS Z (a8 g2 Z) Z)<|zM Z<|yU Z Z Z<|yU Z Z Z<|yS Z (cS Z Z Z)<|zN<|zT ?_;obtain rfl := zJ hr;exact zW 1 ⟨Z, Z, Z, Z, Z, Z, Z, trivial⟩ Z Z Z Z
   ·
    refine zo g2 hr fun hr => yV Z (gd g2 Z) (zm Z Z)<|yV Z (gd g2 Z) (aw Z Z Z Z)<|yS Z (bN Z (a8 g2 Z) Z)<|zM Z ?_;refine zc 41 Z (fun g3 => ?_)<|fun g3 => ?_
    ·
     refine zi g3 hr fun hr => yU Z (gd g3 Z) Z<|yU Z (gd g3 Z) Z<|yS Z (cS Z (a8 g3 Z) Z)<|zN<|zT ?_;obtain rfl := zJ hr;exact zW 1 ⟨Z, Z, Z, Z, Z, Z, Z, trivial⟩ Z Z Z Z
    ·
     refine zo g3 hr fun hr => yV Z (gd g3 Z) (zm Z Z)<|yV Z (gd g3 Z) (aw Z Z Z Z)<|yS Z (bN Z (a8 g3 Z) Z)<|zN<|zT ?_;obtain rfl := zJ hr;exact zW 1 ⟨Z, Z, Z, Z, Z, Z, Z, trivial⟩ Z Z Z Z
 ·have hr := ho_v3;clear hb_v3;refine zX Z (fun g4 => ?_)<|fun g4 => ?_
  ·
   refine zi g4 hr fun hr => zQ<|zR<|zM Z<|zM Z<|zN<|zT<|zr<|af ?_;obtain rfl := zJ hr;exact zf (.one (.tmp Z)) zv
  ·
   refine zo g4 hr fun hr => zk<|zT<|zQ<|zR<|yS Z (zD Z Z Z ca Z Z)<|zM Z<|zb hr fun v4 h_v4 hr => yS Z (zC Z Z Z (by kernel_rfl) (zp (DU h_v4) (.cons zv (.cons zv .nil))))<|zM Z<|zM Z<|zb hr fun v5 h_v5 hr => yS Z (zC Z Z Z (by kernel_rfl) (zp (DW h_v5) (.cons zv (.cons zv (.cons zv .nil)))))<|yS Z (ze Z jD Z Z)<|yS Z (zs Z Z Z Z bX Z Z Z Z)<|zN<|zT<|zQ<|zR<|yS Z (zD Z Z Z bX Z Z)<|zb hr fun v6 h_v6 hr => yS Z (zC Z Z Z (by kernel_rfl) (zp (DV h_v6) (.cons zv (.cons Conv.zs .nil))))<|yS Z (ze Z jD Z Z)<|yS Z (zs Z Z Z Z bX Z Z Z Z) ?_;refine zN<|zT<|zQ<|zR<|yS Z (zA Z Z bp)<|yS Z (zD Z Z Z cG Z Z)<|zb hr fun v7 h_v7 hr => yS Z (zC Z Z Z (by kernel_rfl) (zp (AY h_v7) (.cons zv .nil)))<|yS Z (ze Z fS Z Z)<|yS Z (zs Z Z Z Z aM Z Z Z Z)<|zN<|zT<|zQ ?_;obtain ⟨v8, hb_v8, ho_v8⟩ := zB hr;clear hr;refine LW.cut (E := [(8, (bQ false)), (12, .ptr 2 0), (13, .ptr 3 0), (67, (bQ v8))]) (O := [.box (bO c), .box (fK v5), .box (fK v6), .box (cw v7)]) ?_ ?_
   ·have hr := hb_v8;refine LW.draw2 (by kernel_rfl) (by kernel_rfl)<|yE Z (zA Z Z bp)<|yE Z (zD Z Z Z cG Z Z)<|zb hr fun v9 h_v9 hr => yE Z (zC Z Z Z (by kernel_rfl) (zp (GJ h_v9) (.cons zv .nil)))<|zH Z ?_;refine LO.cases 60 Z (fun (g5 : v9 = true) => ?_) (fun (g5 : v9 = false) => ?_)
    ·
     refine zi g5 hr fun hr => LO.sk Z Z Z (gd g5 Z) Z Z<|LO.sk Z Z Z (gd g5 Z) Z Z<|LO.sk Z Z Z (gd g5 Z) Z Z<|LO.sk Z Z Z (gd g5 Z) Z Z<|LO.sk Z Z Z (gd g5 Z) Z Z<|LO.sk Z Z Z (gd g5 Z) Z Z<|yE Z (cS Z (a8 g5 Z) Z)<|LO.nil<|zT ?_;obtain rfl := zJ hr;exact zW 4 ⟨Z, Z, Z, Z, trivial⟩ Z Z Z Z
    ·
     refine zo g5 hr fun hr => LO.gd Z Z Z (gd g5 Z) Z (zD Z Z Z aM Z Z)<|LO.gd Z Z Z (gd g5 Z) Z (zA Z Z bp)<|LO.gd Z Z Z (gd g5 Z) Z (zD Z Z Z cG Z Z)<|zb hr fun v10 h_v10 hr => LO.gd Z Z Z (gd g5 Z) Z (zC Z Z Z (by kernel_rfl) (zp (AY h_v10) (.cons zv .nil)))<|zb hr fun v11 h_v11 hr => LO.gd Z Z Z (gd g5 Z) Z (zC Z Z Z (by kernel_rfl) (zp (EV h_v11) (.cons zv (.cons zv .nil))))<|zb hr fun v12 h_v12 hr => LO.gd Z Z Z (gd g5 Z) Z (zC Z Z Z (by kernel_rfl) (zp (GK h_v12) (.cons zv .nil)))<|yE Z (bN Z (a8 g5 Z) Z)<|LO.nil<|zT ?_;obtain rfl := zJ hr;exact zW 4 ⟨Z, Z, Z, Z, trivial⟩ Z Z Z Z
   ·have hr := ho_v8;clear hb_v8;refine zX Z (fun g6 => ?_)<|fun g6 => ?_
    ·
     refine zi g6 hr fun hr => zQ<|zR<|zM Z<|zN<|zT<|zr<|af ?_;obtain rfl := zJ hr;exact zf (.one (.tmp Z)) zv
    ·
     refine zo g6 hr fun hr => zk<|zT<|zQ<|zQ<|zR<|zM Z<|zN<|zT ?_;obtain ⟨b_v13, hb_v13, ho_v13⟩ := zB hr;clear hr;refine LW.tailB (b := b_v13) (E := fun v13 => [(8, (bQ false))]) (O := fun v13 => [.box (bO c), .box (fK v5), .box (fK v6), .box (cw v7)]) ?_<|fun v13 e_v13 env_v13 H_v13 hw_v13 => ?_
     ·refine LW.block ?_;refine LW.iterB (E := fun x1 : bF => [(8, (bQ false)), (12, .ptr 2 0), (13, .ptr 3 0), (14, (iQ x1.i))]) (O := fun x1 => [.box (bO c), .box (fK v5), .box (fK v6), .box (cw v7)]) hb_v13 (zW 4 ⟨rfl, rfl, rfl, rfl, trivial⟩ Z Z Z Z)<|fun x1 z_x1 hr hb_x1 => ?_;unfold iz at hr;refine zQ<|zQ<|zR<|zM Z<|yS Z (zA Z Z bp)<|yS Z (zD Z Z Z cG Z Z)<|yS Z (cP Z Z (by kernel_rfl))<|yS Z (aw Z Z Z Z)<|zN<|zT ?_;refine zX Z (fun g7 => ?_)<|fun g7 => ?_
      ·
       refine zi g7 hr fun hr => zk<|zT<|zQ<|zl<|zQ<|zR<|yS Z (zA Z Z bp)<|yS Z (zD Z Z Z cG Z Z)<|zM Z<|zb hr fun y1 h_y1 hr => yS Z (zx Z Z Z dN h_y1 Z)<|yS Z (dj Z Z Z b9 Z Z)<|zb hr fun v14 h_v14 hr => yS Z (zC Z Z Z (by kernel_rfl) (zp (DP h_v14) (.cons zv .nil)))<|yS Z (ze Z fS Z Z)<|yS Z (zs Z Z Z Z aM Z Z Z Z)<|zN<|zT<|zQ<|zQ<|zR<|zM Z<|zN ?_;refine zT ?_;obtain ⟨b_v15, hb_v15, ho_v15⟩ := zB hr;clear hr;refine LW.tailB (b := b_v15) (E := fun v15 => [(8, (bQ false)), (12, .ptr 2 0), (13, .ptr 3 0), (14, (iQ x1.i)), (15, .ptr 4 0)]) (O := fun v15 => [.box (bO c), .box (fK v5), .box (fK v6), .box (cw v7), .box (cw v14)]) ?_<|fun v15 e_v15 env_v15 H_v15 hw_v15 => ?_
       ·refine LW.block ?_;refine LW.iterB (E := fun x2 : dp => [(8, (bQ false)), (12, .ptr 2 0), (13, .ptr 3 0), (14, (iQ x1.i)), (15, .ptr 4 0), (16, (iQ x2.j))]) (O := fun x2 => [.box (bO c), .box (fK v5), .box (fK v6), .box (cw v7), .box (cw v14)]) hb_v15 (zW 5 ⟨rfl, rfl, rfl, rfl, rfl, rfl, trivial⟩ Z Z Z Z)<|fun x2 z_x2 hr hb_x2 => ?_;unfold iA at hr;refine zQ<|zQ<|zR<|zM Z<|yS Z (zA Z Z aL)<|yS Z (zD Z Z Z ch Z Z)<|yS Z (cP Z Z (by kernel_rfl))<|yS Z (aw Z Z Z Z)<|zN<|zT ?_;refine zX Z (fun g8 => ?_)<|fun g8 => ?_
        ·
         refine zi g8 hr fun hr => zk<|zT<|zQ<|zl<|zQ<|zR<|yS Z (zA Z Z aL)<|yS Z (zD Z Z Z ch Z Z)<|zM Z<|zb hr fun y2 h_y2 hr => yS Z (zx Z Z Z cR h_y2 Z)<|yS Z (dj Z Z Z bY Z Z)<|yS Z (ze Z qJ Z Z)<|yS Z (zs Z Z Z Z bY Z Z Z Z)<|zN<|zT<|zQ<|LW.draw2 (by kernel_rfl) (by kernel_rfl)<|yE Z (zA Z Z bp)<|yE Z (zD Z Z Z cG Z Z)<|zH Z<|zb hr fun y3 h_y3 hr => yE Z (zx Z Z Z dN h_y3 Z) ?_;refine yE Z (ab.fieldAddrC Z Z bT Z)<|yE Z (ab.fieldAddrC Z Z aL Z)<|yE Z (dj Z Z Z ch Z Z)<|yE Z (zA Z Z j3)<|yE Z (zD Z Z Z aT Z Z)<|zb hr fun v16 h_v16 hr => yE Z (zC Z Z Z (by kernel_rfl) (zp (JE h_v16) (.cons zv (.cons zv .nil))))<|zH Z<|yE Z (ed Z Z Z)<|yE Z (ed Z Z Z)<|zH Z<|zH Z<|LO.nil<|zT<|zQ<|LW.draw2 (by kernel_rfl) (by kernel_rfl)<|yE Z (zD Z Z Z aM Z Z)<|yE Z (zD Z Z Z bY Z Z)<|yE Z (lY Z cR Z Z Z Z Z)<|yE Z (ab.build Z ma Z Z Z)<|zb hr fun v17 h_v17 hr => yE Z (zC Z Z Z (by kernel_rfl) (zp (EV h_v17) (.cons zv (.cons (Conv.agg (.cons zv (.cons Conv.zs .nil))) .nil))))<|yE Z (ab.field Z Z Z aL Z Z)<|yE Z (cP Z Z (by kernel_rfl)) ?_;refine yE Z (zA Z Z aL)<|yE Z (zD Z Z Z ch Z Z)<|yE Z (cP Z Z (by kernel_rfl))<|yE Z (aw Z Z Z Z)<|zH Z<|LO.nil<|zT<|zQ<|zR<|zM Z<|yS Z (ab.not Z Z)<|zM Z ?_;refine zc 119 Z (fun g9 => ?_)<|fun g9 => ?_
         ·
          refine zi g9 hr fun hr => yV Z (gd g9 Z) (zm Z Z)<|yV Z (gd g9 Z) (zm Z Z) ?_;refine zc 121 Z (fun g10 => ?_)<|fun g10 => ?_
          ·
           refine zi g10 hr fun hr => yV Z (gd g10 Z) (zm Z Z)<|yV Z (gd g10 Z) (zA Z Z hZ)<|yV Z (gd g10 Z) (zD Z Z Z bl Z Z)<|yV Z (gd g10 Z) (aw Z Z Z Z)<|yV Z (gd g9 Z) (cS Z (a8 g10 Z) Z)<|yV Z (gd g9 Z) (ab.not Z Z)<|yS Z (cS Z (a8 g9 Z) Z)<|zN<|zT ?_;refine zX Z (fun g11 => ?_)<|fun g11 => ?_
           ·
            refine zi g11 hr fun hr => zQ<|zR<|zM Z<|zN<|zT<|zr<|aq<|af<|af<|aq<|af<|af<|aq<|af<|af<|aq<|af<|af ?_;obtain rfl := zJ hr;have hr := congrArg some (hb_x2 _ rfl);obtain rfl := zJ hr;have hr := da ho_v15;obtain rfl := zJ hr;have hr := congrArg some (hb_x1 _ rfl);obtain rfl := zJ hr;have hr := da ho_v13;obtain rfl := zJ hr;exact zf (.one (.tmp Z)) zv
           ·
            refine zo g11 hr fun hr => zk<|ah<|zT<|zR<|zM Z<|yS Z (aw Z Z Z Z)<|zM Z<|zN<|zT ?_;obtain rfl := zJ hr;exact ⟨_, rfl, zW 5 ⟨rfl, rfl, rfl, rfl, rfl, rfl, trivial⟩ Z Z Z rfl⟩
          ·
           refine zo g10 hr fun hr => yU Z (gd g10 Z) Z<|yU Z (gd g10 Z) Z<|yU Z (gd g10 Z) Z<|yU Z (gd g10 Z) Z<|yV Z (gd g9 Z) (bN Z (a8 g10 Z) Z)<|yV Z (gd g9 Z) (ab.not Z Z)<|yS Z (cS Z (a8 g9 Z) Z)<|zN<|zT<|LW.condT Z<|zQ<|zR<|zM Z<|zN<|zT<|zr<|aq<|af<|af<|aq<|af<|af<|aq ?_;refine af<|af<|aq<|af<|af ?_;obtain rfl := zJ hr;have hr := congrArg some (hb_x2 _ rfl);obtain rfl := zJ hr;have hr := da ho_v15;obtain rfl := zJ hr;have hr := congrArg some (hb_x1 _ rfl);obtain rfl := zJ hr;have hr := da ho_v13;obtain rfl := zJ hr;exact zf (.one (.tmp Z)) zv
         ·
          refine zo g9 hr fun hr => yU Z (gd g9 Z) Z<|yU Z (gd g9 Z) Z<|zY Z Z Z Z Z<|zY Z Z Z Z Z<|zY Z Z Z Z Z<|zY Z Z Z Z Z<|yU Z (gd g9 Z) Z<|yU Z (gd g9 Z) Z<|yS Z (bN Z (a8 g9 Z) Z)<|zN<|zT<|LW.condF Z<|zk<|ah<|zT<|zR<|zM Z<|yS Z (aw Z Z Z Z)<|zM Z<|zN<|zT ?_;obtain rfl := zJ hr;exact ⟨_, rfl, zW 5 ⟨rfl, rfl, rfl, rfl, rfl, rfl, trivial⟩ Z Z Z rfl⟩
        ·
         refine zo g8 hr fun hr => zq<|ao<|ao<|zy<|zT ?_;obtain rfl := zJ hr;have hr := congrArg some (hb_x2 _ rfl);obtain rfl := zJ hr;exact ⟨_, rfl, zW 5 ⟨rfl, rfl, rfl, rfl, rfl, trivial⟩ Z Z Z rfl⟩
       ·obtain rfl := e_v15;have hr := eG ho_v15;clear hb_v15;refine zT<|LW.weak hw_v15<|zQ<|zR<|zM Z<|zN<|zT ?_;obtain ⟨b_v18, hb_v18, ho_v18⟩ := zB hr;clear hr;refine LW.tailB (b := b_v18) (E := fun v18 => [(8, (bQ false)), (12, .ptr 2 0), (13, .ptr 3 0), (14, (iQ x1.i))]) (O := fun v18 => [.box (bO c), .box (fK v5), .box (fK v6), .box (cw v7), .box (cw v14)]) ?_<|fun v18 e_v18 env_v18 H_v18 hw_v18 => ?_
        ·refine LW.block ?_;refine LW.iterB (E := fun x3 : dq => [(8, (bQ false)), (12, .ptr 2 0), (13, .ptr 3 0), (14, (iQ x1.i)), (15, .ptr 4 0), (21, (iQ x3.j))]) (O := fun x3 => [.box (bO c), .box (fK v5), .box (fK v6), .box (cw v7), .box (cw v14)]) hb_v18 (zW 5 ⟨rfl, rfl, rfl, rfl, rfl, rfl, trivial⟩ Z Z Z Z)<|fun x3 z_x3 hr hb_x3 => ?_;unfold iB at hr;refine zQ<|zQ<|zR<|zM Z<|yS Z (zA Z Z a7)<|yS Z (zD Z Z Z dc Z Z)<|yS Z (cP Z Z (by kernel_rfl))<|yS Z (aw Z Z Z Z)<|zN<|zT ?_;refine zX Z (fun g12 => ?_)<|fun g12 => ?_
         ·
          refine zi g12 hr fun hr => zk<|zT<|zQ<|zl<|zQ<|zR<|yS Z (zA Z Z a7)<|yS Z (zD Z Z Z dc Z Z)<|zM Z<|zb hr fun y4 h_y4 hr => yS Z (zx Z Z Z cF h_y4 Z)<|yS Z (dj Z Z Z bZ Z Z)<|yS Z (ze Z qK Z Z)<|yS Z (zs Z Z Z Z bZ Z Z Z Z)<|zN<|zT<|zQ<|LW.draw2 (by kernel_rfl) (by kernel_rfl)<|yE Z (zA Z Z bp)<|yE Z (zD Z Z Z cG Z Z)<|zH Z<|zb hr fun y5 h_y5 hr => yE Z (zx Z Z Z dN h_y5 Z) ?_;refine yE Z (ab.fieldAddrC Z Z bT Z)<|yE Z (ab.fieldAddrC Z Z aL Z)<|yE Z (dj Z Z Z ch Z Z)<|yE Z (zA Z Z j4)<|yE Z (zD Z Z Z aT Z Z)<|zb hr fun v19 h_v19 hr => yE Z (zC Z Z Z (by kernel_rfl) (zp (JE h_v19) (.cons zv (.cons zv .nil))))<|zH Z<|yE Z (ed Z Z Z)<|yE Z (ed Z Z Z)<|zH Z<|zH Z<|LO.nil<|zT<|zQ<|LW.draw2 (by kernel_rfl) (by kernel_rfl)<|yE Z (zD Z Z Z aM Z Z)<|yE Z (zD Z Z Z bZ Z Z)<|yE Z (lY Z cF Z Z Z Z Z)<|yE Z (ab.build Z ma Z Z Z)<|zb hr fun v20 h_v20 hr => yE Z (zC Z Z Z (by kernel_rfl) (zp (EV h_v20) (.cons zv (.cons (Conv.agg (.cons Conv.zs (.cons zv .nil))) .nil))))<|yE Z (ab.field Z Z Z a7 Z Z)<|yE Z (cP Z Z (by kernel_rfl)) ?_;refine yE Z (zA Z Z a7)<|yE Z (zD Z Z Z dc Z Z)<|yE Z (cP Z Z (by kernel_rfl))<|yE Z (aw Z Z Z Z)<|zH Z<|LO.nil<|zT<|zQ<|zR<|zM Z<|yS Z (ab.not Z Z)<|zM Z ?_;refine zc 167 Z (fun g13 => ?_)<|fun g13 => ?_
          ·
           refine zi g13 hr fun hr => yV Z (gd g13 Z) (zm Z Z)<|yV Z (gd g13 Z) (zm Z Z) ?_;refine zc 169 Z (fun g14 => ?_)<|fun g14 => ?_
           ·
            refine zi g14 hr fun hr => yV Z (gd g14 Z) (zm Z Z)<|yV Z (gd g14 Z) (zA Z Z nf)<|yV Z (gd g14 Z) (zD Z Z Z bl Z Z)<|yV Z (gd g14 Z) (aw Z Z Z Z)<|yV Z (gd g13 Z) (cS Z (a8 g14 Z) Z)<|yV Z (gd g13 Z) (ab.not Z Z)<|yS Z (cS Z (a8 g13 Z) Z)<|zN<|zT ?_;refine zX Z (fun g15 => ?_)<|fun g15 => ?_
            ·
             refine zi g15 hr fun hr => zQ<|zR<|zM Z<|zN<|zT<|zr<|aq<|af<|af<|aq<|af<|aq<|af<|af<|aq<|af<|af ?_;obtain rfl := zJ hr;have hr := congrArg some (hb_x3 _ rfl);obtain rfl := zJ hr;have hr := da ho_v18;obtain rfl := zJ hr;have hr := congrArg some (hb_x1 _ rfl);obtain rfl := zJ hr;have hr := da ho_v13;obtain rfl := zJ hr;exact zf (.one (.tmp Z)) zv
            ·
             refine zo g15 hr fun hr => zk<|ah<|zT<|zR<|zM Z<|yS Z (aw Z Z Z Z)<|zM Z<|zN<|zT ?_;obtain rfl := zJ hr;exact ⟨_, rfl, zW 5 ⟨rfl, rfl, rfl, rfl, rfl, rfl, trivial⟩ Z Z Z rfl⟩
           ·
            refine zo g14 hr fun hr => yU Z (gd g14 Z) Z<|yU Z (gd g14 Z) Z<|yU Z (gd g14 Z) Z<|yU Z (gd g14 Z) Z<|yV Z (gd g13 Z) (bN Z (a8 g14 Z) Z)<|yV Z (gd g13 Z) (ab.not Z Z)<|yS Z (cS Z (a8 g13 Z) Z)<|zN<|zT<|LW.condT Z<|zQ<|zR<|zM Z<|zN<|zT<|zr<|aq<|af<|af<|aq<|af<|aq<|af ?_;refine af<|aq<|af<|af ?_;obtain rfl := zJ hr;have hr := congrArg some (hb_x3 _ rfl);obtain rfl := zJ hr;have hr := da ho_v18;obtain rfl := zJ hr;have hr := congrArg some (hb_x1 _ rfl);obtain rfl := zJ hr;have hr := da ho_v13;obtain rfl := zJ hr;exact zf (.one (.tmp Z)) zv
          ·
           refine zo g13 hr fun hr => yU Z (gd g13 Z) Z<|yU Z (gd g13 Z) Z<|zY Z Z Z Z Z<|zY Z Z Z Z Z<|zY Z Z Z Z Z<|zY Z Z Z Z Z<|yU Z (gd g13 Z) Z<|yU Z (gd g13 Z) Z<|yS Z (bN Z (a8 g13 Z) Z)<|zN<|zT<|LW.condF Z<|zk<|ah<|zT<|zR<|zM Z<|yS Z (aw Z Z Z Z)<|zM Z<|zN<|zT ?_;obtain rfl := zJ hr;exact ⟨_, rfl, zW 5 ⟨rfl, rfl, rfl, rfl, rfl, rfl, trivial⟩ Z Z Z rfl⟩
         ·
          refine zo g12 hr fun hr => zq<|ao<|ao<|zy<|zT ?_;obtain rfl := zJ hr;have hr := congrArg some (hb_x3 _ rfl);obtain rfl := zJ hr;exact ⟨_, rfl, zW 5 ⟨rfl, rfl, rfl, rfl, trivial⟩ Z Z Z rfl⟩
        ·obtain rfl := e_v18;have hr := eG ho_v18;clear hb_v18;refine ah<|zT<|LW.weak hw_v18<|zR<|zM Z<|yS Z (aw Z Z Z Z)<|zM Z<|zN<|zT ?_;obtain rfl := zJ hr;exact ⟨_, rfl, zW 4 ⟨rfl, rfl, rfl, rfl, trivial⟩ Z Z Z rfl⟩
      ·
       refine zo g7 hr fun hr => zq<|ao<|ao<|zy<|zT ?_;obtain rfl := zJ hr;have hr := congrArg some (hb_x1 _ rfl);obtain rfl := zJ hr;exact ⟨_, rfl, zW 4 ⟨rfl, trivial⟩ Z Z Z rfl⟩
     ·obtain rfl := e_v13;have hr := eG ho_v13;clear hb_v13;refine zT<|LW.weak hw_v13<|zQ<|zR<|zM Z<|zN<|zT<|zr ?_;obtain rfl := zJ hr;exact zf (.one (.tmp Z)) zv
open Go.Proofs
structure FX where
 i : Int
structure FY where
 k : Int
structure FZ where
 i : Int
structure F0 where
 k : Int
theorem mn {α β : Type} {step : α → Option (α ⊕ β)} {n : Nat} {x y : α} (h : step x = some (.inl y)) : iter step (n + 1) x = iter step n y := by
 rw [iter, h]
theorem fB {α β : Type} {step : α → Option (α ⊕ β)} {n : Nat} {x : α} {b : β} (h : step x = some (.inr b)) : iter step (n + 1) x = some b := by
 rw [iter, h]
theorem Gf : bG = 4611686018427387901 + 1 + 1 + 1 := rfl
def ui (a b : ID) : Bool := decide (a.1 < b.1 ∨ a.1 = b.1 ∧ a.2 < b.2)
def je (x y : Int) : Int := if x < y then -1 else if x > y then 1 else 0
theorem wO (x y : Int) : Ae x y = some (je x y) := by
 have h : ∀ z : Int, xK z = some false := fun z => by unfold xK; rw [show (z != z) = false by simp]
 unfold Ae je;rw [h x, ob, h y, ob, cf, cf];by_cases h1 : x < y
 ·rw [decide_eq_true h1, ct, if_pos h1]
 ·rw [decide_eq_false h1, cf, if_neg h1];by_cases h2 : x > y
  ·rw [decide_eq_true h2, ct, if_pos h2]
  ·rw [decide_eq_false h2, cf, if_neg h2]
theorem sQ (a1 a2 b1 b2 : Int) : xG [a1, a2] [b1, b2] = some (if je a1 b1 ≠ 0 then je a1 b1 else je a2 b2) := by
 unfold xG
 have h0 : ∀ i : Int, i = 0 → gQ [a1, a2] [b1, b2] (dO.mk i) = if je a1 b1 ≠ 0 then some (.inr (.inr (je a1 b1))) else some (.inl (dO.mk 1)) := by
  rintro i rfl;unfold gQ;simp only;rw [show decide ((0 : Int) < (([a1, a2] : List Int).length : Int)) = true from rfl, ct, show ix [a1, a2] 0 = some a1 from rfl, ob, show decide ((0 : Int) ≥ (([b1, b2] : List Int).length : Int)) = false from rfl, cf, show ix [b1, b2] 0 = some b1 from rfl, ob, wO, ob, show IntKind.i64.wrap (0 + 1) = 1 from eI (by omega) (by omega)];by_cases h : je a1 b1 = 0
  ·rw [show (je a1 b1 != 0) = false by simp [h], cf, if_neg (not_not_intro h)]
  ·rw [show (je a1 b1 != 0) = true by simp [h], ct, if_pos h]
 have h1 : gQ [a1, a2] [b1, b2] (dO.mk 1) = if je a2 b2 ≠ 0 then some (.inr (.inr (je a2 b2))) else some (.inl (dO.mk 2)) := by
  unfold gQ;simp only;rw [show decide ((1 : Int) < (([a1, a2] : List Int).length : Int)) = true from rfl, ct, show ix [a1, a2] 1 = some a2 from rfl, ob, show decide ((1 : Int) ≥ (([b1, b2] : List Int).length : Int)) = false from rfl, cf, show ix [b1, b2] 1 = some b2 from rfl, ob, wO, ob, show IntKind.i64.wrap (1 + 1) = 2 from eI (by omega) (by omega)];by_cases h : je a2 b2 = 0
  ·rw [show (je a2 b2 != 0) = false by simp [h], cf, if_neg (not_not_intro h)]
  ·rw [show (je a2 b2 != 0) = true by simp [h], ct, if_pos h]
 have h2 : gQ [a1, a2] [b1, b2] (dO.mk 2) = some (.inr (.inl (dO.mk 2))) := by
  unfold gQ;simp only;rw [show decide ((2 : Int) < (([a1, a2] : List Int).length : Int)) = false from rfl, cf]
 rw [Gf];by_cases c1 : je a1 b1 = 0
 ·have e1 := h0 0 rfl;rw [if_neg (not_not_intro c1)] at e1;rw [mn e1, if_neg (not_not_intro c1)];by_cases c2 : je a2 b2 = 0
  ·rw [if_neg (not_not_intro c2)] at h1;rw [mn h1, fB h2, ob, sl, show decide ((([a1, a2] : List Int).length : Int) < (([b1, b2] : List Int).length : Int)) = false from rfl, cf, c2]
  ·rw [if_pos c2] at h1;rw [fB h1, ob, sr]
 ·have e1 := h0 0 rfl;rw [if_pos c1] at e1;rw [fB e1, if_pos c1, ob, sr]
theorem Cz (a b : ID) : y8 a b = some (ui a b) := by
 unfold y8 ui;rw [sQ, ob];congr 1;refine decide_eq_decide.2 ?_;unfold je;by_cases h1 : a.1 < b.1
 ·simp [h1]
 ·by_cases h2 : a.1 > b.1
  ·have : a.1 ≠ b.1 := by omega
   simp [h1, h2, this]
  ·have : a.1 = b.1 := by omega
   by_cases h3 : a.2 < b.2
   ·simp [this, h3]
   ·by_cases h4 : a.2 > b.2 <;> simp [this, h3, h4]
theorem yl (a : ID) : ui a a = false := by unfold ui; exact decide_eq_false (by omega)
def ly (a b : Rk) : Bool := if a.n = b.n then ui b.id a.id else decide (a.n > b.n)
theorem CA (a b : Rk) : y9 a b = some (ly a b) := by
 unfold y9 ly;by_cases h : a.n = b.n
 ·rw [show (a.n != b.n) = false by simp [h], cf, if_pos h, show (a.n == b.n) = true by simp [h], Bool.true_and, Dm];by_cases h2 : a.id = b.id
  ·rw [decide_eq_true h2, Bool.not_true, cf, h2, yl]
  ·rw [decide_eq_false h2, Bool.not_false, ct, Cz, ob]
 ·rw [show (a.n != b.n) = true by simp [h], ct, if_neg h]
def jy (l : List Bk) (id h : ID) : Bool := decide (id ∈ bd l h)
def oo (l : List Bk) (v : List Vt) (id : ID) : List Int := (v.filter fun x => jy l id x.Head).map Vt.From
def xq (c : Cf) (l : List Bk) (v : List Vt) (id : ID) : Int := wv c (oo l v id)
theorem fw {α β : Type} [DecidableEq α] {m : List (α × β)} {k q : α} {v : β} : aj (aN m k v) q = if k = q then some v else aj m q := by
 induction m with
 | nil => simp [aN, aj]
 | cons p r ih =>
  obtain ⟨a, b⟩ := p;unfold aN;by_cases h : a = k
  ·rw [if_pos h];subst h;by_cases h2 : a = q
   ·simp [aj, h2]
   ·simp [aj, h2]
  ·rw [if_neg h];simp only [aj];rw [ih];by_cases h2 : a = q
   ·rw [if_pos h2, if_pos h2, if_neg (fun e => h (by rw [h2, e]))]
   ·rw [if_neg h2, if_neg h2]
def vj (l : List Bk) (id : ID) (m : List (ID × Bool)) : Prop := ∀ h b, aj m h = some b → b = jy l id h
theorem CL {l : List Bk} (hl : l.length ≤ 1000) {x : Vt} {c : Cf} {id : ID} {m : List (ID × Bool)} (hm : vj l id m) : ∃ m', z6 x c l id m = some (jy l id x.Head, m') ∧ vj l id m' := by
 unfold z6
 have hu : decide (aZ (bd l x.Head) id ≥ 0) = jy l id x.Head := by
  unfold jy; exact decide_eq_decide.2 ⟨fun h => nX.1 h, fun h => nX.2 h⟩
 cases hf : aj m x.Head with
 | none =>
  refine ⟨aN m x.Head (jy l id x.Head), ?_, ?_⟩
  ·rw [Option.isSome_none, Bool.not_false, ct, Fp hl, ct, hu]
  ·intro h b hb;rw [fw] at hb;by_cases e : x.Head = h
   ·rw [if_pos e] at hb; cases hb; rw [e]
   ·rw [if_neg e] at hb; exact hm h b hb
 | some b =>
  refine ⟨m, ?_, hm⟩;rw [Option.isSome_some, Bool.not_true, cf, Option.getD_some, hm _ _ hf]
theorem aS {α : Type} {l : List α} {j : Nat} {y : α} (h : l[j]? = some y) : l.take (j + 1) = l.take j ++ [y] := by rw [List.take_add_one, h]; rfl
theorem yc {l : List Bk} {v : List Vt} {id : ID} {n : Nat} {y : Vt} (hy : v[n]? = some y) : oo l (v.take (n + 1)) id = oo l (v.take n) id ++ bif jy l id y.Head then [y.From] else [] := by
 unfold oo;rw [aS hy, List.filter_append, List.map_append];cases h : jy l id y.Head <;> simp [h]
theorem tO (l : List Bk) (v : List Vt) (id : ID) : (oo l v id).length ≤ v.length := by
 unfold oo; rw [List.length_map]; exact List.length_filter_le _ _
theorem CM {l : List Bk} (hl : l.length ≤ 1000) {v : List Vt} (hv : v.length ≤ 1000) {c : Cf} {id : ID} : ∃ m', z7 v c l id [] = some (oo l v id, m') := by
 unfold z7
 have key := dx (step := l6 v c l id) (fun x => ∃ n : Nat, n ≤ v.length ∧ x.t12 = n ∧ vj l id x.o3 ∧ x.out = oo l (v.take n) id) (fun x => v.length - x.t12.toNat) (fun b => b.out = oo l v id) (by
  rintro ⟨t, m, out⟩ ⟨n, hn, h1, hm, ho⟩;simp only at h1 ho hm;subst h1 ho;by_cases hlt : n < v.length
  ·left;obtain ⟨y, hy, -⟩ := aA hlt;obtain ⟨m', e, hm'⟩ := CL hl (x := y) (c := c) hm;have hlen := tO l (v.take n) id;rw [List.length_take] at hlen;refine ⟨⟨((n + 1 : Nat) : Int), m', oo l (v.take (n + 1)) id⟩, ?_, ⟨n + 1, hlt, rfl, hm', rfl⟩, by simp only; omega⟩;unfold l6;simp only;rw [decide_eq_true (show (n : Int) < (v.length : Int) by omega), ct, aB hy, ob, e, ob, yc hy, ak (n := n) (by omega)]
   cases hu : jy l id y.Head with
   | true => rw [ct, show CN y = some y.From from rfl, ob, aF (by simp only [List.length_singleton]; omega) (by omega), ct, ct]
   | false => rw [cf, cf, List.append_nil]
  ·right
   obtain rfl : n = v.length := by omega
   refine ⟨⟨(v.length : Int), m, oo l (v.take v.length) id⟩, ?_, by simp only [List.take_length]⟩;unfold l6;simp only
   rw [decide_eq_false (show ¬ (v.length : Int) < (v.length : Int) by omega), cf]) (n := bG) (x := ⟨0, [], []⟩) ⟨0, by omega, rfl, (fun h b hb => by cases hb), by simp [oo]⟩ (ew (by simp only; omega))
 obtain ⟨b, e, hp⟩ := key;exact ⟨b.o3, by rw [e, ob, hp]⟩
theorem wE {l : List Bk} (hl : l.length ≤ 1000) {v : List Vt} (hv : v.length ≤ 1000) (c : Cf) (id : ID) : xC c l v id = some (xq c l v id) := by
 unfold xC;obtain ⟨m', e⟩ := CM hl hv (c := c) (id := id);have := tO l v id;rw [e, ob, Ay (by simp only; omega), ob]; rfl
theorem Ed (c : Cf) (l : List Bk) (v : List Vt) (id : ID) : 0 ≤ xq c l v id := by
 unfold xq wv;split
 ·next h => exact (oM h.okW.2 _).1
 ·omega
def jH (f : ID → Int) : List ID → Rk → Rk
 | [], b => b
 | k :: r, b => jH f r (bif ly ⟨f k, k⟩ b then ⟨f k, k⟩ else b)
theorem po (f : ID → Int) (k : ID) : ∀ (a : List ID) (b : Rk), jH f (a ++ [k]) b = bif ly ⟨f k, k⟩ (jH f a b) then ⟨f k, k⟩ else jH f a b
 | [], _ => rfl
 | _ :: r, _ => po f k r _
def gi (c : Cf) (l : List Bk) (v : List Vt) (id : ID) : Rk := jH (xq c l v) (cO l id) ⟨-1, (0, 0)⟩
theorem Bx (l : List Bk) (id : ID) : (cO l id).length ≤ l.length := by
 unfold cO;split
 ·simp
 ·rw [List.length_map]; exact List.length_filter_le _ _
theorem AA {l : List Bk} (hl : l.length ≤ 1000) {v : List Vt} (hv : v.length ≤ 1000) (c : Cf) (id : ID) : F5 c l v id = some ((gi c l v id).id, decide ((gi c l v id).n ≥ 0)) := by
 unfold F5;have hk := Bx l id;rw [Ex hl, ob]
 have e := ay (step := oY c l v (cO l id)) (n := (cO l id).length) (fun n => fH.mk (n : Int) (jH (xq c l v) ((cO l id).take n) ⟨-1, (0, 0)⟩)) (fH.mk ((cO l id).length : Int) (gi c l v id)) (fun n hn => by
  obtain ⟨y, hy, -⟩ := aA hn;unfold oY;simp only;rw [decide_eq_true (show (n : Int) < ((cO l id).length : Int) by omega), ct, aB hy, ob, wE hl hv, ob, CA, ob, ak (n := n) (by omega), aS hy, po]
  cases ly ⟨xq c l v y, y⟩ (jH (xq c l v) ((cO l id).take n) ⟨-1, (0, 0)⟩) with
  | true => rw [ct, ct]
  | false => rw [cf, cf]) (by
  unfold oY;simp only
  rw [decide_eq_false (show ¬ ((cO l id).length : Int) < ((cO l id).length : Int) by omega), cf, List.take_length]; rfl) (by omega)
 have e0 : fH.mk ((0 : Nat) : Int) (jH (xq c l v) ((cO l id).take 0) ⟨-1, (0, 0)⟩) = fH.mk 0 (Rk.mk (-1) (0, 0)) := rfl;rw [e0] at e;rw [e, ob]
theorem m7 {f : ID → Int} (hf : ∀ k, 0 ≤ f k) : ∀ (a : List ID) (b : Rk), (a = [] ∧ jH f a b = b) ∨ (jH f a b = b ∧ 0 ≤ b.n) ∨ (∃ k ∈ a, jH f a b = ⟨f k, k⟩) ∨ (b.n < -1)
 | [], b => .inl ⟨rfl, rfl⟩
 | k :: r, b => by
  by_cases hb : b.n < -1
  ·exact .inr<|.inr<|.inr hb
  ·unfold jH
   cases h : ly ⟨f k, k⟩ b with
   | true =>
    rw [ct];rcases m7 hf r ⟨f k, k⟩ with ⟨rfl, e⟩ | ⟨e, -⟩ | ⟨k', hk', e⟩ | h4
    ·exact .inr<|.inr<|.inl ⟨k, .head _, e⟩
    ·exact .inr<|.inr<|.inl ⟨k, .head _, e⟩
    ·exact .inr<|.inr<|.inl ⟨k', .tail _ hk', e⟩
    ·have := hf k; simp only at h4; omega
   | false =>
    rw [cf]
    have hb0 : 0 ≤ b.n := by
     unfold ly at h;simp only at h;have := hf k;by_cases e : f k = b.n
     ·omega
     ·rw [if_neg e] at h;have := of_decide_eq_false h;omega
    rcases m7 hf r b with ⟨rfl, e⟩ | h2 | ⟨k', hk', e⟩ | h4
    ·exact .inr<|.inl ⟨e, hb0⟩
    ·exact .inr<|.inl h2
    ·exact .inr<|.inr<|.inl ⟨k', .tail _ hk', e⟩
    ·omega
theorem tv (c : Cf) (l : List Bk) (v : List Vt) (id : ID) : (cO l id = [] ∧ gi c l v id = ⟨-1, (0, 0)⟩) ∨ ∃ k ∈ cO l id, gi c l v id = ⟨xq c l v k, k⟩ := by
 unfold gi;rcases m7 (Ed c l v) (cO l id) ⟨-1, (0, 0)⟩ with h | ⟨e, h2⟩ | h3 | h4
 ·exact .inl h
 ·simp only at h2; omega
 ·exact .inr h3
 ·simp only at h4; omega
def ua (c : Cf) (l : List Bk) (v : List Vt) : Nat → ID → ID
 | 0, id => id
 | n + 1, id => if (gi c l v id).n ≥ 0 then ua c l v n (gi c l v id).id else id
def lh (c : Cf) (l : List Bk) (v : List Vt) : ID := ua c l v (l.length + 1) (0, 0)
theorem Fw {l : List Bk} {m : List (ID × Int)} (hp : places l = some m) {id k : ID} {i : Int} (hi : aj m id = some i) (hk : k ∈ cO l id) : ∃ j, aj m k = some j ∧ i < j ∧ j < l.length := by
 unfold cO at hk;rw [hp] at hk;obtain ⟨b, hb, rfl⟩ := List.mem_map.1 hk;rw [List.mem_filter] at hb;obtain ⟨n, hn⟩ := List.getElem?_of_mem hb.1;have hI := bh hp;have hnl := (List.getElem?_eq_some_iff.1 hn).1;have h1 := hI.names n b hnl hn;refine ⟨n, h1, ?_, by omega⟩;rcases hI.known _ _ h1 with ⟨h2, -⟩ | ⟨b', p, h2, h3, h4, h5, h6, h7, h8, h9⟩
 ·omega
 ·rw [Int.toNat_natCast, hn] at h4;cases h4;have hpar : b.Parent = id := of_decide_eq_true hb.2;rw [hpar, hi] at h6;cases h6;exact h7
theorem rf {l : List Bk} (hl : l.length ≤ 1000) {v : List Vt} (hv : v.length ≤ 1000) (c : Cf) {m : List (ID × Int)} (hp : places l = some m) : ∀ (n f : Nat) (id : ID) (i : Int), aj m id = some i → (l.length : Int) - i ≤ n → n < f →
  iter (lq c l v) f ⟨id⟩ = some ⟨ua c l v n id⟩
 | 0, f, id, i, hi, hn, _ => by
  rcases (bh hp).known _ _ hi with ⟨h, -⟩ | ⟨b, p, h0, h1, -⟩ <;> omega
 | n + 1, f, id, i, hi, hn, hf => by
  obtain ⟨f, rfl⟩ : ∃ g, f = g + 1 := ⟨f - 1, by omega⟩
  have hs : lq c l v ⟨id⟩ = if (gi c l v id).n ≥ 0 then some (.inl ⟨(gi c l v id).id⟩) else some (.inr ⟨id⟩) := by
   unfold lq;simp only;rw [AA hl hv, ob];by_cases h : (gi c l v id).n ≥ 0
   ·rw [decide_eq_true h, Bool.not_true, cf, if_pos h]
   ·rw [decide_eq_false h, Bool.not_false, ct, if_neg h]
  unfold ua;rcases tv c l v id with ⟨-, e⟩ | ⟨k, hk, e⟩
  ·have : ¬ (gi c l v id).n ≥ 0 := by rw [e]; simp
   rw [if_neg this] at hs ⊢;exact fB hs
  ·have hpos : (gi c l v id).n ≥ 0 := by rw [e]; exact Ed c l v k
   rw [if_pos hpos] at hs ⊢;rw [mn hs, e];obtain ⟨j, hj, h1, h2⟩ := Fw hp hi hk;exact rf hl hv c hp n f k j hj (by omega) (by omega)
theorem EA {l : List Bk} (hl : l.length ≤ 1000) {v : List Vt} (hv : v.length ≤ 1000) (c : Cf) : F6 c l v = some (lh c l v) := by
 unfold F6 lh
 cases hp : places l with
 | some m =>
  rw [rf hl hv c hp (l.length + 1) bG (0, 0) (-1) (bh hp).zero (by omega) (ew (by omega)), ob]
 | none =>
  have hk : cO l (0, 0) = [] := by unfold cO; rw [hp]
  have hb : gi c l v (0, 0) = ⟨-1, (0, 0)⟩ := by unfold gi; rw [hk]; rfl
  have hs : lq c l v ⟨(0, 0)⟩ = some (.inr ⟨(0, 0)⟩) := by
   unfold lq;simp only;rw [AA hl hv, ob, hb];rfl
  rw [Gf, fB hs, ob];unfold ua;rw [hb, if_neg (by simp)]
def cy {R : Type} (f : Nat → Option R) : Nat → Nat → Option R
 | _, 0 => none
 | k, d + 1 => match f k with
  | some r => some r
  | none => cy f (k + 1) d
theorem fx {R : Type} {f : Nat → Option R} : ∀ {d k : Nat}, cy f k d = none ↔ ∀ j, k ≤ j → j < k + d → f j = none
 | 0, k => ⟨fun _ j h1 h2 => by omega, fun _ => rfl⟩
 | d + 1, k => by
  unfold cy
  cases h : f k with
  | some r => exact ⟨fun h => (by cases h), fun h2 => (by rw [h2 k (Nat.le_refl _) (by omega)] at h; cases h)⟩
  | none =>
   rw [fx (k := k + 1)];refine ⟨fun h2 j h3 h4 => ?_, fun h2 j h3 h4 => h2 j (by omega) (by omega)⟩;by_cases e : j = k
   ·subst e; exact h
   ·exact h2 j (by omega) (by omega)
theorem dK {R : Type} {f : Nat → Option R} {r : R} : ∀ {d k : Nat}, cy f k d = some r → ∃ j, k ≤ j ∧ j < k + d ∧ f j = some r ∧ ∀ i, k ≤ i → i < j → f i = none
 | 0, k, h => by cases h
 | d + 1, k, h => by
  unfold cy at h
  cases hk : f k with
  | some q =>
   rw [hk] at h;cases h;exact ⟨k, Nat.le_refl _, by omega, hk, fun i h1 h2 => by omega⟩
  | none =>
   rw [hk] at h;obtain ⟨j, h1, h2, h3, h4⟩ := dK h;refine ⟨j, by omega, by omega, h3, fun i h5 h6 => ?_⟩;by_cases e : i = k
   ·subst e; exact hk
   ·exact h4 i (by omega) h6
def lb {S R : Type} (s : S) : Option R → S ⊕ R
 | some r => .inr r
 | none => .inl s
theorem eF {S R : Type} {step : S → Option (S ⊕ (S ⊕ R))} {n : Nat} (mk : Nat → S) (f : Nat → Option R) (hs : ∀ j, j < n → step (mk j) = match f j with | some r => some (.inr (.inr r)) | none => some (.inl (mk (j + 1))))
  (he : step (mk n) = some (.inr (.inl (mk n)))) (hn : n < 4000000000000000000) : iter step bG (mk 0) = some (lb (mk n) (cy f 0 n)) := by
 have key : ∀ (d k q : Nat), k + d = n → d < q → iter step q (mk k) = some (lb (mk n) (cy f k d)) := by
  intro d
  induction d with
  | zero =>
   intro k q hk hq;obtain ⟨q, rfl⟩ : ∃ p, q = p + 1 := ⟨q - 1, by omega⟩
   obtain rfl : k = n := by omega
   exact fB he
  | succ d ih =>
   intro k q hk hq;obtain ⟨q, rfl⟩ : ∃ p, q = p + 1 := ⟨q - 1, by omega⟩;have h1 := hs k (by omega);unfold cy
   cases hf : f k with
   | some r =>
    rw [hf] at h1;exact fB h1
   | none =>
    rw [hf] at h1;rw [mn h1];exact ih (k + 1) q (by omega) (by omega)
 exact key n 0 bG (by omega)<|ew hn
def eY {α : Type} [DecidableEq α] (l : List α) (v : α) (j : Nat) : Option Int := if l[j]? = some v then some (j : Int) else none
theorem j5 {α : Type} [DecidableEq α] {l : List α} {v : α} : (cy (eY l v) 0 l.length).isSome = decide (v ∈ l) := by
 cases h : cy (eY l v) 0 l.length with
 | none =>
  rw [fx] at h;refine (decide_eq_false fun hm => ?_).symm;obtain ⟨j, hj⟩ := List.getElem?_of_mem hm;have := h j (Nat.zero_le _) (by have := (List.getElem?_eq_some_iff.1 hj).1; omega);unfold eY at this;rw [if_pos hj] at this;cases this
 | some r =>
  obtain ⟨j, -, -, h3, -⟩ := dK h;refine (decide_eq_true ?_).symm;unfold eY at h3;split at h3
  ·rename_i e; exact List.mem_of_getElem? e
  ·cases h3
theorem pQ {α : Type} [DecidableEq α] {l : List α} {v : α} {n : Nat} {r : Int} (h : cy (eY l v) 0 n = some r) : 0 ≤ r := by
 obtain ⟨j, -, -, h3, -⟩ := dK h;unfold eY at h3;split at h3
 ·cases h3; omega
 ·cases h3
theorem wM {l : List Bk} (hl : l.length ≤ 100000) (v : Bk) : xI l v = some (decide (v ∈ l)) := by
 have e := eF (step := kH l v) (n := l.length) (fun k => fg.mk (k : Int)) (eY l v) (fun j hj => by
  obtain ⟨y, hy, -⟩ := aA hj;unfold kH eY;simp only;rw [decide_eq_true (show (j : Int) < (l.length : Int) by omega), ct, aB hy, ob, Hq, ak (n := j) (by omega), hy];by_cases h : v = y
  ·rw [decide_eq_true h, ct, if_pos (by rw [h])]
  ·rw [decide_eq_false h, cf, if_neg (fun e => h (Option.some.inj e).symm)]) (by
  unfold kH;simp only
  rw [decide_eq_false (show ¬ (l.length : Int) < (l.length : Int) by omega), cf]) (by omega)
 unfold xI CR;rw [← j5];have e' : iter (kH l v) bG (fg.mk 0) = some (lb (fg.mk (l.length : Int)) (cy (eY l v) 0 l.length)) := e;rw [e', ob]
 cases h : cy (eY l v) 0 l.length with
 | none => rw [lb, sl, ob]; rfl
 | some r => rw [lb, sr, ob, decide_eq_true (pQ h)]; rfl
theorem wN {l : List Vt} (hl : l.length ≤ 100000) (v : Vt) : xJ l v = some (decide (v ∈ l)) := by
 have e := eF (step := kJ l v) (n := l.length) (fun k => fh.mk (k : Int)) (eY l v) (fun j hj => by
  obtain ⟨y, hy, -⟩ := aA hj;unfold kJ eY;simp only;rw [decide_eq_true (show (j : Int) < (l.length : Int) by omega), ct, aB hy, ob, Ht, ak (n := j) (by omega), hy];by_cases h : v = y
  ·rw [decide_eq_true h, ct, if_pos (by rw [h])]
  ·rw [decide_eq_false h, cf, if_neg (fun e => h (Option.some.inj e).symm)]) (by
  unfold kJ;simp only
  rw [decide_eq_false (show ¬ (l.length : Int) < (l.length : Int) by omega), cf]) (by omega)
 unfold xJ CS;rw [← j5];have e' : iter (kJ l v) bG (fh.mk 0) = some (lb (fh.mk (l.length : Int)) (cy (eY l v) 0 l.length)) := e;rw [e', ob]
 cases h : cy (eY l v) 0 l.length with
 | none => rw [lb, sl, ob]; rfl
 | some r => rw [lb, sr, ob, decide_eq_true (pQ h)]; rfl
section
variable {α : Type} [DecidableEq α]
def bA (a : List α) : List α → List α
 | [] => a
 | x :: r => bA (if x ∈ a then a else a ++ [x]) r
theorem gH (x : α) : ∀ (b a : List α), bA a (b ++ [x]) = if x ∈ bA a b then bA a b else bA a b ++ [x]
 | [], _ => rfl
 | _ :: r, _ => gH x r _
theorem ff (x : α) : ∀ (b a : List α), x ∈ bA a b ↔ x ∈ a ∨ x ∈ b
 | [], a => by simp [bA]
 | y :: r, a => by
  unfold bA;rw [ff x r];by_cases h : y ∈ a
  ·rw [if_pos h, List.mem_cons];exact ⟨fun h2 => h2.elim .inl (fun h3 => .inr (.inr h3)), fun h2 => h2.elim .inl fun h3 => h3.elim (fun e => .inl (e ▸ h)) .inr⟩
  ·rw [if_neg h, List.mem_append, List.mem_singleton, List.mem_cons, or_assoc]
theorem cx : ∀ (b a : List α), (bA a b).length ≤ a.length + b.length
 | [], a => by simp [bA]
 | y :: r, a => by
  unfold bA;have := cx r (if y ∈ a then a else a ++ [y])
  have h2 : (if y ∈ a then a else a ++ [y]).length ≤ a.length + 1 := by split <;> simp
  simp only [List.length_cons]; omega
theorem fG : ∀ {b a : List α}, a.Nodup → (bA a b).Nodup
 | [], _, h => h
 | y :: r, a, h => by
  unfold bA;refine fG ?_;split
  ·exact h
  ·rename_i hn;rw [List.nodup_append];exact ⟨h, by simp, fun x hx z hz => by rw [List.mem_singleton] at hz; subst hz; exact fun e => hn (e ▸ hx)⟩
end
theorem CI {a b : List Bk} (h : a.length + b.length ≤ 90000) : zU a b = some (bA a b) := by
 unfold zU;rw [aF (by omega) (by omega), ct]
 have e := ay (step := kx b) (n := b.length) (fun k => ei.mk (k : Int) (bA a (b.take k))) (ei.mk (b.length : Int) (bA a b)) (fun k hk => by
  obtain ⟨y, hy, -⟩ := aA hk;have hlen := cx (b.take k) a;rw [List.length_take] at hlen;unfold kx;simp only;rw [decide_eq_true (show (k : Int) < (b.length : Int) by omega), ct, aB hy, ob, wM (by omega), ob, aS hy, gH, ak (n := k) (by omega)];by_cases hm : y ∈ bA a (b.take k)
  ·rw [decide_eq_true hm, Bool.not_true, cf, if_pos hm]
  ·rw [decide_eq_false hm, Bool.not_false, ct, aF (by simp only [List.length_singleton]; omega) (by omega), ct, if_neg hm]) (by
  unfold kx;simp only
  rw [decide_eq_false (show ¬ (b.length : Int) < (b.length : Int) by omega), cf, List.take_length]) (by omega)
 have e' : iter (kx b) bG (ei.mk 0 a) = some (ei.mk (b.length : Int) (bA a b)) := e;rw [e', ob]
theorem CJ {a b : List Vt} (h : a.length + b.length ≤ 90000) : zV a b = some (bA a b) := by
 unfold zV;rw [aF (by omega) (by omega), ct]
 have e := ay (step := ky b) (n := b.length) (fun k => ej.mk (k : Int) (bA a (b.take k))) (ej.mk (b.length : Int) (bA a b)) (fun k hk => by
  obtain ⟨y, hy, -⟩ := aA hk;have hlen := cx (b.take k) a;rw [List.length_take] at hlen;unfold ky;simp only;rw [decide_eq_true (show (k : Int) < (b.length : Int) by omega), ct, aB hy, ob, wN (by omega), ob, aS hy, gH, ak (n := k) (by omega)];by_cases hm : y ∈ bA a (b.take k)
  ·rw [decide_eq_true hm, Bool.not_true, cf, if_pos hm]
  ·rw [decide_eq_false hm, Bool.not_false, ct, aF (by simp only [List.length_singleton]; omega) (by omega), ct, if_neg hm]) (by
  unfold ky;simp only
  rw [decide_eq_false (show ¬ (b.length : Int) < (b.length : Int) by omega), cf, List.take_length]) (by omega)
 have e' : iter (ky b) bG (ej.mk 0 a) = some (ej.mk (b.length : Int) (bA a b)) := e;rw [e', ob]
def bx (a b : Vw) : Vw := ⟨bA a.B b.B, bA a.V b.V⟩
theorem lu {a b : Vw} (h1 : a.B.length + b.B.length ≤ 90000) (h2 : a.V.length + b.V.length ≤ 90000) : AD a b = some (bx a b) := by
 unfold AD;rw [CI h1, ob, CJ h2, ob]; rfl
def mayB (c : Cf) (b : Bk) : Bool := decide (0 ≤ n7 c b.Slot ∧ n7 c b.Slot = b.From ∧ nm b ≠ (0, 0))
def mayV (c : Cf) (v : Vt) : Bool := decide (v.From ∈ pu c v.Slot)
theorem EB (c : Cf) (b : Bk) : F7 c b = some (mayB c b) := by
 unfold F7 mayB;rw [rN, ob];by_cases h1 : n7 c b.Slot ≥ 0
 ·rw [decide_eq_true h1, ct];by_cases h2 : n7 c b.Slot = b.From
  ·rw [show (n7 c b.Slot == b.From) = true by simp [h2], ct, Hs];by_cases h3 : nm b = (0, 0)
   ·rw [decide_eq_true h3, Bool.not_true, decide_eq_false fun h => h.2.2 h3]
   ·rw [decide_eq_false h3, Bool.not_false, decide_eq_true ⟨h1, h2, h3⟩]
  ·rw [show (n7 c b.Slot == b.From) = false by simp [h2], cf, decide_eq_false fun h => h2 h.2.1]
 ·rw [decide_eq_false h1, cf, decide_eq_false fun h => h1 h.1]
theorem EC (c : Cf) (v : Vt) : F8 c v = some (mayV c v) := by
 unfold F8 mayV;rw [Az, ob]
theorem bH {α : Type} {p : α → Bool} {l : List α} {n : Nat} {y : α} (hy : l[n]? = some y) : (l.take (n + 1)).filter p = (l.take n).filter p ++ bif p y then [y] else [] := by
 rw [aS hy, List.filter_append];cases h : p y <;> simp [h]
theorem cH {α : Type} {p : α → Bool} {l : List α} (n : Nat) : ((l.take n).filter p).length ≤ n :=
 Nat.le_trans (List.length_filter_le _ _) (by rw [List.length_take]; omega)
theorem wF {c : Cf} {l : List Bk} (hl : l.length ≤ 100000) : xD c l = some (l.filter (mayB c)) := by
 unfold xD
 have e := ay (step := kq c l) (n := l.length) (fun k => eg.mk (k : Int) ((l.take k).filter (mayB c))) (eg.mk (l.length : Int) (l.filter (mayB c))) (fun k hk => by
  obtain ⟨y, hy, -⟩ := aA hk;have hlen := cH (p := mayB c) (l := l) k;unfold kq;simp only;rw [decide_eq_true (show (k : Int) < (l.length : Int) by omega), ct, aB hy, ob, EB, ob, bH hy, ak (n := k) (by omega)]
  cases mayB c y with
  | true => rw [ct, aF (by simp only [List.length_singleton]; omega) (by omega), ct, ct]
  | false => rw [cf, cf, List.append_nil]) (by
  unfold kq;simp only
  rw [decide_eq_false (show ¬ (l.length : Int) < (l.length : Int) by omega), cf, List.take_length]) (by omega)
 have e' : iter (kq c l) bG (eg.mk 0 []) = some (eg.mk (l.length : Int) (l.filter (mayB c))) := e;rw [e', ob]
theorem wG {c : Cf} {l : List Vt} (hl : l.length ≤ 100000) : xE c l = some (l.filter (mayV c)) := by
 unfold xE
 have e := ay (step := kr c l) (n := l.length) (fun k => eh.mk (k : Int) ((l.take k).filter (mayV c))) (eh.mk (l.length : Int) (l.filter (mayV c))) (fun k hk => by
  obtain ⟨y, hy, -⟩ := aA hk;have hlen := cH (p := mayV c) (l := l) k;unfold kr;simp only;rw [decide_eq_true (show (k : Int) < (l.length : Int) by omega), ct, aB hy, ob, EC, ob, bH hy, ak (n := k) (by omega)]
  cases mayV c y with
  | true => rw [ct, aF (by simp only [List.length_singleton]; omega) (by omega), ct, ct]
  | false => rw [cf, cf, List.append_nil]) (by
  unfold kr;simp only
  rw [decide_eq_false (show ¬ (l.length : Int) < (l.length : Int) by omega), cf, List.take_length]) (by omega)
 have e' : iter (kr c l) bG (eh.mk 0 []) = some (eh.mk (l.length : Int) (l.filter (mayV c))) := e;rw [e', ob]
def aY (c : Cf) (w : Vw) : Vw := ⟨w.B.filter (mayB c), w.V.filter (mayV c)⟩
theorem AC {c : Cf} {w : Vw} (h1 : w.B.length ≤ 100000) (h2 : w.V.length ≤ 100000) : FO c w = some (aY c w) := by
 unfold FO;rw [wF h1, ob, wG h2, ob]; rfl
theorem CU {c : Cf} {w : Vw} (h1 : w.B.length ≤ 100000) (h2 : w.V.length ≤ 100000) : AB c w = some ((aY c w).B, (aY c w).V) := by
 unfold AB;rw [wF h1, ob, wG h2, ob]; rfl
open Go.Proofs
theorem ur {l : List Bk} {m : List (ID × Int)} (h : places l = some m) : ((0, 0) :: l.map nm).Nodup := by
 rw [List.nodup_cons];refine ⟨fun hm => ?_, ?_⟩
 ·obtain ⟨b, hb, e⟩ := List.mem_map.1 hm;obtain ⟨i, hi⟩ := List.getElem?_of_mem hb;have h1 := (bh h).names i b (List.getElem?_eq_some_iff.1 hi).1 hi;rw [e, (bh h).zero] at h1;cases h1
 ·rw [List.Nodup, List.pairwise_iff_getElem];intro i j hi hj hij e;simp only [List.length_map] at hi hj;have h1 := (bh h).names i l[i] hi (List.getElem?_eq_getElem hi);have h2 := (bh h).names j l[j] hj (List.getElem?_eq_getElem hj);rw [List.getElem_map, List.getElem_map] at e;rw [e, h2] at h1;cases h1;omega
def yp (l : List Bk) (n : Nat) : Prop := ∃ y p, l[n]? = some y ∧ aj (oF l n) y.Parent = some p ∧ ¬ y.Slot ≤ bW l p ∧ aj (oF l n) (nm y) = none
theorem Bs {l : List Bk} : ∀ (r n : Nat), l.length - n = r → n ≤ l.length → ((ec l (l.drop n) n (oF l n)).isSome = true ↔ ∀ i, n ≤ i → i < l.length → yp l i)
 | 0, n, hr, hn => by
  have : n = l.length := by omega
  subst this;rw [List.drop_length];exact ⟨fun _ i h1 h2 => by omega, fun _ => rfl⟩
 | r + 1, n, hr, hn => by
  obtain ⟨y, hy, -⟩ := aA (l := l) (n := n) (by omega);have ih := Bs (l := l) r (n + 1) (by omega) (by omega)
  have e : oF l (n + 1) = oF l n ++ [(nm y, (n : Int))] := by simp only [oF, hy]
  rw [e] at ih;rw [eE hy];constructor
  ·intro h i h1 h2
   cases hp : aj (oF l n) y.Parent with
   | none => rw [hp] at h; cases h
   | some p =>
    rw [hp] at h;simp only at h;by_cases hs : y.Slot ≤ bW l p
    ·rw [if_pos hs] at h; cases h
    ·rw [if_neg hs] at h
     cases hq : aj (oF l n) (nm y) with
     | some q => rw [hq] at h; cases h
     | none =>
      rw [hq] at h;by_cases hin : i = n
      ·subst hin; exact ⟨y, p, hy, hp, hs, hq⟩
      ·exact ih.1 h i (by omega) h2
  ·intro h;obtain ⟨y', p, hy', hp, hs, hq⟩ := h n (Nat.le_refl _) (by omega);rw [hy] at hy'; cases hy';rw [hp]; simp only;rw [if_neg hs, hq];exact ih.2 fun i h1 h2 => h i (by omega) h2
theorem sh {l : List Bk} : (places l).isSome = true ↔ ∀ i, i < l.length → yp l i := by
 have := Bs (l := l) l.length 0 (by omega) (Nat.zero_le _);rw [show (places l) = ec l (l.drop 0) 0 (oF l 0) from rfl, this];exact ⟨fun h i hi => h i (Nat.zero_le _) hi, fun h i _ hi => h i hi⟩
theorem lM {l m : List Bk} : ∀ n, (∀ i, i < n → l[i]? = m[i]?) → oF l n = oF m n
 | 0, _ => rfl
 | n + 1, h => by
  simp only [oF, h n (by omega), lM n fun i hi => h i (by omega)]
theorem nZ {l m : List Bk} {n : Nat} (h : ∀ i, i ≤ n → l[i]? = m[i]?) (ho : yp l n) (hn : n < l.length) : yp m n := by
 obtain ⟨y, p, h1, h2, h3, h4⟩ := ho;have e := lM n fun i hi => h i (by omega);refine ⟨y, p, by rw [← h n (Nat.le_refl _)]; exact h1, by rw [← e]; exact h2, ?_, by rw [← e]; exact h4⟩
 have hp : p = -1 ∨ 0 ≤ p ∧ p < n := by
  rw [ul _ n (by omega)] at h2;split at h2
  ·cases h2; exact .inl rfl
  ·split at h2
   ·rename_i hi;obtain ⟨j, b, g1, g2, -⟩ := By hi;cases h2;exact .inr ⟨by omega, by omega⟩
   ·cases h2
 rcases hp with rfl | ⟨h5, h6⟩
 ·simpa [bW] using h3
 ·have : bW m p = bW l p := by
   simp only [bW, h p.toNat (by omega)]
  rw [this]; exact h3
theorem un {l : List Bk} {k : Nat} (h : (places l).isSome = true) (hk : k ≤ l.length) : (places (l.take k)).isSome = true := by
 rw [sh] at h ⊢;intro i hi;simp only [List.length_take] at hi;refine nZ (fun j hj => ?_) (h i (by omega)) (by omega);rw [List.getElem?_take_of_lt (by omega)]
def w7 (l : List Bk) (b : Bk) : Bool := (eU l b.Parent).2 && decide (b.Slot > (eU l b.Parent).1) && !decide (nm b = (0, 0)) && decide (na l (nm b) < 0)
theorem BC {l : List Bk} {m : List (ID × Int)} {b : Bk} (h : places l = some m) : (places (l ++ [b])).isSome = w7 l b := by
 have hl : ∀ i, i < l.length → yp l i := sh.1 (by rw [h]; rfl)
 have hpre : ∀ i, i < l.length → l[i]? = (l ++ [b])[i]? := fun i hi => by rw [List.getElem?_append_left hi]
 have hm : oF (l ++ [b]) l.length = m := by rw [← lM l.length hpre, ← yw h]
 have hb : (l ++ [b])[l.length]? = some b := by simp
 have hslot : ∀ p i, aj m p = some i → bW (l ++ [b]) i = bW l i := by
  intro p i hf;rcases pT h hf with ⟨rfl, -⟩ | ⟨c, h0, h1, h2, -⟩
  ·rfl
  ·have : ¬ i = -1 := by omega
   simp only [bW, if_neg this, ← hpre i.toNat (by omega)]
 have key : (places (l ++ [b])).isSome = true ↔ yp (l ++ [b]) l.length := by
  rw [sh];constructor
  ·intro h1; exact h1 l.length (by simp)
  ·intro h1 i hi;simp only [List.length_append, List.length_singleton] at hi;by_cases e : i = l.length
   ·subst e; exact h1
   ·exact nZ (fun j hj => hpre j (by omega)) (hl i (by omega)) (by omega)
 rw [Bool.eq_iff_iff, key];constructor
 ·rintro ⟨y, p, h1, h2, h3, h4⟩;rw [hb] at h1; cases h1;rw [hm] at h2 h4;rw [hslot _ _ h2] at h3
  have hz : ¬ nm b = (0, 0) := fun e => by rw [e, (bh h).zero] at h4; cases h4
  have g1 : eU l b.Parent = (bW l p, true) := by simp only [eU, h, h2]
  have g2 : na l (nm b) = -1 := by simp only [na, h, h4]; rfl
  unfold w7;rw [g1, g2, decide_eq_true (show b.Slot > bW l p by omega), decide_eq_false hz]; rfl
 ·intro hf;unfold w7 at hf;simp only [Bool.and_eq_true, Bool.not_eq_true', decide_eq_true_eq, decide_eq_false_iff_not] at hf;obtain ⟨⟨⟨h1, h2⟩, h3⟩, h4⟩ := hf
  cases hp : aj m b.Parent with
  | none => simp only [eU, h, hp] at h1; cases h1
  | some p =>
   simp only [eU, h, hp] at h2;refine ⟨b, p, hb, by rw [hm]; exact hp, by rw [hslot _ _ hp]; omega, ?_⟩;rw [hm];rcases Option.eq_none_or_eq_some (aj m (nm b)) with h5 | ⟨i, h5⟩
   ·exact h5
   ·exfalso;simp only [na, h, h5, Option.getD_some] at h4;rcases pT h h5 with ⟨-, e⟩ | ⟨c, h0, -⟩
    ·exact h3 e
    ·omega
def aP (B : List Bk) (id : ID) : Option Int := if id = (0, 0) then some 0 else (B.find? fun b => decide (nm b = id)).map Bk.Slot
theorem qb (B : List Bk) (b : Bk) (id : ID) : aP (B ++ [b]) id = (aP B id).or (if nm b = id then some b.Slot else none) := by
 unfold aP;by_cases h : id = (0, 0)
 ·rw [if_pos h, if_pos h]; rfl
 ·rw [if_neg h, if_neg h, List.find?_append]
  cases B.find? fun b => decide (nm b = id) with
  | some x => rfl
  | none =>
   by_cases h2 : nm b = id
   ·simp [h2]
   ·simp [h2]
theorem ju {B : List Bk} {id : ID} {s : Int} (h : aP B id = some s) (t : List Bk) : aP (B ++ t) id = some s := by
 unfold aP at h ⊢;by_cases h0 : id = (0, 0)
 ·rw [if_pos h0] at h ⊢; exact h
 ·rw [if_neg h0] at h ⊢;rw [List.find?_append]
  cases hf : B.find? fun b => decide (nm b = id) with
  | some x => rw [hf] at h; exact h
  | none => rw [hf] at h; cases h
theorem nE {B : List Bk} {id : ID} {s : Int} (h : aP B id = some s) : (id = (0, 0) ∧ s = 0) ∨ (id ≠ (0, 0) ∧ ∃ b ∈ B, nm b = id ∧ b.Slot = s) := by
 unfold aP at h;by_cases h0 : id = (0, 0)
 ·rw [if_pos h0] at h; cases h; exact .inl ⟨h0, rfl⟩
 ·rw [if_neg h0] at h
  cases hf : B.find? fun b => decide (nm b = id) with
  | none => rw [hf] at h; cases h
  | some x =>
   rw [hf] at h;cases h;exact .inr ⟨h0, x, List.mem_of_find?_eq_some hf, (by simpa using List.find?_some hf), rfl⟩
theorem qc {B : List Bk} {b : Bk} (h : b ∈ B) : ∃ s, aP B (nm b) = some s := by
 unfold aP;by_cases h0 : nm b = (0, 0)
 ·rw [if_pos h0]; exact ⟨_, rfl⟩
 ·rw [if_neg h0]
  cases hf : B.find? fun q => decide (nm q = nm b) with
  | some x => exact ⟨_, rfl⟩
  | none =>
   rw [List.find?_eq_none] at hf;have := hf b h;simp at this
def bE (B : List Bk) : Prop := (places B).isSome = true
theorem yM : bE [] := rfl
theorem mJ {l : List Bk} {m : List (ID × Int)} (h : places l = some m) (id : ID) : aP l id = (aj m id).map (bW l) := by
 have hI := bh h;unfold aP;by_cases h0 : id = (0, 0)
 ·rw [if_pos h0, h0, hI.zero]; simp [bW]
 ·rw [if_neg h0]
  cases hf : aj m id with
  | none =>
   cases hq : l.find? fun b => decide (nm b = id) with
   | none => rfl
   | some b =>
    exfalso;have hb := List.mem_of_find?_eq_some hq
    have hn : nm b = id := by simpa using List.find?_some hq
    obtain ⟨i, hi⟩ := List.getElem?_of_mem hb;have := hI.names i b (List.getElem?_eq_some_iff.1 hi).1 hi;rw [hn, hf] at this; cases this
  | some i =>
   rcases hI.known _ _ hf with ⟨-, h1⟩ | ⟨b, p, h1, h2, h3, h4, -⟩
   ·exact absurd h1 h0
   ·cases hq : l.find? fun b => decide (nm b = id) with
    | none =>
     rw [List.find?_eq_none] at hq;have := hq b (List.mem_of_getElem? h3);simp [h4] at this
    | some b' =>
     have hb := List.mem_of_find?_eq_some hq
     have hn : nm b' = id := by simpa using List.find?_some hq
     obtain ⟨j, hj⟩ := List.getElem?_of_mem hb;have := hI.names j b' (List.getElem?_eq_some_iff.1 hj).1 hj;rw [hn, hf] at this;cases this;simp [bW, hj, show ¬ (j : Int) = -1 by omega]
theorem rx {l : List Bk} {m : List (ID × Int)} (h : places l = some m) (id : ID) : eU l id = match aP l id with | some s => (s, true) | none => (0, false) := by
 rw [mJ h];unfold eU;rw [h];simp only;cases aj m id <;> rfl
theorem Bf {l : List Bk} {m : List (ID × Int)} (h : places l = some m) (id : ID) : (¬ id = (0, 0) ∧ na l id < 0) ↔ aP l id = none := by
 rw [mJ h];unfold na;rw [h];simp only
 cases hf : aj m id with
 | none =>
  refine ⟨fun _ => rfl, fun _ => ⟨fun e => ?_, by simp⟩⟩;rw [e, (bh h).zero] at hf; cases hf
 | some i =>
  refine ⟨fun h1 => ?_, fun h1 => by cases h1⟩;rcases (bh h).known _ _ hf with ⟨-, h2⟩ | ⟨_, _, h2, -⟩
  ·exact absurd h2 h1.1
  ·have := h1.2; simp at this; omega
theorem qt {B : List Bk} {b : Bk} : bE (B ++ [b]) ↔ bE B ∧ (∃ s, aP B b.Parent = some s ∧ s < b.Slot) ∧ aP B (nm b) = none := by
 have key : ∀ {m}, places B = some m → (bE (B ++ [b]) ↔ (∃ s, aP B b.Parent = some s ∧ s < b.Slot) ∧ aP B (nm b) = none) := by
  intro m hm;unfold bE;rw [BC hm, ← Bf hm];unfold w7;rw [rx hm]
  cases aP B b.Parent with
  | none => simp
  | some s => simp [and_assoc]
 cases hm : places B with
 | some m =>
  rw [key hm];exact ⟨fun h => ⟨by unfold bE; rw [hm]; rfl, h⟩, fun h => h.2⟩
 | none =>
  have hno : ¬ bE B := by unfold bE; rw [hm]; simp
  refine ⟨fun h => absurd ?_ hno, fun h => absurd h.1 hno⟩;have := un (k := B.length) h (by simp)
  rwa [List.take_left' rfl] at this
theorem wo {B : List Bk} (h : bE B) (k : Nat) : bE (B.take k) := by
 by_cases hk : k ≤ B.length
 ·exact un h hk
 ·rw [List.take_of_length_le (by omega)]; exact h
theorem uW {B : List Bk} (h : bE B) : ((0, 0) :: B.map nm).Nodup := by
 obtain ⟨m, hm⟩ := Option.isSome_iff_exists.1 h;exact ur hm
theorem wn {B : List Bk} (h : bE B) {b : Bk} (hb : b ∈ B) : aP B (nm b) = some b.Slot := by
 obtain ⟨s, hs⟩ := qc hb;have hn := uW h;rw [List.nodup_cons] at hn;rcases nE hs with ⟨h0, -⟩ | ⟨-, b', hb', he, hs'⟩
 ·exact absurd (h0 ▸ List.mem_map.2 ⟨b, hb, rfl⟩) hn.1
 ·have : b' = b := by
   obtain ⟨i, hi⟩ := List.getElem?_of_mem hb;obtain ⟨j, hj⟩ := List.getElem?_of_mem hb'
   have hi' : (B.map nm)[i]? = some (nm b) := by rw [List.getElem?_map, hi]; rfl
   have hj' : (B.map nm)[j]? = some (nm b) := by rw [List.getElem?_map, hj, ← he]; rfl
   have := (List.getElem?_inj (List.getElem?_eq_some_iff.1 hi').1 hn.2).1 (hi'.trans hj'.symm);subst this;rw [hi] at hj; exact (Option.some.inj hj).symm
  rw [hs, ← hs', this]
def uN : List Bk → List (ID × Int) → List (ID × Int)
 | [], m => m
 | b :: r, m => uN r (aN m (nm b) b.Slot)
def lR (B : List Bk) : List (ID × Int) := uN B [((0, 0), 0)]
def ub : List Vt → List (Vt × Bool) → List (Vt × Bool)
 | [], m => m
 | v :: r, m => ub r (aN m v true)
def jP (V : List Vt) : List (Vt × Bool) := ub V []
theorem rA (b : Bk) : ∀ (B : List Bk) (m), uN (B ++ [b]) m = aN (uN B m) (nm b) b.Slot
 | [], _ => rfl
 | _ :: r, _ => rA b r _
theorem rg (v : Vt) : ∀ (V : List Vt) (m), ub (V ++ [v]) m = aN (ub V m) v true
 | [], _ => rfl
 | _ :: r, _ => rg v r _
theorem rC (B : List Bk) (b : Bk) : lR (B ++ [b]) = aN (lR B) (nm b) b.Slot := rA b B _
theorem ri (V : List Vt) (v : Vt) : jP (V ++ [v]) = aN (jP V) v true := rg v V _
theorem mI {α β : Type} [DecidableEq α] (m : List (α × β)) (k : α) (v : β) : (aN m k v).length = if (aj m k).isSome then m.length else m.length + 1 := by
 induction m with
 | nil => simp [aN, aj]
 | cons p r ih =>
  obtain ⟨a, b⟩ := p;by_cases h : a = k
  ·simp [aN, aj, h]
  ·cases hf : aj r k <;> simp [aN, aj, h, hf] at ih ⊢ <;> exact ih
theorem BT (B : List Bk) : (lR B).length ≤ B.length + 1 := by
 unfold lR
 have : ∀ (B : List Bk) (m : List (ID × Int)), (uN B m).length ≤ B.length + m.length := by
  intro B
  induction B with
  | nil => intro m; simp [uN]
  | cons b r ih =>
   intro m;have h1 := ih (aN m (nm b) b.Slot);have h2 := mI m (nm b) b.Slot;unfold uN;simp only [List.length_cons];split at h2 <;> omega
 have := this B [((0, 0), 0)];simpa using this
theorem rB {B : List Bk} (h : bE B) : ∀ id, aj (lR B) id = aP B id := by
 have key : ∀ k, k ≤ B.length → ∀ id, aj (lR (B.take k)) id = aP (B.take k) id := by
  intro k
  induction k with
  | zero =>
   intro _ id;simp only [List.take_zero];unfold lR uN aP aj aj;by_cases e : id = (0, 0)
   ·simp [e]
   ·simp [e, Ne.symm e]
  | succ k ih =>
   intro hk id;obtain ⟨b, hb, -⟩ := aA (l := B) (n := k) (by omega);have hv := wo h (k + 1);rw [aS hb] at hv ⊢;rw [qt] at hv;rw [rC, fw, qb, ih (by omega)];by_cases e : nm b = id
   ·rw [if_pos e, if_pos e, ← e, hv.2.2]; rfl
   ·rw [if_neg e, if_neg e]; cases aP (B.take k) id <;> rfl
 have := key B.length (Nat.le_refl _)
 rwa [List.take_length] at this
theorem rh (V : List Vt) (v : Vt) : aj (jP V) v = if v ∈ V then some true else none := by
 have : ∀ (V : List Vt) (m : List (Vt × Bool)), aj (ub V m) v = if v ∈ V then some true else aj m v := by
  intro V
  induction V with
  | nil => intro m; simp [ub]
  | cons x r ih =>
   intro m;unfold ub;rw [ih, fw];by_cases h : v ∈ r
   ·simp [h]
   ·by_cases h2 : x = v
    ·simp [h2]
    ·simp [h, h2, Ne.symm h2]
 rw [jP, this]; rfl
theorem uc (V : List Vt) : (jP V).length ≤ V.length ∧ ((jP V).length = V.length ↔ V.Nodup) := by
 have key : ∀ k, k ≤ V.length → (jP (V.take k)).length ≤ k ∧ ((jP (V.take k)).length = k ↔ (V.take k).Nodup) := by
  intro k
  induction k with
  | zero => intro _; simp [jP, ub]
  | succ k ih =>
   intro hk;obtain ⟨v, hv, -⟩ := aA (l := V) (n := k) (by omega);obtain ⟨h1, h2⟩ := ih (by omega);rw [aS hv, ri, mI, rh, List.nodup_append];by_cases hm : v ∈ V.take k
   ·rw [if_pos hm];refine ⟨by simp; omega, ⟨fun e => by simp at e; omega, fun h => absurd Z (h.2.2 v hm v (by simp))⟩⟩
   ·rw [if_neg hm];refine ⟨by simp; omega, ⟨fun e => ⟨h2.1 (by simp at e; omega), by simp, fun a ha b hb => by rw [List.mem_singleton] at hb; subst hb; exact fun q => hm (q ▸ ha)⟩, fun h => ?_⟩⟩;have := h2.2 h.1;simp; omega
 have := key V.length (Nat.le_refl _)
 rwa [List.take_length] at this
theorem wH {w : Vw} {u : Int} (h1 : w.B.length ≤ 90000) (h2 : w.V.length ≤ 90000) : xF w u = some (lR w.B, jP w.V) := by
 unfold xF;rw [aF (by omega) (by omega), ct, aF (by omega) (by omega), ct]
 have e1 := ay (step := ks w) (n := w.B.length) (fun k => eK.mk (k : Int) (lR (w.B.take k))) (eK.mk (w.B.length : Int) (lR w.B)) (fun k hk => by
  obtain ⟨y, hy, -⟩ := aA hk;unfold ks;simp only
  rw [decide_eq_true (show (k : Int) < (w.B.length : Int) by omega), ct, aB hy, ob, aS hy, rC, ak (n := k) (by omega)]) (by
  unfold ks;simp only
  rw [decide_eq_false (show ¬ (w.B.length : Int) < (w.B.length : Int) by omega), cf, List.take_length]) (by omega)
 have e1' : iter (ks w) bG (eK.mk 0 (aN [] (0, 0) 0)) = some (eK.mk (w.B.length : Int) (lR w.B)) := e1
 have e2 := ay (step := kt w) (n := w.V.length) (fun k => eM.mk (k : Int) (jP (w.V.take k))) (eM.mk (w.V.length : Int) (jP w.V)) (fun k hk => by
  obtain ⟨y, hy, -⟩ := aA hk;unfold kt;simp only
  rw [decide_eq_true (show (k : Int) < (w.V.length : Int) by omega), ct, aB hy, ob, aS hy, ri, ak (n := k) (by omega)]) (by
  unfold kt;simp only
  rw [decide_eq_false (show ¬ (w.V.length : Int) < (w.V.length : Int) by omega), cf, List.take_length]) (by omega)
 have e2' : iter (kt w) bG (eM.mk 0 []) = some (eM.mk (w.V.length : Int) (jP w.V)) := e2;rw [e1', ob, e2', ob]
def forB (B : List Bk) (v : Vt) : Prop := ∃ s, aP B v.Head = some s ∧ s ≤ v.Slot
def tu (sm : List (ID × Int)) (v : Vt) : Bool := match aj sm v.Head with
 | none => true
 | some s => decide (s > v.Slot)
theorem CC (v : Vt) (sm : List (ID × Int)) : zj v sm = some (tu sm v) := by
 unfold zj tu
 cases aj sm v.Head with
 | none => rfl
 | some s => rfl
def q5 (sm : List (ID × Int)) (l : List Vt) (j : Nat) : Option Int := match l[j]? with
 | some v => if tu sm v = true then some (j : Int) else none
 | none => none
theorem CD {l : List Vt} (hl : l.length ≤ 90000) (sm : List (ID × Int)) : zu l sm = some (l.any (tu sm)) := by
 have e := eF (step := iu l sm) (n := l.length) (fun k => dY.mk (k : Int)) (q5 sm l) (fun j hj => by
  obtain ⟨y, hy, -⟩ := aA hj;unfold iu q5;simp only;rw [decide_eq_true (show (j : Int) < (l.length : Int) by omega), ct, aB hy, ob, CC, ob, ak (n := j) (by omega), hy];simp only
  cases tu sm y with
  | true => rw [ct, if_pos rfl]
  | false => rw [cf, if_neg (by simp)]) (by
  unfold iu;simp only
  rw [decide_eq_false (show ¬ (l.length : Int) < (l.length : Int) by omega), cf]) (by omega)
 unfold zu wK;have e' : iter (iu l sm) bG (dY.mk 0) = some (lb (dY.mk (l.length : Int)) (cy (q5 sm l) 0 l.length)) := e;rw [e', ob]
 cases h : cy (q5 sm l) 0 l.length with
 | none =>
  rw [lb, sl, ob];rw [fx] at h;congr 1;rw [show decide ((-1 : Int) ≥ 0) = false from rfl];symm;rw [List.any_eq_false];intro v hv;obtain ⟨j, hj⟩ := List.getElem?_of_mem hv;have := h j (Nat.zero_le _) (by have := (List.getElem?_eq_some_iff.1 hj).1; omega);unfold q5 at this;rw [hj] at this;simp only at this;intro hb;rw [if_pos hb] at this; cases this
 | some r =>
  obtain ⟨j, -, -, h3, -⟩ := dK h;unfold q5 at h3;split at h3
  ·rename_i v hv;split at h3
   ·rename_i hb;cases h3;rw [lb, sr, ob, decide_eq_true (show (j : Int) ≥ 0 by omega)];congr 1;symm;rw [List.any_eq_true];exact ⟨v, List.mem_of_getElem? hv, hb⟩
   ·cases h3
  ·cases h3
structure fd (c : Cf) (w : Vw) : Prop where
 conf : dB c
 valid : bE w.B
 lenB : w.B.length ≤ 60
 lenV : w.V.length ≤ 240
 mayB : ∀ b ∈ w.B, mayB c b = true
 mayV : ∀ v ∈ w.V, mayV c v = true
 nodup : w.V.Nodup
 forB : ∀ v ∈ w.V, forB w.B v
open Classical in
theorem ED {c : Cf} {w : Vw} (h1 : w.B.length ≤ 1000) (h2 : w.V.length ≤ 1000) : F9 c w = some (decide (fd c w)) := by
 have hno : ∀ h : ¬ fd c w, decide (fd c w) = false := fun h => decide_eq_false h;unfold F9;rw [ln, ob];by_cases c1 : dB c
 ·rw [decide_eq_true c1, Bool.not_true, cf, Ax, ob];by_cases c2 : bE w.B
  ·rw [show (places w.B).isSome = true from c2, Bool.not_true, cf];by_cases c3 : w.B.length ≤ 60
   ·rw [decide_eq_false (show ¬ (w.B.length : Int) > 60 by omega), cf, ob];by_cases c4 : w.V.length ≤ 240
    ·rw [decide_eq_false (show ¬ (w.V.length : Int) > 240 by omega), cf, AC (by omega) (by omega), ob]
     have hfB : (aY c w).B.length = w.B.length ↔ ∀ b ∈ w.B, mayB c b = true := by unfold aY; exact List.length_filter_eq_length_iff
     have hfV : (aY c w).V.length = w.V.length ↔ ∀ v ∈ w.V, mayV c v = true := by unfold aY; exact List.length_filter_eq_length_iff
     by_cases c5 : ∀ b ∈ w.B, mayB c b = true
     ·rw [show (((aY c w).B.length : Int) != (w.B.length : Int)) = false by rw [hfB.2 c5]; simp, cf, ob];by_cases c6 : ∀ v ∈ w.V, mayV c v = true
      ·have hm := uc w.V;rw [show (((aY c w).V.length : Int) != (w.V.length : Int)) = false by rw [hfV.2 c6]; simp, cf, wH (by omega) (by omega), ob, show pz (jP w.V) = true from decide_eq_true (by omega), ct];by_cases c7 : w.V.Nodup
       ·rw [show (((jP w.V).length : Int) == (w.V.length : Int)) = true by rw [hm.2.2 c7]; simp, ct, CD (by omega), ob];congr 1
        have hbad : ∀ v, tu (lR w.B) v = false ↔ Go.Mg.forB w.B v := by
         intro v;unfold tu Go.Mg.forB;rw [rB c2]
         cases aP w.B v.Head with
         | none => simp
         | some s => simp
        cases ha : w.V.any (tu (lR w.B)) with
        | true =>
         obtain ⟨v, hv, hb⟩ := List.any_eq_true.1 ha;symm;refine hno fun h => ?_;have := (hbad v).2 (h.forB v hv);rw [hb] at this; cases this
        | false =>
         rw [List.any_eq_false] at ha;symm;exact decide_eq_true ⟨c1, c2, c3, c4, c5, c6, c7, fun v hv => (hbad v).1 (by have := ha v hv; simpa using this)⟩
       ·rw [show (((jP w.V).length : Int) == (w.V.length : Int)) = false by
         rw [beq_eq_false_iff_ne]; intro e; exact c7 (hm.2.1 (by omega)), cf, hno fun h => c7 h.nodup]
      ·rw [show (((aY c w).V.length : Int) != (w.V.length : Int)) = true by
        rw [bne_iff_ne]; intro e; exact c6 (hfV.1 (by omega)), ct, hno fun h => c6 h.mayV]
     ·rw [show (((aY c w).B.length : Int) != (w.B.length : Int)) = true by
       rw [bne_iff_ne]; intro e; exact c5 (hfB.1 (by omega)), ct, ob, ct, hno fun h => c5 h.mayB]
    ·rw [decide_eq_true (show (w.V.length : Int) > 240 by omega), ct, hno fun h => c4 h.lenV]
   ·rw [decide_eq_true (show (w.B.length : Int) > 60 by omega), ct, ob, ct, hno fun h => c3 h.lenB]
  ·rw [show (places w.B).isSome = false from by unfold bE at c2; simpa using c2, Bool.not_false, ct, ob, ct, hno fun h => c2 h.valid]
 ·rw [decide_eq_false c1, Bool.not_false, ct, ob, ct, hno fun h => c1 h.conf]
end Go.Mg
