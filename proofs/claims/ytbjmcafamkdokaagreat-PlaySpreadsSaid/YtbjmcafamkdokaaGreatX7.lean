/- Products of numbers. What is confirmed. view.May. view.Take. A node at a tick: what it hears, counts, and stands by. A node behind a tick. A world once more. Conditions: none. -/
import Derived.Test.YtbjmcafamkdokaaGreatX3
import Derived.Test.YtbjmcafamkdokaaGreatX5
import Derived.Test.YtbjmcafamkdokaaGreatX6
import Derived.Test.YtbjmcafamkdokaaGreatX4
set_option maxRecDepth 100000
set_option linter.unusedSimpArgs false
set_option linter.unusedVariables false
namespace Go.Mg
open Go.Proofs
def sI (x : Int) (y : Int) : Option (Int × Int) :=
 some (IntKind.u64.wrap ((IntKind.u64.wrap ((IntKind.u64.wrap ((x.fdiv (2 ^ (min (Int.toNat 32) IntKind.u64.bits))) * (y.fdiv (2 ^ (min (Int.toNat 32) IntKind.u64.bits))))) + ((IntKind.u64.wrap ((IntKind.u64.wrap ((x.fdiv (2 ^ (min (Int.toNat 32) IntKind.u64.bits))) * (bits .and .u64 y 4294967295))) + ((IntKind.u64.wrap ((bits .and .u64 x 4294967295) * (bits .and .u64 y 4294967295))).fdiv (2 ^ (min (Int.toNat 32) IntKind.u64.bits))))).fdiv (2 ^ (min (Int.toNat 32) IntKind.u64.bits))))) + ((IntKind.u64.wrap ((bits .and .u64 (IntKind.u64.wrap ((IntKind.u64.wrap ((x.fdiv (2 ^ (min (Int.toNat 32) IntKind.u64.bits))) * (bits .and .u64 y 4294967295))) + ((IntKind.u64.wrap ((bits .and .u64 x 4294967295) * (bits .and .u64 y 4294967295))).fdiv (2 ^ (min (Int.toNat 32) IntKind.u64.bits))))) 4294967295) + (IntKind.u64.wrap ((bits .and .u64 x 4294967295) * (y.fdiv (2 ^ (min (Int.toNat 32) IntKind.u64.bits))))))).fdiv (2 ^ (min (Int.toNat 32) IntKind.u64.bits)))), IntKind.u64.wrap (x * y))
theorem Gq {x : Int} {y : Int} {r_ : Int × Int} (hr : sI x y = some r_) : az Tryz.prog 158 [.int .u64 x, .int .u64 y] [.int .u64 r_.1, .int .u64 r_.2] := by
 refine zh Tryz.func158 Z Z Z Z ?_;unfold sI at hr;refine zQ<|zR<|zM Z<|zM Z<|zN<|zT<|zQ<|zR<|zM Z<|yS Z (aw Z Z Z Z)<|zM Z<|zN<|zT<|zQ<|zR<|zM Z<|yS Z (ab.shr Z Z Z (by decide))<|zM Z<|zN<|zT<|zQ<|zR<|zM Z<|yS Z (aw Z Z Z Z) ?_;refine zM Z<|zN<|zT<|zQ<|zR<|zM Z<|yS Z (ab.shr Z Z Z (by decide))<|zM Z<|zN<|zT<|zQ<|zR<|zM Z<|zM Z<|yS Z (aw Z Z Z Z)<|zM Z<|zN<|zT<|zQ<|zR<|zM Z<|zM Z<|yS Z (aw Z Z Z Z)<|zM Z ?_;refine yS Z (ab.shr Z Z Z (by decide))<|yS Z (aw Z Z Z Z)<|zM Z<|zN<|zT<|zQ<|zR<|zM Z<|yS Z (aw Z Z Z Z)<|zM Z<|zN<|zT<|zQ<|zR<|zM Z<|yS Z (ab.shr Z Z Z (by decide))<|zM Z<|zN<|zT<|zQ<|zR<|zM Z<|zM Z<|zM Z ?_;refine yS Z (aw Z Z Z Z)<|yS Z (aw Z Z Z Z)<|zM Z<|zN<|zT<|zQ<|zR<|zM Z<|zM Z<|yS Z (aw Z Z Z Z)<|zM Z<|yS Z (aw Z Z Z Z)<|zM Z<|yS Z (ab.shr Z Z Z (by decide))<|yS Z (aw Z Z Z Z)<|zM Z<|zN<|zT<|zQ<|zR<|zM Z<|zM Z<|yS Z (aw Z Z Z Z)<|zM Z ?_;refine zN<|zT<|zr ?_;obtain rfl := zJ hr;exact zf (.two (.tmp Z) (.tmp Z))<|⟨_, rfl, (.cons zv (.cons zv .nil))⟩
def sF (a : Int) (b : Int) : Option ID :=
 (sI (IntKind.u64.wrap (a)) (IntKind.u64.wrap (b))).bind fun v1 =>
 some v1
theorem DN {a : Int} {b : Int} {r_ : ID} (hr : sF a b = some r_) : az Tryz.prog 116 [.int .i64 a, .int .i64 b] [cv r_] := by
 refine zh Tryz.func116 Z Z Z Z ?_;unfold sF at hr;refine zQ<|zR<|yS Z (ze Z ww Z Z)<|zN<|zT<|zQ<|zR<|zM Z<|yS Z (ab.convert (k' := .u64) Z Z (by kernel_rfl))<|zM Z<|yS Z (ab.convert (k' := .u64) Z Z (by kernel_rfl))<|zb hr fun v1 h_v1 hr => yS Z (zC Z Z Z (by kernel_rfl) (zp (Gq h_v1) (.cons zv (.cons zv .nil))))<|zM Z<|yS Z (ed Z Z Z)<|yS Z (ed Z Z Z)<|zM Z<|zM Z<|zN<|zT<|zQ<|zR<|zM Z<|zM Z ?_;refine yS Z (ab.build Z EP Z Z Z)<|yS Z (zs Z Z Z Z qv Z Z Z Z)<|zN<|zT<|zr ?_;obtain rfl := zJ hr;exact zf (.one (.cellAgg Z Z (by kernel_rfl) Z)) zv
def sH (n : Int) : Option Bool :=
 bif decide (n ≥ 0) then
  some (decide (n ≤ 4611686018427387904))
 else
  some false
theorem Gp {n : Int} {r_ : Bool} (hr : sH n = some r_) : az Tryz.prog 157 [.int .i64 n] [.bool r_] := by
 refine zh Tryz.func157 Z Z Z Z ?_;unfold sH at hr;refine zQ<|zR<|zM Z<|zN<|zT<|zQ<|zR<|zM Z<|yS Z (aw Z Z Z Z)<|zM Z ?_;refine zc 5 Z (fun g1 => ?_)<|fun g1 => ?_
 ·
  refine zi g1 hr fun hr => yV Z (gd g1 Z) (zm Z Z)<|yV Z (gd g1 Z) (aw Z Z Z Z)<|yS Z (cS Z (a8 g1 Z) Z)<|zM Z<|zN<|zT<|zr ?_;obtain rfl := zJ hr;exact zf (.one (.tmp Z)) zv
 ·
  refine zo g1 hr fun hr => yU Z (gd g1 Z) Z<|yU Z (gd g1 Z) Z<|yS Z (bN Z (a8 g1 Z) Z)<|zM Z<|zN<|zT<|zr ?_;obtain rfl := zJ hr;exact zf (.one (.tmp Z)) zv
def wz (n : Int) : Option Bool :=
 (sH n).bind fun v1 =>
 some (!v1)
theorem Gn {n : Int} {r_ : Bool} (hr : wz n = some r_) : az Tryz.prog 156 [.int .i64 n] [.bool r_] := by
 refine zh Tryz.func156 Z Z Z Z ?_;unfold wz at hr;refine zQ<|zR<|zM Z<|zN<|zT<|zQ<|zR<|zM Z<|zb hr fun v1 h_v1 hr => yS Z (zC Z Z Z (by kernel_rfl) (zp (Gp h_v1) (.cons zv .nil)))<|yS Z (ab.not Z Z)<|zM Z<|zN<|zT<|zr ?_;obtain rfl := zJ hr;exact zf (.one (.tmp Z)) zv
structure fi where
 t8 : Int
def kL (s : List Int) (x1 : fi) : Option (fi ⊕ (fi ⊕ Int)) :=
 bif decide (x1.t8 < (s.length : Int)) then
  (ix s x1.t8).bind fun y1 =>
  (wz y1).bind fun v2 =>
  bif v2 then
   some (.inr (.inr x1.t8))
  else
   some (.inl (fi.mk (IntKind.i64.wrap (x1.t8 + 1))))
 else
  some (.inr (.inl (fi.mk x1.t8)))
def CW (s : List Int) : Option Int :=
 (iter (kL s) bG (fi.mk 0)).bind fun b_v1 => Sum.elim (fun _ =>
  some (-1)) some b_v1
theorem Hh {s : List Int} {r_ : Int} (hr : CW s = some r_) : LC Tryz.prog 173 [(kI s), .fn 156 [] []] [] (Is (iQ r_) []) := by
 refine dA Tryz.func173 Z Z Z ?_;unfold CW at hr;refine zQ<|zR<|zM Z<|zN<|zT<|zQ<|zQ<|zR<|zM Z<|yS Z (cP Z Z (by kernel_rfl))<|zM Z<|zN<|zT ?_;obtain ⟨b_v1, hb_v1, ho_v1⟩ := zB hr;clear hr;refine LW.tailB (b := b_v1) (E := fun v1 => [(4, (iQ 0))]) (O := fun v1 => []) ?_<|fun v1 e_v1 env_v1 H_v1 hw_v1 => ?_
 ·refine LW.block ?_;refine LW.iterB (E := fun x1 : fi => [(0, (kI s)), (1, .fn 156 [] []), (4, (iQ 0)), (7, .p (.int .i64 (s.length : Int))), (8, (iQ x1.t8))]) (O := fun x1 => []) hb_v1 (zW 0 ⟨rfl, rfl, rfl, rfl, rfl, trivial⟩ Z Z Z Z)<|fun x1 z_x1 hr hb_x1 => ?_;unfold kL at hr;refine zQ<|zR<|yS Z (aw Z Z Z Z)<|zN<|zT<|zQ ?_;refine zX Z (fun g1 => ?_)<|fun g1 => ?_
  ·
   refine zi g1 hr fun hr => zk<|zT<|zQ<|zl<|zQ<|zR<|zM Z<|zM Z<|zN<|zT<|zQ<|zR<|zM Z<|zM Z<|zM Z<|zb hr fun y1 h_y1 hr => yS Z (zx Z Z Z gL h_y1 Z)<|yS Z (dj Z Z Z bl Z Z)<|zb hr fun v2 h_v2 hr => yS Z (zC Z Z Z (by kernel_rfl) (zp (Gn h_v2) (.cons zv .nil)))<|zN<|zT ?_;refine zX Z (fun g2 => ?_)<|fun g2 => ?_
   ·
    refine zi g2 hr fun hr => zQ<|zR<|zM Z<|zM Z<|zN<|zT<|zr<|aq<|af<|af<|aq<|af<|af ?_;obtain rfl := zJ hr;have hr := congrArg some (hb_x1 _ rfl);obtain rfl := zJ hr;have hr := da ho_v1;obtain rfl := zJ hr;exact ap (.one (.tmp Z))<|⟨rfl, rfl⟩
   ·
    refine zo g2 hr fun hr => zk<|ah<|zT<|zR<|yS Z (aw Z Z Z Z)<|zM Z<|zN<|zT ?_;obtain rfl := zJ hr;exact ⟨_, rfl, zW 0 ⟨rfl, rfl, rfl, rfl, rfl, trivial⟩ Z Z Z rfl⟩
  ·
   refine zo g1 hr fun hr => zq<|ao<|ao<|zy<|zT ?_;obtain rfl := zJ hr;have hr := congrArg some (hb_x1 _ rfl);obtain rfl := zJ hr;exact ⟨_, rfl, zW 0 ⟨rfl, trivial⟩ Z Z Z rfl⟩
 ·obtain rfl := e_v1;have hr := eG ho_v1;clear hb_v1;refine zT<|LW.weak hw_v1<|zQ<|zR<|zM Z<|zN<|zT<|zr ?_;obtain rfl := zJ hr;exact ap (.one (.tmp Z))<|⟨rfl, rfl⟩
def IB (s : List Int) : Option Bool :=
 (CW s).bind fun v1 =>
 some (decide (v1 ≥ 0))
theorem Jo {s : List Int} {r_ : Bool} (hr : IB s = some r_) : LC Tryz.prog 155 [(kI s), .fn 156 [] []] [] (Is (bQ r_) []) := by
 refine dA Tryz.func155 Z Z Z ?_;unfold IB at hr;refine zQ<|zR<|zM Z<|zN<|zT<|zQ<|zR<|zM Z<|zM Z<|zb hr fun v1 h_v1 hr => yS Z (zC Z Z Z (by kernel_rfl) (Hh h_v1))<|yS Z (aw Z Z Z Z)<|zM Z<|zN<|zT<|zr ?_;obtain rfl := zJ hr;exact ap (.one (.tmp Z))<|⟨rfl, rfl⟩
def sE (l : List Int) : Option Bool :=
 (IB l).bind fun v1 =>
 some (!v1)
theorem Gm {l : List Int} {r_ : Bool} (hr : sE l = some r_) : az Tryz.prog 115 [.slice 1 (l.map aC)] [.bool r_] := by
 refine zh Tryz.func115 Z Z Z Z ?_;unfold sE at hr;refine zQ<|zR<|zM Z<|zN<|zT<|zQ<|zR<|zM Z<|zb hr fun v1 h_v1 hr => yS Z (zC Z Z Z (by kernel_rfl) (Jo h_v1))<|yS Z (ab.not Z Z)<|zM Z<|zN<|zT<|zr ?_;obtain rfl := zJ hr;exact zf (.one (.tmp Z)) zv
def sD (a : Int) (b : Int) (c : Int) (d : Int) : Option Bool :=
 (sE [a, b, c, d]).bind fun v1 =>
 bif !v1 then
  some false
 else
  (sF a b).bind fun v2 =>
  (sF c d).bind fun v3 =>
  bif !((v2.1 == v3.1) && ((v2.2 == v3.2) && true)) then
   (xG [v2.1, v2.2] [v3.1, v3.2]).bind fun v4 =>
   some (decide (v4 > 0))
  else
   some false
theorem Gl {a : Int} {b : Int} {c : Int} {d : Int} {r_ : Bool} (hr : sD a b c d = some r_) : az Tryz.prog 62 [.int .i64 a, .int .i64 b, .int .i64 c, .int .i64 d] [.bool r_] := by
 refine zh Tryz.func62 Z Z Z Z ?_;unfold sD at hr;refine zQ<|zR<|zM Z<|zN<|zT<|zQ<|zQ<|zR<|zM Z<|zM Z<|zM Z<|zM Z<|yS Z (lY Z gL Z Z Z Z Z)<|zb hr fun v1 h_v1 hr => yS Z (zC Z Z Z (by kernel_rfl) (zp (Gm h_v1) (.cons zv .nil)))<|yS Z (ab.not Z Z)<|zN<|zT ?_;refine zX Z (fun g1 => ?_)<|fun g1 => ?_
 ·
  refine zi g1 hr fun hr => zQ<|zR<|zM Z<|zN<|zT<|zr<|af ?_;obtain rfl := zJ hr;exact zf (.one (.tmp Z)) zv
 ·
  refine zo g1 hr fun hr => zk<|zT<|zQ<|zR<|zM Z<|zM Z<|zb hr fun v2 h_v2 hr => yS Z (zC Z Z Z (by kernel_rfl) (zp (DN h_v2) (.cons zv (.cons zv .nil))))<|zM Z<|zM Z<|zb hr fun v3 h_v3 hr => yS Z (zC Z Z Z (by kernel_rfl) (zp (DN h_v3) (.cons zv (.cons zv .nil))))<|yS Z (ze Z ww Z Z)<|yS Z (ze Z ww Z Z)<|yS Z (zs Z Z Z Z qv Z Z Z Z)<|yS Z (zs Z Z Z Z qv Z Z Z Z)<|zN<|zT<|zQ<|LW.draw2 (by kernel_rfl) (by kernel_rfl)<|yE Z (zD Z Z Z qv Z Z)<|yE Z (zD Z Z Z qv Z Z)<|yE Z (ab.neqAgg Z Z Z Z Z Dn) ?_;refine zH Z ?_;refine LO.cases 27 Z (fun (g2 : (!((v2.1 == v3.1) && ((v2.2 == v3.2) && true))) = true) => ?_) (fun (g2 : (!((v2.1 == v3.1) && ((v2.2 == v3.2) && true))) = false) => ?_)
  ·
   refine zi g2 hr fun hr => LO.gd Z Z Z (gd g2 Z) Z (ab.sliceBox Z Z AR Z Z Z)<|LO.gd Z Z Z (gd g2 Z) Z (ab.sliceBox Z Z AR Z Z Z)<|zb hr fun v4 h_v4 hr => LO.gd Z Z Z (gd g2 Z) Z (zC Z Z Z (by kernel_rfl) (LC.lend (Gz h_v4) (.cons (Conv.boxSlice Z Z Z Z) (.cons (Conv.boxSlice Z Z Z Z) .nil)) Z))<|LO.gd Z Z Z (gd g2 Z) Z (aw Z Z Z Z)<|yE Z (cS Z (a8 g2 Z) Z)<|zH Z<|LO.nil<|zT<|zr ?_;obtain rfl := zJ hr;exact zf (.one (.tmp Z)) zv
  ·
   refine zo g2 hr fun hr => LO.sk Z Z Z (gd g2 Z) Z Z<|LO.sk Z Z Z (gd g2 Z) Z Z<|LO.sk Z Z Z (gd g2 Z) Z Z<|LO.sk Z Z Z (gd g2 Z) Z Z<|yE Z (bN Z (a8 g2 Z) Z)<|zH Z<|LO.nil<|zT<|zr ?_;obtain rfl := zJ hr;exact zf (.one (.tmp Z)) zv
open Go.Proofs
def AL (c : Cf) (w : Vw) (slot : Int) : Option (List Vt × Int) :=
 (qM c w.V slot).bind fun v1 =>
 (Ez c slot).bind fun v2 =>
 (FM c v2).bind fun v3 =>
 some (v1, v3)
theorem Hm {c : Cf} {w : Vw} {slot : Int} {r_ : List Vt × Int} (hr : AL c w slot = some r_) : LC Tryz.prog 59 [.p (kT c), .p (k7 w), (iQ slot)] [] (Is (.agg [.fn 111 [] [.ptr 0 0, .ptr 1 0, .ptr 3 0], .fn 113 [] [.ptr 0 0, .ptr 4 0]]) [.box (bO c), .box (cw w), .box [.fn 111 [] [.ptr 0 0, .ptr 1 0, .ptr 3 0], .fn 113 [] [.ptr 0 0, .ptr 4 0]], .box [(kV r_.1)], .box [(iQ r_.2)]]) := by
 refine dA Tryz.func59 Z Z Z ?_;unfold AL at hr;refine zQ<|zR<|yS Z (b6 Z Z Z Z Z)<|yS Z (b6 Z Z Z Z Z)<|yS Z (ze Z Cp Z Z)<|zN<|zT<|zQ<|LW.ent (bP.slot Z)<|LW.ent (bP.slot Z)<|LW.drawW (by kernel_rfl) (by kernel_rfl)<|yF Z (zd Z Z Z ca Z Z) Z ?_;refine yF (F := []) (s := none) Z (fun H _ => zA Z Z a7) Z ?_;refine yF Z (zd Z Z Z dc Z Z) Z<|zK Z<|zb hr fun v1 h_v1 hr => ?_;refine yF (F := []) (s := none) Z (fun H _ => zC Z Z Z (by kernel_rfl) (zp (DQ h_v1) (.cons zv (.cons zv (.cons zv .nil))))) Z ?_;refine yF Z (zd Z Z Z ca Z Z) Z<|yF Z (zd Z Z Z ca Z Z) Z<|zK Z<|zb hr fun v2 h_v2 hr => ?_;refine yF (F := []) (s := none) Z (fun H _ => zC Z Z Z (by kernel_rfl) (zp (Jn h_v2) (.cons zv (.cons zv .nil)))) Z ?_;obtain ⟨v3, h_v3, hr⟩ := zB hr;refine yF (F := []) (s := none) Z (fun H _ => zC Z Z Z (by kernel_rfl) (zp (JG h_v3) (.cons zv (.cons zv .nil)))) Z ?_;refine yF Z (bK.alloc Z JD (id := 3) Z) Z<|yF Z (bK.alloc Z JN (id := 4) Z) Z<|yF Z (zt Z Z Z Z dc Z Z Z) Z<|yF Z (zt Z Z Z Z bl Z Z Z) Z ?_;refine LF.nil ⟨by kernel_rfl, ?_⟩;refine zT<|zQ<|zR<|yS Z (ab.makeFunc Z Z Z)<|yS Z (ab.makeFunc Z Z Z)<|yS Z (ab.build Z ET Z Z Z)<|yS Z (zs Z Z Z Z Cd Z Z Z Z)<|zN<|zT<|zr ?_;obtain rfl := zJ hr;exact ap (.one (.cellAgg Z Z (by kernel_rfl) Z))<|⟨rfl, rfl⟩
theorem Hv {c : Cf} {w : Vw} {slot : Int} {r_ : List Vt × Int} (hr : AL c w slot = some r_) : tr Tryz.prog 59 [kT c, k7 w, .int .i64 slot] (.agg [.fn 111 [] [.cptr [.slice 1 (c.W.map aC), .int .u64 c.Seed, .int .i64 c.Epoch, .int .i64 c.Num, .int .i64 c.Den], .cptr [.slice 5 (w.B.map au), .slice 4 (w.V.map aD)], .cptr [.slice 4 (r_.1.map aD)]], .fn 113 [] [.cptr [.slice 1 (c.W.map aC), .int .u64 c.Seed, .int .i64 c.Epoch, .int .i64 c.Num, .int .i64 c.Den], .cptr [.int .i64 r_.2]]]) :=
 tr.ofLC rfl (Hm hr) (df.agg ⟨df.fn trivial ⟨df.ptr rfl rfl rfl, df.ptr rfl rfl rfl, df.ptr rfl rfl rfl, trivial⟩, df.fn trivial ⟨df.ptr rfl rfl rfl, df.ptr rfl rfl rfl, trivial⟩, trivial⟩)
def C1 (id : ID) (c : Cf) (w : Vw) (v : List Vt) : Option Int :=
 (xC c w.B v id).bind fun v1 =>
 some v1
theorem Hn {id : ID} {c : Cf} {w : Vw} {v : List Vt} {r_ : Int} (hr : C1 id c w v = some r_) : LC Tryz.prog 111 [.p (cv id), .cptr [.slice 1 (c.W.map aC), .int .u64 c.Seed, .int .i64 c.Epoch, .int .i64 c.Num, .int .i64 c.Den], .cptr [.slice 5 (w.B.map au), .slice 4 (w.V.map aD)], .cptr [.slice 4 (v.map aD)]] [] (Is (iQ r_) []) := by
 refine dA Tryz.func111 Z Z Z ?_;unfold C1 at hr;refine zQ<|zR<|yS Z (b6 Z Z Z Z Z)<|zM Z<|zN<|zT<|zQ<|zR<|yS Z (dj Z Z Z ca Z Z)<|yS Z (ab.fieldAddrC Z Z aL Z)<|yS Z (dj Z Z Z ch Z Z)<|yS Z (dj Z Z Z dc Z Z)<|yS Z (zD Z Z Z aT Z Z)<|zb hr fun v1 h_v1 hr => yS Z (zC Z Z Z (by kernel_rfl) (zp (Gv h_v1) (.cons zv (.cons zv (.cons zv (.cons zv .nil))))))<|zM Z<|zN<|zT<|zr ?_;obtain rfl := zJ hr;exact aX (env' := [(5, (iQ v1))]) (H' := []) (zW 0 ⟨rfl, trivial⟩ Z Z Z Z) (.one (.tmp Z))<|⟨rfl, rfl⟩
def rO (n : Int) (c : Cf) (al : Int) : Option Bool :=
 (sD (IntKind.i64.wrap (2 * n)) c.Den al (IntKind.i64.wrap (c.Den + (IntKind.i64.wrap (2 * c.Num))))).bind fun v1 =>
 some v1
theorem De {n : Int} {c : Cf} {al : Int} {r_ : Bool} (hr : rO n c al = some r_) : LC Tryz.prog 113 [(iQ n), .cptr [.slice 1 (c.W.map aC), .int .u64 c.Seed, .int .i64 c.Epoch, .int .i64 c.Num, .int .i64 c.Den], .cptr [.int .i64 al]] [] (Is (bQ r_) []) := by
 refine dA Tryz.func113 Z Z Z ?_;unfold rO at hr;refine zQ<|zR<|zM Z<|zN<|zT<|zQ<|zR<|zM Z<|yS Z (aw Z Z Z Z)<|yS Z (ab.fieldAddrC Z Z pN Z)<|yS Z (dj Z Z Z bl Z Z)<|yS Z (dj Z Z Z bl Z Z)<|yS Z (ab.fieldAddrC Z Z pN Z)<|yS Z (dj Z Z Z bl Z Z)<|yS Z (ab.fieldAddrC Z Z vG Z)<|yS Z (dj Z Z Z bl Z Z)<|yS Z (aw Z Z Z Z)<|yS Z (aw Z Z Z Z)<|zb hr fun v1 h_v1 hr => yS Z (zC Z Z Z (by kernel_rfl) (zp (Gl h_v1) (.cons zv (.cons zv (.cons zv (.cons zv .nil))))))<|zM Z<|zN<|zT<|zr ?_;obtain rfl := zJ hr;exact ap (.one (.tmp Z))<|⟨rfl, rfl⟩
structure kP where
 l : List ID
 v : List Vt
 al : Int
def ja (c : Cf) (w : Vw) (x1 : kP) : Option (kP ⊕ (ID × Bool)) :=
 bif decide ((x1.l.length : Int) < 2) then
  some (.inr ((0, 0), false))
 else
  (ix x1.l 0).bind fun y1 =>
  (C1 y1 c w x1.v).bind fun v2 =>
  (rO v2 c x1.al).bind fun v3 =>
  bif v3 then
   (ix x1.l 0).bind fun y2 =>
   some (.inr (y2, true))
  else
   bif FT x1.l 1 x1.l.length then
    some (.inl (kP.mk (x1.l.drop (1 : Int).toNat) x1.v x1.al))
   else none
def qP (c : Cf) (w : Vw) (slot : Int) (head : ID) : Option (ID × Bool) :=
 (AL c w slot).bind fun v1 =>
 bif few w.B then
  iter (ja c w) bG (kP.mk (bd w.B head) v1.1 v1.2)
 else none
theorem GP {c : Cf} {w : Vw} {slot : Int} {head : ID} {r_ : ID × Bool} (hr : qP c w slot head = some r_) : az Tryz.prog 24 [kT c, k7 w, .int .i64 slot, cv head] [cv r_.1, .bool r_.2] := by
 refine zh Tryz.func24 Z Z Z Z ?_;unfold qP at hr;refine zQ<|zR<|yS Z (b6 Z Z Z Z Z)<|yS Z (b6 Z Z Z Z Z)<|yS Z (b6 Z Z Z Z Z)<|yS Z (ze Z kp Z Z)<|zM Z<|zN<|zT ?_;refine LW.iterG (step := ja c w) (N := bG) (b := r_) (E := fun x1 : kP => [(8, .ptr 3 0), (9, (bQ false)), (10, .ptr 4 0), (11, .p (.slice 2 (x1.l.map cv)))]) (O := fun x1 => [.box (bO c), .box (cw w), .box [(uQ head.1), (uQ head.2)], .box [(uQ 0), (uQ 0)], .box [.fn 111 [] [.cptr [.slice 1 (c.W.map aC), .int .u64 c.Seed, .int .i64 c.Epoch, .int .i64 c.Num, .int .i64 c.Den], .cptr [.slice 5 (w.B.map au), .slice 4 (w.V.map aD)], .cptr [.slice 4 (x1.v.map aD)]], .fn 113 [] [.cptr [.slice 1 (c.W.map aC), .int .u64 c.Seed, .int .i64 c.Epoch, .int .i64 c.Num, .int .i64 c.Den], .cptr [.int .i64 x1.al]]]]) Z ?_<|fun x1 z_x1 hr hb_x1 => ?_
 ·
  refine LW.ent (bP.slot Z)<|LW.drawW (by kernel_rfl) (by kernel_rfl)<|yF Z (zd Z Z Z ca Z Z) Z<|yF Z (zd Z Z Z aM Z Z) Z<|zK Z<|zb hr fun v1 h_v1 hr => ?_;refine yF (F := []) (s := none) Z (fun H _ => zC Z Z Z (by kernel_rfl) (LC.free (Hv h_v1) (.cons zv (.cons zv (.cons zv .nil))))) Z ?_;refine yF (F := []) (s := none) Z (fun H _ => zA Z Z aL) Z ?_;refine yF Z (zd Z Z Z ch Z Z) Z<|yF Z (zd Z Z Z aT Z Z) Z<|zg hr fun q1 hr => ?_;refine yF (F := []) (s := none) Z (fun H _ => zC Z Z Z (by kernel_rfl) (zp (Jk (l := w.B) (id := head) (vB q1)) (.cons zv (.cons zv .nil)))) Z ?_;refine yF Z (bK.alloc Z Cp (id := 4) Z) Z<|yF Z (zt Z Z Z Z Cd Z Z Z) Z<|zK Z ?_;refine LF.nil ⟨by kernel_rfl, ?_⟩;exact zT<|⟨_, hr, zW 5 ⟨rfl, rfl, rfl, rfl, trivial⟩ Z Z Z rfl⟩
 ·
  unfold ja at hr;refine zQ<|zQ<|zR<|zM Z<|yS Z (cP Z Z (by kernel_rfl))<|yS Z (aw Z Z Z Z)<|zN<|zT ?_;refine zX Z (fun g1 => ?_)<|fun g1 => ?_
  ·
   refine zi g1 hr fun hr => zQ<|zR<|yS Z (ab.build Z vq Z Z Z)<|yS Z (zs Z Z Z Z aT Z Z Z Z)<|zM Z<|zN<|zT<|zr<|af<|ue ?_;obtain rfl := zJ hr;have hr := congrArg some (hb_x1 _ rfl);obtain rfl := zJ hr;exact zf (.two (.cellAgg Z Z (by kernel_rfl) Z) (.tmp Z))<|⟨_, rfl, (.cons zv (.cons zv .nil))⟩
  ·
   refine zo g1 hr fun hr => zk<|zT<|zQ<|zQ<|LW.draw2 (by kernel_rfl) (by kernel_rfl)<|yE Z (zA Z Z Bm)<|yE Z (zD Z Z Z rJ Z Z)<|yE Z (zA Z Z Bl)<|yE Z (zD Z Z Z FG Z Z)<|zH Z<|zb hr fun y1 h_y1 hr => yE Z (zx Z Z Z qe h_y1 Z)<|yE Z (dj Z Z Z aT Z Z)<|zb hr fun v2 h_v2 hr => yE Z (zC Z Z Z (by kernel_rfl) (LC.pre (Hn h_v2) Z Z Z))<|zb hr fun v3 h_v3 hr => yE Z (zC Z Z Z (by kernel_rfl) (LC.pre (De h_v3) Z Z Z))<|LO.nil<|zT ?_;refine zX Z (fun g2 => ?_)<|fun g2 => ?_
   ·
    refine zi g2 hr fun hr => zQ<|zR<|zM Z<|zb hr fun y2 h_y2 hr => yS Z (zx Z Z Z qe h_y2 Z)<|yS Z (dj Z Z Z aT Z Z)<|yS Z (zs Z Z Z Z aT Z Z Z Z)<|zM Z<|zN<|zT<|zr<|af<|ue ?_;obtain rfl := zJ hr;have hr := congrArg some (hb_x1 _ rfl);obtain rfl := zJ hr;exact zf (.two (.cellAgg Z Z (by kernel_rfl) Z) (.tmp Z))<|⟨_, rfl, (.cons zv (.cons zv .nil))⟩
   ·
    refine zo g2 hr fun hr => zk<|zT<|zQ<|zR<|zM Z<|zg hr fun q2 hr => yS Z (ab.sliceLo Z Z Z qe q2)<|zM Z<|zN<|zT<|LW.goto<|Bv ?_;obtain rfl := zJ hr;exact ⟨_, rfl, zW 5 ⟨rfl, rfl, rfl, rfl, trivial⟩ Z Z Z rfl⟩
open Go.Proofs
def zj (v : Vt) (sm : List (ID × Int)) : Option Bool :=
 bif !((aj sm v.Head).isSome) then
  some true
 else
  some (decide (((aj sm v.Head).getD 0) > v.Slot))
theorem G3 {v : Vt} {w : Vw} {sm : List (ID × Int)} {hm : List (Vt × Bool)} {r_ : Bool} (hr : zj v sm = some r_) : LC Tryz.prog 189 [.p (aD v), .ptr 9 0] [.dead, .box (cw w), .dead, .dead, .dead, .dead, (mQ sm), (mR hm), .box [(jB 4 w.B), (jV 5 w.V), .map 6, .map 7, (iQ 0), (bQ false)], .box [.ptr 8 0]] (Is (bQ r_) [.dead, .box (cw w), .dead, .dead, .dead, .dead, (mQ sm), (mR hm), .box [(jB 4 w.B), (jV 5 w.V), .map 6, .map 7, (iQ 0), (bQ false)], .box [.ptr 8 0]]) := by
 refine dA Tryz.func189 Z Z Z ?_;unfold zj at hr;refine zQ<|zR<|yS Z (b6 Z Z Z Z Z)<|zM Z<|zN<|zT<|zQ<|LW.draw2 (by kernel_rfl) (by kernel_rfl)<|yE Z (zD Z Z Z Cb Z Z)<|yE Z (zn Z Z)<|yE Z (zA Z Z kW)<|yE Z (zD Z Z Z yO Z Z)<|yE Z (zA Z Z j4)<|yE Z (zD Z Z Z aT Z Z) ?_;refine yE Z (ab.getX (f := cv) (g := (fun v => (iQ v))) v.Head 0 dw Z Z Z Z iT Cm Z Z) ?_;refine zH Z<|yE Z (ed Z Z Z)<|yE Z (ed Z Z Z)<|zH Z<|zH Z<|LO.nil<|zT<|zQ<|zR<|zM Z<|yS Z (ab.not Z Z)<|zM Z ?_;refine zc 18 Z (fun g1 => ?_)<|fun g1 => ?_
 ·
  refine zi g1 hr fun hr => yU Z (gd g1 Z) Z<|yU Z (gd g1 Z) Z<|yU Z (gd g1 Z) Z<|yU Z (gd g1 Z) Z<|yS Z (cS Z (a8 g1 Z) Z)<|zM Z<|zN<|zT<|zr ?_;obtain rfl := zJ hr;refine aX (env' := [(3, (bQ true))]) (H' := [.dead, .box (cw w), .dead, .dead, .dead, .dead, (mQ sm), (mR hm), .box [(jB 4 w.B), (jV 5 w.V), .map 6, .map 7, (iQ 0), (bQ false)], .box [.ptr 8 0]]) (zW 10 ⟨rfl, trivial⟩ Z Z Z (zL Z (zL Z (zL Z (zL Z (zL Z (zL Z (zL (ae (fun _ => rfl) _) (zL (ae (fun _ => rfl) _) (zL Z (zL Z Z))))))))))) (.one (.tmp Z)) ?_;exact ⟨rfl, rfl⟩
 ·
  refine zo g1 hr fun hr => yV Z (gd g1 Z) (zm Z Z)<|yV Z (gd g1 Z) (zA Z Z nf)<|yV Z (gd g1 Z) (zD Z Z Z bl Z Z)<|yV Z (gd g1 Z) (aw Z Z Z Z)<|yS Z (bN Z (a8 g1 Z) Z)<|zM Z<|zN<|zT<|zr ?_;obtain rfl := zJ hr;refine aX (env' := [(3, .p (.bool (decide (((aj sm v.Head).getD 0) > v.Slot))))]) (H' := [.dead, .box (cw w), .dead, .dead, .dead, .dead, (mQ sm), (mR hm), .box [(jB 4 w.B), (jV 5 w.V), .map 6, .map 7, (iQ 0), (bQ false)], .box [.ptr 8 0]]) (zW 10 ⟨rfl, trivial⟩ Z Z Z (zL Z (zL Z (zL Z (zL Z (zL Z (zL Z (zL (ae (fun _ => rfl) _) (zL (ae (fun _ => rfl) _) (zL Z (zL Z Z))))))))))) (.one (.tmp Z)) ?_;exact ⟨rfl, rfl⟩
structure dY where
 t8 : Int
def iu (l : List Vt) (sm : List (ID × Int)) (x1 : dY) : Option (dY ⊕ (dY ⊕ Int)) :=
 bif decide (x1.t8 < (l.length : Int)) then
  (ix l x1.t8).bind fun y1 =>
  (zj y1 sm).bind fun v2 =>
  bif v2 then
   some (.inr (.inr x1.t8))
  else
   some (.inl (dY.mk (IntKind.i64.wrap (x1.t8 + 1))))
 else
  some (.inr (.inl (dY.mk x1.t8)))
def wK (l : List Vt) (sm : List (ID × Int)) : Option Int :=
 (iter (iu l sm) bG (dY.mk 0)).bind fun b_v1 => Sum.elim (fun _ =>
  some (-1)) some b_v1
theorem Fa {l : List Vt} {w : Vw} {sm : List (ID × Int)} {hm : List (Vt × Bool)} {r_ : Int} (hr : wK l sm = some r_) : LC Tryz.prog 170 [(kV l), .fn 189 [] [.ptr 9 0]] [.dead, .box (cw w), .dead, .dead, .dead, .dead, (mQ sm), (mR hm), .box [(jB 4 w.B), (jV 5 w.V), .map 6, .map 7, (iQ 0), (bQ false)], .box [.ptr 8 0]] (Is (iQ r_) [.dead, .box (cw w), .dead, .dead, .dead, .dead, (mQ sm), (mR hm), .box [(jB 4 w.B), (jV 5 w.V), .map 6, .map 7, (iQ 0), (bQ false)], .box [.ptr 8 0]]) := by
 refine dA Tryz.func170 Z Z Z ?_;unfold wK at hr;refine zQ<|zR<|zM Z<|zN<|zT<|zQ<|zQ<|zR<|zM Z<|yS Z (cP Z Z (by kernel_rfl))<|zM Z<|zN<|zT ?_;obtain ⟨b_v1, hb_v1, ho_v1⟩ := zB hr;clear hr;refine LW.tailB (b := b_v1) (E := fun v1 => [(4, (iQ 0))]) (O := fun v1 => [.dead, .box (cw w), .dead, .dead, .dead, .dead, (mQ sm), (mR hm), .box [(jB 4 w.B), (jV 5 w.V), .map 6, .map 7, (iQ 0), (bQ false)], .box [.ptr 8 0]]) ?_<|fun v1 e_v1 env_v1 H_v1 hw_v1 => ?_
 ·refine LW.block ?_;refine LW.iterB (E := fun x1 : dY => [(0, (kV l)), (1, .fn 189 [] [.ptr 9 0]), (4, (iQ 0)), (7, .p (.int .i64 (l.length : Int))), (8, (iQ x1.t8))]) (O := fun x1 => [.dead, .box (cw w), .dead, .dead, .dead, .dead, (mQ sm), (mR hm), .box [(jB 4 w.B), (jV 5 w.V), .map 6, .map 7, (iQ 0), (bQ false)], .box [.ptr 8 0]]) hb_v1 (zW 10 ⟨rfl, rfl, rfl, rfl, rfl, trivial⟩ Z Z Z (zL Z (zL Z (zL Z (zL Z (zL Z (zL Z (zL (ae (fun _ => rfl) _) (zL (ae (fun _ => rfl) _) (zL Z (zL Z Z)))))))))))<|fun x1 z_x1 hr hb_x1 => ?_;unfold iu at hr;refine zQ<|zR<|yS Z (aw Z Z Z Z)<|zN<|zT<|zQ ?_;refine zX Z (fun g1 => ?_)<|fun g1 => ?_
  ·
   refine zi g1 hr fun hr => zk<|zT<|zQ<|zl<|zQ<|zR<|zM Z<|zM Z<|zN<|zT<|zQ<|zR<|zM Z<|zM Z<|zM Z<|zb hr fun y1 h_y1 hr => yS Z (zx Z Z Z cF h_y1 Z)<|yS Z (dj Z Z Z bZ Z Z)<|zb hr fun v2 h_v2 hr => yS Z (zC Z Z Z (by kernel_rfl) (G3 h_v2))<|zN<|zT ?_;refine zX Z (fun g2 => ?_)<|fun g2 => ?_
   ·
    refine zi g2 hr fun hr => zQ<|zR<|zM Z<|zM Z<|zN<|zT<|zr<|aq<|af<|af<|aq<|af<|af ?_;obtain rfl := zJ hr;have hr := congrArg some (hb_x1 _ rfl);obtain rfl := zJ hr;have hr := da ho_v1;obtain rfl := zJ hr;exact ap (.one (.tmp Z))<|⟨rfl, rfl⟩
   ·
    refine zo g2 hr fun hr => zk<|ah<|zT<|zR<|yS Z (aw Z Z Z Z)<|zM Z<|zN<|zT ?_;obtain rfl := zJ hr;exact ⟨_, rfl, zW 10 ⟨rfl, rfl, rfl, rfl, rfl, trivial⟩ Z Z Z (zL Z (zL Z (zL Z (zL Z (zL Z (zL Z (zL (ae (fun _ => rfl) _) (zL (ae (fun _ => rfl) _) (zL Z (zL Z Z))))))))))⟩
  ·
   refine zo g1 hr fun hr => zq<|ao<|ao<|zy<|zT ?_;obtain rfl := zJ hr;have hr := congrArg some (hb_x1 _ rfl);obtain rfl := zJ hr;exact ⟨_, rfl, zW 10 ⟨rfl, trivial⟩ Z Z Z (zL Z (zL Z (zL Z (zL Z (zL Z (zL Z (zL (ae (fun _ => rfl) _) (zL (ae (fun _ => rfl) _) (zL Z (zL Z Z))))))))))⟩
 ·obtain rfl := e_v1;have hr := eG ho_v1;clear hb_v1;refine zT<|LW.weak hw_v1<|zQ<|zR<|zM Z<|zN<|zT<|zr ?_;obtain rfl := zJ hr;exact ap (.one (.tmp Z))<|⟨rfl, rfl⟩
def zu (l : List Vt) (sm : List (ID × Int)) : Option Bool :=
 (wK l sm).bind fun v1 =>
 some (decide (v1 ≥ 0))
theorem G4 {l : List Vt} {w : Vw} {sm : List (ID × Int)} {hm : List (Vt × Bool)} {r_ : Bool} (hr : zu l sm = some r_) : LC Tryz.prog 190 [(kV l), .fn 189 [] [.ptr 9 0]] [.dead, .box (cw w), .dead, .dead, .dead, .dead, (mQ sm), (mR hm), .box [(jB 4 w.B), (jV 5 w.V), .map 6, .map 7, (iQ 0), (bQ false)], .box [.ptr 8 0]] (Is (bQ r_) [.dead, .box (cw w), .dead, .dead, .dead, .dead, (mQ sm), (mR hm), .box [(jB 4 w.B), (jV 5 w.V), .map 6, .map 7, (iQ 0), (bQ false)], .box [.ptr 8 0]]) := by
 refine dA Tryz.func190 Z Z Z ?_;unfold zu at hr;refine zQ<|zR<|zM Z<|zN<|zT<|zQ<|zR<|zM Z<|zM Z<|zb hr fun v1 h_v1 hr => yS Z (zC Z Z Z (by kernel_rfl) (Fa h_v1))<|yS Z (aw Z Z Z Z)<|zM Z<|zN<|zT<|zr ?_;obtain rfl := zJ hr;exact ap (.one (.tmp Z))<|⟨rfl, rfl⟩
def F9 (c : Cf) (w : Vw) : Option Bool :=
 (
  (xM c).bind fun v2 =>
  bif !v2 then
   some true
  else
   (FL w.B).bind fun v3 =>
   bif !v3 then
    some true
   else
    bif decide ((w.B.length : Int) > 60) then
     some true
    else
     some (decide ((w.V.length : Int) > 240))
 ).bind fun v1 =>
 bif v1 then
  some false
 else
  (FO c w).bind fun v4 =>
  (
   bif (v4.B.length : Int) != (w.B.length : Int) then
    some true
   else
    some ((v4.V.length : Int) != (w.V.length : Int))
  ).bind fun v5 =>
  bif v5 then
   some false
  else
   (xF w 0).bind fun v6 =>
   bif pz v6.2 then
    bif (v6.2.length : Int) == (w.V.length : Int) then
     (zu w.V v6.1).bind fun v7 =>
     some (!v7)
    else
     some false
   else none
theorem JX {c : Cf} {w : Vw} {r_ : Bool} (hr : F9 c w = some r_) : az Tryz.prog 178 [kT c, k7 w] [.bool r_] := by
 refine zh Tryz.func178 Z Z Z Z ?_;unfold F9 at hr;refine zQ<|zR<|yS Z (b6 Z Z Z Z Z)<|yS Z (b6 Z Z Z Z Z)<|zM Z<|zN<|zT<|zQ ?_;obtain ⟨v1, hb_v1, ho_v1⟩ := zB hr;clear hr;refine LW.cut (E := [(2, .ptr 0 0), (3, .ptr 1 0), (4, (bQ false)), (28, (bQ v1))]) (O := [.box (bO c), .box (cw w)]) ?_ ?_
 ·have hr := hb_v1;refine zR<|yS Z (zD Z Z Z ca Z Z)<|zb hr fun v2 h_v2 hr => yS Z (zC Z Z Z (by kernel_rfl) (zp (EZ h_v2) (.cons zv .nil)))<|yS Z (ab.not Z Z)<|zM Z ?_;refine zc 11 Z (fun g1 => ?_)<|fun g1 => ?_
  ·
   refine zi g1 hr fun hr => yU Z (gd g1 Z) Z<|yU Z (gd g1 Z) Z<|yU Z (gd g1 Z) Z<|yU Z (gd g1 Z) Z<|yS Z (cS Z (a8 g1 Z) Z)<|zM Z<|yU Z Z Z<|yU Z Z Z<|yU Z Z Z<|yU Z Z Z<|yS Z (cS Z Z Z)<|zM Z<|yU Z Z Z<|yU Z Z Z<|yU Z Z Z<|yU Z Z Z<|yS Z (cS Z Z Z)<|zN<|zT ?_;obtain rfl := zJ hr;exact zW 2 ⟨Z, Z, Z, Z, trivial⟩ Z Z Z Z
  ·
   refine zo g1 hr fun hr => yV Z (gd g1 Z) (zA Z Z aL)<|yV Z (gd g1 Z) (zD Z Z Z ch Z Z)<|zb hr fun v3 h_v3 hr => yV Z (gd g1 Z) (zC Z Z Z (by kernel_rfl) (zp (JF h_v3) (.cons zv .nil)))<|yV Z (gd g1 Z) (ab.not Z Z)<|yS Z (bN Z (a8 g1 Z) Z)<|zM Z ?_;refine zc 17 Z (fun g2 => ?_)<|fun g2 => ?_
   ·
    refine zi g2 hr fun hr => yU Z (gd g2 Z) Z<|yU Z (gd g2 Z) Z<|yU Z (gd g2 Z) Z<|yU Z (gd g2 Z) Z<|yS Z (cS Z (a8 g2 Z) Z)<|zM Z<|yU Z Z Z<|yU Z Z Z<|yU Z Z Z<|yU Z Z Z<|yS Z (cS Z Z Z)<|zN<|zT ?_;obtain rfl := zJ hr;exact zW 2 ⟨Z, Z, Z, Z, trivial⟩ Z Z Z Z
   ·
    refine zo g2 hr fun hr => yV Z (gd g2 Z) (zA Z Z aL)<|yV Z (gd g2 Z) (zD Z Z Z ch Z Z)<|yV Z (gd g2 Z) (cP Z Z (by kernel_rfl))<|yV Z (gd g2 Z) (aw Z Z Z Z)<|yS Z (bN Z (a8 g2 Z) Z)<|zM Z ?_;refine zc 23 Z (fun g3 => ?_)<|fun g3 => ?_
    ·
     refine zi g3 hr fun hr => yU Z (gd g3 Z) Z<|yU Z (gd g3 Z) Z<|yU Z (gd g3 Z) Z<|yU Z (gd g3 Z) Z<|yS Z (cS Z (a8 g3 Z) Z)<|zN<|zT ?_;obtain rfl := zJ hr;exact zW 2 ⟨Z, Z, Z, Z, trivial⟩ Z Z Z Z
    ·
     refine zo g3 hr fun hr => yV Z (gd g3 Z) (zA Z Z a7)<|yV Z (gd g3 Z) (zD Z Z Z dc Z Z)<|yV Z (gd g3 Z) (cP Z Z (by kernel_rfl))<|yV Z (gd g3 Z) (aw Z Z Z Z)<|yS Z (bN Z (a8 g3 Z) Z)<|zN<|zT ?_;obtain rfl := zJ hr;exact zW 2 ⟨Z, Z, Z, Z, trivial⟩ Z Z Z Z
 ·have hr := ho_v1;clear hb_v1;refine zX Z (fun g4 => ?_)<|fun g4 => ?_
  ·
   refine zi g4 hr fun hr => zQ<|zR<|zM Z<|zN<|zT<|zr<|af ?_;obtain rfl := zJ hr;exact zf (.one (.tmp Z)) zv
  ·
   refine zo g4 hr fun hr => zk<|zT<|zQ<|zR<|yS Z (zD Z Z Z ca Z Z)<|yS Z (zD Z Z Z aM Z Z)<|zb hr fun v4 h_v4 hr => yS Z (zC Z Z Z (by kernel_rfl) (zp (JI h_v4) (.cons zv (.cons zv .nil))))<|yS Z (ze Z fS Z Z)<|yS Z (zs Z Z Z Z aM Z Z Z Z)<|zN<|zT<|zQ ?_;obtain ⟨v5, hb_v5, ho_v5⟩ := zB hr;clear hr;refine LW.cut (E := [(3, .ptr 1 0), (4, (bQ false)), (47, (bQ v5))]) (O := [.box (bO c), .box (cw w), .box (cw v4)]) ?_ ?_
   ·have hr := hb_v5;refine zR<|yS Z (zA Z Z aL)<|yS Z (zD Z Z Z ch Z Z)<|yS Z (cP Z Z (by kernel_rfl))<|yS Z (zA Z Z aL)<|yS Z (zD Z Z Z ch Z Z)<|yS Z (cP Z Z (by kernel_rfl))<|yS Z (aw Z Z Z Z)<|zM Z ?_;refine zc 39 Z (fun g5 => ?_)<|fun g5 => ?_
    ·
     refine zi g5 hr fun hr => yU Z (gd g5 Z) Z<|yU Z (gd g5 Z) Z<|yU Z (gd g5 Z) Z<|yU Z (gd g5 Z) Z<|yU Z (gd g5 Z) Z<|yU Z (gd g5 Z) Z<|yU Z (gd g5 Z) Z<|yS Z (cS Z (a8 g5 Z) Z)<|zN<|zT ?_;obtain rfl := zJ hr;exact zW 3 ⟨Z, Z, Z, trivial⟩ Z Z Z Z
    ·
     refine zo g5 hr fun hr => yV Z (gd g5 Z) (zA Z Z a7)<|yV Z (gd g5 Z) (zD Z Z Z dc Z Z)<|yV Z (gd g5 Z) (cP Z Z (by kernel_rfl))<|yV Z (gd g5 Z) (zA Z Z a7)<|yV Z (gd g5 Z) (zD Z Z Z dc Z Z)<|yV Z (gd g5 Z) (cP Z Z (by kernel_rfl))<|yV Z (gd g5 Z) (aw Z Z Z Z)<|yS Z (bN Z (a8 g5 Z) Z)<|zN<|zT ?_;obtain rfl := zJ hr;exact zW 3 ⟨Z, Z, Z, trivial⟩ Z Z Z Z
   ·have hr := ho_v5;clear hb_v5;refine zX Z (fun g6 => ?_)<|fun g6 => ?_
    ·
     refine zi g6 hr fun hr => zQ<|zR<|zM Z<|zN<|zT<|zr<|af ?_;obtain rfl := zJ hr;exact zf (.one (.tmp Z)) zv
    ·
     refine zo g6 hr fun hr => zk<|zT<|zQ<|zR<|yS Z (zD Z Z Z aM Z Z)<|zb hr fun v6 h_v6 hr => yS Z (zC Z Z Z (by kernel_rfl) (LC.frameX (x' := .ptr 8 0) (H' := [.box (bO c), .box (cw w), .box (cw v4), .box (cw w), .vec 5 (w.B.map au), .vec 4 (w.V.map aD), (mQ v6.1), (mR v6.2), .box [(jB 4 w.B), (jV 5 w.V), .map 6, .map 7, (iQ 0), (bQ false)]]) (D1 h_v6) (.consC zv (.consC zv .nil)) Z Z (by simp only [List.map_cons, List.map_nil, List.cons_append, List.nil_append, aa.shift, LV.shifts, LV.shift, w5, w4] <;> rfl)))<|yS Z (ze Z Ix Z Z)<|yS Z (zs Z Z Z Z Cb Z Z Z Z)<|zN<|zT<|zQ<|LW.ent (bP.kill (i := 0) Z)<|LW.ent (bP.kill (i := 2) Z)<|LW.ent (bP.kill (i := 3) Z)<|LW.ent (bP.kill (i := 4) Z)<|LW.ent (bP.kill (i := 5) Z)<|zR<|yS Z (ab.makeFunc Z Z Z)<|zM Z<|zN<|zT<|zQ ?_;refine LW.draw2 (by kernel_rfl) (by kernel_rfl)<|yE Z (zD Z Z Z Cb Z Z)<|yE Z (zn Z Z)<|yE Z (zA Z Z oC)<|yE Z (zD Z Z Z xw Z Z)<|zg hr fun q1 hr => yE Z (ab.lenMapX Z Z Z (by kernel_rfl) q1)<|yE Z (zA Z Z a7)<|yE Z (zD Z Z Z dc Z Z)<|yE Z (cP Z Z (by kernel_rfl))<|yE Z (aw Z Z Z Z)<|zH Z ?_;refine LO.cases 60 Z (fun (g7 : ((v6.2.length : Int) == (w.V.length : Int)) = true) => ?_) (fun (g7 : ((v6.2.length : Int) == (w.V.length : Int)) = false) => ?_)
     ·
      refine zi g7 hr fun hr => LO.gd Z Z Z (gd g7 Z) Z (zA Z Z a7)<|LO.gd Z Z Z (gd g7 Z) Z (zD Z Z Z dc Z Z)<|LO.gd Z Z Z (gd g7 Z) Z (zm Z Z)<|zb hr fun v7 h_v7 hr => LO.gd Z Z Z (gd g7 Z) Z (zC Z Z Z (by kernel_rfl) (G4 h_v7))<|LO.gd Z Z Z (gd g7 Z) Z (ab.not Z Z)<|yE Z (cS Z (a8 g7 Z) Z)<|zH Z<|LO.nil<|zT<|zr ?_;obtain rfl := zJ hr;exact zf (.one (.tmp Z)) zv
     ·
      refine zo g7 hr fun hr => LO.sk Z Z Z (gd g7 Z) Z Z<|LO.sk Z Z Z (gd g7 Z) Z Z<|LO.sk Z Z Z (gd g7 Z) Z Z<|LO.sk Z Z Z (gd g7 Z) Z Z<|LO.sk Z Z Z (gd g7 Z) Z Z<|yE Z (bN Z (a8 g7 Z) Z)<|zH Z<|LO.nil<|zT<|zr ?_;obtain rfl := zJ hr;exact zf (.one (.tmp Z)) zv
open Go.Proofs
structure e8 where
 n : Int
 o6 : List Bk
 o7 : List Vt
 o8 : List (ID × Int)
 o9 : List (Vt × Bool)
 x_5 : Bool
 o14 : List Bk
 o15 : List Vt
 left_0 : Nat
 left_1 : Nat
def lr (slot : Int) (x1 : e8) : Option (e8 ⊕ e8) :=
 bif x1.n != (IntKind.i64.wrap ((x1.o6.length : Int) + (x1.o7.length : Int))) then
  (zF x1.o14 x1.left_0 x1.o6 x1.o8 slot x1.x_5).bind fun v5 =>
  (zP x1.o15 x1.left_1 x1.o7 v5.2.2.2.1 x1.o9 slot v5.2.2.2.2).bind fun v6 =>
  some (.inl (e8.mk (IntKind.i64.wrap ((x1.o6.length : Int) + (x1.o7.length : Int))) v5.2.2.1 v6.2.2.1 v5.2.2.2.1 v6.2.2.2.1 v6.2.2.2.2 v5.2.1 v6.2.1 v5.1 v6.1))
 else
  some (.inr (e8.mk x1.n x1.o6 x1.o7 x1.o8 x1.o9 x1.x_5 x1.o14 x1.o15 x1.left_0 x1.left_1))
def Ga (c : Cf) (w : Vw) (v_in : Vw) (slot : Int) : Option (Vw × Vw × Bool) :=
 (xF w slot).bind fun v1 =>
 (F9 c w).bind fun v2 =>
 bif !v2 then
  bif cg 0 v_in.B.length 40 then
   bif cg 0 v_in.V.length 32 then
    some (w, v_in, false)
   else none
  else none
 else
  (AB c v_in).bind fun v3 =>
  (iter (lr slot) bG (e8.mk (-1) w.B w.V v1.1 v1.2 false v3.1 v3.2 ((v3.1.map au).length) ((v3.2.map aD).length))).bind fun v4 =>
  bif Nat.ble v4.left_0 v4.o14.length then
   bif Nat.ble v4.left_1 v4.o15.length then
    some (Vw.mk v4.o6 v4.o7, Vw.mk (v4.o14.take v4.left_0) (v4.o15.take v4.left_1), v4.x_5)
   else none
  else none
theorem JY {c : Cf} {w : Vw} {v_in : Vw} {slot : Int} {r_ : Vw × Vw × Bool} (hr : Ga c w v_in slot = some r_) : az Tryz.prog 164 [kT c, k7 w, k7 v_in, .int .i64 slot] [k7 r_.1, k7 r_.2.1, .bool r_.2.2] := by
 refine zh Tryz.func164 Z Z Z Z ?_;unfold Ga at hr;refine zQ<|zR<|yS Z (b6 Z Z Z Z Z)<|yS Z (b6 Z Z Z Z Z)<|yS Z (b6 Z Z Z Z Z)<|yS Z (ze Z fS Z Z)<|yS Z (ze Z fS Z Z)<|zM Z<|zN<|zT<|zQ<|zR<|yS Z (zD Z Z Z aM Z Z)<|zM Z<|zb hr fun v1 h_v1 hr => yS Z (zC Z Z Z (by kernel_rfl) (LC.frameX (x' := .ptr 10 0) (H' := [.box (bO c), .box (cw w), .box (cw v_in), .box [.zs, .zs], .box [.zs, .zs], .box (cw w), .vec 5 (w.B.map au), .vec 4 (w.V.map aD), (mQ v1.1), (mR v1.2), .box [(jB 6 w.B), (jV 7 w.V), .map 8, .map 9, (iQ slot), (bQ false)]]) (D1 h_v1) (.consC zv (.consC zv .nil)) Z Z (by simp only [List.map_cons, List.map_nil, List.cons_append, List.nil_append, aa.shift, LV.shifts, LV.shift, w5, w4] <;> rfl)))<|zM Z<|zN<|zT<|zQ<|zQ<|zR<|yS Z (zD Z Z Z ca Z Z)<|yS Z (zD Z Z Z aM Z Z) ?_;refine zb hr fun v2 h_v2 hr => yS Z (zC Z Z Z (by kernel_rfl) (zp (JX h_v2) (.cons zv (.cons zv .nil))))<|yS Z (ab.not Z Z)<|zN<|zT ?_;refine zX Z (fun g1 => ?_)<|fun g1 => ?_
 ·
  refine zi g1 hr fun hr => zQ<|LW.ent (bP.slot Z)<|LW.ent (bP.slot Z)<|LW.drawW (by kernel_rfl) (by kernel_rfl)<|zK Z ?_;refine yF (F := []) (s := none) Z (fun H _ => zn Z Z) Z ?_;refine yF (F := []) (s := none) Z (fun H _ => zA Z Z eu) Z ?_;refine yF Z (zd Z Z Z aM Z Z) Z ?_;refine yF (F := []) (s := none) Z (fun H _ => zA Z Z aL) Z ?_;refine yF Z (zd Z Z Z ch Z Z) Z<|zg hr fun q1 hr => ?_;refine yF Z (bK.callV (id := 11) (qs := [(kB v_in.B)]) Z Z Z (by kernel_rfl) (tx q1) (fun H => (.consC zv .nil)) Z) Z ?_;refine yF (F := []) (s := none) Z (fun H _ => zA Z Z a7) Z ?_;refine yF Z (zd Z Z Z dc Z Z) Z<|zg hr fun q2 hr => ?_;refine yF Z (bK.callV (id := 12) (qs := [(kV v_in.V)]) Z Z Z (by kernel_rfl) (tz q2) (fun H => (.consC zv .nil)) Z) Z ?_;refine yF (F := []) (s := none) Z (fun H _ => ab.build Z ma Z Z Z) Z ?_;refine yF Z (zt Z Z Z Z aM Z Z Z) Z<|yF Z (zt Z Z Z Z aM Z Z Z) Z<|zK Z ?_;refine LF.nil ⟨by kernel_rfl, ?_⟩;refine zT<|zr<|af ?_;obtain rfl := zJ hr;exact zf (.three (.cellAgg Z Z (by kernel_rfl) Z) (.cellAgg Z Z (by kernel_rfl) Z) (.tmp Z))<|⟨_, rfl, (.cons (Conv.agg (.cons (Conv.vecAll Z Z Z) (.cons (Conv.vecAll Z Z Z) .nil))) (.cons (Conv.agg (.cons (Conv.vecAll Z Z Z) (.cons (Conv.vecAll Z Z Z) .nil))) (.cons zv .nil)))⟩
 ·
  refine zo g1 hr fun hr => zk<|zT<|zQ<|zR<|zM Z<|yS Z (ab.makeFunc Z Z Z)<|zM Z<|yS Z (ab.makeFunc Z Z Z)<|zM Z<|zM Z<|zN<|zT<|zQ<|zR<|yS Z (zD Z Z Z ca Z Z)<|yS Z (zD Z Z Z aM Z Z)<|zb hr fun v3 h_v3 hr => ?_;refine yS Z (zC Z Z Z (by kernel_rfl) (LC.frameX (x' := .agg [(jB 14 v3.1), (jV 15 v3.2)]) (H' := [.box (bO c), .box (cw w), .box (cw v_in), .box [.zs, .zs], .box [.zs, .zs], .box (cw w), .vec 5 (w.B.map au), .vec 4 (w.V.map aD), (mQ v1.1), (mR v1.2), .box [(jB 6 w.B), (jV 7 w.V), .map 8, .map 9, (iQ slot), (bQ false)], .box (bO c), .box (cw v_in), .box [(jB 14 v3.1), (jV 15 v3.2)], .vec 5 (v3.1.map au), .vec 4 (v3.2.map aD)]) (Hd h_v3) (.consC zv (.consC zv .nil)) Z Z (by simp only [List.map_cons, List.map_nil, List.cons_append, List.nil_append, aa.shift, LV.shifts, LV.shift] <;> rfl))) ?_;refine yS Z (ze Z fS Z Z)<|yS Z (zs Z Z Z Z aM Z Z Z Z)<|zN<|zT<|zQ<|zQ<|LW.ent (bP.kill (i := 0) Z)<|LW.ent (bP.kill (i := 1) Z)<|LW.ent (bP.kill (i := 2) Z)<|LW.ent (bP.kill (i := 5) Z)<|LW.ent (bP.kill (i := 11) Z)<|LW.ent (bP.kill (i := 12) Z)<|LW.ent (bP.kill (i := 13) Z)<|zR<|zM Z<|zN<|zT ?_;obtain ⟨v4, hb_v4, ho_v4⟩ := zB hr;clear hr;refine LW.tail (E := [(8, .ptr 3 0), (9, .ptr 4 0), (10, (bQ false)), (11, .ptr 10 0), (14, .ptr 16 0)]) (O := [.dead, .dead, .dead, .box [.zs, .zs], .box [.zs, .zs], .dead, .vec 5 (v4.o6.map au), .vec 4 (v4.o7.map aD), (mQ v4.o8), (mR v4.o9), .box [(jB 6 v4.o6), (jV 7 v4.o7), .map 8, .map 9, (iQ slot), (bQ v4.x_5)], .dead, .dead, .dead, .vec 5 (v4.o14.map au), .vec 4 (v4.o15.map aD), .box [.vec 5 14 (v4.o14.map au).length 0 v4.left_0, .vec 4 15 (v4.o15.map aD).length 0 v4.left_1]]) ?_<|fun env_v4 H_v4 hw_v4 => ?_
  ·refine LW.block ?_;refine LW.iterB (E := fun x1 : e8 => [(8, .ptr 3 0), (9, .ptr 4 0), (10, (bQ false)), (11, .ptr 10 0), (12, .fn 179 [.ptr 10 0] []), (13, .fn 180 [.ptr 10 0] []), (14, .ptr 16 0), (15, (iQ x1.n))]) (O := fun x1 => [.dead, .dead, .dead, .box [.zs, .zs], .box [.zs, .zs], .dead, .vec 5 (x1.o6.map au), .vec 4 (x1.o7.map aD), (mQ x1.o8), (mR x1.o9), .box [(jB 6 x1.o6), (jV 7 x1.o7), .map 8, .map 9, (iQ slot), (bQ x1.x_5)], .dead, .dead, .dead, .vec 5 (x1.o14.map au), .vec 4 (x1.o15.map aD), .box [.vec 5 14 (x1.o14.map au).length 0 x1.left_0, .vec 4 15 (x1.o15.map aD).length 0 x1.left_1]]) hb_v4 (zW 17 ⟨rfl, rfl, rfl, rfl, rfl, rfl, rfl, rfl, trivial⟩ Z Z Z (zL Z (zL Z (zL Z (zL Z (zL Z (zL Z (zL Z (zL Z (zL (ae (fun _ => rfl) _) (zL (ae (fun _ => rfl) _) (zL Z (zL Z (zL Z (zL Z (zL Z (zL Z (zL Z Z))))))))))))))))))<|fun x1 z_x1 hr hb_x1 => ?_;unfold lr at hr;refine zQ<|zQ<|LW.draw2 (by kernel_rfl) (by kernel_rfl)<|zH Z<|zH Z<|yE Z (zn Z Z)<|yE Z (zA Z Z eu)<|yE Z (zA Z Z aL)<|yE Z (zD Z Z Z ch Z Z)<|yE Z (ab.lenVM Z Z Z (by kernel_rfl))<|zH Z<|yE Z (zn Z Z)<|yE Z (zA Z Z eu)<|yE Z (zA Z Z a7)<|yE Z (zD Z Z Z dc Z Z)<|yE Z (ab.lenVM Z Z Z (by kernel_rfl))<|yE Z (aw Z Z Z Z)<|yE Z (aw Z Z Z Z)<|LO.nil<|zT ?_;refine zX Z (fun g2 => ?_)<|fun g2 => ?_
   ·
    refine zi g2 hr fun hr => zk<|zT<|zl<|zQ<|LW.draw2 (by kernel_rfl) (by kernel_rfl)<|zH Z<|yE Z (zn Z Z)<|yE Z (zA Z Z eu)<|yE Z (zA Z Z aL)<|yE Z (zD Z Z Z ch Z Z)<|yE Z (ab.lenVM Z Z Z (by kernel_rfl))<|zH Z<|yE Z (zn Z Z)<|yE Z (zA Z Z eu)<|yE Z (zA Z Z a7)<|yE Z (zD Z Z Z dc Z Z)<|yE Z (ab.lenVM Z Z Z (by kernel_rfl))<|yE Z (aw Z Z Z Z)<|zH Z<|LO.nil<|zT<|zQ<|zR ?_;refine yS Z (zA Z Z aL)<|yS Z (zD Z Z Z ch Z Z)<|zM Z<|zb hr fun v5 h_v5 hr => yS Z (zC Z Z Z (by kernel_rfl) (G5 h_v5))<|yS Z (zA Z Z aL)<|yS Z (zs Z Z Z Z ch Z Z Z Z)<|zN<|zT<|zR<|yS Z (zA Z Z a7)<|yS Z (zD Z Z Z dc Z Z)<|zM Z<|zb hr fun v6 h_v6 hr => yS Z (zC Z Z Z (by kernel_rfl) (G6 h_v6))<|yS Z (zA Z Z a7)<|yS Z (zs Z Z Z Z dc Z Z Z Z)<|zN<|ah<|zT ?_;obtain rfl := zJ hr;exact ⟨_, rfl, zW 17 ⟨rfl, rfl, rfl, rfl, rfl, rfl, rfl, rfl, trivial⟩ Z Z Z (zL Z (zL Z (zL Z (zL Z (zL Z (zL Z (zL Z (zL Z (zL (ae (fun _ => rfl) _) (zL (ae (fun _ => rfl) _) (zL Z (zL Z (zL Z (zL Z (zL Z (zL Z (zL Z Z)))))))))))))))))⟩
   ·
    refine zo g2 hr fun hr => zq<|ao<|ao<|zy<|zT ?_;obtain rfl := zJ hr;have hr := congrArg some (hb_x1 _ rfl);obtain rfl := zJ hr;exact zW 17 ⟨Z, Z, Z, Z, Z, trivial⟩ Z Z Z<|zL Z<|zL Z<|zL Z<|zL Z<|zL Z<|zL Z<|zL Z<|zL Z<|zL (ae (fun _ => rfl) _)<|zL (ae (fun _ => rfl) _)<|zL Z<|zL Z<|zL Z<|zL Z<|zL Z<|zL Z<|zL Z Z
  ·have hr := ho_v4;clear hb_v4;refine zT<|LW.weak hw_v4<|zQ<|LW.drawW (by kernel_rfl) (by kernel_rfl)<|zK Z ?_;refine yF (F := []) (s := none) Z (fun H _ => zn Z Z) Z ?_;refine yF (F := []) (s := none) Z (fun H _ => zA Z Z eu) Z ?_;refine yF Z (zd Z Z Z aM Z Z) Z<|zg hr fun q3 hr => zg hr fun q4 hr => yF Z (zd Z Z Z aM Z Z) Z<|zK Z ?_;refine yF (F := []) (s := none) Z (fun H _ => zn Z Z) Z ?_;refine yF (F := []) (s := none) Z (fun H _ => zA Z Z oD) Z ?_;refine yF Z (zd Z Z Z xx Z Z) Z<|yF Z (zt Z Z Z Z aM Z Z Z) Z<|yF Z (zt Z Z Z Z aM Z Z Z) Z<|zK Z ?_;refine LF.nil ⟨by kernel_rfl, ?_⟩;refine zT<|zr ?_;obtain rfl := zJ hr;exact zf (.three (.cellAgg Z Z (by kernel_rfl) Z) (.cellAgg Z Z (by kernel_rfl) Z) (.tmp Z))<|⟨_, rfl, (.cons (Conv.agg (.cons (Conv.vecAll Z Z Z) (.cons (Conv.vecAll Z Z Z) .nil))) (.cons (Conv.agg (.cons (Conv.vecTake Z q3) (.cons (Conv.vecTake Z q4) .nil))) (.cons zv .nil)))⟩
open Go.Proofs
structure dt where
 t21 : Int
 w_11 : Bool
 o5 : List Of
def iI (x : Nd) (c : Cf) (slot : Int) (v1 : (List Of)) (x1 : dt) : Option (dt ⊕ dt) :=
 bif decide (x1.t21 < (v1.length : Int)) then
  (ix v1 x1.t21).bind fun y1 =>
  (
   bif (x.Tick.tmod 3) == 2 then
    some ((x.Tick.tmod 3) == 2)
   else
    bif y1.Slot != slot then
     some (y1.Slot != slot)
    else
     (CT c slot).bind fun v4 =>
     some (y1.From != v4)
  ).bind fun v3 =>
  bif v3 then
   some (.inl (dt.mk (IntKind.i64.wrap (x1.t21 + 1)) x1.w_11 x1.o5))
  else
   bif (x1.o5.length : Int) == 8 then
    some (.inl (dt.mk (IntKind.i64.wrap (x1.t21 + 1)) true x1.o5))
   else
    (oS y1).bind fun v5 =>
    bif cg x1.o5.length [v5].length 104 then
     some (.inl (dt.mk (IntKind.i64.wrap (x1.t21 + 1)) x1.w_11 (x1.o5 ++ [v5])))
    else none
 else
  some (.inr (dt.mk x1.t21 x1.w_11 x1.o5))
def ti (l : List Of) (x : Nd) (c : Cf) (slot : Int) : Option (List Of × Bool) :=
 (sW [x.O, l]).bind fun v1 =>
 (iter (iI x c slot v1) bG (dt.mk 0 x.Full ([] : List Of))).bind fun v2 =>
 some (v2.o5, v2.w_11)
theorem Ff {l : List Of} {x : Nd} {c : Cf} {slot : Int} {tl : List Of} {c0 : Cf} {n0 : Nd} {in0 : Vw} {r_ : List Of × Bool} (hr : ti l x c slot = some r_) : LC Tryz.prog 98 [.ptr 4 0, (kO l)] [.box (bO c0), .box (mw n0), .box (cw in0), .box mP, .box [(iQ x.No), (iQ x.Tick), (kB x.V.B), (kV x.V.V), (kB x.In.B), (kV x.In.V), (kO x.O), (uQ x.C.ID.1), (uQ x.C.ID.2), (iQ x.C.Slot), (iQ x.C.Revoked), (bQ x.Full), (kI c.W), (uQ c.Seed), (iQ c.Epoch), (iQ c.Num), (iQ c.Den), (iQ slot), (kO tl)]] (Is (.tup []) [.box (bO c0), .box (mw n0), .box (cw in0), .box mP, .box [(iQ x.No), (iQ x.Tick), (kB x.V.B), (kV x.V.V), (kB x.In.B), (kV x.In.V), (jO 5 r_.1), (uQ x.C.ID.1), (uQ x.C.ID.2), (iQ x.C.Slot), (iQ x.C.Revoked), (bQ r_.2), (kI c.W), (uQ c.Seed), (iQ c.Epoch), (iQ c.Num), (iQ c.Den), (iQ slot), (kO tl)], .vec 9 (r_.1.map dG)]) := by
 refine dA Tryz.func98 Z Z Z ?_;unfold ti at hr;refine zQ<|zR<|zM Z<|yS Z (zn Z Z)<|yS Z (zA Z Z av)<|yS Z (zA Z Z ce)<|yS Z (zD Z Z Z bM Z Z)<|zM Z<|yS Z (lY Z we Z Z Z Z Z)<|zb hr fun v1 h_v1 hr => yS Z (zC Z Z Z (by kernel_rfl) (zp (GO h_v1) (.cons zv .nil)))<|zM Z<|zN<|zT<|zQ<|zR<|zM Z<|yS Z (zn Z Z)<|yS Z (zA Z Z av)<|yS Z (zA Z Z ce)<|yS Z (zs Z Z Z Z bM Z Z Z Z)<|zN<|zT<|zQ ?_;refine LW.ent (bP.lazyCell (i := 4) (j := 6) (m := 9) Z Z Z Z Z Z)<|zR<|zM Z<|yS Z (cP Z Z (by kernel_rfl))<|zM Z<|zN<|zT ?_;obtain ⟨v2, hb_v2, ho_v2⟩ := zB hr;clear hr;refine LW.tail (E := []) (O := [.box (bO c0), .box (mw n0), .box (cw in0), .box mP, .box [(iQ x.No), (iQ x.Tick), (kB x.V.B), (kV x.V.V), (kB x.In.B), (kV x.In.V), (jO 5 v2.o5), (uQ x.C.ID.1), (uQ x.C.ID.2), (iQ x.C.Slot), (iQ x.C.Revoked), (bQ v2.w_11), (kI c.W), (uQ c.Seed), (iQ c.Epoch), (iQ c.Num), (iQ c.Den), (iQ slot), (kO tl)], .vec 9 (v2.o5.map dG)]) ?_<|fun env_v2 H_v2 hw_v2 => ?_
 ·refine LW.block ?_;refine LW.iterB (E := fun x1 : dt => [(0, .ptr 4 0), (19, (kO v1)), (20, .p (.int .i64 (v1.length : Int))), (21, (iQ x1.t21))]) (O := fun x1 => [.box (bO c0), .box (mw n0), .box (cw in0), .box mP, .box [(iQ x.No), (iQ x.Tick), (kB x.V.B), (kV x.V.V), (kB x.In.B), (kV x.In.V), (jO 5 x1.o5), (uQ x.C.ID.1), (uQ x.C.ID.2), (iQ x.C.Slot), (iQ x.C.Revoked), (bQ x1.w_11), (kI c.W), (uQ c.Seed), (iQ c.Epoch), (iQ c.Num), (iQ c.Den), (iQ slot), (kO tl)], .vec 9 (x1.o5.map dG)]) hb_v2 (zW 6 ⟨rfl, rfl, rfl, rfl, trivial⟩ Z Z Z Z)<|fun x1 z_x1 hr hb_x1 => ?_;unfold iI at hr;refine zQ<|zR<|yS Z (aw Z Z Z Z)<|zN<|zT<|zQ ?_;refine zX Z (fun g1 => ?_)<|fun g1 => ?_
  ·
   refine zi g1 hr fun hr => zk<|zT<|zQ<|zl<|zQ<|zR<|zb hr fun y1 h_y1 hr => yS Z (zx Z Z Z ck h_y1 Z)<|yS Z (dj Z Z Z dV Z Z)<|yS Z (ze Z nJ Z Z)<|yS Z (zs Z Z Z Z dV Z Z Z Z)<|zN<|zT<|zl ?_;obtain ⟨v3, hb_v3, ho_v3⟩ := zB hr;clear hr;refine LW.cut (E := [(0, .ptr 4 0), (6, .ptr 6 0), (19, (kO v1)), (20, .p (.int .i64 (v1.length : Int))), (21, (iQ x1.t21)), (38, (bQ v3))]) (O := [.box (bO c0), .box (mw n0), .box (cw in0), .box mP, .box [(iQ x.No), (iQ x.Tick), (kB x.V.B), (kV x.V.V), (kB x.In.B), (kV x.In.V), (jO 5 x1.o5), (uQ x.C.ID.1), (uQ x.C.ID.2), (iQ x.C.Slot), (iQ x.C.Revoked), (bQ x1.w_11), (kI c.W), (uQ c.Seed), (iQ c.Epoch), (iQ c.Num), (iQ c.Den), (iQ slot), (kO tl)], .vec 9 (x1.o5.map dG), .box [(iQ y1.Slot), (iQ y1.From), (iQ y1.B.Slot), (iQ y1.B.From), (uQ y1.B.Parent.1), (uQ y1.B.Parent.2), (uQ y1.B.Salt), (kB y1.V.B), (kV y1.V.V)]]) ?_ ?_
   ·have hr := hb_v3;refine zQ<|zR<|zM Z<|yS Z (zn Z Z)<|yS Z (zA Z Z av)<|yS Z (zA Z Z cK)<|yS Z (zD Z Z Z bl Z Z)<|yS Z (ab.rem Z Z Z (by decide))<|yS Z (aw Z Z Z Z)<|zM Z<|zN<|zT ?_;refine zX Z (fun g2 => ?_)<|fun g2 => ?_
    ·
     refine zi g2 hr fun hr => zk<|zT ?_;obtain rfl := zJ hr;exact zW 7 ⟨Z, Z, Z, Z, Z, Z, trivial⟩ Z Z Z Z
    ·
     refine zo g2 hr fun hr => zQ<|LW.draw2 (by kernel_rfl) (by kernel_rfl)<|yE Z (zA Z Z pG)<|yE Z (zD Z Z Z bl Z Z)<|zH Z<|yE Z (zn Z Z)<|yE Z (zA Z Z cL)<|yE Z (zD Z Z Z bl Z Z)<|yE Z (aw Z Z Z Z)<|zH Z<|LO.nil<|zT ?_;refine zX Z (fun g3 => ?_)<|fun g3 => ?_
     ·
      refine zi g3 hr fun hr => zk<|zT ?_;obtain rfl := zJ hr;exact zW 7 ⟨Z, Z, Z, Z, Z, Z, trivial⟩ Z Z Z Z
     ·
      refine zo g3 hr fun hr => LW.draw2 (by kernel_rfl) (by kernel_rfl)<|yE Z (zA Z Z pH)<|yE Z (zD Z Z Z bl Z Z)<|zH Z<|yE Z (zn Z Z)<|yE Z (zA Z Z gt)<|yE Z (zD Z Z Z ca Z Z)<|zH Z<|yE Z (zn Z Z)<|yE Z (zA Z Z cL)<|yE Z (zD Z Z Z bl Z Z)<|zb hr fun v4 h_v4 hr => yE Z (zC Z Z Z (by kernel_rfl) (zp (IE h_v4) (.cons zv (.cons zv .nil))))<|yE Z (aw Z Z Z Z)<|zH Z<|LO.nil<|zT ?_;obtain rfl := zJ hr;exact zW 7 ⟨Z, Z, Z, Z, Z, Z, trivial⟩ Z Z Z Z
   ·have hr := ho_v3;clear hb_v3;refine zX Z (fun g4 => ?_)<|fun g4 => ?_
    ·
     refine zi g4 hr fun hr => zk<|ah<|ah<|zT<|zR<|yS Z (aw Z Z Z Z)<|zM Z<|zN<|zT ?_;obtain rfl := zJ hr;exact ⟨_, rfl, zW 6 ⟨rfl, rfl, rfl, rfl, trivial⟩ Z Z Z rfl⟩
    ·
     refine zo g4 hr fun hr => zQ<|zR<|zM Z<|yS Z (zn Z Z)<|yS Z (zA Z Z av)<|yS Z (zA Z Z ce)<|yS Z (zD Z Z Z bM Z Z)<|yS Z (ab.lenVM Z Z Z (by kernel_rfl))<|yS Z (aw Z Z Z Z)<|zM Z<|zN<|zT ?_;refine zX Z (fun g5 => ?_)<|fun g5 => ?_
     ·
      refine zi g5 hr fun hr => zR<|zM Z<|yS Z (zn Z Z)<|yS Z (zA Z Z av)<|yS Z (zA Z Z gq)<|yS Z (zs Z Z Z Z xx Z Z Z Z)<|zN<|ah<|ah<|zT<|zR<|yS Z (aw Z Z Z Z)<|zM Z<|zN<|zT ?_;obtain rfl := zJ hr;exact ⟨_, rfl, zW 6 ⟨rfl, rfl, rfl, rfl, trivial⟩ Z Z Z rfl⟩
     ·
      refine zo g5 hr fun hr => LW.drawW (by kernel_rfl) (by kernel_rfl)<|zK Z<|zK Z ?_;refine yF (F := []) (s := none) Z (fun H _ => zn Z Z) Z ?_;refine yF (F := []) (s := none) Z (fun H _ => zA Z Z av) Z ?_;refine yF (F := []) (s := none) Z (fun H _ => zA Z Z ce) Z ?_;refine yF Z (zd Z Z Z bM Z Z) Z<|yF Z (zd Z Z Z dV Z Z) Z<|zb hr fun v5 h_v5 hr => ?_;refine yF (F := []) (s := none) Z (fun H _ => zC Z Z Z (by kernel_rfl) (zp (A0 h_v5) (.cons zv .nil))) Z ?_;refine yF (F := []) (s := none) Z (fun H _ => lY Z ck Z Z Z Z Z) Z ?_;refine zg hr fun q1 hr => yF Z (bK.appendX dG x1.o5 [v5] rfl Z Z Z Z ck q1) Z ?_;refine yF (F := []) (s := none) Z (fun H _ => zn Z Z) Z ?_;refine yF (F := []) (s := none) Z (fun H _ => zA Z Z av) Z ?_;refine yF (F := []) (s := none) Z (fun H _ => zA Z Z ce) Z ?_;refine yF Z (zt Z Z Z Z bM Z Z Z) Z ?_;refine LF.nil ⟨by kernel_rfl, ?_⟩;refine ah<|ah<|zT<|zR<|yS Z (aw Z Z Z Z)<|zM Z<|zN<|zT ?_;obtain rfl := zJ hr;exact ⟨_, rfl, zW 6 ⟨rfl, rfl, rfl, rfl, trivial⟩ Z Z Z rfl⟩
  ·
   refine zo g1 hr fun hr => zq<|ao<|ao<|zy<|zT ?_;obtain rfl := zJ hr;have hr := congrArg some (hb_x1 _ rfl);obtain rfl := zJ hr;exact zW 6 trivial Z Z Z Z
 ·have hr := ho_v2;clear hb_v2;obtain rfl := zJ hr;exact fu hw_v2 .none ⟨rfl, rfl⟩
def jW (inp : Vw) (c : Cf) (slot : Int) (v : Vw) (full : Bool) : Option (Vw × Vw × Bool) :=
 (Ga c v inp slot).bind fun v1 =>
 bif full then
  some (v1.2.1, v1.1, true)
 else
  some (v1.2.1, v1.1, v1.2.2)
theorem oA {inp : Vw} {c : Cf} {slot : Int} {v : Vw} {full : Bool} {x : Nd} {o : List Of} {tl : List Of} {c0 : Cf} {n0 : Nd} {in0 : Vw} {r_ : Vw × Vw × Bool} (hr : jW inp c slot v full = some r_) : LC Tryz.prog 137 [.ptr 4 0, .p (k7 inp)] [.box (bO c0), .box (mw n0), .box (cw in0), .box mP, .box [(iQ x.No), (iQ x.Tick), (kB v.B), (kV v.V), (kB x.In.B), (kV x.In.V), (jO 5 o), (uQ x.C.ID.1), (uQ x.C.ID.2), (iQ x.C.Slot), (iQ x.C.Revoked), (bQ full), (kI c.W), (uQ c.Seed), (iQ c.Epoch), (iQ c.Num), (iQ c.Den), (iQ slot), (kO tl)], .vec 9 (o.map dG)] (Is (.p (k7 r_.1)) [.box (bO c0), .box (mw n0), .box (cw in0), .box mP, .box [(iQ x.No), (iQ x.Tick), (kB r_.2.1.B), (kV r_.2.1.V), (kB x.In.B), (kV x.In.V), (jO 5 o), (uQ x.C.ID.1), (uQ x.C.ID.2), (iQ x.C.Slot), (iQ x.C.Revoked), (bQ r_.2.2), (kI c.W), (uQ c.Seed), (iQ c.Epoch), (iQ c.Num), (iQ c.Den), (iQ slot), (kO tl)], .vec 9 (o.map dG)]) := by
 refine dA Tryz.func137 Z Z Z ?_;unfold jW at hr;refine zQ<|zR<|yS Z (b6 Z Z Z Z Z)<|yS Z (ze Z fS Z Z)<|zN<|zT<|zQ<|LW.ent (bP.slot Z)<|LW.ent (bP.slot Z)<|LW.drawW (by kernel_rfl) (by kernel_rfl)<|zK Z ?_;refine yF (F := []) (s := none) Z (fun H _ => zn Z Z) Z ?_;refine yF (F := []) (s := none) Z (fun H _ => zA Z Z gt) Z ?_;refine yF Z (zd Z Z Z ca Z Z) Z<|zK Z ?_;refine yF (F := []) (s := none) Z (fun H _ => zn Z Z) Z ?_;refine yF (F := []) (s := none) Z (fun H _ => zA Z Z av) Z ?_;refine yF (F := []) (s := none) Z (fun H _ => zA Z Z bT) Z ?_;refine yF Z (zd Z Z Z aM Z Z) Z<|yF Z (zd Z Z Z aM Z Z) Z<|zK Z ?_;refine yF (F := []) (s := none) Z (fun H _ => zn Z Z) Z ?_;refine yF (F := []) (s := none) Z (fun H _ => zA Z Z cL) Z ?_;refine yF Z (zd Z Z Z bl Z Z) Z<|zb hr fun v1 h_v1 hr => ?_;refine yF (F := []) (s := none) Z (fun H _ => zC Z Z Z (by kernel_rfl) (zp (JY h_v1) (.cons zv (.cons zv (.cons zv (.cons zv .nil)))))) Z ?_;refine zK Z ?_;refine yF (F := []) (s := none) Z (fun H _ => ed Z Z Z) Z ?_;refine yF (F := []) (s := none) Z (fun H _ => ed Z Z Z) Z ?_;refine yF (F := []) (s := none) Z (fun H _ => ed Z Z Z) Z ?_;refine yF Z (bK.alloc Z fS (id := 8) Z) Z<|yF Z (bK.alloc Z fS (id := 9) Z) Z<|yF Z (zt Z Z Z Z aM Z Z Z) Z<|yF Z (zt Z Z Z Z aM Z Z Z) Z<|zK Z ?_;refine LF.nil ⟨by kernel_rfl, ?_⟩;refine zT<|zQ<|LW.drawW (by kernel_rfl) (by kernel_rfl)<|zK Z<|zK Z<|yF Z (zd Z Z Z aM Z Z) Z<|zK Z ?_;refine yF (F := []) (s := none) Z (fun H _ => zn Z Z) Z ?_;refine yF (F := []) (s := none) Z (fun H _ => zA Z Z av) Z ?_;refine yF (F := []) (s := none) Z (fun H _ => zA Z Z gq) Z ?_;refine yF Z (zd Z Z Z xx Z Z) Z<|zK Z ?_;refine LF.cases 35 Z (fun (g1 : full = true) => ?_) (fun (g1 : full = false) => ?_)
 ·
  refine zi g1 hr fun hr => LF.sk Z Z Z (gd g1 Z) Z Z ?_;refine yF (F := []) (s := none) Z (fun H _ => cS Z (a8 g1 Z) Z) Z ?_;refine yF (F := []) (s := none) Z (fun H _ => zn Z Z) Z ?_;refine yF (F := []) (s := none) Z (fun H _ => zA Z Z av) Z ?_;refine yF (F := []) (s := none) Z (fun H _ => zA Z Z bT) Z ?_;refine yF Z (zt Z Z Z Z aM Z Z Z) Z ?_;refine yF (F := []) (s := none) Z (fun H _ => zn Z Z) Z ?_;refine yF (F := []) (s := none) Z (fun H _ => zA Z Z av) Z ?_;refine yF (F := []) (s := none) Z (fun H _ => zA Z Z gq) Z ?_;refine yF Z (zt Z Z Z Z xx Z Z Z) Z ?_;refine LF.nil ⟨by kernel_rfl, ?_⟩;refine zT<|zQ<|zR<|yS Z (zD Z Z Z aM Z Z)<|yS Z (zs Z Z Z Z aM Z Z Z Z)<|zN<|zT<|zr ?_;obtain rfl := zJ hr;exact iK (env' := []) (H' := [.box (bO c0), .box (mw n0), .box (cw in0), .box mP, .box [(iQ x.No), (iQ x.Tick), (kB v1.1.B), (kV v1.1.V), (kB x.In.B), (kV x.In.V), (jO 5 o), (uQ x.C.ID.1), (uQ x.C.ID.2), (iQ x.C.Slot), (iQ x.C.Revoked), (bQ true), (kI c.W), (uQ c.Seed), (iQ c.Epoch), (iQ c.Num), (iQ c.Den), (iQ slot), (kO tl)], .vec 9 (o.map dG)]) (zW 6 trivial Z Z Z Z) (.one (.cellAgg Z Z (by kernel_rfl) Z)) Z<|⟨rfl, rfl⟩
 ·
  have hr := zO g1 hr;refine LF.gd (F := []) (s := none) Z Z Z (gd g1 Z) Z (fun H _ => ab.move Z Z) Z ?_;refine yF (F := []) (s := none) Z (fun H _ => bN Z (a8 g1 Z) Z) Z ?_;refine yF (F := []) (s := none) Z (fun H _ => zn Z Z) Z ?_;refine yF (F := []) (s := none) Z (fun H _ => zA Z Z av) Z ?_;refine yF (F := []) (s := none) Z (fun H _ => zA Z Z bT) Z ?_;refine yF Z (zt Z Z Z Z aM Z Z Z) Z ?_;refine yF (F := []) (s := none) Z (fun H _ => zn Z Z) Z ?_;refine yF (F := []) (s := none) Z (fun H _ => zA Z Z av) Z ?_;refine yF (F := []) (s := none) Z (fun H _ => zA Z Z gq) Z ?_;refine yF Z (zt Z Z Z Z xx Z Z Z) Z ?_;refine LF.nil ⟨by kernel_rfl, ?_⟩;refine zT<|zQ<|zR<|yS Z (zD Z Z Z aM Z Z)<|yS Z (zs Z Z Z Z aM Z Z Z Z)<|zN<|zT<|zr ?_;obtain rfl := zJ hr;exact iK (env' := []) (H' := [.box (bO c0), .box (mw n0), .box (cw in0), .box mP, .box [(iQ x.No), (iQ x.Tick), (kB v1.1.B), (kV v1.1.V), (kB x.In.B), (kV x.In.V), (jO 5 o), (uQ x.C.ID.1), (uQ x.C.ID.2), (iQ x.C.Slot), (iQ x.C.Revoked), (bQ v1.2.2), (kI c.W), (uQ c.Seed), (iQ c.Epoch), (iQ c.Num), (iQ c.Den), (iQ slot), (kO tl)], .vec 9 (o.map dG)]) (zW 6 trivial Z Z Z Z) (.one (.cellAgg Z Z (by kernel_rfl) Z)) Z<|⟨rfl, rfl⟩
def rP (c : Cf) (v : Vw) (s : Int) : Option ID :=
 (jR c v s).bind fun v1 =>
 some v1
theorem Dg {c : Cf} {v : Vw} {s : Int} {x : Nd} {slot : Int} {o : List Of} {tl : List Of} {c0 : Cf} {n0 : Nd} {in0 : Vw} {r_ : ID} (hr : rP c v s = some r_) : LC Tryz.prog 138 [.ptr 4 0, (iQ s)] [.box (bO c0), .box (mw n0), .box (cw in0), .box mP, .box [(iQ x.No), (iQ x.Tick), (kB v.B), (kV v.V), (kB x.In.B), (kV x.In.V), (jO 5 o), (uQ x.C.ID.1), (uQ x.C.ID.2), (iQ x.C.Slot), (iQ x.C.Revoked), (bQ x.Full), (kI c.W), (uQ c.Seed), (iQ c.Epoch), (iQ c.Num), (iQ c.Den), (iQ slot), (kO tl)], .vec 9 (o.map dG)] (Is (.p (cv r_)) [.box (bO c0), .box (mw n0), .box (cw in0), .box mP, .box [(iQ x.No), (iQ x.Tick), (kB v.B), (kV v.V), (kB x.In.B), (kV x.In.V), (jO 5 o), (uQ x.C.ID.1), (uQ x.C.ID.2), (iQ x.C.Slot), (iQ x.C.Revoked), (bQ x.Full), (kI c.W), (uQ c.Seed), (iQ c.Epoch), (iQ c.Num), (iQ c.Den), (iQ slot), (kO tl)], .vec 9 (o.map dG)]) := by
 refine dA Tryz.func138 Z Z Z ?_;unfold rP at hr;refine zQ<|zR<|yS Z (ze Z kp Z Z)<|zN<|zT<|zQ<|LW.drawLast (m := 11) (by kernel_rfl) (by kernel_rfl) (by kernel_rfl)<|zH Z<|yE Z (zn Z Z)<|yE Z (zA Z Z gt)<|yE Z (zD Z Z Z ca Z Z)<|zH Z<|yE Z (zn Z Z)<|yE Z (zA Z Z av)<|yE Z (zA Z Z bT)<|yE Z (zD Z Z Z aM Z Z)<|zH Z<|zb hr fun v1 h_v1 hr => yE Z (zC Z Z Z (by kernel_rfl) (zp (DO h_v1) (.cons zv (.cons zv (.cons zv .nil)))))<|LO.nil<|yS Z (zs Z Z Z Z aT Z Z Z Z)<|zN<|zT<|zr ?_;obtain rfl := zJ hr;exact iK (env' := []) (H' := [.box (bO c0), .box (mw n0), .box (cw in0), .box mP, .box [(iQ x.No), (iQ x.Tick), (kB v.B), (kV v.V), (kB x.In.B), (kV x.In.V), (jO 5 o), (uQ x.C.ID.1), (uQ x.C.ID.2), (iQ x.C.Slot), (iQ x.C.Revoked), (bQ x.Full), (kI c.W), (uQ c.Seed), (iQ c.Epoch), (iQ c.Num), (iQ c.Den), (iQ slot), (kO tl)], .vec 9 (o.map dG)]) (zW 6 trivial Z Z Z Z) (.one (.cellAgg Z Z (by kernel_rfl) Z)) Z<|⟨rfl, rfl⟩
theorem Ch {c : Cf} {v : Vw} {s : Int} {r_ : ID} (h : jR c v s = some r_) : rP c v s = some r_ := by unfold rP; rw [h]; rfl
def ox (c : Cf) (v : Vw) (s : Int) : Option ID :=
 (jR c v s).bind fun v1 =>
 some v1
theorem tA {c : Cf} {v : Vw} {s : Int} {x : Nd} {slot : Int} {o : List Of} {tl : List Of} {c0 : Cf} {n0 : Nd} {in0 : Vw} {r_ : ID} (hr : ox c v s = some r_) : LC Tryz.prog 138 [.ptr 4 0, (iQ s)] [.box (bO c0), .box (mw n0), .box (cw in0), .box mP, .box [(iQ x.No), (iQ x.Tick), (kB v.B), (kV v.V), (kB x.In.B), (kV x.In.V), (kO x.O), (uQ x.C.ID.1), (uQ x.C.ID.2), (iQ x.C.Slot), (iQ x.C.Revoked), (bQ x.Full), (kI c.W), (uQ c.Seed), (iQ c.Epoch), (iQ c.Num), (iQ c.Den), (iQ slot), (kO tl)], .vec 9 (o.map dG)] (Is (.p (cv r_)) [.box (bO c0), .box (mw n0), .box (cw in0), .box mP, .box [(iQ x.No), (iQ x.Tick), (kB v.B), (kV v.V), (kB x.In.B), (kV x.In.V), (kO x.O), (uQ x.C.ID.1), (uQ x.C.ID.2), (iQ x.C.Slot), (iQ x.C.Revoked), (bQ x.Full), (kI c.W), (uQ c.Seed), (iQ c.Epoch), (iQ c.Num), (iQ c.Den), (iQ slot), (kO tl)], .vec 9 (o.map dG)]) := by
 refine dA Tryz.func138 Z Z Z ?_;unfold ox at hr;refine zQ<|zR<|yS Z (ze Z kp Z Z)<|zN<|zT<|zQ<|LW.drawLast (m := 11) (by kernel_rfl) (by kernel_rfl) (by kernel_rfl)<|zH Z<|yE Z (zn Z Z)<|yE Z (zA Z Z gt)<|yE Z (zD Z Z Z ca Z Z)<|zH Z<|yE Z (zn Z Z)<|yE Z (zA Z Z av)<|yE Z (zA Z Z bT)<|yE Z (zD Z Z Z aM Z Z)<|zH Z<|zb hr fun v1 h_v1 hr => yE Z (zC Z Z Z (by kernel_rfl) (zp (DO h_v1) (.cons zv (.cons zv (.cons zv .nil)))))<|LO.nil<|yS Z (zs Z Z Z Z aT Z Z Z Z)<|zN<|zT<|zr ?_;obtain rfl := zJ hr;exact iK (env' := []) (H' := [.box (bO c0), .box (mw n0), .box (cw in0), .box mP, .box [(iQ x.No), (iQ x.Tick), (kB v.B), (kV v.V), (kB x.In.B), (kV x.In.V), (kO x.O), (uQ x.C.ID.1), (uQ x.C.ID.2), (iQ x.C.Slot), (iQ x.C.Revoked), (bQ x.Full), (kI c.W), (uQ c.Seed), (iQ c.Epoch), (iQ c.Num), (iQ c.Den), (iQ slot), (kO tl)], .vec 9 (o.map dG)]) (zW 6 trivial Z Z Z Z) (.one (.cellAgg Z Z (by kernel_rfl) Z)) Z<|⟨rfl, rfl⟩
theorem rK {c : Cf} {v : Vw} {s : Int} {r_ : ID} (h : jR c v s = some r_) : ox c v s = some r_ := by unfold ox; rw [h]; rfl
def mY (x : Nd) (c : Cf) (slot : Int) (tl : List Of) : Option (Vw × Vw × Bool × List Of) :=
 (CT c slot).bind fun v1 =>
 bif x.No != v1 then
  some (x.V, x.In, x.Full, tl)
 else
  (jW x.In c slot x.V x.Full).bind fun v2 =>
  (jR c v2.2.1 (IntKind.i64.wrap (slot - 1))).bind fun v3 =>
  (oS (Of.mk slot x.No (Bk.mk slot x.No v3 0) v2.2.1)).bind fun v4 =>
  (qO (Bk.mk slot x.No v3 0)).bind fun v5 =>
  (jW v5 c slot v2.2.1 v2.2.2).bind fun v6 =>
  some (v6.2.1, v2.1, v6.2.2, [v4])
theorem Da {x : Nd} {o : List Of} {c : Cf} {slot : Int} {tl : List Of} {c0 : Cf} {n0 : Nd} {in0 : Vw} {r_ : Vw × Vw × Bool × List Of} (hr : mY x c slot tl = some r_) : LC Tryz.prog 99 [.ptr 4 0] [.box (bO c0), .box (mw n0), .box (cw in0), .box mP, .box [(iQ x.No), (iQ x.Tick), (kB x.V.B), (kV x.V.V), (kB x.In.B), (kV x.In.V), (jO 5 o), (uQ x.C.ID.1), (uQ x.C.ID.2), (iQ x.C.Slot), (iQ x.C.Revoked), (bQ x.Full), (kI c.W), (uQ c.Seed), (iQ c.Epoch), (iQ c.Num), (iQ c.Den), (iQ slot), (kO tl)], .vec 9 (o.map dG)] (Is (.tup []) [.box (bO c0), .box (mw n0), .box (cw in0), .box mP, .box [(iQ x.No), (iQ x.Tick), (kB r_.1.B), (kV r_.1.V), (kB r_.2.1.B), (kV r_.2.1.V), (jO 5 o), (uQ x.C.ID.1), (uQ x.C.ID.2), (iQ x.C.Slot), (iQ x.C.Revoked), (bQ r_.2.2.1), (kI c.W), (uQ c.Seed), (iQ c.Epoch), (iQ c.Num), (iQ c.Den), (iQ slot), (kO r_.2.2.2)], .vec 9 (o.map dG)]) := by
 refine dA Tryz.func99 Z Z Z ?_;unfold mY at hr;refine zQ<|zQ<|LW.draw2 (by kernel_rfl) (by kernel_rfl)<|zH Z<|yE Z (zn Z Z)<|yE Z (zA Z Z av)<|yE Z (zA Z Z gp)<|yE Z (zD Z Z Z bl Z Z)<|zH Z<|yE Z (zn Z Z)<|yE Z (zA Z Z gt)<|yE Z (zD Z Z Z ca Z Z)<|zH Z<|yE Z (zn Z Z)<|yE Z (zA Z Z cL)<|yE Z (zD Z Z Z bl Z Z)<|zb hr fun v1 h_v1 hr => yE Z (zC Z Z Z (by kernel_rfl) (zp (IE h_v1) (.cons zv (.cons zv .nil))))<|yE Z (aw Z Z Z Z)<|LO.nil<|zT ?_;refine zX Z (fun g1 => ?_)<|fun g1 => ?_
 ·
  refine zi g1 hr fun hr => LW.ret<|af ?_;obtain rfl := zJ hr;exact ap .none<|⟨rfl, rfl⟩
 ·
  refine zo g1 hr fun hr => zk<|zT<|zQ<|zR<|zM Z<|zM Z<|zM Z<|yS Z (zn Z Z)<|yS Z (zA Z Z av)<|yS Z (zA Z Z bU)<|yS Z (zD Z Z Z aM Z Z)<|zb hr fun v2 h_v2 hr => yS Z (zC Z Z Z (by kernel_rfl) (oA (x := Nd.mk x.No x.Tick x.V x.In [] x.C x.Full) (o := o) (tl := tl) h_v2))<|yS Z (zn Z Z)<|yS Z (zA Z Z av)<|yS Z (zA Z Z bU)<|yS Z (zs Z Z Z Z aM Z Z Z Z)<|zN<|zT<|zQ<|LW.ent (bP.slot Z)<|LW.drawW (by kernel_rfl) (by kernel_rfl)<|zK Z ?_;refine yF (F := []) (s := none) Z (fun H _ => zn Z Z) Z ?_;refine yF (F := []) (s := none) Z (fun H _ => zA Z Z cL) Z ?_;refine yF Z (zd Z Z Z bl Z Z) Z<|zK Z ?_;refine yF (F := []) (s := none) Z (fun H _ => zn Z Z) Z ?_;refine yF (F := []) (s := none) Z (fun H _ => zA Z Z av) Z ?_;refine yF (F := []) (s := none) Z (fun H _ => zA Z Z gp) Z ?_;refine yF Z (zd Z Z Z bl Z Z) Z<|zK Z<|zK Z ?_;refine yF (F := []) (s := none) Z (fun H _ => zn Z Z) Z ?_;refine yF (F := []) (s := none) Z (fun H _ => zA Z Z cL) Z ?_;refine yF Z (zd Z Z Z bl Z Z) Z ?_;refine yF (F := []) (s := none) Z (fun H _ => aw Z Z Z Z) Z ?_;obtain ⟨v3, h_v3, hr⟩ := zB hr;refine yF Z (bK.preH (s := none) (fun _ => zC Z Z Z (by kernel_rfl) (LC.pre (Dg (x := Nd.mk x.No x.Tick v2.2.1 v2.1 [] x.C v2.2.2) (o := o) (tl := tl) (Ch h_v3)) Z Z Z)) Z Z Z Z) Z ?_;refine yF (F := []) (s := none) Z (fun H _ => ab.build Z Gj Z Z Z) Z ?_;refine yF Z (bK.alloc Z qJ (id := 6) Z) Z<|yF Z (zt Z Z Z Z bY Z Z Z) Z ?_;refine LF.nil ⟨by kernel_rfl, ?_⟩;refine zT<|zQ<|LW.drawW (by kernel_rfl) (by kernel_rfl)<|zK Z<|zK Z ?_;refine yF (F := []) (s := none) Z (fun H _ => zn Z Z) Z ?_;refine yF (F := []) (s := none) Z (fun H _ => zA Z Z cL) Z ?_;refine yF Z (zd Z Z Z bl Z Z) Z<|zK Z ?_;refine yF (F := []) (s := none) Z (fun H _ => zn Z Z) Z ?_;refine yF (F := []) (s := none) Z (fun H _ => zA Z Z av) Z ?_;refine yF (F := []) (s := none) Z (fun H _ => zA Z Z gp) Z ?_;refine yF Z (zd Z Z Z bl Z Z) Z<|yF Z (zd Z Z Z bY Z Z) Z<|zK Z ?_;refine yF (F := []) (s := none) Z (fun H _ => zn Z Z) Z ?_;refine yF (F := []) (s := none) Z (fun H _ => zA Z Z av) Z ?_;refine yF (F := []) (s := none) Z (fun H _ => zA Z Z bT) Z ?_;refine yF Z (zd Z Z Z aM Z Z) Z ?_;refine yF (F := []) (s := none) Z (fun H _ => ab.build Z AW Z Z Z) Z ?_;obtain ⟨v4, h_v4, hr⟩ := zB hr;refine yF (F := []) (s := none) Z (fun H _ => zC Z Z Z (by kernel_rfl) (zp (A0 h_v4) (.cons zv .nil))) Z ?_;refine yF (F := []) (s := none) Z (fun H _ => lY Z ck Z Z Z Z Z) Z ?_;refine yF (F := []) (s := none) Z (fun H _ => zn Z Z) Z ?_;refine yF (F := []) (s := none) Z (fun H _ => zA Z Z mj) Z ?_;refine yF Z (zt Z Z Z Z bM Z Z Z) Z ?_;refine LF.nil ⟨by kernel_rfl, ?_⟩;refine zT<|zR<|zM Z<|yS Z (zD Z Z Z bY Z Z)<|zb hr fun v5 h_v5 hr => yS Z (zC Z Z Z (by kernel_rfl) (zp (DT h_v5) (.cons zv .nil)))<|zb hr fun v6 h_v6 hr => yS Z (zC Z Z Z (by kernel_rfl) (LC.pre (oA (x := Nd.mk x.No x.Tick v2.2.1 v2.1 [] x.C v2.2.2) (o := o) (tl := [v4]) h_v6) Z Z Z))<|zN ?_;obtain rfl := zJ hr;exact fu (env' := []) (H' := [.box (bO c0), .box (mw n0), .box (cw in0), .box mP, .box [(iQ x.No), (iQ x.Tick), (kB v6.2.1.B), (kV v6.2.1.V), (kB v2.1.B), (kV v2.1.V), (jO 5 o), (uQ x.C.ID.1), (uQ x.C.ID.2), (iQ x.C.Slot), (iQ x.C.Revoked), (bQ v6.2.2), (kI c.W), (uQ c.Seed), (iQ c.Epoch), (iQ c.Num), (iQ c.Den), (iQ slot), .p (.slice 9 ([v4].map dG))], .vec 9 (o.map dG)]) (zW 6 trivial Z Z Z Z) .none<|⟨rfl, rfl⟩
structure cN where
 t11 : Int
 w_2 : List Bk
 w_3 : List Vt
 w_4 : List Bk
 w_5 : List Vt
 w_11 : Bool
def fb (o : List Of) (c : Cf) (slot : Int) (x1 : cN) : Option (cN ⊕ cN) :=
 bif decide (x1.t11 < (o.length : Int)) then
  (ix o x1.t11).bind fun y1 =>
  (qO y1.B).bind fun v2 =>
  (AD y1.V v2).bind fun v3 =>
  (jW v3 c slot (Vw.mk x1.w_2 x1.w_3) x1.w_11).bind fun v4 =>
  (AD (Vw.mk x1.w_4 x1.w_5) v4.1).bind fun v5 =>
  some (.inl (cN.mk (IntKind.i64.wrap (x1.t11 + 1)) v4.2.1.B v4.2.1.V v5.B v5.V v4.2.2))
 else
  some (.inr (cN.mk x1.t11 x1.w_2 x1.w_3 x1.w_4 x1.w_5 x1.w_11))
def kN (x : Nd) (o : List Of) (c : Cf) (slot : Int) : Option (Vw × Vw × Bool) :=
 (iter (fb o c slot) bG (cN.mk 0 x.V.B x.V.V x.In.B x.In.V x.Full)).bind fun v1 =>
 (FN c slot x.No).bind fun v6 =>
 bif v6 then
  (jR c (Vw.mk v1.w_2 v1.w_3) (IntKind.i64.wrap (slot - 1))).bind fun v7 =>
  (AD (Vw.mk v1.w_4 v1.w_5) (Vw.mk [] [Vt.mk x.No slot v7])).bind fun v8 =>
  some (Vw.mk v1.w_2 v1.w_3, v8, v1.w_11)
 else
  some (Vw.mk v1.w_2 v1.w_3, Vw.mk v1.w_4 v1.w_5, v1.w_11)
theorem A4 {x : Nd} {o : List Of} {c : Cf} {slot : Int} {tl : List Of} {c0 : Cf} {n0 : Nd} {in0 : Vw} {r_ : Vw × Vw × Bool} (hr : kN x o c slot = some r_) : LC Tryz.prog 100 [.ptr 4 0] [.box (bO c0), .box (mw n0), .box (cw in0), .box mP, .box [(iQ x.No), (iQ x.Tick), (kB x.V.B), (kV x.V.V), (kB x.In.B), (kV x.In.V), (jO 5 o), (uQ x.C.ID.1), (uQ x.C.ID.2), (iQ x.C.Slot), (iQ x.C.Revoked), (bQ x.Full), (kI c.W), (uQ c.Seed), (iQ c.Epoch), (iQ c.Num), (iQ c.Den), (iQ slot), (kO tl)], .vec 9 (o.map dG)] (Is (.tup []) [.box (bO c0), .box (mw n0), .box (cw in0), .box mP, .box [(iQ x.No), (iQ x.Tick), (kB r_.1.B), (kV r_.1.V), (kB r_.2.1.B), (kV r_.2.1.V), (kO ([] : List Of)), (uQ x.C.ID.1), (uQ x.C.ID.2), (iQ x.C.Slot), (iQ x.C.Revoked), (bQ r_.2.2), (kI c.W), (uQ c.Seed), (iQ c.Epoch), (iQ c.Num), (iQ c.Den), (iQ slot), (kO tl)], .vec 9 (o.map dG)]) := by
 refine dA Tryz.func100 Z Z Z ?_;unfold kN at hr;refine zQ<|zQ<|zR<|zM Z<|yS Z (zn Z Z)<|yS Z (zA Z Z av)<|yS Z (zA Z Z ce)<|yS Z (zD Z Z Z bM Z Z)<|yS Z (ab.lenVM Z Z Z (by kernel_rfl))<|zM Z<|zN<|zT ?_;obtain ⟨v1, hb_v1, ho_v1⟩ := zB hr;clear hr;refine LW.tail (E := [(0, .ptr 4 0)]) (O := [.box (bO c0), .box (mw n0), .box (cw in0), .box mP, .box [(iQ x.No), (iQ x.Tick), (kB v1.w_2), (kV v1.w_3), (kB v1.w_4), (kV v1.w_5), (jO 5 o), (uQ x.C.ID.1), (uQ x.C.ID.2), (iQ x.C.Slot), (iQ x.C.Revoked), (bQ v1.w_11), (kI c.W), (uQ c.Seed), (iQ c.Epoch), (iQ c.Num), (iQ c.Den), (iQ slot), (kO tl)], .vec 9 (o.map dG)]) ?_<|fun env_v1 H_v1 hw_v1 => ?_
 ·refine LW.block ?_;refine LW.iterB (E := fun x1 : cN => [(0, .ptr 4 0), (9, (jO 5 o)), (10, .p (.int .i64 (o.length : Int))), (11, (iQ x1.t11))]) (O := fun x1 => [.box (bO c0), .box (mw n0), .box (cw in0), .box mP, .box [(iQ x.No), (iQ x.Tick), (kB x1.w_2), (kV x1.w_3), (kB x1.w_4), (kV x1.w_5), (jO 5 o), (uQ x.C.ID.1), (uQ x.C.ID.2), (iQ x.C.Slot), (iQ x.C.Revoked), (bQ x1.w_11), (kI c.W), (uQ c.Seed), (iQ c.Epoch), (iQ c.Num), (iQ c.Den), (iQ slot), (kO tl)], .vec 9 (o.map dG)]) hb_v1 (zW 6 ⟨rfl, rfl, rfl, rfl, trivial⟩ Z Z Z Z)<|fun x1 z_x1 hr hb_x1 => ?_;unfold fb at hr;refine zQ<|zR<|yS Z (aw Z Z Z Z)<|zN<|zT<|zQ ?_;refine zX Z (fun g1 => ?_)<|fun g1 => ?_
  ·
   refine zi g1 hr fun hr => zk<|zT<|zQ<|zl<|zQ<|zR<|zb hr fun y1 h_y1 hr => yS Z (ab.indexAddrVX Z Z Z Z ck h_y1)<|yS Z (ab.loadVX Z Z Z dV h_y1 Z Z Z Z)<|yS Z (ze Z nJ Z Z)<|yS Z (zs Z Z Z Z dV Z Z Z Z)<|zN<|zT ?_;refine LW.drawWJ (z := 4) (e := 18) (J := (fun o_ => ∃ a_ b_ c_ : LV, o_ = .box [(iQ x.No), (iQ x.Tick), a_, b_, (kB x1.w_4), (kV x1.w_5), (jO 5 o), (uQ x.C.ID.1), (uQ x.C.ID.2), (iQ x.C.Slot), (iQ x.C.Revoked), c_, (kI c.W), (uQ c.Seed), (iQ c.Epoch), (iQ c.Num), (iQ c.Den), (iQ slot), (kO tl)])) (by kernel_rfl) (by kernel_rfl) (fun o_ h_ => ⟨_, _, _, (zJ h_).symm⟩) ?_;refine gZ.mv Z<|gZ.mv Z ?_;refine gZ.st (F := []) (s := none) Z Z Z (fun H _ => ab.nilCheck Z Z) (fun _ => trivial) Z ?_;refine gZ.st (F := []) (s := none) Z Z Z (fun H _ => zA Z Z av) (fun _ => trivial) Z ?_;refine gZ.st (F := []) (s := none) Z Z Z (fun H _ => zA Z Z bU) (fun _ => trivial) Z ?_;refine gZ.look Z Z Z (by kernel_rfl) Z (fun H_ y_ hy_ hj_ => by obtain ⟨a_, b_, c_, rfl⟩ := hj_; exact zD Z Z hy_ aM Z Z) ?_;refine gZ.mv Z ?_;refine gZ.st (F := []) (s := none) Z Z Z (fun H _ => zA Z Z gr) (fun _ => trivial) Z ?_;refine gZ.st Z Z Z (bK.load Z Z Z aM Z Z) (fun _ => trivial) Z ?_;refine gZ.st (F := []) (s := none) Z Z Z (fun H _ => zA Z Z pI) (fun _ => trivial) Z ?_;refine gZ.st Z Z Z (bK.load Z Z Z bY Z Z) (fun _ => trivial) Z ?_;obtain ⟨v2, h_v2, hr⟩ := zB hr;refine gZ.st (F := []) (s := none) Z Z Z (fun H _ => zC Z Z Z (by kernel_rfl) (zp (DT h_v2) (.cons zv .nil))) (fun _ => trivial) Z ?_;obtain ⟨v3, h_v3, hr⟩ := zB hr;refine gZ.st (F := []) (s := none) Z Z Z (fun H _ => zC Z Z Z (by kernel_rfl) (zp (E0 h_v3) (.cons zv (.cons zv .nil)))) (fun _ => trivial) Z ?_;obtain ⟨v4, h_v4, hr⟩ := zB hr;refine gZ.st Z Z Z (bK.preH (s := some (4, .box [(iQ x.No), (iQ x.Tick), (kB v4.2.1.B), (kV v4.2.1.V), (kB x1.w_4), (kV x1.w_5), (jO 5 o), (uQ x.C.ID.1), (uQ x.C.ID.2), (iQ x.C.Slot), (iQ x.C.Revoked), (bQ v4.2.2), (kI c.W), (uQ c.Seed), (iQ c.Epoch), (iQ c.Num), (iQ c.Den), (iQ slot), (kO tl)])) (fun _ => zC Z Z Z (by kernel_rfl) (LC.pre (oA (x := Nd.mk x.No x.Tick (Vw.mk x1.w_2 x1.w_3) (Vw.mk x1.w_4 x1.w_5) [] x.C x1.w_11) (o := o) (tl := tl) h_v4) Z Z Z)) Z Z Z Z) (fun _ _ => ⟨_, _, _, rfl⟩) Z ?_;obtain ⟨v5, h_v5, hr⟩ := zB hr;refine gZ.st (F := []) (s := none) Z Z Z (fun H _ => zC Z Z Z (by kernel_rfl) (zp (E0 h_v5) (.cons zv (.cons zv .nil)))) (fun _ => trivial) Z ?_;refine gZ.st (F := []) (s := none) Z Z Z (fun H _ => ab.nilCheck Z Z) (fun _ => trivial) Z ?_;refine gZ.st (F := []) (s := none) Z Z Z (fun H _ => zA Z Z av) (fun _ => trivial) Z ?_;refine gZ.st (F := []) (s := none) Z Z Z (fun H _ => zA Z Z bU) (fun _ => trivial) Z ?_;refine gZ.st Z Z Z (bK.store Z Z Z Z aM Z Z Z) (fun h => absurd h (by decide)) Z ?_;refine gZ.nil ⟨by kernel_rfl, ?_⟩;refine ah<|zT<|zR<|yS Z (aw Z Z Z Z)<|zM Z<|zN<|zT ?_;obtain rfl := zJ hr;exact ⟨_, rfl, zW 6 ⟨rfl, rfl, rfl, rfl, trivial⟩ Z Z Z rfl⟩
  ·
   refine zo g1 hr fun hr => zq<|ao<|ao<|zy<|zT ?_;obtain rfl := zJ hr;have hr := congrArg some (hb_x1 _ rfl);obtain rfl := zJ hr;exact zW 6 ⟨Z, trivial⟩ Z Z Z Z
 ·have hr := ho_v1;clear hb_v1;refine zT<|LW.weak hw_v1<|zQ<|zR<|zM Z<|yS Z (zn Z Z)<|yS Z (zA Z Z av)<|yS Z (zA Z Z ce)<|yS Z (zs Z Z Z Z bM Z Z Z Z)<|zN<|zT<|zQ<|LW.ent (bP.zsCell (i := 4) (j := 6) (m := 9) Z Z Z Z)<|LW.draw2 (by kernel_rfl) (by kernel_rfl)<|zH Z<|yE Z (zn Z Z)<|yE Z (zA Z Z gt)<|yE Z (zD Z Z Z ca Z Z)<|zH Z<|yE Z (zn Z Z)<|yE Z (zA Z Z cL)<|yE Z (zD Z Z Z bl Z Z)<|zH Z<|yE Z (zn Z Z) ?_;refine yE Z (zA Z Z av)<|yE Z (zA Z Z gp)<|yE Z (zD Z Z Z bl Z Z)<|zb hr fun v6 h_v6 hr => yE Z (zC Z Z Z (by kernel_rfl) (zp (JH h_v6) (.cons zv (.cons zv (.cons zv .nil)))))<|LO.nil<|zT ?_;refine zX Z (fun g2 => ?_)<|fun g2 => ?_
  ·
   refine zi g2 hr fun hr => zQ<|LW.ent (bP.slot Z)<|LW.drawW (by kernel_rfl) (by kernel_rfl)<|zK Z ?_;refine yF (F := []) (s := none) Z (fun H _ => zn Z Z) Z ?_;refine yF (F := []) (s := none) Z (fun H _ => zA Z Z av) Z ?_;refine yF (F := []) (s := none) Z (fun H _ => zA Z Z gp) Z ?_;refine yF Z (zd Z Z Z bl Z Z) Z<|zK Z ?_;refine yF (F := []) (s := none) Z (fun H _ => zn Z Z) Z ?_;refine yF (F := []) (s := none) Z (fun H _ => zA Z Z cL) Z ?_;refine yF Z (zd Z Z Z bl Z Z) Z<|zK Z<|zK Z ?_;refine yF (F := []) (s := none) Z (fun H _ => zn Z Z) Z ?_;refine yF (F := []) (s := none) Z (fun H _ => zA Z Z cL) Z ?_;refine yF Z (zd Z Z Z bl Z Z) Z ?_;refine yF (F := []) (s := none) Z (fun H _ => aw Z Z Z Z) Z ?_;obtain ⟨v7, h_v7, hr⟩ := zB hr;refine yF Z (bK.preH (s := none) (fun _ => zC Z Z Z (by kernel_rfl) (LC.pre (tA (x := Nd.mk x.No x.Tick (Vw.mk v1.w_2 v1.w_3) (Vw.mk v1.w_4 v1.w_5) [] x.C v1.w_11) (o := o) (tl := tl) (rK h_v7)) Z Z Z)) Z Z Z Z) Z ?_;refine yF (F := []) (s := none) Z (fun H _ => ab.build Z Gk Z Z Z) Z ?_;refine yF Z (bK.alloc Z qK (id := 6) Z) Z<|yF Z (zt Z Z Z Z bZ Z Z Z) Z ?_;refine LF.nil ⟨by kernel_rfl, ?_⟩;refine zT<|LW.drawW (by kernel_rfl) (by kernel_rfl)<|zK Z<|zK Z ?_;refine yF (F := []) (s := none) Z (fun H _ => zn Z Z) Z ?_;refine yF (F := []) (s := none) Z (fun H _ => zA Z Z av) Z ?_;refine yF (F := []) (s := none) Z (fun H _ => zA Z Z bU) Z ?_;refine yF Z (zd Z Z Z aM Z Z) Z<|yF Z (zd Z Z Z bZ Z Z) Z ?_;refine yF (F := []) (s := none) Z (fun H _ => lY Z cF Z Z Z Z Z) Z ?_;refine yF (F := []) (s := none) Z (fun H _ => ab.build Z ma Z Z Z) Z ?_;obtain ⟨v8, h_v8, hr⟩ := zB hr;refine yF (F := []) (s := none) Z (fun H _ => zC Z Z Z (by kernel_rfl) (zp (E0 h_v8) (.cons zv (.cons (Conv.agg (.cons Conv.zs (.cons zv .nil))) .nil)))) Z ?_;refine yF (F := []) (s := none) Z (fun H _ => zn Z Z) Z ?_;refine yF (F := []) (s := none) Z (fun H _ => zA Z Z av) Z ?_;refine yF (F := []) (s := none) Z (fun H _ => zA Z Z bU) Z ?_;refine yF Z (zt Z Z Z Z aM Z Z Z) Z ?_;refine LF.nil ⟨by kernel_rfl, ?_⟩;obtain rfl := zJ hr;exact fu (env' := []) (H' := [.box (bO c0), .box (mw n0), .box (cw in0), .box mP, .box [(iQ x.No), (iQ x.Tick), (kB v1.w_2), (kV v1.w_3), (kB v8.B), (kV v8.V), (kO ([] : List Of)), (uQ x.C.ID.1), (uQ x.C.ID.2), (iQ x.C.Slot), (iQ x.C.Revoked), (bQ v1.w_11), (kI c.W), (uQ c.Seed), (iQ c.Epoch), (iQ c.Num), (iQ c.Den), (iQ slot), (kO tl)], .vec 9 (o.map dG)]) (zW 6 trivial Z Z Z Z) .none<|⟨rfl, rfl⟩
  ·
   refine zo g2 hr fun hr => LW.skip ?_;obtain rfl := zJ hr;exact fP .none<|⟨rfl, rfl⟩
def lv (x : Nd) (c : Cf) (slot : Int) : Option (Vw × Vw × Cu × Bool) :=
 (jW x.In c slot x.V x.Full).bind fun v1 =>
 (jR c v1.2.1 slot).bind fun v2 =>
 (qP c v1.2.1 slot v2).bind fun v3 =>
 bif few v1.2.1.B then
  some (v1.2.1, v1.1, ez x.C v1.2.1.B v2 v3.1 v3.2 slot, v1.2.2)
 else none
theorem Df {x : Nd} {o : List Of} {c : Cf} {slot : Int} {tl : List Of} {c0 : Cf} {n0 : Nd} {in0 : Vw} {r_ : Vw × Vw × Cu × Bool} (hr : lv x c slot = some r_) : LC Tryz.prog 101 [.ptr 4 0] [.box (bO c0), .box (mw n0), .box (cw in0), .box mP, .box [(iQ x.No), (iQ x.Tick), (kB x.V.B), (kV x.V.V), (kB x.In.B), (kV x.In.V), (jO 5 o), (uQ x.C.ID.1), (uQ x.C.ID.2), (iQ x.C.Slot), (iQ x.C.Revoked), (bQ x.Full), (kI c.W), (uQ c.Seed), (iQ c.Epoch), (iQ c.Num), (iQ c.Den), (iQ slot), (kO tl)], .vec 9 (o.map dG)] (Is (.tup []) [.box (bO c0), .box (mw n0), .box (cw in0), .box mP, .box [(iQ x.No), (iQ x.Tick), (kB r_.1.B), (kV r_.1.V), (kB r_.2.1.B), (kV r_.2.1.V), (kO ([] : List Of)), (uQ r_.2.2.1.ID.1), (uQ r_.2.2.1.ID.2), (iQ r_.2.2.1.Slot), (iQ r_.2.2.1.Revoked), (bQ r_.2.2.2), (kI c.W), (uQ c.Seed), (iQ c.Epoch), (iQ c.Num), (iQ c.Den), (iQ slot), (kO tl)], .vec 9 (o.map dG)]) := by
 refine dA Tryz.func101 Z Z Z ?_;unfold lv at hr;refine zQ<|zR<|zM Z<|zM Z<|zM Z<|yS Z (zn Z Z)<|yS Z (zA Z Z av)<|yS Z (zA Z Z bU)<|yS Z (zD Z Z Z aM Z Z)<|zb hr fun v1 h_v1 hr => yS Z (zC Z Z Z (by kernel_rfl) (oA (x := Nd.mk x.No x.Tick x.V x.In [] x.C x.Full) (o := o) (tl := tl) h_v1))<|yS Z (zn Z Z)<|yS Z (zA Z Z av)<|yS Z (zA Z Z bU)<|yS Z (zs Z Z Z Z aM Z Z Z Z)<|zN<|zT<|zQ<|zR<|zM Z<|yS Z (zn Z Z)<|yS Z (zA Z Z av)<|yS Z (zA Z Z ce)<|yS Z (zs Z Z Z Z bM Z Z Z Z) ?_;refine zN<|zT<|zQ<|LW.ent (bP.zsCell (i := 4) (j := 6) (m := 9) Z Z Z Z)<|zR<|zM Z<|zM Z<|yS Z (zn Z Z)<|yS Z (zA Z Z cL)<|yS Z (zD Z Z Z bl Z Z)<|zb hr fun v2 h_v2 hr => yS Z (zC Z Z Z (by kernel_rfl) (tA (x := Nd.mk x.No x.Tick v1.2.1 v1.1 [] x.C v1.2.2) (o := o) (tl := tl) (rK h_v2)))<|yS Z (ze Z kp Z Z)<|yS Z (zs Z Z Z Z aT Z Z Z Z)<|zN<|zT<|zQ<|LW.ent (bP.slot Z)<|LW.drawW (by kernel_rfl) (by kernel_rfl)<|zK Z ?_;refine yF (F := []) (s := none) Z (fun H _ => zn Z Z) Z ?_;refine yF (F := []) (s := none) Z (fun H _ => zA Z Z gt) Z ?_;refine yF Z (zd Z Z Z ca Z Z) Z<|zK Z ?_;refine yF (F := []) (s := none) Z (fun H _ => zn Z Z) Z ?_;refine yF (F := []) (s := none) Z (fun H _ => zA Z Z av) Z ?_;refine yF (F := []) (s := none) Z (fun H _ => zA Z Z bT) Z ?_;refine yF Z (zd Z Z Z aM Z Z) Z<|zK Z ?_;refine yF (F := []) (s := none) Z (fun H _ => zn Z Z) Z ?_;refine yF (F := []) (s := none) Z (fun H _ => zA Z Z cL) Z ?_;refine yF Z (zd Z Z Z bl Z Z) Z<|yF Z (zd Z Z Z aT Z Z) Z<|zb hr fun v3 h_v3 hr => ?_;refine yF (F := []) (s := none) Z (fun H _ => zC Z Z Z (by kernel_rfl) (zp (GP h_v3) (.cons zv (.cons zv (.cons zv (.cons zv .nil)))))) Z ?_;refine zK Z ?_;refine yF (F := []) (s := none) Z (fun H _ => ed Z Z Z) Z ?_;refine yF (F := []) (s := none) Z (fun H _ => ed Z Z Z) Z ?_;refine yF Z (bK.alloc Z kp (id := 7) Z) Z<|yF Z (zt Z Z Z Z aT Z Z Z) Z<|zK Z ?_;refine LF.nil ⟨by kernel_rfl, ?_⟩;refine zT<|LW.drawW (by kernel_rfl) (by kernel_rfl)<|zK Z<|zK Z ?_;refine yF (F := []) (s := none) Z (fun H _ => zn Z Z) Z ?_;refine yF (F := []) (s := none) Z (fun H _ => zA Z Z av) Z ?_;refine yF (F := []) (s := none) Z (fun H _ => zA Z Z j2) Z ?_;refine yF Z (zd Z Z Z ik Z Z) Z<|zK Z ?_;refine yF (F := []) (s := none) Z (fun H _ => zn Z Z) Z ?_;refine yF (F := []) (s := none) Z (fun H _ => zA Z Z av) Z ?_;refine yF (F := []) (s := none) Z (fun H _ => zA Z Z bT) Z ?_;refine yF (F := []) (s := none) Z (fun H _ => zA Z Z aL) Z ?_;refine yF Z (zd Z Z Z ch Z Z) Z<|yF Z (zd Z Z Z aT Z Z) Z<|yF Z (zd Z Z Z aT Z Z) Z<|zK Z<|zK Z ?_;refine yF (F := []) (s := none) Z (fun H _ => zn Z Z) Z ?_;refine yF (F := []) (s := none) Z (fun H _ => zA Z Z cL) Z ?_;refine yF Z (zd Z Z Z bl Z Z) Z<|zg hr fun q1 hr => ?_;refine yF (F := []) (s := none) Z (fun H _ => zC Z Z Z (by kernel_rfl) (zp (JP (c := x.C) (l := v1.2.1.B) (head := v2) (found := v3.1) (is := v3.2) (slot := slot) (vB q1)) (.cons zv (.cons zv (.cons zv (.cons zv (.cons zv (.cons zv .nil)))))))) Z ?_;refine yF (F := []) (s := none) Z (fun H _ => zn Z Z) Z ?_;refine yF (F := []) (s := none) Z (fun H _ => zA Z Z av) Z ?_;refine yF (F := []) (s := none) Z (fun H _ => zA Z Z j2) Z ?_;refine yF Z (zt Z Z Z Z ik Z Z Z) Z ?_;refine LF.nil ⟨by kernel_rfl, ?_⟩;obtain rfl := zJ hr;refine fu (env' := []) (H' := [.box (bO c0), .box (mw n0), .box (cw in0), .box mP, .box [(iQ x.No), (iQ x.Tick), (kB v1.2.1.B), (kV v1.2.1.V), (kB v1.1.B), (kV v1.1.V), (kO ([] : List Of)), .p (.int .u64 (((ez x.C v1.2.1.B v2 v3.1 v3.2 slot).ID).1)), .p (.int .u64 (((ez x.C v1.2.1.B v2 v3.1 v3.2 slot).ID).2)), .p (.int .i64 ((ez x.C v1.2.1.B v2 v3.1 v3.2 slot).Slot)), .p (.int .i64 ((ez x.C v1.2.1.B v2 v3.1 v3.2 slot).Revoked)), (bQ v1.2.2), (kI c.W), (uQ c.Seed), (iQ c.Epoch), (iQ c.Num), (iQ c.Den), (iQ slot), (kO tl)], .vec 9 (o.map dG)]) (zW 6 trivial Z Z Z Z) .none ?_
 exact ⟨rfl, rfl⟩
open Go.Proofs
theorem wZ {b : Bool} {p : Prop} (h1 : b = true → p) (h2 : b = false → p) : p := by cases b <;> simp_all
theorem sv {a b : Int} (h : (a == b) = true) : LV.p (.int .i64 a) = (iQ b) := by rw [eq_of_beq h]
structure dH where
 t57 : Int
 o5 : List Of
def iw (n : Nd) (x1 : dH) : Option (dH ⊕ dH) :=
 bif decide (x1.t57 < (n.O.length : Int)) then
  (ix n.O x1.t57).bind fun y1 =>
  (oS y1).bind fun v6 =>
  bif cg x1.o5.length [v6].length 104 then
   some (.inl (dH.mk (IntKind.i64.wrap (x1.t57 + 1)) (x1.o5 ++ [v6])))
  else none
 else
  some (.inr (dH.mk x1.t57 x1.o5))
def iv (c : Cf) (n : Nd) (v_in : Vw) (o : List Of) : Option (Nd × (List Of)) :=
 (
  (xM c).bind fun v2 =>
  bif !v2 then
   some true
  else
   bif decide (n.Tick < 3) then
    some true
   else
    some (decide ((IntKind.i64.wrap (n.Tick.tdiv 3)) > 1048576))
 ).bind fun v1 =>
 bif v1 then
  (oQ n.V).bind fun v3 =>
  (oQ n.In).bind fun v4 =>
  (iter (iw n) bG (dH.mk 0 ([] : List Of))).bind fun v5 =>
  some (Nd.mk n.No n.Tick v3 v4 v5.o5 n.C n.Full, [])
 else
  (FO c v_in).bind fun v7 =>
  (AD n.In v7).bind fun v8 =>
  (ti o (Nd.mk n.No n.Tick n.V v8 n.O n.C n.Full) c (IntKind.i64.wrap (n.Tick.tdiv 3))).bind fun v9 =>
  bif (n.Tick.tmod 3) == 0 then
   (mY (Nd.mk n.No n.Tick n.V v8 [] n.C v9.2) c (IntKind.i64.wrap (n.Tick.tdiv 3)) ([] : List Of)).bind fun v10 =>
   some (Nd.mk n.No (IntKind.i64.wrap (n.Tick + 1)) v10.1 v10.2.1 v9.1 n.C v10.2.2.1, v10.2.2.2)
  else
   bif (n.Tick.tmod 3) == 1 then
    (kN (Nd.mk n.No n.Tick n.V v8 [] n.C v9.2) v9.1 c (IntKind.i64.wrap (n.Tick.tdiv 3))).bind fun v11 =>
    some (Nd.mk n.No (IntKind.i64.wrap (n.Tick + 1)) v11.1 v11.2.1 [] n.C v11.2.2, [])
   else
    bif (n.Tick.tmod 3) == 2 then
     (lv (Nd.mk n.No n.Tick n.V v8 [] n.C v9.2) c (IntKind.i64.wrap (n.Tick.tdiv 3))).bind fun v12 =>
     some (Nd.mk n.No (IntKind.i64.wrap (n.Tick + 1)) v12.1 v12.2.1 [] v12.2.2.1 v12.2.2.2, [])
    else none
theorem GI {c : Cf} {n : Nd} {v_in : Vw} {o : List Of} {r_ : Nd × (List Of)} (hr : iv c n v_in o = some r_) : az Tryz.prog 53 [kT c, gJ n, k7 v_in, .slice 9 (o.map dG)] [gJ r_.1, .slice 9 (r_.2.map dG)] := by
 refine zh Tryz.func53 Z Z Z Z ?_;unfold iv at hr;refine zQ<|zR<|yS Z (b6 Z Z Z Z Z)<|yS Z (b6 Z Z Z Z Z)<|yS Z (b6 Z Z Z Z Z)<|yS Z (ze Z nI Z Z)<|zM Z<|zN<|zT<|zQ<|zR<|yS Z (zD Z Z Z b9 Z Z)<|yS Z (zD Z Z Z ca Z Z)<|yS Z (zA Z Z cK)<|yS Z (zD Z Z Z bl Z Z)<|yS Z (ab.quo Z Z Z (by decide))<|yS Z (ab.build Z ER Z Z Z)<|yS Z (b6 Z Z Z Z Z)<|zM Z<|zN<|zT<|zQ ?_;obtain ⟨v1, hb_v1, ho_v1⟩ := zB hr;clear hr;refine LW.cut (E := [(3, (kO o)), (4, .ptr 0 0), (5, .ptr 1 0), (6, .ptr 2 0), (8, .ptr 3 0), (9, .zs), (10, .ptr 4 0), (35, (bQ v1))]) (O := [.box (bO c), .box (mw n), .box (cw v_in), .box mP, .box [(iQ n.No), (iQ n.Tick), (kB n.V.B), (kV n.V.V), (kB n.In.B), (kV n.In.V), (kO n.O), (uQ n.C.ID.1), (uQ n.C.ID.2), (iQ n.C.Slot), (iQ n.C.Revoked), (bQ n.Full), (kI c.W), (uQ c.Seed), (iQ c.Epoch), (iQ c.Num), (iQ c.Den), .p (.int .i64 (IntKind.i64.wrap (n.Tick.tdiv 3))), .zs]]) ?_ ?_
 ·have hr := hb_v1;refine zR<|yS Z (zD Z Z Z ca Z Z)<|zb hr fun v2 h_v2 hr => yS Z (zC Z Z Z (by kernel_rfl) (zp (EZ h_v2) (.cons zv .nil)))<|yS Z (ab.not Z Z)<|zM Z ?_;refine zc 24 Z (fun g1 => ?_)<|fun g1 => ?_
  ·
   refine zi g1 hr fun hr => yU Z (gd g1 Z) Z<|yU Z (gd g1 Z) Z<|yU Z (gd g1 Z) Z<|yS Z (cS Z (a8 g1 Z) Z)<|zM Z<|yU Z Z Z<|yU Z Z Z<|yU Z Z Z<|yU Z Z Z<|yU Z Z Z<|yS Z (cS Z Z Z)<|zN<|zT ?_;obtain rfl := zJ hr;exact zW 5 ⟨Z, Z, Z, Z, Z, Z, Z, Z, trivial⟩ Z Z Z Z
  ·
   refine zo g1 hr fun hr => yV Z (gd g1 Z) (zA Z Z cK)<|yV Z (gd g1 Z) (zD Z Z Z bl Z Z)<|yV Z (gd g1 Z) (aw Z Z Z Z)<|yS Z (bN Z (a8 g1 Z) Z)<|zM Z ?_;refine zc 29 Z (fun g2 => ?_)<|fun g2 => ?_
   ·
    refine zi g2 hr fun hr => yU Z (gd g2 Z) Z<|yU Z (gd g2 Z) Z<|yU Z (gd g2 Z) Z<|yU Z (gd g2 Z) Z<|yU Z (gd g2 Z) Z<|yS Z (cS Z (a8 g2 Z) Z)<|zN<|zT ?_;obtain rfl := zJ hr;exact zW 5 ⟨Z, Z, Z, Z, Z, Z, Z, Z, trivial⟩ Z Z Z Z
   ·
    refine zo g2 hr fun hr => yV Z (gd g2 Z) (zm Z Z)<|yV Z (gd g2 Z) (zn Z Z)<|yV Z (gd g2 Z) (zA Z Z cL)<|yV Z (gd g2 Z) (zD Z Z Z bl Z Z)<|yV Z (gd g2 Z) (aw Z Z Z Z)<|yS Z (bN Z (a8 g2 Z) Z)<|zN<|zT ?_;obtain rfl := zJ hr;exact zW 5 ⟨Z, Z, Z, Z, Z, Z, Z, Z, trivial⟩ Z Z Z Z
 ·have hr := ho_v1;clear hb_v1;refine zX Z (fun g3 => ?_)<|fun g3 => ?_
  ·
   refine zi g3 hr fun hr => zQ<|LW.drawW (by kernel_rfl) (by kernel_rfl)<|zK Z<|zK Z ?_;refine yF (F := []) (s := none) Z (fun H _ => zA Z Z bT) Z ?_;refine yF Z (zd Z Z Z aM Z Z) Z<|zb hr fun v3 h_v3 hr => ?_;refine yF (F := []) (s := none) Z (fun H _ => zC Z Z Z (by kernel_rfl) (zp (AZ h_v3) (.cons zv .nil))) Z ?_;refine yF (F := []) (s := none) Z (fun H _ => zA Z Z bU) Z ?_;refine yF Z (zd Z Z Z aM Z Z) Z<|zb hr fun v4 h_v4 hr => ?_;refine yF (F := []) (s := none) Z (fun H _ => zC Z Z Z (by kernel_rfl) (zp (AZ h_v4) (.cons zv .nil))) Z ?_;refine yF (F := []) (s := none) Z (fun H _ => zn Z Z) Z ?_;refine yF (F := []) (s := none) Z (fun H _ => zA Z Z av) Z ?_;refine yF (F := []) (s := none) Z (fun H _ => zA Z Z bT) Z ?_;refine yF Z (zt Z Z Z Z aM Z Z Z) Z ?_;refine yF (F := []) (s := none) Z (fun H _ => zn Z Z) Z ?_;refine yF (F := []) (s := none) Z (fun H _ => zA Z Z av) Z ?_;refine yF (F := []) (s := none) Z (fun H _ => zA Z Z bU) Z ?_;refine yF Z (zt Z Z Z Z aM Z Z Z) Z ?_;refine LF.nil ⟨by kernel_rfl, ?_⟩;refine zT<|zQ<|zR<|zM Z<|yS Z (zn Z Z)<|yS Z (zA Z Z av)<|yS Z (zA Z Z ce)<|yS Z (zs Z Z Z Z bM Z Z Z Z)<|zN<|zT<|zQ<|zQ<|LW.ent (bP.lazyCell (i := 4) (j := 6) (m := 9) Z Z Z Z Z Z)<|zR<|yS Z (zA Z Z ce)<|yS Z (zD Z Z Z bM Z Z)<|yS Z (cP Z Z (by kernel_rfl))<|zM Z<|zN<|zT ?_;obtain ⟨v5, hb_v5, ho_v5⟩ := zB hr;clear hr;refine LW.tail (E := [(3, (kO o)), (4, .ptr 0 0), (5, .ptr 1 0), (6, .ptr 2 0), (8, .ptr 3 0), (9, .zs), (10, .ptr 4 0)]) (O := [.box (bO c), .box (mw n), .box (cw v_in), .box mP, .box [(iQ n.No), (iQ n.Tick), (kB v3.B), (kV v3.V), (kB v4.B), (kV v4.V), (jO 5 v5.o5), (uQ n.C.ID.1), (uQ n.C.ID.2), (iQ n.C.Slot), (iQ n.C.Revoked), (bQ n.Full), (kI c.W), (uQ c.Seed), (iQ c.Epoch), (iQ c.Num), (iQ c.Den), .p (.int .i64 (IntKind.i64.wrap (n.Tick.tdiv 3))), .zs], .vec 9 (v5.o5.map dG)]) ?_<|fun env_v5 H_v5 hw_v5 => ?_
   ·refine LW.block ?_;refine LW.iterB (E := fun x1 : dH => [(3, (kO o)), (4, .ptr 0 0), (5, .ptr 1 0), (6, .ptr 2 0), (8, .ptr 3 0), (9, .zs), (10, .ptr 4 0), (55, (kO n.O)), (56, .p (.int .i64 (n.O.length : Int))), (57, (iQ x1.t57))]) (O := fun x1 => [.box (bO c), .box (mw n), .box (cw v_in), .box mP, .box [(iQ n.No), (iQ n.Tick), (kB v3.B), (kV v3.V), (kB v4.B), (kV v4.V), (jO 5 x1.o5), (uQ n.C.ID.1), (uQ n.C.ID.2), (iQ n.C.Slot), (iQ n.C.Revoked), (bQ n.Full), (kI c.W), (uQ c.Seed), (iQ c.Epoch), (iQ c.Num), (iQ c.Den), .p (.int .i64 (IntKind.i64.wrap (n.Tick.tdiv 3))), .zs], .vec 9 (x1.o5.map dG)]) hb_v5 (zW 6 ⟨rfl, rfl, rfl, rfl, rfl, rfl, rfl, rfl, rfl, rfl, trivial⟩ Z Z Z Z)<|fun x1 z_x1 hr hb_x1 => ?_;unfold iw at hr;refine zQ<|zR<|yS Z (aw Z Z Z Z)<|zN<|zT<|zQ ?_;refine zX Z (fun g4 => ?_)<|fun g4 => ?_
    ·
     refine zi g4 hr fun hr => zk<|zT<|zQ<|zl<|zQ<|zR<|zb hr fun y1 h_y1 hr => yS Z (zx Z Z Z ck h_y1 Z)<|yS Z (dj Z Z Z dV Z Z)<|yS Z (ze Z nJ Z Z)<|yS Z (zs Z Z Z Z dV Z Z Z Z)<|zN<|zT<|LW.drawW (by kernel_rfl) (by kernel_rfl)<|zK Z<|zK Z ?_;refine yF (F := []) (s := none) Z (fun H _ => zn Z Z) Z ?_;refine yF (F := []) (s := none) Z (fun H _ => zA Z Z av) Z ?_;refine yF (F := []) (s := none) Z (fun H _ => zA Z Z ce) Z ?_;refine yF Z (zd Z Z Z bM Z Z) Z<|yF Z (zd Z Z Z dV Z Z) Z<|zb hr fun v6 h_v6 hr => ?_;refine yF (F := []) (s := none) Z (fun H _ => zC Z Z Z (by kernel_rfl) (zp (A0 h_v6) (.cons zv .nil))) Z ?_;refine yF (F := []) (s := none) Z (fun H _ => lY Z ck Z Z Z Z Z) Z ?_;refine zg hr fun q1 hr => yF Z (bK.appendX dG x1.o5 [v6] rfl Z Z Z Z ck q1) Z ?_;refine yF (F := []) (s := none) Z (fun H _ => zn Z Z) Z ?_;refine yF (F := []) (s := none) Z (fun H _ => zA Z Z av) Z ?_;refine yF (F := []) (s := none) Z (fun H _ => zA Z Z ce) Z ?_;refine yF Z (zt Z Z Z Z bM Z Z Z) Z ?_;refine LF.nil ⟨by kernel_rfl, ?_⟩;refine ah<|zT<|zR<|yS Z (aw Z Z Z Z)<|zM Z<|zN<|zT ?_;obtain rfl := zJ hr;exact ⟨_, rfl, zW 6 ⟨rfl, rfl, rfl, rfl, rfl, rfl, rfl, rfl, rfl, rfl, trivial⟩ Z Z Z rfl⟩
    ·
     refine zo g4 hr fun hr => zq<|ao<|ao<|zy<|zT ?_;obtain rfl := zJ hr;have hr := congrArg some (hb_x1 _ rfl);obtain rfl := zJ hr;exact zW 6 ⟨Z, Z, Z, Z, Z, Z, Z, trivial⟩ Z Z Z Z
   ·have hr := ho_v5;clear hb_v5;refine zT<|LW.weak hw_v5<|zQ<|zR<|zM Z<|yS Z (zn Z Z)<|yS Z (zA Z Z av)<|yS Z (zD Z Z Z b9 Z Z)<|yS Z (zs Z Z Z Z b9 Z Z Z Z)<|zM Z<|zN<|zT<|zr<|af ?_;obtain rfl := zJ hr;exact zf (.two (.cellAgg Z Z (by kernel_rfl) Z) (.tmp Z))<|⟨_, rfl, (.cons (Conv.agg (.cons zv (.cons zv (.cons zv (.cons zv (.cons zv (.cons zv (.cons (Conv.vecAll Z Z Z) (.cons zv (.cons zv (.cons zv (.cons zv (.cons zv .nil))))))))))))) (.cons Conv.zs .nil))⟩
  ·
   refine zo g3 hr fun hr => zk<|zT<|zQ<|LW.drawW (by kernel_rfl) (by kernel_rfl)<|zK Z ?_;refine yF (F := []) (s := none) Z (fun H _ => zA Z Z bU) Z ?_;refine yF Z (zd Z Z Z aM Z Z) Z<|yF Z (zd Z Z Z ca Z Z) Z<|yF Z (zd Z Z Z aM Z Z) Z<|zb hr fun v7 h_v7 hr => ?_;refine yF (F := []) (s := none) Z (fun H _ => zC Z Z Z (by kernel_rfl) (zp (JI h_v7) (.cons zv (.cons zv .nil)))) Z ?_;obtain ⟨v8, h_v8, hr⟩ := zB hr;refine yF (F := []) (s := none) Z (fun H _ => zC Z Z Z (by kernel_rfl) (zp (E0 h_v8) (.cons zv (.cons zv .nil)))) Z ?_;refine yF (F := []) (s := none) Z (fun H _ => zn Z Z) Z ?_;refine yF (F := []) (s := none) Z (fun H _ => zA Z Z av) Z ?_;refine yF (F := []) (s := none) Z (fun H _ => zA Z Z bU) Z ?_;refine yF Z (zt Z Z Z Z aM Z Z Z) Z ?_;refine LF.nil ⟨by kernel_rfl, ?_⟩;refine zT<|zQ<|LW.ent (bP.zsCell (i := 4) (j := 18) (m := 9) Z Z Z Z)<|zR<|zM Z<|zM Z<|zb hr fun v9 h_v9 hr => yS Z (zC Z Z Z (by kernel_rfl) (Ff (x := Nd.mk n.No n.Tick n.V v8 n.O n.C n.Full) (tl := ([] : List Of)) h_v9))<|zN<|zT<|zQ<|zR<|yS Z (ab.build Z ES Z Z Z)<|yS Z (ze Z FJ Z Z)<|yS Z (zs Z Z Z Z FF Z Z Z Z)<|zN<|zT<|zQ ?_;refine wZ (b := (n.Tick.tmod 3) == 0) (fun (g5 : ((n.Tick.tmod 3) == 0) = true) => ?_) (fun (g5 : ((n.Tick.tmod 3) == 0) = false) => ?_)
   ·
    refine zi g5 hr fun hr => zR<|yS Z (zA Z Z cK)<|yS Z (zD Z Z Z bl Z Z)<|yS Z (ab.isEq (y := (iQ 0)) (ab.rem Z Z Z (by decide)) (sv g5))<|yS Z (ab.indexAddrA Z Z Z vo (by decide) (by decide))<|yS Z (zD Z Z Z wt Z Z)<|zM Z<|zb hr fun v10 h_v10 hr => yS Z (zC Z Z Z (by kernel_rfl) (LC.pre (Da (x := Nd.mk n.No n.Tick n.V v8 [] n.C v9.2) (o := v9.1) (tl := ([] : List Of)) h_v10) Z Z Z))<|zN<|zT<|zQ<|zR<|zM Z<|yS Z (zn Z Z)<|yS Z (zA Z Z av)<|yS Z (zA Z Z cK)<|yS Z (zD Z Z Z bl Z Z)<|yS Z (aw Z Z Z Z)<|yS Z (zn Z Z)<|yS Z (zA Z Z av)<|yS Z (zA Z Z cK)<|yS Z (zs Z Z Z Z bl Z Z Z Z) ?_;refine zN<|zT<|zQ<|LW.drawW (by kernel_rfl) (by kernel_rfl)<|zK Z ?_;refine yF (F := []) (s := none) Z (fun H _ => zn Z Z) Z ?_;refine yF (F := []) (s := none) Z (fun H _ => zA Z Z av) Z ?_;refine yF Z (zd Z Z Z b9 Z Z) Z<|zK Z ?_;refine yF (F := []) (s := none) Z (fun H _ => zn Z Z) Z ?_;refine yF (F := []) (s := none) Z (fun H _ => zA Z Z mj) Z ?_;refine yF Z (zd Z Z Z bM Z Z) Z<|yF Z (zt Z Z Z Z b9 Z Z Z) Z<|zK Z ?_;refine LF.nil ⟨by kernel_rfl, ?_⟩;refine zT<|zr ?_;obtain rfl := zJ hr;exact zf (.two (.cellAgg Z Z (by kernel_rfl) Z) (.tmp Z))<|⟨_, rfl, (.cons (Conv.agg (.cons zv (.cons zv (.cons zv (.cons zv (.cons zv (.cons zv (.cons (Conv.vecAll Z Z Z) (.cons zv (.cons zv (.cons zv (.cons zv (.cons zv .nil))))))))))))) (.cons zv .nil))⟩
   ·
    have hr := zO g5 hr;refine wZ (b := (n.Tick.tmod 3) == 1) (fun (g6 : ((n.Tick.tmod 3) == 1) = true) => ?_) (fun (g6 : ((n.Tick.tmod 3) == 1) = false) => ?_)
    ·
     refine zi g6 hr fun hr => zR<|yS Z (zA Z Z cK)<|yS Z (zD Z Z Z bl Z Z)<|yS Z (ab.isEq (y := (iQ 1)) (ab.rem Z Z Z (by decide)) (sv g6))<|yS Z (ab.indexAddrA Z Z Z vo (by decide) (by decide))<|yS Z (zD Z Z Z wt Z Z)<|zM Z<|zb hr fun v11 h_v11 hr => yS Z (zC Z Z Z (by kernel_rfl) (LC.pre (A4 (x := Nd.mk n.No n.Tick n.V v8 [] n.C v9.2) (o := v9.1) (tl := ([] : List Of)) h_v11) Z Z Z))<|zN<|zT<|zQ<|zR<|zM Z<|yS Z (zn Z Z)<|yS Z (zA Z Z av)<|yS Z (zA Z Z cK)<|yS Z (zD Z Z Z bl Z Z)<|yS Z (aw Z Z Z Z)<|yS Z (zn Z Z)<|yS Z (zA Z Z av)<|yS Z (zA Z Z cK)<|yS Z (zs Z Z Z Z bl Z Z Z Z) ?_;refine zN<|zT<|zQ<|LW.drawW (by kernel_rfl) (by kernel_rfl)<|zK Z ?_;refine yF (F := []) (s := none) Z (fun H _ => zn Z Z) Z ?_;refine yF (F := []) (s := none) Z (fun H _ => zA Z Z av) Z ?_;refine yF Z (zd Z Z Z b9 Z Z) Z<|zK Z ?_;refine yF (F := []) (s := none) Z (fun H _ => zn Z Z) Z ?_;refine yF (F := []) (s := none) Z (fun H _ => zA Z Z mj) Z ?_;refine yF Z (zd Z Z Z bM Z Z) Z<|yF Z (zt Z Z Z Z b9 Z Z Z) Z<|zK Z ?_;refine LF.nil ⟨by kernel_rfl, ?_⟩;refine zT<|zr ?_;obtain rfl := zJ hr;exact zf (.two (.cellAgg Z Z (by kernel_rfl) Z) (.tmp Z))<|⟨_, rfl, (.cons zv (.cons zv .nil))⟩
    ·
     refine zo g6 hr fun hr => zg hr fun q2 hr => zR<|yS Z (zA Z Z cK)<|yS Z (zD Z Z Z bl Z Z)<|yS Z (ab.isEq (y := (iQ 2)) (ab.rem Z Z Z (by decide)) (sv q2))<|yS Z (ab.indexAddrA Z Z Z vo (by decide) (by decide))<|yS Z (zD Z Z Z wt Z Z)<|zM Z<|zb hr fun v12 h_v12 hr => yS Z (zC Z Z Z (by kernel_rfl) (LC.pre (Df (x := Nd.mk n.No n.Tick n.V v8 [] n.C v9.2) (o := v9.1) (tl := ([] : List Of)) h_v12) Z Z Z))<|zN<|zT<|zQ<|zR<|zM Z<|yS Z (zn Z Z)<|yS Z (zA Z Z av)<|yS Z (zA Z Z cK)<|yS Z (zD Z Z Z bl Z Z)<|yS Z (aw Z Z Z Z)<|yS Z (zn Z Z)<|yS Z (zA Z Z av)<|yS Z (zA Z Z cK) ?_;refine yS Z (zs Z Z Z Z bl Z Z Z Z)<|zN<|zT<|zQ<|LW.drawW (by kernel_rfl) (by kernel_rfl)<|zK Z ?_;refine yF (F := []) (s := none) Z (fun H _ => zn Z Z) Z ?_;refine yF (F := []) (s := none) Z (fun H _ => zA Z Z av) Z ?_;refine yF Z (zd Z Z Z b9 Z Z) Z<|zK Z ?_;refine yF (F := []) (s := none) Z (fun H _ => zn Z Z) Z ?_;refine yF (F := []) (s := none) Z (fun H _ => zA Z Z mj) Z ?_;refine yF Z (zd Z Z Z bM Z Z) Z<|yF Z (zt Z Z Z Z b9 Z Z Z) Z<|zK Z ?_;refine LF.nil ⟨by kernel_rfl, ?_⟩;refine zT<|zr ?_;obtain rfl := zJ hr;exact zf (.two (.cellAgg Z Z (by kernel_rfl) Z) (.tmp Z))<|⟨_, rfl, (.cons zv (.cons zv .nil))⟩
open Go.Proofs
theorem vr {α : Type} {f : α → PV} {l : List α} (hb : cg 0 l.length 8 = true) : LC Tryz.prog 46 [.p (.slice 1 (l.map f))] [] (Is (.vec 1 0 (l.map f).length 0 (l.map f).length) [.vec 1 (l.map f)]) := by
 refine dA Tryz.func46 Z Z Z ?_;refine zQ<|zR<|yS Z (za Z Z)<|zN<|zT<|zQ<|zQ<|zR<|yS Z (zm Z Z)<|am.cons Z Z Z (ab.eqNil Z Z Z gL) ?_;rintro _ _ ⟨rfl, b, rfl, hn⟩;refine zN<|zT ?_;refine zX Z (fun g => ?_)<|fun g => ?_
 ·have hl : l = [] := List.map_eq_nil_iff.1 (hn g);subst hl;exact zQ<|zR<|yS Z (za Z Z)<|zN<|zT<|LW.ent (bP.lazy (t := 2) (m := 1) Z Z Z)<|zr<|af<|ap (.one (.tmp Z)) ⟨rfl, rfl⟩
 ·refine LW.skip ?_;exact zT<|zQ<|zR<|yS Z (ab.buildSlice0 Z gL)<|yS Z (zm Z Z)<|yS Z (ab.appendZX f l Z Z Z Z kQ.p Z gL hb Z)<|yS Z (za Z Z)<|zN<|zT<|zr<|ap (.one (.tmp Z)) ⟨rfl, rfl⟩
theorem EX {α : Type} {f : α → PV} {l : List α} (hb : cg 0 l.length 176 = true) : LC Tryz.prog 81 [.p (.slice 12 (l.map f))] [] (Is (.vec 12 0 (l.map f).length 0 (l.map f).length) [.vec 12 (l.map f)]) := by
 refine dA Tryz.func81 Z Z Z ?_;refine zQ<|zR<|yS Z (za Z Z)<|zN<|zT<|zQ<|zQ<|zR<|yS Z (zm Z Z)<|am.cons Z Z Z (ab.eqNil Z Z Z dN) ?_;rintro _ _ ⟨rfl, b, rfl, hn⟩;refine zN<|zT ?_;refine zX Z (fun g => ?_)<|fun g => ?_
 ·have hl : l = [] := List.map_eq_nil_iff.1 (hn g);subst hl;exact zQ<|zR<|yS Z (za Z Z)<|zN<|zT<|LW.ent (bP.lazy (t := 2) (m := 12) Z Z Z)<|zr<|af<|ap (.one (.tmp Z)) ⟨rfl, rfl⟩
 ·refine LW.skip ?_;exact zT<|zQ<|zR<|yS Z (ab.buildSlice0 Z dN)<|yS Z (zm Z Z)<|yS Z (ab.appendZX f l Z Z Z Z kQ.p Z dN hb Z)<|yS Z (za Z Z)<|zN<|zT<|zr<|ap (.one (.tmp Z)) ⟨rfl, rfl⟩
theorem A3 {α : Type} {f : α → PV} {l : List α} (hb : cg 0 l.length 104 = true) : LC Tryz.prog 94 [.p (.slice 9 (l.map f))] [] (Is (.vec 9 0 (l.map f).length 0 (l.map f).length) [.vec 9 (l.map f)]) := by
 refine dA Tryz.func94 Z Z Z ?_;refine zQ<|zR<|yS Z (za Z Z)<|zN<|zT<|zQ<|zQ<|zR<|yS Z (zm Z Z)<|am.cons Z Z Z (ab.eqNil Z Z Z ck) ?_;rintro _ _ ⟨rfl, b, rfl, hn⟩;refine zN<|zT ?_;refine zX Z (fun g => ?_)<|fun g => ?_
 ·have hl : l = [] := List.map_eq_nil_iff.1 (hn g);subst hl;exact zQ<|zR<|yS Z (za Z Z)<|zN<|zT<|LW.ent (bP.lazy (t := 2) (m := 9) Z Z Z)<|zr<|af<|ap (.one (.tmp Z)) ⟨rfl, rfl⟩
 ·refine LW.skip ?_;exact zT<|zQ<|zR<|yS Z (ab.buildSlice0 Z ck)<|yS Z (zm Z Z)<|yS Z (ab.appendZX f l Z Z Z Z kQ.p Z ck hb Z)<|yS Z (za Z Z)<|zN<|zT<|zr<|ap (.one (.tmp Z)) ⟨rfl, rfl⟩
def l7 (v : Vw) : Option Vw :=
 bif cg 0 v.B.length 40 then
  bif cg 0 v.V.length 32 then
   some v
  else none
 else none
theorem A2 {v : Vw} {r_ : Vw} (hr : l7 v = some r_) : az Tryz.prog 83 [k7 v] [k7 r_] := by
 refine zh Tryz.func83 Z Z Z Z ?_;unfold l7 at hr;refine zQ<|zR<|yS Z (b6 Z Z Z Z Z)<|yS Z (ze Z fS Z Z)<|zN<|zT<|zQ<|LW.ent (bP.slot Z)<|LW.ent (bP.slot Z)<|LW.drawW (by kernel_rfl) (by kernel_rfl) ?_;refine yF (F := []) (s := none) Z (fun H _ => zA Z Z aL) Z ?_;refine yF Z (zd Z Z Z ch Z Z) Z<|zg hr fun q1 hr => ?_;refine yF Z (bK.callV (id := 2) (qs := [(kB v.B)]) Z Z Z (by kernel_rfl) (tx q1) (fun H => (.consC zv .nil)) Z) Z ?_;refine yF (F := []) (s := none) Z (fun H _ => zA Z Z a7) Z ?_;refine yF Z (zd Z Z Z dc Z Z) Z<|zg hr fun q2 hr => ?_;refine yF Z (bK.callV (id := 3) (qs := [(kV v.V)]) Z Z Z (by kernel_rfl) (tz q2) (fun H => (.consC zv .nil)) Z) Z ?_;refine yF (F := []) (s := none) Z (fun H _ => ab.build Z ma Z Z Z) Z ?_;refine yF Z (zt Z Z Z Z aM Z Z Z) Z ?_;refine LF.nil ⟨by kernel_rfl, ?_⟩;refine zT<|zr ?_;obtain rfl := zJ hr;exact zf (.one (.cellAgg Z Z (by kernel_rfl) Z))<|(Conv.agg (.cons (Conv.vecAll Z Z Z) (.cons (Conv.vecAll Z Z Z) .nil)))
theorem oW {v r_ : Vw} (h : l7 v = some r_) : v = r_ := by
 unfold l7 at h;obtain ⟨_, h⟩ := zG h;obtain ⟨_, h⟩ := zG h;exact zJ h
structure d8 where
 t8 : Int
def iG (l : List Of) (x1 : d8) : Option (d8 ⊕ d8) :=
 bif decide (x1.t8 < (l.length : Int)) then
  (ix l x1.t8).bind fun y1 =>
  (l7 y1.V).bind fun _ =>
  (ix l x1.t8).bind fun _ =>
  some (.inl (d8.mk (IntKind.i64.wrap (x1.t8 + 1))))
 else
  some (.inr (d8.mk x1.t8))
def nN (l : List Of) : Option (List Of) :=
 bif cg 0 l.length 104 then
  (iter (iG l) bG (d8.mk 0)).bind fun _ =>
  some l
 else none
theorem DY {l : List Of} {r_ : (List Of)} (hr : nN l = some r_) : az Tryz.prog 82 [.slice 9 (l.map dG)] [.slice 9 (r_.map dG)] := by
 refine zh Tryz.func82 Z Z Z Z ?_;unfold nN at hr;refine zQ<|zR<|zM Z<|zN<|zT<|zQ<|zR<|zM Z<|zg hr fun q1 hr => yS Z (ab.callV (qs := [(kO l)]) Z Z Z (by kernel_rfl) (A3 q1) (.consC zv .nil) Z Z)<|zM Z<|zN<|zT<|zQ<|zQ<|zR<|zM Z<|yS Z (ab.lenVM Z Z Z (by kernel_rfl))<|zM Z<|zN<|zT ?_;obtain ⟨v1, hb_v1, ho_v1⟩ := zB hr;clear hr;refine LW.tail (E := [(0, (jO 0 l)), (2, .zs)]) (O := [.vec 9 (l.map dG)]) ?_<|fun env_v1 H_v1 hw_v1 => ?_
 ·refine LW.block ?_;refine LW.iterB (E := fun x1 : d8 => [(0, (jO 0 l)), (2, .zs), (7, .p (.int .i64 (l.length : Int))), (8, (iQ x1.t8))]) (O := fun x1 => [.vec 9 (l.map dG)]) hb_v1 (zW 1 ⟨rfl, rfl, rfl, rfl, trivial⟩ Z Z Z Z)<|fun x1 z_x1 hr hb_x1 => ?_;unfold iG at hr;refine zQ<|zR<|yS Z (aw Z Z Z Z)<|zN<|zT<|zQ ?_;refine zX Z (fun g1 => ?_)<|fun g1 => ?_
  ·
   refine zi g1 hr fun hr => zk<|zT<|zQ<|zl<|zQ<|zR<|zM Z<|zM Z<|zN<|zT<|zR<|zM Z<|zM Z<|zM Z<|zM Z<|zb hr fun y1 h_y1 hr => yS Z (ab.indexAddrVX Z Z Z Z ck h_y1)<|yS Z (ab.fieldAddrV Z Z Z Z gr)<|yS Z (ab.loadVX Z Z Z aM h_y1 Z Z Z Z)<|zb hr fun v2 h_v2 hr => ?_;obtain rfl := oW h_v2;refine yS Z (zC Z Z Z (by kernel_rfl) (zp (A2 h_v2) (.cons zv .nil)))<|zb hr fun y2 h_y2 hr => yS Z (ab.indexAddrVX Z Z Z Z ck h_y2)<|yS Z (ab.fieldAddrV Z Z Z Z gr) ?_;obtain rfl := zJ (h_y1.symm.trans h_y2);refine yS Z (ab.storeVS (f := dG) (l := l) Z Z Z Z aM (fun _ => rfl) h_y2 Z Z Z Z Z) ?_;refine zN<|ah<|zT<|zR<|yS Z (aw Z Z Z Z)<|zM Z<|zN<|zT ?_;obtain rfl := zJ hr;exact ⟨_, rfl, zW 1 ⟨rfl, rfl, rfl, rfl, trivial⟩ Z Z Z rfl⟩
  ·
   refine zo g1 hr fun hr => zq<|ao<|ao<|zy<|zT ?_;obtain rfl := zJ hr;have hr := congrArg some (hb_x1 _ rfl);obtain rfl := zJ hr;exact zW 1 ⟨Z, Z, trivial⟩ Z Z Z Z
 ·have hr := ho_v1;clear hb_v1;refine zT<|LW.weak hw_v1<|zQ<|zR<|zM Z<|zM Z<|zN<|zT<|zr ?_;obtain rfl := zJ hr;exact zf (.one (.tmp Z))<|(Conv.vecAll Z Z Z)
theorem tc {v r_ : List Of} (h : nN v = some r_) : v = r_ := by
 unfold nN at h;obtain ⟨_, h⟩ := zG h;obtain ⟨_, _, h⟩ := zB h;exact zJ h
structure d7 where
 t20 : Int
def iF (w : Wd) (x1 : d7) : Option (d7 ⊕ d7) :=
 bif decide (x1.t20 < (w.N.length : Int)) then
  (ix w.N x1.t20).bind fun y1 =>
  (l7 y1.V).bind fun _ =>
  (l7 y1.In).bind fun _ =>
  (nN y1.O).bind fun _ =>
  some (.inl (d7.mk (IntKind.i64.wrap (x1.t20 + 1))))
 else
  some (.inr (d7.mk x1.t20))
def nM (w : Wd) : Option Wd :=
 bif cg 0 w.Bad.length 8 then
  bif cg 0 w.N.length 176 then
   (nN w.O).bind fun _ =>
   (iter (iF w) bG (d7.mk 0)).bind fun _ =>
   some w
  else none
 else none
theorem DX {w : Wd} {r_ : Wd} (hr : nM w = some r_) : az Tryz.prog 50 [Cq w] [Cq r_] := by
 refine zh Tryz.func50 Z Z Z Z ?_;unfold nM at hr;refine zQ<|zR<|yS Z (b6 Z Z Z Z Z)<|yS Z (ze Z jD Z Z)<|zN<|zT<|zQ<|LW.ent (bP.slot Z)<|LW.ent (bP.slot Z)<|LW.drawW (by kernel_rfl) (by kernel_rfl) ?_;refine yF (F := []) (s := none) Z (fun H _ => zA Z Z gm) Z ?_;refine yF Z (zd Z Z Z gG Z Z) Z<|zg hr fun q1 hr => ?_;refine yF Z (bK.callV (id := 2) (qs := [(kI w.Bad)]) Z Z Z (by kernel_rfl) (vr q1) (fun H => (.consC zv .nil)) Z) Z ?_;refine yF (F := []) (s := none) Z (fun H _ => zA Z Z bp) Z ?_;refine yF Z (zd Z Z Z cG Z Z) Z<|zg hr fun q2 hr => ?_;refine yF Z (bK.callV (id := 3) (qs := [.p (.slice 12 (w.N.map gJ))]) Z Z Z (by kernel_rfl) (EX q2) (fun H => (.consC zv .nil)) Z) Z ?_;refine yF (F := []) (s := none) Z (fun H _ => zA Z Z gn) Z ?_;refine yF Z (zd Z Z Z bM Z Z) Z<|zb hr fun v1 h_v1 hr => ?_;obtain rfl := tc h_v1;refine yF (F := []) (s := none) Z (fun H _ => zC Z Z Z (by kernel_rfl) (zp (DY h_v1) (.cons zv .nil))) Z ?_;refine yF (F := []) (s := none) Z (fun H _ => zA Z Z gm) Z ?_;refine yF Z (zt Z Z Z Z gG Z Z Z) Z ?_;refine yF (F := []) (s := none) Z (fun H _ => zA Z Z bp) Z ?_;refine yF Z (zt Z Z Z Z cG Z Z Z) Z ?_;refine yF (F := []) (s := none) Z (fun H _ => zA Z Z gn) Z ?_;refine yF Z (zt Z Z Z Z bM Z Z Z) Z ?_;refine LF.nil ⟨by kernel_rfl, ?_⟩;refine zT<|zQ<|zQ<|zR<|yS Z (zA Z Z bp)<|yS Z (zD Z Z Z cG Z Z)<|yS Z (ab.lenVM Z Z Z (by kernel_rfl))<|zM Z<|zN<|zT ?_;obtain ⟨v2, hb_v2, ho_v2⟩ := zB hr;clear hr;refine LW.tail (E := [(1, .ptr 0 0), (2, .ptr 1 0)]) (O := [.box [(kI w.C.W), (uQ w.C.Seed), (iQ w.C.Epoch), (iQ w.C.Num), (iQ w.C.Den), (jI 2 w.Bad), (iQ w.Tick), .vec 12 3 (w.N.map gJ).length 0 (w.N.map gJ).length, (kO w.O)], .box sB, .vec 1 (w.Bad.map aC), .vec 12 (w.N.map gJ)]) ?_<|fun env_v2 H_v2 hw_v2 => ?_
 ·refine LW.block ?_;refine LW.iterB (E := fun x1 : d7 => [(1, .ptr 0 0), (2, .ptr 1 0), (19, .p (.int .i64 (w.N.length : Int))), (20, (iQ x1.t20))]) (O := fun x1 => [.box [(kI w.C.W), (uQ w.C.Seed), (iQ w.C.Epoch), (iQ w.C.Num), (iQ w.C.Den), (jI 2 w.Bad), (iQ w.Tick), .vec 12 3 (w.N.map gJ).length 0 (w.N.map gJ).length, (kO w.O)], .box sB, .vec 1 (w.Bad.map aC), .vec 12 (w.N.map gJ)]) hb_v2 (zW 4 ⟨rfl, rfl, rfl, rfl, trivial⟩ Z Z Z Z)<|fun x1 z_x1 hr hb_x1 => ?_;unfold iF at hr;refine zQ<|zR<|yS Z (aw Z Z Z Z)<|zN<|zT<|zQ ?_;refine zX Z (fun g1 => ?_)<|fun g1 => ?_
  ·
   refine zi g1 hr fun hr => zk<|zT<|zQ<|zl<|zQ<|zR<|zM Z<|zM Z<|zN<|zT<|zQ<|zR<|yS Z (zA Z Z bp)<|yS Z (zD Z Z Z cG Z Z)<|zM Z<|zb hr fun y1 h_y1 hr => yS Z (ab.indexAddrVX Z Z Z Z dN h_y1)<|zM Z<|zN<|zT<|LW.draw2 (by kernel_rfl) (by kernel_rfl)<|zH Z<|zH Z ?_;refine zH Z<|zH Z<|yE Z (ab.nilCheckV Z Z Z Z)<|yE Z (ab.fieldAddrV Z Z Z Z bT)<|yE Z (ab.loadVX Z Z Z aM h_y1 Z Z Z Z)<|zb hr fun v3 h_v3 hr => ?_;obtain rfl := oW h_v3;refine yE Z (zC Z Z Z (by kernel_rfl) (zp (A2 h_v3) (.cons zv .nil)))<|zH Z<|yE Z (ab.nilCheckV Z Z Z Z)<|yE Z (ab.fieldAddrV Z Z Z Z bU)<|yE Z (ab.loadVX Z Z Z aM h_y1 Z Z Z Z)<|zb hr fun v4 h_v4 hr => ?_;obtain rfl := oW h_v4;refine yE Z (zC Z Z Z (by kernel_rfl) (zp (A2 h_v4) (.cons zv .nil)))<|zH Z<|yE Z (ab.nilCheckV Z Z Z Z)<|yE Z (ab.fieldAddrV Z Z Z Z ce)<|yE Z (ab.loadVX Z Z Z bM h_y1 Z Z Z Z)<|zb hr fun v5 h_v5 hr => ?_;obtain rfl := tc h_v5;refine yE Z (zC Z Z Z (by kernel_rfl) (zp (DY h_v5) (.cons zv .nil)))<|yE Z (ab.nilCheckV Z Z Z Z)<|yE Z (ab.fieldAddrV Z Z Z Z bT) ?_;refine yE Z (ab.storeVS (f := gJ) (l := w.N) Z Z Z Z aM (fun _ => rfl) h_y1 Z Z Z Z Z) ?_;refine yE Z (ab.nilCheckV Z Z Z Z)<|yE Z (ab.fieldAddrV Z Z Z Z bU) ?_;refine yE Z (ab.storeVS (f := gJ) (l := w.N) Z Z Z Z aM (fun _ => rfl) h_y1 Z Z Z Z Z) ?_;refine yE Z (ab.nilCheckV Z Z Z Z)<|yE Z (ab.fieldAddrV Z Z Z Z ce) ?_;refine yE Z (ab.storeVS (f := gJ) (l := w.N) Z Z Z Z bM (fun _ => rfl) h_y1 Z Z Z Z Z) ?_;refine LO.nil<|ah<|zT<|zR<|yS Z (aw Z Z Z Z)<|zM Z<|zN<|zT ?_;obtain rfl := zJ hr;exact ⟨_, rfl, zW 4 ⟨rfl, rfl, rfl, rfl, trivial⟩ Z Z Z rfl⟩
  ·
   refine zo g1 hr fun hr => zq<|ao<|ao<|zy<|zT ?_;obtain rfl := zJ hr;have hr := congrArg some (hb_x1 _ rfl);obtain rfl := zJ hr;exact zW 4 ⟨Z, Z, trivial⟩ Z Z Z Z
 ·have hr := ho_v2;clear hb_v2;refine zT<|LW.weak hw_v2<|zQ<|zR<|yS Z (zD Z Z Z bX Z Z)<|yS Z (zs Z Z Z Z bX Z Z Z Z)<|zN<|zT<|zr ?_;obtain rfl := zJ hr;exact zf (.one (.cellAgg Z Z (by kernel_rfl) Z))<|(Conv.agg (.cons zv (.cons zv (.cons zv (.cons zv (.cons zv (.cons (Conv.vecAll Z Z Z) (.cons zv (.cons (Conv.vecAll Z Z Z) (.cons zv .nil))))))))))
end Go.Mg
