/- Products of numbers. What is confirmed. view.May. view.Take. A node at a tick: what it hears, counts, and stands by. A node behind a tick. A world once more. Conditions: none. -/
import Derived.Test.YtbjmcafamkdokaaGreatX3
import Derived.Test.YtbjmcafamkdokaaGreatX5
import Derived.Test.YtbjmcafamkdokaaGreatX6
import Derived.Test.YtbjmcafamkdokaaGreatX4
set_option maxRecDepth 100000
set_option linter.unusedSimpArgs false
set_option linter.unusedVariables false
namespace Go.Mg
open Go.Proofs
def sa (x : Int) (y : Int) : Option (Int × Int) :=
 some (IntKind.u64.wrap ((IntKind.u64.wrap ((IntKind.u64.wrap ((x.fdiv (2 ^ (min (Int.toNat 32) IntKind.u64.bits))) * (y.fdiv (2 ^ (min (Int.toNat 32) IntKind.u64.bits))))) + ((IntKind.u64.wrap ((IntKind.u64.wrap ((x.fdiv (2 ^ (min (Int.toNat 32) IntKind.u64.bits))) * (bits .and .u64 y 4294967295))) + ((IntKind.u64.wrap ((bits .and .u64 x 4294967295) * (bits .and .u64 y 4294967295))).fdiv (2 ^ (min (Int.toNat 32) IntKind.u64.bits))))).fdiv (2 ^ (min (Int.toNat 32) IntKind.u64.bits))))) + ((IntKind.u64.wrap ((bits .and .u64 (IntKind.u64.wrap ((IntKind.u64.wrap ((x.fdiv (2 ^ (min (Int.toNat 32) IntKind.u64.bits))) * (bits .and .u64 y 4294967295))) + ((IntKind.u64.wrap ((bits .and .u64 x 4294967295) * (bits .and .u64 y 4294967295))).fdiv (2 ^ (min (Int.toNat 32) IntKind.u64.bits))))) 4294967295) + (IntKind.u64.wrap ((bits .and .u64 x 4294967295) * (y.fdiv (2 ^ (min (Int.toNat 32) IntKind.u64.bits))))))).fdiv (2 ^ (min (Int.toNat 32) IntKind.u64.bits)))), IntKind.u64.wrap (x * y))
theorem FH {x : Int} {y : Int} {r_ : Int × Int} (hr : sa x y = some r_) : aw Tryz.prog 158 [.int .u64 x, .int .u64 y] [.int .u64 r_.1, .int .u64 r_.2] := by
 refine zh Tryz.func158 Z Z Z Z ?_;unfold sa at hr;refine zQ<|zR<|zM Z<|zM Z<|zN<|zT<|zQ<|zR<|zM Z<|yS Z (ax Z Z Z Z)<|zM Z<|zN<|zT<|zQ<|zR<|zM Z<|yS Z (ab.shr Z Z Z (by decide))<|zM Z<|zN<|zT<|zQ<|zR<|zM Z<|yS Z (ax Z Z Z Z) ?_;refine zM Z<|zN<|zT<|zQ<|zR<|zM Z<|yS Z (ab.shr Z Z Z (by decide))<|zM Z<|zN<|zT<|zQ<|zR<|zM Z<|zM Z<|yS Z (ax Z Z Z Z)<|zM Z<|zN<|zT<|zQ<|zR<|zM Z<|zM Z<|yS Z (ax Z Z Z Z)<|zM Z ?_;refine yS Z (ab.shr Z Z Z (by decide))<|yS Z (ax Z Z Z Z)<|zM Z<|zN<|zT<|zQ<|zR<|zM Z<|yS Z (ax Z Z Z Z)<|zM Z<|zN<|zT<|zQ<|zR<|zM Z<|yS Z (ab.shr Z Z Z (by decide))<|zM Z<|zN<|zT<|zQ<|zR<|zM Z<|zM Z<|zM Z ?_;refine yS Z (ax Z Z Z Z)<|yS Z (ax Z Z Z Z)<|zM Z<|zN<|zT<|zQ<|zR<|zM Z<|zM Z<|yS Z (ax Z Z Z Z)<|zM Z<|yS Z (ax Z Z Z Z)<|zM Z<|yS Z (ab.shr Z Z Z (by decide))<|yS Z (ax Z Z Z Z)<|zM Z<|zN<|zT<|zQ<|zR<|zM Z<|zM Z<|yS Z (ax Z Z Z Z)<|zM Z ?_;refine zN<|zT<|zr ?_;obtain rfl := zJ hr;exact zf (.two (.tmp Z) (.tmp Z))<|⟨_, rfl, (.cons zv (.cons zv .nil))⟩
def rX (a : Int) (b : Int) : Option ID :=
 (sa (IntKind.u64.wrap (a)) (IntKind.u64.wrap (b))).bind fun v1 =>
 some v1
theorem C9 {a : Int} {b : Int} {r_ : ID} (hr : rX a b = some r_) : aw Tryz.prog 116 [.int .i64 a, .int .i64 b] [cw r_] := by
 refine zh Tryz.func116 Z Z Z Z ?_;unfold rX at hr;refine zQ<|zR<|yS Z (ze Z vF Z Z)<|zN<|zT<|zQ<|zR<|zM Z<|yS Z (ab.convert (k' := .u64) Z Z (by kernel_rfl))<|zM Z<|yS Z (ab.convert (k' := .u64) Z Z (by kernel_rfl))<|zb hr fun v1 h_v1 hr => yS Z (zC Z Z Z (by kernel_rfl) (zp (FH h_v1) (.cons zv (.cons zv .nil))))<|zM Z<|yS Z (fE Z Z Z)<|yS Z (fE Z Z Z)<|zM Z<|zM Z<|zN<|zT<|zQ<|zR<|zM Z<|zM Z ?_;refine yS Z (ab.build Z Ef Z Z Z)<|yS Z (zs Z Z Z Z pZ Z Z Z Z)<|zN<|zT<|zr ?_;obtain rfl := zJ hr;exact zf (.one (.cellAgg Z Z (by kernel_rfl) Z)) zv
def rZ (n : Int) : Option Bool :=
 bif decide (n ≥ 0) then
  some (decide (n ≤ 4611686018427387904))
 else
  some false
theorem FG {n : Int} {r_ : Bool} (hr : rZ n = some r_) : aw Tryz.prog 157 [.int .i64 n] [.bool r_] := by
 refine zh Tryz.func157 Z Z Z Z ?_;unfold rZ at hr;refine zQ<|zR<|zM Z<|zN<|zT<|zQ<|zR<|zM Z<|yS Z (ax Z Z Z Z)<|zM Z ?_;refine zc 5 Z (fun g1 => ?_)<|fun g1 => ?_
 ·
  refine zi g1 hr fun hr => yV Z (gd g1 Z) (zm Z Z)<|yV Z (gd g1 Z) (ax Z Z Z Z)<|yS Z (ca Z (aN g1 Z) Z)<|zM Z<|zN<|zT<|zr ?_;obtain rfl := zJ hr;exact zf (.one (.tmp Z)) zv
 ·
  refine zo g1 hr fun hr => yU Z (gd g1 Z) Z<|yU Z (gd g1 Z) Z<|yS Z (a8 Z (aN g1 Z) Z)<|zM Z<|zN<|zT<|zr ?_;obtain rfl := zJ hr;exact zf (.one (.tmp Z)) zv
def vI (n : Int) : Option Bool :=
 (rZ n).bind fun v1 =>
 some (!v1)
theorem FF {n : Int} {r_ : Bool} (hr : vI n = some r_) : aw Tryz.prog 156 [.int .i64 n] [.bool r_] := by
 refine zh Tryz.func156 Z Z Z Z ?_;unfold vI at hr;refine zQ<|zR<|zM Z<|zN<|zT<|zQ<|zR<|zM Z<|zb hr fun v1 h_v1 hr => yS Z (zC Z Z Z (by kernel_rfl) (zp (FG h_v1) (.cons zv .nil)))<|yS Z (ab.not Z Z)<|zM Z<|zN<|zT<|zr ?_;obtain rfl := zJ hr;exact zf (.one (.tmp Z)) zv
structure fg where
 t8 : Int
def kA (s : List Int) (x1 : fg) : Option (fg ⊕ (fg ⊕ Int)) :=
 bif decide (x1.t8 < (s.length : Int)) then
  (ix s x1.t8).bind fun y1 =>
  (vI y1).bind fun v2 =>
  bif v2 then
   some (.inr (.inr x1.t8))
  else
   some (.inl (fg.mk (IntKind.i64.wrap (x1.t8 + 1))))
 else
  some (.inr (.inl (fg.mk x1.t8)))
def Ci (s : List Int) : Option Int :=
 (iter (kA s) bH (fg.mk 0)).bind fun b_v1 => Sum.elim (fun _ =>
  some (-1)) some b_v1
theorem Gx {s : List Int} {r_ : Int} (hr : Ci s = some r_) : LC Tryz.prog 173 [(kI s), .fn 156 [] []] [] (Is (iQ r_) []) := by
 refine dt Tryz.func173 Z Z Z ?_;unfold Ci at hr;refine zQ<|zR<|zM Z<|zN<|zT<|zQ<|zQ<|zR<|zM Z<|yS Z (cC Z Z (by kernel_rfl))<|zM Z<|zN<|zT ?_;obtain ⟨b_v1, hb_v1, ho_v1⟩ := zB hr;clear hr;refine LW.tailB (b := b_v1) (E := fun v1 => [(4, (iQ 0))]) (O := fun v1 => []) ?_<|fun v1 e_v1 env_v1 H_v1 hw_v1 => ?_
 ·refine LW.block ?_;refine LW.iterB (E := fun x1 : fg => [(0, (kI s)), (1, .fn 156 [] []), (4, (iQ 0)), (7, .p (.int .i64 (s.length : Int))), (8, (iQ x1.t8))]) (O := fun x1 => []) hb_v1 (zW 0 ⟨rfl, rfl, rfl, rfl, rfl, trivial⟩ Z Z Z Z)<|fun x1 z_x1 hr hb_x1 => ?_;unfold kA at hr;refine zQ<|zR<|yS Z (ax Z Z Z Z)<|zN<|zT<|zQ ?_;refine zX Z (fun g1 => ?_)<|fun g1 => ?_
  ·
   refine zi g1 hr fun hr => zk<|zT<|zQ<|zl<|zQ<|zR<|zM Z<|zM Z<|zN<|zT<|zQ<|zR<|zM Z<|zM Z<|zM Z<|zb hr fun y1 h_y1 hr => yS Z (zx Z Z Z fP h_y1 Z)<|yS Z (cT Z Z Z aX Z Z)<|zb hr fun v2 h_v2 hr => yS Z (zC Z Z Z (by kernel_rfl) (zp (FF h_v2) (.cons zv .nil)))<|zN<|zT ?_;refine zX Z (fun g2 => ?_)<|fun g2 => ?_
   ·
    refine zi g2 hr fun hr => zQ<|zR<|zM Z<|zM Z<|zN<|zT<|zr<|aq<|af<|af<|aq<|af<|af ?_;obtain rfl := zJ hr;have hr := congrArg some (hb_x1 _ rfl);obtain rfl := zJ hr;have hr := ck ho_v1;obtain rfl := zJ hr;exact ap (.one (.tmp Z))<|⟨rfl, rfl⟩
   ·
    refine zo g2 hr fun hr => zk<|ai<|zT<|zR<|yS Z (ax Z Z Z Z)<|zM Z<|zN<|zT ?_;obtain rfl := zJ hr;exact ⟨_, rfl, zW 0 ⟨rfl, rfl, rfl, rfl, rfl, trivial⟩ Z Z Z rfl⟩
  ·
   refine zo g1 hr fun hr => zq<|ao<|ao<|zy<|zT ?_;obtain rfl := zJ hr;have hr := congrArg some (hb_x1 _ rfl);obtain rfl := zJ hr;exact ⟨_, rfl, zW 0 ⟨rfl, trivial⟩ Z Z Z rfl⟩
 ·obtain rfl := e_v1;have hr := dK ho_v1;clear hb_v1;refine zT<|LW.weak hw_v1<|zQ<|zR<|zM Z<|zN<|zT<|zr ?_;obtain rfl := zJ hr;exact ap (.one (.tmp Z))<|⟨rfl, rfl⟩
def HM (s : List Int) : Option Bool :=
 (Ci s).bind fun v1 =>
 some (decide (v1 ≥ 0))
theorem IE {s : List Int} {r_ : Bool} (hr : HM s = some r_) : LC Tryz.prog 155 [(kI s), .fn 156 [] []] [] (Is (bQ r_) []) := by
 refine dt Tryz.func155 Z Z Z ?_;unfold HM at hr;refine zQ<|zR<|zM Z<|zN<|zT<|zQ<|zR<|zM Z<|zM Z<|zb hr fun v1 h_v1 hr => yS Z (zC Z Z Z (by kernel_rfl) (Gx h_v1))<|yS Z (ax Z Z Z Z)<|zM Z<|zN<|zT<|zr ?_;obtain rfl := zJ hr;exact ap (.one (.tmp Z))<|⟨rfl, rfl⟩
def rW (l : List Int) : Option Bool :=
 (HM l).bind fun v1 =>
 some (!v1)
theorem FD {l : List Int} {r_ : Bool} (hr : rW l = some r_) : aw Tryz.prog 115 [.slice 1 (l.map aB)] [.bool r_] := by
 refine zh Tryz.func115 Z Z Z Z ?_;unfold rW at hr;refine zQ<|zR<|zM Z<|zN<|zT<|zQ<|zR<|zM Z<|zb hr fun v1 h_v1 hr => yS Z (zC Z Z Z (by kernel_rfl) (IE h_v1))<|yS Z (ab.not Z Z)<|zM Z<|zN<|zT<|zr ?_;obtain rfl := zJ hr;exact zf (.one (.tmp Z)) zv
def rU (a : Int) (b : Int) (c : Int) (d : Int) : Option Bool :=
 (rW [a, b, c, d]).bind fun v1 =>
 bif !v1 then
  some false
 else
  (rX a b).bind fun v2 =>
  (rX c d).bind fun v3 =>
  bif !((v2.1 == v3.1) && ((v2.2 == v3.2) && true)) then
   (wX [v2.1, v2.2] [v3.1, v3.2]).bind fun v4 =>
   some (decide (v4 > 0))
  else
   some false
theorem FB {a : Int} {b : Int} {c : Int} {d : Int} {r_ : Bool} (hr : rU a b c d = some r_) : aw Tryz.prog 62 [.int .i64 a, .int .i64 b, .int .i64 c, .int .i64 d] [.bool r_] := by
 refine zh Tryz.func62 Z Z Z Z ?_;unfold rU at hr;refine zQ<|zR<|zM Z<|zN<|zT<|zQ<|zQ<|zR<|zM Z<|zM Z<|zM Z<|zM Z<|yS Z (mA Z fP Z Z Z Z Z)<|zb hr fun v1 h_v1 hr => yS Z (zC Z Z Z (by kernel_rfl) (zp (FD h_v1) (.cons zv .nil)))<|yS Z (ab.not Z Z)<|zN<|zT ?_;refine zX Z (fun g1 => ?_)<|fun g1 => ?_
 ·
  refine zi g1 hr fun hr => zQ<|zR<|zM Z<|zN<|zT<|zr<|af ?_;obtain rfl := zJ hr;exact zf (.one (.tmp Z)) zv
 ·
  refine zo g1 hr fun hr => zk<|zT<|zQ<|zR<|zM Z<|zM Z<|zb hr fun v2 h_v2 hr => yS Z (zC Z Z Z (by kernel_rfl) (zp (C9 h_v2) (.cons zv (.cons zv .nil))))<|zM Z<|zM Z<|zb hr fun v3 h_v3 hr => yS Z (zC Z Z Z (by kernel_rfl) (zp (C9 h_v3) (.cons zv (.cons zv .nil))))<|yS Z (ze Z vF Z Z)<|yS Z (ze Z vF Z Z)<|yS Z (zs Z Z Z Z pZ Z Z Z Z)<|yS Z (zs Z Z Z Z pZ Z Z Z Z)<|zN<|zT<|zQ<|LW.draw2 (by kernel_rfl) (by kernel_rfl)<|yE Z (zD Z Z Z pZ Z Z)<|yE Z (zD Z Z Z pZ Z Z)<|yE Z (ab.neqAgg Z Z Z Z Z CM) ?_;refine zH Z ?_;refine LO.cases 27 Z (fun (g2 : (!((v2.1 == v3.1) && ((v2.2 == v3.2) && true))) = true) => ?_) (fun (g2 : (!((v2.1 == v3.1) && ((v2.2 == v3.2) && true))) = false) => ?_)
  ·
   refine zi g2 hr fun hr => LO.gd Z Z Z (gd g2 Z) Z (ab.sliceBox Z Z Ag Z Z Z)<|LO.gd Z Z Z (gd g2 Z) Z (ab.sliceBox Z Z Ag Z Z Z)<|zb hr fun v4 h_v4 hr => LO.gd Z Z Z (gd g2 Z) Z (zC Z Z Z (by kernel_rfl) (LC.lend (FR h_v4) (.cons (Conv.boxSlice Z Z Z Z) (.cons (Conv.boxSlice Z Z Z Z) .nil)) Z))<|LO.gd Z Z Z (gd g2 Z) Z (ax Z Z Z Z)<|yE Z (ca Z (aN g2 Z) Z)<|zH Z<|LO.nil<|zT<|zr ?_;obtain rfl := zJ hr;exact zf (.one (.tmp Z)) zv
  ·
   refine zo g2 hr fun hr => LO.sk Z Z Z (gd g2 Z) Z Z<|LO.sk Z Z Z (gd g2 Z) Z Z<|LO.sk Z Z Z (gd g2 Z) Z Z<|LO.sk Z Z Z (gd g2 Z) Z Z<|yE Z (a8 Z (aN g2 Z) Z)<|zH Z<|LO.nil<|zT<|zr ?_;obtain rfl := zJ hr;exact zf (.one (.tmp Z)) zv
open Go.Proofs
def z8 (c : Cf) (w : Vw) (slot : Int) : Option (List Vt × Int) :=
 (qg c w.V slot).bind fun v1 =>
 (DZ c slot).bind fun v2 =>
 (E5 c v2).bind fun v3 =>
 some (v1, v3)
theorem GA {c : Cf} {w : Vw} {slot : Int} {r_ : List Vt × Int} (hr : z8 c w slot = some r_) : LC Tryz.prog 59 [.p (kG c), .p (kZ w), (iQ slot)] [] (Is (.agg [.fn 111 [] [.ptr 0 0, .ptr 1 0, .ptr 3 0], .fn 113 [] [.ptr 0 0, .ptr 4 0]]) [.box (bN c), .box (du w), .box [.fn 111 [] [.ptr 0 0, .ptr 1 0, .ptr 3 0], .fn 113 [] [.ptr 0 0, .ptr 4 0]], .box [(kV r_.1)], .box [(iQ r_.2)]]) := by
 refine dt Tryz.func59 Z Z Z ?_;unfold z8 at hr;refine zQ<|zR<|yS Z (bV Z Z Z Z Z)<|yS Z (bV Z Z Z Z Z)<|yS Z (ze Z BL Z Z)<|zN<|zT<|zQ<|LW.ent (bJ.slot Z)<|LW.ent (bJ.slot Z)<|LW.drawW (by kernel_rfl) (by kernel_rfl)<|yF Z (zd Z Z Z b6 Z Z) Z ?_;refine yF (F := []) (s := none) Z (fun H _ => zA Z Z bG) Z ?_;refine yF Z (zd Z Z Z dP Z Z) Z<|zK Z<|zb hr fun v1 h_v1 hr => ?_;refine yF (F := []) (s := none) Z (fun H _ => zC Z Z Z (by kernel_rfl) (zp (Db h_v1) (.cons zv (.cons zv (.cons zv .nil))))) Z ?_;refine yF Z (zd Z Z Z b6 Z Z) Z<|yF Z (zd Z Z Z b6 Z Z) Z<|zK Z<|zb hr fun v2 h_v2 hr => ?_;refine yF (F := []) (s := none) Z (fun H _ => zC Z Z Z (by kernel_rfl) (zp (IB h_v2) (.cons zv (.cons zv .nil)))) Z ?_;obtain ⟨v3, h_v3, hr⟩ := zB hr;refine yF (F := []) (s := none) Z (fun H _ => zC Z Z Z (by kernel_rfl) (zp (IV h_v3) (.cons zv (.cons zv .nil)))) Z ?_;refine yF Z (bE.alloc Z IT (id := 3) Z) Z<|yF Z (bE.alloc Z I5 (id := 4) Z) Z<|yF Z (zt Z Z Z Z dP Z Z Z) Z<|yF Z (zt Z Z Z Z aX Z Z Z) Z ?_;refine LF.nil ⟨by kernel_rfl, ?_⟩;refine zT<|zQ<|zR<|yS Z (ab.makeFunc Z Z Z)<|yS Z (ab.makeFunc Z Z Z)<|yS Z (ab.build Z Ej Z Z Z)<|yS Z (zs Z Z Z Z BA Z Z Z Z)<|zN<|zT<|zr ?_;obtain rfl := zJ hr;exact ap (.one (.cellAgg Z Z (by kernel_rfl) Z))<|⟨rfl, rfl⟩
theorem GF {c : Cf} {w : Vw} {slot : Int} {r_ : List Vt × Int} (hr : z8 c w slot = some r_) : sN Tryz.prog 59 [kG c, kZ w, .int .i64 slot] (.agg [.fn 111 [] [.cptr [.slice 1 (c.W.map aB), .int .u64 c.Seed, .int .i64 c.Epoch, .int .i64 c.Num, .int .i64 c.Den], .cptr [.slice 5 (w.B.map ay), .slice 4 (w.V.map aD)], .cptr [.slice 4 (r_.1.map aD)]], .fn 113 [] [.cptr [.slice 1 (c.W.map aB), .int .u64 c.Seed, .int .i64 c.Epoch, .int .i64 c.Num, .int .i64 c.Den], .cptr [.int .i64 r_.2]]]) :=
 sN.ofLC rfl (GA hr) (cU.agg ⟨cU.fn trivial ⟨cU.ptr rfl rfl rfl, cU.ptr rfl rfl rfl, cU.ptr rfl rfl rfl, trivial⟩, cU.fn trivial ⟨cU.ptr rfl rfl rfl, cU.ptr rfl rfl rfl, trivial⟩, trivial⟩)
def Cm (id : ID) (c : Cf) (w : Vw) (v : List Vt) : Option Int :=
 (wS c w.B v id).bind fun v1 =>
 some v1
theorem GB {id : ID} {c : Cf} {w : Vw} {v : List Vt} {r_ : Int} (hr : Cm id c w v = some r_) : LC Tryz.prog 111 [.p (cw id), .cptr [.slice 1 (c.W.map aB), .int .u64 c.Seed, .int .i64 c.Epoch, .int .i64 c.Num, .int .i64 c.Den], .cptr [.slice 5 (w.B.map ay), .slice 4 (w.V.map aD)], .cptr [.slice 4 (v.map aD)]] [] (Is (iQ r_) []) := by
 refine dt Tryz.func111 Z Z Z ?_;unfold Cm at hr;refine zQ<|zR<|yS Z (bV Z Z Z Z Z)<|zM Z<|zN<|zT<|zQ<|zR<|yS Z (cT Z Z Z b6 Z Z)<|yS Z (ab.fieldAddrC Z Z br Z)<|yS Z (cT Z Z Z dr Z Z)<|yS Z (cT Z Z Z dP Z Z)<|yS Z (zD Z Z Z aV Z Z)<|zb hr fun v1 h_v1 hr => yS Z (zC Z Z Z (by kernel_rfl) (zp (FM h_v1) (.cons zv (.cons zv (.cons zv (.cons zv .nil))))))<|zM Z<|zN<|zT<|zr ?_;obtain rfl := zJ hr;exact aS (env' := [(5, (iQ v1))]) (H' := []) (zW 0 ⟨rfl, trivial⟩ Z Z Z Z) (.one (.tmp Z))<|⟨rfl, rfl⟩
def rg (n : Int) (c : Cf) (al : Int) : Option Bool :=
 (rU (IntKind.i64.wrap (2 * n)) c.Den al (IntKind.i64.wrap (c.Den + (IntKind.i64.wrap (2 * c.Num))))).bind fun v1 =>
 some v1
theorem CD {n : Int} {c : Cf} {al : Int} {r_ : Bool} (hr : rg n c al = some r_) : LC Tryz.prog 113 [(iQ n), .cptr [.slice 1 (c.W.map aB), .int .u64 c.Seed, .int .i64 c.Epoch, .int .i64 c.Num, .int .i64 c.Den], .cptr [.int .i64 al]] [] (Is (bQ r_) []) := by
 refine dt Tryz.func113 Z Z Z ?_;unfold rg at hr;refine zQ<|zR<|zM Z<|zN<|zT<|zQ<|zR<|zM Z<|yS Z (ax Z Z Z Z)<|yS Z (ab.fieldAddrC Z Z pm Z)<|yS Z (cT Z Z Z aX Z Z)<|yS Z (cT Z Z Z aX Z Z)<|yS Z (ab.fieldAddrC Z Z pm Z)<|yS Z (cT Z Z Z aX Z Z)<|yS Z (ab.fieldAddrC Z Z uY Z)<|yS Z (cT Z Z Z aX Z Z)<|yS Z (ax Z Z Z Z)<|yS Z (ax Z Z Z Z)<|zb hr fun v1 h_v1 hr => yS Z (zC Z Z Z (by kernel_rfl) (zp (FB h_v1) (.cons zv (.cons zv (.cons zv (.cons zv .nil))))))<|zM Z<|zN<|zT<|zr ?_;obtain rfl := zJ hr;exact ap (.one (.tmp Z))<|⟨rfl, rfl⟩
structure kD where
 l : List ID
 v : List Vt
 al : Int
def iZ (c : Cf) (w : Vw) (x1 : kD) : Option (kD ⊕ (ID × Bool)) :=
 bif decide ((x1.l.length : Int) < 2) then
  some (.inr ((0, 0), false))
 else
  (ix x1.l 0).bind fun y1 =>
  (Cm y1 c w x1.v).bind fun v2 =>
  (rg v2 c x1.al).bind fun v3 =>
  bif v3 then
   (ix x1.l 0).bind fun y2 =>
   some (.inr (y2, true))
  else
   bif Fd x1.l 1 x1.l.length then
    some (.inl (kD.mk (x1.l.drop (1 : Int).toNat) x1.v x1.al))
   else none
def qk (c : Cf) (w : Vw) (slot : Int) (head : ID) : Option (ID × Bool) :=
 (z8 c w slot).bind fun v1 =>
 bif few w.B then
  iter (iZ c w) bH (kD.mk (a7 w.B head) v1.1 v1.2)
 else none
theorem F6 {c : Cf} {w : Vw} {slot : Int} {head : ID} {r_ : ID × Bool} (hr : qk c w slot head = some r_) : aw Tryz.prog 24 [kG c, kZ w, .int .i64 slot, cw head] [cw r_.1, .bool r_.2] := by
 refine zh Tryz.func24 Z Z Z Z ?_;unfold qk at hr;refine zQ<|zR<|yS Z (bV Z Z Z Z Z)<|yS Z (bV Z Z Z Z Z)<|yS Z (bV Z Z Z Z Z)<|yS Z (ze Z ke Z Z)<|zM Z<|zN<|zT ?_;refine LW.iterG (step := iZ c w) (N := bH) (b := r_) (E := fun x1 : kD => [(8, .ptr 3 0), (9, (bQ false)), (10, .ptr 4 0), (11, .p (.slice 2 (x1.l.map cw)))]) (O := fun x1 => [.box (bN c), .box (du w), .box [(uQ head.1), (uQ head.2)], .box [(uQ 0), (uQ 0)], .box [.fn 111 [] [.cptr [.slice 1 (c.W.map aB), .int .u64 c.Seed, .int .i64 c.Epoch, .int .i64 c.Num, .int .i64 c.Den], .cptr [.slice 5 (w.B.map ay), .slice 4 (w.V.map aD)], .cptr [.slice 4 (x1.v.map aD)]], .fn 113 [] [.cptr [.slice 1 (c.W.map aB), .int .u64 c.Seed, .int .i64 c.Epoch, .int .i64 c.Num, .int .i64 c.Den], .cptr [.int .i64 x1.al]]]]) Z ?_<|fun x1 z_x1 hr hb_x1 => ?_
 ·
  refine LW.ent (bJ.slot Z)<|LW.drawW (by kernel_rfl) (by kernel_rfl)<|yF Z (zd Z Z Z b6 Z Z) Z<|yF Z (zd Z Z Z aK Z Z) Z<|zK Z<|zb hr fun v1 h_v1 hr => ?_;refine yF (F := []) (s := none) Z (fun H _ => zC Z Z Z (by kernel_rfl) (LC.free (GF h_v1) (.cons zv (.cons zv (.cons zv .nil))))) Z ?_;refine yF (F := []) (s := none) Z (fun H _ => zA Z Z br) Z ?_;refine yF Z (zd Z Z Z dr Z Z) Z<|yF Z (zd Z Z Z aV Z Z) Z<|zg hr fun q1 hr => ?_;refine yF (F := []) (s := none) Z (fun H _ => zC Z Z Z (by kernel_rfl) (zp (Iy (l := w.B) (id := head) (uT q1)) (.cons zv (.cons zv .nil)))) Z ?_;refine yF Z (bE.alloc Z BL (id := 4) Z) Z<|yF Z (zt Z Z Z Z BA Z Z Z) Z<|zK Z ?_;refine LF.nil ⟨by kernel_rfl, ?_⟩;exact zT<|⟨_, hr, zW 5 ⟨rfl, rfl, rfl, rfl, trivial⟩ Z Z Z rfl⟩
 ·
  unfold iZ at hr;refine zQ<|zQ<|zR<|zM Z<|yS Z (cC Z Z (by kernel_rfl))<|yS Z (ax Z Z Z Z)<|zN<|zT ?_;refine zX Z (fun g1 => ?_)<|fun g1 => ?_
  ·
   refine zi g1 hr fun hr => zQ<|zR<|yS Z (ab.build Z xk Z Z Z)<|yS Z (zs Z Z Z Z aV Z Z Z Z)<|zM Z<|zN<|zT<|zr<|af<|tD ?_;obtain rfl := zJ hr;have hr := congrArg some (hb_x1 _ rfl);obtain rfl := zJ hr;exact zf (.two (.cellAgg Z Z (by kernel_rfl) Z) (.tmp Z))<|⟨_, rfl, (.cons zv (.cons zv .nil))⟩
  ·
   refine zo g1 hr fun hr => zk<|zT<|zQ<|zQ<|LW.draw2 (by kernel_rfl) (by kernel_rfl)<|yE Z (zA Z Z AH)<|yE Z (zD Z Z Z q9 Z Z)<|yE Z (zA Z Z AG)<|yE Z (zD Z Z Z E0 Z Z)<|zH Z<|zb hr fun y1 h_y1 hr => yE Z (zx Z Z Z pK h_y1 Z)<|yE Z (cT Z Z Z aV Z Z)<|zb hr fun v2 h_v2 hr => yE Z (zC Z Z Z (by kernel_rfl) (LC.pre (GB h_v2) Z Z Z))<|zb hr fun v3 h_v3 hr => yE Z (zC Z Z Z (by kernel_rfl) (LC.pre (CD h_v3) Z Z Z))<|LO.nil<|zT ?_;refine zX Z (fun g2 => ?_)<|fun g2 => ?_
   ·
    refine zi g2 hr fun hr => zQ<|zR<|zM Z<|zb hr fun y2 h_y2 hr => yS Z (zx Z Z Z pK h_y2 Z)<|yS Z (cT Z Z Z aV Z Z)<|yS Z (zs Z Z Z Z aV Z Z Z Z)<|zM Z<|zN<|zT<|zr<|af<|tD ?_;obtain rfl := zJ hr;have hr := congrArg some (hb_x1 _ rfl);obtain rfl := zJ hr;exact zf (.two (.cellAgg Z Z (by kernel_rfl) Z) (.tmp Z))<|⟨_, rfl, (.cons zv (.cons zv .nil))⟩
   ·
    refine zo g2 hr fun hr => zk<|zT<|zQ<|zR<|zM Z<|zg hr fun q2 hr => yS Z (ab.sliceLo Z Z Z pK q2)<|zM Z<|zN<|zT<|LW.goto<|AP ?_;obtain rfl := zJ hr;exact ⟨_, rfl, zW 5 ⟨rfl, rfl, rfl, rfl, trivial⟩ Z Z Z rfl⟩
open Go.Proofs
def yq (v : Vt) (sm : List (ID × Int)) : Option Bool :=
 bif !((aj sm v.Head).isSome) then
  some true
 else
  some (decide (((aj sm v.Head).getD 0) > v.Slot))
theorem Gl {v : Vt} {w : Vw} {sm : List (ID × Int)} {hm : List (Vt × Bool)} {r_ : Bool} (hr : yq v sm = some r_) : LC Tryz.prog 189 [.p (aD v), .ptr 9 0] [.dead, .box (du w), .dead, .dead, .dead, .dead, (mQ sm), (mR hm), .box [(jB 4 w.B), (jV 5 w.V), .map 6, .map 7, (iQ 0), (bQ false)], .box [.ptr 8 0]] (Is (bQ r_) [.dead, .box (du w), .dead, .dead, .dead, .dead, (mQ sm), (mR hm), .box [(jB 4 w.B), (jV 5 w.V), .map 6, .map 7, (iQ 0), (bQ false)], .box [.ptr 8 0]]) := by
 refine dt Tryz.func189 Z Z Z ?_;unfold yq at hr;refine zQ<|zR<|yS Z (bV Z Z Z Z Z)<|zM Z<|zN<|zT<|zQ<|LW.draw2 (by kernel_rfl) (by kernel_rfl)<|yE Z (zD Z Z Z By Z Z)<|yE Z (zn Z Z)<|yE Z (zA Z Z kJ)<|yE Z (zD Z Z Z x7 Z Z)<|yE Z (zA Z Z lq)<|yE Z (zD Z Z Z aV Z Z) ?_;refine yE Z (ab.getX (f := cw) (g := (fun v => (iQ v))) v.Head 0 dZ Z Z Z Z jG C5 Z Z) ?_;refine zH Z<|yE Z (fE Z Z Z)<|yE Z (fE Z Z Z)<|zH Z<|zH Z<|LO.nil<|zT<|zQ<|zR<|zM Z<|yS Z (ab.not Z Z)<|zM Z ?_;refine zc 18 Z (fun g1 => ?_)<|fun g1 => ?_
 ·
  refine zi g1 hr fun hr => yU Z (gd g1 Z) Z<|yU Z (gd g1 Z) Z<|yU Z (gd g1 Z) Z<|yU Z (gd g1 Z) Z<|yS Z (ca Z (aN g1 Z) Z)<|zM Z<|zN<|zT<|zr ?_;obtain rfl := zJ hr;refine aS (env' := [(3, (bQ true))]) (H' := [.dead, .box (du w), .dead, .dead, .dead, .dead, (mQ sm), (mR hm), .box [(jB 4 w.B), (jV 5 w.V), .map 6, .map 7, (iQ 0), (bQ false)], .box [.ptr 8 0]]) (zW 10 ⟨rfl, trivial⟩ Z Z Z (zL Z (zL Z (zL Z (zL Z (zL Z (zL Z (zL (ae (fun _ => rfl) _) (zL (ae (fun _ => rfl) _) (zL Z (zL Z Z))))))))))) (.one (.tmp Z)) ?_;exact ⟨rfl, rfl⟩
 ·
  refine zo g1 hr fun hr => yV Z (gd g1 Z) (zm Z Z)<|yV Z (gd g1 Z) (zA Z Z po)<|yV Z (gd g1 Z) (zD Z Z Z aX Z Z)<|yV Z (gd g1 Z) (ax Z Z Z Z)<|yS Z (a8 Z (aN g1 Z) Z)<|zM Z<|zN<|zT<|zr ?_;obtain rfl := zJ hr;refine aS (env' := [(3, .p (.bool (decide (((aj sm v.Head).getD 0) > v.Slot))))]) (H' := [.dead, .box (du w), .dead, .dead, .dead, .dead, (mQ sm), (mR hm), .box [(jB 4 w.B), (jV 5 w.V), .map 6, .map 7, (iQ 0), (bQ false)], .box [.ptr 8 0]]) (zW 10 ⟨rfl, trivial⟩ Z Z Z (zL Z (zL Z (zL Z (zL Z (zL Z (zL Z (zL (ae (fun _ => rfl) _) (zL (ae (fun _ => rfl) _) (zL Z (zL Z Z))))))))))) (.one (.tmp Z)) ?_;exact ⟨rfl, rfl⟩
structure dR where
 t8 : Int
def ik (l : List Vt) (sm : List (ID × Int)) (x1 : dR) : Option (dR ⊕ (dR ⊕ Int)) :=
 bif decide (x1.t8 < (l.length : Int)) then
  (ix l x1.t8).bind fun y1 =>
  (yq y1 sm).bind fun v2 =>
  bif v2 then
   some (.inr (.inr x1.t8))
  else
   some (.inl (dR.mk (IntKind.i64.wrap (x1.t8 + 1))))
 else
  some (.inr (.inl (dR.mk x1.t8)))
def vS (l : List Vt) (sm : List (ID × Int)) : Option Int :=
 (iter (ik l sm) bH (dR.mk 0)).bind fun b_v1 => Sum.elim (fun _ =>
  some (-1)) some b_v1
theorem Ex {l : List Vt} {w : Vw} {sm : List (ID × Int)} {hm : List (Vt × Bool)} {r_ : Int} (hr : vS l sm = some r_) : LC Tryz.prog 170 [(kV l), .fn 189 [] [.ptr 9 0]] [.dead, .box (du w), .dead, .dead, .dead, .dead, (mQ sm), (mR hm), .box [(jB 4 w.B), (jV 5 w.V), .map 6, .map 7, (iQ 0), (bQ false)], .box [.ptr 8 0]] (Is (iQ r_) [.dead, .box (du w), .dead, .dead, .dead, .dead, (mQ sm), (mR hm), .box [(jB 4 w.B), (jV 5 w.V), .map 6, .map 7, (iQ 0), (bQ false)], .box [.ptr 8 0]]) := by
 refine dt Tryz.func170 Z Z Z ?_;unfold vS at hr;refine zQ<|zR<|zM Z<|zN<|zT<|zQ<|zQ<|zR<|zM Z<|yS Z (cC Z Z (by kernel_rfl))<|zM Z<|zN<|zT ?_;obtain ⟨b_v1, hb_v1, ho_v1⟩ := zB hr;clear hr;refine LW.tailB (b := b_v1) (E := fun v1 => [(4, (iQ 0))]) (O := fun v1 => [.dead, .box (du w), .dead, .dead, .dead, .dead, (mQ sm), (mR hm), .box [(jB 4 w.B), (jV 5 w.V), .map 6, .map 7, (iQ 0), (bQ false)], .box [.ptr 8 0]]) ?_<|fun v1 e_v1 env_v1 H_v1 hw_v1 => ?_
 ·refine LW.block ?_;refine LW.iterB (E := fun x1 : dR => [(0, (kV l)), (1, .fn 189 [] [.ptr 9 0]), (4, (iQ 0)), (7, .p (.int .i64 (l.length : Int))), (8, (iQ x1.t8))]) (O := fun x1 => [.dead, .box (du w), .dead, .dead, .dead, .dead, (mQ sm), (mR hm), .box [(jB 4 w.B), (jV 5 w.V), .map 6, .map 7, (iQ 0), (bQ false)], .box [.ptr 8 0]]) hb_v1 (zW 10 ⟨rfl, rfl, rfl, rfl, rfl, trivial⟩ Z Z Z (zL Z (zL Z (zL Z (zL Z (zL Z (zL Z (zL (ae (fun _ => rfl) _) (zL (ae (fun _ => rfl) _) (zL Z (zL Z Z)))))))))))<|fun x1 z_x1 hr hb_x1 => ?_;unfold ik at hr;refine zQ<|zR<|yS Z (ax Z Z Z Z)<|zN<|zT<|zQ ?_;refine zX Z (fun g1 => ?_)<|fun g1 => ?_
  ·
   refine zi g1 hr fun hr => zk<|zT<|zQ<|zl<|zQ<|zR<|zM Z<|zM Z<|zN<|zT<|zQ<|zR<|zM Z<|zM Z<|zM Z<|zb hr fun y1 h_y1 hr => yS Z (zx Z Z Z cZ h_y1 Z)<|yS Z (cT Z Z Z co Z Z)<|zb hr fun v2 h_v2 hr => yS Z (zC Z Z Z (by kernel_rfl) (Gl h_v2))<|zN<|zT ?_;refine zX Z (fun g2 => ?_)<|fun g2 => ?_
   ·
    refine zi g2 hr fun hr => zQ<|zR<|zM Z<|zM Z<|zN<|zT<|zr<|aq<|af<|af<|aq<|af<|af ?_;obtain rfl := zJ hr;have hr := congrArg some (hb_x1 _ rfl);obtain rfl := zJ hr;have hr := ck ho_v1;obtain rfl := zJ hr;exact ap (.one (.tmp Z))<|⟨rfl, rfl⟩
   ·
    refine zo g2 hr fun hr => zk<|ai<|zT<|zR<|yS Z (ax Z Z Z Z)<|zM Z<|zN<|zT ?_;obtain rfl := zJ hr;exact ⟨_, rfl, zW 10 ⟨rfl, rfl, rfl, rfl, rfl, trivial⟩ Z Z Z (zL Z (zL Z (zL Z (zL Z (zL Z (zL Z (zL (ae (fun _ => rfl) _) (zL (ae (fun _ => rfl) _) (zL Z (zL Z Z))))))))))⟩
  ·
   refine zo g1 hr fun hr => zq<|ao<|ao<|zy<|zT ?_;obtain rfl := zJ hr;have hr := congrArg some (hb_x1 _ rfl);obtain rfl := zJ hr;exact ⟨_, rfl, zW 10 ⟨rfl, trivial⟩ Z Z Z (zL Z (zL Z (zL Z (zL Z (zL Z (zL Z (zL (ae (fun _ => rfl) _) (zL (ae (fun _ => rfl) _) (zL Z (zL Z Z))))))))))⟩
 ·obtain rfl := e_v1;have hr := dK ho_v1;clear hb_v1;refine zT<|LW.weak hw_v1<|zQ<|zR<|zM Z<|zN<|zT<|zr ?_;obtain rfl := zJ hr;exact ap (.one (.tmp Z))<|⟨rfl, rfl⟩
def yr (l : List Vt) (sm : List (ID × Int)) : Option Bool :=
 (vS l sm).bind fun v1 =>
 some (decide (v1 ≥ 0))
theorem Gm {l : List Vt} {w : Vw} {sm : List (ID × Int)} {hm : List (Vt × Bool)} {r_ : Bool} (hr : yr l sm = some r_) : LC Tryz.prog 190 [(kV l), .fn 189 [] [.ptr 9 0]] [.dead, .box (du w), .dead, .dead, .dead, .dead, (mQ sm), (mR hm), .box [(jB 4 w.B), (jV 5 w.V), .map 6, .map 7, (iQ 0), (bQ false)], .box [.ptr 8 0]] (Is (bQ r_) [.dead, .box (du w), .dead, .dead, .dead, .dead, (mQ sm), (mR hm), .box [(jB 4 w.B), (jV 5 w.V), .map 6, .map 7, (iQ 0), (bQ false)], .box [.ptr 8 0]]) := by
 refine dt Tryz.func190 Z Z Z ?_;unfold yr at hr;refine zQ<|zR<|zM Z<|zN<|zT<|zQ<|zR<|zM Z<|zM Z<|zb hr fun v1 h_v1 hr => yS Z (zC Z Z Z (by kernel_rfl) (Ex h_v1))<|yS Z (ax Z Z Z Z)<|zM Z<|zN<|zT<|zr ?_;obtain rfl := zJ hr;exact ap (.one (.tmp Z))<|⟨rfl, rfl⟩
def Fp (c : Cf) (w : Vw) : Option Bool :=
 (
  (w5 c).bind fun v2 =>
  bif !v2 then
   some true
  else
   (E4 w.B).bind fun v3 =>
   bif !v3 then
    some true
   else
    bif decide ((w.B.length : Int) > 60) then
     some true
    else
     some (decide ((w.V.length : Int) > 240))
 ).bind fun v1 =>
 bif v1 then
  some false
 else
  (E7 c w).bind fun v4 =>
  (
   bif (v4.B.length : Int) != (w.B.length : Int) then
    some true
   else
    some ((v4.V.length : Int) != (w.V.length : Int))
  ).bind fun v5 =>
  bif v5 then
   some false
  else
   (wW w 0).bind fun v6 =>
   bif rp v6.2 then
    bif (v6.2.length : Int) == (w.V.length : Int) then
     (yr w.V v6.1).bind fun v7 =>
     some (!v7)
    else
     some false
   else none
theorem Je {c : Cf} {w : Vw} {r_ : Bool} (hr : Fp c w = some r_) : aw Tryz.prog 178 [kG c, kZ w] [.bool r_] := by
 refine zh Tryz.func178 Z Z Z Z ?_;unfold Fp at hr;refine zQ<|zR<|yS Z (bV Z Z Z Z Z)<|yS Z (bV Z Z Z Z Z)<|zM Z<|zN<|zT<|zQ ?_;obtain ⟨v1, hb_v1, ho_v1⟩ := zB hr;clear hr;refine LW.cut (E := [(2, .ptr 0 0), (3, .ptr 1 0), (4, (bQ false)), (28, (bQ v1))]) (O := [.box (bN c), .box (du w)]) ?_ ?_
 ·have hr := hb_v1;refine zR<|yS Z (zD Z Z Z b6 Z Z)<|zb hr fun v2 h_v2 hr => yS Z (zC Z Z Z (by kernel_rfl) (zp (En h_v2) (.cons zv .nil)))<|yS Z (ab.not Z Z)<|zM Z ?_;refine zc 11 Z (fun g1 => ?_)<|fun g1 => ?_
  ·
   refine zi g1 hr fun hr => yU Z (gd g1 Z) Z<|yU Z (gd g1 Z) Z<|yU Z (gd g1 Z) Z<|yU Z (gd g1 Z) Z<|yS Z (ca Z (aN g1 Z) Z)<|zM Z<|yU Z Z Z<|yU Z Z Z<|yU Z Z Z<|yU Z Z Z<|yS Z (ca Z Z Z)<|zM Z<|yU Z Z Z<|yU Z Z Z<|yU Z Z Z<|yU Z Z Z<|yS Z (ca Z Z Z)<|zN<|zT ?_;obtain rfl := zJ hr;exact zW 2 ⟨Z, Z, Z, Z, trivial⟩ Z Z Z Z
  ·
   refine zo g1 hr fun hr => yV Z (gd g1 Z) (zA Z Z br)<|yV Z (gd g1 Z) (zD Z Z Z dr Z Z)<|zb hr fun v3 h_v3 hr => yV Z (gd g1 Z) (zC Z Z Z (by kernel_rfl) (zp (IU h_v3) (.cons zv .nil)))<|yV Z (gd g1 Z) (ab.not Z Z)<|yS Z (a8 Z (aN g1 Z) Z)<|zM Z ?_;refine zc 17 Z (fun g2 => ?_)<|fun g2 => ?_
   ·
    refine zi g2 hr fun hr => yU Z (gd g2 Z) Z<|yU Z (gd g2 Z) Z<|yU Z (gd g2 Z) Z<|yU Z (gd g2 Z) Z<|yS Z (ca Z (aN g2 Z) Z)<|zM Z<|yU Z Z Z<|yU Z Z Z<|yU Z Z Z<|yU Z Z Z<|yS Z (ca Z Z Z)<|zN<|zT ?_;obtain rfl := zJ hr;exact zW 2 ⟨Z, Z, Z, Z, trivial⟩ Z Z Z Z
   ·
    refine zo g2 hr fun hr => yV Z (gd g2 Z) (zA Z Z br)<|yV Z (gd g2 Z) (zD Z Z Z dr Z Z)<|yV Z (gd g2 Z) (cC Z Z (by kernel_rfl))<|yV Z (gd g2 Z) (ax Z Z Z Z)<|yS Z (a8 Z (aN g2 Z) Z)<|zM Z ?_;refine zc 23 Z (fun g3 => ?_)<|fun g3 => ?_
    ·
     refine zi g3 hr fun hr => yU Z (gd g3 Z) Z<|yU Z (gd g3 Z) Z<|yU Z (gd g3 Z) Z<|yU Z (gd g3 Z) Z<|yS Z (ca Z (aN g3 Z) Z)<|zN<|zT ?_;obtain rfl := zJ hr;exact zW 2 ⟨Z, Z, Z, Z, trivial⟩ Z Z Z Z
    ·
     refine zo g3 hr fun hr => yV Z (gd g3 Z) (zA Z Z bG)<|yV Z (gd g3 Z) (zD Z Z Z dP Z Z)<|yV Z (gd g3 Z) (cC Z Z (by kernel_rfl))<|yV Z (gd g3 Z) (ax Z Z Z Z)<|yS Z (a8 Z (aN g3 Z) Z)<|zN<|zT ?_;obtain rfl := zJ hr;exact zW 2 ⟨Z, Z, Z, Z, trivial⟩ Z Z Z Z
 ·have hr := ho_v1;clear hb_v1;refine zX Z (fun g4 => ?_)<|fun g4 => ?_
  ·
   refine zi g4 hr fun hr => zQ<|zR<|zM Z<|zN<|zT<|zr<|af ?_;obtain rfl := zJ hr;exact zf (.one (.tmp Z)) zv
  ·
   refine zo g4 hr fun hr => zk<|zT<|zQ<|zR<|yS Z (zD Z Z Z b6 Z Z)<|yS Z (zD Z Z Z aK Z Z)<|zb hr fun v4 h_v4 hr => yS Z (zC Z Z Z (by kernel_rfl) (zp (IX h_v4) (.cons zv (.cons zv .nil))))<|yS Z (ze Z iS Z Z)<|yS Z (zs Z Z Z Z aK Z Z Z Z)<|zN<|zT<|zQ ?_;obtain ⟨v5, hb_v5, ho_v5⟩ := zB hr;clear hr;refine LW.cut (E := [(3, .ptr 1 0), (4, (bQ false)), (47, (bQ v5))]) (O := [.box (bN c), .box (du w), .box (du v4)]) ?_ ?_
   ·have hr := hb_v5;refine zR<|yS Z (zA Z Z br)<|yS Z (zD Z Z Z dr Z Z)<|yS Z (cC Z Z (by kernel_rfl))<|yS Z (zA Z Z br)<|yS Z (zD Z Z Z dr Z Z)<|yS Z (cC Z Z (by kernel_rfl))<|yS Z (ax Z Z Z Z)<|zM Z ?_;refine zc 39 Z (fun g5 => ?_)<|fun g5 => ?_
    ·
     refine zi g5 hr fun hr => yU Z (gd g5 Z) Z<|yU Z (gd g5 Z) Z<|yU Z (gd g5 Z) Z<|yU Z (gd g5 Z) Z<|yU Z (gd g5 Z) Z<|yU Z (gd g5 Z) Z<|yU Z (gd g5 Z) Z<|yS Z (ca Z (aN g5 Z) Z)<|zN<|zT ?_;obtain rfl := zJ hr;exact zW 3 ⟨Z, Z, Z, trivial⟩ Z Z Z Z
    ·
     refine zo g5 hr fun hr => yV Z (gd g5 Z) (zA Z Z bG)<|yV Z (gd g5 Z) (zD Z Z Z dP Z Z)<|yV Z (gd g5 Z) (cC Z Z (by kernel_rfl))<|yV Z (gd g5 Z) (zA Z Z bG)<|yV Z (gd g5 Z) (zD Z Z Z dP Z Z)<|yV Z (gd g5 Z) (cC Z Z (by kernel_rfl))<|yV Z (gd g5 Z) (ax Z Z Z Z)<|yS Z (a8 Z (aN g5 Z) Z)<|zN<|zT ?_;obtain rfl := zJ hr;exact zW 3 ⟨Z, Z, Z, trivial⟩ Z Z Z Z
   ·have hr := ho_v5;clear hb_v5;refine zX Z (fun g6 => ?_)<|fun g6 => ?_
    ·
     refine zi g6 hr fun hr => zQ<|zR<|zM Z<|zN<|zT<|zr<|af ?_;obtain rfl := zJ hr;exact zf (.one (.tmp Z)) zv
    ·
     refine zo g6 hr fun hr => zk<|zT<|zQ<|zR<|yS Z (zD Z Z Z aK Z Z)<|zb hr fun v6 h_v6 hr => yS Z (zC Z Z Z (by kernel_rfl) (LC.frameX (x' := .ptr 8 0) (H' := [.box (bN c), .box (du w), .box (du v4), .box (du w), .vec 5 (w.B.map ay), .vec 4 (w.V.map aD), (mQ v6.1), (mR v6.2), .box [(jB 4 w.B), (jV 5 w.V), .map 6, .map 7, (iQ 0), (bQ false)]]) (Dn h_v6) (.consC zv (.consC zv .nil)) Z Z (by simp only [List.map_cons, List.map_nil, List.cons_append, List.nil_append, aa.shift, LV.shifts, LV.shift, wm, wl] <;> rfl)))<|yS Z (ze Z HG Z Z)<|yS Z (zs Z Z Z Z By Z Z Z Z)<|zN<|zT<|zQ<|LW.ent (bJ.kill (i := 0) Z)<|LW.ent (bJ.kill (i := 2) Z)<|LW.ent (bJ.kill (i := 3) Z)<|LW.ent (bJ.kill (i := 4) Z)<|LW.ent (bJ.kill (i := 5) Z)<|zR<|yS Z (ab.makeFunc Z Z Z)<|zM Z<|zN<|zT<|zQ ?_;refine LW.draw2 (by kernel_rfl) (by kernel_rfl)<|yE Z (zD Z Z Z By Z Z)<|yE Z (zn Z Z)<|yE Z (zA Z Z nW)<|yE Z (zD Z Z Z wM Z Z)<|zg hr fun q1 hr => yE Z (ab.lenMapX Z Z Z (by kernel_rfl) q1)<|yE Z (zA Z Z bG)<|yE Z (zD Z Z Z dP Z Z)<|yE Z (cC Z Z (by kernel_rfl))<|yE Z (ax Z Z Z Z)<|zH Z ?_;refine LO.cases 60 Z (fun (g7 : ((v6.2.length : Int) == (w.V.length : Int)) = true) => ?_) (fun (g7 : ((v6.2.length : Int) == (w.V.length : Int)) = false) => ?_)
     ·
      refine zi g7 hr fun hr => LO.gd Z Z Z (gd g7 Z) Z (zA Z Z bG)<|LO.gd Z Z Z (gd g7 Z) Z (zD Z Z Z dP Z Z)<|LO.gd Z Z Z (gd g7 Z) Z (zm Z Z)<|zb hr fun v7 h_v7 hr => LO.gd Z Z Z (gd g7 Z) Z (zC Z Z Z (by kernel_rfl) (Gm h_v7))<|LO.gd Z Z Z (gd g7 Z) Z (ab.not Z Z)<|yE Z (ca Z (aN g7 Z) Z)<|zH Z<|LO.nil<|zT<|zr ?_;obtain rfl := zJ hr;exact zf (.one (.tmp Z)) zv
     ·
      refine zo g7 hr fun hr => LO.sk Z Z Z (gd g7 Z) Z Z<|LO.sk Z Z Z (gd g7 Z) Z Z<|LO.sk Z Z Z (gd g7 Z) Z Z<|LO.sk Z Z Z (gd g7 Z) Z Z<|LO.sk Z Z Z (gd g7 Z) Z Z<|yE Z (a8 Z (aN g7 Z) Z)<|zH Z<|LO.nil<|zT<|zr ?_;obtain rfl := zJ hr;exact zf (.one (.tmp Z)) zv
open Go.Proofs
structure eX where
 n : Int
 o6 : List Bk
 o7 : List Vt
 o8 : List (ID × Int)
 o9 : List (Vt × Bool)
 x_5 : Bool
 o14 : List Bk
 o15 : List Vt
 left_0 : Nat
 left_1 : Nat
def lb (slot : Int) (x1 : eX) : Option (eX ⊕ eX) :=
 bif x1.n != (IntKind.i64.wrap ((x1.o6.length : Int) + (x1.o7.length : Int))) then
  (yv x1.o14 x1.left_0 x1.o6 x1.o8 slot x1.x_5).bind fun v5 =>
  (yw x1.o15 x1.left_1 x1.o7 v5.2.2.2.1 x1.o9 slot v5.2.2.2.2).bind fun v6 =>
  some (.inl (eX.mk (IntKind.i64.wrap ((x1.o6.length : Int) + (x1.o7.length : Int))) v5.2.2.1 v6.2.2.1 v5.2.2.2.1 v6.2.2.2.1 v6.2.2.2.2 v5.2.1 v6.2.1 v5.1 v6.1))
 else
  some (.inr (eX.mk x1.n x1.o6 x1.o7 x1.o8 x1.o9 x1.x_5 x1.o14 x1.o15 x1.left_0 x1.left_1))
def Fq (c : Cf) (w : Vw) (v_in : Vw) (slot : Int) : Option (Vw × Vw × Bool) :=
 (wW w slot).bind fun v1 =>
 (Fp c w).bind fun v2 =>
 bif !v2 then
  bif b9 0 v_in.B.length 40 then
   bif b9 0 v_in.V.length 32 then
    some (w, v_in, false)
   else none
  else none
 else
  (zw c v_in).bind fun v3 =>
  (iter (lb slot) bH (eX.mk (-1) w.B w.V v1.1 v1.2 false v3.1 v3.2 ((v3.1.map ay).length) ((v3.2.map aD).length))).bind fun v4 =>
  bif Nat.ble v4.left_0 v4.o14.length then
   bif Nat.ble v4.left_1 v4.o15.length then
    some (Vw.mk v4.o6 v4.o7, Vw.mk (v4.o14.take v4.left_0) (v4.o15.take v4.left_1), v4.x_5)
   else none
  else none
theorem Jf {c : Cf} {w : Vw} {v_in : Vw} {slot : Int} {r_ : Vw × Vw × Bool} (hr : Fq c w v_in slot = some r_) : aw Tryz.prog 164 [kG c, kZ w, kZ v_in, .int .i64 slot] [kZ r_.1, kZ r_.2.1, .bool r_.2.2] := by
 refine zh Tryz.func164 Z Z Z Z ?_;unfold Fq at hr;refine zQ<|zR<|yS Z (bV Z Z Z Z Z)<|yS Z (bV Z Z Z Z Z)<|yS Z (bV Z Z Z Z Z)<|yS Z (ze Z iS Z Z)<|yS Z (ze Z iS Z Z)<|zM Z<|zN<|zT<|zQ<|zR<|yS Z (zD Z Z Z aK Z Z)<|zM Z<|zb hr fun v1 h_v1 hr => yS Z (zC Z Z Z (by kernel_rfl) (LC.frameX (x' := .ptr 10 0) (H' := [.box (bN c), .box (du w), .box (du v_in), .box [.zs, .zs], .box [.zs, .zs], .box (du w), .vec 5 (w.B.map ay), .vec 4 (w.V.map aD), (mQ v1.1), (mR v1.2), .box [(jB 6 w.B), (jV 7 w.V), .map 8, .map 9, (iQ slot), (bQ false)]]) (Dn h_v1) (.consC zv (.consC zv .nil)) Z Z (by simp only [List.map_cons, List.map_nil, List.cons_append, List.nil_append, aa.shift, LV.shifts, LV.shift, wm, wl] <;> rfl)))<|zM Z<|zN<|zT<|zQ<|zQ<|zR<|yS Z (zD Z Z Z b6 Z Z)<|yS Z (zD Z Z Z aK Z Z) ?_;refine zb hr fun v2 h_v2 hr => yS Z (zC Z Z Z (by kernel_rfl) (zp (Je h_v2) (.cons zv (.cons zv .nil))))<|yS Z (ab.not Z Z)<|zN<|zT ?_;refine zX Z (fun g1 => ?_)<|fun g1 => ?_
 ·
  refine zi g1 hr fun hr => zQ<|LW.ent (bJ.slot Z)<|LW.ent (bJ.slot Z)<|LW.drawW (by kernel_rfl) (by kernel_rfl)<|zK Z ?_;refine yF (F := []) (s := none) Z (fun H _ => zn Z Z) Z ?_;refine yF (F := []) (s := none) Z (fun H _ => zA Z Z eg) Z ?_;refine yF Z (zd Z Z Z aK Z Z) Z ?_;refine yF (F := []) (s := none) Z (fun H _ => zA Z Z br) Z ?_;refine yF Z (zd Z Z Z dr Z Z) Z<|zg hr fun q1 hr => ?_;refine yF Z (bE.callV (id := 11) (qs := [(kB v_in.B)]) Z Z Z (by kernel_rfl) (sT q1) (fun H => (.consC zv .nil)) Z) Z ?_;refine yF (F := []) (s := none) Z (fun H _ => zA Z Z bG) Z ?_;refine yF Z (zd Z Z Z dP Z Z) Z<|zg hr fun q2 hr => ?_;refine yF Z (bE.callV (id := 12) (qs := [(kV v_in.V)]) Z Z Z (by kernel_rfl) (sU q2) (fun H => (.consC zv .nil)) Z) Z ?_;refine yF (F := []) (s := none) Z (fun H _ => ab.build Z oP Z Z Z) Z ?_;refine yF Z (zt Z Z Z Z aK Z Z Z) Z<|yF Z (zt Z Z Z Z aK Z Z Z) Z<|zK Z ?_;refine LF.nil ⟨by kernel_rfl, ?_⟩;refine zT<|zr<|af ?_;obtain rfl := zJ hr;exact zf (.three (.cellAgg Z Z (by kernel_rfl) Z) (.cellAgg Z Z (by kernel_rfl) Z) (.tmp Z))<|⟨_, rfl, (.cons (Conv.agg (.cons (Conv.vecAll Z Z Z) (.cons (Conv.vecAll Z Z Z) .nil))) (.cons (Conv.agg (.cons (Conv.vecAll Z Z Z) (.cons (Conv.vecAll Z Z Z) .nil))) (.cons zv .nil)))⟩
 ·
  refine zo g1 hr fun hr => zk<|zT<|zQ<|zR<|zM Z<|yS Z (ab.makeFunc Z Z Z)<|zM Z<|yS Z (ab.makeFunc Z Z Z)<|zM Z<|zM Z<|zN<|zT<|zQ<|zR<|yS Z (zD Z Z Z b6 Z Z)<|yS Z (zD Z Z Z aK Z Z)<|zb hr fun v3 h_v3 hr => ?_;refine yS Z (zC Z Z Z (by kernel_rfl) (LC.frameX (x' := .agg [(jB 14 v3.1), (jV 15 v3.2)]) (H' := [.box (bN c), .box (du w), .box (du v_in), .box [.zs, .zs], .box [.zs, .zs], .box (du w), .vec 5 (w.B.map ay), .vec 4 (w.V.map aD), (mQ v1.1), (mR v1.2), .box [(jB 6 w.B), (jV 7 w.V), .map 8, .map 9, (iQ slot), (bQ false)], .box (bN c), .box (du v_in), .box [(jB 14 v3.1), (jV 15 v3.2)], .vec 5 (v3.1.map ay), .vec 4 (v3.2.map aD)]) (Gu h_v3) (.consC zv (.consC zv .nil)) Z Z (by simp only [List.map_cons, List.map_nil, List.cons_append, List.nil_append, aa.shift, LV.shifts, LV.shift] <;> rfl))) ?_;refine yS Z (ze Z iS Z Z)<|yS Z (zs Z Z Z Z aK Z Z Z Z)<|zN<|zT<|zQ<|zQ<|LW.ent (bJ.kill (i := 0) Z)<|LW.ent (bJ.kill (i := 1) Z)<|LW.ent (bJ.kill (i := 2) Z)<|LW.ent (bJ.kill (i := 5) Z)<|LW.ent (bJ.kill (i := 11) Z)<|LW.ent (bJ.kill (i := 12) Z)<|LW.ent (bJ.kill (i := 13) Z)<|zR<|zM Z<|zN<|zT ?_;obtain ⟨v4, hb_v4, ho_v4⟩ := zB hr;clear hr;refine LW.tail (E := [(8, .ptr 3 0), (9, .ptr 4 0), (10, (bQ false)), (11, .ptr 10 0), (14, .ptr 16 0)]) (O := [.dead, .dead, .dead, .box [.zs, .zs], .box [.zs, .zs], .dead, .vec 5 (v4.o6.map ay), .vec 4 (v4.o7.map aD), (mQ v4.o8), (mR v4.o9), .box [(jB 6 v4.o6), (jV 7 v4.o7), .map 8, .map 9, (iQ slot), (bQ v4.x_5)], .dead, .dead, .dead, .vec 5 (v4.o14.map ay), .vec 4 (v4.o15.map aD), .box [.vec 5 14 (v4.o14.map ay).length 0 v4.left_0, .vec 4 15 (v4.o15.map aD).length 0 v4.left_1]]) ?_<|fun env_v4 H_v4 hw_v4 => ?_
  ·refine LW.block ?_;refine LW.iterB (E := fun x1 : eX => [(8, .ptr 3 0), (9, .ptr 4 0), (10, (bQ false)), (11, .ptr 10 0), (12, .fn 179 [.ptr 10 0] []), (13, .fn 180 [.ptr 10 0] []), (14, .ptr 16 0), (15, (iQ x1.n))]) (O := fun x1 => [.dead, .dead, .dead, .box [.zs, .zs], .box [.zs, .zs], .dead, .vec 5 (x1.o6.map ay), .vec 4 (x1.o7.map aD), (mQ x1.o8), (mR x1.o9), .box [(jB 6 x1.o6), (jV 7 x1.o7), .map 8, .map 9, (iQ slot), (bQ x1.x_5)], .dead, .dead, .dead, .vec 5 (x1.o14.map ay), .vec 4 (x1.o15.map aD), .box [.vec 5 14 (x1.o14.map ay).length 0 x1.left_0, .vec 4 15 (x1.o15.map aD).length 0 x1.left_1]]) hb_v4 (zW 17 ⟨rfl, rfl, rfl, rfl, rfl, rfl, rfl, rfl, trivial⟩ Z Z Z (zL Z (zL Z (zL Z (zL Z (zL Z (zL Z (zL Z (zL Z (zL (ae (fun _ => rfl) _) (zL (ae (fun _ => rfl) _) (zL Z (zL Z (zL Z (zL Z (zL Z (zL Z (zL Z Z))))))))))))))))))<|fun x1 z_x1 hr hb_x1 => ?_;unfold lb at hr;refine zQ<|zQ<|LW.draw2 (by kernel_rfl) (by kernel_rfl)<|zH Z<|zH Z<|yE Z (zn Z Z)<|yE Z (zA Z Z eg)<|yE Z (zA Z Z br)<|yE Z (zD Z Z Z dr Z Z)<|yE Z (ab.lenVM Z Z Z (by kernel_rfl))<|zH Z<|yE Z (zn Z Z)<|yE Z (zA Z Z eg)<|yE Z (zA Z Z bG)<|yE Z (zD Z Z Z dP Z Z)<|yE Z (ab.lenVM Z Z Z (by kernel_rfl))<|yE Z (ax Z Z Z Z)<|yE Z (ax Z Z Z Z)<|LO.nil<|zT ?_;refine zX Z (fun g2 => ?_)<|fun g2 => ?_
   ·
    refine zi g2 hr fun hr => zk<|zT<|zl<|zQ<|LW.draw2 (by kernel_rfl) (by kernel_rfl)<|zH Z<|yE Z (zn Z Z)<|yE Z (zA Z Z eg)<|yE Z (zA Z Z br)<|yE Z (zD Z Z Z dr Z Z)<|yE Z (ab.lenVM Z Z Z (by kernel_rfl))<|zH Z<|yE Z (zn Z Z)<|yE Z (zA Z Z eg)<|yE Z (zA Z Z bG)<|yE Z (zD Z Z Z dP Z Z)<|yE Z (ab.lenVM Z Z Z (by kernel_rfl))<|yE Z (ax Z Z Z Z)<|zH Z<|LO.nil<|zT<|zQ<|zR ?_;refine yS Z (zA Z Z br)<|yS Z (zD Z Z Z dr Z Z)<|zM Z<|zb hr fun v5 h_v5 hr => yS Z (zC Z Z Z (by kernel_rfl) (Gn h_v5))<|yS Z (zA Z Z br)<|yS Z (zs Z Z Z Z dr Z Z Z Z)<|zN<|zT<|zR<|yS Z (zA Z Z bG)<|yS Z (zD Z Z Z dP Z Z)<|zM Z<|zb hr fun v6 h_v6 hr => yS Z (zC Z Z Z (by kernel_rfl) (Gp h_v6))<|yS Z (zA Z Z bG)<|yS Z (zs Z Z Z Z dP Z Z Z Z)<|zN<|ai<|zT ?_;obtain rfl := zJ hr;exact ⟨_, rfl, zW 17 ⟨rfl, rfl, rfl, rfl, rfl, rfl, rfl, rfl, trivial⟩ Z Z Z (zL Z (zL Z (zL Z (zL Z (zL Z (zL Z (zL Z (zL Z (zL (ae (fun _ => rfl) _) (zL (ae (fun _ => rfl) _) (zL Z (zL Z (zL Z (zL Z (zL Z (zL Z (zL Z Z)))))))))))))))))⟩
   ·
    refine zo g2 hr fun hr => zq<|ao<|ao<|zy<|zT ?_;obtain rfl := zJ hr;have hr := congrArg some (hb_x1 _ rfl);obtain rfl := zJ hr;exact zW 17 ⟨Z, Z, Z, Z, Z, trivial⟩ Z Z Z<|zL Z<|zL Z<|zL Z<|zL Z<|zL Z<|zL Z<|zL Z<|zL Z<|zL (ae (fun _ => rfl) _)<|zL (ae (fun _ => rfl) _)<|zL Z<|zL Z<|zL Z<|zL Z<|zL Z<|zL Z<|zL Z Z
  ·have hr := ho_v4;clear hb_v4;refine zT<|LW.weak hw_v4<|zQ<|LW.drawW (by kernel_rfl) (by kernel_rfl)<|zK Z ?_;refine yF (F := []) (s := none) Z (fun H _ => zn Z Z) Z ?_;refine yF (F := []) (s := none) Z (fun H _ => zA Z Z eg) Z ?_;refine yF Z (zd Z Z Z aK Z Z) Z<|zg hr fun q3 hr => zg hr fun q4 hr => yF Z (zd Z Z Z aK Z Z) Z<|zK Z ?_;refine yF (F := []) (s := none) Z (fun H _ => zn Z Z) Z ?_;refine yF (F := []) (s := none) Z (fun H _ => zA Z Z nX) Z ?_;refine yF Z (zd Z Z Z vC Z Z) Z<|yF Z (zt Z Z Z Z aK Z Z Z) Z<|yF Z (zt Z Z Z Z aK Z Z Z) Z<|zK Z ?_;refine LF.nil ⟨by kernel_rfl, ?_⟩;refine zT<|zr ?_;obtain rfl := zJ hr;exact zf (.three (.cellAgg Z Z (by kernel_rfl) Z) (.cellAgg Z Z (by kernel_rfl) Z) (.tmp Z))<|⟨_, rfl, (.cons (Conv.agg (.cons (Conv.vecAll Z Z Z) (.cons (Conv.vecAll Z Z Z) .nil))) (.cons (Conv.agg (.cons (Conv.vecTake Z q3) (.cons (Conv.vecTake Z q4) .nil))) (.cons zv .nil)))⟩
open Go.Proofs
structure dc where
 t21 : Int
 w_11 : Bool
 o5 : List Of
def iA (x : Nd) (c : Cf) (slot : Int) (v1 : (List Of)) (x1 : dc) : Option (dc ⊕ dc) :=
 bif decide (x1.t21 < (v1.length : Int)) then
  (ix v1 x1.t21).bind fun y1 =>
  (
   bif (x.Tick.tmod 3) == 2 then
    some ((x.Tick.tmod 3) == 2)
   else
    bif y1.Slot != slot then
     some (y1.Slot != slot)
    else
     (Cg c slot).bind fun v4 =>
     some (y1.From != v4)
  ).bind fun v3 =>
  bif v3 then
   some (.inl (dc.mk (IntKind.i64.wrap (x1.t21 + 1)) x1.w_11 x1.o5))
  else
   bif (x1.o5.length : Int) == 8 then
    some (.inl (dc.mk (IntKind.i64.wrap (x1.t21 + 1)) true x1.o5))
   else
    (oo y1).bind fun v5 =>
    bif b9 x1.o5.length [v5].length 104 then
     some (.inl (dc.mk (IntKind.i64.wrap (x1.t21 + 1)) x1.w_11 (x1.o5 ++ [v5])))
    else none
 else
  some (.inr (dc.mk x1.t21 x1.w_11 x1.o5))
def sH (l : List Of) (x : Nd) (c : Cf) (slot : Int) : Option (List Of × Bool) :=
 (ss [x.O, l]).bind fun v1 =>
 (iter (iA x c slot v1) bH (dc.mk 0 x.Full ([] : List Of))).bind fun v2 =>
 some (v2.o5, v2.w_11)
theorem EC {l : List Of} {x : Nd} {c : Cf} {slot : Int} {tl : List Of} {c0 : Cf} {n0 : Nd} {in0 : Vw} {r_ : List Of × Bool} (hr : sH l x c slot = some r_) : LC Tryz.prog 98 [.ptr 4 0, (kO l)] [.box (bN c0), .box (mg n0), .box (du in0), .box mB, .box [(iQ x.No), (iQ x.Tick), (kB x.V.B), (kV x.V.V), (kB x.In.B), (kV x.In.V), (kO x.O), (uQ x.C.ID.1), (uQ x.C.ID.2), (iQ x.C.Slot), (iQ x.C.Revoked), (bQ x.Full), (kI c.W), (uQ c.Seed), (iQ c.Epoch), (iQ c.Num), (iQ c.Den), (iQ slot), (kO tl)]] (Is (.tup []) [.box (bN c0), .box (mg n0), .box (du in0), .box mB, .box [(iQ x.No), (iQ x.Tick), (kB x.V.B), (kV x.V.V), (kB x.In.B), (kV x.In.V), (jO 5 r_.1), (uQ x.C.ID.1), (uQ x.C.ID.2), (iQ x.C.Slot), (iQ x.C.Revoked), (bQ r_.2), (kI c.W), (uQ c.Seed), (iQ c.Epoch), (iQ c.Num), (iQ c.Den), (iQ slot), (kO tl)], .vec 9 (r_.1.map di)]) := by
 refine dt Tryz.func98 Z Z Z ?_;unfold sH at hr;refine zQ<|zR<|zM Z<|yS Z (zn Z Z)<|yS Z (zA Z Z au)<|yS Z (zA Z Z bI)<|yS Z (zD Z Z Z bl Z Z)<|zM Z<|yS Z (mA Z vr Z Z Z Z Z)<|zb hr fun v1 h_v1 hr => yS Z (zC Z Z Z (by kernel_rfl) (zp (F5 h_v1) (.cons zv .nil)))<|zM Z<|zN<|zT<|zQ<|zR<|zM Z<|yS Z (zn Z Z)<|yS Z (zA Z Z au)<|yS Z (zA Z Z bI)<|yS Z (zs Z Z Z Z bl Z Z Z Z)<|zN<|zT<|zQ ?_;refine LW.ent (bJ.lazyCell (i := 4) (j := 6) (m := 9) Z Z Z Z Z Z)<|zR<|zM Z<|yS Z (cC Z Z (by kernel_rfl))<|zM Z<|zN<|zT ?_;obtain ⟨v2, hb_v2, ho_v2⟩ := zB hr;clear hr;refine LW.tail (E := []) (O := [.box (bN c0), .box (mg n0), .box (du in0), .box mB, .box [(iQ x.No), (iQ x.Tick), (kB x.V.B), (kV x.V.V), (kB x.In.B), (kV x.In.V), (jO 5 v2.o5), (uQ x.C.ID.1), (uQ x.C.ID.2), (iQ x.C.Slot), (iQ x.C.Revoked), (bQ v2.w_11), (kI c.W), (uQ c.Seed), (iQ c.Epoch), (iQ c.Num), (iQ c.Den), (iQ slot), (kO tl)], .vec 9 (v2.o5.map di)]) ?_<|fun env_v2 H_v2 hw_v2 => ?_
 ·refine LW.block ?_;refine LW.iterB (E := fun x1 : dc => [(0, .ptr 4 0), (19, (kO v1)), (20, .p (.int .i64 (v1.length : Int))), (21, (iQ x1.t21))]) (O := fun x1 => [.box (bN c0), .box (mg n0), .box (du in0), .box mB, .box [(iQ x.No), (iQ x.Tick), (kB x.V.B), (kV x.V.V), (kB x.In.B), (kV x.In.V), (jO 5 x1.o5), (uQ x.C.ID.1), (uQ x.C.ID.2), (iQ x.C.Slot), (iQ x.C.Revoked), (bQ x1.w_11), (kI c.W), (uQ c.Seed), (iQ c.Epoch), (iQ c.Num), (iQ c.Den), (iQ slot), (kO tl)], .vec 9 (x1.o5.map di)]) hb_v2 (zW 6 ⟨rfl, rfl, rfl, rfl, trivial⟩ Z Z Z Z)<|fun x1 z_x1 hr hb_x1 => ?_;unfold iA at hr;refine zQ<|zR<|yS Z (ax Z Z Z Z)<|zN<|zT<|zQ ?_;refine zX Z (fun g1 => ?_)<|fun g1 => ?_
  ·
   refine zi g1 hr fun hr => zk<|zT<|zQ<|zl<|zQ<|zR<|zb hr fun y1 h_y1 hr => yS Z (zx Z Z Z bv h_y1 Z)<|yS Z (cT Z Z Z dO Z Z)<|yS Z (ze Z np Z Z)<|yS Z (zs Z Z Z Z dO Z Z Z Z)<|zN<|zT<|zl ?_;obtain ⟨v3, hb_v3, ho_v3⟩ := zB hr;clear hr;refine LW.cut (E := [(0, .ptr 4 0), (6, .ptr 6 0), (19, (kO v1)), (20, .p (.int .i64 (v1.length : Int))), (21, (iQ x1.t21)), (38, (bQ v3))]) (O := [.box (bN c0), .box (mg n0), .box (du in0), .box mB, .box [(iQ x.No), (iQ x.Tick), (kB x.V.B), (kV x.V.V), (kB x.In.B), (kV x.In.V), (jO 5 x1.o5), (uQ x.C.ID.1), (uQ x.C.ID.2), (iQ x.C.Slot), (iQ x.C.Revoked), (bQ x1.w_11), (kI c.W), (uQ c.Seed), (iQ c.Epoch), (iQ c.Num), (iQ c.Den), (iQ slot), (kO tl)], .vec 9 (x1.o5.map di), .box [(iQ y1.Slot), (iQ y1.From), (iQ y1.B.Slot), (iQ y1.B.From), (uQ y1.B.Parent.1), (uQ y1.B.Parent.2), (uQ y1.B.Salt), (kB y1.V.B), (kV y1.V.V)]]) ?_ ?_
   ·have hr := hb_v3;refine zQ<|zR<|zM Z<|yS Z (zn Z Z)<|yS Z (zA Z Z au)<|yS Z (zA Z Z b8)<|yS Z (zD Z Z Z aX Z Z)<|yS Z (ab.rem Z Z Z (by decide))<|yS Z (ax Z Z Z Z)<|zM Z<|zN<|zT ?_;refine zX Z (fun g2 => ?_)<|fun g2 => ?_
    ·
     refine zi g2 hr fun hr => zk<|zT ?_;obtain rfl := zJ hr;exact zW 7 ⟨Z, Z, Z, Z, Z, Z, trivial⟩ Z Z Z Z
    ·
     refine zo g2 hr fun hr => zQ<|LW.draw2 (by kernel_rfl) (by kernel_rfl)<|yE Z (zA Z Z jS)<|yE Z (zD Z Z Z aX Z Z)<|zH Z<|yE Z (zn Z Z)<|yE Z (zA Z Z cz)<|yE Z (zD Z Z Z aX Z Z)<|yE Z (ax Z Z Z Z)<|zH Z<|LO.nil<|zT ?_;refine zX Z (fun g3 => ?_)<|fun g3 => ?_
     ·
      refine zi g3 hr fun hr => zk<|zT ?_;obtain rfl := zJ hr;exact zW 7 ⟨Z, Z, Z, Z, Z, Z, trivial⟩ Z Z Z Z
     ·
      refine zo g3 hr fun hr => LW.draw2 (by kernel_rfl) (by kernel_rfl)<|yE Z (zA Z Z jT)<|yE Z (zD Z Z Z aX Z Z)<|zH Z<|yE Z (zn Z Z)<|yE Z (zA Z Z gn)<|yE Z (zD Z Z Z b6 Z Z)<|zH Z<|yE Z (zn Z Z)<|yE Z (zA Z Z cz)<|yE Z (zD Z Z Z aX Z Z)<|zb hr fun v4 h_v4 hr => yE Z (zC Z Z Z (by kernel_rfl) (zp (HP h_v4) (.cons zv (.cons zv .nil))))<|yE Z (ax Z Z Z Z)<|zH Z<|LO.nil<|zT ?_;obtain rfl := zJ hr;exact zW 7 ⟨Z, Z, Z, Z, Z, Z, trivial⟩ Z Z Z Z
   ·have hr := ho_v3;clear hb_v3;refine zX Z (fun g4 => ?_)<|fun g4 => ?_
    ·
     refine zi g4 hr fun hr => zk<|ai<|ai<|zT<|zR<|yS Z (ax Z Z Z Z)<|zM Z<|zN<|zT ?_;obtain rfl := zJ hr;exact ⟨_, rfl, zW 6 ⟨rfl, rfl, rfl, rfl, trivial⟩ Z Z Z rfl⟩
    ·
     refine zo g4 hr fun hr => zQ<|zR<|zM Z<|yS Z (zn Z Z)<|yS Z (zA Z Z au)<|yS Z (zA Z Z bI)<|yS Z (zD Z Z Z bl Z Z)<|yS Z (ab.lenVM Z Z Z (by kernel_rfl))<|yS Z (ax Z Z Z Z)<|zM Z<|zN<|zT ?_;refine zX Z (fun g5 => ?_)<|fun g5 => ?_
     ·
      refine zi g5 hr fun hr => zR<|zM Z<|yS Z (zn Z Z)<|yS Z (zA Z Z au)<|yS Z (zA Z Z fx)<|yS Z (zs Z Z Z Z vC Z Z Z Z)<|zN<|ai<|ai<|zT<|zR<|yS Z (ax Z Z Z Z)<|zM Z<|zN<|zT ?_;obtain rfl := zJ hr;exact ⟨_, rfl, zW 6 ⟨rfl, rfl, rfl, rfl, trivial⟩ Z Z Z rfl⟩
     ·
      refine zo g5 hr fun hr => LW.drawW (by kernel_rfl) (by kernel_rfl)<|zK Z<|zK Z ?_;refine yF (F := []) (s := none) Z (fun H _ => zn Z Z) Z ?_;refine yF (F := []) (s := none) Z (fun H _ => zA Z Z au) Z ?_;refine yF (F := []) (s := none) Z (fun H _ => zA Z Z bI) Z ?_;refine yF Z (zd Z Z Z bl Z Z) Z<|yF Z (zd Z Z Z dO Z Z) Z<|zb hr fun v5 h_v5 hr => ?_;refine yF (F := []) (s := none) Z (fun H _ => zC Z Z Z (by kernel_rfl) (zp (Ao h_v5) (.cons zv .nil))) Z ?_;refine yF (F := []) (s := none) Z (fun H _ => mA Z bv Z Z Z Z Z) Z ?_;refine zg hr fun q1 hr => yF Z (bE.appendX di x1.o5 [v5] rfl Z Z Z Z bv q1) Z ?_;refine yF (F := []) (s := none) Z (fun H _ => zn Z Z) Z ?_;refine yF (F := []) (s := none) Z (fun H _ => zA Z Z au) Z ?_;refine yF (F := []) (s := none) Z (fun H _ => zA Z Z bI) Z ?_;refine yF Z (zt Z Z Z Z bl Z Z Z) Z ?_;refine LF.nil ⟨by kernel_rfl, ?_⟩;refine ai<|ai<|zT<|zR<|yS Z (ax Z Z Z Z)<|zM Z<|zN<|zT ?_;obtain rfl := zJ hr;exact ⟨_, rfl, zW 6 ⟨rfl, rfl, rfl, rfl, trivial⟩ Z Z Z rfl⟩
  ·
   refine zo g1 hr fun hr => zq<|ao<|ao<|zy<|zT ?_;obtain rfl := zJ hr;have hr := congrArg some (hb_x1 _ rfl);obtain rfl := zJ hr;exact zW 6 trivial Z Z Z Z
 ·have hr := ho_v2;clear hb_v2;obtain rfl := zJ hr;exact fq hw_v2 .none ⟨rfl, rfl⟩
def jM (inp : Vw) (c : Cf) (slot : Int) (v : Vw) (full : Bool) : Option (Vw × Vw × Bool) :=
 (Fq c v inp slot).bind fun v1 =>
 bif full then
  some (v1.2.1, v1.1, true)
 else
  some (v1.2.1, v1.1, v1.2.2)
theorem nU {inp : Vw} {c : Cf} {slot : Int} {v : Vw} {full : Bool} {x : Nd} {o : List Of} {tl : List Of} {c0 : Cf} {n0 : Nd} {in0 : Vw} {r_ : Vw × Vw × Bool} (hr : jM inp c slot v full = some r_) : LC Tryz.prog 137 [.ptr 4 0, .p (kZ inp)] [.box (bN c0), .box (mg n0), .box (du in0), .box mB, .box [(iQ x.No), (iQ x.Tick), (kB v.B), (kV v.V), (kB x.In.B), (kV x.In.V), (jO 5 o), (uQ x.C.ID.1), (uQ x.C.ID.2), (iQ x.C.Slot), (iQ x.C.Revoked), (bQ full), (kI c.W), (uQ c.Seed), (iQ c.Epoch), (iQ c.Num), (iQ c.Den), (iQ slot), (kO tl)], .vec 9 (o.map di)] (Is (.p (kZ r_.1)) [.box (bN c0), .box (mg n0), .box (du in0), .box mB, .box [(iQ x.No), (iQ x.Tick), (kB r_.2.1.B), (kV r_.2.1.V), (kB x.In.B), (kV x.In.V), (jO 5 o), (uQ x.C.ID.1), (uQ x.C.ID.2), (iQ x.C.Slot), (iQ x.C.Revoked), (bQ r_.2.2), (kI c.W), (uQ c.Seed), (iQ c.Epoch), (iQ c.Num), (iQ c.Den), (iQ slot), (kO tl)], .vec 9 (o.map di)]) := by
 refine dt Tryz.func137 Z Z Z ?_;unfold jM at hr;refine zQ<|zR<|yS Z (bV Z Z Z Z Z)<|yS Z (ze Z iS Z Z)<|zN<|zT<|zQ<|LW.ent (bJ.slot Z)<|LW.ent (bJ.slot Z)<|LW.drawW (by kernel_rfl) (by kernel_rfl)<|zK Z ?_;refine yF (F := []) (s := none) Z (fun H _ => zn Z Z) Z ?_;refine yF (F := []) (s := none) Z (fun H _ => zA Z Z gn) Z ?_;refine yF Z (zd Z Z Z b6 Z Z) Z<|zK Z ?_;refine yF (F := []) (s := none) Z (fun H _ => zn Z Z) Z ?_;refine yF (F := []) (s := none) Z (fun H _ => zA Z Z au) Z ?_;refine yF (F := []) (s := none) Z (fun H _ => zA Z Z bR) Z ?_;refine yF Z (zd Z Z Z aK Z Z) Z<|yF Z (zd Z Z Z aK Z Z) Z<|zK Z ?_;refine yF (F := []) (s := none) Z (fun H _ => zn Z Z) Z ?_;refine yF (F := []) (s := none) Z (fun H _ => zA Z Z cz) Z ?_;refine yF Z (zd Z Z Z aX Z Z) Z<|zb hr fun v1 h_v1 hr => ?_;refine yF (F := []) (s := none) Z (fun H _ => zC Z Z Z (by kernel_rfl) (zp (Jf h_v1) (.cons zv (.cons zv (.cons zv (.cons zv .nil)))))) Z ?_;refine zK Z ?_;refine yF (F := []) (s := none) Z (fun H _ => fE Z Z Z) Z ?_;refine yF (F := []) (s := none) Z (fun H _ => fE Z Z Z) Z ?_;refine yF (F := []) (s := none) Z (fun H _ => fE Z Z Z) Z ?_;refine yF Z (bE.alloc Z iS (id := 8) Z) Z<|yF Z (bE.alloc Z iS (id := 9) Z) Z<|yF Z (zt Z Z Z Z aK Z Z Z) Z<|yF Z (zt Z Z Z Z aK Z Z Z) Z<|zK Z ?_;refine LF.nil ⟨by kernel_rfl, ?_⟩;refine zT<|zQ<|LW.drawW (by kernel_rfl) (by kernel_rfl)<|zK Z<|zK Z<|yF Z (zd Z Z Z aK Z Z) Z<|zK Z ?_;refine yF (F := []) (s := none) Z (fun H _ => zn Z Z) Z ?_;refine yF (F := []) (s := none) Z (fun H _ => zA Z Z au) Z ?_;refine yF (F := []) (s := none) Z (fun H _ => zA Z Z fx) Z ?_;refine yF Z (zd Z Z Z vC Z Z) Z<|zK Z ?_;refine LF.cases 35 Z (fun (g1 : full = true) => ?_) (fun (g1 : full = false) => ?_)
 ·
  refine zi g1 hr fun hr => LF.sk Z Z Z (gd g1 Z) Z Z ?_;refine yF (F := []) (s := none) Z (fun H _ => ca Z (aN g1 Z) Z) Z ?_;refine yF (F := []) (s := none) Z (fun H _ => zn Z Z) Z ?_;refine yF (F := []) (s := none) Z (fun H _ => zA Z Z au) Z ?_;refine yF (F := []) (s := none) Z (fun H _ => zA Z Z bR) Z ?_;refine yF Z (zt Z Z Z Z aK Z Z Z) Z ?_;refine yF (F := []) (s := none) Z (fun H _ => zn Z Z) Z ?_;refine yF (F := []) (s := none) Z (fun H _ => zA Z Z au) Z ?_;refine yF (F := []) (s := none) Z (fun H _ => zA Z Z fx) Z ?_;refine yF Z (zt Z Z Z Z vC Z Z Z) Z ?_;refine LF.nil ⟨by kernel_rfl, ?_⟩;refine zT<|zQ<|zR<|yS Z (zD Z Z Z aK Z Z)<|yS Z (zs Z Z Z Z aK Z Z Z Z)<|zN<|zT<|zr ?_;obtain rfl := zJ hr;exact iC (env' := []) (H' := [.box (bN c0), .box (mg n0), .box (du in0), .box mB, .box [(iQ x.No), (iQ x.Tick), (kB v1.1.B), (kV v1.1.V), (kB x.In.B), (kV x.In.V), (jO 5 o), (uQ x.C.ID.1), (uQ x.C.ID.2), (iQ x.C.Slot), (iQ x.C.Revoked), (bQ true), (kI c.W), (uQ c.Seed), (iQ c.Epoch), (iQ c.Num), (iQ c.Den), (iQ slot), (kO tl)], .vec 9 (o.map di)]) (zW 6 trivial Z Z Z Z) (.one (.cellAgg Z Z (by kernel_rfl) Z)) Z<|⟨rfl, rfl⟩
 ·
  have hr := zO g1 hr;refine LF.gd (F := []) (s := none) Z Z Z (gd g1 Z) Z (fun H _ => ab.move Z Z) Z ?_;refine yF (F := []) (s := none) Z (fun H _ => a8 Z (aN g1 Z) Z) Z ?_;refine yF (F := []) (s := none) Z (fun H _ => zn Z Z) Z ?_;refine yF (F := []) (s := none) Z (fun H _ => zA Z Z au) Z ?_;refine yF (F := []) (s := none) Z (fun H _ => zA Z Z bR) Z ?_;refine yF Z (zt Z Z Z Z aK Z Z Z) Z ?_;refine yF (F := []) (s := none) Z (fun H _ => zn Z Z) Z ?_;refine yF (F := []) (s := none) Z (fun H _ => zA Z Z au) Z ?_;refine yF (F := []) (s := none) Z (fun H _ => zA Z Z fx) Z ?_;refine yF Z (zt Z Z Z Z vC Z Z Z) Z ?_;refine LF.nil ⟨by kernel_rfl, ?_⟩;refine zT<|zQ<|zR<|yS Z (zD Z Z Z aK Z Z)<|yS Z (zs Z Z Z Z aK Z Z Z Z)<|zN<|zT<|zr ?_;obtain rfl := zJ hr;exact iC (env' := []) (H' := [.box (bN c0), .box (mg n0), .box (du in0), .box mB, .box [(iQ x.No), (iQ x.Tick), (kB v1.1.B), (kV v1.1.V), (kB x.In.B), (kV x.In.V), (jO 5 o), (uQ x.C.ID.1), (uQ x.C.ID.2), (iQ x.C.Slot), (iQ x.C.Revoked), (bQ v1.2.2), (kI c.W), (uQ c.Seed), (iQ c.Epoch), (iQ c.Num), (iQ c.Den), (iQ slot), (kO tl)], .vec 9 (o.map di)]) (zW 6 trivial Z Z Z Z) (.one (.cellAgg Z Z (by kernel_rfl) Z)) Z<|⟨rfl, rfl⟩
def rh (c : Cf) (v : Vw) (s : Int) : Option ID :=
 (jH c v s).bind fun v1 =>
 some v1
theorem CF {c : Cf} {v : Vw} {s : Int} {x : Nd} {slot : Int} {o : List Of} {tl : List Of} {c0 : Cf} {n0 : Nd} {in0 : Vw} {r_ : ID} (hr : rh c v s = some r_) : LC Tryz.prog 138 [.ptr 4 0, (iQ s)] [.box (bN c0), .box (mg n0), .box (du in0), .box mB, .box [(iQ x.No), (iQ x.Tick), (kB v.B), (kV v.V), (kB x.In.B), (kV x.In.V), (jO 5 o), (uQ x.C.ID.1), (uQ x.C.ID.2), (iQ x.C.Slot), (iQ x.C.Revoked), (bQ x.Full), (kI c.W), (uQ c.Seed), (iQ c.Epoch), (iQ c.Num), (iQ c.Den), (iQ slot), (kO tl)], .vec 9 (o.map di)] (Is (.p (cw r_)) [.box (bN c0), .box (mg n0), .box (du in0), .box mB, .box [(iQ x.No), (iQ x.Tick), (kB v.B), (kV v.V), (kB x.In.B), (kV x.In.V), (jO 5 o), (uQ x.C.ID.1), (uQ x.C.ID.2), (iQ x.C.Slot), (iQ x.C.Revoked), (bQ x.Full), (kI c.W), (uQ c.Seed), (iQ c.Epoch), (iQ c.Num), (iQ c.Den), (iQ slot), (kO tl)], .vec 9 (o.map di)]) := by
 refine dt Tryz.func138 Z Z Z ?_;unfold rh at hr;refine zQ<|zR<|yS Z (ze Z ke Z Z)<|zN<|zT<|zQ<|LW.drawLast (m := 11) (by kernel_rfl) (by kernel_rfl) (by kernel_rfl)<|zH Z<|yE Z (zn Z Z)<|yE Z (zA Z Z gn)<|yE Z (zD Z Z Z b6 Z Z)<|zH Z<|yE Z (zn Z Z)<|yE Z (zA Z Z au)<|yE Z (zA Z Z bR)<|yE Z (zD Z Z Z aK Z Z)<|zH Z<|zb hr fun v1 h_v1 hr => yE Z (zC Z Z Z (by kernel_rfl) (zp (Da h_v1) (.cons zv (.cons zv (.cons zv .nil)))))<|LO.nil<|yS Z (zs Z Z Z Z aV Z Z Z Z)<|zN<|zT<|zr ?_;obtain rfl := zJ hr;exact iC (env' := []) (H' := [.box (bN c0), .box (mg n0), .box (du in0), .box mB, .box [(iQ x.No), (iQ x.Tick), (kB v.B), (kV v.V), (kB x.In.B), (kV x.In.V), (jO 5 o), (uQ x.C.ID.1), (uQ x.C.ID.2), (iQ x.C.Slot), (iQ x.C.Revoked), (bQ x.Full), (kI c.W), (uQ c.Seed), (iQ c.Epoch), (iQ c.Num), (iQ c.Den), (iQ slot), (kO tl)], .vec 9 (o.map di)]) (zW 6 trivial Z Z Z Z) (.one (.cellAgg Z Z (by kernel_rfl) Z)) Z<|⟨rfl, rfl⟩
theorem BE {c : Cf} {v : Vw} {s : Int} {r_ : ID} (h : jH c v s = some r_) : rh c v s = some r_ := by unfold rh; rw [h]; rfl
def nS (c : Cf) (v : Vw) (s : Int) : Option ID :=
 (jH c v s).bind fun v1 =>
 some v1
theorem sV {c : Cf} {v : Vw} {s : Int} {x : Nd} {slot : Int} {o : List Of} {tl : List Of} {c0 : Cf} {n0 : Nd} {in0 : Vw} {r_ : ID} (hr : nS c v s = some r_) : LC Tryz.prog 138 [.ptr 4 0, (iQ s)] [.box (bN c0), .box (mg n0), .box (du in0), .box mB, .box [(iQ x.No), (iQ x.Tick), (kB v.B), (kV v.V), (kB x.In.B), (kV x.In.V), (kO x.O), (uQ x.C.ID.1), (uQ x.C.ID.2), (iQ x.C.Slot), (iQ x.C.Revoked), (bQ x.Full), (kI c.W), (uQ c.Seed), (iQ c.Epoch), (iQ c.Num), (iQ c.Den), (iQ slot), (kO tl)], .vec 9 (o.map di)] (Is (.p (cw r_)) [.box (bN c0), .box (mg n0), .box (du in0), .box mB, .box [(iQ x.No), (iQ x.Tick), (kB v.B), (kV v.V), (kB x.In.B), (kV x.In.V), (kO x.O), (uQ x.C.ID.1), (uQ x.C.ID.2), (iQ x.C.Slot), (iQ x.C.Revoked), (bQ x.Full), (kI c.W), (uQ c.Seed), (iQ c.Epoch), (iQ c.Num), (iQ c.Den), (iQ slot), (kO tl)], .vec 9 (o.map di)]) := by
 refine dt Tryz.func138 Z Z Z ?_;unfold nS at hr;refine zQ<|zR<|yS Z (ze Z ke Z Z)<|zN<|zT<|zQ<|LW.drawLast (m := 11) (by kernel_rfl) (by kernel_rfl) (by kernel_rfl)<|zH Z<|yE Z (zn Z Z)<|yE Z (zA Z Z gn)<|yE Z (zD Z Z Z b6 Z Z)<|zH Z<|yE Z (zn Z Z)<|yE Z (zA Z Z au)<|yE Z (zA Z Z bR)<|yE Z (zD Z Z Z aK Z Z)<|zH Z<|zb hr fun v1 h_v1 hr => yE Z (zC Z Z Z (by kernel_rfl) (zp (Da h_v1) (.cons zv (.cons zv (.cons zv .nil)))))<|LO.nil<|yS Z (zs Z Z Z Z aV Z Z Z Z)<|zN<|zT<|zr ?_;obtain rfl := zJ hr;exact iC (env' := []) (H' := [.box (bN c0), .box (mg n0), .box (du in0), .box mB, .box [(iQ x.No), (iQ x.Tick), (kB v.B), (kV v.V), (kB x.In.B), (kV x.In.V), (kO x.O), (uQ x.C.ID.1), (uQ x.C.ID.2), (iQ x.C.Slot), (iQ x.C.Revoked), (bQ x.Full), (kI c.W), (uQ c.Seed), (iQ c.Epoch), (iQ c.Num), (iQ c.Den), (iQ slot), (kO tl)], .vec 9 (o.map di)]) (zW 6 trivial Z Z Z Z) (.one (.cellAgg Z Z (by kernel_rfl) Z)) Z<|⟨rfl, rfl⟩
theorem rc {c : Cf} {v : Vw} {s : Int} {r_ : ID} (h : jH c v s = some r_) : nS c v s = some r_ := by unfold nS; rw [h]; rfl
def mH (x : Nd) (c : Cf) (slot : Int) (tl : List Of) : Option (Vw × Vw × Bool × List Of) :=
 (Cg c slot).bind fun v1 =>
 bif x.No != v1 then
  some (x.V, x.In, x.Full, tl)
 else
  (jM x.In c slot x.V x.Full).bind fun v2 =>
  (jH c v2.2.1 (IntKind.i64.wrap (slot - 1))).bind fun v3 =>
  (oo (Of.mk slot x.No (Bk.mk slot x.No v3 0) v2.2.1)).bind fun v4 =>
  (qj (Bk.mk slot x.No v3 0)).bind fun v5 =>
  (jM v5 c slot v2.2.1 v2.2.2).bind fun v6 =>
  some (v6.2.1, v2.1, v6.2.2, [v4])
theorem Cy {x : Nd} {o : List Of} {c : Cf} {slot : Int} {tl : List Of} {c0 : Cf} {n0 : Nd} {in0 : Vw} {r_ : Vw × Vw × Bool × List Of} (hr : mH x c slot tl = some r_) : LC Tryz.prog 99 [.ptr 4 0] [.box (bN c0), .box (mg n0), .box (du in0), .box mB, .box [(iQ x.No), (iQ x.Tick), (kB x.V.B), (kV x.V.V), (kB x.In.B), (kV x.In.V), (jO 5 o), (uQ x.C.ID.1), (uQ x.C.ID.2), (iQ x.C.Slot), (iQ x.C.Revoked), (bQ x.Full), (kI c.W), (uQ c.Seed), (iQ c.Epoch), (iQ c.Num), (iQ c.Den), (iQ slot), (kO tl)], .vec 9 (o.map di)] (Is (.tup []) [.box (bN c0), .box (mg n0), .box (du in0), .box mB, .box [(iQ x.No), (iQ x.Tick), (kB r_.1.B), (kV r_.1.V), (kB r_.2.1.B), (kV r_.2.1.V), (jO 5 o), (uQ x.C.ID.1), (uQ x.C.ID.2), (iQ x.C.Slot), (iQ x.C.Revoked), (bQ r_.2.2.1), (kI c.W), (uQ c.Seed), (iQ c.Epoch), (iQ c.Num), (iQ c.Den), (iQ slot), (kO r_.2.2.2)], .vec 9 (o.map di)]) := by
 refine dt Tryz.func99 Z Z Z ?_;unfold mH at hr;refine zQ<|zQ<|LW.draw2 (by kernel_rfl) (by kernel_rfl)<|zH Z<|yE Z (zn Z Z)<|yE Z (zA Z Z au)<|yE Z (zA Z Z eN)<|yE Z (zD Z Z Z aX Z Z)<|zH Z<|yE Z (zn Z Z)<|yE Z (zA Z Z gn)<|yE Z (zD Z Z Z b6 Z Z)<|zH Z<|yE Z (zn Z Z)<|yE Z (zA Z Z cz)<|yE Z (zD Z Z Z aX Z Z)<|zb hr fun v1 h_v1 hr => yE Z (zC Z Z Z (by kernel_rfl) (zp (HP h_v1) (.cons zv (.cons zv .nil))))<|yE Z (ax Z Z Z Z)<|LO.nil<|zT ?_;refine zX Z (fun g1 => ?_)<|fun g1 => ?_
 ·
  refine zi g1 hr fun hr => LW.ret<|af ?_;obtain rfl := zJ hr;exact ap .none<|⟨rfl, rfl⟩
 ·
  refine zo g1 hr fun hr => zk<|zT<|zQ<|zR<|zM Z<|zM Z<|zM Z<|yS Z (zn Z Z)<|yS Z (zA Z Z au)<|yS Z (zA Z Z bF)<|yS Z (zD Z Z Z aK Z Z)<|zb hr fun v2 h_v2 hr => yS Z (zC Z Z Z (by kernel_rfl) (nU (x := Nd.mk x.No x.Tick x.V x.In [] x.C x.Full) (o := o) (tl := tl) h_v2))<|yS Z (zn Z Z)<|yS Z (zA Z Z au)<|yS Z (zA Z Z bF)<|yS Z (zs Z Z Z Z aK Z Z Z Z)<|zN<|zT<|zQ<|LW.ent (bJ.slot Z)<|LW.drawW (by kernel_rfl) (by kernel_rfl)<|zK Z ?_;refine yF (F := []) (s := none) Z (fun H _ => zn Z Z) Z ?_;refine yF (F := []) (s := none) Z (fun H _ => zA Z Z cz) Z ?_;refine yF Z (zd Z Z Z aX Z Z) Z<|zK Z ?_;refine yF (F := []) (s := none) Z (fun H _ => zn Z Z) Z ?_;refine yF (F := []) (s := none) Z (fun H _ => zA Z Z au) Z ?_;refine yF (F := []) (s := none) Z (fun H _ => zA Z Z eN) Z ?_;refine yF Z (zd Z Z Z aX Z Z) Z<|zK Z<|zK Z ?_;refine yF (F := []) (s := none) Z (fun H _ => zn Z Z) Z ?_;refine yF (F := []) (s := none) Z (fun H _ => zA Z Z cz) Z ?_;refine yF Z (zd Z Z Z aX Z Z) Z ?_;refine yF (F := []) (s := none) Z (fun H _ => ax Z Z Z Z) Z ?_;obtain ⟨v3, h_v3, hr⟩ := zB hr;refine yF Z (bE.preH (s := none) (fun _ => zC Z Z Z (by kernel_rfl) (LC.pre (CF (x := Nd.mk x.No x.Tick v2.2.1 v2.1 [] x.C v2.2.2) (o := o) (tl := tl) (BE h_v3)) Z Z Z)) Z Z Z Z) Z ?_;refine yF (F := []) (s := none) Z (fun H _ => ab.build Z Fz Z Z Z) Z ?_;refine yF Z (bE.alloc Z un (id := 6) Z) Z<|yF Z (zt Z Z Z Z cj Z Z Z) Z ?_;refine LF.nil ⟨by kernel_rfl, ?_⟩;refine zT<|zQ<|LW.drawW (by kernel_rfl) (by kernel_rfl)<|zK Z<|zK Z ?_;refine yF (F := []) (s := none) Z (fun H _ => zn Z Z) Z ?_;refine yF (F := []) (s := none) Z (fun H _ => zA Z Z cz) Z ?_;refine yF Z (zd Z Z Z aX Z Z) Z<|zK Z ?_;refine yF (F := []) (s := none) Z (fun H _ => zn Z Z) Z ?_;refine yF (F := []) (s := none) Z (fun H _ => zA Z Z au) Z ?_;refine yF (F := []) (s := none) Z (fun H _ => zA Z Z eN) Z ?_;refine yF Z (zd Z Z Z aX Z Z) Z<|yF Z (zd Z Z Z cj Z Z) Z<|zK Z ?_;refine yF (F := []) (s := none) Z (fun H _ => zn Z Z) Z ?_;refine yF (F := []) (s := none) Z (fun H _ => zA Z Z au) Z ?_;refine yF (F := []) (s := none) Z (fun H _ => zA Z Z bR) Z ?_;refine yF Z (zd Z Z Z aK Z Z) Z ?_;refine yF (F := []) (s := none) Z (fun H _ => ab.build Z Al Z Z Z) Z ?_;obtain ⟨v4, h_v4, hr⟩ := zB hr;refine yF (F := []) (s := none) Z (fun H _ => zC Z Z Z (by kernel_rfl) (zp (Ao h_v4) (.cons zv .nil))) Z ?_;refine yF (F := []) (s := none) Z (fun H _ => mA Z bv Z Z Z Z Z) Z ?_;refine yF (F := []) (s := none) Z (fun H _ => zn Z Z) Z ?_;refine yF (F := []) (s := none) Z (fun H _ => zA Z Z l5) Z ?_;refine yF Z (zt Z Z Z Z bl Z Z Z) Z ?_;refine LF.nil ⟨by kernel_rfl, ?_⟩;refine zT<|zR<|zM Z<|yS Z (zD Z Z Z cj Z Z)<|zb hr fun v5 h_v5 hr => yS Z (zC Z Z Z (by kernel_rfl) (zp (Df h_v5) (.cons zv .nil)))<|zb hr fun v6 h_v6 hr => yS Z (zC Z Z Z (by kernel_rfl) (LC.pre (nU (x := Nd.mk x.No x.Tick v2.2.1 v2.1 [] x.C v2.2.2) (o := o) (tl := [v4]) h_v6) Z Z Z))<|zN ?_;obtain rfl := zJ hr;exact fq (env' := []) (H' := [.box (bN c0), .box (mg n0), .box (du in0), .box mB, .box [(iQ x.No), (iQ x.Tick), (kB v6.2.1.B), (kV v6.2.1.V), (kB v2.1.B), (kV v2.1.V), (jO 5 o), (uQ x.C.ID.1), (uQ x.C.ID.2), (iQ x.C.Slot), (iQ x.C.Revoked), (bQ v6.2.2), (kI c.W), (uQ c.Seed), (iQ c.Epoch), (iQ c.Num), (iQ c.Den), (iQ slot), .p (.slice 9 ([v4].map di))], .vec 9 (o.map di)]) (zW 6 trivial Z Z Z Z) .none<|⟨rfl, rfl⟩
structure cD where
 t11 : Int
 w_2 : List Bk
 w_3 : List Vt
 w_4 : List Bk
 w_5 : List Vt
 w_11 : Bool
def eZ (o : List Of) (c : Cf) (slot : Int) (x1 : cD) : Option (cD ⊕ cD) :=
 bif decide (x1.t11 < (o.length : Int)) then
  (ix o x1.t11).bind fun y1 =>
  (qj y1.B).bind fun v2 =>
  (zF y1.V v2).bind fun v3 =>
  (jM v3 c slot (Vw.mk x1.w_2 x1.w_3) x1.w_11).bind fun v4 =>
  (zF (Vw.mk x1.w_4 x1.w_5) v4.1).bind fun v5 =>
  some (.inl (cD.mk (IntKind.i64.wrap (x1.t11 + 1)) v4.2.1.B v4.2.1.V v5.B v5.V v4.2.2))
 else
  some (.inr (cD.mk x1.t11 x1.w_2 x1.w_3 x1.w_4 x1.w_5 x1.w_11))
def kC (x : Nd) (o : List Of) (c : Cf) (slot : Int) : Option (Vw × Vw × Bool) :=
 (iter (eZ o c slot) bH (cD.mk 0 x.V.B x.V.V x.In.B x.In.V x.Full)).bind fun v1 =>
 (E6 c slot x.No).bind fun v6 =>
 bif v6 then
  (jH c (Vw.mk v1.w_2 v1.w_3) (IntKind.i64.wrap (slot - 1))).bind fun v7 =>
  (zF (Vw.mk v1.w_4 v1.w_5) (Vw.mk [] [Vt.mk x.No slot v7])).bind fun v8 =>
  some (Vw.mk v1.w_2 v1.w_3, v8, v1.w_11)
 else
  some (Vw.mk v1.w_2 v1.w_3, Vw.mk v1.w_4 v1.w_5, v1.w_11)
theorem At {x : Nd} {o : List Of} {c : Cf} {slot : Int} {tl : List Of} {c0 : Cf} {n0 : Nd} {in0 : Vw} {r_ : Vw × Vw × Bool} (hr : kC x o c slot = some r_) : LC Tryz.prog 100 [.ptr 4 0] [.box (bN c0), .box (mg n0), .box (du in0), .box mB, .box [(iQ x.No), (iQ x.Tick), (kB x.V.B), (kV x.V.V), (kB x.In.B), (kV x.In.V), (jO 5 o), (uQ x.C.ID.1), (uQ x.C.ID.2), (iQ x.C.Slot), (iQ x.C.Revoked), (bQ x.Full), (kI c.W), (uQ c.Seed), (iQ c.Epoch), (iQ c.Num), (iQ c.Den), (iQ slot), (kO tl)], .vec 9 (o.map di)] (Is (.tup []) [.box (bN c0), .box (mg n0), .box (du in0), .box mB, .box [(iQ x.No), (iQ x.Tick), (kB r_.1.B), (kV r_.1.V), (kB r_.2.1.B), (kV r_.2.1.V), (kO ([] : List Of)), (uQ x.C.ID.1), (uQ x.C.ID.2), (iQ x.C.Slot), (iQ x.C.Revoked), (bQ r_.2.2), (kI c.W), (uQ c.Seed), (iQ c.Epoch), (iQ c.Num), (iQ c.Den), (iQ slot), (kO tl)], .vec 9 (o.map di)]) := by
 refine dt Tryz.func100 Z Z Z ?_;unfold kC at hr;refine zQ<|zQ<|zR<|zM Z<|yS Z (zn Z Z)<|yS Z (zA Z Z au)<|yS Z (zA Z Z bI)<|yS Z (zD Z Z Z bl Z Z)<|yS Z (ab.lenVM Z Z Z (by kernel_rfl))<|zM Z<|zN<|zT ?_;obtain ⟨v1, hb_v1, ho_v1⟩ := zB hr;clear hr;refine LW.tail (E := [(0, .ptr 4 0)]) (O := [.box (bN c0), .box (mg n0), .box (du in0), .box mB, .box [(iQ x.No), (iQ x.Tick), (kB v1.w_2), (kV v1.w_3), (kB v1.w_4), (kV v1.w_5), (jO 5 o), (uQ x.C.ID.1), (uQ x.C.ID.2), (iQ x.C.Slot), (iQ x.C.Revoked), (bQ v1.w_11), (kI c.W), (uQ c.Seed), (iQ c.Epoch), (iQ c.Num), (iQ c.Den), (iQ slot), (kO tl)], .vec 9 (o.map di)]) ?_<|fun env_v1 H_v1 hw_v1 => ?_
 ·refine LW.block ?_;refine LW.iterB (E := fun x1 : cD => [(0, .ptr 4 0), (9, (jO 5 o)), (10, .p (.int .i64 (o.length : Int))), (11, (iQ x1.t11))]) (O := fun x1 => [.box (bN c0), .box (mg n0), .box (du in0), .box mB, .box [(iQ x.No), (iQ x.Tick), (kB x1.w_2), (kV x1.w_3), (kB x1.w_4), (kV x1.w_5), (jO 5 o), (uQ x.C.ID.1), (uQ x.C.ID.2), (iQ x.C.Slot), (iQ x.C.Revoked), (bQ x1.w_11), (kI c.W), (uQ c.Seed), (iQ c.Epoch), (iQ c.Num), (iQ c.Den), (iQ slot), (kO tl)], .vec 9 (o.map di)]) hb_v1 (zW 6 ⟨rfl, rfl, rfl, rfl, trivial⟩ Z Z Z Z)<|fun x1 z_x1 hr hb_x1 => ?_;unfold eZ at hr;refine zQ<|zR<|yS Z (ax Z Z Z Z)<|zN<|zT<|zQ ?_;refine zX Z (fun g1 => ?_)<|fun g1 => ?_
  ·
   refine zi g1 hr fun hr => zk<|zT<|zQ<|zl<|zQ<|zR<|zb hr fun y1 h_y1 hr => yS Z (ab.indexAddrVX Z Z Z Z bv h_y1)<|yS Z (ab.loadVX Z Z Z dO h_y1 Z Z Z Z)<|yS Z (ze Z np Z Z)<|yS Z (zs Z Z Z Z dO Z Z Z Z)<|zN<|zT ?_;refine LW.drawWJ (z := 4) (e := 18) (J := (fun o_ => ∃ a_ b_ c_ : LV, o_ = .box [(iQ x.No), (iQ x.Tick), a_, b_, (kB x1.w_4), (kV x1.w_5), (jO 5 o), (uQ x.C.ID.1), (uQ x.C.ID.2), (iQ x.C.Slot), (iQ x.C.Revoked), c_, (kI c.W), (uQ c.Seed), (iQ c.Epoch), (iQ c.Num), (iQ c.Den), (iQ slot), (kO tl)])) (by kernel_rfl) (by kernel_rfl) (fun o_ h_ => ⟨_, _, _, (zJ h_).symm⟩) ?_;refine gU.mv Z<|gU.mv Z ?_;refine gU.st (F := []) (s := none) Z Z Z (fun H _ => ab.nilCheck Z Z) (fun _ => trivial) Z ?_;refine gU.st (F := []) (s := none) Z Z Z (fun H _ => zA Z Z au) (fun _ => trivial) Z ?_;refine gU.st (F := []) (s := none) Z Z Z (fun H _ => zA Z Z bF) (fun _ => trivial) Z ?_;refine gU.look Z Z Z (by kernel_rfl) Z (fun H_ y_ hy_ hj_ => by obtain ⟨a_, b_, c_, rfl⟩ := hj_; exact zD Z Z hy_ aK Z Z) ?_;refine gU.mv Z ?_;refine gU.st (F := []) (s := none) Z Z Z (fun H _ => zA Z Z eO) (fun _ => trivial) Z ?_;refine gU.st Z Z Z (bE.load Z Z Z aK Z Z) (fun _ => trivial) Z ?_;refine gU.st (F := []) (s := none) Z Z Z (fun H _ => zA Z Z jU) (fun _ => trivial) Z ?_;refine gU.st Z Z Z (bE.load Z Z Z cj Z Z) (fun _ => trivial) Z ?_;obtain ⟨v2, h_v2, hr⟩ := zB hr;refine gU.st (F := []) (s := none) Z Z Z (fun H _ => zC Z Z Z (by kernel_rfl) (zp (Df h_v2) (.cons zv .nil))) (fun _ => trivial) Z ?_;obtain ⟨v3, h_v3, hr⟩ := zB hr;refine gU.st (F := []) (s := none) Z Z Z (fun H _ => zC Z Z Z (by kernel_rfl) (zp (Eo h_v3) (.cons zv (.cons zv .nil)))) (fun _ => trivial) Z ?_;obtain ⟨v4, h_v4, hr⟩ := zB hr;refine gU.st Z Z Z (bE.preH (s := some (4, .box [(iQ x.No), (iQ x.Tick), (kB v4.2.1.B), (kV v4.2.1.V), (kB x1.w_4), (kV x1.w_5), (jO 5 o), (uQ x.C.ID.1), (uQ x.C.ID.2), (iQ x.C.Slot), (iQ x.C.Revoked), (bQ v4.2.2), (kI c.W), (uQ c.Seed), (iQ c.Epoch), (iQ c.Num), (iQ c.Den), (iQ slot), (kO tl)])) (fun _ => zC Z Z Z (by kernel_rfl) (LC.pre (nU (x := Nd.mk x.No x.Tick (Vw.mk x1.w_2 x1.w_3) (Vw.mk x1.w_4 x1.w_5) [] x.C x1.w_11) (o := o) (tl := tl) h_v4) Z Z Z)) Z Z Z Z) (fun _ _ => ⟨_, _, _, rfl⟩) Z ?_;obtain ⟨v5, h_v5, hr⟩ := zB hr;refine gU.st (F := []) (s := none) Z Z Z (fun H _ => zC Z Z Z (by kernel_rfl) (zp (Eo h_v5) (.cons zv (.cons zv .nil)))) (fun _ => trivial) Z ?_;refine gU.st (F := []) (s := none) Z Z Z (fun H _ => ab.nilCheck Z Z) (fun _ => trivial) Z ?_;refine gU.st (F := []) (s := none) Z Z Z (fun H _ => zA Z Z au) (fun _ => trivial) Z ?_;refine gU.st (F := []) (s := none) Z Z Z (fun H _ => zA Z Z bF) (fun _ => trivial) Z ?_;refine gU.st Z Z Z (bE.store Z Z Z Z aK Z Z Z) (fun h => absurd h (by decide)) Z ?_;refine gU.nil ⟨by kernel_rfl, ?_⟩;refine ai<|zT<|zR<|yS Z (ax Z Z Z Z)<|zM Z<|zN<|zT ?_;obtain rfl := zJ hr;exact ⟨_, rfl, zW 6 ⟨rfl, rfl, rfl, rfl, trivial⟩ Z Z Z rfl⟩
  ·
   refine zo g1 hr fun hr => zq<|ao<|ao<|zy<|zT ?_;obtain rfl := zJ hr;have hr := congrArg some (hb_x1 _ rfl);obtain rfl := zJ hr;exact zW 6 ⟨Z, trivial⟩ Z Z Z Z
 ·have hr := ho_v1;clear hb_v1;refine zT<|LW.weak hw_v1<|zQ<|zR<|zM Z<|yS Z (zn Z Z)<|yS Z (zA Z Z au)<|yS Z (zA Z Z bI)<|yS Z (zs Z Z Z Z bl Z Z Z Z)<|zN<|zT<|zQ<|LW.ent (bJ.zsCell (i := 4) (j := 6) (m := 9) Z Z Z Z)<|LW.draw2 (by kernel_rfl) (by kernel_rfl)<|zH Z<|yE Z (zn Z Z)<|yE Z (zA Z Z gn)<|yE Z (zD Z Z Z b6 Z Z)<|zH Z<|yE Z (zn Z Z)<|yE Z (zA Z Z cz)<|yE Z (zD Z Z Z aX Z Z)<|zH Z<|yE Z (zn Z Z) ?_;refine yE Z (zA Z Z au)<|yE Z (zA Z Z eN)<|yE Z (zD Z Z Z aX Z Z)<|zb hr fun v6 h_v6 hr => yE Z (zC Z Z Z (by kernel_rfl) (zp (IW h_v6) (.cons zv (.cons zv (.cons zv .nil)))))<|LO.nil<|zT ?_;refine zX Z (fun g2 => ?_)<|fun g2 => ?_
  ·
   refine zi g2 hr fun hr => zQ<|LW.ent (bJ.slot Z)<|LW.drawW (by kernel_rfl) (by kernel_rfl)<|zK Z ?_;refine yF (F := []) (s := none) Z (fun H _ => zn Z Z) Z ?_;refine yF (F := []) (s := none) Z (fun H _ => zA Z Z au) Z ?_;refine yF (F := []) (s := none) Z (fun H _ => zA Z Z eN) Z ?_;refine yF Z (zd Z Z Z aX Z Z) Z<|zK Z ?_;refine yF (F := []) (s := none) Z (fun H _ => zn Z Z) Z ?_;refine yF (F := []) (s := none) Z (fun H _ => zA Z Z cz) Z ?_;refine yF Z (zd Z Z Z aX Z Z) Z<|zK Z<|zK Z ?_;refine yF (F := []) (s := none) Z (fun H _ => zn Z Z) Z ?_;refine yF (F := []) (s := none) Z (fun H _ => zA Z Z cz) Z ?_;refine yF Z (zd Z Z Z aX Z Z) Z ?_;refine yF (F := []) (s := none) Z (fun H _ => ax Z Z Z Z) Z ?_;obtain ⟨v7, h_v7, hr⟩ := zB hr;refine yF Z (bE.preH (s := none) (fun _ => zC Z Z Z (by kernel_rfl) (LC.pre (sV (x := Nd.mk x.No x.Tick (Vw.mk v1.w_2 v1.w_3) (Vw.mk v1.w_4 v1.w_5) [] x.C v1.w_11) (o := o) (tl := tl) (rc h_v7)) Z Z Z)) Z Z Z Z) Z ?_;refine yF (F := []) (s := none) Z (fun H _ => ab.build Z FA Z Z Z) Z ?_;refine yF Z (bE.alloc Z rR (id := 6) Z) Z<|yF Z (zt Z Z Z Z co Z Z Z) Z ?_;refine LF.nil ⟨by kernel_rfl, ?_⟩;refine zT<|LW.drawW (by kernel_rfl) (by kernel_rfl)<|zK Z<|zK Z ?_;refine yF (F := []) (s := none) Z (fun H _ => zn Z Z) Z ?_;refine yF (F := []) (s := none) Z (fun H _ => zA Z Z au) Z ?_;refine yF (F := []) (s := none) Z (fun H _ => zA Z Z bF) Z ?_;refine yF Z (zd Z Z Z aK Z Z) Z<|yF Z (zd Z Z Z co Z Z) Z ?_;refine yF (F := []) (s := none) Z (fun H _ => mA Z cZ Z Z Z Z Z) Z ?_;refine yF (F := []) (s := none) Z (fun H _ => ab.build Z oP Z Z Z) Z ?_;obtain ⟨v8, h_v8, hr⟩ := zB hr;refine yF (F := []) (s := none) Z (fun H _ => zC Z Z Z (by kernel_rfl) (zp (Eo h_v8) (.cons zv (.cons (Conv.agg (.cons Conv.zs (.cons zv .nil))) .nil)))) Z ?_;refine yF (F := []) (s := none) Z (fun H _ => zn Z Z) Z ?_;refine yF (F := []) (s := none) Z (fun H _ => zA Z Z au) Z ?_;refine yF (F := []) (s := none) Z (fun H _ => zA Z Z bF) Z ?_;refine yF Z (zt Z Z Z Z aK Z Z Z) Z ?_;refine LF.nil ⟨by kernel_rfl, ?_⟩;obtain rfl := zJ hr;exact fq (env' := []) (H' := [.box (bN c0), .box (mg n0), .box (du in0), .box mB, .box [(iQ x.No), (iQ x.Tick), (kB v1.w_2), (kV v1.w_3), (kB v8.B), (kV v8.V), (kO ([] : List Of)), (uQ x.C.ID.1), (uQ x.C.ID.2), (iQ x.C.Slot), (iQ x.C.Revoked), (bQ v1.w_11), (kI c.W), (uQ c.Seed), (iQ c.Epoch), (iQ c.Num), (iQ c.Den), (iQ slot), (kO tl)], .vec 9 (o.map di)]) (zW 6 trivial Z Z Z Z) .none<|⟨rfl, rfl⟩
  ·
   refine zo g2 hr fun hr => LW.skip ?_;obtain rfl := zJ hr;exact fM .none<|⟨rfl, rfl⟩
def ld (x : Nd) (c : Cf) (slot : Int) : Option (Vw × Vw × Cu × Bool) :=
 (jM x.In c slot x.V x.Full).bind fun v1 =>
 (jH c v1.2.1 slot).bind fun v2 =>
 (qk c v1.2.1 slot v2).bind fun v3 =>
 bif few v1.2.1.B then
  some (v1.2.1, v1.1, eo x.C v1.2.1.B v2 v3.1 v3.2 slot, v1.2.2)
 else none
theorem CE {x : Nd} {o : List Of} {c : Cf} {slot : Int} {tl : List Of} {c0 : Cf} {n0 : Nd} {in0 : Vw} {r_ : Vw × Vw × Cu × Bool} (hr : ld x c slot = some r_) : LC Tryz.prog 101 [.ptr 4 0] [.box (bN c0), .box (mg n0), .box (du in0), .box mB, .box [(iQ x.No), (iQ x.Tick), (kB x.V.B), (kV x.V.V), (kB x.In.B), (kV x.In.V), (jO 5 o), (uQ x.C.ID.1), (uQ x.C.ID.2), (iQ x.C.Slot), (iQ x.C.Revoked), (bQ x.Full), (kI c.W), (uQ c.Seed), (iQ c.Epoch), (iQ c.Num), (iQ c.Den), (iQ slot), (kO tl)], .vec 9 (o.map di)] (Is (.tup []) [.box (bN c0), .box (mg n0), .box (du in0), .box mB, .box [(iQ x.No), (iQ x.Tick), (kB r_.1.B), (kV r_.1.V), (kB r_.2.1.B), (kV r_.2.1.V), (kO ([] : List Of)), (uQ r_.2.2.1.ID.1), (uQ r_.2.2.1.ID.2), (iQ r_.2.2.1.Slot), (iQ r_.2.2.1.Revoked), (bQ r_.2.2.2), (kI c.W), (uQ c.Seed), (iQ c.Epoch), (iQ c.Num), (iQ c.Den), (iQ slot), (kO tl)], .vec 9 (o.map di)]) := by
 refine dt Tryz.func101 Z Z Z ?_;unfold ld at hr;refine zQ<|zR<|zM Z<|zM Z<|zM Z<|yS Z (zn Z Z)<|yS Z (zA Z Z au)<|yS Z (zA Z Z bF)<|yS Z (zD Z Z Z aK Z Z)<|zb hr fun v1 h_v1 hr => yS Z (zC Z Z Z (by kernel_rfl) (nU (x := Nd.mk x.No x.Tick x.V x.In [] x.C x.Full) (o := o) (tl := tl) h_v1))<|yS Z (zn Z Z)<|yS Z (zA Z Z au)<|yS Z (zA Z Z bF)<|yS Z (zs Z Z Z Z aK Z Z Z Z)<|zN<|zT<|zQ<|zR<|zM Z<|yS Z (zn Z Z)<|yS Z (zA Z Z au)<|yS Z (zA Z Z bI)<|yS Z (zs Z Z Z Z bl Z Z Z Z) ?_;refine zN<|zT<|zQ<|LW.ent (bJ.zsCell (i := 4) (j := 6) (m := 9) Z Z Z Z)<|zR<|zM Z<|zM Z<|yS Z (zn Z Z)<|yS Z (zA Z Z cz)<|yS Z (zD Z Z Z aX Z Z)<|zb hr fun v2 h_v2 hr => yS Z (zC Z Z Z (by kernel_rfl) (sV (x := Nd.mk x.No x.Tick v1.2.1 v1.1 [] x.C v1.2.2) (o := o) (tl := tl) (rc h_v2)))<|yS Z (ze Z ke Z Z)<|yS Z (zs Z Z Z Z aV Z Z Z Z)<|zN<|zT<|zQ<|LW.ent (bJ.slot Z)<|LW.drawW (by kernel_rfl) (by kernel_rfl)<|zK Z ?_;refine yF (F := []) (s := none) Z (fun H _ => zn Z Z) Z ?_;refine yF (F := []) (s := none) Z (fun H _ => zA Z Z gn) Z ?_;refine yF Z (zd Z Z Z b6 Z Z) Z<|zK Z ?_;refine yF (F := []) (s := none) Z (fun H _ => zn Z Z) Z ?_;refine yF (F := []) (s := none) Z (fun H _ => zA Z Z au) Z ?_;refine yF (F := []) (s := none) Z (fun H _ => zA Z Z bR) Z ?_;refine yF Z (zd Z Z Z aK Z Z) Z<|zK Z ?_;refine yF (F := []) (s := none) Z (fun H _ => zn Z Z) Z ?_;refine yF (F := []) (s := none) Z (fun H _ => zA Z Z cz) Z ?_;refine yF Z (zd Z Z Z aX Z Z) Z<|yF Z (zd Z Z Z aV Z Z) Z<|zb hr fun v3 h_v3 hr => ?_;refine yF (F := []) (s := none) Z (fun H _ => zC Z Z Z (by kernel_rfl) (zp (F6 h_v3) (.cons zv (.cons zv (.cons zv (.cons zv .nil)))))) Z ?_;refine zK Z ?_;refine yF (F := []) (s := none) Z (fun H _ => fE Z Z Z) Z ?_;refine yF (F := []) (s := none) Z (fun H _ => fE Z Z Z) Z ?_;refine yF Z (bE.alloc Z ke (id := 7) Z) Z<|yF Z (zt Z Z Z Z aV Z Z Z) Z<|zK Z ?_;refine LF.nil ⟨by kernel_rfl, ?_⟩;refine zT<|LW.drawW (by kernel_rfl) (by kernel_rfl)<|zK Z<|zK Z ?_;refine yF (F := []) (s := none) Z (fun H _ => zn Z Z) Z ?_;refine yF (F := []) (s := none) Z (fun H _ => zA Z Z au) Z ?_;refine yF (F := []) (s := none) Z (fun H _ => zA Z Z gm) Z ?_;refine yF Z (zd Z Z Z gC Z Z) Z<|zK Z ?_;refine yF (F := []) (s := none) Z (fun H _ => zn Z Z) Z ?_;refine yF (F := []) (s := none) Z (fun H _ => zA Z Z au) Z ?_;refine yF (F := []) (s := none) Z (fun H _ => zA Z Z bR) Z ?_;refine yF (F := []) (s := none) Z (fun H _ => zA Z Z br) Z ?_;refine yF Z (zd Z Z Z dr Z Z) Z<|yF Z (zd Z Z Z aV Z Z) Z<|yF Z (zd Z Z Z aV Z Z) Z<|zK Z<|zK Z ?_;refine yF (F := []) (s := none) Z (fun H _ => zn Z Z) Z ?_;refine yF (F := []) (s := none) Z (fun H _ => zA Z Z cz) Z ?_;refine yF Z (zd Z Z Z aX Z Z) Z<|zg hr fun q1 hr => ?_;refine yF (F := []) (s := none) Z (fun H _ => zC Z Z Z (by kernel_rfl) (zp (I7 (c := x.C) (l := v1.2.1.B) (head := v2) (found := v3.1) (is := v3.2) (slot := slot) (uT q1)) (.cons zv (.cons zv (.cons zv (.cons zv (.cons zv (.cons zv .nil)))))))) Z ?_;refine yF (F := []) (s := none) Z (fun H _ => zn Z Z) Z ?_;refine yF (F := []) (s := none) Z (fun H _ => zA Z Z au) Z ?_;refine yF (F := []) (s := none) Z (fun H _ => zA Z Z gm) Z ?_;refine yF Z (zt Z Z Z Z gC Z Z Z) Z ?_;refine LF.nil ⟨by kernel_rfl, ?_⟩;obtain rfl := zJ hr;refine fq (env' := []) (H' := [.box (bN c0), .box (mg n0), .box (du in0), .box mB, .box [(iQ x.No), (iQ x.Tick), (kB v1.2.1.B), (kV v1.2.1.V), (kB v1.1.B), (kV v1.1.V), (kO ([] : List Of)), .p (.int .u64 (((eo x.C v1.2.1.B v2 v3.1 v3.2 slot).ID).1)), .p (.int .u64 (((eo x.C v1.2.1.B v2 v3.1 v3.2 slot).ID).2)), .p (.int .i64 ((eo x.C v1.2.1.B v2 v3.1 v3.2 slot).Slot)), .p (.int .i64 ((eo x.C v1.2.1.B v2 v3.1 v3.2 slot).Revoked)), (bQ v1.2.2), (kI c.W), (uQ c.Seed), (iQ c.Epoch), (iQ c.Num), (iQ c.Den), (iQ slot), (kO tl)], .vec 9 (o.map di)]) (zW 6 trivial Z Z Z Z) .none ?_
 exact ⟨rfl, rfl⟩
open Go.Proofs
theorem wi {b : Bool} {p : Prop} (h1 : b = true → p) (h2 : b = false → p) : p := by cases b <;> simp_all
theorem rL {a b : Int} (h : (a == b) = true) : LV.p (.int .i64 a) = (iQ b) := by rw [eq_of_beq h]
structure dv where
 t57 : Int
 o5 : List Of
def im (n : Nd) (x1 : dv) : Option (dv ⊕ dv) :=
 bif decide (x1.t57 < (n.O.length : Int)) then
  (ix n.O x1.t57).bind fun y1 =>
  (oo y1).bind fun v6 =>
  bif b9 x1.o5.length [v6].length 104 then
   some (.inl (dv.mk (IntKind.i64.wrap (x1.t57 + 1)) (x1.o5 ++ [v6])))
  else none
 else
  some (.inr (dv.mk x1.t57 x1.o5))
def il (c : Cf) (n : Nd) (v_in : Vw) (o : List Of) : Option (Nd × (List Of)) :=
 (
  (w5 c).bind fun v2 =>
  bif !v2 then
   some true
  else
   bif decide (n.Tick < 3) then
    some true
   else
    some (decide ((IntKind.i64.wrap (n.Tick.tdiv 3)) > 1048576))
 ).bind fun v1 =>
 bif v1 then
  (oh n.V).bind fun v3 =>
  (oh n.In).bind fun v4 =>
  (iter (im n) bH (dv.mk 0 ([] : List Of))).bind fun v5 =>
  some (Nd.mk n.No n.Tick v3 v4 v5.o5 n.C n.Full, [])
 else
  (E7 c v_in).bind fun v7 =>
  (zF n.In v7).bind fun v8 =>
  (sH o (Nd.mk n.No n.Tick n.V v8 n.O n.C n.Full) c (IntKind.i64.wrap (n.Tick.tdiv 3))).bind fun v9 =>
  bif (n.Tick.tmod 3) == 0 then
   (mH (Nd.mk n.No n.Tick n.V v8 [] n.C v9.2) c (IntKind.i64.wrap (n.Tick.tdiv 3)) ([] : List Of)).bind fun v10 =>
   some (Nd.mk n.No (IntKind.i64.wrap (n.Tick + 1)) v10.1 v10.2.1 v9.1 n.C v10.2.2.1, v10.2.2.2)
  else
   bif (n.Tick.tmod 3) == 1 then
    (kC (Nd.mk n.No n.Tick n.V v8 [] n.C v9.2) v9.1 c (IntKind.i64.wrap (n.Tick.tdiv 3))).bind fun v11 =>
    some (Nd.mk n.No (IntKind.i64.wrap (n.Tick + 1)) v11.1 v11.2.1 [] n.C v11.2.2, [])
   else
    bif (n.Tick.tmod 3) == 2 then
     (ld (Nd.mk n.No n.Tick n.V v8 [] n.C v9.2) c (IntKind.i64.wrap (n.Tick.tdiv 3))).bind fun v12 =>
     some (Nd.mk n.No (IntKind.i64.wrap (n.Tick + 1)) v12.1 v12.2.1 [] v12.2.2.1 v12.2.2.2, [])
    else none
theorem F0 {c : Cf} {n : Nd} {v_in : Vw} {o : List Of} {r_ : Nd × (List Of)} (hr : il c n v_in o = some r_) : aw Tryz.prog 53 [kG c, gW n, kZ v_in, .slice 9 (o.map di)] [gW r_.1, .slice 9 (r_.2.map di)] := by
 refine zh Tryz.func53 Z Z Z Z ?_;unfold il at hr;refine zQ<|zR<|yS Z (bV Z Z Z Z Z)<|yS Z (bV Z Z Z Z Z)<|yS Z (bV Z Z Z Z Z)<|yS Z (ze Z nl Z Z)<|zM Z<|zN<|zT<|zQ<|zR<|yS Z (zD Z Z Z bZ Z Z)<|yS Z (zD Z Z Z b6 Z Z)<|yS Z (zA Z Z b8)<|yS Z (zD Z Z Z aX Z Z)<|yS Z (ab.quo Z Z Z (by decide))<|yS Z (ab.build Z Eh Z Z Z)<|yS Z (bV Z Z Z Z Z)<|zM Z<|zN<|zT<|zQ ?_;obtain ⟨v1, hb_v1, ho_v1⟩ := zB hr;clear hr;refine LW.cut (E := [(3, (kO o)), (4, .ptr 0 0), (5, .ptr 1 0), (6, .ptr 2 0), (8, .ptr 3 0), (9, .zs), (10, .ptr 4 0), (35, (bQ v1))]) (O := [.box (bN c), .box (mg n), .box (du v_in), .box mB, .box [(iQ n.No), (iQ n.Tick), (kB n.V.B), (kV n.V.V), (kB n.In.B), (kV n.In.V), (kO n.O), (uQ n.C.ID.1), (uQ n.C.ID.2), (iQ n.C.Slot), (iQ n.C.Revoked), (bQ n.Full), (kI c.W), (uQ c.Seed), (iQ c.Epoch), (iQ c.Num), (iQ c.Den), .p (.int .i64 (IntKind.i64.wrap (n.Tick.tdiv 3))), .zs]]) ?_ ?_
 ·have hr := hb_v1;refine zR<|yS Z (zD Z Z Z b6 Z Z)<|zb hr fun v2 h_v2 hr => yS Z (zC Z Z Z (by kernel_rfl) (zp (En h_v2) (.cons zv .nil)))<|yS Z (ab.not Z Z)<|zM Z ?_;refine zc 24 Z (fun g1 => ?_)<|fun g1 => ?_
  ·
   refine zi g1 hr fun hr => yU Z (gd g1 Z) Z<|yU Z (gd g1 Z) Z<|yU Z (gd g1 Z) Z<|yS Z (ca Z (aN g1 Z) Z)<|zM Z<|yU Z Z Z<|yU Z Z Z<|yU Z Z Z<|yU Z Z Z<|yU Z Z Z<|yS Z (ca Z Z Z)<|zN<|zT ?_;obtain rfl := zJ hr;exact zW 5 ⟨Z, Z, Z, Z, Z, Z, Z, Z, trivial⟩ Z Z Z Z
  ·
   refine zo g1 hr fun hr => yV Z (gd g1 Z) (zA Z Z b8)<|yV Z (gd g1 Z) (zD Z Z Z aX Z Z)<|yV Z (gd g1 Z) (ax Z Z Z Z)<|yS Z (a8 Z (aN g1 Z) Z)<|zM Z ?_;refine zc 29 Z (fun g2 => ?_)<|fun g2 => ?_
   ·
    refine zi g2 hr fun hr => yU Z (gd g2 Z) Z<|yU Z (gd g2 Z) Z<|yU Z (gd g2 Z) Z<|yU Z (gd g2 Z) Z<|yU Z (gd g2 Z) Z<|yS Z (ca Z (aN g2 Z) Z)<|zN<|zT ?_;obtain rfl := zJ hr;exact zW 5 ⟨Z, Z, Z, Z, Z, Z, Z, Z, trivial⟩ Z Z Z Z
   ·
    refine zo g2 hr fun hr => yV Z (gd g2 Z) (zm Z Z)<|yV Z (gd g2 Z) (zn Z Z)<|yV Z (gd g2 Z) (zA Z Z cz)<|yV Z (gd g2 Z) (zD Z Z Z aX Z Z)<|yV Z (gd g2 Z) (ax Z Z Z Z)<|yS Z (a8 Z (aN g2 Z) Z)<|zN<|zT ?_;obtain rfl := zJ hr;exact zW 5 ⟨Z, Z, Z, Z, Z, Z, Z, Z, trivial⟩ Z Z Z Z
 ·have hr := ho_v1;clear hb_v1;refine zX Z (fun g3 => ?_)<|fun g3 => ?_
  ·
   refine zi g3 hr fun hr => zQ<|LW.drawW (by kernel_rfl) (by kernel_rfl)<|zK Z<|zK Z ?_;refine yF (F := []) (s := none) Z (fun H _ => zA Z Z bR) Z ?_;refine yF Z (zd Z Z Z aK Z Z) Z<|zb hr fun v3 h_v3 hr => ?_;refine yF (F := []) (s := none) Z (fun H _ => zC Z Z Z (by kernel_rfl) (zp (An h_v3) (.cons zv .nil))) Z ?_;refine yF (F := []) (s := none) Z (fun H _ => zA Z Z bF) Z ?_;refine yF Z (zd Z Z Z aK Z Z) Z<|zb hr fun v4 h_v4 hr => ?_;refine yF (F := []) (s := none) Z (fun H _ => zC Z Z Z (by kernel_rfl) (zp (An h_v4) (.cons zv .nil))) Z ?_;refine yF (F := []) (s := none) Z (fun H _ => zn Z Z) Z ?_;refine yF (F := []) (s := none) Z (fun H _ => zA Z Z au) Z ?_;refine yF (F := []) (s := none) Z (fun H _ => zA Z Z bR) Z ?_;refine yF Z (zt Z Z Z Z aK Z Z Z) Z ?_;refine yF (F := []) (s := none) Z (fun H _ => zn Z Z) Z ?_;refine yF (F := []) (s := none) Z (fun H _ => zA Z Z au) Z ?_;refine yF (F := []) (s := none) Z (fun H _ => zA Z Z bF) Z ?_;refine yF Z (zt Z Z Z Z aK Z Z Z) Z ?_;refine LF.nil ⟨by kernel_rfl, ?_⟩;refine zT<|zQ<|zR<|zM Z<|yS Z (zn Z Z)<|yS Z (zA Z Z au)<|yS Z (zA Z Z bI)<|yS Z (zs Z Z Z Z bl Z Z Z Z)<|zN<|zT<|zQ<|zQ<|LW.ent (bJ.lazyCell (i := 4) (j := 6) (m := 9) Z Z Z Z Z Z)<|zR<|yS Z (zA Z Z bI)<|yS Z (zD Z Z Z bl Z Z)<|yS Z (cC Z Z (by kernel_rfl))<|zM Z<|zN<|zT ?_;obtain ⟨v5, hb_v5, ho_v5⟩ := zB hr;clear hr;refine LW.tail (E := [(3, (kO o)), (4, .ptr 0 0), (5, .ptr 1 0), (6, .ptr 2 0), (8, .ptr 3 0), (9, .zs), (10, .ptr 4 0)]) (O := [.box (bN c), .box (mg n), .box (du v_in), .box mB, .box [(iQ n.No), (iQ n.Tick), (kB v3.B), (kV v3.V), (kB v4.B), (kV v4.V), (jO 5 v5.o5), (uQ n.C.ID.1), (uQ n.C.ID.2), (iQ n.C.Slot), (iQ n.C.Revoked), (bQ n.Full), (kI c.W), (uQ c.Seed), (iQ c.Epoch), (iQ c.Num), (iQ c.Den), .p (.int .i64 (IntKind.i64.wrap (n.Tick.tdiv 3))), .zs], .vec 9 (v5.o5.map di)]) ?_<|fun env_v5 H_v5 hw_v5 => ?_
   ·refine LW.block ?_;refine LW.iterB (E := fun x1 : dv => [(3, (kO o)), (4, .ptr 0 0), (5, .ptr 1 0), (6, .ptr 2 0), (8, .ptr 3 0), (9, .zs), (10, .ptr 4 0), (55, (kO n.O)), (56, .p (.int .i64 (n.O.length : Int))), (57, (iQ x1.t57))]) (O := fun x1 => [.box (bN c), .box (mg n), .box (du v_in), .box mB, .box [(iQ n.No), (iQ n.Tick), (kB v3.B), (kV v3.V), (kB v4.B), (kV v4.V), (jO 5 x1.o5), (uQ n.C.ID.1), (uQ n.C.ID.2), (iQ n.C.Slot), (iQ n.C.Revoked), (bQ n.Full), (kI c.W), (uQ c.Seed), (iQ c.Epoch), (iQ c.Num), (iQ c.Den), .p (.int .i64 (IntKind.i64.wrap (n.Tick.tdiv 3))), .zs], .vec 9 (x1.o5.map di)]) hb_v5 (zW 6 ⟨rfl, rfl, rfl, rfl, rfl, rfl, rfl, rfl, rfl, rfl, trivial⟩ Z Z Z Z)<|fun x1 z_x1 hr hb_x1 => ?_;unfold im at hr;refine zQ<|zR<|yS Z (ax Z Z Z Z)<|zN<|zT<|zQ ?_;refine zX Z (fun g4 => ?_)<|fun g4 => ?_
    ·
     refine zi g4 hr fun hr => zk<|zT<|zQ<|zl<|zQ<|zR<|zb hr fun y1 h_y1 hr => yS Z (zx Z Z Z bv h_y1 Z)<|yS Z (cT Z Z Z dO Z Z)<|yS Z (ze Z np Z Z)<|yS Z (zs Z Z Z Z dO Z Z Z Z)<|zN<|zT<|LW.drawW (by kernel_rfl) (by kernel_rfl)<|zK Z<|zK Z ?_;refine yF (F := []) (s := none) Z (fun H _ => zn Z Z) Z ?_;refine yF (F := []) (s := none) Z (fun H _ => zA Z Z au) Z ?_;refine yF (F := []) (s := none) Z (fun H _ => zA Z Z bI) Z ?_;refine yF Z (zd Z Z Z bl Z Z) Z<|yF Z (zd Z Z Z dO Z Z) Z<|zb hr fun v6 h_v6 hr => ?_;refine yF (F := []) (s := none) Z (fun H _ => zC Z Z Z (by kernel_rfl) (zp (Ao h_v6) (.cons zv .nil))) Z ?_;refine yF (F := []) (s := none) Z (fun H _ => mA Z bv Z Z Z Z Z) Z ?_;refine zg hr fun q1 hr => yF Z (bE.appendX di x1.o5 [v6] rfl Z Z Z Z bv q1) Z ?_;refine yF (F := []) (s := none) Z (fun H _ => zn Z Z) Z ?_;refine yF (F := []) (s := none) Z (fun H _ => zA Z Z au) Z ?_;refine yF (F := []) (s := none) Z (fun H _ => zA Z Z bI) Z ?_;refine yF Z (zt Z Z Z Z bl Z Z Z) Z ?_;refine LF.nil ⟨by kernel_rfl, ?_⟩;refine ai<|zT<|zR<|yS Z (ax Z Z Z Z)<|zM Z<|zN<|zT ?_;obtain rfl := zJ hr;exact ⟨_, rfl, zW 6 ⟨rfl, rfl, rfl, rfl, rfl, rfl, rfl, rfl, rfl, rfl, trivial⟩ Z Z Z rfl⟩
    ·
     refine zo g4 hr fun hr => zq<|ao<|ao<|zy<|zT ?_;obtain rfl := zJ hr;have hr := congrArg some (hb_x1 _ rfl);obtain rfl := zJ hr;exact zW 6 ⟨Z, Z, Z, Z, Z, Z, Z, trivial⟩ Z Z Z Z
   ·have hr := ho_v5;clear hb_v5;refine zT<|LW.weak hw_v5<|zQ<|zR<|zM Z<|yS Z (zn Z Z)<|yS Z (zA Z Z au)<|yS Z (zD Z Z Z bZ Z Z)<|yS Z (zs Z Z Z Z bZ Z Z Z Z)<|zM Z<|zN<|zT<|zr<|af ?_;obtain rfl := zJ hr;exact zf (.two (.cellAgg Z Z (by kernel_rfl) Z) (.tmp Z))<|⟨_, rfl, (.cons (Conv.agg (.cons zv (.cons zv (.cons zv (.cons zv (.cons zv (.cons zv (.cons (Conv.vecAll Z Z Z) (.cons zv (.cons zv (.cons zv (.cons zv (.cons zv .nil))))))))))))) (.cons Conv.zs .nil))⟩
  ·
   refine zo g3 hr fun hr => zk<|zT<|zQ<|LW.drawW (by kernel_rfl) (by kernel_rfl)<|zK Z ?_;refine yF (F := []) (s := none) Z (fun H _ => zA Z Z bF) Z ?_;refine yF Z (zd Z Z Z aK Z Z) Z<|yF Z (zd Z Z Z b6 Z Z) Z<|yF Z (zd Z Z Z aK Z Z) Z<|zb hr fun v7 h_v7 hr => ?_;refine yF (F := []) (s := none) Z (fun H _ => zC Z Z Z (by kernel_rfl) (zp (IX h_v7) (.cons zv (.cons zv .nil)))) Z ?_;obtain ⟨v8, h_v8, hr⟩ := zB hr;refine yF (F := []) (s := none) Z (fun H _ => zC Z Z Z (by kernel_rfl) (zp (Eo h_v8) (.cons zv (.cons zv .nil)))) Z ?_;refine yF (F := []) (s := none) Z (fun H _ => zn Z Z) Z ?_;refine yF (F := []) (s := none) Z (fun H _ => zA Z Z au) Z ?_;refine yF (F := []) (s := none) Z (fun H _ => zA Z Z bF) Z ?_;refine yF Z (zt Z Z Z Z aK Z Z Z) Z ?_;refine LF.nil ⟨by kernel_rfl, ?_⟩;refine zT<|zQ<|LW.ent (bJ.zsCell (i := 4) (j := 18) (m := 9) Z Z Z Z)<|zR<|zM Z<|zM Z<|zb hr fun v9 h_v9 hr => yS Z (zC Z Z Z (by kernel_rfl) (EC (x := Nd.mk n.No n.Tick n.V v8 n.O n.C n.Full) (tl := ([] : List Of)) h_v9))<|zN<|zT<|zQ<|zR<|yS Z (ab.build Z Ei Z Z Z)<|yS Z (ze Z E3 Z Z)<|yS Z (zs Z Z Z Z EZ Z Z Z Z)<|zN<|zT<|zQ ?_;refine wi (b := (n.Tick.tmod 3) == 0) (fun (g5 : ((n.Tick.tmod 3) == 0) = true) => ?_) (fun (g5 : ((n.Tick.tmod 3) == 0) = false) => ?_)
   ·
    refine zi g5 hr fun hr => zR<|yS Z (zA Z Z b8)<|yS Z (zD Z Z Z aX Z Z)<|yS Z (ab.isEq (y := (iQ 0)) (ab.rem Z Z Z (by decide)) (rL g5))<|yS Z (ab.indexAddrA Z Z Z uL (by decide) (by decide))<|yS Z (zD Z Z Z vB Z Z)<|zM Z<|zb hr fun v10 h_v10 hr => yS Z (zC Z Z Z (by kernel_rfl) (LC.pre (Cy (x := Nd.mk n.No n.Tick n.V v8 [] n.C v9.2) (o := v9.1) (tl := ([] : List Of)) h_v10) Z Z Z))<|zN<|zT<|zQ<|zR<|zM Z<|yS Z (zn Z Z)<|yS Z (zA Z Z au)<|yS Z (zA Z Z b8)<|yS Z (zD Z Z Z aX Z Z)<|yS Z (ax Z Z Z Z)<|yS Z (zn Z Z)<|yS Z (zA Z Z au)<|yS Z (zA Z Z b8)<|yS Z (zs Z Z Z Z aX Z Z Z Z) ?_;refine zN<|zT<|zQ<|LW.drawW (by kernel_rfl) (by kernel_rfl)<|zK Z ?_;refine yF (F := []) (s := none) Z (fun H _ => zn Z Z) Z ?_;refine yF (F := []) (s := none) Z (fun H _ => zA Z Z au) Z ?_;refine yF Z (zd Z Z Z bZ Z Z) Z<|zK Z ?_;refine yF (F := []) (s := none) Z (fun H _ => zn Z Z) Z ?_;refine yF (F := []) (s := none) Z (fun H _ => zA Z Z l5) Z ?_;refine yF Z (zd Z Z Z bl Z Z) Z<|yF Z (zt Z Z Z Z bZ Z Z Z) Z<|zK Z ?_;refine LF.nil ⟨by kernel_rfl, ?_⟩;refine zT<|zr ?_;obtain rfl := zJ hr;exact zf (.two (.cellAgg Z Z (by kernel_rfl) Z) (.tmp Z))<|⟨_, rfl, (.cons (Conv.agg (.cons zv (.cons zv (.cons zv (.cons zv (.cons zv (.cons zv (.cons (Conv.vecAll Z Z Z) (.cons zv (.cons zv (.cons zv (.cons zv (.cons zv .nil))))))))))))) (.cons zv .nil))⟩
   ·
    have hr := zO g5 hr;refine wi (b := (n.Tick.tmod 3) == 1) (fun (g6 : ((n.Tick.tmod 3) == 1) = true) => ?_) (fun (g6 : ((n.Tick.tmod 3) == 1) = false) => ?_)
    ·
     refine zi g6 hr fun hr => zR<|yS Z (zA Z Z b8)<|yS Z (zD Z Z Z aX Z Z)<|yS Z (ab.isEq (y := (iQ 1)) (ab.rem Z Z Z (by decide)) (rL g6))<|yS Z (ab.indexAddrA Z Z Z uL (by decide) (by decide))<|yS Z (zD Z Z Z vB Z Z)<|zM Z<|zb hr fun v11 h_v11 hr => yS Z (zC Z Z Z (by kernel_rfl) (LC.pre (At (x := Nd.mk n.No n.Tick n.V v8 [] n.C v9.2) (o := v9.1) (tl := ([] : List Of)) h_v11) Z Z Z))<|zN<|zT<|zQ<|zR<|zM Z<|yS Z (zn Z Z)<|yS Z (zA Z Z au)<|yS Z (zA Z Z b8)<|yS Z (zD Z Z Z aX Z Z)<|yS Z (ax Z Z Z Z)<|yS Z (zn Z Z)<|yS Z (zA Z Z au)<|yS Z (zA Z Z b8)<|yS Z (zs Z Z Z Z aX Z Z Z Z) ?_;refine zN<|zT<|zQ<|LW.drawW (by kernel_rfl) (by kernel_rfl)<|zK Z ?_;refine yF (F := []) (s := none) Z (fun H _ => zn Z Z) Z ?_;refine yF (F := []) (s := none) Z (fun H _ => zA Z Z au) Z ?_;refine yF Z (zd Z Z Z bZ Z Z) Z<|zK Z ?_;refine yF (F := []) (s := none) Z (fun H _ => zn Z Z) Z ?_;refine yF (F := []) (s := none) Z (fun H _ => zA Z Z l5) Z ?_;refine yF Z (zd Z Z Z bl Z Z) Z<|yF Z (zt Z Z Z Z bZ Z Z Z) Z<|zK Z ?_;refine LF.nil ⟨by kernel_rfl, ?_⟩;refine zT<|zr ?_;obtain rfl := zJ hr;exact zf (.two (.cellAgg Z Z (by kernel_rfl) Z) (.tmp Z))<|⟨_, rfl, (.cons zv (.cons zv .nil))⟩
    ·
     refine zo g6 hr fun hr => zg hr fun q2 hr => zR<|yS Z (zA Z Z b8)<|yS Z (zD Z Z Z aX Z Z)<|yS Z (ab.isEq (y := (iQ 2)) (ab.rem Z Z Z (by decide)) (rL q2))<|yS Z (ab.indexAddrA Z Z Z uL (by decide) (by decide))<|yS Z (zD Z Z Z vB Z Z)<|zM Z<|zb hr fun v12 h_v12 hr => yS Z (zC Z Z Z (by kernel_rfl) (LC.pre (CE (x := Nd.mk n.No n.Tick n.V v8 [] n.C v9.2) (o := v9.1) (tl := ([] : List Of)) h_v12) Z Z Z))<|zN<|zT<|zQ<|zR<|zM Z<|yS Z (zn Z Z)<|yS Z (zA Z Z au)<|yS Z (zA Z Z b8)<|yS Z (zD Z Z Z aX Z Z)<|yS Z (ax Z Z Z Z)<|yS Z (zn Z Z)<|yS Z (zA Z Z au)<|yS Z (zA Z Z b8) ?_;refine yS Z (zs Z Z Z Z aX Z Z Z Z)<|zN<|zT<|zQ<|LW.drawW (by kernel_rfl) (by kernel_rfl)<|zK Z ?_;refine yF (F := []) (s := none) Z (fun H _ => zn Z Z) Z ?_;refine yF (F := []) (s := none) Z (fun H _ => zA Z Z au) Z ?_;refine yF Z (zd Z Z Z bZ Z Z) Z<|zK Z ?_;refine yF (F := []) (s := none) Z (fun H _ => zn Z Z) Z ?_;refine yF (F := []) (s := none) Z (fun H _ => zA Z Z l5) Z ?_;refine yF Z (zd Z Z Z bl Z Z) Z<|yF Z (zt Z Z Z Z bZ Z Z Z) Z<|zK Z ?_;refine LF.nil ⟨by kernel_rfl, ?_⟩;refine zT<|zr ?_;obtain rfl := zJ hr;exact zf (.two (.cellAgg Z Z (by kernel_rfl) Z) (.tmp Z))<|⟨_, rfl, (.cons zv (.cons zv .nil))⟩
open Go.Proofs
theorem uN {α : Type} {f : α → PV} {l : List α} (hb : b9 0 l.length 8 = true) : LC Tryz.prog 46 [.p (.slice 1 (l.map f))] [] (Is (.vec 1 0 (l.map f).length 0 (l.map f).length) [.vec 1 (l.map f)]) := by
 refine dt Tryz.func46 Z Z Z ?_;refine zQ<|zR<|yS Z (za Z Z)<|zN<|zT<|zQ<|zQ<|zR<|yS Z (zm Z Z)<|am.cons Z Z Z (ab.eqNil Z Z Z fP) ?_;rintro _ _ ⟨rfl, b, rfl, hn⟩;refine zN<|zT ?_;refine zX Z (fun g => ?_)<|fun g => ?_
 ·have hl : l = [] := List.map_eq_nil_iff.1 (hn g);subst hl;exact zQ<|zR<|yS Z (za Z Z)<|zN<|zT<|LW.ent (bJ.lazy (t := 2) (m := 1) Z Z Z)<|zr<|af<|ap (.one (.tmp Z)) ⟨rfl, rfl⟩
 ·refine LW.skip ?_;exact zT<|zQ<|zR<|yS Z (ab.buildSlice0 Z fP)<|yS Z (zm Z Z)<|yS Z (ab.appendZX f l Z Z Z Z kE.p Z fP hb Z)<|yS Z (za Z Z)<|zN<|zT<|zr<|ap (.one (.tmp Z)) ⟨rfl, rfl⟩
theorem Em {α : Type} {f : α → PV} {l : List α} (hb : b9 0 l.length 176 = true) : LC Tryz.prog 81 [.p (.slice 12 (l.map f))] [] (Is (.vec 12 0 (l.map f).length 0 (l.map f).length) [.vec 12 (l.map f)]) := by
 refine dt Tryz.func81 Z Z Z ?_;refine zQ<|zR<|yS Z (za Z Z)<|zN<|zT<|zQ<|zQ<|zR<|yS Z (zm Z Z)<|am.cons Z Z Z (ab.eqNil Z Z Z er) ?_;rintro _ _ ⟨rfl, b, rfl, hn⟩;refine zN<|zT ?_;refine zX Z (fun g => ?_)<|fun g => ?_
 ·have hl : l = [] := List.map_eq_nil_iff.1 (hn g);subst hl;exact zQ<|zR<|yS Z (za Z Z)<|zN<|zT<|LW.ent (bJ.lazy (t := 2) (m := 12) Z Z Z)<|zr<|af<|ap (.one (.tmp Z)) ⟨rfl, rfl⟩
 ·refine LW.skip ?_;exact zT<|zQ<|zR<|yS Z (ab.buildSlice0 Z er)<|yS Z (zm Z Z)<|yS Z (ab.appendZX f l Z Z Z Z kE.p Z er hb Z)<|yS Z (za Z Z)<|zN<|zT<|zr<|ap (.one (.tmp Z)) ⟨rfl, rfl⟩
theorem As {α : Type} {f : α → PV} {l : List α} (hb : b9 0 l.length 104 = true) : LC Tryz.prog 94 [.p (.slice 9 (l.map f))] [] (Is (.vec 9 0 (l.map f).length 0 (l.map f).length) [.vec 9 (l.map f)]) := by
 refine dt Tryz.func94 Z Z Z ?_;refine zQ<|zR<|yS Z (za Z Z)<|zN<|zT<|zQ<|zQ<|zR<|yS Z (zm Z Z)<|am.cons Z Z Z (ab.eqNil Z Z Z bv) ?_;rintro _ _ ⟨rfl, b, rfl, hn⟩;refine zN<|zT ?_;refine zX Z (fun g => ?_)<|fun g => ?_
 ·have hl : l = [] := List.map_eq_nil_iff.1 (hn g);subst hl;exact zQ<|zR<|yS Z (za Z Z)<|zN<|zT<|LW.ent (bJ.lazy (t := 2) (m := 9) Z Z Z)<|zr<|af<|ap (.one (.tmp Z)) ⟨rfl, rfl⟩
 ·refine LW.skip ?_;exact zT<|zQ<|zR<|yS Z (ab.buildSlice0 Z bv)<|yS Z (zm Z Z)<|yS Z (ab.appendZX f l Z Z Z Z kE.p Z bv hb Z)<|yS Z (za Z Z)<|zN<|zT<|zr<|ap (.one (.tmp Z)) ⟨rfl, rfl⟩
def lR (v : Vw) : Option Vw :=
 bif b9 0 v.B.length 40 then
  bif b9 0 v.V.length 32 then
   some v
  else none
 else none
theorem Ar {v : Vw} {r_ : Vw} (hr : lR v = some r_) : aw Tryz.prog 83 [kZ v] [kZ r_] := by
 refine zh Tryz.func83 Z Z Z Z ?_;unfold lR at hr;refine zQ<|zR<|yS Z (bV Z Z Z Z Z)<|yS Z (ze Z iS Z Z)<|zN<|zT<|zQ<|LW.ent (bJ.slot Z)<|LW.ent (bJ.slot Z)<|LW.drawW (by kernel_rfl) (by kernel_rfl) ?_;refine yF (F := []) (s := none) Z (fun H _ => zA Z Z br) Z ?_;refine yF Z (zd Z Z Z dr Z Z) Z<|zg hr fun q1 hr => ?_;refine yF Z (bE.callV (id := 2) (qs := [(kB v.B)]) Z Z Z (by kernel_rfl) (sT q1) (fun H => (.consC zv .nil)) Z) Z ?_;refine yF (F := []) (s := none) Z (fun H _ => zA Z Z bG) Z ?_;refine yF Z (zd Z Z Z dP Z Z) Z<|zg hr fun q2 hr => ?_;refine yF Z (bE.callV (id := 3) (qs := [(kV v.V)]) Z Z Z (by kernel_rfl) (sU q2) (fun H => (.consC zv .nil)) Z) Z ?_;refine yF (F := []) (s := none) Z (fun H _ => ab.build Z oP Z Z Z) Z ?_;refine yF Z (zt Z Z Z Z aK Z Z Z) Z ?_;refine LF.nil ⟨by kernel_rfl, ?_⟩;refine zT<|zr ?_;obtain rfl := zJ hr;exact zf (.one (.cellAgg Z Z (by kernel_rfl) Z))<|(Conv.agg (.cons (Conv.vecAll Z Z Z) (.cons (Conv.vecAll Z Z Z) .nil)))
theorem oz {v r_ : Vw} (h : lR v = some r_) : v = r_ := by
 unfold lR at h;obtain ⟨_, h⟩ := zG h;obtain ⟨_, h⟩ := zG h;exact zJ h
structure dX where
 t8 : Int
def iy (l : List Of) (x1 : dX) : Option (dX ⊕ dX) :=
 bif decide (x1.t8 < (l.length : Int)) then
  (ix l x1.t8).bind fun y1 =>
  (lR y1.V).bind fun _ =>
  (ix l x1.t8).bind fun _ =>
  some (.inl (dX.mk (IntKind.i64.wrap (x1.t8 + 1))))
 else
  some (.inr (dX.mk x1.t8))
def ns (l : List Of) : Option (List Of) :=
 bif b9 0 l.length 104 then
  (iter (iy l) bH (dX.mk 0)).bind fun _ =>
  some l
 else none
theorem Dj {l : List Of} {r_ : (List Of)} (hr : ns l = some r_) : aw Tryz.prog 82 [.slice 9 (l.map di)] [.slice 9 (r_.map di)] := by
 refine zh Tryz.func82 Z Z Z Z ?_;unfold ns at hr;refine zQ<|zR<|zM Z<|zN<|zT<|zQ<|zR<|zM Z<|zg hr fun q1 hr => yS Z (ab.callV (qs := [(kO l)]) Z Z Z (by kernel_rfl) (As q1) (.consC zv .nil) Z Z)<|zM Z<|zN<|zT<|zQ<|zQ<|zR<|zM Z<|yS Z (ab.lenVM Z Z Z (by kernel_rfl))<|zM Z<|zN<|zT ?_;obtain ⟨v1, hb_v1, ho_v1⟩ := zB hr;clear hr;refine LW.tail (E := [(0, (jO 0 l)), (2, .zs)]) (O := [.vec 9 (l.map di)]) ?_<|fun env_v1 H_v1 hw_v1 => ?_
 ·refine LW.block ?_;refine LW.iterB (E := fun x1 : dX => [(0, (jO 0 l)), (2, .zs), (7, .p (.int .i64 (l.length : Int))), (8, (iQ x1.t8))]) (O := fun x1 => [.vec 9 (l.map di)]) hb_v1 (zW 1 ⟨rfl, rfl, rfl, rfl, trivial⟩ Z Z Z Z)<|fun x1 z_x1 hr hb_x1 => ?_;unfold iy at hr;refine zQ<|zR<|yS Z (ax Z Z Z Z)<|zN<|zT<|zQ ?_;refine zX Z (fun g1 => ?_)<|fun g1 => ?_
  ·
   refine zi g1 hr fun hr => zk<|zT<|zQ<|zl<|zQ<|zR<|zM Z<|zM Z<|zN<|zT<|zR<|zM Z<|zM Z<|zM Z<|zM Z<|zb hr fun y1 h_y1 hr => yS Z (ab.indexAddrVX Z Z Z Z bv h_y1)<|yS Z (ab.fieldAddrV Z Z Z Z eO)<|yS Z (ab.loadVX Z Z Z aK h_y1 Z Z Z Z)<|zb hr fun v2 h_v2 hr => ?_;obtain rfl := oz h_v2;refine yS Z (zC Z Z Z (by kernel_rfl) (zp (Ar h_v2) (.cons zv .nil)))<|zb hr fun y2 h_y2 hr => yS Z (ab.indexAddrVX Z Z Z Z bv h_y2)<|yS Z (ab.fieldAddrV Z Z Z Z eO) ?_;obtain rfl := zJ (h_y1.symm.trans h_y2);refine yS Z (ab.storeVS (f := di) (l := l) Z Z Z Z aK (fun _ => rfl) h_y2 Z Z Z Z Z) ?_;refine zN<|ai<|zT<|zR<|yS Z (ax Z Z Z Z)<|zM Z<|zN<|zT ?_;obtain rfl := zJ hr;exact ⟨_, rfl, zW 1 ⟨rfl, rfl, rfl, rfl, trivial⟩ Z Z Z rfl⟩
  ·
   refine zo g1 hr fun hr => zq<|ao<|ao<|zy<|zT ?_;obtain rfl := zJ hr;have hr := congrArg some (hb_x1 _ rfl);obtain rfl := zJ hr;exact zW 1 ⟨Z, Z, trivial⟩ Z Z Z Z
 ·have hr := ho_v1;clear hb_v1;refine zT<|LW.weak hw_v1<|zQ<|zR<|zM Z<|zM Z<|zN<|zT<|zr ?_;obtain rfl := zJ hr;exact zf (.one (.tmp Z))<|(Conv.vecAll Z Z Z)
theorem sB {v r_ : List Of} (h : ns v = some r_) : v = r_ := by
 unfold ns at h;obtain ⟨_, h⟩ := zG h;obtain ⟨_, _, h⟩ := zB h;exact zJ h
structure dW where
 t20 : Int
def iw (w : Wd) (x1 : dW) : Option (dW ⊕ dW) :=
 bif decide (x1.t20 < (w.N.length : Int)) then
  (ix w.N x1.t20).bind fun y1 =>
  (lR y1.V).bind fun _ =>
  (lR y1.In).bind fun _ =>
  (ns y1.O).bind fun _ =>
  some (.inl (dW.mk (IntKind.i64.wrap (x1.t20 + 1))))
 else
  some (.inr (dW.mk x1.t20))
def nr (w : Wd) : Option Wd :=
 bif b9 0 w.Bad.length 8 then
  bif b9 0 w.N.length 176 then
   (ns w.O).bind fun _ =>
   (iter (iw w) bH (dW.mk 0)).bind fun _ =>
   some w
  else none
 else none
theorem Di {w : Wd} {r_ : Wd} (hr : nr w = some r_) : aw Tryz.prog 50 [ya w] [ya r_] := by
 refine zh Tryz.func50 Z Z Z Z ?_;unfold nr at hr;refine zQ<|zR<|yS Z (bV Z Z Z Z Z)<|yS Z (ze Z kd Z Z)<|zN<|zT<|zQ<|LW.ent (bJ.slot Z)<|LW.ent (bJ.slot Z)<|LW.drawW (by kernel_rfl) (by kernel_rfl) ?_;refine yF (F := []) (s := none) Z (fun H _ => zA Z Z df) Z ?_;refine yF Z (zd Z Z Z eU Z Z) Z<|zg hr fun q1 hr => ?_;refine yF Z (bE.callV (id := 2) (qs := [(kI w.Bad)]) Z Z Z (by kernel_rfl) (uN q1) (fun H => (.consC zv .nil)) Z) Z ?_;refine yF (F := []) (s := none) Z (fun H _ => zA Z Z bA) Z ?_;refine yF Z (zd Z Z Z cQ Z Z) Z<|zg hr fun q2 hr => ?_;refine yF Z (bE.callV (id := 3) (qs := [.p (.slice 12 (w.N.map gW))]) Z Z Z (by kernel_rfl) (Em q2) (fun H => (.consC zv .nil)) Z) Z ?_;refine yF (F := []) (s := none) Z (fun H _ => zA Z Z eM) Z ?_;refine yF Z (zd Z Z Z bl Z Z) Z<|zb hr fun v1 h_v1 hr => ?_;obtain rfl := sB h_v1;refine yF (F := []) (s := none) Z (fun H _ => zC Z Z Z (by kernel_rfl) (zp (Dj h_v1) (.cons zv .nil))) Z ?_;refine yF (F := []) (s := none) Z (fun H _ => zA Z Z df) Z ?_;refine yF Z (zt Z Z Z Z eU Z Z Z) Z ?_;refine yF (F := []) (s := none) Z (fun H _ => zA Z Z bA) Z ?_;refine yF Z (zt Z Z Z Z cQ Z Z Z) Z ?_;refine yF (F := []) (s := none) Z (fun H _ => zA Z Z eM) Z ?_;refine yF Z (zt Z Z Z Z bl Z Z Z) Z ?_;refine LF.nil ⟨by kernel_rfl, ?_⟩;refine zT<|zQ<|zQ<|zR<|yS Z (zA Z Z bA)<|yS Z (zD Z Z Z cQ Z Z)<|yS Z (ab.lenVM Z Z Z (by kernel_rfl))<|zM Z<|zN<|zT ?_;obtain ⟨v2, hb_v2, ho_v2⟩ := zB hr;clear hr;refine LW.tail (E := [(1, .ptr 0 0), (2, .ptr 1 0)]) (O := [.box [(kI w.C.W), (uQ w.C.Seed), (iQ w.C.Epoch), (iQ w.C.Num), (iQ w.C.Den), (jI 2 w.Bad), (iQ w.Tick), .vec 12 3 (w.N.map gW).length 0 (w.N.map gW).length, (kO w.O)], .box rS, .vec 1 (w.Bad.map aB), .vec 12 (w.N.map gW)]) ?_<|fun env_v2 H_v2 hw_v2 => ?_
 ·refine LW.block ?_;refine LW.iterB (E := fun x1 : dW => [(1, .ptr 0 0), (2, .ptr 1 0), (19, .p (.int .i64 (w.N.length : Int))), (20, (iQ x1.t20))]) (O := fun x1 => [.box [(kI w.C.W), (uQ w.C.Seed), (iQ w.C.Epoch), (iQ w.C.Num), (iQ w.C.Den), (jI 2 w.Bad), (iQ w.Tick), .vec 12 3 (w.N.map gW).length 0 (w.N.map gW).length, (kO w.O)], .box rS, .vec 1 (w.Bad.map aB), .vec 12 (w.N.map gW)]) hb_v2 (zW 4 ⟨rfl, rfl, rfl, rfl, trivial⟩ Z Z Z Z)<|fun x1 z_x1 hr hb_x1 => ?_;unfold iw at hr;refine zQ<|zR<|yS Z (ax Z Z Z Z)<|zN<|zT<|zQ ?_;refine zX Z (fun g1 => ?_)<|fun g1 => ?_
  ·
   refine zi g1 hr fun hr => zk<|zT<|zQ<|zl<|zQ<|zR<|zM Z<|zM Z<|zN<|zT<|zQ<|zR<|yS Z (zA Z Z bA)<|yS Z (zD Z Z Z cQ Z Z)<|zM Z<|zb hr fun y1 h_y1 hr => yS Z (ab.indexAddrVX Z Z Z Z er h_y1)<|zM Z<|zN<|zT<|LW.draw2 (by kernel_rfl) (by kernel_rfl)<|zH Z<|zH Z ?_;refine zH Z<|zH Z<|yE Z (ab.nilCheckV Z Z Z Z)<|yE Z (ab.fieldAddrV Z Z Z Z bR)<|yE Z (ab.loadVX Z Z Z aK h_y1 Z Z Z Z)<|zb hr fun v3 h_v3 hr => ?_;obtain rfl := oz h_v3;refine yE Z (zC Z Z Z (by kernel_rfl) (zp (Ar h_v3) (.cons zv .nil)))<|zH Z<|yE Z (ab.nilCheckV Z Z Z Z)<|yE Z (ab.fieldAddrV Z Z Z Z bF)<|yE Z (ab.loadVX Z Z Z aK h_y1 Z Z Z Z)<|zb hr fun v4 h_v4 hr => ?_;obtain rfl := oz h_v4;refine yE Z (zC Z Z Z (by kernel_rfl) (zp (Ar h_v4) (.cons zv .nil)))<|zH Z<|yE Z (ab.nilCheckV Z Z Z Z)<|yE Z (ab.fieldAddrV Z Z Z Z bI)<|yE Z (ab.loadVX Z Z Z bl h_y1 Z Z Z Z)<|zb hr fun v5 h_v5 hr => ?_;obtain rfl := sB h_v5;refine yE Z (zC Z Z Z (by kernel_rfl) (zp (Dj h_v5) (.cons zv .nil)))<|yE Z (ab.nilCheckV Z Z Z Z)<|yE Z (ab.fieldAddrV Z Z Z Z bR) ?_;refine yE Z (ab.storeVS (f := gW) (l := w.N) Z Z Z Z aK (fun _ => rfl) h_y1 Z Z Z Z Z) ?_;refine yE Z (ab.nilCheckV Z Z Z Z)<|yE Z (ab.fieldAddrV Z Z Z Z bF) ?_;refine yE Z (ab.storeVS (f := gW) (l := w.N) Z Z Z Z aK (fun _ => rfl) h_y1 Z Z Z Z Z) ?_;refine yE Z (ab.nilCheckV Z Z Z Z)<|yE Z (ab.fieldAddrV Z Z Z Z bI) ?_;refine yE Z (ab.storeVS (f := gW) (l := w.N) Z Z Z Z bl (fun _ => rfl) h_y1 Z Z Z Z Z) ?_;refine LO.nil<|ai<|zT<|zR<|yS Z (ax Z Z Z Z)<|zM Z<|zN<|zT ?_;obtain rfl := zJ hr;exact ⟨_, rfl, zW 4 ⟨rfl, rfl, rfl, rfl, trivial⟩ Z Z Z rfl⟩
  ·
   refine zo g1 hr fun hr => zq<|ao<|ao<|zy<|zT ?_;obtain rfl := zJ hr;have hr := congrArg some (hb_x1 _ rfl);obtain rfl := zJ hr;exact zW 4 ⟨Z, Z, trivial⟩ Z Z Z Z
 ·have hr := ho_v2;clear hb_v2;refine zT<|LW.weak hw_v2<|zQ<|zR<|yS Z (zD Z Z Z bU Z Z)<|yS Z (zs Z Z Z Z bU Z Z Z Z)<|zN<|zT<|zr ?_;obtain rfl := zJ hr;exact zf (.one (.cellAgg Z Z (by kernel_rfl) Z))<|(Conv.agg (.cons zv (.cons zv (.cons zv (.cons zv (.cons zv (.cons (Conv.vecAll Z Z Z) (.cons zv (.cons (Conv.vecAll Z Z Z) (.cons zv .nil))))))))))
end Go.Mg
