/- Products of numbers. What is confirmed. view.May. view.Take. A node at a tick: what it hears, counts, and stands by. A node behind a tick. A world once more. Conditions: none. -/
import Derived.Test.YtbjmcafamkdokaaGreatX3
import Derived.Test.YtbjmcafamkdokaaGreatX5
import Derived.Test.YtbjmcafamkdokaaGreatX6
import Derived.Test.YtbjmcafamkdokaaGreatX4
set_option maxRecDepth 100000
set_option linter.unusedSimpArgs false
set_option linter.unusedVariables false
namespace Go.Mg
open Go.Proofs
def F1059 (x : Int) (y : Int) : Option (Int × Int) :=
 some (IntKind.u64.wrap ((IntKind.u64.wrap ((IntKind.u64.wrap ((x.fdiv (2 ^ (min (Int.toNat 32) IntKind.u64.bits))) * (y.fdiv (2 ^ (min (Int.toNat 32) IntKind.u64.bits))))) + ((IntKind.u64.wrap ((IntKind.u64.wrap ((x.fdiv (2 ^ (min (Int.toNat 32) IntKind.u64.bits))) * (bits .and .u64 y 4294967295))) + ((IntKind.u64.wrap ((bits .and .u64 x 4294967295) * (bits .and .u64 y 4294967295))).fdiv (2 ^ (min (Int.toNat 32) IntKind.u64.bits))))).fdiv (2 ^ (min (Int.toNat 32) IntKind.u64.bits))))) + ((IntKind.u64.wrap ((bits .and .u64 (IntKind.u64.wrap ((IntKind.u64.wrap ((x.fdiv (2 ^ (min (Int.toNat 32) IntKind.u64.bits))) * (bits .and .u64 y 4294967295))) + ((IntKind.u64.wrap ((bits .and .u64 x 4294967295) * (bits .and .u64 y 4294967295))).fdiv (2 ^ (min (Int.toNat 32) IntKind.u64.bits))))) 4294967295) + (IntKind.u64.wrap ((bits .and .u64 x 4294967295) * (y.fdiv (2 ^ (min (Int.toNat 32) IntKind.u64.bits))))))).fdiv (2 ^ (min (Int.toNat 32) IntKind.u64.bits)))), IntKind.u64.wrap (x * y))
theorem c1059 {x : Int} {y : Int} {r_ : Int × Int} (hr : F1059 x y = some r_) : LPure Tryz.prog 158 [.int .u64 x, .int .u64 y] [.int .u64 r_.1, .int .u64 r_.2] := by
 refine zh Tryz.func158 Z Z Z Z ?_;unfold F1059 at hr;refine zQ (zR (zM Z (zM Z (zN (zT (zQ (zR (zM Z (yS Z (zb2 Z Z Z Z) (zM Z (zN (zT (zQ (zR (zM Z (yS Z (LOp.shr Z Z Z (by decide)) (zM Z (zN (zT (zQ (zR (zM Z (yS Z (zb2 Z Z Z Z) ?_)))))))))))))))))))))));refine zM Z (zN (zT (zQ (zR (zM Z (yS Z (LOp.shr Z Z Z (by decide)) (zM Z (zN (zT (zQ (zR (zM Z (zM Z (yS Z (zb2 Z Z Z Z) (zM Z (zN (zT (zQ (zR (zM Z (zM Z (yS Z (zb2 Z Z Z Z) (zM Z ?_)))))))))))))))))))))));refine yS Z (LOp.shr Z Z Z (by decide)) (yS Z (zb2 Z Z Z Z) (zM Z (zN (zT (zQ (zR (zM Z (yS Z (zb2 Z Z Z Z) (zM Z (zN (zT (zQ (zR (zM Z (yS Z (LOp.shr Z Z Z (by decide)) (zM Z (zN (zT (zQ (zR (zM Z (zM Z (zM Z ?_)))))))))))))))))))))));refine yS Z (zb2 Z Z Z Z) (yS Z (zb2 Z Z Z Z) (zM Z (zN (zT (zQ (zR (zM Z (zM Z (yS Z (zb2 Z Z Z Z) (zM Z (yS Z (zb2 Z Z Z Z) (zM Z (yS Z (LOp.shr Z Z Z (by decide)) (yS Z (zb2 Z Z Z Z) (zM Z (zN (zT (zQ (zR (zM Z (zM Z (yS Z (zb2 Z Z Z Z) (zM Z ?_)))))))))))))))))))))));refine zN (zT (zr ?_));obtain rfl := zJ hr;exact zf (.two (.tmp Z) (.tmp Z)) (⟨_, rfl, (.cons zv (.cons zv .nil))⟩)
def F1043 (a : Int) (b : Int) : Option ID :=
 (F1059 (IntKind.u64.wrap (a)) (IntKind.u64.wrap (b))).bind fun v1 =>
 some v1
theorem c1043 {a : Int} {b : Int} {r_ : ID} (hr : F1043 a b = some r_) : LPure Tryz.prog 116 [.int .i64 a, .int .i64 b] [idP r_] := by
 refine zh Tryz.func116 Z Z Z Z ?_;unfold F1043 at hr;refine zQ (zR (yS Z (ze Z zt1108 Z Z) (zN (zT (zQ (zR (zM Z (yS Z (LOp.convert (k' := .u64) Z Z (by kernel_rfl)) (zM Z (yS Z (LOp.convert (k' := .u64) Z Z (by kernel_rfl)) (zb hr fun v1 h_v1 hr => yS Z (zC Z Z Z (by kernel_rfl) (zp (c1059 h_v1) (.cons zv (.cons zv .nil)))) (zM Z (yS Z (zX2 Z Z Z) (yS Z (zX2 Z Z Z) (zM Z (zM Z (zN (zT (zQ (zR (zM Z (zM Z ?_))))))))))))))))))))));refine yS Z (LOp.build Z bt1108 Z Z Z) (yS Z (zs Z Z Z Z vt1108 Z Z Z Z) (zN (zT (zr ?_))));obtain rfl := zJ hr;exact zf (.one (.cellAgg Z Z (by kernel_rfl) Z)) zv
def F1058 (n : Int) : Option Bool :=
 bif decide (n ≥ 0) then
  some (decide (n ≤ 4611686018427387904))
 else
  some false
theorem c1058 {n : Int} {r_ : Bool} (hr : F1058 n = some r_) : LPure Tryz.prog 157 [.int .i64 n] [.bool r_] := by
 refine zh Tryz.func157 Z Z Z Z ?_;unfold F1058 at hr;refine zQ (zR (zM Z (zN (zT (zQ (zR (zM Z (yS Z (zb2 Z Z Z Z) (zM Z ?_)))))))));refine zc 5 Z (fun g1 => ?_) (fun g1 => ?_)
 ·
  refine zi g1 hr fun hr => yV Z (gd g1 Z) (zm Z Z) (yV Z (gd g1 Z) (zb2 Z Z Z Z) (yS Z (zpT Z (gdl g1 Z) Z) (zM Z (zN (zT (zr ?_))))));obtain rfl := zJ hr;exact zf (.one (.tmp Z)) zv
 ·
  refine zo g1 hr fun hr => yU Z (gd g1 Z) Z (yU Z (gd g1 Z) Z (yS Z (zpF Z (gdl g1 Z) Z) (zM Z (zN (zT (zr ?_))))));obtain rfl := zJ hr;exact zf (.one (.tmp Z)) zv
def F1057 (n : Int) : Option Bool :=
 (F1058 n).bind fun v1 =>
 some (!v1)
theorem c1057 {n : Int} {r_ : Bool} (hr : F1057 n = some r_) : LPure Tryz.prog 156 [.int .i64 n] [.bool r_] := by
 refine zh Tryz.func156 Z Z Z Z ?_;unfold F1057 at hr;refine zQ (zR (zM Z (zN (zT (zQ (zR (zM Z (zb hr fun v1 h_v1 hr => yS Z (zC Z Z Z (by kernel_rfl) (zp (c1058 h_v1) (.cons zv .nil))) (yS Z (LOp.not Z Z) (zM Z (zN (zT (zr ?_)))))))))))));obtain rfl := zJ hr;exact zf (.one (.tmp Z)) zv
structure FIxf_L1 where
 t8 : Int
def FIxf_s1 (s : List Int) (x1 : FIxf_L1) : Option (FIxf_L1 ⊕ (FIxf_L1 ⊕ Int)) :=
 bif decide (x1.t8 < (s.length : Int)) then
  (ix s x1.t8).bind fun y1 =>
  (F1057 y1).bind fun v2 =>
  bif v2 then
   some (.inr (.inr x1.t8))
  else
   some (.inl (FIxf_L1.mk (IntKind.i64.wrap (x1.t8 + 1))))
 else
  some (.inr (.inl (FIxf_L1.mk x1.t8)))
def FIxf (s : List Int) : Option Int :=
 (iter (FIxf_s1 s) big (FIxf_L1.mk 0)).bind fun b_v1 => Sum.elim (fun _ =>
  some (-1)) some b_v1
theorem cFIxf {s : List Int} {r_ : Int} (hr : FIxf s = some r_) : LC Tryz.prog 173 [(kI s), .fn 156 [] []] [] (Is (iQ r_) []) := by
 refine zh2 Tryz.func173 Z Z Z ?_;unfold FIxf at hr;refine zQ (zR (zM Z (zN (zT (zQ (zQ (zR (zM Z (yS Z (zlM Z Z (by kernel_rfl)) (zM Z (zN (zT ?_))))))))))));obtain ⟨b_v1, hb_v1, ho_v1⟩ := zB hr;clear hr;refine LW.tailB (b := b_v1) (E := fun v1 => [(4, (iQ 0))]) (O := fun v1 => []) ?_ (fun v1 e_v1 env_v1 H_v1 hw_v1 => ?_)
 ·refine LW.block ?_;refine LW.iterB (E := fun x1 : FIxf_L1 => [(0, (kI s)), (1, .fn 156 [] []), (4, (iQ 0)), (7, .p (.int .i64 (s.length : Int))), (8, (iQ x1.t8))]) (O := fun x1 => []) hb_v1 (zW 0 ⟨rfl, rfl, rfl, rfl, rfl, trivial⟩ Z Z Z Z) (fun x1 z_x1 hr hb_x1 => ?_);unfold FIxf_s1 at hr;refine zQ (zR (yS Z (zb2 Z Z Z Z) (zN (zT (zQ ?_)))));refine zX Z (fun g1 => ?_) (fun g1 => ?_)
  ·
   refine zi g1 hr fun hr => zk (zT (zQ (zl (zQ (zR (zM Z (zM Z (zN (zT (zQ (zR (zM Z (zM Z (zM Z (zb hr fun y1 h_y1 hr => yS Z (zx Z Z Z st49 h_y1 Z) (yS Z (zC2 Z Z Z vt3 Z Z) (zb hr fun v2 h_v2 hr => yS Z (zC Z Z Z (by kernel_rfl) (zp (c1057 h_v2) (.cons zv .nil))) (zN (zT ?_)))))))))))))))))));refine zX Z (fun g2 => ?_) (fun g2 => ?_)
   ·
    refine zi g2 hr fun hr => zQ (zR (zM Z (zM Z (zN (zT (zr (inBlk_r (thn_r (thn_r (inBlk_r (thn_r (thn_r ?_))))))))))));obtain rfl := zJ hr;have hr := congrArg some (hb_x1 _ rfl);obtain rfl := zJ hr;have hr := sum_r ho_v1;obtain rfl := zJ hr;exact fin_ret (.one (.tmp Z)) (⟨rfl, rfl⟩)
   ·
    refine zo g2 hr fun hr => zk (inBlk_n (zT (zR (yS Z (zb2 Z Z Z Z) (zM Z (zN (zT ?_)))))));obtain rfl := zJ hr;exact ⟨_, rfl, zW 0 ⟨rfl, rfl, rfl, rfl, rfl, trivial⟩ Z Z Z rfl⟩
  ·
   refine zo g1 hr fun hr => zq (thn_e (thn_e (zy (zT ?_))));obtain rfl := zJ hr;have hr := congrArg some (hb_x1 _ rfl);obtain rfl := zJ hr;exact ⟨_, rfl, zW 0 ⟨rfl, trivial⟩ Z Z Z rfl⟩
 ·obtain rfl := e_v1;have hr := sum_l ho_v1;clear hb_v1;refine zT (LW.weak hw_v1 (zQ (zR (zM Z (zN (zT (zr ?_)))))));obtain rfl := zJ hr;exact fin_ret (.one (.tmp Z)) (⟨rfl, rfl⟩)
def FCf (s : List Int) : Option Bool :=
 (FIxf s).bind fun v1 =>
 some (decide (v1 ≥ 0))
theorem cFCf {s : List Int} {r_ : Bool} (hr : FCf s = some r_) : LC Tryz.prog 155 [(kI s), .fn 156 [] []] [] (Is (bQ r_) []) := by
 refine zh2 Tryz.func155 Z Z Z ?_;unfold FCf at hr;refine zQ (zR (zM Z (zN (zT (zQ (zR (zM Z (zM Z (zb hr fun v1 h_v1 hr => yS Z (zC Z Z Z (by kernel_rfl) (cFIxf h_v1)) (yS Z (zb2 Z Z Z Z) (zM Z (zN (zT (zr ?_))))))))))))));obtain rfl := zJ hr;exact fin_ret (.one (.tmp Z)) (⟨rfl, rfl⟩)
def F1042 (l : List Int) : Option Bool :=
 (FCf l).bind fun v1 =>
 some (!v1)
theorem c1042 {l : List Int} {r_ : Bool} (hr : F1042 l = some r_) : LPure Tryz.prog 115 [.slice 1 (l.map i64P)] [.bool r_] := by
 refine zh Tryz.func115 Z Z Z Z ?_;unfold F1042 at hr;refine zQ (zR (zM Z (zN (zT (zQ (zR (zM Z (zb hr fun v1 h_v1 hr => yS Z (zC Z Z Z (by kernel_rfl) (cFCf h_v1)) (yS Z (LOp.not Z Z) (zM Z (zN (zT (zr ?_)))))))))))));obtain rfl := zJ hr;exact zf (.one (.tmp Z)) zv
def F1026 (a : Int) (b : Int) (c : Int) (d : Int) : Option Bool :=
 (F1042 [a, b, c, d]).bind fun v1 =>
 bif !v1 then
  some false
 else
  (F1043 a b).bind fun v2 =>
  (F1043 c d).bind fun v3 =>
  bif !((v2.1 == v3.1) && ((v2.2 == v3.2) && true)) then
   (F151 [v2.1, v2.2] [v3.1, v3.2]).bind fun v4 =>
   some (decide (v4 > 0))
  else
   some false
theorem c1026 {a : Int} {b : Int} {c : Int} {d : Int} {r_ : Bool} (hr : F1026 a b c d = some r_) : LPure Tryz.prog 62 [.int .i64 a, .int .i64 b, .int .i64 c, .int .i64 d] [.bool r_] := by
 refine zh Tryz.func62 Z Z Z Z ?_;unfold F1026 at hr;refine zQ (zR (zM Z (zN (zT (zQ (zQ (zR (zM Z (zM Z (zM Z (zM Z (yS Z (zB2 Z st49 Z Z Z Z Z) (zb hr fun v1 h_v1 hr => yS Z (zC Z Z Z (by kernel_rfl) (zp (c1042 h_v1) (.cons zv .nil))) (yS Z (LOp.not Z Z) (zN (zT ?_))))))))))))))));refine zX Z (fun g1 => ?_) (fun g1 => ?_)
 ·
  refine zi g1 hr fun hr => zQ (zR (zM Z (zN (zT (zr (thn_r ?_))))));obtain rfl := zJ hr;exact zf (.one (.tmp Z)) zv
 ·
  refine zo g1 hr fun hr => zk (zT (zQ (zR (zM Z (zM Z (zb hr fun v2 h_v2 hr => yS Z (zC Z Z Z (by kernel_rfl) (zp (c1043 h_v2) (.cons zv (.cons zv .nil)))) (zM Z (zM Z (zb hr fun v3 h_v3 hr => yS Z (zC Z Z Z (by kernel_rfl) (zp (c1043 h_v3) (.cons zv (.cons zv .nil)))) (yS Z (ze Z zt1108 Z Z) (yS Z (ze Z zt1108 Z Z) (yS Z (zs Z Z Z Z vt1108 Z Z Z Z) (yS Z (zs Z Z Z Z vt1108 Z Z Z Z) (zN (zT (zQ (LW.draw2 (by kernel_rfl) (by kernel_rfl) (yE Z (zD Z Z Z vt1108 Z Z) (yE Z (zD Z Z Z vt1108 Z Z) (yE Z (LOp.neqAgg Z Z Z Z Z eqt1108) ?_))))))))))))))))))));refine zH Z ?_;refine LO.cases 27 Z (fun (g2 : (!((v2.1 == v3.1) && ((v2.2 == v3.2) && true))) = true) => ?_) (fun (g2 : (!((v2.1 == v3.1) && ((v2.2 == v3.2) && true))) = false) => ?_)
  ·
   refine zi g2 hr fun hr => LO.gd Z Z Z (gd g2 Z) Z (LOp.sliceBox Z Z at1108 Z Z Z) (LO.gd Z Z Z (gd g2 Z) Z (LOp.sliceBox Z Z at1108 Z Z Z) (zb hr fun v4 h_v4 hr => LO.gd Z Z Z (gd g2 Z) Z (zC Z Z Z (by kernel_rfl) (LC.lend (c151 h_v4) (.cons (Conv.boxSlice Z Z Z Z) (.cons (Conv.boxSlice Z Z Z Z) .nil)) Z)) (LO.gd Z Z Z (gd g2 Z) Z (zb2 Z Z Z Z) (yE Z (zpT Z (gdl g2 Z) Z) (zH Z (LO.nil (zT (zr ?_))))))));obtain rfl := zJ hr;exact zf (.one (.tmp Z)) zv
  ·
   refine zo g2 hr fun hr => LO.sk Z Z Z (gd g2 Z) Z Z (LO.sk Z Z Z (gd g2 Z) Z Z (LO.sk Z Z Z (gd g2 Z) Z Z (LO.sk Z Z Z (gd g2 Z) Z Z (yE Z (zpF Z (gdl g2 Z) Z) (zH Z (LO.nil (zT (zr ?_))))))));obtain rfl := zJ hr;exact zf (.one (.tmp Z)) zv
open Go.Proofs
def FQof (c : Cf) (w : Vw) (slot : Int) : Option (List Vt × Int) :=
 (F1064 c w.V slot).bind fun v1 =>
 (F65 c slot).bind fun v2 =>
 (F70 c v2).bind fun v3 =>
 some (v1, v3)
theorem cFQof {c : Cf} {w : Vw} {slot : Int} {r_ : List Vt × Int} (hr : FQof c w slot = some r_) : LC Tryz.prog 59 [.p (cfP c), .p (vwP w), (iQ slot)] [] (Is (.agg [.fn 111 [] [.ptr 0 0, .ptr 1 0, .ptr 3 0], .fn 113 [] [.ptr 0 0, .ptr 4 0]]) [.box (cfO c), .box (vwO w), .box [.fn 111 [] [.ptr 0 0, .ptr 1 0, .ptr 3 0], .fn 113 [] [.ptr 0 0, .ptr 4 0]], .box [(kV r_.1)], .box [(iQ r_.2)]]) := by
 refine zh2 Tryz.func59 Z Z Z ?_;unfold FQof at hr;refine zQ (zR (yS Z (zbx Z Z Z Z Z) (yS Z (zbx Z Z Z Z Z) (yS Z (ze Z zt3157 Z Z) (zN (zT (zQ (LW.ent (Ent.slot Z) (LW.ent (Ent.slot Z) (LW.drawW (by kernel_rfl) (by kernel_rfl) (yF Z (zd Z Z Z vt55 Z Z) Z ?_)))))))))));refine yF (F := []) (s := none) Z (fun H _ => zA Z Z ft75_1) Z ?_;refine yF Z (zd Z Z Z vt68 Z Z) Z (zK Z (zb hr fun v1 h_v1 hr => ?_));refine yF (F := []) (s := none) Z (fun H _ => zC Z Z Z (by kernel_rfl) (zp (c1064 h_v1) (.cons zv (.cons zv (.cons zv .nil))))) Z ?_;refine yF Z (zd Z Z Z vt55 Z Z) Z (yF Z (zd Z Z Z vt55 Z Z) Z (zK Z (zb hr fun v2 h_v2 hr => ?_)));refine yF (F := []) (s := none) Z (fun H _ => zC Z Z Z (by kernel_rfl) (zp (c65 h_v2) (.cons zv (.cons zv .nil)))) Z ?_;obtain ⟨v3, h_v3, hr⟩ := zB hr;refine yF (F := []) (s := none) Z (fun H _ => zC Z Z Z (by kernel_rfl) (zp (c70 h_v3) (.cons zv (.cons zv .nil)))) Z ?_;refine yF Z (LAt.alloc Z zt68 (id := 3) Z) Z (yF Z (LAt.alloc Z zt3 (id := 4) Z) Z (yF Z (zt Z Z Z Z vt68 Z Z Z) Z (yF Z (zt Z Z Z Z vt3 Z Z Z) Z ?_)));refine LF.nil ⟨by kernel_rfl, ?_⟩;refine zT (zQ (zR (yS Z (LOp.makeFunc Z Z Z) (yS Z (LOp.makeFunc Z Z Z) (yS Z (LOp.build Z bt3157 Z Z Z) (yS Z (zs Z Z Z Z vt3157 Z Z Z Z) (zN (zT (zr ?_)))))))));obtain rfl := zJ hr;exact fin_ret (.one (.cellAgg Z Z (by kernel_rfl) Z)) (⟨rfl, rfl⟩)
theorem fFQof {c : Cf} {w : Vw} {slot : Int} {r_ : List Vt × Int} (hr : FQof c w slot = some r_) : LFree Tryz.prog 59 [cfP c, vwP w, .int .i64 slot] (.agg [.fn 111 [] [.cptr [.slice 1 (c.W.map i64P), .int .u64 c.Seed, .int .i64 c.Epoch, .int .i64 c.Num, .int .i64 c.Den], .cptr [.slice 5 (w.B.map blkP), .slice 4 (w.V.map vtP)], .cptr [.slice 4 (r_.1.map vtP)]], .fn 113 [] [.cptr [.slice 1 (c.W.map i64P), .int .u64 c.Seed, .int .i64 c.Epoch, .int .i64 c.Num, .int .i64 c.Den], .cptr [.int .i64 r_.2]]]) :=
 LFree.ofLC rfl (cFQof hr) (FreeTo.agg ⟨FreeTo.fn trivial ⟨FreeTo.ptr rfl rfl rfl, FreeTo.ptr rfl rfl rfl, FreeTo.ptr rfl rfl rfl, trivial⟩, FreeTo.fn trivial ⟨FreeTo.ptr rfl rfl rfl, FreeTo.ptr rfl rfl rfl, trivial⟩, trivial⟩)
def FQon (id : ID) (c : Cf) (w : Vw) (v : List Vt) : Option Int :=
 (F121 c w.B v id).bind fun v1 =>
 some v1
theorem cFQon {id : ID} {c : Cf} {w : Vw} {v : List Vt} {r_ : Int} (hr : FQon id c w v = some r_) : LC Tryz.prog 111 [.p (idP id), .cptr [.slice 1 (c.W.map i64P), .int .u64 c.Seed, .int .i64 c.Epoch, .int .i64 c.Num, .int .i64 c.Den], .cptr [.slice 5 (w.B.map blkP), .slice 4 (w.V.map vtP)], .cptr [.slice 4 (v.map vtP)]] [] (Is (iQ r_) []) := by
 refine zh2 Tryz.func111 Z Z Z ?_;unfold FQon at hr;refine zQ (zR (yS Z (zbx Z Z Z Z Z) (zM Z (zN (zT (zQ (zR (yS Z (zC2 Z Z Z vt55 Z Z) (yS Z (LOp.fieldAddrC Z Z ft75_0 Z) (yS Z (zC2 Z Z Z vt27 Z Z) (yS Z (zC2 Z Z Z vt68 Z Z) (yS Z (zD Z Z Z vt24 Z Z) (zb hr fun v1 h_v1 hr => yS Z (zC Z Z Z (by kernel_rfl) (zp (c121 h_v1) (.cons zv (.cons zv (.cons zv (.cons zv .nil)))))) (zM Z (zN (zT (zr ?_)))))))))))))))));obtain rfl := zJ hr;exact fin_retW (env' := [(5, (iQ v1))]) (H' := []) (zW 0 ⟨rfl, trivial⟩ Z Z Z Z) (.one (.tmp Z)) (⟨rfl, rfl⟩)
def FQsure (n : Int) (c : Cf) (al : Int) : Option Bool :=
 (F1026 (IntKind.i64.wrap (2 * n)) c.Den al (IntKind.i64.wrap (c.Den + (IntKind.i64.wrap (2 * c.Num))))).bind fun v1 =>
 some v1
theorem cFQsure {n : Int} {c : Cf} {al : Int} {r_ : Bool} (hr : FQsure n c al = some r_) : LC Tryz.prog 113 [(iQ n), .cptr [.slice 1 (c.W.map i64P), .int .u64 c.Seed, .int .i64 c.Epoch, .int .i64 c.Num, .int .i64 c.Den], .cptr [.int .i64 al]] [] (Is (bQ r_) []) := by
 refine zh2 Tryz.func113 Z Z Z ?_;unfold FQsure at hr;refine zQ (zR (zM Z (zN (zT (zQ (zR (zM Z (yS Z (zb2 Z Z Z Z) (yS Z (LOp.fieldAddrC Z Z ft55_4 Z) (yS Z (zC2 Z Z Z vt3 Z Z) (yS Z (zC2 Z Z Z vt3 Z Z) (yS Z (LOp.fieldAddrC Z Z ft55_4 Z) (yS Z (zC2 Z Z Z vt3 Z Z) (yS Z (LOp.fieldAddrC Z Z ft55_3 Z) (yS Z (zC2 Z Z Z vt3 Z Z) (yS Z (zb2 Z Z Z Z) (yS Z (zb2 Z Z Z Z) (zb hr fun v1 h_v1 hr => yS Z (zC Z Z Z (by kernel_rfl) (zp (c1026 h_v1) (.cons zv (.cons zv (.cons zv (.cons zv .nil)))))) (zM Z (zN (zT (zr ?_))))))))))))))))))))));obtain rfl := zJ hr;exact fin_ret (.one (.tmp Z)) (⟨rfl, rfl⟩)
structure FTop_L1 where
 l : List ID
 v : List Vt
 al : Int
def FTop_s1 (c : Cf) (w : Vw) (x1 : FTop_L1) : Option (FTop_L1 ⊕ (ID × Bool)) :=
 bif decide ((x1.l.length : Int) < 2) then
  some (.inr ((0, 0), false))
 else
  (ix x1.l 0).bind fun y1 =>
  (FQon y1 c w x1.v).bind fun v2 =>
  (FQsure v2 c x1.al).bind fun v3 =>
  bif v3 then
   (ix x1.l 0).bind fun y2 =>
   some (.inr (y2, true))
  else
   bif inL x1.l 1 x1.l.length then
    some (.inl (FTop_L1.mk (x1.l.drop (1 : Int).toNat) x1.v x1.al))
   else none
def F3099 (c : Cf) (w : Vw) (slot : Int) (head : ID) : Option (ID × Bool) :=
 (FQof c w slot).bind fun v1 =>
 bif few w.B then
  iter (FTop_s1 c w) big (FTop_L1.mk (chainOf w.B head) v1.1 v1.2)
 else none
theorem c3099 {c : Cf} {w : Vw} {slot : Int} {head : ID} {r_ : ID × Bool} (hr : F3099 c w slot head = some r_) : LPure Tryz.prog 24 [cfP c, vwP w, .int .i64 slot, idP head] [idP r_.1, .bool r_.2] := by
 refine zh Tryz.func24 Z Z Z Z ?_;unfold F3099 at hr;refine zQ (zR (yS Z (zbx Z Z Z Z Z) (yS Z (zbx Z Z Z Z Z) (yS Z (zbx Z Z Z Z Z) (yS Z (ze Z zt24 Z Z) (zM Z (zN (zT ?_))))))));refine LW.iterG (step := FTop_s1 c w) (N := big) (b := r_) (E := fun x1 : FTop_L1 => [(8, .ptr 3 0), (9, (bQ false)), (10, .ptr 4 0), (11, .p (.slice 2 (x1.l.map idP)))]) (O := fun x1 => [.box (cfO c), .box (vwO w), .box [(uQ head.1), (uQ head.2)], .box [(uQ 0), (uQ 0)], .box [.fn 111 [] [.cptr [.slice 1 (c.W.map i64P), .int .u64 c.Seed, .int .i64 c.Epoch, .int .i64 c.Num, .int .i64 c.Den], .cptr [.slice 5 (w.B.map blkP), .slice 4 (w.V.map vtP)], .cptr [.slice 4 (x1.v.map vtP)]], .fn 113 [] [.cptr [.slice 1 (c.W.map i64P), .int .u64 c.Seed, .int .i64 c.Epoch, .int .i64 c.Num, .int .i64 c.Den], .cptr [.int .i64 x1.al]]]]) Z ?_ (fun x1 z_x1 hr hb_x1 => ?_)
 ·
  refine LW.ent (Ent.slot Z) (LW.drawW (by kernel_rfl) (by kernel_rfl) (yF Z (zd Z Z Z vt55 Z Z) Z (yF Z (zd Z Z Z vt75 Z Z) Z (zK Z (zb hr fun v1 h_v1 hr => ?_)))));refine yF (F := []) (s := none) Z (fun H _ => zC Z Z Z (by kernel_rfl) (LC.free (fFQof h_v1) (.cons zv (.cons zv (.cons zv .nil))))) Z ?_;refine yF (F := []) (s := none) Z (fun H _ => zA Z Z ft75_0) Z ?_;refine yF Z (zd Z Z Z vt27 Z Z) Z (yF Z (zd Z Z Z vt24 Z Z) Z (zg hr fun q1 hr => ?_));refine yF (F := []) (s := none) Z (fun H _ => zC Z Z Z (by kernel_rfl) (zp (c39 (l := w.B) (id := head) (few_le q1)) (.cons zv (.cons zv .nil)))) Z ?_;refine yF Z (LAt.alloc Z zt3157 (id := 4) Z) Z (yF Z (zt Z Z Z Z vt3157 Z Z Z) Z (zK Z ?_));refine LF.nil ⟨by kernel_rfl, ?_⟩;exact zT (⟨_, hr, zW 5 ⟨rfl, rfl, rfl, rfl, trivial⟩ Z Z Z rfl⟩)
 ·
  unfold FTop_s1 at hr;refine zQ (zQ (zR (zM Z (yS Z (zlM Z Z (by kernel_rfl)) (yS Z (zb2 Z Z Z Z) (zN (zT ?_)))))));refine zX Z (fun g1 => ?_) (fun g1 => ?_)
  ·
   refine zi g1 hr fun hr => zQ (zR (yS Z (LOp.build Z bt24 Z Z Z) (yS Z (zs Z Z Z Z vt24 Z Z Z Z) (zM Z (zN (zT (zr (thn_r (jmp_r ?_)))))))));obtain rfl := zJ hr;have hr := congrArg some (hb_x1 _ rfl);obtain rfl := zJ hr;exact zf (.two (.cellAgg Z Z (by kernel_rfl) Z) (.tmp Z)) (⟨_, rfl, (.cons zv (.cons zv .nil))⟩)
  ·
   refine zo g1 hr fun hr => zk (zT (zQ (zQ (LW.draw2 (by kernel_rfl) (by kernel_rfl) (yE Z (zA Z Z ft3157_1) (yE Z (zD Z Z Z vt131 Z Z) (yE Z (zA Z Z ft3157_0) (yE Z (zD Z Z Z vt3155 Z Z) (zH Z (zb hr fun y1 h_y1 hr => yE Z (zx Z Z Z st31 h_y1 Z) (yE Z (zC2 Z Z Z vt24 Z Z) (zb hr fun v2 h_v2 hr => yE Z (zC Z Z Z (by kernel_rfl) (LC.pre (cFQon h_v2) Z Z Z)) (zb hr fun v3 h_v3 hr => yE Z (zC Z Z Z (by kernel_rfl) (LC.pre (cFQsure h_v3) Z Z Z)) (LO.nil (zT ?_)))))))))))))));refine zX Z (fun g2 => ?_) (fun g2 => ?_)
   ·
    refine zi g2 hr fun hr => zQ (zR (zM Z (zb hr fun y2 h_y2 hr => yS Z (zx Z Z Z st31 h_y2 Z) (yS Z (zC2 Z Z Z vt24 Z Z) (yS Z (zs Z Z Z Z vt24 Z Z Z Z) (zM Z (zN (zT (zr (thn_r (jmp_r ?_)))))))))));obtain rfl := zJ hr;have hr := congrArg some (hb_x1 _ rfl);obtain rfl := zJ hr;exact zf (.two (.cellAgg Z Z (by kernel_rfl) Z) (.tmp Z)) (⟨_, rfl, (.cons zv (.cons zv .nil))⟩)
   ·
    refine zo g2 hr fun hr => zk (zT (zQ (zR (zM Z (zg hr fun q2 hr => yS Z (LOp.sliceLo Z Z Z st31 q2) (zM Z (zN (zT (LW.goto (jmp_g ?_))))))))));obtain rfl := zJ hr;exact ⟨_, rfl, zW 5 ⟨rfl, rfl, rfl, rfl, trivial⟩ Z Z Z rfl⟩
open Go.Proofs
def F131 (v : Vt) (sm : List (ID × Int)) : Option Bool :=
 bif !((findE sm v.Head).isSome) then
  some true
 else
  some (decide (((findE sm v.Head).getD 0) > v.Slot))
theorem cF131 {v : Vt} {w : Vw} {sm : List (ID × Int)} {hm : List (Vt × Bool)} {r_ : Bool} (hr : F131 v sm = some r_) : LC Tryz.prog 189 [.p (vtP v), .ptr 9 0] [.dead, .box (vwO w), .dead, .dead, .dead, .dead, (mQ sm), (mR hm), .box [(jB 4 w.B), (jV 5 w.V), .map 6, .map 7, (iQ 0), (bQ false)], .box [.ptr 8 0]] (Is (bQ r_) [.dead, .box (vwO w), .dead, .dead, .dead, .dead, (mQ sm), (mR hm), .box [(jB 4 w.B), (jV 5 w.V), .map 6, .map 7, (iQ 0), (bQ false)], .box [.ptr 8 0]]) := by
 refine zh2 Tryz.func189 Z Z Z ?_;unfold F131 at hr;refine zQ (zR (yS Z (zbx Z Z Z Z Z) (zM Z (zN (zT (zQ (LW.draw2 (by kernel_rfl) (by kernel_rfl) (yE Z (zD Z Z Z vt145 Z Z) (yE Z (zn Z Z) (yE Z (zA Z Z ft149_1) (yE Z (zD Z Z Z vt91 Z Z) (yE Z (zA Z Z ft82_2) (yE Z (zD Z Z Z vt24 Z Z) ?_)))))))))))));refine yE Z (LOp.getX (f := idP) (g := (fun v => (iQ v))) v.Head 0 idKey Z Z Z Z mt91 zl3 Z Z) ?_;refine zH Z (yE Z (zX2 Z Z Z) (yE Z (zX2 Z Z Z) (zH Z (zH Z (LO.nil (zT (zQ (zR (zM Z (yS Z (LOp.not Z Z) (zM Z ?_)))))))))));refine zc 18 Z (fun g1 => ?_) (fun g1 => ?_)
 ·
  refine zi g1 hr fun hr => yU Z (gd g1 Z) Z (yU Z (gd g1 Z) Z (yU Z (gd g1 Z) Z (yU Z (gd g1 Z) Z (yS Z (zpT Z (gdl g1 Z) Z) (zM Z (zN (zT (zr ?_))))))));obtain rfl := zJ hr;refine fin_retW (env' := [(3, (bQ true))]) (H' := [.dead, .box (vwO w), .dead, .dead, .dead, .dead, (mQ sm), (mR hm), .box [(jB 4 w.B), (jV 5 w.V), .map 6, .map 7, (iQ 0), (bQ false)], .box [.ptr 8 0]]) (zW 10 ⟨rfl, trivial⟩ Z Z Z (zL Z (zL Z (zL Z (zL Z (zL Z (zL Z (zL (entsLow (fun _ => rfl) _) (zL (entsLow (fun _ => rfl) _) (zL Z (zL Z Z))))))))))) (.one (.tmp Z)) ?_;exact ⟨rfl, rfl⟩
 ·
  refine zo g1 hr fun hr => yV Z (gd g1 Z) (zm Z Z) (yV Z (gd g1 Z) (zA Z Z ft82_1) (yV Z (gd g1 Z) (zD Z Z Z vt3 Z Z) (yV Z (gd g1 Z) (zb2 Z Z Z Z) (yS Z (zpF Z (gdl g1 Z) Z) (zM Z (zN (zT (zr ?_))))))));obtain rfl := zJ hr;refine fin_retW (env' := [(3, .p (.bool (decide (((findE sm v.Head).getD 0) > v.Slot))))]) (H' := [.dead, .box (vwO w), .dead, .dead, .dead, .dead, (mQ sm), (mR hm), .box [(jB 4 w.B), (jV 5 w.V), .map 6, .map 7, (iQ 0), (bQ false)], .box [.ptr 8 0]]) (zW 10 ⟨rfl, trivial⟩ Z Z Z (zL Z (zL Z (zL Z (zL Z (zL Z (zL Z (zL (entsLow (fun _ => rfl) _) (zL (entsLow (fun _ => rfl) _) (zL Z (zL Z Z))))))))))) (.one (.tmp Z)) ?_;exact ⟨rfl, rfl⟩
structure F158M_L1 where
 t8 : Int
def F158M_s1 (l : List Vt) (sm : List (ID × Int)) (x1 : F158M_L1) : Option (F158M_L1 ⊕ (F158M_L1 ⊕ Int)) :=
 bif decide (x1.t8 < (l.length : Int)) then
  (ix l x1.t8).bind fun y1 =>
  (F131 y1 sm).bind fun v2 =>
  bif v2 then
   some (.inr (.inr x1.t8))
  else
   some (.inl (F158M_L1.mk (IntKind.i64.wrap (x1.t8 + 1))))
 else
  some (.inr (.inl (F158M_L1.mk x1.t8)))
def F158M (l : List Vt) (sm : List (ID × Int)) : Option Int :=
 (iter (F158M_s1 l sm) big (F158M_L1.mk 0)).bind fun b_v1 => Sum.elim (fun _ =>
  some (-1)) some b_v1
theorem cF158M {l : List Vt} {w : Vw} {sm : List (ID × Int)} {hm : List (Vt × Bool)} {r_ : Int} (hr : F158M l sm = some r_) : LC Tryz.prog 170 [(kV l), .fn 189 [] [.ptr 9 0]] [.dead, .box (vwO w), .dead, .dead, .dead, .dead, (mQ sm), (mR hm), .box [(jB 4 w.B), (jV 5 w.V), .map 6, .map 7, (iQ 0), (bQ false)], .box [.ptr 8 0]] (Is (iQ r_) [.dead, .box (vwO w), .dead, .dead, .dead, .dead, (mQ sm), (mR hm), .box [(jB 4 w.B), (jV 5 w.V), .map 6, .map 7, (iQ 0), (bQ false)], .box [.ptr 8 0]]) := by
 refine zh2 Tryz.func170 Z Z Z ?_;unfold F158M at hr;refine zQ (zR (zM Z (zN (zT (zQ (zQ (zR (zM Z (yS Z (zlM Z Z (by kernel_rfl)) (zM Z (zN (zT ?_))))))))))));obtain ⟨b_v1, hb_v1, ho_v1⟩ := zB hr;clear hr;refine LW.tailB (b := b_v1) (E := fun v1 => [(4, (iQ 0))]) (O := fun v1 => [.dead, .box (vwO w), .dead, .dead, .dead, .dead, (mQ sm), (mR hm), .box [(jB 4 w.B), (jV 5 w.V), .map 6, .map 7, (iQ 0), (bQ false)], .box [.ptr 8 0]]) ?_ (fun v1 e_v1 env_v1 H_v1 hw_v1 => ?_)
 ·refine LW.block ?_;refine LW.iterB (E := fun x1 : F158M_L1 => [(0, (kV l)), (1, .fn 189 [] [.ptr 9 0]), (4, (iQ 0)), (7, .p (.int .i64 (l.length : Int))), (8, (iQ x1.t8))]) (O := fun x1 => [.dead, .box (vwO w), .dead, .dead, .dead, .dead, (mQ sm), (mR hm), .box [(jB 4 w.B), (jV 5 w.V), .map 6, .map 7, (iQ 0), (bQ false)], .box [.ptr 8 0]]) hb_v1 (zW 10 ⟨rfl, rfl, rfl, rfl, rfl, trivial⟩ Z Z Z (zL Z (zL Z (zL Z (zL Z (zL Z (zL Z (zL (entsLow (fun _ => rfl) _) (zL (entsLow (fun _ => rfl) _) (zL Z (zL Z Z))))))))))) (fun x1 z_x1 hr hb_x1 => ?_);unfold F158M_s1 at hr;refine zQ (zR (yS Z (zb2 Z Z Z Z) (zN (zT (zQ ?_)))));refine zX Z (fun g1 => ?_) (fun g1 => ?_)
  ·
   refine zi g1 hr fun hr => zk (zT (zQ (zl (zQ (zR (zM Z (zM Z (zN (zT (zQ (zR (zM Z (zM Z (zM Z (zb hr fun y1 h_y1 hr => yS Z (zx Z Z Z st68 h_y1 Z) (yS Z (zC2 Z Z Z vt82 Z Z) (zb hr fun v2 h_v2 hr => yS Z (zC Z Z Z (by kernel_rfl) (cF131 h_v2)) (zN (zT ?_)))))))))))))))))));refine zX Z (fun g2 => ?_) (fun g2 => ?_)
   ·
    refine zi g2 hr fun hr => zQ (zR (zM Z (zM Z (zN (zT (zr (inBlk_r (thn_r (thn_r (inBlk_r (thn_r (thn_r ?_))))))))))));obtain rfl := zJ hr;have hr := congrArg some (hb_x1 _ rfl);obtain rfl := zJ hr;have hr := sum_r ho_v1;obtain rfl := zJ hr;exact fin_ret (.one (.tmp Z)) (⟨rfl, rfl⟩)
   ·
    refine zo g2 hr fun hr => zk (inBlk_n (zT (zR (yS Z (zb2 Z Z Z Z) (zM Z (zN (zT ?_)))))));obtain rfl := zJ hr;exact ⟨_, rfl, zW 10 ⟨rfl, rfl, rfl, rfl, rfl, trivial⟩ Z Z Z (zL Z (zL Z (zL Z (zL Z (zL Z (zL Z (zL (entsLow (fun _ => rfl) _) (zL (entsLow (fun _ => rfl) _) (zL Z (zL Z Z))))))))))⟩
  ·
   refine zo g1 hr fun hr => zq (thn_e (thn_e (zy (zT ?_))));obtain rfl := zJ hr;have hr := congrArg some (hb_x1 _ rfl);obtain rfl := zJ hr;exact ⟨_, rfl, zW 10 ⟨rfl, trivial⟩ Z Z Z (zL Z (zL Z (zL Z (zL Z (zL Z (zL Z (zL (entsLow (fun _ => rfl) _) (zL (entsLow (fun _ => rfl) _) (zL Z (zL Z Z))))))))))⟩
 ·obtain rfl := e_v1;have hr := sum_l ho_v1;clear hb_v1;refine zT (LW.weak hw_v1 (zQ (zR (zM Z (zN (zT (zr ?_)))))));obtain rfl := zJ hr;exact fin_ret (.one (.tmp Z)) (⟨rfl, rfl⟩)
def F132 (l : List Vt) (sm : List (ID × Int)) : Option Bool :=
 (F158M l sm).bind fun v1 =>
 some (decide (v1 ≥ 0))
theorem cF132 {l : List Vt} {w : Vw} {sm : List (ID × Int)} {hm : List (Vt × Bool)} {r_ : Bool} (hr : F132 l sm = some r_) : LC Tryz.prog 190 [(kV l), .fn 189 [] [.ptr 9 0]] [.dead, .box (vwO w), .dead, .dead, .dead, .dead, (mQ sm), (mR hm), .box [(jB 4 w.B), (jV 5 w.V), .map 6, .map 7, (iQ 0), (bQ false)], .box [.ptr 8 0]] (Is (bQ r_) [.dead, .box (vwO w), .dead, .dead, .dead, .dead, (mQ sm), (mR hm), .box [(jB 4 w.B), (jV 5 w.V), .map 6, .map 7, (iQ 0), (bQ false)], .box [.ptr 8 0]]) := by
 refine zh2 Tryz.func190 Z Z Z ?_;unfold F132 at hr;refine zQ (zR (zM Z (zN (zT (zQ (zR (zM Z (zM Z (zb hr fun v1 h_v1 hr => yS Z (zC Z Z Z (by kernel_rfl) (cF158M h_v1)) (yS Z (zb2 Z Z Z Z) (zM Z (zN (zT (zr ?_))))))))))))));obtain rfl := zJ hr;exact fin_ret (.one (.tmp Z)) (⟨rfl, rfl⟩)
def F89 (c : Cf) (w : Vw) : Option Bool :=
 (
  (F64 c).bind fun v2 =>
  bif !v2 then
   some true
  else
   (F52 w.B).bind fun v3 =>
   bif !v3 then
    some true
   else
    bif decide ((w.B.length : Int) > 60) then
     some true
    else
     some (decide ((w.V.length : Int) > 240))
 ).bind fun v1 =>
 bif v1 then
  some false
 else
  (F85 c w).bind fun v4 =>
  (
   bif (v4.B.length : Int) != (w.B.length : Int) then
    some true
   else
    some ((v4.V.length : Int) != (w.V.length : Int))
  ).bind fun v5 =>
  bif v5 then
   some false
  else
   (F130 w 0).bind fun v6 =>
   bif fewE v6.2 then
    bif (v6.2.length : Int) == (w.V.length : Int) then
     (F132 w.V v6.1).bind fun v7 =>
     some (!v7)
    else
     some false
   else none
theorem c89 {c : Cf} {w : Vw} {r_ : Bool} (hr : F89 c w = some r_) : LPure Tryz.prog 178 [cfP c, vwP w] [.bool r_] := by
 refine zh Tryz.func178 Z Z Z Z ?_;unfold F89 at hr;refine zQ (zR (yS Z (zbx Z Z Z Z Z) (yS Z (zbx Z Z Z Z Z) (zM Z (zN (zT (zQ ?_)))))));obtain ⟨v1, hb_v1, ho_v1⟩ := zB hr;clear hr;refine LW.cut (E := [(2, .ptr 0 0), (3, .ptr 1 0), (4, (bQ false)), (28, (bQ v1))]) (O := [.box (cfO c), .box (vwO w)]) ?_ ?_
 ·have hr := hb_v1;refine zR (yS Z (zD Z Z Z vt55 Z Z) (zb hr fun v2 h_v2 hr => yS Z (zC Z Z Z (by kernel_rfl) (zp (c64 h_v2) (.cons zv .nil))) (yS Z (LOp.not Z Z) (zM Z ?_))));refine zc 11 Z (fun g1 => ?_) (fun g1 => ?_)
  ·
   refine zi g1 hr fun hr => yU Z (gd g1 Z) Z (yU Z (gd g1 Z) Z (yU Z (gd g1 Z) Z (yU Z (gd g1 Z) Z (yS Z (zpT Z (gdl g1 Z) Z) (zM Z (yU Z Z Z (yU Z Z Z (yU Z Z Z (yU Z Z Z (yS Z (zpT Z Z Z) (zM Z (yU Z Z Z (yU Z Z Z (yU Z Z Z (yU Z Z Z (yS Z (zpT Z Z Z) (zN (zT ?_))))))))))))))))));obtain rfl := zJ hr;exact zW 2 ⟨Z, Z, Z, Z, trivial⟩ Z Z Z Z
  ·
   refine zo g1 hr fun hr => yV Z (gd g1 Z) (zA Z Z ft75_0) (yV Z (gd g1 Z) (zD Z Z Z vt27 Z Z) (zb hr fun v3 h_v3 hr => yV Z (gd g1 Z) (zC Z Z Z (by kernel_rfl) (zp (c52 h_v3) (.cons zv .nil))) (yV Z (gd g1 Z) (LOp.not Z Z) (yS Z (zpF Z (gdl g1 Z) Z) (zM Z ?_)))));refine zc 17 Z (fun g2 => ?_) (fun g2 => ?_)
   ·
    refine zi g2 hr fun hr => yU Z (gd g2 Z) Z (yU Z (gd g2 Z) Z (yU Z (gd g2 Z) Z (yU Z (gd g2 Z) Z (yS Z (zpT Z (gdl g2 Z) Z) (zM Z (yU Z Z Z (yU Z Z Z (yU Z Z Z (yU Z Z Z (yS Z (zpT Z Z Z) (zN (zT ?_))))))))))));obtain rfl := zJ hr;exact zW 2 ⟨Z, Z, Z, Z, trivial⟩ Z Z Z Z
   ·
    refine zo g2 hr fun hr => yV Z (gd g2 Z) (zA Z Z ft75_0) (yV Z (gd g2 Z) (zD Z Z Z vt27 Z Z) (yV Z (gd g2 Z) (zlM Z Z (by kernel_rfl)) (yV Z (gd g2 Z) (zb2 Z Z Z Z) (yS Z (zpF Z (gdl g2 Z) Z) (zM Z ?_)))));refine zc 23 Z (fun g3 => ?_) (fun g3 => ?_)
    ·
     refine zi g3 hr fun hr => yU Z (gd g3 Z) Z (yU Z (gd g3 Z) Z (yU Z (gd g3 Z) Z (yU Z (gd g3 Z) Z (yS Z (zpT Z (gdl g3 Z) Z) (zN (zT ?_))))));obtain rfl := zJ hr;exact zW 2 ⟨Z, Z, Z, Z, trivial⟩ Z Z Z Z
    ·
     refine zo g3 hr fun hr => yV Z (gd g3 Z) (zA Z Z ft75_1) (yV Z (gd g3 Z) (zD Z Z Z vt68 Z Z) (yV Z (gd g3 Z) (zlM Z Z (by kernel_rfl)) (yV Z (gd g3 Z) (zb2 Z Z Z Z) (yS Z (zpF Z (gdl g3 Z) Z) (zN (zT ?_))))));obtain rfl := zJ hr;exact zW 2 ⟨Z, Z, Z, Z, trivial⟩ Z Z Z Z
 ·have hr := ho_v1;clear hb_v1;refine zX Z (fun g4 => ?_) (fun g4 => ?_)
  ·
   refine zi g4 hr fun hr => zQ (zR (zM Z (zN (zT (zr (thn_r ?_))))));obtain rfl := zJ hr;exact zf (.one (.tmp Z)) zv
  ·
   refine zo g4 hr fun hr => zk (zT (zQ (zR (yS Z (zD Z Z Z vt55 Z Z) (yS Z (zD Z Z Z vt75 Z Z) (zb hr fun v4 h_v4 hr => yS Z (zC Z Z Z (by kernel_rfl) (zp (c85 h_v4) (.cons zv (.cons zv .nil)))) (yS Z (ze Z zt75 Z Z) (yS Z (zs Z Z Z Z vt75 Z Z Z Z) (zN (zT (zQ ?_)))))))))));obtain ⟨v5, hb_v5, ho_v5⟩ := zB hr;clear hr;refine LW.cut (E := [(3, .ptr 1 0), (4, (bQ false)), (47, (bQ v5))]) (O := [.box (cfO c), .box (vwO w), .box (vwO v4)]) ?_ ?_
   ·have hr := hb_v5;refine zR (yS Z (zA Z Z ft75_0) (yS Z (zD Z Z Z vt27 Z Z) (yS Z (zlM Z Z (by kernel_rfl)) (yS Z (zA Z Z ft75_0) (yS Z (zD Z Z Z vt27 Z Z) (yS Z (zlM Z Z (by kernel_rfl)) (yS Z (zb2 Z Z Z Z) (zM Z ?_))))))));refine zc 39 Z (fun g5 => ?_) (fun g5 => ?_)
    ·
     refine zi g5 hr fun hr => yU Z (gd g5 Z) Z (yU Z (gd g5 Z) Z (yU Z (gd g5 Z) Z (yU Z (gd g5 Z) Z (yU Z (gd g5 Z) Z (yU Z (gd g5 Z) Z (yU Z (gd g5 Z) Z (yS Z (zpT Z (gdl g5 Z) Z) (zN (zT ?_)))))))));obtain rfl := zJ hr;exact zW 3 ⟨Z, Z, Z, trivial⟩ Z Z Z Z
    ·
     refine zo g5 hr fun hr => yV Z (gd g5 Z) (zA Z Z ft75_1) (yV Z (gd g5 Z) (zD Z Z Z vt68 Z Z) (yV Z (gd g5 Z) (zlM Z Z (by kernel_rfl)) (yV Z (gd g5 Z) (zA Z Z ft75_1) (yV Z (gd g5 Z) (zD Z Z Z vt68 Z Z) (yV Z (gd g5 Z) (zlM Z Z (by kernel_rfl)) (yV Z (gd g5 Z) (zb2 Z Z Z Z) (yS Z (zpF Z (gdl g5 Z) Z) (zN (zT ?_)))))))));obtain rfl := zJ hr;exact zW 3 ⟨Z, Z, Z, trivial⟩ Z Z Z Z
   ·have hr := ho_v5;clear hb_v5;refine zX Z (fun g6 => ?_) (fun g6 => ?_)
    ·
     refine zi g6 hr fun hr => zQ (zR (zM Z (zN (zT (zr (thn_r ?_))))));obtain rfl := zJ hr;exact zf (.one (.tmp Z)) zv
    ·
     refine zo g6 hr fun hr => zk (zT (zQ (zR (yS Z (zD Z Z Z vt75 Z Z) (zb hr fun v6 h_v6 hr => yS Z (zC Z Z Z (by kernel_rfl) (LC.frameX (x' := .ptr 8 0) (H' := [.box (cfO c), .box (vwO w), .box (vwO v4), .box (vwO w), .vec 5 (w.B.map blkP), .vec 4 (w.V.map vtP), (mQ v6.1), (mR v6.2), .box [(jB 4 w.B), (jV 5 w.V), .map 6, .map 7, (iQ 0), (bQ false)]]) (cF130 h_v6) (.consC zv (.consC zv .nil)) Z Z (by simp only [List.map_cons, List.map_nil, List.cons_append, List.nil_append, LObj.shift, LV.shifts, LV.shift, entsShI, entsShB] <;> rfl))) (yS Z (ze Z zt145 Z Z) (yS Z (zs Z Z Z Z vt145 Z Z Z Z) (zN (zT (zQ (LW.ent (Ent.kill (i := 0) Z) (LW.ent (Ent.kill (i := 2) Z) (LW.ent (Ent.kill (i := 3) Z) (LW.ent (Ent.kill (i := 4) Z) (LW.ent (Ent.kill (i := 5) Z) (zR (yS Z (LOp.makeFunc Z Z Z) (zM Z (zN (zT (zQ ?_)))))))))))))))))))));refine LW.draw2 (by kernel_rfl) (by kernel_rfl) (yE Z (zD Z Z Z vt145 Z Z) (yE Z (zn Z Z) (yE Z (zA Z Z ft149_2) (yE Z (zD Z Z Z vt147 Z Z) (zg hr fun q1 hr => yE Z (LOp.lenMapX Z Z Z (by kernel_rfl) q1) (yE Z (zA Z Z ft75_1) (yE Z (zD Z Z Z vt68 Z Z) (yE Z (zlM Z Z (by kernel_rfl)) (yE Z (zb2 Z Z Z Z) (zH Z ?_))))))))));refine LO.cases 60 Z (fun (g7 : ((v6.2.length : Int) == (w.V.length : Int)) = true) => ?_) (fun (g7 : ((v6.2.length : Int) == (w.V.length : Int)) = false) => ?_)
     ·
      refine zi g7 hr fun hr => LO.gd Z Z Z (gd g7 Z) Z (zA Z Z ft75_1) (LO.gd Z Z Z (gd g7 Z) Z (zD Z Z Z vt68 Z Z) (LO.gd Z Z Z (gd g7 Z) Z (zm Z Z) (zb hr fun v7 h_v7 hr => LO.gd Z Z Z (gd g7 Z) Z (zC Z Z Z (by kernel_rfl) (cF132 h_v7)) (LO.gd Z Z Z (gd g7 Z) Z (LOp.not Z Z) (yE Z (zpT Z (gdl g7 Z) Z) (zH Z (LO.nil (zT (zr ?_)))))))));obtain rfl := zJ hr;exact zf (.one (.tmp Z)) zv
     ·
      refine zo g7 hr fun hr => LO.sk Z Z Z (gd g7 Z) Z Z (LO.sk Z Z Z (gd g7 Z) Z Z (LO.sk Z Z Z (gd g7 Z) Z Z (LO.sk Z Z Z (gd g7 Z) Z Z (LO.sk Z Z Z (gd g7 Z) Z Z (yE Z (zpF Z (gdl g7 Z) Z) (zH Z (LO.nil (zT (zr ?_)))))))));obtain rfl := zJ hr;exact zf (.one (.tmp Z)) zv
open Go.Proofs
structure F90_L1 where
 n : Int
 o6 : List Bk
 o7 : List Vt
 o8 : List (ID × Int)
 o9 : List (Vt × Bool)
 x_5 : Bool
 o14 : List Bk
 o15 : List Vt
 left_0 : Nat
 left_1 : Nat
def F90_s1 (slot : Int) (x1 : F90_L1) : Option (F90_L1 ⊕ F90_L1) :=
 bif x1.n != (IntKind.i64.wrap ((x1.o6.length : Int) + (x1.o7.length : Int))) then
  (F137 x1.o14 x1.left_0 x1.o6 x1.o8 slot x1.x_5).bind fun v5 =>
  (F138 x1.o15 x1.left_1 x1.o7 v5.2.2.2.1 x1.o9 slot v5.2.2.2.2).bind fun v6 =>
  some (.inl (F90_L1.mk (IntKind.i64.wrap ((x1.o6.length : Int) + (x1.o7.length : Int))) v5.2.2.1 v6.2.2.1 v5.2.2.2.1 v6.2.2.2.1 v6.2.2.2.2 v5.2.1 v6.2.1 v5.1 v6.1))
 else
  some (.inr (F90_L1.mk x1.n x1.o6 x1.o7 x1.o8 x1.o9 x1.x_5 x1.o14 x1.o15 x1.left_0 x1.left_1))
def F90 (c : Cf) (w : Vw) (v_in : Vw) (slot : Int) : Option (Vw × Vw × Bool) :=
 (F130 w slot).bind fun v1 =>
 (F89 c w).bind fun v2 =>
 bif !v2 then
  bif room 0 v_in.B.length 40 then
   bif room 0 v_in.V.length 32 then
    some (w, v_in, false)
   else none
  else none
 else
  (F85V c v_in).bind fun v3 =>
  (iter (F90_s1 slot) big (F90_L1.mk (-1) w.B w.V v1.1 v1.2 false v3.1 v3.2 ((v3.1.map blkP).length) ((v3.2.map vtP).length))).bind fun v4 =>
  bif Nat.ble v4.left_0 v4.o14.length then
   bif Nat.ble v4.left_1 v4.o15.length then
    some (Vw.mk v4.o6 v4.o7, Vw.mk (v4.o14.take v4.left_0) (v4.o15.take v4.left_1), v4.x_5)
   else none
  else none
theorem c90 {c : Cf} {w : Vw} {v_in : Vw} {slot : Int} {r_ : Vw × Vw × Bool} (hr : F90 c w v_in slot = some r_) : LPure Tryz.prog 164 [cfP c, vwP w, vwP v_in, .int .i64 slot] [vwP r_.1, vwP r_.2.1, .bool r_.2.2] := by
 refine zh Tryz.func164 Z Z Z Z ?_;unfold F90 at hr;refine zQ (zR (yS Z (zbx Z Z Z Z Z) (yS Z (zbx Z Z Z Z Z) (yS Z (zbx Z Z Z Z Z) (yS Z (ze Z zt75 Z Z) (yS Z (ze Z zt75 Z Z) (zM Z (zN (zT (zQ (zR (yS Z (zD Z Z Z vt75 Z Z) (zM Z (zb hr fun v1 h_v1 hr => yS Z (zC Z Z Z (by kernel_rfl) (LC.frameX (x' := .ptr 10 0) (H' := [.box (cfO c), .box (vwO w), .box (vwO v_in), .box [.zs, .zs], .box [.zs, .zs], .box (vwO w), .vec 5 (w.B.map blkP), .vec 4 (w.V.map vtP), (mQ v1.1), (mR v1.2), .box [(jB 6 w.B), (jV 7 w.V), .map 8, .map 9, (iQ slot), (bQ false)]]) (cF130 h_v1) (.consC zv (.consC zv .nil)) Z Z (by simp only [List.map_cons, List.map_nil, List.cons_append, List.nil_append, LObj.shift, LV.shifts, LV.shift, entsShI, entsShB] <;> rfl))) (zM Z (zN (zT (zQ (zQ (zR (yS Z (zD Z Z Z vt55 Z Z) (yS Z (zD Z Z Z vt75 Z Z) ?_))))))))))))))))))))));refine zb hr fun v2 h_v2 hr => yS Z (zC Z Z Z (by kernel_rfl) (zp (c89 h_v2) (.cons zv (.cons zv .nil)))) (yS Z (LOp.not Z Z) (zN (zT ?_)));refine zX Z (fun g1 => ?_) (fun g1 => ?_)
 ·
  refine zi g1 hr fun hr => zQ (LW.ent (Ent.slot Z) (LW.ent (Ent.slot Z) (LW.drawW (by kernel_rfl) (by kernel_rfl) (zK Z ?_))));refine yF (F := []) (s := none) Z (fun H _ => zn Z Z) Z ?_;refine yF (F := []) (s := none) Z (fun H _ => zA Z Z ft149_0) Z ?_;refine yF Z (zd Z Z Z vt75 Z Z) Z ?_;refine yF (F := []) (s := none) Z (fun H _ => zA Z Z ft75_0) Z ?_;refine yF Z (zd Z Z Z vt27 Z Z) Z (zg hr fun q1 hr => ?_);refine yF Z (LAt.callV (id := 11) (qs := [(kB v_in.B)]) Z Z Z (by kernel_rfl) (c133V q1) (fun H => (.consC zv .nil)) Z) Z ?_;refine yF (F := []) (s := none) Z (fun H _ => zA Z Z ft75_1) Z ?_;refine yF Z (zd Z Z Z vt68 Z Z) Z (zg hr fun q2 hr => ?_);refine yF Z (LAt.callV (id := 12) (qs := [(kV v_in.V)]) Z Z Z (by kernel_rfl) (c134V q2) (fun H => (.consC zv .nil)) Z) Z ?_;refine yF (F := []) (s := none) Z (fun H _ => LOp.build Z bt75 Z Z Z) Z ?_;refine yF Z (zt Z Z Z Z vt75 Z Z Z) Z (yF Z (zt Z Z Z Z vt75 Z Z Z) Z (zK Z ?_));refine LF.nil ⟨by kernel_rfl, ?_⟩;refine zT (zr (thn_r ?_));obtain rfl := zJ hr;exact zf (.three (.cellAgg Z Z (by kernel_rfl) Z) (.cellAgg Z Z (by kernel_rfl) Z) (.tmp Z)) (⟨_, rfl, (.cons (Conv.agg (.cons (Conv.vecAll Z Z Z) (.cons (Conv.vecAll Z Z Z) .nil))) (.cons (Conv.agg (.cons (Conv.vecAll Z Z Z) (.cons (Conv.vecAll Z Z Z) .nil))) (.cons zv .nil)))⟩)
 ·
  refine zo g1 hr fun hr => zk (zT (zQ (zR (zM Z (yS Z (LOp.makeFunc Z Z Z) (zM Z (yS Z (LOp.makeFunc Z Z Z) (zM Z (zM Z (zN (zT (zQ (zR (yS Z (zD Z Z Z vt55 Z Z) (yS Z (zD Z Z Z vt75 Z Z) (zb hr fun v3 h_v3 hr => ?_))))))))))))))));refine yS Z (zC Z Z Z (by kernel_rfl) (LC.frameX (x' := .agg [(jB 14 v3.1), (jV 15 v3.2)]) (H' := [.box (cfO c), .box (vwO w), .box (vwO v_in), .box [.zs, .zs], .box [.zs, .zs], .box (vwO w), .vec 5 (w.B.map blkP), .vec 4 (w.V.map vtP), (mQ v1.1), (mR v1.2), .box [(jB 6 w.B), (jV 7 w.V), .map 8, .map 9, (iQ slot), (bQ false)], .box (cfO c), .box (vwO v_in), .box [(jB 14 v3.1), (jV 15 v3.2)], .vec 5 (v3.1.map blkP), .vec 4 (v3.2.map vtP)]) (cF85V h_v3) (.consC zv (.consC zv .nil)) Z Z (by simp only [List.map_cons, List.map_nil, List.cons_append, List.nil_append, LObj.shift, LV.shifts, LV.shift] <;> rfl))) ?_;refine yS Z (ze Z zt75 Z Z) (yS Z (zs Z Z Z Z vt75 Z Z Z Z) (zN (zT (zQ (zQ (LW.ent (Ent.kill (i := 0) Z) (LW.ent (Ent.kill (i := 1) Z) (LW.ent (Ent.kill (i := 2) Z) (LW.ent (Ent.kill (i := 5) Z) (LW.ent (Ent.kill (i := 11) Z) (LW.ent (Ent.kill (i := 12) Z) (LW.ent (Ent.kill (i := 13) Z) (zR (zM Z (zN (zT ?_))))))))))))))));obtain ⟨v4, hb_v4, ho_v4⟩ := zB hr;clear hr;refine LW.tail (E := [(8, .ptr 3 0), (9, .ptr 4 0), (10, (bQ false)), (11, .ptr 10 0), (14, .ptr 16 0)]) (O := [.dead, .dead, .dead, .box [.zs, .zs], .box [.zs, .zs], .dead, .vec 5 (v4.o6.map blkP), .vec 4 (v4.o7.map vtP), (mQ v4.o8), (mR v4.o9), .box [(jB 6 v4.o6), (jV 7 v4.o7), .map 8, .map 9, (iQ slot), (bQ v4.x_5)], .dead, .dead, .dead, .vec 5 (v4.o14.map blkP), .vec 4 (v4.o15.map vtP), .box [.vec 5 14 (v4.o14.map blkP).length 0 v4.left_0, .vec 4 15 (v4.o15.map vtP).length 0 v4.left_1]]) ?_ (fun env_v4 H_v4 hw_v4 => ?_)
  ·refine LW.block ?_;refine LW.iterB (E := fun x1 : F90_L1 => [(8, .ptr 3 0), (9, .ptr 4 0), (10, (bQ false)), (11, .ptr 10 0), (12, .fn 179 [.ptr 10 0] []), (13, .fn 180 [.ptr 10 0] []), (14, .ptr 16 0), (15, (iQ x1.n))]) (O := fun x1 => [.dead, .dead, .dead, .box [.zs, .zs], .box [.zs, .zs], .dead, .vec 5 (x1.o6.map blkP), .vec 4 (x1.o7.map vtP), (mQ x1.o8), (mR x1.o9), .box [(jB 6 x1.o6), (jV 7 x1.o7), .map 8, .map 9, (iQ slot), (bQ x1.x_5)], .dead, .dead, .dead, .vec 5 (x1.o14.map blkP), .vec 4 (x1.o15.map vtP), .box [.vec 5 14 (x1.o14.map blkP).length 0 x1.left_0, .vec 4 15 (x1.o15.map vtP).length 0 x1.left_1]]) hb_v4 (zW 17 ⟨rfl, rfl, rfl, rfl, rfl, rfl, rfl, rfl, trivial⟩ Z Z Z (zL Z (zL Z (zL Z (zL Z (zL Z (zL Z (zL Z (zL Z (zL (entsLow (fun _ => rfl) _) (zL (entsLow (fun _ => rfl) _) (zL Z (zL Z (zL Z (zL Z (zL Z (zL Z (zL Z Z)))))))))))))))))) (fun x1 z_x1 hr hb_x1 => ?_);unfold F90_s1 at hr;refine zQ (zQ (LW.draw2 (by kernel_rfl) (by kernel_rfl) (zH Z (zH Z (yE Z (zn Z Z) (yE Z (zA Z Z ft149_0) (yE Z (zA Z Z ft75_0) (yE Z (zD Z Z Z vt27 Z Z) (yE Z (LOp.lenVM Z Z Z (by kernel_rfl)) (zH Z (yE Z (zn Z Z) (yE Z (zA Z Z ft149_0) (yE Z (zA Z Z ft75_1) (yE Z (zD Z Z Z vt68 Z Z) (yE Z (LOp.lenVM Z Z Z (by kernel_rfl)) (yE Z (zb2 Z Z Z Z) (yE Z (zb2 Z Z Z Z) (LO.nil (zT ?_)))))))))))))))))));refine zX Z (fun g2 => ?_) (fun g2 => ?_)
   ·
    refine zi g2 hr fun hr => zk (zT (zl (zQ (LW.draw2 (by kernel_rfl) (by kernel_rfl) (zH Z (yE Z (zn Z Z) (yE Z (zA Z Z ft149_0) (yE Z (zA Z Z ft75_0) (yE Z (zD Z Z Z vt27 Z Z) (yE Z (LOp.lenVM Z Z Z (by kernel_rfl)) (zH Z (yE Z (zn Z Z) (yE Z (zA Z Z ft149_0) (yE Z (zA Z Z ft75_1) (yE Z (zD Z Z Z vt68 Z Z) (yE Z (LOp.lenVM Z Z Z (by kernel_rfl)) (yE Z (zb2 Z Z Z Z) (zH Z (LO.nil (zT (zQ (zR ?_))))))))))))))))))))));refine yS Z (zA Z Z ft75_0) (yS Z (zD Z Z Z vt27 Z Z) (zM Z (zb hr fun v5 h_v5 hr => yS Z (zC Z Z Z (by kernel_rfl) (cF137 h_v5)) (yS Z (zA Z Z ft75_0) (yS Z (zs Z Z Z Z vt27 Z Z Z Z) (zN (zT (zR (yS Z (zA Z Z ft75_1) (yS Z (zD Z Z Z vt68 Z Z) (zM Z (zb hr fun v6 h_v6 hr => yS Z (zC Z Z Z (by kernel_rfl) (cF138 h_v6)) (yS Z (zA Z Z ft75_1) (yS Z (zs Z Z Z Z vt68 Z Z Z Z) (zN (inBlk_n (zT ?_)))))))))))))))));obtain rfl := zJ hr;exact ⟨_, rfl, zW 17 ⟨rfl, rfl, rfl, rfl, rfl, rfl, rfl, rfl, trivial⟩ Z Z Z (zL Z (zL Z (zL Z (zL Z (zL Z (zL Z (zL Z (zL Z (zL (entsLow (fun _ => rfl) _) (zL (entsLow (fun _ => rfl) _) (zL Z (zL Z (zL Z (zL Z (zL Z (zL Z (zL Z Z)))))))))))))))))⟩
   ·
    refine zo g2 hr fun hr => zq (thn_e (thn_e (zy (zT ?_))));obtain rfl := zJ hr;have hr := congrArg some (hb_x1 _ rfl);obtain rfl := zJ hr;exact zW 17 ⟨Z, Z, Z, Z, Z, trivial⟩ Z Z Z (zL Z (zL Z (zL Z (zL Z (zL Z (zL Z (zL Z (zL Z (zL (entsLow (fun _ => rfl) _) (zL (entsLow (fun _ => rfl) _) (zL Z (zL Z (zL Z (zL Z (zL Z (zL Z (zL Z Z)))))))))))))))))
  ·have hr := ho_v4;clear hb_v4;refine zT (LW.weak hw_v4 (zQ (LW.drawW (by kernel_rfl) (by kernel_rfl) (zK Z ?_))));refine yF (F := []) (s := none) Z (fun H _ => zn Z Z) Z ?_;refine yF (F := []) (s := none) Z (fun H _ => zA Z Z ft149_0) Z ?_;refine yF Z (zd Z Z Z vt75 Z Z) Z (zg hr fun q3 hr => zg hr fun q4 hr => yF Z (zd Z Z Z vt75 Z Z) Z (zK Z ?_));refine yF (F := []) (s := none) Z (fun H _ => zn Z Z) Z ?_;refine yF (F := []) (s := none) Z (fun H _ => zA Z Z ft149_4) Z ?_;refine yF Z (zd Z Z Z vt4 Z Z) Z (yF Z (zt Z Z Z Z vt75 Z Z Z) Z (yF Z (zt Z Z Z Z vt75 Z Z Z) Z (zK Z ?_)));refine LF.nil ⟨by kernel_rfl, ?_⟩;refine zT (zr ?_);obtain rfl := zJ hr;exact zf (.three (.cellAgg Z Z (by kernel_rfl) Z) (.cellAgg Z Z (by kernel_rfl) Z) (.tmp Z)) (⟨_, rfl, (.cons (Conv.agg (.cons (Conv.vecAll Z Z Z) (.cons (Conv.vecAll Z Z Z) .nil))) (.cons (Conv.agg (.cons (Conv.vecTake Z q3) (.cons (Conv.vecTake Z q4) .nil))) (.cons zv .nil)))⟩)
open Go.Proofs
structure FHear_L1 where
 t21 : Int
 w_11 : Bool
 o5 : List Of
def FHear_s1 (x : Nd) (c : Cf) (slot : Int) (v1 : (List Of)) (x1 : FHear_L1) : Option (FHear_L1 ⊕ FHear_L1) :=
 bif decide (x1.t21 < (v1.length : Int)) then
  (ix v1 x1.t21).bind fun y1 =>
  (
   bif (x.Tick.tmod 3) == 2 then
    some ((x.Tick.tmod 3) == 2)
   else
    bif y1.Slot != slot then
     some (y1.Slot != slot)
    else
     (F63 c slot).bind fun v4 =>
     some (y1.From != v4)
  ).bind fun v3 =>
  bif v3 then
   some (.inl (FHear_L1.mk (IntKind.i64.wrap (x1.t21 + 1)) x1.w_11 x1.o5))
  else
   bif (x1.o5.length : Int) == 8 then
    some (.inl (FHear_L1.mk (IntKind.i64.wrap (x1.t21 + 1)) true x1.o5))
   else
    (F3052 y1).bind fun v5 =>
    bif room x1.o5.length [v5].length 104 then
     some (.inl (FHear_L1.mk (IntKind.i64.wrap (x1.t21 + 1)) x1.w_11 (x1.o5 ++ [v5])))
    else none
 else
  some (.inr (FHear_L1.mk x1.t21 x1.w_11 x1.o5))
def FHear (l : List Of) (x : Nd) (c : Cf) (slot : Int) : Option (List Of × Bool) :=
 (F3095 [x.O, l]).bind fun v1 =>
 (iter (FHear_s1 x c slot v1) big (FHear_L1.mk 0 x.Full ([] : List Of))).bind fun v2 =>
 some (v2.o5, v2.w_11)
theorem cFHear {l : List Of} {x : Nd} {c : Cf} {slot : Int} {tl : List Of} {c0 : Cf} {n0 : Nd} {in0 : Vw} {r_ : List Of × Bool} (hr : FHear l x c slot = some r_) : LC Tryz.prog 98 [.ptr 4 0, (kO l)] [.box (cfO c0), .box (ndO n0), .box (vwO in0), .box zn0, .box [(iQ x.No), (iQ x.Tick), (kB x.V.B), (kV x.V.V), (kB x.In.B), (kV x.In.V), (kO x.O), (uQ x.C.ID.1), (uQ x.C.ID.2), (iQ x.C.Slot), (iQ x.C.Revoked), (bQ x.Full), (kI c.W), (uQ c.Seed), (iQ c.Epoch), (iQ c.Num), (iQ c.Den), (iQ slot), (kO tl)]] (Is (.tup []) [.box (cfO c0), .box (ndO n0), .box (vwO in0), .box zn0, .box [(iQ x.No), (iQ x.Tick), (kB x.V.B), (kV x.V.V), (kB x.In.B), (kV x.In.V), (jO 5 r_.1), (uQ x.C.ID.1), (uQ x.C.ID.2), (iQ x.C.Slot), (iQ x.C.Revoked), (bQ r_.2), (kI c.W), (uQ c.Seed), (iQ c.Epoch), (iQ c.Num), (iQ c.Den), (iQ slot), (kO tl)], .vec 9 (r_.1.map ofP)]) := by
 refine zh2 Tryz.func98 Z Z Z ?_;unfold FHear at hr;refine zQ (zR (zM Z (yS Z (zn Z Z) (yS Z (zA Z Z ft3090_0) (yS Z (zA Z Z ft1071_4) (yS Z (zD Z Z Z vt1036 Z Z) (zM Z (yS Z (zB2 Z st3151 Z Z Z Z Z) (zb hr fun v1 h_v1 hr => yS Z (zC Z Z Z (by kernel_rfl) (zp (c3095 h_v1) (.cons zv .nil))) (zM Z (zN (zT (zQ (zR (zM Z (yS Z (zn Z Z) (yS Z (zA Z Z ft3090_0) (yS Z (zA Z Z ft1071_4) (yS Z (zs Z Z Z Z vt1036 Z Z Z Z) (zN (zT (zQ ?_))))))))))))))))))))));refine LW.ent (Ent.lazyCell (i := 4) (j := 6) (m := 9) Z Z Z Z Z Z) (zR (zM Z (yS Z (zlM Z Z (by kernel_rfl)) (zM Z (zN (zT ?_))))));obtain ⟨v2, hb_v2, ho_v2⟩ := zB hr;clear hr;refine LW.tail (E := []) (O := [.box (cfO c0), .box (ndO n0), .box (vwO in0), .box zn0, .box [(iQ x.No), (iQ x.Tick), (kB x.V.B), (kV x.V.V), (kB x.In.B), (kV x.In.V), (jO 5 v2.o5), (uQ x.C.ID.1), (uQ x.C.ID.2), (iQ x.C.Slot), (iQ x.C.Revoked), (bQ v2.w_11), (kI c.W), (uQ c.Seed), (iQ c.Epoch), (iQ c.Num), (iQ c.Den), (iQ slot), (kO tl)], .vec 9 (v2.o5.map ofP)]) ?_ (fun env_v2 H_v2 hw_v2 => ?_)
 ·refine LW.block ?_;refine LW.iterB (E := fun x1 : FHear_L1 => [(0, .ptr 4 0), (19, (kO v1)), (20, .p (.int .i64 (v1.length : Int))), (21, (iQ x1.t21))]) (O := fun x1 => [.box (cfO c0), .box (ndO n0), .box (vwO in0), .box zn0, .box [(iQ x.No), (iQ x.Tick), (kB x.V.B), (kV x.V.V), (kB x.In.B), (kV x.In.V), (jO 5 x1.o5), (uQ x.C.ID.1), (uQ x.C.ID.2), (iQ x.C.Slot), (iQ x.C.Revoked), (bQ x1.w_11), (kI c.W), (uQ c.Seed), (iQ c.Epoch), (iQ c.Num), (iQ c.Den), (iQ slot), (kO tl)], .vec 9 (x1.o5.map ofP)]) hb_v2 (zW 6 ⟨rfl, rfl, rfl, rfl, trivial⟩ Z Z Z Z) (fun x1 z_x1 hr hb_x1 => ?_);unfold FHear_s1 at hr;refine zQ (zR (yS Z (zb2 Z Z Z Z) (zN (zT (zQ ?_)))));refine zX Z (fun g1 => ?_) (fun g1 => ?_)
  ·
   refine zi g1 hr fun hr => zk (zT (zQ (zl (zQ (zR (zb hr fun y1 h_y1 hr => yS Z (zx Z Z Z st1036 h_y1 Z) (yS Z (zC2 Z Z Z vt1077 Z Z) (yS Z (ze Z zt1077 Z Z) (yS Z (zs Z Z Z Z vt1077 Z Z Z Z) (zN (zT (zl ?_))))))))))));obtain ⟨v3, hb_v3, ho_v3⟩ := zB hr;clear hr;refine LW.cut (E := [(0, .ptr 4 0), (6, .ptr 6 0), (19, (kO v1)), (20, .p (.int .i64 (v1.length : Int))), (21, (iQ x1.t21)), (38, (bQ v3))]) (O := [.box (cfO c0), .box (ndO n0), .box (vwO in0), .box zn0, .box [(iQ x.No), (iQ x.Tick), (kB x.V.B), (kV x.V.V), (kB x.In.B), (kV x.In.V), (jO 5 x1.o5), (uQ x.C.ID.1), (uQ x.C.ID.2), (iQ x.C.Slot), (iQ x.C.Revoked), (bQ x1.w_11), (kI c.W), (uQ c.Seed), (iQ c.Epoch), (iQ c.Num), (iQ c.Den), (iQ slot), (kO tl)], .vec 9 (x1.o5.map ofP), .box [(iQ y1.Slot), (iQ y1.From), (iQ y1.B.Slot), (iQ y1.B.From), (uQ y1.B.Parent.1), (uQ y1.B.Parent.2), (uQ y1.B.Salt), (kB y1.V.B), (kV y1.V.V)]]) ?_ ?_
   ·have hr := hb_v3;refine zQ (zR (zM Z (yS Z (zn Z Z) (yS Z (zA Z Z ft3090_0) (yS Z (zA Z Z ft1071_1) (yS Z (zD Z Z Z vt3 Z Z) (yS Z (LOp.rem Z Z Z (by decide)) (yS Z (zb2 Z Z Z Z) (zM Z (zN (zT ?_)))))))))));refine zX Z (fun g2 => ?_) (fun g2 => ?_)
    ·
     refine zi g2 hr fun hr => zk (zT ?_);obtain rfl := zJ hr;exact zW 7 ⟨Z, Z, Z, Z, Z, Z, trivial⟩ Z Z Z Z
    ·
     refine zo g2 hr fun hr => zQ (LW.draw2 (by kernel_rfl) (by kernel_rfl) (yE Z (zA Z Z ft1077_0) (yE Z (zD Z Z Z vt3 Z Z) (zH Z (yE Z (zn Z Z) (yE Z (zA Z Z ft3090_2) (yE Z (zD Z Z Z vt3 Z Z) (yE Z (zb2 Z Z Z Z) (zH Z (LO.nil (zT ?_)))))))))));refine zX Z (fun g3 => ?_) (fun g3 => ?_)
     ·
      refine zi g3 hr fun hr => zk (zT ?_);obtain rfl := zJ hr;exact zW 7 ⟨Z, Z, Z, Z, Z, Z, trivial⟩ Z Z Z Z
     ·
      refine zo g3 hr fun hr => LW.draw2 (by kernel_rfl) (by kernel_rfl) (yE Z (zA Z Z ft1077_1) (yE Z (zD Z Z Z vt3 Z Z) (zH Z (yE Z (zn Z Z) (yE Z (zA Z Z ft3090_1) (yE Z (zD Z Z Z vt55 Z Z) (zH Z (yE Z (zn Z Z) (yE Z (zA Z Z ft3090_2) (yE Z (zD Z Z Z vt3 Z Z) (zb hr fun v4 h_v4 hr => yE Z (zC Z Z Z (by kernel_rfl) (zp (c63 h_v4) (.cons zv (.cons zv .nil)))) (yE Z (zb2 Z Z Z Z) (zH Z (LO.nil (zT ?_)))))))))))))));obtain rfl := zJ hr;exact zW 7 ⟨Z, Z, Z, Z, Z, Z, trivial⟩ Z Z Z Z
   ·have hr := ho_v3;clear hb_v3;refine zX Z (fun g4 => ?_) (fun g4 => ?_)
    ·
     refine zi g4 hr fun hr => zk (inBlk_n (inBlk_n (zT (zR (yS Z (zb2 Z Z Z Z) (zM Z (zN (zT ?_))))))));obtain rfl := zJ hr;exact ⟨_, rfl, zW 6 ⟨rfl, rfl, rfl, rfl, trivial⟩ Z Z Z rfl⟩
    ·
     refine zo g4 hr fun hr => zQ (zR (zM Z (yS Z (zn Z Z) (yS Z (zA Z Z ft3090_0) (yS Z (zA Z Z ft1071_4) (yS Z (zD Z Z Z vt1036 Z Z) (yS Z (LOp.lenVM Z Z Z (by kernel_rfl)) (yS Z (zb2 Z Z Z Z) (zM Z (zN (zT ?_)))))))))));refine zX Z (fun g5 => ?_) (fun g5 => ?_)
     ·
      refine zi g5 hr fun hr => zR (zM Z (yS Z (zn Z Z) (yS Z (zA Z Z ft3090_0) (yS Z (zA Z Z ft1071_6) (yS Z (zs Z Z Z Z vt4 Z Z Z Z) (zN (inBlk_n (inBlk_n (zT (zR (yS Z (zb2 Z Z Z Z) (zM Z (zN (zT ?_))))))))))))));obtain rfl := zJ hr;exact ⟨_, rfl, zW 6 ⟨rfl, rfl, rfl, rfl, trivial⟩ Z Z Z rfl⟩
     ·
      refine zo g5 hr fun hr => LW.drawW (by kernel_rfl) (by kernel_rfl) (zK Z (zK Z ?_));refine yF (F := []) (s := none) Z (fun H _ => zn Z Z) Z ?_;refine yF (F := []) (s := none) Z (fun H _ => zA Z Z ft3090_0) Z ?_;refine yF (F := []) (s := none) Z (fun H _ => zA Z Z ft1071_4) Z ?_;refine yF Z (zd Z Z Z vt1036 Z Z) Z (yF Z (zd Z Z Z vt1077 Z Z) Z (zb hr fun v5 h_v5 hr => ?_));refine yF (F := []) (s := none) Z (fun H _ => zC Z Z Z (by kernel_rfl) (zp (c3052 h_v5) (.cons zv .nil))) Z ?_;refine yF (F := []) (s := none) Z (fun H _ => zB2 Z st1036 Z Z Z Z Z) Z ?_;refine zg hr fun q1 hr => yF Z (LAt.appendX ofP x1.o5 [v5] rfl Z Z Z Z st1036 q1) Z ?_;refine yF (F := []) (s := none) Z (fun H _ => zn Z Z) Z ?_;refine yF (F := []) (s := none) Z (fun H _ => zA Z Z ft3090_0) Z ?_;refine yF (F := []) (s := none) Z (fun H _ => zA Z Z ft1071_4) Z ?_;refine yF Z (zt Z Z Z Z vt1036 Z Z Z) Z ?_;refine LF.nil ⟨by kernel_rfl, ?_⟩;refine inBlk_n (inBlk_n (zT (zR (yS Z (zb2 Z Z Z Z) (zM Z (zN (zT ?_)))))));obtain rfl := zJ hr;exact ⟨_, rfl, zW 6 ⟨rfl, rfl, rfl, rfl, trivial⟩ Z Z Z rfl⟩
  ·
   refine zo g1 hr fun hr => zq (thn_e (thn_e (zy (zT ?_))));obtain rfl := zJ hr;have hr := congrArg some (hb_x1 _ rfl);obtain rfl := zJ hr;exact zW 6 trivial Z Z Z Z
 ·have hr := ho_v2;clear hb_v2;obtain rfl := zJ hr;exact fin_endW hw_v2 .none ⟨rfl, rfl⟩
def FCount (inp : Vw) (c : Cf) (slot : Int) (v : Vw) (full : Bool) : Option (Vw × Vw × Bool) :=
 (F90 c v inp slot).bind fun v1 =>
 bif full then
  some (v1.2.1, v1.1, true)
 else
  some (v1.2.1, v1.1, v1.2.2)
theorem cFCount {inp : Vw} {c : Cf} {slot : Int} {v : Vw} {full : Bool} {x : Nd} {o : List Of} {tl : List Of} {c0 : Cf} {n0 : Nd} {in0 : Vw} {r_ : Vw × Vw × Bool} (hr : FCount inp c slot v full = some r_) : LC Tryz.prog 137 [.ptr 4 0, .p (vwP inp)] [.box (cfO c0), .box (ndO n0), .box (vwO in0), .box zn0, .box [(iQ x.No), (iQ x.Tick), (kB v.B), (kV v.V), (kB x.In.B), (kV x.In.V), (jO 5 o), (uQ x.C.ID.1), (uQ x.C.ID.2), (iQ x.C.Slot), (iQ x.C.Revoked), (bQ full), (kI c.W), (uQ c.Seed), (iQ c.Epoch), (iQ c.Num), (iQ c.Den), (iQ slot), (kO tl)], .vec 9 (o.map ofP)] (Is (.p (vwP r_.1)) [.box (cfO c0), .box (ndO n0), .box (vwO in0), .box zn0, .box [(iQ x.No), (iQ x.Tick), (kB r_.2.1.B), (kV r_.2.1.V), (kB x.In.B), (kV x.In.V), (jO 5 o), (uQ x.C.ID.1), (uQ x.C.ID.2), (iQ x.C.Slot), (iQ x.C.Revoked), (bQ r_.2.2), (kI c.W), (uQ c.Seed), (iQ c.Epoch), (iQ c.Num), (iQ c.Den), (iQ slot), (kO tl)], .vec 9 (o.map ofP)]) := by
 refine zh2 Tryz.func137 Z Z Z ?_;unfold FCount at hr;refine zQ (zR (yS Z (zbx Z Z Z Z Z) (yS Z (ze Z zt75 Z Z) (zN (zT (zQ (LW.ent (Ent.slot Z) (LW.ent (Ent.slot Z) (LW.drawW (by kernel_rfl) (by kernel_rfl) (zK Z ?_))))))))));refine yF (F := []) (s := none) Z (fun H _ => zn Z Z) Z ?_;refine yF (F := []) (s := none) Z (fun H _ => zA Z Z ft3090_1) Z ?_;refine yF Z (zd Z Z Z vt55 Z Z) Z (zK Z ?_);refine yF (F := []) (s := none) Z (fun H _ => zn Z Z) Z ?_;refine yF (F := []) (s := none) Z (fun H _ => zA Z Z ft3090_0) Z ?_;refine yF (F := []) (s := none) Z (fun H _ => zA Z Z ft1071_2) Z ?_;refine yF Z (zd Z Z Z vt75 Z Z) Z (yF Z (zd Z Z Z vt75 Z Z) Z (zK Z ?_));refine yF (F := []) (s := none) Z (fun H _ => zn Z Z) Z ?_;refine yF (F := []) (s := none) Z (fun H _ => zA Z Z ft3090_2) Z ?_;refine yF Z (zd Z Z Z vt3 Z Z) Z (zb hr fun v1 h_v1 hr => ?_);refine yF (F := []) (s := none) Z (fun H _ => zC Z Z Z (by kernel_rfl) (zp (c90 h_v1) (.cons zv (.cons zv (.cons zv (.cons zv .nil)))))) Z ?_;refine zK Z ?_;refine yF (F := []) (s := none) Z (fun H _ => zX2 Z Z Z) Z ?_;refine yF (F := []) (s := none) Z (fun H _ => zX2 Z Z Z) Z ?_;refine yF (F := []) (s := none) Z (fun H _ => zX2 Z Z Z) Z ?_;refine yF Z (LAt.alloc Z zt75 (id := 8) Z) Z (yF Z (LAt.alloc Z zt75 (id := 9) Z) Z (yF Z (zt Z Z Z Z vt75 Z Z Z) Z (yF Z (zt Z Z Z Z vt75 Z Z Z) Z (zK Z ?_))));refine LF.nil ⟨by kernel_rfl, ?_⟩;refine zT (zQ (LW.drawW (by kernel_rfl) (by kernel_rfl) (zK Z (zK Z (yF Z (zd Z Z Z vt75 Z Z) Z (zK Z ?_))))));refine yF (F := []) (s := none) Z (fun H _ => zn Z Z) Z ?_;refine yF (F := []) (s := none) Z (fun H _ => zA Z Z ft3090_0) Z ?_;refine yF (F := []) (s := none) Z (fun H _ => zA Z Z ft1071_6) Z ?_;refine yF Z (zd Z Z Z vt4 Z Z) Z (zK Z ?_);refine LF.cases 35 Z (fun (g1 : full = true) => ?_) (fun (g1 : full = false) => ?_)
 ·
  refine zi g1 hr fun hr => LF.sk Z Z Z (gd g1 Z) Z Z ?_;refine yF (F := []) (s := none) Z (fun H _ => zpT Z (gdl g1 Z) Z) Z ?_;refine yF (F := []) (s := none) Z (fun H _ => zn Z Z) Z ?_;refine yF (F := []) (s := none) Z (fun H _ => zA Z Z ft3090_0) Z ?_;refine yF (F := []) (s := none) Z (fun H _ => zA Z Z ft1071_2) Z ?_;refine yF Z (zt Z Z Z Z vt75 Z Z Z) Z ?_;refine yF (F := []) (s := none) Z (fun H _ => zn Z Z) Z ?_;refine yF (F := []) (s := none) Z (fun H _ => zA Z Z ft3090_0) Z ?_;refine yF (F := []) (s := none) Z (fun H _ => zA Z Z ft1071_6) Z ?_;refine yF Z (zt Z Z Z Z vt4 Z Z Z) Z ?_;refine LF.nil ⟨by kernel_rfl, ?_⟩;refine zT (zQ (zR (yS Z (zD Z Z Z vt75 Z Z) (yS Z (zs Z Z Z Z vt75 Z Z Z Z) (zN (zT (zr ?_)))))));obtain rfl := zJ hr;exact fin_retV (env' := []) (H' := [.box (cfO c0), .box (ndO n0), .box (vwO in0), .box zn0, .box [(iQ x.No), (iQ x.Tick), (kB v1.1.B), (kV v1.1.V), (kB x.In.B), (kV x.In.V), (jO 5 o), (uQ x.C.ID.1), (uQ x.C.ID.2), (iQ x.C.Slot), (iQ x.C.Revoked), (bQ true), (kI c.W), (uQ c.Seed), (iQ c.Epoch), (iQ c.Num), (iQ c.Den), (iQ slot), (kO tl)], .vec 9 (o.map ofP)]) (zW 6 trivial Z Z Z Z) (.one (.cellAgg Z Z (by kernel_rfl) Z)) Z (⟨rfl, rfl⟩)
 ·
  have hr := zO g1 hr;refine LF.gd (F := []) (s := none) Z Z Z (gd g1 Z) Z (fun H _ => LOp.move Z Z) Z ?_;refine yF (F := []) (s := none) Z (fun H _ => zpF Z (gdl g1 Z) Z) Z ?_;refine yF (F := []) (s := none) Z (fun H _ => zn Z Z) Z ?_;refine yF (F := []) (s := none) Z (fun H _ => zA Z Z ft3090_0) Z ?_;refine yF (F := []) (s := none) Z (fun H _ => zA Z Z ft1071_2) Z ?_;refine yF Z (zt Z Z Z Z vt75 Z Z Z) Z ?_;refine yF (F := []) (s := none) Z (fun H _ => zn Z Z) Z ?_;refine yF (F := []) (s := none) Z (fun H _ => zA Z Z ft3090_0) Z ?_;refine yF (F := []) (s := none) Z (fun H _ => zA Z Z ft1071_6) Z ?_;refine yF Z (zt Z Z Z Z vt4 Z Z Z) Z ?_;refine LF.nil ⟨by kernel_rfl, ?_⟩;refine zT (zQ (zR (yS Z (zD Z Z Z vt75 Z Z) (yS Z (zs Z Z Z Z vt75 Z Z Z Z) (zN (zT (zr ?_)))))));obtain rfl := zJ hr;exact fin_retV (env' := []) (H' := [.box (cfO c0), .box (ndO n0), .box (vwO in0), .box zn0, .box [(iQ x.No), (iQ x.Tick), (kB v1.1.B), (kV v1.1.V), (kB x.In.B), (kV x.In.V), (jO 5 o), (uQ x.C.ID.1), (uQ x.C.ID.2), (iQ x.C.Slot), (iQ x.C.Revoked), (bQ v1.2.2), (kI c.W), (uQ c.Seed), (iQ c.Epoch), (iQ c.Num), (iQ c.Den), (iQ slot), (kO tl)], .vec 9 (o.map ofP)]) (zW 6 trivial Z Z Z Z) (.one (.cellAgg Z Z (by kernel_rfl) Z)) Z (⟨rfl, rfl⟩)
def FWhead (c : Cf) (v : Vw) (s : Int) : Option ID :=
 (F1048 c v s).bind fun v1 =>
 some v1
theorem cFWhead {c : Cf} {v : Vw} {s : Int} {x : Nd} {slot : Int} {o : List Of} {tl : List Of} {c0 : Cf} {n0 : Nd} {in0 : Vw} {r_ : ID} (hr : FWhead c v s = some r_) : LC Tryz.prog 138 [.ptr 4 0, (iQ s)] [.box (cfO c0), .box (ndO n0), .box (vwO in0), .box zn0, .box [(iQ x.No), (iQ x.Tick), (kB v.B), (kV v.V), (kB x.In.B), (kV x.In.V), (jO 5 o), (uQ x.C.ID.1), (uQ x.C.ID.2), (iQ x.C.Slot), (iQ x.C.Revoked), (bQ x.Full), (kI c.W), (uQ c.Seed), (iQ c.Epoch), (iQ c.Num), (iQ c.Den), (iQ slot), (kO tl)], .vec 9 (o.map ofP)] (Is (.p (idP r_)) [.box (cfO c0), .box (ndO n0), .box (vwO in0), .box zn0, .box [(iQ x.No), (iQ x.Tick), (kB v.B), (kV v.V), (kB x.In.B), (kV x.In.V), (jO 5 o), (uQ x.C.ID.1), (uQ x.C.ID.2), (iQ x.C.Slot), (iQ x.C.Revoked), (bQ x.Full), (kI c.W), (uQ c.Seed), (iQ c.Epoch), (iQ c.Num), (iQ c.Den), (iQ slot), (kO tl)], .vec 9 (o.map ofP)]) := by
 refine zh2 Tryz.func138 Z Z Z ?_;unfold FWhead at hr;refine zQ (zR (yS Z (ze Z zt24 Z Z) (zN (zT (zQ (LW.drawLast (m := 11) (by kernel_rfl) (by kernel_rfl) (by kernel_rfl) (zH Z (yE Z (zn Z Z) (yE Z (zA Z Z ft3090_1) (yE Z (zD Z Z Z vt55 Z Z) (zH Z (yE Z (zn Z Z) (yE Z (zA Z Z ft3090_0) (yE Z (zA Z Z ft1071_2) (yE Z (zD Z Z Z vt75 Z Z) (zH Z (zb hr fun v1 h_v1 hr => yE Z (zC Z Z Z (by kernel_rfl) (zp (c1048 h_v1) (.cons zv (.cons zv (.cons zv .nil))))) (LO.nil (yS Z (zs Z Z Z Z vt24 Z Z Z Z) (zN (zT (zr ?_))))))))))))))))))))));obtain rfl := zJ hr;exact fin_retV (env' := []) (H' := [.box (cfO c0), .box (ndO n0), .box (vwO in0), .box zn0, .box [(iQ x.No), (iQ x.Tick), (kB v.B), (kV v.V), (kB x.In.B), (kV x.In.V), (jO 5 o), (uQ x.C.ID.1), (uQ x.C.ID.2), (iQ x.C.Slot), (iQ x.C.Revoked), (bQ x.Full), (kI c.W), (uQ c.Seed), (iQ c.Epoch), (iQ c.Num), (iQ c.Den), (iQ slot), (kO tl)], .vec 9 (o.map ofP)]) (zW 6 trivial Z Z Z Z) (.one (.cellAgg Z Z (by kernel_rfl) Z)) Z (⟨rfl, rfl⟩)
theorem whead_of {c : Cf} {v : Vw} {s : Int} {r_ : ID} (h : F1048 c v s = some r_) : FWhead c v s = some r_ := by unfold FWhead; rw [h]; rfl
def FWheadN (c : Cf) (v : Vw) (s : Int) : Option ID :=
 (F1048 c v s).bind fun v1 =>
 some v1
theorem cFWheadN {c : Cf} {v : Vw} {s : Int} {x : Nd} {slot : Int} {o : List Of} {tl : List Of} {c0 : Cf} {n0 : Nd} {in0 : Vw} {r_ : ID} (hr : FWheadN c v s = some r_) : LC Tryz.prog 138 [.ptr 4 0, (iQ s)] [.box (cfO c0), .box (ndO n0), .box (vwO in0), .box zn0, .box [(iQ x.No), (iQ x.Tick), (kB v.B), (kV v.V), (kB x.In.B), (kV x.In.V), (kO x.O), (uQ x.C.ID.1), (uQ x.C.ID.2), (iQ x.C.Slot), (iQ x.C.Revoked), (bQ x.Full), (kI c.W), (uQ c.Seed), (iQ c.Epoch), (iQ c.Num), (iQ c.Den), (iQ slot), (kO tl)], .vec 9 (o.map ofP)] (Is (.p (idP r_)) [.box (cfO c0), .box (ndO n0), .box (vwO in0), .box zn0, .box [(iQ x.No), (iQ x.Tick), (kB v.B), (kV v.V), (kB x.In.B), (kV x.In.V), (kO x.O), (uQ x.C.ID.1), (uQ x.C.ID.2), (iQ x.C.Slot), (iQ x.C.Revoked), (bQ x.Full), (kI c.W), (uQ c.Seed), (iQ c.Epoch), (iQ c.Num), (iQ c.Den), (iQ slot), (kO tl)], .vec 9 (o.map ofP)]) := by
 refine zh2 Tryz.func138 Z Z Z ?_;unfold FWheadN at hr;refine zQ (zR (yS Z (ze Z zt24 Z Z) (zN (zT (zQ (LW.drawLast (m := 11) (by kernel_rfl) (by kernel_rfl) (by kernel_rfl) (zH Z (yE Z (zn Z Z) (yE Z (zA Z Z ft3090_1) (yE Z (zD Z Z Z vt55 Z Z) (zH Z (yE Z (zn Z Z) (yE Z (zA Z Z ft3090_0) (yE Z (zA Z Z ft1071_2) (yE Z (zD Z Z Z vt75 Z Z) (zH Z (zb hr fun v1 h_v1 hr => yE Z (zC Z Z Z (by kernel_rfl) (zp (c1048 h_v1) (.cons zv (.cons zv (.cons zv .nil))))) (LO.nil (yS Z (zs Z Z Z Z vt24 Z Z Z Z) (zN (zT (zr ?_))))))))))))))))))))));obtain rfl := zJ hr;exact fin_retV (env' := []) (H' := [.box (cfO c0), .box (ndO n0), .box (vwO in0), .box zn0, .box [(iQ x.No), (iQ x.Tick), (kB v.B), (kV v.V), (kB x.In.B), (kV x.In.V), (kO x.O), (uQ x.C.ID.1), (uQ x.C.ID.2), (iQ x.C.Slot), (iQ x.C.Revoked), (bQ x.Full), (kI c.W), (uQ c.Seed), (iQ c.Epoch), (iQ c.Num), (iQ c.Den), (iQ slot), (kO tl)], .vec 9 (o.map ofP)]) (zW 6 trivial Z Z Z Z) (.one (.cellAgg Z Z (by kernel_rfl) Z)) Z (⟨rfl, rfl⟩)
theorem wheadN_of {c : Cf} {v : Vw} {s : Int} {r_ : ID} (h : F1048 c v s = some r_) : FWheadN c v s = some r_ := by unfold FWheadN; rw [h]; rfl
def FFirst (x : Nd) (c : Cf) (slot : Int) (tl : List Of) : Option (Vw × Vw × Bool × List Of) :=
 (F63 c slot).bind fun v1 =>
 bif x.No != v1 then
  some (x.V, x.In, x.Full, tl)
 else
  (FCount x.In c slot x.V x.Full).bind fun v2 =>
  (F1048 c v2.2.1 (IntKind.i64.wrap (slot - 1))).bind fun v3 =>
  (F3052 (Of.mk slot x.No (Bk.mk slot x.No v3 0) v2.2.1)).bind fun v4 =>
  (F3098 (Bk.mk slot x.No v3 0)).bind fun v5 =>
  (FCount v5 c slot v2.2.1 v2.2.2).bind fun v6 =>
  some (v6.2.1, v2.1, v6.2.2, [v4])
theorem cFFirst {x : Nd} {o : List Of} {c : Cf} {slot : Int} {tl : List Of} {c0 : Cf} {n0 : Nd} {in0 : Vw} {r_ : Vw × Vw × Bool × List Of} (hr : FFirst x c slot tl = some r_) : LC Tryz.prog 99 [.ptr 4 0] [.box (cfO c0), .box (ndO n0), .box (vwO in0), .box zn0, .box [(iQ x.No), (iQ x.Tick), (kB x.V.B), (kV x.V.V), (kB x.In.B), (kV x.In.V), (jO 5 o), (uQ x.C.ID.1), (uQ x.C.ID.2), (iQ x.C.Slot), (iQ x.C.Revoked), (bQ x.Full), (kI c.W), (uQ c.Seed), (iQ c.Epoch), (iQ c.Num), (iQ c.Den), (iQ slot), (kO tl)], .vec 9 (o.map ofP)] (Is (.tup []) [.box (cfO c0), .box (ndO n0), .box (vwO in0), .box zn0, .box [(iQ x.No), (iQ x.Tick), (kB r_.1.B), (kV r_.1.V), (kB r_.2.1.B), (kV r_.2.1.V), (jO 5 o), (uQ x.C.ID.1), (uQ x.C.ID.2), (iQ x.C.Slot), (iQ x.C.Revoked), (bQ r_.2.2.1), (kI c.W), (uQ c.Seed), (iQ c.Epoch), (iQ c.Num), (iQ c.Den), (iQ slot), (kO r_.2.2.2)], .vec 9 (o.map ofP)]) := by
 refine zh2 Tryz.func99 Z Z Z ?_;unfold FFirst at hr;refine zQ (zQ (LW.draw2 (by kernel_rfl) (by kernel_rfl) (zH Z (yE Z (zn Z Z) (yE Z (zA Z Z ft3090_0) (yE Z (zA Z Z ft1071_0) (yE Z (zD Z Z Z vt3 Z Z) (zH Z (yE Z (zn Z Z) (yE Z (zA Z Z ft3090_1) (yE Z (zD Z Z Z vt55 Z Z) (zH Z (yE Z (zn Z Z) (yE Z (zA Z Z ft3090_2) (yE Z (zD Z Z Z vt3 Z Z) (zb hr fun v1 h_v1 hr => yE Z (zC Z Z Z (by kernel_rfl) (zp (c63 h_v1) (.cons zv (.cons zv .nil)))) (yE Z (zb2 Z Z Z Z) (LO.nil (zT ?_)))))))))))))))))));refine zX Z (fun g1 => ?_) (fun g1 => ?_)
 ·
  refine zi g1 hr fun hr => LW.ret (thn_r ?_);obtain rfl := zJ hr;exact fin_ret .none (⟨rfl, rfl⟩)
 ·
  refine zo g1 hr fun hr => zk (zT (zQ (zR (zM Z (zM Z (zM Z (yS Z (zn Z Z) (yS Z (zA Z Z ft3090_0) (yS Z (zA Z Z ft1071_3) (yS Z (zD Z Z Z vt75 Z Z) (zb hr fun v2 h_v2 hr => yS Z (zC Z Z Z (by kernel_rfl) (cFCount (x := Nd.mk x.No x.Tick x.V x.In [] x.C x.Full) (o := o) (tl := tl) h_v2)) (yS Z (zn Z Z) (yS Z (zA Z Z ft3090_0) (yS Z (zA Z Z ft1071_3) (yS Z (zs Z Z Z Z vt75 Z Z Z Z) (zN (zT (zQ (LW.ent (Ent.slot Z) (LW.drawW (by kernel_rfl) (by kernel_rfl) (zK Z ?_)))))))))))))))))))));refine yF (F := []) (s := none) Z (fun H _ => zn Z Z) Z ?_;refine yF (F := []) (s := none) Z (fun H _ => zA Z Z ft3090_2) Z ?_;refine yF Z (zd Z Z Z vt3 Z Z) Z (zK Z ?_);refine yF (F := []) (s := none) Z (fun H _ => zn Z Z) Z ?_;refine yF (F := []) (s := none) Z (fun H _ => zA Z Z ft3090_0) Z ?_;refine yF (F := []) (s := none) Z (fun H _ => zA Z Z ft1071_0) Z ?_;refine yF Z (zd Z Z Z vt3 Z Z) Z (zK Z (zK Z ?_));refine yF (F := []) (s := none) Z (fun H _ => zn Z Z) Z ?_;refine yF (F := []) (s := none) Z (fun H _ => zA Z Z ft3090_2) Z ?_;refine yF Z (zd Z Z Z vt3 Z Z) Z ?_;refine yF (F := []) (s := none) Z (fun H _ => zb2 Z Z Z Z) Z ?_;obtain ⟨v3, h_v3, hr⟩ := zB hr;refine yF Z (LAt.preH (s := none) (fun _ => zC Z Z Z (by kernel_rfl) (LC.pre (cFWhead (x := Nd.mk x.No x.Tick v2.2.1 v2.1 [] x.C v2.2.2) (o := o) (tl := tl) (whead_of h_v3)) Z Z Z)) Z Z Z Z) Z ?_;refine yF (F := []) (s := none) Z (fun H _ => LOp.build Z bt42 Z Z Z) Z ?_;refine yF Z (LAt.alloc Z zt42 (id := 6) Z) Z (yF Z (zt Z Z Z Z vt42 Z Z Z) Z ?_);refine LF.nil ⟨by kernel_rfl, ?_⟩;refine zT (zQ (LW.drawW (by kernel_rfl) (by kernel_rfl) (zK Z (zK Z ?_))));refine yF (F := []) (s := none) Z (fun H _ => zn Z Z) Z ?_;refine yF (F := []) (s := none) Z (fun H _ => zA Z Z ft3090_2) Z ?_;refine yF Z (zd Z Z Z vt3 Z Z) Z (zK Z ?_);refine yF (F := []) (s := none) Z (fun H _ => zn Z Z) Z ?_;refine yF (F := []) (s := none) Z (fun H _ => zA Z Z ft3090_0) Z ?_;refine yF (F := []) (s := none) Z (fun H _ => zA Z Z ft1071_0) Z ?_;refine yF Z (zd Z Z Z vt3 Z Z) Z (yF Z (zd Z Z Z vt42 Z Z) Z (zK Z ?_));refine yF (F := []) (s := none) Z (fun H _ => zn Z Z) Z ?_;refine yF (F := []) (s := none) Z (fun H _ => zA Z Z ft3090_0) Z ?_;refine yF (F := []) (s := none) Z (fun H _ => zA Z Z ft1071_2) Z ?_;refine yF Z (zd Z Z Z vt75 Z Z) Z ?_;refine yF (F := []) (s := none) Z (fun H _ => LOp.build Z bt1077 Z Z Z) Z ?_;obtain ⟨v4, h_v4, hr⟩ := zB hr;refine yF (F := []) (s := none) Z (fun H _ => zC Z Z Z (by kernel_rfl) (zp (c3052 h_v4) (.cons zv .nil))) Z ?_;refine yF (F := []) (s := none) Z (fun H _ => zB2 Z st1036 Z Z Z Z Z) Z ?_;refine yF (F := []) (s := none) Z (fun H _ => zn Z Z) Z ?_;refine yF (F := []) (s := none) Z (fun H _ => zA Z Z ft3090_3) Z ?_;refine yF Z (zt Z Z Z Z vt1036 Z Z Z) Z ?_;refine LF.nil ⟨by kernel_rfl, ?_⟩;refine zT (zR (zM Z (yS Z (zD Z Z Z vt42 Z Z) (zb hr fun v5 h_v5 hr => yS Z (zC Z Z Z (by kernel_rfl) (zp (c3098 h_v5) (.cons zv .nil))) (zb hr fun v6 h_v6 hr => yS Z (zC Z Z Z (by kernel_rfl) (LC.pre (cFCount (x := Nd.mk x.No x.Tick v2.2.1 v2.1 [] x.C v2.2.2) (o := o) (tl := [v4]) h_v6) Z Z Z)) (zN ?_))))));obtain rfl := zJ hr;exact fin_endW (env' := []) (H' := [.box (cfO c0), .box (ndO n0), .box (vwO in0), .box zn0, .box [(iQ x.No), (iQ x.Tick), (kB v6.2.1.B), (kV v6.2.1.V), (kB v2.1.B), (kV v2.1.V), (jO 5 o), (uQ x.C.ID.1), (uQ x.C.ID.2), (iQ x.C.Slot), (iQ x.C.Revoked), (bQ v6.2.2), (kI c.W), (uQ c.Seed), (iQ c.Epoch), (iQ c.Num), (iQ c.Den), (iQ slot), .p (.slice 9 ([v4].map ofP))], .vec 9 (o.map ofP)]) (zW 6 trivial Z Z Z Z) .none (⟨rfl, rfl⟩)
structure FSecond_L1 where
 t11 : Int
 w_2 : List Bk
 w_3 : List Vt
 w_4 : List Bk
 w_5 : List Vt
 w_11 : Bool
def FSecond_s1 (o : List Of) (c : Cf) (slot : Int) (x1 : FSecond_L1) : Option (FSecond_L1 ⊕ FSecond_L1) :=
 bif decide (x1.t11 < (o.length : Int)) then
  (ix o x1.t11).bind fun y1 =>
  (F3098 y1.B).bind fun v2 =>
  (F91 y1.V v2).bind fun v3 =>
  (FCount v3 c slot (Vw.mk x1.w_2 x1.w_3) x1.w_11).bind fun v4 =>
  (F91 (Vw.mk x1.w_4 x1.w_5) v4.1).bind fun v5 =>
  some (.inl (FSecond_L1.mk (IntKind.i64.wrap (x1.t11 + 1)) v4.2.1.B v4.2.1.V v5.B v5.V v4.2.2))
 else
  some (.inr (FSecond_L1.mk x1.t11 x1.w_2 x1.w_3 x1.w_4 x1.w_5 x1.w_11))
def FSecond (x : Nd) (o : List Of) (c : Cf) (slot : Int) : Option (Vw × Vw × Bool) :=
 (iter (FSecond_s1 o c slot) big (FSecond_L1.mk 0 x.V.B x.V.V x.In.B x.In.V x.Full)).bind fun v1 =>
 (F74 c slot x.No).bind fun v6 =>
 bif v6 then
  (F1048 c (Vw.mk v1.w_2 v1.w_3) (IntKind.i64.wrap (slot - 1))).bind fun v7 =>
  (F91 (Vw.mk v1.w_4 v1.w_5) (Vw.mk [] [Vt.mk x.No slot v7])).bind fun v8 =>
  some (Vw.mk v1.w_2 v1.w_3, v8, v1.w_11)
 else
  some (Vw.mk v1.w_2 v1.w_3, Vw.mk v1.w_4 v1.w_5, v1.w_11)
theorem cFSecond {x : Nd} {o : List Of} {c : Cf} {slot : Int} {tl : List Of} {c0 : Cf} {n0 : Nd} {in0 : Vw} {r_ : Vw × Vw × Bool} (hr : FSecond x o c slot = some r_) : LC Tryz.prog 100 [.ptr 4 0] [.box (cfO c0), .box (ndO n0), .box (vwO in0), .box zn0, .box [(iQ x.No), (iQ x.Tick), (kB x.V.B), (kV x.V.V), (kB x.In.B), (kV x.In.V), (jO 5 o), (uQ x.C.ID.1), (uQ x.C.ID.2), (iQ x.C.Slot), (iQ x.C.Revoked), (bQ x.Full), (kI c.W), (uQ c.Seed), (iQ c.Epoch), (iQ c.Num), (iQ c.Den), (iQ slot), (kO tl)], .vec 9 (o.map ofP)] (Is (.tup []) [.box (cfO c0), .box (ndO n0), .box (vwO in0), .box zn0, .box [(iQ x.No), (iQ x.Tick), (kB r_.1.B), (kV r_.1.V), (kB r_.2.1.B), (kV r_.2.1.V), (kO ([] : List Of)), (uQ x.C.ID.1), (uQ x.C.ID.2), (iQ x.C.Slot), (iQ x.C.Revoked), (bQ r_.2.2), (kI c.W), (uQ c.Seed), (iQ c.Epoch), (iQ c.Num), (iQ c.Den), (iQ slot), (kO tl)], .vec 9 (o.map ofP)]) := by
 refine zh2 Tryz.func100 Z Z Z ?_;unfold FSecond at hr;refine zQ (zQ (zR (zM Z (yS Z (zn Z Z) (yS Z (zA Z Z ft3090_0) (yS Z (zA Z Z ft1071_4) (yS Z (zD Z Z Z vt1036 Z Z) (yS Z (LOp.lenVM Z Z Z (by kernel_rfl)) (zM Z (zN (zT ?_)))))))))));obtain ⟨v1, hb_v1, ho_v1⟩ := zB hr;clear hr;refine LW.tail (E := [(0, .ptr 4 0)]) (O := [.box (cfO c0), .box (ndO n0), .box (vwO in0), .box zn0, .box [(iQ x.No), (iQ x.Tick), (kB v1.w_2), (kV v1.w_3), (kB v1.w_4), (kV v1.w_5), (jO 5 o), (uQ x.C.ID.1), (uQ x.C.ID.2), (iQ x.C.Slot), (iQ x.C.Revoked), (bQ v1.w_11), (kI c.W), (uQ c.Seed), (iQ c.Epoch), (iQ c.Num), (iQ c.Den), (iQ slot), (kO tl)], .vec 9 (o.map ofP)]) ?_ (fun env_v1 H_v1 hw_v1 => ?_)
 ·refine LW.block ?_;refine LW.iterB (E := fun x1 : FSecond_L1 => [(0, .ptr 4 0), (9, (jO 5 o)), (10, .p (.int .i64 (o.length : Int))), (11, (iQ x1.t11))]) (O := fun x1 => [.box (cfO c0), .box (ndO n0), .box (vwO in0), .box zn0, .box [(iQ x.No), (iQ x.Tick), (kB x1.w_2), (kV x1.w_3), (kB x1.w_4), (kV x1.w_5), (jO 5 o), (uQ x.C.ID.1), (uQ x.C.ID.2), (iQ x.C.Slot), (iQ x.C.Revoked), (bQ x1.w_11), (kI c.W), (uQ c.Seed), (iQ c.Epoch), (iQ c.Num), (iQ c.Den), (iQ slot), (kO tl)], .vec 9 (o.map ofP)]) hb_v1 (zW 6 ⟨rfl, rfl, rfl, rfl, trivial⟩ Z Z Z Z) (fun x1 z_x1 hr hb_x1 => ?_);unfold FSecond_s1 at hr;refine zQ (zR (yS Z (zb2 Z Z Z Z) (zN (zT (zQ ?_)))));refine zX Z (fun g1 => ?_) (fun g1 => ?_)
  ·
   refine zi g1 hr fun hr => zk (zT (zQ (zl (zQ (zR (zb hr fun y1 h_y1 hr => yS Z (LOp.indexAddrVX Z Z Z Z st1036 h_y1) (yS Z (LOp.loadVX Z Z Z vt1077 h_y1 Z Z Z Z) (yS Z (ze Z zt1077 Z Z) (yS Z (zs Z Z Z Z vt1077 Z Z Z Z) (zN (zT ?_)))))))))));refine LW.drawWJ (z := 4) (e := 18) (J := (fun o_ => ∃ a_ b_ c_ : LV, o_ = .box [(iQ x.No), (iQ x.Tick), a_, b_, (kB x1.w_4), (kV x1.w_5), (jO 5 o), (uQ x.C.ID.1), (uQ x.C.ID.2), (iQ x.C.Slot), (iQ x.C.Revoked), c_, (kI c.W), (uQ c.Seed), (iQ c.Epoch), (iQ c.Num), (iQ c.Den), (iQ slot), (kO tl)])) (by kernel_rfl) (by kernel_rfl) (fun o_ h_ => ⟨_, _, _, (zJ h_).symm⟩) ?_;refine LFJ.mv Z (LFJ.mv Z ?_);refine LFJ.st (F := []) (s := none) Z Z Z (fun H _ => LOp.nilCheck Z Z) (fun _ => trivial) Z ?_;refine LFJ.st (F := []) (s := none) Z Z Z (fun H _ => zA Z Z ft3090_0) (fun _ => trivial) Z ?_;refine LFJ.st (F := []) (s := none) Z Z Z (fun H _ => zA Z Z ft1071_3) (fun _ => trivial) Z ?_;refine LFJ.look Z Z Z (by kernel_rfl) Z (fun H_ y_ hy_ hj_ => by obtain ⟨a_, b_, c_, rfl⟩ := hj_; exact zD Z Z hy_ vt75 Z Z) ?_;refine LFJ.mv Z ?_;refine LFJ.st (F := []) (s := none) Z Z Z (fun H _ => zA Z Z ft1077_3) (fun _ => trivial) Z ?_;refine LFJ.st Z Z Z (LAt.load Z Z Z vt75 Z Z) (fun _ => trivial) Z ?_;refine LFJ.st (F := []) (s := none) Z Z Z (fun H _ => zA Z Z ft1077_2) (fun _ => trivial) Z ?_;refine LFJ.st Z Z Z (LAt.load Z Z Z vt42 Z Z) (fun _ => trivial) Z ?_;obtain ⟨v2, h_v2, hr⟩ := zB hr;refine LFJ.st (F := []) (s := none) Z Z Z (fun H _ => zC Z Z Z (by kernel_rfl) (zp (c3098 h_v2) (.cons zv .nil))) (fun _ => trivial) Z ?_;obtain ⟨v3, h_v3, hr⟩ := zB hr;refine LFJ.st (F := []) (s := none) Z Z Z (fun H _ => zC Z Z Z (by kernel_rfl) (zp (c91 h_v3) (.cons zv (.cons zv .nil)))) (fun _ => trivial) Z ?_;obtain ⟨v4, h_v4, hr⟩ := zB hr;refine LFJ.st Z Z Z (LAt.preH (s := some (4, .box [(iQ x.No), (iQ x.Tick), (kB v4.2.1.B), (kV v4.2.1.V), (kB x1.w_4), (kV x1.w_5), (jO 5 o), (uQ x.C.ID.1), (uQ x.C.ID.2), (iQ x.C.Slot), (iQ x.C.Revoked), (bQ v4.2.2), (kI c.W), (uQ c.Seed), (iQ c.Epoch), (iQ c.Num), (iQ c.Den), (iQ slot), (kO tl)])) (fun _ => zC Z Z Z (by kernel_rfl) (LC.pre (cFCount (x := Nd.mk x.No x.Tick (Vw.mk x1.w_2 x1.w_3) (Vw.mk x1.w_4 x1.w_5) [] x.C x1.w_11) (o := o) (tl := tl) h_v4) Z Z Z)) Z Z Z Z) (fun _ _ => ⟨_, _, _, rfl⟩) Z ?_;obtain ⟨v5, h_v5, hr⟩ := zB hr;refine LFJ.st (F := []) (s := none) Z Z Z (fun H _ => zC Z Z Z (by kernel_rfl) (zp (c91 h_v5) (.cons zv (.cons zv .nil)))) (fun _ => trivial) Z ?_;refine LFJ.st (F := []) (s := none) Z Z Z (fun H _ => LOp.nilCheck Z Z) (fun _ => trivial) Z ?_;refine LFJ.st (F := []) (s := none) Z Z Z (fun H _ => zA Z Z ft3090_0) (fun _ => trivial) Z ?_;refine LFJ.st (F := []) (s := none) Z Z Z (fun H _ => zA Z Z ft1071_3) (fun _ => trivial) Z ?_;refine LFJ.st Z Z Z (LAt.store Z Z Z Z vt75 Z Z Z) (fun h => absurd h (by decide)) Z ?_;refine LFJ.nil ⟨by kernel_rfl, ?_⟩;refine inBlk_n (zT (zR (yS Z (zb2 Z Z Z Z) (zM Z (zN (zT ?_))))));obtain rfl := zJ hr;exact ⟨_, rfl, zW 6 ⟨rfl, rfl, rfl, rfl, trivial⟩ Z Z Z rfl⟩
  ·
   refine zo g1 hr fun hr => zq (thn_e (thn_e (zy (zT ?_))));obtain rfl := zJ hr;have hr := congrArg some (hb_x1 _ rfl);obtain rfl := zJ hr;exact zW 6 ⟨Z, trivial⟩ Z Z Z Z
 ·have hr := ho_v1;clear hb_v1;refine zT (LW.weak hw_v1 (zQ (zR (zM Z (yS Z (zn Z Z) (yS Z (zA Z Z ft3090_0) (yS Z (zA Z Z ft1071_4) (yS Z (zs Z Z Z Z vt1036 Z Z Z Z) (zN (zT (zQ (LW.ent (Ent.zsCell (i := 4) (j := 6) (m := 9) Z Z Z Z) (LW.draw2 (by kernel_rfl) (by kernel_rfl) (zH Z (yE Z (zn Z Z) (yE Z (zA Z Z ft3090_1) (yE Z (zD Z Z Z vt55 Z Z) (zH Z (yE Z (zn Z Z) (yE Z (zA Z Z ft3090_2) (yE Z (zD Z Z Z vt3 Z Z) (zH Z (yE Z (zn Z Z) ?_)))))))))))))))))))))));refine yE Z (zA Z Z ft3090_0) (yE Z (zA Z Z ft1071_0) (yE Z (zD Z Z Z vt3 Z Z) (zb hr fun v6 h_v6 hr => yE Z (zC Z Z Z (by kernel_rfl) (zp (c74 h_v6) (.cons zv (.cons zv (.cons zv .nil))))) (LO.nil (zT ?_)))));refine zX Z (fun g2 => ?_) (fun g2 => ?_)
  ·
   refine zi g2 hr fun hr => zQ (LW.ent (Ent.slot Z) (LW.drawW (by kernel_rfl) (by kernel_rfl) (zK Z ?_)));refine yF (F := []) (s := none) Z (fun H _ => zn Z Z) Z ?_;refine yF (F := []) (s := none) Z (fun H _ => zA Z Z ft3090_0) Z ?_;refine yF (F := []) (s := none) Z (fun H _ => zA Z Z ft1071_0) Z ?_;refine yF Z (zd Z Z Z vt3 Z Z) Z (zK Z ?_);refine yF (F := []) (s := none) Z (fun H _ => zn Z Z) Z ?_;refine yF (F := []) (s := none) Z (fun H _ => zA Z Z ft3090_2) Z ?_;refine yF Z (zd Z Z Z vt3 Z Z) Z (zK Z (zK Z ?_));refine yF (F := []) (s := none) Z (fun H _ => zn Z Z) Z ?_;refine yF (F := []) (s := none) Z (fun H _ => zA Z Z ft3090_2) Z ?_;refine yF Z (zd Z Z Z vt3 Z Z) Z ?_;refine yF (F := []) (s := none) Z (fun H _ => zb2 Z Z Z Z) Z ?_;obtain ⟨v7, h_v7, hr⟩ := zB hr;refine yF Z (LAt.preH (s := none) (fun _ => zC Z Z Z (by kernel_rfl) (LC.pre (cFWheadN (x := Nd.mk x.No x.Tick (Vw.mk v1.w_2 v1.w_3) (Vw.mk v1.w_4 v1.w_5) [] x.C v1.w_11) (o := o) (tl := tl) (wheadN_of h_v7)) Z Z Z)) Z Z Z Z) Z ?_;refine yF (F := []) (s := none) Z (fun H _ => LOp.build Z bt82 Z Z Z) Z ?_;refine yF Z (LAt.alloc Z zt82 (id := 6) Z) Z (yF Z (zt Z Z Z Z vt82 Z Z Z) Z ?_);refine LF.nil ⟨by kernel_rfl, ?_⟩;refine zT (LW.drawW (by kernel_rfl) (by kernel_rfl) (zK Z (zK Z ?_)));refine yF (F := []) (s := none) Z (fun H _ => zn Z Z) Z ?_;refine yF (F := []) (s := none) Z (fun H _ => zA Z Z ft3090_0) Z ?_;refine yF (F := []) (s := none) Z (fun H _ => zA Z Z ft1071_3) Z ?_;refine yF Z (zd Z Z Z vt75 Z Z) Z (yF Z (zd Z Z Z vt82 Z Z) Z ?_);refine yF (F := []) (s := none) Z (fun H _ => zB2 Z st68 Z Z Z Z Z) Z ?_;refine yF (F := []) (s := none) Z (fun H _ => LOp.build Z bt75 Z Z Z) Z ?_;obtain ⟨v8, h_v8, hr⟩ := zB hr;refine yF (F := []) (s := none) Z (fun H _ => zC Z Z Z (by kernel_rfl) (zp (c91 h_v8) (.cons zv (.cons (Conv.agg (.cons Conv.zs (.cons zv .nil))) .nil)))) Z ?_;refine yF (F := []) (s := none) Z (fun H _ => zn Z Z) Z ?_;refine yF (F := []) (s := none) Z (fun H _ => zA Z Z ft3090_0) Z ?_;refine yF (F := []) (s := none) Z (fun H _ => zA Z Z ft1071_3) Z ?_;refine yF Z (zt Z Z Z Z vt75 Z Z Z) Z ?_;refine LF.nil ⟨by kernel_rfl, ?_⟩;obtain rfl := zJ hr;exact fin_endW (env' := []) (H' := [.box (cfO c0), .box (ndO n0), .box (vwO in0), .box zn0, .box [(iQ x.No), (iQ x.Tick), (kB v1.w_2), (kV v1.w_3), (kB v8.B), (kV v8.V), (kO ([] : List Of)), (uQ x.C.ID.1), (uQ x.C.ID.2), (iQ x.C.Slot), (iQ x.C.Revoked), (bQ v1.w_11), (kI c.W), (uQ c.Seed), (iQ c.Epoch), (iQ c.Num), (iQ c.Den), (iQ slot), (kO tl)], .vec 9 (o.map ofP)]) (zW 6 trivial Z Z Z Z) .none (⟨rfl, rfl⟩)
  ·
   refine zo g2 hr fun hr => LW.skip ?_;obtain rfl := zJ hr;exact fin_end .none (⟨rfl, rfl⟩)
def FThird (x : Nd) (c : Cf) (slot : Int) : Option (Vw × Vw × Cu × Bool) :=
 (FCount x.In c slot x.V x.Full).bind fun v1 =>
 (F1048 c v1.2.1 slot).bind fun v2 =>
 (F3099 c v1.2.1 slot v2).bind fun v3 =>
 bif few v1.2.1.B then
  some (v1.2.1, v1.1, moveOf x.C v1.2.1.B v2 v3.1 v3.2 slot, v1.2.2)
 else none
theorem cFThird {x : Nd} {o : List Of} {c : Cf} {slot : Int} {tl : List Of} {c0 : Cf} {n0 : Nd} {in0 : Vw} {r_ : Vw × Vw × Cu × Bool} (hr : FThird x c slot = some r_) : LC Tryz.prog 101 [.ptr 4 0] [.box (cfO c0), .box (ndO n0), .box (vwO in0), .box zn0, .box [(iQ x.No), (iQ x.Tick), (kB x.V.B), (kV x.V.V), (kB x.In.B), (kV x.In.V), (jO 5 o), (uQ x.C.ID.1), (uQ x.C.ID.2), (iQ x.C.Slot), (iQ x.C.Revoked), (bQ x.Full), (kI c.W), (uQ c.Seed), (iQ c.Epoch), (iQ c.Num), (iQ c.Den), (iQ slot), (kO tl)], .vec 9 (o.map ofP)] (Is (.tup []) [.box (cfO c0), .box (ndO n0), .box (vwO in0), .box zn0, .box [(iQ x.No), (iQ x.Tick), (kB r_.1.B), (kV r_.1.V), (kB r_.2.1.B), (kV r_.2.1.V), (kO ([] : List Of)), (uQ r_.2.2.1.ID.1), (uQ r_.2.2.1.ID.2), (iQ r_.2.2.1.Slot), (iQ r_.2.2.1.Revoked), (bQ r_.2.2.2), (kI c.W), (uQ c.Seed), (iQ c.Epoch), (iQ c.Num), (iQ c.Den), (iQ slot), (kO tl)], .vec 9 (o.map ofP)]) := by
 refine zh2 Tryz.func101 Z Z Z ?_;unfold FThird at hr;refine zQ (zR (zM Z (zM Z (zM Z (yS Z (zn Z Z) (yS Z (zA Z Z ft3090_0) (yS Z (zA Z Z ft1071_3) (yS Z (zD Z Z Z vt75 Z Z) (zb hr fun v1 h_v1 hr => yS Z (zC Z Z Z (by kernel_rfl) (cFCount (x := Nd.mk x.No x.Tick x.V x.In [] x.C x.Full) (o := o) (tl := tl) h_v1)) (yS Z (zn Z Z) (yS Z (zA Z Z ft3090_0) (yS Z (zA Z Z ft1071_3) (yS Z (zs Z Z Z Z vt75 Z Z Z Z) (zN (zT (zQ (zR (zM Z (yS Z (zn Z Z) (yS Z (zA Z Z ft3090_0) (yS Z (zA Z Z ft1071_4) (yS Z (zs Z Z Z Z vt1036 Z Z Z Z) ?_))))))))))))))))))))));refine zN (zT (zQ (LW.ent (Ent.zsCell (i := 4) (j := 6) (m := 9) Z Z Z Z) (zR (zM Z (zM Z (yS Z (zn Z Z) (yS Z (zA Z Z ft3090_2) (yS Z (zD Z Z Z vt3 Z Z) (zb hr fun v2 h_v2 hr => yS Z (zC Z Z Z (by kernel_rfl) (cFWheadN (x := Nd.mk x.No x.Tick v1.2.1 v1.1 [] x.C v1.2.2) (o := o) (tl := tl) (wheadN_of h_v2))) (yS Z (ze Z zt24 Z Z) (yS Z (zs Z Z Z Z vt24 Z Z Z Z) (zN (zT (zQ (LW.ent (Ent.slot Z) (LW.drawW (by kernel_rfl) (by kernel_rfl) (zK Z ?_))))))))))))))))));refine yF (F := []) (s := none) Z (fun H _ => zn Z Z) Z ?_;refine yF (F := []) (s := none) Z (fun H _ => zA Z Z ft3090_1) Z ?_;refine yF Z (zd Z Z Z vt55 Z Z) Z (zK Z ?_);refine yF (F := []) (s := none) Z (fun H _ => zn Z Z) Z ?_;refine yF (F := []) (s := none) Z (fun H _ => zA Z Z ft3090_0) Z ?_;refine yF (F := []) (s := none) Z (fun H _ => zA Z Z ft1071_2) Z ?_;refine yF Z (zd Z Z Z vt75 Z Z) Z (zK Z ?_);refine yF (F := []) (s := none) Z (fun H _ => zn Z Z) Z ?_;refine yF (F := []) (s := none) Z (fun H _ => zA Z Z ft3090_2) Z ?_;refine yF Z (zd Z Z Z vt3 Z Z) Z (yF Z (zd Z Z Z vt24 Z Z) Z (zb hr fun v3 h_v3 hr => ?_));refine yF (F := []) (s := none) Z (fun H _ => zC Z Z Z (by kernel_rfl) (zp (c3099 h_v3) (.cons zv (.cons zv (.cons zv (.cons zv .nil)))))) Z ?_;refine zK Z ?_;refine yF (F := []) (s := none) Z (fun H _ => zX2 Z Z Z) Z ?_;refine yF (F := []) (s := none) Z (fun H _ => zX2 Z Z Z) Z ?_;refine yF Z (LAt.alloc Z zt24 (id := 7) Z) Z (yF Z (zt Z Z Z Z vt24 Z Z Z) Z (zK Z ?_));refine LF.nil ⟨by kernel_rfl, ?_⟩;refine zT (LW.drawW (by kernel_rfl) (by kernel_rfl) (zK Z (zK Z ?_)));refine yF (F := []) (s := none) Z (fun H _ => zn Z Z) Z ?_;refine yF (F := []) (s := none) Z (fun H _ => zA Z Z ft3090_0) Z ?_;refine yF (F := []) (s := none) Z (fun H _ => zA Z Z ft1071_5) Z ?_;refine yF Z (zd Z Z Z vt26 Z Z) Z (zK Z ?_);refine yF (F := []) (s := none) Z (fun H _ => zn Z Z) Z ?_;refine yF (F := []) (s := none) Z (fun H _ => zA Z Z ft3090_0) Z ?_;refine yF (F := []) (s := none) Z (fun H _ => zA Z Z ft1071_2) Z ?_;refine yF (F := []) (s := none) Z (fun H _ => zA Z Z ft75_0) Z ?_;refine yF Z (zd Z Z Z vt27 Z Z) Z (yF Z (zd Z Z Z vt24 Z Z) Z (yF Z (zd Z Z Z vt24 Z Z) Z (zK Z (zK Z ?_))));refine yF (F := []) (s := none) Z (fun H _ => zn Z Z) Z ?_;refine yF (F := []) (s := none) Z (fun H _ => zA Z Z ft3090_2) Z ?_;refine yF Z (zd Z Z Z vt3 Z Z) Z (zg hr fun q1 hr => ?_);refine yF (F := []) (s := none) Z (fun H _ => zC Z Z Z (by kernel_rfl) (zp (c37 (c := x.C) (l := v1.2.1.B) (head := v2) (found := v3.1) (is := v3.2) (slot := slot) (few_le q1)) (.cons zv (.cons zv (.cons zv (.cons zv (.cons zv (.cons zv .nil)))))))) Z ?_;refine yF (F := []) (s := none) Z (fun H _ => zn Z Z) Z ?_;refine yF (F := []) (s := none) Z (fun H _ => zA Z Z ft3090_0) Z ?_;refine yF (F := []) (s := none) Z (fun H _ => zA Z Z ft1071_5) Z ?_;refine yF Z (zt Z Z Z Z vt26 Z Z Z) Z ?_;refine LF.nil ⟨by kernel_rfl, ?_⟩;obtain rfl := zJ hr;refine fin_endW (env' := []) (H' := [.box (cfO c0), .box (ndO n0), .box (vwO in0), .box zn0, .box [(iQ x.No), (iQ x.Tick), (kB v1.2.1.B), (kV v1.2.1.V), (kB v1.1.B), (kV v1.1.V), (kO ([] : List Of)), .p (.int .u64 (((moveOf x.C v1.2.1.B v2 v3.1 v3.2 slot).ID).1)), .p (.int .u64 (((moveOf x.C v1.2.1.B v2 v3.1 v3.2 slot).ID).2)), .p (.int .i64 ((moveOf x.C v1.2.1.B v2 v3.1 v3.2 slot).Slot)), .p (.int .i64 ((moveOf x.C v1.2.1.B v2 v3.1 v3.2 slot).Revoked)), (bQ v1.2.2), (kI c.W), (uQ c.Seed), (iQ c.Epoch), (iQ c.Num), (iQ c.Den), (iQ slot), (kO tl)], .vec 9 (o.map ofP)]) (zW 6 trivial Z Z Z Z) .none ?_
 exact ⟨rfl, rfl⟩
open Go.Proofs
theorem by_bool {b : Bool} {p : Prop} (h1 : b = true → p) (h2 : b = false → p) : p := by cases b <;> simp_all
theorem tick_is {a b : Int} (h : (a == b) = true) : LV.p (.int .i64 a) = (iQ b) := by rw [eq_of_beq h]
structure F3018_L1 where
 t57 : Int
 o5 : List Of
def F3018_s1 (n : Nd) (x1 : F3018_L1) : Option (F3018_L1 ⊕ F3018_L1) :=
 bif decide (x1.t57 < (n.O.length : Int)) then
  (ix n.O x1.t57).bind fun y1 =>
  (F3052 y1).bind fun v6 =>
  bif room x1.o5.length [v6].length 104 then
   some (.inl (F3018_L1.mk (IntKind.i64.wrap (x1.t57 + 1)) (x1.o5 ++ [v6])))
  else none
 else
  some (.inr (F3018_L1.mk x1.t57 x1.o5))
def F3018 (c : Cf) (n : Nd) (v_in : Vw) (o : List Of) : Option (Nd × (List Of)) :=
 (
  (F64 c).bind fun v2 =>
  bif !v2 then
   some true
  else
   bif decide (n.Tick < 3) then
    some true
   else
    some (decide ((IntKind.i64.wrap (n.Tick.tdiv 3)) > 1048576))
 ).bind fun v1 =>
 bif v1 then
  (F3051 n.V).bind fun v3 =>
  (F3051 n.In).bind fun v4 =>
  (iter (F3018_s1 n) big (F3018_L1.mk 0 ([] : List Of))).bind fun v5 =>
  some (Nd.mk n.No n.Tick v3 v4 v5.o5 n.C n.Full, [])
 else
  (F85 c v_in).bind fun v7 =>
  (F91 n.In v7).bind fun v8 =>
  (FHear o (Nd.mk n.No n.Tick n.V v8 n.O n.C n.Full) c (IntKind.i64.wrap (n.Tick.tdiv 3))).bind fun v9 =>
  bif (n.Tick.tmod 3) == 0 then
   (FFirst (Nd.mk n.No n.Tick n.V v8 [] n.C v9.2) c (IntKind.i64.wrap (n.Tick.tdiv 3)) ([] : List Of)).bind fun v10 =>
   some (Nd.mk n.No (IntKind.i64.wrap (n.Tick + 1)) v10.1 v10.2.1 v9.1 n.C v10.2.2.1, v10.2.2.2)
  else
   bif (n.Tick.tmod 3) == 1 then
    (FSecond (Nd.mk n.No n.Tick n.V v8 [] n.C v9.2) v9.1 c (IntKind.i64.wrap (n.Tick.tdiv 3))).bind fun v11 =>
    some (Nd.mk n.No (IntKind.i64.wrap (n.Tick + 1)) v11.1 v11.2.1 [] n.C v11.2.2, [])
   else
    bif (n.Tick.tmod 3) == 2 then
     (FThird (Nd.mk n.No n.Tick n.V v8 [] n.C v9.2) c (IntKind.i64.wrap (n.Tick.tdiv 3))).bind fun v12 =>
     some (Nd.mk n.No (IntKind.i64.wrap (n.Tick + 1)) v12.1 v12.2.1 [] v12.2.2.1 v12.2.2.2, [])
    else none
theorem c3018 {c : Cf} {n : Nd} {v_in : Vw} {o : List Of} {r_ : Nd × (List Of)} (hr : F3018 c n v_in o = some r_) : LPure Tryz.prog 53 [cfP c, ndP n, vwP v_in, .slice 9 (o.map ofP)] [ndP r_.1, .slice 9 (r_.2.map ofP)] := by
 refine zh Tryz.func53 Z Z Z Z ?_;unfold F3018 at hr;refine zQ (zR (yS Z (zbx Z Z Z Z Z) (yS Z (zbx Z Z Z Z Z) (yS Z (zbx Z Z Z Z Z) (yS Z (ze Z zt1071 Z Z) (zM Z (zN (zT (zQ (zR (yS Z (zD Z Z Z vt1071 Z Z) (yS Z (zD Z Z Z vt55 Z Z) (yS Z (zA Z Z ft1071_1) (yS Z (zD Z Z Z vt3 Z Z) (yS Z (LOp.quo Z Z Z (by decide)) (yS Z (LOp.build Z bt3090 Z Z Z) (yS Z (zbx Z Z Z Z Z) (zM Z (zN (zT (zQ ?_)))))))))))))))))))));obtain ⟨v1, hb_v1, ho_v1⟩ := zB hr;clear hr;refine LW.cut (E := [(3, (kO o)), (4, .ptr 0 0), (5, .ptr 1 0), (6, .ptr 2 0), (8, .ptr 3 0), (9, .zs), (10, .ptr 4 0), (35, (bQ v1))]) (O := [.box (cfO c), .box (ndO n), .box (vwO v_in), .box zn0, .box [(iQ n.No), (iQ n.Tick), (kB n.V.B), (kV n.V.V), (kB n.In.B), (kV n.In.V), (kO n.O), (uQ n.C.ID.1), (uQ n.C.ID.2), (iQ n.C.Slot), (iQ n.C.Revoked), (bQ n.Full), (kI c.W), (uQ c.Seed), (iQ c.Epoch), (iQ c.Num), (iQ c.Den), .p (.int .i64 (IntKind.i64.wrap (n.Tick.tdiv 3))), .zs]]) ?_ ?_
 ·have hr := hb_v1;refine zR (yS Z (zD Z Z Z vt55 Z Z) (zb hr fun v2 h_v2 hr => yS Z (zC Z Z Z (by kernel_rfl) (zp (c64 h_v2) (.cons zv .nil))) (yS Z (LOp.not Z Z) (zM Z ?_))));refine zc 24 Z (fun g1 => ?_) (fun g1 => ?_)
  ·
   refine zi g1 hr fun hr => yU Z (gd g1 Z) Z (yU Z (gd g1 Z) Z (yU Z (gd g1 Z) Z (yS Z (zpT Z (gdl g1 Z) Z) (zM Z (yU Z Z Z (yU Z Z Z (yU Z Z Z (yU Z Z Z (yU Z Z Z (yS Z (zpT Z Z Z) (zN (zT ?_))))))))))));obtain rfl := zJ hr;exact zW 5 ⟨Z, Z, Z, Z, Z, Z, Z, Z, trivial⟩ Z Z Z Z
  ·
   refine zo g1 hr fun hr => yV Z (gd g1 Z) (zA Z Z ft1071_1) (yV Z (gd g1 Z) (zD Z Z Z vt3 Z Z) (yV Z (gd g1 Z) (zb2 Z Z Z Z) (yS Z (zpF Z (gdl g1 Z) Z) (zM Z ?_))));refine zc 29 Z (fun g2 => ?_) (fun g2 => ?_)
   ·
    refine zi g2 hr fun hr => yU Z (gd g2 Z) Z (yU Z (gd g2 Z) Z (yU Z (gd g2 Z) Z (yU Z (gd g2 Z) Z (yU Z (gd g2 Z) Z (yS Z (zpT Z (gdl g2 Z) Z) (zN (zT ?_)))))));obtain rfl := zJ hr;exact zW 5 ⟨Z, Z, Z, Z, Z, Z, Z, Z, trivial⟩ Z Z Z Z
   ·
    refine zo g2 hr fun hr => yV Z (gd g2 Z) (zm Z Z) (yV Z (gd g2 Z) (zn Z Z) (yV Z (gd g2 Z) (zA Z Z ft3090_2) (yV Z (gd g2 Z) (zD Z Z Z vt3 Z Z) (yV Z (gd g2 Z) (zb2 Z Z Z Z) (yS Z (zpF Z (gdl g2 Z) Z) (zN (zT ?_)))))));obtain rfl := zJ hr;exact zW 5 ⟨Z, Z, Z, Z, Z, Z, Z, Z, trivial⟩ Z Z Z Z
 ·have hr := ho_v1;clear hb_v1;refine zX Z (fun g3 => ?_) (fun g3 => ?_)
  ·
   refine zi g3 hr fun hr => zQ (LW.drawW (by kernel_rfl) (by kernel_rfl) (zK Z (zK Z ?_)));refine yF (F := []) (s := none) Z (fun H _ => zA Z Z ft1071_2) Z ?_;refine yF Z (zd Z Z Z vt75 Z Z) Z (zb hr fun v3 h_v3 hr => ?_);refine yF (F := []) (s := none) Z (fun H _ => zC Z Z Z (by kernel_rfl) (zp (c3051 h_v3) (.cons zv .nil))) Z ?_;refine yF (F := []) (s := none) Z (fun H _ => zA Z Z ft1071_3) Z ?_;refine yF Z (zd Z Z Z vt75 Z Z) Z (zb hr fun v4 h_v4 hr => ?_);refine yF (F := []) (s := none) Z (fun H _ => zC Z Z Z (by kernel_rfl) (zp (c3051 h_v4) (.cons zv .nil))) Z ?_;refine yF (F := []) (s := none) Z (fun H _ => zn Z Z) Z ?_;refine yF (F := []) (s := none) Z (fun H _ => zA Z Z ft3090_0) Z ?_;refine yF (F := []) (s := none) Z (fun H _ => zA Z Z ft1071_2) Z ?_;refine yF Z (zt Z Z Z Z vt75 Z Z Z) Z ?_;refine yF (F := []) (s := none) Z (fun H _ => zn Z Z) Z ?_;refine yF (F := []) (s := none) Z (fun H _ => zA Z Z ft3090_0) Z ?_;refine yF (F := []) (s := none) Z (fun H _ => zA Z Z ft1071_3) Z ?_;refine yF Z (zt Z Z Z Z vt75 Z Z Z) Z ?_;refine LF.nil ⟨by kernel_rfl, ?_⟩;refine zT (zQ (zR (zM Z (yS Z (zn Z Z) (yS Z (zA Z Z ft3090_0) (yS Z (zA Z Z ft1071_4) (yS Z (zs Z Z Z Z vt1036 Z Z Z Z) (zN (zT (zQ (zQ (LW.ent (Ent.lazyCell (i := 4) (j := 6) (m := 9) Z Z Z Z Z Z) (zR (yS Z (zA Z Z ft1071_4) (yS Z (zD Z Z Z vt1036 Z Z) (yS Z (zlM Z Z (by kernel_rfl)) (zM Z (zN (zT ?_)))))))))))))))))));obtain ⟨v5, hb_v5, ho_v5⟩ := zB hr;clear hr;refine LW.tail (E := [(3, (kO o)), (4, .ptr 0 0), (5, .ptr 1 0), (6, .ptr 2 0), (8, .ptr 3 0), (9, .zs), (10, .ptr 4 0)]) (O := [.box (cfO c), .box (ndO n), .box (vwO v_in), .box zn0, .box [(iQ n.No), (iQ n.Tick), (kB v3.B), (kV v3.V), (kB v4.B), (kV v4.V), (jO 5 v5.o5), (uQ n.C.ID.1), (uQ n.C.ID.2), (iQ n.C.Slot), (iQ n.C.Revoked), (bQ n.Full), (kI c.W), (uQ c.Seed), (iQ c.Epoch), (iQ c.Num), (iQ c.Den), .p (.int .i64 (IntKind.i64.wrap (n.Tick.tdiv 3))), .zs], .vec 9 (v5.o5.map ofP)]) ?_ (fun env_v5 H_v5 hw_v5 => ?_)
   ·refine LW.block ?_;refine LW.iterB (E := fun x1 : F3018_L1 => [(3, (kO o)), (4, .ptr 0 0), (5, .ptr 1 0), (6, .ptr 2 0), (8, .ptr 3 0), (9, .zs), (10, .ptr 4 0), (55, (kO n.O)), (56, .p (.int .i64 (n.O.length : Int))), (57, (iQ x1.t57))]) (O := fun x1 => [.box (cfO c), .box (ndO n), .box (vwO v_in), .box zn0, .box [(iQ n.No), (iQ n.Tick), (kB v3.B), (kV v3.V), (kB v4.B), (kV v4.V), (jO 5 x1.o5), (uQ n.C.ID.1), (uQ n.C.ID.2), (iQ n.C.Slot), (iQ n.C.Revoked), (bQ n.Full), (kI c.W), (uQ c.Seed), (iQ c.Epoch), (iQ c.Num), (iQ c.Den), .p (.int .i64 (IntKind.i64.wrap (n.Tick.tdiv 3))), .zs], .vec 9 (x1.o5.map ofP)]) hb_v5 (zW 6 ⟨rfl, rfl, rfl, rfl, rfl, rfl, rfl, rfl, rfl, rfl, trivial⟩ Z Z Z Z) (fun x1 z_x1 hr hb_x1 => ?_);unfold F3018_s1 at hr;refine zQ (zR (yS Z (zb2 Z Z Z Z) (zN (zT (zQ ?_)))));refine zX Z (fun g4 => ?_) (fun g4 => ?_)
    ·
     refine zi g4 hr fun hr => zk (zT (zQ (zl (zQ (zR (zb hr fun y1 h_y1 hr => yS Z (zx Z Z Z st1036 h_y1 Z) (yS Z (zC2 Z Z Z vt1077 Z Z) (yS Z (ze Z zt1077 Z Z) (yS Z (zs Z Z Z Z vt1077 Z Z Z Z) (zN (zT (LW.drawW (by kernel_rfl) (by kernel_rfl) (zK Z (zK Z ?_))))))))))))));refine yF (F := []) (s := none) Z (fun H _ => zn Z Z) Z ?_;refine yF (F := []) (s := none) Z (fun H _ => zA Z Z ft3090_0) Z ?_;refine yF (F := []) (s := none) Z (fun H _ => zA Z Z ft1071_4) Z ?_;refine yF Z (zd Z Z Z vt1036 Z Z) Z (yF Z (zd Z Z Z vt1077 Z Z) Z (zb hr fun v6 h_v6 hr => ?_));refine yF (F := []) (s := none) Z (fun H _ => zC Z Z Z (by kernel_rfl) (zp (c3052 h_v6) (.cons zv .nil))) Z ?_;refine yF (F := []) (s := none) Z (fun H _ => zB2 Z st1036 Z Z Z Z Z) Z ?_;refine zg hr fun q1 hr => yF Z (LAt.appendX ofP x1.o5 [v6] rfl Z Z Z Z st1036 q1) Z ?_;refine yF (F := []) (s := none) Z (fun H _ => zn Z Z) Z ?_;refine yF (F := []) (s := none) Z (fun H _ => zA Z Z ft3090_0) Z ?_;refine yF (F := []) (s := none) Z (fun H _ => zA Z Z ft1071_4) Z ?_;refine yF Z (zt Z Z Z Z vt1036 Z Z Z) Z ?_;refine LF.nil ⟨by kernel_rfl, ?_⟩;refine inBlk_n (zT (zR (yS Z (zb2 Z Z Z Z) (zM Z (zN (zT ?_))))));obtain rfl := zJ hr;exact ⟨_, rfl, zW 6 ⟨rfl, rfl, rfl, rfl, rfl, rfl, rfl, rfl, rfl, rfl, trivial⟩ Z Z Z rfl⟩
    ·
     refine zo g4 hr fun hr => zq (thn_e (thn_e (zy (zT ?_))));obtain rfl := zJ hr;have hr := congrArg some (hb_x1 _ rfl);obtain rfl := zJ hr;exact zW 6 ⟨Z, Z, Z, Z, Z, Z, Z, trivial⟩ Z Z Z Z
   ·have hr := ho_v5;clear hb_v5;refine zT (LW.weak hw_v5 (zQ (zR (zM Z (yS Z (zn Z Z) (yS Z (zA Z Z ft3090_0) (yS Z (zD Z Z Z vt1071 Z Z) (yS Z (zs Z Z Z Z vt1071 Z Z Z Z) (zM Z (zN (zT (zr (thn_r ?_)))))))))))));obtain rfl := zJ hr;exact zf (.two (.cellAgg Z Z (by kernel_rfl) Z) (.tmp Z)) (⟨_, rfl, (.cons (Conv.agg (.cons zv (.cons zv (.cons zv (.cons zv (.cons zv (.cons zv (.cons (Conv.vecAll Z Z Z) (.cons zv (.cons zv (.cons zv (.cons zv (.cons zv .nil))))))))))))) (.cons Conv.zs .nil))⟩)
  ·
   refine zo g3 hr fun hr => zk (zT (zQ (LW.drawW (by kernel_rfl) (by kernel_rfl) (zK Z ?_))));refine yF (F := []) (s := none) Z (fun H _ => zA Z Z ft1071_3) Z ?_;refine yF Z (zd Z Z Z vt75 Z Z) Z (yF Z (zd Z Z Z vt55 Z Z) Z (yF Z (zd Z Z Z vt75 Z Z) Z (zb hr fun v7 h_v7 hr => ?_)));refine yF (F := []) (s := none) Z (fun H _ => zC Z Z Z (by kernel_rfl) (zp (c85 h_v7) (.cons zv (.cons zv .nil)))) Z ?_;obtain ⟨v8, h_v8, hr⟩ := zB hr;refine yF (F := []) (s := none) Z (fun H _ => zC Z Z Z (by kernel_rfl) (zp (c91 h_v8) (.cons zv (.cons zv .nil)))) Z ?_;refine yF (F := []) (s := none) Z (fun H _ => zn Z Z) Z ?_;refine yF (F := []) (s := none) Z (fun H _ => zA Z Z ft3090_0) Z ?_;refine yF (F := []) (s := none) Z (fun H _ => zA Z Z ft1071_3) Z ?_;refine yF Z (zt Z Z Z Z vt75 Z Z Z) Z ?_;refine LF.nil ⟨by kernel_rfl, ?_⟩;refine zT (zQ (LW.ent (Ent.zsCell (i := 4) (j := 18) (m := 9) Z Z Z Z) (zR (zM Z (zM Z (zb hr fun v9 h_v9 hr => yS Z (zC Z Z Z (by kernel_rfl) (cFHear (x := Nd.mk n.No n.Tick n.V v8 n.O n.C n.Full) (tl := ([] : List Of)) h_v9)) (zN (zT (zQ (zR (yS Z (LOp.build Z bt3095 Z Z Z) (yS Z (ze Z zt3095 Z Z) (yS Z (zs Z Z Z Z vt3095 Z Z Z Z) (zN (zT (zQ ?_))))))))))))))));refine by_bool (b := (n.Tick.tmod 3) == 0) (fun (g5 : ((n.Tick.tmod 3) == 0) = true) => ?_) (fun (g5 : ((n.Tick.tmod 3) == 0) = false) => ?_)
   ·
    refine zi g5 hr fun hr => zR (yS Z (zA Z Z ft1071_1) (yS Z (zD Z Z Z vt3 Z Z) (yS Z (LOp.isEq (y := (iQ 0)) (LOp.rem Z Z Z (by decide)) (tick_is g5)) (yS Z (LOp.indexAddrA Z Z Z at3095 (by decide) (by decide)) (yS Z (zD Z Z Z vt3094 Z Z) (zM Z (zb hr fun v10 h_v10 hr => yS Z (zC Z Z Z (by kernel_rfl) (LC.pre (cFFirst (x := Nd.mk n.No n.Tick n.V v8 [] n.C v9.2) (o := v9.1) (tl := ([] : List Of)) h_v10) Z Z Z)) (zN (zT (zQ (zR (zM Z (yS Z (zn Z Z) (yS Z (zA Z Z ft3090_0) (yS Z (zA Z Z ft1071_1) (yS Z (zD Z Z Z vt3 Z Z) (yS Z (zb2 Z Z Z Z) (yS Z (zn Z Z) (yS Z (zA Z Z ft3090_0) (yS Z (zA Z Z ft1071_1) (yS Z (zs Z Z Z Z vt3 Z Z Z Z) ?_)))))))))))))))))))));refine zN (zT (zQ (LW.drawW (by kernel_rfl) (by kernel_rfl) (zK Z ?_))));refine yF (F := []) (s := none) Z (fun H _ => zn Z Z) Z ?_;refine yF (F := []) (s := none) Z (fun H _ => zA Z Z ft3090_0) Z ?_;refine yF Z (zd Z Z Z vt1071 Z Z) Z (zK Z ?_);refine yF (F := []) (s := none) Z (fun H _ => zn Z Z) Z ?_;refine yF (F := []) (s := none) Z (fun H _ => zA Z Z ft3090_3) Z ?_;refine yF Z (zd Z Z Z vt1036 Z Z) Z (yF Z (zt Z Z Z Z vt1071 Z Z Z) Z (zK Z ?_));refine LF.nil ⟨by kernel_rfl, ?_⟩;refine zT (zr ?_);obtain rfl := zJ hr;exact zf (.two (.cellAgg Z Z (by kernel_rfl) Z) (.tmp Z)) (⟨_, rfl, (.cons (Conv.agg (.cons zv (.cons zv (.cons zv (.cons zv (.cons zv (.cons zv (.cons (Conv.vecAll Z Z Z) (.cons zv (.cons zv (.cons zv (.cons zv (.cons zv .nil))))))))))))) (.cons zv .nil))⟩)
   ·
    have hr := zO g5 hr;refine by_bool (b := (n.Tick.tmod 3) == 1) (fun (g6 : ((n.Tick.tmod 3) == 1) = true) => ?_) (fun (g6 : ((n.Tick.tmod 3) == 1) = false) => ?_)
    ·
     refine zi g6 hr fun hr => zR (yS Z (zA Z Z ft1071_1) (yS Z (zD Z Z Z vt3 Z Z) (yS Z (LOp.isEq (y := (iQ 1)) (LOp.rem Z Z Z (by decide)) (tick_is g6)) (yS Z (LOp.indexAddrA Z Z Z at3095 (by decide) (by decide)) (yS Z (zD Z Z Z vt3094 Z Z) (zM Z (zb hr fun v11 h_v11 hr => yS Z (zC Z Z Z (by kernel_rfl) (LC.pre (cFSecond (x := Nd.mk n.No n.Tick n.V v8 [] n.C v9.2) (o := v9.1) (tl := ([] : List Of)) h_v11) Z Z Z)) (zN (zT (zQ (zR (zM Z (yS Z (zn Z Z) (yS Z (zA Z Z ft3090_0) (yS Z (zA Z Z ft1071_1) (yS Z (zD Z Z Z vt3 Z Z) (yS Z (zb2 Z Z Z Z) (yS Z (zn Z Z) (yS Z (zA Z Z ft3090_0) (yS Z (zA Z Z ft1071_1) (yS Z (zs Z Z Z Z vt3 Z Z Z Z) ?_)))))))))))))))))))));refine zN (zT (zQ (LW.drawW (by kernel_rfl) (by kernel_rfl) (zK Z ?_))));refine yF (F := []) (s := none) Z (fun H _ => zn Z Z) Z ?_;refine yF (F := []) (s := none) Z (fun H _ => zA Z Z ft3090_0) Z ?_;refine yF Z (zd Z Z Z vt1071 Z Z) Z (zK Z ?_);refine yF (F := []) (s := none) Z (fun H _ => zn Z Z) Z ?_;refine yF (F := []) (s := none) Z (fun H _ => zA Z Z ft3090_3) Z ?_;refine yF Z (zd Z Z Z vt1036 Z Z) Z (yF Z (zt Z Z Z Z vt1071 Z Z Z) Z (zK Z ?_));refine LF.nil ⟨by kernel_rfl, ?_⟩;refine zT (zr ?_);obtain rfl := zJ hr;exact zf (.two (.cellAgg Z Z (by kernel_rfl) Z) (.tmp Z)) (⟨_, rfl, (.cons zv (.cons zv .nil))⟩)
    ·
     refine zo g6 hr fun hr => zg hr fun q2 hr => zR (yS Z (zA Z Z ft1071_1) (yS Z (zD Z Z Z vt3 Z Z) (yS Z (LOp.isEq (y := (iQ 2)) (LOp.rem Z Z Z (by decide)) (tick_is q2)) (yS Z (LOp.indexAddrA Z Z Z at3095 (by decide) (by decide)) (yS Z (zD Z Z Z vt3094 Z Z) (zM Z (zb hr fun v12 h_v12 hr => yS Z (zC Z Z Z (by kernel_rfl) (LC.pre (cFThird (x := Nd.mk n.No n.Tick n.V v8 [] n.C v9.2) (o := v9.1) (tl := ([] : List Of)) h_v12) Z Z Z)) (zN (zT (zQ (zR (zM Z (yS Z (zn Z Z) (yS Z (zA Z Z ft3090_0) (yS Z (zA Z Z ft1071_1) (yS Z (zD Z Z Z vt3 Z Z) (yS Z (zb2 Z Z Z Z) (yS Z (zn Z Z) (yS Z (zA Z Z ft3090_0) (yS Z (zA Z Z ft1071_1) ?_))))))))))))))))))));refine yS Z (zs Z Z Z Z vt3 Z Z Z Z) (zN (zT (zQ (LW.drawW (by kernel_rfl) (by kernel_rfl) (zK Z ?_)))));refine yF (F := []) (s := none) Z (fun H _ => zn Z Z) Z ?_;refine yF (F := []) (s := none) Z (fun H _ => zA Z Z ft3090_0) Z ?_;refine yF Z (zd Z Z Z vt1071 Z Z) Z (zK Z ?_);refine yF (F := []) (s := none) Z (fun H _ => zn Z Z) Z ?_;refine yF (F := []) (s := none) Z (fun H _ => zA Z Z ft3090_3) Z ?_;refine yF Z (zd Z Z Z vt1036 Z Z) Z (yF Z (zt Z Z Z Z vt1071 Z Z Z) Z (zK Z ?_));refine LF.nil ⟨by kernel_rfl, ?_⟩;refine zT (zr ?_);obtain rfl := zJ hr;exact zf (.two (.cellAgg Z Z (by kernel_rfl) Z) (.tmp Z)) (⟨_, rfl, (.cons zv (.cons zv .nil))⟩)
open Go.Proofs
theorem c4046V {α : Type} {f : α → PV} {l : List α} (hb : room 0 l.length 8 = true) : LC Tryz.prog 46 [.p (.slice 1 (l.map f))] [] (Is (.vec 1 0 (l.map f).length 0 (l.map f).length) [.vec 1 (l.map f)]) := by
 refine zh2 Tryz.func46 Z Z Z ?_;refine zQ (zR (yS Z (za Z Z) (zN (zT (zQ (zQ (zR (yS Z (zm Z Z) (LOps.cons Z Z Z (LOp.eqNil Z Z Z st49) ?_)))))))));rintro _ _ ⟨rfl, b, rfl, hn⟩;refine zN (zT ?_);refine zX Z (fun g => ?_) (fun g => ?_)
 ·have hl : l = [] := List.map_eq_nil_iff.1 (hn g);subst hl;exact zQ (zR (yS Z (za Z Z) (zN (zT (LW.ent (Ent.lazy (t := 2) (m := 1) Z Z Z) (zr (thn_r (fin_ret (.one (.tmp Z)) ⟨rfl, rfl⟩))))))))
 ·refine LW.skip ?_;exact zT (zQ (zR (yS Z (LOp.buildSlice0 Z st49) (yS Z (zm Z Z) (yS Z (LOp.appendZX f l Z Z Z Z Src.p Z st49 hb Z) (yS Z (za Z Z) (zN (zT (zr (fin_ret (.one (.tmp Z)) ⟨rfl, rfl⟩))))))))))
theorem c4081V {α : Type} {f : α → PV} {l : List α} (hb : room 0 l.length 176 = true) : LC Tryz.prog 81 [.p (.slice 12 (l.map f))] [] (Is (.vec 12 0 (l.map f).length 0 (l.map f).length) [.vec 12 (l.map f)]) := by
 refine zh2 Tryz.func81 Z Z Z ?_;refine zQ (zR (yS Z (za Z Z) (zN (zT (zQ (zQ (zR (yS Z (zm Z Z) (LOps.cons Z Z Z (LOp.eqNil Z Z Z st1035) ?_)))))))));rintro _ _ ⟨rfl, b, rfl, hn⟩;refine zN (zT ?_);refine zX Z (fun g => ?_) (fun g => ?_)
 ·have hl : l = [] := List.map_eq_nil_iff.1 (hn g);subst hl;exact zQ (zR (yS Z (za Z Z) (zN (zT (LW.ent (Ent.lazy (t := 2) (m := 12) Z Z Z) (zr (thn_r (fin_ret (.one (.tmp Z)) ⟨rfl, rfl⟩))))))))
 ·refine LW.skip ?_;exact zT (zQ (zR (yS Z (LOp.buildSlice0 Z st1035) (yS Z (zm Z Z) (yS Z (LOp.appendZX f l Z Z Z Z Src.p Z st1035 hb Z) (yS Z (za Z Z) (zN (zT (zr (fin_ret (.one (.tmp Z)) ⟨rfl, rfl⟩))))))))))
theorem c4094V {α : Type} {f : α → PV} {l : List α} (hb : room 0 l.length 104 = true) : LC Tryz.prog 94 [.p (.slice 9 (l.map f))] [] (Is (.vec 9 0 (l.map f).length 0 (l.map f).length) [.vec 9 (l.map f)]) := by
 refine zh2 Tryz.func94 Z Z Z ?_;refine zQ (zR (yS Z (za Z Z) (zN (zT (zQ (zQ (zR (yS Z (zm Z Z) (LOps.cons Z Z Z (LOp.eqNil Z Z Z st1036) ?_)))))))));rintro _ _ ⟨rfl, b, rfl, hn⟩;refine zN (zT ?_);refine zX Z (fun g => ?_) (fun g => ?_)
 ·have hl : l = [] := List.map_eq_nil_iff.1 (hn g);subst hl;exact zQ (zR (yS Z (za Z Z) (zN (zT (LW.ent (Ent.lazy (t := 2) (m := 9) Z Z Z) (zr (thn_r (fin_ret (.one (.tmp Z)) ⟨rfl, rfl⟩))))))))
 ·refine LW.skip ?_;exact zT (zQ (zR (yS Z (LOp.buildSlice0 Z st1036) (yS Z (zm Z Z) (yS Z (LOp.appendZX f l Z Z Z Z Src.p Z st1036 hb Z) (yS Z (za Z Z) (zN (zT (zr (fin_ret (.one (.tmp Z)) ⟨rfl, rfl⟩))))))))))
def F4083 (v : Vw) : Option Vw :=
 bif room 0 v.B.length 40 then
  bif room 0 v.V.length 32 then
   some v
  else none
 else none
theorem c4083 {v : Vw} {r_ : Vw} (hr : F4083 v = some r_) : LPure Tryz.prog 83 [vwP v] [vwP r_] := by
 refine zh Tryz.func83 Z Z Z Z ?_;unfold F4083 at hr;refine zQ (zR (yS Z (zbx Z Z Z Z Z) (yS Z (ze Z zt75 Z Z) (zN (zT (zQ (LW.ent (Ent.slot Z) (LW.ent (Ent.slot Z) (LW.drawW (by kernel_rfl) (by kernel_rfl) ?_)))))))));refine yF (F := []) (s := none) Z (fun H _ => zA Z Z ft75_0) Z ?_;refine yF Z (zd Z Z Z vt27 Z Z) Z (zg hr fun q1 hr => ?_);refine yF Z (LAt.callV (id := 2) (qs := [(kB v.B)]) Z Z Z (by kernel_rfl) (c133V q1) (fun H => (.consC zv .nil)) Z) Z ?_;refine yF (F := []) (s := none) Z (fun H _ => zA Z Z ft75_1) Z ?_;refine yF Z (zd Z Z Z vt68 Z Z) Z (zg hr fun q2 hr => ?_);refine yF Z (LAt.callV (id := 3) (qs := [(kV v.V)]) Z Z Z (by kernel_rfl) (c134V q2) (fun H => (.consC zv .nil)) Z) Z ?_;refine yF (F := []) (s := none) Z (fun H _ => LOp.build Z bt75 Z Z Z) Z ?_;refine yF Z (zt Z Z Z Z vt75 Z Z Z) Z ?_;refine LF.nil ⟨by kernel_rfl, ?_⟩;refine zT (zr ?_);obtain rfl := zJ hr;exact zf (.one (.cellAgg Z Z (by kernel_rfl) Z)) ((Conv.agg (.cons (Conv.vecAll Z Z Z) (.cons (Conv.vecAll Z Z Z) .nil))))
theorem F4083_id {v r_ : Vw} (h : F4083 v = some r_) : v = r_ := by
 unfold F4083 at h;obtain ⟨_, h⟩ := zG h;obtain ⟨_, h⟩ := zG h;exact zJ h
structure F4082_L1 where
 t8 : Int
def F4082_s1 (l : List Of) (x1 : F4082_L1) : Option (F4082_L1 ⊕ F4082_L1) :=
 bif decide (x1.t8 < (l.length : Int)) then
  (ix l x1.t8).bind fun y1 =>
  (F4083 y1.V).bind fun _ =>
  (ix l x1.t8).bind fun _ =>
  some (.inl (F4082_L1.mk (IntKind.i64.wrap (x1.t8 + 1))))
 else
  some (.inr (F4082_L1.mk x1.t8))
def F4082 (l : List Of) : Option (List Of) :=
 bif room 0 l.length 104 then
  (iter (F4082_s1 l) big (F4082_L1.mk 0)).bind fun _ =>
  some l
 else none
theorem c4082 {l : List Of} {r_ : (List Of)} (hr : F4082 l = some r_) : LPure Tryz.prog 82 [.slice 9 (l.map ofP)] [.slice 9 (r_.map ofP)] := by
 refine zh Tryz.func82 Z Z Z Z ?_;unfold F4082 at hr;refine zQ (zR (zM Z (zN (zT (zQ (zR (zM Z (zg hr fun q1 hr => yS Z (LOp.callV (qs := [(kO l)]) Z Z Z (by kernel_rfl) (c4094V q1) (.consC zv .nil) Z Z) (zM Z (zN (zT (zQ (zQ (zR (zM Z (yS Z (LOp.lenVM Z Z Z (by kernel_rfl)) (zM Z (zN (zT ?_)))))))))))))))))));obtain ⟨v1, hb_v1, ho_v1⟩ := zB hr;clear hr;refine LW.tail (E := [(0, (jO 0 l)), (2, .zs)]) (O := [.vec 9 (l.map ofP)]) ?_ (fun env_v1 H_v1 hw_v1 => ?_)
 ·refine LW.block ?_;refine LW.iterB (E := fun x1 : F4082_L1 => [(0, (jO 0 l)), (2, .zs), (7, .p (.int .i64 (l.length : Int))), (8, (iQ x1.t8))]) (O := fun x1 => [.vec 9 (l.map ofP)]) hb_v1 (zW 1 ⟨rfl, rfl, rfl, rfl, trivial⟩ Z Z Z Z) (fun x1 z_x1 hr hb_x1 => ?_);unfold F4082_s1 at hr;refine zQ (zR (yS Z (zb2 Z Z Z Z) (zN (zT (zQ ?_)))));refine zX Z (fun g1 => ?_) (fun g1 => ?_)
  ·
   refine zi g1 hr fun hr => zk (zT (zQ (zl (zQ (zR (zM Z (zM Z (zN (zT (zR (zM Z (zM Z (zM Z (zM Z (zb hr fun y1 h_y1 hr => yS Z (LOp.indexAddrVX Z Z Z Z st1036 h_y1) (yS Z (LOp.fieldAddrV Z Z Z Z ft1077_3) (yS Z (LOp.loadVX Z Z Z vt75 h_y1 Z Z Z Z) (zb hr fun v2 h_v2 hr => ?_))))))))))))))))));obtain rfl := F4083_id h_v2;refine yS Z (zC Z Z Z (by kernel_rfl) (zp (c4083 h_v2) (.cons zv .nil))) (zb hr fun y2 h_y2 hr => yS Z (LOp.indexAddrVX Z Z Z Z st1036 h_y2) (yS Z (LOp.fieldAddrV Z Z Z Z ft1077_3) ?_));obtain rfl := zJ (h_y1.symm.trans h_y2);refine yS Z (LOp.storeVS (f := ofP) (l := l) Z Z Z Z vt75 (fun _ => rfl) h_y2 Z Z Z Z Z) ?_;refine zN (inBlk_n (zT (zR (yS Z (zb2 Z Z Z Z) (zM Z (zN (zT ?_)))))));obtain rfl := zJ hr;exact ⟨_, rfl, zW 1 ⟨rfl, rfl, rfl, rfl, trivial⟩ Z Z Z rfl⟩
  ·
   refine zo g1 hr fun hr => zq (thn_e (thn_e (zy (zT ?_))));obtain rfl := zJ hr;have hr := congrArg some (hb_x1 _ rfl);obtain rfl := zJ hr;exact zW 1 ⟨Z, Z, trivial⟩ Z Z Z Z
 ·have hr := ho_v1;clear hb_v1;refine zT (LW.weak hw_v1 (zQ (zR (zM Z (zM Z (zN (zT (zr ?_))))))));obtain rfl := zJ hr;exact zf (.one (.tmp Z)) ((Conv.vecAll Z Z Z))
theorem F4082_id {v r_ : List Of} (h : F4082 v = some r_) : v = r_ := by
 unfold F4082 at h;obtain ⟨_, h⟩ := zG h;obtain ⟨_, _, h⟩ := zB h;exact zJ h
structure F4050_L1 where
 t20 : Int
def F4050_s1 (w : Wd) (x1 : F4050_L1) : Option (F4050_L1 ⊕ F4050_L1) :=
 bif decide (x1.t20 < (w.N.length : Int)) then
  (ix w.N x1.t20).bind fun y1 =>
  (F4083 y1.V).bind fun _ =>
  (F4083 y1.In).bind fun _ =>
  (F4082 y1.O).bind fun _ =>
  some (.inl (F4050_L1.mk (IntKind.i64.wrap (x1.t20 + 1))))
 else
  some (.inr (F4050_L1.mk x1.t20))
def F4050 (w : Wd) : Option Wd :=
 bif room 0 w.Bad.length 8 then
  bif room 0 w.N.length 176 then
   (F4082 w.O).bind fun _ =>
   (iter (F4050_s1 w) big (F4050_L1.mk 0)).bind fun _ =>
   some w
  else none
 else none
theorem c4050 {w : Wd} {r_ : Wd} (hr : F4050 w = some r_) : LPure Tryz.prog 50 [wdP w] [wdP r_] := by
 refine zh Tryz.func50 Z Z Z Z ?_;unfold F4050 at hr;refine zQ (zR (yS Z (zbx Z Z Z Z Z) (yS Z (ze Z zt1038 Z Z) (zN (zT (zQ (LW.ent (Ent.slot Z) (LW.ent (Ent.slot Z) (LW.drawW (by kernel_rfl) (by kernel_rfl) ?_)))))))));refine yF (F := []) (s := none) Z (fun H _ => zA Z Z ft1038_1) Z ?_;refine yF Z (zd Z Z Z vt49 Z Z) Z (zg hr fun q1 hr => ?_);refine yF Z (LAt.callV (id := 2) (qs := [(kI w.Bad)]) Z Z Z (by kernel_rfl) (c4046V q1) (fun H => (.consC zv .nil)) Z) Z ?_;refine yF (F := []) (s := none) Z (fun H _ => zA Z Z ft1038_3) Z ?_;refine yF Z (zd Z Z Z vt1035 Z Z) Z (zg hr fun q2 hr => ?_);refine yF Z (LAt.callV (id := 3) (qs := [.p (.slice 12 (w.N.map ndP))]) Z Z Z (by kernel_rfl) (c4081V q2) (fun H => (.consC zv .nil)) Z) Z ?_;refine yF (F := []) (s := none) Z (fun H _ => zA Z Z ft1038_4) Z ?_;refine yF Z (zd Z Z Z vt1036 Z Z) Z (zb hr fun v1 h_v1 hr => ?_);obtain rfl := F4082_id h_v1;refine yF (F := []) (s := none) Z (fun H _ => zC Z Z Z (by kernel_rfl) (zp (c4082 h_v1) (.cons zv .nil))) Z ?_;refine yF (F := []) (s := none) Z (fun H _ => zA Z Z ft1038_1) Z ?_;refine yF Z (zt Z Z Z Z vt49 Z Z Z) Z ?_;refine yF (F := []) (s := none) Z (fun H _ => zA Z Z ft1038_3) Z ?_;refine yF Z (zt Z Z Z Z vt1035 Z Z Z) Z ?_;refine yF (F := []) (s := none) Z (fun H _ => zA Z Z ft1038_4) Z ?_;refine yF Z (zt Z Z Z Z vt1036 Z Z Z) Z ?_;refine LF.nil ⟨by kernel_rfl, ?_⟩;refine zT (zQ (zQ (zR (yS Z (zA Z Z ft1038_3) (yS Z (zD Z Z Z vt1035 Z Z) (yS Z (LOp.lenVM Z Z Z (by kernel_rfl)) (zM Z (zN (zT ?_)))))))));obtain ⟨v2, hb_v2, ho_v2⟩ := zB hr;clear hr;refine LW.tail (E := [(1, .ptr 0 0), (2, .ptr 1 0)]) (O := [.box [(kI w.C.W), (uQ w.C.Seed), (iQ w.C.Epoch), (iQ w.C.Num), (iQ w.C.Den), (jI 2 w.Bad), (iQ w.Tick), .vec 12 3 (w.N.map ndP).length 0 (w.N.map ndP).length, (kO w.O)], .box zwO, .vec 1 (w.Bad.map i64P), .vec 12 (w.N.map ndP)]) ?_ (fun env_v2 H_v2 hw_v2 => ?_)
 ·refine LW.block ?_;refine LW.iterB (E := fun x1 : F4050_L1 => [(1, .ptr 0 0), (2, .ptr 1 0), (19, .p (.int .i64 (w.N.length : Int))), (20, (iQ x1.t20))]) (O := fun x1 => [.box [(kI w.C.W), (uQ w.C.Seed), (iQ w.C.Epoch), (iQ w.C.Num), (iQ w.C.Den), (jI 2 w.Bad), (iQ w.Tick), .vec 12 3 (w.N.map ndP).length 0 (w.N.map ndP).length, (kO w.O)], .box zwO, .vec 1 (w.Bad.map i64P), .vec 12 (w.N.map ndP)]) hb_v2 (zW 4 ⟨rfl, rfl, rfl, rfl, trivial⟩ Z Z Z Z) (fun x1 z_x1 hr hb_x1 => ?_);unfold F4050_s1 at hr;refine zQ (zR (yS Z (zb2 Z Z Z Z) (zN (zT (zQ ?_)))));refine zX Z (fun g1 => ?_) (fun g1 => ?_)
  ·
   refine zi g1 hr fun hr => zk (zT (zQ (zl (zQ (zR (zM Z (zM Z (zN (zT (zQ (zR (yS Z (zA Z Z ft1038_3) (yS Z (zD Z Z Z vt1035 Z Z) (zM Z (zb hr fun y1 h_y1 hr => yS Z (LOp.indexAddrVX Z Z Z Z st1035 h_y1) (zM Z (zN (zT (LW.draw2 (by kernel_rfl) (by kernel_rfl) (zH Z (zH Z ?_)))))))))))))))))))));refine zH Z (zH Z (yE Z (LOp.nilCheckV Z Z Z Z) (yE Z (LOp.fieldAddrV Z Z Z Z ft1071_2) (yE Z (LOp.loadVX Z Z Z vt75 h_y1 Z Z Z Z) (zb hr fun v3 h_v3 hr => ?_)))));obtain rfl := F4083_id h_v3;refine yE Z (zC Z Z Z (by kernel_rfl) (zp (c4083 h_v3) (.cons zv .nil))) (zH Z (yE Z (LOp.nilCheckV Z Z Z Z) (yE Z (LOp.fieldAddrV Z Z Z Z ft1071_3) (yE Z (LOp.loadVX Z Z Z vt75 h_y1 Z Z Z Z) (zb hr fun v4 h_v4 hr => ?_)))));obtain rfl := F4083_id h_v4;refine yE Z (zC Z Z Z (by kernel_rfl) (zp (c4083 h_v4) (.cons zv .nil))) (zH Z (yE Z (LOp.nilCheckV Z Z Z Z) (yE Z (LOp.fieldAddrV Z Z Z Z ft1071_4) (yE Z (LOp.loadVX Z Z Z vt1036 h_y1 Z Z Z Z) (zb hr fun v5 h_v5 hr => ?_)))));obtain rfl := F4082_id h_v5;refine yE Z (zC Z Z Z (by kernel_rfl) (zp (c4082 h_v5) (.cons zv .nil))) (yE Z (LOp.nilCheckV Z Z Z Z) (yE Z (LOp.fieldAddrV Z Z Z Z ft1071_2) ?_));refine yE Z (LOp.storeVS (f := ndP) (l := w.N) Z Z Z Z vt75 (fun _ => rfl) h_y1 Z Z Z Z Z) ?_;refine yE Z (LOp.nilCheckV Z Z Z Z) (yE Z (LOp.fieldAddrV Z Z Z Z ft1071_3) ?_);refine yE Z (LOp.storeVS (f := ndP) (l := w.N) Z Z Z Z vt75 (fun _ => rfl) h_y1 Z Z Z Z Z) ?_;refine yE Z (LOp.nilCheckV Z Z Z Z) (yE Z (LOp.fieldAddrV Z Z Z Z ft1071_4) ?_);refine yE Z (LOp.storeVS (f := ndP) (l := w.N) Z Z Z Z vt1036 (fun _ => rfl) h_y1 Z Z Z Z Z) ?_;refine LO.nil (inBlk_n (zT (zR (yS Z (zb2 Z Z Z Z) (zM Z (zN (zT ?_)))))));obtain rfl := zJ hr;exact ⟨_, rfl, zW 4 ⟨rfl, rfl, rfl, rfl, trivial⟩ Z Z Z rfl⟩
  ·
   refine zo g1 hr fun hr => zq (thn_e (thn_e (zy (zT ?_))));obtain rfl := zJ hr;have hr := congrArg some (hb_x1 _ rfl);obtain rfl := zJ hr;exact zW 4 ⟨Z, Z, trivial⟩ Z Z Z Z
 ·have hr := ho_v2;clear hb_v2;refine zT (LW.weak hw_v2 (zQ (zR (yS Z (zD Z Z Z vt1038 Z Z) (yS Z (zs Z Z Z Z vt1038 Z Z Z Z) (zN (zT (zr ?_))))))));obtain rfl := zJ hr;exact zf (.one (.cellAgg Z Z (by kernel_rfl) Z)) ((Conv.agg (.cons zv (.cons zv (.cons zv (.cons zv (.cons zv (.cons (Conv.vecAll Z Z Z) (.cons zv (.cons (Conv.vecAll Z Z Z) (.cons zv .nil)))))))))))
end Go.Mg
