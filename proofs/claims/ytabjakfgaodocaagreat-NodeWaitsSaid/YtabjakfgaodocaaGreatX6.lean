/- Weights of blocks; the head. Views: clones, and what stands alone. Views: what may be at all; a view that grows, begun. A view that grows. More of the program's structs as plain data: acts, offers, nodes, worlds. Votes, rising by who it is: plain. The examples of the laws of trees and cursors. Plain tools for printed functions: loops by what holds at their heads. What the laws hand over, with the bounds of its numbers. Plain facts of trees: what the program's Find, Slot, Kids tell. Plain facts of a beginning of blocks. The references of layer 6 tell what the program's trees tell: plain laws. Conditions: blocks' numbers are of their kinds; not too many blocks. Plain laws of the shuffle. Conditions: none. -/
import Derived.Test.YtabjakfgaodocaaGreatX3
import Derived.Test.YtabjakfgaodocaaGreatX5
import Derived.Test.YtabjakfgaodocaaGreatX4
namespace Go.Mg
open Go.Proofs
def F152 (x : Vt) (_ : Cf) (l : List Bk) (id : ID) (m : List (ID × Bool)) : Option (Bool × (List (ID × Bool))) :=
 bif !((findE m x.Head).isSome) then
  bif few l then
   some (decide (indexOf (chainOf l x.Head) id ≥ 0), setE m x.Head (decide (indexOf (chainOf l x.Head) id ≥ 0)))
  else none
 else
  some ((findE m x.Head).getD false, m)
set_option maxRecDepth 100000 in
theorem cF152 {x : Vt} {c : Cf} {l : List Bk} {id : ID} {m : List (ID × Bool)} {r_ : Bool × (List (ID × Bool))} (hr : F152 x c l id m = some r_) : LC Tryz.prog 187 [.p (vtP x), .ptr 4 0, .ptr 1 0, .ptr 2 0] [.box [.p (.slice 1 (c.W.map i64P)), .p (.int .u64 c.Seed), .p (.int .i64 c.Epoch), .p (.int .i64 c.Num), .p (.int .i64 c.Den)], .box [.p (.slice 5 (l.map blkP))], .box [.p (.int .u64 id.1), .p (.int .u64 id.2)], .map (entsOf idP (fun v => .p (.bool v)) m), .box [.map 3]] (Is (.p (.bool r_.1)) [.box [.p (.slice 1 (c.W.map i64P)), .p (.int .u64 c.Seed), .p (.int .i64 c.Epoch), .p (.int .i64 c.Num), .p (.int .i64 c.Den)], .box [.p (.slice 5 (l.map blkP))], .box [.p (.int .u64 id.1), .p (.int .u64 id.2)], .map (entsOf idP (fun v => .p (.bool v)) r_.2), .box [.map 3]]) := by
 refine LC.start Tryz.func187 Z Z Z ?_
 unfold F152 at hr
 refine zQ (zR (zS Z Z Z (LOp.box Z Z Z Z Z) (zM Z (zN (zT (zQ (zR (zS Z Z Z (zD Z Z Z vt169 Z Z) (zS Z Z Z (zA Z Z ft82_2) (zS Z Z Z (zD Z Z Z vt24 Z Z) ?_))))))))))
 refine zS Z Z Z (LOp.getX (f := idP) (g := (fun v => .p (.bool v))) x.Head false idKey Z Z Z Z mt169 zl4 Z Z) ?_
 refine zM Z (zS Z Z Z (LOp.extract Z Z Z) (zS Z Z Z (LOp.extract Z Z Z) (zM Z (zM Z (zN (zT (zQ (zQ (zR (zM Z (zS Z Z Z (LOp.not Z Z) (zN (zT ?_)))))))))))))
 refine zX Z (fun g1 => ?_) (fun g1 => ?_)
 ·
  refine zi g1 hr fun hr => zQ (LW.draw (by kernel_rfl) (by kernel_rfl) (zE Z Z Z (zD Z Z Z vt27 Z Z) (zE Z Z Z (zA Z Z ft82_2) (zE Z Z Z (zD Z Z Z vt24 Z Z) (zg hr fun q1 hr => zE Z Z Z (zC Z Z Z (by kernel_rfl) (LC.pure (c39 (l := l) (id := x.Head) (few_le q1)) (.cons Conv.p (.cons Conv.p .nil)))) (zE Z Z Z (zD Z Z Z vt24 Z Z) (zE Z Z Z (zC Z Z Z (by kernel_rfl) (LC.pure (c95 (l := (chainOf l x.Head)) (v := id)) (.cons Conv.p (.cons Conv.p .nil)))) (zH Z (LO.nil (zT (zR (zS Z Z Z (zD Z Z Z vt169 Z Z) (zS Z Z Z (zA Z Z ft82_2) (zS Z Z Z (zD Z Z Z vt24 Z Z) (zM Z ?_)))))))))))))))
  refine zS Z Z Z (LOp.setX (f := idP) (g := (fun v => .p (.bool v))) x.Head (decide (indexOf (chainOf l x.Head) id ≥ 0)) idKey (.inl Z) Z Z Z Z Z mt169 Z) ?_
  refine zN (zT (zQ (zR (zM Z (zM Z (zN (zT (LW.ret ?_))))))))
  obtain rfl := zJ hr
  refine fin_retW (env' := [(5, .p (.bool (decide (indexOf (chainOf l x.Head) id ≥ 0))))]) (H' := [.box [.p (.slice 1 (c.W.map i64P)), .p (.int .u64 c.Seed), .p (.int .i64 c.Epoch), .p (.int .i64 c.Num), .p (.int .i64 c.Den)], .box [.p (.slice 5 (l.map blkP))], .box [.p (.int .u64 id.1), .p (.int .u64 id.2)], .map (entsOf idP (fun v => .p (.bool v)) (setE m x.Head (decide (indexOf (chainOf l x.Head) id ≥ 0)))), .box [.map 3]]) (zW 5 ⟨rfl, trivial⟩ Z Z Z (zL Z (zL Z (zL Z (zL (entsLow (fun _ => rfl) _) (zL Z Z)))))) (.one (.tmp Z)) ?_
  exact ⟨rfl, rfl⟩
 ·
  refine zo g1 hr fun hr => LW.skip (zT (zQ (zR (zM Z (zM Z (zN (zT (LW.ret ?_))))))))
  obtain rfl := zJ hr
  refine fin_retW (env' := [(5, .p (.bool ((findE m x.Head).getD false)))]) (H' := [.box [.p (.slice 1 (c.W.map i64P)), .p (.int .u64 c.Seed), .p (.int .i64 c.Epoch), .p (.int .i64 c.Num), .p (.int .i64 c.Den)], .box [.p (.slice 5 (l.map blkP))], .box [.p (.int .u64 id.1), .p (.int .u64 id.2)], .map (entsOf idP (fun v => .p (.bool v)) m), .box [.map 3]]) (zW 5 ⟨rfl, trivial⟩ Z Z Z (zL Z (zL Z (zL Z (zL (entsLow (fun _ => rfl) _) (zL Z Z)))))) (.one (.tmp Z)) ?_
  exact ⟨rfl, rfl⟩
structure F153_L1 where
 t12 : Int
 o3 : List (ID × Bool)
 out : List Int
def F153_s1 (v : List Vt) (c : Cf) (l : List Bk) (id : ID) (x1 : F153_L1) : Option (F153_L1 ⊕ F153_L1) :=
 bif decide (x1.t12 < (v.length : Int)) then
  (ix v x1.t12).bind fun y1 =>
  (F152 y1 c l id x1.o3).bind fun v2 =>
  bif v2.1 then
   (F154 y1).bind fun v3 =>
   bif room x1.out.length [v3].length 8 then
    some (.inl (F153_L1.mk (IntKind.i64.wrap (x1.t12 + 1)) v2.2 (x1.out ++ [v3])))
   else none
  else
   some (.inl (F153_L1.mk (IntKind.i64.wrap (x1.t12 + 1)) v2.2 x1.out))
 else
  some (.inr (F153_L1.mk x1.t12 x1.o3 x1.out))
def F153 (v : List Vt) (c : Cf) (l : List Bk) (id : ID) (m : List (ID × Bool)) : Option (List Int × List (ID × Bool)) :=
 (iter (F153_s1 v c l id) big (F153_L1.mk 0 m ([] : List Int))).bind fun v1 =>
 some (v1.out, v1.o3)
set_option maxRecDepth 100000 in
theorem cF153 {v : List Vt} {c : Cf} {l : List Bk} {id : ID} {m : List (ID × Bool)} {r_ : List Int × List (ID × Bool)} (hr : F153 v c l id m = some r_) : LC Tryz.prog 189 [.p (.slice 4 (v.map vtP)), .fn 187 [] [.ptr 4 0, .ptr 1 0, .ptr 2 0], .fn 190 [] []] [.box [.p (.slice 1 (c.W.map i64P)), .p (.int .u64 c.Seed), .p (.int .i64 c.Epoch), .p (.int .i64 c.Num), .p (.int .i64 c.Den)], .box [.p (.slice 5 (l.map blkP))], .box [.p (.int .u64 id.1), .p (.int .u64 id.2)], .map (entsOf idP (fun v => .p (.bool v)) m), .box [.map 3]] (Is (.p (.slice 1 (r_.1.map i64P))) [.box [.p (.slice 1 (c.W.map i64P)), .p (.int .u64 c.Seed), .p (.int .i64 c.Epoch), .p (.int .i64 c.Num), .p (.int .i64 c.Den)], .box [.p (.slice 5 (l.map blkP))], .box [.p (.int .u64 id.1), .p (.int .u64 id.2)], .map (entsOf idP (fun v => .p (.bool v)) r_.2), .box [.map 3]]) := by
 refine LC.start Tryz.func189 Z Z Z ?_
 unfold F153 at hr
 refine zQ (zR (zM Z (zN (zT (zQ (zR (zM Z (zN (zT (zQ (zQ (zR (zM Z (zS Z Z Z (LOp.lenM Z Z (by kernel_rfl)) (zM Z (zN (zT (LW.ent (Ent.lazy (t := 7) (m := 1) Z Z Z) ?_))))))))))))))))))
 obtain ⟨v1, hb_v1, ho_v1⟩ := zB hr
 clear hr
 refine LW.tail (E := [(6, .zs), (7, .vec 1 5 (v1.out.map i64P).length 0 (v1.out.map i64P).length)]) (O := [.box [.p (.slice 1 (c.W.map i64P)), .p (.int .u64 c.Seed), .p (.int .i64 c.Epoch), .p (.int .i64 c.Num), .p (.int .i64 c.Den)], .box [.p (.slice 5 (l.map blkP))], .box [.p (.int .u64 id.1), .p (.int .u64 id.2)], .map (entsOf idP (fun v => .p (.bool v)) v1.o3), .box [.map 3], .vec 1 (v1.out.map i64P)]) ?_ (fun env_v1 H_v1 hw_v1 => ?_)
 ·refine LW.block ?_
  refine LW.iterB (E := fun x1 : F153_L1 => [(1, .fn 187 [] [.ptr 4 0, .ptr 1 0, .ptr 2 0]), (2, .fn 190 [] []), (6, .zs), (7, .vec 1 5 (x1.out.map i64P).length 0 (x1.out.map i64P).length), (10, .p (.slice 4 (v.map vtP))), (11, .p (.int .i64 (v.length : Int))), (12, .p (.int .i64 x1.t12))]) (O := fun x1 => [.box [.p (.slice 1 (c.W.map i64P)), .p (.int .u64 c.Seed), .p (.int .i64 c.Epoch), .p (.int .i64 c.Num), .p (.int .i64 c.Den)], .box [.p (.slice 5 (l.map blkP))], .box [.p (.int .u64 id.1), .p (.int .u64 id.2)], .map (entsOf idP (fun v => .p (.bool v)) x1.o3), .box [.map 3], .vec 1 (x1.out.map i64P)]) hb_v1 (zW 6 ⟨rfl, rfl, rfl, rfl, rfl, rfl, rfl, trivial⟩ Z Z Z (zL Z (zL Z (zL Z (zL (entsLow (fun _ => rfl) _) (zL Z (zL Z Z))))))) (fun x1 z_x1 hr hb_x1 => ?_)
  unfold F153_s1 at hr
  refine zQ (zR (zS Z Z Z (LOp.bin Z Z Z Z) (zN (zT (zQ ?_)))))
  refine zX Z (fun g1 => ?_) (fun g1 => ?_)
  ·
   refine zi g1 hr fun hr => LW.skip (zT (zQ (LW.block (zQ (zR (zb hr fun y1 h_y1 hr => zS Z Z Z (LOp.indexAddrX Z Z Z st68 h_y1 Z) (zS Z Z Z (LOp.loadC Z Z Z vt82 Z Z) (zS Z Z Z (LOp.alloc Z zt82 Z Z) (zS Z Z Z (LOp.store Z Z Z Z vt82 Z Z Z Z) (zN (zT (zQ (zR (zM Z (zS Z Z Z (zD Z Z Z vt82 Z Z) (zb hr fun v2 h_v2 hr => ?_))))))))))))))))
   refine zS Z Z Z (zC Z Z Z (by kernel_rfl) (LC.pre (cF152 h_v2) Z (zL Z (zL Z (zL Z (zL (entsLow (fun _ => rfl) _) (zL Z Z))))) Z)) ?_
   refine zN (zT ?_)
   refine zX Z (fun g2 => ?_) (fun g2 => ?_)
   ·
    refine zi g2 hr fun hr => zR (zM Z (zM Z (zS Z Z Z (zD Z Z Z vt82 Z Z) (zb hr fun v3 h_v3 hr => zS Z Z Z (zC Z Z Z (by kernel_rfl) (LC.pure (c154 h_v3) (.cons Conv.p .nil))) (zS Z Z Z (LOp.buildSlice Z st49 Z Z Z Z Z) (zg hr fun q1 hr => zS Z Z Z (LOp.appendX i64P x1.out [v3] rfl Z Z Z Src.p Z st49 q1 Z) (zM Z (zN (inBlk_n (zT (zR (zS Z Z Z (LOp.bin Z Z Z Z) (zM Z (zN (zT ?_)))))))))))))))
    obtain rfl := zJ hr
    exact ⟨_, rfl, zW 6 ⟨rfl, rfl, rfl, rfl, rfl, rfl, rfl, trivial⟩ Z Z Z (zL Z (zL Z (zL Z (zL (entsLow (fun _ => rfl) _) (zL Z (zL Z Z))))))⟩
   ·
    refine zo g2 hr fun hr => LW.skip (inBlk_n (zT (zR (zS Z Z Z (LOp.bin Z Z Z Z) (zM Z (zN (zT ?_)))))))
    obtain rfl := zJ hr
    exact ⟨_, rfl, zW 6 ⟨rfl, rfl, rfl, rfl, rfl, rfl, rfl, trivial⟩ Z Z Z (zL Z (zL Z (zL Z (zL (entsLow (fun _ => rfl) _) (zL Z (zL Z Z))))))⟩
  ·
   refine zo g1 hr fun hr => LW.exit (thn_e (thn_e (inBlk_self (zT ?_))))
   obtain rfl := zJ hr
   have hr := congrArg some (hb_x1 _ rfl)
   obtain rfl := zJ hr
   exact zW 6 ⟨Z, Z, trivial⟩ Z Z Z (zL Z (zL Z (zL Z (zL (entsLow (fun _ => rfl) _) (zL Z (zL Z Z))))))
 ·have hr := ho_v1
  clear hb_v1
  refine zT (LW.weak hw_v1 (zQ (zR (zM Z (zM Z (zN (zT ?_)))))))
  refine LW.weak (env' := [(6, .vec 1 5 (v1.out.map i64P).length 0 (v1.out.map i64P).length)]) (H' := [.box [.p (.slice 1 (c.W.map i64P)), .p (.int .u64 c.Seed), .p (.int .i64 c.Epoch), .p (.int .i64 c.Num), .p (.int .i64 c.Den)], .box [.p (.slice 5 (l.map blkP))], .box [.p (.int .u64 id.1), .p (.int .u64 id.2)], .map (entsOf idP (fun v => .p (.bool v)) v1.o3), .box [.map 3], .vec 1 (v1.out.map i64P)]) (zW 6 ⟨rfl, trivial⟩ Z Z Z (zL Z (zL Z (zL Z (zL (entsLow (fun _ => rfl) _) (zL Z (zL Z Z))))))) ?_
  refine LW.ent (Ent.frz (t := 6) (env' := []) (H0 := [.box [.p (.slice 1 (c.W.map i64P)), .p (.int .u64 c.Seed), .p (.int .i64 c.Epoch), .p (.int .i64 c.Num), .p (.int .i64 c.Den)], .box [.p (.slice 5 (l.map blkP))], .box [.p (.int .u64 id.1), .p (.int .u64 id.2)], .map (entsOf idP (fun v => .p (.bool v)) v1.o3), .box [.map 3]]) Z Z Z Z Z trivial Z (zL Z (zL Z (zL Z (zL (entsLow (fun _ => rfl) _) (zL Z Z)))))) ?_
  refine LW.ret ?_
  obtain rfl := zJ hr
  refine fin_ret (.one (.tmp Z)) ?_
  exact ⟨rfl, rfl⟩
def F121 (c : Cf) (l : List Bk) (v : List Vt) (id : ID) : Option Int :=
 (F153 v c l id []).bind fun v1 =>
 (F70 c v1.1).bind fun v2 =>
 some v2
set_option maxRecDepth 100000 in
theorem c121 {c : Cf} {l : List Bk} {v : List Vt} {id : ID} {r_ : Int} (hr : F121 c l v id = some r_) : LPure Tryz.prog 158 [cfP c, .slice 5 (l.map blkP), .slice 4 (v.map vtP), idP id] [.int .i64 r_] := by
 refine LPure.start Tryz.func158 Z Z Z Z ?_
 unfold F121 at hr
 refine zQ (zR (zS Z Z Z (LOp.box Z Z Z Z Z) (zS Z Z Z (LOp.box Z Z Z Z Z) (zS Z Z Z (LOp.box Z Z Z Z Z) (zM Z (zN (zT (zQ (zR (zS Z Z Z (LOp.makeMap Z Z Z) (zS Z Z Z (LOp.alloc Z zt169 Z Z) (zS Z Z Z (LOp.store Z Z Z Z vt169 Z Z Z Z) (zN (zT (zQ (zR (zS Z Z Z (LOp.makeFunc Z Z Z) (zM Z (zN (zT (zQ (LW.drawW (by kernel_rfl) (by kernel_rfl) (zF Z Z Z (LAt.load Z Z Z vt55 Z Z) Z ?_)))))))))))))))))))))))
 refine zK Z (zK Z (zb hr fun v1 h_v1 hr => ?_))
 refine zF Z Z Z (LAt.all (s := some (3, .map (entsOf idP (fun v => .p (.bool v)) v1.2))) (zC Z Z Z (by kernel_rfl) (cF153 h_v1)) Z Z Z) Z ?_
 obtain ⟨v2, h_v2, hr⟩ := zB hr
 refine zF (F := []) (s := none) Z Z Z (fun H _ => zC Z Z Z (by kernel_rfl) (LC.pure (c70 h_v2) (.cons Conv.p (.cons Conv.p .nil)))) Z ?_
 refine zK Z ?_
 refine LF.nil ⟨by kernel_rfl, ?_⟩
 refine zT (LW.ret ?_)
 obtain rfl := zJ hr
 refine finP_ret (.one (.tmp Z)) ?_
 exact Conv.p
structure F79_L1 where
 t19 : Int
 best : Rk
def F79_s1 (c : Cf) (l : List Bk) (v : List Vt) (v1 : (List ID)) (x1 : F79_L1) : Option (F79_L1 ⊕ F79_L1) :=
 bif decide (x1.t19 < (v1.length : Int)) then
  (ix v1 x1.t19).bind fun y1 =>
  (F121 c l v y1).bind fun v3 =>
  (F122 (Rk.mk v3 y1) x1.best).bind fun v4 =>
  bif v4 then
   some (.inl (F79_L1.mk (IntKind.i64.wrap (x1.t19 + 1)) (Rk.mk v3 y1)))
  else
   some (.inl (F79_L1.mk (IntKind.i64.wrap (x1.t19 + 1)) x1.best))
 else
  some (.inr (F79_L1.mk x1.t19 x1.best))
def F79 (c : Cf) (l : List Bk) (v : List Vt) (id : ID) : Option (ID × Bool) :=
 (F46 l id).bind fun v1 =>
 (iter (F79_s1 c l v v1) big (F79_L1.mk 0 (Rk.mk (-1) (0, 0)))).bind fun v2 =>
 some (v2.best.id, decide (v2.best.n ≥ 0))
set_option maxRecDepth 100000 in
theorem c79 {c : Cf} {l : List Bk} {v : List Vt} {id : ID} {r_ : ID × Bool} (hr : F79 c l v id = some r_) : LPure Tryz.prog 134 [cfP c, .slice 5 (l.map blkP), .slice 4 (v.map vtP), idP id] [idP r_.1, .bool r_.2] := by
 refine LPure.start Tryz.func134 Z Z Z Z ?_
 unfold F79 at hr
 refine zQ (zR (zS Z Z Z (LOp.box Z Z Z Z Z) (zS Z Z Z (LOp.box Z Z Z Z Z) (zS Z Z Z (LOp.alloc Z zt24 Z Z) (zM Z (zN (zT (zQ (zR (zS Z Z Z (LOp.build Z bt136 Z Z Z) (zS Z Z Z (LOp.alloc Z zt136 Z Z) (zS Z Z Z (LOp.store Z Z Z Z vt136 Z Z Z Z) (zN (zT (zQ (zQ (zR (zM Z (zS Z Z Z (zD Z Z Z vt24 Z Z) (zb hr fun v1 h_v1 hr => zS Z Z Z (zC Z Z Z (by kernel_rfl) (LC.pure (c46 h_v1) (.cons Conv.p (.cons Conv.p .nil)))) (zS Z Z Z (LOp.lenM Z Z (by kernel_rfl)) (zM Z ?_))))))))))))))))))))))
 refine zN (zT ?_)
 obtain ⟨v2, hb_v2, ho_v2⟩ := zB hr
 clear hr
 refine LW.tail (E := [(8, .ptr 2 0), (9, .p (.bool false)), (10, .ptr 3 0)]) (O := [.box [.p (.slice 1 (c.W.map i64P)), .p (.int .u64 c.Seed), .p (.int .i64 c.Epoch), .p (.int .i64 c.Num), .p (.int .i64 c.Den)], .box [.p (.int .u64 id.1), .p (.int .u64 id.2)], .box [.p (.int .u64 0), .p (.int .u64 0)], .box [.p (.int .i64 v2.best.n), .p (.int .u64 v2.best.id.1), .p (.int .u64 v2.best.id.2)]]) ?_ (fun env_v2 H_v2 hw_v2 => ?_)
 ·refine LW.block ?_
  refine LW.iterB (E := fun x1 : F79_L1 => [(1, .p (.slice 5 (l.map blkP))), (2, .p (.slice 4 (v.map vtP))), (4, .ptr 0 0), (8, .ptr 2 0), (9, .p (.bool false)), (10, .ptr 3 0), (17, .p (.slice 2 (v1.map idP))), (18, .p (.int .i64 (v1.length : Int))), (19, .p (.int .i64 x1.t19))]) (O := fun x1 => [.box [.p (.slice 1 (c.W.map i64P)), .p (.int .u64 c.Seed), .p (.int .i64 c.Epoch), .p (.int .i64 c.Num), .p (.int .i64 c.Den)], .box [.p (.int .u64 id.1), .p (.int .u64 id.2)], .box [.p (.int .u64 0), .p (.int .u64 0)], .box [.p (.int .i64 x1.best.n), .p (.int .u64 x1.best.id.1), .p (.int .u64 x1.best.id.2)]]) hb_v2 (zW 4 ⟨rfl, rfl, rfl, rfl, rfl, rfl, rfl, rfl, rfl, trivial⟩ Z Z Z Z) (fun x1 z_x1 hr hb_x1 => ?_)
  unfold F79_s1 at hr
  refine zQ (zR (zS Z Z Z (LOp.bin Z Z Z Z) (zN (zT (zQ ?_)))))
  refine zX Z (fun g1 => ?_) (fun g1 => ?_)
  ·
   refine zi g1 hr fun hr => LW.skip (zT (zQ (LW.block (zQ (zR (zb hr fun y1 h_y1 hr => zS Z Z Z (LOp.indexAddrX Z Z Z st31 h_y1 Z) (zS Z Z Z (LOp.loadC Z Z Z vt24 Z Z) (zS Z Z Z (LOp.alloc Z zt24 Z Z) (zS Z Z Z (LOp.store Z Z Z Z vt24 Z Z Z Z) (zN (zT (zQ (LW.ent (Ent.slot Z) (LW.drawW (by kernel_rfl) (by kernel_rfl) (zF Z Z Z (LAt.load Z Z Z vt55 Z Z) Z (zK Z (zK Z (zF Z Z Z (LAt.load Z Z Z vt24 Z Z) Z (zb hr fun v3 h_v3 hr => ?_)))))))))))))))))))
   refine zF (F := []) (s := none) Z Z Z (fun H _ => zC Z Z Z (by kernel_rfl) (LC.pure (c121 h_v3) (.cons Conv.p (.cons Conv.p (.cons Conv.p (.cons Conv.p .nil)))))) Z ?_
   refine zF Z Z Z (LAt.load Z Z Z vt24 Z Z) Z ?_
   refine zF (F := []) (s := none) Z Z Z (fun H _ => LOp.build Z bt136 Z Z Z) Z ?_
   refine zF Z Z Z (LAt.alloc Z zt136 (id := 5) Z) Z (zF Z Z Z (LAt.store Z Z Z Z vt136 Z Z Z) Z ?_)
   refine LF.nil ⟨by kernel_rfl, ?_⟩
   refine zT (zQ (zR (zS Z Z Z (zD Z Z Z vt136 Z Z) (zS Z Z Z (zD Z Z Z vt136 Z Z) (zb hr fun v4 h_v4 hr => zS Z Z Z (zC Z Z Z (by kernel_rfl) (LC.pure (c122 h_v4) (.cons Conv.p (.cons Conv.p .nil)))) (zN (zT ?_)))))))
   refine zX Z (fun g2 => ?_) (fun g2 => ?_)
   ·
    refine zi g2 hr fun hr => zR (zS Z Z Z (zD Z Z Z vt136 Z Z) (zS Z Z Z (LOp.store Z Z Z Z vt136 Z Z Z Z) (zN (inBlk_n (zT (zR (zS Z Z Z (LOp.bin Z Z Z Z) (zM Z (zN (zT ?_))))))))))
    obtain rfl := zJ hr
    exact ⟨_, rfl, zW 4 ⟨rfl, rfl, rfl, rfl, rfl, rfl, rfl, rfl, rfl, trivial⟩ Z Z Z rfl⟩
   ·
    refine zo g2 hr fun hr => LW.skip (inBlk_n (zT (zR (zS Z Z Z (LOp.bin Z Z Z Z) (zM Z (zN (zT ?_)))))))
    obtain rfl := zJ hr
    exact ⟨_, rfl, zW 4 ⟨rfl, rfl, rfl, rfl, rfl, rfl, rfl, rfl, rfl, trivial⟩ Z Z Z rfl⟩
  ·
   refine zo g1 hr fun hr => LW.exit (thn_e (thn_e (inBlk_self (zT ?_))))
   obtain rfl := zJ hr
   have hr := congrArg some (hb_x1 _ rfl)
   obtain rfl := zJ hr
   exact zW 4 ⟨Z, Z, Z, trivial⟩ Z Z Z Z
 ·have hr := ho_v2
  clear hb_v2
  refine zT (LW.weak hw_v2 (zQ (LW.drawW (by kernel_rfl) (by kernel_rfl) ?_)))
  refine zF (F := []) (s := none) Z Z Z (fun H _ => zA Z Z ft136_1) Z ?_
  refine zF Z Z Z (LAt.load Z Z Z vt24 Z Z) Z ?_
  refine zF (F := []) (s := none) Z Z Z (fun H _ => zA Z Z ft136_0) Z ?_
  refine zF Z Z Z (LAt.load Z Z Z vt3 Z Z) Z ?_
  refine zF (F := []) (s := none) Z Z Z (fun H _ => LOp.bin Z Z Z Z) Z ?_
  refine zF Z Z Z (LAt.store Z Z Z Z vt24 Z Z Z) Z (zK Z ?_)
  refine LF.nil ⟨by kernel_rfl, ?_⟩
  refine zT (LW.ret ?_)
  obtain rfl := zJ hr
  refine finP_ret (.two (.cellAgg Z Z (by kernel_rfl) Z) (.tmp Z)) ?_
  exact ⟨_, rfl, (.cons Conv.p (.cons Conv.p .nil))⟩
structure F81_L1 where
 id : ID
def F81_s1 (c : Cf) (l : List Bk) (v : List Vt) (x1 : F81_L1) : Option (F81_L1 ⊕ F81_L1) :=
 (F79 c l v x1.id).bind fun v2 =>
 bif !v2.2 then
  some (.inr (F81_L1.mk x1.id))
 else
  some (.inl (F81_L1.mk v2.1))
def F81 (c : Cf) (l : List Bk) (v : List Vt) : Option ID :=
 (iter (F81_s1 c l v) big (F81_L1.mk (0, 0))).bind fun v1 =>
 some v1.id
set_option maxRecDepth 100000 in
theorem c81 {c : Cf} {l : List Bk} {v : List Vt} {r_ : ID} (hr : F81 c l v = some r_) : LPure Tryz.prog 108 [cfP c, .slice 5 (l.map blkP), .slice 4 (v.map vtP)] [idP r_] := by
 refine LPure.start Tryz.func108 Z Z Z Z ?_
 unfold F81 at hr
 refine zQ (zR (zS Z Z Z (LOp.box Z Z Z Z Z) (zS Z Z Z (LOp.alloc Z zt24 Z Z) (zN (zT (LW.scope (zQ (LW.label (zT ?_)))))))))
 obtain ⟨v1, hb_v1, ho_v1⟩ := zB hr
 clear hr
 refine LW.cut (E := [(6, .ptr 1 0)]) (O := [.box [.p (.slice 1 (c.W.map i64P)), .p (.int .u64 c.Seed), .p (.int .i64 c.Epoch), .p (.int .i64 c.Num), .p (.int .i64 c.Den)], .box [.p (.int .u64 v1.id.1), .p (.int .u64 v1.id.2)]]) ?_ ?_
 ·refine LW.block ?_
  refine LW.iterB (E := fun x1 : F81_L1 => [(1, .p (.slice 5 (l.map blkP))), (2, .p (.slice 4 (v.map vtP))), (3, .ptr 0 0), (6, .ptr 1 0)]) (O := fun x1 => [.box [.p (.slice 1 (c.W.map i64P)), .p (.int .u64 c.Seed), .p (.int .i64 c.Epoch), .p (.int .i64 c.Num), .p (.int .i64 c.Den)], .box [.p (.int .u64 x1.id.1), .p (.int .u64 x1.id.2)]]) hb_v1 (zW 2 ⟨rfl, rfl, rfl, rfl, trivial⟩ Z Z Z Z) (fun x1 z_x1 hr hb_x1 => ?_)
  unfold F81_s1 at hr
  refine LW.block (zQ (zR (zS Z Z Z (zD Z Z Z vt55 Z Z) (zM Z (zM Z (zS Z Z Z (zD Z Z Z vt24 Z Z) (zb hr fun v2 h_v2 hr => zS Z Z Z (zC Z Z Z (by kernel_rfl) (LC.pure (c79 h_v2) (.cons Conv.p (.cons Conv.p (.cons Conv.p (.cons Conv.p .nil)))))) (zM Z (zS Z Z Z (LOp.extract Z Z Z) (zS Z Z Z (LOp.extract Z Z Z) (zS Z Z Z (LOp.alloc Z zt24 Z Z) (zS Z Z Z (LOp.store Z Z Z Z vt24 Z Z Z Z) (zM Z (zN (zT (zQ (zQ (zR (zM Z (zS Z Z Z (LOp.not Z Z) (zN (zT ?_))))))))))))))))))))))
  refine zX Z (fun g1 => ?_) (fun g1 => ?_)
  ·
   refine zi g1 hr fun hr => LW.exit (thn_e (inBlk_other (by decide) (thn_e (inBlk_self (zT ?_)))))
   obtain rfl := zJ hr
   have hr := congrArg some (hb_x1 _ rfl)
   obtain rfl := zJ hr
   exact zW 2 ⟨Z, trivial⟩ Z Z Z Z
  ·
   refine zo g1 hr fun hr => LW.skip (zT (zR (zS Z Z Z (zD Z Z Z vt24 Z Z) (zS Z Z Z (LOp.store Z Z Z Z vt24 Z Z Z Z) (zN (inBlk_n (zT ?_)))))))
   obtain rfl := zJ hr
   exact ⟨_, rfl, zW 2 ⟨rfl, rfl, rfl, rfl, trivial⟩ Z Z Z rfl⟩
 ·have hr := ho_v1
  clear hb_v1
  refine zQ (zR (zS Z Z Z (zD Z Z Z vt24 Z Z) (zS Z Z Z (LOp.store Z Z Z Z vt24 Z Z Z Z) (zN (zT (LW.ret (noGo_r ?_)))))))
  obtain rfl := zJ hr
  refine finP_ret (.one (.cellAgg Z Z (by kernel_rfl) Z)) ?_
  exact Conv.p
open Go.Proofs
set_option maxRecDepth 100000 in
theorem c133V {α : Type} {f : α → PV} {l : List α} (hb : room 0 l.length 40 = true) : LC Tryz.prog 90 [.p (.slice 5 (l.map f))] [] (Is (.vec 5 0 (l.map f).length 0 (l.map f).length) [.vec 5 (l.map f)]) := by
 refine LC.start Tryz.func90 Z Z Z ?_
 refine zQ (zR (zS Z Z Z (LOp.assign Z Z) (zN (zT (zQ (zQ (zR (zS Z Z Z (LOp.move Z Z) (LOps.cons Z Z Z (LOp.eqNil Z Z Z st27) ?_)))))))))
 rintro _ _ ⟨rfl, b, rfl, hn⟩
 refine zN (zT ?_)
 refine zX Z (fun g => ?_) (fun g => ?_)
 ·have hl : l = [] := List.map_eq_nil_iff.1 (hn g)
  subst hl
  refine zQ (zR (zS Z Z Z (LOp.assign Z Z) (zN (zT (LW.ent (Ent.lazy (t := 2) (m := 5) Z Z Z) (LW.ret (thn_r ?_)))))))
  exact fin_ret (.one (.tmp Z)) ⟨rfl, rfl⟩
 ·refine LW.skip ?_
  refine zT (zQ (zR (zS Z Z Z (LOp.buildSlice0 Z st27) (zS Z Z Z (LOp.move Z Z) (zS Z Z Z (LOp.appendZX f l Z Z Z Z Src.p Z st27 hb Z) (zS Z Z Z (LOp.assign Z Z) (zN (zT (LW.ret ?_)))))))))
  exact fin_ret (.one (.tmp Z)) ⟨rfl, rfl⟩
set_option maxRecDepth 100000 in
theorem c134V {α : Type} {f : α → PV} {l : List α} (hb : room 0 l.length 32 = true) : LC Tryz.prog 91 [.p (.slice 4 (l.map f))] [] (Is (.vec 4 0 (l.map f).length 0 (l.map f).length) [.vec 4 (l.map f)]) := by
 refine LC.start Tryz.func91 Z Z Z ?_
 refine zQ (zR (zS Z Z Z (LOp.assign Z Z) (zN (zT (zQ (zQ (zR (zS Z Z Z (LOp.move Z Z) (LOps.cons Z Z Z (LOp.eqNil Z Z Z st68) ?_)))))))))
 rintro _ _ ⟨rfl, b, rfl, hn⟩
 refine zN (zT ?_)
 refine zX Z (fun g => ?_) (fun g => ?_)
 ·have hl : l = [] := List.map_eq_nil_iff.1 (hn g)
  subst hl
  refine zQ (zR (zS Z Z Z (LOp.assign Z Z) (zN (zT (LW.ent (Ent.lazy (t := 2) (m := 4) Z Z Z) (LW.ret (thn_r ?_)))))))
  exact fin_ret (.one (.tmp Z)) ⟨rfl, rfl⟩
 ·refine LW.skip ?_
  refine zT (zQ (zR (zS Z Z Z (LOp.buildSlice0 Z st68) (zS Z Z Z (LOp.move Z Z) (zS Z Z Z (LOp.appendZX f l Z Z Z Z Src.p Z st68 hb Z) (zS Z Z Z (LOp.assign Z Z) (zN (zT (LW.ret ?_)))))))))
  exact fin_ret (.one (.tmp Z)) ⟨rfl, rfl⟩
def F87 (c : Cf) (b : Bk) : Option Bool :=
 (F63 c b.Slot).bind fun v1 =>
 bif decide (v1 ≥ 0) then
  bif v1 == b.From then
   some (!((((nm b).1) == 0) && ((((nm b).2) == 0) && true)))
  else
   some false
 else
  some false
set_option maxRecDepth 100000 in
theorem c87 {c : Cf} {b : Bk} {r_ : Bool} (hr : F87 c b = some r_) : LPure Tryz.prog 70 [cfP c, blkP b] [.bool r_] := by
 refine LPure.start Tryz.func70 Z Z Z Z ?_
 unfold F87 at hr
 refine zQ (zR (zS Z Z Z (LOp.box Z Z Z Z Z) (zS Z Z Z (LOp.box Z Z Z Z Z) (zM Z (zN (zT (zQ (zR (zS Z Z Z (zD Z Z Z vt55 Z Z) (zS Z Z Z (zA Z Z ft42_0) (zS Z Z Z (zD Z Z Z vt3 Z Z) (zb hr fun v1 h_v1 hr => zS Z Z Z (zC Z Z Z (by kernel_rfl) (LC.pure (c63 h_v1) (.cons Conv.p (.cons Conv.p .nil)))) (zM Z (zN (zT (zQ (zR (zM Z (zS Z Z Z (LOp.bin Z Z Z Z) (zM Z ?_))))))))))))))))))))
 refine LOps.cases 12 Z (fun g1 => ?_) (fun g1 => ?_)
 ·
  refine zi g1 hr fun hr => zV Z Z Z (gd g1 Z) Z (LOp.move Z Z) (zV Z Z Z (gd g1 Z) Z (zA Z Z ft42_1) (zV Z Z Z (gd g1 Z) Z (zD Z Z Z vt3 Z Z) (zV Z Z Z (gd g1 Z) Z (LOp.bin Z Z Z Z) (zS Z Z Z (LOp.pickT Z (gdl g1 Z) Z) (zM Z ?_)))))
  refine LOps.cases 18 Z (fun g2 => ?_) (fun g2 => ?_)
  ·
   refine zi g2 hr fun hr => zV Z Z Z (gd g2 Z) Z (zD Z Z Z vt42 Z Z) (zV Z Z Z (gd g2 Z) Z (zC Z Z Z (by kernel_rfl) (LC.pure (c50 (b := b)) (.cons Conv.p .nil))) (zV Z Z Z (gd g2 Z) Z (LOp.build Z bt24 Z Z Z) (zV Z Z Z (gd g2 Z) Z (LOp.neqAgg Z Z Z Z Z eqt24) (zS Z Z Z (LOp.pickT Z (gdl g2 Z) Z) (zM Z (zN (zT (LW.ret ?_))))))))
   obtain rfl := zJ hr
   refine finP_ret (.one (.tmp Z)) ?_
   exact Conv.p
  ·
   refine zo g2 hr fun hr => zU Z Z Z (gd g2 Z) Z Z (zU Z Z Z (gd g2 Z) Z Z (zU Z Z Z (gd g2 Z) Z Z (zU Z Z Z (gd g2 Z) Z Z (zS Z Z Z (LOp.pickF Z (gdl g2 Z) Z) (zM Z (zN (zT (LW.ret ?_))))))))
   obtain rfl := zJ hr
   refine finP_ret (.one (.tmp Z)) ?_
   exact Conv.p
 ·
  refine zo g1 hr fun hr => zU Z Z Z (gd g1 Z) Z Z (zU Z Z Z (gd g1 Z) Z Z (zU Z Z Z (gd g1 Z) Z Z (zU Z Z Z (gd g1 Z) Z Z (zS Z Z Z (LOp.pickF Z (gdl g1 Z) Z) (zM Z (zU Z Z Z Z Z Z (zU Z Z Z Z Z Z (zU Z Z Z Z Z Z (zU Z Z Z Z Z Z (zS Z Z Z (LOp.pickF Z Z Z) (zM Z (zN (zT (LW.ret ?_))))))))))))))
  obtain rfl := zJ hr
  refine finP_ret (.one (.tmp Z)) ?_
  exact Conv.p
def F88 (c : Cf) (v : Vt) : Option Bool :=
 (F74 c v.Slot v.From).bind fun v1 =>
 some v1
set_option maxRecDepth 100000 in
theorem c88 {c : Cf} {v : Vt} {r_ : Bool} (hr : F88 c v = some r_) : LPure Tryz.prog 72 [cfP c, vtP v] [.bool r_] := by
 refine LPure.start Tryz.func72 Z Z Z Z ?_
 unfold F88 at hr
 refine zQ (zR (zS Z Z Z (LOp.box Z Z Z Z Z) (zS Z Z Z (LOp.box Z Z Z Z Z) (zM Z (zN (zT (zQ (zR (zS Z Z Z (zD Z Z Z vt55 Z Z) (zS Z Z Z (zA Z Z ft82_1) (zS Z Z Z (zD Z Z Z vt3 Z Z) (zS Z Z Z (zA Z Z ft82_0) (zS Z Z Z (zD Z Z Z vt3 Z Z) (zb hr fun v1 h_v1 hr => zS Z Z Z (zC Z Z Z (by kernel_rfl) (LC.pure (c74 h_v1) (.cons Conv.p (.cons Conv.p (.cons Conv.p .nil))))) (zM Z (zN (zT (LW.ret ?_))))))))))))))))))
 obtain rfl := zJ hr
 refine finP_ret (.one (.tmp Z)) ?_
 exact Conv.p
structure F170_L1 where
 t8 : Int
def F170_s1 (s : List Bk) (v : Bk) (x1 : F170_L1) : Option (F170_L1 ⊕ (F170_L1 ⊕ Int)) :=
 bif decide (x1.t8 < (s.length : Int)) then
  (ix s x1.t8).bind fun y1 =>
  bif ((v.Slot == y1.Slot) && ((v.From == y1.From) && ((v.Parent.1 == y1.Parent.1) && ((v.Parent.2 == y1.Parent.2) && ((v.Salt == y1.Salt) && true))))) then
   some (.inr (.inr x1.t8))
  else
   some (.inl (F170_L1.mk (IntKind.i64.wrap (x1.t8 + 1))))
 else
  some (.inr (.inl (F170_L1.mk x1.t8)))
def F170 (s : List Bk) (v : Bk) : Option Int :=
 (iter (F170_s1 s v) big (F170_L1.mk 0)).bind fun b_v1 => Sum.elim (fun _ =>
  some (-1)) some b_v1
set_option maxRecDepth 100000 in
theorem c170 {s : List Bk} {v : Bk} {r_ : Int} (hr : F170 s v = some r_) : LPure Tryz.prog 151 [.slice 5 (s.map blkP), blkP v] [.int .i64 r_] := by
 refine LPure.start Tryz.func151 Z Z Z Z ?_
 unfold F170 at hr
 refine zQ (zR (zS Z Z Z (LOp.box Z Z Z Z Z) (zM Z (zN (zT (zQ (zQ (zR (zM Z (zS Z Z Z (LOp.lenM Z Z (by kernel_rfl)) (zM Z (zN (zT ?_)))))))))))))
 obtain ⟨b_v1, hb_v1, ho_v1⟩ := zB hr
 clear hr
 refine LW.tailB (b := b_v1) (E := fun v1 => [(4, .p (.int .i64 0))]) (O := fun v1 => [.box [.p (.int .i64 v.Slot), .p (.int .i64 v.From), .p (.int .u64 v.Parent.1), .p (.int .u64 v.Parent.2), .p (.int .u64 v.Salt)]]) ?_ (fun v1 e_v1 env_v1 H_v1 hw_v1 => ?_)
 ·refine LW.block ?_
  refine LW.iterB (E := fun x1 : F170_L1 => [(0, .p (.slice 5 (s.map blkP))), (3, .ptr 0 0), (4, .p (.int .i64 0)), (7, .p (.int .i64 (s.length : Int))), (8, .p (.int .i64 x1.t8))]) (O := fun x1 => [.box [.p (.int .i64 v.Slot), .p (.int .i64 v.From), .p (.int .u64 v.Parent.1), .p (.int .u64 v.Parent.2), .p (.int .u64 v.Salt)]]) hb_v1 (zW 1 ⟨rfl, rfl, rfl, rfl, rfl, trivial⟩ Z Z Z Z) (fun x1 z_x1 hr hb_x1 => ?_)
  unfold F170_s1 at hr
  refine zQ (zR (zS Z Z Z (LOp.bin Z Z Z Z) (zN (zT (zQ ?_)))))
  refine zX Z (fun g1 => ?_) (fun g1 => ?_)
  ·
   refine zi g1 hr fun hr => LW.skip (zT (zQ (LW.block (zQ (zR (zM Z (zM Z (zN (zT (zQ (LW.draw (by kernel_rfl) (by kernel_rfl) (zE Z Z Z (zD Z Z Z vt42 Z Z) (zH Z (zH Z (zb hr fun y1 h_y1 hr => zE Z Z Z (LOp.indexAddrX Z Z Z st27 h_y1 Z) (zE Z Z Z (LOp.loadC Z Z Z vt42 Z Z) (zE Z Z Z (LOp.eqlAgg Z Z Z Z Z eqt42) (LO.nil (zT ?_)))))))))))))))))))
   refine zX Z (fun g2 => ?_) (fun g2 => ?_)
   ·
    refine zi g2 hr fun hr => zQ (zR (zM Z (zM Z (zN (zT (LW.ret (inBlk_r (thn_r (thn_r (inBlk_r (thn_r (thn_r ?_))))))))))))
    obtain rfl := zJ hr
    have hr := congrArg some (hb_x1 _ rfl)
    obtain rfl := zJ hr
    have hr := sum_r ho_v1
    obtain rfl := zJ hr
    refine finP_ret (.one (.tmp Z)) ?_
    exact Conv.p
   ·
    refine zo g2 hr fun hr => LW.skip (inBlk_n (zT (zR (zS Z Z Z (LOp.bin Z Z Z Z) (zM Z (zN (zT ?_)))))))
    obtain rfl := zJ hr
    exact ⟨_, rfl, zW 1 ⟨rfl, rfl, rfl, rfl, rfl, trivial⟩ Z Z Z rfl⟩
  ·
   refine zo g1 hr fun hr => LW.exit (thn_e (thn_e (inBlk_self (zT ?_))))
   obtain rfl := zJ hr
   have hr := congrArg some (hb_x1 _ rfl)
   obtain rfl := zJ hr
   exact ⟨_, rfl, zW 1 ⟨rfl, trivial⟩ Z Z Z rfl⟩
 ·obtain rfl := e_v1
  have hr := sum_l ho_v1
  clear hb_v1
  refine zT (LW.weak hw_v1 (zQ (zR (zM Z (zN (zT (LW.ret ?_)))))))
  obtain rfl := zJ hr
  refine finP_ret (.one (.tmp Z)) ?_
  exact Conv.p
structure F171_L1 where
 t8 : Int
def F171_s1 (s : List Vt) (v : Vt) (x1 : F171_L1) : Option (F171_L1 ⊕ (F171_L1 ⊕ Int)) :=
 bif decide (x1.t8 < (s.length : Int)) then
  (ix s x1.t8).bind fun y1 =>
  bif ((v.From == y1.From) && ((v.Slot == y1.Slot) && ((v.Head.1 == y1.Head.1) && ((v.Head.2 == y1.Head.2) && true)))) then
   some (.inr (.inr x1.t8))
  else
   some (.inl (F171_L1.mk (IntKind.i64.wrap (x1.t8 + 1))))
 else
  some (.inr (.inl (F171_L1.mk x1.t8)))
def F171 (s : List Vt) (v : Vt) : Option Int :=
 (iter (F171_s1 s v) big (F171_L1.mk 0)).bind fun b_v1 => Sum.elim (fun _ =>
  some (-1)) some b_v1
set_option maxRecDepth 100000 in
theorem c171 {s : List Vt} {v : Vt} {r_ : Int} (hr : F171 s v = some r_) : LPure Tryz.prog 152 [.slice 4 (s.map vtP), vtP v] [.int .i64 r_] := by
 refine LPure.start Tryz.func152 Z Z Z Z ?_
 unfold F171 at hr
 refine zQ (zR (zS Z Z Z (LOp.box Z Z Z Z Z) (zM Z (zN (zT (zQ (zQ (zR (zM Z (zS Z Z Z (LOp.lenM Z Z (by kernel_rfl)) (zM Z (zN (zT ?_)))))))))))))
 obtain ⟨b_v1, hb_v1, ho_v1⟩ := zB hr
 clear hr
 refine LW.tailB (b := b_v1) (E := fun v1 => [(4, .p (.int .i64 0))]) (O := fun v1 => [.box [.p (.int .i64 v.From), .p (.int .i64 v.Slot), .p (.int .u64 v.Head.1), .p (.int .u64 v.Head.2)]]) ?_ (fun v1 e_v1 env_v1 H_v1 hw_v1 => ?_)
 ·refine LW.block ?_
  refine LW.iterB (E := fun x1 : F171_L1 => [(0, .p (.slice 4 (s.map vtP))), (3, .ptr 0 0), (4, .p (.int .i64 0)), (7, .p (.int .i64 (s.length : Int))), (8, .p (.int .i64 x1.t8))]) (O := fun x1 => [.box [.p (.int .i64 v.From), .p (.int .i64 v.Slot), .p (.int .u64 v.Head.1), .p (.int .u64 v.Head.2)]]) hb_v1 (zW 1 ⟨rfl, rfl, rfl, rfl, rfl, trivial⟩ Z Z Z Z) (fun x1 z_x1 hr hb_x1 => ?_)
  unfold F171_s1 at hr
  refine zQ (zR (zS Z Z Z (LOp.bin Z Z Z Z) (zN (zT (zQ ?_)))))
  refine zX Z (fun g1 => ?_) (fun g1 => ?_)
  ·
   refine zi g1 hr fun hr => LW.skip (zT (zQ (LW.block (zQ (zR (zM Z (zM Z (zN (zT (zQ (LW.draw (by kernel_rfl) (by kernel_rfl) (zE Z Z Z (zD Z Z Z vt82 Z Z) (zH Z (zH Z (zb hr fun y1 h_y1 hr => zE Z Z Z (LOp.indexAddrX Z Z Z st68 h_y1 Z) (zE Z Z Z (LOp.loadC Z Z Z vt82 Z Z) (zE Z Z Z (LOp.eqlAgg Z Z Z Z Z eqt82) (LO.nil (zT ?_)))))))))))))))))))
   refine zX Z (fun g2 => ?_) (fun g2 => ?_)
   ·
    refine zi g2 hr fun hr => zQ (zR (zM Z (zM Z (zN (zT (LW.ret (inBlk_r (thn_r (thn_r (inBlk_r (thn_r (thn_r ?_))))))))))))
    obtain rfl := zJ hr
    have hr := congrArg some (hb_x1 _ rfl)
    obtain rfl := zJ hr
    have hr := sum_r ho_v1
    obtain rfl := zJ hr
    refine finP_ret (.one (.tmp Z)) ?_
    exact Conv.p
   ·
    refine zo g2 hr fun hr => LW.skip (inBlk_n (zT (zR (zS Z Z Z (LOp.bin Z Z Z Z) (zM Z (zN (zT ?_)))))))
    obtain rfl := zJ hr
    exact ⟨_, rfl, zW 1 ⟨rfl, rfl, rfl, rfl, rfl, trivial⟩ Z Z Z rfl⟩
  ·
   refine zo g1 hr fun hr => LW.exit (thn_e (thn_e (inBlk_self (zT ?_))))
   obtain rfl := zJ hr
   have hr := congrArg some (hb_x1 _ rfl)
   obtain rfl := zJ hr
   exact ⟨_, rfl, zW 1 ⟨rfl, trivial⟩ Z Z Z rfl⟩
 ·obtain rfl := e_v1
  have hr := sum_l ho_v1
  clear hb_v1
  refine zT (LW.weak hw_v1 (zQ (zR (zM Z (zN (zT (LW.ret ?_)))))))
  obtain rfl := zJ hr
  refine finP_ret (.one (.tmp Z)) ?_
  exact Conv.p
def F161 (s : List Bk) (v : Bk) : Option Bool :=
 (F170 s v).bind fun v1 =>
 some (decide (v1 ≥ 0))
set_option maxRecDepth 100000 in
theorem c161 {s : List Bk} {v : Bk} {r_ : Bool} (hr : F161 s v = some r_) : LPure Tryz.prog 123 [.slice 5 (s.map blkP), blkP v] [.bool r_] := by
 refine LPure.start Tryz.func123 Z Z Z Z ?_
 unfold F161 at hr
 refine zQ (zR (zS Z Z Z (LOp.box Z Z Z Z Z) (zM Z (zN (zT (zQ (zR (zM Z (zS Z Z Z (zD Z Z Z vt42 Z Z) (zb hr fun v1 h_v1 hr => zS Z Z Z (zC Z Z Z (by kernel_rfl) (LC.pure (c170 h_v1) (.cons Conv.p (.cons Conv.p .nil)))) (zS Z Z Z (LOp.bin Z Z Z Z) (zM Z (zN (zT (LW.ret ?_)))))))))))))))
 obtain rfl := zJ hr
 refine finP_ret (.one (.tmp Z)) ?_
 exact Conv.p
def F162 (s : List Vt) (v : Vt) : Option Bool :=
 (F171 s v).bind fun v1 =>
 some (decide (v1 ≥ 0))
set_option maxRecDepth 100000 in
theorem c162 {s : List Vt} {v : Vt} {r_ : Bool} (hr : F162 s v = some r_) : LPure Tryz.prog 124 [.slice 4 (s.map vtP), vtP v] [.bool r_] := by
 refine LPure.start Tryz.func124 Z Z Z Z ?_
 unfold F162 at hr
 refine zQ (zR (zS Z Z Z (LOp.box Z Z Z Z Z) (zM Z (zN (zT (zQ (zR (zM Z (zS Z Z Z (zD Z Z Z vt82 Z Z) (zb hr fun v1 h_v1 hr => zS Z Z Z (zC Z Z Z (by kernel_rfl) (LC.pure (c171 h_v1) (.cons Conv.p (.cons Conv.p .nil)))) (zS Z Z Z (LOp.bin Z Z Z Z) (zM Z (zN (zT (LW.ret ?_)))))))))))))))
 obtain rfl := zJ hr
 refine finP_ret (.one (.tmp Z)) ?_
 exact Conv.p
structure F139_L1 where
 t12 : Int
 out : List Bk
def F139_s1 (b : List Bk) (x1 : F139_L1) : Option (F139_L1 ⊕ F139_L1) :=
 bif decide (x1.t12 < (b.length : Int)) then
  (ix b x1.t12).bind fun y1 =>
  (F161 x1.out y1).bind fun v2 =>
  bif !v2 then
   bif room x1.out.length [y1].length 40 then
    some (.inl (F139_L1.mk (IntKind.i64.wrap (x1.t12 + 1)) (x1.out ++ [y1])))
   else none
  else
   some (.inl (F139_L1.mk (IntKind.i64.wrap (x1.t12 + 1)) x1.out))
 else
  some (.inr (F139_L1.mk x1.t12 x1.out))
def F139 (a : List Bk) (b : List Bk) : Option (List Bk) :=
 bif room 0 a.length 40 then
  (iter (F139_s1 b) big (F139_L1.mk 0 a)).bind fun v1 =>
  some v1.out
 else none
set_option maxRecDepth 100000 in
theorem c139 {a : List Bk} {b : List Bk} {r_ : (List Bk)} (hr : F139 a b = some r_) : LPure Tryz.prog 93 [.slice 5 (a.map blkP), .slice 5 (b.map blkP)] [.slice 5 (r_.map blkP)] := by
 refine LPure.start Tryz.func93 Z Z Z Z ?_
 unfold F139 at hr
 refine zQ (zR (zM Z (zN (zT (zQ (zR (zM Z (zg hr fun q1 hr => zS Z Z Z (LOp.callV (qs := [.p (.slice 5 (a.map blkP))]) Z Z Z (by kernel_rfl) (c133V q1) (.consC Conv.p .nil) Z Z) (zM Z (zN (zT (zQ (zQ (zR (zM Z (zS Z Z Z (LOp.lenM Z Z (by kernel_rfl)) (zM Z (zN (zT ?_)))))))))))))))))))
 obtain ⟨v1, hb_v1, ho_v1⟩ := zB hr
 clear hr
 refine LW.tail (E := [(4, .zs), (5, .vec 5 0 (v1.out.map blkP).length 0 (v1.out.map blkP).length)]) (O := [.vec 5 (v1.out.map blkP)]) ?_ (fun env_v1 H_v1 hw_v1 => ?_)
 ·refine LW.block ?_
  refine LW.iterB (E := fun x1 : F139_L1 => [(4, .zs), (5, .vec 5 0 (x1.out.map blkP).length 0 (x1.out.map blkP).length), (10, .p (.slice 5 (b.map blkP))), (11, .p (.int .i64 (b.length : Int))), (12, .p (.int .i64 x1.t12))]) (O := fun x1 => [.vec 5 (x1.out.map blkP)]) hb_v1 (zW 1 ⟨rfl, rfl, rfl, rfl, rfl, trivial⟩ Z Z Z Z) (fun x1 z_x1 hr hb_x1 => ?_)
  unfold F139_s1 at hr
  refine zQ (zR (zS Z Z Z (LOp.bin Z Z Z Z) (zN (zT (zQ ?_)))))
  refine zX Z (fun g1 => ?_) (fun g1 => ?_)
  ·
   refine zi g1 hr fun hr => LW.skip (zT (zQ (LW.block (zQ (zR (zb hr fun y1 h_y1 hr => zS Z Z Z (LOp.indexAddrX Z Z Z st27 h_y1 Z) (zS Z Z Z (LOp.loadC Z Z Z vt42 Z Z) (zS Z Z Z (LOp.alloc Z zt42 Z Z) (zS Z Z Z (LOp.store Z Z Z Z vt42 Z Z Z Z) (zN (zT (zQ (zR (zM Z (zS Z Z Z (zD Z Z Z vt42 Z Z) (zb hr fun v2 h_v2 hr => zS Z Z Z (zC Z Z Z (by kernel_rfl) (LC.lend (c161 h_v2) (.cons (Conv.vecAll Z Z Z) (.cons Conv.p .nil)) Z)) (zS Z Z Z (LOp.not Z Z) (zN (zT ?_)))))))))))))))))))
   refine zX Z (fun g2 => ?_) (fun g2 => ?_)
   ·
    refine zi g2 hr fun hr => zR (zM Z (zS Z Z Z (zD Z Z Z vt42 Z Z) (zS Z Z Z (LOp.buildSlice Z st27 Z Z Z Z Z) (zg hr fun q2 hr => zS Z Z Z (LOp.appendX blkP x1.out [y1] rfl Z Z Z Src.p Z st27 q2 Z) (zM Z (zN (inBlk_n (zT (zR (zS Z Z Z (LOp.bin Z Z Z Z) (zM Z (zN (zT ?_)))))))))))))
    obtain rfl := zJ hr
    exact ⟨_, rfl, zW 1 ⟨rfl, rfl, rfl, rfl, rfl, trivial⟩ Z Z Z rfl⟩
   ·
    refine zo g2 hr fun hr => LW.skip (inBlk_n (zT (zR (zS Z Z Z (LOp.bin Z Z Z Z) (zM Z (zN (zT ?_)))))))
    obtain rfl := zJ hr
    exact ⟨_, rfl, zW 1 ⟨rfl, rfl, rfl, rfl, rfl, trivial⟩ Z Z Z rfl⟩
  ·
   refine zo g1 hr fun hr => LW.exit (thn_e (thn_e (inBlk_self (zT ?_))))
   obtain rfl := zJ hr
   have hr := congrArg some (hb_x1 _ rfl)
   obtain rfl := zJ hr
   exact zW 1 ⟨Z, Z, trivial⟩ Z Z Z Z
 ·have hr := ho_v1
  clear hb_v1
  refine zT (LW.weak hw_v1 (zQ (zR (zM Z (zM Z (zN (zT (LW.ret ?_))))))))
  obtain rfl := zJ hr
  refine finP_ret (.one (.tmp Z)) ?_
  exact (Conv.vecAll Z Z Z)
structure F140_L1 where
 t12 : Int
 out : List Vt
def F140_s1 (b : List Vt) (x1 : F140_L1) : Option (F140_L1 ⊕ F140_L1) :=
 bif decide (x1.t12 < (b.length : Int)) then
  (ix b x1.t12).bind fun y1 =>
  (F162 x1.out y1).bind fun v2 =>
  bif !v2 then
   bif room x1.out.length [y1].length 32 then
    some (.inl (F140_L1.mk (IntKind.i64.wrap (x1.t12 + 1)) (x1.out ++ [y1])))
   else none
  else
   some (.inl (F140_L1.mk (IntKind.i64.wrap (x1.t12 + 1)) x1.out))
 else
  some (.inr (F140_L1.mk x1.t12 x1.out))
def F140 (a : List Vt) (b : List Vt) : Option (List Vt) :=
 bif room 0 a.length 32 then
  (iter (F140_s1 b) big (F140_L1.mk 0 a)).bind fun v1 =>
  some v1.out
 else none
set_option maxRecDepth 100000 in
theorem c140 {a : List Vt} {b : List Vt} {r_ : (List Vt)} (hr : F140 a b = some r_) : LPure Tryz.prog 94 [.slice 4 (a.map vtP), .slice 4 (b.map vtP)] [.slice 4 (r_.map vtP)] := by
 refine LPure.start Tryz.func94 Z Z Z Z ?_
 unfold F140 at hr
 refine zQ (zR (zM Z (zN (zT (zQ (zR (zM Z (zg hr fun q1 hr => zS Z Z Z (LOp.callV (qs := [.p (.slice 4 (a.map vtP))]) Z Z Z (by kernel_rfl) (c134V q1) (.consC Conv.p .nil) Z Z) (zM Z (zN (zT (zQ (zQ (zR (zM Z (zS Z Z Z (LOp.lenM Z Z (by kernel_rfl)) (zM Z (zN (zT ?_)))))))))))))))))))
 obtain ⟨v1, hb_v1, ho_v1⟩ := zB hr
 clear hr
 refine LW.tail (E := [(4, .zs), (5, .vec 4 0 (v1.out.map vtP).length 0 (v1.out.map vtP).length)]) (O := [.vec 4 (v1.out.map vtP)]) ?_ (fun env_v1 H_v1 hw_v1 => ?_)
 ·refine LW.block ?_
  refine LW.iterB (E := fun x1 : F140_L1 => [(4, .zs), (5, .vec 4 0 (x1.out.map vtP).length 0 (x1.out.map vtP).length), (10, .p (.slice 4 (b.map vtP))), (11, .p (.int .i64 (b.length : Int))), (12, .p (.int .i64 x1.t12))]) (O := fun x1 => [.vec 4 (x1.out.map vtP)]) hb_v1 (zW 1 ⟨rfl, rfl, rfl, rfl, rfl, trivial⟩ Z Z Z Z) (fun x1 z_x1 hr hb_x1 => ?_)
  unfold F140_s1 at hr
  refine zQ (zR (zS Z Z Z (LOp.bin Z Z Z Z) (zN (zT (zQ ?_)))))
  refine zX Z (fun g1 => ?_) (fun g1 => ?_)
  ·
   refine zi g1 hr fun hr => LW.skip (zT (zQ (LW.block (zQ (zR (zb hr fun y1 h_y1 hr => zS Z Z Z (LOp.indexAddrX Z Z Z st68 h_y1 Z) (zS Z Z Z (LOp.loadC Z Z Z vt82 Z Z) (zS Z Z Z (LOp.alloc Z zt82 Z Z) (zS Z Z Z (LOp.store Z Z Z Z vt82 Z Z Z Z) (zN (zT (zQ (zR (zM Z (zS Z Z Z (zD Z Z Z vt82 Z Z) (zb hr fun v2 h_v2 hr => zS Z Z Z (zC Z Z Z (by kernel_rfl) (LC.lend (c162 h_v2) (.cons (Conv.vecAll Z Z Z) (.cons Conv.p .nil)) Z)) (zS Z Z Z (LOp.not Z Z) (zN (zT ?_)))))))))))))))))))
   refine zX Z (fun g2 => ?_) (fun g2 => ?_)
   ·
    refine zi g2 hr fun hr => zR (zM Z (zS Z Z Z (zD Z Z Z vt82 Z Z) (zS Z Z Z (LOp.buildSlice Z st68 Z Z Z Z Z) (zg hr fun q2 hr => zS Z Z Z (LOp.appendX vtP x1.out [y1] rfl Z Z Z Src.p Z st68 q2 Z) (zM Z (zN (inBlk_n (zT (zR (zS Z Z Z (LOp.bin Z Z Z Z) (zM Z (zN (zT ?_)))))))))))))
    obtain rfl := zJ hr
    exact ⟨_, rfl, zW 1 ⟨rfl, rfl, rfl, rfl, rfl, trivial⟩ Z Z Z rfl⟩
   ·
    refine zo g2 hr fun hr => LW.skip (inBlk_n (zT (zR (zS Z Z Z (LOp.bin Z Z Z Z) (zM Z (zN (zT ?_)))))))
    obtain rfl := zJ hr
    exact ⟨_, rfl, zW 1 ⟨rfl, rfl, rfl, rfl, rfl, trivial⟩ Z Z Z rfl⟩
  ·
   refine zo g1 hr fun hr => LW.exit (thn_e (thn_e (inBlk_self (zT ?_))))
   obtain rfl := zJ hr
   have hr := congrArg some (hb_x1 _ rfl)
   obtain rfl := zJ hr
   exact zW 1 ⟨Z, Z, trivial⟩ Z Z Z Z
 ·have hr := ho_v1
  clear hb_v1
  refine zT (LW.weak hw_v1 (zQ (zR (zM Z (zM Z (zN (zT (LW.ret ?_))))))))
  obtain rfl := zJ hr
  refine finP_ret (.one (.tmp Z)) ?_
  exact (Conv.vecAll Z Z Z)
def F91 (a : Vw) (b : Vw) : Option Vw :=
 (F139 a.B b.B).bind fun v1 =>
 (F140 a.V b.V).bind fun v2 =>
 some (Vw.mk v1 v2)
set_option maxRecDepth 100000 in
theorem c91 {a : Vw} {b : Vw} {r_ : Vw} (hr : F91 a b = some r_) : LPure Tryz.prog 53 [vwP a, vwP b] [vwP r_] := by
 refine LPure.start Tryz.func53 Z Z Z Z ?_
 unfold F91 at hr
 refine zQ (zR (zS Z Z Z (LOp.box Z Z Z Z Z) (zS Z Z Z (LOp.box Z Z Z Z Z) (zS Z Z Z (LOp.alloc Z zt75 Z Z) (zN (zT (zQ (LW.drawLast (m := 11) (by kernel_rfl) (by kernel_rfl) (by kernel_rfl) (zE Z Z Z (zA Z Z ft75_0) (zE Z Z Z (zD Z Z Z vt27 Z Z) (zE Z Z Z (zA Z Z ft75_0) (zE Z Z Z (zD Z Z Z vt27 Z Z) (zb hr fun v1 h_v1 hr => zE Z Z Z (zC Z Z Z (by kernel_rfl) (LC.pure (c139 h_v1) (.cons Conv.p (.cons Conv.p .nil)))) (zE Z Z Z (zA Z Z ft75_1) (zE Z Z Z (zD Z Z Z vt68 Z Z) (zE Z Z Z (zA Z Z ft75_1) (zE Z Z Z (zD Z Z Z vt68 Z Z) (zb hr fun v2 h_v2 hr => zE Z Z Z (zC Z Z Z (by kernel_rfl) (LC.pure (c140 h_v2) (.cons Conv.p (.cons Conv.p .nil)))) (zE Z Z Z (LOp.build Z bt75 Z Z Z) (LO.nil (zS Z Z Z (LOp.store Z Z Z Z vt75 Z Z Z Z) ?_)))))))))))))))))))))
 refine zN (zT (LW.ret ?_))
 obtain rfl := zJ hr
 refine finP_ret (.one (.cellAgg Z Z (by kernel_rfl) Z)) ?_
 exact Conv.p
structure F163_L1 where
 n : Int
 i : Int
structure F129_L1 where
 i : Int
def F129_s1 (a : List Vt) (b : List Vt) (x1 : F129_L1) : Option (F129_L1 ⊕ (F129_L1 ⊕ Bool)) :=
 bif decide (x1.i < (a.length : Int)) then
  (ix a x1.i).bind fun y1 =>
  (ix b x1.i).bind fun y2 =>
  bif !((y1.From == y2.From) && ((y1.Slot == y2.Slot) && ((y1.Head.1 == y2.Head.1) && ((y1.Head.2 == y2.Head.2) && true)))) then
   some (.inr (.inr false))
  else
   some (.inl (F129_L1.mk (IntKind.i64.wrap (x1.i + 1))))
 else
  some (.inr (.inl (F129_L1.mk x1.i)))
def F129 (a : List Vt) (b : List Vt) : Option Bool :=
 bif (a.length : Int) != (b.length : Int) then
  some false
 else
  (iter (F129_s1 a b) big (F129_L1.mk 0)).bind fun b_v1 => Sum.elim (fun _ =>
   some true) some b_v1
set_option maxRecDepth 100000 in
theorem c129 {a : List Vt} {b : List Vt} {r_ : Bool} (hr : F129 a b = some r_) : LPure Tryz.prog 59 [.slice 4 (a.map vtP), .slice 4 (b.map vtP)] [.bool r_] := by
 refine LPure.start Tryz.func59 Z Z Z Z ?_
 unfold F129 at hr
 refine zQ (zR (zM Z (zN (zT (zQ (zQ (zR (zM Z (zS Z Z Z (LOp.lenM Z Z (by kernel_rfl)) (zM Z (zS Z Z Z (LOp.lenM Z Z (by kernel_rfl)) (zS Z Z Z (LOp.bin Z Z Z Z) (zN (zT ?_))))))))))))))
 refine zX Z (fun g1 => ?_) (fun g1 => ?_)
 ·
  refine zi g1 hr fun hr => zQ (zR (zM Z (zN (zT (LW.ret (thn_r ?_))))))
  obtain rfl := zJ hr
  refine finP_ret (.one (.tmp Z)) ?_
  exact Conv.p
 ·
  refine zo g1 hr fun hr => LW.skip (zT (zQ (zQ (zR (zM Z (zN (zT ?_)))))))
  obtain ⟨b_v1, hb_v1, ho_v1⟩ := zB hr
  clear hr
  refine LW.tailB (b := b_v1) (E := fun v1 => [(4, .p (.bool false))]) (O := fun v1 => []) ?_ (fun v1 e_v1 env_v1 H_v1 hw_v1 => ?_)
  ·refine LW.block ?_
   refine LW.iterB (E := fun x1 : F129_L1 => [(0, .p (.slice 4 (a.map vtP))), (1, .p (.slice 4 (b.map vtP))), (4, .p (.bool false)), (5, .p (.int .i64 x1.i))]) (O := fun x1 => []) hb_v1 (zW 0 ⟨rfl, rfl, rfl, rfl, trivial⟩ Z Z Z Z) (fun x1 z_x1 hr hb_x1 => ?_)
   unfold F129_s1 at hr
   refine zQ (zQ (zR (zM Z (zM Z (zS Z Z Z (LOp.lenM Z Z (by kernel_rfl)) (zS Z Z Z (LOp.bin Z Z Z Z) (zN (zT ?_))))))))
   refine zX Z (fun g2 => ?_) (fun g2 => ?_)
   ·
    refine zi g2 hr fun hr => LW.skip (zT (zQ (LW.block (zQ (LW.draw (by kernel_rfl) (by kernel_rfl) (zH Z (zH Z (zb hr fun y1 h_y1 hr => zE Z Z Z (LOp.indexAddrX Z Z Z st68 h_y1 Z) (zE Z Z Z (LOp.loadC Z Z Z vt82 Z Z) (zH Z (zH Z (zb hr fun y2 h_y2 hr => zE Z Z Z (LOp.indexAddrX Z Z Z st68 h_y2 Z) (zE Z Z Z (LOp.loadC Z Z Z vt82 Z Z) (zE Z Z Z (LOp.neqAgg Z Z Z Z Z eqt82) (LO.nil (zT ?_))))))))))))))))
    refine zX Z (fun g3 => ?_) (fun g3 => ?_)
    ·
     refine zi g3 hr fun hr => zQ (zR (zM Z (zN (zT (LW.ret (inBlk_r (thn_r (thn_r (inBlk_r (thn_r (thn_r ?_)))))))))))
     obtain rfl := zJ hr
     have hr := congrArg some (hb_x1 _ rfl)
     obtain rfl := zJ hr
     have hr := sum_r ho_v1
     obtain rfl := zJ hr
     refine finP_ret (.one (.tmp Z)) ?_
     exact Conv.p
    ·
     refine zo g3 hr fun hr => LW.skip (inBlk_n (zT (zR (zM Z (zS Z Z Z (LOp.bin Z Z Z Z) (zM Z (zN (zT ?_))))))))
     obtain rfl := zJ hr
     exact ⟨_, rfl, zW 0 ⟨rfl, rfl, rfl, rfl, trivial⟩ Z Z Z rfl⟩
   ·
    refine zo g2 hr fun hr => LW.exit (thn_e (thn_e (inBlk_self (zT ?_))))
    obtain rfl := zJ hr
    have hr := congrArg some (hb_x1 _ rfl)
    obtain rfl := zJ hr
    exact ⟨_, rfl, zW 0 ⟨rfl, trivial⟩ Z Z Z rfl⟩
  ·obtain rfl := e_v1
   have hr := sum_l ho_v1
   clear hb_v1
   refine zT (LW.weak hw_v1 (zQ (zR (zM Z (zN (zT (LW.ret ?_)))))))
   obtain rfl := zJ hr
   refine finP_ret (.one (.tmp Z)) ?_
   exact Conv.p
structure F128_L1 where
 i : Int
def F128_s1 (a : List Bk) (b : List Bk) (x1 : F128_L1) : Option (F128_L1 ⊕ (F128_L1 ⊕ Bool)) :=
 bif decide (x1.i < (a.length : Int)) then
  (ix a x1.i).bind fun y1 =>
  (ix b x1.i).bind fun y2 =>
  bif !((y1.Slot == y2.Slot) && ((y1.From == y2.From) && ((y1.Parent.1 == y2.Parent.1) && ((y1.Parent.2 == y2.Parent.2) && ((y1.Salt == y2.Salt) && true))))) then
   some (.inr (.inr false))
  else
   some (.inl (F128_L1.mk (IntKind.i64.wrap (x1.i + 1))))
 else
  some (.inr (.inl (F128_L1.mk x1.i)))
def F128 (a : List Bk) (b : List Bk) : Option Bool :=
 bif (a.length : Int) != (b.length : Int) then
  some false
 else
  (iter (F128_s1 a b) big (F128_L1.mk 0)).bind fun b_v1 => Sum.elim (fun _ =>
   some true) some b_v1
set_option maxRecDepth 100000 in
theorem c128 {a : List Bk} {b : List Bk} {r_ : Bool} (hr : F128 a b = some r_) : LPure Tryz.prog 58 [.slice 5 (a.map blkP), .slice 5 (b.map blkP)] [.bool r_] := by
 refine LPure.start Tryz.func58 Z Z Z Z ?_
 unfold F128 at hr
 refine zQ (zR (zM Z (zN (zT (zQ (zQ (zR (zM Z (zS Z Z Z (LOp.lenM Z Z (by kernel_rfl)) (zM Z (zS Z Z Z (LOp.lenM Z Z (by kernel_rfl)) (zS Z Z Z (LOp.bin Z Z Z Z) (zN (zT ?_))))))))))))))
 refine zX Z (fun g1 => ?_) (fun g1 => ?_)
 ·
  refine zi g1 hr fun hr => zQ (zR (zM Z (zN (zT (LW.ret (thn_r ?_))))))
  obtain rfl := zJ hr
  refine finP_ret (.one (.tmp Z)) ?_
  exact Conv.p
 ·
  refine zo g1 hr fun hr => LW.skip (zT (zQ (zQ (zR (zM Z (zN (zT ?_)))))))
  obtain ⟨b_v1, hb_v1, ho_v1⟩ := zB hr
  clear hr
  refine LW.tailB (b := b_v1) (E := fun v1 => [(4, .p (.bool false))]) (O := fun v1 => []) ?_ (fun v1 e_v1 env_v1 H_v1 hw_v1 => ?_)
  ·refine LW.block ?_
   refine LW.iterB (E := fun x1 : F128_L1 => [(0, .p (.slice 5 (a.map blkP))), (1, .p (.slice 5 (b.map blkP))), (4, .p (.bool false)), (5, .p (.int .i64 x1.i))]) (O := fun x1 => []) hb_v1 (zW 0 ⟨rfl, rfl, rfl, rfl, trivial⟩ Z Z Z Z) (fun x1 z_x1 hr hb_x1 => ?_)
   unfold F128_s1 at hr
   refine zQ (zQ (zR (zM Z (zM Z (zS Z Z Z (LOp.lenM Z Z (by kernel_rfl)) (zS Z Z Z (LOp.bin Z Z Z Z) (zN (zT ?_))))))))
   refine zX Z (fun g2 => ?_) (fun g2 => ?_)
   ·
    refine zi g2 hr fun hr => LW.skip (zT (zQ (LW.block (zQ (LW.draw (by kernel_rfl) (by kernel_rfl) (zH Z (zH Z (zb hr fun y1 h_y1 hr => zE Z Z Z (LOp.indexAddrX Z Z Z st27 h_y1 Z) (zE Z Z Z (LOp.loadC Z Z Z vt42 Z Z) (zH Z (zH Z (zb hr fun y2 h_y2 hr => zE Z Z Z (LOp.indexAddrX Z Z Z st27 h_y2 Z) (zE Z Z Z (LOp.loadC Z Z Z vt42 Z Z) (zE Z Z Z (LOp.neqAgg Z Z Z Z Z eqt42) (LO.nil (zT ?_))))))))))))))))
    refine zX Z (fun g3 => ?_) (fun g3 => ?_)
    ·
     refine zi g3 hr fun hr => zQ (zR (zM Z (zN (zT (LW.ret (inBlk_r (thn_r (thn_r (inBlk_r (thn_r (thn_r ?_)))))))))))
     obtain rfl := zJ hr
     have hr := congrArg some (hb_x1 _ rfl)
     obtain rfl := zJ hr
     have hr := sum_r ho_v1
     obtain rfl := zJ hr
     refine finP_ret (.one (.tmp Z)) ?_
     exact Conv.p
    ·
     refine zo g3 hr fun hr => LW.skip (inBlk_n (zT (zR (zM Z (zS Z Z Z (LOp.bin Z Z Z Z) (zM Z (zN (zT ?_))))))))
     obtain rfl := zJ hr
     exact ⟨_, rfl, zW 0 ⟨rfl, rfl, rfl, rfl, trivial⟩ Z Z Z rfl⟩
   ·
    refine zo g2 hr fun hr => LW.exit (thn_e (thn_e (inBlk_self (zT ?_))))
    obtain rfl := zJ hr
    have hr := congrArg some (hb_x1 _ rfl)
    obtain rfl := zJ hr
    exact ⟨_, rfl, zW 0 ⟨rfl, trivial⟩ Z Z Z rfl⟩
  ·obtain rfl := e_v1
   have hr := sum_l ho_v1
   clear hb_v1
   refine zT (LW.weak hw_v1 (zQ (zR (zM Z (zN (zT (LW.ret ?_)))))))
   obtain rfl := zJ hr
   refine finP_ret (.one (.tmp Z)) ?_
   exact Conv.p
structure F141_L1 where
 i : Int
 o3 : List Bk
structure F141_L2 where
 there : Bool
 k : Int
structure F141_L3 where
 i : Int
 o4 : List Vt
def F86 (a : Vw) (b : Vw) : Option Bool :=
 (F128 a.B b.B).bind fun v1 =>
 (F129 a.V b.V).bind fun v2 =>
 bif v1 then
  some v2
 else
  some false
set_option maxRecDepth 100000 in
theorem c86 {a : Vw} {b : Vw} {r_ : Bool} (hr : F86 a b = some r_) : LPure Tryz.prog 19 [vwP a, vwP b] [.bool r_] := by
 refine LPure.start Tryz.func19 Z Z Z Z ?_
 unfold F86 at hr
 refine zQ (zR (zS Z Z Z (LOp.box Z Z Z Z Z) (zS Z Z Z (LOp.box Z Z Z Z Z) (zM Z (zN (zT (zQ (zR (zS Z Z Z (zA Z Z ft75_0) (zS Z Z Z (zD Z Z Z vt27 Z Z) (zS Z Z Z (zA Z Z ft75_0) (zS Z Z Z (zD Z Z Z vt27 Z Z) (zb hr fun v1 h_v1 hr => zS Z Z Z (zC Z Z Z (by kernel_rfl) (LC.pure (c128 h_v1) (.cons Conv.p (.cons Conv.p .nil)))) (zM Z (zN (zT (zQ (zR (zS Z Z Z (zA Z Z ft75_1) (zS Z Z Z (zD Z Z Z vt68 Z Z) (zS Z Z Z (zA Z Z ft75_1) (zS Z Z Z (zD Z Z Z vt68 Z Z) ?_))))))))))))))))))))))
 refine zb hr fun v2 h_v2 hr => zS Z Z Z (zC Z Z Z (by kernel_rfl) (LC.pure (c129 h_v2) (.cons Conv.p (.cons Conv.p .nil)))) (zM Z (zN (zT (zQ (zR (zM Z (zM Z ?_)))))))
 refine LOps.cases 18 Z (fun g1 => ?_) (fun g1 => ?_)
 ·
  refine zi g1 hr fun hr => zV Z Z Z (gd g1 Z) Z (LOp.move Z Z) (zS Z Z Z (LOp.pickT Z (gdl g1 Z) Z) (zM Z (zN (zT (LW.ret ?_)))))
  obtain rfl := zJ hr
  refine finP_ret (.one (.tmp Z)) ?_
  exact Conv.p
 ·
  refine zo g1 hr fun hr => zU Z Z Z (gd g1 Z) Z Z (zS Z Z Z (LOp.pickF Z (gdl g1 Z) Z) (zM Z (zN (zT (LW.ret ?_)))))
  obtain rfl := zJ hr
  refine finP_ret (.one (.tmp Z)) ?_
  exact Conv.p
def F84 (w : Vw) (most : Int) : Option Bool :=
 bif decide ((w.B.length : Int) ≤ most) then
  some (decide ((w.V.length : Int) ≤ most))
 else
  some false
set_option maxRecDepth 100000 in
theorem c84 {w : Vw} {most : Int} {r_ : Bool} (hr : F84 w most = some r_) : LPure Tryz.prog 15 [vwP w, .int .i64 most] [.bool r_] := by
 refine LPure.start Tryz.func15 Z Z Z Z ?_
 unfold F84 at hr
 refine zQ (zR (zS Z Z Z (LOp.box Z Z Z Z Z) (zM Z (zN (zT (zQ (zR (zS Z Z Z (zA Z Z ft75_0) (zS Z Z Z (zD Z Z Z vt27 Z Z) (zS Z Z Z (LOp.lenM Z Z (by kernel_rfl)) (zM Z (zS Z Z Z (LOp.bin Z Z Z Z) (zM Z ?_)))))))))))))
 refine LOps.cases 10 Z (fun g1 => ?_) (fun g1 => ?_)
 ·
  refine zi g1 hr fun hr => zV Z Z Z (gd g1 Z) Z (zA Z Z ft75_1) (zV Z Z Z (gd g1 Z) Z (zD Z Z Z vt68 Z Z) (zV Z Z Z (gd g1 Z) Z (LOp.lenM Z Z (by kernel_rfl)) (zV Z Z Z (gd g1 Z) Z (LOp.move Z Z) (zV Z Z Z (gd g1 Z) Z (LOp.bin Z Z Z Z) (zS Z Z Z (LOp.pickT Z (gdl g1 Z) Z) (zM Z (zN (zT (LW.ret ?_)))))))))
  obtain rfl := zJ hr
  refine finP_ret (.one (.tmp Z)) ?_
  exact Conv.p
 ·
  refine zo g1 hr fun hr => zU Z Z Z (gd g1 Z) Z Z (zU Z Z Z (gd g1 Z) Z Z (zU Z Z Z (gd g1 Z) Z Z (zU Z Z Z (gd g1 Z) Z Z (zU Z Z Z (gd g1 Z) Z Z (zS Z Z Z (LOp.pickF Z (gdl g1 Z) Z) (zM Z (zN (zT (LW.ret ?_)))))))))
  obtain rfl := zJ hr
  refine finP_ret (.one (.tmp Z)) ?_
  exact Conv.p
def F125 : Option Cf :=
 some (Cf.mk [1] 0 1 1 4)
set_option maxRecDepth 100000 in
theorem c125 {r_ : Cf} (hr : F125 = some r_) : LPure Tryz.prog 46 [] [cfP r_] := by
 refine LPure.start Tryz.func46 Z Z Z Z ?_
 unfold F125 at hr
 refine zQ (zR (zS Z Z Z (LOp.alloc Z zt55 Z Z) (zN (zT (zQ (zR (zS Z Z Z (LOp.buildSlice Z st49 Z Z Z Z Z) (zS Z Z Z (LOp.build Z bt55 Z Z Z) (zS Z Z Z (LOp.store Z Z Z Z vt55 Z Z Z Z) (zN (zT (LW.ret ?_))))))))))))
 obtain rfl := zJ hr
 refine finP_ret (.one (.cellAgg Z Z (by kernel_rfl) Z)) ?_
 exact Conv.p
open Go.Proofs
structure F126_L1 where
 t12 : Int
 out : List Bk
def F126_s1 (c : Cf) (l : List Bk) (x1 : F126_L1) : Option (F126_L1 ⊕ F126_L1) :=
 bif decide (x1.t12 < (l.length : Int)) then
  (ix l x1.t12).bind fun y1 =>
  (F87 c y1).bind fun v2 =>
  bif v2 then
   bif room x1.out.length [y1].length 40 then
    some (.inl (F126_L1.mk (IntKind.i64.wrap (x1.t12 + 1)) (x1.out ++ [y1])))
   else none
  else
   some (.inl (F126_L1.mk (IntKind.i64.wrap (x1.t12 + 1)) x1.out))
 else
  some (.inr (F126_L1.mk x1.t12 x1.out))
def F126 (c : Cf) (l : List Bk) : Option (List Bk) :=
 (iter (F126_s1 c l) big (F126_L1.mk 0 ([] : List Bk))).bind fun v1 =>
 some v1.out
set_option maxRecDepth 100000 in
theorem cF126 {c : Cf} {l : List Bk} {r_ : List Bk} (hr : F126 c l = some r_) : LC Tryz.prog 69 [.p (cfP c), .p (.slice 5 (l.map blkP)), .fn 70 [] []] [] (Is (.vec 5 0 (r_.map blkP).length 0 (r_.map blkP).length) [.vec 5 (r_.map blkP)]) := by
 refine LC.start Tryz.func69 Z Z Z ?_
 unfold F126 at hr
 refine zQ (zR (zS Z Z Z (LOp.box Z Z Z Z Z) (zM Z (zN (zT (zQ (zR (zM Z (zN (zT (zQ (zQ (zR (zM Z (zS Z Z Z (LOp.lenM Z Z (by kernel_rfl)) (zM Z (zN (zT (LW.ent (Ent.lazy (t := 7) (m := 5) Z Z Z) ?_)))))))))))))))))))
 obtain ⟨v1, hb_v1, ho_v1⟩ := zB hr
 clear hr
 refine LW.tail (E := [(6, .zs), (7, .vec 5 1 (v1.out.map blkP).length 0 (v1.out.map blkP).length)]) (O := [.box [.p (.slice 1 (c.W.map i64P)), .p (.int .u64 c.Seed), .p (.int .i64 c.Epoch), .p (.int .i64 c.Num), .p (.int .i64 c.Den)], .vec 5 (v1.out.map blkP)]) ?_ (fun env_v1 H_v1 hw_v1 => ?_)
 ·refine LW.block ?_
  refine LW.iterB (E := fun x1 : F126_L1 => [(2, .fn 70 [] []), (3, .ptr 0 0), (6, .zs), (7, .vec 5 1 (x1.out.map blkP).length 0 (x1.out.map blkP).length), (10, .p (.slice 5 (l.map blkP))), (11, .p (.int .i64 (l.length : Int))), (12, .p (.int .i64 x1.t12))]) (O := fun x1 => [.box [.p (.slice 1 (c.W.map i64P)), .p (.int .u64 c.Seed), .p (.int .i64 c.Epoch), .p (.int .i64 c.Num), .p (.int .i64 c.Den)], .vec 5 (x1.out.map blkP)]) hb_v1 (zW 2 ⟨rfl, rfl, rfl, rfl, rfl, rfl, rfl, trivial⟩ Z Z Z Z) (fun x1 z_x1 hr hb_x1 => ?_)
  unfold F126_s1 at hr
  refine zQ (zR (zS Z Z Z (LOp.bin Z Z Z Z) (zN (zT (zQ ?_)))))
  refine zX Z (fun g1 => ?_) (fun g1 => ?_)
  ·
   refine zi g1 hr fun hr => LW.skip (zT (zQ (LW.block (zQ (zR (zb hr fun y1 h_y1 hr => zS Z Z Z (LOp.indexAddrX Z Z Z st27 h_y1 Z) (zS Z Z Z (LOp.loadC Z Z Z vt42 Z Z) (zS Z Z Z (LOp.alloc Z zt42 Z Z) (zS Z Z Z (LOp.store Z Z Z Z vt42 Z Z Z Z) (zN (zT (zQ (zR (zM Z (zS Z Z Z (zD Z Z Z vt55 Z Z) (zS Z Z Z (zD Z Z Z vt42 Z Z) (zb hr fun v2 h_v2 hr => zS Z Z Z (zC Z Z Z (by kernel_rfl) (LC.pure (c87 h_v2) (.cons Conv.p (.cons Conv.p .nil)))) (zN (zT ?_)))))))))))))))))))
   refine zX Z (fun g2 => ?_) (fun g2 => ?_)
   ·
    refine zi g2 hr fun hr => zR (zM Z (zS Z Z Z (zD Z Z Z vt42 Z Z) (zS Z Z Z (LOp.buildSlice Z st27 Z Z Z Z Z) (zg hr fun q1 hr => zS Z Z Z (LOp.appendX blkP x1.out [y1] rfl Z Z Z Src.p Z st27 q1 Z) (zM Z (zN (inBlk_n (zT (zR (zS Z Z Z (LOp.bin Z Z Z Z) (zM Z (zN (zT ?_)))))))))))))
    obtain rfl := zJ hr
    exact ⟨_, rfl, zW 2 ⟨rfl, rfl, rfl, rfl, rfl, rfl, rfl, trivial⟩ Z Z Z rfl⟩
   ·
    refine zo g2 hr fun hr => LW.skip (inBlk_n (zT (zR (zS Z Z Z (LOp.bin Z Z Z Z) (zM Z (zN (zT ?_)))))))
    obtain rfl := zJ hr
    exact ⟨_, rfl, zW 2 ⟨rfl, rfl, rfl, rfl, rfl, rfl, rfl, trivial⟩ Z Z Z rfl⟩
  ·
   refine zo g1 hr fun hr => LW.exit (thn_e (thn_e (inBlk_self (zT ?_))))
   obtain rfl := zJ hr
   have hr := congrArg some (hb_x1 _ rfl)
   obtain rfl := zJ hr
   exact zW 2 ⟨Z, Z, trivial⟩ Z Z Z Z
 ·have hr := ho_v1
  clear hb_v1
  refine zT (LW.weak hw_v1 (zQ (LW.ent (Ent.last (t := 7) (j := 0) (Hj := []) Z Z Z Z Z Z Z) (zR (zM Z (zM Z (zN (zT (LW.ret ?_)))))))))
  obtain rfl := zJ hr
  refine fin_ret (.one (.tmp Z)) ?_
  exact ⟨rfl, rfl⟩
structure F127_L1 where
 t12 : Int
 out : List Vt
def F127_s1 (c : Cf) (l : List Vt) (x1 : F127_L1) : Option (F127_L1 ⊕ F127_L1) :=
 bif decide (x1.t12 < (l.length : Int)) then
  (ix l x1.t12).bind fun y1 =>
  (F88 c y1).bind fun v2 =>
  bif v2 then
   bif room x1.out.length [y1].length 32 then
    some (.inl (F127_L1.mk (IntKind.i64.wrap (x1.t12 + 1)) (x1.out ++ [y1])))
   else none
  else
   some (.inl (F127_L1.mk (IntKind.i64.wrap (x1.t12 + 1)) x1.out))
 else
  some (.inr (F127_L1.mk x1.t12 x1.out))
def F127 (c : Cf) (l : List Vt) : Option (List Vt) :=
 (iter (F127_s1 c l) big (F127_L1.mk 0 ([] : List Vt))).bind fun v1 =>
 some v1.out
set_option maxRecDepth 100000 in
theorem cF127 {c : Cf} {l : List Vt} {r_ : List Vt} (hr : F127 c l = some r_) : LC Tryz.prog 71 [.p (cfP c), .p (.slice 4 (l.map vtP)), .fn 72 [] []] [] (Is (.vec 4 0 (r_.map vtP).length 0 (r_.map vtP).length) [.vec 4 (r_.map vtP)]) := by
 refine LC.start Tryz.func71 Z Z Z ?_
 unfold F127 at hr
 refine zQ (zR (zS Z Z Z (LOp.box Z Z Z Z Z) (zM Z (zN (zT (zQ (zR (zM Z (zN (zT (zQ (zQ (zR (zM Z (zS Z Z Z (LOp.lenM Z Z (by kernel_rfl)) (zM Z (zN (zT (LW.ent (Ent.lazy (t := 7) (m := 4) Z Z Z) ?_)))))))))))))))))))
 obtain ⟨v1, hb_v1, ho_v1⟩ := zB hr
 clear hr
 refine LW.tail (E := [(6, .zs), (7, .vec 4 1 (v1.out.map vtP).length 0 (v1.out.map vtP).length)]) (O := [.box [.p (.slice 1 (c.W.map i64P)), .p (.int .u64 c.Seed), .p (.int .i64 c.Epoch), .p (.int .i64 c.Num), .p (.int .i64 c.Den)], .vec 4 (v1.out.map vtP)]) ?_ (fun env_v1 H_v1 hw_v1 => ?_)
 ·refine LW.block ?_
  refine LW.iterB (E := fun x1 : F127_L1 => [(2, .fn 72 [] []), (3, .ptr 0 0), (6, .zs), (7, .vec 4 1 (x1.out.map vtP).length 0 (x1.out.map vtP).length), (10, .p (.slice 4 (l.map vtP))), (11, .p (.int .i64 (l.length : Int))), (12, .p (.int .i64 x1.t12))]) (O := fun x1 => [.box [.p (.slice 1 (c.W.map i64P)), .p (.int .u64 c.Seed), .p (.int .i64 c.Epoch), .p (.int .i64 c.Num), .p (.int .i64 c.Den)], .vec 4 (x1.out.map vtP)]) hb_v1 (zW 2 ⟨rfl, rfl, rfl, rfl, rfl, rfl, rfl, trivial⟩ Z Z Z Z) (fun x1 z_x1 hr hb_x1 => ?_)
  unfold F127_s1 at hr
  refine zQ (zR (zS Z Z Z (LOp.bin Z Z Z Z) (zN (zT (zQ ?_)))))
  refine zX Z (fun g1 => ?_) (fun g1 => ?_)
  ·
   refine zi g1 hr fun hr => LW.skip (zT (zQ (LW.block (zQ (zR (zb hr fun y1 h_y1 hr => zS Z Z Z (LOp.indexAddrX Z Z Z st68 h_y1 Z) (zS Z Z Z (LOp.loadC Z Z Z vt82 Z Z) (zS Z Z Z (LOp.alloc Z zt82 Z Z) (zS Z Z Z (LOp.store Z Z Z Z vt82 Z Z Z Z) (zN (zT (zQ (zR (zM Z (zS Z Z Z (zD Z Z Z vt55 Z Z) (zS Z Z Z (zD Z Z Z vt82 Z Z) (zb hr fun v2 h_v2 hr => zS Z Z Z (zC Z Z Z (by kernel_rfl) (LC.pure (c88 h_v2) (.cons Conv.p (.cons Conv.p .nil)))) (zN (zT ?_)))))))))))))))))))
   refine zX Z (fun g2 => ?_) (fun g2 => ?_)
   ·
    refine zi g2 hr fun hr => zR (zM Z (zS Z Z Z (zD Z Z Z vt82 Z Z) (zS Z Z Z (LOp.buildSlice Z st68 Z Z Z Z Z) (zg hr fun q1 hr => zS Z Z Z (LOp.appendX vtP x1.out [y1] rfl Z Z Z Src.p Z st68 q1 Z) (zM Z (zN (inBlk_n (zT (zR (zS Z Z Z (LOp.bin Z Z Z Z) (zM Z (zN (zT ?_)))))))))))))
    obtain rfl := zJ hr
    exact ⟨_, rfl, zW 2 ⟨rfl, rfl, rfl, rfl, rfl, rfl, rfl, trivial⟩ Z Z Z rfl⟩
   ·
    refine zo g2 hr fun hr => LW.skip (inBlk_n (zT (zR (zS Z Z Z (LOp.bin Z Z Z Z) (zM Z (zN (zT ?_)))))))
    obtain rfl := zJ hr
    exact ⟨_, rfl, zW 2 ⟨rfl, rfl, rfl, rfl, rfl, rfl, rfl, trivial⟩ Z Z Z rfl⟩
  ·
   refine zo g1 hr fun hr => LW.exit (thn_e (thn_e (inBlk_self (zT ?_))))
   obtain rfl := zJ hr
   have hr := congrArg some (hb_x1 _ rfl)
   obtain rfl := zJ hr
   exact zW 2 ⟨Z, Z, trivial⟩ Z Z Z Z
 ·have hr := ho_v1
  clear hb_v1
  refine zT (LW.weak hw_v1 (zQ (LW.ent (Ent.last (t := 7) (j := 0) (Hj := []) Z Z Z Z Z Z Z) (zR (zM Z (zM Z (zN (zT (LW.ret ?_)))))))))
  obtain rfl := zJ hr
  refine fin_ret (.one (.tmp Z)) ?_
  exact ⟨rfl, rfl⟩
def F85 (c : Cf) (v_in : Vw) : Option Vw :=
 (F126 c v_in.B).bind fun v1 =>
 (F127 c v_in.V).bind fun v2 =>
 some (Vw.mk v1 v2)
set_option maxRecDepth 100000 in
theorem c85 {c : Cf} {v_in : Vw} {r_ : Vw} (hr : F85 c v_in = some r_) : LPure Tryz.prog 28 [cfP c, vwP v_in] [vwP r_] := by
 refine LPure.start Tryz.func28 Z Z Z Z ?_
 unfold F85 at hr
 refine zQ (zR (zS Z Z Z (LOp.box Z Z Z Z Z) (zS Z Z Z (LOp.box Z Z Z Z Z) (zS Z Z Z (LOp.alloc Z zt75 Z Z) (zN (zT (zQ (LW.ent (Ent.slot Z) (LW.ent (Ent.slot Z) (LW.drawW (by kernel_rfl) (by kernel_rfl) (zF Z Z Z (LAt.load Z Z Z vt55 Z Z) Z ?_)))))))))))
 refine zF (F := []) (s := none) Z Z Z (fun H _ => zA Z Z ft75_0) Z ?_
 refine zF Z Z Z (LAt.load Z Z Z vt27 Z Z) Z (zb hr fun v1 h_v1 hr => ?_)
 refine zF Z Z Z (LAt.callV (id := 3) (qs := [.p (cfP c), .p (.slice 5 (v_in.B.map blkP)), .fn 70 [] []]) Z Z Z (by kernel_rfl) (cF126 h_v1) (fun H => (.consC Conv.p (.consC Conv.p (.consF .nil)))) Z) Z ?_
 refine zF Z Z Z (LAt.load Z Z Z vt55 Z Z) Z ?_
 refine zF (F := []) (s := none) Z Z Z (fun H _ => zA Z Z ft75_1) Z ?_
 refine zF Z Z Z (LAt.load Z Z Z vt68 Z Z) Z (zb hr fun v2 h_v2 hr => ?_)
 refine zF Z Z Z (LAt.callV (id := 4) (qs := [.p (cfP c), .p (.slice 4 (v_in.V.map vtP)), .fn 72 [] []]) Z Z Z (by kernel_rfl) (cF127 h_v2) (fun H => (.consC Conv.p (.consC Conv.p (.consF .nil)))) Z) Z ?_
 refine zF (F := []) (s := none) Z Z Z (fun H _ => LOp.build Z bt75 Z Z Z) Z ?_
 refine zF Z Z Z (LAt.store Z Z Z Z vt75 Z Z Z) Z ?_
 refine LF.nil ⟨by kernel_rfl, ?_⟩
 refine zT (LW.ret ?_)
 obtain rfl := zJ hr
 refine finP_ret (.one (.cellAgg Z Z (by kernel_rfl) Z)) ?_
 exact (Conv.agg (.cons (Conv.vecAll Z Z Z) (.cons (Conv.vecAll Z Z Z) .nil)))
def F85V (c : Cf) (inp : Vw) : Option (List Bk × List Vt) :=
 (F126 c inp.B).bind fun v1 =>
 (F127 c inp.V).bind fun v2 =>
 some (v1, v2)
set_option maxRecDepth 100000 in
theorem cF85V {c : Cf} {inp : Vw} {r_ : List Bk × List Vt} (hr : F85V c inp = some r_) : LC Tryz.prog 28 [.p (cfP c), .p (vwP inp)] [] (Is (.agg [.vec 5 3 (r_.1.map blkP).length 0 (r_.1.map blkP).length, .vec 4 4 (r_.2.map vtP).length 0 (r_.2.map vtP).length]) [.box [.p (.slice 1 (c.W.map i64P)), .p (.int .u64 c.Seed), .p (.int .i64 c.Epoch), .p (.int .i64 c.Num), .p (.int .i64 c.Den)], .box [.p (.slice 5 (inp.B.map blkP)), .p (.slice 4 (inp.V.map vtP))], .box [.vec 5 3 (r_.1.map blkP).length 0 (r_.1.map blkP).length, .vec 4 4 (r_.2.map vtP).length 0 (r_.2.map vtP).length], .vec 5 (r_.1.map blkP), .vec 4 (r_.2.map vtP)]) := by
 refine LC.start Tryz.func28 Z Z Z ?_
 unfold F85V at hr
 refine zQ (zR (zS Z Z Z (LOp.box Z Z Z Z Z) (zS Z Z Z (LOp.box Z Z Z Z Z) (zS Z Z Z (LOp.alloc Z zt75 Z Z) (zN (zT (zQ (LW.ent (Ent.slot Z) (LW.ent (Ent.slot Z) (LW.drawW (by kernel_rfl) (by kernel_rfl) (zF Z Z Z (LAt.load Z Z Z vt55 Z Z) Z ?_)))))))))))
 refine zF (F := []) (s := none) Z Z Z (fun H _ => zA Z Z ft75_0) Z ?_
 refine zF Z Z Z (LAt.load Z Z Z vt27 Z Z) Z (zb hr fun v1 h_v1 hr => ?_)
 refine zF Z Z Z (LAt.callV (id := 3) (qs := [.p (cfP c), .p (.slice 5 (inp.B.map blkP)), .fn 70 [] []]) Z Z Z (by kernel_rfl) (cF126 h_v1) (fun H => (.consC Conv.p (.consC Conv.p (.consF .nil)))) Z) Z ?_
 refine zF Z Z Z (LAt.load Z Z Z vt55 Z Z) Z ?_
 refine zF (F := []) (s := none) Z Z Z (fun H _ => zA Z Z ft75_1) Z ?_
 refine zF Z Z Z (LAt.load Z Z Z vt68 Z Z) Z (zb hr fun v2 h_v2 hr => ?_)
 refine zF Z Z Z (LAt.callV (id := 4) (qs := [.p (cfP c), .p (.slice 4 (inp.V.map vtP)), .fn 72 [] []]) Z Z Z (by kernel_rfl) (cF127 h_v2) (fun H => (.consC Conv.p (.consC Conv.p (.consF .nil)))) Z) Z ?_
 refine zF (F := []) (s := none) Z Z Z (fun H _ => LOp.build Z bt75 Z Z Z) Z ?_
 refine zF Z Z Z (LAt.store Z Z Z Z vt75 Z Z Z) Z ?_
 refine LF.nil ⟨by kernel_rfl, ?_⟩
 refine zT (LW.ret ?_)
 obtain rfl := zJ hr
 refine fin_ret (.one (.cellAgg Z Z (by kernel_rfl) Z)) ?_
 exact ⟨rfl, rfl⟩
structure F130_L1 where
 t27 : Int
 o3 : List (ID × Int)
structure F130_L2 where
 t43 : Int
 o4 : List (Vt × Bool)
def F130_s1 (w : Vw) (x1 : F130_L1) : Option (F130_L1 ⊕ F130_L1) :=
 bif decide (x1.t27 < (w.B.length : Int)) then
  (ix w.B x1.t27).bind fun y1 =>
  some (.inl (F130_L1.mk (IntKind.i64.wrap (x1.t27 + 1)) (setE x1.o3 (nm y1) y1.Slot)))
 else
  some (.inr (F130_L1.mk x1.t27 x1.o3))
def F130_s2 (w : Vw) (x2 : F130_L2) : Option (F130_L2 ⊕ F130_L2) :=
 bif decide (x2.t43 < (w.V.length : Int)) then
  (ix w.V x2.t43).bind fun y2 =>
  some (.inl (F130_L2.mk (IntKind.i64.wrap (x2.t43 + 1)) (setE x2.o4 y2 true)))
 else
  some (.inr (F130_L2.mk x2.t43 x2.o4))
def F130 (w : Vw) (_ : Int) : Option (List (ID × Int) × List (Vt × Bool)) :=
 bif room 0 w.B.length 40 then
  bif room 0 w.V.length 32 then
   (iter (F130_s1 w) big (F130_L1.mk 0 (setE [] (0, 0) 0))).bind fun v1 =>
   (iter (F130_s2 w) big (F130_L2.mk 0 ([] : List (Vt × Bool)))).bind fun v2 =>
   some (v1.o3, v2.o4)
  else none
 else none
set_option maxRecDepth 100000 in
theorem cF130 {w : Vw} {upto : Int} {r_ : List (ID × Int) × List (Vt × Bool)} (hr : F130 w upto = some r_) : LC Tryz.prog 48 [.p (vwP w), .p (.int .i64 upto)] [] (Is (.ptr 5 0) [.box [.p (.slice 5 (w.B.map blkP)), .p (.slice 4 (w.V.map vtP))], .vec 5 (w.B.map blkP), .vec 4 (w.V.map vtP), .map (entsOf idP (fun v => .p (.int .i64 v)) r_.1), .map (entsOf vtP (fun v => .p (.bool v)) r_.2), .box [.vec 5 1 (w.B.map blkP).length 0 (w.B.map blkP).length, .vec 4 2 (w.V.map vtP).length 0 (w.V.map vtP).length, .map 3, .map 4, .p (.int .i64 upto), .p (.bool false)]]) := by
 refine LC.start Tryz.func48 Z Z Z ?_
 unfold F130 at hr
 refine zQ (zR (zS Z Z Z (LOp.box Z Z Z Z Z) (zM Z (zN (zT (zQ (LW.ent (Ent.slot Z) (LW.ent (Ent.slot Z) (LW.ent (Ent.slot Z) (LW.ent (Ent.slot Z) (LW.ent (Ent.slot Z) (LW.drawW (by kernel_rfl) (by kernel_rfl) ?_))))))))))))
 refine zF (F := []) (s := none) Z Z Z (fun H _ => zA Z Z ft75_0) Z ?_
 refine zF Z Z Z (LAt.load Z Z Z vt27 Z Z) Z (zg hr fun q1 hr => ?_)
 refine zF Z Z Z (LAt.callV (id := 1) (qs := [.p (.slice 5 (w.B.map blkP))]) Z Z Z (by kernel_rfl) (c133V q1) (fun H => (.consC Conv.p .nil)) Z) Z ?_
 refine zF (F := []) (s := none) Z Z Z (fun H _ => zA Z Z ft75_1) Z ?_
 refine zF Z Z Z (LAt.load Z Z Z vt68 Z Z) Z (zg hr fun q2 hr => ?_)
 refine zF Z Z Z (LAt.callV (id := 2) (qs := [.p (.slice 4 (w.V.map vtP))]) Z Z Z (by kernel_rfl) (c134V q2) (fun H => (.consC Conv.p .nil)) Z) Z ?_
 refine zF (F := []) (s := none) Z Z Z (fun H _ => LOp.build Z bt75 Z Z Z) Z ?_
 refine zF Z Z Z (LAt.makeMap Z (id := 3) Z) Z ?_
 refine zF (F := []) (s := none) Z Z Z (fun H _ => LOp.build Z bt24 Z Z Z) Z ?_
 refine zF Z Z Z (LAt.setX (f := idP) (g := (fun v => .p (.int .i64 v))) (m := ([] : List (ID × Int))) (0, 0) 0 idKey (.inr Z) Z Z Z Z Z mt91) Z ?_
 refine zK Z (zF Z Z Z (LAt.makeMap Z (id := 4) Z) Z (zK Z ?_))
 refine zF (F := []) (s := none) Z Z Z (fun H _ => LOp.build Z bt149 Z Z Z) Z ?_
 refine zF Z Z Z (LAt.box Z Z Z (id := 5) Z) Z (zK Z ?_)
 refine LF.nil ⟨by kernel_rfl, ?_⟩
 refine zT (zQ (zQ (zR (zS Z Z Z (zA Z Z ft75_0) (zS Z Z Z (zD Z Z Z vt27 Z Z) (zS Z Z Z (LOp.lenM Z Z (by kernel_rfl)) (zM Z (zN (zT ?_)))))))))
 obtain ⟨v1, hb_v1, ho_v1⟩ := zB hr
 clear hr
 refine LW.tail (E := [(2, .ptr 0 0), (5, .ptr 5 0)]) (O := [.box [.p (.slice 5 (w.B.map blkP)), .p (.slice 4 (w.V.map vtP))], .vec 5 (w.B.map blkP), .vec 4 (w.V.map vtP), .map (entsOf idP (fun v => .p (.int .i64 v)) v1.o3), .map (entsOf vtP (fun v => .p (.bool v)) []), .box [.vec 5 1 (w.B.map blkP).length 0 (w.B.map blkP).length, .vec 4 2 (w.V.map vtP).length 0 (w.V.map vtP).length, .map 3, .map 4, .p (.int .i64 upto), .p (.bool false)]]) ?_ (fun env_v1 H_v1 hw_v1 => ?_)
 ·refine LW.block ?_
  refine LW.iterB (E := fun x1 : F130_L1 => [(2, .ptr 0 0), (5, .ptr 5 0), (25, .p (.slice 5 (w.B.map blkP))), (26, .p (.int .i64 (w.B.length : Int))), (27, .p (.int .i64 x1.t27))]) (O := fun x1 => [.box [.p (.slice 5 (w.B.map blkP)), .p (.slice 4 (w.V.map vtP))], .vec 5 (w.B.map blkP), .vec 4 (w.V.map vtP), .map (entsOf idP (fun v => .p (.int .i64 v)) x1.o3), .map (entsOf vtP (fun v => .p (.bool v)) []), .box [.vec 5 1 (w.B.map blkP).length 0 (w.B.map blkP).length, .vec 4 2 (w.V.map vtP).length 0 (w.V.map vtP).length, .map 3, .map 4, .p (.int .i64 upto), .p (.bool false)]]) hb_v1 (zW 6 ⟨rfl, rfl, rfl, rfl, rfl, trivial⟩ Z Z Z (zL Z (zL Z (zL Z (zL (entsLow (fun _ => rfl) _) (zL (entsLow (fun _ => rfl) _) (zL Z Z))))))) (fun x1 z_x1 hr hb_x1 => ?_)
  unfold F130_s1 at hr
  refine zQ (zR (zS Z Z Z (LOp.bin Z Z Z Z) (zN (zT (zQ ?_)))))
  refine zX Z (fun g1 => ?_) (fun g1 => ?_)
  ·
   refine zi g1 hr fun hr => LW.skip (zT (zQ (LW.block (zQ (zR (zb hr fun y1 h_y1 hr => zS Z Z Z (LOp.indexAddrX Z Z Z st27 h_y1 Z) (zS Z Z Z (LOp.loadC Z Z Z vt42 Z Z) (zS Z Z Z (LOp.alloc Z zt42 Z Z) (zS Z Z Z (LOp.store Z Z Z Z vt42 Z Z Z Z) (zN (zT (LW.drawLast (m := 8) (by kernel_rfl) (by kernel_rfl) (by kernel_rfl) (zH Z (zE Z Z Z (LOp.nilCheck Z Z) (zE Z Z Z (zA Z Z ft149_1) (zE Z Z Z (zD Z Z Z vt91 Z Z) (zE Z Z Z (zD Z Z Z vt42 Z Z) (zE Z Z Z (zC Z Z Z (by kernel_rfl) (LC.pure (c50 (b := y1)) (.cons Conv.p .nil))) (zE Z Z Z (zA Z Z ft42_0) (zE Z Z Z (zD Z Z Z vt3 Z Z) (LO.nil ?_)))))))))))))))))))))
   refine zS Z Z Z (LOp.setX (f := idP) (g := (fun v => .p (.int .i64 v))) (nm y1) y1.Slot idKey (.inl Z) Z Z Z Z Z mt91 Z) ?_
   refine zN (inBlk_n (zT (zR (zS Z Z Z (LOp.bin Z Z Z Z) (zM Z (zN (zT ?_)))))))
   obtain rfl := zJ hr
   exact ⟨_, rfl, zW 6 ⟨rfl, rfl, rfl, rfl, rfl, trivial⟩ Z Z Z (zL Z (zL Z (zL Z (zL (entsLow (fun _ => rfl) _) (zL (entsLow (fun _ => rfl) _) (zL Z Z))))))⟩
  ·
   refine zo g1 hr fun hr => LW.exit (thn_e (thn_e (inBlk_self (zT ?_))))
   obtain rfl := zJ hr
   have hr := congrArg some (hb_x1 _ rfl)
   obtain rfl := zJ hr
   exact zW 6 ⟨Z, Z, trivial⟩ Z Z Z (zL Z (zL Z (zL Z (zL (entsLow (fun _ => rfl) _) (zL (entsLow (fun _ => rfl) _) (zL Z Z))))))
 ·have hr := ho_v1
  clear hb_v1
  refine zT (LW.weak hw_v1 (zQ (zQ (zR (zS Z Z Z (zA Z Z ft75_1) (zS Z Z Z (zD Z Z Z vt68 Z Z) (zS Z Z Z (LOp.lenM Z Z (by kernel_rfl)) (zM Z (zN (zT ?_))))))))))
  obtain ⟨v2, hb_v2, ho_v2⟩ := zB hr
  clear hr
  refine LW.tail (E := [(5, .ptr 5 0)]) (O := [.box [.p (.slice 5 (w.B.map blkP)), .p (.slice 4 (w.V.map vtP))], .vec 5 (w.B.map blkP), .vec 4 (w.V.map vtP), .map (entsOf idP (fun v => .p (.int .i64 v)) v1.o3), .map (entsOf vtP (fun v => .p (.bool v)) v2.o4), .box [.vec 5 1 (w.B.map blkP).length 0 (w.B.map blkP).length, .vec 4 2 (w.V.map vtP).length 0 (w.V.map vtP).length, .map 3, .map 4, .p (.int .i64 upto), .p (.bool false)]]) ?_ (fun env_v2 H_v2 hw_v2 => ?_)
  ·refine LW.block ?_
   refine LW.iterB (E := fun x2 : F130_L2 => [(5, .ptr 5 0), (41, .p (.slice 4 (w.V.map vtP))), (42, .p (.int .i64 (w.V.length : Int))), (43, .p (.int .i64 x2.t43))]) (O := fun x2 => [.box [.p (.slice 5 (w.B.map blkP)), .p (.slice 4 (w.V.map vtP))], .vec 5 (w.B.map blkP), .vec 4 (w.V.map vtP), .map (entsOf idP (fun v => .p (.int .i64 v)) v1.o3), .map (entsOf vtP (fun v => .p (.bool v)) x2.o4), .box [.vec 5 1 (w.B.map blkP).length 0 (w.B.map blkP).length, .vec 4 2 (w.V.map vtP).length 0 (w.V.map vtP).length, .map 3, .map 4, .p (.int .i64 upto), .p (.bool false)]]) hb_v2 (zW 6 ⟨rfl, rfl, rfl, rfl, trivial⟩ Z Z Z (zL Z (zL Z (zL Z (zL (entsLow (fun _ => rfl) _) (zL (entsLow (fun _ => rfl) _) (zL Z Z))))))) (fun x2 z_x2 hr hb_x2 => ?_)
   unfold F130_s2 at hr
   refine zQ (zR (zS Z Z Z (LOp.bin Z Z Z Z) (zN (zT (zQ ?_)))))
   refine zX Z (fun g2 => ?_) (fun g2 => ?_)
   ·
    refine zi g2 hr fun hr => LW.skip (zT (zQ (LW.block (zQ (zR (zb hr fun y2 h_y2 hr => zS Z Z Z (LOp.indexAddrX Z Z Z st68 h_y2 Z) (zS Z Z Z (LOp.loadC Z Z Z vt82 Z Z) (zS Z Z Z (LOp.alloc Z zt82 Z Z) (zS Z Z Z (LOp.store Z Z Z Z vt82 Z Z Z Z) (zN (zT (LW.drawLast (m := 5) (by kernel_rfl) (by kernel_rfl) (by kernel_rfl) (zH Z (zE Z Z Z (LOp.nilCheck Z Z) (zE Z Z Z (zA Z Z ft149_2) (zE Z Z Z (zD Z Z Z vt147 Z Z) (zE Z Z Z (zD Z Z Z vt82 Z Z) (LO.nil ?_))))))))))))))))))
    refine zS Z Z Z (LOp.setX (f := vtP) (g := (fun v => .p (.bool v))) y2 true vtKey (.inl Z) Z Z Z Z Z mt147 Z) ?_
    refine zN (inBlk_n (zT (zR (zS Z Z Z (LOp.bin Z Z Z Z) (zM Z (zN (zT ?_)))))))
    obtain rfl := zJ hr
    exact ⟨_, rfl, zW 6 ⟨rfl, rfl, rfl, rfl, trivial⟩ Z Z Z (zL Z (zL Z (zL Z (zL (entsLow (fun _ => rfl) _) (zL (entsLow (fun _ => rfl) _) (zL Z Z))))))⟩
   ·
    refine zo g2 hr fun hr => LW.exit (thn_e (thn_e (inBlk_self (zT ?_))))
    obtain rfl := zJ hr
    have hr := congrArg some (hb_x2 _ rfl)
    obtain rfl := zJ hr
    exact zW 6 ⟨Z, trivial⟩ Z Z Z (zL Z (zL Z (zL Z (zL (entsLow (fun _ => rfl) _) (zL (entsLow (fun _ => rfl) _) (zL Z Z))))))
  ·have hr := ho_v2
   clear hb_v2
   refine zT (LW.weak hw_v2 (zQ (zR (zM Z (zM Z (zN (zT (LW.ret ?_))))))))
   obtain rfl := zJ hr
   refine fin_ret (.one (.tmp Z)) ?_
   exact ⟨rfl, rfl⟩
theorem entsShI {α : Type} {f : α → PV} {d : Nat} (m : List (α × Int)) : ((entsOf f (fun v => .p (.int .i64 v)) m).map fun e => (e.1, LV.shift d e.2)) = entsOf f (fun v => .p (.int .i64 v)) m := entsSh (fun _ => rfl) m
theorem entsShB {α : Type} {f : α → PV} {d : Nat} (m : List (α × Bool)) : ((entsOf f (fun v => .p (.bool v)) m).map fun e => (e.1, LV.shift d e.2)) = entsOf f (fun v => .p (.bool v)) m := entsSh (fun _ => rfl) m
open Go.Proofs
def F159 (n : Int) (most : Int) (full : Bool) : Option (Bool × Bool) :=
 bif full then
  some (decide (n < most), true)
 else
  some (decide (n < most), decide (n ≥ most))
set_option maxRecDepth 100000 in
theorem cF159 {n : Int} {most : Int} {wB : List Bk} {wV : List Vt} {sm : List (ID × Int)} {hm : List (Vt × Bool)} {upto : Int} {full : Bool} {lB : List Bk} {lV : List Vt} {n0 : Nat} {k0 : Nat} {n1 : Nat} {k1 : Nat} {r_ : Bool × Bool} (hr : F159 n most full = some r_) : LC Tryz.prog 183 [.ptr 10 0, .p (.int .i64 n), .p (.int .i64 most)] [.dead, .dead, .dead, .box [.zs, .zs], .box [.zs, .zs], .dead, .vec 5 (wB.map blkP), .vec 4 (wV.map vtP), .map (entsOf idP (fun v => .p (.int .i64 v)) sm), .map (entsOf vtP (fun v => .p (.bool v)) hm), .box [.vec 5 6 (wB.map blkP).length 0 (wB.map blkP).length, .vec 4 7 (wV.map vtP).length 0 (wV.map vtP).length, .map 8, .map 9, .p (.int .i64 upto), .p (.bool full)], .dead, .dead, .dead, .vec 5 (lB.map blkP), .vec 4 (lV.map vtP), .box [.vec 5 14 n0 0 k0, .vec 4 15 n1 0 k1]] (Is (.p (.bool r_.1)) [.dead, .dead, .dead, .box [.zs, .zs], .box [.zs, .zs], .dead, .vec 5 (wB.map blkP), .vec 4 (wV.map vtP), .map (entsOf idP (fun v => .p (.int .i64 v)) sm), .map (entsOf vtP (fun v => .p (.bool v)) hm), .box [.vec 5 6 (wB.map blkP).length 0 (wB.map blkP).length, .vec 4 7 (wV.map vtP).length 0 (wV.map vtP).length, .map 8, .map 9, .p (.int .i64 upto), .p (.bool r_.2)], .dead, .dead, .dead, .vec 5 (lB.map blkP), .vec 4 (lV.map vtP), .box [.vec 5 14 n0 0 k0, .vec 4 15 n1 0 k1]]) := by
 refine LC.start Tryz.func183 Z Z Z ?_
 unfold F159 at hr
 refine zQ (zR (zM Z (zN (zT (zQ (zR (zM Z (zM Z (zS Z Z Z (LOp.nilCheck Z Z) (zS Z Z Z (zA Z Z ft149_4) (zS Z Z Z (zD Z Z Z vt4 Z Z) (zM Z ?_))))))))))))
 refine LOps.cases 12 Z (fun g1 => ?_) (fun g1 => ?_)
 ·
  refine zi g1 hr fun hr => zU Z Z Z (gd g1 Z) Z Z (zU Z Z Z (gd g1 Z) Z Z (zU Z Z Z (gd g1 Z) Z Z (zS Z Z Z (LOp.pickT Z (gdl g1 Z) Z) (zS Z Z Z (LOp.nilCheck Z Z) (zS Z Z Z (zA Z Z ft149_4) (zS Z Z Z (LOp.store Z Z Z Z vt4 Z Z Z Z) (zN (zT (zQ (zR (zM Z (zM Z (zS Z Z Z (LOp.bin Z Z Z Z) (zM Z (zN (zT (LW.ret ?_)))))))))))))))))
  obtain rfl := zJ hr
  refine fin_ret (.one (.tmp Z)) ?_
  exact ⟨rfl, rfl⟩
 ·
  refine zo g1 hr fun hr => zV Z Z Z (gd g1 Z) Z (LOp.move Z Z) (zV Z Z Z (gd g1 Z) Z (LOp.move Z Z) (zV Z Z Z (gd g1 Z) Z (LOp.bin Z Z Z Z) (zS Z Z Z (LOp.pickF Z (gdl g1 Z) Z) (zS Z Z Z (LOp.nilCheck Z Z) (zS Z Z Z (zA Z Z ft149_4) (zS Z Z Z (LOp.store Z Z Z Z vt4 Z Z Z Z) (zN (zT (zQ (zR (zM Z (zM Z (zS Z Z Z (LOp.bin Z Z Z Z) (zM Z (zN (zT (LW.ret ?_)))))))))))))))))
  obtain rfl := zJ hr
  refine fin_ret (.one (.tmp Z)) ?_
  exact ⟨rfl, rfl⟩
def F135 (b : Bk) (wB : List Bk) (sm : List (ID × Int)) (upto : Int) (full : Bool) : Option (Bool × List Bk × List (ID × Int) × Bool) :=
 (
  bif (findE sm (nm b)).isSome then
   some ((findE sm (nm b)).isSome)
  else
   bif (findE sm b.Parent).isSome then
    some (decide (((findE sm b.Parent).getD 0) ≥ b.Slot))
   else
    some false
 ).bind fun v1 =>
 bif v1 then
  some (true, wB, sm, full)
 else
  (
   bif !((findE sm b.Parent).isSome) then
    some (!((findE sm b.Parent).isSome), full)
   else
    bif decide (b.Slot > upto) then
     some (decide (b.Slot > upto), full)
    else
     (F159 (wB.length : Int) 60 full).bind fun v3 =>
     some (!v3.1, v3.2)
  ).bind fun v2 =>
  bif v2.1 then
   some (false, wB, sm, v2.2)
  else
   bif room wB.length [b].length 40 then
    bif fewE sm then
     some (true, wB ++ [b], setE sm (nm b) b.Slot, v2.2)
    else none
   else none
set_option maxRecDepth 100000 in
theorem cF135 {b : Bk} {wB : List Bk} {wV : List Vt} {sm : List (ID × Int)} {hm : List (Vt × Bool)} {upto : Int} {full : Bool} {lB : List Bk} {lV : List Vt} {n0 : Nat} {k0 : Nat} {n1 : Nat} {k1 : Nat} {r_ : Bool × List Bk × List (ID × Int) × Bool} (hr : F135 b wB sm upto full = some r_) : LC Tryz.prog 153 [.ptr 10 0, .p (blkP b)] [.dead, .dead, .dead, .box [.zs, .zs], .box [.zs, .zs], .dead, .vec 5 (wB.map blkP), .vec 4 (wV.map vtP), .map (entsOf idP (fun v => .p (.int .i64 v)) sm), .map (entsOf vtP (fun v => .p (.bool v)) hm), .box [.vec 5 6 (wB.map blkP).length 0 (wB.map blkP).length, .vec 4 7 (wV.map vtP).length 0 (wV.map vtP).length, .map 8, .map 9, .p (.int .i64 upto), .p (.bool full)], .dead, .dead, .dead, .vec 5 (lB.map blkP), .vec 4 (lV.map vtP), .box [.vec 5 14 n0 0 k0, .vec 4 15 n1 0 k1]] (Is (.p (.bool r_.1)) [.dead, .dead, .dead, .box [.zs, .zs], .box [.zs, .zs], .dead, .vec 5 (r_.2.1.map blkP), .vec 4 (wV.map vtP), .map (entsOf idP (fun v => .p (.int .i64 v)) r_.2.2.1), .map (entsOf vtP (fun v => .p (.bool v)) hm), .box [.vec 5 6 (r_.2.1.map blkP).length 0 (r_.2.1.map blkP).length, .vec 4 7 (wV.map vtP).length 0 (wV.map vtP).length, .map 8, .map 9, .p (.int .i64 upto), .p (.bool r_.2.2.2)], .dead, .dead, .dead, .vec 5 (lB.map blkP), .vec 4 (lV.map vtP), .box [.vec 5 14 n0 0 k0, .vec 4 15 n1 0 k1]]) := by
 refine LC.start Tryz.func153 Z Z Z ?_
 unfold F135 at hr
 refine zQ (zR (zS Z Z Z (LOp.box Z Z Z Z Z) (zM Z (zN (zT (zQ (zR (zS Z Z Z (zD Z Z Z vt42 Z Z) (zS Z Z Z (zC Z Z Z (by kernel_rfl) (LC.pure (c50 (b := b)) (.cons Conv.p .nil))) (zS Z Z Z (LOp.alloc Z zt24 Z Z) (zS Z Z Z (LOp.store Z Z Z Z vt24 Z Z Z Z) (zN (zT (zQ (LW.draw (by kernel_rfl) (by kernel_rfl) (zH Z (zE Z Z Z (LOp.nilCheck Z Z) (zE Z Z Z (zA Z Z ft149_1) (zE Z Z Z (zD Z Z Z vt91 Z Z) (zE Z Z Z (zD Z Z Z vt24 Z Z) ?_))))))))))))))))))))
 refine zE Z Z Z (LOp.getX (f := idP) (g := (fun v => .p (.int .i64 v))) (nm b) 0 idKey Z Z Z Z mt91 zl3 Z Z) ?_
 refine zH Z (zE Z Z Z (LOp.extract Z Z Z) (zE Z Z Z (LOp.extract Z Z Z) (zH Z (zH Z (LO.nil (zT (zQ (LW.draw (by kernel_rfl) (by kernel_rfl) (zH Z (zE Z Z Z (LOp.nilCheck Z Z) (zE Z Z Z (zA Z Z ft149_1) (zE Z Z Z (zD Z Z Z vt91 Z Z) (zE Z Z Z (zA Z Z ft42_2) (zE Z Z Z (zD Z Z Z vt24 Z Z) ?_))))))))))))))
 refine zE Z Z Z (LOp.getX (f := idP) (g := (fun v => .p (.int .i64 v))) b.Parent 0 idKey Z Z Z Z mt91 zl3 Z Z) ?_
 refine zH Z (zE Z Z Z (LOp.extract Z Z Z) (zE Z Z Z (LOp.extract Z Z Z) (zH Z (zH Z (LO.nil (zT (zQ (LW.block ?_))))))))
 obtain ⟨v1, hb_v1, ho_v1⟩ := zB hr
 clear hr
 refine LW.cut (E := [(0, .ptr 10 0), (3, .ptr 17 0), (4, .p (.bool false)), (5, .ptr 18 0), (9, .p (.bool ((findE sm b.Parent).isSome))), (31, .p (.bool v1))]) (O := [.dead, .dead, .dead, .box [.zs, .zs], .box [.zs, .zs], .dead, .vec 5 (wB.map blkP), .vec 4 (wV.map vtP), .map (entsOf idP (fun v => .p (.int .i64 v)) sm), .map (entsOf vtP (fun v => .p (.bool v)) hm), .box [.vec 5 6 (wB.map blkP).length 0 (wB.map blkP).length, .vec 4 7 (wV.map vtP).length 0 (wV.map vtP).length, .map 8, .map 9, .p (.int .i64 upto), .p (.bool full)], .dead, .dead, .dead, .vec 5 (lB.map blkP), .vec 4 (lV.map vtP), .box [.vec 5 14 n0 0 k0, .vec 4 15 n1 0 k1], .box [.p (.int .i64 b.Slot), .p (.int .i64 b.From), .p (.int .u64 b.Parent.1), .p (.int .u64 b.Parent.2), .p (.int .u64 b.Salt)], .box [.p (.int .u64 ((nm b).1)), .p (.int .u64 ((nm b).2))]]) ?_ ?_
 ·have hr := hb_v1
  refine zQ (zR (zM Z (zM Z (zN (zT ?_)))))
  refine zX Z (fun g1 => ?_) (fun g1 => ?_)
  ·
   refine zi g1 hr fun hr => LW.skip (zT ?_)
   obtain rfl := zJ hr
   exact zW 19 ⟨Z, Z, Z, Z, Z, Z, trivial⟩ Z Z Z (zL Z (zL Z (zL Z (zL Z (zL Z (zL Z (zL Z (zL Z (zL (entsLow (fun _ => rfl) _) (zL (entsLow (fun _ => rfl) _) (zL Z (zL Z (zL Z (zL Z (zL Z (zL Z (zL Z (zL Z (zL Z Z)))))))))))))))))))
  ·
   refine zo g1 hr fun hr => zR (zM Z (zM Z ?_))
   refine LOps.cases 34 Z (fun g2 => ?_) (fun g2 => ?_)
   ·
    refine zi g2 hr fun hr => zV Z Z Z (gd g2 Z) Z (LOp.move Z Z) (zV Z Z Z (gd g2 Z) Z (zA Z Z ft42_0) (zV Z Z Z (gd g2 Z) Z (zD Z Z Z vt3 Z Z) (zV Z Z Z (gd g2 Z) Z (LOp.bin Z Z Z Z) (zS Z Z Z (LOp.pickT Z (gdl g2 Z) Z) (zM Z (zN (zT ?_)))))))
    obtain rfl := zJ hr
    exact zW 19 ⟨Z, Z, Z, Z, Z, Z, trivial⟩ Z Z Z (zL Z (zL Z (zL Z (zL Z (zL Z (zL Z (zL Z (zL Z (zL (entsLow (fun _ => rfl) _) (zL (entsLow (fun _ => rfl) _) (zL Z (zL Z (zL Z (zL Z (zL Z (zL Z (zL Z (zL Z (zL Z Z)))))))))))))))))))
   ·
    refine zo g2 hr fun hr => zU Z Z Z (gd g2 Z) Z Z (zU Z Z Z (gd g2 Z) Z Z (zU Z Z Z (gd g2 Z) Z Z (zU Z Z Z (gd g2 Z) Z Z (zS Z Z Z (LOp.pickF Z (gdl g2 Z) Z) (zM Z (zN (zT ?_)))))))
    obtain rfl := zJ hr
    exact zW 19 ⟨Z, Z, Z, Z, Z, Z, trivial⟩ Z Z Z (zL Z (zL Z (zL Z (zL Z (zL Z (zL Z (zL Z (zL Z (zL (entsLow (fun _ => rfl) _) (zL (entsLow (fun _ => rfl) _) (zL Z (zL Z (zL Z (zL Z (zL Z (zL Z (zL Z (zL Z (zL Z Z)))))))))))))))))))
 ·have hr := ho_v1
  clear hb_v1
  refine zX Z (fun g3 => ?_) (fun g3 => ?_)
  ·
   refine zi g3 hr fun hr => zQ (zR (zM Z (zN (zT (LW.ret (inBlk_r (thn_r ?_)))))))
   obtain rfl := zJ hr
   refine fin_retW (env' := [(4, .p (.bool true))]) (H' := [.dead, .dead, .dead, .box [.zs, .zs], .box [.zs, .zs], .dead, .vec 5 (wB.map blkP), .vec 4 (wV.map vtP), .map (entsOf idP (fun v => .p (.int .i64 v)) sm), .map (entsOf vtP (fun v => .p (.bool v)) hm), .box [.vec 5 6 (wB.map blkP).length 0 (wB.map blkP).length, .vec 4 7 (wV.map vtP).length 0 (wV.map vtP).length, .map 8, .map 9, .p (.int .i64 upto), .p (.bool full)], .dead, .dead, .dead, .vec 5 (lB.map blkP), .vec 4 (lV.map vtP), .box [.vec 5 14 n0 0 k0, .vec 4 15 n1 0 k1]]) (zW 17 ⟨rfl, trivial⟩ Z Z Z (zL Z (zL Z (zL Z (zL Z (zL Z (zL Z (zL Z (zL Z (zL (entsLow (fun _ => rfl) _) (zL (entsLow (fun _ => rfl) _) (zL Z (zL Z (zL Z (zL Z (zL Z (zL Z (zL Z Z)))))))))))))))))) (.one (.tmp Z)) ?_
   exact ⟨rfl, rfl⟩
  ·
   have hr := zO g3 hr
   obtain ⟨v2, hb_v2, ho_v2⟩ := zB hr
   clear hr
   refine LW.cut (E := [(0, .ptr 10 0), (3, .ptr 17 0), (4, .p (.bool false)), (5, .ptr 18 0), (40, .p (.bool v2.1))]) (O := [.dead, .dead, .dead, .box [.zs, .zs], .box [.zs, .zs], .dead, .vec 5 (wB.map blkP), .vec 4 (wV.map vtP), .map (entsOf idP (fun v => .p (.int .i64 v)) sm), .map (entsOf vtP (fun v => .p (.bool v)) hm), .box [.vec 5 6 (wB.map blkP).length 0 (wB.map blkP).length, .vec 4 7 (wV.map vtP).length 0 (wV.map vtP).length, .map 8, .map 9, .p (.int .i64 upto), .p (.bool v2.2)], .dead, .dead, .dead, .vec 5 (lB.map blkP), .vec 4 (lV.map vtP), .box [.vec 5 14 n0 0 k0, .vec 4 15 n1 0 k1], .box [.p (.int .i64 b.Slot), .p (.int .i64 b.From), .p (.int .u64 b.Parent.1), .p (.int .u64 b.Parent.2), .p (.int .u64 b.Salt)], .box [.p (.int .u64 ((nm b).1)), .p (.int .u64 ((nm b).2))]]) ?_ ?_
   ·have hr := hb_v2
    refine zQ (zR (zM Z (zS Z Z Z (LOp.not Z Z) (zM Z (zN (zT ?_))))))
    refine zX Z (fun g4 => ?_) (fun g4 => ?_)
    ·
     refine zi g4 hr fun hr => LW.skip (zT ?_)
     obtain rfl := zJ hr
     exact zW 19 ⟨Z, Z, Z, Z, Z, trivial⟩ Z Z Z (zL Z (zL Z (zL Z (zL Z (zL Z (zL Z (zL Z (zL Z (zL (entsLow (fun _ => rfl) _) (zL (entsLow (fun _ => rfl) _) (zL Z (zL Z (zL Z (zL Z (zL Z (zL Z (zL Z (zL Z (zL Z Z)))))))))))))))))))
    ·
     refine zo g4 hr fun hr => zQ (LW.draw (by kernel_rfl) (by kernel_rfl) (zE Z Z Z (zA Z Z ft42_0) (zE Z Z Z (zD Z Z Z vt3 Z Z) (zH Z (zE Z Z Z (LOp.nilCheck Z Z) (zE Z Z Z (zA Z Z ft149_3) (zE Z Z Z (zD Z Z Z vt3 Z Z) (zE Z Z Z (LOp.bin Z Z Z Z) (zH Z (LO.nil (zT ?_)))))))))))
     refine zX Z (fun g5 => ?_) (fun g5 => ?_)
     ·
      refine zi g5 hr fun hr => LW.skip (zT ?_)
      obtain rfl := zJ hr
      exact zW 19 ⟨Z, Z, Z, Z, Z, trivial⟩ Z Z Z (zL Z (zL Z (zL Z (zL Z (zL Z (zL Z (zL Z (zL Z (zL (entsLow (fun _ => rfl) _) (zL (entsLow (fun _ => rfl) _) (zL Z (zL Z (zL Z (zL Z (zL Z (zL Z (zL Z (zL Z (zL Z Z)))))))))))))))))))
     ·
      refine zo g5 hr fun hr => zR (zM Z (zM Z (zS Z Z Z (LOp.nilCheck Z Z) (zS Z Z Z (zA Z Z ft149_0) (zS Z Z Z (zA Z Z ft75_0) (zS Z Z Z (zD Z Z Z vt27 Z Z) (zS Z Z Z (LOp.lenVM Z Z Z (by kernel_rfl)) (zb hr fun v3 h_v3 hr => ?_))))))))
      refine zS Z Z Z (zC Z Z Z (by kernel_rfl) (LC.pre (cF159 h_v3) Z (zL Z (zL Z (zL Z (zL Z (zL Z (zL Z (zL Z (zL Z (zL (entsLow (fun _ => rfl) _) (zL (entsLow (fun _ => rfl) _) (zL Z (zL Z (zL Z (zL Z (zL Z (zL Z (zL Z Z))))))))))))))))) Z)) ?_
      refine zS Z Z Z (LOp.not Z Z) (zM Z (zN (zT ?_)))
      obtain rfl := zJ hr
      exact zW 19 ⟨Z, Z, Z, Z, Z, trivial⟩ Z Z Z (zL Z (zL Z (zL Z (zL Z (zL Z (zL Z (zL Z (zL Z (zL (entsLow (fun _ => rfl) _) (zL (entsLow (fun _ => rfl) _) (zL Z (zL Z (zL Z (zL Z (zL Z (zL Z (zL Z (zL Z (zL Z Z)))))))))))))))))))
   ·have hr := ho_v2
    clear hb_v2
    refine zX Z (fun g6 => ?_) (fun g6 => ?_)
    ·
     refine zi g6 hr fun hr => zQ (zR (zM Z (zN (zT (LW.ret (inBlk_r (thn_r ?_)))))))
     obtain rfl := zJ hr
     refine fin_retW (env' := [(4, .p (.bool false))]) (H' := [.dead, .dead, .dead, .box [.zs, .zs], .box [.zs, .zs], .dead, .vec 5 (wB.map blkP), .vec 4 (wV.map vtP), .map (entsOf idP (fun v => .p (.int .i64 v)) sm), .map (entsOf vtP (fun v => .p (.bool v)) hm), .box [.vec 5 6 (wB.map blkP).length 0 (wB.map blkP).length, .vec 4 7 (wV.map vtP).length 0 (wV.map vtP).length, .map 8, .map 9, .p (.int .i64 upto), .p (.bool v2.2)], .dead, .dead, .dead, .vec 5 (lB.map blkP), .vec 4 (lV.map vtP), .box [.vec 5 14 n0 0 k0, .vec 4 15 n1 0 k1]]) (zW 17 ⟨rfl, trivial⟩ Z Z Z (zL Z (zL Z (zL Z (zL Z (zL Z (zL Z (zL Z (zL Z (zL (entsLow (fun _ => rfl) _) (zL (entsLow (fun _ => rfl) _) (zL Z (zL Z (zL Z (zL Z (zL Z (zL Z (zL Z Z)))))))))))))))))) (.one (.tmp Z)) ?_
     exact ⟨rfl, rfl⟩
    ·
     refine zo g6 hr fun hr => LW.skip (inBlk_n (zT (zQ (LW.drawW (by kernel_rfl) (by kernel_rfl) (zK Z (zK Z ?_))))))
     refine zF (F := []) (s := none) Z Z Z (fun H _ => LOp.nilCheck Z Z) Z ?_
     refine zF (F := []) (s := none) Z Z Z (fun H _ => zA Z Z ft149_1) Z ?_
     refine zF Z Z Z (LAt.load Z Z Z vt91 Z Z) Z (zF Z Z Z (LAt.load Z Z Z vt24 Z Z) Z (zK Z ?_))
     refine zF (F := []) (s := none) Z Z Z (fun H _ => LOp.nilCheck Z Z) Z ?_
     refine zF (F := []) (s := none) Z Z Z (fun H _ => zA Z Z ft149_0) Z ?_
     refine zF (F := []) (s := none) Z Z Z (fun H _ => zA Z Z ft75_0) Z ?_
     refine zF Z Z Z (LAt.load Z Z Z vt27 Z Z) Z (zF Z Z Z (LAt.load Z Z Z vt42 Z Z) Z ?_)
     refine zF (F := []) (s := none) Z Z Z (fun H _ => LOp.buildSlice Z st27 Z Z Z Z Z) Z ?_
     refine zg hr fun q1 hr => zF Z Z Z (LAt.appendX blkP wB [b] rfl Z Z Z Z st27 q1) Z ?_
     refine zF (F := []) (s := none) Z Z Z (fun H _ => zA Z Z ft42_0) Z ?_
     refine zF Z Z Z (LAt.load Z Z Z vt3 Z Z) Z ?_
     refine zF (F := []) (s := none) Z Z Z (fun H _ => LOp.nilCheck Z Z) Z ?_
     refine zF (F := []) (s := none) Z Z Z (fun H _ => zA Z Z ft149_0) Z ?_
     refine zF (F := []) (s := none) Z Z Z (fun H _ => zA Z Z ft75_0) Z ?_
     refine zF Z Z Z (LAt.store Z Z Z Z vt27 Z Z Z) Z (zg hr fun q2 hr => ?_)
     refine zF Z Z Z (LAt.mapEntryX (f := idP) (g := (fun v => .p (.int .i64 v))) (nm b) 0 idKey Z Z Z Z mt91 zl3 Z q2) Z ?_
     refine zF (F := []) (s := none) Z Z Z (fun H _ => LOp.extract Z Z Z) Z ?_
     refine zF Z Z Z (LAt.entryStoreX (f := idP) (g := (fun v => .p (.int .i64 v))) (m := sm) (nm b) ((findE sm (nm b)).getD 0) b.Slot idKey Z Z Z Z Z Z) Z ?_
     refine LF.nil ⟨by kernel_rfl, ?_⟩
     refine zT (zQ (zR (zM Z (zN (zT (LW.ret ?_))))))
     obtain rfl := zJ hr
     refine fin_retW (env' := [(4, .p (.bool true))]) (H' := [.dead, .dead, .dead, .box [.zs, .zs], .box [.zs, .zs], .dead, .vec 5 ((wB ++ [b]).map blkP), .vec 4 (wV.map vtP), .map (entsOf idP (fun v => .p (.int .i64 v)) (setE sm (nm b) b.Slot)), .map (entsOf vtP (fun v => .p (.bool v)) hm), .box [.vec 5 6 ((wB ++ [b]).map blkP).length 0 ((wB ++ [b]).map blkP).length, .vec 4 7 (wV.map vtP).length 0 (wV.map vtP).length, .map 8, .map 9, .p (.int .i64 upto), .p (.bool v2.2)], .dead, .dead, .dead, .vec 5 (lB.map blkP), .vec 4 (lV.map vtP), .box [.vec 5 14 n0 0 k0, .vec 4 15 n1 0 k1]]) (zW 17 ⟨rfl, trivial⟩ Z Z Z (zL Z (zL Z (zL Z (zL Z (zL Z (zL Z (zL Z (zL Z (zL (entsLow (fun _ => rfl) _) (zL (entsLow (fun _ => rfl) _) (zL Z (zL Z (zL Z (zL Z (zL Z (zL Z (zL Z Z)))))))))))))))))) (.one (.tmp Z)) ?_
     exact ⟨rfl, rfl⟩
def F136 (x : Vt) (wV : List Vt) (sm : List (ID × Int)) (hm : List (Vt × Bool)) (upto : Int) (full : Bool) : Option (Bool × List Vt × List (Vt × Bool) × Bool) :=
 (
  bif (findE hm x).getD false then
   some ((findE hm x).getD false)
  else
   bif (findE sm x.Head).isSome then
    some (decide (((findE sm x.Head).getD 0) > x.Slot))
   else
    some false
 ).bind fun v1 =>
 bif v1 then
  some (true, wV, hm, full)
 else
  (
   bif !((findE sm x.Head).isSome) then
    some (!((findE sm x.Head).isSome), full)
   else
    bif decide (x.Slot > upto) then
     some (decide (x.Slot > upto), full)
    else
     (F159 (wV.length : Int) 240 full).bind fun v3 =>
     some (!v3.1, v3.2)
  ).bind fun v2 =>
  bif v2.1 then
   some (false, wV, hm, v2.2)
  else
   bif room wV.length [x].length 32 then
    bif fewE hm then
     some (true, wV ++ [x], setE hm x true, v2.2)
    else none
   else none
set_option maxRecDepth 100000 in
theorem cF136 {x : Vt} {wB : List Bk} {wV : List Vt} {sm : List (ID × Int)} {hm : List (Vt × Bool)} {upto : Int} {full : Bool} {lB : List Bk} {lV : List Vt} {n0 : Nat} {k0 : Nat} {n1 : Nat} {k1 : Nat} {r_ : Bool × List Vt × List (Vt × Bool) × Bool} (hr : F136 x wV sm hm upto full = some r_) : LC Tryz.prog 154 [.ptr 10 0, .p (vtP x)] [.dead, .dead, .dead, .box [.zs, .zs], .box [.zs, .zs], .dead, .vec 5 (wB.map blkP), .vec 4 (wV.map vtP), .map (entsOf idP (fun v => .p (.int .i64 v)) sm), .map (entsOf vtP (fun v => .p (.bool v)) hm), .box [.vec 5 6 (wB.map blkP).length 0 (wB.map blkP).length, .vec 4 7 (wV.map vtP).length 0 (wV.map vtP).length, .map 8, .map 9, .p (.int .i64 upto), .p (.bool full)], .dead, .dead, .dead, .vec 5 (lB.map blkP), .vec 4 (lV.map vtP), .box [.vec 5 14 n0 0 k0, .vec 4 15 n1 0 k1]] (Is (.p (.bool r_.1)) [.dead, .dead, .dead, .box [.zs, .zs], .box [.zs, .zs], .dead, .vec 5 (wB.map blkP), .vec 4 (r_.2.1.map vtP), .map (entsOf idP (fun v => .p (.int .i64 v)) sm), .map (entsOf vtP (fun v => .p (.bool v)) r_.2.2.1), .box [.vec 5 6 (wB.map blkP).length 0 (wB.map blkP).length, .vec 4 7 (r_.2.1.map vtP).length 0 (r_.2.1.map vtP).length, .map 8, .map 9, .p (.int .i64 upto), .p (.bool r_.2.2.2)], .dead, .dead, .dead, .vec 5 (lB.map blkP), .vec 4 (lV.map vtP), .box [.vec 5 14 n0 0 k0, .vec 4 15 n1 0 k1]]) := by
 refine LC.start Tryz.func154 Z Z Z ?_
 unfold F136 at hr
 refine zQ (zR (zS Z Z Z (LOp.box Z Z Z Z Z) (zM Z (zN (zT (zQ (LW.draw (by kernel_rfl) (by kernel_rfl) (zH Z (zE Z Z Z (LOp.nilCheck Z Z) (zE Z Z Z (zA Z Z ft149_1) (zE Z Z Z (zD Z Z Z vt91 Z Z) (zE Z Z Z (zA Z Z ft82_2) (zE Z Z Z (zD Z Z Z vt24 Z Z) ?_)))))))))))))
 refine zE Z Z Z (LOp.getX (f := idP) (g := (fun v => .p (.int .i64 v))) x.Head 0 idKey Z Z Z Z mt91 zl3 Z Z) ?_
 refine zH Z (zE Z Z Z (LOp.extract Z Z Z) (zE Z Z Z (LOp.extract Z Z Z) (zH Z (zH Z (LO.nil (zT (zQ (LW.block ?_))))))))
 obtain ⟨v1, hb_v1, ho_v1⟩ := zB hr
 clear hr
 refine LW.cut (E := [(0, .ptr 10 0), (3, .ptr 17 0), (4, .p (.bool false)), (6, .p (.bool ((findE sm x.Head).isSome))), (17, .p (.bool v1))]) (O := [.dead, .dead, .dead, .box [.zs, .zs], .box [.zs, .zs], .dead, .vec 5 (wB.map blkP), .vec 4 (wV.map vtP), .map (entsOf idP (fun v => .p (.int .i64 v)) sm), .map (entsOf vtP (fun v => .p (.bool v)) hm), .box [.vec 5 6 (wB.map blkP).length 0 (wB.map blkP).length, .vec 4 7 (wV.map vtP).length 0 (wV.map vtP).length, .map 8, .map 9, .p (.int .i64 upto), .p (.bool full)], .dead, .dead, .dead, .vec 5 (lB.map blkP), .vec 4 (lV.map vtP), .box [.vec 5 14 n0 0 k0, .vec 4 15 n1 0 k1], .box [.p (.int .i64 x.From), .p (.int .i64 x.Slot), .p (.int .u64 x.Head.1), .p (.int .u64 x.Head.2)]]) ?_ ?_
 ·have hr := hb_v1
  refine zQ (LW.draw (by kernel_rfl) (by kernel_rfl) (zH Z (zE Z Z Z (LOp.nilCheck Z Z) (zE Z Z Z (zA Z Z ft149_2) (zE Z Z Z (zD Z Z Z vt147 Z Z) (zE Z Z Z (zD Z Z Z vt82 Z Z) ?_))))))
  refine zE Z Z Z (LOp.getX (f := vtP) (g := (fun v => .p (.bool v))) x false vtKey Z Z Z Z mt147 zl4 Z Z) ?_
  refine zH Z (LO.nil (zT ?_))
  refine zX Z (fun g1 => ?_) (fun g1 => ?_)
  ·
   refine zi g1 hr fun hr => LW.skip (zT ?_)
   obtain rfl := zJ hr
   exact zW 18 ⟨Z, Z, Z, Z, Z, trivial⟩ Z Z Z (zL Z (zL Z (zL Z (zL Z (zL Z (zL Z (zL Z (zL Z (zL (entsLow (fun _ => rfl) _) (zL (entsLow (fun _ => rfl) _) (zL Z (zL Z (zL Z (zL Z (zL Z (zL Z (zL Z (zL Z Z))))))))))))))))))
  ·
   refine zo g1 hr fun hr => zR (zM Z (zM Z ?_))
   refine LOps.cases 25 Z (fun g2 => ?_) (fun g2 => ?_)
   ·
    refine zi g2 hr fun hr => zV Z Z Z (gd g2 Z) Z (LOp.move Z Z) (zV Z Z Z (gd g2 Z) Z (zA Z Z ft82_1) (zV Z Z Z (gd g2 Z) Z (zD Z Z Z vt3 Z Z) (zV Z Z Z (gd g2 Z) Z (LOp.bin Z Z Z Z) (zS Z Z Z (LOp.pickT Z (gdl g2 Z) Z) (zM Z (zN (zT ?_)))))))
    obtain rfl := zJ hr
    exact zW 18 ⟨Z, Z, Z, Z, Z, trivial⟩ Z Z Z (zL Z (zL Z (zL Z (zL Z (zL Z (zL Z (zL Z (zL Z (zL (entsLow (fun _ => rfl) _) (zL (entsLow (fun _ => rfl) _) (zL Z (zL Z (zL Z (zL Z (zL Z (zL Z (zL Z (zL Z Z))))))))))))))))))
   ·
    refine zo g2 hr fun hr => zU Z Z Z (gd g2 Z) Z Z (zU Z Z Z (gd g2 Z) Z Z (zU Z Z Z (gd g2 Z) Z Z (zU Z Z Z (gd g2 Z) Z Z (zS Z Z Z (LOp.pickF Z (gdl g2 Z) Z) (zM Z (zN (zT ?_)))))))
    obtain rfl := zJ hr
    exact zW 18 ⟨Z, Z, Z, Z, Z, trivial⟩ Z Z Z (zL Z (zL Z (zL Z (zL Z (zL Z (zL Z (zL Z (zL Z (zL (entsLow (fun _ => rfl) _) (zL (entsLow (fun _ => rfl) _) (zL Z (zL Z (zL Z (zL Z (zL Z (zL Z (zL Z (zL Z Z))))))))))))))))))
 ·have hr := ho_v1
  clear hb_v1
  refine zX Z (fun g3 => ?_) (fun g3 => ?_)
  ·
   refine zi g3 hr fun hr => zQ (zR (zM Z (zN (zT (LW.ret (inBlk_r (thn_r ?_)))))))
   obtain rfl := zJ hr
   refine fin_retW (env' := [(4, .p (.bool true))]) (H' := [.dead, .dead, .dead, .box [.zs, .zs], .box [.zs, .zs], .dead, .vec 5 (wB.map blkP), .vec 4 (wV.map vtP), .map (entsOf idP (fun v => .p (.int .i64 v)) sm), .map (entsOf vtP (fun v => .p (.bool v)) hm), .box [.vec 5 6 (wB.map blkP).length 0 (wB.map blkP).length, .vec 4 7 (wV.map vtP).length 0 (wV.map vtP).length, .map 8, .map 9, .p (.int .i64 upto), .p (.bool full)], .dead, .dead, .dead, .vec 5 (lB.map blkP), .vec 4 (lV.map vtP), .box [.vec 5 14 n0 0 k0, .vec 4 15 n1 0 k1]]) (zW 17 ⟨rfl, trivial⟩ Z Z Z (zL Z (zL Z (zL Z (zL Z (zL Z (zL Z (zL Z (zL Z (zL (entsLow (fun _ => rfl) _) (zL (entsLow (fun _ => rfl) _) (zL Z (zL Z (zL Z (zL Z (zL Z (zL Z (zL Z Z)))))))))))))))))) (.one (.tmp Z)) ?_
   exact ⟨rfl, rfl⟩
  ·
   have hr := zO g3 hr
   obtain ⟨v2, hb_v2, ho_v2⟩ := zB hr
   clear hr
   refine LW.cut (E := [(0, .ptr 10 0), (3, .ptr 17 0), (4, .p (.bool false)), (31, .p (.bool v2.1))]) (O := [.dead, .dead, .dead, .box [.zs, .zs], .box [.zs, .zs], .dead, .vec 5 (wB.map blkP), .vec 4 (wV.map vtP), .map (entsOf idP (fun v => .p (.int .i64 v)) sm), .map (entsOf vtP (fun v => .p (.bool v)) hm), .box [.vec 5 6 (wB.map blkP).length 0 (wB.map blkP).length, .vec 4 7 (wV.map vtP).length 0 (wV.map vtP).length, .map 8, .map 9, .p (.int .i64 upto), .p (.bool v2.2)], .dead, .dead, .dead, .vec 5 (lB.map blkP), .vec 4 (lV.map vtP), .box [.vec 5 14 n0 0 k0, .vec 4 15 n1 0 k1], .box [.p (.int .i64 x.From), .p (.int .i64 x.Slot), .p (.int .u64 x.Head.1), .p (.int .u64 x.Head.2)]]) ?_ ?_
   ·have hr := hb_v2
    refine zQ (zR (zM Z (zS Z Z Z (LOp.not Z Z) (zM Z (zN (zT ?_))))))
    refine zX Z (fun g4 => ?_) (fun g4 => ?_)
    ·
     refine zi g4 hr fun hr => LW.skip (zT ?_)
     obtain rfl := zJ hr
     exact zW 18 ⟨Z, Z, Z, Z, trivial⟩ Z Z Z (zL Z (zL Z (zL Z (zL Z (zL Z (zL Z (zL Z (zL Z (zL (entsLow (fun _ => rfl) _) (zL (entsLow (fun _ => rfl) _) (zL Z (zL Z (zL Z (zL Z (zL Z (zL Z (zL Z (zL Z Z))))))))))))))))))
    ·
     refine zo g4 hr fun hr => zQ (LW.draw (by kernel_rfl) (by kernel_rfl) (zE Z Z Z (zA Z Z ft82_1) (zE Z Z Z (zD Z Z Z vt3 Z Z) (zH Z (zE Z Z Z (LOp.nilCheck Z Z) (zE Z Z Z (zA Z Z ft149_3) (zE Z Z Z (zD Z Z Z vt3 Z Z) (zE Z Z Z (LOp.bin Z Z Z Z) (zH Z (LO.nil (zT ?_)))))))))))
     refine zX Z (fun g5 => ?_) (fun g5 => ?_)
     ·
      refine zi g5 hr fun hr => LW.skip (zT ?_)
      obtain rfl := zJ hr
      exact zW 18 ⟨Z, Z, Z, Z, trivial⟩ Z Z Z (zL Z (zL Z (zL Z (zL Z (zL Z (zL Z (zL Z (zL Z (zL (entsLow (fun _ => rfl) _) (zL (entsLow (fun _ => rfl) _) (zL Z (zL Z (zL Z (zL Z (zL Z (zL Z (zL Z (zL Z Z))))))))))))))))))
     ·
      refine zo g5 hr fun hr => zR (zM Z (zM Z (zS Z Z Z (LOp.nilCheck Z Z) (zS Z Z Z (zA Z Z ft149_0) (zS Z Z Z (zA Z Z ft75_1) (zS Z Z Z (zD Z Z Z vt68 Z Z) (zS Z Z Z (LOp.lenVM Z Z Z (by kernel_rfl)) (zb hr fun v3 h_v3 hr => ?_))))))))
      refine zS Z Z Z (zC Z Z Z (by kernel_rfl) (LC.pre (cF159 h_v3) Z (zL Z (zL Z (zL Z (zL Z (zL Z (zL Z (zL Z (zL Z (zL (entsLow (fun _ => rfl) _) (zL (entsLow (fun _ => rfl) _) (zL Z (zL Z (zL Z (zL Z (zL Z (zL Z (zL Z Z))))))))))))))))) Z)) ?_
      refine zS Z Z Z (LOp.not Z Z) (zM Z (zN (zT ?_)))
      obtain rfl := zJ hr
      exact zW 18 ⟨Z, Z, Z, Z, trivial⟩ Z Z Z (zL Z (zL Z (zL Z (zL Z (zL Z (zL Z (zL Z (zL Z (zL (entsLow (fun _ => rfl) _) (zL (entsLow (fun _ => rfl) _) (zL Z (zL Z (zL Z (zL Z (zL Z (zL Z (zL Z (zL Z Z))))))))))))))))))
   ·have hr := ho_v2
    clear hb_v2
    refine zX Z (fun g6 => ?_) (fun g6 => ?_)
    ·
     refine zi g6 hr fun hr => zQ (zR (zM Z (zN (zT (LW.ret (inBlk_r (thn_r ?_)))))))
     obtain rfl := zJ hr
     refine fin_retW (env' := [(4, .p (.bool false))]) (H' := [.dead, .dead, .dead, .box [.zs, .zs], .box [.zs, .zs], .dead, .vec 5 (wB.map blkP), .vec 4 (wV.map vtP), .map (entsOf idP (fun v => .p (.int .i64 v)) sm), .map (entsOf vtP (fun v => .p (.bool v)) hm), .box [.vec 5 6 (wB.map blkP).length 0 (wB.map blkP).length, .vec 4 7 (wV.map vtP).length 0 (wV.map vtP).length, .map 8, .map 9, .p (.int .i64 upto), .p (.bool v2.2)], .dead, .dead, .dead, .vec 5 (lB.map blkP), .vec 4 (lV.map vtP), .box [.vec 5 14 n0 0 k0, .vec 4 15 n1 0 k1]]) (zW 17 ⟨rfl, trivial⟩ Z Z Z (zL Z (zL Z (zL Z (zL Z (zL Z (zL Z (zL Z (zL Z (zL (entsLow (fun _ => rfl) _) (zL (entsLow (fun _ => rfl) _) (zL Z (zL Z (zL Z (zL Z (zL Z (zL Z (zL Z Z)))))))))))))))))) (.one (.tmp Z)) ?_
     exact ⟨rfl, rfl⟩
    ·
     refine zo g6 hr fun hr => LW.skip (inBlk_n (zT (zQ (LW.drawW (by kernel_rfl) (by kernel_rfl) (zK Z (zK Z ?_))))))
     refine zF (F := []) (s := none) Z Z Z (fun H _ => LOp.nilCheck Z Z) Z ?_
     refine zF (F := []) (s := none) Z Z Z (fun H _ => zA Z Z ft149_2) Z ?_
     refine zF Z Z Z (LAt.load Z Z Z vt147 Z Z) Z (zF Z Z Z (LAt.load Z Z Z vt82 Z Z) Z (zK Z ?_))
     refine zF (F := []) (s := none) Z Z Z (fun H _ => LOp.nilCheck Z Z) Z ?_
     refine zF (F := []) (s := none) Z Z Z (fun H _ => zA Z Z ft149_0) Z ?_
     refine zF (F := []) (s := none) Z Z Z (fun H _ => zA Z Z ft75_1) Z ?_
     refine zF Z Z Z (LAt.load Z Z Z vt68 Z Z) Z (zF Z Z Z (LAt.load Z Z Z vt82 Z Z) Z ?_)
     refine zF (F := []) (s := none) Z Z Z (fun H _ => LOp.buildSlice Z st68 Z Z Z Z Z) Z ?_
     refine zg hr fun q1 hr => zF Z Z Z (LAt.appendX vtP wV [x] rfl Z Z Z Z st68 q1) Z ?_
     refine zF (F := []) (s := none) Z Z Z (fun H _ => LOp.nilCheck Z Z) Z ?_
     refine zF (F := []) (s := none) Z Z Z (fun H _ => zA Z Z ft149_0) Z ?_
     refine zF (F := []) (s := none) Z Z Z (fun H _ => zA Z Z ft75_1) Z ?_
     refine zF Z Z Z (LAt.store Z Z Z Z vt68 Z Z Z) Z (zg hr fun q2 hr => ?_)
     refine zF Z Z Z (LAt.mapEntryX (f := vtP) (g := (fun v => .p (.bool v))) x false vtKey Z Z Z Z mt147 zl4 Z q2) Z ?_
     refine zF (F := []) (s := none) Z Z Z (fun H _ => LOp.extract Z Z Z) Z ?_
     refine zF Z Z Z (LAt.entryStoreX (f := vtP) (g := (fun v => .p (.bool v))) (m := hm) x ((findE hm x).getD false) true vtKey Z Z Z Z Z Z) Z ?_
     refine LF.nil ⟨by kernel_rfl, ?_⟩
     refine zT (zQ (zR (zM Z (zN (zT (LW.ret ?_))))))
     obtain rfl := zJ hr
     refine fin_retW (env' := [(4, .p (.bool true))]) (H' := [.dead, .dead, .dead, .box [.zs, .zs], .box [.zs, .zs], .dead, .vec 5 (wB.map blkP), .vec 4 ((wV ++ [x]).map vtP), .map (entsOf idP (fun v => .p (.int .i64 v)) sm), .map (entsOf vtP (fun v => .p (.bool v)) (setE hm x true)), .box [.vec 5 6 (wB.map blkP).length 0 (wB.map blkP).length, .vec 4 7 ((wV ++ [x]).map vtP).length 0 ((wV ++ [x]).map vtP).length, .map 8, .map 9, .p (.int .i64 upto), .p (.bool v2.2)], .dead, .dead, .dead, .vec 5 (lB.map blkP), .vec 4 (lV.map vtP), .box [.vec 5 14 n0 0 k0, .vec 4 15 n1 0 k1]]) (zW 17 ⟨rfl, trivial⟩ Z Z Z (zL Z (zL Z (zL Z (zL Z (zL Z (zL Z (zL Z (zL Z (zL (entsLow (fun _ => rfl) _) (zL (entsLow (fun _ => rfl) _) (zL Z (zL Z (zL Z (zL Z (zL Z (zL Z (zL Z Z)))))))))))))))))) (.one (.tmp Z)) ?_
     exact ⟨rfl, rfl⟩
structure F160_L1 where
 t8 : Int
 o6 : List Bk
 o8 : List (ID × Int)
 o10_5 : Bool
def F160_s1 (lB : List Bk) (kk : Nat) (upto : Int) (x1 : F160_L1) : Option (F160_L1 ⊕ (F160_L1 ⊕ (Int × List Bk × List (ID × Int) × Bool))) :=
 bif decide (x1.t8 < (kk : Int)) then
  (ix (lB.take kk) x1.t8).bind fun y1 =>
  (F135 y1 x1.o6 x1.o8 upto x1.o10_5).bind fun v2 =>
  bif v2.1 then
   some (.inr (.inr (x1.t8, v2.2.1, v2.2.2.1, v2.2.2.2)))
  else
   some (.inl (F160_L1.mk (IntKind.i64.wrap (x1.t8 + 1)) v2.2.1 v2.2.2.1 v2.2.2.2))
 else
  some (.inr (.inl (F160_L1.mk x1.t8 x1.o6 x1.o8 x1.o10_5)))
def F160 (lB : List Bk) (kk : Nat) (wB : List Bk) (sm : List (ID × Int)) (upto : Int) (full : Bool) : Option (Int × List Bk × List (ID × Int) × Bool) :=
 (iter (F160_s1 lB kk upto) big (F160_L1.mk 0 wB sm full)).bind fun b_v1 => Sum.elim (fun v1 =>
  some ((-1), v1.o6, v1.o8, v1.o10_5)) some b_v1
set_option maxRecDepth 100000 in
theorem cF160 {lB : List Bk} {kk : Nat} {wB : List Bk} {wV : List Vt} {sm : List (ID × Int)} {hm : List (Vt × Bool)} {upto : Int} {full : Bool} {lV : List Vt} {n0 : Nat} {k0 : Nat} {n1 : Nat} {k1 : Nat} {r_ : Int × List Bk × List (ID × Int) × Bool} (hr : F160 lB kk wB sm upto full = some r_) : LC Tryz.prog 184 [.vec 5 14 (lB.map blkP).length 0 kk, .fn 153 [.ptr 10 0] []] [.dead, .dead, .dead, .box [.zs, .zs], .box [.zs, .zs], .dead, .vec 5 (wB.map blkP), .vec 4 (wV.map vtP), .map (entsOf idP (fun v => .p (.int .i64 v)) sm), .map (entsOf vtP (fun v => .p (.bool v)) hm), .box [.vec 5 6 (wB.map blkP).length 0 (wB.map blkP).length, .vec 4 7 (wV.map vtP).length 0 (wV.map vtP).length, .map 8, .map 9, .p (.int .i64 upto), .p (.bool full)], .dead, .dead, .dead, .vec 5 (lB.map blkP), .vec 4 (lV.map vtP), .box [.vec 5 14 n0 0 k0, .vec 4 15 n1 0 k1]] (Is (.p (.int .i64 r_.1)) [.dead, .dead, .dead, .box [.zs, .zs], .box [.zs, .zs], .dead, .vec 5 (r_.2.1.map blkP), .vec 4 (wV.map vtP), .map (entsOf idP (fun v => .p (.int .i64 v)) r_.2.2.1), .map (entsOf vtP (fun v => .p (.bool v)) hm), .box [.vec 5 6 (r_.2.1.map blkP).length 0 (r_.2.1.map blkP).length, .vec 4 7 (wV.map vtP).length 0 (wV.map vtP).length, .map 8, .map 9, .p (.int .i64 upto), .p (.bool r_.2.2.2)], .dead, .dead, .dead, .vec 5 (lB.map blkP), .vec 4 (lV.map vtP), .box [.vec 5 14 n0 0 k0, .vec 4 15 n1 0 k1]]) := by
 refine LC.start Tryz.func184 Z Z Z ?_
 unfold F160 at hr
 refine zQ (zR (zM Z (zN (zT (zQ (zQ (zR (zM Z (zS Z Z Z (LOp.lenVP Z Z Z (by kernel_rfl)) (zM Z (zN (zT ?_))))))))))))
 obtain ⟨b_v1, hb_v1, ho_v1⟩ := zB hr
 clear hr
 refine LW.tailB (b := b_v1) (E := fun v1 => [(4, .p (.int .i64 0))]) (O := fun v1 => [.dead, .dead, .dead, .box [.zs, .zs], .box [.zs, .zs], .dead, .vec 5 (v1.o6.map blkP), .vec 4 (wV.map vtP), .map (entsOf idP (fun v => .p (.int .i64 v)) v1.o8), .map (entsOf vtP (fun v => .p (.bool v)) hm), .box [.vec 5 6 (v1.o6.map blkP).length 0 (v1.o6.map blkP).length, .vec 4 7 (wV.map vtP).length 0 (wV.map vtP).length, .map 8, .map 9, .p (.int .i64 upto), .p (.bool v1.o10_5)], .dead, .dead, .dead, .vec 5 (lB.map blkP), .vec 4 (lV.map vtP), .box [.vec 5 14 n0 0 k0, .vec 4 15 n1 0 k1]]) ?_ (fun v1 e_v1 env_v1 H_v1 hw_v1 => ?_)
 ·refine LW.block ?_
  refine LW.iterB (E := fun x1 : F160_L1 => [(0, .vec 5 14 (lB.map blkP).length 0 kk), (1, .fn 153 [.ptr 10 0] []), (4, .p (.int .i64 0)), (7, .p (.int .i64 (kk : Int))), (8, .p (.int .i64 x1.t8))]) (O := fun x1 => [.dead, .dead, .dead, .box [.zs, .zs], .box [.zs, .zs], .dead, .vec 5 (x1.o6.map blkP), .vec 4 (wV.map vtP), .map (entsOf idP (fun v => .p (.int .i64 v)) x1.o8), .map (entsOf vtP (fun v => .p (.bool v)) hm), .box [.vec 5 6 (x1.o6.map blkP).length 0 (x1.o6.map blkP).length, .vec 4 7 (wV.map vtP).length 0 (wV.map vtP).length, .map 8, .map 9, .p (.int .i64 upto), .p (.bool x1.o10_5)], .dead, .dead, .dead, .vec 5 (lB.map blkP), .vec 4 (lV.map vtP), .box [.vec 5 14 n0 0 k0, .vec 4 15 n1 0 k1]]) hb_v1 (zW 17 ⟨rfl, rfl, rfl, rfl, rfl, trivial⟩ Z Z Z (zL Z (zL Z (zL Z (zL Z (zL Z (zL Z (zL Z (zL Z (zL (entsLow (fun _ => rfl) _) (zL (entsLow (fun _ => rfl) _) (zL Z (zL Z (zL Z (zL Z (zL Z (zL Z (zL Z Z)))))))))))))))))) (fun x1 z_x1 hr hb_x1 => ?_)
  unfold F160_s1 at hr
  refine zQ (zR (zS Z Z Z (LOp.bin Z Z Z Z) (zN (zT (zQ ?_)))))
  refine zX Z (fun g1 => ?_) (fun g1 => ?_)
  ·
   refine zi g1 hr fun hr => LW.skip (zT (zQ (LW.block (zQ (zR (zM Z (zM Z (zN (zT (zQ (zR (zM Z (zM Z (zM Z (zb hr fun y1 h_y1 hr => zS Z Z Z (LOp.indexAddrVP Z Z Z Z st27 h_y1) (zS Z Z Z (LOp.loadVX Z Z Z vt42 (ix_take h_y1).1 Z Z Z Z) (zb hr fun v2 h_v2 hr => zS Z Z Z (zC Z Z Z (by kernel_rfl) (cF135 h_v2)) (zN (zT ?_)))))))))))))))))))
   refine zX Z (fun g2 => ?_) (fun g2 => ?_)
   ·
    refine zi g2 hr fun hr => zQ (zR (zM Z (zM Z (zN (zT (LW.ret (inBlk_r (thn_r (thn_r (inBlk_r (thn_r (thn_r ?_))))))))))))
    obtain rfl := zJ hr
    have hr := congrArg some (hb_x1 _ rfl)
    obtain rfl := zJ hr
    have hr := sum_r ho_v1
    obtain rfl := zJ hr
    refine fin_ret (.one (.tmp Z)) ?_
    exact ⟨rfl, rfl⟩
   ·
    refine zo g2 hr fun hr => LW.skip (inBlk_n (zT (zR (zS Z Z Z (LOp.bin Z Z Z Z) (zM Z (zN (zT ?_)))))))
    obtain rfl := zJ hr
    exact ⟨_, rfl, zW 17 ⟨rfl, rfl, rfl, rfl, rfl, trivial⟩ Z Z Z (zL Z (zL Z (zL Z (zL Z (zL Z (zL Z (zL Z (zL Z (zL (entsLow (fun _ => rfl) _) (zL (entsLow (fun _ => rfl) _) (zL Z (zL Z (zL Z (zL Z (zL Z (zL Z (zL Z Z)))))))))))))))))⟩
  ·
   refine zo g1 hr fun hr => LW.exit (thn_e (thn_e (inBlk_self (zT ?_))))
   obtain rfl := zJ hr
   have hr := congrArg some (hb_x1 _ rfl)
   obtain rfl := zJ hr
   exact ⟨_, rfl, zW 17 ⟨rfl, trivial⟩ Z Z Z (zL Z (zL Z (zL Z (zL Z (zL Z (zL Z (zL Z (zL Z (zL (entsLow (fun _ => rfl) _) (zL (entsLow (fun _ => rfl) _) (zL Z (zL Z (zL Z (zL Z (zL Z (zL Z (zL Z Z)))))))))))))))))⟩
 ·obtain rfl := e_v1
  have hr := sum_l ho_v1
  clear hb_v1
  refine zT (LW.weak hw_v1 (zQ (zR (zM Z (zN (zT (LW.ret ?_)))))))
  obtain rfl := zJ hr
  refine fin_ret (.one (.tmp Z)) ?_
  exact ⟨rfl, rfl⟩
structure F137_L1 where
 i : Int
 j : Int
 o6 : List Bk
 o8 : List (ID × Int)
 o10_5 : Bool
 o14 : List Bk
def F137_s1 (kk : Nat) (upto : Int) (x1 : F137_L1) : Option (F137_L1 ⊕ F137_L1) :=
 bif decide (x1.j < (kk : Int)) then
  (ix (x1.o14.take kk) x1.j).bind fun y1 =>
  (F135 y1 x1.o6 x1.o8 upto x1.o10_5).bind fun v3 =>
  bif !v3.1 then
   (ix (x1.o14.take kk) x1.i).bind fun _ =>
   some (.inl (F137_L1.mk (IntKind.i64.wrap (x1.i + 1)) (IntKind.i64.wrap (x1.j + 1)) v3.2.1 v3.2.2.1 v3.2.2.2 (x1.o14.set x1.i.toNat y1)))
  else
   some (.inl (F137_L1.mk x1.i (IntKind.i64.wrap (x1.j + 1)) v3.2.1 v3.2.2.1 v3.2.2.2 x1.o14))
 else
  some (.inr (F137_L1.mk x1.i x1.j x1.o6 x1.o8 x1.o10_5 x1.o14))
def F137 (lB : List Bk) (kk : Nat) (wB : List Bk) (sm : List (ID × Int)) (upto : Int) (full : Bool) : Option (Nat × List Bk × List Bk × List (ID × Int) × Bool) :=
 (F160 lB kk wB sm upto full).bind fun v1 =>
 bif v1.1 == (-1) then
  some (kk, lB, v1.2.1, v1.2.2.1, v1.2.2.2)
 else
  (iter (F137_s1 kk upto) big (F137_L1.mk v1.1 (IntKind.i64.wrap (v1.1 + 1)) v1.2.1 v1.2.2.1 v1.2.2.2 lB)).bind fun v2 =>
  bif decide (0 ≤ v2.i ∧ v2.i ≤ (kk : Int)) then
   bif decide (v2.i.toNat + (kk - v2.i.toNat) ≤ v2.o14.length) then
    bif decide (0 ≤ v2.i ∧ v2.i ≤ (kk : Int)) then
     some (v2.i.toNat, clrL v2.o14 v2.i.toNat (kk - v2.i.toNat) (Bk.mk 0 0 (0, 0) 0), v2.o6, v2.o8, v2.o10_5)
    else none
   else none
  else none
set_option maxRecDepth 100000 in
theorem cF137 {lB : List Bk} {kk : Nat} {wB : List Bk} {wV : List Vt} {sm : List (ID × Int)} {hm : List (Vt × Bool)} {upto : Int} {full : Bool} {lV : List Vt} {n0 : Nat} {k0 : Nat} {n1 : Nat} {k1 : Nat} {r_ : Nat × List Bk × List Bk × List (ID × Int) × Bool} (hr : F137 lB kk wB sm upto full = some r_) : LC Tryz.prog 155 [.vec 5 14 (lB.map blkP).length 0 kk, .fn 153 [.ptr 10 0] []] [.dead, .dead, .dead, .box [.zs, .zs], .box [.zs, .zs], .dead, .vec 5 (wB.map blkP), .vec 4 (wV.map vtP), .map (entsOf idP (fun v => .p (.int .i64 v)) sm), .map (entsOf vtP (fun v => .p (.bool v)) hm), .box [.vec 5 6 (wB.map blkP).length 0 (wB.map blkP).length, .vec 4 7 (wV.map vtP).length 0 (wV.map vtP).length, .map 8, .map 9, .p (.int .i64 upto), .p (.bool full)], .dead, .dead, .dead, .vec 5 (lB.map blkP), .vec 4 (lV.map vtP), .box [.vec 5 14 n0 0 k0, .vec 4 15 n1 0 k1]] (Is (.vec 5 14 (r_.2.1.map blkP).length 0 r_.1) [.dead, .dead, .dead, .box [.zs, .zs], .box [.zs, .zs], .dead, .vec 5 (r_.2.2.1.map blkP), .vec 4 (wV.map vtP), .map (entsOf idP (fun v => .p (.int .i64 v)) r_.2.2.2.1), .map (entsOf vtP (fun v => .p (.bool v)) hm), .box [.vec 5 6 (r_.2.2.1.map blkP).length 0 (r_.2.2.1.map blkP).length, .vec 4 7 (wV.map vtP).length 0 (wV.map vtP).length, .map 8, .map 9, .p (.int .i64 upto), .p (.bool r_.2.2.2.2)], .dead, .dead, .dead, .vec 5 (r_.2.1.map blkP), .vec 4 (lV.map vtP), .box [.vec 5 14 n0 0 k0, .vec 4 15 n1 0 k1]]) := by
 refine LC.start Tryz.func155 Z Z Z ?_
 unfold F137 at hr
 refine zQ (zR (zM Z (zN (zT (zQ (zR (zM Z (zM Z (zb hr fun v1 h_v1 hr => zS Z Z Z (zC Z Z Z (by kernel_rfl) (cF160 h_v1)) (zM Z (zN (zT (zQ (zQ (zR (zM Z (zS Z Z Z (LOp.bin Z Z Z Z) (zN (zT ?_)))))))))))))))))))
 refine zX Z (fun g1 => ?_) (fun g1 => ?_)
 ·
  refine zi g1 hr fun hr => zQ (zR (zM Z (zM Z (zN (zT (LW.ret (thn_r ?_)))))))
  obtain rfl := zJ hr
  refine fin_ret (.one (.tmp Z)) ?_
  exact ⟨rfl, rfl⟩
 ·
  refine zo g1 hr fun hr => LW.skip (zT (zQ (zQ (zR (zM Z (zS Z Z Z (LOp.bin Z Z Z Z) (zM Z (zN (zT ?_)))))))))
  obtain ⟨v2, hb_v2, ho_v2⟩ := zB hr
  clear hr
  refine LW.tail (E := [(0, .vec 5 14 (v2.o14.map blkP).length 0 kk), (4, .zs), (5, .p (.int .i64 v2.i))]) (O := [.dead, .dead, .dead, .box [.zs, .zs], .box [.zs, .zs], .dead, .vec 5 (v2.o6.map blkP), .vec 4 (wV.map vtP), .map (entsOf idP (fun v => .p (.int .i64 v)) v2.o8), .map (entsOf vtP (fun v => .p (.bool v)) hm), .box [.vec 5 6 (v2.o6.map blkP).length 0 (v2.o6.map blkP).length, .vec 4 7 (wV.map vtP).length 0 (wV.map vtP).length, .map 8, .map 9, .p (.int .i64 upto), .p (.bool v2.o10_5)], .dead, .dead, .dead, .vec 5 (v2.o14.map blkP), .vec 4 (lV.map vtP), .box [.vec 5 14 n0 0 k0, .vec 4 15 n1 0 k1]]) ?_ (fun env_v2 H_v2 hw_v2 => ?_)
  ·refine LW.block ?_
   refine LW.iterB (E := fun x1 : F137_L1 => [(0, .vec 5 14 (x1.o14.map blkP).length 0 kk), (1, .fn 153 [.ptr 10 0] []), (4, .zs), (5, .p (.int .i64 x1.i)), (6, .p (.int .i64 x1.j))]) (O := fun x1 => [.dead, .dead, .dead, .box [.zs, .zs], .box [.zs, .zs], .dead, .vec 5 (x1.o6.map blkP), .vec 4 (wV.map vtP), .map (entsOf idP (fun v => .p (.int .i64 v)) x1.o8), .map (entsOf vtP (fun v => .p (.bool v)) hm), .box [.vec 5 6 (x1.o6.map blkP).length 0 (x1.o6.map blkP).length, .vec 4 7 (wV.map vtP).length 0 (wV.map vtP).length, .map 8, .map 9, .p (.int .i64 upto), .p (.bool x1.o10_5)], .dead, .dead, .dead, .vec 5 (x1.o14.map blkP), .vec 4 (lV.map vtP), .box [.vec 5 14 n0 0 k0, .vec 4 15 n1 0 k1]]) hb_v2 (zW 17 ⟨rfl, rfl, rfl, rfl, rfl, trivial⟩ Z Z Z (zL Z (zL Z (zL Z (zL Z (zL Z (zL Z (zL Z (zL Z (zL (entsLow (fun _ => rfl) _) (zL (entsLow (fun _ => rfl) _) (zL Z (zL Z (zL Z (zL Z (zL Z (zL Z (zL Z Z)))))))))))))))))) (fun x1 z_x1 hr hb_x1 => ?_)
   unfold F137_s1 at hr
   refine zQ (zQ (zR (zM Z (zM Z (zS Z Z Z (LOp.lenVP Z Z Z (by kernel_rfl)) (zS Z Z Z (LOp.bin Z Z Z Z) (zN (zT ?_))))))))
   refine zX Z (fun g2 => ?_) (fun g2 => ?_)
   ·
    refine zi g2 hr fun hr => LW.skip (zT (zQ (LW.block (zQ (zR (zM Z (zM Z (zb hr fun y1 h_y1 hr => zS Z Z Z (LOp.indexAddrVP Z Z Z Z st27 h_y1) (zS Z Z Z (LOp.loadVX Z Z Z vt42 (ix_take h_y1).1 Z Z Z Z) (zS Z Z Z (LOp.alloc Z zt42 Z Z) (zS Z Z Z (LOp.store Z Z Z Z vt42 Z Z Z Z) (zN (zT (zQ (zR (zM Z (zS Z Z Z (zD Z Z Z vt42 Z Z) (zb hr fun v3 h_v3 hr => ?_))))))))))))))))))
    refine zS Z Z Z (zC Z Z Z (by kernel_rfl) (LC.pre (cF135 h_v3) Z (zL Z (zL Z (zL Z (zL Z (zL Z (zL Z (zL Z (zL Z (zL (entsLow (fun _ => rfl) _) (zL (entsLow (fun _ => rfl) _) (zL Z (zL Z (zL Z (zL Z (zL Z (zL Z (zL Z Z))))))))))))))))) Z)) ?_
    refine zS Z Z Z (LOp.not Z Z) (zN (zT ?_))
    refine zX Z (fun g3 => ?_) (fun g3 => ?_)
    ·
     refine zi g3 hr fun hr => zQ (zR (zM Z (zM Z (zS Z Z Z (zD Z Z Z vt42 Z Z) (zb hr fun y2 h_y2 hr => zS Z Z Z (LOp.indexAddrVP Z Z Z Z st27 h_y2) ?_)))))
     refine zS Z Z Z (LOp.storeVP (f := blkP) (l := x1.o14) y1 Z Z Z Z vt42 (fun _ => rfl) (ix_take h_y2).1 Z Z Z Z Z Z Z) ?_
     refine zN (zT (zR (zM Z (zS Z Z Z (LOp.bin Z Z Z Z) (zM Z (zN (inBlk_n (zT (zR (zM Z (zS Z Z Z (LOp.bin Z Z Z Z) (zM Z (zN (zT ?_))))))))))))))
     obtain rfl := zJ hr
     exact ⟨_, rfl, zW 17 ⟨(pset (rfl)), rfl, rfl, rfl, rfl, trivial⟩ Z Z Z (zL Z (zL Z (zL Z (zL Z (zL Z (zL Z (zL Z (zL Z (zL (entsLow (fun _ => rfl) _) (zL (entsLow (fun _ => rfl) _) (zL Z (zL Z (zL Z (zL Z (zL Z (zL Z (zL Z Z)))))))))))))))))⟩
    ·
     refine zo g3 hr fun hr => LW.skip (inBlk_n (zT (zR (zM Z (zS Z Z Z (LOp.bin Z Z Z Z) (zM Z (zN (zT ?_))))))))
     obtain rfl := zJ hr
     exact ⟨_, rfl, zW 17 ⟨rfl, rfl, rfl, rfl, rfl, trivial⟩ Z Z Z (zL Z (zL Z (zL Z (zL Z (zL Z (zL Z (zL Z (zL Z (zL (entsLow (fun _ => rfl) _) (zL (entsLow (fun _ => rfl) _) (zL Z (zL Z (zL Z (zL Z (zL Z (zL Z (zL Z Z)))))))))))))))))⟩
   ·
    refine zo g2 hr fun hr => LW.exit (thn_e (thn_e (inBlk_self (zT ?_))))
    obtain rfl := zJ hr
    have hr := congrArg some (hb_x1 _ rfl)
    obtain rfl := zJ hr
    exact zW 17 ⟨Z, Z, Z, trivial⟩ Z Z Z (zL Z (zL Z (zL Z (zL Z (zL Z (zL Z (zL Z (zL Z (zL (entsLow (fun _ => rfl) _) (zL (entsLow (fun _ => rfl) _) (zL Z (zL Z (zL Z (zL Z (zL Z (zL Z (zL Z Z)))))))))))))))))
  ·have hr := ho_v2
   clear hb_v2
   refine zT (LW.weak hw_v2 (zQ (zR (zM Z (zM Z (zg hr fun q1 hr => zS Z Z Z (LOp.sliceVLo Z Z Z Z st27 q1) (zg hr fun q2 hr => ?_)))))))
   refine zS Z Z Z (LOp.clearVP (f := blkP) (zs := [.int .i64 0, .int .i64 0, .int .u64 0, .int .u64 0, .int .u64 0]) (Bk.mk 0 0 (0, 0) 0) Z Z Z st27 (fun _ => rfl) (by kernel_rfl) Z q2 Z) ?_
   refine zN (zT (zQ (LW.ent (Ent.vlen (t := 0) (n' := ((clrL v2.o14 v2.i.toNat (kk - v2.i.toNat) (Bk.mk 0 0 (0, 0) 0)).map blkP).length) Z (clr_len q2)) (zR (zM Z (zM Z (zg hr fun q3 hr => zS Z Z Z (LOp.sliceVHi Z Z Z Z st27 q3) (zM Z (zN (zT (LW.ret ?_)))))))))))
   obtain rfl := zJ hr
   refine fin_ret (.one (.tmp Z)) ?_
   exact ⟨rfl, rfl⟩
structure F158_L1 where
 t8 : Int
 o7 : List Vt
 o9 : List (Vt × Bool)
 o10_5 : Bool
def F158_s1 (lV : List Vt) (kk : Nat) (sm : List (ID × Int)) (upto : Int) (x1 : F158_L1) : Option (F158_L1 ⊕ (F158_L1 ⊕ (Int × List Vt × List (Vt × Bool) × Bool))) :=
 bif decide (x1.t8 < (kk : Int)) then
  (ix (lV.take kk) x1.t8).bind fun y1 =>
  (F136 y1 x1.o7 sm x1.o9 upto x1.o10_5).bind fun v2 =>
  bif v2.1 then
   some (.inr (.inr (x1.t8, v2.2.1, v2.2.2.1, v2.2.2.2)))
  else
   some (.inl (F158_L1.mk (IntKind.i64.wrap (x1.t8 + 1)) v2.2.1 v2.2.2.1 v2.2.2.2))
 else
  some (.inr (.inl (F158_L1.mk x1.t8 x1.o7 x1.o9 x1.o10_5)))
def F158 (lV : List Vt) (kk : Nat) (wV : List Vt) (sm : List (ID × Int)) (hm : List (Vt × Bool)) (upto : Int) (full : Bool) : Option (Int × List Vt × List (Vt × Bool) × Bool) :=
 (iter (F158_s1 lV kk sm upto) big (F158_L1.mk 0 wV hm full)).bind fun b_v1 => Sum.elim (fun v1 =>
  some ((-1), v1.o7, v1.o9, v1.o10_5)) some b_v1
set_option maxRecDepth 100000 in
theorem cF158 {lV : List Vt} {kk : Nat} {wB : List Bk} {wV : List Vt} {sm : List (ID × Int)} {hm : List (Vt × Bool)} {upto : Int} {full : Bool} {lB : List Bk} {n0 : Nat} {k0 : Nat} {n1 : Nat} {k1 : Nat} {r_ : Int × List Vt × List (Vt × Bool) × Bool} (hr : F158 lV kk wV sm hm upto full = some r_) : LC Tryz.prog 92 [.vec 4 15 (lV.map vtP).length 0 kk, .fn 154 [.ptr 10 0] []] [.dead, .dead, .dead, .box [.zs, .zs], .box [.zs, .zs], .dead, .vec 5 (wB.map blkP), .vec 4 (wV.map vtP), .map (entsOf idP (fun v => .p (.int .i64 v)) sm), .map (entsOf vtP (fun v => .p (.bool v)) hm), .box [.vec 5 6 (wB.map blkP).length 0 (wB.map blkP).length, .vec 4 7 (wV.map vtP).length 0 (wV.map vtP).length, .map 8, .map 9, .p (.int .i64 upto), .p (.bool full)], .dead, .dead, .dead, .vec 5 (lB.map blkP), .vec 4 (lV.map vtP), .box [.vec 5 14 n0 0 k0, .vec 4 15 n1 0 k1]] (Is (.p (.int .i64 r_.1)) [.dead, .dead, .dead, .box [.zs, .zs], .box [.zs, .zs], .dead, .vec 5 (wB.map blkP), .vec 4 (r_.2.1.map vtP), .map (entsOf idP (fun v => .p (.int .i64 v)) sm), .map (entsOf vtP (fun v => .p (.bool v)) r_.2.2.1), .box [.vec 5 6 (wB.map blkP).length 0 (wB.map blkP).length, .vec 4 7 (r_.2.1.map vtP).length 0 (r_.2.1.map vtP).length, .map 8, .map 9, .p (.int .i64 upto), .p (.bool r_.2.2.2)], .dead, .dead, .dead, .vec 5 (lB.map blkP), .vec 4 (lV.map vtP), .box [.vec 5 14 n0 0 k0, .vec 4 15 n1 0 k1]]) := by
 refine LC.start Tryz.func92 Z Z Z ?_
 unfold F158 at hr
 refine zQ (zR (zM Z (zN (zT (zQ (zQ (zR (zM Z (zS Z Z Z (LOp.lenVP Z Z Z (by kernel_rfl)) (zM Z (zN (zT ?_))))))))))))
 obtain ⟨b_v1, hb_v1, ho_v1⟩ := zB hr
 clear hr
 refine LW.tailB (b := b_v1) (E := fun v1 => [(4, .p (.int .i64 0))]) (O := fun v1 => [.dead, .dead, .dead, .box [.zs, .zs], .box [.zs, .zs], .dead, .vec 5 (wB.map blkP), .vec 4 (v1.o7.map vtP), .map (entsOf idP (fun v => .p (.int .i64 v)) sm), .map (entsOf vtP (fun v => .p (.bool v)) v1.o9), .box [.vec 5 6 (wB.map blkP).length 0 (wB.map blkP).length, .vec 4 7 (v1.o7.map vtP).length 0 (v1.o7.map vtP).length, .map 8, .map 9, .p (.int .i64 upto), .p (.bool v1.o10_5)], .dead, .dead, .dead, .vec 5 (lB.map blkP), .vec 4 (lV.map vtP), .box [.vec 5 14 n0 0 k0, .vec 4 15 n1 0 k1]]) ?_ (fun v1 e_v1 env_v1 H_v1 hw_v1 => ?_)
 ·refine LW.block ?_
  refine LW.iterB (E := fun x1 : F158_L1 => [(0, .vec 4 15 (lV.map vtP).length 0 kk), (1, .fn 154 [.ptr 10 0] []), (4, .p (.int .i64 0)), (7, .p (.int .i64 (kk : Int))), (8, .p (.int .i64 x1.t8))]) (O := fun x1 => [.dead, .dead, .dead, .box [.zs, .zs], .box [.zs, .zs], .dead, .vec 5 (wB.map blkP), .vec 4 (x1.o7.map vtP), .map (entsOf idP (fun v => .p (.int .i64 v)) sm), .map (entsOf vtP (fun v => .p (.bool v)) x1.o9), .box [.vec 5 6 (wB.map blkP).length 0 (wB.map blkP).length, .vec 4 7 (x1.o7.map vtP).length 0 (x1.o7.map vtP).length, .map 8, .map 9, .p (.int .i64 upto), .p (.bool x1.o10_5)], .dead, .dead, .dead, .vec 5 (lB.map blkP), .vec 4 (lV.map vtP), .box [.vec 5 14 n0 0 k0, .vec 4 15 n1 0 k1]]) hb_v1 (zW 17 ⟨rfl, rfl, rfl, rfl, rfl, trivial⟩ Z Z Z (zL Z (zL Z (zL Z (zL Z (zL Z (zL Z (zL Z (zL Z (zL (entsLow (fun _ => rfl) _) (zL (entsLow (fun _ => rfl) _) (zL Z (zL Z (zL Z (zL Z (zL Z (zL Z (zL Z Z)))))))))))))))))) (fun x1 z_x1 hr hb_x1 => ?_)
  unfold F158_s1 at hr
  refine zQ (zR (zS Z Z Z (LOp.bin Z Z Z Z) (zN (zT (zQ ?_)))))
  refine zX Z (fun g1 => ?_) (fun g1 => ?_)
  ·
   refine zi g1 hr fun hr => LW.skip (zT (zQ (LW.block (zQ (zR (zM Z (zM Z (zN (zT (zQ (zR (zM Z (zM Z (zM Z (zb hr fun y1 h_y1 hr => zS Z Z Z (LOp.indexAddrVP Z Z Z Z st68 h_y1) (zS Z Z Z (LOp.loadVX Z Z Z vt82 (ix_take h_y1).1 Z Z Z Z) (zb hr fun v2 h_v2 hr => zS Z Z Z (zC Z Z Z (by kernel_rfl) (cF136 h_v2)) (zN (zT ?_)))))))))))))))))))
   refine zX Z (fun g2 => ?_) (fun g2 => ?_)
   ·
    refine zi g2 hr fun hr => zQ (zR (zM Z (zM Z (zN (zT (LW.ret (inBlk_r (thn_r (thn_r (inBlk_r (thn_r (thn_r ?_))))))))))))
    obtain rfl := zJ hr
    have hr := congrArg some (hb_x1 _ rfl)
    obtain rfl := zJ hr
    have hr := sum_r ho_v1
    obtain rfl := zJ hr
    refine fin_ret (.one (.tmp Z)) ?_
    exact ⟨rfl, rfl⟩
   ·
    refine zo g2 hr fun hr => LW.skip (inBlk_n (zT (zR (zS Z Z Z (LOp.bin Z Z Z Z) (zM Z (zN (zT ?_)))))))
    obtain rfl := zJ hr
    exact ⟨_, rfl, zW 17 ⟨rfl, rfl, rfl, rfl, rfl, trivial⟩ Z Z Z (zL Z (zL Z (zL Z (zL Z (zL Z (zL Z (zL Z (zL Z (zL (entsLow (fun _ => rfl) _) (zL (entsLow (fun _ => rfl) _) (zL Z (zL Z (zL Z (zL Z (zL Z (zL Z (zL Z Z)))))))))))))))))⟩
  ·
   refine zo g1 hr fun hr => LW.exit (thn_e (thn_e (inBlk_self (zT ?_))))
   obtain rfl := zJ hr
   have hr := congrArg some (hb_x1 _ rfl)
   obtain rfl := zJ hr
   exact ⟨_, rfl, zW 17 ⟨rfl, trivial⟩ Z Z Z (zL Z (zL Z (zL Z (zL Z (zL Z (zL Z (zL Z (zL Z (zL (entsLow (fun _ => rfl) _) (zL (entsLow (fun _ => rfl) _) (zL Z (zL Z (zL Z (zL Z (zL Z (zL Z (zL Z Z)))))))))))))))))⟩
 ·obtain rfl := e_v1
  have hr := sum_l ho_v1
  clear hb_v1
  refine zT (LW.weak hw_v1 (zQ (zR (zM Z (zN (zT (LW.ret ?_)))))))
  obtain rfl := zJ hr
  refine fin_ret (.one (.tmp Z)) ?_
  exact ⟨rfl, rfl⟩
structure F138_L1 where
 i : Int
 j : Int
 o7 : List Vt
 o9 : List (Vt × Bool)
 o10_5 : Bool
 o15 : List Vt
def F138_s1 (kk : Nat) (sm : List (ID × Int)) (upto : Int) (x1 : F138_L1) : Option (F138_L1 ⊕ F138_L1) :=
 bif decide (x1.j < (kk : Int)) then
  (ix (x1.o15.take kk) x1.j).bind fun y1 =>
  (F136 y1 x1.o7 sm x1.o9 upto x1.o10_5).bind fun v3 =>
  bif !v3.1 then
   (ix (x1.o15.take kk) x1.i).bind fun _ =>
   some (.inl (F138_L1.mk (IntKind.i64.wrap (x1.i + 1)) (IntKind.i64.wrap (x1.j + 1)) v3.2.1 v3.2.2.1 v3.2.2.2 (x1.o15.set x1.i.toNat y1)))
  else
   some (.inl (F138_L1.mk x1.i (IntKind.i64.wrap (x1.j + 1)) v3.2.1 v3.2.2.1 v3.2.2.2 x1.o15))
 else
  some (.inr (F138_L1.mk x1.i x1.j x1.o7 x1.o9 x1.o10_5 x1.o15))
def F138 (lV : List Vt) (kk : Nat) (wV : List Vt) (sm : List (ID × Int)) (hm : List (Vt × Bool)) (upto : Int) (full : Bool) : Option (Nat × List Vt × List Vt × List (Vt × Bool) × Bool) :=
 (F158 lV kk wV sm hm upto full).bind fun v1 =>
 bif v1.1 == (-1) then
  some (kk, lV, v1.2.1, v1.2.2.1, v1.2.2.2)
 else
  (iter (F138_s1 kk sm upto) big (F138_L1.mk v1.1 (IntKind.i64.wrap (v1.1 + 1)) v1.2.1 v1.2.2.1 v1.2.2.2 lV)).bind fun v2 =>
  bif decide (0 ≤ v2.i ∧ v2.i ≤ (kk : Int)) then
   bif decide (v2.i.toNat + (kk - v2.i.toNat) ≤ v2.o15.length) then
    bif decide (0 ≤ v2.i ∧ v2.i ≤ (kk : Int)) then
     some (v2.i.toNat, clrL v2.o15 v2.i.toNat (kk - v2.i.toNat) (Vt.mk 0 0 (0, 0)), v2.o7, v2.o9, v2.o10_5)
    else none
   else none
  else none
set_option maxRecDepth 100000 in
theorem cF138 {lV : List Vt} {kk : Nat} {wB : List Bk} {wV : List Vt} {sm : List (ID × Int)} {hm : List (Vt × Bool)} {upto : Int} {full : Bool} {lB : List Bk} {n0 : Nat} {k0 : Nat} {n1 : Nat} {k1 : Nat} {r_ : Nat × List Vt × List Vt × List (Vt × Bool) × Bool} (hr : F138 lV kk wV sm hm upto full = some r_) : LC Tryz.prog 137 [.vec 4 15 (lV.map vtP).length 0 kk, .fn 154 [.ptr 10 0] []] [.dead, .dead, .dead, .box [.zs, .zs], .box [.zs, .zs], .dead, .vec 5 (wB.map blkP), .vec 4 (wV.map vtP), .map (entsOf idP (fun v => .p (.int .i64 v)) sm), .map (entsOf vtP (fun v => .p (.bool v)) hm), .box [.vec 5 6 (wB.map blkP).length 0 (wB.map blkP).length, .vec 4 7 (wV.map vtP).length 0 (wV.map vtP).length, .map 8, .map 9, .p (.int .i64 upto), .p (.bool full)], .dead, .dead, .dead, .vec 5 (lB.map blkP), .vec 4 (lV.map vtP), .box [.vec 5 14 n0 0 k0, .vec 4 15 n1 0 k1]] (Is (.vec 4 15 (r_.2.1.map vtP).length 0 r_.1) [.dead, .dead, .dead, .box [.zs, .zs], .box [.zs, .zs], .dead, .vec 5 (wB.map blkP), .vec 4 (r_.2.2.1.map vtP), .map (entsOf idP (fun v => .p (.int .i64 v)) sm), .map (entsOf vtP (fun v => .p (.bool v)) r_.2.2.2.1), .box [.vec 5 6 (wB.map blkP).length 0 (wB.map blkP).length, .vec 4 7 (r_.2.2.1.map vtP).length 0 (r_.2.2.1.map vtP).length, .map 8, .map 9, .p (.int .i64 upto), .p (.bool r_.2.2.2.2)], .dead, .dead, .dead, .vec 5 (lB.map blkP), .vec 4 (r_.2.1.map vtP), .box [.vec 5 14 n0 0 k0, .vec 4 15 n1 0 k1]]) := by
 refine LC.start Tryz.func137 Z Z Z ?_
 unfold F138 at hr
 refine zQ (zR (zM Z (zN (zT (zQ (zR (zM Z (zM Z (zb hr fun v1 h_v1 hr => zS Z Z Z (zC Z Z Z (by kernel_rfl) (cF158 h_v1)) (zM Z (zN (zT (zQ (zQ (zR (zM Z (zS Z Z Z (LOp.bin Z Z Z Z) (zN (zT ?_)))))))))))))))))))
 refine zX Z (fun g1 => ?_) (fun g1 => ?_)
 ·
  refine zi g1 hr fun hr => zQ (zR (zM Z (zM Z (zN (zT (LW.ret (thn_r ?_)))))))
  obtain rfl := zJ hr
  refine fin_ret (.one (.tmp Z)) ?_
  exact ⟨rfl, rfl⟩
 ·
  refine zo g1 hr fun hr => LW.skip (zT (zQ (zQ (zR (zM Z (zS Z Z Z (LOp.bin Z Z Z Z) (zM Z (zN (zT ?_)))))))))
  obtain ⟨v2, hb_v2, ho_v2⟩ := zB hr
  clear hr
  refine LW.tail (E := [(0, .vec 4 15 (v2.o15.map vtP).length 0 kk), (4, .zs), (5, .p (.int .i64 v2.i))]) (O := [.dead, .dead, .dead, .box [.zs, .zs], .box [.zs, .zs], .dead, .vec 5 (wB.map blkP), .vec 4 (v2.o7.map vtP), .map (entsOf idP (fun v => .p (.int .i64 v)) sm), .map (entsOf vtP (fun v => .p (.bool v)) v2.o9), .box [.vec 5 6 (wB.map blkP).length 0 (wB.map blkP).length, .vec 4 7 (v2.o7.map vtP).length 0 (v2.o7.map vtP).length, .map 8, .map 9, .p (.int .i64 upto), .p (.bool v2.o10_5)], .dead, .dead, .dead, .vec 5 (lB.map blkP), .vec 4 (v2.o15.map vtP), .box [.vec 5 14 n0 0 k0, .vec 4 15 n1 0 k1]]) ?_ (fun env_v2 H_v2 hw_v2 => ?_)
  ·refine LW.block ?_
   refine LW.iterB (E := fun x1 : F138_L1 => [(0, .vec 4 15 (x1.o15.map vtP).length 0 kk), (1, .fn 154 [.ptr 10 0] []), (4, .zs), (5, .p (.int .i64 x1.i)), (6, .p (.int .i64 x1.j))]) (O := fun x1 => [.dead, .dead, .dead, .box [.zs, .zs], .box [.zs, .zs], .dead, .vec 5 (wB.map blkP), .vec 4 (x1.o7.map vtP), .map (entsOf idP (fun v => .p (.int .i64 v)) sm), .map (entsOf vtP (fun v => .p (.bool v)) x1.o9), .box [.vec 5 6 (wB.map blkP).length 0 (wB.map blkP).length, .vec 4 7 (x1.o7.map vtP).length 0 (x1.o7.map vtP).length, .map 8, .map 9, .p (.int .i64 upto), .p (.bool x1.o10_5)], .dead, .dead, .dead, .vec 5 (lB.map blkP), .vec 4 (x1.o15.map vtP), .box [.vec 5 14 n0 0 k0, .vec 4 15 n1 0 k1]]) hb_v2 (zW 17 ⟨rfl, rfl, rfl, rfl, rfl, trivial⟩ Z Z Z (zL Z (zL Z (zL Z (zL Z (zL Z (zL Z (zL Z (zL Z (zL (entsLow (fun _ => rfl) _) (zL (entsLow (fun _ => rfl) _) (zL Z (zL Z (zL Z (zL Z (zL Z (zL Z (zL Z Z)))))))))))))))))) (fun x1 z_x1 hr hb_x1 => ?_)
   unfold F138_s1 at hr
   refine zQ (zQ (zR (zM Z (zM Z (zS Z Z Z (LOp.lenVP Z Z Z (by kernel_rfl)) (zS Z Z Z (LOp.bin Z Z Z Z) (zN (zT ?_))))))))
   refine zX Z (fun g2 => ?_) (fun g2 => ?_)
   ·
    refine zi g2 hr fun hr => LW.skip (zT (zQ (LW.block (zQ (zR (zM Z (zM Z (zb hr fun y1 h_y1 hr => zS Z Z Z (LOp.indexAddrVP Z Z Z Z st68 h_y1) (zS Z Z Z (LOp.loadVX Z Z Z vt82 (ix_take h_y1).1 Z Z Z Z) (zS Z Z Z (LOp.alloc Z zt82 Z Z) (zS Z Z Z (LOp.store Z Z Z Z vt82 Z Z Z Z) (zN (zT (zQ (zR (zM Z (zS Z Z Z (zD Z Z Z vt82 Z Z) (zb hr fun v3 h_v3 hr => ?_))))))))))))))))))
    refine zS Z Z Z (zC Z Z Z (by kernel_rfl) (LC.pre (cF136 h_v3) Z (zL Z (zL Z (zL Z (zL Z (zL Z (zL Z (zL Z (zL Z (zL (entsLow (fun _ => rfl) _) (zL (entsLow (fun _ => rfl) _) (zL Z (zL Z (zL Z (zL Z (zL Z (zL Z (zL Z Z))))))))))))))))) Z)) ?_
    refine zS Z Z Z (LOp.not Z Z) (zN (zT ?_))
    refine zX Z (fun g3 => ?_) (fun g3 => ?_)
    ·
     refine zi g3 hr fun hr => zQ (zR (zM Z (zM Z (zS Z Z Z (zD Z Z Z vt82 Z Z) (zb hr fun y2 h_y2 hr => zS Z Z Z (LOp.indexAddrVP Z Z Z Z st68 h_y2) ?_)))))
     refine zS Z Z Z (LOp.storeVP (f := vtP) (l := x1.o15) y1 Z Z Z Z vt82 (fun _ => rfl) (ix_take h_y2).1 Z Z Z Z Z Z Z) ?_
     refine zN (zT (zR (zM Z (zS Z Z Z (LOp.bin Z Z Z Z) (zM Z (zN (inBlk_n (zT (zR (zM Z (zS Z Z Z (LOp.bin Z Z Z Z) (zM Z (zN (zT ?_))))))))))))))
     obtain rfl := zJ hr
     exact ⟨_, rfl, zW 17 ⟨(pset (rfl)), rfl, rfl, rfl, rfl, trivial⟩ Z Z Z (zL Z (zL Z (zL Z (zL Z (zL Z (zL Z (zL Z (zL Z (zL (entsLow (fun _ => rfl) _) (zL (entsLow (fun _ => rfl) _) (zL Z (zL Z (zL Z (zL Z (zL Z (zL Z (zL Z Z)))))))))))))))))⟩
    ·
     refine zo g3 hr fun hr => LW.skip (inBlk_n (zT (zR (zM Z (zS Z Z Z (LOp.bin Z Z Z Z) (zM Z (zN (zT ?_))))))))
     obtain rfl := zJ hr
     exact ⟨_, rfl, zW 17 ⟨rfl, rfl, rfl, rfl, rfl, trivial⟩ Z Z Z (zL Z (zL Z (zL Z (zL Z (zL Z (zL Z (zL Z (zL Z (zL (entsLow (fun _ => rfl) _) (zL (entsLow (fun _ => rfl) _) (zL Z (zL Z (zL Z (zL Z (zL Z (zL Z (zL Z Z)))))))))))))))))⟩
   ·
    refine zo g2 hr fun hr => LW.exit (thn_e (thn_e (inBlk_self (zT ?_))))
    obtain rfl := zJ hr
    have hr := congrArg some (hb_x1 _ rfl)
    obtain rfl := zJ hr
    exact zW 17 ⟨Z, Z, Z, trivial⟩ Z Z Z (zL Z (zL Z (zL Z (zL Z (zL Z (zL Z (zL Z (zL Z (zL (entsLow (fun _ => rfl) _) (zL (entsLow (fun _ => rfl) _) (zL Z (zL Z (zL Z (zL Z (zL Z (zL Z (zL Z Z)))))))))))))))))
  ·have hr := ho_v2
   clear hb_v2
   refine zT (LW.weak hw_v2 (zQ (zR (zM Z (zM Z (zg hr fun q1 hr => zS Z Z Z (LOp.sliceVLo Z Z Z Z st68 q1) (zg hr fun q2 hr => ?_)))))))
   refine zS Z Z Z (LOp.clearVP (f := vtP) (zs := [.int .i64 0, .int .i64 0, .int .u64 0, .int .u64 0]) (Vt.mk 0 0 (0, 0)) Z Z Z st68 (fun _ => rfl) (by kernel_rfl) Z q2 Z) ?_
   refine zN (zT (zQ (LW.ent (Ent.vlen (t := 0) (n' := ((clrL v2.o15 v2.i.toNat (kk - v2.i.toNat) (Vt.mk 0 0 (0, 0))).map vtP).length) Z (clr_len q2)) (zR (zM Z (zM Z (zg hr fun q3 hr => zS Z Z Z (LOp.sliceVHi Z Z Z Z st68 q3) (zM Z (zN (zT (LW.ret ?_)))))))))))
   obtain rfl := zJ hr
   refine fin_ret (.one (.tmp Z)) ?_
   exact ⟨rfl, rfl⟩
structure Ac where
 Tick : Int
 To : Int
 Offer : Bool
 B : List Bk
 V : List Vt
structure Of where
 Slot : Int
 From : Int
 B : Bk
 V : Vw
def ofP (o : Of) : PV := .agg [.int .i64 o.Slot, .int .i64 o.From, .int .i64 o.B.Slot, .int .i64 o.B.From, .int .u64 o.B.Parent.1, .int .u64 o.B.Parent.2, .int .u64 o.B.Salt, .slice 5 (o.V.B.map blkP), .slice 4 (o.V.V.map vtP)]
structure Nd where
 No : Int
 Tick : Int
 V : Vw
 In : Vw
 O : List Of
 C : Cu
 Full : Bool
def ndP (n : Nd) : PV := .agg [.int .i64 n.No, .int .i64 n.Tick, .slice 5 (n.V.B.map blkP), .slice 4 (n.V.V.map vtP), .slice 5 (n.In.B.map blkP), .slice 4 (n.In.V.map vtP), .slice 9 (n.O.map ofP), .int .u64 n.C.ID.1, .int .u64 n.C.ID.2, .int .i64 n.C.Slot, .int .i64 n.C.Revoked, .bool n.Full]
structure Wd where
 C : Cf
 Bad : List Int
 Tick : Int
 N : List Nd
 O : List Of
structure Du where
 frm : Int
 slot : Int
 deriving DecidableEq
def duP (d : Du) : PV := .agg [.int .i64 d.frm, .int .i64 d.slot]
theorem duKey : KeyOk duP 2 true := ⟨fun a b => by
 obtain ⟨x, y⟩ := a
 obtain ⟨z, w⟩ := b
 simp only [duP, keyEq, eqCells2, Bool.and_true, Du.mk.injEq, Option.some.injEq]
 by_cases h1 : x = z <;> by_cases h2 : y = w <;> simp [h1, h2], fun _ => rfl⟩
def insV (v : Vt) : List Vt → List Vt
 | [] => [v]
 | x :: r => if v.From < x.From then v :: x :: r else x :: insV v r
def sortV : List Vt → List Vt
 | [] => []
 | v :: r => insV v (sortV r)
def RiseV (l : List Vt) : Prop := l.Pairwise fun a b => a.From ≤ b.From
theorem insV_perm (v : Vt) : ∀ l : List Vt, (insV v l).Perm (v :: l)
 | [] => .refl _
 | x :: r => by
  unfold insV
  split
  ·exact .refl _
  ·exact ((insV_perm v r).cons x).trans (.swap v x r)
theorem sortV_perm : ∀ l : List Vt, (sortV l).Perm l
 | [] => .refl _
 | v :: r => (insV_perm v (sortV r)).trans ((sortV_perm r).cons v)
theorem insV_rise {v : Vt} : ∀ {l : List Vt}, RiseV l → RiseV (insV v l)
 | [], _ => by simp [insV, RiseV]
 | x :: r, h => by
  have h2 := List.pairwise_cons.1 h
  unfold insV
  split
  ·rename_i hl
   exact List.pairwise_cons.2 ⟨fun y hy => by
    rcases List.mem_cons.1 hy with e | hy
    ·subst e; omega
    ·have := h2.1 y hy; omega, h⟩
  ·rename_i hl
   refine List.pairwise_cons.2 ⟨fun y hy => ?_, insV_rise h2.2⟩
   rcases List.mem_cons.1 ((insV_perm v r).mem_iff.1 hy) with e | hy
   ·subst e; omega
   ·exact h2.1 y hy
theorem sortV_rise : ∀ l : List Vt, RiseV (sortV l)
 | [] => .nil
 | _ :: r => insV_rise (sortV_rise r)
theorem rise_one : ∀ {a b : List Vt}, a.Perm b → RiseV a → RiseV b → (∀ x ∈ a, ∀ y ∈ a, x.From = y.From → x = y) → a = b
 | [], b, h, _, _, _ => (List.Perm.nil_eq h)
 | x :: r, b, h, ha, hb, hd => by
  cases b with
  | nil => exact absurd h.length_eq (by simp)
  | cons y s =>
   have ha2 := List.pairwise_cons.1 ha
   have hb2 := List.pairwise_cons.1 hb
   have hy : y ∈ x :: r := h.mem_iff.2 (.head _)
   have hx : x ∈ y :: s := h.mem_iff.1 (.head _)
   have e : x = y := by
    refine hd x (.head _) y hy ?_
    have h1 : x.From ≤ y.From := by
     rcases List.mem_cons.1 hy with e | hy
     ·rw [e]; omega
     ·exact ha2.1 y hy
    have h2 : y.From ≤ x.From := by
     rcases List.mem_cons.1 hx with e | hx
     ·rw [e]; omega
     ·exact hb2.1 x hx
    omega
   subst e
   rw [rise_one (List.Perm.cons_inv h) ha2.2 hb2.2 fun p hp q hq => hd p (.tail _ hp) q (.tail _ hq)]
theorem sortV_one {a b : List Vt} (h : a.Perm b) (hd : ∀ x ∈ a, ∀ y ∈ a, x.From = y.From → x = y) : sortV a = sortV b :=
 rise_one ((sortV_perm a).trans (h.trans (sortV_perm b).symm)) (sortV_rise a) (sortV_rise b) fun x hx y hy => hd x ((sortV_perm a).mem_iff.1 hx) y ((sortV_perm a).mem_iff.1 hy)
theorem sortV_of {a b : List Vt} (h : a.Perm b) (hb : RiseV b) (hd : ∀ x ∈ a, ∀ y ∈ a, x.From = y.From → x = y) : sortV a = b :=
 rise_one ((sortV_perm a).trans h) (sortV_rise a) hb fun x hx y hy => hd x ((sortV_perm a).mem_iff.1 hx) y ((sortV_perm a).mem_iff.1 hy)
def sortOk (l : List Vt) : Bool := decide (l.length ≤ 1000000 ∧ ∀ x ∈ l, ∀ y ∈ l, x.From = y.From → x = y)
open Go.Proofs
theorem ob {α β : Type} {x : α} {f : α → Option β} : (some x).bind f = f x := by
 have h : ∀ o : Option α, o = some x → o.bind f = f x := by intro o e; subst e; rfl
 exact h _ Z
theorem ct {α : Sort _} {x y : α} : (bif true then x else y) = x := by
 have h : ∀ b : Bool, b = true → (bif b then x else y) = x := by intro o e; subst e; rfl
 exact h _ Z
theorem cf {α : Sort _} {x y : α} : (bif false then x else y) = y := by
 have h : ∀ b : Bool, b = false → (bif b then x else y) = y := by intro o e; subst e; rfl
 exact h _ Z
theorem sl {α β γ : Type} {f : α → γ} {g : β → γ} {x : α} : Sum.elim f g (.inl x) = f x := by
 have h : ∀ s : α ⊕ β, s = .inl x → Sum.elim f g s = f x := by intro o e; subst e; rfl
 exact h _ Z
theorem sr {α β γ : Type} {f : α → γ} {g : β → γ} {x : β} : Sum.elim f g (.inr x) = g x := by
 have h : ∀ s : α ⊕ β, s = .inr x → Sum.elim f g s = g x := by intro o e; subst e; rfl
 exact h _ Z
theorem iter_inv {α β : Type} {step : α → Option (α ⊕ β)} (Inv : α → Prop) (m : α → Nat) (Post : β → Prop)
  (h : ∀ x, Inv x → (∃ y, step x = some (.inl y) ∧ Inv y ∧ m y < m x) ∨ ∃ b, step x = some (.inr b) ∧ Post b) : ∀ {n : Nat} {x : α}, Inv x → m x < n → ∃ b, iter step n x = some b ∧ Post b := by
 intro n
 induction n with
 | zero => intro x _ hn; omega
 | succ n ih =>
  intro x hx hn
  unfold iter
  rcases h x hx with ⟨y, h1, h2, h3⟩ | ⟨b, h1, h2⟩
  ·rw [h1]; exact ih h2 (by omega)
  ·rw [h1]; exact ⟨b, rfl, h2⟩
theorem ix_nat {α : Type} {l : List α} {n : Nat} {y : α} (h : l[n]? = some y) : ix l (n : Int) = some y := by
 unfold ix; rw [if_pos (by omega)]; simpa using h
theorem get_of {α : Type} {l : List α} {n : Nat} (h : n < l.length) : ∃ y, l[n]? = some y ∧ y ∈ l := ⟨l[n], List.getElem?_eq_getElem h, List.getElem_mem h⟩
theorem wrap_succ {n : Nat} (h : n < 4000000000) : IntKind.i64.wrap ((n : Int) + 1) = ((n + 1 : Nat) : Int) := by
 rw [wrapI (by omega) (by omega)]; omega
theorem room_ok {a b c : Nat} (h : a + b ≤ 1000000) (hc : c ≤ 1000) : room a b c = true := by
 have : (a + b) * (c + 1) ≤ 1000000 * 1001 := Nat.mul_le_mul h (by omega)
 exact decide_eq_true (by omega)
theorem big_gt {n : Nat} (h : n < 4000000000000000000) : n < big := by unfold big; omega
theorem eqID0 (a : ID) : ((a.1 == 0) && ((a.2 == 0) && true)) = decide (a = (0, 0)) := eqID a (0, 0)
theorem isListO {α : Type} {f : α → PV} {O : α → Prop} {T : TS} (hf : ∀ p, TIs T p → ∃ a, p = f a ∧ O a) : ∀ {xs : List PV}, (∀ x ∈ xs, TIs T x) → ∃ l : List α, xs = l.map f ∧ ∀ a ∈ l, O a
 | [], _ => ⟨[], rfl, fun a h => by simp at h⟩
 | x :: xs, h => by
  obtain ⟨a, rfl, ha⟩ := hf x (h x (.head _))
  obtain ⟨l, rfl, hl⟩ := isListO hf fun y hy => h y (.tail _ hy)
  exact ⟨a :: l, rfl, fun b hb => by
   cases hb with
   | head => exact ha
   | tail _ hb => exact hl b hb⟩
theorem isSliceO {α : Type} {f : α → PV} {O : α → Prop} {T : TS} {m : Nat} (hf : ∀ p, TIs T p → ∃ a, p = f a ∧ O a) {p : PV} (h : TIs (.slice m T) p) : ∃ l : List α, p = .slice m (l.map f) ∧ ∀ a ∈ l, O a := by
 cases h with
 | slice h =>
  obtain ⟨l, rfl, hl⟩ := isListO hf h
  exact ⟨l, rfl, hl⟩
def BkOk (b : Bk) : Prop := InKind .i64 b.Slot ∧ InKind .i64 b.From ∧ InKind .u64 b.Parent.1 ∧ InKind .u64 b.Parent.2 ∧ InKind .u64 b.Salt
def VtOk (v : Vt) : Prop := InKind .i64 v.From ∧ InKind .i64 v.Slot ∧ InKind .u64 v.Head.1 ∧ InKind .u64 v.Head.2
def IDOk (v : ID) : Prop := InKind .u64 v.1 ∧ InKind .u64 v.2
def CfOk (c : Cf) : Prop := (∀ w ∈ c.W, InKind .i64 w) ∧ InKind .u64 c.Seed ∧ InKind .i64 c.Epoch ∧ InKind .i64 c.Num ∧ InKind .i64 c.Den
def CuOk (c : Cu) : Prop := IDOk c.ID ∧ InKind .i64 c.Slot ∧ InKind .i64 c.Revoked
def VwOk (w : Vw) : Prop := (∀ b ∈ w.B, BkOk b) ∧ ∀ v ∈ w.V, VtOk v
theorem isBkO {p : PV} (h : TIs (.agg [.int .i64, .int .i64, .int .u64, .int .u64, .int .u64]) p) : ∃ c : Bk, p = blkP c ∧ BkOk c := by
 cases h with | agg h =>
 cases h with | cons a h => cases h with | cons b h => cases h with | cons c h => cases h with | cons d h => cases h with | cons e h =>
  cases h; cases a; cases b; cases c; cases d; cases e
  exact ⟨⟨_, _, (_, _), _⟩, rfl, by assumption, by assumption, by assumption, by assumption, by assumption⟩
theorem isVtO {p : PV} (h : TIs (.agg [.int .i64, .int .i64, .int .u64, .int .u64]) p) : ∃ c : Vt, p = vtP c ∧ VtOk c := by
 cases h with | agg h =>
 cases h with | cons a h => cases h with | cons b h => cases h with | cons c h => cases h with | cons d h =>
  cases h; cases a; cases b; cases c; cases d
  exact ⟨⟨_, _, (_, _)⟩, rfl, by assumption, by assumption, by assumption, by assumption⟩
theorem isIntO {k : IntKind} {f : Int → PV} (hf : ∀ n, f n = .int k n) {p : PV} (h : TIs (.int k) p) : ∃ n, p = f n ∧ InKind k n := by
 cases h with | int h => exact ⟨_, (hf _).symm, h⟩
theorem isInts {p : PV} (h : TIs (.slice 1 (.int .i64)) p) : ∃ l : List Int, p = .slice 1 (l.map i64P) ∧ ∀ a ∈ l, InKind .i64 a := isSliceO (fun _ h => isIntO (fun _ => rfl) h) h
theorem isCfO {p : PV} (h : TIs (.agg [.slice 1 (.int .i64), .int .u64, .int .i64, .int .i64, .int .i64]) p) : ∃ c : Cf, p = cfP c ∧ CfOk c := by
 cases h with | agg h =>
 cases h with | cons a h => cases h with | cons b h => cases h with | cons c h => cases h with | cons d h => cases h with | cons e h =>
  cases h
  obtain ⟨w, rfl, hw⟩ := isInts a
  cases b; cases c; cases d; cases e
  exact ⟨⟨w, _, _, _, _⟩, rfl, hw, by assumption, by assumption, by assumption, by assumption⟩
theorem isVwO {p : PV} (h : TIs (.agg [.slice 5 (.agg [.int .i64, .int .i64, .int .u64, .int .u64, .int .u64]), .slice 4 (.agg [.int .i64, .int .i64, .int .u64, .int .u64])]) p) : ∃ c : Vw, p = vwP c ∧ VwOk c := by
 cases h with | agg h =>
 cases h with | cons a h => cases h with | cons b h =>
  cases h
  obtain ⟨x, rfl, hx⟩ := isSliceO (fun _ h => isBkO h) a
  obtain ⟨y, rfl, hy⟩ := isSliceO (fun _ h => isVtO h) b
  exact ⟨⟨x, y⟩, rfl, hx, hy⟩
theorem few_of {l : List Bk} (h : l.length ≤ 1000) : few l = true := decide_eq_true h
section
variable {l : List Bk}
def findOf (l : List Bk) (id : ID) : Int := match places l with
 | none => -1
 | some m => (findE m id).getD (-1)
def slotOfB (l : List Bk) (id : ID) : Int × Bool := match places l with
 | none => (0, false)
 | some m => match findE m id with
  | none => (0, false)
  | some i => (slotIx l i, true)
def kidsOf (l : List Bk) (id : ID) : List ID := match places l with
 | none => []
 | some _ => (l.filter fun b => decide (b.Parent = id)).map nm
theorem F52_eq : F52 l = some (places l).isSome := by
 unfold F52
 cases h : places l <;> rfl
theorem known_ix {m : List (ID × Int)} (h : places l = some m) {id : ID} {i : Int} (hf : findE m id = some i) : (i = -1 ∧ id = (0, 0)) ∨ ∃ b, 0 ≤ i ∧ i < l.length ∧ l[i.toNat]? = some b ∧ nm b = id ∧ slotIx l i = b.Slot := by
 rcases (places_inv h).known _ _ hf with h1 | ⟨b, p, h0, h1, h2, h3, -⟩
 ·exact .inl h1
 ·exact .inr ⟨b, h0, h1, h2, h3, by simp [slotIx, h2, show ¬ i = -1 by omega]⟩
theorem filter_snoc {n : Nat} {y : Bk} (hy : l[n]? = some y) (id : ID) : ((l.take (n + 1)).filter fun b => decide (b.Parent = id)).map nm = ((l.take n).filter fun b => decide (b.Parent = id)).map nm ++ if y.Parent = id then [nm y] else [] := by
 rw [List.take_add_one, hy, List.filter_append, List.map_append]
 by_cases h : y.Parent = id <;> simp [h]
theorem kids_step {n : Nat} {y : Bk} {out : List ID} {id : ID} {v : ID} (hl : l.length ≤ 1000) (hn : n < l.length) (hy : l[n]? = some y) (ho : out.length ≤ n) (hv : nm y = v) :
  F46_s1 l id ⟨n, out⟩ = some (.inl ⟨IntKind.i64.wrap ((n : Int) + 1), out ++ if y.Parent = id then [v] else []⟩) := by
 simp only [F46_s1]
 rw [decide_eq_true (show (n : Int) < (l.length : Int) by omega), ix_nat hy]
 simp only [ct, ob, hv, eqID]
 rw [room_ok (by simp; omega) (by omega)]
 by_cases h : y.Parent = id
 ·rw [decide_eq_true h, if_pos h]; rfl
 ·rw [decide_eq_false h, if_neg h, List.append_nil]; rfl
theorem F46_eq (hl : l.length ≤ 1000) (id : ID) : F46 l id = some (kidsOf l id) := by
 simp only [F46, F52_eq, ob]
 unfold kidsOf
 cases h : places l with
 | none => rfl
 | some m =>
 simp only [Option.isSome_some, Bool.not_true, cf]
 have key := iter_inv (step := F46_s1 l id) (fun x => ∃ n : Nat, x.t13 = n ∧ n ≤ l.length ∧ x.out = ((l.take n).filter fun b => decide (b.Parent = id)).map nm)
  (fun x => l.length - x.t13.toNat) (fun b => b.out = (l.filter fun b => decide (b.Parent = id)).map nm) (by
   rintro ⟨i, out⟩ ⟨n, rfl, hn, ho⟩
   simp only at ho ⊢
   by_cases hlt : n < l.length
   case neg =>
    right
    refine ⟨⟨n, out⟩, ?_, ?_⟩
    ·simp only [F46_s1]; rw [decide_eq_false (by omega)]; rfl
    ·rw [ho, List.take_of_length_le (by omega)]
   obtain ⟨y, hy, -⟩ := get_of hlt
   left
   have hol : out.length ≤ n := by
    rw [ho, List.length_map]
    exact Nat.le_trans (List.length_filter_le _ _) (by simp; omega)
   refine ⟨_, kids_step hl hlt hy hol rfl, ⟨n + 1, wrap_succ (n := n) (by omega), by omega, ?_⟩, ?_⟩
   ·rw [filter_snoc hy, ← ho]
   ·simp only [wrap_succ (show n < 4000000000 by omega)]; omega) (x := ⟨0, []⟩) ⟨0, rfl, Nat.zero_le _, by simp⟩ (n := big) (big_gt (by simp only; omega))
 obtain ⟨b, hb, hpost⟩ := key
 simp only [hb, ob, hpost]
end
def mAt (l : List Bk) : Nat → List (ID × Int)
 | 0 => [((0, 0), -1)]
 | n + 1 => match l[n]? with
  | some b => mAt l n ++ [(nm b, (n : Int))]
  | none => mAt l n
theorem indexOf_snoc {a : List ID} {x id : ID} : indexOf (a ++ [x]) id = if 0 ≤ indexOf a id then indexOf a id else if x = id then a.length else -1 := by
 rcases indexOf_lt (l := a) (v := id) with ⟨h1, h2⟩ | ⟨i, h1, h2, h3⟩
 ·rw [if_neg (by omega)]
  by_cases hx : x = id
  ·subst hx
   rw [if_pos rfl]
   refine indexOf_at (i := a.length) (by simp) fun j hj e => h2 ?_
   rw [List.getElem?_append_left hj] at e
   exact List.mem_of_getElem? e
  ·rw [if_neg hx]
   refine indexOf_none fun j hj e => ?_
   have := List.mem_of_getElem? e
   simp only [List.mem_append, List.mem_singleton] at this
   rcases this with h | h
   ·exact h2 h
   ·exact hx h.symm
 ·rw [h1, if_pos (by omega)]
  have hi := (List.getElem?_eq_some_iff.1 h2).1
  refine indexOf_at (by rw [List.getElem?_append_left hi]; exact h2) fun j hj => ?_
  rw [List.getElem?_append_left (by omega)]; exact h3 j hj
theorem mAt_find {l : List Bk} (id : ID) : ∀ n, n ≤ l.length → findE (mAt l n) id = if id = (0, 0) then some (-1) else if 0 ≤ indexOf ((l.take n).map nm) id then some (indexOf ((l.take n).map nm) id) else none
 | 0, _ => by
  have : indexOf ((l.take 0).map nm) id = -1 := by simp [indexOf]
  simp only [mAt, findE, this]
  by_cases h : id = (0, 0)
  ·subst h; simp
  ·rw [if_neg (fun e => h e.symm), if_neg h, if_neg (by omega)]
 | n + 1, hn => by
  obtain ⟨b, hb, -⟩ := get_of (l := l) (n := n) (by omega)
  have ih := mAt_find (l := l) id n (by omega)
  simp only [mAt, hb]
  rw [findE_append, ih, List.take_add_one, hb]
  simp only [Option.toList, List.map_append, List.map_cons, List.map_nil]
  rw [indexOf_snoc]
  by_cases h : id = (0, 0)
  ·rw [if_pos h, if_pos h]; rfl
  ·rw [if_neg h, if_neg h]
   by_cases h2 : 0 ≤ indexOf ((l.take n).map nm) id
   ·rw [if_pos h2, if_pos h2, if_pos h2]; rfl
   ·rw [if_neg h2, if_neg h2]
    by_cases h3 : nm b = id
    ·rw [if_pos h3, if_pos h3, if_pos (by omega)]
     simp; omega
    ·rw [if_neg h3, if_neg h3, if_neg (by omega)]; rfl
theorem mAt_slot {l : List Bk} {n : Nat} {id : ID} (h : 0 ≤ indexOf ((l.take n).map nm) id) : ∃ (j : Nat) (b : Bk), indexOf ((l.take n).map nm) id = j ∧ j < n ∧ l[j]? = some b ∧ nm b = id := by
 rcases indexOf_lt (l := (l.take n).map nm) (v := id) with ⟨h1, h2⟩ | ⟨i, h1, h2, h3⟩
 ·omega
 ·have hi := (List.getElem?_eq_some_iff.1 h2).1
  simp only [List.length_map, List.length_take] at hi
  rw [List.getElem?_map, List.getElem?_take_of_lt (by omega)] at h2
  cases hb : l[i]? with
  | none => rw [hb] at h2; simp at h2
  | some b => rw [hb] at h2; simp at h2; exact ⟨i, b, h1, by omega, hb, h2⟩
theorem places_mAt {l : List Bk} : ∀ (r n : Nat), l.length - n = r → n ≤ l.length → ∀ m, placesGo l (l.drop n) n (mAt l n) = some m → m = mAt l l.length := by
 intro r
 induction r with
 | zero =>
  intro n hr hn m h
  have : n = l.length := by omega
  subst this
  rw [List.drop_length] at h
  cases h; rfl
 | succ r ih =>
  intro n hr hn m h
  obtain ⟨y, hy, -⟩ := get_of (l := l) (n := n) (by omega)
  rw [placesGo_at hy] at h
  split at h
  ·cases h
  ·split at h
   ·cases h
   ·split at h
    ·cases h
    ·refine ih (n + 1) (by omega) (by omega) m ?_
     have e : mAt l (n + 1) = mAt l n ++ [(nm y, (n : Int))] := by simp only [mAt, hy]
     rw [e]; exact h
theorem places_is {l : List Bk} {m : List (ID × Int)} (h : places l = some m) : m = mAt l l.length := places_mAt l.length 0 (by omega) (Nat.zero_le _) m h
def Pl (n i : Int) : Prop := 1 ≤ n ∧ n ≤ 1000 ∧ 0 ≤ i ∧ i < n
instance (n i : Int) : Decidable (Pl n i) := inferInstanceAs (Decidable (_ ∧ _))
def rt (seed n i : Int) : Nat → Int
 | 0 => i
 | k + 1 => turnOf seed n k (rt seed n i k)
def toA (seed n i : Int) : Int := rt seed n i 10
theorem F101_eq (n i : Int) : F101 n i = some (decide (Pl n i)) := by
 unfold F101
 by_cases h1 : n > 0
 ·rw [decide_eq_true h1, ct]
  by_cases h2 : n ≤ 1000
  ·rw [decide_eq_true h2, ct]
   by_cases h3 : i ≥ 0
   ·rw [decide_eq_true h3, ct]
    congr 1
    exact decide_eq_decide.2 ⟨fun h => ⟨by omega, h2, h3, h⟩, fun h => h.2.2.2⟩
   ·rw [decide_eq_false h3, cf, decide_eq_false (fun h => h3 h.2.2.1)]
  ·rw [decide_eq_false h2, cf, decide_eq_false (fun h => h2 h.2.1)]
 ·rw [decide_eq_false h1, cf, decide_eq_false (fun h => h1 (by have := h.1; omega))]
theorem turnOk_of {n i r : Int} (h : Pl n i) (h0 : 0 ≤ r) (h1 : r < 10) : turnOk n r = true :=
 decide_eq_true ⟨by have := h.1; omega, by have := h.1; have := h.2.1; rw [wrapU (by omega) (by omega)]; omega, h0, h1⟩
theorem F102_eq {seed n i : Int} {d : Dk} (h : Pl n i) (hk0 : 0 ≤ d.k) (hk1 : d.k ≤ 100000) : ∃ d', F102 seed n i d = some (toA seed n i, d') ∧ d'.k = d.k + 10 := by
 have key := @iter_inv _ _ (F102_s1 seed n) (fun x => ∃ j : Nat, j ≤ 10 ∧ x.t6 = j ∧ x.i = rt seed n i j ∧ x.d.k = d.k + j) (fun x => 11 - x.t6.toNat) (fun b => b.i = toA seed n i ∧ b.d.k = d.k + 10) (by
  rintro ⟨a, t, dd⟩ ⟨j, hj, rfl, ha, hd⟩
  simp only at ha hd
  subst ha
  by_cases hlt : j < 10
  ·left
   refine ⟨_, by
    simp only [F102_s1]
    rw [decide_eq_true (show (j : Int) < 10 by omega), ct, turnOk_of h (by omega) (by omega), ct], ⟨j + 1, by omega, wrap_succ (n := j) (by omega), rfl, ?_⟩, ?_⟩
   ·show IntKind.i64.wrap (dd.k + 1) = _
    rw [hd, wrapI (by omega) (by omega)]; omega
   ·simp only [wrap_succ (show j < 4000000000 by omega)]; omega
  ·right
   obtain rfl : j = 10 := by omega
   exact ⟨_, rfl, rfl, hd⟩)
 obtain ⟨b, hb, h1, h2⟩ := key (n := big) (x := ⟨i, 0, d⟩) ⟨0, by omega, rfl, rfl, by simp⟩ (big_gt (by omega))
 refine ⟨b.d, ?_, h2⟩
 unfold F102
 rw [hb, ob, h1]
end Go.Mg
